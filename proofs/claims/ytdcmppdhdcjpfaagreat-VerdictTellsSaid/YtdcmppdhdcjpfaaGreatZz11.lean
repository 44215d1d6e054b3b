/- Lemmas for VerdictTellsP. -/
import Derived.Test.YtdcmppdhdcjpfaaGreatZz1
import Derived.Test.YtdcmppdhdcjpfaaGreatZz10
import Derived.Test.YtdcmppdhdcjpfaaGreatZz3
import Derived.Deep.RegionHeld3
import Derived.Sort.LoopGhostIn
set_option linter.unusedVariables false
set_option linter.unusedSimpArgs false
set_option maxRecDepth 100000
set_option maxHeartbeats 16000000
namespace Go.Proofs.YtdcmppdhdcjpfaaGreat
open Go.RowKit Go.Deep
attribute [local go_sem] Oper.semAt_some
structure KpX (X : Nat → Prop) (A B : World) : Prop where
 block : ∀ k o, ¬ X k → A.heap[k]? = some o → B.heap[k]? = some o
 size : A.heap.size ≤ B.heap.size
theorem KpX.trans {X : Nat → Prop} {A B C : World} (h : KpX X A B) (k : KpX X B C) : KpX X A C := ⟨fun i o hx ho => k.block i o hx (h.block i o hx ho), Li h.size k.size⟩
theorem KpX.refl (X : Nat → Prop) (A : World) : KpX X A A := ⟨fun _ _ _ h => h, Nat.le_refl _⟩
theorem KpX.of_below {X : Nat → Prop} {A B : World} (h : Below A.heap.size A B) : KpX X A B := ⟨fun k o _ ho => by rw [h.block k (Lj.1 ho).1]; exact ho, h.size⟩
theorem KpX.more {X Y : Nat → Prop} {A B : World} (h : KpX X A B) (hs : ∀ k, X k → Y k) : KpX Y A B := ⟨fun k o hx ho => h.block k o (fun hk => hx (hs k hk)) ho, h.size⟩
theorem KpX.row {X : Nat → Prop} {A B : World} (h : KpX X A B) {g : Nat} {t : TypeId} {cs : Array Value} (hr : Row A g t cs) (hx : ¬ X g) : Row B g t cs := h.block g _ hx hr
theorem KpX.keeps {X : Nat → Prop} {A B : World} (h : KpX X A B) {b : Nat} (hb : ∀ k, X k → k < b) : KeepsFrom b A B := ⟨h.size, fun k o hk ho _ => h.block k o (fun hx => by have := hb k hx; omega) ho⟩
theorem KpX.rd {X : Nat → Prop} {A B : World} (h : KpX X A B) {ad : Option Addr} {xs : List Value} (hr : Rd A ad xs) (hx : xs ≠ [] → ∀ a, ad = some a → ¬ X a.block) : Rd B ad xs := fun j u hj => by
 obtain ⟨a, e, i⟩ := hr j u hj;have d : xs ≠ [] := fun e => by rw [e] at hj; simp at hj
 have c := World.block_lt_of_cell? _ _ i;have b : (a.add j).block = a.block := JO a j;rw [b] at c;have g : A.heap[a.block]? = some A.heap[a.block] := NG c;have k := h.block _ _ (hx d a e) g;exact ⟨a, e, (World.cell?_of_block (by rw [b]; exact k.trans g.symm)).trans i⟩
structure PtX where
 to : Nat
 A : Option Addr
 cap : Nat
 l : List Int
def PtX.f (x : PtX) : Nat × List Int := (x.to, x.l)
def PtX.enc (x : PtX) : Array Value := #[.int .i64 (x.to : Int), .slice x.A x.l.length x.cap]
structure PtX.ok (x : PtX) (W : World) : Prop where
 rd : Rd W x.A (Qi x.l)
 nil : x.A = none → x.l = []
 len : x.l.length ≤ 2000
theorem PtX.ok.go {x : PtX} {W W' : World} (h : x.ok W) (b : Below W.heap.size W W') : x.ok W' := ⟨h.rd.go b, h.nil, h.len⟩
def PxP (lo : Nat) (full : List (Nat × List Int)) (pre : List PtX) (x : PtX) (W : World) : Prop := (x.ok W ∧ ∀ ad, x.A = some ad → lo ≤ ad.block) ∧ ∃ rest, pre.map PtX.f ++ x.f :: rest = full
def Ai6 (lo : Nat) (l : List Nd) (X : Nat → Prop) (ba bo bl : Nat) (own : List Int) (q : Nat) (t : Tr) (w : World) : Prop :=
 VK Tryz.prog 284 #[.pointer (some ⟨ba, 0, none⟩), .pointer (some ⟨bo, 0, none⟩), .pointer (some ⟨bl, 0, none⟩)] PtX.enc (fun _ => False) (fun lb => KpX (fun i => X i ∨ i = lb)) (PxP lo (Q0 own q t)) (fun xs => xs.map PtX.f = Q0 own q t) (fun _ => True) t.size True w
structure PathsC (lo : Nat) (A : Option Addr) (cap : Nat) (l : List Nd) (X : Nat → Prop) (ba bo bl : Nat) (oa : Option Addr) (oc : Nat) (own : List Int) (q : Nat) (w : World) : Prop where
 hr : Rd w A (l.flatMap Nd.cells)
 hA : l.flatMap Nd.cells ≠ [] → ∀ ad, A = some ad → ¬ X ad.block
 rl : Row w bl 23 #[.slice A l.length cap]
 ra : Row w ba 3 #[.int .i64 (q : Int)]
 ro : Row w bo 22 #[.slice oa own.length oc]
 xl : ¬ X bl
 xa : ¬ X ba
 xo : ¬ X bo
 ho : Rd w oa (Qi own)
 hoX : Qi own ≠ [] → ∀ ad, oa = some ad → ¬ X ad.block
 hon : oa = none → own = []
 hX : ∀ k, X k → k < w.heap.size
 hlo : ∀ ad, oa = some ad → lo ≤ ad.block
 hls : lo ≤ w.heap.size
theorem PathsC.kx {lo : Nat} {A : Option Addr} {cap : Nat} {l : List Nd} {X : Nat → Prop} {ba bo bl : Nat} {oa : Option Addr} {oc : Nat} {own : List Int} {q : Nat} {w w' : World} (h : PathsC lo A cap l X ba bo bl oa oc own q w) (k : KpX X w w') : PathsC lo A cap l X ba bo bl oa oc own q w' :=
 ⟨k.rd h.hr h.hA, h.hA, k.row h.rl h.xl, k.row h.ra h.xa, k.row h.ro h.xo, h.xl, h.xa, h.xo, k.rd h.ho h.hoX, h.hoX, h.hon, fun i hi => Ld (h.hX i hi) k.size, h.hlo, Li h.hls k.size⟩
theorem XO {W : World} {A : Option Addr} {xs : List Value} (h : Rd W A xs) (hne : xs ≠ []) {ad : Addr} (e : A = some ad) : ad.block < W.heap.size := by
 cases xs with
 | nil => exact absurd rfl hne
 | cons u xs =>
  obtain ⟨a, b, c⟩ := h 0 u rfl;have := World.block_lt_of_cell? _ _ c;rw [JO] at this;rw [e] at b; injection b with b; rw [b]; exact this
theorem PathsC.add {lo : Nat} {A : Option Addr} {cap : Nat} {l : List Nd} {X : Nat → Prop} {ba bo bl : Nat} {oa : Option Addr} {oc : Nat} {own : List Int} {q : Nat} {w W : World} {lb : Nat} (h : PathsC lo A cap l X ba bo bl oa oc own q w) (b : Below w.heap.size w W) (h1 : w.heap.size ≤ lb) (h2 : lb < W.heap.size) : PathsC lo A cap l (fun i => X i ∨ i = lb) ba bo bl oa oc own q W := by
 have g : ∀ k, k < w.heap.size → ¬ X k → ¬ (X k ∨ k = lb) := fun k d m h => by
  rcases h with h | h
  · exact m h
  · omega
 exact ⟨h.hr.go b, fun c j e => g _ (XO h.hr c e) (h.hA c j e), h.rl.below b h.rl.lt, h.ra.below b h.ra.lt, h.ro.below b h.ro.lt, g _ h.rl.lt h.xl, g _ h.ra.lt h.xa, g _ h.ro.lt h.xo, h.ho.go b, fun c j e => g _ (XO h.ho c e) (h.hoX c j e), h.hon, fun k d => by
  rcases d with d | d
  · exact Ld (h.hX k d) b.size
  · omega, h.hlo, Li h.hls b.size⟩
def Ah0 (D : Nat) : Deferred := { target := .collected D, args := #[] }
theorem Xo {F : Fence} {n : Nat} {P : Program} {fn : Func} {tmps : Array Value} {R : Ending → World → Prop} (Jp : World → Prop) (base : Nat) (hput : ∀ (W : World) (D : Nat), base ≤ D → W.heap[D]? = some (.deferred (some [])) → Jp W → Jp (W.putObj D (.deferred none))) (hend : ∀ W, Jp W → LeavesInM F n P fn tmps R [] .returning W) :
 ∀ (Ds : List Nat) (w : World), Ds.Nodup → (∀ D ∈ Ds, base ≤ D ∧ w.heap[D]? = some (.deferred (some []))) → Jp w → LeavesInM F n P fn tmps R (Ds.map Ah0) .returning w
 | [], w, _, _, h => hend w h
 | D :: Ds, w, hn, hD, h => by
  obtain ⟨h1, h2⟩ := hD D (by simp)
  rw [NI] at hn
  refine ⟨by simp, .inl ⟨D, _, rfl, run_takeDeferred h2, Xo Jp base hput hend Ds _ hn.2 (fun E hE => ?_) (hput w D h1 h2 h)⟩⟩
  obtain ⟨h3, h4⟩ := hD E (by simp [hE])
  exact ⟨h3, by rw [World.putObj_heap_other (fun e => hn.1 (by rw [← e]; exact hE))]; exact h4⟩
theorem Tr.kid_lt {ks : List Tr} {j : Nat} {k : Tr} (h : ks[j]? = some k) {x : Nd} : k.size < (Tr.node x ks).size := by
 have d := XI (Lf h);have b := Tr.size_eq (Tr.node x ks);have c : (Tr.node x ks).kids = ks := rfl;rw [c] at b; omega
theorem KpX.grown {X : Nat → Prop} {w A B : World} (h : KpX X w A) {row : Option Nat} (hg : A.grownBy B row) (hr : ∀ r, row = some r → w.heap.size ≤ r) : KpX X w B :=
 ⟨fun k o hx ho => by
  have h1 := h.block k o hx ho
  have hk := (Lj.1 ho).1
  exact (hg.block k (Lj.1 h1).1 (fun e => by have := hr k e.symm; omega)).trans h1, Li h.size hg.size⟩
theorem Rd.grown {A B : World} {ad : Option Addr} {xs : List Value} (h : Rd A ad xs) {row : Option Nat} (hg : A.grownBy B row) (hr : ∀ r, row = some r → ∃ o : Obj, A.heap[r]? = some o ∧ o.isCells = false) : Rd B ad xs := fun j u hj => by
 obtain ⟨a, e, b⟩ := h j u hj;have i : (A.cell? (a.add j)).isSome = true := by rw [b]; rfl
 refine ⟨a, e, ?_⟩
 have g : row ≠ some (a.add j).block := fun e => by
  obtain ⟨o, c, d⟩ := hr _ e;unfold World.cell? at b;split at b
  · rename_i l t m k;rw [k] at c; injection c with c; subst c; cases d
  · cases b
 exact (World.cell?_of_block (hg.block _ (World.block_lt_of_cell? _ _ b) (Ne.symm g))).trans b
theorem Aa3 {Q : Exit → Act → World → Prop} {a : Act} {w : World} (h : Q .normal a w) : NoPanic Q .normal a w := h
theorem Ye : ∀ ks : List Tr, ks.length ≤ (QI ks).length
 | [] => by simp
 | .node x k :: ks => by
  have := Ye ks
  rw [QI, Le, Tr.flat, Lc, Lc]; omega
structure PathsFn (A : Option Addr) (cap : Nat) (l : List Nd) (q : Nat) (oa : Option Addr) (oc : Nat) (own : List Int) (w w' : World) (e : Ending) : Prop where
 ex : ∃ bl ba bo, e = .returned (.func (.func 284) #[] #[.pointer (some ⟨ba, 0, none⟩), .pointer (some ⟨bo, 0, none⟩), .pointer (some ⟨bl, 0, none⟩)]) ∧ Row w' bl 23 #[.slice A l.length cap] ∧ Row w' ba 3 #[.int .i64 (q : Int)] ∧ Row w' bo 22 #[.slice oa own.length oc] ∧ w.heap.size ≤ bl ∧ w.heap.size ≤ ba ∧ w.heap.size ≤ bo ∧ Below w.heap.size w w'
theorem Yn (A : Option Addr) (cap : Nat) (l : List Nd) (q : Nat) (oa : Option Addr) (oc : Nat) (own : List Int) (w : World) :
 Calls Tryz.prog 266 #[.slice A l.length cap, .int .i64 (q : Int), .slice oa own.length oc] w fun e w' => PathsFn A cap l q oa oc own w w' e := by
 go_enter Tryz.func266, Tryz.ntmps266
 go_wp2_with (refine Qn _ _ rfl ?_)
 refine Stop.to ?_;refine Qe rfl 23 _ rfl #[.slice A l.length cap] rfl ?_;intro G v n b m;go_wp2_with (refine Qn _ _ rfl ?_)
 refine Stop.to ?_;refine Qe rfl 3 _ rfl #[.int .i64 (q : Int)] rfl ?_;intro J x i j c;go_wp2_with (refine Qn _ _ rfl ?_)
 refine Stop.to ?_;refine Qe rfl 22 _ rfl #[.slice oa own.length oc] rfl ?_;intro K y k o d;have t := (b.below c (Ld b.lt i)).below d (by have := b.lt; have := c.size; omega);have u := j.below d (Ld j.lt k);have g := (Below.refl w.heap.size w).trans (m.mono n);have h := g.trans ((c.mono i).mono g.size);have p := h.trans ((d.mono k).mono h.size);have r : w.heap.size ≤ J := Li g.size i;have s : w.heap.size ≤ K := Li h.size k;clear b j m c d g h;go_wp2
 go_ret
 exact ⟨G, J, K, rfl, t, u, o, n, r, s, p⟩
theorem Xs {own : List Int} {r : Nat} {j : Nat} {ks : List Tr} {k : Tr} (hk : ks[j]? = some k) : Zs own r (j : Int) (ks.drop j) = Q0 (own ++ [(j : Int)]) r k ++ Zs own (r + k.size) ((j + 1 : Nat) : Int) (ks.drop (j + 1)) := by
 obtain ⟨b, rfl⟩ := Lb.1 hk;rw [LH b, Zs];congr 1
theorem AeL {q r j : Nat} {ks : List Tr} {k : Tr} (hk : ks[j]? = some k) (h : Q5 r (ks.drop j) = (Q5 (q + 1) ks).drop j) : (Q5 (q + 1) ks)[j]? = some r ∧ Q5 (r + k.size) (ks.drop (j + 1)) = (Q5 (q + 1) ks).drop (j + 1) := by
 obtain ⟨b, rfl⟩ := Lb.1 hk;rw [LH b, Q5] at h;constructor
 · have := congrArg (fun l => l[0]?) h;simp at this; exact this.symm
 · have := congrArg (fun l => l.drop 1) h;simp only [Ly, L8, Nm] at this;exact this
theorem Afc : (Tryz.prog.info? 3).map (fun i => (i.zero, i.size)) = some (some (.int .i64 0), 1) := by kernel_rfl
theorem AeE (A : Option Addr) (cap : Nat) (l : List Nd) (hl : l.length ≤ 1000) : ∀ (n : Nat) (t : Tr) (q : Nat) (own : List Int), t.size ≤ n → own.length + t.size ≤ 2000 → At l q t → ∀ (lo : Nat) (X : Nat → Prop) (ba bo bl : Nat) (oa : Option Addr) (oc : Nat) (w : World), PathsC lo A cap l X ba bo bl oa oc own q w → Ai6 lo l X ba bo bl own q t w := by
 intro n
 induction n with
 | zero => intro t q own hn _ cq; have := cq.le; cases t; simp [Tr.size, Tr.flat] at hn
 | succ n ih =>
 intro t q own hn bm cq lo X ba bo bl oa oc w hC;intro lb J Jx W dd bn _ hJ dn hY h0;have dj := Lh ih;have Hl := Lh hl;have Hn := Lh hn;have ay := Lh bm;have di := Lh cq;have dt : Below w.heap.size w W := ⟨bn.os, bn.tape, bn.output, bn.size, fun k hk => bn.block k hk (by simp)⟩;have c7 := hC.add dt dd.1 dd.2;clear hC dd dt bn w;replace hY : ∀ b x W1, J b W1 → PxP lo (Q0 own q t) b x W1 → b.length < t.size → YieldAt Fence.wide 0 Tryz.prog lb (PtX.enc x) W1 fun e W' => (e = .returned (.bool true) ∧ J (b ++ [x]) W' ∧ KpX (fun i => X i ∨ i = lb) W1 W') ∨ (e = .returned (.bool false) ∧ Jx (b ++ [x]) W' ∧ KpX (fun i => X i ∨ i = lb) W1 W') := hY;generalize (fun i => X i ∨ i = lb) = X1 at c7 hY;clear X;obtain ⟨X, rfl⟩ : ∃ X, X = X1 := ⟨_, rfl⟩;have HC := Lh c7;have HJ := Lh hJ;have cp := Lh dn;have HY := Lh hY;clear ih hl hn bm cq c7 hJ dn hY;refine callsIn_of_wp_marks Tryz.func284 rfl trivial ?_ rfl;simp only [Tryz.ntmps284, Lk, Lc, Lr, Nat.reduceAdd, Nat.reduceSub, Ll, Lm, Lu, L7, Lp, Ln];obtain ⟨Y, c9⟩ : ∃ Y, Y = W.heap.size := ⟨_, rfl⟩;obtain ⟨W1, c8⟩ : ∃ W1, W1 = W.alloc (.cells #[.func (.yield lb) #[] #[]] 329) := ⟨_, rfl⟩;have rY : Row W1 Y 329 #[.func (.yield lb) #[] #[]] := by rw [c8, c9]; exact Row.new _ _ _
 have b1 : Below W.heap.size W W1 := by rw [c8]; exact (Below.refl _ _).alloc (Nat.le_refl _) _
 have ds : ¬ X Y := fun h => by have := HC.out.hX Y h; omega
 have z : J [] W1 := QF HJ.out h0 b1;have a8 := Lh (HC.out.kx (KpX.of_below b1));have cA := a8.out.ra.cellv (i := 0) (v := .int .i64 (q : Int)) rfl;have cO := a8.out.ro.cellv (i := 0) (v := .slice oa own.length oc) rfl;have cY := rY.cellv (i := 0) (v := .func (.yield lb) #[] #[]) rfl
 have dv : PxP lo (Q0 own q t) [] ⟨q, oa, oc, own⟩ W1 := by
  refine ⟨⟨⟨a8.out.ho, a8.out.hon, by have := ay.out; simp only; omega⟩, a8.out.hlo⟩, ?_⟩;cases t with
  | node x ks => exact ⟨Zs own (q + 1) 0 ks, by rw [Q0]; rfl⟩
 obtain ⟨fn, tmps, assign, body, hy, hR⟩ := HY.out _ ⟨q, oa, oc, own⟩ _ z dv (by cases t; simp [Tr.size, Tr.flat]);have bp : (Instr.yield lb #[.int .i64 (q : Int), .slice oa own.length oc]).run Tryz.prog W1 = .ok (.round lb fn tmps assign body) W1 := hy;have HR := Lh hR;have d2 := Lh b1;have bi := Lh ds;have d4 := Lh c9;clear hR hy h0 z dv b1 ds;subst c9;subst c8;gi_wp2_with fail
 refine ⟨rfl, HR.out.mono ?_⟩;rintro e W2 (⟨rfl, hj, hk⟩ | ⟨rfl, ec, hk⟩);rotate_left
 · clear cA cO cY bp HR hk;gi_wp2;exact ⟨_, results_none rfl _ _ _, ⟨_, rfl⟩, .inr ⟨_, trivial, ec⟩⟩
 have bf := Lh (a8.out.kx hk);have cs := hk.row rY bi.out;have d5 := bf.out.ra.cellv (i := 0) (v := .int .i64 (q : Int)) rfl;have d7 := bf.out.rl.cellv (i := 0) (v := .slice A l.length cap) rfl;have eo : W.heap.size < W2.heap.size := cs.lt;clear cA cO cY bp HR hk rY a8 d2 d4;gi_wp2_with fail
 refine ⟨trivial, rfl, (callsIn_wide.2 (Yh A cap l (q : Int) W2 bf.out.hr Hl.out)).mono ?_⟩;rintro e w2 ⟨v, rfl, cw, b2⟩;obtain ⟨KA, kc, rfl, dr, ei, ej, dq⟩ := Xp cw;obtain ⟨rt, ks, rfl⟩ : ∃ rt ks, t = .node rt ks := by cases t; exact ⟨_, _, rfl⟩
 have db : kidsZ l (q : Int) = QU (Q5 (q + 1) ks) := di.out.kidsZ;have dx : (Q5 (q + 1) ks).length = ks.length := ZP _ _;obtain ⟨N, hN⟩ : ∃ N, N = ks.length := ⟨_, rfl⟩;have du : (kidsZ l (q : Int)).length = N := by rw [db, XK, dx, hN]
 have eg : N ≤ 2000 := by
  have z : ks.length ≤ (Tr.node rt ks).size := by have := Ye ks; rw [Tr.size, Tr.flat, Lc]; omega
  have := ay.out;omega
 have h3 := QF HJ.out hj b2;have dy := Lh (bf.out.kx (KpX.of_below b2));have ef := cs.below b2 cs.lt;have d0 := Lh dr;have dz := Lh dq;have d3 := Lh db;have HN := Lh hN;have em : W2.heap.size ≤ w2.heap.size := b2.size;have d1 : Hid (Qi (kidsZ l (q : Int)) ≠ [] → ∀ ad, KA = some ad → ¬ X ad.block) := fun _ ad e hx => by have := dz.out ad e; have := bf.out.hX _ hx; omega
 clear cw dr dq db hN dx b2 hj d5 d7 cs bf;rw [du];clear du;gi_wp2_with fail
 refine wpIn_loop_ghost_k (fun m a wr => ∃ (j : Nat) (done : List PtX) (r : Nat) (Ds : List Nat), m = N - j ∧ j ≤ N ∧ Hid (done.map PtX.f ++ Zs own r (j : Int) (ks.drop j) = Q0 own q (.node rt ks)) ∧ Hid (Q5 r (ks.drop j) = (Q5 (q + 1) ks).drop j) ∧ Hid (KpX X w2 wr) ∧ J done wr ∧ Hid (Ds.Nodup ∧ ∀ D ∈ Ds, W.heap.size ≤ D ∧ wr.heap[D]? = some (.deferred (some []))) ∧ ∃ u5 u6 u7 u8 bq br bs bt bu bv bw bx bz b0 b3 b4 b5 b7 a2 a3 a4 a5 a6 a7, a = { tmps := #[.func (.yield lb) #[] #[], .pointer (some ⟨ba, 0, none⟩), .pointer (some ⟨bo, 0, none⟩), .pointer (some ⟨bl, 0, none⟩), .pointer (some ⟨W.heap.size, 0, none⟩), u5, u6, u7, u8, .func (.yield lb) #[] #[], .int .i64 (q : Int), .slice oa own.length oc, .bool true, .bool false, .slice A l.length cap, .int .i64 (q : Int), .slice KA N kc, .int .i64 (N : Int), .int .i64 (j : Int), bq, br, bs, bt, bu, bv, bw, bx, bz, b0, b3, b4, b5, b7, a2, a3, a4, a5, a6, a7], defers := Ds.map Ah0 }) N ⟨0, _, q + 1, [], rfl, Nat.zero_le _, by show _ = _; rw [Q0]; rfl, by show _ = _; rfl, Lh (KpX.refl _ _), h3, ⟨List.nodup_nil, fun D h => by simp at h⟩, _, _, _, _, _, _, _, _, _, _, _, _, _, _, _, _, _, _, _, _, _, _, _, _, rfl⟩ ?_
 · clear h3;rintro m a wr ⟨j, done, r, Ds, rfl, ek, Hd, Hs, Hk, hj, bh, u5, u6, u7, u8, bq, br, bs, bt, bu, bv, bw, bx, bz, b0, b3, b4, b5, b7, a2, a3, a4, a5, a6, a7, rfl⟩ JJ KK dm dp;have dg := Lh dm;have dh := Lh dp;clear dm dp;by_cases el : j < N;rotate_left
   · obtain rfl : j = N := by omega
     gi_wp2_with fail
     have bd : done.map PtX.f = Q0 own q (.node rt ks) := by
      have := Hd.out;rw [List.drop_of_length_le (by rw [HN.out]; exact Nat.le_refl _), Zs, LY] at this;exact this
     exact Xo (J done) W.heap.size (fun V' E z g h3 => HJ.out _ _ _ (some E) h3 (grownBy_putObj' _ _ _) (fun r e => by cases e; exact .inr ⟨z, _, g, rfl⟩)) (fun V' h => ⟨_, results_none rfl _ _ _, ⟨_, rfl⟩, .inl ⟨_, bd, h⟩⟩) Ds wr bh.out.1 bh.out.2 hj
   obtain ⟨k, cr⟩ : ∃ k, ks[j]? = some k := ⟨_, La (by have := HN.out; omega)⟩;obtain ⟨de, dw⟩ := AeL cr Hs.out;have cv := di.out.kids.spot j r k de cr;have bg := Lh (dy.out.kx Hk.out);obtain ⟨ka, ed, ee⟩ := QR (Hk.out.rd d0.out d1.out) (k := j) (x := (r : Int)) (by rw [d3.out]; simp [QU, de]);have ct := Hk.out.row ef bi.out;have bj := Lh cr;have dk := Lh dw;have cu := Lh cv;have eh : (j : Int) < (N : Int) := by omega
   have en : w2.heap.size ≤ wr.heap.size := Hk.out.size;have d6 := bg.out.ra.cellv (i := 0) (v := .int .i64 (q : Int)) rfl;have d8 := bg.out.rl.cellv (i := 0) (v := .slice A l.length cap) rfl;have d9 := bg.out.ro.cellv (i := 0) (v := .slice oa own.length oc) rfl;clear cr de dw cv;subst ed;gi_wp2_with fail
   refine wpIn_wide.2 ?_;refine wp_region_noPanic ?_;refine wp_region_held (S := fun W => PathsC lo A cap l X ba bo bl oa oc own q W) (by kernel_rfl) ?_;simp only [Lk, Lc, Lr, Nat.reduceAdd, Ll, Lm, Lu, Lp, Ln];show wpAnyH _ _ _ _ _ _ _ _ wr.drew;have hS : PathsC lo A cap l X ba bo bl oa oc own q wr.drew := bg.out.kx (KpX.of_below (St.drew (S := fun W => Below wr.heap.size wr W) (Below.refl _ _)));have ab : Below wr.heap.size wr wr.drew := St.drew (S := fun W => Below wr.heap.size wr W) (Below.refl _ _);generalize wr.drew = w5 at hS ab ⊢;clear d6 d8 d9 ee;(refine tkH 0 (.slice A l.length cap) rfl (Qd rfl (fun W hW => by ((have h := hW.rl.cellv (i := 0) (v := .slice A l.length cap) rfl; go_simp)))) ?_; simp only [Act.put, Qa, Qb, Qc]);(refine tkH 1 (.int .i64 (r : Int)) rfl (Qd rfl (fun W hW => by (go_simp))) ?_; simp only [Act.put, Qa, Qb, Qc]);(refine tkH 2 (.slice oa own.length oc) rfl (Qd rfl (fun W hW => by ((have h := hW.ro.cellv (i := 0) (v := .slice oa own.length oc) rfl; go_simp)))) ?_; simp only [Act.put, Qa, Qb, Qc]);(refine tkH 4 (.int .i64 (j : Int)) rfl (Qd rfl (fun W hW => by (go_simp))) ?_; simp only [Act.put, Qa, Qb, Qc]);refine wpAnyH_all (rs := [3, 5]) (by kernel_rfl) (by simp) (fun i hi => ?_);have eb : i = 3 ∨ i = 5 := by simpa using hi
   clear hi;rcases eb with rfl | rfl
   · refine Qg rfl rfl (fun K2 d => ?_);refine Qt 117 #[.slice oa own.length oc] (w1 := w5) (by go_simp) ((UL oa oc own w5 hS.ho hS.hon (by have := ay.out; omega)).mono ?_);rintro e w6 ⟨v6, rfl, bc, b6⟩;refine ⟨_, rfl, ?_⟩;refine d _ _ ?_;clear d K2;simp only [Act.put, Qa, Qb, Qc];have bb := hS.kx (KpX.of_below b6);refine ⟨bb, ?_⟩;(refine wpAnyH_all (rs := [5]) (by kernel_rfl) (by simp) (fun i hi => ?_); obtain rfl : i = 5 := by simpa using hi);refine Qg rfl rfl (fun K2 d => ?_);refine Qj (.slice (some ⟨w6.heap.size, 0, none⟩) 1 1) (QW [(0, .tmp 27)] rfl (ZT (cells := #[.int .i64 (j : Int)]) Tryz.underlying22 Afc (by decide) (by decide) (by kernel_rfl) w6)) ?_;have rg := Zm w6 [.int .i64 (j : Int)] 3;have bk := (Below.refl w6.heap.size w6).alloc (Nat.le_refl _) (.cells #[.int .i64 (j : Int)] 3);have y := Qz bc bk;refine d _ _ ?_;clear d K2;simp only [Act.put, Qa, Qb, Qc];have ah : Below w5.heap.size w5 (w6.alloc (.cells #[.int .i64 (j : Int)] 3)) := b6.trans (bk.mono b6.size);generalize w6.alloc (.cells #[.int .i64 (j : Int)] 3) = w7 at rg ah y ⊢;clear bk;obtain ⟨gg, cc⟩ : ∃ gg, gg = w6.heap.size := ⟨_, rfl⟩;rw [← cc] at rg ⊢;clear cc;refine ⟨hS.kx (KpX.of_below ah), ?_⟩;have bm := ay.out;obtain ⟨v8, w8, ap, ac, cd, _⟩ := ZW (P := Tryz.prog) 22 3 (.int .i64 0) 1 8 Tryz.underlying22 Z7 rfl (by decide) (by decide) y ah.size rg (m := 1) (cap := 1) rfl (Jt [(j : Int)]) (by simp) (by omega);have af := QO ah y cd ah.size (Nat.le_refl _);rw [show Qi own ++ [Value.int .i64 (j : Int)] = Qi (own ++ [(j : Int)]) by simp [Qi]] at ac;obtain ⟨aq, ar, rfl, ch, _, a1, an⟩ := Xp ac;have ce : own.length + 1 = (own ++ [(j : Int)]).length := by simp
     rw [ce] at ap;have az := Lh ap;clear ce bm ap y ac cd rg;(refine wpAnyH_all (rs := [6]) (by kernel_rfl) (by simp) (fun i hi => ?_); obtain rfl : i = 6 := by simpa using hi);refine Qg rfl rfl (fun K2 d => ?_);refine Qj _ (QV rfl az.out) ?_;refine d _ _ ?_;clear d K2 az;simp only [Act.put, Qa, Qb, Qc];have ag := hS.kx (KpX.of_below af);refine ⟨ag, ?_⟩;(refine wpAnyH_all (rs := [7]) (by kernel_rfl) (by simp) (fun i hi => ?_); obtain rfl : i = 7 := by simpa using hi);refine Qg rfl rfl (fun K2 d => ?_);refine Qt 266 #[.slice A l.length cap, .int .i64 (r : Int), .slice aq (own ++ [(j : Int)]).length ar] (w1 := w8) (by go_simp) ((Yn A cap l r aq ar (own ++ [(j : Int)]) w8).mono ?_);rintro e u ⟨av, au, aw, rfl, cn, cl, co, c5, c4, c6, aj⟩;refine ⟨_, rfl, ?_⟩;refine d _ _ ?_;clear d K2;simp only [Act.put, Qa, Qb, Qc];have aa := ag.kx (KpX.of_below aj);refine ⟨aa, ?_⟩;refine wpAnyH_done (by kernel_rfl) ?_ _;have ax : KpX X wr u := KpX.of_below (ab.trans (af.mono ab.size |>.trans (aj.mono (by have := af.size; have := ab.size; omega))));have cj := ax.row ct bi.out;have h9 : J done u := QF HJ.out hj (ab.trans ((af.mono ab.size).trans (aj.mono (by have := af.size; have := ab.size; omega))));clear ct hj;have ca : PathsC lo A cap l X au aw av aq ar (own ++ [(j : Int)]) r u := ⟨aa.hr, aa.hA, cn, cl, co, fun h => by have := ag.hX _ h; omega, fun h => by have := ag.hX _ h; omega, fun h => by have := ag.hX _ h; omega, ch.go aj, fun _ ad e h => by have := an ad e; have := hS.hX _ h; omega, fun e => by have := a1 e; omega, aa.hX, fun ad e => by have := an ad e; have := hS.hls; omega, aa.hls⟩;have cb : ∀ i, X i → i < u.heap.size := aa.hX;have cx := Lh ca;have c0 := Lh ax;have b8 := Lh cb
     have ae : Hid (Ds.Nodup ∧ ∀ D ∈ Ds, W.heap.size ≤ D ∧ D < u.heap.size ∧ u.heap[D]? = some (.deferred (some []))) := ⟨bh.out.1, fun D hD => by
      obtain ⟨e1, e2⟩ := bh.out.2 D hD
      have e3 := ax.block D _ (fun hx => by have := HC.out.hX D hx; omega) e2
      exact ⟨e1, (Lj.1 e3).1, e3⟩⟩
     clear hS bb ag aa ab af aj ah cn cl co c5 c4 c6 ch a1 an ca ax cb bg;refine Aa3 ?_;gi_wp2_with fail
     have da := Tr.kid_lt bj.out (x := rt);have cz := Lh (dj.out k r (own ++ [(j : Int)]) (by have := Hn.out; omega) (by have := ay.out; simp; omega) cu.out.1 lo X au aw av aq ar u cx.out);clear da;have s9 : W.heap.size < u.heap.size := cj.lt;have cy : Hid (J done u ∧ KpX X u u) := ⟨h9, KpX.refl _ _⟩;clear h9
     refine Yo (gf := 284) (lb := #[.pointer (some ⟨au, 0, none⟩), .pointer (some ⟨aw, 0, none⟩), .pointer (some ⟨av, 0, none⟩)]) rfl (enters_of Tryz.func284 (by kernel_rfl) rfl) cz.out (fun r h => h.elim)
      (fun h k => h.trans k) (fun V o o' ho hc => ⟨fun i p hx hp => by rw [World.putObj_heap_other (fun e => hx (.inr e))]; exact hp, by simp⟩) (World.grownBy.refl _ _) (fun _ => rfl)
      (fun b V => J (done ++ b) V ∧ KpX X u V) (fun c b V => c = .ret ∧ Jx (done ++ b) V ∧ KpX X u V) (.inl trivial) ?hI ?hIx (by rw [LY]; exact cy.out)
      (fun b x a' V => a' = { tmps := #[.func (.yield lb) #[] #[], .pointer (some ⟨ba, 0, none⟩), .pointer (some ⟨bo, 0, none⟩), .pointer (some ⟨bl, 0, none⟩), .pointer (some ⟨W.heap.size, 0, none⟩), .int .i64 (j : Int), .int .i64 (r : Int), .int .i64 (x.to : Int), .slice x.A x.l.length x.cap, .func (.yield lb) #[] #[], .int .i64 (q : Int), .slice oa own.length oc, .bool true, .bool false, .slice A l.length cap, .int .i64 (q : Int), .slice (some ka) N kc, .int .i64 (N : Int), .int .i64 (j : Int), .bool true, .int .i64 (j : Int), .pointer (some (ka.add j)), .int .i64 (r : Int), .slice A l.length cap, .int .i64 (r : Int), .slice oa own.length oc, v6, .int .i64 (j : Int), .slice (some ⟨gg, 0, none⟩) 1 1, .slice aq (own.length + 1) ar, .func (.func 284) #[] #[.pointer (some ⟨au, 0, none⟩), .pointer (some ⟨aw, 0, none⟩), .pointer (some ⟨av, 0, none⟩)], .int .i64 (x.to : Int), .slice x.A x.l.length x.cap, a2, a3, a4, a5, a6, a7], defers := [] } ∧ PxP lo (Q0 (own ++ [(j : Int)]) r k) b x V) ?hAx ?assign ?body ?done ?stop
     case hI =>
      rintro b V V' row ⟨z, g⟩ hg hr;refine ⟨HJ.out _ _ _ row z hg (fun i e => .inr ?_), g.grown hg (fun i e => ?_)⟩
      · rcases hr i e with h | ⟨h, o⟩
        · exact h.elim
        · exact ⟨by omega, o⟩
      · rcases hr i e with h | ⟨h, o⟩
        · exact h.elim
        · exact h
     case hIx =>
      rintro c b V V' row ⟨z, g, h3⟩ hg hr;refine ⟨z, cp.out _ _ _ row g hg (fun i e => .inr ?_), h3.grown hg (fun i e => ?_)⟩
      · rcases hr i e with h | ⟨h, o⟩
        · exact h.elim
        · exact ⟨by omega, o⟩
      · rcases hr i e with h | ⟨h, o⟩
        · exact h.elim
        · exact h
     case hAx =>
      rintro b x a' _ V V' row ⟨z, ⟨g, h4⟩, h3⟩ hg hr;refine ⟨z, ⟨⟨g.rd.grown hg (fun i e => ?_), g.nil, g.len⟩, h4⟩, h3⟩;rcases hr i e with h | ⟨h, o⟩
      · exact h.elim
      · exact o
     case assign =>
      rintro l3 b x V K hI hP hK;have HK := Lh hK;have HI := Lh hI;have HP := Lh hP;clear hK hI hP;unfold PtX.enc;gi_wp2_with fail
      exact HK.out _ _ (KeepsFrom.refl _ _) (KpX.refl _ _) HI.out ⟨rfl, HP.out⟩
     case body =>
      rintro l3 b x a' V dc _ ⟨z, g⟩ ⟨rfl, hP⟩ cf;have ck := g.row cj bi.out;have c2 := ck.cellv (i := 0) (v := .func (.yield lb) #[] #[]) rfl;obtain ⟨ci, cm, ao⟩ := hP;have ak : PxP lo (Q0 own q (.node rt ks)) (done ++ b) x V := ⟨ci, cm ++ Zs own (r + k.size) ((j + 1 : Nat) : Int) (ks.drop (j + 1)), by rw [← Hd.out, Xs bj.out, ← ao]; simp⟩
      have am : (done ++ b).length < (Tr.node rt ks).size := by
       obtain ⟨_, df, h3⟩ := ak;have h4 := congrArg List.length h3;rw [Ju] at h4;simp at h4;simp;omega
      obtain ⟨c3, be, ai, a9, hy, hR⟩ := HY.out _ x _ z ak am;have bp : (Instr.yield lb #[.int .i64 (x.to : Int), .slice x.A x.l.length x.cap]).run Tryz.prog V = .ok (.round lb c3 be ai a9) V := hy;have HR := Lh hR;have H2 := Lh g;clear hy hR z g ci ao ak am cf ck dc;gi_wp2_with fail
      refine ⟨rfl, HR.out.mono ?_⟩;clear bp HR c2;rintro e V2 (⟨rfl, al, s⟩ | ⟨rfl, al, s⟩)
      · have HF : Hid (KeepsFrom u.heap.size V V2 ∧ KpX (fun i => X i ∨ i = u.heap.size + 1) V V2 ∧ J (done ++ (b ++ [x])) V2 ∧ KpX X u V2) := ⟨s.keeps b8.out, s.more (fun _ h => .inl h), by rw [← Lx]; exact al, H2.out.trans s⟩;clear al s;gi_wp2_with fail
        exact HF.out
      · have HF : Hid (KeepsFrom u.heap.size V V2 ∧ KpX (fun i => X i ∨ i = u.heap.size + 1) V V2 ∧ True ∧ Jx (done ++ (b ++ [x])) V2 ∧ KpX X u V2) := ⟨s.keeps b8.out, s.more (fun _ h => .inl h), trivial, by rw [← Lx]; exact al, H2.out.trans s⟩;clear al s;gi_wp2_with fail
        exact ⟨HF.out.1, HF.out.2.1, rfl, HF.out.2.2.2⟩
     case stop =>
      rintro D c b V hD _ ⟨rfl, g, h3⟩ hK;have cg : (D :: Ds).Nodup := NI.2 ⟨fun h => by have := ae.out.2 D h; omega, ae.out.1⟩
      have a0 : ∀ E ∈ D :: Ds, W.heap.size ≤ E ∧ V.heap[E]? = some (.deferred (some [])) := fun E hE => by
       rcases Lv.1 hE with rfl | hE
       · exact ⟨by omega, hK⟩
       · obtain ⟨e1, e2, e3⟩ := ae.out.2 E hE;exact ⟨e1, h3.block E _ (fun hx => by have := HC.out.hX E hx; omega) e3⟩
      have c1 := Lh cg;have b9 := Lh a0;have H2 := Lh g;clear cg a0 g h3 hK hD;gi_wp2_with fail
      exact Xo (Jx (done ++ b)) W.heap.size (fun V' E z g h3 => cp.out _ _ _ (some E) h3 (grownBy_putObj' _ _ _) (fun r e => by cases e; exact .inr ⟨z, _, g, rfl⟩)) (fun V' h => ⟨_, results_none rfl _ _ _, ⟨_, rfl⟩, .inr ⟨_, trivial, h⟩⟩) (D :: Ds) V c1.out b9.out H2.out
     case done =>
      rintro D xs V hD bd ⟨z, g⟩ hK
      have HF : Hid (∀ a', (∃ u5 u6 u7 u8 bq br bs bt bu bv bw bx bz b0 b3 b4 b5 b7 a2 a3 a4 a5 a6 a7, a' = { tmps := #[.func (.yield lb) #[] #[], .pointer (some ⟨ba, 0, none⟩), .pointer (some ⟨bo, 0, none⟩), .pointer (some ⟨bl, 0, none⟩), .pointer (some ⟨W.heap.size, 0, none⟩), u5, u6, u7, u8, .func (.yield lb) #[] #[], .int .i64 (q : Int), .slice oa own.length oc, .bool true, .bool false, .slice A l.length cap, .int .i64 (q : Int), .slice (some ka) N kc, .int .i64 (N : Int), .int .i64 ((j + 1 : Nat) : Int), bq, br, bs, bt, bu, bv, bw, bx, bz, b0, b3, b4, b5, b7, a2, a3, a4, a5, a6, a7], defers := (D :: Ds).map Ah0 }) → KK a' V) := fun a' ha => dh.out _ _ (Handed.intro (N - (j + 1)) (by omega) (dg.out _ _ _ ⟨j + 1, done ++ xs, r + k.size, D :: Ds, rfl, by omega, by
       show _ = _
       rw [← Hd.out, Xs bj.out, Na, bd, Lx], dk, c0.out.trans g |> Hk.out.trans, z, ⟨NI.2 ⟨fun h => by have := ae.out.2 D h; omega, ae.out.1⟩, fun E hE => by
       rcases Lv.1 hE with rfl | hE
       · exact ⟨by omega, hK⟩
       · obtain ⟨e1, e2, e3⟩ := ae.out.2 E hE
         exact ⟨e1, g.block E _ (fun hx => by have := HC.out.hX E hx; omega) e3⟩⟩, ha⟩))
      clear z g hK bd hD;have ea : (N : Int) ≤ 2000 := by omega
      gi_wp2_with fail
      refine HF.out _ ?_
      repeat apply Exists.intro
      exact rfl
   · refine Qg rfl rfl (fun K2 d => ?_);refine Qj (.slice (some ⟨w5.heap.size, 0, none⟩) 1 1) (QW [(0, .tmp 27)] rfl (ZT (cells := #[.int .i64 (j : Int)]) Tryz.underlying22 Afc (by decide) (by decide) (by kernel_rfl) w5)) ?_;have rg := Zm w5 [.int .i64 (j : Int)] 3;have b6 := (Below.refl w5.heap.size w5).alloc (Nat.le_refl _) (.cells #[.int .i64 (j : Int)] 3);refine d _ _ ?_;clear d K2;simp only [Act.put, Qa, Qb, Qc];generalize w5.alloc (.cells #[.int .i64 (j : Int)] 3) = w6 at rg b6 ⊢;obtain ⟨gg, cc⟩ : ∃ gg, gg = w5.heap.size := ⟨_, rfl⟩;rw [← cc] at rg ⊢;clear cc;have bb := hS.kx (KpX.of_below b6);refine ⟨bb, ?_⟩;(refine wpAnyH_all (rs := [3]) (by kernel_rfl) (by simp) (fun i hi => ?_); obtain rfl : i = 3 := by simpa using hi);refine Qg rfl rfl (fun K2 d => ?_);refine Qt 117 #[.slice oa own.length oc] (w1 := w6) (by go_simp) ((UL oa oc own w6 bb.ho bb.hon (by have := ay.out; omega)).mono ?_);rintro e w7 ⟨v6, rfl, bc, bk⟩;refine ⟨_, rfl, ?_⟩;refine d _ _ ?_;clear d K2;simp only [Act.put, Qa, Qb, Qc];have y := QK bc b6.size;replace rg := rg.go bk;have ah : Below w5.heap.size w5 w7 := b6.trans (bk.mono (by have := b6.size; omega));refine ⟨hS.kx (KpX.of_below ah), ?_⟩;have bm := ay.out;obtain ⟨v8, w8, ap, ac, cd, _⟩ := ZW (P := Tryz.prog) 22 3 (.int .i64 0) 1 8 Tryz.underlying22 Z7 rfl (by decide) (by decide) y ah.size rg (m := 1) (cap := 1) rfl (Jt [(j : Int)]) (by simp) (by omega);have af := QO ah y cd ah.size (Nat.le_refl _);rw [show Qi own ++ [Value.int .i64 (j : Int)] = Qi (own ++ [(j : Int)]) by simp [Qi]] at ac;obtain ⟨aq, ar, rfl, ch, _, a1, an⟩ := Xp ac;have ce : own.length + 1 = (own ++ [(j : Int)]).length := by simp
     rw [ce] at ap;have az := Lh ap;clear ce bm ap y ac cd rg;(refine wpAnyH_all (rs := [6]) (by kernel_rfl) (by simp) (fun i hi => ?_); obtain rfl : i = 6 := by simpa using hi);refine Qg rfl rfl (fun K2 d => ?_);refine Qj _ (QV rfl az.out) ?_;refine d _ _ ?_;clear d K2 az;simp only [Act.put, Qa, Qb, Qc];have ag := hS.kx (KpX.of_below af);refine ⟨ag, ?_⟩;(refine wpAnyH_all (rs := [7]) (by kernel_rfl) (by simp) (fun i hi => ?_); obtain rfl : i = 7 := by simpa using hi);refine Qg rfl rfl (fun K2 d => ?_);refine Qt 266 #[.slice A l.length cap, .int .i64 (r : Int), .slice aq (own ++ [(j : Int)]).length ar] (w1 := w8) (by go_simp) ((Yn A cap l r aq ar (own ++ [(j : Int)]) w8).mono ?_);rintro e u ⟨av, au, aw, rfl, cn, cl, co, c5, c4, c6, aj⟩;refine ⟨_, rfl, ?_⟩;refine d _ _ ?_;clear d K2;simp only [Act.put, Qa, Qb, Qc];have aa := ag.kx (KpX.of_below aj);refine ⟨aa, ?_⟩;refine wpAnyH_done (by kernel_rfl) ?_ _;have ax : KpX X wr u := KpX.of_below (ab.trans (af.mono ab.size |>.trans (aj.mono (by have := af.size; have := ab.size; omega))));have cj := ax.row ct bi.out;have h9 : J done u := QF HJ.out hj (ab.trans ((af.mono ab.size).trans (aj.mono (by have := af.size; have := ab.size; omega))));clear ct hj;have ca : PathsC lo A cap l X au aw av aq ar (own ++ [(j : Int)]) r u := ⟨aa.hr, aa.hA, cn, cl, co, fun h => by have := ag.hX _ h; omega, fun h => by have := ag.hX _ h; omega, fun h => by have := ag.hX _ h; omega, ch.go aj, fun _ ad e h => by have := an ad e; have := hS.hX _ h; omega, fun e => by have := a1 e; omega, aa.hX, fun ad e => by have := an ad e; have := hS.hls; omega, aa.hls⟩;have cb : ∀ i, X i → i < u.heap.size := aa.hX;have cx := Lh ca;have c0 := Lh ax;have b8 := Lh cb
     have ae : Hid (Ds.Nodup ∧ ∀ D ∈ Ds, W.heap.size ≤ D ∧ D < u.heap.size ∧ u.heap[D]? = some (.deferred (some []))) := ⟨bh.out.1, fun D hD => by
      obtain ⟨e1, e2⟩ := bh.out.2 D hD
      have e3 := ax.block D _ (fun hx => by have := HC.out.hX D hx; omega) e2
      exact ⟨e1, (Lj.1 e3).1, e3⟩⟩
     clear hS bb ag aa ab af aj ah cn cl co c5 c4 c6 ch a1 an ca ax cb bg;refine Aa3 ?_;gi_wp2_with fail
     have da := Tr.kid_lt bj.out (x := rt);have cz := Lh (dj.out k r (own ++ [(j : Int)]) (by have := Hn.out; omega) (by have := ay.out; simp; omega) cu.out.1 lo X au aw av aq ar u cx.out);clear da;have s9 : W.heap.size < u.heap.size := cj.lt;have cy : Hid (J done u ∧ KpX X u u) := ⟨h9, KpX.refl _ _⟩;clear h9
     refine Yo (gf := 284) (lb := #[.pointer (some ⟨au, 0, none⟩), .pointer (some ⟨aw, 0, none⟩), .pointer (some ⟨av, 0, none⟩)]) rfl (enters_of Tryz.func284 (by kernel_rfl) rfl) cz.out (fun r h => h.elim)
      (fun h k => h.trans k) (fun V o o' ho hc => ⟨fun i p hx hp => by rw [World.putObj_heap_other (fun e => hx (.inr e))]; exact hp, by simp⟩) (World.grownBy.refl _ _) (fun _ => rfl)
      (fun b V => J (done ++ b) V ∧ KpX X u V) (fun c b V => c = .ret ∧ Jx (done ++ b) V ∧ KpX X u V) (.inl trivial) ?hI ?hIx (by rw [LY]; exact cy.out)
      (fun b x a' V => a' = { tmps := #[.func (.yield lb) #[] #[], .pointer (some ⟨ba, 0, none⟩), .pointer (some ⟨bo, 0, none⟩), .pointer (some ⟨bl, 0, none⟩), .pointer (some ⟨W.heap.size, 0, none⟩), .int .i64 (j : Int), .int .i64 (r : Int), .int .i64 (x.to : Int), .slice x.A x.l.length x.cap, .func (.yield lb) #[] #[], .int .i64 (q : Int), .slice oa own.length oc, .bool true, .bool false, .slice A l.length cap, .int .i64 (q : Int), .slice (some ka) N kc, .int .i64 (N : Int), .int .i64 (j : Int), .bool true, .int .i64 (j : Int), .pointer (some (ka.add j)), .int .i64 (r : Int), .slice A l.length cap, .int .i64 (r : Int), .slice oa own.length oc, v6, .int .i64 (j : Int), .slice (some ⟨gg, 0, none⟩) 1 1, .slice aq (own.length + 1) ar, .func (.func 284) #[] #[.pointer (some ⟨au, 0, none⟩), .pointer (some ⟨aw, 0, none⟩), .pointer (some ⟨av, 0, none⟩)], .int .i64 (x.to : Int), .slice x.A x.l.length x.cap, a2, a3, a4, a5, a6, a7], defers := [] } ∧ PxP lo (Q0 (own ++ [(j : Int)]) r k) b x V) ?hAx ?assign ?body ?done ?stop
     case hI =>
      rintro b V V' row ⟨z, g⟩ hg hr;refine ⟨HJ.out _ _ _ row z hg (fun i e => .inr ?_), g.grown hg (fun i e => ?_)⟩
      · rcases hr i e with h | ⟨h, o⟩
        · exact h.elim
        · exact ⟨by omega, o⟩
      · rcases hr i e with h | ⟨h, o⟩
        · exact h.elim
        · exact h
     case hIx =>
      rintro c b V V' row ⟨z, g, h3⟩ hg hr;refine ⟨z, cp.out _ _ _ row g hg (fun i e => .inr ?_), h3.grown hg (fun i e => ?_)⟩
      · rcases hr i e with h | ⟨h, o⟩
        · exact h.elim
        · exact ⟨by omega, o⟩
      · rcases hr i e with h | ⟨h, o⟩
        · exact h.elim
        · exact h
     case hAx =>
      rintro b x a' _ V V' row ⟨z, ⟨g, h4⟩, h3⟩ hg hr;refine ⟨z, ⟨⟨g.rd.grown hg (fun i e => ?_), g.nil, g.len⟩, h4⟩, h3⟩;rcases hr i e with h | ⟨h, o⟩
      · exact h.elim
      · exact o
     case assign =>
      rintro l3 b x V K hI hP hK;have HK := Lh hK;have HI := Lh hI;have HP := Lh hP;clear hK hI hP;unfold PtX.enc;gi_wp2_with fail
      exact HK.out _ _ (KeepsFrom.refl _ _) (KpX.refl _ _) HI.out ⟨rfl, HP.out⟩
     case body =>
      rintro l3 b x a' V dc _ ⟨z, g⟩ ⟨rfl, hP⟩ cf;have ck := g.row cj bi.out;have c2 := ck.cellv (i := 0) (v := .func (.yield lb) #[] #[]) rfl;obtain ⟨ci, cm, ao⟩ := hP;have ak : PxP lo (Q0 own q (.node rt ks)) (done ++ b) x V := ⟨ci, cm ++ Zs own (r + k.size) ((j + 1 : Nat) : Int) (ks.drop (j + 1)), by rw [← Hd.out, Xs bj.out, ← ao]; simp⟩
      have am : (done ++ b).length < (Tr.node rt ks).size := by
       obtain ⟨_, df, h3⟩ := ak;have h4 := congrArg List.length h3;rw [Ju] at h4;simp at h4;simp;omega
      obtain ⟨c3, be, ai, a9, hy, hR⟩ := HY.out _ x _ z ak am;have bp : (Instr.yield lb #[.int .i64 (x.to : Int), .slice x.A x.l.length x.cap]).run Tryz.prog V = .ok (.round lb c3 be ai a9) V := hy;have HR := Lh hR;have H2 := Lh g;clear hy hR z g ci ao ak am cf ck dc;gi_wp2_with fail
      refine ⟨rfl, HR.out.mono ?_⟩;clear bp HR c2;rintro e V2 (⟨rfl, al, s⟩ | ⟨rfl, al, s⟩)
      · have HF : Hid (KeepsFrom u.heap.size V V2 ∧ KpX (fun i => X i ∨ i = u.heap.size + 1) V V2 ∧ J (done ++ (b ++ [x])) V2 ∧ KpX X u V2) := ⟨s.keeps b8.out, s.more (fun _ h => .inl h), by rw [← Lx]; exact al, H2.out.trans s⟩;clear al s;gi_wp2_with fail
        exact HF.out
      · have HF : Hid (KeepsFrom u.heap.size V V2 ∧ KpX (fun i => X i ∨ i = u.heap.size + 1) V V2 ∧ True ∧ Jx (done ++ (b ++ [x])) V2 ∧ KpX X u V2) := ⟨s.keeps b8.out, s.more (fun _ h => .inl h), trivial, by rw [← Lx]; exact al, H2.out.trans s⟩;clear al s;gi_wp2_with fail
        exact ⟨HF.out.1, HF.out.2.1, rfl, HF.out.2.2.2⟩
     case stop =>
      rintro D c b V hD _ ⟨rfl, g, h3⟩ hK;have cg : (D :: Ds).Nodup := NI.2 ⟨fun h => by have := ae.out.2 D h; omega, ae.out.1⟩
      have a0 : ∀ E ∈ D :: Ds, W.heap.size ≤ E ∧ V.heap[E]? = some (.deferred (some [])) := fun E hE => by
       rcases Lv.1 hE with rfl | hE
       · exact ⟨by omega, hK⟩
       · obtain ⟨e1, e2, e3⟩ := ae.out.2 E hE;exact ⟨e1, h3.block E _ (fun hx => by have := HC.out.hX E hx; omega) e3⟩
      have c1 := Lh cg;have b9 := Lh a0;have H2 := Lh g;clear cg a0 g h3 hK hD;gi_wp2_with fail
      exact Xo (Jx (done ++ b)) W.heap.size (fun V' E z g h3 => cp.out _ _ _ (some E) h3 (grownBy_putObj' _ _ _) (fun r e => by cases e; exact .inr ⟨z, _, g, rfl⟩)) (fun V' h => ⟨_, results_none rfl _ _ _, ⟨_, rfl⟩, .inr ⟨_, trivial, h⟩⟩) (D :: Ds) V c1.out b9.out H2.out
     case done =>
      rintro D xs V hD bd ⟨z, g⟩ hK
      have HF : Hid (∀ a', (∃ u5 u6 u7 u8 bq br bs bt bu bv bw bx bz b0 b3 b4 b5 b7 a2 a3 a4 a5 a6 a7, a' = { tmps := #[.func (.yield lb) #[] #[], .pointer (some ⟨ba, 0, none⟩), .pointer (some ⟨bo, 0, none⟩), .pointer (some ⟨bl, 0, none⟩), .pointer (some ⟨W.heap.size, 0, none⟩), u5, u6, u7, u8, .func (.yield lb) #[] #[], .int .i64 (q : Int), .slice oa own.length oc, .bool true, .bool false, .slice A l.length cap, .int .i64 (q : Int), .slice (some ka) N kc, .int .i64 (N : Int), .int .i64 ((j + 1 : Nat) : Int), bq, br, bs, bt, bu, bv, bw, bx, bz, b0, b3, b4, b5, b7, a2, a3, a4, a5, a6, a7], defers := (D :: Ds).map Ah0 }) → KK a' V) := fun a' ha => dh.out _ _ (Handed.intro (N - (j + 1)) (by omega) (dg.out _ _ _ ⟨j + 1, done ++ xs, r + k.size, D :: Ds, rfl, by omega, by
       show _ = _
       rw [← Hd.out, Xs bj.out, Na, bd, Lx], dk, c0.out.trans g |> Hk.out.trans, z, ⟨NI.2 ⟨fun h => by have := ae.out.2 D h; omega, ae.out.1⟩, fun E hE => by
       rcases Lv.1 hE with rfl | hE
       · exact ⟨by omega, hK⟩
       · obtain ⟨e1, e2, e3⟩ := ae.out.2 E hE
         exact ⟨e1, g.block E _ (fun hx => by have := HC.out.hX E hx; omega) e3⟩⟩, ha⟩))
      clear z g hK bd hD;have ea : (N : Int) ≤ 2000 := by omega
      gi_wp2_with fail
      refine HF.out _ ?_
      repeat apply Exists.intro
      exact rfl
end Go.Proofs.YtdcmppdhdcjpfaaGreat
