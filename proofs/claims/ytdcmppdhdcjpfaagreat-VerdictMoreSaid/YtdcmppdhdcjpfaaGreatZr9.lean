/- Lemmas for VerdictMoreP. -/
import Derived.Test.YtdcmppdhdcjpfaaGreatZr1
import Derived.Test.YtdcmppdhdcjpfaaGreatZr8
import Derived.Test.YtdcmppdhdcjpfaaGreatZr3
import Derived.Deep.RegionHeld3
import Derived.Sort.LoopGhostIn
set_option linter.unusedVariables false
set_option linter.unusedSimpArgs false
set_option maxRecDepth 100000
set_option maxHeartbeats 16000000
namespace Go.Proofs.YtdcmppdhdcjpfaaGreat
open Go.RowKit Go.Deep
attribute [local go_sem] Oper.semAt_some
structure KpX (X : Nat → Prop) (A B : World) : Prop where
 block : ∀ k o, ¬ X k → A.heap[k]? = some o → B.heap[k]? = some o
 size : A.heap.size ≤ B.heap.size
theorem KpX.trans {X : Nat → Prop} {A B C : World} (h : KpX X A B) (k : KpX X B C) : KpX X A C := ⟨fun i o hx ho => k.block i o hx (h.block i o hx ho), Nat.le_trans h.size k.size⟩
theorem KpX.refl (X : Nat → Prop) (A : World) : KpX X A A := ⟨fun _ _ _ h => h, Nat.le_refl _⟩
theorem KpX.of_below {X : Nat → Prop} {A B : World} (h : Below A.heap.size A B) : KpX X A B := ⟨fun k o _ ho => by rw [h.block k (Array.getElem?_eq_some_iff.1 ho).1]; exact ho, h.size⟩
theorem KpX.more {X Y : Nat → Prop} {A B : World} (h : KpX X A B) (hs : ∀ k, X k → Y k) : KpX Y A B := ⟨fun k o hx ho => h.block k o (fun hk => hx (hs k hk)) ho, h.size⟩
theorem KpX.row {X : Nat → Prop} {A B : World} (h : KpX X A B) {g : Nat} {t : TypeId} {cs : Array Value} (hr : Row A g t cs) (hx : ¬ X g) : Row B g t cs := h.block g _ hx hr
theorem KpX.keeps {X : Nat → Prop} {A B : World} (h : KpX X A B) {b : Nat} (hb : ∀ k, X k → k < b) : KeepsFrom b A B := ⟨h.size, fun k o hk ho _ => h.block k o (fun hx => by have := hb k hx; omega) ho⟩
theorem KpX.rd {X : Nat → Prop} {A B : World} (h : KpX X A B) {ad : Option Addr} {xs : List Value} (hr : Rd A ad xs) (hx : xs ≠ [] → ∀ a, ad = some a → ¬ X a.block) : Rd B ad xs := fun j u hj => by
 obtain ⟨a, e, hc⟩ := hr j u hj
 have hne : xs ≠ [] := fun e => by rw [e] at hj; simp at hj
 have hlt := World.block_lt_of_cell? _ _ hc
 have hbl : (a.add j).block = a.block := JV a j
 rw [hbl] at hlt
 have h1 : A.heap[a.block]? = some A.heap[a.block] := Array.getElem?_eq_getElem hlt
 have h2 := h.block _ _ (hx hne a e) h1
 exact ⟨a, e, (World.cell?_of_block (by rw [hbl]; exact h2.trans h1.symm)).trans hc⟩
structure PtX where
 to : Nat
 A : Option Addr
 cap : Nat
 l : List Int
def PtX.f (x : PtX) : Nat × List Int := (x.to, x.l)
def PtX.enc (x : PtX) : Array Value := #[.int .i64 (x.to : Int), .slice x.A x.l.length x.cap]
structure PtX.ok (x : PtX) (W : World) : Prop where
 rd : Rd W x.A (Qi x.l)
 nil : x.A = none → x.l = []
 len : x.l.length ≤ 2000
theorem PtX.ok.go {x : PtX} {W W' : World} (h : x.ok W) (b : Below W.heap.size W W') : x.ok W' := ⟨h.rd.go b, h.nil, h.len⟩
def PxP (lo : Nat) (full : List (Nat × List Int)) (pre : List PtX) (x : PtX) (W : World) : Prop := (x.ok W ∧ ∀ ad, x.A = some ad → lo ≤ ad.block) ∧ ∃ rest, pre.map PtX.f ++ x.f :: rest = full
def Aip (lo : Nat) (l : List Nd) (X : Nat → Prop) (ba bo bl : Nat) (own : List Int) (q : Nat) (t : Tr) (w : World) : Prop :=
 UZ Tryz.prog 284 #[.pointer (some ⟨ba, 0, none⟩), .pointer (some ⟨bo, 0, none⟩), .pointer (some ⟨bl, 0, none⟩)] PtX.enc (fun _ => False) (fun lb => KpX (fun i => X i ∨ i = lb)) (PxP lo (QX own q t)) (fun xs => xs.map PtX.f = QX own q t) (fun _ => True) t.size True w
structure PathsC (lo : Nat) (A : Option Addr) (cap : Nat) (l : List Nd) (X : Nat → Prop) (ba bo bl : Nat) (oa : Option Addr) (oc : Nat) (own : List Int) (q : Nat) (w : World) : Prop where
 hr : Rd w A (l.flatMap Nd.cells)
 hA : l.flatMap Nd.cells ≠ [] → ∀ ad, A = some ad → ¬ X ad.block
 rl : Row w bl 23 #[.slice A l.length cap]
 ra : Row w ba 3 #[.int .i64 (q : Int)]
 ro : Row w bo 22 #[.slice oa own.length oc]
 xl : ¬ X bl
 xa : ¬ X ba
 xo : ¬ X bo
 ho : Rd w oa (Qi own)
 hoX : Qi own ≠ [] → ∀ ad, oa = some ad → ¬ X ad.block
 hon : oa = none → own = []
 hX : ∀ k, X k → k < w.heap.size
 hlo : ∀ ad, oa = some ad → lo ≤ ad.block
 hls : lo ≤ w.heap.size
theorem PathsC.kx {lo : Nat} {A : Option Addr} {cap : Nat} {l : List Nd} {X : Nat → Prop} {ba bo bl : Nat} {oa : Option Addr} {oc : Nat} {own : List Int} {q : Nat} {w w' : World} (h : PathsC lo A cap l X ba bo bl oa oc own q w) (k : KpX X w w') : PathsC lo A cap l X ba bo bl oa oc own q w' :=
 ⟨k.rd h.hr h.hA, h.hA, k.row h.rl h.xl, k.row h.ra h.xa, k.row h.ro h.xo, h.xl, h.xa, h.xo, k.rd h.ho h.hoX, h.hoX, h.hon, fun i hi => Nat.lt_of_lt_of_le (h.hX i hi) k.size, h.hlo, Nat.le_trans h.hls k.size⟩
theorem Xj {W : World} {A : Option Addr} {xs : List Value} (h : Rd W A xs) (hne : xs ≠ []) {ad : Addr} (e : A = some ad) : ad.block < W.heap.size := by
 cases xs with
 | nil => exact absurd rfl hne
 | cons u xs =>
  obtain ⟨a, e2, hc⟩ := h 0 u rfl
  have := World.block_lt_of_cell? _ _ hc
  rw [JV] at this
  rw [e] at e2; injection e2 with e2; rw [e2]; exact this
theorem PathsC.add {lo : Nat} {A : Option Addr} {cap : Nat} {l : List Nd} {X : Nat → Prop} {ba bo bl : Nat} {oa : Option Addr} {oc : Nat} {own : List Int} {q : Nat} {w W : World} {lb : Nat} (h : PathsC lo A cap l X ba bo bl oa oc own q w) (b : Below w.heap.size w W) (h1 : w.heap.size ≤ lb) (h2 : lb < W.heap.size) : PathsC lo A cap l (fun i => X i ∨ i = lb) ba bo bl oa oc own q W := by
 have no : ∀ k, k < w.heap.size → ¬ X k → ¬ (X k ∨ k = lb) := fun k hk hx h => by
  rcases h with h | h
  · exact hx h
  · omega
 exact ⟨h.hr.go b, fun hne ad e => no _ (Xj h.hr hne e) (h.hA hne ad e), h.rl.below b h.rl.lt, h.ra.below b h.ra.lt, h.ro.below b h.ro.lt, no _ h.rl.lt h.xl, no _ h.ra.lt h.xa, no _ h.ro.lt h.xo, h.ho.go b, fun hne ad e => no _ (Xj h.ho hne e) (h.hoX hne ad e), h.hon, fun k hk => by
  rcases hk with hk | hk
  · exact Nat.lt_of_lt_of_le (h.hX k hk) b.size
  · omega, h.hlo, Nat.le_trans h.hls b.size⟩
def Ahh (D : Nat) : Deferred := { target := .collected D, args := #[] }
theorem KS {F : Fence} {n : Nat} {P : Program} {fn : Func} {tmps : Array Value} {R : Ending → World → Prop} (Jp : World → Prop) (base : Nat) (hput : ∀ (W : World) (D : Nat), base ≤ D → W.heap[D]? = some (.deferred (some [])) → Jp W → Jp (W.putObj D (.deferred none))) (hend : ∀ W, Jp W → LeavesInM F n P fn tmps R [] .returning W) :
 ∀ (Ds : List Nat) (w : World), Ds.Nodup → (∀ D ∈ Ds, base ≤ D ∧ w.heap[D]? = some (.deferred (some []))) → Jp w → LeavesInM F n P fn tmps R (Ds.map Ahh) .returning w
 | [], w, _, _, h => hend w h
 | D :: Ds, w, hn, hD, h => by
  obtain ⟨h1, h2⟩ := hD D (by simp)
  rw [List.nodup_cons] at hn
  refine ⟨by simp, .inl ⟨D, _, rfl, run_takeDeferred h2, KS Jp base hput hend Ds _ hn.2 (fun E hE => ?_) (hput w D h1 h2 h)⟩⟩
  obtain ⟨h3, h4⟩ := hD E (by simp [hE])
  exact ⟨h3, by rw [World.putObj_heap_other (fun e => hn.1 (by rw [← e]; exact hE))]; exact h4⟩
theorem Tr.kid_lt {ks : List Tr} {j : Nat} {k : Tr} (h : ks[j]? = some k) {x : Nd} : k.size < (Tr.node x ks).size := by
 have h1 := YH (List.mem_of_getElem? h)
 have h2 := Tr.size_eq (Tr.node x ks)
 have h3 : (Tr.node x ks).kids = ks := rfl
 rw [h3] at h2; omega
theorem KpX.grown {X : Nat → Prop} {w A B : World} (h : KpX X w A) {row : Option Nat} (hg : A.grownBy B row) (hr : ∀ r, row = some r → w.heap.size ≤ r) : KpX X w B :=
 ⟨fun k o hx ho => by
  have h1 := h.block k o hx ho
  have hk := (Array.getElem?_eq_some_iff.1 ho).1
  exact (hg.block k (Array.getElem?_eq_some_iff.1 h1).1 (fun e => by have := hr k e.symm; omega)).trans h1, Nat.le_trans h.size hg.size⟩
theorem Rd.grown {A B : World} {ad : Option Addr} {xs : List Value} (h : Rd A ad xs) {row : Option Nat} (hg : A.grownBy B row) (hr : ∀ r, row = some r → ∃ o : Obj, A.heap[r]? = some o ∧ o.isCells = false) : Rd B ad xs := fun j u hj => by
 obtain ⟨a, e, hc⟩ := h j u hj
 have hc2 : (A.cell? (a.add j)).isSome = true := by rw [hc]; rfl
 refine ⟨a, e, ?_⟩
 have hb : row ≠ some (a.add j).block := fun e => by
  obtain ⟨o, ho, hno⟩ := hr _ e
  unfold World.cell? at hc
  split at hc
  · rename_i cs t fr hh
    rw [hh] at ho; injection ho with ho; subst ho; cases hno
  · cases hc
 exact (World.cell?_of_block (hg.block _ (World.block_lt_of_cell? _ _ hc) (Ne.symm hb))).trans hc
theorem Aaf {Q : Exit → Act → World → Prop} {a : Act} {w : World} (h : Q .normal a w) : NoPanic Q .normal a w := h
theorem YD : ∀ ks : List Tr, ks.length ≤ (QF ks).length
 | [] => by simp
 | .node x k :: ks => by
  have := YD ks
  rw [QF, List.length_append, Tr.flat, List.length_cons, List.length_cons]; omega
structure PathsFn (A : Option Addr) (cap : Nat) (l : List Nd) (q : Nat) (oa : Option Addr) (oc : Nat) (own : List Int) (w w' : World) (e : Ending) : Prop where
 ex : ∃ bl ba bo, e = .returned (.func (.func 284) #[] #[.pointer (some ⟨ba, 0, none⟩), .pointer (some ⟨bo, 0, none⟩), .pointer (some ⟨bl, 0, none⟩)]) ∧ Row w' bl 23 #[.slice A l.length cap] ∧ Row w' ba 3 #[.int .i64 (q : Int)] ∧ Row w' bo 22 #[.slice oa own.length oc] ∧ w.heap.size ≤ bl ∧ w.heap.size ≤ ba ∧ w.heap.size ≤ bo ∧ Below w.heap.size w w'
theorem XS (A : Option Addr) (cap : Nat) (l : List Nd) (q : Nat) (oa : Option Addr) (oc : Nat) (own : List Int) (w : World) :
 Calls Tryz.prog 266 #[.slice A l.length cap, .int .i64 (q : Int), .slice oa own.length oc] w fun e w' => PathsFn A cap l q oa oc own w w' e := by
 go_enter Tryz.func266, Tryz.ntmps266
 go_wp2_with (refine Qp _ _ rfl ?_)
 refine Stop.to ?_
 refine Qf rfl 23 _ rfl #[.slice A l.length cap] rfl ?_
 intro G Gw Gh Gr Gb
 go_wp2_with (refine Qp _ _ rfl ?_)
 refine Stop.to ?_
 refine Qf rfl 3 _ rfl #[.int .i64 (q : Int)] rfl ?_
 intro J Jw Jh Jr Jb
 go_wp2_with (refine Qp _ _ rfl ?_)
 refine Stop.to ?_
 refine Qf rfl 22 _ rfl #[.slice oa own.length oc] rfl ?_
 intro K Kw Kh Kr Kb
 have rG := (Gr.below Jb (Nat.lt_of_lt_of_le Gr.lt Jh)).below Kb (by have := Gr.lt; have := Jb.size; omega)
 have rJ := Jr.below Kb (Nat.lt_of_lt_of_le Jr.lt Kh)
 have b1 := (Below.refl w.heap.size w).trans (Gb.mono Gh)
 have b2 := b1.trans ((Jb.mono Jh).mono b1.size)
 have b3 := b2.trans ((Kb.mono Kh).mono b2.size)
 have hJ : w.heap.size ≤ J := Nat.le_trans b1.size Jh
 have hK : w.heap.size ≤ K := Nat.le_trans b2.size Kh
 clear Gr Jr Gb Jb Kb b1 b2
 go_wp2
 go_ret
 exact ⟨G, J, K, rfl, rG, rJ, Kr, Gh, hJ, hK, b3⟩
theorem KU {own : List Int} {r : Nat} {j : Nat} {ks : List Tr} {k : Tr} (hk : ks[j]? = some k) : Zl own r (j : Int) (ks.drop j) = QX (own ++ [(j : Int)]) r k ++ Zl own (r + k.size) ((j + 1 : Nat) : Int) (ks.drop (j + 1)) := by
 obtain ⟨hl, rfl⟩ := List.getElem?_eq_some_iff.1 hk
 rw [List.drop_eq_getElem_cons hl, Zl]
 congr 1
theorem AdU {q r j : Nat} {ks : List Tr} {k : Tr} (hk : ks[j]? = some k) (h : Ze r (ks.drop j) = (Ze (q + 1) ks).drop j) : (Ze (q + 1) ks)[j]? = some r ∧ Ze (r + k.size) (ks.drop (j + 1)) = (Ze (q + 1) ks).drop (j + 1) := by
 obtain ⟨hl, rfl⟩ := List.getElem?_eq_some_iff.1 hk
 rw [List.drop_eq_getElem_cons hl, Ze] at h
 constructor
 · have := congrArg (fun l => l[0]?) h
   simp at this; exact this.symm
 · have := congrArg (fun l => l.drop 1) h
   simp only [List.drop_succ_cons, List.drop_zero, List.drop_drop] at this
   exact this
theorem Aen : (Tryz.prog.info? 3).map (fun i => (i.zero, i.size)) = some (some (.int .i64 0), 1) := by kernel_rfl
theorem AdO (A : Option Addr) (cap : Nat) (l : List Nd) (hl : l.length ≤ 1000) : ∀ (n : Nat) (t : Tr) (q : Nat) (own : List Int), t.size ≤ n → own.length + t.size ≤ 2000 → At l q t → ∀ (lo : Nat) (X : Nat → Prop) (ba bo bl : Nat) (oa : Option Addr) (oc : Nat) (w : World), PathsC lo A cap l X ba bo bl oa oc own q w → Aip lo l X ba bo bl own q t w := by
 intro n
 induction n with
 | zero => intro t q own hn _ hat; have := hat.le; cases t; simp [Tr.size, Tr.flat] at hn
 | succ n ih =>
 intro t q own hn hol hat lo X ba bo bl oa oc w hC
 intro lb J Jx W hlb hwW _ hJ hJx hY h0
 have Hih := Lh ih
 have Hl := Lh hl
 have Hn := Lh hn
 have Hol := Lh hol
 have Hat := Lh hat
 have hbw : Below w.heap.size w W := ⟨hwW.os, hwW.tape, hwW.output, hwW.size, fun k hk => hwW.block k hk (by simp)⟩
 have hC1 := hC.add hbw hlb.1 hlb.2
 clear hC hlb hbw hwW w
 replace hY : ∀ pre x W1, J pre W1 → PxP lo (QX own q t) pre x W1 → pre.length < t.size → YieldAt Fence.wide 0 Tryz.prog lb (PtX.enc x) W1 fun e W' => (e = .returned (.bool true) ∧ J (pre ++ [x]) W' ∧ KpX (fun i => X i ∨ i = lb) W1 W') ∨ (e = .returned (.bool false) ∧ Jx (pre ++ [x]) W' ∧ KpX (fun i => X i ∨ i = lb) W1 W') := hY
 generalize (fun i => X i ∨ i = lb) = X1 at hC1 hY
 clear X
 obtain ⟨X, rfl⟩ : ∃ X, X = X1 := ⟨_, rfl⟩
 have HC := Lh hC1
 have HJ := Lh hJ
 have HJx := Lh hJx
 have HY := Lh hY
 clear ih hl hn hol hat hC1 hJ hJx hY
 refine callsIn_of_wp_marks Tryz.func284 rfl trivial ?_ rfl
 simp only [Tryz.ntmps284, List.size_toArray, List.length_cons, List.length_nil, Nat.reduceAdd, Nat.reduceSub, Array.replicate_succ, Array.replicate_zero, List.push_toArray, List.append_toArray, List.nil_append, List.cons_append]
 obtain ⟨Y, hYd⟩ : ∃ Y, Y = W.heap.size := ⟨_, rfl⟩
 obtain ⟨W1, hW1⟩ : ∃ W1, W1 = W.alloc (.cells #[.func (.yield lb) #[] #[]] 329) := ⟨_, rfl⟩
 have rY : Row W1 Y 329 #[.func (.yield lb) #[] #[]] := by rw [hW1, hYd]; exact Row.new _ _ _
 have b1 : Below W.heap.size W W1 := by rw [hW1]; exact (Below.refl _ _).alloc (Nat.le_refl _) _
 have hXY : ¬ X Y := fun h => by have := HC.out.hX Y h; omega
 have h1 : J [] W1 := QB HJ.out h0 b1
 have HC1 := Lh (HC.out.kx (KpX.of_below b1))
 have cA := HC1.out.ra.cellv (i := 0) (v := .int .i64 (q : Int)) rfl
 have cO := HC1.out.ro.cellv (i := 0) (v := .slice oa own.length oc) rfl
 have cY := rY.cellv (i := 0) (v := .func (.yield lb) #[] #[]) rfl
 have hpx : PxP lo (QX own q t) [] ⟨q, oa, oc, own⟩ W1 := by
  refine ⟨⟨⟨HC1.out.ho, HC1.out.hon, by have := Hol.out; simp only; omega⟩, HC1.out.hlo⟩, ?_⟩
  cases t with
  | node x ks => exact ⟨Zl own (q + 1) 0 ks, by rw [QX]; rfl⟩
 obtain ⟨fn, tmps, assign, body, hy, hR⟩ := HY.out _ ⟨q, oa, oc, own⟩ _ h1 hpx (by cases t; simp [Tr.size, Tr.flat])
 have hy' : (Instr.yield lb #[.int .i64 (q : Int), .slice oa own.length oc]).run Tryz.prog W1 = .ok (.round lb fn tmps assign body) W1 := hy
 have HR := Lh hR
 have Hb1 := Lh b1
 have HXY := Lh hXY
 have Hsz := Lh hYd
 clear hR hy h0 h1 hpx b1 hXY
 subst hYd
 subst hW1
 gi_wp2_with fail
 refine ⟨rfl, HR.out.mono ?_⟩
 rintro e W2 (⟨rfl, hj, hk⟩ | ⟨rfl, hjx, hk⟩)
 rotate_left
 · clear cA cO cY hy' HR hk
   gi_wp2
   exact ⟨_, results_none rfl _ _ _, ⟨_, rfl⟩, .inr ⟨_, trivial, hjx⟩⟩
 have HC2 := Lh (HC1.out.kx hk)
 have rY2 := hk.row rY HXY.out
 have cA2 := HC2.out.ra.cellv (i := 0) (v := .int .i64 (q : Int)) rfl
 have cL2 := HC2.out.rl.cellv (i := 0) (v := .slice A l.length cap) rfl
 have szY : W.heap.size < W2.heap.size := rY2.lt
 clear cA cO cY hy' HR hk rY HC1 Hb1 Hsz
 gi_wp2_with fail
 refine ⟨trivial, rfl, (callsIn_wide.2 (XN A cap l (q : Int) W2 HC2.out.hr Hl.out)).mono ?_⟩
 rintro e w2 ⟨v, rfl, hown, b2⟩
 obtain ⟨KA, kc, rfl, hKr, hKc, hKn, hKb⟩ := Xy hown
 obtain ⟨rt, ks, rfl⟩ : ∃ rt ks, t = .node rt ks := by cases t; exact ⟨_, _, rfl⟩
 have hkz : kidsZ l (q : Int) = JC (Ze (q + 1) ks) := Hat.out.kidsZ
 have hsl : (Ze (q + 1) ks).length = ks.length := JF _ _
 obtain ⟨N, hN⟩ : ∃ N, N = ks.length := ⟨_, rfl⟩
 have hkl : (kidsZ l (q : Int)).length = N := by rw [hkz, Aae, hsl, hN]
 have hNle : N ≤ 2000 := by
  have h1 : ks.length ≤ (Tr.node rt ks).size := by have := YD ks; rw [Tr.size, Tr.flat, List.length_cons]; omega
  have := Hol.out
  omega
 have h3 := QB HJ.out hj b2
 have HC3 := Lh (HC2.out.kx (KpX.of_below b2))
 have rY3 := rY2.below b2 rY2.lt
 have HKr := Lh hKr
 have HKb := Lh hKb
 have Hkz := Lh hkz
 have HN := Lh hN
 have sz3 : W2.heap.size ≤ w2.heap.size := b2.size
 have HX2 : Hid (Qi (kidsZ l (q : Int)) ≠ [] → ∀ ad, KA = some ad → ¬ X ad.block) := fun _ ad e hx => by have := HKb.out ad e; have := HC2.out.hX _ hx; omega
 clear hown hKr hKb hkz hN hsl b2 hj cA2 cL2 rY2 HC2
 rw [hkl]
 clear hkl
 gi_wp2_with fail
 refine wpIn_loop_ghost_k (fun m a wr => ∃ (j : Nat) (done : List PtX) (r : Nat) (Ds : List Nat), m = N - j ∧ j ≤ N ∧ Hid (done.map PtX.f ++ Zl own r (j : Int) (ks.drop j) = QX own q (.node rt ks)) ∧ Hid (Ze r (ks.drop j) = (Ze (q + 1) ks).drop j) ∧ Hid (KpX X w2 wr) ∧ J done wr ∧ Hid (Ds.Nodup ∧ ∀ D ∈ Ds, W.heap.size ≤ D ∧ wr.heap[D]? = some (.deferred (some []))) ∧ ∃ u5 u6 u7 u8 u19 u20 u21 u22 u23 u24 u25 u26 u27 u28 u29 u30 u31 u32 u33 u34 u35 u36 u37 u38, a = { tmps := #[.func (.yield lb) #[] #[], .pointer (some ⟨ba, 0, none⟩), .pointer (some ⟨bo, 0, none⟩), .pointer (some ⟨bl, 0, none⟩), .pointer (some ⟨W.heap.size, 0, none⟩), u5, u6, u7, u8, .func (.yield lb) #[] #[], .int .i64 (q : Int), .slice oa own.length oc, .bool true, .bool false, .slice A l.length cap, .int .i64 (q : Int), .slice KA N kc, .int .i64 (N : Int), .int .i64 (j : Int), u19, u20, u21, u22, u23, u24, u25, u26, u27, u28, u29, u30, u31, u32, u33, u34, u35, u36, u37, u38], defers := Ds.map Ahh }) N ⟨0, _, q + 1, [], rfl, Nat.zero_le _, by show _ = _; rw [QX]; rfl, by show _ = _; rfl, Lh (KpX.refl _ _), h3, ⟨List.nodup_nil, fun D h => by simp at h⟩, _, _, _, _, _, _, _, _, _, _, _, _, _, _, _, _, _, _, _, _, _, _, _, _, rfl⟩ ?_
 · clear h3
   rintro m a wr ⟨j, done, r, Ds, rfl, hjN, Hd, Hs, Hk, hj, HDs, u5, u6, u7, u8, u19, u20, u21, u22, u23, u24, u25, u26, u27, u28, u29, u30, u31, u32, u33, u34, u35, u36, u37, u38, rfl⟩ JJ KK hJJ hKK
   have HJJ := Lh hJJ
   have HKK := Lh hKK
   clear hJJ hKK
   by_cases hlt : j < N
   rotate_left
   · obtain rfl : j = N := by omega
     gi_wp2_with fail
     have hxs : done.map PtX.f = QX own q (.node rt ks) := by
      have := Hd.out
      rw [List.drop_of_length_le (by rw [HN.out]; exact Nat.le_refl _), Zl, List.append_nil] at this
      exact this
     exact KS (J done) W.heap.size (fun V' E h1 h2 h3 => HJ.out _ _ _ (some E) h3 (grownBy_putObj' _ _ _) (fun r e => by cases e; exact .inr ⟨h1, _, h2, rfl⟩)) (fun V' h => ⟨_, results_none rfl _ _ _, ⟨_, rfl⟩, .inl ⟨_, hxs, h⟩⟩) Ds wr HDs.out.1 HDs.out.2 hj
   obtain ⟨k, hkj⟩ : ∃ k, ks[j]? = some k := ⟨_, List.getElem?_eq_getElem (by have := HN.out; omega)⟩
   obtain ⟨hsp, hs2⟩ := AdU hkj Hs.out
   have hkid := Hat.out.kids.spot j r k hsp hkj
   have HC4 := Lh (HC3.out.kx Hk.out)
   obtain ⟨ka, hka, hkc⟩ := Zf (Hk.out.rd HKr.out HX2.out) (k := j) (x := (r : Int)) (by rw [Hkz.out]; simp [JC, hsp])
   have rY4 := Hk.out.row rY3 HXY.out
   have Hkj := Lh hkj
   have Hs2 := Lh hs2
   have Hkid := Lh hkid
   have hltI : (j : Int) < (N : Int) := by omega
   have sz4 : w2.heap.size ≤ wr.heap.size := Hk.out.size
   have cA4 := HC4.out.ra.cellv (i := 0) (v := .int .i64 (q : Int)) rfl
   have cL4 := HC4.out.rl.cellv (i := 0) (v := .slice A l.length cap) rfl
   have cO4 := HC4.out.ro.cellv (i := 0) (v := .slice oa own.length oc) rfl
   clear hkj hsp hs2 hkid
   subst hka
   gi_wp2_with fail
   refine wpIn_wide.2 ?_
   refine wp_region_noPanic ?_
   refine wp_region_held (S := fun W => PathsC lo A cap l X ba bo bl oa oc own q W) (by kernel_rfl) ?_
   simp only [List.size_toArray, List.length_cons, List.length_nil, Nat.reduceAdd, Array.replicate_succ, Array.replicate_zero, List.push_toArray, List.nil_append, List.cons_append]
   show wpAnyH _ _ _ _ _ _ _ _ wr.drew
   have hS : PathsC lo A cap l X ba bo bl oa oc own q wr.drew := HC4.out.kx (KpX.of_below (St.drew (S := fun W => Below wr.heap.size wr W) (Below.refl _ _)))
   have hb5 : Below wr.heap.size wr wr.drew := St.drew (S := fun W => Below wr.heap.size wr W) (Below.refl _ _)
   generalize wr.drew = w5 at hS hb5 ⊢
   clear cA4 cL4 cO4 hkc
   (refine tkH 0 (.slice A l.length cap) rfl (Qd rfl (fun W hW => by ((have h := hW.rl.cellv (i := 0) (v := .slice A l.length cap) rfl; go_simp)))) ?_; simp only [Act.put, Qa, Qb, Qc])
   (refine tkH 1 (.int .i64 (r : Int)) rfl (Qd rfl (fun W hW => by (go_simp))) ?_; simp only [Act.put, Qa, Qb, Qc])
   (refine tkH 2 (.slice oa own.length oc) rfl (Qd rfl (fun W hW => by ((have h := hW.ro.cellv (i := 0) (v := .slice oa own.length oc) rfl; go_simp)))) ?_; simp only [Act.put, Qa, Qb, Qc])
   (refine tkH 4 (.int .i64 (j : Int)) rfl (Qd rfl (fun W hW => by (go_simp))) ?_; simp only [Act.put, Qa, Qb, Qc])
   refine wpAnyH_all (rs := [3, 5]) (by kernel_rfl) (by simp) (fun i hi => ?_)
   have hi2 : i = 3 ∨ i = 5 := by simpa using hi
   clear hi
   rcases hi2 with rfl | rfl
   · refine Qe rfl rfl (fun K2 hK2 => ?_)
     refine Qx 117 #[.slice oa own.length oc] (w1 := w5) (by go_simp) ((Ua oa oc own w5 hS.ho hS.hon (by have := Hol.out; omega)).mono ?_)
     rintro e w6 ⟨v6, rfl, hown6, b6⟩
     refine ⟨_, rfl, ?_⟩
     refine hK2 _ _ ?_
     clear hK2 K2
     simp only [Act.put, Qa, Qb, Qc]
     have hS6 := hS.kx (KpX.of_below b6)
     refine ⟨hS6, ?_⟩
     (refine wpAnyH_all (rs := [5]) (by kernel_rfl) (by simp) (fun i hi => ?_); obtain rfl : i = 5 := by simpa using hi)
     refine Qe rfl rfl (fun K2 hK2 => ?_)
     refine Qj (.slice (some ⟨w6.heap.size, 0, none⟩) 1 1) (Qn [(0, .tmp 27)] rfl (ZH (cells := #[.int .i64 (j : Int)]) Tryz.underlying22 Aen (by decide) (by decide) (by kernel_rfl) w6)) ?_
     have rg := ZZ w6 [.int .i64 (j : Int)] 3
     have b67 := (Below.refl w6.heap.size w6).alloc (Nat.le_refl _) (.cells #[.int .i64 (j : Int)] 3)
     have hown7 := Qs hown6 b67
     refine hK2 _ _ ?_
     clear hK2 K2
     simp only [Act.put, Qa, Qb, Qc]
     have b57 : Below w5.heap.size w5 (w6.alloc (.cells #[.int .i64 (j : Int)] 3)) := b6.trans (b67.mono b6.size)
     generalize w6.alloc (.cells #[.int .i64 (j : Int)] 3) = w7 at rg b57 hown7 ⊢
     clear b67
     obtain ⟨gg, hgg⟩ : ∃ gg, gg = w6.heap.size := ⟨_, rfl⟩
     rw [← hgg] at rg ⊢
     clear hgg
     refine ⟨hS.kx (KpX.of_below b57), ?_⟩
     have hol := Hol.out
     obtain ⟨v8, w8, hrun, hown8, hgr, _⟩ := ZB (P := Tryz.prog) 22 3 (.int .i64 0) 1 8 Tryz.underlying22 Jn rfl (by decide) (by decide) hown7 b57.size rg (m := 1) (cap := 1) rfl (Jo [(j : Int)]) (by simp) (by omega)
     have b58 := Qm b57 hown7 hgr b57.size (Nat.le_refl _)
     rw [show Qi own ++ [Value.int .i64 (j : Int)] = Qi (own ++ [(j : Int)]) by simp [Qi]] at hown8
     obtain ⟨oa8, oc8, rfl, ho8, _, hon8, hob8⟩ := Xy hown8
     have hl8 : own.length + 1 = (own ++ [(j : Int)]).length := by simp
     rw [hl8] at hrun
     have Hrun := Lh hrun
     clear hl8 hol hrun hown7 hown8 hgr rg
     (refine wpAnyH_all (rs := [6]) (by kernel_rfl) (by simp) (fun i hi => ?_); obtain rfl : i = 6 := by simpa using hi)
     refine Qe rfl rfl (fun K2 hK2 => ?_)
     refine Qj _ (Qq rfl Hrun.out) ?_
     refine hK2 _ _ ?_
     clear hK2 K2 Hrun
     simp only [Act.put, Qa, Qb, Qc]
     have hS8 := hS.kx (KpX.of_below b58)
     refine ⟨hS8, ?_⟩
     (refine wpAnyH_all (rs := [7]) (by kernel_rfl) (by simp) (fun i hi => ?_); obtain rfl : i = 7 := by simpa using hi)
     refine Qe rfl rfl (fun K2 hK2 => ?_)
     refine Qx 266 #[.slice A l.length cap, .int .i64 (r : Int), .slice oa8 (own ++ [(j : Int)]).length oc8] (w1 := w8) (by go_simp) ((XS A cap l r oa8 oc8 (own ++ [(j : Int)]) w8).mono ?_)
     rintro e w9 ⟨bl9, ba9, bo9, rfl, rl9, ra9, ro9, gl9, ga9, go9, b89⟩
     refine ⟨_, rfl, ?_⟩
     refine hK2 _ _ ?_
     clear hK2 K2
     simp only [Act.put, Qa, Qb, Qc]
     have hS9 := hS8.kx (KpX.of_below b89)
     refine ⟨hS9, ?_⟩
     refine wpAnyH_done (by kernel_rfl) ?_ _
     have hk9 : KpX X wr w9 := KpX.of_below (hb5.trans (b58.mono hb5.size |>.trans (b89.mono (by have := b58.size; have := hb5.size; omega))))
     have rY9 := hk9.row rY4 HXY.out
     have h9 : J done w9 := QB HJ.out hj (hb5.trans ((b58.mono hb5.size).trans (b89.mono (by have := b58.size; have := hb5.size; omega))))
     clear rY4 hj
     have hC9 : PathsC lo A cap l X ba9 bo9 bl9 oa8 oc8 (own ++ [(j : Int)]) r w9 := ⟨hS9.hr, hS9.hA, rl9, ra9, ro9, fun h => by have := hS8.hX _ h; omega, fun h => by have := hS8.hX _ h; omega, fun h => by have := hS8.hX _ h; omega, ho8.go b89, fun _ ad e h => by have := hob8 ad e; have := hS.hX _ h; omega, fun e => by have := hon8 e; omega, hS9.hX, fun ad e => by have := hob8 ad e; have := hS.hls; omega, hS9.hls⟩
     have hX9 : ∀ i, X i → i < w9.heap.size := hS9.hX
     have HC9 := Lh hC9
     have Hk9 := Lh hk9
     have HX9 := Lh hX9
     have HD9 : Hid (Ds.Nodup ∧ ∀ D ∈ Ds, W.heap.size ≤ D ∧ D < w9.heap.size ∧ w9.heap[D]? = some (.deferred (some []))) := ⟨HDs.out.1, fun D hD => by
      obtain ⟨e1, e2⟩ := HDs.out.2 D hD
      have e3 := hk9.block D _ (fun hx => by have := HC.out.hX D hx; omega) e2
      exact ⟨e1, (Array.getElem?_eq_some_iff.1 e3).1, e3⟩⟩
     clear hS hS6 hS8 hS9 hb5 b58 b89 b57 rl9 ra9 ro9 gl9 ga9 go9 ho8 hon8 hob8 hC9 hk9 hX9 HC4
     refine Aaf ?_
     gi_wp2_with fail
     have hks := Tr.kid_lt Hkj.out (x := rt)
     have Hit := Lh (Hih.out k r (own ++ [(j : Int)]) (by have := Hn.out; omega) (by have := Hol.out; simp; omega) Hkid.out.1 lo X ba9 bo9 bl9 oa8 oc8 w9 HC9.out)
     clear hks
     have s9 : W.heap.size < w9.heap.size := rY9.lt
     have HI0 : Hid (J done w9 ∧ KpX X w9 w9) := ⟨h9, KpX.refl _ _⟩
     clear h9
     refine XT (gf := 284) (lb := #[.pointer (some ⟨ba9, 0, none⟩), .pointer (some ⟨bo9, 0, none⟩), .pointer (some ⟨bl9, 0, none⟩)]) rfl (enters_of Tryz.func284 (by kernel_rfl) rfl) Hit.out (fun r h => h.elim)
      (fun h k => h.trans k) (fun V o o' ho hc => ⟨fun i p hx hp => by rw [World.putObj_heap_other (fun e => hx (.inr e))]; exact hp, by simp⟩) (World.grownBy.refl _ _) (fun _ => rfl)
      (fun pre V => J (done ++ pre) V ∧ KpX X w9 V) (fun c pre V => c = .ret ∧ Jx (done ++ pre) V ∧ KpX X w9 V) (.inl trivial) ?hI ?hIx (by rw [List.append_nil]; exact HI0.out)
      (fun pre x a' V => a' = { tmps := #[.func (.yield lb) #[] #[], .pointer (some ⟨ba, 0, none⟩), .pointer (some ⟨bo, 0, none⟩), .pointer (some ⟨bl, 0, none⟩), .pointer (some ⟨W.heap.size, 0, none⟩), .int .i64 (j : Int), .int .i64 (r : Int), .int .i64 (x.to : Int), .slice x.A x.l.length x.cap, .func (.yield lb) #[] #[], .int .i64 (q : Int), .slice oa own.length oc, .bool true, .bool false, .slice A l.length cap, .int .i64 (q : Int), .slice (some ka) N kc, .int .i64 (N : Int), .int .i64 (j : Int), .bool true, .int .i64 (j : Int), .pointer (some (ka.add j)), .int .i64 (r : Int), .slice A l.length cap, .int .i64 (r : Int), .slice oa own.length oc, v6, .int .i64 (j : Int), .slice (some ⟨gg, 0, none⟩) 1 1, .slice oa8 (own.length + 1) oc8, .func (.func 284) #[] #[.pointer (some ⟨ba9, 0, none⟩), .pointer (some ⟨bo9, 0, none⟩), .pointer (some ⟨bl9, 0, none⟩)], .int .i64 (x.to : Int), .slice x.A x.l.length x.cap, u33, u34, u35, u36, u37, u38], defers := [] } ∧ PxP lo (QX (own ++ [(j : Int)]) r k) pre x V) ?hAx ?assign ?body ?done ?stop
     case hI =>
      rintro pre V V' row ⟨h1, h2⟩ hg hr
      refine ⟨HJ.out _ _ _ row h1 hg (fun i e => .inr ?_), h2.grown hg (fun i e => ?_)⟩
      · rcases hr i e with h | ⟨h, o⟩
        · exact h.elim
        · exact ⟨by omega, o⟩
      · rcases hr i e with h | ⟨h, o⟩
        · exact h.elim
        · exact h
     case hIx =>
      rintro c pre V V' row ⟨h1, h2, h3⟩ hg hr
      refine ⟨h1, HJx.out _ _ _ row h2 hg (fun i e => .inr ?_), h3.grown hg (fun i e => ?_)⟩
      · rcases hr i e with h | ⟨h, o⟩
        · exact h.elim
        · exact ⟨by omega, o⟩
      · rcases hr i e with h | ⟨h, o⟩
        · exact h.elim
        · exact h
     case hAx =>
      rintro pre x a' _ V V' row ⟨h1, ⟨h2, h4⟩, h3⟩ hg hr
      refine ⟨h1, ⟨⟨h2.rd.grown hg (fun i e => ?_), h2.nil, h2.len⟩, h4⟩, h3⟩
      rcases hr i e with h | ⟨h, o⟩
      · exact h.elim
      · exact o
     case assign =>
      rintro l3 pre x V K hI hP hK
      have HK := Lh hK
      have HI := Lh hI
      have HP := Lh hP
      clear hK hI hP
      unfold PtX.enc
      gi_wp2_with fail
      exact HK.out _ _ (KeepsFrom.refl _ _) (KpX.refl _ _) HI.out ⟨rfl, HP.out⟩
     case body =>
      rintro l3 pre x a' V hl3 _ ⟨h1, h2⟩ ⟨rfl, hP⟩ hlen
      have rYV := h2.row rY9 HXY.out
      have cYV := rYV.cellv (i := 0) (v := .func (.yield lb) #[] #[]) rfl
      obtain ⟨hok, rest, hrest⟩ := hP
      have hful : PxP lo (QX own q (.node rt ks)) (done ++ pre) x V := ⟨hok, rest ++ Zl own (r + k.size) ((j + 1 : Nat) : Int) (ks.drop (j + 1)), by rw [← Hd.out, KU Hkj.out, ← hrest]; simp⟩
      have hlen2 : (done ++ pre).length < (Tr.node rt ks).size := by
       obtain ⟨_, rest2, h3⟩ := hful
       have h4 := congrArg List.length h3
       rw [Z8] at h4
       simp at h4
       simp
       omega
      obtain ⟨fn2, tmps2, assign2, body2, hy, hR⟩ := HY.out _ x _ h1 hful hlen2
      have hy' : (Instr.yield lb #[.int .i64 (x.to : Int), .slice x.A x.l.length x.cap]).run Tryz.prog V = .ok (.round lb fn2 tmps2 assign2 body2) V := hy
      have HR := Lh hR
      have H2 := Lh h2
      clear hy hR h1 h2 hok hrest hful hlen2 hlen rYV hl3
      gi_wp2_with fail
      refine ⟨rfl, HR.out.mono ?_⟩
      clear hy' HR cYV
      rintro e V2 (⟨rfl, hj2, hk2⟩ | ⟨rfl, hj2, hk2⟩)
      · have HF : Hid (KeepsFrom w9.heap.size V V2 ∧ KpX (fun i => X i ∨ i = w9.heap.size + 1) V V2 ∧ J (done ++ (pre ++ [x])) V2 ∧ KpX X w9 V2) := ⟨hk2.keeps HX9.out, hk2.more (fun _ h => .inl h), by rw [← List.append_assoc]; exact hj2, H2.out.trans hk2⟩
        clear hj2 hk2
        gi_wp2_with fail
        exact HF.out
      · have HF : Hid (KeepsFrom w9.heap.size V V2 ∧ KpX (fun i => X i ∨ i = w9.heap.size + 1) V V2 ∧ True ∧ Jx (done ++ (pre ++ [x])) V2 ∧ KpX X w9 V2) := ⟨hk2.keeps HX9.out, hk2.more (fun _ h => .inl h), trivial, by rw [← List.append_assoc]; exact hj2, H2.out.trans hk2⟩
        clear hj2 hk2
        gi_wp2_with fail
        exact ⟨HF.out.1, HF.out.2.1, rfl, HF.out.2.2.2⟩
     case stop =>
      rintro D c pre V hD _ ⟨rfl, h2, h3⟩ hK
      have hnd : (D :: Ds).Nodup := List.nodup_cons.2 ⟨fun h => by have := HD9.out.2 D h; omega, HD9.out.1⟩
      have hall : ∀ E ∈ D :: Ds, W.heap.size ≤ E ∧ V.heap[E]? = some (.deferred (some [])) := fun E hE => by
       rcases List.mem_cons.1 hE with rfl | hE
       · exact ⟨by omega, hK⟩
       · obtain ⟨e1, e2, e3⟩ := HD9.out.2 E hE
         exact ⟨e1, h3.block E _ (fun hx => by have := HC.out.hX E hx; omega) e3⟩
      have Hnd := Lh hnd
      have Hall := Lh hall
      have H2 := Lh h2
      clear hnd hall h2 h3 hK hD
      gi_wp2_with fail
      exact KS (Jx (done ++ pre)) W.heap.size (fun V' E h1 h2 h3 => HJx.out _ _ _ (some E) h3 (grownBy_putObj' _ _ _) (fun r e => by cases e; exact .inr ⟨h1, _, h2, rfl⟩)) (fun V' h => ⟨_, results_none rfl _ _ _, ⟨_, rfl⟩, .inr ⟨_, trivial, h⟩⟩) (D :: Ds) V Hnd.out Hall.out H2.out
     case done =>
      rintro D xs V hD hxs ⟨h1, h2⟩ hK
      have HF : Hid (∀ a', (∃ u5 u6 u7 u8 u19 u20 u21 u22 u23 u24 u25 u26 u27 u28 u29 u30 u31 u32 u33 u34 u35 u36 u37 u38, a' = { tmps := #[.func (.yield lb) #[] #[], .pointer (some ⟨ba, 0, none⟩), .pointer (some ⟨bo, 0, none⟩), .pointer (some ⟨bl, 0, none⟩), .pointer (some ⟨W.heap.size, 0, none⟩), u5, u6, u7, u8, .func (.yield lb) #[] #[], .int .i64 (q : Int), .slice oa own.length oc, .bool true, .bool false, .slice A l.length cap, .int .i64 (q : Int), .slice (some ka) N kc, .int .i64 (N : Int), .int .i64 ((j + 1 : Nat) : Int), u19, u20, u21, u22, u23, u24, u25, u26, u27, u28, u29, u30, u31, u32, u33, u34, u35, u36, u37, u38], defers := (D :: Ds).map Ahh }) → KK a' V) := fun a' ha => HKK.out _ _ (Handed.intro (N - (j + 1)) (by omega) (HJJ.out _ _ _ ⟨j + 1, done ++ xs, r + k.size, D :: Ds, rfl, by omega, by
       show _ = _
       rw [← Hd.out, KU Hkj.out, List.map_append, hxs, List.append_assoc], Hs2, Hk9.out.trans h2 |> Hk.out.trans, h1, ⟨List.nodup_cons.2 ⟨fun h => by have := HD9.out.2 D h; omega, HD9.out.1⟩, fun E hE => by
       rcases List.mem_cons.1 hE with rfl | hE
       · exact ⟨by omega, hK⟩
       · obtain ⟨e1, e2, e3⟩ := HD9.out.2 E hE
         exact ⟨e1, h2.block E _ (fun hx => by have := HC.out.hX E hx; omega) e3⟩⟩, ha⟩))
      clear h1 h2 hK hxs hD
      have hNI : (N : Int) ≤ 2000 := by omega
      gi_wp2_with fail
      refine HF.out _ ?_
      repeat apply Exists.intro
      exact rfl
   · refine Qe rfl rfl (fun K2 hK2 => ?_)
     refine Qj (.slice (some ⟨w5.heap.size, 0, none⟩) 1 1) (Qn [(0, .tmp 27)] rfl (ZH (cells := #[.int .i64 (j : Int)]) Tryz.underlying22 Aen (by decide) (by decide) (by kernel_rfl) w5)) ?_
     have rg := ZZ w5 [.int .i64 (j : Int)] 3
     have b6 := (Below.refl w5.heap.size w5).alloc (Nat.le_refl _) (.cells #[.int .i64 (j : Int)] 3)
     refine hK2 _ _ ?_
     clear hK2 K2
     simp only [Act.put, Qa, Qb, Qc]
     generalize w5.alloc (.cells #[.int .i64 (j : Int)] 3) = w6 at rg b6 ⊢
     obtain ⟨gg, hgg⟩ : ∃ gg, gg = w5.heap.size := ⟨_, rfl⟩
     rw [← hgg] at rg ⊢
     clear hgg
     have hS6 := hS.kx (KpX.of_below b6)
     refine ⟨hS6, ?_⟩
     (refine wpAnyH_all (rs := [3]) (by kernel_rfl) (by simp) (fun i hi => ?_); obtain rfl : i = 3 := by simpa using hi)
     refine Qe rfl rfl (fun K2 hK2 => ?_)
     refine Qx 117 #[.slice oa own.length oc] (w1 := w6) (by go_simp) ((Ua oa oc own w6 hS6.ho hS6.hon (by have := Hol.out; omega)).mono ?_)
     rintro e w7 ⟨v6, rfl, hown6, b67⟩
     refine ⟨_, rfl, ?_⟩
     refine hK2 _ _ ?_
     clear hK2 K2
     simp only [Act.put, Qa, Qb, Qc]
     have hown7 := QI hown6 b6.size
     replace rg := rg.go b67
     have b57 : Below w5.heap.size w5 w7 := b6.trans (b67.mono (by have := b6.size; omega))
     refine ⟨hS.kx (KpX.of_below b57), ?_⟩
     have hol := Hol.out
     obtain ⟨v8, w8, hrun, hown8, hgr, _⟩ := ZB (P := Tryz.prog) 22 3 (.int .i64 0) 1 8 Tryz.underlying22 Jn rfl (by decide) (by decide) hown7 b57.size rg (m := 1) (cap := 1) rfl (Jo [(j : Int)]) (by simp) (by omega)
     have b58 := Qm b57 hown7 hgr b57.size (Nat.le_refl _)
     rw [show Qi own ++ [Value.int .i64 (j : Int)] = Qi (own ++ [(j : Int)]) by simp [Qi]] at hown8
     obtain ⟨oa8, oc8, rfl, ho8, _, hon8, hob8⟩ := Xy hown8
     have hl8 : own.length + 1 = (own ++ [(j : Int)]).length := by simp
     rw [hl8] at hrun
     have Hrun := Lh hrun
     clear hl8 hol hrun hown7 hown8 hgr rg
     (refine wpAnyH_all (rs := [6]) (by kernel_rfl) (by simp) (fun i hi => ?_); obtain rfl : i = 6 := by simpa using hi)
     refine Qe rfl rfl (fun K2 hK2 => ?_)
     refine Qj _ (Qq rfl Hrun.out) ?_
     refine hK2 _ _ ?_
     clear hK2 K2 Hrun
     simp only [Act.put, Qa, Qb, Qc]
     have hS8 := hS.kx (KpX.of_below b58)
     refine ⟨hS8, ?_⟩
     (refine wpAnyH_all (rs := [7]) (by kernel_rfl) (by simp) (fun i hi => ?_); obtain rfl : i = 7 := by simpa using hi)
     refine Qe rfl rfl (fun K2 hK2 => ?_)
     refine Qx 266 #[.slice A l.length cap, .int .i64 (r : Int), .slice oa8 (own ++ [(j : Int)]).length oc8] (w1 := w8) (by go_simp) ((XS A cap l r oa8 oc8 (own ++ [(j : Int)]) w8).mono ?_)
     rintro e w9 ⟨bl9, ba9, bo9, rfl, rl9, ra9, ro9, gl9, ga9, go9, b89⟩
     refine ⟨_, rfl, ?_⟩
     refine hK2 _ _ ?_
     clear hK2 K2
     simp only [Act.put, Qa, Qb, Qc]
     have hS9 := hS8.kx (KpX.of_below b89)
     refine ⟨hS9, ?_⟩
     refine wpAnyH_done (by kernel_rfl) ?_ _
     have hk9 : KpX X wr w9 := KpX.of_below (hb5.trans (b58.mono hb5.size |>.trans (b89.mono (by have := b58.size; have := hb5.size; omega))))
     have rY9 := hk9.row rY4 HXY.out
     have h9 : J done w9 := QB HJ.out hj (hb5.trans ((b58.mono hb5.size).trans (b89.mono (by have := b58.size; have := hb5.size; omega))))
     clear rY4 hj
     have hC9 : PathsC lo A cap l X ba9 bo9 bl9 oa8 oc8 (own ++ [(j : Int)]) r w9 := ⟨hS9.hr, hS9.hA, rl9, ra9, ro9, fun h => by have := hS8.hX _ h; omega, fun h => by have := hS8.hX _ h; omega, fun h => by have := hS8.hX _ h; omega, ho8.go b89, fun _ ad e h => by have := hob8 ad e; have := hS.hX _ h; omega, fun e => by have := hon8 e; omega, hS9.hX, fun ad e => by have := hob8 ad e; have := hS.hls; omega, hS9.hls⟩
     have hX9 : ∀ i, X i → i < w9.heap.size := hS9.hX
     have HC9 := Lh hC9
     have Hk9 := Lh hk9
     have HX9 := Lh hX9
     have HD9 : Hid (Ds.Nodup ∧ ∀ D ∈ Ds, W.heap.size ≤ D ∧ D < w9.heap.size ∧ w9.heap[D]? = some (.deferred (some []))) := ⟨HDs.out.1, fun D hD => by
      obtain ⟨e1, e2⟩ := HDs.out.2 D hD
      have e3 := hk9.block D _ (fun hx => by have := HC.out.hX D hx; omega) e2
      exact ⟨e1, (Array.getElem?_eq_some_iff.1 e3).1, e3⟩⟩
     clear hS hS6 hS8 hS9 hb5 b58 b89 b57 rl9 ra9 ro9 gl9 ga9 go9 ho8 hon8 hob8 hC9 hk9 hX9 HC4
     refine Aaf ?_
     gi_wp2_with fail
     have hks := Tr.kid_lt Hkj.out (x := rt)
     have Hit := Lh (Hih.out k r (own ++ [(j : Int)]) (by have := Hn.out; omega) (by have := Hol.out; simp; omega) Hkid.out.1 lo X ba9 bo9 bl9 oa8 oc8 w9 HC9.out)
     clear hks
     have s9 : W.heap.size < w9.heap.size := rY9.lt
     have HI0 : Hid (J done w9 ∧ KpX X w9 w9) := ⟨h9, KpX.refl _ _⟩
     clear h9
     refine XT (gf := 284) (lb := #[.pointer (some ⟨ba9, 0, none⟩), .pointer (some ⟨bo9, 0, none⟩), .pointer (some ⟨bl9, 0, none⟩)]) rfl (enters_of Tryz.func284 (by kernel_rfl) rfl) Hit.out (fun r h => h.elim)
      (fun h k => h.trans k) (fun V o o' ho hc => ⟨fun i p hx hp => by rw [World.putObj_heap_other (fun e => hx (.inr e))]; exact hp, by simp⟩) (World.grownBy.refl _ _) (fun _ => rfl)
      (fun pre V => J (done ++ pre) V ∧ KpX X w9 V) (fun c pre V => c = .ret ∧ Jx (done ++ pre) V ∧ KpX X w9 V) (.inl trivial) ?hI ?hIx (by rw [List.append_nil]; exact HI0.out)
      (fun pre x a' V => a' = { tmps := #[.func (.yield lb) #[] #[], .pointer (some ⟨ba, 0, none⟩), .pointer (some ⟨bo, 0, none⟩), .pointer (some ⟨bl, 0, none⟩), .pointer (some ⟨W.heap.size, 0, none⟩), .int .i64 (j : Int), .int .i64 (r : Int), .int .i64 (x.to : Int), .slice x.A x.l.length x.cap, .func (.yield lb) #[] #[], .int .i64 (q : Int), .slice oa own.length oc, .bool true, .bool false, .slice A l.length cap, .int .i64 (q : Int), .slice (some ka) N kc, .int .i64 (N : Int), .int .i64 (j : Int), .bool true, .int .i64 (j : Int), .pointer (some (ka.add j)), .int .i64 (r : Int), .slice A l.length cap, .int .i64 (r : Int), .slice oa own.length oc, v6, .int .i64 (j : Int), .slice (some ⟨gg, 0, none⟩) 1 1, .slice oa8 (own.length + 1) oc8, .func (.func 284) #[] #[.pointer (some ⟨ba9, 0, none⟩), .pointer (some ⟨bo9, 0, none⟩), .pointer (some ⟨bl9, 0, none⟩)], .int .i64 (x.to : Int), .slice x.A x.l.length x.cap, u33, u34, u35, u36, u37, u38], defers := [] } ∧ PxP lo (QX (own ++ [(j : Int)]) r k) pre x V) ?hAx ?assign ?body ?done ?stop
     case hI =>
      rintro pre V V' row ⟨h1, h2⟩ hg hr
      refine ⟨HJ.out _ _ _ row h1 hg (fun i e => .inr ?_), h2.grown hg (fun i e => ?_)⟩
      · rcases hr i e with h | ⟨h, o⟩
        · exact h.elim
        · exact ⟨by omega, o⟩
      · rcases hr i e with h | ⟨h, o⟩
        · exact h.elim
        · exact h
     case hIx =>
      rintro c pre V V' row ⟨h1, h2, h3⟩ hg hr
      refine ⟨h1, HJx.out _ _ _ row h2 hg (fun i e => .inr ?_), h3.grown hg (fun i e => ?_)⟩
      · rcases hr i e with h | ⟨h, o⟩
        · exact h.elim
        · exact ⟨by omega, o⟩
      · rcases hr i e with h | ⟨h, o⟩
        · exact h.elim
        · exact h
     case hAx =>
      rintro pre x a' _ V V' row ⟨h1, ⟨h2, h4⟩, h3⟩ hg hr
      refine ⟨h1, ⟨⟨h2.rd.grown hg (fun i e => ?_), h2.nil, h2.len⟩, h4⟩, h3⟩
      rcases hr i e with h | ⟨h, o⟩
      · exact h.elim
      · exact o
     case assign =>
      rintro l3 pre x V K hI hP hK
      have HK := Lh hK
      have HI := Lh hI
      have HP := Lh hP
      clear hK hI hP
      unfold PtX.enc
      gi_wp2_with fail
      exact HK.out _ _ (KeepsFrom.refl _ _) (KpX.refl _ _) HI.out ⟨rfl, HP.out⟩
     case body =>
      rintro l3 pre x a' V hl3 _ ⟨h1, h2⟩ ⟨rfl, hP⟩ hlen
      have rYV := h2.row rY9 HXY.out
      have cYV := rYV.cellv (i := 0) (v := .func (.yield lb) #[] #[]) rfl
      obtain ⟨hok, rest, hrest⟩ := hP
      have hful : PxP lo (QX own q (.node rt ks)) (done ++ pre) x V := ⟨hok, rest ++ Zl own (r + k.size) ((j + 1 : Nat) : Int) (ks.drop (j + 1)), by rw [← Hd.out, KU Hkj.out, ← hrest]; simp⟩
      have hlen2 : (done ++ pre).length < (Tr.node rt ks).size := by
       obtain ⟨_, rest2, h3⟩ := hful
       have h4 := congrArg List.length h3
       rw [Z8] at h4
       simp at h4
       simp
       omega
      obtain ⟨fn2, tmps2, assign2, body2, hy, hR⟩ := HY.out _ x _ h1 hful hlen2
      have hy' : (Instr.yield lb #[.int .i64 (x.to : Int), .slice x.A x.l.length x.cap]).run Tryz.prog V = .ok (.round lb fn2 tmps2 assign2 body2) V := hy
      have HR := Lh hR
      have H2 := Lh h2
      clear hy hR h1 h2 hok hrest hful hlen2 hlen rYV hl3
      gi_wp2_with fail
      refine ⟨rfl, HR.out.mono ?_⟩
      clear hy' HR cYV
      rintro e V2 (⟨rfl, hj2, hk2⟩ | ⟨rfl, hj2, hk2⟩)
      · have HF : Hid (KeepsFrom w9.heap.size V V2 ∧ KpX (fun i => X i ∨ i = w9.heap.size + 1) V V2 ∧ J (done ++ (pre ++ [x])) V2 ∧ KpX X w9 V2) := ⟨hk2.keeps HX9.out, hk2.more (fun _ h => .inl h), by rw [← List.append_assoc]; exact hj2, H2.out.trans hk2⟩
        clear hj2 hk2
        gi_wp2_with fail
        exact HF.out
      · have HF : Hid (KeepsFrom w9.heap.size V V2 ∧ KpX (fun i => X i ∨ i = w9.heap.size + 1) V V2 ∧ True ∧ Jx (done ++ (pre ++ [x])) V2 ∧ KpX X w9 V2) := ⟨hk2.keeps HX9.out, hk2.more (fun _ h => .inl h), trivial, by rw [← List.append_assoc]; exact hj2, H2.out.trans hk2⟩
        clear hj2 hk2
        gi_wp2_with fail
        exact ⟨HF.out.1, HF.out.2.1, rfl, HF.out.2.2.2⟩
     case stop =>
      rintro D c pre V hD _ ⟨rfl, h2, h3⟩ hK
      have hnd : (D :: Ds).Nodup := List.nodup_cons.2 ⟨fun h => by have := HD9.out.2 D h; omega, HD9.out.1⟩
      have hall : ∀ E ∈ D :: Ds, W.heap.size ≤ E ∧ V.heap[E]? = some (.deferred (some [])) := fun E hE => by
       rcases List.mem_cons.1 hE with rfl | hE
       · exact ⟨by omega, hK⟩
       · obtain ⟨e1, e2, e3⟩ := HD9.out.2 E hE
         exact ⟨e1, h3.block E _ (fun hx => by have := HC.out.hX E hx; omega) e3⟩
      have Hnd := Lh hnd
      have Hall := Lh hall
      have H2 := Lh h2
      clear hnd hall h2 h3 hK hD
      gi_wp2_with fail
      exact KS (Jx (done ++ pre)) W.heap.size (fun V' E h1 h2 h3 => HJx.out _ _ _ (some E) h3 (grownBy_putObj' _ _ _) (fun r e => by cases e; exact .inr ⟨h1, _, h2, rfl⟩)) (fun V' h => ⟨_, results_none rfl _ _ _, ⟨_, rfl⟩, .inr ⟨_, trivial, h⟩⟩) (D :: Ds) V Hnd.out Hall.out H2.out
     case done =>
      rintro D xs V hD hxs ⟨h1, h2⟩ hK
      have HF : Hid (∀ a', (∃ u5 u6 u7 u8 u19 u20 u21 u22 u23 u24 u25 u26 u27 u28 u29 u30 u31 u32 u33 u34 u35 u36 u37 u38, a' = { tmps := #[.func (.yield lb) #[] #[], .pointer (some ⟨ba, 0, none⟩), .pointer (some ⟨bo, 0, none⟩), .pointer (some ⟨bl, 0, none⟩), .pointer (some ⟨W.heap.size, 0, none⟩), u5, u6, u7, u8, .func (.yield lb) #[] #[], .int .i64 (q : Int), .slice oa own.length oc, .bool true, .bool false, .slice A l.length cap, .int .i64 (q : Int), .slice (some ka) N kc, .int .i64 (N : Int), .int .i64 ((j + 1 : Nat) : Int), u19, u20, u21, u22, u23, u24, u25, u26, u27, u28, u29, u30, u31, u32, u33, u34, u35, u36, u37, u38], defers := (D :: Ds).map Ahh }) → KK a' V) := fun a' ha => HKK.out _ _ (Handed.intro (N - (j + 1)) (by omega) (HJJ.out _ _ _ ⟨j + 1, done ++ xs, r + k.size, D :: Ds, rfl, by omega, by
       show _ = _
       rw [← Hd.out, KU Hkj.out, List.map_append, hxs, List.append_assoc], Hs2, Hk9.out.trans h2 |> Hk.out.trans, h1, ⟨List.nodup_cons.2 ⟨fun h => by have := HD9.out.2 D h; omega, HD9.out.1⟩, fun E hE => by
       rcases List.mem_cons.1 hE with rfl | hE
       · exact ⟨by omega, hK⟩
       · obtain ⟨e1, e2, e3⟩ := HD9.out.2 E hE
         exact ⟨e1, h2.block E _ (fun hx => by have := HC.out.hX E hx; omega) e3⟩⟩, ha⟩))
      clear h1 h2 hK hxs hD
      have hNI : (N : Int) ≤ 2000 := by omega
      gi_wp2_with fail
      refine HF.out _ ?_
      repeat apply Exists.intro
      exact rfl
end Go.Proofs.YtdcmppdhdcjpfaaGreat
