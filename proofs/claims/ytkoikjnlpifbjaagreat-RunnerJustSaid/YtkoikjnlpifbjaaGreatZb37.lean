/- Lemmas for RunnerJustP. -/
import Derived.Test.YtkoikjnlpifbjaaGreatZb1
import Derived.Test.YtkoikjnlpifbjaaGreatZb5
import Derived.Test.YtkoikjnlpifbjaaGreatZb21
import Derived.Test.YtkoikjnlpifbjaaGreatZb36
import Derived.Test.YtkoikjnlpifbjaaGreatZb34
set_option linter.unusedVariables false
set_option linter.unusedSimpArgs false
set_option maxRecDepth 100000
set_option maxHeartbeats 16000000
namespace Go.Proofs.YtkoikjnlpifbjaaGreat
open Go.RowKit Go.Deep
structure RnV where
 g : Nat
 q : PgV
 tA : Option Addr
 tcap : Nat
 ts : List IntsV
 fuel : Int
 aA : Option Addr
 acap : Nat
 xs : List DlV
 n : Nat
 on : Bool
 bv : Value
 mv : Value
 ms : List MtV
def RnV.cells (R : RnV) : Array Value := #[.int .i64 R.q.params, .slice R.q.va R.q.V.length R.q.vcap, .slice R.q.ba R.q.body.length R.q.bcap, .slice R.tA R.ts.length R.tcap, .int .i64 R.fuel, .slice R.aA R.xs.length R.acap, .int .i64 (R.n : Int), .int .u32 (if R.on then 1 else 0), .int .i32 0, .int .u32 0, R.bv, R.mv]
structure RnF (R : RnV) (W : World) : Prop where
 pok : R.q.ok W
 va : RowB W 3 R.q.va
 ba : RowB W 65 R.q.ba
 trd : Rd W R.tA (Ji R.ts)
 tA : RowB W 22 R.tA
 tok : ∀ x ∈ R.ts, x.ok W
 tb : ∀ x ∈ R.ts, RowB W 3 x.addr
 ard : Rd W R.aA (KF R.xs)
 aA : RowB W 50 R.aA
 aok : ∀ x ∈ R.xs, DlT W x
 bas : if R.on then ∃ A c, R.bv = .slice A (ZF R.q (R.ts.map IntsV.l) R.fuel).length c ∧ Rd W A (JD (ZF R.q (R.ts.map IntsV.l) R.fuel)) ∧ RowB W 52 A else R.bv = .slice none 0 0
 mok : ∀ y ∈ R.ms, MtT W y
structure RnIn (lo : Nat) (R : RnV) (W : World) : Prop where
 row : Row W R.g 88 R.cells
 glo : lo ≤ R.g
 rd : RnF R W
 own : W.ownsRow lo 54 8 R.mv R.ms.length (J9 R.ms)
theorem Q0 {W W' : World} {t : TypeId} {A : Option Addr} {xs : List Value} (h : Rd W A xs) (b : RowB W t A) (k : ∀ (i : Nat) cs, Row W i t cs → Row W' i t cs) : Rd W' A xs := fun j u hj => by
 obtain ⟨a, e, d⟩ := h j u hj;obtain ⟨cs, c⟩ := b a e;exact ⟨a, e, (World.cell?_of_block (by rw [JI]; exact (k _ _ c).trans (Eq.symm c))).trans d⟩
theorem QO {W W' : World} {t : TypeId} {A : Option Addr} (b : RowB W t A) (k : ∀ (i : Nat) cs, Row W i t cs → Row W' i t cs) : RowB W' t A := fun ad e => by
 obtain ⟨cs, c⟩ := b ad e;exact ⟨cs, k _ _ c⟩
def TKeep (W W' : World) : Prop := ∀ (i : Nat) (t : TypeId) cs, Row W i t cs → t ≠ 88 → t ≠ 54 → Row W' i t cs
theorem TKeep.refl (W : World) : TKeep W W := fun _ _ _ h _ _ => h
theorem TKeep.trans {A B C : World} (h : TKeep A B) (k : TKeep B C) : TKeep A C := fun i t cs r a b => k i t cs (h i t cs r a b) a b
theorem TKeep.below {A B : World} (b : Below A.heap.size A B) : TKeep A B := fun _ _ _ r _ _ => r.below b r.lt
theorem TKeep.only {A B : World} {g : Nat} {cs : Array Value} (o : Only g A B) (r : Row A g 88 cs) : TKeep A B := fun i t ds h a _ => h.only o (fun e => a (by
 subst e
 have h9 : A.heap[i]? = some (.cells ds t (0, 0)) := h
 rw [show A.heap[i]? = some (.cells cs 88 (0, 0)) from r] at h9
 injection h9 with h9; injection h9 with _ h9; exact h9.symm))
theorem TKeep.own {A B : World} {lo size n : Nat} {v : Value} {xs : List Value} (h : A.ownsRow lo 54 size v n xs) (g : A.grownBy B v.ownBlock) : TKeep A B := fun i t cs r _ b => r.grown g (QD h r (fun e => b e.symm))
theorem RnF.keep {R : RnV} {W W' : World} (h : RnF R W) (k : TKeep W W') : RnF R W' := by
 have g : ∀ (i : Nat) b, Row W i 3 b → Row W' i 3 b := fun i b r => k i _ b r (by decide) (by decide);have o : ∀ (i : Nat) b, Row W i 65 b → Row W' i 65 b := fun i b r => k i _ b r (by decide) (by decide);have n : ∀ (i : Nat) b, Row W i 22 b → Row W' i 22 b := fun i b r => k i _ b r (by decide) (by decide);have m : ∀ (i : Nat) b, Row W i 50 b → Row W' i 50 b := fun i b r => k i _ b r (by decide) (by decide);have p : ∀ (i : Nat) b, Row W i 52 b → Row W' i 52 b := fun i b r => k i _ b r (by decide) (by decide)
 refine ⟨⟨h.pok.par, h.pok.vlen, h.pok.vmax, h.pok.vnil, Q0 h.pok.vrd h.va g, h.pok.vin, h.pok.blen, h.pok.bmax, h.pok.bnil, Q0 h.pok.brd h.ba o, h.pok.bin⟩, QO h.va g, QO h.ba o, Q0 h.trd h.tA n, QO h.tA n,
  fun x d => ⟨(h.tok x d).len, (h.tok x d).cap, (h.tok x d).nil, Q0 (h.tok x d).reads (h.tb x d) g, (h.tok x d).all⟩, fun x d => QO (h.tb x d) g, Q0 h.ard h.aA m, QO h.aA m,
  fun x d => ⟨⟨Q0 (h.aok x d).ok.1 (h.aok x d).ib g, (h.aok x d).ok.2⟩, QO (h.aok x d).ib g, (h.aok x d).nil⟩, ?_, fun y t => (h.mok y t).same fun a b _ r => g _ _ r⟩
 have j := h.bas;split
 · rename_i e;rw [if_pos e] at j;obtain ⟨A, c, q, s, l⟩ := j;exact ⟨A, c, q, Q0 s l p, QO l p⟩
 · rename_i e;rw [if_neg e] at j;exact j
theorem RnIn.go {lo : Nat} {R : RnV} {W W' : World} (h : RnIn lo R W) (b : Below W.heap.size W W') : RnIn lo R W' := ⟨h.row.below b h.row.lt, h.glo, h.rd.keep (.below b), Qy h.own b⟩
instance St.rnin {lo : Nat} {R : RnV} : St (fun W => RnIn lo R W) := ⟨fun h b => h.go b⟩
theorem Er (g : Nat) (cs : Array Value) (n : Int) (W : World) (hr : Row W g 88 cs) (h6 : cs[6]? = some (.int .i64 n)) :
 Calls Tryz.prog 12 #[.pointer (some ⟨g, 0, none⟩)] W fun e w' => e = .returned (.int .i64 n) ∧ w' = W := by
 have b := Lv (AfY ⟨g, 6, none⟩ n W (hr.cellv h6));clear hr h6;go_enter Tryz.func12, Tryz.ntmps12
 go_wp2_with fail
 refine b.out.mono ?_;rintro e w' ⟨rfl, rfl⟩;go_wp2
 go_ret
 exact ⟨rfl, rfl⟩
theorem AcV (W : World) : Calls Tryz.prog 12 #[.pointer none] W fun e w' => e = .returned (.int .i64 0) ∧ w' = W := by
 go_enter Tryz.func12, Tryz.ntmps12
 go_wp2
 go_ret
 exact ⟨rfl, rfl⟩
theorem Adi (W : World) : Calls Tryz.prog 13 #[.pointer none] W fun e w' => e = .returned (.int .i64 0) ∧ w' = W := by
 go_enter Tryz.func13, Tryz.ntmps13
 go_wp2
 go_ret
 exact ⟨rfl, rfl⟩
theorem AdA (W : World) : Calls Tryz.prog 9 #[.pointer none] W fun e w' => e = .returned (.bool false) ∧ w' = W := by
 go_enter Tryz.func9, Tryz.ntmps9
 go_wp2
 go_ret
 exact ⟨rfl, rfl⟩
theorem EI {lo : Nat} (R : RnV) (W : World) (h : RnIn lo R W) (hn : R.n ≤ R.xs.length) (hx : R.xs.length ≤ 1000000) :
 Calls Tryz.prog 13 #[.pointer (some ⟨R.g, 0, none⟩)] W fun e w' => e = .returned (.int .i64 ((R.xs.length : Int) - (R.n : Int))) ∧ Below W.heap.size W w' := by
 obtain ⟨S, b⟩ : ∃ S : World → Prop, S = (fun w => Row w R.g 88 R.cells ∧ Below W.heap.size W w) := ⟨_, rfl⟩;have q : St S := by rw [b]; infer_instance
 have k : Hid (∀ w, S w → Row w R.g 88 R.cells) := by show ∀ w, _; rw [b]; exact fun w h => h.1
 have p : Hid (∀ w, S w → Below W.heap.size W w) := by show ∀ w, _; rw [b]; exact fun w h => h.2
 have m : S W := by rw [b]; exact ⟨h.row, Below.refl _ _⟩
 have l : IntKind.i64.wrap ((R.xs.length : Int) - (R.n : Int)) = (R.xs.length : Int) - (R.n : Int) := IntWalk.i64_in _ (by omega);have o := Lv l;clear b h hn hx l;go_enter Tryz.func13, Tryz.ntmps13
 go_wp2_with fail
 refine ZJ S (by kernel_rfl) (by kernel_rfl) (St.drew m) ?_;clear m
 iterate 4 (refine Qg rfl ?_ (fun W d => ?_) ?_; rotate_left; (focus (go_simp; exact rfl)); simp only [Act.put, Qa, Qb, Qc])
 (refine Qg rfl ?_ (fun W d => ?_) ?_; rotate_left; (focus (have c := (k.out _ d).cellv (i := 5) (v := .slice R.aA R.xs.length R.acap) rfl; go_simp; exact rfl)); simp only [Act.put, Qa, Qb, Qc])
 iterate 2 (refine Qg rfl ?_ (fun W d => ?_) ?_; rotate_left; (focus (go_simp; exact rfl)); simp only [Act.put, Qa, Qb, Qc])
 (refine QG rfl 12 _ (fun W => by (go_simp; try rfl)) (.int .i64 (R.n : Int)) (fun W d => (Er R.g R.cells (R.n : Int) W (k.out _ d) rfl).mono fun e w' h => ⟨h.1, h.2 ▸ Below.refl _ _⟩) ?_; simp only [Act.put, Qa, Qb, Qc])
 (refine Qg rfl ?_ (fun W d => ?_) ?_; rotate_left; (focus (have e := o.out; go_simp; exact rfl)); simp only [Act.put, Qa, Qb, Qc]);(refine Qg rfl ?_ (fun W d => ?_) ?_; rotate_left; (focus (go_simp; exact rfl)); simp only [Act.put, Qa, Qb, Qc]);refine QS fun s j => ?_
 go_wp2_with fail
 go_ret
 exact ⟨rfl, p.out _ j⟩
structure CopyP (p : PgV) (w w' : World) (e : Ending) : Prop where
 ex : ∃ q : PgV, e = .returned q.val ∧ q.params = p.params ∧ q.V = p.V ∧ q.body = p.body ∧ q.ok w' ∧ RowB w' 3 q.va ∧ RowB w' 65 q.ba ∧ Below w.heap.size w w'
theorem AiL {w : World} : (zeroValue 25).run Tryz.prog w = .ok (.agg #[.int .i64 0, .slice none 0 0, .slice none 0 0]) w := by kernel_rfl
theorem Yn (p : PgV) (w : World) (hok : p.ok w) (hbl : p.body.length ≤ 1000) (hvl : p.V.length ≤ 1000) :
 Calls Tryz.prog 26 #[.agg p.cells] w fun e w' => CopyP p w w' e := by
 have ae := Lv hbl;have af := Lv hvl;have m := Lv hok;clear hbl hvl hok;go_enter Tryz.func26, Tryz.ntmps26
 go_wp2_with (refine Qm _ _ rfl ?_)
 refine Stop.to ?_;refine Qe rfl 25 _ rfl p.cells rfl ?_;intro G Gw Gh Gr Gb;have b1 := (Below.refl w.heap.size w).trans (Gb.mono Gh);go_wp2_with (first | fail | (refine QE _ rfl ?_))
 refine Stop.to ?_;refine Qi rfl 25 rfl _ _ AiL rfl ?_;intro Q Qw Qh Qr Qb;have b2 := b1.trans ((Qb.mono Qh).mono b1.size);have rG := Gr.below (Qb.mono Qh) Gr.lt;have ah : w.heap.size ≤ Q := Li b1.size Qh;have ag : G ≠ Q := by have := Gr.lt; omega
 clear Gb Gh Qb Qh Gr b1;go_wp2_with fail
 obtain ⟨S, j⟩ : ∃ S : World → Prop, S = (fun W => Row W G 25 p.cells ∧ p.ok W ∧ Below w.heap.size w W) := ⟨_, rfl⟩;have ad : St S := by rw [j]; infer_instance
 have z : Hid (∀ W, S W → Row W G 25 p.cells) := by show ∀ W, _; rw [j]; exact fun W h => h.1
 have S1 : Hid (∀ W, S W → p.ok W) := by show ∀ W, _; rw [j]; exact fun W h => h.2.1
 have S2 : Hid (∀ W, S W → Below w.heap.size w W) := by show ∀ W, _; rw [j]; exact fun W h => h.2.2
 have hS : S Qw.drew := by rw [j]; exact St.drew (S := fun W => Row W G 25 p.cells ∧ p.ok W ∧ Below w.heap.size w W) ⟨rG, m.out.go b2, b2⟩
 have SI : Hid (∀ W, Row W G 25 p.cells → Below w.heap.size w W → S W) := by show ∀ W, _; rw [j]; exact fun W h b => ⟨h, m.out.go b, b⟩
 have rQ : Row Qw.drew Q 25 #[.int .i64 0, .slice none 0 0, .slice none 0 0] := Qr;clear j rG b2 Qr;refine wp_region_held (S := S) (by kernel_rfl) ?_;simp only [Lm, Le, Lu, Nat.reduceAdd, Lk, Ll, Ly, Lp, Ln];show wpAnyH _ _ _ _ _ _ _ _ Qw.drew;generalize Qw.drew = V0 at hS rQ ⊢;(refine tkH 0 (.pointer (some ⟨G, 0, none⟩)) rfl (Qd rfl (fun W t => by (go_simp))) ?_; simp only [Act.put, Qa, Qb, Qc]);(refine tkH 1 (.int .i64 p.params) rfl (Qd rfl (fun W t => by ((have c := (z.out W t).cellv (i := 0) (v := .int .i64 p.params) rfl; go_simp)))) ?_; simp only [Act.put, Qa, Qb, Qc]);(refine tkH 2 (.pointer (some ⟨G, 1, none⟩)) rfl (Qd rfl (fun W t => by (go_simp))) ?_; simp only [Act.put, Qa, Qb, Qc]);(refine tkH 3 (.slice p.va p.V.length p.vcap) rfl (Qd rfl (fun W t => by ((have c := (z.out W t).cellv (i := 1) (v := .slice p.va p.V.length p.vcap) rfl; go_simp)))) ?_; simp only [Act.put, Qa, Qb, Qc]);(refine tkH 5 (.pointer (some ⟨G, 2, none⟩)) rfl (Qd rfl (fun W t => by (go_simp))) ?_; simp only [Act.put, Qa, Qb, Qc]);(refine tkH 6 (.slice p.ba p.body.length p.bcap) rfl (Qd rfl (fun W t => by ((have c := (z.out W t).cellv (i := 2) (v := .slice p.ba p.body.length p.bcap) rfl; go_simp)))) ?_; simp only [Act.put, Qa, Qb, Qc]);(refine wpAnyH_all (rs := [4]) (by kernel_rfl) (by simp) (fun i hi => ?_); obtain rfl : i = 4 := by simpa using hi);refine Qf rfl rfl (fun K2 d => ?_);have hok := S1.out _ hS;obtain ⟨A1, k1, V1, g, o, h1, h2, h3, h4, -, ab⟩ := VY V0 p.va p.vcap p.V hok.vrd (fun e => L0 (by have := hok.vnil e; have := hok.vlen; omega)) (by have := af.out; omega);refine Qs (.slice A1 p.V.length k1) (w1 := V1) (QA rfl g) ?_;refine d _ _ ?_;clear d K2;simp only [Act.put, Qa, Qb, Qc];have q := ad.go hS o;have y := rQ.below o rQ.lt;refine ⟨q, ?_⟩;clear g hok hS rQ o;(refine wpAnyH_all (rs := [7]) (by kernel_rfl) (by simp) (fun i hi => ?_); obtain rfl : i = 7 := by simpa using hi);refine Qf rfl rfl (fun K2 d => ?_);have hok := S1.out _ q;obtain ⟨A2, k2, V2, g, o, g1, g2, g3, g4, -, u⟩ := AiR V1 p.ba p.bcap p.body hok.brd (fun e => L0 (by have := hok.bnil e; have := hok.blen; omega)) (by have := ae.out; omega);refine Qs (.slice A2 p.body.length k2) (w1 := V2) (QA rfl g) ?_;refine d _ _ ?_;clear d K2;simp only [Act.put, Qa, Qb, Qc];have s := ad.go q o;have l := y.below o y.lt;have aa := h1.go o;have n := ab.go o;refine ⟨s, ?_⟩;clear g hok q y o h1 ab;(refine tkH 8 (.agg #[.int .i64 p.params, .slice A1 p.V.length k1, .slice A2 p.body.length k2]) rfl (Qd rfl (fun W t => by (go_simp))) ?_; simp only [Act.put, Qa, Qb, Qc]);(refine wpAnyH_all (rs := [9]) (by kernel_rfl) (by simp) (fun i hi => ?_); obtain rfl : i = 9 := by simpa using hi);refine Qf rfl rfl (fun K2 d => ?_);refine ZC 25 _ _ rfl Q #[.int .i64 p.params, .slice A1 p.V.length k1, .slice A2 p.body.length k2] rfl rfl 25 _ l (by kernel_rfl) rfl (by simp [Value.oneCell']) ?_;intro V3 r3 x;refine d _ _ ?_;clear d K2;simp only [Act.put, Qa, Qb, Qc];have ac := (z.out _ s).only x ag;have b3 := Ql (S2.out _ s) x ah
 have HF : Hid (CopyP p w V3 (.returned (PgV.mk p.params A1 k1 p.V A2 k2 p.body).val)) := ⟨⟨_, rfl, rfl, rfl, rfl, ⟨m.out.par, h2, h3, h4, Q0 aa n (fun i cs r => r.only x (fun e => by
  subst e; have k : V2.heap[i]? = _ := r; rw [show V2.heap[i]? = _ from l] at k; injection k with k; injection k with _ k; cases k)), m.out.vin, g2, g3, g4, Q0 g1 u (fun i cs r => r.only x (fun e => by
  subst e; have k : V2.heap[i]? = _ := r; rw [show V2.heap[i]? = _ from l] at k; injection k with k; injection k with _ k; cases k)), m.out.bin⟩, n.only x l (by decide), u.only x l (by decide), b3⟩⟩
 refine ⟨SI.out _ ac b3, ?_⟩;refine wpAnyH_done (by kernel_rfl) ?_ _;clear ac b3 x l s aa n g1 u h2 h3 h4 g2 g3 g4 SI z S1 S2;go_wp2_with fail
 refine bodyPost_ret (results_cell_row Tryz.results26 _ _ Q 25 _ (0, 0) _ rfl r3 Tryz.underlying25 rfl (by kernel_rfl)) rfl ?_;exact HF.out
def RnV.cz (R : RnV) (n dn lk : Int) (bv mv : Value) : Array Value := #[.int .i64 R.q.params, .slice R.q.va R.q.V.length R.q.vcap, .slice R.q.ba R.q.body.length R.q.bcap, .slice R.tA R.ts.length R.tcap, .int .i64 R.fuel, .slice R.aA R.xs.length R.acap, .int .i64 n, .int .u32 dn, .int .i32 lk, .int .u32 0, bv, mv]
theorem Ab0 {R : RnV} {n dn lk : Int} {bv mv : Value} {W : World} (h : Row W R.g 88 (R.cz n dn lk bv mv)) : ∀ (j : Nat) (v : Value), R.q.cells.toList[j]? = some v → W.cell? ((⟨R.g, 0, none⟩ : Addr).add j) = some v :=
 Row.from_ (cur := R.cz n dn lk bv mv) h 0 (fun j v hj => by
  match j, hj with
  | 0, hj => exact hj
  | 1, hj => exact hj
  | 2, hj => exact hj
  | j + 3, hj => simp [PgV.cells] at hj)
structure KpW (X : Nat → Prop) (A B : World) : Prop where
 os : B.os = A.os
 tape : B.tape = A.tape
 output : B.output = A.output
 size : A.heap.size ≤ B.heap.size
 block : ∀ k, k < A.heap.size → ¬ X k → B.heap[k]? = A.heap[k]?
section
variable {X : Nat → Prop} {A B C : World}
theorem KpW.refl : KpW X A A := ⟨rfl, rfl, rfl, Nat.le_refl _, fun _ _ _ => rfl⟩
theorem KpW.trans (h : KpW X A B) (k : KpW X B C) : KpW X A C := ⟨k.os.trans h.os, k.tape.trans h.tape, k.output.trans h.output, Li h.size k.size, fun i hi hx => (k.block i (Lg hi h.size) hx).trans (h.block i hi hx)⟩
theorem KpW.of_below (b : Below A.heap.size A B) : KpW X A B := ⟨b.os, b.tape, b.output, b.size, fun k hk _ => b.block k hk⟩
theorem KpW.only {g : Nat} (o : Only g A B) (hg : X g) : KpW X A B := ⟨o.os, o.tape, o.output, LM o.size.symm, fun k _ hx => o.block k (fun e => hx (e ▸ hg))⟩
theorem KpW.grown {g : Option Nat} (h : A.grownBy B g) (hg : ∀ k, g = some k → X k) : KpW X A B := ⟨h.os, h.tape, h.output, h.size, fun k hk hx => h.block k hk (fun e => hx (hg k e.symm))⟩
theorem KpW.more {Y : Nat → Prop} (h : KpW X A B) (hs : ∀ k, X k → Y k) : KpW Y A B := ⟨h.os, h.tape, h.output, h.size, fun k hk hx => h.block k hk (fun e => hx (hs k e))⟩
theorem KpW.below {lo : Nat} (h : KpW X A B) (hl : lo ≤ A.heap.size) (hx : ∀ k, X k → lo ≤ k) : Below lo A B := ⟨h.os, h.tape, h.output, h.size, fun k hk => h.block k (by omega) (fun e => by have := hx k e; omega)⟩
theorem KpW.row {i : Nat} {t : TypeId} {cs : Array Value} (h : KpW X A B) (r : Row A i t cs) (hx : ¬ X i) : Row B i t cs := (h.block i r.lt hx).trans r
end
theorem ZT {W : World} {i g : Nat} {t t' : TypeId} {cs cs' : Array Value} (r : Row W i t cs) (r' : Row W g t' cs') (h : t ≠ t') : i ≠ g := fun e => h (by
 subst e
 have h9 : W.heap[i]? = some (.cells cs t (0, 0)) := r
 rw [show W.heap[i]? = some (.cells cs' t' (0, 0)) from r'] at h9
 injection h9 with h9; injection h9 with _ h9; exact h9.symm)
theorem KpW.tk {W W' : World} {g : Nat} {cs : Array Value} (h : KpW (fun i => i = g) W W') (r : Row W g 88 cs) : TKeep W W' := fun i t ds q a _ => h.row q (ZT q r a)
theorem KpW.own1 {W W' : World} {g lo size n : Nat} {cs : Array Value} {v : Value} {xs : List Value} (h : KpW (fun i => i = g) W W') (r : Row W g 88 cs) (o : W.ownsRow lo 54 size v n xs) : W'.ownsRow lo 54 size v n xs := by
 refine ⟨o.1, ?_⟩;rcases o.2 with e | ⟨k, c, b, e, j, d, l⟩
 · exact .inl e
 · exact .inr ⟨k, c, b, e, j, h.row (show Row W k 54 b from d) (ZT (show Row W k 54 b from d) r (by decide)), l⟩
theorem EQ {w : World} {b size n m c : Nat} {A : Option Addr} {e : TypeId} {xs : List Value} (h : w.ownsRow b e size (.slice A m c) n xs) : m = n := by
 rcases h.2 with ⟨d, rfl⟩ | ⟨g, i, j, d, _⟩
 · cases d; rfl
 · cases d; rfl
structure AskR (R : RnV) (n lk : Int) (mv : Value) (W w' : World) : Prop where
 ex : ∃ A c, Row w' R.g 88 (R.cz n 0 lk (.slice A (ZF R.q (R.ts.map IntsV.l) R.fuel).length c) mv) ∧ Rd w' A (JD (ZF R.q (R.ts.map IntsV.l) R.fuel)) ∧ RowB w' 52 A ∧ KpW (fun i => i = R.g) W w'
theorem AiU (R : RnV) (n lk : Int) (mv : Value) (W : World) (hr : Row W R.g 88 (R.cz n 0 lk (.slice none 0 0) mv)) (hok : R.q.ok W) (ht : Rd W R.tA (Ji R.ts)) (hot : ∀ x ∈ R.ts, x.ok W) (hbl : R.q.body.length ≤ 1000) (hl : R.ts.length ≤ 1000) :
 Calls Tryz.prog 71 #[.pointer (some ⟨R.g, 0, none⟩)] W fun e w' => e = .returned (.tuple #[]) ∧ AskR R n lk mv W w' := by
 obtain ⟨S, p⟩ : ∃ S : World → Prop, S = (fun V => ∃ k, Row V R.g 88 (R.cz n 0 lk k mv)) := ⟨_, rfl⟩;have S0 : Hid (∀ V, S V → ∃ k, Row V R.g 88 (R.cz n 0 lk k mv)) := by show ∀ V, _; rw [p]; exact fun V h => h
 have SI : Hid (∀ V k, Row V R.g 88 (R.cz n 0 lk k mv) → S V) := by show ∀ V k, _; rw [p]; exact fun V k h => ⟨k, h⟩
 have Hr := Lv hr;have ab := Lv hok;have Ht := Lv ht;have ac := Lv hot;have aa := Lv hbl;have Hl := Lv hl;clear p hr hok ht hot hbl hl;go_enter Tryz.func71, Tryz.ntmps71
 go_wp2_with fail
 obtain ⟨V0, s⟩ : ∃ V, V = W.drew := ⟨_, rfl⟩;have u : Below W.heap.size W V0 := by rw [s]; exact St.drew (S := fun V => Below W.heap.size W V) (Below.refl _ _)
 have r0 := Hr.out.below u Hr.out.lt;have hS := SI.out _ _ r0;refine wp_region_held (S := S) (by kernel_rfl) ?_;simp only [Lm, Le, Lu, Nat.reduceAdd, Lk, Ll, Ly, Lp, Ln];show wpAnyH _ _ _ _ _ _ _ _ W.drew;rw [← s];clear s;(refine tkH 0 (.pointer (some ⟨R.g, 0, none⟩)) rfl (Qd rfl (fun W b => by (go_simp))) ?_; simp only [Act.put, Qa, Qb, Qc]);(refine tkH 1 (.pointer (some ⟨R.g, 0, none⟩)) rfl (Qd rfl (fun W b => by (go_simp))) ?_; simp only [Act.put, Qa, Qb, Qc]);(refine tkH 2 (.pointer (some ⟨R.g, 0, none⟩)) rfl (Qd rfl (fun W b => by (go_simp))) ?_; simp only [Act.put, Qa, Qb, Qc]);(refine tkH 3 (.pointer (some ⟨R.g, 0, none⟩)) rfl (Qd rfl (fun W b => by (go_simp))) ?_; simp only [Act.put, Qa, Qb, Qc]);(refine tkH 4 (.pointer (some ⟨R.g, 0, none⟩)) rfl (Qd rfl (fun W b => by (go_simp))) ?_; simp only [Act.put, Qa, Qb, Qc]);(refine tkH 5 _ rfl (JA rfl 25 _ rfl ⟨R.g, 0, none⟩ rfl R.q.cells.toList _ (fun V hV => Ab0 (S0.out V hV).choose_spec) Tryz.underlying25 rfl (by kernel_rfl)) ?_; simp only [Act.put, Qa, Qb, Qc]);(refine tkH 6 (.pointer (some ⟨R.g, 0, none⟩)) rfl (Qd rfl (fun W b => by (go_simp))) ?_; simp only [Act.put, Qa, Qb, Qc]);(refine tkH 7 (.pointer (some ⟨R.g, 0, none⟩)) rfl (Qd rfl (fun W b => by (go_simp))) ?_; simp only [Act.put, Qa, Qb, Qc]);(refine tkH 8 (.pointer (some ⟨R.g, 0, none⟩)) rfl (Qd rfl (fun W b => by (go_simp))) ?_; simp only [Act.put, Qa, Qb, Qc]);(refine tkH 9 (.pointer (some ⟨R.g, 3, none⟩)) rfl (Qd rfl (fun W b => by (go_simp))) ?_; simp only [Act.put, Qa, Qb, Qc]);(refine tkH 10 (.slice R.tA R.ts.length R.tcap) rfl (Qd rfl (fun W b => by ((have c := (S0.out W b).choose_spec.cellv (i := 3) (v := .slice R.tA R.ts.length R.tcap) rfl; go_simp)))) ?_; simp only [Act.put, Qa, Qb, Qc]);(refine tkH 11 (.pointer (some ⟨R.g, 0, none⟩)) rfl (Qd rfl (fun W b => by (go_simp))) ?_; simp only [Act.put, Qa, Qb, Qc]);(refine tkH 12 (.pointer (some ⟨R.g, 0, none⟩)) rfl (Qd rfl (fun W b => by (go_simp))) ?_; simp only [Act.put, Qa, Qb, Qc]);(refine tkH 13 (.pointer (some ⟨R.g, 0, none⟩)) rfl (Qd rfl (fun W b => by (go_simp))) ?_; simp only [Act.put, Qa, Qb, Qc]);(refine tkH 14 (.pointer (some ⟨R.g, 4, none⟩)) rfl (Qd rfl (fun W b => by (go_simp))) ?_; simp only [Act.put, Qa, Qb, Qc]);(refine tkH 15 (.int .i64 R.fuel) rfl (Qd rfl (fun W b => by ((have c := (S0.out W b).choose_spec.cellv (i := 4) (v := .int .i64 R.fuel) rfl; go_simp)))) ?_; simp only [Act.put, Qa, Qb, Qc]);(refine wpAnyH_all (rs := [16]) (by kernel_rfl) (by simp) (fun i hi => ?_); obtain rfl : i = 16 := by simpa using hi);refine Qf rfl rfl (fun K2 j => ?_);refine Qo 50 #[.agg R.q.cells, .slice R.tA R.ts.length R.tcap, .int .i64 R.fuel] (w1 := V0) (by go_simp) ((Acy R.q R.tA R.tcap R.ts R.fuel V0 (ab.out.go u) aa.out (Ht.out.go u) (fun x hx => (ac.out x hx).go u) Hl.out).mono ?_);rintro e V1 ⟨v, rfl, d, bb⟩;refine ⟨_, rfl, ?_⟩;refine j _ _ ?_;clear j K2;simp only [Act.put, Qa, Qb, Qc];obtain ⟨A, m, c, rfl⟩ := Zy d;obtain rfl : m = (ZF R.q (R.ts.map IntsV.l) R.fuel).length := EQ d;have r1 := r0.below bb r0.lt;have y := Kv d;have o := Xa d;have kp := (KpW.of_below (X := fun i => i = R.g) u).trans (KpW.of_below (bb));have z := SI.out _ _ r1;refine ⟨z, ?_⟩;clear hS u r0 bb d;(refine tkH 17 (.tuple #[.slice A (ZF R.q (R.ts.map IntsV.l) R.fuel).length c, .int .i64 (Ze R.q (R.ts.map IntsV.l) R.fuel)]) rfl (Qd rfl (fun W b => by (go_simp))) ?_; simp only [Act.put, Qa, Qb, Qc]);(refine tkH 18 (.slice A (ZF R.q (R.ts.map IntsV.l) R.fuel).length c) rfl (Qd rfl (fun W b => by (go_simp))) ?_; simp only [Act.put, Qa, Qb, Qc]);(refine tkH 19 (.int .i64 (Ze R.q (R.ts.map IntsV.l) R.fuel)) rfl (Qd rfl (fun W b => by (go_simp))) ?_; simp only [Act.put, Qa, Qb, Qc]);(refine tkH 20 (.pointer (some ⟨R.g, 0, none⟩)) rfl (Qd rfl (fun W b => by (go_simp))) ?_; simp only [Act.put, Qa, Qb, Qc]);(refine tkH 21 (.pointer (some ⟨R.g, 10, none⟩)) rfl (Qd rfl (fun W b => by (go_simp))) ?_; simp only [Act.put, Qa, Qb, Qc]);(refine wpAnyH_all (rs := [22]) (by kernel_rfl) (by simp) (fun i hi => ?_); obtain rfl : i = 22 := by simpa using hi);refine Qf rfl rfl (fun K2 j => ?_);refine ZV 86 (.tmp 23) (.tmp 20) rfl R.g 10 rfl _ rfl [.slice A (ZF R.q (R.ts.map IntsV.l) R.fuel).length c] rfl 88 _ (R.cz n 0 lk (.slice A (ZF R.q (R.ts.map IntsV.l) R.fuel).length c) mv) r1 (by kernel_rfl) (by show 10 + 1 ≤ 12; omega) (by simp [Value.oneCell']) rfl ?_;intro V2 r2 o2;refine j _ _ ?_;clear j K2;simp only [Act.put, Qa, Qb, Qc];have t : Row V2 R.g 88 (R.cz n 0 lk (.slice A (ZF R.q (R.ts.map IntsV.l) R.fuel).length c) mv) := r2
 have HF : Hid (AskR R n lk mv W V2) := ⟨⟨A, c, t, Q0 y o (fun i cs r => r.only o2 (fun e => by
  subst e; have w : V1.heap[R.g]? = _ := r; rw [show V1.heap[R.g]? = _ from r1] at w; injection w with w; injection w with _ w; cases w)), o.only o2 r1 (by decide), kp.trans (KpW.only o2 rfl)⟩⟩
 refine ⟨SI.out _ _ t, ?_⟩;refine wpAnyH_done (by kernel_rfl) ?_ _;clear r1 y o kp r2 o2 t S0 SI z;go_wp2_with fail
 go_end0
 exact ⟨rfl, HF.out⟩
def RnV.ask (R : RnV) (bv : Value) : RnV := { R with on := true, bv := bv }
structure OnceR (lo : Nat) (R : RnV) (W w' : World) : Prop where
 ex : ∃ bv, RnIn lo (R.ask bv) w' ∧ KpW (fun i => i = R.g) W w'
theorem Ae5 {lo : Nat} (R : RnV) (W : World) (h : RnIn lo R W) (hbl : R.q.body.length ≤ 1000) (hl : R.ts.length ≤ 1000) :
 Calls Tryz.prog 70 #[.pointer (some ⟨R.g, 7, none⟩), .func (.func 71) #[.pointer (some ⟨R.g, 0, none⟩)] #[]] W fun e w' => e = .returned (.tuple #[]) ∧ OnceR lo R W w' := by
 obtain ⟨g, q, tA, m, ts, b, aA, k, x, n, on, z, o, w⟩ := R;cases on with
 | true =>
  refine (Agb _ g 7 W (h.row.cellv (i := 7) (v := .int .u32 1) rfl)).mono fun e w' ⟨e1, e2⟩ => ⟨e1, ?_⟩;subst e2;exact ⟨z, h, KpW.refl⟩
 | false =>
  have hb : z = .slice none 0 0 := h.rd.bas;subst hb;have p := h.row;have o1 := Q6 W g 8 (.int .i32 1);have r1 : Row (W.setCell ⟨g, 8, none⟩ (.int .i32 1)) g 88 ((RnV.mk g q tA m ts b aA k x n false (.slice none 0 0) o w).cz (n : Int) 0 1 (.slice none 0 0) o) := p.set 8 (.int .i32 1);have s := h.rd.keep (TKeep.only o1 p);have ha := AiU (RnV.mk g q tA m ts b aA k x n false (.slice none 0 0) o w) (n : Int) 1 o _ r1 s.pok s.trd s.tok hbl hl
  refine (Ai7 71 g 7 88 _ (fun ds d => ∃ A c, ds = (RnV.mk g q tA m ts b aA k x n false (.slice none 0 0) o w).cz (n : Int) 0 1 (.slice A (ZF q (ts.map IntsV.l) b).length c) o ∧ Rd d A (JD (ZF q (ts.map IntsV.l) b)) ∧ RowB d 52 A ∧ KpW (fun i => i = g) (W.setCell ⟨g, 8, none⟩ (.int .i32 1)) d) W p rfl rfl (fun _ _ => by kernel_rfl)
   (ha.mono fun e d ⟨e1, A, c, h1, h2, h3, h4⟩ => ⟨e1, _, h1, rfl, rfl, A, c, rfl, h2, h3, h4⟩)).mono fun e w' ⟨e1, ds, d, h1, ⟨A, c, h2, h3, h4, h5⟩, h6⟩ => ⟨e1, ?_⟩
  subst h2 h6;have y : Below d.heap.size d d.drew := St.drew (S := fun V => Below d.heap.size d V) (Below.refl _ _);have r2 := h1.below y h1.lt;have o2 := Q6 d.drew g 7 (.int .u32 1);have r3 := r2.set 7 (.int .u32 1);have o3 := Q6 (d.drew.setCell ⟨g, 7, none⟩ (.int .u32 1)) g 8 (.int .i32 0);have r4 := r3.set 8 (.int .i32 0);have k2 : KpW (fun i => i = g) d ((d.drew.setCell ⟨g, 7, none⟩ (.int .u32 1)).setCell ⟨g, 8, none⟩ (.int .i32 0)) := ((KpW.of_below (X := fun i => i = g) y).trans (KpW.only (X := fun i => i = g) o2 rfl)).trans (KpW.only (X := fun i => i = g) o3 rfl);have u : KpW (fun i => i = g) W ((d.drew.setCell ⟨g, 7, none⟩ (.int .u32 1)).setCell ⟨g, 8, none⟩ (.int .i32 0)) := ((KpW.only (X := fun i => i = g) o1 rfl).trans h5).trans k2;have j := h.rd.keep (u.tk p);have t2 := k2.tk h1;refine ⟨.slice A (ZF q (ts.map IntsV.l) b).length c, ⟨r4, h.glo, ⟨j.pok, j.va, j.ba, j.trd, j.tA, j.tok, j.tb, j.ard, j.aA, j.aok, ?_, j.mok⟩, u.own1 p h.own⟩, u⟩;exact ⟨A, c, rfl, Q0 h3 h4 (fun i t r => t2 i _ t r (by decide) (by decide)), QO h4 (fun i t r => t2 i _ t r (by decide) (by decide))⟩
structure RunT (s : Ms) (w w' : World) (e : Ending) : Prop where
 ex : ∃ A cap, e = .returned (.tuple #[.agg (s.rv A cap).cells, .int .i64 0]) ∧ (Rd w' A (s.evs.flatMap EvV.cells) ∧ RowB w' 263 A) ∧ s.evs.length ≤ cap ∧ cap ≤ maxLen ∧ (A = none → cap = 0) ∧ Below w.heap.size w w'
theorem Akb (p : PgV) (aa : Option Addr) (acap : Nat) (args : List Int) (fuel : Int) (w : World) (hbl : p.body.length ≤ 1000) (hn : args.length ≤ 1000) (hok : p.ok w) (hra : Rd w aa (Qj args)) (hin : ∀ a ∈ args, InI a) (hc : Zs p args.length fuel = 0) :
 Calls Tryz.prog 72 #[.agg p.cells, .slice aa args.length acap, .int .i64 fuel] w fun e w' => RunT (QR p args fuel) w w' e := by
 obtain ⟨t, v, m, j⟩ := UK hok hin hc;obtain ⟨fin, d, g, i⟩ := j.fin;refine (Adq p t aa acap args fuel fin w hbl hn hok hra j.good hc d g).mono fun e w' h => ?_
 rw [j.eq, ← i];obtain ⟨ev, rfl, b, l⟩ := h.ex;obtain ⟨A, c, rfl, d, g, i, k⟩ := Ah5 b;exact ⟨A, c, rfl, ⟨d, Xa b⟩, g, i, k, l⟩
theorem AdM {p : PgV} {W W' : World} {g : Nat} (h : p.ok W) (o : Only g W W') (h1 : Qj p.V ≠ [] → ∀ a, p.va = some a → a.block ≠ g) (h2 : p.body.flatMap Nd.cells ≠ [] → ∀ a, p.ba = some a → a.block ≠ g) : p.ok W' :=
 ⟨h.par, h.vlen, h.vmax, h.vnil, h.vrd.only o h1, h.vin, h.blen, h.bmax, h.bnil, h.brd.only o h2, h.bin⟩
theorem DlT.tk {x : DlV} {W W' : World} (h : DlT W x) (k : TKeep W W') : DlT W' x :=
 ⟨⟨Q0 h.ok.1 h.ib (fun i cs r => k i _ cs r (by decide) (by decide)), h.ok.2⟩, QO h.ib (fun i cs r => k i _ cs r (by decide) (by decide)), h.nil⟩
theorem RnIn.onlyM {lo : Nat} {R : RnV} {W W' : World} {K : Nat} {cs : Array Value} (h : RnIn lo R W) (o : Only K W W') (r : Row W K 54 cs) (hne : R.mv.ownBlock ≠ some K) : RnIn lo R W' :=
 ⟨h.row.only o (ZT h.row r (by decide)), h.glo, h.rd.keep (fun i t ds q _ b => q.only o (ZT q r b)), QB h.own o hne⟩
theorem Kd {p : PgV} {d : Dl} {fuel : Int} {ts : List (List Int)} (h : ZW p d ts fuel = 0) : QI p = 0 ∧ ZR p.params ts fuel = 0 ∧ mutC p d = 0 := by
 have c : Ze p ts fuel = 0 := by
  unfold ZW at h;split at h
  · rename_i b; exact absurd h b
  · rename_i b; simpa using b
 have e : mutC p d = 0 := by unfold ZW at h; rwa [if_neg (by rw [c]; simp)] at h
 unfold Ze at c;split at c
 · rename_i b; exact absurd c b
 · rename_i b; exact ⟨by simpa using b, c, e⟩
theorem AfG {p m : PgV} {d : Dl} {fuel : Int} {ts : List (List Int)} {a : List Int} (hc : ZW p d ts fuel = 0) (ha : a ∈ ts) (hm : IsMut p d m) : Zs m a.length fuel = 0 := by
 obtain ⟨h, b, c⟩ := Kd hc;obtain ⟨i, j, g, k, l⟩ := XV b;obtain ⟨t, e⟩ := AhS hm c;rw [JL e, hm.par, if_neg (by rw [g a ha]; simp), if_neg (by omega)]
end Go.Proofs.YtkoikjnlpifbjaaGreat
