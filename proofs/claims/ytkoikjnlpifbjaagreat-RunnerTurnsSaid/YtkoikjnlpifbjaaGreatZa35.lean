/- Lemmas for RunnerTurnsP. -/
import Derived.Test.YtkoikjnlpifbjaaGreatZa1
import Derived.Test.YtkoikjnlpifbjaaGreatZa34
import Derived.Test.YtkoikjnlpifbjaaGreatZa33
set_option linter.unusedVariables false
set_option linter.unusedSimpArgs false
set_option maxRecDepth 100000
set_option maxHeartbeats 16000000
namespace Go.Proofs.YtkoikjnlpifbjaaGreat
open Go.RowKit Go.Deep
def RnV.cz (R : RnV) (n dn lk : Int) (bv mv : Value) : Array Value := #[.int .i64 R.q.params, .slice R.q.va R.q.V.length R.q.vcap, .slice R.q.ba R.q.body.length R.q.bcap, .slice R.tA R.ts.length R.tcap, .int .i64 R.fuel, .slice R.aA R.xs.length R.acap, .int .i64 n, .int .u32 dn, .int .i32 lk, .int .u32 0, bv, mv]
theorem AbC {R : RnV} {n dn lk : Int} {bv mv : Value} {W : World} (h : Row W R.g 88 (R.cz n dn lk bv mv)) : ∀ (j : Nat) (v : Value), R.q.cells.toList[j]? = some v → W.cell? ((⟨R.g, 0, none⟩ : Addr).add j) = some v :=
 Row.from_ (cur := R.cz n dn lk bv mv) h 0 (fun j v hj => by
  match j, hj with
  | 0, hj => exact hj
  | 1, hj => exact hj
  | 2, hj => exact hj
  | j + 3, hj => simp [PgV.cells] at hj)
structure KpW (X : Nat → Prop) (A B : World) : Prop where
 os : B.os = A.os
 tape : B.tape = A.tape
 output : B.output = A.output
 size : A.heap.size ≤ B.heap.size
 block : ∀ k, k < A.heap.size → ¬ X k → B.heap[k]? = A.heap[k]?
section
variable {X : Nat → Prop} {A B C : World}
theorem KpW.refl : KpW X A A := ⟨rfl, rfl, rfl, Nat.le_refl _, fun _ _ _ => rfl⟩
theorem KpW.trans (h : KpW X A B) (k : KpW X B C) : KpW X A C := ⟨k.os.trans h.os, k.tape.trans h.tape, k.output.trans h.output, Lf h.size k.size, fun i hi hx => (k.block i (Le hi h.size) hx).trans (h.block i hi hx)⟩
theorem KpW.of_below (b : Below A.heap.size A B) : KpW X A B := ⟨b.os, b.tape, b.output, b.size, fun k hk _ => b.block k hk⟩
theorem KpW.only {g : Nat} (o : Only g A B) (hg : X g) : KpW X A B := ⟨o.os, o.tape, o.output, LE o.size.symm, fun k _ hx => o.block k (fun e => hx (e ▸ hg))⟩
theorem KpW.grown {g : Option Nat} (h : A.grownBy B g) (hg : ∀ k, g = some k → X k) : KpW X A B := ⟨h.os, h.tape, h.output, h.size, fun k hk hx => h.block k hk (fun e => hx (hg k e.symm))⟩
theorem KpW.more {Y : Nat → Prop} (h : KpW X A B) (hs : ∀ k, X k → Y k) : KpW Y A B := ⟨h.os, h.tape, h.output, h.size, fun k hk hx => h.block k hk (fun e => hx (hs k e))⟩
theorem KpW.below {lo : Nat} (h : KpW X A B) (hl : lo ≤ A.heap.size) (hx : ∀ k, X k → lo ≤ k) : Below lo A B := ⟨h.os, h.tape, h.output, h.size, fun k hk => h.block k (by omega) (fun e => by have := hx k e; omega)⟩
theorem KpW.row {i : Nat} {t : TypeId} {cs : Array Value} (h : KpW X A B) (r : Row A i t cs) (hx : ¬ X i) : Row B i t cs := (h.block i r.lt hx).trans r
end
theorem ZJ {W : World} {i g : Nat} {t t' : TypeId} {cs cs' : Array Value} (r : Row W i t cs) (r' : Row W g t' cs') (h : t ≠ t') : i ≠ g := fun e => h (by
 subst e
 have h9 : W.heap[i]? = some (.cells cs t (0, 0)) := r
 rw [show W.heap[i]? = some (.cells cs' t' (0, 0)) from r'] at h9
 injection h9 with h9; injection h9 with _ h9; exact h9.symm)
theorem KpW.tk {W W' : World} {g : Nat} {cs : Array Value} (h : KpW (fun i => i = g) W W') (r : Row W g 88 cs) : TKeep W W' := fun i t ds q a _ => h.row q (ZJ q r a)
theorem KpW.own1 {W W' : World} {g lo size n : Nat} {cs : Array Value} {v : Value} {xs : List Value} (h : KpW (fun i => i = g) W W') (r : Row W g 88 cs) (o : W.ownsRow lo 54 size v n xs) : W'.ownsRow lo 54 size v n xs := by
 refine ⟨o.1, ?_⟩;rcases o.2 with e | ⟨k, c, b, e, j, d, l⟩
 · exact .inl e
 · exact .inr ⟨k, c, b, e, j, h.row (show Row W k 54 b from d) (ZJ (show Row W k 54 b from d) r (by decide)), l⟩
theorem El {w : World} {b size n m c : Nat} {A : Option Addr} {e : TypeId} {xs : List Value} (h : w.ownsRow b e size (.slice A m c) n xs) : m = n := by
 rcases h.2 with ⟨d, rfl⟩ | ⟨g, i, j, d, _⟩
 · cases d; rfl
 · cases d; rfl
structure AskR (R : RnV) (n lk : Int) (mv : Value) (W w' : World) : Prop where
 ex : ∃ A c, Row w' R.g 88 (R.cz n 0 lk (.slice A (ZK R.q (R.ts.map IntsV.l) R.fuel).length c) mv) ∧ Rd w' A (K5 (ZK R.q (R.ts.map IntsV.l) R.fuel)) ∧ RowB w' 52 A ∧ KpW (fun i => i = R.g) W w'
theorem Ah6 (R : RnV) (n lk : Int) (mv : Value) (W : World) (hr : Row W R.g 88 (R.cz n 0 lk (.slice none 0 0) mv)) (hok : R.q.ok W) (ht : Rd W R.tA (ZN R.ts)) (hot : ∀ x ∈ R.ts, x.ok W) (hbl : R.q.body.length ≤ 1000) (hl : R.ts.length ≤ 1000) :
 Calls Tryz.prog 71 #[.pointer (some ⟨R.g, 0, none⟩)] W fun e w' => e = .returned (.tuple #[]) ∧ AskR R n lk mv W w' := by
 obtain ⟨S, p⟩ : ∃ S : World → Prop, S = (fun V => ∃ k, Row V R.g 88 (R.cz n 0 lk k mv)) := ⟨_, rfl⟩;have S0 : Hid (∀ V, S V → ∃ k, Row V R.g 88 (R.cz n 0 lk k mv)) := by show ∀ V, _; rw [p]; exact fun V h => h
 have SI : Hid (∀ V k, Row V R.g 88 (R.cz n 0 lk k mv) → S V) := by show ∀ V k, _; rw [p]; exact fun V k h => ⟨k, h⟩
 have Hr := Lh hr;have ab := Lh hok;have Ht := Lh ht;have ac := Lh hot;have aa := Lh hbl;have Hl := Lh hl;clear p hr hok ht hot hbl hl;go_enter Tryz.func71, Tryz.ntmps71
 go_wp2_with fail
 obtain ⟨V0, s⟩ : ∃ V, V = W.drew := ⟨_, rfl⟩;have u : Below W.heap.size W V0 := by rw [s]; exact St.drew (S := fun V => Below W.heap.size W V) (Below.refl _ _)
 have r0 := Hr.out.below u Hr.out.lt;have hS := SI.out _ _ r0;refine wp_region_held (S := S) (by kernel_rfl) ?_;simp only [Lk, Lc, Lo, Nat.reduceAdd, Li, Lj, Lp, Lm, Ll];show wpAnyH _ _ _ _ _ _ _ _ W.drew;rw [← s];clear s;(refine tkH 0 (.pointer (some ⟨R.g, 0, none⟩)) rfl (Qd rfl (fun W b => by (go_simp))) ?_; simp only [Act.put, Qa, Qb, Qc]);(refine tkH 1 (.pointer (some ⟨R.g, 0, none⟩)) rfl (Qd rfl (fun W b => by (go_simp))) ?_; simp only [Act.put, Qa, Qb, Qc]);(refine tkH 2 (.pointer (some ⟨R.g, 0, none⟩)) rfl (Qd rfl (fun W b => by (go_simp))) ?_; simp only [Act.put, Qa, Qb, Qc]);(refine tkH 3 (.pointer (some ⟨R.g, 0, none⟩)) rfl (Qd rfl (fun W b => by (go_simp))) ?_; simp only [Act.put, Qa, Qb, Qc]);(refine tkH 4 (.pointer (some ⟨R.g, 0, none⟩)) rfl (Qd rfl (fun W b => by (go_simp))) ?_; simp only [Act.put, Qa, Qb, Qc]);(refine tkH 5 _ rfl (JQ rfl 25 _ rfl ⟨R.g, 0, none⟩ rfl R.q.cells.toList _ (fun V hV => AbC (S0.out V hV).choose_spec) Tryz.underlying25 rfl (by kernel_rfl)) ?_; simp only [Act.put, Qa, Qb, Qc]);(refine tkH 6 (.pointer (some ⟨R.g, 0, none⟩)) rfl (Qd rfl (fun W b => by (go_simp))) ?_; simp only [Act.put, Qa, Qb, Qc]);(refine tkH 7 (.pointer (some ⟨R.g, 0, none⟩)) rfl (Qd rfl (fun W b => by (go_simp))) ?_; simp only [Act.put, Qa, Qb, Qc]);(refine tkH 8 (.pointer (some ⟨R.g, 0, none⟩)) rfl (Qd rfl (fun W b => by (go_simp))) ?_; simp only [Act.put, Qa, Qb, Qc]);(refine tkH 9 (.pointer (some ⟨R.g, 3, none⟩)) rfl (Qd rfl (fun W b => by (go_simp))) ?_; simp only [Act.put, Qa, Qb, Qc]);(refine tkH 10 (.slice R.tA R.ts.length R.tcap) rfl (Qd rfl (fun W b => by ((have c := (S0.out W b).choose_spec.cellv (i := 3) (v := .slice R.tA R.ts.length R.tcap) rfl; go_simp)))) ?_; simp only [Act.put, Qa, Qb, Qc]);(refine tkH 11 (.pointer (some ⟨R.g, 0, none⟩)) rfl (Qd rfl (fun W b => by (go_simp))) ?_; simp only [Act.put, Qa, Qb, Qc]);(refine tkH 12 (.pointer (some ⟨R.g, 0, none⟩)) rfl (Qd rfl (fun W b => by (go_simp))) ?_; simp only [Act.put, Qa, Qb, Qc]);(refine tkH 13 (.pointer (some ⟨R.g, 0, none⟩)) rfl (Qd rfl (fun W b => by (go_simp))) ?_; simp only [Act.put, Qa, Qb, Qc]);(refine tkH 14 (.pointer (some ⟨R.g, 4, none⟩)) rfl (Qd rfl (fun W b => by (go_simp))) ?_; simp only [Act.put, Qa, Qb, Qc]);(refine tkH 15 (.int .i64 R.fuel) rfl (Qd rfl (fun W b => by ((have c := (S0.out W b).choose_spec.cellv (i := 4) (v := .int .i64 R.fuel) rfl; go_simp)))) ?_; simp only [Act.put, Qa, Qb, Qc]);(refine wpAnyH_all (rs := [16]) (by kernel_rfl) (by simp) (fun i hi => ?_); obtain rfl : i = 16 := by simpa using hi);refine Qf rfl rfl (fun K2 j => ?_);refine Qo 50 #[.agg R.q.cells, .slice R.tA R.ts.length R.tcap, .int .i64 R.fuel] (w1 := V0) (by go_simp) ((Agr R.q R.tA R.tcap R.ts R.fuel V0 (ab.out.go u) aa.out (Ht.out.go u) (fun x hx => (ac.out x hx).go u) Hl.out).mono ?_);rintro e V1 ⟨v, rfl, d, bb⟩;refine ⟨_, rfl, ?_⟩;refine j _ _ ?_;clear j K2;simp only [Act.put, Qa, Qb, Qc];obtain ⟨A, m, c, rfl⟩ := Zw d;obtain rfl : m = (ZK R.q (R.ts.map IntsV.l) R.fuel).length := El d;have r1 := r0.below bb r0.lt;have y := K6 d;have o := KN d;have kp := (KpW.of_below (X := fun i => i = R.g) u).trans (KpW.of_below (bb));have z := SI.out _ _ r1;refine ⟨z, ?_⟩;clear hS u r0 bb d;(refine tkH 17 (.tuple #[.slice A (ZK R.q (R.ts.map IntsV.l) R.fuel).length c, .int .i64 (Ze R.q (R.ts.map IntsV.l) R.fuel)]) rfl (Qd rfl (fun W b => by (go_simp))) ?_; simp only [Act.put, Qa, Qb, Qc]);(refine tkH 18 (.slice A (ZK R.q (R.ts.map IntsV.l) R.fuel).length c) rfl (Qd rfl (fun W b => by (go_simp))) ?_; simp only [Act.put, Qa, Qb, Qc]);(refine tkH 19 (.int .i64 (Ze R.q (R.ts.map IntsV.l) R.fuel)) rfl (Qd rfl (fun W b => by (go_simp))) ?_; simp only [Act.put, Qa, Qb, Qc]);(refine tkH 20 (.pointer (some ⟨R.g, 0, none⟩)) rfl (Qd rfl (fun W b => by (go_simp))) ?_; simp only [Act.put, Qa, Qb, Qc]);(refine tkH 21 (.pointer (some ⟨R.g, 10, none⟩)) rfl (Qd rfl (fun W b => by (go_simp))) ?_; simp only [Act.put, Qa, Qb, Qc]);(refine wpAnyH_all (rs := [22]) (by kernel_rfl) (by simp) (fun i hi => ?_); obtain rfl : i = 22 := by simpa using hi);refine Qf rfl rfl (fun K2 j => ?_);refine Zn 86 (.tmp 23) (.tmp 20) rfl R.g 10 rfl _ rfl [.slice A (ZK R.q (R.ts.map IntsV.l) R.fuel).length c] rfl 88 _ (R.cz n 0 lk (.slice A (ZK R.q (R.ts.map IntsV.l) R.fuel).length c) mv) r1 (by kernel_rfl) (by show 10 + 1 ≤ 12; omega) (by simp [Value.oneCell']) rfl ?_;intro V2 r2 o2;refine j _ _ ?_;clear j K2;simp only [Act.put, Qa, Qb, Qc];have t : Row V2 R.g 88 (R.cz n 0 lk (.slice A (ZK R.q (R.ts.map IntsV.l) R.fuel).length c) mv) := r2
 have HF : Hid (AskR R n lk mv W V2) := ⟨⟨A, c, t, QW y o (fun i cs r => r.only o2 (fun e => by
  subst e; have w : V1.heap[R.g]? = _ := r; rw [show V1.heap[R.g]? = _ from r1] at w; injection w with w; injection w with _ w; cases w)), o.only o2 r1 (by decide), kp.trans (KpW.only o2 rfl)⟩⟩
 refine ⟨SI.out _ _ t, ?_⟩;refine wpAnyH_done (by kernel_rfl) ?_ _;clear r1 y o kp r2 o2 t S0 SI z;go_wp2_with fail
 go_end0
 exact ⟨rfl, HF.out⟩
def RnV.ask (R : RnV) (bv : Value) : RnV := { R with on := true, bv := bv }
structure OnceR (lo : Nat) (R : RnV) (W w' : World) : Prop where
 ex : ∃ bv, RnIn lo (R.ask bv) w' ∧ KpW (fun i => i = R.g) W w'
theorem Aew {lo : Nat} (R : RnV) (W : World) (h : RnIn lo R W) (hbl : R.q.body.length ≤ 1000) (hl : R.ts.length ≤ 1000) :
 Calls Tryz.prog 70 #[.pointer (some ⟨R.g, 7, none⟩), .func (.func 71) #[.pointer (some ⟨R.g, 0, none⟩)] #[]] W fun e w' => e = .returned (.tuple #[]) ∧ OnceR lo R W w' := by
 obtain ⟨g, q, tA, m, ts, b, aA, k, x, n, on, z, o, w⟩ := R;cases on with
 | true =>
  refine (Afz _ g 7 W (h.row.cellv (i := 7) (v := .int .u32 1) rfl)).mono fun e w' ⟨e1, e2⟩ => ⟨e1, ?_⟩;subst e2;exact ⟨z, h, KpW.refl⟩
 | false =>
  have hb : z = .slice none 0 0 := h.rd.bas;subst hb;have p := h.row;have o1 := Za W g 8 (.int .i32 1);have r1 : Row (W.setCell ⟨g, 8, none⟩ (.int .i32 1)) g 88 ((RnV.mk g q tA m ts b aA k x n false (.slice none 0 0) o w).cz (n : Int) 0 1 (.slice none 0 0) o) := p.set 8 (.int .i32 1);have s := h.rd.keep (TKeep.only o1 p);have ha := Ah6 (RnV.mk g q tA m ts b aA k x n false (.slice none 0 0) o w) (n : Int) 1 o _ r1 s.pok s.trd s.tok hbl hl
  refine (Aif 71 g 7 88 _ (fun ds d => ∃ A c, ds = (RnV.mk g q tA m ts b aA k x n false (.slice none 0 0) o w).cz (n : Int) 0 1 (.slice A (ZK q (ts.map IntsV.l) b).length c) o ∧ Rd d A (K5 (ZK q (ts.map IntsV.l) b)) ∧ RowB d 52 A ∧ KpW (fun i => i = g) (W.setCell ⟨g, 8, none⟩ (.int .i32 1)) d) W p rfl rfl (fun _ _ => by kernel_rfl)
   (ha.mono fun e d ⟨e1, A, c, h1, h2, h3, h4⟩ => ⟨e1, _, h1, rfl, rfl, A, c, rfl, h2, h3, h4⟩)).mono fun e w' ⟨e1, ds, d, h1, ⟨A, c, h2, h3, h4, h5⟩, h6⟩ => ⟨e1, ?_⟩
  subst h2 h6;have y : Below d.heap.size d d.drew := St.drew (S := fun V => Below d.heap.size d V) (Below.refl _ _);have r2 := h1.below y h1.lt;have o2 := Za d.drew g 7 (.int .u32 1);have r3 := r2.set 7 (.int .u32 1);have o3 := Za (d.drew.setCell ⟨g, 7, none⟩ (.int .u32 1)) g 8 (.int .i32 0);have r4 := r3.set 8 (.int .i32 0);have k2 : KpW (fun i => i = g) d ((d.drew.setCell ⟨g, 7, none⟩ (.int .u32 1)).setCell ⟨g, 8, none⟩ (.int .i32 0)) := ((KpW.of_below (X := fun i => i = g) y).trans (KpW.only (X := fun i => i = g) o2 rfl)).trans (KpW.only (X := fun i => i = g) o3 rfl);have u : KpW (fun i => i = g) W ((d.drew.setCell ⟨g, 7, none⟩ (.int .u32 1)).setCell ⟨g, 8, none⟩ (.int .i32 0)) := ((KpW.only (X := fun i => i = g) o1 rfl).trans h5).trans k2;have j := h.rd.keep (u.tk p);have t2 := k2.tk h1;refine ⟨.slice A (ZK q (ts.map IntsV.l) b).length c, ⟨r4, h.glo, ⟨j.pok, j.va, j.ba, j.trd, j.tA, j.tok, j.tb, j.ard, j.aA, j.aok, ?_, j.mok⟩, u.own1 p h.own⟩, u⟩;exact ⟨A, c, rfl, QW h3 h4 (fun i t r => t2 i _ t r (by decide) (by decide)), QJ h4 (fun i t r => t2 i _ t r (by decide) (by decide))⟩
structure RunT (s : Ms) (w w' : World) (e : Ending) : Prop where
 ex : ∃ A cap, e = .returned (.tuple #[.agg (s.rv A cap).cells, .int .i64 0]) ∧ (Rd w' A (s.evs.flatMap EvV.cells) ∧ RowB w' 263 A) ∧ s.evs.length ≤ cap ∧ cap ≤ maxLen ∧ (A = none → cap = 0) ∧ Below w.heap.size w w'
theorem Ajb (p : PgV) (aa : Option Addr) (acap : Nat) (args : List Int) (fuel : Int) (w : World) (hbl : p.body.length ≤ 1000) (hn : args.length ≤ 1000) (hok : p.ok w) (hra : Rd w aa (Qi args)) (hin : ∀ a ∈ args, InI a) (hc : Zs p args.length fuel = 0) :
 Calls Tryz.prog 72 #[.agg p.cells, .slice aa args.length acap, .int .i64 fuel] w fun e w' => RunT (QM p args fuel) w w' e := by
 obtain ⟨t, v, m, j⟩ := Vt hok hin hc;obtain ⟨fin, d, g, i⟩ := j.fin;refine (AcX p t aa acap args fuel fin w hbl hn hok hra j.good hc d g).mono fun e w' h => ?_
 rw [j.eq, ← i];obtain ⟨ev, rfl, b, l⟩ := h.ex;obtain ⟨A, c, rfl, d, g, i, k⟩ := Ahj b;exact ⟨A, c, rfl, ⟨d, KN b⟩, g, i, k, l⟩
theorem Adg {p : PgV} {W W' : World} {g : Nat} (h : p.ok W) (o : Only g W W') (h1 : Qi p.V ≠ [] → ∀ a, p.va = some a → a.block ≠ g) (h2 : p.body.flatMap Nd.cells ≠ [] → ∀ a, p.ba = some a → a.block ≠ g) : p.ok W' :=
 ⟨h.par, h.vlen, h.vmax, h.vnil, h.vrd.only o h1, h.vin, h.blen, h.bmax, h.bnil, h.brd.only o h2, h.bin⟩
theorem DlT.tk {x : DlV} {W W' : World} (h : DlT W x) (k : TKeep W W') : DlT W' x :=
 ⟨⟨QW h.ok.1 h.ib (fun i cs r => k i _ cs r (by decide) (by decide)), h.ok.2⟩, QJ h.ib (fun i cs r => k i _ cs r (by decide) (by decide)), h.nil⟩
theorem RnIn.onlyM {lo : Nat} {R : RnV} {W W' : World} {K : Nat} {cs : Array Value} (h : RnIn lo R W) (o : Only K W W') (r : Row W K 54 cs) (hne : R.mv.ownBlock ≠ some K) : RnIn lo R W' :=
 ⟨h.row.only o (ZJ h.row r (by decide)), h.glo, h.rd.keep (fun i t ds q _ b => q.only o (ZJ q r b)), Qu h.own o hne⟩
theorem JZ {p : PgV} {d : Dl} {fuel : Int} {ts : List (List Int)} (h : J6 p d ts fuel = 0) : QV p = 0 ∧ JB p.params ts fuel = 0 ∧ mutC p d = 0 := by
 have c : Ze p ts fuel = 0 := by
  unfold J6 at h;split at h
  · rename_i b; exact absurd h b
  · rename_i b; simpa using b
 have e : mutC p d = 0 := by unfold J6 at h; rwa [if_neg (by rw [c]; simp)] at h
 unfold Ze at c;split at c
 · rename_i b; exact absurd c b
 · rename_i b; exact ⟨by simpa using b, c, e⟩
theorem Ae8 {p m : PgV} {d : Dl} {fuel : Int} {ts : List (List Int)} {a : List Int} (hc : J6 p d ts fuel = 0) (ha : a ∈ ts) (hm : IsMut p d m) : Zs m a.length fuel = 0 := by
 obtain ⟨h, b, c⟩ := JZ hc;obtain ⟨i, s2, g, j, k⟩ := Yw b;obtain ⟨t, e⟩ := Ag7 hm c;rw [JK e, hm.par, if_neg (by rw [g a ha]; simp), if_neg (by omega)]
end Go.Proofs.YtkoikjnlpifbjaaGreat
