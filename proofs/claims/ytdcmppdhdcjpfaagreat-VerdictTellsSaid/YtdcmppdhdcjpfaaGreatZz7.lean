/- Lemmas for VerdictTellsP. -/
import Derived.Test.YtdcmppdhdcjpfaaGreatZz1
import Derived.Test.YtdcmppdhdcjpfaaGreatZz6
import Derived.Shelf.Bits.Mul64
import Derived.Test.YtdcmppdhdcjpfaaGreatRows
import Derived.WalkKit
import Derived.Laws.CopyOwn
import Derived.Deep.RegionLaw
set_option linter.unusedVariables false
set_option linter.unusedSimpArgs false
set_option maxRecDepth 100000
set_option maxHeartbeats 16000000
namespace Go.Proofs.YtdcmppdhdcjpfaaGreat
open Go.RowKit Go.Deep
theorem Aaw (A : Option Addr) (n cap : Nat) (is : Int) (p : PgV) (x : Nd) (w : World) : Calls Tryz.prog 346 #[.agg #[.slice A n cap, .int .i64 is], .agg p.cells, .agg x.cells.toArray] w fun e w' => e = .returned (.int .i64 is) ∧ Below w.heap.size w w' := by
 go_enter Tryz.func346, Tryz.ntmps346
 go_wp2_with (refine Qn _ _ rfl ?_)
 refine Stop.to ?_;refine Qe rfl 257 _ rfl #[.slice A n cap, .int .i64 is] rfl ?_;intro R u m b l;go_wp2_with (refine Qn _ _ rfl ?_)
 refine Stop.to ?_;refine Qe rfl 25 _ rfl p.cells rfl ?_;intro G t d q c;go_wp2_with (refine Qn _ _ rfl ?_)
 refine Stop.to ?_;refine Qe rfl 85 _ rfl x.cells.toArray rfl ?_;intro X y h r g;have o := (b.below c (Ld b.lt d)).below g (Ld (b.below c (Ld b.lt d)).lt h);have j := (Below.refl w.heap.size w).trans (l.mono m);have k := j.trans ((c.mono d).mono j.size);have s := k.trans ((g.mono h).mono k.size);have z := o.cellv (i := 1) (v := .int .i64 is) rfl;clear o b q r l c g j k m d h;go_wp2
 go_ret
 exact ⟨rfl, s⟩
def Xv (V : List Int) (n : Int) (b : Bool) : Int := if Jc V n then (if b then 2 else (V[n.toNat]?).getD 0) else -1
theorem Aae (b : Bool) (p : PgV) (t n : Int) (w : World) (hok : p.ok w) (hn : 0 ≤ n) : Calls Tryz.prog 347 #[.agg #[.bool b], .agg p.cells, .agg (Nd.cells ⟨t, n⟩).toArray] w fun e w' => e = .returned (.int .i64 (Xv p.V n b)) ∧ Below w.heap.size w w' := by
 have l := Lh hok;clear hok;obtain ⟨k, rfl⟩ : ∃ k : Nat, n = (k : Int) := ⟨n.toNat, by omega⟩;obtain ⟨c, va, d, V, ba, g, h⟩ := p;dsimp only;rw [show (PgV.mk c va d V ba g h).cells = #[.int .i64 c, .slice va V.length d, .slice ba h.length g] from rfl, show (Nd.cells ⟨t, (k : Int)⟩).toArray = #[.int .i64 t, .int .i64 (k : Int)] from rfl];go_enter Tryz.func347, Tryz.ntmps347
 go_wp2_with (refine Qn _ _ rfl ?_)
 refine Stop.to ?_;refine Qe rfl 259 _ rfl #[.bool b] rfl ?_;intro R Rw Rh o Rb;go_wp2_with (refine Qn _ _ rfl ?_)
 refine Stop.to ?_;refine Qe rfl 25 _ rfl #[.int .i64 c, .slice va V.length d, .slice ba h.length g] rfl ?_;intro G Gw u Gr s;go_wp2_with (refine Qn _ _ rfl ?_)
 refine Stop.to ?_;refine Qe rfl 85 _ rfl #[.int .i64 t, .int .i64 (k : Int)] rfl ?_;intro X Xw y Xr x;have rG := Gr.below x (Ld Gr.lt y);have rR := (o.below s (Ld o.lt u)).below x (Ld (o.below s (Ld o.lt u)).lt y);have b1 := (Below.refl w.heap.size w).trans (Rb.mono Rh);have b2 := b1.trans ((s.mono u).mono b1.size);have z := b2.trans ((x.mono y).mono b2.size);have c0 := rR.cellv (i := 0) (v := .bool b) rfl;have c1 := rG.cellv (i := 1) (v := .slice va V.length d) rfl;have c2 := Xr.cellv (i := 1) (v := .int .i64 (k : Int)) rfl;have m := Lh (l.out.go z).vrd;dsimp only at m;clear rR rG o Gr Xr Rb s x b1 b2 Rh u y l;by_cases hk : k < V.length;rotate_left
 · have r : Hid (Xv V (k : Int) b = -1) := by show _ = _; unfold Xv Jc; rw [Lg, LW (by omega)]; rfl
   have ab : (V.length : Int) ≤ (k : Int) := by omega
   clear hk;go_wp2
   go_ret
   exact ⟨Qo r.out, z⟩
 obtain ⟨v, q⟩ : ∃ v, V[k]? = some v := ⟨_, La hk⟩;obtain ⟨ad, aa, hc⟩ := QR m.out q;have ab : (k : Int) < (V.length : Int) := by omega
 subst aa;by_cases j : v = 0 ∨ v = 1
 · have r : Hid (Xv V (k : Int) b = if b then 2 else v) := by
    show _ = _;unfold Xv Jc;rw [Lg, q];simp only;rw [if_pos (by simpa using j)]; rfl
   clear q hk;rcases j with rfl | rfl
   all_goals
    cases b
    all_goals
     go_wp2
     go_ret
     exact ⟨Qo r.out, z⟩
 · have r : Hid (Xv V (k : Int) b = -1) := by
    show _ = _;unfold Xv Jc;rw [Lg, q];simp only;rw [if_neg (by simpa using j)]
   have e0 : (v != 0) = true := by simp; omega
   have e1 : (v != 1) = true := by simp; omega
   clear q hk j;go_wp2
   go_ret
   exact ⟨Qo r.out, z⟩
def X9 (V : List Int) (n is : Int) : Int := if JV V n then is else -1
theorem Aaq (A : Option Addr) (m cap : Nat) (is : Int) (p : PgV) (t n : Int) (w : World) (hok : p.ok w) (hn : 0 ≤ n) : Calls Tryz.prog 348 #[.agg #[.slice A m cap, .int .i64 is], .agg p.cells, .agg (Nd.cells ⟨t, n⟩).toArray] w fun e w' => e = .returned (.int .i64 (X9 p.V n is)) ∧ Below w.heap.size w w' := by
 have j := Lh hok;clear hok;obtain ⟨k, rfl⟩ : ∃ k : Nat, n = (k : Int) := ⟨n.toNat, by omega⟩;obtain ⟨b, va, c, V, ba, g, h⟩ := p;dsimp only;rw [show (PgV.mk b va c V ba g h).cells = #[.int .i64 b, .slice va V.length c, .slice ba h.length g] from rfl, show (Nd.cells ⟨t, (k : Int)⟩).toArray = #[.int .i64 t, .int .i64 (k : Int)] from rfl];go_enter Tryz.func348, Tryz.ntmps348
 go_wp2_with (refine Qn _ _ rfl ?_)
 refine Stop.to ?_;refine Qe rfl 261 _ rfl #[.slice A m cap, .int .i64 is] rfl ?_;intro R Rw Rh r Rb;go_wp2_with (refine Qn _ _ rfl ?_)
 refine Stop.to ?_;refine Qe rfl 25 _ rfl #[.int .i64 b, .slice va V.length c, .slice ba h.length g] rfl ?_;intro G Gw x Gr u;go_wp2_with (refine Qn _ _ rfl ?_)
 refine Stop.to ?_;refine Qe rfl 85 _ rfl #[.int .i64 t, .int .i64 (k : Int)] rfl ?_;intro X Xw z Xr y;have rG := Gr.below y (Ld Gr.lt z);have rR := (r.below u (Ld r.lt x)).below y (Ld (r.below u (Ld r.lt x)).lt z);have b1 := (Below.refl w.heap.size w).trans (Rb.mono Rh);have b2 := b1.trans ((u.mono x).mono b1.size);have b3 := b2.trans ((y.mono z).mono b2.size);have c0 := rR.cellv (i := 1) (v := .int .i64 is) rfl;have c1 := rG.cellv (i := 1) (v := .slice va V.length c) rfl;have c2 := Xr.cellv (i := 1) (v := .int .i64 (k : Int)) rfl;have q := Lh (j.out.go b3).vrd;have o := Lh j.out.vin;dsimp only at q o;clear rR rG r Gr Xr Rb u y b1 b2 Rh x z j;by_cases hk : k < V.length;rotate_left
 · have s : Hid (X9 V (k : Int) is = -1) := by show _ = _; unfold X9 JV; rw [Lg, LW (by omega)]; rfl
   have ab : (V.length : Int) ≤ (k : Int) := by omega
   clear hk;go_wp2
   go_ret
   exact ⟨Qo s.out, b3⟩
 obtain ⟨v, l⟩ : ∃ v, V[k]? = some v := ⟨_, La hk⟩;obtain ⟨ad, aa, hc⟩ := QR q.out l;have Hi := Lh (o.out v (Lf l));have ab : (k : Int) < (V.length : Int) := by omega
 subst aa;by_cases d : Qx v = 0
 · have s : Hid (X9 V (k : Int) is = -1) := by
    show _ = _;unfold X9 JV;rw [Lg, l];simp only;rw [if_neg (by simpa using d)]
   have e0 : (Qx v == 0) = true := by simpa using d
   clear l hk d;go_wp2_with (go_at_call 56; refine (KC v _ Hi.out).mono ?_; rintro e w' ⟨rfl, rfl⟩)
   go_ret
   exact ⟨Qo s.out, b3⟩
 · have s : Hid (X9 V (k : Int) is = is) := by
    show _ = _;unfold X9 JV;rw [Lg, l];simp only;rw [if_pos (by simpa using d)]
   have e0 : (Qx v == 0) = false := by simpa using d
   clear l hk d;go_wp2_with (go_at_call 56; refine (KC v _ Hi.out).mono ?_; rintro e w' ⟨rfl, rfl⟩)
   go_ret
   exact ⟨Qo s.out, b3⟩
end Go.Proofs.YtdcmppdhdcjpfaaGreat
namespace Go.Proofs.YtdcmppdhdcjpfaaGreat
open Go.Shelf
def AcU : Go.Shelf.Ren := ⟨fun | 212 => 271 | 263 => 292 | 264 => 293 | n => n, fun | 46 => 278 | 51 => 92 | 146 => 334 | 53 => 219 | 148 => 336 | n => n, fun | n => n⟩
theorem Aie : Go.Proofs.Lays.n212 Tryz.prog AcU := {
 mixed := by kernel_rfl
 f212 := Tryz.func271.trans (congrArg some (by kernel_rfl))
 f263 := Tryz.func292.trans (congrArg some (by kernel_rfl))
 f264 := Tryz.func293.trans (congrArg some (by kernel_rfl))
 t46 := Tryz.underlying278
 a46 := Tryz.isAgg278
 z46 := Tryz.sizeOf278
 v46 := Tryz.zeroValue278
 t51 := Tryz.underlying92
 a51 := Tryz.isAgg92
 z51 := Tryz.sizeOf92
 v51 := Tryz.zeroValue92
 t53 := Tryz.underlying219
 a53 := Tryz.isAgg219
 z53 := Tryz.sizeOf219
 v53 := Tryz.zeroValue219
 t146 := Tryz.underlying334
 a146 := Tryz.isAgg334
 z146 := Tryz.sizeOf334
 v146 := Tryz.zeroValue334
 t148 := Tryz.underlying336
 a148 := Tryz.isAgg336
 z148 := Tryz.sizeOf336
 v148 := Tryz.zeroValue336 }
open Go.RowKit Go.Lib in
theorem bits_Mul (x y : Nat) (hx : x < 18446744073709551616) (hy : y < 18446744073709551616) (w : World) :
 Calls Tryz.prog 271 #[.int .u64 x, .int .u64 y] w fun e w' => e = .returned (.tuple #[.int .u64 ((x * y / 18446744073709551616 : Nat) : Int), .int .u64 ((x * y % 18446744073709551616 : Nat) : Int)]) ∧ w' = w := Any.bits_Mul Aie x y hx hy w
end Go.Proofs.YtdcmppdhdcjpfaaGreat
namespace Go.Proofs.YtdcmppdhdcjpfaaGreat
open Go.RowKit Go.Deep
theorem JF (z : Value) (n : Nat) : madeCells #[z] n = (List.replicate n z).toArray := by
 unfold madeCells;apply Array.ext
 · simp
 · intro i b c; simp [Nat.mod_one]
theorem AjK (a b : Nat) : Nat.min a b ≤ a ∧ Nat.min a b ≤ b ∧ (Nat.min a b = a ∨ Nat.min a b = b) := by
 show min a b ≤ a ∧ min a b ≤ b ∧ (min a b = a ∨ min a b = b);omega
theorem JH {P : Program} {o : Oper} {w w1 : World} {ρ : Operand → Value} {s x : Operand} {t t' : TypeId} (ho : o.op = .call { callee := .builtin .copy, args := #[s, x], argTypes := #[t, t'] }) {v : Value} (hv : (Builtin.copy_ #[t, t'] o.type #[ρ s, ρ x]).run P w = .ok v w1) : (execOp ρ o).run P w = .ok (.value v) w1 := by
 unfold execOp;simp only [ho, resolve, invoke, builtin, Sem.run_bind, Sem.run_pure, Result.andThen_ok, Nz, LF, Nc, hv]
theorem Aai (k n m : Nat) (x : Int) (hk : k + m ≤ n) : splice (Qi (List.replicate k x ++ List.replicate (n - k) 0)) k (Qi (List.replicate m x)) = Qi (List.replicate (k + m) x ++ List.replicate (n - (k + m)) 0) := by
 unfold splice Qi;simp only [Na, List.map_replicate, Nq];rw [Nu (by simp), L1 (by simp), List.drop_append, Ny (by simp), Nq, List.drop_replicate, Lp, ← Lx, List.replicate_append_replicate, show n - k - (k + m - k) = n - (k + m) by omega]
theorem AeH (g cap n : Nat) (x : Int) (w : World) (hr : Row w g 3 #[.int .i64 x]) (hn : n ≤ 1000) : Calls Tryz.prog 251 #[.slice (some ⟨g, 0, none⟩) 1 cap, .int .i64 (n : Int)] w fun e w' => IntsR (List.replicate n x) w w' e := by
 have z : ∀ W, Calls Tryz.prog 271 #[.int .u64 1, .int .u64 (n : Int)] W fun e w' => e = .returned (.tuple #[.int .u64 0, .int .u64 (n : Int)]) ∧ w' = W := fun W => by
  have := bits_Mul 1 n (by omega) (by omega) W;rw [Nat.one_mul, Nat.div_eq_of_lt (by omega), NE (by omega)] at this;exact this
 have s := Lh z;clear z
 have al : ∀ W : World, (Instr.makeSlice 22 (.int .i64 (n : Int)) (.int .i64 (n : Int))).run Tryz.prog W = .ok (.slice (some ⟨W.heap.size, 0, none⟩) n n) (W.alloc (.cells (Qi (List.replicate n 0)).toArray 3)) := fun W => by
  have := run_make_row' (P := Tryz.prog) (w := W) 22 3 (.int .i64 0) 8 Tryz.underlying22 Z7 rfl .i64 .i64 n (by omega) (by omega);rw [show madeCells #[Value.int .i64 0] n = (Qi (List.replicate n 0)).toArray from by rw [JF]; simp [Qi]] at this;exact this
 go_enter Tryz.func251, Tryz.ntmps251
 have an : decide ((n : Int) < 0) = false := by simp
 have aj : decide (9223372036854775807 < (n : Int)) = false := by simp; omega
 go_wp2_with fail
 refine (s.out w).mono ?_;rintro e w1 ⟨rfl, hw⟩;subst hw;clear s;have c := Aai 0 n (Nat.min 1 n) x (by rw [LI]; exact Nat.min_le_right _ _);rw [LI, List.replicate_zero, Lp, Nat.sub_zero] at c;have d := Lh c;clear c;have rn := Row.new w1 3 (Qi (List.replicate n 0)).toArray;have ai := hr.alloc (.cells (Qi (List.replicate n 0)).toArray 3)
 have ae : ∀ (j : Nat) (v : Value), (Qi (List.replicate (Nat.min 1 n) x))[j]? = some v → (w1.alloc (.cells (Qi (List.replicate n 0)).toArray 3)).cell? ((⟨g, 0, none⟩ : Addr).add j) = some v :=
  ai.from_ 0 (cs := Qi (List.replicate (Nat.min 1 n) x)) (fun j v hj => by
   have b := (Lb.1 hj).1
   have h1 : (Qi (List.replicate (Nat.min 1 n) x)).length ≤ 1 := by simp [Qi]; exact Nat.min_le_left _ _
   obtain rfl : j = 0 := by omega
   rw [← hj]
   simp only [Qi, List.map_replicate, NL]
   rw [if_pos (by simpa [Qi] using b)]; rfl)
 have ab := Lh ae;have Rn := Lh rn;have o : (Qi (List.replicate (Nat.min 1 n) x)).length = Nat.min 1 n := by simp [Qi]
 have p := Lh o;clear rn ai hr ae o;go_wp2_with (refine wpList_copy_splice rfl (.tmp 31) (.tmp 32) 22 22 rfl 3 Tryz.underlying22 rfl (some ⟨w1.heap.size, 0, none⟩) (some ⟨g, 0, none⟩) n n 1 cap rfl rfl w1.heap.size 0 (Qi (List.replicate n 0)) 3 Rn.out (Qi (List.replicate (Nat.min 1 n) x)) p.out (fun _ => ⟨rfl, _, rfl, ab.out⟩) (by rw [p.out]; simp [Qi]; exact Nat.min_le_right _ _) (Jt _) w1.heap.size w1 ((Below.refl _ _).alloc (Nat.le_refl _) _) (Nat.le_refl _) ?_; intro w2 h2 b2)
 have r2 : Row w2 w1.heap.size 3 (Qi (List.replicate (Nat.min 1 n) x ++ List.replicate (n - Nat.min 1 n) 0)).toArray := by rw [← d.out]; exact h2.out
 obtain ⟨G, hG⟩ : ∃ G, G = w1.heap.size := ⟨_, rfl⟩;rw [← hG] at r2 ⊢;obtain ⟨k0, q⟩ : ∃ k0, k0 = Nat.min 1 n := ⟨_, rfl⟩;rw [p.out, ← q];rw [← q] at r2;have l : k0 ≤ n ∧ (k0 = 0 → n = 0) := by have := AjK 1 n; rw [← q] at this; omega
 have HG := Lh hG;clear hG q d ab Rn p h2 al;go_wp2
 go_loopw [8] (fun i wr => ∃ k : Nat, i = .int .i64 (k : Int) ∧ k ≤ n ∧ (k = 0 → n = 0) ∧ Row wr G 3 (Qi (List.replicate k x ++ List.replicate (n - k) 0)).toArray ∧ Below w1.heap.size w1 wr) (fun i _ => n - (intOf i).toNat)
 case atStart => exact ⟨k0, rfl, l.1, l.2, r2, b2⟩
 case round =>
  clear r2 b2 w2;obtain ⟨k, rfl, ar, y, hr, hb⟩ := hrel;by_cases b : k < n
  · have ao : (k : Int) < (n : Int) := by omega
    have ak : 0 < k := by
     rcases Nat.eq_zero_or_pos k with h | h
     · have := y h; omega
     · exact h
    obtain ⟨m, hm⟩ : ∃ m, m = Nat.min k (n - k) := ⟨_, rfl⟩;have ah := AjK k (n - k);rw [← hm] at ah;obtain ⟨ap, au, am⟩ := ah;have av : 0 < m := by omega
    clear am;have Hm := Lh hm;clear hm y b l;have aq : (n : Int) - (k : Int) = ((n - k : Nat) : Int) := by omega
    have af : ∀ (j : Nat) (v : Value), (Qi (List.replicate m x))[j]? = some v → wr.drew.cell? ((⟨G, 0, none⟩ : Addr).add j) = some v :=
     hr.drew.from_ 0 (cs := Qi (List.replicate m x)) (fun j v hj => by
      have b : j < m := by have := (Lb.1 hj).1; simpa [Qi] using this
      rw [← hj]
      simp only [Qi, List.map_replicate, NL, Na, LI, N8]
      rw [if_pos b, Lw (by simp; omega), NL, if_pos (by omega)])
    have aa := Lh af;have Hr := Lh hr.drew;have Hb := Lh (Zn hb 1);have c := Aai k n m x (by omega);have d := Lh c;have ac : Hid ((Qi (List.replicate m x)).length = Nat.min k (n - k)) := by show _ = _; rw [← Hm.out]; simp [Qi]
    have u : k + (Qi (List.replicate m x)).length ≤ (Qi (List.replicate k x ++ List.replicate (n - k) 0)).length := by simp [Qi]; omega
    have r := Lh u;clear af hr hb c u;go_wp2_with fail
    refine wp_region_held (S := fun _ => True) (by kernel_rfl) ?_;simp only [Lk, Lc, Lr, Nat.reduceAdd, Ll, Lm, Lu, Lp, Ln];show wpAnyH _ _ _ _ _ _ _ _ wr.drew;have hS : (fun _ : World => True) wr.drew := trivial;have Hb : Hid (Below w1.heap.size w1 wr.drew) := Hb.out;generalize wr.drew = wd at aa Hr hS Hb ⊢;(refine tkH 0 (.int .i64 (k : Int)) rfl (Qd rfl (fun W t => by (go_simp))) ?_; simp only [Act.put, Qa, Qb, Qc]);(refine tkH 1 (.slice (some ⟨G, 0, none⟩) n n) rfl (Qd rfl (fun W t => by (go_simp))) ?_; simp only [Act.put, Qa, Qb, Qc]);(refine tkH 2 (.int .i64 (k : Int)) rfl (Qd rfl (fun W t => by (go_simp))) ?_; simp only [Act.put, Qa, Qb, Qc]);(refine tkH 4 (.slice (some ⟨G, 0, none⟩) n n) rfl (Qd rfl (fun W t => by (go_simp))) ?_; simp only [Act.put, Qa, Qb, Qc]);(refine tkH 5 (.int .i64 (k : Int)) rfl (Qd rfl (fun W t => by (go_simp))) ?_; simp only [Act.put, Qa, Qb, Qc]);(refine tkH 3 (.slice (some ⟨G, k, none⟩) (n - k) (n - k)) rfl (Qd rfl (fun W t => by (go_simp; omega))) ?_; simp only [Act.put, Qa, Qb, Qc]);(refine tkH 6 (.slice (some ⟨G, 0, none⟩) k n) rfl (Qd rfl (fun W t => by (go_simp))) ?_; simp only [Act.put, Qa, Qb, Qc]);(refine wpAnyH_all (rs := [7]) (by kernel_rfl) (by simp) (fun i hi => ?_); obtain rfl : i = 7 := by simpa using hi);refine Qg rfl rfl (fun K2 ad => ?_);refine Qj (goInt (Qi (List.replicate m x)).length) (w1 := _) (by exact JH rfl (run_copy_row (P := Tryz.prog) wd 22 22 _ 3 G k (n - k) (n - k) ⟨G, 0, none⟩ k n _ 3 (Qi (List.replicate m x)) Tryz.underlying22 rfl Hr.out ac.out aa.out (by simpa using r.out) (Jt _))) ?_;rw [show goInt (Qi (List.replicate m x)).length = .int .i64 (m : Int) by simp [goInt, Qi]]
    have r3 : Row (wd.setRow G ((Qi (List.replicate k x ++ List.replicate (n - k) 0)).toArray.toList.take k ++ Qi (List.replicate m x) ++ (Qi (List.replicate k x ++ List.replicate (n - k) 0)).toArray.toList.drop (k + (Qi (List.replicate m x)).length)).toArray) G 3 (Qi (List.replicate (k + m) x ++ List.replicate (n - (k + m)) 0)).toArray := by
     rw [← d.out, splice, ← Lx]; exact Hr.out.setRow _
    have b3 := Kn (g := G) Hb.out (LG HG.out.symm) ((Qi (List.replicate k x ++ List.replicate (n - k) 0)).toArray.toList.take k ++ Qi (List.replicate m x) ++ (Qi (List.replicate k x ++ List.replicate (n - k) 0)).toArray.toList.drop (k + (Qi (List.replicate m x)).length)).toArray;refine ad _ _ ?_;clear ad K2;generalize wd.setRow G _ = we at r3 b3 ⊢;simp only [Act.put, Qa, Qb, Qc];refine ⟨trivial, ?_⟩;have ag : IntKind.i64.wrap ((k : Int) + (m : Int)) = ((k + m : Nat) : Int) := by rw [IntWalk.i64_in _ (by omega)]; omega
    (refine tkH 8 (.int .i64 ((k + m : Nat) : Int)) rfl (Qd rfl (fun W t => by (go_simp; try exact ag))) ?_; simp only [Act.put, Qa, Qb, Qc])
    (refine tkH 9 (.int .i64 ((k + m : Nat) : Int)) rfl (Qd rfl (fun W t => by (go_simp))) ?_; simp only [Act.put, Qa, Qb, Qc]);refine wpAnyH_done (by kernel_rfl) ?_ _;have R3 := Lh r3;have B3 := Lh b3;clear r3 b3 ag Hr aa Hb d ac r;go_wp2
    go_roundw
    case rel => exact ⟨k + m, rfl, by omega, by omega, R3.out, B3.out⟩
    case measure => simp [intOf]; omega
  · obtain rfl : n = k := by omega
    have Hr := Lh hr;clear b hr;go_wp2
    go_ret
    refine ⟨_, rfl, ?_, hb⟩;have h1 := Hr.out;rw [Nn, List.replicate_zero, LY] at h1;rw [Nq];exact ⟨by simp [Qi], .inr ⟨G, n, _, rfl, by have := HG.out; omega, h1, Nat.le_refl _, by unfold maxLen; omega, by simp [Qi], by simp [Qi]⟩⟩
section
variable {A : Option Addr} {n cap : Nat} {is : Int} {b : Bool} {w : World}
theorem AjY : (Instr.typeAssert (.iface 257 (.agg #[.slice A n cap, .int .i64 is])) 263 257 true).run Tryz.prog w = .ok (.tuple #[.agg #[.slice A n cap, .int .i64 is], .bool true]) w := by kernel_rfl
theorem AjU : (Instr.typeAssert (.iface 261 (.agg #[.slice A n cap, .int .i64 is])) 263 257 true).run Tryz.prog w = .ok (.tuple #[.agg #[.slice none 0 0, .int .i64 0], .bool false]) w := by kernel_rfl
theorem AjT : (Instr.typeAssert (.iface 261 (.agg #[.slice A n cap, .int .i64 is])) 263 261 true).run Tryz.prog w = .ok (.tuple #[.agg #[.slice A n cap, .int .i64 is], .bool true]) w := by kernel_rfl
theorem Aj0 : (Instr.typeAssert (.iface 259 (.agg #[.bool b])) 263 257 true).run Tryz.prog w = .ok (.tuple #[.agg #[.slice none 0 0, .int .i64 0], .bool false]) w := by kernel_rfl
theorem AjZ : (Instr.typeAssert (.iface 259 (.agg #[.bool b])) 263 261 true).run Tryz.prog w = .ok (.tuple #[.agg #[.slice none 0 0, .int .i64 0], .bool false]) w := by kernel_rfl
theorem Aj1 : (Instr.typeAssert (.iface 259 (.agg #[.bool b])) 263 259 true).run Tryz.prog w = .ok (.tuple #[.agg #[.bool b], .bool true]) w := by kernel_rfl
theorem AjW : (Instr.typeAssert .nilIface 263 257 true).run Tryz.prog w = .ok (.tuple #[.agg #[.slice none 0 0, .int .i64 0], .bool false]) w := by kernel_rfl
theorem AjV : (Instr.typeAssert .nilIface 263 261 true).run Tryz.prog w = .ok (.tuple #[.agg #[.slice none 0 0, .int .i64 0], .bool false]) w := by kernel_rfl
theorem AjX : (Instr.typeAssert .nilIface 263 259 true).run Tryz.prog w = .ok (.tuple #[.agg #[.bool false], .bool false]) w := by kernel_rfl
theorem AeU : (zeroValue 257).run Tryz.prog w = .ok (.agg #[.slice none 0 0, .int .i64 0]) w := by kernel_rfl
theorem AdP : (zeroValue 261).run Tryz.prog w = .ok (.agg #[.slice none 0 0, .int .i64 0]) w := by kernel_rfl
theorem Acf : (zeroValue 259).run Tryz.prog w = .ok (.agg #[.bool false]) w := by kernel_rfl
end
theorem Acm (A : Option Addr) (n cap : Nat) (is : Int) (p : PgV) (x : Nd) (m : Int) (w : World) : Calls Tryz.prog 208 #[.agg p.cells, .agg x.cells.toArray, .iface 257 (.agg #[.slice A n cap, .int .i64 is]), .int .i64 m] w fun e w' => e = .returned (.slice A n cap) ∧ Below w.heap.size w w' := by
 have t1 := fun w => AjY (A := A) (n := n) (cap := cap) (is := is) (w := w)
 go_enter Tryz.func208, Tryz.ntmps208
 go_wp2_with (refine Qn _ _ rfl ?_)
 refine Stop.to ?_;refine Qe rfl 25 _ rfl p.cells rfl ?_;intro G y h s g;go_wp2_with (refine Qn _ _ rfl ?_)
 refine Stop.to ?_;refine Qe rfl 85 _ rfl x.cells.toArray rfl ?_;intro X Xw r t q;have d := (Below.refl w.heap.size w).trans (g.mono h);have b := d.trans ((q.mono r).mono d.size);go_wp2_with (refine QT _ rfl ?_)
 refine Stop.to ?_;refine Qm rfl 257 rfl _ _ AeU rfl ?_;intro R c l o k;go_wp2_with (refine Qv _ _ _ rfl ?_)
 refine Stop.to ?_;refine Ql rfl 257 _ _ rfl R #[.slice A n cap, .int .i64 is] rfl rfl 257 _ o (by kernel_rfl) rfl (by simp [Value.oneCell']) ?_;intro z RR j;have RB : Below c.heap.size c c := Below.refl _ _;have u := (b.trans ((k.mono l).mono b.size)).trans (j.below (by have := b.size; omega));have c0 := RR.cellv (i := 0) (v := .slice A n cap) rfl;clear RR j o k s g t q d b h r l RB;go_wp2
 go_ret
 exact ⟨rfl, u⟩
theorem Acl (A : Option Addr) (n cap : Nat) (is : Int) (p : PgV) (x : Nd) (m : Int) (w : World) : Calls Tryz.prog 208 #[.agg p.cells, .agg x.cells.toArray, .iface 261 (.agg #[.slice A n cap, .int .i64 is]), .int .i64 m] w fun e w' => e = .returned (.slice A n cap) ∧ Below w.heap.size w w' := by
 have t1 := fun w => AjU (A := A) (n := n) (cap := cap) (is := is) (w := w)
 have t2 := fun w => AjT (A := A) (n := n) (cap := cap) (is := is) (w := w)
 go_enter Tryz.func208, Tryz.ntmps208
 go_wp2_with (refine Qn _ _ rfl ?_)
 refine Stop.to ?_;refine Qe rfl 25 _ rfl p.cells rfl ?_;intro G y h s g;go_wp2_with (refine Qn _ _ rfl ?_)
 refine Stop.to ?_;refine Qe rfl 85 _ rfl x.cells.toArray rfl ?_;intro X Xw r t q;have d := (Below.refl w.heap.size w).trans (g.mono h);have b := d.trans ((q.mono r).mono d.size);go_wp2_with (refine QT _ rfl ?_)
 refine Stop.to ?_;refine Qm rfl 261 rfl _ _ AdP rfl ?_;intro R c l o k;go_wp2_with (refine Qv _ _ _ rfl ?_)
 refine Stop.to ?_;refine Ql rfl 261 _ _ rfl R #[.slice A n cap, .int .i64 is] rfl rfl 261 _ o (by kernel_rfl) rfl (by simp [Value.oneCell']) ?_;intro z RR j;have RB : Below c.heap.size c c := Below.refl _ _;have u := (b.trans ((k.mono l).mono b.size)).trans (j.below (by have := b.size; omega));have c0 := RR.cellv (i := 0) (v := .slice A n cap) rfl;clear RR j o k s g t q d b h r l RB;go_wp2
 go_ret
 exact ⟨rfl, u⟩
structure WantR (want : List Int) (w w' : World) (e : Ending) : Prop where
 ex : ∃ A cap, e = .returned (.slice A want.length cap) ∧ Rd w' A (Qi want) ∧ Below w.heap.size w w'
def Ks (V : List Int) (n : Int) (b : Bool) : List Int := if b ∧ n.toNat < V.length then [(V[n.toNat]?).getD 0] else []
theorem Abn (b : Bool) (p : PgV) (t n : Int) (hn : 0 ≤ n) (m : Int) (w : World) (hok : p.ok w) : Calls Tryz.prog 208 #[.agg p.cells, .agg (Nd.cells ⟨t, n⟩).toArray, .iface 259 (.agg #[.bool b]), .int .i64 m] w fun e w' => WantR (Ks p.V n b) w w' e := by
 have l := Lh hok;clear hok;obtain ⟨k, rfl⟩ : ∃ k : Nat, n = (k : Int) := ⟨n.toNat, by omega⟩;obtain ⟨d, va, c, V, ba, g, h⟩ := p;dsimp only;have q := Lh l.out.vlen;have r := Lh l.out.vmax;dsimp only at q r;rw [show (PgV.mk d va c V ba g h).cells = #[.int .i64 d, .slice va V.length c, .slice ba h.length g] from rfl, show (Nd.cells ⟨t, (k : Int)⟩).toArray = #[.int .i64 t, .int .i64 (k : Int)] from rfl];have t1 := fun w => Aj0 (b := b) (w := w)
 have t2 := fun w => AjZ (b := b) (w := w)
 have t3 := fun w => Aj1 (b := b) (w := w)
 go_enter Tryz.func208, Tryz.ntmps208
 go_wp2_with (refine Qn _ _ rfl ?_)
 refine Stop.to ?_;refine Qe rfl 25 _ rfl #[.int .i64 d, .slice va V.length c, .slice ba h.length g] rfl ?_;intro G Gw Gh x Gb;go_wp2_with (refine Qn _ _ rfl ?_)
 refine Stop.to ?_;refine Qe rfl 85 _ rfl #[.int .i64 t, .int .i64 (k : Int)] rfl ?_;intro X Xw Xh Xr Xb;have b1 := (Below.refl w.heap.size w).trans (Gb.mono Gh);have b2 := b1.trans ((Xb.mono Xh).mono b1.size);go_wp2_with (refine QT _ rfl ?_)
 refine Stop.to ?_;refine Qm rfl 259 rfl _ _ Acf rfl ?_;intro R Rw Rh Rr Rb;go_wp2_with (refine Qv _ _ _ rfl ?_)
 refine Stop.to ?_;refine Ql rfl 259 _ _ rfl R #[.bool b] rfl rfl 259 _ Rr (by kernel_rfl) rfl (by simp [Value.oneCell']) ?_;intro RW RR RO;have RB : Below Rw.heap.size Rw Rw := Below.refl _ _;have o : Below Xw.heap.size Xw RW := (Rb.mono Rh).trans (RO.below Rh);have rG := (x.below Xb (Ld x.lt Xh)).below o (by have := (x.below Xb (Ld x.lt Xh)).lt; omega);have rX := Xr.below o Xr.lt;have b3 := b2.trans (o.mono b2.size);have c0 := RR.cellv (i := 0) (v := .bool b) rfl;have c1 := rG.cellv (i := 1) (v := .slice va V.length c) rfl;have c2 := rX.cellv (i := 1) (v := .int .i64 (k : Int)) rfl;have y := Lh (l.out.go b3).vrd;dsimp only at y;clear RR RO Rr Rb x Gb Xr Xb b1 b2 Gh Xh Rh RB o rG rX l t1 t2 t3;cases b with
 | false =>
  have s : Hid (Ks V (k : Int) false = []) := by show _ = _; unfold Ks; rw [if_neg (by simp)]
  go_wp2
  go_ret
  exact ⟨none, 0, by rw [s.out]; rfl, by rw [s.out]; exact Rd.nil _ _, b3⟩
 | true =>
  by_cases hk : k < V.length
  · obtain ⟨v, hv⟩ : ∃ v, V[k]? = some v := ⟨_, La hk⟩;obtain ⟨ad, aa, hc⟩ := QR y.out hv;have s : Hid (Ks V (k : Int) true = [v]) := by show _ = _; unfold Ks; rw [Lg, if_pos ⟨rfl, hk⟩, hv]; rfl
    have ac : (k : Int) < (V.length : Int) := by omega
    have ae := q.out;have z := r.out;unfold maxLen at z;have af : ¬ c = k := by omega
    have Hc := Lh hc;subst aa;clear hv hk hc;go_wp2
    go_ret
    refine ⟨some (ad.add k), c - k, by rw [s.out]; rfl, ?_, b3⟩;rw [s.out];intro j u hj;refine ⟨_, rfl, ?_⟩
    have ab : j = 0 := by
     have := (Lb.1 hj).1;simp [Qi] at this; exact this
    subst ab;have hu : Value.int .i64 v = u := by simpa [Qi] using hj
    rw [JU, Nat.add_zero, ← hu]; exact Hc.out
  · have s : Hid (Ks V (k : Int) true = []) := by show _ = _; unfold Ks; rw [if_neg (by simp; omega)]
    have ac : (V.length : Int) ≤ (k : Int) := by omega
    clear hk;go_wp2
    go_ret
    exact ⟨none, 0, by rw [s.out]; rfl, by rw [s.out]; exact Rd.nil _ _, b3⟩
theorem AfA (p : PgV) (x : Nd) (m : Nat) (hm : m ≤ 1000) (w : World) : Calls Tryz.prog 208 #[.agg p.cells, .agg x.cells.toArray, .nilIface, .int .i64 (m : Int)] w fun e w' => WantR (List.replicate m 2) w w' e := by
 have u := fun w => AjW (w := w)
 have y := fun w => AjV (w := w)
 have z := fun w => AjX (w := w)
 go_enter Tryz.func208, Tryz.ntmps208
 go_wp2_with (refine Qn _ _ rfl ?_)
 refine Stop.to ?_;refine Qe rfl 25 _ rfl p.cells rfl ?_;intro G s n r l;go_wp2_with (refine Qn _ _ rfl ?_)
 refine Stop.to ?_;refine Qe rfl 85 _ rfl x.cells.toArray rfl ?_;intro X i q t o;have j := (Below.refl w.heap.size w).trans (l.mono n);have k := j.trans ((o.mono q).mono j.size);go_wp2_with fail
 refine (AeH i.heap.size 1 m 2 _ (Row.new i 3 #[.int .i64 2]) hm).mono ?_;rintro e w4 ⟨v, rfl, b, g⟩;have g := k.trans ((((Below.refl _ _).alloc (Nat.le_refl _) _).trans (g.mono (by simp))).mono k.size);obtain ⟨A, h, rfl, c, _, _⟩ := EM b;have d := Lh c;clear b c;go_wp2
 go_ret
 refine ⟨A, h, ?_, d.out, g⟩;rw [Nq]; rfl
end Go.Proofs.YtdcmppdhdcjpfaaGreat
