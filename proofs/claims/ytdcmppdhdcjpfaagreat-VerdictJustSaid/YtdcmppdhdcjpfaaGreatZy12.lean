/- Lemmas for VerdictJustP. -/
import Derived.Test.YtdcmppdhdcjpfaaGreatZy1
import Derived.Test.YtdcmppdhdcjpfaaGreatZy10
import Derived.Test.YtdcmppdhdcjpfaaGreatZy11
import Derived.Test.YtdcmppdhdcjpfaaGreatZy7
import Derived.Test.YtdcmppdhdcjpfaaGreatZy3
import Derived.Lib.SlicesCompact
import Derived.Shelf.Small.Bits
import Derived.Shelf.Strconv.Itoa0
import Derived.Shelf.Sort.Plain
import Derived.Shelf.Bits.Mul64
import Derived.Shelf.Slices.Clone
import Derived.Shelf.Slices.CompactI
import Derived.Shelf.Slices.SearchI
import Derived.Shelf.Slices.Cells
import Derived.Shelf.Slices.In.SortNone
import Derived.Shelf.SlicesE.Clone
import Derived.Test.YtdcmppdhdcjpfaaGreatRows
import Derived.WalkKit
set_option linter.unusedVariables false
set_option linter.unusedSimpArgs false
set_option maxRecDepth 100000
set_option maxHeartbeats 16000000
namespace Go.Proofs.YtdcmppdhdcjpfaaGreat
open Go.RowKit Go.Deep
theorem AdU (A : Option Addr) (cap : Nat) (l : List Nd) (w : World) (hr : Rd w A (l.flatMap Nd.cells)) (hl : l.length ≤ 1000) :
 Calls Tryz.prog 106 #[.slice A l.length cap] w fun e w' => e = .returned (.int .i64 (ZJ l)) ∧ Below w.heap.size w w' := by
 by_cases k : l.length = 0
 · have c := Lh (Acn k);rw [k];clear hr hl k;go_enter Tryz.func106, Tryz.ntmps106
   go_wp2_with fail
   go_ret
   exact ⟨ZN c.out.symm, Below.refl _ _⟩
 have e0 : ((l.length : Int) == 0) = false := by rw [beq_eq_false_iff_ne]; omega
 by_cases p : 200 < l.length
 · have c := Lh (Aco p);have e1 : 200 < (l.length : Int) := by omega
   clear hr hl k p;go_enter Tryz.func106, Tryz.ntmps106
   go_wp2_with fail
   go_ret
   exact ⟨ZN c.out.symm, Below.refl _ _⟩
 have e1 : ¬ (200 < (l.length : Int)) := by omega
 have s := Lh (Aee A cap l (fun x => decide (Qx x < 0)) w (fun W => Rd W A (l.flatMap Nd.cells) ∧ Below w.heap.size w W) ⟨hr, Below.refl _ _⟩ (fun W h => h.1) (fun W h => h.2) (fun x _ W _ => Ad9 x W) (by omega));have He := Lh (fun W h => Jq A cap l (0 : Int) W h hl);have Hr := Lh hr;have y := Lh k;have r := Lh p;have Hl := Lh hl;clear hr hl k p;obtain ⟨b, n⟩ : ∃ b, b = l.any fun x => decide (Qx x < 0) := ⟨_, rfl⟩;rw [← n] at s;go_enter Tryz.func106, Tryz.ntmps106
 go_wp2_with fail
 refine s.out.mono ?_;rintro e w1 ⟨rfl, g⟩;clear s;cases b;rotate_left
 · obtain ⟨x, i, o⟩ := List.any_eq_true.1 n.symm;have c := Lh (Acp y.out r.out i (by simpa using o));clear n i o;go_wp2_with fail
   go_ret
   exact ⟨ZN c.out.symm, g⟩
 have h2 : ∀ x ∈ l, ¬ Qx x < 0 := fun x i o => by
  have := List.any_eq_false.1 n.symm x i;simp at this; omega
 have z := Lh h2;clear n h2;go_wp2_with fail
 refine (He.out w1 (Hr.out.go g)).mono ?_;rintro e q ⟨rfl, b2⟩;replace g := g.trans (b2.mono g.size);clear b2 He;by_cases m : endZ l 0 = (l.length : Int);rotate_left
 · have c := Lh (Acq y.out r.out (fun x i o => by have := z.out x i; omega) m);have e3 : (endZ l 0 != (l.length : Int)) = true := by simpa using m
   clear m;go_wp2_with fail
   go_ret
   exact ⟨ZN c.out.symm, g⟩
 obtain ⟨t, v⟩ := Whole.of m;have e3 : ((l.length : Int) != (l.length : Int)) = false := by simp
 have c := Lh (VR r.out (fun x i o => by have := z.out x i; omega) v);have u : Hid (Calls Tryz.prog 177 #[.slice A l.length cap, .int .i64 0] q fun e w' => e = .returned (.int .i64 (Yb t)) ∧ Below q.heap.size q w') := AfU A cap l Hl.out t.size t 0 (Nat.le_refl _) v.hat q (Hr.out.go g);rw [m];clear m v;obtain ⟨d, hd⟩ : ∃ d, d = Yb t := ⟨_, rfl⟩;rw [← hd] at u c;clear hd;go_wp2_with fail
 refine u.out.mono ?_;rintro e w3 ⟨rfl, b3⟩;replace g := g.trans (b3.mono g.size);clear b3 u;by_cases h4 : 30 < d
 · have j : Hid (ZJ l = 13) := by have := c.out; rw [if_pos h4] at this; exact this
   clear c;go_wp2_with fail
   go_ret
   exact ⟨ZN j.out.symm, g⟩
 · have j : Hid (ZJ l = 0) := by have := c.out; rw [if_neg h4] at this; exact this
   clear c;go_wp2_with fail
   go_ret
   exact ⟨ZN j.out.symm, g⟩
theorem Es (p : PgV) (hbl : p.body.length ≤ 1000) (w : World) (hok : p.ok w) :
 Calls Tryz.prog 52 #[.agg p.cells] w fun e w' => e = .returned (.int .i64 (Zg p)) ∧ Below w.heap.size w w' := by
 have s := Lh hbl;have u := Lh hok;clear hbl hok;go_enter Tryz.func52, Tryz.ntmps52
 go_wp2_with (refine Qn _ _ rfl ?_)
 refine Stop.to ?_;refine Qe rfl 25 _ rfl p.cells rfl ?_;intro G Gw Gh l Gb;have d := (Below.refl w.heap.size w).trans (Gb.mono Gh);have c := Lh (u.out.go d);have c2 := l.cellv (i := 2) (v := .slice p.ba p.body.length p.bcap) rfl;have n := Lh (AdU p.ba p.bcap p.body Gw c.out.brd s.out);clear Gb Gh u;go_wp2_with fail
 refine n.out.mono ?_;rintro e w1 ⟨rfl, j⟩;replace l := l.below j l.lt;replace d := d.trans (j.mono d.size);replace c := Lh (c.out.go j);clear j n c2;obtain ⟨a, q⟩ : ∃ a, a = ZJ p.body := ⟨_, rfl⟩;rw [← q];by_cases o : a = 0;rotate_left
 · have m : Hid (Zg p = a) := by show _ = _; rw [Acr (by rw [← q]; exact o), ← q]
   have e0 : (a != 0) = true := by simpa using o
   clear q o;go_wp2_with fail
   go_ret
   exact ⟨ZN m.out.symm, d⟩
 subst o;have r := Lh q.symm;have n := Lh (AdH p w1 c.out);clear q;go_wp2_with (refine wpList_load_row rfl 25 _ rfl G rfl 25 p.cells (0, 0) _ l Tryz.underlying25 rfl (by kernel_rfl) ?_)
 refine n.out.mono ?_;rintro e w2 ⟨rfl, j⟩;replace l := l.below j l.lt;replace d := d.trans (j.mono d.size);replace c := Lh (c.out.go j);clear j n;obtain ⟨v, z⟩ : ∃ v, v = Ju p.params p.V := ⟨_, rfl⟩;rw [← z];by_cases o : v = 0;rotate_left
 · have ae : v = 14 := by rcases Yw p.params p.V with h | h <;> omega
   have m : Hid (Zg p = 14) := Acs r.out (by rw [← z]; exact o);subst ae;clear z o;go_wp2_with fail
   go_ret
   exact ⟨ZN m.out.symm, d⟩
 subst o;have Hv := Lh z.symm;obtain ⟨ai, ag, t, ht, ah⟩ := AaE r.out;have x := Lh ht;have n : Hid (∀ W, p.ok W → Calls Tryz.prog 66 #[.agg p.cells, .int .i64 0] W fun e w' => e = .returned (.int .i64 (ofT p.V t)) ∧ Below W.heap.size W w') := fun W h => AcT p s.out t 0 x.out.hat W h
 obtain ⟨ad, af, hc⟩ := JP c.out.brd ht.hat.root;have c2 := l.cellv (i := 2) (v := .slice p.ba p.body.length p.bcap) rfl;have c0 := hc 0 _ rfl;have aj : (0 : Int) < (p.body.length : Int) := by have := ht.pos; omega
 simp only [Nat.zero_mul, XC] at c0;rw [af] at c2;have ab : Hid (Kc p.params p.V) := by rcases Yw p.params p.V with h | h; exact h.2; have := Hv.out; omega
 clear z ai ag ah ht hc;by_cases g : t.root.tag = 20;rotate_left
 · have m : Hid (Zg p = 15) := VS r.out Hv.out (Ky x.out.hat (fun h => g h.1));have ac : (t.root.tag != 20) = true := by simpa using g
   clear g;go_wp2_with fail
   go_ret
   exact ⟨ZN m.out.symm, d⟩
 have ac : (t.root.tag != 20) = false := by simp [g]
 have aa := Lh g;clear g;go_wp2_with (refine XQ rfl 25 _ rfl G rfl 25 p.cells (0, 0) _ l Tryz.underlying25 rfl (by kernel_rfl) ?_)
 refine (n.out w2 c.out).mono ?_;rintro e w3 ⟨rfl, j⟩;replace d := d.trans (j.mono d.size);clear j n c0 c2;obtain ⟨k, y⟩ : ∃ k, k = ofT p.V t := ⟨_, rfl⟩;rw [← y];by_cases h2 : k = 2
 · subst h2;have m : Hid (Zg p = 0) := Acu r.out Hv.out ⟨x.out.hat, x.out.size, ab.out, aa.out, y.symm⟩;clear y;go_wp2_with fail
   go_ret
   exact ⟨ZN m.out.symm, d⟩
 · have m : Hid (Zg p = 15) := VS r.out Hv.out (Ky x.out.hat (fun h => h2 (by rw [y]; exact h.2)));have e2 : (k != 2) = true := by simpa using h2
   clear y h2;go_wp2_with fail
   go_ret
   exact ⟨ZN m.out.symm, d⟩
def XN (l : List Nd) : Int → List Int → Int
 | a, [] => a
 | a, i :: π => if i < 0 ∨ ((kidsZ l a).length : Int) ≤ i then -1 else XN l (((kidsZ l a)[i.toNat]?).getD 0) π
def K7 (l : List Nd) (π : List Int) : Int := if endZ l 0 = (l.length : Int) then XN l 0 π else -1
theorem Abc {l : List Nd} {a i : Int} {π : List Int} {k : Nat} (hi : π[k]? = some i) (h : i < 0 ∨ ((kidsZ l a).length : Int) ≤ i) : XN l a (π.drop k) = -1 := by
 have d := (La.1 hi).1;have c := (La.1 hi).2;rw [LI d, c, XN, if_pos h]
theorem Aif {l : List Nd} {a b : Int} {π : List Int} {k j : Nat} (hi : π[k]? = some (j : Int)) (h : (kidsZ l a)[j]? = some b) : XN l a (π.drop k) = XN l b (π.drop (k + 1)) := by
 have d := (La.1 hi).1;have c := (La.1 hi).2;have e := (La.1 h).1;rw [LI d, c, XN, if_neg (by omega), Li, h];rfl
theorem Aaf {l : List Nd} : ∀ (π : List Int) (q : Nat) (t : Tr), At l q t → XN l (q : Int) π = match ZF π q t with | some (r, _) => (r : Int) | none => -1
 | [], q, t, _ => by rw [XN, ZF]
 | i :: π, q, .node x ks, h => by
  have hk := h.kidsZ
  have hkl : (kidsZ l (q : Int)).length = ks.length := by rw [hk, L9, Jd]; rfl
  rw [XN, ZF]
  by_cases h0 : i < 0
  · rw [if_pos (Or.inl h0), if_pos h0]
  rw [if_neg h0]
  by_cases h1 : ((kidsZ l (q : Int)).length : Int) ≤ i
  · rw [if_pos (Or.inr h1)]
    have h2 : ks[i.toNat]? = none := Nj (by omega)
    rw [h2]
    split
    · rename_i h3; split at h3 <;> simp_all
    · rfl
  rw [if_neg (by omega)]
  obtain ⟨k, hk2⟩ : ∃ k, ks[i.toNat]? = some k := ⟨_, Lb (by omega)⟩
  obtain ⟨r, hr⟩ := AbW (p := q + 1) hk2
  have hr2 : (kidsZ l (q : Int))[i.toNat]? = some (r : Int) := by rw [hk, L8, show (Tr.node x ks).kids = ks from rfl, hr]; rfl
  rw [hr2, LL, hr, hk2]
  exact Aaf π r k (h.kids.spot i.toNat r k hr hk2).1
end Go.Proofs.YtdcmppdhdcjpfaaGreat
namespace Go.Proofs.YtdcmppdhdcjpfaaGreat
open Go.RowKit
theorem Afj (a : Int) : ∀ l : List Int, (Aal a l).length ≤ l.length + 1
 | [] => by simp [Aal]
 | b :: l => by
  rw [Aal]
  split
  · simp
  · split
    · simp
    · have := Afj a l; simp; omega
theorem E7 : ∀ l : List Int, (Xd l).length ≤ l.length
 | [] => by simp [Xd]
 | a :: l => by have := Afj a (Xd l); have := E7 l; rw [Xd]; simp; omega
theorem EO : ∀ {l : List Int}, l.Pairwise (· < ·) → JR l
 | [], _ => trivial
 | [_], _ => trivial
 | a :: b :: l, h => by
  rw [Nl] at h
  exact ⟨h.1 b (by simp), EO h.2⟩
theorem Abp {s : List Int} (hs : s.Pairwise (· ≤ ·)) : JR (Lib.compact s) ∧ ∀ x, x ∈ Lib.compact s ↔ x ∈ s := by
 have d : ∀ j, j < s.length → ∃ x, s[j]? = some x ∧ s.toArray[j]! = x := fun j o => ⟨s[j], Lb o, by simp [o]⟩
 have m : ∀ i j x y, i ≤ j → s[i]? = some x → s[j]? = some y → x ≤ y := fun i j x y t r k => by
  rcases Nat.lt_or_eq_of_le t with h | h
  · obtain ⟨h1, rfl⟩ := La.1 r;obtain ⟨h2, rfl⟩ := La.1 k;exact LQ.1 hs i j h1 h2 h
  · subst h; rw [r] at k; injection k with k; omega
 constructor
 · refine EO ?_;unfold Lib.compact Lib.compactUpTo;rw [N9, List.pairwise_filter];rw [LQ];intro i j hi o t ae p;simp only [List.getElem_range] at *;rw [List.length_range] at hi o;unfold Lib.keeps at p;rw [decide_eq_true_eq] at p;obtain ⟨x, r, ab⟩ := d i hi;obtain ⟨y, k, g⟩ := d j o;obtain ⟨z, v, q⟩ := d (j - 1) (by omega);rw [ab, g];rw [g, q] at p;have h1 := m i (j - 1) x z (by omega) r v;have h2 := m (j - 1) j z y (by omega) v k;rcases p with h | h <;> omega
 · intro x;unfold Lib.compact Lib.compactUpTo;rw [LN];constructor
   · rintro ⟨j, o, rfl⟩;have aa := N2.1 (Na.1 o).1;obtain ⟨y, k, g⟩ := d j aa;rw [g]; exact Lg k
   · intro r;obtain ⟨j, o, c⟩ := Ng r
     have : ∀ (n j : Nat), j ≤ n → s[j]? = some x → ∃ a : Nat, a ∈ (List.range s.length).filter (Lib.keeps s.toArray) ∧ s.toArray[a]! = x := by
      intro n
      induction n with
      | zero =>
       intro j w c;obtain rfl : j = 0 := by omega
       have l := (La.1 c).1;obtain ⟨y, k, g⟩ := d 0 l;rw [k] at c; injection c with c;exact ⟨0, Na.2 ⟨N2.2 l, by simp [Lib.keeps]⟩, by rw [g, c]⟩
      | succ n ih =>
       intro j ad c;have l := (La.1 c).1;obtain ⟨y, k, g⟩ := d j l;rw [k] at c; injection c with c;subst c;by_cases u : Lib.keeps s.toArray j = true
       · exact ⟨j, Na.2 ⟨N2.2 l, u⟩, g⟩
       · unfold Lib.keeps at u;rw [decide_eq_true_eq] at u;have w : j ≠ 0 := fun e => u (.inl e)
         obtain ⟨z, v, q⟩ := d (j - 1) (by omega)
         have ac : z = y := by
          rcases Decidable.em (s.toArray[j]! = s.toArray[j - 1]!) with e | e
          · rw [g, q] at e; exact e.symm
          · exact absurd (.inr e) u
         exact ih (j - 1) (by omega) (by rw [v, ac])
     exact this j j (Nat.le_refl _) (by rw [Lb o, c])
theorem AgB (l : List Int) : Lib.compact (l.mergeSort fun x y => decide (x ≤ y)) = Xd l := by
 have g : (l.mergeSort fun x y => decide (x ≤ y)).Pairwise (· ≤ ·) := by
  have := List.pairwise_mergeSort (le := fun x y : Int => decide (x ≤ y)) (fun a b c => by simp; omega) (fun a b => by simp; omega) l;exact this.imp (by simp)
 obtain ⟨d, e⟩ := Abp g;refine U4 d (Xe l) fun x => ?_
 rw [e, KV];exact (List.mergeSort_perm l _).mem_iff
end Go.Proofs.YtdcmppdhdcjpfaaGreat
namespace Go.Proofs.YtdcmppdhdcjpfaaGreat
open Go.Shelf
def AcW : Go.Shelf.Ren := ⟨fun | 189 => 301 | 125 => 306 | 257 => 305 | 128 => 317 | 129 => 318 | 294 => 308 | 295 => 309 | 296 => 310 | 297 => 311 | 298 => 312 | 299 => 313 | 216 => 314 | 300 => 315 | 301 => 316 | 328 => 319 | 329 => 320 | 330 => 321 | 331 => 322 | 332 => 323 | 215 => 236 | 343 => 324 | n => n, fun | 28 => 22 | 3 => 3 | 46 => 278 | 0 => 0 | 51 => 92 | 53 => 219 | 4 => 4 | 183 => 347 | 182 => 346 | 131 => 129 | 5 => 5 | 9 => 9 | 218 => 354 | 222 => 113 | 228 => 359 | 229 => 227 | n => n, fun | n => n⟩
theorem AiZ : Go.Proofs.Lays.n189 Tryz.prog AcW := {
 mixed := by kernel_rfl
 f125 := Tryz.func306.trans (congrArg some (by kernel_rfl))
 f128 := Tryz.func317.trans (congrArg some (by kernel_rfl))
 f129 := Tryz.func318.trans (congrArg some (by kernel_rfl))
 f189 := Tryz.func301.trans (congrArg some (by kernel_rfl))
 f215 := Tryz.func236.trans (congrArg some (by kernel_rfl))
 f216 := Tryz.func314.trans (congrArg some (by kernel_rfl))
 f257 := Tryz.func305.trans (congrArg some (by kernel_rfl))
 f294 := Tryz.func308.trans (congrArg some (by kernel_rfl))
 f295 := Tryz.func309.trans (congrArg some (by kernel_rfl))
 f296 := Tryz.func310.trans (congrArg some (by kernel_rfl))
 f297 := Tryz.func311.trans (congrArg some (by kernel_rfl))
 f298 := Tryz.func312.trans (congrArg some (by kernel_rfl))
 f299 := Tryz.func313.trans (congrArg some (by kernel_rfl))
 f300 := Tryz.func315.trans (congrArg some (by kernel_rfl))
 f301 := Tryz.func316.trans (congrArg some (by kernel_rfl))
 f328 := Tryz.func319.trans (congrArg some (by kernel_rfl))
 f329 := Tryz.func320.trans (congrArg some (by kernel_rfl))
 f330 := Tryz.func321.trans (congrArg some (by kernel_rfl))
 f331 := Tryz.func322.trans (congrArg some (by kernel_rfl))
 f332 := Tryz.func323.trans (congrArg some (by kernel_rfl))
 f343 := Tryz.func324.trans (congrArg some (by kernel_rfl))
 t0 := Tryz.underlying0
 a0 := Tryz.isAgg0
 z0 := Tryz.sizeOf0
 v0 := Tryz.zeroValue0
 t3 := Tryz.underlying3
 a3 := Tryz.isAgg3
 z3 := Tryz.sizeOf3
 v3 := Tryz.zeroValue3
 t4 := Tryz.underlying4
 a4 := Tryz.isAgg4
 z4 := Tryz.sizeOf4
 v4 := Tryz.zeroValue4
 t5 := Tryz.underlying5
 a5 := Tryz.isAgg5
 z5 := Tryz.sizeOf5
 v5 := Tryz.zeroValue5
 t9 := Tryz.underlying9
 a9 := Tryz.isAgg9
 z9 := Tryz.sizeOf9
 v9 := Tryz.zeroValue9
 t28 := Tryz.underlying22
 a28 := Tryz.isAgg22
 z28 := Tryz.sizeOf22
 v28 := Tryz.zeroValue22
 t46 := Tryz.underlying278
 a46 := Tryz.isAgg278
 z46 := Tryz.sizeOf278
 v46 := Tryz.zeroValue278
 t51 := Tryz.underlying92
 a51 := Tryz.isAgg92
 z51 := Tryz.sizeOf92
 v51 := Tryz.zeroValue92
 t53 := Tryz.underlying219
 a53 := Tryz.isAgg219
 z53 := Tryz.sizeOf219
 v53 := Tryz.zeroValue219
 t131 := Tryz.underlying129
 a131 := Tryz.isAgg129
 z131 := Tryz.sizeOf129
 v131 := Tryz.zeroValue129
 t182 := Tryz.underlying346
 a182 := Tryz.isAgg346
 z182 := Tryz.sizeOf346
 v182 := Tryz.zeroValue346
 t183 := Tryz.underlying347
 a183 := Tryz.isAgg347
 z183 := Tryz.sizeOf347
 v183 := Tryz.zeroValue347
 t218 := Tryz.underlying354
 a218 := Tryz.isAgg354
 z218 := Tryz.sizeOf354
 v218 := Tryz.zeroValue354
 t222 := Tryz.underlying113
 a222 := Tryz.isAgg113
 z222 := Tryz.sizeOf113
 v222 := Tryz.zeroValue113
 t228 := Tryz.underlying359
 a228 := Tryz.isAgg359
 z228 := Tryz.sizeOf359
 v228 := Tryz.zeroValue359
 t229 := Tryz.underlying227
 a229 := Tryz.isAgg227
 z229 := Tryz.sizeOf227
 v229 := Tryz.zeroValue227 }
open Go.Sort Go.RowKit in
theorem slices_Sort_int (blk off cap : Nat) (zs : List Int) (w : World) (hH : Holds (Value.int .i64) w blk off zs.toArray) (hblk : blk < w.heap.size) (hsz : zs.length < 4611686018427387904) :
 Calls Tryz.prog 301 #[.slice (some ⟨blk, off, none⟩) zs.length cap] w fun e w' =>
  e = .returned (.tuple #[]) ∧ ∃ n os, w' = grow (putRow (Value.int .i64) (Sort.ahead w n) blk off (zs.mergeSort fun x y => decide (x ≤ y)).toArray) os := Any.slices_Sort_int AiZ blk off cap zs w hH hblk hsz
def Aam : Go.Shelf.Ren := ⟨fun | 20 => 302 | n => n, fun | 22 => 22 | 3 => 3 | 4 => 4 | 0 => 0 | n => n, fun | n => n⟩
theorem Af9 : Go.Proofs.Lays2.n20 Tryz.prog Aam := {
 mixed := by kernel_rfl
 f20 := Tryz.func302.trans (congrArg some (by kernel_rfl))
 t0 := Tryz.underlying0
 a0 := Tryz.isAgg0
 z0 := Tryz.sizeOf0
 v0 := Tryz.zeroValue0
 t3 := Tryz.underlying3
 a3 := Tryz.isAgg3
 z3 := Tryz.sizeOf3
 v3 := Tryz.zeroValue3
 t4 := Tryz.underlying4
 a4 := Tryz.isAgg4
 z4 := Tryz.sizeOf4
 v4 := Tryz.zeroValue4
 t22 := Tryz.underlying22
 a22 := Tryz.isAgg22
 z22 := Tryz.sizeOf22
 v22 := Tryz.zeroValue22
 i3 := by kernel_rfl }
open Go.RowKit Go.Lib Go.Sort in
theorem slices_Compact_int (blk off cap : Nat) (zs : List Int) (w : World) (hH : Holds (Value.int .i64) w blk off zs.toArray) (hsz : zs.length ≤ 9223372036854775807) (hcap : zs.length ≤ cap) :
 Calls Tryz.prog 302 #[.slice (some ⟨blk, off, none⟩) zs.length cap] w fun e w' => e = .returned (.slice (some ⟨blk, off, none⟩) (Lib.compact zs).length cap) ∧ ∃ q, w' = putRow (Value.int .i64) (Sort.ahead w q) blk off (Lib.compact zs ++ List.replicate (zs.length - (Lib.compact zs).length) 0).toArray := Any.slices_Compact_int Af9 blk off cap zs w hH hsz hcap
end Go.Proofs.YtdcmppdhdcjpfaaGreat
namespace Go.Proofs.YtdcmppdhdcjpfaaGreat
open Go.RowKit Go.Deep
theorem AbK (d : Array Int) (cs : Array Value) (h : cs.size = d.size) : Sort.putCells (Value.int .i64) 0 d cs = d.map (Value.int .i64) := by
 unfold Sort.putCells;apply Array.ext
 · simp [h]
 · intro i e c;have hi : i < d.size := by simpa using c
   simp [hi]
theorem Vm {w : World} {g : Nat} {t : TypeId} {cs : Array Value} (hr : Row w g t cs) (d : Array Int) (h : cs.size = d.size) : Row (Sort.putRow (Value.int .i64) w g 0 d) g t (d.map (Value.int .i64)) ∧ Only g w (Sort.putRow (Value.int .i64) w g 0 d) := by
 unfold Sort.putRow Sort.mapBlock;refine ⟨?_, rfl, rfl, rfl, by simp, fun k c => ?_⟩
 · show (w.heap.modify g _)[g]? = _;rw [LW, if_pos rfl, show w.heap[g]? = some (.cells cs t (0, 0)) from hr];simp [Sort.onCells, AbK d cs h]
 · show (w.heap.modify g _)[k]? = _;rw [LW, if_neg (Ne.symm c)]
theorem AaQ {w : World} {g : Nat} {t : TypeId} {l : List Int} (hr : Row w g t (Qi l).toArray) : Sort.Holds (Value.int .i64) w g 0 l.toArray := fun j hj => by
 have c : j < l.length := by simpa using hj
 refine ⟨?_, by have := hr.free (0 + j); exact this⟩;have := hr.cellv (i := j) (v := .int .i64 l[j]) (by simp [Qi, c]);rw [LJ, this]; simp [c]
theorem AcS (l : List Int) : l.toArray.map (Value.int .i64) = (Qi l).toArray := by simp [Qi]
structure OnRow (g : Nat) (w w' : World) : Prop where
 gr : w.grownBy w' (some g)
theorem OnRow.trans {g : Nat} {a b c : World} (h : OnRow g a b) (k : OnRow g b c) : OnRow g a c := ⟨⟨k.gr.os.trans h.gr.os, k.gr.tape.trans h.gr.tape, k.gr.output.trans h.gr.output, Le h.gr.size k.gr.size, fun i hi hx => (k.gr.block i (Lc hi h.gr.size) hx).trans (h.gr.block i hi hx)⟩⟩
theorem OnRow.of_below {g : Nat} {a b : World} (h : Below a.heap.size a b) : OnRow g a b := ⟨⟨h.os, h.tape, h.output, h.size, fun i hi _ => h.block i hi⟩⟩
theorem OnRow.of_only {g : Nat} {a b : World} (h : Only g a b) : OnRow g a b := ⟨⟨h.os, h.tape, h.output, LA h.size.symm, fun i _ hx => h.block i (fun e => hx (by rw [e]))⟩⟩
theorem OnRow.below {g B : Nat} {a b : World} (h : OnRow g a b) (hg : B ≤ g) (hB : B ≤ a.heap.size) : Below B a b := ⟨h.gr.os, h.gr.tape, h.gr.output, h.gr.size, fun i hi => h.gr.block i (by omega) (fun e => by injection e; omega)⟩
theorem OnRow.row {g k : Nat} {a b : World} {t : TypeId} {cs : Array Value} (h : OnRow g a b) (hr : Row a k t cs) (hk : k ≠ g) : Row b k t cs := (h.gr.block k hr.lt (fun e => hk (by injection e))).trans hr
theorem AgA (g cap : Nat) (l : List Int) (w : World) (hr : Row w g 3 (Qi l).toArray) (hl : l.length ≤ 1000) :
 Calls Tryz.prog 301 #[.slice (some ⟨g, 0, none⟩) l.length cap] w fun e w' => e = .returned (.tuple #[]) ∧ Row w' g 3 (Qi (l.mergeSort fun x y => decide (x ≤ y))).toArray ∧ OnRow g w w' := by
 refine (slices_Sort_int g 0 cap l w (AaQ hr) hr.lt (by omega)).mono ?_;rintro e w' ⟨rfl, n, d, rfl⟩;have i : Row (Sort.ahead w n) g 3 (Qi l).toArray := hr.drewN n;obtain ⟨c, j⟩ := Vm i (l.mergeSort fun x y => decide (x ≤ y)).toArray (by simp [Qi]);rw [AcS] at c;have m : Below w.heap.size w (Sort.ahead w n) := ZT (Below.refl _ _) n;have h : ∀ (W : World) (d : Array Obj), Below W.heap.size W (Sort.grow W d) := fun W d => ⟨rfl, rfl, rfl, by simp [Sort.grow], fun k o => by simp [Sort.grow, Array.getElem?_append_left o]⟩;exact ⟨rfl, c.below (h _ _) c.lt, (OnRow.of_below m).trans ((OnRow.of_only j).trans (OnRow.of_below (h _ _)))⟩
theorem Abo (g cap : Nat) (l : List Int) (w : World) (hr : Row w g 3 (Qi l).toArray) (hl : l.length ≤ 1000) (hc : l.length ≤ cap) :
 Calls Tryz.prog 302 #[.slice (some ⟨g, 0, none⟩) l.length cap] w fun e w' => e = .returned (.slice (some ⟨g, 0, none⟩) (Lib.compact l).length cap) ∧ Row w' g 3 (Qi (Lib.compact l ++ List.replicate (l.length - (Lib.compact l).length) 0)).toArray ∧ OnRow g w w' := by
 refine (slices_Compact_int g 0 cap l w (AaQ hr) (by omega) hc).mono ?_;rintro e w' ⟨rfl, n, rfl⟩;have d : Row (Sort.ahead w n) g 3 (Qi l).toArray := hr.drewN n
 have j : (Lib.compact l).length ≤ l.length := by
  unfold Lib.compact Lib.compactUpTo;rw [L9];have := List.length_filter_le (Lib.keeps l.toArray) (List.range l.length);rwa [List.length_range] at this
 obtain ⟨c, h⟩ := Vm d (Lib.compact l ++ List.replicate (l.length - (Lib.compact l).length) 0).toArray (by simp [Qi]; omega);rw [AcS] at c;have i : Below w.heap.size w (Sort.ahead w n) := ZT (Below.refl _ _) n;exact ⟨rfl, c, (OnRow.of_below i).trans (OnRow.of_only h)⟩
theorem Aa3 (b : Nat) (but x : Int) (w : World) (hr : Row w b 3 #[.int .i64 but]) :
 Calls Tryz.prog 304 #[.int .i64 x, .pointer (some ⟨b, 0, none⟩)] w fun e w' => e = .returned (.bool (x == but)) ∧ w = w' := by
 have c := hr.cellv (i := 0) (v := .int .i64 but) rfl;go_enter Tryz.func304, Tryz.ntmps304
 go_wp2
 go_ret
 exact ⟨rfl, rfl⟩
theorem Ajn {l z : List Int} {k : Nat} {x : Int} (hlt : k < l.length) (hx : l[k]? = some x) : (Qi (l ++ z)).toArray[k]? = some (.int .i64 x) := by
 have : (Qi (l ++ z))[k]? = some (.int .i64 x) := by rw [JO, Ly (by rw [KJ]; exact hlt)]; simp [Qi, hx]
 simpa using this
theorem Aab {but : Int} {l : List Int} {k : Nat} {x : Int} (h : ∀ y ∈ l.take k, y ≠ but) (hx : l[k]? = some x) (hp : x ≠ but) : ∀ y ∈ l.take (k + 1), y ≠ but := by
 rw [LF, hx];intro y c;rcases L3.1 c with c | c
 · exact h y c
 · simp at c; subst c; exact hp
theorem Ahq (g cap b : Nat) (but : Int) (l z : List Int) (w : World) (hr : Row w g 3 (Qi (l ++ z)).toArray) (hb : Row w b 3 #[.int .i64 but]) (hl : l.length ≤ 1000) :
 Calls Tryz.prog 307 #[.slice (some ⟨g, 0, none⟩) l.length cap, .func (.func 304) #[] #[.pointer (some ⟨b, 0, none⟩)]] w fun e w' => ((∃ i : Nat, e = .returned (.int .i64 (i : Int)) ∧ l[i]? = some but ∧ ∀ x ∈ l.take i, x ≠ but) ∨ (e = .returned (.int .i64 (-1)) ∧ ∀ x ∈ l, x ≠ but)) ∧ w = w' := by
 have u := Lh hr;have s := Lh hb;have aa : (l.length : Int) ≤ 1000 := by omega
 clear hr hb hl;go_enter Tryz.func307, Tryz.ntmps307
 go_wp2
 go_loop [8] (fun i => ∃ k : Nat, i = .int .i64 (k : Int) ∧ k ≤ l.length ∧ Hid (∀ x ∈ l.take k, x ≠ but)) (fun i => l.length - (intOf i).toNat)
 case atStart => exact ⟨0, rfl, Nat.zero_le _, Lh (fun x m => by simp at m)⟩
 case round =>
  obtain ⟨k, rfl, y, c⟩ := hrel;by_cases h : k < l.length
  · obtain ⟨x, m⟩ : ∃ x, l[k]? = some x := ⟨_, Lb h⟩;have q := u.out.cellv (i := k) (v := .int .i64 x) (Ajn h m);have n := Lh m;have o := Lh (Aa3 b but x w s.out);have r : (k : Int) < (l.length : Int) := by omega
    clear m h;go_wp2_with fail
    refine o.out.mono ?_;rintro e w' ⟨rfl, rfl⟩;by_cases j : x = but
    · have d : (x == but) = true := by simpa using j
      rw [d];have p : Hid (l[k]? = some but) := by show _ = _; rw [n.out, j]
      clear j d o q n;go_wp2_with fail
      go_ret
      exact ⟨.inl ⟨k, rfl, p.out, c.out⟩, rfl⟩
    · have d : (x == but) = false := by simpa using j
      rw [d];have t := Lh (Aab c.out n.out j);clear j d o q n;go_wp2_with fail
      go_round
      case rel => exact ⟨k + 1, by go_num, by omega, t⟩
      case measure => simp [intOf]; omega
  · obtain rfl : k = l.length := by omega
    have p : Hid (∀ x ∈ l, x ≠ but) := by have := c.out; rwa [LS] at this
    clear h y;go_wp2
    go_ret
    exact ⟨.inr ⟨rfl, p.out⟩, rfl⟩
structure Del (but : Int) (l z : List Int) (k : Nat) (cs : List Int) : Prop where
 size : cs.length = (l ++ z).length
 head : cs.take ((l.take k).filter (· != but)).length = (l.take k).filter (· != but)
 tail : cs.drop k = (l ++ z).drop k
theorem Del.get {but : Int} {l z : List Int} {k : Nat} {cs : List Int} (h : Del but l z k cs) {x : Int} (hx : l[k]? = some x) : cs[k]? = some x := by
 have c := (La.1 hx).1;have := congrArg (fun m : List Int => m[0]?) h.tail;simp only [Nx, Nat.add_zero] at this;rw [this, Ly c, hx]
theorem Del.skip {but : Int} {l z : List Int} {k : Nat} {cs : List Int} (h : Del but l z k cs) {x : Int} (hx : l[k]? = some x) (hb : x = but) : Del but l z (k + 1) cs ∧ ((l.take (k + 1)).filter (· != but)).length = ((l.take k).filter (· != but)).length := by
 have e : (l.take (k + 1)).filter (· != but) = (l.take k).filter (· != but) := by rw [LF, hx, NI]; simp [hb]
 refine ⟨⟨h.size, by rw [e]; exact h.head, ?_⟩, by rw [e]⟩;have := congrArg (fun m : List Int => m.drop 1) h.tail;simpa [Nn] using this
theorem Del.put {but : Int} {l z : List Int} {k : Nat} {cs : List Int} (h : Del but l z k cs) {x : Int} (hx : l[k]? = some x) (hb : x ≠ but) (hlt : ((l.take k).filter (· != but)).length < k) : Del but l z (k + 1) (cs.set ((l.take k).filter (· != but)).length x) ∧ ((l.take (k + 1)).filter (· != but)).length = ((l.take k).filter (· != but)).length + 1 := by
 have i := (La.1 hx).1;have e : (l.take (k + 1)).filter (· != but) = (l.take k).filter (· != but) ++ [x] := by rw [LF, hx, NI]; simp [hb]
 have g := h.size;rw [Lf] at g;have d := h.head;generalize c : ((l.take k).filter (· != but)).length = n at *;refine ⟨⟨by rw [LM]; exact h.size, ?_, ?_⟩, by rw [e, Lf, c]; rfl⟩
 · rw [e, Lf, c, LX, LF, List.take_set_of_le (Nat.le_refl _), d];congr 1;rw [N8, if_pos rfl, if_pos (by omega)]; rfl
 · rw [List.drop_set_of_lt (by omega)];have := congrArg (fun m : List Int => m.drop 1) h.tail;simpa [Nn] using this
theorem Del.start {but : Int} {l z : List Int} {i : Nat} (hi : l[i]? = some but) (hall : ∀ x ∈ l.take i, x ≠ but) : Del but l z (i + 1) (l ++ z) ∧ ((l.take (i + 1)).filter (· != but)).length = i := by
 have g := (La.1 hi).1
 have e : (l.take (i + 1)).filter (· != but) = l.take i := by
  rw [LF, hi, NI, List.filter_eq_self.2 (fun x d => by simpa using hall x d)]; simp
 have c : (l.take i).length = i := by rw [L4]; omega
 refine ⟨⟨rfl, ?_, rfl⟩, by rw [e, c]⟩;rw [e, c, Nq (by omega)]
theorem AaG {g : Nat} {t : TypeId} : ∀ (n : Nat) {w : World} {cs : List Value} (o : Nat), Row w g t cs.toArray → o + n ≤ cs.length → ∃ cs' : List Value, Row (w.setCells g o (List.replicate n (.int .i64 0))) g t cs'.toArray ∧ cs'.take o = cs.take o ∧ Only g w (w.setCells g o (List.replicate n (.int .i64 0)))
 | 0, w, cs, o, h, _ => ⟨cs, h, rfl, rfl, rfl, rfl, rfl, fun _ _ => rfl⟩
 | n + 1, w, cs, o, h, hn => by
  have h1 := h.set o (.int .i64 0)
  have o1 := Zh w g o (.int .i64 0)
  rw [show cs.toArray.setIfInBounds o (.int .i64 0) = (cs.set o (.int .i64 0)).toArray by simp] at h1
  obtain ⟨cs', h2, h3, o2⟩ := AaG n (o + 1) h1 (by simp; omega)
  refine ⟨cs', h2, ?_, ⟨o2.os.trans o1.os, o2.tape.trans o1.tape, o2.output.trans o1.output, o2.size.trans o1.size, fun k hk => (o2.block k hk).trans (o1.block k hk)⟩⟩
  have := congrArg (fun m : List Value => m.take o) h3
  simp only [NA] at this
  rw [show min o (o + 1) = o by omega, List.take_set_of_le (Nat.le_refl _)] at this
  exact this
theorem EW {P : Program} {o : Oper} {w w1 : World} {ρ : Operand → Value} {s : Operand} {t : TypeId} (ho : o.op = .call { callee := .builtin .clear, args := #[s], argTypes := #[t] }) {v : Value} (hv : (Builtin.clear_ #[t] o.type #[ρ s]).run P w = .ok v w1) : (execOp ρ o).run P w = .ok (.value v) w1 := by
 unfold execOp;simp only [ho, resolve, invoke, builtin, Sem.run_bind, Sem.run_pure, Result.andThen_ok, Nv, LE, Nc, hv]
theorem Ahb (g cap b : Nat) (but : Int) (l z : List Int) (w : World) (hr : Row w g 3 (Qi (l ++ z)).toArray) (hb : Row w b 3 #[.int .i64 but]) (hgb : b ≠ g) (hl : l.length ≤ 1000) (hc : l.length ≤ cap) (hcm : cap ≤ maxLen) :
 Calls Tryz.prog 303 #[.slice (some ⟨g, 0, none⟩) l.length cap, .func (.func 304) #[] #[.pointer (some ⟨b, 0, none⟩)]] w fun e w' => e = .returned (.slice (some ⟨g, 0, none⟩) (l.filter (· != but)).length cap) ∧ OnRow g w w' ∧ ∃ cs : Array Value, Row w' g 3 cs ∧ ∀ (j : Nat) (u : Value), (Qi (l.filter (· != but)))[j]? = some u → cs[j]? = some u := by
 have H1 := Lh (Ahq g cap b but l z w hr hb hl);have Hb := Lh hb;have Hr := Lh hr;have a6 : (l.length : Int) ≤ 1000 := by omega
 have a1 : (l.length : Int) ≤ (cap : Int) := by omega
 have ax : (cap : Int) ≤ 9223372036854775807 := by unfold maxLen at hcm; omega
 clear hb hr hl hcm;go_enter Tryz.func303, Tryz.ntmps303
 go_wp2_with fail
 refine H1.out.mono ?_;clear H1;rintro e w' ⟨an, rfl⟩;rcases an with ⟨i, rfl, hi, d⟩ | ⟨rfl, d⟩;rotate_left
 · have he : l.filter (· != but) = l := List.filter_eq_self.2 (fun x hx => by simpa using d x hx);have He := Lh he;clear he d;go_wp2_with fail
   go_ret
   refine ⟨by rw [He.out]; rfl, OnRow.of_below (Below.refl _ _), _, Hr.out, fun j u s => ?_⟩;rw [He.out] at s;rw [JO];simp only [N7];rw [Ly (La.1 s).1]; exact s
 have a5 := (La.1 hi).1;obtain ⟨ai, am⟩ := Del.start (z := z) hi d;have hd : (l.take (i + 1)).filter (· != but) = (l.take (i + 1)).filter (· != but) := rfl;have ap := Lh ai;have ag := Lh am;have a4 : (i : Int) < (l.length : Int) := by omega
 have a0 : ((i : Int) == -1) = false := by simp
 clear d ai am hi hd;go_wp2_with fail
 go_loopw [5, 6] (fun a j wr => ∃ (k : Nat) (cs : List Int), j = .int .i64 (k : Int) ∧ a = .int .i64 ((((l.take k).filter (· != but)).length : Nat) : Int) ∧ k ≤ l.length ∧ ((l.take k).filter (· != but)).length < k ∧ Hid (Del but l z k cs) ∧ Row wr g 3 (Qi cs).toArray ∧ OnRow g w wr) (fun _ j _ => l.length - (intOf j).toNat)
 case atStart => exact ⟨i + 1, l ++ z, by go_num, by rw [ag.out], by omega, by rw [ag.out]; omega, ap, Hr.out, OnRow.of_below (Below.refl _ _)⟩
 case round =>
  obtain ⟨k, cs, rfl, rfl, hk, aj, Hd, c, h⟩ := hrel;by_cases af : k < l.length
  · obtain ⟨x, hx⟩ : ∃ x, l[k]? = some x := ⟨_, Lb af⟩;have ak := Hd.out.get hx;have ah := c.cellv (i := k) (v := .int .i64 x) (by simp [Qi, ak]);have ab := Lh (Aa3 b but x wr (h.row Hb.out hgb));have Hx := Lh hx;have ay : (k : Int) < (l.length : Int) := by omega
    clear hx af ak;go_wp2_with fail
    refine ab.out.mono ?_;rintro e w' ⟨rfl, rfl⟩;by_cases hs : x = but
    · have r : (x == but) = true := by simpa using hs
      rw [r];obtain ⟨p, q⟩ := Hd.out.skip Hx.out hs;have ac := Lh p;have o := Lh q;clear hs r ab ah Hx p q;go_wp2_with fail
      go_roundw
      case rel => exact ⟨k + 1, cs, by go_num, by rw [o.out], by omega, by rw [o.out]; omega, ac, c, h⟩
      case measure => simp [intOf]; omega
    · have r : (x == but) = false := by simpa using hs
      rw [r];obtain ⟨p, q⟩ := Hd.out.put Hx.out hs aj;generalize hn : ((l.take k).filter (· != but)).length = n at *;have ac := Lh p;have o := Lh q;have av : (n : Int) < (l.length : Int) := by omega
      have ar : ∃ y, cs[n]? = some y := ⟨_, Lb (by have := Hd.out.size; rw [Lf] at this; omega)⟩;obtain ⟨y, hy⟩ := ar;have a2 := c.cellv (i := n) (v := .int .i64 y) (by simp [Qi, hy]);have a3 := c.free n;have o9 := Zh wr g n (.int .i64 x);have r9 := c.set n (.int .i64 x);rw [show (Qi cs).toArray.setIfInBounds n (.int .i64 x) = (Qi (cs.set n x)).toArray by simp [Qi]] at r9;have aw := h.trans (OnRow.of_only o9);clear hs r ab ah Hx p q hy hn o9 c h;go_wp2_with fail
      go_roundw
      case rel => exact ⟨k + 1, cs.set n x, by go_num, by rw [o.out]; go_num, by omega, by rw [o.out]; omega, ac, r9, aw⟩
      case measure => simp [intOf]; omega
  · obtain rfl : k = l.length := by omega
    have ad : (l.take l.length).filter (· != but) = l.filter (· != but) := by rw [LS]
    rw [ad] at aj ⊢;have ao := Hd.out.size;have ae := Hd.out.head;rw [ad] at ae;rw [Lf] at ao;generalize hn : (l.filter (· != but)).length = n at *;have av : (n : Int) < (l.length : Int) := by omega
    have az : (n : Int) ≤ (cap : Int) := by omega
    obtain ⟨aq, h2, h3, o2⟩ := AaG (l.length - n) (cs := Qi cs) n c (by rw [KJ]; omega)
    have aa := Lib.run_clear_slice (P := Tryz.prog) wr 22 3 0 (.int .i64 0) Tryz.underlying22 (fun W => by kernel_rfl) rfl rfl g n (l.length - n) (cap - n) (by omega) (fun j s => by
     have au : n + j < cs.length := by omega
     rw [c.cellv (i := n + j) (v := .int .i64 cs[n + j]) (by simp [Qi, au])]; rfl) (fun j s => c.free (n + j))
    have HF : Hid (OnRow g w (wr.setCells g n (List.replicate (l.length - n) (.int .i64 0))) ∧ ∃ cs : Array Value, Row (wr.setCells g n (List.replicate (l.length - n) (.int .i64 0))) g 3 cs ∧ ∀ (j : Nat) (u : Value), (Qi (l.filter (· != but)))[j]? = some u → cs[j]? = some u) := ⟨h.trans (OnRow.of_only o2), _, h2, fun j u s => by
     have al : j < n := by have := (La.1 s).1; rw [KJ] at this; omega
     have e1 : aq[j]? = (Qi cs)[j]? := by
      have := congrArg (fun m : List Value => m[j]?) h3
      simpa [List.getElem?_take, al] using this
     have e2 : cs[j]? = (l.filter (· != but))[j]? := by
      have := congrArg (fun m : List Int => m[j]?) ae
      simpa [List.getElem?_take, al] using this
     simp only [N7]
     rw [e1]
     simp only [Qi, L8] at s ⊢
     rw [e2]; exact s⟩
    have t := Lh aa;clear aa h2 h3 o2 h c ae ao Hd ad af hk;generalize wr.setCells g n (List.replicate (l.length - n) (.int .i64 0)) = w9 at HF t;go_wp2_with (refine Zk rfl _ (EW rfl t.out) ?_)
    go_ret
    exact ⟨by rw [hn]; rfl, HF.out⟩
end Go.Proofs.YtdcmppdhdcjpfaaGreat
