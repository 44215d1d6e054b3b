/- Lemmas for RunnerJustP. -/
import Derived.Test.YtkoikjnlpifbjaaGreatZb1
import Derived.Test.YtkoikjnlpifbjaaGreatZb3
import Derived.Test.YtkoikjnlpifbjaaGreatRows
import Derived.ScopeJumps
import Derived.WalkMore
import Derived.Maps.OwnIn
import Derived.Deep.LoopGhost
import Derived.Maps.AppendAt
set_option linter.unusedVariables false
set_option linter.unusedSimpArgs false
set_option maxRecDepth 100000
set_option maxHeartbeats 16000000
namespace Go.Proofs.YtkoikjnlpifbjaaGreat
open Go.RowKit Go.Deep
def Nd.cells (x : Nd) : List Value := [.int .i64 x.tag, .int .i64 x.n]
theorem Q1 {k : IntKind} {a b : Int} (h : b = a) : Ending.returned (.int k a) = .returned (.int k b) := by rw [h]
theorem ZU {a b : Bool} (h : b = a) : Ending.returned (.bool a) = .returned (.bool b) := by rw [h]
theorem bp2 {r1 r2 a b : Int} (h : (a, b) = (r1, r2)) : Ending.returned (.tuple #[.int .i64 r1, .int .i64 r2]) = .returned (.tuple #[.int .i64 a, .int .i64 b]) := by cases h; rfl
theorem AeH (x : Nd) (w : World) : Calls Tryz.prog 137 #[.agg x.cells.toArray] w fun e w' => e = .returned (.tuple #[.int .i64 (Za x).1, .int .i64 (Za x).2]) ∧ Below w.heap.size w w' := by
 obtain ⟨t, n⟩ := x;rw [show (Nd.cells ⟨t, n⟩).toArray = #[.int .i64 t, .int .i64 n] from rfl];go_enter Tryz.func137, Tryz.ntmps137
 go_wp2_with (refine Qm _ _ rfl ?_)
 refine Stop.to ?_;refine Qe rfl 65 _ rfl #[.int .i64 t, .int .i64 n] rfl ?_;intro G j d c b;have b := (Below.refl w.heap.size w).trans (b.mono d);have g := c.cellv (i := 0) (v := .int .i64 t) rfl;have h := c.cellv (i := 1) (v := .int .i64 n) rfl;clear c d;go_wp2
 all_goals (try (go_quiet (fail); go_wp2))
 all_goals (go_ret2; refine ⟨bp2 ?_, (by first | exact b | exact ZZ b _)⟩; clear g h b; simp only [beq_iff_eq, beq_eq_false_iff_ne] at *; unfold Za; dsimp only; first | (subst_vars; rfl) | (repeat (first | rw [if_pos (by omega)] | rw [if_neg (by omega)])))
theorem XJ (x : Nd) (w : World) : Calls Tryz.prog 101 #[.agg x.cells.toArray] w fun e w' => e = .returned (.int .i64 (Qu x)) ∧ Below w.heap.size w w' := by
 obtain ⟨t, n⟩ := x;obtain ⟨m, l⟩ : ∃ m, m = Za ⟨t, n⟩ := ⟨_, rfl⟩;have u := Lv l;have s : t ≠ 1 → Qu ⟨t, n⟩ = if n < 0 ∨ m.1 < n then -1 else m.2 := fun h => by rw [Qu, if_neg h, l]
 have j := Lv s;have h1 : Hid (t = 1 → Qu ⟨t, n⟩ = 0) := by show t = 1 → _; rintro rfl; rfl
 clear l s;rw [show (Nd.cells ⟨t, n⟩).toArray = #[.int .i64 t, .int .i64 n] from rfl];go_enter Tryz.func101, Tryz.ntmps101
 go_wp2_with (refine Qm _ _ rfl ?_)
 refine Stop.to ?_;refine Qe rfl 65 _ rfl #[.int .i64 t, .int .i64 n] rfl ?_;intro G w1 q d b;have b := (Below.refl w.heap.size w).trans (b.mono q);have y := d.cellv (i := 0) (v := .int .i64 t) rfl;have z := d.cellv (i := 1) (v := .int .i64 n) rfl;clear q;by_cases g : t = 1
 · have o : (t == 1) = true := by simpa using g
   go_wp2
   go_ret
   exact ⟨Q1 (h1.out g), b⟩
 · have o : (t == 1) = false := by simpa using g
   have k := Lv g;clear g;go_wp2_with (refine wpList_load_row rfl 65 _ rfl G rfl 65 #[.int .i64 t, .int .i64 n] (0, 0) _ d Tryz.underlying65 rfl (by kernel_rfl) ?_)
   refine (AeH ⟨t, n⟩ w1).mono ?_;rintro e w2 ⟨rfl, c⟩;rw [← u.out];have p := d.below c d.lt;have c := b.trans (c.mono b.size);have y := p.cellv (i := 0) (v := .int .i64 t) rfl;have z := p.cellv (i := 1) (v := .int .i64 n) rfl;clear d b p;by_cases h0 : n < 0
   · go_wp2
     go_ret
     exact ⟨Q1 (by rw [j.out k.out, if_pos (.inl h0)]), c⟩
   · have aa : 0 ≤ n := by omega
     by_cases h2 : m.1 < n
     · go_wp2
       go_ret
       exact ⟨Q1 (by rw [j.out k.out, if_pos (.inr h2)]), c⟩
     · have ab : n ≤ m.1 := by omega
       go_wp2
       go_ret
       exact ⟨Q1 (by rw [j.out k.out, if_neg (by omega)]), c⟩
theorem EM : ∀ (l : List Nd) (k : Nat) (x : Nd), l[k]? = some x → ∀ j u, x.cells[j]? = some u → (l.flatMap Nd.cells)[k * 2 + j]? = some u
 | [], k, x, h, _, _, _ => by simp at h
 | a :: l, 0, x, h, j, u, hj => by
  simp at h; subst h
  have hl : j < a.cells.length := (Ld.1 hj).1
  simp only [LI]
  rw [LC (by omega)]
  simpa using hj
 | a :: l, k + 1, x, h, j, u, hj => by
  simp only [LI]
  rw [L8 (by simp [Nd.cells]; omega)]
  have := EM l k x (by simpa using h) j u hj
  rw [← this]; congr 1; simp [Nd.cells]; omega
theorem JW {w : World} {A : Option Addr} {l : List Nd} (hr : Rd w A (l.flatMap Nd.cells)) {k : Nat} {x : Nd} (hx : l[k]? = some x) : ∃ ad, A = some ad ∧ ∀ j u, x.cells[j]? = some u → w.cell? ((ad.add (k * 2)).add j) = some u :=
 hr.part (k * 2) x.cells (EM l k x hx) (by simp [Nd.cells])
theorem Aa1 {l : List Nd} {k : Nat} {x : Nd} (hx : l[k]? = some x) (m : Nat) : JC (l.drop k) (m + 1) = if Qu x < 0 then none else (JC (l.drop (k + 1)) (m + (Qu x).toNat)).map (· + 1) := by
 have b : k < l.length := (Ld.1 hx).1;rw [LO b, show l[k] = x by rw [La b] at hx; injection hx];rfl
theorem Yq (l : List Nd) (p : Nat) : endZ l (p : Int) = match JC (l.drop p) 1 with | none => -1 | some c => (p : Int) + c := by
 unfold endZ; rw [if_neg (by omega), L1]; rfl
theorem Aa2 {l d : List Nd} {p c : Nat} (h : JC (l.drop p) 1 = (JC d 0).map (· + c)) : endZ l (p : Int) = (p : Int) + (c : Int) := by
 rw [Yq, h];have : JC d 0 = some 0 := by simp [JC]
 rw [this];simp
theorem Vq (o : Option Nat) (a b : Nat) : (o.map (· + a)).map (· + b) = o.map (· + (b + a)) := by
 cases o <;> simp; omega
theorem JV (A : Option Addr) (cap : Nat) (l : List Nd) (at_ : Int) (w : World) (hr : Rd w A (l.flatMap Nd.cells)) (hl : l.length ≤ 1000) :
 Calls Tryz.prog 102 #[.slice A l.length cap, .int .i64 at_] w fun e w' => e = .returned (.int .i64 (endZ l at_)) ∧ Below w.heap.size w w' := by
 have Hr := Lv hr;have Hl := Lv hl;have a0 : Below w.heap.size w w := Below.refl _ _;clear hr hl;by_cases h0 : at_ < 0
 · have hz := Lv (Ahs (l := l) h0);go_enter Tryz.func102, Tryz.ntmps102
   go_wp2
   go_step3
   go_wp2
   rw [Exit.noGoto_ret];go_ret
   exact ⟨Q1 hz.out, a0⟩
 · obtain ⟨p, rfl⟩ : ∃ p : Nat, at_ = (p : Int) := ⟨at_.toNat, by omega⟩;go_enter Tryz.func102, Tryz.ntmps102
   go_wp2
   refine wp_scope_jumps 0 (fun a' w' => Below w.heap.size w w' ∧ ∃ (k m : Nat) (u7 u8 u9 z aa ab ac ae af ag ah ai aj ak al am an ao ap aq ar au av aw : Value), a' = { tmps := #[.slice A l.length cap, .int .i64 (p : Int), undef, undef, .int .i64 0, .int .i64 (k : Int), .int .i64 (m : Int), u7, u8, u9, z, aa, ab, ac, ae, af, ag, ah, ai, aj, ak, al, am, an, ao, ap, aq, ar, au, av, aw], defers := [] } ∧ p ≤ k ∧ k ≤ l.length ∧ 0 < m ∧ m ≤ 1 + 200 * k ∧ JC (l.drop p) 1 = (JC (l.drop k) m).map (· + (k - p))) (fun a' _ => l.length - (intOf (a'.tmps.getD 5 undef)).toNat) rfl ?_ ?_
   · go_wp2
     go_step3
     have g := Below.refl w.heap.size w;have hl := Hl.out;have j := Lv (show JC (l.drop p) 1 = (JC (l.drop p) 1).map (· + (p - p)) by simp);by_cases d : p < l.length
     · obtain ⟨x, i⟩ : ∃ x, l[p]? = some x := ⟨_, La d⟩;have o := Lv (Aa1 i (1 - 1));obtain ⟨ad, n, u⟩ := JW (Hr.out.go g) i;have Hc := Lv u;have hb := KS x;have Hx := Lv i;have v : (p : Int) < (l.length : Int) := by omega
       clear i u d;subst n;go_wp2_with (refine QF rfl 65 _ rfl (ad.add (p * 2)) rfl x.cells _ Hc.out Tryz.underlying65 rfl (by kernel_rfl) ?_)
       refine (XJ x w).mono ?_;rintro e w2 ⟨rfl, b2⟩;have b := g.trans (b2.mono g.size);by_cases y : Qu x < 0
       · go_wp2
         simp only [Exit.jump];go_ret
         refine ⟨Q1 ?_, b⟩;rw [Yq, j.out, show 1 = 1 - 1 + 1 by omega, o.out, if_pos y]; rfl
       · obtain ⟨q, h⟩ : ∃ q : Nat, Qu x = (q : Int) := ⟨(Qu x).toNat, by omega⟩;have Hq := Lv h;rw [h] at hb;rw [h];have ay : 0 ≤ (q : Int) := by omega
         clear y h
         have t : JC (l.drop p) 1 = (JC (l.drop (p + 1)) (1 - 1 + q)).map (· + (p + 1 - p)) := by
          rw [j.out, show 1 = 1 - 1 + 1 by omega, o.out, Hq.out, if_neg (by omega), Vq, L1];congr 1; funext c; omega
         have s := Lv t;clear t j o;by_cases hz : 1 - 1 + q = 0
         · obtain rfl : q = 0 := by omega
           go_wp2
           simp only [Exit.jump];go_ret
           refine ⟨Q1 ?_, b⟩;rw [Aa2 s.out]; omega
         · have az : 0 < (1 : Int) + ((q : Int) - 1) := by omega
           go_wp2
           go_step3
           have e1 : ((p + 1 : Nat) : Int) = (p : Int) + 1 := by omega
           have e2 : ((1 - 1 + q : Nat) : Int) = (1 : Int) + ((q : Int) - 1) := by omega
           refine ⟨rfl, ⟨b, p + 1, 1 - 1 + q, _, _, _, _, _, _, _, _, _, _, _, _, _, _, _, _, _, _, _, _, _, _, _, _, by rw [e1, e2], by omega, by omega, by omega, by omega, s.out⟩⟩
     · have ax : (l.length : Int) ≤ (p : Int) := by omega
       go_wp2
       simp only [Exit.jump];go_ret
       refine ⟨Q1 ?_, g⟩;rw [Yq, NE (by omega)]; rfl
   · rintro a' w' ⟨g, k, m, u7, u8, u9, z, aa, ab, ac, ae, af, ag, ah, ai, aj, ak, al, am, an, ao, ap, aq, ar, au, av, aw, rfl, a3, a1, a2, hm, he⟩;have j := Lv he;have hl := Hl.out;clear he;by_cases d : k < l.length
     · obtain ⟨x, i⟩ : ∃ x, l[k]? = some x := ⟨_, La d⟩;have o := Lv (Aa1 i (m - 1));obtain ⟨ad, n, u⟩ := JW (Hr.out.go g) i;have Hc := Lv u;have hb := KS x;have Hx := Lv i;have v : (k : Int) < (l.length : Int) := by omega
       clear i u d;subst n;go_wp2_with (refine QF rfl 65 _ rfl (ad.add (k * 2)) rfl x.cells _ Hc.out Tryz.underlying65 rfl (by kernel_rfl) ?_)
       refine (XJ x w').mono ?_;rintro e w2 ⟨rfl, b2⟩;have b := g.trans (b2.mono g.size);by_cases y : Qu x < 0
       · go_wp2
         simp only [Exit.jump];go_ret
         refine ⟨Q1 ?_, b⟩;rw [Yq, j.out, show m = m - 1 + 1 by omega, o.out, if_pos y]; rfl
       · obtain ⟨q, h⟩ : ∃ q : Nat, Qu x = (q : Int) := ⟨(Qu x).toNat, by omega⟩;have Hq := Lv h;rw [h] at hb;rw [h];have ay : 0 ≤ (q : Int) := by omega
         clear y h
         have t : JC (l.drop p) 1 = (JC (l.drop (k + 1)) (m - 1 + q)).map (· + (k + 1 - p)) := by
          rw [j.out, show m = m - 1 + 1 by omega, o.out, Hq.out, if_neg (by omega), Vq, L1];congr 1; funext c; omega
         have s := Lv t;clear t j o;by_cases hz : m - 1 + q = 0
         · obtain rfl : q = 0 := by omega
           obtain rfl : m = 1 := by omega
           go_wp2
           simp only [Exit.jump];go_ret
           refine ⟨Q1 ?_, b⟩;rw [Aa2 s.out]; omega
         · have az : 0 < (m : Int) + ((q : Int) - 1) := by omega
           go_wp2
           go_step3
           have e1 : ((k + 1 : Nat) : Int) = (k : Int) + 1 := by omega
           have e2 : ((m - 1 + q : Nat) : Int) = (m : Int) + ((q : Int) - 1) := by omega
           refine ⟨rfl, ⟨b, k + 1, m - 1 + q, _, _, _, _, _, _, _, _, _, _, _, _, _, _, _, _, _, _, _, _, _, _, _, _, by rw [e1, e2], by omega, by omega, by omega, by omega, s.out⟩, by simp [intOf]; omega⟩
     · have ax : (l.length : Int) ≤ (k : Int) := by omega
       obtain rfl : k = l.length := by omega
       go_wp2
       simp only [Exit.jump];go_ret
       refine ⟨Q1 ?_, g⟩;rw [Yq, j.out, show m = m - 1 + 1 by omega, List.drop_length]; rfl
attribute [local go_sem] Oper.semAt_some
structure Keeps (lim G : Nat) (A B : World) : Prop where
 block : ∀ k, k < lim → k ≠ G → B.heap[k]? = A.heap[k]?
 size : A.heap.size ≤ B.heap.size
theorem Keeps.trans {lim G : Nat} {A B C : World} (h : Keeps lim G A B) (k : Keeps lim G B C) : Keeps lim G A C := ⟨fun i hi hg => (k.block i hi hg).trans (h.block i hi hg), Li h.size k.size⟩
theorem Keeps.row {lim G g : Nat} {A B : World} {t : TypeId} {cs : Array Value} (h : Keeps lim G A B) (hr : Row A g t cs) (h1 : g < lim) (h2 : g ≠ G) : Row B g t cs := (h.block g h1 h2).trans hr
theorem Rd.keeps {w0 A B : World} {lim G : Nat} {ad : Option Addr} {xs : List Value} (h0 : Rd w0 ad xs) (hl : w0.heap.size ≤ lim) (hG : w0.heap.size ≤ G) (h : Rd A ad xs) (k : Keeps lim G A B) : Rd B ad xs := fun j u hj => by
 obtain ⟨a, e, g⟩ := h j u hj;obtain ⟨d, c, b⟩ := h0 j u hj;obtain rfl : a = d := by rw [e] at c; injection c
 have i := World.block_lt_of_cell? _ _ b;refine ⟨a, e, ?_⟩;rw [← g];have := k.block (a.add j).block (by omega) (by omega);simp only [World.cell?, this]
theorem QH {β : Type} {own : Nat → Prop} {B : Nat} {J : β → World → Prop} (h : VW own B J) {s : β} {W W' : World} (hj : J s W) (b : Below W.heap.size W W') : J s W' :=
 h s W W' none hj ⟨b.os, b.tape, b.output, b.size, fun k hk _ => b.block k hk⟩ (fun r e => by cases e)
theorem Ud {l : List Nd} : ∀ (n : Nat) (k : Int), (Zt l n k).length = n
 | 0, _ => rfl
 | n + 1, k => by simp [Zt, Ud n]
theorem AeD (bl ba lim G : Nat) (A : Option Addr) (cap : Nat) (l : List Nd) (p : Nat) (x : Nd) (w0 w : World) (hr0 : Rd w0 A (l.flatMap Nd.cells)) (hr : Rd w A (l.flatMap Nd.cells)) (hl : l.length ≤ 1000) (hx : l[p]? = some x)
 (h1 : Row w bl 23 #[.slice A l.length cap]) (h2 : Row w ba 3 #[.int .i64 (p : Int)]) (g1 : bl < lim) (g2 : ba < lim) (g3 : bl ≠ G) (g4 : ba ≠ G) (g5 : w0.heap.size ≤ lim) (g6 : w0.heap.size ≤ G) (g7 : lim ≤ w.heap.size) :
 Acs Tryz.prog 173 #[.pointer (some ⟨ba, 0, none⟩), .pointer (some ⟨bl, 0, none⟩)] (fun k : Int => #[.int .i64 k]) (fun _ => False) (Keeps lim G) (fun xs => xs = Zt l (Qu x).toNat (p + 1)) (fun _ => True) ((Qu x).toNat + 1) w := by
 intro lb J Jx W _ c hJ aj hY z;refine callsIn_of_wp Tryz.func173 rfl trivial ?_ rfl;simp only [Tryz.ntmps173, Lm, Le, Lu, Nat.reduceAdd, Nat.reduceSub, Lk, Ll, Ly, LH, Lp, Ln];have d : Below w.heap.size w W := ⟨c.os, c.tape, c.output, c.size, fun k hk => c.block k hk (by simp)⟩;have t := h1.below d h1.lt;have r2 := h2.below d h2.lt;have hd := hr.go d;have hp : p < l.length := (Ld.1 hx).1;obtain ⟨y, ak, hc⟩ := JW hd hx;have Hc := Lv hc;have ai := Lv hr0;have Hd := Lv hd;have HJ := Lv hJ;have HY := Lv hY;have av : (p : Int) < (l.length : Int) := by omega
 have hb := KS x;have sz : lim ≤ W.heap.size := Li g7 d.size;clear hc hr c h1 h2 d hx hJ aj hY g7 hr0 hp hd;subst ak;have c1 := t.cellv (i := 0) (v := .slice (some y) l.length cap) rfl;have c2 := r2.cellv (i := 0) (v := .int .i64 (p : Int)) rfl;gi_wp2_with (refine Ja rfl 65 _ rfl (y.add (p * 2)) rfl x.cells _ Hc.out Tryz.underlying65 rfl (by kernel_rfl) ?_);refine ⟨trivial, rfl, (callsIn_wide.2 (XJ x W)).mono ?_⟩;rintro e w2 ⟨rfl, s⟩;have t := t.below s t.lt;have r2 := r2.below s r2.lt;have al := Hd.out.go s;have z := QH HJ.out z s;have sz := Li sz s.size;clear s c1 c2 Hc Hd;by_cases ac : Qu x < 0
 · have ab : (Qu x).toNat = 0 := by omega
   have ah := Lv ab;clear ab;gi_wp2;gi_loopw [4, 12] (fun _ i wr => i = .int .i64 0 ∧ J [] wr) (fun _ _ _ => 0)
   case atStart => exact ⟨rfl, z⟩
   case round =>
    obtain ⟨rfl, h⟩ := hrel;have an : Qu x ≤ 0 := by omega
    gi_wp2;go_end0
    exact ⟨⟨_, rfl⟩, .inl ⟨_, by rw [ah.out]; rfl, h⟩⟩
 obtain ⟨n, hn⟩ : ∃ n : Nat, Qu x = (n : Int) := ⟨(Qu x).toNat, by omega⟩;rw [hn] at hb ⊢;have Hn : Hid ((Qu x).toNat = n) := by show _ = n; omega
 clear hn ac;gi_wp2;gi_loopw [4, 12] (fun kk i wr => ∃ (j : Nat) (k : Int) (m : List Int), i = .int .i64 (j : Int) ∧ kk = .int .i64 k ∧ j ≤ n ∧ m ++ Zt l (n - j) k = Zt l n (p + 1) ∧ Keeps lim G w2 wr ∧ J m wr) (fun _ i _ => n - (intOf i).toNat)
 case atStart => exact ⟨0, _, [], by simp, rfl, Nat.zero_le _, by simp, ⟨fun _ _ _ => rfl, Nat.le_refl _⟩, z⟩
 case round =>
  obtain ⟨j, k, m, rfl, rfl, au, g, b, h⟩ := hrel
  have q : m.length = j := by
   have := congrArg List.length g;rw [Lf, Ud, Ud] at this; omega
  have o := Lv g;have u := Lv q;have ao := b.row t g1 g3;clear g q z;by_cases aq : j < n
  · obtain ⟨fn, ar, af, ap, hy, hR⟩ := HY.out _ k _ h (by have := u.out; have := Hn.out; omega);have HR := Lv hR;clear hR h;gi_wp2;refine ⟨rfl, HR.out.mono ?_⟩;rintro e W' (⟨rfl, h, hk⟩ | ⟨rfl, am⟩);rotate_left
    · clear hy;gi_wp2;refine bodyPost_ret (results_none rfl _ _ _) rfl ?_;exact ⟨⟨_, rfl⟩, .inr ⟨_, trivial, am⟩⟩
    have b := b.trans hk;have ae := b.row t g1 g3;have c1 := ae.cellv (i := 0) (v := .slice (some y) l.length cap) rfl;have aa : Rd W' (some y) (l.flatMap Nd.cells) := ai.out.keeps g5 g6 al b;have ag := Lv aa;clear hy ao aa;gi_wp2;refine ⟨trivial, rfl, (callsIn_wide.2 (JV (some y) cap l k W' ag.out hl)).mono ?_⟩;rintro e w3 ⟨rfl, b3⟩;have h := QH HJ.out h b3;have b := b.trans (⟨fun i hi _ => b3.block i (by have := hk.size; have := b.size; omega), b3.size⟩ : Keeps lim G W' w3);clear b3 c1;gi_wp2;go_roundw
    case rel =>
     refine ⟨j + 1, _, _, by go_num, rfl, by omega, ?_, b, h⟩;rw [← o.out, show n - j = (n - (j + 1)) + 1 by omega, Zt]; simp
    case measure => simp [intOf]; omega
  · obtain rfl : j = n := by omega
    gi_wp2;go_end0
    refine ⟨⟨_, rfl⟩, .inl ⟨_, ?_, h⟩⟩;have := o.out;rw [NN] at this;rw [Hn.out, ← this]; simp [Zt]
end Go.Proofs.YtkoikjnlpifbjaaGreat
namespace Go.Proofs.YtkoikjnlpifbjaaGreat
open Go.RowKit Go.Deep
attribute [local go_sem] Oper.semAt_some
theorem Jk : (Tryz.prog.info? 3).map (fun i => (i.zero, i.size, i.bytes)) = some (some (.int .i64 0), 1, 8) := by kernel_rfl
def Qj (l : List Int) : List Value := l.map (Value.int .i64)
theorem Ju (l : List Int) : (Qj l).length = l.length := by simp [Qj]
theorem KD (a b : List Int) : Qj (a ++ b) = Qj a ++ Qj b := by simp [Qj]
theorem Jl (l : List Int) : ∀ u ∈ Qj l, u.oneCell' = true := by
 intro u b;simp only [Qj, LR] at b;obtain ⟨x, _, rfl⟩ := b; rfl
theorem Q3 {w : World} {base size n g : Nat} {e : TypeId} {v : Value} {xs : List Value} (h : w.ownsRow base e size v n xs) (hv : v.ownBlock = some g) : base ≤ g := by
 rcases h.2 with ⟨rfl, _⟩ | ⟨d, b, c, rfl, i, _⟩
 · simp [Value.ownBlock] at hv
 · simp [Value.ownBlock] at hv; omega
theorem QQ {w : World} {base base' size n : Nat} {e : TypeId} {v : Value} {xs : List Value} (h : w.ownsRow base e size v n xs) (hb : base' ≤ base) : w.ownsRow base' e size v n xs := by
 refine ⟨h.1, ?_⟩;rcases h.2 with g | ⟨d, b, c, rfl, i, j⟩
 · exact .inl g
 · exact .inr ⟨d, b, c, rfl, Li hb i, j⟩
structure KidsFn (A : Option Addr) (cap : Nat) (l : List Nd) (p : Int) (w w' : World) (e : Ending) : Prop where
 ex : ∃ bl ba, e = .returned (.func (.func 173) #[] #[.pointer (some ⟨ba, 0, none⟩), .pointer (some ⟨bl, 0, none⟩)]) ∧ Row w' bl 23 #[.slice A l.length cap] ∧ Row w' ba 3 #[.int .i64 p] ∧ w.heap.size ≤ bl ∧ w.heap.size ≤ ba ∧ Below w.heap.size w w'
theorem EF (A : Option Addr) (cap : Nat) (l : List Nd) (p : Int) (w : World) : Calls Tryz.prog 138 #[.slice A l.length cap, .int .i64 p] w fun e w' => KidsFn A cap l p w w' e := by
 go_enter Tryz.func138, Tryz.ntmps138
 go_wp2_with (refine Qm _ _ rfl ?_)
 refine Stop.to ?_;refine Qe rfl 23 _ rfl #[.slice A l.length cap] rfl ?_;intro m q d i c;go_wp2_with (refine Qm _ _ rfl ?_)
 refine Stop.to ?_;refine Qe rfl 3 _ rfl #[.int .i64 p] rfl ?_;intro k s b o g;have j := i.below g (Lg i.lt b);have h := ((Below.refl w.heap.size w).trans (c.mono d)).trans ((g.mono b).mono c.size |>.mono (by have := c.size; omega));have n : w.heap.size ≤ k := by have := c.size; omega
 clear i c g b;go_wp2
 go_ret
 exact ⟨m, k, rfl, j, o, d, n, h⟩
structure IntsR (xs : List Int) (w w' : World) (e : Ending) : Prop where
 ex : ∃ v, e = .returned v ∧ w'.ownsRow w.heap.size 3 1 v xs.length (Qj xs) ∧ Below w.heap.size w w'
theorem Uv (A : Option Addr) (cap : Nat) (l : List Nd) (at_ : Int) (w : World) (hr : Rd w A (l.flatMap Nd.cells)) (hl : l.length ≤ 1000) :
 Calls Tryz.prog 133 #[.slice A l.length cap, .int .i64 at_] w fun e w' => IntsR (kidsZ l at_) w w' e := by
 obtain ⟨i0, al, ao, ap, aq⟩ := info_parts Jk;have He := JV A cap l at_ w hr hl;have Hr := Lv hr;have Hl := Lv hl;clear hr hl;by_cases y : endZ l at_ < 0
 · have Hk : Hid (kidsZ l at_ = []) := by show _ = _; unfold kidsZ; rw [if_pos y]
   go_enter Tryz.func133, Tryz.ntmps133
   go_wp2_with fail
   refine He.mono ?_;rintro e w1 ⟨rfl, b1⟩;clear He;go_wp2
   go_ret
   exact ⟨_, rfl, by rw [Hk.out]; exact World.ownsRow_nil _ _ _ _, b1⟩
 obtain ⟨t, s, an⟩ := YZ (by omega : 0 ≤ endZ l at_);obtain ⟨p, rfl⟩ : ∃ p : Nat, at_ = (p : Int) := ⟨at_.toNat, by omega⟩;rw [L1] at s;have Hx := Lv s.root
 have Hk : Hid (kidsZ l (p : Int) = Zt l (Qu t.root).toNat (p + 1)) := by
  show _ = _; unfold kidsZ; rw [if_neg y, L1, s.root]; rfl
 have am : 0 ≤ endZ l (p : Int) := by omega
 have ar : decide (endZ l (p : Int) < 0) = false := by simp; omega
 have hb := KS t.root;clear s an y;refine (callsIn_wide (n := 0)).1 ?_;refine callsIn_of_wp_marks Tryz.func133 rfl trivial ?_;simp only [Tryz.ntmps133, Lm, Le, Lu, Nat.reduceAdd, Nat.reduceSub, Lk, Ll, Ly, LH, Lp, Ln];gi_wp2_with fail
 refine ⟨trivial, rfl, (callsIn_wide.2 He).mono ?_⟩;rintro e w1 ⟨rfl, b1⟩;clear He;have ac : Hid (Rd w1 A (l.flatMap Nd.cells)) := Hr.out.go b1;gi_wp2_with fail
 have rg := Row.new w1 22 #[.slice none 0 0];have b2 := b1.alloc b1.size (.cells #[.slice none 0 0] 22);have aa : Hid (Rd (w1.alloc (.cells #[.slice none 0 0] 22)) A (l.flatMap Nd.cells)) := St.alloc (S := fun W => Rd W A (l.flatMap Nd.cells)) ac.out _;have lg : w1.heap.size < (w1.alloc (.cells #[.slice none 0 0] 22)).heap.size := rg.lt;have gG : w.heap.size ≤ w1.heap.size := b1.size;generalize w1.alloc (.cells #[.slice none 0 0] 22) = w2 at rg b2 lg aa ⊢;generalize w1.heap.size = G at rg lg gG ⊢;clear b1 ac;refine ⟨trivial, rfl, (callsIn_wide.2 (EF A cap l (p : Int) w2)).mono ?_⟩;rintro e w3 ⟨bl, ba, rfl, rl, ra, ak, aj, b3⟩;have ag := rg.below b3 rg.lt;have ah : Hid (Rd w3 A (l.flatMap Nd.cells)) := aa.out.go b3;have ae := b2.trans (b3.mono b2.size);obtain ⟨b, d⟩ : ∃ b, b = w3.heap.size := ⟨_, rfl⟩;have l1 : bl < b := by rw [d]; exact rl.lt
 have l2 : ba < b := by rw [d]; exact ra.lt
 have l3 : G < b := by rw [d]; exact ag.lt
 have l4 : w.heap.size ≤ b := by rw [d]; exact ae.size
 have l5 : bl ≠ G := by omega
 have l6 : ba ≠ G := by omega
 have j := Lv d;have ad := Lv (AeD bl ba b G A cap l p t.root w w3 Hr.out ah.out Hl.out Hx.out rl ra l1 l2 l5 l6 l4 gG (LM d));clear rg b2 b3 lg ak aj d rl ra aa;gi_wp2
 refine AbW (gf := 173) (lb := #[.pointer (some ⟨ba, 0, none⟩), .pointer (some ⟨bl, 0, none⟩)]) rfl (enters_of Tryz.func173 (by kernel_rfl) rfl) ad.out (fun r h => h.elim)
  (fun h k => h.trans k) (fun W m o o' hm ho hc => ⟨fun k hk _ => by rw [World.putObj_heap_other (by have := j.out; omega)], by simp⟩) (World.grownBy.refl _ _) (fun _ => rfl)
  (fun g W => ∃ v, Row W G 22 #[v] ∧ W.ownsRow b 3 1 v g.length (Qj g) ∧ Below w.heap.size w W ∧ b ≤ W.heap.size) (fun _ _ _ => False) ?hI ?hIx ⟨_, ag, World.ownsRow_nil _ _ _ _, ae, LM j.out⟩
  (fun x a' W => a' = { tmps := #[.slice A l.length cap, .int .i64 (p : Int), undef, undef, .slice none 0 0, .pointer (some ⟨G, 0, none⟩), .int .i64 x, .slice A l.length cap, .int .i64 (p : Int), .int .i64 (endZ l (p : Int)), .bool false, .slice A l.length cap, .int .i64 (p : Int), .func (.func 173) #[] #[.pointer (some ⟨ba, 0, none⟩), .pointer (some ⟨bl, 0, none⟩)], .int .i64 x, undef, undef, undef, undef, undef], defers := [] }) ?hAx ?assign ?body ?done ?stop
 case hI =>
  rintro g X Y row ⟨v, h1, h2, h3, h4⟩ u hr
  have z : ∀ r, row = some r → b ≤ r ∧ v.ownBlock ≠ some r := fun r e => by
   rcases hr r e with h | ⟨h, o, ho, hc⟩
   · exact h.elim
   · exact ⟨by have := j.out; omega, Z9 h2 ho hc⟩
  refine ⟨v, h1.grown u (fun e => by have := (z G e).1; omega), h2.kept u ?_, h3.grown u h3.size (fun k e => by have := (z k e).1; omega), Li h4 u.size⟩;cases row with
  | none => cases v.ownBlock <;> simp
  | some r => exact .inr (z r rfl).2
 case hIx => exact fun _ _ _ _ _ h _ _ => h
 case hAx => exact fun x a' _ _ _ _ h _ _ => h
 case assign =>
  rintro lb g x W K hI hK;have HK := Lv hK;clear hK;gi_wp2;exact HK.out _ _ (KeepsFrom.refl _ _) ⟨fun _ _ _ => rfl, Nat.le_refl _⟩ hI rfl
 case body =>
  rintro lb g x a' W ax _ ⟨v, h1, h2, h3, h4⟩ rfl ay;have au : g.length < 300 := by omega
  have hc := h1.cellv (i := 0) (v := v) rfl;have hf := h1.free 0;have ha := h2.alloc (.cells #[.int .i64 x] 3);have HA := Lv ha;clear ha;gi_wp2_with (gi_at_builtin; refine wpListIn_append_own_at _ rfl (.tmp 15) (.tmp 17) 22 rfl b 3 i0 (.int .i64 0) 1 8 Tryz.underlying22 al ao ap aq rfl (by decide) v g.length (Qj g) rfl HA.out ⟨W.heap.size, 0, none⟩ 1 1 (Qj [x]) rfl rfl (JK _ _ _) (Jl _) (by unfold maxLen; omega) (by omega) (by simp; omega) ?_);intro v' W3 q u _ s;have r3 := (h1.alloc (.cells #[.int .i64 x] 3)).grown u (QD HA.out (h1.alloc _) (by decide));have b3 := QK (h3.alloc h3.size _) HA.out u (by have := h3.size; simp; omega) l4;have k3 : KeepsFrom w3.heap.size W W3 := (KeepsFrom.alloc _ W (.cells #[.int .i64 x] 3)).trans (KeepsFrom.of_own HA.out u);have kp : Keeps b G W W3 := ⟨fun k hk _ => (u.block k (by simp; omega) (fun e => by have := Q3 HA.out e.symm; omega)).trans (Below.heap_alloc _ _ _ (by omega)), by have := u.size; simp at this; omega⟩;have s3 : b ≤ W3.heap.size := Li h4 kp.size;obtain ⟨A', m', c', rfl⟩ : ∃ A m c, v' = .slice A m c := Zy q;have av := r3.cellv (i := 0) (v := v) rfl;have aw := r3.free 0;have nG := QD q r3 (by decide);have ab := Lv q;clear q u s hc hf;gi_wp2;have o4 := Q6 W3 G 0 (.slice A' m' c');refine ⟨k3.trans (KeepsFrom.of_only r3 o4), kp.trans ⟨fun k _ hk => o4.block k hk, LM o4.size.symm⟩, _, r3.set 0 _, ?_, Ql b3 o4 gG, Li s3 (LM o4.size.symm)⟩;have := QB ab.out o4 nG;rw [← KD] at this;simpa using this
 case stop => exact fun D c g W _ _ h _ => h.elim
 case done =>
  rintro D ys W hD af ⟨v, h1, h2, h3, h4⟩ hK;have ai := Lv af;have hc := h1.cellv (i := 0) (v := v) rfl;have HK := Lv hK;clear hK af;gi_wp2;refine ⟨by simp, .inl ⟨_, _, rfl, run_takeDeferred HK.out, ?_⟩⟩;refine ⟨_, results_tmp rfl _ _ _, v, rfl, ?_, h3.grown (grownBy_putObj' _ _ _) h3.size (fun k e => by cases e; have := j.out; omega)⟩;rw [Hk.out, ← ai.out];exact QQ ((h2.kept (grownBy_putObj' _ _ _) (.inr (Z9 h2 HK.out rfl)))) l4
end Go.Proofs.YtkoikjnlpifbjaaGreat
namespace Go.Proofs.YtkoikjnlpifbjaaGreat
open Go.RowKit Go.Deep
theorem AaM {t n : Int} (h : ¬ (1 ≤ t ∧ t ≤ 26)) : Qu ⟨t, n⟩ = -1 := by
 unfold Qu;rw [if_neg (by dsimp only; omega)]
 have : Za ⟨t, n⟩ = (-1, -1) := by
  unfold Za; dsimp only
  repeat (first | rw [if_pos (by omega)] | rw [if_neg (by omega)])
 rw [this];split <;> rfl
theorem XU (t : Int) (w : World) (ht : InI t) : Calls Tryz.prog 97 #[.int .i64 t] w fun e w' => e = .returned (.int .i64 (QY t)) ∧ w = w' := by
 unfold InI at ht;by_cases h : 2 ≤ t ∧ t ≤ 9
 · obtain ⟨d, b⟩ := h;have c : Hid (QY t = t - 1) := by show _ = _; unfold QY; rw [if_pos ⟨d, b⟩]
   go_enter Tryz.func97, Tryz.ntmps97
   go_wp2
   go_ret
   exact ⟨Q1 c.out, rfl⟩
 · have c : Hid (QY t = 0) := by show _ = _; unfold QY; rw [if_neg h]
   have b : t < 2 ∨ 9 < t := by omega
   clear h;rcases b with b | b
   all_goals
    go_enter Tryz.func97, Tryz.ntmps97
    go_wp2
    go_ret
    exact ⟨Q1 c.out, rfl⟩
structure PgV where
 params : Int
 va : Option Addr
 vcap : Nat
 V : List Int
 ba : Option Addr
 bcap : Nat
 body : List Nd
def PgV.cells (p : PgV) : Array Value := #[.int .i64 p.params, .slice p.va p.V.length p.vcap, .slice p.ba p.body.length p.bcap]
structure PgV.ok (p : PgV) (w : World) : Prop where
 par : InI p.params
 vlen : p.V.length ≤ p.vcap
 vmax : p.vcap ≤ maxLen
 vnil : p.va = none → p.vcap = 0
 vrd : Rd w p.va (Qj p.V)
 vin : ∀ t ∈ p.V, InI t
 blen : p.body.length ≤ p.bcap
 bmax : p.bcap ≤ maxLen
 bnil : p.ba = none → p.bcap = 0
 brd : Rd w p.ba (p.body.flatMap Nd.cells)
 bin : ∀ x ∈ p.body, InI x.tag ∧ InI x.n
theorem PgV.ok.go {p : PgV} {w w' : World} (h : p.ok w) (b : Below w.heap.size w w') : p.ok w' :=
 ⟨h.par, h.vlen, h.vmax, h.vnil, h.vrd.go b, h.vin, h.blen, h.bmax, h.bnil, h.brd.go b, h.bin⟩
instance St.pgok {p : PgV} : St (fun W => p.ok W) := ⟨fun h b => h.go b⟩
theorem ZP {w : World} {A : Option Addr} {l : List Int} (hr : Rd w A (Qj l)) {k : Nat} {x : Int} (hx : l[k]? = some x) : ∃ ad, A = some ad ∧ w.cell? (ad.add k) = some (.int .i64 x) :=
 hr k _ (by simp [Qj, hx])
def Yw (params : Int) (j : Nat) (t : Int) : Bool := decide (t = 0 ∨ (params ≤ j ∧ 1 ≤ t ∧ t ≤ 9))
def Xj (params : Int) (V : List Int) : Prop := 0 ≤ params ∧ params ≤ V.length ∧ V.length ≤ 12 ∧ ∀ j, j < V.length → Yw params j (V.getD j 0) = true
instance (params : Int) (V : List Int) : Decidable (Xj params V) := by unfold Xj; infer_instance
def Jt (params : Int) (V : List Int) : Int := if Xj params V then 0 else 14
theorem Aan {params : Int} {V : List Int} (h : params < 0 ∨ (V.length : Int) < params ∨ 12 < (V.length : Int)) : Jt params V = 14 := by
 unfold Jt; rw [if_neg]; unfold Xj; omega
theorem AgT {params : Int} {V : List Int} {j : Nat} {t : Int} (hj : V[j]? = some t) (h : Yw params j t = false) : Jt params V = 14 := by
 unfold Jt; rw [if_neg];rintro ⟨_, _, _, b⟩;have := b j (Ld.1 hj).1;rw [LX, hj, LZ, h] at this;cases this
theorem Aiz {params : Int} {V : List Int} (h1 : 0 ≤ params) (h2 : params ≤ V.length) (h3 : (V.length : Int) ≤ 12) (h : ∀ j, j < V.length → Yw params j (V.getD j 0) = true) : Jt params V = 0 := by
 unfold Jt; rw [if_pos ⟨h1, h2, by omega, h⟩]
theorem Ub {params : Int} {V : List Int} {k : Nat} {t : Int} (h : ∀ j, j < k → Yw params j (V.getD j 0) = true) (hk : V[k]? = some t) (ht : Yw params k t = true) : ∀ j, j < k + 1 → Yw params j (V.getD j 0) = true := fun j hj => by
 by_cases e : j = k
 · subst e; rw [LX, hk]; exact ht
 · exact h j (by omega)
theorem Ad3 (p : PgV) (w : World) (hok : p.ok w) : Calls Tryz.prog 61 #[.agg p.cells] w fun e w' => e = .returned (.int .i64 (Jt p.params p.V)) ∧ Below w.heap.size w w' := by
 have n := Lv hok;clear hok;obtain ⟨params, va, d, V, ba, l, m⟩ := p;dsimp only;rw [show (PgV.mk params va d V ba l m).cells = #[.int .i64 params, .slice va V.length d, .slice ba m.length l] from rfl];go_enter Tryz.func61, Tryz.ntmps61
 go_wp2_with (refine Qm _ _ rfl ?_)
 refine Stop.to ?_;refine Qe rfl 25 _ rfl #[.int .i64 params, .slice va V.length d, .slice ba m.length l] rfl ?_;intro G w1 hG r1 o;have o := (Below.refl w.heap.size w).trans (o.mono hG);have u := n.out.go o;have c0 := r1.cellv (i := 0) (v := .int .i64 params) rfl;have c1 := r1.cellv (i := 1) (v := .slice va V.length d) rfl;have ag := u.vrd;have ab := Lv ag;have aa := Lv n.out.vin;have x := n.out.par;unfold InI at x;dsimp only at ab aa x;clear hG u ag r1 n;by_cases h0 : params < 0
 · have g := Lv (Aan (V := V) (.inl h0));go_wp2
   go_ret
   exact ⟨Q1 g.out, o⟩
 by_cases s : (V.length : Int) < params
 · have g := Lv (Aan (V := V) (.inr (.inl s)));have y : 0 ≤ params := by omega
   go_wp2
   go_ret
   exact ⟨Q1 g.out, o⟩
 by_cases h2 : 12 < (V.length : Int)
 · have g := Lv (Aan (params := params) (V := V) (.inr (.inr h2)));have y : 0 ≤ params := by omega
   have ac : params ≤ (V.length : Int) := by omega
   clear h0 s;go_wp2
   go_ret
   exact ⟨Q1 g.out, o⟩
 have y : 0 ≤ params := by omega
 have ac : params ≤ (V.length : Int) := by omega
 have ah : (V.length : Int) ≤ 12 := by omega
 clear h0 s h2;go_wp2
 go_loop [25] (fun i => ∃ k : Nat, i = .int .i64 (k : Int) ∧ k ≤ V.length ∧ Hid (∀ j, j < k → Yw params j (V.getD j 0) = true)) (fun i => V.length - (intOf i).toNat)
 case atStart => exact ⟨0, rfl, Nat.zero_le _, Lv (fun j h => by omega)⟩
 case round =>
  obtain ⟨k, rfl, hk, c⟩ := hrel;by_cases af : k < V.length
  · obtain ⟨t, ht⟩ : ∃ t, V[k]? = some t := ⟨_, La af⟩;obtain ⟨ad, ai, hc⟩ := ZP ab.out ht;have ae := aa.out t (Lj ht);have q := Lv ae;unfold InI at ae;have Ht := Lv ht;have al : (k : Int) < (V.length : Int) := by omega
    clear ht af;subst ai;by_cases b : Yw params k t = true
    · have Hg := Lv b;simp only [Yw, decide_eq_true_eq] at b;have g : t = 0 ∨ (t ≠ 0 ∧ (params ≤ k ∧ 1 ≤ t ∧ t ≤ 9)) := by omega
      clear b;rcases g with rfl | ⟨z, an, ao, ap⟩
      · go_wp2
        go_round
        case rel => exact ⟨k + 1, by go_num, by omega, Lv (Ub c.out Ht.out Hg.out)⟩
        case measure => simp [intOf]; omega
      · have e0 : (t != 0) = true := by simpa using z
        by_cases s : t = 1
        · have e1 : (t != 1) = false := by simpa using s
          clear z s;go_wp2
          go_round
          case rel => exact ⟨k + 1, by go_num, by omega, Lv (Ub c.out Ht.out Hg.out)⟩
          case measure => simp [intOf]; omega
        · have e1 : (t != 1) = true := by simpa using s
          have e2 : (QY t == 0) = false := by simp [QY]; omega
          clear z s;go_wp2_with (go_at_call 97; refine (XU t _ q.out).mono ?_; rintro e w' ⟨rfl, rfl⟩)
          go_round
          case rel => exact ⟨k + 1, by go_num, by omega, Lv (Ub c.out Ht.out Hg.out)⟩
          case measure => simp [intOf]; omega
    · have g := Lv (AgT Ht.out (by simpa using b));simp only [Yw, decide_eq_true_eq] at b;have e0 : (t != 0) = true := by simp; omega
      by_cases aj : (k : Int) < params
      · clear b;go_wp2
        go_ret
        exact ⟨Q1 g.out, o⟩
      · have ak : params ≤ (k : Int) := by omega
        have e1 : (t != 1) = true := by simp; omega
        have e2 : QY t = 0 := by unfold QY; rw [if_neg (by omega)]
        have E2 := Lv e2;clear b aj e2;go_wp2_with (go_at_call 97; refine (XU t _ q.out).mono ?_; rintro e w' ⟨rfl, rfl⟩; rw [E2.out])
        go_ret
        exact ⟨Q1 g.out, o⟩
  · have am : (V.length : Int) ≤ (k : Int) := by omega
    obtain rfl : k = V.length := by omega
    have g := Lv (Aiz y ac ah c.out);go_wp2
    go_ret
    exact ⟨Q1 g.out, o⟩
def Age (p : PgV) : Bool := decide (p.body.length ≤ 60 ∧ p.V.length ≤ 20)
theorem Ajd (p : PgV) (w : World) : Calls Tryz.prog 58 #[.agg p.cells] w fun e w' => e = .returned (.bool (Age p)) ∧ Below w.heap.size w w' := by
 obtain ⟨c, l, g, V, k, d, b⟩ := p;rw [show (PgV.mk c l g V k d b).cells = #[.int .i64 c, .slice l V.length g, .slice k b.length d] from rfl];have s : Hid (Age ⟨c, l, g, V, k, d, b⟩ = decide (b.length ≤ 60 ∧ V.length ≤ 20)) := by show _ = _; rfl
 go_enter Tryz.func58, Tryz.ntmps58
 go_wp2_with (refine Qm _ _ rfl ?_)
 refine Stop.to ?_;refine Qe rfl 25 _ rfl #[.int .i64 c, .slice l V.length g, .slice k b.length d] rfl ?_;intro G w1 u t j;have j := (Below.refl w.heap.size w).trans (j.mono u);have z := t.cellv (i := 1) (v := .slice l V.length g) rfl;have c2 := t.cellv (i := 2) (v := .slice k b.length d) rfl;clear u t;by_cases m : b.length ≤ 60
 · have n : (b.length : Int) ≤ 60 := by omega
   by_cases o : V.length ≤ 20
   · have q : (V.length : Int) ≤ 20 := by omega
     go_wp2
     go_ret
     exact ⟨ZU (s.out.trans (decide_eq_true ⟨m, o⟩)), j⟩
   · have q : 20 < (V.length : Int) := by omega
     have y := Lv o;clear o;go_wp2
     go_ret
     exact ⟨ZU (s.out.trans (by simp [m]; omega)), j⟩
 · have n : 60 < (b.length : Int) := by omega
   have x := Lv m;clear m;go_wp2
   go_ret
   exact ⟨ZU (s.out.trans (decide_eq_false (fun h : b.length ≤ 60 ∧ V.length ≤ 20 => x.out h.1))), j⟩
def KI (l : List Nat) : List Int := l.map fun n : Nat => (n : Int)
theorem Abh (l : List Nat) : (KI l).length = l.length := by simp [KI]
end Go.Proofs.YtkoikjnlpifbjaaGreat
namespace Go.Proofs.YtkoikjnlpifbjaaGreat
end Go.Proofs.YtkoikjnlpifbjaaGreat
