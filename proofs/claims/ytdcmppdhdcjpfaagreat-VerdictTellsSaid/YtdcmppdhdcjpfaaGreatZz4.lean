/- Lemmas for VerdictTellsP. -/
import Derived.Test.YtdcmppdhdcjpfaaGreatZz1
import Derived.Test.YtdcmppdhdcjpfaaGreatZz2
import Derived.Test.YtdcmppdhdcjpfaaGreatRows
import Derived.ScopeJumps
import Derived.WalkMore
import Derived.Maps.OwnIn
import Derived.Deep.LoopGhost
import Derived.Maps.AppendAt
set_option linter.unusedVariables false
set_option linter.unusedSimpArgs false
set_option maxRecDepth 100000
set_option maxHeartbeats 16000000
namespace Go.Proofs.YtdcmppdhdcjpfaaGreat
open Go.RowKit Go.Deep
def Nd.cells (x : Nd) : List Value := [.int .i64 x.tag, .int .i64 x.n]
theorem Qo {k : IntKind} {a b : Int} (h : b = a) : Ending.returned (.int k a) = .returned (.int k b) := by rw [h]
theorem Z4 {a b : Bool} (h : b = a) : Ending.returned (.bool a) = .returned (.bool b) := by rw [h]
theorem bp2 {r1 r2 a b : Int} (h : (a, b) = (r1, r2)) : Ending.returned (.tuple #[.int .i64 r1, .int .i64 r2]) = .returned (.tuple #[.int .i64 a, .int .i64 b]) := by cases h; rfl
theorem Aep (x : Nd) (w : World) : Calls Tryz.prog 207 #[.agg x.cells.toArray] w fun e w' => e = .returned (.tuple #[.int .i64 (Q2 x).1, .int .i64 (Q2 x).2]) ∧ Below w.heap.size w w' := by
 obtain ⟨t, n⟩ := x;rw [show (Nd.cells ⟨t, n⟩).toArray = #[.int .i64 t, .int .i64 n] from rfl];go_enter Tryz.func207, Tryz.ntmps207
 go_wp2_with (refine Qn _ _ rfl ?_)
 refine Stop.to ?_;refine Qe rfl 85 _ rfl #[.int .i64 t, .int .i64 n] rfl ?_;intro G j d c b;have b := (Below.refl w.heap.size w).trans (b.mono d);have g := c.cellv (i := 0) (v := .int .i64 t) rfl;have h := c.cellv (i := 1) (v := .int .i64 n) rfl;clear c d;go_wp2
 all_goals (try (go_quiet (fail); go_wp2))
 all_goals (go_ret2; refine ⟨bp2 ?_, (by first | exact b | exact Zn b _)⟩; clear g h b; simp only [beq_iff_eq, beq_eq_false_iff_ne] at *; unfold Q2; dsimp only; first | (subst_vars; rfl) | (repeat (first | rw [if_pos (by omega)] | rw [if_neg (by omega)])))
theorem Agw {n : Int} : Qq ⟨1, n⟩ = 0 := rfl
theorem XH (x : Nd) (w : World) : Calls Tryz.prog 126 #[.agg x.cells.toArray] w fun e w' => e = .returned (.int .i64 (Qq x)) ∧ Below w.heap.size w w' := by
 obtain ⟨t, n⟩ := x;obtain ⟨m, l⟩ : ∃ m, m = Q2 ⟨t, n⟩ := ⟨_, rfl⟩;have s := Lh l;have r : t ≠ 1 → Qq ⟨t, n⟩ = if n < 0 ∨ m.1 < n then -1 else m.2 := fun h => by rw [Qq, if_neg h, l]
 have j := Lh r;have h1 : Hid (t = 1 → Qq ⟨t, n⟩ = 0) := by show t = 1 → _; rintro rfl; rfl
 clear l r;rw [show (Nd.cells ⟨t, n⟩).toArray = #[.int .i64 t, .int .i64 n] from rfl];go_enter Tryz.func126, Tryz.ntmps126
 go_wp2_with (refine Qn _ _ rfl ?_)
 refine Stop.to ?_;refine Qe rfl 85 _ rfl #[.int .i64 t, .int .i64 n] rfl ?_;intro G w1 q d b;have b := (Below.refl w.heap.size w).trans (b.mono q);have u := d.cellv (i := 0) (v := .int .i64 t) rfl;have y := d.cellv (i := 1) (v := .int .i64 n) rfl;clear q;by_cases g : t = 1
 · have o : (t == 1) = true := by simpa using g
   go_wp2
   go_ret
   exact ⟨Qo (h1.out g), b⟩
 · have o : (t == 1) = false := by simpa using g
   have k := Lh g;clear g;go_wp2_with (refine wpList_load_row rfl 85 _ rfl G rfl 85 #[.int .i64 t, .int .i64 n] (0, 0) _ d Tryz.underlying85 rfl (by kernel_rfl) ?_)
   refine (Aep ⟨t, n⟩ w1).mono ?_;rintro e w2 ⟨rfl, c⟩;rw [← s.out];have p := d.below c d.lt;have c := b.trans (c.mono b.size);have u := p.cellv (i := 0) (v := .int .i64 t) rfl;have y := p.cellv (i := 1) (v := .int .i64 n) rfl;clear d b p;by_cases z : n < 0
   · go_wp2
     go_ret
     exact ⟨Qo (by rw [j.out k.out, if_pos (.inl z)]), c⟩
   · have aa : 0 ≤ n := by omega
     by_cases h2 : m.1 < n
     · go_wp2
       go_ret
       exact ⟨Qo (by rw [j.out k.out, if_pos (.inr h2)]), c⟩
     · have ab : n ≤ m.1 := by omega
       go_wp2
       go_ret
       exact ⟨Qo (by rw [j.out k.out, if_neg (by omega)]), c⟩
theorem EF : ∀ (l : List Nd) (k : Nat) (x : Nd), l[k]? = some x → ∀ j u, x.cells[j]? = some u → (l.flatMap Nd.cells)[k * 2 + j]? = some u
 | [], k, x, h, _, _, _ => by simp at h
 | a :: l, 0, x, h, j, u, hj => by
  simp at h; subst h
  have hl : j < a.cells.length := (Lb.1 hj).1
  simp only [LC]
  rw [Lw (by omega)]
  simpa using hj
 | a :: l, k + 1, x, h, j, u, hj => by
  simp only [LC]
  rw [Ls (by simp [Nd.cells]; omega)]
  have := EF l k x (by simpa using h) j u hj
  rw [← this]; congr 1; simp [Nd.cells]; omega
theorem Z9 {w : World} {A : Option Addr} {l : List Nd} (hr : Rd w A (l.flatMap Nd.cells)) {k : Nat} {x : Nd} (hx : l[k]? = some x) : ∃ ad, A = some ad ∧ ∀ j u, x.cells[j]? = some u → w.cell? ((ad.add (k * 2)).add j) = some u :=
 hr.part (k * 2) x.cells (EF l k x hx) (by simp [Nd.cells])
theorem UN {l : List Nd} {k : Nat} {x : Nd} (hx : l[k]? = some x) (m : Nat) : Jq (l.drop k) (m + 1) = if Qq x < 0 then none else (Jq (l.drop (k + 1)) (m + (Qq x).toNat)).map (· + 1) := by
 have b : k < l.length := (Lb.1 hx).1;rw [LH b, show l[k] = x by rw [La b] at hx; injection hx];rfl
theorem Kv (l : List Nd) (p : Nat) : endZ l (p : Int) = match Jq (l.drop p) 1 with | none => -1 | some c => (p : Int) + c := by
 unfold endZ; rw [if_neg (by omega), Lg]; rfl
theorem UO {l d : List Nd} {p c : Nat} (h : Jq (l.drop p) 1 = (Jq d 0).map (· + c)) : endZ l (p : Int) = (p : Int) + (c : Int) := by
 rw [Kv, h];have : Jq d 0 = some 0 := by simp [Jq]
 rw [this];simp
theorem Yj (o : Option Nat) (a b : Nat) : (o.map (· + a)).map (· + b) = o.map (· + (b + a)) := by
 cases o <;> simp; omega
theorem JW (A : Option Addr) (cap : Nat) (l : List Nd) (at_ : Int) (w : World) (hr : Rd w A (l.flatMap Nd.cells)) (hl : l.length ≤ 1000) :
 Calls Tryz.prog 65 #[.slice A l.length cap, .int .i64 at_] w fun e w' => e = .returned (.int .i64 (endZ l at_)) ∧ Below w.heap.size w w' := by
 have Hr := Lh hr;have Hl := Lh hl;have az : Below w.heap.size w w := Below.refl _ _;clear hr hl;by_cases h0 : at_ < 0
 · have hz := Lh (AcB (l := l) h0);go_enter Tryz.func65, Tryz.ntmps65
   go_wp2
   go_step3
   go_wp2
   rw [Exit.noGoto_ret];go_ret
   exact ⟨Qo hz.out, az⟩
 · obtain ⟨p, rfl⟩ : ∃ p : Nat, at_ = (p : Int) := ⟨at_.toNat, by omega⟩;go_enter Tryz.func65, Tryz.ntmps65
   go_wp2
   refine wp_scope_jumps 0 (fun a' w' => Below w.heap.size w w' ∧ ∃ (k m : Nat) (u7 u8 u9 y z aa ab ac ae af ag ah ai aj ak al am an ao ap aq ar au av : Value), a' = { tmps := #[.slice A l.length cap, .int .i64 (p : Int), undef, undef, .int .i64 0, .int .i64 (k : Int), .int .i64 (m : Int), u7, u8, u9, y, z, aa, ab, ac, ae, af, ag, ah, ai, aj, ak, al, am, an, ao, ap, aq, ar, au, av], defers := [] } ∧ p ≤ k ∧ k ≤ l.length ∧ 0 < m ∧ m ≤ 1 + 200 * k ∧ Jq (l.drop p) 1 = (Jq (l.drop k) m).map (· + (k - p))) (fun a' _ => l.length - (intOf (a'.tmps.getD 5 undef)).toNat) rfl ?_ ?_
   · go_wp2
     go_step3
     have g := Below.refl w.heap.size w;have hl := Hl.out;have j := Lh (show Jq (l.drop p) 1 = (Jq (l.drop p) 1).map (· + (p - p)) by simp);by_cases d : p < l.length
     · obtain ⟨x, i⟩ : ∃ x, l[p]? = some x := ⟨_, La d⟩;have o := Lh (UN i (1 - 1));obtain ⟨ad, n, t⟩ := Z9 (Hr.out.go g) i;have Hc := Lh t;have hb := JB x;have Hx := Lh i;have u : (p : Int) < (l.length : Int) := by omega
       clear i t d;subst n;go_wp2_with (refine QE rfl 85 _ rfl (ad.add (p * 2)) rfl x.cells _ Hc.out Tryz.underlying85 rfl (by kernel_rfl) ?_)
       refine (XH x w).mono ?_;rintro e w2 ⟨rfl, b2⟩;have b := g.trans (b2.mono g.size);by_cases v : Qq x < 0
       · go_wp2
         simp only [Exit.jump];go_ret
         refine ⟨Qo ?_, b⟩;rw [Kv, j.out, show 1 = 1 - 1 + 1 by omega, o.out, if_pos v]; rfl
       · obtain ⟨q, h⟩ : ∃ q : Nat, Qq x = (q : Int) := ⟨(Qq x).toNat, by omega⟩;have Hq := Lh h;rw [h] at hb;rw [h];have ax : 0 ≤ (q : Int) := by omega
         clear v h
         have s : Jq (l.drop p) 1 = (Jq (l.drop (p + 1)) (1 - 1 + q)).map (· + (p + 1 - p)) := by
          rw [j.out, show 1 = 1 - 1 + 1 by omega, o.out, Hq.out, if_neg (by omega), Yj, Lg];congr 1; funext c; omega
         have r := Lh s;clear s j o;by_cases hz : 1 - 1 + q = 0
         · obtain rfl : q = 0 := by omega
           go_wp2
           simp only [Exit.jump];go_ret
           refine ⟨Qo ?_, b⟩;rw [UO r.out]; omega
         · have ay : 0 < (1 : Int) + ((q : Int) - 1) := by omega
           go_wp2
           go_step3
           have e1 : ((p + 1 : Nat) : Int) = (p : Int) + 1 := by omega
           have e2 : ((1 - 1 + q : Nat) : Int) = (1 : Int) + ((q : Int) - 1) := by omega
           refine ⟨rfl, ⟨b, p + 1, 1 - 1 + q, _, _, _, _, _, _, _, _, _, _, _, _, _, _, _, _, _, _, _, _, _, _, _, _, by rw [e1, e2], by omega, by omega, by omega, by omega, r.out⟩⟩
     · have aw : (l.length : Int) ≤ (p : Int) := by omega
       go_wp2
       simp only [Exit.jump];go_ret
       refine ⟨Qo ?_, g⟩;rw [Kv, Ny (by omega)]; rfl
   · rintro a' w' ⟨g, k, m, u7, u8, u9, y, z, aa, ab, ac, ae, af, ag, ah, ai, aj, ak, al, am, an, ao, ap, aq, ar, au, av, rfl, a2, a0, a1, hm, he⟩;have j := Lh he;have hl := Hl.out;clear he;by_cases d : k < l.length
     · obtain ⟨x, i⟩ : ∃ x, l[k]? = some x := ⟨_, La d⟩;have o := Lh (UN i (m - 1));obtain ⟨ad, n, t⟩ := Z9 (Hr.out.go g) i;have Hc := Lh t;have hb := JB x;have Hx := Lh i;have u : (k : Int) < (l.length : Int) := by omega
       clear i t d;subst n;go_wp2_with (refine QE rfl 85 _ rfl (ad.add (k * 2)) rfl x.cells _ Hc.out Tryz.underlying85 rfl (by kernel_rfl) ?_)
       refine (XH x w').mono ?_;rintro e w2 ⟨rfl, b2⟩;have b := g.trans (b2.mono g.size);by_cases v : Qq x < 0
       · go_wp2
         simp only [Exit.jump];go_ret
         refine ⟨Qo ?_, b⟩;rw [Kv, j.out, show m = m - 1 + 1 by omega, o.out, if_pos v]; rfl
       · obtain ⟨q, h⟩ : ∃ q : Nat, Qq x = (q : Int) := ⟨(Qq x).toNat, by omega⟩;have Hq := Lh h;rw [h] at hb;rw [h];have ax : 0 ≤ (q : Int) := by omega
         clear v h
         have s : Jq (l.drop p) 1 = (Jq (l.drop (k + 1)) (m - 1 + q)).map (· + (k + 1 - p)) := by
          rw [j.out, show m = m - 1 + 1 by omega, o.out, Hq.out, if_neg (by omega), Yj, Lg];congr 1; funext c; omega
         have r := Lh s;clear s j o;by_cases hz : m - 1 + q = 0
         · obtain rfl : q = 0 := by omega
           obtain rfl : m = 1 := by omega
           go_wp2
           simp only [Exit.jump];go_ret
           refine ⟨Qo ?_, b⟩;rw [UO r.out]; omega
         · have ay : 0 < (m : Int) + ((q : Int) - 1) := by omega
           go_wp2
           go_step3
           have e1 : ((k + 1 : Nat) : Int) = (k : Int) + 1 := by omega
           have e2 : ((m - 1 + q : Nat) : Int) = (m : Int) + ((q : Int) - 1) := by omega
           refine ⟨rfl, ⟨b, k + 1, m - 1 + q, _, _, _, _, _, _, _, _, _, _, _, _, _, _, _, _, _, _, _, _, _, _, _, _, by rw [e1, e2], by omega, by omega, by omega, by omega, r.out⟩, by simp [intOf]; omega⟩
     · have aw : (l.length : Int) ≤ (k : Int) := by omega
       obtain rfl : k = l.length := by omega
       go_wp2
       simp only [Exit.jump];go_ret
       refine ⟨Qo ?_, g⟩;rw [Kv, j.out, show m = m - 1 + 1 by omega, List.drop_length]; rfl
attribute [local go_sem] Oper.semAt_some
structure Keeps (lim G : Nat) (A B : World) : Prop where
 block : ∀ k, k < lim → k ≠ G → B.heap[k]? = A.heap[k]?
 size : A.heap.size ≤ B.heap.size
theorem Keeps.trans {lim G : Nat} {A B C : World} (h : Keeps lim G A B) (k : Keeps lim G B C) : Keeps lim G A C := ⟨fun i hi hg => (k.block i hi hg).trans (h.block i hi hg), Li h.size k.size⟩
theorem Keeps.row {lim G g : Nat} {A B : World} {t : TypeId} {cs : Array Value} (h : Keeps lim G A B) (hr : Row A g t cs) (h1 : g < lim) (h2 : g ≠ G) : Row B g t cs := (h.block g h1 h2).trans hr
theorem Rd.keeps {w0 A B : World} {lim G : Nat} {ad : Option Addr} {xs : List Value} (h0 : Rd w0 ad xs) (hl : w0.heap.size ≤ lim) (hG : w0.heap.size ≤ G) (h : Rd A ad xs) (k : Keeps lim G A B) : Rd B ad xs := fun j u hj => by
 obtain ⟨a, e, g⟩ := h j u hj;obtain ⟨d, c, b⟩ := h0 j u hj;obtain rfl : a = d := by rw [e] at c; injection c
 have i := World.block_lt_of_cell? _ _ b;refine ⟨a, e, ?_⟩;rw [← g];have := k.block (a.add j).block (by omega) (by omega);simp only [World.cell?, this]
theorem QF {β : Type} {own : Nat → Prop} {B : Nat} {J : β → World → Prop} (h : VJ own B J) {s : β} {W W' : World} (hj : J s W) (b : Below W.heap.size W W') : J s W' :=
 h s W W' none hj ⟨b.os, b.tape, b.output, b.size, fun k hk _ => b.block k hk⟩ (fun r e => by cases e)
theorem YS {l : List Nd} : ∀ (n : Nat) (k : Int), (Za l n k).length = n
 | 0, _ => rfl
 | n + 1, k => by simp [Za, YS n]
theorem Aem (bl ba lim G : Nat) (A : Option Addr) (cap : Nat) (l : List Nd) (p : Nat) (x : Nd) (w0 w : World) (hr0 : Rd w0 A (l.flatMap Nd.cells)) (hr : Rd w A (l.flatMap Nd.cells)) (hl : l.length ≤ 1000) (hx : l[p]? = some x)
 (h1 : Row w bl 23 #[.slice A l.length cap]) (h2 : Row w ba 3 #[.int .i64 (p : Int)]) (g1 : bl < lim) (g2 : ba < lim) (g3 : bl ≠ G) (g4 : ba ≠ G) (g5 : w0.heap.size ≤ lim) (g6 : w0.heap.size ≤ G) (g7 : lim ≤ w.heap.size) :
 Aci Tryz.prog 250 #[.pointer (some ⟨ba, 0, none⟩), .pointer (some ⟨bl, 0, none⟩)] (fun k : Int => #[.int .i64 k]) (fun _ => False) (Keeps lim G) (fun xs => xs = Za l (Qq x).toNat (p + 1)) (fun _ => True) ((Qq x).toNat + 1) w := by
 intro lb J Jx W _ c hJ ai hY y;refine callsIn_of_wp Tryz.func250 rfl trivial ?_ rfl;simp only [Tryz.ntmps250, Lk, Lc, Lr, Nat.reduceAdd, Nat.reduceSub, Ll, Lm, Lu, L7, Lp, Ln];have d : Below w.heap.size w W := ⟨c.os, c.tape, c.output, c.size, fun k hk => c.block k hk (by simp)⟩;have s := h1.below d h1.lt;have r2 := h2.below d h2.lt;have hd := hr.go d;have hp : p < l.length := (Lb.1 hx).1;obtain ⟨u, aj, hc⟩ := Z9 hd hx;have Hc := Lh hc;have ah := Lh hr0;have Hd := Lh hd;have HJ := Lh hJ;have HY := Lh hY;have au : (p : Int) < (l.length : Int) := by omega
 have hb := JB x;have sz : lim ≤ W.heap.size := Li g7 d.size;clear hc hr c h1 h2 d hx hJ ai hY g7 hr0 hp hd;subst aj;have c1 := s.cellv (i := 0) (v := .slice (some u) l.length cap) rfl;have c2 := r2.cellv (i := 0) (v := .int .i64 (p : Int)) rfl;gi_wp2_with (refine Jd rfl 85 _ rfl (u.add (p * 2)) rfl x.cells _ Hc.out Tryz.underlying85 rfl (by kernel_rfl) ?_);refine ⟨trivial, rfl, (callsIn_wide.2 (XH x W)).mono ?_⟩;rintro e w2 ⟨rfl, r⟩;have s := s.below r s.lt;have r2 := r2.below r r2.lt;have ak := Hd.out.go r;have y := QF HJ.out y r;have sz := Li sz r.size;clear r c1 c2 Hc Hd;by_cases ab : Qq x < 0
 · have aa : (Qq x).toNat = 0 := by omega
   have ag := Lh aa;clear aa;gi_wp2;gi_loopw [4, 12] (fun _ i wr => i = .int .i64 0 ∧ J [] wr) (fun _ _ _ => 0)
   case atStart => exact ⟨rfl, y⟩
   case round =>
    obtain ⟨rfl, h⟩ := hrel;have am : Qq x ≤ 0 := by omega
    gi_wp2;go_end0
    exact ⟨⟨_, rfl⟩, .inl ⟨_, by rw [ag.out]; rfl, h⟩⟩
 obtain ⟨n, hn⟩ : ∃ n : Nat, Qq x = (n : Int) := ⟨(Qq x).toNat, by omega⟩;rw [hn] at hb ⊢;have Hn : Hid ((Qq x).toNat = n) := by show _ = n; omega
 clear hn ab;gi_wp2;gi_loopw [4, 12] (fun kk i wr => ∃ (j : Nat) (k : Int) (m : List Int), i = .int .i64 (j : Int) ∧ kk = .int .i64 k ∧ j ≤ n ∧ m ++ Za l (n - j) k = Za l n (p + 1) ∧ Keeps lim G w2 wr ∧ J m wr) (fun _ i _ => n - (intOf i).toNat)
 case atStart => exact ⟨0, _, [], by simp, rfl, Nat.zero_le _, by simp, ⟨fun _ _ _ => rfl, Nat.le_refl _⟩, y⟩
 case round =>
  obtain ⟨j, k, m, rfl, rfl, ar, g, b, h⟩ := hrel
  have q : m.length = j := by
   have := congrArg List.length g;rw [Le, YS, YS] at this; omega
  have o := Lh g;have t := Lh q;have an := b.row s g1 g3;clear g q y;by_cases ap : j < n
  · obtain ⟨fn, aq, ae, ao, hy, hR⟩ := HY.out _ k _ h (by have := t.out; have := Hn.out; omega);have HR := Lh hR;clear hR h;gi_wp2;refine ⟨rfl, HR.out.mono ?_⟩;rintro e W' (⟨rfl, h, hk⟩ | ⟨rfl, al⟩);rotate_left
    · clear hy;gi_wp2;refine bodyPost_ret (results_none rfl _ _ _) rfl ?_;exact ⟨⟨_, rfl⟩, .inr ⟨_, trivial, al⟩⟩
    have b := b.trans hk;have ac := b.row s g1 g3;have c1 := ac.cellv (i := 0) (v := .slice (some u) l.length cap) rfl;have z : Rd W' (some u) (l.flatMap Nd.cells) := ah.out.keeps g5 g6 ak b;have af := Lh z;clear hy an z;gi_wp2;refine ⟨trivial, rfl, (callsIn_wide.2 (JW (some u) cap l k W' af.out hl)).mono ?_⟩;rintro e w3 ⟨rfl, b3⟩;have h := QF HJ.out h b3;have b := b.trans (⟨fun i hi _ => b3.block i (by have := hk.size; have := b.size; omega), b3.size⟩ : Keeps lim G W' w3);clear b3 c1;gi_wp2;go_roundw
    case rel =>
     refine ⟨j + 1, _, _, by go_num, rfl, by omega, ?_, b, h⟩;rw [← o.out, show n - j = (n - (j + 1)) + 1 by omega, Za]; simp
    case measure => simp [intOf]; omega
  · obtain rfl : j = n := by omega
    gi_wp2;go_end0
    refine ⟨⟨_, rfl⟩, .inl ⟨_, ?_, h⟩⟩;have := o.out;rw [Nn] at this;rw [Hn.out, ← this]; simp [Za]
end Go.Proofs.YtdcmppdhdcjpfaaGreat
namespace Go.Proofs.YtdcmppdhdcjpfaaGreat
open Go.RowKit Go.Deep
attribute [local go_sem] Oper.semAt_some
theorem Z7 : (Tryz.prog.info? 3).map (fun i => (i.zero, i.size, i.bytes)) = some (some (.int .i64 0), 1, 8) := by kernel_rfl
def Qi (l : List Int) : List Value := l.map (Value.int .i64)
theorem Kz (l : List Int) : (Qi l).length = l.length := by simp [Qi]
theorem JQ (a b : List Int) : Qi (a ++ b) = Qi a ++ Qi b := by simp [Qi]
theorem Jt (l : List Int) : ∀ u ∈ Qi l, u.oneCell' = true := by
 intro u b;simp only [Qi, LJ] at b;obtain ⟨x, _, rfl⟩ := b; rfl
theorem QH {w : World} {base size n g : Nat} {e : TypeId} {v : Value} {xs : List Value} (h : w.ownsRow base e size v n xs) (hv : v.ownBlock = some g) : base ≤ g := by
 rcases h.2 with ⟨rfl, _⟩ | ⟨d, b, c, rfl, i, _⟩
 · simp [Value.ownBlock] at hv
 · simp [Value.ownBlock] at hv; omega
theorem QK {w : World} {base base' size n : Nat} {e : TypeId} {v : Value} {xs : List Value} (h : w.ownsRow base e size v n xs) (hb : base' ≤ base) : w.ownsRow base' e size v n xs := by
 refine ⟨h.1, ?_⟩;rcases h.2 with g | ⟨d, b, c, rfl, i, j⟩
 · exact .inl g
 · exact .inr ⟨d, b, c, rfl, Li hb i, j⟩
structure KidsFn (A : Option Addr) (cap : Nat) (l : List Nd) (p : Int) (w w' : World) (e : Ending) : Prop where
 ex : ∃ bl ba, e = .returned (.func (.func 250) #[] #[.pointer (some ⟨ba, 0, none⟩), .pointer (some ⟨bl, 0, none⟩)]) ∧ Row w' bl 23 #[.slice A l.length cap] ∧ Row w' ba 3 #[.int .i64 p] ∧ w.heap.size ≤ bl ∧ w.heap.size ≤ ba ∧ Below w.heap.size w w'
theorem Ex (A : Option Addr) (cap : Nat) (l : List Nd) (p : Int) (w : World) : Calls Tryz.prog 206 #[.slice A l.length cap, .int .i64 p] w fun e w' => KidsFn A cap l p w w' e := by
 go_enter Tryz.func206, Tryz.ntmps206
 go_wp2_with (refine Qn _ _ rfl ?_)
 refine Stop.to ?_;refine Qe rfl 23 _ rfl #[.slice A l.length cap] rfl ?_;intro m q d i c;go_wp2_with (refine Qn _ _ rfl ?_)
 refine Stop.to ?_;refine Qe rfl 3 _ rfl #[.int .i64 p] rfl ?_;intro k r b o g;have j := i.below g (Ld i.lt b);have h := ((Below.refl w.heap.size w).trans (c.mono d)).trans ((g.mono b).mono c.size |>.mono (by have := c.size; omega));have n : w.heap.size ≤ k := by have := c.size; omega
 clear i c g b;go_wp2
 go_ret
 exact ⟨m, k, rfl, j, o, d, n, h⟩
structure IntsR (xs : List Int) (w w' : World) (e : Ending) : Prop where
 ex : ∃ v, e = .returned v ∧ w'.ownsRow w.heap.size 3 1 v xs.length (Qi xs) ∧ Below w.heap.size w w'
theorem Yh (A : Option Addr) (cap : Nat) (l : List Nd) (at_ : Int) (w : World) (hr : Rd w A (l.flatMap Nd.cells)) (hl : l.length ≤ 1000) :
 Calls Tryz.prog 121 #[.slice A l.length cap, .int .i64 at_] w fun e w' => IntsR (kidsZ l at_) w w' e := by
 obtain ⟨i0, al, ao, ap, aq⟩ := info_parts Z7;have He := JW A cap l at_ w hr hl;have Hr := Lh hr;have Hl := Lh hl;clear hr hl;by_cases y : endZ l at_ < 0
 · have Hk : Hid (kidsZ l at_ = []) := by show _ = _; unfold kidsZ; rw [if_pos y]
   go_enter Tryz.func121, Tryz.ntmps121
   go_wp2_with fail
   refine He.mono ?_;rintro e w1 ⟨rfl, b1⟩;clear He;go_wp2
   go_ret
   exact ⟨_, rfl, by rw [Hk.out]; exact World.ownsRow_nil _ _ _ _, b1⟩
 obtain ⟨t, s, an⟩ := KZ (by omega : 0 ≤ endZ l at_);obtain ⟨p, rfl⟩ : ∃ p : Nat, at_ = (p : Int) := ⟨at_.toNat, by omega⟩;rw [Lg] at s;have Hx := Lh s.root
 have Hk : Hid (kidsZ l (p : Int) = Za l (Qq t.root).toNat (p + 1)) := by
  show _ = _; unfold kidsZ; rw [if_neg y, Lg, s.root]; rfl
 have am : 0 ≤ endZ l (p : Int) := by omega
 have ar : decide (endZ l (p : Int) < 0) = false := by simp; omega
 have hb := JB t.root;clear s an y;refine (callsIn_wide (n := 0)).1 ?_;refine callsIn_of_wp_marks Tryz.func121 rfl trivial ?_;simp only [Tryz.ntmps121, Lk, Lc, Lr, Nat.reduceAdd, Nat.reduceSub, Ll, Lm, Lu, L7, Lp, Ln];gi_wp2_with fail
 refine ⟨trivial, rfl, (callsIn_wide.2 He).mono ?_⟩;rintro e w1 ⟨rfl, b1⟩;clear He;have ac : Hid (Rd w1 A (l.flatMap Nd.cells)) := Hr.out.go b1;gi_wp2_with fail
 have rg := Row.new w1 22 #[.slice none 0 0];have b2 := b1.alloc b1.size (.cells #[.slice none 0 0] 22);have aa : Hid (Rd (w1.alloc (.cells #[.slice none 0 0] 22)) A (l.flatMap Nd.cells)) := St.alloc (S := fun W => Rd W A (l.flatMap Nd.cells)) ac.out _;have lg : w1.heap.size < (w1.alloc (.cells #[.slice none 0 0] 22)).heap.size := rg.lt;have gG : w.heap.size ≤ w1.heap.size := b1.size;generalize w1.alloc (.cells #[.slice none 0 0] 22) = w2 at rg b2 lg aa ⊢;generalize w1.heap.size = G at rg lg gG ⊢;clear b1 ac;refine ⟨trivial, rfl, (callsIn_wide.2 (Ex A cap l (p : Int) w2)).mono ?_⟩;rintro e w3 ⟨bl, ba, rfl, rl, ra, ak, aj, b3⟩;have ag := rg.below b3 rg.lt;have ah : Hid (Rd w3 A (l.flatMap Nd.cells)) := aa.out.go b3;have ae := b2.trans (b3.mono b2.size);obtain ⟨b, d⟩ : ∃ b, b = w3.heap.size := ⟨_, rfl⟩;have l1 : bl < b := by rw [d]; exact rl.lt
 have l2 : ba < b := by rw [d]; exact ra.lt
 have l3 : G < b := by rw [d]; exact ag.lt
 have l4 : w.heap.size ≤ b := by rw [d]; exact ae.size
 have l5 : bl ≠ G := by omega
 have l6 : ba ≠ G := by omega
 have j := Lh d;have ad := Lh (Aem bl ba b G A cap l p t.root w w3 Hr.out ah.out Hl.out Hx.out rl ra l1 l2 l5 l6 l4 gG (LG d));clear rg b2 b3 lg ak aj d rl ra aa;gi_wp2
 refine AbO (gf := 250) (lb := #[.pointer (some ⟨ba, 0, none⟩), .pointer (some ⟨bl, 0, none⟩)]) rfl (enters_of Tryz.func250 (by kernel_rfl) rfl) ad.out (fun r h => h.elim)
  (fun h k => h.trans k) (fun W m o o' hm ho hc => ⟨fun k hk _ => by rw [World.putObj_heap_other (by have := j.out; omega)], by simp⟩) (World.grownBy.refl _ _) (fun _ => rfl)
  (fun g W => ∃ v, Row W G 22 #[v] ∧ W.ownsRow b 3 1 v g.length (Qi g) ∧ Below w.heap.size w W ∧ b ≤ W.heap.size) (fun _ _ _ => False) ?hI ?hIx ⟨_, ag, World.ownsRow_nil _ _ _ _, ae, LG j.out⟩
  (fun x a' W => a' = { tmps := #[.slice A l.length cap, .int .i64 (p : Int), undef, undef, .slice none 0 0, .pointer (some ⟨G, 0, none⟩), .int .i64 x, .slice A l.length cap, .int .i64 (p : Int), .int .i64 (endZ l (p : Int)), .bool false, .slice A l.length cap, .int .i64 (p : Int), .func (.func 250) #[] #[.pointer (some ⟨ba, 0, none⟩), .pointer (some ⟨bl, 0, none⟩)], .int .i64 x, undef, undef, undef, undef, undef], defers := [] }) ?hAx ?assign ?body ?done ?stop
 case hI =>
  rintro g X Y row ⟨v, h1, h2, h3, h4⟩ u hr
  have z : ∀ r, row = some r → b ≤ r ∧ v.ownBlock ≠ some r := fun r e => by
   rcases hr r e with h | ⟨h, o, ho, hc⟩
   · exact h.elim
   · exact ⟨by have := j.out; omega, Ja h2 ho hc⟩
  refine ⟨v, h1.grown u (fun e => by have := (z G e).1; omega), h2.kept u ?_, h3.grown u h3.size (fun k e => by have := (z k e).1; omega), Li h4 u.size⟩;cases row with
  | none => cases v.ownBlock <;> simp
  | some r => exact .inr (z r rfl).2
 case hIx => exact fun _ _ _ _ _ h _ _ => h
 case hAx => exact fun x a' _ _ _ _ h _ _ => h
 case assign =>
  rintro lb g x W K hI hK;have HK := Lh hK;clear hK;gi_wp2;exact HK.out _ _ (KeepsFrom.refl _ _) ⟨fun _ _ _ => rfl, Nat.le_refl _⟩ hI rfl
 case body =>
  rintro lb g x a' W ax _ ⟨v, h1, h2, h3, h4⟩ rfl ay;have au : g.length < 300 := by omega
  have hc := h1.cellv (i := 0) (v := v) rfl;have hf := h1.free 0;have ha := h2.alloc (.cells #[.int .i64 x] 3);have HA := Lh ha;clear ha;gi_wp2_with (gi_at_builtin; refine wpListIn_append_own_at _ rfl (.tmp 15) (.tmp 17) 22 rfl b 3 i0 (.int .i64 0) 1 8 Tryz.underlying22 al ao ap aq rfl (by decide) v g.length (Qi g) rfl HA.out ⟨W.heap.size, 0, none⟩ 1 1 (Qi [x]) rfl rfl (Jj _ _ _) (Jt _) (by unfold maxLen; omega) (by omega) (by simp; omega) ?_);intro v' W3 q u _ s;have r3 := (h1.alloc (.cells #[.int .i64 x] 3)).grown u (QC HA.out (h1.alloc _) (by decide));have b3 := QO (h3.alloc h3.size _) HA.out u (by have := h3.size; simp; omega) l4;have k3 : KeepsFrom w3.heap.size W W3 := (KeepsFrom.alloc _ W (.cells #[.int .i64 x] 3)).trans (KeepsFrom.of_own HA.out u);have kp : Keeps b G W W3 := ⟨fun k hk _ => (u.block k (by simp; omega) (fun e => by have := QH HA.out e.symm; omega)).trans (Below.heap_alloc _ _ _ (by omega)), by have := u.size; simp at this; omega⟩;have s3 : b ≤ W3.heap.size := Li h4 kp.size;obtain ⟨A', m', c', rfl⟩ : ∃ A m c, v' = .slice A m c := ZY q;have av := r3.cellv (i := 0) (v := v) rfl;have aw := r3.free 0;have nG := QC q r3 (by decide);have ab := Lh q;clear q u s hc hf;gi_wp2;have o4 := Zk W3 G 0 (.slice A' m' c');refine ⟨k3.trans (KeepsFrom.of_only r3 o4), kp.trans ⟨fun k _ hk => o4.block k hk, LG o4.size.symm⟩, _, r3.set 0 _, ?_, Qp b3 o4 gG, Li s3 (LG o4.size.symm)⟩;have := QA ab.out o4 nG;rw [← JQ] at this;simpa using this
 case stop => exact fun D c g W _ _ h _ => h.elim
 case done =>
  rintro D ys W hD af ⟨v, h1, h2, h3, h4⟩ hK;have ai := Lh af;have hc := h1.cellv (i := 0) (v := v) rfl;have HK := Lh hK;clear hK af;gi_wp2;refine ⟨by simp, .inl ⟨_, _, rfl, run_takeDeferred HK.out, ?_⟩⟩;refine ⟨_, results_tmp rfl _ _ _, v, rfl, ?_, h3.grown (grownBy_putObj' _ _ _) h3.size (fun k e => by cases e; have := j.out; omega)⟩;rw [Hk.out, ← ai.out];exact QK ((h2.kept (grownBy_putObj' _ _ _) (.inr (Ja h2 HK.out rfl)))) l4
end Go.Proofs.YtdcmppdhdcjpfaaGreat
namespace Go.Proofs.YtdcmppdhdcjpfaaGreat
open Go.RowKit Go.Deep
theorem Yw {t n : Int} (h : ¬ (1 ≤ t ∧ t ≤ 26)) : Qq ⟨t, n⟩ = -1 := by
 unfold Qq;rw [if_neg (by dsimp only; omega)]
 have : Q2 ⟨t, n⟩ = (-1, -1) := by
  unfold Q2; dsimp only
  repeat (first | rw [if_pos (by omega)] | rw [if_neg (by omega)])
 rw [this];split <;> rfl
theorem X4 (x : Nd) (w : World) : Calls Tryz.prog 210 #[.agg x.cells.toArray] w fun e w' => e = .returned (.int .i64 (Qq x)) ∧ Below w.heap.size w w' := by
 obtain ⟨t, n⟩ := x;rw [show (Nd.cells ⟨t, n⟩).toArray = #[.int .i64 t, .int .i64 n] from rfl];go_enter Tryz.func210, Tryz.ntmps210
 go_wp2_with (refine Qn _ _ rfl ?_)
 refine Stop.to ?_;refine Qe rfl 85 _ rfl #[.int .i64 t, .int .i64 n] rfl ?_;intro G j d c b;have b := (Below.refl w.heap.size w).trans (b.mono d);have g := c.cellv (i := 0) (v := .int .i64 t) rfl;have h := c.cellv (i := 1) (v := .int .i64 n) rfl;clear c d;go_wp2
 all_goals (try (go_quiet (fail); go_wp2))
 all_goals (go_ret; refine ⟨Qo ?_, (by first | exact b | exact Zn b _)⟩; clear g h b; simp only [beq_iff_eq, beq_eq_false_iff_ne] at *; first | (subst_vars; first | rfl | (simp [Qq, Q2]; done) | (simp [Qq, Q2]; omega)) | exact Yw (by omega))
theorem KC (t : Int) (w : World) (ht : InI t) : Calls Tryz.prog 56 #[.int .i64 t] w fun e w' => e = .returned (.int .i64 (Qx t)) ∧ w = w' := by
 unfold InI at ht;by_cases h : 2 ≤ t ∧ t ≤ 9
 · obtain ⟨d, b⟩ := h;have c : Hid (Qx t = t - 1) := by show _ = _; unfold Qx; rw [if_pos ⟨d, b⟩]
   go_enter Tryz.func56, Tryz.ntmps56
   go_wp2
   go_ret
   exact ⟨Qo c.out, rfl⟩
 · have c : Hid (Qx t = 0) := by show _ = _; unfold Qx; rw [if_neg h]
   have b : t < 2 ∨ 9 < t := by omega
   clear h;rcases b with b | b
   all_goals
    go_enter Tryz.func56, Tryz.ntmps56
    go_wp2
    go_ret
    exact ⟨Qo c.out, rfl⟩
theorem Jf (t : Int) (w : World) (ht : InI t) : Calls Tryz.prog 141 #[.int .i64 t] w fun e w' => e = .returned (.int .i64 (Qx t)) ∧ w = w' := by
 unfold InI at ht;by_cases h : 2 ≤ t ∧ t ≤ 9
 · obtain ⟨d, b⟩ := h;have c : Hid (Qx t = t - 1) := by show _ = _; unfold Qx; rw [if_pos ⟨d, b⟩]
   go_enter Tryz.func141, Tryz.ntmps141
   go_wp2
   go_ret
   exact ⟨Qo c.out, rfl⟩
 · have c : Hid (Qx t = 0) := by show _ = _; unfold Qx; rw [if_neg h]
   have b : t < 2 ∨ 9 < t := by omega
   clear h;rcases b with b | b
   all_goals
    go_enter Tryz.func141, Tryz.ntmps141
    go_wp2
    go_ret
    exact ⟨Qo c.out, rfl⟩
theorem Kj (A : Option Addr) (cap : Nat) (l : List Nd) (at_ : Int) (w : World) (hr : Rd w A (l.flatMap Nd.cells)) (hl : l.length ≤ 1000) :
 Calls Tryz.prog 165 #[.slice A l.length cap, .int .i64 at_] w fun e w' => e = .returned (.int .i64 (endZ l at_)) ∧ Below w.heap.size w w' := by
 have Hr := Lh hr;have Hl := Lh hl;have b : Below w.heap.size w w := Below.refl _ _;clear hr hl;by_cases h0 : at_ < 0
 · have r := Lh (AcB (l := l) h0);go_enter Tryz.func165, Tryz.ntmps165
   go_wp2
   go_ret
   exact ⟨Qo r.out, b⟩
 obtain ⟨p, rfl⟩ : ∃ p : Nat, at_ = (p : Int) := ⟨at_.toNat, by omega⟩;by_cases d : l.length < p
 · have r : Hid (endZ l (p : Int) = -1) := by
    show _ = _;rw [Kv, Ny (by omega)]; rfl
   have ab : (l.length : Int) < (p : Int) := by omega
   clear d;go_enter Tryz.func165, Tryz.ntmps165
   go_wp2
   go_loopw [5, 6] (fun x i wr => x = .int .i64 1 ∧ i = .int .i64 (p : Int) ∧ wr = w) (fun _ _ _ => 0)
   case atStart => exact ⟨rfl, rfl, rfl⟩
   case round =>
    obtain ⟨rfl, rfl, rfl⟩ := hrel;go_wp2
    go_ret
    exact ⟨Qo r.out, b⟩
 go_enter Tryz.func165, Tryz.ntmps165
 go_wp2
 go_loopw [5, 6] (fun x i wr => ∃ (k m : Nat), x = .int .i64 (m : Int) ∧ i = .int .i64 (k : Int) ∧ p ≤ k ∧ k ≤ l.length ∧ 0 < m ∧ m ≤ 1 + 200 * k ∧ Jq (l.drop p) 1 = (Jq (l.drop k) m).map (· + (k - p)) ∧ Below w.heap.size w wr) (fun _ i _ => l.length - (intOf i).toNat)
 case atStart => exact ⟨p, 1, rfl, rfl, Nat.le_refl _, by omega, by omega, by omega, by simp, b⟩
 case round =>
  obtain ⟨k, m, rfl, rfl, ah, ae, af, hm, he, n⟩ := hrel;have j := Lh he;have hl := Hl.out;clear he d b;by_cases h : k < l.length
  · obtain ⟨x, u⟩ : ∃ x, l[k]? = some x := ⟨_, La h⟩;have t := Lh (UN u (m - 1));obtain ⟨ad, s, z⟩ := Z9 (Hr.out.go n) u;have Hc := Lh z;have hb := JB x;have aa : (k : Int) < (l.length : Int) := by omega
    clear u z h;subst s;go_wp2_with (refine QE rfl 85 _ rfl (ad.add (k * 2)) rfl x.cells _ Hc.out Tryz.underlying85 rfl (by kernel_rfl) ?_)
    refine (X4 x wr).mono ?_;rintro e w2 ⟨rfl, b2⟩;have g := n.trans (b2.mono n.size);by_cases hn : Qq x < 0
    · go_wp2
      go_ret
      refine ⟨Qo ?_, g⟩;rw [Kv, j.out, show m = m - 1 + 1 by omega, t.out, if_pos hn]; rfl
    · obtain ⟨q, o⟩ : ∃ q : Nat, Qq x = (q : Int) := ⟨(Qq x).toNat, by omega⟩;have Hq := Lh o;rw [o] at hb;rw [o];have ag : 0 ≤ (q : Int) := by omega
      clear hn o
      have y : Jq (l.drop p) 1 = (Jq (l.drop (k + 1)) (m - 1 + q)).map (· + (k + 1 - p)) := by
       rw [j.out, show m = m - 1 + 1 by omega, t.out, Hq.out, if_neg (by omega), Yj, Lg];congr 1; funext c; omega
      have v := Lh y;clear y j t;by_cases r : m - 1 + q = 0
      · obtain rfl : q = 0 := by omega
        obtain rfl : m = 1 := by omega
        go_wp2
        go_ret
        refine ⟨Qo ?_, g⟩;rw [UO v.out]; omega
      · have ai : ((m : Int) - 1 + (q : Int) == 0) = false := by simp; omega
        go_wp2
        go_roundw
        case rel => exact ⟨k + 1, m - 1 + q, ⟨by rw [show ((m - 1 + q : Nat) : Int) = (m : Int) - 1 + (q : Int) by omega], by go_num, by omega, by omega, by omega, by omega, v.out, g⟩⟩
        case measure => simp [intOf]; omega
  · have ac : (l.length : Int) ≤ (k : Int) := by omega
    obtain rfl : k = l.length := by omega
    go_wp2
    go_ret
    refine ⟨Qo ?_, n⟩;rw [Kv, j.out, show m = m - 1 + 1 by omega, List.drop_length]; rfl
theorem Yp (A : Option Addr) (cap : Nat) (l : List Nd) (at_ : Int) (w : World) (hr : Rd w A (l.flatMap Nd.cells)) (hl : l.length ≤ 1000) :
 Calls Tryz.prog 212 #[.slice A l.length cap, .int .i64 at_] w fun e w' => IntsR (kidsZ l at_) w w' e := by
 obtain ⟨i0, am, ap, aq, ar⟩ := info_parts Z7;have He := Kj A cap l at_ w hr hl;have Hr := Lh hr;have Hl := Lh hl;clear hr hl;by_cases u : endZ l at_ < 0
 · have Hk : Hid (kidsZ l at_ = []) := by show _ = _; unfold kidsZ; rw [if_pos u]
   go_enter Tryz.func212, Tryz.ntmps212
   go_wp2_with fail
   refine He.mono ?_;rintro e w1 ⟨rfl, b1⟩;clear He;go_wp2
   go_ret
   exact ⟨_, rfl, by rw [Hk.out]; exact World.ownsRow_nil _ _ _ _, b1⟩
 obtain ⟨t, h, ao⟩ := KZ (by omega : 0 ≤ endZ l at_);obtain ⟨p, rfl⟩ : ∃ p : Nat, at_ = (p : Int) := ⟨at_.toNat, by omega⟩;rw [Lg] at h;have Hx := Lh h.root;have s : Qq t.root = (t.kids.length : Int) := h.fits.arity
 have Hk : Hid (kidsZ l (p : Int) = Za l t.kids.length (p + 1)) := by
  show _ = _; unfold kidsZ; rw [if_neg u, Lg, h.root, LN, s]; rfl
 have an : 0 ≤ endZ l (p : Int) := by omega
 have hb := JB t.root;have ay : (p : Int) < (l.length : Int) := by have := h.lt; omega
 have ax := Hl.out;generalize t.kids.length = n at s Hk;rw [s] at hb;have ai := Lh s;clear h ao u s;go_enter Tryz.func212, Tryz.ntmps212
 go_wp2_with fail
 refine He.mono ?_;rintro e w1 ⟨rfl, b1⟩;clear He;go_wp2
 go_loopw [5, 6, 7] (fun v kk i wr => ∃ (vv : Value) (j : Nat) (k : Int) (b : List Int), vv = v ∧ i = .int .i64 (j : Int) ∧ kk = .int .i64 k ∧ j ≤ n ∧ b.length = j ∧ b ++ Za l (n - j) k = Za l n (p + 1) ∧ wr.ownsRow w.heap.size 3 1 v b.length (Qi b) ∧ Below w.heap.size w wr) (fun _ _ i _ => n - (intOf i).toNat)
 case atStart => exact ⟨_, 0, _, [], rfl, rfl, rfl, Nat.zero_le _, rfl, by simp, World.ownsRow_nil _ _ _ _, b1⟩
 case round =>
  clear b1 w1;obtain ⟨v, j, k, b, rfl, rfl, rfl, aw, aa, ab, d, bw⟩ := hrel;have z := Lh ab;have y := Lh aa;have hd := Hr.out.go bw;have af := Lh hd;obtain ⟨ad, al, hc⟩ := Z9 hd Hx.out;have Hc := Lh hc;have g := Lh d;clear hc ab hd aa d;subst al;go_wp2_with (refine QE rfl 85 _ rfl (ad.add (p * 2)) rfl t.root.cells _ Hc.out Tryz.underlying85 rfl (by kernel_rfl) ?_)
  refine (X4 t.root wr).mono ?_;rintro e w2 ⟨rfl, b2⟩;rw [ai.out];have r := bw.trans (b2.mono bw.size);have ag := af.out.go b2;have x := Qz g.out b2;have q := Lh x;have aj := Lh ag;clear af g x ag b2 bw;by_cases au : j < n
  · have ha := q.out.alloc (.cells #[.int .i64 k] 3);have HA := Lh ha;clear ha;have av : b.length < 300 := by have := y.out; omega
    go_wp2_with (at_builtin; refine wpList_append_own_at _ rfl (.tmp 23) (.tmp 25) 22 rfl w.heap.size 3 i0 (.int .i64 0) 1 8 Tryz.underlying22 am ap aq ar rfl (by decide) v b.length (Qi b) rfl HA.out ⟨w2.heap.size, 0, none⟩ 1 1 (Qi [k]) rfl rfl (Jj _ _ _) (Jt _) (by unfold maxLen; omega) (by omega) (by have := r.size; simp; omega) ?_)
    intro v' W3 d hg _ h;have ae := QO (r.alloc r.size _) HA.out hg (by have := r.size; simp; omega) (Nat.le_refl _);have ah : Rd W3 (some ad) (l.flatMap Nd.cells) := Hr.out.go ae;obtain ⟨A', m', c', rfl⟩ : ∃ A m c, v' = .slice A m c := ZY d;have g := Lh d;clear d hg h aj;go_wp2_with fail
    refine (Kj (some ad) cap l k W3 ah Hl.out).mono ?_;rintro e w4 ⟨rfl, b4⟩;have ak := ae.trans (b4.mono ae.size);have o := Qz g.out b4;rw [← JQ] at o;have ac := Lh o;clear ah b4 g o;go_wp2
    go_roundw
    case rel =>
     refine ⟨_, j + 1, _, b ++ [k], rfl, by go_num, rfl, by omega, by simp [y.out], ?_, ?_, ak⟩
     · rw [← z.out, show n - j = (n - (j + 1)) + 1 by omega, Za]; simp
     · have := ac.out; simpa using this
    case measure => simp [intOf]; omega
  · obtain rfl : j = n := by omega
    go_wp2
    go_ret
    refine ⟨_, rfl, ?_, r⟩;have : Za l j (p + 1) = b := by rw [← z.out, Nn]; simp [Za]
    rw [Hk.out, this]; exact q.out
end Go.Proofs.YtdcmppdhdcjpfaaGreat
