/- Lemmas for RunnerJustP. -/
import Derived.Test.YtkoikjnlpifbjaaGreatZb1
import Derived.Test.YtkoikjnlpifbjaaGreatZb25
import Derived.Test.YtkoikjnlpifbjaaGreatZb26
import Derived.Test.YtkoikjnlpifbjaaGreatZb31
import Derived.Test.YtkoikjnlpifbjaaGreatZb33
import Derived.Test.YtkoikjnlpifbjaaGreatZb19
import Derived.Test.YtkoikjnlpifbjaaGreatZb18
import Derived.Test.YtkoikjnlpifbjaaGreatZb21
set_option linter.unusedVariables false
set_option linter.unusedSimpArgs false
set_option maxRecDepth 100000
set_option maxHeartbeats 16000000
namespace Go.Proofs.YtkoikjnlpifbjaaGreat
open Go.RowKit Go.Deep
theorem Je {p q : PgV} (h1 : p.params = q.params) (h2 : p.V = q.V) (h3 : p.body = q.body) {t : Tr} : Good p t ↔ Good q t := by
 obtain ⟨a, b, c, d, e, f, g⟩ := p;obtain ⟨i, j, k, l, m, n, o⟩ := q;simp only at h1 h2 h3;subst h1 h2 h3;exact ⟨fun h => ⟨h.hat, h.size, h.vars, h.tag, h.kind⟩, fun h => ⟨h.hat, h.size, h.vars, h.tag, h.kind⟩⟩
theorem Ul {p q : PgV} (h1 : p.params = q.params) (h2 : p.V = q.V) (h3 : p.body = q.body) (n : Nat) (fuel : Int) : Zs p n fuel = Zs q n fuel := by
 by_cases h : ∃ t, Good p t
 · obtain ⟨t, b⟩ := h;rw [JL b, JL ((Je h1 h2 h3).1 b), h1]
 · rw [JM fun t b => h ⟨t, b⟩, JM fun t b => h ⟨t, (Je h1 h2 h3).2 b⟩]
theorem E6 {p q : PgV} (h1 : p.params = q.params) (h2 : p.V = q.V) (h3 : p.body = q.body) (args : List Int) (fuel : Int) : QR p args fuel = QR q args fuel := by
 have d := Ul h1 h2 h3 args.length fuel
 have c : ∀ s, IsRun p args fuel s ↔ IsRun q args fuel s := fun s => by
  unfold IsRun;rw [h2];exact ⟨fun ⟨t, v, s', a, b⟩ => ⟨t, v, s', (Je h1 h2 h3).1 a, b⟩, fun ⟨t, v, s', a, b⟩ => ⟨t, v, s', (Je h1 h2 h3).2 a, b⟩⟩
 by_cases h : Zs p args.length fuel = 0
 · by_cases k : ∃ s, IsRun p args fuel s
   · obtain ⟨s, k⟩ := k;rw [Ab3 h k, Ab3 (d ▸ h) ((c s).1 k)]
   · unfold QR;rw [dif_neg (fun x => k x.2), dif_neg (fun x => k (x.2.imp fun s g => (c s).2 g))]
 · rw [UL h, UL (fun e => h (d.trans e))]
noncomputable def rnZ (p : PgV) (fuel : Int) (args : List Int) : Rn := ⟨((QR p args fuel).out.getD (0, 0)).1, ((QR p args fuel).out.getD (0, 0)).2, Yi ((QR p args fuel).rv none 0)⟩
theorem XT {p q : PgV} (h1 : p.params = q.params) (h2 : p.V = q.V) (h3 : p.body = q.body) (fuel : Int) : rnZ p fuel = rnZ q fuel := by
 funext args;unfold rnZ;rw [E6 h1 h2 h3]
noncomputable def KG (p : PgV) (d : Dl) : PgV := ⟨p.params, none, 0, p.V, none, 0, mutB p d⟩
theorem IsMut.rn {p m : PgV} {d : Dl} (h : IsMut p d m) (fuel : Int) : rnZ m fuel = rnZ (KG p d) fuel := XT (q := KG p d) h.par h.vars h.body fuel
theorem IsMut.run {p m : PgV} {d : Dl} (h : IsMut p d m) (args : List Int) (fuel : Int) : QR m args fuel = QR (KG p d) args fuel := E6 (q := KG p d) h.par h.vars h.body args fuel
noncomputable def QW (p : PgV) (d : Dl) (ts : List (List Int)) (fuel : Int) : Mt := QZ (rnZ p fuel) (rnZ (KG p d) fuel) d ts
noncomputable def Ze (p : PgV) (ts : List (List Int)) (fuel : Int) : Int := if QI p ≠ 0 then QI p else ZR p.params ts fuel
noncomputable def ZW (p : PgV) (d : Dl) (ts : List (List Int)) (fuel : Int) : Int := if Ze p ts fuel ≠ 0 then Ze p ts fuel else mutC p d
theorem XV {params fuel : Int} {ts : List (List Int)} (h : ZR params ts fuel = 0) : 1 ≤ ts.length ∧ ts.length ≤ 20 ∧ (∀ l ∈ ts, (l.length : Int) = params) ∧ 1 ≤ fuel ∧ fuel ≤ 10000 := by
 unfold ZR at h;split at h
 · cases h
 · split at h
   · split at h
     · cases h
     · rename_i c b d;exact ⟨by omega, by omega, b, by omega, by omega⟩
   · cases h
section
variable {α : Type} {f g : α → Rn}
theorem Afy {pre rest : List α} {x : α} : ((pre ++ x :: rest).map g).getD pre.length ⟨0, 0, []⟩ = g x := by
 rw [LX, L6, L8 (Nat.le_refl _), NN]; rfl
theorem Km {pre rest : List α} : Q2 f g (pre ++ rest) = Q2 f g pre ++ Q2 f g rest := by unfold Q2; rw [LT]
theorem Vj {pre : List α} : (Q2 f g pre).length = pre.length := by unfold Q2; simp
theorem Y7 {d : Dl} {pre rest : List α} {x : α} (h1 : (1 : Int) ∉ Q2 f g pre) (hx : Q9 (f x) (g x) = 1) : QZ f g d (pre ++ x :: rest) = ⟨d, 1, (pre.length : Int), (g x).kind, (g x).value, (g x).dig⟩ := by
 have e : Q2 f g (pre ++ x :: rest) = Q2 f g pre ++ 1 :: Q2 f g rest := by rw [Km]; unfold Q2; rw [LQ, hx]
 unfold QZ Ads;rw [e, Aki _ h1, Vj, if_neg (by simp)];simp only [L1, Afy]
theorem EE {d : Dl} {pre : List α} {x : α} (h1 : (1 : Int) ∉ Q2 f g pre) (h2 : (2 : Int) ∉ Q2 f g pre) (hx : Q9 (f x) (g x) = 2) : QZ f g d (pre ++ [x]) = ⟨d, 2, (pre.length : Int), (g x).kind, (g x).value, (g x).dig⟩ := by
 have e : Q2 f g (pre ++ [x]) = Q2 f g pre ++ [2] := by rw [Km]; unfold Q2; rw [LQ, hx, Np]
 unfold QZ Ads;rw [e, Akj h1 h2, Vj, if_neg (by simp)];simp only [L1, Afy]
theorem Y3 {d : Dl} {pre : List α} {x : α} (h1 : (1 : Int) ∉ Q2 f g pre) (hx1 : ¬ Q9 (f x) (g x) = 1) (hx2 : Q9 (f x) (g x) = 2 → ¬ (QZ f g d pre).verdict = 0) : QZ f g d (pre ++ [x]) = QZ f g d pre := by
 have e : Q2 f g (pre ++ [x]) = Q2 f g pre ++ [Q9 (f x) (g x)] := by rw [Km]; unfold Q2; rw [LQ, Np]
 have k : ZG (Q2 f g (pre ++ [x])) = ZG (Q2 f g pre) := by
  rw [e];by_cases c : Q9 (f x) (g x) = 2
  · have j := hx2 c;rw [X5] at j
    have m : (2 : Int) ∈ Q2 f g pre := by
     by_cases h : (2 : Int) ∈ Q2 f g pre
     · exact h
     · exact absurd (best_v0.2 ⟨h1, h⟩) j
    exact AiX h1 m hx1
  · exact Akh hx1 c
 by_cases b : (ZG (Q2 f g pre)).1 = 0
 · rw [Ut b, Ut (by rw [k]; exact b)]
 · unfold QZ Ads;rw [k, if_neg b, if_neg b];obtain ⟨i, hi, l, _⟩ := Afq b;rw [hi, L1, Ahz (by rw [Vj] at l; exact l)]
end
theorem PgV.ok.kx {p : PgV} {X : Nat → Prop} {W W' : World} (h : p.ok W) (hv : Qj p.V ≠ [] → ∀ ad, p.va = some ad → ¬ X ad.block) (hb : p.body.flatMap Nd.cells ≠ [] → ∀ ad, p.ba = some ad → ¬ X ad.block) (k : KpX X W W') : p.ok W' :=
 ⟨h.par, h.vlen, h.vmax, h.vnil, k.rd h.vrd hv, h.vin, h.blen, h.bmax, h.bnil, k.rd h.brd hb, h.bin⟩
structure MutR (p : PgV) (d : Dl) (w w' : World) (e : Ending) : Prop where
 ex : ∃ m : PgV, e = .returned (.tuple #[.agg m.cells, .int .i64 (mutC p d)]) ∧ (mutC p d = 0 → IsMut p d m ∧ m.ok w' ∧ m.body.length ≤ p.body.length + 1 ∧ ∀ ad, m.va = some ad ∨ m.ba = some ad → w.heap.size ≤ ad.block) ∧ (mutC p d ≠ 0 → m = ⟨0, none, 0, [], none, 0, []⟩) ∧ Below w.heap.size w w'
theorem Adx (p : PgV) (x : DlV) (w : World) (hok : p.ok w) (hbl : p.body.length ≤ 1000) (hc : QI p ≠ 0) :
 Calls Tryz.prog 21 #[.agg p.cells, .agg x.cells] w fun e w' => e = .returned (.tuple #[.agg (PgV.mk 0 none 0 [] none 0 []).cells, .int .i64 (QI p)]) ∧ Below w.heap.size w w' := by
 have HS : Hid (∀ W, Below w.heap.size w W → Calls Tryz.prog 15 #[.agg p.cells] W fun e w' => AllR p W w' e) := fun W b => KQ p hbl W (hok.go b);obtain ⟨c, d⟩ : ∃ c, c = QI p := ⟨_, rfl⟩;have y := Lv d;rw [← d] at hc ⊢;have ac : (c != 0) = true := by simpa using hc
 clear hok hbl d hc;go_enter Tryz.func21, Tryz.ntmps21
 go_wp2_with (refine Qm _ _ rfl ?_)
 refine Stop.to ?_;refine Qe rfl 25 _ rfl p.cells rfl ?_;intro G Gw Gh v Gb;go_wp2_with (refine Qm _ _ rfl ?_)
 refine Stop.to ?_;refine Qe rfl 50 _ rfl x.cells rfl ?_;intro D Dw t u s;go_wp2_with (first | fail | (refine QE _ rfl ?_))
 refine Stop.to ?_;refine Qi rfl 25 rfl _ _ XZ rfl ?_;intro R Rw g Rr n;have z := (Below.refl w.heap.size w).trans (Gb.mono Gh);have o := z.trans ((s.mono t).mono z.size);have q := o.trans ((n.mono g).mono o.size);have hR : w.heap.size ≤ R := Li o.size g;have rG := (v.below s (Lg v.lt t));have l := rG.below n (Lg rG.lt g);have rD := u.below n (Lg u.lt g);have m : Row Rw R 25 #[.int .i64 0, .slice none 0 0, .slice none 0 0] := Rr;have H1 := Lv (HS.out _ q);clear v Gb Gh u s t n g rG z o Rr HS;go_wp2_with (refine wpList_load_row rfl 25 _ rfl G rfl 25 p.cells (0, 0) _ l Tryz.underlying25 rfl (by kernel_rfl) ?_)
 refine H1.out.mono ?_;rintro e w1 ⟨A, ab, xs, rfl, aa, h, k, hT, j, _, i, b4⟩;rw [← y.out];have b5 := q.trans (b4.mono q.size);replace m := m.below b4 m.lt;clear H1 aa h k hT j i b4 q l rD;go_wp2_with (refine Qp 25 _ _ rfl ?_)
 refine Stop.to ?_;refine Qk rfl 25 _ _ rfl R (PgV.mk 0 none 0 [] none 0 []).cells rfl rfl 25 _ m (by kernel_rfl) rfl (by simp [PgV.cells, Value.oneCell']) ?_;intro W9 r9 o9;have bE := Ql b5 o9 hR;clear b5 o9 m;go_wp2_with fail
 refine bodyPost_ret (QN Tryz.results21 _ _ R 25 _ (0, 0) _ rfl r9 Tryz.underlying25 rfl (by kernel_rfl)) rfl ?_;exact ⟨rfl, bE⟩
theorem Adw (p : PgV) (t : Tr) (x : DlV) (w : World) (hok : p.ok w) (hx : DlOk w x) (hbl : p.body.length ≤ 1000) (hg : Fine p t) (hd : x.d ∉ Q8 p.body t) :
 Calls Tryz.prog 21 #[.agg p.cells, .agg x.cells] w fun e w' => e = .returned (.tuple #[.agg (PgV.mk 0 none 0 [] none 0 []).cells, .int .i64 17]) ∧ Below w.heap.size w w' := by
 have HS : Hid (∀ W, Below w.heap.size w W → Calls Tryz.prog 15 #[.agg p.cells] W fun e w' => AllR p W w' e) := fun W b => KQ p hbl W (hok.go b);have HX : Hid (∀ W, Below w.heap.size w W → DlOk W x) := fun W b => ⟨hx.1.go b, hx.2⟩;have Hd := Lv hd;have Hg := Lv hg;have Hc := Lv (checkP_ok.2 ⟨t, hg⟩);clear hok hx hbl hg hd;go_enter Tryz.func21, Tryz.ntmps21
 go_wp2_with (refine Qm _ _ rfl ?_)
 refine Stop.to ?_;refine Qe rfl 25 _ rfl p.cells rfl ?_;intro G Gw Gh Gr Gb;go_wp2_with (refine Qm _ _ rfl ?_)
 refine Stop.to ?_;refine Qe rfl 50 _ rfl x.cells rfl ?_;intro D Dw Dh Dr Db;go_wp2_with (first | fail | (refine QE _ rfl ?_))
 refine Stop.to ?_;refine Qi rfl 25 rfl _ _ XZ rfl ?_;intro R Rw l Rr v;have b1 := (Below.refl w.heap.size w).trans (Gb.mono Gh);have z := b1.trans ((Db.mono Dh).mono b1.size);have b3 := z.trans ((v.mono l).mono z.size);have hR : w.heap.size ≤ R := Li z.size l;have rG := (Gr.below Db (Lg Gr.lt Dh));have u := rG.below v (Lg rG.lt l);have s := Dr.below v (Lg Dr.lt l);have i : Row Rw R 25 #[.int .i64 0, .slice none 0 0, .slice none 0 0] := Rr;have H1 := Lv (HS.out _ b3);clear Gr Gb Gh Dr Db Dh v l rG b1 z Rr HS;go_wp2_with (refine wpList_load_row rfl 25 _ rfl G rfl 25 p.cells (0, 0) _ u Tryz.underlying25 rfl (by kernel_rfl) ?_)
 refine H1.out.mono ?_;rintro e w1 ⟨A, aa, xs, rfl, q, m, o, hT, g, _, n, b4⟩;rw [Hc.out];have c := g t Hg.out;have b5 := b3.trans (b4.mono b3.size);replace s := s.below b4 s.lt;replace i := i.below b4 i.lt;have j := Lv (Ez A aa xs x w1 q (by omega) (fun y hy => (hT y hy).ok) (HX.out _ b5) (by rw [c]; exact YJ _ _));have k : Hid (¬ x.d ∈ xs.map DlV.d) := by show ¬ _; rw [c]; exact Hd.out
 clear H1 q m o hT g c n b4 b3;go_wp2_with (refine wpList_load_row rfl 50 _ rfl D rfl 50 x.cells (0, 0) _ s Tryz.underlying50 rfl (by kernel_rfl) ?_)
 refine j.out.mono ?_;rintro e w2 ⟨⟨r, rfl, hr⟩, b6⟩
 have ab : r < 0 := by
  by_cases h : 0 ≤ r
  · exact absurd (hr.1 h) k.out
  · omega
 have b7 := b5.trans (b6.mono b5.size);replace i := i.below b6 i.lt;clear j k hr b6 b5 HX s u;go_wp2_with (refine Qp 25 _ _ rfl ?_)
 refine Stop.to ?_;refine Qk rfl 25 _ _ rfl R (PgV.mk 0 none 0 [] none 0 []).cells rfl rfl 25 _ i (by kernel_rfl) rfl (by simp [PgV.cells, Value.oneCell']) ?_;intro W9 r9 o9;have bE := Ql b7 o9 hR;clear b7 o9 i;go_wp2_with fail
 refine bodyPost_ret (QN Tryz.results21 _ _ R 25 _ (0, 0) _ rfl r9 Tryz.underlying25 rfl (by kernel_rfl)) rfl ?_;exact ⟨rfl, bE⟩
theorem Y9 (p : PgV) (x : DlV) (w : World) (hok : p.ok w) (hx : DlOk w x) (hbl : p.body.length ≤ 1000) :
 Calls Tryz.prog 21 #[.agg p.cells, .agg x.cells] w fun e w' => MutR p x.d w w' e := by
 by_cases j : QI p = 0
 · obtain ⟨t, g⟩ := checkP_ok.1 j;by_cases i : x.d ∈ Q8 p.body t
   · obtain ⟨q, k, l, _, s⟩ := AeS p t x w hok hx hbl g i (AeT p hbl);obtain ⟨v, y⟩ := AcA g.good i l hok.bin;have c := AeR g i;have u := VN g l;refine s.mono fun e w' h => ?_
     obtain ⟨m, o, ⟨z, m2, n⟩, m4, m6, m5⟩ := h.okm hok v;exact ⟨m, by rw [c]; exact o, fun _ => ⟨⟨z, m2, n.trans u.symm⟩, m4, by rw [n]; exact y, m6⟩, fun h => absurd c h, m5⟩
   · have c := Aju g i;refine (Adw p t x w hok hx hbl g i).mono ?_;rintro e w' ⟨rfl, b⟩;exact ⟨_, by rw [c], fun h => (by rw [c] at h; cases h), fun _ => rfl, b⟩
 · have c := Akp (d := x.d) j;refine (Adx p x w hok hbl j).mono ?_;rintro e w' ⟨rfl, b⟩;exact ⟨_, by rw [c], fun h => absurd (c.symm.trans h) j, fun _ => rfl, b⟩
theorem Ae7 {p : PgV} {args : List Int} {fuel : Int} {w : World} (hok : p.ok w) (hin : ∀ a ∈ args, InI a) :
 InI ((QR p args fuel).out.getD (0, 0)).1 ∧ InI ((QR p args fuel).out.getD (0, 0)).2 ∧ InI ((QR p args fuel).steps : Int) ∧ ∀ e ∈ (QR p args fuel).evs, e.ok := by
 by_cases d : Zs p args.length fuel = 0
 · obtain ⟨t, v, h, b⟩ := UK hok hin d;have hi := (b.big.inv (b.okO : okG p.V (.one t)) b.init).1;have m := b.steps;obtain ⟨_, _, _, l⟩ := Xp d;rw [b.eq]
   have c : OkS p.V (h.stopped 3 0) := by
    unfold Ms.stopped;split
    · exact hi
    · exact hi.stop (.inr ⟨by omega, by omega, rfl⟩)
   refine ⟨?_, ?_, by rw [AaH]; unfold InI; omega, fun e g => (c.evs e g).ok⟩
   · cases ho : (h.stopped 3 0).out with
     | none => exact Jc
     | some o =>
      obtain ⟨k, x⟩ := o;rcases c.out k x ho with ⟨rfl, _⟩ | ⟨i, j, _⟩
      · exact Jc
      · show InI k; unfold InI; omega
   · cases ho : (h.stopped 3 0).out with
     | none => exact Jc
     | some o =>
      obtain ⟨k, x⟩ := o;rcases c.out k x ho with ⟨_, i⟩ | ⟨_, _, rfl⟩
      · exact i
      · exact Jc
 · rw [UL d];exact ⟨Jc, Jc, Jc, fun e g => by simp [AiF] at g⟩
theorem Akd {p : PgV} {args : List Int} {fuel : Int} {w W : World} {A : Option Addr} {c : Nat} (hok : p.ok w) (hin : ∀ a ∈ args, InI a) (hle : (QR p args fuel).evs.length ≤ c) (hmx : c ≤ maxLen) (hni : A = none → c = 0) (hrd : Rd3 ((QR p args fuel).rv A c) W) : ((QR p args fuel).rv A c).ok W := by
 obtain ⟨b, d, e, g⟩ := Ae7 (fuel := fuel) hok hin;exact ⟨b, d, e, hle, hmx, hni, hrd, g⟩
attribute [local go_sem] Oper.semAt_some
theorem Ady (k v k' v' : Int) (W : World) : (binOp .neq 52 (.agg (Xn k v).toArray) (.agg (Xn k' v').toArray)).run Tryz.prog W = .ok (.bool (!(k == k' && v == v'))) W := by
 unfold Xn;simp [go_sem];by_cases b : k = k' <;> by_cases c : v = v' <;> simp [b, c]
def Rn.cells (r : Rn) : Array Value := (Xn r.kind r.value).toArray
theorem Abu (b r : Rn) (w : World) : Calls Tryz.prog 54 #[.agg b.cells, .agg r.cells] w fun e w' => e = .returned (.int .i64 (Q9 b r)) ∧ Below w.heap.size w w' := by
 go_enter Tryz.func54, Tryz.ntmps54
 go_wp2_with (refine Qm _ _ rfl ?_)
 refine Stop.to ?_;refine Qe rfl 52 _ rfl b.cells rfl ?_;intro G Gw x j u;go_wp2_with (refine Qm _ _ rfl ?_)
 refine Stop.to ?_;refine Qe rfl 52 _ rfl r.cells rfl ?_;intro J Jw q s p;have t := (Below.refl w.heap.size w).trans (u.mono x);have n := t.trans ((p.mono q).mono t.size);replace j := j.below p (Lg j.lt q);clear u x p q t;have y := j.cellv (i := 0) (v := .int .i64 b.kind) rfl;have z := s.cellv (i := 0) (v := .int .i64 r.kind) rfl;by_cases g : b.kind = 4
 · have e1 : (b.kind == 4) = true := by simpa using g
   have d : Hid (Q9 b r = 0) := by show _ = _; unfold Q9; rw [if_pos g]
   rw [g] at y;clear g;go_wp2_with fail
   go_ret
   exact ⟨by rw [d.out]; rfl, n⟩
 have e1 : (b.kind == 4) = false := by simpa using g
 by_cases l : r.kind = 4
 · have d : Hid (Q9 b r = 2) := by show _ = _; unfold Q9; rw [if_neg g, if_pos l]
   rw [l] at z;clear l;go_wp2_with fail
   go_ret
   exact ⟨by rw [d.out]; rfl, n⟩
 have e2 : (r.kind == 4) = false := by simpa using l
 have k := Ady r.kind r.value b.kind b.value;have d : Hid (Q9 b r = if r.kind = b.kind ∧ r.value = b.value then 0 else 1) := by show _ = _; unfold Q9; rw [if_neg g, if_neg l]
 by_cases h : r.kind = b.kind ∧ r.value = b.value
 · rw [if_pos h] at d;have m : (!(r.kind == b.kind && r.value == b.value)) = false := by simp [h.1, h.2]
   rw [m] at k;have o := Lv k;clear h m k;go_wp2_with (first | (refine wpList_load_row rfl 52 _ rfl J rfl 52 r.cells (0, 0) _ s Tryz.underlying52 rfl (by kernel_rfl) ?_) | (refine wpList_load_row rfl 52 _ rfl G rfl 52 b.cells (0, 0) _ j Tryz.underlying52 rfl (by kernel_rfl) ?_) | (refine Zc rfl _ (YB rfl _ (run_eqGuard_agg _ _ _ _ _ _ _ (by kernel_rfl)) (o.out _)) ?_))
   go_ret
   exact ⟨by rw [d.out]; rfl, n⟩
 · rw [if_neg h] at d
   have m : (!(r.kind == b.kind && r.value == b.value)) = true := by
    by_cases a : r.kind = b.kind
    · have : ¬ r.value = b.value := fun c => h ⟨a, c⟩
      simp [a, this]
    · simp [a]
   rw [m] at k;have o := Lv k;clear h m k;go_wp2_with (first | (refine wpList_load_row rfl 52 _ rfl J rfl 52 r.cells (0, 0) _ s Tryz.underlying52 rfl (by kernel_rfl) ?_) | (refine wpList_load_row rfl 52 _ rfl G rfl 52 b.cells (0, 0) _ j Tryz.underlying52 rfl (by kernel_rfl) ?_) | (refine Zc rfl _ (YB rfl _ (run_eqGuard_agg _ _ _ _ _ _ _ (by kernel_rfl)) (o.out _)) ?_))
   go_ret
   exact ⟨by rw [d.out]; rfl, n⟩
structure RunsFn (p : PgV) (A : Option Addr) (n cap : Nat) (fuel : Int) (w w' : World) (e : Ending) : Prop where
 ex : ∃ bt bp bf, e = .returned (.func (.func 83) #[] #[.pointer (some ⟨bt, 0, none⟩), .pointer (some ⟨bp, 0, none⟩), .pointer (some ⟨bf, 0, none⟩)]) ∧ Row w' bt 26 #[.slice A n cap] ∧ Row w' bp 25 p.cells ∧ Row w' bf 3 #[.int .i64 fuel] ∧ w.heap.size ≤ bt ∧ w.heap.size ≤ bp ∧ w.heap.size ≤ bf ∧ Below w.heap.size w w'
theorem Aad (p : PgV) (A : Option Addr) (n cap : Nat) (fuel : Int) (w : World) :
 Calls Tryz.prog 53 #[.agg p.cells, .slice A n cap, .int .i64 fuel] w fun e w' => RunsFn p A n cap fuel w w' e := by
 go_enter Tryz.func53, Tryz.ntmps53
 go_wp2_with (refine Qm _ _ rfl ?_)
 refine Stop.to ?_;refine Qe rfl 25 _ rfl p.cells rfl ?_;intro G x m b l;go_wp2_with (refine Qm _ _ rfl ?_)
 refine Stop.to ?_;refine Qe rfl 26 _ rfl #[.slice A n cap] rfl ?_;intro J y i j c;go_wp2_with (refine Qm _ _ rfl ?_)
 refine Stop.to ?_;refine Qe rfl 3 _ rfl #[.int .i64 fuel] rfl ?_;intro K z k o d;have u := (b.below c (Lg b.lt i)).below d (by have := b.lt; have := c.size; omega);have v := j.below d (Lg j.lt k);have g := (Below.refl w.heap.size w).trans (l.mono m);have h := g.trans ((c.mono i).mono g.size);have q := h.trans ((d.mono k).mono h.size);have s : w.heap.size ≤ J := Li g.size i;have t : w.heap.size ≤ K := Li h.size k;clear b j l c d g h;go_wp2
 go_ret
 exact ⟨J, G, K, rfl, v, u, o, s, m, t, q⟩
structure RnX where
 i : Nat
 r : RunV
def RnX.enc (x : RnX) : Array Value := #[.int .i64 (x.i : Int), x.r.val]
def RnP (p : PgV) (fuel : Int) (ts : List (List Int)) (pre : List RnX) (x : RnX) (W : World) : Prop := x.i = pre.length ∧ (∃ l, ts[pre.length]? = some l ∧ ∃ A c, x.r = (QR p l fuel).rv A c) ∧ x.r.ok W ∧ x.r.evs.length ≤ 10000
structure RunsC (p : PgV) (A : Option Addr) (cap : Nat) (ts : List IntsV) (fuel : Int) (X : Nat → Prop) (bt bp bf : Nat) (W : World) : Prop where
 ok : p.ok W
 xv : Qj p.V ≠ [] → ∀ ad, p.va = some ad → ¬ X ad.block
 xb : p.body.flatMap Nd.cells ≠ [] → ∀ ad, p.ba = some ad → ¬ X ad.block
 rt : Rd W A (Ji ts)
 xt : Ji ts ≠ [] → ∀ ad, A = some ad → ¬ X ad.block
 ot : ∀ x ∈ ts, x.ok W
 xo : ∀ x ∈ ts, Qj x.l ≠ [] → ∀ ad, x.addr = some ad → ¬ X ad.block
 r1 : Row W bt 26 #[.slice A ts.length cap]
 r2 : Row W bp 25 p.cells
 r3 : Row W bf 3 #[.int .i64 fuel]
 x1 : ¬ X bt
 x2 : ¬ X bp
 x3 : ¬ X bf
theorem IntsV.ok.kx {x : IntsV} {X : Nat → Prop} {W W' : World} (h : x.ok W) (hx : Qj x.l ≠ [] → ∀ ad, x.addr = some ad → ¬ X ad.block) (k : KpX X W W') : x.ok W' := ⟨h.len, h.cap, h.nil, k.rd h.reads hx, h.all⟩
theorem RunsC.kx {p : PgV} {A : Option Addr} {cap : Nat} {ts : List IntsV} {fuel : Int} {X : Nat → Prop} {bt bp bf : Nat} {W W' : World} (h : RunsC p A cap ts fuel X bt bp bf W) (k : KpX X W W') : RunsC p A cap ts fuel X bt bp bf W' :=
 ⟨h.ok.kx h.xv h.xb k, h.xv, h.xb, k.rd h.rt h.xt, h.xt, fun x hx => (h.ot x hx).kx (h.xo x hx) k, h.xo, k.row h.r1 h.x1, k.row h.r2 h.x2, k.row h.r3 h.x3, h.x1, h.x2, h.x3⟩
theorem RunsC.add {p : PgV} {A : Option Addr} {cap : Nat} {ts : List IntsV} {fuel : Int} {X : Nat → Prop} {bt bp bf : Nat} {w W : World} {lb : Nat} (h : RunsC p A cap ts fuel X bt bp bf w) (b : Below w.heap.size w W) (h1 : w.heap.size ≤ lb) : RunsC p A cap ts fuel (fun i => X i ∨ i = lb) bt bp bf W := by
 have d := h.kx (KpX.of_below b)
 have c : ∀ {xs : List Value} {ad : Option Addr}, Rd w ad xs → (xs ≠ [] → ∀ a, ad = some a → ¬ X a.block) → (xs ≠ [] → ∀ a, ad = some a → ¬ (X a.block ∨ a.block = lb)) := fun m j l a e => by
  have := Xe m l e;rintro (k | k)
  · exact j l a e k
  · omega
 have n : ∀ {g : Nat} {t : TypeId} {cs : Array Value}, Row w g t cs → ¬ X g → ¬ (X g ∨ g = lb) := fun m j => by
  have := m.lt;rintro (k | k)
  · exact j k
  · omega
 exact ⟨d.ok, c h.ok.vrd h.xv, c h.ok.brd h.xb, d.rt, c h.rt h.xt, d.ot, fun x j => c (h.ot x j).reads (h.xo x j), d.r1, d.r2, d.r3, n h.r1 h.x1, n h.r2 h.x2, n h.r3 h.x3⟩
theorem RunsC.of {p : PgV} {A : Option Addr} {cap : Nat} {ts : List IntsV} {fuel : Int} {X : Nat → Prop} {bt bp bf lim : Nat} {w0 W : World} (hX : ∀ k, X k → lim ≤ k) (hs : w0.heap.size ≤ lim) (hok : p.ok w0) (hr : Rd w0 A (Ji ts)) (ho : ∀ x ∈ ts, x.ok w0) (b : Below w0.heap.size w0 W)
 (r1 : Row W bt 26 #[.slice A ts.length cap]) (r2 : Row W bp 25 p.cells) (r3 : Row W bf 3 #[.int .i64 fuel]) (x1 : ¬ X bt) (x2 : ¬ X bp) (x3 : ¬ X bf) : RunsC p A cap ts fuel X bt bp bf W := by
 have c : ∀ {xs : List Value} {ad : Option Addr}, Rd w0 ad xs → (xs ≠ [] → ∀ a, ad = some a → ¬ X a.block) := fun h g a e d => by
  have i := Xe h g e;have j := hX _ d;omega
 exact ⟨hok.go b, c hok.vrd, c hok.brd, hr.go b, c hr, fun x d => (ho x d).go b, fun x d => c (ho x d).reads, r1, r2, r3, x1, x2, x3⟩
def RnX.rn (x : RnX) : Rn := ⟨x.r.kind, x.r.value, Yi x.r⟩
theorem RnP.rn {p : PgV} {fuel : Int} {ts : List (List Int)} {pre : List RnX} {x : RnX} {W : World} (h : RnP p fuel ts pre x W) : ∃ l, ts[pre.length]? = some l ∧ x.rn = rnZ p fuel l := by
 obtain ⟨_, ⟨l, b, A, c, e⟩, _, _⟩ := h;exact ⟨l, b, by unfold RnX.rn; rw [e]; rfl⟩
def JD (l : List Rn) : List Value := l.flatMap fun r => r.cells.toList
theorem AeW (l : List Rn) (r : Rn) : JD (l ++ [r]) = JD l ++ r.cells.toList := by simp [JD]
end Go.Proofs.YtkoikjnlpifbjaaGreat
namespace Go.Proofs.YtkoikjnlpifbjaaGreat
open Go.RowKit Go.Deep
def Agw (x : DlV) (v i : Int) (r : RunV) : MtV := ⟨x.A, x.cap, ⟨x.d, v, i, r.kind, r.value, Yi r⟩⟩
structure NoteR (M : Nat) (y : MtV) (w w' : World) (e : Ending) : Prop where
 ex : e = .returned (.tuple #[]) ∧ Row w' M 54 y.cells.toArray ∧ ∃ w1, Below w.heap.size w w1 ∧ Only M w1 w'
theorem AdB (x : DlV) (v i : Int) (r : RunV) (D M : Nat) (cur : Array Value) (w : World) (hD : Row w D 50 x.cells) (hM : Row w M 54 cur) (hsz : cur.size = 8) (hok : r.ok w) (hl : r.evs.length ≤ 10000) :
 Calls Tryz.prog 51 #[.int .i64 v, .int .i64 i, r.val, .pointer (some ⟨D, 0, none⟩), .pointer (some ⟨M, 0, none⟩)] w fun e w' => NoteR M (Agw x v i r) w w' e := by
 rw [show r.val = .agg r.cells from rfl];have d : ∀ W : World, (Instr.build 54 #[(0, .agg x.cells), (1, .int .i64 v), (2, .int .i64 i), (3, .agg (Xn r.kind r.value).toArray), (4, .string ⟨(Yi r).toArray⟩)]).run Tryz.prog W = .ok (.agg (Agw x v i r).cells.toArray) W := fun W => by kernel_rfl
 go_enter Tryz.func51, Tryz.ntmps51
 go_wp2_with (refine Qm _ _ rfl ?_)
 refine Stop.to ?_;refine Qe rfl 114 _ rfl r.cells rfl ?_;intro G Gw q s p;have g := (Below.refl w.heap.size w).trans (p.mono q);have k := hD.lt;have m := hM.lt;have j := hD.below g k;have l := hM.below g m;obtain ⟨S, b⟩ : ∃ S, S = (fun W => (Row W D 50 x.cells ∧ Row W M 54 cur) ∧ (Row W G 114 r.cells ∧ r.ok W) ∧ Below w.heap.size w W) := ⟨_, rfl⟩;have o : St S := by rw [b]; infer_instance
 have u : Hid (∀ W, S W → Row W D 50 x.cells) := by show ∀ W, _; rw [b]; exact fun W h => h.1.1
 have y : Hid (∀ W, S W → Row W M 54 cur) := by show ∀ W, _; rw [b]; exact fun W h => h.1.2
 have n : Hid (∀ W, S W → Row W G 114 r.cells) := by show ∀ W, _; rw [b]; exact fun W h => h.2.1.1
 have z : Hid (∀ W, S W → r.ok W) := by show ∀ W, _; rw [b]; exact fun W h => h.2.1.2
 have t : Hid (∀ W, S W → Below w.heap.size w W) := by show ∀ W, _; rw [b]; exact fun W h => h.2.2
 have hS : S Gw := by rw [b]; exact ⟨⟨j, l⟩, ⟨s, St.go (S := fun W => r.ok W) hok g⟩, g⟩
 clear b hD hM hok k m j l s p q g;go_wp2_with fail
 refine ZA S 8 (by kernel_rfl) (by kernel_rfl) (St.drew hS) ?_;clear hS;simp only [LF, LP, LE, LL];(refine Zd rfl 50 _ rfl (D) rfl 50 _ _ u.out Tryz.underlying50 rfl (by kernel_rfl) ?_; simp only [Act.put, Qa, Qb, Qc])
 iterate 3 (refine Qg rfl ?_ (fun W c => ?_) ?_; rotate_left; (focus (go_simp; exact rfl)); simp only [Act.put, Qa, Qb, Qc])
 (refine Zl rfl 52 _ rfl (⟨G, 0, none⟩) rfl (Xn r.kind r.value) _ (fun W c => KW (n.out W c)) Tryz.underlying52 rfl (by kernel_rfl) ?_; simp only [Act.put, Qa, Qb, Qc]);(refine Zd rfl 114 _ rfl (G) rfl 114 _ _ n.out Tryz.underlying114 rfl (by kernel_rfl) ?_; simp only [Act.put, Qa, Qb, Qc]);(refine QG rfl 52 _ (fun W => by (go_simp; try rfl)) (.string ⟨(Yi r).toArray⟩) (fun W c => Yb r W (z.out W c) hl) ?_; simp only [Act.put, Qa, Qb, Qc])
 (refine Qg rfl (.agg (Agw x v i r).cells.toArray) (fun W c => ZK 54 [_, _, _, _, _] rfl _ (by exact d W)) ?_; simp only [Act.put, Qa, Qb, Qc]);refine QS fun W c => ?_
 have rM := y.out W c;have bW := t.out W c;clear c u y n z t o d;go_wp2_with (refine Qp 54 _ _ rfl ?_)
 refine Stop.to ?_;refine Qk rfl 54 _ _ rfl M (Agw x v i r).cells.toArray rfl rfl 54 _ rM (by kernel_rfl) hsz (by simp [Agw, MtV.cells, Value.oneCell']) ?_;intro W2 r2 o2;have HF : Hid (NoteR M (Agw x v i r) w W2 (.returned (.tuple #[]))) := ⟨rfl, r2, W, bW, o2⟩;clear rM bW r2 o2;go_wp2_with fail
 refine bodyPost_end (results_none rfl _ _ _) rfl ?_;exact HF.out
attribute [local go_sem] Oper.semAt_some
theorem Aac (p : PgV) (hbl : p.body.length ≤ 1000) (A : Option Addr) (cap : Nat) (ts : List IntsV) (hl : ts.length ≤ 1000) (hn : ∀ x ∈ ts, x.l.length ≤ 1000) (fuel : Int) (X : Nat → Prop) (bt bp bf : Nat) (w : World) (hC : RunsC p A cap ts fuel X bt bp bf w) :
 VX Tryz.prog 83 #[.pointer (some ⟨bt, 0, none⟩), .pointer (some ⟨bp, 0, none⟩), .pointer (some ⟨bf, 0, none⟩)] RnX.enc (fun _ => False) (fun lb => KpX (fun i => X i ∨ i = lb)) (RnP p fuel (ts.map IntsV.l)) (fun xs => xs.length = ts.length) (fun _ => True) ts.length True w := by
 intro lb J Jx W ar h _ hJ a9 hY h0;have al : Below w.heap.size w W := ⟨h.os, h.tape, h.output, h.size, fun k hk => h.block k hk (by simp)⟩;have q := hC.add al ar.1;clear hC ar al h w;have aa : ∀ b x W1, J b W1 → RnP p fuel (ts.map IntsV.l) b x W1 → b.length < ts.length → YieldAt Fence.wide 0 Tryz.prog lb #[.int .i64 (x.i : Int), x.r.val] W1 fun e W' => (e = .returned (.bool true) ∧ J (b ++ [x]) W' ∧ KpX (fun i => X i ∨ i = lb) W1 W') ∨ (e = .returned (.bool false) ∧ Jx (b ++ [x]) W' ∧ KpX (fun i => X i ∨ i = lb) W1 W') := hY;clear hY;generalize (fun i => X i ∨ i = lb) = X1 at q aa;obtain ⟨N, hN⟩ : ∃ N, N = ts.length := ⟨_, rfl⟩;have ba : (N : Int) ≤ 1000 := by omega
 have HN := Lv hN;have g := Lv q;have HJ := Lv hJ;have HY := Lv aa;have a1 := Lv hbl;have Hn := Lv hn;have j := q.r1.cellv (i := 0) (v := .slice A ts.length cap) rfl;rw [← hN] at j;clear hN q hJ aa hbl hn hl;refine callsIn_of_wp Tryz.func83 rfl trivial ?_ rfl;simp only [Tryz.ntmps83, Lm, Le, Lu, Nat.reduceAdd, Nat.reduceSub, Lk, Ll, Ly, LH, Lp, Ln];gi_wp2_with fail
 gi_loopw [11] (fun i wr => ∃ (k : Nat) (b : List RnX), i = .int .i64 (k : Int) ∧ k ≤ N ∧ Hid (b.length = k) ∧ Hid (RunsC p A cap ts fuel X1 bt bp bf wr) ∧ J b wr) (fun i _ => N - (intOf i).toNat)
 case atStart => exact ⟨0, [], by simp, Nat.zero_le _, Lv rfl, g, h0⟩
 case round =>
  clear h0 j g;obtain ⟨k, b, rfl, bc, d, g, hj⟩ := hrel;by_cases a6 : k < N;rotate_left
  · obtain rfl : k = N := by omega
    gi_wp2_with fail
    go_end0
    exact ⟨⟨_, rfl⟩, .inl ⟨_, d.out.trans HN.out, hj⟩⟩
  obtain ⟨x, hx⟩ : ∃ x, ts[k]? = some x := ⟨_, La (by have := HN.out; omega)⟩;obtain ⟨ad, a3, am⟩ := Kj g.out.rt hx;subst a3;have n := Lj hx;have Hx := Lv hx;have an : wr.cell? (ad.add k) = some (.slice x.addr x.l.length x.cap) := am;have bb : (k : Int) < (N : Int) := by omega
  have u := Lv (AkS p x.addr x.cap x.l fuel wr a1.out (Hn.out x n) g.out.ok (g.out.ot x n).reads (g.out.ot x n).all);have aj := Lv (fun (W : World) (t : Option Addr) (j : Nat) h1 h2 h3 h4 => Akd (p := p) (args := x.l) (fuel := fuel) (w := wr) (W := W) (A := t) (c := j) g.out.ok (g.out.ot x n).all h1 h2 h3 h4);have r2 := g.out.r2;have c3 := g.out.r3.cellv (i := 0) (v := .int .i64 fuel) rfl;clear hx am n;gi_wp2_with (refine Q7 rfl 25 _ rfl bp rfl 25 p.cells (0, 0) _ r2 Tryz.underlying25 rfl (by kernel_rfl) ?_);refine ⟨trivial, rfl, (callsIn_wide.2 u.out).mono ?_⟩;rintro e z ⟨t, j, rfl, ax, au, av, aw, b1⟩;have ab := aj.out z t j au av aw ax;have a4 := AjK p x.l fuel;have m : ((QR p x.l fuel).rv t j).evs.length ≤ 10000 := Ab5 p x.l fuel;obtain ⟨r, hr⟩ : ∃ r, r = (QR p x.l fuel).rv t j := ⟨_, rfl⟩;have ay : ∃ l, (ts.map IntsV.l)[k]? = some l ∧ ∃ A c, r = (QR p l fuel).rv A c := ⟨x.l, by rw [L6, Hx.out]; rfl, t, j, hr⟩;have a7 : Value.agg ((QR p x.l fuel).rv t j).cells = .agg r.cells := by rw [hr]
  rw [← hr] at ab m;rw [show (#[Value.int .i64 ((QR p x.l fuel).out.getD (0, 0)).1, .int .i64 ((QR p x.l fuel).out.getD (0, 0)).2, .int .i64 ((QR p x.l fuel).steps : Int), .slice t (QR p x.l fuel).evs.length j] : Array Value) = r.cells from by rw [hr]; rfl];have af := Lv (g.out.kx (KpX.of_below b1));replace hj := QH HJ.out hj b1;obtain ⟨cz, ao⟩ : ∃ c, c = Zs p x.l.length fuel := ⟨_, rfl⟩;rw [← ao];have ah := Lv ab;have ai := Lv ay;clear ay ab a4 hr a7 ax au av aw b1 ao g u aj r2 c3 an;gi_wp2_with (refine KZ _ _ _ rfl ?_);refine Stop.to ?_;obtain ⟨D, hD⟩ : ∃ D, D = z.heap.size := ⟨_, rfl⟩;obtain ⟨w3, s⟩ : ∃ w3, w3 = z.alloc (.cells #[.int .i64 0, .int .i64 0, .int .i64 0, .slice none 0 0] 114) := ⟨_, rfl⟩;have ac : Row w3 D 114 #[.int .i64 0, .int .i64 0, .int .i64 0, .slice none 0 0] := by rw [s, hD]; exact Row.new _ _ _
  have b3 : Below z.heap.size z w3 := by rw [s]; exact (Below.refl _ _).alloc (Nat.le_refl _) _
  rw [← s, ← hD];have ak : z.heap.size ≤ D := LM hD.symm;clear s hD;refine Q5 rfl 114 _ _ rfl D r.cells rfl rfl 114 _ ac (by kernel_rfl) rfl (by simp [RunV.cells, Value.oneCell']) ?_;have ae := ac.setRow r.cells;have b4 : Below z.heap.size z (w3.setRow D r.cells) := Ql b3 (Zv _ _ _) ak;generalize w3.setRow D r.cells = w4 at ae b4 ⊢;have hP : RnP p fuel (ts.map IntsV.l) b ⟨k, r⟩ w4 := ⟨d.out.symm, by rw [d.out]; exact ai.out, St.go (S := fun W => r.ok W) ah.out b4, m⟩;have y : b.length < ts.length := by rw [d.out, ← HN.out]; exact a6
  have ap := QH HJ.out hj b4;obtain ⟨fn, az, o, body, hy, hR⟩ := HY.out _ ⟨k, r⟩ _ ap hP y;have HR := Lv hR;have ag := Lv (af.out.kx (KpX.of_below b4));have a2 : Hid ((b ++ [(⟨k, r⟩ : RnX)]).length = k + 1) := by show _ = _; rw [Lf, d.out]; rfl
  have a8 : (Instr.yield lb #[.int .i64 (k : Int), .agg r.cells]).run Tryz.prog w4 = .ok (.round lb fn az o body) w4 := hy;clear hP y ap hj hR b4 ac b3 ak d ai ah m af hy;gi_wp2_with (refine Q7 rfl 114 _ rfl D rfl 114 r.cells (0, 0) _ ae Tryz.underlying114 rfl (by kernel_rfl) ?_);refine ⟨rfl, HR.out.mono ?_⟩;clear a8 HR ae;rintro e W' (⟨rfl, hj, aq⟩ | ⟨rfl, a5, -⟩);rotate_left
  · gi_wp2_with fail
    refine bodyPost_ret (results_none rfl _ _ _) rfl ?_;exact ⟨⟨_, rfl⟩, .inr ⟨_, trivial, a5⟩⟩
  have a0 := Lv (ag.out.kx aq);clear ag aq;gi_wp2_with fail
  go_roundw
  case rel => exact ⟨k + 1, _, by go_num, by omega, a2, a0, hj⟩
  case measure => simp [intOf]; omega
end Go.Proofs.YtkoikjnlpifbjaaGreat
