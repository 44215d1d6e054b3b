/- Lemmas for VerdictTellsP. -/
import Derived.Test.YtdcmppdhdcjpfaaGreatZz1
import Derived.Test.YtdcmppdhdcjpfaaGreatZz30
import Derived.Test.YtdcmppdhdcjpfaaGreatZz31
import Derived.Test.YtdcmppdhdcjpfaaGreatZz29
set_option linter.unusedVariables false
set_option linter.unusedSimpArgs false
set_option maxRecDepth 100000
set_option maxHeartbeats 16000000
namespace Go.Proofs.YtdcmppdhdcjpfaaGreat
open Go.RowKit Go.Deep
theorem Kt {p : PgV} {n : Nat} {fuel : Int} (h : Zd p n fuel = 0) : ∃ t, Good p t ∧ (n : Int) = p.params ∧ 0 ≤ fuel ∧ fuel ≤ 10000 := by
 by_cases c : ∃ t, Good p t
 · obtain ⟨t, b⟩ := c;rw [Js b] at h;refine ⟨t, b, ?_⟩;split at h
   · cases h
   · split at h
     · cases h
     · omega
 · rw [ZN (fun t b => c ⟨t, b⟩)] at h; cases h
theorem Ag6 (p : PgV) (t : Tr) (aa : Option Addr) (acap : Nat) (args : List Int) (fuel : Int) (fin : Mm) (w : World) (hbl : p.body.length ≤ 1000) (hn : args.length ≤ 1000) (hok : p.ok w) (hra : Rd w aa (Qi args)) (hg : Good p t)
 (hc : Zd p args.length fuel = 0) (hfin : Reach (Z0 0 t ⟨ZH p.V args fuel.toNat, []⟩) fin) (ho : fin.s.out.isSome = true) :
 Calls Tryz.prog 20 #[.agg p.cells, .slice aa args.length acap, .int .i64 fuel] w fun e w' => RunR fin w w' e := by
 obtain ⟨_, _, d, g⟩ := Kt hc;exact Ag7 p t aa acap args fuel fin w hbl hn hok hg hc (fun w' c b => AfZ p aa acap args fuel w' hbl hn c hg.vars d g (hra.go b)) hfin ho
theorem Ac2 (p : PgV) (aa : Option Addr) (acap n : Nat) (fuel : Int) (w : World) (hbl : p.body.length ≤ 1000) (hn : n ≤ 1000) (hok : p.ok w) (hc : Zd p n fuel ≠ 0) :
 Calls Tryz.prog 20 #[.agg p.cells, .slice aa n acap, .int .i64 fuel] w fun e w' => e = .returned (.tuple #[.agg #[.int .i64 0, .int .i64 0, .int .i64 0, .slice none 0 0], .int .i64 (Zd p n fuel)]) ∧ Below w.heap.size w w' := by
 have o := Lh hok;have l := Lh hbl;have y := Lh hn;obtain ⟨s, d⟩ : ∃ s, Zd p n fuel = s := ⟨_, rfl⟩;have m := Lh d;rw [d] at hc ⊢;have ec : (s == 0) = false := by simpa using hc
 clear hok hbl hn d hc;go_enter Tryz.func20, Tryz.ntmps20
 go_wp2_with (refine Qn _ _ rfl ?_)
 refine Stop.to ?_;refine Qe rfl 25 _ rfl p.cells rfl ?_;intro G w1 u j g;replace g := (Below.refl w.heap.size w).trans (g.mono u);clear u;go_wp2_with (refine QT _ rfl ?_)
 refine Stop.to ?_;refine Qm rfl 40 rfl _ _ KY rfl ?_;intro RB w2 b v h;replace j := j.below (h.mono b) j.lt;have i : w.heap.size ≤ RB := Li g.size b;replace h := g.trans ((h.mono b).mono g.size);have t := Lh j;have c := Lh v;have k := Lh h;clear j g h v b;go_wp2_with fail
 refine wp_scope_straight ?_;go_wp2_with (refine wpList_load_row rfl 25 _ rfl G rfl 25 p.cells (0, 0) _ t.out Tryz.underlying25 rfl (by kernel_rfl) ?_)
 refine (EC p aa acap n fuel l.out y.out w2 (o.out.go k.out)).mono ?_;rintro e w3 ⟨rfl, r⟩;rw [m.out];have q := Lh (c.out.below r c.out.lt);have x := Lh (k.out.trans (r.mono k.out.size));clear r t c k;go_wp2_with (refine Qv _ _ _ rfl ?_)
 refine Stop.to ?_;refine Ql rfl 40 _ _ rfl RB #[.int .i64 0, .int .i64 0, .int .i64 0, .slice none 0 0] rfl rfl 40 _ q.out (by kernel_rfl) rfl (YD 0 0 0 rfl) ?_;intro W9 r9 z;go_wp2_with fail
 rw [Exit.noGoto_ret];refine bodyPost_ret (QN Tryz.results20 _ _ RB 40 _ (0, 0) _ rfl r9 Tryz.underlying40 rfl (by kernel_rfl)) rfl ?_;exact ⟨rfl, Qp x.out z i⟩
theorem AgE {L : Lay} : ∀ {t : Tr} {ts : List Tr} {s s1 s2 : Ms} {v : Int}, Ent L t s v s1 → AaD L ts s1 s2 → AaD L (t :: ts) s s2 := fun h1 h2 => ⟨_, _, h1, h2⟩
def Aj8 (L : Lay) : Gl → Ms → Int → Ms → Prop
 | .one t, s, v, s' => Ent L t s v s'
 | .all ts, s, _, s' => AaD L ts s s'
theorem Aim {V : List Int} {x : Nd} {ks : List Tr} (h : okO V (.node x ks)) : ks.length ≤ 1000 := by
 have b := h.1.arity;have c := JB x;simp only [Tr.root, Tr.kids] at b;omega
theorem Yx {V : List Int} {x : Nd} {ks : List Tr} (hg : okO V (.node x ks)) (ht : x.tag = 4 ∨ x.tag = 22) : 0 ≤ x.n ∧ ∃ t, V[x.n.toNat]? = some t := by
 obtain ⟨k, d, e⟩ := Qu hg;cases d <;> first | omega | skip
 all_goals (rename_i b t c _ _; first | exact ⟨b, t, c⟩ | skip)
 all_goals (rename_i b _ _ _; first | exact ⟨by assumption, _, by assumption⟩)
theorem Big.ent (L : Lay) (hL : ROk L) {g : Gl} {s s' : Ms} {v : Int} (h : Big g s v s') : okG L.p.V g → OkS L.p.V s → s.evs.length ≤ s.steps → Aj8 L g s v s' := by
 induction h with
 | nil s => exact fun _ _ _ => rfl
 | cons t ts s s1 s2 v u h1 o i1 i2 =>
  intro d e l;have y := (d t (by simp)).1;exact AgE (i1 y e l) (i2 (fun k y => d k (by simp [y])) (h1.inv y e).1 (by have := h1.ext.few; omega))
 | over t s h => exact fun _ _ _ => AjN L hL t s h
 | empty t s h h0 => exact fun _ _ _ => Ajh L hL t s h h0
 | lit x s h ht => exact fun _ _ _ => Xf L hL _ _ _ _ _ h (.lit ht rfl)
 | var x s h ht =>
  intro d e _;obtain ⟨k, sh, y⟩ := Qu d
  have : 0 ≤ x.n ∧ x.n.toNat < s.vals.length := by
   cases sh <;> first | omega | skip
   rename_i w m ab;exact ⟨w, by rw [e.vlen]; exact (Lb.1 m).1⟩
  exact Xf L hL _ _ _ _ _ h (.var ht this.1 this.2 rfl)
 | skip x s h ht => exact fun _ _ _ => Xf L hL _ _ _ _ _ h (.skip ht)
 | block x ks s s1 u h ht h1 i1 =>
  intro d e l;obtain ⟨k, sh, y⟩ := Qu d;have ac : ∀ k ∈ ks, ofT L.p.V k = 2 := by cases sh <;> first | omega | assumption
  exact Xf L hL _ _ _ _ _ h (.block ht (Aim d) (i1 (fun k y => ⟨Qk d y, ac k y⟩) e.tick (by simp only [Ms.tick]; omega)))
 | cut x a ks s s1 v h ht h1 ho i1 => exact fun d e l => Xf L hL _ _ _ _ _ h (.kid (i1 (Qk d (by simp)) e.tick (by simp only [Ms.tick]; omega)) (.cut ht ho))
 | atNo x a s s1 v h ht h1 ho hb i1 =>
  intro d e l;obtain ⟨w, t, m⟩ := Yx d (.inl ht);exact Xf L hL _ _ _ _ _ h (.kid (i1 (Qk d (by simp)) e.tick (by simp only [Ms.tick]; omega)) (.atNo ht w m (h1.inv (Qk d (by simp) : okG _ (.one a)) e.tick).1.lens ho hb))
 | at_ x a s s1 v h ht h1 ho hb i1 =>
  intro d e l;obtain ⟨w, t, m⟩ := Yx d (.inl ht);exact Xf L hL _ _ _ _ _ h (.kid (i1 (Qk d (by simp)) e.tick (by simp only [Ms.tick]; omega)) (.at_ ht w m (h1.inv (Qk d (by simp) : okG _ (.one a)) e.tick).1.lens ho hb rfl))
 | neg x a s s1 v h ht h1 ho i1 => exact fun d e l => Xf L hL _ _ _ _ _ h (.kid (i1 (Qk d (by simp)) e.tick (by simp only [Ms.tick]; omega)) (.neg ht ho rfl))
 | not x a s s1 v h ht h1 ho i1 =>
  intro d e l;have j := Qk d (k := a) (by simp);obtain ⟨k, sh, y⟩ := Qu d;have aa : ofT L.p.V a = 1 := by cases sh <;> first | omega | assumption
  exact Xf L hL _ _ _ _ _ h (.kid (i1 j e.tick (by simp only [Ms.tick]; omega)) (.not ht ho ((h1.inv (j : okG _ (.one a)) e.tick).2.2 ho a rfl aa) rfl))
 | and0 x a b s s1 h ht h1 ho i1 => exact fun d e l => Xf L hL _ _ _ _ _ h (.kid (i1 (Qk d (by simp)) e.tick (by simp only [Ms.tick]; omega)) (.log0 (.inl ⟨ht, rfl, rfl⟩) ho))
 | and1 x a b s s1 s2 v u h ht h1 ho m o i1 i2 =>
  intro d e l;have j := Qk d (k := a) (by simp);have i : s.tick.evs.length ≤ s.tick.steps := by simp only [Ms.tick]; omega
  exact Xf L hL _ _ _ _ _ h (.kid (i1 j e.tick i) (.log1 (.inl ⟨ht, by simpa using m⟩) ho (i2 (Qk d (by simp)) (h1.inv (j : okG _ (.one a)) e.tick).1 (by have := h1.ext.few; omega))))
 | or1 x a b s s1 h ht h1 ho i1 => exact fun d e l => Xf L hL _ _ _ _ _ h (.kid (i1 (Qk d (by simp)) e.tick (by simp only [Ms.tick]; omega)) (.log0 (.inr ⟨ht, rfl, rfl⟩) ho))
 | or0 x a b s s1 s2 v u h ht h1 ho m o i1 i2 =>
  intro d e l;have j := Qk d (k := a) (by simp);have i : s.tick.evs.length ≤ s.tick.steps := by simp only [Ms.tick]; omega
  exact Xf L hL _ _ _ _ _ h (.kid (i1 j e.tick i) (.log1 (.inr ⟨ht, by simpa using m⟩) ho (i2 (Qk d (by simp)) (h1.inv (j : okG _ (.one a)) e.tick).1 (by have := h1.ext.few; omega))))
 | set x a s s1 v h ht h1 ho i1 =>
  intro d e l;have j := Qk d (k := a) (by simp);obtain ⟨k, sh, y⟩ := Qu d
  have w : 0 ≤ x.n ∧ x.n.toNat < s1.vals.length := by
   cases sh <;> first | omega | skip
   rename_i w t m ab ad;exact ⟨w, by rw [(h1.inv (j : okG _ (.one a)) e.tick).1.vlen]; exact (Lb.1 m).1⟩
  have i : s.tick.evs.length < s.tick.steps := by simp only [Ms.tick]; omega
  exact Xf L hL _ _ _ _ _ h (.kid (i1 j e.tick (Nat.le_of_lt i)) (.set ht w.1 w.2 (by have := h1.ext.few; omega) ho))
 | ifs x a b c t s s1 s2 v u h ht h1 ho m o i1 i2 =>
  intro d e l;have j := Qk d (k := a) (by simp);have i : s.tick.evs.length ≤ s.tick.steps := by simp only [Ms.tick]; omega
  obtain ⟨k, sh, y⟩ := Qu d;have aa : ofT L.p.V a = 1 := by cases sh <;> first | omega | assumption
  have hi := h1.inv (j : okG _ (.one a)) e.tick;have o := i2 (Qk d (Lf m)) hi.1 (by have := h1.ext.few; omega);refine Xf L hL _ _ _ _ _ h (.kid (i1 j e.tick i) (.ifs ht ho ?_));rcases hi.2.2 ho a rfl aa with rfl | rfl
  · obtain rfl : c = t := by simpa using m
    exact .inl ⟨rfl, o⟩
  · obtain rfl : b = t := by simpa using m
    exact .inr ⟨rfl, o⟩
 | while0 x a b s s1 v h ht h1 ho m i1 => exact fun d e l => Xf L hL _ _ _ _ _ h (.kid (i1 (Qk d (by simp)) e.tick (by simp only [Ms.tick]; omega)) (.while0 ht ho m))
 | while1 x a b s s1 s2 s3 u r h ht h1 ho o h3 i1 i2 i3 =>
  intro d e l;have j := Qk d (k := a) (by simp);have hb := Qk d (k := b) (by simp);have i : s.tick.evs.length ≤ s.tick.steps := by simp only [Ms.tick]; omega
  have q := (h1.inv (j : okG _ (.one a)) e.tick).1;exact Xf L hL _ _ _ _ _ h (.kid (i1 j e.tick i) (.while1 ht ho rfl (i2 hb q (by have := h1.ext.few; omega)) (i3 d (o.inv (hb : okG _ (.one b)) q).1 (by have := h1.ext.few; have := o.ext.few; omega))))
 | ret x a s s1 v h ht h1 ho i1 => exact fun d e l => Xf L hL _ _ _ _ _ h (.kid (i1 (Qk d (by simp)) e.tick (by simp only [Ms.tick]; omega)) (.ret ht ho))
 | cut2 x a b s s1 s2 v u h ht h1 ho o ho2 i1 i2 =>
  intro d e l;have j := Qk d (k := a) (by simp);have i : s.tick.evs.length ≤ s.tick.steps := by simp only [Ms.tick]; omega
  exact Xf L hL _ _ _ _ _ h (.kid (i1 j e.tick i) (.cut2 ht ho (i2 (Qk d (by simp)) (h1.inv (j : okG _ (.one a)) e.tick).1 (by have := h1.ext.few; omega)) ho2))
 | putNo x a b s s1 s2 v u h ht h1 ho o ho2 hb i1 i2 =>
  intro d e l;have j := Qk d (k := a) (by simp);have z := Qk d (k := b) (by simp);have i : s.tick.evs.length ≤ s.tick.steps := by simp only [Ms.tick]; omega
  have q := (h1.inv (j : okG _ (.one a)) e.tick).1;obtain ⟨w, t, m⟩ := Yx d (.inr ht);exact Xf L hL _ _ _ _ _ h (.kid (i1 j e.tick i) (.putNo ht w m (o.inv (z : okG _ (.one b)) q).1.lens ho (i2 z q (by have := h1.ext.few; omega)) ho2 hb))
 | put x a b s s1 s2 v u h ht h1 ho o ho2 hb i1 i2 =>
  intro d e l;have j := Qk d (k := a) (by simp);have z := Qk d (k := b) (by simp);have i : s.tick.evs.length < s.tick.steps := by simp only [Ms.tick]; omega
  have q := (h1.inv (j : okG _ (.one a)) e.tick).1;obtain ⟨w, t, m⟩ := Yx d (.inr ht);exact Xf L hL _ _ _ _ _ h (.kid (i1 j e.tick (Nat.le_of_lt i)) (.put ht w m (o.inv (z : okG _ (.one b)) q).1.lens (by have := h1.ext.few; have := o.ext.few; omega) ho (i2 z q (by have := h1.ext.few; omega)) ho2 hb))
 | pairNo x a b s s1 s2 v u h ht h1 ho o ho2 hp i1 i2 =>
  intro d e l;have j := Qk d (k := a) (by simp);have i : s.tick.evs.length ≤ s.tick.steps := by simp only [Ms.tick]; omega
  exact Xf L hL _ _ _ _ _ h (.kid (i1 j e.tick i) (.pair ht ho (i2 (Qk d (by simp)) (h1.inv (j : okG _ (.one a)) e.tick).1 (by have := h1.ext.few; omega)) ho2 (.inr ⟨hp, rfl, rfl⟩)))
 | pair x a b s s1 s2 v u c h ht h1 ho o ho2 hp i1 i2 =>
  intro d e l;have j := Qk d (k := a) (by simp);have i : s.tick.evs.length ≤ s.tick.steps := by simp only [Ms.tick]; omega
  exact Xf L hL _ _ _ _ _ h (.kid (i1 j e.tick i) (.pair ht ho (i2 (Qk d (by simp)) (h1.inv (j : okG _ (.one a)) e.tick).1 (by have := h1.ext.few; omega)) ho2 (.inl ⟨hp, rfl⟩)))
end Go.Proofs.YtdcmppdhdcjpfaaGreat
