/- What a run comes to, as one function of a program, its arguments and its fuel; plain laws on it; machine.Run and the reference's Run come to it. Conditions: stated in each theorem. -/
import Derived.Test.YtlglilmgklipdaaRmF
import Derived.Test.YtlglilmgklipdaaPlA
namespace Go.Proofs.Ytlglilmgklipdaa
set_option linter.unusedVariables false
open Go.RowKit Go.Deep

theorem Big.det {t : Tr} {s a b : Ms} {u v : Int} (h : Big (.one t) s u a) (k : Big (.one t) s v b) : u = v ∧ a = b := by
  have h1 := h.ev (s.fuel + 1) (by omega)
  have h2 := k.ev (s.fuel + 1) (by omega)
  rw [h1] at h2
  exact ⟨congrArg Prod.fst h2, congrArg Prod.snd h2⟩
/-- A run as the relation tells it. -/
def IsRun (p : PgV) (args : List Int) (fuel : Int) (s : Ms) : Prop := ∃ t v s', Good p t ∧ Big (.one t) (initS p.V args fuel.toNat) v s' ∧ s = s'.stopped 3 0
theorem IsRun.det {p : PgV} {args : List Int} {fuel : Int} {a b : Ms} (h : IsRun p args fuel a) (k : IsRun p args fuel b) : a = b := by
  obtain ⟨t, v, s, g, hb, rfl⟩ := h
  obtain ⟨t', v', s', g', hb', rfl⟩ := k
  have := g.hat.uniq g'.hat
  subst this
  rw [(hb.det hb').2]
def zeroS : Ms := ⟨[], [], 0, 0, [], none⟩
open Classical in
noncomputable def runZ (p : PgV) (args : List Int) (fuel : Int) : Ms := if h : checkZ p args.length fuel = 0 ∧ ∃ s, IsRun p args fuel s then h.2.choose else zeroS
theorem runZ_no {p : PgV} {args : List Int} {fuel : Int} (h : checkZ p args.length fuel ≠ 0) : runZ p args fuel = zeroS := by
  unfold runZ; rw [dif_neg (fun k => h k.1)]
theorem runZ_of {p : PgV} {args : List Int} {fuel : Int} {s : Ms} (h : checkZ p args.length fuel = 0) (k : IsRun p args fuel s) : runZ p args fuel = s := by
  unfold runZ
  rw [dif_pos ⟨h, s, k⟩]
  exact (Exists.choose_spec (p := fun s => IsRun p args fuel s) ⟨s, k⟩).det k
/-- What is known of a run. -/
structure RunK (p : PgV) (args : List Int) (fuel : Int) (t : Tr) (v : Int) (s' : Ms) : Prop where
  good : Good p t
  big : Big (.one t) (initS p.V args fuel.toNat) v s'
  eq : runZ p args fuel = s'.stopped 3 0
  oks : OkS p.V s'
  init : OkS p.V (initS p.V args fuel.toNat)
  okO : okO p.V t
theorem runZ_is {p : PgV} {args : List Int} {fuel : Int} {w : World} (hok : p.ok w) (hin : ∀ a ∈ args, InI a) (h : checkZ p args.length fuel = 0) : ∃ t v s', RunK p args fuel t v s' := by
  obtain ⟨t, hg, hl, h0, h1⟩ := checkZ_zero h
  have h2 := okO_good hok hg
  have h3 := OkS_init (F := fuel.toNat) hok hg hg.vars hl hin
  obtain ⟨v, s', hb⟩ := big_ex p.V (fuel.toNat + 1) (initS p.V args fuel.toNat) (by simp [initS]) h3 t h2
  exact ⟨t, v, s', hg, hb, runZ_of h ⟨t, v, s', hg, hb, rfl⟩, (hb.inv (g := .one t) h2 h3).1, h3, h2⟩
theorem RunK.fin {p : PgV} {args : List Int} {fuel : Int} {t : Tr} {v : Int} {s' : Ms} (h : RunK p args fuel t v s') : ∃ fin : Mm, Reach (enterM 0 t ⟨initS p.V args fuel.toNat, []⟩) fin ∧ fin.s.out.isSome = true ∧ fin.s = s'.stopped 3 0 := by
  obtain ⟨m, h1, h2, h3⟩ := sim h.big h.okO h.init rfl 0 [] (fun hk => absurd h.good.kind hk)
  cases ho : s'.out with
  | some o =>
    refine ⟨m, h1, by rw [h2, ho]; rfl, ?_⟩
    rw [h2]; unfold Ms.stopped; rw [ho]; rfl
  | none =>
    have hs := h3 ho
    have hm : m = ⟨s', []⟩ := by cases m; simp only at h2 hs; subst h2; rw [hs, told]
    refine ⟨⟨s'.stop 3 0, []⟩, h1.trans (.one (by rw [h2]; exact ho) (by rw [hm]; exact .done s')), rfl, ?_⟩
    unfold Ms.stopped; rw [ho]; rfl
/-- The end of a run, as a value in memory. -/
structure RunA (s : Ms) (err : Int) (w w' : World) (e : Ending) : Prop where
  ex : ∃ A cap, e = .returned (.tuple #[.agg #[.int .i64 (s.out.getD (0, 0)).1, .int .i64 (s.out.getD (0, 0)).2, .int .i64 (s.steps : Int), .slice A s.evs.length cap], .int .i64 err]) ∧ Rd w' A (s.evs.flatMap EvV.cells) ∧ s.evs.length ≤ cap ∧ cap ≤ maxLen ∧ (A = none → cap = 0) ∧ Below w.heap.size w w'
theorem own_ev {w : World} {base n size : Nat} {e : TypeId} {v : Value} {xs : List Value} (h : w.ownsRow base e size v n xs) : ∃ A cap, v = .slice A n cap ∧ Rd w A xs ∧ n ≤ cap ∧ cap ≤ maxLen ∧ (A = none → cap = 0) := by
  rcases h.2 with ⟨rfl, rfl⟩ | ⟨g, cap, cur, rfl, _, hh, hc, hm, _, ht⟩
  · have h1 := h.1
    simp at h1
    subst h1
    exact ⟨none, 0, rfl, Rd.nil _ _, Nat.le_refl _, Nat.zero_le _, fun _ => rfl⟩
  · refine ⟨some ⟨g, 0, none⟩, cap, rfl, fun j u hj => ⟨_, rfl, ?_⟩, hc, hm, fun h => by cases h⟩
    have hr : Row w g e cur := hh
    have hjl : j < xs.length := (List.getElem?_eq_some_iff.1 hj).1
    rw [← ht] at hj hjl
    have hjt := hjl
    rw [List.length_take] at hjt
    rw [List.getElem?_take_of_lt (by omega)] at hj
    have : w.cell? ⟨g, j, none⟩ = some u := hr.cellv (by rw [← Array.getElem?_toList]; exact hj)
    unfold Addr.add
    by_cases h0 : j = 0
    · subst h0; exact this
    · rw [if_neg h0]; simpa using this
theorem RunR.a {fin : Mm} {w w' : World} {e : Ending} (h : RunR fin w w' e) : RunA fin.s 0 w w' e := by
  obtain ⟨ev, rfl, hown, hb⟩ := h.ex
  obtain ⟨A, cap, rfl, h1, h2, h3, h4⟩ := own_ev hown
  exact ⟨A, cap, rfl, h1, h2, h3, h4, hb⟩
set_option maxRecDepth 100000 in
set_option maxHeartbeats 8000000 in
/-- A program that may not be run. -/
theorem rRunBad_any (p : PgV) (aa : Option Addr) (acap n : Nat) (fuel : Int) (w : World) (hbl : p.body.length ≤ 1000) (hn : n ≤ 1000) (hok : p.ok w) (hc : checkZ p n fuel ≠ 0) :
    Calls Try.prog 16 #[.agg p.cells, .slice aa n acap, .int .i64 fuel] w fun e w' => e = .returned (.tuple #[.agg #[.int .i64 0, .int .i64 0, .int .i64 0, .slice none 0 0], .int .i64 (checkZ p n fuel)]) ∧ Below w.heap.size w w' := by
  have Hok := Lib.hid hok
  have Hbl := Lib.hid hbl
  have Hn := Lib.hid hn
  obtain ⟨cz, hcz⟩ : ∃ cz, checkZ p n fuel = cz := ⟨_, rfl⟩
  have Hcz := Lib.hid hcz
  rw [hcz] at hc ⊢
  have ec : (cz == 0) = false := by simpa using hc
  clear hok hbl hn hcz hc
  go_enter Try.func16, Try.ntmps16
  go_wp2_with (refine at_box _ _ rfl ?_)
  refine Stop.to ?_
  refine wpList_box_gen rfl 25 _ rfl p.cells rfl ?_
  intro G w1 hG r1 b1
  replace b1 := (Below.refl w.heap.size w).trans (b1.mono hG)
  clear hG
  go_wp2_with (refine at_alloc _ rfl ?_)
  refine Stop.to ?_
  refine wpList_alloc_gen rfl 32 rfl _ _ zero_run2 rfl ?_
  intro RB w2 hRB rB b2
  replace r1 := r1.below (b2.mono hRB) r1.lt
  have hRBw : w.heap.size ≤ RB := Nat.le_trans b1.size hRB
  replace b2 := b1.trans ((b2.mono hRB).mono b1.size)
  have R1 := Lib.hid r1
  have RB2 := Lib.hid rB
  have B2 := Lib.hid b2
  clear r1 b1 b2 rB hRB
  go_wp2_with (refine wpList_load_row rfl 25 _ rfl G rfl 25 p.cells (0, 0) _ R1.out Try.underlying25 rfl (by kernel_rfl) ?_)
  refine (refCheck_any p aa acap n fuel Hbl.out Hn.out w2 (Hok.out.go B2.out)).mono ?_
  rintro e w3 ⟨rfl, b3⟩
  rw [Hcz.out]
  have RB3 := Lib.hid (RB2.out.below b3 RB2.out.lt)
  have B3 := Lib.hid (B2.out.trans (b3.mono B2.out.size))
  clear b3 R1 RB2 B2
  go_wp2_with (refine at_store _ _ _ rfl ?_)
  refine Stop.to ?_
  refine wpList_store_gen rfl 32 _ _ rfl RB #[.int .i64 0, .int .i64 0, .int .i64 0, .slice none 0 0] rfl rfl 32 _ RB3.out (by kernel_rfl) rfl (run_one 0 0 0 rfl) ?_
  intro W9 r9 o9
  go_wp2_with fail
  refine bodyPost_ret (results_cell_tmp Try.results16 _ _ RB 32 _ (0, 0) _ rfl r9 Try.underlying32 rfl (by kernel_rfl)) rfl ?_
  exact ⟨rfl, below_only B3.out o9 hRBw⟩
theorem RunA.bad {p : PgV} {args : List Int} {fuel : Int} {w w' : World} {e : Ending} (h : checkZ p args.length fuel ≠ 0) (he : e = .returned (.tuple #[.agg #[.int .i64 0, .int .i64 0, .int .i64 0, .slice none 0 0], .int .i64 (checkZ p args.length fuel)]) ∧ Below w.heap.size w w') : RunA (runZ p args fuel) (checkZ p args.length fuel) w w' e := by
  obtain ⟨rfl, hb⟩ := he
  rw [runZ_no h]
  exact ⟨none, 0, rfl, Rd.nil _ _, Nat.le_refl _, Nat.zero_le _, fun _ => rfl, hb⟩
/-- machine.Run, whatever it is given. -/
theorem mRunA (p : PgV) (aa : Option Addr) (acap : Nat) (args : List Int) (fuel : Int) (w : World) (hbl : p.body.length ≤ 1000) (hn : args.length ≤ 1000) (hok : p.ok w) (hra : Rd w aa (ints args)) (hin : ∀ a ∈ args, InI a) :
    Calls Try.prog 15 #[.agg p.cells, .slice aa args.length acap, .int .i64 fuel] w fun e w' => RunA (runZ p args fuel) (checkZ p args.length fuel) w w' e := by
  by_cases hc : checkZ p args.length fuel = 0
  · obtain ⟨t, v, s', hk⟩ := runZ_is hok hin hc
    obtain ⟨fin, h1, h2, h3⟩ := hk.fin
    refine (mRun_all p t aa acap args fuel fin w hbl hn hok hra hk.good hc h1 h2).mono fun e w' h => ?_
    rw [hk.eq, hc, ← h3]
    exact h.a
  · exact (mRunBad_any p aa acap args.length fuel w hbl hn hok hc).mono fun e w' h => .bad hc h
/-- The reference's Run, whatever it is given. -/
theorem rRunA (p : PgV) (aa : Option Addr) (acap : Nat) (args : List Int) (fuel : Int) (w : World) (hbl : p.body.length ≤ 1000) (hn : args.length ≤ 1000) (hok : p.ok w) (hra : Rd w aa (ints args)) (hin : ∀ a ∈ args, InI a) :
    Calls Try.prog 16 #[.agg p.cells, .slice aa args.length acap, .int .i64 fuel] w fun e w' => RunA (runZ p args fuel) (checkZ p args.length fuel) w w' e := by
  by_cases hc : checkZ p args.length fuel = 0
  · obtain ⟨t, v, s', hk⟩ := runZ_is hok hin hc
    refine (rRun_any p t aa acap args fuel v s' w hbl hn hok hra hin hk.good hc hk.big).mono fun e w' h => ?_
    rw [hk.eq, hc]
    exact h.a
  · exact (rRunBad_any p aa acap args.length fuel w hbl hn hok hc).mono fun e w' h => .bad hc h

/-! Plain laws on runs. -/
theorem big_oof {g : Gl} {s s' : Ms} {v : Int} (h : Big g s v s') : s.out = none → ∀ x, s'.out = some (4, x) → s'.fuel = 0 := by
  induction h with
  | nil s => exact fun h x e => by rw [h] at e; cases e
  | cons t ts s s1 s2 v u h1 h2 i1 i2 =>
    intro h x e
    cases ho : s1.out with
    | none => exact i2 ho x e
    | some o =>
      have := big_over h2 (by rw [ho]; rfl)
      subst this
      exact i1 h x e
  | over t s h => exact fun h0 => by rw [h0] at h; cases h
  | empty t s h h0 => exact fun _ _ _ => h0
  | lit x s h ht => exact fun h0 x e => by simp only [Ms.tick] at e; rw [h0] at e; cases e
  | var x s h ht => exact fun h0 x e => by simp only [Ms.tick] at e; rw [h0] at e; cases e
  | skip x s h ht => exact fun h0 x e => by simp only [Ms.tick] at e; rw [h0] at e; cases e
  | block x ks s s1 u h ht h1 i1 => exact fun h0 => i1 h0
  | cut x a ks s s1 v h ht h1 ho i1 => exact fun h0 => i1 h0
  | atNo x a s s1 v h ht h1 ho hb i1 => exact fun _ x e => by simp [Ms.stop] at e
  | at_ x a s s1 v h ht h1 ho hb i1 => exact fun h0 => i1 h0
  | neg x a s s1 v h ht h1 ho i1 => exact fun h0 => i1 h0
  | not x a s s1 v h ht h1 ho i1 => exact fun h0 => i1 h0
  | and0 x a b s s1 h ht h1 ho i1 => exact fun h0 => i1 h0
  | and1 x a b s s1 s2 v u h ht h1 ho hv h2 i1 i2 => exact fun _ => i2 ho
  | or1 x a b s s1 h ht h1 ho i1 => exact fun h0 => i1 h0
  | or0 x a b s s1 s2 v u h ht h1 ho hv h2 i1 i2 => exact fun _ => i2 ho
  | set x a s s1 v h ht h1 ho i1 => exact fun _ x e => by simp only [Ms.setv] at e; rw [ho] at e; cases e
  | ifs x a b c t s s1 s2 v u h ht h1 ho hv h2 i1 i2 => exact fun _ => i2 ho
  | while0 x a b s s1 v h ht h1 ho hv i1 => exact fun h0 => i1 h0
  | while1 x a b s s1 s2 s3 u r h ht h1 ho h2 h3 i1 i2 i3 =>
    intro h0 x e
    cases ho2 : s2.out with
    | none => exact i3 ho2 x e
    | some o =>
      have := big_over h3 (by rw [ho2]; rfl)
      subst this
      exact i2 ho x e
  | ret x a s s1 v h ht h1 ho i1 => exact fun _ x e => by simp [Ms.stop] at e
  | cut2 x a b s s1 s2 v u h ht h1 ho h2 ho2 i1 i2 => exact fun _ => i2 ho
  | putNo x a b s s1 s2 v u h ht h1 ho h2 ho2 hb i1 i2 => exact fun _ x e => by simp [Ms.stop] at e
  | put x a b s s1 s2 v u h ht h1 ho h2 ho2 hb i1 i2 => exact fun _ x e => by simp only [Ms.seta] at e; rw [ho2] at e; cases e
  | pairNo x a b s s1 s2 v u h ht h1 ho h2 ho2 hp i1 i2 => exact fun _ x e => by simp [Ms.stop] at e
  | pair x a b s s1 s2 v u c h ht h1 ho h2 ho2 hp i1 i2 => exact fun _ => i2 ho
/-- Two runs tell the same. -/
structure SameS (a b : Ms) : Prop where
  out : a.out.getD (0, 0) = b.out.getD (0, 0)
  steps : a.steps = b.steps
  evs : a.evs = b.evs
theorem stopped_wf (s : Ms) (f : Nat) : SameS ((s.wf f).stopped 3 0) (s.stopped 3 0) := by
  unfold Ms.stopped
  show SameS (if s.out.isSome then s.wf f else (s.wf f).stop 3 0) _
  split <;> exact ⟨rfl, rfl, rfl⟩
theorem stopped_steps (s : Ms) : (s.stopped 3 0).steps = s.steps := by unfold Ms.stopped; split <;> rfl
theorem stopped_evs (s : Ms) : (s.stopped 3 0).evs = s.evs := by unfold Ms.stopped; split <;> rfl
theorem stopped_some {s : Ms} {o : Int × Int} (h : s.out = some o) : s.stopped 3 0 = s := by unfold Ms.stopped; rw [h]; rfl
theorem stopped_none {s : Ms} (h : s.out = none) : s.stopped 3 0 = s.stop 3 0 := by unfold Ms.stopped; rw [h]; rfl
theorem RunK.steps {p : PgV} {args : List Int} {fuel : Int} {t : Tr} {v : Int} {s' : Ms} (h : RunK p args fuel t v s') : s'.fuel + s'.steps = fuel.toNat := by
  have := h.big.ext.sum
  simpa [initS] using this
theorem initS_wf (V args : List Int) (F f : Nat) : (initS V args F).wf f = initS V args f := rfl
/-- A run with less fuel. -/
theorem run_less {p : PgV} {args : List Int} {F f : Int} {t u : Tr} {v x : Int} {s a : Ms} (h : RunK p args F t v s) (k : RunK p args f u x a) (hf : f.toNat ≤ F.toNat) :
    (s.steps ≤ f.toNat ∧ SameS (runZ p args f) (runZ p args F)) ∨ (f.toNat < s.steps ∧ (runZ p args f).out = some (4, 0) ∧ (runZ p args f).steps = f.toNat ∧ ∃ m, (runZ p args F).evs = (runZ p args f).evs ++ m) := by
  have hu := h.good.hat.uniq k.good.hat
  subst hu
  have hsum := h.steps
  rcases h.big.cut_fuel rfl f.toNat hf with ⟨h1, h2⟩ | ⟨h1, w, s', h2, h3, h4, m, h5⟩
  · left
    have e : (initS p.V args F.toNat).fuel = F.toNat := rfl
    rw [e] at h1 h2
    refine ⟨by omega, ?_⟩
    have hd := (k.big.det h2).2
    rw [h.eq, k.eq, hd]
    exact stopped_wf _ _
  · right
    have e : (initS p.V args F.toNat).fuel = F.toNat := rfl
    rw [e] at h1
    have hd := (k.big.det h2).2
    subst hd
    have hs := k.steps
    rw [h.eq, k.eq, stopped_some h3]
    refine ⟨by omega, h3, by omega, m, by rw [stopped_evs]; exact h5⟩
theorem RunK.oof {p : PgV} {args : List Int} {F : Int} {t : Tr} {v : Int} {s : Ms} (h : RunK p args F t v s) (ho : ((runZ p args F).out.getD (0, 0)).1 = 4) : s.fuel = 0 := by
  rw [h.eq] at ho
  cases he : s.out with
  | none => rw [stopped_none he] at ho; simp [Ms.stop] at ho
  | some o =>
    rw [stopped_some he, he] at ho
    obtain ⟨a, b⟩ := o
    simp at ho
    subst ho
    exact big_oof h.big rfl b he
/-- How a run ends. -/
theorem RunK.kind {p : PgV} {args : List Int} {F : Int} {t : Tr} {v : Int} {s : Ms} (h : RunK p args F t v s) : ∃ k x, (runZ p args F).out = some (k, x) ∧ ((k = 0 ∧ InI x) ∨ (1 ≤ k ∧ k ≤ 4 ∧ x = 0)) ∧ ∀ e ∈ (runZ p args F).evs, OkE p.V e := by
  rw [h.eq]
  cases he : s.out with
  | none =>
    rw [stopped_none he]
    exact ⟨3, 0, rfl, .inr ⟨by omega, by omega, rfl⟩, h.oks.evs⟩
  | some o =>
    rw [stopped_some he, he]
    exact ⟨o.1, o.2, rfl, h.oks.out o.1 o.2 he, h.oks.evs⟩
/-- Steps counted from elsewhere. -/
def Ms.late (s : Ms) (k : Nat) : Ms := { s with steps := k + s.steps }
theorem Big.late {g : Gl} {s s' : Ms} {v : Int} (h : Big g s v s') (k : Nat) : Big g (s.late k) v (s'.late k) := by
  induction h with
  | nil s => exact .nil _
  | cons t ts s s1 s2 v u h1 h2 i1 i2 => exact .cons t ts _ _ _ v u i1 i2
  | over t s h => exact .over t _ h
  | empty t s h h0 => exact .empty t (s.late k) h h0
  | lit x s h ht => exact .lit x (s.late k) h ht
  | var x s h ht => exact .var x (s.late k) h ht
  | skip x s h ht => exact .skip x (s.late k) h ht
  | block x ks s s1 u h ht h1 i1 => exact .block x ks (s.late k) _ u h ht i1
  | cut x a ks s s1 v h ht h1 ho i1 => exact .cut x a ks (s.late k) _ v h ht i1 ho
  | atNo x a s s1 v h ht h1 ho hb i1 => exact .atNo x a (s.late k) (s1.late k) v h ht i1 ho hb
  | at_ x a s s1 v h ht h1 ho hb i1 => exact .at_ x a (s.late k) (s1.late k) v h ht i1 ho hb
  | neg x a s s1 v h ht h1 ho i1 => exact .neg x a (s.late k) (s1.late k) v h ht i1 ho
  | not x a s s1 v h ht h1 ho i1 => exact .not x a (s.late k) (s1.late k) v h ht i1 ho
  | and0 x a b s s1 h ht h1 ho i1 => exact .and0 x a b (s.late k) (s1.late k) h ht i1 ho
  | and1 x a b s s1 s2 v u h ht h1 ho hv h2 i1 i2 => exact .and1 x a b (s.late k) (s1.late k) (s2.late k) v u h ht i1 ho hv i2
  | or1 x a b s s1 h ht h1 ho i1 => exact .or1 x a b (s.late k) (s1.late k) h ht i1 ho
  | or0 x a b s s1 s2 v u h ht h1 ho hv h2 i1 i2 => exact .or0 x a b (s.late k) (s1.late k) (s2.late k) v u h ht i1 ho hv i2
  | set x a s s1 v h ht h1 ho i1 => exact .set x a (s.late k) (s1.late k) v h ht i1 ho
  | ifs x a b c t s s1 s2 v u h ht h1 ho hv h2 i1 i2 => exact .ifs x a b c t (s.late k) (s1.late k) (s2.late k) v u h ht i1 ho hv i2
  | while0 x a b s s1 v h ht h1 ho hv i1 => exact .while0 x a b (s.late k) (s1.late k) v h ht i1 ho hv
  | while1 x a b s s1 s2 s3 u r h ht h1 ho h2 h3 i1 i2 i3 => exact .while1 x a b (s.late k) (s1.late k) (s2.late k) (s3.late k) u r h ht i1 ho i2 i3
  | ret x a s s1 v h ht h1 ho i1 => exact .ret x a (s.late k) (s1.late k) v h ht i1 ho
  | cut2 x a b s s1 s2 v u h ht h1 ho h2 ho2 i1 i2 => exact .cut2 x a b (s.late k) (s1.late k) (s2.late k) v u h ht i1 ho i2 ho2
  | putNo x a b s s1 s2 v u h ht h1 ho h2 ho2 hb i1 i2 => exact .putNo x a b (s.late k) (s1.late k) (s2.late k) v u h ht i1 ho i2 ho2 hb
  | put x a b s s1 s2 v u h ht h1 ho h2 ho2 hb i1 i2 => exact .put x a b (s.late k) (s1.late k) (s2.late k) v u h ht i1 ho i2 ho2 hb
  | pairNo x a b s s1 s2 v u h ht h1 ho h2 ho2 hp i1 i2 => exact .pairNo x a b (s.late k) (s1.late k) (s2.late k) v u h ht i1 ho i2 ho2 hp
  | pair x a b s s1 s2 v u c h ht h1 ho h2 ho2 hp i1 i2 => exact .pair x a b (s.late k) (s1.late k) (s2.late k) v u c h ht i1 ho i2 ho2 hp
end Go.Proofs.Ytlglilmgklipdaa
