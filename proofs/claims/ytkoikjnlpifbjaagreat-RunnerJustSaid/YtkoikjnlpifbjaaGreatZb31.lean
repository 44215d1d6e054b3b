/- Lemmas for RunnerJustP. -/
import Derived.Test.YtkoikjnlpifbjaaGreatZb29
import Derived.Test.YtkoikjnlpifbjaaGreatZb30
import Derived.Test.YtkoikjnlpifbjaaGreatZb27
import Derived.Test.YtkoikjnlpifbjaaGreatZb28
import Derived.Test.YtkoikjnlpifbjaaGreatZb8
import Derived.Test.YtkoikjnlpifbjaaGreatZb3
import Derived.Test.YtkoikjnlpifbjaaGreatZb26
import Derived.Test.YtkoikjnlpifbjaaGreatZb1
import Derived.Laws.Tables
import Derived.Test.YtkoikjnlpifbjaaGreatRows
import Derived.Maps.OwnIn
import Derived.Lib.AppendStr
set_option linter.unusedVariables false
set_option linter.unusedSimpArgs false
set_option maxRecDepth 100000
set_option maxHeartbeats 16000000
namespace Go.Proofs.YtkoikjnlpifbjaaGreat
open Go.RowKit Go.Deep
theorem Xp {p : PgV} {n : Nat} {fuel : Int} (h : Zs p n fuel = 0) : ∃ t, Good p t ∧ (n : Int) = p.params ∧ 0 ≤ fuel ∧ fuel ≤ 10000 := by
 by_cases c : ∃ t, Good p t
 · obtain ⟨t, b⟩ := c;rw [JL b] at h;refine ⟨t, b, ?_⟩;split at h
   · cases h
   · split at h
     · cases h
     · omega
 · rw [JM (fun t b => c ⟨t, b⟩)] at h; cases h
theorem Adq (p : PgV) (t : Tr) (aa : Option Addr) (acap : Nat) (args : List Int) (fuel : Int) (fin : Mm) (w : World) (hbl : p.body.length ≤ 1000) (hn : args.length ≤ 1000) (hok : p.ok w) (hra : Rd w aa (Qj args)) (hg : Good p t)
 (hc : Zs p args.length fuel = 0) (hfin : Reach (Z0 0 t ⟨Z3 p.V args fuel.toNat, []⟩) fin) (ho : fin.s.out.isSome = true) :
 Calls Tryz.prog 72 #[.agg p.cells, .slice aa args.length acap, .int .i64 fuel] w fun e w' => RunR fin w w' e := by
 obtain ⟨_, _, d, g⟩ := Xp hc;exact AhO p t aa acap args fuel fin w hbl hn hok hg hc (fun w' c b => Agt p aa acap args fuel w' hbl hn c hg.vars d g (hra.go b)) hfin ho
theorem Adp (p : PgV) (aa : Option Addr) (acap n : Nat) (fuel : Int) (w : World) (hbl : p.body.length ≤ 1000) (hn : n ≤ 1000) (hok : p.ok w) (hc : Zs p n fuel ≠ 0) :
 Calls Tryz.prog 72 #[.agg p.cells, .slice aa n acap, .int .i64 fuel] w fun e w' => e = .returned (.tuple #[.agg #[.int .i64 0, .int .i64 0, .int .i64 0, .slice none 0 0], .int .i64 (Zs p n fuel)]) ∧ Below w.heap.size w w' := by
 have o := Lv hok;have l := Lv hbl;have y := Lv hn;obtain ⟨cz, d⟩ : ∃ cz, Zs p n fuel = cz := ⟨_, rfl⟩;have m := Lv d;rw [d] at hc ⊢;have ec : (cz == 0) = false := by simpa using hc
 clear hok hbl hn d hc;go_enter Tryz.func72, Tryz.ntmps72
 go_wp2_with (refine Qm _ _ rfl ?_)
 refine Stop.to ?_;refine Qe rfl 25 _ rfl p.cells rfl ?_;intro G w1 u j g;replace g := (Below.refl w.heap.size w).trans (g.mono u);clear u;go_wp2_with (refine QE _ rfl ?_)
 refine Stop.to ?_;refine Qi rfl 114 rfl _ _ YU rfl ?_;intro RB w2 b v h;replace j := j.below (h.mono b) j.lt;have i : w.heap.size ≤ RB := Li g.size b;replace h := g.trans ((h.mono b).mono g.size);have t := Lv j;have c := Lv v;have k := Lv h;clear j g h v b;go_wp2_with fail
 refine wp_scope_straight ?_;go_wp2_with (refine wpList_load_row rfl 25 _ rfl G rfl 25 p.cells (0, 0) _ t.out Tryz.underlying25 rfl (by kernel_rfl) ?_)
 refine (EK p aa acap n fuel l.out y.out w2 (o.out.go k.out)).mono ?_;rintro e w3 ⟨rfl, s⟩;rw [m.out];have q := Lv (c.out.below s c.out.lt);have x := Lv (k.out.trans (s.mono k.out.size));clear s t c k;go_wp2_with (refine Qp _ _ _ rfl ?_)
 refine Stop.to ?_;refine Qk rfl 114 _ _ rfl RB #[.int .i64 0, .int .i64 0, .int .i64 0, .slice none 0 0] rfl rfl 114 _ q.out (by kernel_rfl) rfl (VT 0 0 0 rfl) ?_;intro W9 r9 z;go_wp2_with fail
 rw [Exit.noGoto_ret];refine bodyPost_ret (QN Tryz.results72 _ _ RB 114 _ (0, 0) _ rfl r9 Tryz.underlying114 rfl (by kernel_rfl)) rfl ?_;exact ⟨rfl, Ql x.out z i⟩
theorem AhW {p : PgV} {t : Tr} {w : World} (hok : p.ok w) (hg : Good p t) : okO p.V t := by
 refine ⟨hg.hat.fits, by rw [hg.kind]; omega, fun x c => ?_⟩;obtain ⟨r, b⟩ := hg.hat.here;rw [LL] at b;exact (hok.bin x (by rw [b]; exact List.mem_append_left _ c)).2
theorem Ag2 {p : PgV} {t : Tr} {w : World} {args : List Int} {F : Nat} (hok : p.ok w) (hg : Good p t) (hv : Xj p.params p.V) (hl : (args.length : Int) = p.params) (hin : ∀ a ∈ args, InI a) : OkS p.V (Z3 p.V args F) := by
 refine ⟨by simp [Z3, Ka], by simp [Z3, AaP], fun i t v d b => ?_, fun i t a d b => ?_, fun e g => by simp [Z3] at g, fun k v h => by simp [Z3] at h, by have := hv.2.2.1; omega⟩
 · have c : i < p.V.length := (Ld.1 d).1;simp only [Z3, Ka, L6, List.getElem?_range c, Ns, No] at b;subst b;by_cases hi : i < args.length
   · have e : args.getD i 0 = args[i] := by simp [List.getD, La hi]
     refine ⟨by rw [e]; exact hin _ (List.getElem_mem _), fun l => ?_⟩;have := hv.2.2.2 i c;rw [LX, d, LZ] at this;simp only [Yw, decide_eq_true_eq] at this;omega
   · have e : args.getD i 0 = 0 := by simp [List.getD, Nt (show args.length ≤ i by omega)]
     rw [e];exact ⟨Jc, fun _ => .inl rfl⟩
 · simp only [Z3, AaP, L6, d, Ns, No] at b;subst b;refine ⟨?_, fun x j => ?_⟩
   · rw [Nu]; unfold QY; split <;> omega
   · rw [(List.mem_replicate.1 j).2]; exact Jc
theorem Big.det {t : Tr} {s a b : Ms} {u v : Int} (h : Big (.one t) s u a) (k : Big (.one t) s v b) : u = v ∧ a = b := by
 have d := h.ev (s.fuel + 1) (by omega);have c := k.ev (s.fuel + 1) (by omega);rw [d] at c;exact ⟨congrArg Prod.fst c, congrArg Prod.snd c⟩
def IsRun (p : PgV) (args : List Int) (fuel : Int) (s : Ms) : Prop := ∃ t v s', Good p t ∧ Big (.one t) (Z3 p.V args fuel.toNat) v s' ∧ s = s'.stopped 3 0
theorem IsRun.det {p : PgV} {args : List Int} {fuel : Int} {a b : Ms} (h : IsRun p args fuel a) (k : IsRun p args fuel b) : a = b := by
 obtain ⟨t, v, s, g, e, rfl⟩ := h;obtain ⟨j, l, i, d, c, rfl⟩ := k;have := g.hat.uniq d.hat;subst this;rw [(e.det c).2]
def AiF : Ms := ⟨[], [], 0, 0, [], none⟩
open Classical in
noncomputable def QR (p : PgV) (args : List Int) (fuel : Int) : Ms := if h : Zs p args.length fuel = 0 ∧ ∃ s, IsRun p args fuel s then h.2.choose else AiF
theorem UL {p : PgV} {args : List Int} {fuel : Int} (h : Zs p args.length fuel ≠ 0) : QR p args fuel = AiF := by
 unfold QR; rw [dif_neg (fun k => h k.1)]
theorem Ab3 {p : PgV} {args : List Int} {fuel : Int} {s : Ms} (h : Zs p args.length fuel = 0) (k : IsRun p args fuel s) : QR p args fuel = s := by
 unfold QR;rw [dif_pos ⟨h, s, k⟩];exact (Exists.choose_spec (p := fun s => IsRun p args fuel s) ⟨s, k⟩).det k
structure RunK (p : PgV) (args : List Int) (fuel : Int) (t : Tr) (v : Int) (s' : Ms) : Prop where
 good : Good p t
 big : Big (.one t) (Z3 p.V args fuel.toNat) v s'
 eq : QR p args fuel = s'.stopped 3 0
 oks : OkS p.V s'
 init : OkS p.V (Z3 p.V args fuel.toNat)
 okO : okO p.V t
theorem UK {p : PgV} {args : List Int} {fuel : Int} {w : World} (hok : p.ok w) (hin : ∀ a ∈ args, InI a) (h : Zs p args.length fuel = 0) : ∃ t v s', RunK p args fuel t v s' := by
 obtain ⟨t, b, i, j, k⟩ := Xp h;have c := AhW hok b;have d := Ag2 (F := fuel.toNat) hok b b.vars i hin;obtain ⟨v, s', e⟩ := AbB p.V (fuel.toNat + 1) (Z3 p.V args fuel.toNat) (by simp [Z3]) d t c;exact ⟨t, v, s', b, e, Ab3 h ⟨t, v, s', b, e, rfl⟩, (e.inv (g := .one t) c d).1, d, c⟩
theorem RunK.fin {p : PgV} {args : List Int} {fuel : Int} {t : Tr} {v : Int} {s' : Ms} (h : RunK p args fuel t v s') : ∃ fin : Mm, Reach (Z0 0 t ⟨Z3 p.V args fuel.toNat, []⟩) fin ∧ fin.s.out.isSome = true ∧ fin.s = s'.stopped 3 0 := by
 obtain ⟨m, c, b, e⟩ := sim h.big h.okO h.init rfl 0 [] (fun g => absurd h.good.kind g);cases ho : s'.out with
 | some o =>
  refine ⟨m, c, by rw [b, ho]; rfl, ?_⟩;rw [b]; unfold Ms.stopped; rw [ho]; rfl
 | none =>
  have d := e ho;have i : m = ⟨s', []⟩ := by cases m; simp only at b d; subst b; rw [d, told]
  refine ⟨⟨s'.stop 3 0, []⟩, c.trans (.one (by rw [b]; exact ho) (by rw [i]; exact .done s')), rfl, ?_⟩;unfold Ms.stopped; rw [ho]; rfl
structure RunA (s : Ms) (err : Int) (w w' : World) (e : Ending) : Prop where
 ex : ∃ A cap, e = .returned (.tuple #[.agg #[.int .i64 (s.out.getD (0, 0)).1, .int .i64 (s.out.getD (0, 0)).2, .int .i64 (s.steps : Int), .slice A s.evs.length cap], .int .i64 err]) ∧ Rd w' A (s.evs.flatMap EvV.cells) ∧ s.evs.length ≤ cap ∧ cap ≤ maxLen ∧ (A = none → cap = 0) ∧ Below w.heap.size w w'
theorem Ah5 {w : World} {base n size : Nat} {e : TypeId} {v : Value} {xs : List Value} (h : w.ownsRow base e size v n xs) : ∃ A cap, v = .slice A n cap ∧ Rd w A xs ∧ n ≤ cap ∧ cap ≤ maxLen ∧ (A = none → cap = 0) := by
 rcases h.2 with ⟨rfl, rfl⟩ | ⟨g, cap, d, rfl, _, o, m, p, _, s⟩
 · have l := h.1;simp at l;subst l;exact ⟨none, 0, rfl, Rd.nil _ _, Nat.le_refl _, Nat.zero_le _, fun _ => rfl⟩
 · refine ⟨some ⟨g, 0, none⟩, cap, rfl, fun j u c => ⟨_, rfl, ?_⟩, m, p, fun h => by cases h⟩;have q : Row w g e d := o;have b : j < xs.length := (Ld.1 c).1;rw [← s] at c b;have i := b;rw [L7] at i;rw [LV (by omega)] at c;have : w.cell? ⟨g, j, none⟩ = some u := q.cellv (by rw [← Nk]; exact c);unfold Addr.add;by_cases k : j = 0
   · subst k; exact this
   · rw [if_neg k]; simpa using this
theorem RunR.a {fin : Mm} {w w' : World} {e : Ending} (h : RunR fin w w' e) : RunA fin.s 0 w w' e := by
 obtain ⟨ev, rfl, b, k⟩ := h.ex;obtain ⟨A, c, rfl, d, g, i, j⟩ := Ah5 b;exact ⟨A, c, rfl, d, g, i, j, k⟩
theorem RunA.bad {p : PgV} {args : List Int} {fuel : Int} {w w' : World} {e : Ending} (h : Zs p args.length fuel ≠ 0) (he : e = .returned (.tuple #[.agg #[.int .i64 0, .int .i64 0, .int .i64 0, .slice none 0 0], .int .i64 (Zs p args.length fuel)]) ∧ Below w.heap.size w w') : RunA (QR p args fuel) (Zs p args.length fuel) w w' e := by
 obtain ⟨rfl, b⟩ := he;rw [UL h];exact ⟨none, 0, rfl, Rd.nil _ _, Nat.le_refl _, Nat.zero_le _, fun _ => rfl, b⟩
theorem AkS (p : PgV) (aa : Option Addr) (acap : Nat) (args : List Int) (fuel : Int) (w : World) (hbl : p.body.length ≤ 1000) (hn : args.length ≤ 1000) (hok : p.ok w) (hra : Rd w aa (Qj args)) (hin : ∀ a ∈ args, InI a) :
 Calls Tryz.prog 72 #[.agg p.cells, .slice aa args.length acap, .int .i64 fuel] w fun e w' => RunA (QR p args fuel) (Zs p args.length fuel) w w' e := by
 by_cases b : Zs p args.length fuel = 0
 · obtain ⟨t, v, j, c⟩ := UK hok hin b;obtain ⟨fin, d, g, i⟩ := c.fin;refine (Adq p t aa acap args fuel fin w hbl hn hok hra c.good b d g).mono fun e w' h => ?_
   rw [c.eq, b, ← i];exact h.a
 · exact (Adp p aa acap args.length fuel w hbl hn hok b).mono fun e w' h => .bad b h
theorem AaH (s : Ms) : (s.stopped 3 0).steps = s.steps := by unfold Ms.stopped; split <;> rfl
theorem AdU (s : Ms) : (s.stopped 3 0).evs = s.evs := by unfold Ms.stopped; split <;> rfl
theorem Acc {s : Ms} {o : Int × Int} (h : s.out = some o) : s.stopped 3 0 = s := by unfold Ms.stopped; rw [h]; rfl
theorem Acb {s : Ms} (h : s.out = none) : s.stopped 3 0 = s.stop 3 0 := by unfold Ms.stopped; rw [h]; rfl
theorem RunK.steps {p : PgV} {args : List Int} {fuel : Int} {t : Tr} {v : Int} {s' : Ms} (h : RunK p args fuel t v s') : s'.fuel + s'.steps = fuel.toNat := by
 have := h.big.ext.sum;simpa [Z3] using this
theorem RunK.kind {p : PgV} {args : List Int} {F : Int} {t : Tr} {v : Int} {s : Ms} (h : RunK p args F t v s) : ∃ k x, (QR p args F).out = some (k, x) ∧ ((k = 0 ∧ InI x) ∨ (1 ≤ k ∧ k ≤ 4 ∧ x = 0)) ∧ ∀ e ∈ (QR p args F).evs, OkE p.V e := by
 rw [h.eq];cases he : s.out with
 | none =>
  rw [Acb he];exact ⟨3, 0, rfl, .inr ⟨by omega, by omega, rfl⟩, h.oks.evs⟩
 | some o =>
  rw [Acc he, he];exact ⟨o.1, o.2, rfl, h.oks.out o.1 o.2 he, h.oks.evs⟩
def Xn (k v : Int) : List Value := [.int .i64 k, .int .i64 v]
theorem KW {W : World} {G : Nat} {r : RunV} (h : Row W G 114 r.cells) : ∀ j v, (Xn r.kind r.value)[j]? = some v → W.cell? ((⟨G, 0, none⟩ : Addr).add j) = some v :=
 Row.from_ (cur := r.cells) h 0 (fun j v hj => by
  match j, hj with
  | 0, hj | 1, hj => exact hj)
def Rd3 (r : RunV) (W : World) : Prop := Rd W r.addr (r.evs.flatMap EvV.cells)
instance St.rd3 {r : RunV} : St (Rd3 r) := ⟨fun h b => Rd.go h b⟩
def Ms.rv (s : Ms) (A : Option Addr) (cap : Nat) : RunV := ⟨(s.out.getD (0, 0)).1, (s.out.getD (0, 0)).2, s.steps, A, cap, s.evs⟩
theorem Akw (r : RunV) : r.cells.all (·.oneCell') = true := by simp [RunV.cells, Value.oneCell']
theorem Ab5 (p : PgV) (args : List Int) (fuel : Int) : (QR p args fuel).evs.length ≤ 10000 := by
 unfold QR;split
 · rename_i h;obtain ⟨t, v, j, _, b, e⟩ := h.2.choose_spec;rw [e, AdU];obtain ⟨_, _, _, g, i⟩ := Xp h.1;have c := b.ext.few;have d := b.ext.sum;simp only [Z3, Lu] at c d;omega
 · exact Nat.zero_le _
theorem AjK (p : PgV) (args : List Int) (fuel : Int) : (QR p args fuel).evs.length ≤ 1000000 := Li (Ab5 p args fuel) (by omega)
attribute [local go_sem] Oper.semAt_some
def Akc (w : World) (b : Nat) : Nat := match w.cell? ⟨b, 0, none⟩ with | some (.int _ n) => n.toNat | _ => 0
theorem AjA (n : Nat) : bits .or .u8 (((n % 256 : Nat) : Int)) 128 = ((UInt8.ofNat (128 + n % 128)).toNat : Int) := by
 have h : ∀ m : Nat, m < 256 → bits .or .u8 (m : Int) 128 = ((128 + m % 128 : Nat) : Int) := by decide +kernel
 rw [h (n % 256) (by omega)];have : (UInt8.ofNat (128 + n % 128)).toNat = 128 + n % 128 := by simp; omega
 rw [this]; omega
theorem Akz (n : Nat) : ((n % 256 : Nat) : Int) = ((UInt8.ofNat n).toNat : Int) := by simp
theorem AbI (bs : Nat) (n : Nat) (hn : n < 18446744073709551616) (w : World) (hrow : Row w bs 207 #[.int .u64 n]) :
 Acs Tryz.prog 215 #[.pointer (some ⟨bs, 0, none⟩)] (fun x : UInt8 => #[.int .u8 (x.toNat : Int)]) (· = bs) (fun A B => B.heap[bs]? = A.heap[bs]? ∧ A.heap.size ≤ B.heap.size) (fun xs => xs = U5 n) (fun _ => True) 10 w := by
 intro l J Jx W _ aj hJ ap hY h0;refine callsIn_of_wp Tryz.func215 rfl trivial ?_ rfl;simp only [Tryz.ntmps215, Lm, Le, Lu, Nat.reduceAdd, Nat.reduceSub, Lk, Ll, Ly, LH, Lp, Ln];gi_wp2;have ai : Row W bs 207 #[.int .u64 n] := (aj.block bs hrow.lt (by simp)).trans hrow
 have y : n < 128 ^ 10 := by
  have e : (128 : Nat) ^ 10 = 1180591620717411303424 := by decide
  rw [e]; omega
 have Hn := Lv hn;have af := Lv y;clear hrow aj hn y;gi_loopw [3, 4] (fun _ _ wr => ∃ (f m : Nat) (d : List UInt8), d ++ EG (f + 1) m = U5 n ∧ m < 128 ^ (f + 1) ∧ m < 18446744073709551616 ∧ d.length + (f + 1) = 10 ∧ Row wr bs 207 #[.int .u64 m] ∧ J d wr) (fun _ _ wr => Akc wr bs)
 case atStart => exact ⟨9, n, [], rfl, af.out, Hn.out, rfl, ai, h0⟩
 case round =>
  clear ai h0;obtain ⟨f, m, d, z, hm, u, t, hr, hj⟩ := hrel;have p := Lv z;have Hm := Lv hm;have o := Lv t;have ae := Lv u;clear z hm t u;have hc := hr.cellv (i := 0) (v := .int .u64 (m : Int)) rfl;have hf := hr.free 0;have g : d.length < 10 := by have := o.out; omega
  by_cases q : m < 128
  · obtain ⟨c, b⟩ : ∃ c : UInt8, c = UInt8.ofNat m := ⟨_, rfl⟩;have hx : ((c.toNat : Nat) : Int) = (m : Int) := by rw [b, ← Akz]; omega
    obtain ⟨fn, ak, h, ag, hy, hR⟩ := hY _ c _ hj g;rw [hx] at hy;have HR := Lv hR;have aa := Lv b;have an : ((m : Nat) : Int) < 128 := by omega
    clear hR b hx q;gi_wp2;refine ⟨rfl, HR.out.mono ?_⟩;rintro e W' (⟨rfl, j, ac, ao⟩ | ⟨rfl, ab⟩)
    · gi_wp2;go_end0
      refine ⟨⟨_, rfl⟩, .inl ⟨_, ?_, j⟩⟩;rw [← p.out, AeF f m (by omega), aa.out]
    · gi_wp2;go_end0
      exact ⟨⟨_, rfl⟩, .inr ⟨_, trivial, ab⟩⟩
  · obtain ⟨c, b⟩ : ∃ c : UInt8, c = UInt8.ofNat (128 + m % 128) := ⟨_, rfl⟩
    have hx : ((c.toNat : Nat) : Int) = bits .or .u8 ((m : Int) % 256) 128 := by
     have e : (m : Int) % 256 = ((m % 256 : Nat) : Int) := by omega
     rw [b, e, AjA]
    obtain ⟨fn, ak, h, ag, hy, hR⟩ := hY _ c _ hj g;rw [hx] at hy;have HR := Lv hR;have aa := Lv b;have an : 128 ≤ ((m : Nat) : Int) := by omega
    clear hR b hx q;gi_wp2;have s := AhK f m (by omega)
    have am : 0 < f := by
     rcases Nat.eq_zero_or_pos f with rfl | h0
     · have := Hm.out; simp at this; omega
     · exact h0
    obtain ⟨f, rfl⟩ : ∃ f', f = f' + 1 := ⟨f - 1, by omega⟩;have ad := Lv s;clear s am;refine ⟨rfl, HR.out.mono ?_⟩;rintro e W' (⟨rfl, j, ac, ao⟩ | ⟨rfl, ab⟩)
    · have k : Row W' bs 207 #[.int .u64 m] := ac.trans hr;have aq := k.cellv (i := 0) (v := .int .u64 (m : Int)) rfl;have ar := k.free 0;have al := Lv j;clear j ac hj hy hf hc;gi_wp2;have ah : (m : Int) / 128 = ((m / 128 : Nat) : Int) := by omega
      go_roundw
      case rel =>
       refine ⟨f, m / 128, d ++ [c], ?_, ?_, ?_, ?_, ?_, ?_⟩
       · rw [← p.out, ad.out, aa.out]; simp
       · have := Hm.out; rw [Nat.pow_succ] at this; omega
       · have := ae.out; omega
       · have := o.out; simp; omega
       · rw [← ah]; exact k.set 0 _
       · exact hJ _ _ _ (some bs) al.out (grownBy_setCell' _ _ _) (fun r e => by cases e; exact .inl rfl)
      case measure =>
       have h1 := (k.set 0 (.int .u64 ((m : Int) / 128))).cell 0;have h2 := hr.cell 0;unfold Akc;rw [h1, h2];simp; omega
    · clear hj hy hc hf hr;gi_wp2;refine bodyPost_ret (results_none rfl _ _ _) rfl ?_;exact ⟨⟨_, rfl⟩, .inr ⟨_, trivial, ab⟩⟩
end Go.Proofs.YtkoikjnlpifbjaaGreat
namespace Go.Proofs.YtkoikjnlpifbjaaGreat
open Go.RowKit
theorem VM : (Tryz.prog.info? 5).map (fun i => (i.zero, i.size, i.bytes)) = some (some (.int .u8 0), 1, 1) := by kernel_rfl
end Go.Proofs.YtkoikjnlpifbjaaGreat
namespace Go.Proofs.YtkoikjnlpifbjaaGreat
open Go.RowKit Go.Deep
attribute [local go_sem] Oper.semAt_some
theorem Aew (n : Nat) (w : World) :
 Calls Tryz.prog 195 #[.int .u64 n] w fun e w' => e = .returned (.func (.func 215) #[] #[.pointer (some ⟨w.heap.size, 0, none⟩)]) ∧ w.alloc (.cells #[.int .u64 n] 207) = w' := by
 go_enter Tryz.func195, Tryz.ntmps195
 go_wp2
 go_ret
 exact ⟨rfl, rfl⟩
theorem EH (n : Nat) (hn : n < 18446744073709551616) (w : World) :
 Calls Tryz.prog 159 #[.int .u64 n] w fun e w' => e = .returned (.string ⟨(U5 n).toArray⟩) ∧ Below w.heap.size w w' := by
 have Hn := Lv hn;clear hn;obtain ⟨i0, af, ah, ai, aj⟩ := info_parts VM;refine (callsIn_wide (n := 0)).1 ?_;refine callsIn_of_wp_marks Tryz.func159 rfl trivial ?_;simp only [Tryz.ntmps159, Lm, Le, Lu, Nat.reduceAdd, Nat.reduceSub, Lk, Ll, Ly, LH, Lp, Ln];gi_wp2_with fail
 have rg := Row.new w 250 #[.slice none 0 0];have b1 := (Below.refl w.heap.size w).alloc (Nat.le_refl _) (.cells #[.slice none 0 0] 250);have l1 := rg.lt;generalize w.alloc (.cells #[.slice none 0 0] 250) = w1 at rg b1 l1 ⊢;refine ⟨trivial, rfl, (callsIn_wide.2 (Aew n w1)).mono ?_⟩;rintro e w2 ⟨rfl, ad⟩;have rb := Row.new w1 207 #[.int .u64 n];have u := rg.alloc (.cells #[.int .u64 n] 207);have b2 := b1.alloc b1.size (.cells #[.int .u64 n] 207);rw [ad] at rb u b2;obtain ⟨d, ab⟩ : ∃ d, d = w1.heap.size := ⟨_, rfl⟩;rw [← ab] at rb l1 ⊢;have lb := rb.lt;obtain ⟨G, hG⟩ : ∃ G, G = w.heap.size := ⟨_, rfl⟩;have gG : w.heap.size ≤ G := by omega
 rw [← hG] at u l1 ⊢;clear ab ad rg b1;have HG := Lv hG;clear hG;have aa := Lv (AbI d n Hn.out w2 rb);gi_wp2
 refine AbW (gf := 215) (lb := #[.pointer (some ⟨d, 0, none⟩)]) rfl (enters_of Tryz.func215 (by kernel_rfl) rfl) aa.out (fun r h => by subst h; omega)
  (fun h k => ⟨k.1.trans h.1, Li h.2 k.2⟩) (fun W l o o' hl ho hc => ⟨by rw [World.putObj_heap_other (by omega)], by simp⟩) (World.grownBy.refl _ _) (fun _ => rfl)
  (fun b W => ∃ v, Row W G 250 #[v] ∧ W.ownsRow w.heap.size 5 1 v b.length (u8s b) ∧ Below w.heap.size w W ∧ v.ownBlock ≠ some d ∧ d < W.heap.size) (fun _ _ _ => False) ?hI ?hIx ⟨_, u, World.ownsRow_nil _ _ _ _, b2, by simp [Value.ownBlock], lb⟩
  (fun x a' W => a' = { tmps := #[.int .u64 n, undef, .string ⟨#[]⟩, .pointer (some ⟨G, 0, none⟩), .int .u8 (x.toNat : Int), .int .u64 n, .func (.func 215) #[] #[.pointer (some ⟨d, 0, none⟩)], .int .u8 (x.toNat : Int), undef, undef, undef, undef, undef, undef], defers := [] }) ?hAx ?assign ?body ?done ?stop
 case hI =>
  rintro b A B row ⟨v, q, t, p, h4, h5⟩ j hr
  have s : ∀ r, row = some r → r ≠ G ∧ v.ownBlock ≠ some r := fun r e => by
   rcases hr r e with h | ⟨h, o, ho, hc⟩
   · have : r = d := h;subst this;exact ⟨by omega, h4⟩
   · exact ⟨by omega, Z9 t ho hc⟩
  refine ⟨v, q.grown j (fun e => (s G e).1 rfl), t.kept j ?_, p.grown j p.size (fun k e => ?_), h4, Lg h5 j.size⟩
  · cases row with
    | none => cases v.ownBlock <;> simp
    | some r => exact .inr (s r rfl).2
  · rcases hr k e with h | ⟨h, _⟩
    · have : k = d := h;omega
    · have := b2.size; omega
 case hIx => exact fun _ _ _ _ _ h _ _ => h
 case hAx => exact fun x a' _ _ _ _ h _ _ => h
 case assign =>
  rintro l b x W K hI hK;have HK := Lv hK;clear hK;gi_wp2;exact HK.out _ _ (KeepsFrom.refl _ _) ⟨rfl, Nat.le_refl _⟩ hI rfl
 case body =>
  rintro l b x a' W hl _ ⟨v, q, t, p, h4, h5⟩ rfl ag;have ak : b.length < 10 := ag;have hc := q.cellv (i := 0) (v := v) rfl;have hf := q.free 0;have ha := t.alloc (.cells #[.int .u8 (x.toNat : Int)] 5);have HA := Lv ha;clear ha;gi_wp2_with (gi_at_builtin; refine wpListIn_append_own_at _ rfl (.tmp 8) (.tmp 10) 250 rfl w.heap.size 5 i0 (.int .u8 0) 1 1 Tryz.underlying250 af ah ai aj rfl (by decide) v b.length (u8s b) rfl HA.out ⟨W.heap.size, 0, none⟩ 1 1 (u8s [x]) rfl rfl (JK _ _ _) (VA _) (by unfold maxLen; omega) (by omega) (by have := p.size; simp; omega) ?_);intro v' W3 g j _ ac;have r3 := (q.alloc (.cells #[.int .u8 (x.toNat : Int)] 5)).grown j (QD HA.out (q.alloc _) (by decide));have b3 := QK (p.alloc p.size _) HA.out j (by have := p.size; simp; omega) (Nat.le_refl _);have k3 : KeepsFrom w2.heap.size W W3 := (KeepsFrom.alloc _ W (.cells #[.int .u8 (x.toNat : Int)] 5)).trans (KeepsFrom.of_own HA.out j);have e3 : W3.heap[d]? = W.heap[d]? := (j.block d (by simp; omega) (fun e => h4 e.symm)).trans (Below.heap_alloc _ _ _ h5);have l3 : W.heap.size < W3.heap.size := by have := j.size; simp at this; omega
  have n3 : v'.ownBlock ≠ some d := by
   rcases ac with h | h
   · rw [h]; exact h4
   · rw [h]; intro e; injection e; omega
  obtain ⟨A', m', c', rfl⟩ : ∃ A m c, v' = .slice A m c := Zy g;have al := r3.cellv (i := 0) (v := v) rfl;have am := r3.free 0;have nG := QD g r3 (by decide);have z := Lv g;clear g j ac hc hf;gi_wp2;have y := Q6 W3 G 0 (.slice A' m' c');refine ⟨k3.trans (KeepsFrom.of_only r3 y), ⟨(y.block d (by omega)).trans e3, by have := y.size; omega⟩, _, r3.set 0 _, ?_, Ql b3 y gG, n3, by have := y.size; omega⟩;have := QB z.out y nG;rw [← Ug] at this;simpa using this
 case stop => exact fun D c b W _ _ h _ => h.elim
 case done =>
  rintro D ys W hD rfl ⟨v, q, t, p, _, _⟩ hK;have ae := J6 (P := Tryz.prog) 250 9 5 Tryz.underlying250 Tryz.underlying5 Tryz.underlying9 _ t;have hc := q.cellv (i := 0) (v := v) rfl;have HK := Lv hK;clear hK t;gi_wp2;refine ⟨by simp, .inl ⟨_, _, rfl, run_takeDeferred HK.out, ?_⟩⟩;exact ⟨_, results_tmp rfl _ _ _, rfl, p.grown (grownBy_putObj' _ _ _) p.size (fun k e => by cases e; have := b2.size; omega)⟩
end Go.Proofs.YtkoikjnlpifbjaaGreat
namespace Go.Proofs.YtkoikjnlpifbjaaGreat
open Go.RowKit Go.Deep
theorem AjY (u : Int) : bits .xor .u64 IntKind.u64.max (IntKind.u64.wrap (u * 2)) = 18446744073709551615 - IntKind.u64.wrap (u * 2) := by
 obtain ⟨m, e, d⟩ : ∃ m : Nat, IntKind.u64.wrap (u * 2) = (m : Int) ∧ m < 18446744073709551616 := by
  rw [IntKind.wrap_u64]; exact ⟨((u * 2) % 18446744073709551616).toNat, by omega, by omega⟩
 rw [e];show IntKind.u64.wrap ((BitVec.ofInt 64 IntKind.u64.max ^^^ BitVec.ofInt 64 (m : Int)).toNat : Int) = _;have b : BitVec.ofInt 64 IntKind.u64.max = BitVec.allOnes 64 := by decide +kernel
 have c : (BitVec.ofInt 64 (m : Int)).toNat = m := by rw [BitVec.ofInt_natCast, BitVec.toNat_ofNat]; exact NM (by omega)
 rw [b, BitVec.allOnes_xor, BitVec.toNat_not, c, IntKind.wrap_u64];omega
theorem AiM (u : Int) (w : World) : Calls Tryz.prog 216 #[.int .u64 u] w fun e w' => e = .returned (.int .u64 (IntKind.u64.wrap (u * 2))) ∧ w = w' := by
 go_enter Tryz.func216, Tryz.ntmps216
 go_wp2
 go_ret
 exact ⟨rfl, rfl⟩
theorem AiN (u : Int) (w : World) : Calls Tryz.prog 217 #[.int .u64 u] w fun e w' => e = .returned (.int .u64 (bits .xor .u64 IntKind.u64.max (IntKind.u64.wrap (u * 2)))) ∧ w = w' := by
 have b : ¬ IntKind.u64.signed = true := by decide
 go_enter Tryz.func217, Tryz.ntmps217
 go_wp2
 go_ret
 exact ⟨rfl, rfl⟩
theorem Aj6 (n : Int) (hn : InI n) (h : 0 ≤ n) : IntKind.u64.wrap (IntKind.u64.wrap n * 2) = (Acq n : Int) := by
 simp only [IntKind.wrap_u64]; unfold Acq; rw [if_pos h]; have := hn.2; omega
theorem Aj5 (n : Int) (hn : InI n) (h : ¬ 0 ≤ n) : bits .xor .u64 IntKind.u64.max (IntKind.u64.wrap (IntKind.u64.wrap n * 2)) = (Acq n : Int) := by
 rw [AjY];simp only [IntKind.wrap_u64]; unfold Acq; rw [if_neg h]; have := hn.1; omega
theorem AfQ {a b : Int} (h : a = b) : Ending.returned (.int .u64 a) = .returned (.int .u64 b) := by rw [h]
theorem Aj4 (n : Int) (hn : InI n) (w : World) :
 Calls Tryz.prog 196 #[.int .i64 n] w fun e w' => e = .returned (.int .u64 (Acq n)) ∧ Below w.heap.size w w' := by
 have b := Lv hn;clear hn;go_enter Tryz.func196, Tryz.ntmps196
 go_wp2_with (refine QE _ rfl ?_)
 refine Stop.to ?_;refine Qi rfl 302 rfl _ _ rfl rfl ?_;intro g x h m j;go_wp2_with (refine Qp _ _ _ rfl ?_)
 refine Stop.to ?_;refine Qk rfl 302 _ _ rfl g #[.func (.func 216) #[] #[], .func (.func 217) #[] #[]] rfl rfl 302 _ m (by kernel_rfl) rfl (by kernel_rfl) ?_;intro p o l;have k := Ql ((Below.refl w.heap.size w).trans (j.mono h)) l h;have t := o.cellv (i := 0) (v := .func (.func 216) #[] #[]) rfl;have u := o.cellv (i := 1) (v := .func (.func 217) #[] #[]) rfl;clear l m j h;by_cases c : 0 ≤ n
 · have q : IntKind.u64.wrap n / 9223372036854775808 = 0 := by rw [IntKind.wrap_u64]; have := b.out.1; have := b.out.2; omega
   have d := Lv c;clear c;go_wp2_with fail
   refine (AiM _ p).mono ?_;rintro e s ⟨rfl, rfl⟩;go_wp2_with fail
   go_ret
   exact ⟨AfQ (Aj6 n b.out d.out), k⟩
 · have q : IntKind.u64.wrap n / 9223372036854775808 = 1 := by rw [IntKind.wrap_u64]; have := b.out.1; have := b.out.2; omega
   have d := Lv c;clear c;go_wp2_with fail
   refine (AiN _ p).mono ?_;rintro e s ⟨rfl, rfl⟩;go_wp2_with fail
   go_ret
   exact ⟨AfQ (Aj5 n b.out (by have := d.out; omega)), k⟩
theorem Afl (n : Int) (hn : InI n) (w : World) :
 Calls Tryz.prog 160 #[.int .i64 n] w fun e w' => e = .returned (.string ⟨(zz n).toArray⟩) ∧ Below w.heap.size w w' := by
 have b := Lv hn;clear hn;go_enter Tryz.func160, Tryz.ntmps160
 go_wp2_with fail
 refine (Aj4 n b.out w).mono ?_;rintro e g ⟨rfl, c⟩;go_wp2_with fail
 refine (EH (Acq n) (Aj3 b.out) g).mono ?_;rintro e h ⟨rfl, d⟩;go_wp2_with fail
 go_ret
 exact ⟨rfl, c.trans (d.mono c.size)⟩
def Wr (W : World) (B g : Nat) (l : List UInt8) : Prop := B ≤ g ∧ ∃ v, Row W g 259 #[v] ∧ W.ownsRow B 5 1 v l.length (u8s l)
structure WrEff (B g : Nat) (w w' : World) : Prop where
 os : w'.os = w.os
 tape : w'.tape = w.tape
 output : w'.output = w.output
 size : w.heap.size ≤ w'.heap.size
 block : ∀ k, k < w.heap.size → k ≠ g → (∀ cs, B ≤ k → ¬ Row w k 5 cs) → w'.heap[k]? = w.heap[k]?
theorem WrEff.of_below {B g : Nat} {w w' : World} (b : Below w.heap.size w w') : WrEff B g w w' := ⟨b.os, b.tape, b.output, b.size, fun k hk _ _ => b.block k hk⟩
theorem WrEff.refl (B g : Nat) (w : World) : WrEff B g w w := ⟨rfl, rfl, rfl, Nat.le_refl _, fun _ _ _ _ => rfl⟩
theorem WrEff.trans {B g : Nat} {a b c : World} (h : WrEff B g a b) (k : WrEff B g b c) : WrEff B g a c :=
 ⟨k.os.trans h.os, k.tape.trans h.tape, k.output.trans h.output, Li h.size k.size, fun i hi hg hr => by
  have e := h.block i hi hg hr
  refine (k.block i (Lg hi h.size) hg (fun cs hB hrow => hr cs hB ?_)).trans e
  rw [Row] at hrow ⊢; rw [← e]; exact hrow⟩
theorem WrEff.row {B g k : Nat} {w w' : World} {t : TypeId} {cs : Array Value} (h : WrEff B g w w') (hr : Row w k t cs) (hg : k ≠ g) (ht : t ≠ 5) : Row w' k t cs :=
 (h.block k hr.lt hg (fun cs' _ h' => ht (by rw [Row] at hr h'; rw [hr] at h'; injection h' with h'; injection h' with _ h''))).trans hr
theorem WrEff.below {B g : Nat} {w w' : World} (h : WrEff B g w w') (hB : B ≤ g) (hs : B ≤ w.heap.size) : Below B w w' :=
 ⟨h.os, h.tape, h.output, h.size, fun k hk => h.block k (by omega) (by omega) (fun _ hb _ => by omega)⟩
theorem WrEff.keeps {B g C : Nat} {w w' : World} {t : TypeId} {cs : Array Value} (h : WrEff B g w w') (hg : Row w g t cs) : KeepsFrom C w w' :=
 ⟨h.size, fun k o _ hk ho => (h.block k (Lt.1 hk).1 (fun e => by subst e; rw [hg] at hk; cases hk; cases ho) (fun cs' _ h' => by rw [Row] at h'; rw [h'] at hk; cases hk; cases ho)).trans hk⟩
theorem Wr.go {W W' : World} {B g : Nat} {l : List UInt8} (h : Wr W B g l) (b : Below W.heap.size W W') : Wr W' B g l := by
 obtain ⟨d, v, c, e⟩ := h;exact ⟨d, v, c.below b c.lt, Qy e b⟩
instance St.wr {B g : Nat} {l : List UInt8} : St (fun W => Wr W B g l) := ⟨fun h b => h.go b⟩
theorem Wr.lt {W : World} {B g : Nat} {l : List UInt8} (h : Wr W B g l) : g < W.heap.size := by obtain ⟨_, v, h1, _⟩ := h; exact h1.lt
theorem WrEff.of_own {B g n : Nat} {w w' : World} {v : Value} {xs : List Value} (h : w.ownsRow B 5 1 v n xs) (hg : w.grownBy w' v.ownBlock) : WrEff B g w w' :=
 ⟨hg.os, hg.tape, hg.output, hg.size, fun k hk _ hr => hg.block k hk (fun e => by
  rcases h.2 with ⟨rfl, _⟩ | ⟨g', cap, cur, rfl, hB, hh, _⟩
  · simp [Value.ownBlock] at e
  · have : g' = k := by simpa [Value.ownBlock] using e.symm
    subst this
    exact hr _ hB hh)⟩
theorem WrEff.of_only {B g : Nat} {w w' : World} (o : Only g w w') : WrEff B g w w' := ⟨o.os, o.tape, o.output, LM o.size.symm, fun k _ hk _ => o.block k hk⟩
theorem Ad6 (w : World) :
 Calls Tryz.prog 121 #[] w fun e w' => e = .returned (.pointer (some ⟨w.heap.size, 0, none⟩)) ∧ Wr w' w.heap.size w.heap.size [] ∧ Below w.heap.size w w' := by
 go_enter Tryz.func121, Tryz.ntmps121
 go_wp2
 go_ret
 exact ⟨rfl, ⟨Nat.le_refl _, .slice none 0 0, Row.new _ _ _, World.ownsRow_nil _ _ _ _⟩, (Below.refl _ _).alloc (Nat.le_refl _) _⟩
theorem AdV (s : ByteArray) : Lib.strCells s = u8s s.data.toList := by
 rfl
theorem AfO (B g : Nat) (l : List UInt8) (s : ByteArray) (hl : l.length ≤ 1000000) (hs : s.size ≤ 1000000) (w : World) (h : Wr w B g l) :
 Calls Tryz.prog 158 #[.pointer (some ⟨g, 0, none⟩), .string s] w fun e w' => e = .returned (.pointer (some ⟨g, 0, none⟩)) ∧ Wr w' B g (l ++ s.data.toList) ∧ WrEff B g w w' := by
 obtain ⟨i0, u, x, y, z⟩ := info_parts VM;obtain ⟨n, v, o, j⟩ := h;have hc := o.cellv (i := 0) (v := v) rfl;have hf := o.free 0;have q : B ≤ w.heap.size := Nat.le_of_lt (ND n o.lt);have d := Lv j;clear j;go_enter Tryz.func158, Tryz.ntmps158
 go_wp2_with (at_builtin; refine Lib.wpList_append_own_string w rfl (.tmp 9) (.tmp 10) 250 9 rfl B 5 i0 Tryz.underlying250 Tryz.underlying9 u x y z v l.length (u8s l) rfl d.out s rfl (by unfold maxLen; omega) (by omega) q ?_)
 intro v' w1 b t _;have p := o.grown t (QD d.out o (by decide));have e1 := WrEff.of_own (g := g) d.out t;obtain ⟨A', m', c', rfl⟩ : ∃ A m c, v' = .slice A m c := Zy b;have aa := p.cellv (i := 0) (v := v) rfl;have ab := p.free 0;have nG := QD b p (by decide);have k := Lv b;clear b t hc hf;go_wp2
 go_ret
 have o2 := Q6 w1 g 0 (.slice A' m' c');refine ⟨rfl, ⟨n, _, p.set 0 _, ?_⟩, e1.trans (WrEff.of_only o2)⟩;have := QB k.out o2 nG;rw [AdV, ← Ug] at this;simpa using this
theorem Ajw (B g : Nat) (l : List UInt8) (n : Nat) (hl : l.length ≤ 1000000) (hn : n < 18446744073709551616) (w : World) (h : Wr w B g l) :
 Calls Tryz.prog 122 #[.pointer (some ⟨g, 0, none⟩), .int .u64 n] w fun e w' => e = .returned (.pointer (some ⟨g, 0, none⟩)) ∧ Wr w' B g (l ++ U5 n) ∧ WrEff B g w w' := by
 have c := Lv hn;clear hn;go_enter Tryz.func122, Tryz.ntmps122
 go_wp2_with fail
 refine (EH n c.out w).mono ?_;rintro e j ⟨rfl, b⟩;go_wp2_with fail
 refine (AfO B g l _ hl (by rw [VU]; have := Uw n; omega) j (h.go b)).mono ?_;rintro e k ⟨rfl, i, d⟩;go_wp2_with fail
 go_ret
 exact ⟨rfl, i, (WrEff.of_below b).trans d⟩
theorem Ajl (B g : Nat) (l : List UInt8) (n : Int) (hl : l.length ≤ 1000000) (hn : InI n) (w : World) (h : Wr w B g l) :
 Calls Tryz.prog 123 #[.pointer (some ⟨g, 0, none⟩), .int .i64 n] w fun e w' => e = .returned (.pointer (some ⟨g, 0, none⟩)) ∧ Wr w' B g (l ++ zz n) ∧ WrEff B g w w' := by
 have c := Lv hn;clear hn;go_enter Tryz.func123, Tryz.ntmps123
 go_wp2_with fail
 refine (Afl n c.out w).mono ?_;rintro e j ⟨rfl, b⟩;go_wp2_with fail
 refine (AfO B g l _ hl (by rw [VU]; have := Uk n; omega) j (h.go b)).mono ?_;rintro e k ⟨rfl, i, d⟩;go_wp2_with fail
 go_ret
 exact ⟨rfl, i, (WrEff.of_below b).trans d⟩
theorem Ad9 (B g : Nat) (l : List UInt8) (w : World) (h : Wr w B g l) :
 Calls Tryz.prog 125 #[.pointer (some ⟨g, 0, none⟩)] w fun e w' => e = .returned (.string ⟨l.toArray⟩) ∧ w = w' := by
 obtain ⟨d, v, j, b⟩ := h;have k := j.cellv (i := 0) (v := v) rfl;have c := J6 (P := Tryz.prog) 250 9 5 Tryz.underlying250 Tryz.underlying5 Tryz.underlying9 _ b;clear b;go_enter Tryz.func125, Tryz.ntmps125
 go_wp2_with fail
 go_ret
 exact ⟨rfl, rfl⟩
end Go.Proofs.YtkoikjnlpifbjaaGreat
