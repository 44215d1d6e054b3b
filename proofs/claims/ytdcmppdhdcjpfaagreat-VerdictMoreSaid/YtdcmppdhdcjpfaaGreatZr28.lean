/- Lemmas for VerdictMoreP. -/
import Derived.Test.YtdcmppdhdcjpfaaGreatZr26
import Derived.Test.YtdcmppdhdcjpfaaGreatZr27
import Derived.Test.YtdcmppdhdcjpfaaGreatZr7
import Derived.Test.YtdcmppdhdcjpfaaGreatZr2
import Derived.Test.YtdcmppdhdcjpfaaGreatZr23
import Derived.Test.YtdcmppdhdcjpfaaGreatZr1
import Derived.Laws.Tables
import Derived.Test.YtdcmppdhdcjpfaaGreatRows
import Derived.Maps.OwnIn
import Derived.Lib.AppendStr
set_option linter.unusedVariables false
set_option linter.unusedSimpArgs false
set_option maxRecDepth 100000
set_option maxHeartbeats 16000000
namespace Go.Proofs.YtdcmppdhdcjpfaaGreat
open Go.RowKit Go.Deep
theorem KQ {p : PgV} {n : Nat} {fuel : Int} (h : Zr p n fuel = 0) : ∃ t, Good p t ∧ (n : Int) = p.params ∧ 0 ≤ fuel ∧ fuel ≤ 10000 := by
 by_cases hg : ∃ t, Good p t
 · obtain ⟨t, ht⟩ := hg
   rw [Kf ht] at h
   refine ⟨t, ht, ?_⟩
   split at h
   · cases h
   · split at h
     · cases h
     · omega
 · rw [JA (fun t ht => hg ⟨t, ht⟩)] at h; cases h
theorem Agf (p : PgV) (t : Tr) (aa : Option Addr) (acap : Nat) (args : List Int) (fuel : Int) (fin : Mm) (w : World) (hbl : p.body.length ≤ 1000) (hn : args.length ≤ 1000) (hok : p.ok w) (hra : Rd w aa (Qi args)) (hg : Good p t)
 (hc : Zr p args.length fuel = 0) (hfin : Reach (ZN 0 t ⟨ZR p.V args fuel.toNat, []⟩) fin) (ho : fin.s.out.isSome = true) :
 Calls Tryz.prog 20 #[.agg p.cells, .slice aa args.length acap, .int .i64 fuel] w fun e w' => RunR fin w w' e := by
 obtain ⟨_, _, h1, h2⟩ := KQ hc
 exact Agg p t aa acap args fuel fin w hbl hn hok hg hc (fun w' hok' b => Ae9 p aa acap args fuel w' hbl hn hok' hg.vars h1 h2 (hra.go b)) hfin ho
theorem Aci (p : PgV) (aa : Option Addr) (acap n : Nat) (fuel : Int) (w : World) (hbl : p.body.length ≤ 1000) (hn : n ≤ 1000) (hok : p.ok w) (hc : Zr p n fuel ≠ 0) :
 Calls Tryz.prog 20 #[.agg p.cells, .slice aa n acap, .int .i64 fuel] w fun e w' => e = .returned (.tuple #[.agg #[.int .i64 0, .int .i64 0, .int .i64 0, .slice none 0 0], .int .i64 (Zr p n fuel)]) ∧ Below w.heap.size w w' := by
 have Hok := Lh hok
 have Hbl := Lh hbl
 have Hn := Lh hn
 obtain ⟨cz, hcz⟩ : ∃ cz, Zr p n fuel = cz := ⟨_, rfl⟩
 have Hcz := Lh hcz
 rw [hcz] at hc ⊢
 have ec : (cz == 0) = false := by simpa using hc
 clear hok hbl hn hcz hc
 go_enter Tryz.func20, Tryz.ntmps20
 go_wp2_with (refine Qp _ _ rfl ?_)
 refine Stop.to ?_
 refine Qf rfl 25 _ rfl p.cells rfl ?_
 intro G w1 hG r1 b1
 replace b1 := (Below.refl w.heap.size w).trans (b1.mono hG)
 clear hG
 go_wp2_with (refine QY _ rfl ?_)
 refine Stop.to ?_
 refine Ql rfl 40 rfl _ _ Aav rfl ?_
 intro RB w2 hRB rB b2
 replace r1 := r1.below (b2.mono hRB) r1.lt
 have hRBw : w.heap.size ≤ RB := Nat.le_trans b1.size hRB
 replace b2 := b1.trans ((b2.mono hRB).mono b1.size)
 have R1 := Lh r1
 have RB2 := Lh rB
 have B2 := Lh b2
 clear r1 b1 b2 rB hRB
 go_wp2_with fail
 refine wp_scope_straight ?_
 go_wp2_with (refine wpList_load_row rfl 25 _ rfl G rfl 25 p.cells (0, 0) _ R1.out Tryz.underlying25 rfl (by kernel_rfl) ?_)
 refine (VA p aa acap n fuel Hbl.out Hn.out w2 (Hok.out.go B2.out)).mono ?_
 rintro e w3 ⟨rfl, b3⟩
 rw [Hcz.out]
 have RB3 := Lh (RB2.out.below b3 RB2.out.lt)
 have B3 := Lh (B2.out.trans (b3.mono B2.out.size))
 clear b3 R1 RB2 B2
 go_wp2_with (refine QD _ _ _ rfl ?_)
 refine Stop.to ?_
 refine Qk rfl 40 _ _ rfl RB #[.int .i64 0, .int .i64 0, .int .i64 0, .slice none 0 0] rfl rfl 40 _ RB3.out (by kernel_rfl) rfl (UW 0 0 0 rfl) ?_
 intro W9 r9 o9
 go_wp2_with fail
 rw [Exit.noGoto_ret]
 refine bodyPost_ret (QS Tryz.results20 _ _ RB 40 _ (0, 0) _ rfl r9 Tryz.underlying40 rfl (by kernel_rfl)) rfl ?_
 exact ⟨rfl, Qo B3.out o9 hRBw⟩
theorem Agh {p : PgV} {t : Tr} {w : World} (hok : p.ok w) (hg : Good p t) : okO p.V t := by
 refine ⟨hg.hat.fits, by rw [hg.kind]; omega, fun x hx => ?_⟩
 obtain ⟨r, hr⟩ := hg.hat.here
 rw [List.drop_zero] at hr
 exact (hok.bin x (by rw [hr]; exact List.mem_append_left _ hx)).2
theorem AfD {p : PgV} {t : Tr} {w : World} {args : List Int} {F : Nat} (hok : p.ok w) (hg : Good p t) (hv : JS p.params p.V) (hl : (args.length : Int) = p.params) (hin : ∀ a ∈ args, InI a) : OkS p.V (ZR p.V args F) := by
 refine ⟨by simp [ZR, JU], by simp [ZR, EL], fun i t v h1 h2 => ?_, fun i t a h1 h2 => ?_, fun e he => by simp [ZR] at he, fun k v h => by simp [ZR] at h, by have := hv.2.2.1; omega⟩
 · have hil : i < p.V.length := (List.getElem?_eq_some_iff.1 h1).1
   simp only [ZR, JU, List.getElem?_map, List.getElem?_range hil, Option.map_some, Option.some.injEq] at h2
   subst h2
   by_cases hi : i < args.length
   · have e : args.getD i 0 = args[i] := by simp [List.getD, List.getElem?_eq_getElem hi]
     refine ⟨by rw [e]; exact hin _ (List.getElem_mem _), fun ht => ?_⟩
     have := hv.2.2.2 i hil
     rw [List.getD_eq_getElem?_getD, h1, Option.getD_some] at this
     simp only [XP, decide_eq_true_eq] at this
     omega
   · have e : args.getD i 0 = 0 := by simp [List.getD, List.getElem?_eq_none (show args.length ≤ i by omega)]
     rw [e]
     exact ⟨ZV, fun _ => .inl rfl⟩
 · simp only [ZR, EL, List.getElem?_map, h1, Option.map_some, Option.some.injEq] at h2
   subst h2
   refine ⟨?_, fun x hx => ?_⟩
   · rw [List.length_replicate]; unfold QU; split <;> omega
   · rw [(List.mem_replicate.1 hx).2]; exact ZV
theorem RChg.new {L : Lay} {B : Nat} {W W' : World} {ev' : Value} (h : RChg L (.slice none 0 0) W ev' W') (n : LNew B L) (hB : B ≤ W.heap.size) : Below B W W' :=
 ⟨h.os, h.tape, h.output, h.size, fun k hk => h.block k (by omega) (by have := n.m; omega) (fun e => by have := n.vv k e; omega) (fun e => by have := n.ab k e; omega) (by simp [Value.ownBlock])⟩
theorem Big.det {t : Tr} {s a b : Ms} {u v : Int} (h : Big (.one t) s u a) (k : Big (.one t) s v b) : u = v ∧ a = b := by
 have h1 := h.ev (s.fuel + 1) (by omega)
 have h2 := k.ev (s.fuel + 1) (by omega)
 rw [h1] at h2
 exact ⟨congrArg Prod.fst h2, congrArg Prod.snd h2⟩
def IsRun (p : PgV) (args : List Int) (fuel : Int) (s : Ms) : Prop := ∃ t v s', Good p t ∧ Big (.one t) (ZR p.V args fuel.toNat) v s' ∧ s = s'.stopped 3 0
theorem IsRun.det {p : PgV} {args : List Int} {fuel : Int} {a b : Ms} (h : IsRun p args fuel a) (k : IsRun p args fuel b) : a = b := by
 obtain ⟨t, v, s, g, hb, rfl⟩ := h
 obtain ⟨t', v', s', g', hb', rfl⟩ := k
 have := g.hat.uniq g'.hat
 subst this
 rw [(hb.det hb').2]
def AgX : Ms := ⟨[], [], 0, 0, [], none⟩
open Classical in
noncomputable def Z2 (p : PgV) (args : List Int) (fuel : Int) : Ms := if h : Zr p args.length fuel = 0 ∧ ∃ s, IsRun p args fuel s then h.2.choose else AgX
theorem UV {p : PgV} {args : List Int} {fuel : Int} (h : Zr p args.length fuel ≠ 0) : Z2 p args fuel = AgX := by
 unfold Z2; rw [dif_neg (fun k => h k.1)]
theorem Aa5 {p : PgV} {args : List Int} {fuel : Int} {s : Ms} (h : Zr p args.length fuel = 0) (k : IsRun p args fuel s) : Z2 p args fuel = s := by
 unfold Z2
 rw [dif_pos ⟨h, s, k⟩]
 exact (Exists.choose_spec (p := fun s => IsRun p args fuel s) ⟨s, k⟩).det k
structure RunK (p : PgV) (args : List Int) (fuel : Int) (t : Tr) (v : Int) (s' : Ms) : Prop where
 good : Good p t
 big : Big (.one t) (ZR p.V args fuel.toNat) v s'
 eq : Z2 p args fuel = s'.stopped 3 0
 oks : OkS p.V s'
 init : OkS p.V (ZR p.V args fuel.toNat)
 okO : okO p.V t
theorem Aa4 {p : PgV} {args : List Int} {fuel : Int} {w : World} (hok : p.ok w) (hin : ∀ a ∈ args, InI a) (h : Zr p args.length fuel = 0) : ∃ t v s', RunK p args fuel t v s' := by
 obtain ⟨t, hg, hl, h0, h1⟩ := KQ h
 have h2 := Agh hok hg
 have h3 := AfD (F := fuel.toNat) hok hg hg.vars hl hin
 obtain ⟨v, s', hb⟩ := Aay p.V (fuel.toNat + 1) (ZR p.V args fuel.toNat) (by simp [ZR]) h3 t h2
 exact ⟨t, v, s', hg, hb, Aa5 h ⟨t, v, s', hg, hb, rfl⟩, (hb.inv (g := .one t) h2 h3).1, h3, h2⟩
theorem RunK.fin {p : PgV} {args : List Int} {fuel : Int} {t : Tr} {v : Int} {s' : Ms} (h : RunK p args fuel t v s') : ∃ fin : Mm, Reach (ZN 0 t ⟨ZR p.V args fuel.toNat, []⟩) fin ∧ fin.s.out.isSome = true ∧ fin.s = s'.stopped 3 0 := by
 obtain ⟨m, h1, h2, h3⟩ := sim h.big h.okO h.init rfl 0 [] (fun hk => absurd h.good.kind hk)
 cases ho : s'.out with
 | some o =>
  refine ⟨m, h1, by rw [h2, ho]; rfl, ?_⟩
  rw [h2]; unfold Ms.stopped; rw [ho]; rfl
 | none =>
  have hs := h3 ho
  have hm : m = ⟨s', []⟩ := by cases m; simp only at h2 hs; subst h2; rw [hs, told]
  refine ⟨⟨s'.stop 3 0, []⟩, h1.trans (.one (by rw [h2]; exact ho) (by rw [hm]; exact .done s')), rfl, ?_⟩
  unfold Ms.stopped; rw [ho]; rfl
structure RunA (s : Ms) (err : Int) (w w' : World) (e : Ending) : Prop where
 ex : ∃ A cap, e = .returned (.tuple #[.agg #[.int .i64 (s.out.getD (0, 0)).1, .int .i64 (s.out.getD (0, 0)).2, .int .i64 (s.steps : Int), .slice A s.evs.length cap], .int .i64 err]) ∧ Rd w' A (s.evs.flatMap EvV.cells) ∧ s.evs.length ≤ cap ∧ cap ≤ maxLen ∧ (A = none → cap = 0) ∧ Below w.heap.size w w'
theorem Aiy {w : World} {base n size : Nat} {e : TypeId} {v : Value} {xs : List Value} (h : w.ownsRow base e size v n xs) : ∃ A cap, v = .slice A n cap ∧ Rd w A xs ∧ n ≤ cap ∧ cap ≤ maxLen ∧ (A = none → cap = 0) := by
 rcases h.2 with ⟨rfl, rfl⟩ | ⟨g, cap, cur, rfl, _, hh, hc, hm, _, ht⟩
 · have h1 := h.1
   simp at h1
   subst h1
   exact ⟨none, 0, rfl, Rd.nil _ _, Nat.le_refl _, Nat.zero_le _, fun _ => rfl⟩
 · refine ⟨some ⟨g, 0, none⟩, cap, rfl, fun j u hj => ⟨_, rfl, ?_⟩, hc, hm, fun h => by cases h⟩
   have hr : Row w g e cur := hh
   have hjl : j < xs.length := (List.getElem?_eq_some_iff.1 hj).1
   rw [← ht] at hj hjl
   have hjt := hjl
   rw [List.length_take] at hjt
   rw [List.getElem?_take_of_lt (by omega)] at hj
   have : w.cell? ⟨g, j, none⟩ = some u := hr.cellv (by rw [← Array.getElem?_toList]; exact hj)
   unfold Addr.add
   by_cases h0 : j = 0
   · subst h0; exact this
   · rw [if_neg h0]; simpa using this
theorem RunR.a {fin : Mm} {w w' : World} {e : Ending} (h : RunR fin w w' e) : RunA fin.s 0 w w' e := by
 obtain ⟨ev, rfl, hown, hb⟩ := h.ex
 obtain ⟨A, cap, rfl, h1, h2, h3, h4⟩ := Aiy hown
 exact ⟨A, cap, rfl, h1, h2, h3, h4, hb⟩
theorem RunA.bad {p : PgV} {args : List Int} {fuel : Int} {w w' : World} {e : Ending} (h : Zr p args.length fuel ≠ 0) (he : e = .returned (.tuple #[.agg #[.int .i64 0, .int .i64 0, .int .i64 0, .slice none 0 0], .int .i64 (Zr p args.length fuel)]) ∧ Below w.heap.size w w') : RunA (Z2 p args fuel) (Zr p args.length fuel) w w' e := by
 obtain ⟨rfl, hb⟩ := he
 rw [UV h]
 exact ⟨none, 0, rfl, Rd.nil _ _, Nat.le_refl _, Nat.zero_le _, fun _ => rfl, hb⟩
theorem AiZ (p : PgV) (aa : Option Addr) (acap : Nat) (args : List Int) (fuel : Int) (w : World) (hbl : p.body.length ≤ 1000) (hn : args.length ≤ 1000) (hok : p.ok w) (hra : Rd w aa (Qi args)) (hin : ∀ a ∈ args, InI a) :
 Calls Tryz.prog 20 #[.agg p.cells, .slice aa args.length acap, .int .i64 fuel] w fun e w' => RunA (Z2 p args fuel) (Zr p args.length fuel) w w' e := by
 by_cases hc : Zr p args.length fuel = 0
 · obtain ⟨t, v, s', hk⟩ := Aa4 hok hin hc
   obtain ⟨fin, h1, h2, h3⟩ := hk.fin
   refine (Agf p t aa acap args fuel fin w hbl hn hok hra hk.good hc h1 h2).mono fun e w' h => ?_
   rw [hk.eq, hc, ← h3]
   exact h.a
 · exact (Aci p aa acap args.length fuel w hbl hn hok hc).mono fun e w' h => .bad hc h
theorem ED (s : Ms) : (s.stopped 3 0).steps = s.steps := by unfold Ms.stopped; split <;> rfl
theorem AcE (s : Ms) : (s.stopped 3 0).evs = s.evs := by unfold Ms.stopped; split <;> rfl
theorem Abc {s : Ms} {o : Int × Int} (h : s.out = some o) : s.stopped 3 0 = s := by unfold Ms.stopped; rw [h]; rfl
theorem Abb {s : Ms} (h : s.out = none) : s.stopped 3 0 = s.stop 3 0 := by unfold Ms.stopped; rw [h]; rfl
theorem RunK.steps {p : PgV} {args : List Int} {fuel : Int} {t : Tr} {v : Int} {s' : Ms} (h : RunK p args fuel t v s') : s'.fuel + s'.steps = fuel.toNat := by
 have := h.big.ext.sum
 simpa [ZR] using this
theorem RunK.kind {p : PgV} {args : List Int} {F : Int} {t : Tr} {v : Int} {s : Ms} (h : RunK p args F t v s) : ∃ k x, (Z2 p args F).out = some (k, x) ∧ ((k = 0 ∧ InI x) ∨ (1 ≤ k ∧ k ≤ 4 ∧ x = 0)) ∧ ∀ e ∈ (Z2 p args F).evs, OkE p.V e := by
 rw [h.eq]
 cases he : s.out with
 | none =>
  rw [Abb he]
  exact ⟨3, 0, rfl, .inr ⟨by omega, by omega, rfl⟩, h.oks.evs⟩
 | some o =>
  rw [Abc he, he]
  exact ⟨o.1, o.2, rfl, h.oks.out o.1 o.2 he, h.oks.evs⟩
def Ym (k v : Int) : List Value := [.int .i64 k, .int .i64 v]
theorem Uh {W : World} {G : Nat} {r : RunV} (h : Row W G 40 r.cells) : ∀ j v, (Ym r.kind r.value)[j]? = some v → W.cell? ((⟨G, 0, none⟩ : Addr).add j) = some v :=
 Row.from_ (cur := r.cells) h 0 (fun j v hj => by
  match j, hj with
  | 0, hj | 1, hj => exact hj)
def Rd3 (r : RunV) (W : World) : Prop := Rd W r.addr (r.evs.flatMap EvV.cells)
instance St.rd3 {r : RunV} : St (Rd3 r) := ⟨fun h b => Rd.go h b⟩
def Ms.rv (s : Ms) (A : Option Addr) (cap : Nat) : RunV := ⟨(s.out.getD (0, 0)).1, (s.out.getD (0, 0)).2, s.steps, A, cap, s.evs⟩
theorem AeE (p : PgV) (args : List Int) (fuel : Int) : (Z2 p args fuel).evs.length ≤ 10000 := by
 unfold Z2
 split
 · rename_i h
   obtain ⟨t, v, s', _, hb, he⟩ := h.2.choose_spec
   rw [he, AcE]
   obtain ⟨_, _, _, h0, h1⟩ := KQ h.1
   have h2 := hb.ext.few
   have h3 := hb.ext.sum
   simp only [ZR, List.length_nil] at h2 h3
   omega
 · exact Nat.zero_le _
theorem AhT (p : PgV) (args : List Int) (fuel : Int) : (Z2 p args fuel).evs.length ≤ 1000000 := Nat.le_trans (AeE p args fuel) (by omega)
attribute [local go_sem] Oper.semAt_some
def Ail (w : World) (b : Nat) : Nat := match w.cell? ⟨b, 0, none⟩ with | some (.int _ n) => n.toNat | _ => 0
theorem AhG (n : Nat) : bits .or .u8 (((n % 256 : Nat) : Int)) 128 = ((UInt8.ofNat (128 + n % 128)).toNat : Int) := by
 have h : ∀ m : Nat, m < 256 → bits .or .u8 (m : Int) 128 = ((128 + m % 128 : Nat) : Int) := by decide +kernel
 rw [h (n % 256) (by omega)]
 have : (UInt8.ofNat (128 + n % 128)).toNat = 128 + n % 128 := by simp; omega
 rw [this]; omega
theorem AiD (n : Nat) : ((n % 256 : Nat) : Int) = ((UInt8.ofNat n).toNat : Int) := by simp
theorem AaG (bs : Nat) (n : Nat) (hn : n < 18446744073709551616) (w : World) (hrow : Row w bs 219 #[.int .u64 n]) :
 Abr Tryz.prog 273 #[.pointer (some ⟨bs, 0, none⟩)] (fun x : UInt8 => #[.int .u8 (x.toNat : Int)]) (· = bs) (fun A B => B.heap[bs]? = A.heap[bs]? ∧ A.heap.size ≤ B.heap.size) (fun xs => xs = Ud n) (fun _ => True) 10 w := by
 intro l J Jx W _ hwW hJ hJx hY h0
 refine callsIn_of_wp Tryz.func273 rfl trivial ?_ rfl
 simp only [Tryz.ntmps273, List.size_toArray, List.length_cons, List.length_nil, Nat.reduceAdd, Nat.reduceSub, Array.replicate_succ, Array.replicate_zero, List.push_toArray, List.append_toArray, List.nil_append, List.cons_append]
 gi_wp2
 have hrW : Row W bs 219 #[.int .u64 n] := (hwW.block bs hrow.lt (by simp)).trans hrow
 have hn10 : n < 128 ^ 10 := by have e : (128 : Nat) ^ 10 = 1180591620717411303424 := by decide
                                rw [e]; omega
 have Hn := Lh hn
 have Hn10 := Lh hn10
 clear hrow hwW hn hn10
 gi_loopw [3, 4] (fun _ _ wr => ∃ (f m : Nat) (pre : List UInt8), pre ++ Vw (f + 1) m = Ud n ∧ m < 128 ^ (f + 1) ∧ m < 18446744073709551616 ∧ pre.length + (f + 1) = 10 ∧ Row wr bs 219 #[.int .u64 m] ∧ J pre wr) (fun _ _ wr => Ail wr bs)
 case atStart => exact ⟨9, n, [], rfl, Hn10.out, Hn.out, rfl, hrW, h0⟩
 case round =>
  clear hrW h0
  obtain ⟨f, m, pre, hpre, hm, hm64, hlen, hr, hj⟩ := hrel
  have Hpre := Lh hpre
  have Hm := Lh hm
  have Hlen := Lh hlen
  have Hm64 := Lh hm64
  clear hpre hm hlen hm64
  have hc := hr.cellv (i := 0) (v := .int .u64 (m : Int)) rfl
  have hf := hr.free 0
  have hlen' : pre.length < 10 := by have := Hlen.out; omega
  by_cases h128 : m < 128
  · obtain ⟨c, hcd⟩ : ∃ c : UInt8, c = UInt8.ofNat m := ⟨_, rfl⟩
    have hx : ((c.toNat : Nat) : Int) = (m : Int) := by rw [hcd, ← AiD]; omega
    obtain ⟨fn, tmps, assign, body, hy, hR⟩ := hY _ c _ hj hlen'
    rw [hx] at hy
    have HR := Lh hR
    have Hcd := Lh hcd
    have hlt : ((m : Nat) : Int) < 128 := by omega
    clear hR hcd hx h128
    gi_wp2
    refine ⟨rfl, HR.out.mono ?_⟩
    rintro e W' (⟨rfl, hj3, hk3, hs3⟩ | ⟨rfl, hjx⟩)
    · gi_wp2
      go_end0
      refine ⟨⟨_, rfl⟩, .inl ⟨_, ?_, hj3⟩⟩
      rw [← Hpre.out, Adu f m (by omega), Hcd.out]
    · gi_wp2
      go_end0
      exact ⟨⟨_, rfl⟩, .inr ⟨_, trivial, hjx⟩⟩
  · obtain ⟨c, hcd⟩ : ∃ c : UInt8, c = UInt8.ofNat (128 + m % 128) := ⟨_, rfl⟩
    have hx : ((c.toNat : Nat) : Int) = bits .or .u8 ((m : Int) % 256) 128 := by
     have e : (m : Int) % 256 = ((m % 256 : Nat) : Int) := by omega
     rw [hcd, e, AhG]
    obtain ⟨fn, tmps, assign, body, hy, hR⟩ := hY _ c _ hj hlen'
    rw [hx] at hy
    have HR := Lh hR
    have Hcd := Lh hcd
    have hlt : 128 ≤ ((m : Nat) : Int) := by omega
    clear hR hcd hx h128
    gi_wp2
    have hbig := Aga f m (by omega)
    have hf1 : 0 < f := by
     rcases Nat.eq_zero_or_pos f with rfl | h0
     · have := Hm.out; simp at this; omega
     · exact h0
    obtain ⟨f, rfl⟩ : ∃ f', f = f' + 1 := ⟨f - 1, by omega⟩
    have Hbig := Lh hbig
    clear hbig hf1
    refine ⟨rfl, HR.out.mono ?_⟩
    rintro e W' (⟨rfl, hj3, hk3, hs3⟩ | ⟨rfl, hjx⟩)
    · have hr3 : Row W' bs 219 #[.int .u64 m] := hk3.trans hr
      have hc3 := hr3.cellv (i := 0) (v := .int .u64 (m : Int)) rfl
      have hf3 := hr3.free 0
      have Hj3 := Lh hj3
      clear hj3 hk3 hj hy hf hc
      gi_wp2
      have hdiv : (m : Int) / 128 = ((m / 128 : Nat) : Int) := by omega
      go_roundw
      case rel =>
       refine ⟨f, m / 128, pre ++ [c], ?_, ?_, ?_, ?_, ?_, ?_⟩
       · rw [← Hpre.out, Hbig.out, Hcd.out]; simp
       · have := Hm.out; rw [Nat.pow_succ] at this; omega
       · have := Hm64.out; omega
       · have := Hlen.out; simp; omega
       · rw [← hdiv]; exact hr3.set 0 _
       · exact hJ _ _ _ (some bs) Hj3.out (grownBy_setCell' _ _ _) (fun r e => by cases e; exact .inl rfl)
      case measure =>
       have h1 := (hr3.set 0 (.int .u64 ((m : Int) / 128))).cell 0
       have h2 := hr.cell 0
       unfold Ail
       rw [h1, h2]
       simp; omega
    · clear hj hy hc hf hr
      gi_wp2
      refine bodyPost_ret (results_none rfl _ _ _) rfl ?_
      exact ⟨⟨_, rfl⟩, .inr ⟨_, trivial, hjx⟩⟩
end Go.Proofs.YtdcmppdhdcjpfaaGreat
namespace Go.Proofs.YtdcmppdhdcjpfaaGreat
open Go.RowKit
theorem UQ : (Tryz.prog.info? 5).map (fun i => (i.zero, i.size, i.bytes)) = some (some (.int .u8 0), 1, 1) := by kernel_rfl
end Go.Proofs.YtdcmppdhdcjpfaaGreat
namespace Go.Proofs.YtdcmppdhdcjpfaaGreat
open Go.RowKit Go.Deep
attribute [local go_sem] Oper.semAt_some
theorem Adj (n : Nat) (w : World) :
 Calls Tryz.prog 260 #[.int .u64 n] w fun e w' => e = .returned (.func (.func 273) #[] #[.pointer (some ⟨w.heap.size, 0, none⟩)]) ∧ w.alloc (.cells #[.int .u64 n] 219) = w' := by
 go_enter Tryz.func260, Tryz.ntmps260
 go_wp2
 go_ret
 exact ⟨rfl, rfl⟩
theorem Vx (n : Nat) (hn : n < 18446744073709551616) (w : World) :
 Calls Tryz.prog 233 #[.int .u64 n] w fun e w' => e = .returned (.string ⟨(Ud n).toArray⟩) ∧ Below w.heap.size w w' := by
 have Hn := Lh hn
 clear hn
 obtain ⟨i0, hi0, hz0, hz1, hz2⟩ := info_parts UQ
 refine (callsIn_wide (n := 0)).1 ?_
 refine callsIn_of_wp_marks Tryz.func233 rfl trivial ?_
 simp only [Tryz.ntmps233, List.size_toArray, List.length_cons, List.length_nil, Nat.reduceAdd, Nat.reduceSub, Array.replicate_succ, Array.replicate_zero, List.push_toArray, List.append_toArray, List.nil_append, List.cons_append]
 gi_wp2_with fail
 have rg := Row.new w 277 #[.slice none 0 0]
 have b1 := (Below.refl w.heap.size w).alloc (Nat.le_refl _) (.cells #[.slice none 0 0] 277)
 have l1 := rg.lt
 generalize w.alloc (.cells #[.slice none 0 0] 277) = w1 at rg b1 l1 ⊢
 refine ⟨trivial, rfl, (callsIn_wide.2 (Adj n w1)).mono ?_⟩
 rintro e w2 ⟨rfl, hw2⟩
 have rb := Row.new w1 219 #[.int .u64 n]
 have rg2 := rg.alloc (.cells #[.int .u64 n] 219)
 have b2 := b1.alloc b1.size (.cells #[.int .u64 n] 219)
 rw [hw2] at rb rg2 b2
 obtain ⟨Bs, hBs⟩ : ∃ Bs, Bs = w1.heap.size := ⟨_, rfl⟩
 rw [← hBs] at rb l1 ⊢
 have lb := rb.lt
 obtain ⟨G, hG⟩ : ∃ G, G = w.heap.size := ⟨_, rfl⟩
 have gG : w.heap.size ≤ G := by omega
 rw [← hG] at rg2 l1 ⊢
 clear hBs hw2 rg b1
 have HG := Lh hG
 clear hG
 have Hseq := Lh (AaG Bs n Hn.out w2 rb)
 gi_wp2
 refine AaZ (gf := 273) (lb := #[.pointer (some ⟨Bs, 0, none⟩)]) rfl (enters_of Tryz.func273 (by kernel_rfl) rfl) Hseq.out (fun r h => by subst h; omega)
  (fun h k => ⟨k.1.trans h.1, Nat.le_trans h.2 k.2⟩) (fun W l o o' hl ho hc => ⟨by rw [World.putObj_heap_other (by omega)], by simp⟩) (World.grownBy.refl _ _) (fun _ => rfl)
  (fun pre W => ∃ v, Row W G 277 #[v] ∧ W.ownsRow w.heap.size 5 1 v pre.length (u8s pre) ∧ Below w.heap.size w W ∧ v.ownBlock ≠ some Bs ∧ Bs < W.heap.size) (fun _ _ _ => False) ?hI ?hIx ⟨_, rg2, World.ownsRow_nil _ _ _ _, b2, by simp [Value.ownBlock], lb⟩
  (fun x a' W => a' = { tmps := #[.int .u64 n, undef, .string ⟨#[]⟩, .pointer (some ⟨G, 0, none⟩), .int .u8 (x.toNat : Int), .int .u64 n, .func (.func 273) #[] #[.pointer (some ⟨Bs, 0, none⟩)], .int .u8 (x.toNat : Int), undef, undef, undef, undef, undef, undef], defers := [] }) ?hAx ?assign ?body ?done ?stop
 case hI =>
  rintro pre A B row ⟨v, h1, h2, h3, h4, h5⟩ hg hr
  have hrow : ∀ r, row = some r → r ≠ G ∧ v.ownBlock ≠ some r := fun r e => by
   rcases hr r e with h | ⟨h, o, ho, hc⟩
   · have : r = Bs := h
     subst this
     exact ⟨by omega, h4⟩
   · exact ⟨by omega, ZS h2 ho hc⟩
  refine ⟨v, h1.grown hg (fun e => (hrow G e).1 rfl), h2.kept hg ?_, h3.grown hg h3.size (fun k e => ?_), h4, Nat.lt_of_lt_of_le h5 hg.size⟩
  · cases row with
    | none => cases v.ownBlock <;> simp
    | some r => exact .inr (hrow r rfl).2
  · rcases hr k e with h | ⟨h, _⟩
    · have : k = Bs := h
      omega
    · have := b2.size; omega
 case hIx => exact fun _ _ _ _ _ h _ _ => h
 case hAx => exact fun x a' _ _ _ _ h _ _ => h
 case assign =>
  rintro l pre x W K hI hK
  have HK := Lh hK
  clear hK
  gi_wp2
  exact HK.out _ _ (KeepsFrom.refl _ _) ⟨rfl, Nat.le_refl _⟩ hI rfl
 case body =>
  rintro l pre x a' W hl _ ⟨v, h1, h2, h3, h4, h5⟩ rfl hpl
  have hpl' : pre.length < 10 := hpl
  have hc := h1.cellv (i := 0) (v := v) rfl
  have hf := h1.free 0
  have ha := h2.alloc (.cells #[.int .u8 (x.toNat : Int)] 5)
  have HA := Lh ha
  clear ha
  gi_wp2_with (gi_at_builtin; refine wpListIn_append_own_at _ rfl (.tmp 8) (.tmp 10) 277 rfl w.heap.size 5 i0 (.int .u8 0) 1 1 Tryz.underlying277 hi0 hz0 hz1 hz2 rfl (by decide) v pre.length (u8s pre) rfl HA.out ⟨W.heap.size, 0, none⟩ 1 1 (u8s [x]) rfl rfl (Jz _ _ _) (UJ _) (by unfold maxLen; omega) (by omega) (by have := h3.size; simp; omega) ?_)
  intro v' W3 hown hg _ hat
  have r3 := (h1.alloc (.cells #[.int .u8 (x.toNat : Int)] 5)).grown hg (Qz HA.out (h1.alloc _) (by decide))
  have b3 := Qm (h3.alloc h3.size _) HA.out hg (by have := h3.size; simp; omega) (Nat.le_refl _)
  have k3 : KeepsFrom w2.heap.size W W3 := (KeepsFrom.alloc _ W (.cells #[.int .u8 (x.toNat : Int)] 5)).trans (KeepsFrom.of_own HA.out hg)
  have e3 : W3.heap[Bs]? = W.heap[Bs]? := (hg.block Bs (by simp; omega) (fun e => h4 e.symm)).trans (Below.heap_alloc _ _ _ h5)
  have l3 : W.heap.size < W3.heap.size := by have := hg.size; simp at this; omega
  have n3 : v'.ownBlock ≠ some Bs := by
   rcases hat with h | h
   · rw [h]; exact h4
   · rw [h]; intro e; injection e; omega
  obtain ⟨A', m', c', rfl⟩ : ∃ A m c, v' = .slice A m c := JD hown
  have hc3 := r3.cellv (i := 0) (v := v) rfl
  have hf3 := r3.free 0
  have nG := Qz hown r3 (by decide)
  have Hown := Lh hown
  clear hown hg hat hc hf
  gi_wp2
  have o4 := Zc W3 G 0 (.slice A' m' c')
  refine ⟨k3.trans (KeepsFrom.of_only r3 o4), ⟨(o4.block Bs (by omega)).trans e3, by have := o4.size; omega⟩, _, r3.set 0 _, ?_, Qo b3 o4 gG, n3, by have := o4.size; omega⟩
  have := QA Hown.out o4 nG
  rw [← Yt] at this
  simpa using this
 case stop => exact fun D c pre W _ _ h _ => h.elim
 case done =>
  rintro D ys W hD rfl ⟨v, h1, h2, h3, _, _⟩ hK
  have hconv := JO (P := Tryz.prog) 277 9 5 Tryz.underlying277 Tryz.underlying5 Tryz.underlying9 _ h2
  have hc := h1.cellv (i := 0) (v := v) rfl
  have HK := Lh hK
  clear hK h2
  gi_wp2
  refine ⟨by simp, .inl ⟨_, _, rfl, run_takeDeferred HK.out, ?_⟩⟩
  exact ⟨_, results_tmp rfl _ _ _, rfl, h3.grown (grownBy_putObj' _ _ _) h3.size (fun k e => by cases e; have := b2.size; omega)⟩
end Go.Proofs.YtdcmppdhdcjpfaaGreat
namespace Go.Proofs.YtdcmppdhdcjpfaaGreat
open Go.RowKit Go.Deep
theorem Ah9 (u : Int) : bits .xor .u64 IntKind.u64.max (IntKind.u64.wrap (u * 2)) = 18446744073709551615 - IntKind.u64.wrap (u * 2) := by
 obtain ⟨m, hm, hlt⟩ : ∃ m : Nat, IntKind.u64.wrap (u * 2) = (m : Int) ∧ m < 18446744073709551616 := by
  rw [IntKind.wrap_u64]; exact ⟨((u * 2) % 18446744073709551616).toNat, by omega, by omega⟩
 rw [hm]
 show IntKind.u64.wrap ((BitVec.ofInt 64 IntKind.u64.max ^^^ BitVec.ofInt 64 (m : Int)).toNat : Int) = _
 have e1 : BitVec.ofInt 64 IntKind.u64.max = BitVec.allOnes 64 := by decide +kernel
 have e2 : (BitVec.ofInt 64 (m : Int)).toNat = m := by rw [BitVec.ofInt_natCast, BitVec.toNat_ofNat]; exact Nat.mod_eq_of_lt (by omega)
 rw [e1, BitVec.allOnes_xor, BitVec.toNat_not, e2, IntKind.wrap_u64]
 omega
theorem Ag2 (u : Int) (w : World) : Calls Tryz.prog 274 #[.int .u64 u] w fun e w' => e = .returned (.int .u64 (IntKind.u64.wrap (u * 2))) ∧ w = w' := by
 go_enter Tryz.func274, Tryz.ntmps274
 go_wp2
 go_ret
 exact ⟨rfl, rfl⟩
theorem Ag3 (u : Int) (w : World) : Calls Tryz.prog 275 #[.int .u64 u] w fun e w' => e = .returned (.int .u64 (bits .xor .u64 IntKind.u64.max (IntKind.u64.wrap (u * 2)))) ∧ w = w' := by
 have hsg : ¬ IntKind.u64.signed = true := by decide
 go_enter Tryz.func275, Tryz.ntmps275
 go_wp2
 go_ret
 exact ⟨rfl, rfl⟩
theorem Aif (n : Int) (hn : InI n) (h : 0 ≤ n) : IntKind.u64.wrap (IntKind.u64.wrap n * 2) = (Abp n : Int) := by
 simp only [IntKind.wrap_u64]; unfold Abp; rw [if_pos h]; have := hn.2; omega
theorem Aie (n : Int) (hn : InI n) (h : ¬ 0 ≤ n) : bits .xor .u64 IntKind.u64.max (IntKind.u64.wrap (IntKind.u64.wrap n * 2)) = (Abp n : Int) := by
 rw [Ah9]
 simp only [IntKind.wrap_u64]; unfold Abp; rw [if_neg h]; have := hn.1; omega
theorem AeA {a b : Int} (h : a = b) : Ending.returned (.int .u64 a) = .returned (.int .u64 b) := by rw [h]
theorem Aid (n : Int) (hn : InI n) (w : World) :
 Calls Tryz.prog 261 #[.int .i64 n] w fun e w' => e = .returned (.int .u64 (Abp n)) ∧ Below w.heap.size w w' := by
 have Hn := Lh hn
 clear hn
 go_enter Tryz.func261, Tryz.ntmps261
 go_wp2_with (refine QY _ rfl ?_)
 refine Stop.to ?_
 refine Ql rfl 321 rfl _ _ rfl rfl ?_
 intro g w1 hg r1 b1
 go_wp2_with (refine QD _ _ _ rfl ?_)
 refine Stop.to ?_
 refine Qk rfl 321 _ _ rfl g #[.func (.func 274) #[] #[], .func (.func 275) #[] #[]] rfl rfl 321 _ r1 (by kernel_rfl) rfl (by kernel_rfl) ?_
 intro w2 r2 o2
 have b2 := Qo ((Below.refl w.heap.size w).trans (b1.mono hg)) o2 hg
 have c0 := r2.cellv (i := 0) (v := .func (.func 274) #[] #[]) rfl
 have c1 := r2.cellv (i := 1) (v := .func (.func 275) #[] #[]) rfl
 clear o2 r1 b1 hg
 by_cases h0 : 0 ≤ n
 · have hs : IntKind.u64.wrap n / 9223372036854775808 = 0 := by rw [IntKind.wrap_u64]; have := Hn.out.1; have := Hn.out.2; omega
   have H0 := Lh h0
   clear h0
   go_wp2_with fail
   refine (Ag2 _ w2).mono ?_
   rintro e w3 ⟨rfl, rfl⟩
   go_wp2_with fail
   go_ret
   exact ⟨AeA (Aif n Hn.out H0.out), b2⟩
 · have hs : IntKind.u64.wrap n / 9223372036854775808 = 1 := by rw [IntKind.wrap_u64]; have := Hn.out.1; have := Hn.out.2; omega
   have H0 := Lh h0
   clear h0
   go_wp2_with fail
   refine (Ag3 _ w2).mono ?_
   rintro e w3 ⟨rfl, rfl⟩
   go_wp2_with fail
   go_ret
   exact ⟨AeA (Aie n Hn.out (by have := H0.out; omega)), b2⟩
theorem Ad5 (n : Int) (hn : InI n) (w : World) :
 Calls Tryz.prog 234 #[.int .i64 n] w fun e w' => e = .returned (.string ⟨(zz n).toArray⟩) ∧ Below w.heap.size w w' := by
 have Hn := Lh hn
 clear hn
 go_enter Tryz.func234, Tryz.ntmps234
 go_wp2_with fail
 refine (Aid n Hn.out w).mono ?_
 rintro e w1 ⟨rfl, b1⟩
 go_wp2_with fail
 refine (Vx (Abp n) (Aic Hn.out) w1).mono ?_
 rintro e w2 ⟨rfl, b2⟩
 go_wp2_with fail
 go_ret
 exact ⟨rfl, b1.trans (b2.mono b1.size)⟩
def Wr (W : World) (B g : Nat) (l : List UInt8) : Prop := B ≤ g ∧ ∃ v, Row W g 286 #[v] ∧ W.ownsRow B 5 1 v l.length (u8s l)
structure WrEff (B g : Nat) (w w' : World) : Prop where
 os : w'.os = w.os
 tape : w'.tape = w.tape
 output : w'.output = w.output
 size : w.heap.size ≤ w'.heap.size
 block : ∀ k, k < w.heap.size → k ≠ g → (∀ cs, B ≤ k → ¬ Row w k 5 cs) → w'.heap[k]? = w.heap[k]?
theorem WrEff.of_below {B g : Nat} {w w' : World} (b : Below w.heap.size w w') : WrEff B g w w' := ⟨b.os, b.tape, b.output, b.size, fun k hk _ _ => b.block k hk⟩
theorem WrEff.refl (B g : Nat) (w : World) : WrEff B g w w := ⟨rfl, rfl, rfl, Nat.le_refl _, fun _ _ _ _ => rfl⟩
theorem WrEff.trans {B g : Nat} {a b c : World} (h : WrEff B g a b) (k : WrEff B g b c) : WrEff B g a c :=
 ⟨k.os.trans h.os, k.tape.trans h.tape, k.output.trans h.output, Nat.le_trans h.size k.size, fun i hi hg hr => by
  have e := h.block i hi hg hr
  refine (k.block i (Nat.lt_of_lt_of_le hi h.size) hg (fun cs hB hrow => hr cs hB ?_)).trans e
  rw [Row] at hrow ⊢; rw [← e]; exact hrow⟩
theorem WrEff.row {B g k : Nat} {w w' : World} {t : TypeId} {cs : Array Value} (h : WrEff B g w w') (hr : Row w k t cs) (hg : k ≠ g) (ht : t ≠ 5) : Row w' k t cs :=
 (h.block k hr.lt hg (fun cs' _ h' => ht (by rw [Row] at hr h'; rw [hr] at h'; injection h' with h'; injection h' with _ h''))).trans hr
theorem WrEff.below {B g : Nat} {w w' : World} (h : WrEff B g w w') (hB : B ≤ g) (hs : B ≤ w.heap.size) : Below B w w' :=
 ⟨h.os, h.tape, h.output, h.size, fun k hk => h.block k (by omega) (by omega) (fun _ hb _ => by omega)⟩
theorem WrEff.keeps {B g C : Nat} {w w' : World} {t : TypeId} {cs : Array Value} (h : WrEff B g w w') (hg : Row w g t cs) : KeepsFrom C w w' :=
 ⟨h.size, fun k o _ hk ho => (h.block k (Array.getElem?_eq_some_iff.1 hk).1 (fun e => by subst e; rw [hg] at hk; cases hk; cases ho) (fun cs' _ h' => by rw [Row] at h'; rw [h'] at hk; cases hk; cases ho)).trans hk⟩
theorem Wr.go {W W' : World} {B g : Nat} {l : List UInt8} (h : Wr W B g l) (b : Below W.heap.size W W') : Wr W' B g l := by
 obtain ⟨h0, v, h1, h2⟩ := h
 exact ⟨h0, v, h1.below b h1.lt, Qs h2 b⟩
instance St.wr {B g : Nat} {l : List UInt8} : St (fun W => Wr W B g l) := ⟨fun h b => h.go b⟩
theorem Wr.lt {W : World} {B g : Nat} {l : List UInt8} (h : Wr W B g l) : g < W.heap.size := by obtain ⟨_, v, h1, _⟩ := h; exact h1.lt
theorem WrEff.of_own {B g n : Nat} {w w' : World} {v : Value} {xs : List Value} (h : w.ownsRow B 5 1 v n xs) (hg : w.grownBy w' v.ownBlock) : WrEff B g w w' :=
 ⟨hg.os, hg.tape, hg.output, hg.size, fun k hk _ hr => hg.block k hk (fun e => by
  rcases h.2 with ⟨rfl, _⟩ | ⟨g', cap, cur, rfl, hB, hh, _⟩
  · simp [Value.ownBlock] at e
  · have : g' = k := by simpa [Value.ownBlock] using e.symm
    subst this
    exact hr _ hB hh)⟩
theorem WrEff.of_only {B g : Nat} {w w' : World} (o : Only g w w') : WrEff B g w w' := ⟨o.os, o.tape, o.output, Nat.le_of_eq o.size.symm, fun k _ hk _ => o.block k hk⟩
theorem AcT (w : World) :
 Calls Tryz.prog 155 #[] w fun e w' => e = .returned (.pointer (some ⟨w.heap.size, 0, none⟩)) ∧ Wr w' w.heap.size w.heap.size [] ∧ Below w.heap.size w w' := by
 go_enter Tryz.func155, Tryz.ntmps155
 go_wp2
 go_ret
 exact ⟨rfl, ⟨Nat.le_refl _, .slice none 0 0, Row.new _ _ _, World.ownsRow_nil _ _ _ _⟩, (Below.refl _ _).alloc (Nat.le_refl _) _⟩
theorem AcF (s : ByteArray) : Lib.strCells s = u8s s.data.toList := by
 rfl
theorem Aey (B g : Nat) (l : List UInt8) (s : ByteArray) (hl : l.length ≤ 1000000) (hs : s.size ≤ 1000000) (w : World) (h : Wr w B g l) :
 Calls Tryz.prog 232 #[.pointer (some ⟨g, 0, none⟩), .string s] w fun e w' => e = .returned (.pointer (some ⟨g, 0, none⟩)) ∧ Wr w' B g (l ++ s.data.toList) ∧ WrEff B g w w' := by
 obtain ⟨i0, hi0, hz0, hz1, hz2⟩ := info_parts UQ
 obtain ⟨hBg, v, hr, hown⟩ := h
 have hc := hr.cellv (i := 0) (v := v) rfl
 have hf := hr.free 0
 have hBs : B ≤ w.heap.size := Nat.le_of_lt (Nat.lt_of_le_of_lt hBg hr.lt)
 have Hown := Lh hown
 clear hown
 go_enter Tryz.func232, Tryz.ntmps232
 go_wp2_with (at_builtin; refine Lib.wpList_append_own_string w rfl (.tmp 9) (.tmp 10) 277 9 rfl B 5 i0 Tryz.underlying277 Tryz.underlying9 hi0 hz0 hz1 hz2 v l.length (u8s l) rfl Hown.out s rfl (by unfold maxLen; omega) (by omega) hBs ?_)
 intro v' w1 hown' hg _
 have r1 := hr.grown hg (Qz Hown.out hr (by decide))
 have e1 := WrEff.of_own (g := g) Hown.out hg
 obtain ⟨A', m', c', rfl⟩ : ∃ A m c, v' = .slice A m c := JD hown'
 have hc1 := r1.cellv (i := 0) (v := v) rfl
 have hf1 := r1.free 0
 have nG := Qz hown' r1 (by decide)
 have Hown' := Lh hown'
 clear hown' hg hc hf
 go_wp2
 go_ret
 have o2 := Zc w1 g 0 (.slice A' m' c')
 refine ⟨rfl, ⟨hBg, _, r1.set 0 _, ?_⟩, e1.trans (WrEff.of_only o2)⟩
 have := QA Hown'.out o2 nG
 rw [AcF, ← Yt] at this
 simpa using this
theorem AhC (B g : Nat) (l : List UInt8) (n : Nat) (hl : l.length ≤ 1000000) (hn : n < 18446744073709551616) (w : World) (h : Wr w B g l) :
 Calls Tryz.prog 156 #[.pointer (some ⟨g, 0, none⟩), .int .u64 n] w fun e w' => e = .returned (.pointer (some ⟨g, 0, none⟩)) ∧ Wr w' B g (l ++ Ud n) ∧ WrEff B g w w' := by
 have Hn := Lh hn
 clear hn
 go_enter Tryz.func156, Tryz.ntmps156
 go_wp2_with fail
 refine (Vx n Hn.out w).mono ?_
 rintro e w1 ⟨rfl, b1⟩
 go_wp2_with fail
 refine (Aey B g l _ hl (by rw [YZ]; have := YI n; omega) w1 (h.go b1)).mono ?_
 rintro e w2 ⟨rfl, h2, e2⟩
 go_wp2_with fail
 go_ret
 exact ⟨rfl, h2, (WrEff.of_below b1).trans e2⟩
theorem Aht (B g : Nat) (l : List UInt8) (n : Int) (hl : l.length ≤ 1000000) (hn : InI n) (w : World) (h : Wr w B g l) :
 Calls Tryz.prog 157 #[.pointer (some ⟨g, 0, none⟩), .int .i64 n] w fun e w' => e = .returned (.pointer (some ⟨g, 0, none⟩)) ∧ Wr w' B g (l ++ zz n) ∧ WrEff B g w w' := by
 have Hn := Lh hn
 clear hn
 go_enter Tryz.func157, Tryz.ntmps157
 go_wp2_with fail
 refine (Ad5 n Hn.out w).mono ?_
 rintro e w1 ⟨rfl, b1⟩
 go_wp2_with fail
 refine (Aey B g l _ hl (by rw [YZ]; have := Yx n; omega) w1 (h.go b1)).mono ?_
 rintro e w2 ⟨rfl, h2, e2⟩
 go_wp2_with fail
 go_ret
 exact ⟨rfl, h2, (WrEff.of_below b1).trans e2⟩
theorem AcX (B g : Nat) (l : List UInt8) (w : World) (h : Wr w B g l) :
 Calls Tryz.prog 159 #[.pointer (some ⟨g, 0, none⟩)] w fun e w' => e = .returned (.string ⟨l.toArray⟩) ∧ w = w' := by
 obtain ⟨hBg, v, hr, hown⟩ := h
 have hc := hr.cellv (i := 0) (v := v) rfl
 have hconv := JO (P := Tryz.prog) 277 9 5 Tryz.underlying277 Tryz.underlying5 Tryz.underlying9 _ hown
 clear hown
 go_enter Tryz.func159, Tryz.ntmps159
 go_wp2_with fail
 go_ret
 exact ⟨rfl, rfl⟩
end Go.Proofs.YtdcmppdhdcjpfaaGreat
