/- Lemmas for TraceSameP. -/
import Derived.Test.YtlglilmgklipdaaZt19
import Derived.Test.YtlglilmgklipdaaZt5
import Derived.Test.YtlglilmgklipdaaZt2
import Derived.Test.YtlglilmgklipdaaZt1
import Derived.Test.YtlglilmgklipdaaZt9
import Derived.Test.YtlglilmgklipdaaZt4
import Derived.Great.BuildSlice
namespace Go.Proofs.Ytlglilmgklipdaa
set_option linter.unusedVariables false
open Go.RowKit Go.Deep
theorem Big.det {t : Tr} {s a b : Ms} {u v : Int} (h : Big (.one t) s u a) (k : Big (.one t) s v b) : u = v ∧ a = b := by
 have h1 := h.ev (s.fuel + 1) (by omega)
 have h2 := k.ev (s.fuel + 1) (by omega)
 rw [h1] at h2
 exact ⟨congrArg Prod.fst h2, congrArg Prod.snd h2⟩
def IsRun (p : PgV) (args : List Int) (fuel : Int) (s : Ms) : Prop := ∃ t v s', Good p t ∧ Big (.one t) (initS p.V args fuel.toNat) v s' ∧ s = s'.stopped 3 0
theorem IsRun.det {p : PgV} {args : List Int} {fuel : Int} {a b : Ms} (h : IsRun p args fuel a) (k : IsRun p args fuel b) : a = b := by
 obtain ⟨t, v, s, g, hb, rfl⟩ := h
 obtain ⟨t', v', s', g', hb', rfl⟩ := k
 have := g.hat.uniq g'.hat
 subst this
 rw [(hb.det hb').2]
def zeroS : Ms := ⟨[], [], 0, 0, [], none⟩
open Classical in
noncomputable def runZ (p : PgV) (args : List Int) (fuel : Int) : Ms := if h : checkZ p args.length fuel = 0 ∧ ∃ s, IsRun p args fuel s then h.2.choose else zeroS
theorem runZ_no {p : PgV} {args : List Int} {fuel : Int} (h : checkZ p args.length fuel ≠ 0) : runZ p args fuel = zeroS := by
 unfold runZ; rw [dif_neg (fun k => h k.1)]
theorem runZ_of {p : PgV} {args : List Int} {fuel : Int} {s : Ms} (h : checkZ p args.length fuel = 0) (k : IsRun p args fuel s) : runZ p args fuel = s := by
 unfold runZ
 rw [dif_pos ⟨h, s, k⟩]
 exact (Exists.choose_spec (p := fun s => IsRun p args fuel s) ⟨s, k⟩).det k
structure RunK (p : PgV) (args : List Int) (fuel : Int) (t : Tr) (v : Int) (s' : Ms) : Prop where
 good : Good p t
 big : Big (.one t) (initS p.V args fuel.toNat) v s'
 eq : runZ p args fuel = s'.stopped 3 0
 oks : OkS p.V s'
 init : OkS p.V (initS p.V args fuel.toNat)
 okO : okO p.V t
theorem runZ_is {p : PgV} {args : List Int} {fuel : Int} {w : World} (hok : p.ok w) (hin : ∀ a ∈ args, InI a) (h : checkZ p args.length fuel = 0) : ∃ t v s', RunK p args fuel t v s' := by
 obtain ⟨t, hg, hl, h0, h1⟩ := checkZ_zero h
 have h2 := okO_good hok hg
 have h3 := OkS_init (F := fuel.toNat) hok hg hg.vars hl hin
 obtain ⟨v, s', hb⟩ := big_ex p.V (fuel.toNat + 1) (initS p.V args fuel.toNat) (by simp [initS]) h3 t h2
 exact ⟨t, v, s', hg, hb, runZ_of h ⟨t, v, s', hg, hb, rfl⟩, (hb.inv (g := .one t) h2 h3).1, h3, h2⟩
theorem RunK.fin {p : PgV} {args : List Int} {fuel : Int} {t : Tr} {v : Int} {s' : Ms} (h : RunK p args fuel t v s') : ∃ fin : Mm, Reach (enterM 0 t ⟨initS p.V args fuel.toNat, []⟩) fin ∧ fin.s.out.isSome = true ∧ fin.s = s'.stopped 3 0 := by
 obtain ⟨m, h1, h2, h3⟩ := sim h.big h.okO h.init rfl 0 [] (fun hk => absurd h.good.kind hk)
 cases ho : s'.out with
 | some o =>
  refine ⟨m, h1, by rw [h2, ho]; rfl, ?_⟩
  rw [h2]; unfold Ms.stopped; rw [ho]; rfl
 | none =>
  have hs := h3 ho
  have hm : m = ⟨s', []⟩ := by cases m; simp only at h2 hs; subst h2; rw [hs, told]
  refine ⟨⟨s'.stop 3 0, []⟩, h1.trans (.one (by rw [h2]; exact ho) (by rw [hm]; exact .done s')), rfl, ?_⟩
  unfold Ms.stopped; rw [ho]; rfl
structure RunA (s : Ms) (err : Int) (w w' : World) (e : Ending) : Prop where
 ex : ∃ A cap, e = .returned (.tuple #[.agg #[.int .i64 (s.out.getD (0, 0)).1, .int .i64 (s.out.getD (0, 0)).2, .int .i64 (s.steps : Int), .slice A s.evs.length cap], .int .i64 err]) ∧ Rd w' A (s.evs.flatMap EvV.cells) ∧ s.evs.length ≤ cap ∧ cap ≤ maxLen ∧ (A = none → cap = 0) ∧ Below w.heap.size w w'
theorem own_ev {w : World} {base n size : Nat} {e : TypeId} {v : Value} {xs : List Value} (h : w.ownsRow base e size v n xs) : ∃ A cap, v = .slice A n cap ∧ Rd w A xs ∧ n ≤ cap ∧ cap ≤ maxLen ∧ (A = none → cap = 0) := by
 rcases h.2 with ⟨rfl, rfl⟩ | ⟨g, cap, cur, rfl, _, hh, hc, hm, _, ht⟩
 · have h1 := h.1
   simp at h1
   subst h1
   exact ⟨none, 0, rfl, Rd.nil _ _, Nat.le_refl _, Nat.zero_le _, fun _ => rfl⟩
 · refine ⟨some ⟨g, 0, none⟩, cap, rfl, fun j u hj => ⟨_, rfl, ?_⟩, hc, hm, fun h => by cases h⟩
   have hr : Row w g e cur := hh
   have hjl : j < xs.length := (List.getElem?_eq_some_iff.1 hj).1
   rw [← ht] at hj hjl
   have hjt := hjl
   rw [List.length_take] at hjt
   rw [List.getElem?_take_of_lt (by omega)] at hj
   have : w.cell? ⟨g, j, none⟩ = some u := hr.cellv (by rw [← Array.getElem?_toList]; exact hj)
   unfold Addr.add
   by_cases h0 : j = 0
   · subst h0; exact this
   · rw [if_neg h0]; simpa using this
theorem RunR.a {fin : Mm} {w w' : World} {e : Ending} (h : RunR fin w w' e) : RunA fin.s 0 w w' e := by
 obtain ⟨ev, rfl, hown, hb⟩ := h.ex
 obtain ⟨A, cap, rfl, h1, h2, h3, h4⟩ := own_ev hown
 exact ⟨A, cap, rfl, h1, h2, h3, h4, hb⟩
theorem RunA.bad {p : PgV} {args : List Int} {fuel : Int} {w w' : World} {e : Ending} (h : checkZ p args.length fuel ≠ 0) (he : e = .returned (.tuple #[.agg #[.int .i64 0, .int .i64 0, .int .i64 0, .slice none 0 0], .int .i64 (checkZ p args.length fuel)]) ∧ Below w.heap.size w w') : RunA (runZ p args fuel) (checkZ p args.length fuel) w w' e := by
 obtain ⟨rfl, hb⟩ := he
 rw [runZ_no h]
 exact ⟨none, 0, rfl, Rd.nil _ _, Nat.le_refl _, Nat.zero_le _, fun _ => rfl, hb⟩
theorem mRunA (p : PgV) (aa : Option Addr) (acap : Nat) (args : List Int) (fuel : Int) (w : World) (hbl : p.body.length ≤ 1000) (hn : args.length ≤ 1000) (hok : p.ok w) (hra : Rd w aa (ints args)) (hin : ∀ a ∈ args, InI a) :
 Calls Try.prog 15 #[.agg p.cells, .slice aa args.length acap, .int .i64 fuel] w fun e w' => RunA (runZ p args fuel) (checkZ p args.length fuel) w w' e := by
 by_cases hc : checkZ p args.length fuel = 0
 · obtain ⟨t, v, s', hk⟩ := runZ_is hok hin hc
   obtain ⟨fin, h1, h2, h3⟩ := hk.fin
   refine (mRun_all p t aa acap args fuel fin w hbl hn hok hra hk.good hc h1 h2).mono fun e w' h => ?_
   rw [hk.eq, hc, ← h3]
   exact h.a
 · exact (mRunBad_any p aa acap args.length fuel w hbl hn hok hc).mono fun e w' h => .bad hc h
theorem stopped_steps (s : Ms) : (s.stopped 3 0).steps = s.steps := by unfold Ms.stopped; split <;> rfl
theorem stopped_evs (s : Ms) : (s.stopped 3 0).evs = s.evs := by unfold Ms.stopped; split <;> rfl
theorem stopped_some {s : Ms} {o : Int × Int} (h : s.out = some o) : s.stopped 3 0 = s := by unfold Ms.stopped; rw [h]; rfl
theorem stopped_none {s : Ms} (h : s.out = none) : s.stopped 3 0 = s.stop 3 0 := by unfold Ms.stopped; rw [h]; rfl
theorem RunK.steps {p : PgV} {args : List Int} {fuel : Int} {t : Tr} {v : Int} {s' : Ms} (h : RunK p args fuel t v s') : s'.fuel + s'.steps = fuel.toNat := by
 have := h.big.ext.sum
 simpa [initS] using this
theorem RunK.kind {p : PgV} {args : List Int} {F : Int} {t : Tr} {v : Int} {s : Ms} (h : RunK p args F t v s) : ∃ k x, (runZ p args F).out = some (k, x) ∧ ((k = 0 ∧ InI x) ∨ (1 ≤ k ∧ k ≤ 4 ∧ x = 0)) ∧ ∀ e ∈ (runZ p args F).evs, OkE p.V e := by
 rw [h.eq]
 cases he : s.out with
 | none =>
  rw [stopped_none he]
  exact ⟨3, 0, rfl, .inr ⟨by omega, by omega, rfl⟩, h.oks.evs⟩
 | some o =>
  rw [stopped_some he, he]
  exact ⟨o.1, o.2, rfl, h.oks.out o.1 o.2 he, h.oks.evs⟩
end Go.Proofs.Ytlglilmgklipdaa
namespace Go.Proofs.Ytlglilmgklipdaa
set_option linter.unusedVariables false
open Go.RowKit Go.Deep
def Rd3 (r : RunV) (W : World) : Prop := Rd W r.addr (r.evs.flatMap EvV.cells)
instance St.rd3 {r : RunV} : St (Rd3 r) := ⟨fun h b => Rd.go h b⟩
def Ms.rv (s : Ms) (A : Option Addr) (cap : Nat) : RunV := ⟨(s.out.getD (0, 0)).1, (s.out.getD (0, 0)).2, s.steps, A, cap, s.evs⟩
theorem rv_one (r : RunV) : r.cells.all (·.oneCell') = true := by simp [RunV.cells, Value.oneCell']
def fewZ (p : PgV) (n : Nat) (fuel : Int) : Bool := fewP p && (decide (n ≤ 40) && (decide (fuel ≤ 400) || decide (10000 < fuel)))
theorem fewZ_of {p : PgV} {n : Nat} {fuel : Int} (h : fewZ p n fuel = true) : p.body.length ≤ 60 ∧ n ≤ 40 ∧ (fuel ≤ 400 ∨ 10000 < fuel) := by
 simp only [fewZ, fewP, Bool.and_eq_true, Bool.or_eq_true, decide_eq_true_eq] at h
 exact ⟨h.1.1, h.2.1, h.2.2⟩
theorem run_evs (p : PgV) (args : List Int) (fuel : Int) : (runZ p args fuel).evs.length ≤ 10000 := by
 unfold runZ
 split
 · rename_i h
   obtain ⟨t, v, s', _, hb, he⟩ := h.2.choose_spec
   rw [he, stopped_evs]
   obtain ⟨_, _, _, h0, h1⟩ := checkZ_zero h.1
   have h2 := hb.ext.few
   have h3 := hb.ext.sum
   simp only [initS, List.length_nil] at h2 h3
   omega
 · exact Nat.zero_le _
end Go.Proofs.Ytlglilmgklipdaa
namespace Go.Proofs.Ytlglilmgklipdaa
set_option linter.unusedVariables false
open Go.RowKit Go.Deep
set_option maxRecDepth 100000 in
set_option maxHeartbeats 8000000 in
theorem dRunBad_any (p : PgV) (aa : Option Addr) (acap n : Nat) (fuel : Int) (w : World) (hbl : p.body.length ≤ 1000) (hn : n ≤ 1000) (hok : p.ok w) (hc : checkZ p n fuel ≠ 0) :
 Calls Try.prog 23 #[.agg p.cells, .slice aa n acap, .int .i64 fuel] w fun e w' => e = .returned (.tuple #[.agg #[.int .i64 0, .int .i64 0, .int .i64 0, .slice none 0 0], .int .i64 (checkZ p n fuel)]) ∧ Below w.heap.size w w' := by
 have Hok := Lib.hid hok
 have Hbl := Lib.hid hbl
 have Hn := Lib.hid hn
 obtain ⟨cz, hcz⟩ : ∃ cz, checkZ p n fuel = cz := ⟨_, rfl⟩
 have Hcz := Lib.hid hcz
 rw [hcz] at hc ⊢
 have ec : (cz == 0) = false := by simpa using hc
 clear hok hbl hn hcz hc
 go_enter Try.func23, Try.ntmps23
 go_wp2_with (refine at_box _ _ rfl ?_)
 refine Stop.to ?_
 refine wpList_box_gen rfl 25 _ rfl p.cells rfl ?_
 intro G w1 hG r1 b1
 replace b1 := (Below.refl w.heap.size w).trans (b1.mono hG)
 clear hG
 go_wp2_with (refine at_alloc _ rfl ?_)
 refine Stop.to ?_
 refine wpList_alloc_gen rfl 32 rfl _ _ zero_run2 rfl ?_
 intro RB w2 hRB rB b2
 replace r1 := r1.below (b2.mono hRB) r1.lt
 have hRBw : w.heap.size ≤ RB := Nat.le_trans b1.size hRB
 replace b2 := b1.trans ((b2.mono hRB).mono b1.size)
 have R1 := Lib.hid r1
 have RB2 := Lib.hid rB
 have B2 := Lib.hid b2
 clear r1 b1 b2 rB hRB
 go_wp2_with (refine wpList_load_row rfl 25 _ rfl G rfl 25 p.cells (0, 0) _ R1.out Try.underlying25 rfl (by kernel_rfl) ?_)
 refine (mCheck_any p aa acap n fuel Hbl.out Hn.out w2 (Hok.out.go B2.out)).mono ?_
 rintro e w3 ⟨rfl, b3⟩
 rw [Hcz.out]
 have RB3 := Lib.hid (RB2.out.below b3 RB2.out.lt)
 have B3 := Lib.hid (B2.out.trans (b3.mono B2.out.size))
 clear b3 R1 RB2 B2
 go_wp2_with (refine at_store _ _ _ rfl ?_)
 refine Stop.to ?_
 refine wpList_store_gen rfl 32 _ _ rfl RB #[.int .i64 0, .int .i64 0, .int .i64 0, .slice none 0 0] rfl rfl 32 _ RB3.out (by kernel_rfl) rfl (run_one 0 0 0 rfl) ?_
 intro W9 r9 o9
 go_wp2_with fail
 refine bodyPost_ret (results_cell_tmp Try.results23 _ _ RB 32 _ (0, 0) _ rfl r9 Try.underlying32 rfl (by kernel_rfl)) rfl ?_
 exact ⟨rfl, below_only B3.out o9 hRBw⟩
theorem dRunA (p : PgV) (aa : Option Addr) (acap : Nat) (args : List Int) (fuel : Int) (w : World) (hbl : p.body.length ≤ 1000) (hn : args.length ≤ 1000) (hok : p.ok w) (hra : Rd w aa (ints args)) (hin : ∀ a ∈ args, InI a) :
 Calls Try.prog 23 #[.agg p.cells, .slice aa args.length acap, .int .i64 fuel] w fun e w' => RunA (runZ p args fuel) (checkZ p args.length fuel) w w' e := by
 by_cases hc : checkZ p args.length fuel = 0
 · obtain ⟨t, v, s', hk⟩ := runZ_is hok hin hc
   refine (dRun_any p t aa acap args fuel v s' w hbl hn hok hra hin hk.good hk.okO hk.init hc hk.big).mono fun e w' h => ?_
   rw [hk.eq, hc]
   exact h.a
 · exact (dRunBad_any p aa acap args.length fuel w hbl hn hok hc).mono fun e w' h => .bad hc h
end Go.Proofs.Ytlglilmgklipdaa
namespace Go.Proofs.Ytlglilmgklipdaa
set_option linter.unusedVariables false
open Go.ChangeShapes Go.WideShapes Go.RowKit Go.Deep
theorem cells_node : Try.prog.cellsOf 44 = 2 := by kernel_rfl
theorem cells_prog : Try.prog.cellsOf 25 = 3 := by kernel_rfl
theorem cells_ints : Try.prog.cellsOf 22 = 1 := by kernel_rfl
theorem cells_nodes : Try.prog.cellsOf 23 = 1 := by kernel_rfl
structure IntsV where
 addr : Option Addr
 cap : Nat
 l : List Int
def IntsV.val (r : IntsV) : Value := .slice r.addr r.l.length r.cap
structure IntsV.ok (r : IntsV) (w : World) : Prop where
 len : r.l.length ≤ r.cap
 cap : r.cap ≤ maxLen
 nil : r.addr = none → r.cap = 0
 reads : Rd w r.addr (ints r.l)
 all : ∀ x ∈ r.l, InI x
theorem IntsV.ok.go {r : IntsV} {w w' : World} (h : r.ok w) (b : Below w.heap.size w w') : r.ok w' := ⟨h.len, h.cap, h.nil, h.reads.go b, h.all⟩
instance St.intsok {r : IntsV} : St (fun W => r.ok W) := ⟨fun h b => h.go b⟩
def PgV.val (p : PgV) : Value := .agg p.cells
section
variable {H : Type} {enc : TypeId × Value → H} {w : World} {base : Nat} {spare : Nat → Bool} {held : Bool}
theorem open_int1 {fuel : Nat} {cs : List Value} {x : DataW H × List MemPlace} (h : DataW.trod enc Try.prog w base spare held fuel 3 cs = some x) : ∃ n : Int, cs = [.int .i64 n] ∧ InI n := by
 obtain ⟨n, e, h⟩ := trod_i64 Try.underlying3 h
 exact ⟨n, e, h⟩
set_option maxRecDepth 100000 in
theorem open_node {fuel : Nat} {cs : List Value} {x : DataW H × List MemPlace} (h : DataW.trod enc Try.prog w base spare held fuel 44 cs = some x) : ∃ e : Nd, cs = e.cells ∧ InI e.tag ∧ InI e.n := by
 obtain ⟨hl, n, hf⟩ := trod_field Try.underlying44 h
 have hl2 : cs.length = 2 := hl.trans cells_node
 match cs, hl2 with
 | [a, b], _ =>
  obtain ⟨_, h0⟩ := hf 0 _ rfl
  obtain ⟨_, h1⟩ := hf 1 _ rfl
  obtain ⟨n0, e0, w0⟩ := trod_i64 Try.underlying3 h0
  obtain ⟨n1, e1, w1⟩ := trod_i64 Try.underlying3 h1
  simp [cells_int] at e0 e1
  exact ⟨⟨n0, n1⟩, by rw [e0, e1]; rfl, w0, w1⟩
theorem ints_flat (l : List Int) : l.flatMap (fun n => [Value.int .i64 n]) = ints l := by
 induction l with
 | nil => rfl
 | cons a l ih => rw [List.flatMap_cons, ih]; rfl
set_option maxRecDepth 100000 in
theorem open_intsC {fuel : Nat} {cs : List Value} {x : DataW H × List MemPlace} (h : DataW.trod enc Try.prog w base spare held fuel 22 cs = some x) : ∃ r : IntsV, r.ok w ∧ cs = [r.val] := by
 obtain ⟨A, cap, xss, rfl, h1, h2, hA, h3, h4, h5⟩ := open_rows Try.underlying22 h
 obtain ⟨l, rfl, hok⟩ := rows_map (fun n : Int => [Value.int .i64 n]) InI xss (fun xs hxs => by obtain ⟨n, y, hy⟩ := h5 xs hxs; exact open_int1 hy)
 rw [List.length_map] at h1
 refine ⟨⟨A, cap, l⟩, ⟨h1, h2, hA, ?_, hok⟩, by rw [List.length_map]; rfl⟩
 rw [← List.flatMap_def, ints_flat] at h4
 exact h4
set_option maxRecDepth 100000 in
theorem open_nodesC {fuel : Nat} {cs : List Value} {x : DataW H × List MemPlace} (h : DataW.trod enc Try.prog w base spare held fuel 23 cs = some x) :
 ∃ (A : Option Addr) (cap : Nat) (l : List Nd), cs = [.slice A l.length cap] ∧ l.length ≤ cap ∧ cap ≤ maxLen ∧ (A = none → cap = 0) ∧ Rd w A (l.flatMap Nd.cells) ∧ ∀ e ∈ l, InI e.tag ∧ InI e.n := by
 obtain ⟨A, cap, xss, rfl, h1, h2, hA, h3, h4, h5⟩ := open_rows Try.underlying23 h
 obtain ⟨l, rfl, hok⟩ := rows_map Nd.cells (fun e => InI e.tag ∧ InI e.n) xss (fun xs hxs => by obtain ⟨n, y, hy⟩ := h5 xs hxs; exact open_node hy)
 rw [List.length_map] at h1
 exact ⟨A, cap, l, by rw [List.length_map], h1, h2, hA, by rw [List.flatMap_def]; exact h4, hok⟩
set_option maxRecDepth 100000 in
theorem open_progC {fuel : Nat} {cs : List Value} {x : DataW H × List MemPlace} (h : DataW.trod enc Try.prog w base spare held fuel 25 cs = some x) : ∃ p : PgV, p.ok w ∧ cs = p.cells.toList := by
 obtain ⟨hl, n, hf⟩ := trod_field Try.underlying25 h
 have hl3 : cs.length = 3 := hl.trans cells_prog
 match cs, hl3 with
 | [a, b, c], _ =>
  obtain ⟨_, h0⟩ := hf 0 _ rfl
  obtain ⟨_, h1⟩ := hf 1 _ rfl
  obtain ⟨_, h2⟩ := hf 2 _ rfl
  obtain ⟨n0, e0, w0⟩ := trod_i64 Try.underlying3 h0
  obtain ⟨r, hr, e1⟩ := open_intsC h1
  obtain ⟨A, cap, l, e2, g1, g2, g3, g4, g5⟩ := open_nodesC h2
  simp [cells_int, cells_ints, cells_nodes] at e0 e1 e2
  exact ⟨⟨n0, r.addr, r.cap, r.l, A, cap, l⟩, ⟨w0, hr.len, hr.cap, hr.nil, hr.reads, hr.all, g1, g2, g3, g4, g5⟩, by rw [e0, e1, e2]; rfl⟩
set_option maxRecDepth 100000 in
theorem open_ints {r : Go.Reach} {b0 : Nat} {v : Value} {d : DataW H} {p : List MemPlace} (hv : Value.okWide Try.prog w r b0 22 v) (h : DataW.Trod enc Try.prog w base spare held 22 v d p) : ∃ r : IntsV, r.ok w ∧ v = r.val := by
 obtain ⟨a, len, cap, rfl⟩ := okWide_slice Try.underlying22 hv
 obtain ⟨fuel, hx⟩ := h
 obtain ⟨r, hr, e⟩ := open_intsC hx
 have e2 : [Value.slice a len cap] = [r.val] := e
 injection e2 with e2
 exact ⟨r, hr, e2⟩
set_option maxRecDepth 100000 in
theorem open_prog {r : Go.Reach} {b0 : Nat} {v : Value} {d : DataW H} {p : List MemPlace} (hv : Value.okWide Try.prog w r b0 25 v) (h : DataW.Trod enc Try.prog w base spare held 25 v d p) : ∃ p : PgV, p.ok w ∧ v = p.val := by
 obtain ⟨cs, rfl, fuel, x, hx⟩ := trod_val Try.underlying25 hv h
 obtain ⟨p, hp, rfl⟩ := open_progC hx
 exact ⟨p, hp, rfl⟩
end
end Go.Proofs.Ytlglilmgklipdaa
namespace Go.Proofs.Ytlglilmgklipdaa
set_option linter.unusedVariables false
open Go.RowKit Go.Deep
def Ms.kind (s : Ms) : Int := (s.out.getD (0, 0)).1
end Go.Proofs.Ytlglilmgklipdaa
namespace Go.Proofs.Ytlglilmgklipdaa
set_option linter.unusedVariables false
open Go.RowKit Go.Deep
theorem runZ_facts {p : PgV} {args : List Int} {fuel : Int} {w : World} (hok : p.ok w) (hin : ∀ a ∈ args, InI a) :
 InI ((runZ p args fuel).out.getD (0, 0)).1 ∧ InI ((runZ p args fuel).out.getD (0, 0)).2 ∧ InI ((runZ p args fuel).steps : Int) ∧ ∀ e ∈ (runZ p args fuel).evs, e.ok := by
 by_cases hc : checkZ p args.length fuel = 0
 · obtain ⟨t, v, s', hk⟩ := runZ_is hok hin hc
   have hi := (hk.big.inv (hk.okO : okG p.V (.one t)) hk.init).1
   have hs := hk.steps
   obtain ⟨_, _, _, hf⟩ := checkZ_zero hc
   rw [hk.eq]
   have h2 : OkS p.V (s'.stopped 3 0) := by
    unfold Ms.stopped
    split
    · exact hi
    · exact hi.stop (.inr ⟨by omega, by omega, rfl⟩)
   refine ⟨?_, ?_, by rw [stopped_steps]; unfold InI; omega, fun e he => (h2.evs e he).ok⟩
   · cases ho : (s'.stopped 3 0).out with
     | none => exact InI_0
     | some o =>
      obtain ⟨k, x⟩ := o
      rcases h2.out k x ho with ⟨rfl, _⟩ | ⟨h3, h4, _⟩
      · exact InI_0
      · show InI k; unfold InI; omega
   · cases ho : (s'.stopped 3 0).out with
     | none => exact InI_0
     | some o =>
      obtain ⟨k, x⟩ := o
      rcases h2.out k x ho with ⟨_, h3⟩ | ⟨_, _, rfl⟩
      · exact h3
      · exact InI_0
 · rw [runZ_no hc]
   exact ⟨InI_0, InI_0, InI_0, fun e he => by simp [zeroS] at he⟩
theorem rv_ok {p : PgV} {args : List Int} {fuel : Int} {w W : World} {A : Option Addr} {c : Nat} (hok : p.ok w) (hin : ∀ a ∈ args, InI a) (hle : (runZ p args fuel).evs.length ≤ c) (hmx : c ≤ maxLen) (hni : A = none → c = 0) (hrd : Rd3 ((runZ p args fuel).rv A c) W) : ((runZ p args fuel).rv A c).ok W := by
 obtain ⟨h1, h2, h3, h4⟩ := runZ_facts (fuel := fuel) hok hin
 exact ⟨h1, h2, h3, hle, hmx, hni, hrd, h4⟩
end Go.Proofs.Ytlglilmgklipdaa
namespace Go.Proofs.Ytlglilmgklipdaa
set_option linter.unusedVariables false
open Go.RowKit Go.Deep
set_option maxRecDepth 100000 in
set_option maxHeartbeats 16000000 in
theorem traceSame_walk (p : PgV) (g : IntsV) (fuel : Int) (hfI : -9223372036854775808 ≤ fuel ∧ fuel ≤ 9223372036854775807) (w : World) (hok : p.ok w) (hg : g.ok w) : Calls Try.prog 12 #[p.val, g.val, .int .i64 fuel] w fun e w' => e = .returned (.bool true) ∧ Below w.heap.size w w' := by
 obtain ⟨aa, acap, args⟩ := g
 rw [show p.val = .agg p.cells from rfl, show (IntsV.mk aa acap args).val = .slice aa args.length acap from rfl]
 have Hin : Hid (∀ a ∈ args, InI a) := hg.all
 have hrd0 : Rd w aa (ints args) := hg.reads
 go_enter Try.func12, Try.ntmps12
 obtain ⟨S0, hSd⟩ : ∃ S : World → Prop, S = (fun W => Below w.heap.size w W ∧ p.ok W ∧ Rd W aa (ints args)) := ⟨_, rfl⟩
 have st0 : St S0 := by rw [hSd]; infer_instance
 have F_low : Hid (∀ W, S0 W → Below w.heap.size w W) := by show ∀ W, _; rw [hSd]; exact fun W h => h.1
 have F_ok : Hid (∀ W, S0 W → p.ok W) := by show ∀ W, _; rw [hSd]; exact fun W h => h.2.1
 have F_rda : Hid (∀ W, S0 W → Rd W aa (ints args)) := by show ∀ W, _; rw [hSd]; exact fun W h => h.2.2
 have HS0 : Hid (S0 w) := by show S0 w; rw [hSd]; exact ⟨Below.refl _ _, hok, hrd0⟩
 clear hSd
 clear hok hg hrd0 hfI
 go_wp2_with (refine at_box _ _ rfl ?_)
 refine Stop.to ?_
 refine wpList_box_gen rfl 25 _ rfl p.cells rfl ?_
 intro G_1 w_2 hG rG bG
 have hprev := st0.go HS0.out (bG.mono hG)
 obtain ⟨S1, hSd⟩ : ∃ S : World → Prop, S = (fun W => S0 W ∧ Row W G_1 25 p.cells) := ⟨_, rfl⟩
 have st1 : St S1 := by rw [hSd]; infer_instance
 have D1 : Hid (∀ W, S1 W → S0 W) := by show ∀ W, _; rw [hSd]; exact fun W h => h.1
 have F_P : Hid (∀ W, S1 W → Row W G_1 25 p.cells) := by show ∀ W, _; rw [hSd]; exact fun W h => h.2
 have HS1 : Hid (S1 w_2) := by show S1 w_2; rw [hSd]; exact ⟨hprev, rG⟩
 clear hSd
 clear hprev HS0 hG rG bG
 go_wp2_with fail
 refine (trWorks_any w_2).mono ?_
 rintro e w_3 ⟨rfl, bb⟩
 have hprev := st1.go HS1.out (bb)
 replace HS1 := Lib.hid hprev
 clear hprev bb
 go_wp2_with (refine wpList_load_row rfl 25 _ rfl G_1 rfl 25 p.cells (0, 0) _ (F_P.out _ HS1.out) Try.underlying25 rfl (by kernel_rfl) ?_)
 refine (few_any p w_3).mono ?_
 rintro e w_4 ⟨rfl, bb⟩
 have hprev := st1.go HS1.out (bb)
 replace HS1 := Lib.hid hprev
 clear hprev bb
 generalize hq : fewP p = q
 have Hq := Lib.hid hq
 clear hq
 cases q
 · skip
   go_wp2_with fail
   go_ret
   exact ⟨rfl, (F_low.out _ (D1.out _ HS1.out))⟩
 have hbl : p.body.length ≤ 60 := (fewZ_of (n := 0) (fuel := 0) (by unfold fewZ; rw [Hq.out]; rfl)).1
 have Hbl := Lib.hid hbl
 clear hbl Hq
 by_cases h1 : 40 < args.length
 · have h1p : (40 : Int) < (args.length : Int) := by omega
   go_wp2_with fail
   go_ret
   exact ⟨rfl, (F_low.out _ (D1.out _ HS1.out))⟩
 have h1p : (args.length : Int) ≤ 40 := by omega
 by_cases h2 : 200 < fuel
 · skip
   go_wp2_with fail
   go_ret
   exact ⟨rfl, (F_low.out _ (D1.out _ HS1.out))⟩
 have h2p : fuel ≤ 200 := by omega
 have hal : args.length ≤ 40 := by omega
 have Hal := Lib.hid hal
 clear hal
 go_wp2_with (refine wpList_load_row rfl 25 _ rfl G_1 rfl 25 p.cells (0, 0) _ (F_P.out _ HS1.out) Try.underlying25 rfl (by kernel_rfl) ?_)
 refine (mRunA p aa acap args fuel w_4 (by have := Hbl.out; omega) (by have := Hal.out; omega) (F_ok.out _ (D1.out _ HS1.out)) (F_rda.out _ (D1.out _ HS1.out)) Hin.out).mono ?_
 rintro e w_5 ⟨A_a, c_a, rfl, hrd, hle_a, hmx_a, hni_a, bb⟩
 have hprev := st1.go HS1.out (bb)
 obtain ⟨S2, hSd⟩ : ∃ S : World → Prop, S = (fun W => S1 W ∧ Rd3 ((runZ p args fuel).rv A_a c_a) W) := ⟨_, rfl⟩
 have st2 : St S2 := by rw [hSd]; infer_instance
 have D2 : Hid (∀ W, S2 W → S1 W) := by show ∀ W, _; rw [hSd]; exact fun W h => h.1
 have F_rd_a : Hid (∀ W, S2 W → Rd3 ((runZ p args fuel).rv A_a c_a) W) := by show ∀ W, _; rw [hSd]; exact fun W h => h.2
 have HS2 : Hid (S2 w_5) := by show S2 w_5; rw [hSd]; exact ⟨hprev, hrd⟩
 clear hSd
 clear hprev HS1 bb hrd
 go_wp2_with (refine at_alloc _ rfl ?_)
 refine Stop.to ?_
 refine wpList_alloc_gen rfl 32 rfl _ _ zero_run2 rfl ?_
 intro G_6 w_7 hG rG bG
 go_wp2_with (refine at_store _ _ _ rfl ?_)
 refine Stop.to ?_
 refine wpList_store_gen rfl 32 _ _ rfl G_6 ((runZ p args fuel).rv A_a c_a).cells rfl rfl 32 _ rG (by kernel_rfl) rfl (rv_one _) ?_
 intro w_8 rH oH
 have bH : Below (w_5).heap.size w_5 w_8 := (bG.mono hG).trans (oH.below hG)
 have hprev := st2.go HS2.out (bH)
 obtain ⟨S3, hSd⟩ : ∃ S : World → Prop, S = (fun W => S2 W ∧ Row W G_6 32 ((runZ p args fuel).rv A_a c_a).cells) := ⟨_, rfl⟩
 have st3 : St S3 := by rw [hSd]; infer_instance
 have D3 : Hid (∀ W, S3 W → S2 W) := by show ∀ W, _; rw [hSd]; exact fun W h => h.1
 have F_a : Hid (∀ W, S3 W → Row W G_6 32 ((runZ p args fuel).rv A_a c_a).cells) := by show ∀ W, _; rw [hSd]; exact fun W h => h.2
 have HS3 : Hid (S3 w_8) := by show S3 w_8; rw [hSd]; exact ⟨hprev, rH⟩
 clear hSd
 clear hprev HS2 hG rG bG rH oH bH
 go_wp2_with (refine wpList_load_row rfl 25 _ rfl G_1 rfl 25 p.cells (0, 0) _ (F_P.out _ (D2.out _ (D3.out _ HS3.out))) Try.underlying25 rfl (by kernel_rfl) ?_)
 refine (dRunA p aa acap args fuel w_8 (by have := Hbl.out; omega) (by have := Hal.out; omega) (F_ok.out _ (D1.out _ (D2.out _ (D3.out _ HS3.out)))) (F_rda.out _ (D1.out _ (D2.out _ (D3.out _ HS3.out)))) Hin.out).mono ?_
 rintro e w_9 ⟨A_b, c_b, rfl, hrd, hle_b, hmx_b, hni_b, bb⟩
 have hprev := st3.go HS3.out (bb)
 obtain ⟨S4, hSd⟩ : ∃ S : World → Prop, S = (fun W => S3 W ∧ Rd3 ((runZ p args fuel).rv A_b c_b) W) := ⟨_, rfl⟩
 have st4 : St S4 := by rw [hSd]; infer_instance
 have D4 : Hid (∀ W, S4 W → S3 W) := by show ∀ W, _; rw [hSd]; exact fun W h => h.1
 have F_rd_b : Hid (∀ W, S4 W → Rd3 ((runZ p args fuel).rv A_b c_b) W) := by show ∀ W, _; rw [hSd]; exact fun W h => h.2
 have HS4 : Hid (S4 w_9) := by show S4 w_9; rw [hSd]; exact ⟨hprev, hrd⟩
 clear hSd
 clear hprev HS3 bb hrd
 go_wp2_with (refine at_alloc _ rfl ?_)
 refine Stop.to ?_
 refine wpList_alloc_gen rfl 32 rfl _ _ zero_run2 rfl ?_
 intro G_10 w_11 hG rG bG
 go_wp2_with (refine at_store _ _ _ rfl ?_)
 refine Stop.to ?_
 refine wpList_store_gen rfl 32 _ _ rfl G_10 ((runZ p args fuel).rv A_b c_b).cells rfl rfl 32 _ rG (by kernel_rfl) rfl (rv_one _) ?_
 intro w_12 rH oH
 have bH : Below (w_9).heap.size w_9 w_12 := (bG.mono hG).trans (oH.below hG)
 have hprev := st4.go HS4.out (bH)
 obtain ⟨S5, hSd⟩ : ∃ S : World → Prop, S = (fun W => S4 W ∧ Row W G_10 32 ((runZ p args fuel).rv A_b c_b).cells) := ⟨_, rfl⟩
 have st5 : St S5 := by rw [hSd]; infer_instance
 have D5 : Hid (∀ W, S5 W → S4 W) := by show ∀ W, _; rw [hSd]; exact fun W h => h.1
 have F_b : Hid (∀ W, S5 W → Row W G_10 32 ((runZ p args fuel).rv A_b c_b).cells) := by show ∀ W, _; rw [hSd]; exact fun W h => h.2
 have HS5 : Hid (S5 w_12) := by show S5 w_12; rw [hSd]; exact ⟨hprev, rH⟩
 clear hSd
 clear hprev HS4 hG rG bG rH oH bH
 generalize checkZ p args.length fuel = cz
 have Hcz : Hid ((cz == cz) = true) := by show _ = _; simp
 have Hev : Hid ((runZ p args fuel).evs.length ≤ 10000) := run_evs p args fuel
 have OkA : Hid (∀ W, S5 W → ((runZ p args fuel).rv A_a c_a).ok W) := fun W hW => rv_ok (F_ok.out _ (D1.out _ (D2.out _ (D3.out _ (D4.out _ (D5.out _ hW)))))) Hin.out hle_a hmx_a hni_a (F_rd_a.out _ (D3.out _ (D4.out _ (D5.out _ hW))))
 have OkB : Hid (∀ W, S5 W → ((runZ p args fuel).rv A_b c_b).ok W) := fun W hW => rv_ok (F_ok.out _ (D1.out _ (D2.out _ (D3.out _ (D4.out _ (D5.out _ hW)))))) Hin.out hle_b hmx_b hni_b (F_rd_b.out _ (D5.out _ hW))
 have Hdg : Hid (digL ((runZ p args fuel).rv A_a c_a) = digL ((runZ p args fuel).rv A_b c_b)) := rfl
 obtain ⟨dg, hdg⟩ : ∃ d, d = digL ((runZ p args fuel).rv A_b c_b) := ⟨_, rfl⟩
 have HA : Hid (digL ((runZ p args fuel).rv A_a c_a) = dg) := by show _ = _; rw [Hdg.out, hdg]
 have HB : Hid (digL ((runZ p args fuel).rv A_b c_b) = dg) := hdg.symm
 clear hdg Hdg h1 h2 h1p h2p hle_a hmx_a hni_a hle_b hmx_b hni_b
 go_wp2_with fail
 refine region_hold S5 (by kernel_rfl) (by kernel_rfl) (St.drew HS5.out) ?_
 (refine hold_value rfl ?_ (fun W hW => ?_) ?_; rotate_left; (focus (go_simp; exact rfl)); simp only [Act.put, List.setIfInBounds_toArray, List.set_cons_zero, List.set_cons_succ])
 (refine hold_value rfl ?_ (fun W hW => ?_) ?_; rotate_left; (focus (go_simp; exact rfl)); simp only [Act.put, List.setIfInBounds_toArray, List.set_cons_zero, List.set_cons_succ])
 (refine hold_value rfl ?_ (fun W hW => ?_) ?_; rotate_left; (focus (go_simp; exact rfl)); simp only [Act.put, List.setIfInBounds_toArray, List.set_cons_zero, List.set_cons_succ])
 (refine hold_value rfl ?_ (fun W hW => ?_) ?_; rotate_left; (focus (go_simp; exact rfl)); simp only [Act.put, List.setIfInBounds_toArray, List.set_cons_zero, List.set_cons_succ])
 (refine hold_value rfl (.bool true) (fun W hW => by (have h := Hcz.out; go_simp; try exact rfl)) ?_; simp only [Act.put, List.setIfInBounds_toArray, List.set_cons_zero, List.set_cons_succ])
 (refine hold_value rfl ?_ (fun W hW => ?_) ?_; rotate_left; (focus (go_simp; exact rfl)); simp only [Act.put, List.setIfInBounds_toArray, List.set_cons_zero, List.set_cons_succ])
 (refine hold_value rfl ?_ (fun W hW => ?_) ?_; rotate_left; (focus (go_simp; exact rfl)); simp only [Act.put, List.setIfInBounds_toArray, List.set_cons_zero, List.set_cons_succ])
 (refine hold_load_row rfl 32 _ rfl (G_6) rfl 32 _ _ (fun W hW => (F_a.out _ (D4.out _ (D5.out _ hW)))) Try.underlying32 rfl (by kernel_rfl) ?_; simp only [Act.put, List.setIfInBounds_toArray, List.set_cons_zero, List.set_cons_succ])
 (refine hold_call_new rfl 31 _ (fun W => by (go_simp; try rfl)) (.string ⟨dg.toArray⟩) (fun W hW => by rw [← HA.out]; exact trDigest_any ((runZ p args fuel).rv A_a c_a) W (OkA.out W hW) Hev.out) ?_; simp only [Act.put, List.setIfInBounds_toArray, List.set_cons_zero, List.set_cons_succ])
 (refine hold_load_row rfl 32 _ rfl (G_10) rfl 32 _ _ (fun W hW => (F_b.out _ hW)) Try.underlying32 rfl (by kernel_rfl) ?_; simp only [Act.put, List.setIfInBounds_toArray, List.set_cons_zero, List.set_cons_succ])
 (refine hold_call_new rfl 31 _ (fun W => by (go_simp; try rfl)) (.string ⟨dg.toArray⟩) (fun W hW => by rw [← HB.out]; exact trDigest_any ((runZ p args fuel).rv A_b c_b) W (OkB.out W hW) Hev.out) ?_; simp only [Act.put, List.setIfInBounds_toArray, List.set_cons_zero, List.set_cons_succ])
 (refine hold_value rfl (.bool true) (fun W hW => by (go_simp; try simp)) ?_; simp only [Act.put, List.setIfInBounds_toArray, List.set_cons_zero, List.set_cons_succ])
 (refine hold_value rfl ?_ (fun W hW => ?_) ?_; rotate_left; (focus (go_simp; exact rfl)); simp only [Act.put, List.setIfInBounds_toArray, List.set_cons_zero, List.set_cons_succ])
 (refine hold_value rfl ?_ (fun W hW => ?_) ?_; rotate_left; (focus (go_simp; exact rfl)); simp only [Act.put, List.setIfInBounds_toArray, List.set_cons_zero, List.set_cons_succ])
 refine wpHold_nil fun W9 hW9 => ?_
 clear HS5
 have HS5 : Hid (S5 W9) := hW9
 clear hW9
 go_wp2_with fail
 go_ret
 exact ⟨rfl, (F_low.out _ (D1.out _ (D2.out _ (D3.out _ (D4.out _ (D5.out _ HS5.out))))))⟩
end Go.Proofs.Ytlglilmgklipdaa
