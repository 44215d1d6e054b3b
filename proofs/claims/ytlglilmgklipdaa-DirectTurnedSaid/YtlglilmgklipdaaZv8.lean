/- Lemmas for DirectTurnedP. -/
import Derived.Test.YtlglilmgklipdaaZv1
import Derived.Test.YtlglilmgklipdaaZv2
import Derived.Test.YtlglilmgklipdaaZv7
import Derived.Test.YtlglilmgklipdaaZv3
import Derived.Laws.Tables
import Derived.Great.BuildSlice
import Derived.WalkLawsBesides
namespace Go.Proofs.Ytlglilmgklipdaa
set_option linter.unusedVariables false
open Go.RowKit Go.Deep
theorem evcells_at : ∀ (l : List EvV) (k : Nat) (e : EvV), l[k]? = some e → ∀ j u, e.cells[j]? = some u → (l.flatMap EvV.cells)[k * 3 + j]? = some u
 | [], k, e, h, _, _, _ => by simp at h
 | a :: l, 0, e, h, j, u, hj => by
  simp at h; subst h
  have hl : j < a.cells.length := (List.getElem?_eq_some_iff.1 hj).1
  simp only [List.flatMap_cons]
  rw [List.getElem?_append_left (by omega)]
  simpa using hj
 | a :: l, k + 1, e, h, j, u, hj => by
  simp only [List.flatMap_cons]
  rw [List.getElem?_append_right (by simp [EvV.cells]; omega)]
  have := evcells_at l k e (by simpa using h) j u hj
  rw [← this]; congr 1; simp [EvV.cells]; omega
theorem hold_load_at {P : Program} {ops : Array Oper} {S : World → Prop} {Q : Act → Prop} {a : Act} {o : Oper} {rest : List Oper} (hw : Region.wanted o (yielded ops a.tmps) = true) (ty : TypeId) (x : Operand) (ho : o.op = .load ty x) (ad : Addr) (hx : a.eval x = .pointer (some ad)) (cs : List Value) (d : TypeDesc)
 (hr : ∀ W, S W → ∀ j v, cs[j]? = some v → W.cell? (ad.add j) = some v) (hu : P.underlying ty = some d) (hd : (match d with | .struct _ | .array _ _ => true | _ => false) = true) (hi : (P.info? ty).map (·.size) = some cs.length)
 (h : wpHold P ops S Q rest (a.put o.dst (.agg cs.toArray))) : wpHold P ops S Q (o :: rest) a :=
 hold_value hw (.agg cs.toArray) (fun W hW => by
  simp only [execOp, ho, hx, Instr.loadAt, Instr.sureAddr, Sem.run_bind, Sem.run_pure, Result.andThen_ok, run_loadVar_at W ad ty cs d (hr W hW) hu hd hi]) h
theorem run_exec_binop {P : Program} {o : Oper} {w : World} {ρ : Operand → Value} {b : BinOp} {t t' : TypeId} {x y : Operand} (ho : o.op = .binOp b t x y t') (v : Value) (hg : (eqGuard b t x y (ρ x) (ρ y)).run P w = .ok () w) (hv : (binOp b t (ρ x) (ρ y)).run P w = .ok v w) : (execOp ρ o).run P w = .ok (.value v) w := by
 simp only [execOp, ho, Sem.run_bind, hg, hv, Result.andThen_ok, Sem.run_pure]
def evNe (e f : EvV) : Bool := !(e.var == f.var && (e.at_ == f.at_ && e.val == f.val))
theorem evNe_iff (e f : EvV) : evNe e f = false ↔ e = f := by
 cases e; cases f
 simp [evNe]
theorem evNe_iff' (e f : EvV) : evNe e f = true ↔ e ≠ f := by rw [← Bool.not_eq_false, ne_eq, ← evNe_iff]
theorem neq_event (e f : EvV) (W : World) : (binOp .neq 41 (.agg e.cells.toArray) (.agg f.cells.toArray)).run Try.prog W = .ok (.bool (evNe e f)) W := by
 unfold EvV.cells evNe
 simp [go_sem]
 by_cases h1 : e.var = f.var <;> by_cases h2 : e.at_ = f.at_ <;> by_cases h3 : e.val = f.val <;> simp [h1, h2, h3]
def EqAns (a b : List EvV) (w : World) (e : Ending) (w' : World) : Prop := ∃ β : Bool, e = .returned (.bool β) ∧ (β = true ↔ a = b) ∧ Below w.heap.size w w'
set_option maxRecDepth 100000 in
set_option maxHeartbeats 2000000 in
theorem refEvents_any (A B : Option Addr) (c d : Nat) (a b : List EvV) (w : World) (ha : Rd w A (a.flatMap EvV.cells)) (hb : Rd w B (b.flatMap EvV.cells)) (hla : a.length ≤ 1000000) :
 Calls Try.prog 19 #[.slice A a.length c, .slice B b.length d] w (EqAns a b w) := by
 by_cases hl : a.length = b.length
 rotate_left
 · have hlI : ((a.length : Int) != (b.length : Int)) = true := by simp; omega
   have Hl := Lib.hid hl
   clear hl
   go_enter Try.func19, Try.ntmps19
   go_wp2
   go_ret
   exact ⟨false, rfl, ⟨fun h => (by cases h), fun h => absurd (by rw [h]) Hl.out⟩, Below.refl _ _⟩
 obtain ⟨n, hn⟩ : ∃ n, n = a.length := ⟨_, rfl⟩
 rw [← hl, ← hn]
 have Hn := Lib.hid hn
 have Hl := Lib.hid hl
 have hnb : (n : Int) ≤ 1000000 := by omega
 clear hn hl hla
 obtain ⟨S, hSd⟩ : ∃ S, S = (fun W => Rd W A (a.flatMap EvV.cells) ∧ Rd W B (b.flatMap EvV.cells) ∧ Below w.heap.size w W) := ⟨_, rfl⟩
 have stS : St S := by rw [hSd]; infer_instance
 have s0 : ∀ W, S W → Rd W A (a.flatMap EvV.cells) := by rw [hSd]; exact fun W h => h.1
 have s1 : ∀ W, S W → Rd W B (b.flatMap EvV.cells) := by rw [hSd]; exact fun W h => h.2.1
 have s2 : ∀ W, S W → Below w.heap.size w W := by rw [hSd]; exact fun W h => h.2.2
 have hS : S w := by rw [hSd]; exact ⟨ha, hb, Below.refl _ _⟩
 have S0' := Lib.hid s0
 have S1' := Lib.hid s1
 have S2' := Lib.hid s2
 clear hSd s0 s1 s2 ha hb
 go_enter Try.func19, Try.ntmps19
 go_wp2
 go_loopw [5] (fun i wr => ∃ k : Nat, i = .int .i64 (k : Int) ∧ k ≤ n ∧ Hid (a.take k = b.take k) ∧ S wr) (fun i _ => n - (intOf i).toNat)
 case atStart => exact ⟨0, by simp, Nat.zero_le _, by simp [Hid], hS⟩
 case round =>
  clear hS
  obtain ⟨k, rfl, hk, Hk, hS⟩ := hrel
  by_cases hkn : k < n
  · obtain ⟨e, he⟩ : ∃ e, a[k]? = some e := ⟨_, List.getElem?_eq_getElem (by have := Hn.out; omega)⟩
    obtain ⟨f, hf⟩ : ∃ f, b[k]? = some f := ⟨_, List.getElem?_eq_getElem (by have := Hn.out; have := Hl.out; omega)⟩
    obtain ⟨ad, had, _⟩ := (S0'.out _ hS).part (k * 3) e.cells (evcells_at a k e he) (by simp [EvV.cells])
    obtain ⟨bd, hbd, _⟩ := (S1'.out _ hS).part (k * 3) f.cells (evcells_at b k f hf) (by simp [EvV.cells])
    subst had hbd
    have hca : ∀ W, S W → ∀ j v, e.cells[j]? = some v → W.cell? ((ad.add (k * 3)).add j) = some v := fun W h => by
     obtain ⟨ad', h1, h2⟩ := (S0'.out _ h).part (k * 3) e.cells (evcells_at a k e he) (by simp [EvV.cells])
     injection h1 with h1; subst h1; exact h2
    have hcb : ∀ W, S W → ∀ j v, f.cells[j]? = some v → W.cell? ((bd.add (k * 3)).add j) = some v := fun W h => by
     obtain ⟨ad', h1, h2⟩ := (S1'.out _ h).part (k * 3) f.cells (evcells_at b k f hf) (by simp [EvV.cells])
     injection h1 with h1; subst h1; exact h2
    have He := Lib.hid he
    have Hf := Lib.hid hf
    have Hca := Lib.hid hca
    have Hcb := Lib.hid hcb
    have hkn' : (k : Int) < (n : Int) := by omega
    have Hne := Lib.hid (neq_event e f)
    clear he hf hca hcb
    go_wp2
    refine region_hold S (by kernel_rfl) (by kernel_rfl) (St.drew hS) ?_
    clear hS
    iterate 3 (refine hold_value rfl ?_ (fun W hW => ?_) ?_; rotate_left; (focus (go_simp; exact rfl)); simp only [Act.put, List.setIfInBounds_toArray, List.set_cons_zero, List.set_cons_succ])
    (refine hold_load_at rfl 41 _ rfl (ad.add (k * 3)) rfl e.cells _ Hca.out Try.underlying41 rfl (by kernel_rfl) ?_; simp only [Act.put, List.setIfInBounds_toArray, List.set_cons_zero, List.set_cons_succ])
    iterate 3 (refine hold_value rfl ?_ (fun W hW => ?_) ?_; rotate_left; (focus (go_simp; exact rfl)); simp only [Act.put, List.setIfInBounds_toArray, List.set_cons_zero, List.set_cons_succ])
    (refine hold_load_at rfl 41 _ rfl (bd.add (k * 3)) rfl f.cells _ Hcb.out Try.underlying41 rfl (by kernel_rfl) ?_; simp only [Act.put, List.setIfInBounds_toArray, List.set_cons_zero, List.set_cons_succ])
    refine hold_value rfl (.bool (evNe e f)) (fun W _ => run_exec_binop rfl _ (run_eqGuard_agg _ _ _ _ _ _ _ (by kernel_rfl)) (by exact Hne.out W)) ?_
    simp only [Act.put, List.setIfInBounds_toArray, List.set_cons_zero, List.set_cons_succ]
    refine wpHold_nil fun W hS => ?_
    by_cases hef : evNe e f = true
    · rw [hef]
      have Hef := Lib.hid hef
      clear hef
      go_wp2
      go_ret
      have hne : a ≠ b := fun h => (evNe_iff' e f).1 Hef.out (by
       have h1 := He.out
       rw [h, Hf.out] at h1
       exact (Option.some.inj h1).symm)
      exact ⟨false, rfl, ⟨fun h => (by cases h), fun h => absurd h hne⟩, S2'.out _ hS⟩
    · have hef : evNe e f = false := by simpa using hef
      rw [hef]
      have Hef := Lib.hid hef
      clear hef
      go_wp2
      go_roundw
      case rel =>
       refine ⟨k + 1, by go_num, by omega, ?_, hS⟩
       show _ = _
       obtain ⟨h1, h1'⟩ := List.getElem?_eq_some_iff.1 He.out
       obtain ⟨h2, h2'⟩ := List.getElem?_eq_some_iff.1 Hf.out
       rw [List.take_succ_eq_append_getElem h1, List.take_succ_eq_append_getElem h2, h1', h2', Hk.out, (evNe_iff e f).1 Hef.out]
      case measure => simp [intOf]; omega
  · obtain rfl : k = n := by omega
    have heq : a = b := by
     have h := Hk.out
     have h1 := Hn.out
     have h2 := Hl.out
     rw [List.take_of_length_le (by omega), List.take_of_length_le (by omega)] at h
     exact h
    have Heq := Lib.hid heq
    clear heq hkn
    go_wp2
    go_ret
    exact ⟨true, rfl, ⟨fun _ => Heq.out, fun _ => rfl⟩, S2'.out _ hS⟩
end Go.Proofs.Ytlglilmgklipdaa
namespace Go.Proofs.Ytlglilmgklipdaa
set_option linter.unusedVariables false
open Go.RowKit Go.Deep
theorem okO_good {p : PgV} {t : Tr} {w : World} (hok : p.ok w) (hg : Good p t) : okO p.V t := by
 refine ⟨hg.hat.fits, by rw [hg.kind]; omega, fun x hx => ?_⟩
 obtain ⟨r, hr⟩ := hg.hat.here
 rw [List.drop_zero] at hr
 exact (hok.bin x (by rw [hr]; exact List.mem_append_left _ hx)).2
theorem OkS_init {p : PgV} {t : Tr} {w : World} {args : List Int} {F : Nat} (hok : p.ok w) (hg : Good p t) (hv : varsOk p.params p.V) (hl : (args.length : Int) = p.params) (hin : ∀ a ∈ args, InI a) : OkS p.V (initS p.V args F) := by
 refine ⟨by simp [initS, vals0], by simp [initS, arrs0], fun i t v h1 h2 => ?_, fun i t a h1 h2 => ?_, fun e he => by simp [initS] at he, fun k v h => by simp [initS] at h, by have := hv.2.2.1; omega⟩
 · have hil : i < p.V.length := (List.getElem?_eq_some_iff.1 h1).1
   simp only [initS, vals0, List.getElem?_map, List.getElem?_range hil, Option.map_some, Option.some.injEq] at h2
   subst h2
   by_cases hi : i < args.length
   · have e : args.getD i 0 = args[i] := by simp [List.getD, List.getElem?_eq_getElem hi]
     refine ⟨by rw [e]; exact hin _ (List.getElem_mem _), fun ht => ?_⟩
     have := hv.2.2.2 i hil
     rw [List.getD_eq_getElem?_getD, h1, Option.getD_some] at this
     simp only [okVar, decide_eq_true_eq] at this
     omega
   · have e : args.getD i 0 = 0 := by simp [List.getD, List.getElem?_eq_none (show args.length ≤ i by omega)]
     rw [e]
     exact ⟨InI_0, fun _ => .inl rfl⟩
 · simp only [initS, arrs0, List.getElem?_map, h1, Option.map_some, Option.some.injEq] at h2
   subst h2
   refine ⟨?_, fun x hx => ?_⟩
   · rw [List.length_replicate]; unfold sizeZ; split <;> omega
   · rw [(List.mem_replicate.1 hx).2]; exact InI_0
theorem RChg.new {L : Lay} {B : Nat} {W W' : World} {ev' : Value} (h : RChg L (.slice none 0 0) W ev' W') (n : LNew B L) (hB : B ≤ W.heap.size) : Below B W W' :=
 ⟨h.os, h.tape, h.output, h.size, fun k hk => h.block k (by omega) (by have := n.m; omega) (fun e => by have := n.vv k e; omega) (fun e => by have := n.ab k e; omega) (by simp [Value.ownBlock])⟩
structure Kept (L : Lay) (W : World) (g : Nat) (t : TypeId) (cs : Array Value) : Prop where
 row : Row W g t cs
 m : g ≠ L.M
 vv : L.vv.ownBlock ≠ some g
 ab : g ∉ L.ab
theorem Kept.go {L : Lay} {W W' : World} {g : Nat} {t : TypeId} {cs : Array Value} {ev' : Value} (h : Kept L W g t cs) (c : RChg L (.slice none 0 0) W ev' W') : Row W' g t cs :=
 (c.block g h.row.lt h.m h.vv h.ab (by simp [Value.ownBlock])).trans h.row
end Go.Proofs.Ytlglilmgklipdaa
namespace Go.Proofs.Ytlglilmgklipdaa
set_option linter.unusedVariables false
open Go.RowKit Go.Deep
theorem Big.det {t : Tr} {s a b : Ms} {u v : Int} (h : Big (.one t) s u a) (k : Big (.one t) s v b) : u = v ∧ a = b := by
 have h1 := h.ev (s.fuel + 1) (by omega)
 have h2 := k.ev (s.fuel + 1) (by omega)
 rw [h1] at h2
 exact ⟨congrArg Prod.fst h2, congrArg Prod.snd h2⟩
def IsRun (p : PgV) (args : List Int) (fuel : Int) (s : Ms) : Prop := ∃ t v s', Good p t ∧ Big (.one t) (initS p.V args fuel.toNat) v s' ∧ s = s'.stopped 3 0
theorem IsRun.det {p : PgV} {args : List Int} {fuel : Int} {a b : Ms} (h : IsRun p args fuel a) (k : IsRun p args fuel b) : a = b := by
 obtain ⟨t, v, s, g, hb, rfl⟩ := h
 obtain ⟨t', v', s', g', hb', rfl⟩ := k
 have := g.hat.uniq g'.hat
 subst this
 rw [(hb.det hb').2]
def zeroS : Ms := ⟨[], [], 0, 0, [], none⟩
open Classical in
noncomputable def runZ (p : PgV) (args : List Int) (fuel : Int) : Ms := if h : checkZ p args.length fuel = 0 ∧ ∃ s, IsRun p args fuel s then h.2.choose else zeroS
theorem runZ_no {p : PgV} {args : List Int} {fuel : Int} (h : checkZ p args.length fuel ≠ 0) : runZ p args fuel = zeroS := by
 unfold runZ; rw [dif_neg (fun k => h k.1)]
theorem runZ_of {p : PgV} {args : List Int} {fuel : Int} {s : Ms} (h : checkZ p args.length fuel = 0) (k : IsRun p args fuel s) : runZ p args fuel = s := by
 unfold runZ
 rw [dif_pos ⟨h, s, k⟩]
 exact (Exists.choose_spec (p := fun s => IsRun p args fuel s) ⟨s, k⟩).det k
structure RunK (p : PgV) (args : List Int) (fuel : Int) (t : Tr) (v : Int) (s' : Ms) : Prop where
 good : Good p t
 big : Big (.one t) (initS p.V args fuel.toNat) v s'
 eq : runZ p args fuel = s'.stopped 3 0
 oks : OkS p.V s'
 init : OkS p.V (initS p.V args fuel.toNat)
 okO : okO p.V t
theorem runZ_is {p : PgV} {args : List Int} {fuel : Int} {w : World} (hok : p.ok w) (hin : ∀ a ∈ args, InI a) (h : checkZ p args.length fuel = 0) : ∃ t v s', RunK p args fuel t v s' := by
 obtain ⟨t, hg, hl, h0, h1⟩ := checkZ_zero h
 have h2 := okO_good hok hg
 have h3 := OkS_init (F := fuel.toNat) hok hg hg.vars hl hin
 obtain ⟨v, s', hb⟩ := big_ex p.V (fuel.toNat + 1) (initS p.V args fuel.toNat) (by simp [initS]) h3 t h2
 exact ⟨t, v, s', hg, hb, runZ_of h ⟨t, v, s', hg, hb, rfl⟩, (hb.inv (g := .one t) h2 h3).1, h3, h2⟩
theorem RunK.fin {p : PgV} {args : List Int} {fuel : Int} {t : Tr} {v : Int} {s' : Ms} (h : RunK p args fuel t v s') : ∃ fin : Mm, Reach (enterM 0 t ⟨initS p.V args fuel.toNat, []⟩) fin ∧ fin.s.out.isSome = true ∧ fin.s = s'.stopped 3 0 := by
 obtain ⟨m, h1, h2, h3⟩ := sim h.big h.okO h.init rfl 0 [] (fun hk => absurd h.good.kind hk)
 cases ho : s'.out with
 | some o =>
  refine ⟨m, h1, by rw [h2, ho]; rfl, ?_⟩
  rw [h2]; unfold Ms.stopped; rw [ho]; rfl
 | none =>
  have hs := h3 ho
  have hm : m = ⟨s', []⟩ := by cases m; simp only at h2 hs; subst h2; rw [hs, told]
  refine ⟨⟨s'.stop 3 0, []⟩, h1.trans (.one (by rw [h2]; exact ho) (by rw [hm]; exact .done s')), rfl, ?_⟩
  unfold Ms.stopped; rw [ho]; rfl
structure RunA (s : Ms) (err : Int) (w w' : World) (e : Ending) : Prop where
 ex : ∃ A cap, e = .returned (.tuple #[.agg #[.int .i64 (s.out.getD (0, 0)).1, .int .i64 (s.out.getD (0, 0)).2, .int .i64 (s.steps : Int), .slice A s.evs.length cap], .int .i64 err]) ∧ Rd w' A (s.evs.flatMap EvV.cells) ∧ s.evs.length ≤ cap ∧ cap ≤ maxLen ∧ (A = none → cap = 0) ∧ Below w.heap.size w w'
theorem own_ev {w : World} {base n size : Nat} {e : TypeId} {v : Value} {xs : List Value} (h : w.ownsRow base e size v n xs) : ∃ A cap, v = .slice A n cap ∧ Rd w A xs ∧ n ≤ cap ∧ cap ≤ maxLen ∧ (A = none → cap = 0) := by
 rcases h.2 with ⟨rfl, rfl⟩ | ⟨g, cap, cur, rfl, _, hh, hc, hm, _, ht⟩
 · have h1 := h.1
   simp at h1
   subst h1
   exact ⟨none, 0, rfl, Rd.nil _ _, Nat.le_refl _, Nat.zero_le _, fun _ => rfl⟩
 · refine ⟨some ⟨g, 0, none⟩, cap, rfl, fun j u hj => ⟨_, rfl, ?_⟩, hc, hm, fun h => by cases h⟩
   have hr : Row w g e cur := hh
   have hjl : j < xs.length := (List.getElem?_eq_some_iff.1 hj).1
   rw [← ht] at hj hjl
   have hjt := hjl
   rw [List.length_take] at hjt
   rw [List.getElem?_take_of_lt (by omega)] at hj
   have : w.cell? ⟨g, j, none⟩ = some u := hr.cellv (by rw [← Array.getElem?_toList]; exact hj)
   unfold Addr.add
   by_cases h0 : j = 0
   · subst h0; exact this
   · rw [if_neg h0]; simpa using this
theorem RunR.a {fin : Mm} {w w' : World} {e : Ending} (h : RunR fin w w' e) : RunA fin.s 0 w w' e := by
 obtain ⟨ev, rfl, hown, hb⟩ := h.ex
 obtain ⟨A, cap, rfl, h1, h2, h3, h4⟩ := own_ev hown
 exact ⟨A, cap, rfl, h1, h2, h3, h4, hb⟩
theorem RunA.bad {p : PgV} {args : List Int} {fuel : Int} {w w' : World} {e : Ending} (h : checkZ p args.length fuel ≠ 0) (he : e = .returned (.tuple #[.agg #[.int .i64 0, .int .i64 0, .int .i64 0, .slice none 0 0], .int .i64 (checkZ p args.length fuel)]) ∧ Below w.heap.size w w') : RunA (runZ p args fuel) (checkZ p args.length fuel) w w' e := by
 obtain ⟨rfl, hb⟩ := he
 rw [runZ_no h]
 exact ⟨none, 0, rfl, Rd.nil _ _, Nat.le_refl _, Nat.zero_le _, fun _ => rfl, hb⟩
theorem stopped_steps (s : Ms) : (s.stopped 3 0).steps = s.steps := by unfold Ms.stopped; split <;> rfl
theorem stopped_evs (s : Ms) : (s.stopped 3 0).evs = s.evs := by unfold Ms.stopped; split <;> rfl
theorem stopped_some {s : Ms} {o : Int × Int} (h : s.out = some o) : s.stopped 3 0 = s := by unfold Ms.stopped; rw [h]; rfl
theorem stopped_none {s : Ms} (h : s.out = none) : s.stopped 3 0 = s.stop 3 0 := by unfold Ms.stopped; rw [h]; rfl
theorem RunK.steps {p : PgV} {args : List Int} {fuel : Int} {t : Tr} {v : Int} {s' : Ms} (h : RunK p args fuel t v s') : s'.fuel + s'.steps = fuel.toNat := by
 have := h.big.ext.sum
 simpa [initS] using this
theorem RunK.kind {p : PgV} {args : List Int} {F : Int} {t : Tr} {v : Int} {s : Ms} (h : RunK p args F t v s) : ∃ k x, (runZ p args F).out = some (k, x) ∧ ((k = 0 ∧ InI x) ∨ (1 ≤ k ∧ k ≤ 4 ∧ x = 0)) ∧ ∀ e ∈ (runZ p args F).evs, OkE p.V e := by
 rw [h.eq]
 cases he : s.out with
 | none =>
  rw [stopped_none he]
  exact ⟨3, 0, rfl, .inr ⟨by omega, by omega, rfl⟩, h.oks.evs⟩
 | some o =>
  rw [stopped_some he, he]
  exact ⟨o.1, o.2, rfl, h.oks.out o.1 o.2 he, h.oks.evs⟩
def Ms.late (s : Ms) (k : Nat) : Ms := { s with steps := k + s.steps }
theorem Big.late {g : Gl} {s s' : Ms} {v : Int} (h : Big g s v s') (k : Nat) : Big g (s.late k) v (s'.late k) := by
 induction h with
 | nil s => exact .nil _
 | cons t ts s s1 s2 v u h1 h2 i1 i2 => exact .cons t ts _ _ _ v u i1 i2
 | over t s h => exact .over t _ h
 | empty t s h h0 => exact .empty t (s.late k) h h0
 | lit x s h ht => exact .lit x (s.late k) h ht
 | var x s h ht => exact .var x (s.late k) h ht
 | skip x s h ht => exact .skip x (s.late k) h ht
 | block x ks s s1 u h ht h1 i1 => exact .block x ks (s.late k) _ u h ht i1
 | cut x a ks s s1 v h ht h1 ho i1 => exact .cut x a ks (s.late k) _ v h ht i1 ho
 | atNo x a s s1 v h ht h1 ho hb i1 => exact .atNo x a (s.late k) (s1.late k) v h ht i1 ho hb
 | at_ x a s s1 v h ht h1 ho hb i1 => exact .at_ x a (s.late k) (s1.late k) v h ht i1 ho hb
 | neg x a s s1 v h ht h1 ho i1 => exact .neg x a (s.late k) (s1.late k) v h ht i1 ho
 | not x a s s1 v h ht h1 ho i1 => exact .not x a (s.late k) (s1.late k) v h ht i1 ho
 | and0 x a b s s1 h ht h1 ho i1 => exact .and0 x a b (s.late k) (s1.late k) h ht i1 ho
 | and1 x a b s s1 s2 v u h ht h1 ho hv h2 i1 i2 => exact .and1 x a b (s.late k) (s1.late k) (s2.late k) v u h ht i1 ho hv i2
 | or1 x a b s s1 h ht h1 ho i1 => exact .or1 x a b (s.late k) (s1.late k) h ht i1 ho
 | or0 x a b s s1 s2 v u h ht h1 ho hv h2 i1 i2 => exact .or0 x a b (s.late k) (s1.late k) (s2.late k) v u h ht i1 ho hv i2
 | set x a s s1 v h ht h1 ho i1 => exact .set x a (s.late k) (s1.late k) v h ht i1 ho
 | ifs x a b c t s s1 s2 v u h ht h1 ho hv h2 i1 i2 => exact .ifs x a b c t (s.late k) (s1.late k) (s2.late k) v u h ht i1 ho hv i2
 | while0 x a b s s1 v h ht h1 ho hv i1 => exact .while0 x a b (s.late k) (s1.late k) v h ht i1 ho hv
 | while1 x a b s s1 s2 s3 u r h ht h1 ho h2 h3 i1 i2 i3 => exact .while1 x a b (s.late k) (s1.late k) (s2.late k) (s3.late k) u r h ht i1 ho i2 i3
 | ret x a s s1 v h ht h1 ho i1 => exact .ret x a (s.late k) (s1.late k) v h ht i1 ho
 | cut2 x a b s s1 s2 v u h ht h1 ho h2 ho2 i1 i2 => exact .cut2 x a b (s.late k) (s1.late k) (s2.late k) v u h ht i1 ho i2 ho2
 | putNo x a b s s1 s2 v u h ht h1 ho h2 ho2 hb i1 i2 => exact .putNo x a b (s.late k) (s1.late k) (s2.late k) v u h ht i1 ho i2 ho2 hb
 | put x a b s s1 s2 v u h ht h1 ho h2 ho2 hb i1 i2 => exact .put x a b (s.late k) (s1.late k) (s2.late k) v u h ht i1 ho i2 ho2 hb
 | pairNo x a b s s1 s2 v u h ht h1 ho h2 ho2 hp i1 i2 => exact .pairNo x a b (s.late k) (s1.late k) (s2.late k) v u h ht i1 ho i2 ho2 hp
 | pair x a b s s1 s2 v u c h ht h1 ho h2 ho2 hp i1 i2 => exact .pair x a b (s.late k) (s1.late k) (s2.late k) v u c h ht i1 ho i2 ho2 hp
end Go.Proofs.Ytlglilmgklipdaa
namespace Go.Proofs.Ytlglilmgklipdaa
set_option linter.unusedVariables false
open Go.RowKit
section
variable {P : Program} {ops : Array Oper} {rest : List Oper} {o : Oper} {a : Act} {w : World} {Q : Exit → Act → World → Prop}
theorem wpList_hold (S : World → Prop) (hS : S w) : ∀ (n : Nat) (l : List Oper) (a : Act) (w : World), S w → wpHold P ops S (fun a' => ∀ W, S W → wpList P ops Q (l.drop n) a' W) (l.take n) a → wpList P ops Q l a w := by
 intro n
 induction n with
 | zero => intro l a w hS h; exact h w hS
 | succ n ih =>
  intro l a w hS h
  cases l with
  | nil => exact h w hS
  | cons o l =>
   obtain ⟨v, hy, hh⟩ := h
   refine wpList_step fun K hK => ?_
   rcases hy with ⟨hw, hv⟩ | ⟨hw, rfl⟩
   · rw [if_pos hw]
     have h1 := hv w hS
     unfold Oper.wp
     generalize (execOp a.eval o).run P w = r at h1
     cases r with
     | ok n' w' =>
      cases n' <;> simp only [holdUpon] at h1 <;> simp only [Oper.upon]
      case value u => obtain ⟨rfl, h2⟩ := h1; exact hK _ _ (ih l _ _ h2 hh)
      case skip => obtain ⟨rfl, h2⟩ := h1; exact hK _ _ (ih l _ _ h2 hh)
      case enter f args => exact h1.mono fun e w'' ⟨he, hs⟩ => by subst he; exact hK _ _ (ih l _ _ hs hh)
     | halt x w' => simp only [holdUpon] at h1
   · rw [if_neg (by rw [hw]; simp)]
     exact hK _ _ (ih l _ _ hS hh)
theorem wpList_holdN (S : World → Prop) (n : Nat) {l : List Oper} (hS : S w) (h : wpHold P ops S (fun a' => ∀ W, S W → wpList P ops Q (l.drop n) a' W) (l.take n) a) : wpList P ops Q l a w := wpList_hold S hS n l a w hS h
theorem at_load (ty : TypeId) (x : Operand) (_ : o.op = .load ty x) (h : Stop (wpList P ops Q (o :: rest) a w) id) : wpList P ops Q (o :: rest) a w := h.out
theorem at_slice (t : TypeId) (n : Nat) (ps : Array (Nat × Operand)) (_ : o.op = .buildSlice t n ps) (h : Stop (wpList P ops Q (o :: rest) a w) id) : wpList P ops Q (o :: rest) a w := h.out
theorem wpList_slice_gen (hw : Region.wanted o (yielded ops a.tmps) = true) (t : TypeId) (n : Nat) (ps : Array (Nat × Operand)) (ho : o.op = .buildSlice t n ps) (e : TypeId) (cells : Array Value)
 (hx : ∀ W, (Instr.buildSlice t n (ps.map fun (i, x) => (i, a.eval x))).run P W = .ok (.slice (some ⟨W.heap.size, 0, none⟩) n n) (W.alloc (.cells cells e)))
 (h : ∀ g w', w.heap.size ≤ g → Row w' g e cells → Below g w w' → wpList P ops Q rest (a.put o.dst (.slice (some ⟨g, 0, none⟩) n n)) w') : wpList P ops Q (o :: rest) a w := by
 refine BigFrame.wpList_want hw fun K hK => ?_
 unfold Oper.wp execOp
 simp only [ho, Sem.run_bind, hx, Result.andThen_ok, Sem.run_pure]
 exact hK _ _ (h _ _ (Nat.le_refl _) (Row.new _ _ _) ((Below.refl _ _).alloc (Nat.le_refl _) _))
theorem bs_run {t e : TypeId} {n sz : Nat} {z : Value} {parts : Array (Nat × Value)} {cells : Array Value} (hu : P.underlying t = some (.slice e)) (hi : (P.info? e).map (fun i => (i.zero, i.size)) = some (some z, sz)) (h1 : n * sz ≤ 2 ^ 24) (h2 : n * sz ≠ 0)
 (hf : Instr.fill (fun i => some (i * sz, sz)) ((Array.range (n * sz)).map (z.cells[· % z.cells.size]!)) parts.toList = some cells) : ∀ W, (Instr.buildSlice t n parts).run P W = .ok (.slice (some ⟨W.heap.size, 0, none⟩) n n) (W.alloc (.cells cells e)) := by
 intro W
 cases hq : P.info? e with
 | none => rw [hq] at hi; cases hi
 | some ie =>
  rw [hq] at hi
  simp only [Option.map_some, Option.some.injEq, Prod.mk.injEq] at hi
  obtain ⟨hz, rfl⟩ := hi
  exact run_buildSlice W t e n parts cells ie z hu hq hz (by omega) h2 hf
end
end Go.Proofs.Ytlglilmgklipdaa
namespace Go.Proofs.Ytlglilmgklipdaa
set_option linter.unusedVariables false
open Go.RowKit Go.Deep
def outC (k v : Int) : List Value := [.int .i64 k, .int .i64 v]
theorem eql_outcome (k v k' v' : Int) (W : World) : (binOp .eql 29 (.agg (outC k v).toArray) (.agg (outC k' v').toArray)).run Try.prog W = .ok (.bool (k == k' && v == v')) W := by
 unfold outC
 simp [go_sem]
 by_cases h1 : k = k' <;> by_cases h2 : v = v' <;> simp [h1, h2]
theorem out_cells {W : World} {G : Nat} {r : RunV} (h : Row W G 32 r.cells) : ∀ j v, (outC r.kind r.value)[j]? = some v → W.cell? ((⟨G, 0, none⟩ : Addr).add j) = some v :=
 Row.from_ (cur := r.cells) h 0 (fun j v hj => by
  match j, hj with
  | 0, hj | 1, hj => exact hj)
def Rd3 (r : RunV) (W : World) : Prop := Rd W r.addr (r.evs.flatMap EvV.cells)
instance St.rd3 {r : RunV} : St (Rd3 r) := ⟨fun h b => Rd.go h b⟩
def Ms.rv (s : Ms) (A : Option Addr) (cap : Nat) : RunV := ⟨(s.out.getD (0, 0)).1, (s.out.getD (0, 0)).2, s.steps, A, cap, s.evs⟩
theorem rv_one (r : RunV) : r.cells.all (·.oneCell') = true := by simp [RunV.cells, Value.oneCell']
def fewZ (p : PgV) (n : Nat) (fuel : Int) : Bool := fewP p && (decide (n ≤ 40) && (decide (fuel ≤ 400) || decide (10000 < fuel)))
theorem fewZ_of {p : PgV} {n : Nat} {fuel : Int} (h : fewZ p n fuel = true) : p.body.length ≤ 60 ∧ n ≤ 40 ∧ (fuel ≤ 400 ∨ 10000 < fuel) := by
 simp only [fewZ, fewP, Bool.and_eq_true, Bool.or_eq_true, decide_eq_true_eq] at h
 exact ⟨h.1.1, h.2.1, h.2.2⟩
theorem run_evs (p : PgV) (args : List Int) (fuel : Int) : (runZ p args fuel).evs.length ≤ 10000 := by
 unfold runZ
 split
 · rename_i h
   obtain ⟨t, v, s', _, hb, he⟩ := h.2.choose_spec
   rw [he, stopped_evs]
   obtain ⟨_, _, _, h0, h1⟩ := checkZ_zero h.1
   have h2 := hb.ext.few
   have h3 := hb.ext.sum
   simp only [initS, List.length_nil] at h2 h3
   omega
 · exact Nat.zero_le _
theorem run_few (p : PgV) (args : List Int) (fuel : Int) : (runZ p args fuel).evs.length ≤ 1000000 := Nat.le_trans (run_evs p args fuel) (by omega)
end Go.Proofs.Ytlglilmgklipdaa
namespace Go.Proofs.Ytlglilmgklipdaa
set_option linter.unusedVariables false
open Go.RowKit Go.Deep
theorem rd_row {W : World} {g : Nat} {t : TypeId} {cs : List Value} (h : Row W g t cs.toArray) : Rd W (some ⟨g, 0, none⟩) cs := fun j u hj => ⟨_, rfl, by
 have := h.cellv (i := j) (v := u) (by simpa using hj)
 unfold Addr.add
 by_cases h0 : j = 0
 · subst h0; exact this
 · rw [if_neg h0]; simpa using this⟩
def litP (params : Int) (V : List Int) (body : List Nd) (g1 g2 : Nat) : PgV := ⟨params, some ⟨g1, 0, none⟩, V.length, V, some ⟨g2, 0, none⟩, body.length, body⟩
theorem litP_ok {params : Int} {V : List Int} {body : List Nd} {g1 g2 : Nat} {W : World} (hp : InI params) (hv : ∀ t ∈ V, InI t) (hb : ∀ x ∈ body, InI x.tag ∧ InI x.n) (h1 : V.length ≤ maxLen) (h2 : body.length ≤ maxLen)
 (r1 : Row W g1 3 (ints V).toArray) (r2 : Row W g2 44 (body.flatMap Nd.cells).toArray) : (litP params V body g1 g2).ok W :=
 ⟨hp, Nat.le_refl _, h1, fun h => (by cases h), rd_row r1, hv, Nat.le_refl _, h2, fun h => (by cases h), rd_row r2, hb⟩
def bodyW : List Nd := [⟨20, 1⟩, ⟨25, 0⟩, ⟨7, 0⟩, ⟨3, 0⟩, ⟨1, 1⟩]
def treeW : Tr := .node ⟨20, 1⟩ [.node ⟨25, 0⟩ [.node ⟨7, 0⟩ [.node ⟨3, 0⟩ [], .node ⟨1, 1⟩ []]]]
def pW (g1 g2 : Nat) : PgV := litP 1 [0] bodyW g1 g2
theorem pW_ok {g1 g2 : Nat} {W : World} (r1 : Row W g1 3 (ints [0]).toArray) (r2 : Row W g2 44 (bodyW.flatMap Nd.cells).toArray) : (pW g1 g2).ok W :=
 litP_ok (by unfold InI; omega) (by simp [InI]) (by simp [bodyW, InI]) (by unfold maxLen; simp) (by unfold maxLen; simp [bodyW]) r1 r2
theorem treeW_fits : treeW.fits := by
 refine .mk _ _ (by rfl) (fun k hk => ?_)
 rw [List.mem_singleton.1 hk]
 refine .mk _ _ (by rfl) (fun k hk => ?_)
 rw [List.mem_singleton.1 hk]
 refine .mk _ _ (by rfl) (fun k hk => ?_)
 simp only [List.mem_cons, List.not_mem_nil, or_false] at hk
 rcases hk with rfl | rfl
 · exact .mk _ _ (by rfl) (fun k hk => by simp at hk)
 · exact .mk _ _ (by rfl) (fun k hk => by simp at hk)
theorem goodW (g1 g2 : Nat) : Good (pW g1 g2) treeW := ⟨⟨treeW_fits, [], by rfl⟩, by rfl, by show varsOk 1 [0]; decide, rfl, by show ofT [0] treeW = 2; decide +kernel⟩
theorem checkW (g1 g2 n : Nat) (fuel : Int) : checkZ (pW g1 g2) n fuel = if (n : Int) ≠ 1 then 18 else if fuel < 0 ∨ 10000 < fuel then 19 else 0 := checkZ_good (goodW g1 g2)
theorem run_lit {p : PgV} {t : Tr} {args : List Int} {fuel v : Int} {s : Ms} {w : World} (hok : p.ok w) (hin : ∀ a ∈ args, InI a) (hc : checkZ p args.length fuel = 0) (hg : Good p t) (he : evG (fuel.toNat + 1) (.one t) (initS p.V args fuel.toNat) = (v, s)) : runZ p args fuel = s.stopped 3 0 := by
 obtain ⟨t', v', s', hk⟩ := runZ_is hok hin hc
 have := hk.good.hat.uniq hg.hat
 subst this
 have h1 := hk.big.ev (fuel.toNat + 1) (by simp [initS])
 rw [he] at h1
 have h2 : s = s' := congrArg Prod.snd h1
 rw [hk.eq, h2]
theorem runW5 {g1 g2 : Nat} {w : World} (h : (pW g1 g2).ok w) : runZ (pW g1 g2) [4] 5 = ⟨[4], [[]], 0, 5, [], some (0, 5)⟩ := by
 rw [run_lit h (by simp [InI]) (by rw [checkW]; rfl) (goodW g1 g2) (v := 0) (s := ⟨[4], [[]], 0, 5, [], some (0, 5)⟩) (by kernel_rfl)]; rfl
theorem runW4 {g1 g2 : Nat} {w : World} (h : (pW g1 g2).ok w) : runZ (pW g1 g2) [4] 4 = ⟨[4], [[]], 0, 4, [], some (4, 0)⟩ := by
 rw [run_lit h (by simp [InI]) (by rw [checkW]; rfl) (goodW g1 g2) (v := 0) (s := ⟨[4], [[]], 0, 4, [], some (4, 0)⟩) (by kernel_rfl)]; rfl
theorem runWn {g1 g2 : Nat} {fuel : Int} : runZ (pW g1 g2) [] fuel = zeroS := runZ_no (by rw [checkW]; simp)
theorem info_i : (Try.prog.info? 3).map (fun i => (i.zero, i.size)) = some (some (.int .i64 0), 1) := by kernel_rfl
theorem info_n : (Try.prog.info? 44).map (fun i => (i.zero, i.size)) = some (some (.agg #[.int .i64 0, .int .i64 0]), 2) := by kernel_rfl
theorem zero_prog {w : World} : (zeroValue 25).run Try.prog w = .ok (.agg #[.int .i64 0, .slice none 0 0, .slice none 0 0]) w := by kernel_rfl
theorem prog_one (p : PgV) : p.cells.all (·.oneCell') = true := by simp [PgV.cells, Value.oneCell']
end Go.Proofs.Ytlglilmgklipdaa
namespace Go.Proofs.Ytlglilmgklipdaa
set_option linter.unusedVariables false
open Go.RowKit Go.Deep
def overV (k v : Int) : Value := .iface 101 (.agg #[.int .i64 k, .int .i64 v])
def thrown (k v : Int) : Ending := .panicked [{ v := overV k v, recovered := false }]
def cellV (t : Int) (g : Nat) : Value := if sizeZ t = 0 then .iface 82 (.agg #[.pointer (some ⟨g, 0, none⟩)]) else .iface 77 (.slice (some ⟨g, 0, none⟩) (sizeZ t).toNat (sizeZ t).toNat)
def Ms.cont (s : Ms) (i : Nat) (t : Int) : List Int := if sizeZ t = 0 then [(s.vals[i]?).getD 0] else (s.arrs[i]?).getD []
def Lay.dcells (L : Lay) (s : Ms) (ev : Value) : Array Value :=
 #[.slice L.p.ba L.p.body.length L.p.bcap, .slice L.aa L.ab.length L.acap, .int .i64 (L.F : Int), .int .i64 0, .int .i64 0, .int .i64 (s.steps : Int), ev]
structure DR (L : Lay) (s : Ms) (ev : Value) (W : World) : Prop where
 row : Row W L.M 76 (L.dcells s ev)
 evs : W.ownsRow L.b1 41 3 ev s.evs.length (s.evs.flatMap EvV.cells)
 rows : ∀ (i g : Nat) (t : Int), L.ab[i]? = some g → L.p.V[i]? = some t → Row W g 3 (ints (s.cont i t)).toArray
 im : L.Im W
 size : L.b1 ≤ W.heap.size
 sum : s.steps + s.fuel = L.F
 few : s.evs.length ≤ s.steps
structure DOk (L : Lay) : Prop extends LOk0 L where
 pok : ∀ W, L.Im W → L.p.ok W
 cells : ∀ W, L.Im W → ∀ (i g : Nat) (t : Int), L.ab[i]? = some g → L.p.V[i]? = some t → ∃ ad : Addr, L.aa = some ad ∧ W.cell? (ad.add i) = some (cellV t g)
 alen : L.ab.length = L.p.V.length
 vv : L.vv = .slice none 0 0
instance {L : Lay} : Coe (DOk L) (LOk0 L) := ⟨DOk.toLOk0⟩
section
variable {L : Lay} {s s' : Ms} {ev : Value} {W W' : World}
theorem DR.below (h : DR L s ev W) (hL : LOk0 L) (b : Below W.heap.size W W') : DR L s ev W' :=
 ⟨h.row.below b h.row.lt, own_below h.evs b, fun i g t h1 h2 => (h.rows i g t h1 h2).below b (h.rows i g t h1 h2).lt, hL.im _ _ h.im (.below (b.mono h.size)), Nat.le_trans h.size b.size, h.sum, h.few⟩
theorem DR.drew (h : DR L s ev W) (hL : LOk0 L) (n : Nat) : DR L s ev (W.drewN n) := h.below hL ⟨rfl, rfl, rfl, Nat.le_refl _, fun _ _ => rfl⟩
theorem DR.setM (h : DR L s ev W) (hL : LOk0 L) (o : Only L.M W W') (hr : Row W' L.M 76 (L.dcells s' ev)) (h1 : s'.vals = s.vals) (h2 : s'.arrs = s.arrs) (h3 : s'.evs = s.evs) (h4 : s'.steps + s'.fuel = L.F) (h5 : s.steps ≤ s'.steps) : DR L s' ev W' :=
 ⟨hr, by rw [h3]; exact own_only h.evs o (fun e => by have := own_lo h.evs e; have := hL.lt; omega), fun i g t a b => by have := (h.rows i g t a b).only o (hL.alt g (List.mem_of_getElem? a)).2; unfold Ms.cont at this ⊢; rw [h1, h2]; exact this,
  hL.im _ _ h.im (.only o (.inr (.inl rfl))), by rw [o.size]; exact h.size, h4, by rw [h3]; have := h.few; omega⟩
theorem DR.far_new (h : DR L s ev W) {g : Nat} {W' : World} (hg : W.heap.size ≤ g) (hlt : g < W'.heap.size) : Far L ev W' g :=
 ⟨Nat.le_trans h.size hg, fun e => by have := h.evs.lt _ e; omega, hlt⟩
theorem DR.setB (h : DR L s ev W) (hL : LOk0 L) {n g : Nat} {t : Int} (hg : L.ab[n]? = some g) (ht : L.p.V[n]? = some t) (o : Only g W W') (hr : Row W' g 3 (ints (s'.cont n t)).toArray)
 (hv : ∀ i, i ≠ n → s'.vals[i]? = s.vals[i]? ∧ s'.arrs[i]? = s.arrs[i]?) (h3 : s'.evs = s.evs) (h4 : s'.steps = s.steps) (h5 : s'.fuel = s.fuel) : DR L s' ev W' := by
 have hm := List.mem_of_getElem? hg
 have hlt := hL.alt g hm
 refine ⟨?_, by rw [h3]; exact own_only h.evs o (fun e => by have := own_lo h.evs e; omega), fun i g' t' hi ht' => ?_, hL.im _ _ h.im (.only o (.inr (.inr (.inr hm)))), by rw [o.size]; exact h.size, by rw [h4, h5]; exact h.sum, by rw [h3, h4]; exact h.few⟩
 · have := h.row.only o (fun e => hlt.2 e.symm)
   unfold Lay.dcells at this ⊢
   rw [h4]; exact this
 · by_cases hin : i = n
   · subst hin
     rw [hg] at hi; rw [ht] at ht'
     cases hi; cases ht'
     exact hr
   · have hgg : g' ≠ g := by
      intro e
      subst e
      obtain ⟨l1, e1⟩ := List.getElem?_eq_some_iff.1 hg
      obtain ⟨l2, e2⟩ := List.getElem?_eq_some_iff.1 hi
      rcases Nat.lt_trichotomy i n with hl | hl | hl
      · exact absurd (e2.trans e1.symm) (List.pairwise_iff_getElem.1 hL.and i n l2 l1 hl)
      · exact hin hl
      · exact absurd (e1.trans e2.symm) (List.pairwise_iff_getElem.1 hL.and n i l1 l2 hl)
     have := (h.rows i g' t' hi ht').only o hgg
     unfold Ms.cont at this ⊢
     rw [(hv i hin).1, (hv i hin).2]; exact this
theorem RChg.onlyB {g : Nat} (o : Only g W W') (hg : g ∈ L.ab) : RChg L ev W ev W' := RChg.only o (.inr (.inr hg))
end
theorem end_dir (k v : Int) (w : World) : Calls Try.prog 97 #[.int .i64 k, .int .i64 v] w fun e w' => e = thrown k v ∧ w = w' := by
 go_enter Try.func97, Try.ntmps97
 go_wp2
 exact ⟨rfl, rfl, rfl⟩
theorem as_any (b : Bool) (w : World) : Calls Try.prog 99 #[.bool b] w fun e w' => e = .returned (.int .i64 (tr b)) ∧ w = w' := by
 cases b
 all_goals
  go_enter Try.func99, Try.ntmps99
  go_wp2
  go_ret
  exact ⟨rfl, rfl⟩
set_option maxRecDepth 100000 in
set_option maxHeartbeats 4000000 in
theorem both_any (tag a b c : Int) (w : World) (ht : 7 ≤ tag ∧ tag ≤ 17) (hp : pairT tag a b = some c) : Calls Try.prog 102 #[.int .i64 tag, .int .i64 a, .int .i64 b] w fun e w' => e = .returned (.int .i64 c) ∧ w = w' := by
 have key : tag = 7 ∨ tag = 8 ∨ tag = 9 ∨ tag = 12 ∨ tag = 13 ∨ tag = 14 ∨ tag = 15 ∨ tag = 16 ∨ tag = 17 ∨ tag = 10 ∨ tag = 11 := by omega
 clear ht
 rcases key with rfl | rfl | rfl | rfl | rfl | rfl | rfl | rfl | rfl | rfl | rfl
 · have hc : wrap64 (a + b) = c := by simpa [pairT] using hp
   subst hc; clear hp
   go_enter Try.func102, Try.ntmps102
   go_wp2
   go_ret
   exact ⟨ret_i (by first | rfl | simp), rfl⟩
 · have hc : wrap64 (a - b) = c := by simpa [pairT] using hp
   subst hc; clear hp
   go_enter Try.func102, Try.ntmps102
   go_wp2
   go_ret
   exact ⟨ret_i (by first | rfl | simp), rfl⟩
 · have hc : wrap64 (a * b) = c := by simpa [pairT] using hp
   subst hc; clear hp
   go_enter Try.func102, Try.ntmps102
   go_wp2
   go_ret
   exact ⟨ret_i (by first | rfl | simp), rfl⟩
 · have hc : tr (decide (a = b)) = c := by simpa [pairT] using hp
   clear hp
   go_enter Try.func102, Try.ntmps102
   go_wp2_with fail
   refine (as_any _ _).mono ?_
   rintro e w' ⟨rfl, rfl⟩
   go_wp2
   go_ret
   exact ⟨ret_i (by rw [← hc]; all_goals (first | (congr 1; done) | (congr 1; rw [Bool.eq_iff_iff]; simp))), rfl⟩
 · have hc : tr (decide (a ≠ b)) = c := by simpa [pairT] using hp
   clear hp
   go_enter Try.func102, Try.ntmps102
   go_wp2_with fail
   refine (as_any _ _).mono ?_
   rintro e w' ⟨rfl, rfl⟩
   go_wp2
   go_ret
   exact ⟨ret_i (by rw [← hc]; all_goals (first | (congr 1; done) | (congr 1; rw [Bool.eq_iff_iff]; simp))), rfl⟩
 · have hc : tr (decide (a < b)) = c := by simpa [pairT] using hp
   clear hp
   go_enter Try.func102, Try.ntmps102
   go_wp2_with fail
   refine (as_any _ _).mono ?_
   rintro e w' ⟨rfl, rfl⟩
   go_wp2
   go_ret
   exact ⟨ret_i (by rw [← hc]; all_goals (first | (congr 1; done) | (congr 1; rw [Bool.eq_iff_iff]; simp))), rfl⟩
 · have hc : tr (decide (a ≤ b)) = c := by simpa [pairT] using hp
   clear hp
   go_enter Try.func102, Try.ntmps102
   go_wp2_with fail
   refine (as_any _ _).mono ?_
   rintro e w' ⟨rfl, rfl⟩
   go_wp2
   go_ret
   exact ⟨ret_i (by rw [← hc]; all_goals (first | (congr 1; done) | (congr 1; rw [Bool.eq_iff_iff]; simp))), rfl⟩
 · have hc : tr (decide (b < a)) = c := by simpa [pairT] using hp
   clear hp
   go_enter Try.func102, Try.ntmps102
   go_wp2_with fail
   refine (as_any _ _).mono ?_
   rintro e w' ⟨rfl, rfl⟩
   go_wp2
   go_ret
   exact ⟨ret_i (by rw [← hc]; all_goals (first | (congr 1; done) | (congr 1; rw [Bool.eq_iff_iff]; simp))), rfl⟩
 · have hc : tr (decide (b ≤ a)) = c := by simpa [pairT] using hp
   clear hp
   go_enter Try.func102, Try.ntmps102
   go_wp2_with fail
   refine (as_any _ _).mono ?_
   rintro e w' ⟨rfl, rfl⟩
   go_wp2
   go_ret
   exact ⟨ret_i (by rw [← hc]; all_goals (first | (congr 1; done) | (congr 1; rw [Bool.eq_iff_iff]; simp))), rfl⟩
 · by_cases h0 : b = 0
   · simp [pairT, h0] at hp
   have hc : wrap64 (a.tdiv b) = c := by simpa [pairT, h0] using hp
   subst hc; clear hp
   go_enter Try.func102, Try.ntmps102
   go_wp2
   go_ret
   exact ⟨ret_i (by first | rfl | simp), rfl⟩
 · by_cases h0 : b = 0
   · simp [pairT, h0] at hp
   have hc : a.tmod b = c := by simpa [pairT, h0] using hp
   subst hc; clear hp
   go_enter Try.func102, Try.ntmps102
   go_wp2
   go_ret
   exact ⟨ret_i (by first | rfl | simp), rfl⟩
set_option maxRecDepth 100000 in
set_option maxHeartbeats 4000000 in
theorem bothNo_any (tag a b : Int) (w : World) (hp : pairT tag a b = none) : Calls Try.prog 102 #[.int .i64 tag, .int .i64 a, .int .i64 b] w fun e w' => e = thrown 1 0 ∧ w = w' := by
 have hb : b = 0 ∧ (tag = 10 ∨ tag = 11) := by
  unfold pairT at hp
  repeat' split at hp
  all_goals (first | (cases hp; done) | (refine ⟨?_, ?_⟩ <;> first | assumption | omega))
 obtain ⟨rfl, ht⟩ := hb
 clear hp
 rcases ht with rfl | rfl
 all_goals
  go_enter Try.func102, Try.ntmps102
  go_wp2_with fail
  refine (end_dir _ _ _).mono ?_
  rintro e w' ⟨rfl, rfl⟩
  simp only [thrown]
  go_wp2
  exact ⟨rfl, rfl, rfl⟩
end Go.Proofs.Ytlglilmgklipdaa
