/- Lemmas for DirectMutantsP. -/
import Derived.Test.YtdcmppdhdcjpfaaGreatZp11
import Derived.Test.YtdcmppdhdcjpfaaGreatZp12
import Derived.Test.YtdcmppdhdcjpfaaGreatZp1
import Derived.Test.YtdcmppdhdcjpfaaGreatZp2
import Derived.Test.YtdcmppdhdcjpfaaGreatZp3
import Derived.Laws.Tables
import Derived.Great.BuildSlice
set_option linter.unusedVariables false
set_option linter.unusedSimpArgs false
set_option maxRecDepth 100000
set_option maxHeartbeats 16000000
namespace Go.Proofs.YtdcmppdhdcjpfaaGreat
open Go.RowKit Go.Deep
theorem KC {p : PgV} {n : Nat} {fuel : Int} (h : QW p n fuel = 0) : ∃ t, Good p t ∧ (n : Int) = p.params ∧ 0 ≤ fuel ∧ fuel ≤ 10000 := by
 by_cases hg : ∃ t, Good p t
 · obtain ⟨t, ht⟩ := hg
   rw [Z7 ht] at h
   refine ⟨t, ht, ?_⟩
   split at h
   · cases h
   · split at h
     · cases h
     · omega
 · rw [Kd (fun t ht => hg ⟨t, ht⟩)] at h; cases h
theorem Aes (p : PgV) (t : Tr) (aa : Option Addr) (acap : Nat) (args : List Int) (fuel : Int) (fin : Mm) (w : World) (hbl : p.body.length ≤ 1000) (hn : args.length ≤ 1000) (hok : p.ok w) (hra : Rd w aa (Qg args)) (hg : Good p t)
 (hc : QW p args.length fuel = 0) (hfin : Reach (ZM 0 t ⟨Zb p.V args fuel.toNat, []⟩) fin) (ho : fin.s.out.isSome = true) :
 Calls Tryz.prog 20 #[.agg p.cells, .slice aa args.length acap, .int .i64 fuel] w fun e w' => RunR fin w w' e := by
 obtain ⟨_, _, h1, h2⟩ := KC hc
 exact AdA p t aa acap args fuel fin w hbl hn hok hg hc (fun w' hok' b => Add p aa acap args fuel w' hbl hn hok' hg.vars h1 h2 (hra.go b)) hfin ho
theorem Aag (p : PgV) (aa : Option Addr) (acap n : Nat) (fuel : Int) (w : World) (hbl : p.body.length ≤ 1000) (hn : n ≤ 1000) (hok : p.ok w) (hc : QW p n fuel ≠ 0) :
 Calls Tryz.prog 20 #[.agg p.cells, .slice aa n acap, .int .i64 fuel] w fun e w' => e = .returned (.tuple #[.agg #[.int .i64 0, .int .i64 0, .int .i64 0, .slice none 0 0], .int .i64 (QW p n fuel)]) ∧ Below w.heap.size w w' := by
 have Hok := Lh hok
 have Hbl := Lh hbl
 have Hn := Lh hn
 obtain ⟨cz, hcz⟩ : ∃ cz, QW p n fuel = cz := ⟨_, rfl⟩
 have Hcz := Lh hcz
 rw [hcz] at hc ⊢
 have ec : (cz == 0) = false := by simpa using hc
 clear hok hbl hn hcz hc
 go_enter Tryz.func20, Tryz.ntmps20
 go_wp2_with (refine Qq _ _ rfl ?_)
 refine Stop.to ?_
 refine Qe rfl 25 _ rfl p.cells rfl ?_
 intro G w1 hG r1 b1
 replace b1 := (Below.refl w.heap.size w).trans (b1.mono hG)
 clear hG
 go_wp2_with (refine Qy _ rfl ?_)
 refine Stop.to ?_
 refine Qi rfl 40 rfl _ _ ZE rfl ?_
 intro RB w2 hRB rB b2
 replace r1 := r1.below (b2.mono hRB) r1.lt
 have hRBw : w.heap.size ≤ RB := Nat.le_trans b1.size hRB
 replace b2 := b1.trans ((b2.mono hRB).mono b1.size)
 have R1 := Lh r1
 have RB2 := Lh rB
 have B2 := Lh b2
 clear r1 b1 b2 rB hRB
 go_wp2_with fail
 refine wp_scope_straight ?_
 go_wp2_with (refine wpList_load_row rfl 25 _ rfl G rfl 25 p.cells (0, 0) _ R1.out Tryz.underlying25 rfl (by kernel_rfl) ?_)
 refine (JS p aa acap n fuel Hbl.out Hn.out w2 (Hok.out.go B2.out)).mono ?_
 rintro e w3 ⟨rfl, b3⟩
 rw [Hcz.out]
 have RB3 := Lh (RB2.out.below b3 RB2.out.lt)
 have B3 := Lh (B2.out.trans (b3.mono B2.out.size))
 clear b3 R1 RB2 B2
 go_wp2_with (refine Ql _ _ _ rfl ?_)
 refine Stop.to ?_
 refine Qj rfl 40 _ _ rfl RB #[.int .i64 0, .int .i64 0, .int .i64 0, .slice none 0 0] rfl rfl 40 _ RB3.out (by kernel_rfl) rfl (JW 0 0 0 rfl) ?_
 intro W9 r9 o9
 go_wp2_with fail
 rw [Exit.noGoto_ret]
 refine bodyPost_ret (QY Tryz.results20 _ _ RB 40 _ (0, 0) _ rfl r9 Tryz.underlying40 rfl (by kernel_rfl)) rfl ?_
 exact ⟨rfl, Qv B3.out o9 hRBw⟩
theorem Ks : ∀ (l : List EvV) (k : Nat) (e : EvV), l[k]? = some e → ∀ j u, e.cells[j]? = some u → (l.flatMap EvV.cells)[k * 3 + j]? = some u
 | [], k, e, h, _, _, _ => by simp at h
 | a :: l, 0, e, h, j, u, hj => by
  simp at h; subst h
  have hl : j < a.cells.length := (List.getElem?_eq_some_iff.1 hj).1
  simp only [List.flatMap_cons]
  rw [List.getElem?_append_left (by omega)]
  simpa using hj
 | a :: l, k + 1, e, h, j, u, hj => by
  simp only [List.flatMap_cons]
  rw [List.getElem?_append_right (by simp [EvV.cells]; omega)]
  have := Ks l k e (by simpa using h) j u hj
  rw [← this]; congr 1; simp [EvV.cells]; omega
theorem Ja {P : Program} {ops : Array Oper} {S : World → Prop} {Q : Act → Prop} {a : Act} {o : Oper} {rest : List Oper} (hw : Region.wanted o (yielded ops a.tmps) = true) (ty : TypeId) (x : Operand) (ho : o.op = .load ty x) (ad : Addr) (hx : a.eval x = .pointer (some ad)) (cs : List Value) (d : TypeDesc)
 (hr : ∀ W, S W → ∀ j v, cs[j]? = some v → W.cell? (ad.add j) = some v) (hu : P.underlying ty = some d) (hd : (match d with | .struct _ | .array _ _ => true | _ => false) = true) (hi : (P.info? ty).map (·.size) = some cs.length)
 (h : ZL P ops S Q rest (a.put o.dst (.agg cs.toArray))) : ZL P ops S Q (o :: rest) a :=
 Qh hw (.agg cs.toArray) (fun W hW => by
  simp only [execOp, ho, hx, Instr.loadAt, Instr.sureAddr, Sem.run_bind, Sem.run_pure, Result.andThen_ok, Z9 W ad ty cs d (hr W hW) hu hd hi]) h
theorem Z5 {P : Program} {o : Oper} {w : World} {ρ : Operand → Value} {b : BinOp} {t t' : TypeId} {x y : Operand} (ho : o.op = .binOp b t x y t') (v : Value) (hg : (eqGuard b t x y (ρ x) (ρ y)).run P w = .ok () w) (hv : (binOp b t (ρ x) (ρ y)).run P w = .ok v w) : (execOp ρ o).run P w = .ok (.value v) w := by
 simp only [execOp, ho, Sem.run_bind, hg, hv, Result.andThen_ok, Sem.run_pure]
def Aan (e f : EvV) : Bool := !(e.var == f.var && (e.at_ == f.at_ && e.val == f.val))
theorem AaB (e f : EvV) : Aan e f = false ↔ e = f := by
 cases e; cases f
 simp [Aan]
theorem Acz (e f : EvV) : Aan e f = true ↔ e ≠ f := by rw [← Bool.not_eq_false, ne_eq, ← AaB]
theorem Ac4 (e f : EvV) (W : World) : (binOp .neq 189 (.agg e.cells.toArray) (.agg f.cells.toArray)).run Tryz.prog W = .ok (.bool (Aan e f)) W := by
 unfold EvV.cells Aan
 simp [go_sem]
 by_cases h1 : e.var = f.var <;> by_cases h2 : e.at_ = f.at_ <;> by_cases h3 : e.val = f.val <;> simp [h1, h2, h3]
def Af9 (a b : List EvV) (w : World) (e : Ending) (w' : World) : Prop := ∃ β : Bool, e = .returned (.bool β) ∧ (β = true ↔ a = b) ∧ Below w.heap.size w w'
theorem Vn (A B : Option Addr) (c d : Nat) (a b : List EvV) (w : World) (ha : Rd w A (a.flatMap EvV.cells)) (hb : Rd w B (b.flatMap EvV.cells)) (hla : a.length ≤ 1000000) :
 Calls Tryz.prog 63 #[.slice A a.length c, .slice B b.length d] w (Af9 a b w) := by
 by_cases hl : a.length = b.length
 rotate_left
 · have hlI : ((a.length : Int) != (b.length : Int)) = true := by simp; omega
   have Hl := Lh hl
   clear hl
   go_enter Tryz.func63, Tryz.ntmps63
   go_wp2
   go_ret
   exact ⟨false, rfl, ⟨fun h => (by cases h), fun h => absurd (by rw [h]) Hl.out⟩, Below.refl _ _⟩
 obtain ⟨n, hn⟩ : ∃ n, n = a.length := ⟨_, rfl⟩
 rw [← hl, ← hn]
 have Hn := Lh hn
 have Hl := Lh hl
 have hnb : (n : Int) ≤ 1000000 := by omega
 clear hn hl hla
 obtain ⟨S, hSd⟩ : ∃ S, S = (fun W => Rd W A (a.flatMap EvV.cells) ∧ Rd W B (b.flatMap EvV.cells) ∧ Below w.heap.size w W) := ⟨_, rfl⟩
 have stS : St S := by rw [hSd]; infer_instance
 have s0 : ∀ W, S W → Rd W A (a.flatMap EvV.cells) := by rw [hSd]; exact fun W h => h.1
 have s1 : ∀ W, S W → Rd W B (b.flatMap EvV.cells) := by rw [hSd]; exact fun W h => h.2.1
 have s2 : ∀ W, S W → Below w.heap.size w W := by rw [hSd]; exact fun W h => h.2.2
 have hS : S w := by rw [hSd]; exact ⟨ha, hb, Below.refl _ _⟩
 have S0' := Lh s0
 have S1' := Lh s1
 have S2' := Lh s2
 clear hSd s0 s1 s2 ha hb
 go_enter Tryz.func63, Tryz.ntmps63
 go_wp2
 go_loopw [5] (fun i wr => ∃ k : Nat, i = .int .i64 (k : Int) ∧ k ≤ n ∧ Hid (a.take k = b.take k) ∧ S wr) (fun i _ => n - (intOf i).toNat)
 case atStart => exact ⟨0, by simp, Nat.zero_le _, by simp [Hid], hS⟩
 case round =>
  clear hS
  obtain ⟨k, rfl, hk, Hk, hS⟩ := hrel
  by_cases hkn : k < n
  · obtain ⟨e, he⟩ : ∃ e, a[k]? = some e := ⟨_, List.getElem?_eq_getElem (by have := Hn.out; omega)⟩
    obtain ⟨f, hf⟩ : ∃ f, b[k]? = some f := ⟨_, List.getElem?_eq_getElem (by have := Hn.out; have := Hl.out; omega)⟩
    obtain ⟨ad, had, _⟩ := (S0'.out _ hS).part (k * 3) e.cells (Ks a k e he) (by simp [EvV.cells])
    obtain ⟨bd, hbd, _⟩ := (S1'.out _ hS).part (k * 3) f.cells (Ks b k f hf) (by simp [EvV.cells])
    subst had hbd
    have hca : ∀ W, S W → ∀ j v, e.cells[j]? = some v → W.cell? ((ad.add (k * 3)).add j) = some v := fun W h => by
     obtain ⟨ad', h1, h2⟩ := (S0'.out _ h).part (k * 3) e.cells (Ks a k e he) (by simp [EvV.cells])
     injection h1 with h1; subst h1; exact h2
    have hcb : ∀ W, S W → ∀ j v, f.cells[j]? = some v → W.cell? ((bd.add (k * 3)).add j) = some v := fun W h => by
     obtain ⟨ad', h1, h2⟩ := (S1'.out _ h).part (k * 3) f.cells (Ks b k f hf) (by simp [EvV.cells])
     injection h1 with h1; subst h1; exact h2
    have He := Lh he
    have Hf := Lh hf
    have Hca := Lh hca
    have Hcb := Lh hcb
    have hkn' : (k : Int) < (n : Int) := by omega
    have Hne := Lh (Ac4 e f)
    clear he hf hca hcb
    go_wp2
    refine ZR S (by kernel_rfl) (by kernel_rfl) (St.drew hS) ?_
    clear hS
    iterate 3 (refine Qh rfl ?_ (fun W hW => ?_) ?_; rotate_left; (focus (go_simp; exact rfl)); simp only [Act.put, Qa, Qb, Qc])
    (refine Ja rfl 189 _ rfl (ad.add (k * 3)) rfl e.cells _ Hca.out Tryz.underlying189 rfl (by kernel_rfl) ?_; simp only [Act.put, Qa, Qb, Qc])
    iterate 3 (refine Qh rfl ?_ (fun W hW => ?_) ?_; rotate_left; (focus (go_simp; exact rfl)); simp only [Act.put, Qa, Qb, Qc])
    (refine Ja rfl 189 _ rfl (bd.add (k * 3)) rfl f.cells _ Hcb.out Tryz.underlying189 rfl (by kernel_rfl) ?_; simp only [Act.put, Qa, Qb, Qc])
    refine Qh rfl (.bool (Aan e f)) (fun W _ => Z5 rfl _ (run_eqGuard_agg _ _ _ _ _ _ _ (by kernel_rfl)) (by exact Hne.out W)) ?_
    simp only [Act.put, Qa, Qb, Qc]
    refine QJ fun W hS => ?_
    by_cases hef : Aan e f = true
    · rw [hef]
      have Hef := Lh hef
      clear hef
      go_wp2
      go_ret
      have hne : a ≠ b := fun h => (Acz e f).1 Hef.out (by
       have h1 := He.out
       rw [h, Hf.out] at h1
       exact (Option.some.inj h1).symm)
      exact ⟨false, rfl, ⟨fun h => (by cases h), fun h => absurd h hne⟩, S2'.out _ hS⟩
    · have hef : Aan e f = false := by simpa using hef
      rw [hef]
      have Hef := Lh hef
      clear hef
      go_wp2
      go_roundw
      case rel =>
       refine ⟨k + 1, by go_num, by omega, ?_, hS⟩
       show _ = _
       obtain ⟨h1, h1'⟩ := List.getElem?_eq_some_iff.1 He.out
       obtain ⟨h2, h2'⟩ := List.getElem?_eq_some_iff.1 Hf.out
       rw [List.take_succ_eq_append_getElem h1, List.take_succ_eq_append_getElem h2, h1', h2', Hk.out, (AaB e f).1 Hef.out]
      case measure => simp [intOf]; omega
  · obtain rfl : k = n := by omega
    have heq : a = b := by
     have h := Hk.out
     have h1 := Hn.out
     have h2 := Hl.out
     rw [List.take_of_length_le (by omega), List.take_of_length_le (by omega)] at h
     exact h
    have Heq := Lh heq
    clear heq hkn
    go_wp2
    go_ret
    exact ⟨true, rfl, ⟨fun _ => Heq.out, fun _ => rfl⟩, S2'.out _ hS⟩
theorem Ad3 {p : PgV} {t : Tr} {w : World} (hok : p.ok w) (hg : Good p t) : okO p.V t := by
 refine ⟨hg.hat.fits, by rw [hg.kind]; omega, fun x hx => ?_⟩
 obtain ⟨r, hr⟩ := hg.hat.here
 rw [List.drop_zero] at hr
 exact (hok.bin x (by rw [hr]; exact List.mem_append_left _ hx)).2
theorem Ad2 {p : PgV} {t : Tr} {w : World} {args : List Int} {F : Nat} (hok : p.ok w) (hg : Good p t) (hv : Kj p.params p.V) (hl : (args.length : Int) = p.params) (hin : ∀ a ∈ args, InI a) : OkS p.V (Zb p.V args F) := by
 refine ⟨by simp [Zb, JI], by simp [Zb, Up], fun i t v h1 h2 => ?_, fun i t a h1 h2 => ?_, fun e he => by simp [Zb] at he, fun k v h => by simp [Zb] at h, by have := hv.2.2.1; omega⟩
 · have hil : i < p.V.length := (List.getElem?_eq_some_iff.1 h1).1
   simp only [Zb, JI, List.getElem?_map, List.getElem?_range hil, Option.map_some, Option.some.injEq] at h2
   subst h2
   by_cases hi : i < args.length
   · have e : args.getD i 0 = args[i] := by simp [List.getD, List.getElem?_eq_getElem hi]
     refine ⟨by rw [e]; exact hin _ (List.getElem_mem _), fun ht => ?_⟩
     have := hv.2.2.2 i hil
     rw [List.getD_eq_getElem?_getD, h1, Option.getD_some] at this
     simp only [Xe, decide_eq_true_eq] at this
     omega
   · have e : args.getD i 0 = 0 := by simp [List.getD, List.getElem?_eq_none (show args.length ≤ i by omega)]
     rw [e]
     exact ⟨JL, fun _ => .inl rfl⟩
 · simp only [Zb, Up, List.getElem?_map, h1, Option.map_some, Option.some.injEq] at h2
   subst h2
   refine ⟨?_, fun x hx => ?_⟩
   · rw [List.length_replicate]; unfold Qx; split <;> omega
   · rw [(List.mem_replicate.1 hx).2]; exact JL
theorem RChg.new {L : Lay} {B : Nat} {W W' : World} {ev' : Value} (h : RChg L (.slice none 0 0) W ev' W') (n : LNew B L) (hB : B ≤ W.heap.size) : Below B W W' :=
 ⟨h.os, h.tape, h.output, h.size, fun k hk => h.block k (by omega) (by have := n.m; omega) (fun e => by have := n.vv k e; omega) (fun e => by have := n.ab k e; omega) (by simp [Value.ownBlock])⟩
structure Kept (L : Lay) (W : World) (g : Nat) (t : TypeId) (cs : Array Value) : Prop where
 row : Row W g t cs
 m : g ≠ L.M
 vv : L.vv.ownBlock ≠ some g
 ab : g ∉ L.ab
theorem Kept.go {L : Lay} {W W' : World} {g : Nat} {t : TypeId} {cs : Array Value} {ev' : Value} (h : Kept L W g t cs) (c : RChg L (.slice none 0 0) W ev' W') : Row W' g t cs :=
 (c.block g h.row.lt h.m h.vv h.ab (by simp [Value.ownBlock])).trans h.row
theorem Big.det {t : Tr} {s a b : Ms} {u v : Int} (h : Big (.one t) s u a) (k : Big (.one t) s v b) : u = v ∧ a = b := by
 have h1 := h.ev (s.fuel + 1) (by omega)
 have h2 := k.ev (s.fuel + 1) (by omega)
 rw [h1] at h2
 exact ⟨congrArg Prod.fst h2, congrArg Prod.snd h2⟩
def IsRun (p : PgV) (args : List Int) (fuel : Int) (s : Ms) : Prop := ∃ t v s', Good p t ∧ Big (.one t) (Zb p.V args fuel.toNat) v s' ∧ s = s'.stopped 3 0
theorem IsRun.det {p : PgV} {args : List Int} {fuel : Int} {a b : Ms} (h : IsRun p args fuel a) (k : IsRun p args fuel b) : a = b := by
 obtain ⟨t, v, s, g, hb, rfl⟩ := h
 obtain ⟨t', v', s', g', hb', rfl⟩ := k
 have := g.hat.uniq g'.hat
 subst this
 rw [(hb.det hb').2]
def Ach : Ms := ⟨[], [], 0, 0, [], none⟩
open Classical in
noncomputable def ZB (p : PgV) (args : List Int) (fuel : Int) : Ms := if h : QW p args.length fuel = 0 ∧ ∃ s, IsRun p args fuel s then h.2.choose else Ach
theorem Ec {p : PgV} {args : List Int} {fuel : Int} (h : QW p args.length fuel ≠ 0) : ZB p args fuel = Ach := by
 unfold ZB; rw [dif_neg (fun k => h k.1)]
theorem AeG {p : PgV} {args : List Int} {fuel : Int} {s : Ms} (h : QW p args.length fuel = 0) (k : IsRun p args fuel s) : ZB p args fuel = s := by
 unfold ZB
 rw [dif_pos ⟨h, s, k⟩]
 exact (Exists.choose_spec (p := fun s => IsRun p args fuel s) ⟨s, k⟩).det k
structure RunK (p : PgV) (args : List Int) (fuel : Int) (t : Tr) (v : Int) (s' : Ms) : Prop where
 good : Good p t
 big : Big (.one t) (Zb p.V args fuel.toNat) v s'
 eq : ZB p args fuel = s'.stopped 3 0
 oks : OkS p.V s'
 init : OkS p.V (Zb p.V args fuel.toNat)
 okO : okO p.V t
theorem EO {p : PgV} {args : List Int} {fuel : Int} {w : World} (hok : p.ok w) (hin : ∀ a ∈ args, InI a) (h : QW p args.length fuel = 0) : ∃ t v s', RunK p args fuel t v s' := by
 obtain ⟨t, hg, hl, h0, h1⟩ := KC h
 have h2 := Ad3 hok hg
 have h3 := Ad2 (F := fuel.toNat) hok hg hg.vars hl hin
 obtain ⟨v, s', hb⟩ := Ew p.V (fuel.toNat + 1) (Zb p.V args fuel.toNat) (by simp [Zb]) h3 t h2
 exact ⟨t, v, s', hg, hb, AeG h ⟨t, v, s', hg, hb, rfl⟩, (hb.inv (g := .one t) h2 h3).1, h3, h2⟩
theorem RunK.fin {p : PgV} {args : List Int} {fuel : Int} {t : Tr} {v : Int} {s' : Ms} (h : RunK p args fuel t v s') : ∃ fin : Mm, Reach (ZM 0 t ⟨Zb p.V args fuel.toNat, []⟩) fin ∧ fin.s.out.isSome = true ∧ fin.s = s'.stopped 3 0 := by
 obtain ⟨m, h1, h2, h3⟩ := sim h.big h.okO h.init rfl 0 [] (fun hk => absurd h.good.kind hk)
 cases ho : s'.out with
 | some o =>
  refine ⟨m, h1, by rw [h2, ho]; rfl, ?_⟩
  rw [h2]; unfold Ms.stopped; rw [ho]; rfl
 | none =>
  have hs := h3 ho
  have hm : m = ⟨s', []⟩ := by cases m; simp only at h2 hs; subst h2; rw [hs, told]
  refine ⟨⟨s'.stop 3 0, []⟩, h1.trans (.one (by rw [h2]; exact ho) (by rw [hm]; exact .done s')), rfl, ?_⟩
  unfold Ms.stopped; rw [ho]; rfl
structure RunA (s : Ms) (err : Int) (w w' : World) (e : Ending) : Prop where
 ex : ∃ A cap, e = .returned (.tuple #[.agg #[.int .i64 (s.out.getD (0, 0)).1, .int .i64 (s.out.getD (0, 0)).2, .int .i64 (s.steps : Int), .slice A s.evs.length cap], .int .i64 err]) ∧ Rd w' A (s.evs.flatMap EvV.cells) ∧ s.evs.length ≤ cap ∧ cap ≤ maxLen ∧ (A = none → cap = 0) ∧ Below w.heap.size w w'
theorem Afy {w : World} {base n size : Nat} {e : TypeId} {v : Value} {xs : List Value} (h : w.ownsRow base e size v n xs) : ∃ A cap, v = .slice A n cap ∧ Rd w A xs ∧ n ≤ cap ∧ cap ≤ maxLen ∧ (A = none → cap = 0) := by
 rcases h.2 with ⟨rfl, rfl⟩ | ⟨g, cap, cur, rfl, _, hh, hc, hm, _, ht⟩
 · have h1 := h.1
   simp at h1
   subst h1
   exact ⟨none, 0, rfl, Rd.nil _ _, Nat.le_refl _, Nat.zero_le _, fun _ => rfl⟩
 · refine ⟨some ⟨g, 0, none⟩, cap, rfl, fun j u hj => ⟨_, rfl, ?_⟩, hc, hm, fun h => by cases h⟩
   have hr : Row w g e cur := hh
   have hjl : j < xs.length := (List.getElem?_eq_some_iff.1 hj).1
   rw [← ht] at hj hjl
   have hjt := hjl
   rw [List.length_take] at hjt
   rw [List.getElem?_take_of_lt (by omega)] at hj
   have : w.cell? ⟨g, j, none⟩ = some u := hr.cellv (by rw [← Array.getElem?_toList]; exact hj)
   unfold Addr.add
   by_cases h0 : j = 0
   · subst h0; exact this
   · rw [if_neg h0]; simpa using this
theorem RunR.a {fin : Mm} {w w' : World} {e : Ending} (h : RunR fin w w' e) : RunA fin.s 0 w w' e := by
 obtain ⟨ev, rfl, hown, hb⟩ := h.ex
 obtain ⟨A, cap, rfl, h1, h2, h3, h4⟩ := Afy hown
 exact ⟨A, cap, rfl, h1, h2, h3, h4, hb⟩
theorem RunA.bad {p : PgV} {args : List Int} {fuel : Int} {w w' : World} {e : Ending} (h : QW p args.length fuel ≠ 0) (he : e = .returned (.tuple #[.agg #[.int .i64 0, .int .i64 0, .int .i64 0, .slice none 0 0], .int .i64 (QW p args.length fuel)]) ∧ Below w.heap.size w w') : RunA (ZB p args fuel) (QW p args.length fuel) w w' e := by
 obtain ⟨rfl, hb⟩ := he
 rw [Ec h]
 exact ⟨none, 0, rfl, Rd.nil _ _, Nat.le_refl _, Nat.zero_le _, fun _ => rfl, hb⟩
theorem Afo (p : PgV) (aa : Option Addr) (acap : Nat) (args : List Int) (fuel : Int) (w : World) (hbl : p.body.length ≤ 1000) (hn : args.length ≤ 1000) (hok : p.ok w) (hra : Rd w aa (Qg args)) (hin : ∀ a ∈ args, InI a) :
 Calls Tryz.prog 20 #[.agg p.cells, .slice aa args.length acap, .int .i64 fuel] w fun e w' => RunA (ZB p args fuel) (QW p args.length fuel) w w' e := by
 by_cases hc : QW p args.length fuel = 0
 · obtain ⟨t, v, s', hk⟩ := EO hok hin hc
   obtain ⟨fin, h1, h2, h3⟩ := hk.fin
   refine (Aes p t aa acap args fuel fin w hbl hn hok hra hk.good hc h1 h2).mono fun e w' h => ?_
   rw [hk.eq, hc, ← h3]
   exact h.a
 · exact (Aag p aa acap args.length fuel w hbl hn hok hc).mono fun e w' h => .bad hc h
theorem Aa2 (s : Ms) : (s.stopped 3 0).evs = s.evs := by unfold Ms.stopped; split <;> rfl
theorem EN {s : Ms} {o : Int × Int} (h : s.out = some o) : s.stopped 3 0 = s := by unfold Ms.stopped; rw [h]; rfl
theorem Ey {s : Ms} (h : s.out = none) : s.stopped 3 0 = s.stop 3 0 := by unfold Ms.stopped; rw [h]; rfl
theorem RunK.steps {p : PgV} {args : List Int} {fuel : Int} {t : Tr} {v : Int} {s' : Ms} (h : RunK p args fuel t v s') : s'.fuel + s'.steps = fuel.toNat := by
 have := h.big.ext.sum
 simpa [Zb] using this
theorem RunK.kind {p : PgV} {args : List Int} {F : Int} {t : Tr} {v : Int} {s : Ms} (h : RunK p args F t v s) : ∃ k x, (ZB p args F).out = some (k, x) ∧ ((k = 0 ∧ InI x) ∨ (1 ≤ k ∧ k ≤ 4 ∧ x = 0)) ∧ ∀ e ∈ (ZB p args F).evs, OkE p.V e := by
 rw [h.eq]
 cases he : s.out with
 | none =>
  rw [Ey he]
  exact ⟨3, 0, rfl, .inr ⟨by omega, by omega, rfl⟩, h.oks.evs⟩
 | some o =>
  rw [EN he, he]
  exact ⟨o.1, o.2, rfl, h.oks.out o.1 o.2 he, h.oks.evs⟩
end Go.Proofs.YtdcmppdhdcjpfaaGreat
namespace Go.Proofs.YtdcmppdhdcjpfaaGreat
open Go.RowKit
section
variable {P : Program} {ops : Array Oper} {rest : List Oper} {o : Oper} {a : Act} {w : World} {Q : Exit → Act → World → Prop}
theorem E6 (S : World → Prop) (hS : S w) : ∀ (n : Nat) (l : List Oper) (a : Act) (w : World), S w → ZL P ops S (fun a' => ∀ W, S W → wpList P ops Q (l.drop n) a' W) (l.take n) a → wpList P ops Q l a w := by
 intro n
 induction n with
 | zero => intro l a w hS h; exact h w hS
 | succ n ih =>
  intro l a w hS h
  cases l with
  | nil => exact h w hS
  | cons o l =>
   obtain ⟨v, hy, hh⟩ := h
   refine wpList_step fun K hK => ?_
   rcases hy with ⟨hw, hv⟩ | ⟨hw, rfl⟩
   · rw [if_pos hw]
     have h1 := hv w hS
     unfold Oper.wp
     generalize (execOp a.eval o).run P w = r at h1
     cases r with
     | ok n' w' =>
      cases n' <;> simp only [Xp] at h1 <;> simp only [Oper.upon]
      case value u => obtain ⟨rfl, h2⟩ := h1; exact hK _ _ (ih l _ _ h2 hh)
      case skip => obtain ⟨rfl, h2⟩ := h1; exact hK _ _ (ih l _ _ h2 hh)
      case enter f args => exact h1.mono fun e w'' ⟨he, hs⟩ => by subst he; exact hK _ _ (ih l _ _ hs hh)
     | halt x w' => simp only [Xp] at h1
   · rw [if_neg (by rw [hw]; simp)]
     exact hK _ _ (ih l _ _ hS hh)
theorem J8 (S : World → Prop) (n : Nat) {l : List Oper} (hS : S w) (h : ZL P ops S (fun a' => ∀ W, S W → wpList P ops Q (l.drop n) a' W) (l.take n) a) : wpList P ops Q l a w := E6 S hS n l a w hS h
theorem Ab5 (ty : TypeId) (x : Operand) (_ : o.op = .load ty x) (h : Stop (wpList P ops Q (o :: rest) a w) id) : wpList P ops Q (o :: rest) a w := h.out
theorem ZH (t : TypeId) (n : Nat) (ps : Array (Nat × Operand)) (_ : o.op = .buildSlice t n ps) (h : Stop (wpList P ops Q (o :: rest) a w) id) : wpList P ops Q (o :: rest) a w := h.out
theorem QC (hw : Region.wanted o (yielded ops a.tmps) = true) (t : TypeId) (n : Nat) (ps : Array (Nat × Operand)) (ho : o.op = .buildSlice t n ps) (e : TypeId) (cells : Array Value)
 (hx : ∀ W, (Instr.buildSlice t n (ps.map fun (i, x) => (i, a.eval x))).run P W = .ok (.slice (some ⟨W.heap.size, 0, none⟩) n n) (W.alloc (.cells cells e)))
 (h : ∀ g w', w.heap.size ≤ g → Row w' g e cells → Below g w w' → wpList P ops Q rest (a.put o.dst (.slice (some ⟨g, 0, none⟩) n n)) w') : wpList P ops Q (o :: rest) a w := by
 refine BigFrame.wpList_want hw fun K hK => ?_
 unfold Oper.wp execOp
 simp only [ho, Sem.run_bind, hx, Result.andThen_ok, Sem.run_pure]
 exact hK _ _ (h _ _ (Nat.le_refl _) (Row.new _ _ _) ((Below.refl _ _).alloc (Nat.le_refl _) _))
theorem Jj {t e : TypeId} {n sz : Nat} {z : Value} {parts : Array (Nat × Value)} {cells : Array Value} (hu : P.underlying t = some (.slice e)) (hi : (P.info? e).map (fun i => (i.zero, i.size)) = some (some z, sz)) (h1 : n * sz ≤ 2 ^ 24) (h2 : n * sz ≠ 0)
 (hf : Instr.fill (fun i => some (i * sz, sz)) ((Array.range (n * sz)).map (z.cells[· % z.cells.size]!)) parts.toList = some cells) : ∀ W, (Instr.buildSlice t n parts).run P W = .ok (.slice (some ⟨W.heap.size, 0, none⟩) n n) (W.alloc (.cells cells e)) := by
 intro W
 cases hq : P.info? e with
 | none => rw [hq] at hi; cases hi
 | some ie =>
  rw [hq] at hi
  simp only [Option.map_some, Option.some.injEq, Prod.mk.injEq] at hi
  obtain ⟨hz, rfl⟩ := hi
  exact run_buildSlice W t e n parts cells ie z hu hq hz (by omega) h2 hf
end
end Go.Proofs.YtdcmppdhdcjpfaaGreat
namespace Go.Proofs.YtdcmppdhdcjpfaaGreat
open Go.RowKit Go.Deep
def El (k v : Int) : List Value := [.int .i64 k, .int .i64 v]
theorem KB (k v k' v' : Int) (W : World) : (binOp .eql 37 (.agg (El k v).toArray) (.agg (El k' v').toArray)).run Tryz.prog W = .ok (.bool (k == k' && v == v')) W := by
 unfold El
 simp [go_sem]
 by_cases h1 : k = k' <;> by_cases h2 : v = v' <;> simp [h1, h2]
theorem Yu {W : World} {G : Nat} {r : RunV} (h : Row W G 40 r.cells) : ∀ j v, (El r.kind r.value)[j]? = some v → W.cell? ((⟨G, 0, none⟩ : Addr).add j) = some v :=
 Row.from_ (cur := r.cells) h 0 (fun j v hj => by
  match j, hj with
  | 0, hj | 1, hj => exact hj)
def Rd3 (r : RunV) (W : World) : Prop := Rd W r.addr (r.evs.flatMap EvV.cells)
instance St.rd3 {r : RunV} : St (Rd3 r) := ⟨fun h b => Rd.go h b⟩
def Ms.rv (s : Ms) (A : Option Addr) (cap : Nat) : RunV := ⟨(s.out.getD (0, 0)).1, (s.out.getD (0, 0)).2, s.steps, A, cap, s.evs⟩
theorem Ev (r : RunV) : r.cells.all (·.oneCell') = true := by simp [RunV.cells, Value.oneCell']
def Aad (a b : RunV) (β : Bool) : Bool := β && ((a.kind == b.kind && a.value == b.value) && a.steps == b.steps)
theorem Aaf (s : Ms) (A A' : Option Addr) (c c' : Nat) : Aad (s.rv A c) (s.rv A' c') true = true := by simp [Aad, Ms.rv]
theorem YV (a b : RunV) (w : World) (ha : Rd3 a w) (hb : Rd3 b w) (hla : a.evs.length ≤ 1000000) : Calls Tryz.prog 21 #[a.val, b.val] w fun e w' => ∃ β : Bool, (β = true ↔ a.evs = b.evs) ∧ e = .returned (.bool (Aad a b β)) ∧ Below w.heap.size w w' := by
 have Ha := Lh ha
 have Hb := Lh hb
 clear ha hb
 go_enter Tryz.func21, Tryz.ntmps21
 rw [show a.val = .agg a.cells from rfl, show b.val = .agg b.cells from rfl]
 go_wp2_with (refine Qq _ _ rfl ?_)
 refine Stop.to ?_
 refine Qe rfl 40 _ rfl a.cells rfl ?_
 intro G w1 hG r1 b1
 have b1 := (Below.refl w.heap.size w).trans (b1.mono hG)
 go_wp2_with (refine Qq _ _ rfl ?_)
 refine Stop.to ?_
 refine Qe rfl 40 _ rfl b.cells rfl ?_
 intro F w2 hF r2 b2
 have r1 := r1.below b2 (Nat.lt_of_lt_of_le r1.lt hF)
 have b2 := b1.trans ((b2.mono hF).mono b1.size)
 obtain ⟨S, hSd⟩ : ∃ S, S = (fun W => Row W G 40 a.cells ∧ Row W F 40 b.cells ∧ Rd3 a W ∧ Rd3 b W ∧ Below w.heap.size w W) := ⟨_, rfl⟩
 have stS : St S := by rw [hSd]; infer_instance
 have S0 : Hid (∀ W, S W → Row W G 40 a.cells) := by show ∀ W, _; rw [hSd]; exact fun W h => h.1
 have S1 : Hid (∀ W, S W → Row W F 40 b.cells) := by show ∀ W, _; rw [hSd]; exact fun W h => h.2.1
 have S2 : Hid (∀ W, S W → Rd3 a W) := by show ∀ W, _; rw [hSd]; exact fun W h => h.2.2.1
 have S3 : Hid (∀ W, S W → Rd3 b W) := by show ∀ W, _; rw [hSd]; exact fun W h => h.2.2.2.1
 have S4 : Hid (∀ W, S W → Below w.heap.size w W) := by show ∀ W, _; rw [hSd]; exact fun W h => h.2.2.2.2
 have hS : S w2 := by rw [hSd]; exact ⟨r1, r2, Rd.go Ha.out b2, Rd.go Hb.out b2, b2⟩
 clear hSd r1 b1 r2 b2 hG hF
 have c3 := (S0.out _ hS).cellv (i := 3) (v := .slice a.addr a.evs.length a.cap) rfl
 have d3 := (S1.out _ hS).cellv (i := 3) (v := .slice b.addr b.evs.length b.cap) rfl
 have HS := Lh hS
 clear hS
 go_wp2_with fail
 refine (Vn a.addr b.addr a.cap b.cap a.evs b.evs w2 (S2.out _ HS.out) (S3.out _ HS.out) hla).mono ?_
 rintro e w4 ⟨β, rfl, hβ, b4⟩
 have hS4 := stS.go HS.out b4
 have Hout := Lh (KB a.kind a.value b.kind b.value)
 have Hβ := Lh hβ
 clear HS b4 c3 d3 hβ
 cases β
 · have HS4 := Lh hS4
   clear hS4
   go_wp2_with fail
   go_ret
   exact ⟨false, Hβ.out, rfl, S4.out _ HS4.out⟩
 · have HS4 := Lh hS4
   clear hS4
   go_wp2_with (refine Ab5 37 _ rfl ?_)
   refine Stop.to ?_
   refine J8 S 5 HS4.out ?_
   simp only [List.take_succ_cons, List.take_zero, List.drop_succ_cons, List.drop_zero]
   (refine Ja rfl 37 _ rfl (⟨G, 0, none⟩) rfl (El a.kind a.value) _ (fun W h => Yu (S0.out W h)) Tryz.underlying37 rfl (by kernel_rfl) ?_; simp only [Act.put, Qa, Qb, Qc])
   (refine Qh rfl ?_ (fun W hW => ?_) ?_; rotate_left; (focus (go_simp; exact rfl)); simp only [Act.put, Qa, Qb, Qc])
   (refine Ja rfl 37 _ rfl (⟨F, 0, none⟩) rfl (El b.kind b.value) _ (fun W h => Yu (S1.out W h)) Tryz.underlying37 rfl (by kernel_rfl) ?_; simp only [Act.put, Qa, Qb, Qc])
   refine Qh rfl (.bool (a.kind == b.kind && a.value == b.value)) (fun W _ => Z5 rfl _ (run_eqGuard_agg _ _ _ _ _ _ _ (by kernel_rfl)) (by exact Hout.out W)) ?_
   simp only [Act.put, Qa, Qb, Qc]
   generalize hγ : (a.kind == b.kind && a.value == b.value) = γ
   have Hγ := Lh hγ
   clear hγ
   (refine Qh rfl ?_ (fun W hW => ?_) ?_; rotate_left; (focus (go_simp; exact rfl)); simp only [Act.put, Qa, Qb, Qc])
   refine QJ fun W hW => ?_
   have a2 := (S0.out _ hW).cellv (i := 2) (v := .int .i64 a.steps) rfl
   have b2 := (S1.out _ hW).cellv (i := 2) (v := .int .i64 b.steps) rfl
   have hb := Lh (S4.out _ hW)
   clear hW HS4
   cases γ
   · go_wp2_with fail
     go_ret
     exact ⟨true, by simpa using Hβ.out, by unfold Aad; rw [Hγ.out]; rfl, hb.out⟩
   · obtain ⟨δ, hδ⟩ : ∃ δ, (a.steps == b.steps) = δ := ⟨_, rfl⟩
     go_wp2_with fail
     go_ret
     exact ⟨true, by simpa using Hβ.out, by unfold Aad; rw [Hγ.out, hδ]; rfl, hb.out⟩
def Ex (p : PgV) (n : Nat) (fuel : Int) : Bool := Aea p && (decide (n ≤ 40) && (decide (fuel ≤ 400) || decide (10000 < fuel)))
theorem Aew {p : PgV} {n : Nat} {fuel : Int} (h : Ex p n fuel = true) : p.body.length ≤ 60 ∧ n ≤ 40 ∧ (fuel ≤ 400 ∨ 10000 < fuel) := by
 simp only [Ex, Aea, Bool.and_eq_true, Bool.or_eq_true, decide_eq_true_eq] at h
 exact ⟨h.1.1, h.2.1, h.2.2⟩
theorem AeK (p : PgV) (args : List Int) (fuel : Int) : (ZB p args fuel).evs.length ≤ 10000 := by
 unfold ZB
 split
 · rename_i h
   obtain ⟨t, v, s', _, hb, he⟩ := h.2.choose_spec
   rw [he, Aa2]
   obtain ⟨_, _, _, h0, h1⟩ := KC h.1
   have h2 := hb.ext.few
   have h3 := hb.ext.sum
   simp only [Zb, List.length_nil] at h2 h3
   omega
 · exact Nat.zero_le _
theorem Ack (p : PgV) (args : List Int) (fuel : Int) : (ZB p args fuel).evs.length ≤ 1000000 := Nat.le_trans (AeK p args fuel) (by omega)
theorem EQ {W : World} {g : Nat} {t : TypeId} {cs : List Value} (h : Row W g t cs.toArray) : Rd W (some ⟨g, 0, none⟩) cs := fun j u hj => ⟨_, rfl, by
 have := h.cellv (i := j) (v := u) (by simpa using hj)
 unfold Addr.add
 by_cases h0 : j = 0
 · subst h0; exact this
 · rw [if_neg h0]; simpa using this⟩
def Agt (params : Int) (V : List Int) (body : List Nd) (g1 g2 : Nat) : PgV := ⟨params, some ⟨g1, 0, none⟩, V.length, V, some ⟨g2, 0, none⟩, body.length, body⟩
theorem AeT {params : Int} {V : List Int} {body : List Nd} {g1 g2 : Nat} {W : World} (hp : InI params) (hv : ∀ t ∈ V, InI t) (hb : ∀ x ∈ body, InI x.tag ∧ InI x.n) (h1 : V.length ≤ maxLen) (h2 : body.length ≤ maxLen)
 (r1 : Row W g1 3 (Qg V).toArray) (r2 : Row W g2 85 (body.flatMap Nd.cells).toArray) : (Agt params V body g1 g2).ok W :=
 ⟨hp, Nat.le_refl _, h1, fun h => (by cases h), EQ r1, hv, Nat.le_refl _, h2, fun h => (by cases h), EQ r2, hb⟩
def bodyW : List Nd := [⟨20, 1⟩, ⟨25, 0⟩, ⟨7, 0⟩, ⟨3, 0⟩, ⟨1, 1⟩]
def treeW : Tr := .node ⟨20, 1⟩ [.node ⟨25, 0⟩ [.node ⟨7, 0⟩ [.node ⟨3, 0⟩ [], .node ⟨1, 1⟩ []]]]
def pW (g1 g2 : Nat) : PgV := Agt 1 [0] bodyW g1 g2
theorem Afs {g1 g2 : Nat} {W : World} (r1 : Row W g1 3 (Qg [0]).toArray) (r2 : Row W g2 85 (bodyW.flatMap Nd.cells).toArray) : (pW g1 g2).ok W :=
 AeT (by unfold InI; omega) (by simp [InI]) (by simp [bodyW, InI]) (by unfold maxLen; simp) (by unfold maxLen; simp [bodyW]) r1 r2
theorem Abx : treeW.fits := by
 refine .mk _ _ (by rfl) (fun k hk => ?_)
 rw [List.mem_singleton.1 hk]
 refine .mk _ _ (by rfl) (fun k hk => ?_)
 rw [List.mem_singleton.1 hk]
 refine .mk _ _ (by rfl) (fun k hk => ?_)
 simp only [List.mem_cons, List.not_mem_nil, or_false] at hk
 rcases hk with rfl | rfl
 · exact .mk _ _ (by rfl) (fun k hk => by simp at hk)
 · exact .mk _ _ (by rfl) (fun k hk => by simp at hk)
theorem Adx (g1 g2 : Nat) : Good (pW g1 g2) treeW := ⟨⟨Abx, [], by rfl⟩, by rfl, by show Kj 1 [0]; decide, rfl, by show ofT [0] treeW = 2; decide +kernel⟩
theorem XO (g1 g2 n : Nat) (fuel : Int) : QW (pW g1 g2) n fuel = if (n : Int) ≠ 1 then 18 else if fuel < 0 ∨ 10000 < fuel then 19 else 0 := Z7 (Adx g1 g2)
theorem Ace {p : PgV} {t : Tr} {args : List Int} {fuel v : Int} {s : Ms} {w : World} (hok : p.ok w) (hin : ∀ a ∈ args, InI a) (hc : QW p args.length fuel = 0) (hg : Good p t) (he : evG (fuel.toNat + 1) (.one t) (Zb p.V args fuel.toNat) = (v, s)) : ZB p args fuel = s.stopped 3 0 := by
 obtain ⟨t', v', s', hk⟩ := EO hok hin hc
 have := hk.good.hat.uniq hg.hat
 subst this
 have h1 := hk.big.ev (fuel.toNat + 1) (by simp [Zb])
 rw [he] at h1
 have h2 : s = s' := congrArg Prod.snd h1
 rw [hk.eq, h2]
theorem AfR {g1 g2 : Nat} {w : World} (h : (pW g1 g2).ok w) : ZB (pW g1 g2) [4] 5 = ⟨[4], [[]], 0, 5, [], some (0, 5)⟩ := by
 rw [Ace h (by simp [InI]) (by rw [XO]; rfl) (Adx g1 g2) (v := 0) (s := ⟨[4], [[]], 0, 5, [], some (0, 5)⟩) (by kernel_rfl)]; rfl
theorem AfS {g1 g2 : Nat} {w : World} (h : (pW g1 g2).ok w) : ZB (pW g1 g2) [4] 4 = ⟨[4], [[]], 0, 4, [], some (4, 0)⟩ := by
 rw [Ace h (by simp [InI]) (by rw [XO]; rfl) (Adx g1 g2) (v := 0) (s := ⟨[4], [[]], 0, 4, [], some (4, 0)⟩) (by kernel_rfl)]; rfl
theorem Aft {g1 g2 : Nat} {fuel : Int} : ZB (pW g1 g2) [] fuel = Ach := Ec (by rw [XO]; simp)
theorem Abg : (Tryz.prog.info? 3).map (fun i => (i.zero, i.size)) = some (some (.int .i64 0), 1) := by kernel_rfl
theorem AfO : (Tryz.prog.info? 85).map (fun i => (i.zero, i.size)) = some (some (.agg #[.int .i64 0, .int .i64 0]), 2) := by kernel_rfl
theorem Acu {w : World} : (zeroValue 25).run Tryz.prog w = .ok (.agg #[.int .i64 0, .slice none 0 0, .slice none 0 0]) w := by kernel_rfl
theorem AdW (p : PgV) : p.cells.all (·.oneCell') = true := by simp [PgV.cells, Value.oneCell']
end Go.Proofs.YtdcmppdhdcjpfaaGreat
