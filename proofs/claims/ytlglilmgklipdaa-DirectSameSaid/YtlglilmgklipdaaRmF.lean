/- The walk over the reference's Run. Conditions: stated in each theorem. -/
import Derived.Test.YtlglilmgklipdaaRmE
import Derived.Test.YtlglilmgklipdaaEvE
import Derived.Laws.Tables
namespace Go.Proofs.Ytlglilmgklipdaa
set_option linter.unusedVariables false
open Go.RowKit Go.Deep

def rkCells (p : PgV) (vv av : Value) (F : Int) : Array Value :=
  #[.int .i64 p.params, .slice p.va p.V.length p.vcap, .slice p.ba p.body.length p.bcap, vv, av, .int .i64 F, .int .i64 0, .slice none 0 0, .int .i64 0, .int .i64 0, .bool false]
/-- Variables and arrays for so many. -/
structure RK2 (p : PgV) (M Bk : Nat) (F : Int) (args : List Int) (W1 : World) (k : Nat) (W : World) : Prop where
  ex : ∃ vv av gs, Row W M 68 (rkCells p vv av F) ∧ gs.length = k ∧ W.ownsRow Bk 3 1 vv k (ints ((vals0 p.V args).take k)) ∧ W.ownsRow Bk 22 1 av k (asL gs p.V) ∧ (∀ (i g : Nat) (t : Int), gs[i]? = some g → p.V[i]? = some t → Row W g 3 (ints (List.replicate (sizeZ t).toNat 0)).toArray) ∧ (∀ g ∈ gs, Bk ≤ g) ∧ gs.Nodup ∧ (∀ g ∈ gs, vv.ownBlock ≠ some g) ∧ ChM M Bk W1 W
/-- Midway: one variable more than arrays. -/
structure RK3 (p : PgV) (M Bk : Nat) (F : Int) (vv av : Value) (args : List Int) (gs : List Nat) (W1 : World) (k : Nat) (W : World) : Prop where
  row : Row W M 68 (rkCells p vv av F)
  vv : W.ownsRow Bk 3 1 vv (k + 1) (ints ((vals0 p.V args).take (k + 1)))
  av : W.ownsRow Bk 22 1 av k (asL gs p.V)
  rows : ∀ (i g : Nat) (t : Int), gs[i]? = some g → p.V[i]? = some t → Row W g 3 (ints (List.replicate (sizeZ t).toNat 0)).toArray
  ch : ChM M Bk W1 W
  size : Bk ≤ W.heap.size
theorem RK3.go {p : PgV} {M Bk : Nat} {F : Int} {vv av : Value} {args : List Int} {gs : List Nat} {W1 : World} {k : Nat} {A A' : World} (h : RK3 p M Bk F vv av args gs W1 k A) (b : Below A.heap.size A A') : RK3 p M Bk F vv av args gs W1 k A' :=
  ⟨h.row.below b h.row.lt, own_below h.vv b, own_below h.av b, fun i g t h1 h2 => (h.rows i g t h1 h2).below b (h.rows i g t h1 h2).lt, h.ch.trans (.below (b.mono h.size)), Nat.le_trans h.size b.size⟩
theorem okO_good {p : PgV} {t : Tr} {w : World} (hok : p.ok w) (hg : Good p t) : okO p.V t := by
  refine ⟨hg.hat.fits, by rw [hg.kind]; omega, fun x hx => ?_⟩
  obtain ⟨r, hr⟩ := hg.hat.here
  rw [List.drop_zero] at hr
  exact (hok.bin x (by rw [hr]; exact List.mem_append_left _ hx)).2
theorem OkS_init {p : PgV} {t : Tr} {w : World} {args : List Int} {F : Nat} (hok : p.ok w) (hg : Good p t) (hv : varsOk p.params p.V) (hl : (args.length : Int) = p.params) (hin : ∀ a ∈ args, InI a) : OkS p.V (initS p.V args F) := by
  refine ⟨by simp [initS, vals0], by simp [initS, arrs0], fun i t v h1 h2 => ?_, fun i t a h1 h2 => ?_, fun e he => by simp [initS] at he, fun k v h => by simp [initS] at h, by have := hv.2.2.1; omega⟩
  · have hil : i < p.V.length := (List.getElem?_eq_some_iff.1 h1).1
    simp only [initS, vals0, List.getElem?_map, List.getElem?_range hil, Option.map_some, Option.some.injEq] at h2
    subst h2
    by_cases hi : i < args.length
    · have e : args.getD i 0 = args[i] := by simp [List.getD, List.getElem?_eq_getElem hi]
      refine ⟨by rw [e]; exact hin _ (List.getElem_mem _), fun ht => ?_⟩
      have := hv.2.2.2 i hil
      rw [List.getD_eq_getElem?_getD, h1, Option.getD_some] at this
      simp only [okVar, decide_eq_true_eq] at this
      omega
    · have e : args.getD i 0 = 0 := by simp [List.getD, List.getElem?_eq_none (show args.length ≤ i by omega)]
      rw [e]
      exact ⟨InI_0, fun _ => .inl rfl⟩
  · simp only [initS, arrs0, List.getElem?_map, h1, Option.map_some, Option.some.injEq] at h2
    subst h2
    refine ⟨?_, fun x hx => ?_⟩
    · rw [List.length_replicate]; unfold sizeZ; split <;> omega
    · rw [(List.mem_replicate.1 hx).2]; exact InI_0
theorem RChg.new {L : Lay} {B : Nat} {W W' : World} {ev' : Value} (h : RChg L (.slice none 0 0) W ev' W') (n : LNew B L) (hB : B ≤ W.heap.size) : Below B W W' :=
  ⟨h.os, h.tape, h.output, h.size, fun k hk => h.block k (by omega) (by have := n.m; omega) (fun e => by have := n.vv k e; omega) (fun e => by have := n.ab k e; omega) (by simp [Value.ownBlock])⟩
theorem rr_out {L : Lay} {s : Ms} {ev : Value} {W : World} (h : RR L s ev W) (j : Nat) (v : Value) (hj : ([.int .i64 (s.out.getD (0, 0)).1, .int .i64 (s.out.getD (0, 0)).2] : List Value)[j]? = some v) : W.cell? ((⟨L.M, 8, none⟩ : Addr).add j) = some v := by
  match j, hj with
  | 0, hj => injection hj with hj; subst hj; exact h.row.cellv (i := 8) rfl
  | 1, hj => injection hj with hj; subst hj; exact h.row.cellv (i := 9) rfl
  | j + 2, hj => cases hj
theorem build_run (a b c : Int) (ev : Value) (h : ev.oneCell' = true) (W : World) : (Instr.build 32 #[(0, .agg #[.int .i64 a, .int .i64 b]), (1, .int .i64 c), (2, ev)]).run Try.prog W = .ok (.agg #[.int .i64 a, .int .i64 b, .int .i64 c, ev]) W :=
  run_build W _ _ _ (by cases ev <;> first | (cases h; done) | kernel_rfl)
/-- A row that a whole run does not reach. -/
structure Kept (L : Lay) (W : World) (g : Nat) (t : TypeId) (cs : Array Value) : Prop where
  row : Row W g t cs
  m : g ≠ L.M
  vv : L.vv.ownBlock ≠ some g
  ab : g ∉ L.ab
theorem Kept.go {L : Lay} {W W' : World} {g : Nat} {t : TypeId} {cs : Array Value} {ev' : Value} (h : Kept L W g t cs) (c : RChg L (.slice none 0 0) W ev' W') : Row W' g t cs :=
  (c.block g h.row.lt h.m h.vv h.ab (by simp [Value.ownBlock])).trans h.row
/-- What the loop has made is the reference's machine. -/
theorem rload_end {p : PgV} {args : List Int} {fuel : Int} {w W1 W : World} {M Bk RB : Nat} {cs : Array Value} (hbl : p.body.length ≤ 1000) (hok : p.ok w) (hf : 0 ≤ fuel ∧ fuel ≤ 10000)
    (hMw : w.heap.size ≤ M) (hMB : M < Bk) (hBk : Bk = W1.heap.size) (b1 : Below w.heap.size w W1) (hK : RK2 p M Bk fuel args W1 p.V.length W) (hRB : Row W1 RB 32 cs) (hRBM : RB < M) :
    ∃ L : Lay, L.M = M ∧ L.p = p ∧ L.F = fuel.toNat ∧ ROk L ∧ RR L (initS p.V args fuel.toNat) (.slice none 0 0) W ∧ LNew w.heap.size L ∧ Kept L W RB 32 cs := by
  obtain ⟨vv, av, gs, r, hgl, hvv, hav, hrows, hge, hnd, hne, hc2⟩ := hK.ex
  have hb1 := b1.size
  have hsz : Bk ≤ W.heap.size := by have := hc2.size; omega
  have hMlt : M < W.heap.size := r.lt
  have hrow : ∀ g ∈ gs, ∃ cs, Row W g 3 cs := by
    intro g hgm
    obtain ⟨i, hil, hi⟩ := List.getElem_of_mem hgm
    exact ⟨_, hrows i g _ (by rw [List.getElem?_eq_getElem hil, hi]) (List.getElem?_eq_getElem (by omega))⟩
  have hglt : ∀ g ∈ gs, g < W.heap.size := fun g hg => by obtain ⟨cs, hr⟩ := hrow g hg; exact hr.lt
  have bW : Below w.heap.size w W := b1.trans (hc2.to_below (by omega) hMw)
  obtain ⟨aa, acap, hava, _⟩ := own_shape hav
  let L : Lay := ⟨p, M, none, 0, vv, aa, acap, gs, 0, fuel.toNat, w.heap.size, W.heap.size, fun X => Below w.heap.size w X ∧ X.ownsRow Bk 22 1 av p.V.length (asL gs p.V)⟩
  have hvlo : ∀ g, vv.ownBlock = some g → Bk ≤ g := fun g e => own_lo hvv e
  have hnew : LNew w.heap.size L := ⟨hMw, by show _ ≤ W.heap.size; omega, fun g e => by have := hvlo g e; omega, fun g hg => by have := hge g hg; omega⟩
  have hL : ROk L := by
    refine ⟨⟨fun X X' h c => ⟨h.1.trans (c.new hnew), own_chg h.2 c (fun g e => ?_)⟩, hMlt, fun g e => ⟨own_hi hvv e, by have := hvlo g e; show g ≠ M; omega, fun hg => hne g hg e⟩, fun g hg => ⟨hglt g hg, by have := hge g hg; show g ≠ M; omega⟩, hnd, by show fuel.toNat ≤ 20000; omega, hbl, by show w.heap.size ≤ M; omega, by show w.heap.size ≤ W.heap.size; omega⟩, fun X h => hok.go h.1, fun X h i g hg => ?_, hgl⟩
    · refine ⟨own_hi hav e, by have := own_lo hav e; show g ≠ M; omega, fun e2 => ?_, fun hg => ?_⟩
      · rcases own_apart hvv hav (by decide) with h0 | h0
        · rw [h0] at e; cases e
        · exact h0 (e2.trans e.symm)
      · obtain ⟨cs, hr⟩ := hrow g hg
        exact own_ne hav hr (by decide) e
    · obtain ⟨aa', c', hav', hra⟩ := own_shape h.2
      rw [hava] at hav'
      injection hav' with e1 e2 e3
      subst e1
      have hil : i < p.V.length := by have := (List.getElem?_eq_some_iff.1 hg).1; rw [← hgl]; exact this
      have ht := List.getElem?_eq_getElem hil
      obtain ⟨ad, had, hc⟩ := hra i _ (asL_get hg ht)
      exact ⟨ad, _, had, ht, hc⟩
  refine ⟨L, rfl, rfl, rfl, hL, ⟨?_, World.ownsRow_nil _ _ _ _, ?_, ?_, fun x hx => by simp at hx, List.Pairwise.nil, ⟨bW, hav⟩, Nat.le_refl _, Nat.zero_add _, Nat.le_refl _⟩, hnew, hRB.chm hc2 (by omega) (by omega), by show RB ≠ M; omega, fun e => by have := hvlo _ e; omega, fun hg => by have := hge _ hg; omega⟩
  · have hF : ((fuel.toNat : Nat) : Int) = fuel := by omega
    have e : L.rcells (initS p.V args fuel.toNat) (.slice none 0 0) = rkCells p vv av fuel := by
      rw [hava]
      unfold Lay.rcells rkCells
      simp only [L, hgl, initS, hF]
      rfl
    rw [e]; exact r
  · have hl : (vals0 p.V args).length = p.V.length := by simp [vals0]
    rw [List.take_of_length_le (by omega)] at hvv
    have := own_base hvv (base' := w.heap.size) (by omega)
    show W.ownsRow w.heap.size 3 1 vv (vals0 p.V args).length (ints (vals0 p.V args))
    rw [hl]; exact this
  · intro i g a hg ha
    have hil : i < p.V.length := by have := (List.getElem?_eq_some_iff.1 hg).1; rw [← hgl]; exact this
    have ht := List.getElem?_eq_getElem hil
    have := hrows i g _ hg ht
    simp only [initS, arrs0, List.getElem?_map, ht, Option.map_some, Option.some.injEq] at ha
    rw [← ha]; exact this
set_option maxRecDepth 100000 in
set_option maxHeartbeats 40000000 in
theorem rRun_any (p : PgV) (t : Tr) (aa : Option Addr) (acap : Nat) (args : List Int) (fuel v : Int) (s' : Ms) (w : World) (hbl : p.body.length ≤ 1000) (hn : args.length ≤ 1000) (hok : p.ok w) (hra : Rd w aa (ints args)) (hin : ∀ a ∈ args, InI a) (hg : Good p t)
    (hc : checkZ p args.length fuel = 0) (hbig : Big (.one t) (initS p.V args fuel.toNat) v s') :
    Calls Try.prog 16 #[.agg p.cells, .slice aa args.length acap, .int .i64 fuel] w fun e w' => RunR ⟨s'.stopped 3 0, []⟩ w w' e := by
  obtain ⟨_, _, hlen, hf⟩ := checkZ_zero hc
  have Hok := Lib.hid hok
  have Hbl := Lib.hid hbl
  have Hra := Lib.hid hra
  have Hin := Lib.hid hin
  have Hg := Lib.hid hg
  have Hc := Lib.hid hc
  have Hbig := Lib.hid hbig
  have Hvars := Lib.hid hg.vars
  have Hlen := Lib.hid hlen
  have Hf := Lib.hid hf
  have Hn := Lib.hid hn
  have hVl : p.V.length ≤ 12 := hg.vars.2.2.1
  clear hok hbl hra hlen hf hn hc hg hin hbig
  go_enter Try.func16, Try.ntmps16
  go_wp2_with (refine at_box _ _ rfl ?_)
  refine Stop.to ?_
  refine wpList_box_gen rfl 25 _ rfl p.cells rfl ?_
  intro G w1 hG r1 b1
  replace b1 := (Below.refl w.heap.size w).trans (b1.mono hG)
  go_wp2_with (refine at_alloc _ rfl ?_)
  refine Stop.to ?_
  refine wpList_alloc_gen rfl 32 rfl _ _ zero_run2 rfl ?_
  intro RB w2 hRB rB b2
  replace r1 := r1.below (b2.mono hRB) r1.lt
  have hRBw : w.heap.size ≤ RB := Nat.le_trans b1.size hRB
  replace b2 := b1.trans ((b2.mono hRB).mono b1.size)
  have R1 := Lib.hid r1
  have RB2 := Lib.hid rB
  have B2 := Lib.hid b2
  clear r1 b1 b2 rB hRB hG w1
  go_wp2_with (refine wpList_load_row rfl 25 _ rfl G rfl 25 p.cells (0, 0) _ R1.out Try.underlying25 rfl (by kernel_rfl) ?_)
  refine (refCheck_any p aa acap args.length fuel Hbl.out Hn.out w2 (Hok.out.go B2.out)).mono ?_
  rintro e w3 ⟨rfl, b3⟩
  rw [Hc.out]
  have R3 := Lib.hid (R1.out.below b3 R1.out.lt)
  have RB3 := Lib.hid (RB2.out.below b3 RB2.out.lt)
  have B3 := Lib.hid (B2.out.trans (b3.mono B2.out.size))
  clear b3 R1 RB2 B2
  go_wp2_with (first
    | (refine wpList_load_row rfl 25 _ rfl G rfl 25 p.cells (0, 0) _ R3.out Try.underlying25 rfl (by kernel_rfl) ?_)
    | (refine at_build 68 _ rfl ?_))
  refine Stop.to ?_
  have hbld : ∀ W, (Instr.build 68 #[(0, .agg p.cells), (3, .int .i64 fuel)]).run Try.prog W = .ok (.agg (rkCells p (.slice none 0 0) (.slice none 0 0) fuel)) W := fun W => run_build W _ _ _ (by kernel_rfl)
  refine wpList_val rfl (.agg (rkCells p (.slice none 0 0) (.slice none 0 0) fuel)) (run_exec_build 68 [_, _] rfl _ (by exact hbld _)) ?_
  clear hbld
  go_wp2_with (refine at_box _ _ rfl ?_)
  refine Stop.to ?_
  refine wpList_box_gen rfl 68 _ rfl (rkCells p (.slice none 0 0) (.slice none 0 0) fuel) rfl ?_
  intro M W1 hM rM b4
  have hMw : w.heap.size ≤ M := Nat.le_trans B3.out.size hM
  have hGM : G < M := Nat.lt_of_lt_of_le R3.out.lt hM
  have hRBM : RB < M := Nat.lt_of_lt_of_le RB3.out.lt hM
  have G1 := Lib.hid (R3.out.below (b4.mono hM) R3.out.lt)
  have RB1 := Lib.hid (RB3.out.below (b4.mono hM) RB3.out.lt)
  have B1 := Lib.hid (B3.out.trans ((b4.mono hM).mono B3.out.size))
  have R1 := Lib.hid rM
  obtain ⟨Bk, hBk⟩ : ∃ Bk, Bk = W1.heap.size := ⟨_, rfl⟩
  have hMB : M < Bk := by rw [hBk]; exact R1.out.lt
  have HBk := Lib.hid hBk
  clear hBk b4 rM hM R3 RB3 B3
  go_wp2_with fail
  go_loopw [10, 11] (fun i _ W => ∃ (k : Nat), i = .int .i64 (k : Int) ∧ k ≤ p.V.length ∧ Hid (RK2 p M Bk fuel args W1 k W)) (fun i _ _ => p.V.length - (intOf i).toNat)
  case atStart => exact ⟨0, rfl, Nat.zero_le _, Lib.hid ⟨.slice none 0 0, .slice none 0 0, [], R1.out, rfl, by simpa [ints] using World.ownsRow_nil W1 Bk 3 1, by simpa [asL] using World.ownsRow_nil W1 Bk 22 1, fun i g t h => by simp at h, fun g h => by simp at h, List.nodup_nil, fun g h => by simp at h, ChM.refl _ _ _⟩⟩
  case round =>
    obtain ⟨k, rfl, hk, hK⟩ := hrel
    by_cases hlt : k < p.V.length
    · obtain ⟨vv, av, gs, r, hgl, hvv, hav, hrows, hge, hnd, hne, hch⟩ := hK.out
      obtain ⟨t, ht⟩ : ∃ t, p.V[k]? = some t := ⟨_, List.getElem?_eq_getElem hlt⟩
      have hbw : Below w.heap.size w wr := B1.out.trans (hch.to_below (by have := B1.out.size; have := HBk.out; omega) hMw)
      obtain ⟨vd, hvd, cv⟩ := int_at (Hok.out.go hbw).vrd ht
      have hsz1 : Bk ≤ wr.heap.size := by have := hch.size; have := HBk.out; omega
      have hti : InI t := Hok.out.vin t (List.mem_of_getElem? ht)
      obtain ⟨J, hJd⟩ : ∃ J, J = (fun W => Row W M 68 (rkCells p vv av fuel) ∧ W.ownsRow Bk 3 1 vv k (ints ((vals0 p.V args).take k)) ∧ W.ownsRow Bk 22 1 av k (asL gs p.V) ∧ (∀ (i g : Nat) (t : Int), gs[i]? = some g → p.V[i]? = some t → Row W g 3 (ints (List.replicate (sizeZ t).toNat 0)).toArray) ∧ ChM M Bk W1 W ∧ Bk ≤ W.heap.size) := ⟨_, rfl⟩
      have stJ : St J := by
        rw [hJd]
        exact ⟨fun {A A'} h b => ⟨h.1.below b h.1.lt, own_below h.2.1 b, own_below h.2.2.1 b, fun i g t h1 h2 => (h.2.2.2.1 i g t h1 h2).below b (h.2.2.2.1 i g t h1 h2).lt, h.2.2.2.2.1.trans (.below (b.mono h.2.2.2.2.2)), Nat.le_trans h.2.2.2.2.2 b.size⟩⟩
      have hJ : J wr := by rw [hJd]; exact ⟨r, hvv, hav, hrows, hch, hsz1⟩
      have J0 : Hid (∀ W, J W → Row W M 68 (rkCells p vv av fuel)) := by show ∀ W, _; rw [hJd]; exact fun W h => h.1
      have J1 : Hid (∀ W, J W → W.ownsRow Bk 3 1 vv k (ints ((vals0 p.V args).take k))) := by show ∀ W, _; rw [hJd]; exact fun W h => h.2.1
      have J2 : Hid (∀ W, J W → W.ownsRow Bk 22 1 av k (asL gs p.V)) := by show ∀ W, _; rw [hJd]; exact fun W h => h.2.2.1
      have J3 : Hid (∀ W, J W → ∀ (i g : Nat) (t : Int), gs[i]? = some g → p.V[i]? = some t → Row W g 3 (ints (List.replicate (sizeZ t).toNat 0)).toArray) := by show ∀ W, _; rw [hJd]; exact fun W h => h.2.2.2.1
      have J4 : Hid (∀ W, J W → ChM M Bk W1 W) := by show ∀ W, _; rw [hJd]; exact fun W h => h.2.2.2.2.1
      have J5 : Hid (∀ W, J W → Bk ≤ W.heap.size) := by show ∀ W, _; rw [hJd]; exact fun W h => h.2.2.2.2.2
      have cG : wr.cell? ⟨G, 1, none⟩ = some (.slice (some vd) p.V.length p.vcap) := by rw [← hvd]; exact (G1.out.chm hch (by omega) (by omega)).cellv (i := 1) rfl
      obtain ⟨S, hSd⟩ : ∃ S, S = (fun W => ChM M Bk W1 W) := ⟨_, rfl⟩
      have S0 : Hid (∀ W, S W → W.cell? ⟨G, 1, none⟩ = some (.slice (some vd) p.V.length p.vcap)) := by show ∀ W, _; rw [hSd]; intro W h; rw [← hvd]; exact (G1.out.chm h (by omega) (by omega)).cellv (i := 1) rfl
      have S1 : Hid (∀ W, S W → W.cell? (vd.add k) = some (.int .i64 t)) := by
        show ∀ W, _; rw [hSd]; intro W h
        have hB : Below w.heap.size w W := B1.out.trans (h.to_below (by have := B1.out.size; have := HBk.out; omega) hMw)
        obtain ⟨vd', hvd', cv'⟩ := int_at (Hok.out.go hB).vrd ht
        rw [hvd] at hvd'
        injection hvd' with e
        rw [e]; exact cv'
      have S2 : Hid (∀ W, ChM M Bk W1 W → S W) := by show ∀ W, _; rw [hSd]; exact fun W h => h
      have hkV : (k : Int) < (p.V.length : Int) := by omega
      have Hgl := Lib.hid hgl
      have Hge := Lib.hid hge
      have Hnd := Lib.hid hnd
      have Hne := Lib.hid hne
      have Ht := Lib.hid ht
      obtain ⟨i0, hi0, hz0, hz1, hz2⟩ := info_parts info_int'
      have c4 := r.cellv (i := 3) (v := vv) rfl
      have hra := Hra.out.go (hbw.mono (Nat.le_refl _))
      clear hSd hJd r hvv hav hrows hch hsz1 hK hgl hge hnd hne ht hbw
      by_cases hka : k < args.length
      · obtain ⟨ad, had, ca⟩ := int_at hra (List.getElem?_eq_getElem hka)
        have hdec : decide ((k : Int) < (args.length : Int)) = true := by simp; omega
        have hx : args.getD k 0 = args[k] := by simp [List.getD, List.getElem?_eq_getElem hka]
        rw [← hx] at ca
        obtain ⟨xk, hxk⟩ : ∃ xk, args.getD k 0 = xk := ⟨_, rfl⟩
        rw [hxk] at ca
        have Hxk := Lib.hid hxk
        clear hx hxk
        rw [had]
        go_wp2_with (at_builtin; refine at_stop ?_)
        refine Stop.to ?_
        refine (wpList_append_own_at _ rfl (.tmp 43) (.tmp 45) 22 rfl Bk 3 i0 (.int .i64 0) 1 8 Try.underlying22 hi0 hz0 hz1 hz2 rfl (by decide) vv k _ rfl (own_below (J1.out _ hJ) ((Below.refl _ _).alloc (Nat.le_refl _) _)) ⟨wr.heap.size, 0, none⟩ 1 1 [.int .i64 xk] rfl rfl (cell_one_new _ _ _) (by simp [Value.oneCell']) (by unfold maxLen; omega) (by omega) (by have := J5.out _ hJ; simp; omega) ?_)
        intro vv' W2 hown hg _ hat
        have hJa : J (wr.alloc (.cells #[.int .i64 xk] 3)) := stJ.go hJ ((Below.refl _ _).alloc (Nat.le_refl _) _)
        have rM2 := (J0.out _ hJa).grown hg (own_ne (J1.out _ hJa) (J0.out _ hJa) (by decide))
        have av2 := own_grown (J2.out _ hJa) hg (own_apart (J2.out _ hJa) (J1.out _ hJa) (by decide))
        have rows2 : ∀ (i g : Nat) (t : Int), gs[i]? = some g → p.V[i]? = some t → Row W2 g 3 (ints (List.replicate (sizeZ t).toNat 0)).toArray := fun i g t h1 h2 => (J3.out _ hJa i g t h1 h2).grown hg (Hne.out g (List.mem_of_getElem? h1))
        have ch2 := (J4.out _ hJa).trans (.grown hg (J5.out _ hJa) (fun k e => own_lo (J1.out _ hJa) e))
        have sz2 : Bk ≤ W2.heap.size := Nat.le_trans (J5.out _ hJa) hg.size
        have hne2 : ∀ g ∈ gs, vv'.ownBlock ≠ some g := by
          intro g hgm
          rcases hat with e | e
          · rw [e]; exact Hne.out g hgm
          · obtain ⟨i, hil, hi⟩ := List.getElem_of_mem hgm
            have h1 : gs[i]? = some g := by rw [List.getElem?_eq_getElem hil, hi]
            have h2 : p.V[i]? = some (p.V[i]'(by have := Hgl.out; omega)) := List.getElem?_eq_getElem _
            have := (J3.out _ hJa i g _ h1 h2).lt
            rw [e]
            intro e3
            injection e3 with e3
            omega
        have hown2 : W2.ownsRow Bk 3 1 vv' (k + 1) (ints ((vals0 p.V args).take (k + 1))) := by rw [vals0_take hlt, Hxk.out]; simpa [ints] using hown
        have hov2 := own_ov hown2
        have RM2 := Lib.hid rM2
        have AV2 := Lib.hid av2
        have Rows2 := Lib.hid rows2
        have Ch2 := Lib.hid ch2
        have Hne2 := Lib.hid hne2
        have Hown2 := Lib.hid hown2
        clear rM2 av2 rows2 ch2 hne2 hown2 hown hg hat hJa hJ c4 hra cv
        go_wp2_with (refine at_store _ _ _ rfl ?_)
        refine Stop.to ?_
        refine wpList_store_part rfl 22 _ _ rfl M 3 rfl _ rfl [vv'] (by cases vv' <;> first | rfl | cases hov2) 68 _ (rkCells p vv' av fuel) RM2.out (by kernel_rfl) (by show 3 + 1 ≤ 11; omega) (by simpa using hov2) rfl ?_
        intro W3 r3 o3
        have k3 : RK3 p M Bk fuel vv' av args gs W1 k W3 := by
          have ne : ∀ {e : TypeId} {u : Value} {n : Nat} {xs : List Value}, W2.ownsRow Bk e 1 u n xs → W3.ownsRow Bk e 1 u n xs := fun h => own_only h o3 (fun e => by have := own_lo h e; omega)
          exact ⟨r3, ne Hown2.out, ne AV2.out, fun i g t h1 h2 => (Rows2.out i g t h1 h2).only o3 (by have := Hge.out g (List.mem_of_getElem? h1); omega), Ch2.out.trans (.only o3), by rw [o3.size]; exact sz2⟩
        have k3d : RK3 p M Bk fuel vv' av args gs W1 k W3.drew := k3.go ⟨rfl, rfl, rfl, Nat.le_refl _, fun _ _ => rfl⟩
        have KE := Lib.hid k3d
        clear r3 o3 k3 k3d RM2 AV2 Rows2 Ch2 Hown2 sz2 J0 J1 J2 J3 J4 J5 stJ J hi0 hz0 hz1 hz2 i0
        obtain ⟨i0, hi0, hz0, hz1, hz2⟩ := info_parts info_sl
        obtain ⟨n, hn⟩ : ∃ n : Nat, sizeZ t = (n : Int) := ⟨(sizeZ t).toNat, by unfold sizeZ; split <;> omega⟩
        have hn8 : n ≤ 8 := by unfold sizeZ at hn; split at hn <;> omega
        have hmk : ∀ W : World, (Instr.makeSlice 22 (.int .i64 (n : Int)) (.int .i64 (n : Int))).run Try.prog W = .ok (.slice (some ⟨W.heap.size, 0, none⟩) n n) (W.alloc (.cells (ints (List.replicate n 0)).toArray 3)) := fun W => by
          have := run_make_row' (P := Try.prog) (w := W) 22 3 (.int .i64 0) 8 Try.underlying22 info_int rfl .i64 .i64 n (by omega) (by omega)
          rw [show madeCells #[Value.int .i64 0] n = (ints (List.replicate n 0)).toArray from by rw [madeCells_one]; simp [ints]] at this
          exact this
        have Hmk := Lib.hid hmk
        have Hnn := Lib.hid hn
        clear hmk hn
        go_wp2_with fail
        refine wp_region_held (S := S) (by kernel_rfl) ?_
        simp only [List.size_toArray, List.length_cons, List.length_nil, Nat.reduceAdd, Array.replicate_succ, Array.replicate_zero, List.push_toArray, List.nil_append, List.cons_append]
        show wpAnyH _ _ _ _ _ _ _ _ W3.drew
        generalize W3.drew = we at KE ⊢
        have hSe : S we := S2.out _ KE.out.ch
        (refine takeH (i := 0) (v := .pointer (some ⟨M, 0, none⟩)) rfl (by kernel_rfl) (by kernel_rfl) (by kernel_rfl) (fun _ _ _ h => h) (yields_val rfl (fun W hW => by (go_simp))) (by assumption) ?_; simp only [Act.put, List.setIfInBounds_toArray, List.set_cons_zero, List.set_cons_succ])
        (refine takeH (i := 1) (v := .pointer (some ⟨M, 0, none⟩)) rfl (by kernel_rfl) (by kernel_rfl) (by kernel_rfl) (fun _ _ _ h => h) (yields_val rfl (fun W hW => by (go_simp))) (by assumption) ?_; simp only [Act.put, List.setIfInBounds_toArray, List.set_cons_zero, List.set_cons_succ])
        (refine takeH (i := 2) (v := .pointer (some ⟨M, 0, none⟩)) rfl (by kernel_rfl) (by kernel_rfl) (by kernel_rfl) (fun _ _ _ h => h) (yields_val rfl (fun W hW => by (go_simp))) (by assumption) ?_; simp only [Act.put, List.setIfInBounds_toArray, List.set_cons_zero, List.set_cons_succ])
        (refine takeH (i := 3) (v := .pointer (some ⟨M, 4, none⟩)) rfl (by kernel_rfl) (by kernel_rfl) (by kernel_rfl) (fun _ _ _ h => h) (yields_val rfl (fun W hW => by (go_simp))) (by assumption) ?_; simp only [Act.put, List.setIfInBounds_toArray, List.set_cons_zero, List.set_cons_succ])
        (refine takeH (i := 5) (v := .pointer (some ⟨G, 1, none⟩)) rfl (by kernel_rfl) (by kernel_rfl) (by kernel_rfl) (fun _ _ _ h => h) (yields_val rfl (fun W hW => by (go_simp))) (by assumption) ?_; simp only [Act.put, List.setIfInBounds_toArray, List.set_cons_zero, List.set_cons_succ])
        (refine takeH (i := 6) (v := .slice (some vd) p.V.length p.vcap) rfl (by kernel_rfl) (by kernel_rfl) (by kernel_rfl) (fun _ _ _ h => h) (yields_val rfl (fun W hW => by ((have h := S0.out W hW; go_simp)))) (by assumption) ?_; simp only [Act.put, List.setIfInBounds_toArray, List.set_cons_zero, List.set_cons_succ])
        (refine takeH (i := 7) (v := .int .i64 (k : Int)) rfl (by kernel_rfl) (by kernel_rfl) (by kernel_rfl) (fun _ _ _ h => h) (yields_val rfl (fun W hW => by (go_simp))) (by assumption) ?_; simp only [Act.put, List.setIfInBounds_toArray, List.set_cons_zero, List.set_cons_succ])
        (refine takeH (i := 8) (v := .pointer (some (vd.add k))) rfl (by kernel_rfl) (by kernel_rfl) (by kernel_rfl) (fun _ _ _ h => h) (yields_val rfl (fun W hW => by (go_simp))) (by assumption) ?_; simp only [Act.put, List.setIfInBounds_toArray, List.set_cons_zero, List.set_cons_succ])
        (refine takeH (i := 9) (v := .int .i64 t) rfl (by kernel_rfl) (by kernel_rfl) (by kernel_rfl) (fun _ _ _ h => h) (yields_val rfl (fun W hW => by ((have h := S1.out W hW; go_simp)))) (by assumption) ?_; simp only [Act.put, List.setIfInBounds_toArray, List.set_cons_zero, List.set_cons_succ])
        refine wpAnyH_all (rs := [4, 10]) (by kernel_rfl) (by simp) (fun i hi => ?_)
        have hi2 : i = 4 ∨ i = 10 := by simpa using hi
        rcases hi2 with rfl | rfl
        · refine wpOp_plain rfl rfl (fun K2 hK2 => ?_)
          refine wp_res_gen av (w1 := we) (by have h := (KE.out).row.cellv (i := 4) (v := av) rfl; go_simp) ?_
          refine hK2 _ _ ?_
          clear hK2 K2
          simp only [Act.put, List.setIfInBounds_toArray, List.set_cons_zero, List.set_cons_succ]
          refine ⟨S2.out _ (KE.out).ch, ?_⟩
          (refine wpAnyH_all (rs := [10]) (by kernel_rfl) (by simp) (fun i hi => ?_); obtain rfl : i = 10 := by simpa using hi)
          refine wpOp_plain rfl rfl (fun K2 hK2 => ?_)
          refine wp_call_gen (w1 := we) 38 #[.int .i64 t] (by go_simp; try rfl) ?_
          refine (refSize_any t we hti).mono ?_
          rintro e w4 ⟨rfl, rfl⟩
          rw [Hnn.out]
          refine ⟨_, rfl, hK2 _ _ ?_⟩
          clear hK2 K2
          simp only [Act.put, List.setIfInBounds_toArray, List.set_cons_zero, List.set_cons_succ]
          refine ⟨hSe, ?_⟩
          (refine wpAnyH_all (rs := [11]) (by kernel_rfl) (by simp) (fun i hi => ?_); obtain rfl : i = 11 := by simpa using hi)
          refine wpOp_plain rfl rfl (fun K2 hK2 => ?_)
          refine wp_res_gen (.slice (some ⟨we.heap.size, 0, none⟩) n n) (run_exec_makeSlice rfl rfl rfl (Hmk.out we)) ?_
          refine hK2 _ _ ?_
          clear hK2 K2
          have KM := KE.out.go (A' := we.alloc (.cells (ints (List.replicate n 0)).toArray 3)) ((Below.refl _ _).alloc (Nat.le_refl _) _)
          simp only [Act.put, List.setIfInBounds_toArray, List.set_cons_zero, List.set_cons_succ]
          refine ⟨S2.out _ KM.ch, ?_⟩
          (refine wpAnyH_all (rs := [12]) (by kernel_rfl) (by simp) (fun i hi => ?_); obtain rfl : i = 12 := by simpa using hi)
          refine wpOp_plain rfl rfl (fun K2 hK2 => ?_)
          refine wp_res_gen (.slice (some ⟨(we.alloc (.cells (ints (List.replicate n 0)).toArray 3)).heap.size, 0, none⟩) 1 1) (w1 := (we.alloc (.cells (ints (List.replicate n 0)).toArray 3)).alloc (.cells #[.slice (some ⟨we.heap.size, 0, none⟩) n n] 22)) (by go_simp; try rfl) ?_
          refine hK2 _ _ ?_
          clear hK2 K2
          have K8 := KM.go (A' := (we.alloc (.cells (ints (List.replicate n 0)).toArray 3)).alloc (.cells #[.slice (some ⟨we.heap.size, 0, none⟩) n n] 22)) ((Below.refl _ _).alloc (Nat.le_refl _) _)
          simp only [Act.put, List.setIfInBounds_toArray, List.set_cons_zero, List.set_cons_succ]
          refine ⟨S2.out _ K8.ch, ?_⟩
          (refine wpAnyH_all (rs := [13]) (by kernel_rfl) (by simp) (fun i hi => ?_); obtain rfl : i = 13 := by simpa using hi)
          have rn8 : Row ((we.alloc (.cells (ints (List.replicate n 0)).toArray 3)).alloc (.cells #[.slice (some ⟨we.heap.size, 0, none⟩) n n] 22)) we.heap.size 3 (ints (List.replicate n 0)).toArray := (Row.new we _ _).alloc _
          have gn := KE.out.size
          have glt : ∀ g ∈ gs, g < we.heap.size := by
            intro g hgm
            obtain ⟨i, hil, hi⟩ := List.getElem_of_mem hgm
            have h1 : gs[i]? = some g := by rw [List.getElem?_eq_getElem hil, hi]
            have h2 : p.V[i]? = some (p.V[i]'(by have := Hgl.out; omega)) := List.getElem?_eq_getElem _
            exact (KE.out.rows i g _ h1 h2).lt
          have vvn : vv'.ownBlock ≠ some we.heap.size := fun e => by have := own_hi KE.out.vv e; omega
          generalize hw8 : (we.alloc (.cells (ints (List.replicate n 0)).toArray 3)).alloc (.cells #[.slice (some ⟨we.heap.size, 0, none⟩) n n] 22) = w8 at *
          have cs8 : ∀ (j : Nat) (u : Value), [Value.slice (some ⟨we.heap.size, 0, none⟩) n n][j]? = some u → w8.cell? ((⟨(we.alloc (.cells (ints (List.replicate n 0)).toArray 3)).heap.size, 0, none⟩ : Addr).add j) = some u := by rw [← hw8]; exact cell_one_new _ _ _
          clear hw8
          refine wpOp_plain rfl rfl (fun K2 hK2 => ?_)
          refine wp_append_own_at (.tmp 53) (.tmp 61) 56 rfl Bk 22 i0 (.slice none 0 0) 1 24 Try.underlying56 hi0 hz0 hz1 hz2 rfl (by decide) av k _ rfl K8.av _ 1 1 [Value.slice (some ⟨we.heap.size, 0, none⟩) n n] rfl rfl cs8 (by simp [Value.oneCell']) (by unfold maxLen; omega) (by omega) K8.size ?_
          intro av' w9 hown9 hg9 _
          refine hK2 _ _ ?_
          clear hK2 K2
          have hM9 := K8.row.grown hg9 (own_ne K8.av K8.row (by decide))
          have vv9 := own_grown K8.vv hg9 (own_apart K8.vv K8.av (by decide))
          have rows9 : ∀ (i g : Nat) (t : Int), gs[i]? = some g → p.V[i]? = some t → Row w9 g 3 (ints (List.replicate (sizeZ t).toNat 0)).toArray := fun i g t h1 h2 => (K8.rows i g t h1 h2).grown hg9 (own_ne K8.av (K8.rows i g t h1 h2) (by decide))
          have rn9 := rn8.grown hg9 (own_ne K8.av rn8 (by decide))
          have ch9 := K8.ch.trans (.grown hg9 K8.size (fun k e => own_lo K8.av e))
          have hov9 := own_ov hown9
          have HM9 := Lib.hid hM9
          have VV9 := Lib.hid vv9
          have Rows9 := Lib.hid rows9
          have RN9 := Lib.hid rn9
          have CH9 := Lib.hid ch9
          have Own9 := Lib.hid hown9
          have Glt := Lib.hid glt
          have Vvn := Lib.hid vvn
          simp only [Act.put, List.setIfInBounds_toArray, List.set_cons_zero, List.set_cons_succ]
          refine ⟨S2.out _ CH9.out, ?_⟩
          have hS9 : S w9 := S2.out _ CH9.out
          clear hM9 vv9 rows9 rn9 ch9 hown9 hg9 rn8 cs8 K8 KM KE glt vvn
          (refine takeH (i := 14) (v := .pointer (some ⟨M, 0, none⟩)) rfl (by kernel_rfl) (by kernel_rfl) (by kernel_rfl) (fun _ _ _ h => h) (yields_val rfl (fun W hW => by (go_simp))) (by assumption) ?_; simp only [Act.put, List.setIfInBounds_toArray, List.set_cons_zero, List.set_cons_succ])
          (refine takeH (i := 15) (v := .pointer (some ⟨M, 4, none⟩)) rfl (by kernel_rfl) (by kernel_rfl) (by kernel_rfl) (fun _ _ _ h => h) (yields_val rfl (fun W hW => by (go_simp))) (by assumption) ?_; simp only [Act.put, List.setIfInBounds_toArray, List.set_cons_zero, List.set_cons_succ])
          (refine wpAnyH_all (rs := [16]) (by kernel_rfl) (by simp) (fun i hi => ?_); obtain rfl : i = 16 := by simpa using hi)
          refine wpOp_plain rfl rfl (fun K2 hK2 => ?_)
          refine wp_store_part 56 (.tmp 64) (.tmp 62) rfl M 4 rfl _ rfl [av'] (by cases av' <;> first | rfl | cases hov9) 68 _ (rkCells p vv' av' fuel) HM9.out (by kernel_rfl) (by show 4 + 1 ≤ 11; omega) (by simpa using hov9) rfl ?_
          intro w10 r10 o10
          refine hK2 _ _ ?_
          clear hK2 K2
          simp only [Act.put, List.setIfInBounds_toArray, List.set_cons_zero, List.set_cons_succ]
          refine ⟨S2.out _ (CH9.out.trans (.only o10)), ?_⟩
          refine wpAnyH_done (by kernel_rfl) ?_ _
          have hK10 : RK2 p M Bk fuel args W1 (k + 1) w10 := by
            have ne : ∀ {e : TypeId} {u : Value} {n : Nat} {xs : List Value}, w9.ownsRow Bk e 1 u n xs → w10.ownsRow Bk e 1 u n xs := fun h => own_only h o10 (fun e => by have := own_lo h e; omega)
            have hgl := Hgl.out
            subst hgl
            refine ⟨vv', av', gs ++ [we.heap.size], r10, by simp, ne VV9.out, ?_, fun i g t' h1 h2 => ?_, fun g hg => ?_, ?_, fun g hg => ?_, CH9.out.trans (.only o10)⟩
            · rw [asL_app gs p.V we.heap.size t Ht.out, Hnn.out, Int.toNat_natCast]; exact ne Own9.out
            · rcases Nat.lt_trichotomy i gs.length with hl | hl | hl
              · rw [List.getElem?_append_left hl] at h1
                exact (Rows9.out i g t' h1 h2).only o10 (by have := Hge.out g (List.mem_of_getElem? h1); omega)
              · subst hl
                rw [List.getElem?_append_right (Nat.le_refl _), Nat.sub_self] at h1
                injection h1 with h1
                subst h1
                rw [Ht.out] at h2
                injection h2 with h2
                subst h2
                rw [Hnn.out, Int.toNat_natCast]
                exact RN9.out.only o10 (by omega)
              · rw [List.getElem?_append_right (by omega)] at h1
                have := (List.getElem?_eq_some_iff.1 h1).1
                simp at this; omega
            · rcases List.mem_append.1 hg with hg | hg
              · exact Hge.out g hg
              · rw [List.mem_singleton.1 hg]; exact gn
            · rw [List.nodup_append]
              refine ⟨Hnd.out, by simp, fun a ha b hb e => ?_⟩
              rw [List.mem_singleton.1 hb] at e
              have := Glt.out a ha
              omega
            · rcases List.mem_append.1 hg with hg | hg
              · exact Hne2.out g hg
              · rw [List.mem_singleton.1 hg]; exact Vvn.out
          have HK10 := Lib.hid hK10
          clear hK10 r10 o10
          go_wp2_with fail
          go_roundw
          case rel => exact ⟨k + 1, by go_num, by omega, HK10⟩
          case measure => simp [intOf]; omega
        · refine wpOp_plain rfl rfl (fun K2 hK2 => ?_)
          refine wp_call_gen (w1 := we) 38 #[.int .i64 t] (by go_simp; try rfl) ?_
          refine (refSize_any t we hti).mono ?_
          rintro e w4 ⟨rfl, rfl⟩
          rw [Hnn.out]
          refine ⟨_, rfl, hK2 _ _ ?_⟩
          clear hK2 K2
          simp only [Act.put, List.setIfInBounds_toArray, List.set_cons_zero, List.set_cons_succ]
          refine ⟨hSe, ?_⟩
          refine wpAnyH_all (rs := [4, 11]) (by kernel_rfl) (by simp) (fun i hi => ?_)
          have hi2 : i = 4 ∨ i = 11 := by simpa using hi
          rcases hi2 with rfl | rfl
          · refine wpOp_plain rfl rfl (fun K2 hK2 => ?_)
            refine wp_res_gen av (w1 := we) (by have h := (KE.out).row.cellv (i := 4) (v := av) rfl; go_simp) ?_
            refine hK2 _ _ ?_
            clear hK2 K2
            simp only [Act.put, List.setIfInBounds_toArray, List.set_cons_zero, List.set_cons_succ]
            refine ⟨S2.out _ (KE.out).ch, ?_⟩
            (refine wpAnyH_all (rs := [11]) (by kernel_rfl) (by simp) (fun i hi => ?_); obtain rfl : i = 11 := by simpa using hi)
            refine wpOp_plain rfl rfl (fun K2 hK2 => ?_)
            refine wp_res_gen (.slice (some ⟨we.heap.size, 0, none⟩) n n) (run_exec_makeSlice rfl rfl rfl (Hmk.out we)) ?_
            refine hK2 _ _ ?_
            clear hK2 K2
            have KM := KE.out.go (A' := we.alloc (.cells (ints (List.replicate n 0)).toArray 3)) ((Below.refl _ _).alloc (Nat.le_refl _) _)
            simp only [Act.put, List.setIfInBounds_toArray, List.set_cons_zero, List.set_cons_succ]
            refine ⟨S2.out _ KM.ch, ?_⟩
            (refine wpAnyH_all (rs := [12]) (by kernel_rfl) (by simp) (fun i hi => ?_); obtain rfl : i = 12 := by simpa using hi)
            refine wpOp_plain rfl rfl (fun K2 hK2 => ?_)
            refine wp_res_gen (.slice (some ⟨(we.alloc (.cells (ints (List.replicate n 0)).toArray 3)).heap.size, 0, none⟩) 1 1) (w1 := (we.alloc (.cells (ints (List.replicate n 0)).toArray 3)).alloc (.cells #[.slice (some ⟨we.heap.size, 0, none⟩) n n] 22)) (by go_simp; try rfl) ?_
            refine hK2 _ _ ?_
            clear hK2 K2
            have K8 := KM.go (A' := (we.alloc (.cells (ints (List.replicate n 0)).toArray 3)).alloc (.cells #[.slice (some ⟨we.heap.size, 0, none⟩) n n] 22)) ((Below.refl _ _).alloc (Nat.le_refl _) _)
            simp only [Act.put, List.setIfInBounds_toArray, List.set_cons_zero, List.set_cons_succ]
            refine ⟨S2.out _ K8.ch, ?_⟩
            (refine wpAnyH_all (rs := [13]) (by kernel_rfl) (by simp) (fun i hi => ?_); obtain rfl : i = 13 := by simpa using hi)
            have rn8 : Row ((we.alloc (.cells (ints (List.replicate n 0)).toArray 3)).alloc (.cells #[.slice (some ⟨we.heap.size, 0, none⟩) n n] 22)) we.heap.size 3 (ints (List.replicate n 0)).toArray := (Row.new we _ _).alloc _
            have gn := KE.out.size
            have glt : ∀ g ∈ gs, g < we.heap.size := by
              intro g hgm
              obtain ⟨i, hil, hi⟩ := List.getElem_of_mem hgm
              have h1 : gs[i]? = some g := by rw [List.getElem?_eq_getElem hil, hi]
              have h2 : p.V[i]? = some (p.V[i]'(by have := Hgl.out; omega)) := List.getElem?_eq_getElem _
              exact (KE.out.rows i g _ h1 h2).lt
            have vvn : vv'.ownBlock ≠ some we.heap.size := fun e => by have := own_hi KE.out.vv e; omega
            generalize hw8 : (we.alloc (.cells (ints (List.replicate n 0)).toArray 3)).alloc (.cells #[.slice (some ⟨we.heap.size, 0, none⟩) n n] 22) = w8 at *
            have cs8 : ∀ (j : Nat) (u : Value), [Value.slice (some ⟨we.heap.size, 0, none⟩) n n][j]? = some u → w8.cell? ((⟨(we.alloc (.cells (ints (List.replicate n 0)).toArray 3)).heap.size, 0, none⟩ : Addr).add j) = some u := by rw [← hw8]; exact cell_one_new _ _ _
            clear hw8
            refine wpOp_plain rfl rfl (fun K2 hK2 => ?_)
            refine wp_append_own_at (.tmp 53) (.tmp 61) 56 rfl Bk 22 i0 (.slice none 0 0) 1 24 Try.underlying56 hi0 hz0 hz1 hz2 rfl (by decide) av k _ rfl K8.av _ 1 1 [Value.slice (some ⟨we.heap.size, 0, none⟩) n n] rfl rfl cs8 (by simp [Value.oneCell']) (by unfold maxLen; omega) (by omega) K8.size ?_
            intro av' w9 hown9 hg9 _
            refine hK2 _ _ ?_
            clear hK2 K2
            have hM9 := K8.row.grown hg9 (own_ne K8.av K8.row (by decide))
            have vv9 := own_grown K8.vv hg9 (own_apart K8.vv K8.av (by decide))
            have rows9 : ∀ (i g : Nat) (t : Int), gs[i]? = some g → p.V[i]? = some t → Row w9 g 3 (ints (List.replicate (sizeZ t).toNat 0)).toArray := fun i g t h1 h2 => (K8.rows i g t h1 h2).grown hg9 (own_ne K8.av (K8.rows i g t h1 h2) (by decide))
            have rn9 := rn8.grown hg9 (own_ne K8.av rn8 (by decide))
            have ch9 := K8.ch.trans (.grown hg9 K8.size (fun k e => own_lo K8.av e))
            have hov9 := own_ov hown9
            have HM9 := Lib.hid hM9
            have VV9 := Lib.hid vv9
            have Rows9 := Lib.hid rows9
            have RN9 := Lib.hid rn9
            have CH9 := Lib.hid ch9
            have Own9 := Lib.hid hown9
            have Glt := Lib.hid glt
            have Vvn := Lib.hid vvn
            simp only [Act.put, List.setIfInBounds_toArray, List.set_cons_zero, List.set_cons_succ]
            refine ⟨S2.out _ CH9.out, ?_⟩
            have hS9 : S w9 := S2.out _ CH9.out
            clear hM9 vv9 rows9 rn9 ch9 hown9 hg9 rn8 cs8 K8 KM KE glt vvn
            (refine takeH (i := 14) (v := .pointer (some ⟨M, 0, none⟩)) rfl (by kernel_rfl) (by kernel_rfl) (by kernel_rfl) (fun _ _ _ h => h) (yields_val rfl (fun W hW => by (go_simp))) (by assumption) ?_; simp only [Act.put, List.setIfInBounds_toArray, List.set_cons_zero, List.set_cons_succ])
            (refine takeH (i := 15) (v := .pointer (some ⟨M, 4, none⟩)) rfl (by kernel_rfl) (by kernel_rfl) (by kernel_rfl) (fun _ _ _ h => h) (yields_val rfl (fun W hW => by (go_simp))) (by assumption) ?_; simp only [Act.put, List.setIfInBounds_toArray, List.set_cons_zero, List.set_cons_succ])
            (refine wpAnyH_all (rs := [16]) (by kernel_rfl) (by simp) (fun i hi => ?_); obtain rfl : i = 16 := by simpa using hi)
            refine wpOp_plain rfl rfl (fun K2 hK2 => ?_)
            refine wp_store_part 56 (.tmp 64) (.tmp 62) rfl M 4 rfl _ rfl [av'] (by cases av' <;> first | rfl | cases hov9) 68 _ (rkCells p vv' av' fuel) HM9.out (by kernel_rfl) (by show 4 + 1 ≤ 11; omega) (by simpa using hov9) rfl ?_
            intro w10 r10 o10
            refine hK2 _ _ ?_
            clear hK2 K2
            simp only [Act.put, List.setIfInBounds_toArray, List.set_cons_zero, List.set_cons_succ]
            refine ⟨S2.out _ (CH9.out.trans (.only o10)), ?_⟩
            refine wpAnyH_done (by kernel_rfl) ?_ _
            have hK10 : RK2 p M Bk fuel args W1 (k + 1) w10 := by
              have ne : ∀ {e : TypeId} {u : Value} {n : Nat} {xs : List Value}, w9.ownsRow Bk e 1 u n xs → w10.ownsRow Bk e 1 u n xs := fun h => own_only h o10 (fun e => by have := own_lo h e; omega)
              have hgl := Hgl.out
              subst hgl
              refine ⟨vv', av', gs ++ [we.heap.size], r10, by simp, ne VV9.out, ?_, fun i g t' h1 h2 => ?_, fun g hg => ?_, ?_, fun g hg => ?_, CH9.out.trans (.only o10)⟩
              · rw [asL_app gs p.V we.heap.size t Ht.out, Hnn.out, Int.toNat_natCast]; exact ne Own9.out
              · rcases Nat.lt_trichotomy i gs.length with hl | hl | hl
                · rw [List.getElem?_append_left hl] at h1
                  exact (Rows9.out i g t' h1 h2).only o10 (by have := Hge.out g (List.mem_of_getElem? h1); omega)
                · subst hl
                  rw [List.getElem?_append_right (Nat.le_refl _), Nat.sub_self] at h1
                  injection h1 with h1
                  subst h1
                  rw [Ht.out] at h2
                  injection h2 with h2
                  subst h2
                  rw [Hnn.out, Int.toNat_natCast]
                  exact RN9.out.only o10 (by omega)
                · rw [List.getElem?_append_right (by omega)] at h1
                  have := (List.getElem?_eq_some_iff.1 h1).1
                  simp at this; omega
              · rcases List.mem_append.1 hg with hg | hg
                · exact Hge.out g hg
                · rw [List.mem_singleton.1 hg]; exact gn
              · rw [List.nodup_append]
                refine ⟨Hnd.out, by simp, fun a ha b hb e => ?_⟩
                rw [List.mem_singleton.1 hb] at e
                have := Glt.out a ha
                omega
              · rcases List.mem_append.1 hg with hg | hg
                · exact Hne2.out g hg
                · rw [List.mem_singleton.1 hg]; exact Vvn.out
            have HK10 := Lib.hid hK10
            clear hK10 r10 o10
            go_wp2_with fail
            go_roundw
            case rel => exact ⟨k + 1, by go_num, by omega, HK10⟩
            case measure => simp [intOf]; omega
          · refine wpOp_plain rfl rfl (fun K2 hK2 => ?_)
            refine wp_res_gen (.slice (some ⟨we.heap.size, 0, none⟩) n n) (run_exec_makeSlice rfl rfl rfl (Hmk.out we)) ?_
            refine hK2 _ _ ?_
            clear hK2 K2
            have KM := KE.out.go (A' := we.alloc (.cells (ints (List.replicate n 0)).toArray 3)) ((Below.refl _ _).alloc (Nat.le_refl _) _)
            simp only [Act.put, List.setIfInBounds_toArray, List.set_cons_zero, List.set_cons_succ]
            refine ⟨S2.out _ KM.ch, ?_⟩
            refine wpAnyH_all (rs := [4, 12]) (by kernel_rfl) (by simp) (fun i hi => ?_)
            have hi2 : i = 4 ∨ i = 12 := by simpa using hi
            rcases hi2 with rfl | rfl
            · refine wpOp_plain rfl rfl (fun K2 hK2 => ?_)
              refine wp_res_gen av (w1 := (we.alloc (.cells (ints (List.replicate n 0)).toArray 3))) (by have h := (KM).row.cellv (i := 4) (v := av) rfl; go_simp) ?_
              refine hK2 _ _ ?_
              clear hK2 K2
              simp only [Act.put, List.setIfInBounds_toArray, List.set_cons_zero, List.set_cons_succ]
              refine ⟨S2.out _ (KM).ch, ?_⟩
              (refine wpAnyH_all (rs := [12]) (by kernel_rfl) (by simp) (fun i hi => ?_); obtain rfl : i = 12 := by simpa using hi)
              refine wpOp_plain rfl rfl (fun K2 hK2 => ?_)
              refine wp_res_gen (.slice (some ⟨(we.alloc (.cells (ints (List.replicate n 0)).toArray 3)).heap.size, 0, none⟩) 1 1) (w1 := (we.alloc (.cells (ints (List.replicate n 0)).toArray 3)).alloc (.cells #[.slice (some ⟨we.heap.size, 0, none⟩) n n] 22)) (by go_simp; try rfl) ?_
              refine hK2 _ _ ?_
              clear hK2 K2
              have K8 := KM.go (A' := (we.alloc (.cells (ints (List.replicate n 0)).toArray 3)).alloc (.cells #[.slice (some ⟨we.heap.size, 0, none⟩) n n] 22)) ((Below.refl _ _).alloc (Nat.le_refl _) _)
              simp only [Act.put, List.setIfInBounds_toArray, List.set_cons_zero, List.set_cons_succ]
              refine ⟨S2.out _ K8.ch, ?_⟩
              (refine wpAnyH_all (rs := [13]) (by kernel_rfl) (by simp) (fun i hi => ?_); obtain rfl : i = 13 := by simpa using hi)
              have rn8 : Row ((we.alloc (.cells (ints (List.replicate n 0)).toArray 3)).alloc (.cells #[.slice (some ⟨we.heap.size, 0, none⟩) n n] 22)) we.heap.size 3 (ints (List.replicate n 0)).toArray := (Row.new we _ _).alloc _
              have gn := KE.out.size
              have glt : ∀ g ∈ gs, g < we.heap.size := by
                intro g hgm
                obtain ⟨i, hil, hi⟩ := List.getElem_of_mem hgm
                have h1 : gs[i]? = some g := by rw [List.getElem?_eq_getElem hil, hi]
                have h2 : p.V[i]? = some (p.V[i]'(by have := Hgl.out; omega)) := List.getElem?_eq_getElem _
                exact (KE.out.rows i g _ h1 h2).lt
              have vvn : vv'.ownBlock ≠ some we.heap.size := fun e => by have := own_hi KE.out.vv e; omega
              generalize hw8 : (we.alloc (.cells (ints (List.replicate n 0)).toArray 3)).alloc (.cells #[.slice (some ⟨we.heap.size, 0, none⟩) n n] 22) = w8 at *
              have cs8 : ∀ (j : Nat) (u : Value), [Value.slice (some ⟨we.heap.size, 0, none⟩) n n][j]? = some u → w8.cell? ((⟨(we.alloc (.cells (ints (List.replicate n 0)).toArray 3)).heap.size, 0, none⟩ : Addr).add j) = some u := by rw [← hw8]; exact cell_one_new _ _ _
              clear hw8
              refine wpOp_plain rfl rfl (fun K2 hK2 => ?_)
              refine wp_append_own_at (.tmp 53) (.tmp 61) 56 rfl Bk 22 i0 (.slice none 0 0) 1 24 Try.underlying56 hi0 hz0 hz1 hz2 rfl (by decide) av k _ rfl K8.av _ 1 1 [Value.slice (some ⟨we.heap.size, 0, none⟩) n n] rfl rfl cs8 (by simp [Value.oneCell']) (by unfold maxLen; omega) (by omega) K8.size ?_
              intro av' w9 hown9 hg9 _
              refine hK2 _ _ ?_
              clear hK2 K2
              have hM9 := K8.row.grown hg9 (own_ne K8.av K8.row (by decide))
              have vv9 := own_grown K8.vv hg9 (own_apart K8.vv K8.av (by decide))
              have rows9 : ∀ (i g : Nat) (t : Int), gs[i]? = some g → p.V[i]? = some t → Row w9 g 3 (ints (List.replicate (sizeZ t).toNat 0)).toArray := fun i g t h1 h2 => (K8.rows i g t h1 h2).grown hg9 (own_ne K8.av (K8.rows i g t h1 h2) (by decide))
              have rn9 := rn8.grown hg9 (own_ne K8.av rn8 (by decide))
              have ch9 := K8.ch.trans (.grown hg9 K8.size (fun k e => own_lo K8.av e))
              have hov9 := own_ov hown9
              have HM9 := Lib.hid hM9
              have VV9 := Lib.hid vv9
              have Rows9 := Lib.hid rows9
              have RN9 := Lib.hid rn9
              have CH9 := Lib.hid ch9
              have Own9 := Lib.hid hown9
              have Glt := Lib.hid glt
              have Vvn := Lib.hid vvn
              simp only [Act.put, List.setIfInBounds_toArray, List.set_cons_zero, List.set_cons_succ]
              refine ⟨S2.out _ CH9.out, ?_⟩
              have hS9 : S w9 := S2.out _ CH9.out
              clear hM9 vv9 rows9 rn9 ch9 hown9 hg9 rn8 cs8 K8 KM KE glt vvn
              (refine takeH (i := 14) (v := .pointer (some ⟨M, 0, none⟩)) rfl (by kernel_rfl) (by kernel_rfl) (by kernel_rfl) (fun _ _ _ h => h) (yields_val rfl (fun W hW => by (go_simp))) (by assumption) ?_; simp only [Act.put, List.setIfInBounds_toArray, List.set_cons_zero, List.set_cons_succ])
              (refine takeH (i := 15) (v := .pointer (some ⟨M, 4, none⟩)) rfl (by kernel_rfl) (by kernel_rfl) (by kernel_rfl) (fun _ _ _ h => h) (yields_val rfl (fun W hW => by (go_simp))) (by assumption) ?_; simp only [Act.put, List.setIfInBounds_toArray, List.set_cons_zero, List.set_cons_succ])
              (refine wpAnyH_all (rs := [16]) (by kernel_rfl) (by simp) (fun i hi => ?_); obtain rfl : i = 16 := by simpa using hi)
              refine wpOp_plain rfl rfl (fun K2 hK2 => ?_)
              refine wp_store_part 56 (.tmp 64) (.tmp 62) rfl M 4 rfl _ rfl [av'] (by cases av' <;> first | rfl | cases hov9) 68 _ (rkCells p vv' av' fuel) HM9.out (by kernel_rfl) (by show 4 + 1 ≤ 11; omega) (by simpa using hov9) rfl ?_
              intro w10 r10 o10
              refine hK2 _ _ ?_
              clear hK2 K2
              simp only [Act.put, List.setIfInBounds_toArray, List.set_cons_zero, List.set_cons_succ]
              refine ⟨S2.out _ (CH9.out.trans (.only o10)), ?_⟩
              refine wpAnyH_done (by kernel_rfl) ?_ _
              have hK10 : RK2 p M Bk fuel args W1 (k + 1) w10 := by
                have ne : ∀ {e : TypeId} {u : Value} {n : Nat} {xs : List Value}, w9.ownsRow Bk e 1 u n xs → w10.ownsRow Bk e 1 u n xs := fun h => own_only h o10 (fun e => by have := own_lo h e; omega)
                have hgl := Hgl.out
                subst hgl
                refine ⟨vv', av', gs ++ [we.heap.size], r10, by simp, ne VV9.out, ?_, fun i g t' h1 h2 => ?_, fun g hg => ?_, ?_, fun g hg => ?_, CH9.out.trans (.only o10)⟩
                · rw [asL_app gs p.V we.heap.size t Ht.out, Hnn.out, Int.toNat_natCast]; exact ne Own9.out
                · rcases Nat.lt_trichotomy i gs.length with hl | hl | hl
                  · rw [List.getElem?_append_left hl] at h1
                    exact (Rows9.out i g t' h1 h2).only o10 (by have := Hge.out g (List.mem_of_getElem? h1); omega)
                  · subst hl
                    rw [List.getElem?_append_right (Nat.le_refl _), Nat.sub_self] at h1
                    injection h1 with h1
                    subst h1
                    rw [Ht.out] at h2
                    injection h2 with h2
                    subst h2
                    rw [Hnn.out, Int.toNat_natCast]
                    exact RN9.out.only o10 (by omega)
                  · rw [List.getElem?_append_right (by omega)] at h1
                    have := (List.getElem?_eq_some_iff.1 h1).1
                    simp at this; omega
                · rcases List.mem_append.1 hg with hg | hg
                  · exact Hge.out g hg
                  · rw [List.mem_singleton.1 hg]; exact gn
                · rw [List.nodup_append]
                  refine ⟨Hnd.out, by simp, fun a ha b hb e => ?_⟩
                  rw [List.mem_singleton.1 hb] at e
                  have := Glt.out a ha
                  omega
                · rcases List.mem_append.1 hg with hg | hg
                  · exact Hne2.out g hg
                  · rw [List.mem_singleton.1 hg]; exact Vvn.out
              have HK10 := Lib.hid hK10
              clear hK10 r10 o10
              go_wp2_with fail
              go_roundw
              case rel => exact ⟨k + 1, by go_num, by omega, HK10⟩
              case measure => simp [intOf]; omega
            · refine wpOp_plain rfl rfl (fun K2 hK2 => ?_)
              refine wp_res_gen (.slice (some ⟨(we.alloc (.cells (ints (List.replicate n 0)).toArray 3)).heap.size, 0, none⟩) 1 1) (w1 := (we.alloc (.cells (ints (List.replicate n 0)).toArray 3)).alloc (.cells #[.slice (some ⟨we.heap.size, 0, none⟩) n n] 22)) (by go_simp; try rfl) ?_
              refine hK2 _ _ ?_
              clear hK2 K2
              have K8 := KM.go (A' := (we.alloc (.cells (ints (List.replicate n 0)).toArray 3)).alloc (.cells #[.slice (some ⟨we.heap.size, 0, none⟩) n n] 22)) ((Below.refl _ _).alloc (Nat.le_refl _) _)
              simp only [Act.put, List.setIfInBounds_toArray, List.set_cons_zero, List.set_cons_succ]
              refine ⟨S2.out _ K8.ch, ?_⟩
              (refine wpAnyH_all (rs := [4]) (by kernel_rfl) (by simp) (fun i hi => ?_); obtain rfl : i = 4 := by simpa using hi)
              refine wpOp_plain rfl rfl (fun K2 hK2 => ?_)
              refine wp_res_gen av (w1 := ((we.alloc (.cells (ints (List.replicate n 0)).toArray 3)).alloc (.cells #[.slice (some ⟨we.heap.size, 0, none⟩) n n] 22))) (by have h := (K8).row.cellv (i := 4) (v := av) rfl; go_simp) ?_
              refine hK2 _ _ ?_
              clear hK2 K2
              simp only [Act.put, List.setIfInBounds_toArray, List.set_cons_zero, List.set_cons_succ]
              refine ⟨S2.out _ (K8).ch, ?_⟩
              (refine wpAnyH_all (rs := [13]) (by kernel_rfl) (by simp) (fun i hi => ?_); obtain rfl : i = 13 := by simpa using hi)
              have rn8 : Row ((we.alloc (.cells (ints (List.replicate n 0)).toArray 3)).alloc (.cells #[.slice (some ⟨we.heap.size, 0, none⟩) n n] 22)) we.heap.size 3 (ints (List.replicate n 0)).toArray := (Row.new we _ _).alloc _
              have gn := KE.out.size
              have glt : ∀ g ∈ gs, g < we.heap.size := by
                intro g hgm
                obtain ⟨i, hil, hi⟩ := List.getElem_of_mem hgm
                have h1 : gs[i]? = some g := by rw [List.getElem?_eq_getElem hil, hi]
                have h2 : p.V[i]? = some (p.V[i]'(by have := Hgl.out; omega)) := List.getElem?_eq_getElem _
                exact (KE.out.rows i g _ h1 h2).lt
              have vvn : vv'.ownBlock ≠ some we.heap.size := fun e => by have := own_hi KE.out.vv e; omega
              generalize hw8 : (we.alloc (.cells (ints (List.replicate n 0)).toArray 3)).alloc (.cells #[.slice (some ⟨we.heap.size, 0, none⟩) n n] 22) = w8 at *
              have cs8 : ∀ (j : Nat) (u : Value), [Value.slice (some ⟨we.heap.size, 0, none⟩) n n][j]? = some u → w8.cell? ((⟨(we.alloc (.cells (ints (List.replicate n 0)).toArray 3)).heap.size, 0, none⟩ : Addr).add j) = some u := by rw [← hw8]; exact cell_one_new _ _ _
              clear hw8
              refine wpOp_plain rfl rfl (fun K2 hK2 => ?_)
              refine wp_append_own_at (.tmp 53) (.tmp 61) 56 rfl Bk 22 i0 (.slice none 0 0) 1 24 Try.underlying56 hi0 hz0 hz1 hz2 rfl (by decide) av k _ rfl K8.av _ 1 1 [Value.slice (some ⟨we.heap.size, 0, none⟩) n n] rfl rfl cs8 (by simp [Value.oneCell']) (by unfold maxLen; omega) (by omega) K8.size ?_
              intro av' w9 hown9 hg9 _
              refine hK2 _ _ ?_
              clear hK2 K2
              have hM9 := K8.row.grown hg9 (own_ne K8.av K8.row (by decide))
              have vv9 := own_grown K8.vv hg9 (own_apart K8.vv K8.av (by decide))
              have rows9 : ∀ (i g : Nat) (t : Int), gs[i]? = some g → p.V[i]? = some t → Row w9 g 3 (ints (List.replicate (sizeZ t).toNat 0)).toArray := fun i g t h1 h2 => (K8.rows i g t h1 h2).grown hg9 (own_ne K8.av (K8.rows i g t h1 h2) (by decide))
              have rn9 := rn8.grown hg9 (own_ne K8.av rn8 (by decide))
              have ch9 := K8.ch.trans (.grown hg9 K8.size (fun k e => own_lo K8.av e))
              have hov9 := own_ov hown9
              have HM9 := Lib.hid hM9
              have VV9 := Lib.hid vv9
              have Rows9 := Lib.hid rows9
              have RN9 := Lib.hid rn9
              have CH9 := Lib.hid ch9
              have Own9 := Lib.hid hown9
              have Glt := Lib.hid glt
              have Vvn := Lib.hid vvn
              simp only [Act.put, List.setIfInBounds_toArray, List.set_cons_zero, List.set_cons_succ]
              refine ⟨S2.out _ CH9.out, ?_⟩
              have hS9 : S w9 := S2.out _ CH9.out
              clear hM9 vv9 rows9 rn9 ch9 hown9 hg9 rn8 cs8 K8 KM KE glt vvn
              (refine takeH (i := 14) (v := .pointer (some ⟨M, 0, none⟩)) rfl (by kernel_rfl) (by kernel_rfl) (by kernel_rfl) (fun _ _ _ h => h) (yields_val rfl (fun W hW => by (go_simp))) (by assumption) ?_; simp only [Act.put, List.setIfInBounds_toArray, List.set_cons_zero, List.set_cons_succ])
              (refine takeH (i := 15) (v := .pointer (some ⟨M, 4, none⟩)) rfl (by kernel_rfl) (by kernel_rfl) (by kernel_rfl) (fun _ _ _ h => h) (yields_val rfl (fun W hW => by (go_simp))) (by assumption) ?_; simp only [Act.put, List.setIfInBounds_toArray, List.set_cons_zero, List.set_cons_succ])
              (refine wpAnyH_all (rs := [16]) (by kernel_rfl) (by simp) (fun i hi => ?_); obtain rfl : i = 16 := by simpa using hi)
              refine wpOp_plain rfl rfl (fun K2 hK2 => ?_)
              refine wp_store_part 56 (.tmp 64) (.tmp 62) rfl M 4 rfl _ rfl [av'] (by cases av' <;> first | rfl | cases hov9) 68 _ (rkCells p vv' av' fuel) HM9.out (by kernel_rfl) (by show 4 + 1 ≤ 11; omega) (by simpa using hov9) rfl ?_
              intro w10 r10 o10
              refine hK2 _ _ ?_
              clear hK2 K2
              simp only [Act.put, List.setIfInBounds_toArray, List.set_cons_zero, List.set_cons_succ]
              refine ⟨S2.out _ (CH9.out.trans (.only o10)), ?_⟩
              refine wpAnyH_done (by kernel_rfl) ?_ _
              have hK10 : RK2 p M Bk fuel args W1 (k + 1) w10 := by
                have ne : ∀ {e : TypeId} {u : Value} {n : Nat} {xs : List Value}, w9.ownsRow Bk e 1 u n xs → w10.ownsRow Bk e 1 u n xs := fun h => own_only h o10 (fun e => by have := own_lo h e; omega)
                have hgl := Hgl.out
                subst hgl
                refine ⟨vv', av', gs ++ [we.heap.size], r10, by simp, ne VV9.out, ?_, fun i g t' h1 h2 => ?_, fun g hg => ?_, ?_, fun g hg => ?_, CH9.out.trans (.only o10)⟩
                · rw [asL_app gs p.V we.heap.size t Ht.out, Hnn.out, Int.toNat_natCast]; exact ne Own9.out
                · rcases Nat.lt_trichotomy i gs.length with hl | hl | hl
                  · rw [List.getElem?_append_left hl] at h1
                    exact (Rows9.out i g t' h1 h2).only o10 (by have := Hge.out g (List.mem_of_getElem? h1); omega)
                  · subst hl
                    rw [List.getElem?_append_right (Nat.le_refl _), Nat.sub_self] at h1
                    injection h1 with h1
                    subst h1
                    rw [Ht.out] at h2
                    injection h2 with h2
                    subst h2
                    rw [Hnn.out, Int.toNat_natCast]
                    exact RN9.out.only o10 (by omega)
                  · rw [List.getElem?_append_right (by omega)] at h1
                    have := (List.getElem?_eq_some_iff.1 h1).1
                    simp at this; omega
                · rcases List.mem_append.1 hg with hg | hg
                  · exact Hge.out g hg
                  · rw [List.mem_singleton.1 hg]; exact gn
                · rw [List.nodup_append]
                  refine ⟨Hnd.out, by simp, fun a ha b hb e => ?_⟩
                  rw [List.mem_singleton.1 hb] at e
                  have := Glt.out a ha
                  omega
                · rcases List.mem_append.1 hg with hg | hg
                  · exact Hne2.out g hg
                  · rw [List.mem_singleton.1 hg]; exact Vvn.out
              have HK10 := Lib.hid hK10
              clear hK10 r10 o10
              go_wp2_with fail
              go_roundw
              case rel => exact ⟨k + 1, by go_num, by omega, HK10⟩
              case measure => simp [intOf]; omega
      · have hdec : decide ((k : Int) < (args.length : Int)) = false := by simp; omega
        have hx : args.getD k 0 = 0 := by simp [List.getD, List.getElem?_eq_none (show args.length ≤ k by omega)]
        have Hxk := Lib.hid hx
        clear hx
        go_wp2_with (at_builtin; refine at_stop ?_)
        refine Stop.to ?_
        refine (wpList_append_own_at _ rfl (.tmp 43) (.tmp 45) 22 rfl Bk 3 i0 (.int .i64 0) 1 8 Try.underlying22 hi0 hz0 hz1 hz2 rfl (by decide) vv k _ rfl (own_below (J1.out _ hJ) ((Below.refl _ _).alloc (Nat.le_refl _) _)) ⟨wr.heap.size, 0, none⟩ 1 1 [.int .i64 0] rfl rfl (cell_one_new _ _ _) (by simp [Value.oneCell']) (by unfold maxLen; omega) (by omega) (by have := J5.out _ hJ; simp; omega) ?_)
        intro vv' W2 hown hg _ hat
        have hJa : J (wr.alloc (.cells #[.int .i64 0] 3)) := stJ.go hJ ((Below.refl _ _).alloc (Nat.le_refl _) _)
        have rM2 := (J0.out _ hJa).grown hg (own_ne (J1.out _ hJa) (J0.out _ hJa) (by decide))
        have av2 := own_grown (J2.out _ hJa) hg (own_apart (J2.out _ hJa) (J1.out _ hJa) (by decide))
        have rows2 : ∀ (i g : Nat) (t : Int), gs[i]? = some g → p.V[i]? = some t → Row W2 g 3 (ints (List.replicate (sizeZ t).toNat 0)).toArray := fun i g t h1 h2 => (J3.out _ hJa i g t h1 h2).grown hg (Hne.out g (List.mem_of_getElem? h1))
        have ch2 := (J4.out _ hJa).trans (.grown hg (J5.out _ hJa) (fun k e => own_lo (J1.out _ hJa) e))
        have sz2 : Bk ≤ W2.heap.size := Nat.le_trans (J5.out _ hJa) hg.size
        have hne2 : ∀ g ∈ gs, vv'.ownBlock ≠ some g := by
          intro g hgm
          rcases hat with e | e
          · rw [e]; exact Hne.out g hgm
          · obtain ⟨i, hil, hi⟩ := List.getElem_of_mem hgm
            have h1 : gs[i]? = some g := by rw [List.getElem?_eq_getElem hil, hi]
            have h2 : p.V[i]? = some (p.V[i]'(by have := Hgl.out; omega)) := List.getElem?_eq_getElem _
            have := (J3.out _ hJa i g _ h1 h2).lt
            rw [e]
            intro e3
            injection e3 with e3
            omega
        have hown2 : W2.ownsRow Bk 3 1 vv' (k + 1) (ints ((vals0 p.V args).take (k + 1))) := by rw [vals0_take hlt, Hxk.out]; simpa [ints] using hown
        have hov2 := own_ov hown2
        have RM2 := Lib.hid rM2
        have AV2 := Lib.hid av2
        have Rows2 := Lib.hid rows2
        have Ch2 := Lib.hid ch2
        have Hne2 := Lib.hid hne2
        have Hown2 := Lib.hid hown2
        clear rM2 av2 rows2 ch2 hne2 hown2 hown hg hat hJa hJ c4 hra cv
        go_wp2_with (refine at_store _ _ _ rfl ?_)
        refine Stop.to ?_
        refine wpList_store_part rfl 22 _ _ rfl M 3 rfl _ rfl [vv'] (by cases vv' <;> first | rfl | cases hov2) 68 _ (rkCells p vv' av fuel) RM2.out (by kernel_rfl) (by show 3 + 1 ≤ 11; omega) (by simpa using hov2) rfl ?_
        intro W3 r3 o3
        have k3 : RK3 p M Bk fuel vv' av args gs W1 k W3 := by
          have ne : ∀ {e : TypeId} {u : Value} {n : Nat} {xs : List Value}, W2.ownsRow Bk e 1 u n xs → W3.ownsRow Bk e 1 u n xs := fun h => own_only h o3 (fun e => by have := own_lo h e; omega)
          exact ⟨r3, ne Hown2.out, ne AV2.out, fun i g t h1 h2 => (Rows2.out i g t h1 h2).only o3 (by have := Hge.out g (List.mem_of_getElem? h1); omega), Ch2.out.trans (.only o3), by rw [o3.size]; exact sz2⟩
        have k3d : RK3 p M Bk fuel vv' av args gs W1 k W3.drew := k3.go ⟨rfl, rfl, rfl, Nat.le_refl _, fun _ _ => rfl⟩
        have KE := Lib.hid k3d
        clear r3 o3 k3 k3d RM2 AV2 Rows2 Ch2 Hown2 sz2 J0 J1 J2 J3 J4 J5 stJ J hi0 hz0 hz1 hz2 i0
        obtain ⟨i0, hi0, hz0, hz1, hz2⟩ := info_parts info_sl
        obtain ⟨n, hn⟩ : ∃ n : Nat, sizeZ t = (n : Int) := ⟨(sizeZ t).toNat, by unfold sizeZ; split <;> omega⟩
        have hn8 : n ≤ 8 := by unfold sizeZ at hn; split at hn <;> omega
        have hmk : ∀ W : World, (Instr.makeSlice 22 (.int .i64 (n : Int)) (.int .i64 (n : Int))).run Try.prog W = .ok (.slice (some ⟨W.heap.size, 0, none⟩) n n) (W.alloc (.cells (ints (List.replicate n 0)).toArray 3)) := fun W => by
          have := run_make_row' (P := Try.prog) (w := W) 22 3 (.int .i64 0) 8 Try.underlying22 info_int rfl .i64 .i64 n (by omega) (by omega)
          rw [show madeCells #[Value.int .i64 0] n = (ints (List.replicate n 0)).toArray from by rw [madeCells_one]; simp [ints]] at this
          exact this
        have Hmk := Lib.hid hmk
        have Hnn := Lib.hid hn
        clear hmk hn
        go_wp2_with fail
        refine wp_region_held (S := S) (by kernel_rfl) ?_
        simp only [List.size_toArray, List.length_cons, List.length_nil, Nat.reduceAdd, Array.replicate_succ, Array.replicate_zero, List.push_toArray, List.nil_append, List.cons_append]
        show wpAnyH _ _ _ _ _ _ _ _ W3.drew
        generalize W3.drew = we at KE ⊢
        have hSe : S we := S2.out _ KE.out.ch
        (refine takeH (i := 0) (v := .pointer (some ⟨M, 0, none⟩)) rfl (by kernel_rfl) (by kernel_rfl) (by kernel_rfl) (fun _ _ _ h => h) (yields_val rfl (fun W hW => by (go_simp))) (by assumption) ?_; simp only [Act.put, List.setIfInBounds_toArray, List.set_cons_zero, List.set_cons_succ])
        (refine takeH (i := 1) (v := .pointer (some ⟨M, 0, none⟩)) rfl (by kernel_rfl) (by kernel_rfl) (by kernel_rfl) (fun _ _ _ h => h) (yields_val rfl (fun W hW => by (go_simp))) (by assumption) ?_; simp only [Act.put, List.setIfInBounds_toArray, List.set_cons_zero, List.set_cons_succ])
        (refine takeH (i := 2) (v := .pointer (some ⟨M, 0, none⟩)) rfl (by kernel_rfl) (by kernel_rfl) (by kernel_rfl) (fun _ _ _ h => h) (yields_val rfl (fun W hW => by (go_simp))) (by assumption) ?_; simp only [Act.put, List.setIfInBounds_toArray, List.set_cons_zero, List.set_cons_succ])
        (refine takeH (i := 3) (v := .pointer (some ⟨M, 4, none⟩)) rfl (by kernel_rfl) (by kernel_rfl) (by kernel_rfl) (fun _ _ _ h => h) (yields_val rfl (fun W hW => by (go_simp))) (by assumption) ?_; simp only [Act.put, List.setIfInBounds_toArray, List.set_cons_zero, List.set_cons_succ])
        (refine takeH (i := 5) (v := .pointer (some ⟨G, 1, none⟩)) rfl (by kernel_rfl) (by kernel_rfl) (by kernel_rfl) (fun _ _ _ h => h) (yields_val rfl (fun W hW => by (go_simp))) (by assumption) ?_; simp only [Act.put, List.setIfInBounds_toArray, List.set_cons_zero, List.set_cons_succ])
        (refine takeH (i := 6) (v := .slice (some vd) p.V.length p.vcap) rfl (by kernel_rfl) (by kernel_rfl) (by kernel_rfl) (fun _ _ _ h => h) (yields_val rfl (fun W hW => by ((have h := S0.out W hW; go_simp)))) (by assumption) ?_; simp only [Act.put, List.setIfInBounds_toArray, List.set_cons_zero, List.set_cons_succ])
        (refine takeH (i := 7) (v := .int .i64 (k : Int)) rfl (by kernel_rfl) (by kernel_rfl) (by kernel_rfl) (fun _ _ _ h => h) (yields_val rfl (fun W hW => by (go_simp))) (by assumption) ?_; simp only [Act.put, List.setIfInBounds_toArray, List.set_cons_zero, List.set_cons_succ])
        (refine takeH (i := 8) (v := .pointer (some (vd.add k))) rfl (by kernel_rfl) (by kernel_rfl) (by kernel_rfl) (fun _ _ _ h => h) (yields_val rfl (fun W hW => by (go_simp))) (by assumption) ?_; simp only [Act.put, List.setIfInBounds_toArray, List.set_cons_zero, List.set_cons_succ])
        (refine takeH (i := 9) (v := .int .i64 t) rfl (by kernel_rfl) (by kernel_rfl) (by kernel_rfl) (fun _ _ _ h => h) (yields_val rfl (fun W hW => by ((have h := S1.out W hW; go_simp)))) (by assumption) ?_; simp only [Act.put, List.setIfInBounds_toArray, List.set_cons_zero, List.set_cons_succ])
        refine wpAnyH_all (rs := [4, 10]) (by kernel_rfl) (by simp) (fun i hi => ?_)
        have hi2 : i = 4 ∨ i = 10 := by simpa using hi
        rcases hi2 with rfl | rfl
        · refine wpOp_plain rfl rfl (fun K2 hK2 => ?_)
          refine wp_res_gen av (w1 := we) (by have h := (KE.out).row.cellv (i := 4) (v := av) rfl; go_simp) ?_
          refine hK2 _ _ ?_
          clear hK2 K2
          simp only [Act.put, List.setIfInBounds_toArray, List.set_cons_zero, List.set_cons_succ]
          refine ⟨S2.out _ (KE.out).ch, ?_⟩
          (refine wpAnyH_all (rs := [10]) (by kernel_rfl) (by simp) (fun i hi => ?_); obtain rfl : i = 10 := by simpa using hi)
          refine wpOp_plain rfl rfl (fun K2 hK2 => ?_)
          refine wp_call_gen (w1 := we) 38 #[.int .i64 t] (by go_simp; try rfl) ?_
          refine (refSize_any t we hti).mono ?_
          rintro e w4 ⟨rfl, rfl⟩
          rw [Hnn.out]
          refine ⟨_, rfl, hK2 _ _ ?_⟩
          clear hK2 K2
          simp only [Act.put, List.setIfInBounds_toArray, List.set_cons_zero, List.set_cons_succ]
          refine ⟨hSe, ?_⟩
          (refine wpAnyH_all (rs := [11]) (by kernel_rfl) (by simp) (fun i hi => ?_); obtain rfl : i = 11 := by simpa using hi)
          refine wpOp_plain rfl rfl (fun K2 hK2 => ?_)
          refine wp_res_gen (.slice (some ⟨we.heap.size, 0, none⟩) n n) (run_exec_makeSlice rfl rfl rfl (Hmk.out we)) ?_
          refine hK2 _ _ ?_
          clear hK2 K2
          have KM := KE.out.go (A' := we.alloc (.cells (ints (List.replicate n 0)).toArray 3)) ((Below.refl _ _).alloc (Nat.le_refl _) _)
          simp only [Act.put, List.setIfInBounds_toArray, List.set_cons_zero, List.set_cons_succ]
          refine ⟨S2.out _ KM.ch, ?_⟩
          (refine wpAnyH_all (rs := [12]) (by kernel_rfl) (by simp) (fun i hi => ?_); obtain rfl : i = 12 := by simpa using hi)
          refine wpOp_plain rfl rfl (fun K2 hK2 => ?_)
          refine wp_res_gen (.slice (some ⟨(we.alloc (.cells (ints (List.replicate n 0)).toArray 3)).heap.size, 0, none⟩) 1 1) (w1 := (we.alloc (.cells (ints (List.replicate n 0)).toArray 3)).alloc (.cells #[.slice (some ⟨we.heap.size, 0, none⟩) n n] 22)) (by go_simp; try rfl) ?_
          refine hK2 _ _ ?_
          clear hK2 K2
          have K8 := KM.go (A' := (we.alloc (.cells (ints (List.replicate n 0)).toArray 3)).alloc (.cells #[.slice (some ⟨we.heap.size, 0, none⟩) n n] 22)) ((Below.refl _ _).alloc (Nat.le_refl _) _)
          simp only [Act.put, List.setIfInBounds_toArray, List.set_cons_zero, List.set_cons_succ]
          refine ⟨S2.out _ K8.ch, ?_⟩
          (refine wpAnyH_all (rs := [13]) (by kernel_rfl) (by simp) (fun i hi => ?_); obtain rfl : i = 13 := by simpa using hi)
          have rn8 : Row ((we.alloc (.cells (ints (List.replicate n 0)).toArray 3)).alloc (.cells #[.slice (some ⟨we.heap.size, 0, none⟩) n n] 22)) we.heap.size 3 (ints (List.replicate n 0)).toArray := (Row.new we _ _).alloc _
          have gn := KE.out.size
          have glt : ∀ g ∈ gs, g < we.heap.size := by
            intro g hgm
            obtain ⟨i, hil, hi⟩ := List.getElem_of_mem hgm
            have h1 : gs[i]? = some g := by rw [List.getElem?_eq_getElem hil, hi]
            have h2 : p.V[i]? = some (p.V[i]'(by have := Hgl.out; omega)) := List.getElem?_eq_getElem _
            exact (KE.out.rows i g _ h1 h2).lt
          have vvn : vv'.ownBlock ≠ some we.heap.size := fun e => by have := own_hi KE.out.vv e; omega
          generalize hw8 : (we.alloc (.cells (ints (List.replicate n 0)).toArray 3)).alloc (.cells #[.slice (some ⟨we.heap.size, 0, none⟩) n n] 22) = w8 at *
          have cs8 : ∀ (j : Nat) (u : Value), [Value.slice (some ⟨we.heap.size, 0, none⟩) n n][j]? = some u → w8.cell? ((⟨(we.alloc (.cells (ints (List.replicate n 0)).toArray 3)).heap.size, 0, none⟩ : Addr).add j) = some u := by rw [← hw8]; exact cell_one_new _ _ _
          clear hw8
          refine wpOp_plain rfl rfl (fun K2 hK2 => ?_)
          refine wp_append_own_at (.tmp 53) (.tmp 61) 56 rfl Bk 22 i0 (.slice none 0 0) 1 24 Try.underlying56 hi0 hz0 hz1 hz2 rfl (by decide) av k _ rfl K8.av _ 1 1 [Value.slice (some ⟨we.heap.size, 0, none⟩) n n] rfl rfl cs8 (by simp [Value.oneCell']) (by unfold maxLen; omega) (by omega) K8.size ?_
          intro av' w9 hown9 hg9 _
          refine hK2 _ _ ?_
          clear hK2 K2
          have hM9 := K8.row.grown hg9 (own_ne K8.av K8.row (by decide))
          have vv9 := own_grown K8.vv hg9 (own_apart K8.vv K8.av (by decide))
          have rows9 : ∀ (i g : Nat) (t : Int), gs[i]? = some g → p.V[i]? = some t → Row w9 g 3 (ints (List.replicate (sizeZ t).toNat 0)).toArray := fun i g t h1 h2 => (K8.rows i g t h1 h2).grown hg9 (own_ne K8.av (K8.rows i g t h1 h2) (by decide))
          have rn9 := rn8.grown hg9 (own_ne K8.av rn8 (by decide))
          have ch9 := K8.ch.trans (.grown hg9 K8.size (fun k e => own_lo K8.av e))
          have hov9 := own_ov hown9
          have HM9 := Lib.hid hM9
          have VV9 := Lib.hid vv9
          have Rows9 := Lib.hid rows9
          have RN9 := Lib.hid rn9
          have CH9 := Lib.hid ch9
          have Own9 := Lib.hid hown9
          have Glt := Lib.hid glt
          have Vvn := Lib.hid vvn
          simp only [Act.put, List.setIfInBounds_toArray, List.set_cons_zero, List.set_cons_succ]
          refine ⟨S2.out _ CH9.out, ?_⟩
          have hS9 : S w9 := S2.out _ CH9.out
          clear hM9 vv9 rows9 rn9 ch9 hown9 hg9 rn8 cs8 K8 KM KE glt vvn
          (refine takeH (i := 14) (v := .pointer (some ⟨M, 0, none⟩)) rfl (by kernel_rfl) (by kernel_rfl) (by kernel_rfl) (fun _ _ _ h => h) (yields_val rfl (fun W hW => by (go_simp))) (by assumption) ?_; simp only [Act.put, List.setIfInBounds_toArray, List.set_cons_zero, List.set_cons_succ])
          (refine takeH (i := 15) (v := .pointer (some ⟨M, 4, none⟩)) rfl (by kernel_rfl) (by kernel_rfl) (by kernel_rfl) (fun _ _ _ h => h) (yields_val rfl (fun W hW => by (go_simp))) (by assumption) ?_; simp only [Act.put, List.setIfInBounds_toArray, List.set_cons_zero, List.set_cons_succ])
          (refine wpAnyH_all (rs := [16]) (by kernel_rfl) (by simp) (fun i hi => ?_); obtain rfl : i = 16 := by simpa using hi)
          refine wpOp_plain rfl rfl (fun K2 hK2 => ?_)
          refine wp_store_part 56 (.tmp 64) (.tmp 62) rfl M 4 rfl _ rfl [av'] (by cases av' <;> first | rfl | cases hov9) 68 _ (rkCells p vv' av' fuel) HM9.out (by kernel_rfl) (by show 4 + 1 ≤ 11; omega) (by simpa using hov9) rfl ?_
          intro w10 r10 o10
          refine hK2 _ _ ?_
          clear hK2 K2
          simp only [Act.put, List.setIfInBounds_toArray, List.set_cons_zero, List.set_cons_succ]
          refine ⟨S2.out _ (CH9.out.trans (.only o10)), ?_⟩
          refine wpAnyH_done (by kernel_rfl) ?_ _
          have hK10 : RK2 p M Bk fuel args W1 (k + 1) w10 := by
            have ne : ∀ {e : TypeId} {u : Value} {n : Nat} {xs : List Value}, w9.ownsRow Bk e 1 u n xs → w10.ownsRow Bk e 1 u n xs := fun h => own_only h o10 (fun e => by have := own_lo h e; omega)
            have hgl := Hgl.out
            subst hgl
            refine ⟨vv', av', gs ++ [we.heap.size], r10, by simp, ne VV9.out, ?_, fun i g t' h1 h2 => ?_, fun g hg => ?_, ?_, fun g hg => ?_, CH9.out.trans (.only o10)⟩
            · rw [asL_app gs p.V we.heap.size t Ht.out, Hnn.out, Int.toNat_natCast]; exact ne Own9.out
            · rcases Nat.lt_trichotomy i gs.length with hl | hl | hl
              · rw [List.getElem?_append_left hl] at h1
                exact (Rows9.out i g t' h1 h2).only o10 (by have := Hge.out g (List.mem_of_getElem? h1); omega)
              · subst hl
                rw [List.getElem?_append_right (Nat.le_refl _), Nat.sub_self] at h1
                injection h1 with h1
                subst h1
                rw [Ht.out] at h2
                injection h2 with h2
                subst h2
                rw [Hnn.out, Int.toNat_natCast]
                exact RN9.out.only o10 (by omega)
              · rw [List.getElem?_append_right (by omega)] at h1
                have := (List.getElem?_eq_some_iff.1 h1).1
                simp at this; omega
            · rcases List.mem_append.1 hg with hg | hg
              · exact Hge.out g hg
              · rw [List.mem_singleton.1 hg]; exact gn
            · rw [List.nodup_append]
              refine ⟨Hnd.out, by simp, fun a ha b hb e => ?_⟩
              rw [List.mem_singleton.1 hb] at e
              have := Glt.out a ha
              omega
            · rcases List.mem_append.1 hg with hg | hg
              · exact Hne2.out g hg
              · rw [List.mem_singleton.1 hg]; exact Vvn.out
          have HK10 := Lib.hid hK10
          clear hK10 r10 o10
          go_wp2_with fail
          go_roundw
          case rel => exact ⟨k + 1, by go_num, by omega, HK10⟩
          case measure => simp [intOf]; omega
        · refine wpOp_plain rfl rfl (fun K2 hK2 => ?_)
          refine wp_call_gen (w1 := we) 38 #[.int .i64 t] (by go_simp; try rfl) ?_
          refine (refSize_any t we hti).mono ?_
          rintro e w4 ⟨rfl, rfl⟩
          rw [Hnn.out]
          refine ⟨_, rfl, hK2 _ _ ?_⟩
          clear hK2 K2
          simp only [Act.put, List.setIfInBounds_toArray, List.set_cons_zero, List.set_cons_succ]
          refine ⟨hSe, ?_⟩
          refine wpAnyH_all (rs := [4, 11]) (by kernel_rfl) (by simp) (fun i hi => ?_)
          have hi2 : i = 4 ∨ i = 11 := by simpa using hi
          rcases hi2 with rfl | rfl
          · refine wpOp_plain rfl rfl (fun K2 hK2 => ?_)
            refine wp_res_gen av (w1 := we) (by have h := (KE.out).row.cellv (i := 4) (v := av) rfl; go_simp) ?_
            refine hK2 _ _ ?_
            clear hK2 K2
            simp only [Act.put, List.setIfInBounds_toArray, List.set_cons_zero, List.set_cons_succ]
            refine ⟨S2.out _ (KE.out).ch, ?_⟩
            (refine wpAnyH_all (rs := [11]) (by kernel_rfl) (by simp) (fun i hi => ?_); obtain rfl : i = 11 := by simpa using hi)
            refine wpOp_plain rfl rfl (fun K2 hK2 => ?_)
            refine wp_res_gen (.slice (some ⟨we.heap.size, 0, none⟩) n n) (run_exec_makeSlice rfl rfl rfl (Hmk.out we)) ?_
            refine hK2 _ _ ?_
            clear hK2 K2
            have KM := KE.out.go (A' := we.alloc (.cells (ints (List.replicate n 0)).toArray 3)) ((Below.refl _ _).alloc (Nat.le_refl _) _)
            simp only [Act.put, List.setIfInBounds_toArray, List.set_cons_zero, List.set_cons_succ]
            refine ⟨S2.out _ KM.ch, ?_⟩
            (refine wpAnyH_all (rs := [12]) (by kernel_rfl) (by simp) (fun i hi => ?_); obtain rfl : i = 12 := by simpa using hi)
            refine wpOp_plain rfl rfl (fun K2 hK2 => ?_)
            refine wp_res_gen (.slice (some ⟨(we.alloc (.cells (ints (List.replicate n 0)).toArray 3)).heap.size, 0, none⟩) 1 1) (w1 := (we.alloc (.cells (ints (List.replicate n 0)).toArray 3)).alloc (.cells #[.slice (some ⟨we.heap.size, 0, none⟩) n n] 22)) (by go_simp; try rfl) ?_
            refine hK2 _ _ ?_
            clear hK2 K2
            have K8 := KM.go (A' := (we.alloc (.cells (ints (List.replicate n 0)).toArray 3)).alloc (.cells #[.slice (some ⟨we.heap.size, 0, none⟩) n n] 22)) ((Below.refl _ _).alloc (Nat.le_refl _) _)
            simp only [Act.put, List.setIfInBounds_toArray, List.set_cons_zero, List.set_cons_succ]
            refine ⟨S2.out _ K8.ch, ?_⟩
            (refine wpAnyH_all (rs := [13]) (by kernel_rfl) (by simp) (fun i hi => ?_); obtain rfl : i = 13 := by simpa using hi)
            have rn8 : Row ((we.alloc (.cells (ints (List.replicate n 0)).toArray 3)).alloc (.cells #[.slice (some ⟨we.heap.size, 0, none⟩) n n] 22)) we.heap.size 3 (ints (List.replicate n 0)).toArray := (Row.new we _ _).alloc _
            have gn := KE.out.size
            have glt : ∀ g ∈ gs, g < we.heap.size := by
              intro g hgm
              obtain ⟨i, hil, hi⟩ := List.getElem_of_mem hgm
              have h1 : gs[i]? = some g := by rw [List.getElem?_eq_getElem hil, hi]
              have h2 : p.V[i]? = some (p.V[i]'(by have := Hgl.out; omega)) := List.getElem?_eq_getElem _
              exact (KE.out.rows i g _ h1 h2).lt
            have vvn : vv'.ownBlock ≠ some we.heap.size := fun e => by have := own_hi KE.out.vv e; omega
            generalize hw8 : (we.alloc (.cells (ints (List.replicate n 0)).toArray 3)).alloc (.cells #[.slice (some ⟨we.heap.size, 0, none⟩) n n] 22) = w8 at *
            have cs8 : ∀ (j : Nat) (u : Value), [Value.slice (some ⟨we.heap.size, 0, none⟩) n n][j]? = some u → w8.cell? ((⟨(we.alloc (.cells (ints (List.replicate n 0)).toArray 3)).heap.size, 0, none⟩ : Addr).add j) = some u := by rw [← hw8]; exact cell_one_new _ _ _
            clear hw8
            refine wpOp_plain rfl rfl (fun K2 hK2 => ?_)
            refine wp_append_own_at (.tmp 53) (.tmp 61) 56 rfl Bk 22 i0 (.slice none 0 0) 1 24 Try.underlying56 hi0 hz0 hz1 hz2 rfl (by decide) av k _ rfl K8.av _ 1 1 [Value.slice (some ⟨we.heap.size, 0, none⟩) n n] rfl rfl cs8 (by simp [Value.oneCell']) (by unfold maxLen; omega) (by omega) K8.size ?_
            intro av' w9 hown9 hg9 _
            refine hK2 _ _ ?_
            clear hK2 K2
            have hM9 := K8.row.grown hg9 (own_ne K8.av K8.row (by decide))
            have vv9 := own_grown K8.vv hg9 (own_apart K8.vv K8.av (by decide))
            have rows9 : ∀ (i g : Nat) (t : Int), gs[i]? = some g → p.V[i]? = some t → Row w9 g 3 (ints (List.replicate (sizeZ t).toNat 0)).toArray := fun i g t h1 h2 => (K8.rows i g t h1 h2).grown hg9 (own_ne K8.av (K8.rows i g t h1 h2) (by decide))
            have rn9 := rn8.grown hg9 (own_ne K8.av rn8 (by decide))
            have ch9 := K8.ch.trans (.grown hg9 K8.size (fun k e => own_lo K8.av e))
            have hov9 := own_ov hown9
            have HM9 := Lib.hid hM9
            have VV9 := Lib.hid vv9
            have Rows9 := Lib.hid rows9
            have RN9 := Lib.hid rn9
            have CH9 := Lib.hid ch9
            have Own9 := Lib.hid hown9
            have Glt := Lib.hid glt
            have Vvn := Lib.hid vvn
            simp only [Act.put, List.setIfInBounds_toArray, List.set_cons_zero, List.set_cons_succ]
            refine ⟨S2.out _ CH9.out, ?_⟩
            have hS9 : S w9 := S2.out _ CH9.out
            clear hM9 vv9 rows9 rn9 ch9 hown9 hg9 rn8 cs8 K8 KM KE glt vvn
            (refine takeH (i := 14) (v := .pointer (some ⟨M, 0, none⟩)) rfl (by kernel_rfl) (by kernel_rfl) (by kernel_rfl) (fun _ _ _ h => h) (yields_val rfl (fun W hW => by (go_simp))) (by assumption) ?_; simp only [Act.put, List.setIfInBounds_toArray, List.set_cons_zero, List.set_cons_succ])
            (refine takeH (i := 15) (v := .pointer (some ⟨M, 4, none⟩)) rfl (by kernel_rfl) (by kernel_rfl) (by kernel_rfl) (fun _ _ _ h => h) (yields_val rfl (fun W hW => by (go_simp))) (by assumption) ?_; simp only [Act.put, List.setIfInBounds_toArray, List.set_cons_zero, List.set_cons_succ])
            (refine wpAnyH_all (rs := [16]) (by kernel_rfl) (by simp) (fun i hi => ?_); obtain rfl : i = 16 := by simpa using hi)
            refine wpOp_plain rfl rfl (fun K2 hK2 => ?_)
            refine wp_store_part 56 (.tmp 64) (.tmp 62) rfl M 4 rfl _ rfl [av'] (by cases av' <;> first | rfl | cases hov9) 68 _ (rkCells p vv' av' fuel) HM9.out (by kernel_rfl) (by show 4 + 1 ≤ 11; omega) (by simpa using hov9) rfl ?_
            intro w10 r10 o10
            refine hK2 _ _ ?_
            clear hK2 K2
            simp only [Act.put, List.setIfInBounds_toArray, List.set_cons_zero, List.set_cons_succ]
            refine ⟨S2.out _ (CH9.out.trans (.only o10)), ?_⟩
            refine wpAnyH_done (by kernel_rfl) ?_ _
            have hK10 : RK2 p M Bk fuel args W1 (k + 1) w10 := by
              have ne : ∀ {e : TypeId} {u : Value} {n : Nat} {xs : List Value}, w9.ownsRow Bk e 1 u n xs → w10.ownsRow Bk e 1 u n xs := fun h => own_only h o10 (fun e => by have := own_lo h e; omega)
              have hgl := Hgl.out
              subst hgl
              refine ⟨vv', av', gs ++ [we.heap.size], r10, by simp, ne VV9.out, ?_, fun i g t' h1 h2 => ?_, fun g hg => ?_, ?_, fun g hg => ?_, CH9.out.trans (.only o10)⟩
              · rw [asL_app gs p.V we.heap.size t Ht.out, Hnn.out, Int.toNat_natCast]; exact ne Own9.out
              · rcases Nat.lt_trichotomy i gs.length with hl | hl | hl
                · rw [List.getElem?_append_left hl] at h1
                  exact (Rows9.out i g t' h1 h2).only o10 (by have := Hge.out g (List.mem_of_getElem? h1); omega)
                · subst hl
                  rw [List.getElem?_append_right (Nat.le_refl _), Nat.sub_self] at h1
                  injection h1 with h1
                  subst h1
                  rw [Ht.out] at h2
                  injection h2 with h2
                  subst h2
                  rw [Hnn.out, Int.toNat_natCast]
                  exact RN9.out.only o10 (by omega)
                · rw [List.getElem?_append_right (by omega)] at h1
                  have := (List.getElem?_eq_some_iff.1 h1).1
                  simp at this; omega
              · rcases List.mem_append.1 hg with hg | hg
                · exact Hge.out g hg
                · rw [List.mem_singleton.1 hg]; exact gn
              · rw [List.nodup_append]
                refine ⟨Hnd.out, by simp, fun a ha b hb e => ?_⟩
                rw [List.mem_singleton.1 hb] at e
                have := Glt.out a ha
                omega
              · rcases List.mem_append.1 hg with hg | hg
                · exact Hne2.out g hg
                · rw [List.mem_singleton.1 hg]; exact Vvn.out
            have HK10 := Lib.hid hK10
            clear hK10 r10 o10
            go_wp2_with fail
            go_roundw
            case rel => exact ⟨k + 1, by go_num, by omega, HK10⟩
            case measure => simp [intOf]; omega
          · refine wpOp_plain rfl rfl (fun K2 hK2 => ?_)
            refine wp_res_gen (.slice (some ⟨we.heap.size, 0, none⟩) n n) (run_exec_makeSlice rfl rfl rfl (Hmk.out we)) ?_
            refine hK2 _ _ ?_
            clear hK2 K2
            have KM := KE.out.go (A' := we.alloc (.cells (ints (List.replicate n 0)).toArray 3)) ((Below.refl _ _).alloc (Nat.le_refl _) _)
            simp only [Act.put, List.setIfInBounds_toArray, List.set_cons_zero, List.set_cons_succ]
            refine ⟨S2.out _ KM.ch, ?_⟩
            refine wpAnyH_all (rs := [4, 12]) (by kernel_rfl) (by simp) (fun i hi => ?_)
            have hi2 : i = 4 ∨ i = 12 := by simpa using hi
            rcases hi2 with rfl | rfl
            · refine wpOp_plain rfl rfl (fun K2 hK2 => ?_)
              refine wp_res_gen av (w1 := (we.alloc (.cells (ints (List.replicate n 0)).toArray 3))) (by have h := (KM).row.cellv (i := 4) (v := av) rfl; go_simp) ?_
              refine hK2 _ _ ?_
              clear hK2 K2
              simp only [Act.put, List.setIfInBounds_toArray, List.set_cons_zero, List.set_cons_succ]
              refine ⟨S2.out _ (KM).ch, ?_⟩
              (refine wpAnyH_all (rs := [12]) (by kernel_rfl) (by simp) (fun i hi => ?_); obtain rfl : i = 12 := by simpa using hi)
              refine wpOp_plain rfl rfl (fun K2 hK2 => ?_)
              refine wp_res_gen (.slice (some ⟨(we.alloc (.cells (ints (List.replicate n 0)).toArray 3)).heap.size, 0, none⟩) 1 1) (w1 := (we.alloc (.cells (ints (List.replicate n 0)).toArray 3)).alloc (.cells #[.slice (some ⟨we.heap.size, 0, none⟩) n n] 22)) (by go_simp; try rfl) ?_
              refine hK2 _ _ ?_
              clear hK2 K2
              have K8 := KM.go (A' := (we.alloc (.cells (ints (List.replicate n 0)).toArray 3)).alloc (.cells #[.slice (some ⟨we.heap.size, 0, none⟩) n n] 22)) ((Below.refl _ _).alloc (Nat.le_refl _) _)
              simp only [Act.put, List.setIfInBounds_toArray, List.set_cons_zero, List.set_cons_succ]
              refine ⟨S2.out _ K8.ch, ?_⟩
              (refine wpAnyH_all (rs := [13]) (by kernel_rfl) (by simp) (fun i hi => ?_); obtain rfl : i = 13 := by simpa using hi)
              have rn8 : Row ((we.alloc (.cells (ints (List.replicate n 0)).toArray 3)).alloc (.cells #[.slice (some ⟨we.heap.size, 0, none⟩) n n] 22)) we.heap.size 3 (ints (List.replicate n 0)).toArray := (Row.new we _ _).alloc _
              have gn := KE.out.size
              have glt : ∀ g ∈ gs, g < we.heap.size := by
                intro g hgm
                obtain ⟨i, hil, hi⟩ := List.getElem_of_mem hgm
                have h1 : gs[i]? = some g := by rw [List.getElem?_eq_getElem hil, hi]
                have h2 : p.V[i]? = some (p.V[i]'(by have := Hgl.out; omega)) := List.getElem?_eq_getElem _
                exact (KE.out.rows i g _ h1 h2).lt
              have vvn : vv'.ownBlock ≠ some we.heap.size := fun e => by have := own_hi KE.out.vv e; omega
              generalize hw8 : (we.alloc (.cells (ints (List.replicate n 0)).toArray 3)).alloc (.cells #[.slice (some ⟨we.heap.size, 0, none⟩) n n] 22) = w8 at *
              have cs8 : ∀ (j : Nat) (u : Value), [Value.slice (some ⟨we.heap.size, 0, none⟩) n n][j]? = some u → w8.cell? ((⟨(we.alloc (.cells (ints (List.replicate n 0)).toArray 3)).heap.size, 0, none⟩ : Addr).add j) = some u := by rw [← hw8]; exact cell_one_new _ _ _
              clear hw8
              refine wpOp_plain rfl rfl (fun K2 hK2 => ?_)
              refine wp_append_own_at (.tmp 53) (.tmp 61) 56 rfl Bk 22 i0 (.slice none 0 0) 1 24 Try.underlying56 hi0 hz0 hz1 hz2 rfl (by decide) av k _ rfl K8.av _ 1 1 [Value.slice (some ⟨we.heap.size, 0, none⟩) n n] rfl rfl cs8 (by simp [Value.oneCell']) (by unfold maxLen; omega) (by omega) K8.size ?_
              intro av' w9 hown9 hg9 _
              refine hK2 _ _ ?_
              clear hK2 K2
              have hM9 := K8.row.grown hg9 (own_ne K8.av K8.row (by decide))
              have vv9 := own_grown K8.vv hg9 (own_apart K8.vv K8.av (by decide))
              have rows9 : ∀ (i g : Nat) (t : Int), gs[i]? = some g → p.V[i]? = some t → Row w9 g 3 (ints (List.replicate (sizeZ t).toNat 0)).toArray := fun i g t h1 h2 => (K8.rows i g t h1 h2).grown hg9 (own_ne K8.av (K8.rows i g t h1 h2) (by decide))
              have rn9 := rn8.grown hg9 (own_ne K8.av rn8 (by decide))
              have ch9 := K8.ch.trans (.grown hg9 K8.size (fun k e => own_lo K8.av e))
              have hov9 := own_ov hown9
              have HM9 := Lib.hid hM9
              have VV9 := Lib.hid vv9
              have Rows9 := Lib.hid rows9
              have RN9 := Lib.hid rn9
              have CH9 := Lib.hid ch9
              have Own9 := Lib.hid hown9
              have Glt := Lib.hid glt
              have Vvn := Lib.hid vvn
              simp only [Act.put, List.setIfInBounds_toArray, List.set_cons_zero, List.set_cons_succ]
              refine ⟨S2.out _ CH9.out, ?_⟩
              have hS9 : S w9 := S2.out _ CH9.out
              clear hM9 vv9 rows9 rn9 ch9 hown9 hg9 rn8 cs8 K8 KM KE glt vvn
              (refine takeH (i := 14) (v := .pointer (some ⟨M, 0, none⟩)) rfl (by kernel_rfl) (by kernel_rfl) (by kernel_rfl) (fun _ _ _ h => h) (yields_val rfl (fun W hW => by (go_simp))) (by assumption) ?_; simp only [Act.put, List.setIfInBounds_toArray, List.set_cons_zero, List.set_cons_succ])
              (refine takeH (i := 15) (v := .pointer (some ⟨M, 4, none⟩)) rfl (by kernel_rfl) (by kernel_rfl) (by kernel_rfl) (fun _ _ _ h => h) (yields_val rfl (fun W hW => by (go_simp))) (by assumption) ?_; simp only [Act.put, List.setIfInBounds_toArray, List.set_cons_zero, List.set_cons_succ])
              (refine wpAnyH_all (rs := [16]) (by kernel_rfl) (by simp) (fun i hi => ?_); obtain rfl : i = 16 := by simpa using hi)
              refine wpOp_plain rfl rfl (fun K2 hK2 => ?_)
              refine wp_store_part 56 (.tmp 64) (.tmp 62) rfl M 4 rfl _ rfl [av'] (by cases av' <;> first | rfl | cases hov9) 68 _ (rkCells p vv' av' fuel) HM9.out (by kernel_rfl) (by show 4 + 1 ≤ 11; omega) (by simpa using hov9) rfl ?_
              intro w10 r10 o10
              refine hK2 _ _ ?_
              clear hK2 K2
              simp only [Act.put, List.setIfInBounds_toArray, List.set_cons_zero, List.set_cons_succ]
              refine ⟨S2.out _ (CH9.out.trans (.only o10)), ?_⟩
              refine wpAnyH_done (by kernel_rfl) ?_ _
              have hK10 : RK2 p M Bk fuel args W1 (k + 1) w10 := by
                have ne : ∀ {e : TypeId} {u : Value} {n : Nat} {xs : List Value}, w9.ownsRow Bk e 1 u n xs → w10.ownsRow Bk e 1 u n xs := fun h => own_only h o10 (fun e => by have := own_lo h e; omega)
                have hgl := Hgl.out
                subst hgl
                refine ⟨vv', av', gs ++ [we.heap.size], r10, by simp, ne VV9.out, ?_, fun i g t' h1 h2 => ?_, fun g hg => ?_, ?_, fun g hg => ?_, CH9.out.trans (.only o10)⟩
                · rw [asL_app gs p.V we.heap.size t Ht.out, Hnn.out, Int.toNat_natCast]; exact ne Own9.out
                · rcases Nat.lt_trichotomy i gs.length with hl | hl | hl
                  · rw [List.getElem?_append_left hl] at h1
                    exact (Rows9.out i g t' h1 h2).only o10 (by have := Hge.out g (List.mem_of_getElem? h1); omega)
                  · subst hl
                    rw [List.getElem?_append_right (Nat.le_refl _), Nat.sub_self] at h1
                    injection h1 with h1
                    subst h1
                    rw [Ht.out] at h2
                    injection h2 with h2
                    subst h2
                    rw [Hnn.out, Int.toNat_natCast]
                    exact RN9.out.only o10 (by omega)
                  · rw [List.getElem?_append_right (by omega)] at h1
                    have := (List.getElem?_eq_some_iff.1 h1).1
                    simp at this; omega
                · rcases List.mem_append.1 hg with hg | hg
                  · exact Hge.out g hg
                  · rw [List.mem_singleton.1 hg]; exact gn
                · rw [List.nodup_append]
                  refine ⟨Hnd.out, by simp, fun a ha b hb e => ?_⟩
                  rw [List.mem_singleton.1 hb] at e
                  have := Glt.out a ha
                  omega
                · rcases List.mem_append.1 hg with hg | hg
                  · exact Hne2.out g hg
                  · rw [List.mem_singleton.1 hg]; exact Vvn.out
              have HK10 := Lib.hid hK10
              clear hK10 r10 o10
              go_wp2_with fail
              go_roundw
              case rel => exact ⟨k + 1, by go_num, by omega, HK10⟩
              case measure => simp [intOf]; omega
            · refine wpOp_plain rfl rfl (fun K2 hK2 => ?_)
              refine wp_res_gen (.slice (some ⟨(we.alloc (.cells (ints (List.replicate n 0)).toArray 3)).heap.size, 0, none⟩) 1 1) (w1 := (we.alloc (.cells (ints (List.replicate n 0)).toArray 3)).alloc (.cells #[.slice (some ⟨we.heap.size, 0, none⟩) n n] 22)) (by go_simp; try rfl) ?_
              refine hK2 _ _ ?_
              clear hK2 K2
              have K8 := KM.go (A' := (we.alloc (.cells (ints (List.replicate n 0)).toArray 3)).alloc (.cells #[.slice (some ⟨we.heap.size, 0, none⟩) n n] 22)) ((Below.refl _ _).alloc (Nat.le_refl _) _)
              simp only [Act.put, List.setIfInBounds_toArray, List.set_cons_zero, List.set_cons_succ]
              refine ⟨S2.out _ K8.ch, ?_⟩
              (refine wpAnyH_all (rs := [4]) (by kernel_rfl) (by simp) (fun i hi => ?_); obtain rfl : i = 4 := by simpa using hi)
              refine wpOp_plain rfl rfl (fun K2 hK2 => ?_)
              refine wp_res_gen av (w1 := ((we.alloc (.cells (ints (List.replicate n 0)).toArray 3)).alloc (.cells #[.slice (some ⟨we.heap.size, 0, none⟩) n n] 22))) (by have h := (K8).row.cellv (i := 4) (v := av) rfl; go_simp) ?_
              refine hK2 _ _ ?_
              clear hK2 K2
              simp only [Act.put, List.setIfInBounds_toArray, List.set_cons_zero, List.set_cons_succ]
              refine ⟨S2.out _ (K8).ch, ?_⟩
              (refine wpAnyH_all (rs := [13]) (by kernel_rfl) (by simp) (fun i hi => ?_); obtain rfl : i = 13 := by simpa using hi)
              have rn8 : Row ((we.alloc (.cells (ints (List.replicate n 0)).toArray 3)).alloc (.cells #[.slice (some ⟨we.heap.size, 0, none⟩) n n] 22)) we.heap.size 3 (ints (List.replicate n 0)).toArray := (Row.new we _ _).alloc _
              have gn := KE.out.size
              have glt : ∀ g ∈ gs, g < we.heap.size := by
                intro g hgm
                obtain ⟨i, hil, hi⟩ := List.getElem_of_mem hgm
                have h1 : gs[i]? = some g := by rw [List.getElem?_eq_getElem hil, hi]
                have h2 : p.V[i]? = some (p.V[i]'(by have := Hgl.out; omega)) := List.getElem?_eq_getElem _
                exact (KE.out.rows i g _ h1 h2).lt
              have vvn : vv'.ownBlock ≠ some we.heap.size := fun e => by have := own_hi KE.out.vv e; omega
              generalize hw8 : (we.alloc (.cells (ints (List.replicate n 0)).toArray 3)).alloc (.cells #[.slice (some ⟨we.heap.size, 0, none⟩) n n] 22) = w8 at *
              have cs8 : ∀ (j : Nat) (u : Value), [Value.slice (some ⟨we.heap.size, 0, none⟩) n n][j]? = some u → w8.cell? ((⟨(we.alloc (.cells (ints (List.replicate n 0)).toArray 3)).heap.size, 0, none⟩ : Addr).add j) = some u := by rw [← hw8]; exact cell_one_new _ _ _
              clear hw8
              refine wpOp_plain rfl rfl (fun K2 hK2 => ?_)
              refine wp_append_own_at (.tmp 53) (.tmp 61) 56 rfl Bk 22 i0 (.slice none 0 0) 1 24 Try.underlying56 hi0 hz0 hz1 hz2 rfl (by decide) av k _ rfl K8.av _ 1 1 [Value.slice (some ⟨we.heap.size, 0, none⟩) n n] rfl rfl cs8 (by simp [Value.oneCell']) (by unfold maxLen; omega) (by omega) K8.size ?_
              intro av' w9 hown9 hg9 _
              refine hK2 _ _ ?_
              clear hK2 K2
              have hM9 := K8.row.grown hg9 (own_ne K8.av K8.row (by decide))
              have vv9 := own_grown K8.vv hg9 (own_apart K8.vv K8.av (by decide))
              have rows9 : ∀ (i g : Nat) (t : Int), gs[i]? = some g → p.V[i]? = some t → Row w9 g 3 (ints (List.replicate (sizeZ t).toNat 0)).toArray := fun i g t h1 h2 => (K8.rows i g t h1 h2).grown hg9 (own_ne K8.av (K8.rows i g t h1 h2) (by decide))
              have rn9 := rn8.grown hg9 (own_ne K8.av rn8 (by decide))
              have ch9 := K8.ch.trans (.grown hg9 K8.size (fun k e => own_lo K8.av e))
              have hov9 := own_ov hown9
              have HM9 := Lib.hid hM9
              have VV9 := Lib.hid vv9
              have Rows9 := Lib.hid rows9
              have RN9 := Lib.hid rn9
              have CH9 := Lib.hid ch9
              have Own9 := Lib.hid hown9
              have Glt := Lib.hid glt
              have Vvn := Lib.hid vvn
              simp only [Act.put, List.setIfInBounds_toArray, List.set_cons_zero, List.set_cons_succ]
              refine ⟨S2.out _ CH9.out, ?_⟩
              have hS9 : S w9 := S2.out _ CH9.out
              clear hM9 vv9 rows9 rn9 ch9 hown9 hg9 rn8 cs8 K8 KM KE glt vvn
              (refine takeH (i := 14) (v := .pointer (some ⟨M, 0, none⟩)) rfl (by kernel_rfl) (by kernel_rfl) (by kernel_rfl) (fun _ _ _ h => h) (yields_val rfl (fun W hW => by (go_simp))) (by assumption) ?_; simp only [Act.put, List.setIfInBounds_toArray, List.set_cons_zero, List.set_cons_succ])
              (refine takeH (i := 15) (v := .pointer (some ⟨M, 4, none⟩)) rfl (by kernel_rfl) (by kernel_rfl) (by kernel_rfl) (fun _ _ _ h => h) (yields_val rfl (fun W hW => by (go_simp))) (by assumption) ?_; simp only [Act.put, List.setIfInBounds_toArray, List.set_cons_zero, List.set_cons_succ])
              (refine wpAnyH_all (rs := [16]) (by kernel_rfl) (by simp) (fun i hi => ?_); obtain rfl : i = 16 := by simpa using hi)
              refine wpOp_plain rfl rfl (fun K2 hK2 => ?_)
              refine wp_store_part 56 (.tmp 64) (.tmp 62) rfl M 4 rfl _ rfl [av'] (by cases av' <;> first | rfl | cases hov9) 68 _ (rkCells p vv' av' fuel) HM9.out (by kernel_rfl) (by show 4 + 1 ≤ 11; omega) (by simpa using hov9) rfl ?_
              intro w10 r10 o10
              refine hK2 _ _ ?_
              clear hK2 K2
              simp only [Act.put, List.setIfInBounds_toArray, List.set_cons_zero, List.set_cons_succ]
              refine ⟨S2.out _ (CH9.out.trans (.only o10)), ?_⟩
              refine wpAnyH_done (by kernel_rfl) ?_ _
              have hK10 : RK2 p M Bk fuel args W1 (k + 1) w10 := by
                have ne : ∀ {e : TypeId} {u : Value} {n : Nat} {xs : List Value}, w9.ownsRow Bk e 1 u n xs → w10.ownsRow Bk e 1 u n xs := fun h => own_only h o10 (fun e => by have := own_lo h e; omega)
                have hgl := Hgl.out
                subst hgl
                refine ⟨vv', av', gs ++ [we.heap.size], r10, by simp, ne VV9.out, ?_, fun i g t' h1 h2 => ?_, fun g hg => ?_, ?_, fun g hg => ?_, CH9.out.trans (.only o10)⟩
                · rw [asL_app gs p.V we.heap.size t Ht.out, Hnn.out, Int.toNat_natCast]; exact ne Own9.out
                · rcases Nat.lt_trichotomy i gs.length with hl | hl | hl
                  · rw [List.getElem?_append_left hl] at h1
                    exact (Rows9.out i g t' h1 h2).only o10 (by have := Hge.out g (List.mem_of_getElem? h1); omega)
                  · subst hl
                    rw [List.getElem?_append_right (Nat.le_refl _), Nat.sub_self] at h1
                    injection h1 with h1
                    subst h1
                    rw [Ht.out] at h2
                    injection h2 with h2
                    subst h2
                    rw [Hnn.out, Int.toNat_natCast]
                    exact RN9.out.only o10 (by omega)
                  · rw [List.getElem?_append_right (by omega)] at h1
                    have := (List.getElem?_eq_some_iff.1 h1).1
                    simp at this; omega
                · rcases List.mem_append.1 hg with hg | hg
                  · exact Hge.out g hg
                  · rw [List.mem_singleton.1 hg]; exact gn
                · rw [List.nodup_append]
                  refine ⟨Hnd.out, by simp, fun a ha b hb e => ?_⟩
                  rw [List.mem_singleton.1 hb] at e
                  have := Glt.out a ha
                  omega
                · rcases List.mem_append.1 hg with hg | hg
                  · exact Hne2.out g hg
                  · rw [List.mem_singleton.1 hg]; exact Vvn.out
              have HK10 := Lib.hid hK10
              clear hK10 r10 o10
              go_wp2_with fail
              go_roundw
              case rel => exact ⟨k + 1, by go_num, by omega, HK10⟩
              case measure => simp [intOf]; omega
    · obtain rfl : k = p.V.length := by omega
      have cG : wr.cell? ⟨G, 1, none⟩ = some (.slice p.va p.V.length p.vcap) := by
        obtain ⟨_, _, _, _, _, _, _, _, _, _, _, hch⟩ := hK.out
        exact (G1.out.chm hch (by omega) (by omega)).cellv (i := 1) rfl
      obtain ⟨L, hLM, hLp, hLF, hL, hR, hN, hRB⟩ := rload_end Hbl.out Hok.out Hf.out hMw hMB HBk.out B1.out hK.out RB1.out hRBM
      have HL := Lib.hid hL
      have HR := Lib.hid hR
      have HN := Lib.hid hN
      have HRB := Lib.hid hRB
      have HLp := Lib.hid hLp
      have HLF := Lib.hid hLF
      have BW := Lib.hid (B1.out.trans ((show ChM M Bk W1 wr from by obtain ⟨_, _, _, _, _, _, _, _, _, _, _, hch⟩ := hK.out; exact hch).to_below (by have := B1.out.size; have := HBk.out; omega) hMw))
      subst hLM
      subst hLp
      clear hlt hk hK hL hR hN hRB hLF
      have Hent := Lib.hid (Big.ent L HL.out Hbig.out (okO_good Hok.out Hg.out) (OkS_init Hok.out Hg.out Hvars.out Hlen.out Hin.out) (by simp [initS]) 0 (.slice none 0 0) wr Hg.out.hat HR.out)
      go_wp2_with fail
      refine Hent.out.mono ?_
      rintro e W2 ⟨rfl, ev2, hm2, hc2⟩
      have Hst := Lib.hid (rStop_any L HL.out s' ev2 3 0 W2 hm2)
      have Hc2 := Lib.hid hc2
      clear hm2 hc2 cG
      go_wp2_with fail
      refine Hst.out.mono ?_
      rintro e W3 ⟨rfl, hm3, hc3⟩
      have hc4 := Hc2.out.trans hc3
      have hb4 := hc4.new HN.out BW.out.size
      have hrb := HRB.out.go hc4
      obtain ⟨sf, hsf⟩ : ∃ sf, s'.stopped 3 0 = sf := ⟨_, rfl⟩
      rw [hsf] at hm3
      obtain ⟨S, hSd⟩ : ∃ S, S = (fun W => RR L sf ev2 W ∧ Row W RB 32 #[.int .i64 0, .int .i64 0, .int .i64 0, .slice none 0 0] ∧ Below w.heap.size w W) := ⟨_, rfl⟩
      have stS : St S := by rw [hSd]; exact ⟨fun h b => ⟨h.1.below HL.out b, h.2.1.below b h.2.1.lt, h.2.2.trans (b.mono h.2.2.size)⟩⟩
      have S0 : Hid (∀ W, S W → RR L sf ev2 W) := by show ∀ W, _; rw [hSd]; exact fun W h => h.1
      have S1 : Hid (∀ W, S W → Row W RB 32 #[.int .i64 0, .int .i64 0, .int .i64 0, .slice none 0 0]) := by show ∀ W, _; rw [hSd]; exact fun W h => h.2.1
      have S2 : Hid (∀ W, S W → Below w.heap.size w W) := by show ∀ W, _; rw [hSd]; exact fun W h => h.2.2
      have hS : S W3 := by rw [hSd]; exact ⟨hm3, hrb, BW.out.trans hb4⟩
      have hov := own_ov hm3.core.evs
      have Hov := Lib.hid hov
      clear hSd hm3 hc3 hc4 hb4 hrb hov Hst Hc2 Hent
      go_wp2_with fail
      refine region_hold_tail S 13 (by kernel_rfl) (by kernel_rfl) (St.drew hS) ?_
      clear hS
      simp only [List.take_succ_cons, List.take_zero, List.drop_succ_cons, List.drop_zero]
      iterate 3 (refine hold_value rfl ?_ (fun W hW => ?_) ?_; rotate_left; (focus (go_simp; exact rfl)); simp only [Act.put, List.setIfInBounds_toArray, List.set_cons_zero, List.set_cons_succ])
      (refine hold_load_at rfl 29 _ rfl (⟨L.M, 8, none⟩) rfl [.int .i64 (sf.out.getD (0, 0)).1, .int .i64 (sf.out.getD (0, 0)).2] _ (fun W hW => rr_out (S0.out W hW)) Try.underlying29 rfl (by kernel_rfl) ?_; simp only [Act.put, List.setIfInBounds_toArray, List.set_cons_zero, List.set_cons_succ])
      iterate 3 (refine hold_value rfl ?_ (fun W hW => ?_) ?_; rotate_left; (focus (go_simp; exact rfl)); simp only [Act.put, List.setIfInBounds_toArray, List.set_cons_zero, List.set_cons_succ])
      (refine hold_value rfl ?_ (fun W hW => ?_) ?_; rotate_left; (focus (have c := (S0.out W hW).row.cellv (i := 6) (v := .int .i64 (sf.steps : Int)) rfl; go_simp; exact rfl)); simp only [Act.put, List.setIfInBounds_toArray, List.set_cons_zero, List.set_cons_succ])
      iterate 3 (refine hold_value rfl ?_ (fun W hW => ?_) ?_; rotate_left; (focus (go_simp; exact rfl)); simp only [Act.put, List.setIfInBounds_toArray, List.set_cons_zero, List.set_cons_succ])
      (refine hold_value rfl ?_ (fun W hW => ?_) ?_; rotate_left; (focus (have c := (S0.out W hW).row.cellv (i := 7) (v := ev2) rfl; go_simp; exact rfl)); simp only [Act.put, List.setIfInBounds_toArray, List.set_cons_zero, List.set_cons_succ])
      refine hold_value rfl (.agg #[.int .i64 (sf.out.getD (0, 0)).1, .int .i64 (sf.out.getD (0, 0)).2, .int .i64 (sf.steps : Int), ev2]) (fun W _ => run_exec_build 32 [_, _, _] rfl _ (by exact build_run _ _ _ _ Hov.out W)) ?_
      simp only [Act.put, List.setIfInBounds_toArray, List.set_cons_zero, List.set_cons_succ]
      refine wpHold_nil fun W hW => ?_
      go_wp2_with (refine at_store _ _ _ rfl ?_)
      refine Stop.to ?_
      refine wpList_store_gen rfl 32 _ _ rfl RB #[.int .i64 (sf.out.getD (0, 0)).1, .int .i64 (sf.out.getD (0, 0)).2, .int .i64 (sf.steps : Int), ev2] rfl rfl 32 _ (S1.out _ hW) (by kernel_rfl) rfl (run_one _ _ _ Hov.out) ?_
      intro W9 r9 o9
      go_wp2_with fail
      refine bodyPost_ret (results_cell_tmp Try.results16 _ _ RB 32 _ (0, 0) _ rfl r9 Try.underlying32 rfl (by kernel_rfl)) rfl ?_
      have hf := S0.out _ hW
      rw [← hsf] at hf ⊢
      exact ⟨ev2, rfl, own_base (own_only hf.core.evs o9 (own_ne hf.core.evs (S1.out _ hW) (by decide))) (Nat.le_trans HN.out.b1 (Nat.le_refl _)), below_only (S2.out _ hW) o9 hRBw⟩
end Go.Proofs.Ytlglilmgklipdaa
