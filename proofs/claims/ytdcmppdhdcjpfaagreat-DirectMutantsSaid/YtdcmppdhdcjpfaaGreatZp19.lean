/- Lemmas for DirectMutantsP. -/
import Derived.Test.YtdcmppdhdcjpfaaGreatZp1
import Derived.Test.YtdcmppdhdcjpfaaGreatZp18
import Derived.Test.YtdcmppdhdcjpfaaGreatZp13
set_option linter.unusedVariables false
set_option linter.unusedSimpArgs false
set_option maxRecDepth 100000
set_option maxHeartbeats 16000000
namespace Go.Proofs.YtdcmppdhdcjpfaaGreat
open Go.RowKit Go.Deep
def JE (p : PgV) (cv : Value) (F : Int) : Array Value := #[.slice p.ba p.body.length p.bcap, cv, .int .i64 F, .int .i64 0, .int .i64 0, .int .i64 0, .slice none 0 0]
def Km (gs : List Nat) (V : List Int) : List Value := (gs.zip V).map fun x => Js x.2 x.1
theorem Abh (gs : List Nat) (V : List Int) (g : Nat) (t : Int) (h : V[gs.length]? = some t) : Km (gs ++ [g]) V = Km gs V ++ [Js t g] := by
 induction gs generalizing V with
 | nil =>
  cases V with
  | nil => simp at h
  | cons b V => simp at h; subst h; simp [Km]
 | cons a gs ih =>
  cases V with
  | nil => simp at h
  | cons b V =>
   simp at h
   have := ih V h
   unfold Km at this ⊢
   simp only [List.cons_append, List.zip_cons_cons, List.map_cons, this]
theorem Aba {gs : List Nat} {V : List Int} {i g : Nat} {t : Int} (h1 : gs[i]? = some g) (h2 : V[i]? = some t) : (Km gs V)[i]? = some (Js t g) := by
 unfold Km
 rw [List.getElem?_map, (List.getElem?_zip_eq_some (z := (g, t))).2 ⟨h1, h2⟩]; rfl
theorem Yy : (Tryz.prog.info? 112).map (fun i => (i.zero, i.size, i.bytes)) = some (some .nilIface, 1, 16) := by kernel_rfl
theorem Acw {w : World} : (zeroValue 3).run Tryz.prog w = .ok (.int .i64 0) w := by kernel_rfl
structure DK (p : PgV) (M Bk : Nat) (F : Int) (args : List Int) (W1 : World) (k : Nat) (W : World) : Prop where
 ex : ∃ cv gs, Row W M 108 (JE p cv F) ∧ gs.length = k ∧ W.ownsRow Bk 112 1 cv k (Km gs p.V) ∧ (∀ (i g : Nat) (t : Int), gs[i]? = some g → p.V[i]? = some t → Row W g 3 (Qg ((Zb p.V args F.toNat).cont i t)).toArray) ∧ (∀ g ∈ gs, Bk ≤ g) ∧ gs.Nodup ∧ ChM M Bk W1 W
structure DK3 (p : PgV) (M Bk : Nat) (F : Int) (cv : Value) (args : List Int) (gs : List Nat) (W1 : World) (W : World) : Prop where
 row : Row W M 108 (JE p cv F)
 cv : W.ownsRow Bk 112 1 cv gs.length (Km gs p.V)
 rows : ∀ (i g : Nat) (t : Int), gs[i]? = some g → p.V[i]? = some t → Row W g 3 (Qg ((Zb p.V args F.toNat).cont i t)).toArray
 ge : ∀ g ∈ gs, Bk ≤ g
 nd : gs.Nodup
 ch : ChM M Bk W1 W
 size : Bk ≤ W.heap.size
section
variable {p : PgV} {M Bk : Nat} {F : Int} {cv : Value} {args : List Int} {gs : List Nat} {W1 W W' : World}
theorem DK3.go (h : DK3 p M Bk F cv args gs W1 W) (b : Below W.heap.size W W') : DK3 p M Bk F cv args gs W1 W' :=
 ⟨h.row.below b h.row.lt, QN h.cv b, fun i g t h1 h2 => (h.rows i g t h1 h2).below b (h.rows i g t h1 h2).lt, h.ge, h.nd, h.ch.trans (.below (b.mono h.size)), Nat.le_trans h.size b.size⟩
theorem DK3.lt (h : DK3 p M Bk F cv args gs W1 W) (hl : gs.length ≤ p.V.length) : ∀ g ∈ gs, g < W.heap.size := by
 intro g hgm
 obtain ⟨i, hil, hi⟩ := List.getElem_of_mem hgm
 have h1 : gs[i]? = some g := by rw [List.getElem?_eq_getElem hil, hi]
 have h2 : p.V[i]? = some (p.V[i]'(by omega)) := List.getElem?_eq_getElem _
 exact (h.rows i g _ h1 h2).lt
theorem DK3.only (h : DK3 p M Bk F cv args gs W1 W) {g : Nat} {t : TypeId} {cs : Array Value} (o : Only g W W') (hg : Row W g t cs) (ht : t ≠ 112) (hM : g ≠ M) (hB : Bk ≤ g) (hn : g ∉ gs) : DK3 p M Bk F cv args gs W1 W' :=
 ⟨h.row.only o (fun e => hM e.symm), Qt h.cv o (fun e => Qu h.cv hg (fun e => ht e.symm) e), fun i g' t' h1 h2 => (h.rows i g' t' h1 h2).only o (fun e => hn (e ▸ List.mem_of_getElem? h1)), h.ge, h.nd,
  h.ch.trans ⟨o.os, o.tape, o.output, Nat.le_of_eq o.size.symm, fun k hk _ => o.block k (by omega)⟩, by rw [o.size]; exact h.size⟩
theorem DK3.more (h : DK3 p M Bk F cv args gs W1 W) {cv' : Value} {g : Nat} {t : Int} {Wa Wb : World} (hl : gs.length ≤ p.V.length) (ht : p.V[gs.length]? = some t) (hg : Row W g 3 (Qg ((Zb p.V args F.toNat).cont gs.length t)).toArray) (hB : Bk ≤ g) (hn : g ∉ gs)
 (hown : Wa.ownsRow Bk 112 1 cv' (gs.length + 1) (Km gs p.V ++ [Js t g])) (hgr : W.grownBy Wa cv.ownBlock) (o : Only M Wa Wb) (hr : Row Wb M 108 (JE p cv' F)) (hMB : M < Bk) : DK p M Bk F args W1 (gs.length + 1) Wb := by
 have r1 : ∀ (i g' : Nat) (t' : Int), (gs ++ [g])[i]? = some g' → p.V[i]? = some t' → Row W g' 3 (Qg ((Zb p.V args F.toNat).cont i t')).toArray ∧ Bk ≤ g' := by
  intro i g' t' h1 h2
  rcases Nat.lt_trichotomy i gs.length with hl | hl | hl
  · rw [List.getElem?_append_left hl] at h1
    exact ⟨h.rows i g' t' h1 h2, h.ge g' (List.mem_of_getElem? h1)⟩
  · subst hl
    rw [List.getElem?_append_right (Nat.le_refl _), Nat.sub_self] at h1
    injection h1 with h1
    subst h1
    rw [ht] at h2
    injection h2 with h2
    subst h2
    exact ⟨hg, hB⟩
  · rw [List.getElem?_append_right (by omega)] at h1
    have := (List.getElem?_eq_some_iff.1 h1).1
    simp at this; omega
 refine ⟨cv', gs ++ [g], hr, by simp, ?_, fun i g' t' h1 h2 => ?_, fun g' hg' => ?_, ?_, ?_⟩
 · rw [Abh gs p.V g t ht]
   exact Qt hown o (fun e => by have := Qz hown e; omega)
 · have := r1 i g' t' h1 h2
   exact (this.1.grown hgr (Qu h.cv this.1 (by decide))).only o (by omega)
 · rcases List.mem_append.1 hg' with hg' | hg'
   · exact h.ge g' hg'
   · rw [List.mem_singleton.1 hg']; exact hB
 · rw [List.nodup_append]
   refine ⟨h.nd, by simp, fun a ha b hb e => ?_⟩
   rw [List.mem_singleton.1 hb] at e
   subst e
   exact hn ha
 · exact (h.ch.trans (.grown hgr h.size (fun k e => Qz h.cv e))).trans (.only o)
end
theorem AdM {V args : List Int} {F k : Nat} {t : Int} (ht : V[k]? = some t) (h0 : Qx t ≠ 0) : (Zb V args F).cont k t = List.replicate (Qx t).toNat 0 := by
 unfold Ms.cont; rw [if_neg h0]; simp [Zb, Up, ht]
theorem Aee {V args : List Int} {F k : Nat} {t : Int} (ht : V[k]? = some t) (h0 : Qx t = 0) : (Zb V args F).cont k t = [args.getD k 0] := by
 unfold Ms.cont; rw [if_pos h0]
 have := (List.getElem?_eq_some_iff.1 ht).1
 simp [Zb, JI, List.getElem?_range this]
theorem Ac9 {p : PgV} {args : List Int} {fuel : Int} {w W1 W : World} {M Bk RB : Nat} {cs : Array Value} (hbl : p.body.length ≤ 1000) (hok : p.ok w) (hf : 0 ≤ fuel ∧ fuel ≤ 10000)
 (hMw : w.heap.size ≤ M) (hMB : M < Bk) (hBk : Bk = W1.heap.size) (b1 : Below w.heap.size w W1) (hK : DK p M Bk fuel args W1 p.V.length W) (hRB : Row W1 RB 40 cs) (hRBM : RB < M) :
 ∃ L : Lay, L.M = M ∧ L.p = p ∧ L.F = fuel.toNat ∧ DOk L ∧ DR L (Zb p.V args fuel.toNat) (.slice none 0 0) W ∧ LNew w.heap.size L ∧ Kept L W RB 40 cs := by
 obtain ⟨cv, gs, r, hgl, hcv, hrows, hge, hnd, hc2⟩ := hK.ex
 have hb1 := b1.size
 have hsz : Bk ≤ W.heap.size := by have := hc2.size; omega
 have hMlt : M < W.heap.size := r.lt
 have hrow : ∀ g ∈ gs, ∃ cs, Row W g 3 cs := by
  intro g hgm
  obtain ⟨i, hil, hi⟩ := List.getElem_of_mem hgm
  exact ⟨_, hrows i g _ (by rw [List.getElem?_eq_getElem hil, hi]) (List.getElem?_eq_getElem (by omega))⟩
 have hglt : ∀ g ∈ gs, g < W.heap.size := fun g hg => by obtain ⟨cs, hr⟩ := hrow g hg; exact hr.lt
 have bW : Below w.heap.size w W := b1.trans (hc2.to_below (by omega) hMw)
 obtain ⟨aa, acap, hava, _⟩ := JM hcv
 let L : Lay := ⟨p, M, none, 0, .slice none 0 0, aa, acap, gs, 0, fuel.toNat, w.heap.size, W.heap.size, fun X => Below w.heap.size w X ∧ X.ownsRow Bk 112 1 cv p.V.length (Km gs p.V)⟩
 have hnew : LNew w.heap.size L := ⟨hMw, by show _ ≤ W.heap.size; omega, fun g e => (by cases e), fun g hg => by have := hge g hg; omega⟩
 have hL : DOk L := by
  refine ⟨⟨fun X X' h c => ⟨h.1.trans (c.new hnew), Y5 h.2 c (fun g e => ?_)⟩, hMlt, fun g e => (by cases e), fun g hg => ⟨hglt g hg, by have := hge g hg; show g ≠ M; omega⟩, hnd, by show fuel.toNat ≤ 20000; omega, hbl, by show w.heap.size ≤ M; omega, by show w.heap.size ≤ W.heap.size; omega⟩, fun X h => hok.go h.1, fun X h i g t hg ht => ?_, hgl, rfl⟩
  · refine ⟨Ju hcv e, by have := Qz hcv e; show g ≠ M; omega, fun e2 => (by cases e2), fun hg => ?_⟩
    obtain ⟨cs, hr⟩ := hrow g hg
    exact Qu hcv hr (by decide) e
  · obtain ⟨aa', c', hav', hra⟩ := JM h.2
    rw [hava] at hav'
    injection hav' with e1 e2 e3
    subst e1
    exact hra i _ (Aba hg ht)
 refine ⟨L, rfl, rfl, rfl, hL, ⟨?_, World.ownsRow_nil _ _ _ _, hrows, ⟨bW, hcv⟩, Nat.le_refl _, Nat.zero_add _, Nat.le_refl _⟩, hnew, hRB.chm hc2 (by omega) (by omega), by show RB ≠ M; omega, fun e => (by cases e), fun hg => by have := hge _ hg; omega⟩
 have hF : ((fuel.toNat : Nat) : Int) = fuel := by omega
 have e : L.dcells (Zb p.V args fuel.toNat) (.slice none 0 0) = JE p cv fuel := by
  rw [hava]
  unfold Lay.dcells JE
  simp only [L, hgl, Zb, hF]
  rfl
 rw [e]; exact r
theorem AfG {L : Lay} {s : Ms} {ev : Value} {k x : Int} {W : World} (h : Row W L.M 108 #[.slice L.p.ba L.p.body.length L.p.bcap, .slice L.aa L.ab.length L.acap, .int .i64 (L.F : Int), .int .i64 k, .int .i64 x, .int .i64 (s.steps : Int), ev]) (j : Nat) (v : Value) (hj : ([.int .i64 k, .int .i64 x, .int .i64 (s.steps : Int), ev] : List Value)[j]? = some v) : W.cell? ((⟨L.M, 3, none⟩ : Addr).add j) = some v := by
 match j, hj with
 | 0, hj => injection hj with hj; subst hj; exact h.cellv (i := 3) rfl
 | 1, hj => injection hj with hj; subst hj; exact h.cellv (i := 4) rfl
 | 2, hj => injection hj with hj; subst hj; exact h.cellv (i := 5) rfl
 | 3, hj => injection hj with hj; subst hj; exact h.cellv (i := 6) rfl
 | j + 4, hj => cases hj
theorem Aeg (p : PgV) (t : Tr) (aa : Option Addr) (acap : Nat) (args : List Int) (fuel v : Int) (s' : Ms) (w : World) (hbl : p.body.length ≤ 1000) (hn : args.length ≤ 1000) (hok : p.ok w) (hra : Rd w aa (Qg args)) (hin : ∀ a ∈ args, InI a) (hg : Good p t) (hgo : okO p.V t) (hso : OkS p.V (Zb p.V args fuel.toNat))
 (hc : QW p args.length fuel = 0) (hbig : Big (.one t) (Zb p.V args fuel.toNat) v s') :
 Calls Tryz.prog 19 #[.agg p.cells, .slice aa args.length acap, .int .i64 fuel] w fun e w' => RunR ⟨s'.stopped 3 0, []⟩ w w' e := by
 obtain ⟨_, _, hlen, hf⟩ := KC hc
 have Hok := Lh hok
 have Hbl := Lh hbl
 have Hra := Lh hra
 have Hin := Lh hin
 have Hg := Lh hg
 have Hc := Lh hc
 have Hbig := Lh hbig
 have Hvars := Lh hg.vars
 have Hlen := Lh hlen
 have Hf := Lh hf
 have Hn := Lh hn
 have Hgo := Lh hgo
 have Hso := Lh hso
 have hVl : p.V.length ≤ 12 := hg.vars.2.2.1
 clear hok hbl hra hlen hf hn hc hg hin hbig hgo hso
 go_enter Tryz.func19, Tryz.ntmps19
 go_wp2_with (refine Qq _ _ rfl ?_)
 refine Stop.to ?_
 refine Qe rfl 25 _ rfl p.cells rfl ?_
 intro G w1 hG r1 b1
 replace b1 := (Below.refl w.heap.size w).trans (b1.mono hG)
 go_wp2_with (refine Qy _ rfl ?_)
 refine Stop.to ?_
 refine Qi rfl 40 rfl _ _ ZE rfl ?_
 intro RB w2 hRB rB b2
 replace r1 := r1.below (b2.mono hRB) r1.lt
 have hRBw : w.heap.size ≤ RB := Nat.le_trans b1.size hRB
 replace b2 := b1.trans ((b2.mono hRB).mono b1.size)
 have R1 := Lh r1
 have RB2 := Lh rB
 have B2 := Lh b2
 clear r1 b1 b2 rB hRB hG w1
 go_wp2_with (refine wpList_load_row rfl 25 _ rfl G rfl 25 p.cells (0, 0) _ R1.out Tryz.underlying25 rfl (by kernel_rfl) ?_)
 refine (JS p aa acap args.length fuel Hbl.out Hn.out w2 (Hok.out.go B2.out)).mono ?_
 rintro e w3 ⟨rfl, b3⟩
 rw [Hc.out]
 have R3 := Lh (R1.out.below b3 R1.out.lt)
 have RB3 := Lh (RB2.out.below b3 RB2.out.lt)
 have B3 := Lh (B2.out.trans (b3.mono B2.out.size))
 clear b3 R1 RB2 B2
 have g2 := R3.out.cellv (i := 2) (v := .slice p.ba p.body.length p.bcap) rfl
 go_wp2_with (refine Yg 108 _ rfl ?_)
 refine Stop.to ?_
 have hbld : ∀ W, (Instr.build 108 #[(0, .slice p.ba p.body.length p.bcap), (2, .int .i64 fuel)]).run Tryz.prog W = .ok (.agg (JE p (.slice none 0 0) fuel)) W := fun W => run_build W _ _ _ (by kernel_rfl)
 refine Xa rfl (.agg (JE p (.slice none 0 0) fuel)) (Ko 108 [_, _] rfl _ (by exact hbld _)) ?_
 clear hbld g2
 go_wp2_with (refine Qq _ _ rfl ?_)
 refine Stop.to ?_
 refine Qe rfl 108 _ rfl (JE p (.slice none 0 0) fuel) rfl ?_
 intro M W1 hM rM b4
 have hMw : w.heap.size ≤ M := Nat.le_trans B3.out.size hM
 have hGM : G < M := Nat.lt_of_lt_of_le R3.out.lt hM
 have hRBM : RB < M := Nat.lt_of_lt_of_le RB3.out.lt hM
 have G1 := Lh (R3.out.below (b4.mono hM) R3.out.lt)
 have RB1 := Lh (RB3.out.below (b4.mono hM) RB3.out.lt)
 have B1 := Lh (B3.out.trans ((b4.mono hM).mono B3.out.size))
 have R1 := Lh rM
 obtain ⟨Bk, hBk⟩ : ∃ Bk, Bk = W1.heap.size := ⟨_, rfl⟩
 have hMB : M < Bk := by rw [hBk]; exact R1.out.lt
 have HBk := Lh hBk
 have g1 := G1.out.cellv (i := 1) (v := .slice p.va p.V.length p.vcap) rfl
 clear hBk b4 rM hM R3 RB3 B3
 go_wp2_with fail
 go_loopw [10, 11, 12, 29] (fun _ _ _ i W => ∃ (k : Nat), i = .int .i64 (k : Int) ∧ k ≤ p.V.length ∧ Hid (DK p M Bk fuel args W1 k W)) (fun _ _ _ i _ => p.V.length - (intOf i).toNat)
 case atStart => exact ⟨0, rfl, Nat.zero_le _, Lh ⟨.slice none 0 0, [], R1.out, rfl, by simpa [Km] using World.ownsRow_nil W1 Bk 112 1, fun i g t h => by simp at h, fun g h => by simp at h, List.nodup_nil, ChM.refl _ _ _⟩⟩
 case round =>
  clear g1
  obtain ⟨k, rfl, hk, hK⟩ := hrel
  by_cases hlt : k < p.V.length
  · obtain ⟨cv, gs, r, rfl, hcv, hrows, hge, hnd, hch⟩ := hK.out
    obtain ⟨t, ht⟩ : ∃ t, p.V[gs.length]? = some t := ⟨_, List.getElem?_eq_getElem hlt⟩
    have hbw : Below w.heap.size w wr := B1.out.trans (hch.to_below (by have := B1.out.size; have := HBk.out; omega) hMw)
    obtain ⟨vd, hvd, cvd⟩ := QR (Hok.out.go hbw).vrd ht
    have hsz1 : Bk ≤ wr.heap.size := by have := hch.size; have := HBk.out; omega
    have hti : InI t := Hok.out.vin t (List.mem_of_getElem? ht)
    have HK3 := Lh (show DK3 p M Bk fuel cv args gs W1 wr from ⟨r, hcv, hrows, hge, hnd, hch, hsz1⟩)
    have hkV : (gs.length : Int) < (p.V.length : Int) := by omega
    have Ht := Lh ht
    obtain ⟨n, hn⟩ : ∃ n : Nat, Qx t = (n : Int) := ⟨(Qx t).toNat, by unfold Qx; split <;> omega⟩
    have hn8 : n ≤ 8 := by unfold Qx at hn; split at hn <;> omega
    have hmk : ∀ W : World, (Instr.makeSlice 22 (.int .i64 (n : Int)) (.int .i64 (n : Int))).run Tryz.prog W = .ok (.slice (some ⟨W.heap.size, 0, none⟩) n n) (W.alloc (.cells (Qg (List.replicate n 0)).toArray 3)) := fun W => by
     have := run_make_row' (P := Tryz.prog) (w := W) 22 3 (.int .i64 0) 8 Tryz.underlying22 Z3 rfl .i64 .i64 n (by omega) (by omega)
     rw [show madeCells #[Value.int .i64 0] n = (Qg (List.replicate n 0)).toArray from by rw [J6]; simp [Qg]] at this
     exact this
    have Hn2 := Lh hn
    have hra := Hra.out.go (hbw.mono (Nat.le_refl _))
    have Hra2 := Lh hra
    clear r hcv hrows hge hnd hch hK ht hbw hn hra
    rw [hvd]
    go_wp2_with fail
    refine (Jn t wr hti).mono ?_
    rintro e we ⟨rfl, rfl⟩
    rw [Hn2.out]
    go_wp2_with fail
    refine (Jn t _ hti).mono ?_
    rintro e we0 ⟨rfl, hwe⟩
    have rn : Row we0 wr.heap.size 3 (Qg (List.replicate n 0)).toArray := by rw [← hwe]; exact Row.new wr _ _
    have bn : Below wr.heap.size wr we0 := by rw [← hwe]; exact (Below.refl _ _).alloc (Nat.le_refl _) _
    have hn1 : wr.heap.size ∉ gs := fun hm => absurd (HK3.out.lt (by omega) _ hm) (Nat.lt_irrefl _)
    have HK4 := Lh (HK3.out.go bn)
    have HG4 := Lh rn
    have Hn1 := Lh hn1
    have g0 : we0.cell? ⟨G, 0, none⟩ = some (.int .i64 p.params) := ((G1.out.chm HK4.out.ch (by omega) (by omega)).cellv (i := 0) rfl)
    have Hra4 := Lh (Hra2.out.go bn)
    have hwl : wr.heap.size < we0.heap.size := rn.lt
    clear rn bn hn1 hwe HK3 Hra2
    by_cases hn0 : n = 0
    · subst hn0
      rw [Hn2.out]
      clear hmk HG4
      go_wp2_with (refine Qy _ rfl ?_)
      refine Stop.to ?_
      refine Qi rfl 3 rfl _ _ Acw rfl ?_
      intro GS w5 hGS rGS bGS
      have bGS' := bGS.mono hGS
      have HK5 := Lh (HK4.out.go bGS')
      have hra5 := Hra4.out.go bGS'
      replace g0 : w5.cell? ⟨G, 0, none⟩ = some (.int .i64 p.params) := ((G1.out.chm HK5.out.ch (by omega) (by omega)).cellv (i := 0) rfl)
      have hgn : GS ∉ gs := fun hm => absurd (HK4.out.lt (by omega) _ hm) (by omega)
      have Hgn := Lh hgn
      have hgB : Bk ≤ GS := Nat.le_trans HK4.out.size hGS
      have hGM' : GS ≠ M := by omega
      have hz0 : Qx t = 0 := by simpa using Hn2.out
      have Hcv : Hid (Js t GS = .iface 115 (.agg #[.pointer (some ⟨GS, 0, none⟩)])) := by show _ = _; unfold Js; rw [if_pos hz0]
      have Hct := Lh (Aee (args := args) (F := fuel.toNat) Ht.out hz0)
      have HG5 := Lh rGS
      have Hra5 := Lh hra5
      clear hz0 HK4 Hra4 hgn bGS bGS' rGS hra5 hwl Hn1 hGS
      have hbld : ∀ W, (Instr.build 115 #[(0, .pointer (some ⟨GS, 0, none⟩))]).run Tryz.prog W = .ok (.agg #[.pointer (some ⟨GS, 0, none⟩)]) W := fun W => run_build W _ _ _ (by kernel_rfl)
      go_wp2_with (refine Yg 115 _ rfl ?_)
      refine Stop.to ?_
      refine Xa rfl (.agg #[.pointer (some ⟨GS, 0, none⟩)]) (Ko 115 [_] rfl _ (by exact hbld _)) ?_
      clear hbld
      by_cases hpk : (gs.length : Int) < p.params
      · have hkl : gs.length < args.length := by have := Hlen.out; omega
        obtain ⟨x, hx⟩ : ∃ x, args[gs.length]? = some x := ⟨_, List.getElem?_eq_getElem hkl⟩
        obtain ⟨ad, rfl, cx⟩ := QR Hra5.out hx
        have hkl' : (gs.length : Int) < (args.length : Int) := by omega
        have Hcx : Hid ([args.getD gs.length 0] = [x]) := by show _ = _; simp [hx]
        have gm := fun (f : Nat) (W : World) => AbY (g := GS) f W
        have Hx := Lh hx
        clear hx
        go_wp2_with fail
        obtain ⟨S, hSd⟩ : ∃ S : World → Prop, S = (fun W => DK3 p M Bk fuel cv args gs W1 W ∧ Row W GS 3 (Qg [0]).toArray ∧ Rd W (some ad) (Qg args)) := ⟨_, rfl⟩
        have stS : St S := by rw [hSd]; exact ⟨fun h b => ⟨h.1.go b, h.2.1.below b h.2.1.lt, h.2.2.go b⟩⟩
        have S0 : Hid (∀ W, S W → DK3 p M Bk fuel cv args gs W1 W) := by show ∀ W, _; rw [hSd]; exact fun W h => h.1
        have S1 : Hid (∀ W, S W → Row W GS 3 (Qg [0]).toArray) := by show ∀ W, _; rw [hSd]; exact fun W h => h.2.1
        have S2 : Hid (∀ W, S W → W.cell? (ad.add gs.length) = some (.int .i64 x)) := by
         show ∀ W, _
         rw [hSd]
         intro W h
         obtain ⟨ad', e, c⟩ := QR h.2.2 Hx.out
         cases e; exact c
        have hS : S w5 := by rw [hSd]; exact ⟨HK5.out, HG5.out, Hra5.out⟩
        clear hSd cx HK5 HG5 Hra5 g0
        refine Zl S 8 (by kernel_rfl) (by kernel_rfl) (St.drew hS) ?_
        clear hS
        simp only [List.take_succ_cons, List.take_zero, List.drop_succ_cons, List.drop_zero]
        iterate 4 (refine Qh rfl ?_ (fun W hW => ?_) ?_; rotate_left; (focus (go_simp; exact rfl)); simp only [Act.put, Qa, Qb, Qc])
        (refine Qh rfl ?_ (fun W hW => ?_) ?_; rotate_left; (focus (have c := S2.out W hW; go_simp; exact rfl)); simp only [Act.put, Qa, Qb, Qc])
        iterate 3 (refine Qh rfl ?_ (fun W hW => ?_) ?_; rotate_left; (focus (go_simp; exact rfl)); simp only [Act.put, Qa, Qb, Qc])
        refine QJ fun w6 hW6 => ?_
        have HK6 := Lh (S0.out w6 hW6)
        have HG6 := Lh (S1.out w6 hW6)
        clear hW6 stS S0 S1 S2
        go_wp2_with fail
        refine (XN GS 0 x 0 w6 HG6.out).mono ?_
        rintro e w8 ⟨rfl, w7, b0, o1, r1⟩
        have HK5 := Lh ((HK6.out.go b0).only o1 (HG6.out.below b0 HG6.out.lt) (by decide) hGM' hgB Hgn.out)
        have HG5 : Hid (Row w8 GS 3 (Qg ((Zb p.V args fuel.toNat).cont gs.length t)).toArray) := by rw [Hct.out, Hcx.out]; exact r1
        clear b0 o1 r1 HK6 HG6 Hcx Hct gm hkl hkl'
        have hJa := HK5.out.go (W' := w8.alloc (.cells #[(.iface 115 (.agg #[.pointer (some ⟨GS, 0, none⟩)]))] 112)) ((Below.refl _ _).alloc (Nat.le_refl _) _)
        have hga := HG5.out.below (w' := w8.alloc (.cells #[(.iface 115 (.agg #[.pointer (some ⟨GS, 0, none⟩)]))] 112)) ((Below.refl _ _).alloc (Nat.le_refl _) _) HG5.out.lt
        have c1 := HK5.out.row.cellv (i := 1) (v := cv) rfl
        have HJa := Lh hJa
        have HGa := Lh hga
        clear hJa hga HK5 HG5
        obtain ⟨i0, hi0, hz0, hz1, hz2⟩ := info_parts Yy
        go_wp2_with (at_builtin; refine Ya ?_)
        refine Stop.to ?_
        refine (wpList_append_own_at _ rfl (.tmp 61) (.tmp 63) 106 rfl Bk 112 i0 .nilIface 1 16 Tryz.underlying106 hi0 hz0 hz1 hz2 rfl (by decide) cv gs.length _ rfl HJa.out.cv ⟨w8.heap.size, 0, none⟩ 1 1 [(.iface 115 (.agg #[.pointer (some ⟨GS, 0, none⟩)]))] rfl rfl (cell_one_new _ _ _) (by simp [Value.oneCell']) (by unfold maxLen; omega) (by omega) HJa.out.size ?_)
        intro cv' W6 hown hgr _ _
        have r6 := HJa.out.row.grown hgr (Qu HJa.out.cv HJa.out.row (by decide))
        have hov := Zk hown
        rw [← Hcv.out] at hown
        have R6 := Lh r6
        have Own6 := Lh hown
        have Gr6 := Lh hgr
        clear r6 hown hgr c1 hi0 hz0 hz1 hz2 i0
        go_wp2_with (refine Ql _ _ _ rfl ?_)
        refine Stop.to ?_
        refine Qk rfl 106 _ _ rfl M 1 rfl _ rfl [cv'] (by cases cv' <;> first | rfl | cases hov) 108 _ (JE p cv' fuel) R6.out (by kernel_rfl) (by show 1 + 1 ≤ 7; omega) (by simpa using hov) rfl ?_
        intro W7 r7 o7
        have hK7 := Lh (HJa.out.more (by omega) Ht.out HGa.out hgB Hgn.out (by simpa using Own6.out) Gr6.out o7 r7 hMB)
        clear r7 o7 hov R6 Own6 Gr6 HJa HGa
        go_wp2_with fail
        go_roundw
        case rel => exact ⟨gs.length + 1, by go_num, by omega, hK7⟩
        case measure => simp [intOf]; omega
      · have Hcx : Hid ([args.getD gs.length 0] = [0]) := by
         show _ = _
         have := Hlen.out
         rw [List.getD_eq_getElem?_getD, List.getElem?_eq_none (by omega)]; rfl
        replace HG5 : Hid (Row w5 GS 3 (Qg ((Zb p.V args fuel.toNat).cont gs.length t)).toArray) := by rw [Hct.out, Hcx.out]; exact HG5.out
        clear Hcx Hct Hra5
        have hJa := HK5.out.go (W' := w5.alloc (.cells #[(.iface 115 (.agg #[.pointer (some ⟨GS, 0, none⟩)]))] 112)) ((Below.refl _ _).alloc (Nat.le_refl _) _)
        have hga := HG5.out.below (w' := w5.alloc (.cells #[(.iface 115 (.agg #[.pointer (some ⟨GS, 0, none⟩)]))] 112)) ((Below.refl _ _).alloc (Nat.le_refl _) _) HG5.out.lt
        have c1 := HK5.out.row.cellv (i := 1) (v := cv) rfl
        have HJa := Lh hJa
        have HGa := Lh hga
        clear hJa hga HK5 HG5
        obtain ⟨i0, hi0, hz0, hz1, hz2⟩ := info_parts Yy
        go_wp2_with (at_builtin; refine Ya ?_)
        refine Stop.to ?_
        refine (wpList_append_own_at _ rfl (.tmp 61) (.tmp 63) 106 rfl Bk 112 i0 .nilIface 1 16 Tryz.underlying106 hi0 hz0 hz1 hz2 rfl (by decide) cv gs.length _ rfl HJa.out.cv ⟨w5.heap.size, 0, none⟩ 1 1 [(.iface 115 (.agg #[.pointer (some ⟨GS, 0, none⟩)]))] rfl rfl (cell_one_new _ _ _) (by simp [Value.oneCell']) (by unfold maxLen; omega) (by omega) HJa.out.size ?_)
        intro cv' W6 hown hgr _ _
        have r6 := HJa.out.row.grown hgr (Qu HJa.out.cv HJa.out.row (by decide))
        have hov := Zk hown
        rw [← Hcv.out] at hown
        have R6 := Lh r6
        have Own6 := Lh hown
        have Gr6 := Lh hgr
        clear r6 hown hgr c1 hi0 hz0 hz1 hz2 i0
        go_wp2_with (refine Ql _ _ _ rfl ?_)
        refine Stop.to ?_
        refine Qk rfl 106 _ _ rfl M 1 rfl _ rfl [cv'] (by cases cv' <;> first | rfl | cases hov) 108 _ (JE p cv' fuel) R6.out (by kernel_rfl) (by show 1 + 1 ≤ 7; omega) (by simpa using hov) rfl ?_
        intro W7 r7 o7
        have hK7 := Lh (HJa.out.more (by omega) Ht.out HGa.out hgB Hgn.out (by simpa using Own6.out) Gr6.out o7 r7 hMB)
        clear r7 o7 hov R6 Own6 Gr6 HJa HGa
        go_wp2_with fail
        go_roundw
        case rel => exact ⟨gs.length + 1, by go_num, by omega, hK7⟩
        case measure => simp [intOf]; omega
    · have e0 : ((n : Int) == 0) = false := by simp; omega
      rw [Hn2.out]
      have hpk : ¬ ((gs.length : Int) < p.params) := by
       have := Hvars.out.2.2.2 gs.length hlt
       rw [List.getD_eq_getElem?_getD, Ht.out] at this
       simp only [Option.getD_some, Xe, decide_eq_true_eq] at this
       rcases this with h | h
       · subst h; have := Hn2.out; simp [Qx] at this; omega
       · omega
      have hz : Qx t ≠ 0 := by rw [Hn2.out]; omega
      have Hcv : Hid (Js t wr.heap.size = .iface 109 (.slice (some ⟨wr.heap.size, 0, none⟩) n n)) := by
       show _ = _
       unfold Js; rw [if_neg hz, Hn2.out, Int.toNat_natCast]
      have HG5 : Hid (Row we0 wr.heap.size 3 (Qg ((Zb p.V args fuel.toNat).cont gs.length t)).toArray) := by
       show Row _ _ _ _
       rw [AdM Ht.out hz, Hn2.out, Int.toNat_natCast]; exact HG4.out
      have HK5 := Lh HK4.out
      clear hz HG4 HK4 Hra4 hmk
      obtain ⟨GS, hGS⟩ : ∃ GS, wr.heap.size = GS := ⟨_, rfl⟩
      rw [hGS] at Hcv HG5 Hn1 hsz1 ⊢
      clear hGS
      have hJa := HK5.out.go (W' := we0.alloc (.cells #[(.iface 109 (.slice (some ⟨GS, 0, none⟩) n n))] 112)) ((Below.refl _ _).alloc (Nat.le_refl _) _)
      have hga := HG5.out.below (w' := we0.alloc (.cells #[(.iface 109 (.slice (some ⟨GS, 0, none⟩) n n))] 112)) ((Below.refl _ _).alloc (Nat.le_refl _) _) HG5.out.lt
      have c1 := HK5.out.row.cellv (i := 1) (v := cv) rfl
      have HJa := Lh hJa
      have HGa := Lh hga
      clear hJa hga HK5 HG5
      obtain ⟨i0, hi0, hz0, hz1, hz2⟩ := info_parts Yy
      go_wp2_with (at_builtin; refine Ya ?_)
      refine Stop.to ?_
      refine (wpList_append_own_at _ rfl (.tmp 61) (.tmp 63) 106 rfl Bk 112 i0 .nilIface 1 16 Tryz.underlying106 hi0 hz0 hz1 hz2 rfl (by decide) cv gs.length _ rfl HJa.out.cv ⟨we0.heap.size, 0, none⟩ 1 1 [(.iface 109 (.slice (some ⟨GS, 0, none⟩) n n))] rfl rfl (cell_one_new _ _ _) (by simp [Value.oneCell']) (by unfold maxLen; omega) (by omega) HJa.out.size ?_)
      intro cv' W6 hown hgr _ _
      have r6 := HJa.out.row.grown hgr (Qu HJa.out.cv HJa.out.row (by decide))
      have hov := Zk hown
      rw [← Hcv.out] at hown
      have R6 := Lh r6
      have Own6 := Lh hown
      have Gr6 := Lh hgr
      clear r6 hown hgr c1 hi0 hz0 hz1 hz2 i0
      go_wp2_with (refine Ql _ _ _ rfl ?_)
      refine Stop.to ?_
      refine Qk rfl 106 _ _ rfl M 1 rfl _ rfl [cv'] (by cases cv' <;> first | rfl | cases hov) 108 _ (JE p cv' fuel) R6.out (by kernel_rfl) (by show 1 + 1 ≤ 7; omega) (by simpa using hov) rfl ?_
      intro W7 r7 o7
      have hK7 := Lh (HJa.out.more (by omega) Ht.out HGa.out hsz1 Hn1.out (by simpa using Own6.out) Gr6.out o7 r7 hMB)
      clear r7 o7 hov R6 Own6 Gr6 HJa HGa
      go_wp2_with fail
      go_roundw
      case rel => exact ⟨gs.length + 1, by go_num, by omega, hK7⟩
      case measure => simp [intOf]; omega
  · obtain rfl : k = p.V.length := by omega
    obtain ⟨L, hLM, hLp, hLF, hL, hR, hN, hRB⟩ := Ac9 Hbl.out Hok.out Hf.out hMw hMB HBk.out B1.out hK.out RB1.out hRBM
    have HL := Lh hL
    have HR := Lh hR
    have HN := Lh hN
    have HRB := Lh hRB
    have BW := Lh (B1.out.trans ((show ChM M Bk W1 wr from by obtain ⟨_, _, _, _, _, _, _, _, hch⟩ := hK.out.ex; exact hch).to_below (by have := B1.out.size; have := HBk.out; omega) hMw))
    subst hLM
    subst hLp
    clear hlt hk hK hL hR hN hRB hLF
    have hE := (Big.dir L HL.out Hbig.out Hgo.out Hso.out (by simp [Zb]) rfl).1
    have Hw := Lh (AcH L HL.out t _ s' v _ wr HR.out Hg.out.hat hE)
    clear hE
    go_wp2_with fail
    refine Hw.out.mono ?_
    rintro e W2 ⟨he, ev2, hm2, hc2⟩
    have hrb := HRB.out.go hc2
    have hb4 := hc2.new HN.out BW.out.size
    have hst : (s'.stopped 3 0).steps = s'.steps := by unfold Ms.stopped; split <;> rfl
    have hev : (s'.stopped 3 0).evs = s'.evs := by unfold Ms.stopped; split <;> rfl
    obtain ⟨sf, hsf⟩ : ∃ sf, s'.stopped 3 0 = sf := ⟨_, rfl⟩
    rw [hsf] at hst hev he
    subst he
    have Hst := Lh hst
    have Hsf := Lh hsf
    clear hsf
    have Hev := Lh hev
    have Hov := Lh (Zk hm2.evs)
    have Hm2 := Lh hm2
    have HRB2 := Lh hrb
    have HB2 := Lh (BW.out.trans hb4)
    clear hst hev hm2 hrb hb4 hc2 Hw
    go_wp2_with (refine Ql _ _ _ rfl ?_)
    refine Stop.to ?_
    refine Qk rfl 37 _ _ rfl L.M 3 rfl _ rfl [.int .i64 (sf.out.getD (0, 0)).1, .int .i64 (sf.out.getD (0, 0)).2] rfl 108 _ #[.slice L.p.ba L.p.body.length L.p.bcap, .slice L.aa L.ab.length L.acap, .int .i64 (L.F : Int), .int .i64 (sf.out.getD (0, 0)).1, .int .i64 (sf.out.getD (0, 0)).2, .int .i64 (s'.steps : Int), ev2] Hm2.out.row (by kernel_rfl) (by show 3 + 2 ≤ 7; omega) (by simp [Value.oneCell']) rfl ?_
    intro W7 r7 o7
    have R7 := Lh r7
    have RB7 := Lh (HRB2.out.only o7 HRB.out.m)
    have Own7 := Lh (Qt Hm2.out.evs o7 (fun e => by have := Qz Hm2.out.evs e; have := HL.out.lt; omega))
    have B7 := Lh (Qv HB2.out o7 HN.out.m)
    clear r7 o7 HRB2 HB2 Hm2
    go_wp2_with (first
     | (refine Qo rfl 40 _ rfl ⟨L.M, 3, none⟩ rfl [.int .i64 (sf.out.getD (0, 0)).1, .int .i64 (sf.out.getD (0, 0)).2, .int .i64 (s'.steps : Int), ev2] _ (AfG R7.out) Tryz.underlying40 rfl (by kernel_rfl) ?_)
     | (refine Ql _ _ _ rfl ?_))
    refine Stop.to ?_
    refine Qj rfl 40 _ _ rfl RB #[.int .i64 (sf.out.getD (0, 0)).1, .int .i64 (sf.out.getD (0, 0)).2, .int .i64 (s'.steps : Int), ev2] rfl rfl 40 _ RB7.out (by kernel_rfl) rfl (JW _ _ _ Hov.out) ?_
    intro W9 r9 o9
    go_wp2_with fail
    refine bodyPost_ret (QY Tryz.results19 _ _ RB 40 _ (0, 0) _ rfl r9 Tryz.underlying40 rfl (by kernel_rfl)) rfl ?_
    rw [Hsf.out, ← Hst.out]
    refine ⟨ev2, rfl, ?_, Qv B7.out o9 hRBw⟩
    show W9.ownsRow w.heap.size 189 3 ev2 sf.evs.length (sf.evs.flatMap EvV.cells)
    rw [Hev.out]
    exact QH (Qt Own7.out o9 (Qu Own7.out RB7.out (by decide))) HN.out.b1
theorem Aak (p : PgV) (aa : Option Addr) (acap n : Nat) (fuel : Int) (w : World) (hbl : p.body.length ≤ 1000) (hn : n ≤ 1000) (hok : p.ok w) (hc : QW p n fuel ≠ 0) :
 Calls Tryz.prog 19 #[.agg p.cells, .slice aa n acap, .int .i64 fuel] w fun e w' => e = .returned (.tuple #[.agg #[.int .i64 0, .int .i64 0, .int .i64 0, .slice none 0 0], .int .i64 (QW p n fuel)]) ∧ Below w.heap.size w w' := by
 have Hok := Lh hok
 have Hbl := Lh hbl
 have Hn := Lh hn
 obtain ⟨cz, hcz⟩ : ∃ cz, QW p n fuel = cz := ⟨_, rfl⟩
 have Hcz := Lh hcz
 rw [hcz] at hc ⊢
 have ec : (cz == 0) = false := by simpa using hc
 clear hok hbl hn hcz hc
 go_enter Tryz.func19, Tryz.ntmps19
 go_wp2_with (refine Qq _ _ rfl ?_)
 refine Stop.to ?_
 refine Qe rfl 25 _ rfl p.cells rfl ?_
 intro G w1 hG r1 b1
 replace b1 := (Below.refl w.heap.size w).trans (b1.mono hG)
 clear hG
 go_wp2_with (refine Qy _ rfl ?_)
 refine Stop.to ?_
 refine Qi rfl 40 rfl _ _ ZE rfl ?_
 intro RB w2 hRB rB b2
 replace r1 := r1.below (b2.mono hRB) r1.lt
 have hRBw : w.heap.size ≤ RB := Nat.le_trans b1.size hRB
 replace b2 := b1.trans ((b2.mono hRB).mono b1.size)
 have R1 := Lh r1
 have RB2 := Lh rB
 have B2 := Lh b2
 clear r1 b1 b2 rB hRB
 go_wp2_with (refine wpList_load_row rfl 25 _ rfl G rfl 25 p.cells (0, 0) _ R1.out Tryz.underlying25 rfl (by kernel_rfl) ?_)
 refine (JS p aa acap n fuel Hbl.out Hn.out w2 (Hok.out.go B2.out)).mono ?_
 rintro e w3 ⟨rfl, b3⟩
 rw [Hcz.out]
 have RB3 := Lh (RB2.out.below b3 RB2.out.lt)
 have B3 := Lh (B2.out.trans (b3.mono B2.out.size))
 clear b3 R1 RB2 B2
 go_wp2_with (refine Ql _ _ _ rfl ?_)
 refine Stop.to ?_
 refine Qj rfl 40 _ _ rfl RB #[.int .i64 0, .int .i64 0, .int .i64 0, .slice none 0 0] rfl rfl 40 _ RB3.out (by kernel_rfl) rfl (JW 0 0 0 rfl) ?_
 intro W9 r9 o9
 go_wp2_with fail
 refine bodyPost_ret (QY Tryz.results19 _ _ RB 40 _ (0, 0) _ rfl r9 Tryz.underlying40 rfl (by kernel_rfl)) rfl ?_
 exact ⟨rfl, Qv B3.out o9 hRBw⟩
theorem VH (p : PgV) (aa : Option Addr) (acap : Nat) (args : List Int) (fuel : Int) (w : World) (hbl : p.body.length ≤ 1000) (hn : args.length ≤ 1000) (hok : p.ok w) (hra : Rd w aa (Qg args)) (hin : ∀ a ∈ args, InI a) :
 Calls Tryz.prog 19 #[.agg p.cells, .slice aa args.length acap, .int .i64 fuel] w fun e w' => RunA (ZB p args fuel) (QW p args.length fuel) w w' e := by
 by_cases hc : QW p args.length fuel = 0
 · obtain ⟨t, v, s', hk⟩ := EO hok hin hc
   refine (Aeg p t aa acap args fuel v s' w hbl hn hok hra hin hk.good hk.okO hk.init hc hk.big).mono fun e w' h => ?_
   rw [hk.eq, hc]
   exact h.a
 · exact (Aak p aa acap args.length fuel w hbl hn hok hc).mono fun e w' h => .bad hc h
def AfB (s : Ms) : Value := .agg #[.int .i64 (s.out.getD (0, 0)).1, .int .i64 (s.out.getD (0, 0)).2]
theorem AaF (p : PgV) (aa : Option Addr) (acap : Nat) (args : List Int) (fuel : Int) (w : World) (hbl : p.body.length ≤ 1000) (hn : args.length ≤ 1000) (hok : p.ok w) (hra : Rd w aa (Qg args)) (hin : ∀ a ∈ args, InI a) :
 Calls Tryz.prog 34 #[.agg p.cells, .slice aa args.length acap, .int .i64 fuel] w fun e w' => e = .returned (AfB (ZB p args fuel)) ∧ Below w.heap.size w w' := by
 by_cases hc : QW p args.length fuel = 0
 · have ec : (QW p args.length fuel == 0) = true := by simpa using hc
   have Hc := Lh hc
   clear hc ec
   have Hok := Lh hok
   have Hbl := Lh hbl
   have Hn := Lh hn
   have Hra := Lh hra
   have Hin := Lh hin
   clear hok hbl hn hra hin
   go_enter Tryz.func34, Tryz.ntmps34
   go_wp2_with (refine Qq _ _ rfl ?_)
   refine Stop.to ?_
   refine Qe rfl 25 _ rfl p.cells rfl ?_
   intro G w1 hG r1 b1
   replace b1 := (Below.refl w.heap.size w).trans (b1.mono hG)
   clear hG
   go_wp2_with (refine Qy _ rfl ?_)
   refine Stop.to ?_
   refine Qi rfl 37 rfl _ _ YE rfl ?_
   intro RB w2 hRB rB b2
   replace r1 := r1.below (b2.mono hRB) r1.lt
   have hRBw : w.heap.size ≤ RB := Nat.le_trans b1.size hRB
   replace b2 := b1.trans ((b2.mono hRB).mono b1.size)
   have R1 := Lh r1
   have RB2 := Lh rB
   have B2 := Lh b2
   clear r1 b1 b2 rB hRB
   go_wp2_with (refine wpList_load_row rfl 25 _ rfl G rfl 25 p.cells (0, 0) _ R1.out Tryz.underlying25 rfl (by kernel_rfl) ?_)
   refine (VH p aa acap args fuel w2 Hbl.out Hn.out (Hok.out.go B2.out) (Hra.out.go B2.out) Hin.out).mono ?_
   rintro e w3 ⟨A, cap, rfl, _, _, _, _, b3⟩
   obtain ⟨s, hs⟩ : ∃ s, ZB p args fuel = s := ⟨_, rfl⟩
   have Hs := Lh hs
   rw [hs]
   have RB3 := Lh (RB2.out.below b3 RB2.out.lt)
   have B3 := Lh (B2.out.trans (b3.mono B2.out.size))
   clear b3 R1 RB2 B2 hs
   go_wp2_with (refine Qy _ rfl ?_)
   refine Stop.to ?_
   refine Qi rfl 40 rfl _ _ ZE rfl ?_
   intro T w4 hT rT b4
   have RB4 := Lh (RB3.out.below (b4.mono hT) RB3.out.lt)
   have B4 := Lh (B3.out.trans ((b4.mono hT).mono B3.out.size))
   have hTR : RB < T := Nat.lt_of_lt_of_le RB3.out.lt hT
   have hTw : w.heap.size ≤ T := by omega
   clear RB3 B3 b4 hT
   go_wp2_with (refine Ql _ _ _ rfl ?_)
   refine Stop.to ?_
   refine Qj rfl 40 _ _ rfl T #[.int .i64 (s.out.getD (0, 0)).1, .int .i64 (s.out.getD (0, 0)).2, .int .i64 (s.steps : Int), .slice A s.evs.length cap] rfl rfl 40 _ rT (by kernel_rfl) rfl (JW _ _ _ rfl) ?_
   intro w5 r5 o5
   have RB5 := Lh (RB4.out.only o5 (by omega))
   have B5 := Lh (Qv B4.out o5 hTw)
   have R5 := Lh r5
   clear RB4 B4 r5 o5 rT
   rw [Hc.out]
   go_wp2_with (first
    | (refine Qo rfl 37 _ rfl ⟨T, 0, none⟩ rfl [.int .i64 (s.out.getD (0, 0)).1, .int .i64 (s.out.getD (0, 0)).2] _ (R5.out.from_ 0 (fun j v hj => by match j, hj with | 0, hj => injection hj with hj; subst hj; rfl | 1, hj => injection hj with hj; subst hj; rfl | j + 2, hj => cases hj)) Tryz.underlying37 rfl (by kernel_rfl) ?_)
    | (refine Ql _ _ _ rfl ?_))
   refine Stop.to ?_
   refine Qj rfl 37 _ _ rfl RB #[.int .i64 (s.out.getD (0, 0)).1, .int .i64 (s.out.getD (0, 0)).2] rfl rfl 37 _ RB5.out (by kernel_rfl) rfl (by simp [Value.oneCell']) ?_
   intro W9 r9 o9
   go_wp2_with fail
   refine bodyPost_ret (results_cell_row Tryz.results34 _ _ RB 37 _ (0, 0) _ rfl r9 Tryz.underlying37 rfl (by kernel_rfl)) rfl ?_
   exact ⟨by rw [Hs.out]; rfl, Qv B5.out o9 hRBw⟩
 · have ec : (QW p args.length fuel == 0) = false := by simpa using hc
   have Hz := Lh (Ec hc)
   clear hc
   have Hok := Lh hok
   have Hbl := Lh hbl
   have Hn := Lh hn
   have Hra := Lh hra
   have Hin := Lh hin
   clear hok hbl hn hra hin
   go_enter Tryz.func34, Tryz.ntmps34
   go_wp2_with (refine Qq _ _ rfl ?_)
   refine Stop.to ?_
   refine Qe rfl 25 _ rfl p.cells rfl ?_
   intro G w1 hG r1 b1
   replace b1 := (Below.refl w.heap.size w).trans (b1.mono hG)
   clear hG
   go_wp2_with (refine Qy _ rfl ?_)
   refine Stop.to ?_
   refine Qi rfl 37 rfl _ _ YE rfl ?_
   intro RB w2 hRB rB b2
   replace r1 := r1.below (b2.mono hRB) r1.lt
   have hRBw : w.heap.size ≤ RB := Nat.le_trans b1.size hRB
   replace b2 := b1.trans ((b2.mono hRB).mono b1.size)
   have R1 := Lh r1
   have RB2 := Lh rB
   have B2 := Lh b2
   clear r1 b1 b2 rB hRB
   go_wp2_with (refine wpList_load_row rfl 25 _ rfl G rfl 25 p.cells (0, 0) _ R1.out Tryz.underlying25 rfl (by kernel_rfl) ?_)
   refine (VH p aa acap args fuel w2 Hbl.out Hn.out (Hok.out.go B2.out) (Hra.out.go B2.out) Hin.out).mono ?_
   rintro e w3 ⟨A, cap, rfl, _, _, _, _, b3⟩
   obtain ⟨s, hs⟩ : ∃ s, ZB p args fuel = s := ⟨_, rfl⟩
   have Hs := Lh hs
   rw [hs]
   have RB3 := Lh (RB2.out.below b3 RB2.out.lt)
   have B3 := Lh (B2.out.trans (b3.mono B2.out.size))
   clear b3 R1 RB2 B2 hs
   go_wp2_with (refine Qy _ rfl ?_)
   refine Stop.to ?_
   refine Qi rfl 40 rfl _ _ ZE rfl ?_
   intro T w4 hT rT b4
   have RB4 := Lh (RB3.out.below (b4.mono hT) RB3.out.lt)
   have B4 := Lh (B3.out.trans ((b4.mono hT).mono B3.out.size))
   have hTR : RB < T := Nat.lt_of_lt_of_le RB3.out.lt hT
   have hTw : w.heap.size ≤ T := by omega
   clear RB3 B3 b4 hT
   go_wp2_with (refine Ql _ _ _ rfl ?_)
   refine Stop.to ?_
   refine Qj rfl 40 _ _ rfl T #[.int .i64 (s.out.getD (0, 0)).1, .int .i64 (s.out.getD (0, 0)).2, .int .i64 (s.steps : Int), .slice A s.evs.length cap] rfl rfl 40 _ rT (by kernel_rfl) rfl (JW _ _ _ rfl) ?_
   intro w5 r5 o5
   have RB5 := Lh (RB4.out.only o5 (by omega))
   have B5 := Lh (Qv B4.out o5 hTw)
   have R5 := Lh r5
   clear RB4 B4 r5 o5 rT
   go_wp2_with (refine Ql _ _ _ rfl ?_)
   refine Stop.to ?_
   refine Qj rfl 37 _ _ rfl RB #[.int .i64 0, .int .i64 0] rfl rfl 37 _ RB5.out (by kernel_rfl) rfl (by simp [Value.oneCell']) ?_
   intro W9 r9 o9
   go_wp2_with fail
   refine bodyPost_ret (results_cell_row Tryz.results34 _ _ RB 37 _ (0, 0) _ rfl r9 Tryz.underlying37 rfl (by kernel_rfl)) rfl ?_
   exact ⟨by rw [Hz.out]; rfl, Qv B5.out o9 hRBw⟩
end Go.Proofs.YtdcmppdhdcjpfaaGreat
