/- Lemmas for VerdictJustP. -/
import Derived.Test.YtdcmppdhdcjpfaaGreatZy1
import Derived.Test.YtdcmppdhdcjpfaaGreatZy38
import Derived.Test.YtdcmppdhdcjpfaaGreatZy39
import Derived.Test.YtdcmppdhdcjpfaaGreatZy28
set_option linter.unusedVariables false
set_option linter.unusedSimpArgs false
set_option maxRecDepth 100000
set_option maxHeartbeats 16000000
namespace Go.Proofs.YtdcmppdhdcjpfaaGreat
open Go.RowKit Go.Deep
def JU (p : PgV) (cv : Value) (F : Int) : Array Value := #[.slice p.ba p.body.length p.bcap, cv, .int .i64 F, .int .i64 0, .int .i64 0, .int .i64 0, .slice none 0 0]
def K5 (gs : List Nat) (V : List Int) : List Value := (gs.zip V).map fun x => Jy x.2 x.1
theorem Ad5 (gs : List Nat) (V : List Int) (g : Nat) (t : Int) (h : V[gs.length]? = some t) : K5 (gs ++ [g]) V = K5 gs V ++ [Jy t g] := by
 induction gs generalizing V with
 | nil =>
  cases V with
  | nil => simp at h
  | cons b V => simp at h; subst h; simp [K5]
 | cons a gs ih =>
  cases V with
  | nil => simp at h
  | cons b V =>
   simp at h;have := ih V h;unfold K5 at this ⊢;simp only [Lk, List.zip_cons_cons, LE, this]
theorem Ad6 {gs : List Nat} {V : List Int} {i g : Nat} {t : Int} (h1 : gs[i]? = some g) (h2 : V[i]? = some t) : (K5 gs V)[i]? = some (Jy t g) := by
 unfold K5;rw [L8, (List.getElem?_zip_eq_some (z := (g, t))).2 ⟨h1, h2⟩]; rfl
theorem US : (Tryz.prog.info? 112).map (fun i => (i.zero, i.size, i.bytes)) = some (some .nilIface, 1, 16) := by kernel_rfl
theorem AgL {w : World} : (zeroValue 3).run Tryz.prog w = .ok (.int .i64 0) w := by kernel_rfl
structure DK (p : PgV) (M Bk : Nat) (F : Int) (args : List Int) (W1 : World) (k : Nat) (W : World) : Prop where
 ex : ∃ cv gs, Row W M 108 (JU p cv F) ∧ gs.length = k ∧ W.ownsRow Bk 112 1 cv k (K5 gs p.V) ∧ (∀ (i g : Nat) (t : Int), gs[i]? = some g → p.V[i]? = some t → Row W g 3 (Qi ((Zd p.V args F.toNat).cont i t)).toArray) ∧ (∀ g ∈ gs, Bk ≤ g) ∧ gs.Nodup ∧ ChM M Bk W1 W
structure DK3 (p : PgV) (M Bk : Nat) (F : Int) (cv : Value) (args : List Int) (gs : List Nat) (W1 : World) (W : World) : Prop where
 row : Row W M 108 (JU p cv F)
 cv : W.ownsRow Bk 112 1 cv gs.length (K5 gs p.V)
 rows : ∀ (i g : Nat) (t : Int), gs[i]? = some g → p.V[i]? = some t → Row W g 3 (Qi ((Zd p.V args F.toNat).cont i t)).toArray
 ge : ∀ g ∈ gs, Bk ≤ g
 nd : gs.Nodup
 ch : ChM M Bk W1 W
 size : Bk ≤ W.heap.size
section
variable {p : PgV} {M Bk : Nat} {F : Int} {cv : Value} {args : List Int} {gs : List Nat} {W1 W W' : World}
theorem DK3.go (h : DK3 p M Bk F cv args gs W1 W) (b : Below W.heap.size W W') : DK3 p M Bk F cv args gs W1 W' :=
 ⟨h.row.below b h.row.lt, QB h.cv b, fun i g t h1 h2 => (h.rows i g t h1 h2).below b (h.rows i g t h1 h2).lt, h.ge, h.nd, h.ch.trans (.below (b.mono h.size)), Le h.size b.size⟩
theorem DK3.lt (h : DK3 p M Bk F cv args gs W1 W) (hl : gs.length ≤ p.V.length) : ∀ g ∈ gs, g < W.heap.size := by
 intro g c;obtain ⟨i, d, hi⟩ := Ng c;have e : gs[i]? = some g := by rw [Lb d, hi]
 have j : p.V[i]? = some (p.V[i]'(by omega)) := Lb _;exact (h.rows i g _ e j).lt
theorem DK3.only (h : DK3 p M Bk F cv args gs W1 W) {g : Nat} {t : TypeId} {cs : Array Value} (o : Only g W W') (hg : Row W g t cs) (ht : t ≠ 112) (hM : g ≠ M) (hB : Bk ≤ g) (hn : g ∉ gs) : DK3 p M Bk F cv args gs W1 W' :=
 ⟨h.row.only o (fun e => hM e.symm), Qu h.cv o (fun e => Qz h.cv hg (fun e => ht e.symm) e), fun i g' t' h1 h2 => (h.rows i g' t' h1 h2).only o (fun e => hn (e ▸ Lg h1)), h.ge, h.nd,
  h.ch.trans ⟨o.os, o.tape, o.output, LA o.size.symm, fun k hk _ => o.block k (by omega)⟩, by rw [o.size]; exact h.size⟩
theorem DK3.more (h : DK3 p M Bk F cv args gs W1 W) {cv' : Value} {g : Nat} {t : Int} {Wa Wb : World} (hl : gs.length ≤ p.V.length) (ht : p.V[gs.length]? = some t) (hg : Row W g 3 (Qi ((Zd p.V args F.toNat).cont gs.length t)).toArray) (hB : Bk ≤ g) (hn : g ∉ gs)
 (hown : Wa.ownsRow Bk 112 1 cv' (gs.length + 1) (K5 gs p.V ++ [Jy t g])) (hgr : W.grownBy Wa cv.ownBlock) (o : Only M Wa Wb) (hr : Row Wb M 108 (JU p cv' F)) (hMB : M < Bk) : DK p M Bk F args W1 (gs.length + 1) Wb := by
 have r : ∀ (i j : Nat) (m : Int), (gs ++ [g])[i]? = some j → p.V[i]? = some m → Row W j 3 (Qi ((Zd p.V args F.toNat).cont i m)).toArray ∧ Bk ≤ j := by
  intro i j m c l;rcases LT i gs.length with hl | hl | hl
  · rw [Ly hl] at c;exact ⟨h.rows i j m c l, h.ge j (Lg c)⟩
  · subst hl;rw [Lu (Nat.le_refl _), Nu] at c;injection c with c;subst c;rw [ht] at l;injection l with l;subst l;exact ⟨hg, hB⟩
  · rw [Lu (by omega)] at c;have := (La.1 c).1;simp at this; omega
 refine ⟨cv', gs ++ [g], hr, by simp, ?_, fun i j m c l => ?_, fun j d => ?_, ?_, ?_⟩
 · rw [Ad5 gs p.V g t ht];exact Qu hown o (fun e => by have := QC hown e; omega)
 · have := r i j m c l;exact (this.1.grown hgr (Qz h.cv this.1 (by decide))).only o (by omega)
 · rcases L3.1 d with d | d
   · exact h.ge j d
   · rw [Ls.1 d]; exact hB
 · rw [List.nodup_append];refine ⟨h.nd, by simp, fun a n b q e => ?_⟩;rw [Ls.1 q] at e;subst e;exact hn n
 · exact (h.ch.trans (.grown hgr h.size (fun k e => QC h.cv e))).trans (.only o)
end
theorem Ag2 {V args : List Int} {F k : Nat} {t : Int} (ht : V[k]? = some t) (h0 : Qy t ≠ 0) : (Zd V args F).cont k t = List.replicate (Qy t).toNat 0 := by
 unfold Ms.cont; rw [if_neg h0]; simp [Zd, VO, ht]
theorem Ag1 {V args : List Int} {F k : Nat} {t : Int} (ht : V[k]? = some t) (h0 : Qy t = 0) : (Zd V args F).cont k t = [args.getD k 0] := by
 unfold Ms.cont; rw [if_pos h0];have := (La.1 ht).1;simp [Zd, Ka, List.getElem?_range this]
theorem AfV {p : PgV} {args : List Int} {fuel : Int} {w W1 W : World} {M Bk RB : Nat} {cs : Array Value} (hbl : p.body.length ≤ 1000) (hok : p.ok w) (hf : 0 ≤ fuel ∧ fuel ≤ 10000)
 (hMw : w.heap.size ≤ M) (hMB : M < Bk) (hBk : Bk = W1.heap.size) (b1 : Below w.heap.size w W1) (hK : DK p M Bk fuel args W1 p.V.length W) (hRB : Row W1 RB 40 cs) (hRBM : RB < M) :
 ∃ L : Lay, L.M = M ∧ L.p = p ∧ L.F = fuel.toNat ∧ DOk L ∧ DR L (Zd p.V args fuel.toNat) (.slice none 0 0) W ∧ LNew w.heap.size L ∧ Kept L W RB 40 cs := by
 obtain ⟨cv, z, r, x, j, k, s, ad, q⟩ := hK.ex;have ag := b1.size;have ah : Bk ≤ W.heap.size := by have := q.size; omega
 have v : M < W.heap.size := r.lt
 have o : ∀ g ∈ z, ∃ cs, Row W g 3 cs := by
  intro g ab;obtain ⟨i, ac, hi⟩ := Ng ab;exact ⟨_, k i g _ (by rw [Lb ac, hi]) (Lb (by omega))⟩
 have y : ∀ g ∈ z, g < W.heap.size := fun g d => by obtain ⟨cs, hr⟩ := o g d; exact hr.lt
 have bW : Below w.heap.size w W := b1.trans (q.to_below (by omega) hMw);obtain ⟨aa, u, m, _⟩ := Kk j;let L : Lay := ⟨p, M, none, 0, .slice none 0 0, aa, u, z, 0, fuel.toNat, w.heap.size, W.heap.size, fun X => Below w.heap.size w X ∧ X.ownsRow Bk 112 1 cv p.V.length (K5 z p.V)⟩;have n : LNew w.heap.size L := ⟨hMw, by show _ ≤ W.heap.size; omega, fun g e => (by cases e), fun g d => by have := s g d; omega⟩
 have hL : DOk L := by
  refine ⟨⟨fun X X' h c => ⟨h.1.trans (c.new n), VF h.2 c (fun g e => ?_)⟩, v, fun g e => (by cases e), fun g d => ⟨y g d, by have := s g d; show g ≠ M; omega⟩, ad, by show fuel.toNat ≤ 20000; omega, hbl, by show w.heap.size ≤ M; omega, by show w.heap.size ≤ W.heap.size; omega⟩, fun X h => hok.go h.1, fun X h i g t d ht => ?_, x, rfl⟩
  · refine ⟨X3 j e, by have := QC j e; show g ≠ M; omega, fun e2 => (by cases e2), fun d => ?_⟩;obtain ⟨cs, hr⟩ := o g d;exact Qz j hr (by decide) e
  · obtain ⟨af, c', l, ae⟩ := Kk h.2;rw [m] at l;injection l with e1 e2 e3;subst e1;exact ae i _ (Ad6 d ht)
 refine ⟨L, rfl, rfl, rfl, hL, ⟨?_, World.ownsRow_nil _ _ _ _, k, ⟨bW, j⟩, Nat.le_refl _, LJ _, Nat.le_refl _⟩, n, hRB.chm q (by omega) (by omega), by show RB ≠ M; omega, fun e => (by cases e), fun d => by have := s _ d; omega⟩;have hF : ((fuel.toNat : Nat) : Int) = fuel := by omega
 have e : L.dcells (Zd p.V args fuel.toNat) (.slice none 0 0) = JU p cv fuel := by
  rw [m];unfold Lay.dcells JU;simp only [L, x, Zd, hF];rfl
 rw [e]; exact r
theorem Aj1 {L : Lay} {s : Ms} {ev : Value} {k x : Int} {W : World} (h : Row W L.M 108 #[.slice L.p.ba L.p.body.length L.p.bcap, .slice L.aa L.ab.length L.acap, .int .i64 (L.F : Int), .int .i64 k, .int .i64 x, .int .i64 (s.steps : Int), ev]) (j : Nat) (v : Value) (hj : ([.int .i64 k, .int .i64 x, .int .i64 (s.steps : Int), ev] : List Value)[j]? = some v) : W.cell? ((⟨L.M, 3, none⟩ : Addr).add j) = some v := by
 match j, hj with
 | 0, hj => injection hj with hj; subst hj; exact h.cellv (i := 3) rfl
 | 1, hj => injection hj with hj; subst hj; exact h.cellv (i := 4) rfl
 | 2, hj => injection hj with hj; subst hj; exact h.cellv (i := 5) rfl
 | 3, hj => injection hj with hj; subst hj; exact h.cellv (i := 6) rfl
 | j + 4, hj => cases hj
theorem Ag7 (p : PgV) (t : Tr) (aa : Option Addr) (acap : Nat) (args : List Int) (fuel v : Int) (s' : Ms) (w : World) (hbl : p.body.length ≤ 1000) (hn : args.length ≤ 1000) (hok : p.ok w) (hra : Rd w aa (Qi args)) (hin : ∀ a ∈ args, InI a) (hg : Good p t) (hgo : okO p.V t) (hso : OkS p.V (Zd p.V args fuel.toNat))
 (hc : Q2 p args.length fuel = 0) (hbig : Big (.one t) (Zd p.V args fuel.toNat) v s') :
 Calls Tryz.prog 19 #[.agg p.cells, .slice aa args.length acap, .int .i64 fuel] w fun e w' => RunR ⟨s'.stopped 3 0, []⟩ w w' e := by
 obtain ⟨_, _, bh, hf⟩ := KG hc;have a9 := Lh hok;have cc := Lh hbl;have c0 := Lh hra;have de := Lh hin;have Hg := Lh hg;have Hc := Lh hc;have cb := Lh hbig;have bo := Lh hg.vars;have be := Lh bh;have Hf := Lh hf;have Hn := Lh hn;have cy := Lh hgo;have c3 := Lh hso;have di : p.V.length ≤ 12 := hg.vars.2.2.1;clear hok hbl hra bh hf hn hc hg hin hbig hgo hso;go_enter Tryz.func19, Tryz.ntmps19
 go_wp2_with (refine Qn _ _ rfl ?_)
 refine Stop.to ?_;refine Qe rfl 25 _ rfl p.cells rfl ?_;intro G w1 hG r1 b1;replace b1 := (Below.refl w.heap.size w).trans (b1.mono hG);go_wp2_with (refine QH _ rfl ?_)
 refine Stop.to ?_;refine Qj rfl 40 rfl _ _ KY rfl ?_;intro RB w2 aq rB b2;replace r1 := r1.below (b2.mono aq) r1.lt;have ci : w.heap.size ≤ RB := Le b1.size aq;replace b2 := b1.trans ((b2.mono aq).mono b1.size);have R1 := Lh r1;have bp := Lh rB;have B2 := Lh b2;clear r1 b1 b2 rB aq hG w1;go_wp2_with (refine wpList_load_row rfl 25 _ rfl G rfl 25 p.cells (0, 0) _ R1.out Tryz.underlying25 rfl (by kernel_rfl) ?_)
 refine (XZ p aa acap args.length fuel cc.out Hn.out w2 (a9.out.go B2.out)).mono ?_;rintro e w3 ⟨rfl, b3⟩;rw [Hc.out];have R3 := Lh (R1.out.below b3 R1.out.lt);have bb := Lh (bp.out.below b3 bp.out.lt);have B3 := Lh (B2.out.trans (b3.mono B2.out.size));clear b3 R1 bp B2;have g2 := R3.out.cellv (i := 2) (v := .slice p.ba p.body.length p.bcap) rfl;go_wp2_with (refine Ach 108 _ rfl ?_)
 refine Stop.to ?_;have aj : ∀ W, (Instr.build 108 #[(0, .slice p.ba p.body.length p.bcap), (2, .int .i64 fuel)]).run Tryz.prog W = .ok (.agg (JU p (.slice none 0 0) fuel)) W := fun W => run_build W _ _ _ (by kernel_rfl);refine X9 rfl (.agg (JU p (.slice none 0 0) fuel)) (JY 108 [_, _] rfl _ (by exact aj _)) ?_;clear aj g2;go_wp2_with (refine Qn _ _ rfl ?_)
 refine Stop.to ?_;refine Qe rfl 108 _ rfl (JU p (.slice none 0 0) fuel) rfl ?_;intro M W1 hM rM b4;have br : w.heap.size ≤ M := Le B3.out.size hM;have dh : G < M := Lc R3.out.lt hM;have cg : RB < M := Lc bb.out.lt hM;have G1 := Lh (R3.out.below (b4.mono hM) R3.out.lt);have c5 := Lh (bb.out.below (b4.mono hM) bb.out.lt);have B1 := Lh (B3.out.trans ((b4.mono hM).mono B3.out.size));have R1 := Lh rM;obtain ⟨Bk, bq⟩ : ∃ Bk, Bk = W1.heap.size := ⟨_, rfl⟩;have bc : M < Bk := by rw [bq]; exact R1.out.lt
 have a5 := Lh bq;have g1 := G1.out.cellv (i := 1) (v := .slice p.va p.V.length p.vcap) rfl;clear bq b4 rM hM R3 bb B3;go_wp2_with fail
 go_loopw [10, 11, 12, 29] (fun _ _ _ i W => ∃ (k : Nat), i = .int .i64 (k : Int) ∧ k ≤ p.V.length ∧ Hid (DK p M Bk fuel args W1 k W)) (fun _ _ _ i _ => p.V.length - (intOf i).toNat)
 case atStart => exact ⟨0, rfl, Nat.zero_le _, Lh ⟨.slice none 0 0, [], R1.out, rfl, by simpa [K5] using World.ownsRow_nil W1 Bk 112 1, fun i g t h => by simp at h, fun g h => by simp at h, List.nodup_nil, ChM.refl _ _ _⟩⟩
 case round =>
  clear g1;obtain ⟨k, rfl, hk, hK⟩ := hrel;by_cases bx : k < p.V.length
  · obtain ⟨cv, u, r, rfl, ck, a3, cl, cr, aw⟩ := hK.out;obtain ⟨t, ht⟩ : ∃ t, p.V[u.length]? = some t := ⟨_, Lb bx⟩;have bt : Below w.heap.size w wr := B1.out.trans (aw.to_below (by have := B1.out.size; have := a5.out; omega) br);obtain ⟨vd, db, dg⟩ := Q9 (a9.out.go bt).vrd ht;have a4 : Bk ≤ wr.heap.size := by have := aw.size; have := a5.out; omega
    have ct : InI t := a9.out.vin t (Lg ht);have bk := Lh (show DK3 p M Bk fuel cv args u W1 wr from ⟨r, ck, a3, cl, cr, aw, a4⟩);have dj : (u.length : Int) < (p.V.length : Int) := by omega
    have Ht := Lh ht;obtain ⟨n, hn⟩ : ∃ n : Nat, Qy t = (n : Int) := ⟨(Qy t).toNat, by unfold Qy; split <;> omega⟩
    have dk : n ≤ 8 := by unfold Qy at hn; split at hn <;> omega
    have cp : ∀ W : World, (Instr.makeSlice 22 (.int .i64 (n : Int)) (.int .i64 (n : Int))).run Tryz.prog W = .ok (.slice (some ⟨W.heap.size, 0, none⟩) n n) (W.alloc (.cells (Qi (List.replicate n 0)).toArray 3)) := fun W => by
     have := run_make_row' (P := Tryz.prog) (w := W) 22 3 (.int .i64 0) 8 Tryz.underlying22 Z9 rfl .i64 .i64 n (by omega) (by omega);rw [show madeCells #[Value.int .i64 0] n = (Qi (List.replicate n 0)).toArray from by rw [Kv]; simp [Qi]] at this;exact this
    have ah := Lh hn;have hra := c0.out.go (bt.mono (Nat.le_refl _));have bf := Lh hra;clear r ck a3 cl cr aw hK ht bt hn hra;rw [db];go_wp2_with fail
    refine (JD t wr ct).mono ?_;rintro e we ⟨rfl, rfl⟩;rw [ah.out];go_wp2_with fail
    refine (JD t _ ct).mono ?_;rintro e ao ⟨rfl, b7⟩;have rn : Row ao wr.heap.size 3 (Qi (List.replicate n 0)).toArray := by rw [← b7]; exact Row.new wr _ _
    have bn : Below wr.heap.size wr ao := by rw [← b7]; exact (Below.refl _ _).alloc (Nat.le_refl _) _
    have cq : wr.heap.size ∉ u := fun hm => absurd (bk.out.lt (by omega) _ hm) (Nat.lt_irrefl _)
    have ap := Lh (bk.out.go bn);have bj := Lh rn;have bm := Lh cq;have g0 : ao.cell? ⟨G, 0, none⟩ = some (.int .i64 p.params) := ((G1.out.chm ap.out.ch (by omega) (by omega)).cellv (i := 0) rfl);have az := Lh (bf.out.go bn);have dc : wr.heap.size < ao.heap.size := rn.lt;clear rn bn cq b7 bk bf;by_cases c9 : n = 0
    · subst c9;rw [ah.out];clear cp bj;go_wp2_with (refine QH _ rfl ?_)
      refine Stop.to ?_;refine Qj rfl 3 rfl _ _ AgL rfl ?_;intro q w5 au cu ce;have a0 := ce.mono au;have o := Lh (ap.out.go a0);have bi := az.out.go a0;replace g0 : w5.cell? ⟨G, 0, none⟩ = some (.int .i64 p.params) := ((G1.out.chm o.out.ch (by omega) (by omega)).cellv (i := 0) rfl);have cm : q ∉ u := fun hm => absurd (ap.out.lt (by omega) _ hm) (by omega)
      have bl := Lh cm;have bw : Bk ≤ q := Le ap.out.size au;have cf : q ≠ M := by omega
      have y : Qy t = 0 := by simpa using ah.out
      have ax : Hid (Jy t q = .iface 115 (.agg #[.pointer (some ⟨q, 0, none⟩)])) := by show _ = _; unfold Jy; rw [if_pos y]
      have a7 := Lh (Ag1 (args := args) (F := fuel.toNat) Ht.out y);have l := Lh cu;have ar := Lh bi;clear y ap az cm ce a0 cu bi dc bm au;have aj : ∀ W, (Instr.build 115 #[(0, .pointer (some ⟨q, 0, none⟩))]).run Tryz.prog W = .ok (.agg #[.pointer (some ⟨q, 0, none⟩)]) W := fun W => run_build W _ _ _ (by kernel_rfl);go_wp2_with (refine Ach 115 _ rfl ?_)
      refine Stop.to ?_;refine X9 rfl (.agg #[.pointer (some ⟨q, 0, none⟩)]) (JY 115 [_] rfl _ (by exact aj _)) ?_;clear aj;by_cases da : (u.length : Int) < p.params
      · have cn : u.length < args.length := by have := be.out; omega
        obtain ⟨x, hx⟩ : ∃ x, args[u.length]? = some x := ⟨_, Lb cn⟩;obtain ⟨ad, rfl, cx⟩ := Q9 ar.out hx;have co : (u.length : Int) < (args.length : Int) := by omega
        have ay : Hid ([args.getD u.length 0] = [x]) := by show _ = _; simp [hx]
        have gm := fun (f : Nat) (W : World) => Afo (g := q) f W;have Hx := Lh hx;clear hx;go_wp2_with fail
        obtain ⟨S, av⟩ : ∃ S : World → Prop, S = (fun W => DK3 p M Bk fuel cv args u W1 W ∧ Row W q 3 (Qi [0]).toArray ∧ Rd W (some ad) (Qi args)) := ⟨_, rfl⟩;have dd : St S := by rw [av]; exact ⟨fun h b => ⟨h.1.go b, h.2.1.below b h.2.1.lt, h.2.2.go b⟩⟩
        have S0 : Hid (∀ W, S W → DK3 p M Bk fuel cv args u W1 W) := by show ∀ W, _; rw [av]; exact fun W h => h.1
        have S1 : Hid (∀ W, S W → Row W q 3 (Qi [0]).toArray) := by show ∀ W, _; rw [av]; exact fun W h => h.2.1
        have S2 : Hid (∀ W, S W → W.cell? (ad.add u.length) = some (.int .i64 x)) := by
         show ∀ W, _;rw [av];intro W h;obtain ⟨df, e, c⟩ := Q9 h.2.2 Hx.out;cases e; exact c
        have hS : S w5 := by rw [av]; exact ⟨o.out, l.out, ar.out⟩
        clear av cx o l ar g0;refine Zn S 8 (by kernel_rfl) (by kernel_rfl) (St.drew hS) ?_;clear hS;simp only [Lw, L5, Lv, L1]
        iterate 4 (refine Qg rfl ?_ (fun W hW => ?_) ?_; rotate_left; (focus (go_simp; exact rfl)); simp only [Act.put, Qa, Qb, Qc])
        (refine Qg rfl ?_ (fun W hW => ?_) ?_; rotate_left; (focus (have c := S2.out W hW; go_simp; exact rfl)); simp only [Act.put, Qa, Qb, Qc])
        iterate 3 (refine Qg rfl ?_ (fun W hW => ?_) ?_; rotate_left; (focus (go_simp; exact rfl)); simp only [Act.put, Qa, Qb, Qc])
        refine QG fun w6 bs => ?_
        have b9 := Lh (S0.out w6 bs);have a6 := Lh (S1.out w6 bs);clear bs dd S0 S1 S2;go_wp2_with fail
        refine (YN q 0 x 0 w6 a6.out).mono ?_;rintro e w8 ⟨rfl, w7, b0, o1, r1⟩;have o := Lh ((b9.out.go b0).only o1 (a6.out.below b0 a6.out.lt) (by decide) cf bw bl.out);have l : Hid (Row w8 q 3 (Qi ((Zd p.V args fuel.toNat).cont u.length t)).toArray) := by rw [a7.out, ay.out]; exact r1
        clear b0 o1 r1 b9 a6 ay a7 gm cn co;have ai := o.out.go (W' := w8.alloc (.cells #[(.iface 115 (.agg #[.pointer (some ⟨q, 0, none⟩)]))] 112)) ((Below.refl _ _).alloc (Nat.le_refl _) _);have ak := l.out.below (w' := w8.alloc (.cells #[(.iface 115 (.agg #[.pointer (some ⟨q, 0, none⟩)]))] 112)) ((Below.refl _ _).alloc (Nat.le_refl _) _) l.out.lt;have c1 := o.out.row.cellv (i := 1) (v := cv) rfl;have d := Lh ai;have ag := Lh ak;clear ai ak o l;obtain ⟨i0, al, y, am, an⟩ := info_parts US;go_wp2_with (at_builtin; refine Ub ?_)
        refine Stop.to ?_;refine (wpList_append_own_at _ rfl (.tmp 61) (.tmp 63) 106 rfl Bk 112 i0 .nilIface 1 16 Tryz.underlying106 al y am an rfl (by decide) cv u.length _ rfl d.out.cv ⟨w8.heap.size, 0, none⟩ 1 1 [(.iface 115 (.agg #[.pointer (some ⟨q, 0, none⟩)]))] rfl rfl (cell_one_new _ _ _) (by simp [Value.oneCell']) (by unfold maxLen; omega) (by omega) d.out.size ?_);intro z W6 j ac _ _;have r6 := d.out.row.grown ac (Qz d.out.cv d.out.row (by decide));have ae := ZQ j;rw [← ax.out] at j;have R6 := Lh r6;have s := Lh j;have af := Lh ac;clear r6 j ac c1 al y am an i0;go_wp2_with (refine Qs _ _ _ rfl ?_)
        refine Stop.to ?_;refine Qp rfl 106 _ _ rfl M 1 rfl _ rfl [z] (by cases z <;> first | rfl | cases ae) 108 _ (JU p z fuel) R6.out (by kernel_rfl) (by show 1 + 1 ≤ 7; omega) (by simpa using ae) rfl ?_
        intro W7 r7 o7;have a2 := Lh (d.out.more (by omega) Ht.out ag.out bw bl.out (by simpa using s.out) af.out o7 r7 bc);clear r7 o7 ae R6 s af d ag;go_wp2_with fail
        go_roundw
        case rel => exact ⟨u.length + 1, by go_num, by omega, a2⟩
        case measure => simp [intOf]; omega
      · have ay : Hid ([args.getD u.length 0] = [0]) := by
         show _ = _;have := be.out;rw [LG, Nj (by omega)]; rfl
        replace l : Hid (Row w5 q 3 (Qi ((Zd p.V args fuel.toNat).cont u.length t)).toArray) := by rw [a7.out, ay.out]; exact l.out
        clear ay a7 ar;have ai := o.out.go (W' := w5.alloc (.cells #[(.iface 115 (.agg #[.pointer (some ⟨q, 0, none⟩)]))] 112)) ((Below.refl _ _).alloc (Nat.le_refl _) _);have ak := l.out.below (w' := w5.alloc (.cells #[(.iface 115 (.agg #[.pointer (some ⟨q, 0, none⟩)]))] 112)) ((Below.refl _ _).alloc (Nat.le_refl _) _) l.out.lt;have c1 := o.out.row.cellv (i := 1) (v := cv) rfl;have d := Lh ai;have ag := Lh ak;clear ai ak o l;obtain ⟨i0, al, y, am, an⟩ := info_parts US;go_wp2_with (at_builtin; refine Ub ?_)
        refine Stop.to ?_;refine (wpList_append_own_at _ rfl (.tmp 61) (.tmp 63) 106 rfl Bk 112 i0 .nilIface 1 16 Tryz.underlying106 al y am an rfl (by decide) cv u.length _ rfl d.out.cv ⟨w5.heap.size, 0, none⟩ 1 1 [(.iface 115 (.agg #[.pointer (some ⟨q, 0, none⟩)]))] rfl rfl (cell_one_new _ _ _) (by simp [Value.oneCell']) (by unfold maxLen; omega) (by omega) d.out.size ?_);intro z W6 j ac _ _;have r6 := d.out.row.grown ac (Qz d.out.cv d.out.row (by decide));have ae := ZQ j;rw [← ax.out] at j;have R6 := Lh r6;have s := Lh j;have af := Lh ac;clear r6 j ac c1 al y am an i0;go_wp2_with (refine Qs _ _ _ rfl ?_)
        refine Stop.to ?_;refine Qp rfl 106 _ _ rfl M 1 rfl _ rfl [z] (by cases z <;> first | rfl | cases ae) 108 _ (JU p z fuel) R6.out (by kernel_rfl) (by show 1 + 1 ≤ 7; omega) (by simpa using ae) rfl ?_
        intro W7 r7 o7;have a2 := Lh (d.out.more (by omega) Ht.out ag.out bw bl.out (by simpa using s.out) af.out o7 r7 bc);clear r7 o7 ae R6 s af d ag;go_wp2_with fail
        go_roundw
        case rel => exact ⟨u.length + 1, by go_num, by omega, a2⟩
        case measure => simp [intOf]; omega
    · have e0 : ((n : Int) == 0) = false := by simp; omega
      rw [ah.out]
      have da : ¬ ((u.length : Int) < p.params) := by
       have := bo.out.2.2.2 u.length bx;rw [LG, Ht.out] at this;simp only [LL, Ya, decide_eq_true_eq] at this;rcases this with h | h
       · subst h; have := ah.out; simp [Qy] at this; omega
       · omega
      have hz : Qy t ≠ 0 := by rw [ah.out]; omega
      have ax : Hid (Jy t wr.heap.size = .iface 109 (.slice (some ⟨wr.heap.size, 0, none⟩) n n)) := by
       show _ = _;unfold Jy; rw [if_neg hz, ah.out, Li]
      have l : Hid (Row ao wr.heap.size 3 (Qi ((Zd p.V args fuel.toNat).cont u.length t)).toArray) := by
       show Row _ _ _ _;rw [Ag2 Ht.out hz, ah.out, Li]; exact bj.out
      have o := Lh ap.out;clear hz bj ap az cp;obtain ⟨q, au⟩ : ∃ q, wr.heap.size = q := ⟨_, rfl⟩;rw [au] at ax l bm a4 ⊢;clear au;have ai := o.out.go (W' := ao.alloc (.cells #[(.iface 109 (.slice (some ⟨q, 0, none⟩) n n))] 112)) ((Below.refl _ _).alloc (Nat.le_refl _) _);have ak := l.out.below (w' := ao.alloc (.cells #[(.iface 109 (.slice (some ⟨q, 0, none⟩) n n))] 112)) ((Below.refl _ _).alloc (Nat.le_refl _) _) l.out.lt;have c1 := o.out.row.cellv (i := 1) (v := cv) rfl;have d := Lh ai;have ag := Lh ak;clear ai ak o l;obtain ⟨i0, al, y, am, an⟩ := info_parts US;go_wp2_with (at_builtin; refine Ub ?_)
      refine Stop.to ?_;refine (wpList_append_own_at _ rfl (.tmp 61) (.tmp 63) 106 rfl Bk 112 i0 .nilIface 1 16 Tryz.underlying106 al y am an rfl (by decide) cv u.length _ rfl d.out.cv ⟨ao.heap.size, 0, none⟩ 1 1 [(.iface 109 (.slice (some ⟨q, 0, none⟩) n n))] rfl rfl (cell_one_new _ _ _) (by simp [Value.oneCell']) (by unfold maxLen; omega) (by omega) d.out.size ?_);intro z W6 j ac _ _;have r6 := d.out.row.grown ac (Qz d.out.cv d.out.row (by decide));have ae := ZQ j;rw [← ax.out] at j;have R6 := Lh r6;have s := Lh j;have af := Lh ac;clear r6 j ac c1 al y am an i0;go_wp2_with (refine Qs _ _ _ rfl ?_)
      refine Stop.to ?_;refine Qp rfl 106 _ _ rfl M 1 rfl _ rfl [z] (by cases z <;> first | rfl | cases ae) 108 _ (JU p z fuel) R6.out (by kernel_rfl) (by show 1 + 1 ≤ 7; omega) (by simpa using ae) rfl ?_
      intro W7 r7 o7;have a2 := Lh (d.out.more (by omega) Ht.out ag.out a4 bm.out (by simpa using s.out) af.out o7 r7 bc);clear r7 o7 ae R6 s af d ag;go_wp2_with fail
      go_roundw
      case rel => exact ⟨u.length + 1, by go_num, by omega, a2⟩
      case measure => simp [intOf]; omega
  · obtain rfl : k = p.V.length := by omega
    obtain ⟨L, c7, c8, c6, hL, hR, hN, aq⟩ := AfV cc.out a9.out Hf.out br bc a5.out B1.out hK.out c5.out cg;have HL := Lh hL;have HR := Lh hR;have HN := Lh hN;have ca := Lh aq;have BW := Lh (B1.out.trans ((show ChM M Bk W1 wr from by obtain ⟨_, _, _, _, _, _, _, _, aw⟩ := hK.out.ex; exact aw).to_below (by have := B1.out.size; have := a5.out; omega) br));subst c7;subst c8;clear bx hk hK hL hR hN aq c6;have hE := (Big.dir L HL.out cb.out cy.out c3.out (by simp [Zd]) rfl).1;have Hw := Lh (AfT L HL.out t _ s' v _ wr HR.out Hg.out.hat hE);clear hE;go_wp2_with fail
    refine Hw.out.mono ?_;rintro e W2 ⟨he, a1, bz, bu⟩;have cs := ca.out.go bu;have cj := bu.new HN.out BW.out.size;have b6 : (s'.stopped 3 0).steps = s'.steps := by unfold Ms.stopped; split <;> rfl
    have bv : (s'.stopped 3 0).evs = s'.evs := by unfold Ms.stopped; split <;> rfl
    obtain ⟨sf, b5⟩ : ∃ sf, s'.stopped 3 0 = sf := ⟨_, rfl⟩;rw [b5] at b6 bv he;subst he;have c4 := Lh b6;have c2 := Lh b5;clear b5;have cw := Lh bv;have cz := Lh (ZQ bz.evs);have a8 := Lh bz;have bd := Lh cs;have b8 := Lh (BW.out.trans cj);clear b6 bv bz cs cj bu Hw;go_wp2_with (refine Qs _ _ _ rfl ?_)
    refine Stop.to ?_;refine Qp rfl 37 _ _ rfl L.M 3 rfl _ rfl [.int .i64 (sf.out.getD (0, 0)).1, .int .i64 (sf.out.getD (0, 0)).2] rfl 108 _ #[.slice L.p.ba L.p.body.length L.p.bcap, .slice L.aa L.ab.length L.acap, .int .i64 (L.F : Int), .int .i64 (sf.out.getD (0, 0)).1, .int .i64 (sf.out.getD (0, 0)).2, .int .i64 (s'.steps : Int), a1] a8.out.row (by kernel_rfl) (by show 3 + 2 ≤ 7; omega) (by simp [Value.oneCell']) rfl ?_;intro W7 r7 o7;have R7 := Lh r7;have cd := Lh (bd.out.only o7 ca.out.m);have bg := Lh (Qu a8.out.evs o7 (fun e => by have := QC a8.out.evs e; have := HL.out.lt; omega));have B7 := Lh (Qo b8.out o7 HN.out.m);clear r7 o7 bd b8 a8
    go_wp2_with (first
     | (refine QQ rfl 40 _ rfl ⟨L.M, 3, none⟩ rfl [.int .i64 (sf.out.getD (0, 0)).1, .int .i64 (sf.out.getD (0, 0)).2, .int .i64 (s'.steps : Int), a1] _ (Aj1 R7.out) Tryz.underlying40 rfl (by kernel_rfl) ?_)
     | (refine Qs _ _ _ rfl ?_))
    refine Stop.to ?_;refine Qk rfl 40 _ _ rfl RB #[.int .i64 (sf.out.getD (0, 0)).1, .int .i64 (sf.out.getD (0, 0)).2, .int .i64 (s'.steps : Int), a1] rfl rfl 40 _ cd.out (by kernel_rfl) rfl (Xn _ _ _ cz.out) ?_;intro W9 r9 o9;go_wp2_with fail
    refine bodyPost_ret (QN Tryz.results19 _ _ RB 40 _ (0, 0) _ rfl r9 Tryz.underlying40 rfl (by kernel_rfl)) rfl ?_;rw [c2.out, ← c4.out];refine ⟨a1, rfl, ?_, Qo B7.out o9 ci⟩;show W9.ownsRow w.heap.size 189 3 a1 sf.evs.length (sf.evs.flatMap EvV.cells);rw [cw.out];exact QL (Qu bg.out o9 (Qz bg.out cd.out (by decide))) HN.out.b1
theorem AcA (p : PgV) (aa : Option Addr) (acap n : Nat) (fuel : Int) (w : World) (hbl : p.body.length ≤ 1000) (hn : n ≤ 1000) (hok : p.ok w) (hc : Q2 p n fuel ≠ 0) :
 Calls Tryz.prog 19 #[.agg p.cells, .slice aa n acap, .int .i64 fuel] w fun e w' => e = .returned (.tuple #[.agg #[.int .i64 0, .int .i64 0, .int .i64 0, .slice none 0 0], .int .i64 (Q2 p n fuel)]) ∧ Below w.heap.size w w' := by
 have q := Lh hok;have m := Lh hbl;have z := Lh hn;obtain ⟨t, g⟩ : ∃ t, Q2 p n fuel = t := ⟨_, rfl⟩;have o := Lh g;rw [g] at hc ⊢;have ec : (t == 0) = false := by simpa using hc
 clear hok hbl hn g hc;go_enter Tryz.func19, Tryz.ntmps19
 go_wp2_with (refine Qn _ _ rfl ?_)
 refine Stop.to ?_;refine Qe rfl 25 _ rfl p.cells rfl ?_;intro G w1 v k h;replace h := (Below.refl w.heap.size w).trans (h.mono v);clear v;go_wp2_with (refine QH _ rfl ?_)
 refine Stop.to ?_;refine Qj rfl 40 rfl _ _ KY rfl ?_;intro RB w2 c x i;replace k := k.below (i.mono c) k.lt;have j : w.heap.size ≤ RB := Le h.size c;replace i := h.trans ((i.mono c).mono h.size);have u := Lh k;have d := Lh x;have l := Lh i;clear k h i x c;go_wp2_with (refine wpList_load_row rfl 25 _ rfl G rfl 25 p.cells (0, 0) _ u.out Tryz.underlying25 rfl (by kernel_rfl) ?_)
 refine (XZ p aa acap n fuel m.out z.out w2 (q.out.go l.out)).mono ?_;rintro e w3 ⟨rfl, s⟩;rw [o.out];have r := Lh (d.out.below s d.out.lt);have y := Lh (l.out.trans (s.mono l.out.size));clear s u d l;go_wp2_with (refine Qs _ _ _ rfl ?_)
 refine Stop.to ?_;refine Qk rfl 40 _ _ rfl RB #[.int .i64 0, .int .i64 0, .int .i64 0, .slice none 0 0] rfl rfl 40 _ r.out (by kernel_rfl) rfl (Xn 0 0 0 rfl) ?_;intro W9 r9 o9;go_wp2_with fail
 refine bodyPost_ret (QN Tryz.results19 _ _ RB 40 _ (0, 0) _ rfl r9 Tryz.underlying40 rfl (by kernel_rfl)) rfl ?_;exact ⟨rfl, Qo y.out o9 j⟩
theorem AjJ (p : PgV) (aa : Option Addr) (acap : Nat) (args : List Int) (fuel : Int) (w : World) (hbl : p.body.length ≤ 1000) (hn : args.length ≤ 1000) (hok : p.ok w) (hra : Rd w aa (Qi args)) (hin : ∀ a ∈ args, InI a) :
 Calls Tryz.prog 19 #[.agg p.cells, .slice aa args.length acap, .int .i64 fuel] w fun e w' => RunA (Q8 p args fuel) (Q2 p args.length fuel) w w' e := by
 by_cases c : Q2 p args.length fuel = 0
 · obtain ⟨t, v, g, d⟩ := UA hok hin c;refine (Ag7 p t aa acap args fuel v g w hbl hn hok hra hin d.good d.okO d.init c d.big).mono fun e w' h => ?_
   rw [d.eq, c];exact h.a
 · exact (AcA p aa acap args.length fuel w hbl hn hok c).mono fun e w' h => .bad c h
def AkH (s : Ms) : Value := .agg #[.int .i64 (s.out.getD (0, 0)).1, .int .i64 (s.out.getD (0, 0)).2]
theorem JT (p : PgV) (aa : Option Addr) (acap : Nat) (args : List Int) (fuel : Int) (w : World) (hbl : p.body.length ≤ 1000) (hn : args.length ≤ 1000) (hok : p.ok w) (hra : Rd w aa (Qi args)) (hin : ∀ a ∈ args, InI a) :
 Calls Tryz.prog 34 #[.agg p.cells, .slice aa args.length acap, .int .i64 fuel] w fun e w' => e = .returned (AkH (Q8 p args fuel)) ∧ Below w.heap.size w w' := by
 by_cases hc : Q2 p args.length fuel = 0
 · have ec : (Q2 p args.length fuel == 0) = true := by simpa using hc
   have Hc := Lh hc;clear hc ec;have x := Lh hok;have t := Lh hbl;have Hn := Lh hn;have y := Lh hra;have u := Lh hin;clear hok hbl hn hra hin;go_enter Tryz.func34, Tryz.ntmps34
   go_wp2_with (refine Qn _ _ rfl ?_)
   refine Stop.to ?_;refine Qe rfl 25 _ rfl p.cells rfl ?_;intro G w1 hG o h;replace h := (Below.refl w.heap.size w).trans (h.mono hG);clear hG;go_wp2_with (refine QH _ rfl ?_)
   refine Stop.to ?_;refine Qj rfl 37 rfl _ _ Vg rfl ?_;intro RB w2 d rB l;replace o := o.below (l.mono d) o.lt;have m : w.heap.size ≤ RB := Le h.size d;replace l := h.trans ((l.mono d).mono h.size);have R1 := Lh o;have g := Lh rB;have i := Lh l;clear o h l rB d;go_wp2_with (refine wpList_load_row rfl 25 _ rfl G rfl 25 p.cells (0, 0) _ R1.out Tryz.underlying25 rfl (by kernel_rfl) ?_)
   refine (AjJ p aa acap args fuel w2 t.out Hn.out (x.out.go i.out) (y.out.go i.out) u.out).mono ?_;rintro e w3 ⟨A, ab, rfl, _, _, _, _, b3⟩;obtain ⟨s, hs⟩ : ∃ s, Q8 p args fuel = s := ⟨_, rfl⟩;have Hs := Lh hs;rw [hs];have c := Lh (g.out.below b3 g.out.lt);have r := Lh (i.out.trans (b3.mono i.out.size));clear b3 R1 g i hs;go_wp2_with (refine QH _ rfl ?_)
   refine Stop.to ?_;refine Qj rfl 40 rfl _ _ KY rfl ?_;intro T w4 q rT b4;have k := Lh (c.out.below (b4.mono q) c.out.lt);have B4 := Lh (r.out.trans ((b4.mono q).mono r.out.size));have ad : RB < T := Lc c.out.lt q;have ac : w.heap.size ≤ T := by omega
   clear c r b4 q;go_wp2_with (refine Qs _ _ _ rfl ?_)
   refine Stop.to ?_;refine Qk rfl 40 _ _ rfl T #[.int .i64 (s.out.getD (0, 0)).1, .int .i64 (s.out.getD (0, 0)).2, .int .i64 (s.steps : Int), .slice A s.evs.length ab] rfl rfl 40 _ rT (by kernel_rfl) rfl (Xn _ _ _ rfl) ?_;intro w5 r5 o5;have z := Lh (k.out.only o5 (by omega));have B5 := Lh (Qo B4.out o5 ac);have R5 := Lh r5;clear k B4 r5 o5 rT;rw [Hc.out]
   go_wp2_with (first
    | (refine QQ rfl 37 _ rfl ⟨T, 0, none⟩ rfl [.int .i64 (s.out.getD (0, 0)).1, .int .i64 (s.out.getD (0, 0)).2] _ (R5.out.from_ 0 (fun j v n => by match j, n with | 0, n => injection n with n; subst n; rfl | 1, n => injection n with n; subst n; rfl | j + 2, n => cases n)) Tryz.underlying37 rfl (by kernel_rfl) ?_)
    | (refine Qs _ _ _ rfl ?_))
   refine Stop.to ?_;refine Qk rfl 37 _ _ rfl RB #[.int .i64 (s.out.getD (0, 0)).1, .int .i64 (s.out.getD (0, 0)).2] rfl rfl 37 _ z.out (by kernel_rfl) rfl (by simp [Value.oneCell']) ?_;intro W9 r9 o9;go_wp2_with fail
   refine bodyPost_ret (results_cell_row Tryz.results34 _ _ RB 37 _ (0, 0) _ rfl r9 Tryz.underlying37 rfl (by kernel_rfl)) rfl ?_;exact ⟨by rw [Hs.out]; rfl, Qo B5.out o9 m⟩
 · have ec : (Q2 p args.length fuel == 0) = false := by simpa using hc
   have Hz := Lh (YJ hc);clear hc;have x := Lh hok;have t := Lh hbl;have Hn := Lh hn;have y := Lh hra;have u := Lh hin;clear hok hbl hn hra hin;go_enter Tryz.func34, Tryz.ntmps34
   go_wp2_with (refine Qn _ _ rfl ?_)
   refine Stop.to ?_;refine Qe rfl 25 _ rfl p.cells rfl ?_;intro G w1 hG o h;replace h := (Below.refl w.heap.size w).trans (h.mono hG);clear hG;go_wp2_with (refine QH _ rfl ?_)
   refine Stop.to ?_;refine Qj rfl 37 rfl _ _ Vg rfl ?_;intro RB w2 d rB l;replace o := o.below (l.mono d) o.lt;have m : w.heap.size ≤ RB := Le h.size d;replace l := h.trans ((l.mono d).mono h.size);have R1 := Lh o;have g := Lh rB;have i := Lh l;clear o h l rB d;go_wp2_with (refine wpList_load_row rfl 25 _ rfl G rfl 25 p.cells (0, 0) _ R1.out Tryz.underlying25 rfl (by kernel_rfl) ?_)
   refine (AjJ p aa acap args fuel w2 t.out Hn.out (x.out.go i.out) (y.out.go i.out) u.out).mono ?_;rintro e w3 ⟨A, ab, rfl, _, _, _, _, b3⟩;obtain ⟨s, hs⟩ : ∃ s, Q8 p args fuel = s := ⟨_, rfl⟩;have Hs := Lh hs;rw [hs];have c := Lh (g.out.below b3 g.out.lt);have r := Lh (i.out.trans (b3.mono i.out.size));clear b3 R1 g i hs;go_wp2_with (refine QH _ rfl ?_)
   refine Stop.to ?_;refine Qj rfl 40 rfl _ _ KY rfl ?_;intro T w4 q rT b4;have k := Lh (c.out.below (b4.mono q) c.out.lt);have B4 := Lh (r.out.trans ((b4.mono q).mono r.out.size));have ad : RB < T := Lc c.out.lt q;have ac : w.heap.size ≤ T := by omega
   clear c r b4 q;go_wp2_with (refine Qs _ _ _ rfl ?_)
   refine Stop.to ?_;refine Qk rfl 40 _ _ rfl T #[.int .i64 (s.out.getD (0, 0)).1, .int .i64 (s.out.getD (0, 0)).2, .int .i64 (s.steps : Int), .slice A s.evs.length ab] rfl rfl 40 _ rT (by kernel_rfl) rfl (Xn _ _ _ rfl) ?_;intro w5 r5 o5;have z := Lh (k.out.only o5 (by omega));have B5 := Lh (Qo B4.out o5 ac);have R5 := Lh r5;clear k B4 r5 o5 rT;go_wp2_with (refine Qs _ _ _ rfl ?_)
   refine Stop.to ?_;refine Qk rfl 37 _ _ rfl RB #[.int .i64 0, .int .i64 0] rfl rfl 37 _ z.out (by kernel_rfl) rfl (by simp [Value.oneCell']) ?_;intro W9 r9 o9;go_wp2_with fail
   refine bodyPost_ret (results_cell_row Tryz.results34 _ _ RB 37 _ (0, 0) _ rfl r9 Tryz.underlying37 rfl (by kernel_rfl)) rfl ?_;exact ⟨by rw [Hz.out]; rfl, Qo B5.out o9 m⟩
structure RunB (s : Ms) (err : Int) (w w' : World) (e : Ending) : Prop where
 ex : ∃ A cap, e = .returned (.tuple #[.agg #[.int .i64 (s.out.getD (0, 0)).1, .int .i64 (s.out.getD (0, 0)).2, .int .i64 (s.steps : Int), .slice A s.evs.length cap], .int .i64 err]) ∧ Rd w' A (s.evs.flatMap EvV.cells) ∧ s.evs.length ≤ cap ∧ cap ≤ maxLen ∧ (A = none → cap = 0) ∧ (∀ ad, A = some ad → w.heap.size ≤ ad.block) ∧ Below w.heap.size w w'
theorem RunR.b {fin : Mm} {w w' : World} {e : Ending} (h : RunR fin w w' e) : RunB fin.s 0 w w' e := by
 obtain ⟨ev, rfl, c, l⟩ := h.ex;obtain ⟨A, d, rfl, g, i, j, k⟩ := AhO c;exact ⟨A, d, rfl, g, i, j, k, fun m e => by subst e; exact QC c rfl, l⟩
end Go.Proofs.YtdcmppdhdcjpfaaGreat
