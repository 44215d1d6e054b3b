/- Lemmas for DirectMutantsP. -/
import Derived.Test.YtdcmppdhdcjpfaaGreatZp1
import Derived.Test.YtdcmppdhdcjpfaaGreatZp15
set_option linter.unusedVariables false
set_option linter.unusedSimpArgs false
set_option maxRecDepth 100000
set_option maxHeartbeats 16000000
namespace Go.Proofs.YtdcmppdhdcjpfaaGreat
open Go.RowKit Go.Deep
theorem ZQ {P : Program} {o : Oper} {a : Act} {w w1 : World} {K : Act → World → Prop} {Q : Exit → Act → World → Prop} (f : FuncId) (args : Array Value) (he : (execOp a.eval o).run P w = .ok (.enter f args) w1)
 (hc : Calls P f args w1 fun
  | .returned v, w' => K (a.put o.dst v) w'
  | .panicked ch, w' => Q (.panic ch) a w'
  | .outgrown, _ => LetsOut Q) : o.wp P a w K Q := by
 unfold Oper.wp; rw [he]; exact hc
theorem DR.stop {L : Lay} {s : Ms} {ev : Value} {W : World} (h : DR L s ev W) (k v : Int) : DR L (s.stop k v) ev W := ⟨h.row, h.evs, h.rows, h.im, h.size, h.sum, h.few⟩
theorem EntD.at1 {L : Lay} {t : Tr} {s s' : Ms} {v : Int} (h : EntD L t s v s') {q : Nat} {ev : Value} {W : World} (hat : At L.p.body (q + 1) t) (hm : DR L s ev W) :
 Calls Tryz.prog 119 #[.pointer (some ⟨L.M, 0, none⟩), .int .i64 ((q : Int) + 1)] W fun e W' => e = AcR v s' ∧ ∃ ev', DR L s' ev' W' ∧ RChg L ev W ev' W' := by
 have := h (q + 1) ev W hat hm
 rwa [Int.natCast_add] at this
def Aed (s : Ms) : Ending := match s.out with | none => .returned (.tuple #[]) | some o => QV o.1 o.2
theorem JA {s : Ms} (h : s.out = none) : Aed s = .returned (.tuple #[]) := by unfold Aed; rw [h]
theorem ZW {k x : Int} {s : Ms} (h : s.out = some (k, x)) : Aed s = QV k x := by unfold Aed; rw [h]
def DoD (L : Lay) (x : Nd) (ks : List Tr) (t s' : Ms) : Prop := ∀ (q : Nat) (ev : Value) (W : World), At L.p.body q (.node x ks) → DR L t ev W →
 Calls Tryz.prog 193 #[.pointer (some ⟨L.M, 0, none⟩), .agg #[.int .i64 x.tag, .int .i64 x.n], .int .i64 (q : Int)] W fun e W' => e = Aed s' ∧ ∃ ev', DR L s' ev' W' ∧ RChg L ev W ev' W'
inductive WhD (L : Lay) (a b : Tr) : Ms → Ms → Prop
 | cut {t t1 : Ms} {v : Int} (h1 : EntD L a t v t1) (ho : t1.out.isSome = true) : WhD L a b t t1
 | done {t t1 : Ms} {v : Int} (h1 : EntD L a t v t1) (ho : t1.out = none) (hv : v ≠ 1) : WhD L a b t t1
 | cut2 {t t1 t2 : Ms} {u : Int} (h1 : EntD L a t 1 t1) (ho : t1.out = none) (h2 : EntD L b t1 u t2) (ho2 : t2.out.isSome = true) : WhD L a b t t2
 | empty {t t1 t2 : Ms} {u : Int} (h1 : EntD L a t 1 t1) (ho : t1.out = none) (h2 : EntD L b t1 u t2) (ho2 : t2.out = none) (hf : t2.fuel = 0) : WhD L a b t (t2.stop 4 0)
 | more {t t1 t2 s' : Ms} {u : Int} (h1 : EntD L a t 1 t1) (ho : t1.out = none) (h2 : EntD L b t1 u t2) (hg : t2.go) (hle : t.steps ≤ t2.steps) (h3 : WhD L a b t2.tick s') : WhD L a b t s'
theorem Aaz (L : Lay) (hL : DOk L) (s : Ms) (ev : Value) (q : Nat) (x : Nd) (ks : List Tr) (n : Int) (m : Nat) (hm : n = (m : Int)) (qn : Nat) (W : World) (h : DR L s ev W) (hat : At L.p.body q (.node x ks)) (hn : (QP (q + 1) ks)[m]? = some qn) :
 Calls Tryz.prog 190 #[.pointer (some ⟨L.M, 0, none⟩), .int .i64 (q : Int), .int .i64 n] W fun e W' => e = .returned (.int .i64 (qn : Int)) ∧ Below W.heap.size W W' := by
 subst hm; exact AdU L hL s ev q x ks m qn W h hat hn
theorem XW (L : Lay) (hL : DOk L) (ts : List Tr) (q : Nat) (s s' : Ms) (vs : List Int) (n : Int) (hn : n = (ts.length : Int)) (ev : Value) (W : World) (h : DR L s ev W) (hats : Ats L.p.body (q + 1) ts) (hch : Jt L ts s vs s') (ho : s.out = none) (hl : ts.length ≤ 1000) :
 Calls Tryz.prog 191 #[.pointer (some ⟨L.M, 0, none⟩), .int .i64 ((q : Int) + 1), .int .i64 n] W fun e W' => ∃ ev', DR L s' ev' W' ∧ RChg L ev W ev' W' ∧ ((∃ k x, s'.out = some (k, x) ∧ e = QV k x) ∨ (s'.out = none ∧ ∃ v, e = .returned v ∧ FOwn L ev' W' W.heap.size v vs)) := by
 subst hn
 have := Adg L hL ts (q + 1) s s' vs ev W h hats hch ho hl
 rwa [Int.natCast_add] at this
theorem DR.drew1 {L : Lay} {s : Ms} {ev : Value} {W : World} (h : DR L s ev W) (hL : LOk0 L) : DR L s ev W.drew := h.drew hL 1
theorem AfM (L : Lay) (hL : DOk L) (x : Nd) (t : Ms) (ht : x.tag = 26) (ho : t.out = none) : DoD L x [] t t := by
 obtain ⟨tag, nn⟩ := x
 dsimp only at ht ⊢
 subst ht
 have Ho := Lh ho
 clear ho
 intro q ev0 W0 hat h
 have HL := Lh hL
 have Hat := Lh hat
 have Hm0 := Lh h
 have hbl := hL.blen
 have hql := hat.lt
 have ewq : IntKind.i64.wrap ((q : Int) + 1) = (q : Int) + 1 := IntWalk.i64_in _ (by omega)
 clear h hat hL hql hbl
 go_enter Tryz.func193, Tryz.ntmps193
 go_wp2_with (refine Qq _ _ rfl ?_)
 refine Stop.to ?_
 refine Qe rfl 85 _ rfl #[.int .i64 26, .int .i64 nn] rfl ?_
 intro X W hX rX b1
 have hm := Hm0.out.below HL.out (b1.mono hX)
 have Hm := Lh hm
 have HX : Hid (FRow L ev0 W X 85 #[.int .i64 26, .int .i64 nn]) := ⟨Hm0.out.far_new hX rX.lt, rX⟩
 have HC : Hid (RChg L ev0 W0 ev0 W) := RChg.below (b1.mono hX)
 have x0 := rX.cellv (i := 0) (v := .int .i64 26) rfl
 have x1 := rX.cellv (i := 1) (v := .int .i64 nn) rfl
 clear hm hX rX b1 Hm0
 go_wp2
 go_end0
 exact ⟨(JA Ho.out).symm, ev0, Hm.out, HC.out⟩
theorem AeW (L : Lay) (hL : DOk L) (x : Nd) (ks : List Tr) (vs : List Int) (t s' : Ms) (ht : x.tag = 20) (hn : x.n = (ks.length : Int)) (hl : ks.length ≤ 1000) (ho : t.out = none) (hch : Jt L ks t vs s') : DoD L x ks t s' := by
 obtain ⟨tag, nn⟩ := x
 dsimp only at ht ⊢
 subst ht
 dsimp only at hn
 have Hn := Lh hn
 have Hch := Lh hch
 have Ho := Lh ho
 clear ho hch hn
 intro q ev0 W0 hat h
 have HL := Lh hL
 have Hat := Lh hat
 have Hm0 := Lh h
 have hbl := hL.blen
 have hql := hat.lt
 have ewq : IntKind.i64.wrap ((q : Int) + 1) = (q : Int) + 1 := IntWalk.i64_in _ (by omega)
 clear h hat hL hql hbl
 go_enter Tryz.func193, Tryz.ntmps193
 go_wp2_with (refine Qq _ _ rfl ?_)
 refine Stop.to ?_
 refine Qe rfl 85 _ rfl #[.int .i64 20, .int .i64 nn] rfl ?_
 intro X W hX rX b1
 have hm := Hm0.out.below HL.out (b1.mono hX)
 have Hm := Lh hm
 have HX : Hid (FRow L ev0 W X 85 #[.int .i64 20, .int .i64 nn]) := ⟨Hm0.out.far_new hX rX.lt, rX⟩
 have HC : Hid (RChg L ev0 W0 ev0 W) := RChg.below (b1.mono hX)
 have x0 := rX.cellv (i := 0) (v := .int .i64 20) rfl
 have x1 := rX.cellv (i := 1) (v := .int .i64 nn) rfl
 clear hm hX rX b1 Hm0
 go_wp2_with fail
 refine (XW L HL.out ks q t s' vs nn Hn.out ev0 W Hm.out Hat.out.kids Hch.out Ho.out hl).mono ?_
 rintro e Wa ⟨eva, hma, hca, hr⟩
 have HC2 := Lh (HC.out.trans hca)
 have Hm2 := Lh hma
 clear hma hca Hm HC HX x0 x1 ewq
 rcases hr with ⟨ok, ox, hoo, rfl⟩ | ⟨hoo, v, rfl, _⟩
 · simp only [QV]
   have Hoo := Lh hoo
   clear hoo
   go_wp2
   exact ⟨rfl, (ZW Hoo.out).symm, eva, Hm2.out, HC2.out⟩
 · have Hoo := Lh hoo
   clear hoo
   go_wp2
   go_end0
   exact ⟨(JA Hoo.out).symm, eva, Hm2.out, HC2.out⟩
theorem Agi (L : Lay) (hL : DOk L) (x : Nd) (a : Tr) (t t1 : Ms) (v : Int) (ht : x.tag = 25) (h1 : EntD L a t v t1) (ho : t1.out = none) : DoD L x [a] t (t1.stop 0 v) := by
 obtain ⟨tag, nn⟩ := x
 dsimp only at ht ⊢
 subst ht
 intro q ev0 W0 hat h
 have HL := Lh hL
 have Hat := Lh hat
 have Hm0 := Lh h
 have hbl := hL.blen
 have hql := hat.lt
 have ewq : IntKind.i64.wrap ((q : Int) + 1) = (q : Int) + 1 := IntWalk.i64_in _ (by omega)
 clear h hat hL hql hbl
 go_enter Tryz.func193, Tryz.ntmps193
 go_wp2_with (refine Qq _ _ rfl ?_)
 refine Stop.to ?_
 refine Qe rfl 85 _ rfl #[.int .i64 25, .int .i64 nn] rfl ?_
 intro X W hX rX b1
 have hm := Hm0.out.below HL.out (b1.mono hX)
 have Hm := Lh hm
 have HX : Hid (FRow L ev0 W X 85 #[.int .i64 25, .int .i64 nn]) := ⟨Hm0.out.far_new hX rX.lt, rX⟩
 have HC : Hid (RChg L ev0 W0 ev0 W) := RChg.below (b1.mono hX)
 have x0 := rX.cellv (i := 0) (v := .int .i64 25) rfl
 have x1 := rX.cellv (i := 1) (v := .int .i64 nn) rfl
 clear hm hX rX b1 Hm0
 have Hcall := Lh (EntD.at1 h1 Hat.out.kids.head Hm.out)
 go_wp2_with fail
 refine Hcall.out.mono ?_
 rintro e Wa ⟨rfl, eva, hma, hca⟩
 replace HX := Lh (HX.out.go HL.out hca)
 replace HC := Lh (HC.out.trans hca)
 clear Hcall x0 x1 Hm h1
 have Hm := Lh hma
 have x0 := HX.out.2.cellv (i := 0) (v := .int .i64 25) rfl
 have x1 := HX.out.2.cellv (i := 1) (v := .int .i64 nn) rfl
 clear hma hca
 rw [QA ho]
 clear ho
 go_wp2_with fail
 refine (XE _ _ _).mono ?_
 rintro e w' ⟨rfl, rfl⟩
 simp only [QV]
 go_wp2
 exact ⟨rfl, rfl, eva, Hm.out.stop _ _, HC.out⟩
theorem AdP (L : Lay) (hL : DOk L) (x : Nd) (a : Tr) (t t1 : Ms) (v : Int) (ht : x.tag = 25) (h1 : EntD L a t v t1) (ho : t1.out.isSome = true) : DoD L x [a] t t1 := by
 obtain ⟨tag, nn⟩ := x
 dsimp only at ht ⊢
 subst ht
 intro q ev0 W0 hat h
 have HL := Lh hL
 have Hat := Lh hat
 have Hm0 := Lh h
 have hbl := hL.blen
 have hql := hat.lt
 have ewq : IntKind.i64.wrap ((q : Int) + 1) = (q : Int) + 1 := IntWalk.i64_in _ (by omega)
 clear h hat hL hql hbl
 go_enter Tryz.func193, Tryz.ntmps193
 go_wp2_with (refine Qq _ _ rfl ?_)
 refine Stop.to ?_
 refine Qe rfl 85 _ rfl #[.int .i64 25, .int .i64 nn] rfl ?_
 intro X W hX rX b1
 have hm := Hm0.out.below HL.out (b1.mono hX)
 have Hm := Lh hm
 have HX : Hid (FRow L ev0 W X 85 #[.int .i64 25, .int .i64 nn]) := ⟨Hm0.out.far_new hX rX.lt, rX⟩
 have HC : Hid (RChg L ev0 W0 ev0 W) := RChg.below (b1.mono hX)
 have x0 := rX.cellv (i := 0) (v := .int .i64 25) rfl
 have x1 := rX.cellv (i := 1) (v := .int .i64 nn) rfl
 clear hm hX rX b1 Hm0
 have Hcall := Lh (EntD.at1 h1 Hat.out.kids.head Hm.out)
 go_wp2_with fail
 refine Hcall.out.mono ?_
 rintro e Wa ⟨rfl, eva, hma, hca⟩
 replace HX := Lh (HX.out.go HL.out hca)
 replace HC := Lh (HC.out.trans hca)
 clear Hcall x0 x1 Hm h1
 have Hm := Lh hma
 have x0 := HX.out.2.cellv (i := 0) (v := .int .i64 25) rfl
 have x1 := HX.out.2.cellv (i := 1) (v := .int .i64 nn) rfl
 clear hma hca
 obtain ⟨⟨ok, ox⟩, hoo⟩ := Option.isSome_iff_exists.1 ho
 rw [QO hoo]
 simp only [QV]
 have Hoo := Lh hoo
 clear hoo ho
 go_wp2
 exact ⟨rfl, (ZW Hoo.out).symm, eva, Hm.out, HC.out⟩
theorem AeR (L : Lay) (hL : DOk L) (x : Nd) (a : Tr) (ks : List Tr) (t t1 : Ms) (v : Int) (ht : x.tag = 23) (h1 : EntD L a t v t1) (ho : t1.out.isSome = true) : DoD L x (a :: ks) t t1 := by
 obtain ⟨tag, nn⟩ := x
 dsimp only at ht ⊢
 subst ht
 intro q ev0 W0 hat h
 have HL := Lh hL
 have Hat := Lh hat
 have Hm0 := Lh h
 have hbl := hL.blen
 have hql := hat.lt
 have ewq : IntKind.i64.wrap ((q : Int) + 1) = (q : Int) + 1 := IntWalk.i64_in _ (by omega)
 clear h hat hL hql hbl
 go_enter Tryz.func193, Tryz.ntmps193
 go_wp2_with (refine Qq _ _ rfl ?_)
 refine Stop.to ?_
 refine Qe rfl 85 _ rfl #[.int .i64 23, .int .i64 nn] rfl ?_
 intro X W hX rX b1
 have hm := Hm0.out.below HL.out (b1.mono hX)
 have Hm := Lh hm
 have HX : Hid (FRow L ev0 W X 85 #[.int .i64 23, .int .i64 nn]) := ⟨Hm0.out.far_new hX rX.lt, rX⟩
 have HC : Hid (RChg L ev0 W0 ev0 W) := RChg.below (b1.mono hX)
 have x0 := rX.cellv (i := 0) (v := .int .i64 23) rfl
 have x1 := rX.cellv (i := 1) (v := .int .i64 nn) rfl
 clear hm hX rX b1 Hm0
 have Hcall := Lh (EntD.at1 h1 Hat.out.kids.head Hm.out)
 go_wp2_with fail
 refine Hcall.out.mono ?_
 rintro e Wa ⟨rfl, eva, hma, hca⟩
 replace HX := Lh (HX.out.go HL.out hca)
 replace HC := Lh (HC.out.trans hca)
 clear Hcall x0 x1 Hm h1
 have Hm := Lh hma
 have x0 := HX.out.2.cellv (i := 0) (v := .int .i64 23) rfl
 have x1 := HX.out.2.cellv (i := 1) (v := .int .i64 nn) rfl
 clear hma hca
 obtain ⟨⟨ok, ox⟩, hoo⟩ := Option.isSome_iff_exists.1 ho
 rw [QO hoo]
 simp only [QV]
 have Hoo := Lh hoo
 clear hoo ho
 go_wp2
 exact ⟨rfl, (ZW Hoo.out).symm, eva, Hm.out, HC.out⟩
theorem Agv (L : Lay) (hL : DOk L) (x : Nd) (a b c k : Tr) (t t1 s2 : Ms) (v u : Int) (ht : x.tag = 23) (h1 : EntD L a t v t1) (ho : t1.out = none) (hv01 : v = 0 ∨ v = 1) (hv : [a, b, c][(2 - v).toNat]? = some k) (h2 : EntD L k t1 u s2) : DoD L x [a, b, c] t s2 := by
 obtain ⟨tag, nn⟩ := x
 dsimp only at ht ⊢
 subst ht
 rcases hv01 with rfl | rfl
 · obtain rfl : c = k := by simpa using hv
   clear hv
   intro q ev0 W0 hat h
   have HL := Lh hL
   have Hat := Lh hat
   have Hm0 := Lh h
   have hbl := hL.blen
   have hql := hat.lt
   have ewq : IntKind.i64.wrap ((q : Int) + 1) = (q : Int) + 1 := IntWalk.i64_in _ (by omega)
   clear h hat hL hql hbl
   go_enter Tryz.func193, Tryz.ntmps193
   go_wp2_with (refine Qq _ _ rfl ?_)
   refine Stop.to ?_
   refine Qe rfl 85 _ rfl #[.int .i64 23, .int .i64 nn] rfl ?_
   intro X W hX rX b1
   have hm := Hm0.out.below HL.out (b1.mono hX)
   have Hm := Lh hm
   have HX : Hid (FRow L ev0 W X 85 #[.int .i64 23, .int .i64 nn]) := ⟨Hm0.out.far_new hX rX.lt, rX⟩
   have HC : Hid (RChg L ev0 W0 ev0 W) := RChg.below (b1.mono hX)
   have x0 := rX.cellv (i := 0) (v := .int .i64 23) rfl
   have x1 := rX.cellv (i := 1) (v := .int .i64 nn) rfl
   clear hm hX rX b1 Hm0
   obtain ⟨qn, hqn, hatn⟩ := X0 Hat.out (i := 2) (k := c) rfl
   have Hcall := Lh (EntD.at1 h1 Hat.out.kids.head Hm.out)
   go_wp2_with fail
   refine Hcall.out.mono ?_
   rintro e Wa ⟨rfl, eva, hma, hca⟩
   replace HX := Lh (HX.out.go HL.out hca)
   replace HC := Lh (HC.out.trans hca)
   clear Hcall x0 x1 Hm h1
   have Hm := Lh hma
   have x0 := HX.out.2.cellv (i := 0) (v := .int .i64 23) rfl
   have x1 := HX.out.2.cellv (i := 1) (v := .int .i64 nn) rfl
   clear hma hca
   rw [QA ho]
   clear ho
   go_wp2_with fail
   refine (Aaz L HL.out t1 eva q _ [a, b, c] 2 2 rfl qn Wa Hm.out Hat.out hqn).mono ?_
   rintro e Wb ⟨rfl, bb⟩
   have Hm2 := Lh (Hm.out.below HL.out bb)
   have hcb : RChg L eva Wa eva Wb := RChg.below bb
   have HC2 := Lh (HC.out.trans hcb)
   clear bb hcb Hm HC HX x0 x1 hqn
   have Hcall := Lh (h2 qn eva Wb hatn Hm2.out)
   clear hatn h2 ewq
   go_wp2_with fail
   refine Hcall.out.mono ?_
   rintro e Wc ⟨rfl, evc, hmc, hcc⟩
   have Hm := Lh hmc
   have HC := Lh (HC2.out.trans hcc)
   clear hmc hcc Hm2 HC2 Hcall
   cases hs2 : s2.out with
   | none =>
    rw [QA hs2]
    have Hs2 := Lh hs2
    clear hs2
    go_wp2
    go_end0
    exact ⟨(JA Hs2.out).symm, evc, Hm.out, HC.out⟩
   | some o =>
    have ho2 : s2.out.isSome = true := by rw [hs2]; rfl
    clear hs2
    obtain ⟨⟨ok, ox⟩, hoo⟩ := Option.isSome_iff_exists.1 ho2
    rw [QO hoo]
    simp only [QV]
    have Hoo := Lh hoo
    clear hoo ho2
    go_wp2
    exact ⟨rfl, (ZW Hoo.out).symm, evc, Hm.out, HC.out⟩
 · obtain rfl : b = k := by simpa using hv
   clear hv
   intro q ev0 W0 hat h
   have HL := Lh hL
   have Hat := Lh hat
   have Hm0 := Lh h
   have hbl := hL.blen
   have hql := hat.lt
   have ewq : IntKind.i64.wrap ((q : Int) + 1) = (q : Int) + 1 := IntWalk.i64_in _ (by omega)
   clear h hat hL hql hbl
   go_enter Tryz.func193, Tryz.ntmps193
   go_wp2_with (refine Qq _ _ rfl ?_)
   refine Stop.to ?_
   refine Qe rfl 85 _ rfl #[.int .i64 23, .int .i64 nn] rfl ?_
   intro X W hX rX b1
   have hm := Hm0.out.below HL.out (b1.mono hX)
   have Hm := Lh hm
   have HX : Hid (FRow L ev0 W X 85 #[.int .i64 23, .int .i64 nn]) := ⟨Hm0.out.far_new hX rX.lt, rX⟩
   have HC : Hid (RChg L ev0 W0 ev0 W) := RChg.below (b1.mono hX)
   have x0 := rX.cellv (i := 0) (v := .int .i64 23) rfl
   have x1 := rX.cellv (i := 1) (v := .int .i64 nn) rfl
   clear hm hX rX b1 Hm0
   obtain ⟨qn, hqn, hatn⟩ := X0 Hat.out (i := 1) (k := b) rfl
   have Hcall := Lh (EntD.at1 h1 Hat.out.kids.head Hm.out)
   go_wp2_with fail
   refine Hcall.out.mono ?_
   rintro e Wa ⟨rfl, eva, hma, hca⟩
   replace HX := Lh (HX.out.go HL.out hca)
   replace HC := Lh (HC.out.trans hca)
   clear Hcall x0 x1 Hm h1
   have Hm := Lh hma
   have x0 := HX.out.2.cellv (i := 0) (v := .int .i64 23) rfl
   have x1 := HX.out.2.cellv (i := 1) (v := .int .i64 nn) rfl
   clear hma hca
   rw [QA ho]
   clear ho
   go_wp2_with fail
   refine (Aaz L HL.out t1 eva q _ [a, b, c] 1 1 rfl qn Wa Hm.out Hat.out hqn).mono ?_
   rintro e Wb ⟨rfl, bb⟩
   have Hm2 := Lh (Hm.out.below HL.out bb)
   have hcb : RChg L eva Wa eva Wb := RChg.below bb
   have HC2 := Lh (HC.out.trans hcb)
   clear bb hcb Hm HC HX x0 x1 hqn
   have Hcall := Lh (h2 qn eva Wb hatn Hm2.out)
   clear hatn h2 ewq
   go_wp2_with fail
   refine Hcall.out.mono ?_
   rintro e Wc ⟨rfl, evc, hmc, hcc⟩
   have Hm := Lh hmc
   have HC := Lh (HC2.out.trans hcc)
   clear hmc hcc Hm2 HC2 Hcall
   cases hs2 : s2.out with
   | none =>
    rw [QA hs2]
    have Hs2 := Lh hs2
    clear hs2
    go_wp2
    go_end0
    exact ⟨(JA Hs2.out).symm, evc, Hm.out, HC.out⟩
   | some o =>
    have ho2 : s2.out.isSome = true := by rw [hs2]; rfl
    clear hs2
    obtain ⟨⟨ok, ox⟩, hoo⟩ := Option.isSome_iff_exists.1 ho2
    rw [QO hoo]
    simp only [QV]
    have Hoo := Lh hoo
    clear hoo ho2
    go_wp2
    exact ⟨rfl, (ZW Hoo.out).symm, evc, Hm.out, HC.out⟩
theorem Adt (L : Lay) (hL : DOk L) (x : Nd) (a : Tr) (t t1 : Ms) (v : Int) (ht : x.tag = 21) (h1 : EntD L a t v t1) (ho : t1.out.isSome = true) : DoD L x [a] t t1 := by
 obtain ⟨tag, nn⟩ := x
 dsimp only at ht ⊢
 subst ht
 intro q ev0 W0 hat h
 have HL := Lh hL
 have Hat := Lh hat
 have Hm0 := Lh h
 have hbl := hL.blen
 have hql := hat.lt
 have ewq : IntKind.i64.wrap ((q : Int) + 1) = (q : Int) + 1 := IntWalk.i64_in _ (by omega)
 clear h hat hL hql hbl
 go_enter Tryz.func193, Tryz.ntmps193
 go_wp2_with (refine Qq _ _ rfl ?_)
 refine Stop.to ?_
 refine Qe rfl 85 _ rfl #[.int .i64 21, .int .i64 nn] rfl ?_
 intro X W hX rX b1
 have hm := Hm0.out.below HL.out (b1.mono hX)
 have Hm := Lh hm
 have HX : Hid (FRow L ev0 W X 85 #[.int .i64 21, .int .i64 nn]) := ⟨Hm0.out.far_new hX rX.lt, rX⟩
 have HC : Hid (RChg L ev0 W0 ev0 W) := RChg.below (b1.mono hX)
 have x0 := rX.cellv (i := 0) (v := .int .i64 21) rfl
 have x1 := rX.cellv (i := 1) (v := .int .i64 nn) rfl
 clear hm hX rX b1 Hm0
 have hcall := EntD.at1 h1 Hat.out.kids.head (Hm.out.drew1 HL.out)
 go_wp2_with fail
 refine wp_region_held (S := fun W => Row W X 85 #[.int .i64 21, .int .i64 nn]) (by kernel_rfl) ?_
 simp only [List.size_toArray, List.length_cons, List.length_nil, Nat.reduceAdd, Array.replicate_succ, Array.replicate_zero, List.push_toArray, List.nil_append, List.cons_append]
 show wpAnyH _ _ _ _ _ _ _ _ W.drew
 have hS : Row W.drew X 85 #[.int .i64 21, .int .i64 nn] := HX.out.2
 (refine tkH 0 (.pointer (some ⟨L.M, 0, none⟩)) rfl (Qd rfl (fun W hW => by (go_simp))) ?_; simp only [Act.put, Qa, Qb, Qc])
 (refine tkH 1 (.pointer (some ⟨X, 1, none⟩)) rfl (Qd rfl (fun W hW => by (go_simp))) ?_; simp only [Act.put, Qa, Qb, Qc])
 (refine tkH 2 (.int .i64 nn) rfl (Qd rfl (fun W hW => by ((have h := hW.cellv (i := 1) (v := .int .i64 nn) rfl; go_simp)))) ?_; simp only [Act.put, Qa, Qb, Qc])
 (refine tkH 3 (.pointer (some ⟨L.M, 0, none⟩)) rfl (Qd rfl (fun W hW => by (go_simp))) ?_; simp only [Act.put, Qa, Qb, Qc])
 (refine tkH 4 (.int .i64 (q : Int)) rfl (Qd rfl (fun W hW => by (go_simp))) ?_; simp only [Act.put, Qa, Qb, Qc])
 (refine tkH 5 (.int .i64 ((q : Int) + 1)) rfl (Qd rfl (fun W hW => by (go_simp; try exact ewq))) ?_; simp only [Act.put, Qa, Qb, Qc])
 (refine wpAnyH_all (rs := [6]) (by kernel_rfl) (by simp) (fun i hi => ?_); obtain rfl : i = 6 := by simpa using hi)
 refine Qf rfl rfl (fun K2 hK2 => ?_)
 refine ZQ 119 #[.pointer (some ⟨L.M, 0, none⟩), .int .i64 ((q : Int) + 1)] (w1 := W.drew) (by go_simp) ?_
 refine hcall.mono ?_
 rintro e Wa ⟨rfl, eva, hma, hca⟩
 clear hcall
 obtain ⟨⟨ok, ox⟩, hoo⟩ := Option.isSome_iff_exists.1 ho
 rw [QO hoo]
 simp only [QV]
 have hcd : RChg L ev0 W ev0 W.drew := RChg.below ⟨rfl, rfl, rfl, Nat.le_refl _, fun _ _ => rfl⟩
 have HC2 := Lh (HC.out.trans (hcd.trans hca))
 have Hm2 := Lh hma
 have Hoo := Lh hoo
 clear hoo ho hma hca hcd
 go_wp2
 exact ⟨rfl, (ZW Hoo.out).symm, eva, Hm2.out, HC2.out⟩
theorem Agf (L : Lay) (hL : DOk L) (x : Nd) (a : Tr) (t t1 : Ms) (v ty : Int) (ht : x.tag = 21) (h1 : EntD L a t v t1) (ho : t1.out = none) (hn0 : 0 ≤ x.n) (hV : L.p.V[x.n.toNat]? = some ty) (hz : Qx ty = 0) (hlen : t1.vals.length = L.p.V.length) (hf : t1.evs.length < t1.steps) : DoD L x [a] t (t1.setv x.n v) := by
 obtain ⟨tag, nn⟩ := x
 dsimp only at ht ⊢
 subst ht
 dsimp only at hn0 hV ⊢
 obtain ⟨n, rfl⟩ : ∃ n : Nat, nn = (n : Int) := ⟨nn.toNat, by omega⟩
 rw [Int.toNat_natCast] at hV
 generalize hnn : (n : Int) = nn
 have Hnn := Lh hnn
 have HV := Lh hV
 have Hz := Lh hz
 have Hlen := Lh hlen
 have Hf := Lh hf
 have Ho := Lh ho
 clear hnn hV hz hlen hf ho hn0
 intro q ev0 W0 hat h
 have HL := Lh hL
 have Hat := Lh hat
 have Hm0 := Lh h
 have hbl := hL.blen
 have hql := hat.lt
 have ewq : IntKind.i64.wrap ((q : Int) + 1) = (q : Int) + 1 := IntWalk.i64_in _ (by omega)
 clear h hat hL hql hbl
 go_enter Tryz.func193, Tryz.ntmps193
 go_wp2_with (refine Qq _ _ rfl ?_)
 refine Stop.to ?_
 refine Qe rfl 85 _ rfl #[.int .i64 21, .int .i64 nn] rfl ?_
 intro X W hX rX b1
 have hm := Hm0.out.below HL.out (b1.mono hX)
 have Hm := Lh hm
 have HX : Hid (FRow L ev0 W X 85 #[.int .i64 21, .int .i64 nn]) := ⟨Hm0.out.far_new hX rX.lt, rX⟩
 have HC : Hid (RChg L ev0 W0 ev0 W) := RChg.below (b1.mono hX)
 have x0 := rX.cellv (i := 0) (v := .int .i64 21) rfl
 have x1 := rX.cellv (i := 1) (v := .int .i64 nn) rfl
 clear hm hX rX b1 Hm0
 have hcall := EntD.at1 h1 Hat.out.kids.head (Hm.out.drew1 HL.out)
 go_wp2_with fail
 refine wp_region_held (S := fun W => Row W X 85 #[.int .i64 21, .int .i64 nn]) (by kernel_rfl) ?_
 simp only [List.size_toArray, List.length_cons, List.length_nil, Nat.reduceAdd, Array.replicate_succ, Array.replicate_zero, List.push_toArray, List.nil_append, List.cons_append]
 show wpAnyH _ _ _ _ _ _ _ _ W.drew
 have hS : Row W.drew X 85 #[.int .i64 21, .int .i64 nn] := HX.out.2
 (refine tkH 0 (.pointer (some ⟨L.M, 0, none⟩)) rfl (Qd rfl (fun W hW => by (go_simp))) ?_; simp only [Act.put, Qa, Qb, Qc])
 (refine tkH 1 (.pointer (some ⟨X, 1, none⟩)) rfl (Qd rfl (fun W hW => by (go_simp))) ?_; simp only [Act.put, Qa, Qb, Qc])
 (refine tkH 2 (.int .i64 nn) rfl (Qd rfl (fun W hW => by ((have h := hW.cellv (i := 1) (v := .int .i64 nn) rfl; go_simp)))) ?_; simp only [Act.put, Qa, Qb, Qc])
 (refine tkH 3 (.pointer (some ⟨L.M, 0, none⟩)) rfl (Qd rfl (fun W hW => by (go_simp))) ?_; simp only [Act.put, Qa, Qb, Qc])
 (refine tkH 4 (.int .i64 (q : Int)) rfl (Qd rfl (fun W hW => by (go_simp))) ?_; simp only [Act.put, Qa, Qb, Qc])
 (refine tkH 5 (.int .i64 ((q : Int) + 1)) rfl (Qd rfl (fun W hW => by (go_simp; try exact ewq))) ?_; simp only [Act.put, Qa, Qb, Qc])
 (refine wpAnyH_all (rs := [6]) (by kernel_rfl) (by simp) (fun i hi => ?_); obtain rfl : i = 6 := by simpa using hi)
 refine Qf rfl rfl (fun K2 hK2 => ?_)
 refine ZQ 119 #[.pointer (some ⟨L.M, 0, none⟩), .int .i64 ((q : Int) + 1)] (w1 := W.drew) (by go_simp) ?_
 refine hcall.mono ?_
 rintro e Wa ⟨rfl, eva, hma, hca⟩
 clear hcall
 rw [QA Ho.out]
 have hnl : n < t1.vals.length := by rw [Hlen.out]; exact (List.getElem?_eq_some_iff.1 HV.out).1
 have hst := Afl L HL.out t1 eva n ty v _ Wa hma HV.out Hz.out (List.getElem?_eq_getElem hnl) Hf.out
 rw [Hnn.out] at hst
 have hX2 := HX.out.go HL.out ((RChg.below ⟨rfl, rfl, rfl, Nat.le_refl _, fun _ _ => rfl⟩ : RChg L ev0 W ev0 W.drew).trans hca)
 have HC2 := Lh (HC.out.trans ((RChg.below ⟨rfl, rfl, rfl, Nat.le_refl _, fun _ _ => rfl⟩ : RChg L ev0 W ev0 W.drew).trans hca))
 refine hK2 _ _ ?_
 simp only [Act.put, Qa, Qb, Qc]
 refine ⟨hX2.2, ?_⟩
 clear hma hca hS
 (refine wpAnyH_all (rs := [7]) (by kernel_rfl) (by simp) (fun i hi => ?_); obtain rfl : i = 7 := by simpa using hi)
 refine Qf rfl rfl (fun K2 hK2 => ?_)
 refine ZQ 249 #[.pointer (some ⟨L.M, 0, none⟩), .int .i64 nn, .int .i64 (-1), .int .i64 v] (w1 := Wa) (by go_simp) ?_
 refine hst.mono ?_
 rintro e Wb ⟨⟨u, rfl⟩, evb, hmb, hcb⟩
 refine hK2 _ _ ?_
 simp only [Act.put, Qa, Qb, Qc]
 refine ⟨(hX2.go HL.out hcb).2, ?_⟩
 refine wpAnyH_done (by kernel_rfl) ?_ _
 have Hm2 := Lh hmb
 have HC3 := Lh (HC2.out.trans hcb)
 have Ho2 : Hid ((t1.setv nn v).out = none) := Ho.out
 clear hmb hcb hst hX2 HC2 x0 x1 HX Hm HC
 go_wp2
 go_end0
 exact ⟨(JA Ho2.out).symm, evb, Hm2.out, HC3.out⟩
theorem Aa1 (L : Lay) (hL : DOk L) (x : Nd) (a b : Tr) (t s' : Ms) (vs : List Int) (ht : x.tag = 22) (ho : t.out = none) (hch : Jt L [a, b] t vs s') (ho2 : s'.out.isSome = true) : DoD L x [a, b] t s' := by
 obtain ⟨tag, nn⟩ := x
 dsimp only at ht ⊢
 subst ht
 have Hch := Lh hch
 have Ho := Lh ho
 have Ho2 := Lh ho2
 clear ho hch ho2
 intro q ev0 W0 hat h
 have HL := Lh hL
 have Hat := Lh hat
 have Hm0 := Lh h
 have hbl := hL.blen
 have hql := hat.lt
 have ewq : IntKind.i64.wrap ((q : Int) + 1) = (q : Int) + 1 := IntWalk.i64_in _ (by omega)
 clear h hat hL hql hbl
 go_enter Tryz.func193, Tryz.ntmps193
 go_wp2_with (refine Qq _ _ rfl ?_)
 refine Stop.to ?_
 refine Qe rfl 85 _ rfl #[.int .i64 22, .int .i64 nn] rfl ?_
 intro X W hX rX b1
 have hm := Hm0.out.below HL.out (b1.mono hX)
 have Hm := Lh hm
 have HX : Hid (FRow L ev0 W X 85 #[.int .i64 22, .int .i64 nn]) := ⟨Hm0.out.far_new hX rX.lt, rX⟩
 have HC : Hid (RChg L ev0 W0 ev0 W) := RChg.below (b1.mono hX)
 have x0 := rX.cellv (i := 0) (v := .int .i64 22) rfl
 have x1 := rX.cellv (i := 1) (v := .int .i64 nn) rfl
 clear hm hX rX b1 Hm0
 go_wp2_with fail
 refine (XW L HL.out [a, b] q t s' vs 2 rfl ev0 W Hm.out Hat.out.kids Hch.out Ho.out (by simp)).mono ?_
 rintro e Wa ⟨eva, hma, hca, hr⟩
 have HC2 := Lh (HC.out.trans hca)
 have Hm2 := Lh hma
 clear hma hca Hm HC HX x0 x1 ewq
 rcases hr with ⟨ok, ox, hoo, rfl⟩ | ⟨hoo, v, rfl, _⟩
 · simp only [QV]
   have Hoo := Lh hoo
   clear hoo
   go_wp2
   exact ⟨rfl, (ZW Hoo.out).symm, eva, Hm2.out, HC2.out⟩
 · exact absurd Ho2.out (by rw [hoo]; simp)
theorem AeP (L : Lay) (hL : DOk L) (x : Nd) (a b : Tr) (t s2 : Ms) (v u ty : Int) (ht : x.tag = 22) (ho : t.out = none) (hch : Jt L [a, b] t [v, u] s2) (ho2 : s2.out = none) (hn0 : 0 ≤ x.n) (hV : L.p.V[x.n.toNat]? = some ty) (hz : Qx ty ≠ 0) (hs : LenS L.p.V s2) (hb : v < 0 ∨ ((s2.arr x.n).length : Int) ≤ v) : DoD L x [a, b] t (s2.stop 2 0) := by
 obtain ⟨tag, nn⟩ := x
 dsimp only at ht ⊢
 subst ht
 dsimp only at hn0 hV hb ⊢
 obtain ⟨n, rfl⟩ : ∃ n : Nat, nn = (n : Int) := ⟨nn.toNat, by omega⟩
 rw [Int.toNat_natCast] at hV
 have Hst : ∀ (ev : Value) (W : World), DR L s2 ev W → _ := fun ev W h => Ad5 L hL s2 ev n ty v u W h hV hz hs hb
 generalize hnn : (n : Int) = nn at Hst
 have HSt := Lh Hst
 have Hch := Lh hch
 have Ho := Lh ho
 have Ho2 := Lh ho2
 clear hnn hV hz hs hb ho ho2 hch hn0 Hst
 intro q ev0 W0 hat h
 have HL := Lh hL
 have Hat := Lh hat
 have Hm0 := Lh h
 have hbl := hL.blen
 have hql := hat.lt
 have ewq : IntKind.i64.wrap ((q : Int) + 1) = (q : Int) + 1 := IntWalk.i64_in _ (by omega)
 clear h hat hL hql hbl
 go_enter Tryz.func193, Tryz.ntmps193
 go_wp2_with (refine Qq _ _ rfl ?_)
 refine Stop.to ?_
 refine Qe rfl 85 _ rfl #[.int .i64 22, .int .i64 nn] rfl ?_
 intro X W hX rX b1
 have hm := Hm0.out.below HL.out (b1.mono hX)
 have Hm := Lh hm
 have HX : Hid (FRow L ev0 W X 85 #[.int .i64 22, .int .i64 nn]) := ⟨Hm0.out.far_new hX rX.lt, rX⟩
 have HC : Hid (RChg L ev0 W0 ev0 W) := RChg.below (b1.mono hX)
 have x0 := rX.cellv (i := 0) (v := .int .i64 22) rfl
 have x1 := rX.cellv (i := 1) (v := .int .i64 nn) rfl
 clear hm hX rX b1 Hm0
 go_wp2_with fail
 refine (XW L HL.out [a, b] q t s2 [v, u] 2 rfl ev0 W Hm.out Hat.out.kids Hch.out Ho.out (by simp)).mono ?_
 rintro e Wa ⟨eva, hma, hca, hr⟩
 rcases hr with ⟨ok, ox, hoo, rfl⟩ | ⟨_, lv, rfl, hown⟩
 · exact absurd hoo (by rw [Ho2.out]; simp)
 obtain ⟨A, cap, rfl, hrd⟩ := hown.frd
 obtain ⟨ad, rfl, hc0⟩ := QR (k := 0) (x := v) hrd.1 rfl
 obtain ⟨ad', had, hc1⟩ := QR (k := 1) (x := u) hrd.1 rfl
 injection had with had
 subst had
 replace hc0 : Wa.cell? ad = some (.int .i64 v) := hc0
 replace hc1 : Wa.cell? ⟨ad.block, ad.off + 1, none⟩ = some (.int .i64 u) := by simpa [Addr.add] using hc1
 have HX2 := Lh (HX.out.go HL.out hca)
 have HC2 := Lh (HC.out.trans hca)
 have Hm2 := Lh hma
 have x0 := HX2.out.2.cellv (i := 0) (v := .int .i64 22) rfl
 have x1 := HX2.out.2.cellv (i := 1) (v := .int .i64 nn) rfl
 clear hma hca Hm HC HX ewq hrd hown
 go_wp2_with fail
 refine QI 9 (by kernel_rfl) (by kernel_rfl) ?_
 simp only [List.take_succ_cons, List.take_zero, List.drop_succ_cons, List.drop_zero]
 have key : ∀ a u, Wa.cell? a = some u → Wa.drew.cell? a = some u := fun _ _ h => h
 replace x1 := key _ _ x1
 replace hc0 := key _ _ hc0
 replace hc1 := key _ _ hc1
 have hcd : RChg L eva Wa eva Wa.drew := RChg.below ⟨rfl, rfl, rfl, Nat.le_refl _, fun _ _ => rfl⟩
 have HC3 := Lh (HC2.out.trans hcd)
 have Hm3 := Lh (Hm2.out.drew1 HL.out)
 clear key hcd HC2 Hm2 HX2 x0
 generalize Wa.drew = Wd at *
 repeat still_step
 refine wpStill_nil ?_
 go_wp2_with fail
 refine (HSt.out eva Wd Hm3.out).mono ?_
 rintro e Wb ⟨rfl, bb⟩
 have Hm4 := Lh (Hm3.out.below HL.out bb)
 have hcb : RChg L eva Wd eva Wb := RChg.below bb
 have HC4 := Lh (HC3.out.trans hcb)
 clear bb hcb Hm3 HC3 x1 hc0 hc1
 simp only [QV]
 go_wp2
 exact ⟨rfl, rfl, eva, Hm4.out.stop _ _, HC4.out⟩
theorem Agj (L : Lay) (hL : DOk L) (x : Nd) (a b : Tr) (t s2 : Ms) (v u ty : Int) (ht : x.tag = 22) (ho : t.out = none) (hch : Jt L [a, b] t [v, u] s2) (ho2 : s2.out = none) (hn0 : 0 ≤ x.n) (hV : L.p.V[x.n.toNat]? = some ty) (hz : Qx ty ≠ 0) (hs : LenS L.p.V s2) (hb : ¬ (v < 0 ∨ ((s2.arr x.n).length : Int) ≤ v)) (hf : s2.evs.length < s2.steps) : DoD L x [a, b] t (s2.seta x.n v u) := by
 obtain ⟨tag, nn⟩ := x
 dsimp only at ht ⊢
 subst ht
 dsimp only at hn0 hV hb ⊢
 obtain ⟨n, rfl⟩ : ∃ n : Nat, nn = (n : Int) := ⟨nn.toNat, by omega⟩
 rw [Int.toNat_natCast] at hV
 have Hst : ∀ (ev : Value) (W : World), DR L s2 ev W → _ := fun ev W h => Afe L hL s2 ev n ty v u W h hV hz hs hb hf
 generalize hnn : (n : Int) = nn at Hst ⊢
 have HSt := Lh Hst
 have Hch := Lh hch
 have Ho := Lh ho
 have Ho2 := Lh ho2
 clear hnn hV hz hs hb ho ho2 hch hn0 hf Hst
 intro q ev0 W0 hat h
 have HL := Lh hL
 have Hat := Lh hat
 have Hm0 := Lh h
 have hbl := hL.blen
 have hql := hat.lt
 have ewq : IntKind.i64.wrap ((q : Int) + 1) = (q : Int) + 1 := IntWalk.i64_in _ (by omega)
 clear h hat hL hql hbl
 go_enter Tryz.func193, Tryz.ntmps193
 go_wp2_with (refine Qq _ _ rfl ?_)
 refine Stop.to ?_
 refine Qe rfl 85 _ rfl #[.int .i64 22, .int .i64 nn] rfl ?_
 intro X W hX rX b1
 have hm := Hm0.out.below HL.out (b1.mono hX)
 have Hm := Lh hm
 have HX : Hid (FRow L ev0 W X 85 #[.int .i64 22, .int .i64 nn]) := ⟨Hm0.out.far_new hX rX.lt, rX⟩
 have HC : Hid (RChg L ev0 W0 ev0 W) := RChg.below (b1.mono hX)
 have x0 := rX.cellv (i := 0) (v := .int .i64 22) rfl
 have x1 := rX.cellv (i := 1) (v := .int .i64 nn) rfl
 clear hm hX rX b1 Hm0
 go_wp2_with fail
 refine (XW L HL.out [a, b] q t s2 [v, u] 2 rfl ev0 W Hm.out Hat.out.kids Hch.out Ho.out (by simp)).mono ?_
 rintro e Wa ⟨eva, hma, hca, hr⟩
 rcases hr with ⟨ok, ox, hoo, rfl⟩ | ⟨_, lv, rfl, hown⟩
 · exact absurd hoo (by rw [Ho2.out]; simp)
 obtain ⟨A, cap, rfl, hrd⟩ := hown.frd
 obtain ⟨ad, rfl, hc0⟩ := QR (k := 0) (x := v) hrd.1 rfl
 obtain ⟨ad', had, hc1⟩ := QR (k := 1) (x := u) hrd.1 rfl
 injection had with had
 subst had
 replace hc0 : Wa.cell? ad = some (.int .i64 v) := hc0
 replace hc1 : Wa.cell? ⟨ad.block, ad.off + 1, none⟩ = some (.int .i64 u) := by simpa [Addr.add] using hc1
 have HX2 := Lh (HX.out.go HL.out hca)
 have HC2 := Lh (HC.out.trans hca)
 have Hm2 := Lh hma
 have x0 := HX2.out.2.cellv (i := 0) (v := .int .i64 22) rfl
 have x1 := HX2.out.2.cellv (i := 1) (v := .int .i64 nn) rfl
 clear hma hca Hm HC HX ewq hrd hown
 go_wp2_with fail
 refine QI 9 (by kernel_rfl) (by kernel_rfl) ?_
 simp only [List.take_succ_cons, List.take_zero, List.drop_succ_cons, List.drop_zero]
 have key : ∀ a u, Wa.cell? a = some u → Wa.drew.cell? a = some u := fun _ _ h => h
 replace x1 := key _ _ x1
 replace hc0 := key _ _ hc0
 replace hc1 := key _ _ hc1
 have hcd : RChg L eva Wa eva Wa.drew := RChg.below ⟨rfl, rfl, rfl, Nat.le_refl _, fun _ _ => rfl⟩
 have HC3 := Lh (HC2.out.trans hcd)
 have Hm3 := Lh (Hm2.out.drew1 HL.out)
 clear key hcd HC2 Hm2 HX2 x0
 generalize Wa.drew = Wd at *
 repeat still_step
 refine wpStill_nil ?_
 go_wp2_with fail
 refine (HSt.out eva Wd Hm3.out).mono ?_
 rintro e Wb ⟨⟨uu, rfl⟩, evb, hmb, hcb⟩
 have Hm4 := Lh hmb
 have HC4 := Lh (HC3.out.trans hcb)
 clear hmb hcb Hm3 HC3 x1 hc0 hc1
 go_wp2
 go_end0
 exact ⟨(JA (s := s2.seta nn v u) Ho2.out).symm, evb, Hm4.out, HC4.out⟩
def stepsIn (L : Lay) (W : World) : Nat := (intOf ((W.cell? ⟨L.M, 5, none⟩).getD (.int .i64 0))).toNat
theorem DR.stepsIn {L : Lay} {s : Ms} {ev : Value} {W : World} (h : DR L s ev W) : stepsIn L W = s.steps := by
 unfold Go.Proofs.YtdcmppdhdcjpfaaGreat.stepsIn
 rw [h.row.cellv (i := 5) (v := .int .i64 (s.steps : Int)) rfl]
 simp [intOf]
theorem Afu {L : Lay} {a b : Tr} {t s' : Ms} (h : WhD L a b t s') : ∃ v t1, EntD L a t v t1 ∧ ((t1.out.isSome = true ∧ s' = t1) ∨ (t1.out = none ∧ v ≠ 1 ∧ s' = t1) ∨ (t1.out = none ∧ v = 1 ∧ ∃ u t2, EntD L b t1 u t2 ∧ ((t2.out.isSome = true ∧ s' = t2) ∨ (t2.out = none ∧ t2.fuel = 0 ∧ s' = t2.stop 4 0) ∨ (t2.go ∧ t.steps ≤ t2.steps ∧ WhD L a b t2.tick s')))) := by
 cases h with
 | cut h1 ho => exact ⟨_, _, h1, .inl ⟨ho, rfl⟩⟩
 | done h1 ho hv => exact ⟨_, _, h1, .inr (.inl ⟨ho, hv, rfl⟩)⟩
 | cut2 h1 ho h2 ho2 => exact ⟨_, _, h1, .inr (.inr ⟨ho, rfl, _, _, h2, .inl ⟨ho2, rfl⟩⟩)⟩
 | empty h1 ho h2 ho2 hf => exact ⟨_, _, h1, .inr (.inr ⟨ho, rfl, _, _, h2, .inr (.inl ⟨ho2, hf, rfl⟩)⟩)⟩
 | more h1 ho h2 hg hle h3 => exact ⟨_, _, h1, .inr (.inr ⟨ho, rfl, _, _, h2, .inr (.inr ⟨hg, hle, h3⟩)⟩)⟩
theorem Ee (L : Lay) (hL : DOk L) (x : Nd) (a b : Tr) (t s' : Ms) (ht : x.tag = 24) (hw : WhD L a b t s') : DoD L x [a, b] t s' := by
 obtain ⟨tag, nn⟩ := x
 dsimp only at ht ⊢
 subst ht
 have Hw := Lh hw
 have hF := hL.F
 clear hw
 intro q ev0 W0 hat h
 have HL := Lh hL
 have Hat := Lh hat
 have Hm0 := Lh h
 have hbl := hL.blen
 have hql := hat.lt
 have ewq : IntKind.i64.wrap ((q : Int) + 1) = (q : Int) + 1 := IntWalk.i64_in _ (by omega)
 clear h hat hL hql hbl
 go_enter Tryz.func193, Tryz.ntmps193
 go_wp2_with (refine Qq _ _ rfl ?_)
 refine Stop.to ?_
 refine Qe rfl 85 _ rfl #[.int .i64 24, .int .i64 nn] rfl ?_
 intro X W hX rX b1
 have hm := Hm0.out.below HL.out (b1.mono hX)
 have Hm := Lh hm
 have HX : Hid (FRow L ev0 W X 85 #[.int .i64 24, .int .i64 nn]) := ⟨Hm0.out.far_new hX rX.lt, rX⟩
 have HC : Hid (RChg L ev0 W0 ev0 W) := RChg.below (b1.mono hX)
 have x0 := rX.cellv (i := 0) (v := .int .i64 24) rfl
 have x1 := rX.cellv (i := 1) (v := .int .i64 nn) rfl
 clear hm hX rX b1 Hm0
 obtain ⟨qn, hqn, hatn⟩ := X0 Hat.out (i := 1) (k := b) rfl
 have Hqn := Lh hqn
 have Hatn := Lh hatn
 clear hqn hatn
 go_wp2_with fail
 go_loopw [] (fun wr => ∃ (sk : Ms) (evk : Value), Hid (WhD L a b sk s') ∧ Hid (DR L sk evk wr) ∧ Hid (RChg L ev0 W0 evk wr) ∧ Hid (FRow L evk wr X 85 #[.int .i64 24, .int .i64 nn])) (fun wr => L.F - stepsIn L wr)
 case atStart => exact ⟨t, ev0, Hw, Hm, HC, HX⟩
 case round =>
  clear Hw Hm HC HX x0 x1
  obtain ⟨sk, evk, Hw, Hm, HC, HX⟩ := hrel
  have hst := Hm.out.stepsIn
  obtain ⟨v, t1, h1, halt⟩ := Afu Hw.out
  have Hst := Lh hst
  have Halt := Lh halt
  have Hcall := Lh (EntD.at1 h1 Hat.out.kids.head Hm.out)
  clear hst h1 halt
  go_wp2_with fail
  refine Hcall.out.mono ?_
  rintro e Wa ⟨rfl, eva, hma, hca⟩
  replace HX := Lh (HX.out.go HL.out hca)
  replace HC := Lh (HC.out.trans hca)
  clear Hcall Hm
  have Hm := Lh hma
  clear hma hca
  rcases Halt.out with ⟨ho1, rfl⟩ | ⟨ho1, hv1, rfl⟩ | ⟨ho1, rfl, u, t2, h2, halt2⟩
  · clear Halt
    obtain ⟨⟨ok, ox⟩, hoo⟩ := Option.isSome_iff_exists.1 ho1
    rw [QO hoo]
    simp only [QV]
    have Hoo := Lh hoo
    clear hoo ho1
    go_wp2
    exact ⟨rfl, (ZW Hoo.out).symm, eva, Hm.out, HC.out⟩
  · rw [QA ho1]
    have Ho1 := Lh ho1
    have ev1 : (v == 1) = false := by simpa using hv1
    have x0 := HX.out.2.cellv (i := 0) (v := .int .i64 24) rfl
    clear ho1 hv1 Halt
    go_wp2
    go_end0
    exact ⟨(JA Ho1.out).symm, eva, Hm.out, HC.out⟩
  · rw [QA ho1]
    have Halt2 := Lh halt2
    have H2 := Lh h2
    clear ho1 Halt halt2 h2
    go_wp2_with fail
    refine (Aaz L HL.out t1 eva q _ [a, b] 1 1 rfl qn Wa Hm.out Hat.out Hqn.out).mono ?_
    rintro e Wb ⟨rfl, bb⟩
    have Hm2 := Lh (Hm.out.below HL.out bb)
    have hcb : RChg L eva Wa eva Wb := RChg.below bb
    have HC2 := Lh (HC.out.trans hcb)
    have HX2 := Lh (HX.out.go HL.out hcb)
    clear bb hcb Hm HC HX
    have Hcall := Lh (H2.out qn eva Wb Hatn.out Hm2.out)
    go_wp2_with fail
    refine Hcall.out.mono ?_
    rintro e Wc ⟨rfl, evc, hmc, hcc⟩
    have Hm := Lh hmc
    have HC := Lh (HC2.out.trans hcc)
    have HX := Lh (HX2.out.go HL.out hcc)
    have c2 := hmc.row.cellv (i := 2) (v := .int .i64 (L.F : Int)) rfl
    have c5 := hmc.row.cellv (i := 5) (v := .int .i64 (t2.steps : Int)) rfl
    have hsum := hmc.sum
    clear hmc hcc Hm2 HC2 HX2 Hcall
    rcases Halt2.out with ⟨ho2, rfl⟩ | ⟨ho2, hf2, rfl⟩ | ⟨hg2, hle, hw2⟩
    · clear Halt2 c2 c5
      obtain ⟨⟨ok, ox⟩, hoo⟩ := Option.isSome_iff_exists.1 ho2
      rw [QO hoo]
      simp only [QV]
      have Hoo := Lh hoo
      clear hoo ho2
      go_wp2
      exact ⟨rfl, (ZW Hoo.out).symm, evc, Hm.out, HC.out⟩
    · rw [QA ho2]
      have hd : L.F ≤ t2.steps := by omega
      have Ho2 := Lh ho2
      clear ho2 hf2 hsum Halt2
      go_wp2_with fail
      go_quiet (fail)
      go_wp2_with fail
      refine (XE _ _ _).mono ?_
      rintro e w' ⟨rfl, rfl⟩
      simp only [QV]
      clear c2 c5
      go_wp2
      exact ⟨rfl, rfl, evc, (Hm.out.drew HL.out _).stop _ _, HC.out.trans (.below ⟨rfl, rfl, rfl, Nat.le_refl _, fun _ _ => rfl⟩)⟩
    · rw [QA hg2.1]
      have hd : ¬ L.F ≤ t2.steps := by have := hg2.2; omega
      have ews : IntKind.i64.wrap ((t2.steps : Int) + 1) = (t2.steps : Int) + 1 := IntWalk.i64_in _ (by omega)
      have hsum2 : t2.tick.steps + t2.tick.fuel = L.F := by have := hg2.2; simp only [Ms.tick]; omega
      have Hg2 := Lh hg2
      have Hs2 := Lh hsum2
      have Hw2 := Lh hw2
      have Hle := Lh hle
      clear hg2 hw2 hle Halt2 hsum hsum2
      go_wp2_with fail
      go_quiet (fail)
      obtain ⟨W0', hW0⟩ : ∃ W0', W0' = Wc.drewN nq := ⟨_, rfl⟩
      rw [← hW0]
      have hm0 : DR L t2 evc W0' := by rw [hW0]; exact Hm.out.drew HL.out _
      have hc0 : RChg L evc Wc evc W0' := by rw [hW0]; exact .below ⟨rfl, rfl, rfl, Nat.le_refl _, fun _ _ => rfl⟩
      have HX0 := Lh (HX.out.go HL.out hc0)
      have HC0 := Lh (HC.out.trans hc0)
      have Hm0 := Lh hm0
      replace c5 := hm0.row.cellv (i := 5) (v := .int .i64 (t2.steps : Int)) rfl
      clear hm0 hc0 hW0 c2 Hm HX HC hd
      go_wp2_with (refine Ql _ _ _ rfl ?_)
      refine Stop.to ?_
      refine Qk rfl 3 _ _ rfl L.M 5 rfl _ rfl [.int .i64 ((t2.steps : Int) + 1)] rfl 108 _ (L.dcells t2.tick evc) Hm0.out.row (by kernel_rfl) (by show 5 + 1 ≤ 7; omega) (by simp [Value.oneCell']) rfl ?_
      intro W2 r2 o2
      have m2 : DR L t2.tick evc W2 := Hm0.out.setM HL.out o2 r2 rfl rfl rfl Hs2.out (by simp [Ms.tick])
      have c2' : RChg L evc W0' evc W2 := RChg.only o2 (.inl rfl)
      have HX2 := Lh (HX0.out.go HL.out c2')
      have HC2 := Lh (HC0.out.trans c2')
      have Hm2 := Lh m2
      clear r2 o2 m2 c2' c5 Hm0 HC0 HX0 ews
      go_wp2_with fail
      refine ⟨?_, ?measure⟩
      · repeat apply Exists.intro
        refine ⟨?_, rfl⟩
        exact ⟨t2.tick, evc, Hw2, Hm2, HC2, HX2⟩
      case measure => rw [Hm2.out.stepsIn, Hst.out]; have := Hle.out; have := Hs2.out; simp only [Ms.tick] at this ⊢; omega
end Go.Proofs.YtdcmppdhdcjpfaaGreat
