/- Lemmas for VerdictMoreP. -/
import Derived.Test.YtdcmppdhdcjpfaaGreatZr1
import Derived.Test.YtdcmppdhdcjpfaaGreatZr24
import Derived.Test.YtdcmppdhdcjpfaaGreatZr25
import Derived.Test.YtdcmppdhdcjpfaaGreatZr23
import Derived.Test.YtdcmppdhdcjpfaaGreatZr5
import Derived.WalkMore
set_option linter.unusedVariables false
set_option linter.unusedSimpArgs false
set_option maxRecDepth 100000
set_option maxHeartbeats 16000000
namespace Go.Proofs.YtdcmppdhdcjpfaaGreat
open Go.RowKit Go.Deep
section
variable {L : Lay} {s : Ms} {ev : Value} {W : World}
theorem RR.setVal (h : RR L s ev W) (hL : LOk0 L) (n : Nat) (v : Int) (hn : n < s.vals.length) : ∃ g cap cur, L.vv = .slice (some ⟨g, 0, none⟩) s.vals.length cap ∧ Row W g 3 cur ∧ n < cur.size ∧ ∀ W1, Only g W W1 → Row W1 g 3 (cur.setIfInBounds n (.int .i64 v)) → RR L { s with vals := s.vals.set n v } ev W1 ∧ RChg L ev W ev W1 := by
 rcases h.core.vals.2 with ⟨_, h0⟩ | ⟨g, cap, cur, hv, hb, hh, hc, hm, hsz, ht⟩
 · have := h.core.vals.1; rw [h0] at this; simp [Qi] at this; omega
 · have hgb : L.vv.ownBlock = some g := by rw [hv]; rfl
   refine ⟨g, cap, cur, hv, hh, by omega, fun W1 o r1 => ?_⟩
   have hlt := hL.vlt g hgb
   have ne : ∀ {e : TypeId} {size m : Nat} {u : Value} {xs : List Value}, W.ownsRow L.b1 e size u m xs → W1.ownsRow L.b1 e size u m xs := fun h' => QA h' o (fun e => by have := QN h' e; omega)
   refine ⟨⟨h.row.only o (fun e => hlt.2.1 e.symm), ⟨ne h.core.evs, ⟨by have := h.core.vals.1; simp [Qi] at this ⊢, .inr ⟨g, cap, _, by simpa using hv, hb, r1, by simpa using hc, hm, by simpa using hsz, ?_⟩⟩, ?_, fun y hy => ne (h.core.fr y hy), h.core.dist, hL.im _ _ h.core.im (.only o (.inr (.inr (.inl hgb)))), by rw [o.size]; exact h.core.size, h.core.sum, h.core.few⟩⟩, .only o (.inr (.inl hgb))⟩
   · simp only [Array.toList_setIfInBounds, List.length_set]
     rw [List.take_set, ht]
     simp [Qi, List.map_set]
   · intro i g' a hi ha
     exact (h.core.arrs i g' a hi ha).only o (fun e => hlt.2.2 (by subst e; exact List.mem_of_getElem? hi))
theorem RR.setArr (h : RR L s ev W) (hL : LOk0 L) (n i : Nat) (v : Int) (a : List Int) (g : Nat) (hg : L.ab[n]? = some g) (ha : s.arrs[n]? = some a) : Row W g 3 (Qi a).toArray ∧ ∀ W1, Only g W W1 → Row W1 g 3 ((Qi a).toArray.setIfInBounds i (.int .i64 v)) → RR L { s with arrs := s.arrs.set n (a.set i v) } ev W1 ∧ RChg L ev W ev W1 := by
 refine ⟨h.core.arrs n g a hg ha, fun W1 o r1 => ?_⟩
 have hm := List.mem_of_getElem? hg
 have hlt := hL.alt g hm
 have ne : ∀ {e : TypeId} {size m : Nat} {u : Value} {xs : List Value}, W.ownsRow L.b1 e size u m xs → W1.ownsRow L.b1 e size u m xs := fun h' => QA h' o (fun e => by have := QN h' e; omega)
 refine ⟨⟨h.row.only o (fun e => hlt.2 e.symm), ⟨ne h.core.evs, QA h.core.vals o (fun e => (hL.vlt g e).2.2 hm), ?_, fun y hy => ne (h.core.fr y hy), h.core.dist, hL.im _ _ h.core.im (.only o (.inr (.inr (.inr hm)))), by rw [o.size]; exact h.core.size, h.core.sum, h.core.few⟩⟩, .only o (.inr (.inr hm))⟩
 intro j g' b hj hb
 by_cases hjn : j = n
 · subst hjn
   rw [hg] at hj; cases hj
   have hjl : j < s.arrs.length := (List.getElem?_eq_some_iff.1 ha).1
   simp only [List.getElem?_set_self hjl, Option.some.injEq] at hb
   subst hb
   have : (Qi (a.set i v)).toArray = (Qi a).toArray.setIfInBounds i (.int .i64 v) := by simp [Qi, List.map_set]
   rw [this]; exact r1
 · have hb' : s.arrs[j]? = some b := by simpa [List.getElem?_set, Ne.symm hjn] using hb
   refine (h.core.arrs j g' b hj hb').only o (fun e => hjn ?_)
   subst e
   obtain ⟨l1, e1⟩ := List.getElem?_eq_some_iff.1 hg
   obtain ⟨l2, e2⟩ := List.getElem?_eq_some_iff.1 hj
   rcases Nat.lt_trichotomy j n with hl | hl | hl
   · exact absurd (e2.trans e1.symm) (List.pairwise_iff_getElem.1 hL.and j n l2 l1 hl)
   · exact hl
   · exact absurd (e1.trans e2.symm) (List.pairwise_iff_getElem.1 hL.and n j l1 l2 hl)
end
theorem AdX {w : World} {b : Nat} {v : Value} {l vs : List Int} {a : Int} (h : w.ownsRow b 3 1 v l.length (Qi l)) (hl : l = a :: vs) : ∃ vd n cap c, v = .slice (some vd) (n + 1) cap ∧ w.cell? vd = some (.int .i64 c) ∧ c = a := by
 obtain ⟨g, cap, m, h1, h2⟩ := Y1 h hl
 exact ⟨_, m, cap, a, h1, h2, rfl⟩
theorem Afa (L : Lay) (hL : LOk L) (s : Ms) (x : FrV) (rs : List FrV) (sv ev : Value) (SB cap : Nat) (cur : Array Value) (W : World) (hm : MR L s (x :: rs) sv ev W) (ht : Top L W x rs sv SB cap cur) (hf : FOk L.p.body x.f) (i q : Nat) (hi : NextK x.f i) (hq : (Ze (x.f.at_ + 1) x.f.t.kids)[i]? = some q) :
 Calls Tryz.prog 61 #[.pointer (some ⟨L.M, 0, none⟩), .pointer (some ⟨SB, rs.length * 3, none⟩)] W fun e W' => ∃ n, e = .returned (.tuple #[.int .i64 (q : Int), .bool true]) ∧ W' = W.drewN n := by
 have few := hf.few
 have hkid := hf.kid
 obtain ⟨kd, h⟩ := Ajh hL hm ht hf.hat (by omega)
 have hx := hm.core.fr x (by simp)
 rcases hi.how with ⟨h23, h1, v, vs, hv, h01, hiv⟩ | ⟨rfl, hn, ha⟩
 · obtain ⟨vd, n, c, v', hxv, cv, rfl⟩ := AdX hx hv
   exact Ace L SB _ _ _ _ _ kd _ _ i q v' vd n c W h hq h23 h1 hxv cv h01 hiv
 · refine AdA L SB _ _ _ _ _ kd _ _ q W h hi.lt hq hn (fun h1 hask => ?_)
   obtain ⟨v, vs, hv, hs⟩ := ha h1 hask
   obtain ⟨vd, n, c, v', hxv, cv, rfl⟩ := AdX hx hv
   exact ⟨vd, n, c, v', hxv, cv, hs⟩
theorem Age (L : Lay) (hL : LOk L) (s : Ms) (x : FrV) (rs : List FrV) (sv ev : Value) (SB cap : Nat) (cur : Array Value) (W : World) (hm : MR L s (x :: rs) sv ev W) (ht : Top L W x rs sv SB cap cur) (hf : FOk L.p.body x.f) (hi : NextNo x.f) :
 Calls Tryz.prog 61 #[.pointer (some ⟨L.M, 0, none⟩), .pointer (some ⟨SB, rs.length * 3, none⟩)] W fun e W' => ∃ n, e = .returned (.tuple #[.int .i64 0, .bool false]) ∧ W' = W.drewN n := by
 have few := hf.few
 have hkid := hf.kid
 obtain ⟨kd, h⟩ := Ajh hL hm ht hf.hat (by omega)
 have hx := hm.core.fr x (by simp)
 refine Acf L SB _ _ _ _ _ kd _ _ W h ?_
 rcases hi.how with ⟨h1, v, vs, hv, hs⟩ | ⟨h1, h2⟩
 · obtain ⟨vd, n, c, v', hxv, cv, rfl⟩ := AdX hx hv
   exact .inl ⟨h1, vd, n, c, v', hxv, cv, hs⟩
 · exact .inr ⟨h1, h2⟩
theorem MR.more {L : Lay} {s : Ms} {x : FrV} {rs : List FrV} {sv ev : Value} {W W' : World} {SB cap : Nat} {cur : Array Value} (h : MR L s (x :: rs) sv ev W) (hL : LOk L) (ht : Top L W x rs sv SB cap cur) (o : Only SB W W') (hr : Row W' SB 128 (ZD cur (rs.length * 3 + 1) [.int .i64 ((x.f.kid + 1 : Nat) : Int)])) : MR L s (⟨x.f.more, x.v⟩ :: rs) sv ev W' := by
 have hSB := ht.lo
 have t3 := ht.put (x' := ⟨x.f.more, x.v⟩) (j := 1) (u := .int .i64 ((x.f.kid + 1 : Nat) : Int)) (by decide) rfl hr
 have hne : SB ≠ L.M := by have := hL.lt; omega
 have k := h.core.onlyStack hL o ht.row hSB
 refine ⟨h.row.only o (fun e => hne e.symm), t3.own, ⟨k.evs, k.vals, k.arrs, fun y hy => ?_, ?_, k.im, k.size, k.sum, by have := k.few; simpa using this⟩⟩
 · rcases List.mem_cons.1 hy with rfl | hy
   · exact k.fr x (by simp)
   · exact k.fr y (by simp [hy])
 · exact List.pairwise_cons.2 ⟨(List.pairwise_cons.1 k.dist).1, (List.pairwise_cons.1 k.dist).2⟩
def JU (V args : List Int) : List Int := (List.range V.length).map fun i => args.getD i 0
def EL (V : List Int) : List (List Int) := V.map fun t => List.replicate (QU t).toNat 0
def ZR (V args : List Int) (F : Nat) : Ms := ⟨JU V args, EL V, F, 0, [], none⟩
structure LNew (B : Nat) (L : Lay) : Prop where
 m : B ≤ L.M
 b1 : B ≤ L.b1
 vv : ∀ g, L.vv.ownBlock = some g → B ≤ g
 ab : ∀ g ∈ L.ab, B ≤ g
theorem Chg.new {L : Lay} {B : Nat} {W W' : World} (h : Chg L W W') (n : LNew B L) : Below B W W' :=
 ⟨h.os, h.tape, h.output, h.size, fun k hk => h.block k (by have := n.b1; omega) (by have := n.m; omega) (fun e => by have := n.vv k e; omega) (fun e => by have := n.ab k e; omega)⟩
structure LoadR (p : PgV) (args : List Int) (F : Nat) (w w' : World) (e : Ending) : Prop where
 ex : ∃ L : Lay, e = .returned (.pointer (some ⟨L.M, 0, none⟩)) ∧ L.p = p ∧ L.F = F ∧ LOk L ∧ MRx L ⟨ZR p.V args F, []⟩ w' ∧ Below w.heap.size w w' ∧ LNew w.heap.size L
theorem LenS.init (V args : List Int) (F : Nat) : LenS V (ZR V args F) := by
 refine ⟨by simp [ZR, JU], by simp [ZR, EL], fun i t a h1 h2 => ?_⟩
 simp only [ZR, EL, List.getElem?_map, h1, Option.map_some, Option.some.injEq] at h2
 subst h2
 rw [List.length_replicate]
 unfold QU
 split <;> omega
def RP (L : Lay) (fin : Mm) (W : World) (n : Nat) : Prop := ∃ m, SOk L.p.body m.stack ∧ LenS L.p.V m.s ∧ MRx L m W ∧ ReachN n m fin
theorem Aav {w : World} : (zeroValue 40).run Tryz.prog w = .ok (.agg #[.int .i64 0, .int .i64 0, .int .i64 0, .slice none 0 0]) w := by kernel_rfl
theorem Uo {L : Lay} {s : Ms} {fs : List FrV} {sv ev : Value} {W : World} (h : MR L s fs sv ev W) (j : Nat) (v : Value) (hj : ([.int .i64 (s.out.getD (0, 0)).1, .int .i64 (s.out.getD (0, 0)).2, .int .i64 (s.steps : Int), ev] : List Value)[j]? = some v) : W.cell? ((⟨L.M, 8, none⟩ : Addr).add j) = some v := by
 match j, hj with
 | 0, hj => injection hj with hj; subst hj; exact h.row.cellv (i := 8) rfl
 | 1, hj => injection hj with hj; subst hj; exact h.row.cellv (i := 9) rfl
 | 2, hj => injection hj with hj; subst hj; exact h.row.cellv (i := 10) rfl
 | 3, hj => injection hj with hj; subst hj; exact h.row.cellv (i := 11) rfl
 | j + 4, hj => cases hj
theorem UW (a b c : Int) {ev : Value} (h : ev.oneCell' = true) : (#[.int .i64 a, .int .i64 b, .int .i64 c, ev] : Array Value).all (·.oneCell') = true := by
 have : ([.int .i64 a, .int .i64 b, .int .i64 c, ev] : List Value).all (·.oneCell') = true := by
  rw [List.all_eq_true]
  intro u hu
  simp only [List.mem_cons, List.not_mem_nil, or_false] at hu
  rcases hu with rfl | rfl | rfl | rfl
  · rfl
  · rfl
  · rfl
  · exact h
 simpa only [List.all_toArray] using this
structure RunR (fin : Mm) (w w' : World) (e : Ending) : Prop where
 ex : ∃ ev, e = .returned (.tuple #[.agg #[.int .i64 (fin.s.out.getD (0, 0)).1, .int .i64 (fin.s.out.getD (0, 0)).2, .int .i64 (fin.s.steps : Int), ev], .int .i64 0]) ∧ w'.ownsRow w.heap.size 189 3 ev fin.s.evs.length (fin.s.evs.flatMap EvV.cells) ∧ Below w.heap.size w w'
theorem Agg (p : PgV) (t : Tr) (aa : Option Addr) (acap : Nat) (args : List Int) (fuel : Int) (fin : Mm) (w : World) (hbl : p.body.length ≤ 1000) (hn : args.length ≤ 1000) (hok : p.ok w) (hg : Good p t)
 (hc : Zr p args.length fuel = 0)
 (hld : ∀ w', p.ok w' → Below w.heap.size w w' → Calls Tryz.prog 58 #[.agg p.cells, .slice aa args.length acap, .int .i64 fuel] w' fun e w'' => LoadR p args fuel.toNat w' w'' e)
 (hfin : Reach (ZN 0 t ⟨ZR p.V args fuel.toNat, []⟩) fin) (ho : fin.s.out.isSome = true) :
 Calls Tryz.prog 20 #[.agg p.cells, .slice aa args.length acap, .int .i64 fuel] w fun e w' => RunR fin w w' e := by
 have Hok := Lh hok
 have Hg := Lh hg
 have Hbl := Lh hbl
 have Hn := Lh hn
 have Hld := Lh hld
 have Hfin := Lh hfin
 have Ho := Lh ho
 have Hc := Lh hc
 clear hok hg hbl hn hld hfin ho hc
 go_enter Tryz.func20, Tryz.ntmps20
 go_wp2_with (refine Qp _ _ rfl ?_)
 refine Stop.to ?_
 refine Qf rfl 25 _ rfl p.cells rfl ?_
 intro G w1 hG r1 b1
 replace b1 := (Below.refl w.heap.size w).trans (b1.mono hG)
 clear hG
 go_wp2_with (refine QY _ rfl ?_)
 refine Stop.to ?_
 refine Ql rfl 40 rfl _ _ Aav rfl ?_
 intro RB w2 hRB rB b2
 replace r1 := r1.below (b2.mono hRB) r1.lt
 have hRBw : w.heap.size ≤ RB := Nat.le_trans b1.size hRB
 replace b2 := b1.trans ((b2.mono hRB).mono b1.size)
 have R1 := Lh r1
 have RB2 := Lh rB
 have B2 := Lh b2
 clear r1 b1 b2 rB hRB w1
 go_wp2_with fail
 refine wp_scope_straight ?_
 go_wp2_with (refine wpList_load_row rfl 25 _ rfl G rfl 25 p.cells (0, 0) _ R1.out Tryz.underlying25 rfl (by kernel_rfl) ?_)
 refine (VA p aa acap args.length fuel Hbl.out Hn.out w2 (Hok.out.go B2.out)).mono ?_
 rintro e w3 ⟨rfl, b3⟩
 rw [Hc.out]
 have R3 := Lh (R1.out.below b3 R1.out.lt)
 have RB3 := Lh (RB2.out.below b3 RB2.out.lt)
 have B3 := Lh (B2.out.trans (b3.mono B2.out.size))
 clear b3 R1 RB2 B2
 go_wp2_with (refine wpList_load_row rfl 25 _ rfl G rfl 25 p.cells (0, 0) _ R3.out Tryz.underlying25 rfl (by kernel_rfl) ?_)
 refine (Hld.out w3 (Hok.out.go B3.out) B3.out).mono ?_
 rintro e w4 ⟨L, rfl, hLp, hLF, hL, hm, b4, hnew⟩
 subst hLp
 have HL := Lh hL
 have Hm := Lh hm
 have Hnew := Lh hnew
 have RB4 := Lh (RB3.out.below b4 RB3.out.lt)
 have B4 := Lh (B3.out.trans (b4.mono B3.out.size))
 have hRB4 := RB3.out.lt
 have hw3 := B3.out.size
 clear b4 RB3 B3 R3 hL hm hnew Hld
 go_wp2_with fail
 refine Calls.mono (show Calls Tryz.prog 60 #[.pointer (some ⟨L.M, 0, none⟩), .int .i64 0] w4 _ from Yj L HL.out ⟨ZR L.p.V args fuel.toNat, []⟩ 0 t w4 Hm.out) ?_
 rintro e w5 ⟨⟨u, rfl⟩, h5, g5⟩
 obtain ⟨n0, hn0⟩ := Hfin.out.count
 have rp0 : RP L fin w5 n0 := ⟨_, (SOk.nil _).enter (fun g hg => by simp at hg) Hg.out.hat, (LenS.init _ _ _).enter, h5, hn0⟩
 have RP5 := Lh rp0
 have g5' := g5.new Hnew.out
 have RB5 := Lh (RB4.out.below g5' hRB4)
 have B5 := Lh (B4.out.trans (g5'.mono hw3))
 clear h5 g5 hn0 rp0 g5' RB4 B4 Hm Hfin
 go_wp2_with fail
 refine wp_label ?_
 go_wp2_with fail
 go_loopw [11, 12, 13] (fun _ _ _ W => Hid (∃ n, RP L fin W n) ∧ Hid (Row W RB 40 #[.int .i64 0, .int .i64 0, .int .i64 0, .slice none 0 0]) ∧ Hid (Below w.heap.size w W)) (fun _ _ _ W => AaO (RP L fin W))
 case atStart => exact ⟨Lh ⟨n0, RP5.out⟩, RB5, B5⟩
 case round =>
  obtain ⟨hrp, RBr, Br⟩ := hrel
  obtain ⟨⟨m, sok, lens, hmx, hrn⟩, hmin⟩ := XO hrp.out
  clear RP5 RB5 B5 hrp
  obtain ⟨fs, sv, ev, hfs, hm⟩ := hmx
  have c12 := hm.row.cellv (i := 12) (v := .bool m.s.out.isSome) rfl
  have c7 := hm.row.cellv (i := 7) (v := sv) rfl
  have Hm := Lh hm
  generalize hN : AaO (RP L fin wr) = N at hrn hmin
  have HN := Lh hN
  clear hN
  cases hrn with
  | refl =>
   rw [Ho.out] at c12
   have hov := Jl hm.core.evs
   have Hov := Lh hov
   clear hov
   go_wp2_with (first
    | (refine QH rfl 40 _ rfl ⟨L.M, 8, none⟩ rfl [.int .i64 (fin.s.out.getD (0, 0)).1, .int .i64 (fin.s.out.getD (0, 0)).2, .int .i64 (fin.s.steps : Int), ev] _ (Uo Hm.out) Tryz.underlying40 rfl (by kernel_rfl) ?_)
    | (refine Qk rfl 40 _ _ rfl RB #[.int .i64 (fin.s.out.getD (0, 0)).1, .int .i64 (fin.s.out.getD (0, 0)).2, .int .i64 (fin.s.steps : Int), ev] rfl rfl 40 _ RBr.out (by kernel_rfl) rfl (UW _ _ _ Hov.out) ?_; intro W9 r9 o9))
   rw [Exit.noGoto_ret]
   refine bodyPost_ret (QS Tryz.results20 _ _ RB 40 _ (0, 0) _ rfl r9 Tryz.underlying40 rfl (by kernel_rfl)) rfl ?_
   exact ⟨ev, rfl, QI (QA hm.core.evs o9 (Qz hm.core.evs RBr.out (by decide))) (Nat.le_trans hw3 Hnew.out.b1), Qo Br.out o9 hRBw⟩
  | step n _ m' _ ho hst hr =>
   rw [ho] at c12
   replace c12 : wr.cell? ⟨L.M, 12, none⟩ = some (.bool false) := c12
   have Sok := Lh sok
   have Lens := Lh lens
   clear hmin sok lens
   cases hst with
   | done s =>
    obtain rfl : fs = [] := by simpa using hfs
    cases hr with
    | step n _ m' _ ho2 hst2 hr2 => cases ho2
    | refl =>
     have hstk := hm.stack
     clear hm hfs
     rcases hstk.2 with ⟨hsv, _⟩ | ⟨g, cap, cur, hsv, _⟩
     · rw [hsv] at c7
       clear hsv hstk
       go_wp2_with fail
       refine Calls.mono (Xd L HL.out ⟨s, []⟩ 3 0 wr ⟨[], sv, ev, rfl, Hm.out⟩) ?_
       rintro e W7 ⟨⟨u7, rfl⟩, ⟨fs7, sv7, ev7, hfs7, hm⟩, g7⟩
       have g8 := g7.new Hnew.out
       replace RBr := Lh (RBr.out.below g8 hRB4)
       replace Br := Lh (Br.out.trans (g8.mono hw3))
       clear Hm g7 g8 c7 c12
       have Hm := Lh hm
       have hov := Jl hm.core.evs
       have Hov := Lh hov
       clear hov
       go_wp2_with (first
        | (refine QH rfl 40 _ rfl ⟨L.M, 8, none⟩ rfl [.int .i64 ((s.stop 3 0).out.getD (0, 0)).1, .int .i64 ((s.stop 3 0).out.getD (0, 0)).2, .int .i64 ((s.stop 3 0).steps : Int), ev7] _ (Uo Hm.out) Tryz.underlying40 rfl (by kernel_rfl) ?_)
        | (refine Qk rfl 40 _ _ rfl RB #[.int .i64 ((s.stop 3 0).out.getD (0, 0)).1, .int .i64 ((s.stop 3 0).out.getD (0, 0)).2, .int .i64 ((s.stop 3 0).steps : Int), ev7] rfl rfl 40 _ RBr.out (by kernel_rfl) rfl (UW _ _ _ Hov.out) ?_; intro W9 r9 o9))
       rw [Exit.noGoto_ret]
       refine bodyPost_ret (QS Tryz.results20 _ _ RB 40 _ (0, 0) _ rfl r9 Tryz.underlying40 rfl (by kernel_rfl)) rfl ?_
       exact ⟨ev7, rfl, QI (QA hm.core.evs o9 (Qz hm.core.evs RBr.out (by decide))) (Nat.le_trans hw3 Hnew.out.b1), Qo Br.out o9 hRBw⟩
     · rw [hsv] at c7
       clear hsv hstk
       go_wp2_with fail
       refine Calls.mono (Xd L HL.out ⟨s, []⟩ 3 0 wr ⟨[], sv, ev, rfl, Hm.out⟩) ?_
       rintro e W7 ⟨⟨u7, rfl⟩, ⟨fs7, sv7, ev7, hfs7, hm⟩, g7⟩
       have g8 := g7.new Hnew.out
       replace RBr := Lh (RBr.out.below g8 hRB4)
       replace Br := Lh (Br.out.trans (g8.mono hw3))
       clear Hm g7 g8 c7 c12
       have Hm := Lh hm
       have hov := Jl hm.core.evs
       have Hov := Lh hov
       clear hov
       go_wp2_with (first
        | (refine QH rfl 40 _ rfl ⟨L.M, 8, none⟩ rfl [.int .i64 ((s.stop 3 0).out.getD (0, 0)).1, .int .i64 ((s.stop 3 0).out.getD (0, 0)).2, .int .i64 ((s.stop 3 0).steps : Int), ev7] _ (Uo Hm.out) Tryz.underlying40 rfl (by kernel_rfl) ?_)
        | (refine Qk rfl 40 _ _ rfl RB #[.int .i64 ((s.stop 3 0).out.getD (0, 0)).1, .int .i64 ((s.stop 3 0).out.getD (0, 0)).2, .int .i64 ((s.stop 3 0).steps : Int), ev7] rfl rfl 40 _ RBr.out (by kernel_rfl) rfl (UW _ _ _ Hov.out) ?_; intro W9 r9 o9))
       rw [Exit.noGoto_ret]
       refine bodyPost_ret (QS Tryz.results20 _ _ RB 40 _ (0, 0) _ rfl r9 Tryz.underlying40 rfl (by kernel_rfl)) rfl ?_
       exact ⟨ev7, rfl, QI (QA hm.core.evs o9 (Qz hm.core.evs RBr.out (by decide))) (Nat.le_trans hw3 Hnew.out.b1), Qo Br.out o9 hRBw⟩
   | kid s f r i q k hi hq hk =>
    obtain ⟨x, rs, rfl⟩ : ∃ x rs, fs = x :: rs := by cases fs with
     | nil => simp at hfs
     | cons x rs => exact ⟨x, rs, rfl⟩
    simp only [List.map_cons, List.cons.injEq] at hfs
    obtain ⟨rfl, rfl⟩ := hfs
    obtain ⟨SB, cap, cur, ht⟩ := Abd hm.stack
    have Ht := Lh ht
    rw [ht.sve] at c7
    have hrl : rs.length ≤ 20001 := by have h1 := hm.few1; have h2 := hm.core.sum; have h3 := HL.out.F; dsimp only at *; omega
    have hle := ht.le
    have hmx := ht.max
    have e0 : (((rs.length : Nat) : Int) + 1 == 0) = false := by simp; omega
    have ew : IntKind.i64.wrap (rs.length : Int) = (rs.length : Int) := IntWalk.i64_in _ (by omega)
    clear hm ht
    go_wp2_with fail
    go_quiet (fail)
    have hd : Below wr.heap.size wr (wr.drewN nq) := ⟨rfl, rfl, rfl, Nat.le_refl _, fun _ _ => rfl⟩
    go_wp2_with fail
    refine (Afa L HL.out s x rs sv ev SB cap cur _ (Hm.out.drew HL.out nq) (Ht.out.below hd) (Sok.out.top _ _ rfl) i q hi hq).mono ?_
    rintro e W2 ⟨nd, rfl, rfl⟩
    have hd2 : Below wr.heap.size wr ((wr.drewN nq).drewN nd) := ⟨rfl, rfl, rfl, Nat.le_refl _, fun _ _ => rfl⟩
    have hm2 := Hm.out.below HL.out hd2
    have ht2 := Ht.out.below hd2
    replace RBr := Lh (RBr.out.below hd2 RBr.out.lt)
    replace Br := Lh (Br.out.trans (hd2.mono Br.out.size))
    clear hd hd2 Hm Ht c7 c12 hle hmx e0 ew
    generalize (wr.drewN nq).drewN nd = W2 at hm2 ht2 RBr Br ⊢
    have hkl := (Sok.out.top _ _ rfl).few
    have hkl2 := (Sok.out.top _ _ rfl).kid
    have c1 := ht2.cell 1 _ rfl
    have ewk : IntKind.i64.wrap ((x.f.kid : Int) + 1) = (x.f.kid : Int) + 1 := IntWalk.i64_in _ (by omega)
    go_wp2_with (refine QD _ _ _ rfl ?_)
    refine Stop.to ?_
    refine QJ rfl 3 _ _ rfl SB (rs.length * 3 + 1) rfl _ rfl [.int .i64 ((x.f.kid : Int) + 1)] rfl 128 _ _ ht2.row (by kernel_rfl) (by have := ht2.hi; simp; omega) (by simp [Value.oneCell']) rfl ?_
    intro W3 r3 o3
    have hm3 := hm2.more HL.out ht2 o3 r3
    have g3 : Chg L W2 W3 := .only o3 (.inl ht2.lo)
    have ok3 := (Step.kid s x.f _ i q k hi hq hk).ok Sok.out Lens.out
    have Ok3 := Lh ok3
    have Hm3 := Lh hm3
    have G3 := Lh g3
    clear c1 ewk r3 o3 hm2 ht2 hm3 g3 ok3 hi hq hk
    go_wp2_with fail
    refine Calls.mono (Yj L HL.out ⟨s, x.f.more :: rs.map FrV.f⟩ q k W3 ⟨⟨x.f.more, x.v⟩ :: rs, sv, ev, rfl, Hm3.out⟩) ?_
    rintro e W4 ⟨⟨u4, rfl⟩, h4, g4⟩
    have g5 := (G3.out.trans g4).new Hnew.out
    have rp : RP L fin W4 n := ⟨_, Ok3.out.1, Ok3.out.2, h4, hr⟩
    have Rp := Lh rp
    have RB7 := Lh (RBr.out.below g5 hRB4)
    have B7 := Lh (Br.out.trans (g5.mono hw3))
    clear g5 g4 h4 rp
    go_wp2_with fail
    go_roundw
    case rel => exact ⟨Lh ⟨n, Rp.out⟩, RB7, B7⟩
    case measure =>
     have h2 := (XO ⟨n, Rp.out⟩).2 n Rp.out
     omega
   | fin s f r _ hno hf =>
    obtain ⟨x, rs, rfl⟩ : ∃ x rs, fs = x :: rs := by cases fs with
     | nil => simp at hfs
     | cons x rs => exact ⟨x, rs, rfl⟩
    simp only [List.map_cons, List.cons.injEq] at hfs
    obtain ⟨rfl, rfl⟩ := hfs
    obtain ⟨SB, cap, cur, ht⟩ := Abd hm.stack
    have Ht := Lh ht
    rw [ht.sve] at c7
    have hrl : rs.length ≤ 20001 := by have h1 := hm.few1; have h2 := hm.core.sum; have h3 := HL.out.F; dsimp only at *; omega
    have hle := ht.le
    have hmx := ht.max
    have e0 : (((rs.length : Nat) : Int) + 1 == 0) = false := by simp; omega
    have ew : IntKind.i64.wrap (rs.length : Int) = (rs.length : Int) := IntWalk.i64_in _ (by omega)
    clear hm ht
    go_wp2_with fail
    go_quiet (fail)
    have hd : Below wr.heap.size wr (wr.drewN nq) := ⟨rfl, rfl, rfl, Nat.le_refl _, fun _ _ => rfl⟩
    go_wp2_with fail
    refine (Age L HL.out s x rs sv ev SB cap cur _ (Hm.out.drew HL.out nq) (Ht.out.below hd) (Sok.out.top _ _ rfl) hno).mono ?_
    rintro e W2 ⟨nd, rfl, rfl⟩
    have hd2 : Below wr.heap.size wr ((wr.drewN nq).drewN nd) := ⟨rfl, rfl, rfl, Nat.le_refl _, fun _ _ => rfl⟩
    have hm2 := Hm.out.below HL.out hd2
    have ht2 := Ht.out.below hd2
    replace RBr := Lh (RBr.out.below hd2 RBr.out.lt)
    replace Br := Lh (Br.out.trans (hd2.mono Br.out.size))
    clear hd hd2 Hm Ht c7 c12 hle hmx e0 ew
    generalize (wr.drewN nq).drewN nd = W2 at hm2 ht2 RBr Br ⊢
    have ok3 := (Step.fin s x.f _ m' hno hf).ok Sok.out Lens.out
    have Ok3 := Lh ok3
    have Hm3 := Lh hm2
    have Hf := Lh hf
    clear hm2 ht2 ok3 hno hf
    go_wp2_with fail
    refine Calls.mono (Acd L HL.out s x.f (rs.map FrV.f) m' W2 ⟨x :: rs, sv, ev, rfl, Hm3.out⟩ Lens.out (Sok.out.top _ _ rfl).hat Hf.out (fun g hg => by have := ((Sok.out.rest _ _ rfl g hg).1).few.2; omega) (by have := (Sok.out.top _ _ rfl).few.2; omega)) ?_
    rintro e W4 ⟨⟨u4, rfl⟩, h4, g4⟩
    have g5 := g4.new Hnew.out
    have rp : RP L fin W4 n := ⟨_, Ok3.out.1, Ok3.out.2, h4, hr⟩
    have Rp := Lh rp
    have RB7 := Lh (RBr.out.below g5 hRB4)
    have B7 := Lh (Br.out.trans (g5.mono hw3))
    clear g5 g4 h4 rp
    go_wp2_with fail
    go_roundw
    case rel => exact ⟨Lh ⟨n, Rp.out⟩, RB7, B7⟩
    case measure =>
     have h2 := (XO ⟨n, Rp.out⟩).2 n Rp.out
     omega
structure PS (w W : World) (M : Nat) (es : List (Int × Value)) : Prop where
 below : Below w.heap.size w W
 lo : w.heap.size ≤ M
 map : MapB W M es
theorem Uw {ops : Array Oper} {rest : List Oper} {o : Oper} {a : Act} {w W : World} {Q : Exit → Act → World → Prop} {M : Nat} {es : List (Int × Value)} (hgd : o.guard = none) (m x y : Operand) (ho : o.op = .insert 123 m x y ∨ o.op = .mapUpdate 123 m x y) (hm : a.eval m = .map (some M)) (k : Int) (v : Value) (hx : a.eval x = .int .i64 k) (hy : a.eval y = v) (hs : PS w W M es) (hn : Ji k es = none)
 (h : ∀ W', PS w W' M (es ++ [(k, v)]) → wpList Tryz.prog ops Q rest (a.put o.dst undef) W') : wpList Tryz.prog ops Q (o :: rest) a W :=
 KW hgd m x y ho Tryz.underlying123 Tryz.underlying3 hs.map hm k v hx hy hn fun W' h4 o4 => h W' ⟨Qo hs.below o4 hs.lo, hs.lo, h4⟩
theorem Afo (w : World) : Calls Tryz.prog 120 #[] w fun e w' => ∃ M, e = .returned (.map (some M)) ∧ PS w w' M KH := by
 have hmm : ∀ w : World, (Instr.makeMap 123 none).run Tryz.prog w = .ok (.map (some w.heap.size)) (w.alloc (.map #[] 0)) := fun _ => by kernel_rfl
 go_enter Tryz.func120, Tryz.ntmps120
 have r0 : PS w (w.alloc (.map #[] 0)) w.heap.size [] := ⟨(Below.refl _ _).alloc (Nat.le_refl _) _, Nat.le_refl _, MapB.new w⟩
 go_wp2_with (refine Uw rfl _ _ _ (.inl rfl) rfl _ _ rfl rfl (by assumption) (by first | rfl | decide) ?_; intro W' h')
 go_ret
 exact ⟨_, rfl, h'⟩
end Go.Proofs.YtdcmppdhdcjpfaaGreat
