/- The walk over the reference's enter: leaves, blocks, a first kid that ends the run. Conditions: stated in each theorem. -/
import Derived.Test.YtlglilmgklipdaaRmA
import Derived.Test.YtlglilmgklipdaaMcH
namespace Go.Proofs.Ytlglilmgklipdaa
set_option linter.unusedVariables false
open Go.RowKit Go.Deep

/-- What entering a tree does, wherever it stands. -/
def Ent (L : Lay) (t : Tr) (s : Ms) (v : Int) (s' : Ms) : Prop := ∀ (q : Nat) (ev : Value) (W : World), At L.p.body q t → RR L s ev W →
  Calls Try.prog 39 #[.pointer (some ⟨L.M, 0, none⟩), .int .i64 (q : Int)] W fun e W' => e = .returned (.int .i64 v) ∧ ∃ ev', RR L s' ev' W' ∧ RChg L ev W ev' W'
theorem frd_own {L : Lay} {s : Ms} {ev v : Value} {W0 W : World} {n : Nat} {xs : List Value} (h0 : RR L s ev W0) (h : W.ownsRow W0.heap.size 3 1 v n xs) : ∃ A cap, v = .slice A n cap ∧ FRd L ev W A xs ∧ n ≤ cap ∧ (A = none → cap = 0) := by
  obtain ⟨A, cap, rfl, hr, hc, hn⟩ := own_rd h
  refine ⟨A, cap, rfl, ⟨hr, fun ad e => ?_⟩, hc, hn⟩
  rcases h.2 with ⟨hv, h0'⟩ | ⟨g, cap', cur, hv, hb, hh, _⟩
  · rw [e] at hv; cases hv
  · rw [e] at hv
    injection hv with hv
    injection hv with hv
    subst hv
    have hrow : Row W g 3 cur := hh
    exact h0.far_new hb hrow.lt
theorem pos_len (q : Nat) (ks : List Tr) : (natsI (spots (q + 1) ks)).length = ks.length := by rw [natsI_len, spots_len]
theorem kid_at {p : PgV} {q : Nat} {x : Nd} {ks : List Tr} (h : At p.body q (.node x ks)) {i : Nat} {k : Tr} (hk : ks[i]? = some k) : ∃ qi, (spots (q + 1) ks)[i]? = some qi ∧ At p.body qi k := by
  have hi : i < (spots (q + 1) ks).length := by rw [spots_len]; exact (List.getElem?_eq_some_iff.1 hk).1
  exact ⟨_, List.getElem?_eq_getElem hi, (h.kids.spot i _ k (List.getElem?_eq_getElem hi) hk).1⟩
set_option maxRecDepth 100000 in
set_option maxHeartbeats 8000000 in
theorem rOver (L : Lay) (hL : ROk L) (t : Tr) (s : Ms) (ho : s.out.isSome = true) : Ent L t s 0 s := by
  intro q ev W hat h
  have Hm := Lib.hid h
  have c10 := h.row.cellv (i := 10) (v := .bool s.out.isSome) rfl
  rw [ho] at c10
  clear h hat hL
  go_enter Try.func39, Try.ntmps39
  go_wp2
  go_ret
  exact ⟨rfl, ev, Hm.out, .refl _ _ _⟩
set_option maxRecDepth 100000 in
set_option maxHeartbeats 8000000 in
theorem rEmpty (L : Lay) (hL : ROk L) (t : Tr) (s : Ms) (ho : s.out = none) (h0 : s.fuel = 0) : Ent L t s 0 (s.stop 4 0) := by
  intro q ev W hat h
  have Hs := Lib.hid (rStop_any L hL s ev 4 0 W h)
  have c10 := h.row.cellv (i := 10) (v := .bool s.out.isSome) rfl
  have c5 := h.row.cellv (i := 5) (v := .int .i64 (s.fuel : Int)) rfl
  have Hz : Hid (s.stopped 4 0 = s.stop 4 0) := by show _ = _; unfold Ms.stopped; rw [ho]; rfl
  rw [ho] at c10
  rw [h0] at c5
  replace c10 : W.cell? ⟨L.M, 10, none⟩ = some (.bool false) := c10
  replace c5 : W.cell? ⟨L.M, 5, none⟩ = some (.int .i64 0) := c5
  clear h hat hL ho h0
  go_enter Try.func39, Try.ntmps39
  go_wp2_with fail
  refine Hs.out.mono ?_
  rintro e W2 ⟨rfl, h2, g2⟩
  have G2 := Lib.hid g2
  have H2 := Lib.hid h2
  clear h2 g2
  go_wp2
  go_ret
  exact ⟨rfl, ev, by rw [← Hz.out]; exact H2.out, G2.out⟩
set_option maxRecDepth 100000 in
set_option maxHeartbeats 8000000 in
theorem rLit (L : Lay) (hL : ROk L) (x : Nd) (s : Ms) (hg : s.go) (ht : x.tag = 1 ∨ x.tag = 2) : Ent L (.node x []) s x.n s.tick := by
  obtain ⟨tag, nn⟩ := x
  dsimp only at ht ⊢
  have Ht := Lib.hid ht
  clear ht
  intro q ev0 W0 hat h
  have HL := Lib.hid hL
  have Hm0 := Lib.hid h
  have Hat := Lib.hid hat
  obtain ⟨f, hf⟩ : ∃ f, s.fuel = f + 1 := ⟨s.fuel - 1, by have := hg.2; omega⟩
  have c10 := h.row.cellv (i := 10) (v := .bool s.out.isSome) rfl
  have c5 := h.row.cellv (i := 5) (v := .int .i64 (s.fuel : Int)) rfl
  rw [hg.1] at c10
  rw [hf] at c5
  replace c10 : W0.cell? ⟨L.M, 10, none⟩ = some (.bool false) := c10
  replace c5 : W0.cell? ⟨L.M, 5, none⟩ = some (.int .i64 ((f : Int) + 1)) := c5
  have hsum := h.core.sum
  have hF := hL.F
  have ef : (((f : Int) + 1) == 0) = false := by simp; omega
  have ew1 : IntKind.i64.wrap ((f : Int) + 1 - 1) = (f : Int) := by rw [IntWalk.i64_in _ (by omega)]; omega
  have ew1' : IntKind.i64.wrap (f : Int) = (f : Int) := IntWalk.i64_in _ (by omega)
  have ew2 : IntKind.i64.wrap ((s.steps : Int) + 1) = (s.steps : Int) + 1 := IntWalk.i64_in _ (by omega)
  have hsum2 : s.tick.steps + s.tick.fuel = L.F := by simp only [Ms.tick]; omega
  have hput : Hid (putL (putL (L.rcells s ev0) 5 [.int .i64 (f : Int)]) 6 [.int .i64 ((s.steps : Int) + 1)] = L.rcells s.tick ev0) := by
    show _ = _
    simp only [Lay.rcells, Ms.tick, hf]; rfl
  have Hf := Lib.hid hf
  have Hs2 := Lib.hid hsum2
  have Hroot : Hid (L.p.body[q]? = some ⟨tag, nn⟩) := hat.root
  have hql : (q : Int) < (L.p.body.length : Int) := by have := hat.lt; omega
  have hsz : (L.rcells s ev0).size = 11 := rfl
  clear h hat hL hsum hF hf hsum2
  go_enter Try.func39, Try.ntmps39
  go_wp2_with (refine at_store _ _ _ rfl ?_)
  refine Stop.to ?_
  refine wpList_store_part rfl 3 _ _ rfl L.M 5 rfl _ rfl [.int .i64 (f : Int)] rfl 68 _ _ Hm0.out.row (by kernel_rfl) (by show 5 + 1 ≤ 11; omega) (by simp [Value.oneCell']) rfl ?_
  intro W1 r1 o1
  have c6 := r1.cellv (i := 6) (v := .int .i64 (s.steps : Int)) rfl
  clear c5 c10 ef ew1 ew1'
  go_wp2_with (refine at_store _ _ _ rfl ?_)
  refine Stop.to ?_
  refine wpList_store_part rfl 3 _ _ rfl L.M 6 rfl _ rfl [.int .i64 ((s.steps : Int) + 1)] rfl 68 _ _ r1 (by kernel_rfl) (by show 6 + 1 ≤ 11; omega) (by simp [Value.oneCell']) hput.out ?_
  intro W2 r2 o2
  have o12 : Only L.M W0 W2 := o1.trans o2
  have m2 : RR L s.tick ev0 W2 := Hm0.out.setM HL.out o12 r2 rfl rfl rfl Hs2.out (by simp [Ms.tick])
  have Hm2 := Lib.hid m2
  have HC2 : Hid (RChg L ev0 W0 ev0 W2) := RChg.only o12 (.inl rfl)
  have c2 := m2.row.cellv (i := 2) (v := .slice L.p.ba L.p.body.length L.p.bcap) rfl
  have hok2 := HL.out.pok W2 m2.core.im
  have Hok2 := Lib.hid hok2
  obtain ⟨ad, had, hc⟩ := nd_at hok2.brd Hroot.out
  have Hc := Lib.hid hc
  have Hb1 := Lib.hid m2.core.size
  have c2' := c2
  rw [had] at c2'
  clear m2 hok2 o12 o1 o2 r1 r2 c6 ew2 hput hsz c2 hc had
  go_wp2_with (first
    | (refine wpList_load_at rfl 44 _ rfl (ad.add (q * 2)) rfl (Nd.cells ⟨tag, nn⟩) _ Hc.out Try.underlying44 rfl (by kernel_rfl) ?_)
    | (refine at_alloc _ rfl ?_))
  refine Stop.to ?_
  refine wpList_alloc_gen rfl 44 rfl _ _ zero_node rfl ?_
  intro X W3 hX rX b3
  go_wp2_with (refine at_store _ _ _ rfl ?_)
  refine Stop.to ?_
  refine wpList_store_gen rfl 44 _ _ rfl X (Nd.cells ⟨tag, nn⟩).toArray rfl rfl 44 _ rX (by kernel_rfl) rfl (by simp [Nd.cells, Value.oneCell']) ?_
  intro W4 r4 o4
  have b34 : Below W2.heap.size W2 W4 := (b3.mono hX).trans (o4.below hX)
  have m4 := Hm2.out.below HL.out b34
  have hc4 : RChg L ev0 W0 ev0 W4 := HC2.out.trans (.below b34)
  have HX4 : Hid (FRow L ev0 W4 X 44 (Nd.cells ⟨tag, nn⟩).toArray) := ⟨Hm2.out.far_new hX r4.lt, r4⟩
  have c2 := m4.row.cellv (i := 2) (v := .slice L.p.ba L.p.body.length L.p.bcap) rfl
  have Hm4 := Lib.hid m4
  have HC4 := Lib.hid hc4
  have Hbr := Lib.hid (HL.out.pok W4 m4.core.im).brd
  clear b3 b34 o4 rX c2' hX Hc r4 m4 hc4 HC2 Hm2 Hok2 Hb1
  go_wp2_with fail
  refine (refKids_any L.p.ba L.p.bcap L.p.body (q : Int) W4 Hbr.out HL.out.blen).mono ?_
  rintro e W ⟨kv, rfl, hown, b5⟩
  have hm := Hm4.out.below HL.out b5
  have hkz : kidsZ L.p.body (q : Int) = natsI (spots (q + 1) []) := Hat.out.kidsZ
  rw [hkz, pos_len] at hown
  replace hown : W.ownsRow W4.heap.size 3 1 kv 0 (ints (natsI (spots (q + 1) []))) := hown
  obtain ⟨KA, kcap, rfl, hkr, hkc, hkn⟩ := frd_own Hm4.out hown
  have HK := Lib.hid hkr
  have Hm := Lib.hid hm
  have HX := Lib.hid (HX4.out.go HL.out (.below b5))
  have HC := Lib.hid (HC4.out.trans (.below b5))
  have x0 := HX.out.2.cellv (i := 0) (v := .int .i64 tag) rfl
  have x1 := HX.out.2.cellv (i := 1) (v := .int .i64 nn) rfl
  clear hown b5 hkr hm hkz Hm4 HX4 HC4 Hbr c2 Hm0 hql Hroot
  rcases Ht.out with rfl | rfl
  all_goals
    go_wp2
    go_ret
    exact ⟨rfl, ev0, Hm.out, HC.out⟩
set_option maxRecDepth 100000 in
set_option maxHeartbeats 8000000 in
theorem rVar (L : Lay) (hL : ROk L) (x : Nd) (s : Ms) (hg : s.go) (ht : x.tag = 3) (hn : 0 ≤ x.n) (hv : x.n.toNat < s.vals.length) : Ent L (.node x []) s ((s.vals[x.n.toNat]?).getD 0) s.tick := by
  obtain ⟨a, ha⟩ : ∃ a, s.vals[x.n.toNat]? = some a := ⟨_, List.getElem?_eq_getElem hv⟩
  rw [ha, Option.getD_some]
  obtain ⟨tag, nn⟩ := x
  dsimp only at ht ⊢
  have Ht := Lib.hid ht
  clear ht
  dsimp only at hn hv ha
  have Hn := Lib.hid hn
  have Hv := Lib.hid hv
  have Ha := Lib.hid ha
  clear hn hv ha
  intro q ev0 W0 hat h
  have HL := Lib.hid hL
  have Hm0 := Lib.hid h
  have Hat := Lib.hid hat
  obtain ⟨f, hf⟩ : ∃ f, s.fuel = f + 1 := ⟨s.fuel - 1, by have := hg.2; omega⟩
  have c10 := h.row.cellv (i := 10) (v := .bool s.out.isSome) rfl
  have c5 := h.row.cellv (i := 5) (v := .int .i64 (s.fuel : Int)) rfl
  rw [hg.1] at c10
  rw [hf] at c5
  replace c10 : W0.cell? ⟨L.M, 10, none⟩ = some (.bool false) := c10
  replace c5 : W0.cell? ⟨L.M, 5, none⟩ = some (.int .i64 ((f : Int) + 1)) := c5
  have hsum := h.core.sum
  have hF := hL.F
  have ef : (((f : Int) + 1) == 0) = false := by simp; omega
  have ew1 : IntKind.i64.wrap ((f : Int) + 1 - 1) = (f : Int) := by rw [IntWalk.i64_in _ (by omega)]; omega
  have ew1' : IntKind.i64.wrap (f : Int) = (f : Int) := IntWalk.i64_in _ (by omega)
  have ew2 : IntKind.i64.wrap ((s.steps : Int) + 1) = (s.steps : Int) + 1 := IntWalk.i64_in _ (by omega)
  have hsum2 : s.tick.steps + s.tick.fuel = L.F := by simp only [Ms.tick]; omega
  have hput : Hid (putL (putL (L.rcells s ev0) 5 [.int .i64 (f : Int)]) 6 [.int .i64 ((s.steps : Int) + 1)] = L.rcells s.tick ev0) := by
    show _ = _
    simp only [Lay.rcells, Ms.tick, hf]; rfl
  have Hf := Lib.hid hf
  have Hs2 := Lib.hid hsum2
  have Hroot : Hid (L.p.body[q]? = some ⟨tag, nn⟩) := hat.root
  have hql : (q : Int) < (L.p.body.length : Int) := by have := hat.lt; omega
  have hsz : (L.rcells s ev0).size = 11 := rfl
  clear h hat hL hsum hF hf hsum2
  go_enter Try.func39, Try.ntmps39
  go_wp2_with (refine at_store _ _ _ rfl ?_)
  refine Stop.to ?_
  refine wpList_store_part rfl 3 _ _ rfl L.M 5 rfl _ rfl [.int .i64 (f : Int)] rfl 68 _ _ Hm0.out.row (by kernel_rfl) (by show 5 + 1 ≤ 11; omega) (by simp [Value.oneCell']) rfl ?_
  intro W1 r1 o1
  have c6 := r1.cellv (i := 6) (v := .int .i64 (s.steps : Int)) rfl
  clear c5 c10 ef ew1 ew1'
  go_wp2_with (refine at_store _ _ _ rfl ?_)
  refine Stop.to ?_
  refine wpList_store_part rfl 3 _ _ rfl L.M 6 rfl _ rfl [.int .i64 ((s.steps : Int) + 1)] rfl 68 _ _ r1 (by kernel_rfl) (by show 6 + 1 ≤ 11; omega) (by simp [Value.oneCell']) hput.out ?_
  intro W2 r2 o2
  have o12 : Only L.M W0 W2 := o1.trans o2
  have m2 : RR L s.tick ev0 W2 := Hm0.out.setM HL.out o12 r2 rfl rfl rfl Hs2.out (by simp [Ms.tick])
  have Hm2 := Lib.hid m2
  have HC2 : Hid (RChg L ev0 W0 ev0 W2) := RChg.only o12 (.inl rfl)
  have c2 := m2.row.cellv (i := 2) (v := .slice L.p.ba L.p.body.length L.p.bcap) rfl
  have hok2 := HL.out.pok W2 m2.core.im
  have Hok2 := Lib.hid hok2
  obtain ⟨ad, had, hc⟩ := nd_at hok2.brd Hroot.out
  have Hc := Lib.hid hc
  have Hb1 := Lib.hid m2.core.size
  have c2' := c2
  rw [had] at c2'
  clear m2 hok2 o12 o1 o2 r1 r2 c6 ew2 hput hsz c2 hc had
  go_wp2_with (first
    | (refine wpList_load_at rfl 44 _ rfl (ad.add (q * 2)) rfl (Nd.cells ⟨tag, nn⟩) _ Hc.out Try.underlying44 rfl (by kernel_rfl) ?_)
    | (refine at_alloc _ rfl ?_))
  refine Stop.to ?_
  refine wpList_alloc_gen rfl 44 rfl _ _ zero_node rfl ?_
  intro X W3 hX rX b3
  go_wp2_with (refine at_store _ _ _ rfl ?_)
  refine Stop.to ?_
  refine wpList_store_gen rfl 44 _ _ rfl X (Nd.cells ⟨tag, nn⟩).toArray rfl rfl 44 _ rX (by kernel_rfl) rfl (by simp [Nd.cells, Value.oneCell']) ?_
  intro W4 r4 o4
  have b34 : Below W2.heap.size W2 W4 := (b3.mono hX).trans (o4.below hX)
  have m4 := Hm2.out.below HL.out b34
  have hc4 : RChg L ev0 W0 ev0 W4 := HC2.out.trans (.below b34)
  have HX4 : Hid (FRow L ev0 W4 X 44 (Nd.cells ⟨tag, nn⟩).toArray) := ⟨Hm2.out.far_new hX r4.lt, r4⟩
  have c2 := m4.row.cellv (i := 2) (v := .slice L.p.ba L.p.body.length L.p.bcap) rfl
  have Hm4 := Lib.hid m4
  have HC4 := Lib.hid hc4
  have Hbr := Lib.hid (HL.out.pok W4 m4.core.im).brd
  clear b3 b34 o4 rX c2' hX Hc r4 m4 hc4 HC2 Hm2 Hok2 Hb1
  go_wp2_with fail
  refine (refKids_any L.p.ba L.p.bcap L.p.body (q : Int) W4 Hbr.out HL.out.blen).mono ?_
  rintro e W ⟨kv, rfl, hown, b5⟩
  have hm := Hm4.out.below HL.out b5
  have hkz : kidsZ L.p.body (q : Int) = natsI (spots (q + 1) []) := Hat.out.kidsZ
  rw [hkz, pos_len] at hown
  replace hown : W.ownsRow W4.heap.size 3 1 kv 0 (ints (natsI (spots (q + 1) []))) := hown
  obtain ⟨KA, kcap, rfl, hkr, hkc, hkn⟩ := frd_own Hm4.out hown
  have HK := Lib.hid hkr
  have Hm := Lib.hid hm
  have HX := Lib.hid (HX4.out.go HL.out (.below b5))
  have HC := Lib.hid (HC4.out.trans (.below b5))
  have x0 := HX.out.2.cellv (i := 0) (v := .int .i64 tag) rfl
  have x1 := HX.out.2.cellv (i := 1) (v := .int .i64 nn) rfl
  clear hown b5 hkr hm hkz Hm4 HX4 HC4 Hbr c2 Hm0 hql Hroot
  obtain rfl := Ht.out
  obtain ⟨g, cap, hvv, hcg⟩ := own_ints Hm.out.core.vals (by have := Hv.out; simp only [Ms.tick]; omega)
  obtain ⟨n, rfl⟩ : ∃ n : Nat, nn = (n : Int) := ⟨nn.toNat, by have := Hn.out; omega⟩
  have cg := hcg n a (by have := Ha.out; rwa [Int.toNat_natCast] at this)
  have c3 := Hm.out.row.cellv (i := 3) (v := L.vv) rfl
  rw [hvv] at c3
  have hlt : (n : Int) < ((s.tick.vals.length : Nat) : Int) := by have := Hv.out; rw [Int.toNat_natCast] at this; simp only [Ms.tick]; omega
  clear hvv hcg
  generalize s.tick.vals.length = m at *
  go_wp2_with fail
  go_quiet (fail)
  go_wp2
  go_ret
  exact ⟨rfl, ev0, Hm.out.drew HL.out _, HC.out.trans (.below ⟨rfl, rfl, rfl, Nat.le_refl _, fun _ _ => rfl⟩)⟩
set_option maxRecDepth 100000 in
set_option maxHeartbeats 8000000 in
theorem rSkip (L : Lay) (hL : ROk L) (x : Nd) (s : Ms) (hg : s.go) (ht : x.tag = 26) : Ent L (.node x []) s 0 s.tick := by
  obtain ⟨tag, nn⟩ := x
  dsimp only at ht ⊢
  have Ht := Lib.hid ht
  clear ht
  intro q ev0 W0 hat h
  have HL := Lib.hid hL
  have Hm0 := Lib.hid h
  have Hat := Lib.hid hat
  obtain ⟨f, hf⟩ : ∃ f, s.fuel = f + 1 := ⟨s.fuel - 1, by have := hg.2; omega⟩
  have c10 := h.row.cellv (i := 10) (v := .bool s.out.isSome) rfl
  have c5 := h.row.cellv (i := 5) (v := .int .i64 (s.fuel : Int)) rfl
  rw [hg.1] at c10
  rw [hf] at c5
  replace c10 : W0.cell? ⟨L.M, 10, none⟩ = some (.bool false) := c10
  replace c5 : W0.cell? ⟨L.M, 5, none⟩ = some (.int .i64 ((f : Int) + 1)) := c5
  have hsum := h.core.sum
  have hF := hL.F
  have ef : (((f : Int) + 1) == 0) = false := by simp; omega
  have ew1 : IntKind.i64.wrap ((f : Int) + 1 - 1) = (f : Int) := by rw [IntWalk.i64_in _ (by omega)]; omega
  have ew1' : IntKind.i64.wrap (f : Int) = (f : Int) := IntWalk.i64_in _ (by omega)
  have ew2 : IntKind.i64.wrap ((s.steps : Int) + 1) = (s.steps : Int) + 1 := IntWalk.i64_in _ (by omega)
  have hsum2 : s.tick.steps + s.tick.fuel = L.F := by simp only [Ms.tick]; omega
  have hput : Hid (putL (putL (L.rcells s ev0) 5 [.int .i64 (f : Int)]) 6 [.int .i64 ((s.steps : Int) + 1)] = L.rcells s.tick ev0) := by
    show _ = _
    simp only [Lay.rcells, Ms.tick, hf]; rfl
  have Hf := Lib.hid hf
  have Hs2 := Lib.hid hsum2
  have Hroot : Hid (L.p.body[q]? = some ⟨tag, nn⟩) := hat.root
  have hql : (q : Int) < (L.p.body.length : Int) := by have := hat.lt; omega
  have hsz : (L.rcells s ev0).size = 11 := rfl
  clear h hat hL hsum hF hf hsum2
  go_enter Try.func39, Try.ntmps39
  go_wp2_with (refine at_store _ _ _ rfl ?_)
  refine Stop.to ?_
  refine wpList_store_part rfl 3 _ _ rfl L.M 5 rfl _ rfl [.int .i64 (f : Int)] rfl 68 _ _ Hm0.out.row (by kernel_rfl) (by show 5 + 1 ≤ 11; omega) (by simp [Value.oneCell']) rfl ?_
  intro W1 r1 o1
  have c6 := r1.cellv (i := 6) (v := .int .i64 (s.steps : Int)) rfl
  clear c5 c10 ef ew1 ew1'
  go_wp2_with (refine at_store _ _ _ rfl ?_)
  refine Stop.to ?_
  refine wpList_store_part rfl 3 _ _ rfl L.M 6 rfl _ rfl [.int .i64 ((s.steps : Int) + 1)] rfl 68 _ _ r1 (by kernel_rfl) (by show 6 + 1 ≤ 11; omega) (by simp [Value.oneCell']) hput.out ?_
  intro W2 r2 o2
  have o12 : Only L.M W0 W2 := o1.trans o2
  have m2 : RR L s.tick ev0 W2 := Hm0.out.setM HL.out o12 r2 rfl rfl rfl Hs2.out (by simp [Ms.tick])
  have Hm2 := Lib.hid m2
  have HC2 : Hid (RChg L ev0 W0 ev0 W2) := RChg.only o12 (.inl rfl)
  have c2 := m2.row.cellv (i := 2) (v := .slice L.p.ba L.p.body.length L.p.bcap) rfl
  have hok2 := HL.out.pok W2 m2.core.im
  have Hok2 := Lib.hid hok2
  obtain ⟨ad, had, hc⟩ := nd_at hok2.brd Hroot.out
  have Hc := Lib.hid hc
  have Hb1 := Lib.hid m2.core.size
  have c2' := c2
  rw [had] at c2'
  clear m2 hok2 o12 o1 o2 r1 r2 c6 ew2 hput hsz c2 hc had
  go_wp2_with (first
    | (refine wpList_load_at rfl 44 _ rfl (ad.add (q * 2)) rfl (Nd.cells ⟨tag, nn⟩) _ Hc.out Try.underlying44 rfl (by kernel_rfl) ?_)
    | (refine at_alloc _ rfl ?_))
  refine Stop.to ?_
  refine wpList_alloc_gen rfl 44 rfl _ _ zero_node rfl ?_
  intro X W3 hX rX b3
  go_wp2_with (refine at_store _ _ _ rfl ?_)
  refine Stop.to ?_
  refine wpList_store_gen rfl 44 _ _ rfl X (Nd.cells ⟨tag, nn⟩).toArray rfl rfl 44 _ rX (by kernel_rfl) rfl (by simp [Nd.cells, Value.oneCell']) ?_
  intro W4 r4 o4
  have b34 : Below W2.heap.size W2 W4 := (b3.mono hX).trans (o4.below hX)
  have m4 := Hm2.out.below HL.out b34
  have hc4 : RChg L ev0 W0 ev0 W4 := HC2.out.trans (.below b34)
  have HX4 : Hid (FRow L ev0 W4 X 44 (Nd.cells ⟨tag, nn⟩).toArray) := ⟨Hm2.out.far_new hX r4.lt, r4⟩
  have c2 := m4.row.cellv (i := 2) (v := .slice L.p.ba L.p.body.length L.p.bcap) rfl
  have Hm4 := Lib.hid m4
  have HC4 := Lib.hid hc4
  have Hbr := Lib.hid (HL.out.pok W4 m4.core.im).brd
  clear b3 b34 o4 rX c2' hX Hc r4 m4 hc4 HC2 Hm2 Hok2 Hb1
  go_wp2_with fail
  refine (refKids_any L.p.ba L.p.bcap L.p.body (q : Int) W4 Hbr.out HL.out.blen).mono ?_
  rintro e W ⟨kv, rfl, hown, b5⟩
  have hm := Hm4.out.below HL.out b5
  have hkz : kidsZ L.p.body (q : Int) = natsI (spots (q + 1) []) := Hat.out.kidsZ
  rw [hkz, pos_len] at hown
  replace hown : W.ownsRow W4.heap.size 3 1 kv 0 (ints (natsI (spots (q + 1) []))) := hown
  obtain ⟨KA, kcap, rfl, hkr, hkc, hkn⟩ := frd_own Hm4.out hown
  have HK := Lib.hid hkr
  have Hm := Lib.hid hm
  have HX := Lib.hid (HX4.out.go HL.out (.below b5))
  have HC := Lib.hid (HC4.out.trans (.below b5))
  have x0 := HX.out.2.cellv (i := 0) (v := .int .i64 tag) rfl
  have x1 := HX.out.2.cellv (i := 1) (v := .int .i64 nn) rfl
  clear hown b5 hkr hm hkz Hm4 HX4 HC4 Hbr c2 Hm0 hql Hroot
  obtain rfl := Ht.out
  go_wp2
  go_ret
  exact ⟨rfl, ev0, Hm.out, HC.out⟩
/-- Trees entered one behind the other. -/
def Chain (L : Lay) : List Tr → Ms → Ms → Prop
  | [], s, s' => s = s'
  | t :: ts, s, s' => ∃ v s1, Ent L t s v s1 ∧ Chain L ts s1 s'
set_option maxRecDepth 100000 in
set_option maxHeartbeats 8000000 in
theorem rBlock (L : Lay) (hL : ROk L) (x : Nd) (ks : List Tr) (s s1 : Ms) (hg : s.go) (ht : x.tag = 20) (hk : ks.length ≤ 1000) (h1 : Chain L ks s.tick s1) : Ent L (.node x ks) s 0 s1 := by
  obtain ⟨tag, nn⟩ := x
  dsimp only at ht ⊢
  have Ht := Lib.hid ht
  clear ht
  have Hch := Lib.hid h1
  clear h1
  intro q ev0 W0 hat h
  have HL := Lib.hid hL
  have Hm0 := Lib.hid h
  have Hat := Lib.hid hat
  obtain ⟨f, hf⟩ : ∃ f, s.fuel = f + 1 := ⟨s.fuel - 1, by have := hg.2; omega⟩
  have c10 := h.row.cellv (i := 10) (v := .bool s.out.isSome) rfl
  have c5 := h.row.cellv (i := 5) (v := .int .i64 (s.fuel : Int)) rfl
  rw [hg.1] at c10
  rw [hf] at c5
  replace c10 : W0.cell? ⟨L.M, 10, none⟩ = some (.bool false) := c10
  replace c5 : W0.cell? ⟨L.M, 5, none⟩ = some (.int .i64 ((f : Int) + 1)) := c5
  have hsum := h.core.sum
  have hF := hL.F
  have ef : (((f : Int) + 1) == 0) = false := by simp; omega
  have ew1 : IntKind.i64.wrap ((f : Int) + 1 - 1) = (f : Int) := by rw [IntWalk.i64_in _ (by omega)]; omega
  have ew1' : IntKind.i64.wrap (f : Int) = (f : Int) := IntWalk.i64_in _ (by omega)
  have ew2 : IntKind.i64.wrap ((s.steps : Int) + 1) = (s.steps : Int) + 1 := IntWalk.i64_in _ (by omega)
  have hsum2 : s.tick.steps + s.tick.fuel = L.F := by simp only [Ms.tick]; omega
  have hput : Hid (putL (putL (L.rcells s ev0) 5 [.int .i64 (f : Int)]) 6 [.int .i64 ((s.steps : Int) + 1)] = L.rcells s.tick ev0) := by
    show _ = _
    simp only [Lay.rcells, Ms.tick, hf]; rfl
  have Hf := Lib.hid hf
  have Hs2 := Lib.hid hsum2
  have Hroot : Hid (L.p.body[q]? = some ⟨tag, nn⟩) := hat.root
  have hql : (q : Int) < (L.p.body.length : Int) := by have := hat.lt; omega
  have hsz : (L.rcells s ev0).size = 11 := rfl
  clear h hat hL hsum hF hf hsum2
  go_enter Try.func39, Try.ntmps39
  go_wp2_with (refine at_store _ _ _ rfl ?_)
  refine Stop.to ?_
  refine wpList_store_part rfl 3 _ _ rfl L.M 5 rfl _ rfl [.int .i64 (f : Int)] rfl 68 _ _ Hm0.out.row (by kernel_rfl) (by show 5 + 1 ≤ 11; omega) (by simp [Value.oneCell']) rfl ?_
  intro W1 r1 o1
  have c6 := r1.cellv (i := 6) (v := .int .i64 (s.steps : Int)) rfl
  clear c5 c10 ef ew1 ew1'
  go_wp2_with (refine at_store _ _ _ rfl ?_)
  refine Stop.to ?_
  refine wpList_store_part rfl 3 _ _ rfl L.M 6 rfl _ rfl [.int .i64 ((s.steps : Int) + 1)] rfl 68 _ _ r1 (by kernel_rfl) (by show 6 + 1 ≤ 11; omega) (by simp [Value.oneCell']) hput.out ?_
  intro W2 r2 o2
  have o12 : Only L.M W0 W2 := o1.trans o2
  have m2 : RR L s.tick ev0 W2 := Hm0.out.setM HL.out o12 r2 rfl rfl rfl Hs2.out (by simp [Ms.tick])
  have Hm2 := Lib.hid m2
  have HC2 : Hid (RChg L ev0 W0 ev0 W2) := RChg.only o12 (.inl rfl)
  have c2 := m2.row.cellv (i := 2) (v := .slice L.p.ba L.p.body.length L.p.bcap) rfl
  have hok2 := HL.out.pok W2 m2.core.im
  have Hok2 := Lib.hid hok2
  obtain ⟨ad, had, hc⟩ := nd_at hok2.brd Hroot.out
  have Hc := Lib.hid hc
  have Hb1 := Lib.hid m2.core.size
  have c2' := c2
  rw [had] at c2'
  clear m2 hok2 o12 o1 o2 r1 r2 c6 ew2 hput hsz c2 hc had
  go_wp2_with (first
    | (refine wpList_load_at rfl 44 _ rfl (ad.add (q * 2)) rfl (Nd.cells ⟨tag, nn⟩) _ Hc.out Try.underlying44 rfl (by kernel_rfl) ?_)
    | (refine at_alloc _ rfl ?_))
  refine Stop.to ?_
  refine wpList_alloc_gen rfl 44 rfl _ _ zero_node rfl ?_
  intro X W3 hX rX b3
  go_wp2_with (refine at_store _ _ _ rfl ?_)
  refine Stop.to ?_
  refine wpList_store_gen rfl 44 _ _ rfl X (Nd.cells ⟨tag, nn⟩).toArray rfl rfl 44 _ rX (by kernel_rfl) rfl (by simp [Nd.cells, Value.oneCell']) ?_
  intro W4 r4 o4
  have b34 : Below W2.heap.size W2 W4 := (b3.mono hX).trans (o4.below hX)
  have m4 := Hm2.out.below HL.out b34
  have hc4 : RChg L ev0 W0 ev0 W4 := HC2.out.trans (.below b34)
  have HX4 : Hid (FRow L ev0 W4 X 44 (Nd.cells ⟨tag, nn⟩).toArray) := ⟨Hm2.out.far_new hX r4.lt, r4⟩
  have c2 := m4.row.cellv (i := 2) (v := .slice L.p.ba L.p.body.length L.p.bcap) rfl
  have Hm4 := Lib.hid m4
  have HC4 := Lib.hid hc4
  have Hbr := Lib.hid (HL.out.pok W4 m4.core.im).brd
  clear b3 b34 o4 rX c2' hX Hc r4 m4 hc4 HC2 Hm2 Hok2 Hb1
  go_wp2_with fail
  refine (refKids_any L.p.ba L.p.bcap L.p.body (q : Int) W4 Hbr.out HL.out.blen).mono ?_
  rintro e W ⟨kv, rfl, hown, b5⟩
  have hm := Hm4.out.below HL.out b5
  have hkz : kidsZ L.p.body (q : Int) = natsI (spots (q + 1) ks) := Hat.out.kidsZ
  rw [hkz, pos_len] at hown
  replace hown : W.ownsRow W4.heap.size 3 1 kv ks.length (ints (natsI (spots (q + 1) ks))) := hown
  obtain ⟨KA, kcap, rfl, hkr, hkc, hkn⟩ := frd_own Hm4.out hown
  have HK := Lib.hid hkr
  have Hm := Lib.hid hm
  have HX := Lib.hid (HX4.out.go HL.out (.below b5))
  have HC := Lib.hid (HC4.out.trans (.below b5))
  have x0 := HX.out.2.cellv (i := 0) (v := .int .i64 tag) rfl
  have x1 := HX.out.2.cellv (i := 1) (v := .int .i64 nn) rfl
  clear hown b5 hkr hm hkz Hm4 HX4 HC4 Hbr c2 Hm0 hql Hroot
  obtain rfl := Ht.out
  go_wp2
  go_loopw [7] (fun i wr => ∃ (k : Nat) (sk : Ms) (evk : Value), i = .int .i64 (k : Int) ∧ k ≤ ks.length ∧ Hid (Chain L (ks.drop k) sk s1) ∧ Hid (RR L sk evk wr) ∧ Hid (FRd L evk wr KA (ints (natsI (spots (q + 1) ks)))) ∧ Hid (RChg L ev0 W0 evk wr)) (fun i _ => ks.length - (intOf i).toNat)
  case atStart => exact ⟨0, s.tick, ev0, rfl, Nat.zero_le _, Hch, Hm, HK, HC⟩
  case round =>
    clear Hch Hm HK HC HX x0 x1
    obtain ⟨k, sk, evk, rfl, hkl, Hch, Hm, HK, HC⟩ := hrel
    by_cases hlt : k < ks.length
    · have hkt : ks[k]? = some ks[k] := List.getElem?_eq_getElem hlt
      obtain ⟨q1, hq1, hat1⟩ := kid_at Hat.out (i := k) (k := ks[k]) hkt
      have hch := Hch.out
      rw [List.drop_eq_getElem_cons hlt] at hch
      obtain ⟨v, s2, he, hch2⟩ := hch
      have Hcall := Lib.hid (he q1 evk wr hat1 Hm.out)
      have Hch2 := Lib.hid hch2
      obtain ⟨kd, hkd, hck⟩ : ∃ kd, KA = some kd ∧ wr.cell? (kd.add k) = some (.int .i64 (q1 : Int)) := int_at (l := natsI _) HK.out.1 (by simp [natsI, hq1])
      subst hkd
      have hltI : (k : Int) < (ks.length : Int) := by omega
      clear hkt hq1 hat1 he hch2 Hch hkl
      go_wp2_with fail
      refine Hcall.out.mono ?_
      rintro e Wa ⟨rfl, eva, hma, hca⟩
      have HK2 := Lib.hid (HK.out.go HL.out hca)
      have HC2 := Lib.hid (HC.out.trans hca)
      have Hm2 := Lib.hid hma
      have ewk : IntKind.i64.wrap ((k : Int) + 1) = (k : Int) + 1 := IntWalk.i64_in _ (by omega)
      clear hma hca hck Hcall HK HC Hm
      go_wp2
      go_roundw
      case rel => exact ⟨k + 1, s2, eva, rfl, by omega, Hch2, Hm2, HK2, HC2⟩
      case measure => simp [intOf]; omega
    · have hz : ks.length = k := by omega
      have hzI : (k : Int) = (ks.length : Int) := by omega
      have hch := Hch.out
      rw [List.drop_of_length_le (by omega)] at hch
      obtain rfl : sk = s1 := hch
      clear hlt hkl hz Hch
      go_wp2
      go_ret
      exact ⟨rfl, evk, Hm.out, HC.out⟩
set_option maxRecDepth 100000 in
set_option maxHeartbeats 8000000 in
theorem rCut (L : Lay) (hL : ROk L) (x : Nd) (a : Tr) (ks : List Tr) (s s1 : Ms) (v : Int) (hg : s.go) (ht : deep x.tag) (hk : ks.length ≤ 1000) (h1 : Ent L a s.tick v s1) (ho : s1.out.isSome = true) : Ent L (.node x (a :: ks)) s 0 s1 := by
  obtain ⟨tag, nn⟩ := x
  dsimp only at ht ⊢
  have Ht := Lib.hid ht
  clear ht
  intro q ev0 W0 hat h
  have HL := Lib.hid hL
  have Hm0 := Lib.hid h
  have Hat := Lib.hid hat
  obtain ⟨f, hf⟩ : ∃ f, s.fuel = f + 1 := ⟨s.fuel - 1, by have := hg.2; omega⟩
  have c10 := h.row.cellv (i := 10) (v := .bool s.out.isSome) rfl
  have c5 := h.row.cellv (i := 5) (v := .int .i64 (s.fuel : Int)) rfl
  rw [hg.1] at c10
  rw [hf] at c5
  replace c10 : W0.cell? ⟨L.M, 10, none⟩ = some (.bool false) := c10
  replace c5 : W0.cell? ⟨L.M, 5, none⟩ = some (.int .i64 ((f : Int) + 1)) := c5
  have hsum := h.core.sum
  have hF := hL.F
  have ef : (((f : Int) + 1) == 0) = false := by simp; omega
  have ew1 : IntKind.i64.wrap ((f : Int) + 1 - 1) = (f : Int) := by rw [IntWalk.i64_in _ (by omega)]; omega
  have ew1' : IntKind.i64.wrap (f : Int) = (f : Int) := IntWalk.i64_in _ (by omega)
  have ew2 : IntKind.i64.wrap ((s.steps : Int) + 1) = (s.steps : Int) + 1 := IntWalk.i64_in _ (by omega)
  have hsum2 : s.tick.steps + s.tick.fuel = L.F := by simp only [Ms.tick]; omega
  have hput : Hid (putL (putL (L.rcells s ev0) 5 [.int .i64 (f : Int)]) 6 [.int .i64 ((s.steps : Int) + 1)] = L.rcells s.tick ev0) := by
    show _ = _
    simp only [Lay.rcells, Ms.tick, hf]; rfl
  have Hf := Lib.hid hf
  have Hs2 := Lib.hid hsum2
  have Hroot : Hid (L.p.body[q]? = some ⟨tag, nn⟩) := hat.root
  have hql : (q : Int) < (L.p.body.length : Int) := by have := hat.lt; omega
  have hsz : (L.rcells s ev0).size = 11 := rfl
  clear h hat hL hsum hF hf hsum2
  go_enter Try.func39, Try.ntmps39
  go_wp2_with (refine at_store _ _ _ rfl ?_)
  refine Stop.to ?_
  refine wpList_store_part rfl 3 _ _ rfl L.M 5 rfl _ rfl [.int .i64 (f : Int)] rfl 68 _ _ Hm0.out.row (by kernel_rfl) (by show 5 + 1 ≤ 11; omega) (by simp [Value.oneCell']) rfl ?_
  intro W1 r1 o1
  have c6 := r1.cellv (i := 6) (v := .int .i64 (s.steps : Int)) rfl
  clear c5 c10 ef ew1 ew1'
  go_wp2_with (refine at_store _ _ _ rfl ?_)
  refine Stop.to ?_
  refine wpList_store_part rfl 3 _ _ rfl L.M 6 rfl _ rfl [.int .i64 ((s.steps : Int) + 1)] rfl 68 _ _ r1 (by kernel_rfl) (by show 6 + 1 ≤ 11; omega) (by simp [Value.oneCell']) hput.out ?_
  intro W2 r2 o2
  have o12 : Only L.M W0 W2 := o1.trans o2
  have m2 : RR L s.tick ev0 W2 := Hm0.out.setM HL.out o12 r2 rfl rfl rfl Hs2.out (by simp [Ms.tick])
  have Hm2 := Lib.hid m2
  have HC2 : Hid (RChg L ev0 W0 ev0 W2) := RChg.only o12 (.inl rfl)
  have c2 := m2.row.cellv (i := 2) (v := .slice L.p.ba L.p.body.length L.p.bcap) rfl
  have hok2 := HL.out.pok W2 m2.core.im
  have Hok2 := Lib.hid hok2
  obtain ⟨ad, had, hc⟩ := nd_at hok2.brd Hroot.out
  have Hc := Lib.hid hc
  have Hb1 := Lib.hid m2.core.size
  have c2' := c2
  rw [had] at c2'
  clear m2 hok2 o12 o1 o2 r1 r2 c6 ew2 hput hsz c2 hc had
  go_wp2_with (first
    | (refine wpList_load_at rfl 44 _ rfl (ad.add (q * 2)) rfl (Nd.cells ⟨tag, nn⟩) _ Hc.out Try.underlying44 rfl (by kernel_rfl) ?_)
    | (refine at_alloc _ rfl ?_))
  refine Stop.to ?_
  refine wpList_alloc_gen rfl 44 rfl _ _ zero_node rfl ?_
  intro X W3 hX rX b3
  go_wp2_with (refine at_store _ _ _ rfl ?_)
  refine Stop.to ?_
  refine wpList_store_gen rfl 44 _ _ rfl X (Nd.cells ⟨tag, nn⟩).toArray rfl rfl 44 _ rX (by kernel_rfl) rfl (by simp [Nd.cells, Value.oneCell']) ?_
  intro W4 r4 o4
  have b34 : Below W2.heap.size W2 W4 := (b3.mono hX).trans (o4.below hX)
  have m4 := Hm2.out.below HL.out b34
  have hc4 : RChg L ev0 W0 ev0 W4 := HC2.out.trans (.below b34)
  have HX4 : Hid (FRow L ev0 W4 X 44 (Nd.cells ⟨tag, nn⟩).toArray) := ⟨Hm2.out.far_new hX r4.lt, r4⟩
  have c2 := m4.row.cellv (i := 2) (v := .slice L.p.ba L.p.body.length L.p.bcap) rfl
  have Hm4 := Lib.hid m4
  have HC4 := Lib.hid hc4
  have Hbr := Lib.hid (HL.out.pok W4 m4.core.im).brd
  clear b3 b34 o4 rX c2' hX Hc r4 m4 hc4 HC2 Hm2 Hok2 Hb1
  go_wp2_with fail
  refine (refKids_any L.p.ba L.p.bcap L.p.body (q : Int) W4 Hbr.out HL.out.blen).mono ?_
  rintro e W ⟨kv, rfl, hown, b5⟩
  have hm := Hm4.out.below HL.out b5
  have hkz : kidsZ L.p.body (q : Int) = natsI (spots (q + 1) (a :: ks)) := Hat.out.kidsZ
  rw [hkz, pos_len] at hown
  replace hown : W.ownsRow W4.heap.size 3 1 kv (ks.length + 1) (ints (natsI (spots (q + 1) (a :: ks)))) := hown
  obtain ⟨KA, kcap, rfl, hkr, hkc, hkn⟩ := frd_own Hm4.out hown
  have HK := Lib.hid hkr
  have Hm := Lib.hid hm
  have HX := Lib.hid (HX4.out.go HL.out (.below b5))
  have HC := Lib.hid (HC4.out.trans (.below b5))
  have x0 := HX.out.2.cellv (i := 0) (v := .int .i64 tag) rfl
  have x1 := HX.out.2.cellv (i := 1) (v := .int .i64 nn) rfl
  clear hown b5 hkr hm hkz Hm4 HX4 HC4 Hbr c2 Hm0 hql Hroot
  have ht := Ht.out
  unfold deep at ht
  have e1 : (tag == 1) = false := by simp; omega
  have e2 : (tag == 2) = false := by simp; omega
  have e3 : (tag == 3) = false := by simp; omega
  have e20 : (tag == 20) = false := by simp; omega
  have e26 : (tag == 26) = false := by simp; omega
  have hl0 : (0 : Int) < (ks.length : Int) + 1 := by omega
  clear ht
  obtain ⟨q1, hq1, hat1⟩ := kid_at Hat.out (i := 0) (k := a) rfl
  have hck : ∃ kd, KA = some kd ∧ W.cell? (kd.add 0) = some (.int .i64 (q1 : Int)) := int_at (l := natsI _) HK.out.1 (by simp [natsI, hq1])
  obtain ⟨kd, rfl, hck⟩ := hck
  have hck' : W.cell? kd = some (.int .i64 (q1 : Int)) := hck
  have Hcall := Lib.hid (h1 q1 ev0 W hat1 Hm.out)
  clear hat1 hq1 h1
  go_wp2_with fail
  refine Hcall.out.mono ?_
  rintro e Wa ⟨rfl, eva, hma, hca⟩
  replace HX := Lib.hid (HX.out.go HL.out hca)
  replace HK := Lib.hid (HK.out.go HL.out hca)
  replace HC := Lib.hid (HC.out.trans hca)
  clear x0 x1 hck hck' Hm Hcall
  have Hm := Lib.hid hma
  have x0 := HX.out.2.cellv (i := 0) (v := .int .i64 tag) rfl
  have x1 := HX.out.2.cellv (i := 1) (v := .int .i64 nn) rfl
  have c10 := hma.row.cellv (i := 10) (v := .bool s1.out.isSome) rfl
  rw [ho] at c10
  clear hma hca
  go_wp2
  go_ret
  exact ⟨rfl, eva, Hm.out, HC.out⟩
set_option maxRecDepth 100000 in
set_option maxHeartbeats 8000000 in
theorem rNeg (L : Lay) (hL : ROk L) (x : Nd) (a : Tr) (s s1 : Ms) (v : Int) (hg : s.go) (ht : x.tag = 5) (h1 : Ent L a s.tick v s1) (ho : s1.out = none) : Ent L (.node x [a]) s (wrap64 (-v)) s1 := by
  obtain ⟨tag, nn⟩ := x
  dsimp only at ht ⊢
  have Ht := Lib.hid ht
  clear ht
  intro q ev0 W0 hat h
  have HL := Lib.hid hL
  have Hm0 := Lib.hid h
  have Hat := Lib.hid hat
  obtain ⟨f, hf⟩ : ∃ f, s.fuel = f + 1 := ⟨s.fuel - 1, by have := hg.2; omega⟩
  have c10 := h.row.cellv (i := 10) (v := .bool s.out.isSome) rfl
  have c5 := h.row.cellv (i := 5) (v := .int .i64 (s.fuel : Int)) rfl
  rw [hg.1] at c10
  rw [hf] at c5
  replace c10 : W0.cell? ⟨L.M, 10, none⟩ = some (.bool false) := c10
  replace c5 : W0.cell? ⟨L.M, 5, none⟩ = some (.int .i64 ((f : Int) + 1)) := c5
  have hsum := h.core.sum
  have hF := hL.F
  have ef : (((f : Int) + 1) == 0) = false := by simp; omega
  have ew1 : IntKind.i64.wrap ((f : Int) + 1 - 1) = (f : Int) := by rw [IntWalk.i64_in _ (by omega)]; omega
  have ew1' : IntKind.i64.wrap (f : Int) = (f : Int) := IntWalk.i64_in _ (by omega)
  have ew2 : IntKind.i64.wrap ((s.steps : Int) + 1) = (s.steps : Int) + 1 := IntWalk.i64_in _ (by omega)
  have hsum2 : s.tick.steps + s.tick.fuel = L.F := by simp only [Ms.tick]; omega
  have hput : Hid (putL (putL (L.rcells s ev0) 5 [.int .i64 (f : Int)]) 6 [.int .i64 ((s.steps : Int) + 1)] = L.rcells s.tick ev0) := by
    show _ = _
    simp only [Lay.rcells, Ms.tick, hf]; rfl
  have Hf := Lib.hid hf
  have Hs2 := Lib.hid hsum2
  have Hroot : Hid (L.p.body[q]? = some ⟨tag, nn⟩) := hat.root
  have hql : (q : Int) < (L.p.body.length : Int) := by have := hat.lt; omega
  have hsz : (L.rcells s ev0).size = 11 := rfl
  clear h hat hL hsum hF hf hsum2
  go_enter Try.func39, Try.ntmps39
  go_wp2_with (refine at_store _ _ _ rfl ?_)
  refine Stop.to ?_
  refine wpList_store_part rfl 3 _ _ rfl L.M 5 rfl _ rfl [.int .i64 (f : Int)] rfl 68 _ _ Hm0.out.row (by kernel_rfl) (by show 5 + 1 ≤ 11; omega) (by simp [Value.oneCell']) rfl ?_
  intro W1 r1 o1
  have c6 := r1.cellv (i := 6) (v := .int .i64 (s.steps : Int)) rfl
  clear c5 c10 ef ew1 ew1'
  go_wp2_with (refine at_store _ _ _ rfl ?_)
  refine Stop.to ?_
  refine wpList_store_part rfl 3 _ _ rfl L.M 6 rfl _ rfl [.int .i64 ((s.steps : Int) + 1)] rfl 68 _ _ r1 (by kernel_rfl) (by show 6 + 1 ≤ 11; omega) (by simp [Value.oneCell']) hput.out ?_
  intro W2 r2 o2
  have o12 : Only L.M W0 W2 := o1.trans o2
  have m2 : RR L s.tick ev0 W2 := Hm0.out.setM HL.out o12 r2 rfl rfl rfl Hs2.out (by simp [Ms.tick])
  have Hm2 := Lib.hid m2
  have HC2 : Hid (RChg L ev0 W0 ev0 W2) := RChg.only o12 (.inl rfl)
  have c2 := m2.row.cellv (i := 2) (v := .slice L.p.ba L.p.body.length L.p.bcap) rfl
  have hok2 := HL.out.pok W2 m2.core.im
  have Hok2 := Lib.hid hok2
  obtain ⟨ad, had, hc⟩ := nd_at hok2.brd Hroot.out
  have Hc := Lib.hid hc
  have Hb1 := Lib.hid m2.core.size
  have c2' := c2
  rw [had] at c2'
  clear m2 hok2 o12 o1 o2 r1 r2 c6 ew2 hput hsz c2 hc had
  go_wp2_with (first
    | (refine wpList_load_at rfl 44 _ rfl (ad.add (q * 2)) rfl (Nd.cells ⟨tag, nn⟩) _ Hc.out Try.underlying44 rfl (by kernel_rfl) ?_)
    | (refine at_alloc _ rfl ?_))
  refine Stop.to ?_
  refine wpList_alloc_gen rfl 44 rfl _ _ zero_node rfl ?_
  intro X W3 hX rX b3
  go_wp2_with (refine at_store _ _ _ rfl ?_)
  refine Stop.to ?_
  refine wpList_store_gen rfl 44 _ _ rfl X (Nd.cells ⟨tag, nn⟩).toArray rfl rfl 44 _ rX (by kernel_rfl) rfl (by simp [Nd.cells, Value.oneCell']) ?_
  intro W4 r4 o4
  have b34 : Below W2.heap.size W2 W4 := (b3.mono hX).trans (o4.below hX)
  have m4 := Hm2.out.below HL.out b34
  have hc4 : RChg L ev0 W0 ev0 W4 := HC2.out.trans (.below b34)
  have HX4 : Hid (FRow L ev0 W4 X 44 (Nd.cells ⟨tag, nn⟩).toArray) := ⟨Hm2.out.far_new hX r4.lt, r4⟩
  have c2 := m4.row.cellv (i := 2) (v := .slice L.p.ba L.p.body.length L.p.bcap) rfl
  have Hm4 := Lib.hid m4
  have HC4 := Lib.hid hc4
  have Hbr := Lib.hid (HL.out.pok W4 m4.core.im).brd
  clear b3 b34 o4 rX c2' hX Hc r4 m4 hc4 HC2 Hm2 Hok2 Hb1
  go_wp2_with fail
  refine (refKids_any L.p.ba L.p.bcap L.p.body (q : Int) W4 Hbr.out HL.out.blen).mono ?_
  rintro e W ⟨kv, rfl, hown, b5⟩
  have hm := Hm4.out.below HL.out b5
  have hkz : kidsZ L.p.body (q : Int) = natsI (spots (q + 1) [a]) := Hat.out.kidsZ
  rw [hkz, pos_len] at hown
  replace hown : W.ownsRow W4.heap.size 3 1 kv 1 (ints (natsI (spots (q + 1) [a]))) := hown
  obtain ⟨KA, kcap, rfl, hkr, hkc, hkn⟩ := frd_own Hm4.out hown
  have HK := Lib.hid hkr
  have Hm := Lib.hid hm
  have HX := Lib.hid (HX4.out.go HL.out (.below b5))
  have HC := Lib.hid (HC4.out.trans (.below b5))
  have x0 := HX.out.2.cellv (i := 0) (v := .int .i64 tag) rfl
  have x1 := HX.out.2.cellv (i := 1) (v := .int .i64 nn) rfl
  clear hown b5 hkr hm hkz Hm4 HX4 HC4 Hbr c2 Hm0 hql Hroot
  obtain rfl := Ht.out
  obtain ⟨q1, hq1, hat1⟩ := kid_at Hat.out (i := 0) (k := a) rfl
  have hck : ∃ kd, KA = some kd ∧ W.cell? (kd.add 0) = some (.int .i64 (q1 : Int)) := int_at (l := natsI _) HK.out.1 (by simp [natsI, hq1])
  obtain ⟨kd, rfl, hck⟩ := hck
  have hck' : W.cell? kd = some (.int .i64 (q1 : Int)) := hck
  have Hcall := Lib.hid (h1 q1 ev0 W hat1 Hm.out)
  clear hat1 hq1 h1
  go_wp2_with fail
  refine Hcall.out.mono ?_
  rintro e Wa ⟨rfl, eva, hma, hca⟩
  replace HX := Lib.hid (HX.out.go HL.out hca)
  replace HK := Lib.hid (HK.out.go HL.out hca)
  replace HC := Lib.hid (HC.out.trans hca)
  clear x0 x1 hck hck' Hm Hcall
  have Hm := Lib.hid hma
  have x0 := HX.out.2.cellv (i := 0) (v := .int .i64 5) rfl
  have x1 := HX.out.2.cellv (i := 1) (v := .int .i64 nn) rfl
  have c10 := hma.row.cellv (i := 10) (v := .bool s1.out.isSome) rfl
  rw [ho] at c10
  clear hma hca
  replace c10 : Wa.cell? ⟨L.M, 10, none⟩ = some (.bool false) := c10
  go_wp2
  go_ret
  exact ⟨ret_i (by simp), eva, Hm.out, HC.out⟩
end Go.Proofs.Ytlglilmgklipdaa
