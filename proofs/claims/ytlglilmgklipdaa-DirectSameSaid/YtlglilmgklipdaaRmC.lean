/- The walk over the reference's enter: what a node does behind its kids. Conditions: stated in each theorem. -/
import Derived.Test.YtlglilmgklipdaaRmB
namespace Go.Proofs.Ytlglilmgklipdaa
set_option linter.unusedVariables false
open Go.RowKit Go.Deep

set_option maxRecDepth 100000 in
set_option maxHeartbeats 8000000 in
theorem rNot (L : Lay) (hL : ROk L) (x : Nd) (a : Tr) (s s1 : Ms) (v : Int) (hg : s.go) (ht : x.tag = 6) (h1 : Ent L a s.tick v s1) (ho : s1.out = none) (hv : v = 0 ∨ v = 1) : Ent L (.node x [a]) s (1 - v) s1 := by
  obtain ⟨tag, nn⟩ := x
  dsimp only at ht ⊢
  have Ht := Lib.hid ht
  clear ht
  intro q ev0 W0 hat h
  have HL := Lib.hid hL
  have Hm0 := Lib.hid h
  have Hat := Lib.hid hat
  obtain ⟨f, hf⟩ : ∃ f, s.fuel = f + 1 := ⟨s.fuel - 1, by have := hg.2; omega⟩
  have c10 := h.row.cellv (i := 10) (v := .bool s.out.isSome) rfl
  have c5 := h.row.cellv (i := 5) (v := .int .i64 (s.fuel : Int)) rfl
  rw [hg.1] at c10
  rw [hf] at c5
  replace c10 : W0.cell? ⟨L.M, 10, none⟩ = some (.bool false) := c10
  replace c5 : W0.cell? ⟨L.M, 5, none⟩ = some (.int .i64 ((f : Int) + 1)) := c5
  have hsum := h.core.sum
  have hF := hL.F
  have ef : (((f : Int) + 1) == 0) = false := by simp; omega
  have ew1 : IntKind.i64.wrap ((f : Int) + 1 - 1) = (f : Int) := by rw [IntWalk.i64_in _ (by omega)]; omega
  have ew1' : IntKind.i64.wrap (f : Int) = (f : Int) := IntWalk.i64_in _ (by omega)
  have ew2 : IntKind.i64.wrap ((s.steps : Int) + 1) = (s.steps : Int) + 1 := IntWalk.i64_in _ (by omega)
  have hsum2 : s.tick.steps + s.tick.fuel = L.F := by simp only [Ms.tick]; omega
  have hput : Hid (putL (putL (L.rcells s ev0) 5 [.int .i64 (f : Int)]) 6 [.int .i64 ((s.steps : Int) + 1)] = L.rcells s.tick ev0) := by
    show _ = _
    simp only [Lay.rcells, Ms.tick, hf]; rfl
  have Hf := Lib.hid hf
  have Hs2 := Lib.hid hsum2
  have Hroot : Hid (L.p.body[q]? = some ⟨tag, nn⟩) := hat.root
  have hql : (q : Int) < (L.p.body.length : Int) := by have := hat.lt; omega
  have hsz : (L.rcells s ev0).size = 11 := rfl
  clear h hat hL hsum hF hf hsum2
  go_enter Try.func39, Try.ntmps39
  go_wp2_with (refine at_store _ _ _ rfl ?_)
  refine Stop.to ?_
  refine wpList_store_part rfl 3 _ _ rfl L.M 5 rfl _ rfl [.int .i64 (f : Int)] rfl 68 _ _ Hm0.out.row (by kernel_rfl) (by show 5 + 1 ≤ 11; omega) (by simp [Value.oneCell']) rfl ?_
  intro W1 r1 o1
  have c6 := r1.cellv (i := 6) (v := .int .i64 (s.steps : Int)) rfl
  clear c5 c10 ef ew1 ew1'
  go_wp2_with (refine at_store _ _ _ rfl ?_)
  refine Stop.to ?_
  refine wpList_store_part rfl 3 _ _ rfl L.M 6 rfl _ rfl [.int .i64 ((s.steps : Int) + 1)] rfl 68 _ _ r1 (by kernel_rfl) (by show 6 + 1 ≤ 11; omega) (by simp [Value.oneCell']) hput.out ?_
  intro W2 r2 o2
  have o12 : Only L.M W0 W2 := o1.trans o2
  have m2 : RR L s.tick ev0 W2 := Hm0.out.setM HL.out o12 r2 rfl rfl rfl Hs2.out (by simp [Ms.tick])
  have Hm2 := Lib.hid m2
  have HC2 : Hid (RChg L ev0 W0 ev0 W2) := RChg.only o12 (.inl rfl)
  have c2 := m2.row.cellv (i := 2) (v := .slice L.p.ba L.p.body.length L.p.bcap) rfl
  have hok2 := HL.out.pok W2 m2.core.im
  have Hok2 := Lib.hid hok2
  obtain ⟨ad, had, hc⟩ := nd_at hok2.brd Hroot.out
  have Hc := Lib.hid hc
  have Hb1 := Lib.hid m2.core.size
  have c2' := c2
  rw [had] at c2'
  clear m2 hok2 o12 o1 o2 r1 r2 c6 ew2 hput hsz c2 hc had
  go_wp2_with (first
    | (refine wpList_load_at rfl 44 _ rfl (ad.add (q * 2)) rfl (Nd.cells ⟨tag, nn⟩) _ Hc.out Try.underlying44 rfl (by kernel_rfl) ?_)
    | (refine at_alloc _ rfl ?_))
  refine Stop.to ?_
  refine wpList_alloc_gen rfl 44 rfl _ _ zero_node rfl ?_
  intro X W3 hX rX b3
  go_wp2_with (refine at_store _ _ _ rfl ?_)
  refine Stop.to ?_
  refine wpList_store_gen rfl 44 _ _ rfl X (Nd.cells ⟨tag, nn⟩).toArray rfl rfl 44 _ rX (by kernel_rfl) rfl (by simp [Nd.cells, Value.oneCell']) ?_
  intro W4 r4 o4
  have b34 : Below W2.heap.size W2 W4 := (b3.mono hX).trans (o4.below hX)
  have m4 := Hm2.out.below HL.out b34
  have hc4 : RChg L ev0 W0 ev0 W4 := HC2.out.trans (.below b34)
  have HX4 : Hid (FRow L ev0 W4 X 44 (Nd.cells ⟨tag, nn⟩).toArray) := ⟨Hm2.out.far_new hX r4.lt, r4⟩
  have c2 := m4.row.cellv (i := 2) (v := .slice L.p.ba L.p.body.length L.p.bcap) rfl
  have Hm4 := Lib.hid m4
  have HC4 := Lib.hid hc4
  have Hbr := Lib.hid (HL.out.pok W4 m4.core.im).brd
  clear b3 b34 o4 rX c2' hX Hc r4 m4 hc4 HC2 Hm2 Hok2 Hb1
  go_wp2_with fail
  refine (refKids_any L.p.ba L.p.bcap L.p.body (q : Int) W4 Hbr.out HL.out.blen).mono ?_
  rintro e W ⟨kv, rfl, hown, b5⟩
  have hm := Hm4.out.below HL.out b5
  have hkz : kidsZ L.p.body (q : Int) = natsI (spots (q + 1) [a]) := Hat.out.kidsZ
  rw [hkz, pos_len] at hown
  replace hown : W.ownsRow W4.heap.size 3 1 kv 1 (ints (natsI (spots (q + 1) [a]))) := hown
  obtain ⟨KA, kcap, rfl, hkr, hkc, hkn⟩ := frd_own Hm4.out hown
  have HK := Lib.hid hkr
  have Hm := Lib.hid hm
  have HX := Lib.hid (HX4.out.go HL.out (.below b5))
  have HC := Lib.hid (HC4.out.trans (.below b5))
  have x0 := HX.out.2.cellv (i := 0) (v := .int .i64 tag) rfl
  have x1 := HX.out.2.cellv (i := 1) (v := .int .i64 nn) rfl
  clear hown b5 hkr hm hkz Hm4 HX4 HC4 Hbr c2 Hm0 hql Hroot
  obtain rfl := Ht.out
  obtain ⟨q1, hq1, hat1⟩ := kid_at Hat.out (i := 0) (k := a) rfl
  have hck : ∃ kd, KA = some kd ∧ W.cell? (kd.add 0) = some (.int .i64 (q1 : Int)) := int_at (l := natsI _) HK.out.1 (by simp [natsI, hq1])
  obtain ⟨kd, rfl, hck⟩ := hck
  have hck' : W.cell? kd = some (.int .i64 (q1 : Int)) := hck
  have Hcall := Lib.hid (h1 q1 ev0 W hat1 Hm.out)
  clear hat1 hq1 h1
  go_wp2_with fail
  refine Hcall.out.mono ?_
  rintro e Wa ⟨rfl, eva, hma, hca⟩
  replace HX := Lib.hid (HX.out.go HL.out hca)
  replace HK := Lib.hid (HK.out.go HL.out hca)
  replace HC := Lib.hid (HC.out.trans hca)
  clear x0 x1 hck hck' Hm Hcall
  have Hm := Lib.hid hma
  have x0 := HX.out.2.cellv (i := 0) (v := .int .i64 6) rfl
  have x1 := HX.out.2.cellv (i := 1) (v := .int .i64 nn) rfl
  have c10 := hma.row.cellv (i := 10) (v := .bool s1.out.isSome) rfl
  rw [ho] at c10
  clear hma hca
  replace c10 : Wa.cell? ⟨L.M, 10, none⟩ = some (.bool false) := c10
  have ew : IntKind.i64.wrap (1 - v) = 1 - v := IntWalk.i64_in _ (by omega)
  clear hv
  go_wp2
  go_ret
  exact ⟨rfl, eva, Hm.out, HC.out⟩
set_option maxRecDepth 100000 in
set_option maxHeartbeats 8000000 in
theorem rRet (L : Lay) (hL : ROk L) (x : Nd) (a : Tr) (s s1 : Ms) (v : Int) (hg : s.go) (ht : x.tag = 25) (h1 : Ent L a s.tick v s1) (ho : s1.out = none) : Ent L (.node x [a]) s 0 (s1.stop 0 v) := by
  have Hz : Hid (s1.stopped 0 v = s1.stop 0 v) := by show _ = _; unfold Ms.stopped; rw [ho]; rfl
  obtain ⟨tag, nn⟩ := x
  dsimp only at ht ⊢
  have Ht := Lib.hid ht
  clear ht
  intro q ev0 W0 hat h
  have HL := Lib.hid hL
  have Hm0 := Lib.hid h
  have Hat := Lib.hid hat
  obtain ⟨f, hf⟩ : ∃ f, s.fuel = f + 1 := ⟨s.fuel - 1, by have := hg.2; omega⟩
  have c10 := h.row.cellv (i := 10) (v := .bool s.out.isSome) rfl
  have c5 := h.row.cellv (i := 5) (v := .int .i64 (s.fuel : Int)) rfl
  rw [hg.1] at c10
  rw [hf] at c5
  replace c10 : W0.cell? ⟨L.M, 10, none⟩ = some (.bool false) := c10
  replace c5 : W0.cell? ⟨L.M, 5, none⟩ = some (.int .i64 ((f : Int) + 1)) := c5
  have hsum := h.core.sum
  have hF := hL.F
  have ef : (((f : Int) + 1) == 0) = false := by simp; omega
  have ew1 : IntKind.i64.wrap ((f : Int) + 1 - 1) = (f : Int) := by rw [IntWalk.i64_in _ (by omega)]; omega
  have ew1' : IntKind.i64.wrap (f : Int) = (f : Int) := IntWalk.i64_in _ (by omega)
  have ew2 : IntKind.i64.wrap ((s.steps : Int) + 1) = (s.steps : Int) + 1 := IntWalk.i64_in _ (by omega)
  have hsum2 : s.tick.steps + s.tick.fuel = L.F := by simp only [Ms.tick]; omega
  have hput : Hid (putL (putL (L.rcells s ev0) 5 [.int .i64 (f : Int)]) 6 [.int .i64 ((s.steps : Int) + 1)] = L.rcells s.tick ev0) := by
    show _ = _
    simp only [Lay.rcells, Ms.tick, hf]; rfl
  have Hf := Lib.hid hf
  have Hs2 := Lib.hid hsum2
  have Hroot : Hid (L.p.body[q]? = some ⟨tag, nn⟩) := hat.root
  have hql : (q : Int) < (L.p.body.length : Int) := by have := hat.lt; omega
  have hsz : (L.rcells s ev0).size = 11 := rfl
  clear h hat hL hsum hF hf hsum2
  go_enter Try.func39, Try.ntmps39
  go_wp2_with (refine at_store _ _ _ rfl ?_)
  refine Stop.to ?_
  refine wpList_store_part rfl 3 _ _ rfl L.M 5 rfl _ rfl [.int .i64 (f : Int)] rfl 68 _ _ Hm0.out.row (by kernel_rfl) (by show 5 + 1 ≤ 11; omega) (by simp [Value.oneCell']) rfl ?_
  intro W1 r1 o1
  have c6 := r1.cellv (i := 6) (v := .int .i64 (s.steps : Int)) rfl
  clear c5 c10 ef ew1 ew1'
  go_wp2_with (refine at_store _ _ _ rfl ?_)
  refine Stop.to ?_
  refine wpList_store_part rfl 3 _ _ rfl L.M 6 rfl _ rfl [.int .i64 ((s.steps : Int) + 1)] rfl 68 _ _ r1 (by kernel_rfl) (by show 6 + 1 ≤ 11; omega) (by simp [Value.oneCell']) hput.out ?_
  intro W2 r2 o2
  have o12 : Only L.M W0 W2 := o1.trans o2
  have m2 : RR L s.tick ev0 W2 := Hm0.out.setM HL.out o12 r2 rfl rfl rfl Hs2.out (by simp [Ms.tick])
  have Hm2 := Lib.hid m2
  have HC2 : Hid (RChg L ev0 W0 ev0 W2) := RChg.only o12 (.inl rfl)
  have c2 := m2.row.cellv (i := 2) (v := .slice L.p.ba L.p.body.length L.p.bcap) rfl
  have hok2 := HL.out.pok W2 m2.core.im
  have Hok2 := Lib.hid hok2
  obtain ⟨ad, had, hc⟩ := nd_at hok2.brd Hroot.out
  have Hc := Lib.hid hc
  have Hb1 := Lib.hid m2.core.size
  have c2' := c2
  rw [had] at c2'
  clear m2 hok2 o12 o1 o2 r1 r2 c6 ew2 hput hsz c2 hc had
  go_wp2_with (first
    | (refine wpList_load_at rfl 44 _ rfl (ad.add (q * 2)) rfl (Nd.cells ⟨tag, nn⟩) _ Hc.out Try.underlying44 rfl (by kernel_rfl) ?_)
    | (refine at_alloc _ rfl ?_))
  refine Stop.to ?_
  refine wpList_alloc_gen rfl 44 rfl _ _ zero_node rfl ?_
  intro X W3 hX rX b3
  go_wp2_with (refine at_store _ _ _ rfl ?_)
  refine Stop.to ?_
  refine wpList_store_gen rfl 44 _ _ rfl X (Nd.cells ⟨tag, nn⟩).toArray rfl rfl 44 _ rX (by kernel_rfl) rfl (by simp [Nd.cells, Value.oneCell']) ?_
  intro W4 r4 o4
  have b34 : Below W2.heap.size W2 W4 := (b3.mono hX).trans (o4.below hX)
  have m4 := Hm2.out.below HL.out b34
  have hc4 : RChg L ev0 W0 ev0 W4 := HC2.out.trans (.below b34)
  have HX4 : Hid (FRow L ev0 W4 X 44 (Nd.cells ⟨tag, nn⟩).toArray) := ⟨Hm2.out.far_new hX r4.lt, r4⟩
  have c2 := m4.row.cellv (i := 2) (v := .slice L.p.ba L.p.body.length L.p.bcap) rfl
  have Hm4 := Lib.hid m4
  have HC4 := Lib.hid hc4
  have Hbr := Lib.hid (HL.out.pok W4 m4.core.im).brd
  clear b3 b34 o4 rX c2' hX Hc r4 m4 hc4 HC2 Hm2 Hok2 Hb1
  go_wp2_with fail
  refine (refKids_any L.p.ba L.p.bcap L.p.body (q : Int) W4 Hbr.out HL.out.blen).mono ?_
  rintro e W ⟨kv, rfl, hown, b5⟩
  have hm := Hm4.out.below HL.out b5
  have hkz : kidsZ L.p.body (q : Int) = natsI (spots (q + 1) [a]) := Hat.out.kidsZ
  rw [hkz, pos_len] at hown
  replace hown : W.ownsRow W4.heap.size 3 1 kv 1 (ints (natsI (spots (q + 1) [a]))) := hown
  obtain ⟨KA, kcap, rfl, hkr, hkc, hkn⟩ := frd_own Hm4.out hown
  have HK := Lib.hid hkr
  have Hm := Lib.hid hm
  have HX := Lib.hid (HX4.out.go HL.out (.below b5))
  have HC := Lib.hid (HC4.out.trans (.below b5))
  have x0 := HX.out.2.cellv (i := 0) (v := .int .i64 tag) rfl
  have x1 := HX.out.2.cellv (i := 1) (v := .int .i64 nn) rfl
  clear hown b5 hkr hm hkz Hm4 HX4 HC4 Hbr c2 Hm0 hql Hroot
  obtain rfl := Ht.out
  obtain ⟨q1, hq1, hat1⟩ := kid_at Hat.out (i := 0) (k := a) rfl
  have hck : ∃ kd, KA = some kd ∧ W.cell? (kd.add 0) = some (.int .i64 (q1 : Int)) := int_at (l := natsI _) HK.out.1 (by simp [natsI, hq1])
  obtain ⟨kd, rfl, hck⟩ := hck
  have hck' : W.cell? kd = some (.int .i64 (q1 : Int)) := hck
  have Hcall := Lib.hid (h1 q1 ev0 W hat1 Hm.out)
  clear hat1 hq1 h1
  go_wp2_with fail
  refine Hcall.out.mono ?_
  rintro e Wa ⟨rfl, eva, hma, hca⟩
  replace HX := Lib.hid (HX.out.go HL.out hca)
  replace HK := Lib.hid (HK.out.go HL.out hca)
  replace HC := Lib.hid (HC.out.trans hca)
  clear x0 x1 hck hck' Hm Hcall
  have Hm := Lib.hid hma
  have x0 := HX.out.2.cellv (i := 0) (v := .int .i64 25) rfl
  have x1 := HX.out.2.cellv (i := 1) (v := .int .i64 nn) rfl
  have c10 := hma.row.cellv (i := 10) (v := .bool s1.out.isSome) rfl
  rw [ho] at c10
  clear hma hca
  replace c10 : Wa.cell? ⟨L.M, 10, none⟩ = some (.bool false) := c10
  go_wp2_with fail
  refine (rStop_any L HL.out s1 eva 0 v Wa Hm.out).mono ?_
  rintro e Wb ⟨rfl, hmb, hcb⟩
  have Hm2 := Lib.hid hmb
  have HC2 := Lib.hid (HC.out.trans hcb)
  clear hmb hcb Hm HC HX HK x0 x1 c10
  go_wp2
  go_ret
  exact ⟨rfl, eva, by rw [← Hz.out]; exact Hm2.out, HC2.out⟩
set_option maxRecDepth 100000 in
set_option maxHeartbeats 8000000 in
theorem rAnd0 (L : Lay) (hL : ROk L) (x : Nd) (a b : Tr) (s s1 : Ms) (hg : s.go) (ht : x.tag = 18) (h1 : Ent L a s.tick 0 s1) (ho : s1.out = none) : Ent L (.node x [a, b]) s 0 s1 := by
  obtain ⟨tag, nn⟩ := x
  dsimp only at ht ⊢
  have Ht := Lib.hid ht
  clear ht
  intro q ev0 W0 hat h
  have HL := Lib.hid hL
  have Hm0 := Lib.hid h
  have Hat := Lib.hid hat
  obtain ⟨f, hf⟩ : ∃ f, s.fuel = f + 1 := ⟨s.fuel - 1, by have := hg.2; omega⟩
  have c10 := h.row.cellv (i := 10) (v := .bool s.out.isSome) rfl
  have c5 := h.row.cellv (i := 5) (v := .int .i64 (s.fuel : Int)) rfl
  rw [hg.1] at c10
  rw [hf] at c5
  replace c10 : W0.cell? ⟨L.M, 10, none⟩ = some (.bool false) := c10
  replace c5 : W0.cell? ⟨L.M, 5, none⟩ = some (.int .i64 ((f : Int) + 1)) := c5
  have hsum := h.core.sum
  have hF := hL.F
  have ef : (((f : Int) + 1) == 0) = false := by simp; omega
  have ew1 : IntKind.i64.wrap ((f : Int) + 1 - 1) = (f : Int) := by rw [IntWalk.i64_in _ (by omega)]; omega
  have ew1' : IntKind.i64.wrap (f : Int) = (f : Int) := IntWalk.i64_in _ (by omega)
  have ew2 : IntKind.i64.wrap ((s.steps : Int) + 1) = (s.steps : Int) + 1 := IntWalk.i64_in _ (by omega)
  have hsum2 : s.tick.steps + s.tick.fuel = L.F := by simp only [Ms.tick]; omega
  have hput : Hid (putL (putL (L.rcells s ev0) 5 [.int .i64 (f : Int)]) 6 [.int .i64 ((s.steps : Int) + 1)] = L.rcells s.tick ev0) := by
    show _ = _
    simp only [Lay.rcells, Ms.tick, hf]; rfl
  have Hf := Lib.hid hf
  have Hs2 := Lib.hid hsum2
  have Hroot : Hid (L.p.body[q]? = some ⟨tag, nn⟩) := hat.root
  have hql : (q : Int) < (L.p.body.length : Int) := by have := hat.lt; omega
  have hsz : (L.rcells s ev0).size = 11 := rfl
  clear h hat hL hsum hF hf hsum2
  go_enter Try.func39, Try.ntmps39
  go_wp2_with (refine at_store _ _ _ rfl ?_)
  refine Stop.to ?_
  refine wpList_store_part rfl 3 _ _ rfl L.M 5 rfl _ rfl [.int .i64 (f : Int)] rfl 68 _ _ Hm0.out.row (by kernel_rfl) (by show 5 + 1 ≤ 11; omega) (by simp [Value.oneCell']) rfl ?_
  intro W1 r1 o1
  have c6 := r1.cellv (i := 6) (v := .int .i64 (s.steps : Int)) rfl
  clear c5 c10 ef ew1 ew1'
  go_wp2_with (refine at_store _ _ _ rfl ?_)
  refine Stop.to ?_
  refine wpList_store_part rfl 3 _ _ rfl L.M 6 rfl _ rfl [.int .i64 ((s.steps : Int) + 1)] rfl 68 _ _ r1 (by kernel_rfl) (by show 6 + 1 ≤ 11; omega) (by simp [Value.oneCell']) hput.out ?_
  intro W2 r2 o2
  have o12 : Only L.M W0 W2 := o1.trans o2
  have m2 : RR L s.tick ev0 W2 := Hm0.out.setM HL.out o12 r2 rfl rfl rfl Hs2.out (by simp [Ms.tick])
  have Hm2 := Lib.hid m2
  have HC2 : Hid (RChg L ev0 W0 ev0 W2) := RChg.only o12 (.inl rfl)
  have c2 := m2.row.cellv (i := 2) (v := .slice L.p.ba L.p.body.length L.p.bcap) rfl
  have hok2 := HL.out.pok W2 m2.core.im
  have Hok2 := Lib.hid hok2
  obtain ⟨ad, had, hc⟩ := nd_at hok2.brd Hroot.out
  have Hc := Lib.hid hc
  have Hb1 := Lib.hid m2.core.size
  have c2' := c2
  rw [had] at c2'
  clear m2 hok2 o12 o1 o2 r1 r2 c6 ew2 hput hsz c2 hc had
  go_wp2_with (first
    | (refine wpList_load_at rfl 44 _ rfl (ad.add (q * 2)) rfl (Nd.cells ⟨tag, nn⟩) _ Hc.out Try.underlying44 rfl (by kernel_rfl) ?_)
    | (refine at_alloc _ rfl ?_))
  refine Stop.to ?_
  refine wpList_alloc_gen rfl 44 rfl _ _ zero_node rfl ?_
  intro X W3 hX rX b3
  go_wp2_with (refine at_store _ _ _ rfl ?_)
  refine Stop.to ?_
  refine wpList_store_gen rfl 44 _ _ rfl X (Nd.cells ⟨tag, nn⟩).toArray rfl rfl 44 _ rX (by kernel_rfl) rfl (by simp [Nd.cells, Value.oneCell']) ?_
  intro W4 r4 o4
  have b34 : Below W2.heap.size W2 W4 := (b3.mono hX).trans (o4.below hX)
  have m4 := Hm2.out.below HL.out b34
  have hc4 : RChg L ev0 W0 ev0 W4 := HC2.out.trans (.below b34)
  have HX4 : Hid (FRow L ev0 W4 X 44 (Nd.cells ⟨tag, nn⟩).toArray) := ⟨Hm2.out.far_new hX r4.lt, r4⟩
  have c2 := m4.row.cellv (i := 2) (v := .slice L.p.ba L.p.body.length L.p.bcap) rfl
  have Hm4 := Lib.hid m4
  have HC4 := Lib.hid hc4
  have Hbr := Lib.hid (HL.out.pok W4 m4.core.im).brd
  clear b3 b34 o4 rX c2' hX Hc r4 m4 hc4 HC2 Hm2 Hok2 Hb1
  go_wp2_with fail
  refine (refKids_any L.p.ba L.p.bcap L.p.body (q : Int) W4 Hbr.out HL.out.blen).mono ?_
  rintro e W ⟨kv, rfl, hown, b5⟩
  have hm := Hm4.out.below HL.out b5
  have hkz : kidsZ L.p.body (q : Int) = natsI (spots (q + 1) [a, b]) := Hat.out.kidsZ
  rw [hkz, pos_len] at hown
  replace hown : W.ownsRow W4.heap.size 3 1 kv 2 (ints (natsI (spots (q + 1) [a, b]))) := hown
  obtain ⟨KA, kcap, rfl, hkr, hkc, hkn⟩ := frd_own Hm4.out hown
  have HK := Lib.hid hkr
  have Hm := Lib.hid hm
  have HX := Lib.hid (HX4.out.go HL.out (.below b5))
  have HC := Lib.hid (HC4.out.trans (.below b5))
  have x0 := HX.out.2.cellv (i := 0) (v := .int .i64 tag) rfl
  have x1 := HX.out.2.cellv (i := 1) (v := .int .i64 nn) rfl
  clear hown b5 hkr hm hkz Hm4 HX4 HC4 Hbr c2 Hm0 hql Hroot
  obtain rfl := Ht.out
  obtain ⟨q1, hq1, hat1⟩ := kid_at Hat.out (i := 0) (k := a) rfl
  have hck : ∃ kd, KA = some kd ∧ W.cell? (kd.add 0) = some (.int .i64 (q1 : Int)) := int_at (l := natsI _) HK.out.1 (by simp [natsI, hq1])
  obtain ⟨kd, rfl, hck⟩ := hck
  have hck' : W.cell? kd = some (.int .i64 (q1 : Int)) := hck
  have Hcall := Lib.hid (h1 q1 ev0 W hat1 Hm.out)
  clear hat1 hq1 h1
  go_wp2_with fail
  refine Hcall.out.mono ?_
  rintro e Wa ⟨rfl, eva, hma, hca⟩
  replace HX := Lib.hid (HX.out.go HL.out hca)
  replace HK := Lib.hid (HK.out.go HL.out hca)
  replace HC := Lib.hid (HC.out.trans hca)
  clear x0 x1 hck hck' Hm Hcall
  have Hm := Lib.hid hma
  have x0 := HX.out.2.cellv (i := 0) (v := .int .i64 18) rfl
  have x1 := HX.out.2.cellv (i := 1) (v := .int .i64 nn) rfl
  have c10 := hma.row.cellv (i := 10) (v := .bool s1.out.isSome) rfl
  rw [ho] at c10
  clear hma hca
  replace c10 : Wa.cell? ⟨L.M, 10, none⟩ = some (.bool false) := c10
  go_wp2
  go_ret
  exact ⟨rfl, eva, Hm.out, HC.out⟩
set_option maxRecDepth 100000 in
set_option maxHeartbeats 8000000 in
theorem rOr1 (L : Lay) (hL : ROk L) (x : Nd) (a b : Tr) (s s1 : Ms) (hg : s.go) (ht : x.tag = 19) (h1 : Ent L a s.tick 1 s1) (ho : s1.out = none) : Ent L (.node x [a, b]) s 1 s1 := by
  obtain ⟨tag, nn⟩ := x
  dsimp only at ht ⊢
  have Ht := Lib.hid ht
  clear ht
  intro q ev0 W0 hat h
  have HL := Lib.hid hL
  have Hm0 := Lib.hid h
  have Hat := Lib.hid hat
  obtain ⟨f, hf⟩ : ∃ f, s.fuel = f + 1 := ⟨s.fuel - 1, by have := hg.2; omega⟩
  have c10 := h.row.cellv (i := 10) (v := .bool s.out.isSome) rfl
  have c5 := h.row.cellv (i := 5) (v := .int .i64 (s.fuel : Int)) rfl
  rw [hg.1] at c10
  rw [hf] at c5
  replace c10 : W0.cell? ⟨L.M, 10, none⟩ = some (.bool false) := c10
  replace c5 : W0.cell? ⟨L.M, 5, none⟩ = some (.int .i64 ((f : Int) + 1)) := c5
  have hsum := h.core.sum
  have hF := hL.F
  have ef : (((f : Int) + 1) == 0) = false := by simp; omega
  have ew1 : IntKind.i64.wrap ((f : Int) + 1 - 1) = (f : Int) := by rw [IntWalk.i64_in _ (by omega)]; omega
  have ew1' : IntKind.i64.wrap (f : Int) = (f : Int) := IntWalk.i64_in _ (by omega)
  have ew2 : IntKind.i64.wrap ((s.steps : Int) + 1) = (s.steps : Int) + 1 := IntWalk.i64_in _ (by omega)
  have hsum2 : s.tick.steps + s.tick.fuel = L.F := by simp only [Ms.tick]; omega
  have hput : Hid (putL (putL (L.rcells s ev0) 5 [.int .i64 (f : Int)]) 6 [.int .i64 ((s.steps : Int) + 1)] = L.rcells s.tick ev0) := by
    show _ = _
    simp only [Lay.rcells, Ms.tick, hf]; rfl
  have Hf := Lib.hid hf
  have Hs2 := Lib.hid hsum2
  have Hroot : Hid (L.p.body[q]? = some ⟨tag, nn⟩) := hat.root
  have hql : (q : Int) < (L.p.body.length : Int) := by have := hat.lt; omega
  have hsz : (L.rcells s ev0).size = 11 := rfl
  clear h hat hL hsum hF hf hsum2
  go_enter Try.func39, Try.ntmps39
  go_wp2_with (refine at_store _ _ _ rfl ?_)
  refine Stop.to ?_
  refine wpList_store_part rfl 3 _ _ rfl L.M 5 rfl _ rfl [.int .i64 (f : Int)] rfl 68 _ _ Hm0.out.row (by kernel_rfl) (by show 5 + 1 ≤ 11; omega) (by simp [Value.oneCell']) rfl ?_
  intro W1 r1 o1
  have c6 := r1.cellv (i := 6) (v := .int .i64 (s.steps : Int)) rfl
  clear c5 c10 ef ew1 ew1'
  go_wp2_with (refine at_store _ _ _ rfl ?_)
  refine Stop.to ?_
  refine wpList_store_part rfl 3 _ _ rfl L.M 6 rfl _ rfl [.int .i64 ((s.steps : Int) + 1)] rfl 68 _ _ r1 (by kernel_rfl) (by show 6 + 1 ≤ 11; omega) (by simp [Value.oneCell']) hput.out ?_
  intro W2 r2 o2
  have o12 : Only L.M W0 W2 := o1.trans o2
  have m2 : RR L s.tick ev0 W2 := Hm0.out.setM HL.out o12 r2 rfl rfl rfl Hs2.out (by simp [Ms.tick])
  have Hm2 := Lib.hid m2
  have HC2 : Hid (RChg L ev0 W0 ev0 W2) := RChg.only o12 (.inl rfl)
  have c2 := m2.row.cellv (i := 2) (v := .slice L.p.ba L.p.body.length L.p.bcap) rfl
  have hok2 := HL.out.pok W2 m2.core.im
  have Hok2 := Lib.hid hok2
  obtain ⟨ad, had, hc⟩ := nd_at hok2.brd Hroot.out
  have Hc := Lib.hid hc
  have Hb1 := Lib.hid m2.core.size
  have c2' := c2
  rw [had] at c2'
  clear m2 hok2 o12 o1 o2 r1 r2 c6 ew2 hput hsz c2 hc had
  go_wp2_with (first
    | (refine wpList_load_at rfl 44 _ rfl (ad.add (q * 2)) rfl (Nd.cells ⟨tag, nn⟩) _ Hc.out Try.underlying44 rfl (by kernel_rfl) ?_)
    | (refine at_alloc _ rfl ?_))
  refine Stop.to ?_
  refine wpList_alloc_gen rfl 44 rfl _ _ zero_node rfl ?_
  intro X W3 hX rX b3
  go_wp2_with (refine at_store _ _ _ rfl ?_)
  refine Stop.to ?_
  refine wpList_store_gen rfl 44 _ _ rfl X (Nd.cells ⟨tag, nn⟩).toArray rfl rfl 44 _ rX (by kernel_rfl) rfl (by simp [Nd.cells, Value.oneCell']) ?_
  intro W4 r4 o4
  have b34 : Below W2.heap.size W2 W4 := (b3.mono hX).trans (o4.below hX)
  have m4 := Hm2.out.below HL.out b34
  have hc4 : RChg L ev0 W0 ev0 W4 := HC2.out.trans (.below b34)
  have HX4 : Hid (FRow L ev0 W4 X 44 (Nd.cells ⟨tag, nn⟩).toArray) := ⟨Hm2.out.far_new hX r4.lt, r4⟩
  have c2 := m4.row.cellv (i := 2) (v := .slice L.p.ba L.p.body.length L.p.bcap) rfl
  have Hm4 := Lib.hid m4
  have HC4 := Lib.hid hc4
  have Hbr := Lib.hid (HL.out.pok W4 m4.core.im).brd
  clear b3 b34 o4 rX c2' hX Hc r4 m4 hc4 HC2 Hm2 Hok2 Hb1
  go_wp2_with fail
  refine (refKids_any L.p.ba L.p.bcap L.p.body (q : Int) W4 Hbr.out HL.out.blen).mono ?_
  rintro e W ⟨kv, rfl, hown, b5⟩
  have hm := Hm4.out.below HL.out b5
  have hkz : kidsZ L.p.body (q : Int) = natsI (spots (q + 1) [a, b]) := Hat.out.kidsZ
  rw [hkz, pos_len] at hown
  replace hown : W.ownsRow W4.heap.size 3 1 kv 2 (ints (natsI (spots (q + 1) [a, b]))) := hown
  obtain ⟨KA, kcap, rfl, hkr, hkc, hkn⟩ := frd_own Hm4.out hown
  have HK := Lib.hid hkr
  have Hm := Lib.hid hm
  have HX := Lib.hid (HX4.out.go HL.out (.below b5))
  have HC := Lib.hid (HC4.out.trans (.below b5))
  have x0 := HX.out.2.cellv (i := 0) (v := .int .i64 tag) rfl
  have x1 := HX.out.2.cellv (i := 1) (v := .int .i64 nn) rfl
  clear hown b5 hkr hm hkz Hm4 HX4 HC4 Hbr c2 Hm0 hql Hroot
  obtain rfl := Ht.out
  obtain ⟨q1, hq1, hat1⟩ := kid_at Hat.out (i := 0) (k := a) rfl
  have hck : ∃ kd, KA = some kd ∧ W.cell? (kd.add 0) = some (.int .i64 (q1 : Int)) := int_at (l := natsI _) HK.out.1 (by simp [natsI, hq1])
  obtain ⟨kd, rfl, hck⟩ := hck
  have hck' : W.cell? kd = some (.int .i64 (q1 : Int)) := hck
  have Hcall := Lib.hid (h1 q1 ev0 W hat1 Hm.out)
  clear hat1 hq1 h1
  go_wp2_with fail
  refine Hcall.out.mono ?_
  rintro e Wa ⟨rfl, eva, hma, hca⟩
  replace HX := Lib.hid (HX.out.go HL.out hca)
  replace HK := Lib.hid (HK.out.go HL.out hca)
  replace HC := Lib.hid (HC.out.trans hca)
  clear x0 x1 hck hck' Hm Hcall
  have Hm := Lib.hid hma
  have x0 := HX.out.2.cellv (i := 0) (v := .int .i64 19) rfl
  have x1 := HX.out.2.cellv (i := 1) (v := .int .i64 nn) rfl
  have c10 := hma.row.cellv (i := 10) (v := .bool s1.out.isSome) rfl
  rw [ho] at c10
  clear hma hca
  replace c10 : Wa.cell? ⟨L.M, 10, none⟩ = some (.bool false) := c10
  go_wp2
  go_ret
  exact ⟨rfl, eva, Hm.out, HC.out⟩
set_option maxRecDepth 100000 in
set_option maxHeartbeats 8000000 in
theorem rAnd1 (L : Lay) (hL : ROk L) (x : Nd) (a b : Tr) (s s1 s2 : Ms) (v u : Int) (hg : s.go) (ht : x.tag = 18) (h1 : Ent L a s.tick v s1) (ho : s1.out = none) (hv : v ≠ 0) (h2 : Ent L b s1 u s2) : Ent L (.node x [a, b]) s u s2 := by
  obtain ⟨tag, nn⟩ := x
  dsimp only at ht ⊢
  have Ht := Lib.hid ht
  clear ht
  have ev : (v == 0) = false := by simpa using hv
  clear hv
  intro q ev0 W0 hat h
  have HL := Lib.hid hL
  have Hm0 := Lib.hid h
  have Hat := Lib.hid hat
  obtain ⟨f, hf⟩ : ∃ f, s.fuel = f + 1 := ⟨s.fuel - 1, by have := hg.2; omega⟩
  have c10 := h.row.cellv (i := 10) (v := .bool s.out.isSome) rfl
  have c5 := h.row.cellv (i := 5) (v := .int .i64 (s.fuel : Int)) rfl
  rw [hg.1] at c10
  rw [hf] at c5
  replace c10 : W0.cell? ⟨L.M, 10, none⟩ = some (.bool false) := c10
  replace c5 : W0.cell? ⟨L.M, 5, none⟩ = some (.int .i64 ((f : Int) + 1)) := c5
  have hsum := h.core.sum
  have hF := hL.F
  have ef : (((f : Int) + 1) == 0) = false := by simp; omega
  have ew1 : IntKind.i64.wrap ((f : Int) + 1 - 1) = (f : Int) := by rw [IntWalk.i64_in _ (by omega)]; omega
  have ew1' : IntKind.i64.wrap (f : Int) = (f : Int) := IntWalk.i64_in _ (by omega)
  have ew2 : IntKind.i64.wrap ((s.steps : Int) + 1) = (s.steps : Int) + 1 := IntWalk.i64_in _ (by omega)
  have hsum2 : s.tick.steps + s.tick.fuel = L.F := by simp only [Ms.tick]; omega
  have hput : Hid (putL (putL (L.rcells s ev0) 5 [.int .i64 (f : Int)]) 6 [.int .i64 ((s.steps : Int) + 1)] = L.rcells s.tick ev0) := by
    show _ = _
    simp only [Lay.rcells, Ms.tick, hf]; rfl
  have Hf := Lib.hid hf
  have Hs2 := Lib.hid hsum2
  have Hroot : Hid (L.p.body[q]? = some ⟨tag, nn⟩) := hat.root
  have hql : (q : Int) < (L.p.body.length : Int) := by have := hat.lt; omega
  have hsz : (L.rcells s ev0).size = 11 := rfl
  clear h hat hL hsum hF hf hsum2
  go_enter Try.func39, Try.ntmps39
  go_wp2_with (refine at_store _ _ _ rfl ?_)
  refine Stop.to ?_
  refine wpList_store_part rfl 3 _ _ rfl L.M 5 rfl _ rfl [.int .i64 (f : Int)] rfl 68 _ _ Hm0.out.row (by kernel_rfl) (by show 5 + 1 ≤ 11; omega) (by simp [Value.oneCell']) rfl ?_
  intro W1 r1 o1
  have c6 := r1.cellv (i := 6) (v := .int .i64 (s.steps : Int)) rfl
  clear c5 c10 ef ew1 ew1'
  go_wp2_with (refine at_store _ _ _ rfl ?_)
  refine Stop.to ?_
  refine wpList_store_part rfl 3 _ _ rfl L.M 6 rfl _ rfl [.int .i64 ((s.steps : Int) + 1)] rfl 68 _ _ r1 (by kernel_rfl) (by show 6 + 1 ≤ 11; omega) (by simp [Value.oneCell']) hput.out ?_
  intro W2 r2 o2
  have o12 : Only L.M W0 W2 := o1.trans o2
  have m2 : RR L s.tick ev0 W2 := Hm0.out.setM HL.out o12 r2 rfl rfl rfl Hs2.out (by simp [Ms.tick])
  have Hm2 := Lib.hid m2
  have HC2 : Hid (RChg L ev0 W0 ev0 W2) := RChg.only o12 (.inl rfl)
  have c2 := m2.row.cellv (i := 2) (v := .slice L.p.ba L.p.body.length L.p.bcap) rfl
  have hok2 := HL.out.pok W2 m2.core.im
  have Hok2 := Lib.hid hok2
  obtain ⟨ad, had, hc⟩ := nd_at hok2.brd Hroot.out
  have Hc := Lib.hid hc
  have Hb1 := Lib.hid m2.core.size
  have c2' := c2
  rw [had] at c2'
  clear m2 hok2 o12 o1 o2 r1 r2 c6 ew2 hput hsz c2 hc had
  go_wp2_with (first
    | (refine wpList_load_at rfl 44 _ rfl (ad.add (q * 2)) rfl (Nd.cells ⟨tag, nn⟩) _ Hc.out Try.underlying44 rfl (by kernel_rfl) ?_)
    | (refine at_alloc _ rfl ?_))
  refine Stop.to ?_
  refine wpList_alloc_gen rfl 44 rfl _ _ zero_node rfl ?_
  intro X W3 hX rX b3
  go_wp2_with (refine at_store _ _ _ rfl ?_)
  refine Stop.to ?_
  refine wpList_store_gen rfl 44 _ _ rfl X (Nd.cells ⟨tag, nn⟩).toArray rfl rfl 44 _ rX (by kernel_rfl) rfl (by simp [Nd.cells, Value.oneCell']) ?_
  intro W4 r4 o4
  have b34 : Below W2.heap.size W2 W4 := (b3.mono hX).trans (o4.below hX)
  have m4 := Hm2.out.below HL.out b34
  have hc4 : RChg L ev0 W0 ev0 W4 := HC2.out.trans (.below b34)
  have HX4 : Hid (FRow L ev0 W4 X 44 (Nd.cells ⟨tag, nn⟩).toArray) := ⟨Hm2.out.far_new hX r4.lt, r4⟩
  have c2 := m4.row.cellv (i := 2) (v := .slice L.p.ba L.p.body.length L.p.bcap) rfl
  have Hm4 := Lib.hid m4
  have HC4 := Lib.hid hc4
  have Hbr := Lib.hid (HL.out.pok W4 m4.core.im).brd
  clear b3 b34 o4 rX c2' hX Hc r4 m4 hc4 HC2 Hm2 Hok2 Hb1
  go_wp2_with fail
  refine (refKids_any L.p.ba L.p.bcap L.p.body (q : Int) W4 Hbr.out HL.out.blen).mono ?_
  rintro e W ⟨kv, rfl, hown, b5⟩
  have hm := Hm4.out.below HL.out b5
  have hkz : kidsZ L.p.body (q : Int) = natsI (spots (q + 1) [a, b]) := Hat.out.kidsZ
  rw [hkz, pos_len] at hown
  replace hown : W.ownsRow W4.heap.size 3 1 kv 2 (ints (natsI (spots (q + 1) [a, b]))) := hown
  obtain ⟨KA, kcap, rfl, hkr, hkc, hkn⟩ := frd_own Hm4.out hown
  have HK := Lib.hid hkr
  have Hm := Lib.hid hm
  have HX := Lib.hid (HX4.out.go HL.out (.below b5))
  have HC := Lib.hid (HC4.out.trans (.below b5))
  have x0 := HX.out.2.cellv (i := 0) (v := .int .i64 tag) rfl
  have x1 := HX.out.2.cellv (i := 1) (v := .int .i64 nn) rfl
  clear hown b5 hkr hm hkz Hm4 HX4 HC4 Hbr c2 Hm0 hql Hroot
  obtain rfl := Ht.out
  obtain ⟨q1, hq1, hat1⟩ := kid_at Hat.out (i := 0) (k := a) rfl
  have hck : ∃ kd, KA = some kd ∧ W.cell? (kd.add 0) = some (.int .i64 (q1 : Int)) := int_at (l := natsI _) HK.out.1 (by simp [natsI, hq1])
  obtain ⟨kd, rfl, hck⟩ := hck
  have hck' : W.cell? kd = some (.int .i64 (q1 : Int)) := hck
  have Hcall := Lib.hid (h1 q1 ev0 W hat1 Hm.out)
  clear hat1 hq1 h1
  go_wp2_with fail
  refine Hcall.out.mono ?_
  rintro e Wa ⟨rfl, eva, hma, hca⟩
  replace HX := Lib.hid (HX.out.go HL.out hca)
  replace HK := Lib.hid (HK.out.go HL.out hca)
  replace HC := Lib.hid (HC.out.trans hca)
  clear x0 x1 hck hck' Hm Hcall
  have Hm := Lib.hid hma
  have x0 := HX.out.2.cellv (i := 0) (v := .int .i64 18) rfl
  have x1 := HX.out.2.cellv (i := 1) (v := .int .i64 nn) rfl
  have c10 := hma.row.cellv (i := 10) (v := .bool s1.out.isSome) rfl
  rw [ho] at c10
  clear hma hca
  replace c10 : Wa.cell? ⟨L.M, 10, none⟩ = some (.bool false) := c10
  obtain ⟨q1, hq1, hat1⟩ := kid_at Hat.out (i := 1) (k := b) rfl
  have hck : ∃ kd', some kd = some kd' ∧ Wa.cell? (kd'.add 1) = some (.int .i64 (q1 : Int)) := int_at (l := natsI _) HK.out.1 (by simp [natsI, hq1])
  obtain ⟨kd', hkd, hck⟩ := hck
  injection hkd with hkd
  subst hkd
  have hck' : Wa.cell? ⟨kd.block, kd.off + 1, none⟩ = some (.int .i64 (q1 : Int)) := by simpa [Addr.add] using hck
  have Hcall := Lib.hid (h2 q1 eva Wa hat1 Hm.out)
  clear hat1 hq1 h2
  go_wp2_with fail
  refine Hcall.out.mono ?_
  rintro e Wb ⟨rfl, evb, hmb, hcb⟩
  replace HX := Lib.hid (HX.out.go HL.out hcb)
  replace HK := Lib.hid (HK.out.go HL.out hcb)
  replace HC := Lib.hid (HC.out.trans hcb)
  clear x0 x1 hck hck' c10 Hm Hcall
  have Hm := Lib.hid hmb
  have x0 := HX.out.2.cellv (i := 0) (v := .int .i64 18) rfl
  have x1 := HX.out.2.cellv (i := 1) (v := .int .i64 nn) rfl
  have c10 := hmb.row.cellv (i := 10) (v := .bool s2.out.isSome) rfl
  clear hmb hcb
  go_wp2
  go_ret
  exact ⟨rfl, evb, Hm.out, HC.out⟩
set_option maxRecDepth 100000 in
set_option maxHeartbeats 8000000 in
theorem rOr0 (L : Lay) (hL : ROk L) (x : Nd) (a b : Tr) (s s1 s2 : Ms) (v u : Int) (hg : s.go) (ht : x.tag = 19) (h1 : Ent L a s.tick v s1) (ho : s1.out = none) (hv : v ≠ 1) (h2 : Ent L b s1 u s2) : Ent L (.node x [a, b]) s u s2 := by
  obtain ⟨tag, nn⟩ := x
  dsimp only at ht ⊢
  have Ht := Lib.hid ht
  clear ht
  have ev : (v == 1) = false := by simpa using hv
  clear hv
  intro q ev0 W0 hat h
  have HL := Lib.hid hL
  have Hm0 := Lib.hid h
  have Hat := Lib.hid hat
  obtain ⟨f, hf⟩ : ∃ f, s.fuel = f + 1 := ⟨s.fuel - 1, by have := hg.2; omega⟩
  have c10 := h.row.cellv (i := 10) (v := .bool s.out.isSome) rfl
  have c5 := h.row.cellv (i := 5) (v := .int .i64 (s.fuel : Int)) rfl
  rw [hg.1] at c10
  rw [hf] at c5
  replace c10 : W0.cell? ⟨L.M, 10, none⟩ = some (.bool false) := c10
  replace c5 : W0.cell? ⟨L.M, 5, none⟩ = some (.int .i64 ((f : Int) + 1)) := c5
  have hsum := h.core.sum
  have hF := hL.F
  have ef : (((f : Int) + 1) == 0) = false := by simp; omega
  have ew1 : IntKind.i64.wrap ((f : Int) + 1 - 1) = (f : Int) := by rw [IntWalk.i64_in _ (by omega)]; omega
  have ew1' : IntKind.i64.wrap (f : Int) = (f : Int) := IntWalk.i64_in _ (by omega)
  have ew2 : IntKind.i64.wrap ((s.steps : Int) + 1) = (s.steps : Int) + 1 := IntWalk.i64_in _ (by omega)
  have hsum2 : s.tick.steps + s.tick.fuel = L.F := by simp only [Ms.tick]; omega
  have hput : Hid (putL (putL (L.rcells s ev0) 5 [.int .i64 (f : Int)]) 6 [.int .i64 ((s.steps : Int) + 1)] = L.rcells s.tick ev0) := by
    show _ = _
    simp only [Lay.rcells, Ms.tick, hf]; rfl
  have Hf := Lib.hid hf
  have Hs2 := Lib.hid hsum2
  have Hroot : Hid (L.p.body[q]? = some ⟨tag, nn⟩) := hat.root
  have hql : (q : Int) < (L.p.body.length : Int) := by have := hat.lt; omega
  have hsz : (L.rcells s ev0).size = 11 := rfl
  clear h hat hL hsum hF hf hsum2
  go_enter Try.func39, Try.ntmps39
  go_wp2_with (refine at_store _ _ _ rfl ?_)
  refine Stop.to ?_
  refine wpList_store_part rfl 3 _ _ rfl L.M 5 rfl _ rfl [.int .i64 (f : Int)] rfl 68 _ _ Hm0.out.row (by kernel_rfl) (by show 5 + 1 ≤ 11; omega) (by simp [Value.oneCell']) rfl ?_
  intro W1 r1 o1
  have c6 := r1.cellv (i := 6) (v := .int .i64 (s.steps : Int)) rfl
  clear c5 c10 ef ew1 ew1'
  go_wp2_with (refine at_store _ _ _ rfl ?_)
  refine Stop.to ?_
  refine wpList_store_part rfl 3 _ _ rfl L.M 6 rfl _ rfl [.int .i64 ((s.steps : Int) + 1)] rfl 68 _ _ r1 (by kernel_rfl) (by show 6 + 1 ≤ 11; omega) (by simp [Value.oneCell']) hput.out ?_
  intro W2 r2 o2
  have o12 : Only L.M W0 W2 := o1.trans o2
  have m2 : RR L s.tick ev0 W2 := Hm0.out.setM HL.out o12 r2 rfl rfl rfl Hs2.out (by simp [Ms.tick])
  have Hm2 := Lib.hid m2
  have HC2 : Hid (RChg L ev0 W0 ev0 W2) := RChg.only o12 (.inl rfl)
  have c2 := m2.row.cellv (i := 2) (v := .slice L.p.ba L.p.body.length L.p.bcap) rfl
  have hok2 := HL.out.pok W2 m2.core.im
  have Hok2 := Lib.hid hok2
  obtain ⟨ad, had, hc⟩ := nd_at hok2.brd Hroot.out
  have Hc := Lib.hid hc
  have Hb1 := Lib.hid m2.core.size
  have c2' := c2
  rw [had] at c2'
  clear m2 hok2 o12 o1 o2 r1 r2 c6 ew2 hput hsz c2 hc had
  go_wp2_with (first
    | (refine wpList_load_at rfl 44 _ rfl (ad.add (q * 2)) rfl (Nd.cells ⟨tag, nn⟩) _ Hc.out Try.underlying44 rfl (by kernel_rfl) ?_)
    | (refine at_alloc _ rfl ?_))
  refine Stop.to ?_
  refine wpList_alloc_gen rfl 44 rfl _ _ zero_node rfl ?_
  intro X W3 hX rX b3
  go_wp2_with (refine at_store _ _ _ rfl ?_)
  refine Stop.to ?_
  refine wpList_store_gen rfl 44 _ _ rfl X (Nd.cells ⟨tag, nn⟩).toArray rfl rfl 44 _ rX (by kernel_rfl) rfl (by simp [Nd.cells, Value.oneCell']) ?_
  intro W4 r4 o4
  have b34 : Below W2.heap.size W2 W4 := (b3.mono hX).trans (o4.below hX)
  have m4 := Hm2.out.below HL.out b34
  have hc4 : RChg L ev0 W0 ev0 W4 := HC2.out.trans (.below b34)
  have HX4 : Hid (FRow L ev0 W4 X 44 (Nd.cells ⟨tag, nn⟩).toArray) := ⟨Hm2.out.far_new hX r4.lt, r4⟩
  have c2 := m4.row.cellv (i := 2) (v := .slice L.p.ba L.p.body.length L.p.bcap) rfl
  have Hm4 := Lib.hid m4
  have HC4 := Lib.hid hc4
  have Hbr := Lib.hid (HL.out.pok W4 m4.core.im).brd
  clear b3 b34 o4 rX c2' hX Hc r4 m4 hc4 HC2 Hm2 Hok2 Hb1
  go_wp2_with fail
  refine (refKids_any L.p.ba L.p.bcap L.p.body (q : Int) W4 Hbr.out HL.out.blen).mono ?_
  rintro e W ⟨kv, rfl, hown, b5⟩
  have hm := Hm4.out.below HL.out b5
  have hkz : kidsZ L.p.body (q : Int) = natsI (spots (q + 1) [a, b]) := Hat.out.kidsZ
  rw [hkz, pos_len] at hown
  replace hown : W.ownsRow W4.heap.size 3 1 kv 2 (ints (natsI (spots (q + 1) [a, b]))) := hown
  obtain ⟨KA, kcap, rfl, hkr, hkc, hkn⟩ := frd_own Hm4.out hown
  have HK := Lib.hid hkr
  have Hm := Lib.hid hm
  have HX := Lib.hid (HX4.out.go HL.out (.below b5))
  have HC := Lib.hid (HC4.out.trans (.below b5))
  have x0 := HX.out.2.cellv (i := 0) (v := .int .i64 tag) rfl
  have x1 := HX.out.2.cellv (i := 1) (v := .int .i64 nn) rfl
  clear hown b5 hkr hm hkz Hm4 HX4 HC4 Hbr c2 Hm0 hql Hroot
  obtain rfl := Ht.out
  obtain ⟨q1, hq1, hat1⟩ := kid_at Hat.out (i := 0) (k := a) rfl
  have hck : ∃ kd, KA = some kd ∧ W.cell? (kd.add 0) = some (.int .i64 (q1 : Int)) := int_at (l := natsI _) HK.out.1 (by simp [natsI, hq1])
  obtain ⟨kd, rfl, hck⟩ := hck
  have hck' : W.cell? kd = some (.int .i64 (q1 : Int)) := hck
  have Hcall := Lib.hid (h1 q1 ev0 W hat1 Hm.out)
  clear hat1 hq1 h1
  go_wp2_with fail
  refine Hcall.out.mono ?_
  rintro e Wa ⟨rfl, eva, hma, hca⟩
  replace HX := Lib.hid (HX.out.go HL.out hca)
  replace HK := Lib.hid (HK.out.go HL.out hca)
  replace HC := Lib.hid (HC.out.trans hca)
  clear x0 x1 hck hck' Hm Hcall
  have Hm := Lib.hid hma
  have x0 := HX.out.2.cellv (i := 0) (v := .int .i64 19) rfl
  have x1 := HX.out.2.cellv (i := 1) (v := .int .i64 nn) rfl
  have c10 := hma.row.cellv (i := 10) (v := .bool s1.out.isSome) rfl
  rw [ho] at c10
  clear hma hca
  replace c10 : Wa.cell? ⟨L.M, 10, none⟩ = some (.bool false) := c10
  obtain ⟨q1, hq1, hat1⟩ := kid_at Hat.out (i := 1) (k := b) rfl
  have hck : ∃ kd', some kd = some kd' ∧ Wa.cell? (kd'.add 1) = some (.int .i64 (q1 : Int)) := int_at (l := natsI _) HK.out.1 (by simp [natsI, hq1])
  obtain ⟨kd', hkd, hck⟩ := hck
  injection hkd with hkd
  subst hkd
  have hck' : Wa.cell? ⟨kd.block, kd.off + 1, none⟩ = some (.int .i64 (q1 : Int)) := by simpa [Addr.add] using hck
  have Hcall := Lib.hid (h2 q1 eva Wa hat1 Hm.out)
  clear hat1 hq1 h2
  go_wp2_with fail
  refine Hcall.out.mono ?_
  rintro e Wb ⟨rfl, evb, hmb, hcb⟩
  replace HX := Lib.hid (HX.out.go HL.out hcb)
  replace HK := Lib.hid (HK.out.go HL.out hcb)
  replace HC := Lib.hid (HC.out.trans hcb)
  clear x0 x1 hck hck' c10 Hm Hcall
  have Hm := Lib.hid hmb
  have x0 := HX.out.2.cellv (i := 0) (v := .int .i64 19) rfl
  have x1 := HX.out.2.cellv (i := 1) (v := .int .i64 nn) rfl
  have c10 := hmb.row.cellv (i := 10) (v := .bool s2.out.isSome) rfl
  clear hmb hcb
  go_wp2
  go_ret
  exact ⟨rfl, evb, Hm.out, HC.out⟩
set_option maxRecDepth 100000 in
set_option maxHeartbeats 8000000 in
theorem rWhile0 (L : Lay) (hL : ROk L) (x : Nd) (a b : Tr) (s s1 : Ms) (v : Int) (hg : s.go) (ht : x.tag = 24) (h1 : Ent L a s.tick v s1) (ho : s1.out = none) (hv : v ≠ 1) : Ent L (.node x [a, b]) s 0 s1 := by
  obtain ⟨tag, nn⟩ := x
  dsimp only at ht ⊢
  have Ht := Lib.hid ht
  clear ht
  have ev : (v == 1) = false := by simpa using hv
  clear hv
  intro q ev0 W0 hat h
  have HL := Lib.hid hL
  have Hm0 := Lib.hid h
  have Hat := Lib.hid hat
  obtain ⟨f, hf⟩ : ∃ f, s.fuel = f + 1 := ⟨s.fuel - 1, by have := hg.2; omega⟩
  have c10 := h.row.cellv (i := 10) (v := .bool s.out.isSome) rfl
  have c5 := h.row.cellv (i := 5) (v := .int .i64 (s.fuel : Int)) rfl
  rw [hg.1] at c10
  rw [hf] at c5
  replace c10 : W0.cell? ⟨L.M, 10, none⟩ = some (.bool false) := c10
  replace c5 : W0.cell? ⟨L.M, 5, none⟩ = some (.int .i64 ((f : Int) + 1)) := c5
  have hsum := h.core.sum
  have hF := hL.F
  have ef : (((f : Int) + 1) == 0) = false := by simp; omega
  have ew1 : IntKind.i64.wrap ((f : Int) + 1 - 1) = (f : Int) := by rw [IntWalk.i64_in _ (by omega)]; omega
  have ew1' : IntKind.i64.wrap (f : Int) = (f : Int) := IntWalk.i64_in _ (by omega)
  have ew2 : IntKind.i64.wrap ((s.steps : Int) + 1) = (s.steps : Int) + 1 := IntWalk.i64_in _ (by omega)
  have hsum2 : s.tick.steps + s.tick.fuel = L.F := by simp only [Ms.tick]; omega
  have hput : Hid (putL (putL (L.rcells s ev0) 5 [.int .i64 (f : Int)]) 6 [.int .i64 ((s.steps : Int) + 1)] = L.rcells s.tick ev0) := by
    show _ = _
    simp only [Lay.rcells, Ms.tick, hf]; rfl
  have Hf := Lib.hid hf
  have Hs2 := Lib.hid hsum2
  have Hroot : Hid (L.p.body[q]? = some ⟨tag, nn⟩) := hat.root
  have hql : (q : Int) < (L.p.body.length : Int) := by have := hat.lt; omega
  have hsz : (L.rcells s ev0).size = 11 := rfl
  clear h hat hL hsum hF hf hsum2
  go_enter Try.func39, Try.ntmps39
  go_wp2_with (refine at_store _ _ _ rfl ?_)
  refine Stop.to ?_
  refine wpList_store_part rfl 3 _ _ rfl L.M 5 rfl _ rfl [.int .i64 (f : Int)] rfl 68 _ _ Hm0.out.row (by kernel_rfl) (by show 5 + 1 ≤ 11; omega) (by simp [Value.oneCell']) rfl ?_
  intro W1 r1 o1
  have c6 := r1.cellv (i := 6) (v := .int .i64 (s.steps : Int)) rfl
  clear c5 c10 ef ew1 ew1'
  go_wp2_with (refine at_store _ _ _ rfl ?_)
  refine Stop.to ?_
  refine wpList_store_part rfl 3 _ _ rfl L.M 6 rfl _ rfl [.int .i64 ((s.steps : Int) + 1)] rfl 68 _ _ r1 (by kernel_rfl) (by show 6 + 1 ≤ 11; omega) (by simp [Value.oneCell']) hput.out ?_
  intro W2 r2 o2
  have o12 : Only L.M W0 W2 := o1.trans o2
  have m2 : RR L s.tick ev0 W2 := Hm0.out.setM HL.out o12 r2 rfl rfl rfl Hs2.out (by simp [Ms.tick])
  have Hm2 := Lib.hid m2
  have HC2 : Hid (RChg L ev0 W0 ev0 W2) := RChg.only o12 (.inl rfl)
  have c2 := m2.row.cellv (i := 2) (v := .slice L.p.ba L.p.body.length L.p.bcap) rfl
  have hok2 := HL.out.pok W2 m2.core.im
  have Hok2 := Lib.hid hok2
  obtain ⟨ad, had, hc⟩ := nd_at hok2.brd Hroot.out
  have Hc := Lib.hid hc
  have Hb1 := Lib.hid m2.core.size
  have c2' := c2
  rw [had] at c2'
  clear m2 hok2 o12 o1 o2 r1 r2 c6 ew2 hput hsz c2 hc had
  go_wp2_with (first
    | (refine wpList_load_at rfl 44 _ rfl (ad.add (q * 2)) rfl (Nd.cells ⟨tag, nn⟩) _ Hc.out Try.underlying44 rfl (by kernel_rfl) ?_)
    | (refine at_alloc _ rfl ?_))
  refine Stop.to ?_
  refine wpList_alloc_gen rfl 44 rfl _ _ zero_node rfl ?_
  intro X W3 hX rX b3
  go_wp2_with (refine at_store _ _ _ rfl ?_)
  refine Stop.to ?_
  refine wpList_store_gen rfl 44 _ _ rfl X (Nd.cells ⟨tag, nn⟩).toArray rfl rfl 44 _ rX (by kernel_rfl) rfl (by simp [Nd.cells, Value.oneCell']) ?_
  intro W4 r4 o4
  have b34 : Below W2.heap.size W2 W4 := (b3.mono hX).trans (o4.below hX)
  have m4 := Hm2.out.below HL.out b34
  have hc4 : RChg L ev0 W0 ev0 W4 := HC2.out.trans (.below b34)
  have HX4 : Hid (FRow L ev0 W4 X 44 (Nd.cells ⟨tag, nn⟩).toArray) := ⟨Hm2.out.far_new hX r4.lt, r4⟩
  have c2 := m4.row.cellv (i := 2) (v := .slice L.p.ba L.p.body.length L.p.bcap) rfl
  have Hm4 := Lib.hid m4
  have HC4 := Lib.hid hc4
  have Hbr := Lib.hid (HL.out.pok W4 m4.core.im).brd
  clear b3 b34 o4 rX c2' hX Hc r4 m4 hc4 HC2 Hm2 Hok2 Hb1
  go_wp2_with fail
  refine (refKids_any L.p.ba L.p.bcap L.p.body (q : Int) W4 Hbr.out HL.out.blen).mono ?_
  rintro e W ⟨kv, rfl, hown, b5⟩
  have hm := Hm4.out.below HL.out b5
  have hkz : kidsZ L.p.body (q : Int) = natsI (spots (q + 1) [a, b]) := Hat.out.kidsZ
  rw [hkz, pos_len] at hown
  replace hown : W.ownsRow W4.heap.size 3 1 kv 2 (ints (natsI (spots (q + 1) [a, b]))) := hown
  obtain ⟨KA, kcap, rfl, hkr, hkc, hkn⟩ := frd_own Hm4.out hown
  have HK := Lib.hid hkr
  have Hm := Lib.hid hm
  have HX := Lib.hid (HX4.out.go HL.out (.below b5))
  have HC := Lib.hid (HC4.out.trans (.below b5))
  have x0 := HX.out.2.cellv (i := 0) (v := .int .i64 tag) rfl
  have x1 := HX.out.2.cellv (i := 1) (v := .int .i64 nn) rfl
  clear hown b5 hkr hm hkz Hm4 HX4 HC4 Hbr c2 Hm0 hql Hroot
  obtain rfl := Ht.out
  obtain ⟨q1, hq1, hat1⟩ := kid_at Hat.out (i := 0) (k := a) rfl
  have hck : ∃ kd, KA = some kd ∧ W.cell? (kd.add 0) = some (.int .i64 (q1 : Int)) := int_at (l := natsI _) HK.out.1 (by simp [natsI, hq1])
  obtain ⟨kd, rfl, hck⟩ := hck
  have hck' : W.cell? kd = some (.int .i64 (q1 : Int)) := hck
  have Hcall := Lib.hid (h1 q1 ev0 W hat1 Hm.out)
  clear hat1 hq1 h1
  go_wp2_with fail
  refine Hcall.out.mono ?_
  rintro e Wa ⟨rfl, eva, hma, hca⟩
  replace HX := Lib.hid (HX.out.go HL.out hca)
  replace HK := Lib.hid (HK.out.go HL.out hca)
  replace HC := Lib.hid (HC.out.trans hca)
  clear x0 x1 hck hck' Hm Hcall
  have Hm := Lib.hid hma
  have x0 := HX.out.2.cellv (i := 0) (v := .int .i64 24) rfl
  have x1 := HX.out.2.cellv (i := 1) (v := .int .i64 nn) rfl
  have c10 := hma.row.cellv (i := 10) (v := .bool s1.out.isSome) rfl
  rw [ho] at c10
  clear hma hca
  replace c10 : Wa.cell? ⟨L.M, 10, none⟩ = some (.bool false) := c10
  go_wp2
  go_ret
  exact ⟨rfl, eva, Hm.out, HC.out⟩
set_option maxRecDepth 100000 in
set_option maxHeartbeats 8000000 in
theorem rWhile1 (L : Lay) (hL : ROk L) (x : Nd) (a b : Tr) (s s1 s2 s3 : Ms) (u r : Int) (hg : s.go) (ht : x.tag = 24) (h1 : Ent L a s.tick 1 s1) (ho : s1.out = none) (h2 : Ent L b s1 u s2) (h3 : Ent L (.node x [a, b]) s2 r s3) : Ent L (.node x [a, b]) s 0 s3 := by
  obtain ⟨tag, nn⟩ := x
  dsimp only at ht ⊢
  have Ht := Lib.hid ht
  clear ht
  intro q ev0 W0 hat h
  have HL := Lib.hid hL
  have Hm0 := Lib.hid h
  have Hat := Lib.hid hat
  obtain ⟨f, hf⟩ : ∃ f, s.fuel = f + 1 := ⟨s.fuel - 1, by have := hg.2; omega⟩
  have c10 := h.row.cellv (i := 10) (v := .bool s.out.isSome) rfl
  have c5 := h.row.cellv (i := 5) (v := .int .i64 (s.fuel : Int)) rfl
  rw [hg.1] at c10
  rw [hf] at c5
  replace c10 : W0.cell? ⟨L.M, 10, none⟩ = some (.bool false) := c10
  replace c5 : W0.cell? ⟨L.M, 5, none⟩ = some (.int .i64 ((f : Int) + 1)) := c5
  have hsum := h.core.sum
  have hF := hL.F
  have ef : (((f : Int) + 1) == 0) = false := by simp; omega
  have ew1 : IntKind.i64.wrap ((f : Int) + 1 - 1) = (f : Int) := by rw [IntWalk.i64_in _ (by omega)]; omega
  have ew1' : IntKind.i64.wrap (f : Int) = (f : Int) := IntWalk.i64_in _ (by omega)
  have ew2 : IntKind.i64.wrap ((s.steps : Int) + 1) = (s.steps : Int) + 1 := IntWalk.i64_in _ (by omega)
  have hsum2 : s.tick.steps + s.tick.fuel = L.F := by simp only [Ms.tick]; omega
  have hput : Hid (putL (putL (L.rcells s ev0) 5 [.int .i64 (f : Int)]) 6 [.int .i64 ((s.steps : Int) + 1)] = L.rcells s.tick ev0) := by
    show _ = _
    simp only [Lay.rcells, Ms.tick, hf]; rfl
  have Hf := Lib.hid hf
  have Hs2 := Lib.hid hsum2
  have Hroot : Hid (L.p.body[q]? = some ⟨tag, nn⟩) := hat.root
  have hql : (q : Int) < (L.p.body.length : Int) := by have := hat.lt; omega
  have hsz : (L.rcells s ev0).size = 11 := rfl
  clear h hat hL hsum hF hf hsum2
  go_enter Try.func39, Try.ntmps39
  go_wp2_with (refine at_store _ _ _ rfl ?_)
  refine Stop.to ?_
  refine wpList_store_part rfl 3 _ _ rfl L.M 5 rfl _ rfl [.int .i64 (f : Int)] rfl 68 _ _ Hm0.out.row (by kernel_rfl) (by show 5 + 1 ≤ 11; omega) (by simp [Value.oneCell']) rfl ?_
  intro W1 r1 o1
  have c6 := r1.cellv (i := 6) (v := .int .i64 (s.steps : Int)) rfl
  clear c5 c10 ef ew1 ew1'
  go_wp2_with (refine at_store _ _ _ rfl ?_)
  refine Stop.to ?_
  refine wpList_store_part rfl 3 _ _ rfl L.M 6 rfl _ rfl [.int .i64 ((s.steps : Int) + 1)] rfl 68 _ _ r1 (by kernel_rfl) (by show 6 + 1 ≤ 11; omega) (by simp [Value.oneCell']) hput.out ?_
  intro W2 r2 o2
  have o12 : Only L.M W0 W2 := o1.trans o2
  have m2 : RR L s.tick ev0 W2 := Hm0.out.setM HL.out o12 r2 rfl rfl rfl Hs2.out (by simp [Ms.tick])
  have Hm2 := Lib.hid m2
  have HC2 : Hid (RChg L ev0 W0 ev0 W2) := RChg.only o12 (.inl rfl)
  have c2 := m2.row.cellv (i := 2) (v := .slice L.p.ba L.p.body.length L.p.bcap) rfl
  have hok2 := HL.out.pok W2 m2.core.im
  have Hok2 := Lib.hid hok2
  obtain ⟨ad, had, hc⟩ := nd_at hok2.brd Hroot.out
  have Hc := Lib.hid hc
  have Hb1 := Lib.hid m2.core.size
  have c2' := c2
  rw [had] at c2'
  clear m2 hok2 o12 o1 o2 r1 r2 c6 ew2 hput hsz c2 hc had
  go_wp2_with (first
    | (refine wpList_load_at rfl 44 _ rfl (ad.add (q * 2)) rfl (Nd.cells ⟨tag, nn⟩) _ Hc.out Try.underlying44 rfl (by kernel_rfl) ?_)
    | (refine at_alloc _ rfl ?_))
  refine Stop.to ?_
  refine wpList_alloc_gen rfl 44 rfl _ _ zero_node rfl ?_
  intro X W3 hX rX b3
  go_wp2_with (refine at_store _ _ _ rfl ?_)
  refine Stop.to ?_
  refine wpList_store_gen rfl 44 _ _ rfl X (Nd.cells ⟨tag, nn⟩).toArray rfl rfl 44 _ rX (by kernel_rfl) rfl (by simp [Nd.cells, Value.oneCell']) ?_
  intro W4 r4 o4
  have b34 : Below W2.heap.size W2 W4 := (b3.mono hX).trans (o4.below hX)
  have m4 := Hm2.out.below HL.out b34
  have hc4 : RChg L ev0 W0 ev0 W4 := HC2.out.trans (.below b34)
  have HX4 : Hid (FRow L ev0 W4 X 44 (Nd.cells ⟨tag, nn⟩).toArray) := ⟨Hm2.out.far_new hX r4.lt, r4⟩
  have c2 := m4.row.cellv (i := 2) (v := .slice L.p.ba L.p.body.length L.p.bcap) rfl
  have Hm4 := Lib.hid m4
  have HC4 := Lib.hid hc4
  have Hbr := Lib.hid (HL.out.pok W4 m4.core.im).brd
  clear b3 b34 o4 rX c2' hX Hc r4 m4 hc4 HC2 Hm2 Hok2 Hb1
  go_wp2_with fail
  refine (refKids_any L.p.ba L.p.bcap L.p.body (q : Int) W4 Hbr.out HL.out.blen).mono ?_
  rintro e W ⟨kv, rfl, hown, b5⟩
  have hm := Hm4.out.below HL.out b5
  have hkz : kidsZ L.p.body (q : Int) = natsI (spots (q + 1) [a, b]) := Hat.out.kidsZ
  rw [hkz, pos_len] at hown
  replace hown : W.ownsRow W4.heap.size 3 1 kv 2 (ints (natsI (spots (q + 1) [a, b]))) := hown
  obtain ⟨KA, kcap, rfl, hkr, hkc, hkn⟩ := frd_own Hm4.out hown
  have HK := Lib.hid hkr
  have Hm := Lib.hid hm
  have HX := Lib.hid (HX4.out.go HL.out (.below b5))
  have HC := Lib.hid (HC4.out.trans (.below b5))
  have x0 := HX.out.2.cellv (i := 0) (v := .int .i64 tag) rfl
  have x1 := HX.out.2.cellv (i := 1) (v := .int .i64 nn) rfl
  clear hown b5 hkr hm hkz Hm4 HX4 HC4 Hbr c2 Hm0 hql Hroot
  obtain rfl := Ht.out
  obtain ⟨q1, hq1, hat1⟩ := kid_at Hat.out (i := 0) (k := a) rfl
  have hck : ∃ kd, KA = some kd ∧ W.cell? (kd.add 0) = some (.int .i64 (q1 : Int)) := int_at (l := natsI _) HK.out.1 (by simp [natsI, hq1])
  obtain ⟨kd, rfl, hck⟩ := hck
  have hck' : W.cell? kd = some (.int .i64 (q1 : Int)) := hck
  have Hcall := Lib.hid (h1 q1 ev0 W hat1 Hm.out)
  clear hat1 hq1 h1
  go_wp2_with fail
  refine Hcall.out.mono ?_
  rintro e Wa ⟨rfl, eva, hma, hca⟩
  replace HX := Lib.hid (HX.out.go HL.out hca)
  replace HK := Lib.hid (HK.out.go HL.out hca)
  replace HC := Lib.hid (HC.out.trans hca)
  clear x0 x1 hck hck' Hm Hcall
  have Hm := Lib.hid hma
  have x0 := HX.out.2.cellv (i := 0) (v := .int .i64 24) rfl
  have x1 := HX.out.2.cellv (i := 1) (v := .int .i64 nn) rfl
  have c10 := hma.row.cellv (i := 10) (v := .bool s1.out.isSome) rfl
  rw [ho] at c10
  clear hma hca
  replace c10 : Wa.cell? ⟨L.M, 10, none⟩ = some (.bool false) := c10
  obtain ⟨q1, hq1, hat1⟩ := kid_at Hat.out (i := 1) (k := b) rfl
  have hck : ∃ kd', some kd = some kd' ∧ Wa.cell? (kd'.add 1) = some (.int .i64 (q1 : Int)) := int_at (l := natsI _) HK.out.1 (by simp [natsI, hq1])
  obtain ⟨kd', hkd, hck⟩ := hck
  injection hkd with hkd
  subst hkd
  have hck' : Wa.cell? ⟨kd.block, kd.off + 1, none⟩ = some (.int .i64 (q1 : Int)) := by simpa [Addr.add] using hck
  have Hcall := Lib.hid (h2 q1 eva Wa hat1 Hm.out)
  clear hat1 hq1 h2
  go_wp2_with fail
  refine Hcall.out.mono ?_
  rintro e Wb ⟨rfl, evb, hmb, hcb⟩
  replace HX := Lib.hid (HX.out.go HL.out hcb)
  replace HK := Lib.hid (HK.out.go HL.out hcb)
  replace HC := Lib.hid (HC.out.trans hcb)
  clear x0 x1 hck hck' c10 Hm Hcall
  have Hm := Lib.hid hmb
  have x0 := HX.out.2.cellv (i := 0) (v := .int .i64 24) rfl
  have x1 := HX.out.2.cellv (i := 1) (v := .int .i64 nn) rfl
  have c10 := hmb.row.cellv (i := 10) (v := .bool s2.out.isSome) rfl
  clear hmb hcb
  have Hcall := Lib.hid (h3 q evb Wb Hat.out Hm.out)
  clear h3 c10
  go_wp2_with fail
  refine Hcall.out.mono ?_
  rintro e Wc ⟨rfl, evc, hmc, hcc⟩
  have Hm2 := Lib.hid hmc
  have HC2 := Lib.hid (HC.out.trans hcc)
  clear hmc hcc Hm HC HX HK x0 x1 Hcall
  go_wp2
  go_ret
  exact ⟨rfl, evc, Hm2.out, HC2.out⟩
set_option maxRecDepth 100000 in
set_option maxHeartbeats 8000000 in
theorem rIf (L : Lay) (hL : ROk L) (x : Nd) (a b c t : Tr) (s s1 s2 : Ms) (v u : Int) (hg : s.go) (ht : x.tag = 23) (h1 : Ent L a s.tick v s1) (ho : s1.out = none) (hv01 : v = 0 ∨ v = 1) (hv : [a, b, c][(2 - v).toNat]? = some t) (h2 : Ent L t s1 u s2) : Ent L (.node x [a, b, c]) s u s2 := by
  obtain ⟨tag, nn⟩ := x
  dsimp only at ht ⊢
  have Ht := Lib.hid ht
  clear ht
  rcases hv01 with rfl | rfl
  · obtain rfl : c = t := by simpa using hv
    clear hv
    intro q ev0 W0 hat h
    have HL := Lib.hid hL
    have Hm0 := Lib.hid h
    have Hat := Lib.hid hat
    obtain ⟨f, hf⟩ : ∃ f, s.fuel = f + 1 := ⟨s.fuel - 1, by have := hg.2; omega⟩
    have c10 := h.row.cellv (i := 10) (v := .bool s.out.isSome) rfl
    have c5 := h.row.cellv (i := 5) (v := .int .i64 (s.fuel : Int)) rfl
    rw [hg.1] at c10
    rw [hf] at c5
    replace c10 : W0.cell? ⟨L.M, 10, none⟩ = some (.bool false) := c10
    replace c5 : W0.cell? ⟨L.M, 5, none⟩ = some (.int .i64 ((f : Int) + 1)) := c5
    have hsum := h.core.sum
    have hF := hL.F
    have ef : (((f : Int) + 1) == 0) = false := by simp; omega
    have ew1 : IntKind.i64.wrap ((f : Int) + 1 - 1) = (f : Int) := by rw [IntWalk.i64_in _ (by omega)]; omega
    have ew1' : IntKind.i64.wrap (f : Int) = (f : Int) := IntWalk.i64_in _ (by omega)
    have ew2 : IntKind.i64.wrap ((s.steps : Int) + 1) = (s.steps : Int) + 1 := IntWalk.i64_in _ (by omega)
    have hsum2 : s.tick.steps + s.tick.fuel = L.F := by simp only [Ms.tick]; omega
    have hput : Hid (putL (putL (L.rcells s ev0) 5 [.int .i64 (f : Int)]) 6 [.int .i64 ((s.steps : Int) + 1)] = L.rcells s.tick ev0) := by
      show _ = _
      simp only [Lay.rcells, Ms.tick, hf]; rfl
    have Hf := Lib.hid hf
    have Hs2 := Lib.hid hsum2
    have Hroot : Hid (L.p.body[q]? = some ⟨tag, nn⟩) := hat.root
    have hql : (q : Int) < (L.p.body.length : Int) := by have := hat.lt; omega
    have hsz : (L.rcells s ev0).size = 11 := rfl
    clear h hat hL hsum hF hf hsum2
    go_enter Try.func39, Try.ntmps39
    go_wp2_with (refine at_store _ _ _ rfl ?_)
    refine Stop.to ?_
    refine wpList_store_part rfl 3 _ _ rfl L.M 5 rfl _ rfl [.int .i64 (f : Int)] rfl 68 _ _ Hm0.out.row (by kernel_rfl) (by show 5 + 1 ≤ 11; omega) (by simp [Value.oneCell']) rfl ?_
    intro W1 r1 o1
    have c6 := r1.cellv (i := 6) (v := .int .i64 (s.steps : Int)) rfl
    clear c5 c10 ef ew1 ew1'
    go_wp2_with (refine at_store _ _ _ rfl ?_)
    refine Stop.to ?_
    refine wpList_store_part rfl 3 _ _ rfl L.M 6 rfl _ rfl [.int .i64 ((s.steps : Int) + 1)] rfl 68 _ _ r1 (by kernel_rfl) (by show 6 + 1 ≤ 11; omega) (by simp [Value.oneCell']) hput.out ?_
    intro W2 r2 o2
    have o12 : Only L.M W0 W2 := o1.trans o2
    have m2 : RR L s.tick ev0 W2 := Hm0.out.setM HL.out o12 r2 rfl rfl rfl Hs2.out (by simp [Ms.tick])
    have Hm2 := Lib.hid m2
    have HC2 : Hid (RChg L ev0 W0 ev0 W2) := RChg.only o12 (.inl rfl)
    have c2 := m2.row.cellv (i := 2) (v := .slice L.p.ba L.p.body.length L.p.bcap) rfl
    have hok2 := HL.out.pok W2 m2.core.im
    have Hok2 := Lib.hid hok2
    obtain ⟨ad, had, hc⟩ := nd_at hok2.brd Hroot.out
    have Hc := Lib.hid hc
    have Hb1 := Lib.hid m2.core.size
    have c2' := c2
    rw [had] at c2'
    clear m2 hok2 o12 o1 o2 r1 r2 c6 ew2 hput hsz c2 hc had
    go_wp2_with (first
      | (refine wpList_load_at rfl 44 _ rfl (ad.add (q * 2)) rfl (Nd.cells ⟨tag, nn⟩) _ Hc.out Try.underlying44 rfl (by kernel_rfl) ?_)
      | (refine at_alloc _ rfl ?_))
    refine Stop.to ?_
    refine wpList_alloc_gen rfl 44 rfl _ _ zero_node rfl ?_
    intro X W3 hX rX b3
    go_wp2_with (refine at_store _ _ _ rfl ?_)
    refine Stop.to ?_
    refine wpList_store_gen rfl 44 _ _ rfl X (Nd.cells ⟨tag, nn⟩).toArray rfl rfl 44 _ rX (by kernel_rfl) rfl (by simp [Nd.cells, Value.oneCell']) ?_
    intro W4 r4 o4
    have b34 : Below W2.heap.size W2 W4 := (b3.mono hX).trans (o4.below hX)
    have m4 := Hm2.out.below HL.out b34
    have hc4 : RChg L ev0 W0 ev0 W4 := HC2.out.trans (.below b34)
    have HX4 : Hid (FRow L ev0 W4 X 44 (Nd.cells ⟨tag, nn⟩).toArray) := ⟨Hm2.out.far_new hX r4.lt, r4⟩
    have c2 := m4.row.cellv (i := 2) (v := .slice L.p.ba L.p.body.length L.p.bcap) rfl
    have Hm4 := Lib.hid m4
    have HC4 := Lib.hid hc4
    have Hbr := Lib.hid (HL.out.pok W4 m4.core.im).brd
    clear b3 b34 o4 rX c2' hX Hc r4 m4 hc4 HC2 Hm2 Hok2 Hb1
    go_wp2_with fail
    refine (refKids_any L.p.ba L.p.bcap L.p.body (q : Int) W4 Hbr.out HL.out.blen).mono ?_
    rintro e W ⟨kv, rfl, hown, b5⟩
    have hm := Hm4.out.below HL.out b5
    have hkz : kidsZ L.p.body (q : Int) = natsI (spots (q + 1) [a, b, c]) := Hat.out.kidsZ
    rw [hkz, pos_len] at hown
    replace hown : W.ownsRow W4.heap.size 3 1 kv 3 (ints (natsI (spots (q + 1) [a, b, c]))) := hown
    obtain ⟨KA, kcap, rfl, hkr, hkc, hkn⟩ := frd_own Hm4.out hown
    have HK := Lib.hid hkr
    have Hm := Lib.hid hm
    have HX := Lib.hid (HX4.out.go HL.out (.below b5))
    have HC := Lib.hid (HC4.out.trans (.below b5))
    have x0 := HX.out.2.cellv (i := 0) (v := .int .i64 tag) rfl
    have x1 := HX.out.2.cellv (i := 1) (v := .int .i64 nn) rfl
    clear hown b5 hkr hm hkz Hm4 HX4 HC4 Hbr c2 Hm0 hql Hroot
    obtain rfl := Ht.out
    obtain ⟨q1, hq1, hat1⟩ := kid_at Hat.out (i := 0) (k := a) rfl
    have hck : ∃ kd, KA = some kd ∧ W.cell? (kd.add 0) = some (.int .i64 (q1 : Int)) := int_at (l := natsI _) HK.out.1 (by simp [natsI, hq1])
    obtain ⟨kd, rfl, hck⟩ := hck
    have hck' : W.cell? kd = some (.int .i64 (q1 : Int)) := hck
    have Hcall := Lib.hid (h1 q1 ev0 W hat1 Hm.out)
    clear hat1 hq1 h1
    go_wp2_with fail
    refine Hcall.out.mono ?_
    rintro e Wa ⟨rfl, eva, hma, hca⟩
    replace HX := Lib.hid (HX.out.go HL.out hca)
    replace HK := Lib.hid (HK.out.go HL.out hca)
    replace HC := Lib.hid (HC.out.trans hca)
    clear x0 x1 hck hck' Hm Hcall
    have Hm := Lib.hid hma
    have x0 := HX.out.2.cellv (i := 0) (v := .int .i64 23) rfl
    have x1 := HX.out.2.cellv (i := 1) (v := .int .i64 nn) rfl
    have c10 := hma.row.cellv (i := 10) (v := .bool s1.out.isSome) rfl
    rw [ho] at c10
    clear hma hca
    replace c10 : Wa.cell? ⟨L.M, 10, none⟩ = some (.bool false) := c10
    obtain ⟨q1, hq1, hat1⟩ := kid_at Hat.out (i := 2) (k := c) rfl
    have hck : ∃ kd', some kd = some kd' ∧ Wa.cell? (kd'.add 2) = some (.int .i64 (q1 : Int)) := int_at (l := natsI _) HK.out.1 (by simp [natsI, hq1])
    obtain ⟨kd', hkd, hck⟩ := hck
    injection hkd with hkd
    subst hkd
    have hck' : Wa.cell? ⟨kd.block, kd.off + 2, none⟩ = some (.int .i64 (q1 : Int)) := by simpa [Addr.add] using hck
    have Hcall := Lib.hid (h2 q1 eva Wa hat1 Hm.out)
    clear hat1 hq1 h2
    go_wp2_with fail
    refine Hcall.out.mono ?_
    rintro e Wb ⟨rfl, evb, hmb, hcb⟩
    replace HX := Lib.hid (HX.out.go HL.out hcb)
    replace HK := Lib.hid (HK.out.go HL.out hcb)
    replace HC := Lib.hid (HC.out.trans hcb)
    clear x0 x1 hck hck' c10 Hm Hcall
    have Hm := Lib.hid hmb
    have x0 := HX.out.2.cellv (i := 0) (v := .int .i64 23) rfl
    have x1 := HX.out.2.cellv (i := 1) (v := .int .i64 nn) rfl
    have c10 := hmb.row.cellv (i := 10) (v := .bool s2.out.isSome) rfl
    clear hmb hcb
    go_wp2
    go_ret
    exact ⟨rfl, evb, Hm.out, HC.out⟩
  · obtain rfl : b = t := by simpa using hv
    clear hv
    intro q ev0 W0 hat h
    have HL := Lib.hid hL
    have Hm0 := Lib.hid h
    have Hat := Lib.hid hat
    obtain ⟨f, hf⟩ : ∃ f, s.fuel = f + 1 := ⟨s.fuel - 1, by have := hg.2; omega⟩
    have c10 := h.row.cellv (i := 10) (v := .bool s.out.isSome) rfl
    have c5 := h.row.cellv (i := 5) (v := .int .i64 (s.fuel : Int)) rfl
    rw [hg.1] at c10
    rw [hf] at c5
    replace c10 : W0.cell? ⟨L.M, 10, none⟩ = some (.bool false) := c10
    replace c5 : W0.cell? ⟨L.M, 5, none⟩ = some (.int .i64 ((f : Int) + 1)) := c5
    have hsum := h.core.sum
    have hF := hL.F
    have ef : (((f : Int) + 1) == 0) = false := by simp; omega
    have ew1 : IntKind.i64.wrap ((f : Int) + 1 - 1) = (f : Int) := by rw [IntWalk.i64_in _ (by omega)]; omega
    have ew1' : IntKind.i64.wrap (f : Int) = (f : Int) := IntWalk.i64_in _ (by omega)
    have ew2 : IntKind.i64.wrap ((s.steps : Int) + 1) = (s.steps : Int) + 1 := IntWalk.i64_in _ (by omega)
    have hsum2 : s.tick.steps + s.tick.fuel = L.F := by simp only [Ms.tick]; omega
    have hput : Hid (putL (putL (L.rcells s ev0) 5 [.int .i64 (f : Int)]) 6 [.int .i64 ((s.steps : Int) + 1)] = L.rcells s.tick ev0) := by
      show _ = _
      simp only [Lay.rcells, Ms.tick, hf]; rfl
    have Hf := Lib.hid hf
    have Hs2 := Lib.hid hsum2
    have Hroot : Hid (L.p.body[q]? = some ⟨tag, nn⟩) := hat.root
    have hql : (q : Int) < (L.p.body.length : Int) := by have := hat.lt; omega
    have hsz : (L.rcells s ev0).size = 11 := rfl
    clear h hat hL hsum hF hf hsum2
    go_enter Try.func39, Try.ntmps39
    go_wp2_with (refine at_store _ _ _ rfl ?_)
    refine Stop.to ?_
    refine wpList_store_part rfl 3 _ _ rfl L.M 5 rfl _ rfl [.int .i64 (f : Int)] rfl 68 _ _ Hm0.out.row (by kernel_rfl) (by show 5 + 1 ≤ 11; omega) (by simp [Value.oneCell']) rfl ?_
    intro W1 r1 o1
    have c6 := r1.cellv (i := 6) (v := .int .i64 (s.steps : Int)) rfl
    clear c5 c10 ef ew1 ew1'
    go_wp2_with (refine at_store _ _ _ rfl ?_)
    refine Stop.to ?_
    refine wpList_store_part rfl 3 _ _ rfl L.M 6 rfl _ rfl [.int .i64 ((s.steps : Int) + 1)] rfl 68 _ _ r1 (by kernel_rfl) (by show 6 + 1 ≤ 11; omega) (by simp [Value.oneCell']) hput.out ?_
    intro W2 r2 o2
    have o12 : Only L.M W0 W2 := o1.trans o2
    have m2 : RR L s.tick ev0 W2 := Hm0.out.setM HL.out o12 r2 rfl rfl rfl Hs2.out (by simp [Ms.tick])
    have Hm2 := Lib.hid m2
    have HC2 : Hid (RChg L ev0 W0 ev0 W2) := RChg.only o12 (.inl rfl)
    have c2 := m2.row.cellv (i := 2) (v := .slice L.p.ba L.p.body.length L.p.bcap) rfl
    have hok2 := HL.out.pok W2 m2.core.im
    have Hok2 := Lib.hid hok2
    obtain ⟨ad, had, hc⟩ := nd_at hok2.brd Hroot.out
    have Hc := Lib.hid hc
    have Hb1 := Lib.hid m2.core.size
    have c2' := c2
    rw [had] at c2'
    clear m2 hok2 o12 o1 o2 r1 r2 c6 ew2 hput hsz c2 hc had
    go_wp2_with (first
      | (refine wpList_load_at rfl 44 _ rfl (ad.add (q * 2)) rfl (Nd.cells ⟨tag, nn⟩) _ Hc.out Try.underlying44 rfl (by kernel_rfl) ?_)
      | (refine at_alloc _ rfl ?_))
    refine Stop.to ?_
    refine wpList_alloc_gen rfl 44 rfl _ _ zero_node rfl ?_
    intro X W3 hX rX b3
    go_wp2_with (refine at_store _ _ _ rfl ?_)
    refine Stop.to ?_
    refine wpList_store_gen rfl 44 _ _ rfl X (Nd.cells ⟨tag, nn⟩).toArray rfl rfl 44 _ rX (by kernel_rfl) rfl (by simp [Nd.cells, Value.oneCell']) ?_
    intro W4 r4 o4
    have b34 : Below W2.heap.size W2 W4 := (b3.mono hX).trans (o4.below hX)
    have m4 := Hm2.out.below HL.out b34
    have hc4 : RChg L ev0 W0 ev0 W4 := HC2.out.trans (.below b34)
    have HX4 : Hid (FRow L ev0 W4 X 44 (Nd.cells ⟨tag, nn⟩).toArray) := ⟨Hm2.out.far_new hX r4.lt, r4⟩
    have c2 := m4.row.cellv (i := 2) (v := .slice L.p.ba L.p.body.length L.p.bcap) rfl
    have Hm4 := Lib.hid m4
    have HC4 := Lib.hid hc4
    have Hbr := Lib.hid (HL.out.pok W4 m4.core.im).brd
    clear b3 b34 o4 rX c2' hX Hc r4 m4 hc4 HC2 Hm2 Hok2 Hb1
    go_wp2_with fail
    refine (refKids_any L.p.ba L.p.bcap L.p.body (q : Int) W4 Hbr.out HL.out.blen).mono ?_
    rintro e W ⟨kv, rfl, hown, b5⟩
    have hm := Hm4.out.below HL.out b5
    have hkz : kidsZ L.p.body (q : Int) = natsI (spots (q + 1) [a, b, c]) := Hat.out.kidsZ
    rw [hkz, pos_len] at hown
    replace hown : W.ownsRow W4.heap.size 3 1 kv 3 (ints (natsI (spots (q + 1) [a, b, c]))) := hown
    obtain ⟨KA, kcap, rfl, hkr, hkc, hkn⟩ := frd_own Hm4.out hown
    have HK := Lib.hid hkr
    have Hm := Lib.hid hm
    have HX := Lib.hid (HX4.out.go HL.out (.below b5))
    have HC := Lib.hid (HC4.out.trans (.below b5))
    have x0 := HX.out.2.cellv (i := 0) (v := .int .i64 tag) rfl
    have x1 := HX.out.2.cellv (i := 1) (v := .int .i64 nn) rfl
    clear hown b5 hkr hm hkz Hm4 HX4 HC4 Hbr c2 Hm0 hql Hroot
    obtain rfl := Ht.out
    obtain ⟨q1, hq1, hat1⟩ := kid_at Hat.out (i := 0) (k := a) rfl
    have hck : ∃ kd, KA = some kd ∧ W.cell? (kd.add 0) = some (.int .i64 (q1 : Int)) := int_at (l := natsI _) HK.out.1 (by simp [natsI, hq1])
    obtain ⟨kd, rfl, hck⟩ := hck
    have hck' : W.cell? kd = some (.int .i64 (q1 : Int)) := hck
    have Hcall := Lib.hid (h1 q1 ev0 W hat1 Hm.out)
    clear hat1 hq1 h1
    go_wp2_with fail
    refine Hcall.out.mono ?_
    rintro e Wa ⟨rfl, eva, hma, hca⟩
    replace HX := Lib.hid (HX.out.go HL.out hca)
    replace HK := Lib.hid (HK.out.go HL.out hca)
    replace HC := Lib.hid (HC.out.trans hca)
    clear x0 x1 hck hck' Hm Hcall
    have Hm := Lib.hid hma
    have x0 := HX.out.2.cellv (i := 0) (v := .int .i64 23) rfl
    have x1 := HX.out.2.cellv (i := 1) (v := .int .i64 nn) rfl
    have c10 := hma.row.cellv (i := 10) (v := .bool s1.out.isSome) rfl
    rw [ho] at c10
    clear hma hca
    replace c10 : Wa.cell? ⟨L.M, 10, none⟩ = some (.bool false) := c10
    obtain ⟨q1, hq1, hat1⟩ := kid_at Hat.out (i := 1) (k := b) rfl
    have hck : ∃ kd', some kd = some kd' ∧ Wa.cell? (kd'.add 1) = some (.int .i64 (q1 : Int)) := int_at (l := natsI _) HK.out.1 (by simp [natsI, hq1])
    obtain ⟨kd', hkd, hck⟩ := hck
    injection hkd with hkd
    subst hkd
    have hck' : Wa.cell? ⟨kd.block, kd.off + 1, none⟩ = some (.int .i64 (q1 : Int)) := by simpa [Addr.add] using hck
    have Hcall := Lib.hid (h2 q1 eva Wa hat1 Hm.out)
    clear hat1 hq1 h2
    go_wp2_with fail
    refine Hcall.out.mono ?_
    rintro e Wb ⟨rfl, evb, hmb, hcb⟩
    replace HX := Lib.hid (HX.out.go HL.out hcb)
    replace HK := Lib.hid (HK.out.go HL.out hcb)
    replace HC := Lib.hid (HC.out.trans hcb)
    clear x0 x1 hck hck' c10 Hm Hcall
    have Hm := Lib.hid hmb
    have x0 := HX.out.2.cellv (i := 0) (v := .int .i64 23) rfl
    have x1 := HX.out.2.cellv (i := 1) (v := .int .i64 nn) rfl
    have c10 := hmb.row.cellv (i := 10) (v := .bool s2.out.isSome) rfl
    clear hmb hcb
    go_wp2
    go_ret
    exact ⟨rfl, evb, Hm.out, HC.out⟩
set_option maxRecDepth 100000 in
set_option maxHeartbeats 8000000 in
theorem rCut2 (L : Lay) (hL : ROk L) (x : Nd) (a b : Tr) (s s1 s2 : Ms) (v u : Int) (hg : s.go) (ht : wide x.tag) (h1 : Ent L a s.tick v s1) (ho : s1.out = none) (h2 : Ent L b s1 u s2) (ho2 : s2.out.isSome = true) : Ent L (.node x [a, b]) s 0 s2 := by
  obtain ⟨tag, nn⟩ := x
  dsimp only at ht ⊢
  have Ht := Lib.hid ht
  clear ht
  intro q ev0 W0 hat h
  have HL := Lib.hid hL
  have Hm0 := Lib.hid h
  have Hat := Lib.hid hat
  obtain ⟨f, hf⟩ : ∃ f, s.fuel = f + 1 := ⟨s.fuel - 1, by have := hg.2; omega⟩
  have c10 := h.row.cellv (i := 10) (v := .bool s.out.isSome) rfl
  have c5 := h.row.cellv (i := 5) (v := .int .i64 (s.fuel : Int)) rfl
  rw [hg.1] at c10
  rw [hf] at c5
  replace c10 : W0.cell? ⟨L.M, 10, none⟩ = some (.bool false) := c10
  replace c5 : W0.cell? ⟨L.M, 5, none⟩ = some (.int .i64 ((f : Int) + 1)) := c5
  have hsum := h.core.sum
  have hF := hL.F
  have ef : (((f : Int) + 1) == 0) = false := by simp; omega
  have ew1 : IntKind.i64.wrap ((f : Int) + 1 - 1) = (f : Int) := by rw [IntWalk.i64_in _ (by omega)]; omega
  have ew1' : IntKind.i64.wrap (f : Int) = (f : Int) := IntWalk.i64_in _ (by omega)
  have ew2 : IntKind.i64.wrap ((s.steps : Int) + 1) = (s.steps : Int) + 1 := IntWalk.i64_in _ (by omega)
  have hsum2 : s.tick.steps + s.tick.fuel = L.F := by simp only [Ms.tick]; omega
  have hput : Hid (putL (putL (L.rcells s ev0) 5 [.int .i64 (f : Int)]) 6 [.int .i64 ((s.steps : Int) + 1)] = L.rcells s.tick ev0) := by
    show _ = _
    simp only [Lay.rcells, Ms.tick, hf]; rfl
  have Hf := Lib.hid hf
  have Hs2 := Lib.hid hsum2
  have Hroot : Hid (L.p.body[q]? = some ⟨tag, nn⟩) := hat.root
  have hql : (q : Int) < (L.p.body.length : Int) := by have := hat.lt; omega
  have hsz : (L.rcells s ev0).size = 11 := rfl
  clear h hat hL hsum hF hf hsum2
  go_enter Try.func39, Try.ntmps39
  go_wp2_with (refine at_store _ _ _ rfl ?_)
  refine Stop.to ?_
  refine wpList_store_part rfl 3 _ _ rfl L.M 5 rfl _ rfl [.int .i64 (f : Int)] rfl 68 _ _ Hm0.out.row (by kernel_rfl) (by show 5 + 1 ≤ 11; omega) (by simp [Value.oneCell']) rfl ?_
  intro W1 r1 o1
  have c6 := r1.cellv (i := 6) (v := .int .i64 (s.steps : Int)) rfl
  clear c5 c10 ef ew1 ew1'
  go_wp2_with (refine at_store _ _ _ rfl ?_)
  refine Stop.to ?_
  refine wpList_store_part rfl 3 _ _ rfl L.M 6 rfl _ rfl [.int .i64 ((s.steps : Int) + 1)] rfl 68 _ _ r1 (by kernel_rfl) (by show 6 + 1 ≤ 11; omega) (by simp [Value.oneCell']) hput.out ?_
  intro W2 r2 o2
  have o12 : Only L.M W0 W2 := o1.trans o2
  have m2 : RR L s.tick ev0 W2 := Hm0.out.setM HL.out o12 r2 rfl rfl rfl Hs2.out (by simp [Ms.tick])
  have Hm2 := Lib.hid m2
  have HC2 : Hid (RChg L ev0 W0 ev0 W2) := RChg.only o12 (.inl rfl)
  have c2 := m2.row.cellv (i := 2) (v := .slice L.p.ba L.p.body.length L.p.bcap) rfl
  have hok2 := HL.out.pok W2 m2.core.im
  have Hok2 := Lib.hid hok2
  obtain ⟨ad, had, hc⟩ := nd_at hok2.brd Hroot.out
  have Hc := Lib.hid hc
  have Hb1 := Lib.hid m2.core.size
  have c2' := c2
  rw [had] at c2'
  clear m2 hok2 o12 o1 o2 r1 r2 c6 ew2 hput hsz c2 hc had
  go_wp2_with (first
    | (refine wpList_load_at rfl 44 _ rfl (ad.add (q * 2)) rfl (Nd.cells ⟨tag, nn⟩) _ Hc.out Try.underlying44 rfl (by kernel_rfl) ?_)
    | (refine at_alloc _ rfl ?_))
  refine Stop.to ?_
  refine wpList_alloc_gen rfl 44 rfl _ _ zero_node rfl ?_
  intro X W3 hX rX b3
  go_wp2_with (refine at_store _ _ _ rfl ?_)
  refine Stop.to ?_
  refine wpList_store_gen rfl 44 _ _ rfl X (Nd.cells ⟨tag, nn⟩).toArray rfl rfl 44 _ rX (by kernel_rfl) rfl (by simp [Nd.cells, Value.oneCell']) ?_
  intro W4 r4 o4
  have b34 : Below W2.heap.size W2 W4 := (b3.mono hX).trans (o4.below hX)
  have m4 := Hm2.out.below HL.out b34
  have hc4 : RChg L ev0 W0 ev0 W4 := HC2.out.trans (.below b34)
  have HX4 : Hid (FRow L ev0 W4 X 44 (Nd.cells ⟨tag, nn⟩).toArray) := ⟨Hm2.out.far_new hX r4.lt, r4⟩
  have c2 := m4.row.cellv (i := 2) (v := .slice L.p.ba L.p.body.length L.p.bcap) rfl
  have Hm4 := Lib.hid m4
  have HC4 := Lib.hid hc4
  have Hbr := Lib.hid (HL.out.pok W4 m4.core.im).brd
  clear b3 b34 o4 rX c2' hX Hc r4 m4 hc4 HC2 Hm2 Hok2 Hb1
  go_wp2_with fail
  refine (refKids_any L.p.ba L.p.bcap L.p.body (q : Int) W4 Hbr.out HL.out.blen).mono ?_
  rintro e W ⟨kv, rfl, hown, b5⟩
  have hm := Hm4.out.below HL.out b5
  have hkz : kidsZ L.p.body (q : Int) = natsI (spots (q + 1) [a, b]) := Hat.out.kidsZ
  rw [hkz, pos_len] at hown
  replace hown : W.ownsRow W4.heap.size 3 1 kv 2 (ints (natsI (spots (q + 1) [a, b]))) := hown
  obtain ⟨KA, kcap, rfl, hkr, hkc, hkn⟩ := frd_own Hm4.out hown
  have HK := Lib.hid hkr
  have Hm := Lib.hid hm
  have HX := Lib.hid (HX4.out.go HL.out (.below b5))
  have HC := Lib.hid (HC4.out.trans (.below b5))
  have x0 := HX.out.2.cellv (i := 0) (v := .int .i64 tag) rfl
  have x1 := HX.out.2.cellv (i := 1) (v := .int .i64 nn) rfl
  clear hown b5 hkr hm hkz Hm4 HX4 HC4 Hbr c2 Hm0 hql Hroot
  have e1 : (tag == 1) = false := by have := Ht.out; simp; first | omega | (unfold wide deep at this; omega)
  have e2 : (tag == 2) = false := by have := Ht.out; simp; first | omega | (unfold wide deep at this; omega)
  have e3 : (tag == 3) = false := by have := Ht.out; simp; first | omega | (unfold wide deep at this; omega)
  have e20 : (tag == 20) = false := by have := Ht.out; simp; first | omega | (unfold wide deep at this; omega)
  have e26 : (tag == 26) = false := by have := Ht.out; simp; first | omega | (unfold wide deep at this; omega)
  have e4 : (tag == 4) = false := by have := Ht.out; simp; first | omega | (unfold wide deep at this; omega)
  have e5 : (tag == 5) = false := by have := Ht.out; simp; first | omega | (unfold wide deep at this; omega)
  have e6 : (tag == 6) = false := by have := Ht.out; simp; first | omega | (unfold wide deep at this; omega)
  have e18 : (tag == 18) = false := by have := Ht.out; simp; first | omega | (unfold wide deep at this; omega)
  have e19 : (tag == 19) = false := by have := Ht.out; simp; first | omega | (unfold wide deep at this; omega)
  have e21 : (tag == 21) = false := by have := Ht.out; simp; first | omega | (unfold wide deep at this; omega)
  have e23 : (tag == 23) = false := by have := Ht.out; simp; first | omega | (unfold wide deep at this; omega)
  have e24 : (tag == 24) = false := by have := Ht.out; simp; first | omega | (unfold wide deep at this; omega)
  have e25 : (tag == 25) = false := by have := Ht.out; simp; first | omega | (unfold wide deep at this; omega)
  obtain ⟨q1, hq1, hat1⟩ := kid_at Hat.out (i := 0) (k := a) rfl
  have hck : ∃ kd, KA = some kd ∧ W.cell? (kd.add 0) = some (.int .i64 (q1 : Int)) := int_at (l := natsI _) HK.out.1 (by simp [natsI, hq1])
  obtain ⟨kd, rfl, hck⟩ := hck
  have hck' : W.cell? kd = some (.int .i64 (q1 : Int)) := hck
  have Hcall := Lib.hid (h1 q1 ev0 W hat1 Hm.out)
  clear hat1 hq1 h1
  go_wp2_with fail
  refine Hcall.out.mono ?_
  rintro e Wa ⟨rfl, eva, hma, hca⟩
  replace HX := Lib.hid (HX.out.go HL.out hca)
  replace HK := Lib.hid (HK.out.go HL.out hca)
  replace HC := Lib.hid (HC.out.trans hca)
  clear x0 x1 hck hck' Hm Hcall
  have Hm := Lib.hid hma
  have x0 := HX.out.2.cellv (i := 0) (v := .int .i64 tag) rfl
  have x1 := HX.out.2.cellv (i := 1) (v := .int .i64 nn) rfl
  have c10 := hma.row.cellv (i := 10) (v := .bool s1.out.isSome) rfl
  rw [ho] at c10
  clear hma hca
  replace c10 : Wa.cell? ⟨L.M, 10, none⟩ = some (.bool false) := c10
  obtain ⟨q1, hq1, hat1⟩ := kid_at Hat.out (i := 1) (k := b) rfl
  have hck : ∃ kd', some kd = some kd' ∧ Wa.cell? (kd'.add 1) = some (.int .i64 (q1 : Int)) := int_at (l := natsI _) HK.out.1 (by simp [natsI, hq1])
  obtain ⟨kd', hkd, hck⟩ := hck
  injection hkd with hkd
  subst hkd
  have hck' : Wa.cell? ⟨kd.block, kd.off + 1, none⟩ = some (.int .i64 (q1 : Int)) := by simpa [Addr.add] using hck
  have Hcall := Lib.hid (h2 q1 eva Wa hat1 Hm.out)
  clear hat1 hq1 h2
  go_wp2_with fail
  refine Hcall.out.mono ?_
  rintro e Wb ⟨rfl, evb, hmb, hcb⟩
  replace HX := Lib.hid (HX.out.go HL.out hcb)
  replace HK := Lib.hid (HK.out.go HL.out hcb)
  replace HC := Lib.hid (HC.out.trans hcb)
  clear x0 x1 hck hck' c10 Hm Hcall
  have Hm := Lib.hid hmb
  have x0 := HX.out.2.cellv (i := 0) (v := .int .i64 tag) rfl
  have x1 := HX.out.2.cellv (i := 1) (v := .int .i64 nn) rfl
  have c10 := hmb.row.cellv (i := 10) (v := .bool s2.out.isSome) rfl
  clear hmb hcb
  rw [ho2] at c10
  go_wp2
  go_ret
  exact ⟨rfl, evb, Hm.out, HC.out⟩
set_option maxRecDepth 100000 in
set_option maxHeartbeats 8000000 in
theorem rPairNo (L : Lay) (hL : ROk L) (x : Nd) (a b : Tr) (s s1 s2 : Ms) (v u : Int) (hg : s.go) (ht : 7 ≤ x.tag ∧ x.tag ≤ 17) (h1 : Ent L a s.tick v s1) (ho : s1.out = none) (h2 : Ent L b s1 u s2) (ho2 : s2.out = none) (hp : pairT x.tag v u = none) : Ent L (.node x [a, b]) s 0 (s2.stop 1 0) := by
  have Hz : Hid (s2.stopped 1 0 = s2.stop 1 0) := by show _ = _; unfold Ms.stopped; rw [ho2]; rfl
  obtain ⟨tag, nn⟩ := x
  dsimp only at ht ⊢
  have Ht := Lib.hid ht
  clear ht
  have Hp := Lib.hid hp
  dsimp only at Hp
  clear hp
  intro q ev0 W0 hat h
  have HL := Lib.hid hL
  have Hm0 := Lib.hid h
  have Hat := Lib.hid hat
  obtain ⟨f, hf⟩ : ∃ f, s.fuel = f + 1 := ⟨s.fuel - 1, by have := hg.2; omega⟩
  have c10 := h.row.cellv (i := 10) (v := .bool s.out.isSome) rfl
  have c5 := h.row.cellv (i := 5) (v := .int .i64 (s.fuel : Int)) rfl
  rw [hg.1] at c10
  rw [hf] at c5
  replace c10 : W0.cell? ⟨L.M, 10, none⟩ = some (.bool false) := c10
  replace c5 : W0.cell? ⟨L.M, 5, none⟩ = some (.int .i64 ((f : Int) + 1)) := c5
  have hsum := h.core.sum
  have hF := hL.F
  have ef : (((f : Int) + 1) == 0) = false := by simp; omega
  have ew1 : IntKind.i64.wrap ((f : Int) + 1 - 1) = (f : Int) := by rw [IntWalk.i64_in _ (by omega)]; omega
  have ew1' : IntKind.i64.wrap (f : Int) = (f : Int) := IntWalk.i64_in _ (by omega)
  have ew2 : IntKind.i64.wrap ((s.steps : Int) + 1) = (s.steps : Int) + 1 := IntWalk.i64_in _ (by omega)
  have hsum2 : s.tick.steps + s.tick.fuel = L.F := by simp only [Ms.tick]; omega
  have hput : Hid (putL (putL (L.rcells s ev0) 5 [.int .i64 (f : Int)]) 6 [.int .i64 ((s.steps : Int) + 1)] = L.rcells s.tick ev0) := by
    show _ = _
    simp only [Lay.rcells, Ms.tick, hf]; rfl
  have Hf := Lib.hid hf
  have Hs2 := Lib.hid hsum2
  have Hroot : Hid (L.p.body[q]? = some ⟨tag, nn⟩) := hat.root
  have hql : (q : Int) < (L.p.body.length : Int) := by have := hat.lt; omega
  have hsz : (L.rcells s ev0).size = 11 := rfl
  clear h hat hL hsum hF hf hsum2
  go_enter Try.func39, Try.ntmps39
  go_wp2_with (refine at_store _ _ _ rfl ?_)
  refine Stop.to ?_
  refine wpList_store_part rfl 3 _ _ rfl L.M 5 rfl _ rfl [.int .i64 (f : Int)] rfl 68 _ _ Hm0.out.row (by kernel_rfl) (by show 5 + 1 ≤ 11; omega) (by simp [Value.oneCell']) rfl ?_
  intro W1 r1 o1
  have c6 := r1.cellv (i := 6) (v := .int .i64 (s.steps : Int)) rfl
  clear c5 c10 ef ew1 ew1'
  go_wp2_with (refine at_store _ _ _ rfl ?_)
  refine Stop.to ?_
  refine wpList_store_part rfl 3 _ _ rfl L.M 6 rfl _ rfl [.int .i64 ((s.steps : Int) + 1)] rfl 68 _ _ r1 (by kernel_rfl) (by show 6 + 1 ≤ 11; omega) (by simp [Value.oneCell']) hput.out ?_
  intro W2 r2 o2
  have o12 : Only L.M W0 W2 := o1.trans o2
  have m2 : RR L s.tick ev0 W2 := Hm0.out.setM HL.out o12 r2 rfl rfl rfl Hs2.out (by simp [Ms.tick])
  have Hm2 := Lib.hid m2
  have HC2 : Hid (RChg L ev0 W0 ev0 W2) := RChg.only o12 (.inl rfl)
  have c2 := m2.row.cellv (i := 2) (v := .slice L.p.ba L.p.body.length L.p.bcap) rfl
  have hok2 := HL.out.pok W2 m2.core.im
  have Hok2 := Lib.hid hok2
  obtain ⟨ad, had, hc⟩ := nd_at hok2.brd Hroot.out
  have Hc := Lib.hid hc
  have Hb1 := Lib.hid m2.core.size
  have c2' := c2
  rw [had] at c2'
  clear m2 hok2 o12 o1 o2 r1 r2 c6 ew2 hput hsz c2 hc had
  go_wp2_with (first
    | (refine wpList_load_at rfl 44 _ rfl (ad.add (q * 2)) rfl (Nd.cells ⟨tag, nn⟩) _ Hc.out Try.underlying44 rfl (by kernel_rfl) ?_)
    | (refine at_alloc _ rfl ?_))
  refine Stop.to ?_
  refine wpList_alloc_gen rfl 44 rfl _ _ zero_node rfl ?_
  intro X W3 hX rX b3
  go_wp2_with (refine at_store _ _ _ rfl ?_)
  refine Stop.to ?_
  refine wpList_store_gen rfl 44 _ _ rfl X (Nd.cells ⟨tag, nn⟩).toArray rfl rfl 44 _ rX (by kernel_rfl) rfl (by simp [Nd.cells, Value.oneCell']) ?_
  intro W4 r4 o4
  have b34 : Below W2.heap.size W2 W4 := (b3.mono hX).trans (o4.below hX)
  have m4 := Hm2.out.below HL.out b34
  have hc4 : RChg L ev0 W0 ev0 W4 := HC2.out.trans (.below b34)
  have HX4 : Hid (FRow L ev0 W4 X 44 (Nd.cells ⟨tag, nn⟩).toArray) := ⟨Hm2.out.far_new hX r4.lt, r4⟩
  have c2 := m4.row.cellv (i := 2) (v := .slice L.p.ba L.p.body.length L.p.bcap) rfl
  have Hm4 := Lib.hid m4
  have HC4 := Lib.hid hc4
  have Hbr := Lib.hid (HL.out.pok W4 m4.core.im).brd
  clear b3 b34 o4 rX c2' hX Hc r4 m4 hc4 HC2 Hm2 Hok2 Hb1
  go_wp2_with fail
  refine (refKids_any L.p.ba L.p.bcap L.p.body (q : Int) W4 Hbr.out HL.out.blen).mono ?_
  rintro e W ⟨kv, rfl, hown, b5⟩
  have hm := Hm4.out.below HL.out b5
  have hkz : kidsZ L.p.body (q : Int) = natsI (spots (q + 1) [a, b]) := Hat.out.kidsZ
  rw [hkz, pos_len] at hown
  replace hown : W.ownsRow W4.heap.size 3 1 kv 2 (ints (natsI (spots (q + 1) [a, b]))) := hown
  obtain ⟨KA, kcap, rfl, hkr, hkc, hkn⟩ := frd_own Hm4.out hown
  have HK := Lib.hid hkr
  have Hm := Lib.hid hm
  have HX := Lib.hid (HX4.out.go HL.out (.below b5))
  have HC := Lib.hid (HC4.out.trans (.below b5))
  have x0 := HX.out.2.cellv (i := 0) (v := .int .i64 tag) rfl
  have x1 := HX.out.2.cellv (i := 1) (v := .int .i64 nn) rfl
  clear hown b5 hkr hm hkz Hm4 HX4 HC4 Hbr c2 Hm0 hql Hroot
  have e1 : (tag == 1) = false := by have := Ht.out; simp; first | omega | (unfold wide deep at this; omega)
  have e2 : (tag == 2) = false := by have := Ht.out; simp; first | omega | (unfold wide deep at this; omega)
  have e3 : (tag == 3) = false := by have := Ht.out; simp; first | omega | (unfold wide deep at this; omega)
  have e20 : (tag == 20) = false := by have := Ht.out; simp; first | omega | (unfold wide deep at this; omega)
  have e26 : (tag == 26) = false := by have := Ht.out; simp; first | omega | (unfold wide deep at this; omega)
  have e4 : (tag == 4) = false := by have := Ht.out; simp; first | omega | (unfold wide deep at this; omega)
  have e5 : (tag == 5) = false := by have := Ht.out; simp; first | omega | (unfold wide deep at this; omega)
  have e6 : (tag == 6) = false := by have := Ht.out; simp; first | omega | (unfold wide deep at this; omega)
  have e18 : (tag == 18) = false := by have := Ht.out; simp; first | omega | (unfold wide deep at this; omega)
  have e19 : (tag == 19) = false := by have := Ht.out; simp; first | omega | (unfold wide deep at this; omega)
  have e21 : (tag == 21) = false := by have := Ht.out; simp; first | omega | (unfold wide deep at this; omega)
  have e23 : (tag == 23) = false := by have := Ht.out; simp; first | omega | (unfold wide deep at this; omega)
  have e24 : (tag == 24) = false := by have := Ht.out; simp; first | omega | (unfold wide deep at this; omega)
  have e25 : (tag == 25) = false := by have := Ht.out; simp; first | omega | (unfold wide deep at this; omega)
  have e22 : (tag == 22) = false := by have := Ht.out; simp; omega
  obtain ⟨q1, hq1, hat1⟩ := kid_at Hat.out (i := 0) (k := a) rfl
  have hck : ∃ kd, KA = some kd ∧ W.cell? (kd.add 0) = some (.int .i64 (q1 : Int)) := int_at (l := natsI _) HK.out.1 (by simp [natsI, hq1])
  obtain ⟨kd, rfl, hck⟩ := hck
  have hck' : W.cell? kd = some (.int .i64 (q1 : Int)) := hck
  have Hcall := Lib.hid (h1 q1 ev0 W hat1 Hm.out)
  clear hat1 hq1 h1
  go_wp2_with fail
  refine Hcall.out.mono ?_
  rintro e Wa ⟨rfl, eva, hma, hca⟩
  replace HX := Lib.hid (HX.out.go HL.out hca)
  replace HK := Lib.hid (HK.out.go HL.out hca)
  replace HC := Lib.hid (HC.out.trans hca)
  clear x0 x1 hck hck' Hm Hcall
  have Hm := Lib.hid hma
  have x0 := HX.out.2.cellv (i := 0) (v := .int .i64 tag) rfl
  have x1 := HX.out.2.cellv (i := 1) (v := .int .i64 nn) rfl
  have c10 := hma.row.cellv (i := 10) (v := .bool s1.out.isSome) rfl
  rw [ho] at c10
  clear hma hca
  replace c10 : Wa.cell? ⟨L.M, 10, none⟩ = some (.bool false) := c10
  obtain ⟨q1, hq1, hat1⟩ := kid_at Hat.out (i := 1) (k := b) rfl
  have hck : ∃ kd', some kd = some kd' ∧ Wa.cell? (kd'.add 1) = some (.int .i64 (q1 : Int)) := int_at (l := natsI _) HK.out.1 (by simp [natsI, hq1])
  obtain ⟨kd', hkd, hck⟩ := hck
  injection hkd with hkd
  subst hkd
  have hck' : Wa.cell? ⟨kd.block, kd.off + 1, none⟩ = some (.int .i64 (q1 : Int)) := by simpa [Addr.add] using hck
  have Hcall := Lib.hid (h2 q1 eva Wa hat1 Hm.out)
  clear hat1 hq1 h2
  go_wp2_with fail
  refine Hcall.out.mono ?_
  rintro e Wb ⟨rfl, evb, hmb, hcb⟩
  replace HX := Lib.hid (HX.out.go HL.out hcb)
  replace HK := Lib.hid (HK.out.go HL.out hcb)
  replace HC := Lib.hid (HC.out.trans hcb)
  clear x0 x1 hck hck' c10 Hm Hcall
  have Hm := Lib.hid hmb
  have x0 := HX.out.2.cellv (i := 0) (v := .int .i64 tag) rfl
  have x1 := HX.out.2.cellv (i := 1) (v := .int .i64 nn) rfl
  have c10 := hmb.row.cellv (i := 10) (v := .bool s2.out.isSome) rfl
  clear hmb hcb
  rw [ho2] at c10
  replace c10 : Wb.cell? ⟨L.M, 10, none⟩ = some (.bool false) := c10
  go_wp2_with fail
  refine (rBinNo_any L HL.out s2 evb tag v u Wb Hm.out Hp.out).mono ?_
  rintro e Wc ⟨rfl, hmc, hcc⟩
  have Hm2 := Lib.hid hmc
  have HC2 := Lib.hid (HC.out.trans hcc)
  clear hmc hcc Hm HC HX HK x0 x1 c10
  go_wp2
  go_ret
  exact ⟨rfl, evb, by rw [← Hz.out]; exact Hm2.out, HC2.out⟩
set_option maxRecDepth 100000 in
set_option maxHeartbeats 8000000 in
theorem rPair (L : Lay) (hL : ROk L) (x : Nd) (a b : Tr) (s s1 s2 : Ms) (v u c : Int) (hg : s.go) (ht : 7 ≤ x.tag ∧ x.tag ≤ 17) (h1 : Ent L a s.tick v s1) (ho : s1.out = none) (h2 : Ent L b s1 u s2) (ho2 : s2.out = none) (hp : pairT x.tag v u = some c) : Ent L (.node x [a, b]) s c s2 := by
  obtain ⟨tag, nn⟩ := x
  dsimp only at ht ⊢
  have Ht := Lib.hid ht
  clear ht
  have Hp := Lib.hid hp
  dsimp only at Hp
  clear hp
  intro q ev0 W0 hat h
  have HL := Lib.hid hL
  have Hm0 := Lib.hid h
  have Hat := Lib.hid hat
  obtain ⟨f, hf⟩ : ∃ f, s.fuel = f + 1 := ⟨s.fuel - 1, by have := hg.2; omega⟩
  have c10 := h.row.cellv (i := 10) (v := .bool s.out.isSome) rfl
  have c5 := h.row.cellv (i := 5) (v := .int .i64 (s.fuel : Int)) rfl
  rw [hg.1] at c10
  rw [hf] at c5
  replace c10 : W0.cell? ⟨L.M, 10, none⟩ = some (.bool false) := c10
  replace c5 : W0.cell? ⟨L.M, 5, none⟩ = some (.int .i64 ((f : Int) + 1)) := c5
  have hsum := h.core.sum
  have hF := hL.F
  have ef : (((f : Int) + 1) == 0) = false := by simp; omega
  have ew1 : IntKind.i64.wrap ((f : Int) + 1 - 1) = (f : Int) := by rw [IntWalk.i64_in _ (by omega)]; omega
  have ew1' : IntKind.i64.wrap (f : Int) = (f : Int) := IntWalk.i64_in _ (by omega)
  have ew2 : IntKind.i64.wrap ((s.steps : Int) + 1) = (s.steps : Int) + 1 := IntWalk.i64_in _ (by omega)
  have hsum2 : s.tick.steps + s.tick.fuel = L.F := by simp only [Ms.tick]; omega
  have hput : Hid (putL (putL (L.rcells s ev0) 5 [.int .i64 (f : Int)]) 6 [.int .i64 ((s.steps : Int) + 1)] = L.rcells s.tick ev0) := by
    show _ = _
    simp only [Lay.rcells, Ms.tick, hf]; rfl
  have Hf := Lib.hid hf
  have Hs2 := Lib.hid hsum2
  have Hroot : Hid (L.p.body[q]? = some ⟨tag, nn⟩) := hat.root
  have hql : (q : Int) < (L.p.body.length : Int) := by have := hat.lt; omega
  have hsz : (L.rcells s ev0).size = 11 := rfl
  clear h hat hL hsum hF hf hsum2
  go_enter Try.func39, Try.ntmps39
  go_wp2_with (refine at_store _ _ _ rfl ?_)
  refine Stop.to ?_
  refine wpList_store_part rfl 3 _ _ rfl L.M 5 rfl _ rfl [.int .i64 (f : Int)] rfl 68 _ _ Hm0.out.row (by kernel_rfl) (by show 5 + 1 ≤ 11; omega) (by simp [Value.oneCell']) rfl ?_
  intro W1 r1 o1
  have c6 := r1.cellv (i := 6) (v := .int .i64 (s.steps : Int)) rfl
  clear c5 c10 ef ew1 ew1'
  go_wp2_with (refine at_store _ _ _ rfl ?_)
  refine Stop.to ?_
  refine wpList_store_part rfl 3 _ _ rfl L.M 6 rfl _ rfl [.int .i64 ((s.steps : Int) + 1)] rfl 68 _ _ r1 (by kernel_rfl) (by show 6 + 1 ≤ 11; omega) (by simp [Value.oneCell']) hput.out ?_
  intro W2 r2 o2
  have o12 : Only L.M W0 W2 := o1.trans o2
  have m2 : RR L s.tick ev0 W2 := Hm0.out.setM HL.out o12 r2 rfl rfl rfl Hs2.out (by simp [Ms.tick])
  have Hm2 := Lib.hid m2
  have HC2 : Hid (RChg L ev0 W0 ev0 W2) := RChg.only o12 (.inl rfl)
  have c2 := m2.row.cellv (i := 2) (v := .slice L.p.ba L.p.body.length L.p.bcap) rfl
  have hok2 := HL.out.pok W2 m2.core.im
  have Hok2 := Lib.hid hok2
  obtain ⟨ad, had, hc⟩ := nd_at hok2.brd Hroot.out
  have Hc := Lib.hid hc
  have Hb1 := Lib.hid m2.core.size
  have c2' := c2
  rw [had] at c2'
  clear m2 hok2 o12 o1 o2 r1 r2 c6 ew2 hput hsz c2 hc had
  go_wp2_with (first
    | (refine wpList_load_at rfl 44 _ rfl (ad.add (q * 2)) rfl (Nd.cells ⟨tag, nn⟩) _ Hc.out Try.underlying44 rfl (by kernel_rfl) ?_)
    | (refine at_alloc _ rfl ?_))
  refine Stop.to ?_
  refine wpList_alloc_gen rfl 44 rfl _ _ zero_node rfl ?_
  intro X W3 hX rX b3
  go_wp2_with (refine at_store _ _ _ rfl ?_)
  refine Stop.to ?_
  refine wpList_store_gen rfl 44 _ _ rfl X (Nd.cells ⟨tag, nn⟩).toArray rfl rfl 44 _ rX (by kernel_rfl) rfl (by simp [Nd.cells, Value.oneCell']) ?_
  intro W4 r4 o4
  have b34 : Below W2.heap.size W2 W4 := (b3.mono hX).trans (o4.below hX)
  have m4 := Hm2.out.below HL.out b34
  have hc4 : RChg L ev0 W0 ev0 W4 := HC2.out.trans (.below b34)
  have HX4 : Hid (FRow L ev0 W4 X 44 (Nd.cells ⟨tag, nn⟩).toArray) := ⟨Hm2.out.far_new hX r4.lt, r4⟩
  have c2 := m4.row.cellv (i := 2) (v := .slice L.p.ba L.p.body.length L.p.bcap) rfl
  have Hm4 := Lib.hid m4
  have HC4 := Lib.hid hc4
  have Hbr := Lib.hid (HL.out.pok W4 m4.core.im).brd
  clear b3 b34 o4 rX c2' hX Hc r4 m4 hc4 HC2 Hm2 Hok2 Hb1
  go_wp2_with fail
  refine (refKids_any L.p.ba L.p.bcap L.p.body (q : Int) W4 Hbr.out HL.out.blen).mono ?_
  rintro e W ⟨kv, rfl, hown, b5⟩
  have hm := Hm4.out.below HL.out b5
  have hkz : kidsZ L.p.body (q : Int) = natsI (spots (q + 1) [a, b]) := Hat.out.kidsZ
  rw [hkz, pos_len] at hown
  replace hown : W.ownsRow W4.heap.size 3 1 kv 2 (ints (natsI (spots (q + 1) [a, b]))) := hown
  obtain ⟨KA, kcap, rfl, hkr, hkc, hkn⟩ := frd_own Hm4.out hown
  have HK := Lib.hid hkr
  have Hm := Lib.hid hm
  have HX := Lib.hid (HX4.out.go HL.out (.below b5))
  have HC := Lib.hid (HC4.out.trans (.below b5))
  have x0 := HX.out.2.cellv (i := 0) (v := .int .i64 tag) rfl
  have x1 := HX.out.2.cellv (i := 1) (v := .int .i64 nn) rfl
  clear hown b5 hkr hm hkz Hm4 HX4 HC4 Hbr c2 Hm0 hql Hroot
  have e1 : (tag == 1) = false := by have := Ht.out; simp; first | omega | (unfold wide deep at this; omega)
  have e2 : (tag == 2) = false := by have := Ht.out; simp; first | omega | (unfold wide deep at this; omega)
  have e3 : (tag == 3) = false := by have := Ht.out; simp; first | omega | (unfold wide deep at this; omega)
  have e20 : (tag == 20) = false := by have := Ht.out; simp; first | omega | (unfold wide deep at this; omega)
  have e26 : (tag == 26) = false := by have := Ht.out; simp; first | omega | (unfold wide deep at this; omega)
  have e4 : (tag == 4) = false := by have := Ht.out; simp; first | omega | (unfold wide deep at this; omega)
  have e5 : (tag == 5) = false := by have := Ht.out; simp; first | omega | (unfold wide deep at this; omega)
  have e6 : (tag == 6) = false := by have := Ht.out; simp; first | omega | (unfold wide deep at this; omega)
  have e18 : (tag == 18) = false := by have := Ht.out; simp; first | omega | (unfold wide deep at this; omega)
  have e19 : (tag == 19) = false := by have := Ht.out; simp; first | omega | (unfold wide deep at this; omega)
  have e21 : (tag == 21) = false := by have := Ht.out; simp; first | omega | (unfold wide deep at this; omega)
  have e23 : (tag == 23) = false := by have := Ht.out; simp; first | omega | (unfold wide deep at this; omega)
  have e24 : (tag == 24) = false := by have := Ht.out; simp; first | omega | (unfold wide deep at this; omega)
  have e25 : (tag == 25) = false := by have := Ht.out; simp; first | omega | (unfold wide deep at this; omega)
  have e22 : (tag == 22) = false := by have := Ht.out; simp; omega
  obtain ⟨q1, hq1, hat1⟩ := kid_at Hat.out (i := 0) (k := a) rfl
  have hck : ∃ kd, KA = some kd ∧ W.cell? (kd.add 0) = some (.int .i64 (q1 : Int)) := int_at (l := natsI _) HK.out.1 (by simp [natsI, hq1])
  obtain ⟨kd, rfl, hck⟩ := hck
  have hck' : W.cell? kd = some (.int .i64 (q1 : Int)) := hck
  have Hcall := Lib.hid (h1 q1 ev0 W hat1 Hm.out)
  clear hat1 hq1 h1
  go_wp2_with fail
  refine Hcall.out.mono ?_
  rintro e Wa ⟨rfl, eva, hma, hca⟩
  replace HX := Lib.hid (HX.out.go HL.out hca)
  replace HK := Lib.hid (HK.out.go HL.out hca)
  replace HC := Lib.hid (HC.out.trans hca)
  clear x0 x1 hck hck' Hm Hcall
  have Hm := Lib.hid hma
  have x0 := HX.out.2.cellv (i := 0) (v := .int .i64 tag) rfl
  have x1 := HX.out.2.cellv (i := 1) (v := .int .i64 nn) rfl
  have c10 := hma.row.cellv (i := 10) (v := .bool s1.out.isSome) rfl
  rw [ho] at c10
  clear hma hca
  replace c10 : Wa.cell? ⟨L.M, 10, none⟩ = some (.bool false) := c10
  obtain ⟨q1, hq1, hat1⟩ := kid_at Hat.out (i := 1) (k := b) rfl
  have hck : ∃ kd', some kd = some kd' ∧ Wa.cell? (kd'.add 1) = some (.int .i64 (q1 : Int)) := int_at (l := natsI _) HK.out.1 (by simp [natsI, hq1])
  obtain ⟨kd', hkd, hck⟩ := hck
  injection hkd with hkd
  subst hkd
  have hck' : Wa.cell? ⟨kd.block, kd.off + 1, none⟩ = some (.int .i64 (q1 : Int)) := by simpa [Addr.add] using hck
  have Hcall := Lib.hid (h2 q1 eva Wa hat1 Hm.out)
  clear hat1 hq1 h2
  go_wp2_with fail
  refine Hcall.out.mono ?_
  rintro e Wb ⟨rfl, evb, hmb, hcb⟩
  replace HX := Lib.hid (HX.out.go HL.out hcb)
  replace HK := Lib.hid (HK.out.go HL.out hcb)
  replace HC := Lib.hid (HC.out.trans hcb)
  clear x0 x1 hck hck' c10 Hm Hcall
  have Hm := Lib.hid hmb
  have x0 := HX.out.2.cellv (i := 0) (v := .int .i64 tag) rfl
  have x1 := HX.out.2.cellv (i := 1) (v := .int .i64 nn) rfl
  have c10 := hmb.row.cellv (i := 10) (v := .bool s2.out.isSome) rfl
  clear hmb hcb
  rw [ho2] at c10
  replace c10 : Wb.cell? ⟨L.M, 10, none⟩ = some (.bool false) := c10
  go_wp2_with fail
  refine (rBin_any L.M tag v u c Wb Ht.out Hp.out).mono ?_
  rintro e Wc ⟨rfl, rfl⟩
  go_wp2
  go_ret
  exact ⟨rfl, evb, Hm.out, HC.out⟩
end Go.Proofs.Ytlglilmgklipdaa
