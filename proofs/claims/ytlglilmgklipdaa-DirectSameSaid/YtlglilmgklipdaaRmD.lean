/- The walk over the reference's enter: variables set, arrays read and put. Conditions: stated in each theorem. -/
import Derived.Test.YtlglilmgklipdaaRmC
namespace Go.Proofs.Ytlglilmgklipdaa
set_option linter.unusedVariables false
open Go.RowKit Go.Deep

section
variable {L : Lay} {s : Ms} {ev : Value} {W : World}
/-- A variable is set. -/
theorem RR.setVal (h : RR L s ev W) (hL : LOk0 L) (n : Nat) (v : Int) (hn : n < s.vals.length) : ∃ g cap cur, L.vv = .slice (some ⟨g, 0, none⟩) s.vals.length cap ∧ Row W g 3 cur ∧ n < cur.size ∧ ∀ W1, Only g W W1 → Row W1 g 3 (cur.setIfInBounds n (.int .i64 v)) → RR L { s with vals := s.vals.set n v } ev W1 ∧ RChg L ev W ev W1 := by
  rcases h.core.vals.2 with ⟨_, h0⟩ | ⟨g, cap, cur, hv, hb, hh, hc, hm, hsz, ht⟩
  · have := h.core.vals.1; rw [h0] at this; simp [ints] at this; omega
  · have hgb : L.vv.ownBlock = some g := by rw [hv]; rfl
    refine ⟨g, cap, cur, hv, hh, by omega, fun W1 o r1 => ?_⟩
    have hlt := hL.vlt g hgb
    have ne : ∀ {e : TypeId} {size m : Nat} {u : Value} {xs : List Value}, W.ownsRow L.b1 e size u m xs → W1.ownsRow L.b1 e size u m xs := fun h' => own_only h' o (fun e => by have := own_lo h' e; omega)
    refine ⟨⟨h.row.only o (fun e => hlt.2.1 e.symm), ⟨ne h.core.evs, ⟨by have := h.core.vals.1; simp [ints] at this ⊢, .inr ⟨g, cap, _, by simpa using hv, hb, r1, by simpa using hc, hm, by simpa using hsz, ?_⟩⟩, ?_, fun y hy => ne (h.core.fr y hy), h.core.dist, hL.im _ _ h.core.im (.only o (.inr (.inr (.inl hgb)))), by rw [o.size]; exact h.core.size, h.core.sum, h.core.few⟩⟩, .only o (.inr (.inl hgb))⟩
    · simp only [Array.toList_setIfInBounds, List.length_set]
      rw [List.take_set, ht]
      simp [ints, List.map_set]
    · intro i g' a hi ha
      exact (h.core.arrs i g' a hi ha).only o (fun e => hlt.2.2 (by subst e; exact List.mem_of_getElem? hi))
/-- An array's cell is set. -/
theorem RR.setArr (h : RR L s ev W) (hL : LOk0 L) (n i : Nat) (v : Int) (a : List Int) (g : Nat) (hg : L.ab[n]? = some g) (ha : s.arrs[n]? = some a) : Row W g 3 (ints a).toArray ∧ ∀ W1, Only g W W1 → Row W1 g 3 ((ints a).toArray.setIfInBounds i (.int .i64 v)) → RR L { s with arrs := s.arrs.set n (a.set i v) } ev W1 ∧ RChg L ev W ev W1 := by
  refine ⟨h.core.arrs n g a hg ha, fun W1 o r1 => ?_⟩
  have hm := List.mem_of_getElem? hg
  have hlt := hL.alt g hm
  have ne : ∀ {e : TypeId} {size m : Nat} {u : Value} {xs : List Value}, W.ownsRow L.b1 e size u m xs → W1.ownsRow L.b1 e size u m xs := fun h' => own_only h' o (fun e => by have := own_lo h' e; omega)
  refine ⟨⟨h.row.only o (fun e => hlt.2 e.symm), ⟨ne h.core.evs, own_only h.core.vals o (fun e => (hL.vlt g e).2.2 hm), ?_, fun y hy => ne (h.core.fr y hy), h.core.dist, hL.im _ _ h.core.im (.only o (.inr (.inr (.inr hm)))), by rw [o.size]; exact h.core.size, h.core.sum, h.core.few⟩⟩, .only o (.inr (.inr hm))⟩
  intro j g' b hj hb
  by_cases hjn : j = n
  · subst hjn
    rw [hg] at hj; cases hj
    have hjl : j < s.arrs.length := (List.getElem?_eq_some_iff.1 ha).1
    simp only [List.getElem?_set_self hjl, Option.some.injEq] at hb
    subst hb
    have : (ints (a.set i v)).toArray = (ints a).toArray.setIfInBounds i (.int .i64 v) := by simp [ints, List.map_set]
    rw [this]; exact r1
  · have hb' : s.arrs[j]? = some b := by simpa [List.getElem?_set, Ne.symm hjn] using hb
    refine (h.core.arrs j g' b hj hb').only o (fun e => hjn ?_)
    subst e
    obtain ⟨l1, e1⟩ := List.getElem?_eq_some_iff.1 hg
    obtain ⟨l2, e2⟩ := List.getElem?_eq_some_iff.1 hj
    rcases Nat.lt_trichotomy j n with hl | hl | hl
    · exact absurd (e2.trans e1.symm) (List.pairwise_iff_getElem.1 hL.and j n l2 l1 hl)
    · exact hl
    · exact absurd (e1.trans e2.symm) (List.pairwise_iff_getElem.1 hL.and n j l1 l2 hl)
end
set_option maxRecDepth 100000 in
set_option maxHeartbeats 8000000 in
theorem rAt (L : Lay) (hL : ROk L) (x : Nd) (a : Tr) (s s1 : Ms) (v t : Int) (hg : s.go) (ht : x.tag = 4) (hn : 0 ≤ x.n) (hv : L.p.V[x.n.toNat]? = some t) (hs : LenS L.p.V s1) (h1 : Ent L a s.tick v s1) (ho : s1.out = none) (hb : ¬ (v < 0 ∨ ((s1.arr x.n).length : Int) ≤ v)) : Ent L (.node x [a]) s (((s1.arr x.n)[v.toNat]?).getD 0) s1 := by
  obtain ⟨i, rfl⟩ : ∃ i : Nat, v = (i : Int) := ⟨v.toNat, by omega⟩
  obtain ⟨tag, nn⟩ := x
  dsimp only at ht ⊢
  have Ht := Lib.hid ht
  clear ht
  have Hb := Lib.hid hb
  dsimp only at Hb
  clear hb
  dsimp only at hn hv
  have Hn := Lib.hid hn
  have Hv := Lib.hid hv
  have Hs := Lib.hid hs
  clear hn hv hs
  intro q ev0 W0 hat h
  have HL := Lib.hid hL
  have Hm0 := Lib.hid h
  have Hat := Lib.hid hat
  obtain ⟨f, hf⟩ : ∃ f, s.fuel = f + 1 := ⟨s.fuel - 1, by have := hg.2; omega⟩
  have c10 := h.row.cellv (i := 10) (v := .bool s.out.isSome) rfl
  have c5 := h.row.cellv (i := 5) (v := .int .i64 (s.fuel : Int)) rfl
  rw [hg.1] at c10
  rw [hf] at c5
  replace c10 : W0.cell? ⟨L.M, 10, none⟩ = some (.bool false) := c10
  replace c5 : W0.cell? ⟨L.M, 5, none⟩ = some (.int .i64 ((f : Int) + 1)) := c5
  have hsum := h.core.sum
  have hF := hL.F
  have ef : (((f : Int) + 1) == 0) = false := by simp; omega
  have ew1 : IntKind.i64.wrap ((f : Int) + 1 - 1) = (f : Int) := by rw [IntWalk.i64_in _ (by omega)]; omega
  have ew1' : IntKind.i64.wrap (f : Int) = (f : Int) := IntWalk.i64_in _ (by omega)
  have ew2 : IntKind.i64.wrap ((s.steps : Int) + 1) = (s.steps : Int) + 1 := IntWalk.i64_in _ (by omega)
  have hsum2 : s.tick.steps + s.tick.fuel = L.F := by simp only [Ms.tick]; omega
  have hput : Hid (putL (putL (L.rcells s ev0) 5 [.int .i64 (f : Int)]) 6 [.int .i64 ((s.steps : Int) + 1)] = L.rcells s.tick ev0) := by
    show _ = _
    simp only [Lay.rcells, Ms.tick, hf]; rfl
  have Hf := Lib.hid hf
  have Hs2 := Lib.hid hsum2
  have Hroot : Hid (L.p.body[q]? = some ⟨tag, nn⟩) := hat.root
  have hql : (q : Int) < (L.p.body.length : Int) := by have := hat.lt; omega
  have hsz : (L.rcells s ev0).size = 11 := rfl
  clear h hat hL hsum hF hf hsum2
  go_enter Try.func39, Try.ntmps39
  go_wp2_with (refine at_store _ _ _ rfl ?_)
  refine Stop.to ?_
  refine wpList_store_part rfl 3 _ _ rfl L.M 5 rfl _ rfl [.int .i64 (f : Int)] rfl 68 _ _ Hm0.out.row (by kernel_rfl) (by show 5 + 1 ≤ 11; omega) (by simp [Value.oneCell']) rfl ?_
  intro W1 r1 o1
  have c6 := r1.cellv (i := 6) (v := .int .i64 (s.steps : Int)) rfl
  clear c5 c10 ef ew1 ew1'
  go_wp2_with (refine at_store _ _ _ rfl ?_)
  refine Stop.to ?_
  refine wpList_store_part rfl 3 _ _ rfl L.M 6 rfl _ rfl [.int .i64 ((s.steps : Int) + 1)] rfl 68 _ _ r1 (by kernel_rfl) (by show 6 + 1 ≤ 11; omega) (by simp [Value.oneCell']) hput.out ?_
  intro W2 r2 o2
  have o12 : Only L.M W0 W2 := o1.trans o2
  have m2 : RR L s.tick ev0 W2 := Hm0.out.setM HL.out o12 r2 rfl rfl rfl Hs2.out (by simp [Ms.tick])
  have Hm2 := Lib.hid m2
  have HC2 : Hid (RChg L ev0 W0 ev0 W2) := RChg.only o12 (.inl rfl)
  have c2 := m2.row.cellv (i := 2) (v := .slice L.p.ba L.p.body.length L.p.bcap) rfl
  have hok2 := HL.out.pok W2 m2.core.im
  have Hok2 := Lib.hid hok2
  obtain ⟨ad, had, hc⟩ := nd_at hok2.brd Hroot.out
  have Hc := Lib.hid hc
  have Hb1 := Lib.hid m2.core.size
  have c2' := c2
  rw [had] at c2'
  clear m2 hok2 o12 o1 o2 r1 r2 c6 ew2 hput hsz c2 hc had
  go_wp2_with (first
    | (refine wpList_load_at rfl 44 _ rfl (ad.add (q * 2)) rfl (Nd.cells ⟨tag, nn⟩) _ Hc.out Try.underlying44 rfl (by kernel_rfl) ?_)
    | (refine at_alloc _ rfl ?_))
  refine Stop.to ?_
  refine wpList_alloc_gen rfl 44 rfl _ _ zero_node rfl ?_
  intro X W3 hX rX b3
  go_wp2_with (refine at_store _ _ _ rfl ?_)
  refine Stop.to ?_
  refine wpList_store_gen rfl 44 _ _ rfl X (Nd.cells ⟨tag, nn⟩).toArray rfl rfl 44 _ rX (by kernel_rfl) rfl (by simp [Nd.cells, Value.oneCell']) ?_
  intro W4 r4 o4
  have b34 : Below W2.heap.size W2 W4 := (b3.mono hX).trans (o4.below hX)
  have m4 := Hm2.out.below HL.out b34
  have hc4 : RChg L ev0 W0 ev0 W4 := HC2.out.trans (.below b34)
  have HX4 : Hid (FRow L ev0 W4 X 44 (Nd.cells ⟨tag, nn⟩).toArray) := ⟨Hm2.out.far_new hX r4.lt, r4⟩
  have c2 := m4.row.cellv (i := 2) (v := .slice L.p.ba L.p.body.length L.p.bcap) rfl
  have Hm4 := Lib.hid m4
  have HC4 := Lib.hid hc4
  have Hbr := Lib.hid (HL.out.pok W4 m4.core.im).brd
  clear b3 b34 o4 rX c2' hX Hc r4 m4 hc4 HC2 Hm2 Hok2 Hb1
  go_wp2_with fail
  refine (refKids_any L.p.ba L.p.bcap L.p.body (q : Int) W4 Hbr.out HL.out.blen).mono ?_
  rintro e W ⟨kv, rfl, hown, b5⟩
  have hm := Hm4.out.below HL.out b5
  have hkz : kidsZ L.p.body (q : Int) = natsI (spots (q + 1) [a]) := Hat.out.kidsZ
  rw [hkz, pos_len] at hown
  replace hown : W.ownsRow W4.heap.size 3 1 kv 1 (ints (natsI (spots (q + 1) [a]))) := hown
  obtain ⟨KA, kcap, rfl, hkr, hkc, hkn⟩ := frd_own Hm4.out hown
  have HK := Lib.hid hkr
  have Hm := Lib.hid hm
  have HX := Lib.hid (HX4.out.go HL.out (.below b5))
  have HC := Lib.hid (HC4.out.trans (.below b5))
  have x0 := HX.out.2.cellv (i := 0) (v := .int .i64 tag) rfl
  have x1 := HX.out.2.cellv (i := 1) (v := .int .i64 nn) rfl
  clear hown b5 hkr hm hkz Hm4 HX4 HC4 Hbr c2 Hm0 hql Hroot
  obtain rfl := Ht.out
  obtain ⟨q1, hq1, hat1⟩ := kid_at Hat.out (i := 0) (k := a) rfl
  have hck : ∃ kd, KA = some kd ∧ W.cell? (kd.add 0) = some (.int .i64 (q1 : Int)) := int_at (l := natsI _) HK.out.1 (by simp [natsI, hq1])
  obtain ⟨kd, rfl, hck⟩ := hck
  have hck' : W.cell? kd = some (.int .i64 (q1 : Int)) := hck
  have Hcall := Lib.hid (h1 q1 ev0 W hat1 Hm.out)
  clear hat1 hq1 h1
  go_wp2_with fail
  refine Hcall.out.mono ?_
  rintro e Wa ⟨rfl, eva, hma, hca⟩
  replace HX := Lib.hid (HX.out.go HL.out hca)
  replace HK := Lib.hid (HK.out.go HL.out hca)
  replace HC := Lib.hid (HC.out.trans hca)
  clear x0 x1 hck hck' Hm Hcall
  have Hm := Lib.hid hma
  have x0 := HX.out.2.cellv (i := 0) (v := .int .i64 4) rfl
  have x1 := HX.out.2.cellv (i := 1) (v := .int .i64 nn) rfl
  have c10 := hma.row.cellv (i := 10) (v := .bool s1.out.isSome) rfl
  rw [ho] at c10
  clear hma hca
  replace c10 : Wa.cell? ⟨L.M, 10, none⟩ = some (.bool false) := c10
  obtain ⟨n, rfl⟩ : ∃ n : Nat, nn = (n : Int) := ⟨nn.toNat, by have := Hn.out; omega⟩
  have hvt := Hv.out
  rw [Int.toNat_natCast] at hvt
  have hnl : n < L.ab.length := by rw [HL.out.alen]; exact (List.getElem?_eq_some_iff.1 hvt).1
  obtain ⟨gA, hgA⟩ : ∃ g, L.ab[n]? = some g := ⟨_, List.getElem?_eq_getElem hnl⟩
  obtain ⟨aA, t', hadA, ht', hcA⟩ := HL.out.arrs Wa Hm.out.core.im n gA hgA
  obtain ⟨ar, har⟩ : ∃ a, s1.arrs[n]? = some a := ⟨_, List.getElem?_eq_getElem (by rw [Hs.out.alen, ← HL.out.alen]; exact hnl)⟩
  have hax : s1.arr (n : Int) = ar := by unfold Ms.arr; rw [Int.toNat_natCast, har]; rfl
  have hsz : (sizeZ t').toNat = ar.length := by have := Hs.out.len n t' ar ht' har; omega
  have hrA := Hm.out.core.arrs n gA ar hgA har
  rw [hsz] at hcA
  have c4 := Hm.out.row.cellv (i := 4) (v := .slice L.aa L.ab.length L.acap) rfl
  rw [hadA] at c4
  have hnI : (n : Int) < (L.ab.length : Int) := by omega
  have Hax := Lib.hid hax
  have HgA := Lib.hid hgA
  have Har := Lib.hid har
  clear hvt hnl hadA ht' hsz hax hgA har
  have hb := Hb.out
  rw [Hax.out] at hb
  have hil : i < ar.length := by omega
  have hiI : (i : Int) < (ar.length : Int) := by omega
  have hi0 : ¬ (i : Int) < 0 := by omega
  have hval : ((s1.arr (n : Int))[(i : Int).toNat]?).getD 0 = ar[i] := by rw [Hax.out, Int.toNat_natCast, List.getElem?_eq_getElem hil, Option.getD_some]
  have cA := hrA.cellv (i := i) (v := .int .i64 ar[i]) (by simp [ints])
  generalize ar[i] = av at cA hval
  have Hval := Lib.hid hval
  clear hval hb hrA hil
  go_wp2_with fail
  go_quiet (fail)
  go_wp2_with fail
  go_quiet (fail)
  go_wp2
  go_ret
  exact ⟨ret_i Hval.out, eva, (Hm.out.drew HL.out _).drew HL.out _, HC.out.trans (.below ⟨rfl, rfl, rfl, Nat.le_refl _, fun _ _ => rfl⟩)⟩
set_option maxRecDepth 100000 in
set_option maxHeartbeats 8000000 in
theorem rAtNo (L : Lay) (hL : ROk L) (x : Nd) (a : Tr) (s s1 : Ms) (v t : Int) (hg : s.go) (ht : x.tag = 4) (hn : 0 ≤ x.n) (hv : L.p.V[x.n.toNat]? = some t) (hs : LenS L.p.V s1) (h1 : Ent L a s.tick v s1) (ho : s1.out = none) (hb : v < 0 ∨ ((s1.arr x.n).length : Int) ≤ v) : Ent L (.node x [a]) s 0 (s1.stop 2 0) := by
  have Hz : Hid (s1.stopped 2 0 = s1.stop 2 0) := by show _ = _; unfold Ms.stopped; rw [ho]; rfl
  obtain ⟨tag, nn⟩ := x
  dsimp only at ht ⊢
  have Ht := Lib.hid ht
  clear ht
  have Hb := Lib.hid hb
  dsimp only at Hb
  clear hb
  dsimp only at hn hv
  have Hn := Lib.hid hn
  have Hv := Lib.hid hv
  have Hs := Lib.hid hs
  clear hn hv hs
  intro q ev0 W0 hat h
  have HL := Lib.hid hL
  have Hm0 := Lib.hid h
  have Hat := Lib.hid hat
  obtain ⟨f, hf⟩ : ∃ f, s.fuel = f + 1 := ⟨s.fuel - 1, by have := hg.2; omega⟩
  have c10 := h.row.cellv (i := 10) (v := .bool s.out.isSome) rfl
  have c5 := h.row.cellv (i := 5) (v := .int .i64 (s.fuel : Int)) rfl
  rw [hg.1] at c10
  rw [hf] at c5
  replace c10 : W0.cell? ⟨L.M, 10, none⟩ = some (.bool false) := c10
  replace c5 : W0.cell? ⟨L.M, 5, none⟩ = some (.int .i64 ((f : Int) + 1)) := c5
  have hsum := h.core.sum
  have hF := hL.F
  have ef : (((f : Int) + 1) == 0) = false := by simp; omega
  have ew1 : IntKind.i64.wrap ((f : Int) + 1 - 1) = (f : Int) := by rw [IntWalk.i64_in _ (by omega)]; omega
  have ew1' : IntKind.i64.wrap (f : Int) = (f : Int) := IntWalk.i64_in _ (by omega)
  have ew2 : IntKind.i64.wrap ((s.steps : Int) + 1) = (s.steps : Int) + 1 := IntWalk.i64_in _ (by omega)
  have hsum2 : s.tick.steps + s.tick.fuel = L.F := by simp only [Ms.tick]; omega
  have hput : Hid (putL (putL (L.rcells s ev0) 5 [.int .i64 (f : Int)]) 6 [.int .i64 ((s.steps : Int) + 1)] = L.rcells s.tick ev0) := by
    show _ = _
    simp only [Lay.rcells, Ms.tick, hf]; rfl
  have Hf := Lib.hid hf
  have Hs2 := Lib.hid hsum2
  have Hroot : Hid (L.p.body[q]? = some ⟨tag, nn⟩) := hat.root
  have hql : (q : Int) < (L.p.body.length : Int) := by have := hat.lt; omega
  have hsz : (L.rcells s ev0).size = 11 := rfl
  clear h hat hL hsum hF hf hsum2
  go_enter Try.func39, Try.ntmps39
  go_wp2_with (refine at_store _ _ _ rfl ?_)
  refine Stop.to ?_
  refine wpList_store_part rfl 3 _ _ rfl L.M 5 rfl _ rfl [.int .i64 (f : Int)] rfl 68 _ _ Hm0.out.row (by kernel_rfl) (by show 5 + 1 ≤ 11; omega) (by simp [Value.oneCell']) rfl ?_
  intro W1 r1 o1
  have c6 := r1.cellv (i := 6) (v := .int .i64 (s.steps : Int)) rfl
  clear c5 c10 ef ew1 ew1'
  go_wp2_with (refine at_store _ _ _ rfl ?_)
  refine Stop.to ?_
  refine wpList_store_part rfl 3 _ _ rfl L.M 6 rfl _ rfl [.int .i64 ((s.steps : Int) + 1)] rfl 68 _ _ r1 (by kernel_rfl) (by show 6 + 1 ≤ 11; omega) (by simp [Value.oneCell']) hput.out ?_
  intro W2 r2 o2
  have o12 : Only L.M W0 W2 := o1.trans o2
  have m2 : RR L s.tick ev0 W2 := Hm0.out.setM HL.out o12 r2 rfl rfl rfl Hs2.out (by simp [Ms.tick])
  have Hm2 := Lib.hid m2
  have HC2 : Hid (RChg L ev0 W0 ev0 W2) := RChg.only o12 (.inl rfl)
  have c2 := m2.row.cellv (i := 2) (v := .slice L.p.ba L.p.body.length L.p.bcap) rfl
  have hok2 := HL.out.pok W2 m2.core.im
  have Hok2 := Lib.hid hok2
  obtain ⟨ad, had, hc⟩ := nd_at hok2.brd Hroot.out
  have Hc := Lib.hid hc
  have Hb1 := Lib.hid m2.core.size
  have c2' := c2
  rw [had] at c2'
  clear m2 hok2 o12 o1 o2 r1 r2 c6 ew2 hput hsz c2 hc had
  go_wp2_with (first
    | (refine wpList_load_at rfl 44 _ rfl (ad.add (q * 2)) rfl (Nd.cells ⟨tag, nn⟩) _ Hc.out Try.underlying44 rfl (by kernel_rfl) ?_)
    | (refine at_alloc _ rfl ?_))
  refine Stop.to ?_
  refine wpList_alloc_gen rfl 44 rfl _ _ zero_node rfl ?_
  intro X W3 hX rX b3
  go_wp2_with (refine at_store _ _ _ rfl ?_)
  refine Stop.to ?_
  refine wpList_store_gen rfl 44 _ _ rfl X (Nd.cells ⟨tag, nn⟩).toArray rfl rfl 44 _ rX (by kernel_rfl) rfl (by simp [Nd.cells, Value.oneCell']) ?_
  intro W4 r4 o4
  have b34 : Below W2.heap.size W2 W4 := (b3.mono hX).trans (o4.below hX)
  have m4 := Hm2.out.below HL.out b34
  have hc4 : RChg L ev0 W0 ev0 W4 := HC2.out.trans (.below b34)
  have HX4 : Hid (FRow L ev0 W4 X 44 (Nd.cells ⟨tag, nn⟩).toArray) := ⟨Hm2.out.far_new hX r4.lt, r4⟩
  have c2 := m4.row.cellv (i := 2) (v := .slice L.p.ba L.p.body.length L.p.bcap) rfl
  have Hm4 := Lib.hid m4
  have HC4 := Lib.hid hc4
  have Hbr := Lib.hid (HL.out.pok W4 m4.core.im).brd
  clear b3 b34 o4 rX c2' hX Hc r4 m4 hc4 HC2 Hm2 Hok2 Hb1
  go_wp2_with fail
  refine (refKids_any L.p.ba L.p.bcap L.p.body (q : Int) W4 Hbr.out HL.out.blen).mono ?_
  rintro e W ⟨kv, rfl, hown, b5⟩
  have hm := Hm4.out.below HL.out b5
  have hkz : kidsZ L.p.body (q : Int) = natsI (spots (q + 1) [a]) := Hat.out.kidsZ
  rw [hkz, pos_len] at hown
  replace hown : W.ownsRow W4.heap.size 3 1 kv 1 (ints (natsI (spots (q + 1) [a]))) := hown
  obtain ⟨KA, kcap, rfl, hkr, hkc, hkn⟩ := frd_own Hm4.out hown
  have HK := Lib.hid hkr
  have Hm := Lib.hid hm
  have HX := Lib.hid (HX4.out.go HL.out (.below b5))
  have HC := Lib.hid (HC4.out.trans (.below b5))
  have x0 := HX.out.2.cellv (i := 0) (v := .int .i64 tag) rfl
  have x1 := HX.out.2.cellv (i := 1) (v := .int .i64 nn) rfl
  clear hown b5 hkr hm hkz Hm4 HX4 HC4 Hbr c2 Hm0 hql Hroot
  obtain rfl := Ht.out
  obtain ⟨q1, hq1, hat1⟩ := kid_at Hat.out (i := 0) (k := a) rfl
  have hck : ∃ kd, KA = some kd ∧ W.cell? (kd.add 0) = some (.int .i64 (q1 : Int)) := int_at (l := natsI _) HK.out.1 (by simp [natsI, hq1])
  obtain ⟨kd, rfl, hck⟩ := hck
  have hck' : W.cell? kd = some (.int .i64 (q1 : Int)) := hck
  have Hcall := Lib.hid (h1 q1 ev0 W hat1 Hm.out)
  clear hat1 hq1 h1
  go_wp2_with fail
  refine Hcall.out.mono ?_
  rintro e Wa ⟨rfl, eva, hma, hca⟩
  replace HX := Lib.hid (HX.out.go HL.out hca)
  replace HK := Lib.hid (HK.out.go HL.out hca)
  replace HC := Lib.hid (HC.out.trans hca)
  clear x0 x1 hck hck' Hm Hcall
  have Hm := Lib.hid hma
  have x0 := HX.out.2.cellv (i := 0) (v := .int .i64 4) rfl
  have x1 := HX.out.2.cellv (i := 1) (v := .int .i64 nn) rfl
  have c10 := hma.row.cellv (i := 10) (v := .bool s1.out.isSome) rfl
  rw [ho] at c10
  clear hma hca
  replace c10 : Wa.cell? ⟨L.M, 10, none⟩ = some (.bool false) := c10
  obtain ⟨n, rfl⟩ : ∃ n : Nat, nn = (n : Int) := ⟨nn.toNat, by have := Hn.out; omega⟩
  have hvt := Hv.out
  rw [Int.toNat_natCast] at hvt
  have hnl : n < L.ab.length := by rw [HL.out.alen]; exact (List.getElem?_eq_some_iff.1 hvt).1
  obtain ⟨gA, hgA⟩ : ∃ g, L.ab[n]? = some g := ⟨_, List.getElem?_eq_getElem hnl⟩
  obtain ⟨aA, t', hadA, ht', hcA⟩ := HL.out.arrs Wa Hm.out.core.im n gA hgA
  obtain ⟨ar, har⟩ : ∃ a, s1.arrs[n]? = some a := ⟨_, List.getElem?_eq_getElem (by rw [Hs.out.alen, ← HL.out.alen]; exact hnl)⟩
  have hax : s1.arr (n : Int) = ar := by unfold Ms.arr; rw [Int.toNat_natCast, har]; rfl
  have hsz : (sizeZ t').toNat = ar.length := by have := Hs.out.len n t' ar ht' har; omega
  have hrA := Hm.out.core.arrs n gA ar hgA har
  rw [hsz] at hcA
  have c4 := Hm.out.row.cellv (i := 4) (v := .slice L.aa L.ab.length L.acap) rfl
  rw [hadA] at c4
  have hnI : (n : Int) < (L.ab.length : Int) := by omega
  have Hax := Lib.hid hax
  have HgA := Lib.hid hgA
  have Har := Lib.hid har
  clear hvt hnl hadA ht' hsz hax hgA har
  have hb := Hb.out
  rw [Hax.out] at hb
  clear hrA
  by_cases h0 : v < 0
  · clear hb
    go_wp2_with fail
    go_quiet (fail)
    go_wp2_with fail
    refine (rStop_any L HL.out s1 eva 2 0 _ (Hm.out.drew HL.out _)).mono ?_
    rintro e Wb ⟨rfl, hmb, hcb⟩
    have Hm2 := Lib.hid hmb
    have HC2 := Lib.hid (HC.out.trans ((RChg.below ⟨rfl, rfl, rfl, Nat.le_refl _, fun _ _ => rfl⟩ : RChg L eva Wa eva (Wa.drewN nq)).trans hcb))
    clear hmb hcb Hm HC HX HK x0 x1 c10 c4 hcA
    go_wp2
    go_ret
    exact ⟨rfl, eva, by rw [← Hz.out]; exact Hm2.out, HC2.out⟩
  · have hb' : (ar.length : Int) ≤ v := by omega
    have h0' : 0 ≤ v := by omega
    clear hb h0
    go_wp2_with fail
    go_quiet (fail)
    go_wp2_with fail
    refine (rStop_any L HL.out s1 eva 2 0 _ (Hm.out.drew HL.out _)).mono ?_
    rintro e Wb ⟨rfl, hmb, hcb⟩
    have Hm2 := Lib.hid hmb
    have HC2 := Lib.hid (HC.out.trans ((RChg.below ⟨rfl, rfl, rfl, Nat.le_refl _, fun _ _ => rfl⟩ : RChg L eva Wa eva (Wa.drewN nq)).trans hcb))
    clear hmb hcb Hm HC HX HK x0 x1 c10 c4 hcA
    go_wp2
    go_ret
    exact ⟨rfl, eva, by rw [← Hz.out]; exact Hm2.out, HC2.out⟩
set_option maxRecDepth 100000 in
set_option maxHeartbeats 8000000 in
theorem rSet (L : Lay) (hL : ROk L) (x : Nd) (a : Tr) (s s1 : Ms) (v : Int) (hg : s.go) (ht : x.tag = 21) (hn : 0 ≤ x.n) (hv : x.n.toNat < s1.vals.length) (hf : s1.evs.length < s1.steps) (h1 : Ent L a s.tick v s1) (ho : s1.out = none) : Ent L (.node x [a]) s 0 (s1.setv x.n v) := by
  obtain ⟨tag, nn⟩ := x
  dsimp only at ht ⊢
  have Ht := Lib.hid ht
  clear ht
  dsimp only at hn hv
  have Hn := Lib.hid hn
  have Hv := Lib.hid hv
  have Few := Lib.hid hf
  clear hn hv hf
  intro q ev0 W0 hat h
  have HL := Lib.hid hL
  have Hm0 := Lib.hid h
  have Hat := Lib.hid hat
  obtain ⟨f, hf⟩ : ∃ f, s.fuel = f + 1 := ⟨s.fuel - 1, by have := hg.2; omega⟩
  have c10 := h.row.cellv (i := 10) (v := .bool s.out.isSome) rfl
  have c5 := h.row.cellv (i := 5) (v := .int .i64 (s.fuel : Int)) rfl
  rw [hg.1] at c10
  rw [hf] at c5
  replace c10 : W0.cell? ⟨L.M, 10, none⟩ = some (.bool false) := c10
  replace c5 : W0.cell? ⟨L.M, 5, none⟩ = some (.int .i64 ((f : Int) + 1)) := c5
  have hsum := h.core.sum
  have hF := hL.F
  have ef : (((f : Int) + 1) == 0) = false := by simp; omega
  have ew1 : IntKind.i64.wrap ((f : Int) + 1 - 1) = (f : Int) := by rw [IntWalk.i64_in _ (by omega)]; omega
  have ew1' : IntKind.i64.wrap (f : Int) = (f : Int) := IntWalk.i64_in _ (by omega)
  have ew2 : IntKind.i64.wrap ((s.steps : Int) + 1) = (s.steps : Int) + 1 := IntWalk.i64_in _ (by omega)
  have hsum2 : s.tick.steps + s.tick.fuel = L.F := by simp only [Ms.tick]; omega
  have hput : Hid (putL (putL (L.rcells s ev0) 5 [.int .i64 (f : Int)]) 6 [.int .i64 ((s.steps : Int) + 1)] = L.rcells s.tick ev0) := by
    show _ = _
    simp only [Lay.rcells, Ms.tick, hf]; rfl
  have Hf := Lib.hid hf
  have Hs2 := Lib.hid hsum2
  have Hroot : Hid (L.p.body[q]? = some ⟨tag, nn⟩) := hat.root
  have hql : (q : Int) < (L.p.body.length : Int) := by have := hat.lt; omega
  have hsz : (L.rcells s ev0).size = 11 := rfl
  clear h hat hL hsum hF hf hsum2
  go_enter Try.func39, Try.ntmps39
  go_wp2_with (refine at_store _ _ _ rfl ?_)
  refine Stop.to ?_
  refine wpList_store_part rfl 3 _ _ rfl L.M 5 rfl _ rfl [.int .i64 (f : Int)] rfl 68 _ _ Hm0.out.row (by kernel_rfl) (by show 5 + 1 ≤ 11; omega) (by simp [Value.oneCell']) rfl ?_
  intro W1 r1 o1
  have c6 := r1.cellv (i := 6) (v := .int .i64 (s.steps : Int)) rfl
  clear c5 c10 ef ew1 ew1'
  go_wp2_with (refine at_store _ _ _ rfl ?_)
  refine Stop.to ?_
  refine wpList_store_part rfl 3 _ _ rfl L.M 6 rfl _ rfl [.int .i64 ((s.steps : Int) + 1)] rfl 68 _ _ r1 (by kernel_rfl) (by show 6 + 1 ≤ 11; omega) (by simp [Value.oneCell']) hput.out ?_
  intro W2 r2 o2
  have o12 : Only L.M W0 W2 := o1.trans o2
  have m2 : RR L s.tick ev0 W2 := Hm0.out.setM HL.out o12 r2 rfl rfl rfl Hs2.out (by simp [Ms.tick])
  have Hm2 := Lib.hid m2
  have HC2 : Hid (RChg L ev0 W0 ev0 W2) := RChg.only o12 (.inl rfl)
  have c2 := m2.row.cellv (i := 2) (v := .slice L.p.ba L.p.body.length L.p.bcap) rfl
  have hok2 := HL.out.pok W2 m2.core.im
  have Hok2 := Lib.hid hok2
  obtain ⟨ad, had, hc⟩ := nd_at hok2.brd Hroot.out
  have Hc := Lib.hid hc
  have Hb1 := Lib.hid m2.core.size
  have c2' := c2
  rw [had] at c2'
  clear m2 hok2 o12 o1 o2 r1 r2 c6 ew2 hput hsz c2 hc had
  go_wp2_with (first
    | (refine wpList_load_at rfl 44 _ rfl (ad.add (q * 2)) rfl (Nd.cells ⟨tag, nn⟩) _ Hc.out Try.underlying44 rfl (by kernel_rfl) ?_)
    | (refine at_alloc _ rfl ?_))
  refine Stop.to ?_
  refine wpList_alloc_gen rfl 44 rfl _ _ zero_node rfl ?_
  intro X W3 hX rX b3
  go_wp2_with (refine at_store _ _ _ rfl ?_)
  refine Stop.to ?_
  refine wpList_store_gen rfl 44 _ _ rfl X (Nd.cells ⟨tag, nn⟩).toArray rfl rfl 44 _ rX (by kernel_rfl) rfl (by simp [Nd.cells, Value.oneCell']) ?_
  intro W4 r4 o4
  have b34 : Below W2.heap.size W2 W4 := (b3.mono hX).trans (o4.below hX)
  have m4 := Hm2.out.below HL.out b34
  have hc4 : RChg L ev0 W0 ev0 W4 := HC2.out.trans (.below b34)
  have HX4 : Hid (FRow L ev0 W4 X 44 (Nd.cells ⟨tag, nn⟩).toArray) := ⟨Hm2.out.far_new hX r4.lt, r4⟩
  have c2 := m4.row.cellv (i := 2) (v := .slice L.p.ba L.p.body.length L.p.bcap) rfl
  have Hm4 := Lib.hid m4
  have HC4 := Lib.hid hc4
  have Hbr := Lib.hid (HL.out.pok W4 m4.core.im).brd
  clear b3 b34 o4 rX c2' hX Hc r4 m4 hc4 HC2 Hm2 Hok2 Hb1
  go_wp2_with fail
  refine (refKids_any L.p.ba L.p.bcap L.p.body (q : Int) W4 Hbr.out HL.out.blen).mono ?_
  rintro e W ⟨kv, rfl, hown, b5⟩
  have hm := Hm4.out.below HL.out b5
  have hkz : kidsZ L.p.body (q : Int) = natsI (spots (q + 1) [a]) := Hat.out.kidsZ
  rw [hkz, pos_len] at hown
  replace hown : W.ownsRow W4.heap.size 3 1 kv 1 (ints (natsI (spots (q + 1) [a]))) := hown
  obtain ⟨KA, kcap, rfl, hkr, hkc, hkn⟩ := frd_own Hm4.out hown
  have HK := Lib.hid hkr
  have Hm := Lib.hid hm
  have HX := Lib.hid (HX4.out.go HL.out (.below b5))
  have HC := Lib.hid (HC4.out.trans (.below b5))
  have x0 := HX.out.2.cellv (i := 0) (v := .int .i64 tag) rfl
  have x1 := HX.out.2.cellv (i := 1) (v := .int .i64 nn) rfl
  clear hown b5 hkr hm hkz Hm4 HX4 HC4 Hbr c2 Hm0 hql Hroot
  obtain rfl := Ht.out
  obtain ⟨q1, hq1, hat1⟩ := kid_at Hat.out (i := 0) (k := a) rfl
  have hck : ∃ kd, KA = some kd ∧ W.cell? (kd.add 0) = some (.int .i64 (q1 : Int)) := int_at (l := natsI _) HK.out.1 (by simp [natsI, hq1])
  obtain ⟨kd, rfl, hck⟩ := hck
  have hck' : W.cell? kd = some (.int .i64 (q1 : Int)) := hck
  have Hcall := Lib.hid (h1 q1 ev0 W hat1 Hm.out)
  clear hat1 hq1 h1
  go_wp2_with fail
  refine Hcall.out.mono ?_
  rintro e Wa ⟨rfl, eva, hma, hca⟩
  replace HX := Lib.hid (HX.out.go HL.out hca)
  replace HK := Lib.hid (HK.out.go HL.out hca)
  replace HC := Lib.hid (HC.out.trans hca)
  clear x0 x1 hck hck' Hm Hcall
  have Hm := Lib.hid hma
  have x0 := HX.out.2.cellv (i := 0) (v := .int .i64 21) rfl
  have x1 := HX.out.2.cellv (i := 1) (v := .int .i64 nn) rfl
  have c10 := hma.row.cellv (i := 10) (v := .bool s1.out.isSome) rfl
  rw [ho] at c10
  clear hma hca
  replace c10 : Wa.cell? ⟨L.M, 10, none⟩ = some (.bool false) := c10
  obtain ⟨n, rfl⟩ : ∃ n : Nat, nn = (n : Int) := ⟨nn.toNat, by have := Hn.out; omega⟩
  have hvl := Hv.out
  rw [Int.toNat_natCast] at hvl
  obtain ⟨gv, vcap, hlv, _⟩ := own_ints Hm.out.core.vals (by omega)
  have c3 := Hm.out.row.cellv (i := 3) (v := L.vv) rfl
  rw [hlv] at c3
  have hnI : (n : Int) < (s1.vals.length : Int) := by omega
  go_wp2_with fail
  refine region_still_tail 8 (by kernel_rfl) (by kernel_rfl) ?_
  simp only [List.take_succ_cons, List.take_zero, List.drop_succ_cons, List.drop_zero]
  have key : ∀ a u, Wa.cell? a = some u → Wa.drew.cell? a = some u := fun _ _ h => h
  replace c3 := key _ _ c3
  replace x1 := key _ _ x1
  replace Hm := Lib.hid (Hm.out.drew HL.out 1)
  replace Hm : Hid (RR L s1 eva Wa.drew) := Hm
  replace HX : Hid (FRow L eva Wa.drew X 44 (Nd.cells ⟨21, (n : Int)⟩).toArray) := Lib.hid (HX.out.go HL.out (.below ⟨rfl, rfl, rfl, Nat.le_refl _, fun _ _ => rfl⟩))
  replace HC : Hid (RChg L ev0 W0 eva Wa.drew) := Lib.hid (HC.out.trans (.below ⟨rfl, rfl, rfl, Nat.le_refl _, fun _ _ => rfl⟩))
  clear key x0 c10 HK
  generalize Wa.drew = Wd at *
  repeat still_step
  refine wpStill_nil ?_
  obtain ⟨g', cap', cur', hv', hr', hk', hset⟩ := Hm.out.setVal HL.out n v hvl
  rw [hlv] at hv'
  cases hv'
  have hput := putL_one cur' n (.int .i64 v) hk'
  go_wp2_with (refine at_store _ _ _ rfl ?_)
  refine Stop.to ?_
  refine wpList_store_part rfl 3 _ _ rfl gv n rfl _ rfl [.int .i64 v] rfl 3 _ _ hr' (by kernel_rfl) (by simp; omega) (by simp [Value.oneCell']) hput ?_
  intro We re oe
  obtain ⟨hme, hce⟩ := hset We oe re
  replace HX := Lib.hid (HX.out.go HL.out hce)
  have x1 := HX.out.2.cellv (i := 1) (v := .int .i64 (n : Int)) rfl
  have Hm2 := Lib.hid hme
  have HC2 := Lib.hid (HC.out.trans hce)
  clear hme hce re oe hset hr' hput hk' c3 HC Hm
  go_wp2_with fail
  refine Calls.mono (rStore_any L HL.out _ (s1.setv (n : Int) v) eva (n : Int) (-1) v We Hm2.out rfl rfl rfl rfl rfl Few.out rfl) ?_
  rintro e Wf ⟨⟨u, rfl⟩, evf, hmf, hcf⟩
  have Hm3 := Lib.hid hmf
  have HC3 := Lib.hid (HC2.out.trans hcf)
  clear hmf hcf Hm2 HC2 HX x1
  go_wp2
  go_ret
  exact ⟨rfl, evf, Hm3.out, HC3.out⟩
set_option maxRecDepth 100000 in
set_option maxHeartbeats 8000000 in
theorem rPutNo (L : Lay) (hL : ROk L) (x : Nd) (a b : Tr) (s s1 s2 : Ms) (v u t : Int) (hg : s.go) (ht : x.tag = 22) (hn : 0 ≤ x.n) (hv : L.p.V[x.n.toNat]? = some t) (hs : LenS L.p.V s2) (h1 : Ent L a s.tick v s1) (ho : s1.out = none) (h2 : Ent L b s1 u s2) (ho2 : s2.out = none) (hb : v < 0 ∨ ((s2.arr x.n).length : Int) ≤ v) : Ent L (.node x [a, b]) s 0 (s2.stop 2 0) := by
  have Hz : Hid (s2.stopped 2 0 = s2.stop 2 0) := by show _ = _; unfold Ms.stopped; rw [ho2]; rfl
  obtain ⟨tag, nn⟩ := x
  dsimp only at ht ⊢
  have Ht := Lib.hid ht
  clear ht
  have Hb := Lib.hid hb
  dsimp only at Hb
  clear hb
  dsimp only at hn hv
  have Hn := Lib.hid hn
  have Hv := Lib.hid hv
  have Hs := Lib.hid hs
  clear hn hv hs
  intro q ev0 W0 hat h
  have HL := Lib.hid hL
  have Hm0 := Lib.hid h
  have Hat := Lib.hid hat
  obtain ⟨f, hf⟩ : ∃ f, s.fuel = f + 1 := ⟨s.fuel - 1, by have := hg.2; omega⟩
  have c10 := h.row.cellv (i := 10) (v := .bool s.out.isSome) rfl
  have c5 := h.row.cellv (i := 5) (v := .int .i64 (s.fuel : Int)) rfl
  rw [hg.1] at c10
  rw [hf] at c5
  replace c10 : W0.cell? ⟨L.M, 10, none⟩ = some (.bool false) := c10
  replace c5 : W0.cell? ⟨L.M, 5, none⟩ = some (.int .i64 ((f : Int) + 1)) := c5
  have hsum := h.core.sum
  have hF := hL.F
  have ef : (((f : Int) + 1) == 0) = false := by simp; omega
  have ew1 : IntKind.i64.wrap ((f : Int) + 1 - 1) = (f : Int) := by rw [IntWalk.i64_in _ (by omega)]; omega
  have ew1' : IntKind.i64.wrap (f : Int) = (f : Int) := IntWalk.i64_in _ (by omega)
  have ew2 : IntKind.i64.wrap ((s.steps : Int) + 1) = (s.steps : Int) + 1 := IntWalk.i64_in _ (by omega)
  have hsum2 : s.tick.steps + s.tick.fuel = L.F := by simp only [Ms.tick]; omega
  have hput : Hid (putL (putL (L.rcells s ev0) 5 [.int .i64 (f : Int)]) 6 [.int .i64 ((s.steps : Int) + 1)] = L.rcells s.tick ev0) := by
    show _ = _
    simp only [Lay.rcells, Ms.tick, hf]; rfl
  have Hf := Lib.hid hf
  have Hs2 := Lib.hid hsum2
  have Hroot : Hid (L.p.body[q]? = some ⟨tag, nn⟩) := hat.root
  have hql : (q : Int) < (L.p.body.length : Int) := by have := hat.lt; omega
  have hsz : (L.rcells s ev0).size = 11 := rfl
  clear h hat hL hsum hF hf hsum2
  go_enter Try.func39, Try.ntmps39
  go_wp2_with (refine at_store _ _ _ rfl ?_)
  refine Stop.to ?_
  refine wpList_store_part rfl 3 _ _ rfl L.M 5 rfl _ rfl [.int .i64 (f : Int)] rfl 68 _ _ Hm0.out.row (by kernel_rfl) (by show 5 + 1 ≤ 11; omega) (by simp [Value.oneCell']) rfl ?_
  intro W1 r1 o1
  have c6 := r1.cellv (i := 6) (v := .int .i64 (s.steps : Int)) rfl
  clear c5 c10 ef ew1 ew1'
  go_wp2_with (refine at_store _ _ _ rfl ?_)
  refine Stop.to ?_
  refine wpList_store_part rfl 3 _ _ rfl L.M 6 rfl _ rfl [.int .i64 ((s.steps : Int) + 1)] rfl 68 _ _ r1 (by kernel_rfl) (by show 6 + 1 ≤ 11; omega) (by simp [Value.oneCell']) hput.out ?_
  intro W2 r2 o2
  have o12 : Only L.M W0 W2 := o1.trans o2
  have m2 : RR L s.tick ev0 W2 := Hm0.out.setM HL.out o12 r2 rfl rfl rfl Hs2.out (by simp [Ms.tick])
  have Hm2 := Lib.hid m2
  have HC2 : Hid (RChg L ev0 W0 ev0 W2) := RChg.only o12 (.inl rfl)
  have c2 := m2.row.cellv (i := 2) (v := .slice L.p.ba L.p.body.length L.p.bcap) rfl
  have hok2 := HL.out.pok W2 m2.core.im
  have Hok2 := Lib.hid hok2
  obtain ⟨ad, had, hc⟩ := nd_at hok2.brd Hroot.out
  have Hc := Lib.hid hc
  have Hb1 := Lib.hid m2.core.size
  have c2' := c2
  rw [had] at c2'
  clear m2 hok2 o12 o1 o2 r1 r2 c6 ew2 hput hsz c2 hc had
  go_wp2_with (first
    | (refine wpList_load_at rfl 44 _ rfl (ad.add (q * 2)) rfl (Nd.cells ⟨tag, nn⟩) _ Hc.out Try.underlying44 rfl (by kernel_rfl) ?_)
    | (refine at_alloc _ rfl ?_))
  refine Stop.to ?_
  refine wpList_alloc_gen rfl 44 rfl _ _ zero_node rfl ?_
  intro X W3 hX rX b3
  go_wp2_with (refine at_store _ _ _ rfl ?_)
  refine Stop.to ?_
  refine wpList_store_gen rfl 44 _ _ rfl X (Nd.cells ⟨tag, nn⟩).toArray rfl rfl 44 _ rX (by kernel_rfl) rfl (by simp [Nd.cells, Value.oneCell']) ?_
  intro W4 r4 o4
  have b34 : Below W2.heap.size W2 W4 := (b3.mono hX).trans (o4.below hX)
  have m4 := Hm2.out.below HL.out b34
  have hc4 : RChg L ev0 W0 ev0 W4 := HC2.out.trans (.below b34)
  have HX4 : Hid (FRow L ev0 W4 X 44 (Nd.cells ⟨tag, nn⟩).toArray) := ⟨Hm2.out.far_new hX r4.lt, r4⟩
  have c2 := m4.row.cellv (i := 2) (v := .slice L.p.ba L.p.body.length L.p.bcap) rfl
  have Hm4 := Lib.hid m4
  have HC4 := Lib.hid hc4
  have Hbr := Lib.hid (HL.out.pok W4 m4.core.im).brd
  clear b3 b34 o4 rX c2' hX Hc r4 m4 hc4 HC2 Hm2 Hok2 Hb1
  go_wp2_with fail
  refine (refKids_any L.p.ba L.p.bcap L.p.body (q : Int) W4 Hbr.out HL.out.blen).mono ?_
  rintro e W ⟨kv, rfl, hown, b5⟩
  have hm := Hm4.out.below HL.out b5
  have hkz : kidsZ L.p.body (q : Int) = natsI (spots (q + 1) [a, b]) := Hat.out.kidsZ
  rw [hkz, pos_len] at hown
  replace hown : W.ownsRow W4.heap.size 3 1 kv 2 (ints (natsI (spots (q + 1) [a, b]))) := hown
  obtain ⟨KA, kcap, rfl, hkr, hkc, hkn⟩ := frd_own Hm4.out hown
  have HK := Lib.hid hkr
  have Hm := Lib.hid hm
  have HX := Lib.hid (HX4.out.go HL.out (.below b5))
  have HC := Lib.hid (HC4.out.trans (.below b5))
  have x0 := HX.out.2.cellv (i := 0) (v := .int .i64 tag) rfl
  have x1 := HX.out.2.cellv (i := 1) (v := .int .i64 nn) rfl
  clear hown b5 hkr hm hkz Hm4 HX4 HC4 Hbr c2 Hm0 hql Hroot
  obtain rfl := Ht.out
  obtain ⟨q1, hq1, hat1⟩ := kid_at Hat.out (i := 0) (k := a) rfl
  have hck : ∃ kd, KA = some kd ∧ W.cell? (kd.add 0) = some (.int .i64 (q1 : Int)) := int_at (l := natsI _) HK.out.1 (by simp [natsI, hq1])
  obtain ⟨kd, rfl, hck⟩ := hck
  have hck' : W.cell? kd = some (.int .i64 (q1 : Int)) := hck
  have Hcall := Lib.hid (h1 q1 ev0 W hat1 Hm.out)
  clear hat1 hq1 h1
  go_wp2_with fail
  refine Hcall.out.mono ?_
  rintro e Wa ⟨rfl, eva, hma, hca⟩
  replace HX := Lib.hid (HX.out.go HL.out hca)
  replace HK := Lib.hid (HK.out.go HL.out hca)
  replace HC := Lib.hid (HC.out.trans hca)
  clear x0 x1 hck hck' Hm Hcall
  have Hm := Lib.hid hma
  have x0 := HX.out.2.cellv (i := 0) (v := .int .i64 22) rfl
  have x1 := HX.out.2.cellv (i := 1) (v := .int .i64 nn) rfl
  have c10 := hma.row.cellv (i := 10) (v := .bool s1.out.isSome) rfl
  rw [ho] at c10
  clear hma hca
  replace c10 : Wa.cell? ⟨L.M, 10, none⟩ = some (.bool false) := c10
  obtain ⟨q1, hq1, hat1⟩ := kid_at Hat.out (i := 1) (k := b) rfl
  have hck : ∃ kd', some kd = some kd' ∧ Wa.cell? (kd'.add 1) = some (.int .i64 (q1 : Int)) := int_at (l := natsI _) HK.out.1 (by simp [natsI, hq1])
  obtain ⟨kd', hkd, hck⟩ := hck
  injection hkd with hkd
  subst hkd
  have hck' : Wa.cell? ⟨kd.block, kd.off + 1, none⟩ = some (.int .i64 (q1 : Int)) := by simpa [Addr.add] using hck
  have Hcall := Lib.hid (h2 q1 eva Wa hat1 Hm.out)
  clear hat1 hq1 h2
  go_wp2_with fail
  refine Hcall.out.mono ?_
  rintro e Wb ⟨rfl, evb, hmb, hcb⟩
  replace HX := Lib.hid (HX.out.go HL.out hcb)
  replace HK := Lib.hid (HK.out.go HL.out hcb)
  replace HC := Lib.hid (HC.out.trans hcb)
  clear x0 x1 hck hck' c10 Hm Hcall
  have Hm := Lib.hid hmb
  have x0 := HX.out.2.cellv (i := 0) (v := .int .i64 22) rfl
  have x1 := HX.out.2.cellv (i := 1) (v := .int .i64 nn) rfl
  have c10 := hmb.row.cellv (i := 10) (v := .bool s2.out.isSome) rfl
  clear hmb hcb
  rw [ho2] at c10
  replace c10 : Wb.cell? ⟨L.M, 10, none⟩ = some (.bool false) := c10
  obtain ⟨n, rfl⟩ : ∃ n : Nat, nn = (n : Int) := ⟨nn.toNat, by have := Hn.out; omega⟩
  have hvt := Hv.out
  rw [Int.toNat_natCast] at hvt
  have hnl : n < L.ab.length := by rw [HL.out.alen]; exact (List.getElem?_eq_some_iff.1 hvt).1
  obtain ⟨gA, hgA⟩ : ∃ g, L.ab[n]? = some g := ⟨_, List.getElem?_eq_getElem hnl⟩
  obtain ⟨aA, t', hadA, ht', hcA⟩ := HL.out.arrs Wb Hm.out.core.im n gA hgA
  obtain ⟨ar, har⟩ : ∃ a, s2.arrs[n]? = some a := ⟨_, List.getElem?_eq_getElem (by rw [Hs.out.alen, ← HL.out.alen]; exact hnl)⟩
  have hax : s2.arr (n : Int) = ar := by unfold Ms.arr; rw [Int.toNat_natCast, har]; rfl
  have hsz : (sizeZ t').toNat = ar.length := by have := Hs.out.len n t' ar ht' har; omega
  have hrA := Hm.out.core.arrs n gA ar hgA har
  rw [hsz] at hcA
  have c4 := Hm.out.row.cellv (i := 4) (v := .slice L.aa L.ab.length L.acap) rfl
  rw [hadA] at c4
  have hnI : (n : Int) < (L.ab.length : Int) := by omega
  have Hax := Lib.hid hax
  have HgA := Lib.hid hgA
  have Har := Lib.hid har
  clear hvt hnl hadA ht' hsz hax hgA har
  have hb := Hb.out
  rw [Hax.out] at hb
  clear hrA
  by_cases h0 : v < 0
  · clear hb
    go_wp2_with fail
    go_quiet (fail)
    go_wp2_with fail
    refine (rStop_any L HL.out s2 evb 2 0 _ (Hm.out.drew HL.out _)).mono ?_
    rintro e Wc ⟨rfl, hmb, hcb⟩
    have Hm2 := Lib.hid hmb
    have HC2 := Lib.hid (HC.out.trans ((RChg.below ⟨rfl, rfl, rfl, Nat.le_refl _, fun _ _ => rfl⟩ : RChg L evb Wb evb (Wb.drewN nq)).trans hcb))
    clear hmb hcb Hm HC HX HK x0 x1 c10 c4 hcA
    go_wp2
    go_ret
    exact ⟨rfl, evb, by rw [← Hz.out]; exact Hm2.out, HC2.out⟩
  · have hb' : (ar.length : Int) ≤ v := by omega
    have h0' : 0 ≤ v := by omega
    clear hb h0
    go_wp2_with fail
    go_quiet (fail)
    go_wp2_with fail
    refine (rStop_any L HL.out s2 evb 2 0 _ (Hm.out.drew HL.out _)).mono ?_
    rintro e Wc ⟨rfl, hmb, hcb⟩
    have Hm2 := Lib.hid hmb
    have HC2 := Lib.hid (HC.out.trans ((RChg.below ⟨rfl, rfl, rfl, Nat.le_refl _, fun _ _ => rfl⟩ : RChg L evb Wb evb (Wb.drewN nq)).trans hcb))
    clear hmb hcb Hm HC HX HK x0 x1 c10 c4 hcA
    go_wp2
    go_ret
    exact ⟨rfl, evb, by rw [← Hz.out]; exact Hm2.out, HC2.out⟩
set_option maxRecDepth 100000 in
set_option maxHeartbeats 8000000 in
theorem rPut (L : Lay) (hL : ROk L) (x : Nd) (a b : Tr) (s s1 s2 : Ms) (v u t : Int) (hg : s.go) (ht : x.tag = 22) (hn : 0 ≤ x.n) (hv : L.p.V[x.n.toNat]? = some t) (hs : LenS L.p.V s2) (hf : s2.evs.length < s2.steps) (h1 : Ent L a s.tick v s1) (ho : s1.out = none) (h2 : Ent L b s1 u s2) (ho2 : s2.out = none) (hb : ¬ (v < 0 ∨ ((s2.arr x.n).length : Int) ≤ v)) : Ent L (.node x [a, b]) s 0 (s2.seta x.n v u) := by
  obtain ⟨i, rfl⟩ : ∃ i : Nat, v = (i : Int) := ⟨v.toNat, by omega⟩
  obtain ⟨tag, nn⟩ := x
  dsimp only at ht ⊢
  have Ht := Lib.hid ht
  clear ht
  have Hb := Lib.hid hb
  have Few := Lib.hid hf
  dsimp only at Hb
  clear hb hf
  dsimp only at hn hv
  have Hn := Lib.hid hn
  have Hv := Lib.hid hv
  have Hs := Lib.hid hs
  clear hn hv hs
  intro q ev0 W0 hat h
  have HL := Lib.hid hL
  have Hm0 := Lib.hid h
  have Hat := Lib.hid hat
  obtain ⟨f, hf⟩ : ∃ f, s.fuel = f + 1 := ⟨s.fuel - 1, by have := hg.2; omega⟩
  have c10 := h.row.cellv (i := 10) (v := .bool s.out.isSome) rfl
  have c5 := h.row.cellv (i := 5) (v := .int .i64 (s.fuel : Int)) rfl
  rw [hg.1] at c10
  rw [hf] at c5
  replace c10 : W0.cell? ⟨L.M, 10, none⟩ = some (.bool false) := c10
  replace c5 : W0.cell? ⟨L.M, 5, none⟩ = some (.int .i64 ((f : Int) + 1)) := c5
  have hsum := h.core.sum
  have hF := hL.F
  have ef : (((f : Int) + 1) == 0) = false := by simp; omega
  have ew1 : IntKind.i64.wrap ((f : Int) + 1 - 1) = (f : Int) := by rw [IntWalk.i64_in _ (by omega)]; omega
  have ew1' : IntKind.i64.wrap (f : Int) = (f : Int) := IntWalk.i64_in _ (by omega)
  have ew2 : IntKind.i64.wrap ((s.steps : Int) + 1) = (s.steps : Int) + 1 := IntWalk.i64_in _ (by omega)
  have hsum2 : s.tick.steps + s.tick.fuel = L.F := by simp only [Ms.tick]; omega
  have hput : Hid (putL (putL (L.rcells s ev0) 5 [.int .i64 (f : Int)]) 6 [.int .i64 ((s.steps : Int) + 1)] = L.rcells s.tick ev0) := by
    show _ = _
    simp only [Lay.rcells, Ms.tick, hf]; rfl
  have Hf := Lib.hid hf
  have Hs2 := Lib.hid hsum2
  have Hroot : Hid (L.p.body[q]? = some ⟨tag, nn⟩) := hat.root
  have hql : (q : Int) < (L.p.body.length : Int) := by have := hat.lt; omega
  have hsz : (L.rcells s ev0).size = 11 := rfl
  clear h hat hL hsum hF hf hsum2
  go_enter Try.func39, Try.ntmps39
  go_wp2_with (refine at_store _ _ _ rfl ?_)
  refine Stop.to ?_
  refine wpList_store_part rfl 3 _ _ rfl L.M 5 rfl _ rfl [.int .i64 (f : Int)] rfl 68 _ _ Hm0.out.row (by kernel_rfl) (by show 5 + 1 ≤ 11; omega) (by simp [Value.oneCell']) rfl ?_
  intro W1 r1 o1
  have c6 := r1.cellv (i := 6) (v := .int .i64 (s.steps : Int)) rfl
  clear c5 c10 ef ew1 ew1'
  go_wp2_with (refine at_store _ _ _ rfl ?_)
  refine Stop.to ?_
  refine wpList_store_part rfl 3 _ _ rfl L.M 6 rfl _ rfl [.int .i64 ((s.steps : Int) + 1)] rfl 68 _ _ r1 (by kernel_rfl) (by show 6 + 1 ≤ 11; omega) (by simp [Value.oneCell']) hput.out ?_
  intro W2 r2 o2
  have o12 : Only L.M W0 W2 := o1.trans o2
  have m2 : RR L s.tick ev0 W2 := Hm0.out.setM HL.out o12 r2 rfl rfl rfl Hs2.out (by simp [Ms.tick])
  have Hm2 := Lib.hid m2
  have HC2 : Hid (RChg L ev0 W0 ev0 W2) := RChg.only o12 (.inl rfl)
  have c2 := m2.row.cellv (i := 2) (v := .slice L.p.ba L.p.body.length L.p.bcap) rfl
  have hok2 := HL.out.pok W2 m2.core.im
  have Hok2 := Lib.hid hok2
  obtain ⟨ad, had, hc⟩ := nd_at hok2.brd Hroot.out
  have Hc := Lib.hid hc
  have Hb1 := Lib.hid m2.core.size
  have c2' := c2
  rw [had] at c2'
  clear m2 hok2 o12 o1 o2 r1 r2 c6 ew2 hput hsz c2 hc had
  go_wp2_with (first
    | (refine wpList_load_at rfl 44 _ rfl (ad.add (q * 2)) rfl (Nd.cells ⟨tag, nn⟩) _ Hc.out Try.underlying44 rfl (by kernel_rfl) ?_)
    | (refine at_alloc _ rfl ?_))
  refine Stop.to ?_
  refine wpList_alloc_gen rfl 44 rfl _ _ zero_node rfl ?_
  intro X W3 hX rX b3
  go_wp2_with (refine at_store _ _ _ rfl ?_)
  refine Stop.to ?_
  refine wpList_store_gen rfl 44 _ _ rfl X (Nd.cells ⟨tag, nn⟩).toArray rfl rfl 44 _ rX (by kernel_rfl) rfl (by simp [Nd.cells, Value.oneCell']) ?_
  intro W4 r4 o4
  have b34 : Below W2.heap.size W2 W4 := (b3.mono hX).trans (o4.below hX)
  have m4 := Hm2.out.below HL.out b34
  have hc4 : RChg L ev0 W0 ev0 W4 := HC2.out.trans (.below b34)
  have HX4 : Hid (FRow L ev0 W4 X 44 (Nd.cells ⟨tag, nn⟩).toArray) := ⟨Hm2.out.far_new hX r4.lt, r4⟩
  have c2 := m4.row.cellv (i := 2) (v := .slice L.p.ba L.p.body.length L.p.bcap) rfl
  have Hm4 := Lib.hid m4
  have HC4 := Lib.hid hc4
  have Hbr := Lib.hid (HL.out.pok W4 m4.core.im).brd
  clear b3 b34 o4 rX c2' hX Hc r4 m4 hc4 HC2 Hm2 Hok2 Hb1
  go_wp2_with fail
  refine (refKids_any L.p.ba L.p.bcap L.p.body (q : Int) W4 Hbr.out HL.out.blen).mono ?_
  rintro e W ⟨kv, rfl, hown, b5⟩
  have hm := Hm4.out.below HL.out b5
  have hkz : kidsZ L.p.body (q : Int) = natsI (spots (q + 1) [a, b]) := Hat.out.kidsZ
  rw [hkz, pos_len] at hown
  replace hown : W.ownsRow W4.heap.size 3 1 kv 2 (ints (natsI (spots (q + 1) [a, b]))) := hown
  obtain ⟨KA, kcap, rfl, hkr, hkc, hkn⟩ := frd_own Hm4.out hown
  have HK := Lib.hid hkr
  have Hm := Lib.hid hm
  have HX := Lib.hid (HX4.out.go HL.out (.below b5))
  have HC := Lib.hid (HC4.out.trans (.below b5))
  have x0 := HX.out.2.cellv (i := 0) (v := .int .i64 tag) rfl
  have x1 := HX.out.2.cellv (i := 1) (v := .int .i64 nn) rfl
  clear hown b5 hkr hm hkz Hm4 HX4 HC4 Hbr c2 Hm0 hql Hroot
  obtain rfl := Ht.out
  obtain ⟨q1, hq1, hat1⟩ := kid_at Hat.out (i := 0) (k := a) rfl
  have hck : ∃ kd, KA = some kd ∧ W.cell? (kd.add 0) = some (.int .i64 (q1 : Int)) := int_at (l := natsI _) HK.out.1 (by simp [natsI, hq1])
  obtain ⟨kd, rfl, hck⟩ := hck
  have hck' : W.cell? kd = some (.int .i64 (q1 : Int)) := hck
  have Hcall := Lib.hid (h1 q1 ev0 W hat1 Hm.out)
  clear hat1 hq1 h1
  go_wp2_with fail
  refine Hcall.out.mono ?_
  rintro e Wa ⟨rfl, eva, hma, hca⟩
  replace HX := Lib.hid (HX.out.go HL.out hca)
  replace HK := Lib.hid (HK.out.go HL.out hca)
  replace HC := Lib.hid (HC.out.trans hca)
  clear x0 x1 hck hck' Hm Hcall
  have Hm := Lib.hid hma
  have x0 := HX.out.2.cellv (i := 0) (v := .int .i64 22) rfl
  have x1 := HX.out.2.cellv (i := 1) (v := .int .i64 nn) rfl
  have c10 := hma.row.cellv (i := 10) (v := .bool s1.out.isSome) rfl
  rw [ho] at c10
  clear hma hca
  replace c10 : Wa.cell? ⟨L.M, 10, none⟩ = some (.bool false) := c10
  obtain ⟨q1, hq1, hat1⟩ := kid_at Hat.out (i := 1) (k := b) rfl
  have hck : ∃ kd', some kd = some kd' ∧ Wa.cell? (kd'.add 1) = some (.int .i64 (q1 : Int)) := int_at (l := natsI _) HK.out.1 (by simp [natsI, hq1])
  obtain ⟨kd', hkd, hck⟩ := hck
  injection hkd with hkd
  subst hkd
  have hck' : Wa.cell? ⟨kd.block, kd.off + 1, none⟩ = some (.int .i64 (q1 : Int)) := by simpa [Addr.add] using hck
  have Hcall := Lib.hid (h2 q1 eva Wa hat1 Hm.out)
  clear hat1 hq1 h2
  go_wp2_with fail
  refine Hcall.out.mono ?_
  rintro e Wb ⟨rfl, evb, hmb, hcb⟩
  replace HX := Lib.hid (HX.out.go HL.out hcb)
  replace HK := Lib.hid (HK.out.go HL.out hcb)
  replace HC := Lib.hid (HC.out.trans hcb)
  clear x0 x1 hck hck' c10 Hm Hcall
  have Hm := Lib.hid hmb
  have x0 := HX.out.2.cellv (i := 0) (v := .int .i64 22) rfl
  have x1 := HX.out.2.cellv (i := 1) (v := .int .i64 nn) rfl
  have c10 := hmb.row.cellv (i := 10) (v := .bool s2.out.isSome) rfl
  clear hmb hcb
  rw [ho2] at c10
  replace c10 : Wb.cell? ⟨L.M, 10, none⟩ = some (.bool false) := c10
  obtain ⟨n, rfl⟩ : ∃ n : Nat, nn = (n : Int) := ⟨nn.toNat, by have := Hn.out; omega⟩
  have hvt := Hv.out
  rw [Int.toNat_natCast] at hvt
  have hnl : n < L.ab.length := by rw [HL.out.alen]; exact (List.getElem?_eq_some_iff.1 hvt).1
  obtain ⟨gA, hgA⟩ : ∃ g, L.ab[n]? = some g := ⟨_, List.getElem?_eq_getElem hnl⟩
  obtain ⟨aA, t', hadA, ht', hcA⟩ := HL.out.arrs Wb Hm.out.core.im n gA hgA
  obtain ⟨ar, har⟩ : ∃ a, s2.arrs[n]? = some a := ⟨_, List.getElem?_eq_getElem (by rw [Hs.out.alen, ← HL.out.alen]; exact hnl)⟩
  have hax : s2.arr (n : Int) = ar := by unfold Ms.arr; rw [Int.toNat_natCast, har]; rfl
  have hsz : (sizeZ t').toNat = ar.length := by have := Hs.out.len n t' ar ht' har; omega
  have hrA := Hm.out.core.arrs n gA ar hgA har
  rw [hsz] at hcA
  have c4 := Hm.out.row.cellv (i := 4) (v := .slice L.aa L.ab.length L.acap) rfl
  rw [hadA] at c4
  have hnI : (n : Int) < (L.ab.length : Int) := by omega
  have Hax := Lib.hid hax
  have HgA := Lib.hid hgA
  have Har := Lib.hid har
  clear hvt hnl hadA ht' hsz hax hgA har
  have hb := Hb.out
  rw [Hax.out] at hb
  have hil : i < ar.length := by omega
  have hiI : (i : Int) < (ar.length : Int) := by omega
  have hi0 : ¬ (i : Int) < 0 := by omega
  have Hil := Lib.hid hil
  clear hb hrA hil
  go_wp2_with fail
  go_quiet (fail)
  have hcq : RChg L evb Wb evb (Wb.drewN nq) := .below ⟨rfl, rfl, rfl, Nat.le_refl _, fun _ _ => rfl⟩
  replace c4 : (Wb.drewN nq).cell? _ = _ := c4
  replace hcA : (Wb.drewN nq).cell? _ = _ := hcA
  replace x1 : (Wb.drewN nq).cell? _ = _ := x1
  replace Hm := Lib.hid (Hm.out.drew HL.out nq)
  replace HX := Lib.hid (HX.out.go HL.out hcq)
  replace HC := Lib.hid (HC.out.trans hcq)
  clear hcq x0 c10 HK
  generalize Wb.drewN nq = Wq at *
  go_wp2_with fail
  refine region_still_tail 11 (by kernel_rfl) (by kernel_rfl) ?_
  simp only [List.take_succ_cons, List.take_zero, List.drop_succ_cons, List.drop_zero]
  have key : ∀ a u, Wq.cell? a = some u → Wq.drew.cell? a = some u := fun _ _ h => h
  replace c4 := key _ _ c4
  replace x1 := key _ _ x1
  replace hcA := key _ _ hcA
  have hcq : RChg L evb Wq evb Wq.drew := .below ⟨rfl, rfl, rfl, Nat.le_refl _, fun _ _ => rfl⟩
  replace Hm : Hid (RR L s2 evb Wq.drew) := Lib.hid (Hm.out.drew HL.out 1)
  replace HX := Lib.hid (HX.out.go HL.out hcq)
  replace HC := Lib.hid (HC.out.trans hcq)
  clear key hcq
  generalize Wq.drew = Wd at *
  repeat still_step
  refine wpStill_nil ?_
  obtain ⟨hr', hset⟩ := Hm.out.setArr HL.out n i u ar gA HgA.out Har.out
  have hput := putL_one (ints ar).toArray i (.int .i64 u) (by simp [ints]; exact Hil.out)
  go_wp2_with (refine at_store _ _ _ rfl ?_)
  refine Stop.to ?_
  refine wpList_store_part rfl 3 _ _ rfl gA i rfl _ rfl [.int .i64 u] rfl 3 _ _ hr' (by kernel_rfl) (by have := Hil.out; simp [ints]; omega) (by simp [Value.oneCell']) hput ?_
  intro We re oe
  obtain ⟨hme, hce⟩ := hset We oe re
  replace HX := Lib.hid (HX.out.go HL.out hce)
  have x1 := HX.out.2.cellv (i := 1) (v := .int .i64 (n : Int)) rfl
  have Hm2 := Lib.hid hme
  have HC2 := Lib.hid (HC.out.trans hce)
  clear hme hce re oe hset hr' hput c4 hcA HC Hm
  go_wp2_with fail
  refine Calls.mono (rStore_any L HL.out _ (s2.seta (n : Int) (i : Int) u) evb (n : Int) (i : Int) u We Hm2.out rfl (by simp only [Ms.seta, Hax.out]; rfl) rfl rfl rfl Few.out rfl) ?_
  rintro e Wf ⟨⟨u', rfl⟩, evf, hmf, hcf⟩
  have Hm3 := Lib.hid hmf
  have HC3 := Lib.hid (HC2.out.trans hcf)
  clear hmf hcf Hm2 HC2 HX x1
  go_wp2
  go_ret
  exact ⟨rfl, evf, Hm3.out, HC3.out⟩
end Go.Proofs.Ytlglilmgklipdaa
