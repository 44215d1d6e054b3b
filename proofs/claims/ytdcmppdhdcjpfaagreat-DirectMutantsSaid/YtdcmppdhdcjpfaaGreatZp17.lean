/- Lemmas for DirectMutantsP. -/
import Derived.Test.YtdcmppdhdcjpfaaGreatZp1
import Derived.Test.YtdcmppdhdcjpfaaGreatZp16
set_option linter.unusedVariables false
set_option linter.unusedSimpArgs false
set_option maxRecDepth 100000
set_option maxHeartbeats 16000000
namespace Go.Proofs.YtdcmppdhdcjpfaaGreat
open Go.RowKit Go.Deep
theorem AfD (L : Lay) (hL : DOk L) (t : Tr) (s : Ms) (v : Int) (h0 : s.fuel = 0) : EntD L t s v (s.stop 4 0) := by
 intro q ev0 W00 hat h
 have HL := Lh hL
 have hsum := h.sum
 have hd : L.F ≤ s.steps := by omega
 have c2 := h.row.cellv (i := 2) (v := .int .i64 (L.F : Int)) rfl
 have c5 := h.row.cellv (i := 5) (v := .int .i64 (s.steps : Int)) rfl
 have Hm00 := Lh h
 clear h hat hL hsum h0
 go_enter Tryz.func119, Tryz.ntmps119
 go_wp2_with fail
 go_quiet (fail)
 go_wp2_with fail
 refine (XE _ _ _).mono ?_
 rintro e w' ⟨rfl, rfl⟩
 simp only [QV]
 clear c2 c5
 go_wp2
 exact ⟨rfl, rfl, ev0, (Hm00.out.drew HL.out _).stop _ _, .below ⟨rfl, rfl, rfl, Nat.le_refl _, fun _ _ => rfl⟩⟩
theorem Agz (L : Lay) (hL : DOk L) (x : Nd) (s : Ms) (hg : s.go) (ht : x.tag = 1 ∨ x.tag = 2) : EntD L (.node x []) s x.n s.tick := by
 obtain ⟨tag, nn⟩ := x
 dsimp only at ht ⊢
 have Ht := Lh ht
 clear ht
 intro q ev0 W00 hat h
 have HL := Lh hL
 have Hat := Lh hat
 have hF := hL.F
 have hsum := h.sum
 have hbl := hL.blen
 have hql : q < L.p.body.length := hat.lt
 have hd : ¬ L.F ≤ s.steps := by have := hg.2; omega
 have ews : IntKind.i64.wrap ((s.steps : Int) + 1) = (s.steps : Int) + 1 := IntWalk.i64_in _ (by omega)
 have ewq : IntKind.i64.wrap ((q : Int) + 1) = (q : Int) + 1 := IntWalk.i64_in _ (by omega)
 have Hqb : Hid ((q : Int) < (L.p.body.length : Int)) := by show (q : Int) < _; omega
 have Hs2 : Hid (s.tick.steps + s.tick.fuel = L.F) := by show _ = _; have := hg.2; simp only [Ms.tick]; omega
 have Hroot : Hid (L.p.body[q]? = some ⟨tag, nn⟩) := hat.root
 have c2 := h.row.cellv (i := 2) (v := .int .i64 (L.F : Int)) rfl
 have c5 := h.row.cellv (i := 5) (v := .int .i64 (s.steps : Int)) rfl
 have Hm00 := Lh h
 have Hg := Lh hg
 clear h hat hL hF hsum hbl hql hg
 go_enter Tryz.func119, Tryz.ntmps119
 go_wp2_with fail
 go_quiet (fail)
 obtain ⟨W0, hW0⟩ : ∃ W0, W0 = W00.drewN nq := ⟨_, rfl⟩
 rw [← hW0]
 have hm0 : DR L s ev0 W0 := by rw [hW0]; exact Hm00.out.drew HL.out _
 have hc0 : RChg L ev0 W00 ev0 W0 := by rw [hW0]; exact .below ⟨rfl, rfl, rfl, Nat.le_refl _, fun _ _ => rfl⟩
 have Hm0 := Lh hm0
 have HC0 := Lh hc0
 replace c5 := hm0.row.cellv (i := 5) (v := .int .i64 (s.steps : Int)) rfl
 clear hm0 hc0 hW0 c2 Hm00 hd
 go_wp2_with (refine Ql _ _ _ rfl ?_)
 refine Stop.to ?_
 refine Qk rfl 3 _ _ rfl L.M 5 rfl _ rfl [.int .i64 ((s.steps : Int) + 1)] rfl 108 _ (L.dcells s.tick ev0) Hm0.out.row (by kernel_rfl) (by show 5 + 1 ≤ 7; omega) (by simp [Value.oneCell']) rfl ?_
 intro W2 r2 o2
 have m2 : DR L s.tick ev0 W2 := Hm0.out.setM HL.out o2 r2 rfl rfl rfl Hs2.out (by simp [Ms.tick])
 have Hm2 := Lh m2
 have HC2 : Hid (RChg L ev0 W00 ev0 W2) := HC0.out.trans (RChg.only o2 (.inl rfl))
 have c0 := m2.row.cellv (i := 0) (v := .slice L.p.ba L.p.body.length L.p.bcap) rfl
 have hok2 := HL.out.pok W2 m2.im
 obtain ⟨ad, had, hc⟩ := QS hok2.brd Hroot.out
 have Hc := Lh hc
 have hqb := Hqb.out
 rw [had] at c0
 clear m2 hok2 r2 o2 c5 ews hc had Hm0 HC0
 go_wp2_with (first
  | (refine Qo rfl 85 _ rfl (ad.add (q * 2)) rfl (Nd.cells ⟨tag, nn⟩) _ Hc.out Tryz.underlying85 rfl (by kernel_rfl) ?_)
  | (refine Qy _ rfl ?_))
 refine Stop.to ?_
 refine Qi rfl 85 rfl _ _ QZ rfl ?_
 intro X W3 hX rX b3
 go_wp2_with (refine Ql _ _ _ rfl ?_)
 refine Stop.to ?_
 refine Qj rfl 85 _ _ rfl X (Nd.cells ⟨tag, nn⟩).toArray rfl rfl 85 _ rX (by kernel_rfl) rfl (by simp [Nd.cells, Value.oneCell']) ?_
 intro W r4 o4
 have b34 : Below W2.heap.size W2 W := (b3.mono hX).trans (o4.below hX)
 have m4 := Hm2.out.below HL.out b34
 have hc4 : RChg L ev0 W00 ev0 W := HC2.out.trans (.below b34)
 have HX : Hid (FRow L ev0 W X 85 #[.int .i64 tag, .int .i64 nn]) := ⟨Hm2.out.far_new hX r4.lt, r4⟩
 have x0 := r4.cellv (i := 0) (v := .int .i64 tag) rfl
 have x1 := r4.cellv (i := 1) (v := .int .i64 nn) rfl
 have Hm := Lh m4
 have HC := Lh hc4
 clear b3 b34 o4 rX c0 hX Hc r4 m4 hc4 HC2 Hm2 hqb Hqb Hroot Hs2
 rcases Ht.out with rfl | rfl
 · go_wp2
   go_ret
   exact ⟨(QA (s := s.tick) Hg.out.1).symm, ev0, Hm.out, HC.out⟩
 · go_wp2
   go_ret
   exact ⟨(QA (s := s.tick) Hg.out.1).symm, ev0, Hm.out, HC.out⟩
theorem AgB (L : Lay) (hL : DOk L) (x : Nd) (s : Ms) (ty : Int) (hg : s.go) (ht : x.tag = 3) (hn : 0 ≤ x.n) (hV : L.p.V[x.n.toNat]? = some ty) (hz : Qx ty = 0) (hlen : s.vals.length = L.p.V.length) : EntD L (.node x []) s ((s.vals[x.n.toNat]?).getD 0) s.tick := by
 obtain ⟨tag, nn⟩ := x
 dsimp only at ht ⊢
 have Ht := Lh ht
 clear ht
 dsimp only at hn hV ⊢
 obtain ⟨n, rfl⟩ : ∃ n : Nat, nn = (n : Int) := ⟨nn.toNat, by omega⟩
 rw [Int.toNat_natCast] at hV ⊢
 have hnl : n < s.vals.length := by rw [hlen]; exact (List.getElem?_eq_some_iff.1 hV).1
 obtain ⟨v, hv⟩ : ∃ v, s.vals[n]? = some v := ⟨_, List.getElem?_eq_getElem hnl⟩
 rw [hv, Option.getD_some]
 have Hv : Hid (s.tick.vals[n]? = some v) := hv
 have HV := Lh hV
 have Hz := Lh hz
 generalize hnn : (n : Int) = nn
 have Hnn := Lh hnn
 clear hv hV hz hnn hlen hnl hn
 intro q ev0 W00 hat h
 have HL := Lh hL
 have Hat := Lh hat
 have hF := hL.F
 have hsum := h.sum
 have hbl := hL.blen
 have hql : q < L.p.body.length := hat.lt
 have hd : ¬ L.F ≤ s.steps := by have := hg.2; omega
 have ews : IntKind.i64.wrap ((s.steps : Int) + 1) = (s.steps : Int) + 1 := IntWalk.i64_in _ (by omega)
 have ewq : IntKind.i64.wrap ((q : Int) + 1) = (q : Int) + 1 := IntWalk.i64_in _ (by omega)
 have Hqb : Hid ((q : Int) < (L.p.body.length : Int)) := by show (q : Int) < _; omega
 have Hs2 : Hid (s.tick.steps + s.tick.fuel = L.F) := by show _ = _; have := hg.2; simp only [Ms.tick]; omega
 have Hroot : Hid (L.p.body[q]? = some ⟨tag, nn⟩) := hat.root
 have c2 := h.row.cellv (i := 2) (v := .int .i64 (L.F : Int)) rfl
 have c5 := h.row.cellv (i := 5) (v := .int .i64 (s.steps : Int)) rfl
 have Hm00 := Lh h
 have Hg := Lh hg
 clear h hat hL hF hsum hbl hql hg
 go_enter Tryz.func119, Tryz.ntmps119
 go_wp2_with fail
 go_quiet (fail)
 obtain ⟨W0, hW0⟩ : ∃ W0, W0 = W00.drewN nq := ⟨_, rfl⟩
 rw [← hW0]
 have hm0 : DR L s ev0 W0 := by rw [hW0]; exact Hm00.out.drew HL.out _
 have hc0 : RChg L ev0 W00 ev0 W0 := by rw [hW0]; exact .below ⟨rfl, rfl, rfl, Nat.le_refl _, fun _ _ => rfl⟩
 have Hm0 := Lh hm0
 have HC0 := Lh hc0
 replace c5 := hm0.row.cellv (i := 5) (v := .int .i64 (s.steps : Int)) rfl
 clear hm0 hc0 hW0 c2 Hm00 hd
 go_wp2_with (refine Ql _ _ _ rfl ?_)
 refine Stop.to ?_
 refine Qk rfl 3 _ _ rfl L.M 5 rfl _ rfl [.int .i64 ((s.steps : Int) + 1)] rfl 108 _ (L.dcells s.tick ev0) Hm0.out.row (by kernel_rfl) (by show 5 + 1 ≤ 7; omega) (by simp [Value.oneCell']) rfl ?_
 intro W2 r2 o2
 have m2 : DR L s.tick ev0 W2 := Hm0.out.setM HL.out o2 r2 rfl rfl rfl Hs2.out (by simp [Ms.tick])
 have Hm2 := Lh m2
 have HC2 : Hid (RChg L ev0 W00 ev0 W2) := HC0.out.trans (RChg.only o2 (.inl rfl))
 have c0 := m2.row.cellv (i := 0) (v := .slice L.p.ba L.p.body.length L.p.bcap) rfl
 have hok2 := HL.out.pok W2 m2.im
 obtain ⟨ad, had, hc⟩ := QS hok2.brd Hroot.out
 have Hc := Lh hc
 have hqb := Hqb.out
 rw [had] at c0
 clear m2 hok2 r2 o2 c5 ews hc had Hm0 HC0
 go_wp2_with (first
  | (refine Qo rfl 85 _ rfl (ad.add (q * 2)) rfl (Nd.cells ⟨tag, nn⟩) _ Hc.out Tryz.underlying85 rfl (by kernel_rfl) ?_)
  | (refine Qy _ rfl ?_))
 refine Stop.to ?_
 refine Qi rfl 85 rfl _ _ QZ rfl ?_
 intro X W3 hX rX b3
 go_wp2_with (refine Ql _ _ _ rfl ?_)
 refine Stop.to ?_
 refine Qj rfl 85 _ _ rfl X (Nd.cells ⟨tag, nn⟩).toArray rfl rfl 85 _ rX (by kernel_rfl) rfl (by simp [Nd.cells, Value.oneCell']) ?_
 intro W r4 o4
 have b34 : Below W2.heap.size W2 W := (b3.mono hX).trans (o4.below hX)
 have m4 := Hm2.out.below HL.out b34
 have hc4 : RChg L ev0 W00 ev0 W := HC2.out.trans (.below b34)
 have HX : Hid (FRow L ev0 W X 85 #[.int .i64 tag, .int .i64 nn]) := ⟨Hm2.out.far_new hX r4.lt, r4⟩
 have x0 := r4.cellv (i := 0) (v := .int .i64 tag) rfl
 have x1 := r4.cellv (i := 1) (v := .int .i64 nn) rfl
 have Hm := Lh m4
 have HC := Lh hc4
 clear b3 b34 o4 rX c0 hX Hc r4 m4 hc4 HC2 Hm2 hqb Hqb Hroot Hs2
 obtain rfl := Ht.out
 have hcall := AfH L HL.out s.tick ev0 n ty 0 v W Hm.out HV.out Hz.out Hv.out
 rw [Hnn.out] at hcall
 have Hcall := Lh hcall
 clear hcall
 go_wp2_with fail
 refine Hcall.out.mono ?_
 rintro e Wa ⟨rfl, ba⟩
 have Hm2 := Lh (Hm.out.below HL.out ba)
 have hcb : RChg L ev0 W ev0 Wa := RChg.below ba
 have HC2 := Lh (HC.out.trans hcb)
 clear ba hcb Hcall x0 x1 HX Hm HC
 go_wp2
 go_ret
 exact ⟨(QA (s := s.tick) Hg.out.1).symm, ev0, Hm2.out, HC2.out⟩
theorem AfL (L : Lay) (hL : DOk L) (x : Nd) (a : Tr) (ks : List Tr) (s t1 : Ms) (v u : Int) (hg : s.go) (ht : x.tag = 4) (h1 : EntD L a s.tick v t1) (ho : t1.out.isSome = true) : EntD L (.node x (a :: ks)) s u t1 := by
 obtain ⟨tag, nn⟩ := x
 dsimp only at ht ⊢
 have Ht := Lh ht
 clear ht
 intro q ev0 W00 hat h
 have HL := Lh hL
 have Hat := Lh hat
 have hF := hL.F
 have hsum := h.sum
 have hbl := hL.blen
 have hql : q < L.p.body.length := hat.lt
 have hd : ¬ L.F ≤ s.steps := by have := hg.2; omega
 have ews : IntKind.i64.wrap ((s.steps : Int) + 1) = (s.steps : Int) + 1 := IntWalk.i64_in _ (by omega)
 have ewq : IntKind.i64.wrap ((q : Int) + 1) = (q : Int) + 1 := IntWalk.i64_in _ (by omega)
 have Hqb : Hid ((q : Int) < (L.p.body.length : Int)) := by show (q : Int) < _; omega
 have Hs2 : Hid (s.tick.steps + s.tick.fuel = L.F) := by show _ = _; have := hg.2; simp only [Ms.tick]; omega
 have Hroot : Hid (L.p.body[q]? = some ⟨tag, nn⟩) := hat.root
 have c2 := h.row.cellv (i := 2) (v := .int .i64 (L.F : Int)) rfl
 have c5 := h.row.cellv (i := 5) (v := .int .i64 (s.steps : Int)) rfl
 have Hm00 := Lh h
 have Hg := Lh hg
 clear h hat hL hF hsum hbl hql hg
 go_enter Tryz.func119, Tryz.ntmps119
 go_wp2_with fail
 go_quiet (fail)
 obtain ⟨W0, hW0⟩ : ∃ W0, W0 = W00.drewN nq := ⟨_, rfl⟩
 rw [← hW0]
 have hm0 : DR L s ev0 W0 := by rw [hW0]; exact Hm00.out.drew HL.out _
 have hc0 : RChg L ev0 W00 ev0 W0 := by rw [hW0]; exact .below ⟨rfl, rfl, rfl, Nat.le_refl _, fun _ _ => rfl⟩
 have Hm0 := Lh hm0
 have HC0 := Lh hc0
 replace c5 := hm0.row.cellv (i := 5) (v := .int .i64 (s.steps : Int)) rfl
 clear hm0 hc0 hW0 c2 Hm00 hd
 go_wp2_with (refine Ql _ _ _ rfl ?_)
 refine Stop.to ?_
 refine Qk rfl 3 _ _ rfl L.M 5 rfl _ rfl [.int .i64 ((s.steps : Int) + 1)] rfl 108 _ (L.dcells s.tick ev0) Hm0.out.row (by kernel_rfl) (by show 5 + 1 ≤ 7; omega) (by simp [Value.oneCell']) rfl ?_
 intro W2 r2 o2
 have m2 : DR L s.tick ev0 W2 := Hm0.out.setM HL.out o2 r2 rfl rfl rfl Hs2.out (by simp [Ms.tick])
 have Hm2 := Lh m2
 have HC2 : Hid (RChg L ev0 W00 ev0 W2) := HC0.out.trans (RChg.only o2 (.inl rfl))
 have c0 := m2.row.cellv (i := 0) (v := .slice L.p.ba L.p.body.length L.p.bcap) rfl
 have hok2 := HL.out.pok W2 m2.im
 obtain ⟨ad, had, hc⟩ := QS hok2.brd Hroot.out
 have Hc := Lh hc
 have hqb := Hqb.out
 rw [had] at c0
 clear m2 hok2 r2 o2 c5 ews hc had Hm0 HC0
 go_wp2_with (first
  | (refine Qo rfl 85 _ rfl (ad.add (q * 2)) rfl (Nd.cells ⟨tag, nn⟩) _ Hc.out Tryz.underlying85 rfl (by kernel_rfl) ?_)
  | (refine Qy _ rfl ?_))
 refine Stop.to ?_
 refine Qi rfl 85 rfl _ _ QZ rfl ?_
 intro X W3 hX rX b3
 go_wp2_with (refine Ql _ _ _ rfl ?_)
 refine Stop.to ?_
 refine Qj rfl 85 _ _ rfl X (Nd.cells ⟨tag, nn⟩).toArray rfl rfl 85 _ rX (by kernel_rfl) rfl (by simp [Nd.cells, Value.oneCell']) ?_
 intro W r4 o4
 have b34 : Below W2.heap.size W2 W := (b3.mono hX).trans (o4.below hX)
 have m4 := Hm2.out.below HL.out b34
 have hc4 : RChg L ev0 W00 ev0 W := HC2.out.trans (.below b34)
 have HX : Hid (FRow L ev0 W X 85 #[.int .i64 tag, .int .i64 nn]) := ⟨Hm2.out.far_new hX r4.lt, r4⟩
 have x0 := r4.cellv (i := 0) (v := .int .i64 tag) rfl
 have x1 := r4.cellv (i := 1) (v := .int .i64 nn) rfl
 have Hm := Lh m4
 have HC := Lh hc4
 clear b3 b34 o4 rX c0 hX Hc r4 m4 hc4 HC2 Hm2 hqb Hqb Hroot Hs2
 obtain rfl := Ht.out
 have hcall := EntD.at1 h1 Hat.out.kids.head (Hm.out.drew1 HL.out)
 go_wp2_with fail
 refine wp_region_held (S := fun W => Row W X 85 #[.int .i64 4, .int .i64 nn]) (by kernel_rfl) ?_
 simp only [List.size_toArray, List.length_cons, List.length_nil, Nat.reduceAdd, Array.replicate_succ, Array.replicate_zero, List.push_toArray, List.nil_append, List.cons_append]
 show wpAnyH _ _ _ _ _ _ _ _ W.drew
 have hS : Row W.drew X 85 #[.int .i64 4, .int .i64 nn] := HX.out.2
 (refine tkH 0 (.pointer (some ⟨L.M, 0, none⟩)) rfl (Qd rfl (fun W hW => by (go_simp))) ?_; simp only [Act.put, Qa, Qb, Qc])
 (refine tkH 1 (.pointer (some ⟨X, 1, none⟩)) rfl (Qd rfl (fun W hW => by (go_simp))) ?_; simp only [Act.put, Qa, Qb, Qc])
 (refine tkH 2 (.int .i64 nn) rfl (Qd rfl (fun W hW => by ((have h := hW.cellv (i := 1) (v := .int .i64 nn) rfl; go_simp)))) ?_; simp only [Act.put, Qa, Qb, Qc])
 (refine tkH 3 (.pointer (some ⟨L.M, 0, none⟩)) rfl (Qd rfl (fun W hW => by (go_simp))) ?_; simp only [Act.put, Qa, Qb, Qc])
 (refine tkH 4 (.int .i64 (q : Int)) rfl (Qd rfl (fun W hW => by (go_simp))) ?_; simp only [Act.put, Qa, Qb, Qc])
 (refine tkH 5 (.int .i64 ((q : Int) + 1)) rfl (Qd rfl (fun W hW => by (go_simp; try exact ewq))) ?_; simp only [Act.put, Qa, Qb, Qc])
 (refine wpAnyH_all (rs := [6]) (by kernel_rfl) (by simp) (fun i hi => ?_); obtain rfl : i = 6 := by simpa using hi)
 refine Qf rfl rfl (fun K2 hK2 => ?_)
 refine ZQ 119 #[.pointer (some ⟨L.M, 0, none⟩), .int .i64 ((q : Int) + 1)] (w1 := W.drew) (by go_simp) ?_
 refine hcall.mono ?_
 rintro e Wa ⟨rfl, eva, hma, hca⟩
 clear hcall
 have hcd : RChg L ev0 W ev0 W.drew := RChg.below ⟨rfl, rfl, rfl, Nat.le_refl _, fun _ _ => rfl⟩
 obtain ⟨⟨ok, ox⟩, hoo⟩ := Option.isSome_iff_exists.1 ho
 rw [QO hoo]
 simp only [QV]
 have HC2 := Lh (HC.out.trans (hcd.trans hca))
 have Hm2 := Lh hma
 have Hoo := Lh hoo
 clear hoo ho hma hca hcd
 go_wp2
 exact ⟨rfl, (QO Hoo.out).symm, eva, Hm2.out, HC2.out⟩
theorem Agn (L : Lay) (hL : DOk L) (x : Nd) (a : Tr) (s t1 : Ms) (v ty : Int) (hg : s.go) (ht : x.tag = 4) (h1 : EntD L a s.tick v t1) (ho : t1.out = none) (hn : 0 ≤ x.n) (hV : L.p.V[x.n.toNat]? = some ty) (hz : Qx ty ≠ 0) (hs : LenS L.p.V t1) (hb : v < 0 ∨ ((t1.arr x.n).length : Int) ≤ v) : EntD L (.node x [a]) s 0 (t1.stop 2 0) := by
 obtain ⟨tag, nn⟩ := x
 dsimp only at ht ⊢
 have Ht := Lh ht
 clear ht
 dsimp only at hn hV hb
 obtain ⟨n, rfl⟩ : ∃ n : Nat, nn = (n : Int) := ⟨nn.toNat, by omega⟩
 rw [Int.toNat_natCast] at hV
 have Hst : ∀ (ev : Value) (W : World), DR L t1 ev W → _ := fun ev W h => AeO L hL t1 ev n ty v W h hV hz hs hb
 generalize hnn : (n : Int) = nn at Hst
 have HSt := Lh Hst
 have Ho := Lh ho
 clear hnn hV hz hs hb ho hn Hst
 intro q ev0 W00 hat h
 have HL := Lh hL
 have Hat := Lh hat
 have hF := hL.F
 have hsum := h.sum
 have hbl := hL.blen
 have hql : q < L.p.body.length := hat.lt
 have hd : ¬ L.F ≤ s.steps := by have := hg.2; omega
 have ews : IntKind.i64.wrap ((s.steps : Int) + 1) = (s.steps : Int) + 1 := IntWalk.i64_in _ (by omega)
 have ewq : IntKind.i64.wrap ((q : Int) + 1) = (q : Int) + 1 := IntWalk.i64_in _ (by omega)
 have Hqb : Hid ((q : Int) < (L.p.body.length : Int)) := by show (q : Int) < _; omega
 have Hs2 : Hid (s.tick.steps + s.tick.fuel = L.F) := by show _ = _; have := hg.2; simp only [Ms.tick]; omega
 have Hroot : Hid (L.p.body[q]? = some ⟨tag, nn⟩) := hat.root
 have c2 := h.row.cellv (i := 2) (v := .int .i64 (L.F : Int)) rfl
 have c5 := h.row.cellv (i := 5) (v := .int .i64 (s.steps : Int)) rfl
 have Hm00 := Lh h
 have Hg := Lh hg
 clear h hat hL hF hsum hbl hql hg
 go_enter Tryz.func119, Tryz.ntmps119
 go_wp2_with fail
 go_quiet (fail)
 obtain ⟨W0, hW0⟩ : ∃ W0, W0 = W00.drewN nq := ⟨_, rfl⟩
 rw [← hW0]
 have hm0 : DR L s ev0 W0 := by rw [hW0]; exact Hm00.out.drew HL.out _
 have hc0 : RChg L ev0 W00 ev0 W0 := by rw [hW0]; exact .below ⟨rfl, rfl, rfl, Nat.le_refl _, fun _ _ => rfl⟩
 have Hm0 := Lh hm0
 have HC0 := Lh hc0
 replace c5 := hm0.row.cellv (i := 5) (v := .int .i64 (s.steps : Int)) rfl
 clear hm0 hc0 hW0 c2 Hm00 hd
 go_wp2_with (refine Ql _ _ _ rfl ?_)
 refine Stop.to ?_
 refine Qk rfl 3 _ _ rfl L.M 5 rfl _ rfl [.int .i64 ((s.steps : Int) + 1)] rfl 108 _ (L.dcells s.tick ev0) Hm0.out.row (by kernel_rfl) (by show 5 + 1 ≤ 7; omega) (by simp [Value.oneCell']) rfl ?_
 intro W2 r2 o2
 have m2 : DR L s.tick ev0 W2 := Hm0.out.setM HL.out o2 r2 rfl rfl rfl Hs2.out (by simp [Ms.tick])
 have Hm2 := Lh m2
 have HC2 : Hid (RChg L ev0 W00 ev0 W2) := HC0.out.trans (RChg.only o2 (.inl rfl))
 have c0 := m2.row.cellv (i := 0) (v := .slice L.p.ba L.p.body.length L.p.bcap) rfl
 have hok2 := HL.out.pok W2 m2.im
 obtain ⟨ad, had, hc⟩ := QS hok2.brd Hroot.out
 have Hc := Lh hc
 have hqb := Hqb.out
 rw [had] at c0
 clear m2 hok2 r2 o2 c5 ews hc had Hm0 HC0
 go_wp2_with (first
  | (refine Qo rfl 85 _ rfl (ad.add (q * 2)) rfl (Nd.cells ⟨tag, nn⟩) _ Hc.out Tryz.underlying85 rfl (by kernel_rfl) ?_)
  | (refine Qy _ rfl ?_))
 refine Stop.to ?_
 refine Qi rfl 85 rfl _ _ QZ rfl ?_
 intro X W3 hX rX b3
 go_wp2_with (refine Ql _ _ _ rfl ?_)
 refine Stop.to ?_
 refine Qj rfl 85 _ _ rfl X (Nd.cells ⟨tag, nn⟩).toArray rfl rfl 85 _ rX (by kernel_rfl) rfl (by simp [Nd.cells, Value.oneCell']) ?_
 intro W r4 o4
 have b34 : Below W2.heap.size W2 W := (b3.mono hX).trans (o4.below hX)
 have m4 := Hm2.out.below HL.out b34
 have hc4 : RChg L ev0 W00 ev0 W := HC2.out.trans (.below b34)
 have HX : Hid (FRow L ev0 W X 85 #[.int .i64 tag, .int .i64 nn]) := ⟨Hm2.out.far_new hX r4.lt, r4⟩
 have x0 := r4.cellv (i := 0) (v := .int .i64 tag) rfl
 have x1 := r4.cellv (i := 1) (v := .int .i64 nn) rfl
 have Hm := Lh m4
 have HC := Lh hc4
 clear b3 b34 o4 rX c0 hX Hc r4 m4 hc4 HC2 Hm2 hqb Hqb Hroot Hs2
 obtain rfl := Ht.out
 have hcall := EntD.at1 h1 Hat.out.kids.head (Hm.out.drew1 HL.out)
 go_wp2_with fail
 refine wp_region_held (S := fun W => Row W X 85 #[.int .i64 4, .int .i64 nn]) (by kernel_rfl) ?_
 simp only [List.size_toArray, List.length_cons, List.length_nil, Nat.reduceAdd, Array.replicate_succ, Array.replicate_zero, List.push_toArray, List.nil_append, List.cons_append]
 show wpAnyH _ _ _ _ _ _ _ _ W.drew
 have hS : Row W.drew X 85 #[.int .i64 4, .int .i64 nn] := HX.out.2
 (refine tkH 0 (.pointer (some ⟨L.M, 0, none⟩)) rfl (Qd rfl (fun W hW => by (go_simp))) ?_; simp only [Act.put, Qa, Qb, Qc])
 (refine tkH 1 (.pointer (some ⟨X, 1, none⟩)) rfl (Qd rfl (fun W hW => by (go_simp))) ?_; simp only [Act.put, Qa, Qb, Qc])
 (refine tkH 2 (.int .i64 nn) rfl (Qd rfl (fun W hW => by ((have h := hW.cellv (i := 1) (v := .int .i64 nn) rfl; go_simp)))) ?_; simp only [Act.put, Qa, Qb, Qc])
 (refine tkH 3 (.pointer (some ⟨L.M, 0, none⟩)) rfl (Qd rfl (fun W hW => by (go_simp))) ?_; simp only [Act.put, Qa, Qb, Qc])
 (refine tkH 4 (.int .i64 (q : Int)) rfl (Qd rfl (fun W hW => by (go_simp))) ?_; simp only [Act.put, Qa, Qb, Qc])
 (refine tkH 5 (.int .i64 ((q : Int) + 1)) rfl (Qd rfl (fun W hW => by (go_simp; try exact ewq))) ?_; simp only [Act.put, Qa, Qb, Qc])
 (refine wpAnyH_all (rs := [6]) (by kernel_rfl) (by simp) (fun i hi => ?_); obtain rfl : i = 6 := by simpa using hi)
 refine Qf rfl rfl (fun K2 hK2 => ?_)
 refine ZQ 119 #[.pointer (some ⟨L.M, 0, none⟩), .int .i64 ((q : Int) + 1)] (w1 := W.drew) (by go_simp) ?_
 refine hcall.mono ?_
 rintro e Wa ⟨rfl, eva, hma, hca⟩
 clear hcall
 have hcd : RChg L ev0 W ev0 W.drew := RChg.below ⟨rfl, rfl, rfl, Nat.le_refl _, fun _ _ => rfl⟩
 rw [QA Ho.out]
 have hld := HSt.out eva Wa hma
 have hX2 := HX.out.go HL.out (hcd.trans hca)
 have HC2 := Lh (HC.out.trans (hcd.trans hca))
 have Hm2 := Lh hma
 refine hK2 _ _ ?_
 simp only [Act.put, Qa, Qb, Qc]
 refine ⟨hX2.2, ?_⟩
 clear hma hca hcd hS hK2 K2
 (refine wpAnyH_all (rs := [7]) (by kernel_rfl) (by simp) (fun i hi => ?_); obtain rfl : i = 7 := by simpa using hi)
 refine Qf rfl rfl (fun K2 hK2 => ?_)
 refine ZQ 188 #[.pointer (some ⟨L.M, 0, none⟩), .int .i64 nn, .int .i64 v] (w1 := Wa) (by go_simp) ?_
 refine hld.mono ?_
 rintro e Wb ⟨rfl, bb⟩
 have Hm4 := Lh (Hm2.out.below HL.out bb)
 have hcb : RChg L eva Wa eva Wb := RChg.below bb
 have HC4 := Lh (HC2.out.trans hcb)
 clear bb hcb hld hX2
 simp only [QV]
 go_wp2
 exact ⟨rfl, rfl, eva, Hm4.out.stop _ _, HC4.out⟩
theorem eAt (L : Lay) (hL : DOk L) (x : Nd) (a : Tr) (s t1 : Ms) (v ty : Int) (hg : s.go) (ht : x.tag = 4) (h1 : EntD L a s.tick v t1) (ho : t1.out = none) (hn : 0 ≤ x.n) (hV : L.p.V[x.n.toNat]? = some ty) (hz : Qx ty ≠ 0) (hs : LenS L.p.V t1) (hb : ¬ (v < 0 ∨ ((t1.arr x.n).length : Int) ≤ v)) : EntD L (.node x [a]) s (((t1.arr x.n)[v.toNat]?).getD 0) t1 := by
 obtain ⟨tag, nn⟩ := x
 dsimp only at ht ⊢
 have Ht := Lh ht
 clear ht
 dsimp only at hn hV hb ⊢
 obtain ⟨n, rfl⟩ : ∃ n : Nat, nn = (n : Int) := ⟨nn.toNat, by omega⟩
 rw [Int.toNat_natCast] at hV
 obtain ⟨c, hc⟩ : ∃ c, (t1.arr (n : Int))[v.toNat]? = some c := ⟨_, List.getElem?_eq_getElem (by omega)⟩
 rw [hc, Option.getD_some]
 have Hst : ∀ (ev : Value) (W : World), DR L t1 ev W → _ := fun ev W h => Afv L hL t1 ev n ty v c W h hV hz hs hb hc
 generalize hnn : (n : Int) = nn at Hst
 have HSt := Lh Hst
 have Ho := Lh ho
 clear hnn hV hz hs hb ho hn Hst hc
 intro q ev0 W00 hat h
 have HL := Lh hL
 have Hat := Lh hat
 have hF := hL.F
 have hsum := h.sum
 have hbl := hL.blen
 have hql : q < L.p.body.length := hat.lt
 have hd : ¬ L.F ≤ s.steps := by have := hg.2; omega
 have ews : IntKind.i64.wrap ((s.steps : Int) + 1) = (s.steps : Int) + 1 := IntWalk.i64_in _ (by omega)
 have ewq : IntKind.i64.wrap ((q : Int) + 1) = (q : Int) + 1 := IntWalk.i64_in _ (by omega)
 have Hqb : Hid ((q : Int) < (L.p.body.length : Int)) := by show (q : Int) < _; omega
 have Hs2 : Hid (s.tick.steps + s.tick.fuel = L.F) := by show _ = _; have := hg.2; simp only [Ms.tick]; omega
 have Hroot : Hid (L.p.body[q]? = some ⟨tag, nn⟩) := hat.root
 have c2 := h.row.cellv (i := 2) (v := .int .i64 (L.F : Int)) rfl
 have c5 := h.row.cellv (i := 5) (v := .int .i64 (s.steps : Int)) rfl
 have Hm00 := Lh h
 have Hg := Lh hg
 clear h hat hL hF hsum hbl hql hg
 go_enter Tryz.func119, Tryz.ntmps119
 go_wp2_with fail
 go_quiet (fail)
 obtain ⟨W0, hW0⟩ : ∃ W0, W0 = W00.drewN nq := ⟨_, rfl⟩
 rw [← hW0]
 have hm0 : DR L s ev0 W0 := by rw [hW0]; exact Hm00.out.drew HL.out _
 have hc0 : RChg L ev0 W00 ev0 W0 := by rw [hW0]; exact .below ⟨rfl, rfl, rfl, Nat.le_refl _, fun _ _ => rfl⟩
 have Hm0 := Lh hm0
 have HC0 := Lh hc0
 replace c5 := hm0.row.cellv (i := 5) (v := .int .i64 (s.steps : Int)) rfl
 clear hm0 hc0 hW0 c2 Hm00 hd
 go_wp2_with (refine Ql _ _ _ rfl ?_)
 refine Stop.to ?_
 refine Qk rfl 3 _ _ rfl L.M 5 rfl _ rfl [.int .i64 ((s.steps : Int) + 1)] rfl 108 _ (L.dcells s.tick ev0) Hm0.out.row (by kernel_rfl) (by show 5 + 1 ≤ 7; omega) (by simp [Value.oneCell']) rfl ?_
 intro W2 r2 o2
 have m2 : DR L s.tick ev0 W2 := Hm0.out.setM HL.out o2 r2 rfl rfl rfl Hs2.out (by simp [Ms.tick])
 have Hm2 := Lh m2
 have HC2 : Hid (RChg L ev0 W00 ev0 W2) := HC0.out.trans (RChg.only o2 (.inl rfl))
 have c0 := m2.row.cellv (i := 0) (v := .slice L.p.ba L.p.body.length L.p.bcap) rfl
 have hok2 := HL.out.pok W2 m2.im
 obtain ⟨ad, had, hc⟩ := QS hok2.brd Hroot.out
 have Hc := Lh hc
 have hqb := Hqb.out
 rw [had] at c0
 clear m2 hok2 r2 o2 c5 ews hc had Hm0 HC0
 go_wp2_with (first
  | (refine Qo rfl 85 _ rfl (ad.add (q * 2)) rfl (Nd.cells ⟨tag, nn⟩) _ Hc.out Tryz.underlying85 rfl (by kernel_rfl) ?_)
  | (refine Qy _ rfl ?_))
 refine Stop.to ?_
 refine Qi rfl 85 rfl _ _ QZ rfl ?_
 intro X W3 hX rX b3
 go_wp2_with (refine Ql _ _ _ rfl ?_)
 refine Stop.to ?_
 refine Qj rfl 85 _ _ rfl X (Nd.cells ⟨tag, nn⟩).toArray rfl rfl 85 _ rX (by kernel_rfl) rfl (by simp [Nd.cells, Value.oneCell']) ?_
 intro W r4 o4
 have b34 : Below W2.heap.size W2 W := (b3.mono hX).trans (o4.below hX)
 have m4 := Hm2.out.below HL.out b34
 have hc4 : RChg L ev0 W00 ev0 W := HC2.out.trans (.below b34)
 have HX : Hid (FRow L ev0 W X 85 #[.int .i64 tag, .int .i64 nn]) := ⟨Hm2.out.far_new hX r4.lt, r4⟩
 have x0 := r4.cellv (i := 0) (v := .int .i64 tag) rfl
 have x1 := r4.cellv (i := 1) (v := .int .i64 nn) rfl
 have Hm := Lh m4
 have HC := Lh hc4
 clear b3 b34 o4 rX c0 hX Hc r4 m4 hc4 HC2 Hm2 hqb Hqb Hroot Hs2
 obtain rfl := Ht.out
 have hcall := EntD.at1 h1 Hat.out.kids.head (Hm.out.drew1 HL.out)
 go_wp2_with fail
 refine wp_region_held (S := fun W => Row W X 85 #[.int .i64 4, .int .i64 nn]) (by kernel_rfl) ?_
 simp only [List.size_toArray, List.length_cons, List.length_nil, Nat.reduceAdd, Array.replicate_succ, Array.replicate_zero, List.push_toArray, List.nil_append, List.cons_append]
 show wpAnyH _ _ _ _ _ _ _ _ W.drew
 have hS : Row W.drew X 85 #[.int .i64 4, .int .i64 nn] := HX.out.2
 (refine tkH 0 (.pointer (some ⟨L.M, 0, none⟩)) rfl (Qd rfl (fun W hW => by (go_simp))) ?_; simp only [Act.put, Qa, Qb, Qc])
 (refine tkH 1 (.pointer (some ⟨X, 1, none⟩)) rfl (Qd rfl (fun W hW => by (go_simp))) ?_; simp only [Act.put, Qa, Qb, Qc])
 (refine tkH 2 (.int .i64 nn) rfl (Qd rfl (fun W hW => by ((have h := hW.cellv (i := 1) (v := .int .i64 nn) rfl; go_simp)))) ?_; simp only [Act.put, Qa, Qb, Qc])
 (refine tkH 3 (.pointer (some ⟨L.M, 0, none⟩)) rfl (Qd rfl (fun W hW => by (go_simp))) ?_; simp only [Act.put, Qa, Qb, Qc])
 (refine tkH 4 (.int .i64 (q : Int)) rfl (Qd rfl (fun W hW => by (go_simp))) ?_; simp only [Act.put, Qa, Qb, Qc])
 (refine tkH 5 (.int .i64 ((q : Int) + 1)) rfl (Qd rfl (fun W hW => by (go_simp; try exact ewq))) ?_; simp only [Act.put, Qa, Qb, Qc])
 (refine wpAnyH_all (rs := [6]) (by kernel_rfl) (by simp) (fun i hi => ?_); obtain rfl : i = 6 := by simpa using hi)
 refine Qf rfl rfl (fun K2 hK2 => ?_)
 refine ZQ 119 #[.pointer (some ⟨L.M, 0, none⟩), .int .i64 ((q : Int) + 1)] (w1 := W.drew) (by go_simp) ?_
 refine hcall.mono ?_
 rintro e Wa ⟨rfl, eva, hma, hca⟩
 clear hcall
 have hcd : RChg L ev0 W ev0 W.drew := RChg.below ⟨rfl, rfl, rfl, Nat.le_refl _, fun _ _ => rfl⟩
 rw [QA Ho.out]
 have hld := HSt.out eva Wa hma
 have hX2 := HX.out.go HL.out (hcd.trans hca)
 have HC2 := Lh (HC.out.trans (hcd.trans hca))
 have Hm2 := Lh hma
 refine hK2 _ _ ?_
 simp only [Act.put, Qa, Qb, Qc]
 refine ⟨hX2.2, ?_⟩
 clear hma hca hcd hS hK2 K2
 (refine wpAnyH_all (rs := [7]) (by kernel_rfl) (by simp) (fun i hi => ?_); obtain rfl : i = 7 := by simpa using hi)
 refine Qf rfl rfl (fun K2 hK2 => ?_)
 refine ZQ 188 #[.pointer (some ⟨L.M, 0, none⟩), .int .i64 nn, .int .i64 v] (w1 := Wa) (by go_simp) ?_
 refine hld.mono ?_
 rintro e Wb ⟨rfl, bb⟩
 have Hm4 := Lh (Hm2.out.below HL.out bb)
 have hcb : RChg L eva Wa eva Wb := RChg.below bb
 have HC4 := Lh (HC2.out.trans hcb)
 have hS : Row Wb X 85 #[.int .i64 4, .int .i64 nn] := (hX2.go HL.out hcb).2
 refine hK2 _ _ ?_
 simp only [Act.put, Qa, Qb, Qc]
 refine ⟨hS, ?_⟩
 clear bb hcb hld hX2 hK2 K2
 (refine tkH 8 (.int .i64 c) rfl (Qd rfl (fun W hW => by (go_simp))) ?_; simp only [Act.put, Qa, Qb, Qc])
 refine wpAnyH_done (by kernel_rfl) ?_ _
 clear hS
 go_wp2
 go_ret
 exact ⟨(QA Ho.out).symm, eva, Hm4.out, HC4.out⟩
theorem AeJ (L : Lay) (hL : DOk L) (x : Nd) (a : Tr) (ks : List Tr) (s t1 : Ms) (v u : Int) (hg : s.go) (ht : x.tag = 5) (h1 : EntD L a s.tick v t1) (ho : t1.out.isSome = true) : EntD L (.node x (a :: ks)) s u t1 := by
 obtain ⟨tag, nn⟩ := x
 dsimp only at ht ⊢
 have Ht := Lh ht
 clear ht
 intro q ev0 W00 hat h
 have HL := Lh hL
 have Hat := Lh hat
 have hF := hL.F
 have hsum := h.sum
 have hbl := hL.blen
 have hql : q < L.p.body.length := hat.lt
 have hd : ¬ L.F ≤ s.steps := by have := hg.2; omega
 have ews : IntKind.i64.wrap ((s.steps : Int) + 1) = (s.steps : Int) + 1 := IntWalk.i64_in _ (by omega)
 have ewq : IntKind.i64.wrap ((q : Int) + 1) = (q : Int) + 1 := IntWalk.i64_in _ (by omega)
 have Hqb : Hid ((q : Int) < (L.p.body.length : Int)) := by show (q : Int) < _; omega
 have Hs2 : Hid (s.tick.steps + s.tick.fuel = L.F) := by show _ = _; have := hg.2; simp only [Ms.tick]; omega
 have Hroot : Hid (L.p.body[q]? = some ⟨tag, nn⟩) := hat.root
 have c2 := h.row.cellv (i := 2) (v := .int .i64 (L.F : Int)) rfl
 have c5 := h.row.cellv (i := 5) (v := .int .i64 (s.steps : Int)) rfl
 have Hm00 := Lh h
 have Hg := Lh hg
 clear h hat hL hF hsum hbl hql hg
 go_enter Tryz.func119, Tryz.ntmps119
 go_wp2_with fail
 go_quiet (fail)
 obtain ⟨W0, hW0⟩ : ∃ W0, W0 = W00.drewN nq := ⟨_, rfl⟩
 rw [← hW0]
 have hm0 : DR L s ev0 W0 := by rw [hW0]; exact Hm00.out.drew HL.out _
 have hc0 : RChg L ev0 W00 ev0 W0 := by rw [hW0]; exact .below ⟨rfl, rfl, rfl, Nat.le_refl _, fun _ _ => rfl⟩
 have Hm0 := Lh hm0
 have HC0 := Lh hc0
 replace c5 := hm0.row.cellv (i := 5) (v := .int .i64 (s.steps : Int)) rfl
 clear hm0 hc0 hW0 c2 Hm00 hd
 go_wp2_with (refine Ql _ _ _ rfl ?_)
 refine Stop.to ?_
 refine Qk rfl 3 _ _ rfl L.M 5 rfl _ rfl [.int .i64 ((s.steps : Int) + 1)] rfl 108 _ (L.dcells s.tick ev0) Hm0.out.row (by kernel_rfl) (by show 5 + 1 ≤ 7; omega) (by simp [Value.oneCell']) rfl ?_
 intro W2 r2 o2
 have m2 : DR L s.tick ev0 W2 := Hm0.out.setM HL.out o2 r2 rfl rfl rfl Hs2.out (by simp [Ms.tick])
 have Hm2 := Lh m2
 have HC2 : Hid (RChg L ev0 W00 ev0 W2) := HC0.out.trans (RChg.only o2 (.inl rfl))
 have c0 := m2.row.cellv (i := 0) (v := .slice L.p.ba L.p.body.length L.p.bcap) rfl
 have hok2 := HL.out.pok W2 m2.im
 obtain ⟨ad, had, hc⟩ := QS hok2.brd Hroot.out
 have Hc := Lh hc
 have hqb := Hqb.out
 rw [had] at c0
 clear m2 hok2 r2 o2 c5 ews hc had Hm0 HC0
 go_wp2_with (first
  | (refine Qo rfl 85 _ rfl (ad.add (q * 2)) rfl (Nd.cells ⟨tag, nn⟩) _ Hc.out Tryz.underlying85 rfl (by kernel_rfl) ?_)
  | (refine Qy _ rfl ?_))
 refine Stop.to ?_
 refine Qi rfl 85 rfl _ _ QZ rfl ?_
 intro X W3 hX rX b3
 go_wp2_with (refine Ql _ _ _ rfl ?_)
 refine Stop.to ?_
 refine Qj rfl 85 _ _ rfl X (Nd.cells ⟨tag, nn⟩).toArray rfl rfl 85 _ rX (by kernel_rfl) rfl (by simp [Nd.cells, Value.oneCell']) ?_
 intro W r4 o4
 have b34 : Below W2.heap.size W2 W := (b3.mono hX).trans (o4.below hX)
 have m4 := Hm2.out.below HL.out b34
 have hc4 : RChg L ev0 W00 ev0 W := HC2.out.trans (.below b34)
 have HX : Hid (FRow L ev0 W X 85 #[.int .i64 tag, .int .i64 nn]) := ⟨Hm2.out.far_new hX r4.lt, r4⟩
 have x0 := r4.cellv (i := 0) (v := .int .i64 tag) rfl
 have x1 := r4.cellv (i := 1) (v := .int .i64 nn) rfl
 have Hm := Lh m4
 have HC := Lh hc4
 clear b3 b34 o4 rX c0 hX Hc r4 m4 hc4 HC2 Hm2 hqb Hqb Hroot Hs2
 obtain rfl := Ht.out
 have Hcall := Lh (EntD.at1 h1 Hat.out.kids.head Hm.out)
 go_wp2_with fail
 refine Hcall.out.mono ?_
 rintro e Wa ⟨rfl, eva, hma, hca⟩
 replace HX := Lh (HX.out.go HL.out hca)
 replace HC := Lh (HC.out.trans hca)
 clear Hcall x0 x1 Hm h1
 have Hm := Lh hma
 have x0 := HX.out.2.cellv (i := 0) (v := .int .i64 5) rfl
 have x1 := HX.out.2.cellv (i := 1) (v := .int .i64 nn) rfl
 clear hma hca
 obtain ⟨⟨ok, ox⟩, hoo⟩ := Option.isSome_iff_exists.1 ho
 rw [QO hoo]
 simp only [QV]
 have Hoo := Lh hoo
 clear hoo ho
 go_wp2
 exact ⟨rfl, (QO Hoo.out).symm, eva, Hm.out, HC.out⟩
theorem AeD (L : Lay) (hL : DOk L) (x : Nd) (a : Tr) (ks : List Tr) (s t1 : Ms) (v u : Int) (hg : s.go) (ht : x.tag = 6) (h1 : EntD L a s.tick v t1) (ho : t1.out.isSome = true) : EntD L (.node x (a :: ks)) s u t1 := by
 obtain ⟨tag, nn⟩ := x
 dsimp only at ht ⊢
 have Ht := Lh ht
 clear ht
 intro q ev0 W00 hat h
 have HL := Lh hL
 have Hat := Lh hat
 have hF := hL.F
 have hsum := h.sum
 have hbl := hL.blen
 have hql : q < L.p.body.length := hat.lt
 have hd : ¬ L.F ≤ s.steps := by have := hg.2; omega
 have ews : IntKind.i64.wrap ((s.steps : Int) + 1) = (s.steps : Int) + 1 := IntWalk.i64_in _ (by omega)
 have ewq : IntKind.i64.wrap ((q : Int) + 1) = (q : Int) + 1 := IntWalk.i64_in _ (by omega)
 have Hqb : Hid ((q : Int) < (L.p.body.length : Int)) := by show (q : Int) < _; omega
 have Hs2 : Hid (s.tick.steps + s.tick.fuel = L.F) := by show _ = _; have := hg.2; simp only [Ms.tick]; omega
 have Hroot : Hid (L.p.body[q]? = some ⟨tag, nn⟩) := hat.root
 have c2 := h.row.cellv (i := 2) (v := .int .i64 (L.F : Int)) rfl
 have c5 := h.row.cellv (i := 5) (v := .int .i64 (s.steps : Int)) rfl
 have Hm00 := Lh h
 have Hg := Lh hg
 clear h hat hL hF hsum hbl hql hg
 go_enter Tryz.func119, Tryz.ntmps119
 go_wp2_with fail
 go_quiet (fail)
 obtain ⟨W0, hW0⟩ : ∃ W0, W0 = W00.drewN nq := ⟨_, rfl⟩
 rw [← hW0]
 have hm0 : DR L s ev0 W0 := by rw [hW0]; exact Hm00.out.drew HL.out _
 have hc0 : RChg L ev0 W00 ev0 W0 := by rw [hW0]; exact .below ⟨rfl, rfl, rfl, Nat.le_refl _, fun _ _ => rfl⟩
 have Hm0 := Lh hm0
 have HC0 := Lh hc0
 replace c5 := hm0.row.cellv (i := 5) (v := .int .i64 (s.steps : Int)) rfl
 clear hm0 hc0 hW0 c2 Hm00 hd
 go_wp2_with (refine Ql _ _ _ rfl ?_)
 refine Stop.to ?_
 refine Qk rfl 3 _ _ rfl L.M 5 rfl _ rfl [.int .i64 ((s.steps : Int) + 1)] rfl 108 _ (L.dcells s.tick ev0) Hm0.out.row (by kernel_rfl) (by show 5 + 1 ≤ 7; omega) (by simp [Value.oneCell']) rfl ?_
 intro W2 r2 o2
 have m2 : DR L s.tick ev0 W2 := Hm0.out.setM HL.out o2 r2 rfl rfl rfl Hs2.out (by simp [Ms.tick])
 have Hm2 := Lh m2
 have HC2 : Hid (RChg L ev0 W00 ev0 W2) := HC0.out.trans (RChg.only o2 (.inl rfl))
 have c0 := m2.row.cellv (i := 0) (v := .slice L.p.ba L.p.body.length L.p.bcap) rfl
 have hok2 := HL.out.pok W2 m2.im
 obtain ⟨ad, had, hc⟩ := QS hok2.brd Hroot.out
 have Hc := Lh hc
 have hqb := Hqb.out
 rw [had] at c0
 clear m2 hok2 r2 o2 c5 ews hc had Hm0 HC0
 go_wp2_with (first
  | (refine Qo rfl 85 _ rfl (ad.add (q * 2)) rfl (Nd.cells ⟨tag, nn⟩) _ Hc.out Tryz.underlying85 rfl (by kernel_rfl) ?_)
  | (refine Qy _ rfl ?_))
 refine Stop.to ?_
 refine Qi rfl 85 rfl _ _ QZ rfl ?_
 intro X W3 hX rX b3
 go_wp2_with (refine Ql _ _ _ rfl ?_)
 refine Stop.to ?_
 refine Qj rfl 85 _ _ rfl X (Nd.cells ⟨tag, nn⟩).toArray rfl rfl 85 _ rX (by kernel_rfl) rfl (by simp [Nd.cells, Value.oneCell']) ?_
 intro W r4 o4
 have b34 : Below W2.heap.size W2 W := (b3.mono hX).trans (o4.below hX)
 have m4 := Hm2.out.below HL.out b34
 have hc4 : RChg L ev0 W00 ev0 W := HC2.out.trans (.below b34)
 have HX : Hid (FRow L ev0 W X 85 #[.int .i64 tag, .int .i64 nn]) := ⟨Hm2.out.far_new hX r4.lt, r4⟩
 have x0 := r4.cellv (i := 0) (v := .int .i64 tag) rfl
 have x1 := r4.cellv (i := 1) (v := .int .i64 nn) rfl
 have Hm := Lh m4
 have HC := Lh hc4
 clear b3 b34 o4 rX c0 hX Hc r4 m4 hc4 HC2 Hm2 hqb Hqb Hroot Hs2
 obtain rfl := Ht.out
 have Hcall := Lh (EntD.at1 h1 Hat.out.kids.head Hm.out)
 go_wp2_with fail
 refine Hcall.out.mono ?_
 rintro e Wa ⟨rfl, eva, hma, hca⟩
 replace HX := Lh (HX.out.go HL.out hca)
 replace HC := Lh (HC.out.trans hca)
 clear Hcall x0 x1 Hm h1
 have Hm := Lh hma
 have x0 := HX.out.2.cellv (i := 0) (v := .int .i64 6) rfl
 have x1 := HX.out.2.cellv (i := 1) (v := .int .i64 nn) rfl
 clear hma hca
 obtain ⟨⟨ok, ox⟩, hoo⟩ := Option.isSome_iff_exists.1 ho
 rw [QO hoo]
 simp only [QV]
 have Hoo := Lh hoo
 clear hoo ho
 go_wp2
 exact ⟨rfl, (QO Hoo.out).symm, eva, Hm.out, HC.out⟩
theorem AeX (L : Lay) (hL : DOk L) (x : Nd) (a : Tr) (ks : List Tr) (s t1 : Ms) (v u : Int) (hg : s.go) (ht : x.tag = 18) (h1 : EntD L a s.tick v t1) (ho : t1.out.isSome = true) : EntD L (.node x (a :: ks)) s u t1 := by
 obtain ⟨tag, nn⟩ := x
 dsimp only at ht ⊢
 have Ht := Lh ht
 clear ht
 intro q ev0 W00 hat h
 have HL := Lh hL
 have Hat := Lh hat
 have hF := hL.F
 have hsum := h.sum
 have hbl := hL.blen
 have hql : q < L.p.body.length := hat.lt
 have hd : ¬ L.F ≤ s.steps := by have := hg.2; omega
 have ews : IntKind.i64.wrap ((s.steps : Int) + 1) = (s.steps : Int) + 1 := IntWalk.i64_in _ (by omega)
 have ewq : IntKind.i64.wrap ((q : Int) + 1) = (q : Int) + 1 := IntWalk.i64_in _ (by omega)
 have Hqb : Hid ((q : Int) < (L.p.body.length : Int)) := by show (q : Int) < _; omega
 have Hs2 : Hid (s.tick.steps + s.tick.fuel = L.F) := by show _ = _; have := hg.2; simp only [Ms.tick]; omega
 have Hroot : Hid (L.p.body[q]? = some ⟨tag, nn⟩) := hat.root
 have c2 := h.row.cellv (i := 2) (v := .int .i64 (L.F : Int)) rfl
 have c5 := h.row.cellv (i := 5) (v := .int .i64 (s.steps : Int)) rfl
 have Hm00 := Lh h
 have Hg := Lh hg
 clear h hat hL hF hsum hbl hql hg
 go_enter Tryz.func119, Tryz.ntmps119
 go_wp2_with fail
 go_quiet (fail)
 obtain ⟨W0, hW0⟩ : ∃ W0, W0 = W00.drewN nq := ⟨_, rfl⟩
 rw [← hW0]
 have hm0 : DR L s ev0 W0 := by rw [hW0]; exact Hm00.out.drew HL.out _
 have hc0 : RChg L ev0 W00 ev0 W0 := by rw [hW0]; exact .below ⟨rfl, rfl, rfl, Nat.le_refl _, fun _ _ => rfl⟩
 have Hm0 := Lh hm0
 have HC0 := Lh hc0
 replace c5 := hm0.row.cellv (i := 5) (v := .int .i64 (s.steps : Int)) rfl
 clear hm0 hc0 hW0 c2 Hm00 hd
 go_wp2_with (refine Ql _ _ _ rfl ?_)
 refine Stop.to ?_
 refine Qk rfl 3 _ _ rfl L.M 5 rfl _ rfl [.int .i64 ((s.steps : Int) + 1)] rfl 108 _ (L.dcells s.tick ev0) Hm0.out.row (by kernel_rfl) (by show 5 + 1 ≤ 7; omega) (by simp [Value.oneCell']) rfl ?_
 intro W2 r2 o2
 have m2 : DR L s.tick ev0 W2 := Hm0.out.setM HL.out o2 r2 rfl rfl rfl Hs2.out (by simp [Ms.tick])
 have Hm2 := Lh m2
 have HC2 : Hid (RChg L ev0 W00 ev0 W2) := HC0.out.trans (RChg.only o2 (.inl rfl))
 have c0 := m2.row.cellv (i := 0) (v := .slice L.p.ba L.p.body.length L.p.bcap) rfl
 have hok2 := HL.out.pok W2 m2.im
 obtain ⟨ad, had, hc⟩ := QS hok2.brd Hroot.out
 have Hc := Lh hc
 have hqb := Hqb.out
 rw [had] at c0
 clear m2 hok2 r2 o2 c5 ews hc had Hm0 HC0
 go_wp2_with (first
  | (refine Qo rfl 85 _ rfl (ad.add (q * 2)) rfl (Nd.cells ⟨tag, nn⟩) _ Hc.out Tryz.underlying85 rfl (by kernel_rfl) ?_)
  | (refine Qy _ rfl ?_))
 refine Stop.to ?_
 refine Qi rfl 85 rfl _ _ QZ rfl ?_
 intro X W3 hX rX b3
 go_wp2_with (refine Ql _ _ _ rfl ?_)
 refine Stop.to ?_
 refine Qj rfl 85 _ _ rfl X (Nd.cells ⟨tag, nn⟩).toArray rfl rfl 85 _ rX (by kernel_rfl) rfl (by simp [Nd.cells, Value.oneCell']) ?_
 intro W r4 o4
 have b34 : Below W2.heap.size W2 W := (b3.mono hX).trans (o4.below hX)
 have m4 := Hm2.out.below HL.out b34
 have hc4 : RChg L ev0 W00 ev0 W := HC2.out.trans (.below b34)
 have HX : Hid (FRow L ev0 W X 85 #[.int .i64 tag, .int .i64 nn]) := ⟨Hm2.out.far_new hX r4.lt, r4⟩
 have x0 := r4.cellv (i := 0) (v := .int .i64 tag) rfl
 have x1 := r4.cellv (i := 1) (v := .int .i64 nn) rfl
 have Hm := Lh m4
 have HC := Lh hc4
 clear b3 b34 o4 rX c0 hX Hc r4 m4 hc4 HC2 Hm2 hqb Hqb Hroot Hs2
 obtain rfl := Ht.out
 have Hcall := Lh (EntD.at1 h1 Hat.out.kids.head Hm.out)
 go_wp2_with fail
 refine Hcall.out.mono ?_
 rintro e Wa ⟨rfl, eva, hma, hca⟩
 replace HX := Lh (HX.out.go HL.out hca)
 replace HC := Lh (HC.out.trans hca)
 clear Hcall x0 x1 Hm h1
 have Hm := Lh hma
 have x0 := HX.out.2.cellv (i := 0) (v := .int .i64 18) rfl
 have x1 := HX.out.2.cellv (i := 1) (v := .int .i64 nn) rfl
 clear hma hca
 obtain ⟨⟨ok, ox⟩, hoo⟩ := Option.isSome_iff_exists.1 ho
 rw [QO hoo]
 simp only [QV]
 have Hoo := Lh hoo
 clear hoo ho
 go_wp2
 exact ⟨rfl, (QO Hoo.out).symm, eva, Hm.out, HC.out⟩
theorem AfI (L : Lay) (hL : DOk L) (x : Nd) (a : Tr) (ks : List Tr) (s t1 : Ms) (v u : Int) (hg : s.go) (ht : x.tag = 19) (h1 : EntD L a s.tick v t1) (ho : t1.out.isSome = true) : EntD L (.node x (a :: ks)) s u t1 := by
 obtain ⟨tag, nn⟩ := x
 dsimp only at ht ⊢
 have Ht := Lh ht
 clear ht
 intro q ev0 W00 hat h
 have HL := Lh hL
 have Hat := Lh hat
 have hF := hL.F
 have hsum := h.sum
 have hbl := hL.blen
 have hql : q < L.p.body.length := hat.lt
 have hd : ¬ L.F ≤ s.steps := by have := hg.2; omega
 have ews : IntKind.i64.wrap ((s.steps : Int) + 1) = (s.steps : Int) + 1 := IntWalk.i64_in _ (by omega)
 have ewq : IntKind.i64.wrap ((q : Int) + 1) = (q : Int) + 1 := IntWalk.i64_in _ (by omega)
 have Hqb : Hid ((q : Int) < (L.p.body.length : Int)) := by show (q : Int) < _; omega
 have Hs2 : Hid (s.tick.steps + s.tick.fuel = L.F) := by show _ = _; have := hg.2; simp only [Ms.tick]; omega
 have Hroot : Hid (L.p.body[q]? = some ⟨tag, nn⟩) := hat.root
 have c2 := h.row.cellv (i := 2) (v := .int .i64 (L.F : Int)) rfl
 have c5 := h.row.cellv (i := 5) (v := .int .i64 (s.steps : Int)) rfl
 have Hm00 := Lh h
 have Hg := Lh hg
 clear h hat hL hF hsum hbl hql hg
 go_enter Tryz.func119, Tryz.ntmps119
 go_wp2_with fail
 go_quiet (fail)
 obtain ⟨W0, hW0⟩ : ∃ W0, W0 = W00.drewN nq := ⟨_, rfl⟩
 rw [← hW0]
 have hm0 : DR L s ev0 W0 := by rw [hW0]; exact Hm00.out.drew HL.out _
 have hc0 : RChg L ev0 W00 ev0 W0 := by rw [hW0]; exact .below ⟨rfl, rfl, rfl, Nat.le_refl _, fun _ _ => rfl⟩
 have Hm0 := Lh hm0
 have HC0 := Lh hc0
 replace c5 := hm0.row.cellv (i := 5) (v := .int .i64 (s.steps : Int)) rfl
 clear hm0 hc0 hW0 c2 Hm00 hd
 go_wp2_with (refine Ql _ _ _ rfl ?_)
 refine Stop.to ?_
 refine Qk rfl 3 _ _ rfl L.M 5 rfl _ rfl [.int .i64 ((s.steps : Int) + 1)] rfl 108 _ (L.dcells s.tick ev0) Hm0.out.row (by kernel_rfl) (by show 5 + 1 ≤ 7; omega) (by simp [Value.oneCell']) rfl ?_
 intro W2 r2 o2
 have m2 : DR L s.tick ev0 W2 := Hm0.out.setM HL.out o2 r2 rfl rfl rfl Hs2.out (by simp [Ms.tick])
 have Hm2 := Lh m2
 have HC2 : Hid (RChg L ev0 W00 ev0 W2) := HC0.out.trans (RChg.only o2 (.inl rfl))
 have c0 := m2.row.cellv (i := 0) (v := .slice L.p.ba L.p.body.length L.p.bcap) rfl
 have hok2 := HL.out.pok W2 m2.im
 obtain ⟨ad, had, hc⟩ := QS hok2.brd Hroot.out
 have Hc := Lh hc
 have hqb := Hqb.out
 rw [had] at c0
 clear m2 hok2 r2 o2 c5 ews hc had Hm0 HC0
 go_wp2_with (first
  | (refine Qo rfl 85 _ rfl (ad.add (q * 2)) rfl (Nd.cells ⟨tag, nn⟩) _ Hc.out Tryz.underlying85 rfl (by kernel_rfl) ?_)
  | (refine Qy _ rfl ?_))
 refine Stop.to ?_
 refine Qi rfl 85 rfl _ _ QZ rfl ?_
 intro X W3 hX rX b3
 go_wp2_with (refine Ql _ _ _ rfl ?_)
 refine Stop.to ?_
 refine Qj rfl 85 _ _ rfl X (Nd.cells ⟨tag, nn⟩).toArray rfl rfl 85 _ rX (by kernel_rfl) rfl (by simp [Nd.cells, Value.oneCell']) ?_
 intro W r4 o4
 have b34 : Below W2.heap.size W2 W := (b3.mono hX).trans (o4.below hX)
 have m4 := Hm2.out.below HL.out b34
 have hc4 : RChg L ev0 W00 ev0 W := HC2.out.trans (.below b34)
 have HX : Hid (FRow L ev0 W X 85 #[.int .i64 tag, .int .i64 nn]) := ⟨Hm2.out.far_new hX r4.lt, r4⟩
 have x0 := r4.cellv (i := 0) (v := .int .i64 tag) rfl
 have x1 := r4.cellv (i := 1) (v := .int .i64 nn) rfl
 have Hm := Lh m4
 have HC := Lh hc4
 clear b3 b34 o4 rX c0 hX Hc r4 m4 hc4 HC2 Hm2 hqb Hqb Hroot Hs2
 obtain rfl := Ht.out
 have Hcall := Lh (EntD.at1 h1 Hat.out.kids.head Hm.out)
 go_wp2_with fail
 refine Hcall.out.mono ?_
 rintro e Wa ⟨rfl, eva, hma, hca⟩
 replace HX := Lh (HX.out.go HL.out hca)
 replace HC := Lh (HC.out.trans hca)
 clear Hcall x0 x1 Hm h1
 have Hm := Lh hma
 have x0 := HX.out.2.cellv (i := 0) (v := .int .i64 19) rfl
 have x1 := HX.out.2.cellv (i := 1) (v := .int .i64 nn) rfl
 clear hma hca
 obtain ⟨⟨ok, ox⟩, hoo⟩ := Option.isSome_iff_exists.1 ho
 rw [QO hoo]
 simp only [QV]
 have Hoo := Lh hoo
 clear hoo ho
 go_wp2
 exact ⟨rfl, (QO Hoo.out).symm, eva, Hm.out, HC.out⟩
theorem AgC (L : Lay) (hL : DOk L) (x : Nd) (a : Tr) (s t1 : Ms) (v : Int) (hg : s.go) (ht : x.tag = 5) (h1 : EntD L a s.tick v t1) (ho : t1.out = none) : EntD L (.node x [a]) s (wrap64 (-v)) t1 := by
 obtain ⟨tag, nn⟩ := x
 dsimp only at ht ⊢
 have Ht := Lh ht
 clear ht
 intro q ev0 W00 hat h
 have HL := Lh hL
 have Hat := Lh hat
 have hF := hL.F
 have hsum := h.sum
 have hbl := hL.blen
 have hql : q < L.p.body.length := hat.lt
 have hd : ¬ L.F ≤ s.steps := by have := hg.2; omega
 have ews : IntKind.i64.wrap ((s.steps : Int) + 1) = (s.steps : Int) + 1 := IntWalk.i64_in _ (by omega)
 have ewq : IntKind.i64.wrap ((q : Int) + 1) = (q : Int) + 1 := IntWalk.i64_in _ (by omega)
 have Hqb : Hid ((q : Int) < (L.p.body.length : Int)) := by show (q : Int) < _; omega
 have Hs2 : Hid (s.tick.steps + s.tick.fuel = L.F) := by show _ = _; have := hg.2; simp only [Ms.tick]; omega
 have Hroot : Hid (L.p.body[q]? = some ⟨tag, nn⟩) := hat.root
 have c2 := h.row.cellv (i := 2) (v := .int .i64 (L.F : Int)) rfl
 have c5 := h.row.cellv (i := 5) (v := .int .i64 (s.steps : Int)) rfl
 have Hm00 := Lh h
 have Hg := Lh hg
 clear h hat hL hF hsum hbl hql hg
 go_enter Tryz.func119, Tryz.ntmps119
 go_wp2_with fail
 go_quiet (fail)
 obtain ⟨W0, hW0⟩ : ∃ W0, W0 = W00.drewN nq := ⟨_, rfl⟩
 rw [← hW0]
 have hm0 : DR L s ev0 W0 := by rw [hW0]; exact Hm00.out.drew HL.out _
 have hc0 : RChg L ev0 W00 ev0 W0 := by rw [hW0]; exact .below ⟨rfl, rfl, rfl, Nat.le_refl _, fun _ _ => rfl⟩
 have Hm0 := Lh hm0
 have HC0 := Lh hc0
 replace c5 := hm0.row.cellv (i := 5) (v := .int .i64 (s.steps : Int)) rfl
 clear hm0 hc0 hW0 c2 Hm00 hd
 go_wp2_with (refine Ql _ _ _ rfl ?_)
 refine Stop.to ?_
 refine Qk rfl 3 _ _ rfl L.M 5 rfl _ rfl [.int .i64 ((s.steps : Int) + 1)] rfl 108 _ (L.dcells s.tick ev0) Hm0.out.row (by kernel_rfl) (by show 5 + 1 ≤ 7; omega) (by simp [Value.oneCell']) rfl ?_
 intro W2 r2 o2
 have m2 : DR L s.tick ev0 W2 := Hm0.out.setM HL.out o2 r2 rfl rfl rfl Hs2.out (by simp [Ms.tick])
 have Hm2 := Lh m2
 have HC2 : Hid (RChg L ev0 W00 ev0 W2) := HC0.out.trans (RChg.only o2 (.inl rfl))
 have c0 := m2.row.cellv (i := 0) (v := .slice L.p.ba L.p.body.length L.p.bcap) rfl
 have hok2 := HL.out.pok W2 m2.im
 obtain ⟨ad, had, hc⟩ := QS hok2.brd Hroot.out
 have Hc := Lh hc
 have hqb := Hqb.out
 rw [had] at c0
 clear m2 hok2 r2 o2 c5 ews hc had Hm0 HC0
 go_wp2_with (first
  | (refine Qo rfl 85 _ rfl (ad.add (q * 2)) rfl (Nd.cells ⟨tag, nn⟩) _ Hc.out Tryz.underlying85 rfl (by kernel_rfl) ?_)
  | (refine Qy _ rfl ?_))
 refine Stop.to ?_
 refine Qi rfl 85 rfl _ _ QZ rfl ?_
 intro X W3 hX rX b3
 go_wp2_with (refine Ql _ _ _ rfl ?_)
 refine Stop.to ?_
 refine Qj rfl 85 _ _ rfl X (Nd.cells ⟨tag, nn⟩).toArray rfl rfl 85 _ rX (by kernel_rfl) rfl (by simp [Nd.cells, Value.oneCell']) ?_
 intro W r4 o4
 have b34 : Below W2.heap.size W2 W := (b3.mono hX).trans (o4.below hX)
 have m4 := Hm2.out.below HL.out b34
 have hc4 : RChg L ev0 W00 ev0 W := HC2.out.trans (.below b34)
 have HX : Hid (FRow L ev0 W X 85 #[.int .i64 tag, .int .i64 nn]) := ⟨Hm2.out.far_new hX r4.lt, r4⟩
 have x0 := r4.cellv (i := 0) (v := .int .i64 tag) rfl
 have x1 := r4.cellv (i := 1) (v := .int .i64 nn) rfl
 have Hm := Lh m4
 have HC := Lh hc4
 clear b3 b34 o4 rX c0 hX Hc r4 m4 hc4 HC2 Hm2 hqb Hqb Hroot Hs2
 obtain rfl := Ht.out
 have Hcall := Lh (EntD.at1 h1 Hat.out.kids.head Hm.out)
 go_wp2_with fail
 refine Hcall.out.mono ?_
 rintro e Wa ⟨rfl, eva, hma, hca⟩
 replace HX := Lh (HX.out.go HL.out hca)
 replace HC := Lh (HC.out.trans hca)
 clear Hcall x0 x1 Hm h1
 have Hm := Lh hma
 have x0 := HX.out.2.cellv (i := 0) (v := .int .i64 5) rfl
 have x1 := HX.out.2.cellv (i := 1) (v := .int .i64 nn) rfl
 clear hma hca
 rw [QA ho]
 have Ho := Lh ho
 clear ho
 go_wp2
 go_ret
 rw [QA Ho.out]
 exact ⟨QD rfl, eva, Hm.out, HC.out⟩
theorem AgA (L : Lay) (hL : DOk L) (x : Nd) (a : Tr) (s t1 : Ms) (v : Int) (hg : s.go) (ht : x.tag = 6) (h1 : EntD L a s.tick v t1) (ho : t1.out = none) (hv : v = 0 ∨ v = 1) : EntD L (.node x [a]) s (1 - v) t1 := by
 obtain ⟨tag, nn⟩ := x
 dsimp only at ht ⊢
 have Ht := Lh ht
 clear ht
 intro q ev0 W00 hat h
 have HL := Lh hL
 have Hat := Lh hat
 have hF := hL.F
 have hsum := h.sum
 have hbl := hL.blen
 have hql : q < L.p.body.length := hat.lt
 have hd : ¬ L.F ≤ s.steps := by have := hg.2; omega
 have ews : IntKind.i64.wrap ((s.steps : Int) + 1) = (s.steps : Int) + 1 := IntWalk.i64_in _ (by omega)
 have ewq : IntKind.i64.wrap ((q : Int) + 1) = (q : Int) + 1 := IntWalk.i64_in _ (by omega)
 have Hqb : Hid ((q : Int) < (L.p.body.length : Int)) := by show (q : Int) < _; omega
 have Hs2 : Hid (s.tick.steps + s.tick.fuel = L.F) := by show _ = _; have := hg.2; simp only [Ms.tick]; omega
 have Hroot : Hid (L.p.body[q]? = some ⟨tag, nn⟩) := hat.root
 have c2 := h.row.cellv (i := 2) (v := .int .i64 (L.F : Int)) rfl
 have c5 := h.row.cellv (i := 5) (v := .int .i64 (s.steps : Int)) rfl
 have Hm00 := Lh h
 have Hg := Lh hg
 clear h hat hL hF hsum hbl hql hg
 go_enter Tryz.func119, Tryz.ntmps119
 go_wp2_with fail
 go_quiet (fail)
 obtain ⟨W0, hW0⟩ : ∃ W0, W0 = W00.drewN nq := ⟨_, rfl⟩
 rw [← hW0]
 have hm0 : DR L s ev0 W0 := by rw [hW0]; exact Hm00.out.drew HL.out _
 have hc0 : RChg L ev0 W00 ev0 W0 := by rw [hW0]; exact .below ⟨rfl, rfl, rfl, Nat.le_refl _, fun _ _ => rfl⟩
 have Hm0 := Lh hm0
 have HC0 := Lh hc0
 replace c5 := hm0.row.cellv (i := 5) (v := .int .i64 (s.steps : Int)) rfl
 clear hm0 hc0 hW0 c2 Hm00 hd
 go_wp2_with (refine Ql _ _ _ rfl ?_)
 refine Stop.to ?_
 refine Qk rfl 3 _ _ rfl L.M 5 rfl _ rfl [.int .i64 ((s.steps : Int) + 1)] rfl 108 _ (L.dcells s.tick ev0) Hm0.out.row (by kernel_rfl) (by show 5 + 1 ≤ 7; omega) (by simp [Value.oneCell']) rfl ?_
 intro W2 r2 o2
 have m2 : DR L s.tick ev0 W2 := Hm0.out.setM HL.out o2 r2 rfl rfl rfl Hs2.out (by simp [Ms.tick])
 have Hm2 := Lh m2
 have HC2 : Hid (RChg L ev0 W00 ev0 W2) := HC0.out.trans (RChg.only o2 (.inl rfl))
 have c0 := m2.row.cellv (i := 0) (v := .slice L.p.ba L.p.body.length L.p.bcap) rfl
 have hok2 := HL.out.pok W2 m2.im
 obtain ⟨ad, had, hc⟩ := QS hok2.brd Hroot.out
 have Hc := Lh hc
 have hqb := Hqb.out
 rw [had] at c0
 clear m2 hok2 r2 o2 c5 ews hc had Hm0 HC0
 go_wp2_with (first
  | (refine Qo rfl 85 _ rfl (ad.add (q * 2)) rfl (Nd.cells ⟨tag, nn⟩) _ Hc.out Tryz.underlying85 rfl (by kernel_rfl) ?_)
  | (refine Qy _ rfl ?_))
 refine Stop.to ?_
 refine Qi rfl 85 rfl _ _ QZ rfl ?_
 intro X W3 hX rX b3
 go_wp2_with (refine Ql _ _ _ rfl ?_)
 refine Stop.to ?_
 refine Qj rfl 85 _ _ rfl X (Nd.cells ⟨tag, nn⟩).toArray rfl rfl 85 _ rX (by kernel_rfl) rfl (by simp [Nd.cells, Value.oneCell']) ?_
 intro W r4 o4
 have b34 : Below W2.heap.size W2 W := (b3.mono hX).trans (o4.below hX)
 have m4 := Hm2.out.below HL.out b34
 have hc4 : RChg L ev0 W00 ev0 W := HC2.out.trans (.below b34)
 have HX : Hid (FRow L ev0 W X 85 #[.int .i64 tag, .int .i64 nn]) := ⟨Hm2.out.far_new hX r4.lt, r4⟩
 have x0 := r4.cellv (i := 0) (v := .int .i64 tag) rfl
 have x1 := r4.cellv (i := 1) (v := .int .i64 nn) rfl
 have Hm := Lh m4
 have HC := Lh hc4
 clear b3 b34 o4 rX c0 hX Hc r4 m4 hc4 HC2 Hm2 hqb Hqb Hroot Hs2
 obtain rfl := Ht.out
 have Hcall := Lh (EntD.at1 h1 Hat.out.kids.head Hm.out)
 go_wp2_with fail
 refine Hcall.out.mono ?_
 rintro e Wa ⟨rfl, eva, hma, hca⟩
 replace HX := Lh (HX.out.go HL.out hca)
 replace HC := Lh (HC.out.trans hca)
 clear Hcall x0 x1 Hm h1
 have Hm := Lh hma
 have x0 := HX.out.2.cellv (i := 0) (v := .int .i64 6) rfl
 have x1 := HX.out.2.cellv (i := 1) (v := .int .i64 nn) rfl
 clear hma hca
 rw [QA ho]
 have Ho := Lh ho
 have ew : IntKind.i64.wrap (1 - v) = 1 - v := IntWalk.i64_in _ (by omega)
 clear ho hv
 go_wp2
 go_ret
 rw [QA Ho.out]
 exact ⟨rfl, eva, Hm.out, HC.out⟩
theorem Age (L : Lay) (hL : DOk L) (x : Nd) (a b : Tr) (s t1 : Ms) (hg : s.go) (ht : x.tag = 18) (h1 : EntD L a s.tick 0 t1) (ho : t1.out = none) : EntD L (.node x [a, b]) s 0 t1 := by
 obtain ⟨tag, nn⟩ := x
 dsimp only at ht ⊢
 have Ht := Lh ht
 clear ht
 intro q ev0 W00 hat h
 have HL := Lh hL
 have Hat := Lh hat
 have hF := hL.F
 have hsum := h.sum
 have hbl := hL.blen
 have hql : q < L.p.body.length := hat.lt
 have hd : ¬ L.F ≤ s.steps := by have := hg.2; omega
 have ews : IntKind.i64.wrap ((s.steps : Int) + 1) = (s.steps : Int) + 1 := IntWalk.i64_in _ (by omega)
 have ewq : IntKind.i64.wrap ((q : Int) + 1) = (q : Int) + 1 := IntWalk.i64_in _ (by omega)
 have Hqb : Hid ((q : Int) < (L.p.body.length : Int)) := by show (q : Int) < _; omega
 have Hs2 : Hid (s.tick.steps + s.tick.fuel = L.F) := by show _ = _; have := hg.2; simp only [Ms.tick]; omega
 have Hroot : Hid (L.p.body[q]? = some ⟨tag, nn⟩) := hat.root
 have c2 := h.row.cellv (i := 2) (v := .int .i64 (L.F : Int)) rfl
 have c5 := h.row.cellv (i := 5) (v := .int .i64 (s.steps : Int)) rfl
 have Hm00 := Lh h
 have Hg := Lh hg
 clear h hat hL hF hsum hbl hql hg
 go_enter Tryz.func119, Tryz.ntmps119
 go_wp2_with fail
 go_quiet (fail)
 obtain ⟨W0, hW0⟩ : ∃ W0, W0 = W00.drewN nq := ⟨_, rfl⟩
 rw [← hW0]
 have hm0 : DR L s ev0 W0 := by rw [hW0]; exact Hm00.out.drew HL.out _
 have hc0 : RChg L ev0 W00 ev0 W0 := by rw [hW0]; exact .below ⟨rfl, rfl, rfl, Nat.le_refl _, fun _ _ => rfl⟩
 have Hm0 := Lh hm0
 have HC0 := Lh hc0
 replace c5 := hm0.row.cellv (i := 5) (v := .int .i64 (s.steps : Int)) rfl
 clear hm0 hc0 hW0 c2 Hm00 hd
 go_wp2_with (refine Ql _ _ _ rfl ?_)
 refine Stop.to ?_
 refine Qk rfl 3 _ _ rfl L.M 5 rfl _ rfl [.int .i64 ((s.steps : Int) + 1)] rfl 108 _ (L.dcells s.tick ev0) Hm0.out.row (by kernel_rfl) (by show 5 + 1 ≤ 7; omega) (by simp [Value.oneCell']) rfl ?_
 intro W2 r2 o2
 have m2 : DR L s.tick ev0 W2 := Hm0.out.setM HL.out o2 r2 rfl rfl rfl Hs2.out (by simp [Ms.tick])
 have Hm2 := Lh m2
 have HC2 : Hid (RChg L ev0 W00 ev0 W2) := HC0.out.trans (RChg.only o2 (.inl rfl))
 have c0 := m2.row.cellv (i := 0) (v := .slice L.p.ba L.p.body.length L.p.bcap) rfl
 have hok2 := HL.out.pok W2 m2.im
 obtain ⟨ad, had, hc⟩ := QS hok2.brd Hroot.out
 have Hc := Lh hc
 have hqb := Hqb.out
 rw [had] at c0
 clear m2 hok2 r2 o2 c5 ews hc had Hm0 HC0
 go_wp2_with (first
  | (refine Qo rfl 85 _ rfl (ad.add (q * 2)) rfl (Nd.cells ⟨tag, nn⟩) _ Hc.out Tryz.underlying85 rfl (by kernel_rfl) ?_)
  | (refine Qy _ rfl ?_))
 refine Stop.to ?_
 refine Qi rfl 85 rfl _ _ QZ rfl ?_
 intro X W3 hX rX b3
 go_wp2_with (refine Ql _ _ _ rfl ?_)
 refine Stop.to ?_
 refine Qj rfl 85 _ _ rfl X (Nd.cells ⟨tag, nn⟩).toArray rfl rfl 85 _ rX (by kernel_rfl) rfl (by simp [Nd.cells, Value.oneCell']) ?_
 intro W r4 o4
 have b34 : Below W2.heap.size W2 W := (b3.mono hX).trans (o4.below hX)
 have m4 := Hm2.out.below HL.out b34
 have hc4 : RChg L ev0 W00 ev0 W := HC2.out.trans (.below b34)
 have HX : Hid (FRow L ev0 W X 85 #[.int .i64 tag, .int .i64 nn]) := ⟨Hm2.out.far_new hX r4.lt, r4⟩
 have x0 := r4.cellv (i := 0) (v := .int .i64 tag) rfl
 have x1 := r4.cellv (i := 1) (v := .int .i64 nn) rfl
 have Hm := Lh m4
 have HC := Lh hc4
 clear b3 b34 o4 rX c0 hX Hc r4 m4 hc4 HC2 Hm2 hqb Hqb Hroot Hs2
 obtain rfl := Ht.out
 have Hcall := Lh (EntD.at1 h1 Hat.out.kids.head Hm.out)
 go_wp2_with fail
 refine Hcall.out.mono ?_
 rintro e Wa ⟨rfl, eva, hma, hca⟩
 replace HX := Lh (HX.out.go HL.out hca)
 replace HC := Lh (HC.out.trans hca)
 clear Hcall x0 x1 Hm h1
 have Hm := Lh hma
 have x0 := HX.out.2.cellv (i := 0) (v := .int .i64 18) rfl
 have x1 := HX.out.2.cellv (i := 1) (v := .int .i64 nn) rfl
 clear hma hca
 rw [QA ho]
 have Ho := Lh ho
 clear ho
 go_wp2_with fail
 refine (KO _ _).mono ?_
 rintro e w' ⟨rfl, rfl⟩
 go_wp2
 go_ret
 rw [QA Ho.out]
 exact ⟨rfl, eva, Hm.out, HC.out⟩
theorem Agy (L : Lay) (hL : DOk L) (x : Nd) (a b : Tr) (s t1 : Ms) (hg : s.go) (ht : x.tag = 19) (h1 : EntD L a s.tick 1 t1) (ho : t1.out = none) : EntD L (.node x [a, b]) s 1 t1 := by
 obtain ⟨tag, nn⟩ := x
 dsimp only at ht ⊢
 have Ht := Lh ht
 clear ht
 intro q ev0 W00 hat h
 have HL := Lh hL
 have Hat := Lh hat
 have hF := hL.F
 have hsum := h.sum
 have hbl := hL.blen
 have hql : q < L.p.body.length := hat.lt
 have hd : ¬ L.F ≤ s.steps := by have := hg.2; omega
 have ews : IntKind.i64.wrap ((s.steps : Int) + 1) = (s.steps : Int) + 1 := IntWalk.i64_in _ (by omega)
 have ewq : IntKind.i64.wrap ((q : Int) + 1) = (q : Int) + 1 := IntWalk.i64_in _ (by omega)
 have Hqb : Hid ((q : Int) < (L.p.body.length : Int)) := by show (q : Int) < _; omega
 have Hs2 : Hid (s.tick.steps + s.tick.fuel = L.F) := by show _ = _; have := hg.2; simp only [Ms.tick]; omega
 have Hroot : Hid (L.p.body[q]? = some ⟨tag, nn⟩) := hat.root
 have c2 := h.row.cellv (i := 2) (v := .int .i64 (L.F : Int)) rfl
 have c5 := h.row.cellv (i := 5) (v := .int .i64 (s.steps : Int)) rfl
 have Hm00 := Lh h
 have Hg := Lh hg
 clear h hat hL hF hsum hbl hql hg
 go_enter Tryz.func119, Tryz.ntmps119
 go_wp2_with fail
 go_quiet (fail)
 obtain ⟨W0, hW0⟩ : ∃ W0, W0 = W00.drewN nq := ⟨_, rfl⟩
 rw [← hW0]
 have hm0 : DR L s ev0 W0 := by rw [hW0]; exact Hm00.out.drew HL.out _
 have hc0 : RChg L ev0 W00 ev0 W0 := by rw [hW0]; exact .below ⟨rfl, rfl, rfl, Nat.le_refl _, fun _ _ => rfl⟩
 have Hm0 := Lh hm0
 have HC0 := Lh hc0
 replace c5 := hm0.row.cellv (i := 5) (v := .int .i64 (s.steps : Int)) rfl
 clear hm0 hc0 hW0 c2 Hm00 hd
 go_wp2_with (refine Ql _ _ _ rfl ?_)
 refine Stop.to ?_
 refine Qk rfl 3 _ _ rfl L.M 5 rfl _ rfl [.int .i64 ((s.steps : Int) + 1)] rfl 108 _ (L.dcells s.tick ev0) Hm0.out.row (by kernel_rfl) (by show 5 + 1 ≤ 7; omega) (by simp [Value.oneCell']) rfl ?_
 intro W2 r2 o2
 have m2 : DR L s.tick ev0 W2 := Hm0.out.setM HL.out o2 r2 rfl rfl rfl Hs2.out (by simp [Ms.tick])
 have Hm2 := Lh m2
 have HC2 : Hid (RChg L ev0 W00 ev0 W2) := HC0.out.trans (RChg.only o2 (.inl rfl))
 have c0 := m2.row.cellv (i := 0) (v := .slice L.p.ba L.p.body.length L.p.bcap) rfl
 have hok2 := HL.out.pok W2 m2.im
 obtain ⟨ad, had, hc⟩ := QS hok2.brd Hroot.out
 have Hc := Lh hc
 have hqb := Hqb.out
 rw [had] at c0
 clear m2 hok2 r2 o2 c5 ews hc had Hm0 HC0
 go_wp2_with (first
  | (refine Qo rfl 85 _ rfl (ad.add (q * 2)) rfl (Nd.cells ⟨tag, nn⟩) _ Hc.out Tryz.underlying85 rfl (by kernel_rfl) ?_)
  | (refine Qy _ rfl ?_))
 refine Stop.to ?_
 refine Qi rfl 85 rfl _ _ QZ rfl ?_
 intro X W3 hX rX b3
 go_wp2_with (refine Ql _ _ _ rfl ?_)
 refine Stop.to ?_
 refine Qj rfl 85 _ _ rfl X (Nd.cells ⟨tag, nn⟩).toArray rfl rfl 85 _ rX (by kernel_rfl) rfl (by simp [Nd.cells, Value.oneCell']) ?_
 intro W r4 o4
 have b34 : Below W2.heap.size W2 W := (b3.mono hX).trans (o4.below hX)
 have m4 := Hm2.out.below HL.out b34
 have hc4 : RChg L ev0 W00 ev0 W := HC2.out.trans (.below b34)
 have HX : Hid (FRow L ev0 W X 85 #[.int .i64 tag, .int .i64 nn]) := ⟨Hm2.out.far_new hX r4.lt, r4⟩
 have x0 := r4.cellv (i := 0) (v := .int .i64 tag) rfl
 have x1 := r4.cellv (i := 1) (v := .int .i64 nn) rfl
 have Hm := Lh m4
 have HC := Lh hc4
 clear b3 b34 o4 rX c0 hX Hc r4 m4 hc4 HC2 Hm2 hqb Hqb Hroot Hs2
 obtain rfl := Ht.out
 have Hcall := Lh (EntD.at1 h1 Hat.out.kids.head Hm.out)
 go_wp2_with fail
 refine Hcall.out.mono ?_
 rintro e Wa ⟨rfl, eva, hma, hca⟩
 replace HX := Lh (HX.out.go HL.out hca)
 replace HC := Lh (HC.out.trans hca)
 clear Hcall x0 x1 Hm h1
 have Hm := Lh hma
 have x0 := HX.out.2.cellv (i := 0) (v := .int .i64 19) rfl
 have x1 := HX.out.2.cellv (i := 1) (v := .int .i64 nn) rfl
 clear hma hca
 rw [QA ho]
 have Ho := Lh ho
 clear ho
 go_wp2_with fail
 refine (KO _ _).mono ?_
 rintro e w' ⟨rfl, rfl⟩
 go_wp2
 go_ret
 rw [QA Ho.out]
 exact ⟨rfl, eva, Hm.out, HC.out⟩
theorem AfW (L : Lay) (hL : DOk L) (x : Nd) (a b : Tr) (s t1 s2 : Ms) (v u : Int) (hg : s.go) (ht : x.tag = 18) (h1 : EntD L a s.tick v t1) (ho : t1.out = none) (hv : v ≠ 0) (h2 : EntD L b t1 u s2) : EntD L (.node x [a, b]) s u s2 := by
 obtain ⟨tag, nn⟩ := x
 dsimp only at ht ⊢
 have Ht := Lh ht
 clear ht
 have ev : (v == tr false) = false := by show (v == 0) = false; simpa using hv
 clear hv
 intro q ev0 W00 hat h
 have HL := Lh hL
 have Hat := Lh hat
 have hF := hL.F
 have hsum := h.sum
 have hbl := hL.blen
 have hql : q < L.p.body.length := hat.lt
 have hd : ¬ L.F ≤ s.steps := by have := hg.2; omega
 have ews : IntKind.i64.wrap ((s.steps : Int) + 1) = (s.steps : Int) + 1 := IntWalk.i64_in _ (by omega)
 have ewq : IntKind.i64.wrap ((q : Int) + 1) = (q : Int) + 1 := IntWalk.i64_in _ (by omega)
 have Hqb : Hid ((q : Int) < (L.p.body.length : Int)) := by show (q : Int) < _; omega
 have Hs2 : Hid (s.tick.steps + s.tick.fuel = L.F) := by show _ = _; have := hg.2; simp only [Ms.tick]; omega
 have Hroot : Hid (L.p.body[q]? = some ⟨tag, nn⟩) := hat.root
 have c2 := h.row.cellv (i := 2) (v := .int .i64 (L.F : Int)) rfl
 have c5 := h.row.cellv (i := 5) (v := .int .i64 (s.steps : Int)) rfl
 have Hm00 := Lh h
 have Hg := Lh hg
 clear h hat hL hF hsum hbl hql hg
 go_enter Tryz.func119, Tryz.ntmps119
 go_wp2_with fail
 go_quiet (fail)
 obtain ⟨W0, hW0⟩ : ∃ W0, W0 = W00.drewN nq := ⟨_, rfl⟩
 rw [← hW0]
 have hm0 : DR L s ev0 W0 := by rw [hW0]; exact Hm00.out.drew HL.out _
 have hc0 : RChg L ev0 W00 ev0 W0 := by rw [hW0]; exact .below ⟨rfl, rfl, rfl, Nat.le_refl _, fun _ _ => rfl⟩
 have Hm0 := Lh hm0
 have HC0 := Lh hc0
 replace c5 := hm0.row.cellv (i := 5) (v := .int .i64 (s.steps : Int)) rfl
 clear hm0 hc0 hW0 c2 Hm00 hd
 go_wp2_with (refine Ql _ _ _ rfl ?_)
 refine Stop.to ?_
 refine Qk rfl 3 _ _ rfl L.M 5 rfl _ rfl [.int .i64 ((s.steps : Int) + 1)] rfl 108 _ (L.dcells s.tick ev0) Hm0.out.row (by kernel_rfl) (by show 5 + 1 ≤ 7; omega) (by simp [Value.oneCell']) rfl ?_
 intro W2 r2 o2
 have m2 : DR L s.tick ev0 W2 := Hm0.out.setM HL.out o2 r2 rfl rfl rfl Hs2.out (by simp [Ms.tick])
 have Hm2 := Lh m2
 have HC2 : Hid (RChg L ev0 W00 ev0 W2) := HC0.out.trans (RChg.only o2 (.inl rfl))
 have c0 := m2.row.cellv (i := 0) (v := .slice L.p.ba L.p.body.length L.p.bcap) rfl
 have hok2 := HL.out.pok W2 m2.im
 obtain ⟨ad, had, hc⟩ := QS hok2.brd Hroot.out
 have Hc := Lh hc
 have hqb := Hqb.out
 rw [had] at c0
 clear m2 hok2 r2 o2 c5 ews hc had Hm0 HC0
 go_wp2_with (first
  | (refine Qo rfl 85 _ rfl (ad.add (q * 2)) rfl (Nd.cells ⟨tag, nn⟩) _ Hc.out Tryz.underlying85 rfl (by kernel_rfl) ?_)
  | (refine Qy _ rfl ?_))
 refine Stop.to ?_
 refine Qi rfl 85 rfl _ _ QZ rfl ?_
 intro X W3 hX rX b3
 go_wp2_with (refine Ql _ _ _ rfl ?_)
 refine Stop.to ?_
 refine Qj rfl 85 _ _ rfl X (Nd.cells ⟨tag, nn⟩).toArray rfl rfl 85 _ rX (by kernel_rfl) rfl (by simp [Nd.cells, Value.oneCell']) ?_
 intro W r4 o4
 have b34 : Below W2.heap.size W2 W := (b3.mono hX).trans (o4.below hX)
 have m4 := Hm2.out.below HL.out b34
 have hc4 : RChg L ev0 W00 ev0 W := HC2.out.trans (.below b34)
 have HX : Hid (FRow L ev0 W X 85 #[.int .i64 tag, .int .i64 nn]) := ⟨Hm2.out.far_new hX r4.lt, r4⟩
 have x0 := r4.cellv (i := 0) (v := .int .i64 tag) rfl
 have x1 := r4.cellv (i := 1) (v := .int .i64 nn) rfl
 have Hm := Lh m4
 have HC := Lh hc4
 clear b3 b34 o4 rX c0 hX Hc r4 m4 hc4 HC2 Hm2 hqb Hqb Hroot Hs2
 obtain rfl := Ht.out
 obtain ⟨qn, hqn, hatn⟩ := X0 Hat.out (i := 1) (k := b) rfl
 have Hcall := Lh (EntD.at1 h1 Hat.out.kids.head Hm.out)
 go_wp2_with fail
 refine Hcall.out.mono ?_
 rintro e Wa ⟨rfl, eva, hma, hca⟩
 replace HX := Lh (HX.out.go HL.out hca)
 replace HC := Lh (HC.out.trans hca)
 clear Hcall x0 x1 Hm h1
 have Hm := Lh hma
 have x0 := HX.out.2.cellv (i := 0) (v := .int .i64 18) rfl
 have x1 := HX.out.2.cellv (i := 1) (v := .int .i64 nn) rfl
 clear hma hca
 rw [QA ho]
 have Ho := Lh ho
 clear ho
 go_wp2_with fail
 refine (KO _ _).mono ?_
 rintro e w' ⟨rfl, rfl⟩
 go_wp2_with fail
 refine (Aaz L HL.out t1 eva q _ [a, b] 1 1 rfl qn Wa Hm.out Hat.out hqn).mono ?_
 rintro e Wb ⟨rfl, bb⟩
 have Hm2 := Lh (Hm.out.below HL.out bb)
 have hcb : RChg L eva Wa eva Wb := RChg.below bb
 have HC2 := Lh (HC.out.trans hcb)
 clear bb hcb Hm HC HX x0 x1 hqn
 have Hcall := Lh (h2 qn eva Wb hatn Hm2.out)
 clear hatn h2 ewq
 go_wp2_with fail
 refine Hcall.out.mono ?_
 rintro e Wc ⟨rfl, evc, hmc, hcc⟩
 have Hm := Lh hmc
 have HC := Lh (HC2.out.trans hcc)
 clear hmc hcc Hm2 HC2 Hcall
 cases hs2 : s2.out with
 | none =>
  rw [QA hs2]
  have Hs2 := Lh hs2
  clear hs2
  go_wp2
  go_ret
  exact ⟨(QA Hs2.out).symm, evc, Hm.out, HC.out⟩
 | some o =>
  have ho2 : s2.out.isSome = true := by rw [hs2]; rfl
  clear hs2
  obtain ⟨⟨ok, ox⟩, hoo⟩ := Option.isSome_iff_exists.1 ho2
  rw [QO hoo]
  simp only [QV]
  have Hoo := Lh hoo
  clear hoo ho2
  go_wp2
  exact ⟨rfl, (QO Hoo.out).symm, evc, Hm.out, HC.out⟩
theorem Agw (L : Lay) (hL : DOk L) (x : Nd) (a b : Tr) (s t1 s2 : Ms) (v u : Int) (hg : s.go) (ht : x.tag = 19) (h1 : EntD L a s.tick v t1) (ho : t1.out = none) (hv : v ≠ 1) (h2 : EntD L b t1 u s2) : EntD L (.node x [a, b]) s u s2 := by
 obtain ⟨tag, nn⟩ := x
 dsimp only at ht ⊢
 have Ht := Lh ht
 clear ht
 have ev : (v == tr true) = false := by show (v == 1) = false; simpa using hv
 clear hv
 intro q ev0 W00 hat h
 have HL := Lh hL
 have Hat := Lh hat
 have hF := hL.F
 have hsum := h.sum
 have hbl := hL.blen
 have hql : q < L.p.body.length := hat.lt
 have hd : ¬ L.F ≤ s.steps := by have := hg.2; omega
 have ews : IntKind.i64.wrap ((s.steps : Int) + 1) = (s.steps : Int) + 1 := IntWalk.i64_in _ (by omega)
 have ewq : IntKind.i64.wrap ((q : Int) + 1) = (q : Int) + 1 := IntWalk.i64_in _ (by omega)
 have Hqb : Hid ((q : Int) < (L.p.body.length : Int)) := by show (q : Int) < _; omega
 have Hs2 : Hid (s.tick.steps + s.tick.fuel = L.F) := by show _ = _; have := hg.2; simp only [Ms.tick]; omega
 have Hroot : Hid (L.p.body[q]? = some ⟨tag, nn⟩) := hat.root
 have c2 := h.row.cellv (i := 2) (v := .int .i64 (L.F : Int)) rfl
 have c5 := h.row.cellv (i := 5) (v := .int .i64 (s.steps : Int)) rfl
 have Hm00 := Lh h
 have Hg := Lh hg
 clear h hat hL hF hsum hbl hql hg
 go_enter Tryz.func119, Tryz.ntmps119
 go_wp2_with fail
 go_quiet (fail)
 obtain ⟨W0, hW0⟩ : ∃ W0, W0 = W00.drewN nq := ⟨_, rfl⟩
 rw [← hW0]
 have hm0 : DR L s ev0 W0 := by rw [hW0]; exact Hm00.out.drew HL.out _
 have hc0 : RChg L ev0 W00 ev0 W0 := by rw [hW0]; exact .below ⟨rfl, rfl, rfl, Nat.le_refl _, fun _ _ => rfl⟩
 have Hm0 := Lh hm0
 have HC0 := Lh hc0
 replace c5 := hm0.row.cellv (i := 5) (v := .int .i64 (s.steps : Int)) rfl
 clear hm0 hc0 hW0 c2 Hm00 hd
 go_wp2_with (refine Ql _ _ _ rfl ?_)
 refine Stop.to ?_
 refine Qk rfl 3 _ _ rfl L.M 5 rfl _ rfl [.int .i64 ((s.steps : Int) + 1)] rfl 108 _ (L.dcells s.tick ev0) Hm0.out.row (by kernel_rfl) (by show 5 + 1 ≤ 7; omega) (by simp [Value.oneCell']) rfl ?_
 intro W2 r2 o2
 have m2 : DR L s.tick ev0 W2 := Hm0.out.setM HL.out o2 r2 rfl rfl rfl Hs2.out (by simp [Ms.tick])
 have Hm2 := Lh m2
 have HC2 : Hid (RChg L ev0 W00 ev0 W2) := HC0.out.trans (RChg.only o2 (.inl rfl))
 have c0 := m2.row.cellv (i := 0) (v := .slice L.p.ba L.p.body.length L.p.bcap) rfl
 have hok2 := HL.out.pok W2 m2.im
 obtain ⟨ad, had, hc⟩ := QS hok2.brd Hroot.out
 have Hc := Lh hc
 have hqb := Hqb.out
 rw [had] at c0
 clear m2 hok2 r2 o2 c5 ews hc had Hm0 HC0
 go_wp2_with (first
  | (refine Qo rfl 85 _ rfl (ad.add (q * 2)) rfl (Nd.cells ⟨tag, nn⟩) _ Hc.out Tryz.underlying85 rfl (by kernel_rfl) ?_)
  | (refine Qy _ rfl ?_))
 refine Stop.to ?_
 refine Qi rfl 85 rfl _ _ QZ rfl ?_
 intro X W3 hX rX b3
 go_wp2_with (refine Ql _ _ _ rfl ?_)
 refine Stop.to ?_
 refine Qj rfl 85 _ _ rfl X (Nd.cells ⟨tag, nn⟩).toArray rfl rfl 85 _ rX (by kernel_rfl) rfl (by simp [Nd.cells, Value.oneCell']) ?_
 intro W r4 o4
 have b34 : Below W2.heap.size W2 W := (b3.mono hX).trans (o4.below hX)
 have m4 := Hm2.out.below HL.out b34
 have hc4 : RChg L ev0 W00 ev0 W := HC2.out.trans (.below b34)
 have HX : Hid (FRow L ev0 W X 85 #[.int .i64 tag, .int .i64 nn]) := ⟨Hm2.out.far_new hX r4.lt, r4⟩
 have x0 := r4.cellv (i := 0) (v := .int .i64 tag) rfl
 have x1 := r4.cellv (i := 1) (v := .int .i64 nn) rfl
 have Hm := Lh m4
 have HC := Lh hc4
 clear b3 b34 o4 rX c0 hX Hc r4 m4 hc4 HC2 Hm2 hqb Hqb Hroot Hs2
 obtain rfl := Ht.out
 obtain ⟨qn, hqn, hatn⟩ := X0 Hat.out (i := 1) (k := b) rfl
 have Hcall := Lh (EntD.at1 h1 Hat.out.kids.head Hm.out)
 go_wp2_with fail
 refine Hcall.out.mono ?_
 rintro e Wa ⟨rfl, eva, hma, hca⟩
 replace HX := Lh (HX.out.go HL.out hca)
 replace HC := Lh (HC.out.trans hca)
 clear Hcall x0 x1 Hm h1
 have Hm := Lh hma
 have x0 := HX.out.2.cellv (i := 0) (v := .int .i64 19) rfl
 have x1 := HX.out.2.cellv (i := 1) (v := .int .i64 nn) rfl
 clear hma hca
 rw [QA ho]
 have Ho := Lh ho
 clear ho
 go_wp2_with fail
 refine (KO _ _).mono ?_
 rintro e w' ⟨rfl, rfl⟩
 go_wp2_with fail
 refine (Aaz L HL.out t1 eva q _ [a, b] 1 1 rfl qn Wa Hm.out Hat.out hqn).mono ?_
 rintro e Wb ⟨rfl, bb⟩
 have Hm2 := Lh (Hm.out.below HL.out bb)
 have hcb : RChg L eva Wa eva Wb := RChg.below bb
 have HC2 := Lh (HC.out.trans hcb)
 clear bb hcb Hm HC HX x0 x1 hqn
 have Hcall := Lh (h2 qn eva Wb hatn Hm2.out)
 clear hatn h2 ewq
 go_wp2_with fail
 refine Hcall.out.mono ?_
 rintro e Wc ⟨rfl, evc, hmc, hcc⟩
 have Hm := Lh hmc
 have HC := Lh (HC2.out.trans hcc)
 clear hmc hcc Hm2 HC2 Hcall
 cases hs2 : s2.out with
 | none =>
  rw [QA hs2]
  have Hs2 := Lh hs2
  clear hs2
  go_wp2
  go_ret
  exact ⟨(QA Hs2.out).symm, evc, Hm.out, HC.out⟩
 | some o =>
  have ho2 : s2.out.isSome = true := by rw [hs2]; rfl
  clear hs2
  obtain ⟨⟨ok, ox⟩, hoo⟩ := Option.isSome_iff_exists.1 ho2
  rw [QO hoo]
  simp only [QV]
  have Hoo := Lh hoo
  clear hoo ho2
  go_wp2
  exact ⟨rfl, (QO Hoo.out).symm, evc, Hm.out, HC.out⟩
theorem eDo (L : Lay) (hL : DOk L) (x : Nd) (ks : List Tr) (s s' : Ms) (hg : s.go) (ht : 20 ≤ x.tag ∧ x.tag ≤ 26) (hdo : DoD L x ks s.tick s') : EntD L (.node x ks) s 0 s' := by
 have Hdo := Lh hdo
 clear hdo
 obtain ⟨tag, nn⟩ := x
 dsimp only at ht ⊢
 have Ht := Lh ht
 clear ht
 intro q ev0 W00 hat h
 have HL := Lh hL
 have Hat := Lh hat
 have hF := hL.F
 have hsum := h.sum
 have hbl := hL.blen
 have hql : q < L.p.body.length := hat.lt
 have hd : ¬ L.F ≤ s.steps := by have := hg.2; omega
 have ews : IntKind.i64.wrap ((s.steps : Int) + 1) = (s.steps : Int) + 1 := IntWalk.i64_in _ (by omega)
 have ewq : IntKind.i64.wrap ((q : Int) + 1) = (q : Int) + 1 := IntWalk.i64_in _ (by omega)
 have Hqb : Hid ((q : Int) < (L.p.body.length : Int)) := by show (q : Int) < _; omega
 have Hs2 : Hid (s.tick.steps + s.tick.fuel = L.F) := by show _ = _; have := hg.2; simp only [Ms.tick]; omega
 have Hroot : Hid (L.p.body[q]? = some ⟨tag, nn⟩) := hat.root
 have c2 := h.row.cellv (i := 2) (v := .int .i64 (L.F : Int)) rfl
 have c5 := h.row.cellv (i := 5) (v := .int .i64 (s.steps : Int)) rfl
 have Hm00 := Lh h
 have Hg := Lh hg
 clear h hat hL hF hsum hbl hql hg
 go_enter Tryz.func119, Tryz.ntmps119
 go_wp2_with fail
 go_quiet (fail)
 obtain ⟨W0, hW0⟩ : ∃ W0, W0 = W00.drewN nq := ⟨_, rfl⟩
 rw [← hW0]
 have hm0 : DR L s ev0 W0 := by rw [hW0]; exact Hm00.out.drew HL.out _
 have hc0 : RChg L ev0 W00 ev0 W0 := by rw [hW0]; exact .below ⟨rfl, rfl, rfl, Nat.le_refl _, fun _ _ => rfl⟩
 have Hm0 := Lh hm0
 have HC0 := Lh hc0
 replace c5 := hm0.row.cellv (i := 5) (v := .int .i64 (s.steps : Int)) rfl
 clear hm0 hc0 hW0 c2 Hm00 hd
 go_wp2_with (refine Ql _ _ _ rfl ?_)
 refine Stop.to ?_
 refine Qk rfl 3 _ _ rfl L.M 5 rfl _ rfl [.int .i64 ((s.steps : Int) + 1)] rfl 108 _ (L.dcells s.tick ev0) Hm0.out.row (by kernel_rfl) (by show 5 + 1 ≤ 7; omega) (by simp [Value.oneCell']) rfl ?_
 intro W2 r2 o2
 have m2 : DR L s.tick ev0 W2 := Hm0.out.setM HL.out o2 r2 rfl rfl rfl Hs2.out (by simp [Ms.tick])
 have Hm2 := Lh m2
 have HC2 : Hid (RChg L ev0 W00 ev0 W2) := HC0.out.trans (RChg.only o2 (.inl rfl))
 have c0 := m2.row.cellv (i := 0) (v := .slice L.p.ba L.p.body.length L.p.bcap) rfl
 have hok2 := HL.out.pok W2 m2.im
 obtain ⟨ad, had, hc⟩ := QS hok2.brd Hroot.out
 have Hc := Lh hc
 have hqb := Hqb.out
 rw [had] at c0
 clear m2 hok2 r2 o2 c5 ews hc had Hm0 HC0
 go_wp2_with (first
  | (refine Qo rfl 85 _ rfl (ad.add (q * 2)) rfl (Nd.cells ⟨tag, nn⟩) _ Hc.out Tryz.underlying85 rfl (by kernel_rfl) ?_)
  | (refine Qy _ rfl ?_))
 refine Stop.to ?_
 refine Qi rfl 85 rfl _ _ QZ rfl ?_
 intro X W3 hX rX b3
 go_wp2_with (refine Ql _ _ _ rfl ?_)
 refine Stop.to ?_
 refine Qj rfl 85 _ _ rfl X (Nd.cells ⟨tag, nn⟩).toArray rfl rfl 85 _ rX (by kernel_rfl) rfl (by simp [Nd.cells, Value.oneCell']) ?_
 intro W r4 o4
 have b34 : Below W2.heap.size W2 W := (b3.mono hX).trans (o4.below hX)
 have m4 := Hm2.out.below HL.out b34
 have hc4 : RChg L ev0 W00 ev0 W := HC2.out.trans (.below b34)
 have HX : Hid (FRow L ev0 W X 85 #[.int .i64 tag, .int .i64 nn]) := ⟨Hm2.out.far_new hX r4.lt, r4⟩
 have x0 := r4.cellv (i := 0) (v := .int .i64 tag) rfl
 have x1 := r4.cellv (i := 1) (v := .int .i64 nn) rfl
 have Hm := Lh m4
 have HC := Lh hc4
 clear b3 b34 o4 rX c0 hX Hc r4 m4 hc4 HC2 Hm2 hqb Hqb Hroot Hs2
 have Hcall := Lh (Hdo.out q ev0 W Hat.out Hm.out)
 have e1 : (tag == 1) = false := by have := Ht.out; simp; omega
 have e2 : (tag == 2) = false := by have := Ht.out; simp; omega
 have e3 : (tag == 3) = false := by have := Ht.out; simp; omega
 have e4 : (tag == 4) = false := by have := Ht.out; simp; omega
 have e5 : (tag == 5) = false := by have := Ht.out; simp; omega
 have e6 : (tag == 6) = false := by have := Ht.out; simp; omega
 have e18 : (tag == 18) = false := by have := Ht.out; simp; omega
 have e19 : (tag == 19) = false := by have := Ht.out; simp; omega
 have e20 : ¬ tag < 20 := by have := Ht.out; omega
 clear x1
 go_wp2_with (refine wpList_load_row rfl 85 _ rfl X rfl 85 #[.int .i64 tag, .int .i64 nn] (0, 0) _ HX.out.2 Tryz.underlying85 rfl (by kernel_rfl) ?_)
 refine Hcall.out.mono ?_
 rintro e Wa ⟨rfl, eva, hma, hca⟩
 have Hm2 := Lh hma
 have HC2 := Lh (HC.out.trans hca)
 clear hma hca Hm HC HX Hcall x0 e1 e2 e3 e4 e5 e6 e18 e19 e20
 cases hs2 : s'.out with
 | none =>
  rw [JA hs2]
  have Hs2 := Lh hs2
  clear hs2
  go_wp2
  go_ret
  exact ⟨(QA Hs2.out).symm, eva, Hm2.out, HC2.out⟩
 | some o =>
  obtain ⟨ok, ox⟩ := o
  rw [ZW hs2]
  simp only [QV]
  have Hs2 := Lh hs2
  clear hs2
  go_wp2
  exact ⟨rfl, (QO Hs2.out).symm, eva, Hm2.out, HC2.out⟩
theorem AaT (L : Lay) (hL : DOk L) (x : Nd) (a b : Tr) (s s' : Ms) (vs : List Int) (u : Int) (hg : s.go) (ht : 7 ≤ x.tag ∧ x.tag ≤ 17) (hch : Jt L [a, b] s.tick vs s') (ho2 : s'.out.isSome = true) : EntD L (.node x [a, b]) s u s' := by
 obtain ⟨tag, nn⟩ := x
 dsimp only at ht ⊢
 have Ht := Lh ht
 clear ht
 have Hch := Lh hch
 have Ho2 := Lh ho2
 clear hch ho2
 intro q ev0 W00 hat h
 have HL := Lh hL
 have Hat := Lh hat
 have hF := hL.F
 have hsum := h.sum
 have hbl := hL.blen
 have hql : q < L.p.body.length := hat.lt
 have hd : ¬ L.F ≤ s.steps := by have := hg.2; omega
 have ews : IntKind.i64.wrap ((s.steps : Int) + 1) = (s.steps : Int) + 1 := IntWalk.i64_in _ (by omega)
 have ewq : IntKind.i64.wrap ((q : Int) + 1) = (q : Int) + 1 := IntWalk.i64_in _ (by omega)
 have Hqb : Hid ((q : Int) < (L.p.body.length : Int)) := by show (q : Int) < _; omega
 have Hs2 : Hid (s.tick.steps + s.tick.fuel = L.F) := by show _ = _; have := hg.2; simp only [Ms.tick]; omega
 have Hroot : Hid (L.p.body[q]? = some ⟨tag, nn⟩) := hat.root
 have c2 := h.row.cellv (i := 2) (v := .int .i64 (L.F : Int)) rfl
 have c5 := h.row.cellv (i := 5) (v := .int .i64 (s.steps : Int)) rfl
 have Hm00 := Lh h
 have Hg := Lh hg
 clear h hat hL hF hsum hbl hql hg
 go_enter Tryz.func119, Tryz.ntmps119
 go_wp2_with fail
 go_quiet (fail)
 obtain ⟨W0, hW0⟩ : ∃ W0, W0 = W00.drewN nq := ⟨_, rfl⟩
 rw [← hW0]
 have hm0 : DR L s ev0 W0 := by rw [hW0]; exact Hm00.out.drew HL.out _
 have hc0 : RChg L ev0 W00 ev0 W0 := by rw [hW0]; exact .below ⟨rfl, rfl, rfl, Nat.le_refl _, fun _ _ => rfl⟩
 have Hm0 := Lh hm0
 have HC0 := Lh hc0
 replace c5 := hm0.row.cellv (i := 5) (v := .int .i64 (s.steps : Int)) rfl
 clear hm0 hc0 hW0 c2 Hm00 hd
 go_wp2_with (refine Ql _ _ _ rfl ?_)
 refine Stop.to ?_
 refine Qk rfl 3 _ _ rfl L.M 5 rfl _ rfl [.int .i64 ((s.steps : Int) + 1)] rfl 108 _ (L.dcells s.tick ev0) Hm0.out.row (by kernel_rfl) (by show 5 + 1 ≤ 7; omega) (by simp [Value.oneCell']) rfl ?_
 intro W2 r2 o2
 have m2 : DR L s.tick ev0 W2 := Hm0.out.setM HL.out o2 r2 rfl rfl rfl Hs2.out (by simp [Ms.tick])
 have Hm2 := Lh m2
 have HC2 : Hid (RChg L ev0 W00 ev0 W2) := HC0.out.trans (RChg.only o2 (.inl rfl))
 have c0 := m2.row.cellv (i := 0) (v := .slice L.p.ba L.p.body.length L.p.bcap) rfl
 have hok2 := HL.out.pok W2 m2.im
 obtain ⟨ad, had, hc⟩ := QS hok2.brd Hroot.out
 have Hc := Lh hc
 have hqb := Hqb.out
 rw [had] at c0
 clear m2 hok2 r2 o2 c5 ews hc had Hm0 HC0
 go_wp2_with (first
  | (refine Qo rfl 85 _ rfl (ad.add (q * 2)) rfl (Nd.cells ⟨tag, nn⟩) _ Hc.out Tryz.underlying85 rfl (by kernel_rfl) ?_)
  | (refine Qy _ rfl ?_))
 refine Stop.to ?_
 refine Qi rfl 85 rfl _ _ QZ rfl ?_
 intro X W3 hX rX b3
 go_wp2_with (refine Ql _ _ _ rfl ?_)
 refine Stop.to ?_
 refine Qj rfl 85 _ _ rfl X (Nd.cells ⟨tag, nn⟩).toArray rfl rfl 85 _ rX (by kernel_rfl) rfl (by simp [Nd.cells, Value.oneCell']) ?_
 intro W r4 o4
 have b34 : Below W2.heap.size W2 W := (b3.mono hX).trans (o4.below hX)
 have m4 := Hm2.out.below HL.out b34
 have hc4 : RChg L ev0 W00 ev0 W := HC2.out.trans (.below b34)
 have HX : Hid (FRow L ev0 W X 85 #[.int .i64 tag, .int .i64 nn]) := ⟨Hm2.out.far_new hX r4.lt, r4⟩
 have x0 := r4.cellv (i := 0) (v := .int .i64 tag) rfl
 have x1 := r4.cellv (i := 1) (v := .int .i64 nn) rfl
 have Hm := Lh m4
 have HC := Lh hc4
 clear b3 b34 o4 rX c0 hX Hc r4 m4 hc4 HC2 Hm2 hqb Hqb Hroot Hs2
 have e1 : (tag == 1) = false := by have := Ht.out; simp; omega
 have e2 : (tag == 2) = false := by have := Ht.out; simp; omega
 have e3 : (tag == 3) = false := by have := Ht.out; simp; omega
 have e4 : (tag == 4) = false := by have := Ht.out; simp; omega
 have e5 : (tag == 5) = false := by have := Ht.out; simp; omega
 have e6 : (tag == 6) = false := by have := Ht.out; simp; omega
 have e18 : (tag == 18) = false := by have := Ht.out; simp; omega
 have e19 : (tag == 19) = false := by have := Ht.out; simp; omega
 have e20 : tag < 20 := by have := Ht.out; omega
 go_wp2_with fail
 refine (XW L HL.out [a, b] q s.tick s' vs 2 rfl ev0 W Hm.out Hat.out.kids Hch.out Hg.out.1 (by simp)).mono ?_
 rintro e Wa ⟨eva, hma, hca, hr⟩
 rcases hr with ⟨ok, ox, hoo, rfl⟩ | ⟨hoo, v, rfl, _⟩
 · simp only [QV]
   have Hoo := Lh hoo
   have HC2 := Lh (HC.out.trans hca)
   have Hm2 := Lh hma
   clear hoo hma hca Hm HC HX x0 x1 e1 e2 e3 e4 e5 e6 e18 e19 e20
   go_wp2
   exact ⟨rfl, (QO Hoo.out).symm, eva, Hm2.out, HC2.out⟩
 · exact absurd Ho2.out (by rw [hoo]; simp)
theorem Agl (L : Lay) (hL : DOk L) (x : Nd) (a b : Tr) (s s2 : Ms) (v u c : Int) (hg : s.go) (ht : 7 ≤ x.tag ∧ x.tag ≤ 17) (hch : Jt L [a, b] s.tick [v, u] s2) (ho2 : s2.out = none) (hp : Za x.tag v u = some c) : EntD L (.node x [a, b]) s c s2 := by
 have Hp := Lh hp
 clear hp
 obtain ⟨tag, nn⟩ := x
 dsimp only at ht ⊢
 have Ht := Lh ht
 clear ht
 have Hch := Lh hch
 have Ho2 := Lh ho2
 clear hch ho2
 intro q ev0 W00 hat h
 have HL := Lh hL
 have Hat := Lh hat
 have hF := hL.F
 have hsum := h.sum
 have hbl := hL.blen
 have hql : q < L.p.body.length := hat.lt
 have hd : ¬ L.F ≤ s.steps := by have := hg.2; omega
 have ews : IntKind.i64.wrap ((s.steps : Int) + 1) = (s.steps : Int) + 1 := IntWalk.i64_in _ (by omega)
 have ewq : IntKind.i64.wrap ((q : Int) + 1) = (q : Int) + 1 := IntWalk.i64_in _ (by omega)
 have Hqb : Hid ((q : Int) < (L.p.body.length : Int)) := by show (q : Int) < _; omega
 have Hs2 : Hid (s.tick.steps + s.tick.fuel = L.F) := by show _ = _; have := hg.2; simp only [Ms.tick]; omega
 have Hroot : Hid (L.p.body[q]? = some ⟨tag, nn⟩) := hat.root
 have c2 := h.row.cellv (i := 2) (v := .int .i64 (L.F : Int)) rfl
 have c5 := h.row.cellv (i := 5) (v := .int .i64 (s.steps : Int)) rfl
 have Hm00 := Lh h
 have Hg := Lh hg
 clear h hat hL hF hsum hbl hql hg
 go_enter Tryz.func119, Tryz.ntmps119
 go_wp2_with fail
 go_quiet (fail)
 obtain ⟨W0, hW0⟩ : ∃ W0, W0 = W00.drewN nq := ⟨_, rfl⟩
 rw [← hW0]
 have hm0 : DR L s ev0 W0 := by rw [hW0]; exact Hm00.out.drew HL.out _
 have hc0 : RChg L ev0 W00 ev0 W0 := by rw [hW0]; exact .below ⟨rfl, rfl, rfl, Nat.le_refl _, fun _ _ => rfl⟩
 have Hm0 := Lh hm0
 have HC0 := Lh hc0
 replace c5 := hm0.row.cellv (i := 5) (v := .int .i64 (s.steps : Int)) rfl
 clear hm0 hc0 hW0 c2 Hm00 hd
 go_wp2_with (refine Ql _ _ _ rfl ?_)
 refine Stop.to ?_
 refine Qk rfl 3 _ _ rfl L.M 5 rfl _ rfl [.int .i64 ((s.steps : Int) + 1)] rfl 108 _ (L.dcells s.tick ev0) Hm0.out.row (by kernel_rfl) (by show 5 + 1 ≤ 7; omega) (by simp [Value.oneCell']) rfl ?_
 intro W2 r2 o2
 have m2 : DR L s.tick ev0 W2 := Hm0.out.setM HL.out o2 r2 rfl rfl rfl Hs2.out (by simp [Ms.tick])
 have Hm2 := Lh m2
 have HC2 : Hid (RChg L ev0 W00 ev0 W2) := HC0.out.trans (RChg.only o2 (.inl rfl))
 have c0 := m2.row.cellv (i := 0) (v := .slice L.p.ba L.p.body.length L.p.bcap) rfl
 have hok2 := HL.out.pok W2 m2.im
 obtain ⟨ad, had, hc⟩ := QS hok2.brd Hroot.out
 have Hc := Lh hc
 have hqb := Hqb.out
 rw [had] at c0
 clear m2 hok2 r2 o2 c5 ews hc had Hm0 HC0
 go_wp2_with (first
  | (refine Qo rfl 85 _ rfl (ad.add (q * 2)) rfl (Nd.cells ⟨tag, nn⟩) _ Hc.out Tryz.underlying85 rfl (by kernel_rfl) ?_)
  | (refine Qy _ rfl ?_))
 refine Stop.to ?_
 refine Qi rfl 85 rfl _ _ QZ rfl ?_
 intro X W3 hX rX b3
 go_wp2_with (refine Ql _ _ _ rfl ?_)
 refine Stop.to ?_
 refine Qj rfl 85 _ _ rfl X (Nd.cells ⟨tag, nn⟩).toArray rfl rfl 85 _ rX (by kernel_rfl) rfl (by simp [Nd.cells, Value.oneCell']) ?_
 intro W r4 o4
 have b34 : Below W2.heap.size W2 W := (b3.mono hX).trans (o4.below hX)
 have m4 := Hm2.out.below HL.out b34
 have hc4 : RChg L ev0 W00 ev0 W := HC2.out.trans (.below b34)
 have HX : Hid (FRow L ev0 W X 85 #[.int .i64 tag, .int .i64 nn]) := ⟨Hm2.out.far_new hX r4.lt, r4⟩
 have x0 := r4.cellv (i := 0) (v := .int .i64 tag) rfl
 have x1 := r4.cellv (i := 1) (v := .int .i64 nn) rfl
 have Hm := Lh m4
 have HC := Lh hc4
 clear b3 b34 o4 rX c0 hX Hc r4 m4 hc4 HC2 Hm2 hqb Hqb Hroot Hs2
 have e1 : (tag == 1) = false := by have := Ht.out; simp; omega
 have e2 : (tag == 2) = false := by have := Ht.out; simp; omega
 have e3 : (tag == 3) = false := by have := Ht.out; simp; omega
 have e4 : (tag == 4) = false := by have := Ht.out; simp; omega
 have e5 : (tag == 5) = false := by have := Ht.out; simp; omega
 have e6 : (tag == 6) = false := by have := Ht.out; simp; omega
 have e18 : (tag == 18) = false := by have := Ht.out; simp; omega
 have e19 : (tag == 19) = false := by have := Ht.out; simp; omega
 have e20 : tag < 20 := by have := Ht.out; omega
 go_wp2_with fail
 refine (XW L HL.out [a, b] q s.tick s2 [v, u] 2 rfl ev0 W Hm.out Hat.out.kids Hch.out Hg.out.1 (by simp)).mono ?_
 rintro e Wa ⟨eva, hma, hca, hr⟩
 rcases hr with ⟨ok, ox, hoo, rfl⟩ | ⟨_, lv, rfl, hown⟩
 · exact absurd hoo (by rw [Ho2.out]; simp)
 obtain ⟨A, cap, rfl, hrd⟩ := hown.frd
 obtain ⟨ad, rfl, hc0⟩ := QR (k := 0) (x := v) hrd.1 rfl
 obtain ⟨ad', had, hc1⟩ := QR (k := 1) (x := u) hrd.1 rfl
 injection had with had
 subst had
 replace hc0 : Wa.cell? ad = some (.int .i64 v) := hc0
 replace hc1 : Wa.cell? ⟨ad.block, ad.off + 1, none⟩ = some (.int .i64 u) := by simpa [Addr.add] using hc1
 have HX2 := Lh (HX.out.go HL.out hca)
 have HC2 := Lh (HC.out.trans hca)
 have Hm2 := Lh hma
 have x0 := HX2.out.2.cellv (i := 0) (v := .int .i64 tag) rfl
 clear hma hca Hm HC HX ewq hrd hown x1 e1 e2 e3 e4 e5 e6 e18 e19 e20
 go_wp2_with fail
 refine QI 8 (by kernel_rfl) (by kernel_rfl) ?_
 simp only [List.take_succ_cons, List.take_zero, List.drop_succ_cons, List.drop_zero]
 have key : ∀ a u, Wa.cell? a = some u → Wa.drew.cell? a = some u := fun _ _ h => h
 replace x0 := key _ _ x0
 replace hc0 := key _ _ hc0
 replace hc1 := key _ _ hc1
 have hcd : RChg L eva Wa eva Wa.drew := RChg.below ⟨rfl, rfl, rfl, Nat.le_refl _, fun _ _ => rfl⟩
 have HC3 := Lh (HC2.out.trans hcd)
 have Hm3 := Lh (Hm2.out.drew1 HL.out)
 clear key hcd HC2 Hm2 HX2
 generalize Wa.drew = Wd at *
 repeat still_step
 refine wpStill_nil ?_
 go_wp2_with fail
 refine (Adw tag v u c _ Ht.out Hp.out).mono ?_
 rintro e w' ⟨rfl, rfl⟩
 go_wp2
 go_ret
 exact ⟨(QA Ho2.out).symm, eva, Hm3.out, HC3.out⟩
theorem Afh (L : Lay) (hL : DOk L) (x : Nd) (a b : Tr) (s s2 : Ms) (v u : Int) (hg : s.go) (ht : 7 ≤ x.tag ∧ x.tag ≤ 17) (hch : Jt L [a, b] s.tick [v, u] s2) (ho2 : s2.out = none) (hp : Za x.tag v u = none) : EntD L (.node x [a, b]) s 0 (s2.stop 1 0) := by
 have Hp := Lh hp
 clear hp
 obtain ⟨tag, nn⟩ := x
 dsimp only at ht ⊢
 have Ht := Lh ht
 clear ht
 have Hch := Lh hch
 have Ho2 := Lh ho2
 clear hch ho2
 intro q ev0 W00 hat h
 have HL := Lh hL
 have Hat := Lh hat
 have hF := hL.F
 have hsum := h.sum
 have hbl := hL.blen
 have hql : q < L.p.body.length := hat.lt
 have hd : ¬ L.F ≤ s.steps := by have := hg.2; omega
 have ews : IntKind.i64.wrap ((s.steps : Int) + 1) = (s.steps : Int) + 1 := IntWalk.i64_in _ (by omega)
 have ewq : IntKind.i64.wrap ((q : Int) + 1) = (q : Int) + 1 := IntWalk.i64_in _ (by omega)
 have Hqb : Hid ((q : Int) < (L.p.body.length : Int)) := by show (q : Int) < _; omega
 have Hs2 : Hid (s.tick.steps + s.tick.fuel = L.F) := by show _ = _; have := hg.2; simp only [Ms.tick]; omega
 have Hroot : Hid (L.p.body[q]? = some ⟨tag, nn⟩) := hat.root
 have c2 := h.row.cellv (i := 2) (v := .int .i64 (L.F : Int)) rfl
 have c5 := h.row.cellv (i := 5) (v := .int .i64 (s.steps : Int)) rfl
 have Hm00 := Lh h
 have Hg := Lh hg
 clear h hat hL hF hsum hbl hql hg
 go_enter Tryz.func119, Tryz.ntmps119
 go_wp2_with fail
 go_quiet (fail)
 obtain ⟨W0, hW0⟩ : ∃ W0, W0 = W00.drewN nq := ⟨_, rfl⟩
 rw [← hW0]
 have hm0 : DR L s ev0 W0 := by rw [hW0]; exact Hm00.out.drew HL.out _
 have hc0 : RChg L ev0 W00 ev0 W0 := by rw [hW0]; exact .below ⟨rfl, rfl, rfl, Nat.le_refl _, fun _ _ => rfl⟩
 have Hm0 := Lh hm0
 have HC0 := Lh hc0
 replace c5 := hm0.row.cellv (i := 5) (v := .int .i64 (s.steps : Int)) rfl
 clear hm0 hc0 hW0 c2 Hm00 hd
 go_wp2_with (refine Ql _ _ _ rfl ?_)
 refine Stop.to ?_
 refine Qk rfl 3 _ _ rfl L.M 5 rfl _ rfl [.int .i64 ((s.steps : Int) + 1)] rfl 108 _ (L.dcells s.tick ev0) Hm0.out.row (by kernel_rfl) (by show 5 + 1 ≤ 7; omega) (by simp [Value.oneCell']) rfl ?_
 intro W2 r2 o2
 have m2 : DR L s.tick ev0 W2 := Hm0.out.setM HL.out o2 r2 rfl rfl rfl Hs2.out (by simp [Ms.tick])
 have Hm2 := Lh m2
 have HC2 : Hid (RChg L ev0 W00 ev0 W2) := HC0.out.trans (RChg.only o2 (.inl rfl))
 have c0 := m2.row.cellv (i := 0) (v := .slice L.p.ba L.p.body.length L.p.bcap) rfl
 have hok2 := HL.out.pok W2 m2.im
 obtain ⟨ad, had, hc⟩ := QS hok2.brd Hroot.out
 have Hc := Lh hc
 have hqb := Hqb.out
 rw [had] at c0
 clear m2 hok2 r2 o2 c5 ews hc had Hm0 HC0
 go_wp2_with (first
  | (refine Qo rfl 85 _ rfl (ad.add (q * 2)) rfl (Nd.cells ⟨tag, nn⟩) _ Hc.out Tryz.underlying85 rfl (by kernel_rfl) ?_)
  | (refine Qy _ rfl ?_))
 refine Stop.to ?_
 refine Qi rfl 85 rfl _ _ QZ rfl ?_
 intro X W3 hX rX b3
 go_wp2_with (refine Ql _ _ _ rfl ?_)
 refine Stop.to ?_
 refine Qj rfl 85 _ _ rfl X (Nd.cells ⟨tag, nn⟩).toArray rfl rfl 85 _ rX (by kernel_rfl) rfl (by simp [Nd.cells, Value.oneCell']) ?_
 intro W r4 o4
 have b34 : Below W2.heap.size W2 W := (b3.mono hX).trans (o4.below hX)
 have m4 := Hm2.out.below HL.out b34
 have hc4 : RChg L ev0 W00 ev0 W := HC2.out.trans (.below b34)
 have HX : Hid (FRow L ev0 W X 85 #[.int .i64 tag, .int .i64 nn]) := ⟨Hm2.out.far_new hX r4.lt, r4⟩
 have x0 := r4.cellv (i := 0) (v := .int .i64 tag) rfl
 have x1 := r4.cellv (i := 1) (v := .int .i64 nn) rfl
 have Hm := Lh m4
 have HC := Lh hc4
 clear b3 b34 o4 rX c0 hX Hc r4 m4 hc4 HC2 Hm2 hqb Hqb Hroot Hs2
 have e1 : (tag == 1) = false := by have := Ht.out; simp; omega
 have e2 : (tag == 2) = false := by have := Ht.out; simp; omega
 have e3 : (tag == 3) = false := by have := Ht.out; simp; omega
 have e4 : (tag == 4) = false := by have := Ht.out; simp; omega
 have e5 : (tag == 5) = false := by have := Ht.out; simp; omega
 have e6 : (tag == 6) = false := by have := Ht.out; simp; omega
 have e18 : (tag == 18) = false := by have := Ht.out; simp; omega
 have e19 : (tag == 19) = false := by have := Ht.out; simp; omega
 have e20 : tag < 20 := by have := Ht.out; omega
 go_wp2_with fail
 refine (XW L HL.out [a, b] q s.tick s2 [v, u] 2 rfl ev0 W Hm.out Hat.out.kids Hch.out Hg.out.1 (by simp)).mono ?_
 rintro e Wa ⟨eva, hma, hca, hr⟩
 rcases hr with ⟨ok, ox, hoo, rfl⟩ | ⟨_, lv, rfl, hown⟩
 · exact absurd hoo (by rw [Ho2.out]; simp)
 obtain ⟨A, cap, rfl, hrd⟩ := hown.frd
 obtain ⟨ad, rfl, hc0⟩ := QR (k := 0) (x := v) hrd.1 rfl
 obtain ⟨ad', had, hc1⟩ := QR (k := 1) (x := u) hrd.1 rfl
 injection had with had
 subst had
 replace hc0 : Wa.cell? ad = some (.int .i64 v) := hc0
 replace hc1 : Wa.cell? ⟨ad.block, ad.off + 1, none⟩ = some (.int .i64 u) := by simpa [Addr.add] using hc1
 have HX2 := Lh (HX.out.go HL.out hca)
 have HC2 := Lh (HC.out.trans hca)
 have Hm2 := Lh hma
 have x0 := HX2.out.2.cellv (i := 0) (v := .int .i64 tag) rfl
 clear hma hca Hm HC HX ewq hrd hown x1 e1 e2 e3 e4 e5 e6 e18 e19 e20
 go_wp2_with fail
 refine QI 8 (by kernel_rfl) (by kernel_rfl) ?_
 simp only [List.take_succ_cons, List.take_zero, List.drop_succ_cons, List.drop_zero]
 have key : ∀ a u, Wa.cell? a = some u → Wa.drew.cell? a = some u := fun _ _ h => h
 replace x0 := key _ _ x0
 replace hc0 := key _ _ hc0
 replace hc1 := key _ _ hc1
 have hcd : RChg L eva Wa eva Wa.drew := RChg.below ⟨rfl, rfl, rfl, Nat.le_refl _, fun _ _ => rfl⟩
 have HC3 := Lh (HC2.out.trans hcd)
 have Hm3 := Lh (Hm2.out.drew1 HL.out)
 clear key hcd HC2 Hm2 HX2
 generalize Wa.drew = Wd at *
 repeat still_step
 refine wpStill_nil ?_
 go_wp2_with fail
 refine (Abs tag v u _ Hp.out).mono ?_
 rintro e w' ⟨rfl, rfl⟩
 simp only [QV]
 go_wp2
 exact ⟨rfl, rfl, eva, Hm3.out.stop _ _, HC3.out⟩
end Go.Proofs.YtdcmppdhdcjpfaaGreat
