/- Lemmas for VerdictMoreP. -/
import Derived.Test.YtdcmppdhdcjpfaaGreatZr23
import Derived.Test.YtdcmppdhdcjpfaaGreatZr2
import Derived.Test.YtdcmppdhdcjpfaaGreatZr1
set_option linter.unusedVariables false
set_option linter.unusedSimpArgs false
set_option maxRecDepth 100000
set_option maxHeartbeats 16000000
namespace Go.Proofs.YtdcmppdhdcjpfaaGreat
open Go.RowKit Go.Deep
theorem Uz (L : Lay) (hL : LOk L) (m : Mm) (n : Nat) (i : Int) (W : World) (h : MRx L m W) (hs : LenS L.p.V m.s) (hn : n < m.s.arrs.length) (hb : i < 0 ∨ ((m.s.arr (n : Int)).length : Int) ≤ i) : Calls Tryz.prog 123 #[.pointer (some ⟨L.M, 0, none⟩), .int .i64 (n : Int), .int .i64 i] W fun e W' => e = .returned (.pointer none) ∧ MRx L ⟨m.s.stop 2 0, m.stack⟩ W' ∧ Only L.M W W' := by
 obtain ⟨fs, sv, ev, hfs, hm⟩ := h
 have hst := VB L hL m 2 0 W ⟨fs, sv, ev, hfs, hm⟩
 obtain ⟨g, hg⟩ : ∃ g, L.ab[n]? = some g := ⟨_, List.getElem?_eq_getElem (by rw [hL.alen, ← hs.alen]; exact hn)⟩
 obtain ⟨ad, t, had, ht, hc⟩ := hL.arrs W hm.core.im n g hg
 have hal := hs.arr_len (n := (n : Int)) (t := t) (by rw [Int.toNat_natCast]; exact ht)
 have hlen : (m.s.arr (n : Int)).length = (QU t).toNat := by omega
 rw [hlen] at hb
 have hnl : (n : Int) < (L.ab.length : Int) := by have := (List.getElem?_eq_some_iff.1 hg).1; omega
 have c5 := hm.row.cellv (i := 5) (v := .slice L.aa L.ab.length L.acap) rfl
 rw [had] at c5
 have Hst := Lh hst
 clear hst hm hL hs hg ht hal hlen hn hfs had
 by_cases h0 : i < 0
 · clear hb
   go_enter Tryz.func123, Tryz.ntmps123
   go_wp2_with fail
   refine Hst.out.mono ?_
   rintro e W2 ⟨⟨u, rfl⟩, h2, g2⟩
   have G2 := Lh g2
   have H2 := Lh h2
   clear h2 g2
   go_wp2
   go_ret
   exact ⟨rfl, H2.out, G2.out⟩
 · have h0' : 0 ≤ i := by omega
   have hb' : ((QU t).toNat : Int) ≤ i := by omega
   clear hb h0
   generalize (QU t).toNat = sz at *
   go_enter Tryz.func123, Tryz.ntmps123
   go_wp2_with fail
   refine Hst.out.mono ?_
   rintro e W2 ⟨⟨u, rfl⟩, h2, g2⟩
   have G2 := Lh g2
   have H2 := Lh h2
   clear h2 g2
   go_wp2
   go_ret
   exact ⟨rfl, H2.out, G2.out⟩
theorem Aad (L : Lay) (hL : LOk L) (m : Mm) (n i : Nat) (g : Nat) (W : World) (h : MRx L m W) (hs : LenS L.p.V m.s) (hg : L.ab[n]? = some g) (hb : i < (m.s.arr (n : Int)).length) : Calls Tryz.prog 123 #[.pointer (some ⟨L.M, 0, none⟩), .int .i64 (n : Int), .int .i64 (i : Int)] W fun e W' => e = .returned (.pointer (some ⟨g, i, none⟩)) ∧ W = W' := by
 obtain ⟨fs, sv, ev, hfs, hm⟩ := h
 obtain ⟨ad, t, had, ht, hc⟩ := hL.arrs W hm.core.im n g hg
 have hal := hs.arr_len (n := (n : Int)) (t := t) (by rw [Int.toNat_natCast]; exact ht)
 have hlen : (m.s.arr (n : Int)).length = (QU t).toNat := by omega
 rw [hlen] at hb
 have hnl : (n : Int) < (L.ab.length : Int) := by have := (List.getElem?_eq_some_iff.1 hg).1; omega
 have c5 := hm.row.cellv (i := 5) (v := .slice L.aa L.ab.length L.acap) rfl
 rw [had] at c5
 clear hm hL hs hg ht hal hlen hfs had
 generalize (QU t).toNat = sz at *
 have hb' : (i : Int) < (sz : Int) := by omega
 clear hb
 go_enter Tryz.func123, Tryz.ntmps123
 go_wp2
 go_ret
 exact ⟨rfl, rfl⟩
theorem Acg (M : Nat) (v at_ x : Int) (W : World) : Calls Tryz.prog 124 #[.pointer (some ⟨M, 0, none⟩), .pointer none, .int .i64 v, .int .i64 at_, .int .i64 x] W fun e W' => (∃ u, e = .returned u) ∧ W = W' := by
 go_enter Tryz.func124, Tryz.ntmps124
 go_wp2
 go_end0
 exact ⟨⟨_, rfl⟩, rfl⟩
theorem Ahm : (Tryz.prog.info? 189).map (fun i => (i.zero, i.size, i.bytes)) = some (some (.agg #[.int .i64 0, .int .i64 0, .int .i64 0]), 3, 24) := by kernel_rfl
theorem AaH (e : EvV) : ∀ u ∈ e.cells, u.oneCell' = true := by
 intro u hu
 simp only [EvV.cells, List.mem_cons, List.not_mem_nil, or_false] at hu
 rcases hu with rfl | rfl | rfl <;> rfl
theorem Agu (cur : Array Value) (k : Nat) (u : Value) (hk : k < cur.size) : ZD cur k [u] = cur.setIfInBounds k u := by
 unfold ZD
 apply Array.toList_inj.1
 simp only [List.length_singleton, Array.toList_setIfInBounds]
 rw [List.set_eq_take_append_cons_drop, if_pos (by simpa using hk)]; simp
theorem Aac (L : Lay) (hL : LOk L) (s1 s2 : Ms) (fs : List FrV) (sv ev : Value) (g k : Nat) (cur : Array Value) (v at_ x : Int) (W : World) (hg : Row W g 3 cur) (hk : k < cur.size)
 (hst : ∀ W1, Only g W W1 → Row W1 g 3 (cur.setIfInBounds k (.int .i64 x)) → MR L s1 fs sv ev W1 ∧ Chg L W W1)
 (h1 : s2.vals = s1.vals) (h2 : s2.arrs = s1.arrs) (h3 : s2.steps = s1.steps) (h4 : s2.fuel = s1.fuel) (h5 : s2.evs = s1.evs ++ [⟨v, at_, x⟩]) (h6 : s1.evs.length + fs.length < s1.steps) (h7 : s2.out = s1.out) :
 Calls Tryz.prog 124 #[.pointer (some ⟨L.M, 0, none⟩), .pointer (some ⟨g, k, none⟩), .int .i64 v, .int .i64 at_, .int .i64 x] W fun e W' => (∃ u, e = .returned u) ∧ (∃ sv ev, MR L s2 fs sv ev W') ∧ Chg L W W' := by
 obtain ⟨i0, hi0, hz0, hz1, hz2⟩ := info_parts Ahm
 have Hst := Lh hst
 have HL := Lh hL
 have Hg := Lh hg
 have Hput := Lh (Agu cur k (.int .i64 x) hk)
 have H1 := Lh h1
 have H2 := Lh h2
 have H3 := Lh h3
 have H4 := Lh h4
 have H5 := Lh h5
 have H7 := Lh h7
 have hF := hL.F
 clear hst hL hg h1 h2 h3 h4 h5 h7
 go_enter Tryz.func124, Tryz.ntmps124
 go_wp2_with (refine QD _ _ _ rfl ?_)
 refine Stop.to ?_
 refine QJ rfl 3 _ _ rfl g k rfl _ rfl [.int .i64 x] rfl 3 _ _ Hg.out (by kernel_rfl) (by simp; omega) (by simp [Value.oneCell']) Hput.out ?_
 intro W1 r1 o1
 obtain ⟨hm1, g1⟩ := Hst.out W1 o1 r1
 have Hm1 := Lh hm1
 have G1 := Lh g1
 have c11 := hm1.row.cellv (i := 11) (v := ev) rfl
 have hsum := hm1.core.sum
 have hb1 := hm1.core.size
 have hel : s1.evs.length ≤ 20001 := by omega
 have ha := hm1.core.evs.alloc (.cells (EvV.cells ⟨v, at_, x⟩).toArray 189)
 have HA := Lh ha
 clear hm1 g1 r1 o1 ha hsum Hst Hg Hput hk
 go_wp2_with (at_builtin; refine wpList_append_own_at _ rfl (.tmp 20) (.tmp 25) 38 rfl L.b1 189 i0 _ 3 24 Tryz.underlying38 hi0 hz0 hz1 hz2 rfl (by decide) ev s1.evs.length (s1.evs.flatMap EvV.cells) rfl HA.out ⟨W1.heap.size, 0, none⟩ 1 1 (EvV.cells ⟨v, at_, x⟩) rfl rfl (Jz _ _ _) (AaH _) (by unfold maxLen; omega) (by omega) (by simp; omega) ?_)
 intro ev' W3 hown hg _ hat
 have b2 : Below W1.heap.size W1 (W1.alloc (.cells (EvV.cells ⟨v, at_, x⟩).toArray 189)) := (Below.refl _ _).alloc (Nat.le_refl _) _
 have hm2 := Hm1.out.below HL.out b2
 have k3 := hm2.core.grownEvs (s' := s2) HL.out hg (by rw [H5.out]; simpa using hown) H1.out H2.out H3.out H4.out (by rw [H5.out, H3.out]; simp; omega)
 have r3 := hm2.row.grown hg (Qz hm2.core.evs hm2.row (by decide))
 have s3 := Q5 hm2.stack hg (Za hm2.stack hm2.core.evs (by decide))
 have g3 := (G1.out.trans (Chg.below (L := L) (b2.mono hb1))).trans (.grown hg (by simp; omega) (fun k e => QN HA.out e))
 have hov := Jl hown
 have K3 := Lh k3
 have R3 := Lh r3
 have S3 := Lh s3
 have G3 := Lh g3
 clear hown hg hat b2 hm2 k3 r3 s3 g3 HA Hm1 G1 c11
 go_wp2_with (refine QD _ _ _ rfl ?_)
 refine Stop.to ?_
 refine QJ rfl 38 _ _ rfl L.M 11 rfl _ rfl [ev'] (by cases ev' <;> first | rfl | cases hov) 125 _ (L.cells s2 sv ev') R3.out (by kernel_rfl) (by show 11 + 1 ≤ 14; omega) (by simpa using hov) (by unfold Lay.cells; rw [H3.out, H7.out]; rfl) ?_
 intro W4 r4 o4
 have m4 : MR L s2 fs sv ev' W4 := ⟨r4, QA S3.out o4 (fun e => by have := QN S3.out e; have := HL.out.lt; omega), K3.out.only HL.out o4⟩
 have M4 := Lh m4
 have G4 := Lh (G3.out.trans (.only o4 (.inr (.inl rfl))))
 clear m4 r4 o4 K3 R3 S3 G3
 go_wp2
 go_end0
 exact ⟨⟨_, rfl⟩, ⟨sv, ev', M4.out⟩, G4.out⟩
structure TopF (L : Lay) (W : World) (M SB o : Nat) (q : Nat) (kid : Nat) (fv : Value) (tag : Int) (kd : Addr) (nk : Nat) (pos : List Nat) : Prop where
 c3 : ∃ ka, L.ka = some ka ∧ W.cell? ⟨L.M, 3, none⟩ = some (.slice (some ka) L.p.body.length L.kcap) ∧ ∃ A cap, W.cell? (ka.add q) = some (.slice A nk cap) ∧ (0 < nk → A = some kd)
 c2 : ∃ bd, W.cell? ⟨L.M, 2, none⟩ = some (.slice (some bd) L.p.body.length L.p.bcap) ∧ W.cell? (bd.add (q * 2)) = some (.int .i64 tag)
 a0 : W.cell? ⟨SB, o, none⟩ = some (.int .i64 (q : Int))
 a1 : W.cell? ⟨SB, o + 1, none⟩ = some (.int .i64 (kid : Int))
 a2 : W.cell? ⟨SB, o + 2, none⟩ = some fv
 ql : (q : Int) < (L.p.body.length : Int)
 kl : (kid : Int) < 1000000
 pl : pos.length = nk
 pc : ∀ (i k : Nat), pos[i]? = some k → W.cell? (kd.add i) = some (.int .i64 (k : Int))
theorem Ajh {L : Lay} (hL : LOk L) {s : Ms} {x : FrV} {r : List FrV} {sv ev : Value} {W : World} {SB cap : Nat} {cur : Array Value} (hm : MR L s (x :: r) sv ev W) (ht : Top L W x r sv SB cap cur) (hat : At L.p.body x.f.at_ x.f.t) (hk : x.f.kid < 1000000) :
 ∃ kd, TopF L W L.M SB (r.length * 3) x.f.at_ x.f.kid x.v x.f.t.root.tag kd x.f.t.kids.length (Ze (x.f.at_ + 1) x.f.t.kids) := by
 obtain ⟨ka, A, kcap, hka, hkc, hkr⟩ := hL.kids W hm.core.im x.f.at_ x.f.t hat
 obtain ⟨bd, hbd, hcx⟩ := Jq (hL.pok W hm.core.im).brd hat.root
 have hc0 := hcx 0 (.int .i64 x.f.t.root.tag) rfl
 rw [show (bd.add (x.f.at_ * 2)).add 0 = bd.add (x.f.at_ * 2) by rw [JG]; simp] at hc0
 have e3 : W.cell? ⟨L.M, 3, none⟩ = some (.slice L.ka L.p.body.length L.kcap) := hm.row.cellv rfl
 have e2 : W.cell? ⟨L.M, 2, none⟩ = some (.slice L.p.ba L.p.body.length L.p.bcap) := hm.row.cellv rfl
 rw [hka] at e3
 rw [hbd] at e2
 have hlen : (Ze (x.f.at_ + 1) x.f.t.kids).length = x.f.t.kids.length := JF _ _
 refine ⟨A.getD ⟨0, 0, none⟩, ⟨ka, hka, e3, A, kcap, hkc, fun h0 => ?_⟩, ⟨bd, e2, hc0⟩, by have := ht.cell 0 _ rfl; simpa using this, ht.cell 1 _ rfl, ht.cell 2 _ rfl, by have := hat.lt; omega, by omega, hlen, fun i k hik => ?_⟩
 · obtain ⟨k, hk0⟩ : ∃ k, (Ze (x.f.at_ + 1) x.f.t.kids)[0]? = some k := ⟨_, List.getElem?_eq_getElem (by omega)⟩
   obtain ⟨ad, had, _⟩ := Zf (l := JC (Ze (x.f.at_ + 1) x.f.t.kids)) hkr (k := 0) (x := (k : Int)) (by simp [JC, hk0])
   rw [had]; rfl
 · obtain ⟨ad, had, hc⟩ := Zf (l := JC (Ze (x.f.at_ + 1) x.f.t.kids)) hkr (k := i) (x := (k : Int)) (by simp [JC, hik])
   rw [had]; exact hc
theorem AdA (L : Lay) (SB o q kid : Nat) (fv : Value) (tag : Int) (kd : Addr) (nk : Nat) (pos : List Nat) (k : Nat) (W : World) (h : TopF L W L.M SB o q kid fv tag kd nk pos) (hkid : kid < nk) (hk : pos[kid]? = some k)
 (h1 : ¬ (tag = 23 ∧ 1 ≤ kid)) (h2 : kid = 1 → KX tag → ∃ vd n cap v, fv = .slice (some vd) (n + 1) cap ∧ W.cell? vd = some (.int .i64 v) ∧ ¬ YY tag v) :
 Calls Tryz.prog 61 #[.pointer (some ⟨L.M, 0, none⟩), .pointer (some ⟨SB, o, none⟩)] W fun e W' => ∃ n, e = .returned (.tuple #[.int .i64 (k : Int), .bool true]) ∧ W' = W.drewN n := by
 obtain ⟨⟨ka, hka, c3, A, kcap, ck, hA⟩, ⟨bd, c2, ct⟩, a0, a1, a2, ql, kl, pl, pc⟩ := h
 obtain rfl := hA (by omega)
 have ck2 := pc kid k hk
 have hkI : (kid : Int) < (nk : Int) := by omega
 clear pc hk hka pl hA
 by_cases hk1 : kid = 1
 · by_cases hasks : KX tag
   · obtain ⟨vd, n, cap, v, rfl, cv, hs⟩ := h2 hk1 hasks
     have hcases : (tag = 18 ∧ v ≠ 0) ∨ (tag = 19 ∧ v ≠ 1) ∨ (tag = 24 ∧ v ≠ 0) := by unfold KX at hasks; unfold YY at hs; omega
     have ek1 : ((kid : Int) == 1) = true := by simp; omega
     clear h1 h2 hasks hs hkid hk1
     rcases hcases with ⟨rfl, hv⟩ | ⟨rfl, hv⟩ | ⟨rfl, hv⟩
     · have ev : (v == 0) = false := by simpa using hv
       clear hv
       go_enter Tryz.func61, Tryz.ntmps61
       go_wp2_with fail
       go_quiet (fail)
       go_wp2_with fail
       go_quiet (fail)
       go_wp2
       go_ret2
       exact ⟨_, rfl, rfl⟩
     · have ev : (v == 1) = false := by simpa using hv
       clear hv
       go_enter Tryz.func61, Tryz.ntmps61
       go_wp2_with fail
       go_quiet (fail)
       go_wp2_with fail
       go_quiet (fail)
       go_wp2
       go_ret2
       exact ⟨_, rfl, rfl⟩
     · have ev : (v == 0) = false := by simpa using hv
       clear hv
       go_enter Tryz.func61, Tryz.ntmps61
       go_wp2_with fail
       go_quiet (fail)
       go_wp2_with fail
       go_quiet (fail)
       go_wp2
       go_ret2
       exact ⟨_, rfl, rfl⟩
   · have hne : tag ≠ 18 ∧ tag ≠ 19 ∧ tag ≠ 24 ∧ tag ≠ 23 := by unfold KX at hasks; omega
     have e18 : (tag == 18) = false := by simpa using hne.1
     have e19 : (tag == 19) = false := by simpa using hne.2.1
     have e24 : (tag == 24) = false := by simpa using hne.2.2.1
     have e23 : (tag == 23) = false := by simpa using hne.2.2.2
     have ek1 : ((kid : Int) == 1) = true := by simp; omega
     clear h1 h2 hasks hne hkid hk1
     go_enter Tryz.func61, Tryz.ntmps61
     go_wp2_with fail
     go_quiet (fail)
     go_wp2_with fail
     go_quiet (fail)
     go_wp2
     go_ret2
     exact ⟨_, rfl, rfl⟩
 · have ek1 : ((kid : Int) == 1) = false := by simp; omega
   by_cases h23 : tag = 23
   · have eg : decide ((1 : Int) < (kid : Int)) = false := by simp; omega
     have eg' : ¬ ((1 : Int) < (kid : Int)) := by omega
     subst h23
     clear h1 h2 hk1 hkid
     go_enter Tryz.func61, Tryz.ntmps61
     go_wp2_with fail
     go_quiet (fail)
     go_wp2_with fail
     go_quiet (fail)
     go_wp2
     go_ret2
     exact ⟨_, rfl, rfl⟩
   · have e23 : (tag == 23) = false := by simpa using h23
     clear h1 h2 hk1 h23 hkid
     go_enter Tryz.func61, Tryz.ntmps61
     go_wp2_with fail
     go_quiet (fail)
     go_wp2_with fail
     go_quiet (fail)
     go_wp2
     go_ret2
     exact ⟨_, rfl, rfl⟩
theorem Ace (L : Lay) (SB o q kid : Nat) (fv : Value) (tag : Int) (kd : Addr) (nk : Nat) (pos : List Nat) (i k : Nat) (v : Int) (vd : Addr) (n cap : Nat) (W : World) (h : TopF L W L.M SB o q kid fv tag kd nk pos) (hk : pos[i]? = some k)
 (ht : tag = 23) (h1 : kid = 1) (hf : fv = .slice (some vd) (n + 1) cap) (cv : W.cell? vd = some (.int .i64 v)) (hv : v = 0 ∨ v = 1) (hi : (i : Int) = 2 - v) :
 Calls Tryz.prog 61 #[.pointer (some ⟨L.M, 0, none⟩), .pointer (some ⟨SB, o, none⟩)] W fun e W' => ∃ n, e = .returned (.tuple #[.int .i64 (k : Int), .bool true]) ∧ W' = W.drewN n := by
 subst ht hf
 obtain ⟨⟨ka, hka, c3, A, kcap, ck, hA⟩, ⟨bd, c2, ct⟩, a0, a1, a2, ql, kl, pl, pc⟩ := h
 have hil : i < nk := by have := (List.getElem?_eq_some_iff.1 hk).1; omega
 obtain rfl := hA (by omega)
 have ck2 := pc i k hk
 have hkI : (i : Int) < (nk : Int) := by omega
 have ek1 : ((kid : Int) == 1) = true := by simp; omega
 have eg : decide ((1 : Int) < (kid : Int)) = false := by simp; omega
 clear pc hk hka pl hA h1 hil
 rcases hv with rfl | rfl
 · obtain rfl : i = 2 := by omega
   replace ck2 : W.cell? ⟨kd.block, kd.off + 2, none⟩ = some (.int .i64 (k : Int)) := ck2
   clear hi
   go_enter Tryz.func61, Tryz.ntmps61
   go_wp2_with fail
   go_quiet (fail)
   go_wp2_with fail
   go_quiet (fail)
   go_wp2
   go_ret2
   exact ⟨_, rfl, rfl⟩
 · obtain rfl : i = 1 := by omega
   replace ck2 : W.cell? ⟨kd.block, kd.off + 1, none⟩ = some (.int .i64 (k : Int)) := ck2
   clear hi
   go_enter Tryz.func61, Tryz.ntmps61
   go_wp2_with fail
   go_quiet (fail)
   go_wp2_with fail
   go_quiet (fail)
   go_wp2
   go_ret2
   exact ⟨_, rfl, rfl⟩
theorem Acf (L : Lay) (SB o q kid : Nat) (fv : Value) (tag : Int) (kd : Addr) (nk : Nat) (pos : List Nat) (W : World) (h : TopF L W L.M SB o q kid fv tag kd nk pos)
 (h0 : (kid = 1 ∧ ∃ vd n cap v, fv = .slice (some vd) (n + 1) cap ∧ W.cell? vd = some (.int .i64 v) ∧ YY tag v) ∨ (¬ (kid = 1 ∧ KX tag) ∧ ((tag = 23 ∧ 1 < kid) ∨ (tag ≠ 23 ∧ nk ≤ kid)))) :
 Calls Tryz.prog 61 #[.pointer (some ⟨L.M, 0, none⟩), .pointer (some ⟨SB, o, none⟩)] W fun e W' => ∃ n, e = .returned (.tuple #[.int .i64 0, .bool false]) ∧ W' = W.drewN n := by
 obtain ⟨⟨ka, hka, c3, A, kcap, ck, hA⟩, ⟨bd, c2, ct⟩, a0, a1, a2, ql, kl, pl, pc⟩ := h
 clear pc hka pl hA
 rcases h0 with ⟨hk1, vd, n, cap, v, rfl, cv, hs⟩ | ⟨hn, h0⟩
 · have ek1 : ((kid : Int) == 1) = true := by simp; omega
   have hcases : (tag = 18 ∧ v = 0) ∨ (tag = 19 ∧ v = 1) ∨ (tag = 24 ∧ v = 0) := by unfold YY at hs; omega
   clear hs hk1
   rcases hcases with ⟨rfl, rfl⟩ | ⟨rfl, rfl⟩ | ⟨rfl, rfl⟩
   · go_enter Tryz.func61, Tryz.ntmps61
     go_wp2_with fail
     go_quiet (fail)
     go_wp2_with fail
     go_quiet (fail)
     go_wp2
     go_ret2
     exact ⟨_, rfl, rfl⟩
   · go_enter Tryz.func61, Tryz.ntmps61
     go_wp2_with fail
     go_quiet (fail)
     go_wp2_with fail
     go_quiet (fail)
     go_wp2
     go_ret2
     exact ⟨_, rfl, rfl⟩
   · go_enter Tryz.func61, Tryz.ntmps61
     go_wp2_with fail
     go_quiet (fail)
     go_wp2_with fail
     go_quiet (fail)
     go_wp2
     go_ret2
     exact ⟨_, rfl, rfl⟩
 · rcases h0 with ⟨rfl, hg⟩ | ⟨h23, hg⟩
   · have ek1 : ((kid : Int) == 1) = false := by simp; omega
     have eg : decide ((1 : Int) < (kid : Int)) = true := by simp; omega
     have eg' : ((1 : Int) < (kid : Int)) := by omega
     clear hn
     go_enter Tryz.func61, Tryz.ntmps61
     go_wp2_with fail
     go_quiet (fail)
     go_wp2_with fail
     go_quiet (fail)
     go_wp2
     go_ret2
     exact ⟨_, rfl, rfl⟩
   · have e23 : (tag == 23) = false := by simpa using h23
     have el : decide ((kid : Int) < (nk : Int)) = false := by simp; omega
     by_cases hk1 : kid = 1
     · have hne : tag ≠ 18 ∧ tag ≠ 19 ∧ tag ≠ 24 := by unfold KX at hn; omega
       have e18 : (tag == 18) = false := by simpa using hne.1
       have e19 : (tag == 19) = false := by simpa using hne.2.1
       have e24 : (tag == 24) = false := by simpa using hne.2.2
       have ek1 : ((kid : Int) == 1) = true := by simp; omega
       clear hn hne hg hk1 h23
       generalize (kid : Int) = kI at a1 kl ek1 el
       have el2 : (kI < (nk : Int)) = False := by simpa using el
       clear el
       go_enter Tryz.func61, Tryz.ntmps61
       go_wp2_with fail
       go_quiet (fail)
       go_wp2_with fail
       go_quiet (fail)
       go_wp2
       go_ret2
       exact ⟨_, rfl, rfl⟩
     · have ek1 : ((kid : Int) == 1) = false := by simp; omega
       clear hn hg hk1 h23
       generalize (kid : Int) = kI at a1 kl ek1 el
       have el2 : (kI < (nk : Int)) = False := by simpa using el
       clear el
       go_enter Tryz.func61, Tryz.ntmps61
       go_wp2_with fail
       go_quiet (fail)
       go_wp2_with fail
       go_quiet (fail)
       go_wp2
       go_ret2
       exact ⟨_, rfl, rfl⟩
theorem Aat {P : Program} {ops : Array Oper} {S : World → Prop} {a : Act} {o : Oper} (hw : Region.wanted o (yielded ops a.tmps) = true) (ty : TypeId) (x : Operand) (ho : o.op = .load ty x) (ad : Addr) (hx : a.eval x = .pointer (some ad)) (cs : List Value) (d : TypeDesc)
 (hr : ∀ W, S W → ∀ (j : Nat) (v : Value), cs[j]? = some v → W.cell? (ad.add j) = some v) (hu : P.underlying ty = some d) (hd : (match d with | .struct _ | .array _ _ => true | _ => false) = true) (hi : (P.info? ty).map (·.size) = some cs.length) : YieldsIf P ops S o (.agg cs.toArray) a :=
 Qd hw (fun W hW => by simp only [execOp, ho, hx, Instr.loadAt, Instr.sureAddr, Sem.run_bind, Sem.run_pure, Result.andThen_ok, JN W ad ty cs d (hr W hW) hu hd hi])
section
variable {L : Lay} {s : Ms} {x : FrV} {rs : List FrV} {sv ev : Value} {W W' : World} {SB cap : Nat} {cur : Array Value}
theorem MC.drop (h : MC L s (x :: rs) ev W) : MC L s rs ev W :=
 ⟨h.evs, h.vals, h.arrs, fun y hy => h.fr y (List.mem_cons_of_mem _ hy), (List.pairwise_cons.1 h.dist).2, h.im, h.size, h.sum, by have := h.few; simp at this; omega⟩
theorem MR.pop (h : MR L s (x :: rs) sv ev W) (hL : LOk L) (ht : Top L W x rs sv SB cap cur) (o : Only L.M W W') (hr : Row W' L.M 125 (L.cells s (.slice (some ⟨SB, 0, none⟩) rs.length cap) ev)) : MR L s rs (.slice (some ⟨SB, 0, none⟩) rs.length cap) ev W' :=
 ⟨hr, QA ht.pop o (fun e => by have := QN ht.pop e; have := hL.lt; omega), (h.core.only hL o).drop⟩
theorem MR.drew1 (h : MR L s rs sv ev W) (hL : LOk L) : MR L s rs sv ev W.drew := h.below hL ⟨rfl, rfl, rfl, Nat.le_refl _, fun _ _ => rfl⟩
theorem Top.drew1 (h : Top L W x rs sv SB cap cur) : Top L W.drew x rs sv SB cap cur := h.below ⟨rfl, rfl, rfl, Nat.le_refl _, fun _ _ => rfl⟩
theorem Chg.drew1 (h : Chg L W W') : Chg L W W'.drew := h.trans ⟨rfl, rfl, rfl, Nat.le_refl _, fun _ _ _ _ _ => rfl⟩
theorem MR.few1 (h : MR L s (x :: rs) sv ev W) : s.evs.length + rs.length < s.steps := by have := h.core.few; simp at this; omega
theorem MR.setVal (h : MR L s rs sv ev W) (hL : LOk L) (n : Nat) (v : Int) (hn : n < s.vals.length) : ∃ g cap cur, L.vv = .slice (some ⟨g, 0, none⟩) s.vals.length cap ∧ Row W g 3 cur ∧ n < cur.size ∧ ∀ W1, Only g W W1 → Row W1 g 3 (cur.setIfInBounds n (.int .i64 v)) → MR L { s with vals := s.vals.set n v } rs sv ev W1 ∧ Chg L W W1 := by
 rcases h.core.vals.2 with ⟨_, h0⟩ | ⟨g, cap, cur, hv, hb, hh, hc, hm, hsz, ht⟩
 · have := h.core.vals.1; rw [h0] at this; simp [Qi] at this; omega
 · have hgb : L.vv.ownBlock = some g := by rw [hv]; rfl
   refine ⟨g, cap, cur, hv, hh, by omega, fun W1 o r1 => ?_⟩
   have hlt := hL.vlt g hgb
   have ne : ∀ {e : TypeId} {size m : Nat} {u : Value} {xs : List Value}, W.ownsRow L.b1 e size u m xs → W1.ownsRow L.b1 e size u m xs := fun h' => QA h' o (fun e => by have := QN h' e; omega)
   refine ⟨⟨h.row.only o (fun e => hlt.2.1 e.symm), ne h.stack, ⟨ne h.core.evs, ⟨by have := h.core.vals.1; simp [Qi] at this ⊢, .inr ⟨g, cap, _, by simpa using hv, hb, r1, by simpa using hc, hm, by simpa using hsz, ?_⟩⟩, ?_, fun y hy => ne (h.core.fr y hy), h.core.dist, hL.im _ _ h.core.im (.only o (.inr (.inr (.inl hgb)))), by rw [o.size]; exact h.core.size, h.core.sum, h.core.few⟩⟩, .only o (.inr (.inr (.inl hgb)))⟩
   · simp only [Array.toList_setIfInBounds, List.length_set]
     rw [List.take_set, ht]
     simp [Qi, List.map_set]
   · intro i g' a hi ha
     exact (h.core.arrs i g' a hi ha).only o (fun e => hlt.2.2 (by subst e; exact List.mem_of_getElem? hi))
theorem MR.setArr (h : MR L s rs sv ev W) (hL : LOk L) (n i : Nat) (v : Int) (a : List Int) (g : Nat) (hg : L.ab[n]? = some g) (ha : s.arrs[n]? = some a) : Row W g 3 (Qi a).toArray ∧ ∀ W1, Only g W W1 → Row W1 g 3 ((Qi a).toArray.setIfInBounds i (.int .i64 v)) → MR L { s with arrs := s.arrs.set n (a.set i v) } rs sv ev W1 ∧ Chg L W W1 := by
 refine ⟨h.core.arrs n g a hg ha, fun W1 o r1 => ?_⟩
 have hm := List.mem_of_getElem? hg
 have hlt := hL.alt g hm
 have ne : ∀ {e : TypeId} {size m : Nat} {u : Value} {xs : List Value}, W.ownsRow L.b1 e size u m xs → W1.ownsRow L.b1 e size u m xs := fun h' => QA h' o (fun e => by have := QN h' e; omega)
 refine ⟨⟨h.row.only o (fun e => hlt.2 e.symm), ne h.stack, ⟨ne h.core.evs, QA h.core.vals o (fun e => (hL.vlt g e).2.2 hm), ?_, fun y hy => ne (h.core.fr y hy), h.core.dist, hL.im _ _ h.core.im (.only o (.inr (.inr (.inr hm)))), by rw [o.size]; exact h.core.size, h.core.sum, h.core.few⟩⟩, .only o (.inr (.inr (.inr hm)))⟩
 intro j g' b hj hb
 by_cases hjn : j = n
 · subst hjn
   rw [hg] at hj; cases hj
   have hjl : j < s.arrs.length := (List.getElem?_eq_some_iff.1 ha).1
   simp only [List.getElem?_set_self hjl, Option.some.injEq] at hb
   subst hb
   have : (Qi (a.set i v)).toArray = (Qi a).toArray.setIfInBounds i (.int .i64 v) := by simp [Qi, List.map_set]
   rw [this]; exact r1
 · have hb' : s.arrs[j]? = some b := by simpa [List.getElem?_set, Ne.symm hjn] using hb
   refine (h.core.arrs j g' b hj hb').only o (fun e => hjn ?_)
   subst e
   have h1 := List.getElem?_eq_some_iff.1 hg
   have h2 := List.getElem?_eq_some_iff.1 hj
   obtain ⟨l1, e1⟩ := h1
   obtain ⟨l2, e2⟩ := h2
   rcases Nat.lt_trichotomy j n with hl | hl | hl
   · exact absurd (e2.trans e1.symm) (List.pairwise_iff_getElem.1 hL.and j n l2 l1 hl)
   · exact hl
   · exact absurd (e1.trans e2.symm) (List.pairwise_iff_getElem.1 hL.and n j l1 l2 hl)
end
def Lay.rcells (L : Lay) (s : Ms) (ev : Value) : Array Value :=
 #[.int .i64 L.p.params, .slice L.p.va L.p.V.length L.p.vcap, .slice L.p.ba L.p.body.length L.p.bcap, L.vv, .slice L.aa L.ab.length L.acap, .int .i64 (s.fuel : Int), .int .i64 (s.steps : Int), ev,
  .int .i64 (s.out.getD (0, 0)).1, .int .i64 (s.out.getD (0, 0)).2, .bool s.out.isSome]
structure RChg (L : Lay) (ev : Value) (W : World) (ev' : Value) (W' : World) : Prop where
 os : W'.os = W.os
 tape : W'.tape = W.tape
 output : W'.output = W.output
 size : W.heap.size ≤ W'.heap.size
 block : ∀ k, k < W.heap.size → k ≠ L.M → L.vv.ownBlock ≠ some k → k ∉ L.ab → ev.ownBlock ≠ some k → W'.heap[k]? = W.heap[k]?
 evb : ∀ k, ev'.ownBlock = some k → ev.ownBlock = some k ∨ W.heap.size ≤ k
theorem RChg.refl (L : Lay) (ev : Value) (W : World) : RChg L ev W ev W := ⟨rfl, rfl, rfl, Nat.le_refl _, fun _ _ _ _ _ _ => rfl, fun _ h => .inl h⟩
theorem RChg.trans {L : Lay} {a b c : Value} {A B C : World} (h : RChg L a A b B) (k : RChg L b B c C) : RChg L a A c C :=
 ⟨k.os.trans h.os, k.tape.trans h.tape, k.output.trans h.output, Nat.le_trans h.size k.size, fun i h0 h1 h2 h3 h4 => (k.block i (Nat.lt_of_lt_of_le h0 h.size) h1 h2 h3 (fun e => (h.evb i e).elim h4 (fun e => by omega))).trans (h.block i h0 h1 h2 h3 h4), fun i e => (k.evb i e).elim (fun e => h.evb i e) (fun e => .inr (Nat.le_trans h.size e))⟩
theorem RChg.only {L : Lay} {ev : Value} {A B : World} {g : Nat} (o : Only g A B) (h : g = L.M ∨ L.vv.ownBlock = some g ∨ g ∈ L.ab) : RChg L ev A ev B :=
 ⟨o.os, o.tape, o.output, Nat.le_of_eq o.size.symm, fun k _ h2 h3 h4 _ => o.block k (fun e => by subst e; rcases h with h | h | h; exact h2 h; exact h3 h; exact h4 h), fun _ h => .inl h⟩
theorem RChg.below {L : Lay} {ev : Value} {A B : World} (b : Below A.heap.size A B) : RChg L ev A ev B := ⟨b.os, b.tape, b.output, b.size, fun k h1 _ _ _ _ => b.block k h1, fun _ h => .inl h⟩
theorem RChg.grown {L : Lay} {ev ev' : Value} {A B : World} (h : A.grownBy B ev.ownBlock) (ha : ∀ k, ev'.ownBlock = some k → ev.ownBlock = some k ∨ A.heap.size ≤ k) : RChg L ev A ev' B :=
 ⟨h.os, h.tape, h.output, h.size, fun k h1 _ _ _ h4 => h.block k h1 (fun e => h4 e.symm), ha⟩
structure RR (L : Lay) (s : Ms) (ev : Value) (W : World) : Prop where
 row : Row W L.M 201 (L.rcells s ev)
 core : MC L s [] ev W
section
variable {L : Lay} {s s' : Ms} {ev : Value} {W W' : World}
theorem RR.below (h : RR L s ev W) (hL : LOk0 L) (b : Below W.heap.size W W') : RR L s ev W' := ⟨h.row.below b h.row.lt, h.core.below hL b⟩
theorem RR.drew (h : RR L s ev W) (hL : LOk0 L) (n : Nat) : RR L s ev (W.drewN n) := h.below hL ⟨rfl, rfl, rfl, Nat.le_refl _, fun _ _ => rfl⟩
theorem RR.setM (h : RR L s ev W) (hL : LOk0 L) (o : Only L.M W W') (hr : Row W' L.M 201 (L.rcells s' ev))
 (h1 : s'.vals = s.vals) (h2 : s'.arrs = s.arrs) (h3 : s'.evs = s.evs) (h4 : s'.steps + s'.fuel = L.F) (h5 : s.steps ≤ s'.steps) : RR L s' ev W' :=
 ⟨hr, (h.core.only hL o).state h1 h2 h3 h4 h5⟩
theorem RR.few (h : RR L s ev W) : s.evs.length ≤ s.steps := by have := h.core.few; simpa using this
end
end Go.Proofs.YtdcmppdhdcjpfaaGreat
