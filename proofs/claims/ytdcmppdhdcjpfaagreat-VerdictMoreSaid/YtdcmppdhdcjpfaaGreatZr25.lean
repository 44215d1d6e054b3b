/- Lemmas for VerdictMoreP. -/
import Derived.Test.YtdcmppdhdcjpfaaGreatZr1
import Derived.Test.YtdcmppdhdcjpfaaGreatZr24
set_option linter.unusedVariables false
set_option linter.unusedSimpArgs false
set_option maxRecDepth 100000
set_option maxHeartbeats 16000000
namespace Go.Proofs.YtdcmppdhdcjpfaaGreat
open Go.RowKit Go.Deep
theorem Ad3 {w : World} : (zeroValue 128).run Tryz.prog w = .ok (.agg #[.int .i64 0, .int .i64 0, .slice none 0 0]) w := by kernel_rfl
theorem XR {w : World} {b : Nat} {v : Value} {l : List Int} (h : w.ownsRow b 3 1 v l.length (Qi l)) (hl : 0 < l.length) : ∃ g cap, v = .slice (some ⟨g, 0, none⟩) l.length cap ∧ ∀ (i : Nat) (a : Int), l[i]? = some a → w.cell? ⟨g, i, none⟩ = some (.int .i64 a) := by
 rcases h.2 with ⟨_, h0⟩ | ⟨g, cap, cur, hv, hb, hh, hc, hm, hsz, ht⟩
 · omega
 · refine ⟨g, cap, hv, fun i a hi => ?_⟩
   have hil : i < l.length := (List.getElem?_eq_some_iff.1 hi).1
   have hr : Row w g 3 cur := hh
   refine hr.cellv ?_
   have h1 : (Qi l)[i]? = some (.int .i64 a) := by simp [Qi, hi]
   rw [← ht, List.getElem?_take_of_lt (by omega)] at h1
   rw [← Array.getElem?_toList]; exact h1
theorem Y1 {w : World} {b : Nat} {v : Value} {l vs : List Int} {a : Int} (h : w.ownsRow b 3 1 v l.length (Qi l)) (hl : l = a :: vs) : ∃ g cap m, v = .slice (some ⟨g, 0, none⟩) (m + 1) cap ∧ w.cell? ⟨g, 0, none⟩ = some (.int .i64 a) := by
 subst hl
 obtain ⟨g, cap, hv, hc⟩ := XR h (by simp)
 exact ⟨g, cap, vs.length, hv, hc 0 a rfl⟩
theorem AeF {w : World} {b : Nat} {v : Value} {l vs : List Int} {a c : Int} (h : w.ownsRow b 3 1 v l.length (Qi l)) (hl : l = a :: c :: vs) : ∃ g cap m, v = .slice (some ⟨g, 0, none⟩) (m + 1) cap ∧ 1 ≤ m ∧ w.cell? ⟨g, 0, none⟩ = some (.int .i64 a) ∧ w.cell? ⟨g, 1, none⟩ = some (.int .i64 c) := by
 subst hl
 obtain ⟨g, cap, hv, hc⟩ := XR h (by simp)
 exact ⟨g, cap, vs.length + 1, hv, by omega, hc 0 a rfl, hc 1 c rfl⟩
theorem Ajj {w : World} {b : Nat} {v : Value} {l vs : List Int} {a : Int} (h : w.ownsRow b 3 1 v l.length (Qi l)) (hl : l = vs ++ [a]) : ∃ g cap, v = .slice (some ⟨g, 0, none⟩) (vs.length + 1) cap ∧ w.cell? ⟨g, vs.length, none⟩ = some (.int .i64 a) := by
 subst hl
 obtain ⟨g, cap, hv, hc⟩ := XR h (by simp)
 exact ⟨g, cap, by rw [hv]; simp, hc _ a (by simp)⟩
theorem X4 {w w' : World} {g : Nat} {a : Addr} {u : Value} (o : Only g w w') (h : w.cell? a = some u) (hne : a.block ≠ g) : w'.cell? a = some u := by
 simp only [World.cell?] at h ⊢
 rw [o.block _ hne]; exact h
theorem AiC {L : Lay} {W : World} {x : FrV} {rs : List FrV} {sv : Value} {SB cap : Nat} {cur : Array Value} (h : Top L W x rs sv SB cap cur) (j : Nat) (v : Value) (hj : x.cells[j]? = some v) : W.cell? ((⟨SB, rs.length * 3, none⟩ : Addr).add j) = some v := by
 have := h.cell j v hj
 unfold Addr.add
 by_cases h0 : j = 0
 · subst h0; exact this
 · rw [if_neg h0]; exact this
theorem Acd (L : Lay) (hL : LOk L) (s : Ms) (f : Fr) (r : List Fr) (m' : Mm) (W : World) (h : MRx L ⟨s, f :: r⟩ W) (hs : LenS L.p.V s) (hat : At L.p.body f.at_ f.t) (hf : Fin f s r m') (hv : ∀ g ∈ r, g.vals.length ≤ 1000) (hv0 : f.vals.length ≤ 1000) :
 Calls Tryz.prog 62 #[.pointer (some ⟨L.M, 0, none⟩)] W fun e W' => (∃ u, e = .returned u) ∧ MRx L m' W' ∧ Chg L W W' := by
 obtain ⟨fs, sv, ev, hfs, hm⟩ := h
 obtain ⟨x, rs, rfl⟩ : ∃ x rs, fs = x :: rs := by cases fs with
  | nil => simp at hfs
  | cons x rs => exact ⟨x, rs, rfl⟩
 simp only [List.map_cons, List.cons.injEq] at hfs
 obtain ⟨rfl, rfl⟩ := hfs
 obtain ⟨SB, cap, cur, ht⟩ := Abd hm.stack
 have HL := Lh hL
 have hsv := ht.sve
 have hle := ht.le
 have hmx := ht.max
 have few := hm.few1
 have hrl : rs.length ≤ 20001 := by have := hm.core.sum; have := hL.F; dsimp only at *; omega
 have hbl := hL.blen
 have hatl := hat.lt
 obtain ⟨S, hSd⟩ : ∃ S, S = (fun w => MR L s (x :: rs) sv ev w ∧ Top L w x rs sv SB cap cur ∧ Chg L W w) := ⟨_, rfl⟩
 have stS : St S := by rw [hSd]; exact ⟨fun h b => ⟨h.1.below hL b, h.2.1.below b, h.2.2.trans (.below (b.mono h.1.core.size))⟩⟩
 have S0 : Hid (∀ W, S W → MR L s (x :: rs) sv ev W) := by show ∀ W, _; rw [hSd]; exact fun W h => h.1
 have S1 : Hid (∀ W, S W → Top L W x rs sv SB cap cur) := by show ∀ W, _; rw [hSd]; exact fun W h => h.2.1
 have S2 : Hid (∀ w, S w → Chg L W w) := by show ∀ W, _; rw [hSd]; exact fun W h => h.2.2
 have S7 : Hid (∀ w, S w → w.cell? ⟨L.M, 7, none⟩ = some (.slice (some ⟨SB, 0, none⟩) (rs.length + 1) cap)) := by show ∀ W, _; intro w h; rw [← hsv]; exact (S0.out w h).row.cellv (i := 7) (v := sv) rfl
 have hS0 : S W := by rw [hSd]; exact ⟨hm, ht, .refl L W⟩
 have Hat := Lh hat
 have Hs := Lh hs
 have Hf := Lh hf
 have Few := Lh few
 clear hSd hm ht hL hat hs hf few
 go_enter Tryz.func62, Tryz.ntmps62
 go_wp2_with fail
 refine wp_region_held (S := S) (by kernel_rfl) ?_
 simp only [List.size_toArray, List.length_cons, List.length_nil, Nat.reduceAdd, Array.replicate_succ, Array.replicate_zero, List.push_toArray, List.nil_append, List.cons_append]
 show wpAnyH _ _ _ _ _ _ _ _ W.drew
 have hS : S W.drew := St.drew hS0
 clear hS0
 generalize W.drew = wd at hS ⊢
 (refine tkH 0 (.pointer (some ⟨L.M, 0, none⟩)) rfl (Qd rfl (fun W hW => by (go_simp))) ?_; simp only [Act.put, Qa, Qb, Qc])
 (refine tkH 1 (.pointer (some ⟨L.M, 0, none⟩)) rfl (Qd rfl (fun W hW => by (go_simp))) ?_; simp only [Act.put, Qa, Qb, Qc])
 (refine tkH 2 (.pointer (some ⟨L.M, 7, none⟩)) rfl (Qd rfl (fun W hW => by (go_simp))) ?_; simp only [Act.put, Qa, Qb, Qc])
 (refine tkH 3 (.slice (some ⟨SB, 0, none⟩) (rs.length + 1) cap) rfl (Qd rfl (fun W hW => by ((have h := S7.out W hW; go_simp)))) ?_; simp only [Act.put, Qa, Qb, Qc])
 (refine tkH 4 (.pointer (some ⟨L.M, 0, none⟩)) rfl (Qd rfl (fun W hW => by (go_simp))) ?_; simp only [Act.put, Qa, Qb, Qc])
 (refine tkH 5 (.pointer (some ⟨L.M, 0, none⟩)) rfl (Qd rfl (fun W hW => by (go_simp))) ?_; simp only [Act.put, Qa, Qb, Qc])
 (refine tkH 6 (.pointer (some ⟨L.M, 7, none⟩)) rfl (Qd rfl (fun W hW => by (go_simp))) ?_; simp only [Act.put, Qa, Qb, Qc])
 (refine tkH 7 (.slice (some ⟨SB, 0, none⟩) (rs.length + 1) cap) rfl (Qd rfl (fun W hW => by ((have h := S7.out W hW; go_simp)))) ?_; simp only [Act.put, Qa, Qb, Qc])
 (refine tkH 8 (.int .i64 ((rs.length + 1 : Nat) : Int)) rfl (Qd rfl (fun W hW => by (go_simp))) ?_; simp only [Act.put, Qa, Qb, Qc])
 (refine tkH 9 (.int .i64 (rs.length : Int)) rfl (Qd rfl (fun W hW => by (go_simp; try exact IntWalk.i64_in _ (by omega)))) ?_; simp only [Act.put, Qa, Qb, Qc])
 (refine tkH 10 (.pointer (some ⟨SB, rs.length * 3, none⟩)) rfl (Qd rfl (fun W hW => by (go_simp; try omega))) ?_; simp only [Act.put, Qa, Qb, Qc])
 (refine tkH 11 _ rfl (Aat rfl 128 _ rfl ⟨SB, rs.length * 3, none⟩ rfl x.cells _ (fun w hw => AiC (S1.out w hw)) Tryz.underlying128 rfl (by kernel_rfl)) ?_; simp only [Act.put, Qa, Qb, Qc])
 (refine wpAnyH_all (rs := [12]) (by kernel_rfl) (by simp) (fun i hi => ?_); obtain rfl : i = 12 := by simpa using hi)
 refine Qe rfl rfl (fun K2 hK2 => ?_)
 refine Q0 128 rfl _ _ Ad3 rfl ?_
 intro FB w1 hFB r1 b1
 refine hK2 _ _ ?_
 clear hK2 K2
 simp only [Act.put, Qa, Qb, Qc]
 have hS1 : S w1 := stS.go hS (b1.mono hFB)
 have sz1 := (S0.out _ hS).core.size
 refine ⟨hS1, ?_⟩
 (refine wpAnyH_all (rs := [13]) (by kernel_rfl) (by simp) (fun i hi => ?_); obtain rfl : i = 13 := by simpa using hi)
 refine Qe rfl rfl (fun K2 hK2 => ?_)
 have hov := Jl ((S0.out _ hS).core.fr x (by simp))
 refine ZM 128 (.tmp 2) (.tmp 16) rfl FB x.cells.toArray rfl rfl 128 _ r1 (by kernel_rfl) rfl (by have h := List.all_eq_true.2 (Aii x hov); simpa only [List.all_toArray] using h) ?_
 intro w2 r2 o2
 refine hK2 _ _ ?_
 clear hK2 K2
 simp only [Act.put, Qa, Qb, Qc]
 have hS2 : S w2 := stS.go hS (Qo (b1.mono hFB) o2 hFB)
 refine ⟨hS2, ?_⟩
 have hFB1 : L.b1 ≤ FB := by omega
 clear o2 b1 r1 hS hS1 hFB sz1 hov
 refine wpAnyH_done (by kernel_rfl) ?_ _
 have m2 := S0.out _ hS2
 have t2 := S1.out _ hS2
 have c2 := S2.out _ hS2
 have M2 := Lh (m2.drew1 HL.out)
 have T2 := Lh t2.drew1
 have R2 := Lh r2.drew
 have C2 := Lh c2.drew1
 have c7 := M2.out.row.cellv (i := 7) (v := sv) rfl
 rw [hsv] at c7
 clear stS S0 S1 S2 S7 hS2 m2 t2 c2 r2
 clear S wd w1
 go_wp2_with fail
 refine QT 14 (by kernel_rfl) (by kernel_rfl) ?_
 simp only [List.take_succ_cons, List.take_zero, List.drop_succ_cons, List.drop_zero]
 generalize w2.drew = w3 at *
 have ew : IntKind.i64.wrap (rs.length : Int) = (rs.length : Int) := IntWalk.i64_in _ (by omega)
 have hle2 : (rs.length : Int) ≤ (cap : Int) := by omega
 repeat still_step
 refine wpStill_nil ?_
 clear ew c7 hle2
 refine QJ rfl 122 _ _ rfl L.M 7 rfl _ rfl [.slice (some ⟨SB, 0, none⟩) rs.length cap] rfl 125 _ (L.cells s (.slice (some ⟨SB, 0, none⟩) rs.length cap) ev) M2.out.row (by kernel_rfl) (by show 7 + 1 ≤ 14; omega) (by simp [Value.oneCell']) rfl ?_
 intro w4 r4 o4
 obtain ⟨sv2, hsv2⟩ : ∃ sv2, sv2 = Value.slice (some ⟨SB, 0, none⟩) rs.length cap := ⟨_, rfl⟩
 have m4 := M2.out.pop HL.out T2.out o4 r4
 have hxo := QA (M2.out.core.fr x (by simp)) o4 (fun e => by have := QN (M2.out.core.fr x (by simp)) e; have := HL.out.lt; omega)
 have r5 := R2.out.only o4 (by have := HL.out.lt; omega)
 have C4 := Lh (C2.out.trans (.only o4 (.inr (.inl rfl))))
 rw [← hsv2] at m4
 clear hsv2 r4 o4 M2 T2 R2 C2 w3 hle hmx hsv cur
 obtain ⟨S, hSd⟩ : ∃ S, S = (fun w => MR L s rs sv2 ev w ∧ Row w FB 128 x.cells.toArray ∧ w.ownsRow L.b1 3 1 x.v x.f.vals.length (Qi x.f.vals) ∧ Chg L W w) := ⟨_, rfl⟩
 have stS : St S := by rw [hSd]; exact ⟨fun h b => ⟨h.1.below HL.out b, h.2.1.below b h.2.1.lt, Qs h.2.2.1 b, h.2.2.2.trans (.below (b.mono h.1.core.size))⟩⟩
 have S0 : Hid (∀ W, S W → MR L s rs sv2 ev W) := by show ∀ W, _; rw [hSd]; exact fun W h => h.1
 have S1 : Hid (∀ W, S W → Row W FB 128 x.cells.toArray) := by show ∀ W, _; rw [hSd]; exact fun W h => h.2.1
 have S2 : Hid (∀ w, S w → Chg L W w) := by show ∀ W, _; rw [hSd]; exact fun W h => h.2.2.2
 have S3 : Hid (∀ w, S w → w.ownsRow L.b1 3 1 x.v x.f.vals.length (Qi x.f.vals)) := by show ∀ W, _; rw [hSd]; exact fun W h => h.2.2.1
 have hS0 : S w4 := by rw [hSd]; exact ⟨m4, r5, hxo, C4.out⟩
 obtain ⟨bd, hbd, hbd2⟩ := Jq (HL.out.pok _ m4.core.im).brd Hat.out.root
 have S6 : Hid (∀ w, S w → w.cell? ⟨L.M, 2, none⟩ = some (.slice (some bd) L.p.body.length L.p.bcap) ∧ ∀ (j : Nat) (u : Value), x.f.t.root.cells[j]? = some u → w.cell? ((bd.add (x.f.at_ * 2)).add j) = some u) := by
  show ∀ w, _
  intro w h
  obtain ⟨bd', hbd', hc⟩ := Jq (HL.out.pok _ (S0.out w h).core.im).brd Hat.out.root
  rw [hbd] at hbd'; cases hbd'
  exact ⟨by rw [← hbd]; exact (S0.out w h).row.cellv rfl, hc⟩
 clear hSd m4 r5 hxo C4
 go_wp2_with fail
 refine wp_region_held (S := S) (by kernel_rfl) ?_
 simp only [List.size_toArray, List.length_cons, List.length_nil, Nat.reduceAdd, Array.replicate_succ, Array.replicate_zero, List.push_toArray, List.nil_append, List.cons_append]
 show wpAnyH _ _ _ _ _ _ _ _ w4.drew
 have hS : S w4.drew := St.drew hS0
 clear hS0 hbd hbd2
 generalize w4.drew = wd at hS ⊢
 (refine tkH 0 (.pointer (some ⟨L.M, 0, none⟩)) rfl (Qd rfl (fun W hW => by (go_simp))) ?_; simp only [Act.put, Qa, Qb, Qc])
 (refine tkH 1 (.pointer (some ⟨L.M, 0, none⟩)) rfl (Qd rfl (fun W hW => by (go_simp))) ?_; simp only [Act.put, Qa, Qb, Qc])
 (refine tkH 2 (.pointer (some ⟨L.M, 0, none⟩)) rfl (Qd rfl (fun W hW => by (go_simp))) ?_; simp only [Act.put, Qa, Qb, Qc])
 (refine tkH 3 (.pointer (some ⟨L.M, 2, none⟩)) rfl (Qd rfl (fun W hW => by (go_simp))) ?_; simp only [Act.put, Qa, Qb, Qc])
 (refine tkH 4 (.slice (some bd) L.p.body.length L.p.bcap) rfl (Qd rfl (fun W hW => by ((have h := (S6.out W hW).1; go_simp)))) ?_; simp only [Act.put, Qa, Qb, Qc])
 (refine tkH 5 (.pointer (some ⟨FB, 0, none⟩)) rfl (Qd rfl (fun W hW => by (go_simp))) ?_; simp only [Act.put, Qa, Qb, Qc])
 (refine tkH 6 (.int .i64 (x.f.at_ : Int)) rfl (Qd rfl (fun W hW => by ((have h := (S1.out W hW).cellv (i := 0) (v := .int .i64 (x.f.at_ : Int)) rfl; go_simp)))) ?_; simp only [Act.put, Qa, Qb, Qc])
 (refine tkH 7 (.pointer (some (bd.add (x.f.at_ * 2)))) rfl (Qd rfl (fun W hW => by (go_simp; try omega))) ?_; simp only [Act.put, Qa, Qb, Qc])
 (refine tkH 8 _ rfl (Aat rfl 85 _ rfl (bd.add (x.f.at_ * 2)) rfl x.f.t.root.cells _ (fun w hw => (S6.out w hw).2) Tryz.underlying85 rfl (by kernel_rfl)) ?_; simp only [Act.put, Qa, Qb, Qc])
 (refine wpAnyH_all (rs := [9]) (by kernel_rfl) (by simp) (fun i hi => ?_); obtain rfl : i = 9 := by simpa using hi)
 refine Qe rfl rfl (fun K2 hK2 => ?_)
 refine Q0 85 rfl _ _ Aau rfl ?_
 intro NB w1 hNB r1 b1
 refine hK2 _ _ ?_
 clear hK2 K2
 simp only [Act.put, Qa, Qb, Qc]
 refine ⟨stS.go hS (b1.mono hNB), ?_⟩
 (refine wpAnyH_all (rs := [10]) (by kernel_rfl) (by simp) (fun i hi => ?_); obtain rfl : i = 10 := by simpa using hi)
 refine Qe rfl rfl (fun K2 hK2 => ?_)
 refine ZM 85 (.tmp 3) (.tmp 39) rfl NB x.f.t.root.cells.toArray rfl rfl 85 _ r1 (by kernel_rfl) rfl (by simp [Nd.cells, Value.oneCell']) ?_
 intro w2 r2 o2
 refine hK2 _ _ ?_
 clear hK2 K2
 simp only [Act.put, Qa, Qb, Qc]
 have hS2 : S w2 := stS.go hS (Qo (b1.mono hNB) o2 hNB)
 refine ⟨hS2, ?_⟩
 clear o2 b1 r1
 refine wpAnyH_done (by kernel_rfl) ?_ _
 have cN0 := r2.cellv (i := 0) (v := .int .i64 x.f.t.root.tag) rfl
 have cN1 := r2.cellv (i := 1) (v := .int .i64 x.f.t.root.n) rfl
 have cF0 := (S1.out _ hS2).cellv (i := 0) (v := .int .i64 (x.f.at_ : Int)) rfl
 have cF2 := (S1.out _ hS2).cellv (i := 2) (v := x.v) rfl
 have HM := Lh (S0.out _ hS2)
 have HX := Lh (S3.out _ hS2)
 have HC := Lh (S2.out _ hS2)
 have hNB1 : L.b1 ≤ NB := Nat.le_trans (S0.out _ hS).core.size hNB
 clear S0 S1 S2 S3 S6 stS hS hS2 r2 hNB
 clear S wd w4
 obtain ⟨st, hst⟩ : ∃ st, rs.map FrV.f = st := ⟨_, rfl⟩
 obtain ⟨f0, hf0⟩ : ∃ f0, x.f = f0 := ⟨_, rfl⟩
 obtain ⟨tag, htag⟩ : ∃ tag, f0.t.root.tag = tag := ⟨_, rfl⟩
 obtain ⟨n, hn⟩ : ∃ n, f0.t.root.n = n := ⟨_, rfl⟩
 have hf := Hf.out
 clear Hf
 rw [hst] at hf hv
 rw [hf0] at hf cN0 cN1 HX cF0 hatl Hat
 rw [htag] at cN0
 rw [hn] at cN1
 cases hf with
 | lit g r h =>
  rw [htag] at h
  rcases h with rfl | rfl
  · go_wp2_with fail
    rw [← hn] at *
    refine Calls.mono (Z0 L HL.out s g r _ _ ⟨rs, sv2, ev, hst, HM.out⟩ (hv g (by simp))) ?_
    rintro e W9 ⟨⟨u, rfl⟩, h9, g9⟩
    have H9 := Lh h9
    have G9 := Lh (HC.out.trans g9)
    clear h9 g9 HM HX HC
    go_wp2
    go_end0
    exact ⟨⟨_, rfl⟩, H9.out, G9.out⟩
  · go_wp2_with fail
    rw [← hn] at *
    refine Calls.mono (Z0 L HL.out s g r _ _ ⟨rs, sv2, ev, hst, HM.out⟩ (hv g (by simp))) ?_
    rintro e W9 ⟨⟨u, rfl⟩, h9, g9⟩
    have H9 := Lh h9
    have G9 := Lh (HC.out.trans g9)
    clear h9 g9 HM HX HC
    go_wp2
    go_end0
    exact ⟨⟨_, rfl⟩, H9.out, G9.out⟩
 | var g r v h hn0 hvv =>
  rw [htag] at h
  subst h
  rw [hn] at hn0 hvv
  obtain ⟨k, rfl⟩ : ∃ k : Nat, n = k := ⟨n.toNat, by omega⟩
  rw [Int.toNat_natCast] at hvv
  have hkl : k < s.vals.length := (List.getElem?_eq_some_iff.1 hvv).1
  obtain ⟨gv, vcap, hlv, hcv⟩ := XR HM.out.core.vals (by omega)
  have ck := hcv k v hvv
  have c4 := HM.out.row.cellv (i := 4) (v := L.vv) rfl
  rw [hlv] at c4
  have hkI : (k : Int) < (s.vals.length : Int) := by omega
  clear hcv hlv hvv
  go_wp2_with fail
  refine QT 9 (by kernel_rfl) (by kernel_rfl) ?_
  simp only [List.take_succ_cons, List.take_zero, List.drop_succ_cons, List.drop_zero]
  have key : ∀ a u, w2.cell? a = some u → w2.drew.cell? a = some u := fun _ _ h => h
  replace HM := Lh (HM.out.drew1 HL.out)
  replace HC := Lh HC.out.drew1
  replace c4 := key _ _ c4
  replace ck := key _ _ ck
  replace cN1 := key _ _ cN1
  clear key
  generalize w2.drew = w3 at *
  repeat still_step
  refine wpStill_nil ?_
  go_wp2_with fail
  refine Calls.mono (Z0 L HL.out s g r _ _ ⟨rs, sv2, ev, hst, HM.out⟩ (hv g (by simp))) ?_
  rintro e W9 ⟨⟨u, rfl⟩, h9, g9⟩
  have H9 := Lh h9
  have G9 := Lh (HC.out.trans g9)
  clear h9 g9 HM HX HC
  go_wp2
  go_end0
  exact ⟨⟨_, rfl⟩, H9.out, G9.out⟩
 | atNo _ i vs h hn0 hl hvs hb =>
  rw [htag] at h
  subst h
  rw [hn] at hn0 hl hb
  obtain ⟨k, rfl⟩ : ∃ k : Nat, n = k := ⟨n.toNat, by omega⟩
  rw [Int.toNat_natCast] at hl
  obtain ⟨gx, xcap, m, hxv, cv⟩ := Y1 HX.out hvs
  rw [hxv] at cF2
  go_wp2_with fail
  refine QT 7 (by kernel_rfl) (by kernel_rfl) ?_
  simp only [List.take_succ_cons, List.take_zero, List.drop_succ_cons, List.drop_zero]
  have key : ∀ a u, w2.cell? a = some u → w2.drew.cell? a = some u := fun _ _ h => h
  replace HM := Lh (HM.out.drew1 HL.out)
  replace HC := Lh HC.out.drew1
  replace cF2 := key _ _ cF2
  replace cv := key _ _ cv
  replace cN1 := key _ _ cN1
  clear key
  generalize w2.drew = w3 at *
  repeat still_step
  refine wpStill_nil ?_
  go_wp2_with fail
  refine Calls.mono (Uz L HL.out ⟨s, _⟩ k i _ ⟨rs, sv2, ev, hst, HM.out⟩ Hs.out hl hb) ?_
  rintro e W9 ⟨rfl, h9, g9⟩
  have H9 := Lh h9
  have G9 := Lh (HC.out.trans (.only g9 (.inr (.inl rfl))))
  clear h9 g9 HM HX HC hb cF2 cv cN1
  go_wp2
  go_end0
  exact ⟨⟨_, rfl⟩, H9.out, G9.out⟩
 | at_ g r i v vs h hn0 hl hvs hb hx =>
  rw [htag] at h
  subst h
  rw [hn] at hn0 hl hb hx
  obtain ⟨k, rfl⟩ : ∃ k : Nat, n = k := ⟨n.toNat, by omega⟩
  rw [Int.toNat_natCast] at hl
  obtain ⟨j, rfl⟩ : ∃ j : Nat, i = j := ⟨i.toNat, by omega⟩
  rw [Int.toNat_natCast] at hx
  obtain ⟨gx, xcap, m, hxv, cv⟩ := Y1 HX.out hvs
  rw [hxv] at cF2
  obtain ⟨gI, hgI⟩ : ∃ gI, L.ab[k]? = some gI := ⟨_, List.getElem?_eq_getElem (by rw [HL.out.alen, ← Hs.out.alen]; exact hl)⟩
  have hra := HM.out.core.arrs k gI _ hgI (List.getElem?_eq_getElem hl)
  have hax : s.arr (k : Int) = s.arrs[k] := by unfold Ms.arr; rw [Int.toNat_natCast, List.getElem?_eq_getElem hl]; rfl
  rw [← hax] at hra
  have cI := hra.cellv (i := j) (v := .int .i64 v) (by simp [Qi, hx])
  go_wp2_with fail
  refine QT 7 (by kernel_rfl) (by kernel_rfl) ?_
  simp only [List.take_succ_cons, List.take_zero, List.drop_succ_cons, List.drop_zero]
  have key : ∀ a u, w2.cell? a = some u → w2.drew.cell? a = some u := fun _ _ h => h
  replace HM := Lh (HM.out.drew1 HL.out)
  replace HC := Lh HC.out.drew1
  replace cF2 := key _ _ cF2
  replace cv := key _ _ cv
  replace cN1 := key _ _ cN1
  replace cI := key _ _ cI
  clear hra
  clear key
  generalize w2.drew = w3 at *
  repeat still_step
  refine wpStill_nil ?_
  go_wp2_with fail
  refine Calls.mono (Aad L HL.out ⟨s, g :: r⟩ k j gI _ ⟨rs, sv2, ev, hst, HM.out⟩ Hs.out hgI (by show j < (s.arr (k : Int)).length; omega)) ?_
  rintro e W9 ⟨rfl, rfl⟩
  go_wp2_with fail
  refine Calls.mono (Z0 L HL.out s g r _ _ ⟨rs, sv2, ev, hst, HM.out⟩ (hv g (by simp))) ?_
  rintro e W9 ⟨⟨u, rfl⟩, h9, g9⟩
  have H9 := Lh h9
  have G9 := Lh (HC.out.trans g9)
  clear h9 g9 HM HX HC
  go_wp2
  go_end0
  exact ⟨⟨_, rfl⟩, H9.out, G9.out⟩
 | neg g r v vs h hvs =>
  rw [htag] at h
  subst h
  obtain ⟨gx, xcap, m, hxv, cv⟩ := Y1 HX.out hvs
  rw [hxv] at cF2
  go_wp2_with fail
  refine Calls.mono (Z0 L HL.out s g r _ _ ⟨rs, sv2, ev, hst, HM.out⟩ (hv g (by simp))) ?_
  rintro e W9 ⟨⟨u, rfl⟩, h9, g9⟩
  have H9 := Lh h9
  have G9 := Lh (HC.out.trans g9)
  clear h9 g9 HM HX HC
  go_wp2
  go_end0
  exact ⟨⟨_, rfl⟩, H9.out, G9.out⟩
 | not g r v vs h hvs h01 =>
  rw [htag] at h
  subst h
  obtain ⟨gx, xcap, m, hxv, cv⟩ := Y1 HX.out hvs
  rw [hxv] at cF2
  rcases h01 with rfl | rfl
  · go_wp2_with fail
    refine Calls.mono (Z0 L HL.out s g r _ _ ⟨rs, sv2, ev, hst, HM.out⟩ (hv g (by simp))) ?_
    rintro e W9 ⟨⟨u, rfl⟩, h9, g9⟩
    have H9 := Lh h9
    have G9 := Lh (HC.out.trans g9)
    clear h9 g9 HM HX HC
    go_wp2
    go_end0
    exact ⟨⟨_, rfl⟩, H9.out, G9.out⟩
  · go_wp2_with fail
    refine Calls.mono (Z0 L HL.out s g r _ _ ⟨rs, sv2, ev, hst, HM.out⟩ (hv g (by simp))) ?_
    rintro e W9 ⟨⟨u, rfl⟩, h9, g9⟩
    have H9 := Lh h9
    have G9 := Lh (HC.out.trans g9)
    clear h9 g9 HM HX HC
    go_wp2
    go_end0
    exact ⟨⟨_, rfl⟩, H9.out, G9.out⟩
 | logic g r v vs h hvs =>
  rw [htag] at h
  obtain ⟨gx, xcap, hxv, cv⟩ := Ajj HX.out hvs
  rw [hxv] at cF2
  have hvl : vs.length ≤ 1001 := by rw [hf0, hvs] at hv0; simp at hv0; omega
  have ew : IntKind.i64.wrap (vs.length : Int) = (vs.length : Int) := IntWalk.i64_in _ (by omega)
  rcases h with rfl | rfl
  · go_wp2_with fail
    refine Calls.mono (Z0 L HL.out s g r _ _ ⟨rs, sv2, ev, hst, HM.out⟩ (hv g (by simp))) ?_
    rintro e W9 ⟨⟨u, rfl⟩, h9, g9⟩
    have H9 := Lh h9
    have G9 := Lh (HC.out.trans g9)
    clear h9 g9 HM HX HC
    go_wp2
    go_end0
    exact ⟨⟨_, rfl⟩, H9.out, G9.out⟩
  · go_wp2_with fail
    refine Calls.mono (Z0 L HL.out s g r _ _ ⟨rs, sv2, ev, hst, HM.out⟩ (hv g (by simp))) ?_
    rintro e W9 ⟨⟨u, rfl⟩, h9, g9⟩
    have H9 := Lh h9
    have G9 := Lh (HC.out.trans g9)
    clear h9 g9 HM HX HC
    go_wp2
    go_end0
    exact ⟨⟨_, rfl⟩, H9.out, G9.out⟩
 | set _ v vs h hn0 hl hvs =>
  rw [htag] at h
  subst h
  rw [hn] at hn0 hl
  obtain ⟨k, rfl⟩ : ∃ k : Nat, n = k := ⟨n.toNat, by omega⟩
  rw [Int.toNat_natCast] at hl
  obtain ⟨gx, xcap, m, hxv, cv⟩ := Y1 HX.out hvs
  rw [hxv] at cF2
  obtain ⟨gv, vcap, hlv, _⟩ := XR HM.out.core.vals (by omega)
  have c4 := HM.out.row.cellv (i := 4) (v := L.vv) rfl
  rw [hlv] at c4
  have hkI : (k : Int) < (s.vals.length : Int) := by omega
  go_wp2_with fail
  refine QT 14 (by kernel_rfl) (by kernel_rfl) ?_
  simp only [List.take_succ_cons, List.take_zero, List.drop_succ_cons, List.drop_zero]
  have key : ∀ a u, w2.cell? a = some u → w2.drew.cell? a = some u := fun _ _ h => h
  replace HM := Lh (HM.out.drew1 HL.out)
  replace HC := Lh HC.out.drew1
  replace c4 := key _ _ c4
  replace cF2 := key _ _ cF2
  replace cv := key _ _ cv
  replace cN1 := key _ _ cN1
  clear key
  generalize w2.drew = w3 at *
  repeat still_step
  refine wpStill_nil ?_
  go_wp2_with fail
  obtain ⟨g', cap', cur', hv', hr', hk', hset⟩ := HM.out.setVal HL.out k v hl
  rw [hlv] at hv'
  cases hv'
  refine Calls.mono (Aac L HL.out _ (s.setv (k : Int) v) rs sv2 ev gv k cur' (k : Int) (-1) v _ hr' hk' hset rfl rfl rfl rfl rfl Few.out rfl) ?_
  rintro e W9 ⟨⟨u, rfl⟩, ⟨sv9, ev9, h9⟩, g9⟩
  have H9 := Lh h9
  have G9 := Lh (HC.out.trans g9)
  clear h9 g9 HM HX HC hset hr' hk' hl
  go_wp2
  go_end0
  exact ⟨⟨_, rfl⟩, ⟨rs, sv9, ev9, hst, by rw [hn]; exact H9.out⟩, G9.out⟩
 | while1 _ vs h hvs =>
  rw [htag] at h
  subst h
  obtain ⟨gx, xcap, m, hxv, cv⟩ := Y1 HX.out hvs
  rw [hxv] at cF2
  go_wp2_with fail
  refine Calls.mono (Yj L HL.out ⟨s, _⟩ f0.at_ f0.t _ ⟨rs, sv2, ev, hst, HM.out⟩) ?_
  rintro e W9 ⟨⟨u, rfl⟩, h9, g9⟩
  have H9 := Lh h9
  have G9 := Lh (HC.out.trans g9)
  clear h9 g9 HM HX HC
  go_wp2
  go_end0
  exact ⟨⟨_, rfl⟩, H9.out, G9.out⟩
 | while0 _ v vs h hvs h1 =>
  rw [htag] at h
  subst h
  obtain ⟨gx, xcap, m, hxv, cv⟩ := Y1 HX.out hvs
  rw [hxv] at cF2
  have e1 : (v == 1) = false := by simpa using h1
  clear h1 HX
  go_wp2
  go_end0
  exact ⟨⟨_, rfl⟩, ⟨rs, sv2, ev, hst, HM.out⟩, HC.out⟩
 | ret _ v vs h hvs =>
  rw [htag] at h
  subst h
  obtain ⟨gx, xcap, m, hxv, cv⟩ := Y1 HX.out hvs
  rw [hxv] at cF2
  go_wp2_with fail
  refine Calls.mono (Xd L HL.out ⟨s, _⟩ 0 v _ ⟨rs, sv2, ev, hst, HM.out⟩) ?_
  rintro e W9 ⟨⟨u, rfl⟩, h9, g9⟩
  have H9 := Lh h9
  have G9 := Lh (HC.out.trans g9)
  clear h9 g9 HM HX HC
  go_wp2
  go_end0
  exact ⟨⟨_, rfl⟩, H9.out, G9.out⟩
 | nothing _ h =>
  rw [htag] at h
  clear HX
  rcases h with rfl | rfl | rfl
  all_goals
   go_wp2
   go_end0
   exact ⟨⟨_, rfl⟩, ⟨rs, sv2, ev, hst, HM.out⟩, HC.out⟩
 | pairNo _ a b vs h hvs hp =>
  rw [htag] at h hp
  have e1 : (tag == 1) = false := by simp; omega
  have e2 : (tag == 2) = false := by simp; omega
  have e3 : (tag == 3) = false := by simp; omega
  have e4 : (tag == 4) = false := by simp; omega
  have e5 : (tag == 5) = false := by simp; omega
  have e6 : (tag == 6) = false := by simp; omega
  have e18 : (tag == 18) = false := by simp; omega
  have e19 : (tag == 19) = false := by simp; omega
  have e20 : (tag == 20) = false := by simp; omega
  have e21 : (tag == 21) = false := by simp; omega
  have e22 : (tag == 22) = false := by simp; omega
  have e23 : (tag == 23) = false := by simp; omega
  have e24 : (tag == 24) = false := by simp; omega
  have e25 : (tag == 25) = false := by simp; omega
  have e26 : (tag == 26) = false := by simp; omega
  obtain ⟨gx, xcap, m, hxv, hm1, cv, cv2⟩ := AeF HX.out hvs
  rw [hxv] at cF2
  have hm2 : (1 : Int) < (m : Int) + 1 := by omega
  clear hm1
  go_wp2_with fail
  refine QT 11 (by kernel_rfl) (by kernel_rfl) ?_
  simp only [List.take_succ_cons, List.take_zero, List.drop_succ_cons, List.drop_zero]
  have key : ∀ a u, w2.cell? a = some u → w2.drew.cell? a = some u := fun _ _ h => h
  replace HM := Lh (HM.out.drew1 HL.out)
  replace HC := Lh HC.out.drew1
  replace cN0 := key _ _ cN0
  replace cF2 := key _ _ cF2
  replace cv := key _ _ cv
  replace cv2 := key _ _ cv2
  clear key
  generalize w2.drew = w3 at *
  repeat still_step
  refine wpStill_nil ?_
  go_wp2_with fail
  refine Calls.mono (Ach L HL.out ⟨s, _⟩ tag a b _ ⟨rs, sv2, ev, hst, HM.out⟩ hp) ?_
  rintro e W9 ⟨⟨u, rfl⟩, h9, g9⟩
  have H9 := Lh h9
  have G9 := Lh (HC.out.trans g9)
  clear h9 g9 HM HX HC
  go_wp2
  go_end0
  exact ⟨⟨_, rfl⟩, H9.out, G9.out⟩
 | pair g r a b c vs h hvs hp =>
  rw [htag] at h hp
  have e1 : (tag == 1) = false := by simp; omega
  have e2 : (tag == 2) = false := by simp; omega
  have e3 : (tag == 3) = false := by simp; omega
  have e4 : (tag == 4) = false := by simp; omega
  have e5 : (tag == 5) = false := by simp; omega
  have e6 : (tag == 6) = false := by simp; omega
  have e18 : (tag == 18) = false := by simp; omega
  have e19 : (tag == 19) = false := by simp; omega
  have e20 : (tag == 20) = false := by simp; omega
  have e21 : (tag == 21) = false := by simp; omega
  have e22 : (tag == 22) = false := by simp; omega
  have e23 : (tag == 23) = false := by simp; omega
  have e24 : (tag == 24) = false := by simp; omega
  have e25 : (tag == 25) = false := by simp; omega
  have e26 : (tag == 26) = false := by simp; omega
  obtain ⟨gx, xcap, m, hxv, hm1, cv, cv2⟩ := AeF HX.out hvs
  rw [hxv] at cF2
  have hm2 : (1 : Int) < (m : Int) + 1 := by omega
  clear hm1
  go_wp2_with fail
  refine QT 11 (by kernel_rfl) (by kernel_rfl) ?_
  simp only [List.take_succ_cons, List.take_zero, List.drop_succ_cons, List.drop_zero]
  have key : ∀ a u, w2.cell? a = some u → w2.drew.cell? a = some u := fun _ _ h => h
  replace HM := Lh (HM.out.drew1 HL.out)
  replace HC := Lh HC.out.drew1
  replace cN0 := key _ _ cN0
  replace cF2 := key _ _ cF2
  replace cv := key _ _ cv
  replace cv2 := key _ _ cv2
  clear key
  generalize w2.drew = w3 at *
  repeat still_step
  refine wpStill_nil ?_
  go_wp2_with fail
  refine Calls.mono (Afb L HL.out s g r tag a b c _ ⟨rs, sv2, ev, hst, HM.out⟩ (hv g (by simp)) h hp) ?_
  rintro e W9 ⟨⟨u, rfl⟩, h9, g9⟩
  have H9 := Lh h9
  have G9 := Lh (HC.out.trans g9)
  clear h9 g9 HM HX HC
  go_wp2
  go_end0
  exact ⟨⟨_, rfl⟩, H9.out, G9.out⟩
 | putNo _ i v vs h hn0 hl hvs hb =>
  rw [htag] at h
  subst h
  rw [hn] at hn0 hl hb
  obtain ⟨k, rfl⟩ : ∃ k : Nat, n = k := ⟨n.toNat, by omega⟩
  rw [Int.toNat_natCast] at hl
  obtain ⟨gx, xcap, m, hxv, hm1, cv, cv2⟩ := AeF HX.out hvs
  have hgx : L.b1 ≤ gx := QN HX.out (by rw [hxv]; rfl)
  rw [hxv] at cF2
  have hm2 : (1 : Int) < (m : Int) + 1 := by omega
  clear hm1
  have hlt := HL.out.lt
  go_wp2_with fail
  obtain ⟨S, hSd⟩ : ∃ S, S = (fun (w : World) => w.cell? ⟨NB, 1, none⟩ = some (.int .i64 (k : Int)) ∧ w.cell? ⟨FB, 2, none⟩ = some (.slice (some ⟨gx, 0, none⟩) (m + 1) xcap) ∧ w.cell? ⟨gx, 0, none⟩ = some (.int .i64 i) ∧ w.cell? ⟨gx, 1, none⟩ = some (.int .i64 v)) := ⟨_, rfl⟩
  have S0 : Hid (∀ W, S W → W.cell? ⟨NB, 1, none⟩ = some (.int .i64 (k : Int))) := by show ∀ W, _; rw [hSd]; exact fun W h => h.1
  have S1 : Hid (∀ W, S W → W.cell? ⟨FB, 2, none⟩ = some (.slice (some ⟨gx, 0, none⟩) (m + 1) xcap)) := by show ∀ W, _; rw [hSd]; exact fun W h => h.2.1
  have S2 : Hid (∀ W, S W → W.cell? ⟨gx, 0, none⟩ = some (.int .i64 i)) := by show ∀ W, _; rw [hSd]; exact fun W h => h.2.2.1
  have S3 : Hid (∀ W, S W → W.cell? ⟨gx, 1, none⟩ = some (.int .i64 v)) := by show ∀ W, _; rw [hSd]; exact fun W h => h.2.2.2
  have So : Hid (∀ w w', S w → Only L.M w w' → S w') := by
   show ∀ w w', _
   rw [hSd]
   exact fun w w' h o => ⟨X4 o h.1 (by show NB ≠ L.M; omega), X4 o h.2.1 (by show FB ≠ L.M; omega), X4 o h.2.2.1 (by show gx ≠ L.M; omega), X4 o h.2.2.2 (by show gx ≠ L.M; omega)⟩
  have hS : S w2.drew := by rw [hSd]; exact ⟨cN1, cF2, cv, cv2⟩
  clear hSd cN1 cF2 cv cv2 cN0 cF0
  replace HM := Lh (HM.out.drew1 HL.out)
  replace HC := Lh HC.out.drew1
  clear HX
  refine wp_region_held (S := S) (by kernel_rfl) ?_
  simp only [List.size_toArray, List.length_cons, List.length_nil, Nat.reduceAdd, Array.replicate_succ, Array.replicate_zero, List.push_toArray, List.nil_append, List.cons_append]
  show wpAnyH _ _ _ _ _ _ _ _ w2.drew
  generalize w2.drew = wd at hS HM HC ⊢
  (refine tkH 0 (.pointer (some ⟨L.M, 0, none⟩)) rfl (Qd rfl (fun W hW => by (go_simp))) ?_; simp only [Act.put, Qa, Qb, Qc])
  (refine tkH 1 (.pointer (some ⟨L.M, 0, none⟩)) rfl (Qd rfl (fun W hW => by (go_simp))) ?_; simp only [Act.put, Qa, Qb, Qc])
  (refine tkH 2 (.pointer (some ⟨NB, 1, none⟩)) rfl (Qd rfl (fun W hW => by (go_simp))) ?_; simp only [Act.put, Qa, Qb, Qc])
  (refine tkH 3 (.int .i64 (k : Int)) rfl (Qd rfl (fun W hW => by ((have h := S0.out W hW; go_simp)))) ?_; simp only [Act.put, Qa, Qb, Qc])
  (refine tkH 4 (.pointer (some ⟨FB, 2, none⟩)) rfl (Qd rfl (fun W hW => by (go_simp))) ?_; simp only [Act.put, Qa, Qb, Qc])
  (refine tkH 5 (.slice (some ⟨gx, 0, none⟩) (m + 1) xcap) rfl (Qd rfl (fun W hW => by ((have h := S1.out W hW; go_simp)))) ?_; simp only [Act.put, Qa, Qb, Qc])
  (refine tkH 6 (.pointer (some ⟨gx, 0, none⟩)) rfl (Qd rfl (fun W hW => by (go_simp))) ?_; simp only [Act.put, Qa, Qb, Qc])
  (refine tkH 7 (.int .i64 i) rfl (Qd rfl (fun W hW => by ((have h := S2.out W hW; go_simp)))) ?_; simp only [Act.put, Qa, Qb, Qc])
  (refine tkH 9 (.pointer (some ⟨NB, 1, none⟩)) rfl (Qd rfl (fun W hW => by (go_simp))) ?_; simp only [Act.put, Qa, Qb, Qc])
  (refine tkH 10 (.int .i64 (k : Int)) rfl (Qd rfl (fun W hW => by ((have h := S0.out W hW; go_simp)))) ?_; simp only [Act.put, Qa, Qb, Qc])
  (refine tkH 11 (.pointer (some ⟨FB, 2, none⟩)) rfl (Qd rfl (fun W hW => by (go_simp))) ?_; simp only [Act.put, Qa, Qb, Qc])
  (refine tkH 12 (.slice (some ⟨gx, 0, none⟩) (m + 1) xcap) rfl (Qd rfl (fun W hW => by ((have h := S1.out W hW; go_simp)))) ?_; simp only [Act.put, Qa, Qb, Qc])
  (refine tkH 13 (.pointer (some ⟨gx, 0, none⟩)) rfl (Qd rfl (fun W hW => by (go_simp))) ?_; simp only [Act.put, Qa, Qb, Qc])
  (refine tkH 14 (.int .i64 i) rfl (Qd rfl (fun W hW => by ((have h := S2.out W hW; go_simp)))) ?_; simp only [Act.put, Qa, Qb, Qc])
  (refine tkH 15 (.pointer (some ⟨FB, 2, none⟩)) rfl (Qd rfl (fun W hW => by (go_simp))) ?_; simp only [Act.put, Qa, Qb, Qc])
  (refine tkH 16 (.slice (some ⟨gx, 0, none⟩) (m + 1) xcap) rfl (Qd rfl (fun W hW => by ((have h := S1.out W hW; go_simp)))) ?_; simp only [Act.put, Qa, Qb, Qc])
  (refine tkH 17 (.pointer (some ⟨gx, 1, none⟩)) rfl (Qd rfl (fun W hW => by (go_simp))) ?_; simp only [Act.put, Qa, Qb, Qc])
  (refine tkH 18 (.int .i64 v) rfl (Qd rfl (fun W hW => by ((have h := S3.out W hW; go_simp)))) ?_; simp only [Act.put, Qa, Qb, Qc])
  (refine wpAnyH_all (rs := [8]) (by kernel_rfl) (by simp) (fun i hi => ?_); obtain rfl : i = 8 := by simpa using hi)
  refine Qe rfl rfl (fun K2 hK2 => ?_)
  refine Qx 123 #[.pointer (some ⟨L.M, 0, none⟩), .int .i64 (k : Int), .int .i64 i] (w1 := wd) (by go_simp; try rfl) (Calls.mono (Uz L HL.out ⟨s, _⟩ k i _ ⟨rs, sv2, ev, hst, HM.out⟩ Hs.out hl hb) ?_)
  rintro e W9 ⟨rfl, h9, g9⟩
  refine ⟨_, rfl, hK2 _ _ ?_⟩
  clear hK2 K2
  simp only [Act.put, Qa, Qb, Qc]
  have hS9 := So.out _ _ hS g9
  refine ⟨hS9, ?_⟩
  (refine wpAnyH_all (rs := [19]) (by kernel_rfl) (by simp) (fun i hi => ?_); obtain rfl : i = 19 := by simpa using hi)
  refine Qe rfl rfl (fun K2 hK2 => ?_)
  refine Qx 124 #[.pointer (some ⟨L.M, 0, none⟩), .pointer none, .int .i64 (k : Int), .int .i64 i, .int .i64 v] (w1 := W9) (by go_simp; try rfl) (Calls.mono (Acg L.M k i v _) ?_)
  rintro e W8 ⟨⟨u, rfl⟩, rfl⟩
  refine ⟨_, rfl, hK2 _ _ ?_⟩
  clear hK2 K2
  simp only [Act.put, Qa, Qb, Qc]
  refine ⟨hS9, ?_⟩
  refine wpAnyH_done (by kernel_rfl) ?_ _
  have H9 := Lh h9
  have G9 := Lh (HC.out.trans (.only g9 (.inr (.inl rfl))))
  clear h9 g9 HM hb hS hS9 S0 S1 S2 S3 So
  go_wp2
  go_end0
  exact ⟨⟨_, rfl⟩, H9.out, G9.out⟩
 | put _ i v vs h hn0 hl hvs hb =>
  rw [htag] at h
  subst h
  rw [hn] at hn0 hl hb
  obtain ⟨k, rfl⟩ : ∃ k : Nat, n = k := ⟨n.toNat, by omega⟩
  rw [Int.toNat_natCast] at hl
  obtain ⟨j, rfl⟩ : ∃ j : Nat, i = j := ⟨i.toNat, by omega⟩
  obtain ⟨gx, xcap, m, hxv, hm1, cv, cv2⟩ := AeF HX.out hvs
  rw [hxv] at cF2
  have hm2 : (1 : Int) < (m : Int) + 1 := by omega
  clear hm1
  obtain ⟨gI, hgI⟩ : ∃ gI, L.ab[k]? = some gI := ⟨_, List.getElem?_eq_getElem (by rw [HL.out.alen, ← Hs.out.alen]; exact hl)⟩
  have hsp := fun (w : World) (hw : MR L s rs sv2 ev w) => (Aad L HL.out ⟨s, _⟩ k j gI w ⟨rs, sv2, ev, hst, hw⟩ Hs.out hgI (by show j < (s.arr (k : Int)).length; omega)).mono (fun e w' h => (⟨h.1, h.2.symm⟩ : _ ∧ w' = w))
  have Hsp := Lh hsp
  clear hsp
  go_wp2_with fail
  refine QT 19 (by kernel_rfl) (by kernel_rfl) ?_
  simp only [List.take_succ_cons, List.take_zero, List.drop_succ_cons, List.drop_zero]
  have key : ∀ a u, w2.cell? a = some u → w2.drew.cell? a = some u := fun _ _ h => h
  replace HM := Lh (HM.out.drew1 HL.out)
  replace HC := Lh HC.out.drew1
  replace cN1 := key _ _ cN1
  replace cF2 := key _ _ cF2
  replace cv := key _ _ cv
  replace cv2 := key _ _ cv2
  clear key
  generalize w2.drew = w3 at *
  repeat (first | still_step | still_call (Hsp.out _ HM.out))
  refine wpStill_nil ?_
  go_wp2_with fail
  obtain ⟨hra, hset⟩ := HM.out.setArr HL.out k j v _ gI hgI (List.getElem?_eq_getElem hl)
  have hax : s.arr (k : Int) = s.arrs[k] := by unfold Ms.arr; rw [Int.toNat_natCast, List.getElem?_eq_getElem hl]; rfl
  refine Calls.mono (Aac L HL.out _ (s.seta (k : Int) (j : Int) v) rs sv2 ev gI j _ (k : Int) (j : Int) v _ hra (by rw [← hax]; simp [Qi]; omega) hset rfl (by simp only [Ms.seta, hax]; rfl) rfl rfl rfl Few.out rfl) ?_
  rintro e W9 ⟨⟨u, rfl⟩, ⟨sv9, ev9, h9⟩, g9⟩
  have H9 := Lh h9
  have G9 := Lh (HC.out.trans g9)
  clear h9 g9 HM HX HC hset hra
  go_wp2
  go_end0
  exact ⟨⟨_, rfl⟩, ⟨rs, sv9, ev9, hst, by rw [hn]; exact H9.out⟩, G9.out⟩
end Go.Proofs.YtdcmppdhdcjpfaaGreat
