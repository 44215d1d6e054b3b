/- Lemmas for CoAll. -/
import Derived.Test.YtcgglolckkeeiaaGreatZo21
import Derived.Test.YtcgglolckkeeiaaGreatZo24
import Derived.Test.YtcgglolckkeeiaaGreatZo25
import Derived.Test.YtcgglolckkeeiaaGreatZo7
set_option linter.unusedVariables false
set_option linter.unusedSimpArgs false
namespace Go.Proofs.YtcgglolckkeeiaaGreat
open Go.RowKit Go.Deep
attribute [local go_sem] Oper.semAt_some
theorem wp_ends {P : Program} {c : Code} {a : Act} {w : World} {Q : Exit → Act → World → Prop} (h : c.wp P (Ends Q) a w) : c.wp P Q a w := Code.wp_mono Ends.imp h
def RowB (W : World) (t : TypeId) (A : Option Addr) : Prop := ∀ ad, A = some ad → ∃ cs : Array Value, Row W ad.block t cs
theorem RowB.go {W W' : World} {t : TypeId} {A : Option Addr} (h : RowB W t A) (b : Below W.heap.size W W') : RowB W' t A := fun ad e => by
 obtain ⟨cs, hr⟩ := h ad e
 exact ⟨cs, hr.below b hr.lt⟩
theorem RowB.only {W W' : World} {t t' : TypeId} {A : Option Addr} {g : Nat} {cs' : Array Value} (h : RowB W t A) (o : Only g W W') (hg : Row W g t' cs') (ne : t ≠ t') : RowB W' t A := fun ad e => by
 obtain ⟨cs, hr⟩ := h ad e
 refine ⟨cs, hr.only o fun e2 => ne ?_⟩
 have h9 : W.heap[g]? = some (.cells cs t (0, 0)) := by rw [← e2]; exact hr
 rw [show W.heap[g]? = some (.cells cs' t' (0, 0)) from hg] at h9
 injection h9 with h9; injection h9 with _ h9; exact h9.symm
theorem RowB.kp {W W' : World} {t : TypeId} {A : Option Addr} {X : Nat → Prop} (h : RowB W t A) (k : KpX X W W') (hx : ∀ i cs, Row W i t cs → ¬ X i) : RowB W' t A := fun ad e => by
 obtain ⟨cs, hr⟩ := h ad e
 exact ⟨cs, k.row hr (hx _ _ hr)⟩
theorem own_rowB {w : World} {base size n m c : Nat} {e : TypeId} {A : Option Addr} {xs : List Value} (h : w.ownsRow base e size (.slice A m c) n xs) : RowB w e A := fun ad ha => by
 rcases h.2 with ⟨e2, _⟩ | ⟨g, c, cur, e2, hb, hr, _⟩
 · injection e2 with e3; rw [ha] at e3; cases e3
 · injection e2 with e3; rw [ha] at e3; injection e3 with e3; rw [e3]; exact ⟨cur, hr⟩
theorem PgV.ok.only {p : PgV} {W W' : World} {g : Nat} (h : p.ok W) (o : Only g W W') (h1 : ∀ a, p.va = some a → a.block ≠ g) (h2 : ∀ a, p.ba = some a → a.block ≠ g) : p.ok W' :=
 ⟨h.par, h.vlen, h.vmax, h.vnil, h.vrd.only o (fun _ a e => h1 a e), h.vin, h.blen, h.bmax, h.bnil, h.brd.only o (fun _ a e => h2 a e), h.bin⟩
theorem RowB.ne {W : World} {t : TypeId} {A : Option Addr} {g : Nat} {cs' : Array Value} (h : RowB W t A) (hg : Row W g 31 cs') (ne : t ≠ 31) : ∀ ad, A = some ad → ad.block ≠ g := fun ad e e2 => by
 obtain ⟨cs, hr⟩ := h ad e
 have h9 : W.heap[g]? = some (.cells cs t (0, 0)) := by rw [← e2]; exact hr
 rw [show W.heap[g]? = some (.cells cs' 31 (0, 0)) from hg] at h9
 injection h9 with h9; injection h9 with _ h9; exact ne h9.symm
theorem PgV.ok.kp {p : PgV} {W W' : World} {X : Nat → Prop} (h : p.ok W) (k : KpX X W W') (h1 : ints p.V ≠ [] → ∀ a, p.va = some a → ¬ X a.block) (h2 : p.body.flatMap Nd.cells ≠ [] → ∀ a, p.ba = some a → ¬ X a.block) : p.ok W' :=
 ⟨h.par, h.vlen, h.vmax, h.vnil, k.rd h.vrd h1, h.vin, h.blen, h.bmax, h.bnil, k.rd h.brd h2, h.bin⟩
end Go.Proofs.YtcgglolckkeeiaaGreat
namespace Go.Proofs.YtcgglolckkeeiaaGreat
open Go.RowKit Go.Deep
attribute [local go_sem] Oper.semAt_some
theorem own_eff {w w' : World} {base size n g : Nat} {e : TypeId} {v : Value} {xs : List Value} (h : w.ownsRow base e size v n xs) (r : RdEff g w w') (hg : g < base) : w'.ownsRow base e size v n xs :=
 h.kept (row := some g) ⟨r.os, r.tape, r.output, r.size, fun k hk hne => r.block k hk (fun e => hne (by rw [e]))⟩ (.inr (fun e => by
  rcases h.2 with ⟨rfl, _⟩ | ⟨g', cap, cur, rfl, hB, _⟩
  · simp [Value.ownBlock] at e
  · have : g' = g := by simpa [Value.ownBlock] using e
    omega))
theorem step_pl {α : Type} {s : List UInt8} {r : Rs} {p : Int × Nat × α} {z : α} (h : r.pl ≤ s.length) (hp : p.1 = 0 → p.2.1 ≤ s.length) : (r.step p z).2.pl ≤ s.length := by
 unfold Rs.step Rs.move
 dsimp only
 by_cases h0 : r.er = 0
 · rw [if_pos h0]
   by_cases he : p.1 = 0
   · rw [if_pos he]; exact hp he
   · rw [if_neg he]; exact h
 · rw [if_neg h0]; exact h
theorem rCountZ_pl {z : Int} {s : List UInt8} {r : Rs} {most : Int} (h : r.pl ≤ s.length) : (rCountZ z s r most).2.pl ≤ s.length := step_pl h fun _ => countP_pl most h
theorem rCountZ_in {s : List UInt8} {r : Rs} {most : Int} (hm : 0 ≤ most) : 0 ≤ (rCountZ 0 s r most).1 ∧ (rCountZ 0 s r most).1 ≤ most := by
 unfold rCountZ Rs.step Rs.move
 dsimp only
 by_cases h0 : r.er = 0
 · rw [if_pos h0]
   by_cases he : (countP s r.pl most).1 = 0
   · rw [if_pos he]
     have := countP_ok he
     simp only [if_true]
     omega
   · rw [if_neg he, if_neg he]; omega
 · rw [if_neg h0, if_neg h0]; omega
theorem pathR_pl {z most : Int} {s : List UInt8} {r : Rs} (h : r.pl ≤ s.length) : ∀ k, (pathR z most s r k).2.pl ≤ s.length
 | 0 => h
 | k + 1 => rCountZ_pl (z := z) (most := most) (pathR_pl h k)
theorem pathR_len {z most : Int} {s : List UInt8} {r : Rs} : ∀ k, (pathR z most s r k).1.length = k
 | 0 => rfl
 | k + 1 => by rw [pathR, List.length_append, pathR_len k]; rfl
theorem rRaw_pl {s : List UInt8} {r : Rs} {n : Nat} (h : r.pl ≤ s.length) : (rRaw s r n).2.pl ≤ s.length := step_pl h fun e => by
 unfold partP at e ⊢
 split
 · rename_i hc; rw [if_pos hc] at e; exact absurd (show (2 : Int) = 0 from e) (by decide)
 · dsimp only; omega
theorem rByte_pl {s : List UInt8} {r : Rs} (h : r.pl ≤ s.length) : (rByte s r).2.pl ≤ s.length := rRaw_pl h
theorem rByte_lt (s : List UInt8) (r : Rs) : (rByte s r).1 < 256 := by
 unfold rByte
 dsimp only
 split
 · omega
 · rename_i b _ _; exact b.toNat_lt
theorem rInt_in (s : List UInt8) (r : Rs) : InI (rInt s r).1 := by
 unfold rInt Rs.step
 dsimp only
 split
 · rcases getL_shape (s.drop r.pl) with ⟨_, h⟩ | ⟨_, h, _⟩
   · exact zag_in h
   · rw [h]; exact ⟨by decide, by decide⟩
 · exact ⟨by decide, by decide⟩
theorem dlRd_eq (s : List UInt8) : dlRd s = ⟨(pathR 0 200 s (rCount s ⟨0, 0⟩ 30).2 (rCount s ⟨0, 0⟩ 30).1.toNat).1, ((rByte s (pathR 0 200 s (rCount s ⟨0, 0⟩ 30).2 (rCount s ⟨0, 0⟩ 30).1.toNat).2).1 : Int), (rInt s (rByte s (pathR 0 200 s (rCount s ⟨0, 0⟩ 30).2 (rCount s ⟨0, 0⟩ 30).1.toNat).2).2).1⟩ := by rw [dlRd]
structure DlGot (s : List UInt8) (w w' : World) (e : Ending) (y : DlV) : Prop where
 d : y.d = (getDl s).1
 e : e = .returned (.tuple #[.agg y.cells, .int .i64 (getDl s).2])
 ok : DlT w' y
 b : Below w.heap.size w w'
 n : InI y.d.n
structure DgL (s : List UInt8) (r1 : Rs) (R g D lim : Nat) (k : Nat) (w W : World) (v : Value) : Prop where
 rd : RdO W g s (pathR 0 200 s r1 k).2
 dd : Row W D 42 #[v, .int .i64 0, .int .i64 0]
 rr : Row W R 42 #[.slice none 0 0, .int .i64 0, .int .i64 0]
 own : W.ownsRow lim 3 1 v k (ints (pathR 0 200 s r1 k).1)
 b : Below w.heap.size w W
 lim : lim ≤ W.heap.size
theorem DlT.eff {w w' : World} {x : DlV} {g : Nat} {s : List UInt8} {r : Rs} (h : DlT w x) (hg : RdO w g s r) (e : RdEff g w w') : DlT w' x :=
 h.same fun a cs _ k => e.row k (fun e2 => by
  rw [e2] at k
  have h1 : w.heap[g]? = _ := k
  rw [show w.heap[g]? = _ from hg] at h1
  injection h1 with h1
  injection h1 with _ h1
  exact absurd h1 (by decide))
theorem wireOf_ex (s : List UInt8) (w : World) :
 Calls Tryz.prog 94 #[.string ⟨s.toArray⟩] w fun e w' => ∃ g, e = .returned (.pointer (some ⟨g, 0, none⟩)) ∧ RdO w' g s ⟨0, 0⟩ ∧ Below w.heap.size w w' ∧ w.heap.size ≤ g :=
 (wireOf_any s w).mono fun _ _ h => ⟨_, h.1, h.2.1, h.2.2, Nat.le_refl _⟩
theorem zero_dlv (w : World) : (zeroValue 42).run Tryz.prog w = .ok (.agg #[.slice none 0 0, .int .i64 0, .int .i64 0]) w := by kernel_rfl
set_option maxRecDepth 100000 in
set_option maxHeartbeats 8000000 in
theorem dlGet_any (s : List UInt8) (w : World) (hs : s.length ≤ 1000000) :
 Calls Tryz.prog 140 #[.string ⟨s.toArray⟩] w fun e w' => ∃ y, DlGot s w w' e y := by
 have Hs := Lib.hid hs
 clear hs
 go_enter Tryz.func140, Tryz.ntmps140
 go_wp2_with (first | fail | (refine at_alloc _ rfl ?_))
 refine Stop.to ?_
 refine wpList_alloc_gen rfl 42 rfl _ _ (zero_dlv _) rfl ?_
 intro R Rw Rh Rr Rb
 go_wp2_with fail
 refine (wireOf_ex s Rw).mono ?_
 rintro e w2 ⟨g, rfl, h2, b2, hg⟩
 go_wp2_with (first | fail | (refine at_alloc _ rfl ?_))
 refine Stop.to ?_
 refine wpList_alloc_gen rfl 42 rfl _ _ (zero_dlv _) rfl ?_
 intro D Dw Dh Dr Db
 have Rr' : Row Rw R 42 #[.slice none 0 0, .int .i64 0, .int .i64 0] := Rr
 have Dr' : Row Dw D 42 #[.slice none 0 0, .int .i64 0, .int .i64 0] := Dr
 have lRg : R < g := Nat.lt_of_lt_of_le Rr'.lt hg
 have lgD : g < D := Nat.lt_of_lt_of_le (Row.lt h2) Dh
 have hr2 := Rr'.below b2 Rr'.lt
 have hrD := hr2.below Db (by omega)
 have hgD := h2.go (Db.mono Dh)
 have hb2 : Below w.heap.size w w2 := ((Below.refl w.heap.size w).trans (Rb.mono Rh)).trans (b2.mono (by have := Rr'.lt; omega))
 have hbD : Below w.heap.size w Dw := hb2.trans (Db.mono (by have := hb2.size; omega))
 clear Rr Dr Rb b2 h2 hg Db hr2 Rr' hb2
 go_wp2_with fail
 have HC := count2_any g s ⟨0, 0⟩ 30 (Nat.zero_le _) Hs.out (by omega) (by omega) Dw hgD
 refine HC.mono ?_
 clear HC
 rintro e w3 ⟨rfl, h3, e3⟩
 have rr3 := e3.row hrD (by omega)
 have rd3 := e3.row Dr' (by omega)
 have b3 := hbD.trans (e3.below (show w.heap.size ≤ g by omega) hbD.size)
 have hcin := rCountZ_in (s := s) (r := ⟨0, 0⟩) (most := 30) (by decide)
 have hcpl := rCountZ_pl (z := 0) (s := s) (r := ⟨0, 0⟩) (most := 30) (Nat.zero_le _)
 rw [← rCount_is] at hcin hcpl
 have Hrd0 := Lib.hid (dlRd_eq s)
 obtain ⟨⟨c, r1⟩, hc⟩ : ∃ p, p = rCount s ⟨0, 0⟩ 30 := ⟨_, rfl⟩
 rw [← hc] at h3 hcin hcpl Hrd0 ⊢
 clear hc
 dsimp only at h3 hcin hcpl Hrd0 ⊢
 obtain ⟨m, rfl⟩ := Int.eq_ofNat_of_zero_le hcin.1
 rw [Int.toNat_natCast] at Hrd0
 have hm : (m : Int) ≤ 30 := hcin.2
 obtain ⟨lim, hlim⟩ : ∃ lim, lim = w3.heap.size := ⟨_, rfl⟩
 have lD : D < lim := by rw [hlim]; exact rd3.lt
 have HL : Hid (DgL s r1 R g D lim 0 w w3 (.slice none 0 0)) := Lib.hid ⟨h3, rd3, rr3, World.ownsRow_nil _ _ _ _, b3, Nat.le_of_eq hlim⟩
 have Hpl := Lib.hid hcpl
 clear hlim h3 rd3 rr3 b3 hcin hcpl e3 hrD Dr' hbD hgD
 go_wp2_with fail
 go_loopw [12] (fun i wr => ∃ (k : Nat) (v : Value), i = .int .i64 (k : Int) ∧ k ≤ m ∧ Hid (DgL s r1 R g D lim k w wr v)) (fun i _ => m - (intOf i).toNat)
 case atStart => exact ⟨0, _, rfl, Nat.zero_le _, HL⟩
 case round =>
  clear HL
  obtain ⟨k, v, rfl, hk, HL⟩ := hrel
  by_cases hlt : k < m
  · have hltI : (k : Int) < (m : Int) := by omega
    go_wp2_with fail
    obtain ⟨i0, hi0, hz0, hz1, hz2⟩ := info_parts info_int
    obtain ⟨h1, h2, h3, h4, h5, h6⟩ := HL.out
    have hpk := pathR_pl (z := 0) (most := 200) Hpl.out k
    have hlk := pathR_len (z := 0) (most := 200) (s := s) (r := r1) k
    obtain ⟨Vd, hVd⟩ : ∃ Vd, Vd = wr.drew := ⟨_, rfl⟩
    have bd : Below wr.heap.size wr Vd := by rw [hVd]; exact St.drew (S := fun W => Below wr.heap.size wr W) (Below.refl _ _)
    replace h1 := h1.go bd
    replace h2 := h2.below bd h2.lt
    replace h3 := h3.below bd h3.lt
    replace h4 := own_below h4 bd
    replace h5 := h5.trans (bd.mono h5.size)
    replace h6 : lim ≤ Vd.heap.size := Nat.le_trans h6 bd.size
    clear HL
    obtain ⟨S2, hS2d⟩ : ∃ S2, S2 = (fun W => Row W D 42 #[v, .int .i64 0, .int .i64 0] ∧ Below w.heap.size w W) := ⟨_, rfl⟩
    have U0 : Hid (∀ W, S2 W → Row W D 42 #[v, .int .i64 0, .int .i64 0]) := by show ∀ W, _; rw [hS2d]; exact fun W h => h.1
    have U1 : Hid (∀ W, Row W D 42 #[v, .int .i64 0, .int .i64 0] → Below w.heap.size w W → S2 W) := by show ∀ W, _; rw [hS2d]; exact fun W h h2 => ⟨h, h2⟩
    clear hS2d
    have hS2 : S2 Vd := U1.out _ h2 h5
    refine wp_ends ?_
    refine region_last (last := 7) (S := S2) (by kernel_rfl) ?_
    simp only [List.size_toArray, List.length_cons, List.length_nil, Nat.reduceAdd, Array.replicate_succ, Array.replicate_zero, List.push_toArray, List.nil_append, List.cons_append]
    rw [← hVd]
    clear hVd bd
    (refine takeL (i := 0) (v := .pointer (some ⟨D, 0, none⟩)) rfl (by kernel_rfl) (by kernel_rfl) (by kernel_rfl) (by kernel_rfl) (fun _ _ _ h => h) (yieldsC_of (yields_val rfl (fun W hW => by (go_simp)))) (by assumption) ?_; simp only [Act.put, List.setIfInBounds_toArray, List.set_cons_zero, List.set_cons_succ])
    (refine takeL (i := 1) (v := v) rfl (by kernel_rfl) (by kernel_rfl) (by kernel_rfl) (by kernel_rfl) (fun _ _ _ h => h) (yieldsC_of (yields_val rfl (fun W hW => by ((have c := (U0.out W hW).cellv (i := 0) (v := v) rfl; go_simp))))) (by assumption) ?_; simp only [Act.put, List.setIfInBounds_toArray, List.set_cons_zero, List.set_cons_succ])
    (refine takeL (i := 2) (v := .pointer (some ⟨g, 0, none⟩)) rfl (by kernel_rfl) (by kernel_rfl) (by kernel_rfl) (by kernel_rfl) (fun _ _ _ h => h) (yieldsC_of (yields_val rfl (fun W hW => by (go_simp)))) (by assumption) ?_; simp only [Act.put, List.setIfInBounds_toArray, List.set_cons_zero, List.set_cons_succ])
    (refine wpAnyL_all (rs := [3]) (by kernel_rfl) (by simp) (fun i hi => ?_); obtain rfl : i = 3 := by simpa using hi)
    refine wpOp_plain rfl rfl (fun K2 hK2 => ?_)
    refine wp_call_gen 95 #[.pointer (some ⟨g, 0, none⟩), .int .i64 200] (w1 := Vd) (by go_simp) ((count2_any g s (pathR 0 200 s r1 k).2 200 hpk Hs.out (by omega) (by omega) Vd h1).mono ?_)
    rintro e V3 ⟨rfl, q1, e3⟩
    refine ⟨_, rfl, ?_⟩
    refine hK2 _ _ ?_
    clear hK2 K2
    simp only [Act.put, List.setIfInBounds_toArray, List.set_cons_zero, List.set_cons_succ]
    have q2 := e3.row h2 (by omega)
    have q3 := e3.row h3 (by omega)
    have q4 := own_eff h4 e3 (by omega)
    have q5 := h5.trans (e3.below (show w.heap.size ≤ g by omega) h5.size)
    have q6 : lim ≤ V3.heap.size := Nat.le_trans h6 e3.size
    clear h1 h2 h3 h4 h5 h6 hS2 e3
    refine ⟨fun _ => U1.out _ q2 q5, ?_⟩
    have Hnext : Hid ((pathR 0 200 s r1 (k + 1)).1 = (pathR 0 200 s r1 k).1 ++ [(rCount s (pathR 0 200 s r1 k).2 200).1] ∧ (pathR 0 200 s r1 (k + 1)).2 = (rCount s (pathR 0 200 s r1 k).2 200).2) := Lib.hid ⟨rfl, rfl⟩
    obtain ⟨⟨x, r2⟩, hx⟩ : ∃ p, p = rCount s (pathR 0 200 s r1 k).2 200 := ⟨_, rfl⟩
    rw [← hx] at q1 Hnext ⊢
    clear hx
    dsimp only at q1 Hnext ⊢
    have hmk : ∀ W : World, (Instr.buildSlice 22 1 #[(0, .int .i64 x)]).run Tryz.prog W = .ok (.slice (some ⟨W.heap.size, 0, none⟩) 1 1) (W.alloc (.cells #[.int .i64 x] 3)) := fun W => by kernel_rfl
    (refine wpAnyL_all (rs := [4]) (by kernel_rfl) (by simp) (fun i hi => ?_); obtain rfl : i = 4 := by simpa using hi)
    refine wpOp_plain rfl rfl (fun K2 hK2 => ?_)
    refine wp_res_gen (.slice (some ⟨V3.heap.size, 0, none⟩) 1 1) (w1 := V3.alloc (.cells #[.int .i64 x] 3)) (by go_simp) ?_
    refine hK2 _ _ ?_
    clear hK2 K2 hmk
    simp only [Act.put, List.setIfInBounds_toArray, List.set_cons_zero, List.set_cons_succ]
    obtain ⟨M, hM⟩ : ∃ M, M = V3.heap.size := ⟨_, rfl⟩
    obtain ⟨V4, hV4⟩ : ∃ V4, V4 = V3.alloc (.cells #[.int .i64 x] 3) := ⟨_, rfl⟩
    have rM : Row V4 M 3 #[.int .i64 x] := by rw [hV4, hM]; exact Row.new _ _ _
    have bM : Below V3.heap.size V3 V4 := by rw [hV4]; exact (Below.refl _ _).alloc (Nat.le_refl _) _
    rw [← hM, ← hV4]
    clear hM hV4
    replace q1 := q1.go bM
    replace q2 := q2.below bM q2.lt
    replace q3 := q3.below bM q3.lt
    replace q4 := own_below q4 bM
    replace q5 := q5.trans (bM.mono q5.size)
    replace q6 : lim ≤ V4.heap.size := Nat.le_trans q6 bM.size
    refine ⟨fun _ => U1.out _ q2 q5, ?_⟩
    obtain ⟨v', V5, hrun, own5, g5, _, hat⟩ := run_append_own_at (P := Tryz.prog) V4 lim 22 22 3 i0 (.int .i64 0) 1 8 Tryz.underlying22 hi0 hz0 hz1 hz2 rfl (by decide) v k (ints (pathR 0 200 s r1 k).1) q4 ⟨M, 0, none⟩ 1 1 (ints [x]) rfl (by rintro (_ | j) u hu; simp [ints] at hu; subst hu; exact rM.cellv rfl; simp [ints] at hu) (by simp [ints, Value.oneCell']) (by unfold maxLen; omega) (by omega) q6
    have ne1 := own_ne q4 q2 (by decide)
    have ne2 := own_ne q4 q3 (by decide)
    have ne3 := own_ne q4 q1 (by decide)
    have p1 : RdO V5 g s r2 := Row.grown q1 g5 ne3
    have p2 := q2.grown g5 ne1
    have p3 := q3.grown g5 ne2
    have p5 := below_grown_own q5 q4 g5 (by have := q5.size; omega) (by omega)
    have p6 : lim ≤ V5.heap.size := Nat.le_trans q6 g5.size
    have rn : ints (pathR 0 200 s r1 k).1 ++ ints [x] = ints (pathR 0 200 s r1 (k + 1)).1 := by rw [Hnext.out.1]; simp [ints]
    rw [rn] at own5
    (refine wpAnyL_all (rs := [5]) (by kernel_rfl) (by simp) (fun i hi => ?_); obtain rfl : i = 5 := by simpa using hi)
    refine wpOp_plain rfl rfl (fun K2 hK2 => ?_)
    refine wp_res_gen _ (run_exec_append rfl hrun) ?_
    refine hK2 _ _ ?_
    clear hK2 K2 hrun
    simp only [Act.put, List.setIfInBounds_toArray, List.set_cons_zero, List.set_cons_succ]
    have hS5 := U1.out _ p2 p5
    refine ⟨fun _ => hS5, ?_⟩
    (refine takeL (i := 6) (v := .pointer (some ⟨D, 0, none⟩)) rfl (by kernel_rfl) (by kernel_rfl) (by kernel_rfl) (by kernel_rfl) (fun _ _ _ h => h) (yieldsC_of (yields_val rfl (fun W hW => by (go_simp)))) (by assumption) ?_; simp only [Act.put, List.setIfInBounds_toArray, List.set_cons_zero, List.set_cons_succ])
    obtain ⟨A', m', c', rfl⟩ : ∃ A m c, v' = .slice A m c := own_slice own5
    have f5 := p2.free 0
    have c5 := p2.cellv (i := 0) (v := v) rfl
    have ne4 := own_ne own5 p2 (by decide)
    have o6 := only_set V5 D 0 (.slice A' m' c')
    have HN : Hid (DgL s r1 R g D lim (k + 1) w (V5.setCell ⟨D, 0, none⟩ (.slice A' m' c')) (.slice A' m' c')) := Lib.hid ⟨by rw [Hnext.out.2]; exact Row.only p1 o6 (by omega), p2.set 0 _, p3.only o6 (by omega), own_only own5 o6 ne4, below_only p5 o6 (by omega), by rw [o6.size]; exact p6⟩
    (refine wpAnyL_all (rs := [7]) (by kernel_rfl) (by simp) (fun i hi => ?_); obtain rfl : i = 7 := by simpa using hi)
    refine wpOp_plain rfl rfl (fun K2 hK2 => ?_)
    unfold Oper.wp
    clear rM bM q1 q2 q3 q4 q5 q6 own5 g5 hat ne1 ne2 ne3 ne4 p1 p2 p3 p5 p6 rn o6 hi hpk hlk hS5
    go_simp
    refine hK2 _ _ ?_
    clear hK2 K2
    simp only [List.setIfInBounds_toArray, List.set_cons_zero, List.set_cons_succ]
    refine ⟨fun h => absurd rfl h, ?_⟩
    refine wpAnyL_done (by kernel_rfl) ?_ _
    refine ends_normal ?_
    go_wp2_with fail
    refine ⟨⟨k + 1, _, by (first | go_num | simp), by omega, HN⟩, ?_⟩
    simp [intOf]; omega
  · obtain rfl : k = m := by omega
    clear hlt hk
    obtain ⟨h1, h2, h3, h4, h5, h6⟩ := HL.out
    have hpk := pathR_pl (z := 0) (most := 200) Hpl.out k
    have hlk := pathR_len (z := 0) (most := 200) (s := s) (r := r1) k
    obtain ⟨A, cap, rfl, hA1, hA2, hA3, hA4, hA5⟩ := own_rdM h4
    obtain ⟨⟨l, r2⟩, hl⟩ : ∃ p, p = pathR 0 200 s r1 k := ⟨_, rfl⟩
    rw [← hl] at h1 hA1 hpk hlk Hrd0
    dsimp only at h1 hA1 hpk hlk Hrd0
    have hT' : ∀ op n, DlT wr ⟨A, cap, ⟨l, op, n⟩⟩ := fun op n => ⟨⟨hA1, by show l.length ≤ 1000000; omega⟩, own_rowB h4, fun e => by
     have := hA4 e
     exact List.eq_nil_of_length_eq_zero (by show l.length = 0; omega)⟩
    have hT := Lib.hid hT'
    clear hl h4 HL hA2 hA3 hA4 hA5 hA1 hT'
    subst hlk
    go_wp2_with fail
    refine (rbyte_any g s r2 hpk Hs.out wr h1).mono ?_
    rintro e w5 ⟨rfl, q1, e5⟩
    have hpb := rByte_pl (s := s) (r := r2) hpk
    have hbl := rByte_lt s r2
    obtain ⟨⟨bn, r3⟩, hb⟩ : ∃ p, p = rByte s r2 := ⟨_, rfl⟩
    rw [← hb] at q1 hpb hbl Hrd0 ⊢
    clear hb
    dsimp only at q1 hpb hbl Hrd0 ⊢
    have q2 := e5.row h2 (by omega)
    have q3 := e5.row h3 (by omega)
    have q5 := h5.trans (e5.below (show w.heap.size ≤ g by omega) h5.size)
    have hT5 : ∀ op n, DlT w5 ⟨A, cap, ⟨l, op, n⟩⟩ := fun op n => (hT.out op n).eff h1 e5
    clear h1 h2 h3 h5 e5 hT h6 hpk
    have HT5 := Lib.hid hT5
    clear hT5
    go_wp2_with fail
    refine (rint_any g s r3 hpb Hs.out w5 q1).mono ?_
    rintro e w6 ⟨rfl, p1, e6⟩
    have hni := rInt_in s r3
    obtain ⟨⟨n, r4⟩, hb⟩ : ∃ p, p = rInt s r3 := ⟨_, rfl⟩
    rw [← hb] at p1 hni Hrd0 ⊢
    clear hb
    dsimp only at p1 hni Hrd0 ⊢
    have p2 := e6.row q2 (by omega)
    have p3 := e6.row q3 (by omega)
    have p5 := q5.trans (e6.below (show w.heap.size ≤ g by omega) q5.size)
    have hT6 : DlT w6 ⟨A, cap, ⟨l, (bn : Int), n⟩⟩ := (HT5.out _ _).eff q1 e6
    clear q1 q2 q3 q5 e6 HT5 p1
    have f1 := p2.free 1
    have f2 := p2.free 2
    have c1 := p2.cellv (i := 1) (v := .int .i64 0) rfl
    have c2 := p2.cellv (i := 2) (v := .int .i64 0) rfl
    have rd6 : Row ((w6.setCell ⟨D, 1, none⟩ (.int .i64 (bn : Int))).setCell ⟨D, 2, none⟩ (.int .i64 n)) D 42 #[.slice A l.length cap, .int .i64 (bn : Int), .int .i64 n] := (p2.set 1 _).set 2 _
    have o1 := only_set w6 D 1 (.int .i64 (bn : Int))
    have o2 := only_set (w6.setCell ⟨D, 1, none⟩ (.int .i64 (bn : Int))) D 2 (.int .i64 n)
    have rr6 := (p3.only o1 (by omega)).only o2 (by omega)
    have hT7 := (hT6.only p2 (by decide) o1).only (p2.set 1 _) (by decide) o2
    have p7 := below_only (below_only p5 o1 (by omega)) o2 (by omega)
    have HC := Lib.hid (dlPut_any ⟨A, cap, ⟨l, (bn : Int), n⟩⟩ _ hT7.ok hni)
    clear o1 o2 p2 p3 p5 hT6
    have HT7 := Lib.hid hT7
    have R6 := Lib.hid rr6
    have P7 := Lib.hid p7
    clear hT7 rr6 p7
    go_wp2_with (refine wpList_load_row rfl 42 _ rfl D rfl 42 #[.slice A l.length cap, .int .i64 (bn : Int), .int .i64 n] (0, 0) _ rd6 Tryz.underlying42 rfl (by kernel_rfl) ?_)
    by_cases hr : rightDl ⟨l, (bn : Int), n⟩ = true ∧ encDl ⟨l, (bn : Int), n⟩ = s
    · have hp : putDl ⟨l, (bn : Int), n⟩ = (s, 0) := by rw [putDl, if_pos hr.1, hr.2]
      rw [hp] at HC
      have Hg := Lib.hid (getDl_yes hni hr.1 hr.2)
      clear hr hp
      refine HC.out.mono ?_
      rintro e w8 ⟨rfl, b8⟩
      have rd8 := rd6.below b8 rd6.lt
      have rr8 := R6.out.below b8 R6.out.lt
      have p8 := P7.out.trans (b8.mono P7.out.size)
      have HT8 := Lib.hid (HT7.out.go b8)
      clear b8 HC rd6 c1 c2 f1 f2
      go_wp2_with (first | (refine wpList_load_row rfl 42 _ rfl D rfl 42 #[.slice A l.length cap, .int .i64 (bn : Int), .int .i64 n] (0, 0) _ rd8 Tryz.underlying42 rfl (by kernel_rfl) ?_) | (refine at_store _ _ _ rfl ?_))
      refine Stop.to ?_
      refine wpList_store_gen rfl 42 _ _ rfl R #[.slice A l.length cap, .int .i64 (bn : Int), .int .i64 n] rfl rfl 42 _ rr8 (by kernel_rfl) rfl (by simp [Value.oneCell']) ?_
      intro w9 r9 o9
      go_wp2_with fail
      try rw [Exit.noGoto_ret]
      refine bodyPost_ret (results_cell_tmp Tryz.results140 _ _ R 42 _ (0, 0) _ rfl r9 Tryz.underlying42 rfl (by kernel_rfl)) rfl ?_
      exact ⟨⟨A, cap, ⟨l, (bn : Int), n⟩⟩, by rw [Hg.out], by rw [Hg.out]; rfl, HT8.out.only rr8 (by decide) o9, below_only p8 o9 (by omega), hni⟩
    · have Hg := Lib.hid (getDl_no (s := s) (d := ⟨l, (bn : Int), n⟩) (fun d0 h1 h2 h3 => by rw [← Hrd0.out, ← h3]; exact dlRd_put h1 h2) hr)
      obtain ⟨⟨t, e0⟩, hp⟩ : ∃ p, p = putDl ⟨l, (bn : Int), n⟩ := ⟨_, rfl⟩
      rw [← hp] at HC
      have hne : ¬ (e0 = 0 ∧ t = s) := fun h => hr (by
       unfold putDl at hp
       by_cases h1 : rightDl ⟨l, (bn : Int), n⟩ = true
       · rw [if_pos h1] at hp; injection hp with hp1 _; exact ⟨h1, by rw [← hp1, h.2]⟩
       · rw [if_neg h1] at hp; injection hp with _ hp2; rw [h.1] at hp2; exact absurd hp2 (by decide))
      have hts : e0 = 0 → (t == s) = false := fun h0 => by simpa using fun e => hne ⟨h0, e⟩
      have Hts := Lib.hid hts
      clear hr hp hne hts
      refine HC.out.mono ?_
      rintro e w8 ⟨rfl, b8⟩
      have rd8 := rd6.below b8 rd6.lt
      have rr8 := R6.out.below b8 R6.out.lt
      have p8 := P7.out.trans (b8.mono P7.out.size)
      have HT8 := Lib.hid (HT7.out.go b8)
      clear b8 HC rd6 c1 c2 f1 f2
      have hzr : (Instr.build 42 #[]).run Tryz.prog w8 = .ok (.agg #[.slice none 0 0, .int .i64 0, .int .i64 0]) w8 := by kernel_rfl
      have HZ : DlT w8 ⟨none, 0, ⟨[], 0, 0⟩⟩ := ⟨⟨Rd.nil _ _, by simp⟩, fun _ h => (by cases h), fun _ => rfl⟩
      by_cases he : e0 = 0
      · have htb := Hts.out he
        subst he
        clear Hts
        go_wp2_with (first | (refine at_store _ _ _ rfl ?_))
        refine Stop.to ?_
        refine wpList_store_gen rfl 42 _ _ rfl R #[.slice none 0 0, .int .i64 0, .int .i64 0] rfl rfl 42 _ rr8 (by kernel_rfl) rfl (by simp [Value.oneCell']) ?_
        intro w9 r9 o9
        go_wp2_with fail
        try rw [Exit.noGoto_ret]
        refine bodyPost_ret (results_cell_tmp Tryz.results140 _ _ R 42 _ (0, 0) _ rfl r9 Tryz.underlying42 rfl (by kernel_rfl)) rfl ?_
        exact ⟨⟨none, 0, ⟨[], 0, 0⟩⟩, by rw [Hg.out], by rw [Hg.out]; rfl, HZ.only rr8 (by decide) o9, below_only p8 o9 (by omega), ⟨by decide, by decide⟩⟩
      · clear Hts
        go_wp2_with (first | (refine at_store _ _ _ rfl ?_))
        refine Stop.to ?_
        refine wpList_store_gen rfl 42 _ _ rfl R #[.slice none 0 0, .int .i64 0, .int .i64 0] rfl rfl 42 _ rr8 (by kernel_rfl) rfl (by simp [Value.oneCell']) ?_
        intro w9 r9 o9
        go_wp2_with fail
        try rw [Exit.noGoto_ret]
        refine bodyPost_ret (results_cell_tmp Tryz.results140 _ _ R 42 _ (0, 0) _ rfl r9 Tryz.underlying42 rfl (by kernel_rfl)) rfl ?_
        exact ⟨⟨none, 0, ⟨[], 0, 0⟩⟩, by rw [Hg.out], by rw [Hg.out]; rfl, HZ.only rr8 (by decide) o9, below_only p8 o9 (by omega), ⟨by decide, by decide⟩⟩
end Go.Proofs.YtcgglolckkeeiaaGreat
namespace Go.Proofs.YtcgglolckkeeiaaGreat
open Go.RowKit Go.Deep
def scS (s : List UInt8) : Nat → List Int × Rs
 | 0 => ([0, 0, 0], ⟨0, 0⟩)
 | k + 1 => ((scS s k).1.set k (rCount s (scS s k).2 2000).1, (rCount s (scS s k).2 2000).2)
theorem scS_len (s : List UInt8) : ∀ k, (scS s k).1.length = 3
 | 0 => rfl
 | k + 1 => by rw [scS, List.length_set, scS_len s k]
theorem scS_pl (s : List UInt8) : ∀ k, (scS s k).2.pl ≤ s.length
 | 0 => Nat.zero_le _
 | k + 1 => by
  rw [scS]
  have := rCountZ_pl (z := 0) (most := 2000) (scS_pl s k)
  rwa [← rCount_is] at this
theorem scS_3 (s : List UInt8) : (scS s 3).1 = (scRd s).ns := rfl
theorem ints_set (l : List Int) (k : Nat) (n : Int) : (ints l).toArray.setIfInBounds k (.int .i64 n) = (ints (l.set k n)).toArray := by simp [ints]
set_option maxRecDepth 100000 in
set_option maxHeartbeats 8000000 in
theorem getScore_any (s : List UInt8) (w : World) (hs : s.length ≤ 1000000) :
 Calls Tryz.prog 39 #[.string ⟨s.toArray⟩] w fun e w' => e = .returned (.tuple #[.agg (getSc s).1.cells, .int .i64 (getSc s).2]) ∧ Below w.heap.size w w' := by
 have Hs := Lib.hid hs
 obtain ⟨pd, hpd⟩ : ∃ p, p = getSc s := ⟨_, rfl⟩
 have Hpd := Lib.hid hpd
 rw [← hpd]
 clear hs hpd
 go_enter Tryz.func39, Tryz.ntmps39
 go_wp2_with (first | fail | (refine at_alloc _ rfl ?_))
 refine Stop.to ?_
 refine wpList_alloc_gen rfl 29 rfl _ _ (zero_score _) rfl ?_
 intro R Rw Rh Rr Rb
 go_wp2_with fail
 refine (wireOf_ex s Rw).mono ?_
 rintro e w2 ⟨g, rfl, h2, b2, hg⟩
 go_wp2_with (first | fail | (refine at_alloc _ rfl ?_))
 refine Stop.to ?_
 refine wpList_alloc_gen rfl 29 rfl _ _ (zero_score _) rfl ?_
 intro D Dw Dh Dr Db
 have Rr' : Row Rw R 29 #[.int .i64 0, .int .i64 0, .int .i64 0] := Rr
 have Dr' : Row Dw D 29 (ints [0, 0, 0]).toArray := Dr
 have lRg : R < g := Nat.lt_of_lt_of_le Rr'.lt hg
 have lgD : g < D := Nat.lt_of_lt_of_le (Row.lt h2) Dh
 have hr2 := Rr'.below b2 Rr'.lt
 have hrD := hr2.below Db (by omega)
 have hgD := h2.go (Db.mono Dh)
 have hb2 : Below w.heap.size w w2 := ((Below.refl w.heap.size w).trans (Rb.mono Rh)).trans (b2.mono (by have := Rr'.lt; omega))
 have hbD : Below w.heap.size w Dw := hb2.trans (Db.mono (by have := hb2.size; omega))
 have hwg : w.heap.size ≤ g := by omega
 clear Rr Dr Rb b2 h2 hg Db hr2 Rr' hb2
 go_wp2_with (refine at_slice _ _ _ rfl ?_)
 refine Stop.to ?_
 refine wpList_slice_gen rfl 137 3 _ rfl 136 #[.pointer (some ⟨D, 0, none⟩), .pointer (some ⟨D, 1, none⟩), .pointer (some ⟨D, 2, none⟩)] (fun W => by kernel_rfl) ?_
 intro L Lw Lh Lr Lb
 have lDL : D < L := Nat.lt_of_lt_of_le Dr'.lt Lh
 replace Dr' := Dr'.below Lb (by omega)
 replace hrD := hrD.below Lb (by omega)
 replace hgD := hgD.go (Lb.mono Lh)
 replace hbD := hbD.trans (Lb.mono (by have := hbD.size; omega))
 clear Lb Lh Dh
 go_wp2_with fail
 go_loopw [17] (fun i wr => ∃ k : Nat, i = .int .i64 (k : Int) ∧ k ≤ 3 ∧ RdO wr g s (scS s k).2 ∧ Row wr D 29 (ints (scS s k).1).toArray ∧ Row wr R 29 #[.int .i64 0, .int .i64 0, .int .i64 0] ∧ Row wr L 136 #[.pointer (some ⟨D, 0, none⟩), .pointer (some ⟨D, 1, none⟩), .pointer (some ⟨D, 2, none⟩)] ∧ Below w.heap.size w wr) (fun i _ => 3 - (intOf i).toNat)
 case atStart => exact ⟨0, rfl, Nat.zero_le _, hgD, Dr', hrD, Lr, hbD⟩
 case round =>
  clear hgD Dr' hrD Lr hbD
  obtain ⟨k, rfl, hk, h1, h2, h3, h4, h5⟩ := hrel
  by_cases hlt : k < 3
  · have hc : wr.cell? ⟨L, k, none⟩ = some (.pointer (some ⟨D, k, none⟩)) := h4.cellv (by
     match k, hlt with
     | 0, _ | 1, _ | 2, _ => rfl)
    have hltI : (k : Int) < 3 := by omega
    go_wp2_with fail
    refine (count2_any g s (scS s k).2 2000 (scS_pl s k) Hs.out (by omega) (by omega) wr h1).mono ?_
    rintro e w5 ⟨rfl, q1, e5⟩
    have q2 := e5.row h2 (by omega)
    have q3 := e5.row h3 (by omega)
    have q4 := e5.row h4 (by omega)
    have q5 := h5.trans (e5.below hwg h5.size)
    obtain ⟨x0, hx0⟩ : ∃ x, (scS s k).1[k]? = some x := ⟨_, List.getElem?_eq_getElem (by rw [scS_len]; exact hlt)⟩
    have hcD : w5.cell? ⟨D, k, none⟩ = some (.int .i64 x0) := q2.cellv (by simp [ints, hx0])
    have hfD := q2.free k
    have o5 := only_set w5 D k (.int .i64 (rCount s (scS s k).2 2000).1)
    have p2 := q2.set k (.int .i64 (rCount s (scS s k).2 2000).1)
    rw [ints_set] at p2
    have P1 := Lib.hid (Row.only q1 o5 (by omega))
    have P2 := Lib.hid p2
    have P3 := Lib.hid (q3.only o5 (by omega))
    have P4 := Lib.hid (q4.only o5 (by omega))
    have P5 := Lib.hid (below_only q5 o5 (by omega))
    clear h1 h2 h3 h4 h5 hc e5 q1 q2 q3 q4 q5 hx0 o5 p2
    go_wp2_with fail
    go_roundw
    case rel => exact ⟨k + 1, by go_num, by omega, P1.out, P2.out, P3.out, P4.out, P5.out⟩
    case measure => simp [intOf]; omega
  · obtain rfl : k = 3 := by omega
    rw [scS_3] at h2
    have HP := Lib.hid (putScore_any (scRd s) wr)
    clear hlt hk h1 h4
    go_wp2_with (refine wpList_load_row rfl 29 _ rfl D rfl 29 (ints (scRd s).ns).toArray (0, 0) _ h2 Tryz.underlying29 rfl (by kernel_rfl) ?_)
    by_cases hr : okSc (scRd s) ∧ encSc (scRd s) = s
    · have hp : putSc (scRd s) = (s, 0) := by rw [putSc, if_pos hr.1, hr.2]
      rw [hp] at HP
      obtain rfl : pd = (scRd s, 0) := Hpd.out.trans (gotBy_yes scRd_put hr.1 hr.2)
      clear hr hp
      refine HP.out.mono ?_
      rintro e w8 ⟨rfl, b8⟩
      have d8 := h2.below b8 h2.lt
      have r8 := h3.below b8 h3.lt
      have p8 := h5.trans (b8.mono h5.size)
      clear b8 HP h2 h3 h5
      go_wp2_with (first | (refine wpList_load_row rfl 29 _ rfl D rfl 29 (ints (scRd s).ns).toArray (0, 0) _ d8 Tryz.underlying29 rfl (by kernel_rfl) ?_) | (refine at_store _ _ _ rfl ?_))
      refine Stop.to ?_
      refine wpList_store_gen rfl 29 _ _ rfl R (ints (scRd s).ns).toArray rfl rfl 29 _ r8 (by kernel_rfl) rfl (by simp [ints, Sc.ns, Value.oneCell']) ?_
      intro w9 r9 o9
      go_wp2_with fail
      try rw [Exit.noGoto_ret]
      refine bodyPost_ret (results_cell_tmp Tryz.results39 _ _ R 29 _ (0, 0) _ rfl r9 Tryz.underlying29 rfl (by kernel_rfl)) rfl ?_
      exact ⟨rfl, below_only p8 o9 (by omega)⟩
    · obtain rfl : pd = (⟨0, 0, 0⟩, 12) := Hpd.out.trans (gotBy_no scRd_put hr)
      obtain ⟨⟨t, e0⟩, hp⟩ : ∃ p, p = putSc (scRd s) := ⟨_, rfl⟩
      rw [← hp] at HP
      have hne : ¬ (e0 = 0 ∧ t = s) := fun h => hr (by
       unfold putSc at hp
       by_cases h1 : okSc (scRd s)
       · rw [if_pos h1] at hp; injection hp with hp1 _; exact ⟨h1, by rw [← hp1, h.2]⟩
       · rw [if_neg h1] at hp; injection hp with _ hp2; rw [h.1] at hp2; exact absurd hp2 (by decide))
      have hts : e0 = 0 → (t == s) = false := fun h0 => by simpa using fun e => hne ⟨h0, e⟩
      have Hts := Lib.hid hts
      clear hr hp hne hts
      refine HP.out.mono ?_
      rintro e w8 ⟨rfl, b8⟩
      have r8 := h3.below b8 h3.lt
      have p8 := h5.trans (b8.mono h5.size)
      clear b8 HP h2 h3 h5
      have hzr : (Instr.build 29 #[]).run Tryz.prog w8 = .ok (.agg #[.int .i64 0, .int .i64 0, .int .i64 0]) w8 := by kernel_rfl
      by_cases he : e0 = 0
      · have htb := Hts.out he
        subst he
        clear Hts
        go_wp2_with (first | (refine at_store _ _ _ rfl ?_))
        refine Stop.to ?_
        refine wpList_store_gen rfl 29 _ _ rfl R #[.int .i64 0, .int .i64 0, .int .i64 0] rfl rfl 29 _ r8 (by kernel_rfl) rfl (by simp [Value.oneCell']) ?_
        intro w9 r9 o9
        go_wp2_with fail
        try rw [Exit.noGoto_ret]
        refine bodyPost_ret (results_cell_tmp Tryz.results39 _ _ R 29 _ (0, 0) _ rfl r9 Tryz.underlying29 rfl (by kernel_rfl)) rfl ?_
        exact ⟨rfl, below_only p8 o9 (by omega)⟩
      · clear Hts
        go_wp2_with (first | (refine at_store _ _ _ rfl ?_))
        refine Stop.to ?_
        refine wpList_store_gen rfl 29 _ _ rfl R #[.int .i64 0, .int .i64 0, .int .i64 0] rfl rfl 29 _ r8 (by kernel_rfl) rfl (by simp [Value.oneCell']) ?_
        intro w9 r9 o9
        go_wp2_with fail
        try rw [Exit.noGoto_ret]
        refine bodyPost_ret (results_cell_tmp Tryz.results39 _ _ R 29 _ (0, 0) _ rfl r9 Tryz.underlying29 rfl (by kernel_rfl)) rfl ?_
        exact ⟨rfl, below_only p8 o9 (by omega)⟩
end Go.Proofs.YtcgglolckkeeiaaGreat
