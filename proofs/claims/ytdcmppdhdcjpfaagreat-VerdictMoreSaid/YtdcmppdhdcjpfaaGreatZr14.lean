/- Lemmas for VerdictMoreP. -/
import Derived.Test.YtdcmppdhdcjpfaaGreatZr1
import Derived.Test.YtdcmppdhdcjpfaaGreatZr13
set_option linter.unusedVariables false
set_option linter.unusedSimpArgs false
set_option maxRecDepth 100000
set_option maxHeartbeats 16000000
namespace Go.Proofs.YtdcmppdhdcjpfaaGreat
open Go.RowKit Go.Deep
attribute [local go_sem] Oper.semAt_some
theorem Ae7 (A : Option Addr) (cap n bl Rb : Nat) (tag : Int) (nn : Int) (ys : List Nd) (Z : Nat → Obj → Prop) (w : World) (hC : ListsC A cap n bl Rb ⟨tag, nn⟩ ys Z w) (full : List (Int × List Int))
 (hc : (7 ≤ tag ∧ tag ≤ 11 ∧ full = [(1, Jc 7 11 tag)]) ∨ (12 ≤ tag ∧ tag ≤ 17 ∧ full = [(2, Jc 12 17 tag)]) ∨ (tag = 18 ∧ full = [(3, Jc 18 19 18)]) ∨ (tag = 19 ∧ full = [(3, Jc 18 19 19)]) ∨ ((tag = 21 ∨ tag = 22) ∧ full = [(5, [0])]) ∨ ((tag = 23 ∨ tag = 24) ∧ full = [(5, [0]), (6, [0])]) ∨ (tag = 2 ∧ full = [(4, [wrap64 (1 - nn)])]) ∨
  (tag = 1 ∧ full = [(4, JI nn [0, 1, -1, wrap64 (nn + 1), wrap64 (nn - 1)])]) ∨ (tag = 25 ∧ full = [(5, [0]), (7, Zv (ys.headD ⟨0, 0⟩))]) ∨ ((tag = 3 ∨ tag = 4 ∨ tag = 5 ∨ tag = 6 ∨ tag = 20 ∨ tag = 26) ∧ full = [])) :
 UZ Tryz.prog 285 #[.pointer (some ⟨bl, 0, none⟩)] LsX.enc (fun _ => False) (fun lb => KpG (fun k o => Z k o ∨ k = lb)) (LsP full) (fun xs => xs.map LsX.f = full) (fun _ => True) full.length False w := by
 intro lb J Jx W hlb hwW hst hJ hJx hY h0
 replace hst : ∀ pre W', ¬ Jx pre W' := hst.resolve_left id
 have hbw : Below w.heap.size w W := ⟨hwW.os, hwW.tape, hwW.output, hwW.size, fun k hk => hwW.block k hk (by simp)⟩
 have HC := Lh hC
 have HB := Lh hbw
 have HL := Lh hlb
 have HJ := Lh hJ
 have HY : Hid (∀ pre (x : LsX) W1, J pre W1 → LsP full pre x W1 → pre.length < full.length → YieldAt Fence.wide 0 Tryz.prog lb x.enc W1 fun e W' => e = .returned (.bool true) ∧ J (pre ++ [x]) W' ∧ KpG (fun k o => Z k o ∨ k = lb) W1 W') := fun pre x W1 h1 h2 h3 => (hY pre x W1 h1 h2 h3).mono fun e W' h => by
  rcases h with h | ⟨_, h, _⟩
  · exact h
  · exact absurd h (hst _ _)
 clear hC hbw hlb hJ hJx hY hst hwW
 refine callsIn_of_wp Tryz.func285 rfl trivial ?_ rfl
 simp only [Tryz.ntmps285, List.size_toArray, List.length_cons, List.length_nil, Nat.reduceAdd, Nat.reduceSub, Array.replicate_succ, Array.replicate_zero, List.push_toArray, List.append_toArray, List.nil_append, List.cons_append]
 obtain ⟨W1, hW1⟩ : ∃ W1, W1 = W.alloc (.cells #[.func (.yield lb) #[] #[]] 329) := ⟨_, rfl⟩
 have b1 : Below W.heap.size W W1 := by rw [hW1]; exact (Below.refl _ _).alloc (Nat.le_refl _) _
 have rl1 := (HC.out.rl.below HB.out HC.out.rl.lt).below b1 (Nat.lt_of_lt_of_le HC.out.rl.lt HB.out.size)
 have hrd := (HC.out.hr.go HB.out).go b1
 obtain ⟨ad, had, hcn⟩ := Jq hrd (k := 0) (x := ⟨tag, nn⟩) rfl
 have e0 : W1.cell? ad = some (.int .i64 tag) := by have := hcn 0 _ rfl; rwa [Nat.zero_mul, Xa, Xa] at this
 have e1 : W1.cell? ⟨ad.block, ad.off + 1, none⟩ = some (.int .i64 nn) := by have := hcn 1 _ rfl; rw [Nat.zero_mul, Xa] at this; exact this
 have hn0 : (0 : Int) < (n : Int) := by have := HC.out.hn; rw [this]; simp
 have cl := rl1.cellv (i := 0) (v := .slice A n cap) rfl
 rw [had] at cl
 rw [hW1] at cl e0 e1
 have Had := Lh had
 clear hcn hrd rl1 b1 hW1 had
 obtain ⟨W3, hW3⟩ : ∃ W3, W3 = ((W.alloc (.cells #[.func (.yield lb) #[] #[]] 329)).alloc (.cells #[.int .i64 tag, .int .i64 nn] 85)).alloc (.cells #[.bool true] 4) := ⟨_, rfl⟩
 have hz2 : ∀ k cs t fr, W.heap.size ≤ k → (t = 329 ∨ t = 85 ∨ t = 4 ∨ t = 3) → ¬ (Z k (.cells cs t fr) ∨ k = lb) := fun k cs t fr h1 h2 h => by
  rcases h with h | h
  · exact HC.out.z2 k cs t fr (by have := HB.out.size; omega) h2 h
  · have := HL.out.2; omega
 have b3 : Below W.heap.size W W3 := by rw [hW3]; exact (((Below.refl _ _).alloc (Nat.le_refl _) _).alloc (by simp) _).alloc (by simp; omega) _
 have hT : TellC lb (W.heap.size + 1 + 1) W.heap.size (fun k o => Z k o ∨ k = lb) W3 := by
  refine ⟨?_, ?_, fun cs fr => hz2 _ _ _ _ (by omega) (by simp), fun cs fr => hz2 _ _ _ _ (by omega) (by simp)⟩
  · rw [hW3]; have := Row.new ((W.alloc (.cells #[.func (.yield lb) #[] #[]] 329)).alloc (.cells #[.int .i64 tag, .int .i64 nn] 85)) 4 #[.bool true]
    simpa using this
  · rw [hW3]; exact ((Row.new W 329 #[.func (.yield lb) #[] #[]]).alloc _).alloc _
 have rN : Row W3 (W.heap.size + 1) 85 #[.int .i64 tag, .int .i64 nn] := by
  rw [hW3]; have := (Row.new (W.alloc (.cells #[.func (.yield lb) #[] #[]] 329)) 85 #[.int .i64 tag, .int .i64 nn]).alloc (.cells #[.bool true] 4)
  simpa using this
 have hj := QB HJ.out h0 b3
 have sz3 : W3.heap.size = W.heap.size + 1 + 1 + 1 := by rw [hW3]; simp
 have zN : Hid (¬ (Z (W.heap.size + 1) (.cells #[.int .i64 tag, .int .i64 nn] 85 (0, 0)) ∨ W.heap.size + 1 = lb)) := hz2 _ _ _ _ (by omega) (by simp)
 have HT := Lh hT
 have RN := Lh rN
 have SZ3 := Lh sz3
 have B3 := Lh b3
 have HJ3 := Lh hj
 have HW3 := Lh hW3
 have H0 := Lh h0
 clear hz2 b3 hT rN sz3 hj hW3 h0
 rcases hc with ⟨h1, h2, hfull⟩ | ⟨h1, h2, hfull⟩ | ⟨rfl, hfull⟩ | ⟨rfl, hfull⟩ | ⟨rfl | rfl, hfull⟩ | ⟨rfl | rfl, hfull⟩ | ⟨rfl, hfull⟩ | ⟨rfl, hfull⟩ | ⟨rfl, hfull⟩ | ⟨rfl | rfl | rfl | rfl | rfl | rfl, hfull⟩
 · skip
   have Hfull := Lh hfull
   clear hfull
   gi_wp2_with fail
   rw [← HW3.out]
   have rN := RN.out
   have sz3 := SZ3.out
   have b30 := B3.out
   have hj := HJ3.out
   clear HW3 RN SZ3 B3 HJ3 H0 cl e0 e1
   refine ⟨trivial, rfl, (callsIn_wide.2 (UU 7 11 tag W3 (by omega) (by omega) (by omega))).mono ?_⟩
   rintro e W4 ⟨A4, c4, rfl, rd4, nil4, bW4, tyW4⟩
   replace hj := QB HJ.out hj bW4
   replace rN := ((KpG.of_below (Z := fun k o => Z k o ∨ k = lb) bW4)).row rN zN.out
   replace HT := Lh (HT.out.kg ((KpG.of_below (Z := fun k o => Z k o ∨ k = lb) bW4)))
   clear sz3
   gi_wp2_with fail
   have hyp := HY.out [] ⟨1, A4, c4, (Jc 7 11 tag)⟩ W4 hj ⟨⟨rd4, nil4, tyW4⟩, by rw [Hfull.out]; exact ⟨_, rfl⟩⟩ (by rw [Hfull.out]; simp)
   have Htell := Lh (Z4 lb (W.heap.size + 1 + 1) W.heap.size (fun k o => Z k o ∨ k = lb) W4 ⟨1, A4, c4, (Jc 7 11 tag)⟩ (J ([] ++ [⟨1, A4, c4, (Jc 7 11 tag)⟩])) HT.out hyp)
   clear hyp hj
   refine ⟨trivial, rfl, Htell.out.mono ?_⟩
   clear Htell
   rintro e W5 ⟨⟨_, rfl⟩, hj, hkp⟩
   replace rN := (hkp).row rN zN.out
   replace HT := Lh (HT.out.kg (hkp))
   clear hkp rd4 nil4 bW4
   have ct := rN.cellv (i := 0) (v := .int .i64 _) rfl
   have cn := rN.cellv (i := 1) (v := .int .i64 nn) rfl
   clear rN
   gi_wp2_with fail
   go_end0
   exact ⟨⟨_, rfl⟩, .inl ⟨_, by rw [Hfull.out]; rfl, hj⟩⟩
 · skip
   have Hfull := Lh hfull
   clear hfull
   gi_wp2_with fail
   rw [← HW3.out]
   have rN := RN.out
   have sz3 := SZ3.out
   have b30 := B3.out
   have hj := HJ3.out
   clear HW3 RN SZ3 B3 HJ3 H0 cl e0 e1
   refine ⟨trivial, rfl, (callsIn_wide.2 (UU 12 17 tag W3 (by omega) (by omega) (by omega))).mono ?_⟩
   rintro e W4 ⟨A4, c4, rfl, rd4, nil4, bW4, tyW4⟩
   replace hj := QB HJ.out hj bW4
   replace rN := ((KpG.of_below (Z := fun k o => Z k o ∨ k = lb) bW4)).row rN zN.out
   replace HT := Lh (HT.out.kg ((KpG.of_below (Z := fun k o => Z k o ∨ k = lb) bW4)))
   clear sz3
   gi_wp2_with fail
   have hyp := HY.out [] ⟨2, A4, c4, (Jc 12 17 tag)⟩ W4 hj ⟨⟨rd4, nil4, tyW4⟩, by rw [Hfull.out]; exact ⟨_, rfl⟩⟩ (by rw [Hfull.out]; simp)
   have Htell := Lh (Z4 lb (W.heap.size + 1 + 1) W.heap.size (fun k o => Z k o ∨ k = lb) W4 ⟨2, A4, c4, (Jc 12 17 tag)⟩ (J ([] ++ [⟨2, A4, c4, (Jc 12 17 tag)⟩])) HT.out hyp)
   clear hyp hj
   refine ⟨trivial, rfl, Htell.out.mono ?_⟩
   clear Htell
   rintro e W5 ⟨⟨_, rfl⟩, hj, hkp⟩
   replace rN := (hkp).row rN zN.out
   replace HT := Lh (HT.out.kg (hkp))
   clear hkp rd4 nil4 bW4
   have ct := rN.cellv (i := 0) (v := .int .i64 _) rfl
   have cn := rN.cellv (i := 1) (v := .int .i64 nn) rfl
   clear rN
   gi_wp2_with fail
   go_end0
   exact ⟨⟨_, rfl⟩, .inl ⟨_, by rw [Hfull.out]; rfl, hj⟩⟩
 · skip
   have Hfull := Lh hfull
   clear hfull
   gi_wp2_with fail
   rw [← HW3.out]
   have rN := RN.out
   have sz3 := SZ3.out
   have b30 := B3.out
   have hj := HJ3.out
   clear HW3 RN SZ3 B3 HJ3 H0 cl e0 e1
   refine ⟨trivial, rfl, (callsIn_wide.2 (UU 18 19 18 W3 (by omega) (by omega) (by omega))).mono ?_⟩
   rintro e W4 ⟨A4, c4, rfl, rd4, nil4, bW4, tyW4⟩
   replace hj := QB HJ.out hj bW4
   replace rN := ((KpG.of_below (Z := fun k o => Z k o ∨ k = lb) bW4)).row rN zN.out
   replace HT := Lh (HT.out.kg ((KpG.of_below (Z := fun k o => Z k o ∨ k = lb) bW4)))
   clear sz3
   gi_wp2_with fail
   have hyp := HY.out [] ⟨3, A4, c4, (Jc 18 19 18)⟩ W4 hj ⟨⟨rd4, nil4, tyW4⟩, by rw [Hfull.out]; exact ⟨_, rfl⟩⟩ (by rw [Hfull.out]; simp)
   have Htell := Lh (Z4 lb (W.heap.size + 1 + 1) W.heap.size (fun k o => Z k o ∨ k = lb) W4 ⟨3, A4, c4, (Jc 18 19 18)⟩ (J ([] ++ [⟨3, A4, c4, (Jc 18 19 18)⟩])) HT.out hyp)
   clear hyp hj
   refine ⟨trivial, rfl, Htell.out.mono ?_⟩
   clear Htell
   rintro e W5 ⟨⟨_, rfl⟩, hj, hkp⟩
   replace rN := (hkp).row rN zN.out
   replace HT := Lh (HT.out.kg (hkp))
   clear hkp rd4 nil4 bW4
   have ct := rN.cellv (i := 0) (v := .int .i64 _) rfl
   have cn := rN.cellv (i := 1) (v := .int .i64 nn) rfl
   clear rN
   gi_wp2_with fail
   go_end0
   exact ⟨⟨_, rfl⟩, .inl ⟨_, by rw [Hfull.out]; rfl, hj⟩⟩
 · skip
   have Hfull := Lh hfull
   clear hfull
   gi_wp2_with fail
   rw [← HW3.out]
   have rN := RN.out
   have sz3 := SZ3.out
   have b30 := B3.out
   have hj := HJ3.out
   clear HW3 RN SZ3 B3 HJ3 H0 cl e0 e1
   refine ⟨trivial, rfl, (callsIn_wide.2 (UU 18 19 19 W3 (by omega) (by omega) (by omega))).mono ?_⟩
   rintro e W4 ⟨A4, c4, rfl, rd4, nil4, bW4, tyW4⟩
   replace hj := QB HJ.out hj bW4
   replace rN := ((KpG.of_below (Z := fun k o => Z k o ∨ k = lb) bW4)).row rN zN.out
   replace HT := Lh (HT.out.kg ((KpG.of_below (Z := fun k o => Z k o ∨ k = lb) bW4)))
   clear sz3
   gi_wp2_with fail
   have hyp := HY.out [] ⟨3, A4, c4, (Jc 18 19 19)⟩ W4 hj ⟨⟨rd4, nil4, tyW4⟩, by rw [Hfull.out]; exact ⟨_, rfl⟩⟩ (by rw [Hfull.out]; simp)
   have Htell := Lh (Z4 lb (W.heap.size + 1 + 1) W.heap.size (fun k o => Z k o ∨ k = lb) W4 ⟨3, A4, c4, (Jc 18 19 19)⟩ (J ([] ++ [⟨3, A4, c4, (Jc 18 19 19)⟩])) HT.out hyp)
   clear hyp hj
   refine ⟨trivial, rfl, Htell.out.mono ?_⟩
   clear Htell
   rintro e W5 ⟨⟨_, rfl⟩, hj, hkp⟩
   replace rN := (hkp).row rN zN.out
   replace HT := Lh (HT.out.kg (hkp))
   clear hkp rd4 nil4 bW4
   have ct := rN.cellv (i := 0) (v := .int .i64 _) rfl
   have cn := rN.cellv (i := 1) (v := .int .i64 nn) rfl
   clear rN
   gi_wp2_with fail
   go_end0
   exact ⟨⟨_, rfl⟩, .inl ⟨_, by rw [Hfull.out]; rfl, hj⟩⟩
 · skip
   have Hfull := Lh hfull
   clear hfull
   gi_wp2_with fail
   rw [← HW3.out]
   have rN := RN.out
   have sz3 := SZ3.out
   have b30 := B3.out
   have hj := HJ3.out
   clear HW3 RN SZ3 B3 HJ3 H0 cl e0 e1
   obtain ⟨W4, hW4⟩ : ∃ V, V = (W3).alloc (.cells #[.int .i64 0] 3) := ⟨_, rfl⟩
   have bW4 : Below (W3).heap.size W3 W4 := by rw [hW4]; exact (Below.refl _ _).alloc (Nat.le_refl _) _
   have rdW4 : Rd W4 (some ⟨(W3).heap.size, 0, none⟩) (Qi [0]) := by rw [hW4]; exact ZZ _ _ _
   have tyW4 : IntB W4 (some ⟨(W3).heap.size, 0, none⟩) := fun a e => by injection e with e; subst e; rw [hW4]; exact ⟨_, Row.new _ _ _⟩
   rw [← hW4]
   clear hW4
   rw [← sz3]
   replace hj := QB HJ.out hj bW4
   replace rN := ((KpG.of_below (Z := fun k o => Z k o ∨ k = lb) bW4)).row rN zN.out
   replace HT := Lh (HT.out.kg ((KpG.of_below (Z := fun k o => Z k o ∨ k = lb) bW4)))
   have hyp := HY.out [] ⟨5, some ⟨W3.heap.size, 0, none⟩, 1, [0]⟩ W4 hj ⟨⟨rdW4, by simp, tyW4⟩, by rw [Hfull.out]; exact ⟨_, rfl⟩⟩ (by rw [Hfull.out]; simp)
   have Htell := Lh (Z4 lb (W.heap.size + 1 + 1) W.heap.size (fun k o => Z k o ∨ k = lb) W4 ⟨5, some ⟨W3.heap.size, 0, none⟩, 1, [0]⟩ (J ([] ++ [⟨5, some ⟨W3.heap.size, 0, none⟩, 1, [0]⟩])) HT.out hyp)
   clear hyp hj
   refine ⟨trivial, rfl, Htell.out.mono ?_⟩
   clear Htell
   rintro e W5 ⟨⟨_, rfl⟩, hj, hkp⟩
   replace rN := (hkp).row rN zN.out
   replace HT := Lh (HT.out.kg (hkp))
   clear hkp rdW4 bW4 sz3 b30
   have ct := rN.cellv (i := 0) (v := .int .i64 _) rfl
   have cn := rN.cellv (i := 1) (v := .int .i64 nn) rfl
   clear rN
   gi_wp2_with fail
   go_end0
   exact ⟨⟨_, rfl⟩, .inl ⟨_, by rw [Hfull.out]; rfl, hj⟩⟩
 · skip
   have Hfull := Lh hfull
   clear hfull
   gi_wp2_with fail
   rw [← HW3.out]
   have rN := RN.out
   have sz3 := SZ3.out
   have b30 := B3.out
   have hj := HJ3.out
   clear HW3 RN SZ3 B3 HJ3 H0 cl e0 e1
   obtain ⟨W4, hW4⟩ : ∃ V, V = (W3).alloc (.cells #[.int .i64 0] 3) := ⟨_, rfl⟩
   have bW4 : Below (W3).heap.size W3 W4 := by rw [hW4]; exact (Below.refl _ _).alloc (Nat.le_refl _) _
   have rdW4 : Rd W4 (some ⟨(W3).heap.size, 0, none⟩) (Qi [0]) := by rw [hW4]; exact ZZ _ _ _
   have tyW4 : IntB W4 (some ⟨(W3).heap.size, 0, none⟩) := fun a e => by injection e with e; subst e; rw [hW4]; exact ⟨_, Row.new _ _ _⟩
   rw [← hW4]
   clear hW4
   rw [← sz3]
   replace hj := QB HJ.out hj bW4
   replace rN := ((KpG.of_below (Z := fun k o => Z k o ∨ k = lb) bW4)).row rN zN.out
   replace HT := Lh (HT.out.kg ((KpG.of_below (Z := fun k o => Z k o ∨ k = lb) bW4)))
   have hyp := HY.out [] ⟨5, some ⟨W3.heap.size, 0, none⟩, 1, [0]⟩ W4 hj ⟨⟨rdW4, by simp, tyW4⟩, by rw [Hfull.out]; exact ⟨_, rfl⟩⟩ (by rw [Hfull.out]; simp)
   have Htell := Lh (Z4 lb (W.heap.size + 1 + 1) W.heap.size (fun k o => Z k o ∨ k = lb) W4 ⟨5, some ⟨W3.heap.size, 0, none⟩, 1, [0]⟩ (J ([] ++ [⟨5, some ⟨W3.heap.size, 0, none⟩, 1, [0]⟩])) HT.out hyp)
   clear hyp hj
   refine ⟨trivial, rfl, Htell.out.mono ?_⟩
   clear Htell
   rintro e W5 ⟨⟨_, rfl⟩, hj, hkp⟩
   replace rN := (hkp).row rN zN.out
   replace HT := Lh (HT.out.kg (hkp))
   clear hkp rdW4 bW4 sz3 b30
   have ct := rN.cellv (i := 0) (v := .int .i64 _) rfl
   have cn := rN.cellv (i := 1) (v := .int .i64 nn) rfl
   clear rN
   gi_wp2_with fail
   go_end0
   exact ⟨⟨_, rfl⟩, .inl ⟨_, by rw [Hfull.out]; rfl, hj⟩⟩
 · skip
   have Hfull := Lh hfull
   clear hfull
   gi_wp2_with fail
   rw [← HW3.out]
   have rN := RN.out
   have sz3 := SZ3.out
   have b30 := B3.out
   have hj := HJ3.out
   clear HW3 RN SZ3 B3 HJ3 H0 cl e0 e1
   obtain ⟨W4, hW4⟩ : ∃ V, V = (W3).alloc (.cells #[.int .i64 0] 3) := ⟨_, rfl⟩
   have bW4 : Below (W3).heap.size W3 W4 := by rw [hW4]; exact (Below.refl _ _).alloc (Nat.le_refl _) _
   have rdW4 : Rd W4 (some ⟨(W3).heap.size, 0, none⟩) (Qi [0]) := by rw [hW4]; exact ZZ _ _ _
   have tyW4 : IntB W4 (some ⟨(W3).heap.size, 0, none⟩) := fun a e => by injection e with e; subst e; rw [hW4]; exact ⟨_, Row.new _ _ _⟩
   rw [← hW4]
   clear hW4
   rw [← sz3]
   replace hj := QB HJ.out hj bW4
   replace rN := ((KpG.of_below (Z := fun k o => Z k o ∨ k = lb) bW4)).row rN zN.out
   replace HT := Lh (HT.out.kg ((KpG.of_below (Z := fun k o => Z k o ∨ k = lb) bW4)))
   have hyp := HY.out [] ⟨5, some ⟨W3.heap.size, 0, none⟩, 1, [0]⟩ W4 hj ⟨⟨rdW4, by simp, tyW4⟩, by rw [Hfull.out]; exact ⟨_, rfl⟩⟩ (by rw [Hfull.out]; simp)
   have Htell := Lh (Z4 lb (W.heap.size + 1 + 1) W.heap.size (fun k o => Z k o ∨ k = lb) W4 ⟨5, some ⟨W3.heap.size, 0, none⟩, 1, [0]⟩ (J ([] ++ [⟨5, some ⟨W3.heap.size, 0, none⟩, 1, [0]⟩])) HT.out hyp)
   clear hyp hj
   refine ⟨trivial, rfl, Htell.out.mono ?_⟩
   clear Htell
   rintro e W5 ⟨⟨_, rfl⟩, hj, hkp⟩
   replace rN := (hkp).row rN zN.out
   replace HT := Lh (HT.out.kg (hkp))
   clear hkp
   have ct := rN.cellv (i := 0) (v := .int .i64 _) rfl
   gi_wp2_with fail
   obtain ⟨W6, hW6⟩ : ∃ V, V = (W5).alloc (.cells #[.int .i64 0] 3) := ⟨_, rfl⟩
   have bW6 : Below (W5).heap.size W5 W6 := by rw [hW6]; exact (Below.refl _ _).alloc (Nat.le_refl _) _
   have rdW6 : Rd W6 (some ⟨(W5).heap.size, 0, none⟩) (Qi [0]) := by rw [hW6]; exact ZZ _ _ _
   have tyW6 : IntB W6 (some ⟨(W5).heap.size, 0, none⟩) := fun a e => by injection e with e; subst e; rw [hW6]; exact ⟨_, Row.new _ _ _⟩
   rw [← hW6]
   clear hW6
   replace hj := QB HJ.out hj bW6
   clear ct
   replace rN := ((KpG.of_below (Z := fun k o => Z k o ∨ k = lb) bW6)).row rN zN.out
   replace HT := Lh (HT.out.kg ((KpG.of_below (Z := fun k o => Z k o ∨ k = lb) bW6)))
   have hyp := HY.out [⟨5, some ⟨W3.heap.size, 0, none⟩, 1, [0]⟩] ⟨6, some ⟨W5.heap.size, 0, none⟩, 1, [0]⟩ W6 hj ⟨⟨rdW6, by simp, tyW6⟩, by rw [Hfull.out]; exact ⟨_, rfl⟩⟩ (by rw [Hfull.out]; simp)
   have Htell := Lh (Z4 lb (W.heap.size + 1 + 1) W.heap.size (fun k o => Z k o ∨ k = lb) W6 ⟨6, some ⟨W5.heap.size, 0, none⟩, 1, [0]⟩ (J ([⟨5, some ⟨W3.heap.size, 0, none⟩, 1, [0]⟩] ++ [⟨6, some ⟨W5.heap.size, 0, none⟩, 1, [0]⟩])) HT.out hyp)
   clear hyp hj
   refine ⟨trivial, rfl, Htell.out.mono ?_⟩
   clear Htell
   rintro e W7 ⟨⟨_, rfl⟩, hj, hkp⟩
   replace rN := (hkp).row rN zN.out
   replace HT := Lh (HT.out.kg (hkp))
   clear hkp rdW4 bW4 sz3 rdW6 bW6
   have ct := rN.cellv (i := 0) (v := .int .i64 _) rfl
   have cn := rN.cellv (i := 1) (v := .int .i64 nn) rfl
   clear rN
   gi_wp2_with fail
   go_end0
   exact ⟨⟨_, rfl⟩, .inl ⟨_, by rw [Hfull.out]; rfl, hj⟩⟩
 · skip
   have Hfull := Lh hfull
   clear hfull
   gi_wp2_with fail
   rw [← HW3.out]
   have rN := RN.out
   have sz3 := SZ3.out
   have b30 := B3.out
   have hj := HJ3.out
   clear HW3 RN SZ3 B3 HJ3 H0 cl e0 e1
   obtain ⟨W4, hW4⟩ : ∃ V, V = (W3).alloc (.cells #[.int .i64 0] 3) := ⟨_, rfl⟩
   have bW4 : Below (W3).heap.size W3 W4 := by rw [hW4]; exact (Below.refl _ _).alloc (Nat.le_refl _) _
   have rdW4 : Rd W4 (some ⟨(W3).heap.size, 0, none⟩) (Qi [0]) := by rw [hW4]; exact ZZ _ _ _
   have tyW4 : IntB W4 (some ⟨(W3).heap.size, 0, none⟩) := fun a e => by injection e with e; subst e; rw [hW4]; exact ⟨_, Row.new _ _ _⟩
   rw [← hW4]
   clear hW4
   rw [← sz3]
   replace hj := QB HJ.out hj bW4
   replace rN := ((KpG.of_below (Z := fun k o => Z k o ∨ k = lb) bW4)).row rN zN.out
   replace HT := Lh (HT.out.kg ((KpG.of_below (Z := fun k o => Z k o ∨ k = lb) bW4)))
   have hyp := HY.out [] ⟨5, some ⟨W3.heap.size, 0, none⟩, 1, [0]⟩ W4 hj ⟨⟨rdW4, by simp, tyW4⟩, by rw [Hfull.out]; exact ⟨_, rfl⟩⟩ (by rw [Hfull.out]; simp)
   have Htell := Lh (Z4 lb (W.heap.size + 1 + 1) W.heap.size (fun k o => Z k o ∨ k = lb) W4 ⟨5, some ⟨W3.heap.size, 0, none⟩, 1, [0]⟩ (J ([] ++ [⟨5, some ⟨W3.heap.size, 0, none⟩, 1, [0]⟩])) HT.out hyp)
   clear hyp hj
   refine ⟨trivial, rfl, Htell.out.mono ?_⟩
   clear Htell
   rintro e W5 ⟨⟨_, rfl⟩, hj, hkp⟩
   replace rN := (hkp).row rN zN.out
   replace HT := Lh (HT.out.kg (hkp))
   clear hkp
   have ct := rN.cellv (i := 0) (v := .int .i64 _) rfl
   gi_wp2_with fail
   obtain ⟨W6, hW6⟩ : ∃ V, V = (W5).alloc (.cells #[.int .i64 0] 3) := ⟨_, rfl⟩
   have bW6 : Below (W5).heap.size W5 W6 := by rw [hW6]; exact (Below.refl _ _).alloc (Nat.le_refl _) _
   have rdW6 : Rd W6 (some ⟨(W5).heap.size, 0, none⟩) (Qi [0]) := by rw [hW6]; exact ZZ _ _ _
   have tyW6 : IntB W6 (some ⟨(W5).heap.size, 0, none⟩) := fun a e => by injection e with e; subst e; rw [hW6]; exact ⟨_, Row.new _ _ _⟩
   rw [← hW6]
   clear hW6
   replace hj := QB HJ.out hj bW6
   clear ct
   replace rN := ((KpG.of_below (Z := fun k o => Z k o ∨ k = lb) bW6)).row rN zN.out
   replace HT := Lh (HT.out.kg ((KpG.of_below (Z := fun k o => Z k o ∨ k = lb) bW6)))
   have hyp := HY.out [⟨5, some ⟨W3.heap.size, 0, none⟩, 1, [0]⟩] ⟨6, some ⟨W5.heap.size, 0, none⟩, 1, [0]⟩ W6 hj ⟨⟨rdW6, by simp, tyW6⟩, by rw [Hfull.out]; exact ⟨_, rfl⟩⟩ (by rw [Hfull.out]; simp)
   have Htell := Lh (Z4 lb (W.heap.size + 1 + 1) W.heap.size (fun k o => Z k o ∨ k = lb) W6 ⟨6, some ⟨W5.heap.size, 0, none⟩, 1, [0]⟩ (J ([⟨5, some ⟨W3.heap.size, 0, none⟩, 1, [0]⟩] ++ [⟨6, some ⟨W5.heap.size, 0, none⟩, 1, [0]⟩])) HT.out hyp)
   clear hyp hj
   refine ⟨trivial, rfl, Htell.out.mono ?_⟩
   clear Htell
   rintro e W7 ⟨⟨_, rfl⟩, hj, hkp⟩
   replace rN := (hkp).row rN zN.out
   replace HT := Lh (HT.out.kg (hkp))
   clear hkp rdW4 bW4 sz3 rdW6 bW6
   have ct := rN.cellv (i := 0) (v := .int .i64 _) rfl
   have cn := rN.cellv (i := 1) (v := .int .i64 nn) rfl
   clear rN
   gi_wp2_with fail
   go_end0
   exact ⟨⟨_, rfl⟩, .inl ⟨_, by rw [Hfull.out]; rfl, hj⟩⟩
 · skip
   have Hfull := Lh hfull
   clear hfull
   gi_wp2_with fail
   rw [← HW3.out]
   have rN := RN.out
   have sz3 := SZ3.out
   have b30 := B3.out
   have hj := HJ3.out
   clear HW3 RN SZ3 B3 HJ3 H0 cl e0 e1
   obtain ⟨W4, hW4⟩ : ∃ V, V = (W3).alloc (.cells #[.int .i64 (wrap64 (1 - nn))] 3) := ⟨_, rfl⟩
   have bW4 : Below (W3).heap.size W3 W4 := by rw [hW4]; exact (Below.refl _ _).alloc (Nat.le_refl _) _
   have rdW4 : Rd W4 (some ⟨(W3).heap.size, 0, none⟩) (Qi [wrap64 (1 - nn)]) := by rw [hW4]; exact ZZ _ _ _
   have tyW4 : IntB W4 (some ⟨(W3).heap.size, 0, none⟩) := fun a e => by injection e with e; subst e; rw [hW4]; exact ⟨_, Row.new _ _ _⟩
   rw [← hW4]
   clear hW4
   rw [← sz3]
   replace hj := QB HJ.out hj bW4
   replace rN := ((KpG.of_below (Z := fun k o => Z k o ∨ k = lb) bW4)).row rN zN.out
   replace HT := Lh (HT.out.kg ((KpG.of_below (Z := fun k o => Z k o ∨ k = lb) bW4)))
   have hyp := HY.out [] ⟨4, some ⟨W3.heap.size, 0, none⟩, 1, [wrap64 (1 - nn)]⟩ W4 hj ⟨⟨rdW4, by simp, tyW4⟩, by rw [Hfull.out]; exact ⟨_, rfl⟩⟩ (by rw [Hfull.out]; simp)
   have Htell := Lh (Z4 lb (W.heap.size + 1 + 1) W.heap.size (fun k o => Z k o ∨ k = lb) W4 ⟨4, some ⟨W3.heap.size, 0, none⟩, 1, [wrap64 (1 - nn)]⟩ (J ([] ++ [⟨4, some ⟨W3.heap.size, 0, none⟩, 1, [wrap64 (1 - nn)]⟩])) HT.out hyp)
   clear hyp hj
   refine ⟨trivial, rfl, Htell.out.mono ?_⟩
   clear Htell
   rintro e W5 ⟨⟨_, rfl⟩, hj, hkp⟩
   replace rN := (hkp).row rN zN.out
   replace HT := Lh (HT.out.kg (hkp))
   clear hkp rdW4 bW4 sz3
   have ct := rN.cellv (i := 0) (v := .int .i64 _) rfl
   have cn := rN.cellv (i := 1) (v := .int .i64 nn) rfl
   clear rN
   gi_wp2_with fail
   go_end0
   exact ⟨⟨_, rfl⟩, .inl ⟨_, by rw [Hfull.out]; rfl, hj⟩⟩
 · skip
   have Hfull := Lh hfull
   clear hfull
   gi_wp2_with fail
   rw [← HW3.out]
   have rN := RN.out
   have sz3 := SZ3.out
   have b30 := B3.out
   have hj := HJ3.out
   clear HW3 RN SZ3 B3 HJ3 H0 cl e0 e1
   obtain ⟨W3b, hW3b⟩ : ∃ V, V = W3.alloc (.cells #[.int .i64 0, .int .i64 1, .int .i64 (-1), .int .i64 (wrap64 (nn + 1)), .int .i64 (wrap64 (nn - 1))] 3) := ⟨_, rfl⟩
   have rS : Row W3b W3.heap.size 3 (Qi [0, 1, -1, wrap64 (nn + 1), wrap64 (nn - 1)]).toArray := by rw [hW3b]; exact Row.new _ _ _
   have bS : Below W3.heap.size W3 W3b := by rw [hW3b]; exact (Below.refl _ _).alloc (Nat.le_refl _) _
   rw [← hW3b, ← sz3]
   clear hW3b
   refine ⟨trivial, rfl, (callsIn_wide.2 (Acs W3.heap.size 5 W3.heap.size nn [0, 1, -1, wrap64 (nn + 1), wrap64 (nn - 1)] W3b rS (by simp) (by simp) (by unfold maxLen; omega) (Nat.le_refl _))).mono ?_⟩
   rintro e W4 ⟨A4, c4, rfl, rd4, nil4, bX, tyW4⟩
   have bW4 := bS.trans bX
   replace hj := QB HJ.out hj bW4
   replace rN := ((KpG.of_below (Z := fun k o => Z k o ∨ k = lb) bW4)).row rN zN.out
   replace HT := Lh (HT.out.kg ((KpG.of_below (Z := fun k o => Z k o ∨ k = lb) bW4)))
   clear sz3 rS bS bX
   gi_wp2_with fail
   have hyp := HY.out [] ⟨4, A4, c4, (JI nn [0, 1, -1, wrap64 (nn + 1), wrap64 (nn - 1)])⟩ W4 hj ⟨⟨rd4, nil4, tyW4⟩, by rw [Hfull.out]; exact ⟨_, rfl⟩⟩ (by rw [Hfull.out]; simp)
   have Htell := Lh (Z4 lb (W.heap.size + 1 + 1) W.heap.size (fun k o => Z k o ∨ k = lb) W4 ⟨4, A4, c4, (JI nn [0, 1, -1, wrap64 (nn + 1), wrap64 (nn - 1)])⟩ (J ([] ++ [⟨4, A4, c4, (JI nn [0, 1, -1, wrap64 (nn + 1), wrap64 (nn - 1)])⟩])) HT.out hyp)
   clear hyp hj
   refine ⟨trivial, rfl, Htell.out.mono ?_⟩
   clear Htell
   rintro e W5 ⟨⟨_, rfl⟩, hj, hkp⟩
   replace rN := (hkp).row rN zN.out
   replace HT := Lh (HT.out.kg (hkp))
   clear hkp rd4 nil4 bW4
   have ct := rN.cellv (i := 0) (v := .int .i64 _) rfl
   have cn := rN.cellv (i := 1) (v := .int .i64 nn) rfl
   clear rN
   gi_wp2_with fail
   go_end0
   exact ⟨⟨_, rfl⟩, .inl ⟨_, by rw [Hfull.out]; rfl, hj⟩⟩
 · skip
   have Hfull := Lh hfull
   clear hfull
   gi_wp2_with fail
   rw [← HW3.out]
   have rN := RN.out
   have sz3 := SZ3.out
   have b30 := B3.out
   have hj := HJ3.out
   clear HW3 RN SZ3 B3 HJ3 H0 cl e0 e1
   obtain ⟨W4, hW4⟩ : ∃ V, V = (W3).alloc (.cells #[.int .i64 0] 3) := ⟨_, rfl⟩
   have bW4 : Below (W3).heap.size W3 W4 := by rw [hW4]; exact (Below.refl _ _).alloc (Nat.le_refl _) _
   have rdW4 : Rd W4 (some ⟨(W3).heap.size, 0, none⟩) (Qi [0]) := by rw [hW4]; exact ZZ _ _ _
   have tyW4 : IntB W4 (some ⟨(W3).heap.size, 0, none⟩) := fun a e => by injection e with e; subst e; rw [hW4]; exact ⟨_, Row.new _ _ _⟩
   rw [← hW4]
   clear hW4
   rw [← sz3]
   replace hj := QB HJ.out hj bW4
   replace rN := ((KpG.of_below (Z := fun k o => Z k o ∨ k = lb) bW4)).row rN zN.out
   replace HT := Lh (HT.out.kg ((KpG.of_below (Z := fun k o => Z k o ∨ k = lb) bW4)))
   have hyp := HY.out [] ⟨5, some ⟨W3.heap.size, 0, none⟩, 1, [0]⟩ W4 hj ⟨⟨rdW4, by simp, tyW4⟩, by rw [Hfull.out]; exact ⟨_, rfl⟩⟩ (by rw [Hfull.out]; simp)
   have Htell := Lh (Z4 lb (W.heap.size + 1 + 1) W.heap.size (fun k o => Z k o ∨ k = lb) W4 ⟨5, some ⟨W3.heap.size, 0, none⟩, 1, [0]⟩ (J ([] ++ [⟨5, some ⟨W3.heap.size, 0, none⟩, 1, [0]⟩])) HT.out hyp)
   clear hyp hj
   refine ⟨trivial, rfl, Htell.out.mono ?_⟩
   clear Htell
   rintro e W5 ⟨⟨_, rfl⟩, hj, hkp⟩
   replace rN := (hkp).row rN zN.out
   replace HT := Lh (HT.out.kg (hkp))
   have hzl : ∀ k o, k < w.heap.size → k ≠ Rb → ¬ (Z k o ∨ k = lb) := fun k o h1 h2 h => by
    rcases h with h | h
    · exact HC.out.z1 k o h1 h2 h
    · have := HL.out.1; omega
   have rl5 := hkp.row (HC.out.rl.below (HB.out.trans (b30.trans (bW4.mono b30.size) |>.mono HB.out.size)) HC.out.rl.lt) (hzl _ _ HC.out.rl.lt HC.out.bn)
   have hne : ((⟨25, nn⟩ :: ys : List Nd).flatMap Nd.cells) ≠ [] := by simp [Nd.cells]
   have hr5 := hkp.rd (HC.out.hr.go (HB.out.trans (b30.trans (bW4.mono b30.size) |>.mono HB.out.size))) (fun hn a e o => hzl _ _ (Xj HC.out.hr hn e) (HC.out.an a e))
   obtain ⟨y, ys', rfl⟩ : ∃ y ys', ys = y :: ys' := by
    cases ys with
    | nil => exact absurd rfl (HC.out.h25 rfl)
    | cons y ys' => exact ⟨y, ys', rfl⟩
   obtain ⟨ad5, had5, hcn5⟩ := Jq hr5 (k := 1) (x := y) rfl
   obtain rfl : ad = ad5 := by rw [Had.out] at had5; injection had5
   have cl5 := rl5.cellv (i := 0) (v := .slice A n cap) rfl
   rw [Had.out] at cl5
   have e50 : W5.cell? ⟨ad.block, ad.off + 2, none⟩ = some (.int .i64 y.tag) := by have := hcn5 0 _ rfl; rw [Nat.one_mul, Xa] at this; exact this
   have e51 : W5.cell? ⟨ad.block, ad.off + 2 + 1, none⟩ = some (.int .i64 y.n) := by have := hcn5 1 _ rfl; rw [Nat.one_mul] at this; exact this
   have hn1 : (1 : Int) < (n : Int) := by have := HC.out.hn; rw [this]; simp; omega
   clear hkp rdW4 bW4 sz3 b30 hzl rl5 hne hr5 had5 hcn5
   have ct := rN.cellv (i := 0) (v := .int .i64 25) rfl
   gi_wp2_with fail
   refine ⟨trivial, rfl, (callsIn_wide.2 (Abs y W5)).mono ?_⟩
   rintro e W6 ⟨A6, c6, rfl, rd6, nil6, bW6, tyW6⟩
   replace hj := QB HJ.out hj bW6
   clear ct cl5 e50 e51
   replace rN := ((KpG.of_below (Z := fun k o => Z k o ∨ k = lb) bW6)).row rN zN.out
   replace HT := Lh (HT.out.kg ((KpG.of_below (Z := fun k o => Z k o ∨ k = lb) bW6)))
   gi_wp2_with fail
   have hyp := HY.out [⟨5, some ⟨W3.heap.size, 0, none⟩, 1, [0]⟩] ⟨7, A6, c6, (Zv y)⟩ W6 hj ⟨⟨rd6, nil6, tyW6⟩, by rw [Hfull.out]; exact ⟨_, rfl⟩⟩ (by rw [Hfull.out]; simp)
   have Htell := Lh (Z4 lb (W.heap.size + 1 + 1) W.heap.size (fun k o => Z k o ∨ k = lb) W6 ⟨7, A6, c6, (Zv y)⟩ (J ([⟨5, some ⟨W3.heap.size, 0, none⟩, 1, [0]⟩] ++ [⟨7, A6, c6, (Zv y)⟩])) HT.out hyp)
   clear hyp hj
   refine ⟨trivial, rfl, Htell.out.mono ?_⟩
   clear Htell
   rintro e W7 ⟨⟨_, rfl⟩, hj, hkp⟩
   replace rN := (hkp).row rN zN.out
   replace HT := Lh (HT.out.kg (hkp))
   clear hkp rd6 nil6 bW6
   have ct := rN.cellv (i := 0) (v := .int .i64 _) rfl
   have cn := rN.cellv (i := 1) (v := .int .i64 nn) rfl
   clear rN
   gi_wp2_with fail
   go_end0
   exact ⟨⟨_, rfl⟩, .inl ⟨_, by rw [Hfull.out]; rfl, hj⟩⟩
 all_goals
  have Hfull := Lh hfull
  clear hfull
  gi_wp2_with fail
  go_end0
  exact ⟨⟨_, rfl⟩, .inl ⟨[], by rw [Hfull.out]; rfl, by rw [← HW3.out]; exact HJ3.out⟩⟩
theorem Ady (A : Option Addr) (cap n bl Rb : Nat) (x : Nd) (ys : List Nd) (Z : Nat → Obj → Prop) (w : World) (hC : ListsC A cap n bl Rb x ys Z w) (h1 : 1 ≤ x.tag) (h2 : x.tag ≤ 26) :
 UZ Tryz.prog 285 #[.pointer (some ⟨bl, 0, none⟩)] LsX.enc (fun _ => False) (fun lb => KpG (fun k o => Z k o ∨ k = lb)) (LsP (JY x (ys.headD ⟨0, 0⟩))) (fun xs => xs.map LsX.f = JY x (ys.headD ⟨0, 0⟩)) (fun _ => True) (JY x (ys.headD ⟨0, 0⟩)).length False w := by
 obtain ⟨tag, nn⟩ := x
 simp only at h1 h2
 refine Ae7 A cap n bl Rb tag nn ys Z w hC _ ?_
 by_cases ha : 7 ≤ tag ∧ tag ≤ 11
 · exact .inl ⟨ha.1, ha.2, by simp [JY, ha, show ¬ tag = 21 by omega, show ¬ tag = 22 by omega, show ¬ tag = 23 by omega, show ¬ tag = 24 by omega, show ¬ tag = 25 by omega]⟩
 by_cases hb : 12 ≤ tag ∧ tag ≤ 17
 · exact .inr (.inl ⟨hb.1, hb.2, by simp [JY, ha, hb, show ¬ tag = 21 by omega, show ¬ tag = 22 by omega, show ¬ tag = 23 by omega, show ¬ tag = 24 by omega, show ¬ tag = 25 by omega]⟩)
 have hcs : tag = 1 ∨ tag = 2 ∨ tag = 3 ∨ tag = 4 ∨ tag = 5 ∨ tag = 6 ∨ tag = 18 ∨ tag = 19 ∨ tag = 20 ∨ tag = 21 ∨ tag = 22 ∨ tag = 23 ∨ tag = 24 ∨ tag = 25 ∨ tag = 26 := by omega
 rcases hcs with rfl | rfl | rfl | rfl | rfl | rfl | rfl | rfl | rfl | rfl | rfl | rfl | rfl | rfl | rfl
 all_goals simp [JY]
end Go.Proofs.YtdcmppdhdcjpfaaGreat
