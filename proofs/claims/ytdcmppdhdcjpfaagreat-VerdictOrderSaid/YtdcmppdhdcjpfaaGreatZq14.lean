/- Lemmas for VerdictOrderP. -/
import Derived.Test.YtdcmppdhdcjpfaaGreatZq1
import Derived.Test.YtdcmppdhdcjpfaaGreatZq13
set_option linter.unusedVariables false
set_option linter.unusedSimpArgs false
set_option maxRecDepth 100000
set_option maxHeartbeats 16000000
namespace Go.Proofs.YtdcmppdhdcjpfaaGreat
open Go.RowKit Go.Deep
attribute [local go_sem] Oper.semAt_some
theorem AhJ (A : Option Addr) (cap n bl Rb : Nat) (tag : Int) (nn : Int) (ys : List Nd) (Z : Nat → Obj → Prop) (w : World) (hC : ListsC A cap n bl Rb ⟨tag, nn⟩ ys Z w) (full : List (Int × List Int)) (hfull : full = [(1, Jc 7 11 tag)]) (h1 : 7 ≤ tag) (h2 : tag ≤ 11) :
 Z6 Tryz.prog 285 #[.pointer (some ⟨bl, 0, none⟩)] LsX.enc (fun _ => False) (fun lb => KpG (fun k o => Z k o ∨ k = lb)) (LsP full) (fun xs => xs.map LsX.f = full) (fun _ => True) full.length False w := by
 intro lb J Jx W hlb hwW hst hJ hJx hY h0
 replace hst : ∀ pre W', ¬ Jx pre W' := hst.resolve_left id
 have hbw : Below w.heap.size w W := ⟨hwW.os, hwW.tape, hwW.output, hwW.size, fun k hk => hwW.block k hk (by simp)⟩
 have HC := Lh hC
 have HB := Lh hbw
 have HL := Lh hlb
 have HJ := Lh hJ
 have HY : Hid (∀ pre (x : LsX) W1, J pre W1 → LsP full pre x W1 → pre.length < full.length → YieldAt Fence.wide 0 Tryz.prog lb x.enc W1 fun e W' => e = .returned (.bool true) ∧ J (pre ++ [x]) W' ∧ KpG (fun k o => Z k o ∨ k = lb) W1 W') := fun pre x W1 h1 h2 h3 => (hY pre x W1 h1 h2 h3).mono fun e W' h => by
  rcases h with h | ⟨_, h, _⟩
  · exact h
  · exact absurd h (hst _ _)
 have Hfull := Lh hfull
 clear hC hbw hlb hJ hJx hY hst hwW hfull
 refine callsIn_of_wp Tryz.func285 rfl trivial ?_ rfl
 simp only [Tryz.ntmps285, List.size_toArray, List.length_cons, List.length_nil, Nat.reduceAdd, Nat.reduceSub, Array.replicate_succ, Array.replicate_zero, List.push_toArray, List.append_toArray, List.nil_append, List.cons_append]
 obtain ⟨W1, hW1⟩ : ∃ W1, W1 = W.alloc (.cells #[.func (.yield lb) #[] #[]] 329) := ⟨_, rfl⟩
 have b1 : Below W.heap.size W W1 := by rw [hW1]; exact (Below.refl _ _).alloc (Nat.le_refl _) _
 have rl1 := (HC.out.rl.below HB.out HC.out.rl.lt).below b1 (Nat.lt_of_lt_of_le HC.out.rl.lt HB.out.size)
 have hrd := (HC.out.hr.go HB.out).go b1
 obtain ⟨ad, had, hcn⟩ := Zs hrd (k := 0) (x := ⟨tag, nn⟩) rfl
 have e0 : W1.cell? ad = some (.int .i64 tag) := by have := hcn 0 _ rfl; rwa [Nat.zero_mul, Ql, Ql] at this
 have e1 : W1.cell? ⟨ad.block, ad.off + 1, none⟩ = some (.int .i64 nn) := by have := hcn 1 _ rfl; rw [Nat.zero_mul, Ql] at this; exact this
 have hn0 : (0 : Int) < (n : Int) := by have := HC.out.hn; rw [this]; simp
 have cl := rl1.cellv (i := 0) (v := .slice A n cap) rfl
 rw [had] at cl
 rw [hW1] at cl e0 e1
 have Had := Lh had
 clear hcn hrd rl1 b1 hW1 had
 gi_wp2_with fail
 obtain ⟨W3, hW3⟩ : ∃ W3, W3 = ((W.alloc (.cells #[.func (.yield lb) #[] #[]] 329)).alloc (.cells #[.int .i64 tag, .int .i64 nn] 85)).alloc (.cells #[.bool true] 4) := ⟨_, rfl⟩
 have hz2 : ∀ k cs t fr, W.heap.size ≤ k → (t = 329 ∨ t = 85 ∨ t = 4 ∨ t = 3) → ¬ (Z k (.cells cs t fr) ∨ k = lb) := fun k cs t fr h1 h2 h => by
  rcases h with h | h
  · exact HC.out.z2 k cs t fr (by have := HB.out.size; omega) h2 h
  · have := HL.out.2; omega
 have b3 : Below W.heap.size W W3 := by rw [hW3]; exact (((Below.refl _ _).alloc (Nat.le_refl _) _).alloc (by simp) _).alloc (by simp; omega) _
 have hT : TellC lb (W.heap.size + 1 + 1) W.heap.size (fun k o => Z k o ∨ k = lb) W3 := by
  refine ⟨?_, ?_, fun cs fr => hz2 _ _ _ _ (by omega) (by simp), fun cs fr => hz2 _ _ _ _ (by omega) (by simp)⟩
  · rw [hW3]; have := Row.new ((W.alloc (.cells #[.func (.yield lb) #[] #[]] 329)).alloc (.cells #[.int .i64 tag, .int .i64 nn] 85)) 4 #[.bool true]
    simpa using this
  · rw [hW3]; exact ((Row.new W 329 #[.func (.yield lb) #[] #[]]).alloc _).alloc _
 have rN : Row W3 (W.heap.size + 1) 85 #[.int .i64 tag, .int .i64 nn] := by
  rw [hW3]; have := (Row.new (W.alloc (.cells #[.func (.yield lb) #[] #[]] 329)) 85 #[.int .i64 tag, .int .i64 nn]).alloc (.cells #[.bool true] 4)
  simpa using this
 have hj := Qn HJ.out h0 b3
 have sz3 : W3.heap.size = W.heap.size + 1 + 1 + 1 := by rw [hW3]; simp
 have zN : Hid (¬ (Z (W.heap.size + 1) (.cells #[.int .i64 tag, .int .i64 nn] 85 (0, 0)) ∨ W.heap.size + 1 = lb)) := hz2 _ _ _ _ (by omega) (by simp)
 have HT := Lh hT
 rw [← hW3]
 have b30 := b3
 clear hW3 hz2 b3 hT h0 cl e0 e1
 refine ⟨trivial, rfl, (callsIn_wide.2 (UU 7 11 tag W3 (by omega) (by omega) (by omega))).mono ?_⟩
 rintro e W4 ⟨A4, c4, rfl, rd4, nil4, bW4, tyW4⟩
 replace hj := Qn HJ.out hj bW4
 replace rN := ((KpG.of_below (Z := fun k o => Z k o ∨ k = lb) bW4)).row rN zN.out
 replace HT := Lh (HT.out.kg ((KpG.of_below (Z := fun k o => Z k o ∨ k = lb) bW4)))
 clear sz3
 gi_wp2_with fail
 have hyp := HY.out [] ⟨1, A4, c4, (Jc 7 11 tag)⟩ W4 hj ⟨⟨rd4, nil4, tyW4⟩, by rw [Hfull.out]; exact ⟨_, rfl⟩⟩ (by rw [Hfull.out]; simp)
 have Htell := Lh (Z4 lb (W.heap.size + 1 + 1) W.heap.size (fun k o => Z k o ∨ k = lb) W4 ⟨1, A4, c4, (Jc 7 11 tag)⟩ (J ([] ++ [⟨1, A4, c4, (Jc 7 11 tag)⟩])) HT.out hyp)
 clear hyp hj
 refine ⟨trivial, rfl, Htell.out.mono ?_⟩
 clear Htell
 rintro e W5 ⟨⟨_, rfl⟩, hj, hkp⟩
 replace rN := (hkp).row rN zN.out
 replace HT := Lh (HT.out.kg (hkp))
 clear hkp rd4 nil4 bW4
 have ct := rN.cellv (i := 0) (v := .int .i64 tag) rfl
 have cn := rN.cellv (i := 1) (v := .int .i64 nn) rfl
 clear rN
 gi_wp2_with fail
 go_end0
 exact ⟨⟨_, rfl⟩, .inl ⟨_, by rw [Hfull.out]; rfl, hj⟩⟩
theorem AhK (A : Option Addr) (cap n bl Rb : Nat) (tag : Int) (nn : Int) (ys : List Nd) (Z : Nat → Obj → Prop) (w : World) (hC : ListsC A cap n bl Rb ⟨tag, nn⟩ ys Z w) (full : List (Int × List Int)) (hfull : full = [(2, Jc 12 17 tag)]) (h1 : 12 ≤ tag) (h2 : tag ≤ 17) :
 Z6 Tryz.prog 285 #[.pointer (some ⟨bl, 0, none⟩)] LsX.enc (fun _ => False) (fun lb => KpG (fun k o => Z k o ∨ k = lb)) (LsP full) (fun xs => xs.map LsX.f = full) (fun _ => True) full.length False w := by
 intro lb J Jx W hlb hwW hst hJ hJx hY h0
 replace hst : ∀ pre W', ¬ Jx pre W' := hst.resolve_left id
 have hbw : Below w.heap.size w W := ⟨hwW.os, hwW.tape, hwW.output, hwW.size, fun k hk => hwW.block k hk (by simp)⟩
 have HC := Lh hC
 have HB := Lh hbw
 have HL := Lh hlb
 have HJ := Lh hJ
 have HY : Hid (∀ pre (x : LsX) W1, J pre W1 → LsP full pre x W1 → pre.length < full.length → YieldAt Fence.wide 0 Tryz.prog lb x.enc W1 fun e W' => e = .returned (.bool true) ∧ J (pre ++ [x]) W' ∧ KpG (fun k o => Z k o ∨ k = lb) W1 W') := fun pre x W1 h1 h2 h3 => (hY pre x W1 h1 h2 h3).mono fun e W' h => by
  rcases h with h | ⟨_, h, _⟩
  · exact h
  · exact absurd h (hst _ _)
 have Hfull := Lh hfull
 clear hC hbw hlb hJ hJx hY hst hwW hfull
 refine callsIn_of_wp Tryz.func285 rfl trivial ?_ rfl
 simp only [Tryz.ntmps285, List.size_toArray, List.length_cons, List.length_nil, Nat.reduceAdd, Nat.reduceSub, Array.replicate_succ, Array.replicate_zero, List.push_toArray, List.append_toArray, List.nil_append, List.cons_append]
 obtain ⟨W1, hW1⟩ : ∃ W1, W1 = W.alloc (.cells #[.func (.yield lb) #[] #[]] 329) := ⟨_, rfl⟩
 have b1 : Below W.heap.size W W1 := by rw [hW1]; exact (Below.refl _ _).alloc (Nat.le_refl _) _
 have rl1 := (HC.out.rl.below HB.out HC.out.rl.lt).below b1 (Nat.lt_of_lt_of_le HC.out.rl.lt HB.out.size)
 have hrd := (HC.out.hr.go HB.out).go b1
 obtain ⟨ad, had, hcn⟩ := Zs hrd (k := 0) (x := ⟨tag, nn⟩) rfl
 have e0 : W1.cell? ad = some (.int .i64 tag) := by have := hcn 0 _ rfl; rwa [Nat.zero_mul, Ql, Ql] at this
 have e1 : W1.cell? ⟨ad.block, ad.off + 1, none⟩ = some (.int .i64 nn) := by have := hcn 1 _ rfl; rw [Nat.zero_mul, Ql] at this; exact this
 have hn0 : (0 : Int) < (n : Int) := by have := HC.out.hn; rw [this]; simp
 have cl := rl1.cellv (i := 0) (v := .slice A n cap) rfl
 rw [had] at cl
 rw [hW1] at cl e0 e1
 have Had := Lh had
 clear hcn hrd rl1 b1 hW1 had
 gi_wp2_with fail
 obtain ⟨W3, hW3⟩ : ∃ W3, W3 = ((W.alloc (.cells #[.func (.yield lb) #[] #[]] 329)).alloc (.cells #[.int .i64 tag, .int .i64 nn] 85)).alloc (.cells #[.bool true] 4) := ⟨_, rfl⟩
 have hz2 : ∀ k cs t fr, W.heap.size ≤ k → (t = 329 ∨ t = 85 ∨ t = 4 ∨ t = 3) → ¬ (Z k (.cells cs t fr) ∨ k = lb) := fun k cs t fr h1 h2 h => by
  rcases h with h | h
  · exact HC.out.z2 k cs t fr (by have := HB.out.size; omega) h2 h
  · have := HL.out.2; omega
 have b3 : Below W.heap.size W W3 := by rw [hW3]; exact (((Below.refl _ _).alloc (Nat.le_refl _) _).alloc (by simp) _).alloc (by simp; omega) _
 have hT : TellC lb (W.heap.size + 1 + 1) W.heap.size (fun k o => Z k o ∨ k = lb) W3 := by
  refine ⟨?_, ?_, fun cs fr => hz2 _ _ _ _ (by omega) (by simp), fun cs fr => hz2 _ _ _ _ (by omega) (by simp)⟩
  · rw [hW3]; have := Row.new ((W.alloc (.cells #[.func (.yield lb) #[] #[]] 329)).alloc (.cells #[.int .i64 tag, .int .i64 nn] 85)) 4 #[.bool true]
    simpa using this
  · rw [hW3]; exact ((Row.new W 329 #[.func (.yield lb) #[] #[]]).alloc _).alloc _
 have rN : Row W3 (W.heap.size + 1) 85 #[.int .i64 tag, .int .i64 nn] := by
  rw [hW3]; have := (Row.new (W.alloc (.cells #[.func (.yield lb) #[] #[]] 329)) 85 #[.int .i64 tag, .int .i64 nn]).alloc (.cells #[.bool true] 4)
  simpa using this
 have hj := Qn HJ.out h0 b3
 have sz3 : W3.heap.size = W.heap.size + 1 + 1 + 1 := by rw [hW3]; simp
 have zN : Hid (¬ (Z (W.heap.size + 1) (.cells #[.int .i64 tag, .int .i64 nn] 85 (0, 0)) ∨ W.heap.size + 1 = lb)) := hz2 _ _ _ _ (by omega) (by simp)
 have HT := Lh hT
 rw [← hW3]
 have b30 := b3
 clear hW3 hz2 b3 hT h0 cl e0 e1
 refine ⟨trivial, rfl, (callsIn_wide.2 (UU 12 17 tag W3 (by omega) (by omega) (by omega))).mono ?_⟩
 rintro e W4 ⟨A4, c4, rfl, rd4, nil4, bW4, tyW4⟩
 replace hj := Qn HJ.out hj bW4
 replace rN := ((KpG.of_below (Z := fun k o => Z k o ∨ k = lb) bW4)).row rN zN.out
 replace HT := Lh (HT.out.kg ((KpG.of_below (Z := fun k o => Z k o ∨ k = lb) bW4)))
 clear sz3
 gi_wp2_with fail
 have hyp := HY.out [] ⟨2, A4, c4, (Jc 12 17 tag)⟩ W4 hj ⟨⟨rd4, nil4, tyW4⟩, by rw [Hfull.out]; exact ⟨_, rfl⟩⟩ (by rw [Hfull.out]; simp)
 have Htell := Lh (Z4 lb (W.heap.size + 1 + 1) W.heap.size (fun k o => Z k o ∨ k = lb) W4 ⟨2, A4, c4, (Jc 12 17 tag)⟩ (J ([] ++ [⟨2, A4, c4, (Jc 12 17 tag)⟩])) HT.out hyp)
 clear hyp hj
 refine ⟨trivial, rfl, Htell.out.mono ?_⟩
 clear Htell
 rintro e W5 ⟨⟨_, rfl⟩, hj, hkp⟩
 replace rN := (hkp).row rN zN.out
 replace HT := Lh (HT.out.kg (hkp))
 clear hkp rd4 nil4 bW4
 have ct := rN.cellv (i := 0) (v := .int .i64 tag) rfl
 have cn := rN.cellv (i := 1) (v := .int .i64 nn) rfl
 clear rN
 gi_wp2_with fail
 go_end0
 exact ⟨⟨_, rfl⟩, .inl ⟨_, by rw [Hfull.out]; rfl, hj⟩⟩
theorem Ae6 (A : Option Addr) (cap n bl Rb : Nat) (nn : Int) (ys : List Nd) (Z : Nat → Obj → Prop) (w : World) (hC : ListsC A cap n bl Rb ⟨18, nn⟩ ys Z w) (full : List (Int × List Int)) (hfull : full = [(3, Jc 18 19 18)]) :
 Z6 Tryz.prog 285 #[.pointer (some ⟨bl, 0, none⟩)] LsX.enc (fun _ => False) (fun lb => KpG (fun k o => Z k o ∨ k = lb)) (LsP full) (fun xs => xs.map LsX.f = full) (fun _ => True) full.length False w := by
 intro lb J Jx W hlb hwW hst hJ hJx hY h0
 replace hst : ∀ pre W', ¬ Jx pre W' := hst.resolve_left id
 have hbw : Below w.heap.size w W := ⟨hwW.os, hwW.tape, hwW.output, hwW.size, fun k hk => hwW.block k hk (by simp)⟩
 have HC := Lh hC
 have HB := Lh hbw
 have HL := Lh hlb
 have HJ := Lh hJ
 have HY : Hid (∀ pre (x : LsX) W1, J pre W1 → LsP full pre x W1 → pre.length < full.length → YieldAt Fence.wide 0 Tryz.prog lb x.enc W1 fun e W' => e = .returned (.bool true) ∧ J (pre ++ [x]) W' ∧ KpG (fun k o => Z k o ∨ k = lb) W1 W') := fun pre x W1 h1 h2 h3 => (hY pre x W1 h1 h2 h3).mono fun e W' h => by
  rcases h with h | ⟨_, h, _⟩
  · exact h
  · exact absurd h (hst _ _)
 have Hfull := Lh hfull
 clear hC hbw hlb hJ hJx hY hst hwW hfull
 refine callsIn_of_wp Tryz.func285 rfl trivial ?_ rfl
 simp only [Tryz.ntmps285, List.size_toArray, List.length_cons, List.length_nil, Nat.reduceAdd, Nat.reduceSub, Array.replicate_succ, Array.replicate_zero, List.push_toArray, List.append_toArray, List.nil_append, List.cons_append]
 obtain ⟨W1, hW1⟩ : ∃ W1, W1 = W.alloc (.cells #[.func (.yield lb) #[] #[]] 329) := ⟨_, rfl⟩
 have b1 : Below W.heap.size W W1 := by rw [hW1]; exact (Below.refl _ _).alloc (Nat.le_refl _) _
 have rl1 := (HC.out.rl.below HB.out HC.out.rl.lt).below b1 (Nat.lt_of_lt_of_le HC.out.rl.lt HB.out.size)
 have hrd := (HC.out.hr.go HB.out).go b1
 obtain ⟨ad, had, hcn⟩ := Zs hrd (k := 0) (x := ⟨18, nn⟩) rfl
 have e0 : W1.cell? ad = some (.int .i64 18) := by have := hcn 0 _ rfl; rwa [Nat.zero_mul, Ql, Ql] at this
 have e1 : W1.cell? ⟨ad.block, ad.off + 1, none⟩ = some (.int .i64 nn) := by have := hcn 1 _ rfl; rw [Nat.zero_mul, Ql] at this; exact this
 have hn0 : (0 : Int) < (n : Int) := by have := HC.out.hn; rw [this]; simp
 have cl := rl1.cellv (i := 0) (v := .slice A n cap) rfl
 rw [had] at cl
 rw [hW1] at cl e0 e1
 have Had := Lh had
 clear hcn hrd rl1 b1 hW1 had
 gi_wp2_with fail
 obtain ⟨W3, hW3⟩ : ∃ W3, W3 = ((W.alloc (.cells #[.func (.yield lb) #[] #[]] 329)).alloc (.cells #[.int .i64 18, .int .i64 nn] 85)).alloc (.cells #[.bool true] 4) := ⟨_, rfl⟩
 have hz2 : ∀ k cs t fr, W.heap.size ≤ k → (t = 329 ∨ t = 85 ∨ t = 4 ∨ t = 3) → ¬ (Z k (.cells cs t fr) ∨ k = lb) := fun k cs t fr h1 h2 h => by
  rcases h with h | h
  · exact HC.out.z2 k cs t fr (by have := HB.out.size; omega) h2 h
  · have := HL.out.2; omega
 have b3 : Below W.heap.size W W3 := by rw [hW3]; exact (((Below.refl _ _).alloc (Nat.le_refl _) _).alloc (by simp) _).alloc (by simp; omega) _
 have hT : TellC lb (W.heap.size + 1 + 1) W.heap.size (fun k o => Z k o ∨ k = lb) W3 := by
  refine ⟨?_, ?_, fun cs fr => hz2 _ _ _ _ (by omega) (by simp), fun cs fr => hz2 _ _ _ _ (by omega) (by simp)⟩
  · rw [hW3]; have := Row.new ((W.alloc (.cells #[.func (.yield lb) #[] #[]] 329)).alloc (.cells #[.int .i64 18, .int .i64 nn] 85)) 4 #[.bool true]
    simpa using this
  · rw [hW3]; exact ((Row.new W 329 #[.func (.yield lb) #[] #[]]).alloc _).alloc _
 have rN : Row W3 (W.heap.size + 1) 85 #[.int .i64 18, .int .i64 nn] := by
  rw [hW3]; have := (Row.new (W.alloc (.cells #[.func (.yield lb) #[] #[]] 329)) 85 #[.int .i64 18, .int .i64 nn]).alloc (.cells #[.bool true] 4)
  simpa using this
 have hj := Qn HJ.out h0 b3
 have sz3 : W3.heap.size = W.heap.size + 1 + 1 + 1 := by rw [hW3]; simp
 have zN : Hid (¬ (Z (W.heap.size + 1) (.cells #[.int .i64 18, .int .i64 nn] 85 (0, 0)) ∨ W.heap.size + 1 = lb)) := hz2 _ _ _ _ (by omega) (by simp)
 have HT := Lh hT
 rw [← hW3]
 have b30 := b3
 clear hW3 hz2 b3 hT h0 cl e0 e1
 refine ⟨trivial, rfl, (callsIn_wide.2 (UU 18 19 18 W3 (by omega) (by omega) (by omega))).mono ?_⟩
 rintro e W4 ⟨A4, c4, rfl, rd4, nil4, bW4, tyW4⟩
 replace hj := Qn HJ.out hj bW4
 replace rN := ((KpG.of_below (Z := fun k o => Z k o ∨ k = lb) bW4)).row rN zN.out
 replace HT := Lh (HT.out.kg ((KpG.of_below (Z := fun k o => Z k o ∨ k = lb) bW4)))
 clear sz3
 gi_wp2_with fail
 have hyp := HY.out [] ⟨3, A4, c4, (Jc 18 19 18)⟩ W4 hj ⟨⟨rd4, nil4, tyW4⟩, by rw [Hfull.out]; exact ⟨_, rfl⟩⟩ (by rw [Hfull.out]; simp)
 have Htell := Lh (Z4 lb (W.heap.size + 1 + 1) W.heap.size (fun k o => Z k o ∨ k = lb) W4 ⟨3, A4, c4, (Jc 18 19 18)⟩ (J ([] ++ [⟨3, A4, c4, (Jc 18 19 18)⟩])) HT.out hyp)
 clear hyp hj
 refine ⟨trivial, rfl, Htell.out.mono ?_⟩
 clear Htell
 rintro e W5 ⟨⟨_, rfl⟩, hj, hkp⟩
 replace rN := (hkp).row rN zN.out
 replace HT := Lh (HT.out.kg (hkp))
 clear hkp rd4 nil4 bW4
 have ct := rN.cellv (i := 0) (v := .int .i64 18) rfl
 have cn := rN.cellv (i := 1) (v := .int .i64 nn) rfl
 clear rN
 gi_wp2_with fail
 go_end0
 exact ⟨⟨_, rfl⟩, .inl ⟨_, by rw [Hfull.out]; rfl, hj⟩⟩
theorem Ae7 (A : Option Addr) (cap n bl Rb : Nat) (nn : Int) (ys : List Nd) (Z : Nat → Obj → Prop) (w : World) (hC : ListsC A cap n bl Rb ⟨19, nn⟩ ys Z w) (full : List (Int × List Int)) (hfull : full = [(3, Jc 18 19 19)]) :
 Z6 Tryz.prog 285 #[.pointer (some ⟨bl, 0, none⟩)] LsX.enc (fun _ => False) (fun lb => KpG (fun k o => Z k o ∨ k = lb)) (LsP full) (fun xs => xs.map LsX.f = full) (fun _ => True) full.length False w := by
 intro lb J Jx W hlb hwW hst hJ hJx hY h0
 replace hst : ∀ pre W', ¬ Jx pre W' := hst.resolve_left id
 have hbw : Below w.heap.size w W := ⟨hwW.os, hwW.tape, hwW.output, hwW.size, fun k hk => hwW.block k hk (by simp)⟩
 have HC := Lh hC
 have HB := Lh hbw
 have HL := Lh hlb
 have HJ := Lh hJ
 have HY : Hid (∀ pre (x : LsX) W1, J pre W1 → LsP full pre x W1 → pre.length < full.length → YieldAt Fence.wide 0 Tryz.prog lb x.enc W1 fun e W' => e = .returned (.bool true) ∧ J (pre ++ [x]) W' ∧ KpG (fun k o => Z k o ∨ k = lb) W1 W') := fun pre x W1 h1 h2 h3 => (hY pre x W1 h1 h2 h3).mono fun e W' h => by
  rcases h with h | ⟨_, h, _⟩
  · exact h
  · exact absurd h (hst _ _)
 have Hfull := Lh hfull
 clear hC hbw hlb hJ hJx hY hst hwW hfull
 refine callsIn_of_wp Tryz.func285 rfl trivial ?_ rfl
 simp only [Tryz.ntmps285, List.size_toArray, List.length_cons, List.length_nil, Nat.reduceAdd, Nat.reduceSub, Array.replicate_succ, Array.replicate_zero, List.push_toArray, List.append_toArray, List.nil_append, List.cons_append]
 obtain ⟨W1, hW1⟩ : ∃ W1, W1 = W.alloc (.cells #[.func (.yield lb) #[] #[]] 329) := ⟨_, rfl⟩
 have b1 : Below W.heap.size W W1 := by rw [hW1]; exact (Below.refl _ _).alloc (Nat.le_refl _) _
 have rl1 := (HC.out.rl.below HB.out HC.out.rl.lt).below b1 (Nat.lt_of_lt_of_le HC.out.rl.lt HB.out.size)
 have hrd := (HC.out.hr.go HB.out).go b1
 obtain ⟨ad, had, hcn⟩ := Zs hrd (k := 0) (x := ⟨19, nn⟩) rfl
 have e0 : W1.cell? ad = some (.int .i64 19) := by have := hcn 0 _ rfl; rwa [Nat.zero_mul, Ql, Ql] at this
 have e1 : W1.cell? ⟨ad.block, ad.off + 1, none⟩ = some (.int .i64 nn) := by have := hcn 1 _ rfl; rw [Nat.zero_mul, Ql] at this; exact this
 have hn0 : (0 : Int) < (n : Int) := by have := HC.out.hn; rw [this]; simp
 have cl := rl1.cellv (i := 0) (v := .slice A n cap) rfl
 rw [had] at cl
 rw [hW1] at cl e0 e1
 have Had := Lh had
 clear hcn hrd rl1 b1 hW1 had
 gi_wp2_with fail
 obtain ⟨W3, hW3⟩ : ∃ W3, W3 = ((W.alloc (.cells #[.func (.yield lb) #[] #[]] 329)).alloc (.cells #[.int .i64 19, .int .i64 nn] 85)).alloc (.cells #[.bool true] 4) := ⟨_, rfl⟩
 have hz2 : ∀ k cs t fr, W.heap.size ≤ k → (t = 329 ∨ t = 85 ∨ t = 4 ∨ t = 3) → ¬ (Z k (.cells cs t fr) ∨ k = lb) := fun k cs t fr h1 h2 h => by
  rcases h with h | h
  · exact HC.out.z2 k cs t fr (by have := HB.out.size; omega) h2 h
  · have := HL.out.2; omega
 have b3 : Below W.heap.size W W3 := by rw [hW3]; exact (((Below.refl _ _).alloc (Nat.le_refl _) _).alloc (by simp) _).alloc (by simp; omega) _
 have hT : TellC lb (W.heap.size + 1 + 1) W.heap.size (fun k o => Z k o ∨ k = lb) W3 := by
  refine ⟨?_, ?_, fun cs fr => hz2 _ _ _ _ (by omega) (by simp), fun cs fr => hz2 _ _ _ _ (by omega) (by simp)⟩
  · rw [hW3]; have := Row.new ((W.alloc (.cells #[.func (.yield lb) #[] #[]] 329)).alloc (.cells #[.int .i64 19, .int .i64 nn] 85)) 4 #[.bool true]
    simpa using this
  · rw [hW3]; exact ((Row.new W 329 #[.func (.yield lb) #[] #[]]).alloc _).alloc _
 have rN : Row W3 (W.heap.size + 1) 85 #[.int .i64 19, .int .i64 nn] := by
  rw [hW3]; have := (Row.new (W.alloc (.cells #[.func (.yield lb) #[] #[]] 329)) 85 #[.int .i64 19, .int .i64 nn]).alloc (.cells #[.bool true] 4)
  simpa using this
 have hj := Qn HJ.out h0 b3
 have sz3 : W3.heap.size = W.heap.size + 1 + 1 + 1 := by rw [hW3]; simp
 have zN : Hid (¬ (Z (W.heap.size + 1) (.cells #[.int .i64 19, .int .i64 nn] 85 (0, 0)) ∨ W.heap.size + 1 = lb)) := hz2 _ _ _ _ (by omega) (by simp)
 have HT := Lh hT
 rw [← hW3]
 have b30 := b3
 clear hW3 hz2 b3 hT h0 cl e0 e1
 refine ⟨trivial, rfl, (callsIn_wide.2 (UU 18 19 19 W3 (by omega) (by omega) (by omega))).mono ?_⟩
 rintro e W4 ⟨A4, c4, rfl, rd4, nil4, bW4, tyW4⟩
 replace hj := Qn HJ.out hj bW4
 replace rN := ((KpG.of_below (Z := fun k o => Z k o ∨ k = lb) bW4)).row rN zN.out
 replace HT := Lh (HT.out.kg ((KpG.of_below (Z := fun k o => Z k o ∨ k = lb) bW4)))
 clear sz3
 gi_wp2_with fail
 have hyp := HY.out [] ⟨3, A4, c4, (Jc 18 19 19)⟩ W4 hj ⟨⟨rd4, nil4, tyW4⟩, by rw [Hfull.out]; exact ⟨_, rfl⟩⟩ (by rw [Hfull.out]; simp)
 have Htell := Lh (Z4 lb (W.heap.size + 1 + 1) W.heap.size (fun k o => Z k o ∨ k = lb) W4 ⟨3, A4, c4, (Jc 18 19 19)⟩ (J ([] ++ [⟨3, A4, c4, (Jc 18 19 19)⟩])) HT.out hyp)
 clear hyp hj
 refine ⟨trivial, rfl, Htell.out.mono ?_⟩
 clear Htell
 rintro e W5 ⟨⟨_, rfl⟩, hj, hkp⟩
 replace rN := (hkp).row rN zN.out
 replace HT := Lh (HT.out.kg (hkp))
 clear hkp rd4 nil4 bW4
 have ct := rN.cellv (i := 0) (v := .int .i64 19) rfl
 have cn := rN.cellv (i := 1) (v := .int .i64 nn) rfl
 clear rN
 gi_wp2_with fail
 go_end0
 exact ⟨⟨_, rfl⟩, .inl ⟨_, by rw [Hfull.out]; rfl, hj⟩⟩
theorem Ae8 (A : Option Addr) (cap n bl Rb : Nat) (nn : Int) (ys : List Nd) (Z : Nat → Obj → Prop) (w : World) (hC : ListsC A cap n bl Rb ⟨21, nn⟩ ys Z w) (full : List (Int × List Int)) (hfull : full = [(5, [0])]) :
 Z6 Tryz.prog 285 #[.pointer (some ⟨bl, 0, none⟩)] LsX.enc (fun _ => False) (fun lb => KpG (fun k o => Z k o ∨ k = lb)) (LsP full) (fun xs => xs.map LsX.f = full) (fun _ => True) full.length False w := by
 intro lb J Jx W hlb hwW hst hJ hJx hY h0
 replace hst : ∀ pre W', ¬ Jx pre W' := hst.resolve_left id
 have hbw : Below w.heap.size w W := ⟨hwW.os, hwW.tape, hwW.output, hwW.size, fun k hk => hwW.block k hk (by simp)⟩
 have HC := Lh hC
 have HB := Lh hbw
 have HL := Lh hlb
 have HJ := Lh hJ
 have HY : Hid (∀ pre (x : LsX) W1, J pre W1 → LsP full pre x W1 → pre.length < full.length → YieldAt Fence.wide 0 Tryz.prog lb x.enc W1 fun e W' => e = .returned (.bool true) ∧ J (pre ++ [x]) W' ∧ KpG (fun k o => Z k o ∨ k = lb) W1 W') := fun pre x W1 h1 h2 h3 => (hY pre x W1 h1 h2 h3).mono fun e W' h => by
  rcases h with h | ⟨_, h, _⟩
  · exact h
  · exact absurd h (hst _ _)
 have Hfull := Lh hfull
 clear hC hbw hlb hJ hJx hY hst hwW hfull
 refine callsIn_of_wp Tryz.func285 rfl trivial ?_ rfl
 simp only [Tryz.ntmps285, List.size_toArray, List.length_cons, List.length_nil, Nat.reduceAdd, Nat.reduceSub, Array.replicate_succ, Array.replicate_zero, List.push_toArray, List.append_toArray, List.nil_append, List.cons_append]
 obtain ⟨W1, hW1⟩ : ∃ W1, W1 = W.alloc (.cells #[.func (.yield lb) #[] #[]] 329) := ⟨_, rfl⟩
 have b1 : Below W.heap.size W W1 := by rw [hW1]; exact (Below.refl _ _).alloc (Nat.le_refl _) _
 have rl1 := (HC.out.rl.below HB.out HC.out.rl.lt).below b1 (Nat.lt_of_lt_of_le HC.out.rl.lt HB.out.size)
 have hrd := (HC.out.hr.go HB.out).go b1
 obtain ⟨ad, had, hcn⟩ := Zs hrd (k := 0) (x := ⟨21, nn⟩) rfl
 have e0 : W1.cell? ad = some (.int .i64 21) := by have := hcn 0 _ rfl; rwa [Nat.zero_mul, Ql, Ql] at this
 have e1 : W1.cell? ⟨ad.block, ad.off + 1, none⟩ = some (.int .i64 nn) := by have := hcn 1 _ rfl; rw [Nat.zero_mul, Ql] at this; exact this
 have hn0 : (0 : Int) < (n : Int) := by have := HC.out.hn; rw [this]; simp
 have cl := rl1.cellv (i := 0) (v := .slice A n cap) rfl
 rw [had] at cl
 rw [hW1] at cl e0 e1
 have Had := Lh had
 clear hcn hrd rl1 b1 hW1 had
 gi_wp2_with fail
 obtain ⟨W3, hW3⟩ : ∃ W3, W3 = ((W.alloc (.cells #[.func (.yield lb) #[] #[]] 329)).alloc (.cells #[.int .i64 21, .int .i64 nn] 85)).alloc (.cells #[.bool true] 4) := ⟨_, rfl⟩
 have hz2 : ∀ k cs t fr, W.heap.size ≤ k → (t = 329 ∨ t = 85 ∨ t = 4 ∨ t = 3) → ¬ (Z k (.cells cs t fr) ∨ k = lb) := fun k cs t fr h1 h2 h => by
  rcases h with h | h
  · exact HC.out.z2 k cs t fr (by have := HB.out.size; omega) h2 h
  · have := HL.out.2; omega
 have b3 : Below W.heap.size W W3 := by rw [hW3]; exact (((Below.refl _ _).alloc (Nat.le_refl _) _).alloc (by simp) _).alloc (by simp; omega) _
 have hT : TellC lb (W.heap.size + 1 + 1) W.heap.size (fun k o => Z k o ∨ k = lb) W3 := by
  refine ⟨?_, ?_, fun cs fr => hz2 _ _ _ _ (by omega) (by simp), fun cs fr => hz2 _ _ _ _ (by omega) (by simp)⟩
  · rw [hW3]; have := Row.new ((W.alloc (.cells #[.func (.yield lb) #[] #[]] 329)).alloc (.cells #[.int .i64 21, .int .i64 nn] 85)) 4 #[.bool true]
    simpa using this
  · rw [hW3]; exact ((Row.new W 329 #[.func (.yield lb) #[] #[]]).alloc _).alloc _
 have rN : Row W3 (W.heap.size + 1) 85 #[.int .i64 21, .int .i64 nn] := by
  rw [hW3]; have := (Row.new (W.alloc (.cells #[.func (.yield lb) #[] #[]] 329)) 85 #[.int .i64 21, .int .i64 nn]).alloc (.cells #[.bool true] 4)
  simpa using this
 have hj := Qn HJ.out h0 b3
 have sz3 : W3.heap.size = W.heap.size + 1 + 1 + 1 := by rw [hW3]; simp
 have zN : Hid (¬ (Z (W.heap.size + 1) (.cells #[.int .i64 21, .int .i64 nn] 85 (0, 0)) ∨ W.heap.size + 1 = lb)) := hz2 _ _ _ _ (by omega) (by simp)
 have HT := Lh hT
 rw [← hW3]
 have b30 := b3
 clear hW3 hz2 b3 hT h0 cl e0 e1
 obtain ⟨W4, hW4⟩ : ∃ V, V = (W3).alloc (.cells #[.int .i64 0] 3) := ⟨_, rfl⟩
 have bW4 : Below (W3).heap.size W3 W4 := by rw [hW4]; exact (Below.refl _ _).alloc (Nat.le_refl _) _
 have rdW4 : Rd W4 (some ⟨(W3).heap.size, 0, none⟩) (Qi [0]) := by rw [hW4]; exact ZZ _ _ _
 have tyW4 : IntB W4 (some ⟨(W3).heap.size, 0, none⟩) := fun a e => by injection e with e; subst e; rw [hW4]; exact ⟨_, Row.new _ _ _⟩
 rw [← hW4]
 clear hW4
 rw [← sz3]
 replace hj := Qn HJ.out hj bW4
 replace rN := ((KpG.of_below (Z := fun k o => Z k o ∨ k = lb) bW4)).row rN zN.out
 replace HT := Lh (HT.out.kg ((KpG.of_below (Z := fun k o => Z k o ∨ k = lb) bW4)))
 have hyp := HY.out [] ⟨5, some ⟨W3.heap.size, 0, none⟩, 1, [0]⟩ W4 hj ⟨⟨rdW4, by simp, tyW4⟩, by rw [Hfull.out]; exact ⟨_, rfl⟩⟩ (by rw [Hfull.out]; simp)
 have Htell := Lh (Z4 lb (W.heap.size + 1 + 1) W.heap.size (fun k o => Z k o ∨ k = lb) W4 ⟨5, some ⟨W3.heap.size, 0, none⟩, 1, [0]⟩ (J ([] ++ [⟨5, some ⟨W3.heap.size, 0, none⟩, 1, [0]⟩])) HT.out hyp)
 clear hyp hj
 refine ⟨trivial, rfl, Htell.out.mono ?_⟩
 clear Htell
 rintro e W5 ⟨⟨_, rfl⟩, hj, hkp⟩
 replace rN := (hkp).row rN zN.out
 replace HT := Lh (HT.out.kg (hkp))
 clear hkp rdW4 bW4 sz3 b30
 have ct := rN.cellv (i := 0) (v := .int .i64 21) rfl
 have cn := rN.cellv (i := 1) (v := .int .i64 nn) rfl
 clear rN
 gi_wp2_with fail
 go_end0
 exact ⟨⟨_, rfl⟩, .inl ⟨_, by rw [Hfull.out]; rfl, hj⟩⟩
theorem Ae9 (A : Option Addr) (cap n bl Rb : Nat) (nn : Int) (ys : List Nd) (Z : Nat → Obj → Prop) (w : World) (hC : ListsC A cap n bl Rb ⟨22, nn⟩ ys Z w) (full : List (Int × List Int)) (hfull : full = [(5, [0])]) :
 Z6 Tryz.prog 285 #[.pointer (some ⟨bl, 0, none⟩)] LsX.enc (fun _ => False) (fun lb => KpG (fun k o => Z k o ∨ k = lb)) (LsP full) (fun xs => xs.map LsX.f = full) (fun _ => True) full.length False w := by
 intro lb J Jx W hlb hwW hst hJ hJx hY h0
 replace hst : ∀ pre W', ¬ Jx pre W' := hst.resolve_left id
 have hbw : Below w.heap.size w W := ⟨hwW.os, hwW.tape, hwW.output, hwW.size, fun k hk => hwW.block k hk (by simp)⟩
 have HC := Lh hC
 have HB := Lh hbw
 have HL := Lh hlb
 have HJ := Lh hJ
 have HY : Hid (∀ pre (x : LsX) W1, J pre W1 → LsP full pre x W1 → pre.length < full.length → YieldAt Fence.wide 0 Tryz.prog lb x.enc W1 fun e W' => e = .returned (.bool true) ∧ J (pre ++ [x]) W' ∧ KpG (fun k o => Z k o ∨ k = lb) W1 W') := fun pre x W1 h1 h2 h3 => (hY pre x W1 h1 h2 h3).mono fun e W' h => by
  rcases h with h | ⟨_, h, _⟩
  · exact h
  · exact absurd h (hst _ _)
 have Hfull := Lh hfull
 clear hC hbw hlb hJ hJx hY hst hwW hfull
 refine callsIn_of_wp Tryz.func285 rfl trivial ?_ rfl
 simp only [Tryz.ntmps285, List.size_toArray, List.length_cons, List.length_nil, Nat.reduceAdd, Nat.reduceSub, Array.replicate_succ, Array.replicate_zero, List.push_toArray, List.append_toArray, List.nil_append, List.cons_append]
 obtain ⟨W1, hW1⟩ : ∃ W1, W1 = W.alloc (.cells #[.func (.yield lb) #[] #[]] 329) := ⟨_, rfl⟩
 have b1 : Below W.heap.size W W1 := by rw [hW1]; exact (Below.refl _ _).alloc (Nat.le_refl _) _
 have rl1 := (HC.out.rl.below HB.out HC.out.rl.lt).below b1 (Nat.lt_of_lt_of_le HC.out.rl.lt HB.out.size)
 have hrd := (HC.out.hr.go HB.out).go b1
 obtain ⟨ad, had, hcn⟩ := Zs hrd (k := 0) (x := ⟨22, nn⟩) rfl
 have e0 : W1.cell? ad = some (.int .i64 22) := by have := hcn 0 _ rfl; rwa [Nat.zero_mul, Ql, Ql] at this
 have e1 : W1.cell? ⟨ad.block, ad.off + 1, none⟩ = some (.int .i64 nn) := by have := hcn 1 _ rfl; rw [Nat.zero_mul, Ql] at this; exact this
 have hn0 : (0 : Int) < (n : Int) := by have := HC.out.hn; rw [this]; simp
 have cl := rl1.cellv (i := 0) (v := .slice A n cap) rfl
 rw [had] at cl
 rw [hW1] at cl e0 e1
 have Had := Lh had
 clear hcn hrd rl1 b1 hW1 had
 gi_wp2_with fail
 obtain ⟨W3, hW3⟩ : ∃ W3, W3 = ((W.alloc (.cells #[.func (.yield lb) #[] #[]] 329)).alloc (.cells #[.int .i64 22, .int .i64 nn] 85)).alloc (.cells #[.bool true] 4) := ⟨_, rfl⟩
 have hz2 : ∀ k cs t fr, W.heap.size ≤ k → (t = 329 ∨ t = 85 ∨ t = 4 ∨ t = 3) → ¬ (Z k (.cells cs t fr) ∨ k = lb) := fun k cs t fr h1 h2 h => by
  rcases h with h | h
  · exact HC.out.z2 k cs t fr (by have := HB.out.size; omega) h2 h
  · have := HL.out.2; omega
 have b3 : Below W.heap.size W W3 := by rw [hW3]; exact (((Below.refl _ _).alloc (Nat.le_refl _) _).alloc (by simp) _).alloc (by simp; omega) _
 have hT : TellC lb (W.heap.size + 1 + 1) W.heap.size (fun k o => Z k o ∨ k = lb) W3 := by
  refine ⟨?_, ?_, fun cs fr => hz2 _ _ _ _ (by omega) (by simp), fun cs fr => hz2 _ _ _ _ (by omega) (by simp)⟩
  · rw [hW3]; have := Row.new ((W.alloc (.cells #[.func (.yield lb) #[] #[]] 329)).alloc (.cells #[.int .i64 22, .int .i64 nn] 85)) 4 #[.bool true]
    simpa using this
  · rw [hW3]; exact ((Row.new W 329 #[.func (.yield lb) #[] #[]]).alloc _).alloc _
 have rN : Row W3 (W.heap.size + 1) 85 #[.int .i64 22, .int .i64 nn] := by
  rw [hW3]; have := (Row.new (W.alloc (.cells #[.func (.yield lb) #[] #[]] 329)) 85 #[.int .i64 22, .int .i64 nn]).alloc (.cells #[.bool true] 4)
  simpa using this
 have hj := Qn HJ.out h0 b3
 have sz3 : W3.heap.size = W.heap.size + 1 + 1 + 1 := by rw [hW3]; simp
 have zN : Hid (¬ (Z (W.heap.size + 1) (.cells #[.int .i64 22, .int .i64 nn] 85 (0, 0)) ∨ W.heap.size + 1 = lb)) := hz2 _ _ _ _ (by omega) (by simp)
 have HT := Lh hT
 rw [← hW3]
 have b30 := b3
 clear hW3 hz2 b3 hT h0 cl e0 e1
 obtain ⟨W4, hW4⟩ : ∃ V, V = (W3).alloc (.cells #[.int .i64 0] 3) := ⟨_, rfl⟩
 have bW4 : Below (W3).heap.size W3 W4 := by rw [hW4]; exact (Below.refl _ _).alloc (Nat.le_refl _) _
 have rdW4 : Rd W4 (some ⟨(W3).heap.size, 0, none⟩) (Qi [0]) := by rw [hW4]; exact ZZ _ _ _
 have tyW4 : IntB W4 (some ⟨(W3).heap.size, 0, none⟩) := fun a e => by injection e with e; subst e; rw [hW4]; exact ⟨_, Row.new _ _ _⟩
 rw [← hW4]
 clear hW4
 rw [← sz3]
 replace hj := Qn HJ.out hj bW4
 replace rN := ((KpG.of_below (Z := fun k o => Z k o ∨ k = lb) bW4)).row rN zN.out
 replace HT := Lh (HT.out.kg ((KpG.of_below (Z := fun k o => Z k o ∨ k = lb) bW4)))
 have hyp := HY.out [] ⟨5, some ⟨W3.heap.size, 0, none⟩, 1, [0]⟩ W4 hj ⟨⟨rdW4, by simp, tyW4⟩, by rw [Hfull.out]; exact ⟨_, rfl⟩⟩ (by rw [Hfull.out]; simp)
 have Htell := Lh (Z4 lb (W.heap.size + 1 + 1) W.heap.size (fun k o => Z k o ∨ k = lb) W4 ⟨5, some ⟨W3.heap.size, 0, none⟩, 1, [0]⟩ (J ([] ++ [⟨5, some ⟨W3.heap.size, 0, none⟩, 1, [0]⟩])) HT.out hyp)
 clear hyp hj
 refine ⟨trivial, rfl, Htell.out.mono ?_⟩
 clear Htell
 rintro e W5 ⟨⟨_, rfl⟩, hj, hkp⟩
 replace rN := (hkp).row rN zN.out
 replace HT := Lh (HT.out.kg (hkp))
 clear hkp rdW4 bW4 sz3 b30
 have ct := rN.cellv (i := 0) (v := .int .i64 22) rfl
 have cn := rN.cellv (i := 1) (v := .int .i64 nn) rfl
 clear rN
 gi_wp2_with fail
 go_end0
 exact ⟨⟨_, rfl⟩, .inl ⟨_, by rw [Hfull.out]; rfl, hj⟩⟩
theorem Afa (A : Option Addr) (cap n bl Rb : Nat) (nn : Int) (ys : List Nd) (Z : Nat → Obj → Prop) (w : World) (hC : ListsC A cap n bl Rb ⟨23, nn⟩ ys Z w) (full : List (Int × List Int)) (hfull : full = [(5, [0]), (6, [0])]) :
 Z6 Tryz.prog 285 #[.pointer (some ⟨bl, 0, none⟩)] LsX.enc (fun _ => False) (fun lb => KpG (fun k o => Z k o ∨ k = lb)) (LsP full) (fun xs => xs.map LsX.f = full) (fun _ => True) full.length False w := by
 intro lb J Jx W hlb hwW hst hJ hJx hY h0
 replace hst : ∀ pre W', ¬ Jx pre W' := hst.resolve_left id
 have hbw : Below w.heap.size w W := ⟨hwW.os, hwW.tape, hwW.output, hwW.size, fun k hk => hwW.block k hk (by simp)⟩
 have HC := Lh hC
 have HB := Lh hbw
 have HL := Lh hlb
 have HJ := Lh hJ
 have HY : Hid (∀ pre (x : LsX) W1, J pre W1 → LsP full pre x W1 → pre.length < full.length → YieldAt Fence.wide 0 Tryz.prog lb x.enc W1 fun e W' => e = .returned (.bool true) ∧ J (pre ++ [x]) W' ∧ KpG (fun k o => Z k o ∨ k = lb) W1 W') := fun pre x W1 h1 h2 h3 => (hY pre x W1 h1 h2 h3).mono fun e W' h => by
  rcases h with h | ⟨_, h, _⟩
  · exact h
  · exact absurd h (hst _ _)
 have Hfull := Lh hfull
 clear hC hbw hlb hJ hJx hY hst hwW hfull
 refine callsIn_of_wp Tryz.func285 rfl trivial ?_ rfl
 simp only [Tryz.ntmps285, List.size_toArray, List.length_cons, List.length_nil, Nat.reduceAdd, Nat.reduceSub, Array.replicate_succ, Array.replicate_zero, List.push_toArray, List.append_toArray, List.nil_append, List.cons_append]
 obtain ⟨W1, hW1⟩ : ∃ W1, W1 = W.alloc (.cells #[.func (.yield lb) #[] #[]] 329) := ⟨_, rfl⟩
 have b1 : Below W.heap.size W W1 := by rw [hW1]; exact (Below.refl _ _).alloc (Nat.le_refl _) _
 have rl1 := (HC.out.rl.below HB.out HC.out.rl.lt).below b1 (Nat.lt_of_lt_of_le HC.out.rl.lt HB.out.size)
 have hrd := (HC.out.hr.go HB.out).go b1
 obtain ⟨ad, had, hcn⟩ := Zs hrd (k := 0) (x := ⟨23, nn⟩) rfl
 have e0 : W1.cell? ad = some (.int .i64 23) := by have := hcn 0 _ rfl; rwa [Nat.zero_mul, Ql, Ql] at this
 have e1 : W1.cell? ⟨ad.block, ad.off + 1, none⟩ = some (.int .i64 nn) := by have := hcn 1 _ rfl; rw [Nat.zero_mul, Ql] at this; exact this
 have hn0 : (0 : Int) < (n : Int) := by have := HC.out.hn; rw [this]; simp
 have cl := rl1.cellv (i := 0) (v := .slice A n cap) rfl
 rw [had] at cl
 rw [hW1] at cl e0 e1
 have Had := Lh had
 clear hcn hrd rl1 b1 hW1 had
 gi_wp2_with fail
 obtain ⟨W3, hW3⟩ : ∃ W3, W3 = ((W.alloc (.cells #[.func (.yield lb) #[] #[]] 329)).alloc (.cells #[.int .i64 23, .int .i64 nn] 85)).alloc (.cells #[.bool true] 4) := ⟨_, rfl⟩
 have hz2 : ∀ k cs t fr, W.heap.size ≤ k → (t = 329 ∨ t = 85 ∨ t = 4 ∨ t = 3) → ¬ (Z k (.cells cs t fr) ∨ k = lb) := fun k cs t fr h1 h2 h => by
  rcases h with h | h
  · exact HC.out.z2 k cs t fr (by have := HB.out.size; omega) h2 h
  · have := HL.out.2; omega
 have b3 : Below W.heap.size W W3 := by rw [hW3]; exact (((Below.refl _ _).alloc (Nat.le_refl _) _).alloc (by simp) _).alloc (by simp; omega) _
 have hT : TellC lb (W.heap.size + 1 + 1) W.heap.size (fun k o => Z k o ∨ k = lb) W3 := by
  refine ⟨?_, ?_, fun cs fr => hz2 _ _ _ _ (by omega) (by simp), fun cs fr => hz2 _ _ _ _ (by omega) (by simp)⟩
  · rw [hW3]; have := Row.new ((W.alloc (.cells #[.func (.yield lb) #[] #[]] 329)).alloc (.cells #[.int .i64 23, .int .i64 nn] 85)) 4 #[.bool true]
    simpa using this
  · rw [hW3]; exact ((Row.new W 329 #[.func (.yield lb) #[] #[]]).alloc _).alloc _
 have rN : Row W3 (W.heap.size + 1) 85 #[.int .i64 23, .int .i64 nn] := by
  rw [hW3]; have := (Row.new (W.alloc (.cells #[.func (.yield lb) #[] #[]] 329)) 85 #[.int .i64 23, .int .i64 nn]).alloc (.cells #[.bool true] 4)
  simpa using this
 have hj := Qn HJ.out h0 b3
 have sz3 : W3.heap.size = W.heap.size + 1 + 1 + 1 := by rw [hW3]; simp
 have zN : Hid (¬ (Z (W.heap.size + 1) (.cells #[.int .i64 23, .int .i64 nn] 85 (0, 0)) ∨ W.heap.size + 1 = lb)) := hz2 _ _ _ _ (by omega) (by simp)
 have HT := Lh hT
 rw [← hW3]
 have b30 := b3
 clear hW3 hz2 b3 hT h0 cl e0 e1
 obtain ⟨W4, hW4⟩ : ∃ V, V = (W3).alloc (.cells #[.int .i64 0] 3) := ⟨_, rfl⟩
 have bW4 : Below (W3).heap.size W3 W4 := by rw [hW4]; exact (Below.refl _ _).alloc (Nat.le_refl _) _
 have rdW4 : Rd W4 (some ⟨(W3).heap.size, 0, none⟩) (Qi [0]) := by rw [hW4]; exact ZZ _ _ _
 have tyW4 : IntB W4 (some ⟨(W3).heap.size, 0, none⟩) := fun a e => by injection e with e; subst e; rw [hW4]; exact ⟨_, Row.new _ _ _⟩
 rw [← hW4]
 clear hW4
 rw [← sz3]
 replace hj := Qn HJ.out hj bW4
 replace rN := ((KpG.of_below (Z := fun k o => Z k o ∨ k = lb) bW4)).row rN zN.out
 replace HT := Lh (HT.out.kg ((KpG.of_below (Z := fun k o => Z k o ∨ k = lb) bW4)))
 have hyp := HY.out [] ⟨5, some ⟨W3.heap.size, 0, none⟩, 1, [0]⟩ W4 hj ⟨⟨rdW4, by simp, tyW4⟩, by rw [Hfull.out]; exact ⟨_, rfl⟩⟩ (by rw [Hfull.out]; simp)
 have Htell := Lh (Z4 lb (W.heap.size + 1 + 1) W.heap.size (fun k o => Z k o ∨ k = lb) W4 ⟨5, some ⟨W3.heap.size, 0, none⟩, 1, [0]⟩ (J ([] ++ [⟨5, some ⟨W3.heap.size, 0, none⟩, 1, [0]⟩])) HT.out hyp)
 clear hyp hj
 refine ⟨trivial, rfl, Htell.out.mono ?_⟩
 clear Htell
 rintro e W5 ⟨⟨_, rfl⟩, hj, hkp⟩
 replace rN := (hkp).row rN zN.out
 replace HT := Lh (HT.out.kg (hkp))
 clear hkp
 have ct := rN.cellv (i := 0) (v := .int .i64 23) rfl
 gi_wp2_with fail
 obtain ⟨W6, hW6⟩ : ∃ V, V = (W5).alloc (.cells #[.int .i64 0] 3) := ⟨_, rfl⟩
 have bW6 : Below (W5).heap.size W5 W6 := by rw [hW6]; exact (Below.refl _ _).alloc (Nat.le_refl _) _
 have rdW6 : Rd W6 (some ⟨(W5).heap.size, 0, none⟩) (Qi [0]) := by rw [hW6]; exact ZZ _ _ _
 have tyW6 : IntB W6 (some ⟨(W5).heap.size, 0, none⟩) := fun a e => by injection e with e; subst e; rw [hW6]; exact ⟨_, Row.new _ _ _⟩
 rw [← hW6]
 clear hW6
 replace hj := Qn HJ.out hj bW6
 clear ct
 replace rN := ((KpG.of_below (Z := fun k o => Z k o ∨ k = lb) bW6)).row rN zN.out
 replace HT := Lh (HT.out.kg ((KpG.of_below (Z := fun k o => Z k o ∨ k = lb) bW6)))
 have hyp := HY.out [⟨5, some ⟨W3.heap.size, 0, none⟩, 1, [0]⟩] ⟨6, some ⟨W5.heap.size, 0, none⟩, 1, [0]⟩ W6 hj ⟨⟨rdW6, by simp, tyW6⟩, by rw [Hfull.out]; exact ⟨_, rfl⟩⟩ (by rw [Hfull.out]; simp)
 have Htell := Lh (Z4 lb (W.heap.size + 1 + 1) W.heap.size (fun k o => Z k o ∨ k = lb) W6 ⟨6, some ⟨W5.heap.size, 0, none⟩, 1, [0]⟩ (J ([⟨5, some ⟨W3.heap.size, 0, none⟩, 1, [0]⟩] ++ [⟨6, some ⟨W5.heap.size, 0, none⟩, 1, [0]⟩])) HT.out hyp)
 clear hyp hj
 refine ⟨trivial, rfl, Htell.out.mono ?_⟩
 clear Htell
 rintro e W7 ⟨⟨_, rfl⟩, hj, hkp⟩
 replace rN := (hkp).row rN zN.out
 replace HT := Lh (HT.out.kg (hkp))
 clear hkp rdW4 bW4 sz3 rdW6 bW6
 have ct := rN.cellv (i := 0) (v := .int .i64 23) rfl
 have cn := rN.cellv (i := 1) (v := .int .i64 nn) rfl
 clear rN
 gi_wp2_with fail
 go_end0
 exact ⟨⟨_, rfl⟩, .inl ⟨_, by rw [Hfull.out]; rfl, hj⟩⟩
theorem Afb (A : Option Addr) (cap n bl Rb : Nat) (nn : Int) (ys : List Nd) (Z : Nat → Obj → Prop) (w : World) (hC : ListsC A cap n bl Rb ⟨24, nn⟩ ys Z w) (full : List (Int × List Int)) (hfull : full = [(5, [0]), (6, [0])]) :
 Z6 Tryz.prog 285 #[.pointer (some ⟨bl, 0, none⟩)] LsX.enc (fun _ => False) (fun lb => KpG (fun k o => Z k o ∨ k = lb)) (LsP full) (fun xs => xs.map LsX.f = full) (fun _ => True) full.length False w := by
 intro lb J Jx W hlb hwW hst hJ hJx hY h0
 replace hst : ∀ pre W', ¬ Jx pre W' := hst.resolve_left id
 have hbw : Below w.heap.size w W := ⟨hwW.os, hwW.tape, hwW.output, hwW.size, fun k hk => hwW.block k hk (by simp)⟩
 have HC := Lh hC
 have HB := Lh hbw
 have HL := Lh hlb
 have HJ := Lh hJ
 have HY : Hid (∀ pre (x : LsX) W1, J pre W1 → LsP full pre x W1 → pre.length < full.length → YieldAt Fence.wide 0 Tryz.prog lb x.enc W1 fun e W' => e = .returned (.bool true) ∧ J (pre ++ [x]) W' ∧ KpG (fun k o => Z k o ∨ k = lb) W1 W') := fun pre x W1 h1 h2 h3 => (hY pre x W1 h1 h2 h3).mono fun e W' h => by
  rcases h with h | ⟨_, h, _⟩
  · exact h
  · exact absurd h (hst _ _)
 have Hfull := Lh hfull
 clear hC hbw hlb hJ hJx hY hst hwW hfull
 refine callsIn_of_wp Tryz.func285 rfl trivial ?_ rfl
 simp only [Tryz.ntmps285, List.size_toArray, List.length_cons, List.length_nil, Nat.reduceAdd, Nat.reduceSub, Array.replicate_succ, Array.replicate_zero, List.push_toArray, List.append_toArray, List.nil_append, List.cons_append]
 obtain ⟨W1, hW1⟩ : ∃ W1, W1 = W.alloc (.cells #[.func (.yield lb) #[] #[]] 329) := ⟨_, rfl⟩
 have b1 : Below W.heap.size W W1 := by rw [hW1]; exact (Below.refl _ _).alloc (Nat.le_refl _) _
 have rl1 := (HC.out.rl.below HB.out HC.out.rl.lt).below b1 (Nat.lt_of_lt_of_le HC.out.rl.lt HB.out.size)
 have hrd := (HC.out.hr.go HB.out).go b1
 obtain ⟨ad, had, hcn⟩ := Zs hrd (k := 0) (x := ⟨24, nn⟩) rfl
 have e0 : W1.cell? ad = some (.int .i64 24) := by have := hcn 0 _ rfl; rwa [Nat.zero_mul, Ql, Ql] at this
 have e1 : W1.cell? ⟨ad.block, ad.off + 1, none⟩ = some (.int .i64 nn) := by have := hcn 1 _ rfl; rw [Nat.zero_mul, Ql] at this; exact this
 have hn0 : (0 : Int) < (n : Int) := by have := HC.out.hn; rw [this]; simp
 have cl := rl1.cellv (i := 0) (v := .slice A n cap) rfl
 rw [had] at cl
 rw [hW1] at cl e0 e1
 have Had := Lh had
 clear hcn hrd rl1 b1 hW1 had
 gi_wp2_with fail
 obtain ⟨W3, hW3⟩ : ∃ W3, W3 = ((W.alloc (.cells #[.func (.yield lb) #[] #[]] 329)).alloc (.cells #[.int .i64 24, .int .i64 nn] 85)).alloc (.cells #[.bool true] 4) := ⟨_, rfl⟩
 have hz2 : ∀ k cs t fr, W.heap.size ≤ k → (t = 329 ∨ t = 85 ∨ t = 4 ∨ t = 3) → ¬ (Z k (.cells cs t fr) ∨ k = lb) := fun k cs t fr h1 h2 h => by
  rcases h with h | h
  · exact HC.out.z2 k cs t fr (by have := HB.out.size; omega) h2 h
  · have := HL.out.2; omega
 have b3 : Below W.heap.size W W3 := by rw [hW3]; exact (((Below.refl _ _).alloc (Nat.le_refl _) _).alloc (by simp) _).alloc (by simp; omega) _
 have hT : TellC lb (W.heap.size + 1 + 1) W.heap.size (fun k o => Z k o ∨ k = lb) W3 := by
  refine ⟨?_, ?_, fun cs fr => hz2 _ _ _ _ (by omega) (by simp), fun cs fr => hz2 _ _ _ _ (by omega) (by simp)⟩
  · rw [hW3]; have := Row.new ((W.alloc (.cells #[.func (.yield lb) #[] #[]] 329)).alloc (.cells #[.int .i64 24, .int .i64 nn] 85)) 4 #[.bool true]
    simpa using this
  · rw [hW3]; exact ((Row.new W 329 #[.func (.yield lb) #[] #[]]).alloc _).alloc _
 have rN : Row W3 (W.heap.size + 1) 85 #[.int .i64 24, .int .i64 nn] := by
  rw [hW3]; have := (Row.new (W.alloc (.cells #[.func (.yield lb) #[] #[]] 329)) 85 #[.int .i64 24, .int .i64 nn]).alloc (.cells #[.bool true] 4)
  simpa using this
 have hj := Qn HJ.out h0 b3
 have sz3 : W3.heap.size = W.heap.size + 1 + 1 + 1 := by rw [hW3]; simp
 have zN : Hid (¬ (Z (W.heap.size + 1) (.cells #[.int .i64 24, .int .i64 nn] 85 (0, 0)) ∨ W.heap.size + 1 = lb)) := hz2 _ _ _ _ (by omega) (by simp)
 have HT := Lh hT
 rw [← hW3]
 have b30 := b3
 clear hW3 hz2 b3 hT h0 cl e0 e1
 obtain ⟨W4, hW4⟩ : ∃ V, V = (W3).alloc (.cells #[.int .i64 0] 3) := ⟨_, rfl⟩
 have bW4 : Below (W3).heap.size W3 W4 := by rw [hW4]; exact (Below.refl _ _).alloc (Nat.le_refl _) _
 have rdW4 : Rd W4 (some ⟨(W3).heap.size, 0, none⟩) (Qi [0]) := by rw [hW4]; exact ZZ _ _ _
 have tyW4 : IntB W4 (some ⟨(W3).heap.size, 0, none⟩) := fun a e => by injection e with e; subst e; rw [hW4]; exact ⟨_, Row.new _ _ _⟩
 rw [← hW4]
 clear hW4
 rw [← sz3]
 replace hj := Qn HJ.out hj bW4
 replace rN := ((KpG.of_below (Z := fun k o => Z k o ∨ k = lb) bW4)).row rN zN.out
 replace HT := Lh (HT.out.kg ((KpG.of_below (Z := fun k o => Z k o ∨ k = lb) bW4)))
 have hyp := HY.out [] ⟨5, some ⟨W3.heap.size, 0, none⟩, 1, [0]⟩ W4 hj ⟨⟨rdW4, by simp, tyW4⟩, by rw [Hfull.out]; exact ⟨_, rfl⟩⟩ (by rw [Hfull.out]; simp)
 have Htell := Lh (Z4 lb (W.heap.size + 1 + 1) W.heap.size (fun k o => Z k o ∨ k = lb) W4 ⟨5, some ⟨W3.heap.size, 0, none⟩, 1, [0]⟩ (J ([] ++ [⟨5, some ⟨W3.heap.size, 0, none⟩, 1, [0]⟩])) HT.out hyp)
 clear hyp hj
 refine ⟨trivial, rfl, Htell.out.mono ?_⟩
 clear Htell
 rintro e W5 ⟨⟨_, rfl⟩, hj, hkp⟩
 replace rN := (hkp).row rN zN.out
 replace HT := Lh (HT.out.kg (hkp))
 clear hkp
 have ct := rN.cellv (i := 0) (v := .int .i64 24) rfl
 gi_wp2_with fail
 obtain ⟨W6, hW6⟩ : ∃ V, V = (W5).alloc (.cells #[.int .i64 0] 3) := ⟨_, rfl⟩
 have bW6 : Below (W5).heap.size W5 W6 := by rw [hW6]; exact (Below.refl _ _).alloc (Nat.le_refl _) _
 have rdW6 : Rd W6 (some ⟨(W5).heap.size, 0, none⟩) (Qi [0]) := by rw [hW6]; exact ZZ _ _ _
 have tyW6 : IntB W6 (some ⟨(W5).heap.size, 0, none⟩) := fun a e => by injection e with e; subst e; rw [hW6]; exact ⟨_, Row.new _ _ _⟩
 rw [← hW6]
 clear hW6
 replace hj := Qn HJ.out hj bW6
 clear ct
 replace rN := ((KpG.of_below (Z := fun k o => Z k o ∨ k = lb) bW6)).row rN zN.out
 replace HT := Lh (HT.out.kg ((KpG.of_below (Z := fun k o => Z k o ∨ k = lb) bW6)))
 have hyp := HY.out [⟨5, some ⟨W3.heap.size, 0, none⟩, 1, [0]⟩] ⟨6, some ⟨W5.heap.size, 0, none⟩, 1, [0]⟩ W6 hj ⟨⟨rdW6, by simp, tyW6⟩, by rw [Hfull.out]; exact ⟨_, rfl⟩⟩ (by rw [Hfull.out]; simp)
 have Htell := Lh (Z4 lb (W.heap.size + 1 + 1) W.heap.size (fun k o => Z k o ∨ k = lb) W6 ⟨6, some ⟨W5.heap.size, 0, none⟩, 1, [0]⟩ (J ([⟨5, some ⟨W3.heap.size, 0, none⟩, 1, [0]⟩] ++ [⟨6, some ⟨W5.heap.size, 0, none⟩, 1, [0]⟩])) HT.out hyp)
 clear hyp hj
 refine ⟨trivial, rfl, Htell.out.mono ?_⟩
 clear Htell
 rintro e W7 ⟨⟨_, rfl⟩, hj, hkp⟩
 replace rN := (hkp).row rN zN.out
 replace HT := Lh (HT.out.kg (hkp))
 clear hkp rdW4 bW4 sz3 rdW6 bW6
 have ct := rN.cellv (i := 0) (v := .int .i64 24) rfl
 have cn := rN.cellv (i := 1) (v := .int .i64 nn) rfl
 clear rN
 gi_wp2_with fail
 go_end0
 exact ⟨⟨_, rfl⟩, .inl ⟨_, by rw [Hfull.out]; rfl, hj⟩⟩
theorem Agi (A : Option Addr) (cap n bl Rb : Nat) (nn : Int) (ys : List Nd) (Z : Nat → Obj → Prop) (w : World) (hC : ListsC A cap n bl Rb ⟨3, nn⟩ ys Z w) (full : List (Int × List Int)) (hfull : full = []) :
 Z6 Tryz.prog 285 #[.pointer (some ⟨bl, 0, none⟩)] LsX.enc (fun _ => False) (fun lb => KpG (fun k o => Z k o ∨ k = lb)) (LsP full) (fun xs => xs.map LsX.f = full) (fun _ => True) full.length False w := by
 intro lb J Jx W hlb hwW hst hJ hJx hY h0
 replace hst : ∀ pre W', ¬ Jx pre W' := hst.resolve_left id
 have hbw : Below w.heap.size w W := ⟨hwW.os, hwW.tape, hwW.output, hwW.size, fun k hk => hwW.block k hk (by simp)⟩
 have HC := Lh hC
 have HB := Lh hbw
 have HL := Lh hlb
 have HJ := Lh hJ
 have HY : Hid (∀ pre (x : LsX) W1, J pre W1 → LsP full pre x W1 → pre.length < full.length → YieldAt Fence.wide 0 Tryz.prog lb x.enc W1 fun e W' => e = .returned (.bool true) ∧ J (pre ++ [x]) W' ∧ KpG (fun k o => Z k o ∨ k = lb) W1 W') := fun pre x W1 h1 h2 h3 => (hY pre x W1 h1 h2 h3).mono fun e W' h => by
  rcases h with h | ⟨_, h, _⟩
  · exact h
  · exact absurd h (hst _ _)
 have Hfull := Lh hfull
 clear hC hbw hlb hJ hJx hY hst hwW hfull
 refine callsIn_of_wp Tryz.func285 rfl trivial ?_ rfl
 simp only [Tryz.ntmps285, List.size_toArray, List.length_cons, List.length_nil, Nat.reduceAdd, Nat.reduceSub, Array.replicate_succ, Array.replicate_zero, List.push_toArray, List.append_toArray, List.nil_append, List.cons_append]
 obtain ⟨W1, hW1⟩ : ∃ W1, W1 = W.alloc (.cells #[.func (.yield lb) #[] #[]] 329) := ⟨_, rfl⟩
 have b1 : Below W.heap.size W W1 := by rw [hW1]; exact (Below.refl _ _).alloc (Nat.le_refl _) _
 have rl1 := (HC.out.rl.below HB.out HC.out.rl.lt).below b1 (Nat.lt_of_lt_of_le HC.out.rl.lt HB.out.size)
 have hrd := (HC.out.hr.go HB.out).go b1
 obtain ⟨ad, had, hcn⟩ := Zs hrd (k := 0) (x := ⟨3, nn⟩) rfl
 have e0 : W1.cell? ad = some (.int .i64 3) := by have := hcn 0 _ rfl; rwa [Nat.zero_mul, Ql, Ql] at this
 have e1 : W1.cell? ⟨ad.block, ad.off + 1, none⟩ = some (.int .i64 nn) := by have := hcn 1 _ rfl; rw [Nat.zero_mul, Ql] at this; exact this
 have hn0 : (0 : Int) < (n : Int) := by have := HC.out.hn; rw [this]; simp
 have cl := rl1.cellv (i := 0) (v := .slice A n cap) rfl
 rw [had] at cl
 rw [hW1] at cl e0 e1
 have Had := Lh had
 clear hcn hrd rl1 b1 hW1 had
 gi_wp2_with fail
 go_end0
 exact ⟨⟨_, rfl⟩, .inl ⟨[], by rw [Hfull.out]; rfl, Qn HJ.out h0 ((((Below.refl _ _).alloc (Nat.le_refl _) _).alloc (by simp) _).alloc (by simp; omega) _)⟩⟩
theorem Agj (A : Option Addr) (cap n bl Rb : Nat) (nn : Int) (ys : List Nd) (Z : Nat → Obj → Prop) (w : World) (hC : ListsC A cap n bl Rb ⟨4, nn⟩ ys Z w) (full : List (Int × List Int)) (hfull : full = []) :
 Z6 Tryz.prog 285 #[.pointer (some ⟨bl, 0, none⟩)] LsX.enc (fun _ => False) (fun lb => KpG (fun k o => Z k o ∨ k = lb)) (LsP full) (fun xs => xs.map LsX.f = full) (fun _ => True) full.length False w := by
 intro lb J Jx W hlb hwW hst hJ hJx hY h0
 replace hst : ∀ pre W', ¬ Jx pre W' := hst.resolve_left id
 have hbw : Below w.heap.size w W := ⟨hwW.os, hwW.tape, hwW.output, hwW.size, fun k hk => hwW.block k hk (by simp)⟩
 have HC := Lh hC
 have HB := Lh hbw
 have HL := Lh hlb
 have HJ := Lh hJ
 have HY : Hid (∀ pre (x : LsX) W1, J pre W1 → LsP full pre x W1 → pre.length < full.length → YieldAt Fence.wide 0 Tryz.prog lb x.enc W1 fun e W' => e = .returned (.bool true) ∧ J (pre ++ [x]) W' ∧ KpG (fun k o => Z k o ∨ k = lb) W1 W') := fun pre x W1 h1 h2 h3 => (hY pre x W1 h1 h2 h3).mono fun e W' h => by
  rcases h with h | ⟨_, h, _⟩
  · exact h
  · exact absurd h (hst _ _)
 have Hfull := Lh hfull
 clear hC hbw hlb hJ hJx hY hst hwW hfull
 refine callsIn_of_wp Tryz.func285 rfl trivial ?_ rfl
 simp only [Tryz.ntmps285, List.size_toArray, List.length_cons, List.length_nil, Nat.reduceAdd, Nat.reduceSub, Array.replicate_succ, Array.replicate_zero, List.push_toArray, List.append_toArray, List.nil_append, List.cons_append]
 obtain ⟨W1, hW1⟩ : ∃ W1, W1 = W.alloc (.cells #[.func (.yield lb) #[] #[]] 329) := ⟨_, rfl⟩
 have b1 : Below W.heap.size W W1 := by rw [hW1]; exact (Below.refl _ _).alloc (Nat.le_refl _) _
 have rl1 := (HC.out.rl.below HB.out HC.out.rl.lt).below b1 (Nat.lt_of_lt_of_le HC.out.rl.lt HB.out.size)
 have hrd := (HC.out.hr.go HB.out).go b1
 obtain ⟨ad, had, hcn⟩ := Zs hrd (k := 0) (x := ⟨4, nn⟩) rfl
 have e0 : W1.cell? ad = some (.int .i64 4) := by have := hcn 0 _ rfl; rwa [Nat.zero_mul, Ql, Ql] at this
 have e1 : W1.cell? ⟨ad.block, ad.off + 1, none⟩ = some (.int .i64 nn) := by have := hcn 1 _ rfl; rw [Nat.zero_mul, Ql] at this; exact this
 have hn0 : (0 : Int) < (n : Int) := by have := HC.out.hn; rw [this]; simp
 have cl := rl1.cellv (i := 0) (v := .slice A n cap) rfl
 rw [had] at cl
 rw [hW1] at cl e0 e1
 have Had := Lh had
 clear hcn hrd rl1 b1 hW1 had
 gi_wp2_with fail
 go_end0
 exact ⟨⟨_, rfl⟩, .inl ⟨[], by rw [Hfull.out]; rfl, Qn HJ.out h0 ((((Below.refl _ _).alloc (Nat.le_refl _) _).alloc (by simp) _).alloc (by simp; omega) _)⟩⟩
theorem Agk (A : Option Addr) (cap n bl Rb : Nat) (nn : Int) (ys : List Nd) (Z : Nat → Obj → Prop) (w : World) (hC : ListsC A cap n bl Rb ⟨5, nn⟩ ys Z w) (full : List (Int × List Int)) (hfull : full = []) :
 Z6 Tryz.prog 285 #[.pointer (some ⟨bl, 0, none⟩)] LsX.enc (fun _ => False) (fun lb => KpG (fun k o => Z k o ∨ k = lb)) (LsP full) (fun xs => xs.map LsX.f = full) (fun _ => True) full.length False w := by
 intro lb J Jx W hlb hwW hst hJ hJx hY h0
 replace hst : ∀ pre W', ¬ Jx pre W' := hst.resolve_left id
 have hbw : Below w.heap.size w W := ⟨hwW.os, hwW.tape, hwW.output, hwW.size, fun k hk => hwW.block k hk (by simp)⟩
 have HC := Lh hC
 have HB := Lh hbw
 have HL := Lh hlb
 have HJ := Lh hJ
 have HY : Hid (∀ pre (x : LsX) W1, J pre W1 → LsP full pre x W1 → pre.length < full.length → YieldAt Fence.wide 0 Tryz.prog lb x.enc W1 fun e W' => e = .returned (.bool true) ∧ J (pre ++ [x]) W' ∧ KpG (fun k o => Z k o ∨ k = lb) W1 W') := fun pre x W1 h1 h2 h3 => (hY pre x W1 h1 h2 h3).mono fun e W' h => by
  rcases h with h | ⟨_, h, _⟩
  · exact h
  · exact absurd h (hst _ _)
 have Hfull := Lh hfull
 clear hC hbw hlb hJ hJx hY hst hwW hfull
 refine callsIn_of_wp Tryz.func285 rfl trivial ?_ rfl
 simp only [Tryz.ntmps285, List.size_toArray, List.length_cons, List.length_nil, Nat.reduceAdd, Nat.reduceSub, Array.replicate_succ, Array.replicate_zero, List.push_toArray, List.append_toArray, List.nil_append, List.cons_append]
 obtain ⟨W1, hW1⟩ : ∃ W1, W1 = W.alloc (.cells #[.func (.yield lb) #[] #[]] 329) := ⟨_, rfl⟩
 have b1 : Below W.heap.size W W1 := by rw [hW1]; exact (Below.refl _ _).alloc (Nat.le_refl _) _
 have rl1 := (HC.out.rl.below HB.out HC.out.rl.lt).below b1 (Nat.lt_of_lt_of_le HC.out.rl.lt HB.out.size)
 have hrd := (HC.out.hr.go HB.out).go b1
 obtain ⟨ad, had, hcn⟩ := Zs hrd (k := 0) (x := ⟨5, nn⟩) rfl
 have e0 : W1.cell? ad = some (.int .i64 5) := by have := hcn 0 _ rfl; rwa [Nat.zero_mul, Ql, Ql] at this
 have e1 : W1.cell? ⟨ad.block, ad.off + 1, none⟩ = some (.int .i64 nn) := by have := hcn 1 _ rfl; rw [Nat.zero_mul, Ql] at this; exact this
 have hn0 : (0 : Int) < (n : Int) := by have := HC.out.hn; rw [this]; simp
 have cl := rl1.cellv (i := 0) (v := .slice A n cap) rfl
 rw [had] at cl
 rw [hW1] at cl e0 e1
 have Had := Lh had
 clear hcn hrd rl1 b1 hW1 had
 gi_wp2_with fail
 go_end0
 exact ⟨⟨_, rfl⟩, .inl ⟨[], by rw [Hfull.out]; rfl, Qn HJ.out h0 ((((Below.refl _ _).alloc (Nat.le_refl _) _).alloc (by simp) _).alloc (by simp; omega) _)⟩⟩
theorem Agl (A : Option Addr) (cap n bl Rb : Nat) (nn : Int) (ys : List Nd) (Z : Nat → Obj → Prop) (w : World) (hC : ListsC A cap n bl Rb ⟨6, nn⟩ ys Z w) (full : List (Int × List Int)) (hfull : full = []) :
 Z6 Tryz.prog 285 #[.pointer (some ⟨bl, 0, none⟩)] LsX.enc (fun _ => False) (fun lb => KpG (fun k o => Z k o ∨ k = lb)) (LsP full) (fun xs => xs.map LsX.f = full) (fun _ => True) full.length False w := by
 intro lb J Jx W hlb hwW hst hJ hJx hY h0
 replace hst : ∀ pre W', ¬ Jx pre W' := hst.resolve_left id
 have hbw : Below w.heap.size w W := ⟨hwW.os, hwW.tape, hwW.output, hwW.size, fun k hk => hwW.block k hk (by simp)⟩
 have HC := Lh hC
 have HB := Lh hbw
 have HL := Lh hlb
 have HJ := Lh hJ
 have HY : Hid (∀ pre (x : LsX) W1, J pre W1 → LsP full pre x W1 → pre.length < full.length → YieldAt Fence.wide 0 Tryz.prog lb x.enc W1 fun e W' => e = .returned (.bool true) ∧ J (pre ++ [x]) W' ∧ KpG (fun k o => Z k o ∨ k = lb) W1 W') := fun pre x W1 h1 h2 h3 => (hY pre x W1 h1 h2 h3).mono fun e W' h => by
  rcases h with h | ⟨_, h, _⟩
  · exact h
  · exact absurd h (hst _ _)
 have Hfull := Lh hfull
 clear hC hbw hlb hJ hJx hY hst hwW hfull
 refine callsIn_of_wp Tryz.func285 rfl trivial ?_ rfl
 simp only [Tryz.ntmps285, List.size_toArray, List.length_cons, List.length_nil, Nat.reduceAdd, Nat.reduceSub, Array.replicate_succ, Array.replicate_zero, List.push_toArray, List.append_toArray, List.nil_append, List.cons_append]
 obtain ⟨W1, hW1⟩ : ∃ W1, W1 = W.alloc (.cells #[.func (.yield lb) #[] #[]] 329) := ⟨_, rfl⟩
 have b1 : Below W.heap.size W W1 := by rw [hW1]; exact (Below.refl _ _).alloc (Nat.le_refl _) _
 have rl1 := (HC.out.rl.below HB.out HC.out.rl.lt).below b1 (Nat.lt_of_lt_of_le HC.out.rl.lt HB.out.size)
 have hrd := (HC.out.hr.go HB.out).go b1
 obtain ⟨ad, had, hcn⟩ := Zs hrd (k := 0) (x := ⟨6, nn⟩) rfl
 have e0 : W1.cell? ad = some (.int .i64 6) := by have := hcn 0 _ rfl; rwa [Nat.zero_mul, Ql, Ql] at this
 have e1 : W1.cell? ⟨ad.block, ad.off + 1, none⟩ = some (.int .i64 nn) := by have := hcn 1 _ rfl; rw [Nat.zero_mul, Ql] at this; exact this
 have hn0 : (0 : Int) < (n : Int) := by have := HC.out.hn; rw [this]; simp
 have cl := rl1.cellv (i := 0) (v := .slice A n cap) rfl
 rw [had] at cl
 rw [hW1] at cl e0 e1
 have Had := Lh had
 clear hcn hrd rl1 b1 hW1 had
 gi_wp2_with fail
 go_end0
 exact ⟨⟨_, rfl⟩, .inl ⟨[], by rw [Hfull.out]; rfl, Qn HJ.out h0 ((((Below.refl _ _).alloc (Nat.le_refl _) _).alloc (by simp) _).alloc (by simp; omega) _)⟩⟩
theorem Afc (A : Option Addr) (cap n bl Rb : Nat) (nn : Int) (ys : List Nd) (Z : Nat → Obj → Prop) (w : World) (hC : ListsC A cap n bl Rb ⟨20, nn⟩ ys Z w) (full : List (Int × List Int)) (hfull : full = []) :
 Z6 Tryz.prog 285 #[.pointer (some ⟨bl, 0, none⟩)] LsX.enc (fun _ => False) (fun lb => KpG (fun k o => Z k o ∨ k = lb)) (LsP full) (fun xs => xs.map LsX.f = full) (fun _ => True) full.length False w := by
 intro lb J Jx W hlb hwW hst hJ hJx hY h0
 replace hst : ∀ pre W', ¬ Jx pre W' := hst.resolve_left id
 have hbw : Below w.heap.size w W := ⟨hwW.os, hwW.tape, hwW.output, hwW.size, fun k hk => hwW.block k hk (by simp)⟩
 have HC := Lh hC
 have HB := Lh hbw
 have HL := Lh hlb
 have HJ := Lh hJ
 have HY : Hid (∀ pre (x : LsX) W1, J pre W1 → LsP full pre x W1 → pre.length < full.length → YieldAt Fence.wide 0 Tryz.prog lb x.enc W1 fun e W' => e = .returned (.bool true) ∧ J (pre ++ [x]) W' ∧ KpG (fun k o => Z k o ∨ k = lb) W1 W') := fun pre x W1 h1 h2 h3 => (hY pre x W1 h1 h2 h3).mono fun e W' h => by
  rcases h with h | ⟨_, h, _⟩
  · exact h
  · exact absurd h (hst _ _)
 have Hfull := Lh hfull
 clear hC hbw hlb hJ hJx hY hst hwW hfull
 refine callsIn_of_wp Tryz.func285 rfl trivial ?_ rfl
 simp only [Tryz.ntmps285, List.size_toArray, List.length_cons, List.length_nil, Nat.reduceAdd, Nat.reduceSub, Array.replicate_succ, Array.replicate_zero, List.push_toArray, List.append_toArray, List.nil_append, List.cons_append]
 obtain ⟨W1, hW1⟩ : ∃ W1, W1 = W.alloc (.cells #[.func (.yield lb) #[] #[]] 329) := ⟨_, rfl⟩
 have b1 : Below W.heap.size W W1 := by rw [hW1]; exact (Below.refl _ _).alloc (Nat.le_refl _) _
 have rl1 := (HC.out.rl.below HB.out HC.out.rl.lt).below b1 (Nat.lt_of_lt_of_le HC.out.rl.lt HB.out.size)
 have hrd := (HC.out.hr.go HB.out).go b1
 obtain ⟨ad, had, hcn⟩ := Zs hrd (k := 0) (x := ⟨20, nn⟩) rfl
 have e0 : W1.cell? ad = some (.int .i64 20) := by have := hcn 0 _ rfl; rwa [Nat.zero_mul, Ql, Ql] at this
 have e1 : W1.cell? ⟨ad.block, ad.off + 1, none⟩ = some (.int .i64 nn) := by have := hcn 1 _ rfl; rw [Nat.zero_mul, Ql] at this; exact this
 have hn0 : (0 : Int) < (n : Int) := by have := HC.out.hn; rw [this]; simp
 have cl := rl1.cellv (i := 0) (v := .slice A n cap) rfl
 rw [had] at cl
 rw [hW1] at cl e0 e1
 have Had := Lh had
 clear hcn hrd rl1 b1 hW1 had
 gi_wp2_with fail
 go_end0
 exact ⟨⟨_, rfl⟩, .inl ⟨[], by rw [Hfull.out]; rfl, Qn HJ.out h0 ((((Below.refl _ _).alloc (Nat.le_refl _) _).alloc (by simp) _).alloc (by simp; omega) _)⟩⟩
theorem Afd (A : Option Addr) (cap n bl Rb : Nat) (nn : Int) (ys : List Nd) (Z : Nat → Obj → Prop) (w : World) (hC : ListsC A cap n bl Rb ⟨26, nn⟩ ys Z w) (full : List (Int × List Int)) (hfull : full = []) :
 Z6 Tryz.prog 285 #[.pointer (some ⟨bl, 0, none⟩)] LsX.enc (fun _ => False) (fun lb => KpG (fun k o => Z k o ∨ k = lb)) (LsP full) (fun xs => xs.map LsX.f = full) (fun _ => True) full.length False w := by
 intro lb J Jx W hlb hwW hst hJ hJx hY h0
 replace hst : ∀ pre W', ¬ Jx pre W' := hst.resolve_left id
 have hbw : Below w.heap.size w W := ⟨hwW.os, hwW.tape, hwW.output, hwW.size, fun k hk => hwW.block k hk (by simp)⟩
 have HC := Lh hC
 have HB := Lh hbw
 have HL := Lh hlb
 have HJ := Lh hJ
 have HY : Hid (∀ pre (x : LsX) W1, J pre W1 → LsP full pre x W1 → pre.length < full.length → YieldAt Fence.wide 0 Tryz.prog lb x.enc W1 fun e W' => e = .returned (.bool true) ∧ J (pre ++ [x]) W' ∧ KpG (fun k o => Z k o ∨ k = lb) W1 W') := fun pre x W1 h1 h2 h3 => (hY pre x W1 h1 h2 h3).mono fun e W' h => by
  rcases h with h | ⟨_, h, _⟩
  · exact h
  · exact absurd h (hst _ _)
 have Hfull := Lh hfull
 clear hC hbw hlb hJ hJx hY hst hwW hfull
 refine callsIn_of_wp Tryz.func285 rfl trivial ?_ rfl
 simp only [Tryz.ntmps285, List.size_toArray, List.length_cons, List.length_nil, Nat.reduceAdd, Nat.reduceSub, Array.replicate_succ, Array.replicate_zero, List.push_toArray, List.append_toArray, List.nil_append, List.cons_append]
 obtain ⟨W1, hW1⟩ : ∃ W1, W1 = W.alloc (.cells #[.func (.yield lb) #[] #[]] 329) := ⟨_, rfl⟩
 have b1 : Below W.heap.size W W1 := by rw [hW1]; exact (Below.refl _ _).alloc (Nat.le_refl _) _
 have rl1 := (HC.out.rl.below HB.out HC.out.rl.lt).below b1 (Nat.lt_of_lt_of_le HC.out.rl.lt HB.out.size)
 have hrd := (HC.out.hr.go HB.out).go b1
 obtain ⟨ad, had, hcn⟩ := Zs hrd (k := 0) (x := ⟨26, nn⟩) rfl
 have e0 : W1.cell? ad = some (.int .i64 26) := by have := hcn 0 _ rfl; rwa [Nat.zero_mul, Ql, Ql] at this
 have e1 : W1.cell? ⟨ad.block, ad.off + 1, none⟩ = some (.int .i64 nn) := by have := hcn 1 _ rfl; rw [Nat.zero_mul, Ql] at this; exact this
 have hn0 : (0 : Int) < (n : Int) := by have := HC.out.hn; rw [this]; simp
 have cl := rl1.cellv (i := 0) (v := .slice A n cap) rfl
 rw [had] at cl
 rw [hW1] at cl e0 e1
 have Had := Lh had
 clear hcn hrd rl1 b1 hW1 had
 gi_wp2_with fail
 go_end0
 exact ⟨⟨_, rfl⟩, .inl ⟨[], by rw [Hfull.out]; rfl, Qn HJ.out h0 ((((Below.refl _ _).alloc (Nat.le_refl _) _).alloc (by simp) _).alloc (by simp; omega) _)⟩⟩
theorem AhM (A : Option Addr) (cap n bl Rb : Nat) (nn : Int) (ys : List Nd) (Z : Nat → Obj → Prop) (w : World) (hC : ListsC A cap n bl Rb ⟨2, nn⟩ ys Z w) (full : List (Int × List Int)) (hfull : full = [(4, [wrap64 (1 - nn)])]) :
 Z6 Tryz.prog 285 #[.pointer (some ⟨bl, 0, none⟩)] LsX.enc (fun _ => False) (fun lb => KpG (fun k o => Z k o ∨ k = lb)) (LsP full) (fun xs => xs.map LsX.f = full) (fun _ => True) full.length False w := by
 intro lb J Jx W hlb hwW hst hJ hJx hY h0
 replace hst : ∀ pre W', ¬ Jx pre W' := hst.resolve_left id
 have hbw : Below w.heap.size w W := ⟨hwW.os, hwW.tape, hwW.output, hwW.size, fun k hk => hwW.block k hk (by simp)⟩
 have HC := Lh hC
 have HB := Lh hbw
 have HL := Lh hlb
 have HJ := Lh hJ
 have HY : Hid (∀ pre (x : LsX) W1, J pre W1 → LsP full pre x W1 → pre.length < full.length → YieldAt Fence.wide 0 Tryz.prog lb x.enc W1 fun e W' => e = .returned (.bool true) ∧ J (pre ++ [x]) W' ∧ KpG (fun k o => Z k o ∨ k = lb) W1 W') := fun pre x W1 h1 h2 h3 => (hY pre x W1 h1 h2 h3).mono fun e W' h => by
  rcases h with h | ⟨_, h, _⟩
  · exact h
  · exact absurd h (hst _ _)
 have Hfull := Lh hfull
 clear hC hbw hlb hJ hJx hY hst hwW hfull
 refine callsIn_of_wp Tryz.func285 rfl trivial ?_ rfl
 simp only [Tryz.ntmps285, List.size_toArray, List.length_cons, List.length_nil, Nat.reduceAdd, Nat.reduceSub, Array.replicate_succ, Array.replicate_zero, List.push_toArray, List.append_toArray, List.nil_append, List.cons_append]
 obtain ⟨W1, hW1⟩ : ∃ W1, W1 = W.alloc (.cells #[.func (.yield lb) #[] #[]] 329) := ⟨_, rfl⟩
 have b1 : Below W.heap.size W W1 := by rw [hW1]; exact (Below.refl _ _).alloc (Nat.le_refl _) _
 have rl1 := (HC.out.rl.below HB.out HC.out.rl.lt).below b1 (Nat.lt_of_lt_of_le HC.out.rl.lt HB.out.size)
 have hrd := (HC.out.hr.go HB.out).go b1
 obtain ⟨ad, had, hcn⟩ := Zs hrd (k := 0) (x := ⟨2, nn⟩) rfl
 have e0 : W1.cell? ad = some (.int .i64 2) := by have := hcn 0 _ rfl; rwa [Nat.zero_mul, Ql, Ql] at this
 have e1 : W1.cell? ⟨ad.block, ad.off + 1, none⟩ = some (.int .i64 nn) := by have := hcn 1 _ rfl; rw [Nat.zero_mul, Ql] at this; exact this
 have hn0 : (0 : Int) < (n : Int) := by have := HC.out.hn; rw [this]; simp
 have cl := rl1.cellv (i := 0) (v := .slice A n cap) rfl
 rw [had] at cl
 rw [hW1] at cl e0 e1
 have Had := Lh had
 clear hcn hrd rl1 b1 hW1 had
 gi_wp2_with fail
 obtain ⟨W3, hW3⟩ : ∃ W3, W3 = ((W.alloc (.cells #[.func (.yield lb) #[] #[]] 329)).alloc (.cells #[.int .i64 2, .int .i64 nn] 85)).alloc (.cells #[.bool true] 4) := ⟨_, rfl⟩
 have hz2 : ∀ k cs t fr, W.heap.size ≤ k → (t = 329 ∨ t = 85 ∨ t = 4 ∨ t = 3) → ¬ (Z k (.cells cs t fr) ∨ k = lb) := fun k cs t fr h1 h2 h => by
  rcases h with h | h
  · exact HC.out.z2 k cs t fr (by have := HB.out.size; omega) h2 h
  · have := HL.out.2; omega
 have b3 : Below W.heap.size W W3 := by rw [hW3]; exact (((Below.refl _ _).alloc (Nat.le_refl _) _).alloc (by simp) _).alloc (by simp; omega) _
 have hT : TellC lb (W.heap.size + 1 + 1) W.heap.size (fun k o => Z k o ∨ k = lb) W3 := by
  refine ⟨?_, ?_, fun cs fr => hz2 _ _ _ _ (by omega) (by simp), fun cs fr => hz2 _ _ _ _ (by omega) (by simp)⟩
  · rw [hW3]; have := Row.new ((W.alloc (.cells #[.func (.yield lb) #[] #[]] 329)).alloc (.cells #[.int .i64 2, .int .i64 nn] 85)) 4 #[.bool true]
    simpa using this
  · rw [hW3]; exact ((Row.new W 329 #[.func (.yield lb) #[] #[]]).alloc _).alloc _
 have rN : Row W3 (W.heap.size + 1) 85 #[.int .i64 2, .int .i64 nn] := by
  rw [hW3]; have := (Row.new (W.alloc (.cells #[.func (.yield lb) #[] #[]] 329)) 85 #[.int .i64 2, .int .i64 nn]).alloc (.cells #[.bool true] 4)
  simpa using this
 have hj := Qn HJ.out h0 b3
 have sz3 : W3.heap.size = W.heap.size + 1 + 1 + 1 := by rw [hW3]; simp
 have zN : Hid (¬ (Z (W.heap.size + 1) (.cells #[.int .i64 2, .int .i64 nn] 85 (0, 0)) ∨ W.heap.size + 1 = lb)) := hz2 _ _ _ _ (by omega) (by simp)
 have HT := Lh hT
 rw [← hW3]
 have b30 := b3
 clear hW3 hz2 b3 hT h0 cl e0 e1
 obtain ⟨W4, hW4⟩ : ∃ V, V = (W3).alloc (.cells #[.int .i64 (wrap64 (1 - nn))] 3) := ⟨_, rfl⟩
 have bW4 : Below (W3).heap.size W3 W4 := by rw [hW4]; exact (Below.refl _ _).alloc (Nat.le_refl _) _
 have rdW4 : Rd W4 (some ⟨(W3).heap.size, 0, none⟩) (Qi [wrap64 (1 - nn)]) := by rw [hW4]; exact ZZ _ _ _
 have tyW4 : IntB W4 (some ⟨(W3).heap.size, 0, none⟩) := fun a e => by injection e with e; subst e; rw [hW4]; exact ⟨_, Row.new _ _ _⟩
 rw [← hW4]
 clear hW4
 rw [← sz3]
 replace hj := Qn HJ.out hj bW4
 replace rN := ((KpG.of_below (Z := fun k o => Z k o ∨ k = lb) bW4)).row rN zN.out
 replace HT := Lh (HT.out.kg ((KpG.of_below (Z := fun k o => Z k o ∨ k = lb) bW4)))
 have hyp := HY.out [] ⟨4, some ⟨W3.heap.size, 0, none⟩, 1, [wrap64 (1 - nn)]⟩ W4 hj ⟨⟨rdW4, by simp, tyW4⟩, by rw [Hfull.out]; exact ⟨_, rfl⟩⟩ (by rw [Hfull.out]; simp)
 have Htell := Lh (Z4 lb (W.heap.size + 1 + 1) W.heap.size (fun k o => Z k o ∨ k = lb) W4 ⟨4, some ⟨W3.heap.size, 0, none⟩, 1, [wrap64 (1 - nn)]⟩ (J ([] ++ [⟨4, some ⟨W3.heap.size, 0, none⟩, 1, [wrap64 (1 - nn)]⟩])) HT.out hyp)
 clear hyp hj
 refine ⟨trivial, rfl, Htell.out.mono ?_⟩
 clear Htell
 rintro e W5 ⟨⟨_, rfl⟩, hj, hkp⟩
 replace rN := (hkp).row rN zN.out
 replace HT := Lh (HT.out.kg (hkp))
 clear hkp rdW4 bW4 sz3
 have ct := rN.cellv (i := 0) (v := .int .i64 2) rfl
 have cn := rN.cellv (i := 1) (v := .int .i64 nn) rfl
 clear rN
 gi_wp2_with fail
 go_end0
 exact ⟨⟨_, rfl⟩, .inl ⟨_, by rw [Hfull.out]; rfl, hj⟩⟩
theorem AhL (A : Option Addr) (cap n bl Rb : Nat) (nn : Int) (ys : List Nd) (Z : Nat → Obj → Prop) (w : World) (hC : ListsC A cap n bl Rb ⟨1, nn⟩ ys Z w) (full : List (Int × List Int)) (hfull : full = [(4, JI nn [0, 1, -1, wrap64 (nn + 1), wrap64 (nn - 1)])]) :
 Z6 Tryz.prog 285 #[.pointer (some ⟨bl, 0, none⟩)] LsX.enc (fun _ => False) (fun lb => KpG (fun k o => Z k o ∨ k = lb)) (LsP full) (fun xs => xs.map LsX.f = full) (fun _ => True) full.length False w := by
 intro lb J Jx W hlb hwW hst hJ hJx hY h0
 replace hst : ∀ pre W', ¬ Jx pre W' := hst.resolve_left id
 have hbw : Below w.heap.size w W := ⟨hwW.os, hwW.tape, hwW.output, hwW.size, fun k hk => hwW.block k hk (by simp)⟩
 have HC := Lh hC
 have HB := Lh hbw
 have HL := Lh hlb
 have HJ := Lh hJ
 have HY : Hid (∀ pre (x : LsX) W1, J pre W1 → LsP full pre x W1 → pre.length < full.length → YieldAt Fence.wide 0 Tryz.prog lb x.enc W1 fun e W' => e = .returned (.bool true) ∧ J (pre ++ [x]) W' ∧ KpG (fun k o => Z k o ∨ k = lb) W1 W') := fun pre x W1 h1 h2 h3 => (hY pre x W1 h1 h2 h3).mono fun e W' h => by
  rcases h with h | ⟨_, h, _⟩
  · exact h
  · exact absurd h (hst _ _)
 have Hfull := Lh hfull
 clear hC hbw hlb hJ hJx hY hst hwW hfull
 refine callsIn_of_wp Tryz.func285 rfl trivial ?_ rfl
 simp only [Tryz.ntmps285, List.size_toArray, List.length_cons, List.length_nil, Nat.reduceAdd, Nat.reduceSub, Array.replicate_succ, Array.replicate_zero, List.push_toArray, List.append_toArray, List.nil_append, List.cons_append]
 obtain ⟨W1, hW1⟩ : ∃ W1, W1 = W.alloc (.cells #[.func (.yield lb) #[] #[]] 329) := ⟨_, rfl⟩
 have b1 : Below W.heap.size W W1 := by rw [hW1]; exact (Below.refl _ _).alloc (Nat.le_refl _) _
 have rl1 := (HC.out.rl.below HB.out HC.out.rl.lt).below b1 (Nat.lt_of_lt_of_le HC.out.rl.lt HB.out.size)
 have hrd := (HC.out.hr.go HB.out).go b1
 obtain ⟨ad, had, hcn⟩ := Zs hrd (k := 0) (x := ⟨1, nn⟩) rfl
 have e0 : W1.cell? ad = some (.int .i64 1) := by have := hcn 0 _ rfl; rwa [Nat.zero_mul, Ql, Ql] at this
 have e1 : W1.cell? ⟨ad.block, ad.off + 1, none⟩ = some (.int .i64 nn) := by have := hcn 1 _ rfl; rw [Nat.zero_mul, Ql] at this; exact this
 have hn0 : (0 : Int) < (n : Int) := by have := HC.out.hn; rw [this]; simp
 have cl := rl1.cellv (i := 0) (v := .slice A n cap) rfl
 rw [had] at cl
 rw [hW1] at cl e0 e1
 have Had := Lh had
 clear hcn hrd rl1 b1 hW1 had
 gi_wp2_with fail
 obtain ⟨W3, hW3⟩ : ∃ W3, W3 = ((W.alloc (.cells #[.func (.yield lb) #[] #[]] 329)).alloc (.cells #[.int .i64 1, .int .i64 nn] 85)).alloc (.cells #[.bool true] 4) := ⟨_, rfl⟩
 have hz2 : ∀ k cs t fr, W.heap.size ≤ k → (t = 329 ∨ t = 85 ∨ t = 4 ∨ t = 3) → ¬ (Z k (.cells cs t fr) ∨ k = lb) := fun k cs t fr h1 h2 h => by
  rcases h with h | h
  · exact HC.out.z2 k cs t fr (by have := HB.out.size; omega) h2 h
  · have := HL.out.2; omega
 have b3 : Below W.heap.size W W3 := by rw [hW3]; exact (((Below.refl _ _).alloc (Nat.le_refl _) _).alloc (by simp) _).alloc (by simp; omega) _
 have hT : TellC lb (W.heap.size + 1 + 1) W.heap.size (fun k o => Z k o ∨ k = lb) W3 := by
  refine ⟨?_, ?_, fun cs fr => hz2 _ _ _ _ (by omega) (by simp), fun cs fr => hz2 _ _ _ _ (by omega) (by simp)⟩
  · rw [hW3]; have := Row.new ((W.alloc (.cells #[.func (.yield lb) #[] #[]] 329)).alloc (.cells #[.int .i64 1, .int .i64 nn] 85)) 4 #[.bool true]
    simpa using this
  · rw [hW3]; exact ((Row.new W 329 #[.func (.yield lb) #[] #[]]).alloc _).alloc _
 have rN : Row W3 (W.heap.size + 1) 85 #[.int .i64 1, .int .i64 nn] := by
  rw [hW3]; have := (Row.new (W.alloc (.cells #[.func (.yield lb) #[] #[]] 329)) 85 #[.int .i64 1, .int .i64 nn]).alloc (.cells #[.bool true] 4)
  simpa using this
 have hj := Qn HJ.out h0 b3
 have sz3 : W3.heap.size = W.heap.size + 1 + 1 + 1 := by rw [hW3]; simp
 have zN : Hid (¬ (Z (W.heap.size + 1) (.cells #[.int .i64 1, .int .i64 nn] 85 (0, 0)) ∨ W.heap.size + 1 = lb)) := hz2 _ _ _ _ (by omega) (by simp)
 have HT := Lh hT
 rw [← hW3]
 have b30 := b3
 clear hW3 hz2 b3 hT h0 cl e0 e1
 obtain ⟨W3b, hW3b⟩ : ∃ V, V = W3.alloc (.cells #[.int .i64 0, .int .i64 1, .int .i64 (-1), .int .i64 (wrap64 (nn + 1)), .int .i64 (wrap64 (nn - 1))] 3) := ⟨_, rfl⟩
 have rS : Row W3b W3.heap.size 3 (Qi [0, 1, -1, wrap64 (nn + 1), wrap64 (nn - 1)]).toArray := by rw [hW3b]; exact Row.new _ _ _
 have bS : Below W3.heap.size W3 W3b := by rw [hW3b]; exact (Below.refl _ _).alloc (Nat.le_refl _) _
 rw [← hW3b, ← sz3]
 clear hW3b
 refine ⟨trivial, rfl, (callsIn_wide.2 (Acs W3.heap.size 5 W3.heap.size nn [0, 1, -1, wrap64 (nn + 1), wrap64 (nn - 1)] W3b rS (by simp) (by simp) (by unfold maxLen; omega) (Nat.le_refl _))).mono ?_⟩
 rintro e W4 ⟨A4, c4, rfl, rd4, nil4, bX, tyW4⟩
 have bW4 := bS.trans bX
 replace hj := Qn HJ.out hj bW4
 replace rN := ((KpG.of_below (Z := fun k o => Z k o ∨ k = lb) bW4)).row rN zN.out
 replace HT := Lh (HT.out.kg ((KpG.of_below (Z := fun k o => Z k o ∨ k = lb) bW4)))
 clear sz3 rS bS bX
 gi_wp2_with fail
 have hyp := HY.out [] ⟨4, A4, c4, (JI nn [0, 1, -1, wrap64 (nn + 1), wrap64 (nn - 1)])⟩ W4 hj ⟨⟨rd4, nil4, tyW4⟩, by rw [Hfull.out]; exact ⟨_, rfl⟩⟩ (by rw [Hfull.out]; simp)
 have Htell := Lh (Z4 lb (W.heap.size + 1 + 1) W.heap.size (fun k o => Z k o ∨ k = lb) W4 ⟨4, A4, c4, (JI nn [0, 1, -1, wrap64 (nn + 1), wrap64 (nn - 1)])⟩ (J ([] ++ [⟨4, A4, c4, (JI nn [0, 1, -1, wrap64 (nn + 1), wrap64 (nn - 1)])⟩])) HT.out hyp)
 clear hyp hj
 refine ⟨trivial, rfl, Htell.out.mono ?_⟩
 clear Htell
 rintro e W5 ⟨⟨_, rfl⟩, hj, hkp⟩
 replace rN := (hkp).row rN zN.out
 replace HT := Lh (HT.out.kg (hkp))
 clear hkp rd4 nil4 bW4
 have ct := rN.cellv (i := 0) (v := .int .i64 1) rfl
 have cn := rN.cellv (i := 1) (v := .int .i64 nn) rfl
 clear rN
 gi_wp2_with fail
 go_end0
 exact ⟨⟨_, rfl⟩, .inl ⟨_, by rw [Hfull.out]; rfl, hj⟩⟩
theorem AhN (A : Option Addr) (cap n bl Rb : Nat) (nn : Int) (ys : List Nd) (Z : Nat → Obj → Prop) (w : World) (hC : ListsC A cap n bl Rb ⟨25, nn⟩ ys Z w) (full : List (Int × List Int)) (hfull : full = [(5, [0]), (7, Zy (ys.headD ⟨0, 0⟩))]) :
 Z6 Tryz.prog 285 #[.pointer (some ⟨bl, 0, none⟩)] LsX.enc (fun _ => False) (fun lb => KpG (fun k o => Z k o ∨ k = lb)) (LsP full) (fun xs => xs.map LsX.f = full) (fun _ => True) full.length False w := by
 intro lb J Jx W hlb hwW hst hJ hJx hY h0
 replace hst : ∀ pre W', ¬ Jx pre W' := hst.resolve_left id
 have hbw : Below w.heap.size w W := ⟨hwW.os, hwW.tape, hwW.output, hwW.size, fun k hk => hwW.block k hk (by simp)⟩
 have HC := Lh hC
 have HB := Lh hbw
 have HL := Lh hlb
 have HJ := Lh hJ
 have HY : Hid (∀ pre (x : LsX) W1, J pre W1 → LsP full pre x W1 → pre.length < full.length → YieldAt Fence.wide 0 Tryz.prog lb x.enc W1 fun e W' => e = .returned (.bool true) ∧ J (pre ++ [x]) W' ∧ KpG (fun k o => Z k o ∨ k = lb) W1 W') := fun pre x W1 h1 h2 h3 => (hY pre x W1 h1 h2 h3).mono fun e W' h => by
  rcases h with h | ⟨_, h, _⟩
  · exact h
  · exact absurd h (hst _ _)
 have Hfull := Lh hfull
 clear hC hbw hlb hJ hJx hY hst hwW hfull
 refine callsIn_of_wp Tryz.func285 rfl trivial ?_ rfl
 simp only [Tryz.ntmps285, List.size_toArray, List.length_cons, List.length_nil, Nat.reduceAdd, Nat.reduceSub, Array.replicate_succ, Array.replicate_zero, List.push_toArray, List.append_toArray, List.nil_append, List.cons_append]
 obtain ⟨W1, hW1⟩ : ∃ W1, W1 = W.alloc (.cells #[.func (.yield lb) #[] #[]] 329) := ⟨_, rfl⟩
 have b1 : Below W.heap.size W W1 := by rw [hW1]; exact (Below.refl _ _).alloc (Nat.le_refl _) _
 have rl1 := (HC.out.rl.below HB.out HC.out.rl.lt).below b1 (Nat.lt_of_lt_of_le HC.out.rl.lt HB.out.size)
 have hrd := (HC.out.hr.go HB.out).go b1
 obtain ⟨ad, had, hcn⟩ := Zs hrd (k := 0) (x := ⟨25, nn⟩) rfl
 have e0 : W1.cell? ad = some (.int .i64 25) := by have := hcn 0 _ rfl; rwa [Nat.zero_mul, Ql, Ql] at this
 have e1 : W1.cell? ⟨ad.block, ad.off + 1, none⟩ = some (.int .i64 nn) := by have := hcn 1 _ rfl; rw [Nat.zero_mul, Ql] at this; exact this
 have hn0 : (0 : Int) < (n : Int) := by have := HC.out.hn; rw [this]; simp
 have cl := rl1.cellv (i := 0) (v := .slice A n cap) rfl
 rw [had] at cl
 rw [hW1] at cl e0 e1
 have Had := Lh had
 clear hcn hrd rl1 b1 hW1 had
 gi_wp2_with fail
 obtain ⟨W3, hW3⟩ : ∃ W3, W3 = ((W.alloc (.cells #[.func (.yield lb) #[] #[]] 329)).alloc (.cells #[.int .i64 25, .int .i64 nn] 85)).alloc (.cells #[.bool true] 4) := ⟨_, rfl⟩
 have hz2 : ∀ k cs t fr, W.heap.size ≤ k → (t = 329 ∨ t = 85 ∨ t = 4 ∨ t = 3) → ¬ (Z k (.cells cs t fr) ∨ k = lb) := fun k cs t fr h1 h2 h => by
  rcases h with h | h
  · exact HC.out.z2 k cs t fr (by have := HB.out.size; omega) h2 h
  · have := HL.out.2; omega
 have b3 : Below W.heap.size W W3 := by rw [hW3]; exact (((Below.refl _ _).alloc (Nat.le_refl _) _).alloc (by simp) _).alloc (by simp; omega) _
 have hT : TellC lb (W.heap.size + 1 + 1) W.heap.size (fun k o => Z k o ∨ k = lb) W3 := by
  refine ⟨?_, ?_, fun cs fr => hz2 _ _ _ _ (by omega) (by simp), fun cs fr => hz2 _ _ _ _ (by omega) (by simp)⟩
  · rw [hW3]; have := Row.new ((W.alloc (.cells #[.func (.yield lb) #[] #[]] 329)).alloc (.cells #[.int .i64 25, .int .i64 nn] 85)) 4 #[.bool true]
    simpa using this
  · rw [hW3]; exact ((Row.new W 329 #[.func (.yield lb) #[] #[]]).alloc _).alloc _
 have rN : Row W3 (W.heap.size + 1) 85 #[.int .i64 25, .int .i64 nn] := by
  rw [hW3]; have := (Row.new (W.alloc (.cells #[.func (.yield lb) #[] #[]] 329)) 85 #[.int .i64 25, .int .i64 nn]).alloc (.cells #[.bool true] 4)
  simpa using this
 have hj := Qn HJ.out h0 b3
 have sz3 : W3.heap.size = W.heap.size + 1 + 1 + 1 := by rw [hW3]; simp
 have zN : Hid (¬ (Z (W.heap.size + 1) (.cells #[.int .i64 25, .int .i64 nn] 85 (0, 0)) ∨ W.heap.size + 1 = lb)) := hz2 _ _ _ _ (by omega) (by simp)
 have HT := Lh hT
 rw [← hW3]
 have b30 := b3
 clear hW3 hz2 b3 hT h0 cl e0 e1
 obtain ⟨W4, hW4⟩ : ∃ V, V = (W3).alloc (.cells #[.int .i64 0] 3) := ⟨_, rfl⟩
 have bW4 : Below (W3).heap.size W3 W4 := by rw [hW4]; exact (Below.refl _ _).alloc (Nat.le_refl _) _
 have rdW4 : Rd W4 (some ⟨(W3).heap.size, 0, none⟩) (Qi [0]) := by rw [hW4]; exact ZZ _ _ _
 have tyW4 : IntB W4 (some ⟨(W3).heap.size, 0, none⟩) := fun a e => by injection e with e; subst e; rw [hW4]; exact ⟨_, Row.new _ _ _⟩
 rw [← hW4]
 clear hW4
 rw [← sz3]
 replace hj := Qn HJ.out hj bW4
 replace rN := ((KpG.of_below (Z := fun k o => Z k o ∨ k = lb) bW4)).row rN zN.out
 replace HT := Lh (HT.out.kg ((KpG.of_below (Z := fun k o => Z k o ∨ k = lb) bW4)))
 have hyp := HY.out [] ⟨5, some ⟨W3.heap.size, 0, none⟩, 1, [0]⟩ W4 hj ⟨⟨rdW4, by simp, tyW4⟩, by rw [Hfull.out]; exact ⟨_, rfl⟩⟩ (by rw [Hfull.out]; simp)
 have Htell := Lh (Z4 lb (W.heap.size + 1 + 1) W.heap.size (fun k o => Z k o ∨ k = lb) W4 ⟨5, some ⟨W3.heap.size, 0, none⟩, 1, [0]⟩ (J ([] ++ [⟨5, some ⟨W3.heap.size, 0, none⟩, 1, [0]⟩])) HT.out hyp)
 clear hyp hj
 refine ⟨trivial, rfl, Htell.out.mono ?_⟩
 clear Htell
 rintro e W5 ⟨⟨_, rfl⟩, hj, hkp⟩
 replace rN := (hkp).row rN zN.out
 replace HT := Lh (HT.out.kg (hkp))
 have hzl : ∀ k o, k < w.heap.size → k ≠ Rb → ¬ (Z k o ∨ k = lb) := fun k o h1 h2 h => by
  rcases h with h | h
  · exact HC.out.z1 k o h1 h2 h
  · have := HL.out.1; omega
 have rl5 := hkp.row (HC.out.rl.below (HB.out.trans (b30.trans (bW4.mono b30.size) |>.mono HB.out.size)) HC.out.rl.lt) (hzl _ _ HC.out.rl.lt HC.out.bn)
 have hne : ((⟨25, nn⟩ :: ys : List Nd).flatMap Nd.cells) ≠ [] := by simp [Nd.cells]
 have hr5 := hkp.rd (HC.out.hr.go (HB.out.trans (b30.trans (bW4.mono b30.size) |>.mono HB.out.size))) (fun hn a e o => hzl _ _ (Xk HC.out.hr hn e) (HC.out.an a e))
 obtain ⟨y, ys', rfl⟩ : ∃ y ys', ys = y :: ys' := by
  cases ys with
  | nil => exact absurd rfl (HC.out.h25 rfl)
  | cons y ys' => exact ⟨y, ys', rfl⟩
 obtain ⟨ad5, had5, hcn5⟩ := Zs hr5 (k := 1) (x := y) rfl
 obtain rfl : ad = ad5 := by rw [Had.out] at had5; injection had5
 have cl5 := rl5.cellv (i := 0) (v := .slice A n cap) rfl
 rw [Had.out] at cl5
 have e50 : W5.cell? ⟨ad.block, ad.off + 2, none⟩ = some (.int .i64 y.tag) := by have := hcn5 0 _ rfl; rw [Nat.one_mul, Ql] at this; exact this
 have e51 : W5.cell? ⟨ad.block, ad.off + 2 + 1, none⟩ = some (.int .i64 y.n) := by have := hcn5 1 _ rfl; rw [Nat.one_mul] at this; exact this
 have hn1 : (1 : Int) < (n : Int) := by have := HC.out.hn; rw [this]; simp; omega
 clear hkp rdW4 bW4 sz3 b30 hzl rl5 hne hr5 had5 hcn5
 have ct := rN.cellv (i := 0) (v := .int .i64 25) rfl
 gi_wp2_with fail
 refine ⟨trivial, rfl, (callsIn_wide.2 (Abq y W5)).mono ?_⟩
 rintro e W6 ⟨A6, c6, rfl, rd6, nil6, bW6, tyW6⟩
 replace hj := Qn HJ.out hj bW6
 clear ct cl5 e50 e51
 replace rN := ((KpG.of_below (Z := fun k o => Z k o ∨ k = lb) bW6)).row rN zN.out
 replace HT := Lh (HT.out.kg ((KpG.of_below (Z := fun k o => Z k o ∨ k = lb) bW6)))
 gi_wp2_with fail
 have hyp := HY.out [⟨5, some ⟨W3.heap.size, 0, none⟩, 1, [0]⟩] ⟨7, A6, c6, (Zy y)⟩ W6 hj ⟨⟨rd6, nil6, tyW6⟩, by rw [Hfull.out]; exact ⟨_, rfl⟩⟩ (by rw [Hfull.out]; simp)
 have Htell := Lh (Z4 lb (W.heap.size + 1 + 1) W.heap.size (fun k o => Z k o ∨ k = lb) W6 ⟨7, A6, c6, (Zy y)⟩ (J ([⟨5, some ⟨W3.heap.size, 0, none⟩, 1, [0]⟩] ++ [⟨7, A6, c6, (Zy y)⟩])) HT.out hyp)
 clear hyp hj
 refine ⟨trivial, rfl, Htell.out.mono ?_⟩
 clear Htell
 rintro e W7 ⟨⟨_, rfl⟩, hj, hkp⟩
 replace rN := (hkp).row rN zN.out
 replace HT := Lh (HT.out.kg (hkp))
 clear hkp rd6 nil6 bW6
 have ct := rN.cellv (i := 0) (v := .int .i64 25) rfl
 have cn := rN.cellv (i := 1) (v := .int .i64 nn) rfl
 clear rN
 gi_wp2_with fail
 go_end0
 exact ⟨⟨_, rfl⟩, .inl ⟨_, by rw [Hfull.out]; rfl, hj⟩⟩
theorem Adv (A : Option Addr) (cap n bl Rb : Nat) (x : Nd) (ys : List Nd) (Z : Nat → Obj → Prop) (w : World) (hC : ListsC A cap n bl Rb x ys Z w) (h1 : 1 ≤ x.tag) (h2 : x.tag ≤ 26) :
 Z6 Tryz.prog 285 #[.pointer (some ⟨bl, 0, none⟩)] LsX.enc (fun _ => False) (fun lb => KpG (fun k o => Z k o ∨ k = lb)) (LsP (Zu x (ys.headD ⟨0, 0⟩))) (fun xs => xs.map LsX.f = Zu x (ys.headD ⟨0, 0⟩)) (fun _ => True) (Zu x (ys.headD ⟨0, 0⟩)).length False w := by
 obtain ⟨tag, nn⟩ := x
 simp only at h1 h2
 by_cases ha : 7 ≤ tag ∧ tag ≤ 11
 · exact AhJ A cap n bl Rb tag nn ys Z w hC _ (by simp [Zu, ha, show ¬ tag = 21 by omega, show ¬ tag = 22 by omega, show ¬ tag = 23 by omega, show ¬ tag = 24 by omega, show ¬ tag = 25 by omega]) ha.1 ha.2
 by_cases hb : 12 ≤ tag ∧ tag ≤ 17
 · exact AhK A cap n bl Rb tag nn ys Z w hC _ (by simp [Zu, ha, hb, show ¬ tag = 21 by omega, show ¬ tag = 22 by omega, show ¬ tag = 23 by omega, show ¬ tag = 24 by omega, show ¬ tag = 25 by omega]) hb.1 hb.2
 have hcs : tag = 1 ∨ tag = 2 ∨ tag = 3 ∨ tag = 4 ∨ tag = 5 ∨ tag = 6 ∨ tag = 18 ∨ tag = 19 ∨ tag = 20 ∨ tag = 21 ∨ tag = 22 ∨ tag = 23 ∨ tag = 24 ∨ tag = 25 ∨ tag = 26 := by omega
 rcases hcs with rfl | rfl | rfl | rfl | rfl | rfl | rfl | rfl | rfl | rfl | rfl | rfl | rfl | rfl | rfl
 · exact AhL A cap n bl Rb nn ys Z w hC _ (by simp [Zu])
 · exact AhM A cap n bl Rb nn ys Z w hC _ (by simp [Zu])
 · exact Agi A cap n bl Rb nn ys Z w hC _ (by simp [Zu])
 · exact Agj A cap n bl Rb nn ys Z w hC _ (by simp [Zu])
 · exact Agk A cap n bl Rb nn ys Z w hC _ (by simp [Zu])
 · exact Agl A cap n bl Rb nn ys Z w hC _ (by simp [Zu])
 · exact Ae6 A cap n bl Rb nn ys Z w hC _ (by simp [Zu])
 · exact Ae7 A cap n bl Rb nn ys Z w hC _ (by simp [Zu])
 · exact Afc A cap n bl Rb nn ys Z w hC _ (by simp [Zu])
 · exact Ae8 A cap n bl Rb nn ys Z w hC _ (by simp [Zu])
 · exact Ae9 A cap n bl Rb nn ys Z w hC _ (by simp [Zu])
 · exact Afa A cap n bl Rb nn ys Z w hC _ (by simp [Zu])
 · exact Afb A cap n bl Rb nn ys Z w hC _ (by simp [Zu])
 · exact AhN A cap n bl Rb nn ys Z w hC _ (by simp [Zu])
 · exact Afd A cap n bl Rb nn ys Z w hC _ (by simp [Zu])
end Go.Proofs.YtdcmppdhdcjpfaaGreat
