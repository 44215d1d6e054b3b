/- Lemmas for VerdictTellsP. -/
import Derived.Test.YtdcmppdhdcjpfaaGreatZz1
import Derived.Test.YtdcmppdhdcjpfaaGreatZz15
set_option linter.unusedVariables false
set_option linter.unusedSimpArgs false
set_option maxRecDepth 100000
set_option maxHeartbeats 16000000
namespace Go.Proofs.YtdcmppdhdcjpfaaGreat
open Go.RowKit Go.Deep
attribute [local go_sem] Oper.semAt_some
theorem AfX (A : Option Addr) (cap n bl Rb : Nat) (tag : Int) (nn : Int) (ys : List Nd) (Z : Nat → Obj → Prop) (w : World) (hC : ListsC A cap n bl Rb ⟨tag, nn⟩ ys Z w) (full : List (Int × List Int))
 (hc : (7 ≤ tag ∧ tag ≤ 11 ∧ full = [(1, Jy 7 11 tag)]) ∨ (12 ≤ tag ∧ tag ≤ 17 ∧ full = [(2, Jy 12 17 tag)]) ∨ (tag = 18 ∧ full = [(3, Jy 18 19 18)]) ∨ (tag = 19 ∧ full = [(3, Jy 18 19 19)]) ∨ ((tag = 21 ∨ tag = 22) ∧ full = [(5, [0])]) ∨ ((tag = 23 ∨ tag = 24) ∧ full = [(5, [0]), (6, [0])]) ∨ (tag = 2 ∧ full = [(4, [wrap64 (1 - nn)])]) ∨
  (tag = 1 ∧ full = [(4, JX nn [0, 1, -1, wrap64 (nn + 1), wrap64 (nn - 1)])]) ∨ (tag = 25 ∧ full = [(5, [0]), (7, Zy (ys.headD ⟨0, 0⟩))]) ∨ ((tag = 3 ∨ tag = 4 ∨ tag = 5 ∨ tag = 6 ∨ tag = 20 ∨ tag = 26) ∧ full = [])) :
 VK Tryz.prog 285 #[.pointer (some ⟨bl, 0, none⟩)] LsX.enc (fun _ => False) (fun lb => KpG (fun k o => Z k o ∨ k = lb)) (LsP full) (fun xs => xs.map LsX.f = full) (fun _ => True) full.length False w := by
 intro lb J Jx W a7 aq av hJ bg hY h0;replace av : ∀ ak W', ¬ Jx ak W' := av.resolve_left id;have a6 : Below w.heap.size w W := ⟨aq.os, aq.tape, aq.output, aq.size, fun k hk => aq.block k hk (by simp)⟩;have HC := Lh hC;have HB := Lh a6;have HL := Lh a7;have HJ := Lh hJ
 have HY : Hid (∀ ak (x : LsX) W1, J ak W1 → LsP full ak x W1 → ak.length < full.length → YieldAt Fence.wide 0 Tryz.prog lb x.enc W1 fun e W' => e = .returned (.bool true) ∧ J (ak ++ [x]) W' ∧ KpG (fun k o => Z k o ∨ k = lb) W1 W') := fun ak x W1 h1 h2 h3 => (hY ak x W1 h1 h2 h3).mono fun e W' h => by
  rcases h with h | ⟨_, h, _⟩
  · exact h
  · exact absurd h (av _ _)
 clear hC a6 a7 hJ bg hY av aq;refine callsIn_of_wp Tryz.func285 rfl trivial ?_ rfl;simp only [Tryz.ntmps285, Lk, Lc, Lr, Nat.reduceAdd, Nat.reduceSub, Ll, Lm, Lu, L7, Lp, Ln];obtain ⟨W1, a0⟩ : ∃ W1, W1 = W.alloc (.cells #[.func (.yield lb) #[] #[]] 329) := ⟨_, rfl⟩;have b1 : Below W.heap.size W W1 := by rw [a0]; exact (Below.refl _ _).alloc (Nat.le_refl _) _
 have bb := (HC.out.rl.below HB.out HC.out.rl.lt).below b1 (Ld HC.out.rl.lt HB.out.size);have a9 := (HC.out.hr.go HB.out).go b1;obtain ⟨ad, a1, a2⟩ := Z9 a9 (k := 0) (x := ⟨tag, nn⟩) rfl;have e0 : W1.cell? ad = some (.int .i64 tag) := by have := a2 0 _ rfl; rwa [NF, KO, KO] at this
 have e1 : W1.cell? ⟨ad.block, ad.off + 1, none⟩ = some (.int .i64 nn) := by have := a2 1 _ rfl; rw [NF, KO] at this; exact this
 have bi : (0 : Int) < (n : Int) := by have := HC.out.hn; rw [this]; simp
 have cl := bb.cellv (i := 0) (v := .slice A n cap) rfl;rw [a1] at cl;rw [a0] at cl e0 e1;have a4 := Lh a1;clear a2 a9 bb b1 a0 a1;obtain ⟨s, ao⟩ : ∃ s, s = ((W.alloc (.cells #[.func (.yield lb) #[] #[]] 329)).alloc (.cells #[.int .i64 tag, .int .i64 nn] 85)).alloc (.cells #[.bool true] 4) := ⟨_, rfl⟩
 have aw : ∀ k cs t fr, W.heap.size ≤ k → (t = 329 ∨ t = 85 ∨ t = 4 ∨ t = 3) → ¬ (Z k (.cells cs t fr) ∨ k = lb) := fun k cs t fr h1 h2 h => by
  rcases h with h | h
  · exact HC.out.z2 k cs t fr (by have := HB.out.size; omega) h2 h
  · have := HL.out.2; omega
 have b3 : Below W.heap.size W s := by rw [ao]; exact (((Below.refl _ _).alloc (Nat.le_refl _) _).alloc (by simp) _).alloc (by simp; omega) _
 have hT : TellC lb (W.heap.size + 1 + 1) W.heap.size (fun k o => Z k o ∨ k = lb) s := by
  refine ⟨?_, ?_, fun cs fr => aw _ _ _ _ (by omega) (by simp), fun cs fr => aw _ _ _ _ (by omega) (by simp)⟩
  · rw [ao]; have := Row.new ((W.alloc (.cells #[.func (.yield lb) #[] #[]] 329)).alloc (.cells #[.int .i64 tag, .int .i64 nn] 85)) 4 #[.bool true];simpa using this
  · rw [ao]; exact ((Row.new W 329 #[.func (.yield lb) #[] #[]]).alloc _).alloc _
 have l : Row s (W.heap.size + 1) 85 #[.int .i64 tag, .int .i64 nn] := by
  rw [ao]; have := (Row.new (W.alloc (.cells #[.func (.yield lb) #[] #[]] 329)) 85 #[.int .i64 tag, .int .i64 nn]).alloc (.cells #[.bool true] 4);simpa using this
 have m := QF HJ.out h0 b3;have z : s.heap.size = W.heap.size + 1 + 1 + 1 := by rw [ao]; simp
 have zN : Hid (¬ (Z (W.heap.size + 1) (.cells #[.int .i64 tag, .int .i64 nn] 85 (0, 0)) ∨ W.heap.size + 1 = lb)) := aw _ _ _ _ (by omega) (by simp);have r := Lh hT;have RN := Lh l;have ae := Lh z;have B3 := Lh b3;have ab := Lh m;have ac := Lh ao;have H0 := Lh h0;clear aw b3 hT l z m ao h0;rcases hc with ⟨h1, h2, d⟩ | ⟨h1, h2, d⟩ | ⟨rfl, d⟩ | ⟨rfl, d⟩ | ⟨rfl | rfl, d⟩ | ⟨rfl | rfl, d⟩ | ⟨rfl, d⟩ | ⟨rfl, d⟩ | ⟨rfl, d⟩ | ⟨rfl | rfl | rfl | rfl | rfl | rfl, d⟩
 · skip;have b := Lh d;clear d;gi_wp2_with fail
   rw [← ac.out];have l := RN.out;have z := ae.out;have ag := B3.out;have m := ab.out;clear ac RN ae B3 ab H0 cl e0 e1;refine ⟨trivial, rfl, (callsIn_wide.2 (VF 7 11 tag s (by omega) (by omega) (by omega))).mono ?_⟩;rintro e W4 ⟨A4, c4, rfl, ai, af, j, u⟩;replace m := QF HJ.out m j;replace l := ((KpG.of_below (Z := fun k o => Z k o ∨ k = lb) j)).row l zN.out;replace r := Lh (r.out.kg ((KpG.of_below (Z := fun k o => Z k o ∨ k = lb) j)));clear z;gi_wp2_with fail
   have p := HY.out [] ⟨1, A4, c4, (Jy 7 11 tag)⟩ W4 m ⟨⟨ai, af, u⟩, by rw [b.out]; exact ⟨_, rfl⟩⟩ (by rw [b.out]; simp);have c := Lh (Jn lb (W.heap.size + 1 + 1) W.heap.size (fun k o => Z k o ∨ k = lb) W4 ⟨1, A4, c4, (Jy 7 11 tag)⟩ (J ([] ++ [⟨1, A4, c4, (Jy 7 11 tag)⟩])) r.out p);clear p m;refine ⟨trivial, rfl, c.out.mono ?_⟩;clear c;rintro e W5 ⟨⟨_, rfl⟩, m, g⟩;replace l := (g).row l zN.out;replace r := Lh (r.out.kg (g));clear g ai af j;have ct := l.cellv (i := 0) (v := .int .i64 _) rfl;have cn := l.cellv (i := 1) (v := .int .i64 nn) rfl;clear l;gi_wp2_with fail
   go_end0
   exact ⟨⟨_, rfl⟩, .inl ⟨_, by rw [b.out]; rfl, m⟩⟩
 · skip;have b := Lh d;clear d;gi_wp2_with fail
   rw [← ac.out];have l := RN.out;have z := ae.out;have ag := B3.out;have m := ab.out;clear ac RN ae B3 ab H0 cl e0 e1;refine ⟨trivial, rfl, (callsIn_wide.2 (VF 12 17 tag s (by omega) (by omega) (by omega))).mono ?_⟩;rintro e W4 ⟨A4, c4, rfl, ai, af, j, u⟩;replace m := QF HJ.out m j;replace l := ((KpG.of_below (Z := fun k o => Z k o ∨ k = lb) j)).row l zN.out;replace r := Lh (r.out.kg ((KpG.of_below (Z := fun k o => Z k o ∨ k = lb) j)));clear z;gi_wp2_with fail
   have p := HY.out [] ⟨2, A4, c4, (Jy 12 17 tag)⟩ W4 m ⟨⟨ai, af, u⟩, by rw [b.out]; exact ⟨_, rfl⟩⟩ (by rw [b.out]; simp);have c := Lh (Jn lb (W.heap.size + 1 + 1) W.heap.size (fun k o => Z k o ∨ k = lb) W4 ⟨2, A4, c4, (Jy 12 17 tag)⟩ (J ([] ++ [⟨2, A4, c4, (Jy 12 17 tag)⟩])) r.out p);clear p m;refine ⟨trivial, rfl, c.out.mono ?_⟩;clear c;rintro e W5 ⟨⟨_, rfl⟩, m, g⟩;replace l := (g).row l zN.out;replace r := Lh (r.out.kg (g));clear g ai af j;have ct := l.cellv (i := 0) (v := .int .i64 _) rfl;have cn := l.cellv (i := 1) (v := .int .i64 nn) rfl;clear l;gi_wp2_with fail
   go_end0
   exact ⟨⟨_, rfl⟩, .inl ⟨_, by rw [b.out]; rfl, m⟩⟩
 · skip;have b := Lh d;clear d;gi_wp2_with fail
   rw [← ac.out];have l := RN.out;have z := ae.out;have ag := B3.out;have m := ab.out;clear ac RN ae B3 ab H0 cl e0 e1;refine ⟨trivial, rfl, (callsIn_wide.2 (VF 18 19 18 s (by omega) (by omega) (by omega))).mono ?_⟩;rintro e W4 ⟨A4, c4, rfl, ai, af, j, u⟩;replace m := QF HJ.out m j;replace l := ((KpG.of_below (Z := fun k o => Z k o ∨ k = lb) j)).row l zN.out;replace r := Lh (r.out.kg ((KpG.of_below (Z := fun k o => Z k o ∨ k = lb) j)));clear z;gi_wp2_with fail
   have p := HY.out [] ⟨3, A4, c4, (Jy 18 19 18)⟩ W4 m ⟨⟨ai, af, u⟩, by rw [b.out]; exact ⟨_, rfl⟩⟩ (by rw [b.out]; simp);have c := Lh (Jn lb (W.heap.size + 1 + 1) W.heap.size (fun k o => Z k o ∨ k = lb) W4 ⟨3, A4, c4, (Jy 18 19 18)⟩ (J ([] ++ [⟨3, A4, c4, (Jy 18 19 18)⟩])) r.out p);clear p m;refine ⟨trivial, rfl, c.out.mono ?_⟩;clear c;rintro e W5 ⟨⟨_, rfl⟩, m, g⟩;replace l := (g).row l zN.out;replace r := Lh (r.out.kg (g));clear g ai af j;have ct := l.cellv (i := 0) (v := .int .i64 _) rfl;have cn := l.cellv (i := 1) (v := .int .i64 nn) rfl;clear l;gi_wp2_with fail
   go_end0
   exact ⟨⟨_, rfl⟩, .inl ⟨_, by rw [b.out]; rfl, m⟩⟩
 · skip;have b := Lh d;clear d;gi_wp2_with fail
   rw [← ac.out];have l := RN.out;have z := ae.out;have ag := B3.out;have m := ab.out;clear ac RN ae B3 ab H0 cl e0 e1;refine ⟨trivial, rfl, (callsIn_wide.2 (VF 18 19 19 s (by omega) (by omega) (by omega))).mono ?_⟩;rintro e W4 ⟨A4, c4, rfl, ai, af, j, u⟩;replace m := QF HJ.out m j;replace l := ((KpG.of_below (Z := fun k o => Z k o ∨ k = lb) j)).row l zN.out;replace r := Lh (r.out.kg ((KpG.of_below (Z := fun k o => Z k o ∨ k = lb) j)));clear z;gi_wp2_with fail
   have p := HY.out [] ⟨3, A4, c4, (Jy 18 19 19)⟩ W4 m ⟨⟨ai, af, u⟩, by rw [b.out]; exact ⟨_, rfl⟩⟩ (by rw [b.out]; simp);have c := Lh (Jn lb (W.heap.size + 1 + 1) W.heap.size (fun k o => Z k o ∨ k = lb) W4 ⟨3, A4, c4, (Jy 18 19 19)⟩ (J ([] ++ [⟨3, A4, c4, (Jy 18 19 19)⟩])) r.out p);clear p m;refine ⟨trivial, rfl, c.out.mono ?_⟩;clear c;rintro e W5 ⟨⟨_, rfl⟩, m, g⟩;replace l := (g).row l zN.out;replace r := Lh (r.out.kg (g));clear g ai af j;have ct := l.cellv (i := 0) (v := .int .i64 _) rfl;have cn := l.cellv (i := 1) (v := .int .i64 nn) rfl;clear l;gi_wp2_with fail
   go_end0
   exact ⟨⟨_, rfl⟩, .inl ⟨_, by rw [b.out]; rfl, m⟩⟩
 · skip;have b := Lh d;clear d;gi_wp2_with fail
   rw [← ac.out];have l := RN.out;have z := ae.out;have ag := B3.out;have m := ab.out;clear ac RN ae B3 ab H0 cl e0 e1;obtain ⟨W4, q⟩ : ∃ V, V = (s).alloc (.cells #[.int .i64 0] 3) := ⟨_, rfl⟩;have j : Below (s).heap.size s W4 := by rw [q]; exact (Below.refl _ _).alloc (Nat.le_refl _) _
   have aa : Rd W4 (some ⟨(s).heap.size, 0, none⟩) (Qi [0]) := by rw [q]; exact Zm _ _ _
   have u : IntB W4 (some ⟨(s).heap.size, 0, none⟩) := fun a e => by injection e with e; subst e; rw [q]; exact ⟨_, Row.new _ _ _⟩
   rw [← q];clear q;rw [← z];replace m := QF HJ.out m j;replace l := ((KpG.of_below (Z := fun k o => Z k o ∨ k = lb) j)).row l zN.out;replace r := Lh (r.out.kg ((KpG.of_below (Z := fun k o => Z k o ∨ k = lb) j)));have p := HY.out [] ⟨5, some ⟨s.heap.size, 0, none⟩, 1, [0]⟩ W4 m ⟨⟨aa, by simp, u⟩, by rw [b.out]; exact ⟨_, rfl⟩⟩ (by rw [b.out]; simp);have c := Lh (Jn lb (W.heap.size + 1 + 1) W.heap.size (fun k o => Z k o ∨ k = lb) W4 ⟨5, some ⟨s.heap.size, 0, none⟩, 1, [0]⟩ (J ([] ++ [⟨5, some ⟨s.heap.size, 0, none⟩, 1, [0]⟩])) r.out p);clear p m;refine ⟨trivial, rfl, c.out.mono ?_⟩;clear c;rintro e W5 ⟨⟨_, rfl⟩, m, g⟩;replace l := (g).row l zN.out;replace r := Lh (r.out.kg (g));clear g aa j z ag;have ct := l.cellv (i := 0) (v := .int .i64 _) rfl;have cn := l.cellv (i := 1) (v := .int .i64 nn) rfl;clear l;gi_wp2_with fail
   go_end0
   exact ⟨⟨_, rfl⟩, .inl ⟨_, by rw [b.out]; rfl, m⟩⟩
 · skip;have b := Lh d;clear d;gi_wp2_with fail
   rw [← ac.out];have l := RN.out;have z := ae.out;have ag := B3.out;have m := ab.out;clear ac RN ae B3 ab H0 cl e0 e1;obtain ⟨W4, q⟩ : ∃ V, V = (s).alloc (.cells #[.int .i64 0] 3) := ⟨_, rfl⟩;have j : Below (s).heap.size s W4 := by rw [q]; exact (Below.refl _ _).alloc (Nat.le_refl _) _
   have aa : Rd W4 (some ⟨(s).heap.size, 0, none⟩) (Qi [0]) := by rw [q]; exact Zm _ _ _
   have u : IntB W4 (some ⟨(s).heap.size, 0, none⟩) := fun a e => by injection e with e; subst e; rw [q]; exact ⟨_, Row.new _ _ _⟩
   rw [← q];clear q;rw [← z];replace m := QF HJ.out m j;replace l := ((KpG.of_below (Z := fun k o => Z k o ∨ k = lb) j)).row l zN.out;replace r := Lh (r.out.kg ((KpG.of_below (Z := fun k o => Z k o ∨ k = lb) j)));have p := HY.out [] ⟨5, some ⟨s.heap.size, 0, none⟩, 1, [0]⟩ W4 m ⟨⟨aa, by simp, u⟩, by rw [b.out]; exact ⟨_, rfl⟩⟩ (by rw [b.out]; simp);have c := Lh (Jn lb (W.heap.size + 1 + 1) W.heap.size (fun k o => Z k o ∨ k = lb) W4 ⟨5, some ⟨s.heap.size, 0, none⟩, 1, [0]⟩ (J ([] ++ [⟨5, some ⟨s.heap.size, 0, none⟩, 1, [0]⟩])) r.out p);clear p m;refine ⟨trivial, rfl, c.out.mono ?_⟩;clear c;rintro e W5 ⟨⟨_, rfl⟩, m, g⟩;replace l := (g).row l zN.out;replace r := Lh (r.out.kg (g));clear g aa j z ag;have ct := l.cellv (i := 0) (v := .int .i64 _) rfl;have cn := l.cellv (i := 1) (v := .int .i64 nn) rfl;clear l;gi_wp2_with fail
   go_end0
   exact ⟨⟨_, rfl⟩, .inl ⟨_, by rw [b.out]; rfl, m⟩⟩
 · skip;have b := Lh d;clear d;gi_wp2_with fail
   rw [← ac.out];have l := RN.out;have z := ae.out;have ag := B3.out;have m := ab.out;clear ac RN ae B3 ab H0 cl e0 e1;obtain ⟨W4, q⟩ : ∃ V, V = (s).alloc (.cells #[.int .i64 0] 3) := ⟨_, rfl⟩;have j : Below (s).heap.size s W4 := by rw [q]; exact (Below.refl _ _).alloc (Nat.le_refl _) _
   have aa : Rd W4 (some ⟨(s).heap.size, 0, none⟩) (Qi [0]) := by rw [q]; exact Zm _ _ _
   have u : IntB W4 (some ⟨(s).heap.size, 0, none⟩) := fun a e => by injection e with e; subst e; rw [q]; exact ⟨_, Row.new _ _ _⟩
   rw [← q];clear q;rw [← z];replace m := QF HJ.out m j;replace l := ((KpG.of_below (Z := fun k o => Z k o ∨ k = lb) j)).row l zN.out;replace r := Lh (r.out.kg ((KpG.of_below (Z := fun k o => Z k o ∨ k = lb) j)));have p := HY.out [] ⟨5, some ⟨s.heap.size, 0, none⟩, 1, [0]⟩ W4 m ⟨⟨aa, by simp, u⟩, by rw [b.out]; exact ⟨_, rfl⟩⟩ (by rw [b.out]; simp);have c := Lh (Jn lb (W.heap.size + 1 + 1) W.heap.size (fun k o => Z k o ∨ k = lb) W4 ⟨5, some ⟨s.heap.size, 0, none⟩, 1, [0]⟩ (J ([] ++ [⟨5, some ⟨s.heap.size, 0, none⟩, 1, [0]⟩])) r.out p);clear p m;refine ⟨trivial, rfl, c.out.mono ?_⟩;clear c;rintro e W5 ⟨⟨_, rfl⟩, m, g⟩;replace l := (g).row l zN.out;replace r := Lh (r.out.kg (g));clear g;have ct := l.cellv (i := 0) (v := .int .i64 _) rfl;gi_wp2_with fail
   obtain ⟨W6, aj⟩ : ∃ V, V = (W5).alloc (.cells #[.int .i64 0] 3) := ⟨_, rfl⟩;have ah : Below (W5).heap.size W5 W6 := by rw [aj]; exact (Below.refl _ _).alloc (Nat.le_refl _) _
   have al : Rd W6 (some ⟨(W5).heap.size, 0, none⟩) (Qi [0]) := by rw [aj]; exact Zm _ _ _
   have am : IntB W6 (some ⟨(W5).heap.size, 0, none⟩) := fun a e => by injection e with e; subst e; rw [aj]; exact ⟨_, Row.new _ _ _⟩
   rw [← aj];clear aj;replace m := QF HJ.out m ah;clear ct;replace l := ((KpG.of_below (Z := fun k o => Z k o ∨ k = lb) ah)).row l zN.out;replace r := Lh (r.out.kg ((KpG.of_below (Z := fun k o => Z k o ∨ k = lb) ah)));have p := HY.out [⟨5, some ⟨s.heap.size, 0, none⟩, 1, [0]⟩] ⟨6, some ⟨W5.heap.size, 0, none⟩, 1, [0]⟩ W6 m ⟨⟨al, by simp, am⟩, by rw [b.out]; exact ⟨_, rfl⟩⟩ (by rw [b.out]; simp);have c := Lh (Jn lb (W.heap.size + 1 + 1) W.heap.size (fun k o => Z k o ∨ k = lb) W6 ⟨6, some ⟨W5.heap.size, 0, none⟩, 1, [0]⟩ (J ([⟨5, some ⟨s.heap.size, 0, none⟩, 1, [0]⟩] ++ [⟨6, some ⟨W5.heap.size, 0, none⟩, 1, [0]⟩])) r.out p);clear p m;refine ⟨trivial, rfl, c.out.mono ?_⟩;clear c;rintro e W7 ⟨⟨_, rfl⟩, m, g⟩;replace l := (g).row l zN.out;replace r := Lh (r.out.kg (g));clear g aa j z al ah;have ct := l.cellv (i := 0) (v := .int .i64 _) rfl;have cn := l.cellv (i := 1) (v := .int .i64 nn) rfl;clear l;gi_wp2_with fail
   go_end0
   exact ⟨⟨_, rfl⟩, .inl ⟨_, by rw [b.out]; rfl, m⟩⟩
 · skip;have b := Lh d;clear d;gi_wp2_with fail
   rw [← ac.out];have l := RN.out;have z := ae.out;have ag := B3.out;have m := ab.out;clear ac RN ae B3 ab H0 cl e0 e1;obtain ⟨W4, q⟩ : ∃ V, V = (s).alloc (.cells #[.int .i64 0] 3) := ⟨_, rfl⟩;have j : Below (s).heap.size s W4 := by rw [q]; exact (Below.refl _ _).alloc (Nat.le_refl _) _
   have aa : Rd W4 (some ⟨(s).heap.size, 0, none⟩) (Qi [0]) := by rw [q]; exact Zm _ _ _
   have u : IntB W4 (some ⟨(s).heap.size, 0, none⟩) := fun a e => by injection e with e; subst e; rw [q]; exact ⟨_, Row.new _ _ _⟩
   rw [← q];clear q;rw [← z];replace m := QF HJ.out m j;replace l := ((KpG.of_below (Z := fun k o => Z k o ∨ k = lb) j)).row l zN.out;replace r := Lh (r.out.kg ((KpG.of_below (Z := fun k o => Z k o ∨ k = lb) j)));have p := HY.out [] ⟨5, some ⟨s.heap.size, 0, none⟩, 1, [0]⟩ W4 m ⟨⟨aa, by simp, u⟩, by rw [b.out]; exact ⟨_, rfl⟩⟩ (by rw [b.out]; simp);have c := Lh (Jn lb (W.heap.size + 1 + 1) W.heap.size (fun k o => Z k o ∨ k = lb) W4 ⟨5, some ⟨s.heap.size, 0, none⟩, 1, [0]⟩ (J ([] ++ [⟨5, some ⟨s.heap.size, 0, none⟩, 1, [0]⟩])) r.out p);clear p m;refine ⟨trivial, rfl, c.out.mono ?_⟩;clear c;rintro e W5 ⟨⟨_, rfl⟩, m, g⟩;replace l := (g).row l zN.out;replace r := Lh (r.out.kg (g));clear g;have ct := l.cellv (i := 0) (v := .int .i64 _) rfl;gi_wp2_with fail
   obtain ⟨W6, aj⟩ : ∃ V, V = (W5).alloc (.cells #[.int .i64 0] 3) := ⟨_, rfl⟩;have ah : Below (W5).heap.size W5 W6 := by rw [aj]; exact (Below.refl _ _).alloc (Nat.le_refl _) _
   have al : Rd W6 (some ⟨(W5).heap.size, 0, none⟩) (Qi [0]) := by rw [aj]; exact Zm _ _ _
   have am : IntB W6 (some ⟨(W5).heap.size, 0, none⟩) := fun a e => by injection e with e; subst e; rw [aj]; exact ⟨_, Row.new _ _ _⟩
   rw [← aj];clear aj;replace m := QF HJ.out m ah;clear ct;replace l := ((KpG.of_below (Z := fun k o => Z k o ∨ k = lb) ah)).row l zN.out;replace r := Lh (r.out.kg ((KpG.of_below (Z := fun k o => Z k o ∨ k = lb) ah)));have p := HY.out [⟨5, some ⟨s.heap.size, 0, none⟩, 1, [0]⟩] ⟨6, some ⟨W5.heap.size, 0, none⟩, 1, [0]⟩ W6 m ⟨⟨al, by simp, am⟩, by rw [b.out]; exact ⟨_, rfl⟩⟩ (by rw [b.out]; simp);have c := Lh (Jn lb (W.heap.size + 1 + 1) W.heap.size (fun k o => Z k o ∨ k = lb) W6 ⟨6, some ⟨W5.heap.size, 0, none⟩, 1, [0]⟩ (J ([⟨5, some ⟨s.heap.size, 0, none⟩, 1, [0]⟩] ++ [⟨6, some ⟨W5.heap.size, 0, none⟩, 1, [0]⟩])) r.out p);clear p m;refine ⟨trivial, rfl, c.out.mono ?_⟩;clear c;rintro e W7 ⟨⟨_, rfl⟩, m, g⟩;replace l := (g).row l zN.out;replace r := Lh (r.out.kg (g));clear g aa j z al ah;have ct := l.cellv (i := 0) (v := .int .i64 _) rfl;have cn := l.cellv (i := 1) (v := .int .i64 nn) rfl;clear l;gi_wp2_with fail
   go_end0
   exact ⟨⟨_, rfl⟩, .inl ⟨_, by rw [b.out]; rfl, m⟩⟩
 · skip;have b := Lh d;clear d;gi_wp2_with fail
   rw [← ac.out];have l := RN.out;have z := ae.out;have ag := B3.out;have m := ab.out;clear ac RN ae B3 ab H0 cl e0 e1;obtain ⟨W4, q⟩ : ∃ V, V = (s).alloc (.cells #[.int .i64 (wrap64 (1 - nn))] 3) := ⟨_, rfl⟩;have j : Below (s).heap.size s W4 := by rw [q]; exact (Below.refl _ _).alloc (Nat.le_refl _) _
   have aa : Rd W4 (some ⟨(s).heap.size, 0, none⟩) (Qi [wrap64 (1 - nn)]) := by rw [q]; exact Zm _ _ _
   have u : IntB W4 (some ⟨(s).heap.size, 0, none⟩) := fun a e => by injection e with e; subst e; rw [q]; exact ⟨_, Row.new _ _ _⟩
   rw [← q];clear q;rw [← z];replace m := QF HJ.out m j;replace l := ((KpG.of_below (Z := fun k o => Z k o ∨ k = lb) j)).row l zN.out;replace r := Lh (r.out.kg ((KpG.of_below (Z := fun k o => Z k o ∨ k = lb) j)));have p := HY.out [] ⟨4, some ⟨s.heap.size, 0, none⟩, 1, [wrap64 (1 - nn)]⟩ W4 m ⟨⟨aa, by simp, u⟩, by rw [b.out]; exact ⟨_, rfl⟩⟩ (by rw [b.out]; simp);have c := Lh (Jn lb (W.heap.size + 1 + 1) W.heap.size (fun k o => Z k o ∨ k = lb) W4 ⟨4, some ⟨s.heap.size, 0, none⟩, 1, [wrap64 (1 - nn)]⟩ (J ([] ++ [⟨4, some ⟨s.heap.size, 0, none⟩, 1, [wrap64 (1 - nn)]⟩])) r.out p);clear p m;refine ⟨trivial, rfl, c.out.mono ?_⟩;clear c;rintro e W5 ⟨⟨_, rfl⟩, m, g⟩;replace l := (g).row l zN.out;replace r := Lh (r.out.kg (g));clear g aa j z;have ct := l.cellv (i := 0) (v := .int .i64 _) rfl;have cn := l.cellv (i := 1) (v := .int .i64 nn) rfl;clear l;gi_wp2_with fail
   go_end0
   exact ⟨⟨_, rfl⟩, .inl ⟨_, by rw [b.out]; rfl, m⟩⟩
 · skip;have b := Lh d;clear d;gi_wp2_with fail
   rw [← ac.out];have l := RN.out;have z := ae.out;have ag := B3.out;have m := ab.out;clear ac RN ae B3 ab H0 cl e0 e1;obtain ⟨az, ap⟩ : ∃ V, V = s.alloc (.cells #[.int .i64 0, .int .i64 1, .int .i64 (-1), .int .i64 (wrap64 (nn + 1)), .int .i64 (wrap64 (nn - 1))] 3) := ⟨_, rfl⟩;have rS : Row az s.heap.size 3 (Qi [0, 1, -1, wrap64 (nn + 1), wrap64 (nn - 1)]).toArray := by rw [ap]; exact Row.new _ _ _
   have bS : Below s.heap.size s az := by rw [ap]; exact (Below.refl _ _).alloc (Nat.le_refl _) _
   rw [← ap, ← z];clear ap;refine ⟨trivial, rfl, (callsIn_wide.2 (Adf s.heap.size 5 s.heap.size nn [0, 1, -1, wrap64 (nn + 1), wrap64 (nn - 1)] az rS (by simp) (by simp) (by unfold maxLen; omega) (Nat.le_refl _))).mono ?_⟩;rintro e W4 ⟨A4, c4, rfl, ai, af, bX, u⟩;have j := bS.trans bX;replace m := QF HJ.out m j;replace l := ((KpG.of_below (Z := fun k o => Z k o ∨ k = lb) j)).row l zN.out;replace r := Lh (r.out.kg ((KpG.of_below (Z := fun k o => Z k o ∨ k = lb) j)));clear z rS bS bX;gi_wp2_with fail
   have p := HY.out [] ⟨4, A4, c4, (JX nn [0, 1, -1, wrap64 (nn + 1), wrap64 (nn - 1)])⟩ W4 m ⟨⟨ai, af, u⟩, by rw [b.out]; exact ⟨_, rfl⟩⟩ (by rw [b.out]; simp);have c := Lh (Jn lb (W.heap.size + 1 + 1) W.heap.size (fun k o => Z k o ∨ k = lb) W4 ⟨4, A4, c4, (JX nn [0, 1, -1, wrap64 (nn + 1), wrap64 (nn - 1)])⟩ (J ([] ++ [⟨4, A4, c4, (JX nn [0, 1, -1, wrap64 (nn + 1), wrap64 (nn - 1)])⟩])) r.out p);clear p m;refine ⟨trivial, rfl, c.out.mono ?_⟩;clear c;rintro e W5 ⟨⟨_, rfl⟩, m, g⟩;replace l := (g).row l zN.out;replace r := Lh (r.out.kg (g));clear g ai af j;have ct := l.cellv (i := 0) (v := .int .i64 _) rfl;have cn := l.cellv (i := 1) (v := .int .i64 nn) rfl;clear l;gi_wp2_with fail
   go_end0
   exact ⟨⟨_, rfl⟩, .inl ⟨_, by rw [b.out]; rfl, m⟩⟩
 · skip;have b := Lh d;clear d;gi_wp2_with fail
   rw [← ac.out];have l := RN.out;have z := ae.out;have ag := B3.out;have m := ab.out;clear ac RN ae B3 ab H0 cl e0 e1;obtain ⟨W4, q⟩ : ∃ V, V = (s).alloc (.cells #[.int .i64 0] 3) := ⟨_, rfl⟩;have j : Below (s).heap.size s W4 := by rw [q]; exact (Below.refl _ _).alloc (Nat.le_refl _) _
   have aa : Rd W4 (some ⟨(s).heap.size, 0, none⟩) (Qi [0]) := by rw [q]; exact Zm _ _ _
   have u : IntB W4 (some ⟨(s).heap.size, 0, none⟩) := fun a e => by injection e with e; subst e; rw [q]; exact ⟨_, Row.new _ _ _⟩
   rw [← q];clear q;rw [← z];replace m := QF HJ.out m j;replace l := ((KpG.of_below (Z := fun k o => Z k o ∨ k = lb) j)).row l zN.out;replace r := Lh (r.out.kg ((KpG.of_below (Z := fun k o => Z k o ∨ k = lb) j)));have p := HY.out [] ⟨5, some ⟨s.heap.size, 0, none⟩, 1, [0]⟩ W4 m ⟨⟨aa, by simp, u⟩, by rw [b.out]; exact ⟨_, rfl⟩⟩ (by rw [b.out]; simp);have c := Lh (Jn lb (W.heap.size + 1 + 1) W.heap.size (fun k o => Z k o ∨ k = lb) W4 ⟨5, some ⟨s.heap.size, 0, none⟩, 1, [0]⟩ (J ([] ++ [⟨5, some ⟨s.heap.size, 0, none⟩, 1, [0]⟩])) r.out p);clear p m;refine ⟨trivial, rfl, c.out.mono ?_⟩;clear c;rintro e W5 ⟨⟨_, rfl⟩, m, g⟩;replace l := (g).row l zN.out;replace r := Lh (r.out.kg (g))
   have a3 : ∀ k o, k < w.heap.size → k ≠ Rb → ¬ (Z k o ∨ k = lb) := fun k o h1 h2 h => by
    rcases h with h | h
    · exact HC.out.z1 k o h1 h2 h
    · have := HL.out.1; omega
   have bc := g.row (HC.out.rl.below (HB.out.trans (ag.trans (j.mono ag.size) |>.mono HB.out.size)) HC.out.rl.lt) (a3 _ _ HC.out.rl.lt HC.out.bn);have bh : ((⟨25, nn⟩ :: ys : List Nd).flatMap Nd.cells) ≠ [] := by simp [Nd.cells]
   have a8 := g.rd (HC.out.hr.go (HB.out.trans (ag.trans (j.mono ag.size) |>.mono HB.out.size))) (fun hn a e o => a3 _ _ (XO HC.out.hr hn e) (HC.out.an a e))
   obtain ⟨y, ax, rfl⟩ : ∃ y ax, ys = y :: ax := by
    cases ys with
    | nil => exact absurd rfl (HC.out.h25 rfl)
    | cons y ax => exact ⟨y, ax, rfl⟩
   obtain ⟨bd, ar, au⟩ := Z9 a8 (k := 1) (x := y) rfl;obtain rfl : ad = bd := by rw [a4.out] at ar; injection ar
   have a5 := bc.cellv (i := 0) (v := .slice A n cap) rfl;rw [a4.out] at a5;have be : W5.cell? ⟨ad.block, ad.off + 2, none⟩ = some (.int .i64 y.tag) := by have := au 0 _ rfl; rw [Nat.one_mul, KO] at this; exact this
   have bf : W5.cell? ⟨ad.block, ad.off + 2 + 1, none⟩ = some (.int .i64 y.n) := by have := au 1 _ rfl; rw [Nat.one_mul] at this; exact this
   have bj : (1 : Int) < (n : Int) := by have := HC.out.hn; rw [this]; simp; omega
   clear g aa j z ag a3 bc bh a8 ar au;have ct := l.cellv (i := 0) (v := .int .i64 25) rfl;gi_wp2_with fail
   refine ⟨trivial, rfl, (callsIn_wide.2 (Ack y W5)).mono ?_⟩;rintro e W6 ⟨A6, c6, rfl, ba, ay, ah, am⟩;replace m := QF HJ.out m ah;clear ct a5 be bf;replace l := ((KpG.of_below (Z := fun k o => Z k o ∨ k = lb) ah)).row l zN.out;replace r := Lh (r.out.kg ((KpG.of_below (Z := fun k o => Z k o ∨ k = lb) ah)));gi_wp2_with fail
   have p := HY.out [⟨5, some ⟨s.heap.size, 0, none⟩, 1, [0]⟩] ⟨7, A6, c6, (Zy y)⟩ W6 m ⟨⟨ba, ay, am⟩, by rw [b.out]; exact ⟨_, rfl⟩⟩ (by rw [b.out]; simp);have c := Lh (Jn lb (W.heap.size + 1 + 1) W.heap.size (fun k o => Z k o ∨ k = lb) W6 ⟨7, A6, c6, (Zy y)⟩ (J ([⟨5, some ⟨s.heap.size, 0, none⟩, 1, [0]⟩] ++ [⟨7, A6, c6, (Zy y)⟩])) r.out p);clear p m;refine ⟨trivial, rfl, c.out.mono ?_⟩;clear c;rintro e W7 ⟨⟨_, rfl⟩, m, g⟩;replace l := (g).row l zN.out;replace r := Lh (r.out.kg (g));clear g ba ay ah;have ct := l.cellv (i := 0) (v := .int .i64 _) rfl;have cn := l.cellv (i := 1) (v := .int .i64 nn) rfl;clear l;gi_wp2_with fail
   go_end0
   exact ⟨⟨_, rfl⟩, .inl ⟨_, by rw [b.out]; rfl, m⟩⟩
 all_goals
  have b := Lh d
  clear d
  gi_wp2_with fail
  go_end0
  exact ⟨⟨_, rfl⟩, .inl ⟨[], by rw [b.out]; rfl, by rw [← ac.out]; exact ab.out⟩⟩
theorem Aer (A : Option Addr) (cap n bl Rb : Nat) (x : Nd) (ys : List Nd) (Z : Nat → Obj → Prop) (w : World) (hC : ListsC A cap n bl Rb x ys Z w) (h1 : 1 ≤ x.tag) (h2 : x.tag ≤ 26) :
 VK Tryz.prog 285 #[.pointer (some ⟨bl, 0, none⟩)] LsX.enc (fun _ => False) (fun lb => KpG (fun k o => Z k o ∨ k = lb)) (LsP (Ke x (ys.headD ⟨0, 0⟩))) (fun xs => xs.map LsX.f = Ke x (ys.headD ⟨0, 0⟩)) (fun _ => True) (Ke x (ys.headD ⟨0, 0⟩)).length False w := by
 obtain ⟨tag, e⟩ := x;simp only at h1 h2;refine AfX A cap n bl Rb tag e ys Z w hC _ ?_;by_cases b : 7 ≤ tag ∧ tag ≤ 11
 · exact .inl ⟨b.1, b.2, by simp [Ke, b, show ¬ tag = 21 by omega, show ¬ tag = 22 by omega, show ¬ tag = 23 by omega, show ¬ tag = 24 by omega, show ¬ tag = 25 by omega]⟩
 by_cases c : 12 ≤ tag ∧ tag ≤ 17
 · exact .inr (.inl ⟨c.1, c.2, by simp [Ke, b, c, show ¬ tag = 21 by omega, show ¬ tag = 22 by omega, show ¬ tag = 23 by omega, show ¬ tag = 24 by omega, show ¬ tag = 25 by omega]⟩)
 have d : tag = 1 ∨ tag = 2 ∨ tag = 3 ∨ tag = 4 ∨ tag = 5 ∨ tag = 6 ∨ tag = 18 ∨ tag = 19 ∨ tag = 20 ∨ tag = 21 ∨ tag = 22 ∨ tag = 23 ∨ tag = 24 ∨ tag = 25 ∨ tag = 26 := by omega
 rcases d with rfl | rfl | rfl | rfl | rfl | rfl | rfl | rfl | rfl | rfl | rfl | rfl | rfl | rfl | rfl
 all_goals simp [Ke]
end Go.Proofs.YtdcmppdhdcjpfaaGreat
