/- Lemmas for VerdictJustP. -/
import Derived.Test.YtdcmppdhdcjpfaaGreatZy1
import Derived.Test.YtdcmppdhdcjpfaaGreatZy35
set_option linter.unusedVariables false
set_option linter.unusedSimpArgs false
set_option maxRecDepth 100000
set_option maxHeartbeats 16000000
namespace Go.Proofs.YtdcmppdhdcjpfaaGreat
open Go.RowKit Go.Deep
theorem X6 (A : Option Addr) (n c : Nat) (i : Int) (w : World) : Calls Tryz.prog 342 #[.slice A n c, .int .i64 i] w fun e w' => e = .returned (.bool (decide (0 ≤ i ∧ i < (n : Int)))) ∧ w = w' := by
 by_cases d : 0 ≤ i
 · by_cases g : i < (n : Int)
   · go_enter Tryz.func342, Tryz.ntmps342
     go_wp2
     go_ret
     exact ⟨Z5 (by simp; omega), rfl⟩
   · go_enter Tryz.func342, Tryz.ntmps342
     go_wp2
     go_ret
     exact ⟨Z5 (by simp; omega), rfl⟩
 · go_enter Tryz.func342, Tryz.ntmps342
   go_wp2
   go_ret
   exact ⟨Z5 (by simp; omega), rfl⟩
theorem Agv (A : Addr) (n c i : Nat) (v : Int) (w : World) (hi : i < n) (hc : w.cell? (A.add i) = some (.int .i64 v)) : Calls Tryz.prog 341 #[.slice (some A) n c, .int .i64 (i : Int)] w fun e w' => e = .returned (.tuple #[.int .i64 v, .bool true]) ∧ w = w' := by
 have d : decide (0 ≤ (i : Int) ∧ (i : Int) < (n : Int)) = true := by simp; omega
 have g : (i : Int) < (n : Int) := by omega
 go_enter Tryz.func341, Tryz.ntmps341
 go_wp2_with fail
 refine (X6 (some A) n c (i : Int) w).mono ?_;rintro e w' ⟨rfl, rfl⟩;rw [d];clear d hi;go_wp2
 go_ret2
 exact ⟨rfl, rfl⟩
theorem Agu (A : Option Addr) (n c : Nat) (i : Int) (w : World) (hi : i < 0 ∨ (n : Int) ≤ i) : Calls Tryz.prog 341 #[.slice A n c, .int .i64 i] w fun e w' => e = .returned (.tuple #[.int .i64 0, .bool false]) ∧ w = w' := by
 have d : decide (0 ≤ i ∧ i < (n : Int)) = false := by simp; omega
 go_enter Tryz.func341, Tryz.ntmps341
 go_wp2_with fail
 refine (X6 A n c i w).mono ?_;rintro e w' ⟨rfl, rfl⟩;rw [d];clear d hi;go_wp2
 go_ret2
 exact ⟨rfl, rfl⟩
theorem Agx (A : Option Addr) (n c : Nat) (i v : Int) (w : World) (hi : i < 0 ∨ (n : Int) ≤ i) : Calls Tryz.prog 343 #[.slice A n c, .int .i64 i, .int .i64 v] w fun e w' => e = .returned (.bool false) ∧ w = w' := by
 have d : decide (0 ≤ i ∧ i < (n : Int)) = false := by simp; omega
 go_enter Tryz.func343, Tryz.ntmps343
 go_wp2_with fail
 refine (X6 A n c i w).mono ?_;rintro e w' ⟨rfl, rfl⟩;rw [d];clear d hi;go_wp2
 go_ret
 exact ⟨rfl, rfl⟩
theorem Agy (g n c i : Nat) (v : Int) (cur : Array Value) (w : World) (hi : i < n) (hn : n ≤ cur.size) (hr : Row w g 3 cur) : Calls Tryz.prog 343 #[.slice (some ⟨g, 0, none⟩) n c, .int .i64 (i : Int), .int .i64 v] w fun e w' => e = .returned (.bool true) ∧ Only g w w' ∧ Row w' g 3 (cur.setIfInBounds i (.int .i64 v)) := by
 have h : decide (0 ≤ (i : Int) ∧ (i : Int) < (n : Int)) = true := by simp; omega
 have l : (i : Int) < (n : Int) := by omega
 have d := Adp cur i (.int .i64 v) (by omega);have k := Lh hr;clear hr;go_enter Tryz.func343, Tryz.ntmps343
 go_wp2_with fail
 refine (X6 (some ⟨g, 0, none⟩) n c (i : Int) w).mono ?_;rintro e w' ⟨rfl, rfl⟩;rw [h];have j := Lh hi;clear h hi;go_wp2_with (refine Qs _ _ _ rfl ?_)
 refine Stop.to ?_;refine Qp rfl 3 _ _ rfl g i rfl _ rfl [.int .i64 v] rfl 3 _ _ k.out (by kernel_rfl) (by have := j.out; simp; omega) (by simp [Value.oneCell']) d ?_;intro p o m;go_wp2
 go_ret
 exact ⟨rfl, m, o⟩
theorem Aar (g : Nat) (i v : Int) (w : World) (hc : w.cell? ⟨g, 0, none⟩ = some (.int .i64 v)) : Calls Tryz.prog 344 #[.agg #[.pointer (some ⟨g, 0, none⟩)], .int .i64 i] w fun e w' => e = .returned (.tuple #[.int .i64 v, .bool true]) ∧ Below w.heap.size w w' := by
 go_enter Tryz.func344, Tryz.ntmps344
 go_wp2_with (refine Qn _ _ rfl ?_)
 refine Stop.to ?_;refine Qe rfl 115 _ rfl #[.pointer (some ⟨g, 0, none⟩)] rfl ?_;intro G m j k h;have d := h.mono j;have n := k.cellv (i := 0) (v := .pointer (some ⟨g, 0, none⟩)) rfl;have c := World.block_lt_of_cell? _ _ hc;have o : m.cell? ⟨g, 0, none⟩ = some (.int .i64 v) := (d.cell c).trans hc;have l := Lh d;clear k h j hc c d;go_wp2
 go_ret2
 exact ⟨rfl, l.out⟩
theorem YN (g : Nat) (i v u : Int) (w : World) (hr : Row w g 3 #[.int .i64 u]) : Calls Tryz.prog 345 #[.agg #[.pointer (some ⟨g, 0, none⟩)], .int .i64 i, .int .i64 v] w fun e w' => e = .returned (.bool true) ∧ ∃ w1, Below w.heap.size w w1 ∧ Only g w1 w' ∧ Row w' g 3 #[.int .i64 v] := by
 have d := Lh hr;clear hr;go_enter Tryz.func345, Tryz.ntmps345
 go_wp2_with (refine Qn _ _ rfl ?_)
 refine Stop.to ?_;refine Qe rfl 115 _ rfl #[.pointer (some ⟨g, 0, none⟩)] rfl ?_;intro G w1 j k h;have c := h.mono j;have n := k.cellv (i := 0) (v := .pointer (some ⟨g, 0, none⟩)) rfl;have m := Lh (d.out.below c d.out.lt);have l := Lh c;clear k h j c;go_wp2_with (refine Qs _ _ _ rfl ?_)
 refine Stop.to ?_;refine Qp rfl 3 _ _ rfl g 0 rfl _ rfl [.int .i64 v] rfl 3 _ #[.int .i64 v] m.out (by kernel_rfl) (by simp) (by simp [Value.oneCell']) rfl ?_;intro q p o;clear n;go_wp2
 go_ret
 exact ⟨rfl, w1, l.out, o, p⟩
section
variable {g n c : Nat}
theorem Afm (f : Nat) (w : World) : (method (f + 1) 109 (.slice (some ⟨g, 0, none⟩) n c) "offshoot/direct.get").run Tryz.prog w = .ok (341, .slice (some ⟨g, 0, none⟩) n c) w := by kernel_rfl
theorem Afn (f : Nat) (w : World) : (method (f + 1) 109 (.slice (some ⟨g, 0, none⟩) n c) "offshoot/direct.set").run Tryz.prog w = .ok (343, .slice (some ⟨g, 0, none⟩) n c) w := by kernel_rfl
theorem Ai4 (f : Nat) (w : World) : (method (f + 1) 115 (.agg #[.pointer (some ⟨g, 0, none⟩)]) "offshoot/direct.get").run Tryz.prog w = .ok (344, .agg #[.pointer (some ⟨g, 0, none⟩)]) w := by kernel_rfl
theorem Afo (f : Nat) (w : World) : (method (f + 1) 115 (.agg #[.pointer (some ⟨g, 0, none⟩)]) "offshoot/direct.set").run Tryz.prog w = .ok (345, .agg #[.pointer (some ⟨g, 0, none⟩)]) w := by kernel_rfl
end
theorem AjY (L : Lay) (hL : DOk L) (s : Ms) (ev : Value) (n : Nat) (t at_ v : Int) (W : World) (h : DR L s ev W) (ht : L.p.V[n]? = some t) (h0 : Qy t = 0) (hv : s.vals[n]? = some v) : Calls Tryz.prog 188 #[.pointer (some ⟨L.M, 0, none⟩), .int .i64 (n : Int), .int .i64 at_] W fun e W' => e = .returned (.int .i64 v) ∧ Below W.heap.size W W' := by
 obtain ⟨g, k⟩ : ∃ g, L.ab[n]? = some g := ⟨_, Lb (by rw [hL.alen]; exact (La.1 ht).1)⟩;obtain ⟨u, j, c⟩ := hL.cells W h.im n g t k ht;have d := h.rows n g t k ht;have l := h.row.cellv (i := 1) (v := .slice L.aa L.ab.length L.acap) rfl;rw [j] at l;have r : (n : Int) < (L.ab.length : Int) := by have := (La.1 k).1; omega
 rw [show s.cont n t = [v] by unfold Ms.cont; rw [if_pos h0, hv]; rfl] at d;rw [show Jy t g = .iface 115 (.agg #[.pointer (some ⟨g, 0, none⟩)]) by unfold Jy; rw [if_pos h0]] at c;have m := d.cellv (i := 0) (v := .int .i64 v) rfl;have q := Ai4 (g := g);clear h hL k ht j d h0 hv;go_enter Tryz.func188, Tryz.ntmps188
 go_wp2_with fail
 refine (Aar g at_ v W m).mono ?_;rintro e w ⟨rfl, o⟩;clear l c m q;go_wp2
 go_ret
 exact ⟨rfl, o⟩
theorem AjX (L : Lay) (hL : DOk L) (s : Ms) (ev : Value) (n : Nat) (t i v : Int) (W : World) (h : DR L s ev W) (ht : L.p.V[n]? = some t) (h0 : Qy t ≠ 0) (hs : LenS L.p.V s) (hi : ¬ (i < 0 ∨ ((s.arr (n : Int)).length : Int) ≤ i)) (hv : (s.arr (n : Int))[i.toNat]? = some v) : Calls Tryz.prog 188 #[.pointer (some ⟨L.M, 0, none⟩), .int .i64 (n : Int), .int .i64 i] W fun e W' => e = .returned (.int .i64 v) ∧ Below W.heap.size W W' := by
 obtain ⟨k, rfl⟩ : ∃ k : Nat, i = (k : Int) := ⟨i.toNat, by omega⟩;obtain ⟨g, r⟩ : ∃ g, L.ab[n]? = some g := ⟨_, Lb (by rw [hL.alen]; exact (La.1 ht).1)⟩;obtain ⟨ad, l, d⟩ := hL.cells W h.im n g t r ht;have j := h.rows n g t r ht;have w := h.row.cellv (i := 1) (v := .slice L.aa L.ab.length L.acap) rfl;rw [l] at w;have z : (n : Int) < (L.ab.length : Int) := by have := (La.1 r).1; omega
 have u := hs.arr_len (n := (n : Int)) (t := t) (by rw [Li]; exact ht);have q : (Qy t).toNat = (s.arr (n : Int)).length := by omega
 rw [show s.cont n t = s.arr (n : Int) by unfold Ms.cont Ms.arr; rw [if_neg h0, Li]] at j;rw [show Jy t g = .iface 109 (.slice (some ⟨g, 0, none⟩) (s.arr (n : Int)).length (s.arr (n : Int)).length) by unfold Jy; rw [if_neg h0, q]] at d;rw [Li] at hv;have o : k < (s.arr (n : Int)).length := (La.1 hv).1
 have x : W.cell? ((⟨g, 0, none⟩ : Addr).add k) = some (.int .i64 v) := by
  have := j.cellv (i := k) (v := .int .i64 v) (by simp [Qi, hv]);unfold Addr.add;by_cases h0 : k = 0
  · subst h0; exact this
  · rw [if_neg h0]; simpa using this
 have y := Afm (g := g) (n := (s.arr (n : Int)).length) (c := (s.arr (n : Int)).length);generalize (s.arr (n : Int)).length = m at *;clear h hL r ht l j h0 hv hs u q hi;go_enter Tryz.func188, Tryz.ntmps188
 go_wp2_with fail
 refine (Agv ⟨g, 0, none⟩ m m k v W o x).mono ?_;rintro e w1 ⟨rfl, rfl⟩;clear w d x y o;go_wp2
 go_ret
 exact ⟨rfl, Below.refl _ _⟩
theorem AiG (L : Lay) (hL : DOk L) (s : Ms) (ev : Value) (n : Nat) (t i : Int) (W : World) (h : DR L s ev W) (ht : L.p.V[n]? = some t) (h0 : Qy t ≠ 0) (hs : LenS L.p.V s) (hi : i < 0 ∨ ((s.arr (n : Int)).length : Int) ≤ i) : Calls Tryz.prog 188 #[.pointer (some ⟨L.M, 0, none⟩), .int .i64 (n : Int), .int .i64 i] W fun e W' => e = Q7 2 0 ∧ Below W.heap.size W W' := by
 obtain ⟨g, o⟩ : ∃ g, L.ab[n]? = some g := ⟨_, Lb (by rw [hL.alen]; exact (La.1 ht).1)⟩;obtain ⟨y, j, d⟩ := hL.cells W h.im n g t o ht;have k := h.rows n g t o ht;have r := h.row.cellv (i := 1) (v := .slice L.aa L.ab.length L.acap) rfl;rw [j] at r;have x : (n : Int) < (L.ab.length : Int) := by have := (La.1 o).1; omega
 have q := hs.arr_len (n := (n : Int)) (t := t) (by rw [Li]; exact ht);have l : (Qy t).toNat = (s.arr (n : Int)).length := by omega
 rw [show Jy t g = .iface 109 (.slice (some ⟨g, 0, none⟩) (s.arr (n : Int)).length (s.arr (n : Int)).length) by unfold Jy; rw [if_neg h0, l]] at d;have w := Afm (g := g) (n := (s.arr (n : Int)).length) (c := (s.arr (n : Int)).length);generalize (s.arr (n : Int)).length = m at *;clear h hL o ht j k h0 hs q l;have u := Lh hi;clear hi;go_enter Tryz.func188, Tryz.ntmps188
 go_wp2_with fail
 refine (Agu (some ⟨g, 0, none⟩) m m i W u.out).mono ?_;rintro e w1 ⟨rfl, rfl⟩;clear r d w;go_wp2_with fail
 refine (YF _ _ _).mono ?_;rintro e z ⟨rfl, rfl⟩;simp only [Q7];go_wp2
 exact ⟨rfl, rfl, Below.refl _ _⟩
theorem Aha (L : Lay) (hL : DOk L) (s : Ms) (ev : Value) (n : Nat) (t i v : Int) (W : World) (h : DR L s ev W) (ht : L.p.V[n]? = some t) (h0 : Qy t ≠ 0) (hs : LenS L.p.V s) (hi : i < 0 ∨ ((s.arr (n : Int)).length : Int) ≤ i) : Calls Tryz.prog 249 #[.pointer (some ⟨L.M, 0, none⟩), .int .i64 (n : Int), .int .i64 i, .int .i64 v] W fun e W' => e = Q7 2 0 ∧ Below W.heap.size W W' := by
 obtain ⟨g, o⟩ : ∃ g, L.ab[n]? = some g := ⟨_, Lb (by rw [hL.alen]; exact (La.1 ht).1)⟩;obtain ⟨y, j, d⟩ := hL.cells W h.im n g t o ht;have k := h.rows n g t o ht;have r := h.row.cellv (i := 1) (v := .slice L.aa L.ab.length L.acap) rfl;rw [j] at r;have x : (n : Int) < (L.ab.length : Int) := by have := (La.1 o).1; omega
 have q := hs.arr_len (n := (n : Int)) (t := t) (by rw [Li]; exact ht);have l : (Qy t).toNat = (s.arr (n : Int)).length := by omega
 rw [show Jy t g = .iface 109 (.slice (some ⟨g, 0, none⟩) (s.arr (n : Int)).length (s.arr (n : Int)).length) by unfold Jy; rw [if_neg h0, l]] at d;have w := Afn (g := g) (n := (s.arr (n : Int)).length) (c := (s.arr (n : Int)).length);generalize (s.arr (n : Int)).length = m at *;clear h hL o ht j k h0 hs q l;have u := Lh hi;clear hi;go_enter Tryz.func249, Tryz.ntmps249
 go_wp2_with fail
 refine (Agx (some ⟨g, 0, none⟩) m m i v W u.out).mono ?_;rintro e w1 ⟨rfl, rfl⟩;clear r d w;go_wp2_with fail
 refine (YF _ _ _).mono ?_;rintro e z ⟨rfl, rfl⟩;simp only [Q7];go_wp2
 exact ⟨rfl, rfl, Below.refl _ _⟩
theorem Ag8 (L : Lay) (hL : DOk L) (s s2 s3 : Ms) (ev : Value) (n : Nat) (t at_ x : Int) (g : Nat) (W : World) (h : DR L s ev W) (ad : Addr) (had : L.aa = some ad) (hnl : (n : Int) < (L.ab.length : Int)) (hcell : W.cell? (ad.add n) = some (.iface 115 (.agg #[.pointer (some ⟨g, 0, none⟩)])))
 (gm : ∀ (f : Nat) (w : World), (method (f + 1) 115 (.agg #[.pointer (some ⟨g, 0, none⟩)]) "offshoot/direct.set").run Tryz.prog w = .ok (345, .agg #[.pointer (some ⟨g, 0, none⟩)]) w)
 (hset : Calls Tryz.prog 345 #[.agg #[.pointer (some ⟨g, 0, none⟩)], .int .i64 at_, .int .i64 x] W fun e w1 => e = .returned (.bool true) ∧ DR L s2 ev w1 ∧ RChg L ev W ev w1)
 (h1 : s3.vals = s2.vals) (h2 : s3.arrs = s2.arrs) (h3 : s3.steps = s2.steps) (h4 : s3.fuel = s2.fuel) (h5 : s3.evs = s2.evs ++ [⟨(n : Int), at_, x⟩]) (h6 : s2.evs.length < s2.steps) :
 Calls Tryz.prog 249 #[.pointer (some ⟨L.M, 0, none⟩), .int .i64 (n : Int), .int .i64 at_, .int .i64 x] W fun e W' => (∃ u, e = .returned u) ∧ ∃ ev', DR L s3 ev' W' ∧ RChg L ev W ev' W' := by
 have c1 := h.row.cellv (i := 1) (v := .slice L.aa L.ab.length L.acap) rfl;rw [had] at c1;obtain ⟨i0, an, ao, ap, aq⟩ := info_parts Abw;have HL := Lh hL;have ac := Lh hset;have H1 := Lh h1;have H2 := Lh h2;have H3 := Lh h3;have H4 := Lh h4;have H5 := Lh h5;have hF := hL.F;clear h hL had hset h1 h2 h3 h4 h5;go_enter Tryz.func249, Tryz.ntmps249
 go_wp2_with fail
 refine ac.out.mono ?_;rintro e w1 ⟨rfl, j, ah⟩;clear c1 hcell gm;have c6 := j.row.cellv (i := 6) (v := ev) rfl;have aj := j.sum;have ar := j.size;have au : s2.evs.length ≤ 20001 := by omega
 have ha := j.evs.alloc (.cells (EvV.cells ⟨(n : Int), at_, x⟩).toArray 189);have HA := Lh ha;have y := Lh j;have am := Lh ah;clear j ah ha aj;go_wp2_with (at_builtin; refine wpList_append_own_at _ rfl (.tmp 25) (.tmp 30) 38 rfl L.b1 189 i0 _ 3 24 Tryz.underlying38 an ao ap aq rfl (by decide) ev s2.evs.length (s2.evs.flatMap EvV.cells) rfl HA.out ⟨w1.heap.size, 0, none⟩ 1 1 (EvV.cells ⟨(n : Int), at_, x⟩) rfl rfl (Z0 _ _ _) (XU _) (by unfold maxLen; omega) (by omega) (by simp; omega) ?_)
 intro ev' W3 o d _ ag;have b2 : Below w1.heap.size w1 (w1.alloc (.cells (EvV.cells ⟨(n : Int), at_, x⟩).toArray 189)) := (Below.refl _ _).alloc (Nat.le_refl _) _;have c := y.out.below HL.out b2;have r3 := c.row.grown d (Qz c.evs c.row (by decide))
 have g3 : RChg L ev w1 ev' W3 := (RChg.below b2).trans (.grown d (fun k e => by
  rcases ag with h | h
  · exact .inl (h ▸ e)
  · rw [h] at e; injection e with e; exact .inr (by simp only [World.alloc, Array.size_push] at *; omega)))
 have q : ∀ (i g : Nat) (t : Int), L.ab[i]? = some g → L.p.V[i]? = some t → Row W3 g 3 (Qi (s3.cont i t)).toArray := fun i g t h1 h2 => by
  have := (c.rows i g t h1 h2).grown d (Qz c.evs (c.rows i g t h1 h2) (by decide));unfold Ms.cont at this ⊢;rw [H1.out, H2.out]; exact this
 have ak := HL.out.im _ _ c.im (.grown d c.size (fun k e => QC c.evs e));have al : L.b1 ≤ W3.heap.size := Le c.size d.size;have ai := ZQ o;have R3 := Lh r3;have G3 := Lh g3;have m := Lh q;have l := Lh o;have ae := Lh ak;have af := Lh al;have r := Lh y.out.sum;clear o d ag b2 c r3 g3 HA y c6 q ak al;go_wp2_with (refine Qs _ _ _ rfl ?_)
 refine Stop.to ?_;refine Qp rfl 38 _ _ rfl L.M 6 rfl _ rfl [ev'] (by cases ev' <;> first | rfl | cases ai) 108 _ (L.dcells s3 ev') R3.out (by kernel_rfl) (by show 6 + 1 ≤ 7; omega) (by simpa using ai) (by unfold Lay.dcells; rw [H3.out]; rfl) ?_
 intro W4 r4 z
 have m4 : DR L s3 ev' W4 := ⟨r4, by have := Qu l.out z (fun e => by have := QC l.out e; have := HL.out.lt; omega); rw [H5.out]; simpa using this,
  fun i g t h1 h2 => (m.out i g t h1 h2).only z (HL.out.alt g (Lg h1)).2,
  HL.out.im _ _ ae.out (.only z (.inr (.inl rfl))), by rw [z.size]; exact af.out, by rw [H3.out, H4.out]; exact r.out, by rw [H5.out, H3.out]; simp; omega⟩
 have M4 := Lh m4;have G4 := Lh (am.out.trans (G3.out.trans (RChg.only z (.inl rfl))));clear m4 r4 z R3 G3 m l ae r af;go_wp2
 go_end0
 exact ⟨⟨_, rfl⟩, ev', M4.out, G4.out⟩
theorem Ag9 (L : Lay) (hL : DOk L) (s s2 s3 : Ms) (ev : Value) (n : Nat) (t at_ x : Int) (g m : Nat) (W : World) (h : DR L s ev W) (ad : Addr) (had : L.aa = some ad) (hnl : (n : Int) < (L.ab.length : Int)) (hcell : W.cell? (ad.add n) = some (.iface 109 (.slice (some ⟨g, 0, none⟩) m m)))
 (gm : ∀ (f : Nat) (w : World), (method (f + 1) 109 (.slice (some ⟨g, 0, none⟩) m m) "offshoot/direct.set").run Tryz.prog w = .ok (343, .slice (some ⟨g, 0, none⟩) m m) w)
 (hset : Calls Tryz.prog 343 #[.slice (some ⟨g, 0, none⟩) m m, .int .i64 at_, .int .i64 x] W fun e w1 => e = .returned (.bool true) ∧ DR L s2 ev w1 ∧ RChg L ev W ev w1)
 (h1 : s3.vals = s2.vals) (h2 : s3.arrs = s2.arrs) (h3 : s3.steps = s2.steps) (h4 : s3.fuel = s2.fuel) (h5 : s3.evs = s2.evs ++ [⟨(n : Int), at_, x⟩]) (h6 : s2.evs.length < s2.steps) :
 Calls Tryz.prog 249 #[.pointer (some ⟨L.M, 0, none⟩), .int .i64 (n : Int), .int .i64 at_, .int .i64 x] W fun e W' => (∃ u, e = .returned u) ∧ ∃ ev', DR L s3 ev' W' ∧ RChg L ev W ev' W' := by
 have c1 := h.row.cellv (i := 1) (v := .slice L.aa L.ab.length L.acap) rfl;rw [had] at c1;obtain ⟨i0, an, ao, ap, aq⟩ := info_parts Abw;have HL := Lh hL;have ac := Lh hset;have H1 := Lh h1;have H2 := Lh h2;have H3 := Lh h3;have H4 := Lh h4;have H5 := Lh h5;have hF := hL.F;clear h hL had hset h1 h2 h3 h4 h5;go_enter Tryz.func249, Tryz.ntmps249
 go_wp2_with fail
 refine ac.out.mono ?_;rintro e w1 ⟨rfl, j, ah⟩;clear c1 hcell gm;have c6 := j.row.cellv (i := 6) (v := ev) rfl;have aj := j.sum;have ar := j.size;have au : s2.evs.length ≤ 20001 := by omega
 have ha := j.evs.alloc (.cells (EvV.cells ⟨(n : Int), at_, x⟩).toArray 189);have HA := Lh ha;have z := Lh j;have am := Lh ah;clear j ah ha aj;go_wp2_with (at_builtin; refine wpList_append_own_at _ rfl (.tmp 25) (.tmp 30) 38 rfl L.b1 189 i0 _ 3 24 Tryz.underlying38 an ao ap aq rfl (by decide) ev s2.evs.length (s2.evs.flatMap EvV.cells) rfl HA.out ⟨w1.heap.size, 0, none⟩ 1 1 (EvV.cells ⟨(n : Int), at_, x⟩) rfl rfl (Z0 _ _ _) (XU _) (by unfold maxLen; omega) (by omega) (by simp; omega) ?_)
 intro ev' W3 q d _ ag;have b2 : Below w1.heap.size w1 (w1.alloc (.cells (EvV.cells ⟨(n : Int), at_, x⟩).toArray 189)) := (Below.refl _ _).alloc (Nat.le_refl _) _;have c := z.out.below HL.out b2;have r3 := c.row.grown d (Qz c.evs c.row (by decide))
 have g3 : RChg L ev w1 ev' W3 := (RChg.below b2).trans (.grown d (fun k e => by
  rcases ag with h | h
  · exact .inl (h ▸ e)
  · rw [h] at e; injection e with e; exact .inr (by simp only [World.alloc, Array.size_push] at *; omega)))
 have r : ∀ (i g : Nat) (t : Int), L.ab[i]? = some g → L.p.V[i]? = some t → Row W3 g 3 (Qi (s3.cont i t)).toArray := fun i g t h1 h2 => by
  have := (c.rows i g t h1 h2).grown d (Qz c.evs (c.rows i g t h1 h2) (by decide));unfold Ms.cont at this ⊢;rw [H1.out, H2.out]; exact this
 have ak := HL.out.im _ _ c.im (.grown d c.size (fun k e => QC c.evs e));have al : L.b1 ≤ W3.heap.size := Le c.size d.size;have ai := ZQ q;have R3 := Lh r3;have G3 := Lh g3;have o := Lh r;have l := Lh q;have ae := Lh ak;have af := Lh al;have y := Lh z.out.sum;clear q d ag b2 c r3 g3 HA z c6 r ak al;go_wp2_with (refine Qs _ _ _ rfl ?_)
 refine Stop.to ?_;refine Qp rfl 38 _ _ rfl L.M 6 rfl _ rfl [ev'] (by cases ev' <;> first | rfl | cases ai) 108 _ (L.dcells s3 ev') R3.out (by kernel_rfl) (by show 6 + 1 ≤ 7; omega) (by simpa using ai) (by unfold Lay.dcells; rw [H3.out]; rfl) ?_
 intro W4 r4 o4
 have m4 : DR L s3 ev' W4 := ⟨r4, by have := Qu l.out o4 (fun e => by have := QC l.out e; have := HL.out.lt; omega); rw [H5.out]; simpa using this,
  fun i g t h1 h2 => (o.out i g t h1 h2).only o4 (HL.out.alt g (Lg h1)).2,
  HL.out.im _ _ ae.out (.only o4 (.inr (.inl rfl))), by rw [o4.size]; exact af.out, by rw [H3.out, H4.out]; exact y.out, by rw [H5.out, H3.out]; simp; omega⟩
 have M4 := Lh m4;have G4 := Lh (am.out.trans (G3.out.trans (RChg.only o4 (.inl rfl))));clear m4 r4 o4 R3 G3 o l ae y af;go_wp2
 go_end0
 exact ⟨⟨_, rfl⟩, ev', M4.out, G4.out⟩
theorem AiI (L : Lay) (hL : DOk L) (s : Ms) (ev : Value) (n : Nat) (t x u : Int) (W : World) (h : DR L s ev W) (ht : L.p.V[n]? = some t) (h0 : Qy t = 0) (hv : s.vals[n]? = some u) (hf : s.evs.length < s.steps) : Calls Tryz.prog 249 #[.pointer (some ⟨L.M, 0, none⟩), .int .i64 (n : Int), .int .i64 (-1), .int .i64 x] W fun e W' => (∃ u, e = .returned u) ∧ ∃ ev', DR L (s.setv (n : Int) x) ev' W' ∧ RChg L ev W ev' W' := by
 obtain ⟨g, k⟩ : ∃ g, L.ab[n]? = some g := ⟨_, Lb (by rw [hL.alen]; exact (La.1 ht).1)⟩;obtain ⟨r, j, c⟩ := hL.cells W h.im n g t k ht;have d := h.rows n g t k ht;have y := h.row.cellv (i := 1) (v := .slice L.aa L.ab.length L.acap) rfl;rw [j] at y;have m : (n : Int) < (L.ab.length : Int) := by have := (La.1 k).1; omega
 rw [show s.cont n t = [u] by unfold Ms.cont; rw [if_pos h0, hv]; rfl] at d;rw [show Jy t g = .iface 115 (.agg #[.pointer (some ⟨g, 0, none⟩)]) by unfold Jy; rw [if_pos h0]] at c;have l : n < s.vals.length := (La.1 hv).1;refine Ag8 L hL s { s with vals := s.vals.set n x } (s.setv (n : Int) x) ev n t (-1) x g W h r j m c (fun f w => Afo (g := g) f w) ?_ (by simp [Ms.setv]) rfl rfl rfl rfl hf;refine (YN g (-1) x u W d).mono ?_;rintro e w1 ⟨rfl, w0, o, q, z⟩;exact ⟨rfl, (h.below hL o).setB hL k ht q (by unfold Ms.cont; rw [if_pos h0]; simp only [Nt l]; exact z) (fun i hi => ⟨by simp [Ne.symm hi], rfl⟩) rfl rfl rfl, (RChg.below o : RChg L ev W ev w0).trans (RChg.onlyB q (Lg k))⟩
theorem AiH (L : Lay) (hL : DOk L) (s : Ms) (ev : Value) (n : Nat) (t i x : Int) (W : World) (h : DR L s ev W) (ht : L.p.V[n]? = some t) (h0 : Qy t ≠ 0) (hs : LenS L.p.V s) (hi : ¬ (i < 0 ∨ ((s.arr (n : Int)).length : Int) ≤ i)) (hf : s.evs.length < s.steps) : Calls Tryz.prog 249 #[.pointer (some ⟨L.M, 0, none⟩), .int .i64 (n : Int), .int .i64 i, .int .i64 x] W fun e W' => (∃ u, e = .returned u) ∧ ∃ ev', DR L (s.seta (n : Int) i x) ev' W' ∧ RChg L ev W ev' W' := by
 obtain ⟨k, rfl⟩ : ∃ k : Nat, i = (k : Int) := ⟨i.toNat, by omega⟩;obtain ⟨g, l⟩ : ∃ g, L.ab[n]? = some g := ⟨_, Lb (by rw [hL.alen]; exact (La.1 ht).1)⟩;obtain ⟨y, j, c⟩ := hL.cells W h.im n g t l ht;have d := h.rows n g t l ht;have z := h.row.cellv (i := 1) (v := .slice L.aa L.ab.length L.acap) rfl;rw [j] at z;have o : (n : Int) < (L.ab.length : Int) := by have := (La.1 l).1; omega
 have ac := hs.arr_len (n := (n : Int)) (t := t) (by rw [Li]; exact ht);have q : (Qy t).toNat = (s.arr (n : Int)).length := by omega
 have m : n < s.arrs.length := by rw [hs.alen]; exact (La.1 ht).1
 rw [show s.cont n t = s.arr (n : Int) by unfold Ms.cont Ms.arr; rw [if_neg h0, Li]] at d;rw [show Jy t g = .iface 109 (.slice (some ⟨g, 0, none⟩) (s.arr (n : Int)).length (s.arr (n : Int)).length) by unfold Jy; rw [if_neg h0, q]] at c;refine Ag9 L hL s { s with arrs := s.arrs.set n ((s.arr (n : Int)).set k x) } (s.seta (n : Int) (k : Int) x) ev n t (k : Int) x g _ W h y j o c (fun f w => Afn (g := g) f w) ?_ rfl (by simp [Ms.seta]) rfl rfl rfl hf;refine (Agy g _ _ k x _ W (by omega) (by simp [Qi]) d).mono ?_;rintro e w1 ⟨rfl, r, r1⟩;refine ⟨rfl, h.setB hL l ht r ?_ (fun i hi => ⟨rfl, by simp [Ne.symm hi]⟩) rfl rfl rfl, RChg.onlyB r (Lg l)⟩;unfold Ms.cont;rw [if_neg h0];simp only [Nt m, LL];have : (Qi ((s.arr (n : Int)).set k x)).toArray = (Qi (s.arr (n : Int))).toArray.setIfInBounds k (.int .i64 x) := by simp [Qi, List.map_set]
 rw [this]; exact r1
def AfW (v : Int) (s : Ms) : Ending := match s.out with | none => .returned (.int .i64 v) | some o => Q7 o.1 o.2
theorem QR {v : Int} {s : Ms} (h : s.out = none) : AfW v s = .returned (.int .i64 v) := by unfold AfW; rw [h]
theorem Zl {v k x : Int} {s : Ms} (h : s.out = some (k, x)) : AfW v s = Q7 k x := by unfold AfW; rw [h]
def EntD (L : Lay) (t : Tr) (s : Ms) (v : Int) (s' : Ms) : Prop := ∀ (q : Nat) (ev : Value) (W : World), At L.p.body q t → DR L s ev W →
 Calls Tryz.prog 119 #[.pointer (some ⟨L.M, 0, none⟩), .int .i64 (q : Int)] W fun e W' => e = AfW v s' ∧ ∃ ev', DR L s' ev' W' ∧ RChg L ev W ev' W'
def Ke (L : Lay) : List Tr → Ms → List Int → Ms → Prop
 | [], s, vs, s' => vs = [] ∧ s' = s
 | t :: ts, s, vs, s' => ∃ v s1, EntD L t s v s1 ∧ ((s1.out.isSome = true ∧ s' = s1) ∨ (s1.out = none ∧ ∃ vs', vs = v :: vs' ∧ Ke L ts s1 vs' s'))
def FOwn (L : Lay) (ev : Value) (W : World) (b : Nat) (v : Value) (xs : List Int) : Prop := W.ownsRow b 3 1 v xs.length (Qi xs) ∧ ∀ g, v.ownBlock = some g → Far L ev W g
section
variable {L : Lay} {s : Ms} {ev ev' : Value} {W W' : World}
theorem FOwn.go {b : Nat} {v : Value} {xs : List Int} (h : FOwn L ev W b v xs) (hL : LOk0 L) (c : RChg L ev W ev' W') : FOwn L ev' W' b v xs := by
 refine ⟨⟨h.1.1, ?_⟩, fun g e => (h.2 g e).go c⟩;rcases h.1.2 with k | ⟨g, d, i, j, l, m, n⟩
 · exact .inl k
 · exact .inr ⟨g, d, i, j, l, ((h.2 g (by rw [j]; rfl)).same hL c).trans m, n⟩
theorem FOwn.frd {b : Nat} {v : Value} {xs : List Int} (h : FOwn L ev W b v xs) : ∃ A cap, v = .slice A xs.length cap ∧ FRd L ev W A (Qi xs) := by
 rcases h.1.2 with ⟨rfl, l⟩ | ⟨g, cap, k, j, _⟩
 · have n : xs = [] := Lx l;subst n;exact ⟨none, 0, rfl, Rd.nil _ _, fun i e => by cases e⟩
 · obtain ⟨A, d, c, m, _⟩ := AbI h.1;refine ⟨A, d, c, m, fun i e => h.2 i.block ?_⟩;rw [j] at c;injection c with e1;rw [← e1] at e;injection e with e;rw [j, ← e]; rfl
theorem DR.grown {row : Option Nat} (h : DR L s ev W) (hL : LOk0 L) (hg : W.grownBy W' row) (hr : ∀ g, row = some g → L.b1 ≤ g ∧ ev.ownBlock ≠ some g) : DR L s ev W' := by
 have d : ∀ k, k < L.b1 → row ≠ some k := fun k l e => by have := (hr k e).1; omega
 refine ⟨h.row.grown hg (d _ hL.lt), Q5 h.evs hg ?_, fun i g t c j => (h.rows i g t c j).grown hg (d _ (hL.alt g (Lg c)).1), hL.im _ _ h.im (.grown hg h.size (fun k e => (hr k e).1)), Le h.size hg.size, h.sum, h.few⟩;cases hrow : row with
 | none => exact .inl rfl
 | some g => exact .inr (hr g hrow).2
theorem RChg.more {row : Option Nat} {W0 : World} (h : RChg L ev W0 ev' W) (hg : W.grownBy W' row) (hr : ∀ g, row = some g → W0.heap.size ≤ g) : RChg L ev W0 ev' W' :=
 ⟨hg.os.trans h.os, hg.tape.trans h.tape, hg.output.trans h.output, Le h.size hg.size, fun k h0 h1 h2 h3 h4 => (hg.block k (Lc h0 h.size) (fun e => by have := hr k e.symm; omega)).trans (h.block k h0 h1 h2 h3 h4), h.evb⟩
end
theorem VD {p : PgV} {q : Nat} {x : Nd} {ks : List Tr} (h : At p.body q (.node x ks)) {i : Nat} {k : Tr} (hk : ks[i]? = some k) : ∃ qi, (QW (q + 1) ks)[i]? = some qi ∧ At p.body qi k := by
 have hi : i < (QW (q + 1) ks).length := by rw [Jd]; exact (La.1 hk).1
 exact ⟨_, Lb hi, (h.kids.spot i _ k (Lb hi) hk).1⟩
theorem Aci : ∀ {l : List Nd} {q : Nat} {ts : List Tr} (k : Nat) (t : Tr), Ats l q ts → ts[k]? = some t → ∃ qk, (QW q ts)[k]? = some qk ∧ Ats l qk (ts.drop k) ∧ At l qk t
 | l, q, u :: ts, 0, t, h, hk => by
  injection hk with hk
  subst hk
  exact ⟨q, by simp [QW], h, h.head⟩
 | l, q, u :: ts, k + 1, t, h, hk => by
  obtain ⟨qk, h1, h2, h3⟩ := Aci k t h.tail (by simpa using hk)
  exact ⟨qk, by rw [QW]; simpa using h1, by simpa using h2, h3⟩
theorem E9 : ∀ {ts : List Tr} {p k q : Nat} {t : Tr}, (QW p ts)[k]? = some q → ts[k]? = some t → k + 1 < ts.length → (QW p ts)[k + 1]? = some (q + t.size)
 | [], _, _, _, _, _, h, _ => by simp at h
 | [u], _, _, _, _, _, _, h => by simp at h
 | u :: u' :: ts, p, 0, q, t, h1, h2, _ => by
  simp only [QW, List.getElem?_cons_zero, LY] at h1 h2
  subst h1; subst h2
  simp [QW]
 | u :: u' :: ts, p, k + 1, q, t, h1, h2, h3 => by
  have := E9 (ts := u' :: ts) (p := p + u.size) (k := k) (q := q) (t := t) (by simpa [QW] using h1) (by simpa using h2) (by simpa using h3)
  rw [QW]; simpa using this
theorem Ag6 (L : Lay) (hL : DOk L) (s : Ms) (ev : Value) (q : Nat) (x : Nd) (ks : List Tr) (n : Nat) (qn : Nat) (W : World) (h : DR L s ev W) (hat : At L.p.body q (.node x ks)) (hn : (QW (q + 1) ks)[n]? = some qn) :
 Calls Tryz.prog 190 #[.pointer (some ⟨L.M, 0, none⟩), .int .i64 (q : Int), .int .i64 (n : Int)] W fun e W' => e = .returned (.int .i64 (qn : Int)) ∧ Below W.heap.size W W' := by
 have ad : n < ks.length := by have := (La.1 hn).1; rwa [Jd] at this
 have ai : q < L.p.body.length := hat.lt;have ag := hL.blen;have ah : ks.length ≤ 200 := by have c := hat.fits.arity; have w := JK x; simp only [Tr.root, Tr.kids] at c; omega
 have y := Lh hL;have Hm := Lh h;have z := Lh hat;have Hn := Lh hn;have ew : IntKind.i64.wrap ((q : Int) + 1) = (q : Int) + 1 := IntWalk.i64_in _ (by omega);clear hL h hat hn;go_enter Tryz.func190, Tryz.ntmps190
 go_wp2
 go_loopw [1, 10] (fun a i wr => ∃ (k r : Nat), a = .int .i64 (r : Int) ∧ i = .int .i64 (k : Int) ∧ k ≤ n ∧ Hid ((QW (q + 1) ks)[k]? = some r) ∧ Hid (Below W.heap.size W wr)) (fun _ i _ => n - (intOf i).toNat)
 case atStart => exact ⟨0, q + 1, rfl, rfl, Nat.zero_le _, Lh (by cases ks with | nil => simp at ad | cons t ts => simp [QW]), Lh (Below.refl _ _)⟩
 case round =>
  obtain ⟨k, r, rfl, rfl, hk, u, j⟩ := hrel;by_cases ac : k < n
  · have hm := Hm.out.below y.out j.out;have c0 := hm.row.cellv (i := 0) (v := .slice L.p.ba L.p.body.length L.p.bcap) rfl;have g : ks[k]? = some ks[k] := Lb (by omega);obtain ⟨o, c, w, h3⟩ := Aci k ks[k] z.out.kids g;have e1 : o = r := by have := u.out; simp only [Tr.kids] at c; rw [c] at this; injection this
    subst e1;have hz := h3.endZ
    have m : (QW (q + 1) ks)[k + 1]? = some (o + ks[k].size) := by
     have := E9 (p := q + 1) (ts := ks) (k := k) (q := o) (t := ks[k]) u.out g (by omega);exact this
    have ab := Lh m;have ae : decide ((k : Int) < (n : Int)) = true := by simp; omega
    have Hz := Lh hz;have d := Jq L.p.ba L.p.bcap L.p.body (o : Int) wr (y.out.pok _ hm.im).brd y.out.blen;have l := Lh d;clear hm g c w h3 hz m d;have af : IntKind.i64.wrap ((k : Int) + 1) = (k : Int) + 1 := IntWalk.i64_in _ (by omega);go_wp2_with fail
    refine l.out.mono ?_;rintro e w2 ⟨rfl, b2⟩;rw [Hz.out];have aa := Lh (j.out.trans (b2.mono j.out.size));clear b2 j c0 u;go_wp2
    go_roundw
    case rel => exact ⟨k + 1, o + ks[k].size, rfl, rfl, by omega, ab, aa⟩
    case measure => simp [intOf]; omega
  · obtain rfl : k = n := by omega
    have e1 : r = qn := by have c := u.out; have w := Hn.out; rw [w] at c; injection c with c; exact c.symm
    subst e1;clear ac hk;go_wp2
    go_ret
    exact ⟨rfl, j.out⟩
theorem AfS (L : Lay) (hL : DOk L) (ts : List Tr) (q : Nat) (s s' : Ms) (vs : List Int) (ev : Value) (W : World) (h : DR L s ev W) (hats : Ats L.p.body q ts) (hch : Ke L ts s vs s') (ho : s.out = none) (hl : ts.length ≤ 1000) :
 Calls Tryz.prog 191 #[.pointer (some ⟨L.M, 0, none⟩), .int .i64 (q : Int), .int .i64 (ts.length : Int)] W fun e W' => ∃ ev', DR L s' ev' W' ∧ RChg L ev W ev' W' ∧ ((∃ k x, s'.out = some (k, x) ∧ e = Q7 k x) ∨ (s'.out = none ∧ ∃ v, e = .returned v ∧ FOwn L ev' W' W.heap.size v vs)) := by
 have HL := Lh hL;have Hm := Lh h;have d := Lh hats;have l := Lh hch;have Ho := Lh ho;have bm := hL.blen;obtain ⟨i0, be, bf, bg, bh⟩ := info_parts Z9;clear hL h hats hch ho;go_enter Tryz.func191, Tryz.ntmps191
 go_wp2
 go_loopw [1, 7, 9] (fun a v i wr => ∃ (k qk : Nat) (vv : Value) (sk : Ms) (w : Value) (j av : List Int), vv = v ∧ a = .int .i64 (qk : Int) ∧ i = .int .i64 (k : Int) ∧ k ≤ ts.length ∧ Hid (Ats L.p.body qk (ts.drop k)) ∧ Hid (Ke L (ts.drop k) sk av s') ∧ Hid (sk.out = none) ∧ Hid (s'.out = none → j ++ av = vs) ∧ Hid (DR L sk w wr) ∧ Hid (FOwn L w wr W.heap.size v j) ∧ Hid (RChg L ev W w wr) ∧ Hid (j.length = k)) (fun _ _ i _ => ts.length - (intOf i).toNat)
 case atStart => exact ⟨0, q, _, s, ev, [], vs, rfl, rfl, rfl, Nat.zero_le _, d, l, Ho, Lh (fun _ => rfl), Hm, Lh ⟨by simpa [Qi] using World.ownsRow_nil W W.heap.size 3 1, fun g e => by cases e⟩, Lh (RChg.refl _ _ _), Lh rfl⟩
 case round =>
  clear d l Ho Hm;obtain ⟨k, qk, v, sk, w, j, av, rfl, rfl, rfl, hk, d, l, Ho, ay, Hm, r, HC, ao⟩ := hrel;by_cases a3 : k < ts.length
  · have hch := l.out;have hats := d.out;rw [LI a3] at hch hats;obtain ⟨x, s1, he, ak⟩ := hch;have ac := hats.head;have af := hats.tail;have z := Lh (he qk w wr ac Hm.out);have Hz := Lh ac.endZ;have ap := Lh af;have bj : decide ((k : Int) < (ts.length : Int)) = true := by simp; omega
    have bn := ao.out;have ai := Lh ak;clear hats he ac af ak l d;go_wp2_with fail
    refine z.out.mono ?_;rintro e wa ⟨rfl, u, a5, aq⟩;have n := Lh (r.out.go HL.out aq);have ag := Lh (HC.out.trans aq);have aa := Lh a5;clear z r HC Hm a5 aq;rcases ai.out with ⟨y, a7⟩ | ⟨y, bi, am, al⟩
    · obtain ⟨o, au⟩ := LK.1 y;obtain ⟨k1, x1⟩ := o;rw [Zl au];simp only [Q7];have bc := Lh au;have bd := Lh a7;clear y au a7;go_wp2
      rw [bd.out];exact ⟨rfl, u, aa.out, ag.out, .inl ⟨k1, x1, bc.out, rfl⟩⟩
    · rw [QR y];have bb := Lh y;have ax := Lh al;have az := Lh am;have ha := n.out.1.alloc (.cells #[.int .i64 x] 3);have HA := Lh ha;have bl := ag.out.size;clear y al am ha ai;go_wp2_with (at_builtin; refine wpList_append_own_at _ rfl (.tmp 11) (.tmp 15) 22 rfl W.heap.size 3 i0 (.int .i64 0) 1 8 Tryz.underlying22 be bf bg bh rfl (by decide) v j.length (Qi j) rfl HA.out ⟨wa.heap.size, 0, none⟩ 1 1 (Qi [x]) rfl rfl (Z0 _ _ _) (Jj _) (by unfold maxLen; omega) (by omega) (by simp; omega) ?_)
      intro v' W3 ad hg _ a1;have b1 : Below wa.heap.size wa (wa.alloc (.cells #[.int .i64 x] 3)) := (Below.refl _ _).alloc (Nat.le_refl _) _;have t : ∀ g, v.ownBlock = some g → Far L u (wa.alloc (.cells #[.int .i64 x] 3)) g := fun g e => (n.out.2 g e).go (.below b1);have a4 := (aa.out.below HL.out b1).grown HL.out hg (fun g e => ⟨(t g e).lo, (t g e).ev⟩);have a2 := (ag.out.trans (.below b1)).more hg (fun g e => QC HA.out e)
      have ae : FOwn L u W3 W.heap.size v' (j ++ [x]) := by
       refine ⟨by rw [JO]; have a6 := ao.out; simpa [a6] using ad, fun g e => ?_⟩;rcases a1 with h1 | h1
       · have := t g (h1 ▸ e);exact ⟨this.lo, this.ev, Lc this.lt hg.size⟩
       · rw [h1] at e;injection e with e;have bo : (wa.alloc (.cells #[.int .i64 x] 3)).heap.size = wa.heap.size + 1 := by simp only [World.alloc, Array.size_push]
         have h3 := ad.lt g (by rw [h1, e]);refine ⟨by have := aa.out.size; omega, fun e2 => ?_, h3.2⟩;have := aa.out.evs.lt _ e2;omega
      have ah := Lh a4;have aw := Lh a2;have ab := Lh ae;clear ad hg a1 b1 t a4 a2 ae HA aa n ag;have c0 := ah.out.row.cellv (i := 0) (v := .slice L.p.ba L.p.body.length L.p.bcap) rfl;have aj := Lh (Jq L.p.ba L.p.bcap L.p.body (qk : Int) W3 (HL.out.pok _ ah.out.im).brd HL.out.blen);have bk : IntKind.i64.wrap ((k : Int) + 1) = (k : Int) + 1 := IntWalk.i64_in _ (by omega);go_wp2_with fail
      refine aj.out.mono ?_;rintro e w4 ⟨rfl, b4⟩;rw [Hz.out];have a9 := Lh (ah.out.below HL.out b4);have ar : RChg L u W3 u w4 := .below b4;have a8 := Lh (aw.out.trans ar);have an := Lh (ab.out.go HL.out ar);clear b4 ar ah aw ab c0 aj;go_wp2
      go_roundw
      case rel => exact ⟨k + 1, qk + ts[k].size, _, s1, u, j ++ [x], bi, rfl, rfl, rfl, by omega, ap, ax, bb, Lh (fun hz => by rw [← ay.out hz, az.out]; simp), a9, an, a8, Lh (by simp [ao.out])⟩
      case measure => simp [intOf]; omega
  · obtain rfl : k = ts.length := by omega
    have hch := l.out;rw [List.drop_length] at hch;obtain ⟨rfl, rfl⟩ := hch;obtain ⟨A, m, c, rfl⟩ := Js r.out.1;have a0 : Hid (j = vs) := by have := ay.out Ho.out; rw [LU] at this; exact this
    clear a3 hk l d;go_wp2
    go_ret
    exact ⟨w, Hm.out, HC.out, .inr ⟨Ho.out, _, rfl, by rw [← a0.out]; exact r.out⟩⟩
end Go.Proofs.YtdcmppdhdcjpfaaGreat
