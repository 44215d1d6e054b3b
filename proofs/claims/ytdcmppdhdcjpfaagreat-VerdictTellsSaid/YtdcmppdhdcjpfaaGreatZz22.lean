/- Lemmas for VerdictTellsP. -/
import Derived.Test.YtdcmppdhdcjpfaaGreatZz1
import Derived.Test.YtdcmppdhdcjpfaaGreatZz21
import Derived.Test.YtdcmppdhdcjpfaaGreatZz7
import Derived.Lib.Overlaps
import Derived.Lib.AppendZerosOnto
set_option linter.unusedVariables false
set_option linter.unusedSimpArgs false
set_option maxRecDepth 100000
set_option maxHeartbeats 16000000
namespace Go.Proofs.YtdcmppdhdcjpfaaGreat
open Go.RowKit Go.Deep
theorem AeZ {ops : Array Oper} {rest : List Oper} {o : Oper} {a : Act} {w : World} {Q : Exit → Act → World → Prop} (s x : Operand) (t u : TypeId) (_ : o.op = .call { callee := .builtin .copy, args := #[s, x], argTypes := #[t, u] }) (h : Stop (wpList Tryz.prog ops Q (o :: rest) a w) id) : wpList Tryz.prog ops Q (o :: rest) a w := h.out
theorem AcN (g J cap i : Nat) (l : List Nd) (y : Nd) (cur : Array Value) (w : World) (hg : Row w g 85 cur) (hs : cur.size = cap * 2) (ht : cur.toList.take (l.length * 2) = l.flatMap Nd.cells) (hn : l.length + 1 ≤ cap) (hc : cap ≤ maxLen) (hl : l.length ≤ 1000) (hi : i < l.length) (hJ : Row w J 85 #[.int .i64 y.tag, .int .i64 y.n]) (hne : J ≠ g) (B : Nat) (hB : B ≤ g) :
 Calls Tryz.prog 185 #[.slice (some ⟨g, 0, none⟩) l.length cap, .int .i64 (i : Int), .slice (some ⟨J, 0, none⟩) 1 1] w fun e w' => e = .returned (.slice (some ⟨g, 0, none⟩) (l.length + 1) cap) ∧ (∃ cur', Row w' g 85 cur' ∧ cur'.size = cap * 2 ∧ cur'.toList.take ((l.length + 1) * 2) = (l.take i ++ y :: l.drop i).flatMap Nd.cells) ∧ Below B w w' := by
 have r : ∀ (W : World) (lb z : Nat), Row W J 85 #[.int .i64 y.tag, .int .i64 y.n] → Row W g 85 cur → (callFunc 247 #[.slice (some ⟨J, 0, none⟩) 1 1, .slice (some ⟨g, (i + 1) * 2, none⟩) lb z]).run Tryz.prog W = .ok (.value (.bool false)) W := fun W lb z h1 h2 => by
  rw [run_callFunc_extern Tryz.func247 (by kernel_rfl) (by kernel_rfl) (by kernel_rfl) (e := Extern.SlicesOverlaps.overlaps #[23, 23] #[4]) (by kernel_rfl),
   Lib.run_overlaps_apart W 23 4 85 Tryz.underlying23 2 (fun W => by kernel_rfl) ⟨J, 0, none⟩ ⟨g, (i + 1) * 2, none⟩ 1 1 lb z hne 85 85 2 cur.size (by simp [World.shape?, show W.heap[J]? = _ from h1]) (by simp [World.shape?, show W.heap[g]? = _ from h2]) (by omega) (by simp [World.frozen?, show W.heap[J]? = _ from h1]) (by simp [World.frozen?, show W.heap[J]? = _ from h1])]
  rfl
 obtain ⟨n, b⟩ : ∃ n, n = l.length := ⟨_, rfl⟩;rw [← b] at ht hn hl hi ⊢;have k := fun lb z => r w lb z hJ hg
 have ae := Lh r;have Ht := Lh (And.intro b (And.intro hs ht));have z1 : ¬ ((i : Int) = (n : Int)) := by omega
 have z2 : ¬ ((cap : Int) < (n : Int) + 1) := by omega
 have z3 : (i : Int) ≤ (n : Int) := by omega
 have z4 : IntKind.i64.wrap ((i : Int) + 1) = (i : Int) + 1 := by rw [IntKind.wrap_i64]; omega
 have z5 : IntKind.i64.wrap ((n : Int) + 1) = (n : Int) + 1 := by rw [IntKind.wrap_i64]; omega
 have z6 : (0 : Int) ≤ (i : Int) + 1 := by omega
 have z7 : ((i : Int) + 1).toNat = i + 1 := by omega
 have z8 : ((n : Int) + 1).toNat = n + 1 := by omega
 have z9 : (n : Int) + 1 ≤ (cap : Int) := by omega
 have y1 : ¬ (cap = i) := by omega
 have y2 : ¬ (cap = i + 1) := by omega
 have y3 : ¬ (cap = 0) := by omega
 have y4 : (i : Int) + 1 ≤ (n : Int) + 1 := by omega
 have y5 : (i : Int) ≤ (n : Int) + 1 := by omega
 clear r b hs ht;go_enter Tryz.func185, Tryz.ntmps185
 go_wp2_with (simp only [k])
 obtain ⟨S, c⟩ : ∃ S, S = (fun W => (Row W g 85 cur ∧ Row W J 85 #[.int .i64 y.tag, .int .i64 y.n]) ∧ Below w.heap.size w W) := ⟨_, rfl⟩;have ag : St S := by rw [c]; infer_instance
 have TG : Hid (∀ W, S W → Row W g 85 cur) := by show ∀ W, _; rw [c]; exact fun W h => h.1.1
 have TJ : Hid (∀ W, S W → Row W J 85 #[.int .i64 y.tag, .int .i64 y.n]) := by show ∀ W, _; rw [c]; exact fun W h => h.1.2
 have TB : Hid (∀ W, S W → Below w.heap.size w W) := by show ∀ W, _; rw [c]; exact fun W h => h.2
 have hS : S w := by rw [c]; exact ⟨⟨hg, hJ⟩, Below.refl _ _⟩
 have af := hg.lt;clear c hg hJ k ae;refine Zo S 8 (by kernel_rfl) (by kernel_rfl) (St.drew hS) ?_;clear hS;simp only [L0, LE, Ly, L8]
 iterate 8 (refine Qf rfl ?_ (fun W p => ?_) ?_; rotate_left; (focus (go_simp; exact rfl)); simp only [Act.put, Qa, Qb, Qc])
 refine QG fun W p => ?_
 obtain ⟨b, ac, t⟩ := Ht.out;have q : ((l.drop i).flatMap Nd.cells).length = (n - i) * 2 := by rw [Z6, LM, b]
 have m : ∀ j v, ((l.drop i).flatMap Nd.cells)[j]? = some v → cur[i * 2 + j]? = some v := by
  intro j v hj;have ah := (Lb.1 hj).1;have ab : ((l.take i).flatMap Nd.cells).length = i * 2 := by rw [Z6, L4]; congr 1; omega
  have e : (l.flatMap Nd.cells)[i * 2 + j]? = some v := by
   rw [← LD i l, L2, Ls (by omega), ab, Nv];exact hj
  rw [← t, LP (by omega)] at e;simpa using e
 have aa := fun ty dc sc => Kq (P := Tryz.prog) W 23 23 ty 85 2 g ((i + 1) * 2) (n - i) dc ⟨g, i * 2, none⟩ (n + 1 - i) sc cur 85 ((l.drop i).flatMap Nd.cells) Tryz.underlying23 (by kernel_rfl) (TG.out W p) (by rw [q]; simp only [Nat.min_def]; split <;> omega) (Row.from_ (TG.out W p) (i * 2) m) (by omega) (VB _)
 have r1 : Row (W.setRow g (ZI cur ((i + 1) * 2) ((l.drop i).flatMap Nd.cells))) g 85 (ZI cur ((i + 1) * 2) ((l.drop i).flatMap Nd.cells)) := setRow_heap W g cur _ _ _ (TG.out W p);have o1 := Zu W g (ZI cur ((i + 1) * 2) ((l.drop i).flatMap Nd.cells));have u := (TJ.out W p).only o1 hne;have b1 := Qp ((TB.out W p).mono (Nat.le_of_lt (N5 hB af))) o1 hB;have s := Age (cur := cur) (l := l) (n := n) (i := i) (cap := cap) y b.symm ac hn (by omega) t
 have ad : (ZI cur ((i + 1) * 2) ((l.drop i).flatMap Nd.cells)).size = cap * 2 := by
  unfold ZI; simp only [Lk, Le, L4, LM, LT, q]; omega
 clear b ac t q m;refine Q9 rfl _ (JH rfl (aa _ _ _)) ?_;generalize W.setRow g (ZI cur ((i + 1) * 2) ((l.drop i).flatMap Nd.cells)) = W1 at r1 o1 u b1 ⊢;generalize ZI cur ((i + 1) * 2) ((l.drop i).flatMap Nd.cells) = c1 at r1 s ad ⊢;have d := fun ty dc => Kq (P := Tryz.prog) W1 23 23 ty 85 2 g (i * 2) (n + 1 - i) dc ⟨J, 0, none⟩ 1 1 c1 85 y.cells Tryz.underlying23 (by kernel_rfl) r1 (by show 2 = _; simp only [Nat.min_def]; split <;> omega) (Row.from_ u 0 (fun j v hj => by rw [LI]; simpa [Nd.cells] using hj)) (by show i * 2 + 2 ≤ _; omega) (by simp [Nd.cells, Value.oneCell'])
 have r2 : Row (W1.setRow g (ZI c1 (i * 2) y.cells)) g 85 (ZI c1 (i * 2) y.cells) := setRow_heap W1 g c1 _ _ _ r1;have o2 := Zu W1 g (ZI c1 (i * 2) y.cells);have b2 := Qp b1 o2 hB
 have o : (ZI c1 (i * 2) y.cells).size = cap * 2 := by
  unfold ZI; simp only [Lk, Le, L4, LM, LT, show y.cells.length = 2 from rfl]; omega
 have HF := Lh (And.intro (show ∃ cur', Row (W1.setRow g (ZI c1 (i * 2) y.cells)) g 85 cur' ∧ cur'.size = cap * 2 ∧ cur'.toList.take ((n + 1) * 2) = (l.take i ++ y :: l.drop i).flatMap Nd.cells from ⟨_, r2, o, s⟩) b2);have x := Lh d;clear aa r1 o1 u b1 s ad r2 o2 b2 o d p ag TG TJ TB Ht;go_wp2_with (refine AeZ _ _ _ _ rfl ?_)
 refine Stop.to ?_;refine Q9 rfl _ (JH rfl (x.out _ _)) ?_;go_wp2_with fail
 go_ret
 exact ⟨rfl, HF.out.1, HF.out.2⟩
theorem AiQ (z : Array Value) (k : Nat) : (Builtin.zeroCells z k).size = k * z.size := by simp [Builtin.zeroCells]
theorem Ahl {R : Array Value} {l : List Nd} {n i G : Nat} (y : Nd) (hl : l.length = n) (hR : R.size = G * 2) (hn : n + 1 ≤ G) (hi : i ≤ n) (ht : R.toList.take (i * 2) = (l.take i).flatMap Nd.cells) :
 (ZI (ZI R (i * 2) y.cells) ((i + 1) * 2) ((l.drop i).flatMap Nd.cells)).toList.take ((n + 1) * 2) = (l.take i ++ y :: l.drop i).flatMap Nd.cells ∧ (ZI (ZI R (i * 2) y.cells) ((i + 1) * 2) ((l.drop i).flatMap Nd.cells)).size = G * 2 := by
 have e : ((l.drop i).flatMap Nd.cells).length = (n - i) * 2 := by rw [Z6, LM, hl]
 have c : y.cells.length = 2 := rfl;have b : R.toList.length = G * 2 := by rw [LT, hR]
 have d : (R.toList.take (i * 2)).length = i * 2 := by rw [L4]; omega
 constructor
 · rw [L2, LC, ← ht];unfold ZI;simp only [List.toList_toArray];have h : (R.toList.take (i * 2) ++ y.cells ++ R.toList.drop (i * 2 + y.cells.length)).take ((i + 1) * 2) = R.toList.take (i * 2) ++ y.cells := N1 (by rw [Le, d, c]; omega);rw [h]
   have g : (R.toList.take (i * 2) ++ y.cells ++ (l.drop i).flatMap Nd.cells).length = (n + 1) * 2 := by
    simp only [Le, d, e, c]; omega
   rw [N1 g, Lx]
 · unfold ZI;simp only [Lk, Le, L4, LM, e, c, b];omega
theorem AcM (g J i : Nat) (l : List Nd) (y : Nd) (cur : Array Value) (w : World) (hg : Row w g 85 cur) (hs : cur.size = l.length * 2) (ht : cur.toList = l.flatMap Nd.cells) (hl : l.length ≤ 1000) (hi : i < l.length) (hJ : Row w J 85 #[.int .i64 y.tag, .int .i64 y.n]) :
 Calls Tryz.prog 185 #[.slice (some ⟨g, 0, none⟩) l.length l.length, .int .i64 (i : Int), .slice (some ⟨J, 0, none⟩) 1 1] w fun e w' => ∃ N G cur', e = .returned (.slice (some ⟨N, 0, none⟩) (l.length + 1) G) ∧ w.heap.size ≤ N ∧ l.length + 1 ≤ G ∧ G ≤ maxLen ∧ Row w' N 85 cur' ∧ cur'.size = G * 2 ∧ cur'.toList.take ((l.length + 1) * 2) = (l.take i ++ y :: l.drop i).flatMap Nd.cells ∧ Below w.heap.size w w' := by
 obtain ⟨n, o⟩ : ∃ n, n = l.length := ⟨_, rfl⟩;rw [← o] at hs hl hi ⊢;obtain ⟨i0, aj, am, an, aa⟩ := info_parts (P := Tryz.prog) (e := 85) (z := .agg #[.int .i64 0, .int .i64 0]) (size := 2) (bytes := 16) (by kernel_rfl);have b : ((l.take i).flatMap Nd.cells).length = i * 2 := by rw [Z6, L4]; congr 1; omega
 have m : ∀ (j : Nat) (v : Value), ((l.take i).flatMap Nd.cells)[j]? = some v → cur[j]? = some v := by
  intro j v r;have ar := (Lb.1 r).1
  have e : (l.flatMap Nd.cells)[j]? = some v := by
   rw [← LD i l, L2, Lw (by omega)];exact r
  rw [← ht] at e;simpa using e
 have ai : ((l.drop i).flatMap Nd.cells).length = (n - i) * 2 := by rw [Z6, LM, o]
 have t : ∀ (j : Nat) (v : Value), ((l.drop i).flatMap Nd.cells)[j]? = some v → cur[i * 2 + j]? = some v := by
  intro j v r
  have e : (l.flatMap Nd.cells)[i * 2 + j]? = some v := by
   rw [← LD i l, L2, Ls (by omega), b, Nv];exact r
  rw [← ht] at e;simpa using e
 have gD : Row w.drew g 85 cur := (St.drew (S := fun W => Row W g 85 cur) hg)
 have s : (Builtin.firstCells i0.size i (.slice (some ⟨g, 0, none⟩) i n)).run Tryz.prog w.drew = .ok ((l.take i).flatMap Nd.cells).toArray w.drew := by
  rw [an];exact run_firstCells_some w.drew 2 i ⟨g, 0, none⟩ i n _ b (Row.from_ (cur := cur) gD 0 (fun j v r => by rw [LI]; exact m j v r))
 obtain ⟨G, hG⟩ : ∃ G, G = grownCap w (n + 1) n 85 := ⟨_, rfl⟩;have ae : n + 1 ≤ G := by rw [hG]; exact grownCap_ge w _ _ _
 have ad : G ≤ maxLen := by rw [hG]; exact grownCap_le_maxLen w (n + 1) n _ (by unfold maxLen; omega)
 obtain ⟨R, hR⟩ : ∃ R : Array Value, R = ((l.take i).flatMap Nd.cells).toArray ++ Builtin.zeroCells (Value.agg #[.int .i64 0, .int .i64 0]).cells (n + 1 - i) ++ Builtin.zeroCells (Value.agg #[.int .i64 0, .int .i64 0]).cells (G - (n + 1)) := ⟨_, rfl⟩
 have af : R.size = G * 2 := by
  rw [hR];simp only [Array.size_append, Lk, b, AiQ, show (Value.agg #[.int .i64 0, .int .i64 0]).cells.size = 2 from rfl];omega
 have ag : R.toList.take (i * 2) = (l.take i).flatMap Nd.cells := by
  rw [hR];simp only [Array.toList_append, Lx];exact N1 b
 have p : ∀ ty (k : Int), k = ((n + 1 - i : Nat) : Int) → (Builtin.append_ #[23, 3] ty #[.slice (some ⟨g, 0, none⟩) i n, .int .i64 k]).run Tryz.prog w =
  .ok (.slice (some ⟨w.heap.size, 0, none⟩) (n + 1) G) (w.drew.alloc (.cells R 85)) := fun ty k hk => by
  have h := Lib.run_append_grow_zeros w 23 3 ty 85 i0 _ .i64 .i64 Tryz.underlying23 Tryz.underlying3 aj am (some ⟨g, 0, none⟩) i n _ s (n + 1 - i) (by omega) (by omega) (by omega) (by omega) (by rw [aa]; omega) (by rw [aa, show i + (n + 1 - i) = n + 1 by omega]; exact growslice_fits (by omega) (by omega));rw [show i + (n + 1 - i) = n + 1 by omega, ← hG, ← hR] at h;rw [hk];exact h
 have r0 : Row (w.drew.alloc (.cells R 85)) w.heap.size 85 R := Row.new w.drew 85 R;have bW : Below w.heap.size w (w.drew.alloc (.cells R 85)) := St.alloc (S := fun W => Below w.heap.size w W) (St.drew (S := fun W => Below w.heap.size w W) (Below.refl _ _)) _;have gW : Row (w.drew.alloc (.cells R 85)) g 85 cur := hg.below bW hg.lt;have jW : Row (w.drew.alloc (.cells R 85)) J 85 #[.int .i64 y.tag, .int .i64 y.n] := hJ.below bW hJ.lt;obtain ⟨N, hN⟩ : ∃ N, N = w.heap.size := ⟨_, rfl⟩;have ao : g ≠ N := by have := hg.lt; omega
 have aq : J ≠ N := by have := hJ.lt; omega
 have d : w.heap.size ≤ N := by omega
 rw [← hN] at r0 p;generalize w.drew.alloc (.cells R 85) = W1 at p r0 bW gW jW;have ac := Lh p;have ab := Lh (And.intro ad o);have Hs := Lh t;have Hd := Lh ai;have HR := Lh (And.intro af ag);clear hG hR af ag s gD m b hs ht aj am an aa hg hJ hN p t ai o ad;have z1 : ¬ ((i : Int) = (n : Int)) := by omega
 have z2 : (n : Int) < (n : Int) + 1 := by omega
 have z3 : (i : Int) ≤ (n : Int) := by omega
 have z4 : IntKind.i64.wrap ((i : Int) + 1) = (i : Int) + 1 := by rw [IntKind.wrap_i64]; omega
 have z5 : IntKind.i64.wrap ((n : Int) + 1) = (n : Int) + 1 := by rw [IntKind.wrap_i64]; omega
 have z9 : IntKind.i64.wrap ((n : Int) + 1 - (i : Int)) = (n : Int) + 1 - (i : Int) := by rw [IntKind.wrap_i64]; omega
 have z6 : (0 : Int) ≤ (i : Int) + 1 := by omega
 have z7 : ((i : Int) + 1).toNat = i + 1 := by omega
 have z8 : ((n : Int) + 1).toNat = n + 1 := by omega
 have y1 : ¬ (G = i) := by omega
 have y2 : ¬ (G = i + 1) := by omega
 have y3 : ¬ (n = i) := by omega
 have y4 : (i : Int) + 1 ≤ (n : Int) + 1 := by omega
 have y5 : (i : Int) ≤ (n : Int) + 1 := by omega
 go_enter Tryz.func185, Tryz.ntmps185
 go_wp2_with (first
  | (at_builtin; refine Lib.wpList_append_run _ rfl _ _ _ _ rfl _ _ rfl rfl _ _ (ac.out _ _ (by omega)) ?_)
  | (refine AeZ _ _ _ _ rfl ?_))
 refine Stop.to ?_;have ah := fun ty dc => Kq (P := Tryz.prog) W1 23 23 ty 85 2 N (i * 2) (n + 1 - i) dc ⟨J, 0, none⟩ 1 1 R 85 y.cells Tryz.underlying23 (by kernel_rfl) r0 (by show 2 = _; simp only [Nat.min_def]; split <;> omega) (Row.from_ jW 0 (fun j v r => by rw [LI]; simpa [Nd.cells] using r)) (by show i * 2 + 2 ≤ _; have := HR.out.1; omega) (by simp [Nd.cells, Value.oneCell'])
 refine Q9 rfl _ (JH rfl (ah _ _)) ?_;have r1 : Row (W1.setRow N (ZI R (i * 2) y.cells)) N 85 (ZI R (i * 2) y.cells) := setRow_heap W1 N R _ _ _ r0;have o1 := Zu W1 N (ZI R (i * 2) y.cells);have g1 := gW.only o1 ao;have b1 := Qp bW o1 d;have u := Lh (Ahl (R := R) (l := l) (n := n) (i := i) (G := G) y ab.out.2.symm HR.out.1 ae (by omega) HR.out.2)
 have al : (ZI R (i * 2) y.cells).size = G * 2 := by
  unfold ZI; simp only [Lk, Le, L4, LM, LT, show y.cells.length = 2 from rfl]; have := HR.out.1; omega
 have x := Lh al;generalize W1.setRow N (ZI R (i * 2) y.cells) = W2 at r1 o1 g1 b1 ⊢;generalize ZI R (i * 2) y.cells = c1 at r1 u x;obtain ⟨S, c⟩ : ∃ S, S = (fun W => (Row W N 85 c1 ∧ Row W g 85 cur) ∧ Below w.heap.size w W) := ⟨_, rfl⟩;have ap : St S := by rw [c]; infer_instance
 have TN : Hid (∀ W, S W → Row W N 85 c1) := by show ∀ W, _; rw [c]; exact fun W h => h.1.1
 have TG : Hid (∀ W, S W → Row W g 85 cur) := by show ∀ W, _; rw [c]; exact fun W h => h.1.2
 have TB : Hid (∀ W, S W → Below w.heap.size w W) := by show ∀ W, _; rw [c]; exact fun W h => h.2
 have hS : S W2 := by rw [c]; exact ⟨⟨r1, g1⟩, b1⟩
 clear c r1 g1 b1 o1 ah al r0 bW gW jW ac HR;go_wp2_with fail
 refine Zo S 8 (by kernel_rfl) (by kernel_rfl) (St.drew hS) ?_;clear hS;simp only [L0, LE, Ly, L8]
 iterate 8 (refine Qf rfl ?_ (fun W hW => ?_) ?_; rotate_left; (focus (go_simp; exact rfl)); simp only [Act.put, Qa, Qb, Qc])
 refine QG fun W hW => ?_
 have ak := Row.from_ (cur := cur) (TG.out W hW) (i * 2) Hs.out;have q := fun ty dc sc => Kq (P := Tryz.prog) W 23 23 ty 85 2 N ((i + 1) * 2) (n - i) dc ⟨g, i * 2, none⟩ (n - i) sc c1 85 ((l.drop i).flatMap Nd.cells) Tryz.underlying23 (by kernel_rfl) (TN.out W hW) (by rw [Hd.out]; simp only [Nat.min_def]; split <;> omega) ak (by rw [Hd.out, x.out]; omega) (VB _)
 refine Q9 rfl _ (JH rfl (q _ _ _)) ?_;have r2 : Row (W.setRow N (ZI c1 ((i + 1) * 2) ((l.drop i).flatMap Nd.cells))) N 85 (ZI c1 ((i + 1) * 2) ((l.drop i).flatMap Nd.cells)) := setRow_heap W N c1 _ _ _ (TN.out W hW);have o2 := Zu W N (ZI c1 ((i + 1) * 2) ((l.drop i).flatMap Nd.cells));have b2 := Qp (TB.out W hW) o2 d;have HF := Lh (And.intro r2 (And.intro u.out b2));clear ak q r2 o2 b2 hW TN TG TB ap Hs Hd u x;go_wp2_with fail
 go_ret
 exact ⟨N, G, _, rfl, d, ae, ab.out.1, HF.out.1, HF.out.2.1.2, HF.out.2.1.1, HF.out.2.2⟩
theorem AgJ (p : PgV) (q : Nat) (t : Tr) (w : World) (hat : At p.body q t) (hbl : p.body.length ≤ 1000) (hok : p.ok w) (h : t.root.tag = 21 ∨ t.root.tag = 22 ∨ t.root.tag = 23 ∨ t.root.tag = 24 ∨ t.root.tag = 25) :
 Calls Tryz.prog 113 #[.agg (Zz p q 0)] w fun e w' => NdsR (p.body.take q ++ ([⟨26, 0⟩] ++ p.body.drop (q + t.size))) w w' e := by
 have Hn : Hid (∀ W, Below w.heap.size w W → Calls Tryz.prog 182 #[.agg (Zz p q 0)] W fun e w' => e = .returned (.agg #[.int .i64 t.root.tag, .int .i64 t.root.n]) ∧ Below W.heap.size W w') := fun W b => KP p q 0 t.root W hat.root (hok.go b)
 have Hr : Hid (∀ W, Below w.heap.size w W → ∀ G, Row W G 85 #[.int .i64 26, .int .i64 0] → Calls Tryz.prog 184 #[.slice p.ba p.body.length p.bcap, .int .i64 (q : Int), .slice (some ⟨G, 0, none⟩) 1 1] W fun e w' => NdsR (p.body.take q ++ ([⟨26, 0⟩] ++ p.body.drop (q + t.size))) W w' e) := fun W b G hG =>
  Afp p.ba (some ⟨G, 0, none⟩) p.bcap 1 p.body [⟨26, 0⟩] q t W hat (hok.go b).brd (JZ (cs := [.int .i64 26, .int .i64 0]) hG) (fun e => by cases e) hbl (by simp) hok.blen hok.bmax
 obtain ⟨k, hk⟩ : ∃ k, k = t.root.tag := ⟨_, rfl⟩;obtain ⟨m, hm⟩ : ∃ m, m = t.root.n := ⟨_, rfl⟩;obtain ⟨r, hr⟩ : ∃ r, r = p.body.take q ++ ([⟨26, 0⟩] ++ p.body.drop (q + t.size)) := ⟨_, rfl⟩;rw [← hk] at h;rw [← hk, ← hm] at Hn;rw [← hr] at Hr ⊢;have f0 := YA k m;clear hk hm hr hat hbl hok;go_enter Tryz.func113, Tryz.ntmps113
 go_wp2_with (refine Qn _ _ rfl ?_)
 refine Stop.to ?_;refine Qe rfl 176 _ rfl (Zz p q 0) rfl ?_;intro G Gw Gh Gr Gb;have b1 := (Below.refl w.heap.size w).trans (Gb.mono Gh);have Hc := Lh (Hn.out _ b1);clear Gb Gh Hn;go_wp2_with (refine wpList_load_row rfl 176 _ rfl G rfl 176 (Zz p q 0) (0, 0) _ Gr Tryz.underlying176 rfl (by kernel_rfl) ?_)
 refine Hc.out.mono ?_;rintro e w1 ⟨rfl, b2⟩;have aa := Gr.below b2 Gr.lt;have b4 := b1.trans (b2.mono b1.size);have g2 := aa.cellv (i := 2) (v := .slice p.ba p.body.length p.bcap) rfl;have g3 := aa.cellv (i := 3) (v := .int .i64 q) rfl;have g4 := aa.cellv (i := 4) (v := .int .i64 0) rfl;clear Gr b1 b2 Hc aa;rcases h with rfl | rfl | rfl | rfl | rfl
 all_goals
  go_wp2_with (refine Zw _ _ _ rfl ?_)
  skip
 · refine Stop.to ?_;refine Qy rfl 23 1 _ rfl 85 #[.int .i64 26, .int .i64 0] (fun W => by kernel_rfl) ?_;intro J Jw o s l;have y := (Below.refl w1.heap.size w1).trans (l.mono o);have j := b4.trans (y.mono b4.size);have H := Lh (Hr.out Jw j J s);clear s l o y Hr;go_wp2_with fail
   refine H.out.mono ?_;rintro e w3 ⟨v, rfl, c, u⟩;have x := j.trans (u.mono j.size);have d := QK c j.size;obtain ⟨z, g⟩ : ∃ z, z = (r).length := ⟨_, rfl⟩;rw [← g] at d c;obtain ⟨A3, c3, rfl⟩ := Zl c;have HF := Lh d;have HN := Lh g;have H4 := Lh x;clear c d g u x j H;go_wp2_with fail
   go_ret
   exact ⟨_, rfl, by rw [← HN.out]; exact HF.out, H4.out⟩
 · refine Stop.to ?_;refine Qy rfl 23 1 _ rfl 85 #[.int .i64 26, .int .i64 0] (fun W => by kernel_rfl) ?_;intro J Jw o s l;have y := (Below.refl w1.heap.size w1).trans (l.mono o);have j := b4.trans (y.mono b4.size);have H := Lh (Hr.out Jw j J s);clear s l o y Hr;go_wp2_with fail
   refine H.out.mono ?_;rintro e w3 ⟨v, rfl, c, u⟩;have x := j.trans (u.mono j.size);have d := QK c j.size;obtain ⟨z, g⟩ : ∃ z, z = (r).length := ⟨_, rfl⟩;rw [← g] at d c;obtain ⟨A3, c3, rfl⟩ := Zl c;have HF := Lh d;have HN := Lh g;have H4 := Lh x;clear c d g u x j H;go_wp2_with fail
   go_ret
   exact ⟨_, rfl, by rw [← HN.out]; exact HF.out, H4.out⟩
 · refine Stop.to ?_;refine Qy rfl 23 1 _ rfl 85 #[.int .i64 26, .int .i64 0] (fun W => by kernel_rfl) ?_;intro J Jw o s l;have y := (Below.refl w1.heap.size w1).trans (l.mono o);have j := b4.trans (y.mono b4.size);have H := Lh (Hr.out Jw j J s);clear s l o y Hr;go_wp2_with fail
   refine H.out.mono ?_;rintro e w3 ⟨v, rfl, c, u⟩;have x := j.trans (u.mono j.size);have d := QK c j.size;obtain ⟨z, g⟩ : ∃ z, z = (r).length := ⟨_, rfl⟩;rw [← g] at d c;obtain ⟨A3, c3, rfl⟩ := Zl c;have HF := Lh d;have HN := Lh g;have H4 := Lh x;clear c d g u x j H;go_wp2_with fail
   go_ret
   exact ⟨_, rfl, by rw [← HN.out]; exact HF.out, H4.out⟩
 · refine Stop.to ?_;refine Qy rfl 23 1 _ rfl 85 #[.int .i64 26, .int .i64 0] (fun W => by kernel_rfl) ?_;intro J Jw o s l;have y := (Below.refl w1.heap.size w1).trans (l.mono o);have j := b4.trans (y.mono b4.size);have H := Lh (Hr.out Jw j J s);clear s l o y Hr;go_wp2_with fail
   refine H.out.mono ?_;rintro e w3 ⟨v, rfl, c, u⟩;have x := j.trans (u.mono j.size);have d := QK c j.size;obtain ⟨z, g⟩ : ∃ z, z = (r).length := ⟨_, rfl⟩;rw [← g] at d c;obtain ⟨A3, c3, rfl⟩ := Zl c;have HF := Lh d;have HN := Lh g;have H4 := Lh x;clear c d g u x j H;go_wp2_with fail
   go_ret
   exact ⟨_, rfl, by rw [← HN.out]; exact HF.out, H4.out⟩
 · refine Stop.to ?_;refine Qy rfl 23 1 _ rfl 85 #[.int .i64 26, .int .i64 0] (fun W => by kernel_rfl) ?_;intro J Jw o s l;have y := (Below.refl w1.heap.size w1).trans (l.mono o);have j := b4.trans (y.mono b4.size);have H := Lh (Hr.out Jw j J s);clear s l o y Hr;go_wp2_with fail
   refine H.out.mono ?_;rintro e w3 ⟨v, rfl, c, u⟩;have x := j.trans (u.mono j.size);have d := QK c j.size;obtain ⟨z, g⟩ : ∃ z, z = (r).length := ⟨_, rfl⟩;rw [← g] at d c;obtain ⟨A3, c3, rfl⟩ := Zl c;have HF := Lh d;have HN := Lh g;have H4 := Lh x;clear c d g u x j H;go_wp2_with fail
   go_ret
   exact ⟨_, rfl, by rw [← HN.out]; exact HF.out, H4.out⟩
theorem AgB (p : PgV) (q : Nat) (n : Int) (t c : Tr) (w : World) (hat : At p.body q t) (hac : At p.body (q + 1) c) (hbl : p.body.length ≤ 1000) (hok : p.ok w) (h : t.root.tag = 25) :
 Calls Tryz.prog 115 #[.agg (Zz p q n)] w fun e w' => NdsR (p.body.take (q + 1) ++ ([⟨1, n⟩] ++ p.body.drop (q + 1 + c.size))) w w' e := by
 have u : Hid (∀ W, Below w.heap.size w W → Calls Tryz.prog 182 #[.agg (Zz p q n)] W fun e w' => e = .returned (.agg #[.int .i64 25, .int .i64 t.root.n]) ∧ Below W.heap.size W w') := fun W b => by rw [← h]; exact KP p q n t.root W hat.root (hok.go b)
 have x : Hid (∀ W, Below w.heap.size w W → ∀ G, Row W G 85 #[.int .i64 1, .int .i64 n] → Calls Tryz.prog 184 #[.slice p.ba p.body.length p.bcap, .int .i64 ((q : Int) + 1), .slice (some ⟨G, 0, none⟩) 1 1] W fun e w' => NdsR (p.body.take (q + 1) ++ ([⟨1, n⟩] ++ p.body.drop (q + 1 + c.size))) W w' e) := fun W b G hG =>
  Afp p.ba (some ⟨G, 0, none⟩) p.bcap 1 p.body [⟨1, n⟩] (q + 1) c W hac (hok.go b).brd (JZ (cs := [.int .i64 1, .int .i64 n]) hG) (fun e => by cases e) hbl (by simp) hok.blen hok.bmax
 obtain ⟨m, hm⟩ : ∃ m, m = t.root.n := ⟨_, rfl⟩;obtain ⟨r, hr⟩ : ∃ r, r = p.body.take (q + 1) ++ ([⟨1, n⟩] ++ p.body.drop (q + 1 + c.size)) := ⟨_, rfl⟩;have aa : (q : Int) ≤ 1000 := by have := hat.lt; omega
 rw [← hm] at u;rw [← hr] at x ⊢;have f0 := YA 25 m;clear hm hr hat hac hbl hok h;go_enter Tryz.func115, Tryz.ntmps115
 go_wp2_with (refine Qn _ _ rfl ?_)
 refine Stop.to ?_;refine Qe rfl 176 _ rfl (Zz p q n) rfl ?_;intro G Gw Gh o z;have s := (Below.refl w.heap.size w).trans (z.mono Gh);have Hc := Lh (u.out _ s);clear z Gh u;go_wp2_with (refine wpList_load_row rfl 176 _ rfl G rfl 176 (Zz p q n) (0, 0) _ o Tryz.underlying176 rfl (by kernel_rfl) ?_)
 refine Hc.out.mono ?_;rintro e w1 ⟨rfl, y⟩;have j := o.below y o.lt;have b4 := s.trans (y.mono s.size);have g2 := j.cellv (i := 2) (v := .slice p.ba p.body.length p.bcap) rfl;have g3 := j.cellv (i := 3) (v := .int .i64 q) rfl;have g4 := j.cellv (i := 4) (v := .int .i64 n) rfl;clear o s y Hc j;go_wp2_with (refine Zw _ _ _ rfl ?_)
 refine Stop.to ?_;refine Qy rfl 23 1 _ rfl 85 #[.int .i64 1, .int .i64 n] (fun W => by kernel_rfl) ?_;intro J Jw Jh Jr Jb;have bJ := (Below.refl w1.heap.size w1).trans (Jb.mono Jh);have l := b4.trans (bJ.mono b4.size);have H := Lh (x.out Jw l J Jr);clear Jr Jb Jh bJ x;go_wp2_with fail
 refine H.out.mono ?_;rintro e w3 ⟨v, rfl, d, b6⟩;have b7 := l.trans (b6.mono l.size);have g := QK d l.size;obtain ⟨n3, k⟩ : ∃ n3, n3 = (r).length := ⟨_, rfl⟩;rw [← k] at g d;obtain ⟨A3, c3, rfl⟩ := Zl d;have HF := Lh g;have HN := Lh k;have H4 := Lh b7;clear d g k b6 b7 l H;go_wp2_with fail
 go_ret
 exact ⟨_, rfl, by rw [← HN.out]; exact HF.out, H4.out⟩
end Go.Proofs.YtdcmppdhdcjpfaaGreat
