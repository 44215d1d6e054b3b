/- Lemmas for VerdictMoreP. -/
import Derived.Test.YtdcmppdhdcjpfaaGreatZr1
import Derived.Test.YtdcmppdhdcjpfaaGreatZr19
import Derived.Test.YtdcmppdhdcjpfaaGreatZr5
import Derived.Lib.Overlaps
import Derived.Lib.AppendZerosOnto
set_option linter.unusedVariables false
set_option linter.unusedSimpArgs false
set_option maxRecDepth 100000
set_option maxHeartbeats 16000000
namespace Go.Proofs.YtdcmppdhdcjpfaaGreat
open Go.RowKit Go.Deep
theorem Ad8 {ops : Array Oper} {rest : List Oper} {o : Oper} {a : Act} {w : World} {Q : Exit → Act → World → Prop} (s x : Operand) (t u : TypeId) (_ : o.op = .call { callee := .builtin .copy, args := #[s, x], argTypes := #[t, u] }) (h : Stop (wpList Tryz.prog ops Q (o :: rest) a w) id) : wpList Tryz.prog ops Q (o :: rest) a w := h.out
theorem Ab3 (g J cap i : Nat) (l : List Nd) (y : Nd) (cur : Array Value) (w : World) (hg : Row w g 85 cur) (hs : cur.size = cap * 2) (ht : cur.toList.take (l.length * 2) = l.flatMap Nd.cells) (hn : l.length + 1 ≤ cap) (hc : cap ≤ maxLen) (hl : l.length ≤ 1000) (hi : i < l.length) (hJ : Row w J 85 #[.int .i64 y.tag, .int .i64 y.n]) (hne : J ≠ g) (B : Nat) (hB : B ≤ g) :
 Calls Tryz.prog 185 #[.slice (some ⟨g, 0, none⟩) l.length cap, .int .i64 (i : Int), .slice (some ⟨J, 0, none⟩) 1 1] w fun e w' => e = .returned (.slice (some ⟨g, 0, none⟩) (l.length + 1) cap) ∧ (∃ cur', Row w' g 85 cur' ∧ cur'.size = cap * 2 ∧ cur'.toList.take ((l.length + 1) * 2) = (l.take i ++ y :: l.drop i).flatMap Nd.cells) ∧ Below B w w' := by
 have hov : ∀ (W : World) (lb cb : Nat), Row W J 85 #[.int .i64 y.tag, .int .i64 y.n] → Row W g 85 cur → (callFunc 247 #[.slice (some ⟨J, 0, none⟩) 1 1, .slice (some ⟨g, (i + 1) * 2, none⟩) lb cb]).run Tryz.prog W = .ok (.value (.bool false)) W := fun W lb cb h1 h2 => by
  rw [run_callFunc_extern Tryz.func247 (by kernel_rfl) (by kernel_rfl) (by kernel_rfl) (e := Extern.SlicesOverlaps.overlaps #[23, 23] #[4]) (by kernel_rfl),
   Lib.run_overlaps_apart W 23 4 85 Tryz.underlying23 2 (fun W => by kernel_rfl) ⟨J, 0, none⟩ ⟨g, (i + 1) * 2, none⟩ 1 1 lb cb hne 85 85 2 cur.size (by simp [World.shape?, show W.heap[J]? = _ from h1]) (by simp [World.shape?, show W.heap[g]? = _ from h2]) (by omega) (by simp [World.frozen?, show W.heap[J]? = _ from h1]) (by simp [World.frozen?, show W.heap[J]? = _ from h1])]
  rfl
 obtain ⟨n, hnl⟩ : ∃ n, n = l.length := ⟨_, rfl⟩
 rw [← hnl] at ht hn hl hi ⊢
 have hov0 := fun lb cb => hov w lb cb hJ hg
 have Hov := Lh hov
 have Ht := Lh (And.intro hnl (And.intro hs ht))
 have z1 : ¬ ((i : Int) = (n : Int)) := by omega
 have z2 : ¬ ((cap : Int) < (n : Int) + 1) := by omega
 have z3 : (i : Int) ≤ (n : Int) := by omega
 have z4 : IntKind.i64.wrap ((i : Int) + 1) = (i : Int) + 1 := by rw [IntKind.wrap_i64]; omega
 have z5 : IntKind.i64.wrap ((n : Int) + 1) = (n : Int) + 1 := by rw [IntKind.wrap_i64]; omega
 have z6 : (0 : Int) ≤ (i : Int) + 1 := by omega
 have z7 : ((i : Int) + 1).toNat = i + 1 := by omega
 have z8 : ((n : Int) + 1).toNat = n + 1 := by omega
 have z9 : (n : Int) + 1 ≤ (cap : Int) := by omega
 have y1 : ¬ (cap = i) := by omega
 have y2 : ¬ (cap = i + 1) := by omega
 have y3 : ¬ (cap = 0) := by omega
 have y4 : (i : Int) + 1 ≤ (n : Int) + 1 := by omega
 have y5 : (i : Int) ≤ (n : Int) + 1 := by omega
 clear hov hnl hs ht
 go_enter Tryz.func185, Tryz.ntmps185
 go_wp2_with (simp only [hov0])
 obtain ⟨S, hSd⟩ : ∃ S, S = (fun W => (Row W g 85 cur ∧ Row W J 85 #[.int .i64 y.tag, .int .i64 y.n]) ∧ Below w.heap.size w W) := ⟨_, rfl⟩
 have stS : St S := by rw [hSd]; infer_instance
 have TG : Hid (∀ W, S W → Row W g 85 cur) := by show ∀ W, _; rw [hSd]; exact fun W h => h.1.1
 have TJ : Hid (∀ W, S W → Row W J 85 #[.int .i64 y.tag, .int .i64 y.n]) := by show ∀ W, _; rw [hSd]; exact fun W h => h.1.2
 have TB : Hid (∀ W, S W → Below w.heap.size w W) := by show ∀ W, _; rw [hSd]; exact fun W h => h.2
 have hS : S w := by rw [hSd]; exact ⟨⟨hg, hJ⟩, Below.refl _ _⟩
 have hgl := hg.lt
 clear hSd hg hJ hov0 Hov
 refine Zt S 8 (by kernel_rfl) (by kernel_rfl) (St.drew hS) ?_
 clear hS
 simp only [List.take_succ_cons, List.take_zero, List.drop_succ_cons, List.drop_zero]
 iterate 8 (refine Qg rfl ?_ (fun W hW => ?_) ?_; rotate_left; (focus (go_simp; exact rfl)); simp only [Act.put, Qa, Qb, Qc])
 refine QV fun W hW => ?_
 obtain ⟨hnl, hs2, ht2⟩ := Ht.out
 have hdl : ((l.drop i).flatMap Nd.cells).length = (n - i) * 2 := by rw [ZQ, List.length_drop, hnl]
 have hsrc : ∀ j v, ((l.drop i).flatMap Nd.cells)[j]? = some v → cur[i * 2 + j]? = some v := by
  intro j v hj
  have hlt := (List.getElem?_eq_some_iff.1 hj).1
  have hpre : ((l.take i).flatMap Nd.cells).length = i * 2 := by rw [ZQ, List.length_take]; congr 1; omega
  have e : (l.flatMap Nd.cells)[i * 2 + j]? = some v := by
   rw [← List.take_append_drop i l, List.flatMap_append, List.getElem?_append_right (by omega), hpre, Nat.add_sub_cancel_left]
   exact hj
  rw [← ht2, List.getElem?_take_of_lt (by omega)] at e
  simpa using e
 have hcp := fun ty dc sc => Ke (P := Tryz.prog) W 23 23 ty 85 2 g ((i + 1) * 2) (n - i) dc ⟨g, i * 2, none⟩ (n + 1 - i) sc cur 85 ((l.drop i).flatMap Nd.cells) Tryz.underlying23 (by kernel_rfl) (TG.out W hW) (by rw [hdl]; simp only [Nat.min_def]; split <;> omega) (Row.from_ (TG.out W hW) (i * 2) hsrc) (by omega) (UR _)
 have r1 : Row (W.setRow g (ZD cur ((i + 1) * 2) ((l.drop i).flatMap Nd.cells))) g 85 (ZD cur ((i + 1) * 2) ((l.drop i).flatMap Nd.cells)) := setRow_heap W g cur _ _ _ (TG.out W hW)
 have o1 := Zo W g (ZD cur ((i + 1) * 2) ((l.drop i).flatMap Nd.cells))
 have rJ1 := (TJ.out W hW).only o1 hne
 have b1 := Qo ((TB.out W hW).mono (Nat.le_of_lt (Nat.lt_of_le_of_lt hB hgl))) o1 hB
 have hps := Afp (cur := cur) (l := l) (n := n) (i := i) (cap := cap) y hnl.symm hs2 hn (by omega) ht2
 have hsz : (ZD cur ((i + 1) * 2) ((l.drop i).flatMap Nd.cells)).size = cap * 2 := by
  unfold ZD; simp only [List.size_toArray, List.length_append, List.length_take, List.length_drop, Array.length_toList, hdl]; omega
 clear hnl hs2 ht2 hdl hsrc
 refine Zg rfl _ (Jt rfl (hcp _ _ _)) ?_
 generalize W.setRow g (ZD cur ((i + 1) * 2) ((l.drop i).flatMap Nd.cells)) = W1 at r1 o1 rJ1 b1 ⊢
 generalize ZD cur ((i + 1) * 2) ((l.drop i).flatMap Nd.cells) = c1 at r1 hps hsz ⊢
 have hcp2 := fun ty dc => Ke (P := Tryz.prog) W1 23 23 ty 85 2 g (i * 2) (n + 1 - i) dc ⟨J, 0, none⟩ 1 1 c1 85 y.cells Tryz.underlying23 (by kernel_rfl) r1 (by show 2 = _; simp only [Nat.min_def]; split <;> omega) (Row.from_ rJ1 0 (fun j v hj => by rw [Nat.zero_add]; simpa [Nd.cells] using hj)) (by show i * 2 + 2 ≤ _; omega) (by simp [Nd.cells, Value.oneCell'])
 have r2 : Row (W1.setRow g (ZD c1 (i * 2) y.cells)) g 85 (ZD c1 (i * 2) y.cells) := setRow_heap W1 g c1 _ _ _ r1
 have o2 := Zo W1 g (ZD c1 (i * 2) y.cells)
 have b2 := Qo b1 o2 hB
 have hsz2 : (ZD c1 (i * 2) y.cells).size = cap * 2 := by
  unfold ZD; simp only [List.size_toArray, List.length_append, List.length_take, List.length_drop, Array.length_toList, show y.cells.length = 2 from rfl]; omega
 have HF := Lh (And.intro (show ∃ cur', Row (W1.setRow g (ZD c1 (i * 2) y.cells)) g 85 cur' ∧ cur'.size = cap * 2 ∧ cur'.toList.take ((n + 1) * 2) = (l.take i ++ y :: l.drop i).flatMap Nd.cells from ⟨_, r2, hsz2, hps⟩) b2)
 have Hcp2 := Lh hcp2
 clear hcp r1 o1 rJ1 b1 hps hsz r2 o2 b2 hsz2 hcp2 hW stS TG TJ TB Ht
 go_wp2_with (refine Ad8 _ _ _ _ rfl ?_)
 refine Stop.to ?_
 refine Zg rfl _ (Jt rfl (Hcp2.out _ _)) ?_
 go_wp2_with fail
 go_ret
 exact ⟨rfl, HF.out.1, HF.out.2⟩
theorem Aia (z : Array Value) (k : Nat) : (Builtin.zeroCells z k).size = k * z.size := by simp [Builtin.zeroCells]
theorem Agw {R : Array Value} {l : List Nd} {n i G : Nat} (y : Nd) (hl : l.length = n) (hR : R.size = G * 2) (hn : n + 1 ≤ G) (hi : i ≤ n) (ht : R.toList.take (i * 2) = (l.take i).flatMap Nd.cells) :
 (ZD (ZD R (i * 2) y.cells) ((i + 1) * 2) ((l.drop i).flatMap Nd.cells)).toList.take ((n + 1) * 2) = (l.take i ++ y :: l.drop i).flatMap Nd.cells ∧ (ZD (ZD R (i * 2) y.cells) ((i + 1) * 2) ((l.drop i).flatMap Nd.cells)).size = G * 2 := by
 have hd : ((l.drop i).flatMap Nd.cells).length = (n - i) * 2 := by rw [ZQ, List.length_drop, hl]
 have hy : y.cells.length = 2 := rfl
 have hcl : R.toList.length = G * 2 := by rw [Array.length_toList, hR]
 have hT : (R.toList.take (i * 2)).length = i * 2 := by rw [List.length_take]; omega
 constructor
 · rw [List.flatMap_append, List.flatMap_cons, ← ht]
   unfold ZD
   simp only [List.toList_toArray]
   have t1 : (R.toList.take (i * 2) ++ y.cells ++ R.toList.drop (i * 2 + y.cells.length)).take ((i + 1) * 2) = R.toList.take (i * 2) ++ y.cells := List.take_left' (by rw [List.length_append, hT, hy]; omega)
   rw [t1]
   have hB : (R.toList.take (i * 2) ++ y.cells ++ (l.drop i).flatMap Nd.cells).length = (n + 1) * 2 := by
    simp only [List.length_append, hT, hd, hy]; omega
   rw [List.take_left' hB, List.append_assoc]
 · unfold ZD
   simp only [List.size_toArray, List.length_append, List.length_take, List.length_drop, hd, hy, hcl]
   omega
theorem Ab2 (g J i : Nat) (l : List Nd) (y : Nd) (cur : Array Value) (w : World) (hg : Row w g 85 cur) (hs : cur.size = l.length * 2) (ht : cur.toList = l.flatMap Nd.cells) (hl : l.length ≤ 1000) (hi : i < l.length) (hJ : Row w J 85 #[.int .i64 y.tag, .int .i64 y.n]) :
 Calls Tryz.prog 185 #[.slice (some ⟨g, 0, none⟩) l.length l.length, .int .i64 (i : Int), .slice (some ⟨J, 0, none⟩) 1 1] w fun e w' => ∃ N G cur', e = .returned (.slice (some ⟨N, 0, none⟩) (l.length + 1) G) ∧ w.heap.size ≤ N ∧ l.length + 1 ≤ G ∧ G ≤ maxLen ∧ Row w' N 85 cur' ∧ cur'.size = G * 2 ∧ cur'.toList.take ((l.length + 1) * 2) = (l.take i ++ y :: l.drop i).flatMap Nd.cells ∧ Below w.heap.size w w' := by
 obtain ⟨n, hnl⟩ : ∃ n, n = l.length := ⟨_, rfl⟩
 rw [← hnl] at hs hl hi ⊢
 obtain ⟨i0, hi0, hz0, hzs, hzb⟩ := info_parts (P := Tryz.prog) (e := 85) (z := .agg #[.int .i64 0, .int .i64 0]) (size := 2) (bytes := 16) (by kernel_rfl)
 have hpre : ((l.take i).flatMap Nd.cells).length = i * 2 := by rw [ZQ, List.length_take]; congr 1; omega
 have hhead : ∀ (j : Nat) (v : Value), ((l.take i).flatMap Nd.cells)[j]? = some v → cur[j]? = some v := by
  intro j v hj
  have hlt := (List.getElem?_eq_some_iff.1 hj).1
  have e : (l.flatMap Nd.cells)[j]? = some v := by
   rw [← List.take_append_drop i l, List.flatMap_append, List.getElem?_append_left (by omega)]
   exact hj
  rw [← ht] at e
  simpa using e
 have hdl : ((l.drop i).flatMap Nd.cells).length = (n - i) * 2 := by rw [ZQ, List.length_drop, hnl]
 have hsrc : ∀ (j : Nat) (v : Value), ((l.drop i).flatMap Nd.cells)[j]? = some v → cur[i * 2 + j]? = some v := by
  intro j v hj
  have e : (l.flatMap Nd.cells)[i * 2 + j]? = some v := by
   rw [← List.take_append_drop i l, List.flatMap_append, List.getElem?_append_right (by omega), hpre, Nat.add_sub_cancel_left]
   exact hj
  rw [← ht] at e
  simpa using e
 have gD : Row w.drew g 85 cur := (St.drew (S := fun W => Row W g 85 cur) hg)
 have hold : (Builtin.firstCells i0.size i (.slice (some ⟨g, 0, none⟩) i n)).run Tryz.prog w.drew = .ok ((l.take i).flatMap Nd.cells).toArray w.drew := by
  rw [hzs]
  exact run_firstCells_some w.drew 2 i ⟨g, 0, none⟩ i n _ hpre (Row.from_ (cur := cur) gD 0 (fun j v hj => by rw [Nat.zero_add]; exact hhead j v hj))
 obtain ⟨G, hG⟩ : ∃ G, G = grownCap w (n + 1) n 85 := ⟨_, rfl⟩
 have hGn : n + 1 ≤ G := by rw [hG]; exact grownCap_ge w _ _ _
 have hGm : G ≤ maxLen := by rw [hG]; exact grownCap_le_maxLen w (n + 1) n _ (by unfold maxLen; omega)
 obtain ⟨R, hR⟩ : ∃ R : Array Value, R = ((l.take i).flatMap Nd.cells).toArray ++ Builtin.zeroCells (Value.agg #[.int .i64 0, .int .i64 0]).cells (n + 1 - i) ++ Builtin.zeroCells (Value.agg #[.int .i64 0, .int .i64 0]).cells (G - (n + 1)) := ⟨_, rfl⟩
 have hRs : R.size = G * 2 := by
  rw [hR]
  simp only [Array.size_append, List.size_toArray, hpre, Aia, show (Value.agg #[.int .i64 0, .int .i64 0]).cells.size = 2 from rfl]
  omega
 have hRt : R.toList.take (i * 2) = (l.take i).flatMap Nd.cells := by
  rw [hR]
  simp only [Array.toList_append, List.append_assoc]
  exact List.take_left' hpre
 have hrz : ∀ ty (k : Int), k = ((n + 1 - i : Nat) : Int) → (Builtin.append_ #[23, 3] ty #[.slice (some ⟨g, 0, none⟩) i n, .int .i64 k]).run Tryz.prog w =
  .ok (.slice (some ⟨w.heap.size, 0, none⟩) (n + 1) G) (w.drew.alloc (.cells R 85)) := fun ty k hk => by
  have h := Lib.run_append_grow_zeros w 23 3 ty 85 i0 _ .i64 .i64 Tryz.underlying23 Tryz.underlying3 hi0 hz0 (some ⟨g, 0, none⟩) i n _ hold (n + 1 - i) (by omega) (by omega) (by omega) (by omega) (by rw [hzb]; omega) (by rw [hzb, show i + (n + 1 - i) = n + 1 by omega]; exact growslice_fits (by omega) (by omega))
  rw [show i + (n + 1 - i) = n + 1 by omega, ← hG, ← hR] at h
  rw [hk]
  exact h
 have r0 : Row (w.drew.alloc (.cells R 85)) w.heap.size 85 R := Row.new w.drew 85 R
 have bW : Below w.heap.size w (w.drew.alloc (.cells R 85)) := St.alloc (S := fun W => Below w.heap.size w W) (St.drew (S := fun W => Below w.heap.size w W) (Below.refl _ _)) _
 have gW : Row (w.drew.alloc (.cells R 85)) g 85 cur := hg.below bW hg.lt
 have jW : Row (w.drew.alloc (.cells R 85)) J 85 #[.int .i64 y.tag, .int .i64 y.n] := hJ.below bW hJ.lt
 obtain ⟨N, hN⟩ : ∃ N, N = w.heap.size := ⟨_, rfl⟩
 have hgN : g ≠ N := by have := hg.lt; omega
 have hJN : J ≠ N := by have := hJ.lt; omega
 have hNle : w.heap.size ≤ N := by omega
 rw [← hN] at r0 hrz
 generalize w.drew.alloc (.cells R 85) = W1 at hrz r0 bW gW jW
 have Hrz := Lh hrz
 have Hgm := Lh (And.intro hGm hnl)
 have Hs := Lh hsrc
 have Hd := Lh hdl
 have HR := Lh (And.intro hRs hRt)
 clear hG hR hRs hRt hold gD hhead hpre hs ht hi0 hz0 hzs hzb hg hJ hN hrz hsrc hdl hnl hGm
 have z1 : ¬ ((i : Int) = (n : Int)) := by omega
 have z2 : (n : Int) < (n : Int) + 1 := by omega
 have z3 : (i : Int) ≤ (n : Int) := by omega
 have z4 : IntKind.i64.wrap ((i : Int) + 1) = (i : Int) + 1 := by rw [IntKind.wrap_i64]; omega
 have z5 : IntKind.i64.wrap ((n : Int) + 1) = (n : Int) + 1 := by rw [IntKind.wrap_i64]; omega
 have z9 : IntKind.i64.wrap ((n : Int) + 1 - (i : Int)) = (n : Int) + 1 - (i : Int) := by rw [IntKind.wrap_i64]; omega
 have z6 : (0 : Int) ≤ (i : Int) + 1 := by omega
 have z7 : ((i : Int) + 1).toNat = i + 1 := by omega
 have z8 : ((n : Int) + 1).toNat = n + 1 := by omega
 have y1 : ¬ (G = i) := by omega
 have y2 : ¬ (G = i + 1) := by omega
 have y3 : ¬ (n = i) := by omega
 have y4 : (i : Int) + 1 ≤ (n : Int) + 1 := by omega
 have y5 : (i : Int) ≤ (n : Int) + 1 := by omega
 go_enter Tryz.func185, Tryz.ntmps185
 go_wp2_with (first
  | (at_builtin; refine Lib.wpList_append_run _ rfl _ _ _ _ rfl _ _ rfl rfl _ _ (Hrz.out _ _ (by omega)) ?_)
  | (refine Ad8 _ _ _ _ rfl ?_))
 refine Stop.to ?_
 have hcp := fun ty dc => Ke (P := Tryz.prog) W1 23 23 ty 85 2 N (i * 2) (n + 1 - i) dc ⟨J, 0, none⟩ 1 1 R 85 y.cells Tryz.underlying23 (by kernel_rfl) r0 (by show 2 = _; simp only [Nat.min_def]; split <;> omega) (Row.from_ jW 0 (fun j v hj => by rw [Nat.zero_add]; simpa [Nd.cells] using hj)) (by show i * 2 + 2 ≤ _; have := HR.out.1; omega) (by simp [Nd.cells, Value.oneCell'])
 refine Zg rfl _ (Jt rfl (hcp _ _)) ?_
 have r1 : Row (W1.setRow N (ZD R (i * 2) y.cells)) N 85 (ZD R (i * 2) y.cells) := setRow_heap W1 N R _ _ _ r0
 have o1 := Zo W1 N (ZD R (i * 2) y.cells)
 have g1 := gW.only o1 hgN
 have b1 := Qo bW o1 hNle
 have Hps := Lh (Agw (R := R) (l := l) (n := n) (i := i) (G := G) y Hgm.out.2.symm HR.out.1 hGn (by omega) HR.out.2)
 have hsz : (ZD R (i * 2) y.cells).size = G * 2 := by
  unfold ZD; simp only [List.size_toArray, List.length_append, List.length_take, List.length_drop, Array.length_toList, show y.cells.length = 2 from rfl]; have := HR.out.1; omega
 have Hsz := Lh hsz
 generalize W1.setRow N (ZD R (i * 2) y.cells) = W2 at r1 o1 g1 b1 ⊢
 generalize ZD R (i * 2) y.cells = c1 at r1 Hps Hsz
 obtain ⟨S, hSd⟩ : ∃ S, S = (fun W => (Row W N 85 c1 ∧ Row W g 85 cur) ∧ Below w.heap.size w W) := ⟨_, rfl⟩
 have stS : St S := by rw [hSd]; infer_instance
 have TN : Hid (∀ W, S W → Row W N 85 c1) := by show ∀ W, _; rw [hSd]; exact fun W h => h.1.1
 have TG : Hid (∀ W, S W → Row W g 85 cur) := by show ∀ W, _; rw [hSd]; exact fun W h => h.1.2
 have TB : Hid (∀ W, S W → Below w.heap.size w W) := by show ∀ W, _; rw [hSd]; exact fun W h => h.2
 have hS : S W2 := by rw [hSd]; exact ⟨⟨r1, g1⟩, b1⟩
 clear hSd r1 g1 b1 o1 hcp hsz r0 bW gW jW Hrz HR
 go_wp2_with fail
 refine Zt S 8 (by kernel_rfl) (by kernel_rfl) (St.drew hS) ?_
 clear hS
 simp only [List.take_succ_cons, List.take_zero, List.drop_succ_cons, List.drop_zero]
 iterate 8 (refine Qg rfl ?_ (fun W hW => ?_) ?_; rotate_left; (focus (go_simp; exact rfl)); simp only [Act.put, Qa, Qb, Qc])
 refine QV fun W hW => ?_
 have hrd := Row.from_ (cur := cur) (TG.out W hW) (i * 2) Hs.out
 have hcp2 := fun ty dc sc => Ke (P := Tryz.prog) W 23 23 ty 85 2 N ((i + 1) * 2) (n - i) dc ⟨g, i * 2, none⟩ (n - i) sc c1 85 ((l.drop i).flatMap Nd.cells) Tryz.underlying23 (by kernel_rfl) (TN.out W hW) (by rw [Hd.out]; simp only [Nat.min_def]; split <;> omega) hrd (by rw [Hd.out, Hsz.out]; omega) (UR _)
 refine Zg rfl _ (Jt rfl (hcp2 _ _ _)) ?_
 have r2 : Row (W.setRow N (ZD c1 ((i + 1) * 2) ((l.drop i).flatMap Nd.cells))) N 85 (ZD c1 ((i + 1) * 2) ((l.drop i).flatMap Nd.cells)) := setRow_heap W N c1 _ _ _ (TN.out W hW)
 have o2 := Zo W N (ZD c1 ((i + 1) * 2) ((l.drop i).flatMap Nd.cells))
 have b2 := Qo (TB.out W hW) o2 hNle
 have HF := Lh (And.intro r2 (And.intro Hps.out b2))
 clear hrd hcp2 r2 o2 b2 hW TN TG TB stS Hs Hd Hps Hsz
 go_wp2_with fail
 go_ret
 exact ⟨N, G, _, rfl, hNle, hGn, Hgm.out.1, HF.out.1, HF.out.2.1.2, HF.out.2.1.1, HF.out.2.2⟩
theorem AfS (p : PgV) (q : Nat) (t : Tr) (w : World) (hat : At p.body q t) (hbl : p.body.length ≤ 1000) (hok : p.ok w) (h : t.root.tag = 21 ∨ t.root.tag = 22 ∨ t.root.tag = 23 ∨ t.root.tag = 24 ∨ t.root.tag = 25) :
 Calls Tryz.prog 113 #[.agg (Zw p q 0)] w fun e w' => NdsR (p.body.take q ++ ([⟨26, 0⟩] ++ p.body.drop (q + t.size))) w w' e := by
 have Hn : Hid (∀ W, Below w.heap.size w W → Calls Tryz.prog 182 #[.agg (Zw p q 0)] W fun e w' => e = .returned (.agg #[.int .i64 t.root.tag, .int .i64 t.root.n]) ∧ Below W.heap.size W w') := fun W b => Kv p q 0 t.root W hat.root (hok.go b)
 have Hr : Hid (∀ W, Below w.heap.size w W → ∀ G, Row W G 85 #[.int .i64 26, .int .i64 0] → Calls Tryz.prog 184 #[.slice p.ba p.body.length p.bcap, .int .i64 (q : Int), .slice (some ⟨G, 0, none⟩) 1 1] W fun e w' => NdsR (p.body.take q ++ ([⟨26, 0⟩] ++ p.body.drop (q + t.size))) W w' e) := fun W b G hG =>
  Aez p.ba (some ⟨G, 0, none⟩) p.bcap 1 p.body [⟨26, 0⟩] q t W hat (hok.go b).brd (JM (cs := [.int .i64 26, .int .i64 0]) hG) (fun e => by cases e) hbl (by simp) hok.blen hok.bmax
 obtain ⟨k, hk⟩ : ∃ k, k = t.root.tag := ⟨_, rfl⟩
 obtain ⟨m, hm⟩ : ∃ m, m = t.root.n := ⟨_, rfl⟩
 obtain ⟨r, hr⟩ : ∃ r, r = p.body.take q ++ ([⟨26, 0⟩] ++ p.body.drop (q + t.size)) := ⟨_, rfl⟩
 rw [← hk] at h
 rw [← hk, ← hm] at Hn
 rw [← hr] at Hr ⊢
 have f0 := X6 k m
 clear hk hm hr hat hbl hok
 go_enter Tryz.func113, Tryz.ntmps113
 go_wp2_with (refine Qp _ _ rfl ?_)
 refine Stop.to ?_
 refine Qf rfl 176 _ rfl (Zw p q 0) rfl ?_
 intro G Gw Gh Gr Gb
 have b1 := (Below.refl w.heap.size w).trans (Gb.mono Gh)
 have Hc := Lh (Hn.out _ b1)
 clear Gb Gh Hn
 go_wp2_with (refine wpList_load_row rfl 176 _ rfl G rfl 176 (Zw p q 0) (0, 0) _ Gr Tryz.underlying176 rfl (by kernel_rfl) ?_)
 refine Hc.out.mono ?_
 rintro e w1 ⟨rfl, b2⟩
 have Gr3 := Gr.below b2 Gr.lt
 have b4 := b1.trans (b2.mono b1.size)
 have g2 := Gr3.cellv (i := 2) (v := .slice p.ba p.body.length p.bcap) rfl
 have g3 := Gr3.cellv (i := 3) (v := .int .i64 q) rfl
 have g4 := Gr3.cellv (i := 4) (v := .int .i64 0) rfl
 clear Gr b1 b2 Hc Gr3
 rcases h with rfl | rfl | rfl | rfl | rfl
 all_goals
  go_wp2_with (refine Zp _ _ _ rfl ?_)
  skip
 · refine Stop.to ?_
   refine Qu rfl 23 1 _ rfl 85 #[.int .i64 26, .int .i64 0] (fun W => by kernel_rfl) ?_
   intro J Jw Jh Jr Jb
   have bJ := (Below.refl w1.heap.size w1).trans (Jb.mono Jh)
   have b5 := b4.trans (bJ.mono b4.size)
   have H := Lh (Hr.out Jw b5 J Jr)
   clear Jr Jb Jh bJ Hr
   go_wp2_with fail
   refine H.out.mono ?_
   rintro e w3 ⟨v, rfl, hown, b6⟩
   have b7 := b5.trans (b6.mono b5.size)
   have own2 := QI hown b5.size
   obtain ⟨n3, hn3⟩ : ∃ n3, n3 = (r).length := ⟨_, rfl⟩
   rw [← hn3] at own2 hown
   obtain ⟨A3, c3, rfl⟩ := Zd hown
   have HF := Lh own2
   have HN := Lh hn3
   have H4 := Lh b7
   clear hown own2 hn3 b6 b7 b5 H
   go_wp2_with fail
   go_ret
   exact ⟨_, rfl, by rw [← HN.out]; exact HF.out, H4.out⟩
 · refine Stop.to ?_
   refine Qu rfl 23 1 _ rfl 85 #[.int .i64 26, .int .i64 0] (fun W => by kernel_rfl) ?_
   intro J Jw Jh Jr Jb
   have bJ := (Below.refl w1.heap.size w1).trans (Jb.mono Jh)
   have b5 := b4.trans (bJ.mono b4.size)
   have H := Lh (Hr.out Jw b5 J Jr)
   clear Jr Jb Jh bJ Hr
   go_wp2_with fail
   refine H.out.mono ?_
   rintro e w3 ⟨v, rfl, hown, b6⟩
   have b7 := b5.trans (b6.mono b5.size)
   have own2 := QI hown b5.size
   obtain ⟨n3, hn3⟩ : ∃ n3, n3 = (r).length := ⟨_, rfl⟩
   rw [← hn3] at own2 hown
   obtain ⟨A3, c3, rfl⟩ := Zd hown
   have HF := Lh own2
   have HN := Lh hn3
   have H4 := Lh b7
   clear hown own2 hn3 b6 b7 b5 H
   go_wp2_with fail
   go_ret
   exact ⟨_, rfl, by rw [← HN.out]; exact HF.out, H4.out⟩
 · refine Stop.to ?_
   refine Qu rfl 23 1 _ rfl 85 #[.int .i64 26, .int .i64 0] (fun W => by kernel_rfl) ?_
   intro J Jw Jh Jr Jb
   have bJ := (Below.refl w1.heap.size w1).trans (Jb.mono Jh)
   have b5 := b4.trans (bJ.mono b4.size)
   have H := Lh (Hr.out Jw b5 J Jr)
   clear Jr Jb Jh bJ Hr
   go_wp2_with fail
   refine H.out.mono ?_
   rintro e w3 ⟨v, rfl, hown, b6⟩
   have b7 := b5.trans (b6.mono b5.size)
   have own2 := QI hown b5.size
   obtain ⟨n3, hn3⟩ : ∃ n3, n3 = (r).length := ⟨_, rfl⟩
   rw [← hn3] at own2 hown
   obtain ⟨A3, c3, rfl⟩ := Zd hown
   have HF := Lh own2
   have HN := Lh hn3
   have H4 := Lh b7
   clear hown own2 hn3 b6 b7 b5 H
   go_wp2_with fail
   go_ret
   exact ⟨_, rfl, by rw [← HN.out]; exact HF.out, H4.out⟩
 · refine Stop.to ?_
   refine Qu rfl 23 1 _ rfl 85 #[.int .i64 26, .int .i64 0] (fun W => by kernel_rfl) ?_
   intro J Jw Jh Jr Jb
   have bJ := (Below.refl w1.heap.size w1).trans (Jb.mono Jh)
   have b5 := b4.trans (bJ.mono b4.size)
   have H := Lh (Hr.out Jw b5 J Jr)
   clear Jr Jb Jh bJ Hr
   go_wp2_with fail
   refine H.out.mono ?_
   rintro e w3 ⟨v, rfl, hown, b6⟩
   have b7 := b5.trans (b6.mono b5.size)
   have own2 := QI hown b5.size
   obtain ⟨n3, hn3⟩ : ∃ n3, n3 = (r).length := ⟨_, rfl⟩
   rw [← hn3] at own2 hown
   obtain ⟨A3, c3, rfl⟩ := Zd hown
   have HF := Lh own2
   have HN := Lh hn3
   have H4 := Lh b7
   clear hown own2 hn3 b6 b7 b5 H
   go_wp2_with fail
   go_ret
   exact ⟨_, rfl, by rw [← HN.out]; exact HF.out, H4.out⟩
 · refine Stop.to ?_
   refine Qu rfl 23 1 _ rfl 85 #[.int .i64 26, .int .i64 0] (fun W => by kernel_rfl) ?_
   intro J Jw Jh Jr Jb
   have bJ := (Below.refl w1.heap.size w1).trans (Jb.mono Jh)
   have b5 := b4.trans (bJ.mono b4.size)
   have H := Lh (Hr.out Jw b5 J Jr)
   clear Jr Jb Jh bJ Hr
   go_wp2_with fail
   refine H.out.mono ?_
   rintro e w3 ⟨v, rfl, hown, b6⟩
   have b7 := b5.trans (b6.mono b5.size)
   have own2 := QI hown b5.size
   obtain ⟨n3, hn3⟩ : ∃ n3, n3 = (r).length := ⟨_, rfl⟩
   rw [← hn3] at own2 hown
   obtain ⟨A3, c3, rfl⟩ := Zd hown
   have HF := Lh own2
   have HN := Lh hn3
   have H4 := Lh b7
   clear hown own2 hn3 b6 b7 b5 H
   go_wp2_with fail
   go_ret
   exact ⟨_, rfl, by rw [← HN.out]; exact HF.out, H4.out⟩
theorem AfL (p : PgV) (q : Nat) (n : Int) (t c : Tr) (w : World) (hat : At p.body q t) (hac : At p.body (q + 1) c) (hbl : p.body.length ≤ 1000) (hok : p.ok w) (h : t.root.tag = 25) :
 Calls Tryz.prog 115 #[.agg (Zw p q n)] w fun e w' => NdsR (p.body.take (q + 1) ++ ([⟨1, n⟩] ++ p.body.drop (q + 1 + c.size))) w w' e := by
 have Hn : Hid (∀ W, Below w.heap.size w W → Calls Tryz.prog 182 #[.agg (Zw p q n)] W fun e w' => e = .returned (.agg #[.int .i64 25, .int .i64 t.root.n]) ∧ Below W.heap.size W w') := fun W b => by rw [← h]; exact Kv p q n t.root W hat.root (hok.go b)
 have Hr : Hid (∀ W, Below w.heap.size w W → ∀ G, Row W G 85 #[.int .i64 1, .int .i64 n] → Calls Tryz.prog 184 #[.slice p.ba p.body.length p.bcap, .int .i64 ((q : Int) + 1), .slice (some ⟨G, 0, none⟩) 1 1] W fun e w' => NdsR (p.body.take (q + 1) ++ ([⟨1, n⟩] ++ p.body.drop (q + 1 + c.size))) W w' e) := fun W b G hG =>
  Aez p.ba (some ⟨G, 0, none⟩) p.bcap 1 p.body [⟨1, n⟩] (q + 1) c W hac (hok.go b).brd (JM (cs := [.int .i64 1, .int .i64 n]) hG) (fun e => by cases e) hbl (by simp) hok.blen hok.bmax
 obtain ⟨m, hm⟩ : ∃ m, m = t.root.n := ⟨_, rfl⟩
 obtain ⟨r, hr⟩ : ∃ r, r = p.body.take (q + 1) ++ ([⟨1, n⟩] ++ p.body.drop (q + 1 + c.size)) := ⟨_, rfl⟩
 have hqI : (q : Int) ≤ 1000 := by have := hat.lt; omega
 rw [← hm] at Hn
 rw [← hr] at Hr ⊢
 have f0 := X6 25 m
 clear hm hr hat hac hbl hok h
 go_enter Tryz.func115, Tryz.ntmps115
 go_wp2_with (refine Qp _ _ rfl ?_)
 refine Stop.to ?_
 refine Qf rfl 176 _ rfl (Zw p q n) rfl ?_
 intro G Gw Gh Gr Gb
 have b1 := (Below.refl w.heap.size w).trans (Gb.mono Gh)
 have Hc := Lh (Hn.out _ b1)
 clear Gb Gh Hn
 go_wp2_with (refine wpList_load_row rfl 176 _ rfl G rfl 176 (Zw p q n) (0, 0) _ Gr Tryz.underlying176 rfl (by kernel_rfl) ?_)
 refine Hc.out.mono ?_
 rintro e w1 ⟨rfl, b2⟩
 have Gr3 := Gr.below b2 Gr.lt
 have b4 := b1.trans (b2.mono b1.size)
 have g2 := Gr3.cellv (i := 2) (v := .slice p.ba p.body.length p.bcap) rfl
 have g3 := Gr3.cellv (i := 3) (v := .int .i64 q) rfl
 have g4 := Gr3.cellv (i := 4) (v := .int .i64 n) rfl
 clear Gr b1 b2 Hc Gr3
 go_wp2_with (refine Zp _ _ _ rfl ?_)
 refine Stop.to ?_
 refine Qu rfl 23 1 _ rfl 85 #[.int .i64 1, .int .i64 n] (fun W => by kernel_rfl) ?_
 intro J Jw Jh Jr Jb
 have bJ := (Below.refl w1.heap.size w1).trans (Jb.mono Jh)
 have b5 := b4.trans (bJ.mono b4.size)
 have H := Lh (Hr.out Jw b5 J Jr)
 clear Jr Jb Jh bJ Hr
 go_wp2_with fail
 refine H.out.mono ?_
 rintro e w3 ⟨v, rfl, hown, b6⟩
 have b7 := b5.trans (b6.mono b5.size)
 have own2 := QI hown b5.size
 obtain ⟨n3, hn3⟩ : ∃ n3, n3 = (r).length := ⟨_, rfl⟩
 rw [← hn3] at own2 hown
 obtain ⟨A3, c3, rfl⟩ := Zd hown
 have HF := Lh own2
 have HN := Lh hn3
 have H4 := Lh b7
 clear hown own2 hn3 b6 b7 b5 H
 go_wp2_with fail
 go_ret
 exact ⟨_, rfl, by rw [← HN.out]; exact HF.out, H4.out⟩
end Go.Proofs.YtdcmppdhdcjpfaaGreat
