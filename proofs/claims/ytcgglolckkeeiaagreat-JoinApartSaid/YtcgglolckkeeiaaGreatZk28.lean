/- Lemmas for JnBll. -/
import Derived.Test.YtcgglolckkeeiaaGreatZk26
import Derived.Test.YtcgglolckkeeiaaGreatZk27
namespace Go.Proofs.YtcgglolckkeeiaaGreat
set_option linter.unusedVariables false
open Go.RowKit Go.Deep
attribute [local go_sem] Oper.semAt_some
noncomputable def cpChecks (a b : CpV) : Int := if cpCheckZ a ≠ 0 then cpCheckZ a else cpCheckZ b
def vdN (l : List Mt) : Option Nat → Int
 | none => -1
 | some i => match l[i]? with | some m => m.verdict | none => -1
def chgN (a b : List Mt) (z : ZX) : Option (Dl × Int × Int) := if vdN a z.1 = vdN b z.2 then none else some ((pickN a b z).d, vdN a z.1, vdN b z.2)
def diffL (a b : List Mt) : List (Dl × Int × Int) := (zipN a b 0 0).filterMap (chgN a b)
noncomputable def diffE (a b : CpV) : Int := if cpChecks a b ≠ 0 then cpChecks a b else if sameP a.p b.p = true then 0 else 26
structure ChV where
 x : DlV
 a : Int
 b : Int
def ChV.cells (c : ChV) : Array Value := #[.slice c.x.A c.x.d.path.length c.x.cap, .int .i64 c.x.d.op, .int .i64 c.x.d.n, .int .i64 c.a, .int .i64 c.b]
def ChV.data (c : ChV) : Dl × Int × Int := (c.x.d, c.a, c.b)
def chsC (l : List ChV) : List Value := l.flatMap fun c => c.cells.toList
theorem chsC_snoc (xs : List ChV) (x : ChV) : chsC (xs ++ [x]) = chsC xs ++ x.cells.toList := by simp [chsC]
theorem chsC_one (x : ChV) : ∀ u ∈ x.cells.toList, u.oneCell' = true := by
 intro u hu
 simp only [ChV.cells, List.mem_cons, List.not_mem_nil, or_false] at hu
 rcases hu with rfl | rfl | rfl | rfl | rfl <;> rfl
structure DiffR (a b : CpV) (w w' : World) (e : Ending) : Prop where
 ex : ∃ (A : Option Addr) (cap : Nat) (cs : List ChV), e = .returned (.tuple #[.slice A cs.length cap, .int .i64 (diffE a b)]) ∧ Rd w' A (chsC cs) ∧ cs.length ≤ cap ∧ (A = none → cs = []) ∧ (∀ c ∈ cs, DlT w' c.x) ∧ cs.map ChV.data = (if diffE a b = 0 then diffL a.muts b.muts else []) ∧ Below w.heap.size w w' ∧ ∀ ad, A = some ad → ∃ cs' : Array Value, Row w' ad.block 51 cs'
theorem info_ch : (Tryz.prog.info? 51).map (fun i => (i.zero, i.size, i.bytes)) = some (some (.agg #[.slice none 0 0, .int .i64 0, .int .i64 0, .int .i64 0, .int .i64 0]), 5, 56) := by kernel_rfl
theorem info_chz : (Tryz.prog.info? 51).map (fun i => (i.zero, i.size)) = some (some (.agg #[.slice none 0 0, .int .i64 0, .int .i64 0, .int .i64 0, .int .i64 0]), 5) := by kernel_rfl
theorem zero_lc (w : World) : (zeroValue 37).run Tryz.prog w = .ok (.slice none 0 0) w := by kernel_rfl
structure ZipFn (A B : Option Addr) (ca cb : Nat) (na nb : Nat) (w w' : World) (e : Ending) : Prop where
 ex : ∃ ba bb bc, e = .returned (.func (.func 104) #[] #[.pointer (some ⟨ba, 0, none⟩), .pointer (some ⟨bb, 0, none⟩), .pointer (some ⟨bc, 0, none⟩)]) ∧ Row w' ba 27 #[.slice A na ca] ∧ Row w' bb 27 #[.slice B nb cb] ∧ Row w' bc 81 #[.func (.func 46) #[] #[]] ∧ w.heap.size ≤ ba ∧ w.heap.size ≤ bb ∧ w.heap.size ≤ bc ∧ Below w.heap.size w w'
set_option maxRecDepth 100000 in
set_option maxHeartbeats 2000000 in
theorem zipFn_any (A B : Option Addr) (ca cb na nb : Nat) (w : World) :
 Calls Tryz.prog 45 #[.slice A na ca, .slice B nb cb, .func (.func 46) #[] #[]] w fun e w' => ZipFn A B ca cb na nb w w' e := by
 go_enter Tryz.func45, Tryz.ntmps45
 go_wp2_with (refine at_box _ _ rfl ?_)
 refine Stop.to ?_
 refine wpList_box_gen rfl 27 _ rfl #[.slice A na ca] rfl ?_
 intro G Gw Gh Gr Gb
 go_wp2_with (refine at_box _ _ rfl ?_)
 refine Stop.to ?_
 refine wpList_box_gen rfl 27 _ rfl #[.slice B nb cb] rfl ?_
 intro J Jw Jh Jr Jb
 go_wp2_with (refine at_box _ _ rfl ?_)
 refine Stop.to ?_
 refine wpList_box_gen rfl 81 _ rfl #[.func (.func 46) #[] #[]] rfl ?_
 intro K Kw Kh Kr Kb
 have rG := (Gr.below Jb (Nat.lt_of_lt_of_le Gr.lt Jh)).below Kb (by have := Gr.lt; have := Jb.size; omega)
 have rJ := Jr.below Kb (Nat.lt_of_lt_of_le Jr.lt Kh)
 have b1 := (Below.refl w.heap.size w).trans (Gb.mono Gh)
 have b2 := b1.trans ((Jb.mono Jh).mono b1.size)
 have b3 := b2.trans ((Kb.mono Kh).mono b2.size)
 have hJ : w.heap.size ≤ J := Nat.le_trans b1.size Jh
 have hK : w.heap.size ≤ K := Nat.le_trans b2.size Kh
 clear Gr Jr Gb Jb Kb b1 b2
 go_wp2
 go_ret
 exact ⟨G, J, K, rfl, rG, rJ, Kr, Gh, hJ, hK, b3⟩
theorem zipN_len : ∀ (a b : List Mt) (i k : Nat), (zipN a b i k).length ≤ a.length + b.length
 | [], [], _, _ => by simp [zipN]
 | [], y :: b, i, k => by rw [zipN, List.length_cons]; have := zipN_len [] b i (k + 1); simp at this ⊢; omega
 | x :: a, [], i, k => by rw [zipN, List.length_cons]; have := zipN_len a [] (i + 1) k; simp at this ⊢; omega
 | x :: a, y :: b, i, k => by
  rw [zipN]
  have h1 := zipN_len a (y :: b) (i + 1) k
  have h2 := zipN_len (x :: a) b i (k + 1)
  have h3 := zipN_len a b (i + 1) (k + 1)
  simp only [List.length_cons] at h1 h2 h3 ⊢
  repeat' split
  all_goals (simp only [List.length_cons]; omega)
termination_by a b => a.length + b.length
theorem zipN_le {a b : CpV} (ha : a.mts.length ≤ 100000) (hb : b.mts.length ≤ 100000) : (zipN a.muts b.muts 0 0).length ≤ 200000 := by
 have := zipN_len a.muts b.muts 0 0
 unfold CpV.muts at *
 simp only [List.length_map] at this
 omega
theorem zipN_mem (A B : List Mt) : ∀ (a b : List Mt) (i k : Nat), A.drop i = a → B.drop k = b → ∀ z ∈ zipN a b i k, (∃ i x, z = (some i, none) ∧ A[i]? = some x) ∨ (∃ k y, z = (none, some k) ∧ B[k]? = some y) ∨ ∃ i k x y, z = (some i, some k) ∧ A[i]? = some x ∧ B[k]? = some y ∧ cmpD x.d y.d = 0
 | [], [], _, _, _, _, z, h => by simp [zipN] at h
 | [], y :: b, i, k, h1, h2, z, h => by
  obtain ⟨e1, e2⟩ := drop_head h2
  rw [zipN] at h
  rcases List.mem_cons.1 h with rfl | h
  · exact .inr (.inl ⟨k, y, rfl, e1⟩)
  · exact zipN_mem A B [] b i (k + 1) h1 e2 z h
 | x :: a, [], i, k, h1, h2, z, h => by
  obtain ⟨e1, e2⟩ := drop_head h1
  rw [zipN] at h
  rcases List.mem_cons.1 h with rfl | h
  · exact .inl ⟨i, x, rfl, e1⟩
  · exact zipN_mem A B a [] (i + 1) k e2 h2 z h
 | x :: a, y :: b, i, k, h1, h2, z, h => by
  obtain ⟨e1, e2⟩ := drop_head h1
  obtain ⟨e3, e4⟩ := drop_head h2
  rw [zipN] at h
  by_cases h3 : cmpD x.d y.d < 0
  · rw [if_pos h3] at h
    rcases List.mem_cons.1 h with rfl | h
    · exact .inl ⟨i, x, rfl, e1⟩
    · exact zipN_mem A B a (y :: b) (i + 1) k e2 h2 z h
  by_cases h4 : 0 < cmpD x.d y.d
  · rw [if_neg h3, if_pos h4] at h
    rcases List.mem_cons.1 h with rfl | h
    · exact .inr (.inl ⟨k, y, rfl, e3⟩)
    · exact zipN_mem A B (x :: a) b i (k + 1) h1 e4 z h
  · rw [if_neg h3, if_neg h4] at h
    rcases List.mem_cons.1 h with rfl | h
    · exact .inr (.inr ⟨i, k, x, y, rfl, e1, e3, by omega⟩)
    · exact zipN_mem A B a b (i + 1) (k + 1) e2 e4 z h
termination_by a b => a.length + b.length
theorem yields_atp {P : Program} {ops : Array Oper} {S : World → Prop} {a : Act} {o : Oper} (hw : Region.wanted o (yielded ops a.tmps) = true) (ty : TypeId) (x : Operand) (ho : o.op = .load ty x) (ad : Addr) (hx : a.eval x = .pointer (some ad)) (cs : List Value) (d : TypeDesc)
 (hr : ∀ W, S W → ∀ (j : Nat) (v : Value), cs[j]? = some v → W.cell? (ad.add j) = some v) (hu : P.underlying ty = some d) (hd : (match d with | .struct _ | .array _ _ => true | _ => false) = true) (hi : (P.info? ty).map (·.size) = some cs.length) : YieldsIf P ops S o (.agg cs.toArray) a :=
 yields_val hw (fun W hW => by simp only [execOp, ho, hx, Instr.loadAt, Instr.sureAddr, Sem.run_bind, Sem.run_pure, Result.andThen_ok, run_loadVar_at W ad ty cs d (hr W hW) hu hd hi])
theorem fld_mt (y : MtV) (W : World) : (Instr.field 47 (.agg y.cells.toArray) 0).run Tryz.prog W = .ok (.agg #[.slice y.A y.m.d.path.length y.cap, .int .i64 y.m.d.op, .int .i64 y.m.d.n]) W := by kernel_rfl
theorem vdN_some {l : List Mt} {i : Nat} {m : Mt} (h : l[i]? = some m) : vdN l (some i) = m.verdict := by simp [vdN, h]
theorem pickN_l {a b : List Mt} {i : Nat} {o : Option Nat} {m : Mt} (h : a[i]? = some m) : pickN a b (some i, o) = m := by simp [pickN, h]
theorem pickN_r {a b : List Mt} {k : Nat} {m : Mt} (h : b[k]? = some m) : pickN a b (none, some k) = m := by simp [pickN, h]
theorem zpt_at {W0 : World} {A : Option Addr} {l : List MtV} (hr : Rd W0 A (mtsC l)) {i : Nat} {m : Mt} (hm : (l.map MtV.m)[i]? = some m) : ∃ (p : Addr) (x : MtV), x.m = m ∧ x ∈ l ∧ zpt A (some i) = .pointer (some p) ∧ ∀ W, Rd W A (mtsC l) → ∀ j u, x.cells[j]? = some u → W.cell? (p.add j) = some u := by
 rw [List.getElem?_map] at hm
 obtain ⟨x, hx, e⟩ := Option.map_eq_some_iff.1 hm
 obtain ⟨ad, had, _⟩ := mt_at hr hx
 subst had
 refine ⟨ad.add (i * 8), x, e, List.mem_of_getElem? hx, rfl, fun W h => ?_⟩
 obtain ⟨ad', e1, e2⟩ := mt_at h hx
 injection e1 with e1; subst e1; exact e2
theorem told_at (p : Addr) (x : MtV) (w : World) (h : ∀ j u, x.cells[j]? = some u → w.cell? (p.add j) = some u) : Calls Tryz.prog 55 #[.pointer (some p)] w fun e w' => e = .returned (.int .i64 x.m.verdict) ∧ w' = w := by
 have c1 : w.cell? ⟨p.block, p.off + 3, none⟩ = some (.int .i64 x.m.verdict) := h 3 _ rfl
 clear h
 go_enter Tryz.func55, Tryz.ntmps55
 go_wp2_with fail
 go_ret
 exact ⟨rfl, rfl⟩
theorem own_from {w : World} {base size n k : Nat} {e : TypeId} {v : Value} {xs : List Value} (h : w.ownsRow base e size v n xs) (hk : v.ownBlock = some k) : base ≤ k := by
 rcases h.2 with ⟨rfl, _⟩ | ⟨g, _, _, rfl, h1, _⟩
 · simp [Value.ownBlock] at hk
 · simp [Value.ownBlock] at hk; omega
theorem DlT.ownC {W W' : World} {x : DlV} {lim n : Nat} {v : Value} {xs : List Value} (h : DlT W x) (hown : W.ownsRow lim 51 5 v n xs) (hg : W.grownBy W' v.ownBlock) : DlT W' x := h.same fun _ _ _ k => k.grown hg (own_ne hown k (by decide))
structure StepD (w w2 V V4 : World) (Q lim : Nat) (v : Value) (cs : List ChV) : Prop where
 row : Row V4 Q 37 #[v]
 own : V4.ownsRow lim 51 5 v cs.length (chsC cs)
 all : ∀ c ∈ cs, DlT V4 c.x
 below : Below w.heap.size w V4
 kf : KeepsFrom w2.heap.size V V4
 kp : ∀ b, KpX (fun i => (i = Q ∨ lim ≤ i) ∨ i = b) V V4
 size : lim ≤ V4.heap.size
theorem chg_app (w w2 V V2 : World) (Q lim M2 : Nat) (v : Value) (cs : List ChV) (c : ChV) (h2 : V.ownsRow lim 51 5 v cs.length (chsC cs)) (h4 : ∀ c ∈ cs, DlT V c.x) (h6 : Below w.heap.size w V) (h7 : lim ≤ V.heap.size)
 (r2 : Row V2 Q 37 #[v]) (bm : Below V.heap.size V V2) (Mr : Row V2 M2 51 c.cells) (hc : DlT V2 c.x) (hn : cs.length + 1 ≤ 1000000) (hQw : w.heap.size ≤ Q) (hwl : w.heap.size ≤ lim) :
 ∃ A3 c3 V3, (Builtin.append_ #[37, 37] 37 #[v, .slice (some ⟨M2, 0, none⟩) 1 1]).run Tryz.prog V2 = .ok (.slice A3 (cs.length + 1) c3) V3 ∧ (Row V3 Q 37 #[v] ∧ Below w.heap.size w V3) ∧ StepD w w2 V (V3.setCell ⟨Q, 0, none⟩ (.slice A3 (cs.length + 1) c3)) Q lim (.slice A3 (cs.length + 1) c3) (cs ++ [c]) := by
 have own2 := own_below h2 bm
 have hl2 : lim ≤ V2.heap.size := Nat.le_trans h7 bm.size
 have hwV : w.heap.size ≤ V.heap.size := Nat.le_trans hwl h7
 obtain ⟨v3, V3, hrun, own3, hgr, -⟩ := append_rd (P := Tryz.prog) 37 51 (.agg #[.slice none 0 0, .int .i64 0, .int .i64 0, .int .i64 0, .int .i64 0]) 5 56 Tryz.underlying37 info_ch rfl (by decide) (by decide) own2 hl2 (rd_rowP (cs := c.cells.toList) (by simpa using Mr)) (m := 1) (cap := 1) rfl (chsC_one c) (by simp) (by omega)
 rw [← chsC_snoc] at own3
 have r3 := r2.grown hgr (own_ne own2 r2 (by decide))
 have o4 := only_set V3 Q 0 v3
 have own4 := own_only own3 o4 (own_ne own3 r3 (by decide))
 have r4 : Row (V3.setCell ⟨Q, 0, none⟩ v3) Q 37 #[v3] := r3.set 0 v3
 have hall : ∀ y, DlT V2 y → DlT (V3.setCell ⟨Q, 0, none⟩ v3) y := fun y hy => (hy.ownC own2 hgr).only r3 (by decide) o4
 have b3 := below_grown_own (h6.trans (bm.mono hwV)) own2 hgr (Nat.le_trans hwV bm.size) hwl
 have hkp : ∀ b, KpX (fun i => (i = Q ∨ lim ≤ i) ∨ i = b) V (V3.setCell ⟨Q, 0, none⟩ v3) := fun b => (KpX.of_below bm).trans ⟨fun k ob hx hk => by
  rw [o4.block k (fun e => hx (.inl (.inl e)))]
  exact (hgr.block k (Array.getElem?_eq_some_iff.1 hk).1 (fun e => hx (.inl (.inr (own_from own2 e.symm))))).trans hk, Nat.le_trans hgr.size (Nat.le_of_eq o4.size.symm)⟩
 have hkf : KeepsFrom w2.heap.size V (V3.setCell ⟨Q, 0, none⟩ v3) := ((KpX.of_below bm).keeps (X := fun _ => False) (fun _ h => h.elim)).trans ((KeepsFrom.of_own own2 hgr).trans (KeepsFrom.of_only r3 o4))
 obtain ⟨A3, c3, rfl⟩ := own_sl own3
 refine ⟨A3, c3, V3, hrun, ⟨r3, b3⟩, r4, by rw [List.length_append]; exact own4, fun y hy => ?_, below_only b3 o4 hQw, hkf, hkp, by have := (hkp 0).size; omega⟩
 rcases List.mem_append.1 hy with hy | hy
 · exact hall _ ((h4 y hy).go bm)
 · rw [List.mem_singleton.1 hy]; exact hall _ hc
theorem zero_cp (w : World) : (zeroValue 31).run Tryz.prog w = .ok (.agg #[.int .i64 0, .slice none 0 0, .slice none 0 0, .slice none 0 0, .int .i64 0, .slice none 0 0, .int .i64 0, .int .i64 0, .int .i64 0]) w := by kernel_rfl
theorem cp_app0 {W : World} {M : Nat} {t : TypeId} {a b : CpV} (h : Row W M t (a.cells ++ b.cells)) : ∀ j v, a.cells.toList[j]? = some v → W.cell? ((⟨M, 0, none⟩ : Addr).add j) = some v :=
 Row.from_ (cur := a.cells ++ b.cells) h 0 (fun j v hj => by
  have hlt : j < a.cells.size := by have := (List.getElem?_eq_some_iff.1 hj).1; simpa using this
  rw [Nat.zero_add, Array.getElem?_append_left hlt, ← Array.getElem?_toList]; exact hj)
theorem cp_app9 {W : World} {M : Nat} {t : TypeId} {a b : CpV} (h : Row W M t (a.cells ++ b.cells)) : ∀ j v, b.cells.toList[j]? = some v → W.cell? ((⟨M, 9, none⟩ : Addr).add j) = some v :=
 Row.from_ (cur := a.cells ++ b.cells) h 9 (fun j v hj => by
  have h9 : a.cells.size = 9 := rfl
  rw [Array.getElem?_append_right (by omega), h9, Nat.add_sub_cancel_left, ← Array.getElem?_toList]; exact hj)
set_option maxRecDepth 100000 in
set_option maxHeartbeats 8000000 in
theorem diff_any (a b : CpV) (w : World) (ha : CpOk w a) (hb : CpOk w b) :
 Calls Tryz.prog 20 #[.agg a.cells, .agg b.cells] w fun e w' => DiffR a b w w' e := by
 have HA := Lib.hid ha
 have HB := Lib.hid hb
 clear ha hb
 refine (callsIn_wide (n := 0)).1 ?_
 refine callsIn_of_wp_marks Tryz.func20 rfl trivial ?_
 simp only [Tryz.ntmps20, List.size_toArray, List.length_cons, List.length_nil, Nat.reduceAdd, Nat.reduceSub, Array.replicate_succ, Array.replicate_zero, List.push_toArray, List.append_toArray, List.nil_append, List.cons_append]
 refine wpIn_wide.2 ?_
 go_wp2_with (refine at_box _ _ rfl ?_)
 refine Stop.to ?_
 refine wpList_box_gen rfl 31 _ rfl a.cells rfl ?_
 intro G Gw Gh Gr Gb
 go_wp2_with (refine at_box _ _ rfl ?_)
 refine Stop.to ?_
 refine wpList_box_gen rfl 31 _ rfl b.cells rfl ?_
 intro H Hw Hh Hr Hb
 have rG := Gr.below Hb (Nat.lt_of_lt_of_le Gr.lt Hh)
 have b1 := (Below.refl w.heap.size w).trans (Gb.mono Gh)
 have b2 := b1.trans ((Hb.mono Hh).mono b1.size)
 have hGH : G < H := Nat.lt_of_lt_of_le Gr.lt Hh
 have hGw : w.heap.size ≤ G := Gh
 clear Gr Gb Gh Hb Hh b1
 go_wp2_with (first | (refine at_slice _ _ _ rfl ?_) | (refine wpList_load_row rfl 31 _ rfl G rfl 31 a.cells (0, 0) _ rG Tryz.underlying31 rfl (by kernel_rfl) ?_) | (refine wpList_load_row rfl 31 _ rfl H rfl 31 b.cells (0, 0) _ Hr Tryz.underlying31 rfl (by kernel_rfl) ?_))
 refine Stop.to ?_
 refine wpList_slice_gen rfl 75 2 _ rfl 31 (a.cells ++ b.cells) (fun W => by kernel_rfl) ?_
 intro M Mw Mh Mr Mb
 have Mc := Mb.mono Mh
 replace rG := rG.below Mc rG.lt
 replace Hr := Hr.below Mc Hr.lt
 replace b2 := b2.trans (Mc.mono b2.size)
 obtain ⟨S, hSd⟩ : ∃ S, S = (fun W => (Row W G 31 a.cells ∧ Row W H 31 b.cells ∧ Row W M 31 (a.cells ++ b.cells)) ∧ (CpOk W a ∧ CpOk W b) ∧ Below w.heap.size w W) := ⟨_, rfl⟩
 have stS : St S := by rw [hSd]; infer_instance
 have T0 : Hid (∀ W, S W → Row W G 31 a.cells ∧ Row W H 31 b.cells ∧ Row W M 31 (a.cells ++ b.cells)) := by show ∀ W, _; rw [hSd]; exact fun W h => h.1
 have T1 : Hid (∀ W, S W → CpOk W a) := by show ∀ W, _; rw [hSd]; exact fun W h => h.2.1.1
 have T2 : Hid (∀ W, S W → CpOk W b) := by show ∀ W, _; rw [hSd]; exact fun W h => h.2.1.2
 have T3 : Hid (∀ W, S W → Below w.heap.size w W) := by show ∀ W, _; rw [hSd]; exact fun W h => h.2.2
 have hS : S Mw := by rw [hSd]; exact ⟨⟨rG, Hr, Mr⟩, ⟨HA.out.go b2, HB.out.go b2⟩, b2⟩
 have sM := Mr.lt
 have HAB : Hid (CpOk w a ∧ CpOk w b) := ⟨HA.out, HB.out⟩
 clear hSd rG Hr Mr Mb Mh Mc b2 HA HB
 go_wp2_with fail
 go_loopw [17] (fun i wr => ∃ k : Nat, i = .int .i64 (k : Int) ∧ k ≤ 2 ∧ Hid ((0 < k → cpCheckZ a = 0) ∧ (1 < k → cpCheckZ b = 0)) ∧ S wr) (fun i _ => 2 - (intOf i).toNat)
 case atStart => exact ⟨0, rfl, by omega, Lib.hid ⟨fun h => by omega, fun h => by omega⟩, hS⟩
 case round =>
  clear hS
  obtain ⟨k, rfl, hk, Hk, hS⟩ := hrel
  have hk2 : k = 0 ∨ k = 1 ∨ k = 2 := by omega
  clear hk
  rcases hk2 with rfl | rfl | rfl
  · skip
    have c0 := (T0.out _ hS).2.2
    go_wp2_with (first | (refine wpList_load_at rfl 31 _ rfl ⟨M, 0, none⟩ rfl a.cells.toList _ (cp_app0 c0) Tryz.underlying31 rfl (by kernel_rfl) ?_) | (refine at_alloc _ rfl ?_))
    refine Stop.to ?_
    refine wpList_alloc_gen rfl 31 rfl _ _ (zero_cp _) rfl ?_
    intro E Ew Eh Er Eb
    go_wp2_with (refine at_store _ _ _ rfl ?_)
    refine Stop.to ?_
    refine wpList_store_gen rfl 31 _ _ rfl E a.cells rfl rfl 31 _ Er (by kernel_rfl) rfl (by simp [CpV.cells, Value.oneCell']) ?_
    intro Ex Es Eo
    have Ec := (Eb.mono Eh).trans (Eo.below Eh)
    clear Eb Er Eo
    replace hS := stS.go hS Ec
    have Hs := Lib.hid (cpCheck_any a Ex (T1.out _ hS))
    clear c0 Ec Eh
    go_wp2_with (refine wpList_load_row rfl 31 _ rfl E rfl 31 a.cells (0, 0) _ Es Tryz.underlying31 rfl (by kernel_rfl) ?_)
    refine Hs.out.mono ?_
    rintro e w' ⟨rfl, b1⟩
    replace hS := stS.go hS b1
    clear Hs b1 Es
    obtain ⟨z, hz⟩ : ∃ z, z = cpCheckZ a := ⟨_, rfl⟩
    rw [← hz]
    by_cases h0 : z = 0
    · have hz2 : (z != 0) = false := by simp [h0]
      have Hk2 : Hid ((0 < 0 + 1 → cpCheckZ a = 0) ∧ (1 < 0 + 1 → cpCheckZ b = 0)) := ⟨fun _ => by rw [← hz]; exact h0, fun h => by omega⟩
      clear hz Hk h0
      go_wp2_with fail
      exact ⟨⟨0 + 1, by simp, by omega, Hk2, hS⟩, by simp [intOf]⟩
    · have hz2 : (z != 0) = true := by simpa using h0
      have hE : diffE a b = z := by unfold diffE cpChecks; rw [if_pos (by rw [if_pos (by rw [← hz]; exact h0), ← hz]; exact h0), if_pos (by rw [← hz]; exact h0), hz]
      have HF : Hid (DiffR a b w w' (.returned (.tuple #[.slice none 0 0, .int .i64 z]))) := ⟨none, 0, [], by rw [hE]; rfl, Rd.nil _ _, Nat.le_refl _, fun _ => rfl, fun c hc => by simp at hc, by rw [hE, if_neg h0]; rfl, T3.out _ hS, fun ad e => by cases e⟩
      clear hz Hk hE
      go_wp2_with fail
      exact ⟨_, results_tmp2 Tryz.results20 _ _ _, HF.out⟩
  · skip
    have c0 := (T0.out _ hS).2.2
    go_wp2_with (first | (refine wpList_load_at rfl 31 _ rfl ⟨M, 9, none⟩ rfl b.cells.toList _ (cp_app9 c0) Tryz.underlying31 rfl (by kernel_rfl) ?_) | (refine at_alloc _ rfl ?_))
    refine Stop.to ?_
    refine wpList_alloc_gen rfl 31 rfl _ _ (zero_cp _) rfl ?_
    intro E Ew Eh Er Eb
    go_wp2_with (refine at_store _ _ _ rfl ?_)
    refine Stop.to ?_
    refine wpList_store_gen rfl 31 _ _ rfl E b.cells rfl rfl 31 _ Er (by kernel_rfl) rfl (by simp [CpV.cells, Value.oneCell']) ?_
    intro Ex Es Eo
    have Ec := (Eb.mono Eh).trans (Eo.below Eh)
    clear Eb Er Eo
    replace hS := stS.go hS Ec
    have Hs := Lib.hid (cpCheck_any b Ex (T2.out _ hS))
    clear c0 Ec Eh
    go_wp2_with (refine wpList_load_row rfl 31 _ rfl E rfl 31 b.cells (0, 0) _ Es Tryz.underlying31 rfl (by kernel_rfl) ?_)
    refine Hs.out.mono ?_
    rintro e w' ⟨rfl, b1⟩
    replace hS := stS.go hS b1
    clear Hs b1 Es
    obtain ⟨z, hz⟩ : ∃ z, z = cpCheckZ b := ⟨_, rfl⟩
    rw [← hz]
    by_cases h0 : z = 0
    · have hz2 : (z != 0) = false := by simp [h0]
      have Hk2 : Hid ((0 < 1 + 1 → cpCheckZ a = 0) ∧ (1 < 1 + 1 → cpCheckZ b = 0)) := ⟨fun _ => Hk.out.1 (by omega), fun h => by rw [← hz]; exact h0⟩
      clear hz Hk h0
      go_wp2_with fail
      exact ⟨⟨1 + 1, by simp, by omega, Hk2, hS⟩, by simp [intOf]⟩
    · have hz2 : (z != 0) = true := by simpa using h0
      have h00 : cpCheckZ a = 0 := Hk.out.1 (by omega)
      have hE : diffE a b = z := by unfold diffE cpChecks; rw [if_pos (by rw [if_neg (by simp [h00]), ← hz]; exact h0), if_neg (by simp [h00]), hz]
      have HF : Hid (DiffR a b w w' (.returned (.tuple #[.slice none 0 0, .int .i64 z]))) := ⟨none, 0, [], by rw [hE]; rfl, Rd.nil _ _, Nat.le_refl _, fun _ => rfl, fun c hc => by simp at hc, by rw [hE, if_neg h0]; rfl, T3.out _ hS, fun ad e => by cases e⟩
      clear hz Hk hE h00
      go_wp2_with fail
      exact ⟨_, results_tmp2 Tryz.results20 _ _ _, HF.out⟩
  · have hch : cpChecks a b = 0 := by unfold cpChecks; rw [Hk.out.1 (by omega), if_neg (by simp)]; exact Hk.out.2 (by omega)
    have Hch := Lib.hid hch
    have Hs := Lib.hid (pgSame_any a.p b.p wr (T1.out _ hS).pok (T2.out _ hS).pok (T1.out _ hS).bl (T1.out _ hS).vl)
    clear hch Hk
    go_wp2_with (first | (refine wpList_load_at rfl 25 _ rfl ⟨G, 0, none⟩ rfl a.p.cells.toList _ (cp_head (T0.out _ hS).1) Tryz.underlying25 rfl (by kernel_rfl) ?_) | (refine wpList_load_at rfl 25 _ rfl ⟨H, 0, none⟩ rfl b.p.cells.toList _ (cp_head (T0.out _ hS).2.1) Tryz.underlying25 rfl (by kernel_rfl) ?_))
    refine Hs.out.mono ?_
    rintro e w1 ⟨rfl, b1⟩
    replace hS := stS.go hS b1
    clear Hs b1
    obtain ⟨sp, hsp⟩ : ∃ sp, sp = sameP a.p b.p := ⟨_, rfl⟩
    rw [← hsp]
    have hE : diffE a b = if sp = true then 0 else 26 := by unfold diffE; rw [if_neg (by simp [Hch.out]), hsp]
    have HE := Lib.hid hE
    clear hsp hE Hch
    cases sp
    · have HF : Hid (DiffR a b w w1 (.returned (.tuple #[.slice none 0 0, .int .i64 26]))) := by
       have hE : diffE a b = 26 := HE.out
       exact ⟨none, 0, [], by rw [hE]; rfl, Rd.nil _ _, Nat.le_refl _, fun _ => rfl, fun c hc => by simp at hc, by rw [hE, if_neg (by omega)]; rfl, T3.out _ hS, fun ad e => by cases e⟩
      clear HE
      go_wp2_with fail
      exact ⟨_, results_tmp2 Tryz.results20 _ _ _, HF.out⟩
    have HE0 : Hid (diffE a b = 0) := HE.out
    clear HE
    go_wp2_with (first | fail | (refine at_alloc _ rfl ?_))
    refine Stop.to ?_
    refine wpList_alloc_gen rfl 37 rfl _ _ (zero_lc _) rfl ?_
    intro Q Qw Qh Qr Qb
    have Qc := Qb.mono Qh
    have sQ := hS
    replace hS := stS.go hS Qc
    have hQw : w.heap.size ≤ Q := by have := (T3.out _ sQ).size; omega
    have hQM : H < Q := by have := (T0.out _ sQ).2.1.lt; omega
    clear Qb Qh Qc sQ
    have c1 := cp_mut (T0.out _ hS).1
    have c2 := cp_mut (T0.out _ hS).2.1
    go_wp2_with fail
    refine (zipFn_any a.mA b.mA a.mcap b.mcap a.mts.length b.mts.length Qw).mono ?_
    rintro e w2 ⟨ba, bb, bc, rfl, ra, rb, rc, ga, gb, gc, b2⟩
    have sQ := Qr.lt
    replace Qr := Qr.below b2 Qr.lt
    replace hS := stS.go hS b2
    obtain ⟨lim, hlim⟩ : ∃ lim, lim = w2.heap.size := ⟨_, rfl⟩
    have hold : ∀ k, k < w.heap.size → ¬ (k = Q ∨ lim ≤ k) := fun k hk h => by have := (T3.out _ hS).size; omega
    have hab := HAB.out
    have hC : ZipC a.mA b.mA a.mcap b.mcap a.mts b.mts (fun k => k = Q ∨ lim ≤ k) ba bb bc w2 := ⟨ra, rb, rc, fun h => by have := ra.lt; omega, fun h => by have := rb.lt; omega, fun h => by have := rc.lt; omega,
     (T1.out _ hS).mrd, fun hne ad e => hold _ (rd_lt hab.1.mrd hne e), (T2.out _ hS).mrd, fun hne ad e => hold _ (rd_lt hab.2.mrd hne e),
     (T1.out _ hS).mok, fun x hx hne ad e => hold _ (rd_lt (hab.1.mok x hx).rd hne e), (T2.out _ hS).mok, fun x hx hne ad e => hold _ (rd_lt (hab.2.mok x hx).rd hne e)⟩
    have Hit := Lib.hid (zip1_iter a.mA b.mA a.mcap b.mcap a.mts b.mts (fun k => k = Q ∨ lim ≤ k) ba bb bc w2 hC (T1.out _ hS).mlen (T2.out _ hS).mlen)
    have Hb := Lib.hid (T3.out _ hS)
    have hQl : Q < lim := by have := Qr.lt; omega
    have hwl : w.heap.size ≤ lim := by omega
    have Hlim := Lib.hid hlim
    clear hC ra rb rc ga gb gc b2 hS hold c1 c2 sQ hlim T0 T1 T2 T3 hab
    go_wp2_with fail
    refine (wpIn_wide (n := 0)).1 ?_
    have HI0 : Hid (∃ v, ∃ cs : List ChV, Row w2 Q 37 #[v] ∧ w2.ownsRow lim 51 5 v cs.length (chsC cs) ∧ cs.map ChV.data = ([] : List ZX).filterMap (chgN a.muts b.muts) ∧ (∀ c ∈ cs, DlT w2 c.x) ∧ cs.length ≤ ([] : List ZX).length ∧ Below w.heap.size w w2 ∧ lim ≤ w2.heap.size) := ⟨_, [], Qr, World.ownsRow_nil _ _ _ _, rfl, fun c hc => by simp at hc, Nat.le_refl _, Hb.out, Nat.le_of_eq Hlim.out⟩
    have hfl : (zipN a.muts b.muts 0 0).length ≤ 200000 := zipN_le HAB.out.1.mlen HAB.out.2.mlen
    obtain ⟨full, hfull⟩ : ∃ full, full = zipN a.muts b.muts 0 0 := ⟨_, rfl⟩
    rw [show zipN (a.mts.map MtV.m) (b.mts.map MtV.m) 0 0 = full from hfull.symm] at Hit
    rw [← hfull] at hfl
    have Hfull := Lib.hid hfull
    clear Qr Hb hfull
    refine rangeP (gf := 104) (lb := #[.pointer (some ⟨ba, 0, none⟩), .pointer (some ⟨bb, 0, none⟩), .pointer (some ⟨bc, 0, none⟩)]) rfl (enters_of Tryz.func104 (by kernel_rfl) rfl) Hit.out (fun r h => h.elim)
     (fun h k => h.trans k) (fun V o o' ho hc => ⟨fun i p hx hp => by rw [World.putObj_heap_other (fun e => hx (.inr e))]; exact hp, by simp⟩) (World.grownBy.refl _ _) (fun _ => rfl)
     (fun pre V => ∃ v, ∃ cs : List ChV, Row V Q 37 #[v] ∧ V.ownsRow lim 51 5 v cs.length (chsC cs) ∧ cs.map ChV.data = pre.filterMap (chgN a.muts b.muts) ∧ (∀ c ∈ cs, DlT V c.x) ∧ cs.length ≤ pre.length ∧ Below w.heap.size w V ∧ lim ≤ V.heap.size)
     (fun _ _ _ => False) (.inl trivial) ?hI ?hIx HI0.out
     (fun pre z a' V => a' = { tmps := #[.agg a.cells, .agg b.cells, .pointer (some ⟨G, 0, none⟩), .pointer (some ⟨H, 0, none⟩), u4, u5, undef, u7, u8, .pointer (some ⟨Q, 0, none⟩), zpt a.mA z.1, zpt b.mA z.2, undef, .agg a.cells, .agg b.cells, .slice (some ⟨M, 0, none⟩) 2 2, .int .i64 2, .int .i64 2, .bool false, u19, u20, u21, u22, u23, u24, u25, u26, .pointer (some ⟨G, 0, none⟩), .agg a.p.cells, .pointer (some ⟨H, 0, none⟩), .agg b.p.cells, .bool true, .bool false, .pointer (some ⟨G, 5, none⟩), .slice a.mA a.mts.length a.mcap, .pointer (some ⟨H, 5, none⟩), .slice b.mA b.mts.length b.mcap, .func (.func 104) #[] #[.pointer (some ⟨ba, 0, none⟩), .pointer (some ⟨bb, 0, none⟩), .pointer (some ⟨bc, 0, none⟩)], zpt a.mA z.1, zpt b.mA z.2, undef, undef, undef, undef, undef, undef, undef, undef, undef, undef, undef, undef, undef, undef, undef, undef, undef, undef, undef, undef, undef, undef, undef], defers := [] } ∧ ZipP full pre z V) ?hAx ?assign ?body ?done ?stop
    case hI =>
     rintro pre V V' row ⟨v, cs, h1, h2, h3, h4, h5, h6, h7⟩ hg hr
     have hrow : ∀ r, row = some r → w2.heap.size ≤ r ∧ v.ownBlock ≠ some r := fun r e => by
      rcases hr r e with h | ⟨h, o, ho, hc⟩
      · exact h.elim
      · exact ⟨h, own_cells h2 ho hc⟩
     refine ⟨v, cs, h1.abide hg hr, h2.kept hg ?_, h3, fun x hx => (h4 x hx).abide hg hr, h5, h6.grown hg h6.size (fun k e => by have := (hrow k e).1; have := Hlim.out; omega), Nat.le_trans h7 hg.size⟩
     cases row with
     | none => cases v.ownBlock <;> simp
     | some r => exact .inr (hrow r rfl).2
    case hIx => exact fun _ _ _ _ _ h _ _ => h
    case hAx => exact fun pre z a' _ _ _ _ h _ _ => h
    case stop => exact fun D c pre W _ _ h _ => h.elim
    case assign =>
     rintro l3 pre z V K hI hP hK
     have HK := Lib.hid hK
     have HI := Lib.hid hI
     have HP := Lib.hid hP
     clear hK hI hP
     unfold zenc
     gi_wp2_with fail
     exact HK.out _ _ (KeepsFrom.refl _ _) (KpX.refl _ _) HI.out ⟨rfl, HP.out⟩
    case body =>
     rintro l3 pre z a' V hl3 _ ⟨v, cs, h1, h2, h3, h4, h5, h6, h7⟩ ⟨rfl, rest, hrest⟩ hlen
     have hpl : pre.length < 200000 := by have := congrArg List.length hrest; simp at this; omega
     dsimp only
     have hz : z ∈ zipN a.muts b.muts 0 0 := by rw [← show full = zipN a.muts b.muts 0 0 from Hfull.out, ← hrest]; simp
     obtain ⟨S, hSd⟩ : ∃ S, S = (fun W => Below w.heap.size w W ∧ Row W Q 37 #[v]) := ⟨_, rfl⟩
     have stS : St S := by rw [hSd]; infer_instance
     have T0 : Hid (∀ W, S W → Below w.heap.size w W ∧ Row W Q 37 #[v]) := by show ∀ W, _; rw [hSd]; exact fun W h => h
     have TS : Hid (∀ W, Below w.heap.size w W → Row W Q 37 #[v] → S W) := by show ∀ W, _; rw [hSd]; exact fun W h1 h2 => ⟨h1, h2⟩
     have hS : S V := TS.out _ h6 h1
     clear hSd hrest hlen hl3 hfl Hit
     have HA := Lib.hid HAB.out.1
     have HB := Lib.hid HAB.out.2
     rcases zipN_mem a.muts b.muts a.muts b.muts 0 0 rfl rfl z hz with ⟨i, x, rfl, hx⟩ | ⟨k, y, rfl, hy⟩ | ⟨i, k, x, y, rfl, hx, hy, -⟩
     · obtain ⟨p, xv, rfl, hxm, hp, hpc⟩ := zpt_at HA.out.mrd hx
       have HX : Hid (∀ W, S W → MtOk W xv) := fun W h => (HA.out.go (T0.out W h).1).mok xv hxm
       have HXc : Hid (∀ W, S W → ∀ j u, xv.cells[j]? = some u → W.cell? (p.add j) = some u) := fun W h => hpc W (HA.out.go (T0.out W h).1).mrd
       obtain ⟨va, hva0⟩ : ∃ va, va = xv.m.verdict := ⟨_, rfl⟩
       obtain ⟨vb, hvb0⟩ : ∃ vb : Int, vb = -1 := ⟨_, rfl⟩
       have hva : vdN a.muts (some i, (none : Option Nat)).1 = va := (vdN_some hx).trans hva0.symm
       have hvb : vdN b.muts ((some i : Option Nat), (none : Option Nat)).2 = vb := hvb0.symm
       have T10 : Hid (∀ W, S W → Calls Tryz.prog 55 #[.pointer (some p)] W fun e w' => e = .returned (.int .i64 va) ∧ w' = W) := fun W h => by rw [hva0]; exact told_at p xv W (HXc.out W h)
       have T11 : Hid (∀ W, S W → Calls Tryz.prog 55 #[.pointer none] W fun e w' => e = .returned (.int .i64 vb) ∧ w' = W) := fun W h => by rw [hvb0]; exact told_nil W
       have Hpk : Hid (pickN a.muts b.muts ((some i : Option Nat), (none : Option Nat)) = xv.m) := pickN_l hx
       rw [show zpt a.mA (some i) = .pointer (some p) from hp, show zpt b.mA none = .pointer none from rfl]
       clear hx hxm hp hpc hva0 hvb0 hz
       have Hva := Lib.hid hva
       have Hvb := Lib.hid hvb
       clear hva hvb
       gi_wp2_with fail
       refine ⟨trivial, rfl, (CallsIn.inRound l3 (callsIn_wide.2 (T10.out V hS))).mono ?_⟩
       rintro e W2 ⟨rfl, hW⟩
       rw [hW]
       clear hW W2
       gi_wp2_with fail
       refine ⟨trivial, rfl, (CallsIn.inRound l3 (callsIn_wide.2 (T11.out V hS))).mono ?_⟩
       rintro e W2 ⟨rfl, hW⟩
       rw [hW]
       clear hW W2
       by_cases hvv : va = vb
       · have hq : (va == vb) = true := by simpa using hvv
         have HF : Hid (KeepsFrom w2.heap.size V V ∧ KpX (fun i => (i = Q ∨ lim ≤ i) ∨ i = w2.heap.size + 1) V V ∧ ∃ v, ∃ cs : List ChV, Row V Q 37 #[v] ∧ V.ownsRow lim 51 5 v cs.length (chsC cs) ∧ cs.map ChV.data = (pre ++ [((some i : Option Nat), (none : Option Nat))]).filterMap (chgN a.muts b.muts) ∧ (∀ c ∈ cs, DlT V c.x) ∧ cs.length ≤ (pre ++ [((some i : Option Nat), (none : Option Nat))]).length ∧ Below w.heap.size w V ∧ lim ≤ V.heap.size) :=
          ⟨KeepsFrom.refl _ _, KpX.refl _ _, v, cs, h1, h2, by rw [h3, List.filterMap_append]; simp only [List.filterMap_cons, List.filterMap_nil]; rw [show chgN a.muts b.muts ((some i : Option Nat), (none : Option Nat)) = none from by unfold chgN; rw [if_pos (by rw [Hva.out, Hvb.out]; exact hvv)]]; simp, h4, by rw [List.length_append]; omega, h6, h7⟩
         clear hvv h1 h2 h3 h4 h5 h6 h7 hS T10 T11 HX HXc T0 TS stS S Hva Hvb Hpk
         gi_wp2_with fail
         exact HF.out
       · have hq : (va == vb) = false := by simpa using hvv
         have Hd : Hid (chgN a.muts b.muts ((some i : Option Nat), (none : Option Nat)) = some (xv.m.d, va, vb)) := by show _ = _; unfold chgN; rw [if_neg (by rw [Hva.out, Hvb.out]; exact hvv), Hpk.out, Hva.out, Hvb.out]
         clear hvv Hva Hvb Hpk
         gi_wp2_with fail
         obtain ⟨Vd, hVd⟩ : ∃ Vd, Vd = V.drew := ⟨_, rfl⟩
         have bd : Below V.heap.size V Vd := by rw [hVd]; exact St.drew (S := fun W => Below V.heap.size V W) (Below.refl _ _)
         have hSd2 : S Vd := stS.go hS bd
         refine region_lastR (last := 13) (S := S) (by kernel_rfl) (by kernel_rfl) ?_
         simp only [List.size_toArray, List.length_cons, List.length_nil, Nat.reduceAdd, Array.replicate_succ, Array.replicate_zero, List.push_toArray, List.nil_append, List.cons_append]
         rw [← hVd]
         clear hVd hS
         have hS := hSd2
         clear hSd2
         (refine takeL (i := 0) (v := v) rfl (by kernel_rfl) (by kernel_rfl) (by kernel_rfl) (by kernel_rfl) (fun _ _ _ h => h) (yieldsC_of (yields_val rfl (fun W hW => by ((have c := (T0.out W hW).2.cellv (i := 0) (v := v) rfl; go_simp))))) (by assumption) ?_; simp only [Act.put, List.setIfInBounds_toArray, List.set_cons_zero, List.set_cons_succ])
         (refine takeL (i := 1) (v := .pointer (some p)) rfl (by kernel_rfl) (by kernel_rfl) (by kernel_rfl) (by kernel_rfl) (fun _ _ _ h => h) (yieldsC_of (yields_val rfl (fun W hW => by (go_simp)))) (by assumption) ?_; simp only [Act.put, List.setIfInBounds_toArray, List.set_cons_zero, List.set_cons_succ])
         (refine takeL (i := 2) (v := .pointer (some p)) rfl (by kernel_rfl) (by kernel_rfl) (by kernel_rfl) (by kernel_rfl) (fun _ _ _ h => h) (yieldsC_of (yields_val rfl (fun W hW => by (go_simp)))) (by assumption) ?_; simp only [Act.put, List.setIfInBounds_toArray, List.set_cons_zero, List.set_cons_succ])
         (refine takeL (i := 3) (v := _) rfl (by kernel_rfl) (by kernel_rfl) (by kernel_rfl) (by kernel_rfl) (fun _ _ _ h => h) (yieldsC_of ((yields_atp rfl 47 _ rfl p rfl xv.cells _ (fun W hW => HXc.out W hW) Tryz.underlying47 rfl (by kernel_rfl)))) (by assumption) ?_; simp only [Act.put, List.setIfInBounds_toArray, List.set_cons_zero, List.set_cons_succ])
         (refine takeL (i := 6) (v := .pointer (some p)) rfl (by kernel_rfl) (by kernel_rfl) (by kernel_rfl) (by kernel_rfl) (fun _ _ _ h => h) (yieldsC_of (yields_val rfl (fun W hW => by (go_simp)))) (by assumption) ?_; simp only [Act.put, List.setIfInBounds_toArray, List.set_cons_zero, List.set_cons_succ])
         (refine takeL (i := 8) (v := .pointer none) rfl (by kernel_rfl) (by kernel_rfl) (by kernel_rfl) (by kernel_rfl) (fun _ _ _ h => h) (yieldsC_of (yields_val rfl (fun W hW => by (go_simp)))) (by assumption) ?_; simp only [Act.put, List.setIfInBounds_toArray, List.set_cons_zero, List.set_cons_succ])
         (refine wpAnyL_all (rs := [4]) (by kernel_rfl) (by simp) (fun i hi => ?_); obtain rfl : i = 4 := by simpa using hi)
         refine wpOp_plain rfl rfl (fun K2 hK2 => ?_)
         refine wp_call_gen 48 #[.agg xv.cells.toArray] (w1 := Vd) (by go_simp; try rfl) (Calls.mono (copied_any xv Vd (HX.out Vd hS)) ?_)
         rintro e W9 ⟨y, rfl, ym, yok, yib, -, yb⟩
         refine ⟨_, rfl, hK2 _ _ ?_⟩
         clear hK2 K2
         simp only [Act.put, List.setIfInBounds_toArray, List.set_cons_zero, List.set_cons_succ]
         have hS9 := stS.go hS yb
         refine ⟨fun _ => hS9, ?_⟩
         have Hym := Lib.hid ym
         clear ym
         clear hS
         (refine takeL (i := 5) (v := .agg #[.slice y.A y.m.d.path.length y.cap, .int .i64 y.m.d.op, .int .i64 y.m.d.n]) rfl (by kernel_rfl) (by kernel_rfl) (by kernel_rfl) (by kernel_rfl) (fun _ _ _ h => h) (yieldsC_of (yields_val rfl (fun W hW => by ((have c := fld_mt y W; go_simp))))) (by assumption) ?_; simp only [Act.put, List.setIfInBounds_toArray, List.set_cons_zero, List.set_cons_succ])
         (refine takeL (i := 7) (v := .int .i64 va) rfl (by kernel_rfl) (by kernel_rfl) (by kernel_rfl) (by kernel_rfl) (fun _ _ _ h => h) (.inl ⟨rfl, fun W hW => .inr ⟨55, _, by (go_simp; try rfl), T10.out W hW⟩⟩) (by assumption) ?_; simp only [Act.put, List.setIfInBounds_toArray, List.set_cons_zero, List.set_cons_succ])
         (refine takeL (i := 9) (v := .int .i64 vb) rfl (by kernel_rfl) (by kernel_rfl) (by kernel_rfl) (by kernel_rfl) (fun _ _ _ h => h) (.inl ⟨rfl, fun W hW => .inr ⟨55, _, by (go_simp; try rfl), T11.out W hW⟩⟩) (by assumption) ?_; simp only [Act.put, List.setIfInBounds_toArray, List.set_cons_zero, List.set_cons_succ])
         obtain ⟨c, hc⟩ : ∃ c : ChV, c = ⟨⟨y.A, y.cap, y.m.d⟩, va, vb⟩ := ⟨_, rfl⟩
         have Hc := Lib.hid hc
         clear hc
         (refine takeL (i := 10) (v := .agg c.cells) rfl (by kernel_rfl) (by kernel_rfl) (by kernel_rfl) (by kernel_rfl) (fun _ _ _ h => h) (yieldsC_of (yields_val rfl (fun W hW => by ((have e := Hc.out; rw [e]; clear e; go_simp; try rfl))))) (by assumption) ?_; simp only [Act.put, List.setIfInBounds_toArray, List.set_cons_zero, List.set_cons_succ])
         (refine wpAnyL_all (rs := [11]) (by kernel_rfl) (by simp) (fun i hi => ?_); obtain rfl : i = 11 := by simpa using hi)
         refine wpOp_plain rfl rfl (fun K2 hK2 => ?_)
         refine wp_res_gen (.slice (some ⟨W9.heap.size, 0, none⟩) 1 1) (run_exec_bslice [(0, .tmp 59)] rfl (bs_run (cells := c.cells) Tryz.underlying37 info_chz (by decide) (by decide) (by kernel_rfl) W9)) ?_
         refine hK2 _ _ ?_
         clear hK2 K2
         simp only [Act.put, List.setIfInBounds_toArray, List.set_cons_zero, List.set_cons_succ]
         obtain ⟨M2, hM2⟩ : ∃ M2, M2 = W9.heap.size := ⟨_, rfl⟩
         obtain ⟨V2, hV2⟩ : ∃ V2, V2 = W9.alloc (.cells c.cells 51) := ⟨_, rfl⟩
         have Mr : Row V2 M2 51 c.cells := by rw [hV2, hM2]; exact Row.new _ _ _
         have Mb : Below W9.heap.size W9 V2 := by rw [hV2]; exact (Below.refl _ _).alloc (Nat.le_refl _) _
         rw [← hM2, ← hV2]
         clear hM2 hV2
         have hS2 := stS.go hS9 Mb
         refine ⟨fun _ => hS2, ?_⟩
         have bm : Below V.heap.size V V2 := (bd.trans (yb.mono bd.size)).trans (Mb.mono (Nat.le_trans bd.size yb.size))
         have hdl : DlT W9 ⟨y.A, y.cap, y.m.d⟩ := ⟨⟨yok.rd, yok.len⟩, yib, yok.nil⟩
         have hdl2 : DlT V2 c.x := by rw [Hc.out]; exact hdl.go Mb
         obtain ⟨A3, c3, V3, hrun, hr3, hst⟩ := chg_app w w2 V V2 Q lim M2 v cs c h2 h4 h6 h7 (T0.out _ hS2).2 bm Mr hdl2 (by omega) hQw hwl
         have hS3 : S V3 := TS.out _ hr3.2 hr3.1
         have r3 := hr3.1
         have Hrun := Lib.hid hrun
         have HF : Hid (KeepsFrom w2.heap.size V (V3.setCell ⟨Q, 0, none⟩ (.slice A3 (cs.length + 1) c3)) ∧ KpX (fun i => (i = Q ∨ lim ≤ i) ∨ i = w2.heap.size + 1) V (V3.setCell ⟨Q, 0, none⟩ (.slice A3 (cs.length + 1) c3)) ∧ ∃ v, ∃ cs9 : List ChV, Row (V3.setCell ⟨Q, 0, none⟩ (.slice A3 (cs.length + 1) c3)) Q 37 #[v] ∧ (V3.setCell ⟨Q, 0, none⟩ (.slice A3 (cs.length + 1) c3)).ownsRow lim 51 5 v cs9.length (chsC cs9) ∧ cs9.map ChV.data = (pre ++ [((some i : Option Nat), (none : Option Nat))]).filterMap (chgN a.muts b.muts) ∧ (∀ c ∈ cs9, DlT (V3.setCell ⟨Q, 0, none⟩ (.slice A3 (cs.length + 1) c3)) c.x) ∧ cs9.length ≤ (pre ++ [((some i : Option Nat), (none : Option Nat))]).length ∧ Below w.heap.size w (V3.setCell ⟨Q, 0, none⟩ (.slice A3 (cs.length + 1) c3)) ∧ lim ≤ (V3.setCell ⟨Q, 0, none⟩ (.slice A3 (cs.length + 1) c3)).heap.size) :=
          ⟨hst.kf, hst.kp _, _, cs ++ [c], hst.row, hst.own, by
           rw [List.map_append, h3, List.filterMap_append]
           simp only [List.filterMap_cons, List.filterMap_nil, List.map_cons, List.map_nil]
           rw [Hd.out, Hc.out]; simp only [ChV.data]; rw [Hym.out], hst.all, by rw [List.length_append, List.length_append]; simp only [List.length_cons, List.length_nil]; omega, hst.below, hst.size⟩
         have f3 := r3.free 0
         have c3' := r3.cellv (i := 0) (v := v) rfl
         clear hrun hr3 hst bm Mr hdl hdl2 yok yib yb Mb bd hS9 h1 h2 h3 h4 h6 h7 T10 T11 HX HXc Hym Hd Hc hQw hwl r3
         (refine wpAnyL_all (rs := [12]) (by kernel_rfl) (by simp) (fun i hi => ?_); obtain rfl : i = 12 := by simpa using hi)
         refine wpOp_plain rfl rfl (fun K2 hK2 => ?_)
         refine wp_res_gen _ (run_exec_append rfl Hrun.out) ?_
         refine hK2 _ _ ?_
         clear hK2 K2 Hrun
         simp only [Act.put, List.setIfInBounds_toArray, List.set_cons_zero, List.set_cons_succ]
         refine ⟨fun _ => hS3, ?_⟩
         (refine wpAnyL_all (rs := [13]) (by kernel_rfl) (by simp) (fun i hi => ?_); obtain rfl : i = 13 := by simpa using hi)
         refine wpOp_plain rfl rfl (fun K2 hK2 => ?_)
         unfold Oper.wp
         go_simp
         refine hK2 _ _ ?_
         clear hK2 K2
         simp only [List.setIfInBounds_toArray, List.set_cons_zero, List.set_cons_succ]
         refine ⟨fun h => absurd rfl h, ?_⟩
         refine wpAnyL_done (by kernel_rfl) ?_ _
         refine ends_normal ?_
         gi_wp2_with fail
         exact HF.out
     · obtain ⟨p, xv, rfl, hxm, hp, hpc⟩ := zpt_at HB.out.mrd hy
       have HX : Hid (∀ W, S W → MtOk W xv) := fun W h => (HB.out.go (T0.out W h).1).mok xv hxm
       have HXc : Hid (∀ W, S W → ∀ j u, xv.cells[j]? = some u → W.cell? (p.add j) = some u) := fun W h => hpc W (HB.out.go (T0.out W h).1).mrd
       obtain ⟨vb, hvb0⟩ : ∃ vb, vb = xv.m.verdict := ⟨_, rfl⟩
       obtain ⟨va, hva0⟩ : ∃ va : Int, va = -1 := ⟨_, rfl⟩
       have hvb : vdN b.muts ((none : Option Nat), some k).2 = vb := (vdN_some hy).trans hvb0.symm
       have hva : vdN a.muts ((none : Option Nat), (some k : Option Nat)).1 = va := hva0.symm
       have T11 : Hid (∀ W, S W → Calls Tryz.prog 55 #[.pointer (some p)] W fun e w' => e = .returned (.int .i64 vb) ∧ w' = W) := fun W h => by rw [hvb0]; exact told_at p xv W (HXc.out W h)
       have T10 : Hid (∀ W, S W → Calls Tryz.prog 55 #[.pointer none] W fun e w' => e = .returned (.int .i64 va) ∧ w' = W) := fun W h => by rw [hva0]; exact told_nil W
       have Hpk : Hid (pickN a.muts b.muts ((none : Option Nat), (some k : Option Nat)) = xv.m) := pickN_r hy
       rw [show zpt b.mA (some k) = .pointer (some p) from hp, show zpt a.mA none = .pointer none from rfl]
       clear hy hxm hp hpc hva0 hvb0 hz
       have Hva := Lib.hid hva
       have Hvb := Lib.hid hvb
       clear hva hvb
       gi_wp2_with fail
       refine ⟨trivial, rfl, (CallsIn.inRound l3 (callsIn_wide.2 (T10.out V hS))).mono ?_⟩
       rintro e W2 ⟨rfl, hW⟩
       rw [hW]
       clear hW W2
       gi_wp2_with fail
       refine ⟨trivial, rfl, (CallsIn.inRound l3 (callsIn_wide.2 (T11.out V hS))).mono ?_⟩
       rintro e W2 ⟨rfl, hW⟩
       rw [hW]
       clear hW W2
       by_cases hvv : va = vb
       · have hq : (va == vb) = true := by simpa using hvv
         have HF : Hid (KeepsFrom w2.heap.size V V ∧ KpX (fun i => (i = Q ∨ lim ≤ i) ∨ i = w2.heap.size + 1) V V ∧ ∃ v, ∃ cs : List ChV, Row V Q 37 #[v] ∧ V.ownsRow lim 51 5 v cs.length (chsC cs) ∧ cs.map ChV.data = (pre ++ [((none : Option Nat), (some k : Option Nat))]).filterMap (chgN a.muts b.muts) ∧ (∀ c ∈ cs, DlT V c.x) ∧ cs.length ≤ (pre ++ [((none : Option Nat), (some k : Option Nat))]).length ∧ Below w.heap.size w V ∧ lim ≤ V.heap.size) :=
          ⟨KeepsFrom.refl _ _, KpX.refl _ _, v, cs, h1, h2, by rw [h3, List.filterMap_append]; simp only [List.filterMap_cons, List.filterMap_nil]; rw [show chgN a.muts b.muts ((none : Option Nat), (some k : Option Nat)) = none from by unfold chgN; rw [if_pos (by rw [Hva.out, Hvb.out]; exact hvv)]]; simp, h4, by rw [List.length_append]; omega, h6, h7⟩
         clear hvv h1 h2 h3 h4 h5 h6 h7 hS T10 T11 HX HXc T0 TS stS S Hva Hvb Hpk
         gi_wp2_with fail
         exact HF.out
       · have hq : (va == vb) = false := by simpa using hvv
         have Hd : Hid (chgN a.muts b.muts ((none : Option Nat), (some k : Option Nat)) = some (xv.m.d, va, vb)) := by show _ = _; unfold chgN; rw [if_neg (by rw [Hva.out, Hvb.out]; exact hvv), Hpk.out, Hva.out, Hvb.out]
         clear hvv Hva Hvb Hpk
         gi_wp2_with fail
         obtain ⟨Vd, hVd⟩ : ∃ Vd, Vd = V.drew := ⟨_, rfl⟩
         have bd : Below V.heap.size V Vd := by rw [hVd]; exact St.drew (S := fun W => Below V.heap.size V W) (Below.refl _ _)
         have hSd2 : S Vd := stS.go hS bd
         refine region_lastR (last := 13) (S := S) (by kernel_rfl) (by kernel_rfl) ?_
         simp only [List.size_toArray, List.length_cons, List.length_nil, Nat.reduceAdd, Array.replicate_succ, Array.replicate_zero, List.push_toArray, List.nil_append, List.cons_append]
         rw [← hVd]
         clear hVd hS
         have hS := hSd2
         clear hSd2
         (refine takeL (i := 0) (v := v) rfl (by kernel_rfl) (by kernel_rfl) (by kernel_rfl) (by kernel_rfl) (fun _ _ _ h => h) (yieldsC_of (yields_val rfl (fun W hW => by ((have c := (T0.out W hW).2.cellv (i := 0) (v := v) rfl; go_simp))))) (by assumption) ?_; simp only [Act.put, List.setIfInBounds_toArray, List.set_cons_zero, List.set_cons_succ])
         (refine takeL (i := 1) (v := .pointer (some p)) rfl (by kernel_rfl) (by kernel_rfl) (by kernel_rfl) (by kernel_rfl) (fun _ _ _ h => h) (yieldsC_of (yields_val rfl (fun W hW => by (go_simp)))) (by assumption) ?_; simp only [Act.put, List.setIfInBounds_toArray, List.set_cons_zero, List.set_cons_succ])
         (refine takeL (i := 2) (v := .pointer (some p)) rfl (by kernel_rfl) (by kernel_rfl) (by kernel_rfl) (by kernel_rfl) (fun _ _ _ h => h) (yieldsC_of (yields_val rfl (fun W hW => by (go_simp)))) (by assumption) ?_; simp only [Act.put, List.setIfInBounds_toArray, List.set_cons_zero, List.set_cons_succ])
         (refine takeL (i := 3) (v := _) rfl (by kernel_rfl) (by kernel_rfl) (by kernel_rfl) (by kernel_rfl) (fun _ _ _ h => h) (yieldsC_of ((yields_atp rfl 47 _ rfl p rfl xv.cells _ (fun W hW => HXc.out W hW) Tryz.underlying47 rfl (by kernel_rfl)))) (by assumption) ?_; simp only [Act.put, List.setIfInBounds_toArray, List.set_cons_zero, List.set_cons_succ])
         (refine takeL (i := 6) (v := .pointer none) rfl (by kernel_rfl) (by kernel_rfl) (by kernel_rfl) (by kernel_rfl) (fun _ _ _ h => h) (yieldsC_of (yields_val rfl (fun W hW => by (go_simp)))) (by assumption) ?_; simp only [Act.put, List.setIfInBounds_toArray, List.set_cons_zero, List.set_cons_succ])
         (refine takeL (i := 8) (v := .pointer (some p)) rfl (by kernel_rfl) (by kernel_rfl) (by kernel_rfl) (by kernel_rfl) (fun _ _ _ h => h) (yieldsC_of (yields_val rfl (fun W hW => by (go_simp)))) (by assumption) ?_; simp only [Act.put, List.setIfInBounds_toArray, List.set_cons_zero, List.set_cons_succ])
         (refine wpAnyL_all (rs := [4]) (by kernel_rfl) (by simp) (fun i hi => ?_); obtain rfl : i = 4 := by simpa using hi)
         refine wpOp_plain rfl rfl (fun K2 hK2 => ?_)
         refine wp_call_gen 48 #[.agg xv.cells.toArray] (w1 := Vd) (by go_simp; try rfl) (Calls.mono (copied_any xv Vd (HX.out Vd hS)) ?_)
         rintro e W9 ⟨y, rfl, ym, yok, yib, -, yb⟩
         refine ⟨_, rfl, hK2 _ _ ?_⟩
         clear hK2 K2
         simp only [Act.put, List.setIfInBounds_toArray, List.set_cons_zero, List.set_cons_succ]
         have hS9 := stS.go hS yb
         refine ⟨fun _ => hS9, ?_⟩
         have Hym := Lib.hid ym
         clear ym
         clear hS
         (refine takeL (i := 5) (v := .agg #[.slice y.A y.m.d.path.length y.cap, .int .i64 y.m.d.op, .int .i64 y.m.d.n]) rfl (by kernel_rfl) (by kernel_rfl) (by kernel_rfl) (by kernel_rfl) (fun _ _ _ h => h) (yieldsC_of (yields_val rfl (fun W hW => by ((have c := fld_mt y W; go_simp))))) (by assumption) ?_; simp only [Act.put, List.setIfInBounds_toArray, List.set_cons_zero, List.set_cons_succ])
         (refine takeL (i := 7) (v := .int .i64 va) rfl (by kernel_rfl) (by kernel_rfl) (by kernel_rfl) (by kernel_rfl) (fun _ _ _ h => h) (.inl ⟨rfl, fun W hW => .inr ⟨55, _, by (go_simp; try rfl), T10.out W hW⟩⟩) (by assumption) ?_; simp only [Act.put, List.setIfInBounds_toArray, List.set_cons_zero, List.set_cons_succ])
         (refine takeL (i := 9) (v := .int .i64 vb) rfl (by kernel_rfl) (by kernel_rfl) (by kernel_rfl) (by kernel_rfl) (fun _ _ _ h => h) (.inl ⟨rfl, fun W hW => .inr ⟨55, _, by (go_simp; try rfl), T11.out W hW⟩⟩) (by assumption) ?_; simp only [Act.put, List.setIfInBounds_toArray, List.set_cons_zero, List.set_cons_succ])
         obtain ⟨c, hc⟩ : ∃ c : ChV, c = ⟨⟨y.A, y.cap, y.m.d⟩, va, vb⟩ := ⟨_, rfl⟩
         have Hc := Lib.hid hc
         clear hc
         (refine takeL (i := 10) (v := .agg c.cells) rfl (by kernel_rfl) (by kernel_rfl) (by kernel_rfl) (by kernel_rfl) (fun _ _ _ h => h) (yieldsC_of (yields_val rfl (fun W hW => by ((have e := Hc.out; rw [e]; clear e; go_simp; try rfl))))) (by assumption) ?_; simp only [Act.put, List.setIfInBounds_toArray, List.set_cons_zero, List.set_cons_succ])
         (refine wpAnyL_all (rs := [11]) (by kernel_rfl) (by simp) (fun i hi => ?_); obtain rfl : i = 11 := by simpa using hi)
         refine wpOp_plain rfl rfl (fun K2 hK2 => ?_)
         refine wp_res_gen (.slice (some ⟨W9.heap.size, 0, none⟩) 1 1) (run_exec_bslice [(0, .tmp 59)] rfl (bs_run (cells := c.cells) Tryz.underlying37 info_chz (by decide) (by decide) (by kernel_rfl) W9)) ?_
         refine hK2 _ _ ?_
         clear hK2 K2
         simp only [Act.put, List.setIfInBounds_toArray, List.set_cons_zero, List.set_cons_succ]
         obtain ⟨M2, hM2⟩ : ∃ M2, M2 = W9.heap.size := ⟨_, rfl⟩
         obtain ⟨V2, hV2⟩ : ∃ V2, V2 = W9.alloc (.cells c.cells 51) := ⟨_, rfl⟩
         have Mr : Row V2 M2 51 c.cells := by rw [hV2, hM2]; exact Row.new _ _ _
         have Mb : Below W9.heap.size W9 V2 := by rw [hV2]; exact (Below.refl _ _).alloc (Nat.le_refl _) _
         rw [← hM2, ← hV2]
         clear hM2 hV2
         have hS2 := stS.go hS9 Mb
         refine ⟨fun _ => hS2, ?_⟩
         have bm : Below V.heap.size V V2 := (bd.trans (yb.mono bd.size)).trans (Mb.mono (Nat.le_trans bd.size yb.size))
         have hdl : DlT W9 ⟨y.A, y.cap, y.m.d⟩ := ⟨⟨yok.rd, yok.len⟩, yib, yok.nil⟩
         have hdl2 : DlT V2 c.x := by rw [Hc.out]; exact hdl.go Mb
         obtain ⟨A3, c3, V3, hrun, hr3, hst⟩ := chg_app w w2 V V2 Q lim M2 v cs c h2 h4 h6 h7 (T0.out _ hS2).2 bm Mr hdl2 (by omega) hQw hwl
         have hS3 : S V3 := TS.out _ hr3.2 hr3.1
         have r3 := hr3.1
         have Hrun := Lib.hid hrun
         have HF : Hid (KeepsFrom w2.heap.size V (V3.setCell ⟨Q, 0, none⟩ (.slice A3 (cs.length + 1) c3)) ∧ KpX (fun i => (i = Q ∨ lim ≤ i) ∨ i = w2.heap.size + 1) V (V3.setCell ⟨Q, 0, none⟩ (.slice A3 (cs.length + 1) c3)) ∧ ∃ v, ∃ cs9 : List ChV, Row (V3.setCell ⟨Q, 0, none⟩ (.slice A3 (cs.length + 1) c3)) Q 37 #[v] ∧ (V3.setCell ⟨Q, 0, none⟩ (.slice A3 (cs.length + 1) c3)).ownsRow lim 51 5 v cs9.length (chsC cs9) ∧ cs9.map ChV.data = (pre ++ [((none : Option Nat), (some k : Option Nat))]).filterMap (chgN a.muts b.muts) ∧ (∀ c ∈ cs9, DlT (V3.setCell ⟨Q, 0, none⟩ (.slice A3 (cs.length + 1) c3)) c.x) ∧ cs9.length ≤ (pre ++ [((none : Option Nat), (some k : Option Nat))]).length ∧ Below w.heap.size w (V3.setCell ⟨Q, 0, none⟩ (.slice A3 (cs.length + 1) c3)) ∧ lim ≤ (V3.setCell ⟨Q, 0, none⟩ (.slice A3 (cs.length + 1) c3)).heap.size) :=
          ⟨hst.kf, hst.kp _, _, cs ++ [c], hst.row, hst.own, by
           rw [List.map_append, h3, List.filterMap_append]
           simp only [List.filterMap_cons, List.filterMap_nil, List.map_cons, List.map_nil]
           rw [Hd.out, Hc.out]; simp only [ChV.data]; rw [Hym.out], hst.all, by rw [List.length_append, List.length_append]; simp only [List.length_cons, List.length_nil]; omega, hst.below, hst.size⟩
         have f3 := r3.free 0
         have c3' := r3.cellv (i := 0) (v := v) rfl
         clear hrun hr3 hst bm Mr hdl hdl2 yok yib yb Mb bd hS9 h1 h2 h3 h4 h6 h7 T10 T11 HX HXc Hym Hd Hc hQw hwl r3
         (refine wpAnyL_all (rs := [12]) (by kernel_rfl) (by simp) (fun i hi => ?_); obtain rfl : i = 12 := by simpa using hi)
         refine wpOp_plain rfl rfl (fun K2 hK2 => ?_)
         refine wp_res_gen _ (run_exec_append rfl Hrun.out) ?_
         refine hK2 _ _ ?_
         clear hK2 K2 Hrun
         simp only [Act.put, List.setIfInBounds_toArray, List.set_cons_zero, List.set_cons_succ]
         refine ⟨fun _ => hS3, ?_⟩
         (refine wpAnyL_all (rs := [13]) (by kernel_rfl) (by simp) (fun i hi => ?_); obtain rfl : i = 13 := by simpa using hi)
         refine wpOp_plain rfl rfl (fun K2 hK2 => ?_)
         unfold Oper.wp
         go_simp
         refine hK2 _ _ ?_
         clear hK2 K2
         simp only [List.setIfInBounds_toArray, List.set_cons_zero, List.set_cons_succ]
         refine ⟨fun h => absurd rfl h, ?_⟩
         refine wpAnyL_done (by kernel_rfl) ?_ _
         refine ends_normal ?_
         gi_wp2_with fail
         exact HF.out
     · obtain ⟨p, xv, rfl, hxm, hp, hpc⟩ := zpt_at HA.out.mrd hx
       obtain ⟨p2, yv, rfl, hym, hp2, hpc2⟩ := zpt_at HB.out.mrd hy
       have HX : Hid (∀ W, S W → MtOk W xv) := fun W h => (HA.out.go (T0.out W h).1).mok xv hxm
       have HXc : Hid (∀ W, S W → ∀ j u, xv.cells[j]? = some u → W.cell? (p.add j) = some u) := fun W h => hpc W (HA.out.go (T0.out W h).1).mrd
       have HYc : Hid (∀ W, S W → ∀ j u, yv.cells[j]? = some u → W.cell? (p2.add j) = some u) := fun W h => hpc2 W (HB.out.go (T0.out W h).1).mrd
       obtain ⟨va, hva0⟩ : ∃ va, va = xv.m.verdict := ⟨_, rfl⟩
       obtain ⟨vb, hvb0⟩ : ∃ vb, vb = yv.m.verdict := ⟨_, rfl⟩
       have hva : vdN a.muts ((some i : Option Nat), (some k : Option Nat)).1 = va := (vdN_some hx).trans hva0.symm
       have hvb : vdN b.muts ((some i : Option Nat), (some k : Option Nat)).2 = vb := (vdN_some hy).trans hvb0.symm
       have T10 : Hid (∀ W, S W → Calls Tryz.prog 55 #[.pointer (some p)] W fun e w' => e = .returned (.int .i64 va) ∧ w' = W) := fun W h => by rw [hva0]; exact told_at p xv W (HXc.out W h)
       have T11 : Hid (∀ W, S W → Calls Tryz.prog 55 #[.pointer (some p2)] W fun e w' => e = .returned (.int .i64 vb) ∧ w' = W) := fun W h => by rw [hvb0]; exact told_at p2 yv W (HYc.out W h)
       have Hpk : Hid (pickN a.muts b.muts ((some i : Option Nat), (some k : Option Nat)) = xv.m) := pickN_l hx
       rw [show zpt a.mA (some i) = .pointer (some p) from hp, show zpt b.mA (some k) = .pointer (some p2) from hp2]
       clear hx hxm hp hpc hva0 hvb0 hy hym hp2 hpc2 hz HYc
       have Hva := Lib.hid hva
       have Hvb := Lib.hid hvb
       clear hva hvb
       gi_wp2_with fail
       refine ⟨trivial, rfl, (CallsIn.inRound l3 (callsIn_wide.2 (T10.out V hS))).mono ?_⟩
       rintro e W2 ⟨rfl, hW⟩
       rw [hW]
       clear hW W2
       gi_wp2_with fail
       refine ⟨trivial, rfl, (CallsIn.inRound l3 (callsIn_wide.2 (T11.out V hS))).mono ?_⟩
       rintro e W2 ⟨rfl, hW⟩
       rw [hW]
       clear hW W2
       by_cases hvv : va = vb
       · have hq : (va == vb) = true := by simpa using hvv
         have HF : Hid (KeepsFrom w2.heap.size V V ∧ KpX (fun i => (i = Q ∨ lim ≤ i) ∨ i = w2.heap.size + 1) V V ∧ ∃ v, ∃ cs : List ChV, Row V Q 37 #[v] ∧ V.ownsRow lim 51 5 v cs.length (chsC cs) ∧ cs.map ChV.data = (pre ++ [((some i : Option Nat), (some k : Option Nat))]).filterMap (chgN a.muts b.muts) ∧ (∀ c ∈ cs, DlT V c.x) ∧ cs.length ≤ (pre ++ [((some i : Option Nat), (some k : Option Nat))]).length ∧ Below w.heap.size w V ∧ lim ≤ V.heap.size) :=
          ⟨KeepsFrom.refl _ _, KpX.refl _ _, v, cs, h1, h2, by rw [h3, List.filterMap_append]; simp only [List.filterMap_cons, List.filterMap_nil]; rw [show chgN a.muts b.muts ((some i : Option Nat), (some k : Option Nat)) = none from by unfold chgN; rw [if_pos (by rw [Hva.out, Hvb.out]; exact hvv)]]; simp, h4, by rw [List.length_append]; omega, h6, h7⟩
         clear hvv h1 h2 h3 h4 h5 h6 h7 hS T10 T11 HX HXc T0 TS stS S Hva Hvb Hpk
         gi_wp2_with fail
         exact HF.out
       · have hq : (va == vb) = false := by simpa using hvv
         have Hd : Hid (chgN a.muts b.muts ((some i : Option Nat), (some k : Option Nat)) = some (xv.m.d, va, vb)) := by show _ = _; unfold chgN; rw [if_neg (by rw [Hva.out, Hvb.out]; exact hvv), Hpk.out, Hva.out, Hvb.out]
         clear hvv Hva Hvb Hpk
         gi_wp2_with fail
         obtain ⟨Vd, hVd⟩ : ∃ Vd, Vd = V.drew := ⟨_, rfl⟩
         have bd : Below V.heap.size V Vd := by rw [hVd]; exact St.drew (S := fun W => Below V.heap.size V W) (Below.refl _ _)
         have hSd2 : S Vd := stS.go hS bd
         refine region_lastR (last := 13) (S := S) (by kernel_rfl) (by kernel_rfl) ?_
         simp only [List.size_toArray, List.length_cons, List.length_nil, Nat.reduceAdd, Array.replicate_succ, Array.replicate_zero, List.push_toArray, List.nil_append, List.cons_append]
         rw [← hVd]
         clear hVd hS
         have hS := hSd2
         clear hSd2
         (refine takeL (i := 0) (v := v) rfl (by kernel_rfl) (by kernel_rfl) (by kernel_rfl) (by kernel_rfl) (fun _ _ _ h => h) (yieldsC_of (yields_val rfl (fun W hW => by ((have c := (T0.out W hW).2.cellv (i := 0) (v := v) rfl; go_simp))))) (by assumption) ?_; simp only [Act.put, List.setIfInBounds_toArray, List.set_cons_zero, List.set_cons_succ])
         (refine takeL (i := 1) (v := .pointer (some p)) rfl (by kernel_rfl) (by kernel_rfl) (by kernel_rfl) (by kernel_rfl) (fun _ _ _ h => h) (yieldsC_of (yields_val rfl (fun W hW => by (go_simp)))) (by assumption) ?_; simp only [Act.put, List.setIfInBounds_toArray, List.set_cons_zero, List.set_cons_succ])
         (refine takeL (i := 2) (v := .pointer (some p)) rfl (by kernel_rfl) (by kernel_rfl) (by kernel_rfl) (by kernel_rfl) (fun _ _ _ h => h) (yieldsC_of (yields_val rfl (fun W hW => by (go_simp)))) (by assumption) ?_; simp only [Act.put, List.setIfInBounds_toArray, List.set_cons_zero, List.set_cons_succ])
         (refine takeL (i := 3) (v := _) rfl (by kernel_rfl) (by kernel_rfl) (by kernel_rfl) (by kernel_rfl) (fun _ _ _ h => h) (yieldsC_of ((yields_atp rfl 47 _ rfl p rfl xv.cells _ (fun W hW => HXc.out W hW) Tryz.underlying47 rfl (by kernel_rfl)))) (by assumption) ?_; simp only [Act.put, List.setIfInBounds_toArray, List.set_cons_zero, List.set_cons_succ])
         (refine takeL (i := 6) (v := .pointer (some p)) rfl (by kernel_rfl) (by kernel_rfl) (by kernel_rfl) (by kernel_rfl) (fun _ _ _ h => h) (yieldsC_of (yields_val rfl (fun W hW => by (go_simp)))) (by assumption) ?_; simp only [Act.put, List.setIfInBounds_toArray, List.set_cons_zero, List.set_cons_succ])
         (refine takeL (i := 8) (v := .pointer (some p2)) rfl (by kernel_rfl) (by kernel_rfl) (by kernel_rfl) (by kernel_rfl) (fun _ _ _ h => h) (yieldsC_of (yields_val rfl (fun W hW => by (go_simp)))) (by assumption) ?_; simp only [Act.put, List.setIfInBounds_toArray, List.set_cons_zero, List.set_cons_succ])
         (refine wpAnyL_all (rs := [4]) (by kernel_rfl) (by simp) (fun i hi => ?_); obtain rfl : i = 4 := by simpa using hi)
         refine wpOp_plain rfl rfl (fun K2 hK2 => ?_)
         refine wp_call_gen 48 #[.agg xv.cells.toArray] (w1 := Vd) (by go_simp; try rfl) (Calls.mono (copied_any xv Vd (HX.out Vd hS)) ?_)
         rintro e W9 ⟨y, rfl, ym, yok, yib, -, yb⟩
         refine ⟨_, rfl, hK2 _ _ ?_⟩
         clear hK2 K2
         simp only [Act.put, List.setIfInBounds_toArray, List.set_cons_zero, List.set_cons_succ]
         have hS9 := stS.go hS yb
         refine ⟨fun _ => hS9, ?_⟩
         have Hym := Lib.hid ym
         clear ym
         clear hS
         (refine takeL (i := 5) (v := .agg #[.slice y.A y.m.d.path.length y.cap, .int .i64 y.m.d.op, .int .i64 y.m.d.n]) rfl (by kernel_rfl) (by kernel_rfl) (by kernel_rfl) (by kernel_rfl) (fun _ _ _ h => h) (yieldsC_of (yields_val rfl (fun W hW => by ((have c := fld_mt y W; go_simp))))) (by assumption) ?_; simp only [Act.put, List.setIfInBounds_toArray, List.set_cons_zero, List.set_cons_succ])
         (refine takeL (i := 7) (v := .int .i64 va) rfl (by kernel_rfl) (by kernel_rfl) (by kernel_rfl) (by kernel_rfl) (fun _ _ _ h => h) (.inl ⟨rfl, fun W hW => .inr ⟨55, _, by (go_simp; try rfl), T10.out W hW⟩⟩) (by assumption) ?_; simp only [Act.put, List.setIfInBounds_toArray, List.set_cons_zero, List.set_cons_succ])
         (refine takeL (i := 9) (v := .int .i64 vb) rfl (by kernel_rfl) (by kernel_rfl) (by kernel_rfl) (by kernel_rfl) (fun _ _ _ h => h) (.inl ⟨rfl, fun W hW => .inr ⟨55, _, by (go_simp; try rfl), T11.out W hW⟩⟩) (by assumption) ?_; simp only [Act.put, List.setIfInBounds_toArray, List.set_cons_zero, List.set_cons_succ])
         obtain ⟨c, hc⟩ : ∃ c : ChV, c = ⟨⟨y.A, y.cap, y.m.d⟩, va, vb⟩ := ⟨_, rfl⟩
         have Hc := Lib.hid hc
         clear hc
         (refine takeL (i := 10) (v := .agg c.cells) rfl (by kernel_rfl) (by kernel_rfl) (by kernel_rfl) (by kernel_rfl) (fun _ _ _ h => h) (yieldsC_of (yields_val rfl (fun W hW => by ((have e := Hc.out; rw [e]; clear e; go_simp; try rfl))))) (by assumption) ?_; simp only [Act.put, List.setIfInBounds_toArray, List.set_cons_zero, List.set_cons_succ])
         (refine wpAnyL_all (rs := [11]) (by kernel_rfl) (by simp) (fun i hi => ?_); obtain rfl : i = 11 := by simpa using hi)
         refine wpOp_plain rfl rfl (fun K2 hK2 => ?_)
         refine wp_res_gen (.slice (some ⟨W9.heap.size, 0, none⟩) 1 1) (run_exec_bslice [(0, .tmp 59)] rfl (bs_run (cells := c.cells) Tryz.underlying37 info_chz (by decide) (by decide) (by kernel_rfl) W9)) ?_
         refine hK2 _ _ ?_
         clear hK2 K2
         simp only [Act.put, List.setIfInBounds_toArray, List.set_cons_zero, List.set_cons_succ]
         obtain ⟨M2, hM2⟩ : ∃ M2, M2 = W9.heap.size := ⟨_, rfl⟩
         obtain ⟨V2, hV2⟩ : ∃ V2, V2 = W9.alloc (.cells c.cells 51) := ⟨_, rfl⟩
         have Mr : Row V2 M2 51 c.cells := by rw [hV2, hM2]; exact Row.new _ _ _
         have Mb : Below W9.heap.size W9 V2 := by rw [hV2]; exact (Below.refl _ _).alloc (Nat.le_refl _) _
         rw [← hM2, ← hV2]
         clear hM2 hV2
         have hS2 := stS.go hS9 Mb
         refine ⟨fun _ => hS2, ?_⟩
         have bm : Below V.heap.size V V2 := (bd.trans (yb.mono bd.size)).trans (Mb.mono (Nat.le_trans bd.size yb.size))
         have hdl : DlT W9 ⟨y.A, y.cap, y.m.d⟩ := ⟨⟨yok.rd, yok.len⟩, yib, yok.nil⟩
         have hdl2 : DlT V2 c.x := by rw [Hc.out]; exact hdl.go Mb
         obtain ⟨A3, c3, V3, hrun, hr3, hst⟩ := chg_app w w2 V V2 Q lim M2 v cs c h2 h4 h6 h7 (T0.out _ hS2).2 bm Mr hdl2 (by omega) hQw hwl
         have hS3 : S V3 := TS.out _ hr3.2 hr3.1
         have r3 := hr3.1
         have Hrun := Lib.hid hrun
         have HF : Hid (KeepsFrom w2.heap.size V (V3.setCell ⟨Q, 0, none⟩ (.slice A3 (cs.length + 1) c3)) ∧ KpX (fun i => (i = Q ∨ lim ≤ i) ∨ i = w2.heap.size + 1) V (V3.setCell ⟨Q, 0, none⟩ (.slice A3 (cs.length + 1) c3)) ∧ ∃ v, ∃ cs9 : List ChV, Row (V3.setCell ⟨Q, 0, none⟩ (.slice A3 (cs.length + 1) c3)) Q 37 #[v] ∧ (V3.setCell ⟨Q, 0, none⟩ (.slice A3 (cs.length + 1) c3)).ownsRow lim 51 5 v cs9.length (chsC cs9) ∧ cs9.map ChV.data = (pre ++ [((some i : Option Nat), (some k : Option Nat))]).filterMap (chgN a.muts b.muts) ∧ (∀ c ∈ cs9, DlT (V3.setCell ⟨Q, 0, none⟩ (.slice A3 (cs.length + 1) c3)) c.x) ∧ cs9.length ≤ (pre ++ [((some i : Option Nat), (some k : Option Nat))]).length ∧ Below w.heap.size w (V3.setCell ⟨Q, 0, none⟩ (.slice A3 (cs.length + 1) c3)) ∧ lim ≤ (V3.setCell ⟨Q, 0, none⟩ (.slice A3 (cs.length + 1) c3)).heap.size) :=
          ⟨hst.kf, hst.kp _, _, cs ++ [c], hst.row, hst.own, by
           rw [List.map_append, h3, List.filterMap_append]
           simp only [List.filterMap_cons, List.filterMap_nil, List.map_cons, List.map_nil]
           rw [Hd.out, Hc.out]; simp only [ChV.data]; rw [Hym.out], hst.all, by rw [List.length_append, List.length_append]; simp only [List.length_cons, List.length_nil]; omega, hst.below, hst.size⟩
         have f3 := r3.free 0
         have c3' := r3.cellv (i := 0) (v := v) rfl
         clear hrun hr3 hst bm Mr hdl hdl2 yok yib yb Mb bd hS9 h1 h2 h3 h4 h6 h7 T10 T11 HX HXc Hym Hd Hc hQw hwl r3
         (refine wpAnyL_all (rs := [12]) (by kernel_rfl) (by simp) (fun i hi => ?_); obtain rfl : i = 12 := by simpa using hi)
         refine wpOp_plain rfl rfl (fun K2 hK2 => ?_)
         refine wp_res_gen _ (run_exec_append rfl Hrun.out) ?_
         refine hK2 _ _ ?_
         clear hK2 K2 Hrun
         simp only [Act.put, List.setIfInBounds_toArray, List.set_cons_zero, List.set_cons_succ]
         refine ⟨fun _ => hS3, ?_⟩
         (refine wpAnyL_all (rs := [13]) (by kernel_rfl) (by simp) (fun i hi => ?_); obtain rfl : i = 13 := by simpa using hi)
         refine wpOp_plain rfl rfl (fun K2 hK2 => ?_)
         unfold Oper.wp
         go_simp
         refine hK2 _ _ ?_
         clear hK2 K2
         simp only [List.setIfInBounds_toArray, List.set_cons_zero, List.set_cons_succ]
         refine ⟨fun h => absurd rfl h, ?_⟩
         refine wpAnyL_done (by kernel_rfl) ?_ _
         refine ends_normal ?_
         gi_wp2_with fail
         exact HF.out
    case done =>
     rintro D ys V hD hys ⟨v, cs, h1, h2, h3, h4, h5, h6, h7⟩ hK
     obtain ⟨A9, c9, rfl⟩ := own_sl h2
     have hr : ∀ r, some D = some r → False ∨ (True ∧ ∃ o : Obj, V.heap[r]? = some o ∧ o.isCells = false) := fun r e => by cases e; exact .inr ⟨trivial, _, hK, rfl⟩
     have hg := grownBy_putObj' V D (.deferred none)
     have hc := h1.cellv (i := 0) (v := .slice A9 cs.length c9) rfl
     have hgd : cs.length ≤ c9 ∧ (A9 = none → cs = []) := by
      rcases h2.2 with ⟨e1, h0⟩ | ⟨g, c, cur, e1, _, _, hcc, _⟩
      · injection e1 with e1 e2 e3; exact ⟨by omega, fun _ => List.eq_nil_of_length_eq_zero h0⟩
      · injection e1 with e1 e2 e3; subst e1 e3; exact ⟨hcc, fun e => by cases e⟩
     have own9 := h2.kept hg (.inr (own_cells h2 hK rfl))
     have HF : Hid (DiffR a b w (V.putObj D (.deferred none)) (.returned (.tuple #[.slice A9 cs.length c9, .int .i64 0]))) := ⟨A9, c9, cs, by rw [HE0.out], own_rdS own9, hgd.1, hgd.2, fun x hx => (h4 x hx).abide hg hr, by rw [HE0.out, if_pos rfl, h3, hys, Hfull.out]; rfl, h6.grown hg h6.size (fun k e => by cases e; have := Hlim.out; omega), fun ad ha => by
      rcases own9.2 with ⟨e2, _⟩ | ⟨g, c, cur, e2, _, hr9, _⟩
      · injection e2 with e3; rw [ha] at e3; cases e3
      · injection e2 with e3; rw [ha] at e3; injection e3 with e3; rw [e3]; exact ⟨cur, hr9⟩⟩
     have HK := Lib.hid hK
     clear hK hr hg h1 h2 h3 h4 h5 h6 h7 hys hgd own9
     gi_wp2
     go_wp2_with fail
     refine ⟨by simp, .inl ⟨_, _, rfl, run_takeDeferred HK.out, ?_⟩⟩
     exact ⟨_, results_tmp2 Tryz.results20 _ _ _, HF.out⟩
end Go.Proofs.YtcgglolckkeeiaaGreat
