/- The walk over the law TraceSteps. -/
import Derived.Test.YtkdcelnlhhodlaaTrD
import Derived.Test.YtkdcelnlhhodlaaTrOpenE
import Derived.Deep.Cut
import Derived.Deep.RegionHeld3
import Derived.Maps.AppendAt
namespace Go.Proofs.Ytkdcelnlhhodlaa
open Go.RowKit Go.Deep

theorem okmk {r : RunV} {W W' : World} (h : r.ok W) (h' : Rd W' r.addr (r.evs.flatMap EvV.cells)) : r.ok W' := ⟨h.kind, h.value, h.steps, h.len, h.cap, h.nil, h', h.evs⟩
theorem own_form {w : World} {base n : Nat} {e : TypeId} {v : Value} {xs : List Value} (h : w.ownsRow base e 3 v (n + 1) xs) : ∃ g cap, v = .slice (some ⟨g, 0, none⟩) (n + 1) cap := by
  rcases h.2 with ⟨_, h0⟩ | ⟨g, cap, cur, rfl, _⟩
  · omega
  · exact ⟨g, cap, rfl⟩
theorem own_empty {W' : World} {B g : Nat} {e : TypeId} (hB : B ≤ g) (h : Row W' g e #[]) : W'.ownsRow B e 3 (.slice (some ⟨g, 0, none⟩) 0 0) 0 [] :=
  ⟨rfl, .inr ⟨g, 0, #[], rfl, hB, h, Nat.le_refl _, Nat.zero_le _, rfl, rfl⟩⟩
theorem run_exec_buildSlice {P : Program} {o : Oper} {w w1 : World} {ρ : Operand → Value} {t : TypeId} {n : Nat} (ps : List (Nat × Operand)) (ho : o.op = .buildSlice t n ps.toArray) {v : Value} (hv : (Instr.buildSlice t n (ps.map fun (i, x) => (i, ρ x)).toArray).run P w = .ok v w1) : (execOp ρ o).run P w = .ok (.value v) w1 := by
  simp only [execOp, ho, Sem.run_bind, List.map_toArray, hv, Result.andThen_ok, Sem.run_pure]
theorem run_exec_append {P : Program} {o : Oper} {w w1 : World} {ρ : Operand → Value} {s x : Operand} {t : TypeId} (ho : o.op = .call { callee := .builtin .append, args := #[s, x], argTypes := #[t, t] }) {v : Value} (hv : (Builtin.append_ #[t, t] o.type #[ρ s, ρ x]).run P w = .ok v w1) : (execOp ρ o).run P w = .ok (.value v) w1 := by
  unfold execOp
  simp only [ho, resolve, invoke, builtin, Sem.run_bind, Sem.run_pure, Result.andThen_ok, List.map_toArray, List.map_cons, List.map_nil, hv]
theorem Rd.from_base {w0 W W' : World} {B : Nat} {A : Option Addr} {xs : List Value} (h0 : Rd w0 A xs) (hB : w0.heap.size ≤ B) (h : Rd W A xs) (b : Below B W W') : Rd W' A xs := fun j u hj => by
  obtain ⟨ad, e, hc⟩ := h j u hj
  obtain ⟨ad', e', hc'⟩ := h0 j u hj
  obtain rfl : ad = ad' := by rw [e] at e'; injection e'
  exact ⟨ad, e, (b.cell (Nat.lt_of_lt_of_le (World.block_lt_of_cell? _ _ hc') hB)).trans hc⟩
theorem mk0 (W : World) : (Instr.buildSlice 24 0 #[]).run Try.prog W = .ok (.slice (some ⟨W.heap.size, 0, none⟩) 0 0) (W.alloc (.cells #[] 34)) := by kernel_rfl
theorem mk1_ (x : EvV) (W : World) : (Instr.buildSlice 24 1 #[(0, .agg x.cells.toArray)]).run Try.prog W = .ok (.slice (some ⟨W.heap.size, 0, none⟩) 1 1) (W.alloc (.cells x.cells.toArray 34)) := by kernel_rfl
theorem info_event : (Try.prog.info? 34).map (fun i => (i.zero, i.size, i.bytes)) = some (some (.agg #[.int .i64 0, .int .i64 0, .int .i64 0]), 3, 24) := by kernel_rfl
theorem run_append_nil {P : Program} {w : World} {base size n c : Nat} {t ty e : TypeId} {i : TypeInfo} {v : Value} {xs : List Value} (ht : P.underlying t = some (.slice e)) (hi : P.info? e = some i) (hown : w.ownsRow base e size v n xs) : (Builtin.append_ #[t, t] ty #[v, .slice none 0 c]).run P w = .ok v w := by
  rcases hown.2 with ⟨rfl, rfl⟩ | ⟨g, cap, cur, rfl, _, _, hnc, _⟩
  · simp [Builtin.append_, run_underlying ht, sizeOf, typeInfo, hi, Builtin.lenOf, Builtin.firstCells]
  · simp [Builtin.append_, run_underlying ht, sizeOf, typeInfo, hi, Builtin.lenOf, Builtin.firstCells, hnc, storeCells]
theorem evcells_len : ∀ l : List EvV, (l.flatMap EvV.cells).length = l.length * 3
  | [] => rfl
  | a :: l => by simp only [List.flatMap_cons, List.length_append, List.length_cons]; rw [evcells_len l]; simp [EvV.cells]; omega
theorem evcells_one (l : List EvV) : ∀ u ∈ l.flatMap EvV.cells, u.oneCell' = true := by
  intro u hu
  simp only [List.mem_flatMap, EvV.cells, List.mem_cons, List.not_mem_nil, or_false] at hu
  obtain ⟨a, _, rfl | rfl | rfl⟩ := hu <;> rfl
/-- append of a slice that reads so, onto a row of the call's own. -/
theorem append_evs {W : World} {B n m cap : Nat} {v : Value} {xs : List Value} {A : Option Addr} {l : List EvV} (hown : W.ownsRow B 34 3 v n xs) (hB : B ≤ W.heap.size) (hr : Rd W A (l.flatMap EvV.cells)) (hm : m = l.length) (hA : A = none → m = 0) (hb : n + m ≤ 1000000) :
    ∃ v' W', (Builtin.append_ #[24, 24] 24 #[v, .slice A m cap]).run Try.prog W = .ok v' W' ∧ W'.ownsRow B 34 3 v' (n + m) (xs ++ l.flatMap EvV.cells) ∧ W.grownBy W' v.ownBlock ∧ (v'.ownBlock = v.ownBlock ∨ v'.ownBlock = some W.heap.size) := by
  obtain ⟨i0, hi0, hz0, hz1, hz2⟩ := info_parts info_event
  rcases A with _ | ad
  · have h0 := hA rfl
    subst h0
    have hl : l = [] := List.eq_nil_of_length_eq_zero hm.symm
    subst hl
    exact ⟨v, W, run_append_nil Try.underlying24 hi0 hown, by simpa using hown, World.grownBy.refl _ _, .inl rfl⟩
  · obtain ⟨v', W', h1, h2, h3, _, h5⟩ := run_append_own_at (P := Try.prog) W B 24 24 34 i0 _ 3 24 Try.underlying24 hi0 hz0 hz1 hz2 rfl (by decide) v n xs hown ad m cap (l.flatMap EvV.cells) (by rw [evcells_len, hm])
      (fun j u hj => by obtain ⟨ad', e, hc⟩ := hr j u hj; injection e with e; subst e; exact hc) (evcells_one l) (by unfold maxLen; omega) (by omega) hB
    exact ⟨v', W', h1, h2, h3, h5⟩

set_option maxRecDepth 100000 in
set_option maxHeartbeats 40000000 in
theorem traceSteps_walk (r : RunV) (n : Int) (hn : InI n) (x : EvV) (w : World) (hok : r.ok w) (hx : x.ok) : Calls Try.prog 5 #[r.val, .int .i64 n, .agg x.cells.toArray] w fun e w' => e = .returned (.bool true) ∧ Below w.heap.size w w' := by
  have Hok := Lib.hid hok
  have Hx := Lib.hid hx
  have Hn := Lib.hid hn
  clear hok hx hn
  go_enter Try.func5, Try.ntmps5
  rw [show r.val = .agg r.cells from rfl]
  go_wp2_with (refine at_box _ _ rfl ?_)
  refine Stop.to ?_
  refine wpList_box_gen rfl 26 _ rfl r.cells rfl ?_
  intro G w1 hG r1 b1
  have b1 := (Below.refl w.heap.size w).trans (b1.mono hG)
  go_wp2_with (refine at_box _ _ rfl ?_)
  refine Stop.to ?_
  refine wpList_box_gen rfl 34 _ rfl x.cells.toArray rfl ?_
  intro F w2 hF r2 b2
  have r1 := r1.below b2 (Nat.lt_of_lt_of_le r1.lt hF)
  have b2 := b1.trans ((b2.mono hF).mono b1.size)
  obtain ⟨S, hSd⟩ : ∃ S, S = (fun W => Row W G 26 r.cells ∧ Row W F 34 x.cells.toArray ∧ r.ok W ∧ Below w.heap.size w W) := ⟨_, rfl⟩
  have stS : St S := by rw [hSd]; infer_instance
  have s0 : ∀ W, S W → Row W G 26 r.cells := by rw [hSd]; exact fun W h => h.1
  have s1 : ∀ W, S W → Row W F 34 x.cells.toArray := by rw [hSd]; exact fun W h => h.2.1
  have s2 : ∀ W, S W → r.ok W := by rw [hSd]; exact fun W h => h.2.2.1
  have s3 : ∀ W, S W → Below w.heap.size w W := by rw [hSd]; exact fun W h => h.2.2.2
  have smk : ∀ W, Row W G 26 r.cells → Row W F 34 x.cells.toArray → r.ok W → Below w.heap.size w W → S W := by rw [hSd]; exact fun W h1 h2 h3 h4 => ⟨h1, h2, h3, h4⟩
  have hS : S w2 := by rw [hSd]; exact ⟨r1, r2, Hok.out.ok_go b2, b2⟩
  have S2' := Lib.hid s2
  have S3' := Lib.hid s3
  clear hSd r1 b1 r2 b2 s2 s3 hG hF
  go_wp2_with fail
  refine (trWorks_any w2).mono ?_
  rintro e w3 ⟨rfl, b3⟩
  have hS3 := stS.go hS b3
  clear hS b3
  have c3 := (s0 _ hS3).cellv (i := 3) (v := .slice r.addr r.evs.length r.cap) rfl
  have c0 := (s0 _ hS3).cellv (i := 0) (v := .int .i64 r.kind) rfl
  have c1 := (s0 _ hS3).cellv (i := 1) (v := .int .i64 r.value) rfl
  by_cases hl : r.evs.length ≤ 60
  rotate_left
  · have hlI : 60 < (r.evs.length : Int) := by omega
    clear hl
    go_wp2_with fail
    go_ret
    exact ⟨rfl, S3'.out _ hS3⟩
  have hlI : (r.evs.length : Int) ≤ 60 := by omega
  have Hl := Lib.hid hl
  clear hl
  go_wp2_with (refine at_alloc _ rfl ?_)
  refine Stop.to ?_
  refine wpList_alloc_gen rfl 26 rfl _ _ zero_run rfl ?_
  intro O w4 hO r4 b4
  go_wp2_with (refine at_store _ _ _ rfl ?_)
  refine Stop.to ?_
  refine wpList_store_gen rfl 26 _ _ rfl O #[.int .i64 r.kind, .int .i64 r.value, .int .i64 n, .slice r.addr r.evs.length r.cap] rfl rfl 26 _ r4 (by kernel_rfl) rfl (by simp [Value.oneCell']) ?_
  intro w5 r5 o5
  have hS5 := stS.go hS3 ((b4.mono hO).trans (o5.below hO))
  clear hS3 b4 r4 o5 c3 c0 c1
  go_wp2_with fail
  obtain ⟨B, hBd⟩ : ∃ B, B = w5.heap.size := ⟨_, rfl⟩
  have lG : G < B := by rw [hBd]; exact (s0 _ hS5).lt
  have lF : F < B := by rw [hBd]; exact (s1 _ hS5).lt
  have lO : O < B := by rw [hBd]; exact r5.lt
  have lW : w.heap.size ≤ B := by rw [hBd]; exact (S3'.out _ hS5).size
  obtain ⟨T, hTd⟩ : ∃ T, T = (fun W => S W ∧ Row W O 26 #[.int .i64 r.kind, .int .i64 r.value, .int .i64 n, .slice r.addr r.evs.length r.cap] ∧ B ≤ W.heap.size) := ⟨_, rfl⟩
  have t0 : ∀ W, T W → S W := by rw [hTd]; exact fun W h => h.1
  have t1 : ∀ W, T W → Row W O 26 #[.int .i64 r.kind, .int .i64 r.value, .int .i64 n, .slice r.addr r.evs.length r.cap] := by rw [hTd]; exact fun W h => h.2.1
  have sz : ∀ W, T W → B ≤ W.heap.size := by rw [hTd]; exact fun W h => h.2.2
  have sB : ∀ W W', T W → Below B W W' → T W' := by
    intro W W' h b
    have hs := t0 W h
    have hs' : S W' := smk _ ((s0 _ hs).below b lG) ((s1 _ hs).below b lF) (okmk (S2'.out _ hs) (Rd.from_base Hok.out.reads lW (S2'.out _ hs).reads b)) ((S3'.out _ hs).trans (b.mono lW))
    rw [hTd]
    exact ⟨hs', (t1 W h).below b lO, Nat.le_trans (sz W h) b.size⟩
  have stT : St T := by rw [hTd]; infer_instance
  have hT5 : T w5 := by rw [hTd]; exact ⟨hS5, r5, Nat.le_of_eq hBd⟩
  clear hTd hBd hS5 r5 hO
  refine wp_cut (fun a W => ∃ u26 u29 u31 g10 g8 cap8, T W ∧ Row W g10 26 #[.int .i64 r.kind, .int .i64 r.value, .int .i64 0, .slice (some ⟨g8, 0, none⟩) (r.evs.length + 1) cap8] ∧ W.ownsRow B 34 3 (.slice (some ⟨g8, 0, none⟩) (r.evs.length + 1) cap8) (r.evs.length + 1) (r.evs.flatMap EvV.cells ++ [x].flatMap EvV.cells) ∧ a = { tmps := #[.agg r.cells, .int .i64 n, .agg x.cells.toArray, .pointer (some ⟨G, 0, none⟩), undef, .pointer (some ⟨F, 0, none⟩), .bool false, .bool true, .pointer (some ⟨O, 0, none⟩), .pointer (some ⟨g10, 0, none⟩), .bool true, .bool true, .bool false, .pointer (some ⟨G, 3, none⟩), .slice r.addr r.evs.length r.cap, .int .i64 r.evs.length, .bool (decide (60 < (r.evs.length : Int))), undef, .pointer (some ⟨G, 0, none⟩), .agg #[.int .i64 r.kind, .int .i64 r.value], .int .i64 n, .pointer (some ⟨G, 3, none⟩), .slice r.addr r.evs.length r.cap, .agg #[.int .i64 r.kind, .int .i64 r.value, .int .i64 n, .slice r.addr r.evs.length r.cap], .pointer (some ⟨G, 0, none⟩), .agg #[.int .i64 r.kind, .int .i64 r.value], u26, .pointer (some ⟨G, 3, none⟩), .slice r.addr r.evs.length r.cap, u29, .agg x.cells.toArray, u31, .slice (some ⟨g8, 0, none⟩) (r.evs.length + 1) cap8, .agg #[.int .i64 r.kind, .int .i64 r.value, .int .i64 0, .slice (some ⟨g8, 0, none⟩) (r.evs.length + 1) cap8], undef, undef, undef, undef, undef, undef, undef, undef, undef, undef, undef, undef, undef, undef, undef, undef, undef, undef, undef, undef, undef, undef], defers := [] }) ?rest ?first
  case first =>
    intro J K' hJ hK'
    have HJ := Lib.hid hJ
    have HK := Lib.hid hK'
    have hS := St.drew hT5
    have mk1 := mk1_ x
    have app5 : ∀ (W : World) {v : Value}, T W → W.ownsRow B 34 3 v 0 [] → ∃ v' W', (Builtin.append_ #[24, 24] 24 #[v, .slice r.addr r.evs.length r.cap]).run Try.prog W = .ok v' W' ∧ W'.ownsRow B 34 3 v' r.evs.length (r.evs.flatMap EvV.cells) ∧ W.grownBy W' v.ownBlock ∧ (v'.ownBlock = v.ownBlock ∨ v'.ownBlock = some W.heap.size) := by
      intro W v hT hown
      have hok := S2'.out _ (t0 _ hT)
      obtain ⟨v', W', h1, h2, h3, h4⟩ := append_evs (cap := r.cap) hown (sz _ hT) hok.reads rfl (fun h => by have := hok.nil h; have := hok.len; omega) (by have := Hl.out; omega)
      exact ⟨v', W', h1, by simpa using h2, h3, h4⟩
    have app8 : ∀ (W : World) (g7 : Nat) {v : Value}, W.ownsRow B 34 3 v r.evs.length (r.evs.flatMap EvV.cells) → Row W g7 34 x.cells.toArray → B ≤ W.heap.size → ∃ v' W', (Builtin.append_ #[24, 24] 24 #[v, .slice (some ⟨g7, 0, none⟩) 1 1]).run Try.prog W = .ok v' W' ∧ W'.ownsRow B 34 3 v' (r.evs.length + 1) (r.evs.flatMap EvV.cells ++ [x].flatMap EvV.cells) ∧ W.grownBy W' v.ownBlock ∧ (v'.ownBlock = v.ownBlock ∨ v'.ownBlock = some W.heap.size) := by
      intro W g7 v hown hrow hB
      refine append_evs (cap := 1) hown hB (fun j u hj => ⟨_, rfl, ?_⟩) rfl (fun h => by cases h) (by have := Hl.out; omega)
      exact hrow.from_ (cur := x.cells.toArray) 0 (cs := x.cells) (fun j v h => by simpa using h) j u (by simpa using hj)
    clear hJ hK' hT5
    refine wp_region_noPanic ?_
    refine wp_region_held (S := T) (by kernel_rfl) ?_
    simp only [List.size_toArray, List.length_cons, List.length_nil, Nat.reduceAdd, Array.replicate_succ, Array.replicate_zero, List.push_toArray, List.nil_append, List.cons_append]
    show wpAnyH _ _ _ _ _ _ _ _ w5.drew
    generalize w5.drew = w4 at hS ⊢
    (refine takeH (i := 0) (v := .pointer (some ⟨G, 0, none⟩)) rfl (by kernel_rfl) (by kernel_rfl) (by kernel_rfl) (fun _ _ _ h => h) (yields_val rfl (fun W hW => by (go_simp))) (by assumption) ?_; simp only [Act.put, List.setIfInBounds_toArray, List.set_cons_zero, List.set_cons_succ])
    (refine takeH (i := 1) (v := .agg #[.int .i64 r.kind, .int .i64 r.value]) rfl (by kernel_rfl) (by kernel_rfl) (by kernel_rfl) (fun _ _ _ h => h) (yields_val rfl (fun W hW => by (have hr := s0 _ (t0 _ hW); have c0 := hr.cellv (i := 0) (v := .int .i64 r.kind) rfl; have c1 := hr.cellv (i := 1) (v := .int .i64 r.value) rfl; go_simp))) (by assumption) ?_; simp only [Act.put, List.setIfInBounds_toArray, List.set_cons_zero, List.set_cons_succ])
    (refine takeH (i := 3) (v := .pointer (some ⟨G, 3, none⟩)) rfl (by kernel_rfl) (by kernel_rfl) (by kernel_rfl) (fun _ _ _ h => h) (yields_val rfl (fun W hW => by (go_simp))) (by assumption) ?_; simp only [Act.put, List.setIfInBounds_toArray, List.set_cons_zero, List.set_cons_succ])
    (refine takeH (i := 4) (v := .slice r.addr r.evs.length r.cap) rfl (by kernel_rfl) (by kernel_rfl) (by kernel_rfl) (fun _ _ _ h => h) (yields_val rfl (fun W hW => by (have hr := s0 _ (t0 _ hW); have c0 := hr.cellv (i := 3) (v := .slice r.addr r.evs.length r.cap) rfl; go_simp))) (by assumption) ?_; simp only [Act.put, List.setIfInBounds_toArray, List.set_cons_zero, List.set_cons_succ])
    (refine takeH (i := 6) (v := _) rfl (by kernel_rfl) (by kernel_rfl) (by kernel_rfl) (fun _ _ _ h => h) (yields_row rfl 34 _ rfl F rfl 34 x.cells.toArray _ (fun W h => s1 _ (t0 _ h)) Try.underlying34 rfl (by kernel_rfl)) (by assumption) ?_; simp only [Act.put, List.setIfInBounds_toArray, List.set_cons_zero, List.set_cons_succ])
    refine wpAnyH_all (rs := [2, 7, 10]) (by kernel_rfl) (by simp) (fun i hi => ?_)
    simp only [List.mem_cons, List.not_mem_nil, or_false] at hi
    rcases hi with rfl | rfl | rfl
    · skip
      refine wpOp_plain rfl rfl (fun K2 hK2 => ?_)
      refine wp_res_gen (.slice (some ⟨w4.heap.size, 0, none⟩) 0 0) (w1 := w4.alloc (.cells #[] 34)) (by exact run_exec_buildSlice [] rfl (mk0 w4)) ?_
      refine hK2 _ _ ?_
      clear hK2 K2
      simp only [Act.put, List.setIfInBounds_toArray, List.set_cons_zero, List.set_cons_succ]
      have bw := (Below.refl w4.heap.size w4).alloc (Nat.le_refl _) (.cells #[] 34)
      have lw : B ≤ w4.heap.size := sz _ hS
      have nr := Row.new w4 34 #[]
      obtain ⟨g2, hg2⟩ : ∃ g, g = w4.heap.size := ⟨_, rfl⟩
      have own2 : (w4.alloc (.cells #[] 34)).ownsRow B 34 3 (.slice (some ⟨g2, 0, none⟩) 0 0) 0 [] := by rw [hg2]; exact own_empty lw nr
      have hS := sB _ _ hS (bw.mono lw)
      rw [← hg2]
      have r2l : g2 < (w4.alloc (.cells #[] 34)).heap.size := by rw [hg2]; simp
      clear nr bw lw hg2
      generalize w4.alloc (.cells #[] 34) = w5 at *
      refine ⟨hS, ?_⟩
      refine wpAnyH_all (rs := [5, 7, 10]) (by kernel_rfl) (by simp) (fun i hi => ?_)
      simp only [List.mem_cons, List.not_mem_nil, or_false] at hi
      rcases hi with rfl | rfl | rfl
      · skip
        refine wpOp_plain rfl rfl (fun K2 hK2 => ?_)
        obtain ⟨v5, w6, hrun, own5, hgr, hat⟩ := app5 w5 hS own2
        refine wp_res_gen v5 (w1 := w6) (by exact run_exec_append rfl hrun) ?_
        refine hK2 _ _ ?_
        clear hK2 K2
        simp only [Act.put, List.setIfInBounds_toArray, List.set_cons_zero, List.set_cons_succ]
        have lw : B ≤ w5.heap.size := sz _ hS
        have bw := below_grown_own (Below.refl B w5) own2 hgr lw (Nat.le_refl _)
        have hS := sB _ _ hS bw
        clear bw lw hrun hgr hat own2
        refine ⟨hS, ?_⟩
        refine wpAnyH_all (rs := [7, 10]) (by kernel_rfl) (by simp) (fun i hi => ?_)
        simp only [List.mem_cons, List.not_mem_nil, or_false] at hi
        rcases hi with rfl | rfl
        · skip
          refine wpOp_plain rfl rfl (fun K2 hK2 => ?_)
          refine wp_res_gen (.slice (some ⟨w6.heap.size, 0, none⟩) 1 1) (w1 := w6.alloc (.cells x.cells.toArray 34)) (by exact run_exec_buildSlice [(0, .tmp 30)] rfl (mk1 w6)) ?_
          refine hK2 _ _ ?_
          clear hK2 K2
          simp only [Act.put, List.setIfInBounds_toArray, List.set_cons_zero, List.set_cons_succ]
          have bw := (Below.refl w6.heap.size w6).alloc (Nat.le_refl _) (.cells x.cells.toArray 34)
          have lw : B ≤ w6.heap.size := sz _ hS
          have nr := Row.new w6 34 x.cells.toArray
          obtain ⟨g7, hg7⟩ : ∃ g, g = w6.heap.size := ⟨_, rfl⟩
          have ne57 : v5.ownBlock ≠ some g7 := fun e => by have := (own5.lt _ e).2; omega
          have own5 := own_below own5 bw
          have r7 : Row (w6.alloc (.cells x.cells.toArray 34)) g7 34 x.cells.toArray := by rw [hg7]; exact nr
          have hS := sB _ _ hS (bw.mono lw)
          rw [← hg7]
          clear nr bw lw hg7
          generalize w6.alloc (.cells x.cells.toArray 34) = w7 at *
          refine ⟨hS, ?_⟩
          refine wpAnyH_all (rs := [8, 10]) (by kernel_rfl) (by simp) (fun i hi => ?_)
          simp only [List.mem_cons, List.not_mem_nil, or_false] at hi
          rcases hi with rfl | rfl
          · skip
            refine wpOp_plain rfl rfl (fun K2 hK2 => ?_)
            obtain ⟨v8, w8, hrun, own8, hgr, hat⟩ := app8 w7 g7 own5 r7 (sz _ hS)
            refine wp_res_gen v8 (w1 := w8) (by exact run_exec_append rfl hrun) ?_
            refine hK2 _ _ ?_
            clear hK2 K2
            simp only [Act.put, List.setIfInBounds_toArray, List.set_cons_zero, List.set_cons_succ]
            have lw : B ≤ w7.heap.size := sz _ hS
            have bw := below_grown_own (Below.refl B w7) own5 hgr lw (Nat.le_refl _)
            have hS := sB _ _ hS bw
            clear bw lw hrun hgr hat own5
            clear r7 ne57
            refine ⟨hS, ?_⟩
            obtain ⟨g8, cap8, rfl⟩ := own_form own8
            (refine takeH (i := 9) (v := .agg #[.int .i64 r.kind, .int .i64 r.value, .int .i64 0, .slice (some ⟨g8, 0, none⟩) (r.evs.length + 1) cap8]) rfl (by kernel_rfl) (by kernel_rfl) (by kernel_rfl) (fun _ _ _ h => h) (yields_val rfl (fun W hW => by (go_simp))) (by assumption) ?_; simp only [Act.put, List.setIfInBounds_toArray, List.set_cons_zero, List.set_cons_succ])
            (refine wpAnyH_all (rs := [10]) (by kernel_rfl) (by simp) (fun i hi => ?_); obtain rfl : i = 10 := by simpa using hi)
            refine wpOp_plain rfl rfl (fun K2 hK2 => ?_)
            refine wp_alloc_gen 26 rfl _ _ zero_run rfl ?_
            intro g10 w9 hg10 r10 bx
            refine hK2 _ _ ?_
            clear hK2 K2
            simp only [Act.put, List.setIfInBounds_toArray, List.set_cons_zero, List.set_cons_succ]
            have bw := bx.mono hg10
            have lw : B ≤ w8.heap.size := sz _ hS
            have l10 : B ≤ g10 := Nat.le_trans lw hg10
            have own8 := own_below own8 bw
            have hS := sB _ _ hS (bw.mono lw)
            clear bw lw bx hg10
            refine ⟨hS, ?_⟩
            (refine wpAnyH_all (rs := [11]) (by kernel_rfl) (by simp) (fun i hi => ?_); obtain rfl : i = 11 := by simpa using hi)
            refine wpOp_plain rfl rfl (fun K2 hK2 => ?_)
            refine wp_store_gen 26 (.tmp 9) (.tmp 33) rfl g10 #[.int .i64 r.kind, .int .i64 r.value, .int .i64 0, .slice (some ⟨g8, 0, none⟩) (r.evs.length + 1) cap8] rfl rfl 26 _ r10 (by kernel_rfl) rfl (by simp [Value.oneCell']) ?_
            intro wz rz oz
            refine hK2 _ _ ?_
            clear hK2 K2
            simp only [Act.put, List.setIfInBounds_toArray, List.set_cons_zero, List.set_cons_succ]
            have hS := sB _ _ hS (oz.below l10)
            have own8 := own_only own8 oz (own_ne own8 r10 (by decide))
            refine ⟨hS, wpAnyH_done (by kernel_rfl) ?_ _⟩
            exact HK.out _ _ (Met.intro (HJ.out _ _ ⟨_, _, _, _, _, _, hS, rz, own8, rfl⟩))
          · skip
            refine wpOp_plain rfl rfl (fun K2 hK2 => ?_)
            refine wp_alloc_gen 26 rfl _ _ zero_run rfl ?_
            intro g10 w8 hg10 r10 bx
            refine hK2 _ _ ?_
            clear hK2 K2
            simp only [Act.put, List.setIfInBounds_toArray, List.set_cons_zero, List.set_cons_succ]
            have bw := bx.mono hg10
            have lw : B ≤ w7.heap.size := sz _ hS
            have l10 : B ≤ g10 := Nat.le_trans lw hg10
            have own5 := own_below own5 bw
            have r7 := r7.below bw r7.lt
            have hS := sB _ _ hS (bw.mono lw)
            clear bw lw bx hg10
            refine ⟨hS, ?_⟩
            (refine wpAnyH_all (rs := [8]) (by kernel_rfl) (by simp) (fun i hi => ?_); obtain rfl : i = 8 := by simpa using hi)
            refine wpOp_plain rfl rfl (fun K2 hK2 => ?_)
            obtain ⟨v8, w9, hrun, own8, hgr, hat⟩ := app8 w8 g7 own5 r7 (sz _ hS)
            refine wp_res_gen v8 (w1 := w9) (by exact run_exec_append rfl hrun) ?_
            refine hK2 _ _ ?_
            clear hK2 K2
            simp only [Act.put, List.setIfInBounds_toArray, List.set_cons_zero, List.set_cons_succ]
            have lw : B ≤ w8.heap.size := sz _ hS
            have bw := below_grown_own (Below.refl B w8) own5 hgr lw (Nat.le_refl _)
            have r10 := r10.grown hgr (own_ne own5 r10 (by decide))
            have hS := sB _ _ hS bw
            clear bw lw hrun hgr hat own5
            clear r7 ne57
            refine ⟨hS, ?_⟩
            obtain ⟨g8, cap8, rfl⟩ := own_form own8
            (refine takeH (i := 9) (v := .agg #[.int .i64 r.kind, .int .i64 r.value, .int .i64 0, .slice (some ⟨g8, 0, none⟩) (r.evs.length + 1) cap8]) rfl (by kernel_rfl) (by kernel_rfl) (by kernel_rfl) (fun _ _ _ h => h) (yields_val rfl (fun W hW => by (go_simp))) (by assumption) ?_; simp only [Act.put, List.setIfInBounds_toArray, List.set_cons_zero, List.set_cons_succ])
            (refine wpAnyH_all (rs := [11]) (by kernel_rfl) (by simp) (fun i hi => ?_); obtain rfl : i = 11 := by simpa using hi)
            refine wpOp_plain rfl rfl (fun K2 hK2 => ?_)
            refine wp_store_gen 26 (.tmp 9) (.tmp 33) rfl g10 #[.int .i64 r.kind, .int .i64 r.value, .int .i64 0, .slice (some ⟨g8, 0, none⟩) (r.evs.length + 1) cap8] rfl rfl 26 _ r10 (by kernel_rfl) rfl (by simp [Value.oneCell']) ?_
            intro wz rz oz
            refine hK2 _ _ ?_
            clear hK2 K2
            simp only [Act.put, List.setIfInBounds_toArray, List.set_cons_zero, List.set_cons_succ]
            have hS := sB _ _ hS (oz.below l10)
            have own8 := own_only own8 oz (own_ne own8 r10 (by decide))
            refine ⟨hS, wpAnyH_done (by kernel_rfl) ?_ _⟩
            exact HK.out _ _ (Met.intro (HJ.out _ _ ⟨_, _, _, _, _, _, hS, rz, own8, rfl⟩))
        · skip
          refine wpOp_plain rfl rfl (fun K2 hK2 => ?_)
          refine wp_alloc_gen 26 rfl _ _ zero_run rfl ?_
          intro g10 w7 hg10 r10 bx
          refine hK2 _ _ ?_
          clear hK2 K2
          simp only [Act.put, List.setIfInBounds_toArray, List.set_cons_zero, List.set_cons_succ]
          have bw := bx.mono hg10
          have lw : B ≤ w6.heap.size := sz _ hS
          have l10 : B ≤ g10 := Nat.le_trans lw hg10
          have own5 := own_below own5 bw
          have hS := sB _ _ hS (bw.mono lw)
          clear bw lw bx hg10
          refine ⟨hS, ?_⟩
          (refine wpAnyH_all (rs := [7]) (by kernel_rfl) (by simp) (fun i hi => ?_); obtain rfl : i = 7 := by simpa using hi)
          refine wpOp_plain rfl rfl (fun K2 hK2 => ?_)
          refine wp_res_gen (.slice (some ⟨w7.heap.size, 0, none⟩) 1 1) (w1 := w7.alloc (.cells x.cells.toArray 34)) (by exact run_exec_buildSlice [(0, .tmp 30)] rfl (mk1 w7)) ?_
          refine hK2 _ _ ?_
          clear hK2 K2
          simp only [Act.put, List.setIfInBounds_toArray, List.set_cons_zero, List.set_cons_succ]
          have bw := (Below.refl w7.heap.size w7).alloc (Nat.le_refl _) (.cells x.cells.toArray 34)
          have lw : B ≤ w7.heap.size := sz _ hS
          have nr := Row.new w7 34 x.cells.toArray
          obtain ⟨g7, hg7⟩ : ∃ g, g = w7.heap.size := ⟨_, rfl⟩
          have ne57 : v5.ownBlock ≠ some g7 := fun e => by have := (own5.lt _ e).2; omega
          have own5 := own_below own5 bw
          have r10 := r10.below bw r10.lt
          have r7 : Row (w7.alloc (.cells x.cells.toArray 34)) g7 34 x.cells.toArray := by rw [hg7]; exact nr
          have hS := sB _ _ hS (bw.mono lw)
          rw [← hg7]
          clear nr bw lw hg7
          generalize w7.alloc (.cells x.cells.toArray 34) = w8 at *
          refine ⟨hS, ?_⟩
          (refine wpAnyH_all (rs := [8]) (by kernel_rfl) (by simp) (fun i hi => ?_); obtain rfl : i = 8 := by simpa using hi)
          refine wpOp_plain rfl rfl (fun K2 hK2 => ?_)
          obtain ⟨v8, w9, hrun, own8, hgr, hat⟩ := app8 w8 g7 own5 r7 (sz _ hS)
          refine wp_res_gen v8 (w1 := w9) (by exact run_exec_append rfl hrun) ?_
          refine hK2 _ _ ?_
          clear hK2 K2
          simp only [Act.put, List.setIfInBounds_toArray, List.set_cons_zero, List.set_cons_succ]
          have lw : B ≤ w8.heap.size := sz _ hS
          have bw := below_grown_own (Below.refl B w8) own5 hgr lw (Nat.le_refl _)
          have r10 := r10.grown hgr (own_ne own5 r10 (by decide))
          have hS := sB _ _ hS bw
          clear bw lw hrun hgr hat own5
          clear r7 ne57
          refine ⟨hS, ?_⟩
          obtain ⟨g8, cap8, rfl⟩ := own_form own8
          (refine takeH (i := 9) (v := .agg #[.int .i64 r.kind, .int .i64 r.value, .int .i64 0, .slice (some ⟨g8, 0, none⟩) (r.evs.length + 1) cap8]) rfl (by kernel_rfl) (by kernel_rfl) (by kernel_rfl) (fun _ _ _ h => h) (yields_val rfl (fun W hW => by (go_simp))) (by assumption) ?_; simp only [Act.put, List.setIfInBounds_toArray, List.set_cons_zero, List.set_cons_succ])
          (refine wpAnyH_all (rs := [11]) (by kernel_rfl) (by simp) (fun i hi => ?_); obtain rfl : i = 11 := by simpa using hi)
          refine wpOp_plain rfl rfl (fun K2 hK2 => ?_)
          refine wp_store_gen 26 (.tmp 9) (.tmp 33) rfl g10 #[.int .i64 r.kind, .int .i64 r.value, .int .i64 0, .slice (some ⟨g8, 0, none⟩) (r.evs.length + 1) cap8] rfl rfl 26 _ r10 (by kernel_rfl) rfl (by simp [Value.oneCell']) ?_
          intro wz rz oz
          refine hK2 _ _ ?_
          clear hK2 K2
          simp only [Act.put, List.setIfInBounds_toArray, List.set_cons_zero, List.set_cons_succ]
          have hS := sB _ _ hS (oz.below l10)
          have own8 := own_only own8 oz (own_ne own8 r10 (by decide))
          refine ⟨hS, wpAnyH_done (by kernel_rfl) ?_ _⟩
          exact HK.out _ _ (Met.intro (HJ.out _ _ ⟨_, _, _, _, _, _, hS, rz, own8, rfl⟩))
      · skip
        refine wpOp_plain rfl rfl (fun K2 hK2 => ?_)
        refine wp_res_gen (.slice (some ⟨w5.heap.size, 0, none⟩) 1 1) (w1 := w5.alloc (.cells x.cells.toArray 34)) (by exact run_exec_buildSlice [(0, .tmp 30)] rfl (mk1 w5)) ?_
        refine hK2 _ _ ?_
        clear hK2 K2
        simp only [Act.put, List.setIfInBounds_toArray, List.set_cons_zero, List.set_cons_succ]
        have bw := (Below.refl w5.heap.size w5).alloc (Nat.le_refl _) (.cells x.cells.toArray 34)
        have lw : B ≤ w5.heap.size := sz _ hS
        have nr := Row.new w5 34 x.cells.toArray
        obtain ⟨g7, hg7⟩ : ∃ g, g = w5.heap.size := ⟨_, rfl⟩
        have ne27 : g2 ≠ g7 := by have := r2l; omega
        have own2 := own_below own2 bw
        have r7 : Row (w5.alloc (.cells x.cells.toArray 34)) g7 34 x.cells.toArray := by rw [hg7]; exact nr
        have hS := sB _ _ hS (bw.mono lw)
        rw [← hg7]
        clear nr bw lw hg7
        generalize w5.alloc (.cells x.cells.toArray 34) = w6 at *
        refine ⟨hS, ?_⟩
        refine wpAnyH_all (rs := [5, 10]) (by kernel_rfl) (by simp) (fun i hi => ?_)
        simp only [List.mem_cons, List.not_mem_nil, or_false] at hi
        rcases hi with rfl | rfl
        · skip
          refine wpOp_plain rfl rfl (fun K2 hK2 => ?_)
          obtain ⟨v5, w7, hrun, own5, hgr, hat⟩ := app5 w6 hS own2
          refine wp_res_gen v5 (w1 := w7) (by exact run_exec_append rfl hrun) ?_
          refine hK2 _ _ ?_
          clear hK2 K2
          simp only [Act.put, List.setIfInBounds_toArray, List.set_cons_zero, List.set_cons_succ]
          have lw : B ≤ w6.heap.size := sz _ hS
          have bw := below_grown_own (Below.refl B w6) own2 hgr lw (Nat.le_refl _)
          have ne57 : v5.ownBlock ≠ some g7 := by rcases hat with h | h <;> rw [h] <;> intro e <;> simp [Value.ownBlock] at e <;> (have := r7.lt; omega)
          have r7 := r7.grown hgr (by simp [Value.ownBlock]; exact ne27)
          have hS := sB _ _ hS bw
          clear bw lw hrun hgr hat own2
          refine ⟨hS, ?_⟩
          refine wpAnyH_all (rs := [8, 10]) (by kernel_rfl) (by simp) (fun i hi => ?_)
          simp only [List.mem_cons, List.not_mem_nil, or_false] at hi
          rcases hi with rfl | rfl
          · skip
            refine wpOp_plain rfl rfl (fun K2 hK2 => ?_)
            obtain ⟨v8, w8, hrun, own8, hgr, hat⟩ := app8 w7 g7 own5 r7 (sz _ hS)
            refine wp_res_gen v8 (w1 := w8) (by exact run_exec_append rfl hrun) ?_
            refine hK2 _ _ ?_
            clear hK2 K2
            simp only [Act.put, List.setIfInBounds_toArray, List.set_cons_zero, List.set_cons_succ]
            have lw : B ≤ w7.heap.size := sz _ hS
            have bw := below_grown_own (Below.refl B w7) own5 hgr lw (Nat.le_refl _)
            have hS := sB _ _ hS bw
            clear bw lw hrun hgr hat own5
            clear r7 ne57
            refine ⟨hS, ?_⟩
            obtain ⟨g8, cap8, rfl⟩ := own_form own8
            (refine takeH (i := 9) (v := .agg #[.int .i64 r.kind, .int .i64 r.value, .int .i64 0, .slice (some ⟨g8, 0, none⟩) (r.evs.length + 1) cap8]) rfl (by kernel_rfl) (by kernel_rfl) (by kernel_rfl) (fun _ _ _ h => h) (yields_val rfl (fun W hW => by (go_simp))) (by assumption) ?_; simp only [Act.put, List.setIfInBounds_toArray, List.set_cons_zero, List.set_cons_succ])
            (refine wpAnyH_all (rs := [10]) (by kernel_rfl) (by simp) (fun i hi => ?_); obtain rfl : i = 10 := by simpa using hi)
            refine wpOp_plain rfl rfl (fun K2 hK2 => ?_)
            refine wp_alloc_gen 26 rfl _ _ zero_run rfl ?_
            intro g10 w9 hg10 r10 bx
            refine hK2 _ _ ?_
            clear hK2 K2
            simp only [Act.put, List.setIfInBounds_toArray, List.set_cons_zero, List.set_cons_succ]
            have bw := bx.mono hg10
            have lw : B ≤ w8.heap.size := sz _ hS
            have l10 : B ≤ g10 := Nat.le_trans lw hg10
            have own8 := own_below own8 bw
            have hS := sB _ _ hS (bw.mono lw)
            clear bw lw bx hg10
            refine ⟨hS, ?_⟩
            (refine wpAnyH_all (rs := [11]) (by kernel_rfl) (by simp) (fun i hi => ?_); obtain rfl : i = 11 := by simpa using hi)
            refine wpOp_plain rfl rfl (fun K2 hK2 => ?_)
            refine wp_store_gen 26 (.tmp 9) (.tmp 33) rfl g10 #[.int .i64 r.kind, .int .i64 r.value, .int .i64 0, .slice (some ⟨g8, 0, none⟩) (r.evs.length + 1) cap8] rfl rfl 26 _ r10 (by kernel_rfl) rfl (by simp [Value.oneCell']) ?_
            intro wz rz oz
            refine hK2 _ _ ?_
            clear hK2 K2
            simp only [Act.put, List.setIfInBounds_toArray, List.set_cons_zero, List.set_cons_succ]
            have hS := sB _ _ hS (oz.below l10)
            have own8 := own_only own8 oz (own_ne own8 r10 (by decide))
            refine ⟨hS, wpAnyH_done (by kernel_rfl) ?_ _⟩
            exact HK.out _ _ (Met.intro (HJ.out _ _ ⟨_, _, _, _, _, _, hS, rz, own8, rfl⟩))
          · skip
            refine wpOp_plain rfl rfl (fun K2 hK2 => ?_)
            refine wp_alloc_gen 26 rfl _ _ zero_run rfl ?_
            intro g10 w8 hg10 r10 bx
            refine hK2 _ _ ?_
            clear hK2 K2
            simp only [Act.put, List.setIfInBounds_toArray, List.set_cons_zero, List.set_cons_succ]
            have bw := bx.mono hg10
            have lw : B ≤ w7.heap.size := sz _ hS
            have l10 : B ≤ g10 := Nat.le_trans lw hg10
            have own5 := own_below own5 bw
            have r7 := r7.below bw r7.lt
            have hS := sB _ _ hS (bw.mono lw)
            clear bw lw bx hg10
            refine ⟨hS, ?_⟩
            (refine wpAnyH_all (rs := [8]) (by kernel_rfl) (by simp) (fun i hi => ?_); obtain rfl : i = 8 := by simpa using hi)
            refine wpOp_plain rfl rfl (fun K2 hK2 => ?_)
            obtain ⟨v8, w9, hrun, own8, hgr, hat⟩ := app8 w8 g7 own5 r7 (sz _ hS)
            refine wp_res_gen v8 (w1 := w9) (by exact run_exec_append rfl hrun) ?_
            refine hK2 _ _ ?_
            clear hK2 K2
            simp only [Act.put, List.setIfInBounds_toArray, List.set_cons_zero, List.set_cons_succ]
            have lw : B ≤ w8.heap.size := sz _ hS
            have bw := below_grown_own (Below.refl B w8) own5 hgr lw (Nat.le_refl _)
            have r10 := r10.grown hgr (own_ne own5 r10 (by decide))
            have hS := sB _ _ hS bw
            clear bw lw hrun hgr hat own5
            clear r7 ne57
            refine ⟨hS, ?_⟩
            obtain ⟨g8, cap8, rfl⟩ := own_form own8
            (refine takeH (i := 9) (v := .agg #[.int .i64 r.kind, .int .i64 r.value, .int .i64 0, .slice (some ⟨g8, 0, none⟩) (r.evs.length + 1) cap8]) rfl (by kernel_rfl) (by kernel_rfl) (by kernel_rfl) (fun _ _ _ h => h) (yields_val rfl (fun W hW => by (go_simp))) (by assumption) ?_; simp only [Act.put, List.setIfInBounds_toArray, List.set_cons_zero, List.set_cons_succ])
            (refine wpAnyH_all (rs := [11]) (by kernel_rfl) (by simp) (fun i hi => ?_); obtain rfl : i = 11 := by simpa using hi)
            refine wpOp_plain rfl rfl (fun K2 hK2 => ?_)
            refine wp_store_gen 26 (.tmp 9) (.tmp 33) rfl g10 #[.int .i64 r.kind, .int .i64 r.value, .int .i64 0, .slice (some ⟨g8, 0, none⟩) (r.evs.length + 1) cap8] rfl rfl 26 _ r10 (by kernel_rfl) rfl (by simp [Value.oneCell']) ?_
            intro wz rz oz
            refine hK2 _ _ ?_
            clear hK2 K2
            simp only [Act.put, List.setIfInBounds_toArray, List.set_cons_zero, List.set_cons_succ]
            have hS := sB _ _ hS (oz.below l10)
            have own8 := own_only own8 oz (own_ne own8 r10 (by decide))
            refine ⟨hS, wpAnyH_done (by kernel_rfl) ?_ _⟩
            exact HK.out _ _ (Met.intro (HJ.out _ _ ⟨_, _, _, _, _, _, hS, rz, own8, rfl⟩))
        · skip
          refine wpOp_plain rfl rfl (fun K2 hK2 => ?_)
          refine wp_alloc_gen 26 rfl _ _ zero_run rfl ?_
          intro g10 w7 hg10 r10 bx
          refine hK2 _ _ ?_
          clear hK2 K2
          simp only [Act.put, List.setIfInBounds_toArray, List.set_cons_zero, List.set_cons_succ]
          have bw := bx.mono hg10
          have lw : B ≤ w6.heap.size := sz _ hS
          have l10 : B ≤ g10 := Nat.le_trans lw hg10
          have own2 := own_below own2 bw
          have r7 := r7.below bw r7.lt
          have hS := sB _ _ hS (bw.mono lw)
          clear bw lw bx hg10
          refine ⟨hS, ?_⟩
          (refine wpAnyH_all (rs := [5]) (by kernel_rfl) (by simp) (fun i hi => ?_); obtain rfl : i = 5 := by simpa using hi)
          refine wpOp_plain rfl rfl (fun K2 hK2 => ?_)
          obtain ⟨v5, w8, hrun, own5, hgr, hat⟩ := app5 w7 hS own2
          refine wp_res_gen v5 (w1 := w8) (by exact run_exec_append rfl hrun) ?_
          refine hK2 _ _ ?_
          clear hK2 K2
          simp only [Act.put, List.setIfInBounds_toArray, List.set_cons_zero, List.set_cons_succ]
          have lw : B ≤ w7.heap.size := sz _ hS
          have bw := below_grown_own (Below.refl B w7) own2 hgr lw (Nat.le_refl _)
          have r10 := r10.grown hgr (own_ne own2 r10 (by decide))
          have ne57 : v5.ownBlock ≠ some g7 := by rcases hat with h | h <;> rw [h] <;> intro e <;> simp [Value.ownBlock] at e <;> (have := r7.lt; omega)
          have r7 := r7.grown hgr (by simp [Value.ownBlock]; exact ne27)
          have hS := sB _ _ hS bw
          clear bw lw hrun hgr hat own2
          refine ⟨hS, ?_⟩
          (refine wpAnyH_all (rs := [8]) (by kernel_rfl) (by simp) (fun i hi => ?_); obtain rfl : i = 8 := by simpa using hi)
          refine wpOp_plain rfl rfl (fun K2 hK2 => ?_)
          obtain ⟨v8, w9, hrun, own8, hgr, hat⟩ := app8 w8 g7 own5 r7 (sz _ hS)
          refine wp_res_gen v8 (w1 := w9) (by exact run_exec_append rfl hrun) ?_
          refine hK2 _ _ ?_
          clear hK2 K2
          simp only [Act.put, List.setIfInBounds_toArray, List.set_cons_zero, List.set_cons_succ]
          have lw : B ≤ w8.heap.size := sz _ hS
          have bw := below_grown_own (Below.refl B w8) own5 hgr lw (Nat.le_refl _)
          have r10 := r10.grown hgr (own_ne own5 r10 (by decide))
          have hS := sB _ _ hS bw
          clear bw lw hrun hgr hat own5
          clear r7 ne57
          refine ⟨hS, ?_⟩
          obtain ⟨g8, cap8, rfl⟩ := own_form own8
          (refine takeH (i := 9) (v := .agg #[.int .i64 r.kind, .int .i64 r.value, .int .i64 0, .slice (some ⟨g8, 0, none⟩) (r.evs.length + 1) cap8]) rfl (by kernel_rfl) (by kernel_rfl) (by kernel_rfl) (fun _ _ _ h => h) (yields_val rfl (fun W hW => by (go_simp))) (by assumption) ?_; simp only [Act.put, List.setIfInBounds_toArray, List.set_cons_zero, List.set_cons_succ])
          (refine wpAnyH_all (rs := [11]) (by kernel_rfl) (by simp) (fun i hi => ?_); obtain rfl : i = 11 := by simpa using hi)
          refine wpOp_plain rfl rfl (fun K2 hK2 => ?_)
          refine wp_store_gen 26 (.tmp 9) (.tmp 33) rfl g10 #[.int .i64 r.kind, .int .i64 r.value, .int .i64 0, .slice (some ⟨g8, 0, none⟩) (r.evs.length + 1) cap8] rfl rfl 26 _ r10 (by kernel_rfl) rfl (by simp [Value.oneCell']) ?_
          intro wz rz oz
          refine hK2 _ _ ?_
          clear hK2 K2
          simp only [Act.put, List.setIfInBounds_toArray, List.set_cons_zero, List.set_cons_succ]
          have hS := sB _ _ hS (oz.below l10)
          have own8 := own_only own8 oz (own_ne own8 r10 (by decide))
          refine ⟨hS, wpAnyH_done (by kernel_rfl) ?_ _⟩
          exact HK.out _ _ (Met.intro (HJ.out _ _ ⟨_, _, _, _, _, _, hS, rz, own8, rfl⟩))
      · skip
        refine wpOp_plain rfl rfl (fun K2 hK2 => ?_)
        refine wp_alloc_gen 26 rfl _ _ zero_run rfl ?_
        intro g10 w6 hg10 r10 bx
        refine hK2 _ _ ?_
        clear hK2 K2
        simp only [Act.put, List.setIfInBounds_toArray, List.set_cons_zero, List.set_cons_succ]
        have bw := bx.mono hg10
        have lw : B ≤ w5.heap.size := sz _ hS
        have l10 : B ≤ g10 := Nat.le_trans lw hg10
        have own2 := own_below own2 bw
        have r2l : g2 < w6.heap.size := by have := bw.size; omega
        have hS := sB _ _ hS (bw.mono lw)
        clear bw lw bx hg10
        refine ⟨hS, ?_⟩
        refine wpAnyH_all (rs := [5, 7]) (by kernel_rfl) (by simp) (fun i hi => ?_)
        simp only [List.mem_cons, List.not_mem_nil, or_false] at hi
        rcases hi with rfl | rfl
        · skip
          refine wpOp_plain rfl rfl (fun K2 hK2 => ?_)
          obtain ⟨v5, w7, hrun, own5, hgr, hat⟩ := app5 w6 hS own2
          refine wp_res_gen v5 (w1 := w7) (by exact run_exec_append rfl hrun) ?_
          refine hK2 _ _ ?_
          clear hK2 K2
          simp only [Act.put, List.setIfInBounds_toArray, List.set_cons_zero, List.set_cons_succ]
          have lw : B ≤ w6.heap.size := sz _ hS
          have bw := below_grown_own (Below.refl B w6) own2 hgr lw (Nat.le_refl _)
          have r10 := r10.grown hgr (own_ne own2 r10 (by decide))
          have hS := sB _ _ hS bw
          clear bw lw hrun hgr hat own2
          refine ⟨hS, ?_⟩
          (refine wpAnyH_all (rs := [7]) (by kernel_rfl) (by simp) (fun i hi => ?_); obtain rfl : i = 7 := by simpa using hi)
          refine wpOp_plain rfl rfl (fun K2 hK2 => ?_)
          refine wp_res_gen (.slice (some ⟨w7.heap.size, 0, none⟩) 1 1) (w1 := w7.alloc (.cells x.cells.toArray 34)) (by exact run_exec_buildSlice [(0, .tmp 30)] rfl (mk1 w7)) ?_
          refine hK2 _ _ ?_
          clear hK2 K2
          simp only [Act.put, List.setIfInBounds_toArray, List.set_cons_zero, List.set_cons_succ]
          have bw := (Below.refl w7.heap.size w7).alloc (Nat.le_refl _) (.cells x.cells.toArray 34)
          have lw : B ≤ w7.heap.size := sz _ hS
          have nr := Row.new w7 34 x.cells.toArray
          obtain ⟨g7, hg7⟩ : ∃ g, g = w7.heap.size := ⟨_, rfl⟩
          have ne57 : v5.ownBlock ≠ some g7 := fun e => by have := (own5.lt _ e).2; omega
          have own5 := own_below own5 bw
          have r10 := r10.below bw r10.lt
          have r7 : Row (w7.alloc (.cells x.cells.toArray 34)) g7 34 x.cells.toArray := by rw [hg7]; exact nr
          have hS := sB _ _ hS (bw.mono lw)
          rw [← hg7]
          clear nr bw lw hg7
          generalize w7.alloc (.cells x.cells.toArray 34) = w8 at *
          refine ⟨hS, ?_⟩
          (refine wpAnyH_all (rs := [8]) (by kernel_rfl) (by simp) (fun i hi => ?_); obtain rfl : i = 8 := by simpa using hi)
          refine wpOp_plain rfl rfl (fun K2 hK2 => ?_)
          obtain ⟨v8, w9, hrun, own8, hgr, hat⟩ := app8 w8 g7 own5 r7 (sz _ hS)
          refine wp_res_gen v8 (w1 := w9) (by exact run_exec_append rfl hrun) ?_
          refine hK2 _ _ ?_
          clear hK2 K2
          simp only [Act.put, List.setIfInBounds_toArray, List.set_cons_zero, List.set_cons_succ]
          have lw : B ≤ w8.heap.size := sz _ hS
          have bw := below_grown_own (Below.refl B w8) own5 hgr lw (Nat.le_refl _)
          have r10 := r10.grown hgr (own_ne own5 r10 (by decide))
          have hS := sB _ _ hS bw
          clear bw lw hrun hgr hat own5
          clear r7 ne57
          refine ⟨hS, ?_⟩
          obtain ⟨g8, cap8, rfl⟩ := own_form own8
          (refine takeH (i := 9) (v := .agg #[.int .i64 r.kind, .int .i64 r.value, .int .i64 0, .slice (some ⟨g8, 0, none⟩) (r.evs.length + 1) cap8]) rfl (by kernel_rfl) (by kernel_rfl) (by kernel_rfl) (fun _ _ _ h => h) (yields_val rfl (fun W hW => by (go_simp))) (by assumption) ?_; simp only [Act.put, List.setIfInBounds_toArray, List.set_cons_zero, List.set_cons_succ])
          (refine wpAnyH_all (rs := [11]) (by kernel_rfl) (by simp) (fun i hi => ?_); obtain rfl : i = 11 := by simpa using hi)
          refine wpOp_plain rfl rfl (fun K2 hK2 => ?_)
          refine wp_store_gen 26 (.tmp 9) (.tmp 33) rfl g10 #[.int .i64 r.kind, .int .i64 r.value, .int .i64 0, .slice (some ⟨g8, 0, none⟩) (r.evs.length + 1) cap8] rfl rfl 26 _ r10 (by kernel_rfl) rfl (by simp [Value.oneCell']) ?_
          intro wz rz oz
          refine hK2 _ _ ?_
          clear hK2 K2
          simp only [Act.put, List.setIfInBounds_toArray, List.set_cons_zero, List.set_cons_succ]
          have hS := sB _ _ hS (oz.below l10)
          have own8 := own_only own8 oz (own_ne own8 r10 (by decide))
          refine ⟨hS, wpAnyH_done (by kernel_rfl) ?_ _⟩
          exact HK.out _ _ (Met.intro (HJ.out _ _ ⟨_, _, _, _, _, _, hS, rz, own8, rfl⟩))
        · skip
          refine wpOp_plain rfl rfl (fun K2 hK2 => ?_)
          refine wp_res_gen (.slice (some ⟨w6.heap.size, 0, none⟩) 1 1) (w1 := w6.alloc (.cells x.cells.toArray 34)) (by exact run_exec_buildSlice [(0, .tmp 30)] rfl (mk1 w6)) ?_
          refine hK2 _ _ ?_
          clear hK2 K2
          simp only [Act.put, List.setIfInBounds_toArray, List.set_cons_zero, List.set_cons_succ]
          have bw := (Below.refl w6.heap.size w6).alloc (Nat.le_refl _) (.cells x.cells.toArray 34)
          have lw : B ≤ w6.heap.size := sz _ hS
          have nr := Row.new w6 34 x.cells.toArray
          obtain ⟨g7, hg7⟩ : ∃ g, g = w6.heap.size := ⟨_, rfl⟩
          have ne27 : g2 ≠ g7 := by have := r2l; omega
          have own2 := own_below own2 bw
          have r10 := r10.below bw r10.lt
          have r7 : Row (w6.alloc (.cells x.cells.toArray 34)) g7 34 x.cells.toArray := by rw [hg7]; exact nr
          have hS := sB _ _ hS (bw.mono lw)
          rw [← hg7]
          clear nr bw lw hg7
          generalize w6.alloc (.cells x.cells.toArray 34) = w7 at *
          refine ⟨hS, ?_⟩
          (refine wpAnyH_all (rs := [5]) (by kernel_rfl) (by simp) (fun i hi => ?_); obtain rfl : i = 5 := by simpa using hi)
          refine wpOp_plain rfl rfl (fun K2 hK2 => ?_)
          obtain ⟨v5, w8, hrun, own5, hgr, hat⟩ := app5 w7 hS own2
          refine wp_res_gen v5 (w1 := w8) (by exact run_exec_append rfl hrun) ?_
          refine hK2 _ _ ?_
          clear hK2 K2
          simp only [Act.put, List.setIfInBounds_toArray, List.set_cons_zero, List.set_cons_succ]
          have lw : B ≤ w7.heap.size := sz _ hS
          have bw := below_grown_own (Below.refl B w7) own2 hgr lw (Nat.le_refl _)
          have r10 := r10.grown hgr (own_ne own2 r10 (by decide))
          have ne57 : v5.ownBlock ≠ some g7 := by rcases hat with h | h <;> rw [h] <;> intro e <;> simp [Value.ownBlock] at e <;> (have := r7.lt; omega)
          have r7 := r7.grown hgr (by simp [Value.ownBlock]; exact ne27)
          have hS := sB _ _ hS bw
          clear bw lw hrun hgr hat own2
          refine ⟨hS, ?_⟩
          (refine wpAnyH_all (rs := [8]) (by kernel_rfl) (by simp) (fun i hi => ?_); obtain rfl : i = 8 := by simpa using hi)
          refine wpOp_plain rfl rfl (fun K2 hK2 => ?_)
          obtain ⟨v8, w9, hrun, own8, hgr, hat⟩ := app8 w8 g7 own5 r7 (sz _ hS)
          refine wp_res_gen v8 (w1 := w9) (by exact run_exec_append rfl hrun) ?_
          refine hK2 _ _ ?_
          clear hK2 K2
          simp only [Act.put, List.setIfInBounds_toArray, List.set_cons_zero, List.set_cons_succ]
          have lw : B ≤ w8.heap.size := sz _ hS
          have bw := below_grown_own (Below.refl B w8) own5 hgr lw (Nat.le_refl _)
          have r10 := r10.grown hgr (own_ne own5 r10 (by decide))
          have hS := sB _ _ hS bw
          clear bw lw hrun hgr hat own5
          clear r7 ne57
          refine ⟨hS, ?_⟩
          obtain ⟨g8, cap8, rfl⟩ := own_form own8
          (refine takeH (i := 9) (v := .agg #[.int .i64 r.kind, .int .i64 r.value, .int .i64 0, .slice (some ⟨g8, 0, none⟩) (r.evs.length + 1) cap8]) rfl (by kernel_rfl) (by kernel_rfl) (by kernel_rfl) (fun _ _ _ h => h) (yields_val rfl (fun W hW => by (go_simp))) (by assumption) ?_; simp only [Act.put, List.setIfInBounds_toArray, List.set_cons_zero, List.set_cons_succ])
          (refine wpAnyH_all (rs := [11]) (by kernel_rfl) (by simp) (fun i hi => ?_); obtain rfl : i = 11 := by simpa using hi)
          refine wpOp_plain rfl rfl (fun K2 hK2 => ?_)
          refine wp_store_gen 26 (.tmp 9) (.tmp 33) rfl g10 #[.int .i64 r.kind, .int .i64 r.value, .int .i64 0, .slice (some ⟨g8, 0, none⟩) (r.evs.length + 1) cap8] rfl rfl 26 _ r10 (by kernel_rfl) rfl (by simp [Value.oneCell']) ?_
          intro wz rz oz
          refine hK2 _ _ ?_
          clear hK2 K2
          simp only [Act.put, List.setIfInBounds_toArray, List.set_cons_zero, List.set_cons_succ]
          have hS := sB _ _ hS (oz.below l10)
          have own8 := own_only own8 oz (own_ne own8 r10 (by decide))
          refine ⟨hS, wpAnyH_done (by kernel_rfl) ?_ _⟩
          exact HK.out _ _ (Met.intro (HJ.out _ _ ⟨_, _, _, _, _, _, hS, rz, own8, rfl⟩))
    · skip
      refine wpOp_plain rfl rfl (fun K2 hK2 => ?_)
      refine wp_res_gen (.slice (some ⟨w4.heap.size, 0, none⟩) 1 1) (w1 := w4.alloc (.cells x.cells.toArray 34)) (by exact run_exec_buildSlice [(0, .tmp 30)] rfl (mk1 w4)) ?_
      refine hK2 _ _ ?_
      clear hK2 K2
      simp only [Act.put, List.setIfInBounds_toArray, List.set_cons_zero, List.set_cons_succ]
      have bw := (Below.refl w4.heap.size w4).alloc (Nat.le_refl _) (.cells x.cells.toArray 34)
      have lw : B ≤ w4.heap.size := sz _ hS
      have nr := Row.new w4 34 x.cells.toArray
      obtain ⟨g7, hg7⟩ : ∃ g, g = w4.heap.size := ⟨_, rfl⟩
      have r7 : Row (w4.alloc (.cells x.cells.toArray 34)) g7 34 x.cells.toArray := by rw [hg7]; exact nr
      have hS := sB _ _ hS (bw.mono lw)
      rw [← hg7]
      clear nr bw lw hg7
      generalize w4.alloc (.cells x.cells.toArray 34) = w5 at *
      refine ⟨hS, ?_⟩
      refine wpAnyH_all (rs := [2, 10]) (by kernel_rfl) (by simp) (fun i hi => ?_)
      simp only [List.mem_cons, List.not_mem_nil, or_false] at hi
      rcases hi with rfl | rfl
      · skip
        refine wpOp_plain rfl rfl (fun K2 hK2 => ?_)
        refine wp_res_gen (.slice (some ⟨w5.heap.size, 0, none⟩) 0 0) (w1 := w5.alloc (.cells #[] 34)) (by exact run_exec_buildSlice [] rfl (mk0 w5)) ?_
        refine hK2 _ _ ?_
        clear hK2 K2
        simp only [Act.put, List.setIfInBounds_toArray, List.set_cons_zero, List.set_cons_succ]
        have bw := (Below.refl w5.heap.size w5).alloc (Nat.le_refl _) (.cells #[] 34)
        have lw : B ≤ w5.heap.size := sz _ hS
        have nr := Row.new w5 34 #[]
        obtain ⟨g2, hg2⟩ : ∃ g, g = w5.heap.size := ⟨_, rfl⟩
        have ne27 : g2 ≠ g7 := by have := r7.lt; omega
        have r7 := r7.below bw r7.lt
        have own2 : (w5.alloc (.cells #[] 34)).ownsRow B 34 3 (.slice (some ⟨g2, 0, none⟩) 0 0) 0 [] := by rw [hg2]; exact own_empty lw nr
        have hS := sB _ _ hS (bw.mono lw)
        rw [← hg2]
        have r2l : g2 < (w5.alloc (.cells #[] 34)).heap.size := by rw [hg2]; simp
        clear nr bw lw hg2
        generalize w5.alloc (.cells #[] 34) = w6 at *
        refine ⟨hS, ?_⟩
        refine wpAnyH_all (rs := [5, 10]) (by kernel_rfl) (by simp) (fun i hi => ?_)
        simp only [List.mem_cons, List.not_mem_nil, or_false] at hi
        rcases hi with rfl | rfl
        · skip
          refine wpOp_plain rfl rfl (fun K2 hK2 => ?_)
          obtain ⟨v5, w7, hrun, own5, hgr, hat⟩ := app5 w6 hS own2
          refine wp_res_gen v5 (w1 := w7) (by exact run_exec_append rfl hrun) ?_
          refine hK2 _ _ ?_
          clear hK2 K2
          simp only [Act.put, List.setIfInBounds_toArray, List.set_cons_zero, List.set_cons_succ]
          have lw : B ≤ w6.heap.size := sz _ hS
          have bw := below_grown_own (Below.refl B w6) own2 hgr lw (Nat.le_refl _)
          have ne57 : v5.ownBlock ≠ some g7 := by rcases hat with h | h <;> rw [h] <;> intro e <;> simp [Value.ownBlock] at e <;> (have := r7.lt; omega)
          have r7 := r7.grown hgr (by simp [Value.ownBlock]; exact ne27)
          have hS := sB _ _ hS bw
          clear bw lw hrun hgr hat own2
          refine ⟨hS, ?_⟩
          refine wpAnyH_all (rs := [8, 10]) (by kernel_rfl) (by simp) (fun i hi => ?_)
          simp only [List.mem_cons, List.not_mem_nil, or_false] at hi
          rcases hi with rfl | rfl
          · skip
            refine wpOp_plain rfl rfl (fun K2 hK2 => ?_)
            obtain ⟨v8, w8, hrun, own8, hgr, hat⟩ := app8 w7 g7 own5 r7 (sz _ hS)
            refine wp_res_gen v8 (w1 := w8) (by exact run_exec_append rfl hrun) ?_
            refine hK2 _ _ ?_
            clear hK2 K2
            simp only [Act.put, List.setIfInBounds_toArray, List.set_cons_zero, List.set_cons_succ]
            have lw : B ≤ w7.heap.size := sz _ hS
            have bw := below_grown_own (Below.refl B w7) own5 hgr lw (Nat.le_refl _)
            have hS := sB _ _ hS bw
            clear bw lw hrun hgr hat own5
            clear r7 ne57
            refine ⟨hS, ?_⟩
            obtain ⟨g8, cap8, rfl⟩ := own_form own8
            (refine takeH (i := 9) (v := .agg #[.int .i64 r.kind, .int .i64 r.value, .int .i64 0, .slice (some ⟨g8, 0, none⟩) (r.evs.length + 1) cap8]) rfl (by kernel_rfl) (by kernel_rfl) (by kernel_rfl) (fun _ _ _ h => h) (yields_val rfl (fun W hW => by (go_simp))) (by assumption) ?_; simp only [Act.put, List.setIfInBounds_toArray, List.set_cons_zero, List.set_cons_succ])
            (refine wpAnyH_all (rs := [10]) (by kernel_rfl) (by simp) (fun i hi => ?_); obtain rfl : i = 10 := by simpa using hi)
            refine wpOp_plain rfl rfl (fun K2 hK2 => ?_)
            refine wp_alloc_gen 26 rfl _ _ zero_run rfl ?_
            intro g10 w9 hg10 r10 bx
            refine hK2 _ _ ?_
            clear hK2 K2
            simp only [Act.put, List.setIfInBounds_toArray, List.set_cons_zero, List.set_cons_succ]
            have bw := bx.mono hg10
            have lw : B ≤ w8.heap.size := sz _ hS
            have l10 : B ≤ g10 := Nat.le_trans lw hg10
            have own8 := own_below own8 bw
            have hS := sB _ _ hS (bw.mono lw)
            clear bw lw bx hg10
            refine ⟨hS, ?_⟩
            (refine wpAnyH_all (rs := [11]) (by kernel_rfl) (by simp) (fun i hi => ?_); obtain rfl : i = 11 := by simpa using hi)
            refine wpOp_plain rfl rfl (fun K2 hK2 => ?_)
            refine wp_store_gen 26 (.tmp 9) (.tmp 33) rfl g10 #[.int .i64 r.kind, .int .i64 r.value, .int .i64 0, .slice (some ⟨g8, 0, none⟩) (r.evs.length + 1) cap8] rfl rfl 26 _ r10 (by kernel_rfl) rfl (by simp [Value.oneCell']) ?_
            intro wz rz oz
            refine hK2 _ _ ?_
            clear hK2 K2
            simp only [Act.put, List.setIfInBounds_toArray, List.set_cons_zero, List.set_cons_succ]
            have hS := sB _ _ hS (oz.below l10)
            have own8 := own_only own8 oz (own_ne own8 r10 (by decide))
            refine ⟨hS, wpAnyH_done (by kernel_rfl) ?_ _⟩
            exact HK.out _ _ (Met.intro (HJ.out _ _ ⟨_, _, _, _, _, _, hS, rz, own8, rfl⟩))
          · skip
            refine wpOp_plain rfl rfl (fun K2 hK2 => ?_)
            refine wp_alloc_gen 26 rfl _ _ zero_run rfl ?_
            intro g10 w8 hg10 r10 bx
            refine hK2 _ _ ?_
            clear hK2 K2
            simp only [Act.put, List.setIfInBounds_toArray, List.set_cons_zero, List.set_cons_succ]
            have bw := bx.mono hg10
            have lw : B ≤ w7.heap.size := sz _ hS
            have l10 : B ≤ g10 := Nat.le_trans lw hg10
            have own5 := own_below own5 bw
            have r7 := r7.below bw r7.lt
            have hS := sB _ _ hS (bw.mono lw)
            clear bw lw bx hg10
            refine ⟨hS, ?_⟩
            (refine wpAnyH_all (rs := [8]) (by kernel_rfl) (by simp) (fun i hi => ?_); obtain rfl : i = 8 := by simpa using hi)
            refine wpOp_plain rfl rfl (fun K2 hK2 => ?_)
            obtain ⟨v8, w9, hrun, own8, hgr, hat⟩ := app8 w8 g7 own5 r7 (sz _ hS)
            refine wp_res_gen v8 (w1 := w9) (by exact run_exec_append rfl hrun) ?_
            refine hK2 _ _ ?_
            clear hK2 K2
            simp only [Act.put, List.setIfInBounds_toArray, List.set_cons_zero, List.set_cons_succ]
            have lw : B ≤ w8.heap.size := sz _ hS
            have bw := below_grown_own (Below.refl B w8) own5 hgr lw (Nat.le_refl _)
            have r10 := r10.grown hgr (own_ne own5 r10 (by decide))
            have hS := sB _ _ hS bw
            clear bw lw hrun hgr hat own5
            clear r7 ne57
            refine ⟨hS, ?_⟩
            obtain ⟨g8, cap8, rfl⟩ := own_form own8
            (refine takeH (i := 9) (v := .agg #[.int .i64 r.kind, .int .i64 r.value, .int .i64 0, .slice (some ⟨g8, 0, none⟩) (r.evs.length + 1) cap8]) rfl (by kernel_rfl) (by kernel_rfl) (by kernel_rfl) (fun _ _ _ h => h) (yields_val rfl (fun W hW => by (go_simp))) (by assumption) ?_; simp only [Act.put, List.setIfInBounds_toArray, List.set_cons_zero, List.set_cons_succ])
            (refine wpAnyH_all (rs := [11]) (by kernel_rfl) (by simp) (fun i hi => ?_); obtain rfl : i = 11 := by simpa using hi)
            refine wpOp_plain rfl rfl (fun K2 hK2 => ?_)
            refine wp_store_gen 26 (.tmp 9) (.tmp 33) rfl g10 #[.int .i64 r.kind, .int .i64 r.value, .int .i64 0, .slice (some ⟨g8, 0, none⟩) (r.evs.length + 1) cap8] rfl rfl 26 _ r10 (by kernel_rfl) rfl (by simp [Value.oneCell']) ?_
            intro wz rz oz
            refine hK2 _ _ ?_
            clear hK2 K2
            simp only [Act.put, List.setIfInBounds_toArray, List.set_cons_zero, List.set_cons_succ]
            have hS := sB _ _ hS (oz.below l10)
            have own8 := own_only own8 oz (own_ne own8 r10 (by decide))
            refine ⟨hS, wpAnyH_done (by kernel_rfl) ?_ _⟩
            exact HK.out _ _ (Met.intro (HJ.out _ _ ⟨_, _, _, _, _, _, hS, rz, own8, rfl⟩))
        · skip
          refine wpOp_plain rfl rfl (fun K2 hK2 => ?_)
          refine wp_alloc_gen 26 rfl _ _ zero_run rfl ?_
          intro g10 w7 hg10 r10 bx
          refine hK2 _ _ ?_
          clear hK2 K2
          simp only [Act.put, List.setIfInBounds_toArray, List.set_cons_zero, List.set_cons_succ]
          have bw := bx.mono hg10
          have lw : B ≤ w6.heap.size := sz _ hS
          have l10 : B ≤ g10 := Nat.le_trans lw hg10
          have own2 := own_below own2 bw
          have r7 := r7.below bw r7.lt
          have hS := sB _ _ hS (bw.mono lw)
          clear bw lw bx hg10
          refine ⟨hS, ?_⟩
          (refine wpAnyH_all (rs := [5]) (by kernel_rfl) (by simp) (fun i hi => ?_); obtain rfl : i = 5 := by simpa using hi)
          refine wpOp_plain rfl rfl (fun K2 hK2 => ?_)
          obtain ⟨v5, w8, hrun, own5, hgr, hat⟩ := app5 w7 hS own2
          refine wp_res_gen v5 (w1 := w8) (by exact run_exec_append rfl hrun) ?_
          refine hK2 _ _ ?_
          clear hK2 K2
          simp only [Act.put, List.setIfInBounds_toArray, List.set_cons_zero, List.set_cons_succ]
          have lw : B ≤ w7.heap.size := sz _ hS
          have bw := below_grown_own (Below.refl B w7) own2 hgr lw (Nat.le_refl _)
          have r10 := r10.grown hgr (own_ne own2 r10 (by decide))
          have ne57 : v5.ownBlock ≠ some g7 := by rcases hat with h | h <;> rw [h] <;> intro e <;> simp [Value.ownBlock] at e <;> (have := r7.lt; omega)
          have r7 := r7.grown hgr (by simp [Value.ownBlock]; exact ne27)
          have hS := sB _ _ hS bw
          clear bw lw hrun hgr hat own2
          refine ⟨hS, ?_⟩
          (refine wpAnyH_all (rs := [8]) (by kernel_rfl) (by simp) (fun i hi => ?_); obtain rfl : i = 8 := by simpa using hi)
          refine wpOp_plain rfl rfl (fun K2 hK2 => ?_)
          obtain ⟨v8, w9, hrun, own8, hgr, hat⟩ := app8 w8 g7 own5 r7 (sz _ hS)
          refine wp_res_gen v8 (w1 := w9) (by exact run_exec_append rfl hrun) ?_
          refine hK2 _ _ ?_
          clear hK2 K2
          simp only [Act.put, List.setIfInBounds_toArray, List.set_cons_zero, List.set_cons_succ]
          have lw : B ≤ w8.heap.size := sz _ hS
          have bw := below_grown_own (Below.refl B w8) own5 hgr lw (Nat.le_refl _)
          have r10 := r10.grown hgr (own_ne own5 r10 (by decide))
          have hS := sB _ _ hS bw
          clear bw lw hrun hgr hat own5
          clear r7 ne57
          refine ⟨hS, ?_⟩
          obtain ⟨g8, cap8, rfl⟩ := own_form own8
          (refine takeH (i := 9) (v := .agg #[.int .i64 r.kind, .int .i64 r.value, .int .i64 0, .slice (some ⟨g8, 0, none⟩) (r.evs.length + 1) cap8]) rfl (by kernel_rfl) (by kernel_rfl) (by kernel_rfl) (fun _ _ _ h => h) (yields_val rfl (fun W hW => by (go_simp))) (by assumption) ?_; simp only [Act.put, List.setIfInBounds_toArray, List.set_cons_zero, List.set_cons_succ])
          (refine wpAnyH_all (rs := [11]) (by kernel_rfl) (by simp) (fun i hi => ?_); obtain rfl : i = 11 := by simpa using hi)
          refine wpOp_plain rfl rfl (fun K2 hK2 => ?_)
          refine wp_store_gen 26 (.tmp 9) (.tmp 33) rfl g10 #[.int .i64 r.kind, .int .i64 r.value, .int .i64 0, .slice (some ⟨g8, 0, none⟩) (r.evs.length + 1) cap8] rfl rfl 26 _ r10 (by kernel_rfl) rfl (by simp [Value.oneCell']) ?_
          intro wz rz oz
          refine hK2 _ _ ?_
          clear hK2 K2
          simp only [Act.put, List.setIfInBounds_toArray, List.set_cons_zero, List.set_cons_succ]
          have hS := sB _ _ hS (oz.below l10)
          have own8 := own_only own8 oz (own_ne own8 r10 (by decide))
          refine ⟨hS, wpAnyH_done (by kernel_rfl) ?_ _⟩
          exact HK.out _ _ (Met.intro (HJ.out _ _ ⟨_, _, _, _, _, _, hS, rz, own8, rfl⟩))
      · skip
        refine wpOp_plain rfl rfl (fun K2 hK2 => ?_)
        refine wp_alloc_gen 26 rfl _ _ zero_run rfl ?_
        intro g10 w6 hg10 r10 bx
        refine hK2 _ _ ?_
        clear hK2 K2
        simp only [Act.put, List.setIfInBounds_toArray, List.set_cons_zero, List.set_cons_succ]
        have bw := bx.mono hg10
        have lw : B ≤ w5.heap.size := sz _ hS
        have l10 : B ≤ g10 := Nat.le_trans lw hg10
        have r7 := r7.below bw r7.lt
        have hS := sB _ _ hS (bw.mono lw)
        clear bw lw bx hg10
        refine ⟨hS, ?_⟩
        (refine wpAnyH_all (rs := [2]) (by kernel_rfl) (by simp) (fun i hi => ?_); obtain rfl : i = 2 := by simpa using hi)
        refine wpOp_plain rfl rfl (fun K2 hK2 => ?_)
        refine wp_res_gen (.slice (some ⟨w6.heap.size, 0, none⟩) 0 0) (w1 := w6.alloc (.cells #[] 34)) (by exact run_exec_buildSlice [] rfl (mk0 w6)) ?_
        refine hK2 _ _ ?_
        clear hK2 K2
        simp only [Act.put, List.setIfInBounds_toArray, List.set_cons_zero, List.set_cons_succ]
        have bw := (Below.refl w6.heap.size w6).alloc (Nat.le_refl _) (.cells #[] 34)
        have lw : B ≤ w6.heap.size := sz _ hS
        have nr := Row.new w6 34 #[]
        obtain ⟨g2, hg2⟩ : ∃ g, g = w6.heap.size := ⟨_, rfl⟩
        have ne27 : g2 ≠ g7 := by have := r7.lt; omega
        have r7 := r7.below bw r7.lt
        have r10 := r10.below bw r10.lt
        have own2 : (w6.alloc (.cells #[] 34)).ownsRow B 34 3 (.slice (some ⟨g2, 0, none⟩) 0 0) 0 [] := by rw [hg2]; exact own_empty lw nr
        have hS := sB _ _ hS (bw.mono lw)
        rw [← hg2]
        have r2l : g2 < (w6.alloc (.cells #[] 34)).heap.size := by rw [hg2]; simp
        clear nr bw lw hg2
        generalize w6.alloc (.cells #[] 34) = w7 at *
        refine ⟨hS, ?_⟩
        (refine wpAnyH_all (rs := [5]) (by kernel_rfl) (by simp) (fun i hi => ?_); obtain rfl : i = 5 := by simpa using hi)
        refine wpOp_plain rfl rfl (fun K2 hK2 => ?_)
        obtain ⟨v5, w8, hrun, own5, hgr, hat⟩ := app5 w7 hS own2
        refine wp_res_gen v5 (w1 := w8) (by exact run_exec_append rfl hrun) ?_
        refine hK2 _ _ ?_
        clear hK2 K2
        simp only [Act.put, List.setIfInBounds_toArray, List.set_cons_zero, List.set_cons_succ]
        have lw : B ≤ w7.heap.size := sz _ hS
        have bw := below_grown_own (Below.refl B w7) own2 hgr lw (Nat.le_refl _)
        have r10 := r10.grown hgr (own_ne own2 r10 (by decide))
        have ne57 : v5.ownBlock ≠ some g7 := by rcases hat with h | h <;> rw [h] <;> intro e <;> simp [Value.ownBlock] at e <;> (have := r7.lt; omega)
        have r7 := r7.grown hgr (by simp [Value.ownBlock]; exact ne27)
        have hS := sB _ _ hS bw
        clear bw lw hrun hgr hat own2
        refine ⟨hS, ?_⟩
        (refine wpAnyH_all (rs := [8]) (by kernel_rfl) (by simp) (fun i hi => ?_); obtain rfl : i = 8 := by simpa using hi)
        refine wpOp_plain rfl rfl (fun K2 hK2 => ?_)
        obtain ⟨v8, w9, hrun, own8, hgr, hat⟩ := app8 w8 g7 own5 r7 (sz _ hS)
        refine wp_res_gen v8 (w1 := w9) (by exact run_exec_append rfl hrun) ?_
        refine hK2 _ _ ?_
        clear hK2 K2
        simp only [Act.put, List.setIfInBounds_toArray, List.set_cons_zero, List.set_cons_succ]
        have lw : B ≤ w8.heap.size := sz _ hS
        have bw := below_grown_own (Below.refl B w8) own5 hgr lw (Nat.le_refl _)
        have r10 := r10.grown hgr (own_ne own5 r10 (by decide))
        have hS := sB _ _ hS bw
        clear bw lw hrun hgr hat own5
        clear r7 ne57
        refine ⟨hS, ?_⟩
        obtain ⟨g8, cap8, rfl⟩ := own_form own8
        (refine takeH (i := 9) (v := .agg #[.int .i64 r.kind, .int .i64 r.value, .int .i64 0, .slice (some ⟨g8, 0, none⟩) (r.evs.length + 1) cap8]) rfl (by kernel_rfl) (by kernel_rfl) (by kernel_rfl) (fun _ _ _ h => h) (yields_val rfl (fun W hW => by (go_simp))) (by assumption) ?_; simp only [Act.put, List.setIfInBounds_toArray, List.set_cons_zero, List.set_cons_succ])
        (refine wpAnyH_all (rs := [11]) (by kernel_rfl) (by simp) (fun i hi => ?_); obtain rfl : i = 11 := by simpa using hi)
        refine wpOp_plain rfl rfl (fun K2 hK2 => ?_)
        refine wp_store_gen 26 (.tmp 9) (.tmp 33) rfl g10 #[.int .i64 r.kind, .int .i64 r.value, .int .i64 0, .slice (some ⟨g8, 0, none⟩) (r.evs.length + 1) cap8] rfl rfl 26 _ r10 (by kernel_rfl) rfl (by simp [Value.oneCell']) ?_
        intro wz rz oz
        refine hK2 _ _ ?_
        clear hK2 K2
        simp only [Act.put, List.setIfInBounds_toArray, List.set_cons_zero, List.set_cons_succ]
        have hS := sB _ _ hS (oz.below l10)
        have own8 := own_only own8 oz (own_ne own8 r10 (by decide))
        refine ⟨hS, wpAnyH_done (by kernel_rfl) ?_ _⟩
        exact HK.out _ _ (Met.intro (HJ.out _ _ ⟨_, _, _, _, _, _, hS, rz, own8, rfl⟩))
    · skip
      refine wpOp_plain rfl rfl (fun K2 hK2 => ?_)
      refine wp_alloc_gen 26 rfl _ _ zero_run rfl ?_
      intro g10 w5 hg10 r10 bx
      refine hK2 _ _ ?_
      clear hK2 K2
      simp only [Act.put, List.setIfInBounds_toArray, List.set_cons_zero, List.set_cons_succ]
      have bw := bx.mono hg10
      have lw : B ≤ w4.heap.size := sz _ hS
      have l10 : B ≤ g10 := Nat.le_trans lw hg10
      have hS := sB _ _ hS (bw.mono lw)
      clear bw lw bx hg10
      refine ⟨hS, ?_⟩
      refine wpAnyH_all (rs := [2, 7]) (by kernel_rfl) (by simp) (fun i hi => ?_)
      simp only [List.mem_cons, List.not_mem_nil, or_false] at hi
      rcases hi with rfl | rfl
      · skip
        refine wpOp_plain rfl rfl (fun K2 hK2 => ?_)
        refine wp_res_gen (.slice (some ⟨w5.heap.size, 0, none⟩) 0 0) (w1 := w5.alloc (.cells #[] 34)) (by exact run_exec_buildSlice [] rfl (mk0 w5)) ?_
        refine hK2 _ _ ?_
        clear hK2 K2
        simp only [Act.put, List.setIfInBounds_toArray, List.set_cons_zero, List.set_cons_succ]
        have bw := (Below.refl w5.heap.size w5).alloc (Nat.le_refl _) (.cells #[] 34)
        have lw : B ≤ w5.heap.size := sz _ hS
        have nr := Row.new w5 34 #[]
        obtain ⟨g2, hg2⟩ : ∃ g, g = w5.heap.size := ⟨_, rfl⟩
        have r10 := r10.below bw r10.lt
        have own2 : (w5.alloc (.cells #[] 34)).ownsRow B 34 3 (.slice (some ⟨g2, 0, none⟩) 0 0) 0 [] := by rw [hg2]; exact own_empty lw nr
        have hS := sB _ _ hS (bw.mono lw)
        rw [← hg2]
        have r2l : g2 < (w5.alloc (.cells #[] 34)).heap.size := by rw [hg2]; simp
        clear nr bw lw hg2
        generalize w5.alloc (.cells #[] 34) = w6 at *
        refine ⟨hS, ?_⟩
        refine wpAnyH_all (rs := [5, 7]) (by kernel_rfl) (by simp) (fun i hi => ?_)
        simp only [List.mem_cons, List.not_mem_nil, or_false] at hi
        rcases hi with rfl | rfl
        · skip
          refine wpOp_plain rfl rfl (fun K2 hK2 => ?_)
          obtain ⟨v5, w7, hrun, own5, hgr, hat⟩ := app5 w6 hS own2
          refine wp_res_gen v5 (w1 := w7) (by exact run_exec_append rfl hrun) ?_
          refine hK2 _ _ ?_
          clear hK2 K2
          simp only [Act.put, List.setIfInBounds_toArray, List.set_cons_zero, List.set_cons_succ]
          have lw : B ≤ w6.heap.size := sz _ hS
          have bw := below_grown_own (Below.refl B w6) own2 hgr lw (Nat.le_refl _)
          have r10 := r10.grown hgr (own_ne own2 r10 (by decide))
          have hS := sB _ _ hS bw
          clear bw lw hrun hgr hat own2
          refine ⟨hS, ?_⟩
          (refine wpAnyH_all (rs := [7]) (by kernel_rfl) (by simp) (fun i hi => ?_); obtain rfl : i = 7 := by simpa using hi)
          refine wpOp_plain rfl rfl (fun K2 hK2 => ?_)
          refine wp_res_gen (.slice (some ⟨w7.heap.size, 0, none⟩) 1 1) (w1 := w7.alloc (.cells x.cells.toArray 34)) (by exact run_exec_buildSlice [(0, .tmp 30)] rfl (mk1 w7)) ?_
          refine hK2 _ _ ?_
          clear hK2 K2
          simp only [Act.put, List.setIfInBounds_toArray, List.set_cons_zero, List.set_cons_succ]
          have bw := (Below.refl w7.heap.size w7).alloc (Nat.le_refl _) (.cells x.cells.toArray 34)
          have lw : B ≤ w7.heap.size := sz _ hS
          have nr := Row.new w7 34 x.cells.toArray
          obtain ⟨g7, hg7⟩ : ∃ g, g = w7.heap.size := ⟨_, rfl⟩
          have ne57 : v5.ownBlock ≠ some g7 := fun e => by have := (own5.lt _ e).2; omega
          have own5 := own_below own5 bw
          have r10 := r10.below bw r10.lt
          have r7 : Row (w7.alloc (.cells x.cells.toArray 34)) g7 34 x.cells.toArray := by rw [hg7]; exact nr
          have hS := sB _ _ hS (bw.mono lw)
          rw [← hg7]
          clear nr bw lw hg7
          generalize w7.alloc (.cells x.cells.toArray 34) = w8 at *
          refine ⟨hS, ?_⟩
          (refine wpAnyH_all (rs := [8]) (by kernel_rfl) (by simp) (fun i hi => ?_); obtain rfl : i = 8 := by simpa using hi)
          refine wpOp_plain rfl rfl (fun K2 hK2 => ?_)
          obtain ⟨v8, w9, hrun, own8, hgr, hat⟩ := app8 w8 g7 own5 r7 (sz _ hS)
          refine wp_res_gen v8 (w1 := w9) (by exact run_exec_append rfl hrun) ?_
          refine hK2 _ _ ?_
          clear hK2 K2
          simp only [Act.put, List.setIfInBounds_toArray, List.set_cons_zero, List.set_cons_succ]
          have lw : B ≤ w8.heap.size := sz _ hS
          have bw := below_grown_own (Below.refl B w8) own5 hgr lw (Nat.le_refl _)
          have r10 := r10.grown hgr (own_ne own5 r10 (by decide))
          have hS := sB _ _ hS bw
          clear bw lw hrun hgr hat own5
          clear r7 ne57
          refine ⟨hS, ?_⟩
          obtain ⟨g8, cap8, rfl⟩ := own_form own8
          (refine takeH (i := 9) (v := .agg #[.int .i64 r.kind, .int .i64 r.value, .int .i64 0, .slice (some ⟨g8, 0, none⟩) (r.evs.length + 1) cap8]) rfl (by kernel_rfl) (by kernel_rfl) (by kernel_rfl) (fun _ _ _ h => h) (yields_val rfl (fun W hW => by (go_simp))) (by assumption) ?_; simp only [Act.put, List.setIfInBounds_toArray, List.set_cons_zero, List.set_cons_succ])
          (refine wpAnyH_all (rs := [11]) (by kernel_rfl) (by simp) (fun i hi => ?_); obtain rfl : i = 11 := by simpa using hi)
          refine wpOp_plain rfl rfl (fun K2 hK2 => ?_)
          refine wp_store_gen 26 (.tmp 9) (.tmp 33) rfl g10 #[.int .i64 r.kind, .int .i64 r.value, .int .i64 0, .slice (some ⟨g8, 0, none⟩) (r.evs.length + 1) cap8] rfl rfl 26 _ r10 (by kernel_rfl) rfl (by simp [Value.oneCell']) ?_
          intro wz rz oz
          refine hK2 _ _ ?_
          clear hK2 K2
          simp only [Act.put, List.setIfInBounds_toArray, List.set_cons_zero, List.set_cons_succ]
          have hS := sB _ _ hS (oz.below l10)
          have own8 := own_only own8 oz (own_ne own8 r10 (by decide))
          refine ⟨hS, wpAnyH_done (by kernel_rfl) ?_ _⟩
          exact HK.out _ _ (Met.intro (HJ.out _ _ ⟨_, _, _, _, _, _, hS, rz, own8, rfl⟩))
        · skip
          refine wpOp_plain rfl rfl (fun K2 hK2 => ?_)
          refine wp_res_gen (.slice (some ⟨w6.heap.size, 0, none⟩) 1 1) (w1 := w6.alloc (.cells x.cells.toArray 34)) (by exact run_exec_buildSlice [(0, .tmp 30)] rfl (mk1 w6)) ?_
          refine hK2 _ _ ?_
          clear hK2 K2
          simp only [Act.put, List.setIfInBounds_toArray, List.set_cons_zero, List.set_cons_succ]
          have bw := (Below.refl w6.heap.size w6).alloc (Nat.le_refl _) (.cells x.cells.toArray 34)
          have lw : B ≤ w6.heap.size := sz _ hS
          have nr := Row.new w6 34 x.cells.toArray
          obtain ⟨g7, hg7⟩ : ∃ g, g = w6.heap.size := ⟨_, rfl⟩
          have ne27 : g2 ≠ g7 := by have := r2l; omega
          have own2 := own_below own2 bw
          have r10 := r10.below bw r10.lt
          have r7 : Row (w6.alloc (.cells x.cells.toArray 34)) g7 34 x.cells.toArray := by rw [hg7]; exact nr
          have hS := sB _ _ hS (bw.mono lw)
          rw [← hg7]
          clear nr bw lw hg7
          generalize w6.alloc (.cells x.cells.toArray 34) = w7 at *
          refine ⟨hS, ?_⟩
          (refine wpAnyH_all (rs := [5]) (by kernel_rfl) (by simp) (fun i hi => ?_); obtain rfl : i = 5 := by simpa using hi)
          refine wpOp_plain rfl rfl (fun K2 hK2 => ?_)
          obtain ⟨v5, w8, hrun, own5, hgr, hat⟩ := app5 w7 hS own2
          refine wp_res_gen v5 (w1 := w8) (by exact run_exec_append rfl hrun) ?_
          refine hK2 _ _ ?_
          clear hK2 K2
          simp only [Act.put, List.setIfInBounds_toArray, List.set_cons_zero, List.set_cons_succ]
          have lw : B ≤ w7.heap.size := sz _ hS
          have bw := below_grown_own (Below.refl B w7) own2 hgr lw (Nat.le_refl _)
          have r10 := r10.grown hgr (own_ne own2 r10 (by decide))
          have ne57 : v5.ownBlock ≠ some g7 := by rcases hat with h | h <;> rw [h] <;> intro e <;> simp [Value.ownBlock] at e <;> (have := r7.lt; omega)
          have r7 := r7.grown hgr (by simp [Value.ownBlock]; exact ne27)
          have hS := sB _ _ hS bw
          clear bw lw hrun hgr hat own2
          refine ⟨hS, ?_⟩
          (refine wpAnyH_all (rs := [8]) (by kernel_rfl) (by simp) (fun i hi => ?_); obtain rfl : i = 8 := by simpa using hi)
          refine wpOp_plain rfl rfl (fun K2 hK2 => ?_)
          obtain ⟨v8, w9, hrun, own8, hgr, hat⟩ := app8 w8 g7 own5 r7 (sz _ hS)
          refine wp_res_gen v8 (w1 := w9) (by exact run_exec_append rfl hrun) ?_
          refine hK2 _ _ ?_
          clear hK2 K2
          simp only [Act.put, List.setIfInBounds_toArray, List.set_cons_zero, List.set_cons_succ]
          have lw : B ≤ w8.heap.size := sz _ hS
          have bw := below_grown_own (Below.refl B w8) own5 hgr lw (Nat.le_refl _)
          have r10 := r10.grown hgr (own_ne own5 r10 (by decide))
          have hS := sB _ _ hS bw
          clear bw lw hrun hgr hat own5
          clear r7 ne57
          refine ⟨hS, ?_⟩
          obtain ⟨g8, cap8, rfl⟩ := own_form own8
          (refine takeH (i := 9) (v := .agg #[.int .i64 r.kind, .int .i64 r.value, .int .i64 0, .slice (some ⟨g8, 0, none⟩) (r.evs.length + 1) cap8]) rfl (by kernel_rfl) (by kernel_rfl) (by kernel_rfl) (fun _ _ _ h => h) (yields_val rfl (fun W hW => by (go_simp))) (by assumption) ?_; simp only [Act.put, List.setIfInBounds_toArray, List.set_cons_zero, List.set_cons_succ])
          (refine wpAnyH_all (rs := [11]) (by kernel_rfl) (by simp) (fun i hi => ?_); obtain rfl : i = 11 := by simpa using hi)
          refine wpOp_plain rfl rfl (fun K2 hK2 => ?_)
          refine wp_store_gen 26 (.tmp 9) (.tmp 33) rfl g10 #[.int .i64 r.kind, .int .i64 r.value, .int .i64 0, .slice (some ⟨g8, 0, none⟩) (r.evs.length + 1) cap8] rfl rfl 26 _ r10 (by kernel_rfl) rfl (by simp [Value.oneCell']) ?_
          intro wz rz oz
          refine hK2 _ _ ?_
          clear hK2 K2
          simp only [Act.put, List.setIfInBounds_toArray, List.set_cons_zero, List.set_cons_succ]
          have hS := sB _ _ hS (oz.below l10)
          have own8 := own_only own8 oz (own_ne own8 r10 (by decide))
          refine ⟨hS, wpAnyH_done (by kernel_rfl) ?_ _⟩
          exact HK.out _ _ (Met.intro (HJ.out _ _ ⟨_, _, _, _, _, _, hS, rz, own8, rfl⟩))
      · skip
        refine wpOp_plain rfl rfl (fun K2 hK2 => ?_)
        refine wp_res_gen (.slice (some ⟨w5.heap.size, 0, none⟩) 1 1) (w1 := w5.alloc (.cells x.cells.toArray 34)) (by exact run_exec_buildSlice [(0, .tmp 30)] rfl (mk1 w5)) ?_
        refine hK2 _ _ ?_
        clear hK2 K2
        simp only [Act.put, List.setIfInBounds_toArray, List.set_cons_zero, List.set_cons_succ]
        have bw := (Below.refl w5.heap.size w5).alloc (Nat.le_refl _) (.cells x.cells.toArray 34)
        have lw : B ≤ w5.heap.size := sz _ hS
        have nr := Row.new w5 34 x.cells.toArray
        obtain ⟨g7, hg7⟩ : ∃ g, g = w5.heap.size := ⟨_, rfl⟩
        have r10 := r10.below bw r10.lt
        have r7 : Row (w5.alloc (.cells x.cells.toArray 34)) g7 34 x.cells.toArray := by rw [hg7]; exact nr
        have hS := sB _ _ hS (bw.mono lw)
        rw [← hg7]
        clear nr bw lw hg7
        generalize w5.alloc (.cells x.cells.toArray 34) = w6 at *
        refine ⟨hS, ?_⟩
        (refine wpAnyH_all (rs := [2]) (by kernel_rfl) (by simp) (fun i hi => ?_); obtain rfl : i = 2 := by simpa using hi)
        refine wpOp_plain rfl rfl (fun K2 hK2 => ?_)
        refine wp_res_gen (.slice (some ⟨w6.heap.size, 0, none⟩) 0 0) (w1 := w6.alloc (.cells #[] 34)) (by exact run_exec_buildSlice [] rfl (mk0 w6)) ?_
        refine hK2 _ _ ?_
        clear hK2 K2
        simp only [Act.put, List.setIfInBounds_toArray, List.set_cons_zero, List.set_cons_succ]
        have bw := (Below.refl w6.heap.size w6).alloc (Nat.le_refl _) (.cells #[] 34)
        have lw : B ≤ w6.heap.size := sz _ hS
        have nr := Row.new w6 34 #[]
        obtain ⟨g2, hg2⟩ : ∃ g, g = w6.heap.size := ⟨_, rfl⟩
        have ne27 : g2 ≠ g7 := by have := r7.lt; omega
        have r7 := r7.below bw r7.lt
        have r10 := r10.below bw r10.lt
        have own2 : (w6.alloc (.cells #[] 34)).ownsRow B 34 3 (.slice (some ⟨g2, 0, none⟩) 0 0) 0 [] := by rw [hg2]; exact own_empty lw nr
        have hS := sB _ _ hS (bw.mono lw)
        rw [← hg2]
        have r2l : g2 < (w6.alloc (.cells #[] 34)).heap.size := by rw [hg2]; simp
        clear nr bw lw hg2
        generalize w6.alloc (.cells #[] 34) = w7 at *
        refine ⟨hS, ?_⟩
        (refine wpAnyH_all (rs := [5]) (by kernel_rfl) (by simp) (fun i hi => ?_); obtain rfl : i = 5 := by simpa using hi)
        refine wpOp_plain rfl rfl (fun K2 hK2 => ?_)
        obtain ⟨v5, w8, hrun, own5, hgr, hat⟩ := app5 w7 hS own2
        refine wp_res_gen v5 (w1 := w8) (by exact run_exec_append rfl hrun) ?_
        refine hK2 _ _ ?_
        clear hK2 K2
        simp only [Act.put, List.setIfInBounds_toArray, List.set_cons_zero, List.set_cons_succ]
        have lw : B ≤ w7.heap.size := sz _ hS
        have bw := below_grown_own (Below.refl B w7) own2 hgr lw (Nat.le_refl _)
        have r10 := r10.grown hgr (own_ne own2 r10 (by decide))
        have ne57 : v5.ownBlock ≠ some g7 := by rcases hat with h | h <;> rw [h] <;> intro e <;> simp [Value.ownBlock] at e <;> (have := r7.lt; omega)
        have r7 := r7.grown hgr (by simp [Value.ownBlock]; exact ne27)
        have hS := sB _ _ hS bw
        clear bw lw hrun hgr hat own2
        refine ⟨hS, ?_⟩
        (refine wpAnyH_all (rs := [8]) (by kernel_rfl) (by simp) (fun i hi => ?_); obtain rfl : i = 8 := by simpa using hi)
        refine wpOp_plain rfl rfl (fun K2 hK2 => ?_)
        obtain ⟨v8, w9, hrun, own8, hgr, hat⟩ := app8 w8 g7 own5 r7 (sz _ hS)
        refine wp_res_gen v8 (w1 := w9) (by exact run_exec_append rfl hrun) ?_
        refine hK2 _ _ ?_
        clear hK2 K2
        simp only [Act.put, List.setIfInBounds_toArray, List.set_cons_zero, List.set_cons_succ]
        have lw : B ≤ w8.heap.size := sz _ hS
        have bw := below_grown_own (Below.refl B w8) own5 hgr lw (Nat.le_refl _)
        have r10 := r10.grown hgr (own_ne own5 r10 (by decide))
        have hS := sB _ _ hS bw
        clear bw lw hrun hgr hat own5
        clear r7 ne57
        refine ⟨hS, ?_⟩
        obtain ⟨g8, cap8, rfl⟩ := own_form own8
        (refine takeH (i := 9) (v := .agg #[.int .i64 r.kind, .int .i64 r.value, .int .i64 0, .slice (some ⟨g8, 0, none⟩) (r.evs.length + 1) cap8]) rfl (by kernel_rfl) (by kernel_rfl) (by kernel_rfl) (fun _ _ _ h => h) (yields_val rfl (fun W hW => by (go_simp))) (by assumption) ?_; simp only [Act.put, List.setIfInBounds_toArray, List.set_cons_zero, List.set_cons_succ])
        (refine wpAnyH_all (rs := [11]) (by kernel_rfl) (by simp) (fun i hi => ?_); obtain rfl : i = 11 := by simpa using hi)
        refine wpOp_plain rfl rfl (fun K2 hK2 => ?_)
        refine wp_store_gen 26 (.tmp 9) (.tmp 33) rfl g10 #[.int .i64 r.kind, .int .i64 r.value, .int .i64 0, .slice (some ⟨g8, 0, none⟩) (r.evs.length + 1) cap8] rfl rfl 26 _ r10 (by kernel_rfl) rfl (by simp [Value.oneCell']) ?_
        intro wz rz oz
        refine hK2 _ _ ?_
        clear hK2 K2
        simp only [Act.put, List.setIfInBounds_toArray, List.set_cons_zero, List.set_cons_succ]
        have hS := sB _ _ hS (oz.below l10)
        have own8 := own_only own8 oz (own_ne own8 r10 (by decide))
        refine ⟨hS, wpAnyH_done (by kernel_rfl) ?_ _⟩
        exact HK.out _ _ (Met.intro (HJ.out _ _ ⟨_, _, _, _, _, _, hS, rz, own8, rfl⟩))
  case rest =>
    rintro a W ⟨u26, u29, u31, g10, g8, cap8, hT, r10, own8, rfl⟩
    (try dsimp only)
    have okO : ∀ W, T W → RunV.ok { r with steps := n } W := fun W h => by
      have h := S2'.out _ (t0 _ h)
      exact ⟨h.kind, h.value, Hn.out, h.len, h.cap, h.nil, h.reads, h.evs⟩
    have OkO := Lib.hid okO
    obtain ⟨hlc, hcm⟩ : r.evs.length + 1 ≤ cap8 ∧ cap8 ≤ maxLen := by
      rcases own8.2 with ⟨h, _⟩ | ⟨g', cap', cur, h, _, _, h1, h2, _⟩
      · simp at h
      · simp only [Value.slice.injEq] at h
        obtain ⟨_, _, rfl⟩ := h
        exact ⟨h1, h2⟩
    have okM : ∀ W, W.ownsRow B 34 3 (.slice (some ⟨g8, 0, none⟩) (r.evs.length + 1) cap8) (r.evs.length + 1) (r.evs.flatMap EvV.cells ++ [x].flatMap EvV.cells) → RunV.ok { kind := r.kind, value := r.value, steps := 0, addr := some ⟨g8, 0, none⟩, cap := cap8, evs := r.evs ++ [x] } W := fun W h => by
      refine ⟨Hok.out.kind, Hok.out.value, InI_03.1, by simpa using hlc, hcm, fun h => (by cases h), fun j u hj => ⟨_, rfl, h.cells rfl j u (by simpa using hj)⟩, fun e he => ?_⟩
      rcases List.mem_append.1 he with h | h
      · exact Hok.out.evs e h
      · rw [List.mem_singleton.1 h]; exact Hx.out
    have OkM := Lib.hid okM
    have hne : (traceL r.kind r.value (r.evs ++ [x]) == traceL r.kind r.value r.evs) = false := by
      rw [beq_eq_false_iff_ne]
      intro h
      have := (traceL_inj Hok.out.kind Hok.out.value Hok.out.kind Hok.out.value (fun e he => by
        rcases List.mem_append.1 he with h | h
        · exact Hok.out.evs e h
        · rw [List.mem_singleton.1 h]; exact Hx.out) Hok.out.evs (by have := Hl.out; simp; omega) (by have := Hl.out; omega) h).1
      have := congrArg List.length this
      simp at this
    have hne' : (traceL r.kind r.value (r.evs ++ [x]) != traceL r.kind r.value r.evs) = true := by simp [bne, hne]
    have HN := Lib.hid hne
    have HN' := Lib.hid hne'
    have hU : (fun W => T W ∧ Row W g10 26 #[.int .i64 r.kind, .int .i64 r.value, .int .i64 0, .slice (some ⟨g8, 0, none⟩) (r.evs.length + 1) cap8] ∧ W.ownsRow B 34 3 (.slice (some ⟨g8, 0, none⟩) (r.evs.length + 1) cap8) (r.evs.length + 1) (r.evs.flatMap EvV.cells ++ [x].flatMap EvV.cells)) W := ⟨hT, r10, own8⟩
    obtain ⟨U, hUd⟩ : ∃ U, U = (fun W => T W ∧ Row W g10 26 #[.int .i64 r.kind, .int .i64 r.value, .int .i64 0, .slice (some ⟨g8, 0, none⟩) (r.evs.length + 1) cap8] ∧ W.ownsRow B 34 3 (.slice (some ⟨g8, 0, none⟩) (r.evs.length + 1) cap8) (r.evs.length + 1) (r.evs.flatMap EvV.cells ++ [x].flatMap EvV.cells)) := ⟨_, rfl⟩
    have stU : St U := by rw [hUd]; infer_instance
    have u0 : ∀ W, U W → T W := by rw [hUd]; exact fun W h => h.1
    have u1 : ∀ W, U W → Row W g10 26 #[.int .i64 r.kind, .int .i64 r.value, .int .i64 0, .slice (some ⟨g8, 0, none⟩) (r.evs.length + 1) cap8] := by rw [hUd]; exact fun W h => h.2.1
    have u2 : ∀ W, U W → RunV.ok { kind := r.kind, value := r.value, steps := 0, addr := some ⟨g8, 0, none⟩, cap := cap8, evs := r.evs ++ [x] } W := by rw [hUd]; exact fun W h => okM W h.2.2
    have q0 : ∀ W, U W → Row W G 26 r.cells := fun W h => s0 _ (t0 _ (u0 _ h))
    have q1 : ∀ W, U W → Row W O 26 #[.int .i64 r.kind, .int .i64 r.value, .int .i64 n, .slice r.addr r.evs.length r.cap] := fun W h => t1 _ (u0 _ h)
    have q2 : ∀ W, U W → r.ok W := fun W h => S2'.out _ (t0 _ (u0 _ h))
    have q3 : ∀ W, U W → Below w.heap.size w W := fun W h => S3'.out _ (t0 _ (u0 _ h))
    rw [← hUd] at hU
    have U0' := Lib.hid u0
    have U2' := Lib.hid u2
    have Q2' := Lib.hid q2
    have Q3' := Lib.hid q3
    have Hl2 : Hid (r.evs.length ≤ 1000) := by have := Hl.out; show _ ≤ _; omega
    have Hl3 : Hid (r.evs.length ≤ 100) := by have := Hl.out; show _ ≤ _; omega
    have Hl4 : Hid ((r.evs ++ [x]).length ≤ 1000) := by have := Hl.out; show _ ≤ _; simp; omega
    clear hUd okO okM hne hne' hT r10 own8 u0 u2 q2 q3 t0 t1 sz sB s0 s1 smk hT5 hlc hcm
    go_wp2_with fail
    refine region_hold U (by kernel_rfl) (by kernel_rfl) (St.drew hU) ?_
    clear hU
    iterate 2 (refine hold_value rfl ?_ (fun W hW => ?_) ?_; rotate_left; (focus (go_simp; exact rfl)); simp only [Act.put, List.setIfInBounds_toArray, List.set_cons_zero, List.set_cons_succ])
    (refine hold_load_row rfl 26 _ rfl (O) rfl 26 _ _ q1 Try.underlying26 rfl (by kernel_rfl) ?_; simp only [Act.put, List.setIfInBounds_toArray, List.set_cons_zero, List.set_cons_succ])
    (refine hold_call_new rfl 7 _ (fun W => by (go_simp; try rfl)) (.string ⟨(traceL r.kind r.value r.evs).toArray⟩) (fun W hW => trBytes_any { r with steps := n } W (OkO.out _ (U0'.out _ hW)) Hl2.out) ?_; simp only [Act.put, List.setIfInBounds_toArray, List.set_cons_zero, List.set_cons_succ])
    (refine hold_load_row rfl 26 _ rfl (G) rfl 26 _ _ q0 Try.underlying26 rfl (by kernel_rfl) ?_; simp only [Act.put, List.setIfInBounds_toArray, List.set_cons_zero, List.set_cons_succ])
    (refine hold_call_new rfl 7 _ (fun W => by (go_simp; try rfl)) _ (fun W hW => trBytes_any r W (Q2'.out _ hW) Hl2.out) ?_; simp only [Act.put, List.setIfInBounds_toArray, List.set_cons_zero, List.set_cons_succ])
    iterate 3 (refine hold_value rfl ?_ (fun W hW => ?_) ?_; rotate_left; (focus (go_simp; exact rfl)); simp only [Act.put, List.setIfInBounds_toArray, List.set_cons_zero, List.set_cons_succ])
    (refine hold_load_row rfl 26 _ rfl (O) rfl 26 _ _ q1 Try.underlying26 rfl (by kernel_rfl) ?_; simp only [Act.put, List.setIfInBounds_toArray, List.set_cons_zero, List.set_cons_succ])
    (refine hold_call_new rfl 9 _ (fun W => by (go_simp; try rfl)) (.string ⟨(digL r).toArray⟩) (fun W hW => trDigest_any { r with steps := n } W (OkO.out _ (U0'.out _ hW)) Hl3.out) ?_; simp only [Act.put, List.setIfInBounds_toArray, List.set_cons_zero, List.set_cons_succ])
    (refine hold_load_row rfl 26 _ rfl (G) rfl 26 _ _ q0 Try.underlying26 rfl (by kernel_rfl) ?_; simp only [Act.put, List.setIfInBounds_toArray, List.set_cons_zero, List.set_cons_succ])
    (refine hold_call_new rfl 9 _ (fun W => by (go_simp; try rfl)) _ (fun W hW => trDigest_any r W (Q2'.out _ hW) Hl3.out) ?_; simp only [Act.put, List.setIfInBounds_toArray, List.set_cons_zero, List.set_cons_succ])
    iterate 3 (refine hold_value rfl ?_ (fun W hW => ?_) ?_; rotate_left; (focus (go_simp; exact rfl)); simp only [Act.put, List.setIfInBounds_toArray, List.set_cons_zero, List.set_cons_succ])
    (refine hold_load_row rfl 26 _ rfl (g10) rfl 26 _ _ u1 Try.underlying26 rfl (by kernel_rfl) ?_; simp only [Act.put, List.setIfInBounds_toArray, List.set_cons_zero, List.set_cons_succ])
    (refine hold_call_new rfl 7 _ (fun W => by (go_simp; simp [RunV.val])) (.string ⟨(traceL r.kind r.value (r.evs ++ [x])).toArray⟩) (fun W hW => trBytes_any { kind := r.kind, value := r.value, steps := 0, addr := some ⟨g8, 0, none⟩, cap := cap8, evs := r.evs ++ [x] } W (U2'.out _ hW) Hl4.out) ?_; simp only [Act.put, List.setIfInBounds_toArray, List.set_cons_zero, List.set_cons_succ])
    (refine hold_load_row rfl 26 _ rfl (G) rfl 26 _ _ q0 Try.underlying26 rfl (by kernel_rfl) ?_; simp only [Act.put, List.setIfInBounds_toArray, List.set_cons_zero, List.set_cons_succ])
    (refine hold_call_new rfl 7 _ (fun W => by (go_simp; try rfl)) _ (fun W hW => trBytes_any r W (Q2'.out _ hW) Hl2.out) ?_; simp only [Act.put, List.setIfInBounds_toArray, List.set_cons_zero, List.set_cons_succ])
    have hne := HN.out
    have hne' := HN'.out
    iterate 3 (refine hold_value rfl ?_ (fun W hW => ?_) ?_; rotate_left; (focus (go_simp; exact rfl)); simp only [Act.put, List.setIfInBounds_toArray, List.set_cons_zero, List.set_cons_succ])
    refine wpHold_nil fun W hW => ?_
    have hb := Q3'.out _ hW
    clear hW q0 q1 u1 hne hne'
    go_wp2
    go_ret
    exact ⟨rfl, hb⟩
end Go.Proofs.Ytkdcelnlhhodlaa
