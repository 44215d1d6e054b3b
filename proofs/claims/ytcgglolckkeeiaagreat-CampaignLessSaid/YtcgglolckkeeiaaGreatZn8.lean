/- Lemmas for CnAll. -/
import Derived.Test.YtcgglolckkeeiaaGreatZn7
import Derived.Test.YtcgglolckkeeiaaGreatZn3
import Derived.Test.YtcgglolckkeeiaaGreatZn1
import Derived.Maps.AppendAt
import Derived.Deep.Cut
namespace Go.Proofs.YtcgglolckkeeiaaGreat
set_option linter.unusedVariables false
open Go.RowKit Go.Deep
structure MtV where
 A : Option Addr
 cap : Nat
 m : Mt
def MtV.dl (x : MtV) : DlV := ⟨x.A, x.cap, x.m.d⟩
def MtV.cells (x : MtV) : List Value := [.slice x.A x.m.d.path.length x.cap, .int .i64 x.m.d.op, .int .i64 x.m.d.n, .int .i64 x.m.verdict, .int .i64 x.m.test, .int .i64 x.m.kind, .int .i64 x.m.value, .string ⟨x.m.digest.toArray⟩]
structure MtOk (W : World) (x : MtV) : Prop where
 rd : Rd W x.A (ints x.m.d.path)
 len : x.m.d.path.length ≤ 1000000
 nil : x.A = none → x.m.d.path = []
 dig : x.m.digest.length ≤ 1000000
theorem MtOk.go {W W' : World} {x : MtV} (h : MtOk W x) (b : Below W.heap.size W W') : MtOk W' x := ⟨Rd.go h.rd b, h.len, h.nil, h.dig⟩
theorem MtOk.dl {W : World} {x : MtV} (h : MtOk W x) : DlOk W x.dl := ⟨h.rd, h.len⟩
instance St.mtok {x : MtV} : St (fun W => MtOk W x) := ⟨fun h b => h.go b⟩
instance St.mtsok {l : List MtV} : St (fun W => ∀ x ∈ l, MtOk W x) := ⟨fun h b x hx => (h x hx).go b⟩
theorem mt_dl {W : World} {G : Nat} {t : TypeId} {x : MtV} (h : Row W G t x.cells.toArray) : ∀ j v, x.dl.cells.toList[j]? = some v → W.cell? ((⟨G, 0, none⟩ : Addr).add j) = some v :=
 Row.from_ (cur := x.cells.toArray) h 0 (fun j v hj => by
  match j, hj with
  | 0, hj | 1, hj | 2, hj => exact hj
  | j + 3, hj => simp [DlV.cells] at hj)
theorem sameM_cases (a b : Mt) : (¬ cmpD a.d b.d = 0 → sameM a b = false) ∧ (¬ a.verdict = b.verdict → sameM a b = false) ∧ (¬ a.test = b.test → sameM a b = false) ∧ (¬ a.kind = b.kind → sameM a b = false) ∧ (¬ a.value = b.value → sameM a b = false) ∧ (cmpD a.d b.d = 0 → a.verdict = b.verdict → a.test = b.test → a.kind = b.kind → a.value = b.value → sameM a b = (a.digest == b.digest)) := by
 unfold sameM
 refine ⟨fun h => ?_, fun h => ?_, fun h => ?_, fun h => ?_, fun h => ?_, fun h1 h2 h3 h4 h5 => ?_⟩
 all_goals (first | simp [h]; done | (simp [h1, h2, h3, h4, h5]; by_cases e : a.digest = b.digest <;> simp [e]))
set_option maxRecDepth 100000 in
set_option maxHeartbeats 4000000 in
theorem mtSame_any (x y : MtV) (w : World) (hx : MtOk w x) (hy : MtOk w y) :
 Calls Tryz.prog 47 #[.agg x.cells.toArray, .agg y.cells.toArray] w fun e w' => e = .returned (.bool (sameM x.m y.m)) ∧ Below w.heap.size w w' := by
 have Ha := Lib.hid hx
 have Hb := Lib.hid hy
 clear hx hy
 go_enter Tryz.func47, Tryz.ntmps47
 go_wp2_with (refine at_box _ _ rfl ?_)
 refine Stop.to ?_
 refine wpList_box_gen rfl 47 _ rfl x.cells.toArray rfl ?_
 intro G Gw Gh Gr Gb
 go_wp2_with (refine at_box _ _ rfl ?_)
 refine Stop.to ?_
 refine wpList_box_gen rfl 47 _ rfl y.cells.toArray rfl ?_
 intro J Jw Jh Jr Jb
 have rG := Gr.below Jb (Nat.lt_of_lt_of_le Gr.lt Jh)
 have b1 := (Below.refl w.heap.size w).trans (Gb.mono Gh)
 have b2 := b1.trans ((Jb.mono Jh).mono b1.size)
 have Hs := Lib.hid (dlSame_any x.dl y.dl Jw (Ha.out.go b2).dl (Hb.out.go b2).dl)
 go_wp2_with (first | (refine wpList_load_at rfl 42 _ rfl ⟨G, 0, none⟩ rfl x.dl.cells.toList _ (mt_dl rG) Tryz.underlying42 rfl (by kernel_rfl) ?_) | (refine wpList_load_at rfl 42 _ rfl ⟨J, 0, none⟩ rfl y.dl.cells.toList _ (mt_dl Jr) Tryz.underlying42 rfl (by kernel_rfl) ?_))
 refine Hs.out.mono ?_
 rintro e w1 ⟨rfl, b3⟩
 have rG' := rG.below b3 (by have := rG.lt; exact rG.lt)
 have rJ' := Jr.below b3 Jr.lt
 have c1 := rG'.cellv (i := 3) (v := .int .i64 x.m.verdict) rfl
 have c2 := rG'.cellv (i := 4) (v := .int .i64 x.m.test) rfl
 have c3 := rG'.cellv (i := 7) (v := .string ⟨x.m.digest.toArray⟩) rfl
 have d1 := rJ'.cellv (i := 3) (v := .int .i64 y.m.verdict) rfl
 have d2 := rJ'.cellv (i := 4) (v := .int .i64 y.m.test) rfl
 have d3 := rJ'.cellv (i := 7) (v := .string ⟨y.m.digest.toArray⟩) rfl
 have c5 := rG'.cellv (i := 5) (v := .int .i64 x.m.kind) rfl
 have c6 := rG'.cellv (i := 6) (v := .int .i64 x.m.value) rfl
 have d5 := rJ'.cellv (i := 5) (v := .int .i64 y.m.kind) rfl
 have d6 := rJ'.cellv (i := 6) (v := .int .i64 y.m.value) rfl
 have hbb := b2.trans (b3.mono b2.size)
 clear Ha Hb Hs rG Gr Gb Jr Jb b1 b2 b3 Gh Jh rG' rJ'
 have Hall := Lib.hid (sameM_cases x.m y.m)
 by_cases h1 : cmpD x.dl.d y.dl.d = 0
 rotate_left
 · go_wp2_with fail
   go_ret
   exact ⟨ret_b (Hall.out.1 h1), hbb⟩
 by_cases h2 : x.m.verdict = y.m.verdict
 rotate_left
 · go_wp2_with fail
   go_ret
   exact ⟨ret_b (Hall.out.2.1 h2), hbb⟩
 by_cases h3 : x.m.test = y.m.test
 rotate_left
 · go_wp2_with fail
   go_ret
   exact ⟨ret_b (Hall.out.2.2.1 h3), hbb⟩
 by_cases h4 : x.m.kind = y.m.kind
 rotate_left
 · have h4' := Lib.hid h4
   have h5 : (x.m.kind == y.m.kind) = false := by simpa using h4
   clear h4
   go_wp2_with fail
   go_ret
   exact ⟨ret_b (Hall.out.2.2.2.1 h4'.out), hbb⟩
 by_cases h5 : x.m.value = y.m.value
 rotate_left
 · have h5' := Lib.hid h5
   have h6 : (x.m.value == y.m.value) = false := by simpa using h5
   clear h5
   go_wp2_with fail
   go_ret
   exact ⟨ret_b (Hall.out.2.2.2.2.1 h5'.out), hbb⟩
 · go_wp2_with fail
   go_ret
   exact ⟨ret_b (Hall.out.2.2.2.2.2 h1 h2 h3 h4 h5), hbb⟩
set_option maxRecDepth 100000 in
set_option maxHeartbeats 4000000 in
theorem refMtSame_any (x y : MtV) (w : World) (hx : MtOk w x) (hy : MtOk w y) :
 Calls Tryz.prog 52 #[.agg x.cells.toArray, .agg y.cells.toArray] w fun e w' => e = .returned (.bool (sameM x.m y.m)) ∧ Below w.heap.size w w' := by
 have Ha := Lib.hid hx
 have Hb := Lib.hid hy
 clear hx hy
 go_enter Tryz.func52, Tryz.ntmps52
 go_wp2_with (refine at_box _ _ rfl ?_)
 refine Stop.to ?_
 refine wpList_box_gen rfl 47 _ rfl x.cells.toArray rfl ?_
 intro G Gw Gh Gr Gb
 go_wp2_with (refine at_box _ _ rfl ?_)
 refine Stop.to ?_
 refine wpList_box_gen rfl 47 _ rfl y.cells.toArray rfl ?_
 intro J Jw Jh Jr Jb
 have rG := Gr.below Jb (Nat.lt_of_lt_of_le Gr.lt Jh)
 have b1 := (Below.refl w.heap.size w).trans (Gb.mono Gh)
 have b2 := b1.trans ((Jb.mono Jh).mono b1.size)
 have Hs := Lib.hid (refDlCmp_any x.dl y.dl Jw (Ha.out.go b2).dl (Hb.out.go b2).dl)
 go_wp2_with (first | (refine wpList_load_at rfl 42 _ rfl ⟨G, 0, none⟩ rfl x.dl.cells.toList _ (mt_dl rG) Tryz.underlying42 rfl (by kernel_rfl) ?_) | (refine wpList_load_at rfl 42 _ rfl ⟨J, 0, none⟩ rfl y.dl.cells.toList _ (mt_dl Jr) Tryz.underlying42 rfl (by kernel_rfl) ?_))
 refine Hs.out.mono ?_
 rintro e w1 ⟨rfl, b3⟩
 have rG' := rG.below b3 (by have := rG.lt; exact rG.lt)
 have rJ' := Jr.below b3 Jr.lt
 have c1 := rG'.cellv (i := 3) (v := .int .i64 x.m.verdict) rfl
 have c2 := rG'.cellv (i := 4) (v := .int .i64 x.m.test) rfl
 have c3 := rG'.cellv (i := 7) (v := .string ⟨x.m.digest.toArray⟩) rfl
 have d1 := rJ'.cellv (i := 3) (v := .int .i64 y.m.verdict) rfl
 have d2 := rJ'.cellv (i := 4) (v := .int .i64 y.m.test) rfl
 have d3 := rJ'.cellv (i := 7) (v := .string ⟨y.m.digest.toArray⟩) rfl
 have c5 := rG'.cellv (i := 5) (v := .int .i64 x.m.kind) rfl
 have c6 := rG'.cellv (i := 6) (v := .int .i64 x.m.value) rfl
 have d5 := rJ'.cellv (i := 5) (v := .int .i64 y.m.kind) rfl
 have d6 := rJ'.cellv (i := 6) (v := .int .i64 y.m.value) rfl
 have hbb := b2.trans (b3.mono b2.size)
 clear Ha Hb Hs rG Gr Gb Jr Jb b1 b2 b3 Gh Jh rG' rJ'
 have Hall := Lib.hid (sameM_cases x.m y.m)
 by_cases h1 : cmpD x.dl.d y.dl.d = 0
 rotate_left
 · have h1' : (cmpD x.dl.d y.dl.d == 0) = false := by simpa using h1
   go_wp2_with fail
   go_ret
   exact ⟨ret_b (Hall.out.1 h1), hbb⟩
 by_cases h2 : x.m.verdict = y.m.verdict
 rotate_left
 · go_wp2_with fail
   go_ret
   exact ⟨ret_b (Hall.out.2.1 h2), hbb⟩
 by_cases h3 : x.m.test = y.m.test
 rotate_left
 · go_wp2_with fail
   go_ret
   exact ⟨ret_b (Hall.out.2.2.1 h3), hbb⟩
 by_cases h4 : x.m.kind = y.m.kind
 rotate_left
 · have h4' := Lib.hid h4
   have h5 : (x.m.kind == y.m.kind) = false := by simpa using h4
   clear h4
   go_wp2_with fail
   go_ret
   exact ⟨ret_b (Hall.out.2.2.2.1 h4'.out), hbb⟩
 by_cases h5 : x.m.value = y.m.value
 rotate_left
 · have h5' := Lib.hid h5
   have h6 : (x.m.value == y.m.value) = false := by simpa using h5
   clear h5
   go_wp2_with fail
   go_ret
   exact ⟨ret_b (Hall.out.2.2.2.2.1 h5'.out), hbb⟩
 · go_wp2_with fail
   go_ret
   exact ⟨ret_b (Hall.out.2.2.2.2.2 h1 h2 h3 h4 h5), hbb⟩
end Go.Proofs.YtcgglolckkeeiaaGreat
namespace Go.Proofs.YtcgglolckkeeiaaGreat
set_option linter.unusedVariables false
open Go.RowKit Go.Deep
end Go.Proofs.YtcgglolckkeeiaaGreat
namespace Go.Proofs.YtcgglolckkeeiaaGreat
set_option linter.unusedVariables false
open Go.RowKit Go.Deep
theorem own_emptyS {W' : World} {B g size : Nat} {e : TypeId} (hB : B ≤ g) (h : Row W' g e #[]) : W'.ownsRow B e size (.slice (some ⟨g, 0, none⟩) 0 0) 0 [] :=
 ⟨by simp, .inr ⟨g, 0, #[], rfl, hB, h, Nat.le_refl _, Nat.zero_le _, by simp, by simp⟩⟩
theorem run_exec_bslice {P : Program} {o : Oper} {w w1 : World} {ρ : Operand → Value} {t : TypeId} {n : Nat} (ps : List (Nat × Operand)) (ho : o.op = .buildSlice t n ps.toArray) {v : Value} (hv : (Instr.buildSlice t n (ps.map fun (i, x) => (i, ρ x)).toArray).run P w = .ok v w1) : (execOp ρ o).run P w = .ok (.value v) w1 := by
 simp only [execOp, ho, Sem.run_bind, List.map_toArray, hv, Result.andThen_ok, Sem.run_pure]
theorem run_exec_append {P : Program} {o : Oper} {w w1 : World} {ρ : Operand → Value} {s x : Operand} {t : TypeId} (ho : o.op = .call { callee := .builtin .append, args := #[s, x], argTypes := #[t, t] }) {v : Value} (hv : (Builtin.append_ #[t, t] o.type #[ρ s, ρ x]).run P w = .ok v w1) : (execOp ρ o).run P w = .ok (.value v) w1 := by
 unfold execOp
 simp only [ho, resolve, invoke, builtin, Sem.run_bind, Sem.run_pure, Result.andThen_ok, List.map_toArray, List.map_cons, List.map_nil, hv]
theorem run_append_nil {P : Program} {w : World} {base size n c : Nat} {t ty e : TypeId} {i : TypeInfo} {v : Value} {xs : List Value} (ht : P.underlying t = some (.slice e)) (hi : P.info? e = some i) (hown : w.ownsRow base e size v n xs) : (Builtin.append_ #[t, t] ty #[v, .slice none 0 c]).run P w = .ok v w := by
 rcases hown.2 with ⟨rfl, rfl⟩ | ⟨g, cap, cur, rfl, _, _, hnc, _⟩
 · simp [Builtin.append_, run_underlying ht, sizeOf, typeInfo, hi, Builtin.lenOf, Builtin.firstCells]
 · simp [Builtin.append_, run_underlying ht, sizeOf, typeInfo, hi, Builtin.lenOf, Builtin.firstCells, hnc, storeCells]
theorem append_rd {P : Program} (t e : TypeId) (z : Value) (size bytes : Nat) (ht : P.underlying t = some (.slice e)) (hinf : (P.info? e).map (fun i => (i.zero, i.size, i.bytes)) = some (some z, size, bytes)) (hzs : z.cells.size = size) (hsz : 0 < size) (hby : bytes ≤ 100)
 {W : World} {B n m cap : Nat} {v : Value} {xs cs : List Value} {A : Option Addr} (hown : W.ownsRow B e size v n xs) (hB : B ≤ W.heap.size) (hr : Rd W A cs) (hlen : cs.length = m * size) (h1 : ∀ u ∈ cs, u.oneCell' = true) (hA : A = none → m = 0) (hb : n + m ≤ 1000000) :
 ∃ v' W', (Builtin.append_ #[t, t] t #[v, .slice A m cap]).run P W = .ok v' W' ∧ W'.ownsRow B e size v' (n + m) (xs ++ cs) ∧ W.grownBy W' v.ownBlock ∧ (v'.ownBlock = v.ownBlock ∨ v'.ownBlock = some W.heap.size) := by
 obtain ⟨i0, hi0, hz0, hz1, hz2⟩ := info_parts hinf
 rcases A with _ | ad
 · have h0 := hA rfl
   subst h0
   have hl : cs = [] := List.eq_nil_of_length_eq_zero (by simpa using hlen)
   subst hl
   exact ⟨v, W, run_append_nil ht hi0 hown, by simpa using hown, World.grownBy.refl _ _, .inl rfl⟩
 · obtain ⟨v', W', h1, h2, h3, _, h5⟩ := run_append_own_at (P := P) W B t t e i0 z size bytes ht hi0 hz0 hz1 hz2 hzs hsz v n xs hown ad m cap cs hlen
    (fun j u hj => by obtain ⟨ad', e, hc⟩ := hr j u hj; injection e with e; subst e; exact hc) h1 (by unfold maxLen; omega) (by have := Nat.mul_le_mul hb hby; omega) hB
   exact ⟨v', W', h1, h2, h3, h5⟩
end Go.Proofs.YtcgglolckkeeiaaGreat
namespace Go.Proofs.YtcgglolckkeeiaaGreat
set_option linter.unusedVariables false
open Go.RowKit Go.Deep
theorem el_at {α : Type} {c : α → List Value} {sz : Nat} (hsz : ∀ x, (c x).length = sz) (h0 : 0 < sz) {W : World} {A : Option Addr} {l : List α} (hr : Rd W A (l.flatMap c)) {k : Nat} {x : α} (hx : l[k]? = some x) :
 ∃ ad, A = some ad ∧ ∀ j u, (c x)[j]? = some u → W.cell? ((ad.add (k * sz)).add j) = some u := by
 have hl : ∀ (l : List α) (k : Nat) (x : α), l[k]? = some x → ∀ j u, (c x)[j]? = some u → (l.flatMap c)[k * sz + j]? = some u := by
  intro l
  induction l with
  | nil => intro k x h; simp at h
  | cons y l ih =>
   intro k x h j u hu
   rw [List.flatMap_cons]
   match k, h with
   | 0, h =>
    simp at h; subst h
    rw [Nat.zero_mul, Nat.zero_add, List.getElem?_append_left (List.getElem?_eq_some_iff.1 hu).1]; exact hu
   | k + 1, h =>
    rw [List.getElem?_cons_succ] at h
    rw [List.getElem?_append_right (by rw [hsz, Nat.add_mul]; omega), hsz, show (k + 1) * sz + j - sz = k * sz + j by rw [Nat.add_mul]; omega]
    exact ih k x h j u hu
 exact hr.part (k * sz) (c x) (hl l k x hx) (fun e => by have := hsz x; rw [e] at this; simp at this; omega)
set_option maxRecDepth 100000 in
set_option maxHeartbeats 2000000 in
theorem eqInts_any (A B : Option Addr) (c d na nb : Nat) (a b : List Int) (w : World) (hna : na = a.length) (hnb : nb = b.length) (ha : Rd w A (ints a)) (hb : Rd w B (ints b)) (hla : a.length ≤ 1000000) :
 Calls Tryz.prog 101 #[.slice A na c, .slice B nb d] w fun e w' => e = .returned (.bool (decide (a = b))) ∧ Below w.heap.size w w' := by
 by_cases hl : na = nb
 rotate_left
 · have hlI : ((na : Int) != (nb : Int)) = true := by simp; omega
   have hne : a ≠ b := fun e => hl (by rw [hna, hnb, e])
   have Hne : Hid (decide (a = b) = false) := by show _ = _; simp [hne]
   clear hl hna hnb hne ha hb hla
   go_enter Tryz.func101, Tryz.ntmps101
   go_wp2
   go_ret
   exact ⟨ret_b Hne.out, Below.refl _ _⟩
 subst hl
 have Ha := Lib.hid hna
 have Hb := Lib.hid hnb
 have hn6 : (na : Int) ≤ 1000000 := by omega
 clear hna hnb hla
 obtain ⟨S, hSd⟩ : ∃ S, S = (fun W => Rd W A (ints a) ∧ Rd W B (ints b) ∧ Below w.heap.size w W) := ⟨_, rfl⟩
 have stS : St S := by rw [hSd]; infer_instance
 have S0' : Hid (∀ W, S W → Rd W A (ints a)) := by show ∀ W, _; rw [hSd]; exact fun W h => h.1
 have S1' : Hid (∀ W, S W → Rd W B (ints b)) := by show ∀ W, _; rw [hSd]; exact fun W h => h.2.1
 have S2' : Hid (∀ W, S W → Below w.heap.size w W) := by show ∀ W, _; rw [hSd]; exact fun W h => h.2.2
 have hS : S w := by rw [hSd]; exact ⟨ha, hb, Below.refl _ _⟩
 clear hSd ha hb
 go_enter Tryz.func101, Tryz.ntmps101
 go_wp2
 go_loopw [13] (fun i wr => ∃ k : Nat, i = .int .i64 (k : Int) ∧ k ≤ na ∧ Hid (a.take k = b.take k) ∧ S wr) (fun i _ => na - (intOf i).toNat)
 case atStart => exact ⟨0, by simp, Nat.zero_le _, by simp [Hid], hS⟩
 case round =>
  clear hS
  obtain ⟨k, rfl, hk, Hk, hS⟩ := hrel
  by_cases hkn : k < na
  · obtain ⟨e, he⟩ : ∃ e, a[k]? = some e := ⟨_, List.getElem?_eq_getElem (by have := Ha.out; omega)⟩
    obtain ⟨f, hf⟩ : ∃ f, b[k]? = some f := ⟨_, List.getElem?_eq_getElem (by have := Hb.out; omega)⟩
    obtain ⟨ad, had, _⟩ := int_at (S0'.out _ hS) he
    obtain ⟨bd, hbd, _⟩ := int_at (S1'.out _ hS) hf
    subst had hbd
    have Hca : Hid (∀ W, S W → W.cell? (ad.add k) = some (.int .i64 e)) := fun W h => by
     obtain ⟨ad', h1, h2⟩ := int_at (S0'.out _ h) he
     injection h1 with h1; subst h1; exact h2
    have Hcb : Hid (∀ W, S W → W.cell? (bd.add k) = some (.int .i64 f)) := fun W h => by
     obtain ⟨ad', h1, h2⟩ := int_at (S1'.out _ h) hf
     injection h1 with h1; subst h1; exact h2
    have He := Lib.hid he
    have Hf := Lib.hid hf
    have hkn' : (k : Int) < (na : Int) := by omega
    have ewk : IntKind.i64.wrap ((k : Int) + 1) = (k : Int) + 1 := IntWalk.i64_in _ (by omega)
    clear he hf
    go_wp2
    refine region_hold S (by kernel_rfl) (by kernel_rfl) (St.drew hS) ?_
    clear hS
    iterate 3 (refine hold_value rfl ?_ (fun W hW => ?_) ?_; rotate_left; (focus (go_simp; exact rfl)); simp only [Act.put, List.setIfInBounds_toArray, List.set_cons_zero, List.set_cons_succ])
    (refine hold_value rfl ?_ (fun W hW => ?_) ?_; rotate_left; (focus (have c := Hca.out W hW; go_simp; exact rfl)); simp only [Act.put, List.setIfInBounds_toArray, List.set_cons_zero, List.set_cons_succ])
    iterate 3 (refine hold_value rfl ?_ (fun W hW => ?_) ?_; rotate_left; (focus (go_simp; exact rfl)); simp only [Act.put, List.setIfInBounds_toArray, List.set_cons_zero, List.set_cons_succ])
    (refine hold_value rfl ?_ (fun W hW => ?_) ?_; rotate_left; (focus (have c := Hcb.out W hW; go_simp; exact rfl)); simp only [Act.put, List.setIfInBounds_toArray, List.set_cons_zero, List.set_cons_succ])
    (refine hold_value rfl ?_ (fun W hW => ?_) ?_; rotate_left; (focus (go_simp; exact rfl)); simp only [Act.put, List.setIfInBounds_toArray, List.set_cons_zero, List.set_cons_succ])
    refine wpHold_nil fun W hS => ?_
    by_cases hef : e = f
    · subst hef
      have hnn : (e != e) = false := by simp
      have Hst : Hid (a.take (k + 1) = b.take (k + 1)) := by
       show _ = _
       rw [List.take_add_one, List.take_add_one, Hk.out, He.out, Hf.out]
      clear Hca Hcb He Hf Hk
      go_wp2
      go_roundw
      case rel => exact ⟨k + 1, by go_num, by omega, Hst, hS⟩
      case measure => simp [intOf]; omega
    · have hnn : (e != f) = true := by simpa using hef
      have Hne : Hid (decide (a = b) = false) := by
       show _ = _
       have : a ≠ b := fun h => hef (by
        have h1 := He.out
        rw [h, Hf.out] at h1
        exact (Option.some.inj h1).symm)
       simp [this]
      clear Hca Hcb He Hf Hk hef
      go_wp2
      go_ret
      exact ⟨ret_b Hne.out, S2'.out _ hS⟩
  · obtain rfl : k = na := by omega
    have Heq : Hid (decide (a = b) = true) := by
     show _ = _
     have h1 := Hk.out
     rw [List.take_of_length_le (by have := Ha.out; omega), List.take_of_length_le (by have := Hb.out; omega)] at h1
     simp [h1]
    clear hkn hk
    go_wp2
    go_ret
    exact ⟨ret_b Heq.out, S2'.out _ hS⟩
theorem nd_eq {x y : Nd} (h1 : x.tag = y.tag) (h2 : x.n = y.n) : x = y := by cases x; cases y; simp_all
instance : DecidableEq Nd := fun x y => decidable_of_iff (x.tag = y.tag ∧ x.n = y.n) ⟨fun h => nd_eq h.1 h.2, fun h => by rw [h]; exact ⟨rfl, rfl⟩⟩
def ndsC (l : List Nd) : List Value := l.flatMap Nd.cells
theorem neq_node (x y : Nd) (W : World) : (binOp .neq 74 (.agg x.cells.toArray) (.agg y.cells.toArray)).run Tryz.prog W = .ok (.bool (!(x.tag == y.tag && x.n == y.n))) W := by
 simp [go_sem, Nd.cells]
 by_cases h1 : x.tag = y.tag <;> by_cases h2 : x.n = y.n <;> simp [h1, h2]
theorem neq_nodeD (x y : Nd) (W : World) : (binOp .neq 74 (.agg x.cells.toArray) (.agg y.cells.toArray)).run Tryz.prog W = .ok (.bool (!decide (x = y))) W := by
 rw [neq_node]
 by_cases h : x = y
 · subst h; simp
 · have : (x.tag == y.tag && x.n == y.n) = false := by
    by_cases h1 : x.tag = y.tag
    · by_cases h2 : x.n = y.n
      · exact absurd (nd_eq h1 h2) h
      · simp [h2]
    · simp [h1]
   rw [this]; simp [h]
theorem run_exec_neq {P : Program} {ρ : Operand → Value} {o : Oper} {x y : Operand} {t u : TypeId} {vx vy v : Value} {W : World} (ho : o.op = .binOp .neq t x y u) (hx : ρ x = vx) (hy : ρ y = vy) (hg : (eqGuard .neq t x y vx vy).run P W = .ok () W) (hv : (binOp .neq t vx vy).run P W = .ok v W) : (execOp ρ o).run P W = .ok (.value v) W := by
 simp only [execOp, ho, hx, hy, Sem.run_bind, Sem.run_pure, hg, hv, Result.andThen_ok]
set_option maxRecDepth 100000 in
set_option maxHeartbeats 2000000 in
theorem eqNodes_any (A B : Option Addr) (c d na nb : Nat) (a b : List Nd) (w : World) (hna : na = a.length) (hnb : nb = b.length) (ha : Rd w A (ndsC a)) (hb : Rd w B (ndsC b)) (hla : a.length ≤ 1000000) :
 Calls Tryz.prog 102 #[.slice A na c, .slice B nb d] w fun e w' => e = .returned (.bool (decide (a = b))) ∧ Below w.heap.size w w' := by
 by_cases hl : na = nb
 rotate_left
 · have hlI : ((na : Int) != (nb : Int)) = true := by simp; omega
   have hne : a ≠ b := fun e => hl (by rw [hna, hnb, e])
   have Hne : Hid (decide (a = b) = false) := by show _ = _; simp [hne]
   clear hl hna hnb hne ha hb hla
   go_enter Tryz.func102, Tryz.ntmps102
   go_wp2
   go_ret
   exact ⟨ret_b Hne.out, Below.refl _ _⟩
 subst hl
 have Ha := Lib.hid hna
 have Hb := Lib.hid hnb
 have hn6 : (na : Int) ≤ 1000000 := by omega
 clear hna hnb hla
 obtain ⟨S, hSd⟩ : ∃ S, S = (fun W => Rd W A (ndsC a) ∧ Rd W B (ndsC b) ∧ Below w.heap.size w W) := ⟨_, rfl⟩
 have stS : St S := by rw [hSd]; infer_instance
 have S0' : Hid (∀ W, S W → Rd W A (ndsC a)) := by show ∀ W, _; rw [hSd]; exact fun W h => h.1
 have S1' : Hid (∀ W, S W → Rd W B (ndsC b)) := by show ∀ W, _; rw [hSd]; exact fun W h => h.2.1
 have S2' : Hid (∀ W, S W → Below w.heap.size w W) := by show ∀ W, _; rw [hSd]; exact fun W h => h.2.2
 have hS : S w := by rw [hSd]; exact ⟨ha, hb, Below.refl _ _⟩
 clear hSd ha hb
 go_enter Tryz.func102, Tryz.ntmps102
 go_wp2
 go_loopw [13] (fun i wr => ∃ k : Nat, i = .int .i64 (k : Int) ∧ k ≤ na ∧ Hid (a.take k = b.take k) ∧ S wr) (fun i _ => na - (intOf i).toNat)
 case atStart => exact ⟨0, by simp, Nat.zero_le _, by simp [Hid], hS⟩
 case round =>
  clear hS
  obtain ⟨k, rfl, hk, Hk, hS⟩ := hrel
  by_cases hkn : k < na
  · obtain ⟨e, he⟩ : ∃ e, a[k]? = some e := ⟨_, List.getElem?_eq_getElem (by have := Ha.out; omega)⟩
    obtain ⟨f, hf⟩ : ∃ f, b[k]? = some f := ⟨_, List.getElem?_eq_getElem (by have := Hb.out; omega)⟩
    obtain ⟨ad, had, _⟩ := nd_at (S0'.out _ hS) he
    obtain ⟨bd, hbd, _⟩ := nd_at (S1'.out _ hS) hf
    subst had hbd
    have Hca : Hid (∀ W, S W → ∀ j u, e.cells[j]? = some u → W.cell? ((ad.add (k * 2)).add j) = some u) := fun W h => by
     obtain ⟨ad', h1, h2⟩ := nd_at (S0'.out _ h) he
     injection h1 with h1; subst h1; exact h2
    have Hcb : Hid (∀ W, S W → ∀ j u, f.cells[j]? = some u → W.cell? ((bd.add (k * 2)).add j) = some u) := fun W h => by
     obtain ⟨ad', h1, h2⟩ := nd_at (S1'.out _ h) hf
     injection h1 with h1; subst h1; exact h2
    have He := Lib.hid he
    have Hf := Lib.hid hf
    have hkn' : (k : Int) < (na : Int) := by omega
    have ewk : IntKind.i64.wrap ((k : Int) + 1) = (k : Int) + 1 := IntWalk.i64_in _ (by omega)
    clear he hf
    have Hnn := Lib.hid (neq_nodeD e f)
    by_cases hef : e = f
    · have hvv : ∀ W, (binOp .neq 74 (.agg e.cells.toArray) (.agg f.cells.toArray)).run Tryz.prog W = .ok (.bool false) W := fun W => by rw [Hnn.out]; simp [hef]
      have Hvv := Lib.hid hvv
      clear hvv Hnn
      go_wp2
      refine region_hold S (by kernel_rfl) (by kernel_rfl) (St.drew hS) ?_
      clear hS
      iterate 3 (refine hold_value rfl ?_ (fun W hW => ?_) ?_; rotate_left; (focus (go_simp; exact rfl)); simp only [Act.put, List.setIfInBounds_toArray, List.set_cons_zero, List.set_cons_succ])
      (refine hold_load_at rfl 74 _ rfl ((ad.add (k * 2))) rfl e.cells _ Hca.out Tryz.underlying74 rfl (by kernel_rfl) ?_; simp only [Act.put, List.setIfInBounds_toArray, List.set_cons_zero, List.set_cons_succ])
      iterate 3 (refine hold_value rfl ?_ (fun W hW => ?_) ?_; rotate_left; (focus (go_simp; exact rfl)); simp only [Act.put, List.setIfInBounds_toArray, List.set_cons_zero, List.set_cons_succ])
      (refine hold_load_at rfl 74 _ rfl ((bd.add (k * 2))) rfl f.cells _ Hcb.out Tryz.underlying74 rfl (by kernel_rfl) ?_; simp only [Act.put, List.setIfInBounds_toArray, List.set_cons_zero, List.set_cons_succ])
      (refine hold_value rfl (.bool false) (fun W hW => run_exec_neq (vx := .agg e.cells.toArray) (vy := .agg f.cells.toArray) rfl rfl rfl (by go_simp) (Hvv.out W)) ?_; simp only [Act.put, List.setIfInBounds_toArray, List.set_cons_zero, List.set_cons_succ])
      refine wpHold_nil fun W hS => ?_
      clear Hvv
      subst hef
      have Hst : Hid (a.take (k + 1) = b.take (k + 1)) := by
       show _ = _
       rw [List.take_add_one, List.take_add_one, Hk.out, He.out, Hf.out]
      clear Hca Hcb He Hf Hk
      go_wp2
      go_roundw
      case rel => exact ⟨k + 1, by go_num, by omega, Hst, hS⟩
      case measure => simp [intOf]; omega
    · have hvv : ∀ W, (binOp .neq 74 (.agg e.cells.toArray) (.agg f.cells.toArray)).run Tryz.prog W = .ok (.bool true) W := fun W => by rw [Hnn.out]; simp [hef]
      have Hvv := Lib.hid hvv
      clear hvv Hnn
      go_wp2
      refine region_hold S (by kernel_rfl) (by kernel_rfl) (St.drew hS) ?_
      clear hS
      iterate 3 (refine hold_value rfl ?_ (fun W hW => ?_) ?_; rotate_left; (focus (go_simp; exact rfl)); simp only [Act.put, List.setIfInBounds_toArray, List.set_cons_zero, List.set_cons_succ])
      (refine hold_load_at rfl 74 _ rfl ((ad.add (k * 2))) rfl e.cells _ Hca.out Tryz.underlying74 rfl (by kernel_rfl) ?_; simp only [Act.put, List.setIfInBounds_toArray, List.set_cons_zero, List.set_cons_succ])
      iterate 3 (refine hold_value rfl ?_ (fun W hW => ?_) ?_; rotate_left; (focus (go_simp; exact rfl)); simp only [Act.put, List.setIfInBounds_toArray, List.set_cons_zero, List.set_cons_succ])
      (refine hold_load_at rfl 74 _ rfl ((bd.add (k * 2))) rfl f.cells _ Hcb.out Tryz.underlying74 rfl (by kernel_rfl) ?_; simp only [Act.put, List.setIfInBounds_toArray, List.set_cons_zero, List.set_cons_succ])
      (refine hold_value rfl (.bool true) (fun W hW => run_exec_neq (vx := .agg e.cells.toArray) (vy := .agg f.cells.toArray) rfl rfl rfl (by go_simp) (Hvv.out W)) ?_; simp only [Act.put, List.setIfInBounds_toArray, List.set_cons_zero, List.set_cons_succ])
      refine wpHold_nil fun W hS => ?_
      clear Hvv
      have Hne : Hid (decide (a = b) = false) := by
       show _ = _
       have : a ≠ b := fun h => hef (by
        have h1 := He.out
        rw [h, Hf.out] at h1
        exact (Option.some.inj h1).symm)
       simp [this]
      clear Hca Hcb He Hf Hk hef
      go_wp2
      go_ret
      exact ⟨ret_b Hne.out, S2'.out _ hS⟩
  · obtain rfl : k = na := by omega
    have Heq : Hid (decide (a = b) = true) := by
     show _ = _
     have h1 := Hk.out
     rw [List.take_of_length_le (by have := Ha.out; omega), List.take_of_length_le (by have := Hb.out; omega)] at h1
     simp [h1]
    clear hkn hk
    go_wp2
    go_ret
    exact ⟨ret_b Heq.out, S2'.out _ hS⟩
end Go.Proofs.YtcgglolckkeeiaaGreat
namespace Go.Proofs.YtcgglolckkeeiaaGreat
set_option linter.unusedVariables false
open Go.RowKit Go.Deep
set_option maxRecDepth 100000 in
set_option maxHeartbeats 4000000 in
theorem right_any (x : MtV) (w : World) (hx : MtOk w x) :
 Calls Tryz.prog 66 #[.agg x.cells.toArray] w fun e w' => e = .returned (.bool (rightZ x.m)) ∧ Below w.heap.size w w' := by
 have Ha := Lib.hid hx
 have hdl : x.m.digest.length ≤ 1000000 := hx.dig
 clear hx
 go_enter Tryz.func66, Tryz.ntmps66
 go_wp2_with (refine at_box _ _ rfl ?_)
 refine Stop.to ?_
 refine wpList_box_gen rfl 47 _ rfl x.cells.toArray rfl ?_
 intro G Gw Gh Gr Gb
 have b1 := (Below.refl w.heap.size w).trans (Gb.mono Gh)
 have c1 := Gr.cellv (i := 3) (v := .int .i64 x.m.verdict) rfl
 have c2 := Gr.cellv (i := 4) (v := .int .i64 x.m.test) rfl
 have c3 := Gr.cellv (i := 7) (v := .string ⟨x.m.digest.toArray⟩) rfl
 have c5 := Gr.cellv (i := 5) (v := .int .i64 x.m.kind) rfl
 have c6 := Gr.cellv (i := 6) (v := .int .i64 x.m.value) rfl
 clear Ha Gr Gb Gh
 obtain ⟨A, cap, ⟨d, ver, tst, knd, val, dig⟩⟩ := x
 simp only at c1 c2 c3 c5 c6 hdl ⊢
 go_wp2_with fail
 all_goals
  go_ret
  refine ⟨ret_b ?_, b1⟩
  clear c1 c2 c3 c5 c6 b1
  simp only [beq_iff_eq, beq_eq_false_iff_ne, ne_eq] at *
  unfold rightZ
  first | (simp_all; done) | (simp_all; omega) | ((repeat rw [if_pos (by first | assumption | omega)]); (repeat rw [if_neg (by first | assumption | omega)]); simp_all; first | (cases dig <;> simp; done) | ((have e1 : tst ≤ 19 := by omega); (have e2 : dig.length = 32 := by omega); by_cases e : val = 0 <;> simp_all))
end Go.Proofs.YtcgglolckkeeiaaGreat
