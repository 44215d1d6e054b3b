/- Plain laws on two runs, as the statements on the machine ask. Conditions: stated in each theorem. -/
import Derived.Test.YtlglilmgklipdaaMlB
import Derived.Test.YtlglilmgklipdaaOpP
namespace Go.Proofs.Ytlglilmgklipdaa
set_option linter.unusedVariables false
open Go.RowKit Go.Deep

theorem zero_event {w : World} : (zeroValue 41).run Try.prog w = .ok (.agg #[.int .i64 0, .int .i64 0, .int .i64 0]) w := by kernel_rfl
def Ms.kind (s : Ms) : Int := (s.out.getD (0, 0)).1
theorem check_same (p : PgV) (n : Nat) {a b : Int} (h : (a < 0 ∨ 10000 < a) ↔ (b < 0 ∨ 10000 < b)) : checkZ p n a = checkZ p n b := by
  unfold checkZ
  split
  · split
    · rfl
    · by_cases ha : a < 0 ∨ 10000 < a
      · rw [if_pos ha, if_pos (h.1 ha)]
      · rw [if_neg ha, if_neg (fun k => ha (h.2 k))]
  · rfl
theorem check_fuel {p : PgV} {n : Nat} {a : Int} (h : checkZ p n a = 0) {b : Int} (h0 : 0 ≤ b) (h1 : b ≤ 10000) : checkZ p n b = 0 := by
  obtain ⟨_, _, _, h2, h3⟩ := checkZ_zero h
  rw [check_same p n (b := a) (by omega)]; exact h
/-- With more fuel. -/
structure FuelL (a b : Ms) (fuel more : Int) : Prop where
  le : (a.steps : Int) ≤ fuel
  steps : a.steps ≤ b.steps
  evs : ∃ m, b.evs = a.evs ++ m
  same : a.kind ≠ 4 → SameS a b
  oof : a.kind = 4 → (a.steps : Int) = fuel ∧ (more = 0 ∨ a.steps < b.steps)
theorem fuel_law {p : PgV} {args : List Int} {fuel more : Int} {w : World} (hok : p.ok w) (hin : ∀ a ∈ args, InI a) (h : checkZ p args.length fuel = 0) (h0 : 0 ≤ more) (h1 : fuel + more ≤ 10000) : FuelL (runZ p args fuel) (runZ p args (fuel + more)) fuel more := by
  obtain ⟨_, _, _, hf0, hf1⟩ := checkZ_zero h
  have h' : checkZ p args.length (fuel + more) = 0 := check_fuel h (by omega) h1
  obtain ⟨t, v, s, hk⟩ := runZ_is hok hin h
  obtain ⟨t', v', s', hk'⟩ := runZ_is hok hin h'
  have hs := hk.steps
  have hs' := hk'.steps
  have e1 : (runZ p args fuel).steps = s.steps := by rw [hk.eq, stopped_steps]
  have e2 : (runZ p args (fuel + more)).steps = s'.steps := by rw [hk'.eq, stopped_steps]
  rcases run_less hk' hk (by omega) with ⟨h2, h3⟩ | ⟨h2, h3, h4, m, h5⟩
  · refine ⟨by omega, Nat.le_of_eq h3.steps, ⟨[], by rw [List.append_nil]; exact h3.evs.symm⟩, fun _ => h3, fun h4 => ?_⟩
    have h5 := hk.oof h4
    have h6 := hk'.oof (by rw [← h3.out]; exact h4)
    have h7 := h3.steps
    refine ⟨by omega, .inl (by omega)⟩
  · refine ⟨by omega, by omega, ⟨m, h5⟩, fun h6 => absurd (by unfold Ms.kind; rw [h3]; rfl) h6, fun _ => ⟨by omega, .inr (by omega)⟩⟩
/-- With less fuel. -/
theorem least_law {p : PgV} {args : List Int} {fuel less : Int} {w : World} (hok : p.ok w) (hin : ∀ a ∈ args, InI a) (h : checkZ p args.length fuel = 0) (h0 : 0 ≤ less) (h1 : less ≤ ((runZ p args fuel).steps : Int)) :
    checkZ p args.length less = 0 ∧ (less = ((runZ p args fuel).steps : Int) → SameS (runZ p args fuel) (runZ p args less)) ∧ (less ≠ ((runZ p args fuel).steps : Int) → (runZ p args less).out = some (4, 0) ∧ ((runZ p args less).steps : Int) = less) := by
  obtain ⟨_, _, _, hf0, hf1⟩ := checkZ_zero h
  obtain ⟨t, v, s, hk⟩ := runZ_is hok hin h
  have hs := hk.steps
  have e1 : (runZ p args fuel).steps = s.steps := by rw [hk.eq, stopped_steps]
  have h' : checkZ p args.length less = 0 := check_fuel h h0 (by omega)
  obtain ⟨t', v', s', hk'⟩ := runZ_is hok hin h'
  refine ⟨h', ?_⟩
  rcases run_less hk hk' (by omega) with ⟨h2, h3⟩ | ⟨h2, h3, h4, m, h5⟩
  · exact ⟨fun _ => ⟨h3.out.symm, h3.steps.symm, h3.evs.symm⟩, fun h4 => absurd (by omega) h4⟩
  · exact ⟨fun h6 => absurd h6 (by omega), fun _ => ⟨h3, by omega⟩⟩
theorem rd3_take {r : RunV} {W : World} (h : Rd3 r W) (n : Nat) : Rd W r.addr ((r.evs.take n).flatMap EvV.cells) := fun j u hj => by
  refine h j u ?_
  have e : r.evs.flatMap EvV.cells = (r.evs.take n).flatMap EvV.cells ++ (r.evs.drop n).flatMap EvV.cells := by rw [← List.flatMap_append, List.take_append_drop]
  rw [e, List.getElem?_append_left (List.getElem?_eq_some_iff.1 hj).1]; exact hj
theorem begins_any {s b : Ms} {A B : Option Addr} {c d : Nat} {W : World} (ha : Rd3 (s.rv A c) W) (hb : Rd3 (b.rv B d) W) (h : ∃ m, b.evs = s.evs ++ m) (hl : s.evs.length ≤ 1000000) (d' : Nat) : Calls Try.prog 19 #[.slice A s.evs.length c, .slice B s.evs.length d'] W fun e W' => e = .returned (.bool true) ∧ Below W.heap.size W W' := by
  have hr := rd3_take hb s.evs.length
  obtain ⟨m, hm⟩ := h
  have e : (b.rv B d).evs.take s.evs.length = s.evs := by show b.evs.take _ = _; rw [hm]; simp
  rw [e] at hr
  refine (refEvents_any A B c d' s.evs s.evs W ha hr hl).mono ?_
  rintro e W' ⟨β, rfl, hβ, hb⟩
  obtain rfl : β = true := hβ.2 rfl
  exact ⟨rfl, hb⟩
theorem arity_block {n : Int} (h0 : 0 ≤ n) (h1 : n ≤ 200) : arityZ ⟨20, n⟩ = n := by
  unfold arityZ
  have : limitsZ ⟨20, n⟩ = (200, n) := rfl
  rw [this, if_neg (by simp), if_neg (by simp only; omega)]
theorem okKids_rep (V : List Int) : ∀ (ks : List Tr) (f : Bool), (∀ k ∈ ks, ofT V k = 2) → okKids V false f ks (List.replicate ks.length 2) = true
  | [], _, _ => by rw [okKids]
  | k :: ks, f, h => by
    rw [List.length_cons, List.replicate_succ, okKids_cons, h k (by simp), okKids_rep V ks false (fun k hk => h k (by simp [hk]))]; rfl
theorem ofT_block {V : List Int} {n : Int} {ks : List Tr} (_ : 0 ≤ n) (h : ∀ k ∈ ks, ofT V k = 2) : ofT V (.node ⟨20, n⟩ ks) = 2 := by
  have h1 := (ofT_eq (V := V) (ks := ks) (isZ_block (V := V) (n := n) 0).1 (fun _ => (isZ_block (V := V) (n := n) ks.length).2)).2.2.1
  exact h1 (by omega) (by simp) (okKids_rep V ks true h)
theorem ofT_skip (V : List Int) : ofT V (.node ⟨26, 0⟩ []) = 2 := (ofT_plain rfl).trans (by rfl)
/-- A Skip ahead of all. -/
theorem good_first {p q : PgV} {t : Tr} (hg : Good p t) (h1 : q.params = p.params) (h2 : q.V = p.V) (h3 : q.body = ⟨20, t.root.n + 1⟩ :: ⟨26, 0⟩ :: p.body.tail) (hn : t.root.n ≤ 60) (hok : okO p.V t) : Good q (.node ⟨20, t.root.n + 1⟩ (.node ⟨26, 0⟩ [] :: t.kids)) := by
  obtain ⟨r, hr⟩ := hg.hat.here
  obtain ⟨x, ks⟩ := t
  simp only [Tr.root, Tr.kids] at h3 hn ⊢
  have htag : x.tag = 20 := hg.tag
  have hfit := hg.hat.fits
  have har := hfit.arity
  simp only [Tr.root, Tr.kids] at har
  have har20 : ∀ n : Int, 0 ≤ n → n ≤ 200 → arityZ ⟨20, n⟩ = n := fun n h0 h1 => arity_block h0 h1
  have hx : x = ⟨20, x.n⟩ := by cases x; simp only at htag; subst htag; rfl
  have hn0 : 0 ≤ x.n := by
    have := arity_tag (x := x) (by omega)
    omega
  have hxl : x.n = (ks.length : Int) := by rw [hx, har20 x.n hn0 (by omega)] at har; exact har
  have hs26 : (Tr.node ⟨26, 0⟩ []).fits := .mk _ _ (by rfl) (fun k hk => by simp at hk)
  obtain ⟨kd, sh, hkd⟩ := okO_shape hok
  have hk2 : ∀ k ∈ ks, ofT p.V k = 2 := by cases sh <;> first | omega | assumption
  have hfl : p.body.drop 0 = x :: (flats ks ++ r) := by rw [hr, Tr.flat]; rfl
  rw [List.drop_zero] at hfl
  refine ⟨⟨.mk _ _ ?_ (fun k hk => ?_), r, ?_⟩, ?_, ?_, rfl, ?_⟩
  · rw [har20 _ (by omega) (by omega)]; simp; omega
  · rcases List.mem_cons.1 hk with rfl | hk
    · exact hs26
    · exact hfit.kid k hk
  · rw [List.drop_zero, h3, hfl, Tr.flat, flats, Tr.flat]; simp [flats]
  · have := hg.size
    rw [h3, hfl]
    rw [hfl] at this
    simp only [Tr.size, Tr.flat, flats, List.length_cons, List.length_append, List.tail_cons, List.length_nil] at this ⊢
    omega
  · rw [h1, h2]; exact hg.vars
  · rw [h2]
    exact ofT_block (by omega) (fun k hk => by
      rcases List.mem_cons.1 hk with rfl | hk
      · exact ofT_skip p.V
      · exact hk2 k hk)
theorem first_law {p q : PgV} {args : List Int} {fuel : Int} {w : World} {x : Nd} (hok : p.ok w) (hin : ∀ a ∈ args, InI a) (h : checkZ p args.length fuel = 0) (hf : 1 ≤ fuel) (hf2 : fuel ≤ 400) (hx : p.body[0]? = some x) (hn : x.n ≤ 60)
    (h1 : q.params = p.params) (h2 : q.V = p.V) (h3 : q.body = ⟨20, x.n + 1⟩ :: ⟨26, 0⟩ :: p.body.tail) :
    checkZ q args.length (fuel + 1) = 0 ∧ (runZ p args fuel).out.getD (0, 0) = (runZ q args (fuel + 1)).out.getD (0, 0) ∧ (runZ p args fuel).evs = (runZ q args (fuel + 1)).evs ∧ (runZ q args (fuel + 1)).steps = (runZ p args fuel).steps + 1 := by
  obtain ⟨_, _, hl, _, _⟩ := checkZ_zero h
  obtain ⟨t, v, s, hk⟩ := runZ_is hok hin h
  have hxr : x = t.root := by have := hk.good.hat.root; rw [hx] at this; injection this
  subst hxr
  have hq := good_first hk.good h1 h2 h3 hn hk.okO
  have hc : checkZ q args.length (fuel + 1) = 0 := by
    rw [checkZ_good hq, if_neg (by rw [h1, hl]; simp), if_neg (by omega)]
  have hbig := hk.big
  have htag := hk.good.tag
  obtain ⟨y, ks⟩ := t
  simp only [Tr.root, Tr.kids] at hq htag
  have hgo : (initS p.V args fuel.toNat).go := ⟨rfl, by show fuel.toNat ≠ 0; omega⟩
  have hall : ∃ u, Big (.all ks) (initS p.V args fuel.toNat).tick u s := by
    cases hbig with
    | over _ _ h => cases h
    | empty _ _ h h0 => exact absurd h0 hgo.2
    | block _ _ _ _ u _ _ h1 => exact ⟨u, h1⟩
    | lit _ _ _ ht => omega
    | var _ _ _ ht => omega
    | skip _ _ _ ht => omega
    | cut _ _ _ _ _ _ _ ht => exact absurd (by omega) ht
    | cut2 _ _ _ _ _ _ _ _ _ ht => exact absurd (by omega) ht.1
    | _ => omega
  obtain ⟨u, hall⟩ := hall
  have hl1 := hall.late 1
  let S : Ms := initS p.V args (fuel + 1).toNat
  have hS : S.go := ⟨rfl, by show (fuel + 1).toNat ≠ 0; omega⟩
  have hS1 : S.tick.go := ⟨rfl, by show (fuel + 1).toNat - 1 ≠ 0; omega⟩
  have e : S.tick.tick = (initS p.V args fuel.toNat).tick.late 1 := by
    have : (fuel + 1).toNat - 1 - 1 = fuel.toNat - 1 := by omega
    simp only [S, initS, Ms.tick, Ms.late, this]
  rw [← e] at hl1
  have hb : Big (.one (.node ⟨20, y.n + 1⟩ (.node ⟨26, 0⟩ [] :: ks))) S 0 (s.late 1) :=
    .block _ _ _ _ 0 hS rfl (.cons _ _ _ _ _ 0 u (.skip ⟨26, 0⟩ S.tick hS1 rfl) hl1)
  have hr : runZ q args (fuel + 1) = (s.late 1).stopped 3 0 := runZ_of hc ⟨_, 0, _, hq, by rw [h2]; exact hb, rfl⟩
  refine ⟨hc, ?_, ?_, ?_⟩
  · rw [hr, hk.eq]; cases ho : s.out with
    | none => rw [stopped_none ho, stopped_none (s := s.late 1) ho]; rfl
    | some o => rw [stopped_some ho, stopped_some (s := s.late 1) ho]; rfl
  · rw [hr, hk.eq, stopped_evs, stopped_evs]; rfl
  · rw [hr, hk.eq, stopped_steps, stopped_steps]; show 1 + s.steps = _; omega
theorem run_exec_buildSlice {P : Program} {o : Oper} {w w1 : World} {ρ : Operand → Value} {t : TypeId} {n : Nat} (ps : List (Nat × Operand)) (ho : o.op = .buildSlice t n ps.toArray) {v : Value} (hv : (Instr.buildSlice t n (ps.map fun (i, x) => (i, ρ x)).toArray).run P w = .ok v w1) : (execOp ρ o).run P w = .ok (.value v) w1 := by
  simp only [execOp, ho, Sem.run_bind, List.map_toArray, hv, Result.andThen_ok, Sem.run_pure]
/-! A slice from 1 on, and put behind a literal. -/
theorem info_node : (Try.prog.info? 44).map (fun i => (i.zero, i.size, i.bytes)) = some (some (.agg #[.int .i64 0, .int .i64 0]), 2, 16) := by kernel_rfl
theorem ndcells_len (l : List Nd) : (l.flatMap Nd.cells).length = l.length * 2 := by
  induction l with
  | nil => rfl
  | cons x l ih => simp only [List.flatMap_cons, List.length_append, List.length_cons, ih]; simp [Nd.cells]; omega
theorem ndcells_one (l : List Nd) : ∀ u ∈ l.flatMap Nd.cells, u.oneCell' = true := by
  intro u hu
  obtain ⟨x, _, hx⟩ := List.mem_flatMap.1 hu
  simp only [Nd.cells, List.mem_cons, List.not_mem_nil, or_false] at hx
  rcases hx with rfl | rfl <;> rfl
theorem own_lit (w : World) (t : TypeId) (n size : Nat) (cs : List Value) (hl : cs.length = n * size) (hn : n ≤ maxLen) : (w.alloc (.cells cs.toArray t)).ownsRow w.heap.size t size (.slice (some ⟨w.heap.size, 0, none⟩) n n) n cs :=
  ⟨hl, .inr ⟨w.heap.size, n, cs.toArray, rfl, Nat.le_refl _, Row.new _ _ _, Nat.le_refl _, hn, by simpa using hl, by simp [List.take_of_length_le (Nat.le_of_eq hl)]⟩⟩
theorem tail_at {W : World} {A : Option Addr} {cap : Nat} {bd : Addr} {l : List Nd} (hr : Rd W A (l.flatMap Nd.cells)) (hA : A = some bd) (hc : l.length ≤ cap) (h0 : l.length ≠ 0) :
    ∃ X, (if cap = 1 then some bd else some (⟨bd.block, bd.off + 2, none⟩ : Addr)) = some X ∧ Rd W (some X) (l.tail.flatMap Nd.cells) := by
  subst hA
  refine ⟨if cap = 1 then bd else bd.add 2, by split <;> simp [Addr.add], fun j u hj => ⟨_, rfl, ?_⟩⟩
  have hjl := (List.getElem?_eq_some_iff.1 hj).1
  rw [ndcells_len, List.length_tail] at hjl
  rw [if_neg (by omega)]
  match l, h0 with
  | x :: l, _ =>
    obtain ⟨ad, e, h⟩ := hr (2 + j) u (by
      rw [List.flatMap_cons, List.getElem?_append_right (by simp [Nd.cells])]
      simpa [Nd.cells] using hj)
    injection e with e
    subst e
    rw [add_add']; exact h
end Go.Proofs.Ytlglilmgklipdaa
