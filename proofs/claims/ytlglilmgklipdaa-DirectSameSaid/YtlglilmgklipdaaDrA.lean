/- The direct walker in memory: what its blocks hold; its end, its cells, its two-number tags. Conditions: stated in each theorem. -/
import Derived.Test.YtlglilmgklipdaaRmA
import Derived.WalkLawsBesides
namespace Go.Proofs.Ytlglilmgklipdaa
set_option linter.unusedVariables false
open Go.RowKit Go.Deep

/-- What is thrown where a run ends. -/
def overV (k v : Int) : Value := .iface 101 (.agg #[.int .i64 k, .int .i64 v])
def thrown (k v : Int) : Ending := .panicked [{ v := overV k v, recovered := false }]
/-- A variable's cell. -/
def cellV (t : Int) (g : Nat) : Value := if sizeZ t = 0 then .iface 82 (.agg #[.pointer (some ⟨g, 0, none⟩)]) else .iface 77 (.slice (some ⟨g, 0, none⟩) (sizeZ t).toNat (sizeZ t).toNat)
/-- What a variable's block holds. -/
def Ms.cont (s : Ms) (i : Nat) (t : Int) : List Int := if sizeZ t = 0 then [(s.vals[i]?).getD 0] else (s.arrs[i]?).getD []
def Lay.dcells (L : Lay) (s : Ms) (ev : Value) : Array Value :=
  #[.slice L.p.ba L.p.body.length L.p.bcap, .slice L.aa L.ab.length L.acap, .int .i64 (L.F : Int), .int .i64 0, .int .i64 0, .int .i64 (s.steps : Int), ev]
structure DR (L : Lay) (s : Ms) (ev : Value) (W : World) : Prop where
  row : Row W L.M 76 (L.dcells s ev)
  evs : W.ownsRow L.b1 41 3 ev s.evs.length (s.evs.flatMap EvV.cells)
  rows : ∀ (i g : Nat) (t : Int), L.ab[i]? = some g → L.p.V[i]? = some t → Row W g 3 (ints (s.cont i t)).toArray
  im : L.Im W
  size : L.b1 ≤ W.heap.size
  sum : s.steps + s.fuel = L.F
  few : s.evs.length ≤ s.steps
structure DOk (L : Lay) : Prop extends LOk0 L where
  pok : ∀ W, L.Im W → L.p.ok W
  cells : ∀ W, L.Im W → ∀ (i g : Nat) (t : Int), L.ab[i]? = some g → L.p.V[i]? = some t → ∃ ad : Addr, L.aa = some ad ∧ W.cell? (ad.add i) = some (cellV t g)
  alen : L.ab.length = L.p.V.length
  vv : L.vv = .slice none 0 0
instance {L : Lay} : Coe (DOk L) (LOk0 L) := ⟨DOk.toLOk0⟩
section
variable {L : Lay} {s s' : Ms} {ev : Value} {W W' : World}
theorem DR.below (h : DR L s ev W) (hL : LOk0 L) (b : Below W.heap.size W W') : DR L s ev W' :=
  ⟨h.row.below b h.row.lt, own_below h.evs b, fun i g t h1 h2 => (h.rows i g t h1 h2).below b (h.rows i g t h1 h2).lt, hL.im _ _ h.im (.below (b.mono h.size)), Nat.le_trans h.size b.size, h.sum, h.few⟩
theorem DR.drew (h : DR L s ev W) (hL : LOk0 L) (n : Nat) : DR L s ev (W.drewN n) := h.below hL ⟨rfl, rfl, rfl, Nat.le_refl _, fun _ _ => rfl⟩
theorem DR.setM (h : DR L s ev W) (hL : LOk0 L) (o : Only L.M W W') (hr : Row W' L.M 76 (L.dcells s' ev)) (h1 : s'.vals = s.vals) (h2 : s'.arrs = s.arrs) (h3 : s'.evs = s.evs) (h4 : s'.steps + s'.fuel = L.F) (h5 : s.steps ≤ s'.steps) : DR L s' ev W' :=
  ⟨hr, by rw [h3]; exact own_only h.evs o (fun e => by have := own_lo h.evs e; have := hL.lt; omega), fun i g t a b => by have := (h.rows i g t a b).only o (hL.alt g (List.mem_of_getElem? a)).2; unfold Ms.cont at this ⊢; rw [h1, h2]; exact this,
    hL.im _ _ h.im (.only o (.inr (.inl rfl))), by rw [o.size]; exact h.size, h4, by rw [h3]; have := h.few; omega⟩
theorem DR.far_new (h : DR L s ev W) {g : Nat} {W' : World} (hg : W.heap.size ≤ g) (hlt : g < W'.heap.size) : Far L ev W' g :=
  ⟨Nat.le_trans h.size hg, fun e => by have := h.evs.lt _ e; omega, hlt⟩
/-- A variable's block is another. -/
theorem DR.setB (h : DR L s ev W) (hL : LOk0 L) {n g : Nat} {t : Int} (hg : L.ab[n]? = some g) (ht : L.p.V[n]? = some t) (o : Only g W W') (hr : Row W' g 3 (ints (s'.cont n t)).toArray)
    (hv : ∀ i, i ≠ n → s'.vals[i]? = s.vals[i]? ∧ s'.arrs[i]? = s.arrs[i]?) (h3 : s'.evs = s.evs) (h4 : s'.steps = s.steps) (h5 : s'.fuel = s.fuel) : DR L s' ev W' := by
  have hm := List.mem_of_getElem? hg
  have hlt := hL.alt g hm
  refine ⟨?_, by rw [h3]; exact own_only h.evs o (fun e => by have := own_lo h.evs e; omega), fun i g' t' hi ht' => ?_, hL.im _ _ h.im (.only o (.inr (.inr (.inr hm)))), by rw [o.size]; exact h.size, by rw [h4, h5]; exact h.sum, by rw [h3, h4]; exact h.few⟩
  · have := h.row.only o (fun e => hlt.2 e.symm)
    unfold Lay.dcells at this ⊢
    rw [h4]; exact this
  · by_cases hin : i = n
    · subst hin
      rw [hg] at hi; rw [ht] at ht'
      cases hi; cases ht'
      exact hr
    · have hgg : g' ≠ g := by
        intro e
        subst e
        obtain ⟨l1, e1⟩ := List.getElem?_eq_some_iff.1 hg
        obtain ⟨l2, e2⟩ := List.getElem?_eq_some_iff.1 hi
        rcases Nat.lt_trichotomy i n with hl | hl | hl
        · exact absurd (e2.trans e1.symm) (List.pairwise_iff_getElem.1 hL.and i n l2 l1 hl)
        · exact hin hl
        · exact absurd (e1.trans e2.symm) (List.pairwise_iff_getElem.1 hL.and n i l1 l2 hl)
      have := (h.rows i g' t' hi ht').only o hgg
      unfold Ms.cont at this ⊢
      rw [(hv i hin).1, (hv i hin).2]; exact this
theorem RChg.onlyB {g : Nat} (o : Only g W W') (hg : g ∈ L.ab) : RChg L ev W ev W' := RChg.only o (.inr (.inr hg))
end

theorem end_dir (k v : Int) (w : World) : Calls Try.prog 97 #[.int .i64 k, .int .i64 v] w fun e w' => e = thrown k v ∧ w = w' := by
  go_enter Try.func97, Try.ntmps97
  go_wp2
  exact ⟨rfl, rfl, rfl⟩
theorem as_any (b : Bool) (w : World) : Calls Try.prog 99 #[.bool b] w fun e w' => e = .returned (.int .i64 (tr b)) ∧ w = w' := by
  cases b
  all_goals
    go_enter Try.func99, Try.ntmps99
    go_wp2
    go_ret
    exact ⟨rfl, rfl⟩
set_option maxRecDepth 100000 in
set_option maxHeartbeats 4000000 in
theorem both_any (tag a b c : Int) (w : World) (ht : 7 ≤ tag ∧ tag ≤ 17) (hp : pairT tag a b = some c) : Calls Try.prog 102 #[.int .i64 tag, .int .i64 a, .int .i64 b] w fun e w' => e = .returned (.int .i64 c) ∧ w = w' := by
  have key : tag = 7 ∨ tag = 8 ∨ tag = 9 ∨ tag = 12 ∨ tag = 13 ∨ tag = 14 ∨ tag = 15 ∨ tag = 16 ∨ tag = 17 ∨ tag = 10 ∨ tag = 11 := by omega
  clear ht
  rcases key with rfl | rfl | rfl | rfl | rfl | rfl | rfl | rfl | rfl | rfl | rfl
  · have hc : wrap64 (a + b) = c := by simpa [pairT] using hp
    subst hc; clear hp
    go_enter Try.func102, Try.ntmps102
    go_wp2
    go_ret
    exact ⟨ret_i (by first | rfl | simp), rfl⟩
  · have hc : wrap64 (a - b) = c := by simpa [pairT] using hp
    subst hc; clear hp
    go_enter Try.func102, Try.ntmps102
    go_wp2
    go_ret
    exact ⟨ret_i (by first | rfl | simp), rfl⟩
  · have hc : wrap64 (a * b) = c := by simpa [pairT] using hp
    subst hc; clear hp
    go_enter Try.func102, Try.ntmps102
    go_wp2
    go_ret
    exact ⟨ret_i (by first | rfl | simp), rfl⟩
  · have hc : tr (decide (a = b)) = c := by simpa [pairT] using hp
    clear hp
    go_enter Try.func102, Try.ntmps102
    go_wp2_with fail
    refine (as_any _ _).mono ?_
    rintro e w' ⟨rfl, rfl⟩
    go_wp2
    go_ret
    exact ⟨ret_i (by rw [← hc]; all_goals (first | (congr 1; done) | (congr 1; rw [Bool.eq_iff_iff]; simp))), rfl⟩
  · have hc : tr (decide (a ≠ b)) = c := by simpa [pairT] using hp
    clear hp
    go_enter Try.func102, Try.ntmps102
    go_wp2_with fail
    refine (as_any _ _).mono ?_
    rintro e w' ⟨rfl, rfl⟩
    go_wp2
    go_ret
    exact ⟨ret_i (by rw [← hc]; all_goals (first | (congr 1; done) | (congr 1; rw [Bool.eq_iff_iff]; simp))), rfl⟩
  · have hc : tr (decide (a < b)) = c := by simpa [pairT] using hp
    clear hp
    go_enter Try.func102, Try.ntmps102
    go_wp2_with fail
    refine (as_any _ _).mono ?_
    rintro e w' ⟨rfl, rfl⟩
    go_wp2
    go_ret
    exact ⟨ret_i (by rw [← hc]; all_goals (first | (congr 1; done) | (congr 1; rw [Bool.eq_iff_iff]; simp))), rfl⟩
  · have hc : tr (decide (a ≤ b)) = c := by simpa [pairT] using hp
    clear hp
    go_enter Try.func102, Try.ntmps102
    go_wp2_with fail
    refine (as_any _ _).mono ?_
    rintro e w' ⟨rfl, rfl⟩
    go_wp2
    go_ret
    exact ⟨ret_i (by rw [← hc]; all_goals (first | (congr 1; done) | (congr 1; rw [Bool.eq_iff_iff]; simp))), rfl⟩
  · have hc : tr (decide (b < a)) = c := by simpa [pairT] using hp
    clear hp
    go_enter Try.func102, Try.ntmps102
    go_wp2_with fail
    refine (as_any _ _).mono ?_
    rintro e w' ⟨rfl, rfl⟩
    go_wp2
    go_ret
    exact ⟨ret_i (by rw [← hc]; all_goals (first | (congr 1; done) | (congr 1; rw [Bool.eq_iff_iff]; simp))), rfl⟩
  · have hc : tr (decide (b ≤ a)) = c := by simpa [pairT] using hp
    clear hp
    go_enter Try.func102, Try.ntmps102
    go_wp2_with fail
    refine (as_any _ _).mono ?_
    rintro e w' ⟨rfl, rfl⟩
    go_wp2
    go_ret
    exact ⟨ret_i (by rw [← hc]; all_goals (first | (congr 1; done) | (congr 1; rw [Bool.eq_iff_iff]; simp))), rfl⟩
  · by_cases h0 : b = 0
    · simp [pairT, h0] at hp
    have hc : wrap64 (a.tdiv b) = c := by simpa [pairT, h0] using hp
    subst hc; clear hp
    go_enter Try.func102, Try.ntmps102
    go_wp2
    go_ret
    exact ⟨ret_i (by first | rfl | simp), rfl⟩
  · by_cases h0 : b = 0
    · simp [pairT, h0] at hp
    have hc : a.tmod b = c := by simpa [pairT, h0] using hp
    subst hc; clear hp
    go_enter Try.func102, Try.ntmps102
    go_wp2
    go_ret
    exact ⟨ret_i (by first | rfl | simp), rfl⟩
set_option maxRecDepth 100000 in
set_option maxHeartbeats 4000000 in
theorem bothNo_any (tag a b : Int) (w : World) (hp : pairT tag a b = none) : Calls Try.prog 102 #[.int .i64 tag, .int .i64 a, .int .i64 b] w fun e w' => e = thrown 1 0 ∧ w = w' := by
  have hb : b = 0 ∧ (tag = 10 ∨ tag = 11) := by
    unfold pairT at hp
    repeat' split at hp
    all_goals (first | (cases hp; done) | (refine ⟨?_, ?_⟩ <;> first | assumption | omega))
  obtain ⟨rfl, ht⟩ := hb
  clear hp
  rcases ht with rfl | rfl
  all_goals
    go_enter Try.func102, Try.ntmps102
    go_wp2_with fail
    refine (end_dir _ _ _).mono ?_
    rintro e w' ⟨rfl, rfl⟩
    simp only [thrown]
    go_wp2
    exact ⟨rfl, rfl, rfl⟩
end Go.Proofs.Ytlglilmgklipdaa
