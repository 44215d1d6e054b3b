/- What a slice reads as: its cells, one behind the other; openings of slices and of structs of integers. Conditions: none beyond each law's own. -/
import Derived.Test.YtkdcelnlhhodlaaGen
import Derived.Test.YtkdcelnlhhodlaaLeb
import Derived.Deep.Slices
import Derived.ProofKit
import Derived.OpenShut
import Derived.ChangeSame
namespace Go.Proofs.Ytkdcelnlhhodlaa
open Go.ChangeShapes Go.WideShapes Go.RowKit Go.Deep

theorem add_block (a : Addr) (n : Nat) : (a.add n).block = a.block := by unfold Addr.add; split <;> rfl
theorem add_add' (a : Addr) (i j : Nat) : (a.add i).add j = a.add (i + j) := by
  unfold Addr.add
  by_cases hi : i = 0 <;> by_cases hj : j = 0 <;> simp [hi, hj, Nat.add_assoc]

/-- The cells from A on are xs. -/
def Rd (w : World) (A : Option Addr) (xs : List Value) : Prop := ∀ j u, xs[j]? = some u → ∃ ad, A = some ad ∧ w.cell? (ad.add j) = some u
theorem Rd.nil (w : World) (A : Option Addr) : Rd w A [] := fun j u h => by simp at h
theorem Rd.go {w w' : World} {A : Option Addr} {xs : List Value} (h : Rd w A xs) (b : Below w.heap.size w w') : Rd w' A xs := fun j u hj => by
  obtain ⟨ad, e, hc⟩ := h j u hj
  exact ⟨ad, e, (b.cell (World.block_lt_of_cell? _ _ hc)).trans hc⟩
instance St.rd {A : Option Addr} {xs : List Value} : St (fun W => Rd W A xs) := ⟨fun h b => h.go b⟩
theorem Rd.part {w : World} {A : Option Addr} {xs : List Value} (h : Rd w A xs) (k : Nat) (cs : List Value) (hk : ∀ j u, cs[j]? = some u → xs[k + j]? = some u) (hne : cs ≠ []) :
    ∃ ad, A = some ad ∧ ∀ j u, cs[j]? = some u → w.cell? ((ad.add k).add j) = some u := by
  match cs, hne with
  | c :: cs, _ =>
    obtain ⟨ad, e, _⟩ := h k c (hk 0 c rfl)
    refine ⟨ad, e, fun j u hj => ?_⟩
    obtain ⟨ad', e', hc⟩ := h (k + j) u (hk j u hj)
    obtain rfl : ad = ad' := by rw [e] at e'; injection e'
    rw [add_add']; exact hc

section
variable {H : Type} {enc : TypeId × Value → H} {P : Program} {w : World} {base : Nat} {spare : Nat → Bool} {held : Bool}

/-- A slice: its elements' cells, each read by itself. -/
theorem open_rows {t e : TypeId} {fuel : Nat} {cs : List Value} {x : DataW H × List MemPlace} (ht : P.underlying t = some (.slice e)) (h : DataW.trod enc P w base spare held fuel t cs = some x) :
    ∃ (A : Option Addr) (cap : Nat) (xss : List (List Value)), cs = [.slice A xss.length cap] ∧ xss.length ≤ cap ∧ cap ≤ maxLen ∧ (A = none → cap = 0) ∧ (∀ xs ∈ xss, xs.length = P.cellsOf e) ∧ Rd w A xss.flatten ∧ ∀ xs ∈ xss, ∃ n y, DataW.trod enc P w base spare held n e xs = some y := by
  rcases open_slice ht h with ⟨rfl, _⟩ | ⟨a, len, cap, m, n, D, Pl, rfl, hb, hl, hm, hmm, _, hi⟩
  · exact ⟨none, 0, [], rfl, Nat.le_refl _, Nat.zero_le _, fun _ => rfl, fun _ h => by simp at h, Rd.nil _ _, fun _ h => by simp at h⟩
  · have hlm : len ≤ m := by rw [hmm]; split <;> omega
    have hi' : ∀ i, i < len → ∃ cs', w.cells? base (a.add (i * P.cellsOf e)) (P.cellsOf e) = some cs' ∧ ∃ y, DataW.trod enc P w base spare held n e cs' = some y := fun i h => by
      obtain ⟨cs', h1, h2⟩ := hi i (by omega)
      exact ⟨cs', h1, _, h2⟩
    clear hi hmm hlm
    have key : ∀ k, k ≤ len → ∃ xss : List (List Value), xss.length = k ∧ (∀ xs ∈ xss, xs.length = P.cellsOf e) ∧ Rd w (some a) xss.flatten ∧ ∀ xs ∈ xss, ∃ n y, DataW.trod enc P w base spare held n e xs = some y := by
      intro k
      induction k with
      | zero => intro _; exact ⟨[], rfl, fun _ h => by simp at h, Rd.nil _ _, fun _ h => by simp at h⟩
      | succ k ih =>
        intro hk
        obtain ⟨xss, h1, h2, h3, h4⟩ := ih (by omega)
        obtain ⟨cs', hc, y, hy⟩ := hi' k (by omega)
        obtain ⟨_, hcl, hat⟩ := World.cells?_some hc
        have hfl : xss.flatten.length = k * P.cellsOf e := by
          rw [← h1]; clear h1 h3 h4 ih
          induction xss with
          | nil => simp
          | cons x xss ih => simp only [List.flatten_cons, List.length_append, List.length_cons]; rw [ih (fun xs hxs => h2 xs (by simp [hxs])), h2 x (by simp), Nat.succ_mul]; omega
        refine ⟨xss ++ [cs'], by simp [h1], fun xs hxs => ?_, fun j u hj => ?_, fun xs hxs => ?_⟩
        · rcases List.mem_append.1 hxs with h | h
          · exact h2 xs h
          · rw [List.mem_singleton.1 h]; exact hcl
        · rw [List.flatten_append] at hj
          by_cases hjl : j < xss.flatten.length
          · rw [List.getElem?_append_left hjl] at hj; exact h3 j u hj
          · rw [List.getElem?_append_right (by omega)] at hj
            simp only [List.flatten_cons, List.flatten_nil, List.append_nil] at hj
            have hlt : j - xss.flatten.length < cs'.length := (List.getElem?_eq_some_iff.1 hj).1
            refine ⟨a, rfl, ?_⟩
            have := hat (j - xss.flatten.length) (by omega)
            rw [hj, hfl] at this
            rw [← this, add_add', show k * P.cellsOf e + (j - k * P.cellsOf e) = j from by omega]
        · rcases List.mem_append.1 hxs with h | h
          · exact h4 xs h
          · rw [List.mem_singleton.1 h]; exact ⟨n, y, hy⟩
    obtain ⟨xss, h1, h2, h3, h4⟩ := key len (Nat.le_refl _)
    subst h1
    exact ⟨some a, cap, xss, rfl, hl, hm, fun h => by simp at h, h2, h3, h4⟩

/-- Each element as a datum of mine. -/
theorem rows_map {α : Type} (enc' : α → List Value) (ok : α → Prop) : ∀ (xss : List (List Value)), (∀ xs ∈ xss, ∃ a, xs = enc' a ∧ ok a) → ∃ l : List α, xss = l.map enc' ∧ ∀ a ∈ l, ok a
  | [], _ => ⟨[], rfl, fun _ h => by simp at h⟩
  | x :: xss, h => by
    obtain ⟨a, rfl, ha⟩ := h x (by simp)
    obtain ⟨l, rfl, hl⟩ := rows_map enc' ok xss (fun xs hxs => h xs (by simp [hxs]))
    refine ⟨a :: l, rfl, fun b hb => ?_⟩
    rcases List.mem_cons.1 hb with rfl | h
    · exact ha
    · exact hl b h

theorem trod_i64 {t : TypeId} {fuel : Nat} {cs : List Value} {x : DataW H × List MemPlace} (ht : P.underlying t = some (.int .i64)) (h : DataW.trod enc P w base spare held fuel t cs = some x) : ∃ n, cs = [.int .i64 n] ∧ InI n := by
  obtain ⟨n, rfl, _, hw⟩ := DataW.trod_int ht h
  have := bounds_i64 hw
  exact ⟨n, rfl, by unfold InI; omega⟩

theorem trod_field {t : TypeId} {fs : Array Field} {fuel : Nat} {cs : List Value} {x : DataW H × List MemPlace} (ht : P.underlying t = some (.struct fs)) (h : DataW.trod enc P w base spare held fuel t cs = some x) :
    cs.length = P.cellsOf t ∧ ∃ n, ∀ (i : Nat) (f : Field), fs[i]? = some f → ∃ y, DataW.trod enc P w base spare held n f.type ((cs.drop f.offset).take (P.cellsOf f.type)) = some y := by
  obtain ⟨xs, n, _, _, hl, hxs, hf⟩ := DataW.trod_struct ht h
  refine ⟨hl, n, fun i f hi => ?_⟩
  have hil : i < xs.length := by rw [hxs]; exact (Array.getElem?_eq_some_iff.1 hi).1
  exact ⟨xs[i], (hf i f hi).trans (List.getElem?_eq_getElem hil)⟩
theorem trod_val {t : TypeId} {fs : Array Field} {r : Reach} {b0 : Nat} {v : Value} {d : DataW H} {p : List MemPlace} (ht : P.underlying t = some (.struct fs)) (hv : Value.okWide P w r b0 t v) (h : DataW.Trod enc P w base spare held t v d p) :
    ∃ cs : List Value, v = .agg cs.toArray ∧ ∃ fuel x, DataW.trod enc P w base spare held fuel t cs = some x := by
  obtain ⟨cs, rfl, _⟩ := okWide_struct ht hv
  obtain ⟨fuel, hf⟩ := h
  exact ⟨cs.toList, rfl, fuel, _, hf⟩
end
end Go.Proofs.Ytkdcelnlhhodlaa
