/- The walk over package leb: Put. -/
import Derived.Test.YtkdcelnlhhodlaaLebA
import Derived.Test.YtkdcelnlhhodlaaDump
import Derived.Maps.OwnIn
namespace Go.Proofs.Ytkdcelnlhhodlaa
open Go.RowKit Go.Deep
attribute [local go_sem] Oper.semAt_some

theorem digits_any (n : Nat) (w : World) :
    Calls Try.prog 39 #[.int .u64 n] w fun e w' => e = .returned (.func (.func 45) #[] #[.pointer (some ⟨w.heap.size, 0, none⟩)]) ∧ w.alloc (.cells #[.int .u64 n] 39) = w' := by
  go_enter Try.func39, Try.ntmps39
  go_wp2
  go_ret
  exact ⟨rfl, rfl⟩

/-- A row that the call owns is no block of another type. -/
theorem own_ne {w : World} {base size n g : Nat} {e t : TypeId} {v : Value} {xs : List Value} {cs : Array Value} (h : w.ownsRow base e size v n xs) (hg : Row w g t cs) (hne : e ≠ t) : v.ownBlock ≠ some g := by
  rcases h.2 with ⟨rfl, _⟩ | ⟨g', cap, cur, rfl, _, hh, _⟩
  · simp [Value.ownBlock]
  · intro he
    have : g' = g := by simpa [Value.ownBlock] using he
    subst this
    rw [Row, hh] at hg
    injection hg with hg
    injection hg with _ ht
    exact hne ht
theorem own_below {w w' : World} {base size n : Nat} {e : TypeId} {v : Value} {xs : List Value} (h : w.ownsRow base e size v n xs) (b : Below w.heap.size w w') : w'.ownsRow base e size v n xs :=
  h.kept (row := none) ⟨b.os, b.tape, b.output, b.size, fun k hk _ => b.block k hk⟩ (by cases hv : v.ownBlock <;> simp)
instance St.own {base size n : Nat} {e : TypeId} {v : Value} {xs : List Value} : St (fun W => W.ownsRow base e size v n xs) := ⟨fun h b => own_below h b⟩
theorem Row.grown {w w' : World} {g : Nat} {t : TypeId} {cs : Array Value} {row : Option Nat} (h : Row w g t cs) (b : w.grownBy w' row) (hne : row ≠ some g) : Row w' g t cs := (b.block g h.lt (fun e => hne e.symm)).trans h
theorem own_only {w w' : World} {base size n g : Nat} {e : TypeId} {v : Value} {xs : List Value} (h : w.ownsRow base e size v n xs) (o : Only g w w') (hne : v.ownBlock ≠ some g) : w'.ownsRow base e size v n xs :=
  h.kept (row := some g) ⟨o.os, o.tape, o.output, Nat.le_of_eq o.size.symm, fun k _ hk => o.block k (fun e => hk (by rw [e]))⟩ (.inr hne)
theorem only_set (w : World) (g i : Nat) (u : Value) : Only g w (w.setCell ⟨g, i, none⟩ u) := ⟨rfl, rfl, rfl, by simp [World.setCell], fun k hk => Below.heap_setCell w ⟨g, i, none⟩ u k hk⟩

theorem own_cells {w : World} {base size n r : Nat} {e : TypeId} {v : Value} {xs : List Value} {o : Obj} (h : w.ownsRow base e size v n xs) (ho : w.heap[r]? = some o) (hc : o.isCells = false) : v.ownBlock ≠ some r := fun e2 => by
  rcases h.2 with ⟨rfl, _⟩ | ⟨g', cap, cur, rfl, _, hh, _⟩
  · simp [Value.ownBlock] at e2
  · have : g' = r := by simpa [Value.ownBlock] using e2
    subst this
    rw [hh] at ho; cases ho; cases hc
theorem own_slice {w : World} {base size n : Nat} {e : TypeId} {v : Value} {xs : List Value} (h : w.ownsRow base e size v n xs) : ∃ A m c, v = .slice A m c := by
  rcases h.2 with ⟨rfl, _⟩ | ⟨g', cap, cur, rfl, _⟩ <;> exact ⟨_, _, _, rfl⟩
theorem KeepsFrom.of_own {B : Nat} {w w' : World} {base size n : Nat} {e : TypeId} {v : Value} {xs : List Value} (h : w.ownsRow base e size v n xs) (hg : w.grownBy w' v.ownBlock) : KeepsFrom B w w' :=
  ⟨hg.size, fun k o _ hk ho => (hg.block k (Array.getElem?_eq_some_iff.1 hk).1 (fun e => own_cells h hk ho e.symm)).trans hk⟩
theorem KeepsFrom.of_only {B g : Nat} {w w' : World} {t : TypeId} {cs : Array Value} (h : Row w g t cs) (o : Only g w w') : KeepsFrom B w w' :=
  ⟨Nat.le_of_eq o.size.symm, fun k ob _ hk ho => (o.block k (fun e => by subst e; rw [h] at hk; cases hk; cases ho)).trans hk⟩

set_option maxRecDepth 100000 in
set_option maxHeartbeats 2000000 in
theorem lebPut_any (n : Nat) (hn : n < 18446744073709551616) (w : World) :
    Calls Try.prog 27 #[.int .u64 n] w fun e w' => e = .returned (.string ⟨(lebL n).toArray⟩) ∧ Below w.heap.size w w' := by
  have Hn := Lib.hid hn
  clear hn
  obtain ⟨i0, hi0, hz0, hz1, hz2⟩ := info_parts info_u8
  refine (callsIn_wide (n := 0)).1 ?_
  refine callsIn_of_wp_marks Try.func27 rfl trivial ?_
  simp only [Try.ntmps27, List.size_toArray, List.length_cons, List.length_nil, Nat.reduceAdd, Nat.reduceSub, Array.replicate_succ, Array.replicate_zero, List.push_toArray, List.append_toArray, List.nil_append, List.cons_append]
  gi_wp2_with fail
  have rg := Row.new w 57 #[.slice none 0 0]
  have b1 := (Below.refl w.heap.size w).alloc (Nat.le_refl _) (.cells #[.slice none 0 0] 57)
  have l1 := rg.lt
  generalize w.alloc (.cells #[.slice none 0 0] 57) = w1 at rg b1 l1 ⊢
  refine ⟨trivial, rfl, (callsIn_wide.2 (digits_any n w1)).mono ?_⟩
  rintro e w2 ⟨rfl, hw2⟩
  have rb := Row.new w1 39 #[.int .u64 n]
  have rg2 := rg.alloc (.cells #[.int .u64 n] 39)
  have b2 := b1.alloc b1.size (.cells #[.int .u64 n] 39)
  rw [hw2] at rb rg2 b2
  obtain ⟨Bs, hBs⟩ : ∃ Bs, Bs = w1.heap.size := ⟨_, rfl⟩
  rw [← hBs] at rb l1 ⊢
  have lb := rb.lt
  obtain ⟨G, hG⟩ : ∃ G, G = w.heap.size := ⟨_, rfl⟩
  have gG : w.heap.size ≤ G := by omega
  rw [← hG] at rg2 l1 ⊢
  clear hBs hw2 rg b1
  have HG := Lib.hid hG
  clear hG
  have Hseq := Lib.hid (digits1_iter Bs n Hn.out w2 rb)
  gi_wp2
  refine rangeO (gf := 45) (lb := #[.pointer (some ⟨Bs, 0, none⟩)]) rfl (enters_of Try.func45 (by kernel_rfl) rfl) Hseq.out (fun r h => by subst h; omega)
    (fun h k => ⟨k.1.trans h.1, Nat.le_trans h.2 k.2⟩) (fun W l o o' hl ho hc => ⟨by rw [World.putObj_heap_other (by omega)], by simp⟩) (World.grownBy.refl _ _) (fun _ => rfl)
    (fun pre W => ∃ v, Row W G 57 #[v] ∧ W.ownsRow w.heap.size 5 1 v pre.length (u8s pre) ∧ Below w.heap.size w W ∧ v.ownBlock ≠ some Bs ∧ Bs < W.heap.size) (fun _ _ _ => False) ?hI ?hIx ⟨_, rg2, World.ownsRow_nil _ _ _ _, b2, by simp [Value.ownBlock], lb⟩
    (fun x a' W => a' = { tmps := #[.int .u64 n, undef, .string ⟨#[]⟩, .pointer (some ⟨G, 0, none⟩), .int .u8 (x.toNat : Int), .int .u64 n, .func (.func 45) #[] #[.pointer (some ⟨Bs, 0, none⟩)], .int .u8 (x.toNat : Int), undef, undef, undef, undef, undef, undef], defers := [] }) ?hAx ?assign ?body ?done ?stop
  case hI =>
    rintro pre A B row ⟨v, h1, h2, h3, h4, h5⟩ hg hr
    have hrow : ∀ r, row = some r → r ≠ G ∧ v.ownBlock ≠ some r := fun r e => by
      rcases hr r e with h | ⟨h, o, ho, hc⟩
      · have : r = Bs := h
        subst this
        exact ⟨by omega, h4⟩
      · exact ⟨by omega, own_cells h2 ho hc⟩
    refine ⟨v, h1.grown hg (fun e => (hrow G e).1 rfl), h2.kept hg ?_, h3.grown hg h3.size (fun k e => ?_), h4, Nat.lt_of_lt_of_le h5 hg.size⟩
    · cases row with
      | none => cases v.ownBlock <;> simp
      | some r => exact .inr (hrow r rfl).2
    · rcases hr k e with h | ⟨h, _⟩
      · have : k = Bs := h
        omega
      · have := b2.size; omega
  case hIx => exact fun _ _ _ _ _ h _ _ => h
  case hAx => exact fun x a' _ _ _ _ h _ _ => h
  case assign =>
    rintro l pre x W K hI hK
    have HK := Lib.hid hK
    clear hK
    gi_wp2
    exact HK.out _ _ (KeepsFrom.refl _ _) ⟨rfl, Nat.le_refl _⟩ hI rfl
  case body =>
    rintro l pre x a' W hl _ ⟨v, h1, h2, h3, h4, h5⟩ rfl hpl
    have hpl' : pre.length < 10 := hpl
    have hc := h1.cellv (i := 0) (v := v) rfl
    have hf := h1.free 0
    have ha := h2.alloc (.cells #[.int .u8 (x.toNat : Int)] 5)
    have HA := Lib.hid ha
    clear ha
    gi_wp2_with (gi_at_builtin; refine wpListIn_append_own_at _ rfl (.tmp 8) (.tmp 10) 57 rfl w.heap.size 5 i0 (.int .u8 0) 1 1 Try.underlying57 hi0 hz0 hz1 hz2 rfl (by decide) v pre.length (u8s pre) rfl HA.out ⟨W.heap.size, 0, none⟩ 1 1 (u8s [x]) rfl rfl (cells_new _ _ _) (u8s_oneCell _) (by unfold maxLen; omega) (by omega) (by have := h3.size; simp; omega) ?_)
    intro v' W3 hown hg _ hat
    have r3 := (h1.alloc (.cells #[.int .u8 (x.toNat : Int)] 5)).grown hg (own_ne HA.out (h1.alloc _) (by decide))
    have b3 := below_grown_own (h3.alloc h3.size _) HA.out hg (by have := h3.size; simp; omega) (Nat.le_refl _)
    have k3 : KeepsFrom w2.heap.size W W3 := (KeepsFrom.alloc _ W (.cells #[.int .u8 (x.toNat : Int)] 5)).trans (KeepsFrom.of_own HA.out hg)
    have e3 : W3.heap[Bs]? = W.heap[Bs]? := (hg.block Bs (by simp; omega) (fun e => h4 e.symm)).trans (Below.heap_alloc _ _ _ h5)
    have l3 : W.heap.size < W3.heap.size := by have := hg.size; simp at this; omega
    have n3 : v'.ownBlock ≠ some Bs := by
      rcases hat with h | h
      · rw [h]; exact h4
      · rw [h]; intro e; injection e; omega
    obtain ⟨A', m', c', rfl⟩ : ∃ A m c, v' = .slice A m c := own_slice hown
    have hc3 := r3.cellv (i := 0) (v := v) rfl
    have hf3 := r3.free 0
    have nG := own_ne hown r3 (by decide)
    have Hown := Lib.hid hown
    clear hown hg hat hc hf
    gi_wp2
    have o4 := only_set W3 G 0 (.slice A' m' c')
    refine ⟨k3.trans (KeepsFrom.of_only r3 o4), ⟨(o4.block Bs (by omega)).trans e3, by have := o4.size; omega⟩, _, r3.set 0 _, ?_, below_only b3 o4 gG, n3, by have := o4.size; omega⟩
    have := own_only Hown.out o4 nG
    rw [← u8s_append] at this
    simpa using this
  case stop => exact fun D c pre W _ _ h _ => h.elim
  case done =>
    rintro D ys W hD rfl ⟨v, h1, h2, h3, _, _⟩ hK
    have hconv := run_string_of_own (P := Try.prog) 57 9 5 Try.underlying57 Try.underlying5 Try.underlying9 _ h2
    have hc := h1.cellv (i := 0) (v := v) rfl
    have HK := Lib.hid hK
    clear hK h2
    gi_wp2
    refine ⟨by simp, .inl ⟨_, _, rfl, run_takeDeferred HK.out, ?_⟩⟩
    exact ⟨_, results_tmp rfl _ _ _, rfl, h3.grown (grownBy_putObj' _ _ _) h3.size (fun k e => by cases e; have := b2.size; omega)⟩
end Go.Proofs.Ytkdcelnlhhodlaa
