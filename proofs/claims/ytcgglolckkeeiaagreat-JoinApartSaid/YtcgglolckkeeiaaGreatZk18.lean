/- Lemmas for JnBll. -/
import Derived.Test.YtcgglolckkeeiaaGreatZk17
import Derived.Test.YtcgglolckkeeiaaGreatZk10
import Derived.Test.YtcgglolckkeeiaaGreatZk12
namespace Go.Proofs.YtcgglolckkeeiaaGreat
set_option linter.unusedVariables false
open Go.RowKit Go.Deep
theorem putCells_all (d : Array Int) (cs : Array Value) (h : cs.size = d.size) : Sort.putCells (Value.int .i64) 0 d cs = d.map (Value.int .i64) := by
 unfold Sort.putCells
 apply Array.ext
 · simp [h]
 · intro i h1 h2
   have hi : i < d.size := by simpa using h2
   simp [hi]
theorem only_putRow {w : World} {g : Nat} {t : TypeId} {cs : Array Value} (hr : Row w g t cs) (d : Array Int) (h : cs.size = d.size) : Row (Sort.putRow (Value.int .i64) w g 0 d) g t (d.map (Value.int .i64)) ∧ Only g w (Sort.putRow (Value.int .i64) w g 0 d) := by
 unfold Sort.putRow Sort.mapBlock
 refine ⟨?_, rfl, rfl, rfl, by simp, fun k hk => ?_⟩
 · show (w.heap.modify g _)[g]? = _
   rw [Array.getElem?_modify, if_pos rfl, show w.heap[g]? = some (.cells cs t (0, 0)) from hr]
   simp [Sort.onCells, putCells_all d cs h]
 · show (w.heap.modify g _)[k]? = _
   rw [Array.getElem?_modify, if_neg (Ne.symm hk)]
theorem holds_row {w : World} {g : Nat} {t : TypeId} {l : List Int} (hr : Row w g t (ints l).toArray) : Sort.Holds (Value.int .i64) w g 0 l.toArray := fun j hj => by
 have hj' : j < l.length := by simpa using hj
 refine ⟨?_, by have := hr.free (0 + j); exact this⟩
 have := hr.cellv (i := j) (v := .int .i64 l[j]) (by simp [ints, hj'])
 rw [Nat.zero_add, this]; simp [hj']
theorem ints_arr (l : List Int) : l.toArray.map (Value.int .i64) = (ints l).toArray := by simp [ints]
structure OnRow (g : Nat) (w w' : World) : Prop where
 gr : w.grownBy w' (some g)
theorem OnRow.trans {g : Nat} {a b c : World} (h : OnRow g a b) (k : OnRow g b c) : OnRow g a c := ⟨⟨k.gr.os.trans h.gr.os, k.gr.tape.trans h.gr.tape, k.gr.output.trans h.gr.output, Nat.le_trans h.gr.size k.gr.size, fun i hi hx => (k.gr.block i (Nat.lt_of_lt_of_le hi h.gr.size) hx).trans (h.gr.block i hi hx)⟩⟩
theorem OnRow.of_below {g : Nat} {a b : World} (h : Below a.heap.size a b) : OnRow g a b := ⟨⟨h.os, h.tape, h.output, h.size, fun i hi _ => h.block i hi⟩⟩
theorem OnRow.of_only {g : Nat} {a b : World} (h : Only g a b) : OnRow g a b := ⟨⟨h.os, h.tape, h.output, Nat.le_of_eq h.size.symm, fun i _ hx => h.block i (fun e => hx (by rw [e]))⟩⟩
theorem OnRow.below {g B : Nat} {a b : World} (h : OnRow g a b) (hg : B ≤ g) (hB : B ≤ a.heap.size) : Below B a b := ⟨h.gr.os, h.gr.tape, h.gr.output, h.gr.size, fun i hi => h.gr.block i (by omega) (fun e => by injection e; omega)⟩
theorem OnRow.row {g k : Nat} {a b : World} {t : TypeId} {cs : Array Value} (h : OnRow g a b) (hr : Row a k t cs) (hk : k ≠ g) : Row b k t cs := (h.gr.block k hr.lt (fun e => hk (by injection e))).trans hr
theorem sortI_any (g cap : Nat) (l : List Int) (w : World) (hr : Row w g 3 (ints l).toArray) (hl : l.length ≤ 1000) :
 Calls Tryz.prog 241 #[.slice (some ⟨g, 0, none⟩) l.length cap] w fun e w' => e = .returned (.tuple #[]) ∧ Row w' g 3 (ints (l.mergeSort fun x y => decide (x ≤ y))).toArray ∧ OnRow g w w' := by
 refine (slices_Sort_int g 0 cap l w (holds_row hr) hr.lt (by omega)).mono ?_
 rintro e w' ⟨rfl, n, os, rfl⟩
 have h1 : Row (Sort.ahead w n) g 3 (ints l).toArray := hr.drewN n
 obtain ⟨h2, h3⟩ := only_putRow h1 (l.mergeSort fun x y => decide (x ≤ y)).toArray (by simp [ints])
 rw [ints_arr] at h2
 have hb : Below w.heap.size w (Sort.ahead w n) := below_drewN (Below.refl _ _) n
 have hg : ∀ (W : World) (os : Array Obj), Below W.heap.size W (Sort.grow W os) := fun W os => ⟨rfl, rfl, rfl, by simp [Sort.grow], fun k hk => by simp [Sort.grow, Array.getElem?_append_left hk]⟩
 exact ⟨rfl, h2.below (hg _ _) h2.lt, (OnRow.of_below hb).trans ((OnRow.of_only h3).trans (OnRow.of_below (hg _ _)))⟩
theorem compactI_any (g cap : Nat) (l : List Int) (w : World) (hr : Row w g 3 (ints l).toArray) (hl : l.length ≤ 1000) (hc : l.length ≤ cap) :
 Calls Tryz.prog 242 #[.slice (some ⟨g, 0, none⟩) l.length cap] w fun e w' => e = .returned (.slice (some ⟨g, 0, none⟩) (Lib.compact l).length cap) ∧ Row w' g 3 (ints (Lib.compact l ++ List.replicate (l.length - (Lib.compact l).length) 0)).toArray ∧ OnRow g w w' := by
 refine (slices_Compact_int g 0 cap l w (holds_row hr) (by omega) hc).mono ?_
 rintro e w' ⟨rfl, n, rfl⟩
 have h1 : Row (Sort.ahead w n) g 3 (ints l).toArray := hr.drewN n
 have hcl : (Lib.compact l).length ≤ l.length := by
  unfold Lib.compact Lib.compactUpTo
  rw [List.length_map]
  have := List.length_filter_le (Lib.keeps l.toArray) (List.range l.length)
  rwa [List.length_range] at this
 obtain ⟨h2, h3⟩ := only_putRow h1 (Lib.compact l ++ List.replicate (l.length - (Lib.compact l).length) 0).toArray (by simp [ints]; omega)
 rw [ints_arr] at h2
 have hb : Below w.heap.size w (Sort.ahead w n) := below_drewN (Below.refl _ _) n
 exact ⟨rfl, h2, (OnRow.of_below hb).trans (OnRow.of_only h3)⟩
set_option maxRecDepth 100000 in
set_option maxHeartbeats 2000000 in
theorem once1_any (b : Nat) (but x : Int) (w : World) (hr : Row w b 3 #[.int .i64 but]) :
 Calls Tryz.prog 244 #[.int .i64 x, .pointer (some ⟨b, 0, none⟩)] w fun e w' => e = .returned (.bool (x == but)) ∧ w = w' := by
 have c := hr.cellv (i := 0) (v := .int .i64 but) rfl
 go_enter Tryz.func244, Tryz.ntmps244
 go_wp2
 go_ret
 exact ⟨rfl, rfl⟩
theorem row_int {l z : List Int} {k : Nat} {x : Int} (hlt : k < l.length) (hx : l[k]? = some x) : (ints (l ++ z)).toArray[k]? = some (.int .i64 x) := by
 have : (ints (l ++ z))[k]? = some (.int .i64 x) := by rw [ints_append, List.getElem?_append_left (by rw [ints_length]; exact hlt)]; simp [ints, hx]
 simpa using this
theorem take_all_stepI {but : Int} {l : List Int} {k : Nat} {x : Int} (h : ∀ y ∈ l.take k, y ≠ but) (hx : l[k]? = some x) (hp : x ≠ but) : ∀ y ∈ l.take (k + 1), y ≠ but := by
 rw [List.take_add_one, hx]
 intro y hy
 rcases List.mem_append.1 hy with hy | hy
 · exact h y hy
 · simp at hy; subst hy; exact hp
set_option maxRecDepth 100000 in
set_option maxHeartbeats 2000000 in
theorem idxI_any (g cap b : Nat) (but : Int) (l z : List Int) (w : World) (hr : Row w g 3 (ints (l ++ z)).toArray) (hb : Row w b 3 #[.int .i64 but]) (hl : l.length ≤ 1000) :
 Calls Tryz.prog 191 #[.slice (some ⟨g, 0, none⟩) l.length cap, .func (.func 244) #[] #[.pointer (some ⟨b, 0, none⟩)]] w fun e w' => ((∃ i : Nat, e = .returned (.int .i64 (i : Int)) ∧ l[i]? = some but ∧ ∀ x ∈ l.take i, x ≠ but) ∨ (e = .returned (.int .i64 (-1)) ∧ ∀ x ∈ l, x ≠ but)) ∧ w = w' := by
 have Hr := Lib.hid hr
 have Hb := Lib.hid hb
 have hl' : (l.length : Int) ≤ 1000 := by omega
 clear hr hb hl
 go_enter Tryz.func191, Tryz.ntmps191
 go_wp2
 go_loop [8] (fun i => ∃ k : Nat, i = .int .i64 (k : Int) ∧ k ≤ l.length ∧ Hid (∀ x ∈ l.take k, x ≠ but)) (fun i => l.length - (intOf i).toNat)
 case atStart => exact ⟨0, rfl, Nat.zero_le _, Lib.hid (fun x hx => by simp at hx)⟩
 case round =>
  obtain ⟨k, rfl, hk, Hall⟩ := hrel
  by_cases hlt : k < l.length
  · obtain ⟨x, hx⟩ : ∃ x, l[k]? = some x := ⟨_, List.getElem?_eq_getElem hlt⟩
    have hc := Hr.out.cellv (i := k) (v := .int .i64 x) (row_int hlt hx)
    have Hx := Lib.hid hx
    have H1 := Lib.hid (once1_any b but x w Hb.out)
    have hltI : (k : Int) < (l.length : Int) := by omega
    clear hx hlt
    go_wp2_with fail
    refine H1.out.mono ?_
    rintro e w' ⟨rfl, rfl⟩
    by_cases hs : x = but
    · have hs' : (x == but) = true := by simpa using hs
      rw [hs']
      have Hf : Hid (l[k]? = some but) := by show _ = _; rw [Hx.out, hs]
      clear hs hs' H1 hc Hx
      go_wp2_with fail
      go_ret
      exact ⟨.inl ⟨k, rfl, Hf.out, Hall.out⟩, rfl⟩
    · have hs' : (x == but) = false := by simpa using hs
      rw [hs']
      have Hn := Lib.hid (take_all_stepI Hall.out Hx.out hs)
      clear hs hs' H1 hc Hx
      go_wp2_with fail
      go_round
      case rel => exact ⟨k + 1, by go_num, by omega, Hn⟩
      case measure => simp [intOf]; omega
  · obtain rfl : k = l.length := by omega
    have Hf : Hid (∀ x ∈ l, x ≠ but) := by have := Hall.out; rwa [List.take_length] at this
    clear hlt hk
    go_wp2
    go_ret
    exact ⟨.inr ⟨rfl, Hf.out⟩, rfl⟩
structure Del (but : Int) (l z : List Int) (k : Nat) (cs : List Int) : Prop where
 size : cs.length = (l ++ z).length
 head : cs.take ((l.take k).filter (· != but)).length = (l.take k).filter (· != but)
 tail : cs.drop k = (l ++ z).drop k
theorem Del.get {but : Int} {l z : List Int} {k : Nat} {cs : List Int} (h : Del but l z k cs) {x : Int} (hx : l[k]? = some x) : cs[k]? = some x := by
 have hk := (List.getElem?_eq_some_iff.1 hx).1
 have := congrArg (fun m : List Int => m[0]?) h.tail
 simp only [List.getElem?_drop, Nat.add_zero] at this
 rw [this, List.getElem?_append_left hk, hx]
theorem Del.skip {but : Int} {l z : List Int} {k : Nat} {cs : List Int} (h : Del but l z k cs) {x : Int} (hx : l[k]? = some x) (hb : x = but) : Del but l z (k + 1) cs ∧ ((l.take (k + 1)).filter (· != but)).length = ((l.take k).filter (· != but)).length := by
 have e : (l.take (k + 1)).filter (· != but) = (l.take k).filter (· != but) := by rw [List.take_add_one, hx, List.filter_append]; simp [hb]
 refine ⟨⟨h.size, by rw [e]; exact h.head, ?_⟩, by rw [e]⟩
 have := congrArg (fun m : List Int => m.drop 1) h.tail
 simpa [List.drop_drop] using this
theorem Del.put {but : Int} {l z : List Int} {k : Nat} {cs : List Int} (h : Del but l z k cs) {x : Int} (hx : l[k]? = some x) (hb : x ≠ but) (hlt : ((l.take k).filter (· != but)).length < k) : Del but l z (k + 1) (cs.set ((l.take k).filter (· != but)).length x) ∧ ((l.take (k + 1)).filter (· != but)).length = ((l.take k).filter (· != but)).length + 1 := by
 have hk := (List.getElem?_eq_some_iff.1 hx).1
 have e : (l.take (k + 1)).filter (· != but) = (l.take k).filter (· != but) ++ [x] := by rw [List.take_add_one, hx, List.filter_append]; simp [hb]
 have hs := h.size
 rw [List.length_append] at hs
 have hh := h.head
 generalize hn : ((l.take k).filter (· != but)).length = n at *
 refine ⟨⟨by rw [List.length_set]; exact h.size, ?_, ?_⟩, by rw [e, List.length_append, hn]; rfl⟩
 · rw [e, List.length_append, hn, List.length_singleton, List.take_add_one, List.take_set_of_le (Nat.le_refl _), hh]
   congr 1
   rw [List.getElem?_set, if_pos rfl, if_pos (by omega)]; rfl
 · rw [List.drop_set_of_lt (by omega)]
   have := congrArg (fun m : List Int => m.drop 1) h.tail
   simpa [List.drop_drop] using this
theorem Del.start {but : Int} {l z : List Int} {i : Nat} (hi : l[i]? = some but) (hall : ∀ x ∈ l.take i, x ≠ but) : Del but l z (i + 1) (l ++ z) ∧ ((l.take (i + 1)).filter (· != but)).length = i := by
 have hk := (List.getElem?_eq_some_iff.1 hi).1
 have e : (l.take (i + 1)).filter (· != but) = l.take i := by
  rw [List.take_add_one, hi, List.filter_append, List.filter_eq_self.2 (fun x hx => by simpa using hall x hx)]; simp
 have hl : (l.take i).length = i := by rw [List.length_take]; omega
 refine ⟨⟨rfl, ?_, rfl⟩, by rw [e, hl]⟩
 rw [e, hl, List.take_append_of_le_length (by omega)]
theorem clear_row {g : Nat} {t : TypeId} : ∀ (n : Nat) {w : World} {cs : List Value} (o : Nat), Row w g t cs.toArray → o + n ≤ cs.length → ∃ cs' : List Value, Row (w.setCells g o (List.replicate n (.int .i64 0))) g t cs'.toArray ∧ cs'.take o = cs.take o ∧ Only g w (w.setCells g o (List.replicate n (.int .i64 0)))
 | 0, w, cs, o, h, _ => ⟨cs, h, rfl, rfl, rfl, rfl, rfl, fun _ _ => rfl⟩
 | n + 1, w, cs, o, h, hn => by
  have h1 := h.set o (.int .i64 0)
  have o1 := only_set w g o (.int .i64 0)
  rw [show cs.toArray.setIfInBounds o (.int .i64 0) = (cs.set o (.int .i64 0)).toArray by simp] at h1
  obtain ⟨cs', h2, h3, o2⟩ := clear_row n (o + 1) h1 (by simp; omega)
  refine ⟨cs', h2, ?_, ⟨o2.os.trans o1.os, o2.tape.trans o1.tape, o2.output.trans o1.output, o2.size.trans o1.size, fun k hk => (o2.block k hk).trans (o1.block k hk)⟩⟩
  have := congrArg (fun m : List Value => m.take o) h3
  simp only [List.take_take] at this
  rw [show min o (o + 1) = o by omega, List.take_set_of_le (Nat.le_refl _)] at this
  exact this
theorem run_exec_clear {P : Program} {o : Oper} {w w1 : World} {ρ : Operand → Value} {s : Operand} {t : TypeId} (ho : o.op = .call { callee := .builtin .clear, args := #[s], argTypes := #[t] }) {v : Value} (hv : (Builtin.clear_ #[t] o.type #[ρ s]).run P w = .ok v w1) : (execOp ρ o).run P w = .ok (.value v) w1 := by
 unfold execOp
 simp only [ho, resolve, invoke, builtin, Sem.run_bind, Sem.run_pure, Result.andThen_ok, List.map_toArray, List.map_cons, List.map_nil, hv]
set_option maxRecDepth 100000 in
set_option maxHeartbeats 4000000 in
theorem delI_any (g cap b : Nat) (but : Int) (l z : List Int) (w : World) (hr : Row w g 3 (ints (l ++ z)).toArray) (hb : Row w b 3 #[.int .i64 but]) (hgb : b ≠ g) (hl : l.length ≤ 1000) (hc : l.length ≤ cap) (hcm : cap ≤ maxLen) :
 Calls Tryz.prog 243 #[.slice (some ⟨g, 0, none⟩) l.length cap, .func (.func 244) #[] #[.pointer (some ⟨b, 0, none⟩)]] w fun e w' => e = .returned (.slice (some ⟨g, 0, none⟩) (l.filter (· != but)).length cap) ∧ OnRow g w w' ∧ ∃ cs : Array Value, Row w' g 3 cs ∧ ∀ (j : Nat) (u : Value), (ints (l.filter (· != but)))[j]? = some u → cs[j]? = some u := by
 have H1 := Lib.hid (idxI_any g cap b but l z w hr hb hl)
 have Hb := Lib.hid hb
 have Hr := Lib.hid hr
 have hl' : (l.length : Int) ≤ 1000 := by omega
 have hc' : (l.length : Int) ≤ (cap : Int) := by omega
 have hcm' : (cap : Int) ≤ 9223372036854775807 := by unfold maxLen at hcm; omega
 clear hb hr hl hcm
 go_enter Tryz.func243, Tryz.ntmps243
 go_wp2_with fail
 refine H1.out.mono ?_
 clear H1
 rintro e w' ⟨hres, rfl⟩
 rcases hres with ⟨i, rfl, hi, hall⟩ | ⟨rfl, hall⟩
 rotate_left
 · have he : l.filter (· != but) = l := List.filter_eq_self.2 (fun x hx => by simpa using hall x hx)
   have He := Lib.hid he
   clear he hall
   go_wp2_with fail
   go_ret
   refine ⟨by rw [He.out]; rfl, OnRow.of_below (Below.refl _ _), _, Hr.out, fun j u hj => ?_⟩
   rw [He.out] at hj
   rw [ints_append]
   simp only [List.getElem?_toArray]
   rw [List.getElem?_append_left (List.getElem?_eq_some_iff.1 hj).1]; exact hj
 have hil := (List.getElem?_eq_some_iff.1 hi).1
 obtain ⟨hd0, hn0⟩ := Del.start (z := z) hi hall
 have hd : (l.take (i + 1)).filter (· != but) = (l.take (i + 1)).filter (· != but) := rfl
 have Hd0 := Lib.hid hd0
 have Hn0 := Lib.hid hn0
 have hiI : (i : Int) < (l.length : Int) := by omega
 have hne1 : ((i : Int) == -1) = false := by simp
 clear hall hd0 hn0 hi hd
 go_wp2_with fail
 go_loopw [5, 6] (fun a j wr => ∃ (k : Nat) (cs : List Int), j = .int .i64 (k : Int) ∧ a = .int .i64 ((((l.take k).filter (· != but)).length : Nat) : Int) ∧ k ≤ l.length ∧ ((l.take k).filter (· != but)).length < k ∧ Hid (Del but l z k cs) ∧ Row wr g 3 (ints cs).toArray ∧ OnRow g w wr) (fun _ j _ => l.length - (intOf j).toNat)
 case atStart => exact ⟨i + 1, l ++ z, by go_num, by rw [Hn0.out], by omega, by rw [Hn0.out]; omega, Hd0, Hr.out, OnRow.of_below (Below.refl _ _)⟩
 case round =>
  obtain ⟨k, cs, rfl, rfl, hk, hfk, Hd, hrow, hon⟩ := hrel
  by_cases hlt : k < l.length
  · obtain ⟨x, hx⟩ : ∃ x, l[k]? = some x := ⟨_, List.getElem?_eq_getElem hlt⟩
    have hgx := Hd.out.get hx
    have hcx := hrow.cellv (i := k) (v := .int .i64 x) (by simp [ints, hgx])
    have Hc1 := Lib.hid (once1_any b but x wr (hon.row Hb.out hgb))
    have Hx := Lib.hid hx
    have hltI : (k : Int) < (l.length : Int) := by omega
    clear hx hlt hgx
    go_wp2_with fail
    refine Hc1.out.mono ?_
    rintro e w' ⟨rfl, rfl⟩
    by_cases hs : x = but
    · have hs' : (x == but) = true := by simpa using hs
      rw [hs']
      obtain ⟨hd2, hn2⟩ := Hd.out.skip Hx.out hs
      have Hd2 := Lib.hid hd2
      have Hn2 := Lib.hid hn2
      clear hs hs' Hc1 hcx Hx hd2 hn2
      go_wp2_with fail
      go_roundw
      case rel => exact ⟨k + 1, cs, by go_num, by rw [Hn2.out], by omega, by rw [Hn2.out]; omega, Hd2, hrow, hon⟩
      case measure => simp [intOf]; omega
    · have hs' : (x == but) = false := by simpa using hs
      rw [hs']
      obtain ⟨hd2, hn2⟩ := Hd.out.put Hx.out hs hfk
      generalize hn : ((l.take k).filter (· != but)).length = n at *
      have Hd2 := Lib.hid hd2
      have Hn2 := Lib.hid hn2
      have hnI : (n : Int) < (l.length : Int) := by omega
      have hcz : ∃ y, cs[n]? = some y := ⟨_, List.getElem?_eq_getElem (by have := Hd.out.size; rw [List.length_append] at this; omega)⟩
      obtain ⟨y, hy⟩ := hcz
      have hcn := hrow.cellv (i := n) (v := .int .i64 y) (by simp [ints, hy])
      have hfn := hrow.free n
      have o9 := only_set wr g n (.int .i64 x)
      have r9 := hrow.set n (.int .i64 x)
      rw [show (ints cs).toArray.setIfInBounds n (.int .i64 x) = (ints (cs.set n x)).toArray by simp [ints]] at r9
      have on9 := hon.trans (OnRow.of_only o9)
      clear hs hs' Hc1 hcx Hx hd2 hn2 hy hn o9 hrow hon
      go_wp2_with fail
      go_roundw
      case rel => exact ⟨k + 1, cs.set n x, by go_num, by rw [Hn2.out]; go_num, by omega, by rw [Hn2.out]; omega, Hd2, r9, on9⟩
      case measure => simp [intOf]; omega
  · obtain rfl : k = l.length := by omega
    have hfl : (l.take l.length).filter (· != but) = l.filter (· != but) := by rw [List.take_length]
    rw [hfl] at hfk ⊢
    have hsz := Hd.out.size
    have hhd := Hd.out.head
    rw [hfl] at hhd
    rw [List.length_append] at hsz
    generalize hn : (l.filter (· != but)).length = n at *
    have hnI : (n : Int) < (l.length : Int) := by omega
    have hnI2 : (n : Int) ≤ (cap : Int) := by omega
    obtain ⟨cs', h2, h3, o2⟩ := clear_row (l.length - n) (cs := ints cs) n hrow (by rw [ints_length]; omega)
    have hclr := Lib.run_clear_slice (P := Tryz.prog) wr 22 3 0 (.int .i64 0) Tryz.underlying22 (fun W => by kernel_rfl) rfl rfl g n (l.length - n) (cap - n) (by omega) (fun j hj => by
     have hj2 : n + j < cs.length := by omega
     rw [hrow.cellv (i := n + j) (v := .int .i64 cs[n + j]) (by simp [ints, hj2])]; rfl) (fun j hj => hrow.free (n + j))
    have HF : Hid (OnRow g w (wr.setCells g n (List.replicate (l.length - n) (.int .i64 0))) ∧ ∃ cs : Array Value, Row (wr.setCells g n (List.replicate (l.length - n) (.int .i64 0))) g 3 cs ∧ ∀ (j : Nat) (u : Value), (ints (l.filter (· != but)))[j]? = some u → cs[j]? = some u) := ⟨hon.trans (OnRow.of_only o2), _, h2, fun j u hj => by
     have hjn : j < n := by have := (List.getElem?_eq_some_iff.1 hj).1; rw [ints_length] at this; omega
     have e1 : cs'[j]? = (ints cs)[j]? := by
      have := congrArg (fun m : List Value => m[j]?) h3
      simpa [List.getElem?_take, hjn] using this
     have e2 : cs[j]? = (l.filter (· != but))[j]? := by
      have := congrArg (fun m : List Int => m[j]?) hhd
      simpa [List.getElem?_take, hjn] using this
     simp only [List.getElem?_toArray]
     rw [e1]
     simp only [ints, List.getElem?_map] at hj ⊢
     rw [e2]; exact hj⟩
    have Hclr := Lib.hid hclr
    clear hclr h2 h3 o2 hon hrow hhd hsz Hd hfl hlt hk
    generalize wr.setCells g n (List.replicate (l.length - n) (.int .i64 0)) = w9 at HF Hclr
    go_wp2_with (refine wpList_res rfl _ (run_exec_clear rfl Hclr.out) ?_)
    go_ret
    exact ⟨by rw [hn]; rfl, HF.out⟩
end Go.Proofs.YtcgglolckkeeiaaGreat
namespace Go.Proofs.YtcgglolckkeeiaaGreat
set_option linter.unusedVariables false
open Go.RowKit Go.Deep
def IntB (W : World) (A : Option Addr) : Prop := ∀ a, A = some a → ∃ cs : Array Value, Row W a.block 3 cs
theorem IntB.go {W W' : World} {A : Option Addr} (h : IntB W A) (b : Below W.heap.size W W') : IntB W' A := fun a e => by
 obtain ⟨cs, hr⟩ := h a e
 exact ⟨cs, hr.below b hr.lt⟩
theorem own_intB {w : World} {base n : Nat} {v : Value} {xs : List Value} {A : Option Addr} {m c : Nat} (h : w.ownsRow base 3 1 v n xs) (e : v = .slice A m c) : IntB w A := fun a ha => by
 rcases h.2 with ⟨e2, _⟩ | ⟨g, c, cur, e2, hb, hr, _⟩
 · rw [e] at e2; injection e2 with e3; rw [ha] at e3; cases e3
 · rw [e] at e2; injection e2 with e3; rw [ha] at e3; injection e3 with e3; rw [e3]; exact ⟨cur, hr⟩
structure IntsN (xs : List Int) (w w' : World) (e : Ending) : Prop where
 ex : ∃ A cap, e = .returned (.slice A xs.length cap) ∧ Rd w' A (ints xs) ∧ (A = none → xs = []) ∧ Below w.heap.size w w' ∧ IntB w' A
def onceZ (but : Int) (l : List Int) : List Int := (sortU l).filter (· != but)
set_option maxRecDepth 100000 in
set_option maxHeartbeats 4000000 in
theorem once_any (g cap B : Nat) (but : Int) (l : List Int) (w : World) (hr : Row w g 3 (ints l).toArray) (hl : l.length ≤ 1000) (hc : l.length ≤ cap) (hcm : cap ≤ maxLen) (hB : B ≤ g) :
 Calls Tryz.prog 229 #[.int .i64 but, .slice (some ⟨g, 0, none⟩) l.length cap] w fun e w' => ∃ A c, e = .returned (.slice A (onceZ but l).length c) ∧ Rd w' A (ints (onceZ but l)) ∧ (A = none → onceZ but l = []) ∧ Below B w w' ∧ IntB w' A := by
 have hgl := hr.lt
 have Hr := Lib.hid hr
 have Hl := Lib.hid hl
 have Hc := Lib.hid hc
 have Hcm := Lib.hid hcm
 clear hr hl hc hcm
 go_enter Tryz.func229, Tryz.ntmps229
 go_wp2_with (refine at_box _ _ rfl ?_)
 refine Stop.to ?_
 refine wpList_box_gen rfl 3 _ rfl #[.int .i64 but] rfl ?_
 intro P Pw Ph Pr Pb
 have hPg : P ≠ g := by omega
 have rg := Hr.out.below Pb (by omega)
 have on1 : OnRow g w Pw := OnRow.of_below (Pb.mono Ph)
 have rP := Pr
 have Hs := Lib.hid (sortI_any g cap l Pw rg Hl.out)
 clear Pb Pr Ph
 go_wp2_with fail
 refine Hs.out.mono ?_
 clear Hs rg
 rintro e w1 ⟨rfl, r1, on2⟩
 have rP1 := on2.row rP hPg
 have on3 := on1.trans on2
 have hml : (l.mergeSort fun x y => decide (x ≤ y)).length = l.length := List.length_mergeSort l
 have Hk := Lib.hid (compactI_any g cap (l.mergeSort fun x y => decide (x ≤ y)) w1 r1 (by rw [hml]; exact Hl.out) (by rw [hml]; exact Hc.out))
 rw [hml, sort_once] at Hk
 clear rP on1 on2 hml r1
 go_wp2_with fail
 refine Hk.out.mono ?_
 clear Hk
 rintro e w2 ⟨rfl, r2, on4⟩
 have rP2 := on4.row rP1 hPg
 have on5 := on3.trans on4
 have hsl : (sortU l).length ≤ l.length := sortU_le l
 have Hd := Lib.hid (delI_any g cap P but (sortU l) (List.replicate (l.length - (sortU l).length) 0) w2 r2 rP2 hPg (by have := Hl.out; omega) (by have := Hc.out; omega) Hcm.out)
 clear rP1 on3 on4 r2 rP2 hsl
 go_wp2_with fail
 refine Hd.out.mono ?_
 clear Hd
 rintro e w3 ⟨rfl, on6, cs, r3, hcs⟩
 have on7 := on5.trans on6
 have HF : Hid (Below B w w3 ∧ IntB w3 (some ⟨g, 0, none⟩) ∧ Rd w3 (some ⟨g, 0, none⟩) (ints (onceZ but l))) := ⟨on7.below hB (by omega), fun a e => by injection e with e; subst e; exact ⟨_, r3⟩, fun j u hj => ⟨_, rfl, by
  have := r3.cellv (hcs j u hj)
  unfold Addr.add
  by_cases h0 : j = 0
  · subst h0; exact this
  · rw [if_neg h0]; simpa using this⟩⟩
 clear on5 on6 on7 r3 hcs
 go_wp2_with fail
 go_ret
 exact ⟨_, _, rfl, HF.out.2.2, by simp, HF.out.1, HF.out.2.1⟩
theorem info_iz : (Tryz.prog.info? 3).map (fun i => (i.zero, i.size)) = some (some (.int .i64 0), 1) := by kernel_rfl
def answersZ (x : Nd) : List Int := if x.tag = 1 then onceZ x.n [0, 1] else [0, 1]
set_option maxRecDepth 100000 in
set_option maxHeartbeats 4000000 in
theorem answers_any (x : Nd) (w : World) :
 Calls Tryz.prog 230 #[.agg x.cells.toArray] w fun e w' => IntsN (answersZ x) w w' e := by
 rw [show x.cells.toArray = #[.int .i64 x.tag, .int .i64 x.n] from rfl]
 go_enter Tryz.func230, Tryz.ntmps230
 go_wp2_with (refine at_box _ _ rfl ?_)
 refine Stop.to ?_
 refine wpList_box_gen rfl 74 _ rfl #[.int .i64 x.tag, .int .i64 x.n] rfl ?_
 intro G Gw Gh Gr Gb
 have c0 := Gr.cellv (i := 0) (v := .int .i64 x.tag) rfl
 have c1 := Gr.cellv (i := 1) (v := .int .i64 x.n) rfl
 have b1 := (Below.refl w.heap.size w).trans (Gb.mono Gh)
 clear Gb Gh Gr
 by_cases ht : x.tag = 1
 · have ht' : (x.tag == 1) = true := by simpa using ht
   have Hz : Hid (answersZ x = onceZ x.n [0, 1]) := by show _ = _; unfold answersZ; rw [if_pos ht]
   clear ht
   go_wp2_with (refine at_slice _ _ _ rfl ?_)
   refine Stop.to ?_
   refine wpList_slice_gen rfl 22 2 _ rfl 3 (ints [0, 1]).toArray (bs_run Tryz.underlying22 info_iz (by decide) (by decide) (by kernel_rfl)) ?_
   intro M Mw Mh Mr Mb
   have b2 := b1.trans ((Mb.mono Mh).mono b1.size)
   have Ho := Lib.hid (once_any M 2 w.heap.size x.n [0, 1] Mw Mr (by simp) (by simp) (by unfold maxLen; omega) (by have := b1.size; omega))
   clear Mr Mb Mh c0 c1 b1
   go_wp2_with fail
   refine Ho.out.mono ?_
   clear Ho
   rintro e w3 ⟨A, c, rfl, h1, h2, h3, h4⟩
   have HF : Hid (Rd w3 A (ints (onceZ x.n [0, 1])) ∧ (A = none → onceZ x.n [0, 1] = []) ∧ Below w.heap.size w w3 ∧ IntB w3 A) := ⟨h1, h2, b2.trans h3, h4⟩
   clear h1 h2 h3 h4 b2
   go_wp2_with fail
   go_ret
   exact ⟨A, c, by rw [Hz.out]; rfl, by rw [Hz.out]; exact HF.out⟩
 · have ht' : (x.tag == 1) = false := by simpa using ht
   have Hz : Hid (answersZ x = [0, 1]) := by show _ = _; unfold answersZ; rw [if_neg ht]
   clear ht
   go_wp2_with (refine at_slice _ _ _ rfl ?_)
   refine Stop.to ?_
   refine wpList_slice_gen rfl 22 2 _ rfl 3 (ints [0, 1]).toArray (bs_run Tryz.underlying22 info_iz (by decide) (by decide) (by kernel_rfl)) ?_
   intro M Mw Mh Mr Mb
   have HF : Hid (Rd Mw (some ⟨M, 0, none⟩) (ints [0, 1]) ∧ Below w.heap.size w Mw ∧ IntB Mw (some ⟨M, 0, none⟩)) := ⟨rd_rowP Mr, b1.trans ((Mb.mono Mh).mono b1.size), fun a e => by injection e with e; subst e; exact ⟨_, Mr⟩⟩
   clear Mr Mb Mh c0 c1 b1
   go_wp2_with fail
   go_ret
   exact ⟨_, _, by rw [Hz.out]; rfl, by rw [Hz.out]; exact HF.out.1, by simp, HF.out.2⟩
def rowK (lo but : Int) (k : Nat) : List Int := ((List.range k).map fun i : Nat => lo + (i : Int)).filter (· != but)
def rowZ (lo hi but : Int) : List Int := rowK lo but (hi + 1 - lo).toNat
theorem rowK_succ (lo but : Int) (k : Nat) : rowK lo but (k + 1) = rowK lo but k ++ if lo + (k : Int) = but then [] else [lo + (k : Int)] := by
 unfold rowK
 rw [List.range_succ, List.map_append, List.filter_append]
 by_cases h : lo + (k : Int) = but <;> simp [h]
theorem rowK_le (lo but : Int) (k : Nat) : (rowK lo but k).length ≤ k := by
 unfold rowK
 have := List.length_filter_le (· != but) ((List.range k).map fun i : Nat => lo + (i : Int))
 simpa using this
set_option maxRecDepth 100000 in
set_option maxHeartbeats 4000000 in
theorem row_any (lo hi but : Int) (w : World) (h0 : 0 ≤ lo) (h1 : lo ≤ hi) (h2 : hi ≤ 100) :
 Calls Tryz.prog 228 #[.int .i64 lo, .int .i64 hi, .int .i64 but] w fun e w' => IntsN (rowZ lo hi but) w w' e := by
 obtain ⟨n, hn⟩ : ∃ n, n = (hi + 1 - lo).toNat := ⟨_, rfl⟩
 have hn2 : lo + (n : Int) = hi + 1 := by omega
 have Hn := Lib.hid hn
 clear hn
 go_enter Tryz.func228, Tryz.ntmps228
 go_wp2
 go_loopw [7, 8] (fun v i wr => ∃ k : Nat, i = .int .i64 (lo + (k : Int)) ∧ k ≤ n ∧ wr.ownsRow w.heap.size 3 1 v (rowK lo but k).length (ints (rowK lo but k)) ∧ Below w.heap.size w wr) (fun _ i _ => (hi + 1 - intOf i).toNat)
 case atStart => exact ⟨0, by simp, Nat.zero_le _, World.ownsRow_nil _ _ _ _, Below.refl _ _⟩
 case round =>
  rename_i v
  obtain ⟨k, rfl, hk, hown, hb⟩ := hrel
  obtain ⟨A, c, rfl, hrd, hcn, hcz, hbl⟩ := own_rdB hown
  have hib := own_intB hown rfl
  by_cases hlt : k < n
  · have hle : lo + (k : Int) ≤ hi := by omega
    have hs := rowK_succ lo but k
    have hkl := rowK_le lo but k
    by_cases hbut : lo + (k : Int) = but
    · have hb' : ((lo + (k : Int)) != but) = false := by simp [hbut]
      rw [if_pos hbut, List.append_nil] at hs
      have Hs := Lib.hid hs
      have Hown := Lib.hid hown
      clear hs hbut hown hrd hcn hcz hbl hib
      go_wp2_with fail
      go_roundw
      case rel => exact ⟨k + 1, by go_num, by omega, by rw [Hs.out]; exact Hown.out, hb⟩
      case measure => simp [intOf]; omega
    · have hb' : ((lo + (k : Int)) != but) = true := by simp [hbut]
      rw [if_neg hbut] at hs
      have Hs := Lib.hid hs
      have Hkl := Lib.hid hkl
      clear hs hbut hrd hcn hcz hbl hkl hib
      go_wp2_with (refine at_slice _ _ _ rfl ?_)
      refine Stop.to ?_
      refine wpList_slice_gen rfl 22 1 _ rfl 3 #[.int .i64 (lo + (k : Int))] (bs_run Tryz.underlying22 info_iz (by decide) (by decide) (by kernel_rfl)) ?_
      intro M Mw Mh Mr Mb
      have hb2 := hb.trans ((Mb.mono Mh).mono hb.size)
      obtain ⟨v', w', hrun, hown', hgr, _⟩ := append_rd (P := Tryz.prog) 22 3 (.int .i64 0) 1 8 Tryz.underlying22 info_int rfl (by decide) (by decide) (own_below hown (Mb.mono Mh)) hb2.size (rd_rowP (cs := [.int .i64 (lo + (k : Int))]) Mr) (m := 1) (cap := 1) rfl (ints_one [lo + (k : Int)]) (by simp) (by have := Hkl.out; omega)
      have hb3 := below_grown_own hb2 (own_below hown (Mb.mono Mh)) hgr hb2.size (Nat.le_refl _)
      have HF : Hid (w'.ownsRow w.heap.size 3 1 v' (rowK lo but (k + 1)).length (ints (rowK lo but (k + 1))) ∧ Below w.heap.size w w') := ⟨by rw [Hs.out, List.length_append, ints_append]; exact hown', hb3⟩
      have Hrun := Lib.hid hrun
      clear hrun hown' hgr hb3 hb2 hb Mr Mb Mh hown Hs Hkl
      go_wp2_with (refine wpList_res rfl _ (run_exec_append rfl Hrun.out) ?_)
      go_roundw
      case rel => exact ⟨k + 1, by go_num, by omega, HF.out⟩
      case measure => simp [intOf]; omega
  · obtain rfl : k = n := by omega
    have hgt : hi < lo + (k : Int) := by omega
    have HF : Hid (Rd wr A (ints (rowZ lo hi but)) ∧ (A = none → rowZ lo hi but = []) ∧ rowK lo but k = rowZ lo hi but ∧ IntB wr A) := by
     have e : rowK lo but k = rowZ lo hi but := by unfold rowZ; rw [Hn.out]
     rw [← e]
     exact ⟨hrd, fun e => by have := hcz e; have : (rowK lo but k).length = 0 := by omega
                             exact List.eq_nil_of_length_eq_zero this, rfl, hib⟩
    clear hrd hcz hown hbl hib
    go_wp2_with fail
    go_ret
    exact ⟨A, c, by rw [← HF.out.2.2.1]; rfl, HF.out.1, HF.out.2.1, hb, HF.out.2.2.2⟩
end Go.Proofs.YtcgglolckkeeiaaGreat
namespace Go.Proofs.YtcgglolckkeeiaaGreat
set_option linter.unusedVariables false
open Go.RowKit Go.Deep
attribute [local go_sem] Oper.semAt_some
structure KpG (Z : Nat → Obj → Prop) (A B : World) : Prop where
 block : ∀ k o, ¬ Z k o → A.heap[k]? = some o → B.heap[k]? = some o
 size : A.heap.size ≤ B.heap.size
theorem KpG.trans {Z : Nat → Obj → Prop} {A B C : World} (h : KpG Z A B) (k : KpG Z B C) : KpG Z A C := ⟨fun i o hx ho => k.block i o hx (h.block i o hx ho), Nat.le_trans h.size k.size⟩
theorem KpG.refl (Z : Nat → Obj → Prop) (A : World) : KpG Z A A := ⟨fun _ _ _ h => h, Nat.le_refl _⟩
theorem KpG.of_below {Z : Nat → Obj → Prop} {A B : World} (h : Below A.heap.size A B) : KpG Z A B := ⟨fun k o _ ho => by rw [h.block k (Array.getElem?_eq_some_iff.1 ho).1]; exact ho, h.size⟩
theorem KpG.row {Z : Nat → Obj → Prop} {A B : World} (h : KpG Z A B) {g : Nat} {t : TypeId} {cs : Array Value} (hr : Row A g t cs) (hx : ¬ Z g (.cells cs t (0, 0))) : Row B g t cs := h.block g _ hx hr
theorem KpG.rd {Z : Nat → Obj → Prop} {A B : World} (h : KpG Z A B) {ad : Option Addr} {xs : List Value} (hr : Rd A ad xs) (hx : xs ≠ [] → ∀ a, ad = some a → ∀ o, ¬ Z a.block o) : Rd B ad xs := fun j u hj => by
 obtain ⟨a, e, hc⟩ := hr j u hj
 have hne : xs ≠ [] := fun e => by rw [e] at hj; simp at hj
 have hlt := World.block_lt_of_cell? _ _ hc
 have hbl : (a.add j).block = a.block := add_block a j
 rw [hbl] at hlt
 have h1 : A.heap[a.block]? = some A.heap[a.block] := Array.getElem?_eq_getElem hlt
 have h2 := h.block _ _ (hx hne a e _) h1
 exact ⟨a, e, (World.cell?_of_block (by rw [hbl]; exact h2.trans h1.symm)).trans hc⟩
theorem setCell_same {W : World} {g : Nat} {t : TypeId} {v : Value} (h : Row W g t #[v]) : W.setCell ⟨g, 0, none⟩ v = W := by
 have h1 := h.set 0 v
 have o1 := only_set W g 0 v
 rw [show (#[v] : Array Value).setIfInBounds 0 v = #[v] by simp] at h1
 have hh : (W.setCell ⟨g, 0, none⟩ v).heap = W.heap := by
  apply Array.ext_getElem?
  intro k
  by_cases hk : k = g
  · subst hk; rw [show (W.setCell ⟨k, 0, none⟩ v).heap[k]? = _ from h1, show W.heap[k]? = _ from h]
  · exact o1.block k hk
 have he : W.setCell ⟨g, 0, none⟩ v = { W with heap := (W.setCell ⟨g, 0, none⟩ v).heap } := rfl
 rw [he, hh]
structure LsX where
 op : Int
 A : Option Addr
 cap : Nat
 l : List Int
def LsX.f (x : LsX) : Int × List Int := (x.op, x.l)
def LsX.enc (x : LsX) : Array Value := #[.int .i64 x.op, .slice x.A x.l.length x.cap]
structure LsX.ok (x : LsX) (W : World) : Prop where
 rd : Rd W x.A (ints x.l)
 nil : x.A = none → x.l = []
 ty : IntB W x.A
def LsP (full : List (Int × List Int)) (pre : List LsX) (x : LsX) (W : World) : Prop := x.ok W ∧ ∃ rest, pre.map LsX.f ++ x.f :: rest = full
def listsZ (x y : Nd) : List (Int × List Int) :=
 (if 7 ≤ x.tag ∧ x.tag ≤ 11 then [(1, rowZ 7 11 x.tag)] else if 12 ≤ x.tag ∧ x.tag ≤ 17 then [(2, rowZ 12 17 x.tag)] else if x.tag = 18 ∨ x.tag = 19 then [(3, rowZ 18 19 x.tag)]
  else if x.tag = 1 then [(4, onceZ x.n [0, 1, -1, wrap64 (x.n + 1), wrap64 (x.n - 1)])] else if x.tag = 2 then [(4, [wrap64 (1 - x.n)])] else [])
 ++ (if x.tag = 21 ∨ x.tag = 22 ∨ x.tag = 23 ∨ x.tag = 24 ∨ x.tag = 25 then [(5, [0])] else [])
 ++ (if x.tag = 23 ∨ x.tag = 24 then [(6, [0])] else if x.tag = 25 then [(7, answersZ y)] else [])
structure TellC (lb mo yb : Nat) (Z : Nat → Obj → Prop) (W : World) : Prop where
 rm : Row W mo 4 #[.bool true]
 ry : Row W yb 278 #[.func (.yield lb) #[] #[]]
 zm : ∀ cs fr, ¬ Z mo (.cells cs 4 fr)
 zy : ∀ cs fr, ¬ Z yb (.cells cs 278 fr)
theorem TellC.kg {lb mo yb : Nat} {Z : Nat → Obj → Prop} {W W' : World} (h : TellC lb mo yb Z W) (k : KpG Z W W') : TellC lb mo yb Z W' := ⟨k.row h.rm (h.zm _ _), k.row h.ry (h.zy _ _), h.zm, h.zy⟩
set_option maxRecDepth 100000 in
set_option maxHeartbeats 4000000 in
theorem tell_in (lb mo yb : Nat) (Z : Nat → Obj → Prop) (W : World) (x : LsX) (R : World → Prop) (hC : TellC lb mo yb Z W)
 (hY : YieldAt Fence.wide 0 Tryz.prog lb x.enc W fun e W' => e = .returned (.bool true) ∧ R W' ∧ KpG Z W W') :
 CallsIn Fence.wide 0 Tryz.prog 227 #[.int .i64 x.op, .slice x.A x.l.length x.cap, .pointer (some ⟨mo, 0, none⟩), .pointer (some ⟨yb, 0, none⟩)] W fun e W' => (∃ v, e = .returned v) ∧ R W' ∧ KpG Z W W' := by
 have HC := Lib.hid hC
 obtain ⟨fn, tmps, assign, body, hy, hR⟩ := hY
 have hy' : (Instr.yield lb #[.int .i64 x.op, .slice x.A x.l.length x.cap]).run Tryz.prog W = .ok (.round lb fn tmps assign body) W := hy
 have HR := Lib.hid hR
 clear hy hR hC
 have cm := HC.out.rm.cellv (i := 0) (v := .bool true) rfl
 have cy := HC.out.ry.cellv (i := 0) (v := .func (.yield lb) #[] #[]) rfl
 refine callsIn_of_wp Tryz.func227 rfl trivial ?_ rfl
 simp only [Tryz.ntmps227, List.size_toArray, List.length_cons, List.length_nil, Nat.reduceAdd, Nat.reduceSub, Array.replicate_succ, Array.replicate_zero, List.push_toArray, List.append_toArray, List.nil_append, List.cons_append]
 gi_wp2_with fail
 refine ⟨rfl, HR.out.mono ?_⟩
 clear hy' HR cm cy
 rintro e W2 ⟨rfl, hr, hk⟩
 have hC2 := HC.out.kg hk
 have cm2 := hC2.rm.cellv (i := 0) (v := .bool true) rfl
 have fm2 := hC2.rm.free 0
 have Hs := Lib.hid (setCell_same hC2.rm)
 have HF : Hid (R W2 ∧ KpG Z W W2) := ⟨hr, hk⟩
 clear hr hk hC2
 gi_wp2_with fail
 rw [Hs.out]
 go_end0
 exact ⟨⟨_, rfl⟩, HF.out⟩
structure ListsC (A : Option Addr) (cap n bl Rb : Nat) (x : Nd) (ys : List Nd) (Z : Nat → Obj → Prop) (w : World) : Prop where
 rl : Row w bl 23 #[.slice A n cap]
 hr : Rd w A ((x :: ys).flatMap Nd.cells)
 hn : n = (x :: ys).length
 z1 : ∀ k o, k < w.heap.size → k ≠ Rb → ¬ Z k o
 bn : bl ≠ Rb
 an : ∀ ad, A = some ad → ad.block ≠ Rb
 z2 : ∀ k cs t fr, w.heap.size ≤ k → (t = 278 ∨ t = 74 ∨ t = 4 ∨ t = 3) → ¬ Z k (.cells cs t fr)
 h25 : x.tag = 25 → ys ≠ []
end Go.Proofs.YtcgglolckkeeiaaGreat
