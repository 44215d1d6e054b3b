/- Lemmas for DirectMutantsP. -/
import Derived.Test.YtdcmppdhdcjpfaaGreatZp24
import Derived.Test.YtdcmppdhdcjpfaaGreatZp21
import Derived.Test.YtdcmppdhdcjpfaaGreatZp1
set_option linter.unusedVariables false
set_option linter.unusedSimpArgs false
set_option maxRecDepth 100000
set_option maxHeartbeats 16000000
namespace Go.Proofs.YtdcmppdhdcjpfaaGreat
open Go.RowKit Go.Deep
theorem Eo (d : Array Int) (cs : Array Value) (h : cs.size = d.size) : Sort.putCells (Value.int .i64) 0 d cs = d.map (Value.int .i64) := by
 unfold Sort.putCells
 apply Array.ext
 · simp [h]
 · intro i h1 h2
   have hi : i < d.size := by simpa using h2
   simp [hi]
theorem YM {w : World} {g : Nat} {t : TypeId} {cs : Array Value} (hr : Row w g t cs) (d : Array Int) (h : cs.size = d.size) : Row (Sort.putRow (Value.int .i64) w g 0 d) g t (d.map (Value.int .i64)) ∧ Only g w (Sort.putRow (Value.int .i64) w g 0 d) := by
 unfold Sort.putRow Sort.mapBlock
 refine ⟨?_, rfl, rfl, rfl, by simp, fun k hk => ?_⟩
 · show (w.heap.modify g _)[g]? = _
   rw [Array.getElem?_modify, if_pos rfl, show w.heap[g]? = some (.cells cs t (0, 0)) from hr]
   simp [Sort.onCells, Eo d cs h]
 · show (w.heap.modify g _)[k]? = _
   rw [Array.getElem?_modify, if_neg (Ne.symm hk)]
theorem V5 {w : World} {g : Nat} {t : TypeId} {l : List Int} (hr : Row w g t (Qg l).toArray) : Sort.Holds (Value.int .i64) w g 0 l.toArray := fun j hj => by
 have hj' : j < l.length := by simpa using hj
 refine ⟨?_, by have := hr.free (0 + j); exact this⟩
 have := hr.cellv (i := j) (v := .int .i64 l[j]) (by simp [Qg, hj'])
 rw [Nat.zero_add, this]; simp [hj']
theorem Aaa (l : List Int) : l.toArray.map (Value.int .i64) = (Qg l).toArray := by simp [Qg]
structure OnRow (g : Nat) (w w' : World) : Prop where
 gr : w.grownBy w' (some g)
theorem OnRow.trans {g : Nat} {a b c : World} (h : OnRow g a b) (k : OnRow g b c) : OnRow g a c := ⟨⟨k.gr.os.trans h.gr.os, k.gr.tape.trans h.gr.tape, k.gr.output.trans h.gr.output, Nat.le_trans h.gr.size k.gr.size, fun i hi hx => (k.gr.block i (Nat.lt_of_lt_of_le hi h.gr.size) hx).trans (h.gr.block i hi hx)⟩⟩
theorem OnRow.of_below {g : Nat} {a b : World} (h : Below a.heap.size a b) : OnRow g a b := ⟨⟨h.os, h.tape, h.output, h.size, fun i hi _ => h.block i hi⟩⟩
theorem OnRow.of_only {g : Nat} {a b : World} (h : Only g a b) : OnRow g a b := ⟨⟨h.os, h.tape, h.output, Nat.le_of_eq h.size.symm, fun i _ hx => h.block i (fun e => hx (by rw [e]))⟩⟩
theorem OnRow.below {g B : Nat} {a b : World} (h : OnRow g a b) (hg : B ≤ g) (hB : B ≤ a.heap.size) : Below B a b := ⟨h.gr.os, h.gr.tape, h.gr.output, h.gr.size, fun i hi => h.gr.block i (by omega) (fun e => by injection e; omega)⟩
theorem OnRow.row {g k : Nat} {a b : World} {t : TypeId} {cs : Array Value} (h : OnRow g a b) (hr : Row a k t cs) (hk : k ≠ g) : Row b k t cs := (h.gr.block k hr.lt (fun e => hk (by injection e))).trans hr
theorem Ac7 (g cap : Nat) (l : List Int) (w : World) (hr : Row w g 3 (Qg l).toArray) (hl : l.length ≤ 1000) :
 Calls Tryz.prog 301 #[.slice (some ⟨g, 0, none⟩) l.length cap] w fun e w' => e = .returned (.tuple #[]) ∧ Row w' g 3 (Qg (l.mergeSort fun x y => decide (x ≤ y))).toArray ∧ OnRow g w w' := by
 refine (slices_Sort_int g 0 cap l w (V5 hr) hr.lt (by omega)).mono ?_
 rintro e w' ⟨rfl, n, os, rfl⟩
 have h1 : Row (Sort.ahead w n) g 3 (Qg l).toArray := hr.drewN n
 obtain ⟨h2, h3⟩ := YM h1 (l.mergeSort fun x y => decide (x ≤ y)).toArray (by simp [Qg])
 rw [Aaa] at h2
 have hb : Below w.heap.size w (Sort.ahead w n) := KI (Below.refl _ _) n
 have hg : ∀ (W : World) (os : Array Obj), Below W.heap.size W (Sort.grow W os) := fun W os => ⟨rfl, rfl, rfl, by simp [Sort.grow], fun k hk => by simp [Sort.grow, Array.getElem?_append_left hk]⟩
 exact ⟨rfl, h2.below (hg _ _) h2.lt, (OnRow.of_below hb).trans ((OnRow.of_only h3).trans (OnRow.of_below (hg _ _)))⟩
theorem Ek (g cap : Nat) (l : List Int) (w : World) (hr : Row w g 3 (Qg l).toArray) (hl : l.length ≤ 1000) (hc : l.length ≤ cap) :
 Calls Tryz.prog 302 #[.slice (some ⟨g, 0, none⟩) l.length cap] w fun e w' => e = .returned (.slice (some ⟨g, 0, none⟩) (Lib.compact l).length cap) ∧ Row w' g 3 (Qg (Lib.compact l ++ List.replicate (l.length - (Lib.compact l).length) 0)).toArray ∧ OnRow g w w' := by
 refine (slices_Compact_int g 0 cap l w (V5 hr) (by omega) hc).mono ?_
 rintro e w' ⟨rfl, n, rfl⟩
 have h1 : Row (Sort.ahead w n) g 3 (Qg l).toArray := hr.drewN n
 have hcl : (Lib.compact l).length ≤ l.length := by
  unfold Lib.compact Lib.compactUpTo
  rw [List.length_map]
  have := List.length_filter_le (Lib.keeps l.toArray) (List.range l.length)
  rwa [List.length_range] at this
 obtain ⟨h2, h3⟩ := YM h1 (Lib.compact l ++ List.replicate (l.length - (Lib.compact l).length) 0).toArray (by simp [Qg]; omega)
 rw [Aaa] at h2
 have hb : Below w.heap.size w (Sort.ahead w n) := KI (Below.refl _ _) n
 exact ⟨rfl, h2, (OnRow.of_below hb).trans (OnRow.of_only h3)⟩
theorem VI (b : Nat) (but x : Int) (w : World) (hr : Row w b 3 #[.int .i64 but]) :
 Calls Tryz.prog 304 #[.int .i64 x, .pointer (some ⟨b, 0, none⟩)] w fun e w' => e = .returned (.bool (x == but)) ∧ w = w' := by
 have c := hr.cellv (i := 0) (v := .int .i64 but) rfl
 go_enter Tryz.func304, Tryz.ntmps304
 go_wp2
 go_ret
 exact ⟨rfl, rfl⟩
theorem Afc {l z : List Int} {k : Nat} {x : Int} (hlt : k < l.length) (hx : l[k]? = some x) : (Qg (l ++ z)).toArray[k]? = some (.int .i64 x) := by
 have : (Qg (l ++ z))[k]? = some (.int .i64 x) := by rw [Jz, List.getElem?_append_left (by rw [KF]; exact hlt)]; simp [Qg, hx]
 simpa using this
theorem Uo {but : Int} {l : List Int} {k : Nat} {x : Int} (h : ∀ y ∈ l.take k, y ≠ but) (hx : l[k]? = some x) (hp : x ≠ but) : ∀ y ∈ l.take (k + 1), y ≠ but := by
 rw [List.take_add_one, hx]
 intro y hy
 rcases List.mem_append.1 hy with hy | hy
 · exact h y hy
 · simp at hy; subst hy; exact hp
theorem AdK (g cap b : Nat) (but : Int) (l z : List Int) (w : World) (hr : Row w g 3 (Qg (l ++ z)).toArray) (hb : Row w b 3 #[.int .i64 but]) (hl : l.length ≤ 1000) :
 Calls Tryz.prog 307 #[.slice (some ⟨g, 0, none⟩) l.length cap, .func (.func 304) #[] #[.pointer (some ⟨b, 0, none⟩)]] w fun e w' => ((∃ i : Nat, e = .returned (.int .i64 (i : Int)) ∧ l[i]? = some but ∧ ∀ x ∈ l.take i, x ≠ but) ∨ (e = .returned (.int .i64 (-1)) ∧ ∀ x ∈ l, x ≠ but)) ∧ w = w' := by
 have Hr := Lh hr
 have Hb := Lh hb
 have hl' : (l.length : Int) ≤ 1000 := by omega
 clear hr hb hl
 go_enter Tryz.func307, Tryz.ntmps307
 go_wp2
 go_loop [8] (fun i => ∃ k : Nat, i = .int .i64 (k : Int) ∧ k ≤ l.length ∧ Hid (∀ x ∈ l.take k, x ≠ but)) (fun i => l.length - (intOf i).toNat)
 case atStart => exact ⟨0, rfl, Nat.zero_le _, Lh (fun x hx => by simp at hx)⟩
 case round =>
  obtain ⟨k, rfl, hk, Hall⟩ := hrel
  by_cases hlt : k < l.length
  · obtain ⟨x, hx⟩ : ∃ x, l[k]? = some x := ⟨_, List.getElem?_eq_getElem hlt⟩
    have hc := Hr.out.cellv (i := k) (v := .int .i64 x) (Afc hlt hx)
    have Hx := Lh hx
    have H1 := Lh (VI b but x w Hb.out)
    have hltI : (k : Int) < (l.length : Int) := by omega
    clear hx hlt
    go_wp2_with fail
    refine H1.out.mono ?_
    rintro e w' ⟨rfl, rfl⟩
    by_cases hs : x = but
    · have hs' : (x == but) = true := by simpa using hs
      rw [hs']
      have Hf : Hid (l[k]? = some but) := by show _ = _; rw [Hx.out, hs]
      clear hs hs' H1 hc Hx
      go_wp2_with fail
      go_ret
      exact ⟨.inl ⟨k, rfl, Hf.out, Hall.out⟩, rfl⟩
    · have hs' : (x == but) = false := by simpa using hs
      rw [hs']
      have Hn := Lh (Uo Hall.out Hx.out hs)
      clear hs hs' H1 hc Hx
      go_wp2_with fail
      go_round
      case rel => exact ⟨k + 1, by go_num, by omega, Hn⟩
      case measure => simp [intOf]; omega
  · obtain rfl : k = l.length := by omega
    have Hf : Hid (∀ x ∈ l, x ≠ but) := by have := Hall.out; rwa [List.take_length] at this
    clear hlt hk
    go_wp2
    go_ret
    exact ⟨.inr ⟨rfl, Hf.out⟩, rfl⟩
structure Del (but : Int) (l z : List Int) (k : Nat) (cs : List Int) : Prop where
 size : cs.length = (l ++ z).length
 head : cs.take ((l.take k).filter (· != but)).length = (l.take k).filter (· != but)
 tail : cs.drop k = (l ++ z).drop k
theorem Del.get {but : Int} {l z : List Int} {k : Nat} {cs : List Int} (h : Del but l z k cs) {x : Int} (hx : l[k]? = some x) : cs[k]? = some x := by
 have hk := (List.getElem?_eq_some_iff.1 hx).1
 have := congrArg (fun m : List Int => m[0]?) h.tail
 simp only [List.getElem?_drop, Nat.add_zero] at this
 rw [this, List.getElem?_append_left hk, hx]
theorem Del.skip {but : Int} {l z : List Int} {k : Nat} {cs : List Int} (h : Del but l z k cs) {x : Int} (hx : l[k]? = some x) (hb : x = but) : Del but l z (k + 1) cs ∧ ((l.take (k + 1)).filter (· != but)).length = ((l.take k).filter (· != but)).length := by
 have e : (l.take (k + 1)).filter (· != but) = (l.take k).filter (· != but) := by rw [List.take_add_one, hx, List.filter_append]; simp [hb]
 refine ⟨⟨h.size, by rw [e]; exact h.head, ?_⟩, by rw [e]⟩
 have := congrArg (fun m : List Int => m.drop 1) h.tail
 simpa [List.drop_drop] using this
theorem Del.put {but : Int} {l z : List Int} {k : Nat} {cs : List Int} (h : Del but l z k cs) {x : Int} (hx : l[k]? = some x) (hb : x ≠ but) (hlt : ((l.take k).filter (· != but)).length < k) : Del but l z (k + 1) (cs.set ((l.take k).filter (· != but)).length x) ∧ ((l.take (k + 1)).filter (· != but)).length = ((l.take k).filter (· != but)).length + 1 := by
 have hk := (List.getElem?_eq_some_iff.1 hx).1
 have e : (l.take (k + 1)).filter (· != but) = (l.take k).filter (· != but) ++ [x] := by rw [List.take_add_one, hx, List.filter_append]; simp [hb]
 have hs := h.size
 rw [List.length_append] at hs
 have hh := h.head
 generalize hn : ((l.take k).filter (· != but)).length = n at *
 refine ⟨⟨by rw [List.length_set]; exact h.size, ?_, ?_⟩, by rw [e, List.length_append, hn]; rfl⟩
 · rw [e, List.length_append, hn, List.length_singleton, List.take_add_one, List.take_set_of_le (Nat.le_refl _), hh]
   congr 1
   rw [List.getElem?_set, if_pos rfl, if_pos (by omega)]; rfl
 · rw [List.drop_set_of_lt (by omega)]
   have := congrArg (fun m : List Int => m.drop 1) h.tail
   simpa [List.drop_drop] using this
theorem Del.start {but : Int} {l z : List Int} {i : Nat} (hi : l[i]? = some but) (hall : ∀ x ∈ l.take i, x ≠ but) : Del but l z (i + 1) (l ++ z) ∧ ((l.take (i + 1)).filter (· != but)).length = i := by
 have hk := (List.getElem?_eq_some_iff.1 hi).1
 have e : (l.take (i + 1)).filter (· != but) = l.take i := by
  rw [List.take_add_one, hi, List.filter_append, List.filter_eq_self.2 (fun x hx => by simpa using hall x hx)]; simp
 have hl : (l.take i).length = i := by rw [List.length_take]; omega
 refine ⟨⟨rfl, ?_, rfl⟩, by rw [e, hl]⟩
 rw [e, hl, List.take_append_of_le_length (by omega)]
theorem Vs {g : Nat} {t : TypeId} : ∀ (n : Nat) {w : World} {cs : List Value} (o : Nat), Row w g t cs.toArray → o + n ≤ cs.length → ∃ cs' : List Value, Row (w.setCells g o (List.replicate n (.int .i64 0))) g t cs'.toArray ∧ cs'.take o = cs.take o ∧ Only g w (w.setCells g o (List.replicate n (.int .i64 0)))
 | 0, w, cs, o, h, _ => ⟨cs, h, rfl, rfl, rfl, rfl, rfl, fun _ _ => rfl⟩
 | n + 1, w, cs, o, h, hn => by
  have h1 := h.set o (.int .i64 0)
  have o1 := ZD w g o (.int .i64 0)
  rw [show cs.toArray.setIfInBounds o (.int .i64 0) = (cs.set o (.int .i64 0)).toArray by simp] at h1
  obtain ⟨cs', h2, h3, o2⟩ := Vs n (o + 1) h1 (by simp; omega)
  refine ⟨cs', h2, ?_, ⟨o2.os.trans o1.os, o2.tape.trans o1.tape, o2.output.trans o1.output, o2.size.trans o1.size, fun k hk => (o2.block k hk).trans (o1.block k hk)⟩⟩
  have := congrArg (fun m : List Value => m.take o) h3
  simp only [List.take_take] at this
  rw [show min o (o + 1) = o by omega, List.take_set_of_le (Nat.le_refl _)] at this
  exact this
theorem U9 {P : Program} {o : Oper} {w w1 : World} {ρ : Operand → Value} {s : Operand} {t : TypeId} (ho : o.op = .call { callee := .builtin .clear, args := #[s], argTypes := #[t] }) {v : Value} (hv : (Builtin.clear_ #[t] o.type #[ρ s]).run P w = .ok v w1) : (execOp ρ o).run P w = .ok (.value v) w1 := by
 unfold execOp
 simp only [ho, resolve, invoke, builtin, Sem.run_bind, Sem.run_pure, Result.andThen_ok, List.map_toArray, List.map_cons, List.map_nil, hv]
theorem Adj (g cap b : Nat) (but : Int) (l z : List Int) (w : World) (hr : Row w g 3 (Qg (l ++ z)).toArray) (hb : Row w b 3 #[.int .i64 but]) (hgb : b ≠ g) (hl : l.length ≤ 1000) (hc : l.length ≤ cap) (hcm : cap ≤ maxLen) :
 Calls Tryz.prog 303 #[.slice (some ⟨g, 0, none⟩) l.length cap, .func (.func 304) #[] #[.pointer (some ⟨b, 0, none⟩)]] w fun e w' => e = .returned (.slice (some ⟨g, 0, none⟩) (l.filter (· != but)).length cap) ∧ OnRow g w w' ∧ ∃ cs : Array Value, Row w' g 3 cs ∧ ∀ (j : Nat) (u : Value), (Qg (l.filter (· != but)))[j]? = some u → cs[j]? = some u := by
 have H1 := Lh (AdK g cap b but l z w hr hb hl)
 have Hb := Lh hb
 have Hr := Lh hr
 have hl' : (l.length : Int) ≤ 1000 := by omega
 have hc' : (l.length : Int) ≤ (cap : Int) := by omega
 have hcm' : (cap : Int) ≤ 9223372036854775807 := by unfold maxLen at hcm; omega
 clear hb hr hl hcm
 go_enter Tryz.func303, Tryz.ntmps303
 go_wp2_with fail
 refine H1.out.mono ?_
 clear H1
 rintro e w' ⟨hres, rfl⟩
 rcases hres with ⟨i, rfl, hi, hall⟩ | ⟨rfl, hall⟩
 rotate_left
 · have he : l.filter (· != but) = l := List.filter_eq_self.2 (fun x hx => by simpa using hall x hx)
   have He := Lh he
   clear he hall
   go_wp2_with fail
   go_ret
   refine ⟨by rw [He.out]; rfl, OnRow.of_below (Below.refl _ _), _, Hr.out, fun j u hj => ?_⟩
   rw [He.out] at hj
   rw [Jz]
   simp only [List.getElem?_toArray]
   rw [List.getElem?_append_left (List.getElem?_eq_some_iff.1 hj).1]; exact hj
 have hil := (List.getElem?_eq_some_iff.1 hi).1
 obtain ⟨hd0, hn0⟩ := Del.start (z := z) hi hall
 have hd : (l.take (i + 1)).filter (· != but) = (l.take (i + 1)).filter (· != but) := rfl
 have Hd0 := Lh hd0
 have Hn0 := Lh hn0
 have hiI : (i : Int) < (l.length : Int) := by omega
 have hne1 : ((i : Int) == -1) = false := by simp
 clear hall hd0 hn0 hi hd
 go_wp2_with fail
 go_loopw [5, 6] (fun a j wr => ∃ (k : Nat) (cs : List Int), j = .int .i64 (k : Int) ∧ a = .int .i64 ((((l.take k).filter (· != but)).length : Nat) : Int) ∧ k ≤ l.length ∧ ((l.take k).filter (· != but)).length < k ∧ Hid (Del but l z k cs) ∧ Row wr g 3 (Qg cs).toArray ∧ OnRow g w wr) (fun _ j _ => l.length - (intOf j).toNat)
 case atStart => exact ⟨i + 1, l ++ z, by go_num, by rw [Hn0.out], by omega, by rw [Hn0.out]; omega, Hd0, Hr.out, OnRow.of_below (Below.refl _ _)⟩
 case round =>
  obtain ⟨k, cs, rfl, rfl, hk, hfk, Hd, hrow, hon⟩ := hrel
  by_cases hlt : k < l.length
  · obtain ⟨x, hx⟩ : ∃ x, l[k]? = some x := ⟨_, List.getElem?_eq_getElem hlt⟩
    have hgx := Hd.out.get hx
    have hcx := hrow.cellv (i := k) (v := .int .i64 x) (by simp [Qg, hgx])
    have Hc1 := Lh (VI b but x wr (hon.row Hb.out hgb))
    have Hx := Lh hx
    have hltI : (k : Int) < (l.length : Int) := by omega
    clear hx hlt hgx
    go_wp2_with fail
    refine Hc1.out.mono ?_
    rintro e w' ⟨rfl, rfl⟩
    by_cases hs : x = but
    · have hs' : (x == but) = true := by simpa using hs
      rw [hs']
      obtain ⟨hd2, hn2⟩ := Hd.out.skip Hx.out hs
      have Hd2 := Lh hd2
      have Hn2 := Lh hn2
      clear hs hs' Hc1 hcx Hx hd2 hn2
      go_wp2_with fail
      go_roundw
      case rel => exact ⟨k + 1, cs, by go_num, by rw [Hn2.out], by omega, by rw [Hn2.out]; omega, Hd2, hrow, hon⟩
      case measure => simp [intOf]; omega
    · have hs' : (x == but) = false := by simpa using hs
      rw [hs']
      obtain ⟨hd2, hn2⟩ := Hd.out.put Hx.out hs hfk
      generalize hn : ((l.take k).filter (· != but)).length = n at *
      have Hd2 := Lh hd2
      have Hn2 := Lh hn2
      have hnI : (n : Int) < (l.length : Int) := by omega
      have hcz : ∃ y, cs[n]? = some y := ⟨_, List.getElem?_eq_getElem (by have := Hd.out.size; rw [List.length_append] at this; omega)⟩
      obtain ⟨y, hy⟩ := hcz
      have hcn := hrow.cellv (i := n) (v := .int .i64 y) (by simp [Qg, hy])
      have hfn := hrow.free n
      have o9 := ZD wr g n (.int .i64 x)
      have r9 := hrow.set n (.int .i64 x)
      rw [show (Qg cs).toArray.setIfInBounds n (.int .i64 x) = (Qg (cs.set n x)).toArray by simp [Qg]] at r9
      have on9 := hon.trans (OnRow.of_only o9)
      clear hs hs' Hc1 hcx Hx hd2 hn2 hy hn o9 hrow hon
      go_wp2_with fail
      go_roundw
      case rel => exact ⟨k + 1, cs.set n x, by go_num, by rw [Hn2.out]; go_num, by omega, by rw [Hn2.out]; omega, Hd2, r9, on9⟩
      case measure => simp [intOf]; omega
  · obtain rfl : k = l.length := by omega
    have hfl : (l.take l.length).filter (· != but) = l.filter (· != but) := by rw [List.take_length]
    rw [hfl] at hfk ⊢
    have hsz := Hd.out.size
    have hhd := Hd.out.head
    rw [hfl] at hhd
    rw [List.length_append] at hsz
    generalize hn : (l.filter (· != but)).length = n at *
    have hnI : (n : Int) < (l.length : Int) := by omega
    have hnI2 : (n : Int) ≤ (cap : Int) := by omega
    obtain ⟨cs', h2, h3, o2⟩ := Vs (l.length - n) (cs := Qg cs) n hrow (by rw [KF]; omega)
    have hclr := Lib.run_clear_slice (P := Tryz.prog) wr 22 3 0 (.int .i64 0) Tryz.underlying22 (fun W => by kernel_rfl) rfl rfl g n (l.length - n) (cap - n) (by omega) (fun j hj => by
     have hj2 : n + j < cs.length := by omega
     rw [hrow.cellv (i := n + j) (v := .int .i64 cs[n + j]) (by simp [Qg, hj2])]; rfl) (fun j hj => hrow.free (n + j))
    have HF : Hid (OnRow g w (wr.setCells g n (List.replicate (l.length - n) (.int .i64 0))) ∧ ∃ cs : Array Value, Row (wr.setCells g n (List.replicate (l.length - n) (.int .i64 0))) g 3 cs ∧ ∀ (j : Nat) (u : Value), (Qg (l.filter (· != but)))[j]? = some u → cs[j]? = some u) := ⟨hon.trans (OnRow.of_only o2), _, h2, fun j u hj => by
     have hjn : j < n := by have := (List.getElem?_eq_some_iff.1 hj).1; rw [KF] at this; omega
     have e1 : cs'[j]? = (Qg cs)[j]? := by
      have := congrArg (fun m : List Value => m[j]?) h3
      simpa [List.getElem?_take, hjn] using this
     have e2 : cs[j]? = (l.filter (· != but))[j]? := by
      have := congrArg (fun m : List Int => m[j]?) hhd
      simpa [List.getElem?_take, hjn] using this
     simp only [List.getElem?_toArray]
     rw [e1]
     simp only [Qg, List.getElem?_map] at hj ⊢
     rw [e2]; exact hj⟩
    have Hclr := Lh hclr
    clear hclr h2 h3 o2 hon hrow hhd hsz Hd hfl hlt hk
    generalize wr.setCells g n (List.replicate (l.length - n) (.int .i64 0)) = w9 at HF Hclr
    go_wp2_with (refine Zv rfl _ (U9 rfl Hclr.out) ?_)
    go_ret
    exact ⟨by rw [hn]; rfl, HF.out⟩
def IntB (W : World) (A : Option Addr) : Prop := ∀ a, A = some a → ∃ cs : Array Value, Row W a.block 3 cs
theorem IntB.go {W W' : World} {A : Option Addr} (h : IntB W A) (b : Below W.heap.size W W') : IntB W' A := fun a e => by
 obtain ⟨cs, hr⟩ := h a e
 exact ⟨cs, hr.below b hr.lt⟩
theorem AaC {w : World} {base n : Nat} {v : Value} {xs : List Value} {A : Option Addr} {m c : Nat} (h : w.ownsRow base 3 1 v n xs) (e : v = .slice A m c) : IntB w A := fun a ha => by
 rcases h.2 with ⟨e2, _⟩ | ⟨g, c, cur, e2, hb, hr, _⟩
 · rw [e] at e2; injection e2 with e3; rw [ha] at e3; cases e3
 · rw [e] at e2; injection e2 with e3; rw [ha] at e3; injection e3 with e3; rw [e3]; exact ⟨cur, hr⟩
structure IntsN (xs : List Int) (w w' : World) (e : Ending) : Prop where
 ex : ∃ A cap, e = .returned (.slice A xs.length cap) ∧ Rd w' A (Qg xs) ∧ (A = none → xs = []) ∧ Below w.heap.size w w' ∧ IntB w' A
def JH (but : Int) (l : List Int) : List Int := (Kn l).filter (· != but)
theorem E9 (g cap B : Nat) (but : Int) (l : List Int) (w : World) (hr : Row w g 3 (Qg l).toArray) (hl : l.length ≤ 1000) (hc : l.length ≤ cap) (hcm : cap ≤ maxLen) (hB : B ≤ g) :
 Calls Tryz.prog 288 #[.int .i64 but, .slice (some ⟨g, 0, none⟩) l.length cap] w fun e w' => ∃ A c, e = .returned (.slice A (JH but l).length c) ∧ Rd w' A (Qg (JH but l)) ∧ (A = none → JH but l = []) ∧ Below B w w' ∧ IntB w' A := by
 have hgl := hr.lt
 have Hr := Lh hr
 have Hl := Lh hl
 have Hc := Lh hc
 have Hcm := Lh hcm
 clear hr hl hc hcm
 go_enter Tryz.func288, Tryz.ntmps288
 go_wp2_with (refine Qq _ _ rfl ?_)
 refine Stop.to ?_
 refine Qe rfl 3 _ rfl #[.int .i64 but] rfl ?_
 intro P Pw Ph Pr Pb
 have hPg : P ≠ g := by omega
 have rg := Hr.out.below Pb (by omega)
 have on1 : OnRow g w Pw := OnRow.of_below (Pb.mono Ph)
 have rP := Pr
 have Hs := Lh (Ac7 g cap l Pw rg Hl.out)
 clear Pb Pr Ph
 go_wp2_with fail
 refine Hs.out.mono ?_
 clear Hs rg
 rintro e w1 ⟨rfl, r1, on2⟩
 have rP1 := on2.row rP hPg
 have on3 := on1.trans on2
 have hml : (l.mergeSort fun x y => decide (x ≤ y)).length = l.length := List.length_mergeSort l
 have Hk := Lh (Ek g cap (l.mergeSort fun x y => decide (x ≤ y)) w1 r1 (by rw [hml]; exact Hl.out) (by rw [hml]; exact Hc.out))
 rw [hml, AcQ] at Hk
 clear rP on1 on2 hml r1
 go_wp2_with fail
 refine Hk.out.mono ?_
 clear Hk
 rintro e w2 ⟨rfl, r2, on4⟩
 have rP2 := on4.row rP1 hPg
 have on5 := on3.trans on4
 have hsl : (Kn l).length ≤ l.length := UJ l
 have Hd := Lh (Adj g cap P but (Kn l) (List.replicate (l.length - (Kn l).length) 0) w2 r2 rP2 hPg (by have := Hl.out; omega) (by have := Hc.out; omega) Hcm.out)
 clear rP1 on3 on4 r2 rP2 hsl
 go_wp2_with fail
 refine Hd.out.mono ?_
 clear Hd
 rintro e w3 ⟨rfl, on6, cs, r3, hcs⟩
 have on7 := on5.trans on6
 have HF : Hid (Below B w w3 ∧ IntB w3 (some ⟨g, 0, none⟩) ∧ Rd w3 (some ⟨g, 0, none⟩) (Qg (JH but l))) := ⟨on7.below hB (by omega), fun a e => by injection e with e; subst e; exact ⟨_, r3⟩, fun j u hj => ⟨_, rfl, by
  have := r3.cellv (hcs j u hj)
  unfold Addr.add
  by_cases h0 : j = 0
  · subst h0; exact this
  · rw [if_neg h0]; simpa using this⟩⟩
 clear on5 on6 on7 r3 hcs
 go_wp2_with fail
 go_ret
 exact ⟨_, _, rfl, HF.out.2.2, by simp, HF.out.1, HF.out.2.1⟩
theorem Em : (Tryz.prog.info? 3).map (fun i => (i.zero, i.size)) = some (some (.int .i64 0), 1) := by kernel_rfl
def Zt (x : Nd) : List Int := if x.tag = 1 then JH x.n [0, 1] else [0, 1]
theorem Aay (x : Nd) (w : World) :
 Calls Tryz.prog 289 #[.agg x.cells.toArray] w fun e w' => IntsN (Zt x) w w' e := by
 rw [show x.cells.toArray = #[.int .i64 x.tag, .int .i64 x.n] from rfl]
 go_enter Tryz.func289, Tryz.ntmps289
 go_wp2_with (refine Qq _ _ rfl ?_)
 refine Stop.to ?_
 refine Qe rfl 85 _ rfl #[.int .i64 x.tag, .int .i64 x.n] rfl ?_
 intro G Gw Gh Gr Gb
 have c0 := Gr.cellv (i := 0) (v := .int .i64 x.tag) rfl
 have c1 := Gr.cellv (i := 1) (v := .int .i64 x.n) rfl
 have b1 := (Below.refl w.heap.size w).trans (Gb.mono Gh)
 clear Gb Gh Gr
 by_cases ht : x.tag = 1
 · have ht' : (x.tag == 1) = true := by simpa using ht
   have Hz : Hid (Zt x = JH x.n [0, 1]) := by show _ = _; unfold Zt; rw [if_pos ht]
   clear ht
   go_wp2_with (refine ZH _ _ _ rfl ?_)
   refine Stop.to ?_
   refine QC rfl 22 2 _ rfl 3 (Qg [0, 1]).toArray (Jj Tryz.underlying22 Em (by decide) (by decide) (by kernel_rfl)) ?_
   intro M Mw Mh Mr Mb
   have b2 := b1.trans ((Mb.mono Mh).mono b1.size)
   have Ho := Lh (E9 M 2 w.heap.size x.n [0, 1] Mw Mr (by simp) (by simp) (by unfold maxLen; omega) (by have := b1.size; omega))
   clear Mr Mb Mh c0 c1 b1
   go_wp2_with fail
   refine Ho.out.mono ?_
   clear Ho
   rintro e w3 ⟨A, c, rfl, h1, h2, h3, h4⟩
   have HF : Hid (Rd w3 A (Qg (JH x.n [0, 1])) ∧ (A = none → JH x.n [0, 1] = []) ∧ Below w.heap.size w w3 ∧ IntB w3 A) := ⟨h1, h2, b2.trans h3, h4⟩
   clear h1 h2 h3 h4 b2
   go_wp2_with fail
   go_ret
   exact ⟨A, c, by rw [Hz.out]; rfl, by rw [Hz.out]; exact HF.out⟩
 · have ht' : (x.tag == 1) = false := by simpa using ht
   have Hz : Hid (Zt x = [0, 1]) := by show _ = _; unfold Zt; rw [if_neg ht]
   clear ht
   go_wp2_with (refine ZH _ _ _ rfl ?_)
   refine Stop.to ?_
   refine QC rfl 22 2 _ rfl 3 (Qg [0, 1]).toArray (Jj Tryz.underlying22 Em (by decide) (by decide) (by kernel_rfl)) ?_
   intro M Mw Mh Mr Mb
   have HF : Hid (Rd Mw (some ⟨M, 0, none⟩) (Qg [0, 1]) ∧ Below w.heap.size w Mw ∧ IntB Mw (some ⟨M, 0, none⟩)) := ⟨Ky Mr, b1.trans ((Mb.mono Mh).mono b1.size), fun a e => by injection e with e; subst e; exact ⟨_, Mr⟩⟩
   clear Mr Mb Mh c0 c1 b1
   go_wp2_with fail
   go_ret
   exact ⟨_, _, by rw [Hz.out]; rfl, by rw [Hz.out]; exact HF.out.1, by simp, HF.out.2⟩
def X8 (lo but : Int) (k : Nat) : List Int := ((List.range k).map fun i : Nat => lo + (i : Int)).filter (· != but)
def Z8 (lo hi but : Int) : List Int := X8 lo but (hi + 1 - lo).toNat
theorem AcY (lo but : Int) (k : Nat) : X8 lo but (k + 1) = X8 lo but k ++ if lo + (k : Int) = but then [] else [lo + (k : Int)] := by
 unfold X8
 rw [List.range_succ, List.map_append, List.filter_append]
 by_cases h : lo + (k : Int) = but <;> simp [h]
theorem Acb (lo but : Int) (k : Nat) : (X8 lo but k).length ≤ k := by
 unfold X8
 have := List.length_filter_le (· != but) ((List.range k).map fun i : Nat => lo + (i : Int))
 simpa using this
theorem Y7 (lo hi but : Int) (w : World) (h0 : 0 ≤ lo) (h1 : lo ≤ hi) (h2 : hi ≤ 100) :
 Calls Tryz.prog 287 #[.int .i64 lo, .int .i64 hi, .int .i64 but] w fun e w' => IntsN (Z8 lo hi but) w w' e := by
 obtain ⟨n, hn⟩ : ∃ n, n = (hi + 1 - lo).toNat := ⟨_, rfl⟩
 have hn2 : lo + (n : Int) = hi + 1 := by omega
 have Hn := Lh hn
 clear hn
 go_enter Tryz.func287, Tryz.ntmps287
 go_wp2
 go_loopw [7, 8] (fun v i wr => ∃ k : Nat, i = .int .i64 (lo + (k : Int)) ∧ k ≤ n ∧ wr.ownsRow w.heap.size 3 1 v (X8 lo but k).length (Qg (X8 lo but k)) ∧ Below w.heap.size w wr) (fun _ i _ => (hi + 1 - intOf i).toNat)
 case atStart => exact ⟨0, by simp, Nat.zero_le _, World.ownsRow_nil _ _ _ _, Below.refl _ _⟩
 case round =>
  rename_i v
  obtain ⟨k, rfl, hk, hown, hb⟩ := hrel
  obtain ⟨A, c, rfl, hrd, hcn, hcz, hbl⟩ := XD hown
  have hib := AaC hown rfl
  by_cases hlt : k < n
  · have hle : lo + (k : Int) ≤ hi := by omega
    have hs := AcY lo but k
    have hkl := Acb lo but k
    by_cases hbut : lo + (k : Int) = but
    · have hb' : ((lo + (k : Int)) != but) = false := by simp [hbut]
      rw [if_pos hbut, List.append_nil] at hs
      have Hs := Lh hs
      have Hown := Lh hown
      clear hs hbut hown hrd hcn hcz hbl hib
      go_wp2_with fail
      go_roundw
      case rel => exact ⟨k + 1, by go_num, by omega, by rw [Hs.out]; exact Hown.out, hb⟩
      case measure => simp [intOf]; omega
    · have hb' : ((lo + (k : Int)) != but) = true := by simp [hbut]
      rw [if_neg hbut] at hs
      have Hs := Lh hs
      have Hkl := Lh hkl
      clear hs hbut hrd hcn hcz hbl hkl hib
      go_wp2_with (refine ZH _ _ _ rfl ?_)
      refine Stop.to ?_
      refine QC rfl 22 1 _ rfl 3 #[.int .i64 (lo + (k : Int))] (Jj Tryz.underlying22 Em (by decide) (by decide) (by kernel_rfl)) ?_
      intro M Mw Mh Mr Mb
      have hb2 := hb.trans ((Mb.mono Mh).mono hb.size)
      obtain ⟨v', w', hrun, hown', hgr, _⟩ := Jd (P := Tryz.prog) 22 3 (.int .i64 0) 1 8 Tryz.underlying22 Z3 rfl (by decide) (by decide) (QN hown (Mb.mono Mh)) hb2.size (Ky (cs := [.int .i64 (lo + (k : Int))]) Mr) (m := 1) (cap := 1) rfl (Jm [lo + (k : Int)]) (by simp) (by have := Hkl.out; omega)
      have hb3 := Q5 hb2 (QN hown (Mb.mono Mh)) hgr hb2.size (Nat.le_refl _)
      have HF : Hid (w'.ownsRow w.heap.size 3 1 v' (X8 lo but (k + 1)).length (Qg (X8 lo but (k + 1))) ∧ Below w.heap.size w w') := ⟨by rw [Hs.out, List.length_append, Jz]; exact hown', hb3⟩
      have Hrun := Lh hrun
      clear hrun hown' hgr hb3 hb2 hb Mr Mb Mh hown Hs Hkl
      go_wp2_with (refine Zv rfl _ (Zc rfl Hrun.out) ?_)
      go_roundw
      case rel => exact ⟨k + 1, by go_num, by omega, HF.out⟩
      case measure => simp [intOf]; omega
  · obtain rfl : k = n := by omega
    have hgt : hi < lo + (k : Int) := by omega
    have HF : Hid (Rd wr A (Qg (Z8 lo hi but)) ∧ (A = none → Z8 lo hi but = []) ∧ X8 lo but k = Z8 lo hi but ∧ IntB wr A) := by
     have e : X8 lo but k = Z8 lo hi but := by unfold Z8; rw [Hn.out]
     rw [← e]
     exact ⟨hrd, fun e => by have := hcz e; have : (X8 lo but k).length = 0 := by omega
                             exact List.eq_nil_of_length_eq_zero this, rfl, hib⟩
    clear hrd hcz hown hbl hib
    go_wp2_with fail
    go_ret
    exact ⟨A, c, by rw [← HF.out.2.2.1]; rfl, HF.out.1, HF.out.2.1, hb, HF.out.2.2.2⟩
def Jf {α : Type} (P : Program) (g : Nat) (lb : Array Value) (encs : α → Array Value) (own : Nat → Prop) (Kp : Nat → World → World → Prop) (Px : List α → α → World → Prop) (S Sp : List α → Prop) (N : Nat) (st : Prop) (w : World) : Prop :=
 ∀ (l : Nat) (J Jx : List α → World → Prop) (W : World), (w.heap.size ≤ l ∧ l < W.heap.size) → w.grownBy W none → (st ∨ ∀ pre W', ¬ Jx pre W') → U7 own W.heap.size J → U7 own W.heap.size Jx →
  (∀ pre x W1, J pre W1 → Px pre x W1 → pre.length < N → YieldAt Fence.wide 0 P l (encs x) W1 fun e W' =>
   (e = .returned (.bool true) ∧ J (pre ++ [x]) W' ∧ Kp l W1 W') ∨ (e = .returned (.bool false) ∧ Jx (pre ++ [x]) W' ∧ Kp l W1 W')) →
  J [] W →
  CallsIn Fence.wide 0 P g (#[.func (.yield l) #[] #[]] ++ lb) W fun e W' => (∃ v, e = .returned v) ∧ ((∃ xs, S xs ∧ J xs W') ∨ (∃ pre, Sp pre ∧ Jx pre W'))
def AdG {α : Type} (B : Nat) (Kp : World → World → Prop) (I : List α → World → Prop) (Ix : Code → List α → World → Prop) (xs : List α) (W : World) : Exit → Act → World → Prop
 | .normal, _, W' => KeepsFrom B W W' ∧ Kp W W' ∧ I xs W'
 | .ret, _, W' => KeepsFrom B W W' ∧ Kp W W' ∧ Ix .ret xs W'
 | .exit id, _, W' => KeepsFrom B W W' ∧ Kp W W' ∧ Ix (.exit id) xs W'
 | .goto t, _, W' => KeepsFrom B W W' ∧ Kp W W' ∧ Ix (.goto t) xs W'
 | .panic _, _, _ => False
 | .outgrown, _, _ => False
section
variable {P : Program}
theorem YG {α : Type} {g : Operand} {ps : Array Tmp} {assign body : Code} {Q : Exit → Act → World → Prop} {a : Act} {w : World}
 {gf : Nat} {lb : Array Value} (hg : a.eval g = .func (.func gf) #[] lb) (eg : ∀ args w, (callFunc gf args).run P w = .ok (.enter gf args) w)
 {encs : α → Array Value} {own : Nat → Prop} {Kp : Nat → World → World → Prop} {Px : List α → α → World → Prop} {S Sp : List α → Prop} {N : Nat} {st : Prop} {w0 : World} (hseq : Jf P gf lb encs own Kp Px S Sp N st w0)
 (hown : ∀ r, own r → r < w.heap.size)
 (hKt : ∀ {A B C : World}, Kp (w.heap.size + 1) A B → Kp (w.heap.size + 1) B C → Kp (w.heap.size + 1) A C) (hKb : ∀ (W : World) (o o' : Obj), W.heap[w.heap.size + 1]? = some o → o.isCells = false → Kp (w.heap.size + 1) W (W.putObj (w.heap.size + 1) o')) (hb0 : w0.grownBy w none) (hps : ∀ x, (encs x).size = ps.size)
 (I : List α → World → Prop) (Ix : Code → List α → World → Prop) (hst : st ∨ ∀ c pre W, ¬ Ix c pre W) (hI : U7 own w.heap.size I) (hIx : ∀ c, U7 own w.heap.size (Ix c)) (h0 : I [] w) (Ax : List α → α → Act → World → Prop) (hAx : ∀ pre x a', U7 own w.heap.size (fun (_ : Unit) W => Ax pre x a' W))
 (hassign : ∀ (l : Nat) (pre : List α) (x : α) (W : World) (K : Act → World → Prop), I pre W → Px pre x W → (∀ a' W', KeepsFrom w.heap.size W W' → Kp (w.heap.size + 1) W W' → I pre W' → Ax pre x a' W' → K a' W') →
  assign.wpIn (Fence.wide.inRound l) 0 P (Exit.then K (fun _ _ _ => False)) { tmps := (ps.zip (encs x)).foldl (fun t (p, v) => t.setIfInBounds p v) a.tmps, defers := [] } W)
 (hbody : ∀ (l : Nat) (pre : List α) (x : α) (a' : Act) (W : World), l = w.heap.size + 1 → (∃ r, W.heap[l]? = some (.loop r)) → I pre W → Ax pre x a' W → pre.length < N → body.wpIn (Fence.wide.inRound l) 0 P (AdG w.heap.size (Kp (w.heap.size + 1)) I Ix (pre ++ [x]) W) a' W)
 (hdone : ∀ (D : Nat) (xs : List α) (W : World), w.heap.size ≤ D → S xs → I xs W → W.heap[D]? = some (.deferred (some [])) → Q .normal { a with defers := { target := .collected D, args := #[] } :: a.defers } W)
 (hstop : ∀ (D : Nat) (c : Code) (pre : List α) (W : World), w.heap.size ≤ D → Sp pre → Ix c pre W → W.heap[D]? = some (.deferred (some [])) → c.wpIn Fence.wide 0 P Q { a with defers := { target := .collected D, args := #[] } :: a.defers } W) :
 (Code.rangeFunc g ps assign body).wpIn Fence.wide 0 P Q a w := by
 refine wpIn_rangeFunc ?_
 intro fn hfn
 obtain ⟨rec, hrec⟩ : ∃ rec : LoopState → Option Code → Loop, rec = fun st pe => { state := st, pending := pe, fn, tmps := a.tmps, params := ps, assign, body, defers := w.heap.size } := ⟨_, rfl⟩
 obtain ⟨W1, hW1⟩ : ∃ W1, (w.alloc (.deferred (some []))).alloc (.loop (rec .ready none)) = W1 := ⟨_, rfl⟩
 have hL1 : W1.heap[w.heap.size + 1]? = some (.loop (rec .ready none)) := by
  rw [← hW1]; have := World.alloc_heap_new (w.alloc (.deferred (some []))) (.loop (rec .ready none)); rwa [World.size_alloc] at this
 have hK1 : W1.heap[w.heap.size]? = some (.deferred (some [])) := by
  rw [← hW1]; exact (Below.heap_alloc _ _ _ (by simp)).trans (World.alloc_heap_new w _)
 have hIput : ∀ {s : List α} {W : World} {l : Nat} {o : Obj} (o' : Obj), I s W → w.heap.size ≤ l → W.heap[l]? = some o → o.isCells = false → I s (W.putObj l o') :=
  fun o' hs hB hl ho => hI _ _ _ (some _) hs (grownBy_putObj' _ _ o') (fun r e => by cases e; exact .inr ⟨hB, _, hl, ho⟩)
 have hIxput : ∀ {c : Code} {s : List α} {W : World} {l : Nat} {o : Obj} (o' : Obj), Ix c s W → w.heap.size ≤ l → W.heap[l]? = some o → o.isCells = false → Ix c s (W.putObj l o') :=
  fun o' hs hB hl ho => hIx _ _ _ _ (some _) hs (grownBy_putObj' _ _ o') (fun r e => by cases e; exact .inr ⟨hB, _, hl, ho⟩)
 have hI1 : I [] W1 := by
  rw [← hW1]; exact hI _ _ _ none (hI _ _ _ none h0 (World.grownBy_alloc _ _ _) (fun r e => by cases e)) (World.grownBy_alloc _ _ _) (fun r e => by cases e)
 have hg1 : w0.grownBy W1 none := by
  rw [← hW1]
  exact ⟨hb0.os, hb0.tape, hb0.output, Nat.le_trans hb0.size (by simp; omega), fun k hk _ => by
   have := hb0.size
   rw [Below.heap_alloc _ _ _ (by simp; omega), Below.heap_alloc _ _ _ (by omega)]; exact hb0.block k hk (by simp)⟩
 have s1 : W1.heap.size = w.heap.size + 2 := by rw [← hW1]; simp
 refine ⟨w.heap.size + 1, [{ target := .collected w.heap.size, args := #[] }], W1, { target := .fn (.func gf) lb, args := #[.func (.yield (w.heap.size + 1)) #[] #[]] }, W1, gf,
  #[.func (.yield (w.heap.size + 1)) #[] #[]] ++ lb, W1, ?_, ?_, ?_, ?_, (fun h => by cases h), ?_⟩
 · rw [← hW1, hrec]; exact run_enterLoop_outer _ _ _ _ _
 · simp only [resolve, hg]
   simp [go_sem]
 · intro f' _; trivial
 · simp [invoke, go_sem, eg]
 · have hnw : ∀ {A B : World} {row : Option Nat}, (∀ r, row = some r → own r ∨ (W1.heap.size ≤ r ∧ ∃ o : Obj, A.heap[r]? = some o ∧ o.isCells = false)) → (∀ r, row = some r → own r ∨ (w.heap.size ≤ r ∧ ∃ o : Obj, A.heap[r]? = some o ∧ o.isCells = false)) :=
    fun hr r e => by
     rcases hr r e with h | ⟨hB, h⟩
     · exact .inl h
     · exact .inr ⟨by omega, h⟩
   have hbk : ∀ {A B : World} {row : Option Nat} {k : Nat} {o : Obj}, A.grownBy B row → (∀ r, row = some r → own r ∨ (W1.heap.size ≤ r ∧ ∃ o : Obj, A.heap[r]? = some o ∧ o.isCells = false)) → w.heap.size ≤ k → k < W1.heap.size → A.heap[k]? = some o → B.heap[k]? = some o :=
    fun hg' hr h1 h2 hk => (hg'.block _ (Array.getElem?_eq_some_iff.1 hk).1 (fun e => by
     rcases hr _ e.symm with h | ⟨h, _⟩
     · have := hown _ h; omega
     · omega)).trans hk
   refine (hseq (w.heap.size + 1)
    (fun pre W => I pre W ∧ W.heap[w.heap.size + 1]? = some (.loop (rec .ready none)) ∧ W.heap[w.heap.size]? = some (.deferred (some [])))
    (fun pre W => ∃ c, Ix c pre W ∧ W.heap[w.heap.size + 1]? = some (.loop (rec .done (some c))) ∧ W.heap[w.heap.size]? = some (.deferred (some [])))
    W1 ⟨by have := hb0.size; omega, by omega⟩ hg1 (hst.imp id fun h pre W' => by rintro ⟨c, hc, _⟩; exact h c pre W' hc)
    (fun s A B row hs hg' hr => ⟨hI s A B row hs.1 hg' (hnw (B := B) hr), hbk hg' hr (by omega) (by omega) hs.2.1, hbk hg' hr (by omega) (by omega) hs.2.2⟩)
    (fun s A B row hs hg' hr => by
     obtain ⟨c, hc, hl, hk⟩ := hs
     exact ⟨c, hIx c s A B row hc hg' (hnw (B := B) hr), hbk hg' hr (by omega) (by omega) hl, hbk hg' hr (by omega) (by omega) hk⟩)
    ?_ ⟨hI1, hL1, hK1⟩).mono ?_
   · rintro pre x W ⟨hi, hl, hk⟩ hpx hlen
     have hlt : w.heap.size + 1 < W.heap.size := (Array.getElem?_eq_some_iff.1 hl).1
     have hy := run_yield (P := P) (args := encs x) hl (by rw [hrec]; exact hps x)
     rw [hrec] at hy
     refine ⟨fn, _, assign, body, hy, roundIn_of_wpIn hfn (hassign _ pre x W _ hi hpx ?_)⟩
     clear hy
     intro a' Wa hkfa hkpa hia hax
     replace hl := hkfa.same _ _ (by omega) hl rfl
     replace hk := hkfa.same _ _ (Nat.le_refl _) hk rfl
     replace hlt : w.heap.size + 1 < Wa.heap.size := (Array.getElem?_eq_some_iff.1 hl).1
     refine ⟨_, run_beginRound hl (by rw [hrec]), ?_⟩
     have hl2 : (Wa.putObj (w.heap.size + 1) (.loop { rec .ready none with state := .busy })).heap[w.heap.size + 1]? = some (.loop { rec .ready none with state := .busy }) := World.putObj_heap_same hlt
     have hk2 : (Wa.putObj (w.heap.size + 1) (.loop { rec .ready none with state := .busy })).heap[w.heap.size]? = some (.deferred (some [])) := (World.putObj_heap_other (by omega)).trans hk
     have hw2 : Kp (w.heap.size + 1) Wa (Wa.putObj (w.heap.size + 1) (.loop { rec .ready none with state := .busy })) := hKb _ _ _ hl rfl
     refine wpIn_mono (hbody _ pre x a' _ rfl ⟨_, hl2⟩ (hIput _ hia (by omega) hl rfl) (hAx pre x a' () _ _ (some _) hax (grownBy_putObj' _ _ _) (fun r e => by cases e; exact .inr ⟨by omega, _, hl, rfl⟩)) hlen) ?_
     have fin : ∀ (jump : Option Code) (W3 : World), KeepsFrom w.heap.size (Wa.putObj (w.heap.size + 1) (.loop { rec .ready none with state := .busy })) W3 →
      (Instr.endRound (w.heap.size + 1) jump).run P W3 = .ok (.bool jump.isNone) (W3.putObj (w.heap.size + 1) (.loop (rec (if jump.isNone then .ready else .done) jump))) ∧
      W3.heap[w.heap.size + 1]? = some (.loop { rec .ready none with state := .busy }) ∧
      (W3.putObj (w.heap.size + 1) (.loop (rec (if jump.isNone then .ready else .done) jump))).heap[w.heap.size + 1]? = some (.loop (rec (if jump.isNone then .ready else .done) jump)) ∧
      (W3.putObj (w.heap.size + 1) (.loop (rec (if jump.isNone then .ready else .done) jump))).heap[w.heap.size]? = some (.deferred (some [])) := fun jump W3 hk3 => by
      have hl3 := hk3.same _ _ (by omega) hl2 rfl
      have := run_endRound (P := P) jump hl3
      rw [hrec] at this ⊢
      exact ⟨this, by rw [hrec] at hl3; exact hl3, World.putObj_heap_same (Array.getElem?_eq_some_iff.1 hl3).1, (World.putObj_heap_other (by omega)).trans (hk3.same _ _ (Nat.le_refl _) hk2 rfl)⟩
     rintro e a3 W3 hp
     cases e with
     | normal =>
      obtain ⟨hk3, hkp3, hi3⟩ := hp
      obtain ⟨hr, hl3, hl4, hk4⟩ := fin none W3 hk3
      exact ⟨_, _, hr, .inl ⟨rfl, ⟨hIput _ hi3 (by omega) hl3 rfl, hl4, hk4⟩, hKt hkpa (hKt (hKt hw2 hkp3) (hKb _ _ _ hl3 rfl))⟩⟩
     | ret =>
      obtain ⟨hk3, hkp3, hi3⟩ := hp
      obtain ⟨hr, hl3, hl4, hk4⟩ := fin (some .ret) W3 hk3
      exact ⟨_, _, hr, .inr ⟨rfl, ⟨.ret, hIxput _ hi3 (by omega) hl3 rfl, hl4, hk4⟩, hKt hkpa (hKt (hKt hw2 hkp3) (hKb _ _ _ hl3 rfl))⟩⟩
     | exit id =>
      obtain ⟨hk3, hkp3, hi3⟩ := hp
      obtain ⟨hr, hl3, hl4, hk4⟩ := fin (some (.exit id)) W3 hk3
      exact ⟨_, _, hr, .inr ⟨rfl, ⟨.exit id, hIxput _ hi3 (by omega) hl3 rfl, hl4, hk4⟩, hKt hkpa (hKt (hKt hw2 hkp3) (hKb _ _ _ hl3 rfl))⟩⟩
     | goto t =>
      obtain ⟨hk3, hkp3, hi3⟩ := hp
      obtain ⟨hr, hl3, hl4, hk4⟩ := fin (some (.goto t)) W3 hk3
      exact ⟨_, _, hr, .inr ⟨rfl, ⟨.goto t, hIxput _ hi3 (by omega) hl3 rfl, hl4, hk4⟩, hKt hkpa (hKt (hKt hw2 hkp3) (hKb _ _ _ hl3 rfl))⟩⟩
     | panic ch => exact hp.elim
     | outgrown => exact hp.elim
   · rintro e W2 ⟨⟨v, rfl⟩, (⟨xs, hS, hi, hl, hk⟩ | ⟨pre, hSp, c, hi, hl, hk⟩)⟩
     · exact ⟨none, _, by have := run_endLoop (P := P) hl (by rw [hrec]; simp); rw [hrec] at this; exact this, hdone _ xs _ (Nat.le_refl _) hS (hIput _ hi (by omega) hl rfl) ((World.putObj_heap_other (by omega)).trans hk)⟩
     · exact ⟨some c, _, by have := run_endLoop (P := P) hl (by rw [hrec]; simp); rw [hrec] at this; exact this, hstop _ c pre _ (Nat.le_refl _) hSp (hIxput _ hi (by omega) hl rfl) ((World.putObj_heap_other (by omega)).trans hk)⟩
end
end Go.Proofs.YtdcmppdhdcjpfaaGreat
