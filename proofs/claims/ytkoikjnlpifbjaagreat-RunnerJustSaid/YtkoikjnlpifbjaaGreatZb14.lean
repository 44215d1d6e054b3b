/- Lemmas for RunnerJustP. -/
import Derived.Test.YtkoikjnlpifbjaaGreatZb1
import Derived.Test.YtkoikjnlpifbjaaGreatZb13
import Derived.Test.YtkoikjnlpifbjaaGreatZb8
import Derived.Test.YtkoikjnlpifbjaaGreatZb11
set_option linter.unusedVariables false
set_option linter.unusedSimpArgs false
set_option maxRecDepth 100000
set_option maxHeartbeats 16000000
namespace Go.Proofs.YtkoikjnlpifbjaaGreat
open Go.RowKit Go.Deep
theorem AbU (d : Array Int) (cs : Array Value) (h : cs.size = d.size) : Sort.putCells (Value.int .i64) 0 d cs = d.map (Value.int .i64) := by
 unfold Sort.putCells;apply Array.ext
 · simp [h]
 · intro i c b;have hi : i < d.size := by simpa using b
   simp [hi]
theorem Vs {w : World} {g : Nat} {t : TypeId} {cs : Array Value} (hr : Row w g t cs) (d : Array Int) (h : cs.size = d.size) : Row (Sort.putRow (Value.int .i64) w g 0 d) g t (d.map (Value.int .i64)) ∧ Only g w (Sort.putRow (Value.int .i64) w g 0 d) := by
 unfold Sort.putRow Sort.mapBlock;refine ⟨?_, rfl, rfl, rfl, by simp, fun k b => ?_⟩
 · show (w.heap.modify g _)[g]? = _;rw [Ng, if_pos rfl, show w.heap[g]? = some (.cells cs t (0, 0)) from hr];simp [Sort.onCells, AbU d cs h]
 · show (w.heap.modify g _)[k]? = _;rw [Ng, if_neg (Ne.symm b)]
theorem Aa6 {w : World} {g : Nat} {t : TypeId} {l : List Int} (hr : Row w g t (Qj l).toArray) : Sort.Holds (Value.int .i64) w g 0 l.toArray := fun j hj => by
 have b : j < l.length := by simpa using hj
 refine ⟨?_, by have := hr.free (0 + j); exact this⟩;have := hr.cellv (i := j) (v := .int .i64 l[j]) (by simp [Qj, b]);rw [LN, this]; simp [b]
theorem Ada (l : List Int) : l.toArray.map (Value.int .i64) = (Qj l).toArray := by simp [Qj]
structure OnRow (g : Nat) (w w' : World) : Prop where
 gr : w.grownBy w' (some g)
theorem OnRow.trans {g : Nat} {a b c : World} (h : OnRow g a b) (k : OnRow g b c) : OnRow g a c := ⟨⟨k.gr.os.trans h.gr.os, k.gr.tape.trans h.gr.tape, k.gr.output.trans h.gr.output, Li h.gr.size k.gr.size, fun i hi hx => (k.gr.block i (Lg hi h.gr.size) hx).trans (h.gr.block i hi hx)⟩⟩
theorem OnRow.of_below {g : Nat} {a b : World} (h : Below a.heap.size a b) : OnRow g a b := ⟨⟨h.os, h.tape, h.output, h.size, fun i hi _ => h.block i hi⟩⟩
theorem OnRow.of_only {g : Nat} {a b : World} (h : Only g a b) : OnRow g a b := ⟨⟨h.os, h.tape, h.output, LM h.size.symm, fun i _ hx => h.block i (fun e => hx (by rw [e]))⟩⟩
theorem OnRow.below {g B : Nat} {a b : World} (h : OnRow g a b) (hg : B ≤ g) (hB : B ≤ a.heap.size) : Below B a b := ⟨h.gr.os, h.gr.tape, h.gr.output, h.gr.size, fun i hi => h.gr.block i (by omega) (fun e => by injection e; omega)⟩
theorem OnRow.row {g k : Nat} {a b : World} {t : TypeId} {cs : Array Value} (h : OnRow g a b) (hr : Row a k t cs) (hk : k ≠ g) : Row b k t cs := (h.gr.block k hr.lt (fun e => hk (by injection e))).trans hr
theorem AgO (g cap : Nat) (l : List Int) (w : World) (hr : Row w g 3 (Qj l).toArray) (hl : l.length ≤ 1000) :
 Calls Tryz.prog 229 #[.slice (some ⟨g, 0, none⟩) l.length cap] w fun e w' => e = .returned (.tuple #[]) ∧ Row w' g 3 (Qj (l.mergeSort fun x y => decide (x ≤ y))).toArray ∧ OnRow g w w' := by
 refine (slices_Sort_int g 0 cap l w (Aa6 hr) hr.lt (by omega)).mono ?_;rintro e w' ⟨rfl, n, c, rfl⟩;have h : Row (Sort.ahead w n) g 3 (Qj l).toArray := hr.drewN n;obtain ⟨b, i⟩ := Vs h (l.mergeSort fun x y => decide (x ≤ y)).toArray (by simp [Qj]);rw [Ada] at b;have j : Below w.heap.size w (Sort.ahead w n) := ZZ (Below.refl _ _) n;have d : ∀ (W : World) (c : Array Obj), Below W.heap.size W (Sort.grow W c) := fun W c => ⟨rfl, rfl, rfl, by simp [Sort.grow], fun k m => by simp [Sort.grow, Array.getElem?_append_left m]⟩;exact ⟨rfl, b.below (d _ _) b.lt, (OnRow.of_below j).trans ((OnRow.of_only i).trans (OnRow.of_below (d _ _)))⟩
theorem AbF (g cap : Nat) (l : List Int) (w : World) (hr : Row w g 3 (Qj l).toArray) (hl : l.length ≤ 1000) (hc : l.length ≤ cap) :
 Calls Tryz.prog 230 #[.slice (some ⟨g, 0, none⟩) l.length cap] w fun e w' => e = .returned (.slice (some ⟨g, 0, none⟩) (Lib.compact l).length cap) ∧ Row w' g 3 (Qj (Lib.compact l ++ List.replicate (l.length - (Lib.compact l).length) 0)).toArray ∧ OnRow g w w' := by
 refine (slices_Compact_int g 0 cap l w (Aa6 hr) (by omega) hc).mono ?_;rintro e w' ⟨rfl, n, rfl⟩;have c : Row (Sort.ahead w n) g 3 (Qj l).toArray := hr.drewN n
 have i : (Lib.compact l).length ≤ l.length := by
  unfold Lib.compact Lib.compactUpTo;rw [Lz];have := N2 (Lib.keeps l.toArray) (List.range l.length);rwa [List.length_range] at this
 obtain ⟨b, d⟩ := Vs c (Lib.compact l ++ List.replicate (l.length - (Lib.compact l).length) 0).toArray (by simp [Qj]; omega);rw [Ada] at b;have h : Below w.heap.size w (Sort.ahead w n) := ZZ (Below.refl _ _) n;exact ⟨rfl, b, (OnRow.of_below h).trans (OnRow.of_only d)⟩
theorem Abm (b : Nat) (but x : Int) (w : World) (hr : Row w b 3 #[.int .i64 but]) :
 Calls Tryz.prog 232 #[.int .i64 x, .pointer (some ⟨b, 0, none⟩)] w fun e w' => e = .returned (.bool (x == but)) ∧ w = w' := by
 have c := hr.cellv (i := 0) (v := .int .i64 but) rfl;go_enter Tryz.func232, Tryz.ntmps232
 go_wp2
 go_ret
 exact ⟨rfl, rfl⟩
theorem AjJ {l z : List Int} {k : Nat} {x : Int} (hlt : k < l.length) (hx : l[k]? = some x) : (Qj (l ++ z)).toArray[k]? = some (.int .i64 x) := by
 have : (Qj (l ++ z))[k]? = some (.int .i64 x) := by rw [KD, LC (by rw [Ju]; exact hlt)]; simp [Qj, hx]
 simpa using this
theorem Aak {but : Int} {l : List Int} {k : Nat} {x : Int} (h : ∀ y ∈ l.take k, y ≠ but) (hx : l[k]? = some x) (hp : x ≠ but) : ∀ y ∈ l.take (k + 1), y ≠ but := by
 rw [LG, hx];intro y b;rcases L5.1 b with b | b
 · exact h y b
 · simp at b; subst b; exact hp
theorem AhB (g cap b : Nat) (but : Int) (l z : List Int) (w : World) (hr : Row w g 3 (Qj (l ++ z)).toArray) (hb : Row w b 3 #[.int .i64 but]) (hl : l.length ≤ 1000) :
 Calls Tryz.prog 235 #[.slice (some ⟨g, 0, none⟩) l.length cap, .func (.func 232) #[] #[.pointer (some ⟨b, 0, none⟩)]] w fun e w' => ((∃ i : Nat, e = .returned (.int .i64 (i : Int)) ∧ l[i]? = some but ∧ ∀ x ∈ l.take i, x ≠ but) ∨ (e = .returned (.int .i64 (-1)) ∧ ∀ x ∈ l, x ≠ but)) ∧ w = w' := by
 have y := Lv hr;have t := Lv hb;have aa : (l.length : Int) ≤ 1000 := by omega
 clear hr hb hl;go_enter Tryz.func235, Tryz.ntmps235
 go_wp2
 go_loop [8] (fun i => ∃ k : Nat, i = .int .i64 (k : Int) ∧ k ≤ l.length ∧ Hid (∀ x ∈ l.take k, x ≠ but)) (fun i => l.length - (intOf i).toNat)
 case atStart => exact ⟨0, rfl, Nat.zero_le _, Lv (fun x m => by simp at m)⟩
 case round =>
  obtain ⟨k, rfl, hk, c⟩ := hrel;by_cases h : k < l.length
  · obtain ⟨x, m⟩ : ∃ x, l[k]? = some x := ⟨_, La h⟩;have q := y.out.cellv (i := k) (v := .int .i64 x) (AjJ h m);have n := Lv m;have o := Lv (Abm b but x w t.out);have s : (k : Int) < (l.length : Int) := by omega
    clear m h;go_wp2_with fail
    refine o.out.mono ?_;rintro e w' ⟨rfl, rfl⟩;by_cases j : x = but
    · have d : (x == but) = true := by simpa using j
      rw [d];have p : Hid (l[k]? = some but) := by show _ = _; rw [n.out, j]
      clear j d o q n;go_wp2_with fail
      go_ret
      exact ⟨.inl ⟨k, rfl, p.out, c.out⟩, rfl⟩
    · have d : (x == but) = false := by simpa using j
      rw [d];have u := Lv (Aak c.out n.out j);clear j d o q n;go_wp2_with fail
      go_round
      case rel => exact ⟨k + 1, by go_num, by omega, u⟩
      case measure => simp [intOf]; omega
  · obtain rfl : k = l.length := by omega
    have p : Hid (∀ x ∈ l, x ≠ but) := by have := c.out; rwa [LW] at this
    clear h hk;go_wp2
    go_ret
    exact ⟨.inr ⟨rfl, p.out⟩, rfl⟩
structure Del (but : Int) (l z : List Int) (k : Nat) (cs : List Int) : Prop where
 size : cs.length = (l ++ z).length
 head : cs.take ((l.take k).filter (· != but)).length = (l.take k).filter (· != but)
 tail : cs.drop k = (l ++ z).drop k
theorem Del.get {but : Int} {l z : List Int} {k : Nat} {cs : List Int} (h : Del but l z k cs) {x : Int} (hx : l[k]? = some x) : cs[k]? = some x := by
 have b := (Ld.1 hx).1;have := congrArg (fun m : List Int => m[0]?) h.tail;simp only [Nv, Nat.add_zero] at this;rw [this, LC b, hx]
theorem Del.skip {but : Int} {l z : List Int} {k : Nat} {cs : List Int} (h : Del but l z k cs) {x : Int} (hx : l[k]? = some x) (hb : x = but) : Del but l z (k + 1) cs ∧ ((l.take (k + 1)).filter (· != but)).length = ((l.take k).filter (· != but)).length := by
 have e : (l.take (k + 1)).filter (· != but) = (l.take k).filter (· != but) := by rw [LG, hx, NF]; simp [hb]
 refine ⟨⟨h.size, by rw [e]; exact h.head, ?_⟩, by rw [e]⟩;have := congrArg (fun m : List Int => m.drop 1) h.tail;simpa [Nn] using this
theorem Del.put {but : Int} {l z : List Int} {k : Nat} {cs : List Int} (h : Del but l z k cs) {x : Int} (hx : l[k]? = some x) (hb : x ≠ but) (hlt : ((l.take k).filter (· != but)).length < k) : Del but l z (k + 1) (cs.set ((l.take k).filter (· != but)).length x) ∧ ((l.take (k + 1)).filter (· != but)).length = ((l.take k).filter (· != but)).length + 1 := by
 have g := (Ld.1 hx).1;have e : (l.take (k + 1)).filter (· != but) = (l.take k).filter (· != but) ++ [x] := by rw [LG, hx, NF]; simp [hb]
 have d := h.size;rw [Lf] at d;have c := h.head;generalize b : ((l.take k).filter (· != but)).length = n at *;refine ⟨⟨by rw [LS]; exact h.size, ?_, ?_⟩, by rw [e, Lf, b]; rfl⟩
 · rw [e, Lf, b, Ni, LG, List.take_set_of_le (Nat.le_refl _), c];congr 1;rw [List.getElem?_set, if_pos rfl, if_pos (by omega)]; rfl
 · rw [List.drop_set_of_lt (by omega)];have := congrArg (fun m : List Int => m.drop 1) h.tail;simpa [Nn] using this
theorem Del.start {but : Int} {l z : List Int} {i : Nat} (hi : l[i]? = some but) (hall : ∀ x ∈ l.take i, x ≠ but) : Del but l z (i + 1) (l ++ z) ∧ ((l.take (i + 1)).filter (· != but)).length = i := by
 have d := (Ld.1 hi).1
 have e : (l.take (i + 1)).filter (· != but) = l.take i := by
  rw [LG, hi, NF, List.filter_eq_self.2 (fun x c => by simpa using hall x c)]; simp
 have b : (l.take i).length = i := by rw [L7]; omega
 refine ⟨⟨rfl, ?_, rfl⟩, by rw [e, b]⟩;rw [e, b, Nx (by omega)]
theorem AaW {g : Nat} {t : TypeId} : ∀ (n : Nat) {w : World} {cs : List Value} (o : Nat), Row w g t cs.toArray → o + n ≤ cs.length → ∃ cs' : List Value, Row (w.setCells g o (List.replicate n (.int .i64 0))) g t cs'.toArray ∧ cs'.take o = cs.take o ∧ Only g w (w.setCells g o (List.replicate n (.int .i64 0)))
 | 0, w, cs, o, h, _ => ⟨cs, h, rfl, rfl, rfl, rfl, rfl, fun _ _ => rfl⟩
 | n + 1, w, cs, o, h, hn => by
  have h1 := h.set o (.int .i64 0)
  have o1 := Q6 w g o (.int .i64 0)
  rw [show cs.toArray.setIfInBounds o (.int .i64 0) = (cs.set o (.int .i64 0)).toArray by simp] at h1
  obtain ⟨cs', h2, h3, o2⟩ := AaW n (o + 1) h1 (by simp; omega)
  refine ⟨cs', h2, ?_, ⟨o2.os.trans o1.os, o2.tape.trans o1.tape, o2.output.trans o1.output, o2.size.trans o1.size, fun k hk => (o2.block k hk).trans (o1.block k hk)⟩⟩
  have := congrArg (fun m : List Value => m.take o) h3
  simp only [NL] at this
  rw [show min o (o + 1) = o by omega, List.take_set_of_le (Nat.le_refl _)] at this
  exact this
theorem E8 {P : Program} {o : Oper} {w w1 : World} {ρ : Operand → Value} {s : Operand} {t : TypeId} (ho : o.op = .call { callee := .builtin .clear, args := #[s], argTypes := #[t] }) {v : Value} (hv : (Builtin.clear_ #[t] o.type #[ρ s]).run P w = .ok v w1) : (execOp ρ o).run P w = .ok (.value v) w1 := by
 unfold execOp;simp only [ho, resolve, invoke, builtin, Sem.run_bind, Sem.run_pure, Result.andThen_ok, N1, LQ, Np, hv]
theorem Ahq (g cap b : Nat) (but : Int) (l z : List Int) (w : World) (hr : Row w g 3 (Qj (l ++ z)).toArray) (hb : Row w b 3 #[.int .i64 but]) (hgb : b ≠ g) (hl : l.length ≤ 1000) (hc : l.length ≤ cap) (hcm : cap ≤ maxLen) :
 Calls Tryz.prog 231 #[.slice (some ⟨g, 0, none⟩) l.length cap, .func (.func 232) #[] #[.pointer (some ⟨b, 0, none⟩)]] w fun e w' => e = .returned (.slice (some ⟨g, 0, none⟩) (l.filter (· != but)).length cap) ∧ OnRow g w w' ∧ ∃ cs : Array Value, Row w' g 3 cs ∧ ∀ (j : Nat) (u : Value), (Qj (l.filter (· != but)))[j]? = some u → cs[j]? = some u := by
 have H1 := Lv (AhB g cap b but l z w hr hb hl);have Hb := Lv hb;have Hr := Lv hr;have a7 : (l.length : Int) ≤ 1000 := by omega
 have a2 : (l.length : Int) ≤ (cap : Int) := by omega
 have ay : (cap : Int) ≤ 9223372036854775807 := by unfold maxLen at hcm; omega
 clear hb hr hl hcm;go_enter Tryz.func231, Tryz.ntmps231
 go_wp2_with fail
 refine H1.out.mono ?_;clear H1;rintro e w' ⟨ao, rfl⟩;rcases ao with ⟨i, rfl, hi, d⟩ | ⟨rfl, d⟩;rotate_left
 · have he : l.filter (· != but) = l := List.filter_eq_self.2 (fun x hx => by simpa using d x hx);have He := Lv he;clear he d;go_wp2_with fail
   go_ret
   refine ⟨by rw [He.out]; rfl, OnRow.of_below (Below.refl _ _), _, Hr.out, fun j u t => ?_⟩;rw [He.out] at t;rw [KD];simp only [NI];rw [LC (Ld.1 t).1]; exact t
 have a6 := (Ld.1 hi).1;obtain ⟨aj, an⟩ := Del.start (z := z) hi d;have hd : (l.take (i + 1)).filter (· != but) = (l.take (i + 1)).filter (· != but) := rfl;have aq := Lv aj;have ah := Lv an;have a5 : (i : Int) < (l.length : Int) := by omega
 have a1 : ((i : Int) == -1) = false := by simp
 clear d aj an hi hd;go_wp2_with fail
 go_loopw [5, 6] (fun a j wr => ∃ (k : Nat) (cs : List Int), j = .int .i64 (k : Int) ∧ a = .int .i64 ((((l.take k).filter (· != but)).length : Nat) : Int) ∧ k ≤ l.length ∧ ((l.take k).filter (· != but)).length < k ∧ Hid (Del but l z k cs) ∧ Row wr g 3 (Qj cs).toArray ∧ OnRow g w wr) (fun _ j _ => l.length - (intOf j).toNat)
 case atStart => exact ⟨i + 1, l ++ z, by go_num, by rw [ah.out], by omega, by rw [ah.out]; omega, aq, Hr.out, OnRow.of_below (Below.refl _ _)⟩
 case round =>
  obtain ⟨k, cs, rfl, rfl, hk, ak, Hd, c, h⟩ := hrel;by_cases ag : k < l.length
  · obtain ⟨x, hx⟩ : ∃ x, l[k]? = some x := ⟨_, La ag⟩;have al := Hd.out.get hx;have ai := c.cellv (i := k) (v := .int .i64 x) (by simp [Qj, al]);have ac := Lv (Abm b but x wr (h.row Hb.out hgb));have Hx := Lv hx;have az : (k : Int) < (l.length : Int) := by omega
    clear hx ag al;go_wp2_with fail
    refine ac.out.mono ?_;rintro e w' ⟨rfl, rfl⟩;by_cases hs : x = but
    · have s : (x == but) = true := by simpa using hs
      rw [s];obtain ⟨p, q⟩ := Hd.out.skip Hx.out hs;have ad := Lv p;have o := Lv q;clear hs s ac ai Hx p q;go_wp2_with fail
      go_roundw
      case rel => exact ⟨k + 1, cs, by go_num, by rw [o.out], by omega, by rw [o.out]; omega, ad, c, h⟩
      case measure => simp [intOf]; omega
    · have s : (x == but) = false := by simpa using hs
      rw [s];obtain ⟨p, q⟩ := Hd.out.put Hx.out hs ak;generalize hn : ((l.take k).filter (· != but)).length = n at *;have ad := Lv p;have o := Lv q;have aw : (n : Int) < (l.length : Int) := by omega
      have au : ∃ y, cs[n]? = some y := ⟨_, La (by have := Hd.out.size; rw [Lf] at this; omega)⟩;obtain ⟨y, hy⟩ := au;have a3 := c.cellv (i := n) (v := .int .i64 y) (by simp [Qj, hy]);have a4 := c.free n;have o9 := Q6 wr g n (.int .i64 x);have r9 := c.set n (.int .i64 x);rw [show (Qj cs).toArray.setIfInBounds n (.int .i64 x) = (Qj (cs.set n x)).toArray by simp [Qj]] at r9;have ax := h.trans (OnRow.of_only o9);clear hs s ac ai Hx p q hy hn o9 c h;go_wp2_with fail
      go_roundw
      case rel => exact ⟨k + 1, cs.set n x, by go_num, by rw [o.out]; go_num, by omega, by rw [o.out]; omega, ad, r9, ax⟩
      case measure => simp [intOf]; omega
  · obtain rfl : k = l.length := by omega
    have ae : (l.take l.length).filter (· != but) = l.filter (· != but) := by rw [LW]
    rw [ae] at ak ⊢;have ap := Hd.out.size;have af := Hd.out.head;rw [ae] at af;rw [Lf] at ap;generalize hn : (l.filter (· != but)).length = n at *;have aw : (n : Int) < (l.length : Int) := by omega
    have a0 : (n : Int) ≤ (cap : Int) := by omega
    obtain ⟨ar, h2, h3, o2⟩ := AaW (l.length - n) (cs := Qj cs) n c (by rw [Ju]; omega)
    have ab := Lib.run_clear_slice (P := Tryz.prog) wr 22 3 0 (.int .i64 0) Tryz.underlying22 (fun W => by kernel_rfl) rfl rfl g n (l.length - n) (cap - n) (by omega) (fun j t => by
     have av : n + j < cs.length := by omega
     rw [c.cellv (i := n + j) (v := .int .i64 cs[n + j]) (by simp [Qj, av])]; rfl) (fun j t => c.free (n + j))
    have HF : Hid (OnRow g w (wr.setCells g n (List.replicate (l.length - n) (.int .i64 0))) ∧ ∃ cs : Array Value, Row (wr.setCells g n (List.replicate (l.length - n) (.int .i64 0))) g 3 cs ∧ ∀ (j : Nat) (u : Value), (Qj (l.filter (· != but)))[j]? = some u → cs[j]? = some u) := ⟨h.trans (OnRow.of_only o2), _, h2, fun j u t => by
     have am : j < n := by have := (Ld.1 t).1; rw [Ju] at this; omega
     have e1 : ar[j]? = (Qj cs)[j]? := by
      have := congrArg (fun m : List Value => m[j]?) h3
      simpa [List.getElem?_take, am] using this
     have e2 : cs[j]? = (l.filter (· != but))[j]? := by
      have := congrArg (fun m : List Int => m[j]?) af
      simpa [List.getElem?_take, am] using this
     simp only [NI]
     rw [e1]
     simp only [Qj, L6] at t ⊢
     rw [e2]; exact t⟩
    have aa := Lv ab;clear ab h2 h3 o2 h c af ap Hd ae ag hk;generalize wr.setCells g n (List.replicate (l.length - n) (.int .i64 0)) = w9 at HF aa;go_wp2_with (refine Zc rfl _ (E8 rfl aa.out) ?_)
    go_ret
    exact ⟨by rw [hn]; rfl, HF.out⟩
def IntB (W : World) (A : Option Addr) : Prop := ∀ a, A = some a → ∃ cs : Array Value, Row W a.block 3 cs
theorem IntB.go {W W' : World} {A : Option Addr} (h : IntB W A) (b : Below W.heap.size W W') : IntB W' A := fun a e => by
 obtain ⟨d, c⟩ := h a e;exact ⟨d, c.below b c.lt⟩
theorem Uy {w : World} {base n : Nat} {v : Value} {xs : List Value} {A : Option Addr} {m c : Nat} (h : w.ownsRow base 3 1 v n xs) (e : v = .slice A m c) : IntB w A := fun a ha => by
 rcases h.2 with ⟨b, _⟩ | ⟨g, c, d, b, j, i, _⟩
 · rw [e] at b; injection b with e3; rw [ha] at e3; cases e3
 · rw [e] at b; injection b with e3; rw [ha] at e3; injection e3 with e3; rw [e3]; exact ⟨d, i⟩
structure IntsN (xs : List Int) (w w' : World) (e : Ending) : Prop where
 ex : ∃ A cap, e = .returned (.slice A xs.length cap) ∧ Rd w' A (Qj xs) ∧ (A = none → xs = []) ∧ Below w.heap.size w w' ∧ IntB w' A
def JX (but : Int) (l : List Int) : List Int := (Xg l).filter (· != but)
theorem AdG (g cap B : Nat) (but : Int) (l : List Int) (w : World) (hr : Row w g 3 (Qj l).toArray) (hl : l.length ≤ 1000) (hc : l.length ≤ cap) (hcm : cap ≤ maxLen) (hB : B ≤ g) :
 Calls Tryz.prog 213 #[.int .i64 but, .slice (some ⟨g, 0, none⟩) l.length cap] w fun e w' => ∃ A c, e = .returned (.slice A (JX but l).length c) ∧ Rd w' A (Qj (JX but l)) ∧ (A = none → JX but l = []) ∧ Below B w w' ∧ IntB w' A := by
 have ab := hr.lt;have Hr := Lv hr;have Hl := Lv hl;have Hc := Lv hc;have z := Lv hcm;clear hr hl hc hcm;go_enter Tryz.func213, Tryz.ntmps213
 go_wp2_with (refine Qm _ _ rfl ?_)
 refine Stop.to ?_;refine Qe rfl 3 _ rfl #[.int .i64 but] rfl ?_;intro P Pw Ph Pr Pb;have d : P ≠ g := by omega
 have rg := Hr.out.below Pb (by omega);have m : OnRow g w Pw := OnRow.of_below (Pb.mono Ph);have rP := Pr;have Hs := Lv (AgO g cap l Pw rg Hl.out);clear Pb Pr Ph;go_wp2_with fail
 refine Hs.out.mono ?_;clear Hs rg;rintro e w1 ⟨rfl, r1, h⟩;have s := h.row rP d;have n := m.trans h;have b : (l.mergeSort fun x y => decide (x ≤ y)).length = l.length := List.length_mergeSort l;have Hk := Lv (AbF g cap (l.mergeSort fun x y => decide (x ≤ y)) w1 r1 (by rw [b]; exact Hl.out) (by rw [b]; exact Hc.out));rw [b, AgP] at Hk;clear rP m h b r1;go_wp2_with fail
 refine Hk.out.mono ?_;clear Hk;rintro e w2 ⟨rfl, r2, i⟩;have t := i.row s d;have o := n.trans i;have aa : (Xg l).length ≤ l.length := Aai l;have Hd := Lv (Ahq g cap P but (Xg l) (List.replicate (l.length - (Xg l).length) 0) w2 r2 t d (by have := Hl.out; omega) (by have := Hc.out; omega) z.out);clear s n i r2 t aa;go_wp2_with fail
 refine Hd.out.mono ?_;clear Hd;rintro e w3 ⟨rfl, p, cs, r3, k⟩;have q := o.trans p
 have v : Hid (Below B w w3 ∧ IntB w3 (some ⟨g, 0, none⟩) ∧ Rd w3 (some ⟨g, 0, none⟩) (Qj (JX but l))) := ⟨q.below hB (by omega), fun a e => by injection e with e; subst e; exact ⟨_, r3⟩, fun j u hj => ⟨_, rfl, by
  have := r3.cellv (k j u hj)
  unfold Addr.add
  by_cases h0 : j = 0
  · subst h0; exact this
  · rw [if_neg h0]; simpa using this⟩⟩
 clear o p q r3 k;go_wp2_with fail
 go_ret
 exact ⟨_, _, rfl, v.out.2.2, by simp, v.out.1, v.out.2.1⟩
theorem AbM : (Tryz.prog.info? 3).map (fun i => (i.zero, i.size)) = some (some (.int .i64 0), 1) := by kernel_rfl
def ZD (x : Nd) : List Int := if x.tag = 1 then JX x.n [0, 1] else [0, 1]
theorem Acu (x : Nd) (w : World) :
 Calls Tryz.prog 214 #[.agg x.cells.toArray] w fun e w' => IntsN (ZD x) w w' e := by
 rw [show x.cells.toArray = #[.int .i64 x.tag, .int .i64 x.n] from rfl];go_enter Tryz.func214, Tryz.ntmps214
 go_wp2_with (refine Qm _ _ rfl ?_)
 refine Stop.to ?_;refine Qe rfl 65 _ rfl #[.int .i64 x.tag, .int .i64 x.n] rfl ?_;intro G Gw t o s;have z := o.cellv (i := 0) (v := .int .i64 x.tag) rfl;have c1 := o.cellv (i := 1) (v := .int .i64 x.n) rfl;have b := (Below.refl w.heap.size w).trans (s.mono t);clear s t o;by_cases g : x.tag = 1
 · have p : (x.tag == 1) = true := by simpa using g
   have h : Hid (ZD x = JX x.n [0, 1]) := by show _ = _; unfold ZD; rw [if_pos g]
   clear g;go_wp2_with (refine ZE _ _ _ rfl ?_)
   refine Stop.to ?_;refine Qz rfl 22 2 _ rfl 3 (Qj [0, 1]).toArray (Z6 Tryz.underlying22 AbM (by decide) (by decide) (by kernel_rfl)) ?_;intro M l k d j;have y := b.trans ((j.mono k).mono b.size);have u := Lv (AdG M 2 w.heap.size x.n [0, 1] l d (by simp) (by simp) (by unfold maxLen; omega) (by have := b.size; omega));clear d j k z c1 b;go_wp2_with fail
   refine u.out.mono ?_;clear u;rintro e q ⟨A, c, rfl, h1, h2, h3, h4⟩;have m : Hid (Rd q A (Qj (JX x.n [0, 1])) ∧ (A = none → JX x.n [0, 1] = []) ∧ Below w.heap.size w q ∧ IntB q A) := ⟨h1, h2, y.trans h3, h4⟩;clear h1 h2 h3 h4 y;go_wp2_with fail
   go_ret
   exact ⟨A, c, by rw [h.out]; rfl, by rw [h.out]; exact m.out⟩
 · have p : (x.tag == 1) = false := by simpa using g
   have h : Hid (ZD x = [0, 1]) := by show _ = _; unfold ZD; rw [if_neg g]
   clear g;go_wp2_with (refine ZE _ _ _ rfl ?_)
   refine Stop.to ?_;refine Qz rfl 22 2 _ rfl 3 (Qj [0, 1]).toArray (Z6 Tryz.underlying22 AbM (by decide) (by decide) (by kernel_rfl)) ?_;intro M l k d j;have m : Hid (Rd l (some ⟨M, 0, none⟩) (Qj [0, 1]) ∧ Below w.heap.size w l ∧ IntB l (some ⟨M, 0, none⟩)) := ⟨Jq d, b.trans ((j.mono k).mono b.size), fun a e => by injection e with e; subst e; exact ⟨_, d⟩⟩;clear d j k z c1 b;go_wp2_with fail
   go_ret
   exact ⟨_, _, by rw [h.out]; rfl, by rw [h.out]; exact m.out.1, by simp, m.out.2⟩
def UI (lo but : Int) (k : Nat) : List Int := ((List.range k).map fun i : Nat => lo + (i : Int)).filter (· != but)
def Jy (lo hi but : Int) : List Int := UI lo but (hi + 1 - lo).toNat
theorem AgM (lo but : Int) (k : Nat) : UI lo but (k + 1) = UI lo but k ++ if lo + (k : Int) = but then [] else [lo + (k : Int)] := by
 unfold UI;rw [List.range_succ, LT, NF];by_cases h : lo + (k : Int) = but <;> simp [h]
theorem AfS (lo but : Int) (k : Nat) : (UI lo but k).length ≤ k := by
 unfold UI;have := N2 (· != but) ((List.range k).map fun i : Nat => lo + (i : Int));simpa using this
theorem VS (lo hi but : Int) (w : World) (h0 : 0 ≤ lo) (h1 : lo ≤ hi) (h2 : hi ≤ 100) :
 Calls Tryz.prog 212 #[.int .i64 lo, .int .i64 hi, .int .i64 but] w fun e w' => IntsN (Jy lo hi but) w w' e := by
 obtain ⟨n, hn⟩ : ∃ n, n = (hi + 1 - lo).toNat := ⟨_, rfl⟩;have ai : lo + (n : Int) = hi + 1 := by omega
 have Hn := Lv hn;clear hn;go_enter Tryz.func212, Tryz.ntmps212
 go_wp2
 go_loopw [7, 8] (fun v i wr => ∃ k : Nat, i = .int .i64 (lo + (k : Int)) ∧ k ≤ n ∧ wr.ownsRow w.heap.size 3 1 v (UI lo but k).length (Qj (UI lo but k)) ∧ Below w.heap.size w wr) (fun _ i _ => (hi + 1 - intOf i).toNat)
 case atStart => exact ⟨0, by simp, Nat.zero_le _, World.ownsRow_nil _ _ _ _, Below.refl _ _⟩
 case round =>
  rename_i v;obtain ⟨k, rfl, hk, b, z⟩ := hrel;obtain ⟨A, c, rfl, o, ab, j, q⟩ := X9 b;have l := Uy b rfl;by_cases ah : k < n
  · have ag : lo + (k : Int) ≤ hi := by omega
    have t := AgM lo but k;have ad := AfS lo but k;by_cases d : lo + (k : Int) = but
    · have ae : ((lo + (k : Int)) != but) = false := by simp [d]
      rw [if_pos d, Na] at t;have Hs := Lv t;have x := Lv b;clear t d b o ab j q l;go_wp2_with fail
      go_roundw
      case rel => exact ⟨k + 1, by go_num, by omega, by rw [Hs.out]; exact x.out, z⟩
      case measure => simp [intOf]; omega
    · have ae : ((lo + (k : Int)) != but) = true := by simp [d]
      rw [if_neg d] at t;have Hs := Lv t;have u := Lv ad;clear t d o ab j q ad l;go_wp2_with (refine ZE _ _ _ rfl ?_)
      refine Stop.to ?_;refine Qz rfl 22 1 _ rfl 3 #[.int .i64 (lo + (k : Int))] (Z6 Tryz.underlying22 AbM (by decide) (by decide) (by kernel_rfl)) ?_;intro M Mw Mh Mr Mb;have h := z.trans ((Mb.mono Mh).mono z.size);obtain ⟨v', w', p, g, ac, _⟩ := Zp (P := Tryz.prog) 22 3 (.int .i64 0) 1 8 Tryz.underlying22 Jk rfl (by decide) (by decide) (Qy b (Mb.mono Mh)) h.size (Jq (cs := [.int .i64 (lo + (k : Int))]) Mr) (m := 1) (cap := 1) rfl (Jl [lo + (k : Int)]) (by simp) (by have := u.out; omega);have aa := QK h (Qy b (Mb.mono Mh)) ac h.size (Nat.le_refl _);have s : Hid (w'.ownsRow w.heap.size 3 1 v' (UI lo but (k + 1)).length (Qj (UI lo but (k + 1))) ∧ Below w.heap.size w w') := ⟨by rw [Hs.out, Lf, KD]; exact g, aa⟩;have y := Lv p;clear p g ac aa h z Mr Mb Mh b Hs u;go_wp2_with (refine Zc rfl _ (QA rfl y.out) ?_)
      go_roundw
      case rel => exact ⟨k + 1, by go_num, by omega, s.out⟩
      case measure => simp [intOf]; omega
  · obtain rfl : k = n := by omega
    have af : hi < lo + (k : Int) := by omega
    have s : Hid (Rd wr A (Qj (Jy lo hi but)) ∧ (A = none → Jy lo hi but = []) ∧ UI lo but k = Jy lo hi but ∧ IntB wr A) := by
     have e : UI lo but k = Jy lo hi but := by unfold Jy; rw [Hn.out]
     rw [← e]
     exact ⟨o, fun e => by
      have := j e; have : (UI lo but k).length = 0 := by omega
      exact L0 this, rfl, l⟩
    clear o j b q l;go_wp2_with fail
    go_ret
    exact ⟨A, c, by rw [← s.out.2.2.1]; rfl, s.out.1, s.out.2.1, z, s.out.2.2.2⟩
attribute [local go_sem] Oper.semAt_some
structure KpG (Z : Nat → Obj → Prop) (A B : World) : Prop where
 block : ∀ k o, ¬ Z k o → A.heap[k]? = some o → B.heap[k]? = some o
 size : A.heap.size ≤ B.heap.size
theorem KpG.trans {Z : Nat → Obj → Prop} {A B C : World} (h : KpG Z A B) (k : KpG Z B C) : KpG Z A C := ⟨fun i o hx ho => k.block i o hx (h.block i o hx ho), Li h.size k.size⟩
theorem KpG.refl (Z : Nat → Obj → Prop) (A : World) : KpG Z A A := ⟨fun _ _ _ h => h, Nat.le_refl _⟩
theorem KpG.of_below {Z : Nat → Obj → Prop} {A B : World} (h : Below A.heap.size A B) : KpG Z A B := ⟨fun k o _ ho => by rw [h.block k (Lt.1 ho).1]; exact ho, h.size⟩
theorem KpG.row {Z : Nat → Obj → Prop} {A B : World} (h : KpG Z A B) {g : Nat} {t : TypeId} {cs : Array Value} (hr : Row A g t cs) (hx : ¬ Z g (.cells cs t (0, 0))) : Row B g t cs := h.block g _ hx hr
theorem KpG.rd {Z : Nat → Obj → Prop} {A B : World} (h : KpG Z A B) {ad : Option Addr} {xs : List Value} (hr : Rd A ad xs) (hx : xs ≠ [] → ∀ a, ad = some a → ∀ o, ¬ Z a.block o) : Rd B ad xs := fun j u hj => by
 obtain ⟨a, e, i⟩ := hr j u hj;have d : xs ≠ [] := fun e => by rw [e] at hj; simp at hj
 have c := World.block_lt_of_cell? _ _ i;have b : (a.add j).block = a.block := JI a j;rw [b] at c;have g : A.heap[a.block]? = some A.heap[a.block] := NP c;have k := h.block _ _ (hx d a e _) g;exact ⟨a, e, (World.cell?_of_block (by rw [b]; exact k.trans g.symm)).trans i⟩
theorem Ab8 {W : World} {g : Nat} {t : TypeId} {v : Value} (h : Row W g t #[v]) : W.setCell ⟨g, 0, none⟩ v = W := by
 have b := h.set 0 v;have i := Q6 W g 0 v;rw [show (#[v] : Array Value).setIfInBounds 0 v = #[v] by simp] at b
 have e : (W.setCell ⟨g, 0, none⟩ v).heap = W.heap := by
  apply Array.ext_getElem?;intro k;by_cases c : k = g
  · subst c; rw [show (W.setCell ⟨k, 0, none⟩ v).heap[k]? = _ from b, show W.heap[k]? = _ from h]
  · exact i.block k c
 have d : W.setCell ⟨g, 0, none⟩ v = { W with heap := (W.setCell ⟨g, 0, none⟩ v).heap } := rfl;rw [d, e]
structure LsX where
 op : Int
 A : Option Addr
 cap : Nat
 l : List Int
def LsX.f (x : LsX) : Int × List Int := (x.op, x.l)
def LsX.enc (x : LsX) : Array Value := #[.int .i64 x.op, .slice x.A x.l.length x.cap]
structure LsX.ok (x : LsX) (W : World) : Prop where
 rd : Rd W x.A (Qj x.l)
 nil : x.A = none → x.l = []
 ty : IntB W x.A
def LsP (full : List (Int × List Int)) (pre : List LsX) (x : LsX) (W : World) : Prop := x.ok W ∧ ∃ rest, pre.map LsX.f ++ x.f :: rest = full
def Ke (x y : Nd) : List (Int × List Int) :=
 (if 7 ≤ x.tag ∧ x.tag ≤ 11 then [(1, Jy 7 11 x.tag)] else if 12 ≤ x.tag ∧ x.tag ≤ 17 then [(2, Jy 12 17 x.tag)] else if x.tag = 18 ∨ x.tag = 19 then [(3, Jy 18 19 x.tag)]
  else if x.tag = 1 then [(4, JX x.n [0, 1, -1, wrap64 (x.n + 1), wrap64 (x.n - 1)])] else if x.tag = 2 then [(4, [wrap64 (1 - x.n)])] else [])
 ++ (if x.tag = 21 ∨ x.tag = 22 ∨ x.tag = 23 ∨ x.tag = 24 ∨ x.tag = 25 then [(5, [0])] else [])
 ++ (if x.tag = 23 ∨ x.tag = 24 then [(6, [0])] else if x.tag = 25 then [(7, ZD y)] else [])
structure TellC (lb mo yb : Nat) (Z : Nat → Obj → Prop) (W : World) : Prop where
 rm : Row W mo 4 #[.bool true]
 ry : Row W yb 295 #[.func (.yield lb) #[] #[]]
 zm : ∀ cs fr, ¬ Z mo (.cells cs 4 fr)
 zy : ∀ cs fr, ¬ Z yb (.cells cs 295 fr)
theorem TellC.kg {lb mo yb : Nat} {Z : Nat → Obj → Prop} {W W' : World} (h : TellC lb mo yb Z W) (k : KpG Z W W') : TellC lb mo yb Z W' := ⟨k.row h.rm (h.zm _ _), k.row h.ry (h.zy _ _), h.zm, h.zy⟩
theorem Js (lb mo yb : Nat) (Z : Nat → Obj → Prop) (W : World) (x : LsX) (R : World → Prop) (hC : TellC lb mo yb Z W)
 (hY : YieldAt Fence.wide 0 Tryz.prog lb x.enc W fun e W' => e = .returned (.bool true) ∧ R W' ∧ KpG Z W W') :
 CallsIn Fence.wide 0 Tryz.prog 211 #[.int .i64 x.op, .slice x.A x.l.length x.cap, .pointer (some ⟨mo, 0, none⟩), .pointer (some ⟨yb, 0, none⟩)] W fun e W' => (∃ v, e = .returned v) ∧ R W' ∧ KpG Z W W' := by
 have h := Lv hC;obtain ⟨fn, g, b, d, q, o⟩ := hY;have k : (Instr.yield lb #[.int .i64 x.op, .slice x.A x.l.length x.cap]).run Tryz.prog W = .ok (.round lb fn g b d) W := q;have m := Lv o;clear q o hC;have u := h.out.rm.cellv (i := 0) (v := .bool true) rfl;have y := h.out.ry.cellv (i := 0) (v := .func (.yield lb) #[] #[]) rfl;refine callsIn_of_wp Tryz.func211 rfl trivial ?_ rfl;simp only [Tryz.ntmps211, Lm, Le, Lu, Nat.reduceAdd, Nat.reduceSub, Lk, Ll, Ly, LH, Lp, Ln];gi_wp2_with fail
 refine ⟨rfl, m.out.mono ?_⟩;clear k m u y;rintro e n ⟨rfl, p, j⟩;have c := h.out.kg j;have w := c.rm.cellv (i := 0) (v := .bool true) rfl;have z := c.rm.free 0;have t := Lv (Ab8 c.rm);have s : Hid (R n ∧ KpG Z W n) := ⟨p, j⟩;clear p j c;gi_wp2_with fail
 rw [t.out];go_end0
 exact ⟨⟨_, rfl⟩, s.out⟩
structure ListsC (A : Option Addr) (cap n bl Rb : Nat) (x : Nd) (ys : List Nd) (Z : Nat → Obj → Prop) (w : World) : Prop where
 rl : Row w bl 23 #[.slice A n cap]
 hr : Rd w A ((x :: ys).flatMap Nd.cells)
 hn : n = (x :: ys).length
 z1 : ∀ k o, k < w.heap.size → k ≠ Rb → ¬ Z k o
 bn : bl ≠ Rb
 an : ∀ ad, A = some ad → ad.block ≠ Rb
 z2 : ∀ k cs t fr, w.heap.size ≤ k → (t = 295 ∨ t = 65 ∨ t = 4 ∨ t = 3) → ¬ Z k (.cells cs t fr)
 h25 : x.tag = 25 → ys ≠ []
end Go.Proofs.YtkoikjnlpifbjaaGreat
