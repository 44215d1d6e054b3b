/- Lemmas for DirectMutantsP. -/
import Derived.Test.YtdcmppdhdcjpfaaGreatZp1
import Derived.Test.YtdcmppdhdcjpfaaGreatZp4
import Derived.Test.YtdcmppdhdcjpfaaGreatZp20
import Derived.Test.YtdcmppdhdcjpfaaGreatZp13
import Derived.Lib.AppendZerosOnto
import Derived.Lib.SliceRun
set_option linter.unusedVariables false
set_option linter.unusedSimpArgs false
set_option maxRecDepth 100000
set_option maxHeartbeats 16000000
namespace Go.Proofs.YtdcmppdhdcjpfaaGreat
open Go.RowKit Go.Deep
theorem Ea : (Tryz.prog.info? 85).map (fun i => (i.zero, i.size, i.bytes)) = some (some (.agg #[.int .i64 0, .int .i64 0]), 2, 16) := by kernel_rfl
theorem Yh {ops : Array Oper} {rest : List Oper} {o : Oper} {a : Act} {w : World} {Q : Exit → Act → World → Prop} (h : Stop (wpList Tryz.prog ops Q (o :: rest) a w) id) : wpList Tryz.prog ops Q (o :: rest) a w := h.out
theorem Zv {P : Program} {ops : Array Oper} {rest : List Oper} {o : Oper} {a : Act} {w w1 : World} {Q : Exit → Act → World → Prop} (hgd : o.guard = none) (v : Value) (hv : (execOp a.eval o).run P w = .ok (.value v) w1) (h : wpList P ops Q rest (a.put o.dst v) w1) : wpList P ops Q (o :: rest) a w :=
 wpList_plain hgd fun _ hK => by unfold Oper.wp; rw [hv]; exact hK _ _ h
theorem Ys {P : Program} {o : Oper} {w w1 : World} {ρ : Operand → Value} {s x : Operand} {t u : TypeId} (ho : o.op = .call { callee := .builtin .append, args := #[s, x], argTypes := #[t, u] }) {v : Value} (hv : (Builtin.append_ #[t, u] o.type #[ρ s, ρ x]).run P w = .ok v w1) : (execOp ρ o).run P w = .ok (.value v) w1 := by
 unfold execOp
 simp only [ho, resolve, invoke, builtin, Sem.run_bind, Sem.run_pure, Result.andThen_ok, List.map_toArray, List.map_cons, List.map_nil, hv]
theorem AcE (n : Nat) (hn : n ≤ 1000000) (w : World) : Calls Tryz.prog 290 #[.slice none 0 0, .int .i64 (n : Int)] w fun e w' => ∃ A cap, e = .returned (.slice A 0 cap) ∧ w'.ownsRow w.heap.size 85 2 (.slice A 0 cap) 0 [] ∧ Below w.heap.size w w' := by
 have h1 : ¬ ((n : Int) < 0) := by omega
 have h2 : wrap64 ((0 : Int) - 0) = 0 := by unfold wrap64; omega
 have h3 : wrap64 ((n : Int) - 0) = (n : Int) := by unfold wrap64; omega
 have h4 : IntKind.i64.wrap (n : Int) = (n : Int) := IntWalk.i64_in _ (by omega)
 by_cases h0 : n = 0
 · subst h0
   go_enter Tryz.func290, Tryz.ntmps290
   go_wp2
   go_ret
   exact ⟨_, _, rfl, World.ownsRow_nil _ _ _ _, Below.refl _ _⟩
 · have hp : (0 : Int) < (n : Int) := by omega
   obtain ⟨i0, hi0, hz0, hz1, hz2⟩ := info_parts Ea
   have hold : (Builtin.firstCells i0.size 0 (.slice none 0 0)).run Tryz.prog w.drew = .ok ([] : List Value).toArray w.drew := run_firstCells_none w.drew i0.size 0 0 0
   have hrz := fun ty => Lib.run_append_grow_zeros (P := Tryz.prog) w 23 3 ty 85 i0 _ .i64 .i64 Tryz.underlying23 Tryz.underlying3 hi0 hz0 none 0 0 [] hold n (by omega) (by rw [hz1]; omega) (by omega) (by omega) (by rw [hz2]; omega) (growslice_fits (by omega) (by rw [hz2]; omega))
   simp only [Nat.zero_add] at hrz
   have hG1 := grownCap_ge w n 0 85
   have hG2 := grownCap_le_maxLen w n 0 85 (by unfold maxLen; omega)
   generalize grownCap w n 0 85 = G at hrz hG1 hG2
   have hcs : ((([] : List Value).toArray ++ Builtin.zeroCells (Value.agg #[.int .i64 0, .int .i64 0]).cells n ++ Builtin.zeroCells (Value.agg #[.int .i64 0, .int .i64 0]).cells (G - n)) : Array Value).size = G * 2 := by
    simp only [Array.size_append, size_zeroCells]
    show 0 + n * 2 + (G - n) * 2 = G * 2
    omega
   generalize (([] : List Value).toArray ++ Builtin.zeroCells (Value.agg #[.int .i64 0, .int .i64 0]).cells n ++ Builtin.zeroCells (Value.agg #[.int .i64 0, .int .i64 0]).cells (G - n)) = cs at hrz hcs
   have Hrz := Lh hrz
   have hG3 : G ≤ 9223372036854775807 := by unfold maxLen at hG2; omega
   clear hrz hi0 hz0 hz1 hz2 hold h0
   go_enter Tryz.func290, Tryz.ntmps290
   go_wp2_with (at_builtin; refine Yh ?_)
   refine Stop.to ?_
   refine Zv rfl _ (Ys rfl (Hrz.out _)) ?_
   have rn : Row (w.drew.alloc (.cells cs 85)) w.heap.size 85 cs := Row.new w.drew _ _
   have bn : Below w.heap.size w (w.drew.alloc (.cells cs 85)) := (⟨rfl, rfl, rfl, Nat.le_refl _, fun _ _ => rfl⟩ : Below w.heap.size w w.drew).trans ((Below.refl _ w.drew).alloc (Nat.le_refl _) _)
   generalize w.drew.alloc (.cells cs 85) = w1 at rn bn ⊢
   clear Hrz
   go_wp2
   go_ret
   exact ⟨_, _, rfl, ⟨by simp, .inr ⟨w.heap.size, G, cs, rfl, Nat.le_refl _, rn, Nat.zero_le _, hG2, hcs, by simp⟩⟩, bn⟩
structure PtV where
 addr : Option Addr
 cap : Nat
 body : List Nd
def PtV.val (q : PtV) : Value := .slice q.addr q.body.length q.cap
def PtV.rd (q : PtV) (w : World) : Prop := Rd w q.addr (q.body.flatMap Nd.cells) ∧ (q.addr = none → q.body = [])
def Q8 (ps : List PtV) : List Nd := ps.flatMap PtV.body
theorem PtV.rd.go {q : PtV} {w w' : World} (h : q.rd w) (b : Below w.heap.size w w') : q.rd w' := ⟨h.1.go b, h.2⟩
theorem ZP (l : List Nd) : (l.flatMap Nd.cells).length = l.length * 2 := by
 induction l with
 | nil => rfl
 | cons a l ih => simp only [List.flatMap_cons, List.length_append, ih, List.length_cons]; simp [Nd.cells]; omega
theorem Y4 (l : List Nd) : ∀ u ∈ l.flatMap Nd.cells, u.oneCell' = true := by
 intro u hu
 simp only [List.mem_flatMap, Nd.cells, List.mem_cons, List.not_mem_nil, or_false] at hu
 obtain ⟨a, _, rfl | rfl⟩ := hu <;> rfl
theorem AbM {W : World} {B n m cap : Nat} {v : Value} {xs : List Value} {A : Option Addr} {l : List Nd} (hown : W.ownsRow B 85 2 v n xs) (hB : B ≤ W.heap.size) (hr : Rd W A (l.flatMap Nd.cells)) (hm : m = l.length) (hA : A = none → m = 0) (hb : n + m ≤ 1000000) :
 ∃ v' W', (Builtin.append_ #[23, 23] 23 #[v, .slice A m cap]).run Tryz.prog W = .ok v' W' ∧ W'.ownsRow B 85 2 v' (n + m) (xs ++ l.flatMap Nd.cells) ∧ W.grownBy W' v.ownBlock ∧ (v'.ownBlock = v.ownBlock ∨ v'.ownBlock = some W.heap.size) :=
 Jd 23 85 _ 2 16 Tryz.underlying23 Ea rfl (by decide) (by decide) hown hB hr (by rw [ZP, hm]) (Y4 l) hA hb
theorem Ze {w : World} {base n size : Nat} {e : TypeId} {v : Value} {xs : List Value} (h : w.ownsRow base e size v n xs) : ∃ A cap, v = .slice A n cap := by
 rcases h.2 with ⟨rfl, h0⟩ | ⟨g, cap, cur, rfl, _⟩
 · subst h0; exact ⟨_, _, rfl⟩
 · exact ⟨_, _, rfl⟩
theorem YS {ps : List PtV} {k : Nat} {q : PtV} (h : ps[k]? = some q) : Q8 (ps.take (k + 1)) = Q8 (ps.take k) ++ q.body := by
 unfold Q8
 rw [List.take_add_one, h]
 simp
theorem VT (ps : List PtV) (k : Nat) : (Q8 (ps.take k)).length ≤ (Q8 ps).length := by
 have : Q8 ps = Q8 (ps.take k) ++ Q8 (ps.drop k) := by
  unfold Q8
  rw [← List.flatMap_append, List.take_append_drop]
 rw [this]; simp
theorem Abm (A : Option Addr) (m cp : Nat) (ps : List PtV) (w : World) (hm : m = ps.length) (hr : Rd w A (ps.map PtV.val)) (hps : ∀ q ∈ ps, q.rd w) (hl : (Q8 ps).length ≤ 1000000) (hml : m ≤ 1000) :
 Calls Tryz.prog 269 #[.slice A m cp] w fun e w' => ∃ v, e = .returned v ∧ w'.ownsRow w.heap.size 85 2 v (Q8 ps).length ((Q8 ps).flatMap Nd.cells) ∧ Below w.heap.size w w' := by
 have Hr := Lh hr
 have Hps := Lh hps
 have Hm := Lh hm
 have hl' := hl
 clear hr hps hm
 go_enter Tryz.func269, Tryz.ntmps269
 go_wp2
 go_loopw [3, 11] (fun s i wr => ∃ k : Nat, i = .int .i64 (k : Int) ∧ s = .int .i64 ((Q8 (ps.take k)).length : Int) ∧ k ≤ m ∧ w = wr) (fun _ i _ => m - (intOf i).toNat)
 case atStart => exact ⟨0, rfl, by simp [Q8], Nat.zero_le _, rfl⟩
 case round =>
  obtain ⟨k, rfl, rfl, hk, rfl⟩ := hrel
  by_cases hlt : k < m
  · obtain ⟨q, hq⟩ : ∃ q, ps[k]? = some q := ⟨_, List.getElem?_eq_getElem (by have := Hm.out; omega)⟩
    obtain ⟨ad, rfl, hc⟩ := Hr.out k q.val (by simp [hq])
    have hkI : (k : Int) < (m : Int) := by omega
    have hs := YS hq
    have hle := VT ps (k + 1)
    rw [hs, List.length_append] at hle
    have e1 : IntKind.i64.wrap (((Q8 (ps.take k)).length : Int) + (q.body.length : Int)) = ((Q8 (ps.take k)).length : Int) + (q.body.length : Int) := IntWalk.i64_in _ (by omega)
    have e2 : ¬ (((Q8 (ps.take k)).length : Int) + (q.body.length : Int) < 0) := by omega
    have ewk : IntKind.i64.wrap ((k : Int) + 1) = (k : Int) + 1 := IntWalk.i64_in _ (by omega)
    have Hs : Hid ((((Q8 (ps.take k)).length : Int) + (q.body.length : Int)) = ((Q8 (ps.take (k + 1))).length : Int)) := by show _ = _; rw [hs, List.length_append]; omega
    unfold PtV.val at hc
    clear hs hle hq
    generalize (Q8 (ps.take k)).length = sk at *
    go_wp2
    go_roundw
    case rel => exact ⟨k + 1, by go_num, by rw [← Hs.out], by omega, by trivial⟩
    case measure => simp [intOf]; omega
  · obtain rfl : k = m := by omega
    have ht : ps.take k = ps := by rw [Hm.out]; exact List.take_length
    rw [ht]
    obtain ⟨n, hn⟩ : ∃ n, n = (Q8 ps).length := ⟨_, rfl⟩
    have Hn := Lh hn
    rw [← hn] at hl ⊢
    clear hlt hk ht hn hl'
    go_wp2_with fail
    refine (AcE n hl w).mono ?_
    rintro e w1 ⟨A1, c1, rfl, hown, b1⟩
    have Hown := Lh hown
    have Hb1 := Lh b1
    clear hown b1
    go_wp2
    go_loopw [6, 27] (fun s i W => ∃ (k' : Nat) (v : Value), s = v ∧ i = .int .i64 (k' : Int) ∧ k' ≤ k ∧ Hid (W.ownsRow w.heap.size 85 2 v (Q8 (ps.take k')).length ((Q8 (ps.take k')).flatMap Nd.cells)) ∧ Hid (Below w.heap.size w W)) (fun _ i _ => k - (intOf i).toNat)
    case atStart => exact ⟨0, _, rfl, rfl, Nat.zero_le _, by simpa [Q8] using Hown, Hb1⟩
    case round =>
     clear Hown Hb1
     obtain ⟨j, v, rfl, rfl, hj, Hown, Hb⟩ := hrel
     by_cases hlt : j < k
     · obtain ⟨q, hq⟩ : ∃ q, ps[j]? = some q := ⟨_, List.getElem?_eq_getElem (by have := Hm.out; omega)⟩
       obtain ⟨ad, rfl, hc⟩ := (Hr.out.go Hb.out) j q.val (by simp [hq])
       have hqr := (Hps.out q (List.mem_of_getElem? hq)).go Hb.out
       have hjI : (j : Int) < (k : Int) := by omega
       have hs := YS hq
       have hle := VT ps (j + 1)
       rw [hs, List.length_append, ← Hn.out] at hle
       have ewj : IntKind.i64.wrap ((j : Int) + 1) = (j : Int) + 1 := IntWalk.i64_in _ (by omega)
       obtain ⟨v2, W2, hrun, hown2, hgr, _⟩ := AbM (cap := q.cap) Hown.out Hb.out.size hqr.1 (rfl : q.body.length = q.body.length) (fun h => by rw [hqr.2 h]; rfl) (by omega)
       have b2 := Q5 (Below.refl w.heap.size _) Hown.out hgr Hb.out.size (Nat.le_refl _)
       have Hown2 : Hid (W2.ownsRow w.heap.size 85 2 v2 (Q8 (ps.take (j + 1))).length ((Q8 (ps.take (j + 1))).flatMap Nd.cells)) := by
        show W2.ownsRow _ _ _ _ _ _
        rw [hs, List.length_append, List.flatMap_append]; exact hown2
       have Hb2 := Lh (Hb.out.trans b2)
       have Hrun := Lh hrun
       obtain ⟨A2, c2, rfl⟩ := Ze hown2
       obtain ⟨A3, c3, rfl⟩ := Ze Hown.out
       unfold PtV.val at hc
       clear hs hle hq hrun hown2 hgr b2 hqr Hown Hb
       go_wp2_with (at_builtin; refine Yh ?_)
       refine Stop.to ?_
       refine Zv rfl _ (Zc rfl Hrun.out) ?_
       clear Hrun hc
       go_wp2
       go_roundw
       case rel => exact ⟨j + 1, _, rfl, by go_num, by omega, Hown2, Hb2⟩
       case measure => simp [intOf]; omega
     · obtain rfl : j = k := by omega
       have ht : ps.take j = ps := by rw [Hm.out]; exact List.take_length
       rw [ht] at Hown
       obtain ⟨A3, c3, rfl⟩ := Ze Hown.out
       clear hlt hj ht
       go_wp2
       go_ret
       exact ⟨_, rfl, Hown.out, Hb.out⟩
theorem Ky {W : World} {g : Nat} {t : TypeId} {cs : List Value} (h : Row W g t cs.toArray) : Rd W (some ⟨g, 0, none⟩) cs := fun j u hj => ⟨_, rfl, by
 have := h.cellv (i := j) (v := u) (by simpa using hj)
 unfold Addr.add
 by_cases h0 : j = 0
 · subst h0; exact this
 · rw [if_neg h0]; simpa using this⟩
theorem Aec : (Tryz.prog.info? 23).map (fun i => (i.zero, i.size)) = some (some (.slice none 0 0), 1) := by kernel_rfl
structure NdsR (l : List Nd) (w w' : World) (e : Ending) : Prop where
 ex : ∃ v, e = .returned v ∧ w'.ownsRow w.heap.size 85 2 v l.length (l.flatMap Nd.cells) ∧ Below w.heap.size w w'
theorem UY (A : Option Addr) (m cp : Nat) (ps : List PtV) (w : World) (hm : m = ps.length) (hr : Rd w A (ps.map PtV.val)) (hps : ∀ q ∈ ps, q.rd w) (hl : (Q8 ps).length ≤ 1000000) (hml : m ≤ 1000) :
 Calls Tryz.prog 246 #[.slice A m cp] w (fun e w' => NdsR (Q8 ps) w w' e) := by
 have Hc := Lh (Abm A m cp ps w hm hr hps hl hml)
 clear hm hr hps hl hml
 go_enter Tryz.func246, Tryz.ntmps246
 go_wp2_with fail
 refine Hc.out.mono ?_
 rintro e w1 ⟨v, rfl, hown, b1⟩
 obtain ⟨A3, c3, rfl⟩ := Ze hown
 go_wp2
 go_ret
 exact ⟨_, rfl, hown, b1⟩
theorem AdH (A : Option Addr) (cap : Nat) (l : List Nd) (q : Nat) (t : Tr) (w : World) (hat : At l q t) (hr : Rd w A (l.flatMap Nd.cells)) (hl : l.length ≤ 1000) (hlc : l.length ≤ cap) (hcm : cap ≤ maxLen) :
 Calls Tryz.prog 267 #[.slice A l.length cap, .int .i64 (q : Int)] w (fun e w' => NdsR t.flat w w' e) := by
 have he := Jc A cap l (q : Int) w hr hl
 rw [hat.endZ] at he
 have hle := hat.le
 have hts := t.size_eq
 obtain ⟨ad, rfl, _⟩ := QS hr hat.root
 obtain ⟨rest, hrest⟩ := hat.here
 have hpart : ∀ W, Rd W (some ad) (l.flatMap Nd.cells) → Rd W (some (ad.add (q * 2))) (t.flat.flatMap Nd.cells) := by
  intro W h j u hj
  obtain ⟨ad', e, hc⟩ := h.part (q * 2) (t.flat.flatMap Nd.cells) (fun j u hj => by
   have h1 : l = l.take q ++ (t.flat ++ rest) := by rw [← hrest, List.take_append_drop]
   have h2 : (l.take q).length = q := by rw [List.length_take]; omega
   rw [h1, List.flatMap_append, List.getElem?_append_right (by rw [ZP, h2]; omega), ZP, h2, Nat.add_sub_cancel_left, List.flatMap_append, List.getElem?_append_left (List.getElem?_eq_some_iff.1 hj).1]
   exact hj) (by rw [t.flat_eq]; simp [Nd.cells])
  injection e with e
  subst e
  exact ⟨_, rfl, hc j u hj⟩
 have Hpart := Lh hpart
 have He := Lh he
 have Hr := Lh hr
 have Hlen : Hid (t.flat.length = t.size) := rfl
 generalize hsz : t.size = sz at *
 have hcm' : (cap : Int) ≤ 9223372036854775807 := by unfold maxLen at hcm; omega
 have hq1 : (q : Int) ≤ ((q + sz : Nat) : Int) := by omega
 have hq2 : ((q + sz : Nat) : Int) ≤ (cap : Int) := by omega
 have hq3 : ¬ (((q + sz : Nat) : Int) < 0) := by omega
 have hs1 : (1 : Int) ≤ (sz : Int) := by omega
 clear he hr hpart hrest hat hts hsz
 go_enter Tryz.func267, Tryz.ntmps267
 go_wp2_with fail
 refine He.out.mono ?_
 rintro e w1 ⟨rfl, b1⟩
 have Hr1 := Lh (Hr.out.go b1)
 have Hb1 := Lh b1
 clear He Hr b1
 go_wp2_with (refine ZH _ _ _ rfl ?_)
 refine Stop.to ?_
 have hv : PtV.val ⟨some (ad.add (q * 2)), cap - q, t.flat⟩ = .slice (some (ad.add (q * 2))) (q + sz - q) (cap - q) := by unfold PtV.val; rw [Hlen.out, Nat.add_sub_cancel_left]
 refine QC rfl 316 1 _ rfl 23 #[PtV.val ⟨some (ad.add (q * 2)), cap - q, t.flat⟩] ?_ ?_
 · rw [hv]
   exact Jj Tryz.underlying316 Aec (by decide) (by decide) (by kernel_rfl)
 intro G w2 hG rG bG
 have b2 := Hb1.out.trans ((bG.mono hG).mono Hb1.out.size)
 have hj := UY (some ⟨G, 0, none⟩) 1 1 [⟨some (ad.add (q * 2)), cap - q, t.flat⟩] w2 rfl (Ky (cs := [PtV.val ⟨some (ad.add (q * 2)), cap - q, t.flat⟩]) rG) (fun x hx => by
  rw [List.mem_singleton.1 hx]
  exact ⟨Hpart.out _ (Hr1.out.go (bG.mono hG)), fun e => by cases e⟩) (by simp [Q8]; have := Hlen.out; omega) (by omega)
 have Hj := Lh hj
 have Hb2 := Lh b2
 clear hj b2 rG bG hG Hr1 Hb1 Hpart hv
 go_wp2_with fail
 refine Hj.out.mono ?_
 rintro e w3 ⟨v, rfl, hown, b3⟩
 rw [show Q8 [⟨some (ad.add (q * 2)), cap - q, t.flat⟩] = t.flat by simp [Q8]] at hown
 obtain ⟨A3, c3, rfl⟩ := Ze hown
 go_wp2
 go_ret
 exact ⟨_, rfl, QH hown Hb2.out.size, Hb2.out.trans (b3.mono Hb2.out.size)⟩
theorem Afa (W : World) : (Instr.buildSlice 22 0 #[]).run Tryz.prog W = .ok (.slice (some ⟨W.heap.size, 0, none⟩) 0 0) (W.alloc (.cells #[] 3)) := by kernel_rfl
theorem XD {w : World} {base n : Nat} {e : TypeId} {v : Value} {xs : List Value} (h : w.ownsRow base e 1 v n xs) : ∃ A cap, v = .slice A n cap ∧ Rd w A xs ∧ n ≤ cap ∧ (A = none → cap = 0) ∧ ∀ ad, A = some ad → base ≤ ad.block := by
 obtain ⟨A, cap, rfl, h1, h2, h3⟩ := EA h
 refine ⟨A, cap, rfl, h1, h2, h3, fun ad e => ?_⟩
 rcases h.2 with ⟨e2, _⟩ | ⟨g, c, cur, e2, hb, _⟩
 · injection e2 with e3; rw [e] at e3; cases e3
 · injection e2 with e3; rw [e] at e3; injection e3 with e3; rw [e3]; exact hb
theorem YA (A : Option Addr) (cap : Nat) (l : List Int) (w : World) (hr : Rd w A (Qg l)) (hnil : A = none → l = []) (hl : l.length ≤ 100000) :
 Calls Tryz.prog 117 #[.slice A l.length cap] w fun e w' => IntsR l w w' e := by
 rcases A with _ | ad
 · have h0 := hnil rfl
   subst h0
   have hq := fun W : World => Lib.run_eql_slice_nil (P := Tryz.prog) W 22 3 none 0 cap 0 0 Tryz.underlying22
   simp only [Option.isNone_none] at hq
   rw [show ([] : List Int).length = 0 from rfl]
   go_enter Tryz.func117, Tryz.ntmps117
   go_wp2_with fail
   go_ret
   exact ⟨_, rfl, World.ownsRow_nil _ _ _ _, Below.refl _ _⟩
 · have Hr := Lh hr
   have Hl := Lh hl
   clear hr hl hnil
   have hq := fun W : World => Lib.run_eql_slice_nil (P := Tryz.prog) W 22 3 (some ad) l.length cap 0 0 Tryz.underlying22
   simp only [Option.isNone_some] at hq
   go_enter Tryz.func117, Tryz.ntmps117
   go_wp2_with (refine ZH _ _ _ rfl ?_)
   refine Stop.to ?_
   refine Zv rfl _ (Q3 [] rfl (Afa w)) ?_
   have rG := Row.new w 3 #[]
   have b1 := (Below.refl w.heap.size w).alloc (Nat.le_refl _) (.cells #[] 3)
   generalize w.alloc (.cells #[] 3) = w1 at rG b1 ⊢
   obtain ⟨v', w2, hrun, hown, hgr, _⟩ := Jd (P := Tryz.prog) 22 3 (.int .i64 0) 1 8 Tryz.underlying22 Z3 rfl (by decide) (by decide) (Xd (B := w.heap.size) (size := 1) (Nat.le_refl _) rG) b1.size (Hr.out.go b1) (m := l.length) (cap := cap) (by simp [Qg]) (Jm l) (by simp) (by have := Hl.out; omega)
   rw [Nat.zero_add, List.nil_append] at hown
   have b2 := Q5 b1 (Xd (B := w.heap.size) (size := 1) (Nat.le_refl _) rG) hgr b1.size (Nat.le_refl _)
   have Hrun := Lh hrun
   clear hrun hgr rG
   go_wp2_with (refine Yh ?_)
   refine Stop.to ?_
   refine Zv rfl _ (Zc rfl Hrun.out) ?_
   obtain ⟨A3, c3, rfl⟩ := Ze hown
   go_wp2
   go_ret
   exact ⟨_, rfl, hown, b2⟩
end Go.Proofs.YtdcmppdhdcjpfaaGreat
namespace Go.Proofs.YtdcmppdhdcjpfaaGreat
open Go.RowKit
def JB : List Int → Prop
 | [] => True
 | [_] => True
 | a :: b :: l => a < b ∧ JB (b :: l)
theorem JO {a : Int} {l : List Int} (h : JB (a :: l)) : JB l := by
 cases l with
 | nil => trivial
 | cons b l => exact h.2
theorem Z2 : ∀ {l : List Int} {a b : Int}, JB (a :: l) → b ∈ l → a < b
 | [], _, _, _, h => by simp at h
 | c :: l, a, b, hr, h => by
  rcases List.mem_cons.1 h with rfl | h
  · exact hr.1
  · exact Int.lt_trans hr.1 (Z2 hr.2 h)
theorem UW {a : Int} {l : List Int} (h : JB l) (hl : ∀ b ∈ l, a < b) : JB (a :: l) := by
 cases l with
 | nil => trivial
 | cons b l => exact ⟨hl b (by simp), h⟩
theorem YJ : ∀ {l m : List Int}, JB l → JB m → (∀ x, x ∈ l ↔ x ∈ m) → l = m
 | [], [], _, _, _ => rfl
 | [], b :: m, _, _, h => absurd ((h b).2 (by simp)) (by simp)
 | a :: l, [], _, _, h => absurd ((h a).1 (by simp)) (by simp)
 | a :: l, b :: m, h1, h2, h => by
  have hab : a = b := by
   rcases List.mem_cons.1 ((h a).1 (by simp)) with e | ha
   · exact e
   · rcases List.mem_cons.1 ((h b).2 (by simp)) with e | hb
     · exact e.symm
     · have := Z2 h1 hb; have := Z2 h2 ha; omega
  subst hab
  rw [YJ (JO h1) (JO h2) fun x => ?_]
  constructor
  · intro hx
    have hlt := Z2 h1 hx
    rcases List.mem_cons.1 ((h x).1 (by simp [hx])) with e | hm
    · omega
    · exact hm
  · intro hx
    have hlt := Z2 h2 hx
    rcases List.mem_cons.1 ((h x).2 (by simp [hx])) with e | hm
    · omega
    · exact hm
def Vm (a : Int) : List Int → List Int
 | [] => [a]
 | b :: l => if a < b then a :: b :: l else if a = b then b :: l else b :: Vm a l
theorem Ue (a x : Int) : ∀ l : List Int, x ∈ Vm a l ↔ x = a ∨ x ∈ l
 | [] => by simp [Vm]
 | b :: l => by
  rw [Vm]
  split
  · simp
  · split
    · rename_i e; subst e; simp
    · rw [List.mem_cons, Ue a x l, List.mem_cons]
      constructor
      · rintro (h | h | h) <;> simp [h]
      · rintro (h | h | h) <;> simp [h]
theorem Vy (a : Int) : ∀ {l : List Int}, JB l → JB (Vm a l)
 | [], _ => trivial
 | b :: l, h => by
  rw [Vm]
  split
  · rename_i hab; exact ⟨hab, h⟩
  · split
    · exact h
    · rename_i h1 h2
      refine UW (Vy a (JO h)) fun x hx => ?_
      rcases (Ue a x l).1 hx with rfl | hx
      · omega
      · exact Z2 h hx
def Kn : List Int → List Int
 | [] => []
 | a :: l => Vm a (Kn l)
theorem XG (x : Int) : ∀ l : List Int, x ∈ Kn l ↔ x ∈ l
 | [] => by simp [Kn]
 | a :: l => by rw [Kn, Ue, XG x l, List.mem_cons]
theorem Kt : ∀ l : List Int, JB (Kn l)
 | [] => trivial
 | a :: l => Vy a (Kt l)
theorem JC (f : Int → Bool) : ∀ {l : List Int}, JB l → JB (l.filter f)
 | [], _ => trivial
 | a :: l, h => by
  rw [List.filter_cons]
  split
  · exact UW (JC f (JO h)) fun b hb => Z2 h ((List.mem_filter.1 hb).1)
  · exact JC f (JO h)
def isC (x y : Nd) (op n : Int) : Bool :=
 if op = 1 then decide (7 ≤ x.tag ∧ x.tag ≤ 11 ∧ 7 ≤ n ∧ n ≤ 11 ∧ n ≠ x.tag) else if op = 2 then decide (12 ≤ x.tag ∧ x.tag ≤ 17 ∧ 12 ≤ n ∧ n ≤ 17 ∧ n ≠ x.tag)
 else if op = 3 then decide (18 ≤ x.tag ∧ x.tag ≤ 19 ∧ 18 ≤ n ∧ n ≤ 19 ∧ n ≠ x.tag)
 else if op = 4 then decide ((x.tag = 1 ∧ (n = 0 ∨ n = 1 ∨ n = -1 ∨ n = wrap64 (x.n + 1) ∨ n = wrap64 (x.n - 1)) ∧ n ≠ x.n) ∨ (x.tag = 2 ∧ n = wrap64 (1 - x.n)))
 else if op = 5 then decide ((x.tag = 21 ∨ x.tag = 22 ∨ x.tag = 23 ∨ x.tag = 24 ∨ x.tag = 25) ∧ n = 0)
 else if op = 6 then decide ((x.tag = 23 ∨ x.tag = 24) ∧ n = 0)
 else if op = 7 then decide (x.tag = 25 ∧ (n = 0 ∨ n = 1) ∧ ¬ (y.tag = 1 ∧ y.n = n)) else false
def EC (x : Nd) : List Int := Kn ([-1, 0, 1, wrap64 (x.n - 1), wrap64 (x.n + 1)] ++ (List.range 13).map fun i : Nat => (i : Int) + 7)
def ZV (x y : Nd) : List (Int × Int) := ((List.range 7).map fun i : Nat => (i : Int) + 1).flatMap fun op => ((EC x).filter (isC x y op)).map fun n => (op, n)
theorem VN {x y : Nd} {op n : Int} (h : isC x y op n = true) (h2 : x.tag = 2 → x.n = 0 ∨ x.n = 1) : n ∈ EC x := by
 unfold EC
 rw [XG]
 have hr : ∀ k : Int, 7 ≤ k → k ≤ 19 → k ∈ (List.range 13).map fun i : Nat => (i : Int) + 7 := fun k h1 h2 => by
  rw [List.mem_map]
  exact ⟨(k - 7).toNat, List.mem_range.2 (by omega), by omega⟩
 unfold isC at h
 rw [List.mem_append]
 repeat' split at h
 all_goals (first | (cases h; done) | skip)
 all_goals (simp only [decide_eq_true_eq] at h)
 · exact .inr (hr n (by omega) (by omega))
 · exact .inr (hr n (by omega) (by omega))
 · exact .inr (hr n (by omega) (by omega))
 · refine .inl ?_
   rcases h with ⟨_, h, _⟩ | ⟨h1, h⟩
   · simp; omega
   · have : n = 0 ∨ n = 1 := by
      subst h
      unfold wrap64
      rcases h2 h1 with e | e <;> rw [e] <;> omega
     simp; omega
 · exact .inl (by simp; omega)
 · exact .inl (by simp; omega)
 · exact .inl (by simp; omega)
theorem Eh {x y : Nd} {op n : Int} (h2 : x.tag = 2 → x.n = 0 ∨ x.n = 1) : (op, n) ∈ ZV x y ↔ isC x y op n = true := by
 unfold ZV
 rw [List.mem_flatMap]
 constructor
 · rintro ⟨o, _, h⟩
   rw [List.mem_map] at h
   obtain ⟨m, hm, e⟩ := h
   injection e with e1 e2
   subst e1; subst e2
   exact (List.mem_filter.1 hm).2
 · intro h
   have hop : 1 ≤ op ∧ op ≤ 7 := by
    unfold isC at h
    repeat' split at h
    all_goals (first | (cases h; done) | omega)
   refine ⟨op, ?_, ?_⟩
   · rw [List.mem_map]; exact ⟨(op - 1).toNat, List.mem_range.2 (by omega), by omega⟩
   · rw [List.mem_map]; exact ⟨n, List.mem_filter.2 ⟨VN h h2, h⟩, rfl⟩
mutual
def QX (own : List Int) (q : Nat) : Tr → List (Nat × List Int)
 | .node _ ks => (q, own) :: Zp own (q + 1) 0 ks
def Zp (own : List Int) (q : Nat) (i : Int) : List Tr → List (Nat × List Int)
 | [] => []
 | t :: ts => QX (own ++ [i]) q t ++ Zp own (q + t.size) (i + 1) ts
end
mutual
theorem Z4 : ∀ (t : Tr) (own : List Int) (q : Nat), (QX own q t).length = t.size
 | .node x ks, own, q => by rw [QX, List.length_cons, Ut ks, Tr.size, Tr.flat, List.length_cons]
theorem Ut : ∀ (ts : List Tr) (own : List Int) (q : Nat) (i : Int), (Zp own q i ts).length = (QF ts).length
 | [], _, _, _ => by simp [Zp, QF]
 | t :: ts, own, q, i => by rw [Zp, List.length_append, Z4 t, Ut ts, QF, List.length_append]; rfl
end
mutual
theorem Yz : ∀ (t : Tr) (own : List Int) (q j : Nat) (e : Nat × List Int), (QX own q t)[j]? = some e → e.1 = q + j
 | .node x ks, own, q, 0, e, h => by simp [QX] at h; subst h; rfl
 | .node x ks, own, q, j + 1, e, h => by
  rw [QX, List.getElem?_cons_succ] at h
  have := VW ks own (q + 1) 0 j e h
  omega
theorem VW : ∀ (ts : List Tr) (own : List Int) (q : Nat) (i : Int) (j : Nat) (e : Nat × List Int), (Zp own q i ts)[j]? = some e → e.1 = q + j
 | [], _, _, _, _, _, h => by simp [Zp] at h
 | t :: ts, own, q, i, j, e, h => by
  rw [Zp] at h
  by_cases hj : j < t.size
  · rw [List.getElem?_append_left (by rw [Z4]; exact hj)] at h
    exact Yz t _ q j e h
  · rw [List.getElem?_append_right (by rw [Z4]; omega), Z4] at h
    have := VW ts own _ (i + 1) _ e h
    omega
end
def Zu : List Int → Nat → Tr → Option (Nat × Tr)
 | [], q, t => some (q, t)
 | i :: π, q, .node _ ks => if i < 0 then none else match (QP (q + 1) ks)[i.toNat]?, ks[i.toNat]? with
  | some r, some k => Zu π r k
  | _, _ => none
theorem Uf {l : List Nd} : ∀ {π : List Int} {q r : Nat} {t k : Tr}, At l q t → Zu π q t = some (r, k) → At l r k
 | [], q, r, t, k, h, e => by simp [Zu] at e; obtain ⟨rfl, rfl⟩ := e; exact h
 | i :: π, q, r, .node x ks, k, h, e => by
  rw [Zu] at e
  split at e
  · cases e
  · split at e
    · rename_i r1 k1 h1 h2
      exact Uf (h.kids.spot i.toNat r1 k1 h1 h2).1 e
    · cases e
mutual
theorem J7 : ∀ (t : Tr) (own : List Int) (q r : Nat) (π : List Int), (r, own ++ π) ∈ QX own q t ↔ ∃ k, Zu π q t = some (r, k)
 | .node x ks, own, q, r, [] => by
  rw [QX, List.append_nil, List.mem_cons, Zu]
  constructor
  · rintro (e | h)
    · injection e with e1 _; subst e1; exact ⟨_, rfl⟩
    · obtain ⟨j, ρ, e, _⟩ := Kq ks own (q + 1) 0 r own h
      have := congrArg List.length e
      simp at this
  · rintro ⟨k, e⟩
    injection e with e; injection e with e1 e2
    subst e1; exact .inl rfl
 | .node x ks, own, q, r, i :: π => by
  rw [QX, List.mem_cons, Zu]
  have hne : (r, own ++ i :: π) ≠ (q, own) := fun e => by
   injection e with _ e
   have := congrArg List.length e
   simp at this
  rw [or_iff_right hne, YW ks own (q + 1) 0 r i π]
  constructor
  · rintro ⟨hi, s, k, h1, h2, k', h3⟩
    rw [Int.sub_zero] at h1 h2
    rw [if_neg (by omega), h1, h2]
    exact ⟨k', h3⟩
  · rintro ⟨k', h⟩
    split at h
    · cases h
    · split at h
      · rename_i s k h1 h2
        exact ⟨by omega, s, k, by rw [Int.sub_zero]; exact h1, by rw [Int.sub_zero]; exact h2, k', h⟩
      · cases h
theorem Kq : ∀ (ts : List Tr) (own : List Int) (q : Nat) (i : Int) (r : Nat) (σ : List Int), (r, σ) ∈ Zp own q i ts → ∃ (j : Int) (ρ : List Int), σ = own ++ j :: ρ ∧ i ≤ j
 | [], _, _, _, _, _, h => by simp [Zp] at h
 | t :: ts, own, q, i, r, σ, h => by
  rw [Zp, List.mem_append] at h
  rcases h with h | h
  · obtain ⟨ρ, e⟩ := XY t (own ++ [i]) q r σ h
    exact ⟨i, ρ, by rw [e]; simp, Int.le_refl _⟩
  · obtain ⟨j, ρ, e, hj⟩ := Kq ts own _ (i + 1) r σ h
    exact ⟨j, ρ, e, by omega⟩
theorem XY : ∀ (t : Tr) (own : List Int) (q r : Nat) (σ : List Int), (r, σ) ∈ QX own q t → ∃ ρ, σ = own ++ ρ
 | .node x ks, own, q, r, σ, h => by
  rw [QX, List.mem_cons] at h
  rcases h with e | h
  · injection e with _ e; exact ⟨[], by rw [e]; simp⟩
  · obtain ⟨j, ρ, e, _⟩ := Kq ks own (q + 1) 0 r σ h
    exact ⟨j :: ρ, e⟩
theorem YW : ∀ (ts : List Tr) (own : List Int) (q : Nat) (i : Int) (r : Nat) (j : Int) (π : List Int), (r, own ++ j :: π) ∈ Zp own q i ts ↔ i ≤ j ∧ ∃ s k, (QP q ts)[(j - i).toNat]? = some s ∧ ts[(j - i).toNat]? = some k ∧ ∃ k', Zu π s k = some (r, k')
 | [], _, _, _, _, _, _ => by simp [Zp]
 | t :: ts, own, q, i, r, j, π => by
  rw [Zp, List.mem_append, YW ts own _ (i + 1) r j π]
  constructor
  · rintro (h | ⟨hi, s, k, h1, h2, h3⟩)
    · obtain ⟨ρ, e⟩ := XY t (own ++ [i]) q r _ h
      rw [List.append_assoc, List.append_cancel_left_eq] at e
      injection e with e1 e2
      subst e1
      rw [show own ++ j :: π = (own ++ [j]) ++ π by simp] at h
      refine ⟨Int.le_refl _, q, t, by simp [QP], by simp, (J7 t (own ++ [j]) q r π).1 h⟩
    · refine ⟨by omega, s, k, ?_, ?_, h3⟩
      · rw [show (j - i).toNat = (j - (i + 1)).toNat + 1 by omega, QP, List.getElem?_cons_succ]; exact h1
      · rw [show (j - i).toNat = (j - (i + 1)).toNat + 1 by omega, List.getElem?_cons_succ]; exact h2
  · rintro ⟨hi, s, k, h1, h2, h3⟩
    by_cases e : j = i
    · subst e
      rw [Int.sub_self] at h1 h2
      simp [QP] at h1 h2
      subst h1; subst h2
      refine .inl ?_
      rw [show own ++ j :: π = (own ++ [j]) ++ π by simp]
      exact (J7 t (own ++ [j]) q r π).2 h3
    · refine .inr ⟨by omega, s, k, ?_, ?_, h3⟩
      · rw [show (j - i).toNat = (j - (i + 1)).toNat + 1 by omega, QP, List.getElem?_cons_succ] at h1; exact h1
      · rw [show (j - i).toNat = (j - (i + 1)).toNat + 1 by omega, List.getElem?_cons_succ] at h2; exact h2
end
theorem Y9 : ∀ (own a b : List Int), Zj (own ++ a) (own ++ b) = Zj a b
 | [], _, _ => rfl
 | x :: own, a, b => by rw [List.cons_append, List.cons_append, Zj, XJ, if_neg (by simp), Y9 own]
def Un : List (Nat × List Int) → Prop
 | [] => True
 | a :: l => (∀ b ∈ l, Zj a.2 b.2 < 0) ∧ Un l
theorem Yf : ∀ {l m : List (Nat × List Int)}, Un l → Un m → (∀ a ∈ l, ∀ b ∈ m, Zj a.2 b.2 < 0) → Un (l ++ m)
 | [], m, _, h, _ => h
 | a :: l, m, h1, h2, h => ⟨fun b hb => by
  rcases List.mem_append.1 hb with hb | hb
  · exact h1.1 b hb
  · exact h a (by simp) b hb, Yf h1.2 h2 (fun x hx y hy => h x (by simp [hx]) y hy)⟩
mutual
theorem YK : ∀ (t : Tr) (own : List Int) (q : Nat), Un (QX own q t)
 | .node x ks, own, q => by
  rw [QX]
  refine ⟨fun b hb => ?_, YU ks own (q + 1) 0⟩
  obtain ⟨r, σ⟩ := b
  obtain ⟨j, ρ, e, _⟩ := Kq ks own (q + 1) 0 r σ hb
  simp only
  rw [e, show Zj own (own ++ j :: ρ) = Zj (own ++ []) (own ++ j :: ρ) by rw [List.append_nil], Y9]
  simp [Zj]
theorem YU : ∀ (ts : List Tr) (own : List Int) (q : Nat) (i : Int), Un (Zp own q i ts)
 | [], _, _, _ => trivial
 | t :: ts, own, q, i => by
  rw [Zp]
  refine Yf (YK t _ q) (YU ts own _ (i + 1)) fun a ha b hb => ?_
  obtain ⟨r, σ⟩ := a
  obtain ⟨r', σ'⟩ := b
  obtain ⟨ρ, e⟩ := XY t (own ++ [i]) q r σ ha
  obtain ⟨j, ρ', e', hj⟩ := Kq ts own _ (i + 1) r' σ' hb
  simp only
  have hij : Zx i j < 0 := cmpI_lt.2 (by omega)
  rw [e, e', List.append_assoc, Y9, List.cons_append, List.nil_append, Zj, if_pos (by omega)]
  exact hij
end
end Go.Proofs.YtdcmppdhdcjpfaaGreat
namespace Go.Proofs.YtdcmppdhdcjpfaaGreat
open Go.RowKit Go.Deep
def KX (l : List Nd) : Int → List Int → Int
 | a, [] => a
 | a, i :: π => if i < 0 ∨ ((kidsZ l a).length : Int) ≤ i then -1 else KX l (((kidsZ l a)[i.toNat]?).getD 0) π
def Ku (l : List Nd) (π : List Int) : Int := if endZ l 0 = (l.length : Int) then KX l 0 π else -1
theorem VU {l : List Nd} {a i : Int} {π : List Int} {k : Nat} (hi : π[k]? = some i) (h : i < 0 ∨ ((kidsZ l a).length : Int) ≤ i) : KX l a (π.drop k) = -1 := by
 have hk := (List.getElem?_eq_some_iff.1 hi).1
 have he := (List.getElem?_eq_some_iff.1 hi).2
 rw [List.drop_eq_getElem_cons hk, he, KX, if_pos h]
theorem Adv {l : List Nd} {a b : Int} {π : List Int} {k j : Nat} (hi : π[k]? = some (j : Int)) (h : (kidsZ l a)[j]? = some b) : KX l a (π.drop k) = KX l b (π.drop (k + 1)) := by
 have hk := (List.getElem?_eq_some_iff.1 hi).1
 have he := (List.getElem?_eq_some_iff.1 hi).2
 have hj := (List.getElem?_eq_some_iff.1 h).1
 rw [List.drop_eq_getElem_cons hk, he, KX, if_neg (by omega), Int.toNat_natCast, h]
 rfl
theorem U2 {l : List Nd} : ∀ (π : List Int) (q : Nat) (t : Tr), At l q t → KX l (q : Int) π = match Zu π q t with | some (r, _) => (r : Int) | none => -1
 | [], q, t, _ => by rw [KX, Zu]
 | i :: π, q, .node x ks, h => by
  have hk := h.kidsZ
  have hkl : (kidsZ l (q : Int)).length = ks.length := by rw [hk, List.length_map, ZY]; rfl
  rw [KX, Zu]
  by_cases h0 : i < 0
  · rw [if_pos (Or.inl h0), if_pos h0]
  rw [if_neg h0]
  by_cases h1 : ((kidsZ l (q : Int)).length : Int) ≤ i
  · rw [if_pos (Or.inr h1)]
    have h2 : ks[i.toNat]? = none := List.getElem?_eq_none (by omega)
    rw [h2]
    split
    · rename_i h3; split at h3 <;> simp_all
    · rfl
  rw [if_neg (by omega)]
  obtain ⟨k, hk2⟩ : ∃ k, ks[i.toNat]? = some k := ⟨_, List.getElem?_eq_getElem (by omega)⟩
  obtain ⟨r, hr⟩ := EB (p := q + 1) hk2
  have hr2 : (kidsZ l (q : Int))[i.toNat]? = some (r : Int) := by rw [hk, List.getElem?_map, show (Tr.node x ks).kids = ks from rfl, hr]; rfl
  rw [hr2, Option.getD_some, hr, hk2]
  exact U2 π r k (h.kids.spot i.toNat r k hr hk2).1
theorem Ade (A B : Option Addr) (c d : Nat) (l : List Nd) (π : List Int) (w : World) (hr : Rd w A (l.flatMap Nd.cells)) (hl : l.length ≤ 1000) (hp : Rd w B (Qg π)) (hlp : π.length ≤ 1000000) :
 Calls Tryz.prog 116 #[.slice A l.length c, .slice B π.length d] w fun e w' => e = .returned (.int .i64 (Ku l π)) ∧ Below w.heap.size w w' := by
 obtain ⟨S, hSd⟩ : ∃ S, S = (fun W => Rd W A (l.flatMap Nd.cells) ∧ Rd W B (Qg π) ∧ Below w.heap.size w W) := ⟨_, rfl⟩
 have stS : St S := by rw [hSd]; infer_instance
 have T0 : Hid (∀ W, S W → Rd W A (l.flatMap Nd.cells)) := by show ∀ W, _; rw [hSd]; exact fun W h => h.1
 have T1 : Hid (∀ W, S W → Rd W B (Qg π)) := by show ∀ W, _; rw [hSd]; exact fun W h => h.2.1
 have T2 : Hid (∀ W, S W → Below w.heap.size w W) := by show ∀ W, _; rw [hSd]; exact fun W h => h.2.2
 have hS : S w := by rw [hSd]; exact ⟨hr, hp, Below.refl _ _⟩
 have He := Lh (Jc A c l (0 : Int) w hr hl)
 have Hl := Lh hl
 have hlI : (l.length : Int) ≤ 1000 := by omega
 have hpI : (π.length : Int) ≤ 1000000 := by omega
 clear hSd hr hp hl hlp
 go_enter Tryz.func116, Tryz.ntmps116
 go_wp2_with fail
 go_step3
 go_wp2_with fail
 refine He.out.mono ?_
 rintro e w1 ⟨rfl, b1⟩
 replace hS := stS.go hS b1
 clear He b1
 by_cases hez : endZ l 0 = (l.length : Int)
 rotate_left
 · have hne : (endZ l 0 != (l.length : Int)) = true := by simpa using hez
   have hf : Ku l π = -1 := if_neg hez
   have Hf := Lh hf.symm
   clear hez hf
   go_wp2_with fail
   try rw [Exit.noGoto_ret]
   go_ret
   exact ⟨ZC Hf.out, T2.out _ hS⟩
 have hne : (endZ l 0 != (l.length : Int)) = false := by simpa using hez
 have hf : Ku l π = KX l 0 π := if_pos hez
 have Hf := Lh hf
 clear hez hf
 go_wp2_with fail
 go_step3
 go_wp2_with fail
 go_loopw [5, 16] (fun at_ i wr => ∃ (a : Int) (k : Nat), at_ = .int .i64 a ∧ i = .int .i64 (k : Int) ∧ k ≤ π.length ∧ Hid (Ku l π = KX l a (π.drop k)) ∧ S wr) (fun _ i _ => π.length - (intOf i).toNat)
 case atStart => exact ⟨0, 0, rfl, by simp, Nat.zero_le _, Hf.out, hS⟩
 case round =>
  clear hS Hf
  obtain ⟨a, k, rfl, rfl, hk1, Hk, hS⟩ := hrel
  by_cases hkn : k < π.length
  rotate_left
  · have hge : ¬ ((k : Int) < (π.length : Int)) := by omega
    obtain rfl : k = π.length := by omega
    have Hf : Hid (Ku l π = a) := by have := Hk.out; rw [List.drop_length] at this; exact this
    clear hkn Hk
    go_wp2_with fail
    try rw [Exit.noGoto_ret]
    go_ret
    exact ⟨ZC Hf.out.symm, T2.out _ hS⟩
  obtain ⟨i, hi⟩ : ∃ i, π[k]? = some i := ⟨_, List.getElem?_eq_getElem (by omega)⟩
  obtain ⟨bd, hbd, c0⟩ := QR (T1.out _ hS) hi
  subst hbd
  have hka : (k : Int) < (π.length : Int) := by omega
  have Hi := Lh hi
  have Hcall := Lh (Xm A c l a wr (T0.out _ hS) Hl.out)
  clear hi hkn
  go_wp2_with fail
  refine Hcall.out.mono ?_
  rintro e w2 ⟨v, rfl, hown, b2⟩
  obtain ⟨C, cc, rfl, hrC, -, -, -⟩ := XD hown
  replace hS := stS.go hS b2
  have HrC := Lh hrC
  clear Hcall b2 hown hrC c0
  obtain ⟨n, hn⟩ : ∃ n, n = (kidsZ l a).length := ⟨_, rfl⟩
  have Hn := Lh hn
  rw [← hn]
  clear hn
  by_cases h0 : i < 0
  · have Hf : Hid (Ku l π = -1) := by rw [Hid, Hk.out]; exact VU Hi.out (Or.inl h0)
    clear Hk
    go_wp2_with fail
    try rw [Exit.noGoto_ret]
    go_ret
    exact ⟨ZC Hf.out.symm, T2.out _ hS⟩
  by_cases h1 : (n : Int) ≤ i
  · have Hf : Hid (Ku l π = -1) := by rw [Hid, Hk.out]; exact VU Hi.out (Or.inr (by rw [← Hn.out]; exact h1))
    clear Hk
    go_wp2_with fail
    try rw [Exit.noGoto_ret]
    go_ret
    exact ⟨ZC Hf.out.symm, T2.out _ hS⟩
  obtain ⟨j, rfl⟩ : ∃ j : Nat, i = (j : Int) := ⟨i.toNat, by omega⟩
  obtain ⟨b, hb⟩ : ∃ b, (kidsZ l a)[j]? = some b := ⟨_, List.getElem?_eq_getElem (by have := Hn.out; omega)⟩
  obtain ⟨cd, hcd, c2⟩ := QR HrC.out hb
  subst hcd
  have Hst : Hid (Ku l π = KX l b (π.drop (k + 1))) := by rw [Hid, Hk.out]; exact Adv Hi.out hb
  have hjn : (j : Int) < (n : Int) := by omega
  clear Hk hb
  go_wp2_with fail
  refine ⟨⟨b, k + 1, rfl, by simp, by omega, Hst, hS⟩, ?_⟩
  simp only [intOf]; omega
end Go.Proofs.YtdcmppdhdcjpfaaGreat
