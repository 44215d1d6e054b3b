/- Lemmas for VerdictMoreP. -/
import Derived.Test.YtdcmppdhdcjpfaaGreatZr1
import Derived.Test.YtdcmppdhdcjpfaaGreatZr16
set_option linter.unusedVariables false
set_option linter.unusedSimpArgs false
set_option maxRecDepth 100000
set_option maxHeartbeats 16000000
namespace Go.Proofs.YtdcmppdhdcjpfaaGreat
open Go.RowKit Go.Deep
attribute [local go_sem] Oper.semAt_some
theorem Aa0 {P : Program} {r : Nat} {id : Nat} {Q : Exit → Act → World → Prop} {a : Act} {w : World} {l : List Oper} {S : World → Prop} (hm : P.follows .mixedOrders = true) (hd : Xv l.toArray = true) (h : wpAnyH P .any l.toArray (Ends Q) S l.toArray.size (Array.replicate l.toArray.size false) a w.drew) : (Code.region id l.toArray true).wpIn (Fence.wide.inRound r) 0 P Q a w :=
 XU hm hd (wpAny_of_held _ _ _ _ h)
theorem YK {w : World} {base size n : Nat} {e : TypeId} {v : Value} {xs : List Value} (h : w.ownsRow base e size v n xs) : (v = .slice none 0 0 ∧ v.ownBlock = none) ∨ ∃ g cap, v = .slice (some ⟨g, 0, none⟩) n cap ∧ v.ownBlock = some g ∧ g < w.heap.size := by
 rcases h.2 with ⟨rfl, h0⟩ | ⟨g, cap, cur, rfl, _, hh, _⟩
 · exact .inl ⟨rfl, rfl⟩
 · exact .inr ⟨g, cap, rfl, rfl, (Array.getElem?_eq_some_iff.1 hh).1⟩
theorem Xf {bk : Nat} {W : World} {p : PgV} {dn st : Int} {v : Value} (h : Row W bk 102 (ZO p dn st v)) {k : Nat} : Ob bk W k ↔ ∃ a n c, v = .slice (some a) n c ∧ a.block = k := by
 have hc : W.cell? ⟨bk, 6, none⟩ = some v := h.cellv (i := 6) rfl
 unfold Ob
 rw [hc]
 simp only [Option.some.injEq]
theorem KpB.put {bk : Nat} {L : Nat → Prop} {A B : World} {p : PgV} {v v' : Value} {lim n m : Nat} {xs ys : List Value} (hr : Row A bk 102 (ZO p 0 1 v)) (h : A.ownsRow lim 35 3 v n xs) (hg : A.grownBy B v.ownBlock)
 (h' : B.ownsRow lim 35 3 v' m ys) (hat : v'.ownBlock = v.ownBlock ∨ v'.ownBlock = some A.heap.size) : KpB bk L A (B.setCell ⟨bk, 6, none⟩ v') ∧ Row (B.setCell ⟨bk, 6, none⟩ v') bk 102 (ZO p 0 1 v') := by
 have hrB := hr.grown hg (Qz h hr (by decide))
 have hrC : Row (B.setCell ⟨bk, 6, none⟩ v') bk 102 (ZO p 0 1 v') := hrB.set 6 v'
 have o := Zc B bk 6 v'
 have hv : ∀ k, v.ownBlock = some k → Ob bk A k := fun k e => by
  rcases YK h with ⟨_, e2⟩ | ⟨g, c, e1, e2, _⟩
  · rw [e2] at e; cases e
  · rw [e2] at e; injection e with e; subst e; exact (Xf hr).2 ⟨_, _, _, e1, rfl⟩
 have hv' : ∀ k, Ob bk (B.setCell ⟨bk, 6, none⟩ v') k → v'.ownBlock = some k ∧ k < B.heap.size := fun k ho => by
  obtain ⟨a, n', c', e1, e2⟩ := (Xf hrC).1 ho
  rcases YK h' with ⟨e3, _⟩ | ⟨g, c, e3, e4, e5⟩
  · rw [e3] at e1; cases e1
  · rw [e3] at e1; injection e1 with e1; injection e1 with e1; subst e1; subst e2; exact ⟨e4, e5⟩
 refine ⟨⟨fun k ob h1 _ h3 h4 => ?_, ?_, fun k ho => ?_, fun _ k ho => ?_, fun j hj => ?_⟩, hrC⟩
 · rw [o.block k h1]
   exact (hg.block k (Array.getElem?_eq_some_iff.1 h4).1 (fun e => h3 (hv k e.symm))).trans h4
 · rw [o.size]; exact hg.size
 · obtain ⟨e, _⟩ := hv' k ho
   rcases hat with h1 | h1
   · rw [h1] at e; exact .inl (hv k e)
   · rw [h1] at e; injection e with e; exact .inr (Nat.le_of_eq e)
 · rw [o.size]; exact (hv' k ho).2
 · rw [hrC.cell j, hr.cell j]
   match j, hj with
   | 0, _ | 1, _ | 2, _ | 3, _ | 4, _ | 5, _ => rfl
   | j + 7, _ => simp [ZO]
theorem DlT.same {A B : World} {x : DlV} (h : DlT A x) (hb : ∀ (a : Addr) (cs : Array Value), x.A = some a → Row A a.block 3 cs → Row B a.block 3 cs) : DlT B x :=
 ⟨⟨fun j u hj => by
  obtain ⟨a, e, hc⟩ := h.ok.rd j u hj
  obtain ⟨cs, hr⟩ := h.ib a e
  exact ⟨a, e, (World.cell?_of_block (by rw [JV]; exact (hb a cs e hr).trans (Eq.symm hr))).trans hc⟩, h.ok.len⟩, fun a e => by
  obtain ⟨cs, hr⟩ := h.ib a e
  exact ⟨cs, hb a cs e hr⟩, h.nil⟩
theorem DlT.go {A B : World} {x : DlV} (h : DlT A x) (b : Below A.heap.size A B) : DlT B x := h.same fun _ _ _ hr => hr.below b hr.lt
theorem DlT.abide {W W' : World} {x : DlV} {row : Option Nat} {q : Nat → Prop} (h : DlT W x) (hg : W.grownBy W' row) (hr : ∀ r, row = some r → False ∨ (q r ∧ ∃ o : Obj, W.heap[r]? = some o ∧ o.isCells = false)) : DlT W' x := h.same fun _ _ _ k => k.abide hg hr
theorem DlT.own {W W' : World} {x : DlV} {lim n : Nat} {v : Value} {xs : List Value} (h : DlT W x) (hown : W.ownsRow lim 35 3 v n xs) (hg : W.grownBy W' v.ownBlock) : DlT W' x := h.same fun _ _ _ k => k.grown hg (Qz hown k (by decide))
theorem DlT.only {W W' : World} {x : DlV} {g : Nat} {t : TypeId} {cs : Array Value} (h : DlT W x) (hr : Row W g t cs) (ht : t ≠ 3) (o : Only g W W') : DlT W' x := h.same fun a cs' _ k => k.only o (fun e => by
 have h1 : W.heap[g]? = some (.cells cs' 3 (0, 0)) := by rw [← e]; exact k
 rw [show W.heap[g]? = some (.cells cs t (0, 0)) from hr] at h1
 injection h1 with h1; injection h1 with _ h1; exact ht h1)
structure EachFn (bk : Nat) (w w' : World) (e : Ending) : Prop where
 ex : ∃ bb, e = .returned (.func (.func 242) #[] #[.pointer (some ⟨bb, 0, none⟩)]) ∧ Row w' bb 88 #[.pointer (some ⟨bk, 0, none⟩)] ∧ w.heap.size ≤ bb ∧ Below w.heap.size w w'
theorem Ado (bk : Nat) (w : World) : Calls Tryz.prog 180 #[.pointer (some ⟨bk, 0, none⟩)] w fun e w' => EachFn bk w w' e := by
 go_enter Tryz.func180, Tryz.ntmps180
 go_wp2_with (refine Qp _ _ rfl ?_)
 refine Stop.to ?_
 refine Qf rfl 88 _ rfl #[.pointer (some ⟨bk, 0, none⟩)] rfl ?_
 intro G Gw Gh Gr Gb
 have b1 := (Below.refl w.heap.size w).trans (Gb.mono Gh)
 clear Gb
 go_wp2
 go_ret
 exact ⟨G, rfl, Gr, Gh, b1⟩
structure FillD (p : PgV) (bk B : Nat) (full : List Dl) (w0 : World) (v : Value) (W : World) : Prop where
 ex : ∃ xs : List DlV, W.ownsRow B 35 3 v xs.length (YB xs) ∧ xs.map DlV.d = full ∧ (∀ x ∈ xs, DlT W x) ∧ Below B w0 W
theorem AbP (x : DlV) : ∀ u ∈ x.cells.toList, u.oneCell' = true := by
 intro u hu
 simp only [DlV.cells, List.mem_cons, List.not_mem_nil, or_false] at hu
 rcases hu with rfl | rfl | rfl <;> rfl
theorem EX (xs : List DlV) (x : DlV) : YB (xs ++ [x]) = YB xs ++ x.cells.toList := by simp [YB]
theorem AcP {p : PgV} {t : Tr} (hf : Fine p t) : ∀ q, q ≤ p.body.length → (Y0 p.body t q).length ≤ 100 * q
 | 0, _ => by simp [Y0]
 | q + 1, h => by
  obtain ⟨π, k, hp, hat⟩ := Aex hf.good.whole (q := q) (by omega)
  have h1 := AcP hf q (by omega)
  have h2 := Yz p.body q hat (hf.ar _ (List.mem_of_getElem? hat.root))
  rw [Ut hp, List.length_append, List.length_map]; omega
theorem Ad6 {p : PgV} {t : Tr} (hf : Fine p t) : (Z5 p.body t).length ≤ 20000 := by
 have h1 := AcP hf p.body.length (Nat.le_refl _)
 have h2 := hf.len
 rw [AcO _ _ (Nat.le_of_eq hf.good.size)] at h1; omega
theorem Af0 (p : PgV) (t : Tr) (hf : Fine p t) (hlc : p.body.length ≤ p.bcap) (hcm : p.bcap ≤ maxLen) (bk B : Nat) (hB : B ≤ bk) (w0 w : World) (hbw : Below B w0 w) (hr : Row w bk 102 (ZO p 0 1 (.slice none 0 0)))
 (hrd : Rd w p.ba (p.body.flatMap Nd.cells)) (hA : p.body.flatMap Nd.cells ≠ [] → ∀ ad, p.ba = some ad → ad.block ≠ bk) :
 Calls Tryz.prog 108 #[.pointer (some ⟨bk, 0, none⟩)] w fun e w' => e = .returned (.tuple #[]) ∧ ∃ v, Row w' bk 102 (ZO p 0 1 v) ∧ FillD p bk B (Z5 p.body t) w0 v w' := by
 have Hf := Lh hf
 have Hlc := Lh hlc
 have Hcm := Lh hcm
 have Hrd := Lh hrd
 have HA := Lh hA
 have hbk := hr.lt
 have hfl := Ad6 hf
 obtain ⟨full, hfull⟩ : ∃ full, full = Z5 p.body t := ⟨_, rfl⟩
 rw [← hfull] at hfl ⊢
 clear hf hlc hcm hrd hA
 refine (callsIn_wide (n := 0)).1 ?_
 refine callsIn_of_wp_marks Tryz.func108 rfl trivial ?_
 simp only [Tryz.ntmps108, List.size_toArray, List.length_cons, List.length_nil, Nat.reduceAdd, Nat.reduceSub, Array.replicate_succ, Array.replicate_zero, List.push_toArray, List.append_toArray, List.nil_append, List.cons_append]
 gi_wp2_with fail
 obtain ⟨T1, hT1⟩ : ∃ B, B = w.heap.size := ⟨_, rfl⟩
 obtain ⟨w1, hw1⟩ : ∃ w1, w1 = w.alloc (.cells #[.pointer (some ⟨bk, 0, none⟩)] 88) := ⟨_, rfl⟩
 have rT : Row w1 T1 88 #[.pointer (some ⟨bk, 0, none⟩)] := by rw [hw1, hT1]; exact Row.new _ _ _
 have b1 : Below w.heap.size w w1 := by rw [hw1]; exact (Below.refl _ _).alloc (Nat.le_refl _) _
 rw [← hw1, ← hT1]
 have gT : bk < T1 := by omega
 clear hw1 hT1
 refine ⟨trivial, rfl, (callsIn_wide.2 (Ado bk w1)).mono ?_⟩
 rintro e w2 ⟨bb, rfl, rb, gb, b2⟩
 have lT := rT.lt
 have b12 := b1.trans (b2.mono b1.size)
 replace rT := rT.below b2 rT.lt
 have r2 := hr.below b12 hr.lt
 have s2 := r2.lt
 have hno : ∀ k, ¬ Ob bk w2 k := fun k ho => by
  obtain ⟨_, _, _, e, _⟩ := (Xf r2).1 ho
  cases e
 have hC : EachC p bk bb (fun _ => False) w2 := ⟨rb, ⟨by omega, fun h => h, hno _, rb.lt⟩, r2.cellv (i := 2) rfl, Hrd.out.go b12, fun hne ad e => ⟨HA.out hne ad e, fun h => h, hno _, Xj (Hrd.out.go b12) hne e⟩, fun k ho => absurd ho (hno k), fun _ h => False.elim h, s2⟩
 have Hit := Lh (Adn p t Hf.out Hlc.out Hcm.out bk bb w2 hC)
 have Hb2 : Hid (Below B w0 w2) := hbw.trans (b12.mono (by have := hbw.size; have := b12.size; omega))
 have hTb : T1 < bb := by omega
 have lb2 := rb.lt
 clear hno hC rb b1 b2 b12 hr gb lT hbw Hrd HA Hf Hlc Hcm
 gi_wp2_with fail
 rw [← hfull] at Hit
 have HI0 : Hid (∃ v, Row w2 bk 102 (ZO p 0 1 v) ∧ w2.ownsRow B 35 3 v ([] : List DlV).length (YB []) ∧ (∀ x ∈ ([] : List DlV), DlT w2 x) ∧ Row w2 T1 88 #[.pointer (some ⟨bk, 0, none⟩)] ∧ Below B w0 w2 ∧ w2.heap.size ≤ w2.heap.size) := ⟨_, r2, World.ownsRow_nil _ _ _ _, fun x h => by simp at h, rT, Hb2.out, Nat.le_refl _⟩
 clear r2 rT Hb2 hfull
 refine XT (gf := 242) (lb := #[.pointer (some ⟨bb, 0, none⟩)]) rfl (enters_of Tryz.func242 (by kernel_rfl) rfl) Hit.out (fun r h => h.elim)
  (fun h k => h.trans k) (fun V o o' ho hc => ?hKb) (World.grownBy.refl _ _) (fun _ => rfl)
  (fun pre V => ∃ v, Row V bk 102 (ZO p 0 1 v) ∧ V.ownsRow B 35 3 v pre.length (YB pre) ∧ (∀ x ∈ pre, DlT V x) ∧ Row V T1 88 #[.pointer (some ⟨bk, 0, none⟩)] ∧ Below B w0 V ∧ w2.heap.size ≤ V.heap.size)
  (fun _ _ _ => False) (.inl trivial) ?hI ?hIx HI0.out
  (fun pre x a' V => ∃ D, a' = { tmps := #[.pointer (some ⟨bk, 0, none⟩), .pointer (some ⟨T1, 0, none⟩), .pointer (some ⟨D, 0, none⟩), .pointer (some ⟨bk, 0, none⟩), .func (.func 242) #[] #[.pointer (some ⟨bb, 0, none⟩)], .agg x.cells, undef, undef, undef, undef, undef, undef, undef, undef, undef, undef], defers := [] } ∧ Row V D 35 x.cells ∧ DlP full pre x V ∧ w2.heap.size ≤ D ∧ ¬ Ob bk V D) ?hAx ?assign ?body ?done ?stop
 case hKb =>
  have hc6 : ∀ j, (V.putObj (w2.heap.size + 1) o').cell? ⟨bk, j, none⟩ = V.cell? ⟨bk, j, none⟩ := fun j => World.cell?_of_block (World.putObj_heap_other (by show bk ≠ _; omega))
  exact ⟨fun k ob _ h2 _ h4 => by rw [World.putObj_heap_other (fun e => h2 e)]; exact h4, by simp, fun k ho => .inl (X8 (hc6 6) ho), fun hl k ho => by have h9 := hl k (X8 (hc6 6) ho); simpa using h9, fun j _ => hc6 j⟩
 case hI =>
  rintro pre V V' row ⟨v, h1, h2, h3, h4, h5, h6⟩ hg hr
  have hrow : ∀ r, row = some r → w2.heap.size ≤ r ∧ v.ownBlock ≠ some r := fun r e => by
   rcases hr r e with h | ⟨h, o, ho, hc⟩
   · exact h.elim
   · exact ⟨h, ZS h2 ho hc⟩
  refine ⟨v, h1.abide hg hr, h2.kept hg ?_, fun x hx => (h3 x hx).abide hg hr, h4.abide hg hr, h5.grown hg (by have := h1.lt; omega) (fun k e => by have := (hrow k e).1; omega), Nat.le_trans h6 hg.size⟩
  cases row with
  | none => cases v.ownBlock <;> simp
  | some r => exact .inr (hrow r rfl).2
 case hIx => exact fun _ _ _ _ _ h _ _ => h
 case hAx =>
  rintro pre x a' _ V V' row ⟨D, h1, h2, ⟨h3, h5⟩, h4, h6⟩ hg hr
  refine ⟨D, h1, h2.abide hg hr, ⟨h3.abide hg hr, h5⟩, h4, fun ho => h6 (X8 (World.cell?_of_block (hg.block bk (by have := h2.lt; show bk < _; omega) (fun e => ?_))) ho)⟩
  rcases hr _ e.symm with h | ⟨h, _⟩
  · exact h
  · have : w2.heap.size ≤ bk := h
    omega
 case stop => exact fun D c pre W _ _ h _ => h.elim
 case assign =>
  rintro l3 pre x V K hI hP hK
  have HK := Lh hK
  have HI := Lh hI
  have HP := Lh hP
  clear hK hI hP
  gi_wp2_with (refine KD _ _ _ rfl ?_)
  refine Stop.to ?_
  obtain ⟨D, hD⟩ : ∃ D, D = V.heap.size := ⟨_, rfl⟩
  obtain ⟨V1, hV1⟩ : ∃ V1, V1 = V.alloc (.cells #[.slice none 0 0, .int .i64 0, .int .i64 0] 35) := ⟨_, rfl⟩
  have rD : Row V1 D 35 #[.slice none 0 0, .int .i64 0, .int .i64 0] := by rw [hV1, hD]; exact Row.new _ _ _
  have b1 : Below V.heap.size V V1 := by rw [hV1]; exact (Below.refl _ _).alloc (Nat.le_refl _) _
  rw [← hV1, ← hD]
  have hDw : V.heap.size ≤ D := Nat.le_of_eq hD.symm
  clear hV1 hD
  refine QZ rfl 35 _ _ rfl D x.cells rfl rfl 35 _ rD (by kernel_rfl) rfl (by simp [DlV.cells, Value.oneCell']) ?_
  have rD2 := rD.setRow x.cells
  have o2 := Zo V1 D x.cells
  have b2 : Below V.heap.size V (V1.setRow D x.cells) := Qo b1 o2 hDw
  generalize V1.setRow D x.cells = V2 at rD2 o2 b2 ⊢
  obtain ⟨v, h1, h2, h3, h4, h5, h6⟩ := HI.out
  have hs2 := b2.size
  have HF : Hid (KeepsFrom w2.heap.size V V2 ∧ KpB bk (fun i => i = w2.heap.size + 1) V V2 ∧ (∃ v, Row V2 bk 102 (ZO p 0 1 v) ∧ V2.ownsRow B 35 3 v pre.length (YB pre) ∧ (∀ x ∈ pre, DlT V2 x) ∧ Row V2 T1 88 #[.pointer (some ⟨bk, 0, none⟩)] ∧ Below B w0 V2 ∧ w2.heap.size ≤ V2.heap.size) ∧ Row V2 D 35 x.cells ∧ DlP full pre x V2 ∧ w2.heap.size ≤ D ∧ ¬ Ob bk V2 D) :=
   ⟨(KpX.of_below b2).keeps (X := fun _ => False) (fun _ h => h.elim), KpB.of_below h1.lt b2, ⟨v, h1.below b2 h1.lt, Qs h2 b2, fun y hy => (h3 y hy).go b2, h4.below b2 h4.lt, h5.trans (b2.mono (by have := h1.lt; omega)), by omega⟩, rD2, ⟨HP.out.1.go b2, HP.out.2⟩, by omega, fun ho => by
    obtain ⟨a, n', c', e1, e2⟩ := (Xf (h1.below b2 h1.lt)).1 ho
    rcases YK h2 with ⟨e3, _⟩ | ⟨g, c, e3, _, e5⟩
    · rw [e3] at e1; cases e1
    · rw [e3] at e1; injection e1 with e1; injection e1 with e1; subst e1; simp only at e2; omega⟩
  clear rD rD2 b1 o2 b2 hDw h1 h2 h3 h4 h5 h6 hs2 HI HP
  gi_wp2_with fail
  exact HK.out _ _ HF.out.1 HF.out.2.1 HF.out.2.2.1 ⟨D, rfl, HF.out.2.2.2⟩
 case body =>
  rintro l3 pre x a' V hl3 _ ⟨v, h1, h2, h3, h4, h5, h6⟩ ⟨D, rfl, hrD, ⟨hT, hrest⟩, hD, hno⟩ hlen
  obtain ⟨Vd, hVd⟩ : ∃ Vd, Vd = V.drew := ⟨_, rfl⟩
  have bd : Below V.heap.size V Vd := by rw [hVd]; exact St.drew (S := fun W => Below V.heap.size V W) (Below.refl _ _)
  have r1 := h1.below bd h1.lt
  have own1 := Qs h2 bd
  have c1 := (h4.below bd h4.lt).cellv (i := 0) (v := .pointer (some ⟨bk, 0, none⟩)) rfl
  have c6 := r1.cellv (i := 6) (v := v) rfl
  have rD1 := hrD.below bd hrD.lt
  have hpl : pre.length ≤ 20000 := by omega
  have hnD : v.ownBlock ≠ some D := fun e => hno (by
   rcases YK h2 with ⟨_, e4⟩ | ⟨g, c, e3, e4, _⟩
   · rw [e4] at e; cases e
   · rw [e4] at e; injection e with e; exact (Xf h1).2 ⟨_, _, _, e3, e⟩)
  have hDbk : D ≠ bk := fun e => by
   have h9 : V.heap[bk]? = some (.cells x.cells 35 (0, 0)) := by rw [← e]; exact hrD
   rw [show V.heap[bk]? = some (.cells (ZO p 0 1 v) 102 (0, 0)) from h1] at h9
   injection h9 with h9; injection h9 with _ h9; exact absurd h9 (by decide)
  obtain ⟨S, hSd⟩ : ∃ S : World → Prop, S = (fun W => W.cell? ⟨T1, 0, none⟩ = some (.pointer (some ⟨bk, 0, none⟩)) ∧ Row W D 35 x.cells) := ⟨_, rfl⟩
  have Tc1 : Hid (∀ W, S W → W.cell? ⟨T1, 0, none⟩ = some (.pointer (some ⟨bk, 0, none⟩))) := by show ∀ W, _; rw [hSd]; exact fun W h => h.1
  have TrD : Hid (∀ W, S W → Row W D 35 x.cells) := by show ∀ W, _; rw [hSd]; exact fun W h => h.2
  have TS : Hid (∀ W, Row W T1 88 #[.pointer (some ⟨bk, 0, none⟩)] → Row W D 35 x.cells → S W) := by show ∀ W, _; rw [hSd]; exact fun W h1 h2 => ⟨h1.cellv (i := 0) rfl, h2⟩
  have hS : S Vd := TS.out _ (h4.below bd h4.lt) rD1
  have HVd := Lh hVd
  clear hlen hl3 hrest c1 hSd hVd
  gi_wp2_with fail
  refine Aa0 (S := S) (by kernel_rfl) (by kernel_rfl) ?_
  simp only [List.size_toArray, List.length_cons, List.length_nil, Nat.reduceAdd, Array.replicate_succ, Array.replicate_zero, List.push_toArray, List.nil_append, List.cons_append]
  have hVd2 : Vd = V.drew := HVd.out
  rw [← hVd2]
  clear hVd2
  (refine tkH 0 (.pointer (some ⟨bk, 0, none⟩)) rfl (Qd rfl (fun W hW => by ((have c := Tc1.out W hW; go_simp)))) ?_; simp only [Act.put, Qa, Qb, Qc])
  (refine tkH 1 (.pointer (some ⟨bk, 0, none⟩)) rfl (Qd rfl (fun W hW => by ((have c := Tc1.out W hW; go_simp)))) ?_; simp only [Act.put, Qa, Qb, Qc])
  (refine tkH 2 (.pointer (some ⟨bk, 0, none⟩)) rfl (Qd rfl (fun W hW => by (go_simp))) ?_; simp only [Act.put, Qa, Qb, Qc])
  (refine tkH 3 (.pointer (some ⟨bk, 6, none⟩)) rfl (Qd rfl (fun W hW => by (go_simp))) ?_; simp only [Act.put, Qa, Qb, Qc])
  (refine tkH 5 _ rfl ((J9 rfl 35 _ rfl D rfl 35 x.cells _ (fun W hW => TrD.out W hW) Tryz.underlying35 rfl (by kernel_rfl))) ?_; simp only [Act.put, Qa, Qb, Qc])
  refine wpAnyH_all (rs := [4, 6]) (by kernel_rfl) (by simp) (fun i hi => ?_)
  have hi2 : i = 4 ∨ i = 6 := by simpa using hi
  clear hi
  rcases hi2 with rfl | rfl
  · refine Qe rfl rfl (fun K2 hK2 => ?_)
    refine Qj (w1 := Vd) v (by have c := c6; go_simp) ?_
    refine hK2 _ _ ?_
    clear hK2 K2
    simp only [Act.put, Qa, Qb, Qc]
    refine ⟨hS, ?_⟩
    (refine wpAnyH_all (rs := [6]) (by kernel_rfl) (by simp) (fun i hi => ?_); obtain rfl : i = 6 := by simpa using hi)
    refine Qe rfl rfl (fun K2 hK2 => ?_)
    refine Qj (.slice (some ⟨Vd.heap.size, 0, none⟩) 1 1) (Qn [(0, .tmp 11)] rfl (ZH (cells := x.cells) Tryz.underlying28 AbZ (by decide) (by decide) (by kernel_rfl) Vd)) ?_
    refine hK2 _ _ ?_
    clear hK2 K2
    simp only [Act.put, Qa, Qb, Qc]
    obtain ⟨M, hM⟩ : ∃ M, M = Vd.heap.size := ⟨_, rfl⟩
    obtain ⟨V2, hV2⟩ : ∃ V2, V2 = Vd.alloc (.cells x.cells 35) := ⟨_, rfl⟩
    have Mr : Row V2 M 35 x.cells := by rw [hV2, hM]; exact Row.new _ _ _
    have Mb : Below M Vd V2 := by rw [hV2, hM]; exact (Below.refl _ _).alloc (Nat.le_refl _) _
    have Mh : Vd.heap.size ≤ M := Nat.le_of_eq hM.symm
    rw [← hM, ← hV2]
    clear hM hV2
    have hS2 : S V2 := TS.out _ ((h4.below bd h4.lt).below (Mb.mono Mh) (h4.below bd h4.lt).lt) (rD1.below (Mb.mono Mh) rD1.lt)
    refine ⟨hS2, ?_⟩
    have bm := bd.trans ((Mb.mono Mh).mono bd.size)
    have own2 := Qs own1 (Mb.mono Mh)
    have r2 := r1.below (Mb.mono Mh) r1.lt
    have hBs : B ≤ V2.heap.size := by have := r2.lt; omega
    have hBV : B ≤ V.heap.size := by have := h1.lt; omega
    obtain ⟨v3, V3, hrun, own3, hgr, hat⟩ := ZB (P := Tryz.prog) 28 35 (.agg #[.slice none 0 0, .int .i64 0, .int .i64 0]) 3 40 Tryz.underlying28 AaK rfl (by decide) (by decide) own2 hBs (JM (cs := x.cells.toList) (by simpa using Mr)) (m := 1) (cap := 1) rfl (AbP x) (by simp) (by omega)
    obtain ⟨hkp, rf⟩ := KpB.put (L := fun i => i = w2.heap.size + 1) r2 own2 hgr own3 hat
    have r3 := r2.grown hgr (Qz own2 r2 (by decide))
    have o4 := Zc V3 bk 6 v3
    have own4 := QA own3 o4 (Qz own3 r3 (by decide))
    have hall : ∀ y, DlT V y → DlT (V3.setCell ⟨bk, 6, none⟩ v3) y := fun y hy => ((hy.go bm).own own2 hgr).only r3 (by decide) o4
    have rT2 := h4.below bm h4.lt
    have rT4 := (rT2.grown hgr (Qz own2 rT2 (by decide))).only o4 (by omega)
    have b3 := Qm (h5.trans (bm.mono hBV)) own2 hgr hBs (Nat.le_refl _)
    have hs4 : V.heap.size ≤ (V3.setCell ⟨bk, 6, none⟩ v3).heap.size := Nat.le_trans bm.size hkp.size
    rw [← EX] at own4
    have HF : Hid (KeepsFrom w2.heap.size V (V3.setCell ⟨bk, 6, none⟩ v3) ∧ KpB bk (fun i => i = w2.heap.size + 1) V (V3.setCell ⟨bk, 6, none⟩ v3) ∧ ∃ v, Row (V3.setCell ⟨bk, 6, none⟩ v3) bk 102 (ZO p 0 1 v) ∧ (V3.setCell ⟨bk, 6, none⟩ v3).ownsRow B 35 3 v (pre ++ [x]).length (YB (pre ++ [x])) ∧ (∀ y ∈ pre ++ [x], DlT (V3.setCell ⟨bk, 6, none⟩ v3) y) ∧ Row (V3.setCell ⟨bk, 6, none⟩ v3) T1 88 #[.pointer (some ⟨bk, 0, none⟩)] ∧ Below B w0 (V3.setCell ⟨bk, 6, none⟩ v3) ∧ w2.heap.size ≤ (V3.setCell ⟨bk, 6, none⟩ v3).heap.size) :=
     ⟨((KpX.of_below bm).keeps (X := fun _ => False) (fun _ h => h.elim)).trans ((KeepsFrom.of_own own2 hgr).trans (KeepsFrom.of_only r3 o4)), (KpB.of_below h1.lt bm).trans hkp, v3, rf, by rw [List.length_append]; exact own4, fun y hy => by
      rcases List.mem_append.1 hy with hy | hy
      · exact hall y (h3 y hy)
      · rw [List.mem_singleton.1 hy]; exact hall x hT, rT4, Qo b3 o4 hB, by omega⟩
    obtain ⟨A3, m3, d3, rfl⟩ := JD own3
    have c6 := r3.cellv (i := 6) (v := v) rfl
    have f6 := r3.free 6
    have Hrun := Lh hrun
    have hS3 : S V3 := TS.out _ (rT2.grown hgr (Qz own2 rT2 (by decide))) ((rD1.below (Mb.mono Mh) rD1.lt).grown hgr hnD)
    have hS4 : S (V3.setCell ⟨bk, 6, none⟩ (.slice A3 m3 d3)) := TS.out _ rT4 (((rD1.below (Mb.mono Mh) rD1.lt).grown hgr hnD).only o4 hDbk)
    clear hrun own1 own2 own3 own4 hgr hat hkp rf r1 r2 r3 o4 hall rT2 rT4 b3 hs4 bm bd Mr Mb Mh h1 h2 h3 h4 h5 h6 hT hrD hD rD1 hnD hBs hBV
    (refine wpAnyH_all (rs := [7]) (by kernel_rfl) (by simp) (fun i hi => ?_); obtain rfl : i = 7 := by simpa using hi)
    refine Qe rfl rfl (fun K2 hK2 => ?_)
    refine Qj _ (Qq rfl Hrun.out) ?_
    refine hK2 _ _ ?_
    clear hK2 K2 Hrun
    simp only [Act.put, Qa, Qb, Qc]
    refine ⟨hS3, ?_⟩
    (refine tkH 8 (.pointer (some ⟨bk, 0, none⟩)) rfl (Qd rfl (fun W hW => by (go_simp))) ?_; simp only [Act.put, Qa, Qb, Qc])
    (refine tkH 9 (.pointer (some ⟨bk, 6, none⟩)) rfl (Qd rfl (fun W hW => by (go_simp))) ?_; simp only [Act.put, Qa, Qb, Qc])
    (refine wpAnyH_all (rs := [10]) (by kernel_rfl) (by simp) (fun i hi => ?_); obtain rfl : i = 10 := by simpa using hi)
    refine Qe rfl rfl (fun K2 hK2 => ?_)
    unfold Oper.wp
    go_simp
    refine hK2 _ _ ?_
    clear hK2 K2
    simp only [Qa, Qb, Qc]
    refine ⟨hS4, ?_⟩
    refine wpAnyH_done (by kernel_rfl) ?_ _
    refine XK ?_
    gi_wp2_with fail
    exact HF.out
  · refine Qe rfl rfl (fun K2 hK2 => ?_)
    refine Qj (.slice (some ⟨Vd.heap.size, 0, none⟩) 1 1) (Qn [(0, .tmp 11)] rfl (ZH (cells := x.cells) Tryz.underlying28 AbZ (by decide) (by decide) (by kernel_rfl) Vd)) ?_
    refine hK2 _ _ ?_
    clear hK2 K2
    simp only [Act.put, Qa, Qb, Qc]
    obtain ⟨M, hM⟩ : ∃ M, M = Vd.heap.size := ⟨_, rfl⟩
    obtain ⟨V2, hV2⟩ : ∃ V2, V2 = Vd.alloc (.cells x.cells 35) := ⟨_, rfl⟩
    have Mr : Row V2 M 35 x.cells := by rw [hV2, hM]; exact Row.new _ _ _
    have Mb : Below M Vd V2 := by rw [hV2, hM]; exact (Below.refl _ _).alloc (Nat.le_refl _) _
    have Mh : Vd.heap.size ≤ M := Nat.le_of_eq hM.symm
    rw [← hM, ← hV2]
    clear hM hV2
    have hS2 : S V2 := TS.out _ ((h4.below bd h4.lt).below (Mb.mono Mh) (h4.below bd h4.lt).lt) (rD1.below (Mb.mono Mh) rD1.lt)
    refine ⟨hS2, ?_⟩
    have c62 := (r1.below (Mb.mono Mh) r1.lt).cellv (i := 6) (v := v) rfl
    (refine wpAnyH_all (rs := [4]) (by kernel_rfl) (by simp) (fun i hi => ?_); obtain rfl : i = 4 := by simpa using hi)
    refine Qe rfl rfl (fun K2 hK2 => ?_)
    refine Qj (w1 := V2) v (by have c := c62; go_simp) ?_
    refine hK2 _ _ ?_
    clear hK2 K2 c62
    simp only [Act.put, Qa, Qb, Qc]
    refine ⟨hS2, ?_⟩
    have bm := bd.trans ((Mb.mono Mh).mono bd.size)
    have own2 := Qs own1 (Mb.mono Mh)
    have r2 := r1.below (Mb.mono Mh) r1.lt
    have hBs : B ≤ V2.heap.size := by have := r2.lt; omega
    have hBV : B ≤ V.heap.size := by have := h1.lt; omega
    obtain ⟨v3, V3, hrun, own3, hgr, hat⟩ := ZB (P := Tryz.prog) 28 35 (.agg #[.slice none 0 0, .int .i64 0, .int .i64 0]) 3 40 Tryz.underlying28 AaK rfl (by decide) (by decide) own2 hBs (JM (cs := x.cells.toList) (by simpa using Mr)) (m := 1) (cap := 1) rfl (AbP x) (by simp) (by omega)
    obtain ⟨hkp, rf⟩ := KpB.put (L := fun i => i = w2.heap.size + 1) r2 own2 hgr own3 hat
    have r3 := r2.grown hgr (Qz own2 r2 (by decide))
    have o4 := Zc V3 bk 6 v3
    have own4 := QA own3 o4 (Qz own3 r3 (by decide))
    have hall : ∀ y, DlT V y → DlT (V3.setCell ⟨bk, 6, none⟩ v3) y := fun y hy => ((hy.go bm).own own2 hgr).only r3 (by decide) o4
    have rT2 := h4.below bm h4.lt
    have rT4 := (rT2.grown hgr (Qz own2 rT2 (by decide))).only o4 (by omega)
    have b3 := Qm (h5.trans (bm.mono hBV)) own2 hgr hBs (Nat.le_refl _)
    have hs4 : V.heap.size ≤ (V3.setCell ⟨bk, 6, none⟩ v3).heap.size := Nat.le_trans bm.size hkp.size
    rw [← EX] at own4
    have HF : Hid (KeepsFrom w2.heap.size V (V3.setCell ⟨bk, 6, none⟩ v3) ∧ KpB bk (fun i => i = w2.heap.size + 1) V (V3.setCell ⟨bk, 6, none⟩ v3) ∧ ∃ v, Row (V3.setCell ⟨bk, 6, none⟩ v3) bk 102 (ZO p 0 1 v) ∧ (V3.setCell ⟨bk, 6, none⟩ v3).ownsRow B 35 3 v (pre ++ [x]).length (YB (pre ++ [x])) ∧ (∀ y ∈ pre ++ [x], DlT (V3.setCell ⟨bk, 6, none⟩ v3) y) ∧ Row (V3.setCell ⟨bk, 6, none⟩ v3) T1 88 #[.pointer (some ⟨bk, 0, none⟩)] ∧ Below B w0 (V3.setCell ⟨bk, 6, none⟩ v3) ∧ w2.heap.size ≤ (V3.setCell ⟨bk, 6, none⟩ v3).heap.size) :=
     ⟨((KpX.of_below bm).keeps (X := fun _ => False) (fun _ h => h.elim)).trans ((KeepsFrom.of_own own2 hgr).trans (KeepsFrom.of_only r3 o4)), (KpB.of_below h1.lt bm).trans hkp, v3, rf, by rw [List.length_append]; exact own4, fun y hy => by
      rcases List.mem_append.1 hy with hy | hy
      · exact hall y (h3 y hy)
      · rw [List.mem_singleton.1 hy]; exact hall x hT, rT4, Qo b3 o4 hB, by omega⟩
    obtain ⟨A3, m3, d3, rfl⟩ := JD own3
    have c6 := r3.cellv (i := 6) (v := v) rfl
    have f6 := r3.free 6
    have Hrun := Lh hrun
    have hS3 : S V3 := TS.out _ (rT2.grown hgr (Qz own2 rT2 (by decide))) ((rD1.below (Mb.mono Mh) rD1.lt).grown hgr hnD)
    have hS4 : S (V3.setCell ⟨bk, 6, none⟩ (.slice A3 m3 d3)) := TS.out _ rT4 (((rD1.below (Mb.mono Mh) rD1.lt).grown hgr hnD).only o4 hDbk)
    clear hrun own1 own2 own3 own4 hgr hat hkp rf r1 r2 r3 o4 hall rT2 rT4 b3 hs4 bm bd Mr Mb Mh h1 h2 h3 h4 h5 h6 hT hrD hD rD1 hnD hBs hBV
    (refine wpAnyH_all (rs := [7]) (by kernel_rfl) (by simp) (fun i hi => ?_); obtain rfl : i = 7 := by simpa using hi)
    refine Qe rfl rfl (fun K2 hK2 => ?_)
    refine Qj _ (Qq rfl Hrun.out) ?_
    refine hK2 _ _ ?_
    clear hK2 K2 Hrun
    simp only [Act.put, Qa, Qb, Qc]
    refine ⟨hS3, ?_⟩
    (refine tkH 8 (.pointer (some ⟨bk, 0, none⟩)) rfl (Qd rfl (fun W hW => by (go_simp))) ?_; simp only [Act.put, Qa, Qb, Qc])
    (refine tkH 9 (.pointer (some ⟨bk, 6, none⟩)) rfl (Qd rfl (fun W hW => by (go_simp))) ?_; simp only [Act.put, Qa, Qb, Qc])
    (refine wpAnyH_all (rs := [10]) (by kernel_rfl) (by simp) (fun i hi => ?_); obtain rfl : i = 10 := by simpa using hi)
    refine Qe rfl rfl (fun K2 hK2 => ?_)
    unfold Oper.wp
    go_simp
    refine hK2 _ _ ?_
    clear hK2 K2
    simp only [Qa, Qb, Qc]
    refine ⟨hS4, ?_⟩
    refine wpAnyH_done (by kernel_rfl) ?_ _
    refine XK ?_
    gi_wp2_with fail
    exact HF.out
 case done =>
  rintro D ys W hD hys ⟨v, h1, h2, h3, h4, h5, -⟩ hK
  have HK := Lh hK
  have hr : ∀ r, some D = some r → False ∨ (True ∧ ∃ o : Obj, W.heap[r]? = some o ∧ o.isCells = false) := fun r e => by cases e; exact .inr ⟨trivial, _, hK, rfl⟩
  have hg := grownBy_putObj' W D (.deferred none)
  have HF : Hid (∃ v, Row (W.putObj D (.deferred none)) bk 102 (ZO p 0 1 v) ∧ FillD p bk B full w0 v (W.putObj D (.deferred none))) := ⟨v, h1.abide hg hr, ys, h2.kept hg (.inr (ZS h2 hK rfl)), hys, fun x hx => (h3 x hx).abide hg hr, h5.grown hg (by have := h1.lt; omega) (fun k e => by cases e; omega)⟩
  clear hK hr hg h1 h2 h3 h4 h5 hys
  gi_wp2
  refine ⟨by simp, .inl ⟨_, _, rfl, run_takeDeferred HK.out, ?_⟩⟩
  exact ⟨_, results_none rfl _ _ _, rfl, HF.out⟩
end Go.Proofs.YtdcmppdhdcjpfaaGreat
namespace Go.Proofs.YtdcmppdhdcjpfaaGreat
open Go.RowKit Go.Deep
theorem Ag5 (p : PgV) (t : Tr) (hf : Fine p t) (hlc : p.body.length ≤ p.bcap) (hcm : p.bcap ≤ maxLen) (bk B : Nat) (hB : B ≤ bk) (w0 w : World) (hbw : Below B w0 w) (hr : Row w bk 102 (ZO p 0 0 (.slice none 0 0)))
 (hrd : Rd w p.ba (p.body.flatMap Nd.cells)) (hA : p.body.flatMap Nd.cells ≠ [] → ∀ ad, p.ba = some ad → ad.block ≠ bk) :
 Calls Tryz.prog 53 #[.pointer (some ⟨bk, 0, none⟩)] w fun e w' => ∃ v, e = .returned v ∧ FillD p bk B (Z5 p.body t) w0 v w' := by
 have o1 := Zc w bk 4 (.int .i32 1)
 have hF := Af0 p t hf hlc hcm bk B hB w0 (w.setCell ⟨bk, 4, none⟩ (.int .i32 1)) (Qo hbw o1 hB) (hr.set 4 _) (hrd.only o1 hA) hA
 have Hs := Lh (Adl bk p (.slice none 0 0) (FillD p bk B (Z5 p.body t) w0) w hr hF)
 have Hr := Lh hr
 clear hf hlc hcm hbw hr hrd hA hF o1
 obtain ⟨full, hfull⟩ : ∃ full, full = Z5 p.body t := ⟨_, rfl⟩
 rw [← hfull] at Hs ⊢
 clear hfull
 have hmf : ∀ (fn : Fn) (first cap : Array Value) (w : World), (Instr.makeFunc fn first cap).run Tryz.prog w = .ok (.func fn first cap) w := fun _ _ _ _ => rfl
 go_enter Tryz.func53, Tryz.ntmps53
 go_wp2_with fail
 refine Hs.out.mono ?_
 rintro e w' ⟨rfl, v, w1, r1, ⟨xs, h1, h2, h3, h4⟩, hw⟩
 have r1d : Row w1.drew bk 102 (ZO p 0 1 v) := r1
 have b1d : Below w1.heap.size w1 w1.drew := St.drew (S := fun W => Below w1.heap.size w1 W) (Below.refl _ _)
 have h1d := Qs h1 b1d
 have h3d : ∀ x ∈ xs, DlT w1.drew x := fun x hx => (h3 x hx).go b1d
 have h4d : Below B w0 w1.drew := h4.trans (b1d.mono (by have := r1.lt; omega))
 have o2 := Zc w1.drew bk 3 (.int .u32 1)
 have r2 : Row (w1.drew.setCell ⟨bk, 3, none⟩ (.int .u32 1)) bk 102 (ZO p 1 1 v) := r1d.set 3 _
 have h12 := QA h1d o2 (Qz h1d r1d (by decide))
 have o3 := Zc (w1.drew.setCell ⟨bk, 3, none⟩ (.int .u32 1)) bk 4 (.int .i32 0)
 have r3 : Row ((w1.drew.setCell ⟨bk, 3, none⟩ (.int .u32 1)).setCell ⟨bk, 4, none⟩ (.int .i32 0)) bk 102 (ZO p 1 0 v) := r2.set 4 _
 have h13 := QA h12 o3 (Qz h12 r2 (by decide))
 have HF : Hid (FillD p bk B full w0 v ((w1.drew.setCell ⟨bk, 3, none⟩ (.int .u32 1)).setCell ⟨bk, 4, none⟩ (.int .i32 0))) := ⟨xs, h13, h2, fun x hx => ((h3d x hx).only r1d (by decide) o2).only r2 (by decide) o3, Qo (Qo h4d o2 hB) o3 hB⟩
 rw [← hw] at r3 HF
 obtain ⟨A, cap, rfl⟩ := Zd h1
 have c6 := r3.cellv (i := 6) (v := .slice A xs.length cap) rfl
 clear h1 h2 h3 h4 hw r1 r1d b1d h1d h3d h4d o2 r2 h12 o3 r3 h13 Hs Hr
 go_wp2_with fail
 go_ret
 exact ⟨_, rfl, HF.out⟩
structure AllR (p : PgV) (w w' : World) (e : Ending) : Prop where
 ex : ∃ (A : Option Addr) (cap : Nat) (xs : List DlV), e = .returned (.tuple #[.slice A xs.length cap, .int .i64 (Zb p)]) ∧ Rd w' A (YB xs) ∧ xs.length ≤ cap ∧ (A = none → xs = []) ∧ (∀ x ∈ xs, DlT w' x) ∧ (∀ t, Fine p t → xs.map DlV.d = Z5 p.body t) ∧ (Zb p ≠ 0 → xs = []) ∧ xs.length ≤ 20000 ∧ Below w.heap.size w w'
theorem AhH {w : World} {base n : Nat} {e : TypeId} {v : Value} {xs : List Value} (h : w.ownsRow base e 3 v n xs) : ∃ A cap, v = .slice A n cap ∧ Rd w A xs ∧ n ≤ cap ∧ (A = none → n = 0) := by
 obtain ⟨A, cap, rfl⟩ := Zd h
 refine ⟨A, cap, rfl, KT h, ?_⟩
 rcases h.2 with ⟨e1, h0⟩ | ⟨g, c, cur, e1, _, _, hc, _⟩
 · injection e1 with e1 e2 e3; exact ⟨by omega, fun _ => h0⟩
 · injection e1 with e1 e2 e3; subst e1 e3; exact ⟨hc, fun e => by cases e⟩
theorem XB (p : PgV) (hbl : p.body.length ≤ 1000) (w : World) (hok : p.ok w) :
 Calls Tryz.prog 17 #[.agg p.cells] w fun e w' => AllR p w w' e := by
 have Hbl := Lh hbl
 have Hok := Lh hok
 clear hbl hok
 go_enter Tryz.func17, Tryz.ntmps17
 go_wp2_with (refine Qp _ _ rfl ?_)
 refine Stop.to ?_
 refine Qf rfl 25 _ rfl p.cells rfl ?_
 intro G Gw Gh Gr Gb
 have b1 := (Below.refl w.heap.size w).trans (Gb.mono Gh)
 have Hok1 := Lh (Hok.out.go b1)
 have Hs := Lh (Vu p Hbl.out Gw Hok1.out)
 clear Gb Gh
 go_wp2_with (refine wpList_load_row rfl 25 _ rfl G rfl 25 p.cells (0, 0) _ Gr Tryz.underlying25 rfl (by kernel_rfl) ?_)
 refine Hs.out.mono ?_
 rintro e w1 ⟨rfl, b2⟩
 replace Gr := Gr.below b2 Gr.lt
 replace b1 := b1.trans (b2.mono b1.size)
 replace Hok1 := Lh (Hok1.out.go b2)
 clear b2 Hs
 obtain ⟨k, hk⟩ : ∃ k, k = Zb p := ⟨_, rfl⟩
 by_cases h0 : k = 0
 rotate_left
 · have HF : Hid (AllR p w w1 (.returned (.tuple #[.slice none 0 0, .int .i64 k]))) := ⟨none, 0, [], by rw [hk]; rfl, Rd.nil _ _, Nat.le_refl _, fun _ => rfl, fun x hx => by simp at hx, fun t ht => absurd (checkP_ok.2 ⟨t, ht⟩) (by rw [← hk]; exact h0), fun _ => rfl, by simp, b1⟩
   have e0 : (k != 0) = true := by simpa using h0
   rw [← hk]
   clear hk h0
   go_wp2_with fail
   refine bodyPost_ret (results_tmp2 rfl _ _ _) rfl ?_
   exact HF.out
 subst h0
 obtain ⟨t, ht⟩ := checkP_ok.1 hk.symm
 rw [← hk]
 have Hk := Lh hk
 have Ht := Lh ht
 clear hk ht
 go_wp2_with (first | (refine Qp _ _ rfl ?_) | (refine wpList_load_row rfl 25 _ rfl G rfl 25 #[.int .i64 p.params, .slice p.va p.V.length p.vcap, .slice p.ba p.body.length p.bcap] (0, 0) _ Gr Tryz.underlying25 rfl (by kernel_rfl) ?_))
 refine Stop.to ?_
 refine Qf rfl 102 _ rfl (ZO p 0 0 (.slice none 0 0)) rfl ?_
 intro K Kw Kh Kr Kb
 have b3 := b1.trans ((Kb.mono Kh).mono b1.size)
 have b4 := (Below.refl w1.heap.size w1).trans (Kb.mono Kh)
 have Hs := Lh (Ag5 p t Ht.out Hok1.out.blen Hok1.out.bmax K w.heap.size (by have := b1.size; omega) w Kw b3 Kr (Hok1.out.brd.go b4) (fun hne ad e => by have := Xj Hok1.out.brd hne e; omega))
 clear Gr Kr Kb b3 b4 b1 Hok1
 go_wp2_with fail
 refine Hs.out.mono ?_
 rintro e w2 ⟨v, rfl, xs, h1, h2, h3, h4⟩
 obtain ⟨A, cap, rfl, hr, hc, hn⟩ := AhH h1
 have hl : xs.length ≤ 20000 := by have := Ad6 Ht.out; rw [← h2, List.length_map] at this; exact this
 have HF : Hid (AllR p w w2 (.returned (.tuple #[.slice A xs.length cap, .int .i64 0]))) := ⟨A, cap, xs, by rw [← Hk.out], hr, hc, fun e => List.eq_nil_of_length_eq_zero (hn e), h3, fun u hu => by rw [h2, Ht.out.good.whole.uniq hu.good.whole], fun h => absurd Hk.out.symm h, hl, h4⟩
 clear h1 h2 h3 h4 hr hc hn hl Hs Hk Ht
 go_wp2_with fail
 refine bodyPost_ret (results_tmp2 rfl _ _ _) rfl ?_
 exact HF.out
end Go.Proofs.YtdcmppdhdcjpfaaGreat
