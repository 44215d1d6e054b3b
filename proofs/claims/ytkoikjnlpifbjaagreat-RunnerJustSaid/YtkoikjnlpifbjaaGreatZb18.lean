/- Lemmas for RunnerJustP. -/
import Derived.Test.YtkoikjnlpifbjaaGreatZb1
import Derived.Test.YtkoikjnlpifbjaaGreatZb17
import Derived.Test.YtkoikjnlpifbjaaGreatZb5
set_option linter.unusedVariables false
set_option linter.unusedSimpArgs false
set_option maxRecDepth 100000
set_option maxHeartbeats 16000000
namespace Go.Proofs.YtkoikjnlpifbjaaGreat
open Go.RowKit Go.Deep
attribute [local go_sem] Oper.semAt_some
theorem AbY {P : Program} {r : Nat} {id : Nat} {Q : Exit → Act → World → Prop} {a : Act} {w : World} {l : List Oper} {S : World → Prop} (hm : P.follows .mixedOrders = true) (hd : X7 l.toArray = true) (h : wpAnyH P .any l.toArray (Ends Q) S l.toArray.size (Array.replicate l.toArray.size false) a w.drew) : (Code.region id l.toArray true).wpIn (Fence.wide.inRound r) 0 P Q a w :=
 YA hm hd (wpAny_of_held _ _ _ _ h)
theorem Ux {w : World} {base size n : Nat} {e : TypeId} {v : Value} {xs : List Value} (h : w.ownsRow base e size v n xs) : (v = .slice none 0 0 ∧ v.ownBlock = none) ∨ ∃ g cap, v = .slice (some ⟨g, 0, none⟩) n cap ∧ v.ownBlock = some g ∧ g < w.heap.size := by
 rcases h.2 with ⟨rfl, d⟩ | ⟨g, cap, b, rfl, _, c, _⟩
 · exact .inl ⟨rfl, rfl⟩
 · exact .inr ⟨g, cap, rfl, rfl, (Lt.1 c).1⟩
theorem XP {bk : Nat} {W : World} {p : PgV} {dn st : Int} {v : Value} (h : Row W bk 98 (Z2 p dn st v)) {k : Nat} : Ob bk W k ↔ ∃ a n c, v = .slice (some a) n c ∧ a.block = k := by
 have b : W.cell? ⟨bk, 6, none⟩ = some v := h.cellv (i := 6) rfl;unfold Ob;rw [b];simp only [No]
theorem KpB.put {bk : Nat} {L : Nat → Prop} {A B : World} {p : PgV} {v v' : Value} {lim n m : Nat} {xs ys : List Value} (hr : Row A bk 98 (Z2 p 0 1 v)) (h : A.ownsRow lim 50 3 v n xs) (hg : A.grownBy B v.ownBlock)
 (h' : B.ownsRow lim 50 3 v' m ys) (hat : v'.ownBlock = v.ownBlock ∨ v'.ownBlock = some A.heap.size) : KpB bk L A (B.setCell ⟨bk, 6, none⟩ v') ∧ Row (B.setCell ⟨bk, 6, none⟩ v') bk 98 (Z2 p 0 1 v') := by
 have u := hr.grown hg (QD h hr (by decide));have d : Row (B.setCell ⟨bk, 6, none⟩ v') bk 98 (Z2 p 0 1 v') := u.set 6 v';have o := Q6 B bk 6 v'
 have x : ∀ k, v.ownBlock = some k → Ob bk A k := fun k e => by
  rcases Ux h with ⟨_, i⟩ | ⟨g, c, b, i, _⟩
  · rw [i] at e; cases e
  · rw [i] at e; injection e with e; subst e; exact (XP hr).2 ⟨_, _, _, b, rfl⟩
 have s : ∀ k, Ob bk (B.setCell ⟨bk, 6, none⟩ v') k → v'.ownBlock = some k ∧ k < B.heap.size := fun k q => by
  obtain ⟨a, n', c', b, i⟩ := (XP d).1 q;rcases Ux h' with ⟨t, _⟩ | ⟨g, c, t, y, z⟩
  · rw [t] at b; cases b
  · rw [t] at b; injection b with b; injection b with b; subst b; subst i; exact ⟨y, z⟩
 refine ⟨⟨fun k ob l _ h3 w => ?_, ?_, fun k q => ?_, fun _ k q => ?_, fun j hj => ?_⟩, d⟩
 · rw [o.block k l];exact (hg.block k (Lt.1 w).1 (fun e => h3 (x k e.symm))).trans w
 · rw [o.size]; exact hg.size
 · obtain ⟨e, _⟩ := s k q;rcases hat with l | l
   · rw [l] at e; exact .inl (x k e)
   · rw [l] at e; injection e with e; exact .inr (LM e)
 · rw [o.size]; exact (s k q).2
 · rw [d.cell j, hr.cell j]
   match j, hj with
   | 0, _ | 1, _ | 2, _ | 3, _ | 4, _ | 5, _ => rfl
   | j + 7, _ => simp [Z2]
theorem DlT.same {A B : World} {x : DlV} (h : DlT A x) (hb : ∀ (a : Addr) (cs : Array Value), x.A = some a → Row A a.block 3 cs → Row B a.block 3 cs) : DlT B x :=
 ⟨⟨fun j u hj => by
  obtain ⟨a, e, hc⟩ := h.ok.rd j u hj
  obtain ⟨cs, hr⟩ := h.ib a e
  exact ⟨a, e, (World.cell?_of_block (by rw [JI]; exact (hb a cs e hr).trans (Eq.symm hr))).trans hc⟩, h.ok.len⟩, fun a e => by
  obtain ⟨cs, hr⟩ := h.ib a e
  exact ⟨cs, hb a cs e hr⟩, h.nil⟩
theorem DlT.go {A B : World} {x : DlV} (h : DlT A x) (b : Below A.heap.size A B) : DlT B x := h.same fun _ _ _ hr => hr.below b hr.lt
theorem DlT.abide {W W' : World} {x : DlV} {row : Option Nat} {q : Nat → Prop} (h : DlT W x) (hg : W.grownBy W' row) (hr : ∀ r, row = some r → False ∨ (q r ∧ ∃ o : Obj, W.heap[r]? = some o ∧ o.isCells = false)) : DlT W' x := h.same fun _ _ _ k => k.abide hg hr
theorem DlT.own {W W' : World} {x : DlV} {lim n : Nat} {v : Value} {xs : List Value} (h : DlT W x) (hown : W.ownsRow lim 50 3 v n xs) (hg : W.grownBy W' v.ownBlock) : DlT W' x := h.same fun _ _ _ k => k.grown hg (QD hown k (by decide))
theorem DlT.only {W W' : World} {x : DlV} {g : Nat} {t : TypeId} {cs : Array Value} (h : DlT W x) (hr : Row W g t cs) (ht : t ≠ 3) (o : Only g W W') : DlT W' x := h.same fun a cs' _ k => k.only o (fun e => by
 have h1 : W.heap[g]? = some (.cells cs' 3 (0, 0)) := by rw [← e]; exact k
 rw [show W.heap[g]? = some (.cells cs t (0, 0)) from hr] at h1
 injection h1 with h1; injection h1 with _ h1; exact ht h1)
structure EachFn (bk : Nat) (w w' : World) (e : Ending) : Prop where
 ex : ∃ bb, e = .returned (.func (.func 151) #[] #[.pointer (some ⟨bb, 0, none⟩)]) ∧ Row w' bb 96 #[.pointer (some ⟨bk, 0, none⟩)] ∧ w.heap.size ≤ bb ∧ Below w.heap.size w w'
theorem AeA (bk : Nat) (w : World) : Calls Tryz.prog 115 #[.pointer (some ⟨bk, 0, none⟩)] w fun e w' => EachFn bk w w' e := by
 go_enter Tryz.func115, Tryz.ntmps115
 go_wp2_with (refine Qm _ _ rfl ?_)
 refine Stop.to ?_;refine Qe rfl 96 _ rfl #[.pointer (some ⟨bk, 0, none⟩)] rfl ?_;intro G h c d b;have g := (Below.refl w.heap.size w).trans (b.mono c);clear b;go_wp2
 go_ret
 exact ⟨G, rfl, d, c, g⟩
structure FillD (p : PgV) (bk B : Nat) (full : List Dl) (w0 : World) (v : Value) (W : World) : Prop where
 ex : ∃ xs : List DlV, W.ownsRow B 50 3 v xs.length (KF xs) ∧ xs.map DlV.d = full ∧ (∀ x ∈ xs, DlT W x) ∧ Below B w0 W
theorem AcU (x : DlV) : ∀ u ∈ x.cells.toList, u.oneCell' = true := by
 intro u b;simp only [DlV.cells, L2, L9, or_false] at b;rcases b with rfl | rfl | rfl <;> rfl
theorem AaZ (xs : List DlV) (x : DlV) : KF (xs ++ [x]) = KF xs ++ x.cells.toList := by simp [KF]
theorem Ad2 {p : PgV} {t : Tr} (hf : Fine p t) : ∀ q, q ≤ p.body.length → (UP p.body t q).length ≤ 100 * q
 | 0, _ => by simp [UP]
 | q + 1, h => by
  obtain ⟨π, k, hp, hat⟩ := AfN hf.good.whole (q := q) (by omega)
  have h1 := Ad2 hf q (by omega)
  have h2 := X0 p.body q hat (hf.ar _ (Lj hat.root))
  rw [Vi hp, Lf, Lz]; omega
theorem Afm {p : PgV} {t : Tr} (hf : Fine p t) : (Q8 p.body t).length ≤ 20000 := by
 have b := Ad2 hf p.body.length (Nat.le_refl _);have c := hf.len;rw [Ad1 _ _ (LM hf.good.size)] at b; omega
theorem Ahw (p : PgV) (t : Tr) (hf : Fine p t) (hlc : p.body.length ≤ p.bcap) (hcm : p.bcap ≤ maxLen) (bk B : Nat) (hB : B ≤ bk) (w0 w : World) (hbw : Below B w0 w) (hr : Row w bk 98 (Z2 p 0 1 (.slice none 0 0)))
 (hrd : Rd w p.ba (p.body.flatMap Nd.cells)) (hA : p.body.flatMap Nd.cells ≠ [] → ∀ ad, p.ba = some ad → ad.block ≠ bk) :
 Calls Tryz.prog 79 #[.pointer (some ⟨bk, 0, none⟩)] w fun e w' => e = .returned (.tuple #[]) ∧ ∃ v, Row w' bk 98 (Z2 p 0 1 v) ∧ FillD p bk B (Q8 p.body t) w0 v w' := by
 have Hf := Lv hf;have bg := Lv hlc;have be := Lv hcm;have a1 := Lv hrd;have HA := Lv hA;have bx := hr.lt;have bs := Afm hf;obtain ⟨ag, aj⟩ : ∃ ag, ag = Q8 p.body t := ⟨_, rfl⟩;rw [← aj] at bs ⊢;clear hf hlc hcm hrd hA;refine (callsIn_wide (n := 0)).1 ?_;refine callsIn_of_wp_marks Tryz.func79 rfl trivial ?_;simp only [Tryz.ntmps79, Lm, Le, Lu, Nat.reduceAdd, Nat.reduceSub, Lk, Ll, Ly, LH, Lp, Ln];gi_wp2_with fail
 obtain ⟨T1, a4⟩ : ∃ B, B = w.heap.size := ⟨_, rfl⟩;obtain ⟨w1, ax⟩ : ∃ w1, w1 = w.alloc (.cells #[.pointer (some ⟨bk, 0, none⟩)] 96) := ⟨_, rfl⟩;have rT : Row w1 T1 96 #[.pointer (some ⟨bk, 0, none⟩)] := by rw [ax, a4]; exact Row.new _ _ _
 have b1 : Below w.heap.size w w1 := by rw [ax]; exact (Below.refl _ _).alloc (Nat.le_refl _) _
 rw [← ax, ← a4];have gT : bk < T1 := by omega
 clear ax a4;refine ⟨trivial, rfl, (callsIn_wide.2 (AeA bk w1)).mono ?_⟩;rintro e w2 ⟨bb, rfl, rb, gb, b2⟩;have lT := rT.lt;have am := b1.trans (b2.mono b1.size);replace rT := rT.below b2 rT.lt;have r2 := hr.below am hr.lt;have s2 := r2.lt
 have ao : ∀ k, ¬ Ob bk w2 k := fun k ho => by
  obtain ⟨_, _, _, e, _⟩ := (XP r2).1 ho;cases e
 have hC : EachC p bk bb (fun _ => False) w2 := ⟨rb, ⟨by omega, fun h => h, ao _, rb.lt⟩, r2.cellv (i := 2) rfl, a1.out.go am, fun bn ad e => ⟨HA.out bn ad e, fun h => h, ao _, Xe (a1.out.go am) bn e⟩, fun k ho => absurd ho (ao k), fun _ h => False.elim h, s2⟩;have bf := Lv (Aez p t Hf.out bg.out be.out bk bb w2 hC);have bc : Hid (Below B w0 w2) := hbw.trans (am.mono (by have := hbw.size; have := am.size; omega));have bw : T1 < bb := by omega
 have b0 := rb.lt;clear ao hC rb b1 b2 am hr gb lT hbw a1 HA Hf bg be;gi_wp2_with fail
 rw [← aj] at bf;have bp : Hid (∃ v, Row w2 bk 98 (Z2 p 0 1 v) ∧ w2.ownsRow B 50 3 v ([] : List DlV).length (KF []) ∧ (∀ x ∈ ([] : List DlV), DlT w2 x) ∧ Row w2 T1 96 #[.pointer (some ⟨bk, 0, none⟩)] ∧ Below B w0 w2 ∧ w2.heap.size ≤ w2.heap.size) := ⟨_, r2, World.ownsRow_nil _ _ _ _, fun x h => by simp at h, rT, bc.out, Nat.le_refl _⟩;clear r2 rT bc aj
 refine Yz (gf := 151) (lb := #[.pointer (some ⟨bb, 0, none⟩)]) rfl (enters_of Tryz.func151 (by kernel_rfl) rfl) bf.out (fun r h => h.elim)
  (fun h k => h.trans k) (fun V o o' ho hc => ?hKb) (World.grownBy.refl _ _) (fun _ => rfl)
  (fun q V => ∃ v, Row V bk 98 (Z2 p 0 1 v) ∧ V.ownsRow B 50 3 v q.length (KF q) ∧ (∀ x ∈ q, DlT V x) ∧ Row V T1 96 #[.pointer (some ⟨bk, 0, none⟩)] ∧ Below B w0 V ∧ w2.heap.size ≤ V.heap.size)
  (fun _ _ _ => False) (.inl trivial) ?hI ?hIx bp.out
  (fun q x a' V => ∃ D, a' = { tmps := #[.pointer (some ⟨bk, 0, none⟩), .pointer (some ⟨T1, 0, none⟩), .pointer (some ⟨D, 0, none⟩), .pointer (some ⟨bk, 0, none⟩), .func (.func 151) #[] #[.pointer (some ⟨bb, 0, none⟩)], .agg x.cells, undef, undef, undef, undef, undef, undef, undef, undef, undef, undef], defers := [] } ∧ Row V D 50 x.cells ∧ DlP ag q x V ∧ w2.heap.size ≤ D ∧ ¬ Ob bk V D) ?hAx ?assign ?body ?done ?stop
 case hKb =>
  have a6 : ∀ j, (V.putObj (w2.heap.size + 1) o').cell? ⟨bk, j, none⟩ = V.cell? ⟨bk, j, none⟩ := fun j => World.cell?_of_block (World.putObj_heap_other (by show bk ≠ _; omega));exact ⟨fun k ob _ h2 _ z => by rw [World.putObj_heap_other (fun e => h2 e)]; exact z, by simp, fun k ho => .inl (YQ (a6 6) ho), fun hl k ho => by have h9 := hl k (YQ (a6 6) ho); simpa using h9, fun j _ => a6 j⟩
 case hI =>
  rintro q V V' row ⟨v, h1, h2, h3, z, h5, h6⟩ hg hr
  have a0 : ∀ r, row = some r → w2.heap.size ≤ r ∧ v.ownBlock ≠ some r := fun r e => by
   rcases hr r e with h | ⟨h, o, ho, hc⟩
   · exact h.elim
   · exact ⟨h, Z9 h2 ho hc⟩
  refine ⟨v, h1.abide hg hr, h2.kept hg ?_, fun x hx => (h3 x hx).abide hg hr, z.abide hg hr, h5.grown hg (by have := h1.lt; omega) (fun k e => by have := (a0 k e).1; omega), Li h6 hg.size⟩;cases row with
  | none => cases v.ownBlock <;> simp
  | some r => exact .inr (a0 r rfl).2
 case hIx => exact fun _ _ _ _ _ h _ _ => h
 case hAx =>
  rintro q x a' _ V V' row ⟨D, h1, h2, ⟨h3, h5⟩, z, h6⟩ hg hr;refine ⟨D, h1, h2.abide hg hr, ⟨h3.abide hg hr, h5⟩, z, fun ho => h6 (YQ (World.cell?_of_block (hg.block bk (by have := h2.lt; show bk < _; omega) (fun e => ?_))) ho)⟩;rcases hr _ e.symm with h | ⟨h, _⟩
  · exact h
  · have : w2.heap.size ≤ bk := h;omega
 case stop => exact fun D c q W _ _ h _ => h.elim
 case assign =>
  rintro l3 q x V K hI hP hK;have HK := Lv hK;have HI := Lv hI;have HP := Lv hP;clear hK hI hP;gi_wp2_with (refine KZ _ _ _ rfl ?_);refine Stop.to ?_;obtain ⟨D, hD⟩ : ∃ D, D = V.heap.size := ⟨_, rfl⟩;obtain ⟨V1, aw⟩ : ∃ V1, V1 = V.alloc (.cells #[.slice none 0 0, .int .i64 0, .int .i64 0] 50) := ⟨_, rfl⟩;have rD : Row V1 D 50 #[.slice none 0 0, .int .i64 0, .int .i64 0] := by rw [aw, hD]; exact Row.new _ _ _
  have b1 : Below V.heap.size V V1 := by rw [aw]; exact (Below.refl _ _).alloc (Nat.le_refl _) _
  rw [← aw, ← hD];have bj : V.heap.size ≤ D := LM hD.symm;clear aw hD;refine Q5 rfl 50 _ _ rfl D x.cells rfl rfl 50 _ rD (by kernel_rfl) rfl (by simp [DlV.cells, Value.oneCell']) ?_;have a9 := rD.setRow x.cells;have o2 := Zv V1 D x.cells;have b2 : Below V.heap.size V (V1.setRow D x.cells) := Ql b1 o2 bj;generalize V1.setRow D x.cells = V2 at a9 o2 b2 ⊢;obtain ⟨v, h1, h2, h3, z, h5, h6⟩ := HI.out;have bv := b2.size
  have HF : Hid (KeepsFrom w2.heap.size V V2 ∧ KpB bk (fun i => i = w2.heap.size + 1) V V2 ∧ (∃ v, Row V2 bk 98 (Z2 p 0 1 v) ∧ V2.ownsRow B 50 3 v q.length (KF q) ∧ (∀ x ∈ q, DlT V2 x) ∧ Row V2 T1 96 #[.pointer (some ⟨bk, 0, none⟩)] ∧ Below B w0 V2 ∧ w2.heap.size ≤ V2.heap.size) ∧ Row V2 D 50 x.cells ∧ DlP ag q x V2 ∧ w2.heap.size ≤ D ∧ ¬ Ob bk V2 D) :=
   ⟨(KpX.of_below b2).keeps (X := fun _ => False) (fun _ h => h.elim), KpB.of_below h1.lt b2, ⟨v, h1.below b2 h1.lt, Qy h2 b2, fun y hy => (h3 y hy).go b2, z.below b2 z.lt, h5.trans (b2.mono (by have := h1.lt; omega)), by omega⟩, a9, ⟨HP.out.1.go b2, HP.out.2⟩, by omega, fun ho => by
    obtain ⟨a, n', c', e1, e2⟩ := (XP (h1.below b2 h1.lt)).1 ho
    rcases Ux h2 with ⟨e3, _⟩ | ⟨g, c, e3, _, e5⟩
    · rw [e3] at e1; cases e1
    · rw [e3] at e1; injection e1 with e1; injection e1 with e1; subst e1; simp only at e2; omega⟩
  clear rD a9 b1 o2 b2 bj h1 h2 h3 z h5 h6 bv HI HP;gi_wp2_with fail
  exact HK.out _ _ HF.out.1 HF.out.2.1 HF.out.2.2.1 ⟨D, rfl, HF.out.2.2.2⟩
 case body =>
  rintro l3 q x a' V bu _ ⟨v, h1, h2, h3, z, h5, h6⟩ ⟨D, rfl, ar, ⟨hT, a7⟩, hD, ao⟩ bl;obtain ⟨Vd, a5⟩ : ∃ Vd, Vd = V.drew := ⟨_, rfl⟩;have bd : Below V.heap.size V Vd := by rw [a5]; exact St.drew (S := fun W => Below V.heap.size V W) (Below.refl _ _)
  have r1 := h1.below bd h1.lt;have own1 := Qy h2 bd;have c1 := (z.below bd z.lt).cellv (i := 0) (v := .pointer (some ⟨bk, 0, none⟩)) rfl;have c6 := r1.cellv (i := 6) (v := v) rfl;have u := ar.below bd ar.lt;have bz : q.length ≤ 20000 := by omega
  have an : v.ownBlock ≠ some D := fun e => ao (by
   rcases Ux h2 with ⟨_, e4⟩ | ⟨g, c, e3, e4, _⟩
   · rw [e4] at e; cases e
   · rw [e4] at e; injection e with e; exact (XP h1).2 ⟨_, _, _, e3, e⟩)
  have ay : D ≠ bk := fun e => by
   have h9 : V.heap[bk]? = some (.cells x.cells 50 (0, 0)) := by rw [← e]; exact ar
   rw [show V.heap[bk]? = some (.cells (Z2 p 0 1 v) 98 (0, 0)) from h1] at h9;injection h9 with h9; injection h9 with _ h9; exact absurd h9 (by decide)
  obtain ⟨S, av⟩ : ∃ S : World → Prop, S = (fun W => W.cell? ⟨T1, 0, none⟩ = some (.pointer (some ⟨bk, 0, none⟩)) ∧ Row W D 50 x.cells) := ⟨_, rfl⟩;have bh : Hid (∀ W, S W → W.cell? ⟨T1, 0, none⟩ = some (.pointer (some ⟨bk, 0, none⟩))) := by show ∀ W, _; rw [av]; exact fun W h => h.1
  have br : Hid (∀ W, S W → Row W D 50 x.cells) := by show ∀ W, _; rw [av]; exact fun W h => h.2
  have TS : Hid (∀ W, Row W T1 96 #[.pointer (some ⟨bk, 0, none⟩)] → Row W D 50 x.cells → S W) := by show ∀ W, _; rw [av]; exact fun W h1 h2 => ⟨h1.cellv (i := 0) rfl, h2⟩
  have hS : S Vd := TS.out _ (z.below bd z.lt) u;have bq := Lv a5;clear bl bu a7 c1 av a5;gi_wp2_with fail
  refine AbY (S := S) (by kernel_rfl) (by kernel_rfl) ?_;simp only [Lm, Le, Lu, Nat.reduceAdd, Lk, Ll, Ly, Lp, Ln];have az : Vd = V.drew := bq.out;rw [← az];clear az;(refine tkH 0 (.pointer (some ⟨bk, 0, none⟩)) rfl (Qd rfl (fun W hW => by ((have c := bh.out W hW; go_simp)))) ?_; simp only [Act.put, Qa, Qb, Qc]);(refine tkH 1 (.pointer (some ⟨bk, 0, none⟩)) rfl (Qd rfl (fun W hW => by ((have c := bh.out W hW; go_simp)))) ?_; simp only [Act.put, Qa, Qb, Qc]);(refine tkH 2 (.pointer (some ⟨bk, 0, none⟩)) rfl (Qd rfl (fun W hW => by (go_simp))) ?_; simp only [Act.put, Qa, Qb, Qc]);(refine tkH 3 (.pointer (some ⟨bk, 6, none⟩)) rfl (Qd rfl (fun W hW => by (go_simp))) ?_; simp only [Act.put, Qa, Qb, Qc]);(refine tkH 5 _ rfl ((Z1 rfl 50 _ rfl D rfl 50 x.cells _ (fun W hW => br.out W hW) Tryz.underlying50 rfl (by kernel_rfl))) ?_; simp only [Act.put, Qa, Qb, Qc]);refine wpAnyH_all (rs := [4, 6]) (by kernel_rfl) (by simp) (fun i hi => ?_);have bt : i = 4 ∨ i = 6 := by simpa using hi
  clear hi;rcases bt with rfl | rfl
  · refine Qf rfl rfl (fun K2 d => ?_);refine Qs (w1 := Vd) v (by have c := c6; go_simp) ?_;refine d _ _ ?_;clear d K2;simp only [Act.put, Qa, Qb, Qc];refine ⟨hS, ?_⟩;(refine wpAnyH_all (rs := [6]) (by kernel_rfl) (by simp) (fun i hi => ?_); obtain rfl : i = 6 := by simpa using hi);refine Qf rfl rfl (fun K2 d => ?_);refine Qs (.slice (some ⟨Vd.heap.size, 0, none⟩) 1 1) (QV [(0, .tmp 11)] rfl (Z6 (cells := x.cells) Tryz.underlying44 Ac3 (by decide) (by decide) (by kernel_rfl) Vd)) ?_;refine d _ _ ?_;clear d K2;simp only [Act.put, Qa, Qb, Qc];obtain ⟨M, hM⟩ : ∃ M, M = Vd.heap.size := ⟨_, rfl⟩;obtain ⟨V2, ae⟩ : ∃ V2, V2 = Vd.alloc (.cells x.cells 50) := ⟨_, rfl⟩;have Mr : Row V2 M 50 x.cells := by rw [ae, hM]; exact Row.new _ _ _
    have Mb : Below M Vd V2 := by rw [ae, hM]; exact (Below.refl _ _).alloc (Nat.le_refl _) _
    have Mh : Vd.heap.size ≤ M := LM hM.symm;rw [← hM, ← ae];clear hM ae;have au : S V2 := TS.out _ ((z.below bd z.lt).below (Mb.mono Mh) (z.below bd z.lt).lt) (u.below (Mb.mono Mh) u.lt);refine ⟨au, ?_⟩;have bm := bd.trans ((Mb.mono Mh).mono bd.size);have b := Qy own1 (Mb.mono Mh);have r2 := r1.below (Mb.mono Mh) r1.lt;have ai : B ≤ V2.heap.size := by have := r2.lt; omega
    have ap : B ≤ V.heap.size := by have := h1.lt; omega
    obtain ⟨v3, V3, ah, s, l, aq⟩ := Zp (P := Tryz.prog) 44 50 (.agg #[.slice none 0 0, .int .i64 0, .int .i64 0]) 3 40 Tryz.underlying44 AbL rfl (by decide) (by decide) b ai (Jq (cs := x.cells.toList) (by simpa using Mr)) (m := 1) (cap := 1) rfl (AcU x) (by simp) (by omega);obtain ⟨ak, rf⟩ := KpB.put (L := fun i => i = w2.heap.size + 1) r2 b l s aq;have r3 := r2.grown l (QD b r2 (by decide));have o4 := Q6 V3 bk 6 v3;have ab := QB s o4 (QD s r3 (by decide));have aa : ∀ y, DlT V y → DlT (V3.setCell ⟨bk, 6, none⟩ v3) y := fun y hy => ((hy.go bm).own b l).only r3 (by decide) o4;have ac := z.below bm z.lt;have al := (ac.grown l (QD b ac (by decide))).only o4 (by omega);have b3 := QK (h5.trans (bm.mono ap)) b l ai (Nat.le_refl _);have a8 : V.heap.size ≤ (V3.setCell ⟨bk, 6, none⟩ v3).heap.size := Li bm.size ak.size;rw [← AaZ] at ab
    have HF : Hid (KeepsFrom w2.heap.size V (V3.setCell ⟨bk, 6, none⟩ v3) ∧ KpB bk (fun i => i = w2.heap.size + 1) V (V3.setCell ⟨bk, 6, none⟩ v3) ∧ ∃ v, Row (V3.setCell ⟨bk, 6, none⟩ v3) bk 98 (Z2 p 0 1 v) ∧ (V3.setCell ⟨bk, 6, none⟩ v3).ownsRow B 50 3 v (q ++ [x]).length (KF (q ++ [x])) ∧ (∀ y ∈ q ++ [x], DlT (V3.setCell ⟨bk, 6, none⟩ v3) y) ∧ Row (V3.setCell ⟨bk, 6, none⟩ v3) T1 96 #[.pointer (some ⟨bk, 0, none⟩)] ∧ Below B w0 (V3.setCell ⟨bk, 6, none⟩ v3) ∧ w2.heap.size ≤ (V3.setCell ⟨bk, 6, none⟩ v3).heap.size) :=
     ⟨((KpX.of_below bm).keeps (X := fun _ => False) (fun _ h => h.elim)).trans ((KeepsFrom.of_own b l).trans (KeepsFrom.of_only r3 o4)), (KpB.of_below h1.lt bm).trans ak, v3, rf, by rw [Lf]; exact ab, fun y hy => by
      rcases L5.1 hy with hy | hy
      · exact aa y (h3 y hy)
      · rw [L3.1 hy]; exact aa x hT, al, Ql b3 o4 hB, by omega⟩
    obtain ⟨A3, m3, d3, rfl⟩ := Zy s;have c6 := r3.cellv (i := 6) (v := v) rfl;have f6 := r3.free 6;have af := Lv ah;have a2 : S V3 := TS.out _ (ac.grown l (QD b ac (by decide))) ((u.below (Mb.mono Mh) u.lt).grown l an);have a3 : S (V3.setCell ⟨bk, 6, none⟩ (.slice A3 m3 d3)) := TS.out _ al (((u.below (Mb.mono Mh) u.lt).grown l an).only o4 ay);clear ah own1 b s ab l aq ak rf r1 r2 r3 o4 aa ac al b3 a8 bm bd Mr Mb Mh h1 h2 h3 z h5 h6 hT ar hD u an ai ap;(refine wpAnyH_all (rs := [7]) (by kernel_rfl) (by simp) (fun i hi => ?_); obtain rfl : i = 7 := by simpa using hi);refine Qf rfl rfl (fun K2 d => ?_);refine Qs _ (QA rfl af.out) ?_;refine d _ _ ?_;clear d K2 af;simp only [Act.put, Qa, Qb, Qc];refine ⟨a2, ?_⟩;(refine tkH 8 (.pointer (some ⟨bk, 0, none⟩)) rfl (Qd rfl (fun W hW => by (go_simp))) ?_; simp only [Act.put, Qa, Qb, Qc]);(refine tkH 9 (.pointer (some ⟨bk, 6, none⟩)) rfl (Qd rfl (fun W hW => by (go_simp))) ?_; simp only [Act.put, Qa, Qb, Qc]);(refine wpAnyH_all (rs := [10]) (by kernel_rfl) (by simp) (fun i hi => ?_); obtain rfl : i = 10 := by simpa using hi);refine Qf rfl rfl (fun K2 d => ?_);unfold Oper.wp;go_simp
    refine d _ _ ?_;clear d K2;simp only [Qa, Qb, Qc];refine ⟨a3, ?_⟩;refine wpAnyH_done (by kernel_rfl) ?_ _;refine Yr ?_;gi_wp2_with fail
    exact HF.out
  · refine Qf rfl rfl (fun K2 d => ?_);refine Qs (.slice (some ⟨Vd.heap.size, 0, none⟩) 1 1) (QV [(0, .tmp 11)] rfl (Z6 (cells := x.cells) Tryz.underlying44 Ac3 (by decide) (by decide) (by kernel_rfl) Vd)) ?_;refine d _ _ ?_;clear d K2;simp only [Act.put, Qa, Qb, Qc];obtain ⟨M, hM⟩ : ∃ M, M = Vd.heap.size := ⟨_, rfl⟩;obtain ⟨V2, ae⟩ : ∃ V2, V2 = Vd.alloc (.cells x.cells 50) := ⟨_, rfl⟩;have Mr : Row V2 M 50 x.cells := by rw [ae, hM]; exact Row.new _ _ _
    have Mb : Below M Vd V2 := by rw [ae, hM]; exact (Below.refl _ _).alloc (Nat.le_refl _) _
    have Mh : Vd.heap.size ≤ M := LM hM.symm;rw [← hM, ← ae];clear hM ae;have au : S V2 := TS.out _ ((z.below bd z.lt).below (Mb.mono Mh) (z.below bd z.lt).lt) (u.below (Mb.mono Mh) u.lt);refine ⟨au, ?_⟩;have bi := (r1.below (Mb.mono Mh) r1.lt).cellv (i := 6) (v := v) rfl;(refine wpAnyH_all (rs := [4]) (by kernel_rfl) (by simp) (fun i hi => ?_); obtain rfl : i = 4 := by simpa using hi);refine Qf rfl rfl (fun K2 d => ?_);refine Qs (w1 := V2) v (by have c := bi; go_simp) ?_;refine d _ _ ?_;clear d K2 bi;simp only [Act.put, Qa, Qb, Qc];refine ⟨au, ?_⟩;have bm := bd.trans ((Mb.mono Mh).mono bd.size);have b := Qy own1 (Mb.mono Mh);have r2 := r1.below (Mb.mono Mh) r1.lt;have ai : B ≤ V2.heap.size := by have := r2.lt; omega
    have ap : B ≤ V.heap.size := by have := h1.lt; omega
    obtain ⟨v3, V3, ah, s, l, aq⟩ := Zp (P := Tryz.prog) 44 50 (.agg #[.slice none 0 0, .int .i64 0, .int .i64 0]) 3 40 Tryz.underlying44 AbL rfl (by decide) (by decide) b ai (Jq (cs := x.cells.toList) (by simpa using Mr)) (m := 1) (cap := 1) rfl (AcU x) (by simp) (by omega);obtain ⟨ak, rf⟩ := KpB.put (L := fun i => i = w2.heap.size + 1) r2 b l s aq;have r3 := r2.grown l (QD b r2 (by decide));have o4 := Q6 V3 bk 6 v3;have ab := QB s o4 (QD s r3 (by decide));have aa : ∀ y, DlT V y → DlT (V3.setCell ⟨bk, 6, none⟩ v3) y := fun y hy => ((hy.go bm).own b l).only r3 (by decide) o4;have ac := z.below bm z.lt;have al := (ac.grown l (QD b ac (by decide))).only o4 (by omega);have b3 := QK (h5.trans (bm.mono ap)) b l ai (Nat.le_refl _);have a8 : V.heap.size ≤ (V3.setCell ⟨bk, 6, none⟩ v3).heap.size := Li bm.size ak.size;rw [← AaZ] at ab
    have HF : Hid (KeepsFrom w2.heap.size V (V3.setCell ⟨bk, 6, none⟩ v3) ∧ KpB bk (fun i => i = w2.heap.size + 1) V (V3.setCell ⟨bk, 6, none⟩ v3) ∧ ∃ v, Row (V3.setCell ⟨bk, 6, none⟩ v3) bk 98 (Z2 p 0 1 v) ∧ (V3.setCell ⟨bk, 6, none⟩ v3).ownsRow B 50 3 v (q ++ [x]).length (KF (q ++ [x])) ∧ (∀ y ∈ q ++ [x], DlT (V3.setCell ⟨bk, 6, none⟩ v3) y) ∧ Row (V3.setCell ⟨bk, 6, none⟩ v3) T1 96 #[.pointer (some ⟨bk, 0, none⟩)] ∧ Below B w0 (V3.setCell ⟨bk, 6, none⟩ v3) ∧ w2.heap.size ≤ (V3.setCell ⟨bk, 6, none⟩ v3).heap.size) :=
     ⟨((KpX.of_below bm).keeps (X := fun _ => False) (fun _ h => h.elim)).trans ((KeepsFrom.of_own b l).trans (KeepsFrom.of_only r3 o4)), (KpB.of_below h1.lt bm).trans ak, v3, rf, by rw [Lf]; exact ab, fun y hy => by
      rcases L5.1 hy with hy | hy
      · exact aa y (h3 y hy)
      · rw [L3.1 hy]; exact aa x hT, al, Ql b3 o4 hB, by omega⟩
    obtain ⟨A3, m3, d3, rfl⟩ := Zy s;have c6 := r3.cellv (i := 6) (v := v) rfl;have f6 := r3.free 6;have af := Lv ah;have a2 : S V3 := TS.out _ (ac.grown l (QD b ac (by decide))) ((u.below (Mb.mono Mh) u.lt).grown l an);have a3 : S (V3.setCell ⟨bk, 6, none⟩ (.slice A3 m3 d3)) := TS.out _ al (((u.below (Mb.mono Mh) u.lt).grown l an).only o4 ay);clear ah own1 b s ab l aq ak rf r1 r2 r3 o4 aa ac al b3 a8 bm bd Mr Mb Mh h1 h2 h3 z h5 h6 hT ar hD u an ai ap;(refine wpAnyH_all (rs := [7]) (by kernel_rfl) (by simp) (fun i hi => ?_); obtain rfl : i = 7 := by simpa using hi);refine Qf rfl rfl (fun K2 d => ?_);refine Qs _ (QA rfl af.out) ?_;refine d _ _ ?_;clear d K2 af;simp only [Act.put, Qa, Qb, Qc];refine ⟨a2, ?_⟩;(refine tkH 8 (.pointer (some ⟨bk, 0, none⟩)) rfl (Qd rfl (fun W hW => by (go_simp))) ?_; simp only [Act.put, Qa, Qb, Qc]);(refine tkH 9 (.pointer (some ⟨bk, 6, none⟩)) rfl (Qd rfl (fun W hW => by (go_simp))) ?_; simp only [Act.put, Qa, Qb, Qc]);(refine wpAnyH_all (rs := [10]) (by kernel_rfl) (by simp) (fun i hi => ?_); obtain rfl : i = 10 := by simpa using hi);refine Qf rfl rfl (fun K2 d => ?_);unfold Oper.wp;go_simp
    refine d _ _ ?_;clear d K2;simp only [Qa, Qb, Qc];refine ⟨a3, ?_⟩;refine wpAnyH_done (by kernel_rfl) ?_ _;refine Yr ?_;gi_wp2_with fail
    exact HF.out
 case done =>
  rintro D ys W hD bo ⟨v, h1, h2, h3, z, h5, -⟩ hK;have HK := Lv hK;have hr : ∀ r, some D = some r → False ∨ (True ∧ ∃ o : Obj, W.heap[r]? = some o ∧ o.isCells = false) := fun r e => by cases e; exact .inr ⟨trivial, _, hK, rfl⟩
  have hg := grownBy_putObj' W D (.deferred none);have HF : Hid (∃ v, Row (W.putObj D (.deferred none)) bk 98 (Z2 p 0 1 v) ∧ FillD p bk B ag w0 v (W.putObj D (.deferred none))) := ⟨v, h1.abide hg hr, ys, h2.kept hg (.inr (Z9 h2 hK rfl)), bo, fun x hx => (h3 x hx).abide hg hr, h5.grown hg (by have := h1.lt; omega) (fun k e => by cases e; omega)⟩;clear hK hr hg h1 h2 h3 z h5 bo;gi_wp2;refine ⟨by simp, .inl ⟨_, _, rfl, run_takeDeferred HK.out, ?_⟩⟩;exact ⟨_, results_none rfl _ _ _, rfl, HF.out⟩
end Go.Proofs.YtkoikjnlpifbjaaGreat
namespace Go.Proofs.YtkoikjnlpifbjaaGreat
open Go.RowKit Go.Deep
theorem AiQ (p : PgV) (t : Tr) (hf : Fine p t) (hlc : p.body.length ≤ p.bcap) (hcm : p.bcap ≤ maxLen) (bk B : Nat) (hB : B ≤ bk) (w0 w : World) (hbw : Below B w0 w) (hr : Row w bk 98 (Z2 p 0 0 (.slice none 0 0)))
 (hrd : Rd w p.ba (p.body.flatMap Nd.cells)) (hA : p.body.flatMap Nd.cells ≠ [] → ∀ ad, p.ba = some ad → ad.block ≠ bk) :
 Calls Tryz.prog 34 #[.pointer (some ⟨bk, 0, none⟩)] w fun e w' => ∃ v, e = .returned v ∧ FillD p bk B (Q8 p.body t) w0 v w' := by
 have o1 := Q6 w bk 4 (.int .i32 1);have hF := Ahw p t hf hlc hcm bk B hB w0 (w.setCell ⟨bk, 4, none⟩ (.int .i32 1)) (Ql hbw o1 hB) (hr.set 4 _) (hrd.only o1 hA) hA;have y := Lv (Aex bk p (.slice none 0 0) (FillD p bk B (Q8 p.body t) w0) w hr hF);have Hr := Lv hr;clear hf hlc hcm hbw hr hrd hA hF o1;obtain ⟨c, d⟩ : ∃ c, c = Q8 p.body t := ⟨_, rfl⟩;rw [← d] at y ⊢;clear d;have aa : ∀ (fn : Fn) (first h : Array Value) (w : World), (Instr.makeFunc fn first h).run Tryz.prog w = .ok (.func fn first h) w := fun _ _ _ _ => rfl
 go_enter Tryz.func34, Tryz.ntmps34
 go_wp2_with fail
 refine y.out.mono ?_;rintro e w' ⟨rfl, v, b, r1, ⟨xs, z, h2, h3, h4⟩, hw⟩;have j : Row b.drew bk 98 (Z2 p 0 1 v) := r1;have g : Below b.heap.size b b.drew := St.drew (S := fun W => Below b.heap.size b W) (Below.refl _ _);have l := Qy z g;have n : ∀ x ∈ xs, DlT b.drew x := fun x hx => (h3 x hx).go g
 have o : Below B w0 b.drew := h4.trans (g.mono (by have := r1.lt; omega));have q := Q6 b.drew bk 3 (.int .u32 1);have u : Row (b.drew.setCell ⟨bk, 3, none⟩ (.int .u32 1)) bk 98 (Z2 p 1 1 v) := j.set 3 _;have k := QB l q (QD l j (by decide));have s := Q6 (b.drew.setCell ⟨bk, 3, none⟩ (.int .u32 1)) bk 4 (.int .i32 0);have r3 : Row ((b.drew.setCell ⟨bk, 3, none⟩ (.int .u32 1)).setCell ⟨bk, 4, none⟩ (.int .i32 0)) bk 98 (Z2 p 1 0 v) := u.set 4 _;have m := QB k s (QD k u (by decide));have HF : Hid (FillD p bk B c w0 v ((b.drew.setCell ⟨bk, 3, none⟩ (.int .u32 1)).setCell ⟨bk, 4, none⟩ (.int .i32 0))) := ⟨xs, m, h2, fun x hx => ((n x hx).only j (by decide) q).only u (by decide) s, Ql (Ql o q hB) s hB⟩;rw [← hw] at r3 HF;obtain ⟨A, h, rfl⟩ := Zj z;have c6 := r3.cellv (i := 6) (v := .slice A xs.length h) rfl;clear z h2 h3 h4 hw r1 j g l n o q u k s r3 m y Hr;go_wp2_with fail
 go_ret
 exact ⟨_, rfl, HF.out⟩
structure AllR (p : PgV) (w w' : World) (e : Ending) : Prop where
 ex : ∃ (A : Option Addr) (cap : Nat) (xs : List DlV), e = .returned (.tuple #[.slice A xs.length cap, .int .i64 (QI p)]) ∧ Rd w' A (KF xs) ∧ xs.length ≤ cap ∧ (A = none → xs = []) ∧ (∀ x ∈ xs, DlT w' x) ∧ (∀ t, Fine p t → xs.map DlV.d = Q8 p.body t) ∧ (QI p ≠ 0 → xs = []) ∧ xs.length ≤ 20000 ∧ Below w.heap.size w w'
structure AllT (p : PgV) (w w' : World) (e : Ending) : Prop where
 ex : ∃ (A : Option Addr) (cap : Nat) (xs : List DlV), e = .returned (.tuple #[.slice A xs.length cap, .int .i64 (QI p)]) ∧ Rd w' A (KF xs) ∧ xs.length ≤ cap ∧ (A = none → xs = []) ∧ (∀ x ∈ xs, DlT w' x) ∧ (∀ t, Fine p t → xs.map DlV.d = Q8 p.body t) ∧ (QI p ≠ 0 → xs = []) ∧ xs.length ≤ 20000 ∧ Below w.heap.size w w' ∧ ∀ ad, A = some ad → ∃ cs : Array Value, Row w' ad.block 50 cs
theorem AllT.r {p : PgV} {w w' : World} {e : Ending} (h : AllT p w w' e) : AllR p w w' e := by
 obtain ⟨A, b, o, c, d, g, i, j, k, l, m, n, _⟩ := h;exact ⟨A, b, o, c, d, g, i, j, k, l, m, n⟩
theorem Ah7 {w : World} {base size n m c : Nat} {e : TypeId} {A : Option Addr} {xs : List Value} (h : w.ownsRow base e size (.slice A m c) n xs) : ∀ ad, A = some ad → ∃ cs : Array Value, Row w ad.block e cs := fun ad ha => by
 rcases h.2 with ⟨d, _⟩ | ⟨g, c, b, d, j, i, _⟩
 · injection d with e3; rw [ha] at e3; cases e3
 · injection d with e3; rw [ha] at e3; injection e3 with e3; rw [e3]; exact ⟨b, i⟩
theorem AjB {w : World} {base n : Nat} {e : TypeId} {v : Value} {xs : List Value} (h : w.ownsRow base e 3 v n xs) : ∃ A cap, v = .slice A n cap ∧ Rd w A xs ∧ n ≤ cap ∧ (A = none → n = 0) := by
 obtain ⟨A, cap, rfl⟩ := Zj h;refine ⟨A, cap, rfl, Kv h, ?_⟩;rcases h.2 with ⟨b, i⟩ | ⟨g, c, d, b, _, _, j, _⟩
 · injection b with b e2 e3; exact ⟨by omega, fun _ => i⟩
 · injection b with b e2 e3; subst b e3; exact ⟨j, fun e => by cases e⟩
theorem Kz (p : PgV) (hbl : p.body.length ≤ 1000) (w : World) (hok : p.ok w) :
 Calls Tryz.prog 15 #[.agg p.cells] w fun e w' => AllT p w w' e := by
 have s := Lv hbl;have z := Lv hok;clear hbl hok;go_enter Tryz.func15, Tryz.ntmps15
 go_wp2_with (refine Qm _ _ rfl ?_)
 refine Stop.to ?_;refine Qe rfl 25 _ rfl p.cells rfl ?_;intro G Gw Gh g Gb;have c := (Below.refl w.heap.size w).trans (Gb.mono Gh);have b := Lv (z.out.go c);have i := Lv (X6 p s.out Gw b.out);clear Gb Gh;go_wp2_with (refine wpList_load_row rfl 25 _ rfl G rfl 25 p.cells (0, 0) _ g Tryz.underlying25 rfl (by kernel_rfl) ?_)
 refine i.out.mono ?_;rintro e w1 ⟨rfl, m⟩;replace g := g.below m g.lt;replace c := c.trans (m.mono c.size);replace b := Lv (b.out.go m);clear m i;obtain ⟨k, d⟩ : ∃ k, k = QI p := ⟨_, rfl⟩;by_cases n : k = 0;rotate_left
 · have q : Hid (AllT p w w1 (.returned (.tuple #[.slice none 0 0, .int .i64 k]))) := ⟨none, 0, [], by rw [d]; rfl, Rd.nil _ _, Nat.le_refl _, fun _ => rfl, fun x hx => by simp at hx, fun t o => absurd (checkP_ok.2 ⟨t, o⟩) (by rw [← d]; exact n), fun _ => rfl, by simp, c, fun ad e => by cases e⟩;have e0 : (k != 0) = true := by simpa using n
   rw [← d];clear d n;go_wp2_with fail
   refine bodyPost_ret (results_tmp2 rfl _ _ _) rfl ?_;exact q.out
 subst n;obtain ⟨t, o⟩ := checkP_ok.1 d.symm;rw [← d];have y := Lv d;have l := Lv o;clear d o;go_wp2_with (first | (refine Qm _ _ rfl ?_) | (refine wpList_load_row rfl 25 _ rfl G rfl 25 #[.int .i64 p.params, .slice p.va p.V.length p.vcap, .slice p.ba p.body.length p.bcap] (0, 0) _ g Tryz.underlying25 rfl (by kernel_rfl) ?_))
 refine Stop.to ?_;refine Qe rfl 98 _ rfl (Z2 p 0 0 (.slice none 0 0)) rfl ?_;intro K Kw Kh Kr Kb;have b3 := c.trans ((Kb.mono Kh).mono c.size);have b4 := (Below.refl w1.heap.size w1).trans (Kb.mono Kh);have i := Lv (AiQ p t l.out b.out.blen b.out.bmax K w.heap.size (by have := c.size; omega) w Kw b3 Kr (b.out.brd.go b4) (fun aa ad e => by have := Xe b.out.brd aa e; omega));clear g Kr Kb b3 b4 c b;go_wp2_with fail
 refine i.out.mono ?_;rintro e w2 ⟨v, rfl, xs, h1, h2, h3, h4⟩;obtain ⟨A, j, rfl, hr, hc, hn⟩ := AjB h1;have hl : xs.length ≤ 20000 := by have := Afm l.out; rw [← h2, Lz] at this; exact this
 have q : Hid (AllT p w w2 (.returned (.tuple #[.slice A xs.length j, .int .i64 0]))) := ⟨A, j, xs, by rw [← y.out], hr, hc, fun e => L0 (hn e), h3, fun u hu => by rw [h2, l.out.good.whole.uniq hu.good.whole], fun h => absurd y.out.symm h, hl, h4, Ah7 h1⟩;clear h1 h2 h3 h4 hr hc hn hl i y l;go_wp2_with fail
 refine bodyPost_ret (results_tmp2 rfl _ _ _) rfl ?_;exact q.out
theorem KQ (p : PgV) (hbl : p.body.length ≤ 1000) (w : World) (hok : p.ok w) :
 Calls Tryz.prog 15 #[.agg p.cells] w fun e w' => AllR p w w' e := (Kz p hbl w hok).mono fun _ _ h => h.r
end Go.Proofs.YtkoikjnlpifbjaaGreat
