/- Lemmas for VerdictJustP. -/
import Derived.Test.YtdcmppdhdcjpfaaGreatZy1
import Derived.Test.YtdcmppdhdcjpfaaGreatZy16
set_option linter.unusedVariables false
set_option linter.unusedSimpArgs false
set_option maxRecDepth 100000
set_option maxHeartbeats 16000000
namespace Go.Proofs.YtdcmppdhdcjpfaaGreat
open Go.RowKit Go.Deep
attribute [local go_sem] Oper.semAt_some
theorem AbN {P : Program} {r : Nat} {id : Nat} {Q : Exit → Act → World → Prop} {a : Act} {w : World} {l : List Oper} {S : World → Prop} (hm : P.follows .mixedOrders = true) (hd : X0 l.toArray = true) (h : wpAnyH P .any l.toArray (Ends Q) S l.toArray.size (Array.replicate l.toArray.size false) a w.drew) : (Code.region id l.toArray true).wpIn (Fence.wide.inRound r) 0 P Q a w :=
 Yt hm hd (wpAny_of_held _ _ _ _ h)
theorem Uo {w : World} {base size n : Nat} {e : TypeId} {v : Value} {xs : List Value} (h : w.ownsRow base e size v n xs) : (v = .slice none 0 0 ∧ v.ownBlock = none) ∨ ∃ g cap, v = .slice (some ⟨g, 0, none⟩) n cap ∧ v.ownBlock = some g ∧ g < w.heap.size := by
 rcases h.2 with ⟨rfl, i⟩ | ⟨g, cap, c, rfl, _, d, _⟩
 · exact .inl ⟨rfl, rfl⟩
 · exact .inr ⟨g, cap, rfl, rfl, (Ln.1 d).1⟩
theorem XH {bk : Nat} {W : World} {p : PgV} {dn st : Int} {v : Value} (h : Row W bk 102 (ZW p dn st v)) {k : Nat} : Ob bk W k ↔ ∃ a n c, v = .slice (some a) n c ∧ a.block = k := by
 have d : W.cell? ⟨bk, 6, none⟩ = some v := h.cellv (i := 6) rfl;unfold Ob;rw [d];simp only [LY]
theorem KpB.put {bk : Nat} {L : Nat → Prop} {A B : World} {p : PgV} {v v' : Value} {lim n m : Nat} {xs ys : List Value} (hr : Row A bk 102 (ZW p 0 1 v)) (h : A.ownsRow lim 35 3 v n xs) (hg : A.grownBy B v.ownBlock)
 (h' : B.ownsRow lim 35 3 v' m ys) (hat : v'.ownBlock = v.ownBlock ∨ v'.ownBlock = some A.heap.size) : KpB bk L A (B.setCell ⟨bk, 6, none⟩ v') ∧ Row (B.setCell ⟨bk, 6, none⟩ v') bk 102 (ZW p 0 1 v') := by
 have u := hr.grown hg (Qz h hr (by decide));have i : Row (B.setCell ⟨bk, 6, none⟩ v') bk 102 (ZW p 0 1 v') := u.set 6 v';have o := Zh B bk 6 v'
 have x : ∀ k, v.ownBlock = some k → Ob bk A k := fun k e => by
  rcases Uo h with ⟨_, l⟩ | ⟨g, c, d, l, _⟩
  · rw [l] at e; cases e
  · rw [l] at e; injection e with e; subst e; exact (XH hr).2 ⟨_, _, _, d, rfl⟩
 have s : ∀ k, Ob bk (B.setCell ⟨bk, 6, none⟩ v') k → v'.ownBlock = some k ∧ k < B.heap.size := fun k r => by
  obtain ⟨a, n', c', d, l⟩ := (XH i).1 r;rcases Uo h' with ⟨t, _⟩ | ⟨g, c, t, y, z⟩
  · rw [t] at d; cases d
  · rw [t] at d; injection d with d; injection d with d; subst d; subst l; exact ⟨y, z⟩
 refine ⟨⟨fun k ob q _ h3 w => ?_, ?_, fun k r => ?_, fun _ k r => ?_, fun j hj => ?_⟩, i⟩
 · rw [o.block k q];exact (hg.block k (Ln.1 w).1 (fun e => h3 (x k e.symm))).trans w
 · rw [o.size]; exact hg.size
 · obtain ⟨e, _⟩ := s k r;rcases hat with q | q
   · rw [q] at e; exact .inl (x k e)
   · rw [q] at e; injection e with e; exact .inr (LA e)
 · rw [o.size]; exact (s k r).2
 · rw [i.cell j, hr.cell j]
   match j, hj with
   | 0, _ | 1, _ | 2, _ | 3, _ | 4, _ | 5, _ => rfl
   | j + 7, _ => simp [ZW]
theorem DlT.same {A B : World} {x : DlV} (h : DlT A x) (hb : ∀ (a : Addr) (cs : Array Value), x.A = some a → Row A a.block 3 cs → Row B a.block 3 cs) : DlT B x :=
 ⟨⟨fun j u hj => by
  obtain ⟨a, e, hc⟩ := h.ok.rd j u hj
  obtain ⟨cs, hr⟩ := h.ib a e
  exact ⟨a, e, (World.cell?_of_block (by rw [JI]; exact (hb a cs e hr).trans (Eq.symm hr))).trans hc⟩, h.ok.len⟩, fun a e => by
  obtain ⟨cs, hr⟩ := h.ib a e
  exact ⟨cs, hb a cs e hr⟩, h.nil⟩
theorem DlT.go {A B : World} {x : DlV} (h : DlT A x) (b : Below A.heap.size A B) : DlT B x := h.same fun _ _ _ hr => hr.below b hr.lt
theorem DlT.abide {W W' : World} {x : DlV} {row : Option Nat} {q : Nat → Prop} (h : DlT W x) (hg : W.grownBy W' row) (hr : ∀ r, row = some r → False ∨ (q r ∧ ∃ o : Obj, W.heap[r]? = some o ∧ o.isCells = false)) : DlT W' x := h.same fun _ _ _ k => k.abide hg hr
theorem DlT.own {W W' : World} {x : DlV} {lim n : Nat} {v : Value} {xs : List Value} (h : DlT W x) (hown : W.ownsRow lim 35 3 v n xs) (hg : W.grownBy W' v.ownBlock) : DlT W' x := h.same fun _ _ _ k => k.grown hg (Qz hown k (by decide))
theorem DlT.only {W W' : World} {x : DlV} {g : Nat} {t : TypeId} {cs : Array Value} (h : DlT W x) (hr : Row W g t cs) (ht : t ≠ 3) (o : Only g W W') : DlT W' x := h.same fun a cs' _ k => k.only o (fun e => by
 have h1 : W.heap[g]? = some (.cells cs' 3 (0, 0)) := by rw [← e]; exact k
 rw [show W.heap[g]? = some (.cells cs t (0, 0)) from hr] at h1
 injection h1 with h1; injection h1 with _ h1; exact ht h1)
structure EachFn (bk : Nat) (w w' : World) (e : Ending) : Prop where
 ex : ∃ bb, e = .returned (.func (.func 242) #[] #[.pointer (some ⟨bb, 0, none⟩)]) ∧ Row w' bb 88 #[.pointer (some ⟨bk, 0, none⟩)] ∧ w.heap.size ≤ bb ∧ Below w.heap.size w w'
theorem Aek (bk : Nat) (w : World) : Calls Tryz.prog 180 #[.pointer (some ⟨bk, 0, none⟩)] w fun e w' => EachFn bk w w' e := by
 go_enter Tryz.func180, Tryz.ntmps180
 go_wp2_with (refine Qn _ _ rfl ?_)
 refine Stop.to ?_;refine Qe rfl 88 _ rfl #[.pointer (some ⟨bk, 0, none⟩)] rfl ?_;intro G i d g c;have h := (Below.refl w.heap.size w).trans (c.mono d);clear c;go_wp2
 go_ret
 exact ⟨G, rfl, g, d, h⟩
structure FillD (p : PgV) (bk B : Nat) (full : List Dl) (w0 : World) (v : Value) (W : World) : Prop where
 ex : ∃ xs : List DlV, W.ownsRow B 35 3 v xs.length (Ug xs) ∧ xs.map DlV.d = full ∧ (∀ x ∈ xs, DlT W x) ∧ Below B w0 W
theorem AcD (x : DlV) : ∀ u ∈ x.cells.toList, u.oneCell' = true := by
 intro u c;simp only [DlV.cells, Lt, L0, or_false] at c;rcases c with rfl | rfl | rfl <;> rfl
theorem AaK (xs : List DlV) (x : DlV) : Ug (xs ++ [x]) = Ug xs ++ x.cells.toList := by simp [Ug]
theorem AdG {p : PgV} {t : Tr} (hf : Fine p t) : ∀ q, q ≤ p.body.length → (UF p.body t q).length ≤ 100 * q
 | 0, _ => by simp [UF]
 | q + 1, h => by
  obtain ⟨π, k, hp, hat⟩ := Afw hf.good.whole (q := q) (by omega)
  have h1 := AdG hf q (by omega)
  have h2 := Ue p.body q hat (hf.ar _ (Lg hat.root))
  rw [Vb hp, Lf, L9]; omega
theorem Ae0 {p : PgV} {t : Tr} (hf : Fine p t) : (Ji p.body t).length ≤ 20000 := by
 have c := AdG hf p.body.length (Nat.le_refl _);have d := hf.len;rw [AdF _ _ (LA hf.good.size)] at c; omega
theorem Ahm (p : PgV) (t : Tr) (hf : Fine p t) (hlc : p.body.length ≤ p.bcap) (hcm : p.bcap ≤ maxLen) (bk B : Nat) (hB : B ≤ bk) (w0 w : World) (hbw : Below B w0 w) (hr : Row w bk 102 (ZW p 0 1 (.slice none 0 0)))
 (hrd : Rd w p.ba (p.body.flatMap Nd.cells)) (hA : p.body.flatMap Nd.cells ≠ [] → ∀ ad, p.ba = some ad → ad.block ≠ bk) :
 Calls Tryz.prog 108 #[.pointer (some ⟨bk, 0, none⟩)] w fun e w' => e = .returned (.tuple #[]) ∧ ∃ v, Row w' bk 102 (ZW p 0 1 v) ∧ FillD p bk B (Ji p.body t) w0 v w' := by
 have Hf := Lh hf;have bh := Lh hlc;have bf := Lh hcm;have a2 := Lh hrd;have HA := Lh hA;have bz := hr.lt;have bt := Ae0 hf;obtain ⟨ag, aj⟩ : ∃ ag, ag = Ji p.body t := ⟨_, rfl⟩;rw [← aj] at bt ⊢;clear hf hlc hcm hrd hA;refine (callsIn_wide (n := 0)).1 ?_;refine callsIn_of_wp_marks Tryz.func108 rfl trivial ?_;simp only [Tryz.ntmps108, Lj, Ld, Lp, Nat.reduceAdd, Nat.reduceSub, Ll, Lm, Lr, L2, Lo, Lk];gi_wp2_with fail
 obtain ⟨T1, a5⟩ : ∃ B, B = w.heap.size := ⟨_, rfl⟩;obtain ⟨w1, ay⟩ : ∃ w1, w1 = w.alloc (.cells #[.pointer (some ⟨bk, 0, none⟩)] 88) := ⟨_, rfl⟩;have rT : Row w1 T1 88 #[.pointer (some ⟨bk, 0, none⟩)] := by rw [ay, a5]; exact Row.new _ _ _
 have b1 : Below w.heap.size w w1 := by rw [ay]; exact (Below.refl _ _).alloc (Nat.le_refl _) _
 rw [← ay, ← a5];have gT : bk < T1 := by omega
 clear ay a5;refine ⟨trivial, rfl, (callsIn_wide.2 (Aek bk w1)).mono ?_⟩;rintro e w2 ⟨bb, rfl, rb, gb, b2⟩;have lT := rT.lt;have an := b1.trans (b2.mono b1.size);replace rT := rT.below b2 rT.lt;have r2 := hr.below an hr.lt;have s2 := r2.lt
 have ap : ∀ k, ¬ Ob bk w2 k := fun k ho => by
  obtain ⟨_, _, _, e, _⟩ := (XH r2).1 ho;cases e
 have hC : EachC p bk bb (fun _ => False) w2 := ⟨rb, ⟨by omega, fun h => h, ap _, rb.lt⟩, r2.cellv (i := 2) rfl, a2.out.go an, fun bo ad e => ⟨HA.out bo ad e, fun h => h, ap _, XJ (a2.out.go an) bo e⟩, fun k ho => absurd ho (ap k), fun _ h => False.elim h, s2⟩;have bg := Lh (Aej p t Hf.out bh.out bf.out bk bb w2 hC);have be : Hid (Below B w0 w2) := hbw.trans (an.mono (by have := hbw.size; have := an.size; omega));have bx : T1 < bb := by omega
 have b4 := rb.lt;clear ap hC rb b1 b2 an hr gb lT hbw a2 HA Hf bh bf;gi_wp2_with fail
 rw [← aj] at bg;have bq : Hid (∃ v, Row w2 bk 102 (ZW p 0 1 v) ∧ w2.ownsRow B 35 3 v ([] : List DlV).length (Ug []) ∧ (∀ x ∈ ([] : List DlV), DlT w2 x) ∧ Row w2 T1 88 #[.pointer (some ⟨bk, 0, none⟩)] ∧ Below B w0 w2 ∧ w2.heap.size ≤ w2.heap.size) := ⟨_, r2, World.ownsRow_nil _ _ _ _, fun x h => by simp at h, rT, be.out, Nat.le_refl _⟩;clear r2 rT be aj
 refine Ys (gf := 242) (lb := #[.pointer (some ⟨bb, 0, none⟩)]) rfl (enters_of Tryz.func242 (by kernel_rfl) rfl) bg.out (fun r h => h.elim)
  (fun h k => h.trans k) (fun V o o' ho hc => ?hKb) (World.grownBy.refl _ _) (fun _ => rfl)
  (fun s V => ∃ v, Row V bk 102 (ZW p 0 1 v) ∧ V.ownsRow B 35 3 v s.length (Ug s) ∧ (∀ x ∈ s, DlT V x) ∧ Row V T1 88 #[.pointer (some ⟨bk, 0, none⟩)] ∧ Below B w0 V ∧ w2.heap.size ≤ V.heap.size)
  (fun _ _ _ => False) (.inl trivial) ?hI ?hIx bq.out
  (fun s x a' V => ∃ D, a' = { tmps := #[.pointer (some ⟨bk, 0, none⟩), .pointer (some ⟨T1, 0, none⟩), .pointer (some ⟨D, 0, none⟩), .pointer (some ⟨bk, 0, none⟩), .func (.func 242) #[] #[.pointer (some ⟨bb, 0, none⟩)], .agg x.cells, undef, undef, undef, undef, undef, undef, undef, undef, undef, undef], defers := [] } ∧ Row V D 35 x.cells ∧ DlP ag s x V ∧ w2.heap.size ≤ D ∧ ¬ Ob bk V D) ?hAx ?assign ?body ?done ?stop
 case hKb =>
  have a7 : ∀ j, (V.putObj (w2.heap.size + 1) o').cell? ⟨bk, j, none⟩ = V.cell? ⟨bk, j, none⟩ := fun j => World.cell?_of_block (World.putObj_heap_other (by show bk ≠ _; omega));exact ⟨fun k ob _ h2 _ h4 => by rw [World.putObj_heap_other (fun e => h2 e)]; exact h4, by simp, fun k ho => .inl (YH (a7 6) ho), fun hl k ho => by have h9 := hl k (YH (a7 6) ho); simpa using h9, fun j _ => a7 j⟩
 case hI =>
  rintro s V V' row ⟨v, h1, h2, h3, h4, h5, h6⟩ hg hr
  have a1 : ∀ r, row = some r → w2.heap.size ≤ r ∧ v.ownBlock ≠ some r := fun r e => by
   rcases hr r e with h | ⟨h, o, ho, hc⟩
   · exact h.elim
   · exact ⟨h, Z1 h2 ho hc⟩
  refine ⟨v, h1.abide hg hr, h2.kept hg ?_, fun x hx => (h3 x hx).abide hg hr, h4.abide hg hr, h5.grown hg (by have := h1.lt; omega) (fun k e => by have := (a1 k e).1; omega), Le h6 hg.size⟩;cases row with
  | none => cases v.ownBlock <;> simp
  | some r => exact .inr (a1 r rfl).2
 case hIx => exact fun _ _ _ _ _ h _ _ => h
 case hAx =>
  rintro s x a' _ V V' row ⟨D, h1, h2, ⟨h3, h5⟩, h4, h6⟩ hg hr;refine ⟨D, h1, h2.abide hg hr, ⟨h3.abide hg hr, h5⟩, h4, fun ho => h6 (YH (World.cell?_of_block (hg.block bk (by have := h2.lt; show bk < _; omega) (fun e => ?_))) ho)⟩;rcases hr _ e.symm with h | ⟨h, _⟩
  · exact h
  · have : w2.heap.size ≤ bk := h;omega
 case stop => exact fun D c s W _ _ h _ => h.elim
 case assign =>
  rintro l3 s x V K hI hP hK;have HK := Lh hK;have HI := Lh hI;have HP := Lh hP;clear hK hI hP;gi_wp2_with (refine K0 _ _ _ rfl ?_);refine Stop.to ?_;obtain ⟨D, hD⟩ : ∃ D, D = V.heap.size := ⟨_, rfl⟩;obtain ⟨V1, ax⟩ : ∃ V1, V1 = V.alloc (.cells #[.slice none 0 0, .int .i64 0, .int .i64 0] 35) := ⟨_, rfl⟩;have rD : Row V1 D 35 #[.slice none 0 0, .int .i64 0, .int .i64 0] := by rw [ax, hD]; exact Row.new _ _ _
  have b1 : Below V.heap.size V V1 := by rw [ax]; exact (Below.refl _ _).alloc (Nat.le_refl _) _
  rw [← ax, ← hD];have bl : V.heap.size ≤ D := LA hD.symm;clear ax hD;refine QZ rfl 35 _ _ rfl D x.cells rfl rfl 35 _ rD (by kernel_rfl) rfl (by simp [DlV.cells, Value.oneCell']) ?_;have bc := rD.setRow x.cells;have o2 := Zu V1 D x.cells;have b2 : Below V.heap.size V (V1.setRow D x.cells) := Qo b1 o2 bl;generalize V1.setRow D x.cells = V2 at bc o2 b2 ⊢;obtain ⟨v, h1, h2, h3, h4, h5, h6⟩ := HI.out;have bw := b2.size
  have HF : Hid (KeepsFrom w2.heap.size V V2 ∧ KpB bk (fun i => i = w2.heap.size + 1) V V2 ∧ (∃ v, Row V2 bk 102 (ZW p 0 1 v) ∧ V2.ownsRow B 35 3 v s.length (Ug s) ∧ (∀ x ∈ s, DlT V2 x) ∧ Row V2 T1 88 #[.pointer (some ⟨bk, 0, none⟩)] ∧ Below B w0 V2 ∧ w2.heap.size ≤ V2.heap.size) ∧ Row V2 D 35 x.cells ∧ DlP ag s x V2 ∧ w2.heap.size ≤ D ∧ ¬ Ob bk V2 D) :=
   ⟨(KpX.of_below b2).keeps (X := fun _ => False) (fun _ h => h.elim), KpB.of_below h1.lt b2, ⟨v, h1.below b2 h1.lt, QB h2 b2, fun y hy => (h3 y hy).go b2, h4.below b2 h4.lt, h5.trans (b2.mono (by have := h1.lt; omega)), by omega⟩, bc, ⟨HP.out.1.go b2, HP.out.2⟩, by omega, fun ho => by
    obtain ⟨a, n', c', e1, e2⟩ := (XH (h1.below b2 h1.lt)).1 ho
    rcases Uo h2 with ⟨e3, _⟩ | ⟨g, c, e3, _, e5⟩
    · rw [e3] at e1; cases e1
    · rw [e3] at e1; injection e1 with e1; injection e1 with e1; subst e1; simp only at e2; omega⟩
  clear rD bc b1 o2 b2 bl h1 h2 h3 h4 h5 h6 bw HI HP;gi_wp2_with fail
  exact HK.out _ _ HF.out.1 HF.out.2.1 HF.out.2.2.1 ⟨D, rfl, HF.out.2.2.2⟩
 case body =>
  rintro l3 s x a' V bv _ ⟨v, h1, h2, h3, h4, h5, h6⟩ ⟨D, rfl, au, ⟨hT, a8⟩, hD, ap⟩ bn;obtain ⟨Vd, a6⟩ : ∃ Vd, Vd = V.drew := ⟨_, rfl⟩;have bd : Below V.heap.size V Vd := by rw [a6]; exact St.drew (S := fun W => Below V.heap.size V W) (Below.refl _ _)
  have r1 := h1.below bd h1.lt;have am := QB h2 bd;have c1 := (h4.below bd h4.lt).cellv (i := 0) (v := .pointer (some ⟨bk, 0, none⟩)) rfl;have c6 := r1.cellv (i := 6) (v := v) rfl;have z := au.below bd au.lt;have b0 : s.length ≤ 20000 := by omega
  have ao : v.ownBlock ≠ some D := fun e => ap (by
   rcases Uo h2 with ⟨_, e4⟩ | ⟨g, c, e3, e4, _⟩
   · rw [e4] at e; cases e
   · rw [e4] at e; injection e with e; exact (XH h1).2 ⟨_, _, _, e3, e⟩)
  have az : D ≠ bk := fun e => by
   have h9 : V.heap[bk]? = some (.cells x.cells 35 (0, 0)) := by rw [← e]; exact au
   rw [show V.heap[bk]? = some (.cells (ZW p 0 1 v) 102 (0, 0)) from h1] at h9;injection h9 with h9; injection h9 with _ h9; exact absurd h9 (by decide)
  obtain ⟨S, aw⟩ : ∃ S : World → Prop, S = (fun W => W.cell? ⟨T1, 0, none⟩ = some (.pointer (some ⟨bk, 0, none⟩)) ∧ Row W D 35 x.cells) := ⟨_, rfl⟩;have bi : Hid (∀ W, S W → W.cell? ⟨T1, 0, none⟩ = some (.pointer (some ⟨bk, 0, none⟩))) := by show ∀ W, _; rw [aw]; exact fun W h => h.1
  have bs : Hid (∀ W, S W → Row W D 35 x.cells) := by show ∀ W, _; rw [aw]; exact fun W h => h.2
  have TS : Hid (∀ W, Row W T1 88 #[.pointer (some ⟨bk, 0, none⟩)] → Row W D 35 x.cells → S W) := by show ∀ W, _; rw [aw]; exact fun W h1 h2 => ⟨h1.cellv (i := 0) rfl, h2⟩
  have hS : S Vd := TS.out _ (h4.below bd h4.lt) z;have br := Lh a6;clear bn bv a8 c1 aw a6;gi_wp2_with fail
  refine AbN (S := S) (by kernel_rfl) (by kernel_rfl) ?_;simp only [Lj, Ld, Lp, Nat.reduceAdd, Ll, Lm, Lr, Lo, Lk];have a0 : Vd = V.drew := br.out;rw [← a0];clear a0;(refine tkH 0 (.pointer (some ⟨bk, 0, none⟩)) rfl (Qd rfl (fun W hW => by ((have c := bi.out W hW; go_simp)))) ?_; simp only [Act.put, Qa, Qb, Qc]);(refine tkH 1 (.pointer (some ⟨bk, 0, none⟩)) rfl (Qd rfl (fun W hW => by ((have c := bi.out W hW; go_simp)))) ?_; simp only [Act.put, Qa, Qb, Qc]);(refine tkH 2 (.pointer (some ⟨bk, 0, none⟩)) rfl (Qd rfl (fun W hW => by (go_simp))) ?_; simp only [Act.put, Qa, Qb, Qc]);(refine tkH 3 (.pointer (some ⟨bk, 6, none⟩)) rfl (Qd rfl (fun W hW => by (go_simp))) ?_; simp only [Act.put, Qa, Qb, Qc]);(refine tkH 5 _ rfl ((Kt rfl 35 _ rfl D rfl 35 x.cells _ (fun W hW => bs.out W hW) Tryz.underlying35 rfl (by kernel_rfl))) ?_; simp only [Act.put, Qa, Qb, Qc]);refine wpAnyH_all (rs := [4, 6]) (by kernel_rfl) (by simp) (fun i hi => ?_);have bu : i = 4 ∨ i = 6 := by simpa using hi
  clear hi;rcases bu with rfl | rfl
  · refine Qf rfl rfl (fun K2 l => ?_);refine Ql (w1 := Vd) v (by have c := c6; go_simp) ?_;refine l _ _ ?_;clear l K2;simp only [Act.put, Qa, Qb, Qc];refine ⟨hS, ?_⟩;(refine wpAnyH_all (rs := [6]) (by kernel_rfl) (by simp) (fun i hi => ?_); obtain rfl : i = 6 := by simpa using hi);refine Qf rfl rfl (fun K2 l => ?_);refine Ql (.slice (some ⟨Vd.heap.size, 0, none⟩) 1 1) (QX [(0, .tmp 11)] rfl (ZP (cells := x.cells) Tryz.underlying28 AcN (by decide) (by decide) (by kernel_rfl) Vd)) ?_;refine l _ _ ?_;clear l K2;simp only [Act.put, Qa, Qb, Qc];obtain ⟨M, hM⟩ : ∃ M, M = Vd.heap.size := ⟨_, rfl⟩;obtain ⟨V2, ae⟩ : ∃ V2, V2 = Vd.alloc (.cells x.cells 35) := ⟨_, rfl⟩;have Mr : Row V2 M 35 x.cells := by rw [ae, hM]; exact Row.new _ _ _
    have Mb : Below M Vd V2 := by rw [ae, hM]; exact (Below.refl _ _).alloc (Nat.le_refl _) _
    have Mh : Vd.heap.size ≤ M := LA hM.symm;rw [← hM, ← ae];clear hM ae;have av : S V2 := TS.out _ ((h4.below bd h4.lt).below (Mb.mono Mh) (h4.below bd h4.lt).lt) (z.below (Mb.mono Mh) z.lt);refine ⟨av, ?_⟩;have bm := bd.trans ((Mb.mono Mh).mono bd.size);have d := QB am (Mb.mono Mh);have r2 := r1.below (Mb.mono Mh) r1.lt;have ai : B ≤ V2.heap.size := by have := r2.lt; omega
    have aq : B ≤ V.heap.size := by have := h1.lt; omega
    obtain ⟨v3, V3, ah, u, q, ar⟩ := ZZ (P := Tryz.prog) 28 35 (.agg #[.slice none 0 0, .int .i64 0, .int .i64 0]) 3 40 Tryz.underlying28 Abv rfl (by decide) (by decide) d ai (Kz (cs := x.cells.toList) (by simpa using Mr)) (m := 1) (cap := 1) rfl (AcD x) (by simp) (by omega);obtain ⟨ak, rf⟩ := KpB.put (L := fun i => i = w2.heap.size + 1) r2 d q u ar;have r3 := r2.grown q (Qz d r2 (by decide));have o4 := Zh V3 bk 6 v3;have ab := Qu u o4 (Qz u r3 (by decide));have aa : ∀ y, DlT V y → DlT (V3.setCell ⟨bk, 6, none⟩ v3) y := fun y hy => ((hy.go bm).own d q).only r3 (by decide) o4;have ac := h4.below bm h4.lt;have al := (ac.grown q (Qz d ac (by decide))).only o4 (by omega);have b3 := QV (h5.trans (bm.mono aq)) d q ai (Nat.le_refl _);have a9 : V.heap.size ≤ (V3.setCell ⟨bk, 6, none⟩ v3).heap.size := Le bm.size ak.size;rw [← AaK] at ab
    have HF : Hid (KeepsFrom w2.heap.size V (V3.setCell ⟨bk, 6, none⟩ v3) ∧ KpB bk (fun i => i = w2.heap.size + 1) V (V3.setCell ⟨bk, 6, none⟩ v3) ∧ ∃ v, Row (V3.setCell ⟨bk, 6, none⟩ v3) bk 102 (ZW p 0 1 v) ∧ (V3.setCell ⟨bk, 6, none⟩ v3).ownsRow B 35 3 v (s ++ [x]).length (Ug (s ++ [x])) ∧ (∀ y ∈ s ++ [x], DlT (V3.setCell ⟨bk, 6, none⟩ v3) y) ∧ Row (V3.setCell ⟨bk, 6, none⟩ v3) T1 88 #[.pointer (some ⟨bk, 0, none⟩)] ∧ Below B w0 (V3.setCell ⟨bk, 6, none⟩ v3) ∧ w2.heap.size ≤ (V3.setCell ⟨bk, 6, none⟩ v3).heap.size) :=
     ⟨((KpX.of_below bm).keeps (X := fun _ => False) (fun _ h => h.elim)).trans ((KeepsFrom.of_own d q).trans (KeepsFrom.of_only r3 o4)), (KpB.of_below h1.lt bm).trans ak, v3, rf, by rw [Lf]; exact ab, fun y hy => by
      rcases L3.1 hy with hy | hy
      · exact aa y (h3 y hy)
      · rw [Ls.1 hy]; exact aa x hT, al, Qo b3 o4 hB, by omega⟩
    obtain ⟨A3, m3, d3, rfl⟩ := Js u;have c6 := r3.cellv (i := 6) (v := v) rfl;have f6 := r3.free 6;have af := Lh ah;have a3 : S V3 := TS.out _ (ac.grown q (Qz d ac (by decide))) ((z.below (Mb.mono Mh) z.lt).grown q ao);have a4 : S (V3.setCell ⟨bk, 6, none⟩ (.slice A3 m3 d3)) := TS.out _ al (((z.below (Mb.mono Mh) z.lt).grown q ao).only o4 az);clear ah am d u ab q ar ak rf r1 r2 r3 o4 aa ac al b3 a9 bm bd Mr Mb Mh h1 h2 h3 h4 h5 h6 hT au hD z ao ai aq;(refine wpAnyH_all (rs := [7]) (by kernel_rfl) (by simp) (fun i hi => ?_); obtain rfl : i = 7 := by simpa using hi);refine Qf rfl rfl (fun K2 l => ?_);refine Ql _ (Q1 rfl af.out) ?_;refine l _ _ ?_;clear l K2 af;simp only [Act.put, Qa, Qb, Qc];refine ⟨a3, ?_⟩;(refine tkH 8 (.pointer (some ⟨bk, 0, none⟩)) rfl (Qd rfl (fun W hW => by (go_simp))) ?_; simp only [Act.put, Qa, Qb, Qc]);(refine tkH 9 (.pointer (some ⟨bk, 6, none⟩)) rfl (Qd rfl (fun W hW => by (go_simp))) ?_; simp only [Act.put, Qa, Qb, Qc]);(refine wpAnyH_all (rs := [10]) (by kernel_rfl) (by simp) (fun i hi => ?_); obtain rfl : i = 10 := by simpa using hi);refine Qf rfl rfl (fun K2 l => ?_);unfold Oper.wp;go_simp
    refine l _ _ ?_;clear l K2;simp only [Qa, Qb, Qc];refine ⟨a4, ?_⟩;refine wpAnyH_done (by kernel_rfl) ?_ _;refine Yj ?_;gi_wp2_with fail
    exact HF.out
  · refine Qf rfl rfl (fun K2 l => ?_);refine Ql (.slice (some ⟨Vd.heap.size, 0, none⟩) 1 1) (QX [(0, .tmp 11)] rfl (ZP (cells := x.cells) Tryz.underlying28 AcN (by decide) (by decide) (by kernel_rfl) Vd)) ?_;refine l _ _ ?_;clear l K2;simp only [Act.put, Qa, Qb, Qc];obtain ⟨M, hM⟩ : ∃ M, M = Vd.heap.size := ⟨_, rfl⟩;obtain ⟨V2, ae⟩ : ∃ V2, V2 = Vd.alloc (.cells x.cells 35) := ⟨_, rfl⟩;have Mr : Row V2 M 35 x.cells := by rw [ae, hM]; exact Row.new _ _ _
    have Mb : Below M Vd V2 := by rw [ae, hM]; exact (Below.refl _ _).alloc (Nat.le_refl _) _
    have Mh : Vd.heap.size ≤ M := LA hM.symm;rw [← hM, ← ae];clear hM ae;have av : S V2 := TS.out _ ((h4.below bd h4.lt).below (Mb.mono Mh) (h4.below bd h4.lt).lt) (z.below (Mb.mono Mh) z.lt);refine ⟨av, ?_⟩;have bj := (r1.below (Mb.mono Mh) r1.lt).cellv (i := 6) (v := v) rfl;(refine wpAnyH_all (rs := [4]) (by kernel_rfl) (by simp) (fun i hi => ?_); obtain rfl : i = 4 := by simpa using hi);refine Qf rfl rfl (fun K2 l => ?_);refine Ql (w1 := V2) v (by have c := bj; go_simp) ?_;refine l _ _ ?_;clear l K2 bj;simp only [Act.put, Qa, Qb, Qc];refine ⟨av, ?_⟩;have bm := bd.trans ((Mb.mono Mh).mono bd.size);have d := QB am (Mb.mono Mh);have r2 := r1.below (Mb.mono Mh) r1.lt;have ai : B ≤ V2.heap.size := by have := r2.lt; omega
    have aq : B ≤ V.heap.size := by have := h1.lt; omega
    obtain ⟨v3, V3, ah, u, q, ar⟩ := ZZ (P := Tryz.prog) 28 35 (.agg #[.slice none 0 0, .int .i64 0, .int .i64 0]) 3 40 Tryz.underlying28 Abv rfl (by decide) (by decide) d ai (Kz (cs := x.cells.toList) (by simpa using Mr)) (m := 1) (cap := 1) rfl (AcD x) (by simp) (by omega);obtain ⟨ak, rf⟩ := KpB.put (L := fun i => i = w2.heap.size + 1) r2 d q u ar;have r3 := r2.grown q (Qz d r2 (by decide));have o4 := Zh V3 bk 6 v3;have ab := Qu u o4 (Qz u r3 (by decide));have aa : ∀ y, DlT V y → DlT (V3.setCell ⟨bk, 6, none⟩ v3) y := fun y hy => ((hy.go bm).own d q).only r3 (by decide) o4;have ac := h4.below bm h4.lt;have al := (ac.grown q (Qz d ac (by decide))).only o4 (by omega);have b3 := QV (h5.trans (bm.mono aq)) d q ai (Nat.le_refl _);have a9 : V.heap.size ≤ (V3.setCell ⟨bk, 6, none⟩ v3).heap.size := Le bm.size ak.size;rw [← AaK] at ab
    have HF : Hid (KeepsFrom w2.heap.size V (V3.setCell ⟨bk, 6, none⟩ v3) ∧ KpB bk (fun i => i = w2.heap.size + 1) V (V3.setCell ⟨bk, 6, none⟩ v3) ∧ ∃ v, Row (V3.setCell ⟨bk, 6, none⟩ v3) bk 102 (ZW p 0 1 v) ∧ (V3.setCell ⟨bk, 6, none⟩ v3).ownsRow B 35 3 v (s ++ [x]).length (Ug (s ++ [x])) ∧ (∀ y ∈ s ++ [x], DlT (V3.setCell ⟨bk, 6, none⟩ v3) y) ∧ Row (V3.setCell ⟨bk, 6, none⟩ v3) T1 88 #[.pointer (some ⟨bk, 0, none⟩)] ∧ Below B w0 (V3.setCell ⟨bk, 6, none⟩ v3) ∧ w2.heap.size ≤ (V3.setCell ⟨bk, 6, none⟩ v3).heap.size) :=
     ⟨((KpX.of_below bm).keeps (X := fun _ => False) (fun _ h => h.elim)).trans ((KeepsFrom.of_own d q).trans (KeepsFrom.of_only r3 o4)), (KpB.of_below h1.lt bm).trans ak, v3, rf, by rw [Lf]; exact ab, fun y hy => by
      rcases L3.1 hy with hy | hy
      · exact aa y (h3 y hy)
      · rw [Ls.1 hy]; exact aa x hT, al, Qo b3 o4 hB, by omega⟩
    obtain ⟨A3, m3, d3, rfl⟩ := Js u;have c6 := r3.cellv (i := 6) (v := v) rfl;have f6 := r3.free 6;have af := Lh ah;have a3 : S V3 := TS.out _ (ac.grown q (Qz d ac (by decide))) ((z.below (Mb.mono Mh) z.lt).grown q ao);have a4 : S (V3.setCell ⟨bk, 6, none⟩ (.slice A3 m3 d3)) := TS.out _ al (((z.below (Mb.mono Mh) z.lt).grown q ao).only o4 az);clear ah am d u ab q ar ak rf r1 r2 r3 o4 aa ac al b3 a9 bm bd Mr Mb Mh h1 h2 h3 h4 h5 h6 hT au hD z ao ai aq;(refine wpAnyH_all (rs := [7]) (by kernel_rfl) (by simp) (fun i hi => ?_); obtain rfl : i = 7 := by simpa using hi);refine Qf rfl rfl (fun K2 l => ?_);refine Ql _ (Q1 rfl af.out) ?_;refine l _ _ ?_;clear l K2 af;simp only [Act.put, Qa, Qb, Qc];refine ⟨a3, ?_⟩;(refine tkH 8 (.pointer (some ⟨bk, 0, none⟩)) rfl (Qd rfl (fun W hW => by (go_simp))) ?_; simp only [Act.put, Qa, Qb, Qc]);(refine tkH 9 (.pointer (some ⟨bk, 6, none⟩)) rfl (Qd rfl (fun W hW => by (go_simp))) ?_; simp only [Act.put, Qa, Qb, Qc]);(refine wpAnyH_all (rs := [10]) (by kernel_rfl) (by simp) (fun i hi => ?_); obtain rfl : i = 10 := by simpa using hi);refine Qf rfl rfl (fun K2 l => ?_);unfold Oper.wp;go_simp
    refine l _ _ ?_;clear l K2;simp only [Qa, Qb, Qc];refine ⟨a4, ?_⟩;refine wpAnyH_done (by kernel_rfl) ?_ _;refine Yj ?_;gi_wp2_with fail
    exact HF.out
 case done =>
  rintro D ys W hD bp ⟨v, h1, h2, h3, h4, h5, -⟩ hK;have HK := Lh hK;have hr : ∀ r, some D = some r → False ∨ (True ∧ ∃ o : Obj, W.heap[r]? = some o ∧ o.isCells = false) := fun r e => by cases e; exact .inr ⟨trivial, _, hK, rfl⟩
  have hg := grownBy_putObj' W D (.deferred none);have HF : Hid (∃ v, Row (W.putObj D (.deferred none)) bk 102 (ZW p 0 1 v) ∧ FillD p bk B ag w0 v (W.putObj D (.deferred none))) := ⟨v, h1.abide hg hr, ys, h2.kept hg (.inr (Z1 h2 hK rfl)), bp, fun x hx => (h3 x hx).abide hg hr, h5.grown hg (by have := h1.lt; omega) (fun k e => by cases e; omega)⟩;clear hK hr hg h1 h2 h3 h4 h5 bp;gi_wp2;refine ⟨by simp, .inl ⟨_, _, rfl, run_takeDeferred HK.out, ?_⟩⟩;exact ⟨_, results_none rfl _ _ _, rfl, HF.out⟩
end Go.Proofs.YtdcmppdhdcjpfaaGreat
namespace Go.Proofs.YtdcmppdhdcjpfaaGreat
open Go.RowKit Go.Deep
theorem Ait (p : PgV) (t : Tr) (hf : Fine p t) (hlc : p.body.length ≤ p.bcap) (hcm : p.bcap ≤ maxLen) (bk B : Nat) (hB : B ≤ bk) (w0 w : World) (hbw : Below B w0 w) (hr : Row w bk 102 (ZW p 0 0 (.slice none 0 0)))
 (hrd : Rd w p.ba (p.body.flatMap Nd.cells)) (hA : p.body.flatMap Nd.cells ≠ [] → ∀ ad, p.ba = some ad → ad.block ≠ bk) :
 Calls Tryz.prog 53 #[.pointer (some ⟨bk, 0, none⟩)] w fun e w' => ∃ v, e = .returned v ∧ FillD p bk B (Ji p.body t) w0 v w' := by
 have o1 := Zh w bk 4 (.int .i32 1);have hF := Ahm p t hf hlc hcm bk B hB w0 (w.setCell ⟨bk, 4, none⟩ (.int .i32 1)) (Qo hbw o1 hB) (hr.set 4 _) (hrd.only o1 hA) hA;have y := Lh (Aeh bk p (.slice none 0 0) (FillD p bk B (Ji p.body t) w0) w hr hF);have Hr := Lh hr;clear hf hlc hcm hbw hr hrd hA hF o1;obtain ⟨d, g⟩ : ∃ d, d = Ji p.body t := ⟨_, rfl⟩;rw [← g] at y ⊢;clear g;have aa : ∀ (fn : Fn) (first j : Array Value) (w : World), (Instr.makeFunc fn first j).run Tryz.prog w = .ok (.func fn first j) w := fun _ _ _ _ => rfl
 go_enter Tryz.func53, Tryz.ntmps53
 go_wp2_with fail
 refine y.out.mono ?_;rintro e w' ⟨rfl, v, c, r1, ⟨xs, z, h2, h3, h4⟩, hw⟩;have k : Row c.drew bk 102 (ZW p 0 1 v) := r1;have h : Below c.heap.size c c.drew := St.drew (S := fun W => Below c.heap.size c W) (Below.refl _ _);have m := QB z h;have o : ∀ x ∈ xs, DlT c.drew x := fun x hx => (h3 x hx).go h
 have q : Below B w0 c.drew := h4.trans (h.mono (by have := r1.lt; omega));have r := Zh c.drew bk 3 (.int .u32 1);have u : Row (c.drew.setCell ⟨bk, 3, none⟩ (.int .u32 1)) bk 102 (ZW p 1 1 v) := k.set 3 _;have l := Qu m r (Qz m k (by decide));have s := Zh (c.drew.setCell ⟨bk, 3, none⟩ (.int .u32 1)) bk 4 (.int .i32 0);have r3 : Row ((c.drew.setCell ⟨bk, 3, none⟩ (.int .u32 1)).setCell ⟨bk, 4, none⟩ (.int .i32 0)) bk 102 (ZW p 1 0 v) := u.set 4 _;have n := Qu l s (Qz l u (by decide));have HF : Hid (FillD p bk B d w0 v ((c.drew.setCell ⟨bk, 3, none⟩ (.int .u32 1)).setCell ⟨bk, 4, none⟩ (.int .i32 0))) := ⟨xs, n, h2, fun x hx => ((o x hx).only k (by decide) r).only u (by decide) s, Qo (Qo q r hB) s hB⟩;rw [← hw] at r3 HF;obtain ⟨A, j, rfl⟩ := Zi z;have c6 := r3.cellv (i := 6) (v := .slice A xs.length j) rfl;clear z h2 h3 h4 hw r1 k h m o q r u l s r3 n y Hr;go_wp2_with fail
 go_ret
 exact ⟨_, rfl, HF.out⟩
structure AllR (p : PgV) (w w' : World) (e : Ending) : Prop where
 ex : ∃ (A : Option Addr) (cap : Nat) (xs : List DlV), e = .returned (.tuple #[.slice A xs.length cap, .int .i64 (Zg p)]) ∧ Rd w' A (Ug xs) ∧ xs.length ≤ cap ∧ (A = none → xs = []) ∧ (∀ x ∈ xs, DlT w' x) ∧ (∀ t, Fine p t → xs.map DlV.d = Ji p.body t) ∧ (Zg p ≠ 0 → xs = []) ∧ xs.length ≤ 20000 ∧ Below w.heap.size w w'
theorem Ajc {w : World} {base n : Nat} {e : TypeId} {v : Value} {xs : List Value} (h : w.ownsRow base e 3 v n xs) : ∃ A cap, v = .slice A n cap ∧ Rd w A xs ∧ n ≤ cap ∧ (A = none → n = 0) := by
 obtain ⟨A, cap, rfl⟩ := Zi h;refine ⟨A, cap, rfl, YI h, ?_⟩;rcases h.2 with ⟨d, j⟩ | ⟨g, c, i, d, _, _, k, _⟩
 · injection d with d e2 e3; exact ⟨by omega, fun _ => j⟩
 · injection d with d e2 e3; subst d e3; exact ⟨k, fun e => by cases e⟩
theorem X7 (p : PgV) (hbl : p.body.length ≤ 1000) (w : World) (hok : p.ok w) :
 Calls Tryz.prog 17 #[.agg p.cells] w fun e w' => AllR p w w' e := by
 have s := Lh hbl;have z := Lh hok;clear hbl hok;go_enter Tryz.func17, Tryz.ntmps17
 go_wp2_with (refine Qn _ _ rfl ?_)
 refine Stop.to ?_;refine Qe rfl 25 _ rfl p.cells rfl ?_;intro G Gw Gh i Gb;have d := (Below.refl w.heap.size w).trans (Gb.mono Gh);have c := Lh (z.out.go d);have j := Lh (Es p s.out Gw c.out);clear Gb Gh;go_wp2_with (refine wpList_load_row rfl 25 _ rfl G rfl 25 p.cells (0, 0) _ i Tryz.underlying25 rfl (by kernel_rfl) ?_)
 refine j.out.mono ?_;rintro e w1 ⟨rfl, n⟩;replace i := i.below n i.lt;replace d := d.trans (n.mono d.size);replace c := Lh (c.out.go n);clear n j;obtain ⟨k, g⟩ : ∃ k, k = Zg p := ⟨_, rfl⟩;by_cases o : k = 0;rotate_left
 · have r : Hid (AllR p w w1 (.returned (.tuple #[.slice none 0 0, .int .i64 k]))) := ⟨none, 0, [], by rw [g]; rfl, Rd.nil _ _, Nat.le_refl _, fun _ => rfl, fun x hx => by simp at hx, fun t q => absurd (checkP_ok.2 ⟨t, q⟩) (by rw [← g]; exact o), fun _ => rfl, by simp, d⟩;have e0 : (k != 0) = true := by simpa using o
   rw [← g];clear g o;go_wp2_with fail
   refine bodyPost_ret (results_tmp2 rfl _ _ _) rfl ?_;exact r.out
 subst o;obtain ⟨t, q⟩ := checkP_ok.1 g.symm;rw [← g];have y := Lh g;have m := Lh q;clear g q;go_wp2_with (first | (refine Qn _ _ rfl ?_) | (refine wpList_load_row rfl 25 _ rfl G rfl 25 #[.int .i64 p.params, .slice p.va p.V.length p.vcap, .slice p.ba p.body.length p.bcap] (0, 0) _ i Tryz.underlying25 rfl (by kernel_rfl) ?_))
 refine Stop.to ?_;refine Qe rfl 102 _ rfl (ZW p 0 0 (.slice none 0 0)) rfl ?_;intro K Kw Kh Kr Kb;have b3 := d.trans ((Kb.mono Kh).mono d.size);have b4 := (Below.refl w1.heap.size w1).trans (Kb.mono Kh);have j := Lh (Ait p t m.out c.out.blen c.out.bmax K w.heap.size (by have := d.size; omega) w Kw b3 Kr (c.out.brd.go b4) (fun aa ad e => by have := XJ c.out.brd aa e; omega));clear i Kr Kb b3 b4 d c;go_wp2_with fail
 refine j.out.mono ?_;rintro e w2 ⟨v, rfl, xs, h1, h2, h3, h4⟩;obtain ⟨A, l, rfl, hr, hc, hn⟩ := Ajc h1;have hl : xs.length ≤ 20000 := by have := Ae0 m.out; rw [← h2, L9] at this; exact this
 have r : Hid (AllR p w w2 (.returned (.tuple #[.slice A xs.length l, .int .i64 0]))) := ⟨A, l, xs, by rw [← y.out], hr, hc, fun e => Lx (hn e), h3, fun u hu => by rw [h2, m.out.good.whole.uniq hu.good.whole], fun h => absurd y.out.symm h, hl, h4⟩;clear h1 h2 h3 h4 hr hc hn hl j y m;go_wp2_with fail
 refine bodyPost_ret (results_tmp2 rfl _ _ _) rfl ?_;exact r.out
end Go.Proofs.YtdcmppdhdcjpfaaGreat
