/- Lemmas for DirectMutantsP. -/
import Derived.Test.YtdcmppdhdcjpfaaGreatZp1
import Derived.Test.YtdcmppdhdcjpfaaGreatZp14
set_option linter.unusedVariables false
set_option linter.unusedSimpArgs false
set_option maxRecDepth 100000
set_option maxHeartbeats 16000000
namespace Go.Proofs.YtdcmppdhdcjpfaaGreat
open Go.RowKit Go.Deep
def AcR (v : Int) (s : Ms) : Ending := match s.out with | none => .returned (.int .i64 v) | some o => QV o.1 o.2
theorem QA {v : Int} {s : Ms} (h : s.out = none) : AcR v s = .returned (.int .i64 v) := by unfold AcR; rw [h]
theorem QO {v k x : Int} {s : Ms} (h : s.out = some (k, x)) : AcR v s = QV k x := by unfold AcR; rw [h]
def EntD (L : Lay) (t : Tr) (s : Ms) (v : Int) (s' : Ms) : Prop := ∀ (q : Nat) (ev : Value) (W : World), At L.p.body q t → DR L s ev W →
 Calls Tryz.prog 119 #[.pointer (some ⟨L.M, 0, none⟩), .int .i64 (q : Int)] W fun e W' => e = AcR v s' ∧ ∃ ev', DR L s' ev' W' ∧ RChg L ev W ev' W'
def Jt (L : Lay) : List Tr → Ms → List Int → Ms → Prop
 | [], s, vs, s' => vs = [] ∧ s' = s
 | t :: ts, s, vs, s' => ∃ v s1, EntD L t s v s1 ∧ ((s1.out.isSome = true ∧ s' = s1) ∨ (s1.out = none ∧ ∃ vs', vs = v :: vs' ∧ Jt L ts s1 vs' s'))
def FOwn (L : Lay) (ev : Value) (W : World) (b : Nat) (v : Value) (xs : List Int) : Prop := W.ownsRow b 3 1 v xs.length (Qg xs) ∧ ∀ g, v.ownBlock = some g → Far L ev W g
section
variable {L : Lay} {s : Ms} {ev ev' : Value} {W W' : World}
theorem FOwn.go {b : Nat} {v : Value} {xs : List Int} (h : FOwn L ev W b v xs) (hL : LOk0 L) (c : RChg L ev W ev' W') : FOwn L ev' W' b v xs := by
 refine ⟨⟨h.1.1, ?_⟩, fun g e => (h.2 g e).go c⟩
 rcases h.1.2 with h0 | ⟨g, cap, cur, h1, h2, h3, h4⟩
 · exact .inl h0
 · exact .inr ⟨g, cap, cur, h1, h2, ((h.2 g (by rw [h1]; rfl)).same hL c).trans h3, h4⟩
theorem FOwn.frd {b : Nat} {v : Value} {xs : List Int} (h : FOwn L ev W b v xs) : ∃ A cap, v = .slice A xs.length cap ∧ FRd L ev W A (Qg xs) := by
 rcases h.1.2 with ⟨rfl, h0⟩ | ⟨g, cap, cur, hv, _⟩
 · have hx : xs = [] := List.eq_nil_of_length_eq_zero h0
   subst hx
   exact ⟨none, 0, rfl, Rd.nil _ _, fun ad e => by cases e⟩
 · obtain ⟨A, cap', hv2, hr, _⟩ := EA h.1
   refine ⟨A, cap', hv2, hr, fun ad e => h.2 ad.block ?_⟩
   rw [hv] at hv2
   injection hv2 with e1
   rw [← e1] at e
   injection e with e
   rw [hv, ← e]; rfl
theorem DR.grown {row : Option Nat} (h : DR L s ev W) (hL : LOk0 L) (hg : W.grownBy W' row) (hr : ∀ g, row = some g → L.b1 ≤ g ∧ ev.ownBlock ≠ some g) : DR L s ev W' := by
 have ne : ∀ k, k < L.b1 → row ≠ some k := fun k hk e => by have := (hr k e).1; omega
 refine ⟨h.row.grown hg (ne _ hL.lt), QM h.evs hg ?_, fun i g t h1 h2 => (h.rows i g t h1 h2).grown hg (ne _ (hL.alt g (List.mem_of_getElem? h1)).1), hL.im _ _ h.im (.grown hg h.size (fun k e => (hr k e).1)), Nat.le_trans h.size hg.size, h.sum, h.few⟩
 cases hrow : row with
 | none => exact .inl rfl
 | some g => exact .inr (hr g hrow).2
theorem RChg.more {row : Option Nat} {W0 : World} (h : RChg L ev W0 ev' W) (hg : W.grownBy W' row) (hr : ∀ g, row = some g → W0.heap.size ≤ g) : RChg L ev W0 ev' W' :=
 ⟨hg.os.trans h.os, hg.tape.trans h.tape, hg.output.trans h.output, Nat.le_trans h.size hg.size, fun k h0 h1 h2 h3 h4 => (hg.block k (Nat.lt_of_lt_of_le h0 h.size) (fun e => by have := hr k e.symm; omega)).trans (h.block k h0 h1 h2 h3 h4), h.evb⟩
end
theorem X0 {p : PgV} {q : Nat} {x : Nd} {ks : List Tr} (h : At p.body q (.node x ks)) {i : Nat} {k : Tr} (hk : ks[i]? = some k) : ∃ qi, (QP (q + 1) ks)[i]? = some qi ∧ At p.body qi k := by
 have hi : i < (QP (q + 1) ks).length := by rw [ZY]; exact (List.getElem?_eq_some_iff.1 hk).1
 exact ⟨_, List.getElem?_eq_getElem hi, (h.kids.spot i _ k (List.getElem?_eq_getElem hi) hk).1⟩
theorem EX : ∀ {l : List Nd} {q : Nat} {ts : List Tr} (k : Nat) (t : Tr), Ats l q ts → ts[k]? = some t → ∃ qk, (QP q ts)[k]? = some qk ∧ Ats l qk (ts.drop k) ∧ At l qk t
 | l, q, u :: ts, 0, t, h, hk => by
  injection hk with hk
  subst hk
  exact ⟨q, by simp [QP], h, h.head⟩
 | l, q, u :: ts, k + 1, t, h, hk => by
  obtain ⟨qk, h1, h2, h3⟩ := EX k t h.tail (by simpa using hk)
  exact ⟨qk, by rw [QP]; simpa using h1, by simpa using h2, h3⟩
theorem Ul : ∀ {ts : List Tr} {p k q : Nat} {t : Tr}, (QP p ts)[k]? = some q → ts[k]? = some t → k + 1 < ts.length → (QP p ts)[k + 1]? = some (q + t.size)
 | [], _, _, _, _, _, h, _ => by simp at h
 | [u], _, _, _, _, _, _, h => by simp at h
 | u :: u' :: ts, p, 0, q, t, h1, h2, _ => by
  simp only [QP, List.getElem?_cons_zero, Option.some.injEq] at h1 h2
  subst h1; subst h2
  simp [QP]
 | u :: u' :: ts, p, k + 1, q, t, h1, h2, h3 => by
  have := Ul (ts := u' :: ts) (p := p + u.size) (k := k) (q := q) (t := t) (by simpa [QP] using h1) (by simpa using h2) (by simpa using h3)
  rw [QP]; simpa using this
theorem AdU (L : Lay) (hL : DOk L) (s : Ms) (ev : Value) (q : Nat) (x : Nd) (ks : List Tr) (n : Nat) (qn : Nat) (W : World) (h : DR L s ev W) (hat : At L.p.body q (.node x ks)) (hn : (QP (q + 1) ks)[n]? = some qn) :
 Calls Tryz.prog 190 #[.pointer (some ⟨L.M, 0, none⟩), .int .i64 (q : Int), .int .i64 (n : Int)] W fun e W' => e = .returned (.int .i64 (qn : Int)) ∧ Below W.heap.size W W' := by
 have hnl : n < ks.length := by have := (List.getElem?_eq_some_iff.1 hn).1; rwa [ZY] at this
 have hql : q < L.p.body.length := hat.lt
 have hbl := hL.blen
 have hkl : ks.length ≤ 200 := by have h1 := hat.fits.arity; have h2 := JD x; simp only [Tr.root, Tr.kids] at h1; omega
 have HL := Lh hL
 have Hm := Lh h
 have Hat := Lh hat
 have Hn := Lh hn
 have ew : IntKind.i64.wrap ((q : Int) + 1) = (q : Int) + 1 := IntWalk.i64_in _ (by omega)
 clear hL h hat hn
 go_enter Tryz.func190, Tryz.ntmps190
 go_wp2
 go_loopw [1, 10] (fun a i wr => ∃ (k qk : Nat), a = .int .i64 (qk : Int) ∧ i = .int .i64 (k : Int) ∧ k ≤ n ∧ Hid ((QP (q + 1) ks)[k]? = some qk) ∧ Hid (Below W.heap.size W wr)) (fun _ i _ => n - (intOf i).toNat)
 case atStart => exact ⟨0, q + 1, rfl, rfl, Nat.zero_le _, Lh (by cases ks with | nil => simp at hnl | cons t ts => simp [QP]), Lh (Below.refl _ _)⟩
 case round =>
  obtain ⟨k, qk, rfl, rfl, hk, Hk, Hb⟩ := hrel
  by_cases hlt : k < n
  · have hm := Hm.out.below HL.out Hb.out
    have c0 := hm.row.cellv (i := 0) (v := .slice L.p.ba L.p.body.length L.p.bcap) rfl
    have hkk : ks[k]? = some ks[k] := List.getElem?_eq_getElem (by omega)
    obtain ⟨q', h1, h2, h3⟩ := EX k ks[k] Hat.out.kids hkk
    have e1 : q' = qk := by have := Hk.out; simp only [Tr.kids] at h1; rw [h1] at this; injection this
    subst e1
    have hz := h3.endZ
    have hnx : (QP (q + 1) ks)[k + 1]? = some (q' + ks[k].size) := by
     have := Ul (p := q + 1) (ts := ks) (k := k) (q := q') (t := ks[k]) Hk.out hkk (by omega)
     exact this
    have Hnx := Lh hnx
    have hdlt : decide ((k : Int) < (n : Int)) = true := by simp; omega
    have Hz := Lh hz
    have hend := Jc L.p.ba L.p.bcap L.p.body (q' : Int) wr (HL.out.pok _ hm.im).brd HL.out.blen
    have Hend := Lh hend
    clear hm hkk h1 h2 h3 hz hnx hend
    have ewk : IntKind.i64.wrap ((k : Int) + 1) = (k : Int) + 1 := IntWalk.i64_in _ (by omega)
    go_wp2_with fail
    refine Hend.out.mono ?_
    rintro e w2 ⟨rfl, b2⟩
    rw [Hz.out]
    have Hb2 := Lh (Hb.out.trans (b2.mono Hb.out.size))
    clear b2 Hb c0 Hk
    go_wp2
    go_roundw
    case rel => exact ⟨k + 1, q' + ks[k].size, rfl, rfl, by omega, Hnx, Hb2⟩
    case measure => simp [intOf]; omega
  · obtain rfl : k = n := by omega
    have e1 : qk = qn := by have h1 := Hk.out; have h2 := Hn.out; rw [h2] at h1; injection h1 with h1; exact h1.symm
    subst e1
    clear hlt hk
    go_wp2
    go_ret
    exact ⟨rfl, Hb.out⟩
theorem Adg (L : Lay) (hL : DOk L) (ts : List Tr) (q : Nat) (s s' : Ms) (vs : List Int) (ev : Value) (W : World) (h : DR L s ev W) (hats : Ats L.p.body q ts) (hch : Jt L ts s vs s') (ho : s.out = none) (hl : ts.length ≤ 1000) :
 Calls Tryz.prog 191 #[.pointer (some ⟨L.M, 0, none⟩), .int .i64 (q : Int), .int .i64 (ts.length : Int)] W fun e W' => ∃ ev', DR L s' ev' W' ∧ RChg L ev W ev' W' ∧ ((∃ k x, s'.out = some (k, x) ∧ e = QV k x) ∨ (s'.out = none ∧ ∃ v, e = .returned v ∧ FOwn L ev' W' W.heap.size v vs)) := by
 have HL := Lh hL
 have Hm := Lh h
 have Hats := Lh hats
 have Hch := Lh hch
 have Ho := Lh ho
 have hbl := hL.blen
 obtain ⟨i0, hi0, hz0, hz1, hz2⟩ := info_parts Z3
 clear hL h hats hch ho
 go_enter Tryz.func191, Tryz.ntmps191
 go_wp2
 go_loopw [1, 7, 9] (fun a v i wr => ∃ (k qk : Nat) (vv : Value) (sk : Ms) (evk : Value) (pre vs' : List Int), vv = v ∧ a = .int .i64 (qk : Int) ∧ i = .int .i64 (k : Int) ∧ k ≤ ts.length ∧ Hid (Ats L.p.body qk (ts.drop k)) ∧ Hid (Jt L (ts.drop k) sk vs' s') ∧ Hid (sk.out = none) ∧ Hid (s'.out = none → pre ++ vs' = vs) ∧ Hid (DR L sk evk wr) ∧ Hid (FOwn L evk wr W.heap.size v pre) ∧ Hid (RChg L ev W evk wr) ∧ Hid (pre.length = k)) (fun _ _ i _ => ts.length - (intOf i).toNat)
 case atStart => exact ⟨0, q, _, s, ev, [], vs, rfl, rfl, rfl, Nat.zero_le _, Hats, Hch, Ho, Lh (fun _ => rfl), Hm, Lh ⟨by simpa [Qg] using World.ownsRow_nil W W.heap.size 3 1, fun g e => by cases e⟩, Lh (RChg.refl _ _ _), Lh rfl⟩
 case round =>
  clear Hats Hch Ho Hm
  obtain ⟨k, qk, v, sk, evk, pre, vs', rfl, rfl, rfl, hk, Hats, Hch, Ho, Hvs, Hm, Hown, HC, Hpl⟩ := hrel
  by_cases hlt : k < ts.length
  · have hch := Hch.out
    have hats := Hats.out
    rw [List.drop_eq_getElem_cons hlt] at hch hats
    obtain ⟨x, s1, he, halt⟩ := hch
    have hat1 := hats.head
    have htail := hats.tail
    have Hcall := Lh (he qk evk wr hat1 Hm.out)
    have Hz := Lh hat1.endZ
    have Htail := Lh htail
    have hdlt : decide ((k : Int) < (ts.length : Int)) = true := by simp; omega
    have hpl := Hpl.out
    have Halt := Lh halt
    clear hats he hat1 htail halt Hch Hats
    go_wp2_with fail
    refine Hcall.out.mono ?_
    rintro e wa ⟨rfl, eva, hma, hca⟩
    have Hown1 := Lh (Hown.out.go HL.out hca)
    have HC1 := Lh (HC.out.trans hca)
    have Hma := Lh hma
    clear Hcall Hown HC Hm hma hca
    rcases Halt.out with ⟨ho1, hs1⟩ | ⟨ho1, vs2, hvs2, hch2⟩
    · obtain ⟨o, hoo⟩ := Option.isSome_iff_exists.1 ho1
      obtain ⟨k1, x1⟩ := o
      rw [QO hoo]
      simp only [QV]
      have Hoo := Lh hoo
      have Hs1 := Lh hs1
      clear ho1 hoo hs1
      go_wp2
      rw [Hs1.out]
      exact ⟨rfl, eva, Hma.out, HC1.out, .inl ⟨k1, x1, Hoo.out, rfl⟩⟩
    · rw [QA ho1]
      have Ho1 := Lh ho1
      have Hch2 := Lh hch2
      have Hvs2 := Lh hvs2
      have ha := Hown1.out.1.alloc (.cells #[.int .i64 x] 3)
      have HA := Lh ha
      have hWa := HC1.out.size
      clear ho1 hch2 hvs2 ha Halt
      go_wp2_with (at_builtin; refine wpList_append_own_at _ rfl (.tmp 11) (.tmp 15) 22 rfl W.heap.size 3 i0 (.int .i64 0) 1 8 Tryz.underlying22 hi0 hz0 hz1 hz2 rfl (by decide) v pre.length (Qg pre) rfl HA.out ⟨wa.heap.size, 0, none⟩ 1 1 (Qg [x]) rfl rfl (Je _ _ _) (Jm _) (by unfold maxLen; omega) (by omega) (by simp; omega) ?_)
      intro v' W3 hown hg _ hat
      have b1 : Below wa.heap.size wa (wa.alloc (.cells #[.int .i64 x] 3)) := (Below.refl _ _).alloc (Nat.le_refl _) _
      have hfar : ∀ g, v.ownBlock = some g → Far L eva (wa.alloc (.cells #[.int .i64 x] 3)) g := fun g e => (Hown1.out.2 g e).go (.below b1)
      have hm3 := (Hma.out.below HL.out b1).grown HL.out hg (fun g e => ⟨(hfar g e).lo, (hfar g e).ev⟩)
      have hc3 := (HC1.out.trans (.below b1)).more hg (fun g e => Qz HA.out e)
      have hown3 : FOwn L eva W3 W.heap.size v' (pre ++ [x]) := by
       refine ⟨by rw [Jz]; have hpl2 := Hpl.out; simpa [hpl2] using hown, fun g e => ?_⟩
       rcases hat with h1 | h1
       · have := hfar g (h1 ▸ e)
         exact ⟨this.lo, this.ev, Nat.lt_of_lt_of_le this.lt hg.size⟩
       · rw [h1] at e
         injection e with e
         have hsz : (wa.alloc (.cells #[.int .i64 x] 3)).heap.size = wa.heap.size + 1 := by simp only [World.alloc, Array.size_push]
         have h3 := hown.lt g (by rw [h1, e])
         refine ⟨by have := Hma.out.size; omega, fun e2 => ?_, h3.2⟩
         have := Hma.out.evs.lt _ e2
         omega
      have Hm3 := Lh hm3
      have HC3 := Lh hc3
      have Hown3 := Lh hown3
      clear hown hg hat b1 hfar hm3 hc3 hown3 HA Hma Hown1 HC1
      have c0 := Hm3.out.row.cellv (i := 0) (v := .slice L.p.ba L.p.body.length L.p.bcap) rfl
      have Hend := Lh (Jc L.p.ba L.p.bcap L.p.body (qk : Int) W3 (HL.out.pok _ Hm3.out.im).brd HL.out.blen)
      have ewk : IntKind.i64.wrap ((k : Int) + 1) = (k : Int) + 1 := IntWalk.i64_in _ (by omega)
      go_wp2_with fail
      refine Hend.out.mono ?_
      rintro e w4 ⟨rfl, b4⟩
      rw [Hz.out]
      have Hm4 := Lh (Hm3.out.below HL.out b4)
      have hcb : RChg L eva W3 eva w4 := .below b4
      have HC4 := Lh (HC3.out.trans hcb)
      have Hown4 := Lh (Hown3.out.go HL.out hcb)
      clear b4 hcb Hm3 HC3 Hown3 c0 Hend
      go_wp2
      go_roundw
      case rel => exact ⟨k + 1, qk + ts[k].size, _, s1, eva, pre ++ [x], vs2, rfl, rfl, rfl, by omega, Htail, Hch2, Ho1, Lh (fun hz => by rw [← Hvs.out hz, Hvs2.out]; simp), Hm4, Hown4, HC4, Lh (by simp [Hpl.out])⟩
      case measure => simp [intOf]; omega
  · obtain rfl : k = ts.length := by omega
    have hch := Hch.out
    rw [List.drop_length] at hch
    obtain ⟨rfl, rfl⟩ := hch
    obtain ⟨A, m, c, rfl⟩ := KU Hown.out.1
    have Hvs3 : Hid (pre = vs) := by have := Hvs.out Ho.out; rw [List.append_nil] at this; exact this
    clear hlt hk Hch Hats
    go_wp2
    go_ret
    exact ⟨evk, Hm.out, HC.out, .inr ⟨Ho.out, _, rfl, by rw [← Hvs3.out]; exact Hown.out⟩⟩
end Go.Proofs.YtdcmppdhdcjpfaaGreat
