/- Lemmas for VerdictWitnessP. -/
import Derived.Test.YtdcmppdhdcjpfaaGreatZw1
import Derived.Test.YtdcmppdhdcjpfaaGreatZw35
set_option linter.unusedVariables false
set_option linter.unusedSimpArgs false
set_option maxRecDepth 100000
set_option maxHeartbeats 16000000
namespace Go.Proofs.YtdcmppdhdcjpfaaGreat
open Go.RowKit Go.Deep
def AfL (v : Int) (s : Ms) : Ending := match s.out with | none => .returned (.int .i64 v) | some o => Q6 o.1 o.2
theorem QM {v : Int} {s : Ms} (h : s.out = none) : AfL v s = .returned (.int .i64 v) := by unfold AfL; rw [h]
theorem Zn {v k x : Int} {s : Ms} (h : s.out = some (k, x)) : AfL v s = Q6 k x := by unfold AfL; rw [h]
def EntD (L : Lay) (t : Tr) (s : Ms) (v : Int) (s' : Ms) : Prop := ∀ (q : Nat) (ev : Value) (W : World), At L.p.body q t → DR L s ev W →
 Calls Tryz.prog 119 #[.pointer (some ⟨L.M, 0, none⟩), .int .i64 (q : Int)] W fun e W' => e = AfL v s' ∧ ∃ ev', DR L s' ev' W' ∧ RChg L ev W ev' W'
def Ka (L : Lay) : List Tr → Ms → List Int → Ms → Prop
 | [], s, vs, s' => vs = [] ∧ s' = s
 | t :: ts, s, vs, s' => ∃ v s1, EntD L t s v s1 ∧ ((s1.out.isSome = true ∧ s' = s1) ∨ (s1.out = none ∧ ∃ vs', vs = v :: vs' ∧ Ka L ts s1 vs' s'))
def FOwn (L : Lay) (ev : Value) (W : World) (b : Nat) (v : Value) (xs : List Int) : Prop := W.ownsRow b 3 1 v xs.length (Qi xs) ∧ ∀ g, v.ownBlock = some g → Far L ev W g
section
variable {L : Lay} {s : Ms} {ev ev' : Value} {W W' : World}
theorem FOwn.go {b : Nat} {v : Value} {xs : List Int} (h : FOwn L ev W b v xs) (hL : LOk0 L) (c : RChg L ev W ev' W') : FOwn L ev' W' b v xs := by
 refine ⟨⟨h.1.1, ?_⟩, fun g e => (h.2 g e).go c⟩;rcases h.1.2 with k | ⟨g, d, i, j, l, m, n⟩
 · exact .inl k
 · exact .inr ⟨g, d, i, j, l, ((h.2 g (by rw [j]; rfl)).same hL c).trans m, n⟩
theorem FOwn.frd {b : Nat} {v : Value} {xs : List Int} (h : FOwn L ev W b v xs) : ∃ A cap, v = .slice A xs.length cap ∧ FRd L ev W A (Qi xs) := by
 rcases h.1.2 with ⟨rfl, l⟩ | ⟨g, cap, k, j, _⟩
 · have n : xs = [] := Lv l;subst n;exact ⟨none, 0, rfl, Rd.nil _ _, fun i e => by cases e⟩
 · obtain ⟨A, d, c, m, _⟩ := Abz h.1;refine ⟨A, d, c, m, fun i e => h.2 i.block ?_⟩;rw [j] at c;injection c with e1;rw [← e1] at e;injection e with e;rw [j, ← e]; rfl
theorem DR.grown {row : Option Nat} (h : DR L s ev W) (hL : LOk0 L) (hg : W.grownBy W' row) (hr : ∀ g, row = some g → L.b1 ≤ g ∧ ev.ownBlock ≠ some g) : DR L s ev W' := by
 have d : ∀ k, k < L.b1 → row ≠ some k := fun k l e => by have := (hr k e).1; omega
 refine ⟨h.row.grown hg (d _ hL.lt), Q3 h.evs hg ?_, fun i g t c j => (h.rows i g t c j).grown hg (d _ (hL.alt g (Lg c)).1), hL.im _ _ h.im (.grown hg h.size (fun k e => (hr k e).1)), Lf h.size hg.size, h.sum, h.few⟩;cases hrow : row with
 | none => exact .inl rfl
 | some g => exact .inr (hr g hrow).2
theorem RChg.more {row : Option Nat} {W0 : World} (h : RChg L ev W0 ev' W) (hg : W.grownBy W' row) (hr : ∀ g, row = some g → W0.heap.size ≤ g) : RChg L ev W0 ev' W' :=
 ⟨hg.os.trans h.os, hg.tape.trans h.tape, hg.output.trans h.output, Lf h.size hg.size, fun k h0 h1 h2 h3 h4 => (hg.block k (Ld h0 h.size) (fun e => by have := hr k e.symm; omega)).trans (h.block k h0 h1 h2 h3 h4), h.evb⟩
end
theorem Vr {p : PgV} {q : Nat} {x : Nd} {ks : List Tr} (h : At p.body q (.node x ks)) {i : Nat} {k : Tr} (hk : ks[i]? = some k) : ∃ qi, (QS (q + 1) ks)[i]? = some qi ∧ At p.body qi k := by
 have hi : i < (QS (q + 1) ks).length := by rw [Ja]; exact (La.1 hk).1
 exact ⟨_, Lb hi, (h.kids.spot i _ k (Lb hi) hk).1⟩
theorem Aca : ∀ {l : List Nd} {q : Nat} {ts : List Tr} (k : Nat) (t : Tr), Ats l q ts → ts[k]? = some t → ∃ qk, (QS q ts)[k]? = some qk ∧ Ats l qk (ts.drop k) ∧ At l qk t
 | l, q, u :: ts, 0, t, h, hk => by
  injection hk with hk
  subst hk
  exact ⟨q, by simp [QS], h, h.head⟩
 | l, q, u :: ts, k + 1, t, h, hk => by
  obtain ⟨qk, h1, h2, h3⟩ := Aca k t h.tail (by simpa using hk)
  exact ⟨qk, by rw [QS]; simpa using h1, by simpa using h2, h3⟩
theorem EX : ∀ {ts : List Tr} {p k q : Nat} {t : Tr}, (QS p ts)[k]? = some q → ts[k]? = some t → k + 1 < ts.length → (QS p ts)[k + 1]? = some (q + t.size)
 | [], _, _, _, _, _, h, _ => by simp at h
 | [u], _, _, _, _, _, _, h => by simp at h
 | u :: u' :: ts, p, 0, q, t, h1, h2, _ => by
  simp only [QS, List.getElem?_cons_zero, LZ] at h1 h2
  subst h1; subst h2
  simp [QS]
 | u :: u' :: ts, p, k + 1, q, t, h1, h2, h3 => by
  have := EX (ts := u' :: ts) (p := p + u.size) (k := k) (q := q) (t := t) (by simpa [QS] using h1) (by simpa using h2) (by simpa using h3)
  rw [QS]; simpa using this
theorem AgW (L : Lay) (hL : DOk L) (s : Ms) (ev : Value) (q : Nat) (x : Nd) (ks : List Tr) (n : Nat) (qn : Nat) (W : World) (h : DR L s ev W) (hat : At L.p.body q (.node x ks)) (hn : (QS (q + 1) ks)[n]? = some qn) :
 Calls Tryz.prog 190 #[.pointer (some ⟨L.M, 0, none⟩), .int .i64 (q : Int), .int .i64 (n : Int)] W fun e W' => e = .returned (.int .i64 (qn : Int)) ∧ Below W.heap.size W W' := by
 have ad : n < ks.length := by have := (La.1 hn).1; rwa [Ja] at this
 have ai : q < L.p.body.length := hat.lt;have ag := hL.blen;have ah : ks.length ≤ 200 := by have c := hat.fits.arity; have w := JI x; simp only [Tr.root, Tr.kids] at c; omega
 have y := Lh hL;have Hm := Lh h;have z := Lh hat;have Hn := Lh hn;have ew : IntKind.i64.wrap ((q : Int) + 1) = (q : Int) + 1 := IntWalk.i64_in _ (by omega);clear hL h hat hn;go_enter Tryz.func190, Tryz.ntmps190
 go_wp2
 go_loopw [1, 10] (fun a i wr => ∃ (k r : Nat), a = .int .i64 (r : Int) ∧ i = .int .i64 (k : Int) ∧ k ≤ n ∧ Hid ((QS (q + 1) ks)[k]? = some r) ∧ Hid (Below W.heap.size W wr)) (fun _ i _ => n - (intOf i).toNat)
 case atStart => exact ⟨0, q + 1, rfl, rfl, Nat.zero_le _, Lh (by cases ks with | nil => simp at ad | cons t ts => simp [QS]), Lh (Below.refl _ _)⟩
 case round =>
  obtain ⟨k, r, rfl, rfl, hk, u, j⟩ := hrel;by_cases ac : k < n
  · have hm := Hm.out.below y.out j.out;have c0 := hm.row.cellv (i := 0) (v := .slice L.p.ba L.p.body.length L.p.bcap) rfl;have g : ks[k]? = some ks[k] := Lb (by omega);obtain ⟨o, c, w, h3⟩ := Aca k ks[k] z.out.kids g;have e1 : o = r := by have := u.out; simp only [Tr.kids] at c; rw [c] at this; injection this
    subst e1;have hz := h3.endZ
    have m : (QS (q + 1) ks)[k + 1]? = some (o + ks[k].size) := by
     have := EX (p := q + 1) (ts := ks) (k := k) (q := o) (t := ks[k]) u.out g (by omega);exact this
    have ab := Lh m;have ae : decide ((k : Int) < (n : Int)) = true := by simp; omega
    have Hz := Lh hz;have d := Jq L.p.ba L.p.bcap L.p.body (o : Int) wr (y.out.pok _ hm.im).brd y.out.blen;have l := Lh d;clear hm g c w h3 hz m d;have af : IntKind.i64.wrap ((k : Int) + 1) = (k : Int) + 1 := IntWalk.i64_in _ (by omega);go_wp2_with fail
    refine l.out.mono ?_;rintro e w2 ⟨rfl, b2⟩;rw [Hz.out];have aa := Lh (j.out.trans (b2.mono j.out.size));clear b2 j c0 u;go_wp2
    go_roundw
    case rel => exact ⟨k + 1, o + ks[k].size, rfl, rfl, by omega, ab, aa⟩
    case measure => simp [intOf]; omega
  · obtain rfl : k = n := by omega
    have e1 : r = qn := by have c := u.out; have w := Hn.out; rw [w] at c; injection c with c; exact c.symm
    subst e1;clear ac hk;go_wp2
    go_ret
    exact ⟨rfl, j.out⟩
theorem AfH (L : Lay) (hL : DOk L) (ts : List Tr) (q : Nat) (s s' : Ms) (vs : List Int) (ev : Value) (W : World) (h : DR L s ev W) (hats : Ats L.p.body q ts) (hch : Ka L ts s vs s') (ho : s.out = none) (hl : ts.length ≤ 1000) :
 Calls Tryz.prog 191 #[.pointer (some ⟨L.M, 0, none⟩), .int .i64 (q : Int), .int .i64 (ts.length : Int)] W fun e W' => ∃ ev', DR L s' ev' W' ∧ RChg L ev W ev' W' ∧ ((∃ k x, s'.out = some (k, x) ∧ e = Q6 k x) ∨ (s'.out = none ∧ ∃ v, e = .returned v ∧ FOwn L ev' W' W.heap.size v vs)) := by
 have HL := Lh hL;have Hm := Lh h;have d := Lh hats;have l := Lh hch;have Ho := Lh ho;have bm := hL.blen;obtain ⟨i0, be, bf, bg, bh⟩ := info_parts Z7;clear hL h hats hch ho;go_enter Tryz.func191, Tryz.ntmps191
 go_wp2
 go_loopw [1, 7, 9] (fun a v i wr => ∃ (k qk : Nat) (vv : Value) (sk : Ms) (w : Value) (j av : List Int), vv = v ∧ a = .int .i64 (qk : Int) ∧ i = .int .i64 (k : Int) ∧ k ≤ ts.length ∧ Hid (Ats L.p.body qk (ts.drop k)) ∧ Hid (Ka L (ts.drop k) sk av s') ∧ Hid (sk.out = none) ∧ Hid (s'.out = none → j ++ av = vs) ∧ Hid (DR L sk w wr) ∧ Hid (FOwn L w wr W.heap.size v j) ∧ Hid (RChg L ev W w wr) ∧ Hid (j.length = k)) (fun _ _ i _ => ts.length - (intOf i).toNat)
 case atStart => exact ⟨0, q, _, s, ev, [], vs, rfl, rfl, rfl, Nat.zero_le _, d, l, Ho, Lh (fun _ => rfl), Hm, Lh ⟨by simpa [Qi] using World.ownsRow_nil W W.heap.size 3 1, fun g e => by cases e⟩, Lh (RChg.refl _ _ _), Lh rfl⟩
 case round =>
  clear d l Ho Hm;obtain ⟨k, qk, v, sk, w, j, av, rfl, rfl, rfl, hk, d, l, Ho, ay, Hm, r, HC, ao⟩ := hrel;by_cases a3 : k < ts.length
  · have hch := l.out;have hats := d.out;rw [LG a3] at hch hats;obtain ⟨x, s1, he, ak⟩ := hch;have ac := hats.head;have af := hats.tail;have z := Lh (he qk w wr ac Hm.out);have Hz := Lh ac.endZ;have ap := Lh af;have bj : decide ((k : Int) < (ts.length : Int)) = true := by simp; omega
    have bn := ao.out;have ai := Lh ak;clear hats he ac af ak l d;go_wp2_with fail
    refine z.out.mono ?_;rintro e wa ⟨rfl, u, a5, aq⟩;have n := Lh (r.out.go HL.out aq);have ag := Lh (HC.out.trans aq);have aa := Lh a5;clear z r HC Hm a5 aq;rcases ai.out with ⟨y, a7⟩ | ⟨y, bi, am, al⟩
    · obtain ⟨o, au⟩ := LI.1 y;obtain ⟨k1, x1⟩ := o;rw [Zn au];simp only [Q6];have bc := Lh au;have bd := Lh a7;clear y au a7;go_wp2
      rw [bd.out];exact ⟨rfl, u, aa.out, ag.out, .inl ⟨k1, x1, bc.out, rfl⟩⟩
    · rw [QM y];have bb := Lh y;have ax := Lh al;have az := Lh am;have ha := n.out.1.alloc (.cells #[.int .i64 x] 3);have HA := Lh ha;have bl := ag.out.size;clear y al am ha ai;go_wp2_with (at_builtin; refine wpList_append_own_at _ rfl (.tmp 11) (.tmp 15) 22 rfl W.heap.size 3 i0 (.int .i64 0) 1 8 Tryz.underlying22 be bf bg bh rfl (by decide) v j.length (Qi j) rfl HA.out ⟨wa.heap.size, 0, none⟩ 1 1 (Qi [x]) rfl rfl (ZZ _ _ _) (Jg _) (by unfold maxLen; omega) (by omega) (by simp; omega) ?_)
      intro v' W3 ad hg _ a1;have b1 : Below wa.heap.size wa (wa.alloc (.cells #[.int .i64 x] 3)) := (Below.refl _ _).alloc (Nat.le_refl _) _;have t : ∀ g, v.ownBlock = some g → Far L u (wa.alloc (.cells #[.int .i64 x] 3)) g := fun g e => (n.out.2 g e).go (.below b1);have a4 := (aa.out.below HL.out b1).grown HL.out hg (fun g e => ⟨(t g e).lo, (t g e).ev⟩);have a2 := (ag.out.trans (.below b1)).more hg (fun g e => QB HA.out e)
      have ae : FOwn L u W3 W.heap.size v' (j ++ [x]) := by
       refine ⟨by rw [JO]; have a6 := ao.out; simpa [a6] using ad, fun g e => ?_⟩;rcases a1 with h1 | h1
       · have := t g (h1 ▸ e);exact ⟨this.lo, this.ev, Ld this.lt hg.size⟩
       · rw [h1] at e;injection e with e;have bo : (wa.alloc (.cells #[.int .i64 x] 3)).heap.size = wa.heap.size + 1 := by simp only [World.alloc, Array.size_push]
         have h3 := ad.lt g (by rw [h1, e]);refine ⟨by have := aa.out.size; omega, fun e2 => ?_, h3.2⟩;have := aa.out.evs.lt _ e2;omega
      have ah := Lh a4;have aw := Lh a2;have ab := Lh ae;clear ad hg a1 b1 t a4 a2 ae HA aa n ag;have c0 := ah.out.row.cellv (i := 0) (v := .slice L.p.ba L.p.body.length L.p.bcap) rfl;have aj := Lh (Jq L.p.ba L.p.bcap L.p.body (qk : Int) W3 (HL.out.pok _ ah.out.im).brd HL.out.blen);have bk : IntKind.i64.wrap ((k : Int) + 1) = (k : Int) + 1 := IntWalk.i64_in _ (by omega);go_wp2_with fail
      refine aj.out.mono ?_;rintro e w4 ⟨rfl, b4⟩;rw [Hz.out];have a9 := Lh (ah.out.below HL.out b4);have ar : RChg L u W3 u w4 := .below b4;have a8 := Lh (aw.out.trans ar);have an := Lh (ab.out.go HL.out ar);clear b4 ar ah aw ab c0 aj;go_wp2
      go_roundw
      case rel => exact ⟨k + 1, qk + ts[k].size, _, s1, u, j ++ [x], bi, rfl, rfl, rfl, by omega, ap, ax, bb, Lh (fun hz => by rw [← ay.out hz, az.out]; simp), a9, an, a8, Lh (by simp [ao.out])⟩
      case measure => simp [intOf]; omega
  · obtain rfl : k = ts.length := by omega
    have hch := l.out;rw [List.drop_length] at hch;obtain ⟨rfl, rfl⟩ := hch;obtain ⟨A, m, c, rfl⟩ := Jt r.out.1;have a0 : Hid (j = vs) := by have := ay.out Ho.out; rw [LU] at this; exact this
    clear a3 hk l d;go_wp2
    go_ret
    exact ⟨w, Hm.out, HC.out, .inr ⟨Ho.out, _, rfl, by rw [← a0.out]; exact r.out⟩⟩
end Go.Proofs.YtdcmppdhdcjpfaaGreat
