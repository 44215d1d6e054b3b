/- Lemmas for VerdictJustP. -/
import Derived.Test.YtdcmppdhdcjpfaaGreatZy1
import Derived.Test.YtdcmppdhdcjpfaaGreatZy14
import Derived.Test.YtdcmppdhdcjpfaaGreatZy3
import Derived.Test.YtdcmppdhdcjpfaaGreatZy10
import Derived.Test.YtdcmppdhdcjpfaaGreatZy11
set_option linter.unusedVariables false
set_option linter.unusedSimpArgs false
set_option maxRecDepth 100000
set_option maxHeartbeats 16000000
namespace Go.Proofs.YtdcmppdhdcjpfaaGreat
open Go.RowKit Go.Deep
attribute [local go_sem] Oper.semAt_some
theorem YI {w : World} {base n size m c : Nat} {e : TypeId} {A : Option Addr} {xs : List Value} (h : w.ownsRow base e size (.slice A m c) n xs) : Rd w A xs := by
 have r : xs.length = n * size := h.1;rcases h.2 with ⟨i, p⟩ | ⟨g, o, d, i, z, q, hc, hm, t, x⟩
 · have y : xs = [] := Lx (by rw [r, p, Nat.zero_mul]);subst y;exact Rd.nil _ _
 · injection i with i;subst i;refine fun j u k => ⟨_, rfl, ?_⟩
   have s : Row w g e d := q
   exact s.from_ 0 (cs := xs) (fun j v k => by
    rw [LJ, ← Ni]
    have l : (d.toList.take (n * size))[j]? = some v := by rw [x]; exact k
    rw [LP (by have := (La.1 k).1; omega)] at l; exact l) j u k
structure ListsFn (A : Option Addr) (n cap : Nat) (w w' : World) (e : Ending) : Prop where
 ex : ∃ bl, e = .returned (.func (.func 285) #[] #[.pointer (some ⟨bl, 0, none⟩)]) ∧ Row w' bl 23 #[.slice A n cap] ∧ w.heap.size ≤ bl ∧ Below w.heap.size w w'
theorem AcZ (A : Option Addr) (n cap : Nat) (w : World) :
 Calls Tryz.prog 268 #[.slice A n cap] w fun e w' => ListsFn A n cap w w' e := by
 go_enter Tryz.func268, Tryz.ntmps268
 go_wp2_with (refine Qn _ _ rfl ?_)
 refine Stop.to ?_;refine Qe rfl 23 _ rfl #[.slice A n cap] rfl ?_;intro G i d g c;have h := (Below.refl w.heap.size w).trans (c.mono d);clear c;go_wp2
 go_ret
 exact ⟨G, rfl, g, d, h⟩
def chC (c : Int × Int) : List Value := [.slice none 0 0, .int .i64 c.1, .int .i64 c.2]
def chZ (ls : List (Int × List Int)) : List (Int × Int) := ls.flatMap fun e => e.2.map fun n => (e.1, n)
theorem Abv : (Tryz.prog.info? 35).map (fun i => (i.zero, i.size, i.bytes)) = some (some (.agg #[.slice none 0 0, .int .i64 0, .int .i64 0]), 3, 40) := by kernel_rfl
theorem AcN : (Tryz.prog.info? 35).map (fun i => (i.zero, i.size)) = some (some (.agg #[.slice none 0 0, .int .i64 0, .int .i64 0]), 3) := by kernel_rfl
theorem Adf (but : Int) (l : List Int) : (JV but l).length ≤ l.length := Le (List.length_filter_le _ _) (E7 l)
theorem AbQ (lo hi but : Int) : (Jn lo hi but).length ≤ (hi + 1 - lo).toNat := AfB _ _ _
theorem VA (a b : List (Int × List Int)) : chZ (a ++ b) = chZ a ++ chZ b := by simp [chZ]
theorem Xj (o : Int) (l : List Int) : (chZ [(o, l)]).length = l.length := by simp [chZ]
theorem AgX (x y : Nd) : (chZ (Ki x y)).length ≤ 100 := by
 have j := AbQ 7 11 x.tag;have k := AbQ 12 17 x.tag;have l := AbQ 18 19 x.tag;have h := Adf x.n [0, 1, -1, wrap64 (x.n + 1), wrap64 (x.n - 1)]
 have m : (ZB y).length ≤ 2 := by
  unfold ZB;split
  · exact Adf _ _
  · simp
 simp only [Ld, Lp] at h;unfold Ki;rw [VA, VA, Lf, Lf];have d : ∀ (c : Prop) [Decidable c] (a b : List (Int × List Int)) (n : Nat), (chZ a).length ≤ n → (chZ b).length ≤ n → (chZ (if c then a else b)).length ≤ n := fun c _ a b n e g => by split <;> assumption
 have e := d (7 ≤ x.tag ∧ x.tag ≤ 11) [(1, Jn 7 11 x.tag)] _ 10 (by rw [Xj]; omega) (d (12 ≤ x.tag ∧ x.tag ≤ 17) [(2, Jn 12 17 x.tag)] _ 10 (by rw [Xj]; omega) (d (x.tag = 18 ∨ x.tag = 19) [(3, Jn 18 19 x.tag)] _ 10 (by rw [Xj]; omega) (d (x.tag = 1) [(4, JV x.n [0, 1, -1, wrap64 (x.n + 1), wrap64 (x.n - 1)])] _ 10 (by rw [Xj]; omega) (d (x.tag = 2) [(4, [wrap64 (1 - x.n)])] [] 10 (by rw [Xj]; simp) (by simp [chZ])))));have g := d (x.tag = 21 ∨ x.tag = 22 ∨ x.tag = 23 ∨ x.tag = 24 ∨ x.tag = 25) [(5, [0])] [] 10 (by rw [Xj]; simp) (by simp [chZ]);have i := d (x.tag = 23 ∨ x.tag = 24) [(6, [0])] _ 10 (by rw [Xj]; simp) (d (x.tag = 25) [(7, ZB y)] [] 10 (by rw [Xj]; omega) (by simp [chZ]));omega
theorem AiA (c : Int × Int) : ∀ u ∈ chC c, u.oneCell' = true := by
 intro u d;simp only [chC, Lt, L0, or_false] at d;rcases d with rfl | rfl | rfl <;> rfl
structure ChsR (cs : List (Int × Int)) (w w' : World) (e : Ending) : Prop where
 ex : ∃ v, e = .returned v ∧ w'.ownsRow w.heap.size 35 3 v cs.length (cs.flatMap chC) ∧ Below w.heap.size w w'
def ChZ (Rb lim : Nat) (k : Nat) (o : Obj) : Prop := k = Rb ∨ (lim ≤ k ∧ ∃ cs fr, o = .cells cs 35 fr)
theorem Aj5 {Rb lim L n : Nat} {W W' : World} {v : Value} {xs : List Value} (h : W.ownsRow lim 35 3 v n xs) (hg : W.grownBy W' v.ownBlock) : KpG (fun k o => ChZ Rb lim k o ∨ k = L) W W' := ⟨fun k o hx ho => by
 refine (hg.block k (Ln.1 ho).1 (fun e => hx (.inl (.inr ?_)))).trans ho
 rcases h.2 with ⟨rfl, _⟩ | ⟨g, c, cur, rfl, hb, hr, _⟩
 · cases e
 · injection e with e
   have e' : k = g := e
   subst e'
   rw [hr] at ho; injection ho with ho
   exact ⟨hb, _, _, ho.symm⟩, hg.size⟩
theorem Acv (A : Option Addr) (cap : Nat) (l : List Nd) (q : Nat) (t : Tr) (w : World) (hat : At l q t) (hr : Rd w A (l.flatMap Nd.cells)) (hl : l.length ≤ 1000) (hlc : l.length ≤ cap) (hcm : cap ≤ maxLen) (ht1 : 1 ≤ t.root.tag) (ht2 : t.root.tag ≤ 26) (h25 : t.root.tag = 25 → t.kids ≠ []) :
 Calls Tryz.prog 244 #[.slice A l.length cap, .int .i64 (q : Int)] w fun e w' => ChsR (chZ (Ki t.root (t.flat.tail.headD ⟨0, 0⟩))) w w' e := by
 have Hp := Lh (fun W h => AhS A cap l q t W hat h hl hlc hcm);have Hr := Lh hr;have b4 : t.flat.length ≠ 0 := by cases t; simp [Tr.flat]
 have a9 : t.flat = t.root :: t.flat.tail := by rw [t.flat_eq]; rfl
 have a2 := Lh a9;have bn := Lh ht1;have bo := Lh ht2
 have a1 : Hid (t.root.tag = 25 → t.flat.tail ≠ []) := fun h => by
  have := h25 h;rw [t.flat_eq];simp only [List.tail_cons];cases hk : t.kids with
  | nil => exact absurd hk this
  | cons k ks => have := Ui (k :: ks); intro e; rw [e] at this; simp at this
 have cb : (0 : Int) < (t.flat.length : Int) := by omega
 clear hat hr hl hlc hcm ht1 ht2 h25 b4 a9;refine (callsIn_wide (n := 0)).1 ?_;refine callsIn_of_wp_marks Tryz.func244 rfl trivial ?_;simp only [Tryz.ntmps244, Lj, Ld, Lp, Nat.reduceAdd, Nat.reduceSub, Ll, Lm, Lr, L2, Lo, Lk];gi_wp2_with fail
 obtain ⟨z, am⟩ : ∃ B, B = w.heap.size := ⟨_, rfl⟩;obtain ⟨w1, ao⟩ : ∃ w1, w1 = w.alloc (.cells #[.slice none 0 0] 28) := ⟨_, rfl⟩;have rR : Row w1 z 28 #[.slice none 0 0] := by rw [ao, am]; exact Row.new _ _ _
 have b1 : Below w.heap.size w w1 := by rw [ao]; exact (Below.refl _ _).alloc (Nat.le_refl _) _
 rw [← ao, ← am];have bt : w.heap.size ≤ z := LA am.symm;clear ao am;refine ⟨trivial, rfl, (callsIn_wide.2 (Hp.out w1 (Hr.out.go b1))).mono ?_⟩;rintro e w2 ⟨v2, rfl, aa, b2⟩;obtain ⟨A2, c2, rfl⟩ := Zi aa;have aq : Rd w2 A2 (t.flat.flatMap Nd.cells) := YI aa;have a7 : ∀ ad, A2 = some ad → z < ad.block := fun ad e => Lc rR.lt (QC aa (by rw [e]; rfl))
 replace rR := rR.below b2 rR.lt;have bb := b1.trans (b2.mono b1.size);have ce := rR.lt;clear b1 b2 aa Hp;gi_wp2_with fail
 refine ⟨trivial, rfl, (callsIn_wide.2 (AcZ A2 t.flat.length c2 w2)).mono ?_⟩;rintro e w3 ⟨bl, rfl, rl, gl, b3⟩;replace rR := rR.below b3 rR.lt;have bu : bl ≠ z := by omega
 replace bb := bb.trans (b3.mono bb.size)
 have hC : ListsC A2 c2 t.flat.length bl z t.root t.flat.tail (ChZ z w3.heap.size) w3 := ⟨rl, by rw [← a2.out]; exact aq.go b3, by rw [← a2.out], fun k o h1 s h => by
  rcases h with h | ⟨h, _⟩
  · exact s h
  · omega, bu, fun ad e => by have := a7 ad e; omega, fun k cs tt fr h1 s h => by
  rcases h with h | ⟨_, bq, br, h⟩
  · have := rR.lt; omega
  · injection h with _ h; subst h; rcases s with s | s | s | s <;> exact absurd s (by decide), a1.out⟩
 have ax := Lh (Aeu A2 c2 t.flat.length bl z t.root t.flat.tail (ChZ z w3.heap.size) w3 hC bn.out bo.out);have av := Lh bb;have a0 := rR;clear hC rl gl b3 bb aq a7 rR Hr a1;gi_wp2_with fail
 obtain ⟨ah, af⟩ : ∃ ah, ah = Ki t.root (t.flat.tail.headD ⟨0, 0⟩) := ⟨_, rfl⟩;have a8 : (chZ ah).length ≤ 100 := by rw [af]; exact AgX _ _
 rw [← af] at ax;have aw := Lh af;have bk := Lh a8;obtain ⟨d, ae⟩ : ∃ d, d = w3.heap.size := ⟨_, rfl⟩;have ap := Lh ae;have bs : z < d := by rw [ae]; exact a0.lt
 have al : w.heap.size ≤ d := by rw [ae]; exact av.out.size
 rw [← ae] at ax;have bi : Hid (∃ v, Row w3 z 28 #[v] ∧ w3.ownsRow d 35 3 v (chZ (([] : List LsX).map LsX.f)).length ((chZ (([] : List LsX).map LsX.f)).flatMap chC) ∧ Below w.heap.size w w3 ∧ d ≤ w3.heap.size) := ⟨_, a0, World.ownsRow_nil _ _ _ _, av.out, LA ae⟩;clear af a8 a0 av ae
 refine Ys (gf := 285) (lb := #[.pointer (some ⟨bl, 0, none⟩)]) rfl (enters_of Tryz.func285 (by kernel_rfl) rfl) ax.out (fun r h => h.elim)
  (fun h k => h.trans k) (fun V o o' ho hc => ⟨fun i p hx hp => by rw [World.putObj_heap_other (fun e => hx (.inr e))]; exact hp, by simp⟩) (World.grownBy.refl _ _) (fun _ => rfl)
  (fun g V => ∃ v, Row V z 28 #[v] ∧ V.ownsRow d 35 3 v (chZ (g.map LsX.f)).length ((chZ (g.map LsX.f)).flatMap chC) ∧ Below w.heap.size w V ∧ d ≤ V.heap.size) (fun _ _ _ => False) (.inr fun _ _ _ h => h) ?hI ?hIx bi.out
  (fun g x a' V => a' = { tmps := #[.slice A l.length cap, .int .i64 (q : Int), undef, undef, .slice none 0 0, .pointer (some ⟨z, 0, none⟩), .slice A2 t.flat.length c2, .int .i64 x.op, .slice x.A x.l.length x.cap, undef, undef, .slice A l.length cap, .int .i64 (q : Int), .slice A2 t.flat.length c2, .slice A2 t.flat.length c2, .int .i64 (t.flat.length : Int), .bool true, .slice A2 t.flat.length c2, .func (.func 285) #[] #[.pointer (some ⟨bl, 0, none⟩)], .int .i64 x.op, .slice x.A x.l.length x.cap, undef, undef, undef, undef, undef, undef, undef, undef, undef, undef, undef, undef, undef, undef], defers := [] } ∧ LsP ah g x V) ?hAx ?assign ?body ?done ?stop
 case hI =>
  rintro g X Y row ⟨v, h1, s, h3, h4⟩ hg hr
  have ar : ∀ r, row = some r → d ≤ r ∧ v.ownBlock ≠ some r := fun r e => by
   rcases hr r e with h | ⟨h, o, ho, hc⟩
   · exact h.elim
   · exact ⟨by have := ap.out; omega, Z1 s ho hc⟩
  refine ⟨v, h1.abide hg hr, s.kept hg ?_, h3.grown hg h3.size (fun k e => by have := (ar k e).1; omega), Le h4 hg.size⟩;cases row with
  | none => cases v.ownBlock <;> simp
  | some r => exact .inr (ar r rfl).2
 case hIx => exact fun _ _ _ _ _ h _ _ => h
 case hAx =>
  rintro g x a' _ V V' row ⟨h1, s, h3⟩ hg hr;refine ⟨h1, ⟨s.rd.grown hg (fun i e => ?_), s.nil, fun a e => ?_⟩, h3⟩
  · rcases hr i e with h | ⟨h, o⟩
    · exact h.elim
    · exact o
  · obtain ⟨cs, ac⟩ := s.ty a e;exact ⟨cs, ac.abide hg hr⟩
 case assign =>
  rintro l3 g x V K hI hP hK;have HK := Lh hK;have HI := Lh hI;have HP := Lh hP;clear hK hI hP;unfold LsX.enc;gi_wp2_with fail
  exact HK.out _ _ (KeepsFrom.refl _ _) (KpG.refl _ _) HI.out ⟨rfl, HP.out⟩
 case stop => exact fun D c g W _ _ h _ => h.elim
 case body =>
  rintro l3 g ⟨op, XA, xc, xl⟩ a' V bx aj ⟨v, h1, s, h3, h4⟩ ⟨rfl, az, cd, ag⟩ ba
  have cc : (chZ (g.map LsX.f)).length + xl.length ≤ 100 := by
   have := bk.out;rw [← ag] at this;simp only [chZ, L6, LC, Lf, LsX.f, L9] at this ⊢;omega
  have hZ : ∀ a, XA = some a → ∃ cs, Row V a.block 3 cs ∧ ¬ (ChZ z d a.block (.cells cs 3 (0, 0)) ∨ a.block = w3.heap.size + 1) := fun a e => by
   obtain ⟨cs, ac⟩ := az.ty a e;refine ⟨cs, ac, fun h => ?_⟩;have ab : V.heap[a.block]? = some (.cells cs 3 (0, 0)) := ac;rcases h with (h | ⟨_, bq, br, h⟩) | h
   · rw [h, show V.heap[z]? = some (.cells #[v] 28 (0, 0)) from h1] at ab;injection ab with ab; injection ab with _ ab; exact absurd ab (by decide)
   · injection h with _ h; exact absurd h (by decide)
   · obtain ⟨r, hr⟩ := aj;rw [h, ← bx, hr] at ab; cases ab
  have HZ := Lh hZ;have a5 := Lh az;have bm := Lh ag;clear hZ az ag ba aj;obtain ⟨i0, bw, b6, b7, b8⟩ := info_parts Abv;have ch : (xl.length : Int) ≤ 100 := by omega
  gi_wp2_with fail
  gi_loopw [23] (fun i wr => ∃ (k : Nat) (v : Value), i = .int .i64 (k : Int) ∧ k ≤ xl.length ∧ Row wr z 28 #[v] ∧ wr.ownsRow d 35 3 v (chZ (g.map LsX.f) ++ (xl.take k).map fun n => (op, n)).length ((chZ (g.map LsX.f) ++ (xl.take k).map fun n => (op, n)).flatMap chC) ∧ Below w.heap.size w wr ∧ d ≤ wr.heap.size ∧ KeepsFrom w3.heap.size V wr ∧ KpG (fun k o => ChZ z d k o ∨ k = w3.heap.size + 1) V wr) (fun i _ => xl.length - (intOf i).toNat)
  case atStart => exact ⟨0, v, rfl, Nat.zero_le _, h1, by simpa using s, h3, h4, KeepsFrom.refl _ _, KpG.refl _ _⟩
  case round =>
   clear h1 s h3 h4;obtain ⟨k, v, rfl, hk, h1, s, h3, h4, an, ai⟩ := hrel;by_cases bz : k < xl.length
   · obtain ⟨y, hy⟩ : ∃ y, xl[k]? = some y := ⟨_, Lb bz⟩;obtain ⟨xa, bd, _⟩ := Q9 a5.out.rd hy
     have bc : Rd wr XA (Qi xl) := fun j u hj => by
      obtain ⟨a, e, hc⟩ := a5.out.rd j u hj;obtain ⟨cs, ac, b5⟩ := HZ.out a e;exact ⟨a, e, (World.cell?_of_block (by rw [JI]; exact (ai.row ac b5).trans ac.symm)).trans hc⟩
     obtain ⟨xb, bf, ay⟩ := Q9 bc hy
     obtain rfl : xa = xb := by
      have be : XA = some xa := bd;have au : XA = some xb := bf;rw [be] at au; injection au
     clear bf;subst bd;have Hy := Lh hy;have ca : (k : Int) < (xl.length : Int) := by omega
     have hc := h1.cellv (i := 0) (v := v) rfl;have hf := h1.free 0;have bg : (xl.take (k + 1)).map (fun n => (op, n)) = (xl.take k).map (fun n => (op, n)) ++ [(op, y)] := by rw [LF, hy]; simp
     have b0 : (chZ (g.map LsX.f) ++ (xl.take k).map fun n => (op, n)).length ≤ 100 := by
      rw [Lf, L9, L4]; omega
     have a6 := Lh bg;generalize ac : chZ (g.map LsX.f) ++ (xl.take k).map (fun n => (op, n)) = cs at s b0;have bj := Lh ac;clear ac;have HA := Lh (s.alloc (.cells #[.slice none 0 0, .int .i64 op, .int .i64 y] 35));have H1 := Lh h1;have H2 := Lh s;have H3 := Lh h3;have H4 := Lh h4;have a3 := Lh an;have a4 := Lh ai;have bv : (wr.alloc (.cells #[.slice none 0 0, .int .i64 op, .int .i64 y] 35)).cell? ⟨z, 0, none⟩ = some v := (h1.alloc _).cellv (i := 0) rfl;have Hc := Lh ay;clear bc hy bg h1 s h3 h4 an ai;gi_wp2_with (gi_at_builtin; refine wpListIn_append_own_at _ rfl (.tmp 27) (.tmp 31) 28 rfl d 35 i0 (.agg #[.slice none 0 0, .int .i64 0, .int .i64 0]) 3 40 Tryz.underlying28 bw b6 b7 b8 rfl (by decide) v _ _ rfl HA.out ⟨wr.heap.size, 0, none⟩ 1 1 (chC (op, y)) rfl rfl (Z0 _ _ _) (AiA _) (by unfold maxLen; omega) (by omega) (by have := H4.out; simp; omega) ?_);intro v' W9 aa hg _ hat;have r9 := (H1.out.alloc (.cells #[.slice none 0 0, .int .i64 op, .int .i64 y] 35)).grown hg (Qz HA.out (H1.out.alloc _) (by decide));have b9 := QV (H3.out.alloc H3.out.size (.cells #[.slice none 0 0, .int .i64 op, .int .i64 y] 35)) HA.out hg (by have := H3.out.size; simp; omega) al;have k9 : KeepsFrom w3.heap.size V W9 := a3.out.trans ((KeepsFrom.alloc _ wr (.cells #[.slice none 0 0, .int .i64 op, .int .i64 y] 35)).trans (KeepsFrom.of_own HA.out hg));have p9 : KpG (fun k o => ChZ z d k o ∨ k = w3.heap.size + 1) V W9 := a4.out.trans ((KpG.of_below ((Below.refl _ wr).alloc (Nat.le_refl _) _)).trans (Aj5 HA.out hg));have s9 : d ≤ W9.heap.size := by have e1 := hg.size; have e2 := H4.out; rw [World.size_alloc] at e1; omega
     obtain ⟨A', m', c', rfl⟩ : ∃ A m c, v' = .slice A m c := Js aa;have cf := r9.cellv (i := 0) (v := v) rfl;have cg := r9.free 0;have nG := Qz aa r9 (by decide);have o4 := Zh W9 z 0 (.slice A' m' c');have ak := Qu aa o4 nG;have r4 := r9.set 0 (.slice A' m' c')
     have HF : Hid (Row (W9.setCell ⟨z, 0, none⟩ (.slice A' m' c')) z 28 #[.slice A' m' c'] ∧ (W9.setCell ⟨z, 0, none⟩ (.slice A' m' c')).ownsRow d 35 3 (.slice A' m' c') (chZ (g.map LsX.f) ++ (xl.take (k + 1)).map fun n => (op, n)).length ((chZ (g.map LsX.f) ++ (xl.take (k + 1)).map fun n => (op, n)).flatMap chC) ∧ Below w.heap.size w (W9.setCell ⟨z, 0, none⟩ (.slice A' m' c')) ∧ d ≤ (W9.setCell ⟨z, 0, none⟩ (.slice A' m' c')).heap.size ∧ KeepsFrom w3.heap.size V (W9.setCell ⟨z, 0, none⟩ (.slice A' m' c')) ∧ KpG (fun k o => ChZ z d k o ∨ k = w3.heap.size + 1) V (W9.setCell ⟨z, 0, none⟩ (.slice A' m' c'))) := by
      refine ⟨r4, ?_, Qo b9 o4 bt, Le s9 (LA o4.size.symm), k9.trans (KeepsFrom.of_only r9 o4), p9.trans ⟨fun i o hx ho => by rw [o4.block i (fun e => hx (.inl (.inl e)))]; exact ho, LA o4.size.symm⟩⟩;rw [a6.out, ← Lz, bj.out, Lf, L6, List.flatMap_singleton];exact ak
     clear aa hg hat r9 b9 k9 p9 nG o4 ak r4 hc hf bv HA H1 H2 H3 H4 a3 a4 a6;gi_wp2_with fail
     go_roundw
     case rel => exact ⟨k + 1, _, by go_num, by omega, HF.out⟩
     case measure => simp [intOf]; omega
   · obtain rfl : k = xl.length := by omega
     rw [LS] at s
     have HF : Hid (KeepsFrom w3.heap.size V wr ∧ KpG (fun k o => ChZ z d k o ∨ k = w3.heap.size + 1) V wr ∧ ∃ v, Row wr z 28 #[v] ∧ wr.ownsRow d 35 3 v (chZ ((g ++ [(⟨op, XA, xc, xl⟩ : LsX)]).map LsX.f)).length ((chZ ((g ++ [(⟨op, XA, xc, xl⟩ : LsX)]).map LsX.f)).flatMap chC) ∧ Below w.heap.size w wr ∧ d ≤ wr.heap.size) := ⟨an, ai, v, h1, by
      have e : chZ ((g ++ [(⟨op, XA, xc, xl⟩ : LsX)]).map LsX.f) = chZ (g.map LsX.f) ++ xl.map fun n => (op, n) := by rw [Nk, VA]; simp [chZ, LsX.f]
      rw [e]; exact s, h3, h4⟩
     clear h1 s h3 h4 an ai;gi_wp2_with fail
     exact HF.out
 case done =>
  rintro D ys W hD bh ⟨v, h1, s, h3, h4⟩ hK;obtain ⟨A9, c9, rfl⟩ := Zi s;have hc := h1.cellv (i := 0) rfl;have HK := Lh hK;have H2 := Lh s;have H3 := Lh h3;have bp := Lh bh;clear hK h1 s h3 bh;gi_wp2;refine ⟨by simp, .inl ⟨_, _, rfl, run_takeDeferred HK.out, ?_⟩⟩;refine ⟨_, results_tmp rfl _ _ _, _, rfl, ?_, H3.out.grown (grownBy_putObj' _ _ _) H3.out.size (fun k e => by cases e; have := ap.out; omega)⟩;rw [← aw.out, ← bp.out];exact QL ((H2.out.kept (grownBy_putObj' _ _ _) (.inr (Z1 H2.out HK.out rfl)))) al
end Go.Proofs.YtdcmppdhdcjpfaaGreat
namespace Go.Proofs.YtdcmppdhdcjpfaaGreat
open Go.RowKit
def YL (x y : Nd) (op : Int) : List Int := (Va x).filter (isC x y op)
def U9 (op : Int) (l : List Int) : List (Int × Int) := l.map fun n => (op, n)
theorem Aaj (x y : Nd) : ZM x y = U9 1 (YL x y 1) ++ (U9 2 (YL x y 2) ++ (U9 3 (YL x y 3) ++ (U9 4 (YL x y 4) ++ (U9 5 (YL x y 5) ++ (U9 6 (YL x y 6) ++ U9 7 (YL x y 7)))))) := by
 unfold ZM;rw [show ((List.range 7).map fun i : Nat => (i : Int) + 1) = [1, 2, 3, 4, 5, 6, 7] from by decide];simp only [LC, List.flatMap_nil, LU];rfl
theorem YT {x y : Nd} {op : Int} {L : List Int} (h2 : x.tag = 2 → x.n = 0 ∨ x.n = 1) (hr : JR L) (hm : ∀ n, n ∈ L ↔ isC x y op n = true) : YL x y op = L :=
 U4 (JN _ (Xe _)) hr fun n => by
  unfold YL
  rw [Na, hm]
  exact ⟨fun h => h.2, fun h => ⟨AaT h h2, h⟩⟩
theorem U5 (lo hi but : Int) : JR (Jn lo hi but) := by
 refine JN _ (EO ?_);rw [N9];exact List.pairwise_lt_range.imp fun {i j} h => by show lo + (i : Int) < lo + (j : Int); omega
theorem ET {lo hi but n : Int} : n ∈ Jn lo hi but ↔ lo ≤ n ∧ n ≤ hi ∧ n ≠ but := by
 unfold Jn Uy;rw [Na, LN];constructor
 · rintro ⟨⟨i, hi, rfl⟩, h⟩;rw [N2] at hi;have c : lo + (i : Int) ≠ but := by simpa using h
   exact ⟨by omega, by omega, c⟩
 · rintro ⟨e, g, d⟩;refine ⟨⟨(n - lo).toNat, N2.2 (by omega), by omega⟩, by simpa using d⟩
theorem EE (but : Int) (l : List Int) : JR (JV but l) := JN _ (Xe _)
theorem Aa4 {but n : Int} {l : List Int} : n ∈ JV but l ↔ n ∈ l ∧ n ≠ but := by
 unfold JV;rw [Na, KV];simp
theorem Akm {x y : Nd} (h2 : x.tag = 2 → x.n = 0 ∨ x.n = 1) : YL x y 1 = if 7 ≤ x.tag ∧ x.tag ≤ 11 then Jn 7 11 x.tag else [] := by
 refine YT h2 (by split; exact U5 _ _ _; trivial) fun n => ?_
 show _ ↔ decide _ = true;rw [decide_eq_true_eq];split
 · rw [ET]; omega
 · simp; omega
theorem Akn {x y : Nd} (h2 : x.tag = 2 → x.n = 0 ∨ x.n = 1) : YL x y 2 = if 12 ≤ x.tag ∧ x.tag ≤ 17 then Jn 12 17 x.tag else [] := by
 refine YT h2 (by split; exact U5 _ _ _; trivial) fun n => ?_
 show _ ↔ decide _ = true;rw [decide_eq_true_eq];split
 · rw [ET]; omega
 · simp; omega
theorem Ako {x y : Nd} (h2 : x.tag = 2 → x.n = 0 ∨ x.n = 1) : YL x y 3 = if x.tag = 18 ∨ x.tag = 19 then Jn 18 19 x.tag else [] := by
 refine YT h2 (by split; exact U5 _ _ _; trivial) fun n => ?_
 show _ ↔ decide _ = true;rw [decide_eq_true_eq];split
 · rw [ET]; omega
 · simp; omega
theorem Akp {x y : Nd} (h2 : x.tag = 2 → x.n = 0 ∨ x.n = 1) : YL x y 4 = if x.tag = 1 then JV x.n [0, 1, -1, wrap64 (x.n + 1), wrap64 (x.n - 1)] else if x.tag = 2 then [wrap64 (1 - x.n)] else [] := by
 refine YT h2 (by split; exact EE _ _; split <;> trivial) fun n => ?_
 show _ ↔ decide _ = true;rw [decide_eq_true_eq];split
 · rw [Aa4]; simp only [Lt, L0, or_false]; omega
 · split
   · simp only [Lt, L0, or_false]; omega
   · simp only [L0, false_iff]; omega
theorem Akq {x y : Nd} (h2 : x.tag = 2 → x.n = 0 ∨ x.n = 1) : YL x y 5 = if x.tag = 21 ∨ x.tag = 22 ∨ x.tag = 23 ∨ x.tag = 24 ∨ x.tag = 25 then [0] else [] := by
 refine YT h2 (by split <;> trivial) fun n => ?_
 show _ ↔ decide _ = true;rw [decide_eq_true_eq];split
 · simp only [Lt, L0, or_false]; omega
 · simp only [L0, false_iff]; omega
theorem Akr {x y : Nd} (h2 : x.tag = 2 → x.n = 0 ∨ x.n = 1) : YL x y 6 = if x.tag = 23 ∨ x.tag = 24 then [0] else [] := by
 refine YT h2 (by split <;> trivial) fun n => ?_
 show _ ↔ decide _ = true;rw [decide_eq_true_eq];split
 · simp only [Lt, L0, or_false]; omega
 · simp only [L0, false_iff]; omega
theorem Aks {x y : Nd} (h2 : x.tag = 2 → x.n = 0 ∨ x.n = 1) : YL x y 7 = if x.tag = 25 then ZB y else [] := by
 have c : JR (ZB y) := by
  unfold ZB;split
  · exact EE _ _
  · exact ⟨by omega, trivial⟩
 refine YT h2 (by split; exact c; trivial) fun n => ?_
 show _ ↔ decide _ = true;rw [decide_eq_true_eq];split
 · unfold ZB;split
   · rw [Aa4]; simp only [Lt, L0, or_false]; omega
   · simp only [Lt, L0, or_false]; omega
 · simp only [L0, false_iff]; omega
theorem AgY (o : Int) (l : List Int) : chZ [(o, l)] = U9 o l := by simp [chZ, U9]
theorem AiC (c : Prop) [Decidable c] (a b : List (Int × List Int)) : chZ (if c then a else b) = if c then chZ a else chZ b := by split <;> rfl
theorem Ah8 (c : Prop) [Decidable c] (o : Int) (a b : List Int) : U9 o (if c then a else b) = if c then U9 o a else U9 o b := by split <;> rfl
theorem Ah9 (o : Int) : U9 o [] = [] := rfl
theorem Ew {x y : Nd} (h2 : x.tag = 2 → x.n = 0 ∨ x.n = 1) : chZ (Ki x y) = ZM x y := by
 rw [Aaj, Akm h2, Akn h2, Ako h2, Akp h2, Akq h2, Akr h2, Aks h2];unfold Ki;have k : chZ [] = [] := rfl;simp only [VA, AiC, AgY, Ah8, Ah9, k];by_cases j : x.tag = 25
 · have e : ¬ (7 ≤ x.tag ∧ x.tag ≤ 11) := by omega
   have d : ¬ (12 ≤ x.tag ∧ x.tag ≤ 17) := by omega
   have c : ¬ (x.tag = 18 ∨ x.tag = 19) := by omega
   have g : ¬ (x.tag = 1) := by omega
   have h : ¬ (x.tag = 2) := by omega
   have i : ¬ (x.tag = 23 ∨ x.tag = 24) := by omega
   rw [if_neg e, if_neg d, if_neg c, if_neg g, if_neg h, if_neg i, if_pos j, if_neg e, if_neg d, if_neg c, if_neg i];simp
 · rw [if_neg j];by_cases e : 7 ≤ x.tag ∧ x.tag ≤ 11
   · have d : ¬ (12 ≤ x.tag ∧ x.tag ≤ 17) := by omega
     have c : ¬ (x.tag = 18 ∨ x.tag = 19) := by omega
     have g : ¬ (x.tag = 1) := by omega
     have h : ¬ (x.tag = 2) := by omega
     simp only [if_pos e, if_neg d, if_neg c, if_neg g, if_neg h];simp
   by_cases d : 12 ≤ x.tag ∧ x.tag ≤ 17
   · have c : ¬ (x.tag = 18 ∨ x.tag = 19) := by omega
     have g : ¬ (x.tag = 1) := by omega
     have h : ¬ (x.tag = 2) := by omega
     simp only [if_neg e, if_pos d, if_neg c, if_neg g, if_neg h];simp
   by_cases c : x.tag = 18 ∨ x.tag = 19
   · have g : ¬ (x.tag = 1) := by omega
     have h : ¬ (x.tag = 2) := by omega
     simp only [if_neg e, if_neg d, if_pos c, if_neg g, if_neg h];simp
   simp only [if_neg e, if_neg d, if_neg c];simp
theorem AkA {x y z : Nd} (h : x.tag ≠ 25) (op n : Int) : isC x y op n = isC x z op n := by
 unfold isC;have e : decide (x.tag = 25 ∧ (n = 0 ∨ n = 1) ∧ ¬ (y.tag = 1 ∧ y.n = n)) = decide (x.tag = 25 ∧ (n = 0 ∨ n = 1) ∧ ¬ (z.tag = 1 ∧ z.n = n)) := by simp [h]
 rw [e]
theorem Aea {x y z : Nd} (h : x.tag ≠ 25) : ZM x y = ZM x z := by
 unfold ZM;have e : ∀ c, isC x y c = isC x z c := fun c => funext fun n => AkA h c n
 simp only [e]
theorem Aia {x : Nd} (h : ¬ Qx x < 0) : 1 ≤ x.tag ∧ x.tag ≤ 26 := by
 by_cases k : 1 ≤ x.tag ∧ x.tag ≤ 26
 · exact k
 · exact absurd (Aay (t := x.tag) (n := x.n) k) (fun e => h (by have : Qx x = -1 := e; omega))
theorem Ajv {x : Nd} (h : ¬ Qx x < 0) (h2 : x.tag = 2) : x.n = 0 ∨ x.n = 1 := by
 obtain ⟨t, n⟩ := x;simp only at h2;subst h2;unfold Qx at h;simp only [Q3] at h;by_cases k : n < 0 ∨ 1 < n
 · exfalso; apply h; simp; omega
 · show n = 0 ∨ n = 1; omega
theorem Aaz {x : Nd} (h : ¬ Qx x < 0) (h2 : x.tag = 25) : Qx x = 1 := by
 obtain ⟨t, n⟩ := x;simp only at h2;subst h2;unfold Qx at h ⊢;simp only [Q3] at h ⊢;by_cases k : n < 0 ∨ 0 < n
 · exfalso; apply h; simp; omega
 · simp; omega
theorem At.second {l : List Nd} {q : Nat} {t : Tr} (h : At l q t) (hk : t.kids ≠ []) : UW l (q + 1) = t.flat.tail.headD ⟨0, 0⟩ := by
 obtain ⟨g, e⟩ := h.here;have c := t.flat_eq
 have d : QJ t.kids ≠ [] := by
  cases hk2 : t.kids with
  | nil => exact absurd hk2 hk
  | cons k ks => have := Ui (k :: ks); intro e; rw [e] at this; simp at this
 have i : l[q + 1]? = (l.drop q)[1]? := by rw [Nx]
 unfold UW;rw [i, e, c];cases hf : QJ t.kids with
 | nil => exact absurd hf d
 | cons y ys => simp
theorem Agi {l : List Nd} {q : Nat} {t : Tr} (h : At l q t) : UW l q = t.root := by unfold UW; rw [h.root]; rfl
theorem VT {l : List Nd} {q : Nat} {t : Tr} (h : At l q t) (ha : ¬ Qx t.root < 0) : chZ (Ki t.root (t.flat.tail.headD ⟨0, 0⟩)) = ZK l q := by
 rw [Ew (Ajv ha)];unfold ZK;rw [Agi h];by_cases c : t.root.tag = 25
 · have g : t.kids ≠ [] := fun e => by
    have d := h.fits.arity;rw [Aaz ha c, e] at d;simp at d
   rw [h.second g]
 · exact Aea c
theorem Ahv {l : List Nd} {q : Nat} {t : Tr} (h : At l q t) (ha : ¬ Qx t.root < 0) (h25 : t.root.tag = 25) : t.kids ≠ [] := fun e => by
 have c := h.fits.arity;rw [Aaz ha h25, e] at c;simp at c
end Go.Proofs.YtdcmppdhdcjpfaaGreat
namespace Go.Proofs.YtdcmppdhdcjpfaaGreat
open Go.RowKit Go.Deep
def Ug (l : List DlV) : List Value := l.flatMap fun x => x.cells.toList
theorem AjK {W : World} {A : Option Addr} {l : List DlV} (hr : Rd W A (Ug l)) {k : Nat} {x : DlV} (hx : l[k]? = some x) : ∃ ad, A = some ad ∧ ∀ (j : Nat) (u : Value), x.cells.toList[j]? = some u → W.cell? ((ad.add (k * 3)).add j) = some u :=
 Afa (c := fun x : DlV => x.cells.toList) (sz := 3) (fun _ => rfl) (by decide) hr hx
instance St.dlok_all {l : List DlV} : St (fun W => ∀ x ∈ l, DlOk W x) := ⟨fun h b x hx => (h x hx).go b⟩
def Akh (l : List DlV) (d : Dl) (e : Ending) : Prop := ∃ r : Int, e = .returned (.int .i64 r) ∧ (0 ≤ r ↔ d ∈ l.map fun x => x.d)
theorem AcG (A : Option Addr) (cap : Nat) (l : List DlV) (y : DlV) (w : World) (hr : Rd w A (Ug l)) (hl : l.length ≤ 1000000) (hok : ∀ x ∈ l, DlOk w x) (hy : DlOk w y) (hrise : YM (l.map fun x => x.d)) :
 Calls Tryz.prog 54 #[.slice A l.length cap, .agg y.cells] w fun e w' => Akh l y.d e ∧ Below w.heap.size w w' := by
 have ap : (l.length : Int) ≤ 1000000 := by omega
 have o := Lh hrise;clear hl hrise;go_enter Tryz.func54, Tryz.ntmps54
 go_wp2_with (refine Qn _ _ rfl ?_)
 refine Stop.to ?_;refine Qe rfl 35 _ rfl y.cells rfl ?_;intro G Gw Gh Gr Gb;have z := (Below.refl w.heap.size w).trans (Gb.mono Gh);obtain ⟨S, g⟩ : ∃ S, S = (fun W => (Row W G 35 y.cells ∧ Rd W A (Ug l)) ∧ ((∀ x ∈ l, DlOk W x) ∧ (∀ x ∈ [y], DlOk W x)) ∧ Below w.heap.size w W) := ⟨_, rfl⟩;have aw : St S := by rw [g]; infer_instance
 have T0 : Hid (∀ W, S W → Row W G 35 y.cells) := by show ∀ W, _; rw [g]; exact fun W h => h.1.1
 have T1 : Hid (∀ W, S W → Rd W A (Ug l)) := by show ∀ W, _; rw [g]; exact fun W h => h.1.2
 have T2 : Hid (∀ W, S W → ∀ x ∈ l, DlOk W x) := by show ∀ W, _; rw [g]; exact fun W h => h.2.1.1
 have T3 : Hid (∀ W, S W → DlOk W y) := by show ∀ W, _; rw [g]; exact fun W h => h.2.1.2 y (by simp)
 have T4 : Hid (∀ W, S W → Below w.heap.size w W) := by show ∀ W, _; rw [g]; exact fun W h => h.2.2
 have p : S Gw := by rw [g]; exact ⟨⟨Gr, hr.go z⟩, ⟨fun x q => (hok x q).go z, fun x q => by rw [Ls.1 q]; exact hy.go z⟩, z⟩
 clear g Gr Gb Gh z hr hok hy;go_wp2_with fail
 go_step3
 go_wp2_with fail
 go_step3
 go_wp2_with fail
 go_loopw [5, 6, 7] (fun a b f wr => ∃ n hi : Nat, a = .int .i64 (n : Int) ∧ b = .int .i64 (hi : Int) ∧ f = .int .i64 (-1) ∧ n ≤ hi ∧ hi ≤ l.length ∧ Hid (∀ i : Nat, (l.map fun x => x.d)[i]? = some y.d → n ≤ i ∧ i < hi) ∧ S wr) (fun a b _ _ => (intOf b - intOf a).toNat)
 case atStart => exact ⟨0, l.length, rfl, rfl, rfl, Nat.zero_le _, Nat.le_refl _, Lh (fun i hi => ⟨Nat.zero_le _, by have := (La.1 hi).1; simpa using this⟩), p⟩
 case round =>
  clear p;obtain ⟨n, hi, rfl, rfl, rfl, aq, aj, s, p⟩ := hrel;by_cases ac : n < hi;rotate_left
  · have ao : ¬ ((n : Int) < (hi : Int)) := by omega
    have ah : Hid (y.d ∉ l.map fun x => x.d) := fun hm => by
     obtain ⟨i, k⟩ := List.getElem?_of_mem hm;have := s.out i k;omega
    clear ac;go_wp2_with fail
    try rw [Exit.noGoto_ret]
    go_ret
    exact ⟨⟨-1, rfl, by simp; exact fun x q e => ah.out (LN.2 ⟨x, q, e⟩)⟩, T4.out _ p⟩
  obtain ⟨d, hd⟩ : ∃ d : Nat, d = (hi - n) / 2 := ⟨_, rfl⟩;have an : ((hi : Int) - (n : Int)) / 2 = (d : Int) := by omega
  obtain ⟨m, hm⟩ : ∃ m : Nat, m = n + d := ⟨_, rfl⟩;have au : (n : Int) + (d : Int) = (m : Int) := by omega
  have ae : n ≤ m ∧ m < hi := by omega
  obtain ⟨x, q⟩ : ∃ x, l[m]? = some x := ⟨_, Lb (by omega)⟩;obtain ⟨ad, aa, _⟩ := AjK (T1.out _ p) q
  have Hc : Hid (∀ W, S W → ∀ (j : Nat) (u : Value), x.cells.toList[j]? = some u → W.cell? ((ad.add (m * 3)).add j) = some u) := fun W h => by
   obtain ⟨am, e1, e2⟩ := AjK (T1.out W h) q;rw [aa] at e1; injection e1 with e1; subst e1; exact e2
  have Hx := Lh q;have ak : (n : Int) < (hi : Int) := by omega
  have av : 0 ≤ (hi : Int) - (n : Int) := by omega
  have al : (m : Int) < (l.length : Int) := by omega
  have v := Lh (Lg q);clear hd hm ac q;subst aa;go_wp2_with fail
  refine Jl S (by kernel_rfl) (by kernel_rfl) (St.drew p) ?_;clear p
  iterate 3 (refine Qg rfl ?_ (fun W t => ?_) ?_; rotate_left; (focus (go_simp; exact rfl)); simp only [Act.put, Qa, Qb, Qc])
  (refine ZA rfl 35 _ rfl ((ad.add (m * 3))) rfl x.cells.toList _ Hc.out Tryz.underlying35 rfl (by kernel_rfl) ?_; simp only [Act.put, Qa, Qb, Qc]);(refine QA rfl 35 _ rfl (G) rfl 35 _ _ (fun W t => T0.out W t) Tryz.underlying35 rfl (by kernel_rfl) ?_; simp only [Act.put, Qa, Qb, Qc]);(refine QI rfl 80 _ (fun W => by (go_simp; try rfl)) (.int .i64 (Jv x.d y.d)) (fun W t => AaJ x y W (T2.out W t x v.out) (T3.out W t)) ?_; simp only [Act.put, Qa, Qb, Qc])
  (refine Qg rfl ?_ (fun W t => ?_) ?_; rotate_left; (focus (go_simp; exact rfl)); simp only [Act.put, Qa, Qb, Qc]);refine QG fun W p => ?_
  have ab := AiE x.d y.d;have Hm : Hid ((l.map fun x => x.d)[m]? = some x.d) := Lh (by simp [Hx.out]);obtain ⟨c, hc⟩ : ∃ c, c = Jv x.d y.d := ⟨_, rfl⟩;have r := Lh hc;rw [← hc] at ab;rw [← hc];clear hc;rcases ab with rfl | rfl | rfl
  · have ag := Lh (Ajm o.out Hm.out (d := y.d) (by have := r.out; omega));have ar : (m : Int) < 1000000 := by omega
    go_wp2_with fail
    refine ⟨⟨m + 1, hi, by simp, rfl, rfl, ae.2, aj, Lh (fun i k => ⟨ag.out i k, (s.out i k).2⟩), p⟩, ?_⟩;simp only [intOf]; omega
  · have ai : x.d = y.d := cmpD_eq.1 r.out.symm;go_wp2_with fail
    try rw [Exit.noGoto_ret]
    go_ret
    exact ⟨⟨m, rfl, by simp only [Int.natCast_nonneg, true_iff]; rw [← ai]; exact Lg Hm.out⟩, T4.out _ p⟩
  · have af := Lh (Ajl o.out Hm.out (d := y.d) (by have := r.out; omega));go_wp2_with fail
    refine ⟨⟨n, m, rfl, rfl, rfl, ae.1, by omega, Lh (fun i k => ⟨(s.out i k).1, af.out i k⟩), p⟩, ?_⟩;simp only [intOf]; omega
end Go.Proofs.YtdcmppdhdcjpfaaGreat
