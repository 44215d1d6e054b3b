/- Lemmas for RunnerJustP. -/
import Derived.Test.YtkoikjnlpifbjaaGreatZb1
import Derived.Test.YtkoikjnlpifbjaaGreatZb15
import Derived.Test.YtkoikjnlpifbjaaGreatZb5
import Derived.Test.YtkoikjnlpifbjaaGreatZb11
import Derived.Test.YtkoikjnlpifbjaaGreatZb13
import Derived.Test.YtkoikjnlpifbjaaGreatZb8
import Derived.Test.YtkoikjnlpifbjaaGreatZb12
set_option linter.unusedVariables false
set_option linter.unusedSimpArgs false
set_option maxRecDepth 100000
set_option maxHeartbeats 16000000
namespace Go.Proofs.YtkoikjnlpifbjaaGreat
open Go.RowKit Go.Deep
attribute [local go_sem] Oper.semAt_some
theorem Kv {w : World} {base n size m c : Nat} {e : TypeId} {A : Option Addr} {xs : List Value} (h : w.ownsRow base e size (.slice A m c) n xs) : Rd w A xs := by
 have q : xs.length = n * size := h.1;rcases h.2 with ⟨d, o⟩ | ⟨g, l, b, d, z, p, hc, hm, t, x⟩
 · have y : xs = [] := L0 (by rw [q, o, Nat.zero_mul]);subst y;exact Rd.nil _ _
 · injection d with d;subst d;refine fun j u i => ⟨_, rfl, ?_⟩
   have s : Row w g e b := p
   exact s.from_ 0 (cs := xs) (fun j v i => by
    rw [LN, ← Nk]
    have k : (b.toList.take (n * size))[j]? = some v := by rw [x]; exact i
    rw [LV (by have := (Ld.1 i).1; omega)] at k; exact k) j u i
theorem YR {w : World} {base n size : Nat} {e : TypeId} {v : Value} {xs : List Value} (h : w.ownsRow base e size v n xs) : ∃ A cap, v = .slice A n cap ∧ Rd w A xs ∧ n ≤ cap ∧ cap ≤ maxLen ∧ (A = none → cap = 0) ∧ ∀ ad, A = some ad → base ≤ ad.block := by
 obtain ⟨A, cap, rfl⟩ := Zj h;refine ⟨A, cap, rfl, Kv h, ?_⟩;rcases h.2 with ⟨b, l⟩ | ⟨g, c, d, b, i, _, j, k, _⟩
 · injection b with e3 e4 e5;subst e3 e5;exact ⟨by omega, by unfold maxLen; omega, fun _ => rfl, fun ad e => by cases e⟩
 · injection b with e3 e4 e5;subst e3 e5;exact ⟨j, k, fun e => (by cases e), fun ad e => by cases e; exact i⟩
structure ListsFn (A : Option Addr) (n cap : Nat) (w w' : World) (e : Ending) : Prop where
 ex : ∃ bl, e = .returned (.func (.func 210) #[] #[.pointer (some ⟨bl, 0, none⟩)]) ∧ Row w' bl 23 #[.slice A n cap] ∧ w.heap.size ≤ bl ∧ Below w.heap.size w w'
theorem Adj (A : Option Addr) (n cap : Nat) (w : World) :
 Calls Tryz.prog 193 #[.slice A n cap] w fun e w' => ListsFn A n cap w w' e := by
 go_enter Tryz.func193, Tryz.ntmps193
 go_wp2_with (refine Qm _ _ rfl ?_)
 refine Stop.to ?_;refine Qe rfl 23 _ rfl #[.slice A n cap] rfl ?_;intro G h c d b;have g := (Below.refl w.heap.size w).trans (b.mono c);clear b;go_wp2
 go_ret
 exact ⟨G, rfl, d, c, g⟩
def chC (c : Int × Int) : List Value := [.slice none 0 0, .int .i64 c.1, .int .i64 c.2]
def chZ (ls : List (Int × List Int)) : List (Int × Int) := ls.flatMap fun e => e.2.map fun n => (e.1, n)
theorem AbL : (Tryz.prog.info? 50).map (fun i => (i.zero, i.size, i.bytes)) = some (some (.agg #[.slice none 0 0, .int .i64 0, .int .i64 0]), 3, 40) := by kernel_rfl
theorem Ac3 : (Tryz.prog.info? 50).map (fun i => (i.zero, i.size)) = some (some (.agg #[.slice none 0 0, .int .i64 0, .int .i64 0]), 3) := by kernel_rfl
theorem AdF (but : Int) (l : List Int) : (JX but l).length ≤ l.length := Li (N2 _ _) (Aai l)
theorem Ab2 (lo hi but : Int) : (Jy lo hi but).length ≤ (hi + 1 - lo).toNat := AfS _ _ _
theorem VI (a b : List (Int × List Int)) : chZ (a ++ b) = chZ a ++ chZ b := by simp [chZ]
theorem Xo (o : Int) (l : List Int) : (chZ [(o, l)]).length = l.length := by simp [chZ]
theorem Ahb (x y : Nd) : (chZ (Ke x y)).length ≤ 100 := by
 have j := Ab2 7 11 x.tag;have k := Ab2 12 17 x.tag;have l := Ab2 18 19 x.tag;have h := AdF x.n [0, 1, -1, wrap64 (x.n + 1), wrap64 (x.n - 1)]
 have m : (ZD y).length ≤ 2 := by
  unfold ZD;split
  · exact AdF _ _
  · simp
 simp only [Le, Lu] at h;unfold Ke;rw [VI, VI, Lf, Lf];have d : ∀ (c : Prop) [Decidable c] (a b : List (Int × List Int)) (n : Nat), (chZ a).length ≤ n → (chZ b).length ≤ n → (chZ (if c then a else b)).length ≤ n := fun c _ a b n e g => by split <;> assumption
 have e := d (7 ≤ x.tag ∧ x.tag ≤ 11) [(1, Jy 7 11 x.tag)] _ 10 (by rw [Xo]; omega) (d (12 ≤ x.tag ∧ x.tag ≤ 17) [(2, Jy 12 17 x.tag)] _ 10 (by rw [Xo]; omega) (d (x.tag = 18 ∨ x.tag = 19) [(3, Jy 18 19 x.tag)] _ 10 (by rw [Xo]; omega) (d (x.tag = 1) [(4, JX x.n [0, 1, -1, wrap64 (x.n + 1), wrap64 (x.n - 1)])] _ 10 (by rw [Xo]; omega) (d (x.tag = 2) [(4, [wrap64 (1 - x.n)])] [] 10 (by rw [Xo]; simp) (by simp [chZ])))));have g := d (x.tag = 21 ∨ x.tag = 22 ∨ x.tag = 23 ∨ x.tag = 24 ∨ x.tag = 25) [(5, [0])] [] 10 (by rw [Xo]; simp) (by simp [chZ]);have i := d (x.tag = 23 ∨ x.tag = 24) [(6, [0])] _ 10 (by rw [Xo]; simp) (d (x.tag = 25) [(7, ZD y)] [] 10 (by rw [Xo]; omega) (by simp [chZ]));omega
theorem Ai2 (c : Int × Int) : ∀ u ∈ chC c, u.oneCell' = true := by
 intro u b;simp only [chC, L2, L9, or_false] at b;rcases b with rfl | rfl | rfl <;> rfl
structure ChsR (cs : List (Int × Int)) (w w' : World) (e : Ending) : Prop where
 ex : ∃ v, e = .returned v ∧ w'.ownsRow w.heap.size 50 3 v cs.length (cs.flatMap chC) ∧ Below w.heap.size w w'
def ChZ (Rb lim : Nat) (k : Nat) (o : Obj) : Prop := k = Rb ∨ (lim ≤ k ∧ ∃ cs fr, o = .cells cs 50 fr)
theorem Akm {Rb lim L n : Nat} {W W' : World} {v : Value} {xs : List Value} (h : W.ownsRow lim 50 3 v n xs) (hg : W.grownBy W' v.ownBlock) : KpG (fun k o => ChZ Rb lim k o ∨ k = L) W W' := ⟨fun k o hx ho => by
 refine (hg.block k (Lt.1 ho).1 (fun e => hx (.inl (.inr ?_)))).trans ho
 rcases h.2 with ⟨rfl, _⟩ | ⟨g, c, cur, rfl, hb, hr, _⟩
 · cases e
 · injection e with e
   have e' : k = g := e
   subst e'
   rw [hr] at ho; injection ho with ho
   exact ⟨hb, _, _, ho.symm⟩, hg.size⟩
theorem AcM (A : Option Addr) (cap : Nat) (l : List Nd) (q : Nat) (t : Tr) (w : World) (hat : At l q t) (hr : Rd w A (l.flatMap Nd.cells)) (hl : l.length ≤ 1000) (hlc : l.length ≤ cap) (hcm : cap ≤ maxLen) (ht1 : 1 ≤ t.root.tag) (ht2 : t.root.tag ≤ 26) (h25 : t.root.tag = 25 → t.kids ≠ []) :
 Calls Tryz.prog 153 #[.slice A l.length cap, .int .i64 (q : Int)] w fun e w' => ChsR (chZ (Ke t.root (t.flat.tail.headD ⟨0, 0⟩))) w w' e := by
 have Hp := Lv (fun W h => Aia A cap l q t W hat h hl hlc hcm);have Hr := Lv hr;have b0 : t.flat.length ≠ 0 := by cases t; simp [Tr.flat]
 have a8 : t.flat = t.root :: t.flat.tail := by rw [t.flat_eq]; rfl
 have a1 := Lv a8;have bm := Lv ht1;have bn := Lv ht2
 have a0 : Hid (t.root.tag = 25 → t.flat.tail ≠ []) := fun h => by
  have := h25 h;rw [t.flat_eq];simp only [List.tail_cons];cases hk : t.kids with
  | nil => exact absurd hk this
  | cons k ks => have := Up (k :: ks); intro e; rw [e] at this; simp at this
 have ca : (0 : Int) < (t.flat.length : Int) := by omega
 clear hat hr hl hlc hcm ht1 ht2 h25 b0 a8;refine (callsIn_wide (n := 0)).1 ?_;refine callsIn_of_wp_marks Tryz.func153 rfl trivial ?_;simp only [Tryz.ntmps153, Lm, Le, Lu, Nat.reduceAdd, Nat.reduceSub, Lk, Ll, Ly, LH, Lp, Ln];gi_wp2_with fail
 obtain ⟨s, al⟩ : ∃ B, B = w.heap.size := ⟨_, rfl⟩;obtain ⟨w1, an⟩ : ∃ w1, w1 = w.alloc (.cells #[.slice none 0 0] 44) := ⟨_, rfl⟩;have rR : Row w1 s 44 #[.slice none 0 0] := by rw [an, al]; exact Row.new _ _ _
 have b1 : Below w.heap.size w w1 := by rw [an]; exact (Below.refl _ _).alloc (Nat.le_refl _) _
 rw [← an, ← al];have bs : w.heap.size ≤ s := LM al.symm;clear an al;refine ⟨trivial, rfl, (callsIn_wide.2 (Hp.out w1 (Hr.out.go b1))).mono ?_⟩;rintro e w2 ⟨v2, rfl, z, b2⟩;obtain ⟨A2, c2, rfl⟩ := Zj z;have ap : Rd w2 A2 (t.flat.flatMap Nd.cells) := Kv z;have a6 : ∀ ad, A2 = some ad → s < ad.block := fun ad e => Lg rR.lt (Q3 z (by rw [e]; rfl))
 replace rR := rR.below b2 rR.lt;have bb := b1.trans (b2.mono b1.size);have cd := rR.lt;clear b1 b2 z Hp;gi_wp2_with fail
 refine ⟨trivial, rfl, (callsIn_wide.2 (Adj A2 t.flat.length c2 w2)).mono ?_⟩;rintro e w3 ⟨bl, rfl, rl, gl, b3⟩;replace rR := rR.below b3 rR.lt;have bt : bl ≠ s := by omega
 replace bb := bb.trans (b3.mono bb.size)
 have hC : ListsC A2 c2 t.flat.length bl s t.root t.flat.tail (ChZ s w3.heap.size) w3 := ⟨rl, by rw [← a1.out]; exact ap.go b3, by rw [← a1.out], fun k o h1 g h => by
  rcases h with h | ⟨h, _⟩
  · exact g h
  · omega, bt, fun ad e => by have := a6 ad e; omega, fun k cs tt fr h1 g h => by
  rcases h with h | ⟨_, bp, bq, h⟩
  · have := rR.lt; omega
  · injection h with _ h; subst h; rcases g with g | g | g | g <;> exact absurd g (by decide), a0.out⟩
 have aw := Lv (AeJ A2 c2 t.flat.length bl s t.root t.flat.tail (ChZ s w3.heap.size) w3 hC bm.out bn.out);have au := Lv bb;have az := rR;clear hC rl gl b3 bb ap a6 rR Hr a0;gi_wp2_with fail
 obtain ⟨ag, ae⟩ : ∃ ag, ag = Ke t.root (t.flat.tail.headD ⟨0, 0⟩) := ⟨_, rfl⟩;have a7 : (chZ ag).length ≤ 100 := by rw [ae]; exact Ahb _ _
 rw [← ae] at aw;have av := Lv ae;have bj := Lv a7;obtain ⟨b, ac⟩ : ∃ b, b = w3.heap.size := ⟨_, rfl⟩;have ao := Lv ac;have br : s < b := by rw [ac]; exact az.lt
 have ak : w.heap.size ≤ b := by rw [ac]; exact au.out.size
 rw [← ac] at aw;have bh : Hid (∃ v, Row w3 s 44 #[v] ∧ w3.ownsRow b 50 3 v (chZ (([] : List LsX).map LsX.f)).length ((chZ (([] : List LsX).map LsX.f)).flatMap chC) ∧ Below w.heap.size w w3 ∧ b ≤ w3.heap.size) := ⟨_, az, World.ownsRow_nil _ _ _ _, au.out, LM ac⟩;clear ae a7 az au ac
 refine Yz (gf := 210) (lb := #[.pointer (some ⟨bl, 0, none⟩)]) rfl (enters_of Tryz.func210 (by kernel_rfl) rfl) aw.out (fun r h => h.elim)
  (fun h k => h.trans k) (fun V o o' ho hc => ⟨fun i p hx hp => by rw [World.putObj_heap_other (fun e => hx (.inr e))]; exact hp, by simp⟩) (World.grownBy.refl _ _) (fun _ => rfl)
  (fun d V => ∃ v, Row V s 44 #[v] ∧ V.ownsRow b 50 3 v (chZ (d.map LsX.f)).length ((chZ (d.map LsX.f)).flatMap chC) ∧ Below w.heap.size w V ∧ b ≤ V.heap.size) (fun _ _ _ => False) (.inr fun _ _ _ h => h) ?hI ?hIx bh.out
  (fun d x a' V => a' = { tmps := #[.slice A l.length cap, .int .i64 (q : Int), undef, undef, .slice none 0 0, .pointer (some ⟨s, 0, none⟩), .slice A2 t.flat.length c2, .int .i64 x.op, .slice x.A x.l.length x.cap, undef, undef, .slice A l.length cap, .int .i64 (q : Int), .slice A2 t.flat.length c2, .slice A2 t.flat.length c2, .int .i64 (t.flat.length : Int), .bool true, .slice A2 t.flat.length c2, .func (.func 210) #[] #[.pointer (some ⟨bl, 0, none⟩)], .int .i64 x.op, .slice x.A x.l.length x.cap, undef, undef, undef, undef, undef, undef, undef, undef, undef, undef, undef, undef, undef, undef], defers := [] } ∧ LsP ag d x V) ?hAx ?assign ?body ?done ?stop
 case hI =>
  rintro d X Y row ⟨v, h1, g, h3, h4⟩ hg hr
  have aq : ∀ r, row = some r → b ≤ r ∧ v.ownBlock ≠ some r := fun r e => by
   rcases hr r e with h | ⟨h, o, ho, hc⟩
   · exact h.elim
   · exact ⟨by have := ao.out; omega, Z9 g ho hc⟩
  refine ⟨v, h1.abide hg hr, g.kept hg ?_, h3.grown hg h3.size (fun k e => by have := (aq k e).1; omega), Li h4 hg.size⟩;cases row with
  | none => cases v.ownBlock <;> simp
  | some r => exact .inr (aq r rfl).2
 case hIx => exact fun _ _ _ _ _ h _ _ => h
 case hAx =>
  rintro d x a' _ V V' row ⟨h1, g, h3⟩ hg hr;refine ⟨h1, ⟨g.rd.grown hg (fun i e => ?_), g.nil, fun a e => ?_⟩, h3⟩
  · rcases hr i e with h | ⟨h, o⟩
    · exact h.elim
    · exact o
  · obtain ⟨cs, ab⟩ := g.ty a e;exact ⟨cs, ab.abide hg hr⟩
 case assign =>
  rintro l3 d x V K hI hP hK;have HK := Lv hK;have HI := Lv hI;have HP := Lv hP;clear hK hI hP;unfold LsX.enc;gi_wp2_with fail
  exact HK.out _ _ (KeepsFrom.refl _ _) (KpG.refl _ _) HI.out ⟨rfl, HP.out⟩
 case stop => exact fun D c d W _ _ h _ => h.elim
 case body =>
  rintro l3 d ⟨op, XA, xc, xl⟩ a' V bw ai ⟨v, h1, g, h3, h4⟩ ⟨rfl, ay, cc, af⟩ a9
  have cb : (chZ (d.map LsX.f)).length + xl.length ≤ 100 := by
   have := bj.out;rw [← af] at this;simp only [chZ, LD, LI, Lf, LsX.f, Lz] at this ⊢;omega
  have hZ : ∀ a, XA = some a → ∃ cs, Row V a.block 3 cs ∧ ¬ (ChZ s b a.block (.cells cs 3 (0, 0)) ∨ a.block = w3.heap.size + 1) := fun a e => by
   obtain ⟨cs, ab⟩ := ay.ty a e;refine ⟨cs, ab, fun h => ?_⟩;have aa : V.heap[a.block]? = some (.cells cs 3 (0, 0)) := ab;rcases h with (h | ⟨_, bp, bq, h⟩) | h
   · rw [h, show V.heap[s]? = some (.cells #[v] 44 (0, 0)) from h1] at aa;injection aa with aa; injection aa with _ aa; exact absurd aa (by decide)
   · injection h with _ h; exact absurd h (by decide)
   · obtain ⟨r, hr⟩ := ai;rw [h, ← bw, hr] at aa; cases aa
  have HZ := Lv hZ;have a4 := Lv ay;have bk := Lv af;clear hZ ay af a9 ai;obtain ⟨i0, bv, b5, b6, b7⟩ := info_parts AbL;have cg : (xl.length : Int) ≤ 100 := by omega
  gi_wp2_with fail
  gi_loopw [23] (fun i wr => ∃ (k : Nat) (v : Value), i = .int .i64 (k : Int) ∧ k ≤ xl.length ∧ Row wr s 44 #[v] ∧ wr.ownsRow b 50 3 v (chZ (d.map LsX.f) ++ (xl.take k).map fun n => (op, n)).length ((chZ (d.map LsX.f) ++ (xl.take k).map fun n => (op, n)).flatMap chC) ∧ Below w.heap.size w wr ∧ b ≤ wr.heap.size ∧ KeepsFrom w3.heap.size V wr ∧ KpG (fun k o => ChZ s b k o ∨ k = w3.heap.size + 1) V wr) (fun i _ => xl.length - (intOf i).toNat)
  case atStart => exact ⟨0, v, rfl, Nat.zero_le _, h1, by simpa using g, h3, h4, KeepsFrom.refl _ _, KpG.refl _ _⟩
  case round =>
   clear h1 g h3 h4;obtain ⟨k, v, rfl, hk, h1, g, h3, h4, am, ah⟩ := hrel;by_cases bx : k < xl.length
   · obtain ⟨y, hy⟩ : ∃ y, xl[k]? = some y := ⟨_, La bx⟩;obtain ⟨xa, bc, _⟩ := ZP a4.out.rd hy
     have ba : Rd wr XA (Qj xl) := fun j u hj => by
      obtain ⟨a, e, hc⟩ := a4.out.rd j u hj;obtain ⟨cs, ab, b4⟩ := HZ.out a e;exact ⟨a, e, (World.cell?_of_block (by rw [JI]; exact (ah.row ab b4).trans ab.symm)).trans hc⟩
     obtain ⟨xb, be, ax⟩ := ZP ba hy
     obtain rfl : xa = xb := by
      have bd : XA = some xa := bc;have ar : XA = some xb := be;rw [bd] at ar; injection ar
     clear be;subst bc;have Hy := Lv hy;have b8 : (k : Int) < (xl.length : Int) := by omega
     have hc := h1.cellv (i := 0) (v := v) rfl;have hf := h1.free 0;have bf : (xl.take (k + 1)).map (fun n => (op, n)) = (xl.take k).map (fun n => (op, n)) ++ [(op, y)] := by rw [LG, hy]; simp
     have bz : (chZ (d.map LsX.f) ++ (xl.take k).map fun n => (op, n)).length ≤ 100 := by
      rw [Lf, Lz, L7]; omega
     have a5 := Lv bf;generalize ab : chZ (d.map LsX.f) ++ (xl.take k).map (fun n => (op, n)) = cs at g bz;have bi := Lv ab;clear ab;have HA := Lv (g.alloc (.cells #[.slice none 0 0, .int .i64 op, .int .i64 y] 50));have H1 := Lv h1;have H2 := Lv g;have H3 := Lv h3;have H4 := Lv h4;have a2 := Lv am;have a3 := Lv ah;have bu : (wr.alloc (.cells #[.slice none 0 0, .int .i64 op, .int .i64 y] 50)).cell? ⟨s, 0, none⟩ = some v := (h1.alloc _).cellv (i := 0) rfl;have Hc := Lv ax;clear ba hy bf h1 g h3 h4 am ah;gi_wp2_with (gi_at_builtin; refine wpListIn_append_own_at _ rfl (.tmp 27) (.tmp 31) 44 rfl b 50 i0 (.agg #[.slice none 0 0, .int .i64 0, .int .i64 0]) 3 40 Tryz.underlying44 bv b5 b6 b7 rfl (by decide) v _ _ rfl HA.out ⟨wr.heap.size, 0, none⟩ 1 1 (chC (op, y)) rfl rfl (JK _ _ _) (Ai2 _) (by unfold maxLen; omega) (by omega) (by have := H4.out; simp; omega) ?_);intro v' W9 z hg _ hat;have r9 := (H1.out.alloc (.cells #[.slice none 0 0, .int .i64 op, .int .i64 y] 50)).grown hg (QD HA.out (H1.out.alloc _) (by decide));have b9 := QK (H3.out.alloc H3.out.size (.cells #[.slice none 0 0, .int .i64 op, .int .i64 y] 50)) HA.out hg (by have := H3.out.size; simp; omega) ak;have k9 : KeepsFrom w3.heap.size V W9 := a2.out.trans ((KeepsFrom.alloc _ wr (.cells #[.slice none 0 0, .int .i64 op, .int .i64 y] 50)).trans (KeepsFrom.of_own HA.out hg));have p9 : KpG (fun k o => ChZ s b k o ∨ k = w3.heap.size + 1) V W9 := a3.out.trans ((KpG.of_below ((Below.refl _ wr).alloc (Nat.le_refl _) _)).trans (Akm HA.out hg));have s9 : b ≤ W9.heap.size := by have e1 := hg.size; have e2 := H4.out; rw [World.size_alloc] at e1; omega
     obtain ⟨A', m', c', rfl⟩ : ∃ A m c, v' = .slice A m c := Zy z;have ce := r9.cellv (i := 0) (v := v) rfl;have cf := r9.free 0;have nG := QD z r9 (by decide);have o4 := Q6 W9 s 0 (.slice A' m' c');have aj := QB z o4 nG;have r4 := r9.set 0 (.slice A' m' c')
     have HF : Hid (Row (W9.setCell ⟨s, 0, none⟩ (.slice A' m' c')) s 44 #[.slice A' m' c'] ∧ (W9.setCell ⟨s, 0, none⟩ (.slice A' m' c')).ownsRow b 50 3 (.slice A' m' c') (chZ (d.map LsX.f) ++ (xl.take (k + 1)).map fun n => (op, n)).length ((chZ (d.map LsX.f) ++ (xl.take (k + 1)).map fun n => (op, n)).flatMap chC) ∧ Below w.heap.size w (W9.setCell ⟨s, 0, none⟩ (.slice A' m' c')) ∧ b ≤ (W9.setCell ⟨s, 0, none⟩ (.slice A' m' c')).heap.size ∧ KeepsFrom w3.heap.size V (W9.setCell ⟨s, 0, none⟩ (.slice A' m' c')) ∧ KpG (fun k o => ChZ s b k o ∨ k = w3.heap.size + 1) V (W9.setCell ⟨s, 0, none⟩ (.slice A' m' c'))) := by
      refine ⟨r4, ?_, Ql b9 o4 bs, Li s9 (LM o4.size.symm), k9.trans (KeepsFrom.of_only r9 o4), p9.trans ⟨fun i o hx ho => by rw [o4.block i (fun e => hx (.inl (.inl e)))]; exact ho, LM o4.size.symm⟩⟩;rw [a5.out, ← L4, bi.out, Lf, LD, List.flatMap_singleton];exact aj
     clear z hg hat r9 b9 k9 p9 nG o4 aj r4 hc hf bu HA H1 H2 H3 H4 a2 a3 a5;gi_wp2_with fail
     go_roundw
     case rel => exact ⟨k + 1, _, by go_num, by omega, HF.out⟩
     case measure => simp [intOf]; omega
   · obtain rfl : k = xl.length := by omega
     rw [LW] at g
     have HF : Hid (KeepsFrom w3.heap.size V wr ∧ KpG (fun k o => ChZ s b k o ∨ k = w3.heap.size + 1) V wr ∧ ∃ v, Row wr s 44 #[v] ∧ wr.ownsRow b 50 3 v (chZ ((d ++ [(⟨op, XA, xc, xl⟩ : LsX)]).map LsX.f)).length ((chZ ((d ++ [(⟨op, XA, xc, xl⟩ : LsX)]).map LsX.f)).flatMap chC) ∧ Below w.heap.size w wr ∧ b ≤ wr.heap.size) := ⟨am, ah, v, h1, by
      have e : chZ ((d ++ [(⟨op, XA, xc, xl⟩ : LsX)]).map LsX.f) = chZ (d.map LsX.f) ++ xl.map fun n => (op, n) := by rw [LT, VI]; simp [chZ, LsX.f]
      rw [e]; exact g, h3, h4⟩
     clear h1 g h3 h4 am ah;gi_wp2_with fail
     exact HF.out
 case done =>
  rintro D ys W hD bg ⟨v, h1, g, h3, h4⟩ hK;obtain ⟨A9, c9, rfl⟩ := Zj g;have hc := h1.cellv (i := 0) rfl;have HK := Lv hK;have H2 := Lv g;have H3 := Lv h3;have bo := Lv bg;clear hK h1 g h3 bg;gi_wp2;refine ⟨by simp, .inl ⟨_, _, rfl, run_takeDeferred HK.out, ?_⟩⟩;refine ⟨_, results_tmp rfl _ _ _, _, rfl, ?_, H3.out.grown (grownBy_putObj' _ _ _) H3.out.size (fun k e => by cases e; have := ao.out; omega)⟩;rw [← av.out, ← bo.out];exact QQ ((H2.out.kept (grownBy_putObj' _ _ _) (.inr (Z9 H2.out HK.out rfl)))) ak
end Go.Proofs.YtkoikjnlpifbjaaGreat
namespace Go.Proofs.YtkoikjnlpifbjaaGreat
open Go.RowKit
def YV (x y : Nd) (op : Int) : List Int := (Ace x).filter (isC x y op)
def Vh (op : Int) (l : List Int) : List (Int × Int) := l.map fun n => (op, n)
theorem Aav (x y : Nd) : Jj x y = Vh 1 (YV x y 1) ++ (Vh 2 (YV x y 2) ++ (Vh 3 (YV x y 3) ++ (Vh 4 (YV x y 4) ++ (Vh 5 (YV x y 5) ++ (Vh 6 (YV x y 6) ++ Vh 7 (YV x y 7)))))) := by
 unfold Jj;rw [show ((List.range 7).map fun i : Nat => (i : Int) + 1) = [1, 2, 3, 4, 5, 6, 7] from by decide];simp only [LI, List.flatMap_nil, Na];rfl
theorem Y2 {x y : Nd} {op : Int} {L : List Int} (h2 : x.tag = 2 → x.n = 0 ∨ x.n = 1) (hr : JQ L) (hm : ∀ n, n ∈ L ↔ isC x y op n = true) : YV x y op = L :=
 Va (JN _ (Xi _)) hr fun n => by
  unfold YV
  rw [Nq, hm]
  exact ⟨fun h => h.2, fun h => ⟨Aba h h2, h⟩⟩
theorem Vb (lo hi but : Int) : JQ (Jy lo hi but) := by
 refine JN _ (EY ?_);rw [NJ];exact List.pairwise_lt_range.imp fun {i j} h => by show lo + (i : Int) < lo + (j : Int); omega
theorem E5 {lo hi but n : Int} : n ∈ Jy lo hi but ↔ lo ≤ n ∧ n ≤ hi ∧ n ≠ but := by
 unfold Jy UI;rw [Nq, LR];constructor
 · rintro ⟨⟨i, hi, rfl⟩, h⟩;rw [NA] at hi;have b : lo + (i : Int) ≠ but := by simpa using h
   exact ⟨by omega, by omega, b⟩
 · rintro ⟨d, e, c⟩;refine ⟨⟨(n - lo).toNat, NA.2 (by omega), by omega⟩, by simpa using c⟩
theorem EO (but : Int) (l : List Int) : JQ (JX but l) := JN _ (Xi _)
theorem Abn {but n : Int} {l : List Int} : n ∈ JX but l ↔ n ∈ l ∧ n ≠ but := by
 unfold JX;rw [Nq, YT];simp
theorem AkH {x y : Nd} (h2 : x.tag = 2 → x.n = 0 ∨ x.n = 1) : YV x y 1 = if 7 ≤ x.tag ∧ x.tag ≤ 11 then Jy 7 11 x.tag else [] := by
 refine Y2 h2 (by split; exact Vb _ _ _; trivial) fun n => ?_
 show _ ↔ decide _ = true;rw [decide_eq_true_eq];split
 · rw [E5]; omega
 · simp; omega
theorem AkI {x y : Nd} (h2 : x.tag = 2 → x.n = 0 ∨ x.n = 1) : YV x y 2 = if 12 ≤ x.tag ∧ x.tag ≤ 17 then Jy 12 17 x.tag else [] := by
 refine Y2 h2 (by split; exact Vb _ _ _; trivial) fun n => ?_
 show _ ↔ decide _ = true;rw [decide_eq_true_eq];split
 · rw [E5]; omega
 · simp; omega
theorem AkJ {x y : Nd} (h2 : x.tag = 2 → x.n = 0 ∨ x.n = 1) : YV x y 3 = if x.tag = 18 ∨ x.tag = 19 then Jy 18 19 x.tag else [] := by
 refine Y2 h2 (by split; exact Vb _ _ _; trivial) fun n => ?_
 show _ ↔ decide _ = true;rw [decide_eq_true_eq];split
 · rw [E5]; omega
 · simp; omega
theorem AkK {x y : Nd} (h2 : x.tag = 2 → x.n = 0 ∨ x.n = 1) : YV x y 4 = if x.tag = 1 then JX x.n [0, 1, -1, wrap64 (x.n + 1), wrap64 (x.n - 1)] else if x.tag = 2 then [wrap64 (1 - x.n)] else [] := by
 refine Y2 h2 (by split; exact EO _ _; split <;> trivial) fun n => ?_
 show _ ↔ decide _ = true;rw [decide_eq_true_eq];split
 · rw [Abn]; simp only [L2, L9, or_false]; omega
 · split
   · simp only [L2, L9, or_false]; omega
   · simp only [L9, false_iff]; omega
theorem AkL {x y : Nd} (h2 : x.tag = 2 → x.n = 0 ∨ x.n = 1) : YV x y 5 = if x.tag = 21 ∨ x.tag = 22 ∨ x.tag = 23 ∨ x.tag = 24 ∨ x.tag = 25 then [0] else [] := by
 refine Y2 h2 (by split <;> trivial) fun n => ?_
 show _ ↔ decide _ = true;rw [decide_eq_true_eq];split
 · simp only [L2, L9, or_false]; omega
 · simp only [L9, false_iff]; omega
theorem AkM {x y : Nd} (h2 : x.tag = 2 → x.n = 0 ∨ x.n = 1) : YV x y 6 = if x.tag = 23 ∨ x.tag = 24 then [0] else [] := by
 refine Y2 h2 (by split <;> trivial) fun n => ?_
 show _ ↔ decide _ = true;rw [decide_eq_true_eq];split
 · simp only [L2, L9, or_false]; omega
 · simp only [L9, false_iff]; omega
theorem AkN {x y : Nd} (h2 : x.tag = 2 → x.n = 0 ∨ x.n = 1) : YV x y 7 = if x.tag = 25 then ZD y else [] := by
 have b : JQ (ZD y) := by
  unfold ZD;split
  · exact EO _ _
  · exact ⟨by omega, trivial⟩
 refine Y2 h2 (by split; exact b; trivial) fun n => ?_
 show _ ↔ decide _ = true;rw [decide_eq_true_eq];split
 · unfold ZD;split
   · rw [Abn]; simp only [L2, L9, or_false]; omega
   · simp only [L2, L9, or_false]; omega
 · simp only [L9, false_iff]; omega
theorem Ahc (o : Int) (l : List Int) : chZ [(o, l)] = Vh o l := by simp [chZ, Vh]
theorem Ai4 (c : Prop) [Decidable c] (a b : List (Int × List Int)) : chZ (if c then a else b) = if c then chZ a else chZ b := by split <;> rfl
theorem Ait (c : Prop) [Decidable c] (o : Int) (a b : List Int) : Vh o (if c then a else b) = if c then Vh o a else Vh o b := by split <;> rfl
theorem Aiu (o : Int) : Vh o [] = [] := rfl
theorem EJ {x y : Nd} (h2 : x.tag = 2 → x.n = 0 ∨ x.n = 1) : chZ (Ke x y) = Jj x y := by
 rw [Aav, AkH h2, AkI h2, AkJ h2, AkK h2, AkL h2, AkM h2, AkN h2];unfold Ke;have j : chZ [] = [] := rfl;simp only [VI, Ai4, Ahc, Ait, Aiu, j];by_cases i : x.tag = 25
 · have d : ¬ (7 ≤ x.tag ∧ x.tag ≤ 11) := by omega
   have c : ¬ (12 ≤ x.tag ∧ x.tag ≤ 17) := by omega
   have b : ¬ (x.tag = 18 ∨ x.tag = 19) := by omega
   have e : ¬ (x.tag = 1) := by omega
   have g : ¬ (x.tag = 2) := by omega
   have h : ¬ (x.tag = 23 ∨ x.tag = 24) := by omega
   rw [if_neg d, if_neg c, if_neg b, if_neg e, if_neg g, if_neg h, if_pos i, if_neg d, if_neg c, if_neg b, if_neg h];simp
 · rw [if_neg i];by_cases d : 7 ≤ x.tag ∧ x.tag ≤ 11
   · have c : ¬ (12 ≤ x.tag ∧ x.tag ≤ 17) := by omega
     have b : ¬ (x.tag = 18 ∨ x.tag = 19) := by omega
     have e : ¬ (x.tag = 1) := by omega
     have g : ¬ (x.tag = 2) := by omega
     simp only [if_pos d, if_neg c, if_neg b, if_neg e, if_neg g];simp
   by_cases c : 12 ≤ x.tag ∧ x.tag ≤ 17
   · have b : ¬ (x.tag = 18 ∨ x.tag = 19) := by omega
     have e : ¬ (x.tag = 1) := by omega
     have g : ¬ (x.tag = 2) := by omega
     simp only [if_neg d, if_pos c, if_neg b, if_neg e, if_neg g];simp
   by_cases b : x.tag = 18 ∨ x.tag = 19
   · have e : ¬ (x.tag = 1) := by omega
     have g : ¬ (x.tag = 2) := by omega
     simp only [if_neg d, if_neg c, if_pos b, if_neg e, if_neg g];simp
   simp only [if_neg d, if_neg c, if_neg b];simp
theorem AkQ {x y z : Nd} (h : x.tag ≠ 25) (op n : Int) : isC x y op n = isC x z op n := by
 unfold isC;have e : decide (x.tag = 25 ∧ (n = 0 ∨ n = 1) ∧ ¬ (y.tag = 1 ∧ y.n = n)) = decide (x.tag = 25 ∧ (n = 0 ∨ n = 1) ∧ ¬ (z.tag = 1 ∧ z.n = n)) := by simp [h]
 rw [e]
theorem Aeq {x y z : Nd} (h : x.tag ≠ 25) : Jj x y = Jj x z := by
 unfold Jj;have e : ∀ b, isC x y b = isC x z b := fun b => funext fun n => AkQ h b n
 simp only [e]
theorem Aiv {x : Nd} (h : ¬ Qu x < 0) : 1 ≤ x.tag ∧ x.tag ≤ 26 := by
 by_cases k : 1 ≤ x.tag ∧ x.tag ≤ 26
 · exact k
 · exact absurd (AaM (t := x.tag) (n := x.n) k) (fun e => h (by have : Qu x = -1 := e; omega))
theorem AjS {x : Nd} (h : ¬ Qu x < 0) (h2 : x.tag = 2) : x.n = 0 ∨ x.n = 1 := by
 obtain ⟨t, n⟩ := x;simp only at h2;subst h2;unfold Qu at h;simp only [Za] at h;by_cases k : n < 0 ∨ 1 < n
 · exfalso; apply h; simp; omega
 · show n = 0 ∨ n = 1; omega
theorem AaN {x : Nd} (h : ¬ Qu x < 0) (h2 : x.tag = 25) : Qu x = 1 := by
 obtain ⟨t, n⟩ := x;simp only at h2;subst h2;unfold Qu at h ⊢;simp only [Za] at h ⊢;by_cases k : n < 0 ∨ 0 < n
 · exfalso; apply h; simp; omega
 · simp; omega
theorem At.second {l : List Nd} {q : Nat} {t : Tr} (h : At l q t) (hk : t.kids ≠ []) : U6 l (q + 1) = t.flat.tail.headD ⟨0, 0⟩ := by
 obtain ⟨d, e⟩ := h.here;have b := t.flat_eq
 have c : QL t.kids ≠ [] := by
  cases hk2 : t.kids with
  | nil => exact absurd hk2 hk
  | cons k ks => have := Up (k :: ks); intro e; rw [e] at this; simp at this
 have g : l[q + 1]? = (l.drop q)[1]? := by rw [Nv]
 unfold U6;rw [g, e, b];cases hf : QL t.kids with
 | nil => exact absurd hf c
 | cons y ys => simp
theorem Agx {l : List Nd} {q : Nat} {t : Tr} (h : At l q t) : U6 l q = t.root := by unfold U6; rw [h.root]; rfl
theorem Ef {l : List Nd} {q : Nat} {t : Tr} (h : At l q t) (ha : ¬ Qu t.root < 0) : chZ (Ke t.root (t.flat.tail.headD ⟨0, 0⟩)) = Z7 l q := by
 rw [EJ (AjS ha)];unfold Z7;rw [Agx h];by_cases b : t.root.tag = 25
 · have d : t.kids ≠ [] := fun e => by
    have c := h.fits.arity;rw [AaN ha b, e] at c;simp at c
   rw [h.second d]
 · exact Aeq b
theorem AhI {l : List Nd} {q : Nat} {t : Tr} (h : At l q t) (ha : ¬ Qu t.root < 0) (h25 : t.root.tag = 25) : t.kids ≠ [] := fun e => by
 have b := h.fits.arity;rw [AaN ha h25, e] at b;simp at b
end Go.Proofs.YtkoikjnlpifbjaaGreat
namespace Go.Proofs.YtkoikjnlpifbjaaGreat
open Go.RowKit Go.Deep
open Classical in
noncomputable def inP (p : PgV) (d : Dl) : Bool := decide (∃ t, Fine p t ∧ d ∈ Q8 p.body t)
open Classical in
theorem Ac2 {p : PgV} {t : Tr} (h : Fine p t) (d : Dl) : inP p d = true ↔ d ∈ Q8 p.body t := by
 unfold inP;rw [decide_eq_true_eq];exact ⟨fun ⟨u, hu, b⟩ => by rwa [h.good.whole.uniq hu.good.whole], fun b => ⟨t, h, b⟩⟩
end Go.Proofs.YtkoikjnlpifbjaaGreat
namespace Go.Proofs.YtkoikjnlpifbjaaGreat
open Go.RowKit
open Classical in
noncomputable def YX (l : List Mt) : Bool := decide (KL l)
open Classical in
theorem riseB_iff {l : List Mt} : YX l = true ↔ KL l := by unfold YX; rw [decide_eq_true_eq]
theorem Ye : ∀ {l : List Mt} {k : Nat} {x y : Mt}, l[k]? = some x → l[k + 1]? = some y → KL (l.take (k + 1)) → Z8 x.d y.d < 0 → KL (l.take (k + 2))
 | [], _, _, _, h, _, _, _ => by simp at h
 | a :: l, 0, x, y, h1, h2, _, h4 => by
  cases l with
  | nil => simp at h2
  | cons b l =>
   simp at h1 h2
   subst h1 h2
   exact ⟨h4, trivial⟩
 | a :: l, k + 1, x, y, h1, h2, h3, h4 => by
  have h1' : l[k]? = some x := by simpa using h1
  have h2' : l[k + 1]? = some y := by simpa using h2
  cases l with
  | nil => simp at h1'
  | cons b l =>
   have h5 : KL ((b :: l).take (k + 1)) := h3.2
   exact ⟨h3.1, Ye h1' h2' h5 h4⟩
theorem AgJ {l : List Mt} {i : Nat} {x y : Mt} (h : KL l) (hx : l[i]? = some x) (hy : l[i + 1]? = some y) : Z8 x.d y.d < 0 :=
 YS (riseM_iff.1 h) (by rw [L6, hx]; rfl) (by rw [L6, hy]; rfl) (Nat.lt_succ_self i)
theorem AgK (l : List Mt) : KL (l.take 1) := by
 cases l with
 | nil => trivial
 | cons a l => simp [KL]
end Go.Proofs.YtkoikjnlpifbjaaGreat
namespace Go.Proofs.YtkoikjnlpifbjaaGreat
open Go.RowKit Go.Deep
def KF (l : List DlV) : List Value := l.flatMap fun x => x.cells.toList
theorem Ep {W : World} {A : Option Addr} {l : List DlV} (hr : Rd W A (KF l)) {k : Nat} {x : DlV} (hx : l[k]? = some x) : ∃ ad, A = some ad ∧ ∀ (j : Nat) (u : Value), x.cells.toList[j]? = some u → W.cell? ((ad.add (k * 3)).add j) = some u :=
 YW (c := fun x : DlV => x.cells.toList) (sz := 3) (fun _ => rfl) (by decide) hr hx
instance St.dlok_all {l : List DlV} : St (fun W => ∀ x ∈ l, DlOk W x) := ⟨fun h b x hx => (h x hx).go b⟩
def AkC (l : List DlV) (d : Dl) (e : Ending) : Prop := ∃ r : Int, e = .returned (.int .i64 r) ∧ (0 ≤ r ↔ d ∈ l.map fun x => x.d)
theorem Ez (A : Option Addr) (cap : Nat) (l : List DlV) (y : DlV) (w : World) (hr : Rd w A (KF l)) (hl : l.length ≤ 1000000) (hok : ∀ x ∈ l, DlOk w x) (hy : DlOk w y) (hrise : KJ (l.map fun x => x.d)) :
 Calls Tryz.prog 36 #[.slice A l.length cap, .agg y.cells] w fun e w' => AkC l y.d e ∧ Below w.heap.size w w' := by
 have ap : (l.length : Int) ≤ 1000000 := by omega
 have n := Lv hrise;clear hl hrise;go_enter Tryz.func36, Tryz.ntmps36
 go_wp2_with (refine Qm _ _ rfl ?_)
 refine Stop.to ?_;refine Qe rfl 50 _ rfl y.cells rfl ?_;intro G Gw Gh Gr Gb;have z := (Below.refl w.heap.size w).trans (Gb.mono Gh);obtain ⟨S, g⟩ : ∃ S, S = (fun W => (Row W G 50 y.cells ∧ Rd W A (KF l)) ∧ ((∀ x ∈ l, DlOk W x) ∧ (∀ x ∈ [y], DlOk W x)) ∧ Below w.heap.size w W) := ⟨_, rfl⟩;have aw : St S := by rw [g]; infer_instance
 have T0 : Hid (∀ W, S W → Row W G 50 y.cells) := by show ∀ W, _; rw [g]; exact fun W h => h.1.1
 have T1 : Hid (∀ W, S W → Rd W A (KF l)) := by show ∀ W, _; rw [g]; exact fun W h => h.1.2
 have T2 : Hid (∀ W, S W → ∀ x ∈ l, DlOk W x) := by show ∀ W, _; rw [g]; exact fun W h => h.2.1.1
 have T3 : Hid (∀ W, S W → DlOk W y) := by show ∀ W, _; rw [g]; exact fun W h => h.2.1.2 y (by simp)
 have T4 : Hid (∀ W, S W → Below w.heap.size w W) := by show ∀ W, _; rw [g]; exact fun W h => h.2.2
 have o : S Gw := by rw [g]; exact ⟨⟨Gr, hr.go z⟩, ⟨fun x p => (hok x p).go z, fun x p => by rw [L3.1 p]; exact hy.go z⟩, z⟩
 clear g Gr Gb Gh z hr hok hy;go_wp2_with fail
 go_step3
 go_wp2_with fail
 go_step3
 go_wp2_with fail
 go_loopw [5, 6, 7] (fun a b f wr => ∃ lo hi : Nat, a = .int .i64 (lo : Int) ∧ b = .int .i64 (hi : Int) ∧ f = .int .i64 (-1) ∧ lo ≤ hi ∧ hi ≤ l.length ∧ Hid (∀ i : Nat, (l.map fun x => x.d)[i]? = some y.d → lo ≤ i ∧ i < hi) ∧ S wr) (fun a b _ _ => (intOf b - intOf a).toNat)
 case atStart => exact ⟨0, l.length, rfl, rfl, rfl, Nat.zero_le _, Nat.le_refl _, Lv (fun i hi => ⟨Nat.zero_le _, by have := (Ld.1 hi).1; simpa using this⟩), o⟩
 case round =>
  clear o;obtain ⟨lo, hi, rfl, rfl, rfl, aq, aj, s, o⟩ := hrel;by_cases ac : lo < hi;rotate_left
  · have ao : ¬ ((lo : Int) < (hi : Int)) := by omega
    have ah : Hid (y.d ∉ l.map fun x => x.d) := fun hm => by
     obtain ⟨i, k⟩ := List.getElem?_of_mem hm;have := s.out i k;omega
    clear ac;go_wp2_with fail
    try rw [Exit.noGoto_ret]
    go_ret
    exact ⟨⟨-1, rfl, by simp; exact fun x p e => ah.out (LR.2 ⟨x, p, e⟩)⟩, T4.out _ o⟩
  obtain ⟨d, hd⟩ : ∃ d : Nat, d = (hi - lo) / 2 := ⟨_, rfl⟩;have an : ((hi : Int) - (lo : Int)) / 2 = (d : Int) := by omega
  obtain ⟨m, hm⟩ : ∃ m : Nat, m = lo + d := ⟨_, rfl⟩;have au : (lo : Int) + (d : Int) = (m : Int) := by omega
  have ae : lo ≤ m ∧ m < hi := by omega
  obtain ⟨x, p⟩ : ∃ x, l[m]? = some x := ⟨_, La (by omega)⟩;obtain ⟨ad, aa, _⟩ := Ep (T1.out _ o) p
  have Hc : Hid (∀ W, S W → ∀ (j : Nat) (u : Value), x.cells.toList[j]? = some u → W.cell? ((ad.add (m * 3)).add j) = some u) := fun W h => by
   obtain ⟨am, e1, e2⟩ := Ep (T1.out W h) p;rw [aa] at e1; injection e1 with e1; subst e1; exact e2
  have Hx := Lv p;have ak : (lo : Int) < (hi : Int) := by omega
  have av : 0 ≤ (hi : Int) - (lo : Int) := by omega
  have al : (m : Int) < (l.length : Int) := by omega
  have v := Lv (Lj p);clear hd hm ac p;subst aa;go_wp2_with fail
  refine ZJ S (by kernel_rfl) (by kernel_rfl) (St.drew o) ?_;clear o
  iterate 3 (refine Qg rfl ?_ (fun W t => ?_) ?_; rotate_left; (focus (go_simp; exact rfl)); simp only [Act.put, Qa, Qb, Qc])
  (refine Zl rfl 50 _ rfl ((ad.add (m * 3))) rfl x.cells.toList _ Hc.out Tryz.underlying50 rfl (by kernel_rfl) ?_; simp only [Act.put, Qa, Qb, Qc]);(refine Zd rfl 50 _ rfl (G) rfl 50 _ _ (fun W t => T0.out W t) Tryz.underlying50 rfl (by kernel_rfl) ?_; simp only [Act.put, Qa, Qb, Qc]);(refine QG rfl 55 _ (fun W => by (go_simp; try rfl)) (.int .i64 (Z8 x.d y.d)) (fun W t => U2 x y W (T2.out W t x v.out) (T3.out W t)) ?_; simp only [Act.put, Qa, Qb, Qc])
  (refine Qg rfl ?_ (fun W t => ?_) ?_; rotate_left; (focus (go_simp; exact rfl)); simp only [Act.put, Qa, Qb, Qc]);refine QS fun W o => ?_
  have ab := Ai5 x.d y.d;have Hm : Hid ((l.map fun x => x.d)[m]? = some x.d) := Lv (by simp [Hx.out]);obtain ⟨c, hc⟩ : ∃ c, c = Z8 x.d y.d := ⟨_, rfl⟩;have q := Lv hc;rw [← hc] at ab;rw [← hc];clear hc;rcases ab with rfl | rfl | rfl
  · have ag := Lv (AjI n.out Hm.out (d := y.d) (by have := q.out; omega));have ar : (m : Int) < 1000000 := by omega
    go_wp2_with fail
    refine ⟨⟨m + 1, hi, by simp, rfl, rfl, ae.2, aj, Lv (fun i k => ⟨ag.out i k, (s.out i k).2⟩), o⟩, ?_⟩;simp only [intOf]; omega
  · have ai : x.d = y.d := cmpD_eq.1 q.out.symm;go_wp2_with fail
    try rw [Exit.noGoto_ret]
    go_ret
    exact ⟨⟨m, rfl, by simp only [Int.natCast_nonneg, true_iff]; rw [← ai]; exact Lj Hm.out⟩, T4.out _ o⟩
  · have af := Lv (AjH n.out Hm.out (d := y.d) (by have := q.out; omega));go_wp2_with fail
    refine ⟨⟨lo, m, rfl, rfl, rfl, ae.1, by omega, Lv (fun i k => ⟨(s.out i k).1, af.out i k⟩), o⟩, ?_⟩;simp only [intOf]; omega
end Go.Proofs.YtkoikjnlpifbjaaGreat
