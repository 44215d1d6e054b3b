/- Lemmas for VerdictMoreP. -/
import Derived.Test.YtdcmppdhdcjpfaaGreatZr1
import Derived.Test.YtdcmppdhdcjpfaaGreatZr14
import Derived.Test.YtdcmppdhdcjpfaaGreatZr3
import Derived.Test.YtdcmppdhdcjpfaaGreatZr10
import Derived.Test.YtdcmppdhdcjpfaaGreatZr11
set_option linter.unusedVariables false
set_option linter.unusedSimpArgs false
set_option maxRecDepth 100000
set_option maxHeartbeats 16000000
namespace Go.Proofs.YtdcmppdhdcjpfaaGreat
open Go.RowKit Go.Deep
attribute [local go_sem] Oper.semAt_some
theorem KT {w : World} {base n size m c : Nat} {e : TypeId} {A : Option Addr} {xs : List Value} (h : w.ownsRow base e size (.slice A m c) n xs) : Rd w A xs := by
 have hl : xs.length = n * size := h.1
 rcases h.2 with ⟨he, h0⟩ | ⟨g, cap, cur, he, hb, hh, hc, hm, hsz, ht⟩
 · have hx : xs = [] := List.eq_nil_of_length_eq_zero (by rw [hl, h0, Nat.zero_mul])
   subst hx
   exact Rd.nil _ _
 · injection he with he
   subst he
   refine fun j u hj => ⟨_, rfl, ?_⟩
   have hr : Row w g e cur := hh
   exact hr.from_ 0 (cs := xs) (fun j v hj => by
    rw [Nat.zero_add, ← Array.getElem?_toList]
    have h1 : (cur.toList.take (n * size))[j]? = some v := by rw [ht]; exact hj
    rw [List.getElem?_take_of_lt (by have := (List.getElem?_eq_some_iff.1 hj).1; omega)] at h1; exact h1) j u hj
structure ListsFn (A : Option Addr) (n cap : Nat) (w w' : World) (e : Ending) : Prop where
 ex : ∃ bl, e = .returned (.func (.func 285) #[] #[.pointer (some ⟨bl, 0, none⟩)]) ∧ Row w' bl 23 #[.slice A n cap] ∧ w.heap.size ≤ bl ∧ Below w.heap.size w w'
theorem Acc (A : Option Addr) (n cap : Nat) (w : World) :
 Calls Tryz.prog 268 #[.slice A n cap] w fun e w' => ListsFn A n cap w w' e := by
 go_enter Tryz.func268, Tryz.ntmps268
 go_wp2_with (refine Qp _ _ rfl ?_)
 refine Stop.to ?_
 refine Qf rfl 23 _ rfl #[.slice A n cap] rfl ?_
 intro G Gw Gh Gr Gb
 have b1 := (Below.refl w.heap.size w).trans (Gb.mono Gh)
 clear Gb
 go_wp2
 go_ret
 exact ⟨G, rfl, Gr, Gh, b1⟩
def chC (c : Int × Int) : List Value := [.slice none 0 0, .int .i64 c.1, .int .i64 c.2]
def chZ (ls : List (Int × List Int)) : List (Int × Int) := ls.flatMap fun e => e.2.map fun n => (e.1, n)
theorem AaK : (Tryz.prog.info? 35).map (fun i => (i.zero, i.size, i.bytes)) = some (some (.agg #[.slice none 0 0, .int .i64 0, .int .i64 0]), 3, 40) := by kernel_rfl
theorem AbZ : (Tryz.prog.info? 35).map (fun i => (i.zero, i.size)) = some (some (.agg #[.slice none 0 0, .int .i64 0, .int .i64 0]), 3) := by kernel_rfl
theorem Acr (but : Int) (l : List Int) : (JI but l).length ≤ l.length := Nat.le_trans (List.length_filter_le _ _) (Eg l)
theorem Aa3 (lo hi but : Int) : (Jc lo hi but).length ≤ (hi + 1 - lo).toNat := AeC _ _ _
theorem UP (a b : List (Int × List Int)) : chZ (a ++ b) = chZ a ++ chZ b := by simp [chZ]
theorem KP (o : Int) (l : List Int) : (chZ [(o, l)]).length = l.length := by simp [chZ]
theorem AfM (x y : Nd) : (chZ (JY x y)).length ≤ 100 := by
 have ha := Aa3 7 11 x.tag
 have hb := Aa3 12 17 x.tag
 have hc := Aa3 18 19 x.tag
 have hd := Acr x.n [0, 1, -1, wrap64 (x.n + 1), wrap64 (x.n - 1)]
 have he : (Zv y).length ≤ 2 := by
  unfold Zv
  split
  · exact Acr _ _
  · simp
 simp only [List.length_cons, List.length_nil] at hd
 unfold JY
 rw [UP, UP, List.length_append, List.length_append]
 have e1 : ∀ (c : Prop) [Decidable c] (a b : List (Int × List Int)) (n : Nat), (chZ a).length ≤ n → (chZ b).length ≤ n → (chZ (if c then a else b)).length ≤ n := fun c _ a b n h1 h2 => by split <;> assumption
 have h1 := e1 (7 ≤ x.tag ∧ x.tag ≤ 11) [(1, Jc 7 11 x.tag)] _ 10 (by rw [KP]; omega) (e1 (12 ≤ x.tag ∧ x.tag ≤ 17) [(2, Jc 12 17 x.tag)] _ 10 (by rw [KP]; omega) (e1 (x.tag = 18 ∨ x.tag = 19) [(3, Jc 18 19 x.tag)] _ 10 (by rw [KP]; omega) (e1 (x.tag = 1) [(4, JI x.n [0, 1, -1, wrap64 (x.n + 1), wrap64 (x.n - 1)])] _ 10 (by rw [KP]; omega) (e1 (x.tag = 2) [(4, [wrap64 (1 - x.n)])] [] 10 (by rw [KP]; simp) (by simp [chZ])))))
 have h2 := e1 (x.tag = 21 ∨ x.tag = 22 ∨ x.tag = 23 ∨ x.tag = 24 ∨ x.tag = 25) [(5, [0])] [] 10 (by rw [KP]; simp) (by simp [chZ])
 have h3 := e1 (x.tag = 23 ∨ x.tag = 24) [(6, [0])] _ 10 (by rw [KP]; simp) (e1 (x.tag = 25) [(7, Zv y)] [] 10 (by rw [KP]; omega) (by simp [chZ]))
 omega
theorem Ahd (c : Int × Int) : ∀ u ∈ chC c, u.oneCell' = true := by
 intro u hu
 simp only [chC, List.mem_cons, List.not_mem_nil, or_false] at hu
 rcases hu with rfl | rfl | rfl <;> rfl
structure ChsR (cs : List (Int × Int)) (w w' : World) (e : Ending) : Prop where
 ex : ∃ v, e = .returned v ∧ w'.ownsRow w.heap.size 35 3 v cs.length (cs.flatMap chC) ∧ Below w.heap.size w w'
def ChZ (Rb lim : Nat) (k : Nat) (o : Obj) : Prop := k = Rb ∨ (lim ≤ k ∧ ∃ cs fr, o = .cells cs 35 fr)
theorem Ait {Rb lim L n : Nat} {W W' : World} {v : Value} {xs : List Value} (h : W.ownsRow lim 35 3 v n xs) (hg : W.grownBy W' v.ownBlock) : KpG (fun k o => ChZ Rb lim k o ∨ k = L) W W' := ⟨fun k o hx ho => by
 refine (hg.block k (Array.getElem?_eq_some_iff.1 ho).1 (fun e => hx (.inl (.inr ?_)))).trans ho
 rcases h.2 with ⟨rfl, _⟩ | ⟨g, c, cur, rfl, hb, hr, _⟩
 · cases e
 · injection e with e
   have e' : k = g := e
   subst e'
   rw [hr] at ho; injection ho with ho
   exact ⟨hb, _, _, ho.symm⟩, hg.size⟩
theorem AbI (A : Option Addr) (cap : Nat) (l : List Nd) (q : Nat) (t : Tr) (w : World) (hat : At l q t) (hr : Rd w A (l.flatMap Nd.cells)) (hl : l.length ≤ 1000) (hlc : l.length ≤ cap) (hcm : cap ≤ maxLen) (ht1 : 1 ≤ t.root.tag) (ht2 : t.root.tag ≤ 26) (h25 : t.root.tag = 25 → t.kids ≠ []) :
 Calls Tryz.prog 244 #[.slice A l.length cap, .int .i64 (q : Int)] w fun e w' => ChsR (chZ (JY t.root (t.flat.tail.headD ⟨0, 0⟩))) w w' e := by
 have Hp := Lh (fun W h => Ags A cap l q t W hat h hl hlc hcm)
 have Hr := Lh hr
 have hne : t.flat.length ≠ 0 := by cases t; simp [Tr.flat]
 have hfl : t.flat = t.root :: t.flat.tail := by rw [t.flat_eq]; rfl
 have Hfl := Lh hfl
 have Ht1 := Lh ht1
 have Ht2 := Lh ht2
 have H25 : Hid (t.root.tag = 25 → t.flat.tail ≠ []) := fun h => by
  have := h25 h
  rw [t.flat_eq]
  simp only [List.tail_cons]
  cases hk : t.kids with
  | nil => exact absurd hk this
  | cons k ks => have := YD (k :: ks); intro e; rw [e] at this; simp at this
 have hpos : (0 : Int) < (t.flat.length : Int) := by omega
 clear hat hr hl hlc hcm ht1 ht2 h25 hne hfl
 refine (callsIn_wide (n := 0)).1 ?_
 refine callsIn_of_wp_marks Tryz.func244 rfl trivial ?_
 simp only [Tryz.ntmps244, List.size_toArray, List.length_cons, List.length_nil, Nat.reduceAdd, Nat.reduceSub, Array.replicate_succ, Array.replicate_zero, List.push_toArray, List.append_toArray, List.nil_append, List.cons_append]
 gi_wp2_with fail
 obtain ⟨Rb, hRb⟩ : ∃ B, B = w.heap.size := ⟨_, rfl⟩
 obtain ⟨w1, hw1⟩ : ∃ w1, w1 = w.alloc (.cells #[.slice none 0 0] 28) := ⟨_, rfl⟩
 have rR : Row w1 Rb 28 #[.slice none 0 0] := by rw [hw1, hRb]; exact Row.new _ _ _
 have b1 : Below w.heap.size w w1 := by rw [hw1]; exact (Below.refl _ _).alloc (Nat.le_refl _) _
 rw [← hw1, ← hRb]
 have hRw : w.heap.size ≤ Rb := Nat.le_of_eq hRb.symm
 clear hw1 hRb
 refine ⟨trivial, rfl, (callsIn_wide.2 (Hp.out w1 (Hr.out.go b1))).mono ?_⟩
 rintro e w2 ⟨v2, rfl, hown, b2⟩
 obtain ⟨A2, c2, rfl⟩ := Zd hown
 have hrd2 : Rd w2 A2 (t.flat.flatMap Nd.cells) := KT hown
 have ha2 : ∀ ad, A2 = some ad → Rb < ad.block := fun ad e => Nat.lt_of_lt_of_le rR.lt (QN hown (by rw [e]; rfl))
 replace rR := rR.below b2 rR.lt
 have bb := b1.trans (b2.mono b1.size)
 have hR2 := rR.lt
 clear b1 b2 hown Hp
 gi_wp2_with fail
 refine ⟨trivial, rfl, (callsIn_wide.2 (Acc A2 t.flat.length c2 w2)).mono ?_⟩
 rintro e w3 ⟨bl, rfl, rl, gl, b3⟩
 replace rR := rR.below b3 rR.lt
 have hbl : bl ≠ Rb := by omega
 replace bb := bb.trans (b3.mono bb.size)
 have hC : ListsC A2 c2 t.flat.length bl Rb t.root t.flat.tail (ChZ Rb w3.heap.size) w3 := ⟨rl, by rw [← Hfl.out]; exact hrd2.go b3, by rw [← Hfl.out], fun k o h1 h2 h => by
  rcases h with h | ⟨h, _⟩
  · exact h2 h
  · omega, hbl, fun ad e => by have := ha2 ad e; omega, fun k cs tt fr h1 h2 h => by
  rcases h with h | ⟨_, cs', fr', h⟩
  · have := rR.lt; omega
  · injection h with _ h; subst h; rcases h2 with h2 | h2 | h2 | h2 <;> exact absurd h2 (by decide), H25.out⟩
 have Hit := Lh (Ady A2 c2 t.flat.length bl Rb t.root t.flat.tail (ChZ Rb w3.heap.size) w3 hC Ht1.out Ht2.out)
 have Hbb := Lh bb
 have rR3 := rR
 clear hC rl gl b3 bb hrd2 ha2 rR Hr H25
 gi_wp2_with fail
 obtain ⟨full, hfull⟩ : ∃ full, full = JY t.root (t.flat.tail.headD ⟨0, 0⟩) := ⟨_, rfl⟩
 have hfb : (chZ full).length ≤ 100 := by rw [hfull]; exact AfM _ _
 rw [← hfull] at Hit
 have Hfull := Lh hfull
 have Hfb := Lh hfb
 obtain ⟨lim, hlim⟩ : ∃ lim, lim = w3.heap.size := ⟨_, rfl⟩
 have Hlim := Lh hlim
 have hRlim : Rb < lim := by rw [hlim]; exact rR3.lt
 have hwlim : w.heap.size ≤ lim := by rw [hlim]; exact Hbb.out.size
 rw [← hlim] at Hit
 have HI0 : Hid (∃ v, Row w3 Rb 28 #[v] ∧ w3.ownsRow lim 35 3 v (chZ (([] : List LsX).map LsX.f)).length ((chZ (([] : List LsX).map LsX.f)).flatMap chC) ∧ Below w.heap.size w w3 ∧ lim ≤ w3.heap.size) := ⟨_, rR3, World.ownsRow_nil _ _ _ _, Hbb.out, Nat.le_of_eq hlim⟩
 clear hfull hfb rR3 Hbb hlim
 refine XT (gf := 285) (lb := #[.pointer (some ⟨bl, 0, none⟩)]) rfl (enters_of Tryz.func285 (by kernel_rfl) rfl) Hit.out (fun r h => h.elim)
  (fun h k => h.trans k) (fun V o o' ho hc => ⟨fun i p hx hp => by rw [World.putObj_heap_other (fun e => hx (.inr e))]; exact hp, by simp⟩) (World.grownBy.refl _ _) (fun _ => rfl)
  (fun pre V => ∃ v, Row V Rb 28 #[v] ∧ V.ownsRow lim 35 3 v (chZ (pre.map LsX.f)).length ((chZ (pre.map LsX.f)).flatMap chC) ∧ Below w.heap.size w V ∧ lim ≤ V.heap.size) (fun _ _ _ => False) (.inr fun _ _ _ h => h) ?hI ?hIx HI0.out
  (fun pre x a' V => a' = { tmps := #[.slice A l.length cap, .int .i64 (q : Int), undef, undef, .slice none 0 0, .pointer (some ⟨Rb, 0, none⟩), .slice A2 t.flat.length c2, .int .i64 x.op, .slice x.A x.l.length x.cap, undef, undef, .slice A l.length cap, .int .i64 (q : Int), .slice A2 t.flat.length c2, .slice A2 t.flat.length c2, .int .i64 (t.flat.length : Int), .bool true, .slice A2 t.flat.length c2, .func (.func 285) #[] #[.pointer (some ⟨bl, 0, none⟩)], .int .i64 x.op, .slice x.A x.l.length x.cap, undef, undef, undef, undef, undef, undef, undef, undef, undef, undef, undef, undef, undef, undef], defers := [] } ∧ LsP full pre x V) ?hAx ?assign ?body ?done ?stop
 case hI =>
  rintro pre X Y row ⟨v, h1, h2, h3, h4⟩ hg hr
  have hrow : ∀ r, row = some r → lim ≤ r ∧ v.ownBlock ≠ some r := fun r e => by
   rcases hr r e with h | ⟨h, o, ho, hc⟩
   · exact h.elim
   · exact ⟨by have := Hlim.out; omega, ZS h2 ho hc⟩
  refine ⟨v, h1.abide hg hr, h2.kept hg ?_, h3.grown hg h3.size (fun k e => by have := (hrow k e).1; omega), Nat.le_trans h4 hg.size⟩
  cases row with
  | none => cases v.ownBlock <;> simp
  | some r => exact .inr (hrow r rfl).2
 case hIx => exact fun _ _ _ _ _ h _ _ => h
 case hAx =>
  rintro pre x a' _ V V' row ⟨h1, h2, h3⟩ hg hr
  refine ⟨h1, ⟨h2.rd.grown hg (fun i e => ?_), h2.nil, fun a e => ?_⟩, h3⟩
  · rcases hr i e with h | ⟨h, o⟩
    · exact h.elim
    · exact o
  · obtain ⟨cs, hcs⟩ := h2.ty a e
    exact ⟨cs, hcs.abide hg hr⟩
 case assign =>
  rintro l3 pre x V K hI hP hK
  have HK := Lh hK
  have HI := Lh hI
  have HP := Lh hP
  clear hK hI hP
  unfold LsX.enc
  gi_wp2_with fail
  exact HK.out _ _ (KeepsFrom.refl _ _) (KpG.refl _ _) HI.out ⟨rfl, HP.out⟩
 case stop => exact fun D c pre W _ _ h _ => h.elim
 case body =>
  rintro l3 pre ⟨op, XA, xc, xl⟩ a' V hl3 hloop ⟨v, h1, h2, h3, h4⟩ ⟨rfl, hok, rest, hrest⟩ hlen
  have hpre : (chZ (pre.map LsX.f)).length + xl.length ≤ 100 := by
   have := Hfb.out
   rw [← hrest] at this
   simp only [chZ, List.flatMap_append, List.flatMap_cons, List.length_append, LsX.f, List.length_map] at this ⊢
   omega
  have hZ : ∀ a, XA = some a → ∃ cs, Row V a.block 3 cs ∧ ¬ (ChZ Rb lim a.block (.cells cs 3 (0, 0)) ∨ a.block = w3.heap.size + 1) := fun a e => by
   obtain ⟨cs, hcs⟩ := hok.ty a e
   refine ⟨cs, hcs, fun h => ?_⟩
   have hcs' : V.heap[a.block]? = some (.cells cs 3 (0, 0)) := hcs
   rcases h with (h | ⟨_, cs', fr', h⟩) | h
   · rw [h, show V.heap[Rb]? = some (.cells #[v] 28 (0, 0)) from h1] at hcs'
     injection hcs' with hcs'; injection hcs' with _ hcs'; exact absurd hcs' (by decide)
   · injection h with _ h; exact absurd h (by decide)
   · obtain ⟨r, hr⟩ := hloop
     rw [h, ← hl3, hr] at hcs'; cases hcs'
  have HZ := Lh hZ
  have Hok := Lh hok
  have Hrest := Lh hrest
  clear hZ hok hrest hlen hloop
  obtain ⟨i0, hi0, hz0, hz1, hz2⟩ := info_parts AaK
  have hxl : (xl.length : Int) ≤ 100 := by omega
  gi_wp2_with fail
  gi_loopw [23] (fun i wr => ∃ (k : Nat) (v : Value), i = .int .i64 (k : Int) ∧ k ≤ xl.length ∧ Row wr Rb 28 #[v] ∧ wr.ownsRow lim 35 3 v (chZ (pre.map LsX.f) ++ (xl.take k).map fun n => (op, n)).length ((chZ (pre.map LsX.f) ++ (xl.take k).map fun n => (op, n)).flatMap chC) ∧ Below w.heap.size w wr ∧ lim ≤ wr.heap.size ∧ KeepsFrom w3.heap.size V wr ∧ KpG (fun k o => ChZ Rb lim k o ∨ k = w3.heap.size + 1) V wr) (fun i _ => xl.length - (intOf i).toNat)
  case atStart => exact ⟨0, v, rfl, Nat.zero_le _, h1, by simpa using h2, h3, h4, KeepsFrom.refl _ _, KpG.refl _ _⟩
  case round =>
   clear h1 h2 h3 h4
   obtain ⟨k, v, rfl, hk, h1, h2, h3, h4, hkf, hkp⟩ := hrel
   by_cases hlt : k < xl.length
   · obtain ⟨y, hy⟩ : ∃ y, xl[k]? = some y := ⟨_, List.getElem?_eq_getElem hlt⟩
     obtain ⟨xa, hxa, _⟩ := Zf Hok.out.rd hy
     have hrd : Rd wr XA (Qi xl) := fun j u hj => by
      obtain ⟨a, e, hc⟩ := Hok.out.rd j u hj
      obtain ⟨cs, hcs, hnz⟩ := HZ.out a e
      exact ⟨a, e, (World.cell?_of_block (by rw [JV]; exact (hkp.row hcs hnz).trans hcs.symm)).trans hc⟩
     obtain ⟨xb, hxb, hcell⟩ := Zf hrd hy
     obtain rfl : xa = xb := by
      have hxa' : XA = some xa := hxa
      have hxb' : XA = some xb := hxb
      rw [hxa'] at hxb'; injection hxb'
     clear hxb
     subst hxa
     have Hy := Lh hy
     have hltI : (k : Int) < (xl.length : Int) := by omega
     have hc := h1.cellv (i := 0) (v := v) rfl
     have hf := h1.free 0
     have hy2 : (xl.take (k + 1)).map (fun n => (op, n)) = (xl.take k).map (fun n => (op, n)) ++ [(op, y)] := by rw [List.take_add_one, hy]; simp
     have hnb : (chZ (pre.map LsX.f) ++ (xl.take k).map fun n => (op, n)).length ≤ 100 := by
      rw [List.length_append, List.length_map, List.length_take]; omega
     have Hy2 := Lh hy2
     generalize hcs : chZ (pre.map LsX.f) ++ (xl.take k).map (fun n => (op, n)) = cs at h2 hnb
     have Hcs := Lh hcs
     clear hcs
     have HA := Lh (h2.alloc (.cells #[.slice none 0 0, .int .i64 op, .int .i64 y] 35))
     have H1 := Lh h1
     have H2 := Lh h2
     have H3 := Lh h3
     have H4 := Lh h4
     have Hkf := Lh hkf
     have Hkp := Lh hkp
     have hc5 : (wr.alloc (.cells #[.slice none 0 0, .int .i64 op, .int .i64 y] 35)).cell? ⟨Rb, 0, none⟩ = some v := (h1.alloc _).cellv (i := 0) rfl
     have Hc := Lh hcell
     clear hrd hy hy2 h1 h2 h3 h4 hkf hkp
     gi_wp2_with (gi_at_builtin; refine wpListIn_append_own_at _ rfl (.tmp 27) (.tmp 31) 28 rfl lim 35 i0 (.agg #[.slice none 0 0, .int .i64 0, .int .i64 0]) 3 40 Tryz.underlying28 hi0 hz0 hz1 hz2 rfl (by decide) v _ _ rfl HA.out ⟨wr.heap.size, 0, none⟩ 1 1 (chC (op, y)) rfl rfl (Jz _ _ _) (Ahd _) (by unfold maxLen; omega) (by omega) (by have := H4.out; simp; omega) ?_)
     intro v' W9 hown hg _ hat
     have r9 := (H1.out.alloc (.cells #[.slice none 0 0, .int .i64 op, .int .i64 y] 35)).grown hg (Qz HA.out (H1.out.alloc _) (by decide))
     have b9 := Qm (H3.out.alloc H3.out.size (.cells #[.slice none 0 0, .int .i64 op, .int .i64 y] 35)) HA.out hg (by have := H3.out.size; simp; omega) hwlim
     have k9 : KeepsFrom w3.heap.size V W9 := Hkf.out.trans ((KeepsFrom.alloc _ wr (.cells #[.slice none 0 0, .int .i64 op, .int .i64 y] 35)).trans (KeepsFrom.of_own HA.out hg))
     have p9 : KpG (fun k o => ChZ Rb lim k o ∨ k = w3.heap.size + 1) V W9 := Hkp.out.trans ((KpG.of_below ((Below.refl _ wr).alloc (Nat.le_refl _) _)).trans (Ait HA.out hg))
     have s9 : lim ≤ W9.heap.size := by have e1 := hg.size; have e2 := H4.out; rw [World.size_alloc] at e1; omega
     obtain ⟨A', m', c', rfl⟩ : ∃ A m c, v' = .slice A m c := JD hown
     have hc9 := r9.cellv (i := 0) (v := v) rfl
     have hf9 := r9.free 0
     have nG := Qz hown r9 (by decide)
     have o4 := Zc W9 Rb 0 (.slice A' m' c')
     have hown4 := QA hown o4 nG
     have r4 := r9.set 0 (.slice A' m' c')
     have HF : Hid (Row (W9.setCell ⟨Rb, 0, none⟩ (.slice A' m' c')) Rb 28 #[.slice A' m' c'] ∧ (W9.setCell ⟨Rb, 0, none⟩ (.slice A' m' c')).ownsRow lim 35 3 (.slice A' m' c') (chZ (pre.map LsX.f) ++ (xl.take (k + 1)).map fun n => (op, n)).length ((chZ (pre.map LsX.f) ++ (xl.take (k + 1)).map fun n => (op, n)).flatMap chC) ∧ Below w.heap.size w (W9.setCell ⟨Rb, 0, none⟩ (.slice A' m' c')) ∧ lim ≤ (W9.setCell ⟨Rb, 0, none⟩ (.slice A' m' c')).heap.size ∧ KeepsFrom w3.heap.size V (W9.setCell ⟨Rb, 0, none⟩ (.slice A' m' c')) ∧ KpG (fun k o => ChZ Rb lim k o ∨ k = w3.heap.size + 1) V (W9.setCell ⟨Rb, 0, none⟩ (.slice A' m' c'))) := by
      refine ⟨r4, ?_, Qo b9 o4 hRw, Nat.le_trans s9 (Nat.le_of_eq o4.size.symm), k9.trans (KeepsFrom.of_only r9 o4), p9.trans ⟨fun i o hx ho => by rw [o4.block i (fun e => hx (.inl (.inl e)))]; exact ho, Nat.le_of_eq o4.size.symm⟩⟩
      rw [Hy2.out, ← List.append_assoc, Hcs.out, List.length_append, List.flatMap_append, List.flatMap_singleton]
      exact hown4
     clear hown hg hat r9 b9 k9 p9 nG o4 hown4 r4 hc hf hc5 HA H1 H2 H3 H4 Hkf Hkp Hy2
     gi_wp2_with fail
     go_roundw
     case rel => exact ⟨k + 1, _, by go_num, by omega, HF.out⟩
     case measure => simp [intOf]; omega
   · obtain rfl : k = xl.length := by omega
     rw [List.take_length] at h2
     have HF : Hid (KeepsFrom w3.heap.size V wr ∧ KpG (fun k o => ChZ Rb lim k o ∨ k = w3.heap.size + 1) V wr ∧ ∃ v, Row wr Rb 28 #[v] ∧ wr.ownsRow lim 35 3 v (chZ ((pre ++ [(⟨op, XA, xc, xl⟩ : LsX)]).map LsX.f)).length ((chZ ((pre ++ [(⟨op, XA, xc, xl⟩ : LsX)]).map LsX.f)).flatMap chC) ∧ Below w.heap.size w wr ∧ lim ≤ wr.heap.size) := ⟨hkf, hkp, v, h1, by
      have e : chZ ((pre ++ [(⟨op, XA, xc, xl⟩ : LsX)]).map LsX.f) = chZ (pre.map LsX.f) ++ xl.map fun n => (op, n) := by rw [List.map_append, UP]; simp [chZ, LsX.f]
      rw [e]; exact h2, h3, h4⟩
     clear h1 h2 h3 h4 hkf hkp
     gi_wp2_with fail
     exact HF.out
 case done =>
  rintro D ys W hD hys ⟨v, h1, h2, h3, h4⟩ hK
  obtain ⟨A9, c9, rfl⟩ := Zd h2
  have hc := h1.cellv (i := 0) rfl
  have HK := Lh hK
  have H2 := Lh h2
  have H3 := Lh h3
  have Hys := Lh hys
  clear hK h1 h2 h3 hys
  gi_wp2
  refine ⟨by simp, .inl ⟨_, _, rfl, run_takeDeferred HK.out, ?_⟩⟩
  refine ⟨_, results_tmp rfl _ _ _, _, rfl, ?_, H3.out.grown (grownBy_putObj' _ _ _) H3.out.size (fun k e => by cases e; have := Hlim.out; omega)⟩
  rw [← Hfull.out, ← Hys.out]
  exact QI ((H2.out.kept (grownBy_putObj' _ _ _) (.inr (ZS H2.out HK.out rfl)))) hwlim
end Go.Proofs.YtdcmppdhdcjpfaaGreat
namespace Go.Proofs.YtdcmppdhdcjpfaaGreat
open Go.RowKit
def Ya (x y : Nd) (op : Int) : List Int := (Us x).filter (isC x y op)
def Ur (op : Int) (l : List Int) : List (Int × Int) := l.map fun n => (op, n)
theorem Et (x y : Nd) : ZE x y = Ur 1 (Ya x y 1) ++ (Ur 2 (Ya x y 2) ++ (Ur 3 (Ya x y 3) ++ (Ur 4 (Ya x y 4) ++ (Ur 5 (Ya x y 5) ++ (Ur 6 (Ya x y 6) ++ Ur 7 (Ya x y 7)))))) := by
 unfold ZE
 rw [show ((List.range 7).map fun i : Nat => (i : Int) + 1) = [1, 2, 3, 4, 5, 6, 7] from by decide]
 simp only [List.flatMap_cons, List.flatMap_nil, List.append_nil]
 rfl
theorem Yh {x y : Nd} {op : Int} {L : List Int} (h2 : x.tag = 2 → x.n = 0 ∨ x.n = 1) (hr : JE L) (hm : ∀ n, n ∈ L ↔ isC x y op n = true) : Ya x y op = L :=
 Um (JB _ (KL _)) hr fun n => by
  unfold Ya
  rw [List.mem_filter, hm]
  exact ⟨fun h => h.2, fun h => ⟨E9 h h2, h⟩⟩
theorem Un (lo hi but : Int) : JE (Jc lo hi but) := by
 refine JB _ (VP ?_)
 rw [List.pairwise_map]
 exact List.pairwise_lt_range.imp fun {i j} h => by show lo + (i : Int) < lo + (j : Int); omega
theorem VU {lo hi but n : Int} : n ∈ Jc lo hi but ↔ lo ≤ n ∧ n ≤ hi ∧ n ≠ but := by
 unfold Jc YU
 rw [List.mem_filter, List.mem_map]
 constructor
 · rintro ⟨⟨i, hi, rfl⟩, h⟩
   rw [List.mem_range] at hi
   have h' : lo + (i : Int) ≠ but := by simpa using h
   exact ⟨by omega, by omega, h'⟩
 · rintro ⟨h1, h2, h3⟩
   refine ⟨⟨(n - lo).toNat, List.mem_range.2 (by omega), by omega⟩, by simpa using h3⟩
theorem VF (but : Int) (l : List Int) : JE (JI but l) := JB _ (KL _)
theorem Aai {but n : Int} {l : List Int} : n ∈ JI but l ↔ n ∈ l ∧ n ≠ but := by
 unfold JI
 rw [List.mem_filter, Kz]
 simp
theorem AiK {x y : Nd} (h2 : x.tag = 2 → x.n = 0 ∨ x.n = 1) : Ya x y 1 = if 7 ≤ x.tag ∧ x.tag ≤ 11 then Jc 7 11 x.tag else [] := by
 refine Yh h2 (by split; exact Un _ _ _; trivial) fun n => ?_
 show _ ↔ decide _ = true
 rw [decide_eq_true_eq]
 split
 · rw [VU]; omega
 · simp; omega
theorem AiL {x y : Nd} (h2 : x.tag = 2 → x.n = 0 ∨ x.n = 1) : Ya x y 2 = if 12 ≤ x.tag ∧ x.tag ≤ 17 then Jc 12 17 x.tag else [] := by
 refine Yh h2 (by split; exact Un _ _ _; trivial) fun n => ?_
 show _ ↔ decide _ = true
 rw [decide_eq_true_eq]
 split
 · rw [VU]; omega
 · simp; omega
theorem AiM {x y : Nd} (h2 : x.tag = 2 → x.n = 0 ∨ x.n = 1) : Ya x y 3 = if x.tag = 18 ∨ x.tag = 19 then Jc 18 19 x.tag else [] := by
 refine Yh h2 (by split; exact Un _ _ _; trivial) fun n => ?_
 show _ ↔ decide _ = true
 rw [decide_eq_true_eq]
 split
 · rw [VU]; omega
 · simp; omega
theorem AiN {x y : Nd} (h2 : x.tag = 2 → x.n = 0 ∨ x.n = 1) : Ya x y 4 = if x.tag = 1 then JI x.n [0, 1, -1, wrap64 (x.n + 1), wrap64 (x.n - 1)] else if x.tag = 2 then [wrap64 (1 - x.n)] else [] := by
 refine Yh h2 (by split; exact VF _ _; split <;> trivial) fun n => ?_
 show _ ↔ decide _ = true
 rw [decide_eq_true_eq]
 split
 · rw [Aai]; simp only [List.mem_cons, List.not_mem_nil, or_false]; omega
 · split
   · simp only [List.mem_cons, List.not_mem_nil, or_false]; omega
   · simp only [List.not_mem_nil, false_iff]; omega
theorem AiO {x y : Nd} (h2 : x.tag = 2 → x.n = 0 ∨ x.n = 1) : Ya x y 5 = if x.tag = 21 ∨ x.tag = 22 ∨ x.tag = 23 ∨ x.tag = 24 ∨ x.tag = 25 then [0] else [] := by
 refine Yh h2 (by split <;> trivial) fun n => ?_
 show _ ↔ decide _ = true
 rw [decide_eq_true_eq]
 split
 · simp only [List.mem_cons, List.not_mem_nil, or_false]; omega
 · simp only [List.not_mem_nil, false_iff]; omega
theorem AiP {x y : Nd} (h2 : x.tag = 2 → x.n = 0 ∨ x.n = 1) : Ya x y 6 = if x.tag = 23 ∨ x.tag = 24 then [0] else [] := by
 refine Yh h2 (by split <;> trivial) fun n => ?_
 show _ ↔ decide _ = true
 rw [decide_eq_true_eq]
 split
 · simp only [List.mem_cons, List.not_mem_nil, or_false]; omega
 · simp only [List.not_mem_nil, false_iff]; omega
theorem AiQ {x y : Nd} (h2 : x.tag = 2 → x.n = 0 ∨ x.n = 1) : Ya x y 7 = if x.tag = 25 then Zv y else [] := by
 have hr : JE (Zv y) := by
  unfold Zv
  split
  · exact VF _ _
  · exact ⟨by omega, trivial⟩
 refine Yh h2 (by split; exact hr; trivial) fun n => ?_
 show _ ↔ decide _ = true
 rw [decide_eq_true_eq]
 split
 · unfold Zv
   split
   · rw [Aai]; simp only [List.mem_cons, List.not_mem_nil, or_false]; omega
   · simp only [List.mem_cons, List.not_mem_nil, or_false]; omega
 · simp only [List.not_mem_nil, false_iff]; omega
theorem AfN (o : Int) (l : List Int) : chZ [(o, l)] = Ur o l := by simp [chZ, Ur]
theorem Ahf (c : Prop) [Decidable c] (a b : List (Int × List Int)) : chZ (if c then a else b) = if c then chZ a else chZ b := by split <;> rfl
theorem AgI (c : Prop) [Decidable c] (o : Int) (a b : List Int) : Ur o (if c then a else b) = if c then Ur o a else Ur o b := by split <;> rfl
theorem AgJ (o : Int) : Ur o [] = [] := rfl
theorem Vy {x y : Nd} (h2 : x.tag = 2 → x.n = 0 ∨ x.n = 1) : chZ (JY x y) = ZE x y := by
 rw [Et, AiK h2, AiL h2, AiM h2, AiN h2, AiO h2, AiP h2, AiQ h2]
 unfold JY
 have hn : chZ [] = [] := rfl
 simp only [UP, Ahf, AfN, AgI, AgJ, hn]
 by_cases h5 : x.tag = 25
 · have a1 : ¬ (7 ≤ x.tag ∧ x.tag ≤ 11) := by omega
   have a2 : ¬ (12 ≤ x.tag ∧ x.tag ≤ 17) := by omega
   have a3 : ¬ (x.tag = 18 ∨ x.tag = 19) := by omega
   have a4 : ¬ (x.tag = 1) := by omega
   have a6 : ¬ (x.tag = 2) := by omega
   have a7 : ¬ (x.tag = 23 ∨ x.tag = 24) := by omega
   rw [if_neg a1, if_neg a2, if_neg a3, if_neg a4, if_neg a6, if_neg a7, if_pos h5, if_neg a1, if_neg a2, if_neg a3, if_neg a7]
   simp
 · rw [if_neg h5]
   by_cases a1 : 7 ≤ x.tag ∧ x.tag ≤ 11
   · have a2 : ¬ (12 ≤ x.tag ∧ x.tag ≤ 17) := by omega
     have a3 : ¬ (x.tag = 18 ∨ x.tag = 19) := by omega
     have a4 : ¬ (x.tag = 1) := by omega
     have a6 : ¬ (x.tag = 2) := by omega
     simp only [if_pos a1, if_neg a2, if_neg a3, if_neg a4, if_neg a6]
     simp
   by_cases a2 : 12 ≤ x.tag ∧ x.tag ≤ 17
   · have a3 : ¬ (x.tag = 18 ∨ x.tag = 19) := by omega
     have a4 : ¬ (x.tag = 1) := by omega
     have a6 : ¬ (x.tag = 2) := by omega
     simp only [if_neg a1, if_pos a2, if_neg a3, if_neg a4, if_neg a6]
     simp
   by_cases a3 : x.tag = 18 ∨ x.tag = 19
   · have a4 : ¬ (x.tag = 1) := by omega
     have a6 : ¬ (x.tag = 2) := by omega
     simp only [if_neg a1, if_neg a2, if_pos a3, if_neg a4, if_neg a6]
     simp
   simp only [if_neg a1, if_neg a2, if_neg a3]
   simp
theorem AiV {x y z : Nd} (h : x.tag ≠ 25) (op n : Int) : isC x y op n = isC x z op n := by
 unfold isC
 have e : decide (x.tag = 25 ∧ (n = 0 ∨ n = 1) ∧ ¬ (y.tag = 1 ∧ y.n = n)) = decide (x.tag = 25 ∧ (n = 0 ∨ n = 1) ∧ ¬ (z.tag = 1 ∧ z.n = n)) := by simp [h]
 rw [e]
theorem Add {x y z : Nd} (h : x.tag ≠ 25) : ZE x y = ZE x z := by
 unfold ZE
 have e : ∀ op, isC x y op = isC x z op := fun op => funext fun n => AiV h op n
 simp only [e]
theorem AgK {x : Nd} (h : ¬ Qv x < 0) : 1 ≤ x.tag ∧ x.tag ≤ 26 := by
 by_cases k : 1 ≤ x.tag ∧ x.tag ≤ 26
 · exact k
 · exact absurd (EI (t := x.tag) (n := x.n) k) (fun e => h (by have : Qv x = -1 := e; omega))
theorem AhZ {x : Nd} (h : ¬ Qv x < 0) (h2 : x.tag = 2) : x.n = 0 ∨ x.n = 1 := by
 obtain ⟨t, n⟩ := x
 simp only at h2
 subst h2
 unfold Qv at h
 simp only [Q2] at h
 by_cases k : n < 0 ∨ 1 < n
 · exfalso; apply h; simp; omega
 · show n = 0 ∨ n = 1; omega
theorem EJ {x : Nd} (h : ¬ Qv x < 0) (h2 : x.tag = 25) : Qv x = 1 := by
 obtain ⟨t, n⟩ := x
 simp only at h2
 subst h2
 unfold Qv at h ⊢
 simp only [Q2] at h ⊢
 by_cases k : n < 0 ∨ 0 < n
 · exfalso; apply h; simp; omega
 · simp; omega
theorem At.second {l : List Nd} {q : Nat} {t : Tr} (h : At l q t) (hk : t.kids ≠ []) : Uf l (q + 1) = t.flat.tail.headD ⟨0, 0⟩ := by
 obtain ⟨rest, e⟩ := h.here
 have hfl := t.flat_eq
 have hne : QF t.kids ≠ [] := by
  cases hk2 : t.kids with
  | nil => exact absurd hk2 hk
  | cons k ks => have := YD (k :: ks); intro e; rw [e] at this; simp at this
 have h1 : l[q + 1]? = (l.drop q)[1]? := by rw [List.getElem?_drop]
 unfold Uf
 rw [h1, e, hfl]
 cases hf : QF t.kids with
 | nil => exact absurd hf hne
 | cons y ys => simp
theorem Afe {l : List Nd} {q : Nat} {t : Tr} (h : At l q t) : Uf l q = t.root := by unfold Uf; rw [h.root]; rfl
theorem U8 {l : List Nd} {q : Nat} {t : Tr} (h : At l q t) (ha : ¬ Qv t.root < 0) : chZ (JY t.root (t.flat.tail.headD ⟨0, 0⟩)) = ZC l q := by
 rw [Vy (AhZ ha)]
 unfold ZC
 rw [Afe h]
 by_cases h25 : t.root.tag = 25
 · have hk : t.kids ≠ [] := fun e => by
    have h1 := h.fits.arity
    rw [EJ ha h25, e] at h1
    simp at h1
   rw [h.second hk]
 · exact Add h25
theorem Af8 {l : List Nd} {q : Nat} {t : Tr} (h : At l q t) (ha : ¬ Qv t.root < 0) (h25 : t.root.tag = 25) : t.kids ≠ [] := fun e => by
 have h1 := h.fits.arity
 rw [EJ ha h25, e] at h1
 simp at h1
end Go.Proofs.YtdcmppdhdcjpfaaGreat
namespace Go.Proofs.YtdcmppdhdcjpfaaGreat
open Go.RowKit Go.Deep
def YB (l : List DlV) : List Value := l.flatMap fun x => x.cells.toList
theorem Aig {W : World} {A : Option Addr} {l : List DlV} (hr : Rd W A (YB l)) {k : Nat} {x : DlV} (hx : l[k]? = some x) : ∃ ad, A = some ad ∧ ∀ (j : Nat) (u : Value), x.cells.toList[j]? = some u → W.cell? ((ad.add (k * 3)).add j) = some u :=
 Aeg (c := fun x : DlV => x.cells.toList) (sz := 3) (fun _ => rfl) (by decide) hr hx
instance St.dlok_all {l : List DlV} : St (fun W => ∀ x ∈ l, DlOk W x) := ⟨fun h b x hx => (h x hx).go b⟩
def AiG (l : List DlV) (d : Dl) (e : Ending) : Prop := ∃ r : Int, e = .returned (.int .i64 r) ∧ (0 ≤ r ↔ d ∈ l.map fun x => x.d)
theorem AbR (A : Option Addr) (cap : Nat) (l : List DlV) (y : DlV) (w : World) (hr : Rd w A (YB l)) (hl : l.length ≤ 1000000) (hok : ∀ x ∈ l, DlOk w x) (hy : DlOk w y) (hrise : Yb (l.map fun x => x.d)) :
 Calls Tryz.prog 54 #[.slice A l.length cap, .agg y.cells] w fun e w' => AiG l y.d e ∧ Below w.heap.size w w' := by
 have hl' : (l.length : Int) ≤ 1000000 := by omega
 have Hrise := Lh hrise
 clear hl hrise
 go_enter Tryz.func54, Tryz.ntmps54
 go_wp2_with (refine Qp _ _ rfl ?_)
 refine Stop.to ?_
 refine Qf rfl 35 _ rfl y.cells rfl ?_
 intro G Gw Gh Gr Gb
 have b1 := (Below.refl w.heap.size w).trans (Gb.mono Gh)
 obtain ⟨S, hSd⟩ : ∃ S, S = (fun W => (Row W G 35 y.cells ∧ Rd W A (YB l)) ∧ ((∀ x ∈ l, DlOk W x) ∧ (∀ x ∈ [y], DlOk W x)) ∧ Below w.heap.size w W) := ⟨_, rfl⟩
 have stS : St S := by rw [hSd]; infer_instance
 have T0 : Hid (∀ W, S W → Row W G 35 y.cells) := by show ∀ W, _; rw [hSd]; exact fun W h => h.1.1
 have T1 : Hid (∀ W, S W → Rd W A (YB l)) := by show ∀ W, _; rw [hSd]; exact fun W h => h.1.2
 have T2 : Hid (∀ W, S W → ∀ x ∈ l, DlOk W x) := by show ∀ W, _; rw [hSd]; exact fun W h => h.2.1.1
 have T3 : Hid (∀ W, S W → DlOk W y) := by show ∀ W, _; rw [hSd]; exact fun W h => h.2.1.2 y (by simp)
 have T4 : Hid (∀ W, S W → Below w.heap.size w W) := by show ∀ W, _; rw [hSd]; exact fun W h => h.2.2
 have hS : S Gw := by rw [hSd]; exact ⟨⟨Gr, hr.go b1⟩, ⟨fun x hx => (hok x hx).go b1, fun x hx => by rw [List.mem_singleton.1 hx]; exact hy.go b1⟩, b1⟩
 clear hSd Gr Gb Gh b1 hr hok hy
 go_wp2_with fail
 go_step3
 go_wp2_with fail
 go_step3
 go_wp2_with fail
 go_loopw [5, 6, 7] (fun a b f wr => ∃ lo hi : Nat, a = .int .i64 (lo : Int) ∧ b = .int .i64 (hi : Int) ∧ f = .int .i64 (-1) ∧ lo ≤ hi ∧ hi ≤ l.length ∧ Hid (∀ i : Nat, (l.map fun x => x.d)[i]? = some y.d → lo ≤ i ∧ i < hi) ∧ S wr) (fun a b _ _ => (intOf b - intOf a).toNat)
 case atStart => exact ⟨0, l.length, rfl, rfl, rfl, Nat.zero_le _, Nat.le_refl _, Lh (fun i hi => ⟨Nat.zero_le _, by have := (List.getElem?_eq_some_iff.1 hi).1; simpa using this⟩), hS⟩
 case round =>
  clear hS
  obtain ⟨lo, hi, rfl, rfl, rfl, hlh, hhl, Hin, hS⟩ := hrel
  by_cases hlt : lo < hi
  rotate_left
  · have hge : ¬ ((lo : Int) < (hi : Int)) := by omega
    have Hno : Hid (y.d ∉ l.map fun x => x.d) := fun hm => by
     obtain ⟨i, hi2⟩ := List.getElem?_of_mem hm
     have := Hin.out i hi2
     omega
    clear hlt
    go_wp2_with fail
    try rw [Exit.noGoto_ret]
    go_ret
    exact ⟨⟨-1, rfl, by simp; exact fun x hx e => Hno.out (List.mem_map.2 ⟨x, hx, e⟩)⟩, T4.out _ hS⟩
  obtain ⟨d, hd⟩ : ∃ d : Nat, d = (hi - lo) / 2 := ⟨_, rfl⟩
  have hdI : ((hi : Int) - (lo : Int)) / 2 = (d : Int) := by omega
  obtain ⟨m, hm⟩ : ∃ m : Nat, m = lo + d := ⟨_, rfl⟩
  have hmI : (lo : Int) + (d : Int) = (m : Int) := by omega
  have hm1 : lo ≤ m ∧ m < hi := by omega
  obtain ⟨x, hx⟩ : ∃ x, l[m]? = some x := ⟨_, List.getElem?_eq_getElem (by omega)⟩
  obtain ⟨ad, had, _⟩ := Aig (T1.out _ hS) hx
  have Hc : Hid (∀ W, S W → ∀ (j : Nat) (u : Value), x.cells.toList[j]? = some u → W.cell? ((ad.add (m * 3)).add j) = some u) := fun W h => by
   obtain ⟨ad', e1, e2⟩ := Aig (T1.out W h) hx
   rw [had] at e1; injection e1 with e1; subst e1; exact e2
  have Hx := Lh hx
  have hltI : (lo : Int) < (hi : Int) := by omega
  have hs0 : 0 ≤ (hi : Int) - (lo : Int) := by omega
  have hmlt : (m : Int) < (l.length : Int) := by omega
  have Hmem := Lh (List.mem_of_getElem? hx)
  clear hd hm hlt hx
  subst had
  go_wp2_with fail
  refine ZX S (by kernel_rfl) (by kernel_rfl) (St.drew hS) ?_
  clear hS
  iterate 3 (refine Qg rfl ?_ (fun W hW => ?_) ?_; rotate_left; (focus (go_simp; exact rfl)); simp only [Act.put, Qa, Qb, Qc])
  (refine Jf rfl 35 _ rfl ((ad.add (m * 3))) rfl x.cells.toList _ Hc.out Tryz.underlying35 rfl (by kernel_rfl) ?_; simp only [Act.put, Qa, Qb, Qc])
  (refine QO rfl 35 _ rfl (G) rfl 35 _ _ (fun W hW => T0.out W hW) Tryz.underlying35 rfl (by kernel_rfl) ?_; simp only [Act.put, Qa, Qb, Qc])
  (refine QE rfl 80 _ (fun W => by (go_simp; try rfl)) (.int .i64 (Jv x.d y.d)) (fun W hW => EW x y W (T2.out W hW x Hmem.out) (T3.out W hW)) ?_; simp only [Act.put, Qa, Qb, Qc])
  (refine Qg rfl ?_ (fun W hW => ?_) ?_; rotate_left; (focus (go_simp; exact rfl)); simp only [Act.put, Qa, Qb, Qc])
  refine QV fun W hS => ?_
  have hbd := Ahg x.d y.d
  have Hm : Hid ((l.map fun x => x.d)[m]? = some x.d) := Lh (by simp [Hx.out])
  obtain ⟨c, hc⟩ : ∃ c, c = Jv x.d y.d := ⟨_, rfl⟩
  have Hcc := Lh hc
  rw [← hc] at hbd
  rw [← hc]
  clear hc
  rcases hbd with rfl | rfl | rfl
  · have Hlo := Lh (AhR Hrise.out Hm.out (d := y.d) (by have := Hcc.out; omega))
    have hm3 : (m : Int) < 1000000 := by omega
    go_wp2_with fail
    refine ⟨⟨m + 1, hi, by simp, rfl, rfl, hm1.2, hhl, Lh (fun i hi2 => ⟨Hlo.out i hi2, (Hin.out i hi2).2⟩), hS⟩, ?_⟩
    simp only [intOf]; omega
  · have heq : x.d = y.d := cmpD_eq.1 Hcc.out.symm
    go_wp2_with fail
    try rw [Exit.noGoto_ret]
    go_ret
    exact ⟨⟨m, rfl, by simp only [Int.natCast_nonneg, true_iff]; rw [← heq]; exact List.mem_of_getElem? Hm.out⟩, T4.out _ hS⟩
  · have Hhi := Lh (AhQ Hrise.out Hm.out (d := y.d) (by have := Hcc.out; omega))
    go_wp2_with fail
    refine ⟨⟨lo, m, rfl, rfl, rfl, hm1.1, by omega, Lh (fun i hi2 => ⟨(Hin.out i hi2).1, Hhi.out i hi2⟩), hS⟩, ?_⟩
    simp only [intOf]; omega
end Go.Proofs.YtdcmppdhdcjpfaaGreat
