/- Lemmas for DirectMutantsP. -/
import Derived.Test.YtdcmppdhdcjpfaaGreatZp28
import Derived.Test.YtdcmppdhdcjpfaaGreatZp21
import Derived.Test.YtdcmppdhdcjpfaaGreatZp3
import Derived.Test.YtdcmppdhdcjpfaaGreatZp7
import Derived.Test.YtdcmppdhdcjpfaaGreatZp1
import Derived.OrdersIn
import Derived.RangeFuncCalls
set_option linter.unusedVariables false
set_option linter.unusedSimpArgs false
set_option maxRecDepth 100000
set_option maxHeartbeats 16000000
namespace Go.Proofs.YtdcmppdhdcjpfaaGreat
open Go.RowKit Go.Deep
attribute [local go_sem] Oper.semAt_some
theorem EP {w : World} {base n size m c : Nat} {e : TypeId} {A : Option Addr} {xs : List Value} (h : w.ownsRow base e size (.slice A m c) n xs) : Rd w A xs := by
 have hl : xs.length = n * size := h.1
 rcases h.2 with ⟨he, h0⟩ | ⟨g, cap, cur, he, hb, hh, hc, hm, hsz, ht⟩
 · have hx : xs = [] := List.eq_nil_of_length_eq_zero (by rw [hl, h0, Nat.zero_mul])
   subst hx
   exact Rd.nil _ _
 · injection he with he
   subst he
   refine fun j u hj => ⟨_, rfl, ?_⟩
   have hr : Row w g e cur := hh
   exact hr.from_ 0 (cs := xs) (fun j v hj => by
    rw [Nat.zero_add, ← Array.getElem?_toList]
    have h1 : (cur.toList.take (n * size))[j]? = some v := by rw [ht]; exact hj
    rw [List.getElem?_take_of_lt (by have := (List.getElem?_eq_some_iff.1 hj).1; omega)] at h1; exact h1) j u hj
structure ListsFn (A : Option Addr) (n cap : Nat) (w w' : World) (e : Ending) : Prop where
 ex : ∃ bl, e = .returned (.func (.func 285) #[] #[.pointer (some ⟨bl, 0, none⟩)]) ∧ Row w' bl 23 #[.slice A n cap] ∧ w.heap.size ≤ bl ∧ Below w.heap.size w w'
theorem Aab (A : Option Addr) (n cap : Nat) (w : World) :
 Calls Tryz.prog 268 #[.slice A n cap] w fun e w' => ListsFn A n cap w w' e := by
 go_enter Tryz.func268, Tryz.ntmps268
 go_wp2_with (refine Qq _ _ rfl ?_)
 refine Stop.to ?_
 refine Qe rfl 23 _ rfl #[.slice A n cap] rfl ?_
 intro G Gw Gh Gr Gb
 have b1 := (Below.refl w.heap.size w).trans (Gb.mono Gh)
 clear Gb
 go_wp2
 go_ret
 exact ⟨G, rfl, Gr, Gh, b1⟩
def chC (c : Int × Int) : List Value := [.slice none 0 0, .int .i64 c.1, .int .i64 c.2]
def chZ (ls : List (Int × List Int)) : List (Int × Int) := ls.flatMap fun e => e.2.map fun n => (e.1, n)
theorem Ed : (Tryz.prog.info? 35).map (fun i => (i.zero, i.size, i.bytes)) = some (some (.agg #[.slice none 0 0, .int .i64 0, .int .i64 0]), 3, 40) := by kernel_rfl
theorem AaW : (Tryz.prog.info? 35).map (fun i => (i.zero, i.size)) = some (some (.agg #[.slice none 0 0, .int .i64 0, .int .i64 0]), 3) := by kernel_rfl
theorem EV (but : Int) (l : List Int) : (JH but l).length ≤ l.length := Nat.le_trans (List.length_filter_le _ _) (UJ l)
theorem EF (lo hi but : Int) : (Z8 lo hi but).length ≤ (hi + 1 - lo).toNat := Acb _ _ _
theorem Y6 (a b : List (Int × List Int)) : chZ (a ++ b) = chZ a ++ chZ b := by simp [chZ]
theorem Kx (o : Int) (l : List Int) : (chZ [(o, l)]).length = l.length := by simp [chZ]
theorem Adu (x y : Nd) : (chZ (Zm x y)).length ≤ 100 := by
 have ha := EF 7 11 x.tag
 have hb := EF 12 17 x.tag
 have hc := EF 18 19 x.tag
 have hd := EV x.n [0, 1, -1, wrap64 (x.n + 1), wrap64 (x.n - 1)]
 have he : (Zt y).length ≤ 2 := by
  unfold Zt
  split
  · exact EV _ _
  · simp
 simp only [List.length_cons, List.length_nil] at hd
 unfold Zm
 rw [Y6, Y6, List.length_append, List.length_append]
 have e1 : ∀ (c : Prop) [Decidable c] (a b : List (Int × List Int)) (n : Nat), (chZ a).length ≤ n → (chZ b).length ≤ n → (chZ (if c then a else b)).length ≤ n := fun c _ a b n h1 h2 => by split <;> assumption
 have h1 := e1 (7 ≤ x.tag ∧ x.tag ≤ 11) [(1, Z8 7 11 x.tag)] _ 10 (by rw [Kx]; omega) (e1 (12 ≤ x.tag ∧ x.tag ≤ 17) [(2, Z8 12 17 x.tag)] _ 10 (by rw [Kx]; omega) (e1 (x.tag = 18 ∨ x.tag = 19) [(3, Z8 18 19 x.tag)] _ 10 (by rw [Kx]; omega) (e1 (x.tag = 1) [(4, JH x.n [0, 1, -1, wrap64 (x.n + 1), wrap64 (x.n - 1)])] _ 10 (by rw [Kx]; omega) (e1 (x.tag = 2) [(4, [wrap64 (1 - x.n)])] [] 10 (by rw [Kx]; simp) (by simp [chZ])))))
 have h2 := e1 (x.tag = 21 ∨ x.tag = 22 ∨ x.tag = 23 ∨ x.tag = 24 ∨ x.tag = 25) [(5, [0])] [] 10 (by rw [Kx]; simp) (by simp [chZ])
 have h3 := e1 (x.tag = 23 ∨ x.tag = 24) [(6, [0])] _ 10 (by rw [Kx]; simp) (e1 (x.tag = 25) [(7, Zt y)] [] 10 (by rw [Kx]; omega) (by simp [chZ]))
 omega
theorem AeS (c : Int × Int) : ∀ u ∈ chC c, u.oneCell' = true := by
 intro u hu
 simp only [chC, List.mem_cons, List.not_mem_nil, or_false] at hu
 rcases hu with rfl | rfl | rfl <;> rfl
structure ChsR (cs : List (Int × Int)) (w w' : World) (e : Ending) : Prop where
 ex : ∃ v, e = .returned v ∧ w'.ownsRow w.heap.size 35 3 v cs.length (cs.flatMap chC) ∧ Below w.heap.size w w'
def ChZ (Rb lim : Nat) (k : Nat) (o : Obj) : Prop := k = Rb ∨ (lim ≤ k ∧ ∃ cs fr, o = .cells cs 35 fr)
theorem AfN {Rb lim L n : Nat} {W W' : World} {v : Value} {xs : List Value} (h : W.ownsRow lim 35 3 v n xs) (hg : W.grownBy W' v.ownBlock) : KpG (fun k o => ChZ Rb lim k o ∨ k = L) W W' := ⟨fun k o hx ho => by
 refine (hg.block k (Array.getElem?_eq_some_iff.1 ho).1 (fun e => hx (.inl (.inr ?_)))).trans ho
 rcases h.2 with ⟨rfl, _⟩ | ⟨g, c, cur, rfl, hb, hr, _⟩
 · cases e
 · injection e with e
   have e' : k = g := e
   subst e'
   rw [hr] at ho; injection ho with ho
   exact ⟨hb, _, _, ho.symm⟩, hg.size⟩
theorem AaR (A : Option Addr) (cap : Nat) (l : List Nd) (q : Nat) (t : Tr) (w : World) (hat : At l q t) (hr : Rd w A (l.flatMap Nd.cells)) (hl : l.length ≤ 1000) (hlc : l.length ≤ cap) (hcm : cap ≤ maxLen) (ht1 : 1 ≤ t.root.tag) (ht2 : t.root.tag ≤ 26) (h25 : t.root.tag = 25 → t.kids ≠ []) :
 Calls Tryz.prog 244 #[.slice A l.length cap, .int .i64 (q : Int)] w fun e w' => ChsR (chZ (Zm t.root (t.flat.tail.headD ⟨0, 0⟩))) w w' e := by
 have Hp := Lh (fun W h => AdH A cap l q t W hat h hl hlc hcm)
 have Hr := Lh hr
 have hne : t.flat.length ≠ 0 := by cases t; simp [Tr.flat]
 have hfl : t.flat = t.root :: t.flat.tail := by rw [t.flat_eq]; rfl
 have Hfl := Lh hfl
 have Ht1 := Lh ht1
 have Ht2 := Lh ht2
 have H25 : Hid (t.root.tag = 25 → t.flat.tail ≠ []) := fun h => by
  have := h25 h
  rw [t.flat_eq]
  simp only [List.tail_cons]
  cases hk : t.kids with
  | nil => exact absurd hk this
  | cons k ks => have := Yo (k :: ks); intro e; rw [e] at this; simp at this
 have hpos : (0 : Int) < (t.flat.length : Int) := by omega
 clear hat hr hl hlc hcm ht1 ht2 h25 hne hfl
 refine (callsIn_wide (n := 0)).1 ?_
 refine callsIn_of_wp_marks Tryz.func244 rfl trivial ?_
 simp only [Tryz.ntmps244, List.size_toArray, List.length_cons, List.length_nil, Nat.reduceAdd, Nat.reduceSub, Array.replicate_succ, Array.replicate_zero, List.push_toArray, List.append_toArray, List.nil_append, List.cons_append]
 gi_wp2_with fail
 obtain ⟨Rb, hRb⟩ : ∃ B, B = w.heap.size := ⟨_, rfl⟩
 obtain ⟨w1, hw1⟩ : ∃ w1, w1 = w.alloc (.cells #[.slice none 0 0] 28) := ⟨_, rfl⟩
 have rR : Row w1 Rb 28 #[.slice none 0 0] := by rw [hw1, hRb]; exact Row.new _ _ _
 have b1 : Below w.heap.size w w1 := by rw [hw1]; exact (Below.refl _ _).alloc (Nat.le_refl _) _
 rw [← hw1, ← hRb]
 have hRw : w.heap.size ≤ Rb := Nat.le_of_eq hRb.symm
 clear hw1 hRb
 refine ⟨trivial, rfl, (callsIn_wide.2 (Hp.out w1 (Hr.out.go b1))).mono ?_⟩
 rintro e w2 ⟨v2, rfl, hown, b2⟩
 obtain ⟨A2, c2, rfl⟩ := Ze hown
 have hrd2 : Rd w2 A2 (t.flat.flatMap Nd.cells) := EP hown
 have ha2 : ∀ ad, A2 = some ad → Rb < ad.block := fun ad e => Nat.lt_of_lt_of_le rR.lt (Qz hown (by rw [e]; rfl))
 replace rR := rR.below b2 rR.lt
 have bb := b1.trans (b2.mono b1.size)
 have hR2 := rR.lt
 clear b1 b2 hown Hp
 gi_wp2_with fail
 refine ⟨trivial, rfl, (callsIn_wide.2 (Aab A2 t.flat.length c2 w2)).mono ?_⟩
 rintro e w3 ⟨bl, rfl, rl, gl, b3⟩
 replace rR := rR.below b3 rR.lt
 have hbl : bl ≠ Rb := by omega
 replace bb := bb.trans (b3.mono bb.size)
 have hC : ListsC A2 c2 t.flat.length bl Rb t.root t.flat.tail (ChZ Rb w3.heap.size) w3 := ⟨rl, by rw [← Hfl.out]; exact hrd2.go b3, by rw [← Hfl.out], fun k o h1 h2 h => by
  rcases h with h | ⟨h, _⟩
  · exact h2 h
  · omega, hbl, fun ad e => by have := ha2 ad e; omega, fun k cs tt fr h1 h2 h => by
  rcases h with h | ⟨_, cs', fr', h⟩
  · have := rR.lt; omega
  · injection h with _ h; subst h; rcases h2 with h2 | h2 | h2 | h2 <;> exact absurd h2 (by decide), H25.out⟩
 have Hit := Lh (Abn A2 c2 t.flat.length bl Rb t.root t.flat.tail (ChZ Rb w3.heap.size) w3 hC Ht1.out Ht2.out)
 have Hbb := Lh bb
 have rR3 := rR
 clear hC rl gl b3 bb hrd2 ha2 rR Hr H25
 gi_wp2_with fail
 obtain ⟨full, hfull⟩ : ∃ full, full = Zm t.root (t.flat.tail.headD ⟨0, 0⟩) := ⟨_, rfl⟩
 have hfb : (chZ full).length ≤ 100 := by rw [hfull]; exact Adu _ _
 rw [← hfull] at Hit
 have Hfull := Lh hfull
 have Hfb := Lh hfb
 obtain ⟨lim, hlim⟩ : ∃ lim, lim = w3.heap.size := ⟨_, rfl⟩
 have Hlim := Lh hlim
 have hRlim : Rb < lim := by rw [hlim]; exact rR3.lt
 have hwlim : w.heap.size ≤ lim := by rw [hlim]; exact Hbb.out.size
 rw [← hlim] at Hit
 have HI0 : Hid (∃ v, Row w3 Rb 28 #[v] ∧ w3.ownsRow lim 35 3 v (chZ (([] : List LsX).map LsX.f)).length ((chZ (([] : List LsX).map LsX.f)).flatMap chC) ∧ Below w.heap.size w w3 ∧ lim ≤ w3.heap.size) := ⟨_, rR3, World.ownsRow_nil _ _ _ _, Hbb.out, Nat.le_of_eq hlim⟩
 clear hfull hfb rR3 Hbb hlim
 refine YG (gf := 285) (lb := #[.pointer (some ⟨bl, 0, none⟩)]) rfl (enters_of Tryz.func285 (by kernel_rfl) rfl) Hit.out (fun r h => h.elim)
  (fun h k => h.trans k) (fun V o o' ho hc => ⟨fun i p hx hp => by rw [World.putObj_heap_other (fun e => hx (.inr e))]; exact hp, by simp⟩) (World.grownBy.refl _ _) (fun _ => rfl)
  (fun pre V => ∃ v, Row V Rb 28 #[v] ∧ V.ownsRow lim 35 3 v (chZ (pre.map LsX.f)).length ((chZ (pre.map LsX.f)).flatMap chC) ∧ Below w.heap.size w V ∧ lim ≤ V.heap.size) (fun _ _ _ => False) (.inr fun _ _ _ h => h) ?hI ?hIx HI0.out
  (fun pre x a' V => a' = { tmps := #[.slice A l.length cap, .int .i64 (q : Int), undef, undef, .slice none 0 0, .pointer (some ⟨Rb, 0, none⟩), .slice A2 t.flat.length c2, .int .i64 x.op, .slice x.A x.l.length x.cap, undef, undef, .slice A l.length cap, .int .i64 (q : Int), .slice A2 t.flat.length c2, .slice A2 t.flat.length c2, .int .i64 (t.flat.length : Int), .bool true, .slice A2 t.flat.length c2, .func (.func 285) #[] #[.pointer (some ⟨bl, 0, none⟩)], .int .i64 x.op, .slice x.A x.l.length x.cap, undef, undef, undef, undef, undef, undef, undef, undef, undef, undef, undef, undef, undef, undef], defers := [] } ∧ LsP full pre x V) ?hAx ?assign ?body ?done ?stop
 case hI =>
  rintro pre X Y row ⟨v, h1, h2, h3, h4⟩ hg hr
  have hrow : ∀ r, row = some r → lim ≤ r ∧ v.ownBlock ≠ some r := fun r e => by
   rcases hr r e with h | ⟨h, o, ho, hc⟩
   · exact h.elim
   · exact ⟨by have := Hlim.out; omega, JU h2 ho hc⟩
  refine ⟨v, h1.abide hg hr, h2.kept hg ?_, h3.grown hg h3.size (fun k e => by have := (hrow k e).1; omega), Nat.le_trans h4 hg.size⟩
  cases row with
  | none => cases v.ownBlock <;> simp
  | some r => exact .inr (hrow r rfl).2
 case hIx => exact fun _ _ _ _ _ h _ _ => h
 case hAx =>
  rintro pre x a' _ V V' row ⟨h1, h2, h3⟩ hg hr
  refine ⟨h1, ⟨h2.rd.grown hg (fun i e => ?_), h2.nil, fun a e => ?_⟩, h3⟩
  · rcases hr i e with h | ⟨h, o⟩
    · exact h.elim
    · exact o
  · obtain ⟨cs, hcs⟩ := h2.ty a e
    exact ⟨cs, hcs.abide hg hr⟩
 case assign =>
  rintro l3 pre x V K hI hP hK
  have HK := Lh hK
  have HI := Lh hI
  have HP := Lh hP
  clear hK hI hP
  unfold LsX.enc
  gi_wp2_with fail
  exact HK.out _ _ (KeepsFrom.refl _ _) (KpG.refl _ _) HI.out ⟨rfl, HP.out⟩
 case stop => exact fun D c pre W _ _ h _ => h.elim
 case body =>
  rintro l3 pre ⟨op, XA, xc, xl⟩ a' V hl3 hloop ⟨v, h1, h2, h3, h4⟩ ⟨rfl, hok, rest, hrest⟩ hlen
  have hpre : (chZ (pre.map LsX.f)).length + xl.length ≤ 100 := by
   have := Hfb.out
   rw [← hrest] at this
   simp only [chZ, List.flatMap_append, List.flatMap_cons, List.length_append, LsX.f, List.length_map] at this ⊢
   omega
  have hZ : ∀ a, XA = some a → ∃ cs, Row V a.block 3 cs ∧ ¬ (ChZ Rb lim a.block (.cells cs 3 (0, 0)) ∨ a.block = w3.heap.size + 1) := fun a e => by
   obtain ⟨cs, hcs⟩ := hok.ty a e
   refine ⟨cs, hcs, fun h => ?_⟩
   have hcs' : V.heap[a.block]? = some (.cells cs 3 (0, 0)) := hcs
   rcases h with (h | ⟨_, cs', fr', h⟩) | h
   · rw [h, show V.heap[Rb]? = some (.cells #[v] 28 (0, 0)) from h1] at hcs'
     injection hcs' with hcs'; injection hcs' with _ hcs'; exact absurd hcs' (by decide)
   · injection h with _ h; exact absurd h (by decide)
   · obtain ⟨r, hr⟩ := hloop
     rw [h, ← hl3, hr] at hcs'; cases hcs'
  have HZ := Lh hZ
  have Hok := Lh hok
  have Hrest := Lh hrest
  clear hZ hok hrest hlen hloop
  obtain ⟨i0, hi0, hz0, hz1, hz2⟩ := info_parts Ed
  have hxl : (xl.length : Int) ≤ 100 := by omega
  gi_wp2_with fail
  gi_loopw [23] (fun i wr => ∃ (k : Nat) (v : Value), i = .int .i64 (k : Int) ∧ k ≤ xl.length ∧ Row wr Rb 28 #[v] ∧ wr.ownsRow lim 35 3 v (chZ (pre.map LsX.f) ++ (xl.take k).map fun n => (op, n)).length ((chZ (pre.map LsX.f) ++ (xl.take k).map fun n => (op, n)).flatMap chC) ∧ Below w.heap.size w wr ∧ lim ≤ wr.heap.size ∧ KeepsFrom w3.heap.size V wr ∧ KpG (fun k o => ChZ Rb lim k o ∨ k = w3.heap.size + 1) V wr) (fun i _ => xl.length - (intOf i).toNat)
  case atStart => exact ⟨0, v, rfl, Nat.zero_le _, h1, by simpa using h2, h3, h4, KeepsFrom.refl _ _, KpG.refl _ _⟩
  case round =>
   clear h1 h2 h3 h4
   obtain ⟨k, v, rfl, hk, h1, h2, h3, h4, hkf, hkp⟩ := hrel
   by_cases hlt : k < xl.length
   · obtain ⟨y, hy⟩ : ∃ y, xl[k]? = some y := ⟨_, List.getElem?_eq_getElem hlt⟩
     obtain ⟨xa, hxa, _⟩ := QR Hok.out.rd hy
     have hrd : Rd wr XA (Qg xl) := fun j u hj => by
      obtain ⟨a, e, hc⟩ := Hok.out.rd j u hj
      obtain ⟨cs, hcs, hnz⟩ := HZ.out a e
      exact ⟨a, e, (World.cell?_of_block (by rw [JN]; exact (hkp.row hcs hnz).trans hcs.symm)).trans hc⟩
     obtain ⟨xb, hxb, hcell⟩ := QR hrd hy
     obtain rfl : xa = xb := by
      have hxa' : XA = some xa := hxa
      have hxb' : XA = some xb := hxb
      rw [hxa'] at hxb'; injection hxb'
     clear hxb
     subst hxa
     have Hy := Lh hy
     have hltI : (k : Int) < (xl.length : Int) := by omega
     have hc := h1.cellv (i := 0) (v := v) rfl
     have hf := h1.free 0
     have hy2 : (xl.take (k + 1)).map (fun n => (op, n)) = (xl.take k).map (fun n => (op, n)) ++ [(op, y)] := by rw [List.take_add_one, hy]; simp
     have hnb : (chZ (pre.map LsX.f) ++ (xl.take k).map fun n => (op, n)).length ≤ 100 := by
      rw [List.length_append, List.length_map, List.length_take]; omega
     have Hy2 := Lh hy2
     generalize hcs : chZ (pre.map LsX.f) ++ (xl.take k).map (fun n => (op, n)) = cs at h2 hnb
     have Hcs := Lh hcs
     clear hcs
     have HA := Lh (h2.alloc (.cells #[.slice none 0 0, .int .i64 op, .int .i64 y] 35))
     have H1 := Lh h1
     have H2 := Lh h2
     have H3 := Lh h3
     have H4 := Lh h4
     have Hkf := Lh hkf
     have Hkp := Lh hkp
     have hc5 : (wr.alloc (.cells #[.slice none 0 0, .int .i64 op, .int .i64 y] 35)).cell? ⟨Rb, 0, none⟩ = some v := (h1.alloc _).cellv (i := 0) rfl
     have Hc := Lh hcell
     clear hrd hy hy2 h1 h2 h3 h4 hkf hkp
     gi_wp2_with (gi_at_builtin; refine wpListIn_append_own_at _ rfl (.tmp 27) (.tmp 31) 28 rfl lim 35 i0 (.agg #[.slice none 0 0, .int .i64 0, .int .i64 0]) 3 40 Tryz.underlying28 hi0 hz0 hz1 hz2 rfl (by decide) v _ _ rfl HA.out ⟨wr.heap.size, 0, none⟩ 1 1 (chC (op, y)) rfl rfl (Je _ _ _) (AeS _) (by unfold maxLen; omega) (by omega) (by have := H4.out; simp; omega) ?_)
     intro v' W9 hown hg _ hat
     have r9 := (H1.out.alloc (.cells #[.slice none 0 0, .int .i64 op, .int .i64 y] 35)).grown hg (Qu HA.out (H1.out.alloc _) (by decide))
     have b9 := Q5 (H3.out.alloc H3.out.size (.cells #[.slice none 0 0, .int .i64 op, .int .i64 y] 35)) HA.out hg (by have := H3.out.size; simp; omega) hwlim
     have k9 : KeepsFrom w3.heap.size V W9 := Hkf.out.trans ((KeepsFrom.alloc _ wr (.cells #[.slice none 0 0, .int .i64 op, .int .i64 y] 35)).trans (KeepsFrom.of_own HA.out hg))
     have p9 : KpG (fun k o => ChZ Rb lim k o ∨ k = w3.heap.size + 1) V W9 := Hkp.out.trans ((KpG.of_below ((Below.refl _ wr).alloc (Nat.le_refl _) _)).trans (AfN HA.out hg))
     have s9 : lim ≤ W9.heap.size := by have e1 := hg.size; have e2 := H4.out; rw [World.size_alloc] at e1; omega
     obtain ⟨A', m', c', rfl⟩ : ∃ A m c, v' = .slice A m c := KU hown
     have hc9 := r9.cellv (i := 0) (v := v) rfl
     have hf9 := r9.free 0
     have nG := Qu hown r9 (by decide)
     have o4 := ZD W9 Rb 0 (.slice A' m' c')
     have hown4 := Qt hown o4 nG
     have r4 := r9.set 0 (.slice A' m' c')
     have HF : Hid (Row (W9.setCell ⟨Rb, 0, none⟩ (.slice A' m' c')) Rb 28 #[.slice A' m' c'] ∧ (W9.setCell ⟨Rb, 0, none⟩ (.slice A' m' c')).ownsRow lim 35 3 (.slice A' m' c') (chZ (pre.map LsX.f) ++ (xl.take (k + 1)).map fun n => (op, n)).length ((chZ (pre.map LsX.f) ++ (xl.take (k + 1)).map fun n => (op, n)).flatMap chC) ∧ Below w.heap.size w (W9.setCell ⟨Rb, 0, none⟩ (.slice A' m' c')) ∧ lim ≤ (W9.setCell ⟨Rb, 0, none⟩ (.slice A' m' c')).heap.size ∧ KeepsFrom w3.heap.size V (W9.setCell ⟨Rb, 0, none⟩ (.slice A' m' c')) ∧ KpG (fun k o => ChZ Rb lim k o ∨ k = w3.heap.size + 1) V (W9.setCell ⟨Rb, 0, none⟩ (.slice A' m' c'))) := by
      refine ⟨r4, ?_, Qv b9 o4 hRw, Nat.le_trans s9 (Nat.le_of_eq o4.size.symm), k9.trans (KeepsFrom.of_only r9 o4), p9.trans ⟨fun i o hx ho => by rw [o4.block i (fun e => hx (.inl (.inl e)))]; exact ho, Nat.le_of_eq o4.size.symm⟩⟩
      rw [Hy2.out, ← List.append_assoc, Hcs.out, List.length_append, List.flatMap_append, List.flatMap_singleton]
      exact hown4
     clear hown hg hat r9 b9 k9 p9 nG o4 hown4 r4 hc hf hc5 HA H1 H2 H3 H4 Hkf Hkp Hy2
     gi_wp2_with fail
     go_roundw
     case rel => exact ⟨k + 1, _, by go_num, by omega, HF.out⟩
     case measure => simp [intOf]; omega
   · obtain rfl : k = xl.length := by omega
     rw [List.take_length] at h2
     have HF : Hid (KeepsFrom w3.heap.size V wr ∧ KpG (fun k o => ChZ Rb lim k o ∨ k = w3.heap.size + 1) V wr ∧ ∃ v, Row wr Rb 28 #[v] ∧ wr.ownsRow lim 35 3 v (chZ ((pre ++ [(⟨op, XA, xc, xl⟩ : LsX)]).map LsX.f)).length ((chZ ((pre ++ [(⟨op, XA, xc, xl⟩ : LsX)]).map LsX.f)).flatMap chC) ∧ Below w.heap.size w wr ∧ lim ≤ wr.heap.size) := ⟨hkf, hkp, v, h1, by
      have e : chZ ((pre ++ [(⟨op, XA, xc, xl⟩ : LsX)]).map LsX.f) = chZ (pre.map LsX.f) ++ xl.map fun n => (op, n) := by rw [List.map_append, Y6]; simp [chZ, LsX.f]
      rw [e]; exact h2, h3, h4⟩
     clear h1 h2 h3 h4 hkf hkp
     gi_wp2_with fail
     exact HF.out
 case done =>
  rintro D ys W hD hys ⟨v, h1, h2, h3, h4⟩ hK
  obtain ⟨A9, c9, rfl⟩ := Ze h2
  have hc := h1.cellv (i := 0) rfl
  have HK := Lh hK
  have H2 := Lh h2
  have H3 := Lh h3
  have Hys := Lh hys
  clear hK h1 h2 h3 hys
  gi_wp2
  refine ⟨by simp, .inl ⟨_, _, rfl, run_takeDeferred HK.out, ?_⟩⟩
  refine ⟨_, results_tmp rfl _ _ _, _, rfl, ?_, H3.out.grown (grownBy_putObj' _ _ _) H3.out.size (fun k e => by cases e; have := Hlim.out; omega)⟩
  rw [← Hfull.out, ← Hys.out]
  exact QH ((H2.out.kept (grownBy_putObj' _ _ _) (.inr (JU H2.out HK.out rfl)))) hwlim
end Go.Proofs.YtdcmppdhdcjpfaaGreat
namespace Go.Proofs.YtdcmppdhdcjpfaaGreat
open Go.RowKit
theorem UP : ∀ {l : List Int}, JB l → l.Pairwise (· < ·)
 | [], _ => .nil
 | a :: l, h => .cons (fun b hb => Z2 h hb) (UP (JO h))
theorem Aet {l : List Dl} (h : l.Pairwise fun a b => Ka a b < 0) : XL l := by
 induction h with
 | nil => trivial
 | @cons a l ha _ ih =>
  cases l with
  | nil => trivial
  | cons b l => exact ⟨ha b (by simp), ih⟩
theorem Vb : ∀ {l : List (Nat × List Int)}, Un l → l.Pairwise fun a b => Zj a.2 b.2 < 0
 | [], _ => .nil
 | a :: l, h => .cons h.1 (Vb h.2)
theorem Vk (x y : Nd) : (ZV x y).Pairwise fun a b => a.1 < b.1 ∨ (a.1 = b.1 ∧ a.2 < b.2) := by
 unfold ZV
 rw [List.pairwise_flatMap]
 refine ⟨fun op _ => ?_, ?_⟩
 · rw [List.pairwise_map]
   exact (UP (JC _ (Kt _))).imp fun h => .inr ⟨rfl, h⟩
 · rw [List.pairwise_map]
   refine List.pairwise_lt_range.imp fun {i j} hij => ?_
   intro a ha b hb
   rw [List.mem_map] at ha hb
   obtain ⟨m, _, rfl⟩ := ha
   obtain ⟨n, _, rfl⟩ := hb
   exact .inl (by show (i : Int) + 1 < (j : Int) + 1; omega)
def YC (l : List Nd) (q : Nat) : Nd := (l[q]?).getD ⟨0, 0⟩
def ZX (l : List Nd) (q : Nat) : List (Int × Int) := ZV (YC l q) (YC l (q + 1))
def Ji (l : List Nd) (t : Tr) : List Dl := (QX [] 0 t).flatMap fun e => (ZX l e.1).map fun c => ⟨e.2, c.1, c.2⟩
theorem VY (l : List Nd) (t : Tr) : XL (Ji l t) := by
 refine Aet ?_
 unfold Ji
 rw [List.pairwise_flatMap]
 refine ⟨fun e _ => ?_, ?_⟩
 · rw [List.pairwise_map]
   refine (Vk _ _).imp fun {a b} h => ?_
   unfold Ka orI
   simp only [Vt]
   rw [if_neg (by simp)]
   rcases h with h | ⟨h1, h2⟩
   · have := cmpI_lt.2 h
     rw [if_pos (by omega)]; exact this
   · rw [if_neg (by simpa using cmpI_eq.2 h1)]; exact cmpI_lt.2 h2
 · refine (Vb (YK t [] 0)).imp fun {a b} h => ?_
   intro d hd e he
   rw [List.mem_map] at hd he
   obtain ⟨c, _, rfl⟩ := hd
   obtain ⟨c', _, rfl⟩ := he
   unfold Ka orI
   simp only
   rw [if_pos (by omega)]; exact h
theorem allZ_mem {l : List Nd} {t : Tr} {d : Dl} : d ∈ Ji l t ↔ ∃ q k, Zu d.path 0 t = some (q, k) ∧ (d.op, d.n) ∈ ZX l q := by
 unfold Ji
 rw [List.mem_flatMap]
 constructor
 · rintro ⟨⟨q, π⟩, h1, h2⟩
   rw [List.mem_map] at h2
   obtain ⟨c, hc, rfl⟩ := h2
   obtain ⟨k, hk⟩ := (J7 t [] 0 q π).1 (by simpa using h1)
   exact ⟨q, k, hk, hc⟩
 · rintro ⟨q, k, h1, h2⟩
   refine ⟨(q, d.path), ?_, ?_⟩
   · have := (J7 t [] 0 q d.path).2 ⟨k, h1⟩
     simpa using this
   · rw [List.mem_map]
     exact ⟨_, h2, rfl⟩
theorem Aff {l : List Dl} (h : XL l) {m : Nat} {d e : Dl} (hm : l[m]? = some e) (hc : Ka e d < 0) : ∀ i, l[i]? = some d → m < i := by
 intro i hi
 rcases Nat.lt_trichotomy m i with x | x | x
 · exact x
 · subst x; rw [hm] at hi; injection hi with hi; subst hi; rw [VE] at hc; omega
 · have := Yx h hi hm x
   rw [AdB] at this; omega
theorem AeI {l : List Dl} (h : XL l) {m : Nat} {d e : Dl} (hm : l[m]? = some e) (hc : 0 < Ka e d) : ∀ i, l[i]? = some d → i < m := by
 intro i hi
 rcases Nat.lt_trichotomy i m with x | x | x
 · exact x
 · subst x; rw [hm] at hi; injection hi with hi; subst hi; rw [VE] at hc; omega
 · have := Yx h hm hi x
   omega
def XK (x y : Nd) (op : Int) : List Int := (EC x).filter (isC x y op)
def YF (op : Int) (l : List Int) : List (Int × Int) := l.map fun n => (op, n)
theorem Vg (x y : Nd) : ZV x y = YF 1 (XK x y 1) ++ (YF 2 (XK x y 2) ++ (YF 3 (XK x y 3) ++ (YF 4 (XK x y 4) ++ (YF 5 (XK x y 5) ++ (YF 6 (XK x y 6) ++ YF 7 (XK x y 7)))))) := by
 unfold ZV
 rw [show ((List.range 7).map fun i : Nat => (i : Int) + 1) = [1, 2, 3, 4, 5, 6, 7] from by decide]
 simp only [List.flatMap_cons, List.flatMap_nil, List.append_nil]
 rfl
theorem XR {x y : Nd} {op : Int} {L : List Int} (h2 : x.tag = 2 → x.n = 0 ∨ x.n = 1) (hr : JB L) (hm : ∀ n, n ∈ L ↔ isC x y op n = true) : XK x y op = L :=
 YJ (JC _ (Kt _)) hr fun n => by
  unfold XK
  rw [List.mem_filter, hm]
  exact ⟨fun h => h.2, fun h => ⟨VN h h2, h⟩⟩
theorem Yw (lo hi but : Int) : JB (Z8 lo hi but) := by
 refine JC _ (Uc ?_)
 rw [List.pairwise_map]
 exact List.pairwise_lt_range.imp fun {i j} h => by show lo + (i : Int) < lo + (j : Int); omega
theorem Uz {lo hi but n : Int} : n ∈ Z8 lo hi but ↔ lo ≤ n ∧ n ≤ hi ∧ n ≠ but := by
 unfold Z8 X8
 rw [List.mem_filter, List.mem_map]
 constructor
 · rintro ⟨⟨i, hi, rfl⟩, h⟩
   rw [List.mem_range] at hi
   have h' : lo + (i : Int) ≠ but := by simpa using h
   exact ⟨by omega, by omega, h'⟩
 · rintro ⟨h1, h2, h3⟩
   refine ⟨⟨(n - lo).toNat, List.mem_range.2 (by omega), by omega⟩, by simpa using h3⟩
theorem UA (but : Int) (l : List Int) : JB (JH but l) := JC _ (Kt _)
theorem VC {but n : Int} {l : List Int} : n ∈ JH but l ↔ n ∈ l ∧ n ≠ but := by
 unfold JH
 rw [List.mem_filter, XG]
 simp
theorem Agm {x y : Nd} (h2 : x.tag = 2 → x.n = 0 ∨ x.n = 1) : XK x y 1 = if 7 ≤ x.tag ∧ x.tag ≤ 11 then Z8 7 11 x.tag else [] := by
 refine XR h2 (by split; exact Yw _ _ _; trivial) fun n => ?_
 show _ ↔ decide _ = true
 rw [decide_eq_true_eq]
 split
 · rw [Uz]; omega
 · simp; omega
theorem Agp {x y : Nd} (h2 : x.tag = 2 → x.n = 0 ∨ x.n = 1) : XK x y 2 = if 12 ≤ x.tag ∧ x.tag ≤ 17 then Z8 12 17 x.tag else [] := by
 refine XR h2 (by split; exact Yw _ _ _; trivial) fun n => ?_
 show _ ↔ decide _ = true
 rw [decide_eq_true_eq]
 split
 · rw [Uz]; omega
 · simp; omega
theorem Agq {x y : Nd} (h2 : x.tag = 2 → x.n = 0 ∨ x.n = 1) : XK x y 3 = if x.tag = 18 ∨ x.tag = 19 then Z8 18 19 x.tag else [] := by
 refine XR h2 (by split; exact Yw _ _ _; trivial) fun n => ?_
 show _ ↔ decide _ = true
 rw [decide_eq_true_eq]
 split
 · rw [Uz]; omega
 · simp; omega
theorem Agd {x y : Nd} (h2 : x.tag = 2 → x.n = 0 ∨ x.n = 1) : XK x y 4 = if x.tag = 1 then JH x.n [0, 1, -1, wrap64 (x.n + 1), wrap64 (x.n - 1)] else if x.tag = 2 then [wrap64 (1 - x.n)] else [] := by
 refine XR h2 (by split; exact UA _ _; split <;> trivial) fun n => ?_
 show _ ↔ decide _ = true
 rw [decide_eq_true_eq]
 split
 · rw [VC]; simp only [List.mem_cons, List.not_mem_nil, or_false]; omega
 · split
   · simp only [List.mem_cons, List.not_mem_nil, or_false]; omega
   · simp only [List.not_mem_nil, false_iff]; omega
theorem Af1 {x y : Nd} (h2 : x.tag = 2 → x.n = 0 ∨ x.n = 1) : XK x y 5 = if x.tag = 21 ∨ x.tag = 22 ∨ x.tag = 23 ∨ x.tag = 24 ∨ x.tag = 25 then [0] else [] := by
 refine XR h2 (by split <;> trivial) fun n => ?_
 show _ ↔ decide _ = true
 rw [decide_eq_true_eq]
 split
 · simp only [List.mem_cons, List.not_mem_nil, or_false]; omega
 · simp only [List.not_mem_nil, false_iff]; omega
theorem Af2 {x y : Nd} (h2 : x.tag = 2 → x.n = 0 ∨ x.n = 1) : XK x y 6 = if x.tag = 23 ∨ x.tag = 24 then [0] else [] := by
 refine XR h2 (by split <;> trivial) fun n => ?_
 show _ ↔ decide _ = true
 rw [decide_eq_true_eq]
 split
 · simp only [List.mem_cons, List.not_mem_nil, or_false]; omega
 · simp only [List.not_mem_nil, false_iff]; omega
theorem Af3 {x y : Nd} (h2 : x.tag = 2 → x.n = 0 ∨ x.n = 1) : XK x y 7 = if x.tag = 25 then Zt y else [] := by
 have hr : JB (Zt y) := by
  unfold Zt
  split
  · exact UA _ _
  · exact ⟨by omega, trivial⟩
 refine XR h2 (by split; exact hr; trivial) fun n => ?_
 show _ ↔ decide _ = true
 rw [decide_eq_true_eq]
 split
 · unfold Zt
   split
   · rw [VC]; simp only [List.mem_cons, List.not_mem_nil, or_false]; omega
   · simp only [List.mem_cons, List.not_mem_nil, or_false]; omega
 · simp only [List.not_mem_nil, false_iff]; omega
theorem Aen (o : Int) (l : List Int) : chZ [(o, l)] = YF o l := by simp [chZ, YF]
theorem AeB (c : Prop) [Decidable c] (a b : List (Int × List Int)) : chZ (if c then a else b) = if c then chZ a else chZ b := by split <;> rfl
theorem AdY (c : Prop) [Decidable c] (o : Int) (a b : List Int) : YF o (if c then a else b) = if c then YF o a else YF o b := by split <;> rfl
theorem Ad1 (o : Int) : YF o [] = [] := rfl
theorem Uk {x y : Nd} (h2 : x.tag = 2 → x.n = 0 ∨ x.n = 1) : chZ (Zm x y) = ZV x y := by
 rw [Vg, Agm h2, Agp h2, Agq h2, Agd h2, Af1 h2, Af2 h2, Af3 h2]
 unfold Zm
 have hn : chZ [] = [] := rfl
 simp only [Y6, AeB, Aen, AdY, Ad1, hn]
 by_cases h5 : x.tag = 25
 · have a1 : ¬ (7 ≤ x.tag ∧ x.tag ≤ 11) := by omega
   have a2 : ¬ (12 ≤ x.tag ∧ x.tag ≤ 17) := by omega
   have a3 : ¬ (x.tag = 18 ∨ x.tag = 19) := by omega
   have a4 : ¬ (x.tag = 1) := by omega
   have a6 : ¬ (x.tag = 2) := by omega
   have a7 : ¬ (x.tag = 23 ∨ x.tag = 24) := by omega
   rw [if_neg a1, if_neg a2, if_neg a3, if_neg a4, if_neg a6, if_neg a7, if_pos h5, if_neg a1, if_neg a2, if_neg a3, if_neg a7]
   simp
 · rw [if_neg h5]
   by_cases a1 : 7 ≤ x.tag ∧ x.tag ≤ 11
   · have a2 : ¬ (12 ≤ x.tag ∧ x.tag ≤ 17) := by omega
     have a3 : ¬ (x.tag = 18 ∨ x.tag = 19) := by omega
     have a4 : ¬ (x.tag = 1) := by omega
     have a6 : ¬ (x.tag = 2) := by omega
     simp only [if_pos a1, if_neg a2, if_neg a3, if_neg a4, if_neg a6]
     simp
   by_cases a2 : 12 ≤ x.tag ∧ x.tag ≤ 17
   · have a3 : ¬ (x.tag = 18 ∨ x.tag = 19) := by omega
     have a4 : ¬ (x.tag = 1) := by omega
     have a6 : ¬ (x.tag = 2) := by omega
     simp only [if_neg a1, if_pos a2, if_neg a3, if_neg a4, if_neg a6]
     simp
   by_cases a3 : x.tag = 18 ∨ x.tag = 19
   · have a4 : ¬ (x.tag = 1) := by omega
     have a6 : ¬ (x.tag = 2) := by omega
     simp only [if_neg a1, if_neg a2, if_pos a3, if_neg a4, if_neg a6]
     simp
   simp only [if_neg a1, if_neg a2, if_neg a3]
   simp
mutual
def Xi : Tr → Int
 | .node _ ks => depK ks + 1
def depK : List Tr → Int
 | [] => 0
 | t :: ts => max (Xi t) (depK ts)
end
theorem Ez : ∀ ks : List Tr, 0 ≤ depK ks
 | [] => by rw [depK]; omega
 | t :: ts => by rw [depK]; have := Ez ts; omega
theorem VS (t : Tr) : ∀ a : List Tr, depK (a ++ [t]) = max (depK a) (Xi t)
 | [] => by
  have h1 : 0 ≤ Xi t := by cases t with | node x ks => rw [Xi]; have := Ez ks; omega
  have h2 : depK [] = 0 := by rw [depK]
  rw [List.nil_append, h2]
  show depK (t :: []) = _
  rw [depK.eq_2, h2]; omega
 | u :: a => by rw [List.cons_append, depK, depK, VS t a]; omega
mutual
theorem AbX : ∀ t : Tr, Xi t ≤ (t.size : Int)
 | .node x ks => by
  have := Ab9 ks
  have h2 : (Tr.node x ks).size = (QF ks).length + 1 := by rw [Tr.size, Tr.flat, List.length_cons]
  rw [Xi, h2]; omega
theorem Ab9 : ∀ ks : List Tr, depK ks ≤ ((QF ks).length : Int)
 | [] => by simp [depK, QF]
 | t :: ts => by
  have := AbX t
  have := Ab9 ts
  have h2 : (QF (t :: ts)).length = t.size + (QF ts).length := by rw [QF, List.length_append]; rfl
  rw [depK, h2]; omega
end
structure Whole (l : List Nd) (t : Tr) : Prop where
 hat : At l 0 t
 size : t.size = l.length
theorem Whole.of {l : List Nd} (h : endZ l 0 = (l.length : Int)) : ∃ t, Whole l t := by
 obtain ⟨t, hat, _⟩ := XX (l := l) (a := 0) (by omega)
 have h2 := hat.endZ
 have h3 : endZ l 0 = ((0 + t.size : Nat) : Int) := by simpa using h2
 exact ⟨t, hat, by omega⟩
theorem Whole.endZ {l : List Nd} {t : Tr} (h : Whole l t) : endZ l 0 = (l.length : Int) := by
 have h2 := h.hat.endZ
 rw [h.size] at h2
 simpa using h2
theorem Whole.uniq {l : List Nd} {a b : Tr} (h : Whole l a) (k : Whole l b) : a = b := h.hat.uniq k.hat
theorem Whole.pos {l : List Nd} {t : Tr} (h : Whole l t) : 0 < l.length := by have := h.hat.lt; omega
theorem Good.whole {p : PgV} {t : Tr} (h : Good p t) : Whole p.body t := ⟨h.hat, h.size⟩
open Classical in
noncomputable def Zy (l : List Nd) : Int :=
 if l.length = 0 then 10 else if 200 < l.length then 4 else if ∃ x ∈ l, Qw x < 0 then 11 else if endZ l 0 ≠ (l.length : Int) then 12 else if ∃ t, Whole l t ∧ 30 < Xi t then 13 else 0
theorem ER {l : List Nd} (h : l.length = 0) : Zy l = 10 := by unfold Zy; rw [if_pos h]
theorem ES {l : List Nd} (h : 200 < l.length) : Zy l = 4 := by unfold Zy; rw [if_neg (by omega), if_pos h]
theorem AaJ {l : List Nd} (h0 : ¬ l.length = 0) (h1 : ¬ 200 < l.length) {x : Nd} (hx : x ∈ l) (h : Qw x < 0) : Zy l = 11 := by unfold Zy; rw [if_neg h0, if_neg h1, if_pos ⟨x, hx, h⟩]
theorem EZ {l : List Nd} (h0 : ¬ l.length = 0) (h1 : ¬ 200 < l.length) (h2 : ∀ x ∈ l, ¬ Qw x < 0) (h : endZ l 0 ≠ (l.length : Int)) : Zy l = 12 := by
 unfold Zy; rw [if_neg h0, if_neg h1, if_neg (fun ⟨x, hx, hn⟩ => h2 x hx hn), if_pos h]
theorem Y8 {l : List Nd} (h1 : ¬ 200 < l.length) (h2 : ∀ x ∈ l, ¬ Qw x < 0) {t : Tr} (ht : Whole l t) : Zy l = if 30 < Xi t then 13 else 0 := by
 have h0 := ht.pos
 unfold Zy
 rw [if_neg (by omega), if_neg h1, if_neg (fun ⟨x, hx, hn⟩ => h2 x hx hn), if_neg (fun h => h ht.endZ)]
 by_cases hd : 30 < Xi t
 · rw [if_pos hd, if_pos ⟨t, ht, hd⟩]
 · rw [if_neg hd, if_neg (fun ⟨u, hu, hn⟩ => hd (by rw [ht.uniq hu]; exact hn))]
theorem V6 {l : List Nd} (h : Zy l = 0) : l.length ≤ 200 ∧ (∀ x ∈ l, ¬ Qw x < 0) ∧ ∃ t, Whole l t ∧ Xi t ≤ 30 := by
 by_cases h0 : l.length = 0
 · rw [ER h0] at h; cases h
 by_cases h1 : 200 < l.length
 · rw [ES h1] at h; cases h
 by_cases h2 : ∃ x ∈ l, Qw x < 0
 · obtain ⟨x, hx, hn⟩ := h2
   rw [AaJ h0 h1 hx hn] at h; cases h
 have h2' : ∀ x ∈ l, ¬ Qw x < 0 := fun x hx hn => h2 ⟨x, hx, hn⟩
 by_cases h3 : endZ l 0 = (l.length : Int)
 · obtain ⟨t, ht⟩ := Whole.of h3
   rw [Y8 h1 h2' ht] at h
   refine ⟨by omega, h2', t, ht, ?_⟩
   by_cases hd : 30 < Xi t
   · rw [if_pos hd] at h; cases h
   · omega
 · rw [EZ h0 h1 h2' h3] at h; cases h
open Classical in
noncomputable def Zn (p : PgV) : Int := if Zy p.body ≠ 0 then Zy p.body else if Jy p.params p.V ≠ 0 then 14 else if ∃ t, Good p t then 0 else 15
theorem E3 {p : PgV} (h : Zy p.body ≠ 0) : Zn p = Zy p.body := by unfold Zn; rw [if_pos h]
theorem E8 {p : PgV} (h : Zy p.body = 0) (h1 : Jy p.params p.V ≠ 0) : Zn p = 14 := by unfold Zn; rw [if_neg (by simp [h]), if_pos h1]
theorem Um {p : PgV} (h : Zy p.body = 0) (h1 : Jy p.params p.V = 0) (h2 : ∀ t, ¬ Good p t) : Zn p = 15 := by
 unfold Zn; rw [if_neg (by simp [h]), if_neg (by simp [h1]), if_neg (fun ⟨t, ht⟩ => h2 t ht)]
theorem Aax {p : PgV} (h : Zy p.body = 0) (h1 : Jy p.params p.V = 0) {t : Tr} (h2 : Good p t) : Zn p = 0 := by
 unfold Zn; rw [if_neg (by simp [h]), if_neg (by simp [h1]), if_pos ⟨t, h2⟩]
structure Fine (p : PgV) (t : Tr) : Prop where
 good : Good p t
 len : p.body.length ≤ 200
 ar : ∀ x ∈ p.body, ¬ Qw x < 0
 dep : Xi t ≤ 30
theorem checkP_ok {p : PgV} : Zn p = 0 ↔ ∃ t, Fine p t := by
 constructor
 · intro h
   by_cases h0 : Zy p.body = 0
   · by_cases h1 : Jy p.params p.V = 0
     · by_cases h2 : ∃ t, Good p t
       · obtain ⟨t, ht⟩ := h2
         obtain ⟨a, b, u, hu, c⟩ := V6 h0
         have : t = u := ht.whole.uniq hu
         exact ⟨t, ht, a, b, by rw [this]; exact c⟩
       · rw [Um h0 h1 (fun t ht => h2 ⟨t, ht⟩)] at h; cases h
     · rw [E8 h0 h1] at h; cases h
   · rw [E3 h0] at h; exact absurd h h0
 · rintro ⟨t, ht⟩
   have ha : Zy p.body = 0 := by rw [Y8 (by have := ht.len; omega) ht.ar ht.good.whole, if_neg (by have := ht.dep; omega)]
   refine Aax ha ?_ ht.good
   unfold Jy; rw [if_pos ht.good.vars]
theorem AfU {x y z : Nd} (h : x.tag ≠ 25) (op n : Int) : isC x y op n = isC x z op n := by
 unfold isC
 have e : decide (x.tag = 25 ∧ (n = 0 ∨ n = 1) ∧ ¬ (y.tag = 1 ∧ y.n = n)) = decide (x.tag = 25 ∧ (n = 0 ∨ n = 1) ∧ ¬ (z.tag = 1 ∧ z.n = n)) := by simp [h]
 rw [e]
theorem AbH {x y z : Nd} (h : x.tag ≠ 25) : ZV x y = ZV x z := by
 unfold ZV
 have e : ∀ op, isC x y op = isC x z op := fun op => funext fun n => AfU h op n
 simp only [e]
theorem Ady {x : Nd} (h : ¬ Qw x < 0) : 1 ≤ x.tag ∧ x.tag ≤ 26 := by
 by_cases k : 1 ≤ x.tag ∧ x.tag ≤ 26
 · exact k
 · exact absurd (VD (t := x.tag) (n := x.n) k) (fun e => h (by have : Qw x = -1 := e; omega))
theorem AeE {x : Nd} (h : ¬ Qw x < 0) (h2 : x.tag = 2) : x.n = 0 ∨ x.n = 1 := by
 obtain ⟨t, n⟩ := x
 simp only at h2
 subst h2
 unfold Qw at h
 simp only [Q1] at h
 by_cases k : n < 0 ∨ 1 < n
 · exfalso; apply h; simp; omega
 · show n = 0 ∨ n = 1; omega
theorem Vu {x : Nd} (h : ¬ Qw x < 0) (h2 : x.tag = 25) : Qw x = 1 := by
 obtain ⟨t, n⟩ := x
 simp only at h2
 subst h2
 unfold Qw at h ⊢
 simp only [Q1] at h ⊢
 by_cases k : n < 0 ∨ 0 < n
 · exfalso; apply h; simp; omega
 · simp; omega
theorem At.second {l : List Nd} {q : Nat} {t : Tr} (h : At l q t) (hk : t.kids ≠ []) : YC l (q + 1) = t.flat.tail.headD ⟨0, 0⟩ := by
 obtain ⟨rest, e⟩ := h.here
 have hfl := t.flat_eq
 have hne : QF t.kids ≠ [] := by
  cases hk2 : t.kids with
  | nil => exact absurd hk2 hk
  | cons k ks => have := Yo (k :: ks); intro e; rw [e] at this; simp at this
 have h1 : l[q + 1]? = (l.drop q)[1]? := by rw [List.getElem?_drop]
 unfold YC
 rw [h1, e, hfl]
 cases hf : QF t.kids with
 | nil => exact absurd hf hne
 | cons y ys => simp
theorem Acy {l : List Nd} {q : Nat} {t : Tr} (h : At l q t) : YC l q = t.root := by unfold YC; rw [h.root]; rfl
theorem Ua {l : List Nd} {q : Nat} {t : Tr} (h : At l q t) (ha : ¬ Qw t.root < 0) : chZ (Zm t.root (t.flat.tail.headD ⟨0, 0⟩)) = ZX l q := by
 rw [Uk (AeE ha)]
 unfold ZX
 rw [Acy h]
 by_cases h25 : t.root.tag = 25
 · have hk : t.kids ≠ [] := fun e => by
    have h1 := h.fits.arity
    rw [Vu ha h25, e] at h1
    simp at h1
   rw [h.second hk]
 · exact AbH h25
theorem Ad7 {l : List Nd} {q : Nat} {t : Tr} (h : At l q t) (ha : ¬ Qw t.root < 0) (h25 : t.root.tag = 25) : t.kids ≠ [] := fun e => by
 have h1 := h.fits.arity
 rw [Vu ha h25, e] at h1
 simp at h1
section
variable {P : Program} {ops : Array Oper} {Q : Exit → Act → World → Prop} {l : Nat}
theorem Aej {o : Oper} (hnd : ∀ c, o.op ≠ .defer c) {a : Act} {w : World} {K K' : Act → World → Prop} (h : ∀ a w, K a w → K' a w) (hh : o.wp P a w K Q) : o.wpIn (Fence.wide.inRound l) 0 P a w K' Q := by
 unfold Oper.wpIn
 refine ⟨fun _ _ => trivial, ?_⟩
 rw [Oper.semAt_plain _ _ _ hnd]
 unfold Oper.wp at hh
 generalize (execOp a.eval o).run P w = r at *
 cases r with
 | ok x w' =>
  cases x with
  | value v => exact h _ _ hh
  | skip => exact h _ _ hh
  | defer d => exact h _ _ hh
  | enter f args =>
   refine ⟨fun e => by simp [Fence.wide] at e, CallsIn.inRound l (callsIn_wide.2 (Calls.mono (hh : Calls _ _ _ _ _) fun e w'' he => ?_))⟩
   cases e with
   | returned v => exact h _ _ he
   | panicked c => exact he
   | outgrown => exact he
  | row rn args =>
   refine ⟨fun e => by simp [Fence.wide] at e, fun c cs _ => ?_⟩
   obtain ⟨v, w', r, s⟩ := (hh : Rows _ _ _ _ _) c cs
   exact ⟨v, w', h _ _ r, stepsIn_wide.2 s⟩
  | _ => exact (hh : False).elim
 | halt x w' => cases x <;> first | exact hh | exact (hh : False).elim
def Ends (Q : Exit → Act → World → Prop) : Exit → Act → World → Prop
 | .normal, a, w => Q .normal a w
 | _, _, _ => False
theorem Ends.imp : ∀ (e : Exit) (a : Act) (w : World), Ends Q e a w → Q e a w := fun e a w h => by cases e <;> first | exact h | exact (h : False).elim
theorem Xn {a : Act} {w : World} (h : Q .normal a w) : Ends Q .normal a w := h
theorem Ad4 : ¬ LetsOut (Ends Q) := fun ⟨_, _, h⟩ => h
def XI (ops : Array Oper) : Bool := ops.all fun o => match o.op with | .defer _ => false | _ => true
theorem Abu {i : Nat} {o : Oper} (h : XI ops = true) (ho : ops[i]? = some o) : ∀ c, o.op ≠ .defer c := fun c hc => by
 obtain ⟨hi, e⟩ := Array.getElem?_eq_some_iff.1 ho
 have := (Array.all_eq_true.1 h) i hi
 rw [e, hc] at this
 cases this
theorem Aa7 (h : XI ops = true) {i : Nat} {a : Act} {w : World} {K K' : Act → World → Prop} (hK : ∀ a w, K a w → K' a w) (hh : wpOp P ops (Ends Q) i K a w) : wpOpIn (Fence.wide.inRound l) 0 P ops (Ends Q) i K' a w := by
 unfold wpOp at hh
 unfold wpOpIn
 cases ho : ops[i]? with
 | none => simp only [ho] at hh ⊢; exact hK _ _ hh
 | some o =>
  simp only [ho] at hh ⊢
  by_cases hw : Region.wanted o (yielded ops a.tmps) = true
  · rw [if_pos hw]
    rw [if_pos hw] at hh
    rcases hh with hh | ⟨_, hh⟩
    · exact Aej (Abu h ho) hK hh
    · exact absurd hh Ad4
  · rw [if_neg hw]
    rw [if_neg hw] at hh
    exact ⟨fun _ _ => trivial, hK _ _ hh⟩
theorem YN {md : Region.Mode} (h : XI ops = true) : ∀ (fuel : Nat) (listed : Array Bool) (a : Act) (w : World), wpAny P md ops (Ends Q) fuel listed a w → wpAnyIn (Fence.wide.inRound l) 0 P md ops (Ends Q) fuel listed a w
 | 0, _, _, _, hh => hh
 | fuel + 1, listed, a, w, hh => ⟨hh.1, fun i hi => Aa7 h (fun a w k => YN h fuel _ a w k) (hh.2 i hi)⟩
theorem YT {id : Nat} {a : Act} {w : World} (hm : P.follows .mixedOrders = true) (hd : XI ops = true) (h : wpAny P .any ops (Ends Q) ops.size (Array.replicate ops.size false) a w.drew) : (Code.region id ops true).wpIn (Fence.wide.inRound l) 0 P Q a w :=
 wpIn_mono (wpIn_region_any hm (YN hd _ _ _ _ h)) Ends.imp
end
theorem Ye {P : Program} {r : Nat} {id : Nat} {Q : Exit → Act → World → Prop} {a : Act} {w : World} {l : List Oper} (S : World → Prop) (n : Nat) (hm : P.follows .mixedOrders = true) (hd : XI l.toArray = true) (hB : Region.lexTailB .any l.toArray n = true) (hS : S w.drew)
 (h : ZL P l.toArray S (fun a' => ∀ W, S W → wpList P l.toArray (Ends Q) (l.drop n) a' W) (l.take n) a) : (Code.region id l.toArray true).wpIn (Fence.wide.inRound r) 0 P Q a w := by
 simp only [Region.lexTailB, Bool.and_eq_true, decide_eq_true_eq] at hB
 obtain ⟨⟨⟨⟨hsel, hn⟩, hs⟩, hc⟩, hlex⟩ := hB
 have hn' : n < l.length := by simpa using hn
 have htl : (l.take n).length = n := by simp; omega
 have hdl : (l.drop n).length = l.toArray.size - n := by simp
 have inv0 : HeadInv .any l.toArray n (Array.replicate l.toArray.size false) :=
  ⟨by simp, fun j oj _ hl => (by rw [getD_replicate_false] at hl; cases hl), fun t _ ht => getD_in (by simpa using ht) (getD_replicate_false _ _)⟩
 have H := Xk (md := .any) (g := l.toArray.size - n) hsel hs hc hn (l.take n) 0 _ a (fun j hj => by
  have hj' : j < n := by rw [htl] at hj; exact hj
  simp [hj']) (by simpa using htl) inv0 (by rw [htl]; exact hlex) h
 refine YT hm hd ?_
 have := Kk (Q' := Ends Q) (g := l.toArray.size - n) (fun listed a' W hL hW => by
  have := wpAny_of_seq (md := .any) (Q' := Ends Q) (l.drop n) n listed a' W (fun j => by simp [List.getElem?_drop]) (by rw [hdl]; exact hL.1) (hL.2 W hW)
  rwa [hdl] at this) _ _ _ _ hS H
 rw [htl, show n + (l.toArray.size - n) = l.toArray.size by omega] at this
 exact this
end Go.Proofs.YtdcmppdhdcjpfaaGreat
