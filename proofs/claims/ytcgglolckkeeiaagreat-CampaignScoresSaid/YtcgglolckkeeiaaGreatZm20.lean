/- Lemmas for CmAll. -/
import Derived.Test.YtcgglolckkeeiaaGreatZm19
import Derived.Test.YtcgglolckkeeiaaGreatZm9
import Derived.Test.YtcgglolckkeeiaaGreatZm15
import Derived.Test.YtcgglolckkeeiaaGreatZm16
import Derived.Test.YtcgglolckkeeiaaGreatZm17
namespace Go.Proofs.YtcgglolckkeeiaaGreat
set_option linter.unusedVariables false
open Go.RowKit Go.Deep
attribute [local go_sem] Oper.semAt_some
theorem own_rdS {w : World} {base n size m c : Nat} {e : TypeId} {A : Option Addr} {xs : List Value} (h : w.ownsRow base e size (.slice A m c) n xs) : Rd w A xs := by
 have hl : xs.length = n * size := h.1
 rcases h.2 with ⟨he, h0⟩ | ⟨g, cap, cur, he, hb, hh, hc, hm, hsz, ht⟩
 · have hx : xs = [] := List.eq_nil_of_length_eq_zero (by rw [hl, h0, Nat.zero_mul])
   subst hx
   exact Rd.nil _ _
 · injection he with he
   subst he
   refine fun j u hj => ⟨_, rfl, ?_⟩
   have hr : Row w g e cur := hh
   exact hr.from_ 0 (cs := xs) (fun j v hj => by
    rw [Nat.zero_add, ← Array.getElem?_toList]
    have h1 : (cur.toList.take (n * size))[j]? = some v := by rw [ht]; exact hj
    rw [List.getElem?_take_of_lt (by have := (List.getElem?_eq_some_iff.1 hj).1; omega)] at h1; exact h1) j u hj
theorem own_rdM {w : World} {base n size : Nat} {e : TypeId} {v : Value} {xs : List Value} (h : w.ownsRow base e size v n xs) : ∃ A cap, v = .slice A n cap ∧ Rd w A xs ∧ n ≤ cap ∧ cap ≤ maxLen ∧ (A = none → cap = 0) ∧ ∀ ad, A = some ad → base ≤ ad.block := by
 obtain ⟨A, cap, rfl⟩ := own_sl h
 refine ⟨A, cap, rfl, own_rdS h, ?_⟩
 rcases h.2 with ⟨e2, h0⟩ | ⟨g, c, cur, e2, hb, _, hc, hm, _⟩
 · injection e2 with e3 e4 e5
   subst e3 e5
   exact ⟨by omega, by unfold maxLen; omega, fun _ => rfl, fun ad e => by cases e⟩
 · injection e2 with e3 e4 e5
   subst e3 e5
   exact ⟨hc, hm, fun e => (by cases e), fun ad e => by cases e; exact hb⟩
structure ListsFn (A : Option Addr) (n cap : Nat) (w w' : World) (e : Ending) : Prop where
 ex : ∃ bl, e = .returned (.func (.func 226) #[] #[.pointer (some ⟨bl, 0, none⟩)]) ∧ Row w' bl 23 #[.slice A n cap] ∧ w.heap.size ≤ bl ∧ Below w.heap.size w w'
set_option maxRecDepth 100000 in
set_option maxHeartbeats 2000000 in
theorem listsFn_any (A : Option Addr) (n cap : Nat) (w : World) :
 Calls Tryz.prog 213 #[.slice A n cap] w fun e w' => ListsFn A n cap w w' e := by
 go_enter Tryz.func213, Tryz.ntmps213
 go_wp2_with (refine at_box _ _ rfl ?_)
 refine Stop.to ?_
 refine wpList_box_gen rfl 23 _ rfl #[.slice A n cap] rfl ?_
 intro G Gw Gh Gr Gb
 have b1 := (Below.refl w.heap.size w).trans (Gb.mono Gh)
 clear Gb
 go_wp2
 go_ret
 exact ⟨G, rfl, Gr, Gh, b1⟩
def chC (c : Int × Int) : List Value := [.slice none 0 0, .int .i64 c.1, .int .i64 c.2]
def chZ (ls : List (Int × List Int)) : List (Int × Int) := ls.flatMap fun e => e.2.map fun n => (e.1, n)
theorem info_dl : (Tryz.prog.info? 42).map (fun i => (i.zero, i.size, i.bytes)) = some (some (.agg #[.slice none 0 0, .int .i64 0, .int .i64 0]), 3, 40) := by kernel_rfl
theorem info_dlz : (Tryz.prog.info? 42).map (fun i => (i.zero, i.size)) = some (some (.agg #[.slice none 0 0, .int .i64 0, .int .i64 0]), 3) := by kernel_rfl
theorem onceZ_le (but : Int) (l : List Int) : (onceZ but l).length ≤ l.length := Nat.le_trans (List.length_filter_le _ _) (sortU_le l)
theorem rowZ_le (lo hi but : Int) : (rowZ lo hi but).length ≤ (hi + 1 - lo).toNat := rowK_le _ _ _
theorem chZ_app (a b : List (Int × List Int)) : chZ (a ++ b) = chZ a ++ chZ b := by simp [chZ]
theorem chZ_one (o : Int) (l : List Int) : (chZ [(o, l)]).length = l.length := by simp [chZ]
theorem chZ_le (x y : Nd) : (chZ (listsZ x y)).length ≤ 100 := by
 have ha := rowZ_le 7 11 x.tag
 have hb := rowZ_le 12 17 x.tag
 have hc := rowZ_le 18 19 x.tag
 have hd := onceZ_le x.n [0, 1, -1, wrap64 (x.n + 1), wrap64 (x.n - 1)]
 have he : (answersZ y).length ≤ 2 := by
  unfold answersZ
  split
  · exact onceZ_le _ _
  · simp
 simp only [List.length_cons, List.length_nil] at hd
 unfold listsZ
 rw [chZ_app, chZ_app, List.length_append, List.length_append]
 have e1 : ∀ (c : Prop) [Decidable c] (a b : List (Int × List Int)) (n : Nat), (chZ a).length ≤ n → (chZ b).length ≤ n → (chZ (if c then a else b)).length ≤ n := fun c _ a b n h1 h2 => by split <;> assumption
 have h1 := e1 (7 ≤ x.tag ∧ x.tag ≤ 11) [(1, rowZ 7 11 x.tag)] _ 10 (by rw [chZ_one]; omega) (e1 (12 ≤ x.tag ∧ x.tag ≤ 17) [(2, rowZ 12 17 x.tag)] _ 10 (by rw [chZ_one]; omega) (e1 (x.tag = 18 ∨ x.tag = 19) [(3, rowZ 18 19 x.tag)] _ 10 (by rw [chZ_one]; omega) (e1 (x.tag = 1) [(4, onceZ x.n [0, 1, -1, wrap64 (x.n + 1), wrap64 (x.n - 1)])] _ 10 (by rw [chZ_one]; omega) (e1 (x.tag = 2) [(4, [wrap64 (1 - x.n)])] [] 10 (by rw [chZ_one]; simp) (by simp [chZ])))))
 have h2 := e1 (x.tag = 21 ∨ x.tag = 22 ∨ x.tag = 23 ∨ x.tag = 24 ∨ x.tag = 25) [(5, [0])] [] 10 (by rw [chZ_one]; simp) (by simp [chZ])
 have h3 := e1 (x.tag = 23 ∨ x.tag = 24) [(6, [0])] _ 10 (by rw [chZ_one]; simp) (e1 (x.tag = 25) [(7, answersZ y)] [] 10 (by rw [chZ_one]; omega) (by simp [chZ]))
 omega
theorem chC_one (c : Int × Int) : ∀ u ∈ chC c, u.oneCell' = true := by
 intro u hu
 simp only [chC, List.mem_cons, List.not_mem_nil, or_false] at hu
 rcases hu with rfl | rfl | rfl <;> rfl
structure ChsR (cs : List (Int × Int)) (w w' : World) (e : Ending) : Prop where
 ex : ∃ v, e = .returned v ∧ w'.ownsRow w.heap.size 42 3 v cs.length (cs.flatMap chC) ∧ Below w.heap.size w w'
def ChZ (Rb lim : Nat) (k : Nat) (o : Obj) : Prop := k = Rb ∨ (lim ≤ k ∧ ∃ cs fr, o = .cells cs 42 fr)
theorem kg_own {Rb lim L n : Nat} {W W' : World} {v : Value} {xs : List Value} (h : W.ownsRow lim 42 3 v n xs) (hg : W.grownBy W' v.ownBlock) : KpG (fun k o => ChZ Rb lim k o ∨ k = L) W W' := ⟨fun k o hx ho => by
 refine (hg.block k (Array.getElem?_eq_some_iff.1 ho).1 (fun e => hx (.inl (.inr ?_)))).trans ho
 rcases h.2 with ⟨rfl, _⟩ | ⟨g, c, cur, rfl, hb, hr, _⟩
 · cases e
 · injection e with e
   have e' : k = g := e
   subst e'
   rw [hr] at ho; injection ho with ho
   exact ⟨hb, _, _, ho.symm⟩, hg.size⟩
set_option maxRecDepth 100000 in
set_option maxHeartbeats 4000000 in
theorem choices_any (A : Option Addr) (cap : Nat) (l : List Nd) (q : Nat) (t : Tr) (w : World) (hat : At l q t) (hr : Rd w A (l.flatMap Nd.cells)) (hl : l.length ≤ 1000) (hlc : l.length ≤ cap) (hcm : cap ≤ maxLen) (ht1 : 1 ≤ t.root.tag) (ht2 : t.root.tag ≤ 26) (h25 : t.root.tag = 25 → t.kids ≠ []) :
 Calls Tryz.prog 202 #[.slice A l.length cap, .int .i64 (q : Int)] w fun e w' => ChsR (chZ (listsZ t.root (t.flat.tail.headD ⟨0, 0⟩))) w w' e := by
 have Hp := Lib.hid (fun W h => part_any A cap l q t W hat h hl hlc hcm)
 have Hr := Lib.hid hr
 have hne : t.flat.length ≠ 0 := by cases t; simp [Tr.flat]
 have hfl : t.flat = t.root :: t.flat.tail := by rw [t.flat_eq]; rfl
 have Hfl := Lib.hid hfl
 have Ht1 := Lib.hid ht1
 have Ht2 := Lib.hid ht2
 have H25 : Hid (t.root.tag = 25 → t.flat.tail ≠ []) := fun h => by
  have := h25 h
  rw [t.flat_eq]
  simp only [List.tail_cons]
  cases hk : t.kids with
  | nil => exact absurd hk this
  | cons k ks => have := flats_ge (k :: ks); intro e; rw [e] at this; simp at this
 have hpos : (0 : Int) < (t.flat.length : Int) := by omega
 clear hat hr hl hlc hcm ht1 ht2 h25 hne hfl
 refine (callsIn_wide (n := 0)).1 ?_
 refine callsIn_of_wp_marks Tryz.func202 rfl trivial ?_
 simp only [Tryz.ntmps202, List.size_toArray, List.length_cons, List.length_nil, Nat.reduceAdd, Nat.reduceSub, Array.replicate_succ, Array.replicate_zero, List.push_toArray, List.append_toArray, List.nil_append, List.cons_append]
 gi_wp2_with fail
 obtain ⟨Rb, hRb⟩ : ∃ B, B = w.heap.size := ⟨_, rfl⟩
 obtain ⟨w1, hw1⟩ : ∃ w1, w1 = w.alloc (.cells #[.slice none 0 0] 94) := ⟨_, rfl⟩
 have rR : Row w1 Rb 94 #[.slice none 0 0] := by rw [hw1, hRb]; exact Row.new _ _ _
 have b1 : Below w.heap.size w w1 := by rw [hw1]; exact (Below.refl _ _).alloc (Nat.le_refl _) _
 rw [← hw1, ← hRb]
 have hRw : w.heap.size ≤ Rb := Nat.le_of_eq hRb.symm
 clear hw1 hRb
 refine ⟨trivial, rfl, (callsIn_wide.2 (Hp.out w1 (Hr.out.go b1))).mono ?_⟩
 rintro e w2 ⟨v2, rfl, hown, b2⟩
 obtain ⟨A2, c2, rfl⟩ := own_sl hown
 have hrd2 : Rd w2 A2 (t.flat.flatMap Nd.cells) := own_rdS hown
 have ha2 : ∀ ad, A2 = some ad → Rb < ad.block := fun ad e => Nat.lt_of_lt_of_le rR.lt (own_lo hown (by rw [e]; rfl))
 replace rR := rR.below b2 rR.lt
 have bb := b1.trans (b2.mono b1.size)
 have hR2 := rR.lt
 clear b1 b2 hown Hp
 gi_wp2_with fail
 refine ⟨trivial, rfl, (callsIn_wide.2 (listsFn_any A2 t.flat.length c2 w2)).mono ?_⟩
 rintro e w3 ⟨bl, rfl, rl, gl, b3⟩
 replace rR := rR.below b3 rR.lt
 have hbl : bl ≠ Rb := by omega
 replace bb := bb.trans (b3.mono bb.size)
 have hC : ListsC A2 c2 t.flat.length bl Rb t.root t.flat.tail (ChZ Rb w3.heap.size) w3 := ⟨rl, by rw [← Hfl.out]; exact hrd2.go b3, by rw [← Hfl.out], fun k o h1 h2 h => by
  rcases h with h | ⟨h, _⟩
  · exact h2 h
  · omega, hbl, fun ad e => by have := ha2 ad e; omega, fun k cs tt fr h1 h2 h => by
  rcases h with h | ⟨_, cs', fr', h⟩
  · have := rR.lt; omega
  · injection h with _ h; subst h; rcases h2 with h2 | h2 | h2 | h2 <;> exact absurd h2 (by decide), H25.out⟩
 have Hit := Lib.hid (lists_iter A2 c2 t.flat.length bl Rb t.root t.flat.tail (ChZ Rb w3.heap.size) w3 hC Ht1.out Ht2.out)
 have Hbb := Lib.hid bb
 have rR3 := rR
 clear hC rl gl b3 bb hrd2 ha2 rR Hr H25
 gi_wp2_with fail
 obtain ⟨full, hfull⟩ : ∃ full, full = listsZ t.root (t.flat.tail.headD ⟨0, 0⟩) := ⟨_, rfl⟩
 have hfb : (chZ full).length ≤ 100 := by rw [hfull]; exact chZ_le _ _
 rw [← hfull] at Hit
 have Hfull := Lib.hid hfull
 have Hfb := Lib.hid hfb
 obtain ⟨lim, hlim⟩ : ∃ lim, lim = w3.heap.size := ⟨_, rfl⟩
 have Hlim := Lib.hid hlim
 have hRlim : Rb < lim := by rw [hlim]; exact rR3.lt
 have hwlim : w.heap.size ≤ lim := by rw [hlim]; exact Hbb.out.size
 rw [← hlim] at Hit
 have HI0 : Hid (∃ v, Row w3 Rb 94 #[v] ∧ w3.ownsRow lim 42 3 v (chZ (([] : List LsX).map LsX.f)).length ((chZ (([] : List LsX).map LsX.f)).flatMap chC) ∧ Below w.heap.size w w3 ∧ lim ≤ w3.heap.size) := ⟨_, rR3, World.ownsRow_nil _ _ _ _, Hbb.out, Nat.le_of_eq hlim⟩
 clear hfull hfb rR3 Hbb hlim
 refine rangeP (gf := 226) (lb := #[.pointer (some ⟨bl, 0, none⟩)]) rfl (enters_of Tryz.func226 (by kernel_rfl) rfl) Hit.out (fun r h => h.elim)
  (fun h k => h.trans k) (fun V o o' ho hc => ⟨fun i p hx hp => by rw [World.putObj_heap_other (fun e => hx (.inr e))]; exact hp, by simp⟩) (World.grownBy.refl _ _) (fun _ => rfl)
  (fun pre V => ∃ v, Row V Rb 94 #[v] ∧ V.ownsRow lim 42 3 v (chZ (pre.map LsX.f)).length ((chZ (pre.map LsX.f)).flatMap chC) ∧ Below w.heap.size w V ∧ lim ≤ V.heap.size) (fun _ _ _ => False) (.inr fun _ _ _ h => h) ?hI ?hIx HI0.out
  (fun pre x a' V => a' = { tmps := #[.slice A l.length cap, .int .i64 (q : Int), undef, undef, .slice none 0 0, .pointer (some ⟨Rb, 0, none⟩), .slice A2 t.flat.length c2, .int .i64 x.op, .slice x.A x.l.length x.cap, undef, undef, .slice A l.length cap, .int .i64 (q : Int), .slice A2 t.flat.length c2, .slice A2 t.flat.length c2, .int .i64 (t.flat.length : Int), .bool true, .slice A2 t.flat.length c2, .func (.func 226) #[] #[.pointer (some ⟨bl, 0, none⟩)], .int .i64 x.op, .slice x.A x.l.length x.cap, undef, undef, undef, undef, undef, undef, undef, undef, undef, undef, undef, undef, undef, undef], defers := [] } ∧ LsP full pre x V) ?hAx ?assign ?body ?done ?stop
 case hI =>
  rintro pre X Y row ⟨v, h1, h2, h3, h4⟩ hg hr
  have hrow : ∀ r, row = some r → lim ≤ r ∧ v.ownBlock ≠ some r := fun r e => by
   rcases hr r e with h | ⟨h, o, ho, hc⟩
   · exact h.elim
   · exact ⟨by have := Hlim.out; omega, own_cells h2 ho hc⟩
  refine ⟨v, h1.abide hg hr, h2.kept hg ?_, h3.grown hg h3.size (fun k e => by have := (hrow k e).1; omega), Nat.le_trans h4 hg.size⟩
  cases row with
  | none => cases v.ownBlock <;> simp
  | some r => exact .inr (hrow r rfl).2
 case hIx => exact fun _ _ _ _ _ h _ _ => h
 case hAx =>
  rintro pre x a' _ V V' row ⟨h1, h2, h3⟩ hg hr
  refine ⟨h1, ⟨h2.rd.grown hg (fun i e => ?_), h2.nil, fun a e => ?_⟩, h3⟩
  · rcases hr i e with h | ⟨h, o⟩
    · exact h.elim
    · exact o
  · obtain ⟨cs, hcs⟩ := h2.ty a e
    exact ⟨cs, hcs.abide hg hr⟩
 case assign =>
  rintro l3 pre x V K hI hP hK
  have HK := Lib.hid hK
  have HI := Lib.hid hI
  have HP := Lib.hid hP
  clear hK hI hP
  unfold LsX.enc
  gi_wp2_with fail
  exact HK.out _ _ (KeepsFrom.refl _ _) (KpG.refl _ _) HI.out ⟨rfl, HP.out⟩
 case stop => exact fun D c pre W _ _ h _ => h.elim
 case body =>
  rintro l3 pre ⟨op, XA, xc, xl⟩ a' V hl3 hloop ⟨v, h1, h2, h3, h4⟩ ⟨rfl, hok, rest, hrest⟩ hlen
  have hpre : (chZ (pre.map LsX.f)).length + xl.length ≤ 100 := by
   have := Hfb.out
   rw [← hrest] at this
   simp only [chZ, List.flatMap_append, List.flatMap_cons, List.length_append, LsX.f, List.length_map] at this ⊢
   omega
  have hZ : ∀ a, XA = some a → ∃ cs, Row V a.block 3 cs ∧ ¬ (ChZ Rb lim a.block (.cells cs 3 (0, 0)) ∨ a.block = w3.heap.size + 1) := fun a e => by
   obtain ⟨cs, hcs⟩ := hok.ty a e
   refine ⟨cs, hcs, fun h => ?_⟩
   have hcs' : V.heap[a.block]? = some (.cells cs 3 (0, 0)) := hcs
   rcases h with (h | ⟨_, cs', fr', h⟩) | h
   · rw [h, show V.heap[Rb]? = some (.cells #[v] 94 (0, 0)) from h1] at hcs'
     injection hcs' with hcs'; injection hcs' with _ hcs'; exact absurd hcs' (by decide)
   · injection h with _ h; exact absurd h (by decide)
   · obtain ⟨r, hr⟩ := hloop
     rw [h, ← hl3, hr] at hcs'; cases hcs'
  have HZ := Lib.hid hZ
  have Hok := Lib.hid hok
  have Hrest := Lib.hid hrest
  clear hZ hok hrest hlen hloop
  obtain ⟨i0, hi0, hz0, hz1, hz2⟩ := info_parts info_dl
  have hxl : (xl.length : Int) ≤ 100 := by omega
  gi_wp2_with fail
  gi_loopw [23] (fun i wr => ∃ (k : Nat) (v : Value), i = .int .i64 (k : Int) ∧ k ≤ xl.length ∧ Row wr Rb 94 #[v] ∧ wr.ownsRow lim 42 3 v (chZ (pre.map LsX.f) ++ (xl.take k).map fun n => (op, n)).length ((chZ (pre.map LsX.f) ++ (xl.take k).map fun n => (op, n)).flatMap chC) ∧ Below w.heap.size w wr ∧ lim ≤ wr.heap.size ∧ KeepsFrom w3.heap.size V wr ∧ KpG (fun k o => ChZ Rb lim k o ∨ k = w3.heap.size + 1) V wr) (fun i _ => xl.length - (intOf i).toNat)
  case atStart => exact ⟨0, v, rfl, Nat.zero_le _, h1, by simpa using h2, h3, h4, KeepsFrom.refl _ _, KpG.refl _ _⟩
  case round =>
   clear h1 h2 h3 h4
   obtain ⟨k, v, rfl, hk, h1, h2, h3, h4, hkf, hkp⟩ := hrel
   by_cases hlt : k < xl.length
   · obtain ⟨y, hy⟩ : ∃ y, xl[k]? = some y := ⟨_, List.getElem?_eq_getElem hlt⟩
     obtain ⟨xa, hxa, _⟩ := int_at Hok.out.rd hy
     have hrd : Rd wr XA (ints xl) := fun j u hj => by
      obtain ⟨a, e, hc⟩ := Hok.out.rd j u hj
      obtain ⟨cs, hcs, hnz⟩ := HZ.out a e
      exact ⟨a, e, (World.cell?_of_block (by rw [add_block]; exact (hkp.row hcs hnz).trans hcs.symm)).trans hc⟩
     obtain ⟨xb, hxb, hcell⟩ := int_at hrd hy
     obtain rfl : xa = xb := by
      have hxa' : XA = some xa := hxa
      have hxb' : XA = some xb := hxb
      rw [hxa'] at hxb'; injection hxb'
     clear hxb
     subst hxa
     have Hy := Lib.hid hy
     have hltI : (k : Int) < (xl.length : Int) := by omega
     have hc := h1.cellv (i := 0) (v := v) rfl
     have hf := h1.free 0
     have hy2 : (xl.take (k + 1)).map (fun n => (op, n)) = (xl.take k).map (fun n => (op, n)) ++ [(op, y)] := by rw [List.take_add_one, hy]; simp
     have hnb : (chZ (pre.map LsX.f) ++ (xl.take k).map fun n => (op, n)).length ≤ 100 := by
      rw [List.length_append, List.length_map, List.length_take]; omega
     have Hy2 := Lib.hid hy2
     generalize hcs : chZ (pre.map LsX.f) ++ (xl.take k).map (fun n => (op, n)) = cs at h2 hnb
     have Hcs := Lib.hid hcs
     clear hcs
     have HA := Lib.hid (h2.alloc (.cells #[.slice none 0 0, .int .i64 op, .int .i64 y] 42))
     have H1 := Lib.hid h1
     have H2 := Lib.hid h2
     have H3 := Lib.hid h3
     have H4 := Lib.hid h4
     have Hkf := Lib.hid hkf
     have Hkp := Lib.hid hkp
     have hc5 : (wr.alloc (.cells #[.slice none 0 0, .int .i64 op, .int .i64 y] 42)).cell? ⟨Rb, 0, none⟩ = some v := (h1.alloc _).cellv (i := 0) rfl
     have Hc := Lib.hid hcell
     clear hrd hy hy2 h1 h2 h3 h4 hkf hkp
     gi_wp2_with (gi_at_builtin; refine wpListIn_append_own_at _ rfl (.tmp 27) (.tmp 31) 94 rfl lim 42 i0 (.agg #[.slice none 0 0, .int .i64 0, .int .i64 0]) 3 40 Tryz.underlying94 hi0 hz0 hz1 hz2 rfl (by decide) v _ _ rfl HA.out ⟨wr.heap.size, 0, none⟩ 1 1 (chC (op, y)) rfl rfl (cells_new _ _ _) (chC_one _) (by unfold maxLen; omega) (by omega) (by have := H4.out; simp; omega) ?_)
     intro v' W9 hown hg _ hat
     have r9 := (H1.out.alloc (.cells #[.slice none 0 0, .int .i64 op, .int .i64 y] 42)).grown hg (own_ne HA.out (H1.out.alloc _) (by decide))
     have b9 := below_grown_own (H3.out.alloc H3.out.size (.cells #[.slice none 0 0, .int .i64 op, .int .i64 y] 42)) HA.out hg (by have := H3.out.size; simp; omega) hwlim
     have k9 : KeepsFrom w3.heap.size V W9 := Hkf.out.trans ((KeepsFrom.alloc _ wr (.cells #[.slice none 0 0, .int .i64 op, .int .i64 y] 42)).trans (KeepsFrom.of_own HA.out hg))
     have p9 : KpG (fun k o => ChZ Rb lim k o ∨ k = w3.heap.size + 1) V W9 := Hkp.out.trans ((KpG.of_below ((Below.refl _ wr).alloc (Nat.le_refl _) _)).trans (kg_own HA.out hg))
     have s9 : lim ≤ W9.heap.size := by have e1 := hg.size; have e2 := H4.out; rw [World.size_alloc] at e1; omega
     obtain ⟨A', m', c', rfl⟩ : ∃ A m c, v' = .slice A m c := own_slice hown
     have hc9 := r9.cellv (i := 0) (v := v) rfl
     have hf9 := r9.free 0
     have nG := own_ne hown r9 (by decide)
     have o4 := only_set W9 Rb 0 (.slice A' m' c')
     have hown4 := own_only hown o4 nG
     have r4 := r9.set 0 (.slice A' m' c')
     have HF : Hid (Row (W9.setCell ⟨Rb, 0, none⟩ (.slice A' m' c')) Rb 94 #[.slice A' m' c'] ∧ (W9.setCell ⟨Rb, 0, none⟩ (.slice A' m' c')).ownsRow lim 42 3 (.slice A' m' c') (chZ (pre.map LsX.f) ++ (xl.take (k + 1)).map fun n => (op, n)).length ((chZ (pre.map LsX.f) ++ (xl.take (k + 1)).map fun n => (op, n)).flatMap chC) ∧ Below w.heap.size w (W9.setCell ⟨Rb, 0, none⟩ (.slice A' m' c')) ∧ lim ≤ (W9.setCell ⟨Rb, 0, none⟩ (.slice A' m' c')).heap.size ∧ KeepsFrom w3.heap.size V (W9.setCell ⟨Rb, 0, none⟩ (.slice A' m' c')) ∧ KpG (fun k o => ChZ Rb lim k o ∨ k = w3.heap.size + 1) V (W9.setCell ⟨Rb, 0, none⟩ (.slice A' m' c'))) := by
      refine ⟨r4, ?_, below_only b9 o4 hRw, Nat.le_trans s9 (Nat.le_of_eq o4.size.symm), k9.trans (KeepsFrom.of_only r9 o4), p9.trans ⟨fun i o hx ho => by rw [o4.block i (fun e => hx (.inl (.inl e)))]; exact ho, Nat.le_of_eq o4.size.symm⟩⟩
      rw [Hy2.out, ← List.append_assoc, Hcs.out, List.length_append, List.flatMap_append, List.flatMap_singleton]
      exact hown4
     clear hown hg hat r9 b9 k9 p9 nG o4 hown4 r4 hc hf hc5 HA H1 H2 H3 H4 Hkf Hkp Hy2
     gi_wp2_with fail
     go_roundw
     case rel => exact ⟨k + 1, _, by go_num, by omega, HF.out⟩
     case measure => simp [intOf]; omega
   · obtain rfl : k = xl.length := by omega
     rw [List.take_length] at h2
     have HF : Hid (KeepsFrom w3.heap.size V wr ∧ KpG (fun k o => ChZ Rb lim k o ∨ k = w3.heap.size + 1) V wr ∧ ∃ v, Row wr Rb 94 #[v] ∧ wr.ownsRow lim 42 3 v (chZ ((pre ++ [(⟨op, XA, xc, xl⟩ : LsX)]).map LsX.f)).length ((chZ ((pre ++ [(⟨op, XA, xc, xl⟩ : LsX)]).map LsX.f)).flatMap chC) ∧ Below w.heap.size w wr ∧ lim ≤ wr.heap.size) := ⟨hkf, hkp, v, h1, by
      have e : chZ ((pre ++ [(⟨op, XA, xc, xl⟩ : LsX)]).map LsX.f) = chZ (pre.map LsX.f) ++ xl.map fun n => (op, n) := by rw [List.map_append, chZ_app]; simp [chZ, LsX.f]
      rw [e]; exact h2, h3, h4⟩
     clear h1 h2 h3 h4 hkf hkp
     gi_wp2_with fail
     exact HF.out
 case done =>
  rintro D ys W hD hys ⟨v, h1, h2, h3, h4⟩ hK
  obtain ⟨A9, c9, rfl⟩ := own_sl h2
  have hc := h1.cellv (i := 0) rfl
  have HK := Lib.hid hK
  have H2 := Lib.hid h2
  have H3 := Lib.hid h3
  have Hys := Lib.hid hys
  clear hK h1 h2 h3 hys
  gi_wp2
  refine ⟨by simp, .inl ⟨_, _, rfl, run_takeDeferred HK.out, ?_⟩⟩
  refine ⟨_, results_tmp rfl _ _ _, _, rfl, ?_, H3.out.grown (grownBy_putObj' _ _ _) H3.out.size (fun k e => by cases e; have := Hlim.out; omega)⟩
  rw [← Hfull.out, ← Hys.out]
  exact own_base ((H2.out.kept (grownBy_putObj' _ _ _) (.inr (own_cells H2.out HK.out rfl)))) hwlim
end Go.Proofs.YtcgglolckkeeiaaGreat
namespace Go.Proofs.YtcgglolckkeeiaaGreat
set_option linter.unusedVariables false
open Go.RowKit
def colZ (x y : Nd) (op : Int) : List Int := (triesZ x).filter (isC x y op)
def tagC (op : Int) (l : List Int) : List (Int × Int) := l.map fun n => (op, n)
theorem choicesZ_cols (x y : Nd) : choicesZ x y = tagC 1 (colZ x y 1) ++ (tagC 2 (colZ x y 2) ++ (tagC 3 (colZ x y 3) ++ (tagC 4 (colZ x y 4) ++ (tagC 5 (colZ x y 5) ++ (tagC 6 (colZ x y 6) ++ tagC 7 (colZ x y 7)))))) := by
 unfold choicesZ
 rw [show ((List.range 7).map fun i : Nat => (i : Int) + 1) = [1, 2, 3, 4, 5, 6, 7] from by decide]
 simp only [List.flatMap_cons, List.flatMap_nil, List.append_nil]
 rfl
theorem col_eq {x y : Nd} {op : Int} {L : List Int} (h2 : x.tag = 2 → x.n = 0 ∨ x.n = 1) (hr : riseI L) (hm : ∀ n, n ∈ L ↔ isC x y op n = true) : colZ x y op = L :=
 riseI_ext (filter_rise _ (sortU_rise _)) hr fun n => by
  unfold colZ
  rw [List.mem_filter, hm]
  exact ⟨fun h => h.2, fun h => ⟨isC_tries h h2, h⟩⟩
theorem rowZ_rise (lo hi but : Int) : riseI (rowZ lo hi but) := by
 refine filter_rise _ (riseI_of ?_)
 rw [List.pairwise_map]
 exact List.pairwise_lt_range.imp fun {i j} h => by show lo + (i : Int) < lo + (j : Int); omega
theorem rowZ_mem {lo hi but n : Int} : n ∈ rowZ lo hi but ↔ lo ≤ n ∧ n ≤ hi ∧ n ≠ but := by
 unfold rowZ rowK
 rw [List.mem_filter, List.mem_map]
 constructor
 · rintro ⟨⟨i, hi, rfl⟩, h⟩
   rw [List.mem_range] at hi
   have h' : lo + (i : Int) ≠ but := by simpa using h
   exact ⟨by omega, by omega, h'⟩
 · rintro ⟨h1, h2, h3⟩
   refine ⟨⟨(n - lo).toNat, List.mem_range.2 (by omega), by omega⟩, by simpa using h3⟩
theorem onceZ_rise (but : Int) (l : List Int) : riseI (onceZ but l) := filter_rise _ (sortU_rise _)
theorem onceZ_mem {but n : Int} {l : List Int} : n ∈ onceZ but l ↔ n ∈ l ∧ n ≠ but := by
 unfold onceZ
 rw [List.mem_filter, sortU_mem]
 simp
theorem col_1 {x y : Nd} (h2 : x.tag = 2 → x.n = 0 ∨ x.n = 1) : colZ x y 1 = if 7 ≤ x.tag ∧ x.tag ≤ 11 then rowZ 7 11 x.tag else [] := by
 refine col_eq h2 (by split; exact rowZ_rise _ _ _; trivial) fun n => ?_
 show _ ↔ decide _ = true
 rw [decide_eq_true_eq]
 split
 · rw [rowZ_mem]; omega
 · simp; omega
theorem col_2 {x y : Nd} (h2 : x.tag = 2 → x.n = 0 ∨ x.n = 1) : colZ x y 2 = if 12 ≤ x.tag ∧ x.tag ≤ 17 then rowZ 12 17 x.tag else [] := by
 refine col_eq h2 (by split; exact rowZ_rise _ _ _; trivial) fun n => ?_
 show _ ↔ decide _ = true
 rw [decide_eq_true_eq]
 split
 · rw [rowZ_mem]; omega
 · simp; omega
theorem col_3 {x y : Nd} (h2 : x.tag = 2 → x.n = 0 ∨ x.n = 1) : colZ x y 3 = if x.tag = 18 ∨ x.tag = 19 then rowZ 18 19 x.tag else [] := by
 refine col_eq h2 (by split; exact rowZ_rise _ _ _; trivial) fun n => ?_
 show _ ↔ decide _ = true
 rw [decide_eq_true_eq]
 split
 · rw [rowZ_mem]; omega
 · simp; omega
theorem col_4 {x y : Nd} (h2 : x.tag = 2 → x.n = 0 ∨ x.n = 1) : colZ x y 4 = if x.tag = 1 then onceZ x.n [0, 1, -1, wrap64 (x.n + 1), wrap64 (x.n - 1)] else if x.tag = 2 then [wrap64 (1 - x.n)] else [] := by
 refine col_eq h2 (by split; exact onceZ_rise _ _; split <;> trivial) fun n => ?_
 show _ ↔ decide _ = true
 rw [decide_eq_true_eq]
 split
 · rw [onceZ_mem]; simp only [List.mem_cons, List.not_mem_nil, or_false]; omega
 · split
   · simp only [List.mem_cons, List.not_mem_nil, or_false]; omega
   · simp only [List.not_mem_nil, false_iff]; omega
theorem col_5 {x y : Nd} (h2 : x.tag = 2 → x.n = 0 ∨ x.n = 1) : colZ x y 5 = if x.tag = 21 ∨ x.tag = 22 ∨ x.tag = 23 ∨ x.tag = 24 ∨ x.tag = 25 then [0] else [] := by
 refine col_eq h2 (by split <;> trivial) fun n => ?_
 show _ ↔ decide _ = true
 rw [decide_eq_true_eq]
 split
 · simp only [List.mem_cons, List.not_mem_nil, or_false]; omega
 · simp only [List.not_mem_nil, false_iff]; omega
theorem col_6 {x y : Nd} (h2 : x.tag = 2 → x.n = 0 ∨ x.n = 1) : colZ x y 6 = if x.tag = 23 ∨ x.tag = 24 then [0] else [] := by
 refine col_eq h2 (by split <;> trivial) fun n => ?_
 show _ ↔ decide _ = true
 rw [decide_eq_true_eq]
 split
 · simp only [List.mem_cons, List.not_mem_nil, or_false]; omega
 · simp only [List.not_mem_nil, false_iff]; omega
theorem col_7 {x y : Nd} (h2 : x.tag = 2 → x.n = 0 ∨ x.n = 1) : colZ x y 7 = if x.tag = 25 then answersZ y else [] := by
 have hr : riseI (answersZ y) := by
  unfold answersZ
  split
  · exact onceZ_rise _ _
  · exact ⟨by omega, trivial⟩
 refine col_eq h2 (by split; exact hr; trivial) fun n => ?_
 show _ ↔ decide _ = true
 rw [decide_eq_true_eq]
 split
 · unfold answersZ
   split
   · rw [onceZ_mem]; simp only [List.mem_cons, List.not_mem_nil, or_false]; omega
   · simp only [List.mem_cons, List.not_mem_nil, or_false]; omega
 · simp only [List.not_mem_nil, false_iff]; omega
theorem chZ_list (o : Int) (l : List Int) : chZ [(o, l)] = tagC o l := by simp [chZ, tagC]
theorem chZ_ite (c : Prop) [Decidable c] (a b : List (Int × List Int)) : chZ (if c then a else b) = if c then chZ a else chZ b := by split <;> rfl
theorem tagC_ite (c : Prop) [Decidable c] (o : Int) (a b : List Int) : tagC o (if c then a else b) = if c then tagC o a else tagC o b := by split <;> rfl
theorem tagC_nil (o : Int) : tagC o [] = [] := rfl
theorem listsZ_choices {x y : Nd} (h2 : x.tag = 2 → x.n = 0 ∨ x.n = 1) : chZ (listsZ x y) = choicesZ x y := by
 rw [choicesZ_cols, col_1 h2, col_2 h2, col_3 h2, col_4 h2, col_5 h2, col_6 h2, col_7 h2]
 unfold listsZ
 have hn : chZ [] = [] := rfl
 simp only [chZ_app, chZ_ite, chZ_list, tagC_ite, tagC_nil, hn]
 by_cases h5 : x.tag = 25
 · have a1 : ¬ (7 ≤ x.tag ∧ x.tag ≤ 11) := by omega
   have a2 : ¬ (12 ≤ x.tag ∧ x.tag ≤ 17) := by omega
   have a3 : ¬ (x.tag = 18 ∨ x.tag = 19) := by omega
   have a4 : ¬ (x.tag = 1) := by omega
   have a6 : ¬ (x.tag = 2) := by omega
   have a7 : ¬ (x.tag = 23 ∨ x.tag = 24) := by omega
   rw [if_neg a1, if_neg a2, if_neg a3, if_neg a4, if_neg a6, if_neg a7, if_pos h5, if_neg a1, if_neg a2, if_neg a3, if_neg a7]
   simp
 · rw [if_neg h5]
   by_cases a1 : 7 ≤ x.tag ∧ x.tag ≤ 11
   · have a2 : ¬ (12 ≤ x.tag ∧ x.tag ≤ 17) := by omega
     have a3 : ¬ (x.tag = 18 ∨ x.tag = 19) := by omega
     have a4 : ¬ (x.tag = 1) := by omega
     have a6 : ¬ (x.tag = 2) := by omega
     simp only [if_pos a1, if_neg a2, if_neg a3, if_neg a4, if_neg a6]
     simp
   by_cases a2 : 12 ≤ x.tag ∧ x.tag ≤ 17
   · have a3 : ¬ (x.tag = 18 ∨ x.tag = 19) := by omega
     have a4 : ¬ (x.tag = 1) := by omega
     have a6 : ¬ (x.tag = 2) := by omega
     simp only [if_neg a1, if_pos a2, if_neg a3, if_neg a4, if_neg a6]
     simp
   by_cases a3 : x.tag = 18 ∨ x.tag = 19
   · have a4 : ¬ (x.tag = 1) := by omega
     have a6 : ¬ (x.tag = 2) := by omega
     simp only [if_neg a1, if_neg a2, if_pos a3, if_neg a4, if_neg a6]
     simp
   simp only [if_neg a1, if_neg a2, if_neg a3]
   simp
end Go.Proofs.YtcgglolckkeeiaaGreat
namespace Go.Proofs.YtcgglolckkeeiaaGreat
set_option linter.unusedVariables false
open Go.RowKit
theorem isC_y {x y z : Nd} (h : x.tag ≠ 25) (op n : Int) : isC x y op n = isC x z op n := by
 unfold isC
 have e : decide (x.tag = 25 ∧ (n = 0 ∨ n = 1) ∧ ¬ (y.tag = 1 ∧ y.n = n)) = decide (x.tag = 25 ∧ (n = 0 ∨ n = 1) ∧ ¬ (z.tag = 1 ∧ z.n = n)) := by simp [h]
 rw [e]
theorem choicesZ_y {x y z : Nd} (h : x.tag ≠ 25) : choicesZ x y = choicesZ x z := by
 unfold choicesZ
 have e : ∀ op, isC x y op = isC x z op := fun op => funext fun n => isC_y h op n
 simp only [e]
theorem tag_bd {x : Nd} (h : ¬ arityZ x < 0) : 1 ≤ x.tag ∧ x.tag ≤ 26 := by
 by_cases k : 1 ≤ x.tag ∧ x.tag ≤ 26
 · exact k
 · exact absurd (arityZ_no (t := x.tag) (n := x.n) k) (fun e => h (by have : arityZ x = -1 := e; omega))
theorem tag_two {x : Nd} (h : ¬ arityZ x < 0) (h2 : x.tag = 2) : x.n = 0 ∨ x.n = 1 := by
 obtain ⟨t, n⟩ := x
 simp only at h2
 subst h2
 unfold arityZ at h
 simp only [limitsZ] at h
 by_cases k : n < 0 ∨ 1 < n
 · exfalso; apply h; simp; omega
 · show n = 0 ∨ n = 1; omega
theorem arity_ret {x : Nd} (h : ¬ arityZ x < 0) (h2 : x.tag = 25) : arityZ x = 1 := by
 obtain ⟨t, n⟩ := x
 simp only at h2
 subst h2
 unfold arityZ at h ⊢
 simp only [limitsZ] at h ⊢
 by_cases k : n < 0 ∨ 0 < n
 · exfalso; apply h; simp; omega
 · simp; omega
theorem At.second {l : List Nd} {q : Nat} {t : Tr} (h : At l q t) (hk : t.kids ≠ []) : ndAt l (q + 1) = t.flat.tail.headD ⟨0, 0⟩ := by
 obtain ⟨rest, e⟩ := h.here
 have hfl := t.flat_eq
 have hne : flats t.kids ≠ [] := by
  cases hk2 : t.kids with
  | nil => exact absurd hk2 hk
  | cons k ks => have := flats_ge (k :: ks); intro e; rw [e] at this; simp at this
 have h1 : l[q + 1]? = (l.drop q)[1]? := by rw [List.getElem?_drop]
 unfold ndAt
 rw [h1, e, hfl]
 cases hf : flats t.kids with
 | nil => exact absurd hf hne
 | cons y ys => simp
theorem ndAt_root {l : List Nd} {q : Nat} {t : Tr} (h : At l q t) : ndAt l q = t.root := by unfold ndAt; rw [h.root]; rfl
theorem choices_at {l : List Nd} {q : Nat} {t : Tr} (h : At l q t) (ha : ¬ arityZ t.root < 0) : chZ (listsZ t.root (t.flat.tail.headD ⟨0, 0⟩)) = choicesAt l q := by
 rw [listsZ_choices (tag_two ha)]
 unfold choicesAt
 rw [ndAt_root h]
 by_cases h25 : t.root.tag = 25
 · have hk : t.kids ≠ [] := fun e => by
    have h1 := h.fits.arity
    rw [arity_ret ha h25, e] at h1
    simp at h1
   rw [h.second hk]
 · exact choicesZ_y h25
theorem kids_ret {l : List Nd} {q : Nat} {t : Tr} (h : At l q t) (ha : ¬ arityZ t.root < 0) (h25 : t.root.tag = 25) : t.kids ≠ [] := fun e => by
 have h1 := h.fits.arity
 rw [arity_ret ha h25, e] at h1
 simp at h1
end Go.Proofs.YtcgglolckkeeiaaGreat
namespace Go.Proofs.YtcgglolckkeeiaaGreat
set_option linter.unusedVariables false
open Go.RowKit Go.Deep
set_option maxRecDepth 100000 in
set_option maxHeartbeats 4000000 in
theorem refIs7_any (A : Option Addr) (cap : Nat) (l : List Nd) (q : Nat) (x : Nd) (n : Int) (w : World) (hr : Rd w A (l.flatMap Nd.cells)) (hl : l.length ≤ 1000) (hx : l[q]? = some x) (he : 0 ≤ endZ l (q : Int)) (h25 : x.tag = 25 → q + 1 < l.length) :
 Calls Tryz.prog 128 #[.slice A l.length cap, .int .i64 (q : Int), .int .i64 7, .int .i64 n] w fun e w' => e = .returned (.bool (isC x (ndAt l (q + 1)) 7 n)) ∧ Below w.heap.size w w' := by
 by_cases h : x.tag = 25
 rotate_left
 · have hf : isC x (ndAt l (q + 1)) 7 n = false := by rw [isC_7]; simp [h]
   rw [hf]
   have hn : (x.tag == 25) = false := by simpa using h
   clear hf h25 h
   obtain ⟨tag, nn⟩ := x
   have He := Lib.hid (refEnd_any A cap l (q : Int) w hr hl)
   have hqI : (q : Int) < (l.length : Int) := by have := (List.getElem?_eq_some_iff.1 hx).1; omega
   have hl1 : (l.length : Int) ≤ 1000 := by omega
   have Hr := Lib.hid hr
   have Hx := Lib.hid hx
   have hE0 : ¬ (endZ l (q : Int) < 0) := by omega
   clear hr hl hx he
   go_enter Tryz.func128, Tryz.ntmps128
   go_wp2_with fail
   refine He.out.mono ?_
   rintro e w1 ⟨rfl, b1⟩
   clear He
   obtain ⟨ad, had, hc⟩ := nd_at (Hr.out.go b1) Hx.out
   subst had
   have Hc := Lib.hid hc
   clear hc
   go_wp2_with (first | (refine wpList_load_at rfl 74 _ rfl (ad.add (q * 2)) rfl [.int .i64 tag, .int .i64 nn] _ Hc.out Tryz.underlying74 rfl (by kernel_rfl) ?_) | (refine at_alloc _ rfl ?_))
   refine Stop.to ?_
   refine wpList_alloc_gen rfl 74 rfl _ _ (zero_nd _) rfl ?_
   intro D Dw Dh Dr Db
   go_wp2_with (refine at_store _ _ _ rfl ?_)
   refine Stop.to ?_
   refine wpList_store_gen rfl 74 _ _ rfl D #[.int .i64 tag, .int .i64 nn] rfl rfl 74 _ Dr (by kernel_rfl) rfl (by simp [Value.oneCell']) ?_
   intro Dx Ds Do
   have Dc := (Db.mono Dh).trans (Do.below Dh)
   clear Db Dr Do
   have b2 := b1.trans (Dc.mono b1.size)
   have d0 := Ds.cellv (i := 0) (v := .int .i64 tag) rfl
   have d1 := Ds.cellv (i := 1) (v := .int .i64 nn) rfl
   clear Ds Dc Hr b1 hE0 Hc
   try simp only at hn
   go_wp2_with fail
   go_ret
   exact ⟨rfl, b2⟩
 obtain ⟨y, hy⟩ : ∃ y, l[q + 1]? = some y := ⟨_, List.getElem?_eq_getElem (h25 h)⟩
 have hyn : ndAt l (q + 1) = y := by unfold ndAt; rw [hy]; rfl
 rw [hyn]
 have hq1 : (q : Int) + 1 < (l.length : Int) := by have := h25 h; omega
 have Hy := Lib.hid hy
 have hn : (x.tag == 25) = true := by simpa using h
 have Hn := Lib.hid h
 have Hr0 := Lib.hid hr
 clear hyn h25 h hy
 obtain ⟨tag, nn⟩ := x
 have He := Lib.hid (refEnd_any A cap l (q : Int) w hr hl)
 have hqI : (q : Int) < (l.length : Int) := by have := (List.getElem?_eq_some_iff.1 hx).1; omega
 have hl1 : (l.length : Int) ≤ 1000 := by omega
 have Hr := Lib.hid hr
 have Hx := Lib.hid hx
 have hE0 : ¬ (endZ l (q : Int) < 0) := by omega
 clear hr hl hx he
 go_enter Tryz.func128, Tryz.ntmps128
 go_wp2_with fail
 refine He.out.mono ?_
 rintro e w1 ⟨rfl, b1⟩
 clear He
 obtain ⟨ad, had, hc⟩ := nd_at (Hr.out.go b1) Hx.out
 subst had
 have Hc := Lib.hid hc
 clear hc
 go_wp2_with (first | (refine wpList_load_at rfl 74 _ rfl (ad.add (q * 2)) rfl [.int .i64 tag, .int .i64 nn] _ Hc.out Tryz.underlying74 rfl (by kernel_rfl) ?_) | (refine at_alloc _ rfl ?_))
 refine Stop.to ?_
 refine wpList_alloc_gen rfl 74 rfl _ _ (zero_nd _) rfl ?_
 intro D Dw Dh Dr Db
 go_wp2_with (refine at_store _ _ _ rfl ?_)
 refine Stop.to ?_
 refine wpList_store_gen rfl 74 _ _ rfl D #[.int .i64 tag, .int .i64 nn] rfl rfl 74 _ Dr (by kernel_rfl) rfl (by simp [Value.oneCell']) ?_
 intro Dx Ds Do
 have Dc := (Db.mono Dh).trans (Do.below Dh)
 clear Db Dr Do
 have b2 := b1.trans (Dc.mono b1.size)
 have d0 := Ds.cellv (i := 0) (v := .int .i64 tag) rfl
 have d1 := Ds.cellv (i := 1) (v := .int .i64 nn) rfl
 clear Ds Dc Hr b1 hE0 Hc
 try simp only at hn
 obtain ⟨ad2, had, hcy⟩ := nd_at (Hr0.out.go b2) Hy.out
 injection had with had
 subst had
 have cy0 : Dx.cell? (ad.add ((q + 1) * 2)) = some (.int .i64 y.tag) := by have := hcy 0 _ rfl; rwa [add_zero'] at this
 have cy1 : Dx.cell? ⟨(ad.add ((q + 1) * 2)).block, (ad.add ((q + 1) * 2)).off + 1, none⟩ = some (.int .i64 y.n) := hcy 1 _ rfl
 clear hcy
 go_wp2_with fail
 all_goals
  go_ret
  refine ⟨ret_b ?_, b2⟩
  rw [isC_7, Bool.eq_iff_iff]
  have hh := Hn.out
  simp
  try omega
set_option maxRecDepth 100000 in
set_option maxHeartbeats 4000000 in
theorem refIs0_any (A : Option Addr) (cap : Nat) (l : List Nd) (q : Nat) (x : Nd) (op n : Int) (w : World) (hr : Rd w A (l.flatMap Nd.cells)) (hl : l.length ≤ 1000) (hx : l[q]? = some x) (he : 0 ≤ endZ l (q : Int)) (h1 : (op == 1) = false) (h2 : (op == 2) = false) (h3 : (op == 3) = false) (h4 : (op == 4) = false) (h5 : (op == 5) = false) (h6 : (op == 6) = false) (h7 : (op == 7) = false) :
 Calls Tryz.prog 128 #[.slice A l.length cap, .int .i64 (q : Int), .int .i64 op, .int .i64 n] w fun e w' => e = .returned (.bool false) ∧ Below w.heap.size w w' := by
 obtain ⟨tag, nn⟩ := x
 have He := Lib.hid (refEnd_any A cap l (q : Int) w hr hl)
 have hqI : (q : Int) < (l.length : Int) := by have := (List.getElem?_eq_some_iff.1 hx).1; omega
 have hl1 : (l.length : Int) ≤ 1000 := by omega
 have Hr := Lib.hid hr
 have Hx := Lib.hid hx
 have hE0 : ¬ (endZ l (q : Int) < 0) := by omega
 clear hr hl hx he
 go_enter Tryz.func128, Tryz.ntmps128
 go_wp2_with fail
 refine He.out.mono ?_
 rintro e w1 ⟨rfl, b1⟩
 clear He
 obtain ⟨ad, had, hc⟩ := nd_at (Hr.out.go b1) Hx.out
 subst had
 have Hc := Lib.hid hc
 clear hc
 go_wp2_with (first | (refine wpList_load_at rfl 74 _ rfl (ad.add (q * 2)) rfl [.int .i64 tag, .int .i64 nn] _ Hc.out Tryz.underlying74 rfl (by kernel_rfl) ?_) | (refine at_alloc _ rfl ?_))
 refine Stop.to ?_
 refine wpList_alloc_gen rfl 74 rfl _ _ (zero_nd _) rfl ?_
 intro D Dw Dh Dr Db
 go_wp2_with (refine at_store _ _ _ rfl ?_)
 refine Stop.to ?_
 refine wpList_store_gen rfl 74 _ _ rfl D #[.int .i64 tag, .int .i64 nn] rfl rfl 74 _ Dr (by kernel_rfl) rfl (by simp [Value.oneCell']) ?_
 intro Dx Ds Do
 have Dc := (Db.mono Dh).trans (Do.below Dh)
 clear Db Dr Do
 have b2 := b1.trans (Dc.mono b1.size)
 have d0 := Ds.cellv (i := 0) (v := .int .i64 tag) rfl
 have d1 := Ds.cellv (i := 1) (v := .int .i64 nn) rfl
 clear Ds Dc Hr b1 hE0 Hc
 go_wp2_with fail
 go_ret
 exact ⟨rfl, b2⟩
theorem isC_0 {x y : Nd} {op n : Int} (h1 : op ≠ 1) (h2 : op ≠ 2) (h3 : op ≠ 3) (h4 : op ≠ 4) (h5 : op ≠ 5) (h6 : op ≠ 6) (h7 : op ≠ 7) : isC x y op n = false := by
 unfold isC
 rw [if_neg h1, if_neg h2, if_neg h3, if_neg h4, if_neg h5, if_neg h6, if_neg h7]
theorem refIs_any (A : Option Addr) (cap : Nat) (l : List Nd) (q : Nat) (t : Tr) (op n : Int) (w : World) (hat : At l q t) (har : ¬ arityZ t.root < 0) (hr : Rd w A (l.flatMap Nd.cells)) (hl : l.length ≤ 1000) :
 Calls Tryz.prog 128 #[.slice A l.length cap, .int .i64 (q : Int), .int .i64 op, .int .i64 n] w fun e w' => e = .returned (.bool (isC (ndAt l q) (ndAt l (q + 1)) op n)) ∧ Below w.heap.size w w' := by
 have he : 0 ≤ endZ l (q : Int) := by rw [hat.endZ]; omega
 have h25 : t.root.tag = 25 → q + 1 < l.length := fun h => by
  have h1 := kids_ret hat har h
  have h2 := hat.le
  have h3 := t.size_eq
  have h4 := flats_ge t.kids
  have h5 : 0 < t.kids.length := List.length_pos_iff.2 h1
  omega
 rw [ndAt_root hat]
 by_cases e1 : op = 1
 · subst e1; exact refIs1_any A cap l q _ n w hr hl hat.root he _
 by_cases e2 : op = 2
 · subst e2; exact refIs2_any A cap l q _ n w hr hl hat.root he _
 by_cases e3 : op = 3
 · subst e3; exact refIs3_any A cap l q _ n w hr hl hat.root he _
 by_cases e4 : op = 4
 · subst e4; exact refIs4_any A cap l q _ n w hr hl hat.root he _
 by_cases e5 : op = 5
 · subst e5; exact refIs5_any A cap l q _ n w hr hl hat.root he _
 by_cases e6 : op = 6
 · subst e6; exact refIs6_any A cap l q _ n w hr hl hat.root he _
 by_cases e7 : op = 7
 · subst e7; exact refIs7_any A cap l q _ n w hr hl hat.root he h25
 rw [isC_0 e1 e2 e3 e4 e5 e6 e7]
 exact refIs0_any A cap l q _ op n w hr hl hat.root he (by simpa using e1) (by simpa using e2) (by simpa using e3) (by simpa using e4) (by simpa using e5) (by simpa using e6) (by simpa using e7)
end Go.Proofs.YtcgglolckkeeiaaGreat
namespace Go.Proofs.YtcgglolckkeeiaaGreat
set_option linter.unusedVariables false
open Go.RowKit Go.Deep
open Classical in
noncomputable def inP (p : PgV) (d : Dl) : Bool := decide (∃ t, Fine p t ∧ d ∈ allZ p.body t)
open Classical in
theorem inP_fine {p : PgV} {t : Tr} (h : Fine p t) (d : Dl) : inP p d = true ↔ d ∈ allZ p.body t := by
 unfold inP
 rw [decide_eq_true_eq]
 exact ⟨fun ⟨u, hu, hd⟩ => by rwa [h.good.whole.uniq hu.good.whole], fun hd => ⟨t, h, hd⟩⟩
open Classical in
theorem inP_no {p : PgV} (h : checkP p ≠ 0) (d : Dl) : inP p d = false := by
 unfold inP
 rw [decide_eq_false_iff_not]
 exact fun ⟨t, ht, _⟩ => checkP_no h t ht
theorem allZ_in {l : List Nd} {t : Tr} {d : Dl} (hw : Whole l t) (ha : ∀ x ∈ l, ¬ arityZ x < 0) : (∀ r k, findP d.path 0 t = some (r, k) → (d ∈ allZ l t ↔ isC (ndAt l r) (ndAt l (r + 1)) d.op d.n = true)) ∧ (findP d.path 0 t = none → d ∉ allZ l t) := by
 refine ⟨fun r k h => ?_, fun h hd => ?_⟩
 · have hat := findP_at hw.hat h
   have har : ¬ arityZ (ndAt l r) < 0 := by rw [ndAt_root hat]; exact ha _ (List.mem_of_getElem? hat.root)
   rw [allZ_mem]
   have hc : (d.op, d.n) ∈ choicesAt l r ↔ isC (ndAt l r) (ndAt l (r + 1)) d.op d.n = true := choicesZ_mem (tag_two har)
   constructor
   · rintro ⟨q, k', h1, h2⟩
     rw [h] at h1
     injection h1 with h1
     injection h1 with h1 _
     subst h1
     exact hc.1 h2
   · exact fun h2 => ⟨r, k, h, hc.2 h2⟩
 · obtain ⟨q, k, h1, _⟩ := allZ_mem.1 hd
   rw [h] at h1; cases h1
set_option maxRecDepth 100000 in
set_option maxHeartbeats 4000000 in
theorem ref14Is_any (p : PgV) (d : DlV) (hbl : p.body.length ≤ 1000) (w : World) (hok : p.ok w) (hd : DlOk w d) :
 Calls Tryz.prog 85 #[.agg p.cells, .agg d.cells] w fun e w' => e = .returned (.bool (inP p d.d)) ∧ Below w.heap.size w w' := by
 have Hbl := Lib.hid hbl
 have Hok := Lib.hid hok
 have Hd := Lib.hid hd
 clear hbl hok hd
 go_enter Tryz.func85, Tryz.ntmps85
 go_wp2_with (refine at_box _ _ rfl ?_)
 refine Stop.to ?_
 refine wpList_box_gen rfl 25 _ rfl p.cells rfl ?_
 intro G Gw Gh Gr Gb
 go_wp2_with (refine at_box _ _ rfl ?_)
 refine Stop.to ?_
 refine wpList_box_gen rfl 42 _ rfl d.cells rfl ?_
 intro J Jw Jh Jr Jb
 have rG := Gr.below Jb (Nat.lt_of_lt_of_le Gr.lt Jh)
 have b1 := (Below.refl w.heap.size w).trans (Gb.mono Gh)
 have b2 := b1.trans ((Jb.mono Jh).mono b1.size)
 have Hok1 := Lib.hid (Hok.out.go b2)
 have Hs := Lib.hid (refFind_any p.ba d.A p.bcap d.cap p.body d.d.path Jw Hok1.out.brd Hbl.out (Hd.out.go b2).rd Hd.out.len)
 have g2 := rG.cellv (i := 2) (v := .slice p.ba p.body.length p.bcap) rfl
 have j0 := Jr.cellv (i := 0) (v := .slice d.A d.d.path.length d.cap) rfl
 clear Gr Gb Gh Jb Jh b1 Hok Hd
 go_wp2_with fail
 refine Hs.out.mono ?_
 rintro e w1 ⟨rfl, b3⟩
 replace rG := rG.below b3 rG.lt
 replace Jr := Jr.below b3 Jr.lt
 replace b2 := b2.trans (b3.mono b2.size)
 replace Hok1 := Lib.hid (Hok1.out.go b3)
 clear b3 Hs g2 j0
 have Hs := Lib.hid (refKCheck_any p Hbl.out w1 Hok1.out)
 obtain ⟨f, hf⟩ : ∃ f, f = find11 p.body d.d.path := ⟨_, rfl⟩
 rw [← hf]
 have Hf := Lib.hid hf
 clear hf
 go_wp2_with (refine wpList_load_row rfl 25 _ rfl G rfl 25 p.cells (0, 0) _ rG Tryz.underlying25 rfl (by kernel_rfl) ?_)
 refine Hs.out.mono ?_
 rintro e w2 ⟨rfl, b3⟩
 replace rG := rG.below b3 rG.lt
 replace Jr := Jr.below b3 Jr.lt
 replace b2 := b2.trans (b3.mono b2.size)
 replace Hok1 := Lib.hid (Hok1.out.go b3)
 clear b3 Hs
 obtain ⟨k, hk⟩ : ∃ k, k = checkP p := ⟨_, rfl⟩
 rw [← hk]
 by_cases h0 : k = 0
 rotate_left
 · have Hz := Lib.hid (inP_no (p := p) (by rw [← hk]; exact h0) d.d)
   have e0 : (k == 0) = false := by simpa using h0
   clear hk h0
   go_wp2_with fail
   go_ret
   exact ⟨ret_b Hz.out, b2⟩
 subst h0
 obtain ⟨t, ht⟩ := checkP_ok.1 hk.symm
 have hz := allZ_in (d := d.d) ht.good.whole ht.ar
 have hw : find11 p.body d.d.path = match findP d.d.path 0 t with | some (r, _) => (r : Int) | none => -1 := by
  unfold find11
  rw [if_pos ht.good.whole.endZ]
  exact walkP_find d.d.path 0 t ht.good.hat
 have hf : f = find11 p.body d.d.path := Hf.out
 rw [hw] at hf
 clear Hf
 have hin := inP_fine ht d.d
 have Ht := Lib.hid ht
 clear hk hw ht
 cases hfp : findP d.d.path 0 t with
 | none =>
  rw [hfp] at hf
  simp only at hf
  subst hf
  have Hz : Hid (inP p d.d = false) := by
   show _ = _
   have h1 := hz.2 hfp
   rw [← hin] at h1
   simpa using h1
  clear hz hin hfp
  go_wp2_with fail
  go_ret
  exact ⟨ret_b Hz.out, b2⟩
 | some rk =>
  obtain ⟨r, u⟩ := rk
  rw [hfp] at hf
  simp only at hf
  subst hf
  have hatr := findP_at Ht.out.good.hat hfp
  have har := Ht.out.ar _ (List.mem_of_getElem? hatr.root)
  have Hs := Lib.hid (refIs_any p.ba p.bcap p.body r u d.d.op d.d.n w2 hatr har Hok1.out.brd Hbl.out)
  have Hz : Hid (inP p d.d = isC (ndAt p.body r) (ndAt p.body (r + 1)) d.d.op d.d.n) := by
   show _ = _
   rw [Bool.eq_iff_iff, hin]
   exact hz.1 r u hfp
  have g2 := rG.cellv (i := 2) (v := .slice p.ba p.body.length p.bcap) rfl
  have j1 := Jr.cellv (i := 1) (v := .int .i64 d.d.op) rfl
  have j2 := Jr.cellv (i := 2) (v := .int .i64 d.d.n) rfl
  clear hz hin hfp hatr har
  go_wp2_with fail
  refine Hs.out.mono ?_
  rintro e w3 ⟨rfl, b3⟩
  replace b2 := b2.trans (b3.mono b2.size)
  clear b3 Hs rG Jr g2 j1 j2 Hok1
  go_wp2_with fail
  go_ret
  exact ⟨ret_b Hz.out, b2⟩
end Go.Proofs.YtcgglolckkeeiaaGreat
