/- Lemmas for CmAll. -/
import Derived.Test.YtcgglolckkeeiaaGreatZm4
import Derived.Test.YtcgglolckkeeiaaGreatZm3
namespace Go.Proofs.YtcgglolckkeeiaaGreat
set_option linter.unusedVariables false
open Go.RowKit Go.Deep
theorem kid_size : ∀ {ks : List Tr} {k : Tr}, k ∈ ks → k.size ≤ (flats ks).length
 | [], _, h => by simp at h
 | t :: ts, k, h => by
  rw [flats, List.length_append]
  rcases List.mem_cons.1 h with rfl | h
  · simp [Tr.size]
  · have := kid_size h; omega
theorem own_rd {w : World} {base n : Nat} {e : TypeId} {v : Value} {xs : List Value} (h : w.ownsRow base e 1 v n xs) : ∃ A cap, v = .slice A n cap ∧ Rd w A xs ∧ n ≤ cap ∧ (A = none → cap = 0) := by
 have hl : xs.length = n := by have := h.1; omega
 rcases h.2 with ⟨rfl, h0⟩ | ⟨g, cap, cur, rfl, hb, hh, hc, hm, hsz, ht⟩
 · have hx : xs = [] := List.eq_nil_of_length_eq_zero (by omega)
   subst hx
   refine ⟨none, 0, by rw [h0], Rd.nil _ _, by omega, fun _ => rfl⟩
 · refine ⟨some ⟨g, 0, none⟩, cap, rfl, fun j u hj => ⟨_, rfl, ?_⟩, hc, fun h => by cases h⟩
   have hr : Row w g e cur := hh
   exact hr.from_ 0 (cs := xs) (fun j v hj => by
    rw [Nat.zero_add, ← Array.getElem?_toList]
    have h1 : (cur.toList.take (n * 1))[j]? = some v := by rw [ht]; exact hj
    rw [List.getElem?_take_of_lt (by have := (List.getElem?_eq_some_iff.1 hj).1; omega)] at h1; exact h1) j u hj
theorem rd_new (W : World) (xs : List Value) (t : TypeId) : Rd (W.alloc (.cells xs.toArray t)) (some ⟨W.heap.size, 0, none⟩) xs := fun j u hj => ⟨_, rfl, cells_new W xs t j u hj⟩
theorem zero_node {w : World} : (zeroValue 74).run Tryz.prog w = .ok (.agg #[.int .i64 0, .int .i64 0]) w := by kernel_rfl
theorem arity_0 {x : Nd} (h : x.tag = 2 ∨ x.tag = 3 ∨ x.tag = 26) (h0 : 0 ≤ arityZ x) : arityZ x = 0 := by
 unfold arityZ at h0 ⊢
 rw [if_neg (by omega)] at h0 ⊢
 split at h0
 · omega
 · rename_i h1
   rw [if_neg h1]
   unfold limitsZ
   rcases h with h | h | h <;> simp [h]
theorem of3 {V : List Int} {n : Int} (h : 0 ≤ n) : ofT V (.node ⟨3, n⟩ []) = kindZ (decide (typedZ V n = 0 ∨ typedZ V n = 1)) (typedZ V n) := by
 rw [ofT_plain rfl]
 have hi : isZ V ⟨3, n⟩ = if plainV V n then (V[n.toNat]?).getD 0 else -1 := rfl
 rw [hi, ← plainV_typed h]
 cases hp : plainV V n with
 | false => rfl
 | true =>
  rw [if_pos rfl, typed_get h hp]
  have := plainV_typed (V := V) h
  rw [hp] at this
  have h01 := of_decide_eq_true this.symm
  rw [if_neg (by omega)]; rfl
theorem of4 {V : List Int} {n : Int} {ks : List Tr} (h : 0 ≤ n) : ofT V (.node ⟨4, n⟩ ks) = kindZ (decide (0 < sizeZ (typedZ V n)) && decide (ks.map (ofT V) = [0])) 0 := by
 rw [ofT_plain rfl]
 have hi : isZ V ⟨4, n⟩ = if arrayV V n then 0 else -1 := rfl
 rw [hi, ← arrayV_typed h]
 cases hp : arrayV V n with
 | false => rfl
 | true => rw [if_pos rfl, if_neg (by omega)]; rfl
theorem of22 {V : List Int} {n : Int} {ks : List Tr} (h : 0 ≤ n) : ofT V (.node ⟨22, n⟩ ks) = kindZ (decide (0 < sizeZ (typedZ V n)) && decide (ks.map (ofT V) = [0, 0])) 2 := by
 rw [ofT_plain rfl]
 have hi : isZ V ⟨22, n⟩ = if arrayV V n then 2 else -1 := rfl
 rw [hi, ← arrayV_typed h]
 cases hp : arrayV V n with
 | false => rfl
 | true => rw [if_pos rfl, if_neg (by omega)]; rfl
theorem of21 {V : List Int} {n : Int} {ks : List Tr} (h : 0 ≤ n) : ofT V (.node ⟨21, n⟩ ks) = kindZ (decide (typedZ V n = 0 ∨ typedZ V n = 1) && decide (ks.map (ofT V) = [typedZ V n])) 2 := by
 rw [ofT_plain rfl]
 have hi : isZ V ⟨21, n⟩ = if plainV V n then 2 else -1 := rfl
 have hw : wantZ V ⟨21, n⟩ ks.length = [(V[n.toNat]?).getD 0] := rfl
 rw [hi, hw, ← plainV_typed h]
 cases hp : plainV V n with
 | false => rfl
 | true => rw [if_pos rfl, if_neg (by omega), typed_get h hp]; rfl
set_option maxRecDepth 100000 in
set_option maxHeartbeats 40000000 in
theorem refOf_tree (p : PgV) (hbl : p.body.length ≤ 1000) : ∀ (n : Nat) (t : Tr) (q : Nat), t.size ≤ n → At p.body q t → ∀ w, p.ok w → Calls Tryz.prog 126 #[.agg p.cells, .int .i64 (q : Int)] w fun e w' => e = .returned (.int .i64 (ofT p.V t)) ∧ Below w.heap.size w w' := by
 intro n
 induction n with
 | zero => intro t q hn; have := t.size_eq; omega
 | succ n ih =>
 intro t q hn hat w hok
 obtain ⟨⟨tag, nn⟩, ks⟩ := t
 have Hbl := Lib.hid hbl
 have hkz : kidsZ p.body (q : Int) = natsI (spots (q + 1) ks) := hat.kidsZ
 obtain ⟨pos, hpos⟩ : ∃ pos, pos = spots (q + 1) ks := ⟨_, rfl⟩
 rw [← hpos] at hkz
 have Hkz := Lib.hid hkz
 have Hpl : Hid (pos.length = ks.length) := by show _ = _; rw [hpos, spots_len]
 have hof : ∀ (i q' : Nat) (v : Int), pos[i]? = some q' → (ks.map (ofT p.V))[i]? = some v → ∀ W, p.ok W → Calls Tryz.prog 126 #[.agg p.cells, .int .i64 (q' : Int)] W fun e W' => e = .returned (.int .i64 v) ∧ Below W.heap.size W W' := by
  intro i q' v h1 h2 W hW
  rw [List.getElem?_map] at h2
  obtain ⟨k, hk, rfl⟩ := Option.map_eq_some_iff.1 h2
  rw [hpos] at h1
  obtain ⟨hk', _⟩ := hat.kids.spot i q' k h1 hk
  refine ih k q' ?_ hk' W hW
  have h3 := kid_size (List.mem_of_getElem? hk)
  have h4 := (Tr.node ⟨tag, nn⟩ ks).size_eq
  simp only [Tr.kids] at h4
  omega
 have Hp : Hid (∀ (i q : Nat) (t : Tr), pos[i]? = some q → ks[i]? = some t → At p.body q t) := by
  show ∀ i q t, _
  intro i q' t h1 h2
  rw [hpos] at h1
  exact (hat.kids.spot i q' t h1 h2).1
 have Hpm : Hid (pos.length ≤ 1000) := by
  show _ ≤ _
  have h5 : ∀ (ts : List Tr), ts.length ≤ (flats ts).length := fun ts => by
   induction ts with
   | nil => simp
   | cons t ts ih => rw [flats, List.length_append, List.length_cons]; have := t.size_eq; have hsz : t.size = t.flat.length := rfl; omega
  have h3 := h5 ks
  have h4 := (Tr.node ⟨tag, nn⟩ ks).size_eq
  simp only [Tr.kids] at h4
  have := hat.le
  rw [Hpl.out]; omega
 have Hof := Lib.hid hof
 have hfit := hat.fits
 have har : 0 ≤ arityZ ⟨tag, nn⟩ := by have := hfit.arity; simp only [Tr.root, Tr.kids] at this; omega
 have htag : 1 ≤ tag ∧ tag ≤ 26 := by
  by_cases h : 1 ≤ tag ∧ tag ≤ 26
  · exact h
  · rw [arityZ_no h] at har; omega
 have hn0 : tag ≠ 1 → 0 ≤ nn := fun h => by have := arity_tag har; simp only at this; omega
 have Hn0 := Lib.hid hn0
 have Hal : Hid (arityZ ⟨tag, nn⟩ = (ks.length : Int)) := hfit.arity
 have Hroot : Hid (p.body[q]? = some ⟨tag, nn⟩) := hat.root
 have Hend : Hid (endZ p.body (q : Int) = ((q + (Tr.node ⟨tag, nn⟩ ks).size : Nat) : Int)) := hat.endZ
 have hql : (q : Int) < (p.body.length : Int) := by have := hat.lt; omega
 have Hok := Lib.hid hok
 clear hkz hof hfit har hn0 hok hpos hat ih hbl hn
 obtain ⟨vn, hvn⟩ : ∃ vn, vn = typedZ p.V nn := ⟨_, rfl⟩
 have Hvn := Lib.hid hvn
 clear hvn
 go_enter Tryz.func126, Tryz.ntmps126
 go_wp2_with (refine at_box _ _ rfl ?_)
 refine Stop.to ?_
 refine wpList_box_gen rfl 25 _ rfl p.cells rfl ?_
 intro G w1 hG r1 b1
 have b1 := (Below.refl w.heap.size w).trans (b1.mono hG)
 have c2 := r1.cellv (i := 2) (v := .slice p.ba p.body.length p.bcap) rfl
 have Hok1 := Lib.hid (Hok.out.go b1)
 clear hG Hok
 go_wp2_with fail
 refine (refEnd_any p.ba p.bcap p.body (q : Int) w1 Hok1.out.brd Hbl.out).mono ?_
 rintro e w2 ⟨rfl, b2⟩
 rw [Hend.out]
 have r1 := r1.below b2 r1.lt
 have Hok2 := Lib.hid (Hok1.out.go b2)
 have b2 := b1.trans (b2.mono b1.size)
 have c2 := r1.cellv (i := 2) (v := .slice p.ba p.body.length p.bcap) rfl
 obtain ⟨ad, had, hc⟩ := nd_at Hok2.out.brd Hroot.out
 have Hc := Lib.hid hc
 have Had := Lib.hid had
 have hpos0 : 0 ≤ ((q + (Tr.node ⟨tag, nn⟩ ks).size : Nat) : Int) := by omega
 have hdec : decide ((q : Int) + ((Tr.node ⟨tag, nn⟩ ks).size : Int) < 0) = false := by simp; omega
 have c2' := c2
 rw [had] at c2'
 clear b1 Hok1 hc c2 had
 go_wp2_with (first
  | (refine wpList_load_at rfl 74 _ rfl (ad.add (q * 2)) rfl (Nd.cells ⟨tag, nn⟩) _ Hc.out Tryz.underlying74 rfl (by kernel_rfl) ?_)
  | (refine at_alloc _ rfl ?_))
 refine Stop.to ?_
 refine wpList_alloc_gen rfl 74 rfl _ _ zero_node rfl ?_
 intro X w3 hX rX b3
 go_wp2_with (refine at_store _ _ _ rfl ?_)
 refine Stop.to ?_
 refine wpList_store_gen rfl 74 _ _ rfl X (Nd.cells ⟨tag, nn⟩).toArray rfl rfl 74 _ rX (by kernel_rfl) rfl (by simp [Nd.cells, Value.oneCell']) ?_
 intro w4 r4 o4
 have b34 : Below w2.heap.size w2 w4 := (b3.mono hX).trans (o4.below hX)
 have r1 := r1.below b34 r1.lt
 have Hok4 := Lib.hid (Hok2.out.go b34)
 have b4 := b2.trans (b34.mono b2.size)
 have c2 := r1.cellv (i := 2) (v := .slice p.ba p.body.length p.bcap) rfl
 clear b3 o4 rX b34 b2 Hok2 c2' hX Hc
 go_wp2_with fail
 refine (refKids_any p.ba p.bcap p.body (q : Int) w4 Hok4.out.brd Hbl.out).mono ?_
 rintro e w5 ⟨kv, rfl, hown, b5⟩
 rw [Hkz.out, natsI_len] at hown
 obtain ⟨KA, kcap, rfl, hkr, hkc, hkn⟩ := own_rd hown
 have r1 := r1.below b5 r1.lt
 have r4 := r4.below b5 r4.lt
 have Hok5 := Lib.hid (Hok4.out.go b5)
 have b5 := b4.trans (b5.mono b4.size)
 have c4n := r4.cellv (i := 1) (v := .int .i64 nn) rfl
 clear hown c2 Hok4 b4
 go_wp2_with (refine wpList_load_row rfl 25 _ rfl G rfl 25 p.cells (0, 0) _ r1 Tryz.underlying25 rfl (by kernel_rfl) ?_)
 refine (typed_any p nn w5 Hok5.out).mono ?_
 rintro e W ⟨rfl, b6⟩
 rw [← Hvn.out]
 have r1 := r1.below b6 r1.lt
 have r4 := r4.below b6 r4.lt
 have hkr := hkr.go b6
 have hok := Hok5.out.go b6
 have b6 := b5.trans (b6.mono b5.size)
 obtain ⟨S, hSd⟩ : ∃ S, S = (fun W => Row W G 25 p.cells ∧ Row W X 74 (Nd.cells ⟨tag, nn⟩).toArray ∧ Rd W KA (ints (natsI pos)) ∧ p.ok W ∧ Below w.heap.size w W) := ⟨_, rfl⟩
 have stS : St S := by rw [hSd]; infer_instance
 have S0 : Hid (∀ W, S W → Row W G 25 p.cells) := by show ∀ W, _; rw [hSd]; exact fun W h => h.1
 have S1 : Hid (∀ W, S W → Rd W KA (ints (natsI pos))) := by show ∀ W, _; rw [hSd]; exact fun W h => h.2.2.1
 have S2 : Hid (∀ W, S W → p.ok W) := by show ∀ W, _; rw [hSd]; exact fun W h => h.2.2.2.1
 have S3 := S1
 have S4 : Hid (∀ W, S W → Below w.heap.size w W) := by show ∀ W, _; rw [hSd]; exact fun W h => h.2.2.2.2
 have hS : S W := by rw [hSd]; exact ⟨r1, r4, hkr, hok, b6⟩
 have c4t := r4.cellv (i := 0) (v := .int .i64 tag) rfl
 clear hSd r1 r4 hkr hok b6 b5 Hok5 c4n
 have htags : tag = 1 ∨ tag = 2 ∨ tag = 3 ∨ tag = 4 ∨ tag = 5 ∨ tag = 6 ∨ tag = 7 ∨ tag = 8 ∨ tag = 9 ∨ tag = 10 ∨ tag = 11 ∨ tag = 12 ∨ tag = 13 ∨ tag = 14 ∨ tag = 15 ∨ tag = 16 ∨ tag = 17 ∨ tag = 18 ∨ tag = 19 ∨ tag = 20 ∨ tag = 21 ∨ tag = 22 ∨ tag = 23 ∨ tag = 24 ∨ tag = 25 ∨ tag = 26 := by omega
 clear htag
 rcases htags with rfl | rfl | rfl | rfl | rfl | rfl | rfl | rfl | rfl | rfl | rfl | rfl | rfl | rfl | rfl | rfl | rfl | rfl | rfl | rfl | rfl | rfl | rfl | rfl | rfl | rfl
 · obtain rfl : ks = [] := List.eq_nil_of_length_eq_zero (by have := Hal.out; rw [arityZ_1] at this; omega)
   have Hz : Hid (ofT p.V (.node ⟨1, nn⟩ []) = 0) := by show _ = _; exact (ofT_plain rfl).trans (by rfl)
   go_wp2
   go_ret
   exact ⟨ret_i Hz.out, S4.out _ hS⟩
 · obtain rfl : ks = [] := List.eq_nil_of_length_eq_zero (by have := Hal.out; have := arity_0 (x := ⟨2, nn⟩) (.inl rfl) (by omega); omega)
   have Hz : Hid (ofT p.V (.node ⟨2, nn⟩ []) = 1) := by show _ = _; exact (ofT_plain rfl).trans (by rfl)
   go_wp2
   go_ret
   exact ⟨ret_i Hz.out, S4.out _ hS⟩
 · obtain rfl : ks = [] := List.eq_nil_of_length_eq_zero (by have := Hal.out; have := arity_0 (x := ⟨3, nn⟩) (.inr (.inl rfl)) (by omega); omega)
   have hz := of3 (V := p.V) (Hn0.out (by omega))
   rw [← Hvn.out] at hz
   have Hz := Lib.hid hz
   clear hz
   by_cases h0 : vn = 0
   · have e0 : (vn == 0) = true := by simpa using h0
     have Hb : Hid (kindZ (decide (vn = 0 ∨ vn = 1)) vn = kindZ true vn) := by show _ = _; rw [decide_eq_true (.inl h0)]
     clear h0
     go_wp2_with fail
     refine (kindB_any true vn _).mono ?_
     rintro e W3 ⟨rfl, rfl⟩
     go_wp2
     go_ret
     exact ⟨ret_i (by rw [Hz.out, Hb.out]), S4.out _ hS⟩
   · have e0 : (vn == 0) = false := by simpa using h0
     by_cases h1 : vn = 1
     · have e1 : (vn == 1) = true := by simpa using h1
       have Hb : Hid (kindZ (decide (vn = 0 ∨ vn = 1)) vn = kindZ true vn) := by show _ = _; rw [decide_eq_true (.inr h1)]
       clear h0 h1
       go_wp2_with fail
       refine (kindB_any true vn _).mono ?_
       rintro e W3 ⟨rfl, rfl⟩
       go_wp2
       go_ret
       exact ⟨ret_i (by rw [Hz.out, Hb.out]), S4.out _ hS⟩
     · have e1 : (vn == 1) = false := by simpa using h1
       have Hb : Hid (kindZ (decide (vn = 0 ∨ vn = 1)) vn = kindZ false vn) := by show _ = _; rw [decide_eq_false (by omega)]
       clear h0 h1
       go_wp2_with fail
       refine (kindB_any false vn _).mono ?_
       rintro e W3 ⟨rfl, rfl⟩
       go_wp2
       go_ret
       exact ⟨ret_i (by rw [Hz.out, Hb.out]), S4.out _ hS⟩
 · have hz := of4 (V := p.V) (ks := ks) (Hn0.out (by omega))
   rw [← Hvn.out] at hz
   have Hz := Lib.hid hz
   have hin := Lib.hid (InI_typed (n := nn) (S2.out _ hS).vin)
   rw [← Hvn.out] at hin
   clear hz
   by_cases h0 : 0 < sizeZ vn
   · have Hb0 : Hid (decide (0 < sizeZ vn) = true) := by show _ = _; exact decide_eq_true h0
     go_wp2_with fail
     refine (refSize_any vn _ hin.out).mono ?_
     rintro e W1 ⟨rfl, rfl⟩
     go_wp2_with (refine wpList_load_rowG rfl 25 _ rfl G rfl 25 p.cells (0, 0) _ (S0.out _ hS) Tryz.underlying25 rfl (by kernel_rfl) ?_)
     refine (all_of p KA _ kcap _ pos (ks.map (ofT p.V)) [0] _ (S2.out _ (St.alloc hS _)) (S3.out _ (St.alloc hS _)) (rd_new W (ints [0]) 3) (by simp [Hpl.out]) Hpm.out Hof.out).mono ?_
     rintro e W2 ⟨rfl, b2⟩
     have hS2 := stS.go (St.alloc hS _) b2
     generalize hb : decide (ks.map (ofT p.V) = [0]) = b
     have Hb := Lib.hid hb
     clear hb b2 hS
     go_wp2_with fail
     refine (kindB_any b 0 _).mono ?_
     rintro e W3 ⟨rfl, rfl⟩
     go_wp2
     go_ret
     exact ⟨ret_i (by rw [Hz.out, Hb0.out, Bool.true_and, Hb.out]), S4.out _ hS2⟩
   · have Hb0 : Hid (decide (0 < sizeZ vn) = false) := by show _ = _; exact decide_eq_false h0
     have h0' : sizeZ vn ≤ 0 := by omega
     clear h0
     go_wp2_with fail
     refine (refSize_any vn _ hin.out).mono ?_
     rintro e W1 ⟨rfl, rfl⟩
     go_wp2_with fail
     refine (kindB_any false 0 _).mono ?_
     rintro e W3 ⟨rfl, rfl⟩
     go_wp2
     go_ret
     exact ⟨ret_i (by rw [Hz.out, Hb0.out, Bool.false_and]), S4.out _ hS⟩
 · have hz : ofT p.V (.node ⟨5, nn⟩ ks) = kindZ (decide (ks.map (ofT p.V) = [0])) 0 := (ofT_plain rfl).trans (by rfl)
   have Hz := Lib.hid hz
   clear hz
   go_wp2_with (refine wpList_load_row rfl 25 _ rfl G rfl 25 p.cells (0, 0) _ (S0.out _ hS) Tryz.underlying25 rfl (by kernel_rfl) ?_)
   refine (all_of p KA _ kcap _ pos (ks.map (ofT p.V)) [0] _ (S2.out _ (St.alloc hS _)) (S3.out _ (St.alloc hS _)) (rd_new W (ints [0]) 3) (by simp [Hpl.out]) Hpm.out Hof.out).mono ?_
   rintro e W2 ⟨rfl, b2⟩
   have hS2 := stS.go (St.alloc hS _) b2
   generalize hb : decide (ks.map (ofT p.V) = [0]) = b
   have Hb := Lib.hid hb
   clear hb b2 hS
   go_wp2_with fail
   refine (kindB_any b 0 _).mono ?_
   rintro e W3 ⟨rfl, rfl⟩
   go_wp2
   go_ret
   exact ⟨ret_i (by rw [Hz.out, Hb.out]), S4.out _ hS2⟩
 · have hz : ofT p.V (.node ⟨6, nn⟩ ks) = kindZ (decide (ks.map (ofT p.V) = [1])) 1 := (ofT_plain rfl).trans (by rfl)
   have Hz := Lib.hid hz
   clear hz
   go_wp2_with (refine wpList_load_row rfl 25 _ rfl G rfl 25 p.cells (0, 0) _ (S0.out _ hS) Tryz.underlying25 rfl (by kernel_rfl) ?_)
   refine (all_of p KA _ kcap _ pos (ks.map (ofT p.V)) [1] _ (S2.out _ (St.alloc hS _)) (S3.out _ (St.alloc hS _)) (rd_new W (ints [1]) 3) (by simp [Hpl.out]) Hpm.out Hof.out).mono ?_
   rintro e W2 ⟨rfl, b2⟩
   have hS2 := stS.go (St.alloc hS _) b2
   generalize hb : decide (ks.map (ofT p.V) = [1]) = b
   have Hb := Lib.hid hb
   clear hb b2 hS
   go_wp2_with fail
   refine (kindB_any b 1 _).mono ?_
   rintro e W3 ⟨rfl, rfl⟩
   go_wp2
   go_ret
   exact ⟨ret_i (by rw [Hz.out, Hb.out]), S4.out _ hS2⟩
 · have hz : ofT p.V (.node ⟨7, nn⟩ ks) = kindZ (decide (ks.map (ofT p.V) = [0, 0])) 0 := (ofT_plain rfl).trans (by rfl)
   have Hz := Lib.hid hz
   clear hz
   go_wp2_with (refine wpList_load_row rfl 25 _ rfl G rfl 25 p.cells (0, 0) _ (S0.out _ hS) Tryz.underlying25 rfl (by kernel_rfl) ?_)
   refine (all_of p KA _ kcap _ pos (ks.map (ofT p.V)) [0, 0] _ (S2.out _ (St.alloc hS _)) (S3.out _ (St.alloc hS _)) (rd_new W (ints [0, 0]) 3) (by simp [Hpl.out]) Hpm.out Hof.out).mono ?_
   rintro e W2 ⟨rfl, b2⟩
   have hS2 := stS.go (St.alloc hS _) b2
   generalize hb : decide (ks.map (ofT p.V) = [0, 0]) = b
   have Hb := Lib.hid hb
   clear hb b2 hS
   go_wp2_with fail
   refine (kindB_any b 0 _).mono ?_
   rintro e W3 ⟨rfl, rfl⟩
   go_wp2
   go_ret
   exact ⟨ret_i (by rw [Hz.out, Hb.out]), S4.out _ hS2⟩
 · have hz : ofT p.V (.node ⟨8, nn⟩ ks) = kindZ (decide (ks.map (ofT p.V) = [0, 0])) 0 := (ofT_plain rfl).trans (by rfl)
   have Hz := Lib.hid hz
   clear hz
   go_wp2_with (refine wpList_load_row rfl 25 _ rfl G rfl 25 p.cells (0, 0) _ (S0.out _ hS) Tryz.underlying25 rfl (by kernel_rfl) ?_)
   refine (all_of p KA _ kcap _ pos (ks.map (ofT p.V)) [0, 0] _ (S2.out _ (St.alloc hS _)) (S3.out _ (St.alloc hS _)) (rd_new W (ints [0, 0]) 3) (by simp [Hpl.out]) Hpm.out Hof.out).mono ?_
   rintro e W2 ⟨rfl, b2⟩
   have hS2 := stS.go (St.alloc hS _) b2
   generalize hb : decide (ks.map (ofT p.V) = [0, 0]) = b
   have Hb := Lib.hid hb
   clear hb b2 hS
   go_wp2_with fail
   refine (kindB_any b 0 _).mono ?_
   rintro e W3 ⟨rfl, rfl⟩
   go_wp2
   go_ret
   exact ⟨ret_i (by rw [Hz.out, Hb.out]), S4.out _ hS2⟩
 · have hz : ofT p.V (.node ⟨9, nn⟩ ks) = kindZ (decide (ks.map (ofT p.V) = [0, 0])) 0 := (ofT_plain rfl).trans (by rfl)
   have Hz := Lib.hid hz
   clear hz
   go_wp2_with (refine wpList_load_row rfl 25 _ rfl G rfl 25 p.cells (0, 0) _ (S0.out _ hS) Tryz.underlying25 rfl (by kernel_rfl) ?_)
   refine (all_of p KA _ kcap _ pos (ks.map (ofT p.V)) [0, 0] _ (S2.out _ (St.alloc hS _)) (S3.out _ (St.alloc hS _)) (rd_new W (ints [0, 0]) 3) (by simp [Hpl.out]) Hpm.out Hof.out).mono ?_
   rintro e W2 ⟨rfl, b2⟩
   have hS2 := stS.go (St.alloc hS _) b2
   generalize hb : decide (ks.map (ofT p.V) = [0, 0]) = b
   have Hb := Lib.hid hb
   clear hb b2 hS
   go_wp2_with fail
   refine (kindB_any b 0 _).mono ?_
   rintro e W3 ⟨rfl, rfl⟩
   go_wp2
   go_ret
   exact ⟨ret_i (by rw [Hz.out, Hb.out]), S4.out _ hS2⟩
 · have hz : ofT p.V (.node ⟨10, nn⟩ ks) = kindZ (decide (ks.map (ofT p.V) = [0, 0])) 0 := (ofT_plain rfl).trans (by rfl)
   have Hz := Lib.hid hz
   clear hz
   go_wp2_with (refine wpList_load_row rfl 25 _ rfl G rfl 25 p.cells (0, 0) _ (S0.out _ hS) Tryz.underlying25 rfl (by kernel_rfl) ?_)
   refine (all_of p KA _ kcap _ pos (ks.map (ofT p.V)) [0, 0] _ (S2.out _ (St.alloc hS _)) (S3.out _ (St.alloc hS _)) (rd_new W (ints [0, 0]) 3) (by simp [Hpl.out]) Hpm.out Hof.out).mono ?_
   rintro e W2 ⟨rfl, b2⟩
   have hS2 := stS.go (St.alloc hS _) b2
   generalize hb : decide (ks.map (ofT p.V) = [0, 0]) = b
   have Hb := Lib.hid hb
   clear hb b2 hS
   go_wp2_with fail
   refine (kindB_any b 0 _).mono ?_
   rintro e W3 ⟨rfl, rfl⟩
   go_wp2
   go_ret
   exact ⟨ret_i (by rw [Hz.out, Hb.out]), S4.out _ hS2⟩
 · have hz : ofT p.V (.node ⟨11, nn⟩ ks) = kindZ (decide (ks.map (ofT p.V) = [0, 0])) 0 := (ofT_plain rfl).trans (by rfl)
   have Hz := Lib.hid hz
   clear hz
   go_wp2_with (refine wpList_load_row rfl 25 _ rfl G rfl 25 p.cells (0, 0) _ (S0.out _ hS) Tryz.underlying25 rfl (by kernel_rfl) ?_)
   refine (all_of p KA _ kcap _ pos (ks.map (ofT p.V)) [0, 0] _ (S2.out _ (St.alloc hS _)) (S3.out _ (St.alloc hS _)) (rd_new W (ints [0, 0]) 3) (by simp [Hpl.out]) Hpm.out Hof.out).mono ?_
   rintro e W2 ⟨rfl, b2⟩
   have hS2 := stS.go (St.alloc hS _) b2
   generalize hb : decide (ks.map (ofT p.V) = [0, 0]) = b
   have Hb := Lib.hid hb
   clear hb b2 hS
   go_wp2_with fail
   refine (kindB_any b 0 _).mono ?_
   rintro e W3 ⟨rfl, rfl⟩
   go_wp2
   go_ret
   exact ⟨ret_i (by rw [Hz.out, Hb.out]), S4.out _ hS2⟩
 · have hz : ofT p.V (.node ⟨12, nn⟩ ks) = kindZ (decide (ks.map (ofT p.V) = [0, 0])) 1 := (ofT_plain rfl).trans (by rfl)
   have Hz := Lib.hid hz
   clear hz
   go_wp2_with (refine wpList_load_row rfl 25 _ rfl G rfl 25 p.cells (0, 0) _ (S0.out _ hS) Tryz.underlying25 rfl (by kernel_rfl) ?_)
   refine (all_of p KA _ kcap _ pos (ks.map (ofT p.V)) [0, 0] _ (S2.out _ (St.alloc hS _)) (S3.out _ (St.alloc hS _)) (rd_new W (ints [0, 0]) 3) (by simp [Hpl.out]) Hpm.out Hof.out).mono ?_
   rintro e W2 ⟨rfl, b2⟩
   have hS2 := stS.go (St.alloc hS _) b2
   generalize hb : decide (ks.map (ofT p.V) = [0, 0]) = b
   have Hb := Lib.hid hb
   clear hb b2 hS
   go_wp2_with fail
   refine (kindB_any b 1 _).mono ?_
   rintro e W3 ⟨rfl, rfl⟩
   go_wp2
   go_ret
   exact ⟨ret_i (by rw [Hz.out, Hb.out]), S4.out _ hS2⟩
 · have hz : ofT p.V (.node ⟨13, nn⟩ ks) = kindZ (decide (ks.map (ofT p.V) = [0, 0])) 1 := (ofT_plain rfl).trans (by rfl)
   have Hz := Lib.hid hz
   clear hz
   go_wp2_with (refine wpList_load_row rfl 25 _ rfl G rfl 25 p.cells (0, 0) _ (S0.out _ hS) Tryz.underlying25 rfl (by kernel_rfl) ?_)
   refine (all_of p KA _ kcap _ pos (ks.map (ofT p.V)) [0, 0] _ (S2.out _ (St.alloc hS _)) (S3.out _ (St.alloc hS _)) (rd_new W (ints [0, 0]) 3) (by simp [Hpl.out]) Hpm.out Hof.out).mono ?_
   rintro e W2 ⟨rfl, b2⟩
   have hS2 := stS.go (St.alloc hS _) b2
   generalize hb : decide (ks.map (ofT p.V) = [0, 0]) = b
   have Hb := Lib.hid hb
   clear hb b2 hS
   go_wp2_with fail
   refine (kindB_any b 1 _).mono ?_
   rintro e W3 ⟨rfl, rfl⟩
   go_wp2
   go_ret
   exact ⟨ret_i (by rw [Hz.out, Hb.out]), S4.out _ hS2⟩
 · have hz : ofT p.V (.node ⟨14, nn⟩ ks) = kindZ (decide (ks.map (ofT p.V) = [0, 0])) 1 := (ofT_plain rfl).trans (by rfl)
   have Hz := Lib.hid hz
   clear hz
   go_wp2_with (refine wpList_load_row rfl 25 _ rfl G rfl 25 p.cells (0, 0) _ (S0.out _ hS) Tryz.underlying25 rfl (by kernel_rfl) ?_)
   refine (all_of p KA _ kcap _ pos (ks.map (ofT p.V)) [0, 0] _ (S2.out _ (St.alloc hS _)) (S3.out _ (St.alloc hS _)) (rd_new W (ints [0, 0]) 3) (by simp [Hpl.out]) Hpm.out Hof.out).mono ?_
   rintro e W2 ⟨rfl, b2⟩
   have hS2 := stS.go (St.alloc hS _) b2
   generalize hb : decide (ks.map (ofT p.V) = [0, 0]) = b
   have Hb := Lib.hid hb
   clear hb b2 hS
   go_wp2_with fail
   refine (kindB_any b 1 _).mono ?_
   rintro e W3 ⟨rfl, rfl⟩
   go_wp2
   go_ret
   exact ⟨ret_i (by rw [Hz.out, Hb.out]), S4.out _ hS2⟩
 · have hz : ofT p.V (.node ⟨15, nn⟩ ks) = kindZ (decide (ks.map (ofT p.V) = [0, 0])) 1 := (ofT_plain rfl).trans (by rfl)
   have Hz := Lib.hid hz
   clear hz
   go_wp2_with (refine wpList_load_row rfl 25 _ rfl G rfl 25 p.cells (0, 0) _ (S0.out _ hS) Tryz.underlying25 rfl (by kernel_rfl) ?_)
   refine (all_of p KA _ kcap _ pos (ks.map (ofT p.V)) [0, 0] _ (S2.out _ (St.alloc hS _)) (S3.out _ (St.alloc hS _)) (rd_new W (ints [0, 0]) 3) (by simp [Hpl.out]) Hpm.out Hof.out).mono ?_
   rintro e W2 ⟨rfl, b2⟩
   have hS2 := stS.go (St.alloc hS _) b2
   generalize hb : decide (ks.map (ofT p.V) = [0, 0]) = b
   have Hb := Lib.hid hb
   clear hb b2 hS
   go_wp2_with fail
   refine (kindB_any b 1 _).mono ?_
   rintro e W3 ⟨rfl, rfl⟩
   go_wp2
   go_ret
   exact ⟨ret_i (by rw [Hz.out, Hb.out]), S4.out _ hS2⟩
 · have hz : ofT p.V (.node ⟨16, nn⟩ ks) = kindZ (decide (ks.map (ofT p.V) = [0, 0])) 1 := (ofT_plain rfl).trans (by rfl)
   have Hz := Lib.hid hz
   clear hz
   go_wp2_with (refine wpList_load_row rfl 25 _ rfl G rfl 25 p.cells (0, 0) _ (S0.out _ hS) Tryz.underlying25 rfl (by kernel_rfl) ?_)
   refine (all_of p KA _ kcap _ pos (ks.map (ofT p.V)) [0, 0] _ (S2.out _ (St.alloc hS _)) (S3.out _ (St.alloc hS _)) (rd_new W (ints [0, 0]) 3) (by simp [Hpl.out]) Hpm.out Hof.out).mono ?_
   rintro e W2 ⟨rfl, b2⟩
   have hS2 := stS.go (St.alloc hS _) b2
   generalize hb : decide (ks.map (ofT p.V) = [0, 0]) = b
   have Hb := Lib.hid hb
   clear hb b2 hS
   go_wp2_with fail
   refine (kindB_any b 1 _).mono ?_
   rintro e W3 ⟨rfl, rfl⟩
   go_wp2
   go_ret
   exact ⟨ret_i (by rw [Hz.out, Hb.out]), S4.out _ hS2⟩
 · have hz : ofT p.V (.node ⟨17, nn⟩ ks) = kindZ (decide (ks.map (ofT p.V) = [0, 0])) 1 := (ofT_plain rfl).trans (by rfl)
   have Hz := Lib.hid hz
   clear hz
   go_wp2_with (refine wpList_load_row rfl 25 _ rfl G rfl 25 p.cells (0, 0) _ (S0.out _ hS) Tryz.underlying25 rfl (by kernel_rfl) ?_)
   refine (all_of p KA _ kcap _ pos (ks.map (ofT p.V)) [0, 0] _ (S2.out _ (St.alloc hS _)) (S3.out _ (St.alloc hS _)) (rd_new W (ints [0, 0]) 3) (by simp [Hpl.out]) Hpm.out Hof.out).mono ?_
   rintro e W2 ⟨rfl, b2⟩
   have hS2 := stS.go (St.alloc hS _) b2
   generalize hb : decide (ks.map (ofT p.V) = [0, 0]) = b
   have Hb := Lib.hid hb
   clear hb b2 hS
   go_wp2_with fail
   refine (kindB_any b 1 _).mono ?_
   rintro e W3 ⟨rfl, rfl⟩
   go_wp2
   go_ret
   exact ⟨ret_i (by rw [Hz.out, Hb.out]), S4.out _ hS2⟩
 · have hz : ofT p.V (.node ⟨18, nn⟩ ks) = kindZ (decide (ks.map (ofT p.V) = [1, 1])) 1 := (ofT_plain rfl).trans (by rfl)
   have Hz := Lib.hid hz
   clear hz
   go_wp2_with (refine wpList_load_row rfl 25 _ rfl G rfl 25 p.cells (0, 0) _ (S0.out _ hS) Tryz.underlying25 rfl (by kernel_rfl) ?_)
   refine (all_of p KA _ kcap _ pos (ks.map (ofT p.V)) [1, 1] _ (S2.out _ (St.alloc hS _)) (S3.out _ (St.alloc hS _)) (rd_new W (ints [1, 1]) 3) (by simp [Hpl.out]) Hpm.out Hof.out).mono ?_
   rintro e W2 ⟨rfl, b2⟩
   have hS2 := stS.go (St.alloc hS _) b2
   generalize hb : decide (ks.map (ofT p.V) = [1, 1]) = b
   have Hb := Lib.hid hb
   clear hb b2 hS
   go_wp2_with fail
   refine (kindB_any b 1 _).mono ?_
   rintro e W3 ⟨rfl, rfl⟩
   go_wp2
   go_ret
   exact ⟨ret_i (by rw [Hz.out, Hb.out]), S4.out _ hS2⟩
 · have hz : ofT p.V (.node ⟨19, nn⟩ ks) = kindZ (decide (ks.map (ofT p.V) = [1, 1])) 1 := (ofT_plain rfl).trans (by rfl)
   have Hz := Lib.hid hz
   clear hz
   go_wp2_with (refine wpList_load_row rfl 25 _ rfl G rfl 25 p.cells (0, 0) _ (S0.out _ hS) Tryz.underlying25 rfl (by kernel_rfl) ?_)
   refine (all_of p KA _ kcap _ pos (ks.map (ofT p.V)) [1, 1] _ (S2.out _ (St.alloc hS _)) (S3.out _ (St.alloc hS _)) (rd_new W (ints [1, 1]) 3) (by simp [Hpl.out]) Hpm.out Hof.out).mono ?_
   rintro e W2 ⟨rfl, b2⟩
   have hS2 := stS.go (St.alloc hS _) b2
   generalize hb : decide (ks.map (ofT p.V) = [1, 1]) = b
   have Hb := Lib.hid hb
   clear hb b2 hS
   go_wp2_with fail
   refine (kindB_any b 1 _).mono ?_
   rintro e W3 ⟨rfl, rfl⟩
   go_wp2
   go_ret
   exact ⟨ret_i (by rw [Hz.out, Hb.out]), S4.out _ hS2⟩
 · have Hz : Hid (ofT p.V (.node ⟨20, nn⟩ ks) = kindZ (decide (ks.map (ofT p.V) = List.replicate ks.length 2)) 2) := by show _ = _; exact (ofT_plain rfl).trans (by rfl)
   go_wp2
   go_loopw [8] (fun i wr => ∃ k : Nat, i = .int .i64 (k : Int) ∧ k ≤ pos.length ∧ S wr ∧ Hid ((ks.map (ofT p.V)).take k = List.replicate k 2)) (fun i _ => pos.length - (intOf i).toNat)
   case atStart => exact ⟨0, rfl, Nat.zero_le _, hS, Lib.hid rfl⟩
   case round =>
    clear hS c4t
    obtain ⟨k, rfl, hk, hSr, hall⟩ := hrel
    by_cases hlt : k < pos.length
    · obtain ⟨q', hq⟩ : ∃ q, pos[k]? = some q := ⟨_, List.getElem?_eq_getElem hlt⟩
      obtain ⟨v, hv⟩ : ∃ v, (ks.map (ofT p.V))[k]? = some v := ⟨_, List.getElem?_eq_getElem (by rw [List.length_map, ← Hpl.out]; exact hlt)⟩
      have call := Lib.hid (Hof.out k q' v hq hv)
      obtain ⟨kd, hkd, _⟩ := int_at (l := natsI pos) (S1.out _ hSr) (k := k) (x := (q' : Int)) (by simp [natsI, hq])
      subst hkd
      have hcq : Hid (∀ W, S W → W.cell? (kd.add k) = some (.int .i64 (q' : Int))) := by
       show ∀ W, _
       intro W hW
       obtain ⟨ad', e, h⟩ := int_at (l := natsI pos) (S1.out _ hW) (k := k) (x := (q' : Int)) (by simp [natsI, hq])
       injection e with e; subst e; exact h
      have hkI : (k : Int) < (pos.length : Int) := by omega
      have Hv := Lib.hid hv
      have hpm' := Hpm.out
      clear hq hv hlt
      go_wp2_with fail
      refine region_hold S (by kernel_rfl) (by kernel_rfl) (St.drew hSr) ?_
      clear hSr
      (refine hold_load_row rfl 25 _ rfl (G) rfl 25 _ _ S0.out Tryz.underlying25 rfl (by kernel_rfl) ?_; simp only [Act.put, List.setIfInBounds_toArray, List.set_cons_zero, List.set_cons_succ])
      iterate 3 (refine hold_value rfl ?_ (fun W hW => ?_) ?_; rotate_left; (focus (go_simp; exact rfl)); simp only [Act.put, List.setIfInBounds_toArray, List.set_cons_zero, List.set_cons_succ])
      (refine hold_value rfl ?_ (fun W hW => ?_) ?_; rotate_left; (focus (have c := hcq.out W hW; go_simp; exact rfl)); simp only [Act.put, List.setIfInBounds_toArray, List.set_cons_zero, List.set_cons_succ])
      (refine hold_call_new rfl 126 _ (fun W => by (go_simp; try rfl)) _ (fun W hW => call.out W (S2.out _ hW)) ?_; simp only [Act.put, List.setIfInBounds_toArray, List.set_cons_zero, List.set_cons_succ])
      iterate 1 (refine hold_value rfl ?_ (fun W hW => ?_) ?_; rotate_left; (focus (go_simp; exact rfl)); simp only [Act.put, List.setIfInBounds_toArray, List.set_cons_zero, List.set_cons_succ])
      refine wpHold_nil fun W hW => ?_
      by_cases he : v = 2
      · have he' : (v != 2) = false := by simp [he]
        have He := Lib.hid he
        clear he
        go_wp2
        go_roundw
        case rel =>
         refine ⟨k + 1, by go_num, by omega, hW, Lib.hid ?_⟩
         rw [List.take_add_one, hall.out, Hv.out, He.out, List.replicate_succ']; rfl
        case measure => simp [intOf]; omega
      · have he' : (v != 2) = true := by simpa using he
        have Hb0 : Hid (decide (ks.map (ofT p.V) = List.replicate ks.length 2) = false) := by
         show _ = _
         refine decide_eq_false (fun e => he ?_)
         have h1 := Hv.out
         rw [e] at h1
         exact List.eq_of_mem_replicate (List.mem_of_getElem? h1)
        clear he
        go_wp2
        go_ret
        exact ⟨ret_i (by rw [Hz.out, Hb0.out]; rfl), S4.out _ hW⟩
    · have hge : (pos.length : Int) ≤ (k : Int) := by omega
      obtain rfl : k = pos.length := by omega
      have Hb0 : Hid (decide (ks.map (ofT p.V) = List.replicate ks.length 2) = true) := by
       show _ = _
       have := hall.out
       rw [Hpl.out, List.take_of_length_le (by simp)] at this
       exact decide_eq_true this
      clear hlt
      go_wp2
      go_ret
      exact ⟨ret_i (by rw [Hz.out, Hb0.out]; rfl), S4.out _ hSr⟩
 · have hz := of21 (V := p.V) (ks := ks) (Hn0.out (by omega))
   rw [← Hvn.out] at hz
   have Hz := Lib.hid hz
   clear hz
   by_cases h0 : vn = 0
   · have e0 : (vn == 0) = true := by simpa using h0
     have Hb0 : Hid (decide (vn = 0 ∨ vn = 1) = true) := by show _ = _; rw [decide_eq_true (.inl h0)]
     clear h0
     go_wp2_with (refine wpList_load_rowG rfl 25 _ rfl G rfl 25 p.cells (0, 0) _ (S0.out _ hS) Tryz.underlying25 rfl (by kernel_rfl) ?_)
     refine (all_of p KA _ kcap _ pos (ks.map (ofT p.V)) [vn] _ (S2.out _ (St.alloc hS _)) (S3.out _ (St.alloc hS _)) (rd_new W (ints [vn]) 3) (by simp [Hpl.out]) Hpm.out Hof.out).mono ?_
     rintro e W2 ⟨rfl, b2⟩
     have hS2 := stS.go (St.alloc hS _) b2
     generalize hb : decide (ks.map (ofT p.V) = [vn]) = b
     have Hb := Lib.hid hb
     clear hb b2 hS
     go_wp2_with fail
     refine (kindB_any b 2 _).mono ?_
     rintro e W3 ⟨rfl, rfl⟩
     go_wp2
     go_ret
     exact ⟨ret_i (by rw [Hz.out, Hb0.out, Bool.true_and, Hb.out]), S4.out _ hS2⟩
   · have e0 : (vn == 0) = false := by simpa using h0
     by_cases h1 : vn = 1
     · have e1 : (vn == 1) = true := by simpa using h1
       have Hb0 : Hid (decide (vn = 0 ∨ vn = 1) = true) := by show _ = _; rw [decide_eq_true (.inr h1)]
       clear h0 h1
       go_wp2_with (refine wpList_load_rowG rfl 25 _ rfl G rfl 25 p.cells (0, 0) _ (S0.out _ hS) Tryz.underlying25 rfl (by kernel_rfl) ?_)
       refine (all_of p KA _ kcap _ pos (ks.map (ofT p.V)) [vn] _ (S2.out _ (St.alloc hS _)) (S3.out _ (St.alloc hS _)) (rd_new W (ints [vn]) 3) (by simp [Hpl.out]) Hpm.out Hof.out).mono ?_
       rintro e W2 ⟨rfl, b2⟩
       have hS2 := stS.go (St.alloc hS _) b2
       generalize hb : decide (ks.map (ofT p.V) = [vn]) = b
       have Hb := Lib.hid hb
       clear hb b2 hS
       go_wp2_with fail
       refine (kindB_any b 2 _).mono ?_
       rintro e W3 ⟨rfl, rfl⟩
       go_wp2
       go_ret
       exact ⟨ret_i (by rw [Hz.out, Hb0.out, Bool.true_and, Hb.out]), S4.out _ hS2⟩
     · have e1 : (vn == 1) = false := by simpa using h1
       have Hb0 : Hid (decide (vn = 0 ∨ vn = 1) = false) := by show _ = _; rw [decide_eq_false (by omega)]
       clear h0 h1
       go_wp2_with fail
       refine (kindB_any false 2 _).mono ?_
       rintro e W3 ⟨rfl, rfl⟩
       go_wp2
       go_ret
       exact ⟨ret_i (by rw [Hz.out, Hb0.out, Bool.false_and]), S4.out _ hS⟩
 · have hz := of22 (V := p.V) (ks := ks) (Hn0.out (by omega))
   rw [← Hvn.out] at hz
   have Hz := Lib.hid hz
   have hin := Lib.hid (InI_typed (n := nn) (S2.out _ hS).vin)
   rw [← Hvn.out] at hin
   clear hz
   by_cases h0 : 0 < sizeZ vn
   · have Hb0 : Hid (decide (0 < sizeZ vn) = true) := by show _ = _; exact decide_eq_true h0
     go_wp2_with fail
     refine (refSize_any vn _ hin.out).mono ?_
     rintro e W1 ⟨rfl, rfl⟩
     go_wp2_with (refine wpList_load_rowG rfl 25 _ rfl G rfl 25 p.cells (0, 0) _ (S0.out _ hS) Tryz.underlying25 rfl (by kernel_rfl) ?_)
     refine (all_of p KA _ kcap _ pos (ks.map (ofT p.V)) [0, 0] _ (S2.out _ (St.alloc hS _)) (S3.out _ (St.alloc hS _)) (rd_new W (ints [0, 0]) 3) (by simp [Hpl.out]) Hpm.out Hof.out).mono ?_
     rintro e W2 ⟨rfl, b2⟩
     have hS2 := stS.go (St.alloc hS _) b2
     generalize hb : decide (ks.map (ofT p.V) = [0, 0]) = b
     have Hb := Lib.hid hb
     clear hb b2 hS
     go_wp2_with fail
     refine (kindB_any b 2 _).mono ?_
     rintro e W3 ⟨rfl, rfl⟩
     go_wp2
     go_ret
     exact ⟨ret_i (by rw [Hz.out, Hb0.out, Bool.true_and, Hb.out]), S4.out _ hS2⟩
   · have Hb0 : Hid (decide (0 < sizeZ vn) = false) := by show _ = _; exact decide_eq_false h0
     have h0' : sizeZ vn ≤ 0 := by omega
     clear h0
     go_wp2_with fail
     refine (refSize_any vn _ hin.out).mono ?_
     rintro e W1 ⟨rfl, rfl⟩
     go_wp2_with fail
     refine (kindB_any false 2 _).mono ?_
     rintro e W3 ⟨rfl, rfl⟩
     go_wp2
     go_ret
     exact ⟨ret_i (by rw [Hz.out, Hb0.out, Bool.false_and]), S4.out _ hS⟩
 · have Hz : Hid (ofT p.V (.node ⟨23, nn⟩ ks) = kindZ (decide (ks.map (ofT p.V) = [1, 2, 2]) && blocksZ ks 1) 2) := by show _ = _; exact (ofT_inner rfl).trans (by rfl)
   go_wp2_with (refine wpList_load_row rfl 25 _ rfl G rfl 25 p.cells (0, 0) _ (S0.out _ hS) Tryz.underlying25 rfl (by kernel_rfl) ?_)
   refine (all_of p KA _ kcap _ pos (ks.map (ofT p.V)) [1, 2, 2] _ (S2.out _ (St.alloc hS _)) (S3.out _ (St.alloc hS _)) (rd_new W (ints [1, 2, 2]) 3) (by simp [Hpl.out]) Hpm.out Hof.out).mono ?_
   rintro e W2 ⟨rfl, b2⟩
   have hS2 := stS.go (St.alloc hS _) b2
   generalize hb : decide (ks.map (ofT p.V) = [1, 2, 2]) = b
   have Hb := Lib.hid hb
   clear hb b2 hS
   cases b with
   | true =>
    go_wp2_with (refine wpList_load_rowG rfl 25 _ rfl G rfl 25 p.cells (0, 0) _ (S0.out _ hS2) Tryz.underlying25 rfl (by kernel_rfl) ?_)
    refine (blocks_any p KA kcap pos ks W2 (S2.out _ hS2) (S3.out _ hS2) Hpl.out Hp.out Hpm.out).mono ?_
    rintro e W4 ⟨rfl, b4⟩
    have hS4 := stS.go hS2 b4
    generalize hc : blocksZ ks 1 = c
    have Hc := Lib.hid hc
    clear hc b4 hS2
    go_wp2_with fail
    refine (kindB_any c 2 _).mono ?_
    rintro e W3 ⟨rfl, rfl⟩
    go_wp2
    go_ret
    exact ⟨ret_i (by rw [Hz.out, Hb.out, Hc.out, Bool.true_and]), S4.out _ hS4⟩
   | false =>
    go_wp2_with fail
    refine (kindB_any false 2 _).mono ?_
    rintro e W3 ⟨rfl, rfl⟩
    go_wp2
    go_ret
    exact ⟨ret_i (by rw [Hz.out, Hb.out, Bool.false_and]), S4.out _ hS2⟩
 · have Hz : Hid (ofT p.V (.node ⟨24, nn⟩ ks) = kindZ (decide (ks.map (ofT p.V) = [1, 2]) && blocksZ ks 1) 2) := by show _ = _; exact (ofT_inner rfl).trans (by rfl)
   go_wp2_with (refine wpList_load_row rfl 25 _ rfl G rfl 25 p.cells (0, 0) _ (S0.out _ hS) Tryz.underlying25 rfl (by kernel_rfl) ?_)
   refine (all_of p KA _ kcap _ pos (ks.map (ofT p.V)) [1, 2] _ (S2.out _ (St.alloc hS _)) (S3.out _ (St.alloc hS _)) (rd_new W (ints [1, 2]) 3) (by simp [Hpl.out]) Hpm.out Hof.out).mono ?_
   rintro e W2 ⟨rfl, b2⟩
   have hS2 := stS.go (St.alloc hS _) b2
   generalize hb : decide (ks.map (ofT p.V) = [1, 2]) = b
   have Hb := Lib.hid hb
   clear hb b2 hS
   cases b with
   | true =>
    go_wp2_with (refine wpList_load_rowG rfl 25 _ rfl G rfl 25 p.cells (0, 0) _ (S0.out _ hS2) Tryz.underlying25 rfl (by kernel_rfl) ?_)
    refine (blocks_any p KA kcap pos ks W2 (S2.out _ hS2) (S3.out _ hS2) Hpl.out Hp.out Hpm.out).mono ?_
    rintro e W4 ⟨rfl, b4⟩
    have hS4 := stS.go hS2 b4
    generalize hc : blocksZ ks 1 = c
    have Hc := Lib.hid hc
    clear hc b4 hS2
    go_wp2_with fail
    refine (kindB_any c 2 _).mono ?_
    rintro e W3 ⟨rfl, rfl⟩
    go_wp2
    go_ret
    exact ⟨ret_i (by rw [Hz.out, Hb.out, Hc.out, Bool.true_and]), S4.out _ hS4⟩
   | false =>
    go_wp2_with fail
    refine (kindB_any false 2 _).mono ?_
    rintro e W3 ⟨rfl, rfl⟩
    go_wp2
    go_ret
    exact ⟨ret_i (by rw [Hz.out, Hb.out, Bool.false_and]), S4.out _ hS2⟩
 · have hz : ofT p.V (.node ⟨25, nn⟩ ks) = kindZ (decide (ks.map (ofT p.V) = [0])) 2 := (ofT_plain rfl).trans (by rfl)
   have Hz := Lib.hid hz
   clear hz
   go_wp2_with (refine wpList_load_row rfl 25 _ rfl G rfl 25 p.cells (0, 0) _ (S0.out _ hS) Tryz.underlying25 rfl (by kernel_rfl) ?_)
   refine (all_of p KA _ kcap _ pos (ks.map (ofT p.V)) [0] _ (S2.out _ (St.alloc hS _)) (S3.out _ (St.alloc hS _)) (rd_new W (ints [0]) 3) (by simp [Hpl.out]) Hpm.out Hof.out).mono ?_
   rintro e W2 ⟨rfl, b2⟩
   have hS2 := stS.go (St.alloc hS _) b2
   generalize hb : decide (ks.map (ofT p.V) = [0]) = b
   have Hb := Lib.hid hb
   clear hb b2 hS
   go_wp2_with fail
   refine (kindB_any b 2 _).mono ?_
   rintro e W3 ⟨rfl, rfl⟩
   go_wp2
   go_ret
   exact ⟨ret_i (by rw [Hz.out, Hb.out]), S4.out _ hS2⟩
 · obtain rfl : ks = [] := List.eq_nil_of_length_eq_zero (by have := Hal.out; have := arity_0 (x := ⟨26, nn⟩) (.inr (.inr rfl)) (by omega); omega)
   have Hz : Hid (ofT p.V (.node ⟨26, nn⟩ []) = 2) := by show _ = _; exact (ofT_plain rfl).trans (by rfl)
   go_wp2
   go_ret
   exact ⟨ret_i Hz.out, S4.out _ hS⟩
end Go.Proofs.YtcgglolckkeeiaaGreat
