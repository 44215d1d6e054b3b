/- Lemmas for CoAll. -/
import Derived.Test.YtcgglolckkeeiaaGreatZo35
import Derived.Test.YtcgglolckkeeiaaGreatZo27
import Derived.Test.YtcgglolckkeeiaaGreatZo26
set_option linter.unusedVariables false
set_option linter.unusedSimpArgs false
namespace Go.Proofs.YtcgglolckkeeiaaGreat
open Go.RowKit Go.Deep
theorem mtRdR_pl {s : List UInt8} {r : Rs} (h : r.pl ≤ s.length) : (mtRdR s r).2.pl ≤ s.length := by
 rw [mtRdR_eq]
 have h1 := rByteZ_pl (z := -1) (s := s) (rText_pl (most := 1000) h)
 split
 · exact h1
 · exact rRaw_pl (rIntZ_pl (rByteZ_pl (rCountZ_pl h1)))
theorem mtsWR_pl {c : Rs → Bool} {s : List UInt8} {r : Rs} (h : r.pl ≤ s.length) : ∀ k, (mtsW c (mtRdR s) r k).2.pl ≤ s.length
 | 0 => h
 | k + 1 => by
  rw [mtsW]
  have := mtsWR_pl (c := c) h k
  split
  · exact mtRdR_pl this
  · exact this
theorem own_lt {w : World} {base size n k : Nat} {e : TypeId} {v : Value} {xs : List Value} (h : w.ownsRow base e size v n xs) (hk : v.ownBlock = some k) : k < w.heap.size := by
 rcases h.2 with ⟨rfl, _⟩ | ⟨g, cap, cur, rfl, hB, hh, _⟩
 · simp [Value.ownBlock] at hk
 · have : g = k := by simpa [Value.ownBlock] using hk
   subst this
   exact (Array.getElem?_eq_some_iff.1 hh).1
structure MrL (s : List UInt8) (p : List Mt × Rs) (P lim : Nat) (w W : World) (v : Value) (ms : List MtV) : Prop where
 m : ms.map MtV.m = p.1
 rP : Row W P 131 (rrC s p.2)
 own : W.ownsRow lim 47 8 v ms.length (mtsC ms)
 t : ∀ x ∈ ms, MtT W x
 int : ∀ x ∈ ms, InI x.m.d.n ∧ InI x.m.value
 b : Below w.heap.size w W
 lim : lim ≤ W.heap.size
set_option maxRecDepth 100000 in
set_option maxHeartbeats 16000000 in
theorem refGetMuts_any (s : List UInt8) (w : World) (hs : s.length ≤ 1000000) :
 Calls Tryz.prog 36 #[.string ⟨s.toArray⟩] w fun e w' => ∃ A n cap l, MtsGot s w w' e A n cap l := by
 have Hs := Lib.hid hs
 obtain ⟨pd, hpd⟩ : ∃ p, p = getMts s := ⟨_, rfl⟩
 have Hpd := Lib.hid hpd
 have Hfin : Hid (∀ w' e A n cap l, (e = .returned (.tuple #[.slice A n cap, .int .i64 pd.2]) ∧ l.map MtV.m = pd.1 ∧ n = l.length ∧ n ≤ cap ∧ (A = none → l = []) ∧ Rd w' A (mtsC l) ∧ (∀ x ∈ l, MtT w' x) ∧ (∀ x ∈ l, InI x.m.d.n ∧ InI x.m.value) ∧ RowB w' 47 A ∧ Below w.heap.size w w') → ∃ A n cap l, MtsGot s w w' e A n cap l) := Lib.hid (by
  rintro w' e A n cap l ⟨h1, h2, h3, h4, h5, h6, h7, h8, h9, h10⟩
  rw [hpd] at h1 h2
  exact ⟨A, n, cap, l, h1, h2, h3, h4, h5, h6, h7, h8, h9, h10⟩)
 clear hs hpd
 go_enter Tryz.func36, Tryz.ntmps36
 have hz : (Instr.build 131 #[(0, .string ⟨s.toArray⟩)]).run Tryz.prog w = .ok (.agg #[.string ⟨s.toArray⟩, .int .i64 0, .int .i64 0]) w := by kernel_rfl
 go_wp2_with (first | fail | (refine at_alloc _ rfl ?_))
 refine Stop.to ?_
 refine wpList_alloc_gen rfl 131 rfl _ _ (zero_rr _) rfl ?_
 intro P Pw Ph Pr Pb
 go_wp2_with (refine at_store _ _ _ rfl ?_)
 refine Stop.to ?_
 refine wpList_store_gen rfl 131 _ _ rfl P (rrC s ⟨0, 0⟩) rfl rfl 131 _ Pr (by kernel_rfl) rfl (by simp [rrC, Value.oneCell']) ?_
 intro Px Ps Po
 have Pc := (Pb.mono Ph).trans (Po.below Ph)
 clear Pb Pr Po
 have rP : Row Px P 131 (rrC s ⟨0, 0⟩) := Ps
 have bb : Below w.heap.size w Px := Pc
 clear hz Ps Pc
 have hcpl := rCountZ_pl (z := -1) (s := s) (r := ⟨0, 0⟩) (most := 1000000) (Nat.zero_le _)
 have Hrd0 : Hid (mtsRdR s = (mtsW (fun r => decide (r.er = 0)) (mtRdR s) (rCountZ (-1) s ⟨0, 0⟩ 1000000).2 (min (rCountZ (-1) s ⟨0, 0⟩ 1000000).1.toNat 2001)).1) := Lib.hid rfl
 go_wp2_with (refine wpList_load_row rfl 131 _ rfl P rfl 131 (rrC s ⟨0, 0⟩) (0, 0) _ rP Tryz.underlying131 rfl (by kernel_rfl) ?_)
 refine (ask2_any s ⟨0, 0⟩ (Nat.zero_le _) Hs.out Px).mono ?_
 rintro e w3 ⟨rfl, b3⟩
 obtain ⟨⟨c, r1⟩, hc⟩ : ∃ p, p = rCountZ (-1) s ⟨0, 0⟩ 1000000 := ⟨_, rfl⟩
 rw [← hc] at hcpl Hrd0 ⊢
 clear hc
 dsimp only at hcpl Hrd0 ⊢
 replace rP := rP.below b3 rP.lt
 replace bb := bb.trans (b3.mono bb.size)
 clear b3
 go_wp2_with (refine at_store 131 _ _ rfl ?_)
 refine Stop.to ?_
 refine wpList_store_gen rfl 131 _ _ rfl P (rrC s r1) rfl rfl 131 _ rP (by kernel_rfl) rfl (by simp [rrC, Value.oneCell']) ?_
 intro w4 rP4 o4
 replace bb := below_only bb o4 Ph
 clear rP o4
 obtain ⟨m, hm⟩ : ∃ m : Nat, m = min c.toNat 2001 := ⟨_, rfl⟩
 rw [← hm] at Hrd0
 have Hmc : Hid (∀ k : Nat, ((k : Int) < c ∧ (k : Int) ≤ 2000) ↔ k < m) := Lib.hid (fun k => by omega)
 have hm2 : (m : Int) ≤ 2001 := by omega
 clear hm
 obtain ⟨F, hF⟩ : ∃ F, F = mtsW (fun r => decide (r.er = 0)) (mtRdR s) r1 := ⟨_, rfl⟩
 have Hpl : Hid (∀ k, (F k).2.pl ≤ s.length) := Lib.hid (fun k => by rw [hF]; exact mtsWR_pl hcpl k)
 have Hle : Hid (∀ k, (F k).1.length ≤ k) := Lib.hid (fun k => by rw [hF]; exact mtsW_le k)
 have Hyes : Hid (∀ k, (F k).2.er = 0 → F (k + 1) = ((F k).1 ++ [(mtRdR s (F k).2).1], (mtRdR s (F k).2).2)) := Lib.hid (fun k h => by rw [hF] at h ⊢; rw [mtsW, if_pos (by simpa using h)])
 have Hno : Hid (∀ k j, ¬ (F k).2.er = 0 → F (k + j) = F k) := Lib.hid (fun k j h => by rw [hF] at h ⊢; exact mtsW_stop (by simpa using h) j)
 rw [← hF] at Hrd0
 obtain ⟨lim, hlim⟩ : ∃ lim, lim = w4.heap.size := ⟨_, rfl⟩
 have lP : P < lim := by rw [hlim]; exact rP4.lt
 have HL : Hid (MrL s (F 0) P lim w w4 (.slice none 0 0) []) := Lib.hid ⟨by rw [hF]; rfl, by rw [hF]; exact rP4, World.ownsRow_nil _ _ _ _, fun x hx => (by cases hx), fun x hx => (by cases hx), bb, Nat.le_of_eq hlim⟩
 clear rP4 bb hcpl hlim hF
 go_wp2_with fail
 go_loopw [6, 7] (fun v i wr => ∃ (k : Nat) (ms : List MtV), i = .int .i64 (k : Int) ∧ k ≤ m ∧ Hid (MrL s (F k) P lim w wr v ms)) (fun _ i _ => m - (intOf i).toNat)
 case atStart => exact ⟨0, [], rfl, Nat.zero_le _, HL⟩
 case round =>
  clear HL
  obtain ⟨k, ms, rfl, hk, HL⟩ := hrel
  by_cases hlt : k < m
  rotate_left
  · obtain rfl : k = m := by omega
    have hno := mt (Hmc.out k).1 hlt
    clear hlt hk
    by_cases h1 : (k : Int) < c
    · have h2 : ¬ (k : Int) ≤ 2000 := fun h => hno ⟨h1, h⟩
      obtain ⟨h1, h2, h3, h4, h5, h6, h7⟩ := HL.out
      obtain ⟨A, cap, rfl, hA1, hcap, hmax, hA3, hA4⟩ := own_rdN h3
      have hlen : ms.length ≤ 2001 := by
       have h8 := congrArg List.length h1
       rw [List.length_map] at h8
       have := Hle.out k
       omega
      have hnil : A = none → ms = [] := fun e => List.eq_nil_of_length_eq_zero (by have := hA3 e; omega)
      have hmsd : ms.map MtV.m = mtsRdR s := h1.trans Hrd0.out.symm
      have HP := Lib.hid (refPutMuts_any A cap ms.length ms wr rfl hA1 (fun x hx => (h4 x hx).1) h5 (by omega))
      have hok : OkMs (mtsRdR s) ↔ ((mtsRdR s).length ≤ 2000 ∧ (mtsRdR s).all fineM = true) := by
       rw [← hmsd]
       constructor
       · exact fun h => ⟨h.1, List.all_eq_true.2 fun x hx => (h.2 x hx).1⟩
       · refine fun h => ⟨h.1, fun x hx => ⟨List.all_eq_true.1 h.2 x hx, ?_⟩⟩
         obtain ⟨y, hy, rfl⟩ := List.mem_map.1 hx
         exact h5 y hy
      rw [hmsd] at HP
      have Hst : Hid (∀ W, Below wr.heap.size wr W → Rd W A (mtsC ms) ∧ (∀ x ∈ ms, MtT W x) ∧ RowB W 47 A ∧ Below w.heap.size w W) := Lib.hid (fun W b => ⟨hA1.go b, fun x hx => (h4 x hx).go b, (own_rowB h3).go b, h6.trans (b.mono h6.size)⟩)
      have Hpl2 : Hid (ms.length ≤ cap ∧ (A = none → ms = []) ∧ ∀ x ∈ ms, InI x.m.d.n ∧ InI x.m.value) := Lib.hid ⟨hcap, hnil, h5⟩
      have cP := h2.cellv (i := 2) (v := .int .i64 (F k).2.er) rfl
      clear h1 h2 h3 h4 h5 h6 h7 hA1 hA3 hA4 hcap hmax hlen hnil HL
      go_wp2_with fail
      clear cP
      by_cases hr : OkMs (mtsRdR s) ∧ encMts (mtsRdR s) = s
      · have hp : putMts (mtsRdR s) = (s, 0) := by rw [putMts, if_pos (hok.1 hr.1), hr.2]
        rw [hp] at HP
        obtain rfl : pd = (mtsRdR s, 0) := Hpd.out.trans (gotBy_yes (rd := mtsRdR) (fun x h => mtsRdR_put h) hr.1 hr.2)
        have Hmsd := Lib.hid hmsd
        clear hr hp hok hmsd
        refine HP.out.mono ?_
        rintro e w8 ⟨rfl, b8⟩
        have HE := Lib.hid (Hst.out _ b8)
        clear HP Hst b8
        go_wp2_with fail
        try rw [Exit.noGoto_ret]
        go_ret2
        obtain ⟨g1, g2, g3, g4⟩ := HE.out
        obtain ⟨g5, g6, g7⟩ := Hpl2.out
        exact Hfin.out _ _ A ms.length cap ms ⟨rfl, Hmsd.out, rfl, g5, g6, g1, g2, g7, g3, g4⟩
      · obtain rfl : pd = ([], 12) := Hpd.out.trans (gotBy_no (rd := mtsRdR) (fun x h => mtsRdR_put h) hr)
        obtain ⟨⟨t, e0⟩, hp⟩ : ∃ p, p = putMts (mtsRdR s) := ⟨_, rfl⟩
        rw [← hp] at HP
        have hne : ¬ (e0 = 0 ∧ t = s) := fun h => hr (by
         unfold putMts at hp
         by_cases h1 : (mtsRdR s).length ≤ 2000 ∧ (mtsRdR s).all fineM = true
         · rw [if_pos h1] at hp; injection hp with hp1 _; exact ⟨hok.2 h1, by rw [← hp1, h.2]⟩
         · rw [if_neg h1] at hp; injection hp with _ hp2; rw [h.1] at hp2; exact absurd hp2 (by decide))
        have hts : e0 = 0 → (t == s) = false := fun h0 => by simpa using fun e => hne ⟨h0, e⟩
        have Hts := Lib.hid hts
        clear hr hp hne hts hok hmsd
        refine HP.out.mono ?_
        rintro e w8 ⟨rfl, b8⟩
        have HE := Lib.hid (Hst.out _ b8).2.2.2
        clear HP Hst b8
        by_cases he : e0 = 0
        · have htb := Hts.out he
          subst he
          clear Hts
          go_wp2_with fail
          try rw [Exit.noGoto_ret]
          go_ret2
          exact Hfin.out _ _ none 0 0 [] ⟨rfl, rfl, rfl, Nat.le_refl _, fun _ => rfl, Rd.nil _ _, fun x hx => (by cases hx), fun x hx => (by cases hx), fun ad h => (by cases h), HE.out⟩
        · clear Hts
          go_wp2_with fail
          try rw [Exit.noGoto_ret]
          go_ret2
          exact Hfin.out _ _ none 0 0 [] ⟨rfl, rfl, rfl, Nat.le_refl _, fun _ => rfl, Rd.nil _ _, fun x hx => (by cases hx), fun x hx => (by cases hx), fun ad h => (by cases h), HE.out⟩
    · obtain ⟨h1, h2, h3, h4, h5, h6, h7⟩ := HL.out
      obtain ⟨A, cap, rfl, hA1, hcap, hmax, hA3, hA4⟩ := own_rdN h3
      have hlen : ms.length ≤ 2001 := by
       have h8 := congrArg List.length h1
       rw [List.length_map] at h8
       have := Hle.out k
       omega
      have hnil : A = none → ms = [] := fun e => List.eq_nil_of_length_eq_zero (by have := hA3 e; omega)
      have hmsd : ms.map MtV.m = mtsRdR s := h1.trans Hrd0.out.symm
      have HP := Lib.hid (refPutMuts_any A cap ms.length ms wr rfl hA1 (fun x hx => (h4 x hx).1) h5 (by omega))
      have hok : OkMs (mtsRdR s) ↔ ((mtsRdR s).length ≤ 2000 ∧ (mtsRdR s).all fineM = true) := by
       rw [← hmsd]
       constructor
       · exact fun h => ⟨h.1, List.all_eq_true.2 fun x hx => (h.2 x hx).1⟩
       · refine fun h => ⟨h.1, fun x hx => ⟨List.all_eq_true.1 h.2 x hx, ?_⟩⟩
         obtain ⟨y, hy, rfl⟩ := List.mem_map.1 hx
         exact h5 y hy
      rw [hmsd] at HP
      have Hst : Hid (∀ W, Below wr.heap.size wr W → Rd W A (mtsC ms) ∧ (∀ x ∈ ms, MtT W x) ∧ RowB W 47 A ∧ Below w.heap.size w W) := Lib.hid (fun W b => ⟨hA1.go b, fun x hx => (h4 x hx).go b, (own_rowB h3).go b, h6.trans (b.mono h6.size)⟩)
      have Hpl2 : Hid (ms.length ≤ cap ∧ (A = none → ms = []) ∧ ∀ x ∈ ms, InI x.m.d.n ∧ InI x.m.value) := Lib.hid ⟨hcap, hnil, h5⟩
      have cP := h2.cellv (i := 2) (v := .int .i64 (F k).2.er) rfl
      clear h1 h2 h3 h4 h5 h6 h7 hA1 hA3 hA4 hcap hmax hlen hnil HL
      go_wp2_with fail
      clear cP
      by_cases hr : OkMs (mtsRdR s) ∧ encMts (mtsRdR s) = s
      · have hp : putMts (mtsRdR s) = (s, 0) := by rw [putMts, if_pos (hok.1 hr.1), hr.2]
        rw [hp] at HP
        obtain rfl : pd = (mtsRdR s, 0) := Hpd.out.trans (gotBy_yes (rd := mtsRdR) (fun x h => mtsRdR_put h) hr.1 hr.2)
        have Hmsd := Lib.hid hmsd
        clear hr hp hok hmsd
        refine HP.out.mono ?_
        rintro e w8 ⟨rfl, b8⟩
        have HE := Lib.hid (Hst.out _ b8)
        clear HP Hst b8
        go_wp2_with fail
        try rw [Exit.noGoto_ret]
        go_ret2
        obtain ⟨g1, g2, g3, g4⟩ := HE.out
        obtain ⟨g5, g6, g7⟩ := Hpl2.out
        exact Hfin.out _ _ A ms.length cap ms ⟨rfl, Hmsd.out, rfl, g5, g6, g1, g2, g7, g3, g4⟩
      · obtain rfl : pd = ([], 12) := Hpd.out.trans (gotBy_no (rd := mtsRdR) (fun x h => mtsRdR_put h) hr)
        obtain ⟨⟨t, e0⟩, hp⟩ : ∃ p, p = putMts (mtsRdR s) := ⟨_, rfl⟩
        rw [← hp] at HP
        have hne : ¬ (e0 = 0 ∧ t = s) := fun h => hr (by
         unfold putMts at hp
         by_cases h1 : (mtsRdR s).length ≤ 2000 ∧ (mtsRdR s).all fineM = true
         · rw [if_pos h1] at hp; injection hp with hp1 _; exact ⟨hok.2 h1, by rw [← hp1, h.2]⟩
         · rw [if_neg h1] at hp; injection hp with _ hp2; rw [h.1] at hp2; exact absurd hp2 (by decide))
        have hts : e0 = 0 → (t == s) = false := fun h0 => by simpa using fun e => hne ⟨h0, e⟩
        have Hts := Lib.hid hts
        clear hr hp hne hts hok hmsd
        refine HP.out.mono ?_
        rintro e w8 ⟨rfl, b8⟩
        have HE := Lib.hid (Hst.out _ b8).2.2.2
        clear HP Hst b8
        by_cases he : e0 = 0
        · have htb := Hts.out he
          subst he
          clear Hts
          go_wp2_with fail
          try rw [Exit.noGoto_ret]
          go_ret2
          exact Hfin.out _ _ none 0 0 [] ⟨rfl, rfl, rfl, Nat.le_refl _, fun _ => rfl, Rd.nil _ _, fun x hx => (by cases hx), fun x hx => (by cases hx), fun ad h => (by cases h), HE.out⟩
        · clear Hts
          go_wp2_with fail
          try rw [Exit.noGoto_ret]
          go_ret2
          exact Hfin.out _ _ none 0 0 [] ⟨rfl, rfl, rfl, Nat.le_refl _, fun _ => rfl, Rd.nil _ _, fun x hx => (by cases hx), fun x hx => (by cases hx), fun ad h => (by cases h), HE.out⟩
  obtain ⟨hk1, hk2⟩ := (Hmc.out k).2 hlt
  by_cases he0 : (F k).2.er = 0
  rotate_left
  · have hF : F m = F k := by
     have := Hno.out k (m - k) he0
     rwa [show k + (m - k) = m by omega] at this
    rw [← hF] at HL he0
    clear hF
    have he1 : ((F m).2.er == 0) = false := by simpa using he0
    obtain ⟨h1, h2, h3, h4, h5, h6, h7⟩ := HL.out
    obtain ⟨A, cap, rfl, hA1, hcap, hmax, hA3, hA4⟩ := own_rdN h3
    have hlen : ms.length ≤ 2001 := by
     have h8 := congrArg List.length h1
     rw [List.length_map] at h8
     have := Hle.out m
     omega
    have hnil : A = none → ms = [] := fun e => List.eq_nil_of_length_eq_zero (by have := hA3 e; omega)
    have hmsd : ms.map MtV.m = mtsRdR s := h1.trans Hrd0.out.symm
    have HP := Lib.hid (refPutMuts_any A cap ms.length ms wr rfl hA1 (fun x hx => (h4 x hx).1) h5 (by omega))
    have hok : OkMs (mtsRdR s) ↔ ((mtsRdR s).length ≤ 2000 ∧ (mtsRdR s).all fineM = true) := by
     rw [← hmsd]
     constructor
     · exact fun h => ⟨h.1, List.all_eq_true.2 fun x hx => (h.2 x hx).1⟩
     · refine fun h => ⟨h.1, fun x hx => ⟨List.all_eq_true.1 h.2 x hx, ?_⟩⟩
       obtain ⟨y, hy, rfl⟩ := List.mem_map.1 hx
       exact h5 y hy
    rw [hmsd] at HP
    have Hst : Hid (∀ W, Below wr.heap.size wr W → Rd W A (mtsC ms) ∧ (∀ x ∈ ms, MtT W x) ∧ RowB W 47 A ∧ Below w.heap.size w W) := Lib.hid (fun W b => ⟨hA1.go b, fun x hx => (h4 x hx).go b, (own_rowB h3).go b, h6.trans (b.mono h6.size)⟩)
    have Hpl2 : Hid (ms.length ≤ cap ∧ (A = none → ms = []) ∧ ∀ x ∈ ms, InI x.m.d.n ∧ InI x.m.value) := Lib.hid ⟨hcap, hnil, h5⟩
    have cP := h2.cellv (i := 2) (v := .int .i64 (F m).2.er) rfl
    clear h1 h2 h3 h4 h5 h6 h7 hA1 hA3 hA4 hcap hmax hlen hnil HL
    go_wp2_with fail
    clear cP
    by_cases hr : OkMs (mtsRdR s) ∧ encMts (mtsRdR s) = s
    · have hp : putMts (mtsRdR s) = (s, 0) := by rw [putMts, if_pos (hok.1 hr.1), hr.2]
      rw [hp] at HP
      obtain rfl : pd = (mtsRdR s, 0) := Hpd.out.trans (gotBy_yes (rd := mtsRdR) (fun x h => mtsRdR_put h) hr.1 hr.2)
      have Hmsd := Lib.hid hmsd
      clear hr hp hok hmsd
      refine HP.out.mono ?_
      rintro e w8 ⟨rfl, b8⟩
      have HE := Lib.hid (Hst.out _ b8)
      clear HP Hst b8
      go_wp2_with fail
      try rw [Exit.noGoto_ret]
      go_ret2
      obtain ⟨g1, g2, g3, g4⟩ := HE.out
      obtain ⟨g5, g6, g7⟩ := Hpl2.out
      exact Hfin.out _ _ A ms.length cap ms ⟨rfl, Hmsd.out, rfl, g5, g6, g1, g2, g7, g3, g4⟩
    · obtain rfl : pd = ([], 12) := Hpd.out.trans (gotBy_no (rd := mtsRdR) (fun x h => mtsRdR_put h) hr)
      obtain ⟨⟨t, e0⟩, hp⟩ : ∃ p, p = putMts (mtsRdR s) := ⟨_, rfl⟩
      rw [← hp] at HP
      have hne : ¬ (e0 = 0 ∧ t = s) := fun h => hr (by
       unfold putMts at hp
       by_cases h1 : (mtsRdR s).length ≤ 2000 ∧ (mtsRdR s).all fineM = true
       · rw [if_pos h1] at hp; injection hp with hp1 _; exact ⟨hok.2 h1, by rw [← hp1, h.2]⟩
       · rw [if_neg h1] at hp; injection hp with _ hp2; rw [h.1] at hp2; exact absurd hp2 (by decide))
      have hts : e0 = 0 → (t == s) = false := fun h0 => by simpa using fun e => hne ⟨h0, e⟩
      have Hts := Lib.hid hts
      clear hr hp hne hts hok hmsd
      refine HP.out.mono ?_
      rintro e w8 ⟨rfl, b8⟩
      have HE := Lib.hid (Hst.out _ b8).2.2.2
      clear HP Hst b8
      by_cases he : e0 = 0
      · have htb := Hts.out he
        subst he
        clear Hts
        go_wp2_with fail
        try rw [Exit.noGoto_ret]
        go_ret2
        exact Hfin.out _ _ none 0 0 [] ⟨rfl, rfl, rfl, Nat.le_refl _, fun _ => rfl, Rd.nil _ _, fun x hx => (by cases hx), fun x hx => (by cases hx), fun ad h => (by cases h), HE.out⟩
      · clear Hts
        go_wp2_with fail
        try rw [Exit.noGoto_ret]
        go_ret2
        exact Hfin.out _ _ none 0 0 [] ⟨rfl, rfl, rfl, Nat.le_refl _, fun _ => rfl, Rd.nil _ _, fun x hx => (by cases hx), fun x hx => (by cases hx), fun ad h => (by cases h), HE.out⟩
  have HF1 := Lib.hid (Hyes.out k he0)
  have hlen : ms.length ≤ k := by
   have h8 := congrArg List.length HL.out.m
   rw [List.length_map] at h8
   have := Hle.out k
   omega
  obtain ⟨hm0, rP, own, ht, hi, bb, hl⟩ := HL.out
  have Hm := Lib.hid hm0
  have Hint := Lib.hid hi
  have cP : wr.cell? ⟨P, 2, none⟩ = some (.int .i64 0) := by
   have := rP.cellv (i := 2) (v := .int .i64 (F k).2.er) rfl
   rwa [he0] at this
  clear hm0 hi HL he0
  go_wp2_with (refine wpList_load_row rfl 131 _ rfl P rfl 131 (rrC s (F k).2) (0, 0) _ rP Tryz.underlying131 rfl (by kernel_rfl) ?_)
  refine (rone_any s (F k).2 wr (Hpl.out k) Hs.out).mono ?_
  rintro e w5 ⟨y, gm, rfl, gt, gb, gn, gv⟩
  replace rP := rP.below gb rP.lt
  replace own := own_below own gb
  replace ht : ∀ x ∈ ms, MtT w5 x := fun x hx => (ht x hx).go gb
  replace bb := bb.trans (gb.mono bb.size)
  replace hl := Nat.le_trans hl gb.size
  obtain ⟨r2, hr2⟩ : ∃ r2, r2 = (mtRdR s (F k).2).2 := ⟨_, rfl⟩
  have HF2 : Hid (F (k + 1) = ((F k).1 ++ [y.m], r2)) := Lib.hid (by rw [HF1.out, gm, hr2])
  rw [← hr2]
  clear gb cP gm hr2 HF1
  have Hlt : Hid (∀ g, u6.ownBlock = some g → g < w5.heap.size) := Lib.hid (fun g e => own_lt own e)
  go_wp2_with (first | fail | (refine at_alloc _ rfl ?_))
  refine Stop.to ?_
  refine wpList_alloc_gen rfl 131 rfl _ _ (zero_rr _) rfl ?_
  intro X Xw Xh Xr Xb
  go_wp2_with (first | fail | (refine at_alloc _ rfl ?_))
  refine Stop.to ?_
  refine wpList_alloc_gen rfl 47 rfl _ _ (zero_mut _) rfl ?_
  intro Y Yw Yh Yr Yb
  have Xr' : Row Xw X 131 #[.string ⟨#[]⟩, .int .i64 0, .int .i64 0] := Xr
  have lPX : P < X := Nat.lt_of_lt_of_le rP.lt Xh
  have lXY : X < Y := Nat.lt_of_lt_of_le Xr'.lt Yh
  have lwX : w5.heap.size ≤ X := Xh
  have bX := (Xb.mono Xh).trans (Yb.mono (by have := (Xb.mono Xh).size; omega))
  replace rP := rP.below bX rP.lt
  replace own := own_below own bX
  replace ht : ∀ x ∈ ms, MtT Yw x := fun x hx => (ht x hx).go bX
  replace gt := gt.go bX
  replace bb := bb.trans (bX.mono bb.size)
  replace hl := Nat.le_trans hl bX.size
  have rX := Xr'.below Yb lXY
  clear Xr Xb Yb bX Xr'
  go_wp2_with (refine at_store 131 _ _ rfl ?_)
  refine Stop.to ?_
  refine wpList_store_gen rfl 131 _ _ rfl X (rrC s r2) rfl rfl 131 _ rX (by kernel_rfl) rfl (by simp [rrC, Value.oneCell']) ?_
  intro w6 rX6 o6
  replace rP := rP.only o6 (by omega)
  replace own := own_only own o6 (own_ne own rX (by decide))
  replace ht : ∀ x ∈ ms, MtT w6 x := fun x hx => (ht x hx).only rX (by decide) o6
  replace gt := gt.only rX (by decide) o6
  replace bb := below_only bb o6 (by have := bb.size; omega)
  replace hl : lim ≤ w6.heap.size := by rw [o6.size]; exact hl
  have rY := Yr.only o6 (by omega)
  clear rX o6 Yr
  go_wp2_with (refine at_store 47 _ _ rfl ?_)
  refine Stop.to ?_
  refine wpList_store_gen rfl 47 _ _ rfl Y y.cells.toArray rfl rfl 47 _ rY (by kernel_rfl) rfl (by simp [MtV.cells, Value.oneCell']) ?_
  intro w7 rY7 o7
  have nY : u6.ownBlock ≠ some Y := fun e => by have := Hlt.out Y e; omega
  replace rP := rP.only o7 (by omega)
  replace own := own_only own o7 nY
  replace ht : ∀ x ∈ ms, MtT w7 x := fun x hx => (ht x hx).only rY (by decide) o7
  replace gt := gt.only rY (by decide) o7
  replace bb := below_only bb o7 (by have := bb.size; omega)
  replace hl : lim ≤ w7.heap.size := by rw [o7.size]; exact hl
  have rX7 := rX6.only o7 (by omega)
  clear rY o7 rX6 nY Hlt
  go_wp2_with (first | (refine wpList_load_row rfl 47 _ rfl Y rfl 47 y.cells.toArray (0, 0) _ rY7 Tryz.underlying47 rfl (by kernel_rfl) ?_) | (refine at_slice _ _ _ rfl ?_))
  refine Stop.to ?_
  refine wpList_slice_gen rfl 27 1 _ rfl 47 y.cells.toArray (fun W => by kernel_rfl) ?_
  intro M Mw Mh Mr Mb
  have bM := Mb.mono Mh
  replace rP := rP.below bM rP.lt
  replace own := own_below own bM
  replace ht : ∀ x ∈ ms, MtT Mw x := fun x hx => (ht x hx).go bM
  replace gt := gt.go bM
  replace bb := bb.trans (bM.mono bb.size)
  replace hl := Nat.le_trans hl bM.size
  have rX8 := rX7.below bM rX7.lt
  clear rY7 rX7
  obtain ⟨v8, w8, hrun8, hown8, hgr8, -⟩ := append_mt (m := 1) (cap := 1) own hl [y] (rd_rowP (cs := mtsC [y]) (by simpa [mtsC] using Mr)) rfl (by simp) (by omega)
  have Hrun8 := Lib.hid hrun8
  have rP8 := rP.grown hgr8 (own_ne own rP (by decide))
  have rX9 := rX8.grown hgr8 (own_ne own rX8 (by decide))
  have ht8 : ∀ x ∈ ms ++ [y], MtT w8 x := fun x hx => by
   rcases List.mem_append.1 hx with h | h
   · exact (ht x h).own own hgr8
   · rw [List.mem_singleton.1 h]; exact gt.own own hgr8
  have hi8 : ∀ x ∈ ms ++ [y], InI x.m.d.n ∧ InI x.m.value := fun x hx => by
   rcases List.mem_append.1 hx with h | h
   · exact Hint.out x h
   · rw [List.mem_singleton.1 h]; exact ⟨gn, gv⟩
  have bb8 := below_grown_own bb own hgr8 bb.size (by have := bb.size; omega)
  have hl8 : lim ≤ w8.heap.size := Nat.le_trans hl hgr8.size
  have own8 : w8.ownsRow lim 47 8 v8 (ms ++ [y]).length (mtsC (ms ++ [y])) := by rw [mtsC_append, List.length_append]; exact hown8
  clear Mh Mr Mb bM own ht gt rP bb hl hrun8 hown8 hgr8 gn gv rX8
  refine wpList_res rfl _ (run_exec_append rfl Hrun8.out) ?_
  go_wp2_with (first | (refine wpList_load_row rfl 131 _ rfl X rfl 131 (rrC s r2) (0, 0) _ rX9 Tryz.underlying131 rfl (by kernel_rfl) ?_) | (refine at_store 131 _ _ rfl ?_))
  refine Stop.to ?_
  refine wpList_store_gen rfl 131 _ _ rfl P (rrC s r2) rfl rfl 131 _ rP8 (by kernel_rfl) rfl (by simp [rrC, Value.oneCell']) ?_
  intro w9 rP9 o9
  have HN : Hid (MrL s (F (k + 1)) P lim w w9 v8 (ms ++ [y])) := Lib.hid ⟨by rw [HF2.out, List.map_append, Hm.out]; rfl, by rw [HF2.out]; exact rP9, own_only own8 o9 (own_ne own8 rP8 (by decide)), fun x hx => (ht8 x hx).only rP8 (by decide) o9, hi8, below_only bb8 o9 Ph, by rw [o9.size]; exact hl8⟩
  clear rP9 rP8 o9 own8 ht8 hi8 bb8 hl8 rX9 Hrun8 Hm Hint HF2
  go_wp2_with fail
  go_roundw
  case rel => exact ⟨k + 1, ms ++ [y], by go_num, by omega, HN⟩
  case measure => simp [intOf]; omega
end Go.Proofs.YtcgglolckkeeiaaGreat
namespace Go.Proofs.YtcgglolckkeeiaaGreat
open Go.RowKit Go.Deep
set_option maxRecDepth 100000 in
set_option maxHeartbeats 8000000 in
theorem refPutScore_any (x : Sc) (w : World) :
 Calls Tryz.prog 38 #[.agg x.cells] w fun e w' => e = .returned (.tuple #[.string ⟨(putSc x).1.toArray⟩, .int .i64 (putSc x).2]) ∧ Below w.heap.size w w' := by
 obtain ⟨pd, hpd⟩ : ∃ p, p = putSc x := ⟨_, rfl⟩
 have Hpd := Lib.hid hpd
 rw [← hpd]
 clear hpd
 obtain ⟨a, b, c⟩ := x
 show Calls _ _ #[.agg #[.int .i64 a, .int .i64 b, .int .i64 c]] _ _
 go_enter Tryz.func38, Tryz.ntmps38
 go_wp2_with (refine at_box _ _ rfl ?_)
 refine Stop.to ?_
 refine wpList_box_gen rfl 29 _ rfl #[.int .i64 a, .int .i64 b, .int .i64 c] rfl ?_
 intro G Gw Gh Gr Gb
 have bb := (Below.refl w.heap.size w).trans (Gb.mono Gh)
 have c0 := Gr.cellv (i := 0) (v := .int .i64 a) rfl
 have c1 := Gr.cellv (i := 1) (v := .int .i64 b) rfl
 have c2 := Gr.cellv (i := 2) (v := .int .i64 c) rfl
 clear Gb
 by_cases a0 : a < 0
 · obtain rfl : pd = ([], 22) := Hpd.out.trans (if_neg (fun h => by obtain ⟨⟨h1, h2⟩, ⟨h3, h4⟩, h5, h6⟩ := h; simp only at h1 h2 h3 h4 h5 h6; omega))
   go_wp2_with fail
   go_ret2
   exact ⟨rfl, bb⟩
 by_cases a1 : 2000 < a
 · obtain rfl : pd = ([], 22) := Hpd.out.trans (if_neg (fun h => by obtain ⟨⟨h1, h2⟩, ⟨h3, h4⟩, h5, h6⟩ := h; simp only at h1 h2 h3 h4 h5 h6; omega))
   go_wp2_with fail
   go_ret2
   exact ⟨rfl, bb⟩
 by_cases b0 : b < 0
 · obtain rfl : pd = ([], 22) := Hpd.out.trans (if_neg (fun h => by obtain ⟨⟨h1, h2⟩, ⟨h3, h4⟩, h5, h6⟩ := h; simp only at h1 h2 h3 h4 h5 h6; omega))
   go_wp2_with fail
   go_ret2
   exact ⟨rfl, bb⟩
 by_cases b1 : 2000 < b
 · obtain rfl : pd = ([], 22) := Hpd.out.trans (if_neg (fun h => by obtain ⟨⟨h1, h2⟩, ⟨h3, h4⟩, h5, h6⟩ := h; simp only at h1 h2 h3 h4 h5 h6; omega))
   go_wp2_with fail
   go_ret2
   exact ⟨rfl, bb⟩
 by_cases d0 : c < 0
 · obtain rfl : pd = ([], 22) := Hpd.out.trans (if_neg (fun h => by obtain ⟨⟨h1, h2⟩, ⟨h3, h4⟩, h5, h6⟩ := h; simp only at h1 h2 h3 h4 h5 h6; omega))
   go_wp2_with fail
   go_ret2
   exact ⟨rfl, bb⟩
 by_cases d1 : 2000 < c
 · obtain rfl : pd = ([], 22) := Hpd.out.trans (if_neg (fun h => by obtain ⟨⟨h1, h2⟩, ⟨h3, h4⟩, h5, h6⟩ := h; simp only at h1 h2 h3 h4 h5 h6; omega))
   go_wp2_with fail
   go_ret2
   exact ⟨rfl, bb⟩
 obtain ⟨a, rfl⟩ := Int.eq_ofNat_of_zero_le (Int.not_lt.1 a0)
 obtain ⟨b, rfl⟩ := Int.eq_ofNat_of_zero_le (Int.not_lt.1 b0)
 obtain ⟨c, rfl⟩ := Int.eq_ofNat_of_zero_le (Int.not_lt.1 d0)
 obtain rfl : pd = (encSc ⟨(a : Int), (b : Int), (c : Int)⟩, 0) := Hpd.out.trans (if_pos ⟨⟨by simp only; omega, by simp only; omega⟩, ⟨by simp only; omega, by simp only; omega⟩, by simp only; omega, by simp only; omega⟩)
 have hwa : IntKind.u64.wrap (a : Int) = (a : Int) := by rw [IntKind.wrap_u64]; omega
 have hwb : IntKind.u64.wrap (b : Int) = (b : Int) := by rw [IntKind.wrap_u64]; omega
 have hwc : IntKind.u64.wrap (c : Int) = (c : Int) := by rw [IntKind.wrap_u64]; omega
 go_wp2_with fail
 clear c0 c1 c2
 obtain ⟨S, hSd⟩ : ∃ S, S = (fun W => Row W G 29 #[.int .i64 (a : Int), .int .i64 (b : Int), .int .i64 (c : Int)] ∧ Below w.heap.size w W) := ⟨_, rfl⟩
 have stS : St S := by rw [hSd]; infer_instance
 have T0 : Hid (∀ W, S W → Row W G 29 #[.int .i64 (a : Int), .int .i64 (b : Int), .int .i64 (c : Int)]) := by show ∀ W, _; rw [hSd]; exact fun W h => h.1
 have T4 : Hid (∀ W, S W → Below w.heap.size w W) := by show ∀ W, _; rw [hSd]; exact fun W h => h.2
 have hS5 : S Gw := by rw [hSd]; exact ⟨Gr, bb⟩
 clear hSd Gr bb
 have la := lebL_len a
 have lb := lebL_len b
 have lc := lebL_len c
 obtain ⟨L1, hL1⟩ : ∃ L1, L1 = lebL a ++ lebL b := ⟨_, rfl⟩
 obtain ⟨L2, hL2⟩ : ∃ L2, L2 = L1 ++ lebL c := ⟨_, rfl⟩
 have l1 : L1.length ≤ 20 := by rw [hL1, List.length_append]; omega
 have hc1 := str_cat2 (lebL a) (lebL b)
 rw [← hL1] at hc1
 have hs1 : ¬ (9223372036854775807 < ((lebL a).length : Int) + ((lebL b).length : Int)) := by omega
 have ht1 : ¬ (9223372036854775807 < (lebL a).length + (lebL b).length) := by omega
 have hc2 := str_cat2 L1 (lebL c)
 rw [← hL2] at hc2
 have hs2 : ¬ (9223372036854775807 < (L1.length : Int) + ((lebL c).length : Int)) := by omega
 have ht2 : ¬ (9223372036854775807 < L1.length + (lebL c).length) := by omega
 have HE : Hid (L2 = encSc ⟨(a : Int), (b : Int), (c : Int)⟩) := Lib.hid (by rw [hL2, hL1]; simp [encSc])
 clear hL1 hL2
 refine wp_region_held (S := S) (by kernel_rfl) ?_
 simp only [List.size_toArray, List.length_cons, List.length_nil, Nat.reduceAdd, Array.replicate_succ, Array.replicate_zero, List.push_toArray, List.nil_append, List.cons_append]
 show wpAnyH _ _ _ _ _ _ _ _ Gw.drew
 replace hS5 := St.drew hS5
 generalize Gw.drew = w5 at hS5 ⊢
 (refine takeH (i := 0) (v := .pointer (some ⟨G, 0, none⟩)) rfl (by kernel_rfl) (by kernel_rfl) (by kernel_rfl) (fun _ _ _ h => h) (yields_val rfl (fun W hW => by (go_simp))) (by assumption) ?_; simp only [Act.put, List.setIfInBounds_toArray, List.set_cons_zero, List.set_cons_succ])
 (refine takeH (i := 1) (v := .int .i64 (a : Int)) rfl (by kernel_rfl) (by kernel_rfl) (by kernel_rfl) (fun _ _ _ h => h) (yields_val rfl (fun W hW => by ((have h := (T0.out W hW).cellv (i := 0) (v := .int .i64 (a : Int)) rfl; go_simp)))) (by assumption) ?_; simp only [Act.put, List.setIfInBounds_toArray, List.set_cons_zero, List.set_cons_succ])
 (refine takeH (i := 2) (v := .int .u64 (a : Int)) rfl (by kernel_rfl) (by kernel_rfl) (by kernel_rfl) (fun _ _ _ h => h) (yields_val rfl (fun W hW => by (go_simp))) (by assumption) ?_; simp only [Act.put, List.setIfInBounds_toArray, List.set_cons_zero, List.set_cons_succ])
 (refine takeH (i := 4) (v := .pointer (some ⟨G, 1, none⟩)) rfl (by kernel_rfl) (by kernel_rfl) (by kernel_rfl) (fun _ _ _ h => h) (yields_val rfl (fun W hW => by (go_simp))) (by assumption) ?_; simp only [Act.put, List.setIfInBounds_toArray, List.set_cons_zero, List.set_cons_succ])
 (refine takeH (i := 5) (v := .int .i64 (b : Int)) rfl (by kernel_rfl) (by kernel_rfl) (by kernel_rfl) (fun _ _ _ h => h) (yields_val rfl (fun W hW => by ((have h := (T0.out W hW).cellv (i := 1) (v := .int .i64 (b : Int)) rfl; go_simp)))) (by assumption) ?_; simp only [Act.put, List.setIfInBounds_toArray, List.set_cons_zero, List.set_cons_succ])
 (refine takeH (i := 6) (v := .int .u64 (b : Int)) rfl (by kernel_rfl) (by kernel_rfl) (by kernel_rfl) (fun _ _ _ h => h) (yields_val rfl (fun W hW => by (go_simp))) (by assumption) ?_; simp only [Act.put, List.setIfInBounds_toArray, List.set_cons_zero, List.set_cons_succ])
 (refine takeH (i := 9) (v := .pointer (some ⟨G, 2, none⟩)) rfl (by kernel_rfl) (by kernel_rfl) (by kernel_rfl) (fun _ _ _ h => h) (yields_val rfl (fun W hW => by (go_simp))) (by assumption) ?_; simp only [Act.put, List.setIfInBounds_toArray, List.set_cons_zero, List.set_cons_succ])
 (refine takeH (i := 10) (v := .int .i64 (c : Int)) rfl (by kernel_rfl) (by kernel_rfl) (by kernel_rfl) (fun _ _ _ h => h) (yields_val rfl (fun W hW => by ((have h := (T0.out W hW).cellv (i := 2) (v := .int .i64 (c : Int)) rfl; go_simp)))) (by assumption) ?_; simp only [Act.put, List.setIfInBounds_toArray, List.set_cons_zero, List.set_cons_succ])
 (refine takeH (i := 11) (v := .int .u64 (c : Int)) rfl (by kernel_rfl) (by kernel_rfl) (by kernel_rfl) (fun _ _ _ h => h) (yields_val rfl (fun W hW => by (go_simp))) (by assumption) ?_; simp only [Act.put, List.setIfInBounds_toArray, List.set_cons_zero, List.set_cons_succ])
 (refine wpAnyH_all (rs := [3]) (by kernel_rfl) (by simp) (fun i hi => ?_); obtain rfl : i = 3 := by simpa using hi)
 refine wpOp_plain rfl rfl (fun K2 hK2 => ?_)
 refine wp_call_gen 91 #[.int .u64 (a : Int)] (w1 := w5) (by go_simp) ((lebL_ref a (by omega) w5).mono ?_)
 rintro e y1 ⟨rfl, bb⟩
 refine ⟨_, rfl, ?_⟩
 refine hK2 _ _ ?_
 clear hK2 K2
 simp only [Act.put, List.setIfInBounds_toArray, List.set_cons_zero, List.set_cons_succ]
 have hSy1 := stS.go hS5 bb
 clear bb
 refine ⟨hSy1, ?_⟩
 (refine wpAnyH_all (rs := [7]) (by kernel_rfl) (by simp) (fun i hi => ?_); obtain rfl : i = 7 := by simpa using hi)
 refine wpOp_plain rfl rfl (fun K2 hK2 => ?_)
 refine wp_call_gen 91 #[.int .u64 (b : Int)] (w1 := y1) (by go_simp) ((lebL_ref b (by omega) y1).mono ?_)
 rintro e y2 ⟨rfl, bb⟩
 refine ⟨_, rfl, ?_⟩
 refine hK2 _ _ ?_
 clear hK2 K2
 simp only [Act.put, List.setIfInBounds_toArray, List.set_cons_zero, List.set_cons_succ]
 have hSy2 := stS.go hSy1 bb
 clear bb
 refine ⟨hSy2, ?_⟩
 (refine takeH (i := 8) (v := .string ⟨L1.toArray⟩) rfl (by kernel_rfl) (by kernel_rfl) (by kernel_rfl) (fun _ _ _ h => h) (yields_val rfl (fun W hW => by (go_simp))) (by assumption) ?_; simp only [Act.put, List.setIfInBounds_toArray, List.set_cons_zero, List.set_cons_succ])
 (refine wpAnyH_all (rs := [12]) (by kernel_rfl) (by simp) (fun i hi => ?_); obtain rfl : i = 12 := by simpa using hi)
 refine wpOp_plain rfl rfl (fun K2 hK2 => ?_)
 refine wp_call_gen 91 #[.int .u64 (c : Int)] (w1 := y2) (by go_simp) ((lebL_ref c (by omega) y2).mono ?_)
 rintro e y3 ⟨rfl, bb⟩
 refine ⟨_, rfl, ?_⟩
 refine hK2 _ _ ?_
 clear hK2 K2
 simp only [Act.put, List.setIfInBounds_toArray, List.set_cons_zero, List.set_cons_succ]
 have hSy3 := stS.go hSy2 bb
 clear bb
 refine ⟨hSy3, ?_⟩
 (refine takeH (i := 13) (v := .string ⟨L2.toArray⟩) rfl (by kernel_rfl) (by kernel_rfl) (by kernel_rfl) (fun _ _ _ h => h) (yields_val rfl (fun W hW => by (go_simp))) (by assumption) ?_; simp only [Act.put, List.setIfInBounds_toArray, List.set_cons_zero, List.set_cons_succ])
 (refine takeH (i := 14) (v := .string ⟨L2.toArray⟩) rfl (by kernel_rfl) (by kernel_rfl) (by kernel_rfl) (fun _ _ _ h => h) (yields_val rfl (fun W hW => by (rfl))) (by assumption) ?_; simp only [Act.put, List.setIfInBounds_toArray, List.set_cons_zero, List.set_cons_succ])
 (refine takeH (i := 15) (v := .int .i64 0) rfl (by kernel_rfl) (by kernel_rfl) (by kernel_rfl) (fun _ _ _ h => h) (yields_val rfl (fun W hW => by (rfl))) (by assumption) ?_; simp only [Act.put, List.setIfInBounds_toArray, List.set_cons_zero, List.set_cons_succ])
 refine wpAnyH_done (by kernel_rfl) ?_ _
 clear hc1 hs1 ht1 hc2 hs2 ht2
 go_wp2_with fail
 go_ret2
 exact ⟨ret_se HE.out rfl, T4.out _ hSy3⟩
theorem scRdR_eq (s : List UInt8) : scRdR s = ⟨(rCountZ (-1) s ⟨0, 0⟩ 1000000).1, (rCountZ (-1) s (rCountZ (-1) s ⟨0, 0⟩ 1000000).2 1000000).1, (rCountZ (-1) s (rCountZ (-1) s (rCountZ (-1) s ⟨0, 0⟩ 1000000).2 1000000).2 1000000).1⟩ := rfl
set_option maxRecDepth 100000 in
set_option maxHeartbeats 8000000 in
theorem refGetScore_any (s : List UInt8) (w : World) (hs : s.length ≤ 1000000) :
 Calls Tryz.prog 40 #[.string ⟨s.toArray⟩] w fun e w' => e = .returned (.tuple #[.agg (getSc s).1.cells, .int .i64 (getSc s).2]) ∧ Below w.heap.size w w' := by
 have Hs := Lib.hid hs
 obtain ⟨pd, hpd⟩ : ∃ p, p = getSc s := ⟨_, rfl⟩
 have Hpd := Lib.hid hpd
 rw [← hpd]
 obtain ⟨res, hres⟩ : ∃ p, p = scRdR s := ⟨_, rfl⟩
 have Hsc := Lib.hid hres
 have Hres : Hid _ := Lib.hid (hres.trans (scRdR_eq s))
 clear hs hpd hres
 go_enter Tryz.func40, Tryz.ntmps40
 go_wp2_with (first | fail | (refine at_alloc _ rfl ?_))
 refine Stop.to ?_
 refine wpList_alloc_gen rfl 29 rfl _ _ (zero_score _) rfl ?_
 intro R Rw Rh Rr Rb
 have hz : (Instr.build 131 #[(0, .string ⟨s.toArray⟩)]).run Tryz.prog Rw = .ok (.agg #[.string ⟨s.toArray⟩, .int .i64 0, .int .i64 0]) Rw := by kernel_rfl
 go_wp2_with (first | fail | (refine at_alloc _ rfl ?_))
 refine Stop.to ?_
 refine wpList_alloc_gen rfl 131 rfl _ _ (zero_rr _) rfl ?_
 intro P Pw Ph Pr Pb
 go_wp2_with (refine at_store _ _ _ rfl ?_)
 refine Stop.to ?_
 refine wpList_store_gen rfl 131 _ _ rfl P (rrC s ⟨0, 0⟩) rfl rfl 131 _ Pr (by kernel_rfl) rfl (by simp [rrC, Value.oneCell']) ?_
 intro Px Ps Po
 have Pc := (Pb.mono Ph).trans (Po.below Ph)
 clear Pb Pr Po
 have rP : Row Px P 131 (rrC s ⟨0, 0⟩) := Ps
 have Rr' : Row Rw R 29 #[.int .i64 0, .int .i64 0, .int .i64 0] := Rr
 have lRP : R < P := Nat.lt_of_lt_of_le Rr'.lt Ph
 have rR := Rr'.below Pc Rr'.lt
 have bb : Below w.heap.size w Px := ((Below.refl w.heap.size w).trans (Rb.mono Rh)).trans (Pc.mono (by have := Rr'.lt; omega))
 clear hz Ps Pc Rr Rr' Rb
 go_wp2_with (first | fail | (refine at_alloc _ rfl ?_))
 refine Stop.to ?_
 refine wpList_alloc_gen rfl 29 rfl _ _ (zero_score _) rfl ?_
 intro D Dw Dh Dr Db
 have rD : Row Dw D 29 #[.int .i64 0, .int .i64 0, .int .i64 0] := Dr
 have lPD : P < D := Nat.lt_of_lt_of_le rP.lt Dh
 replace rP := rP.below Db lPD
 replace rR := rR.below Db (by omega)
 replace bb := bb.trans (Db.mono (by have := bb.size; omega))
 clear Dr Db
 have Hp0 : Hid ((⟨0, 0⟩ : Rs).pl ≤ s.length) := Lib.hid (Nat.zero_le _)
 go_wp2_with (refine wpList_load_row rfl 131 _ rfl P rfl 131 (rrC s ⟨0, 0⟩) (0, 0) _ rP Tryz.underlying131 rfl (by kernel_rfl) ?_)
 refine (ask2_any s ⟨0, 0⟩ Hp0.out Hs.out Dw).mono ?_
 rintro e w3 ⟨rfl, bN⟩
 have Hp1 := Lib.hid (rCountZ_pl (z := -1) (s := s) (r := ⟨0, 0⟩) (most := 1000000) Hp0.out)
 obtain ⟨⟨a, r1⟩, hc⟩ : ∃ p, p = rCountZ (-1) s ⟨0, 0⟩ 1000000 := ⟨_, rfl⟩
 rw [← hc] at Hres Hp1 ⊢
 clear hc
 dsimp only at Hres Hp1 ⊢
 replace rP := rP.below bN rP.lt
 replace rD := rD.below bN rD.lt
 replace rR := rR.below bN rR.lt
 replace bb := bb.trans (bN.mono bb.size)
 clear bN
 go_wp2_with (refine at_store 131 _ _ rfl ?_)
 refine Stop.to ?_
 refine wpList_store_gen rfl 131 _ _ rfl P (rrC s r1) rfl rfl 131 _ rP (by kernel_rfl) rfl (by simp [rrC, Value.oneCell']) ?_
 intro w4 rP' oP
 replace rD := rD.only oP (by omega)
 replace rR := rR.only oP (by omega)
 replace bb := below_only bb oP (by omega)
 clear rP oP
 have rP := rP'
 clear rP'
 have cD := rD.cellv (i := 0) (v := .int .i64 0) rfl
 have fD := rD.free 0
 have oD := only_set (w4) D 0 (.int .i64 a)
 have rD' : Row ((w4).setCell ⟨D, 0, none⟩ (.int .i64 a)) D 29 #[.int .i64 a, .int .i64 0, .int .i64 0] := rD.set 0 _
 replace rP := rP.only oD (by omega)
 replace rR := rR.only oD (by omega)
 replace bb := below_only bb oD (by omega)
 clear rD oD
 have rD := rD'
 clear rD'
 go_wp2_with (refine wpList_load_row rfl 131 _ rfl P rfl 131 (rrC s r1) (0, 0) _ rP Tryz.underlying131 rfl (by kernel_rfl) ?_)
 refine (ask2_any s r1 Hp1.out Hs.out _).mono ?_
 rintro e w5 ⟨rfl, bN⟩
 have Hp2 := Lib.hid (rCountZ_pl (z := -1) (s := s) (r := r1) (most := 1000000) Hp1.out)
 obtain ⟨⟨b, r2⟩, hc⟩ : ∃ p, p = rCountZ (-1) s r1 1000000 := ⟨_, rfl⟩
 rw [← hc] at Hres Hp2 ⊢
 clear hc
 dsimp only at Hres Hp2 ⊢
 replace rP := rP.below bN rP.lt
 replace rD := rD.below bN rD.lt
 replace rR := rR.below bN rR.lt
 replace bb := bb.trans (bN.mono bb.size)
 clear bN
 clear cD fD
 go_wp2_with (refine at_store 131 _ _ rfl ?_)
 refine Stop.to ?_
 refine wpList_store_gen rfl 131 _ _ rfl P (rrC s r2) rfl rfl 131 _ rP (by kernel_rfl) rfl (by simp [rrC, Value.oneCell']) ?_
 intro w6 rP' oP
 replace rD := rD.only oP (by omega)
 replace rR := rR.only oP (by omega)
 replace bb := below_only bb oP (by omega)
 clear rP oP
 have rP := rP'
 clear rP'
 have cD := rD.cellv (i := 1) (v := .int .i64 0) rfl
 have fD := rD.free 1
 have oD := only_set (w6) D 1 (.int .i64 b)
 have rD' : Row ((w6).setCell ⟨D, 1, none⟩ (.int .i64 b)) D 29 #[.int .i64 a, .int .i64 b, .int .i64 0] := rD.set 1 _
 replace rP := rP.only oD (by omega)
 replace rR := rR.only oD (by omega)
 replace bb := below_only bb oD (by omega)
 clear rD oD
 have rD := rD'
 clear rD'
 go_wp2_with (refine wpList_load_row rfl 131 _ rfl P rfl 131 (rrC s r2) (0, 0) _ rP Tryz.underlying131 rfl (by kernel_rfl) ?_)
 refine (ask2_any s r2 Hp2.out Hs.out _).mono ?_
 rintro e w7 ⟨rfl, bN⟩
 have Hp3 := Lib.hid (rCountZ_pl (z := -1) (s := s) (r := r2) (most := 1000000) Hp2.out)
 obtain ⟨⟨c, r3⟩, hc⟩ : ∃ p, p = rCountZ (-1) s r2 1000000 := ⟨_, rfl⟩
 rw [← hc] at Hres Hp3 ⊢
 clear hc
 dsimp only at Hres Hp3 ⊢
 replace rP := rP.below bN rP.lt
 replace rD := rD.below bN rD.lt
 replace rR := rR.below bN rR.lt
 replace bb := bb.trans (bN.mono bb.size)
 clear bN
 clear cD fD
 have cD := rD.cellv (i := 2) (v := .int .i64 0) rfl
 have fD := rD.free 2
 have oD := only_set (w7) D 2 (.int .i64 c)
 have rD' : Row ((w7).setCell ⟨D, 2, none⟩ (.int .i64 c)) D 29 #[.int .i64 a, .int .i64 b, .int .i64 c] := rD.set 2 _
 replace rP := rP.only oD (by omega)
 replace rR := rR.only oD (by omega)
 replace bb := below_only bb oD (by omega)
 clear rD oD
 have rD := rD'
 clear rD'
 obtain rfl : res = ⟨a, b, c⟩ := Hres.out
 have HP := Lib.hid (refPutScore_any ⟨a, b, c⟩ (w7.setCell ⟨D, 2, none⟩ (.int .i64 c)))
 clear Hres Hp0 Hp1 Hp2 Hp3 rP
 go_wp2_with (refine wpList_load_row rfl 29 _ rfl D rfl 29 #[.int .i64 a, .int .i64 b, .int .i64 c] (0, 0) _ rD Tryz.underlying29 rfl (by kernel_rfl) ?_)
 clear cD fD
 by_cases hr : okSc ⟨a, b, c⟩ ∧ encSc ⟨a, b, c⟩ = s
 · have hp : putSc ⟨a, b, c⟩ = (s, 0) := by rw [putSc, if_pos hr.1, hr.2]
   rw [hp] at HP
   obtain rfl : pd = (⟨a, b, c⟩, 0) := Hpd.out.trans (by have := gotBy_yes (z := ⟨0, 0, 0⟩) scRdR_put hr.1 hr.2; exact this)
   clear hr hp
   refine HP.out.mono ?_
   rintro e w8 ⟨rfl, b8⟩
   replace rD := rD.below b8 rD.lt
   replace rR := rR.below b8 rR.lt
   replace bb := bb.trans (b8.mono bb.size)
   clear b8 HP
   go_wp2_with (first | (refine wpList_load_row rfl 29 _ rfl D rfl 29 #[.int .i64 a, .int .i64 b, .int .i64 c] (0, 0) _ rD Tryz.underlying29 rfl (by kernel_rfl) ?_) | (refine at_store _ _ _ rfl ?_))
   refine Stop.to ?_
   refine wpList_store_gen rfl 29 _ _ rfl R #[.int .i64 a, .int .i64 b, .int .i64 c] rfl rfl 29 _ rR (by kernel_rfl) rfl (by simp [Value.oneCell']) ?_
   intro w9 r9 o9
   go_wp2_with fail
   try rw [Exit.noGoto_ret]
   refine bodyPost_ret (results_cell_tmp Tryz.results40 _ _ R 29 _ (0, 0) _ rfl r9 Tryz.underlying29 rfl (by kernel_rfl)) rfl ?_
   exact ⟨rfl, below_only bb o9 (by omega)⟩
 · obtain rfl : pd = (⟨0, 0, 0⟩, 12) := Hpd.out.trans (gotBy_no scRdR_put (by rw [← Hsc.out]; exact hr))
   obtain ⟨⟨t, e0⟩, hp⟩ : ∃ p, p = putSc ⟨a, b, c⟩ := ⟨_, rfl⟩
   rw [← hp] at HP
   have hne : ¬ (e0 = 0 ∧ t = s) := fun h => hr (by
    unfold putSc at hp
    by_cases h1 : okSc ⟨a, b, c⟩
    · rw [if_pos h1] at hp; injection hp with hp1 _; exact ⟨h1, by rw [← hp1, h.2]⟩
    · rw [if_neg h1] at hp; injection hp with _ hp2; rw [h.1] at hp2; exact absurd hp2 (by decide))
   have hts : e0 = 0 → (t == s) = false := fun h0 => by simpa using fun e => hne ⟨h0, e⟩
   have Hts := Lib.hid hts
   clear hr hp hne hts
   refine HP.out.mono ?_
   rintro e w8 ⟨rfl, b8⟩
   replace rR := rR.below b8 rR.lt
   replace bb := bb.trans (b8.mono bb.size)
   clear b8 HP rD
   have hzr : (Instr.build 29 #[]).run Tryz.prog w8 = .ok (.agg #[.int .i64 0, .int .i64 0, .int .i64 0]) w8 := by kernel_rfl
   by_cases he : e0 = 0
   · have htb := Hts.out he
     subst he
     clear Hts
     go_wp2_with (first | (refine at_store _ _ _ rfl ?_))
     refine Stop.to ?_
     refine wpList_store_gen rfl 29 _ _ rfl R #[.int .i64 0, .int .i64 0, .int .i64 0] rfl rfl 29 _ rR (by kernel_rfl) rfl (by simp [Value.oneCell']) ?_
     intro w9 r9 o9
     go_wp2_with fail
     try rw [Exit.noGoto_ret]
     refine bodyPost_ret (results_cell_tmp Tryz.results40 _ _ R 29 _ (0, 0) _ rfl r9 Tryz.underlying29 rfl (by kernel_rfl)) rfl ?_
     exact ⟨rfl, below_only bb o9 (by omega)⟩
   · clear Hts
     go_wp2_with (first | (refine at_store _ _ _ rfl ?_))
     refine Stop.to ?_
     refine wpList_store_gen rfl 29 _ _ rfl R #[.int .i64 0, .int .i64 0, .int .i64 0] rfl rfl 29 _ rR (by kernel_rfl) rfl (by simp [Value.oneCell']) ?_
     intro w9 r9 o9
     go_wp2_with fail
     try rw [Exit.noGoto_ret]
     refine bodyPost_ret (results_cell_tmp Tryz.results40 _ _ R 29 _ (0, 0) _ rfl r9 Tryz.underlying29 rfl (by kernel_rfl)) rfl ?_
     exact ⟨rfl, below_only bb o9 (by omega)⟩
end Go.Proofs.YtcgglolckkeeiaaGreat
