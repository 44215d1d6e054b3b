/- Lemmas for DirectMutantsP. -/
import Derived.Test.YtdcmppdhdcjpfaaGreatZp7
import Derived.Test.YtdcmppdhdcjpfaaGreatZp2
import Derived.Test.YtdcmppdhdcjpfaaGreatZp3
import Derived.Test.YtdcmppdhdcjpfaaGreatZp1
set_option linter.unusedVariables false
set_option linter.unusedSimpArgs false
set_option maxRecDepth 100000
set_option maxHeartbeats 16000000
namespace Go.Proofs.YtdcmppdhdcjpfaaGreat
open Go.RowKit Go.Deep
structure Top (L : Lay) (W : World) (x : FrV) (r : List FrV) (sv : Value) (SB cap : Nat) (cur : Array Value) : Prop where
 sve : sv = .slice (some ⟨SB, 0, none⟩) (r.length + 1) cap
 row : Row W SB 128 cur
 size : cur.size = cap * 3
 le : r.length + 1 ≤ cap
 max : cap ≤ maxLen
 lo : L.b1 ≤ SB
 low : cur.toList.take (r.length * 3) = r.reverse.flatMap FrV.cells
 top : (cur.toList.drop (r.length * 3)).take 3 = x.cells
section
variable {L : Lay} {W W' : World} {x x' : FrV} {r fs : List FrV} {sv ev : Value} {SB cap : Nat} {cur : Array Value} {s s' : Ms}
theorem EK (h : W.ownsRow L.b1 128 3 sv (x :: r).length ((x :: r).reverse.flatMap FrV.cells)) : ∃ SB cap cur, Top L W x r sv SB cap cur := by
 rcases h.2 with ⟨_, h0⟩ | ⟨g, cap, cur, rfl, hb, hh, hc, hm, hsz, ht⟩
 · simp at h0
 · rw [List.reverse_cons, List.flatMap_append, List.length_cons] at ht
   have hl : (r.reverse.flatMap FrV.cells).length = r.length * 3 := by rw [Kz, List.length_reverse]
   have hlow : cur.toList.take (r.length * 3) = r.reverse.flatMap FrV.cells := by
    have := congrArg (List.take (r.length * 3)) ht
    rw [List.take_take, Nat.min_eq_left (by omega), List.take_append_of_le_length (by omega), List.take_of_length_le (l := r.reverse.flatMap FrV.cells) (by omega)] at this
    exact this
   refine ⟨g, cap, cur, rfl, hh, hsz, hc, hm, hb, hlow, ?_⟩
   have := congrArg (List.drop (r.length * 3)) ht
   rw [List.drop_take, List.drop_append_of_le_length (by omega), List.drop_eq_nil_of_le (show (r.reverse.flatMap FrV.cells).length ≤ r.length * 3 by omega), List.nil_append] at this
   rw [show (r.length + 1) * 3 - r.length * 3 = 3 by omega] at this
   simpa using this
theorem Top.own (h : Top L W x r sv SB cap cur) : W.ownsRow L.b1 128 3 sv (r.length + 1) ((x :: r).reverse.flatMap FrV.cells) := by
 have hl : (r.reverse.flatMap FrV.cells).length = r.length * 3 := by rw [Kz, List.length_reverse]
 refine ⟨by rw [Kz, List.length_reverse, List.length_cons], .inr ⟨SB, cap, cur, h.sve, h.lo, h.row, h.le, h.max, h.size, ?_⟩⟩
 rw [List.reverse_cons, List.flatMap_append, show (r.length + 1) * 3 = r.length * 3 + 3 by omega, List.take_add, h.low, h.top]
 simp
theorem Top.cell (h : Top L W x r sv SB cap cur) (j : Nat) (u : Value) (hu : x.cells[j]? = some u) : W.cell? ⟨SB, r.length * 3 + j, none⟩ = some u := by
 refine h.row.cellv ?_
 have hj : j < 3 := by have := (List.getElem?_eq_some_iff.1 hu).1; simpa [FrV.cells] using this
 rw [← h.top, List.getElem?_take_of_lt hj, List.getElem?_drop] at hu
 rw [← Array.getElem?_toList]; exact hu
theorem Top.pop (h : Top L W x r sv SB cap cur) : W.ownsRow L.b1 128 3 (.slice (some ⟨SB, 0, none⟩) r.length cap) r.length (r.reverse.flatMap FrV.cells) :=
 ⟨by rw [Kz, List.length_reverse], .inr ⟨SB, cap, cur, rfl, h.lo, h.row, by have := h.le; omega, h.max, h.size, h.low⟩⟩
theorem Top.hi (h : Top L W x r sv SB cap cur) : r.length * 3 + 3 ≤ cur.size := by have := h.size; have := h.le; omega
theorem Top.put (h : Top L W x r sv SB cap cur) {j : Nat} {u : Value} (hj : j < 3) (hx : x'.cells = x.cells.set j u) (hr : Row W' SB 128 (Zz cur (r.length * 3 + j) [u])) : Top L W' x' r sv SB cap (Zz cur (r.length * 3 + j) [u]) := by
 have hh := h.hi
 have e : (Zz cur (r.length * 3 + j) [u]).toList = cur.toList.set (r.length * 3 + j) u := by
  unfold Zz
  simp only [List.length_singleton]
  rw [List.set_eq_take_append_cons_drop, if_pos (by simp; omega)]; simp
 refine ⟨h.sve, hr, ?_, h.le, h.max, h.lo, ?_, ?_⟩
 · rw [← h.size, ← Array.length_toList, e]; simp
 · rw [e, List.take_set_of_le (by omega)]; exact h.low
 · rw [e, List.drop_set, if_neg (by omega), show r.length * 3 + j - r.length * 3 = j by omega, List.take_set, h.top, hx]
theorem Top.below (h : Top L W x r sv SB cap cur) (b : Below W.heap.size W W') : Top L W' x r sv SB cap cur := ⟨h.sve, h.row.below b h.row.lt, h.size, h.le, h.max, h.lo, h.low, h.top⟩
theorem AfY {n : Nat} {v : Value} {xs : List Value} {e : TypeId} {size : Nat} (hL : LOk L) (h : W.ownsRow L.b1 e size v n xs) : v.ownBlock = none ∨ L.vv.ownBlock ≠ v.ownBlock := by
 cases hv : v.ownBlock with
 | none => exact .inl rfl
 | some g => exact .inr (fun e => by have := (hL.vlt g e).1; have := Qz h hv; omega)
theorem MC.grownTop (h : MC L s (x :: r) ev W) (hL : LOk L) (hg : W.grownBy W' x.v.ownBlock) (hx : W'.ownsRow L.b1 3 1 x'.v x'.f.vals.length (Qg x'.f.vals)) (hat : x'.v.ownBlock = x.v.ownBlock ∨ x'.v.ownBlock = some W.heap.size) : MC L s (x' :: r) ev W' := by
 have hxo := h.fr x (by simp)
 have hd := List.pairwise_cons.1 h.dist
 refine ⟨QM h.evs hg (QQ h.evs hxo (by decide)), QM h.vals hg (AfY hL hxo), fun i g a hi ha => (h.arrs i g a hi ha).grown hg (fun e => ?_), fun y hy => ?_, List.pairwise_cons.2 ⟨fun y hy => ?_, hd.2⟩,
  hL.im _ _ h.im (.grown hg h.size (fun k e => Qz hxo e)), Nat.le_trans h.size hg.size, h.sum, by have := h.few; simpa using this⟩
 · have h1 := (hL.alt g (List.mem_of_getElem? hi)).1
   have := Qz hxo e
   omega
 · rcases List.mem_cons.1 hy with rfl | hy
   · exact hx
   · exact QM (h.fr y (by simp [hy])) hg (by
      rcases hd.1 y hy with h1 | h1
      · exact .inl h1
      · exact .inr (fun e => h1 e.symm))
 · rcases hat with h1 | h1
   · rw [h1]; exact hd.1 y hy
   · rw [h1]
     right
     intro e
     have := (h.fr y (by simp [hy])).lt _ e.symm
     omega
end
theorem MC.onlyStack {L : Lay} {s : Ms} {fs : List FrV} {ev : Value} {W W' : World} {SB : Nat} {cur : Array Value} (h : MC L s fs ev W) (hL : LOk L) (o : Only SB W W') (hr : Row W SB 128 cur) (hlo : L.b1 ≤ SB) : MC L s fs ev W' :=
 ⟨Qt h.evs o (Qu h.evs hr (by decide)), Qt h.vals o (Qu h.vals hr (by decide)), fun i g a hi ha => (h.arrs i g a hi ha).only o (fun e => by have := (hL.alt g (List.mem_of_getElem? hi)).1; omega),
  fun x hx => Qt (h.fr x hx) o (Qu (h.fr x hx) hr (by decide)), h.dist, hL.im _ _ h.im (.only o (.inl hlo)), by rw [o.size]; exact h.size, h.sum, h.few⟩
theorem VX : (Tryz.prog.info? 3).map (fun i => (i.zero, i.size, i.bytes)) = some (some (.int .i64 0), 1, 8) := by kernel_rfl
theorem ZZ (L : Lay) (hL : LOk L) (s : Ms) (f : Fr) (r : List Fr) (v : Int) (W : World) (h : MRx L ⟨s, f :: r⟩ W) (hv : f.vals.length ≤ 1000) : Calls Tryz.prog 122 #[.pointer (some ⟨L.M, 0, none⟩), .int .i64 v] W fun e W' => (∃ u, e = .returned u) ∧ MRx L ⟨s, f.told v :: r⟩ W' ∧ Chg L W W' := by
 obtain ⟨fs, sv, ev, hfs, hm⟩ := h
 obtain ⟨x, rs, rfl⟩ : ∃ x rs, fs = x :: rs := by cases fs with
  | nil => simp at hfs
  | cons x rs => exact ⟨x, rs, rfl⟩
 simp only [List.map_cons, List.cons.injEq] at hfs
 obtain ⟨rfl, rfl⟩ := hfs
 obtain ⟨SB, cap, cur, ht⟩ := EK hm.stack
 obtain ⟨i0, hi0, hz0, hz1, hz2⟩ := info_parts VX
 have Hm := Lh hm
 have HL := Lh hL
 have Ht := Lh ht
 have c7 := hm.row.cellv (i := 7) (v := sv) rfl
 rw [ht.sve] at c7
 have hfew := hm.core.few
 have hsum := hm.core.sum
 have hF := hL.F
 have hrl : rs.length ≤ 20001 := by simp at hfew; dsimp only at hsum; omega
 clear hm hL ht hfew hsum hF
 go_enter Tryz.func122, Tryz.ntmps122
 go_wp2_with fail
 go_quiet (fail)
 have hd : Below W.heap.size W (W.drewN nq) := ⟨rfl, rfl, rfl, Nat.le_refl _, fun _ _ => rfl⟩
 have gd : Chg L W (W.drewN nq) := ⟨rfl, rfl, rfl, Nat.le_refl _, fun _ _ _ _ _ => rfl⟩
 have hm0 := Hm.out.below HL.out hd
 have ht0 := Ht.out.below hd
 have Gd := Lh gd
 clear Hm Ht c7 hd gd
 generalize W.drewN nq = W0 at hm0 ht0 Gd ⊢
 have cv := ht0.cell 2 x.v rfl
 have hxo := hm0.core.fr x (by simp)
 have hb1 := hm0.core.size
 have ha := hxo.alloc (.cells #[.int .i64 v] 3)
 have HA := Lh ha
 have Hm0 := Lh hm0
 have Ht0 := Lh ht0
 clear ha hxo hm0 ht0
 go_wp2_with (at_builtin; refine wpList_append_own_at _ rfl (.tmp 20) (.tmp 22) 22 rfl L.b1 3 i0 (.int .i64 0) 1 8 Tryz.underlying22 hi0 hz0 hz1 hz2 rfl (by decide) x.v x.f.vals.length (Qg x.f.vals) rfl HA.out ⟨W0.heap.size, 0, none⟩ 1 1 (Qg [v]) rfl rfl (Je _ _ _) (Jm _) (by unfold maxLen; omega) (by omega) (by simp; omega) ?_)
 intro fv W1 hown hg _ hat
 have b1 : Below W0.heap.size W0 (W0.alloc (.cells #[.int .i64 v] 3)) := (Below.refl _ _).alloc (Nat.le_refl _) _
 have hm1 := Hm0.out.below HL.out b1
 have ht1 := Ht0.out.below b1
 have k2 := hm1.core.grownTop (x' := ⟨x.f.told v, fv⟩) HL.out hg (by rw [← Jz] at hown; simpa [Fr.told] using hown) (by simpa using hat)
 have r2 := hm1.row.grown hg (Qu HA.out hm1.row (by decide))
 have t2 : Row W1 SB 128 cur := ht1.row.grown hg (Qu HA.out ht1.row (by decide))
 have ht2 : Top L W1 x rs sv SB cap cur := ⟨ht1.sve, t2, ht1.size, ht1.le, ht1.max, ht1.lo, ht1.low, ht1.top⟩
 have g2 := (Gd.out.trans (Chg.below (L := L) (b1.mono hb1))).trans (.grown hg (by simp; omega) (fun k e => Qz HA.out e))
 have hov := Zk hown
 have K2 := Lh k2
 have R2 := Lh r2
 have T2 := Lh ht2
 have G2 := Lh g2
 clear hown hg hat b1 hm1 ht1 k2 r2 t2 ht2 g2 HA Hm0 Ht0 Gd cv
 go_wp2_with (refine Ql _ _ _ rfl ?_)
 refine Stop.to ?_
 refine Qk rfl 22 _ _ rfl SB (rs.length * 3 + 2) rfl _ rfl [fv] (by cases fv <;> first | rfl | cases hov) 128 _ _ T2.out.row (by kernel_rfl) (by have := T2.out.hi; simp; omega) (by simpa using hov) rfl ?_
 intro W3 r3 o3
 have hSB := T2.out.lo
 have t3 := T2.out.put (x' := ⟨x.f.told v, fv⟩) (j := 2) (u := fv) (by decide) rfl r3
 have hne : SB ≠ L.M := by have := HL.out.lt; omega
 have m3 : MR L s (⟨x.f.told v, fv⟩ :: rs) sv ev W3 := by
  refine ⟨R2.out.only o3 (fun e => hne e.symm), t3.own, ?_⟩
  exact K2.out.onlyStack HL.out o3 T2.out.row hSB
 have M3 := Lh m3
 have G3 := Lh (G2.out.trans (.only o3 (.inl hSB)))
 clear m3 t3 o3 r3 R2 T2 K2 G2
 go_wp2
 go_end0
 exact ⟨⟨_, rfl⟩, ⟨_, sv, ev, rfl, M3.out⟩, G3.out⟩
theorem Kf (b : Bool) (w : World) : Calls Tryz.prog 198 #[.bool b] w fun e w' => e = .returned (.int .i64 (tr b)) ∧ w = w' := by
 cases b
 all_goals
  go_enter Tryz.func198, Tryz.ntmps198
  go_wp2
  go_ret
  exact ⟨rfl, rfl⟩
theorem Yt (tag a b c : Int) (f : Nat) (w : World) (hf : Jg tag Kv = some (fnV f)) (hp : Za tag a b = some c) : Calls Tryz.prog f #[.int .i64 a, .int .i64 b] w fun e w' => e = .returned (.int .i64 c) ∧ w = w' := by
 have key : tag = 7 ∨ tag = 8 ∨ tag = 9 ∨ tag = 12 ∨ tag = 13 ∨ tag = 14 ∨ tag = 15 ∨ tag = 16 ∨ tag = 17 ∨ tag = 10 ∨ tag = 11 := by
  unfold Kv at hf
  simp only [Jg] at hf
  repeat' split at hf
  all_goals (first | (cases hf; done) | omega)
 rcases key with rfl | rfl | rfl | rfl | rfl | rfl | rfl | rfl | rfl | rfl | rfl
 all_goals
  have hf' := hf
  simp [Kv, Jg, fnV] at hf'
  subst hf'
  clear hf
 · have hc : wrap64 (a + b) = c := by simpa [Za] using hp
   subst hc; clear hp
   go_enter Tryz.func194, Tryz.ntmps194
   go_wp2
   go_ret
   exact ⟨QD rfl, rfl⟩
 · have hc : wrap64 (a - b) = c := by simpa [Za] using hp
   subst hc; clear hp
   go_enter Tryz.func195, Tryz.ntmps195
   go_wp2
   go_ret
   exact ⟨QD rfl, rfl⟩
 · have hc : wrap64 (a * b) = c := by simpa [Za] using hp
   subst hc; clear hp
   go_enter Tryz.func196, Tryz.ntmps196
   go_wp2
   go_ret
   exact ⟨QD rfl, rfl⟩
 · have hc : tr (decide (a = b)) = c := by simpa [Za] using hp
   clear hp
   go_enter Tryz.func197, Tryz.ntmps197
   go_wp2_with fail
   refine (Kf _ _).mono ?_
   rintro e w' ⟨rfl, rfl⟩
   go_wp2
   go_ret
   exact ⟨QD (by rw [← hc]; all_goals (first | (congr 1; done) | (congr 1; rw [Bool.eq_iff_iff]; simp))), rfl⟩
 · have hc : tr (decide (a ≠ b)) = c := by simpa [Za] using hp
   clear hp
   go_enter Tryz.func199, Tryz.ntmps199
   go_wp2_with fail
   refine (Kf _ _).mono ?_
   rintro e w' ⟨rfl, rfl⟩
   go_wp2
   go_ret
   exact ⟨QD (by rw [← hc]; all_goals (first | (congr 1; done) | (congr 1; rw [Bool.eq_iff_iff]; simp))), rfl⟩
 · have hc : tr (decide (a < b)) = c := by simpa [Za] using hp
   clear hp
   go_enter Tryz.func200, Tryz.ntmps200
   go_wp2_with fail
   refine (Kf _ _).mono ?_
   rintro e w' ⟨rfl, rfl⟩
   go_wp2
   go_ret
   exact ⟨QD (by rw [← hc]; all_goals (first | (congr 1; done) | (congr 1; rw [Bool.eq_iff_iff]; simp))), rfl⟩
 · have hc : tr (decide (a ≤ b)) = c := by simpa [Za] using hp
   clear hp
   go_enter Tryz.func201, Tryz.ntmps201
   go_wp2_with fail
   refine (Kf _ _).mono ?_
   rintro e w' ⟨rfl, rfl⟩
   go_wp2
   go_ret
   exact ⟨QD (by rw [← hc]; all_goals (first | (congr 1; done) | (congr 1; rw [Bool.eq_iff_iff]; simp))), rfl⟩
 · have hc : tr (decide (b < a)) = c := by simpa [Za] using hp
   clear hp
   go_enter Tryz.func202, Tryz.ntmps202
   go_wp2_with fail
   refine (Kf _ _).mono ?_
   rintro e w' ⟨rfl, rfl⟩
   go_wp2
   go_ret
   exact ⟨QD (by rw [← hc]; all_goals (first | (congr 1; done) | (congr 1; rw [Bool.eq_iff_iff]; simp))), rfl⟩
 · have hc : tr (decide (b ≤ a)) = c := by simpa [Za] using hp
   clear hp
   go_enter Tryz.func203, Tryz.ntmps203
   go_wp2_with fail
   refine (Kf _ _).mono ?_
   rintro e w' ⟨rfl, rfl⟩
   go_wp2
   go_ret
   exact ⟨QD (by rw [← hc]; all_goals (first | (congr 1; done) | (congr 1; rw [Bool.eq_iff_iff]; simp))), rfl⟩
 · by_cases h0 : b = 0
   · simp [Za, h0] at hp
   have hc : wrap64 (a.tdiv b) = c := by simpa [Za, h0] using hp
   subst hc; clear hp
   go_enter Tryz.func204, Tryz.ntmps204
   go_wp2
   go_ret
   exact ⟨QD rfl, rfl⟩
 · by_cases h0 : b = 0
   · simp [Za, h0] at hp
   have hc : a.tmod b = c := by simpa [Za, h0] using hp
   subst hc; clear hp
   go_enter Tryz.func205, Tryz.ntmps205
   go_wp2
   go_ret
   exact ⟨QD rfl, rfl⟩
theorem Eu {w : World} : (zeroValue 202).run Tryz.prog w = .ok Value.nilFunc w := by kernel_rfl
theorem AaI (L : Lay) (hL : LOk L) (m : Mm) (tag a b : Int) (W : World) (h : MRx L m W) (hp : Za tag a b = none) : Calls Tryz.prog 125 #[.pointer (some ⟨L.M, 0, none⟩), .int .i64 tag, .int .i64 a, .int .i64 b] W fun e W' => (∃ u, e = .returned u) ∧ MRx L ⟨m.s.stop 1 0, m.stack⟩ W' ∧ Chg L W W' := by
 have hst := KV L hL m 1 0 W h
 have Hst := Lh hst
 have hb : b = 0 ∧ (tag = 10 ∨ tag = 11) := by
  unfold Za at hp
  repeat' split at hp
  all_goals (first | (cases hp; done) | (refine ⟨?_, ?_⟩ <;> first | assumption | omega))
 obtain ⟨rfl, ht⟩ := hb
 clear hst h hp hL
 rcases ht with rfl | rfl
 all_goals
  go_enter Tryz.func125, Tryz.ntmps125
  go_wp2_with fail
  refine Hst.out.mono ?_
  rintro e W2 ⟨⟨u, rfl⟩, h2, g2⟩
  have G2 := Lh g2
  have H2 := Lh h2
  clear h2 g2
  go_wp2
  refine bodyPost_ret (results_none rfl _ _ _) rfl ?_
  exact ⟨⟨_, rfl⟩, H2.out, G2.out⟩
theorem AcV (L : Lay) (hL : LOk L) (s : Ms) (f : Fr) (r : List Fr) (tag a b c : Int) (W : World) (h : MRx L ⟨s, f :: r⟩ W) (hv : f.vals.length ≤ 1000) (ht : 7 ≤ tag ∧ tag ≤ 17) (hp : Za tag a b = some c) : Calls Tryz.prog 125 #[.pointer (some ⟨L.M, 0, none⟩), .int .i64 tag, .int .i64 a, .int .i64 b] W fun e W' => (∃ u, e = .returned u) ∧ MRx L ⟨s, f.told c :: r⟩ W' ∧ Chg L W W' := by
 obtain ⟨fs, sv, ev, hfs, hm⟩ := h
 have hte := ZZ L hL s f r c W ⟨fs, sv, ev, hfs, hm⟩ hv
 have hmb := hL.pairs W hm.core.im
 have Hte := Lh hte
 have Hmb := Lh hmb
 have c13 := hm.row.cellv (i := 13) (v := .map (some L.PB)) rfl
 have htags : tag = 7 ∨ tag = 8 ∨ tag = 9 ∨ tag = 12 ∨ tag = 13 ∨ tag = 14 ∨ tag = 15 ∨ tag = 16 ∨ tag = 17 ∨ tag = 10 ∨ tag = 11 := by omega
 clear hte hm hmb hL hfs ht
 rcases htags with rfl | rfl | rfl | rfl | rfl | rfl | rfl | rfl | rfl | rfl | rfl
 iterate 9
  · by_cases hb : b = 0
    · have e0 : (b == 0) = true := by simpa using hb
      clear hb
      have Hcl := Lh (Yt _ a b c _ W rfl hp)
      clear hp
      go_enter Tryz.func125, Tryz.ntmps125
      go_wp2_with (refine QU rfl _ _ rfl Tryz.underlying123 Tryz.underlying3 Hmb.out rfl _ rfl Eu ?_; simp only [Kv, Jg, fnV, Option.getD_some, Int.reduceEq, if_false, if_true])
      refine Hcl.out.mono ?_
      rintro e w' ⟨rfl, rfl⟩
      go_wp2_with fail
      refine Hte.out.mono ?_
      rintro e W2 ⟨⟨u, rfl⟩, h2, g2⟩
      have G2 := Lh g2
      have H2 := Lh h2
      clear h2 g2
      go_wp2
      go_end0
      exact ⟨⟨_, rfl⟩, H2.out, G2.out⟩
    · have e0 : (b == 0) = false := by simpa using hb
      clear hb
      have Hcl := Lh (Yt _ a b c _ W rfl hp)
      clear hp
      go_enter Tryz.func125, Tryz.ntmps125
      go_wp2_with (refine QU rfl _ _ rfl Tryz.underlying123 Tryz.underlying3 Hmb.out rfl _ rfl Eu ?_; simp only [Kv, Jg, fnV, Option.getD_some, Int.reduceEq, if_false, if_true])
      refine Hcl.out.mono ?_
      rintro e w' ⟨rfl, rfl⟩
      go_wp2_with fail
      refine Hte.out.mono ?_
      rintro e W2 ⟨⟨u, rfl⟩, h2, g2⟩
      have G2 := Lh g2
      have H2 := Lh h2
      clear h2 g2
      go_wp2
      go_end0
      exact ⟨⟨_, rfl⟩, H2.out, G2.out⟩
 all_goals
  by_cases hb : b = 0
  · subst hb; simp [Za] at hp
  have e0 : (b == 0) = false := by simpa using hb
  clear hb
  have Hcl := Lh (Yt _ a b c _ W rfl hp)
  clear hp
  go_enter Tryz.func125, Tryz.ntmps125
  go_wp2_with (refine QU rfl _ _ rfl Tryz.underlying123 Tryz.underlying3 Hmb.out rfl _ rfl Eu ?_; simp only [Kv, Jg, fnV, Option.getD_some, Int.reduceEq, if_false, if_true])
  refine Hcl.out.mono ?_
  rintro e w' ⟨rfl, rfl⟩
  go_wp2_with fail
  refine Hte.out.mono ?_
  rintro e W2 ⟨⟨u, rfl⟩, h2, g2⟩
  have G2 := Lh g2
  have H2 := Lh h2
  clear h2 g2
  go_wp2
  go_end0
  exact ⟨⟨_, rfl⟩, H2.out, G2.out⟩
theorem YQ (L : Lay) (hL : LOk L) (m : Mm) (n : Nat) (i : Int) (W : World) (h : MRx L m W) (hs : LenS L.p.V m.s) (hn : n < m.s.arrs.length) (hb : i < 0 ∨ ((m.s.arr (n : Int)).length : Int) ≤ i) : Calls Tryz.prog 123 #[.pointer (some ⟨L.M, 0, none⟩), .int .i64 (n : Int), .int .i64 i] W fun e W' => e = .returned (.pointer none) ∧ MRx L ⟨m.s.stop 2 0, m.stack⟩ W' ∧ Only L.M W W' := by
 obtain ⟨fs, sv, ev, hfs, hm⟩ := h
 have hst := U5 L hL m 2 0 W ⟨fs, sv, ev, hfs, hm⟩
 obtain ⟨g, hg⟩ : ∃ g, L.ab[n]? = some g := ⟨_, List.getElem?_eq_getElem (by rw [hL.alen, ← hs.alen]; exact hn)⟩
 obtain ⟨ad, t, had, ht, hc⟩ := hL.arrs W hm.core.im n g hg
 have hal := hs.arr_len (n := (n : Int)) (t := t) (by rw [Int.toNat_natCast]; exact ht)
 have hlen : (m.s.arr (n : Int)).length = (Qx t).toNat := by omega
 rw [hlen] at hb
 have hnl : (n : Int) < (L.ab.length : Int) := by have := (List.getElem?_eq_some_iff.1 hg).1; omega
 have c5 := hm.row.cellv (i := 5) (v := .slice L.aa L.ab.length L.acap) rfl
 rw [had] at c5
 have Hst := Lh hst
 clear hst hm hL hs hg ht hal hlen hn hfs had
 by_cases h0 : i < 0
 · clear hb
   go_enter Tryz.func123, Tryz.ntmps123
   go_wp2_with fail
   refine Hst.out.mono ?_
   rintro e W2 ⟨⟨u, rfl⟩, h2, g2⟩
   have G2 := Lh g2
   have H2 := Lh h2
   clear h2 g2
   go_wp2
   go_ret
   exact ⟨rfl, H2.out, G2.out⟩
 · have h0' : 0 ≤ i := by omega
   have hb' : ((Qx t).toNat : Int) ≤ i := by omega
   clear hb h0
   generalize (Qx t).toNat = sz at *
   go_enter Tryz.func123, Tryz.ntmps123
   go_wp2_with fail
   refine Hst.out.mono ?_
   rintro e W2 ⟨⟨u, rfl⟩, h2, g2⟩
   have G2 := Lh g2
   have H2 := Lh h2
   clear h2 g2
   go_wp2
   go_ret
   exact ⟨rfl, H2.out, G2.out⟩
theorem VK (L : Lay) (hL : LOk L) (m : Mm) (n i : Nat) (g : Nat) (W : World) (h : MRx L m W) (hs : LenS L.p.V m.s) (hg : L.ab[n]? = some g) (hb : i < (m.s.arr (n : Int)).length) : Calls Tryz.prog 123 #[.pointer (some ⟨L.M, 0, none⟩), .int .i64 (n : Int), .int .i64 (i : Int)] W fun e W' => e = .returned (.pointer (some ⟨g, i, none⟩)) ∧ W = W' := by
 obtain ⟨fs, sv, ev, hfs, hm⟩ := h
 obtain ⟨ad, t, had, ht, hc⟩ := hL.arrs W hm.core.im n g hg
 have hal := hs.arr_len (n := (n : Int)) (t := t) (by rw [Int.toNat_natCast]; exact ht)
 have hlen : (m.s.arr (n : Int)).length = (Qx t).toNat := by omega
 rw [hlen] at hb
 have hnl : (n : Int) < (L.ab.length : Int) := by have := (List.getElem?_eq_some_iff.1 hg).1; omega
 have c5 := hm.row.cellv (i := 5) (v := .slice L.aa L.ab.length L.acap) rfl
 rw [had] at c5
 clear hm hL hs hg ht hal hlen hfs had
 generalize (Qx t).toNat = sz at *
 have hb' : (i : Int) < (sz : Int) := by omega
 clear hb
 go_enter Tryz.func123, Tryz.ntmps123
 go_wp2
 go_ret
 exact ⟨rfl, rfl⟩
theorem Aau (M : Nat) (v at_ x : Int) (W : World) : Calls Tryz.prog 124 #[.pointer (some ⟨M, 0, none⟩), .pointer none, .int .i64 v, .int .i64 at_, .int .i64 x] W fun e W' => (∃ u, e = .returned u) ∧ W = W' := by
 go_enter Tryz.func124, Tryz.ntmps124
 go_wp2
 go_end0
 exact ⟨⟨_, rfl⟩, rfl⟩
theorem ED : (Tryz.prog.info? 189).map (fun i => (i.zero, i.size, i.bytes)) = some (some (.agg #[.int .i64 0, .int .i64 0, .int .i64 0]), 3, 24) := by kernel_rfl
theorem K5 (e : EvV) : ∀ u ∈ e.cells, u.oneCell' = true := by
 intro u hu
 simp only [EvV.cells, List.mem_cons, List.not_mem_nil, or_false] at hu
 rcases hu with rfl | rfl | rfl <;> rfl
theorem Aar (cur : Array Value) (k : Nat) (u : Value) (hk : k < cur.size) : Zz cur k [u] = cur.setIfInBounds k u := by
 unfold Zz
 apply Array.toList_inj.1
 simp only [List.length_singleton, Array.toList_setIfInBounds]
 rw [List.set_eq_take_append_cons_drop, if_pos (by simpa using hk)]; simp
theorem V7 (L : Lay) (hL : LOk L) (s1 s2 : Ms) (fs : List FrV) (sv ev : Value) (g k : Nat) (cur : Array Value) (v at_ x : Int) (W : World) (hg : Row W g 3 cur) (hk : k < cur.size)
 (hst : ∀ W1, Only g W W1 → Row W1 g 3 (cur.setIfInBounds k (.int .i64 x)) → MR L s1 fs sv ev W1 ∧ Chg L W W1)
 (h1 : s2.vals = s1.vals) (h2 : s2.arrs = s1.arrs) (h3 : s2.steps = s1.steps) (h4 : s2.fuel = s1.fuel) (h5 : s2.evs = s1.evs ++ [⟨v, at_, x⟩]) (h6 : s1.evs.length + fs.length < s1.steps) (h7 : s2.out = s1.out) :
 Calls Tryz.prog 124 #[.pointer (some ⟨L.M, 0, none⟩), .pointer (some ⟨g, k, none⟩), .int .i64 v, .int .i64 at_, .int .i64 x] W fun e W' => (∃ u, e = .returned u) ∧ (∃ sv ev, MR L s2 fs sv ev W') ∧ Chg L W W' := by
 obtain ⟨i0, hi0, hz0, hz1, hz2⟩ := info_parts ED
 have Hst := Lh hst
 have HL := Lh hL
 have Hg := Lh hg
 have Hput := Lh (Aar cur k (.int .i64 x) hk)
 have H1 := Lh h1
 have H2 := Lh h2
 have H3 := Lh h3
 have H4 := Lh h4
 have H5 := Lh h5
 have H7 := Lh h7
 have hF := hL.F
 clear hst hL hg h1 h2 h3 h4 h5 h7
 go_enter Tryz.func124, Tryz.ntmps124
 go_wp2_with (refine Ql _ _ _ rfl ?_)
 refine Stop.to ?_
 refine Qk rfl 3 _ _ rfl g k rfl _ rfl [.int .i64 x] rfl 3 _ _ Hg.out (by kernel_rfl) (by simp; omega) (by simp [Value.oneCell']) Hput.out ?_
 intro W1 r1 o1
 obtain ⟨hm1, g1⟩ := Hst.out W1 o1 r1
 have Hm1 := Lh hm1
 have G1 := Lh g1
 have c11 := hm1.row.cellv (i := 11) (v := ev) rfl
 have hsum := hm1.core.sum
 have hb1 := hm1.core.size
 have hel : s1.evs.length ≤ 20001 := by omega
 have ha := hm1.core.evs.alloc (.cells (EvV.cells ⟨v, at_, x⟩).toArray 189)
 have HA := Lh ha
 clear hm1 g1 r1 o1 ha hsum Hst Hg Hput hk
 go_wp2_with (at_builtin; refine wpList_append_own_at _ rfl (.tmp 20) (.tmp 25) 38 rfl L.b1 189 i0 _ 3 24 Tryz.underlying38 hi0 hz0 hz1 hz2 rfl (by decide) ev s1.evs.length (s1.evs.flatMap EvV.cells) rfl HA.out ⟨W1.heap.size, 0, none⟩ 1 1 (EvV.cells ⟨v, at_, x⟩) rfl rfl (Je _ _ _) (K5 _) (by unfold maxLen; omega) (by omega) (by simp; omega) ?_)
 intro ev' W3 hown hg _ hat
 have b2 : Below W1.heap.size W1 (W1.alloc (.cells (EvV.cells ⟨v, at_, x⟩).toArray 189)) := (Below.refl _ _).alloc (Nat.le_refl _) _
 have hm2 := Hm1.out.below HL.out b2
 have k3 := hm2.core.grownEvs (s' := s2) HL.out hg (by rw [H5.out]; simpa using hown) H1.out H2.out H3.out H4.out (by rw [H5.out, H3.out]; simp; omega)
 have r3 := hm2.row.grown hg (Qu hm2.core.evs hm2.row (by decide))
 have s3 := QM hm2.stack hg (QQ hm2.stack hm2.core.evs (by decide))
 have g3 := (G1.out.trans (Chg.below (L := L) (b2.mono hb1))).trans (.grown hg (by simp; omega) (fun k e => Qz HA.out e))
 have hov := Zk hown
 have K3 := Lh k3
 have R3 := Lh r3
 have S3 := Lh s3
 have G3 := Lh g3
 clear hown hg hat b2 hm2 k3 r3 s3 g3 HA Hm1 G1 c11
 go_wp2_with (refine Ql _ _ _ rfl ?_)
 refine Stop.to ?_
 refine Qk rfl 38 _ _ rfl L.M 11 rfl _ rfl [ev'] (by cases ev' <;> first | rfl | cases hov) 125 _ (L.cells s2 sv ev') R3.out (by kernel_rfl) (by show 11 + 1 ≤ 14; omega) (by simpa using hov) (by unfold Lay.cells; rw [H3.out, H7.out]; rfl) ?_
 intro W4 r4 o4
 have m4 : MR L s2 fs sv ev' W4 := ⟨r4, Qt S3.out o4 (fun e => by have := Qz S3.out e; have := HL.out.lt; omega), K3.out.only HL.out o4⟩
 have M4 := Lh m4
 have G4 := Lh (G3.out.trans (.only o4 (.inr (.inl rfl))))
 clear m4 r4 o4 K3 R3 S3 G3
 go_wp2
 go_end0
 exact ⟨⟨_, rfl⟩, ⟨sv, ev', M4.out⟩, G4.out⟩
structure TopF (L : Lay) (W : World) (M SB o : Nat) (q : Nat) (kid : Nat) (fv : Value) (tag : Int) (kd : Addr) (nk : Nat) (pos : List Nat) : Prop where
 c3 : ∃ ka, L.ka = some ka ∧ W.cell? ⟨L.M, 3, none⟩ = some (.slice (some ka) L.p.body.length L.kcap) ∧ ∃ A cap, W.cell? (ka.add q) = some (.slice A nk cap) ∧ (0 < nk → A = some kd)
 c2 : ∃ bd, W.cell? ⟨L.M, 2, none⟩ = some (.slice (some bd) L.p.body.length L.p.bcap) ∧ W.cell? (bd.add (q * 2)) = some (.int .i64 tag)
 a0 : W.cell? ⟨SB, o, none⟩ = some (.int .i64 (q : Int))
 a1 : W.cell? ⟨SB, o + 1, none⟩ = some (.int .i64 (kid : Int))
 a2 : W.cell? ⟨SB, o + 2, none⟩ = some fv
 ql : (q : Int) < (L.p.body.length : Int)
 kl : (kid : Int) < 1000000
 pl : pos.length = nk
 pc : ∀ (i k : Nat), pos[i]? = some k → W.cell? (kd.add i) = some (.int .i64 (k : Int))
theorem Ago {L : Lay} (hL : LOk L) {s : Ms} {x : FrV} {r : List FrV} {sv ev : Value} {W : World} {SB cap : Nat} {cur : Array Value} (hm : MR L s (x :: r) sv ev W) (ht : Top L W x r sv SB cap cur) (hat : At L.p.body x.f.at_ x.f.t) (hk : x.f.kid < 1000000) :
 ∃ kd, TopF L W L.M SB (r.length * 3) x.f.at_ x.f.kid x.v x.f.t.root.tag kd x.f.t.kids.length (QP (x.f.at_ + 1) x.f.t.kids) := by
 obtain ⟨ka, A, kcap, hka, hkc, hkr⟩ := hL.kids W hm.core.im x.f.at_ x.f.t hat
 obtain ⟨bd, hbd, hcx⟩ := QS (hL.pok W hm.core.im).brd hat.root
 have hc0 := hcx 0 (.int .i64 x.f.t.root.tag) rfl
 rw [show (bd.add (x.f.at_ * 2)).add 0 = bd.add (x.f.at_ * 2) by rw [JG]; simp] at hc0
 have e3 : W.cell? ⟨L.M, 3, none⟩ = some (.slice L.ka L.p.body.length L.kcap) := hm.row.cellv rfl
 have e2 : W.cell? ⟨L.M, 2, none⟩ = some (.slice L.p.ba L.p.body.length L.p.bcap) := hm.row.cellv rfl
 rw [hka] at e3
 rw [hbd] at e2
 have hlen : (QP (x.f.at_ + 1) x.f.t.kids).length = x.f.t.kids.length := ZY _ _
 refine ⟨A.getD ⟨0, 0, none⟩, ⟨ka, hka, e3, A, kcap, hkc, fun h0 => ?_⟩, ⟨bd, e2, hc0⟩, by have := ht.cell 0 _ rfl; simpa using this, ht.cell 1 _ rfl, ht.cell 2 _ rfl, by have := hat.lt; omega, by omega, hlen, fun i k hik => ?_⟩
 · obtain ⟨k, hk0⟩ : ∃ k, (QP (x.f.at_ + 1) x.f.t.kids)[0]? = some k := ⟨_, List.getElem?_eq_getElem (by omega)⟩
   obtain ⟨ad, had, _⟩ := QR (l := Jv (QP (x.f.at_ + 1) x.f.t.kids)) hkr (k := 0) (x := (k : Int)) (by simp [Jv, hk0])
   rw [had]; rfl
 · obtain ⟨ad, had, hc⟩ := QR (l := Jv (QP (x.f.at_ + 1) x.f.t.kids)) hkr (k := i) (x := (k : Int)) (by simp [Jv, hik])
   rw [had]; exact hc
theorem Abp (L : Lay) (SB o q kid : Nat) (fv : Value) (tag : Int) (kd : Addr) (nk : Nat) (pos : List Nat) (k : Nat) (W : World) (h : TopF L W L.M SB o q kid fv tag kd nk pos) (hkid : kid < nk) (hk : pos[kid]? = some k)
 (h1 : ¬ (tag = 23 ∧ 1 ≤ kid)) (h2 : kid = 1 → KL tag → ∃ vd n cap v, fv = .slice (some vd) (n + 1) cap ∧ W.cell? vd = some (.int .i64 v) ∧ ¬ Yd tag v) :
 Calls Tryz.prog 61 #[.pointer (some ⟨L.M, 0, none⟩), .pointer (some ⟨SB, o, none⟩)] W fun e W' => ∃ n, e = .returned (.tuple #[.int .i64 (k : Int), .bool true]) ∧ W' = W.drewN n := by
 obtain ⟨⟨ka, hka, c3, A, kcap, ck, hA⟩, ⟨bd, c2, ct⟩, a0, a1, a2, ql, kl, pl, pc⟩ := h
 obtain rfl := hA (by omega)
 have ck2 := pc kid k hk
 have hkI : (kid : Int) < (nk : Int) := by omega
 clear pc hk hka pl hA
 by_cases hk1 : kid = 1
 · by_cases hasks : KL tag
   · obtain ⟨vd, n, cap, v, rfl, cv, hs⟩ := h2 hk1 hasks
     have hcases : (tag = 18 ∧ v ≠ 0) ∨ (tag = 19 ∧ v ≠ 1) ∨ (tag = 24 ∧ v ≠ 0) := by unfold KL at hasks; unfold Yd at hs; omega
     have ek1 : ((kid : Int) == 1) = true := by simp; omega
     clear h1 h2 hasks hs hkid hk1
     rcases hcases with ⟨rfl, hv⟩ | ⟨rfl, hv⟩ | ⟨rfl, hv⟩
     · have ev : (v == 0) = false := by simpa using hv
       clear hv
       go_enter Tryz.func61, Tryz.ntmps61
       go_wp2_with fail
       go_quiet (fail)
       go_wp2_with fail
       go_quiet (fail)
       go_wp2
       go_ret2
       exact ⟨_, rfl, rfl⟩
     · have ev : (v == 1) = false := by simpa using hv
       clear hv
       go_enter Tryz.func61, Tryz.ntmps61
       go_wp2_with fail
       go_quiet (fail)
       go_wp2_with fail
       go_quiet (fail)
       go_wp2
       go_ret2
       exact ⟨_, rfl, rfl⟩
     · have ev : (v == 0) = false := by simpa using hv
       clear hv
       go_enter Tryz.func61, Tryz.ntmps61
       go_wp2_with fail
       go_quiet (fail)
       go_wp2_with fail
       go_quiet (fail)
       go_wp2
       go_ret2
       exact ⟨_, rfl, rfl⟩
   · have hne : tag ≠ 18 ∧ tag ≠ 19 ∧ tag ≠ 24 ∧ tag ≠ 23 := by unfold KL at hasks; omega
     have e18 : (tag == 18) = false := by simpa using hne.1
     have e19 : (tag == 19) = false := by simpa using hne.2.1
     have e24 : (tag == 24) = false := by simpa using hne.2.2.1
     have e23 : (tag == 23) = false := by simpa using hne.2.2.2
     have ek1 : ((kid : Int) == 1) = true := by simp; omega
     clear h1 h2 hasks hne hkid hk1
     go_enter Tryz.func61, Tryz.ntmps61
     go_wp2_with fail
     go_quiet (fail)
     go_wp2_with fail
     go_quiet (fail)
     go_wp2
     go_ret2
     exact ⟨_, rfl, rfl⟩
 · have ek1 : ((kid : Int) == 1) = false := by simp; omega
   by_cases h23 : tag = 23
   · have eg : decide ((1 : Int) < (kid : Int)) = false := by simp; omega
     have eg' : ¬ ((1 : Int) < (kid : Int)) := by omega
     subst h23
     clear h1 h2 hk1 hkid
     go_enter Tryz.func61, Tryz.ntmps61
     go_wp2_with fail
     go_quiet (fail)
     go_wp2_with fail
     go_quiet (fail)
     go_wp2
     go_ret2
     exact ⟨_, rfl, rfl⟩
   · have e23 : (tag == 23) = false := by simpa using h23
     clear h1 h2 hk1 h23 hkid
     go_enter Tryz.func61, Tryz.ntmps61
     go_wp2_with fail
     go_quiet (fail)
     go_wp2_with fail
     go_quiet (fail)
     go_wp2
     go_ret2
     exact ⟨_, rfl, rfl⟩
theorem AaD (L : Lay) (SB o q kid : Nat) (fv : Value) (tag : Int) (kd : Addr) (nk : Nat) (pos : List Nat) (i k : Nat) (v : Int) (vd : Addr) (n cap : Nat) (W : World) (h : TopF L W L.M SB o q kid fv tag kd nk pos) (hk : pos[i]? = some k)
 (ht : tag = 23) (h1 : kid = 1) (hf : fv = .slice (some vd) (n + 1) cap) (cv : W.cell? vd = some (.int .i64 v)) (hv : v = 0 ∨ v = 1) (hi : (i : Int) = 2 - v) :
 Calls Tryz.prog 61 #[.pointer (some ⟨L.M, 0, none⟩), .pointer (some ⟨SB, o, none⟩)] W fun e W' => ∃ n, e = .returned (.tuple #[.int .i64 (k : Int), .bool true]) ∧ W' = W.drewN n := by
 subst ht hf
 obtain ⟨⟨ka, hka, c3, A, kcap, ck, hA⟩, ⟨bd, c2, ct⟩, a0, a1, a2, ql, kl, pl, pc⟩ := h
 have hil : i < nk := by have := (List.getElem?_eq_some_iff.1 hk).1; omega
 obtain rfl := hA (by omega)
 have ck2 := pc i k hk
 have hkI : (i : Int) < (nk : Int) := by omega
 have ek1 : ((kid : Int) == 1) = true := by simp; omega
 have eg : decide ((1 : Int) < (kid : Int)) = false := by simp; omega
 clear pc hk hka pl hA h1 hil
 rcases hv with rfl | rfl
 · obtain rfl : i = 2 := by omega
   replace ck2 : W.cell? ⟨kd.block, kd.off + 2, none⟩ = some (.int .i64 (k : Int)) := ck2
   clear hi
   go_enter Tryz.func61, Tryz.ntmps61
   go_wp2_with fail
   go_quiet (fail)
   go_wp2_with fail
   go_quiet (fail)
   go_wp2
   go_ret2
   exact ⟨_, rfl, rfl⟩
 · obtain rfl : i = 1 := by omega
   replace ck2 : W.cell? ⟨kd.block, kd.off + 1, none⟩ = some (.int .i64 (k : Int)) := ck2
   clear hi
   go_enter Tryz.func61, Tryz.ntmps61
   go_wp2_with fail
   go_quiet (fail)
   go_wp2_with fail
   go_quiet (fail)
   go_wp2
   go_ret2
   exact ⟨_, rfl, rfl⟩
theorem Aac (L : Lay) (SB o q kid : Nat) (fv : Value) (tag : Int) (kd : Addr) (nk : Nat) (pos : List Nat) (W : World) (h : TopF L W L.M SB o q kid fv tag kd nk pos)
 (h0 : (kid = 1 ∧ ∃ vd n cap v, fv = .slice (some vd) (n + 1) cap ∧ W.cell? vd = some (.int .i64 v) ∧ Yd tag v) ∨ (¬ (kid = 1 ∧ KL tag) ∧ ((tag = 23 ∧ 1 < kid) ∨ (tag ≠ 23 ∧ nk ≤ kid)))) :
 Calls Tryz.prog 61 #[.pointer (some ⟨L.M, 0, none⟩), .pointer (some ⟨SB, o, none⟩)] W fun e W' => ∃ n, e = .returned (.tuple #[.int .i64 0, .bool false]) ∧ W' = W.drewN n := by
 obtain ⟨⟨ka, hka, c3, A, kcap, ck, hA⟩, ⟨bd, c2, ct⟩, a0, a1, a2, ql, kl, pl, pc⟩ := h
 clear pc hka pl hA
 rcases h0 with ⟨hk1, vd, n, cap, v, rfl, cv, hs⟩ | ⟨hn, h0⟩
 · have ek1 : ((kid : Int) == 1) = true := by simp; omega
   have hcases : (tag = 18 ∧ v = 0) ∨ (tag = 19 ∧ v = 1) ∨ (tag = 24 ∧ v = 0) := by unfold Yd at hs; omega
   clear hs hk1
   rcases hcases with ⟨rfl, rfl⟩ | ⟨rfl, rfl⟩ | ⟨rfl, rfl⟩
   · go_enter Tryz.func61, Tryz.ntmps61
     go_wp2_with fail
     go_quiet (fail)
     go_wp2_with fail
     go_quiet (fail)
     go_wp2
     go_ret2
     exact ⟨_, rfl, rfl⟩
   · go_enter Tryz.func61, Tryz.ntmps61
     go_wp2_with fail
     go_quiet (fail)
     go_wp2_with fail
     go_quiet (fail)
     go_wp2
     go_ret2
     exact ⟨_, rfl, rfl⟩
   · go_enter Tryz.func61, Tryz.ntmps61
     go_wp2_with fail
     go_quiet (fail)
     go_wp2_with fail
     go_quiet (fail)
     go_wp2
     go_ret2
     exact ⟨_, rfl, rfl⟩
 · rcases h0 with ⟨rfl, hg⟩ | ⟨h23, hg⟩
   · have ek1 : ((kid : Int) == 1) = false := by simp; omega
     have eg : decide ((1 : Int) < (kid : Int)) = true := by simp; omega
     have eg' : ((1 : Int) < (kid : Int)) := by omega
     clear hn
     go_enter Tryz.func61, Tryz.ntmps61
     go_wp2_with fail
     go_quiet (fail)
     go_wp2_with fail
     go_quiet (fail)
     go_wp2
     go_ret2
     exact ⟨_, rfl, rfl⟩
   · have e23 : (tag == 23) = false := by simpa using h23
     have el : decide ((kid : Int) < (nk : Int)) = false := by simp; omega
     by_cases hk1 : kid = 1
     · have hne : tag ≠ 18 ∧ tag ≠ 19 ∧ tag ≠ 24 := by unfold KL at hn; omega
       have e18 : (tag == 18) = false := by simpa using hne.1
       have e19 : (tag == 19) = false := by simpa using hne.2.1
       have e24 : (tag == 24) = false := by simpa using hne.2.2
       have ek1 : ((kid : Int) == 1) = true := by simp; omega
       clear hn hne hg hk1 h23
       generalize (kid : Int) = kI at a1 kl ek1 el
       have el2 : (kI < (nk : Int)) = False := by simpa using el
       clear el
       go_enter Tryz.func61, Tryz.ntmps61
       go_wp2_with fail
       go_quiet (fail)
       go_wp2_with fail
       go_quiet (fail)
       go_wp2
       go_ret2
       exact ⟨_, rfl, rfl⟩
     · have ek1 : ((kid : Int) == 1) = false := by simp; omega
       clear hn hg hk1 h23
       generalize (kid : Int) = kI at a1 kl ek1 el
       have el2 : (kI < (nk : Int)) = False := by simpa using el
       clear el
       go_enter Tryz.func61, Tryz.ntmps61
       go_wp2_with fail
       go_quiet (fail)
       go_wp2_with fail
       go_quiet (fail)
       go_wp2
       go_ret2
       exact ⟨_, rfl, rfl⟩
theorem VQ {P : Program} {ops : Array Oper} {S : World → Prop} {a : Act} {o : Oper} (hw : Region.wanted o (yielded ops a.tmps) = true) (ty : TypeId) (x : Operand) (ho : o.op = .load ty x) (ad : Addr) (hx : a.eval x = .pointer (some ad)) (cs : List Value) (d : TypeDesc)
 (hr : ∀ W, S W → ∀ (j : Nat) (v : Value), cs[j]? = some v → W.cell? (ad.add j) = some v) (hu : P.underlying ty = some d) (hd : (match d with | .struct _ | .array _ _ => true | _ => false) = true) (hi : (P.info? ty).map (·.size) = some cs.length) : YieldsIf P ops S o (.agg cs.toArray) a :=
 Qd hw (fun W hW => by simp only [execOp, ho, hx, Instr.loadAt, Instr.sureAddr, Sem.run_bind, Sem.run_pure, Result.andThen_ok, Z9 W ad ty cs d (hr W hW) hu hd hi])
section
variable {L : Lay} {s : Ms} {x : FrV} {rs : List FrV} {sv ev : Value} {W W' : World} {SB cap : Nat} {cur : Array Value}
theorem MC.drop (h : MC L s (x :: rs) ev W) : MC L s rs ev W :=
 ⟨h.evs, h.vals, h.arrs, fun y hy => h.fr y (List.mem_cons_of_mem _ hy), (List.pairwise_cons.1 h.dist).2, h.im, h.size, h.sum, by have := h.few; simp at this; omega⟩
theorem MR.pop (h : MR L s (x :: rs) sv ev W) (hL : LOk L) (ht : Top L W x rs sv SB cap cur) (o : Only L.M W W') (hr : Row W' L.M 125 (L.cells s (.slice (some ⟨SB, 0, none⟩) rs.length cap) ev)) : MR L s rs (.slice (some ⟨SB, 0, none⟩) rs.length cap) ev W' :=
 ⟨hr, Qt ht.pop o (fun e => by have := Qz ht.pop e; have := hL.lt; omega), (h.core.only hL o).drop⟩
theorem MR.drew1 (h : MR L s rs sv ev W) (hL : LOk L) : MR L s rs sv ev W.drew := h.below hL ⟨rfl, rfl, rfl, Nat.le_refl _, fun _ _ => rfl⟩
theorem Top.drew1 (h : Top L W x rs sv SB cap cur) : Top L W.drew x rs sv SB cap cur := h.below ⟨rfl, rfl, rfl, Nat.le_refl _, fun _ _ => rfl⟩
theorem Chg.drew1 (h : Chg L W W') : Chg L W W'.drew := h.trans ⟨rfl, rfl, rfl, Nat.le_refl _, fun _ _ _ _ _ => rfl⟩
theorem MR.few1 (h : MR L s (x :: rs) sv ev W) : s.evs.length + rs.length < s.steps := by have := h.core.few; simp at this; omega
theorem MR.setVal (h : MR L s rs sv ev W) (hL : LOk L) (n : Nat) (v : Int) (hn : n < s.vals.length) : ∃ g cap cur, L.vv = .slice (some ⟨g, 0, none⟩) s.vals.length cap ∧ Row W g 3 cur ∧ n < cur.size ∧ ∀ W1, Only g W W1 → Row W1 g 3 (cur.setIfInBounds n (.int .i64 v)) → MR L { s with vals := s.vals.set n v } rs sv ev W1 ∧ Chg L W W1 := by
 rcases h.core.vals.2 with ⟨_, h0⟩ | ⟨g, cap, cur, hv, hb, hh, hc, hm, hsz, ht⟩
 · have := h.core.vals.1; rw [h0] at this; simp [Qg] at this; omega
 · have hgb : L.vv.ownBlock = some g := by rw [hv]; rfl
   refine ⟨g, cap, cur, hv, hh, by omega, fun W1 o r1 => ?_⟩
   have hlt := hL.vlt g hgb
   have ne : ∀ {e : TypeId} {size m : Nat} {u : Value} {xs : List Value}, W.ownsRow L.b1 e size u m xs → W1.ownsRow L.b1 e size u m xs := fun h' => Qt h' o (fun e => by have := Qz h' e; omega)
   refine ⟨⟨h.row.only o (fun e => hlt.2.1 e.symm), ne h.stack, ⟨ne h.core.evs, ⟨by have := h.core.vals.1; simp [Qg] at this ⊢, .inr ⟨g, cap, _, by simpa using hv, hb, r1, by simpa using hc, hm, by simpa using hsz, ?_⟩⟩, ?_, fun y hy => ne (h.core.fr y hy), h.core.dist, hL.im _ _ h.core.im (.only o (.inr (.inr (.inl hgb)))), by rw [o.size]; exact h.core.size, h.core.sum, h.core.few⟩⟩, .only o (.inr (.inr (.inl hgb)))⟩
   · simp only [Array.toList_setIfInBounds, List.length_set]
     rw [List.take_set, ht]
     simp [Qg, List.map_set]
   · intro i g' a hi ha
     exact (h.core.arrs i g' a hi ha).only o (fun e => hlt.2.2 (by subst e; exact List.mem_of_getElem? hi))
theorem MR.setArr (h : MR L s rs sv ev W) (hL : LOk L) (n i : Nat) (v : Int) (a : List Int) (g : Nat) (hg : L.ab[n]? = some g) (ha : s.arrs[n]? = some a) : Row W g 3 (Qg a).toArray ∧ ∀ W1, Only g W W1 → Row W1 g 3 ((Qg a).toArray.setIfInBounds i (.int .i64 v)) → MR L { s with arrs := s.arrs.set n (a.set i v) } rs sv ev W1 ∧ Chg L W W1 := by
 refine ⟨h.core.arrs n g a hg ha, fun W1 o r1 => ?_⟩
 have hm := List.mem_of_getElem? hg
 have hlt := hL.alt g hm
 have ne : ∀ {e : TypeId} {size m : Nat} {u : Value} {xs : List Value}, W.ownsRow L.b1 e size u m xs → W1.ownsRow L.b1 e size u m xs := fun h' => Qt h' o (fun e => by have := Qz h' e; omega)
 refine ⟨⟨h.row.only o (fun e => hlt.2 e.symm), ne h.stack, ⟨ne h.core.evs, Qt h.core.vals o (fun e => (hL.vlt g e).2.2 hm), ?_, fun y hy => ne (h.core.fr y hy), h.core.dist, hL.im _ _ h.core.im (.only o (.inr (.inr (.inr hm)))), by rw [o.size]; exact h.core.size, h.core.sum, h.core.few⟩⟩, .only o (.inr (.inr (.inr hm)))⟩
 intro j g' b hj hb
 by_cases hjn : j = n
 · subst hjn
   rw [hg] at hj; cases hj
   have hjl : j < s.arrs.length := (List.getElem?_eq_some_iff.1 ha).1
   simp only [List.getElem?_set_self hjl, Option.some.injEq] at hb
   subst hb
   have : (Qg (a.set i v)).toArray = (Qg a).toArray.setIfInBounds i (.int .i64 v) := by simp [Qg, List.map_set]
   rw [this]; exact r1
 · have hb' : s.arrs[j]? = some b := by simpa [List.getElem?_set, Ne.symm hjn] using hb
   refine (h.core.arrs j g' b hj hb').only o (fun e => hjn ?_)
   subst e
   have h1 := List.getElem?_eq_some_iff.1 hg
   have h2 := List.getElem?_eq_some_iff.1 hj
   obtain ⟨l1, e1⟩ := h1
   obtain ⟨l2, e2⟩ := h2
   rcases Nat.lt_trichotomy j n with hl | hl | hl
   · exact absurd (e2.trans e1.symm) (List.pairwise_iff_getElem.1 hL.and j n l2 l1 hl)
   · exact hl
   · exact absurd (e1.trans e2.symm) (List.pairwise_iff_getElem.1 hL.and n j l1 l2 hl)
end
end Go.Proofs.YtdcmppdhdcjpfaaGreat
