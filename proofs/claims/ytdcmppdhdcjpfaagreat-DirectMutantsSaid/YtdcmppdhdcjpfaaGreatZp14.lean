/- Lemmas for DirectMutantsP. -/
import Derived.Test.YtdcmppdhdcjpfaaGreatZp1
import Derived.Test.YtdcmppdhdcjpfaaGreatZp9
import Derived.WalkLawsBesides
set_option linter.unusedVariables false
set_option linter.unusedSimpArgs false
set_option maxRecDepth 100000
set_option maxHeartbeats 16000000
namespace Go.Proofs.YtdcmppdhdcjpfaaGreat
open Go.RowKit Go.Deep
def AaZ (k v : Int) : Value := .iface 181 (.agg #[.int .i64 k, .int .i64 v])
def QV (k v : Int) : Ending := .panicked [{ v := AaZ k v, recovered := false }]
def Js (t : Int) (g : Nat) : Value := if Qx t = 0 then .iface 115 (.agg #[.pointer (some ⟨g, 0, none⟩)]) else .iface 109 (.slice (some ⟨g, 0, none⟩) (Qx t).toNat (Qx t).toNat)
def Ms.cont (s : Ms) (i : Nat) (t : Int) : List Int := if Qx t = 0 then [(s.vals[i]?).getD 0] else (s.arrs[i]?).getD []
def Lay.dcells (L : Lay) (s : Ms) (ev : Value) : Array Value :=
 #[.slice L.p.ba L.p.body.length L.p.bcap, .slice L.aa L.ab.length L.acap, .int .i64 (L.F : Int), .int .i64 0, .int .i64 0, .int .i64 (s.steps : Int), ev]
structure DR (L : Lay) (s : Ms) (ev : Value) (W : World) : Prop where
 row : Row W L.M 108 (L.dcells s ev)
 evs : W.ownsRow L.b1 189 3 ev s.evs.length (s.evs.flatMap EvV.cells)
 rows : ∀ (i g : Nat) (t : Int), L.ab[i]? = some g → L.p.V[i]? = some t → Row W g 3 (Qg (s.cont i t)).toArray
 im : L.Im W
 size : L.b1 ≤ W.heap.size
 sum : s.steps + s.fuel = L.F
 few : s.evs.length ≤ s.steps
structure DOk (L : Lay) : Prop extends LOk0 L where
 pok : ∀ W, L.Im W → L.p.ok W
 cells : ∀ W, L.Im W → ∀ (i g : Nat) (t : Int), L.ab[i]? = some g → L.p.V[i]? = some t → ∃ ad : Addr, L.aa = some ad ∧ W.cell? (ad.add i) = some (Js t g)
 alen : L.ab.length = L.p.V.length
 vv : L.vv = .slice none 0 0
instance {L : Lay} : Coe (DOk L) (LOk0 L) := ⟨DOk.toLOk0⟩
section
variable {L : Lay} {s s' : Ms} {ev : Value} {W W' : World}
theorem DR.below (h : DR L s ev W) (hL : LOk0 L) (b : Below W.heap.size W W') : DR L s ev W' :=
 ⟨h.row.below b h.row.lt, QN h.evs b, fun i g t h1 h2 => (h.rows i g t h1 h2).below b (h.rows i g t h1 h2).lt, hL.im _ _ h.im (.below (b.mono h.size)), Nat.le_trans h.size b.size, h.sum, h.few⟩
theorem DR.drew (h : DR L s ev W) (hL : LOk0 L) (n : Nat) : DR L s ev (W.drewN n) := h.below hL ⟨rfl, rfl, rfl, Nat.le_refl _, fun _ _ => rfl⟩
theorem DR.setM (h : DR L s ev W) (hL : LOk0 L) (o : Only L.M W W') (hr : Row W' L.M 108 (L.dcells s' ev)) (h1 : s'.vals = s.vals) (h2 : s'.arrs = s.arrs) (h3 : s'.evs = s.evs) (h4 : s'.steps + s'.fuel = L.F) (h5 : s.steps ≤ s'.steps) : DR L s' ev W' :=
 ⟨hr, by rw [h3]; exact Qt h.evs o (fun e => by have := Qz h.evs e; have := hL.lt; omega), fun i g t a b => by have := (h.rows i g t a b).only o (hL.alt g (List.mem_of_getElem? a)).2; unfold Ms.cont at this ⊢; rw [h1, h2]; exact this,
  hL.im _ _ h.im (.only o (.inr (.inl rfl))), by rw [o.size]; exact h.size, h4, by rw [h3]; have := h.few; omega⟩
theorem DR.far_new (h : DR L s ev W) {g : Nat} {W' : World} (hg : W.heap.size ≤ g) (hlt : g < W'.heap.size) : Far L ev W' g :=
 ⟨Nat.le_trans h.size hg, fun e => by have := h.evs.lt _ e; omega, hlt⟩
theorem DR.setB (h : DR L s ev W) (hL : LOk0 L) {n g : Nat} {t : Int} (hg : L.ab[n]? = some g) (ht : L.p.V[n]? = some t) (o : Only g W W') (hr : Row W' g 3 (Qg (s'.cont n t)).toArray)
 (hv : ∀ i, i ≠ n → s'.vals[i]? = s.vals[i]? ∧ s'.arrs[i]? = s.arrs[i]?) (h3 : s'.evs = s.evs) (h4 : s'.steps = s.steps) (h5 : s'.fuel = s.fuel) : DR L s' ev W' := by
 have hm := List.mem_of_getElem? hg
 have hlt := hL.alt g hm
 refine ⟨?_, by rw [h3]; exact Qt h.evs o (fun e => by have := Qz h.evs e; omega), fun i g' t' hi ht' => ?_, hL.im _ _ h.im (.only o (.inr (.inr (.inr hm)))), by rw [o.size]; exact h.size, by rw [h4, h5]; exact h.sum, by rw [h3, h4]; exact h.few⟩
 · have := h.row.only o (fun e => hlt.2 e.symm)
   unfold Lay.dcells at this ⊢
   rw [h4]; exact this
 · by_cases hin : i = n
   · subst hin
     rw [hg] at hi; rw [ht] at ht'
     cases hi; cases ht'
     exact hr
   · have hgg : g' ≠ g := by
      intro e
      subst e
      obtain ⟨l1, e1⟩ := List.getElem?_eq_some_iff.1 hg
      obtain ⟨l2, e2⟩ := List.getElem?_eq_some_iff.1 hi
      rcases Nat.lt_trichotomy i n with hl | hl | hl
      · exact absurd (e2.trans e1.symm) (List.pairwise_iff_getElem.1 hL.and i n l2 l1 hl)
      · exact hin hl
      · exact absurd (e1.trans e2.symm) (List.pairwise_iff_getElem.1 hL.and n i l1 l2 hl)
     have := (h.rows i g' t' hi ht').only o hgg
     unfold Ms.cont at this ⊢
     rw [(hv i hin).1, (hv i hin).2]; exact this
theorem RChg.onlyB {g : Nat} (o : Only g W W') (hg : g ∈ L.ab) : RChg L ev W ev W' := RChg.only o (.inr (.inr hg))
end
theorem XE (k v : Int) (w : World) : Calls Tryz.prog 187 #[.int .i64 k, .int .i64 v] w fun e w' => e = QV k v ∧ w = w' := by
 go_enter Tryz.func187, Tryz.ntmps187
 go_wp2
 exact ⟨rfl, rfl, rfl⟩
theorem KO (b : Bool) (w : World) : Calls Tryz.prog 189 #[.bool b] w fun e w' => e = .returned (.int .i64 (tr b)) ∧ w = w' := by
 cases b
 all_goals
  go_enter Tryz.func189, Tryz.ntmps189
  go_wp2
  go_ret
  exact ⟨rfl, rfl⟩
theorem Adw (tag a b c : Int) (w : World) (ht : 7 ≤ tag ∧ tag ≤ 17) (hp : Za tag a b = some c) : Calls Tryz.prog 192 #[.int .i64 tag, .int .i64 a, .int .i64 b] w fun e w' => e = .returned (.int .i64 c) ∧ w = w' := by
 have key : tag = 7 ∨ tag = 8 ∨ tag = 9 ∨ tag = 12 ∨ tag = 13 ∨ tag = 14 ∨ tag = 15 ∨ tag = 16 ∨ tag = 17 ∨ tag = 10 ∨ tag = 11 := by omega
 clear ht
 rcases key with rfl | rfl | rfl | rfl | rfl | rfl | rfl | rfl | rfl | rfl | rfl
 · have hc : wrap64 (a + b) = c := by simpa [Za] using hp
   subst hc; clear hp
   go_enter Tryz.func192, Tryz.ntmps192
   go_wp2
   go_ret
   exact ⟨QD (by first | rfl | simp), rfl⟩
 · have hc : wrap64 (a - b) = c := by simpa [Za] using hp
   subst hc; clear hp
   go_enter Tryz.func192, Tryz.ntmps192
   go_wp2
   go_ret
   exact ⟨QD (by first | rfl | simp), rfl⟩
 · have hc : wrap64 (a * b) = c := by simpa [Za] using hp
   subst hc; clear hp
   go_enter Tryz.func192, Tryz.ntmps192
   go_wp2
   go_ret
   exact ⟨QD (by first | rfl | simp), rfl⟩
 · have hc : tr (decide (a = b)) = c := by simpa [Za] using hp
   clear hp
   go_enter Tryz.func192, Tryz.ntmps192
   go_wp2_with fail
   refine (KO _ _).mono ?_
   rintro e w' ⟨rfl, rfl⟩
   go_wp2
   go_ret
   exact ⟨QD (by rw [← hc]; all_goals (first | (congr 1; done) | (congr 1; rw [Bool.eq_iff_iff]; simp))), rfl⟩
 · have hc : tr (decide (a ≠ b)) = c := by simpa [Za] using hp
   clear hp
   go_enter Tryz.func192, Tryz.ntmps192
   go_wp2_with fail
   refine (KO _ _).mono ?_
   rintro e w' ⟨rfl, rfl⟩
   go_wp2
   go_ret
   exact ⟨QD (by rw [← hc]; all_goals (first | (congr 1; done) | (congr 1; rw [Bool.eq_iff_iff]; simp))), rfl⟩
 · have hc : tr (decide (a < b)) = c := by simpa [Za] using hp
   clear hp
   go_enter Tryz.func192, Tryz.ntmps192
   go_wp2_with fail
   refine (KO _ _).mono ?_
   rintro e w' ⟨rfl, rfl⟩
   go_wp2
   go_ret
   exact ⟨QD (by rw [← hc]; all_goals (first | (congr 1; done) | (congr 1; rw [Bool.eq_iff_iff]; simp))), rfl⟩
 · have hc : tr (decide (a ≤ b)) = c := by simpa [Za] using hp
   clear hp
   go_enter Tryz.func192, Tryz.ntmps192
   go_wp2_with fail
   refine (KO _ _).mono ?_
   rintro e w' ⟨rfl, rfl⟩
   go_wp2
   go_ret
   exact ⟨QD (by rw [← hc]; all_goals (first | (congr 1; done) | (congr 1; rw [Bool.eq_iff_iff]; simp))), rfl⟩
 · have hc : tr (decide (b < a)) = c := by simpa [Za] using hp
   clear hp
   go_enter Tryz.func192, Tryz.ntmps192
   go_wp2_with fail
   refine (KO _ _).mono ?_
   rintro e w' ⟨rfl, rfl⟩
   go_wp2
   go_ret
   exact ⟨QD (by rw [← hc]; all_goals (first | (congr 1; done) | (congr 1; rw [Bool.eq_iff_iff]; simp))), rfl⟩
 · have hc : tr (decide (b ≤ a)) = c := by simpa [Za] using hp
   clear hp
   go_enter Tryz.func192, Tryz.ntmps192
   go_wp2_with fail
   refine (KO _ _).mono ?_
   rintro e w' ⟨rfl, rfl⟩
   go_wp2
   go_ret
   exact ⟨QD (by rw [← hc]; all_goals (first | (congr 1; done) | (congr 1; rw [Bool.eq_iff_iff]; simp))), rfl⟩
 · by_cases h0 : b = 0
   · simp [Za, h0] at hp
   have hc : wrap64 (a.tdiv b) = c := by simpa [Za, h0] using hp
   subst hc; clear hp
   go_enter Tryz.func192, Tryz.ntmps192
   go_wp2
   go_ret
   exact ⟨QD (by first | rfl | simp), rfl⟩
 · by_cases h0 : b = 0
   · simp [Za, h0] at hp
   have hc : a.tmod b = c := by simpa [Za, h0] using hp
   subst hc; clear hp
   go_enter Tryz.func192, Tryz.ntmps192
   go_wp2
   go_ret
   exact ⟨QD (by first | rfl | simp), rfl⟩
theorem Abs (tag a b : Int) (w : World) (hp : Za tag a b = none) : Calls Tryz.prog 192 #[.int .i64 tag, .int .i64 a, .int .i64 b] w fun e w' => e = QV 1 0 ∧ w = w' := by
 have hb : b = 0 ∧ (tag = 10 ∨ tag = 11) := by
  unfold Za at hp
  repeat' split at hp
  all_goals (first | (cases hp; done) | (refine ⟨?_, ?_⟩ <;> first | assumption | omega))
 obtain ⟨rfl, ht⟩ := hb
 clear hp
 rcases ht with rfl | rfl
 all_goals
  go_enter Tryz.func192, Tryz.ntmps192
  go_wp2_with fail
  refine (XE _ _ _).mono ?_
  rintro e w' ⟨rfl, rfl⟩
  simp only [QV]
  go_wp2
  exact ⟨rfl, rfl, rfl⟩
theorem K6 (A : Option Addr) (n c : Nat) (i : Int) (w : World) : Calls Tryz.prog 342 #[.slice A n c, .int .i64 i] w fun e w' => e = .returned (.bool (decide (0 ≤ i ∧ i < (n : Int)))) ∧ w = w' := by
 by_cases h0 : 0 ≤ i
 · by_cases h1 : i < (n : Int)
   · go_enter Tryz.func342, Tryz.ntmps342
     go_wp2
     go_ret
     exact ⟨KS (by simp; omega), rfl⟩
   · go_enter Tryz.func342, Tryz.ntmps342
     go_wp2
     go_ret
     exact ⟨KS (by simp; omega), rfl⟩
 · go_enter Tryz.func342, Tryz.ntmps342
   go_wp2
   go_ret
   exact ⟨KS (by simp; omega), rfl⟩
theorem Acx (A : Addr) (n c i : Nat) (v : Int) (w : World) (hi : i < n) (hc : w.cell? (A.add i) = some (.int .i64 v)) : Calls Tryz.prog 341 #[.slice (some A) n c, .int .i64 (i : Int)] w fun e w' => e = .returned (.tuple #[.int .i64 v, .bool true]) ∧ w = w' := by
 have hd : decide (0 ≤ (i : Int) ∧ (i : Int) < (n : Int)) = true := by simp; omega
 have hi' : (i : Int) < (n : Int) := by omega
 go_enter Tryz.func341, Tryz.ntmps341
 go_wp2_with fail
 refine (K6 (some A) n c (i : Int) w).mono ?_
 rintro e w' ⟨rfl, rfl⟩
 rw [hd]
 clear hd hi
 go_wp2
 go_ret2
 exact ⟨rfl, rfl⟩
theorem Adh (A : Option Addr) (n c : Nat) (i : Int) (w : World) (hi : i < 0 ∨ (n : Int) ≤ i) : Calls Tryz.prog 341 #[.slice A n c, .int .i64 i] w fun e w' => e = .returned (.tuple #[.int .i64 0, .bool false]) ∧ w = w' := by
 have hd : decide (0 ≤ i ∧ i < (n : Int)) = false := by simp; omega
 go_enter Tryz.func341, Tryz.ntmps341
 go_wp2_with fail
 refine (K6 A n c i w).mono ?_
 rintro e w' ⟨rfl, rfl⟩
 rw [hd]
 clear hd hi
 go_wp2
 go_ret2
 exact ⟨rfl, rfl⟩
theorem AcU (A : Option Addr) (n c : Nat) (i v : Int) (w : World) (hi : i < 0 ∨ (n : Int) ≤ i) : Calls Tryz.prog 343 #[.slice A n c, .int .i64 i, .int .i64 v] w fun e w' => e = .returned (.bool false) ∧ w = w' := by
 have hd : decide (0 ≤ i ∧ i < (n : Int)) = false := by simp; omega
 go_enter Tryz.func343, Tryz.ntmps343
 go_wp2_with fail
 refine (K6 A n c i w).mono ?_
 rintro e w' ⟨rfl, rfl⟩
 rw [hd]
 clear hd hi
 go_wp2
 go_ret
 exact ⟨rfl, rfl⟩
theorem Ac0 (g n c i : Nat) (v : Int) (cur : Array Value) (w : World) (hi : i < n) (hn : n ≤ cur.size) (hr : Row w g 3 cur) : Calls Tryz.prog 343 #[.slice (some ⟨g, 0, none⟩) n c, .int .i64 (i : Int), .int .i64 v] w fun e w' => e = .returned (.bool true) ∧ Only g w w' ∧ Row w' g 3 (cur.setIfInBounds i (.int .i64 v)) := by
 have hd : decide (0 ≤ (i : Int) ∧ (i : Int) < (n : Int)) = true := by simp; omega
 have hi' : (i : Int) < (n : Int) := by omega
 have hput := Aar cur i (.int .i64 v) (by omega)
 have Hr := Lh hr
 clear hr
 go_enter Tryz.func343, Tryz.ntmps343
 go_wp2_with fail
 refine (K6 (some ⟨g, 0, none⟩) n c (i : Int) w).mono ?_
 rintro e w' ⟨rfl, rfl⟩
 rw [hd]
 have Hi := Lh hi
 clear hd hi
 go_wp2_with (refine Ql _ _ _ rfl ?_)
 refine Stop.to ?_
 refine Qk rfl 3 _ _ rfl g i rfl _ rfl [.int .i64 v] rfl 3 _ _ Hr.out (by kernel_rfl) (by have := Hi.out; simp; omega) (by simp [Value.oneCell']) hput ?_
 intro w1 r1 o1
 go_wp2
 go_ret
 exact ⟨rfl, o1, r1⟩
theorem Vc (g : Nat) (i v : Int) (w : World) (hc : w.cell? ⟨g, 0, none⟩ = some (.int .i64 v)) : Calls Tryz.prog 344 #[.agg #[.pointer (some ⟨g, 0, none⟩)], .int .i64 i] w fun e w' => e = .returned (.tuple #[.int .i64 v, .bool true]) ∧ Below w.heap.size w w' := by
 go_enter Tryz.func344, Tryz.ntmps344
 go_wp2_with (refine Qq _ _ rfl ?_)
 refine Stop.to ?_
 refine Qe rfl 115 _ rfl #[.pointer (some ⟨g, 0, none⟩)] rfl ?_
 intro G w1 hG r1 b1
 have hb := b1.mono hG
 have c0 := r1.cellv (i := 0) (v := .pointer (some ⟨g, 0, none⟩)) rfl
 have hlt := World.block_lt_of_cell? _ _ hc
 have cg : w1.cell? ⟨g, 0, none⟩ = some (.int .i64 v) := (hb.cell hlt).trans hc
 have Hb := Lh hb
 clear r1 b1 hG hc hlt hb
 go_wp2
 go_ret2
 exact ⟨rfl, Hb.out⟩
theorem XN (g : Nat) (i v u : Int) (w : World) (hr : Row w g 3 #[.int .i64 u]) : Calls Tryz.prog 345 #[.agg #[.pointer (some ⟨g, 0, none⟩)], .int .i64 i, .int .i64 v] w fun e w' => e = .returned (.bool true) ∧ ∃ w1, Below w.heap.size w w1 ∧ Only g w1 w' ∧ Row w' g 3 #[.int .i64 v] := by
 have Hr := Lh hr
 clear hr
 go_enter Tryz.func345, Tryz.ntmps345
 go_wp2_with (refine Qq _ _ rfl ?_)
 refine Stop.to ?_
 refine Qe rfl 115 _ rfl #[.pointer (some ⟨g, 0, none⟩)] rfl ?_
 intro G w1 hG r1 b1
 have hb := b1.mono hG
 have c0 := r1.cellv (i := 0) (v := .pointer (some ⟨g, 0, none⟩)) rfl
 have Hg := Lh (Hr.out.below hb Hr.out.lt)
 have Hb := Lh hb
 clear r1 b1 hG hb
 go_wp2_with (refine Ql _ _ _ rfl ?_)
 refine Stop.to ?_
 refine Qk rfl 3 _ _ rfl g 0 rfl _ rfl [.int .i64 v] rfl 3 _ #[.int .i64 v] Hg.out (by kernel_rfl) (by simp) (by simp [Value.oneCell']) rfl ?_
 intro w2 r2 o2
 clear c0
 go_wp2
 go_ret
 exact ⟨rfl, w1, Hb.out, o2, r2⟩
section
variable {g n c : Nat}
theorem Ab3 (f : Nat) (w : World) : (method (f + 1) 109 (.slice (some ⟨g, 0, none⟩) n c) "offshoot/direct.get").run Tryz.prog w = .ok (341, .slice (some ⟨g, 0, none⟩) n c) w := by kernel_rfl
theorem Acj (f : Nat) (w : World) : (method (f + 1) 109 (.slice (some ⟨g, 0, none⟩) n c) "offshoot/direct.set").run Tryz.prog w = .ok (343, .slice (some ⟨g, 0, none⟩) n c) w := by kernel_rfl
theorem Ae8 (f : Nat) (w : World) : (method (f + 1) 115 (.agg #[.pointer (some ⟨g, 0, none⟩)]) "offshoot/direct.get").run Tryz.prog w = .ok (344, .agg #[.pointer (some ⟨g, 0, none⟩)]) w := by kernel_rfl
theorem AbY (f : Nat) (w : World) : (method (f + 1) 115 (.agg #[.pointer (some ⟨g, 0, none⟩)]) "offshoot/direct.set").run Tryz.prog w = .ok (345, .agg #[.pointer (some ⟨g, 0, none⟩)]) w := by kernel_rfl
end
theorem AfH (L : Lay) (hL : DOk L) (s : Ms) (ev : Value) (n : Nat) (t at_ v : Int) (W : World) (h : DR L s ev W) (ht : L.p.V[n]? = some t) (h0 : Qx t = 0) (hv : s.vals[n]? = some v) : Calls Tryz.prog 188 #[.pointer (some ⟨L.M, 0, none⟩), .int .i64 (n : Int), .int .i64 at_] W fun e W' => e = .returned (.int .i64 v) ∧ Below W.heap.size W W' := by
 obtain ⟨g, hg⟩ : ∃ g, L.ab[n]? = some g := ⟨_, List.getElem?_eq_getElem (by rw [hL.alen]; exact (List.getElem?_eq_some_iff.1 ht).1)⟩
 obtain ⟨ad, had, hcell⟩ := hL.cells W h.im n g t hg ht
 have hrow := h.rows n g t hg ht
 have c1 := h.row.cellv (i := 1) (v := .slice L.aa L.ab.length L.acap) rfl
 rw [had] at c1
 have hnl : (n : Int) < (L.ab.length : Int) := by have := (List.getElem?_eq_some_iff.1 hg).1; omega
 rw [show s.cont n t = [v] by unfold Ms.cont; rw [if_pos h0, hv]; rfl] at hrow
 rw [show Js t g = .iface 115 (.agg #[.pointer (some ⟨g, 0, none⟩)]) by unfold Js; rw [if_pos h0]] at hcell
 have cg := hrow.cellv (i := 0) (v := .int .i64 v) rfl
 have gm := Ae8 (g := g)
 clear h hL hg ht had hrow h0 hv
 go_enter Tryz.func188, Tryz.ntmps188
 go_wp2_with fail
 refine (Vc g at_ v W cg).mono ?_
 rintro e w1 ⟨rfl, b1⟩
 clear c1 hcell cg gm
 go_wp2
 go_ret
 exact ⟨rfl, b1⟩
theorem Afv (L : Lay) (hL : DOk L) (s : Ms) (ev : Value) (n : Nat) (t i v : Int) (W : World) (h : DR L s ev W) (ht : L.p.V[n]? = some t) (h0 : Qx t ≠ 0) (hs : LenS L.p.V s) (hi : ¬ (i < 0 ∨ ((s.arr (n : Int)).length : Int) ≤ i)) (hv : (s.arr (n : Int))[i.toNat]? = some v) : Calls Tryz.prog 188 #[.pointer (some ⟨L.M, 0, none⟩), .int .i64 (n : Int), .int .i64 i] W fun e W' => e = .returned (.int .i64 v) ∧ Below W.heap.size W W' := by
 obtain ⟨k, rfl⟩ : ∃ k : Nat, i = (k : Int) := ⟨i.toNat, by omega⟩
 obtain ⟨g, hg⟩ : ∃ g, L.ab[n]? = some g := ⟨_, List.getElem?_eq_getElem (by rw [hL.alen]; exact (List.getElem?_eq_some_iff.1 ht).1)⟩
 obtain ⟨ad, had, hcell⟩ := hL.cells W h.im n g t hg ht
 have hrow := h.rows n g t hg ht
 have c1 := h.row.cellv (i := 1) (v := .slice L.aa L.ab.length L.acap) rfl
 rw [had] at c1
 have hnl : (n : Int) < (L.ab.length : Int) := by have := (List.getElem?_eq_some_iff.1 hg).1; omega
 have hal := hs.arr_len (n := (n : Int)) (t := t) (by rw [Int.toNat_natCast]; exact ht)
 have hsz : (Qx t).toNat = (s.arr (n : Int)).length := by omega
 rw [show s.cont n t = s.arr (n : Int) by unfold Ms.cont Ms.arr; rw [if_neg h0, Int.toNat_natCast]] at hrow
 rw [show Js t g = .iface 109 (.slice (some ⟨g, 0, none⟩) (s.arr (n : Int)).length (s.arr (n : Int)).length) by unfold Js; rw [if_neg h0, hsz]] at hcell
 rw [Int.toNat_natCast] at hv
 have hkl : k < (s.arr (n : Int)).length := (List.getElem?_eq_some_iff.1 hv).1
 have cg : W.cell? ((⟨g, 0, none⟩ : Addr).add k) = some (.int .i64 v) := by
  have := hrow.cellv (i := k) (v := .int .i64 v) (by simp [Qg, hv])
  unfold Addr.add
  by_cases h0 : k = 0
  · subst h0; exact this
  · rw [if_neg h0]; simpa using this
 have gm := Ab3 (g := g) (n := (s.arr (n : Int)).length) (c := (s.arr (n : Int)).length)
 generalize (s.arr (n : Int)).length = m at *
 clear h hL hg ht had hrow h0 hv hs hal hsz hi
 go_enter Tryz.func188, Tryz.ntmps188
 go_wp2_with fail
 refine (Acx ⟨g, 0, none⟩ m m k v W hkl cg).mono ?_
 rintro e w1 ⟨rfl, rfl⟩
 clear c1 hcell cg gm hkl
 go_wp2
 go_ret
 exact ⟨rfl, Below.refl _ _⟩
theorem AeO (L : Lay) (hL : DOk L) (s : Ms) (ev : Value) (n : Nat) (t i : Int) (W : World) (h : DR L s ev W) (ht : L.p.V[n]? = some t) (h0 : Qx t ≠ 0) (hs : LenS L.p.V s) (hi : i < 0 ∨ ((s.arr (n : Int)).length : Int) ≤ i) : Calls Tryz.prog 188 #[.pointer (some ⟨L.M, 0, none⟩), .int .i64 (n : Int), .int .i64 i] W fun e W' => e = QV 2 0 ∧ Below W.heap.size W W' := by
 obtain ⟨g, hg⟩ : ∃ g, L.ab[n]? = some g := ⟨_, List.getElem?_eq_getElem (by rw [hL.alen]; exact (List.getElem?_eq_some_iff.1 ht).1)⟩
 obtain ⟨ad, had, hcell⟩ := hL.cells W h.im n g t hg ht
 have hrow := h.rows n g t hg ht
 have c1 := h.row.cellv (i := 1) (v := .slice L.aa L.ab.length L.acap) rfl
 rw [had] at c1
 have hnl : (n : Int) < (L.ab.length : Int) := by have := (List.getElem?_eq_some_iff.1 hg).1; omega
 have hal := hs.arr_len (n := (n : Int)) (t := t) (by rw [Int.toNat_natCast]; exact ht)
 have hsz : (Qx t).toNat = (s.arr (n : Int)).length := by omega
 rw [show Js t g = .iface 109 (.slice (some ⟨g, 0, none⟩) (s.arr (n : Int)).length (s.arr (n : Int)).length) by unfold Js; rw [if_neg h0, hsz]] at hcell
 have gm := Ab3 (g := g) (n := (s.arr (n : Int)).length) (c := (s.arr (n : Int)).length)
 generalize (s.arr (n : Int)).length = m at *
 clear h hL hg ht had hrow h0 hs hal hsz
 have Hi := Lh hi
 clear hi
 go_enter Tryz.func188, Tryz.ntmps188
 go_wp2_with fail
 refine (Adh (some ⟨g, 0, none⟩) m m i W Hi.out).mono ?_
 rintro e w1 ⟨rfl, rfl⟩
 clear c1 hcell gm
 go_wp2_with fail
 refine (XE _ _ _).mono ?_
 rintro e w' ⟨rfl, rfl⟩
 simp only [QV]
 go_wp2
 exact ⟨rfl, rfl, Below.refl _ _⟩
theorem Ad5 (L : Lay) (hL : DOk L) (s : Ms) (ev : Value) (n : Nat) (t i v : Int) (W : World) (h : DR L s ev W) (ht : L.p.V[n]? = some t) (h0 : Qx t ≠ 0) (hs : LenS L.p.V s) (hi : i < 0 ∨ ((s.arr (n : Int)).length : Int) ≤ i) : Calls Tryz.prog 249 #[.pointer (some ⟨L.M, 0, none⟩), .int .i64 (n : Int), .int .i64 i, .int .i64 v] W fun e W' => e = QV 2 0 ∧ Below W.heap.size W W' := by
 obtain ⟨g, hg⟩ : ∃ g, L.ab[n]? = some g := ⟨_, List.getElem?_eq_getElem (by rw [hL.alen]; exact (List.getElem?_eq_some_iff.1 ht).1)⟩
 obtain ⟨ad, had, hcell⟩ := hL.cells W h.im n g t hg ht
 have hrow := h.rows n g t hg ht
 have c1 := h.row.cellv (i := 1) (v := .slice L.aa L.ab.length L.acap) rfl
 rw [had] at c1
 have hnl : (n : Int) < (L.ab.length : Int) := by have := (List.getElem?_eq_some_iff.1 hg).1; omega
 have hal := hs.arr_len (n := (n : Int)) (t := t) (by rw [Int.toNat_natCast]; exact ht)
 have hsz : (Qx t).toNat = (s.arr (n : Int)).length := by omega
 rw [show Js t g = .iface 109 (.slice (some ⟨g, 0, none⟩) (s.arr (n : Int)).length (s.arr (n : Int)).length) by unfold Js; rw [if_neg h0, hsz]] at hcell
 have gm := Acj (g := g) (n := (s.arr (n : Int)).length) (c := (s.arr (n : Int)).length)
 generalize (s.arr (n : Int)).length = m at *
 clear h hL hg ht had hrow h0 hs hal hsz
 have Hi := Lh hi
 clear hi
 go_enter Tryz.func249, Tryz.ntmps249
 go_wp2_with fail
 refine (AcU (some ⟨g, 0, none⟩) m m i v W Hi.out).mono ?_
 rintro e w1 ⟨rfl, rfl⟩
 clear c1 hcell gm
 go_wp2_with fail
 refine (XE _ _ _).mono ?_
 rintro e w' ⟨rfl, rfl⟩
 simp only [QV]
 go_wp2
 exact ⟨rfl, rfl, Below.refl _ _⟩
theorem Ad0 (L : Lay) (hL : DOk L) (s s2 s3 : Ms) (ev : Value) (n : Nat) (t at_ x : Int) (g : Nat) (W : World) (h : DR L s ev W) (ad : Addr) (had : L.aa = some ad) (hnl : (n : Int) < (L.ab.length : Int)) (hcell : W.cell? (ad.add n) = some (.iface 115 (.agg #[.pointer (some ⟨g, 0, none⟩)])))
 (gm : ∀ (f : Nat) (w : World), (method (f + 1) 115 (.agg #[.pointer (some ⟨g, 0, none⟩)]) "offshoot/direct.set").run Tryz.prog w = .ok (345, .agg #[.pointer (some ⟨g, 0, none⟩)]) w)
 (hset : Calls Tryz.prog 345 #[.agg #[.pointer (some ⟨g, 0, none⟩)], .int .i64 at_, .int .i64 x] W fun e w1 => e = .returned (.bool true) ∧ DR L s2 ev w1 ∧ RChg L ev W ev w1)
 (h1 : s3.vals = s2.vals) (h2 : s3.arrs = s2.arrs) (h3 : s3.steps = s2.steps) (h4 : s3.fuel = s2.fuel) (h5 : s3.evs = s2.evs ++ [⟨(n : Int), at_, x⟩]) (h6 : s2.evs.length < s2.steps) :
 Calls Tryz.prog 249 #[.pointer (some ⟨L.M, 0, none⟩), .int .i64 (n : Int), .int .i64 at_, .int .i64 x] W fun e W' => (∃ u, e = .returned u) ∧ ∃ ev', DR L s3 ev' W' ∧ RChg L ev W ev' W' := by
 have c1 := h.row.cellv (i := 1) (v := .slice L.aa L.ab.length L.acap) rfl
 rw [had] at c1
 obtain ⟨i0, hi0, hz0, hz1, hz2⟩ := info_parts ED
 have HL := Lh hL
 have Hset := Lh hset
 have H1 := Lh h1
 have H2 := Lh h2
 have H3 := Lh h3
 have H4 := Lh h4
 have H5 := Lh h5
 have hF := hL.F
 clear h hL had hset h1 h2 h3 h4 h5
 go_enter Tryz.func249, Tryz.ntmps249
 go_wp2_with fail
 refine Hset.out.mono ?_
 rintro e w1 ⟨rfl, hm1, hg1⟩
 clear c1 hcell gm
 have c6 := hm1.row.cellv (i := 6) (v := ev) rfl
 have hsum := hm1.sum
 have hb1 := hm1.size
 have hel : s2.evs.length ≤ 20001 := by omega
 have ha := hm1.evs.alloc (.cells (EvV.cells ⟨(n : Int), at_, x⟩).toArray 189)
 have HA := Lh ha
 have Hm1 := Lh hm1
 have Hg1 := Lh hg1
 clear hm1 hg1 ha hsum
 go_wp2_with (at_builtin; refine wpList_append_own_at _ rfl (.tmp 25) (.tmp 30) 38 rfl L.b1 189 i0 _ 3 24 Tryz.underlying38 hi0 hz0 hz1 hz2 rfl (by decide) ev s2.evs.length (s2.evs.flatMap EvV.cells) rfl HA.out ⟨w1.heap.size, 0, none⟩ 1 1 (EvV.cells ⟨(n : Int), at_, x⟩) rfl rfl (Je _ _ _) (K5 _) (by unfold maxLen; omega) (by omega) (by simp; omega) ?_)
 intro ev' W3 hown hgr _ hat
 have b2 : Below w1.heap.size w1 (w1.alloc (.cells (EvV.cells ⟨(n : Int), at_, x⟩).toArray 189)) := (Below.refl _ _).alloc (Nat.le_refl _) _
 have hm2 := Hm1.out.below HL.out b2
 have r3 := hm2.row.grown hgr (Qu hm2.evs hm2.row (by decide))
 have g3 : RChg L ev w1 ev' W3 := (RChg.below b2).trans (.grown hgr (fun k e => by
  rcases hat with h | h
  · exact .inl (h ▸ e)
  · rw [h] at e; injection e with e; exact .inr (by simp only [World.alloc, Array.size_push] at *; omega)))
 have rows3 : ∀ (i g : Nat) (t : Int), L.ab[i]? = some g → L.p.V[i]? = some t → Row W3 g 3 (Qg (s3.cont i t)).toArray := fun i g t h1 h2 => by
  have := (hm2.rows i g t h1 h2).grown hgr (Qu hm2.evs (hm2.rows i g t h1 h2) (by decide))
  unfold Ms.cont at this ⊢
  rw [H1.out, H2.out]; exact this
 have im3 := HL.out.im _ _ hm2.im (.grown hgr hm2.size (fun k e => Qz hm2.evs e))
 have sz3 : L.b1 ≤ W3.heap.size := Nat.le_trans hm2.size hgr.size
 have hov := Zk hown
 have R3 := Lh r3
 have G3 := Lh g3
 have Rows3 := Lh rows3
 have Own3 := Lh hown
 have Im3 := Lh im3
 have Sz3 := Lh sz3
 have Hsum := Lh Hm1.out.sum
 clear hown hgr hat b2 hm2 r3 g3 HA Hm1 c6 rows3 im3 sz3
 go_wp2_with (refine Ql _ _ _ rfl ?_)
 refine Stop.to ?_
 refine Qk rfl 38 _ _ rfl L.M 6 rfl _ rfl [ev'] (by cases ev' <;> first | rfl | cases hov) 108 _ (L.dcells s3 ev') R3.out (by kernel_rfl) (by show 6 + 1 ≤ 7; omega) (by simpa using hov) (by unfold Lay.dcells; rw [H3.out]; rfl) ?_
 intro W4 r4 o4
 have m4 : DR L s3 ev' W4 := ⟨r4, by have := Qt Own3.out o4 (fun e => by have := Qz Own3.out e; have := HL.out.lt; omega); rw [H5.out]; simpa using this,
  fun i g t h1 h2 => (Rows3.out i g t h1 h2).only o4 (HL.out.alt g (List.mem_of_getElem? h1)).2,
  HL.out.im _ _ Im3.out (.only o4 (.inr (.inl rfl))), by rw [o4.size]; exact Sz3.out, by rw [H3.out, H4.out]; exact Hsum.out, by rw [H5.out, H3.out]; simp; omega⟩
 have M4 := Lh m4
 have G4 := Lh (Hg1.out.trans (G3.out.trans (RChg.only o4 (.inl rfl))))
 clear m4 r4 o4 R3 G3 Rows3 Own3 Im3 Hsum Sz3
 go_wp2
 go_end0
 exact ⟨⟨_, rfl⟩, ev', M4.out, G4.out⟩
theorem Aem (L : Lay) (hL : DOk L) (s s2 s3 : Ms) (ev : Value) (n : Nat) (t at_ x : Int) (g m : Nat) (W : World) (h : DR L s ev W) (ad : Addr) (had : L.aa = some ad) (hnl : (n : Int) < (L.ab.length : Int)) (hcell : W.cell? (ad.add n) = some (.iface 109 (.slice (some ⟨g, 0, none⟩) m m)))
 (gm : ∀ (f : Nat) (w : World), (method (f + 1) 109 (.slice (some ⟨g, 0, none⟩) m m) "offshoot/direct.set").run Tryz.prog w = .ok (343, .slice (some ⟨g, 0, none⟩) m m) w)
 (hset : Calls Tryz.prog 343 #[.slice (some ⟨g, 0, none⟩) m m, .int .i64 at_, .int .i64 x] W fun e w1 => e = .returned (.bool true) ∧ DR L s2 ev w1 ∧ RChg L ev W ev w1)
 (h1 : s3.vals = s2.vals) (h2 : s3.arrs = s2.arrs) (h3 : s3.steps = s2.steps) (h4 : s3.fuel = s2.fuel) (h5 : s3.evs = s2.evs ++ [⟨(n : Int), at_, x⟩]) (h6 : s2.evs.length < s2.steps) :
 Calls Tryz.prog 249 #[.pointer (some ⟨L.M, 0, none⟩), .int .i64 (n : Int), .int .i64 at_, .int .i64 x] W fun e W' => (∃ u, e = .returned u) ∧ ∃ ev', DR L s3 ev' W' ∧ RChg L ev W ev' W' := by
 have c1 := h.row.cellv (i := 1) (v := .slice L.aa L.ab.length L.acap) rfl
 rw [had] at c1
 obtain ⟨i0, hi0, hz0, hz1, hz2⟩ := info_parts ED
 have HL := Lh hL
 have Hset := Lh hset
 have H1 := Lh h1
 have H2 := Lh h2
 have H3 := Lh h3
 have H4 := Lh h4
 have H5 := Lh h5
 have hF := hL.F
 clear h hL had hset h1 h2 h3 h4 h5
 go_enter Tryz.func249, Tryz.ntmps249
 go_wp2_with fail
 refine Hset.out.mono ?_
 rintro e w1 ⟨rfl, hm1, hg1⟩
 clear c1 hcell gm
 have c6 := hm1.row.cellv (i := 6) (v := ev) rfl
 have hsum := hm1.sum
 have hb1 := hm1.size
 have hel : s2.evs.length ≤ 20001 := by omega
 have ha := hm1.evs.alloc (.cells (EvV.cells ⟨(n : Int), at_, x⟩).toArray 189)
 have HA := Lh ha
 have Hm1 := Lh hm1
 have Hg1 := Lh hg1
 clear hm1 hg1 ha hsum
 go_wp2_with (at_builtin; refine wpList_append_own_at _ rfl (.tmp 25) (.tmp 30) 38 rfl L.b1 189 i0 _ 3 24 Tryz.underlying38 hi0 hz0 hz1 hz2 rfl (by decide) ev s2.evs.length (s2.evs.flatMap EvV.cells) rfl HA.out ⟨w1.heap.size, 0, none⟩ 1 1 (EvV.cells ⟨(n : Int), at_, x⟩) rfl rfl (Je _ _ _) (K5 _) (by unfold maxLen; omega) (by omega) (by simp; omega) ?_)
 intro ev' W3 hown hgr _ hat
 have b2 : Below w1.heap.size w1 (w1.alloc (.cells (EvV.cells ⟨(n : Int), at_, x⟩).toArray 189)) := (Below.refl _ _).alloc (Nat.le_refl _) _
 have hm2 := Hm1.out.below HL.out b2
 have r3 := hm2.row.grown hgr (Qu hm2.evs hm2.row (by decide))
 have g3 : RChg L ev w1 ev' W3 := (RChg.below b2).trans (.grown hgr (fun k e => by
  rcases hat with h | h
  · exact .inl (h ▸ e)
  · rw [h] at e; injection e with e; exact .inr (by simp only [World.alloc, Array.size_push] at *; omega)))
 have rows3 : ∀ (i g : Nat) (t : Int), L.ab[i]? = some g → L.p.V[i]? = some t → Row W3 g 3 (Qg (s3.cont i t)).toArray := fun i g t h1 h2 => by
  have := (hm2.rows i g t h1 h2).grown hgr (Qu hm2.evs (hm2.rows i g t h1 h2) (by decide))
  unfold Ms.cont at this ⊢
  rw [H1.out, H2.out]; exact this
 have im3 := HL.out.im _ _ hm2.im (.grown hgr hm2.size (fun k e => Qz hm2.evs e))
 have sz3 : L.b1 ≤ W3.heap.size := Nat.le_trans hm2.size hgr.size
 have hov := Zk hown
 have R3 := Lh r3
 have G3 := Lh g3
 have Rows3 := Lh rows3
 have Own3 := Lh hown
 have Im3 := Lh im3
 have Sz3 := Lh sz3
 have Hsum := Lh Hm1.out.sum
 clear hown hgr hat b2 hm2 r3 g3 HA Hm1 c6 rows3 im3 sz3
 go_wp2_with (refine Ql _ _ _ rfl ?_)
 refine Stop.to ?_
 refine Qk rfl 38 _ _ rfl L.M 6 rfl _ rfl [ev'] (by cases ev' <;> first | rfl | cases hov) 108 _ (L.dcells s3 ev') R3.out (by kernel_rfl) (by show 6 + 1 ≤ 7; omega) (by simpa using hov) (by unfold Lay.dcells; rw [H3.out]; rfl) ?_
 intro W4 r4 o4
 have m4 : DR L s3 ev' W4 := ⟨r4, by have := Qt Own3.out o4 (fun e => by have := Qz Own3.out e; have := HL.out.lt; omega); rw [H5.out]; simpa using this,
  fun i g t h1 h2 => (Rows3.out i g t h1 h2).only o4 (HL.out.alt g (List.mem_of_getElem? h1)).2,
  HL.out.im _ _ Im3.out (.only o4 (.inr (.inl rfl))), by rw [o4.size]; exact Sz3.out, by rw [H3.out, H4.out]; exact Hsum.out, by rw [H5.out, H3.out]; simp; omega⟩
 have M4 := Lh m4
 have G4 := Lh (Hg1.out.trans (G3.out.trans (RChg.only o4 (.inl rfl))))
 clear m4 r4 o4 R3 G3 Rows3 Own3 Im3 Hsum Sz3
 go_wp2
 go_end0
 exact ⟨⟨_, rfl⟩, ev', M4.out, G4.out⟩
theorem Afl (L : Lay) (hL : DOk L) (s : Ms) (ev : Value) (n : Nat) (t x u : Int) (W : World) (h : DR L s ev W) (ht : L.p.V[n]? = some t) (h0 : Qx t = 0) (hv : s.vals[n]? = some u) (hf : s.evs.length < s.steps) : Calls Tryz.prog 249 #[.pointer (some ⟨L.M, 0, none⟩), .int .i64 (n : Int), .int .i64 (-1), .int .i64 x] W fun e W' => (∃ u, e = .returned u) ∧ ∃ ev', DR L (s.setv (n : Int) x) ev' W' ∧ RChg L ev W ev' W' := by
 obtain ⟨g, hg⟩ : ∃ g, L.ab[n]? = some g := ⟨_, List.getElem?_eq_getElem (by rw [hL.alen]; exact (List.getElem?_eq_some_iff.1 ht).1)⟩
 obtain ⟨ad, had, hcell⟩ := hL.cells W h.im n g t hg ht
 have hrow := h.rows n g t hg ht
 have c1 := h.row.cellv (i := 1) (v := .slice L.aa L.ab.length L.acap) rfl
 rw [had] at c1
 have hnl : (n : Int) < (L.ab.length : Int) := by have := (List.getElem?_eq_some_iff.1 hg).1; omega
 rw [show s.cont n t = [u] by unfold Ms.cont; rw [if_pos h0, hv]; rfl] at hrow
 rw [show Js t g = .iface 115 (.agg #[.pointer (some ⟨g, 0, none⟩)]) by unfold Js; rw [if_pos h0]] at hcell
 have hnl2 : n < s.vals.length := (List.getElem?_eq_some_iff.1 hv).1
 refine Ad0 L hL s { s with vals := s.vals.set n x } (s.setv (n : Int) x) ev n t (-1) x g W h ad had hnl hcell (fun f w => AbY (g := g) f w) ?_ (by simp [Ms.setv]) rfl rfl rfl rfl hf
 refine (XN g (-1) x u W hrow).mono ?_
 rintro e w1 ⟨rfl, w0, b0, o1, r1⟩
 exact ⟨rfl, (h.below hL b0).setB hL hg ht o1 (by unfold Ms.cont; rw [if_pos h0]; simp only [List.getElem?_set_self hnl2]; exact r1) (fun i hi => ⟨by simp [Ne.symm hi], rfl⟩) rfl rfl rfl, (RChg.below b0 : RChg L ev W ev w0).trans (RChg.onlyB o1 (List.mem_of_getElem? hg))⟩
theorem Afe (L : Lay) (hL : DOk L) (s : Ms) (ev : Value) (n : Nat) (t i x : Int) (W : World) (h : DR L s ev W) (ht : L.p.V[n]? = some t) (h0 : Qx t ≠ 0) (hs : LenS L.p.V s) (hi : ¬ (i < 0 ∨ ((s.arr (n : Int)).length : Int) ≤ i)) (hf : s.evs.length < s.steps) : Calls Tryz.prog 249 #[.pointer (some ⟨L.M, 0, none⟩), .int .i64 (n : Int), .int .i64 i, .int .i64 x] W fun e W' => (∃ u, e = .returned u) ∧ ∃ ev', DR L (s.seta (n : Int) i x) ev' W' ∧ RChg L ev W ev' W' := by
 obtain ⟨k, rfl⟩ : ∃ k : Nat, i = (k : Int) := ⟨i.toNat, by omega⟩
 obtain ⟨g, hg⟩ : ∃ g, L.ab[n]? = some g := ⟨_, List.getElem?_eq_getElem (by rw [hL.alen]; exact (List.getElem?_eq_some_iff.1 ht).1)⟩
 obtain ⟨ad, had, hcell⟩ := hL.cells W h.im n g t hg ht
 have hrow := h.rows n g t hg ht
 have c1 := h.row.cellv (i := 1) (v := .slice L.aa L.ab.length L.acap) rfl
 rw [had] at c1
 have hnl : (n : Int) < (L.ab.length : Int) := by have := (List.getElem?_eq_some_iff.1 hg).1; omega
 have hal := hs.arr_len (n := (n : Int)) (t := t) (by rw [Int.toNat_natCast]; exact ht)
 have hsz : (Qx t).toNat = (s.arr (n : Int)).length := by omega
 have hnl2 : n < s.arrs.length := by rw [hs.alen]; exact (List.getElem?_eq_some_iff.1 ht).1
 rw [show s.cont n t = s.arr (n : Int) by unfold Ms.cont Ms.arr; rw [if_neg h0, Int.toNat_natCast]] at hrow
 rw [show Js t g = .iface 109 (.slice (some ⟨g, 0, none⟩) (s.arr (n : Int)).length (s.arr (n : Int)).length) by unfold Js; rw [if_neg h0, hsz]] at hcell
 refine Aem L hL s { s with arrs := s.arrs.set n ((s.arr (n : Int)).set k x) } (s.seta (n : Int) (k : Int) x) ev n t (k : Int) x g _ W h ad had hnl hcell (fun f w => Acj (g := g) f w) ?_ rfl (by simp [Ms.seta]) rfl rfl rfl hf
 refine (Ac0 g _ _ k x _ W (by omega) (by simp [Qg]) hrow).mono ?_
 rintro e w1 ⟨rfl, o1, r1⟩
 refine ⟨rfl, h.setB hL hg ht o1 ?_ (fun i hi => ⟨rfl, by simp [Ne.symm hi]⟩) rfl rfl rfl, RChg.onlyB o1 (List.mem_of_getElem? hg)⟩
 unfold Ms.cont
 rw [if_neg h0]
 simp only [List.getElem?_set_self hnl2, Option.getD_some]
 have : (Qg ((s.arr (n : Int)).set k x)).toArray = (Qg (s.arr (n : Int))).toArray.setIfInBounds k (.int .i64 x) := by simp [Qg, List.map_set]
 rw [this]; exact r1
end Go.Proofs.YtdcmppdhdcjpfaaGreat
