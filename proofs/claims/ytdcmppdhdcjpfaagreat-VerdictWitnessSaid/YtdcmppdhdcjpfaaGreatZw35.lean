/- Lemmas for VerdictWitnessP. -/
import Derived.Test.YtdcmppdhdcjpfaaGreatZw1
import Derived.Test.YtdcmppdhdcjpfaaGreatZw11
import Derived.Test.YtdcmppdhdcjpfaaGreatZw18
import Derived.Test.YtdcmppdhdcjpfaaGreatZw31
import Derived.Test.YtdcmppdhdcjpfaaGreatZw24
import Derived.WalkLawsBesides
set_option linter.unusedVariables false
set_option linter.unusedSimpArgs false
set_option maxRecDepth 100000
set_option maxHeartbeats 16000000
namespace Go.Proofs.YtdcmppdhdcjpfaaGreat
open Go.RowKit Go.Deep
def Ahb (p : PgV) (ts : List IntsV) (fuel : Int) : Bool := AfN p && (VW ts && (decide (p.body.length ≤ 40) && (decide (ts.length ≤ 5) && (decide (fuel ≤ 200) || decide (10000 < fuel)))))
theorem AiF {p : PgV} {ts : List IntsV} {fuel : Int} (h : Ahb p ts fuel = true) : p.body.length ≤ 40 ∧ p.V.length ≤ 20 ∧ ts.length ≤ 5 ∧ (∀ x ∈ ts, x.l.length ≤ 40) ∧ (fuel ≤ 200 ∨ 10000 < fuel) := by
 unfold Ahb AfN VW at h;simp only [Nn, Bool.or_eq_true, decide_eq_true_eq] at h;exact ⟨h.2.2.1, h.1.2, h.2.2.2.1, h.2.1.2, h.2.2.2.2⟩
theorem AfM (p : PgV) (A : Option Addr) (cap : Nat) (ts : List IntsV) (fuel : Int) (w : World) (hr : Rd w A (KC ts)) : Calls Tryz.prog 24 #[.agg p.cells, .slice A ts.length cap, .int .i64 fuel] w fun e w' => e = .returned (.bool (Ahb p ts fuel)) ∧ Below w.heap.size w w' := by
 have Hr := Lh hr;clear hr;have d : Hid (∀ {β : Bool}, (AfN p && (VW ts && (decide (p.body.length ≤ 40) && (decide (ts.length ≤ 5) && (decide (fuel ≤ 200) || decide (10000 < fuel)))))) = β → Ahb p ts fuel = β) := fun h => h
 go_enter Tryz.func24, Tryz.ntmps24
 go_wp2_with (refine Qn _ _ rfl ?_)
 refine Stop.to ?_;refine Qe rfl 25 _ rfl p.cells rfl ?_;intro G Gw Gh l Gb;have o := (Below.refl w.heap.size w).trans (Gb.mono Gh);clear Gb Gh;go_wp2_with (refine wpList_load_row rfl 25 _ rfl G rfl 25 p.cells (0, 0) _ l Tryz.underlying25 rfl (by kernel_rfl) ?_)
 refine (AiG p Gw).mono ?_;rintro e w1 ⟨rfl, z⟩;replace l := l.below z l.lt;replace o := o.trans (z.mono o.size);have k := Lh o;have u := Aha A cap ts w1 (Hr.out.go o);obtain ⟨n, hn⟩ : ∃ n, n = ts.length := ⟨_, rfl⟩;rw [← hn] at d u ⊢;have c2 := l.cellv (i := 2) (v := .slice p.ba p.body.length p.bcap) rfl;obtain ⟨m, hm⟩ : ∃ m, m = p.body.length := ⟨_, rfl⟩;rw [← hm] at d c2;obtain ⟨q, hq⟩ : ∃ q, q = AfN p := ⟨_, rfl⟩;rw [← hq] at d ⊢;obtain ⟨q2, t⟩ : ∃ q, q = VW ts := ⟨_, rfl⟩;rw [← t] at d u;have HT := Lh u;clear z o l Hr hn hm hq t u;cases q
 · go_wp2_with fail
   go_ret
   exact ⟨Z4 (d.out (by simp)), k.out⟩
 go_wp2_with fail
 refine HT.out.mono ?_;rintro e w2 ⟨rfl, rfl⟩;clear HT;cases q2
 · go_wp2_with fail
   go_ret
   exact ⟨Z4 (d.out (by simp)), k.out⟩
 by_cases c : m ≤ 40;rotate_left
 · have aa : ¬ (m : Int) ≤ 40 := by omega
   have ac : 40 < (m : Int) := by omega
   have H1 := Lh c;clear c;go_wp2_with fail
   go_ret
   exact ⟨Z4 (d.out (by have c := H1.out; simp [c])), k.out⟩
 have aa : (m : Int) ≤ 40 := by omega
 by_cases r : n ≤ 5;rotate_left
 · have ab : ¬ (n : Int) ≤ 5 := by omega
   have ad : 5 < (n : Int) := by omega
   have H2 := Lh r;clear c r;go_wp2_with fail
   go_ret
   exact ⟨Z4 (d.out (by have r := H2.out; simp [r])), k.out⟩
 have ab : (n : Int) ≤ 5 := by omega
 have j := Lh (And.intro c r);clear c r;by_cases g : fuel ≤ 200
 · have x := Lh g;go_wp2_with fail
   go_ret
   exact ⟨Z4 (d.out (by have c := j.out; have g := x.out; simp [c.1, c.2, g])), k.out⟩
 have ae : 200 < fuel := by omega
 by_cases s : 10000 < fuel
 · have y := Lh s;clear g;go_wp2_with fail
   go_ret
   exact ⟨Z4 (d.out (by have c := j.out; have g := y.out; simp [c.1, c.2, g])), k.out⟩
 · have af : fuel ≤ 10000 := by omega
   have x := Lh g;have y := Lh s;clear g s;go_wp2_with fail
   go_ret
   exact ⟨Z4 (d.out (by have c := j.out; have g := x.out; have s := y.out; simp only [c.1, c.2, g, s, decide_true, decide_false, Bool.true_and, Bool.or_self])), k.out⟩
end Go.Proofs.YtdcmppdhdcjpfaaGreat
namespace Go.Proofs.YtdcmppdhdcjpfaaGreat
open Go.ChangeShapes Go.WideShapes Go.RowKit Go.Deep
structure TsV where
 A : Option Addr
 cap : Nat
 l : List IntsV
def TsV.val (t : TsV) : Value := .slice t.A t.l.length t.cap
structure TsRaw (W : World) (t : TsV) : Prop where
 len : t.l.length ≤ t.cap
 cap : t.cap ≤ maxLen
 nil : t.A = none → t.cap = 0
 rd : Rd W t.A (KC t.l)
 ok : ∀ x ∈ t.l, x.ok W
section
variable {H : Type} {enc : TypeId × Value → H} {w : World} {base : Nat} {spare : Nat → Bool} {held : Bool}
theorem Add {r : Go.Reach} {b0 : Nat} {v : Value} {d : DataW H} {p : List MemPlace} (hv : Value.okWide Tryz.prog w r b0 46 v) (h : DataW.Trod enc Tryz.prog w base spare held 46 v d p) :
 ∃ t : TsV, TsRaw w t ∧ v = t.val := by
 obtain ⟨a, len, g, rfl⟩ := okWide_slice Tryz.underlying46 hv;obtain ⟨j, s⟩ := h;obtain ⟨A, c, l, e, k, m, n, o, q⟩ := Adc s;have i : [Value.slice a len g] = [.slice A l.length c] := e;injection i with i;injection i with e3 e4 e5;subst e3 e4 e5;exact ⟨⟨_, _, l⟩, ⟨k, m, n, o, q⟩, rfl⟩
end
end Go.Proofs.YtdcmppdhdcjpfaaGreat
namespace Go.Proofs.YtdcmppdhdcjpfaaGreat
open Go.RowKit Go.Deep
theorem YK {p : PgV} {d : Dl} {fuel : Int} {ts : List (List Int)} (h : Q9 p d ts fuel = 0) : Zh p = 0 ∧ JG p.params ts fuel = 0 ∧ XZ p d = 0 := by
 have e : J9 p ts fuel = 0 := by
  unfold Q9 at h;split at h
  · rename_i c; exact absurd h c
  · rename_i c; simpa using c
 have g : XZ p d = 0 := by unfold Q9 at h; rwa [if_neg (by rw [e]; simp)] at h
 unfold J9 at e;split at e
 · rename_i c; exact absurd e c
 · rename_i c; exact ⟨by simpa using c, e, g⟩
theorem Ua {p : PgV} {d : Dl} {fuel : Int} {ts : List (List Int)} {a : List Int} (h : Q9 p d ts fuel = 0) (ha : a ∈ ts) : Q9 p d [a] fuel = 0 := by
 obtain ⟨c, e, g⟩ := YK h;obtain ⟨k, l, j, m, n⟩ := UU e;unfold Q9 J9;rw [c, if_neg (by rw [if_neg (by simp)]; unfold JG; rw [if_neg (by simp), if_pos (fun x i => by rw [Lp.1 i]; exact j a ha), if_neg (by omega)]; simp), g]
theorem Afg {p m : PgV} {d : Dl} {fuel : Int} {ts : List (List Int)} {a : List Int} (hc : Q9 p d ts fuel = 0) (ha : a ∈ ts) (hm : IsMut p d m) : Q7 m a.length fuel = 0 := by
 obtain ⟨i, c, e⟩ := YK hc;obtain ⟨j, k, h, l, n⟩ := UU c;obtain ⟨t, g⟩ := Aht hm e;rw [JK g, hm.par, if_neg (by rw [h a ha]; simp), if_neg (by omega)]
theorem Agy {p m : PgV} {d : Dl} {fuel : Int} {ts : List (List Int)} {a : List Int} {i : Nat} (hv : (ZK p d ts fuel).verdict ≠ 0) (hi : (ZK p d ts fuel).test = (i : Int)) (ha : ts[i]? = some a) (hm : IsMut p d m) :
 (ZK p d ts fuel).kind = ((Zd m a fuel).out.getD (0, 0)).1 ∧ (ZK p d ts fuel).value = ((Zd m a fuel).out.getD (0, 0)).2 ∧ (ZK p d ts fuel).digest = Vk ((Zd m a fuel).rv none 0) ∧ (ZK p d [a] fuel).verdict = (ZK p d ts fuel).verdict ∧ (ZK p d [a] fuel).test = 0 ∧ (ZK p d [a] fuel).digest = (ZK p d ts fuel).digest := by
 obtain ⟨c, e, h, j⟩ := AfY (f := rnZ p fuel) (g := rnZ (X0 p d) fuel) hv hi ha;rw [← hm.rn fuel] at c e h j;unfold ZK;rw [← hm.rn fuel];exact ⟨e, h, j, by rw [c], by rw [c], by rw [c]⟩
theorem AhL {W : World} {ts : List IntsV} {ad : Addr} {i : Nat} {x : IntsV} (h : Rd W (some ad) (KC ts)) (hi : ts[i]? = some x) : Rd W (some (ad.add i)) (KC [x]) := fun j u hj => by
 obtain ⟨e, c, d⟩ := KL h hi;injection c with c;subst c
 match j, hj with
 | 0, hj => injection hj with hj; subst hj; exact ⟨_, rfl, d⟩
theorem Aag {P : Program} {o : Oper} {w w1 : World} {ρ : Operand → Value} {x lo hi : Operand} {t : TypeId} (ho : o.op = .slice t x (some lo) (some hi) none) {v : Value} (hv : (Instr.sliceAt t (ρ x) (some (ρ lo)) (some (ρ hi)) none).run P w = .ok v w1) : (execOp ρ o).run P w = .ok (.value v) w1 := by
 simp only [execOp, ho, Nu, Option.map_none, Sem.run_bind, hv, Result.andThen_ok, Sem.run_pure]
theorem Aji (W : World) (ad : Addr) (n cap i : Nat) (h : i < n) (hc : n ≤ cap) : (Instr.sliceAt 46 (.slice (some ad) n cap) (some (.int .i64 (i : Int))) (some (.int .i64 ((i + 1 : Nat) : Int))) none).run Tryz.prog W = .ok (.slice (some (ad.add i)) 1 (cap - i)) W := by
 refine (run_sliceAt_slice (P := Tryz.prog) (w := W) 46 (.slice (some ad) n cap) (some (.int .i64 (i : Int))) (some (.int .i64 ((i + 1 : Nat) : Int))) none (by kernel_rfl)).trans ?_;refine (run_slice_lh (P := Tryz.prog) (w := W) 46 (some ad) n cap (by kernel_rfl) .i64 .i64 (i : Int) ((i + 1 : Nat) : Int) (by omega) (by omega) (by omega)).trans ?_;rw [show (sizeOf (Tryz.prog.elem 46)).run Tryz.prog W = .ok 1 W from by kernel_rfl, Result.andThen_ok];simp only [sliced, Li];rw [if_neg (by omega), show i + 1 - i = 1 from by omega, Nat.mul_one];rfl
def Ade (k v : Int) : Value := .iface 181 (.agg #[.int .i64 k, .int .i64 v])
def Q6 (k v : Int) : Ending := .panicked [{ v := Ade k v, recovered := false }]
def Jy (t : Int) (g : Nat) : Value := if Qy t = 0 then .iface 115 (.agg #[.pointer (some ⟨g, 0, none⟩)]) else .iface 109 (.slice (some ⟨g, 0, none⟩) (Qy t).toNat (Qy t).toNat)
def Ms.cont (s : Ms) (i : Nat) (t : Int) : List Int := if Qy t = 0 then [(s.vals[i]?).getD 0] else (s.arrs[i]?).getD []
def Lay.dcells (L : Lay) (s : Ms) (ev : Value) : Array Value :=
 #[.slice L.p.ba L.p.body.length L.p.bcap, .slice L.aa L.ab.length L.acap, .int .i64 (L.F : Int), .int .i64 0, .int .i64 0, .int .i64 (s.steps : Int), ev]
structure DR (L : Lay) (s : Ms) (ev : Value) (W : World) : Prop where
 row : Row W L.M 108 (L.dcells s ev)
 evs : W.ownsRow L.b1 189 3 ev s.evs.length (s.evs.flatMap EvV.cells)
 rows : ∀ (i g : Nat) (t : Int), L.ab[i]? = some g → L.p.V[i]? = some t → Row W g 3 (Qi (s.cont i t)).toArray
 im : L.Im W
 size : L.b1 ≤ W.heap.size
 sum : s.steps + s.fuel = L.F
 few : s.evs.length ≤ s.steps
structure DOk (L : Lay) : Prop extends LOk0 L where
 pok : ∀ W, L.Im W → L.p.ok W
 cells : ∀ W, L.Im W → ∀ (i g : Nat) (t : Int), L.ab[i]? = some g → L.p.V[i]? = some t → ∃ ad : Addr, L.aa = some ad ∧ W.cell? (ad.add i) = some (Jy t g)
 alen : L.ab.length = L.p.V.length
 vv : L.vv = .slice none 0 0
instance {L : Lay} : Coe (DOk L) (LOk0 L) := ⟨DOk.toLOk0⟩
section
variable {L : Lay} {s s' : Ms} {ev : Value} {W W' : World}
theorem DR.below (h : DR L s ev W) (hL : LOk0 L) (b : Below W.heap.size W W') : DR L s ev W' :=
 ⟨h.row.below b h.row.lt, QA h.evs b, fun i g t h1 h2 => (h.rows i g t h1 h2).below b (h.rows i g t h1 h2).lt, hL.im _ _ h.im (.below (b.mono h.size)), Lf h.size b.size, h.sum, h.few⟩
theorem DR.drew (h : DR L s ev W) (hL : LOk0 L) (n : Nat) : DR L s ev (W.drewN n) := h.below hL ⟨rfl, rfl, rfl, Nat.le_refl _, fun _ _ => rfl⟩
theorem DR.setM (h : DR L s ev W) (hL : LOk0 L) (o : Only L.M W W') (hr : Row W' L.M 108 (L.dcells s' ev)) (h1 : s'.vals = s.vals) (h2 : s'.arrs = s.arrs) (h3 : s'.evs = s.evs) (h4 : s'.steps + s'.fuel = L.F) (h5 : s.steps ≤ s'.steps) : DR L s' ev W' :=
 ⟨hr, by rw [h3]; exact Qu h.evs o (fun e => by have := QB h.evs e; have := hL.lt; omega), fun i g t a b => by have := (h.rows i g t a b).only o (hL.alt g (Lg a)).2; unfold Ms.cont at this ⊢; rw [h1, h2]; exact this,
  hL.im _ _ h.im (.only o (.inr (.inl rfl))), by rw [o.size]; exact h.size, h4, by rw [h3]; have := h.few; omega⟩
theorem DR.far_new (h : DR L s ev W) {g : Nat} {W' : World} (hg : W.heap.size ≤ g) (hlt : g < W'.heap.size) : Far L ev W' g :=
 ⟨Lf h.size hg, fun e => by have := h.evs.lt _ e; omega, hlt⟩
theorem DR.setB (h : DR L s ev W) (hL : LOk0 L) {n g : Nat} {t : Int} (hg : L.ab[n]? = some g) (ht : L.p.V[n]? = some t) (o : Only g W W') (hr : Row W' g 3 (Qi (s'.cont n t)).toArray)
 (hv : ∀ i, i ≠ n → s'.vals[i]? = s.vals[i]? ∧ s'.arrs[i]? = s.arrs[i]?) (h3 : s'.evs = s.evs) (h4 : s'.steps = s.steps) (h5 : s'.fuel = s.fuel) : DR L s' ev W' := by
 have u := Lg hg;have l := hL.alt g u;refine ⟨?_, by rw [h3]; exact Qu h.evs o (fun e => by have := QB h.evs e; omega), fun i r x hi d => ?_, hL.im _ _ h.im (.only o (.inr (.inr (.inr u)))), by rw [o.size]; exact h.size, by rw [h4, h5]; exact h.sum, by rw [h3, h4]; exact h.few⟩
 · have := h.row.only o (fun e => l.2 e.symm);unfold Lay.dcells at this ⊢;rw [h4]; exact this
 · by_cases c : i = n
   · subst c;rw [hg] at hi; rw [ht] at d;cases hi; cases d;exact hr
   · have k : r ≠ g := by
      intro e;subst e;obtain ⟨v, m⟩ := La.1 hg;obtain ⟨w, q⟩ := La.1 hi;rcases LT i n with j | j | j
      · exact absurd (q.trans m.symm) (LQ.1 hL.and i n w v j)
      · exact c j
      · exact absurd (m.trans q.symm) (LQ.1 hL.and n i v w j)
     have := (h.rows i r x hi d).only o k;unfold Ms.cont at this ⊢;rw [(hv i c).1, (hv i c).2]; exact this
theorem RChg.onlyB {g : Nat} (o : Only g W W') (hg : g ∈ L.ab) : RChg L ev W ev W' := RChg.only o (.inr (.inr hg))
end
theorem Yu (k v : Int) (w : World) : Calls Tryz.prog 187 #[.int .i64 k, .int .i64 v] w fun e w' => e = Q6 k v ∧ w = w' := by
 go_enter Tryz.func187, Tryz.ntmps187
 go_wp2
 exact ⟨rfl, rfl, rfl⟩
theorem X5 (b : Bool) (w : World) : Calls Tryz.prog 189 #[.bool b] w fun e w' => e = .returned (.int .i64 (tr b)) ∧ w = w' := by
 cases b
 all_goals
  go_enter Tryz.func189, Tryz.ntmps189
  go_wp2
  go_ret
  exact ⟨rfl, rfl⟩
theorem AgL (tag a b c : Int) (w : World) (ht : 7 ≤ tag ∧ tag ≤ 17) (hp : Zf tag a b = some c) : Calls Tryz.prog 192 #[.int .i64 tag, .int .i64 a, .int .i64 b] w fun e w' => e = .returned (.int .i64 c) ∧ w = w' := by
 have h : tag = 7 ∨ tag = 8 ∨ tag = 9 ∨ tag = 12 ∨ tag = 13 ∨ tag = 14 ∨ tag = 15 ∨ tag = 16 ∨ tag = 17 ∨ tag = 10 ∨ tag = 11 := by omega
 clear ht;rcases h with rfl | rfl | rfl | rfl | rfl | rfl | rfl | rfl | rfl | rfl | rfl
 · have d : wrap64 (a + b) = c := by simpa [Zf] using hp
   subst d; clear hp;go_enter Tryz.func192, Tryz.ntmps192
   go_wp2
   go_ret
   exact ⟨QL (by first | rfl | simp), rfl⟩
 · have d : wrap64 (a - b) = c := by simpa [Zf] using hp
   subst d; clear hp;go_enter Tryz.func192, Tryz.ntmps192
   go_wp2
   go_ret
   exact ⟨QL (by first | rfl | simp), rfl⟩
 · have d : wrap64 (a * b) = c := by simpa [Zf] using hp
   subst d; clear hp;go_enter Tryz.func192, Tryz.ntmps192
   go_wp2
   go_ret
   exact ⟨QL (by first | rfl | simp), rfl⟩
 · have d : tr (decide (a = b)) = c := by simpa [Zf] using hp
   clear hp;go_enter Tryz.func192, Tryz.ntmps192
   go_wp2_with fail
   refine (X5 _ _).mono ?_;rintro e w' ⟨rfl, rfl⟩;go_wp2
   go_ret
   exact ⟨QL (by rw [← d]; all_goals (first | (congr 1; done) | (congr 1; rw [LR]; simp))), rfl⟩
 · have d : tr (decide (a ≠ b)) = c := by simpa [Zf] using hp
   clear hp;go_enter Tryz.func192, Tryz.ntmps192
   go_wp2_with fail
   refine (X5 _ _).mono ?_;rintro e w' ⟨rfl, rfl⟩;go_wp2
   go_ret
   exact ⟨QL (by rw [← d]; all_goals (first | (congr 1; done) | (congr 1; rw [LR]; simp))), rfl⟩
 · have d : tr (decide (a < b)) = c := by simpa [Zf] using hp
   clear hp;go_enter Tryz.func192, Tryz.ntmps192
   go_wp2_with fail
   refine (X5 _ _).mono ?_;rintro e w' ⟨rfl, rfl⟩;go_wp2
   go_ret
   exact ⟨QL (by rw [← d]; all_goals (first | (congr 1; done) | (congr 1; rw [LR]; simp))), rfl⟩
 · have d : tr (decide (a ≤ b)) = c := by simpa [Zf] using hp
   clear hp;go_enter Tryz.func192, Tryz.ntmps192
   go_wp2_with fail
   refine (X5 _ _).mono ?_;rintro e w' ⟨rfl, rfl⟩;go_wp2
   go_ret
   exact ⟨QL (by rw [← d]; all_goals (first | (congr 1; done) | (congr 1; rw [LR]; simp))), rfl⟩
 · have d : tr (decide (b < a)) = c := by simpa [Zf] using hp
   clear hp;go_enter Tryz.func192, Tryz.ntmps192
   go_wp2_with fail
   refine (X5 _ _).mono ?_;rintro e w' ⟨rfl, rfl⟩;go_wp2
   go_ret
   exact ⟨QL (by rw [← d]; all_goals (first | (congr 1; done) | (congr 1; rw [LR]; simp))), rfl⟩
 · have d : tr (decide (b ≤ a)) = c := by simpa [Zf] using hp
   clear hp;go_enter Tryz.func192, Tryz.ntmps192
   go_wp2_with fail
   refine (X5 _ _).mono ?_;rintro e w' ⟨rfl, rfl⟩;go_wp2
   go_ret
   exact ⟨QL (by rw [← d]; all_goals (first | (congr 1; done) | (congr 1; rw [LR]; simp))), rfl⟩
 · by_cases g : b = 0
   · simp [Zf, g] at hp
   have d : wrap64 (a.tdiv b) = c := by simpa [Zf, g] using hp
   subst d; clear hp;go_enter Tryz.func192, Tryz.ntmps192
   go_wp2
   go_ret
   exact ⟨QL (by first | rfl | simp), rfl⟩
 · by_cases g : b = 0
   · simp [Zf, g] at hp
   have d : a.tmod b = c := by simpa [Zf, g] using hp
   subst d; clear hp;go_enter Tryz.func192, Tryz.ntmps192
   go_wp2
   go_ret
   exact ⟨QL (by first | rfl | simp), rfl⟩
theorem AdO (tag a b : Int) (w : World) (hp : Zf tag a b = none) : Calls Tryz.prog 192 #[.int .i64 tag, .int .i64 a, .int .i64 b] w fun e w' => e = Q6 1 0 ∧ w = w' := by
 have c : b = 0 ∧ (tag = 10 ∨ tag = 11) := by
  unfold Zf at hp
  repeat' split at hp
  all_goals (first | (cases hp; done) | (refine ⟨?_, ?_⟩ <;> first | assumption | omega))
 obtain ⟨rfl, d⟩ := c;clear hp;rcases d with rfl | rfl
 all_goals
  go_enter Tryz.func192, Tryz.ntmps192
  go_wp2_with fail
  refine (Yu _ _ _).mono ?_
  rintro e w' ⟨rfl, rfl⟩
  simp only [Q6]
  go_wp2
  exact ⟨rfl, rfl, rfl⟩
theorem XT (A : Option Addr) (n c : Nat) (i : Int) (w : World) : Calls Tryz.prog 342 #[.slice A n c, .int .i64 i] w fun e w' => e = .returned (.bool (decide (0 ≤ i ∧ i < (n : Int)))) ∧ w = w' := by
 by_cases d : 0 ≤ i
 · by_cases g : i < (n : Int)
   · go_enter Tryz.func342, Tryz.ntmps342
     go_wp2
     go_ret
     exact ⟨Z4 (by simp; omega), rfl⟩
   · go_enter Tryz.func342, Tryz.ntmps342
     go_wp2
     go_ret
     exact ⟨Z4 (by simp; omega), rfl⟩
 · go_enter Tryz.func342, Tryz.ntmps342
   go_wp2
   go_ret
   exact ⟨Z4 (by simp; omega), rfl⟩
theorem Agl (A : Addr) (n c i : Nat) (v : Int) (w : World) (hi : i < n) (hc : w.cell? (A.add i) = some (.int .i64 v)) : Calls Tryz.prog 341 #[.slice (some A) n c, .int .i64 (i : Int)] w fun e w' => e = .returned (.tuple #[.int .i64 v, .bool true]) ∧ w = w' := by
 have d : decide (0 ≤ (i : Int) ∧ (i : Int) < (n : Int)) = true := by simp; omega
 have g : (i : Int) < (n : Int) := by omega
 go_enter Tryz.func341, Tryz.ntmps341
 go_wp2_with fail
 refine (XT (some A) n c (i : Int) w).mono ?_;rintro e w' ⟨rfl, rfl⟩;rw [d];clear d hi;go_wp2
 go_ret2
 exact ⟨rfl, rfl⟩
theorem Agk (A : Option Addr) (n c : Nat) (i : Int) (w : World) (hi : i < 0 ∨ (n : Int) ≤ i) : Calls Tryz.prog 341 #[.slice A n c, .int .i64 i] w fun e w' => e = .returned (.tuple #[.int .i64 0, .bool false]) ∧ w = w' := by
 have d : decide (0 ≤ i ∧ i < (n : Int)) = false := by simp; omega
 go_enter Tryz.func341, Tryz.ntmps341
 go_wp2_with fail
 refine (XT A n c i w).mono ?_;rintro e w' ⟨rfl, rfl⟩;rw [d];clear d hi;go_wp2
 go_ret2
 exact ⟨rfl, rfl⟩
theorem Agn (A : Option Addr) (n c : Nat) (i v : Int) (w : World) (hi : i < 0 ∨ (n : Int) ≤ i) : Calls Tryz.prog 343 #[.slice A n c, .int .i64 i, .int .i64 v] w fun e w' => e = .returned (.bool false) ∧ w = w' := by
 have d : decide (0 ≤ i ∧ i < (n : Int)) = false := by simp; omega
 go_enter Tryz.func343, Tryz.ntmps343
 go_wp2_with fail
 refine (XT A n c i w).mono ?_;rintro e w' ⟨rfl, rfl⟩;rw [d];clear d hi;go_wp2
 go_ret
 exact ⟨rfl, rfl⟩
theorem Ago (g n c i : Nat) (v : Int) (cur : Array Value) (w : World) (hi : i < n) (hn : n ≤ cur.size) (hr : Row w g 3 cur) : Calls Tryz.prog 343 #[.slice (some ⟨g, 0, none⟩) n c, .int .i64 (i : Int), .int .i64 v] w fun e w' => e = .returned (.bool true) ∧ Only g w w' ∧ Row w' g 3 (cur.setIfInBounds i (.int .i64 v)) := by
 have h : decide (0 ≤ (i : Int) ∧ (i : Int) < (n : Int)) = true := by simp; omega
 have l : (i : Int) < (n : Int) := by omega
 have d := Adh cur i (.int .i64 v) (by omega);have k := Lh hr;clear hr;go_enter Tryz.func343, Tryz.ntmps343
 go_wp2_with fail
 refine (XT (some ⟨g, 0, none⟩) n c (i : Int) w).mono ?_;rintro e w' ⟨rfl, rfl⟩;rw [h];have j := Lh hi;clear h hi;go_wp2_with (refine Qs _ _ _ rfl ?_)
 refine Stop.to ?_;refine Qp rfl 3 _ _ rfl g i rfl _ rfl [.int .i64 v] rfl 3 _ _ k.out (by kernel_rfl) (by have := j.out; simp; omega) (by simp [Value.oneCell']) d ?_;intro p o m;go_wp2
 go_ret
 exact ⟨rfl, m, o⟩
theorem Aai (g : Nat) (i v : Int) (w : World) (hc : w.cell? ⟨g, 0, none⟩ = some (.int .i64 v)) : Calls Tryz.prog 344 #[.agg #[.pointer (some ⟨g, 0, none⟩)], .int .i64 i] w fun e w' => e = .returned (.tuple #[.int .i64 v, .bool true]) ∧ Below w.heap.size w w' := by
 go_enter Tryz.func344, Tryz.ntmps344
 go_wp2_with (refine Qn _ _ rfl ?_)
 refine Stop.to ?_;refine Qe rfl 115 _ rfl #[.pointer (some ⟨g, 0, none⟩)] rfl ?_;intro G m j k h;have d := h.mono j;have n := k.cellv (i := 0) (v := .pointer (some ⟨g, 0, none⟩)) rfl;have c := World.block_lt_of_cell? _ _ hc;have o : m.cell? ⟨g, 0, none⟩ = some (.int .i64 v) := (d.cell c).trans hc;have l := Lh d;clear k h j hc c d;go_wp2
 go_ret2
 exact ⟨rfl, l.out⟩
theorem YD (g : Nat) (i v u : Int) (w : World) (hr : Row w g 3 #[.int .i64 u]) : Calls Tryz.prog 345 #[.agg #[.pointer (some ⟨g, 0, none⟩)], .int .i64 i, .int .i64 v] w fun e w' => e = .returned (.bool true) ∧ ∃ w1, Below w.heap.size w w1 ∧ Only g w1 w' ∧ Row w' g 3 #[.int .i64 v] := by
 have d := Lh hr;clear hr;go_enter Tryz.func345, Tryz.ntmps345
 go_wp2_with (refine Qn _ _ rfl ?_)
 refine Stop.to ?_;refine Qe rfl 115 _ rfl #[.pointer (some ⟨g, 0, none⟩)] rfl ?_;intro G w1 j k h;have c := h.mono j;have n := k.cellv (i := 0) (v := .pointer (some ⟨g, 0, none⟩)) rfl;have m := Lh (d.out.below c d.out.lt);have l := Lh c;clear k h j c;go_wp2_with (refine Qs _ _ _ rfl ?_)
 refine Stop.to ?_;refine Qp rfl 3 _ _ rfl g 0 rfl _ rfl [.int .i64 v] rfl 3 _ #[.int .i64 v] m.out (by kernel_rfl) (by simp) (by simp [Value.oneCell']) rfl ?_;intro q p o;clear n;go_wp2
 go_ret
 exact ⟨rfl, w1, l.out, o, p⟩
section
variable {g n c : Nat}
theorem Afc (f : Nat) (w : World) : (method (f + 1) 109 (.slice (some ⟨g, 0, none⟩) n c) "offshoot/direct.get").run Tryz.prog w = .ok (341, .slice (some ⟨g, 0, none⟩) n c) w := by kernel_rfl
theorem Afd (f : Nat) (w : World) : (method (f + 1) 109 (.slice (some ⟨g, 0, none⟩) n c) "offshoot/direct.set").run Tryz.prog w = .ok (343, .slice (some ⟨g, 0, none⟩) n c) w := by kernel_rfl
theorem AiV (f : Nat) (w : World) : (method (f + 1) 115 (.agg #[.pointer (some ⟨g, 0, none⟩)]) "offshoot/direct.get").run Tryz.prog w = .ok (344, .agg #[.pointer (some ⟨g, 0, none⟩)]) w := by kernel_rfl
theorem Afe (f : Nat) (w : World) : (method (f + 1) 115 (.agg #[.pointer (some ⟨g, 0, none⟩)]) "offshoot/direct.set").run Tryz.prog w = .ok (345, .agg #[.pointer (some ⟨g, 0, none⟩)]) w := by kernel_rfl
end
theorem AjS (L : Lay) (hL : DOk L) (s : Ms) (ev : Value) (n : Nat) (t at_ v : Int) (W : World) (h : DR L s ev W) (ht : L.p.V[n]? = some t) (h0 : Qy t = 0) (hv : s.vals[n]? = some v) : Calls Tryz.prog 188 #[.pointer (some ⟨L.M, 0, none⟩), .int .i64 (n : Int), .int .i64 at_] W fun e W' => e = .returned (.int .i64 v) ∧ Below W.heap.size W W' := by
 obtain ⟨g, k⟩ : ∃ g, L.ab[n]? = some g := ⟨_, Lb (by rw [hL.alen]; exact (La.1 ht).1)⟩;obtain ⟨u, j, c⟩ := hL.cells W h.im n g t k ht;have d := h.rows n g t k ht;have l := h.row.cellv (i := 1) (v := .slice L.aa L.ab.length L.acap) rfl;rw [j] at l;have r : (n : Int) < (L.ab.length : Int) := by have := (La.1 k).1; omega
 rw [show s.cont n t = [v] by unfold Ms.cont; rw [if_pos h0, hv]; rfl] at d;rw [show Jy t g = .iface 115 (.agg #[.pointer (some ⟨g, 0, none⟩)]) by unfold Jy; rw [if_pos h0]] at c;have m := d.cellv (i := 0) (v := .int .i64 v) rfl;have q := AiV (g := g);clear h hL k ht j d h0 hv;go_enter Tryz.func188, Tryz.ntmps188
 go_wp2_with fail
 refine (Aai g at_ v W m).mono ?_;rintro e w ⟨rfl, o⟩;clear l c m q;go_wp2
 go_ret
 exact ⟨rfl, o⟩
theorem AjR (L : Lay) (hL : DOk L) (s : Ms) (ev : Value) (n : Nat) (t i v : Int) (W : World) (h : DR L s ev W) (ht : L.p.V[n]? = some t) (h0 : Qy t ≠ 0) (hs : LenS L.p.V s) (hi : ¬ (i < 0 ∨ ((s.arr (n : Int)).length : Int) ≤ i)) (hv : (s.arr (n : Int))[i.toNat]? = some v) : Calls Tryz.prog 188 #[.pointer (some ⟨L.M, 0, none⟩), .int .i64 (n : Int), .int .i64 i] W fun e W' => e = .returned (.int .i64 v) ∧ Below W.heap.size W W' := by
 obtain ⟨k, rfl⟩ : ∃ k : Nat, i = (k : Int) := ⟨i.toNat, by omega⟩;obtain ⟨g, r⟩ : ∃ g, L.ab[n]? = some g := ⟨_, Lb (by rw [hL.alen]; exact (La.1 ht).1)⟩;obtain ⟨ad, l, d⟩ := hL.cells W h.im n g t r ht;have j := h.rows n g t r ht;have w := h.row.cellv (i := 1) (v := .slice L.aa L.ab.length L.acap) rfl;rw [l] at w;have z : (n : Int) < (L.ab.length : Int) := by have := (La.1 r).1; omega
 have u := hs.arr_len (n := (n : Int)) (t := t) (by rw [Li]; exact ht);have q : (Qy t).toNat = (s.arr (n : Int)).length := by omega
 rw [show s.cont n t = s.arr (n : Int) by unfold Ms.cont Ms.arr; rw [if_neg h0, Li]] at j;rw [show Jy t g = .iface 109 (.slice (some ⟨g, 0, none⟩) (s.arr (n : Int)).length (s.arr (n : Int)).length) by unfold Jy; rw [if_neg h0, q]] at d;rw [Li] at hv;have o : k < (s.arr (n : Int)).length := (La.1 hv).1
 have x : W.cell? ((⟨g, 0, none⟩ : Addr).add k) = some (.int .i64 v) := by
  have := j.cellv (i := k) (v := .int .i64 v) (by simp [Qi, hv]);unfold Addr.add;by_cases h0 : k = 0
  · subst h0; exact this
  · rw [if_neg h0]; simpa using this
 have y := Afc (g := g) (n := (s.arr (n : Int)).length) (c := (s.arr (n : Int)).length);generalize (s.arr (n : Int)).length = m at *;clear h hL r ht l j h0 hv hs u q hi;go_enter Tryz.func188, Tryz.ntmps188
 go_wp2_with fail
 refine (Agl ⟨g, 0, none⟩ m m k v W o x).mono ?_;rintro e w1 ⟨rfl, rfl⟩;clear w d x y o;go_wp2
 go_ret
 exact ⟨rfl, Below.refl _ _⟩
theorem Aix (L : Lay) (hL : DOk L) (s : Ms) (ev : Value) (n : Nat) (t i : Int) (W : World) (h : DR L s ev W) (ht : L.p.V[n]? = some t) (h0 : Qy t ≠ 0) (hs : LenS L.p.V s) (hi : i < 0 ∨ ((s.arr (n : Int)).length : Int) ≤ i) : Calls Tryz.prog 188 #[.pointer (some ⟨L.M, 0, none⟩), .int .i64 (n : Int), .int .i64 i] W fun e W' => e = Q6 2 0 ∧ Below W.heap.size W W' := by
 obtain ⟨g, o⟩ : ∃ g, L.ab[n]? = some g := ⟨_, Lb (by rw [hL.alen]; exact (La.1 ht).1)⟩;obtain ⟨y, j, d⟩ := hL.cells W h.im n g t o ht;have k := h.rows n g t o ht;have r := h.row.cellv (i := 1) (v := .slice L.aa L.ab.length L.acap) rfl;rw [j] at r;have x : (n : Int) < (L.ab.length : Int) := by have := (La.1 o).1; omega
 have q := hs.arr_len (n := (n : Int)) (t := t) (by rw [Li]; exact ht);have l : (Qy t).toNat = (s.arr (n : Int)).length := by omega
 rw [show Jy t g = .iface 109 (.slice (some ⟨g, 0, none⟩) (s.arr (n : Int)).length (s.arr (n : Int)).length) by unfold Jy; rw [if_neg h0, l]] at d;have w := Afc (g := g) (n := (s.arr (n : Int)).length) (c := (s.arr (n : Int)).length);generalize (s.arr (n : Int)).length = m at *;clear h hL o ht j k h0 hs q l;have u := Lh hi;clear hi;go_enter Tryz.func188, Tryz.ntmps188
 go_wp2_with fail
 refine (Agk (some ⟨g, 0, none⟩) m m i W u.out).mono ?_;rintro e w1 ⟨rfl, rfl⟩;clear r d w;go_wp2_with fail
 refine (Yu _ _ _).mono ?_;rintro e z ⟨rfl, rfl⟩;simp only [Q6];go_wp2
 exact ⟨rfl, rfl, Below.refl _ _⟩
theorem Ag0 (L : Lay) (hL : DOk L) (s : Ms) (ev : Value) (n : Nat) (t i v : Int) (W : World) (h : DR L s ev W) (ht : L.p.V[n]? = some t) (h0 : Qy t ≠ 0) (hs : LenS L.p.V s) (hi : i < 0 ∨ ((s.arr (n : Int)).length : Int) ≤ i) : Calls Tryz.prog 249 #[.pointer (some ⟨L.M, 0, none⟩), .int .i64 (n : Int), .int .i64 i, .int .i64 v] W fun e W' => e = Q6 2 0 ∧ Below W.heap.size W W' := by
 obtain ⟨g, o⟩ : ∃ g, L.ab[n]? = some g := ⟨_, Lb (by rw [hL.alen]; exact (La.1 ht).1)⟩;obtain ⟨y, j, d⟩ := hL.cells W h.im n g t o ht;have k := h.rows n g t o ht;have r := h.row.cellv (i := 1) (v := .slice L.aa L.ab.length L.acap) rfl;rw [j] at r;have x : (n : Int) < (L.ab.length : Int) := by have := (La.1 o).1; omega
 have q := hs.arr_len (n := (n : Int)) (t := t) (by rw [Li]; exact ht);have l : (Qy t).toNat = (s.arr (n : Int)).length := by omega
 rw [show Jy t g = .iface 109 (.slice (some ⟨g, 0, none⟩) (s.arr (n : Int)).length (s.arr (n : Int)).length) by unfold Jy; rw [if_neg h0, l]] at d;have w := Afd (g := g) (n := (s.arr (n : Int)).length) (c := (s.arr (n : Int)).length);generalize (s.arr (n : Int)).length = m at *;clear h hL o ht j k h0 hs q l;have u := Lh hi;clear hi;go_enter Tryz.func249, Tryz.ntmps249
 go_wp2_with fail
 refine (Agn (some ⟨g, 0, none⟩) m m i v W u.out).mono ?_;rintro e w1 ⟨rfl, rfl⟩;clear r d w;go_wp2_with fail
 refine (Yu _ _ _).mono ?_;rintro e z ⟨rfl, rfl⟩;simp only [Q6];go_wp2
 exact ⟨rfl, rfl, Below.refl _ _⟩
theorem AgY (L : Lay) (hL : DOk L) (s s2 s3 : Ms) (ev : Value) (n : Nat) (t at_ x : Int) (g : Nat) (W : World) (h : DR L s ev W) (ad : Addr) (had : L.aa = some ad) (hnl : (n : Int) < (L.ab.length : Int)) (hcell : W.cell? (ad.add n) = some (.iface 115 (.agg #[.pointer (some ⟨g, 0, none⟩)])))
 (gm : ∀ (f : Nat) (w : World), (method (f + 1) 115 (.agg #[.pointer (some ⟨g, 0, none⟩)]) "offshoot/direct.set").run Tryz.prog w = .ok (345, .agg #[.pointer (some ⟨g, 0, none⟩)]) w)
 (hset : Calls Tryz.prog 345 #[.agg #[.pointer (some ⟨g, 0, none⟩)], .int .i64 at_, .int .i64 x] W fun e w1 => e = .returned (.bool true) ∧ DR L s2 ev w1 ∧ RChg L ev W ev w1)
 (h1 : s3.vals = s2.vals) (h2 : s3.arrs = s2.arrs) (h3 : s3.steps = s2.steps) (h4 : s3.fuel = s2.fuel) (h5 : s3.evs = s2.evs ++ [⟨(n : Int), at_, x⟩]) (h6 : s2.evs.length < s2.steps) :
 Calls Tryz.prog 249 #[.pointer (some ⟨L.M, 0, none⟩), .int .i64 (n : Int), .int .i64 at_, .int .i64 x] W fun e W' => (∃ u, e = .returned u) ∧ ∃ ev', DR L s3 ev' W' ∧ RChg L ev W ev' W' := by
 have c1 := h.row.cellv (i := 1) (v := .slice L.aa L.ab.length L.acap) rfl;rw [had] at c1;obtain ⟨i0, an, ao, ap, aq⟩ := info_parts Abo;have HL := Lh hL;have ac := Lh hset;have H1 := Lh h1;have H2 := Lh h2;have H3 := Lh h3;have H4 := Lh h4;have H5 := Lh h5;have hF := hL.F;clear h hL had hset h1 h2 h3 h4 h5;go_enter Tryz.func249, Tryz.ntmps249
 go_wp2_with fail
 refine ac.out.mono ?_;rintro e w1 ⟨rfl, j, ah⟩;clear c1 hcell gm;have c6 := j.row.cellv (i := 6) (v := ev) rfl;have aj := j.sum;have ar := j.size;have au : s2.evs.length ≤ 20001 := by omega
 have ha := j.evs.alloc (.cells (EvV.cells ⟨(n : Int), at_, x⟩).toArray 189);have HA := Lh ha;have y := Lh j;have am := Lh ah;clear j ah ha aj;go_wp2_with (at_builtin; refine wpList_append_own_at _ rfl (.tmp 25) (.tmp 30) 38 rfl L.b1 189 i0 _ 3 24 Tryz.underlying38 an ao ap aq rfl (by decide) ev s2.evs.length (s2.evs.flatMap EvV.cells) rfl HA.out ⟨w1.heap.size, 0, none⟩ 1 1 (EvV.cells ⟨(n : Int), at_, x⟩) rfl rfl (ZZ _ _ _) (XI _) (by unfold maxLen; omega) (by omega) (by simp; omega) ?_)
 intro ev' W3 o d _ ag;have b2 : Below w1.heap.size w1 (w1.alloc (.cells (EvV.cells ⟨(n : Int), at_, x⟩).toArray 189)) := (Below.refl _ _).alloc (Nat.le_refl _) _;have c := y.out.below HL.out b2;have r3 := c.row.grown d (Qz c.evs c.row (by decide))
 have g3 : RChg L ev w1 ev' W3 := (RChg.below b2).trans (.grown d (fun k e => by
  rcases ag with h | h
  · exact .inl (h ▸ e)
  · rw [h] at e; injection e with e; exact .inr (by simp only [World.alloc, Array.size_push] at *; omega)))
 have q : ∀ (i g : Nat) (t : Int), L.ab[i]? = some g → L.p.V[i]? = some t → Row W3 g 3 (Qi (s3.cont i t)).toArray := fun i g t h1 h2 => by
  have := (c.rows i g t h1 h2).grown d (Qz c.evs (c.rows i g t h1 h2) (by decide));unfold Ms.cont at this ⊢;rw [H1.out, H2.out]; exact this
 have ak := HL.out.im _ _ c.im (.grown d c.size (fun k e => QB c.evs e));have al : L.b1 ≤ W3.heap.size := Lf c.size d.size;have ai := ZO o;have R3 := Lh r3;have G3 := Lh g3;have m := Lh q;have l := Lh o;have ae := Lh ak;have af := Lh al;have r := Lh y.out.sum;clear o d ag b2 c r3 g3 HA y c6 q ak al;go_wp2_with (refine Qs _ _ _ rfl ?_)
 refine Stop.to ?_;refine Qp rfl 38 _ _ rfl L.M 6 rfl _ rfl [ev'] (by cases ev' <;> first | rfl | cases ai) 108 _ (L.dcells s3 ev') R3.out (by kernel_rfl) (by show 6 + 1 ≤ 7; omega) (by simpa using ai) (by unfold Lay.dcells; rw [H3.out]; rfl) ?_
 intro W4 r4 z
 have m4 : DR L s3 ev' W4 := ⟨r4, by have := Qu l.out z (fun e => by have := QB l.out e; have := HL.out.lt; omega); rw [H5.out]; simpa using this,
  fun i g t h1 h2 => (m.out i g t h1 h2).only z (HL.out.alt g (Lg h1)).2,
  HL.out.im _ _ ae.out (.only z (.inr (.inl rfl))), by rw [z.size]; exact af.out, by rw [H3.out, H4.out]; exact r.out, by rw [H5.out, H3.out]; simp; omega⟩
 have M4 := Lh m4;have G4 := Lh (am.out.trans (G3.out.trans (RChg.only z (.inl rfl))));clear m4 r4 z R3 G3 m l ae r af;go_wp2
 go_end0
 exact ⟨⟨_, rfl⟩, ev', M4.out, G4.out⟩
theorem AgZ (L : Lay) (hL : DOk L) (s s2 s3 : Ms) (ev : Value) (n : Nat) (t at_ x : Int) (g m : Nat) (W : World) (h : DR L s ev W) (ad : Addr) (had : L.aa = some ad) (hnl : (n : Int) < (L.ab.length : Int)) (hcell : W.cell? (ad.add n) = some (.iface 109 (.slice (some ⟨g, 0, none⟩) m m)))
 (gm : ∀ (f : Nat) (w : World), (method (f + 1) 109 (.slice (some ⟨g, 0, none⟩) m m) "offshoot/direct.set").run Tryz.prog w = .ok (343, .slice (some ⟨g, 0, none⟩) m m) w)
 (hset : Calls Tryz.prog 343 #[.slice (some ⟨g, 0, none⟩) m m, .int .i64 at_, .int .i64 x] W fun e w1 => e = .returned (.bool true) ∧ DR L s2 ev w1 ∧ RChg L ev W ev w1)
 (h1 : s3.vals = s2.vals) (h2 : s3.arrs = s2.arrs) (h3 : s3.steps = s2.steps) (h4 : s3.fuel = s2.fuel) (h5 : s3.evs = s2.evs ++ [⟨(n : Int), at_, x⟩]) (h6 : s2.evs.length < s2.steps) :
 Calls Tryz.prog 249 #[.pointer (some ⟨L.M, 0, none⟩), .int .i64 (n : Int), .int .i64 at_, .int .i64 x] W fun e W' => (∃ u, e = .returned u) ∧ ∃ ev', DR L s3 ev' W' ∧ RChg L ev W ev' W' := by
 have c1 := h.row.cellv (i := 1) (v := .slice L.aa L.ab.length L.acap) rfl;rw [had] at c1;obtain ⟨i0, an, ao, ap, aq⟩ := info_parts Abo;have HL := Lh hL;have ac := Lh hset;have H1 := Lh h1;have H2 := Lh h2;have H3 := Lh h3;have H4 := Lh h4;have H5 := Lh h5;have hF := hL.F;clear h hL had hset h1 h2 h3 h4 h5;go_enter Tryz.func249, Tryz.ntmps249
 go_wp2_with fail
 refine ac.out.mono ?_;rintro e w1 ⟨rfl, j, ah⟩;clear c1 hcell gm;have c6 := j.row.cellv (i := 6) (v := ev) rfl;have aj := j.sum;have ar := j.size;have au : s2.evs.length ≤ 20001 := by omega
 have ha := j.evs.alloc (.cells (EvV.cells ⟨(n : Int), at_, x⟩).toArray 189);have HA := Lh ha;have z := Lh j;have am := Lh ah;clear j ah ha aj;go_wp2_with (at_builtin; refine wpList_append_own_at _ rfl (.tmp 25) (.tmp 30) 38 rfl L.b1 189 i0 _ 3 24 Tryz.underlying38 an ao ap aq rfl (by decide) ev s2.evs.length (s2.evs.flatMap EvV.cells) rfl HA.out ⟨w1.heap.size, 0, none⟩ 1 1 (EvV.cells ⟨(n : Int), at_, x⟩) rfl rfl (ZZ _ _ _) (XI _) (by unfold maxLen; omega) (by omega) (by simp; omega) ?_)
 intro ev' W3 q d _ ag;have b2 : Below w1.heap.size w1 (w1.alloc (.cells (EvV.cells ⟨(n : Int), at_, x⟩).toArray 189)) := (Below.refl _ _).alloc (Nat.le_refl _) _;have c := z.out.below HL.out b2;have r3 := c.row.grown d (Qz c.evs c.row (by decide))
 have g3 : RChg L ev w1 ev' W3 := (RChg.below b2).trans (.grown d (fun k e => by
  rcases ag with h | h
  · exact .inl (h ▸ e)
  · rw [h] at e; injection e with e; exact .inr (by simp only [World.alloc, Array.size_push] at *; omega)))
 have r : ∀ (i g : Nat) (t : Int), L.ab[i]? = some g → L.p.V[i]? = some t → Row W3 g 3 (Qi (s3.cont i t)).toArray := fun i g t h1 h2 => by
  have := (c.rows i g t h1 h2).grown d (Qz c.evs (c.rows i g t h1 h2) (by decide));unfold Ms.cont at this ⊢;rw [H1.out, H2.out]; exact this
 have ak := HL.out.im _ _ c.im (.grown d c.size (fun k e => QB c.evs e));have al : L.b1 ≤ W3.heap.size := Lf c.size d.size;have ai := ZO q;have R3 := Lh r3;have G3 := Lh g3;have o := Lh r;have l := Lh q;have ae := Lh ak;have af := Lh al;have y := Lh z.out.sum;clear q d ag b2 c r3 g3 HA z c6 r ak al;go_wp2_with (refine Qs _ _ _ rfl ?_)
 refine Stop.to ?_;refine Qp rfl 38 _ _ rfl L.M 6 rfl _ rfl [ev'] (by cases ev' <;> first | rfl | cases ai) 108 _ (L.dcells s3 ev') R3.out (by kernel_rfl) (by show 6 + 1 ≤ 7; omega) (by simpa using ai) (by unfold Lay.dcells; rw [H3.out]; rfl) ?_
 intro W4 r4 o4
 have m4 : DR L s3 ev' W4 := ⟨r4, by have := Qu l.out o4 (fun e => by have := QB l.out e; have := HL.out.lt; omega); rw [H5.out]; simpa using this,
  fun i g t h1 h2 => (o.out i g t h1 h2).only o4 (HL.out.alt g (Lg h1)).2,
  HL.out.im _ _ ae.out (.only o4 (.inr (.inl rfl))), by rw [o4.size]; exact af.out, by rw [H3.out, H4.out]; exact y.out, by rw [H5.out, H3.out]; simp; omega⟩
 have M4 := Lh m4;have G4 := Lh (am.out.trans (G3.out.trans (RChg.only o4 (.inl rfl))));clear m4 r4 o4 R3 G3 o l ae y af;go_wp2
 go_end0
 exact ⟨⟨_, rfl⟩, ev', M4.out, G4.out⟩
theorem Aiz (L : Lay) (hL : DOk L) (s : Ms) (ev : Value) (n : Nat) (t x u : Int) (W : World) (h : DR L s ev W) (ht : L.p.V[n]? = some t) (h0 : Qy t = 0) (hv : s.vals[n]? = some u) (hf : s.evs.length < s.steps) : Calls Tryz.prog 249 #[.pointer (some ⟨L.M, 0, none⟩), .int .i64 (n : Int), .int .i64 (-1), .int .i64 x] W fun e W' => (∃ u, e = .returned u) ∧ ∃ ev', DR L (s.setv (n : Int) x) ev' W' ∧ RChg L ev W ev' W' := by
 obtain ⟨g, k⟩ : ∃ g, L.ab[n]? = some g := ⟨_, Lb (by rw [hL.alen]; exact (La.1 ht).1)⟩;obtain ⟨r, j, c⟩ := hL.cells W h.im n g t k ht;have d := h.rows n g t k ht;have y := h.row.cellv (i := 1) (v := .slice L.aa L.ab.length L.acap) rfl;rw [j] at y;have m : (n : Int) < (L.ab.length : Int) := by have := (La.1 k).1; omega
 rw [show s.cont n t = [u] by unfold Ms.cont; rw [if_pos h0, hv]; rfl] at d;rw [show Jy t g = .iface 115 (.agg #[.pointer (some ⟨g, 0, none⟩)]) by unfold Jy; rw [if_pos h0]] at c;have l : n < s.vals.length := (La.1 hv).1;refine AgY L hL s { s with vals := s.vals.set n x } (s.setv (n : Int) x) ev n t (-1) x g W h r j m c (fun f w => Afe (g := g) f w) ?_ (by simp [Ms.setv]) rfl rfl rfl rfl hf;refine (YD g (-1) x u W d).mono ?_;rintro e w1 ⟨rfl, w0, o, q, z⟩;exact ⟨rfl, (h.below hL o).setB hL k ht q (by unfold Ms.cont; rw [if_pos h0]; simp only [Nv l]; exact z) (fun i hi => ⟨by simp [Ne.symm hi], rfl⟩) rfl rfl rfl, (RChg.below o : RChg L ev W ev w0).trans (RChg.onlyB q (Lg k))⟩
theorem Aiy (L : Lay) (hL : DOk L) (s : Ms) (ev : Value) (n : Nat) (t i x : Int) (W : World) (h : DR L s ev W) (ht : L.p.V[n]? = some t) (h0 : Qy t ≠ 0) (hs : LenS L.p.V s) (hi : ¬ (i < 0 ∨ ((s.arr (n : Int)).length : Int) ≤ i)) (hf : s.evs.length < s.steps) : Calls Tryz.prog 249 #[.pointer (some ⟨L.M, 0, none⟩), .int .i64 (n : Int), .int .i64 i, .int .i64 x] W fun e W' => (∃ u, e = .returned u) ∧ ∃ ev', DR L (s.seta (n : Int) i x) ev' W' ∧ RChg L ev W ev' W' := by
 obtain ⟨k, rfl⟩ : ∃ k : Nat, i = (k : Int) := ⟨i.toNat, by omega⟩;obtain ⟨g, l⟩ : ∃ g, L.ab[n]? = some g := ⟨_, Lb (by rw [hL.alen]; exact (La.1 ht).1)⟩;obtain ⟨y, j, c⟩ := hL.cells W h.im n g t l ht;have d := h.rows n g t l ht;have z := h.row.cellv (i := 1) (v := .slice L.aa L.ab.length L.acap) rfl;rw [j] at z;have o : (n : Int) < (L.ab.length : Int) := by have := (La.1 l).1; omega
 have ac := hs.arr_len (n := (n : Int)) (t := t) (by rw [Li]; exact ht);have q : (Qy t).toNat = (s.arr (n : Int)).length := by omega
 have m : n < s.arrs.length := by rw [hs.alen]; exact (La.1 ht).1
 rw [show s.cont n t = s.arr (n : Int) by unfold Ms.cont Ms.arr; rw [if_neg h0, Li]] at d;rw [show Jy t g = .iface 109 (.slice (some ⟨g, 0, none⟩) (s.arr (n : Int)).length (s.arr (n : Int)).length) by unfold Jy; rw [if_neg h0, q]] at c;refine AgZ L hL s { s with arrs := s.arrs.set n ((s.arr (n : Int)).set k x) } (s.seta (n : Int) (k : Int) x) ev n t (k : Int) x g _ W h y j o c (fun f w => Afd (g := g) f w) ?_ rfl (by simp [Ms.seta]) rfl rfl rfl hf;refine (Ago g _ _ k x _ W (by omega) (by simp [Qi]) d).mono ?_;rintro e w1 ⟨rfl, r, r1⟩;refine ⟨rfl, h.setB hL l ht r ?_ (fun i hi => ⟨rfl, by simp [Ne.symm hi]⟩) rfl rfl rfl, RChg.onlyB r (Lg l)⟩;unfold Ms.cont;rw [if_neg h0];simp only [Nv m, LN];have : (Qi ((s.arr (n : Int)).set k x)).toArray = (Qi (s.arr (n : Int))).toArray.setIfInBounds k (.int .i64 x) := by simp [Qi, List.map_set]
 rw [this]; exact r1
end Go.Proofs.YtdcmppdhdcjpfaaGreat
