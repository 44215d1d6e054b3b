/- Lemmas for VerdictJustP. -/
import Derived.Test.YtdcmppdhdcjpfaaGreatZy1
import Derived.Test.YtdcmppdhdcjpfaaGreatZy11
import Derived.Test.YtdcmppdhdcjpfaaGreatZy18
import Derived.Test.YtdcmppdhdcjpfaaGreatZy31
import Derived.Test.YtdcmppdhdcjpfaaGreatZy24
import Derived.WalkLawsBesides
set_option linter.unusedVariables false
set_option linter.unusedSimpArgs false
set_option maxRecDepth 100000
set_option maxHeartbeats 16000000
namespace Go.Proofs.YtdcmppdhdcjpfaaGreat
open Go.RowKit Go.Deep
def Ahl (p : PgV) (ts : List IntsV) (fuel : Int) : Bool := AfY p && (Eh ts && (decide (p.body.length ≤ 40) && (decide (ts.length ≤ 5) && (decide (fuel ≤ 200) || decide (10000 < fuel)))))
theorem AiO {p : PgV} {ts : List IntsV} {fuel : Int} (h : Ahl p ts fuel = true) : p.body.length ≤ 40 ∧ p.V.length ≤ 20 ∧ ts.length ≤ 5 ∧ (∀ x ∈ ts, x.l.length ≤ 40) ∧ (fuel ≤ 200 ∨ 10000 < fuel) := by
 unfold Ahl AfY Eh at h;simp only [Nm, Bool.or_eq_true, decide_eq_true_eq] at h;exact ⟨h.2.2.1, h.1.2, h.2.2.2.1, h.2.1.2, h.2.2.2.2⟩
theorem AfX (p : PgV) (A : Option Addr) (cap : Nat) (ts : List IntsV) (fuel : Int) (w : World) (hr : Rd w A (Xf ts)) : Calls Tryz.prog 24 #[.agg p.cells, .slice A ts.length cap, .int .i64 fuel] w fun e w' => e = .returned (.bool (Ahl p ts fuel)) ∧ Below w.heap.size w w' := by
 have Hr := Lh hr;clear hr;have d : Hid (∀ {β : Bool}, (AfY p && (Eh ts && (decide (p.body.length ≤ 40) && (decide (ts.length ≤ 5) && (decide (fuel ≤ 200) || decide (10000 < fuel)))))) = β → Ahl p ts fuel = β) := fun h => h
 go_enter Tryz.func24, Tryz.ntmps24
 go_wp2_with (refine Qn _ _ rfl ?_)
 refine Stop.to ?_;refine Qe rfl 25 _ rfl p.cells rfl ?_;intro G Gw Gh l Gb;have o := (Below.refl w.heap.size w).trans (Gb.mono Gh);clear Gb Gh;go_wp2_with (refine wpList_load_row rfl 25 _ rfl G rfl 25 p.cells (0, 0) _ l Tryz.underlying25 rfl (by kernel_rfl) ?_)
 refine (AiP p Gw).mono ?_;rintro e w1 ⟨rfl, z⟩;replace l := l.below z l.lt;replace o := o.trans (z.mono o.size);have k := Lh o;have u := Ahk A cap ts w1 (Hr.out.go o);obtain ⟨n, hn⟩ : ∃ n, n = ts.length := ⟨_, rfl⟩;rw [← hn] at d u ⊢;have c2 := l.cellv (i := 2) (v := .slice p.ba p.body.length p.bcap) rfl;obtain ⟨m, hm⟩ : ∃ m, m = p.body.length := ⟨_, rfl⟩;rw [← hm] at d c2;obtain ⟨q, hq⟩ : ∃ q, q = AfY p := ⟨_, rfl⟩;rw [← hq] at d ⊢;obtain ⟨q2, t⟩ : ∃ q, q = Eh ts := ⟨_, rfl⟩;rw [← t] at d u;have HT := Lh u;clear z o l Hr hn hm hq t u;cases q
 · go_wp2_with fail
   go_ret
   exact ⟨Z5 (d.out (by simp)), k.out⟩
 go_wp2_with fail
 refine HT.out.mono ?_;rintro e w2 ⟨rfl, rfl⟩;clear HT;cases q2
 · go_wp2_with fail
   go_ret
   exact ⟨Z5 (d.out (by simp)), k.out⟩
 by_cases c : m ≤ 40;rotate_left
 · have aa : ¬ (m : Int) ≤ 40 := by omega
   have ac : 40 < (m : Int) := by omega
   have H1 := Lh c;clear c;go_wp2_with fail
   go_ret
   exact ⟨Z5 (d.out (by have c := H1.out; simp [c])), k.out⟩
 have aa : (m : Int) ≤ 40 := by omega
 by_cases r : n ≤ 5;rotate_left
 · have ab : ¬ (n : Int) ≤ 5 := by omega
   have ad : 5 < (n : Int) := by omega
   have H2 := Lh r;clear c r;go_wp2_with fail
   go_ret
   exact ⟨Z5 (d.out (by have r := H2.out; simp [r])), k.out⟩
 have ab : (n : Int) ≤ 5 := by omega
 have j := Lh (And.intro c r);clear c r;by_cases g : fuel ≤ 200
 · have x := Lh g;go_wp2_with fail
   go_ret
   exact ⟨Z5 (d.out (by have c := j.out; have g := x.out; simp [c.1, c.2, g])), k.out⟩
 have ae : 200 < fuel := by omega
 by_cases s : 10000 < fuel
 · have y := Lh s;clear g;go_wp2_with fail
   go_ret
   exact ⟨Z5 (d.out (by have c := j.out; have g := y.out; simp [c.1, c.2, g])), k.out⟩
 · have af : fuel ≤ 10000 := by omega
   have x := Lh g;have y := Lh s;clear g s;go_wp2_with fail
   go_ret
   exact ⟨Z5 (d.out (by have c := j.out; have g := x.out; have s := y.out; simp only [c.1, c.2, g, s, decide_true, decide_false, Bool.true_and, Bool.or_self])), k.out⟩
end Go.Proofs.YtdcmppdhdcjpfaaGreat
namespace Go.Proofs.YtdcmppdhdcjpfaaGreat
open Go.ChangeShapes Go.WideShapes Go.RowKit Go.Deep
structure TsV where
 A : Option Addr
 cap : Nat
 l : List IntsV
def TsV.val (t : TsV) : Value := .slice t.A t.l.length t.cap
structure TsRaw (W : World) (t : TsV) : Prop where
 len : t.l.length ≤ t.cap
 cap : t.cap ≤ maxLen
 nil : t.A = none → t.cap = 0
 rd : Rd W t.A (Xf t.l)
 ok : ∀ x ∈ t.l, x.ok W
section
variable {H : Type} {enc : TypeId × Value → H} {w : World} {base : Nat} {spare : Nat → Bool} {held : Bool}
theorem Adk {r : Go.Reach} {b0 : Nat} {v : Value} {d : DataW H} {p : List MemPlace} (hv : Value.okWide Tryz.prog w r b0 46 v) (h : DataW.Trod enc Tryz.prog w base spare held 46 v d p) :
 ∃ t : TsV, TsRaw w t ∧ v = t.val := by
 obtain ⟨a, len, g, rfl⟩ := okWide_slice Tryz.underlying46 hv;obtain ⟨j, s⟩ := h;obtain ⟨A, c, l, e, k, m, n, o, q⟩ := Adj s;have i : [Value.slice a len g] = [.slice A l.length c] := e;injection i with i;injection i with e3 e4 e5;subst e3 e4 e5;exact ⟨⟨_, _, l⟩, ⟨k, m, n, o, q⟩, rfl⟩
end
end Go.Proofs.YtdcmppdhdcjpfaaGreat
namespace Go.Proofs.YtdcmppdhdcjpfaaGreat
open Go.RowKit Go.Deep
theorem Aen {p : PgV} {d : Dl} {fuel : Int} {ts : List (List Int)} (h : Zv p d ts fuel = 0) : Zg p = 0 ∧ J8 p.params ts fuel = 0 ∧ YW p d = 0 := by
 have e : KD p ts fuel = 0 := by
  unfold Zv at h;split at h
  · rename_i c; exact absurd h c
  · rename_i c; simpa using c
 have g : YW p d = 0 := by unfold Zv at h; rwa [if_neg (by rw [e]; simp)] at h
 unfold KD at e;split at e
 · rename_i c; exact absurd e c
 · rename_i c; exact ⟨by simpa using c, e, g⟩
def JH (v : Int) (l : List Int) : Int := if v ∈ l then (l.idxOf v : Int) else -1
theorem fst_mem {v : Int} {l : List Int} : 0 ≤ JH v l ↔ v ∈ l := by
 unfold JH;split
 · rename_i h; simp [h]
 · rename_i h; simp [h]
theorem JA {v x : Int} {l : List Int} (h : x ≠ v ∨ 0 ≤ JH v l) : JH v (l ++ [x]) = JH v l := by
 by_cases c : v ∈ l
 · unfold JH; rw [if_pos (by simp [c]), if_pos c, Uj c]
 · have d : x ≠ v := h.resolve_right (fun e => c (fst_mem.1 e));unfold JH; rw [if_neg (by simp [c]; exact fun e => d e.symm), if_neg c]
theorem Afd {v : Int} {l : List Int} (h : JH v l < 0) : JH v (l ++ [v]) = (l.length : Int) := by
 have c : v ∉ l := fun e => by have := fst_mem.2 e; omega
 unfold JH; rw [if_pos (by simp), UR c]
theorem AgS (l : List Int) : ZE l = if 0 ≤ JH 1 l then (1, JH 1 l) else if 0 ≤ JH 2 l then (2, JH 2 l) else (0, -1) := by
 unfold ZE;by_cases c : (1 : Int) ∈ l
 · rw [if_pos c, if_pos (fst_mem.2 c)]; unfold JH; rw [if_pos c]
 · rw [if_neg c, if_neg (fun e => c (fst_mem.1 e))];by_cases d : (2 : Int) ∈ l
   · rw [if_pos d, if_pos (fst_mem.2 d)]; unfold JH; rw [if_pos d]
   · rw [if_neg d, if_neg (fun e => d (fst_mem.1 e))]
noncomputable def Ko (p : PgV) (d : Dl) (fuel : Int) (ts : List (List Int)) : List Int := Q0 (rnZ p fuel) (rnZ (KQ p d) fuel) ts
theorem AgH {p : PgV} {d : Dl} {fuel : Int} {ts : List (List Int)} {k : Nat} {a : List Int} (h : ts[k]? = some a) : Ko p d fuel (ts.take (k + 1)) = Ko p d fuel (ts.take k) ++ [QT (rnZ p fuel a) (rnZ (KQ p d) fuel a)] := by
 unfold Ko;rw [LF, h, Kq];rfl
theorem Adx {p : PgV} {d : Dl} {fuel : Int} {ts : List (List Int)} {k : Nat} (h : k ≤ ts.length) : (Ko p d fuel (ts.take k)).length = k := by
 unfold Ko;rw [YK, L4]; omega
theorem AhZ {p : PgV} {args : List Int} {fuel : Int} {w : World} (hok : p.ok w) (hin : ∀ a ∈ args, InI a) (h : ((Q8 p args fuel).out.getD (0, 0)).1 = 4) : ((Q8 p args fuel).out.getD (0, 0)).2 = 0 := by
 by_cases d : Q2 p args.length fuel = 0
 · obtain ⟨t, v, e, c⟩ := UA hok hin d;have hi := (c.big.inv (c.okO : okG p.V (.one t)) c.init).1;rw [c.eq] at h ⊢
   have g : OkS p.V (e.stopped 3 0) := by
    unfold Ms.stopped;split
    · exact hi
    · exact hi.stop (.inr ⟨by omega, by omega, rfl⟩)
   cases ho : (e.stopped 3 0).out with
   | none => rfl
   | some o =>
    obtain ⟨k, x⟩ := o;rw [ho] at h;rcases g.out k x ho with ⟨rfl, _⟩ | ⟨_, _, rfl⟩
    · cases h
    · rfl
 · rw [YJ d]; rfl
theorem Er (p : PgV) (d : Dl) (fuel : Int) (ts : List (List Int)) : K9 p d ts fuel = if 0 ≤ JH 1 (Ko p d fuel ts) then UV d (ts.map (rnZ (KQ p d) fuel)) (1, JH 1 (Ko p d fuel ts)) else if 0 ≤ JH 2 (Ko p d fuel ts) then UV d (ts.map (rnZ (KQ p d) fuel)) (2, JH 2 (Ko p d fuel ts)) else ⟨d, 0, -1, 0, 0, []⟩ := by
 show UV d _ (ZE (Ko p d fuel ts)) = _;rw [AgS];split
 · rfl
 · split
   · rfl
   · rfl
theorem Afp {d : Dl} {rs : List Rn} {v : Int} {i : Nat} {r : Rn} (hv : v ≠ 0) (hr : rs[i]? = some r) : UV d rs (v, (i : Int)) = ⟨d, v, (i : Int), r.kind, r.value, r.dig⟩ := by
 unfold UV;rw [if_neg hv];simp only [Li, LG, hr, LL]
theorem Afk {p m : PgV} {d : Dl} {fuel : Int} {ts : List IntsV} (v : Int) (hv : v = 1 ∨ v = 2) (hm : IsMut p d m) (h1 : v = 2 → JH 1 (Ko p d fuel (ts.map IntsV.l)) < 0) (h : 0 ≤ JH v (Ko p d fuel (ts.map IntsV.l))) :
 ∃ (i : Nat) (x : IntsV), JH v (Ko p d fuel (ts.map IntsV.l)) = (i : Int) ∧ ts[i]? = some x ∧ QT (rnZ p fuel x.l) (rnZ m fuel x.l) = v ∧ K9 p d (ts.map IntsV.l) fuel = ⟨d, v, (i : Int), (rnZ m fuel x.l).kind, (rnZ m fuel x.l).value, (rnZ m fuel x.l).dig⟩ := by
 have e := fst_mem.1 h;have j := List.idxOf_lt_length_iff.2 e;have k : (Ko p d fuel (ts.map IntsV.l))[(Ko p d fuel (ts.map IntsV.l)).idxOf v]? = some v := by rw [Lb j, List.getElem_idxOf j]
 have g : JH v (Ko p d fuel (ts.map IntsV.l)) = ((Ko p d fuel (ts.map IntsV.l)).idxOf v : Int) := by unfold JH; rw [if_pos e]
 generalize (Ko p d fuel (ts.map IntsV.l)).idxOf v = i at k g j;have c := k;unfold Ko Q0 at c;rw [List.map_map, L8] at c;cases hx : ts[i]? with
 | none => rw [hx] at c; cases c
 | some x =>
  rw [hx] at c;have o : QT (rnZ p fuel x.l) (rnZ (KQ p d) fuel x.l) = v := by simpa using c
  refine ⟨i, x, g, hx, by rw [hm.rn]; exact o, ?_⟩;rw [Er, hm.rn];have n : ((ts.map IntsV.l).map (rnZ (KQ p d) fuel))[i]? = some (rnZ (KQ p d) fuel x.l) := by rw [List.map_map, L8, hx]; rfl
  rcases hv with rfl | rfl
  · rw [if_pos h, g]; exact Afp (by decide) n
  · rw [if_neg (by have := h1 rfl; omega), if_pos h, g]; exact Afp (by decide) n
theorem XL {p m : PgV} {d : Dl} {fuel x : Int} {ts : List IntsV} {k : Nat} {t : IntsV} (ht : ts[k]? = some t) (hm : IsMut p d m) (hx : QT (rnZ p fuel t.l) (rnZ m fuel t.l) = x) : Ko p d fuel ((ts.map IntsV.l).take (k + 1)) = Ko p d fuel ((ts.map IntsV.l).take k) ++ [x] := by
 rw [AgH (a := t.l) (by rw [L8, ht]; rfl), ← hm.rn, hx]
theorem Ajb (k v k' v' : Int) : (!(k == k' && v == v')) = true ↔ ¬ (k' = k ∧ v' = v) := by
 constructor
 · rintro h ⟨rfl, rfl⟩;simp at h
 · intro h;by_cases c : k = k'
   · by_cases d : v = v'
     · exact absurd ⟨c.symm, d.symm⟩ h
     · simp [d]
   · simp [c]
def Adm (k v : Int) : Value := .iface 181 (.agg #[.int .i64 k, .int .i64 v])
def Q7 (k v : Int) : Ending := .panicked [{ v := Adm k v, recovered := false }]
def Jy (t : Int) (g : Nat) : Value := if Qy t = 0 then .iface 115 (.agg #[.pointer (some ⟨g, 0, none⟩)]) else .iface 109 (.slice (some ⟨g, 0, none⟩) (Qy t).toNat (Qy t).toNat)
def Ms.cont (s : Ms) (i : Nat) (t : Int) : List Int := if Qy t = 0 then [(s.vals[i]?).getD 0] else (s.arrs[i]?).getD []
def Lay.dcells (L : Lay) (s : Ms) (ev : Value) : Array Value :=
 #[.slice L.p.ba L.p.body.length L.p.bcap, .slice L.aa L.ab.length L.acap, .int .i64 (L.F : Int), .int .i64 0, .int .i64 0, .int .i64 (s.steps : Int), ev]
structure DR (L : Lay) (s : Ms) (ev : Value) (W : World) : Prop where
 row : Row W L.M 108 (L.dcells s ev)
 evs : W.ownsRow L.b1 189 3 ev s.evs.length (s.evs.flatMap EvV.cells)
 rows : ∀ (i g : Nat) (t : Int), L.ab[i]? = some g → L.p.V[i]? = some t → Row W g 3 (Qi (s.cont i t)).toArray
 im : L.Im W
 size : L.b1 ≤ W.heap.size
 sum : s.steps + s.fuel = L.F
 few : s.evs.length ≤ s.steps
structure DOk (L : Lay) : Prop extends LOk0 L where
 pok : ∀ W, L.Im W → L.p.ok W
 cells : ∀ W, L.Im W → ∀ (i g : Nat) (t : Int), L.ab[i]? = some g → L.p.V[i]? = some t → ∃ ad : Addr, L.aa = some ad ∧ W.cell? (ad.add i) = some (Jy t g)
 alen : L.ab.length = L.p.V.length
 vv : L.vv = .slice none 0 0
instance {L : Lay} : Coe (DOk L) (LOk0 L) := ⟨DOk.toLOk0⟩
section
variable {L : Lay} {s s' : Ms} {ev : Value} {W W' : World}
theorem DR.below (h : DR L s ev W) (hL : LOk0 L) (b : Below W.heap.size W W') : DR L s ev W' :=
 ⟨h.row.below b h.row.lt, QB h.evs b, fun i g t h1 h2 => (h.rows i g t h1 h2).below b (h.rows i g t h1 h2).lt, hL.im _ _ h.im (.below (b.mono h.size)), Le h.size b.size, h.sum, h.few⟩
theorem DR.drew (h : DR L s ev W) (hL : LOk0 L) (n : Nat) : DR L s ev (W.drewN n) := h.below hL ⟨rfl, rfl, rfl, Nat.le_refl _, fun _ _ => rfl⟩
theorem DR.setM (h : DR L s ev W) (hL : LOk0 L) (o : Only L.M W W') (hr : Row W' L.M 108 (L.dcells s' ev)) (h1 : s'.vals = s.vals) (h2 : s'.arrs = s.arrs) (h3 : s'.evs = s.evs) (h4 : s'.steps + s'.fuel = L.F) (h5 : s.steps ≤ s'.steps) : DR L s' ev W' :=
 ⟨hr, by rw [h3]; exact Qu h.evs o (fun e => by have := QC h.evs e; have := hL.lt; omega), fun i g t a b => by have := (h.rows i g t a b).only o (hL.alt g (Lg a)).2; unfold Ms.cont at this ⊢; rw [h1, h2]; exact this,
  hL.im _ _ h.im (.only o (.inr (.inl rfl))), by rw [o.size]; exact h.size, h4, by rw [h3]; have := h.few; omega⟩
theorem DR.far_new (h : DR L s ev W) {g : Nat} {W' : World} (hg : W.heap.size ≤ g) (hlt : g < W'.heap.size) : Far L ev W' g :=
 ⟨Le h.size hg, fun e => by have := h.evs.lt _ e; omega, hlt⟩
theorem DR.setB (h : DR L s ev W) (hL : LOk0 L) {n g : Nat} {t : Int} (hg : L.ab[n]? = some g) (ht : L.p.V[n]? = some t) (o : Only g W W') (hr : Row W' g 3 (Qi (s'.cont n t)).toArray)
 (hv : ∀ i, i ≠ n → s'.vals[i]? = s.vals[i]? ∧ s'.arrs[i]? = s.arrs[i]?) (h3 : s'.evs = s.evs) (h4 : s'.steps = s.steps) (h5 : s'.fuel = s.fuel) : DR L s' ev W' := by
 have u := Lg hg;have l := hL.alt g u;refine ⟨?_, by rw [h3]; exact Qu h.evs o (fun e => by have := QC h.evs e; omega), fun i r x hi d => ?_, hL.im _ _ h.im (.only o (.inr (.inr (.inr u)))), by rw [o.size]; exact h.size, by rw [h4, h5]; exact h.sum, by rw [h3, h4]; exact h.few⟩
 · have := h.row.only o (fun e => l.2 e.symm);unfold Lay.dcells at this ⊢;rw [h4]; exact this
 · by_cases c : i = n
   · subst c;rw [hg] at hi; rw [ht] at d;cases hi; cases d;exact hr
   · have k : r ≠ g := by
      intro e;subst e;obtain ⟨v, m⟩ := La.1 hg;obtain ⟨w, q⟩ := La.1 hi;rcases LT i n with j | j | j
      · exact absurd (q.trans m.symm) (LQ.1 hL.and i n w v j)
      · exact c j
      · exact absurd (m.trans q.symm) (LQ.1 hL.and n i v w j)
     have := (h.rows i r x hi d).only o k;unfold Ms.cont at this ⊢;rw [(hv i c).1, (hv i c).2]; exact this
theorem RChg.onlyB {g : Nat} (o : Only g W W') (hg : g ∈ L.ab) : RChg L ev W ev W' := RChg.only o (.inr (.inr hg))
end
theorem YF (k v : Int) (w : World) : Calls Tryz.prog 187 #[.int .i64 k, .int .i64 v] w fun e w' => e = Q7 k v ∧ w = w' := by
 go_enter Tryz.func187, Tryz.ntmps187
 go_wp2
 exact ⟨rfl, rfl, rfl⟩
theorem Yf (b : Bool) (w : World) : Calls Tryz.prog 189 #[.bool b] w fun e w' => e = .returned (.int .i64 (tr b)) ∧ w = w' := by
 cases b
 all_goals
  go_enter Tryz.func189, Tryz.ntmps189
  go_wp2
  go_ret
  exact ⟨rfl, rfl⟩
theorem AgV (tag a b c : Int) (w : World) (ht : 7 ≤ tag ∧ tag ≤ 17) (hp : Ze tag a b = some c) : Calls Tryz.prog 192 #[.int .i64 tag, .int .i64 a, .int .i64 b] w fun e w' => e = .returned (.int .i64 c) ∧ w = w' := by
 have h : tag = 7 ∨ tag = 8 ∨ tag = 9 ∨ tag = 12 ∨ tag = 13 ∨ tag = 14 ∨ tag = 15 ∨ tag = 16 ∨ tag = 17 ∨ tag = 10 ∨ tag = 11 := by omega
 clear ht;rcases h with rfl | rfl | rfl | rfl | rfl | rfl | rfl | rfl | rfl | rfl | rfl
 · have d : wrap64 (a + b) = c := by simpa [Ze] using hp
   subst d; clear hp;go_enter Tryz.func192, Tryz.ntmps192
   go_wp2
   go_ret
   exact ⟨QP (by first | rfl | simp), rfl⟩
 · have d : wrap64 (a - b) = c := by simpa [Ze] using hp
   subst d; clear hp;go_enter Tryz.func192, Tryz.ntmps192
   go_wp2
   go_ret
   exact ⟨QP (by first | rfl | simp), rfl⟩
 · have d : wrap64 (a * b) = c := by simpa [Ze] using hp
   subst d; clear hp;go_enter Tryz.func192, Tryz.ntmps192
   go_wp2
   go_ret
   exact ⟨QP (by first | rfl | simp), rfl⟩
 · have d : tr (decide (a = b)) = c := by simpa [Ze] using hp
   clear hp;go_enter Tryz.func192, Tryz.ntmps192
   go_wp2_with fail
   refine (Yf _ _).mono ?_;rintro e w' ⟨rfl, rfl⟩;go_wp2
   go_ret
   exact ⟨QP (by rw [← d]; all_goals (first | (congr 1; done) | (congr 1; rw [LR]; simp))), rfl⟩
 · have d : tr (decide (a ≠ b)) = c := by simpa [Ze] using hp
   clear hp;go_enter Tryz.func192, Tryz.ntmps192
   go_wp2_with fail
   refine (Yf _ _).mono ?_;rintro e w' ⟨rfl, rfl⟩;go_wp2
   go_ret
   exact ⟨QP (by rw [← d]; all_goals (first | (congr 1; done) | (congr 1; rw [LR]; simp))), rfl⟩
 · have d : tr (decide (a < b)) = c := by simpa [Ze] using hp
   clear hp;go_enter Tryz.func192, Tryz.ntmps192
   go_wp2_with fail
   refine (Yf _ _).mono ?_;rintro e w' ⟨rfl, rfl⟩;go_wp2
   go_ret
   exact ⟨QP (by rw [← d]; all_goals (first | (congr 1; done) | (congr 1; rw [LR]; simp))), rfl⟩
 · have d : tr (decide (a ≤ b)) = c := by simpa [Ze] using hp
   clear hp;go_enter Tryz.func192, Tryz.ntmps192
   go_wp2_with fail
   refine (Yf _ _).mono ?_;rintro e w' ⟨rfl, rfl⟩;go_wp2
   go_ret
   exact ⟨QP (by rw [← d]; all_goals (first | (congr 1; done) | (congr 1; rw [LR]; simp))), rfl⟩
 · have d : tr (decide (b < a)) = c := by simpa [Ze] using hp
   clear hp;go_enter Tryz.func192, Tryz.ntmps192
   go_wp2_with fail
   refine (Yf _ _).mono ?_;rintro e w' ⟨rfl, rfl⟩;go_wp2
   go_ret
   exact ⟨QP (by rw [← d]; all_goals (first | (congr 1; done) | (congr 1; rw [LR]; simp))), rfl⟩
 · have d : tr (decide (b ≤ a)) = c := by simpa [Ze] using hp
   clear hp;go_enter Tryz.func192, Tryz.ntmps192
   go_wp2_with fail
   refine (Yf _ _).mono ?_;rintro e w' ⟨rfl, rfl⟩;go_wp2
   go_ret
   exact ⟨QP (by rw [← d]; all_goals (first | (congr 1; done) | (congr 1; rw [LR]; simp))), rfl⟩
 · by_cases g : b = 0
   · simp [Ze, g] at hp
   have d : wrap64 (a.tdiv b) = c := by simpa [Ze, g] using hp
   subst d; clear hp;go_enter Tryz.func192, Tryz.ntmps192
   go_wp2
   go_ret
   exact ⟨QP (by first | rfl | simp), rfl⟩
 · by_cases g : b = 0
   · simp [Ze, g] at hp
   have d : a.tmod b = c := by simpa [Ze, g] using hp
   subst d; clear hp;go_enter Tryz.func192, Tryz.ntmps192
   go_wp2
   go_ret
   exact ⟨QP (by first | rfl | simp), rfl⟩
theorem AdY (tag a b : Int) (w : World) (hp : Ze tag a b = none) : Calls Tryz.prog 192 #[.int .i64 tag, .int .i64 a, .int .i64 b] w fun e w' => e = Q7 1 0 ∧ w = w' := by
 have c : b = 0 ∧ (tag = 10 ∨ tag = 11) := by
  unfold Ze at hp
  repeat' split at hp
  all_goals (first | (cases hp; done) | (refine ⟨?_, ?_⟩ <;> first | assumption | omega))
 obtain ⟨rfl, d⟩ := c;clear hp;rcases d with rfl | rfl
 all_goals
  go_enter Tryz.func192, Tryz.ntmps192
  go_wp2_with fail
  refine (YF _ _ _).mono ?_
  rintro e w' ⟨rfl, rfl⟩
  simp only [Q7]
  go_wp2
  exact ⟨rfl, rfl, rfl⟩
end Go.Proofs.YtdcmppdhdcjpfaaGreat
