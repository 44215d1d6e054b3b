/- Lemmas for VerdictTellsP. -/
import Derived.Test.YtdcmppdhdcjpfaaGreatZz1
import Derived.Test.YtdcmppdhdcjpfaaGreatZz4
import Derived.Test.YtdcmppdhdcjpfaaGreatZz2
set_option linter.unusedVariables false
set_option linter.unusedSimpArgs false
set_option maxRecDepth 100000
set_option maxHeartbeats 16000000
namespace Go.Proofs.YtdcmppdhdcjpfaaGreat
open Go.RowKit Go.Deep
structure PgV where
 params : Int
 va : Option Addr
 vcap : Nat
 V : List Int
 ba : Option Addr
 bcap : Nat
 body : List Nd
def PgV.cells (p : PgV) : Array Value := #[.int .i64 p.params, .slice p.va p.V.length p.vcap, .slice p.ba p.body.length p.bcap]
structure PgV.ok (p : PgV) (w : World) : Prop where
 par : InI p.params
 vlen : p.V.length ≤ p.vcap
 vmax : p.vcap ≤ maxLen
 vnil : p.va = none → p.vcap = 0
 vrd : Rd w p.va (Qi p.V)
 vin : ∀ t ∈ p.V, InI t
 blen : p.body.length ≤ p.bcap
 bmax : p.bcap ≤ maxLen
 bnil : p.ba = none → p.bcap = 0
 brd : Rd w p.ba (p.body.flatMap Nd.cells)
 bin : ∀ x ∈ p.body, InI x.tag ∧ InI x.n
theorem PgV.ok.go {p : PgV} {w w' : World} (h : p.ok w) (b : Below w.heap.size w w') : p.ok w' :=
 ⟨h.par, h.vlen, h.vmax, h.vnil, h.vrd.go b, h.vin, h.blen, h.bmax, h.bnil, h.brd.go b, h.bin⟩
instance St.pgok {p : PgV} : St (fun W => p.ok W) := ⟨fun h b => h.go b⟩
theorem QR {w : World} {A : Option Addr} {l : List Int} (hr : Rd w A (Qi l)) {k : Nat} {x : Int} (hx : l[k]? = some x) : ∃ ad, A = some ad ∧ w.cell? (ad.add k) = some (.int .i64 x) :=
 hr k _ (by simp [Qi, hx])
def K7 (params : Int) (j : Nat) (t : Int) : Bool := decide (t = 0 ∨ (params ≤ j ∧ 1 ≤ t ∧ t ≤ 9))
def JN (params : Int) (V : List Int) : Prop := 0 ≤ params ∧ params ≤ V.length ∧ V.length ≤ 12 ∧ ∀ j, j < V.length → K7 params j (V.getD j 0) = true
instance (params : Int) (V : List Int) : Decidable (JN params V) := by unfold JN; infer_instance
def Ji (params : Int) (V : List Int) : Int := if JN params V then 0 else 14
theorem XR {params : Int} {V : List Int} (h : params < 0 ∨ (V.length : Int) < params ∨ 12 < (V.length : Int)) : Ji params V = 14 := by
 unfold Ji; rw [if_neg]; unfold JN; omega
theorem Abj {params : Int} {V : List Int} {j : Nat} {t : Int} (hj : V[j]? = some t) (h : K7 params j t = false) : Ji params V = 14 := by
 unfold Ji; rw [if_neg];rintro ⟨_, _, _, b⟩;have := b j (Lb.1 hj).1;rw [LQ, hj, LN, h] at this;cases this
theorem AdF {params : Int} {V : List Int} (h1 : 0 ≤ params) (h2 : params ≤ V.length) (h3 : (V.length : Int) ≤ 12) (h : ∀ j, j < V.length → K7 params j (V.getD j 0) = true) : Ji params V = 0 := by
 unfold Ji; rw [if_pos ⟨h1, h2, by omega, h⟩]
theorem K9 {params : Int} {V : List Int} {k : Nat} {t : Int} (h : ∀ j, j < k → K7 params j (V.getD j 0) = true) (hk : V[k]? = some t) (ht : K7 params k t = true) : ∀ j, j < k + 1 → K7 params j (V.getD j 0) = true := fun j hj => by
 by_cases e : j = k
 · subst e; rw [LQ, hk]; exact ht
 · exact h j (by omega)
theorem AdG (p : PgV) (w : World) (hok : p.ok w) : Calls Tryz.prog 64 #[.agg p.cells] w fun e w' => e = .returned (.int .i64 (Ji p.params p.V)) ∧ Below w.heap.size w w' := by
 have n := Lh hok;clear hok;obtain ⟨params, va, d, V, ba, l, m⟩ := p;dsimp only;rw [show (PgV.mk params va d V ba l m).cells = #[.int .i64 params, .slice va V.length d, .slice ba m.length l] from rfl];go_enter Tryz.func64, Tryz.ntmps64
 go_wp2_with (refine Qn _ _ rfl ?_)
 refine Stop.to ?_;refine Qe rfl 25 _ rfl #[.int .i64 params, .slice va V.length d, .slice ba m.length l] rfl ?_;intro G w1 hG r1 o;have o := (Below.refl w.heap.size w).trans (o.mono hG);have s := n.out.go o;have c0 := r1.cellv (i := 0) (v := .int .i64 params) rfl;have c1 := r1.cellv (i := 1) (v := .slice va V.length d) rfl;have af := s.vrd;have aa := Lh af;have z := Lh n.out.vin;have u := n.out.par;unfold InI at u;dsimp only at aa z u;clear hG s af r1 n;by_cases h0 : params < 0
 · have g := Lh (XR (V := V) (.inl h0));go_wp2
   go_ret
   exact ⟨Qo g.out, o⟩
 by_cases r : (V.length : Int) < params
 · have g := Lh (XR (V := V) (.inr (.inl r)));have x : 0 ≤ params := by omega
   go_wp2
   go_ret
   exact ⟨Qo g.out, o⟩
 by_cases h2 : 12 < (V.length : Int)
 · have g := Lh (XR (params := params) (V := V) (.inr (.inr h2)));have x : 0 ≤ params := by omega
   have ab : params ≤ (V.length : Int) := by omega
   clear h0 r;go_wp2
   go_ret
   exact ⟨Qo g.out, o⟩
 have x : 0 ≤ params := by omega
 have ab : params ≤ (V.length : Int) := by omega
 have ag : (V.length : Int) ≤ 12 := by omega
 clear h0 r h2;go_wp2
 go_loop [25] (fun i => ∃ k : Nat, i = .int .i64 (k : Int) ∧ k ≤ V.length ∧ Hid (∀ j, j < k → K7 params j (V.getD j 0) = true)) (fun i => V.length - (intOf i).toNat)
 case atStart => exact ⟨0, rfl, Nat.zero_le _, Lh (fun j h => by omega)⟩
 case round =>
  obtain ⟨k, rfl, hk, c⟩ := hrel;by_cases ae : k < V.length
  · obtain ⟨t, ht⟩ : ∃ t, V[k]? = some t := ⟨_, La ae⟩;obtain ⟨ad, ah, hc⟩ := QR aa.out ht;have ac := z.out t (Lf ht);have q := Lh ac;unfold InI at ac;have Ht := Lh ht;have ak : (k : Int) < (V.length : Int) := by omega
    clear ht ae;subst ah;by_cases b : K7 params k t = true
    · have Hg := Lh b;simp only [K7, decide_eq_true_eq] at b;have g : t = 0 ∨ (t ≠ 0 ∧ (params ≤ k ∧ 1 ≤ t ∧ t ≤ 9)) := by omega
      clear b;rcases g with rfl | ⟨y, am, an, ao⟩
      · go_wp2
        go_round
        case rel => exact ⟨k + 1, by go_num, by omega, Lh (K9 c.out Ht.out Hg.out)⟩
        case measure => simp [intOf]; omega
      · have e0 : (t != 0) = true := by simpa using y
        by_cases r : t = 1
        · have e1 : (t != 1) = false := by simpa using r
          clear y r;go_wp2
          go_round
          case rel => exact ⟨k + 1, by go_num, by omega, Lh (K9 c.out Ht.out Hg.out)⟩
          case measure => simp [intOf]; omega
        · have e1 : (t != 1) = true := by simpa using r
          have e2 : (Qx t == 0) = false := by simp [Qx]; omega
          clear y r;go_wp2_with (go_at_call 56; refine (KC t _ q.out).mono ?_; rintro e w' ⟨rfl, rfl⟩)
          go_round
          case rel => exact ⟨k + 1, by go_num, by omega, Lh (K9 c.out Ht.out Hg.out)⟩
          case measure => simp [intOf]; omega
    · have g := Lh (Abj Ht.out (by simpa using b));simp only [K7, decide_eq_true_eq] at b;have e0 : (t != 0) = true := by simp; omega
      by_cases ai : (k : Int) < params
      · clear b;go_wp2
        go_ret
        exact ⟨Qo g.out, o⟩
      · have aj : params ≤ (k : Int) := by omega
        have e1 : (t != 1) = true := by simp; omega
        have e2 : Qx t = 0 := by unfold Qx; rw [if_neg (by omega)]
        have E2 := Lh e2;clear b ai e2;go_wp2_with (go_at_call 56; refine (KC t _ q.out).mono ?_; rintro e w' ⟨rfl, rfl⟩; rw [E2.out])
        go_ret
        exact ⟨Qo g.out, o⟩
  · have al : (V.length : Int) ≤ (k : Int) := by omega
    obtain rfl : k = V.length := by omega
    have g := Lh (AdF x ab ag c.out);go_wp2
    go_ret
    exact ⟨Qo g.out, o⟩
theorem Vm (p : PgV) (w : World) (hok : p.ok w) : Calls Tryz.prog 138 #[.agg p.cells] w fun e w' => e = .returned (.int .i64 (Ji p.params p.V)) ∧ Below w.heap.size w w' := by
 have q := Lh hok;clear hok;obtain ⟨params, va, c, V, ba, d, g⟩ := p;dsimp only;rw [show (PgV.mk params va c V ba d g).cells = #[.int .i64 params, .slice va V.length c, .slice ba g.length d] from rfl];go_enter Tryz.func138, Tryz.ntmps138
 go_wp2_with (refine Qn _ _ rfl ?_)
 refine Stop.to ?_;refine Qe rfl 25 _ rfl #[.int .i64 params, .slice va V.length c, .slice ba g.length d] rfl ?_;intro G w1 hG r1 o;have o := (Below.refl w.heap.size w).trans (o.mono hG);have r := q.out.go o;have c0 := r1.cellv (i := 0) (v := .int .i64 params) rfl;have c1 := r1.cellv (i := 1) (v := .slice va V.length c) rfl;have ac := r.vrd;have y := Lh ac;have x := Lh q.out.vin;have s := q.out.par;unfold InI at s;dsimp only at y x s;clear hG r ac r1 q;by_cases u : params < 0
 · have n := Lh (XR (V := V) (.inl u));go_wp2
   go_ret
   exact ⟨Qo n.out, o⟩
 by_cases h1 : (V.length : Int) < params
 · have n := Lh (XR (V := V) (.inr (.inl h1)));have l : 0 ≤ params := by omega
   go_wp2
   go_ret
   exact ⟨Qo n.out, o⟩
 by_cases h2 : 12 < (V.length : Int)
 · have n := Lh (XR (params := params) (V := V) (.inr (.inr h2)));have l : 0 ≤ params := by omega
   have z : params ≤ (V.length : Int) := by omega
   clear u h1;go_wp2
   go_ret
   exact ⟨Qo n.out, o⟩
 have l : 0 ≤ params := by omega
 have z : params ≤ (V.length : Int) := by omega
 have ae : (V.length : Int) ≤ 12 := by omega
 clear u h1 h2;go_wp2
 go_loop [3] (fun i => ∃ k : Nat, i = .int .i64 (k : Int) ∧ k ≤ V.length ∧ Hid (∀ j, j < k → K7 params j (V.getD j 0) = true)) (fun i => V.length - (intOf i).toNat)
 case atStart => exact ⟨0, rfl, Nat.zero_le _, Lh (fun j h => by omega)⟩
 case round =>
  obtain ⟨k, rfl, hk, m⟩ := hrel;by_cases ab : k < V.length
  · obtain ⟨t, ht⟩ : ∃ t, V[k]? = some t := ⟨_, La ab⟩;obtain ⟨ad, af, hc⟩ := QR y.out ht;have Ht := Lh ht;have ah : (k : Int) < (V.length : Int) := by omega
    clear ht ab x;subst af;by_cases b : K7 params k t = true
    · have Hg := Lh b;simp only [K7, decide_eq_true_eq] at b;have ak : 0 ≤ t := by omega
      have al : t ≤ 9 := by omega
      by_cases aa : (k : Int) < params
      · obtain rfl : t = 0 := by omega
        clear b;go_wp2
        go_round
        case rel => exact ⟨k + 1, by go_num, by omega, Lh (K9 m.out Ht.out Hg.out)⟩
        case measure => simp [intOf]; omega
      · have ag : params ≤ (k : Int) := by omega
        clear b aa;go_wp2
        go_round
        case rel => exact ⟨k + 1, by go_num, by omega, Lh (K9 m.out Ht.out Hg.out)⟩
        case measure => simp [intOf]; omega
    · have n := Lh (Abj Ht.out (by simpa using b));simp only [K7, decide_eq_true_eq] at b;by_cases u : t < 0
      · clear b;go_wp2
        go_ret
        exact ⟨Qo n.out, o⟩
      by_cases h9 : 9 < t
      · have l : 0 ≤ t := by omega
        clear b u;go_wp2
        go_ret
        exact ⟨Qo n.out, o⟩
      · have l : 0 ≤ t := by omega
        have ai : t ≤ 9 := by omega
        have aa : (k : Int) < params := by omega
        have e0 : (t != 0) = true := by simp; omega
        clear b u h9;go_wp2
        go_ret
        exact ⟨Qo n.out, o⟩
  · have aj : (V.length : Int) ≤ (k : Int) := by omega
    obtain rfl : k = V.length := by omega
    have n := Lh (AdF l z ae m.out);go_wp2
    go_ret
    exact ⟨Qo n.out, o⟩
def ZK (V : List Int) (n : Int) : Int := if n < 0 ∨ (V.length : Int) ≤ n then -1 else (V[n.toNat]?).getD 0
theorem Ago (p : PgV) (n : Int) (w : World) (hok : p.ok w) : Calls Tryz.prog 213 #[.agg p.cells, .int .i64 n] w fun e w' => e = .returned (.int .i64 (ZK p.V n)) ∧ Below w.heap.size w w' := by
 have j := Lh hok;clear hok;obtain ⟨b, o, c, V, q, d, g⟩ := p;dsimp only;rw [show (PgV.mk b o c V q d g).cells = #[.int .i64 b, .slice o V.length c, .slice q g.length d] from rfl];go_enter Tryz.func213, Tryz.ntmps213
 go_wp2_with (refine Qn _ _ rfl ?_)
 refine Stop.to ?_;refine Qe rfl 25 _ rfl #[.int .i64 b, .slice o V.length c, .slice q g.length d] rfl ?_;intro G w1 u y h;have h := (Below.refl w.heap.size w).trans (h.mono u);have c1 := y.cellv (i := 1) (v := .slice o V.length c) rfl;have l := Lh (j.out.go h).vrd;dsimp only at l;clear u y j;by_cases s : n < 0
 · have m : Hid (ZK V n = -1) := by show _ = _; unfold ZK; rw [if_pos (.inl s)]
   go_wp2
   go_ret
   exact ⟨Qo m.out, h⟩
 · obtain ⟨k, rfl⟩ : ∃ k : Nat, n = (k : Int) := ⟨n.toNat, by omega⟩;by_cases t : (V.length : Int) ≤ (k : Int)
   · have m : Hid (ZK V (k : Int) = -1) := by show _ = _; unfold ZK; rw [if_pos (.inr t)]
     go_wp2
     go_ret
     exact ⟨Qo m.out, h⟩
   · have x : k < V.length := by omega
     have m : Hid (ZK V (k : Int) = V[k]) := by show _ = _; unfold ZK; rw [if_neg (by omega), Lg, La x]; rfl
     obtain ⟨ad, r, hc⟩ := QR l.out (La x);subst r;have z : (k : Int) < (V.length : Int) := by omega
     clear t s;go_wp2
     go_ret
     exact ⟨Qo m.out, h⟩
def KJ (b : Bool) (k : Int) : Int := if b then k else -1
theorem Zc (b : Bool) (k : Int) (w : World) : Calls Tryz.prog 214 #[.bool b, .int .i64 k] w fun e w' => e = .returned (.int .i64 (KJ b k)) ∧ w = w' := by
 cases b
 all_goals
  go_enter Tryz.func214, Tryz.ntmps214
  go_wp2
  go_ret
  exact ⟨rfl, rfl⟩
def AfK (p : PgV) : Bool := decide (p.body.length ≤ 60 ∧ p.V.length ≤ 20)
theorem Ah4 (p : PgV) (w : World) : Calls Tryz.prog 51 #[.agg p.cells] w fun e w' => e = .returned (.bool (AfK p)) ∧ Below w.heap.size w w' := by
 obtain ⟨c, l, g, V, k, d, b⟩ := p;rw [show (PgV.mk c l g V k d b).cells = #[.int .i64 c, .slice l V.length g, .slice k b.length d] from rfl];have r : Hid (AfK ⟨c, l, g, V, k, d, b⟩ = decide (b.length ≤ 60 ∧ V.length ≤ 20)) := by show _ = _; rfl
 go_enter Tryz.func51, Tryz.ntmps51
 go_wp2_with (refine Qn _ _ rfl ?_)
 refine Stop.to ?_;refine Qe rfl 25 _ rfl #[.int .i64 c, .slice l V.length g, .slice k b.length d] rfl ?_;intro G w1 t s j;have j := (Below.refl w.heap.size w).trans (j.mono t);have y := s.cellv (i := 1) (v := .slice l V.length g) rfl;have z := s.cellv (i := 2) (v := .slice k b.length d) rfl;clear t s;by_cases m : b.length ≤ 60
 · have n : (b.length : Int) ≤ 60 := by omega
   by_cases o : V.length ≤ 20
   · have q : (V.length : Int) ≤ 20 := by omega
     go_wp2
     go_ret
     exact ⟨Z4 (r.out.trans (decide_eq_true ⟨m, o⟩)), j⟩
   · have q : 20 < (V.length : Int) := by omega
     have x := Lh o;clear o;go_wp2
     go_ret
     exact ⟨Z4 (r.out.trans (by simp [m]; omega)), j⟩
 · have n : 60 < (b.length : Int) := by omega
   have u := Lh m;clear m;go_wp2
   go_ret
   exact ⟨Z4 (r.out.trans (decide_eq_false (fun h : b.length ≤ 60 ∧ V.length ≤ 20 => u.out h.1))), j⟩
def QU (l : List Nat) : List Int := l.map fun n : Nat => (n : Int)
theorem XK (l : List Nat) : (QU l).length = l.length := by simp [QU]
def JK (ts : List Tr) (f : Nat) : Bool := (ts.drop f).all fun t => t.root.tag == 20
theorem Abq {ts : List Tr} {k : Nat} {t : Tr} (h1 : 1 ≤ k) (h : ((ts.take k).drop 1).all (fun t => t.root.tag == 20) = true) (ht : ts[k]? = some t) (hb : t.root.tag = 20) : ((ts.take (k + 1)).drop 1).all (fun t => t.root.tag == 20) = true := by
 have b : k < ts.length := (Lb.1 ht).1;rw [No b, List.drop_append_of_le_length (by simp; omega), List.all_append, h];have : ts[k] = t := by rw [La b] at ht; injection ht
 simp [this, hb]
theorem AdX {ts : List Tr} {k : Nat} {t : Tr} (h1 : 1 ≤ k) (ht : ts[k]? = some t) (hb : t.root.tag ≠ 20) : JK ts 1 = false := by
 unfold JK;rw [List.all_eq_false];refine ⟨t, Lf (i := k - 1) ?_, by simpa using hb⟩;rw [Ns, show 1 + (k - 1) = k by omega]; exact ht
theorem Acp {ts : List Tr} {k : Nat} (hk : ts.length ≤ k) (h : ((ts.take k).drop 1).all (fun t => t.root.tag == 20) = true) : JK ts 1 = true := by
 rw [L1 hk] at h; exact h
theorem VQ (p : PgV) (KA : Option Addr) (kcap : Nat) (pos : List Nat) (ts : List Tr) (w : World) (hok : p.ok w) (hk : Rd w KA (Qi (QU pos))) (hl : pos.length = ts.length) (hp : ∀ (i q : Nat) (t : Tr), pos[i]? = some q → ts[i]? = some t → At p.body q t) (hm : pos.length ≤ 1000) :
 Calls Tryz.prog 216 #[.agg p.cells, .slice KA pos.length kcap, .int .i64 1] w fun e w' => e = .returned (.bool (JK ts 1)) ∧ Below w.heap.size w w' := by
 have s := Lh hok;have Hk := Lh hk;have Hp := Lh hp;have Hl := Lh hl;clear hok hk hp hl;obtain ⟨b, va, d, V, z, c, body⟩ := p;dsimp only at Hp;rw [show (PgV.mk b va d V z c body).cells = #[.int .i64 b, .slice va V.length d, .slice z body.length c] from rfl];go_enter Tryz.func216, Tryz.ntmps216
 go_wp2_with (refine Qn _ _ rfl ?_)
 refine Stop.to ?_;refine Qe rfl 25 _ rfl #[.int .i64 b, .slice va V.length d, .slice z body.length c] rfl ?_;intro G w1 hG r1 m;have m := (Below.refl w.heap.size w).trans (m.mono hG);have r := Lh (s.out.go m).brd;have aa := Lh (Hk.out.go m);dsimp only at r;clear hG Hk s;go_wp2
 go_loopw [7] (fun i wr => ∃ k n : Nat, i = .int .i64 (k : Int) ∧ 1 ≤ k ∧ k ≤ pos.length + 1 ∧ wr = w1.drewN n ∧ Hid ((ts.take k).drop 1 |>.all fun t => t.root.tag == 20)) (fun i _ => pos.length - (intOf i).toNat)
 case atStart => exact ⟨1, 0, rfl, Nat.le_refl _, by omega, rfl, Lh (by cases ts <;> simp)⟩
 case round =>
  obtain ⟨k, n, rfl, y, ah, rfl, h⟩ := hrel;have c2 := r1.cellv (i := 2) (v := .slice z body.length c) rfl;by_cases g : k < pos.length
  · obtain ⟨q, hq⟩ : ∃ q, pos[k]? = some q := ⟨_, La g⟩;obtain ⟨t, ht⟩ : ∃ t, ts[k]? = some t := ⟨_, La (by rw [← Hl.out]; exact g)⟩;have j := Hp.out k q t hq ht;obtain ⟨ad, ab, hc⟩ := QR (w := w1) (l := QU pos) aa.out (k := k) (x := (q : Int)) (by simp [QU, hq]);obtain ⟨bd, ae, u⟩ := Z9 r.out j.root;have af := u 0 (.int .i64 t.root.tag) rfl;rw [show (bd.add (q * 2)).add 0 = bd.add (q * 2) by rw [JU]; simp] at af;have aj : (q : Int) < (body.length : Int) := by have := j.lt; omega
    have ai : (k : Int) < (pos.length : Int) := by omega
    have Hq := Lh hq;have Ht := Lh ht;clear u j g hq ht;subst ab ae;by_cases o : t.root.tag = 20
    · have ac : (t.root.tag != 20) = false := by simp [o]
      have Hb := Lh o;clear o;go_wp2_with fail
      go_quiet (fail)
      go_wp2
      go_roundw
      case rel => exact ⟨k + 1, n + nq, by go_num, by omega, by omega, rfl, Lh (Abq y h.out Ht.out Hb.out)⟩
      case measure => simp [intOf]; omega
    · have ac : (t.root.tag != 20) = true := by simpa using o
      have hz := Lh (AdX y Ht.out o);clear o;go_wp2_with fail
      go_quiet (fail)
      go_wp2
      go_ret
      exact ⟨Z4 hz.out, Zn (Zn m _) _⟩
  · have ag : (pos.length : Int) ≤ (k : Int) := by omega
    have hz := Lh (Acp (ts := ts) (k := k) (by have := Hl.out; omega) h.out);clear g;go_wp2
    go_ret
    exact ⟨Z4 hz.out, Zn m _⟩
theorem KF (p : PgV) (KA WA : Option Addr) (kcap wcap : Nat) (pos : List Nat) (vals want : List Int) (w : World) (hok : p.ok w) (hk : Rd w KA (Qi (QU pos))) (hw : Rd w WA (Qi want)) (hl : pos.length = vals.length) (hm : pos.length ≤ 1000)
 (hof : ∀ (i q : Nat) (v : Int), pos[i]? = some q → vals[i]? = some v → ∀ W, p.ok W → Calls Tryz.prog 139 #[.agg p.cells, .int .i64 (q : Int)] W fun e W' => e = .returned (.int .i64 v) ∧ Below W.heap.size W W') :
 Calls Tryz.prog 215 #[.agg p.cells, .slice KA pos.length kcap, .slice WA want.length wcap] w fun e w' => e = .returned (.bool (decide (vals = want))) ∧ Below w.heap.size w w' := by
 have ac := Lh hof;have Hl := Lh hl;have t := Lh hok;have Hk := Lh hk;have Hw := Lh hw;clear hof hl hok hk hw;go_enter Tryz.func215, Tryz.ntmps215
 go_wp2_with (refine Qn _ _ rfl ?_)
 refine Stop.to ?_;refine Qe rfl 25 _ rfl p.cells rfl ?_;intro G w1 hG r1 n;have n := (Below.refl w.heap.size w).trans (n.mono hG);by_cases m : pos.length = want.length;rotate_left
 · have z : ((pos.length : Int) != (want.length : Int)) = true := by simp; omega
   have hz : Hid (decide (vals = want) = false) := by show _ = _; exact decide_eq_false (fun e => m (by rw [Hl.out, e]))
   clear m;go_wp2
   go_ret
   exact ⟨Z4 hz.out, n⟩
 have z : ((pos.length : Int) != (want.length : Int)) = false := by simp; omega
 have s := Lh m;clear m;obtain ⟨S, b⟩ : ∃ S, S = (fun W => Row W G 25 p.cells ∧ p.ok W ∧ Rd W KA (Qi (QU pos)) ∧ Rd W WA (Qi want) ∧ Below w.heap.size w W) := ⟨_, rfl⟩;have an : St S := by rw [b]; infer_instance
 have s0 : ∀ W, S W → Row W G 25 p.cells := by rw [b]; exact fun W h => h.1
 have S1 : Hid (∀ W, S W → p.ok W) := by show ∀ W, _; rw [b]; exact fun W h => h.2.1
 have S2 : Hid (∀ W, S W → Rd W KA (Qi (QU pos))) := by show ∀ W, _; rw [b]; exact fun W h => h.2.2.1
 have S3 : Hid (∀ W, S W → Rd W WA (Qi want)) := by show ∀ W, _; rw [b]; exact fun W h => h.2.2.2.1
 have S4 : Hid (∀ W, S W → Below w.heap.size w W) := by show ∀ W, _; rw [b]; exact fun W h => h.2.2.2.2
 have hS : S w1 := by rw [b]; exact ⟨r1, t.out.go n, Hk.out.go n, Hw.out.go n, n⟩
 have S0 := Lh s0;clear b r1 n hG t Hk Hw s0;go_wp2
 go_loopw [7] (fun i wr => ∃ k : Nat, i = .int .i64 (k : Int) ∧ k ≤ pos.length ∧ S wr ∧ Hid (vals.take k = want.take k)) (fun i _ => pos.length - (intOf i).toNat)
 case atStart => exact ⟨0, rfl, Nat.zero_le _, hS, Lh rfl⟩
 case round =>
  clear hS;obtain ⟨k, rfl, hk, g, o⟩ := hrel;by_cases j : k < pos.length
  · obtain ⟨q, hq⟩ : ∃ q, pos[k]? = some q := ⟨_, La j⟩;have aa : k < vals.length := by rw [← Hl.out]; exact j
    have ab : k < want.length := by rw [← s.out]; exact j
    obtain ⟨v, hv⟩ : ∃ v, vals[k]? = some v := ⟨_, La aa⟩;obtain ⟨u, hu⟩ : ∃ u, want[k]? = some u := ⟨_, La ab⟩;have y := Lh (ac.out k q v hq hv);obtain ⟨ad, af, _⟩ := QR (l := QU pos) (S2.out _ g) (k := k) (x := (q : Int)) (by simp [QU, hq]);obtain ⟨wd, aj, _⟩ := QR (l := want) (S3.out _ g) (k := k) (x := u) hu;subst af aj
    have ag : Hid (∀ W, S W → W.cell? (ad.add k) = some (.int .i64 (q : Int))) := by
     show ∀ W, _;intro W d;obtain ⟨ae, e, h⟩ := QR (l := QU pos) (S2.out _ d) (k := k) (x := (q : Int)) (by simp [QU, hq]);injection e with e; subst e; exact h
    have ah : Hid (∀ W, S W → W.cell? (wd.add k) = some (.int .i64 u)) := by
     show ∀ W, _;intro W d;obtain ⟨ae, e, h⟩ := QR (l := want) (S3.out _ d) (k := k) (x := u) hu;injection e with e; subst e; exact h
    have al : (k : Int) < (pos.length : Int) := by omega
    have am : (k : Int) < (want.length : Int) := by omega
    have Hv := Lh hv;have Hu := Lh hu;clear hq hv hu j aa ab;go_wp2_with fail
    refine ZA S (by kernel_rfl) (by kernel_rfl) (St.drew g) ?_;clear g;(refine QD rfl 25 _ rfl (G) rfl 25 _ _ S0.out Tryz.underlying25 rfl (by kernel_rfl) ?_; simp only [Act.put, Qa, Qb, Qc])
    iterate 3 (refine Qf rfl ?_ (fun W d => ?_) ?_; rotate_left; (focus (go_simp; exact rfl)); simp only [Act.put, Qa, Qb, Qc])
    (refine Qf rfl ?_ (fun W d => ?_) ?_; rotate_left; (focus (have c := ag.out W d; go_simp; exact rfl)); simp only [Act.put, Qa, Qb, Qc]);(refine QB rfl 139 _ (fun W => by (go_simp; try rfl)) _ (fun W d => y.out W (S1.out _ d)) ?_; simp only [Act.put, Qa, Qb, Qc])
    iterate 3 (refine Qf rfl ?_ (fun W d => ?_) ?_; rotate_left; (focus (go_simp; exact rfl)); simp only [Act.put, Qa, Qb, Qc])
    (refine Qf rfl ?_ (fun W d => ?_) ?_; rotate_left; (focus (have c := ah.out W d; go_simp; exact rfl)); simp only [Act.put, Qa, Qb, Qc])
    iterate 1 (refine Qf rfl ?_ (fun W d => ?_) ?_; rotate_left; (focus (go_simp; exact rfl)); simp only [Act.put, Qa, Qb, Qc])
    refine QG fun W d => ?_
    by_cases r : v = u
    · have ai : (v != u) = false := by simp [r]
      have He := Lh r;clear r;go_wp2
      go_roundw
      case rel =>
       refine ⟨k + 1, by go_num, by omega, d, Lh ?_⟩;rw [L6, L6, o.out, Hv.out, Hu.out, He.out]
      case measure => simp [intOf]; omega
    · have ai : (v != u) = true := by simpa using r
      have hz : Hid (decide (vals = want) = false) := by
       show _ = _;refine decide_eq_false (fun e => r ?_);have h1 := Hv.out;rw [e, Hu.out] at h1;injection h1 with h1; exact h1.symm
      clear r;go_wp2
      go_ret
      exact ⟨Z4 hz.out, S4.out _ d⟩
  · have ak : (pos.length : Int) ≤ (k : Int) := by omega
    obtain rfl : k = pos.length := by omega
    have hz : Hid (decide (vals = want) = true) := by
     show _ = _;have := o.out;rw [L1 (by rw [Hl.out]; exact Nat.le_refl _), L1 (by rw [s.out]; exact Nat.le_refl _)] at this;exact decide_eq_true this
    clear j;go_wp2
    go_ret
    exact ⟨Z4 hz.out, S4.out _ g⟩
end Go.Proofs.YtdcmppdhdcjpfaaGreat
namespace Go.Proofs.YtdcmppdhdcjpfaaGreat
theorem EG {V : List Int} : ∀ (ks : List Tr) (want : List Int) (f : Bool), want.length = ks.length → Q4 V false f ks want = decide (ks.map (ofT V) = want)
 | [], [], f, _ => by rw [Zj]; simp
 | t :: ts, k :: ws, f, h => by
  rw [Q7, EG ts ws false (by simpa using h)]
  simp
  rw [LL]; simp
theorem Aa6 {V : List Int} : ∀ (ks : List Tr) (want : List Int), want.length = ks.length → Q4 V true false ks want = (decide (ks.map (ofT V) = want) && ks.all fun t => t.root.tag == 20)
 | [], [], _ => by rw [Zj]; simp
 | t :: ts, k :: ws, h => by
  rw [Q7, Aa6 ts ws (by simpa using h)]
  simp
  rw [LL]; simp
  constructor
  · rintro ⟨⟨a, b⟩, c, d⟩; exact ⟨⟨a, c⟩, b, d⟩
  · rintro ⟨⟨a, c⟩, b, d⟩; exact ⟨⟨a, b⟩, c, d⟩
theorem AbJ {V : List Int} (ks : List Tr) (want : List Int) (h : want.length = ks.length) : Q4 V true true ks want = (decide (ks.map (ofT V) = want) && JK ks 1) := by
 cases ks with
 | nil =>
  have : want = [] := Lt h;subst this;rw [Zj]; simp [JK]
 | cons t ts =>
  cases want with
  | nil => simp at h
  | cons k ws =>
   rw [Q7, Aa6 ts ws (by simpa using h)];unfold JK;simp only [Bool.not_true, Bool.and_false, Bool.not_false, Bool.true_or, Bool.and_true, Ly, L8, LF, N0];rw [LL]; simp;constructor
   · rintro ⟨a, c, d⟩; exact ⟨⟨a, c⟩, d⟩
   · rintro ⟨⟨a, c⟩, d⟩; exact ⟨a, c, d⟩
theorem ZC {V : List Int} {x : Nd} {ks : List Tr} (h : Zq x = false) : ofT V (.node x ks) = if isZ V x = -1 then -1 else KJ (decide (ks.map (ofT V) = QQ V x ks.length)) (isZ V x) := by
 rw [ofT];by_cases c : isZ V x = -1
 · rw [if_pos (.inl c), if_pos c]
 · rw [if_neg c];by_cases d : (QQ V x ks.length).length ≠ ks.length
   · rw [if_pos (.inr d), decide_eq_false]
     · rfl
     · intro e; rw [← e] at d; simp at d
   · have b := Classical.not_not.1 d;rw [if_neg (by simp [c, b]), h, EG _ _ _ b];rfl
theorem Aa5 {V : List Int} {x : Nd} {ks : List Tr} (h : Zq x = true) : ofT V (.node x ks) = KJ (decide (ks.map (ofT V) = QQ V x ks.length) && JK ks 1) 2 := by
 have d : x.tag = 23 ∨ x.tag = 24 := by simpa [Zq] using h
 have hi : isZ V x = 2 := by unfold isZ; repeat (first | rw [if_pos (by omega)] | rw [if_neg (by omega)])
 rw [ofT, hi];by_cases c : (QQ V x ks.length).length ≠ ks.length
 · rw [if_pos (.inr c), decide_eq_false]
   · rfl
   · intro e; rw [← e] at c; simp at c
 · have b := Classical.not_not.1 c;rw [if_neg (by simp [b]), h, AbJ _ _ b];rfl
theorem YX {V : List Int} {n : Int} (h : 0 ≤ n) : ZK V n = (V[n.toNat]?).getD (-1) := by
 unfold ZK;by_cases b : (V.length : Int) ≤ n
 · rw [if_pos (.inr b), LW (by omega)]; rfl
 · rw [if_neg (by omega), La (by omega)]; rfl
theorem X3 {V : List Int} {n : Int} (h : 0 ≤ n) : Jc V n = decide (ZK V n = 0 ∨ ZK V n = 1) := by
 rw [YX h]; unfold Jc;cases V[n.toNat]? with
 | none => rfl
 | some t => rw [LL]; simp
theorem Y4 {V : List Int} {n : Int} (h : 0 ≤ n) : JV V n = decide (0 < Qx (ZK V n)) := by
 rw [YX h]; unfold JV;cases V[n.toNat]? with
 | none => rfl
 | some t => rw [LL]; simp [Qx]; split <;> omega
theorem Abi {V : List Int} {n : Int} (h : 0 ≤ n) (hp : Jc V n = true) : (V[n.toNat]?).getD 0 = ZK V n := by
 obtain ⟨t, b, _⟩ := Xe hp;rw [YX h, b]; rfl
theorem AaE {V : List Int} {n : Int} (h : ∀ t ∈ V, InI t) : InI (ZK V n) := by
 unfold ZK;split
 · unfold InI; omega
 · cases hg : V[n.toNat]? with
   | none => unfold InI; simp
   | some t => exact h t (Lf hg)
end Go.Proofs.YtdcmppdhdcjpfaaGreat
