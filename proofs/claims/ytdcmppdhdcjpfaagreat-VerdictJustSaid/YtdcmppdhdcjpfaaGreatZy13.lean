/- Lemmas for VerdictJustP. -/
import Derived.Test.YtdcmppdhdcjpfaaGreatZy1
import Derived.Test.YtdcmppdhdcjpfaaGreatZy12
import Derived.Test.YtdcmppdhdcjpfaaGreatZy10
import Derived.Test.YtdcmppdhdcjpfaaGreatZy11
set_option linter.unusedVariables false
set_option linter.unusedSimpArgs false
set_option maxRecDepth 100000
set_option maxHeartbeats 16000000
namespace Go.Proofs.YtdcmppdhdcjpfaaGreat
open Go.RowKit Go.Deep
def IntB (W : World) (A : Option Addr) : Prop := ∀ a, A = some a → ∃ cs : Array Value, Row W a.block 3 cs
theorem IntB.go {W W' : World} {A : Option Addr} (h : IntB W A) (b : Below W.heap.size W W') : IntB W' A := fun a e => by
 obtain ⟨d, c⟩ := h a e;exact ⟨d, c.below b c.lt⟩
theorem EF {w : World} {base n : Nat} {v : Value} {xs : List Value} {A : Option Addr} {m c : Nat} (h : w.ownsRow base 3 1 v n xs) (e : v = .slice A m c) : IntB w A := fun a ha => by
 rcases h.2 with ⟨d, _⟩ | ⟨g, c, i, d, k, j, _⟩
 · rw [e] at d; injection d with e3; rw [ha] at e3; cases e3
 · rw [e] at d; injection d with e3; rw [ha] at e3; injection e3 with e3; rw [e3]; exact ⟨i, j⟩
structure IntsN (xs : List Int) (w w' : World) (e : Ending) : Prop where
 ex : ∃ A cap, e = .returned (.slice A xs.length cap) ∧ Rd w' A (Qi xs) ∧ (A = none → xs = []) ∧ Below w.heap.size w w' ∧ IntB w' A
def JV (but : Int) (l : List Int) : List Int := (Xd l).filter (· != but)
theorem Adg (g cap B : Nat) (but : Int) (l : List Int) (w : World) (hr : Row w g 3 (Qi l).toArray) (hl : l.length ≤ 1000) (hc : l.length ≤ cap) (hcm : cap ≤ maxLen) (hB : B ≤ g) :
 Calls Tryz.prog 288 #[.int .i64 but, .slice (some ⟨g, 0, none⟩) l.length cap] w fun e w' => ∃ A c, e = .returned (.slice A (JV but l).length c) ∧ Rd w' A (Qi (JV but l)) ∧ (A = none → JV but l = []) ∧ Below B w w' ∧ IntB w' A := by
 have ab := hr.lt;have Hr := Lh hr;have Hl := Lh hl;have Hc := Lh hc;have z := Lh hcm;clear hr hl hc hcm;go_enter Tryz.func288, Tryz.ntmps288
 go_wp2_with (refine Qn _ _ rfl ?_)
 refine Stop.to ?_;refine Qe rfl 3 _ rfl #[.int .i64 but] rfl ?_;intro P Pw Ph Pr Pb;have h : P ≠ g := by omega
 have rg := Hr.out.below Pb (by omega);have n : OnRow g w Pw := OnRow.of_below (Pb.mono Ph);have rP := Pr;have Hs := Lh (AgA g cap l Pw rg Hl.out);clear Pb Pr Ph;go_wp2_with fail
 refine Hs.out.mono ?_;clear Hs rg;rintro e w1 ⟨rfl, r1, i⟩;have s := i.row rP h;have o := n.trans i;have d : (l.mergeSort fun x y => decide (x ≤ y)).length = l.length := List.length_mergeSort l;have Hk := Lh (Abo g cap (l.mergeSort fun x y => decide (x ≤ y)) w1 r1 (by rw [d]; exact Hl.out) (by rw [d]; exact Hc.out));rw [d, AgB] at Hk;clear rP n i d r1;go_wp2_with fail
 refine Hk.out.mono ?_;clear Hk;rintro e w2 ⟨rfl, r2, k⟩;have t := k.row s h;have p := o.trans k;have aa : (Xd l).length ≤ l.length := E7 l;have Hd := Lh (Ahb g cap P but (Xd l) (List.replicate (l.length - (Xd l).length) 0) w2 r2 t h (by have := Hl.out; omega) (by have := Hc.out; omega) z.out);clear s o k r2 t aa;go_wp2_with fail
 refine Hd.out.mono ?_;clear Hd;rintro e w3 ⟨rfl, q, cs, r3, m⟩;have r := p.trans q
 have v : Hid (Below B w w3 ∧ IntB w3 (some ⟨g, 0, none⟩) ∧ Rd w3 (some ⟨g, 0, none⟩) (Qi (JV but l))) := ⟨r.below hB (by omega), fun a e => by injection e with e; subst e; exact ⟨_, r3⟩, fun j u hj => ⟨_, rfl, by
  have := r3.cellv (m j u hj)
  unfold Addr.add
  by_cases h0 : j = 0
  · subst h0; exact this
  · rw [if_neg h0]; simpa using this⟩⟩
 clear p q r r3 m;go_wp2_with fail
 go_ret
 exact ⟨_, _, rfl, v.out.2.2, by simp, v.out.1, v.out.2.1⟩
theorem Abx : (Tryz.prog.info? 3).map (fun i => (i.zero, i.size)) = some (some (.int .i64 0), 1) := by kernel_rfl
def ZB (x : Nd) : List Int := if x.tag = 1 then JV x.n [0, 1] else [0, 1]
theorem Acd (x : Nd) (w : World) :
 Calls Tryz.prog 289 #[.agg x.cells.toArray] w fun e w' => IntsN (ZB x) w w' e := by
 rw [show x.cells.toArray = #[.int .i64 x.tag, .int .i64 x.n] from rfl];go_enter Tryz.func289, Tryz.ntmps289
 go_wp2_with (refine Qn _ _ rfl ?_)
 refine Stop.to ?_;refine Qe rfl 85 _ rfl #[.int .i64 x.tag, .int .i64 x.n] rfl ?_;intro G Gw t p s;have z := p.cellv (i := 0) (v := .int .i64 x.tag) rfl;have c1 := p.cellv (i := 1) (v := .int .i64 x.n) rfl;have d := (Below.refl w.heap.size w).trans (s.mono t);clear s t p;by_cases h : x.tag = 1
 · have q : (x.tag == 1) = true := by simpa using h
   have j : Hid (ZB x = JV x.n [0, 1]) := by show _ = _; unfold ZB; rw [if_pos h]
   clear h;go_wp2_with (refine Zw _ _ _ rfl ?_)
   refine Stop.to ?_;refine Qv rfl 22 2 _ rfl 3 (Qi [0, 1]).toArray (ZP Tryz.underlying22 Abx (by decide) (by decide) (by kernel_rfl)) ?_;intro M m l g k;have y := d.trans ((k.mono l).mono d.size);have u := Lh (Adg M 2 w.heap.size x.n [0, 1] m g (by simp) (by simp) (by unfold maxLen; omega) (by have := d.size; omega));clear g k l z c1 d;go_wp2_with fail
   refine u.out.mono ?_;clear u;rintro e r ⟨A, c, rfl, h1, h2, h3, h4⟩;have o : Hid (Rd r A (Qi (JV x.n [0, 1])) ∧ (A = none → JV x.n [0, 1] = []) ∧ Below w.heap.size w r ∧ IntB r A) := ⟨h1, h2, y.trans h3, h4⟩;clear h1 h2 h3 h4 y;go_wp2_with fail
   go_ret
   exact ⟨A, c, by rw [j.out]; rfl, by rw [j.out]; exact o.out⟩
 · have q : (x.tag == 1) = false := by simpa using h
   have j : Hid (ZB x = [0, 1]) := by show _ = _; unfold ZB; rw [if_neg h]
   clear h;go_wp2_with (refine Zw _ _ _ rfl ?_)
   refine Stop.to ?_;refine Qv rfl 22 2 _ rfl 3 (Qi [0, 1]).toArray (ZP Tryz.underlying22 Abx (by decide) (by decide) (by kernel_rfl)) ?_;intro M m l g k;have o : Hid (Rd m (some ⟨M, 0, none⟩) (Qi [0, 1]) ∧ Below w.heap.size w m ∧ IntB m (some ⟨M, 0, none⟩)) := ⟨Kz g, d.trans ((k.mono l).mono d.size), fun a e => by injection e with e; subst e; exact ⟨_, g⟩⟩;clear g k l z c1 d;go_wp2_with fail
   go_ret
   exact ⟨_, _, by rw [j.out]; rfl, by rw [j.out]; exact o.out.1, by simp, o.out.2⟩
def Uy (lo but : Int) (k : Nat) : List Int := ((List.range k).map fun i : Nat => lo + (i : Int)).filter (· != but)
def Jn (lo hi but : Int) : List Int := Uy lo but (hi + 1 - lo).toNat
theorem Agw (lo but : Int) (k : Nat) : Uy lo but (k + 1) = Uy lo but k ++ if lo + (k : Int) = but then [] else [lo + (k : Int)] := by
 unfold Uy;rw [List.range_succ, Nk, NI];by_cases h : lo + (k : Int) = but <;> simp [h]
theorem AfB (lo but : Int) (k : Nat) : (Uy lo but k).length ≤ k := by
 unfold Uy;have := List.length_filter_le (· != but) ((List.range k).map fun i : Nat => lo + (i : Int));simpa using this
theorem VI (lo hi but : Int) (w : World) (h0 : 0 ≤ lo) (h1 : lo ≤ hi) (h2 : hi ≤ 100) :
 Calls Tryz.prog 287 #[.int .i64 lo, .int .i64 hi, .int .i64 but] w fun e w' => IntsN (Jn lo hi but) w w' e := by
 obtain ⟨n, hn⟩ : ∃ n, n = (hi + 1 - lo).toNat := ⟨_, rfl⟩;have ai : lo + (n : Int) = hi + 1 := by omega
 have Hn := Lh hn;clear hn;go_enter Tryz.func287, Tryz.ntmps287
 go_wp2
 go_loopw [7, 8] (fun v i wr => ∃ k : Nat, i = .int .i64 (lo + (k : Int)) ∧ k ≤ n ∧ wr.ownsRow w.heap.size 3 1 v (Uy lo but k).length (Qi (Uy lo but k)) ∧ Below w.heap.size w wr) (fun _ i _ => (hi + 1 - intOf i).toNat)
 case atStart => exact ⟨0, by simp, Nat.zero_le _, World.ownsRow_nil _ _ _ _, Below.refl _ _⟩
 case round =>
  rename_i v;obtain ⟨k, rfl, hk, d, z⟩ := hrel;obtain ⟨A, c, rfl, p, ab, l, r⟩ := X4 d;have o := EF d rfl;by_cases ah : k < n
  · have ag : lo + (k : Int) ≤ hi := by omega
    have t := Agw lo but k;have ad := AfB lo but k;by_cases g : lo + (k : Int) = but
    · have ae : ((lo + (k : Int)) != but) = false := by simp [g]
      rw [if_pos g, LU] at t;have Hs := Lh t;have x := Lh d;clear t g d p ab l r o;go_wp2_with fail
      go_roundw
      case rel => exact ⟨k + 1, by go_num, by omega, by rw [Hs.out]; exact x.out, z⟩
      case measure => simp [intOf]; omega
    · have ae : ((lo + (k : Int)) != but) = true := by simp [g]
      rw [if_neg g] at t;have Hs := Lh t;have u := Lh ad;clear t g p ab l r ad o;go_wp2_with (refine Zw _ _ _ rfl ?_)
      refine Stop.to ?_;refine Qv rfl 22 1 _ rfl 3 #[.int .i64 (lo + (k : Int))] (ZP Tryz.underlying22 Abx (by decide) (by decide) (by kernel_rfl)) ?_;intro M Mw Mh Mr Mb;have j := z.trans ((Mb.mono Mh).mono z.size);obtain ⟨v', w', q, h, ac, _⟩ := ZZ (P := Tryz.prog) 22 3 (.int .i64 0) 1 8 Tryz.underlying22 Z9 rfl (by decide) (by decide) (QB d (Mb.mono Mh)) j.size (Kz (cs := [.int .i64 (lo + (k : Int))]) Mr) (m := 1) (cap := 1) rfl (Jj [lo + (k : Int)]) (by simp) (by have := u.out; omega);have aa := QV j (QB d (Mb.mono Mh)) ac j.size (Nat.le_refl _);have s : Hid (w'.ownsRow w.heap.size 3 1 v' (Uy lo but (k + 1)).length (Qi (Uy lo but (k + 1))) ∧ Below w.heap.size w w') := ⟨by rw [Hs.out, Lf, JO]; exact h, aa⟩;have y := Lh q;clear q h ac aa j z Mr Mb Mh d Hs u;go_wp2_with (refine Zk rfl _ (Q1 rfl y.out) ?_)
      go_roundw
      case rel => exact ⟨k + 1, by go_num, by omega, s.out⟩
      case measure => simp [intOf]; omega
  · obtain rfl : k = n := by omega
    have af : hi < lo + (k : Int) := by omega
    have s : Hid (Rd wr A (Qi (Jn lo hi but)) ∧ (A = none → Jn lo hi but = []) ∧ Uy lo but k = Jn lo hi but ∧ IntB wr A) := by
     have e : Uy lo but k = Jn lo hi but := by unfold Jn; rw [Hn.out]
     rw [← e]
     exact ⟨p, fun e => by
      have := l e; have : (Uy lo but k).length = 0 := by omega
      exact Lx this, rfl, o⟩
    clear p l d r o;go_wp2_with fail
    go_ret
    exact ⟨A, c, by rw [← s.out.2.2.1]; rfl, s.out.1, s.out.2.1, z, s.out.2.2.2⟩
attribute [local go_sem] Oper.semAt_some
structure KpG (Z : Nat → Obj → Prop) (A B : World) : Prop where
 block : ∀ k o, ¬ Z k o → A.heap[k]? = some o → B.heap[k]? = some o
 size : A.heap.size ≤ B.heap.size
theorem KpG.trans {Z : Nat → Obj → Prop} {A B C : World} (h : KpG Z A B) (k : KpG Z B C) : KpG Z A C := ⟨fun i o hx ho => k.block i o hx (h.block i o hx ho), Le h.size k.size⟩
theorem KpG.refl (Z : Nat → Obj → Prop) (A : World) : KpG Z A A := ⟨fun _ _ _ h => h, Nat.le_refl _⟩
theorem KpG.of_below {Z : Nat → Obj → Prop} {A B : World} (h : Below A.heap.size A B) : KpG Z A B := ⟨fun k o _ ho => by rw [h.block k (Ln.1 ho).1]; exact ho, h.size⟩
theorem KpG.row {Z : Nat → Obj → Prop} {A B : World} (h : KpG Z A B) {g : Nat} {t : TypeId} {cs : Array Value} (hr : Row A g t cs) (hx : ¬ Z g (.cells cs t (0, 0))) : Row B g t cs := h.block g _ hx hr
theorem KpG.rd {Z : Nat → Obj → Prop} {A B : World} (h : KpG Z A B) {ad : Option Addr} {xs : List Value} (hr : Rd A ad xs) (hx : xs ≠ [] → ∀ a, ad = some a → ∀ o, ¬ Z a.block o) : Rd B ad xs := fun j u hj => by
 obtain ⟨a, e, k⟩ := hr j u hj;have g : xs ≠ [] := fun e => by rw [e] at hj; simp at hj
 have d := World.block_lt_of_cell? _ _ k;have c : (a.add j).block = a.block := JI a j;rw [c] at d;have i : A.heap[a.block]? = some A.heap[a.block] := NE d;have l := h.block _ _ (hx g a e _) i;exact ⟨a, e, (World.cell?_of_block (by rw [c]; exact l.trans i.symm)).trans k⟩
theorem AbU {W : World} {g : Nat} {t : TypeId} {v : Value} (h : Row W g t #[v]) : W.setCell ⟨g, 0, none⟩ v = W := by
 have c := h.set 0 v;have j := Zh W g 0 v;rw [show (#[v] : Array Value).setIfInBounds 0 v = #[v] by simp] at c
 have i : (W.setCell ⟨g, 0, none⟩ v).heap = W.heap := by
  apply Array.ext_getElem?;intro k;by_cases d : k = g
  · subst d; rw [show (W.setCell ⟨k, 0, none⟩ v).heap[k]? = _ from c, show W.heap[k]? = _ from h]
  · exact j.block k d
 have e : W.setCell ⟨g, 0, none⟩ v = { W with heap := (W.setCell ⟨g, 0, none⟩ v).heap } := rfl;rw [e, i]
structure LsX where
 op : Int
 A : Option Addr
 cap : Nat
 l : List Int
def LsX.f (x : LsX) : Int × List Int := (x.op, x.l)
def LsX.enc (x : LsX) : Array Value := #[.int .i64 x.op, .slice x.A x.l.length x.cap]
structure LsX.ok (x : LsX) (W : World) : Prop where
 rd : Rd W x.A (Qi x.l)
 nil : x.A = none → x.l = []
 ty : IntB W x.A
def LsP (full : List (Int × List Int)) (pre : List LsX) (x : LsX) (W : World) : Prop := x.ok W ∧ ∃ rest, pre.map LsX.f ++ x.f :: rest = full
def Ki (x y : Nd) : List (Int × List Int) :=
 (if 7 ≤ x.tag ∧ x.tag ≤ 11 then [(1, Jn 7 11 x.tag)] else if 12 ≤ x.tag ∧ x.tag ≤ 17 then [(2, Jn 12 17 x.tag)] else if x.tag = 18 ∨ x.tag = 19 then [(3, Jn 18 19 x.tag)]
  else if x.tag = 1 then [(4, JV x.n [0, 1, -1, wrap64 (x.n + 1), wrap64 (x.n - 1)])] else if x.tag = 2 then [(4, [wrap64 (1 - x.n)])] else [])
 ++ (if x.tag = 21 ∨ x.tag = 22 ∨ x.tag = 23 ∨ x.tag = 24 ∨ x.tag = 25 then [(5, [0])] else [])
 ++ (if x.tag = 23 ∨ x.tag = 24 then [(6, [0])] else if x.tag = 25 then [(7, ZB y)] else [])
structure TellC (lb mo yb : Nat) (Z : Nat → Obj → Prop) (W : World) : Prop where
 rm : Row W mo 4 #[.bool true]
 ry : Row W yb 329 #[.func (.yield lb) #[] #[]]
 zm : ∀ cs fr, ¬ Z mo (.cells cs 4 fr)
 zy : ∀ cs fr, ¬ Z yb (.cells cs 329 fr)
theorem TellC.kg {lb mo yb : Nat} {Z : Nat → Obj → Prop} {W W' : World} (h : TellC lb mo yb Z W) (k : KpG Z W W') : TellC lb mo yb Z W' := ⟨k.row h.rm (h.zm _ _), k.row h.ry (h.zy _ _), h.zm, h.zy⟩
theorem Jg (lb mo yb : Nat) (Z : Nat → Obj → Prop) (W : World) (x : LsX) (R : World → Prop) (hC : TellC lb mo yb Z W)
 (hY : YieldAt Fence.wide 0 Tryz.prog lb x.enc W fun e W' => e = .returned (.bool true) ∧ R W' ∧ KpG Z W W') :
 CallsIn Fence.wide 0 Tryz.prog 286 #[.int .i64 x.op, .slice x.A x.l.length x.cap, .pointer (some ⟨mo, 0, none⟩), .pointer (some ⟨yb, 0, none⟩)] W fun e W' => (∃ v, e = .returned v) ∧ R W' ∧ KpG Z W W' := by
 have j := Lh hC;obtain ⟨fn, h, c, g, r, p⟩ := hY;have m : (Instr.yield lb #[.int .i64 x.op, .slice x.A x.l.length x.cap]).run Tryz.prog W = .ok (.round lb fn h c g) W := r;have n := Lh p;clear r p hC;have u := j.out.rm.cellv (i := 0) (v := .bool true) rfl;have y := j.out.ry.cellv (i := 0) (v := .func (.yield lb) #[] #[]) rfl;refine callsIn_of_wp Tryz.func286 rfl trivial ?_ rfl;simp only [Tryz.ntmps286, Lj, Ld, Lp, Nat.reduceAdd, Nat.reduceSub, Ll, Lm, Lr, L2, Lo, Lk];gi_wp2_with fail
 refine ⟨rfl, n.out.mono ?_⟩;clear m n u y;rintro e o ⟨rfl, q, k⟩;have d := j.out.kg k;have w := d.rm.cellv (i := 0) (v := .bool true) rfl;have z := d.rm.free 0;have t := Lh (AbU d.rm);have s : Hid (R o ∧ KpG Z W o) := ⟨q, k⟩;clear q k d;gi_wp2_with fail
 rw [t.out];go_end0
 exact ⟨⟨_, rfl⟩, s.out⟩
structure ListsC (A : Option Addr) (cap n bl Rb : Nat) (x : Nd) (ys : List Nd) (Z : Nat → Obj → Prop) (w : World) : Prop where
 rl : Row w bl 23 #[.slice A n cap]
 hr : Rd w A ((x :: ys).flatMap Nd.cells)
 hn : n = (x :: ys).length
 z1 : ∀ k o, k < w.heap.size → k ≠ Rb → ¬ Z k o
 bn : bl ≠ Rb
 an : ∀ ad, A = some ad → ad.block ≠ Rb
 z2 : ∀ k cs t fr, w.heap.size ≤ k → (t = 329 ∨ t = 85 ∨ t = 4 ∨ t = 3) → ¬ Z k (.cells cs t fr)
 h25 : x.tag = 25 → ys ≠ []
end Go.Proofs.YtdcmppdhdcjpfaaGreat
