/- Lemmas for VerdictMoreP. -/
import Derived.Test.YtdcmppdhdcjpfaaGreatZr1
import Derived.Test.YtdcmppdhdcjpfaaGreatZr12
import Derived.Test.YtdcmppdhdcjpfaaGreatZr10
import Derived.Test.YtdcmppdhdcjpfaaGreatZr11
set_option linter.unusedVariables false
set_option linter.unusedSimpArgs false
set_option maxRecDepth 100000
set_option maxHeartbeats 16000000
namespace Go.Proofs.YtdcmppdhdcjpfaaGreat
open Go.RowKit Go.Deep
def IntB (W : World) (A : Option Addr) : Prop := ∀ a, A = some a → ∃ cs : Array Value, Row W a.block 3 cs
theorem IntB.go {W W' : World} {A : Option Addr} (h : IntB W A) (b : Below W.heap.size W W') : IntB W' A := fun a e => by
 obtain ⟨cs, hr⟩ := h a e
 exact ⟨cs, hr.below b hr.lt⟩
theorem VG {w : World} {base n : Nat} {v : Value} {xs : List Value} {A : Option Addr} {m c : Nat} (h : w.ownsRow base 3 1 v n xs) (e : v = .slice A m c) : IntB w A := fun a ha => by
 rcases h.2 with ⟨e2, _⟩ | ⟨g, c, cur, e2, hb, hr, _⟩
 · rw [e] at e2; injection e2 with e3; rw [ha] at e3; cases e3
 · rw [e] at e2; injection e2 with e3; rw [ha] at e3; injection e3 with e3; rw [e3]; exact ⟨cur, hr⟩
structure IntsN (xs : List Int) (w w' : World) (e : Ending) : Prop where
 ex : ∃ A cap, e = .returned (.slice A xs.length cap) ∧ Rd w' A (Qi xs) ∧ (A = none → xs = []) ∧ Below w.heap.size w w' ∧ IntB w' A
def JI (but : Int) (l : List Int) : List Int := (KJ l).filter (· != but)
theorem Acs (g cap B : Nat) (but : Int) (l : List Int) (w : World) (hr : Row w g 3 (Qi l).toArray) (hl : l.length ≤ 1000) (hc : l.length ≤ cap) (hcm : cap ≤ maxLen) (hB : B ≤ g) :
 Calls Tryz.prog 288 #[.int .i64 but, .slice (some ⟨g, 0, none⟩) l.length cap] w fun e w' => ∃ A c, e = .returned (.slice A (JI but l).length c) ∧ Rd w' A (Qi (JI but l)) ∧ (A = none → JI but l = []) ∧ Below B w w' ∧ IntB w' A := by
 have hgl := hr.lt
 have Hr := Lh hr
 have Hl := Lh hl
 have Hc := Lh hc
 have Hcm := Lh hcm
 clear hr hl hc hcm
 go_enter Tryz.func288, Tryz.ntmps288
 go_wp2_with (refine Qp _ _ rfl ?_)
 refine Stop.to ?_
 refine Qf rfl 3 _ rfl #[.int .i64 but] rfl ?_
 intro P Pw Ph Pr Pb
 have hPg : P ≠ g := by omega
 have rg := Hr.out.below Pb (by omega)
 have on1 : OnRow g w Pw := OnRow.of_below (Pb.mono Ph)
 have rP := Pr
 have Hs := Lh (Afs g cap l Pw rg Hl.out)
 clear Pb Pr Ph
 go_wp2_with fail
 refine Hs.out.mono ?_
 clear Hs rg
 rintro e w1 ⟨rfl, r1, on2⟩
 have rP1 := on2.row rP hPg
 have on3 := on1.trans on2
 have hml : (l.mergeSort fun x y => decide (x ≤ y)).length = l.length := List.length_mergeSort l
 have Hk := Lh (AaD g cap (l.mergeSort fun x y => decide (x ≤ y)) w1 r1 (by rw [hml]; exact Hl.out) (by rw [hml]; exact Hc.out))
 rw [hml, Aft] at Hk
 clear rP on1 on2 hml r1
 go_wp2_with fail
 refine Hk.out.mono ?_
 clear Hk
 rintro e w2 ⟨rfl, r2, on4⟩
 have rP2 := on4.row rP1 hPg
 have on5 := on3.trans on4
 have hsl : (KJ l).length ≤ l.length := Eg l
 have Hd := Lh (AfT g cap P but (KJ l) (List.replicate (l.length - (KJ l).length) 0) w2 r2 rP2 hPg (by have := Hl.out; omega) (by have := Hc.out; omega) Hcm.out)
 clear rP1 on3 on4 r2 rP2 hsl
 go_wp2_with fail
 refine Hd.out.mono ?_
 clear Hd
 rintro e w3 ⟨rfl, on6, cs, r3, hcs⟩
 have on7 := on5.trans on6
 have HF : Hid (Below B w w3 ∧ IntB w3 (some ⟨g, 0, none⟩) ∧ Rd w3 (some ⟨g, 0, none⟩) (Qi (JI but l))) := ⟨on7.below hB (by omega), fun a e => by injection e with e; subst e; exact ⟨_, r3⟩, fun j u hj => ⟨_, rfl, by
  have := r3.cellv (hcs j u hj)
  unfold Addr.add
  by_cases h0 : j = 0
  · subst h0; exact this
  · rw [if_neg h0]; simpa using this⟩⟩
 clear on5 on6 on7 r3 hcs
 go_wp2_with fail
 go_ret
 exact ⟨_, _, rfl, HF.out.2.2, by simp, HF.out.1, HF.out.2.1⟩
theorem AaL : (Tryz.prog.info? 3).map (fun i => (i.zero, i.size)) = some (some (.int .i64 0), 1) := by kernel_rfl
def Zv (x : Nd) : List Int := if x.tag = 1 then JI x.n [0, 1] else [0, 1]
theorem Abs (x : Nd) (w : World) :
 Calls Tryz.prog 289 #[.agg x.cells.toArray] w fun e w' => IntsN (Zv x) w w' e := by
 rw [show x.cells.toArray = #[.int .i64 x.tag, .int .i64 x.n] from rfl]
 go_enter Tryz.func289, Tryz.ntmps289
 go_wp2_with (refine Qp _ _ rfl ?_)
 refine Stop.to ?_
 refine Qf rfl 85 _ rfl #[.int .i64 x.tag, .int .i64 x.n] rfl ?_
 intro G Gw Gh Gr Gb
 have c0 := Gr.cellv (i := 0) (v := .int .i64 x.tag) rfl
 have c1 := Gr.cellv (i := 1) (v := .int .i64 x.n) rfl
 have b1 := (Below.refl w.heap.size w).trans (Gb.mono Gh)
 clear Gb Gh Gr
 by_cases ht : x.tag = 1
 · have ht' : (x.tag == 1) = true := by simpa using ht
   have Hz : Hid (Zv x = JI x.n [0, 1]) := by show _ = _; unfold Zv; rw [if_pos ht]
   clear ht
   go_wp2_with (refine Zp _ _ _ rfl ?_)
   refine Stop.to ?_
   refine Qu rfl 22 2 _ rfl 3 (Qi [0, 1]).toArray (ZH Tryz.underlying22 AaL (by decide) (by decide) (by kernel_rfl)) ?_
   intro M Mw Mh Mr Mb
   have b2 := b1.trans ((Mb.mono Mh).mono b1.size)
   have Ho := Lh (Acs M 2 w.heap.size x.n [0, 1] Mw Mr (by simp) (by simp) (by unfold maxLen; omega) (by have := b1.size; omega))
   clear Mr Mb Mh c0 c1 b1
   go_wp2_with fail
   refine Ho.out.mono ?_
   clear Ho
   rintro e w3 ⟨A, c, rfl, h1, h2, h3, h4⟩
   have HF : Hid (Rd w3 A (Qi (JI x.n [0, 1])) ∧ (A = none → JI x.n [0, 1] = []) ∧ Below w.heap.size w w3 ∧ IntB w3 A) := ⟨h1, h2, b2.trans h3, h4⟩
   clear h1 h2 h3 h4 b2
   go_wp2_with fail
   go_ret
   exact ⟨A, c, by rw [Hz.out]; rfl, by rw [Hz.out]; exact HF.out⟩
 · have ht' : (x.tag == 1) = false := by simpa using ht
   have Hz : Hid (Zv x = [0, 1]) := by show _ = _; unfold Zv; rw [if_neg ht]
   clear ht
   go_wp2_with (refine Zp _ _ _ rfl ?_)
   refine Stop.to ?_
   refine Qu rfl 22 2 _ rfl 3 (Qi [0, 1]).toArray (ZH Tryz.underlying22 AaL (by decide) (by decide) (by kernel_rfl)) ?_
   intro M Mw Mh Mr Mb
   have HF : Hid (Rd Mw (some ⟨M, 0, none⟩) (Qi [0, 1]) ∧ Below w.heap.size w Mw ∧ IntB Mw (some ⟨M, 0, none⟩)) := ⟨JM Mr, b1.trans ((Mb.mono Mh).mono b1.size), fun a e => by injection e with e; subst e; exact ⟨_, Mr⟩⟩
   clear Mr Mb Mh c0 c1 b1
   go_wp2_with fail
   go_ret
   exact ⟨_, _, by rw [Hz.out]; rfl, by rw [Hz.out]; exact HF.out.1, by simp, HF.out.2⟩
def YU (lo but : Int) (k : Nat) : List Int := ((List.range k).map fun i : Nat => lo + (i : Int)).filter (· != but)
def Jc (lo hi but : Int) : List Int := YU lo but (hi + 1 - lo).toNat
theorem Afq (lo but : Int) (k : Nat) : YU lo but (k + 1) = YU lo but k ++ if lo + (k : Int) = but then [] else [lo + (k : Int)] := by
 unfold YU
 rw [List.range_succ, List.map_append, List.filter_append]
 by_cases h : lo + (k : Int) = but <;> simp [h]
theorem AeC (lo but : Int) (k : Nat) : (YU lo but k).length ≤ k := by
 unfold YU
 have := List.length_filter_le (· != but) ((List.range k).map fun i : Nat => lo + (i : Int))
 simpa using this
theorem UU (lo hi but : Int) (w : World) (h0 : 0 ≤ lo) (h1 : lo ≤ hi) (h2 : hi ≤ 100) :
 Calls Tryz.prog 287 #[.int .i64 lo, .int .i64 hi, .int .i64 but] w fun e w' => IntsN (Jc lo hi but) w w' e := by
 obtain ⟨n, hn⟩ : ∃ n, n = (hi + 1 - lo).toNat := ⟨_, rfl⟩
 have hn2 : lo + (n : Int) = hi + 1 := by omega
 have Hn := Lh hn
 clear hn
 go_enter Tryz.func287, Tryz.ntmps287
 go_wp2
 go_loopw [7, 8] (fun v i wr => ∃ k : Nat, i = .int .i64 (lo + (k : Int)) ∧ k ≤ n ∧ wr.ownsRow w.heap.size 3 1 v (YU lo but k).length (Qi (YU lo but k)) ∧ Below w.heap.size w wr) (fun _ i _ => (hi + 1 - intOf i).toNat)
 case atStart => exact ⟨0, by simp, Nat.zero_le _, World.ownsRow_nil _ _ _ _, Below.refl _ _⟩
 case round =>
  rename_i v
  obtain ⟨k, rfl, hk, hown, hb⟩ := hrel
  obtain ⟨A, c, rfl, hrd, hcn, hcz, hbl⟩ := Xy hown
  have hib := VG hown rfl
  by_cases hlt : k < n
  · have hle : lo + (k : Int) ≤ hi := by omega
    have hs := Afq lo but k
    have hkl := AeC lo but k
    by_cases hbut : lo + (k : Int) = but
    · have hb' : ((lo + (k : Int)) != but) = false := by simp [hbut]
      rw [if_pos hbut, List.append_nil] at hs
      have Hs := Lh hs
      have Hown := Lh hown
      clear hs hbut hown hrd hcn hcz hbl hib
      go_wp2_with fail
      go_roundw
      case rel => exact ⟨k + 1, by go_num, by omega, by rw [Hs.out]; exact Hown.out, hb⟩
      case measure => simp [intOf]; omega
    · have hb' : ((lo + (k : Int)) != but) = true := by simp [hbut]
      rw [if_neg hbut] at hs
      have Hs := Lh hs
      have Hkl := Lh hkl
      clear hs hbut hrd hcn hcz hbl hkl hib
      go_wp2_with (refine Zp _ _ _ rfl ?_)
      refine Stop.to ?_
      refine Qu rfl 22 1 _ rfl 3 #[.int .i64 (lo + (k : Int))] (ZH Tryz.underlying22 AaL (by decide) (by decide) (by kernel_rfl)) ?_
      intro M Mw Mh Mr Mb
      have hb2 := hb.trans ((Mb.mono Mh).mono hb.size)
      obtain ⟨v', w', hrun, hown', hgr, _⟩ := ZB (P := Tryz.prog) 22 3 (.int .i64 0) 1 8 Tryz.underlying22 Jn rfl (by decide) (by decide) (Qs hown (Mb.mono Mh)) hb2.size (JM (cs := [.int .i64 (lo + (k : Int))]) Mr) (m := 1) (cap := 1) rfl (Jo [lo + (k : Int)]) (by simp) (by have := Hkl.out; omega)
      have hb3 := Qm hb2 (Qs hown (Mb.mono Mh)) hgr hb2.size (Nat.le_refl _)
      have HF : Hid (w'.ownsRow w.heap.size 3 1 v' (YU lo but (k + 1)).length (Qi (YU lo but (k + 1))) ∧ Below w.heap.size w w') := ⟨by rw [Hs.out, List.length_append, Kj]; exact hown', hb3⟩
      have Hrun := Lh hrun
      clear hrun hown' hgr hb3 hb2 hb Mr Mb Mh hown Hs Hkl
      go_wp2_with (refine Zg rfl _ (Qq rfl Hrun.out) ?_)
      go_roundw
      case rel => exact ⟨k + 1, by go_num, by omega, HF.out⟩
      case measure => simp [intOf]; omega
  · obtain rfl : k = n := by omega
    have hgt : hi < lo + (k : Int) := by omega
    have HF : Hid (Rd wr A (Qi (Jc lo hi but)) ∧ (A = none → Jc lo hi but = []) ∧ YU lo but k = Jc lo hi but ∧ IntB wr A) := by
     have e : YU lo but k = Jc lo hi but := by unfold Jc; rw [Hn.out]
     rw [← e]
     exact ⟨hrd, fun e => by have := hcz e; have : (YU lo but k).length = 0 := by omega
                             exact List.eq_nil_of_length_eq_zero this, rfl, hib⟩
    clear hrd hcz hown hbl hib
    go_wp2_with fail
    go_ret
    exact ⟨A, c, by rw [← HF.out.2.2.1]; rfl, HF.out.1, HF.out.2.1, hb, HF.out.2.2.2⟩
attribute [local go_sem] Oper.semAt_some
structure KpG (Z : Nat → Obj → Prop) (A B : World) : Prop where
 block : ∀ k o, ¬ Z k o → A.heap[k]? = some o → B.heap[k]? = some o
 size : A.heap.size ≤ B.heap.size
theorem KpG.trans {Z : Nat → Obj → Prop} {A B C : World} (h : KpG Z A B) (k : KpG Z B C) : KpG Z A C := ⟨fun i o hx ho => k.block i o hx (h.block i o hx ho), Nat.le_trans h.size k.size⟩
theorem KpG.refl (Z : Nat → Obj → Prop) (A : World) : KpG Z A A := ⟨fun _ _ _ h => h, Nat.le_refl _⟩
theorem KpG.of_below {Z : Nat → Obj → Prop} {A B : World} (h : Below A.heap.size A B) : KpG Z A B := ⟨fun k o _ ho => by rw [h.block k (Array.getElem?_eq_some_iff.1 ho).1]; exact ho, h.size⟩
theorem KpG.row {Z : Nat → Obj → Prop} {A B : World} (h : KpG Z A B) {g : Nat} {t : TypeId} {cs : Array Value} (hr : Row A g t cs) (hx : ¬ Z g (.cells cs t (0, 0))) : Row B g t cs := h.block g _ hx hr
theorem KpG.rd {Z : Nat → Obj → Prop} {A B : World} (h : KpG Z A B) {ad : Option Addr} {xs : List Value} (hr : Rd A ad xs) (hx : xs ≠ [] → ∀ a, ad = some a → ∀ o, ¬ Z a.block o) : Rd B ad xs := fun j u hj => by
 obtain ⟨a, e, hc⟩ := hr j u hj
 have hne : xs ≠ [] := fun e => by rw [e] at hj; simp at hj
 have hlt := World.block_lt_of_cell? _ _ hc
 have hbl : (a.add j).block = a.block := JV a j
 rw [hbl] at hlt
 have h1 : A.heap[a.block]? = some A.heap[a.block] := Array.getElem?_eq_getElem hlt
 have h2 := h.block _ _ (hx hne a e _) h1
 exact ⟨a, e, (World.cell?_of_block (by rw [hbl]; exact h2.trans h1.symm)).trans hc⟩
theorem Aa8 {W : World} {g : Nat} {t : TypeId} {v : Value} (h : Row W g t #[v]) : W.setCell ⟨g, 0, none⟩ v = W := by
 have h1 := h.set 0 v
 have o1 := Zc W g 0 v
 rw [show (#[v] : Array Value).setIfInBounds 0 v = #[v] by simp] at h1
 have hh : (W.setCell ⟨g, 0, none⟩ v).heap = W.heap := by
  apply Array.ext_getElem?
  intro k
  by_cases hk : k = g
  · subst hk; rw [show (W.setCell ⟨k, 0, none⟩ v).heap[k]? = _ from h1, show W.heap[k]? = _ from h]
  · exact o1.block k hk
 have he : W.setCell ⟨g, 0, none⟩ v = { W with heap := (W.setCell ⟨g, 0, none⟩ v).heap } := rfl
 rw [he, hh]
structure LsX where
 op : Int
 A : Option Addr
 cap : Nat
 l : List Int
def LsX.f (x : LsX) : Int × List Int := (x.op, x.l)
def LsX.enc (x : LsX) : Array Value := #[.int .i64 x.op, .slice x.A x.l.length x.cap]
structure LsX.ok (x : LsX) (W : World) : Prop where
 rd : Rd W x.A (Qi x.l)
 nil : x.A = none → x.l = []
 ty : IntB W x.A
def LsP (full : List (Int × List Int)) (pre : List LsX) (x : LsX) (W : World) : Prop := x.ok W ∧ ∃ rest, pre.map LsX.f ++ x.f :: rest = full
def JY (x y : Nd) : List (Int × List Int) :=
 (if 7 ≤ x.tag ∧ x.tag ≤ 11 then [(1, Jc 7 11 x.tag)] else if 12 ≤ x.tag ∧ x.tag ≤ 17 then [(2, Jc 12 17 x.tag)] else if x.tag = 18 ∨ x.tag = 19 then [(3, Jc 18 19 x.tag)]
  else if x.tag = 1 then [(4, JI x.n [0, 1, -1, wrap64 (x.n + 1), wrap64 (x.n - 1)])] else if x.tag = 2 then [(4, [wrap64 (1 - x.n)])] else [])
 ++ (if x.tag = 21 ∨ x.tag = 22 ∨ x.tag = 23 ∨ x.tag = 24 ∨ x.tag = 25 then [(5, [0])] else [])
 ++ (if x.tag = 23 ∨ x.tag = 24 then [(6, [0])] else if x.tag = 25 then [(7, Zv y)] else [])
structure TellC (lb mo yb : Nat) (Z : Nat → Obj → Prop) (W : World) : Prop where
 rm : Row W mo 4 #[.bool true]
 ry : Row W yb 329 #[.func (.yield lb) #[] #[]]
 zm : ∀ cs fr, ¬ Z mo (.cells cs 4 fr)
 zy : ∀ cs fr, ¬ Z yb (.cells cs 329 fr)
theorem TellC.kg {lb mo yb : Nat} {Z : Nat → Obj → Prop} {W W' : World} (h : TellC lb mo yb Z W) (k : KpG Z W W') : TellC lb mo yb Z W' := ⟨k.row h.rm (h.zm _ _), k.row h.ry (h.zy _ _), h.zm, h.zy⟩
theorem Z4 (lb mo yb : Nat) (Z : Nat → Obj → Prop) (W : World) (x : LsX) (R : World → Prop) (hC : TellC lb mo yb Z W)
 (hY : YieldAt Fence.wide 0 Tryz.prog lb x.enc W fun e W' => e = .returned (.bool true) ∧ R W' ∧ KpG Z W W') :
 CallsIn Fence.wide 0 Tryz.prog 286 #[.int .i64 x.op, .slice x.A x.l.length x.cap, .pointer (some ⟨mo, 0, none⟩), .pointer (some ⟨yb, 0, none⟩)] W fun e W' => (∃ v, e = .returned v) ∧ R W' ∧ KpG Z W W' := by
 have HC := Lh hC
 obtain ⟨fn, tmps, assign, body, hy, hR⟩ := hY
 have hy' : (Instr.yield lb #[.int .i64 x.op, .slice x.A x.l.length x.cap]).run Tryz.prog W = .ok (.round lb fn tmps assign body) W := hy
 have HR := Lh hR
 clear hy hR hC
 have cm := HC.out.rm.cellv (i := 0) (v := .bool true) rfl
 have cy := HC.out.ry.cellv (i := 0) (v := .func (.yield lb) #[] #[]) rfl
 refine callsIn_of_wp Tryz.func286 rfl trivial ?_ rfl
 simp only [Tryz.ntmps286, List.size_toArray, List.length_cons, List.length_nil, Nat.reduceAdd, Nat.reduceSub, Array.replicate_succ, Array.replicate_zero, List.push_toArray, List.append_toArray, List.nil_append, List.cons_append]
 gi_wp2_with fail
 refine ⟨rfl, HR.out.mono ?_⟩
 clear hy' HR cm cy
 rintro e W2 ⟨rfl, hr, hk⟩
 have hC2 := HC.out.kg hk
 have cm2 := hC2.rm.cellv (i := 0) (v := .bool true) rfl
 have fm2 := hC2.rm.free 0
 have Hs := Lh (Aa8 hC2.rm)
 have HF : Hid (R W2 ∧ KpG Z W W2) := ⟨hr, hk⟩
 clear hr hk hC2
 gi_wp2_with fail
 rw [Hs.out]
 go_end0
 exact ⟨⟨_, rfl⟩, HF.out⟩
structure ListsC (A : Option Addr) (cap n bl Rb : Nat) (x : Nd) (ys : List Nd) (Z : Nat → Obj → Prop) (w : World) : Prop where
 rl : Row w bl 23 #[.slice A n cap]
 hr : Rd w A ((x :: ys).flatMap Nd.cells)
 hn : n = (x :: ys).length
 z1 : ∀ k o, k < w.heap.size → k ≠ Rb → ¬ Z k o
 bn : bl ≠ Rb
 an : ∀ ad, A = some ad → ad.block ≠ Rb
 z2 : ∀ k cs t fr, w.heap.size ≤ k → (t = 329 ∨ t = 85 ∨ t = 4 ∨ t = 3) → ¬ Z k (.cells cs t fr)
 h25 : x.tag = 25 → ys ≠ []
end Go.Proofs.YtdcmppdhdcjpfaaGreat
