/- Lemmas for DirectMutantsP. -/
import Derived.Test.YtdcmppdhdcjpfaaGreatZp1
import Derived.Test.YtdcmppdhdcjpfaaGreatZp27
import Derived.Test.YtdcmppdhdcjpfaaGreatZp29
import Derived.Test.YtdcmppdhdcjpfaaGreatZp20
import Derived.Test.YtdcmppdhdcjpfaaGreatZp13
import Derived.Test.YtdcmppdhdcjpfaaGreatZp7
set_option linter.unusedVariables false
set_option linter.unusedSimpArgs false
set_option maxRecDepth 100000
set_option maxHeartbeats 16000000
namespace Go.Proofs.YtdcmppdhdcjpfaaGreat
open Go.RowKit Go.Deep
attribute [local go_sem] Oper.semAt_some
structure KidsC (A : Option Addr) (cap : Nat) (l : List Nd) (X : Nat → Prop) (ba bl : Nat) (q : Nat) (w : World) : Prop where
 hr : Rd w A (l.flatMap Nd.cells)
 hA : l.flatMap Nd.cells ≠ [] → ∀ ad, A = some ad → ¬ X ad.block
 rl : Row w bl 23 #[.slice A l.length cap]
 ra : Row w ba 3 #[.int .i64 (q : Int)]
 xl : ¬ X bl
 xa : ¬ X ba
 hX : ∀ k, X k → k < w.heap.size
theorem KidsC.kx {A : Option Addr} {cap : Nat} {l : List Nd} {X : Nat → Prop} {ba bl : Nat} {q : Nat} {w w' : World} (h : KidsC A cap l X ba bl q w) (k : KpX X w w') : KidsC A cap l X ba bl q w' :=
 ⟨k.rd h.hr h.hA, h.hA, k.row h.rl h.xl, k.row h.ra h.xa, h.xl, h.xa, fun i hi => Nat.lt_of_lt_of_le (h.hX i hi) k.size⟩
theorem KidsC.add {A : Option Addr} {cap : Nat} {l : List Nd} {X : Nat → Prop} {ba bl : Nat} {q : Nat} {w W : World} {lb : Nat} (h : KidsC A cap l X ba bl q w) (b : Below w.heap.size w W) (h1 : w.heap.size ≤ lb) (h2 : lb < W.heap.size) : KidsC A cap l (fun i => X i ∨ i = lb) ba bl q W := by
 have no : ∀ k, k < w.heap.size → ¬ X k → ¬ (X k ∨ k = lb) := fun k hk hx h => by
  rcases h with h | h
  · exact hx h
  · omega
 exact ⟨h.hr.go b, fun hne ad e => no _ (Xf h.hr hne e) (h.hA hne ad e), h.rl.below b h.rl.lt, h.ra.below b h.ra.lt, no _ h.rl.lt h.xl, no _ h.ra.lt h.xa, fun k hk => by
  rcases hk with hk | hk
  · exact Nat.lt_of_lt_of_le (h.hX k hk) b.size
  · omega⟩
def AeU (full : List Int) (pre : List Int) (x : Int) (_ : World) : Prop := ∃ rest, pre ++ x :: rest = full
theorem YX {l : List Nd} {n j : Nat} {k : Int} (h : j < n) : Zi l (n - j) k = k :: Zi l (n - (j + 1)) (endZ l k) := by
 rw [show n - j = (n - (j + 1)) + 1 by omega, Zi]
theorem AaE (A : Option Addr) (cap : Nat) (l : List Nd) (hl : l.length ≤ 1000) (q : Nat) (t : Tr) (hat : At l q t) (X : Nat → Prop) (ba bl : Nat) (w : World) (hC : KidsC A cap l X ba bl q w) :
 Jf Tryz.prog 250 #[.pointer (some ⟨ba, 0, none⟩), .pointer (some ⟨bl, 0, none⟩)] (fun k : Int => #[.int .i64 k]) (fun _ => False) (fun lb => KpX (fun i => X i ∨ i = lb)) (AeU (kidsZ l (q : Int))) (fun xs => xs = kidsZ l (q : Int)) (fun _ => True) t.kids.length True w := by
 intro lb J Jx W hlb hwW _ hJ hJx hY h0
 have hbw : Below w.heap.size w W := ⟨hwW.os, hwW.tape, hwW.output, hwW.size, fun k hk => hwW.block k hk (by simp)⟩
 have hC1 := hC.add hbw hlb.1 hlb.2
 have har := hat.fits.arity
 have hkz : kidsZ l (q : Int) = Zi l t.kids.length (q + 1) := by
  unfold kidsZ
  rw [hat.endZ, if_neg (by omega), Int.toNat_natCast, hat.root, Option.getD_some, har, Int.toNat_natCast]
 have hx := hat.root
 clear hC hlb hbw hwW w
 rw [hkz] at hY ⊢
 obtain ⟨n, hn⟩ : ∃ n, n = t.kids.length := ⟨_, rfl⟩
 rw [← hn] at hY har ⊢
 obtain ⟨x, hxd⟩ : ∃ x, x = t.root := ⟨_, rfl⟩
 rw [← hxd] at har hx
 clear hkz hn hxd hat t
 have hY' : ∀ pre k W1, J pre W1 → AeU (Zi l n (q + 1)) pre k W1 → pre.length < n → YieldAt Fence.wide 0 Tryz.prog lb #[.int .i64 k] W1 fun e W' => (e = .returned (.bool true) ∧ J (pre ++ [k]) W' ∧ KpX (fun i => X i ∨ i = lb) W1 W') ∨ (e = .returned (.bool false) ∧ Jx (pre ++ [k]) W' ∧ KpX (fun i => X i ∨ i = lb) W1 W') := hY
 clear hY
 generalize (fun i => X i ∨ i = lb) = X1 at hC1 hY'
 clear X
 obtain ⟨X, rfl⟩ : ∃ X, X = X1 := ⟨_, rfl⟩
 obtain ⟨ad, had, hc⟩ := QS hC1.hr hx
 have Hc := Lh hc
 have Hl := Lh hl
 have HC := Lh hC1
 have HJ := Lh hJ
 have HY := Lh hY'
 have hqI : (q : Int) < (l.length : Int) := by have := (List.getElem?_eq_some_iff.1 hx).1; omega
 have hb := JD x
 rw [har] at hb
 clear hc hx hJ hJx hY' hC1 hl
 subst had
 refine callsIn_of_wp Tryz.func250 rfl trivial ?_ rfl
 simp only [Tryz.ntmps250, List.size_toArray, List.length_cons, List.length_nil, Nat.reduceAdd, Nat.reduceSub, Array.replicate_succ, Array.replicate_zero, List.push_toArray, List.append_toArray, List.nil_append, List.cons_append]
 have c1 := HC.out.rl.cellv (i := 0) (v := .slice (some ad) l.length cap) rfl
 have c2 := HC.out.ra.cellv (i := 0) (v := .int .i64 (q : Int)) rfl
 gi_wp2_with (refine JR rfl 85 _ rfl (ad.add (q * 2)) rfl x.cells _ Hc.out Tryz.underlying85 rfl (by kernel_rfl) ?_)
 refine ⟨trivial, rfl, (callsIn_wide.2 (KP x W)).mono ?_⟩
 rintro e w2 ⟨rfl, b2⟩
 have HC2 := Lh (HC.out.kx (KpX.of_below b2))
 have h0 := Qr HJ.out h0 b2
 clear b2 c1 c2 Hc HC
 rw [har]
 clear har
 gi_wp2
 gi_loopw [4, 12] (fun kk i wr => ∃ (j : Nat) (k : Int) (pre : List Int), i = .int .i64 (j : Int) ∧ kk = .int .i64 k ∧ j ≤ n ∧ Hid (pre ++ Zi l (n - j) k = Zi l n (q + 1)) ∧ Hid (pre.length = j) ∧ Hid (KpX X w2 wr) ∧ J pre wr) (fun _ i _ => n - (intOf i).toNat)
 case atStart => exact ⟨0, _, [], by simp, rfl, Nat.zero_le _, Lh (by
  have hw : wrap64 ((q : Int) + 1) = (q : Int) + 1 := by have := Hl.out; unfold wrap64; omega
  simp [hw]), Lh rfl, Lh (KpX.refl _ _), h0⟩
 case round =>
  obtain ⟨j, k, pre, rfl, rfl, hjn, Hpre, Hlen, Hkp, hj⟩ := hrel
  clear h0
  by_cases hjlt : j < n
  · have hpx : AeU (Zi l n (q + 1)) pre k wr := ⟨_, by rw [← Hpre.out, YX hjlt]⟩
    obtain ⟨fn, tmps, assign, body, hy, hR⟩ := HY.out _ k _ hj hpx (by have := Hlen.out; omega)
    have HR := Lh hR
    clear hR hj hpx
    gi_wp2
    refine ⟨rfl, HR.out.mono ?_⟩
    rintro e W' (⟨rfl, hj, hk⟩ | ⟨rfl, hjx, hk⟩)
    rotate_left
    · clear hy HR
      gi_wp2
      refine bodyPost_ret (results_none rfl _ _ _) rfl ?_
      exact ⟨⟨_, rfl⟩, .inr ⟨_, trivial, hjx⟩⟩
    have Hkp2 := Lh (Hkp.out.trans hk)
    have HC3 := Lh (HC2.out.kx Hkp2.out)
    have c1 := HC3.out.rl.cellv (i := 0) (v := .slice (some ad) l.length cap) rfl
    clear hy HR hk
    gi_wp2
    refine ⟨trivial, rfl, (callsIn_wide.2 (Jc (some ad) cap l k W' HC3.out.hr Hl.out)).mono ?_⟩
    rintro e w3 ⟨rfl, b3⟩
    have hj := Qr HJ.out hj b3
    have Hkp3 := Lh (Hkp2.out.trans (KpX.of_below b3))
    have Hp2 : Hid ((pre ++ [k]) ++ Zi l (n - (j + 1)) (endZ l k) = Zi l n (q + 1)) := by show _ = _; rw [← Hpre.out, YX hjlt]; simp
    have Hl2 : Hid ((pre ++ [k]).length = j + 1) := by show _ = _; rw [List.length_append, Hlen.out]; rfl
    clear b3 c1 Hkp Hkp2 Hpre Hlen HC3
    gi_wp2
    go_roundw
    case rel => exact ⟨j + 1, _, _, by go_num, rfl, by omega, Hp2, Hl2, Hkp3, hj⟩
    case measure => simp [intOf]; omega
  · obtain rfl : j = n := by omega
    gi_wp2
    go_end0
    refine ⟨⟨_, rfl⟩, .inl ⟨_, ?_, hj⟩⟩
    have := Hpre.out
    rw [Nat.sub_self] at this
    rw [← this]; simp [Zi]
theorem AcC (A : Option Addr) (cap : Nat) (l : List Nd) (hl : l.length ≤ 1000) : ∀ (n : Nat) (t : Tr) (q : Nat), t.size ≤ n → At l q t → ∀ w, Rd w A (l.flatMap Nd.cells) →
 Calls Tryz.prog 177 #[.slice A l.length cap, .int .i64 (q : Int)] w fun e w' => e = .returned (.int .i64 (Xi t)) ∧ Below w.heap.size w w' := by
 intro n
 induction n with
 | zero => intro t q hn; have := t.size_eq; omega
 | succ n ih =>
 intro t q hn hat w hr
 have Hih := Lh ih
 have He := Lh (fun W h => Jc A cap l (q : Int) W h hl)
 rw [hat.endZ] at He
 have Hr := Lh hr
 have Hl := Lh hl
 have Hat := Lh hat
 have Hn := Lh hn
 have hqt : q + t.size ≤ l.length := hat.le
 have hdt := AbX t
 have hqI : ((q + t.size : Nat) : Int) ≤ 1000 := by omega
 obtain ⟨Q, hQ⟩ : ∃ Q, Q = q + t.size := ⟨_, rfl⟩
 rw [← hQ] at He hqI
 have hQ0 : ¬ ((Q : Int) < 0) := by omega
 clear ih hl hr hat hn hQ hqt
 refine (callsIn_wide (n := 0)).1 ?_
 refine callsIn_of_wp_marks Tryz.func177 rfl trivial ?_
 simp only [Tryz.ntmps177, List.size_toArray, List.length_cons, List.length_nil, Nat.reduceAdd, Nat.reduceSub, Array.replicate_succ, Array.replicate_zero, List.push_toArray, List.append_toArray, List.nil_append, List.cons_append]
 gi_wp2_with fail
 obtain ⟨LB, hLB⟩ : ∃ B, B = w.heap.size := ⟨_, rfl⟩
 obtain ⟨w1, hw1⟩ : ∃ w1, w1 = w.alloc (.cells #[.slice A l.length cap] 23) := ⟨_, rfl⟩
 have rL : Row w1 LB 23 #[.slice A l.length cap] := by rw [hw1, hLB]; exact Row.new _ _ _
 have b1 : Below w.heap.size w w1 := by rw [hw1]; exact (Below.refl _ _).alloc (Nat.le_refl _) _
 rw [← hw1, ← hLB]
 have gL : w.heap.size ≤ LB := by omega
 clear hw1 hLB
 refine ⟨trivial, rfl, (callsIn_wide.2 (He.out w1 (Hr.out.go b1))).mono ?_⟩
 rintro e w2 ⟨rfl, b2⟩
 replace rL := rL.below b2 rL.lt
 replace b1 := b1.trans (b2.mono b1.size)
 clear b2 He
 have cL : (w2.alloc (.cells #[.int .i64 0] 3)).cell? ⟨LB, 0, none⟩ = some (.slice A l.length cap) := (rL.alloc _).cellv (i := 0) rfl
 gi_wp2_with fail
 obtain ⟨G, hG⟩ : ∃ B, B = w2.heap.size := ⟨_, rfl⟩
 obtain ⟨w3, hw3⟩ : ∃ w3, w3 = w2.alloc (.cells #[.int .i64 0] 3) := ⟨_, rfl⟩
 have rG : Row w3 G 3 #[.int .i64 0] := by rw [hw3, hG]; exact Row.new _ _ _
 have b3 : Below w2.heap.size w2 w3 := by rw [hw3]; exact (Below.refl _ _).alloc (Nat.le_refl _) _
 rw [← hw3, ← hG]
 have gLG : LB < G := by have := rL.lt; omega
 clear cL
 replace rL := rL.below b3 rL.lt
 replace b1 := b1.trans (b3.mono b1.size)
 clear hw3 hG b3
 refine ⟨trivial, rfl, (callsIn_wide.2 (Us A cap l (q : Int) w3)).mono ?_⟩
 rintro e w4 ⟨bl, ba, rfl, rl, ra, gl, ga, b4⟩
 have lG := rG.lt
 replace rL := rL.below b4 rL.lt
 replace rG := rG.below b4 rG.lt
 replace b1 := b1.trans (b4.mono b1.size)
 have hC : KidsC A cap l (fun k => k = G) ba bl q w4 := ⟨Hr.out.go b1, fun hne ad e h => by have := Xf Hr.out hne e; omega, rl, ra, by omega, by omega, fun k hk => by have := rG.lt; omega⟩
 have Hit := Lh (AaE A cap l Hl.out q t Hat.out (fun k => k = G) ba bl w4 hC)
 have Hb := Lh b1
 have hw4 := b1.size
 have sG := rG.lt
 clear hC rl ra b4 b1 gl ga lG
 gi_wp2_with fail
 have HI0 : Hid (Row w4 G 3 #[.int .i64 (depK (t.kids.take ([] : List Int).length))] ∧ Row w4 LB 23 #[.slice A l.length cap] ∧ Below w.heap.size w w4) := ⟨by simpa [depK] using rG, rL, Hb.out⟩
 clear rL rG Hb
 refine YG (gf := 250) (lb := #[.pointer (some ⟨ba, 0, none⟩), .pointer (some ⟨bl, 0, none⟩)]) rfl (enters_of Tryz.func250 (by kernel_rfl) rfl) Hit.out (fun r h => h.elim)
  (fun h k => h.trans k) (fun V o o' ho hc => ⟨fun i p hx hp => by rw [World.putObj_heap_other (fun e => hx (.inr e))]; exact hp, by simp⟩) (World.grownBy.refl _ _) (fun _ => rfl)
  (fun pre V => Row V G 3 #[.int .i64 (depK (t.kids.take pre.length))] ∧ Row V LB 23 #[.slice A l.length cap] ∧ Below w.heap.size w V)
  (fun _ _ _ => False) (.inl trivial) ?hI ?hIx HI0.out
  (fun pre x a' V => a' = { tmps := #[.slice A l.length cap, .int .i64 (q : Int), .pointer (some ⟨LB, 0, none⟩), undef, .int .i64 0, .pointer (some ⟨G, 0, none⟩), .int .i64 x, .slice A l.length cap, .int .i64 (q : Int), .int .i64 (Q : Int), .bool (decide ((Q : Int) < 0)), .slice A l.length cap, .int .i64 (q : Int), .func (.func 250) #[] #[.pointer (some ⟨ba, 0, none⟩), .pointer (some ⟨bl, 0, none⟩)], .int .i64 x, undef, undef, undef, undef, undef, undef, undef], defers := [] } ∧ AeU (kidsZ l (q : Int)) pre x V) ?hAx ?assign ?body ?done ?stop
 case hI =>
  rintro pre V V' row ⟨h1, h2, h3⟩ hg hr
  refine ⟨h1.abide hg hr, h2.abide hg hr, h3.grown hg h3.size (fun k e => ?_)⟩
  rcases hr k e with h | ⟨h, _⟩
  · exact h.elim
  · omega
 case hIx => exact fun _ _ _ _ _ h _ _ => h
 case hAx => exact fun pre x a' _ _ _ _ h _ _ => h
 case stop => exact fun D c pre W _ _ h _ => h.elim
 case assign =>
  rintro l3 pre x V K hI hP hK
  have HK := Lh hK
  have HI := Lh hI
  have HP := Lh hP
  clear hK hI hP
  gi_wp2_with fail
  exact HK.out _ _ (KeepsFrom.refl _ _) (KpX.refl _ _) HI.out ⟨rfl, HP.out⟩
 case body =>
  rintro l3 pre x a' V hl3 _ ⟨h1, h2, h3⟩ ⟨rfl, rest, hrest⟩ hlen
  obtain ⟨k, hk⟩ : ∃ k, t.kids[pre.length]? = some k := ⟨_, List.getElem?_eq_getElem hlen⟩
  obtain ⟨r, hr⟩ : ∃ r, (QP (q + 1) t.kids)[pre.length]? = some r := EB hk
  have hx : x = (r : Int) := by
   have e := Hat.out.kidsZ
   rw [← hrest] at e
   have e2 := congrArg (fun z => z[pre.length]?) e
   simp [hr] at e2
   exact e2
  have hak := (Hat.out.kids.spot _ _ _ hr hk).1
  have hks : k.size ≤ n := by
   have h4 := X3 (List.mem_of_getElem? hk)
   have h5 := t.size_eq
   have := Hn.out
   omega
  have hdk : depK (t.kids.take (pre.length + 1)) = max (depK (t.kids.take pre.length)) (Xi k) := by
   rw [List.take_add_one, hk]; exact VS k _
  have Hcall := Lh (fun W h => Hih.out k r hks hak W h)
  have Hdk := Lh hdk
  subst hx
  obtain ⟨m, hm⟩ : ∃ m, m = depK (t.kids.take pre.length) := ⟨_, rfl⟩
  obtain ⟨d, hd⟩ : ∃ d, d = Xi k := ⟨_, rfl⟩
  rw [← hm] at h1 Hdk
  rw [← hd] at Hcall Hdk
  have hVG := h1.lt
  obtain ⟨S, hSd⟩ : ∃ S, S = (fun W => Row W G 3 #[.int .i64 m] ∧ Row W LB 23 #[.slice A l.length cap] ∧ Rd W A (l.flatMap Nd.cells) ∧ Below V.heap.size V W) := ⟨_, rfl⟩
  have stS : St S := by rw [hSd]; infer_instance
  have T0 : Hid (∀ W, S W → Row W G 3 #[.int .i64 m]) := by show ∀ W, _; rw [hSd]; exact fun W h => h.1
  have T1 : Hid (∀ W, S W → Row W LB 23 #[.slice A l.length cap]) := by show ∀ W, _; rw [hSd]; exact fun W h => h.2.1
  have T2 : Hid (∀ W, S W → Rd W A (l.flatMap Nd.cells)) := by show ∀ W, _; rw [hSd]; exact fun W h => h.2.2.1
  have T3 : Hid (∀ W, S W → Below V.heap.size V W) := by show ∀ W, _; rw [hSd]; exact fun W h => h.2.2.2
  have hS : S V := by rw [hSd]; exact ⟨h1, h2, Hr.out.go h3, Below.refl _ _⟩
  have H3 := Lh h3
  have s3 := h3.size
  clear hSd h1 h2 h3 hrest hk hr hak hks hdk hm hd hlen hl3 Hih Hr
  gi_wp2_with fail
  refine Ye S 5 (by kernel_rfl) (by kernel_rfl) (by kernel_rfl) (St.drew hS) ?_
  clear hS
  simp only [List.take_succ_cons, List.take_zero, List.drop_succ_cons, List.drop_zero]
  (refine Qh rfl ?_ (fun W hW => ?_) ?_; rotate_left; (focus (have c := (T0.out W hW).cellv (i := 0) rfl; go_simp; exact rfl)); simp only [Act.put, Qa, Qb, Qc])
  (refine Qh rfl ?_ (fun W hW => ?_) ?_; rotate_left; (focus (have c := (T1.out W hW).cellv (i := 0) rfl; go_simp; exact rfl)); simp only [Act.put, Qa, Qb, Qc])
  (refine Qh rfl ?_ (fun W hW => ?_) ?_; rotate_left; (focus (go_simp; exact rfl)); simp only [Act.put, Qa, Qb, Qc])
  (refine Q0 rfl 177 _ (fun W => by (go_simp; try rfl)) (.int .i64 d) (fun W hW => Hcall.out W (T2.out W hW)) ?_; simp only [Act.put, Qa, Qb, Qc])
  (refine Qh rfl ?_ (fun W hW => ?_) ?_; rotate_left; (focus (go_simp; exact rfl)); simp only [Act.put, Qa, Qb, Qc])
  refine QJ fun W hS => ?_
  have h1 := T0.out W hS
  have b4 := T3.out W hS
  have o4 := ZD W G 0 (.int .i64 (max m d))
  have HF : Hid (KeepsFrom w4.heap.size V (W.setCell ⟨G, 0, none⟩ (.int .i64 (max m d))) ∧ KpX (fun i => i = G ∨ i = w4.heap.size + 1) V (W.setCell ⟨G, 0, none⟩ (.int .i64 (max m d))) ∧ Row (W.setCell ⟨G, 0, none⟩ (.int .i64 (max m d))) G 3 #[.int .i64 (depK (t.kids.take (pre ++ [(r : Int)]).length))] ∧ Row (W.setCell ⟨G, 0, none⟩ (.int .i64 (max m d))) LB 23 #[.slice A l.length cap] ∧ Below w.heap.size w (W.setCell ⟨G, 0, none⟩ (.int .i64 (max m d)))) :=
   ⟨(KpX.of_below b4).keeps (X := fun _ => False) (fun _ h => h.elim) |>.trans (KeepsFrom.of_only h1 o4), ((KpX.of_below b4).more (fun _ h => (h : False).elim)).trans (KpX.only o4 (.inl rfl)), by rw [List.length_append]; simp only [List.length_cons, List.length_nil, Nat.zero_add]; rw [Hdk.out]; exact h1.set 0 _, (T1.out W hS).only o4 (by omega), Qv (H3.out.trans (b4.mono s3)) o4 (by omega)⟩
  have c := h1.cellv (i := 0) (v := .int .i64 m) rfl
  have f := h1.free 0
  clear h1 b4 o4 T0 T1 T2 T3 Hcall Hdk hS
  go_wp2_with fail
  all_goals
   refine Xn ?_
   first | rw [show max m d = d by omega] at HF | rw [show max m d = m by omega] at HF | skip
   gi_wp2_with fail
   exact HF.out
 case done =>
  rintro D ys V hD hys ⟨h1, h2, h3⟩ hK
  have hl4 : ys.length = t.kids.length := by rw [hys, Hat.out.kidsZ, List.length_map, ZY]
  rw [hl4, List.take_length] at h1
  have hdd : Xi t = depK t.kids + 1 := by cases t; rfl
  have hc := h1.cellv (i := 0) (v := .int .i64 (depK t.kids)) rfl
  have HK := Lh hK
  have H3 := Lh h3
  have Hdd := Lh hdd
  have hdI : depK t.kids ≤ 1000 := by have := Hat.out.le; have := Hl.out; omega
  have hd0 := Ez t.kids
  clear hK h1 h2 h3 hys hl4 hdd
  gi_wp2
  refine ⟨by simp, .inl ⟨_, _, rfl, run_takeDeferred HK.out, ?_⟩⟩
  refine ⟨_, results_tmp rfl _ _ _, ?_, H3.out.grown (grownBy_putObj' _ _ _) H3.out.size (fun k e => by cases e; omega)⟩
  rw [Hdd.out]
  rfl
end Go.Proofs.YtdcmppdhdcjpfaaGreat
namespace Go.Proofs.YtdcmppdhdcjpfaaGreat
open Go.RowKit Go.Deep
def orL : List Int → Int
 | [] => 0
 | x :: l => if x = 0 then orL l else x
theorem AdZ {a : List Int} {k : Nat} {e : Int} (h : a[k]? = some e) : orL (a.drop k) = if e = 0 then orL (a.drop (k + 1)) else e := by
 obtain ⟨hl, rfl⟩ := List.getElem?_eq_some_iff.1 h
 rw [List.drop_eq_getElem_cons hl, orL]
theorem Adc (A : Option Addr) (c : Nat) (a : List Int) (w : World) (ha : Rd w A (Qg a)) (hla : a.length ≤ 1000000) :
 Calls Tryz.prog 160 #[.slice A a.length c] w fun e w' => e = .returned (.int .i64 (orL a)) ∧ Below w.heap.size w w' := by
 obtain ⟨S, hSd⟩ : ∃ S, S = (fun W => Rd W A (Qg a) ∧ Below w.heap.size w W) := ⟨_, rfl⟩
 have stS : St S := by rw [hSd]; infer_instance
 have S0' : Hid (∀ W, S W → Rd W A (Qg a)) := by show ∀ W, _; rw [hSd]; exact fun W h => h.1
 have S2' : Hid (∀ W, S W → Below w.heap.size w W) := by show ∀ W, _; rw [hSd]; exact fun W h => h.2
 have hS : S w := by rw [hSd]; exact ⟨ha, Below.refl _ _⟩
 clear hSd ha
 go_enter Tryz.func160, Tryz.ntmps160
 go_wp2_with fail
 go_loopw [8] (fun i wr => ∃ k : Nat, i = .int .i64 (k : Int) ∧ k ≤ a.length ∧ Hid (orL a = orL (a.drop k)) ∧ S wr) (fun i _ => a.length - (intOf i).toNat)
 case atStart => exact ⟨0, by simp, Nat.zero_le _, by simp [Hid], hS⟩
 case round =>
  clear hS
  obtain ⟨k, rfl, hk, Hk, hS⟩ := hrel
  by_cases hkn : k < a.length
  · obtain ⟨e, he⟩ : ∃ e, a[k]? = some e := ⟨_, List.getElem?_eq_getElem (by omega)⟩
    obtain ⟨ad, had, _⟩ := QR (S0'.out _ hS) he
    subst had
    have Hca : Hid (∀ W, S W → W.cell? (ad.add k) = some (.int .i64 e)) := fun W h => by
     obtain ⟨ad', h1, h2⟩ := QR (S0'.out _ h) he
     injection h1 with h1; subst h1; exact h2
    have Hs := Lh (AdZ he)
    have hka : (k : Int) < (a.length : Int) := by omega
    have ewk : IntKind.i64.wrap ((k : Int) + 1) = (k : Int) + 1 := IntWalk.i64_in _ (by omega)
    clear he
    have hcl := Hca.out _ hS
    by_cases hef : e = 0
    · have hnn : (e != 0) = false := by simp [hef]
      have Hst : Hid (orL a = orL (a.drop (k + 1))) := by
       show _ = _
       rw [Hk.out, Hs.out, if_pos hef]
      clear Hca Hk Hs hef
      go_wp2_with fail
      go_roundw
      case rel => exact ⟨k + 1, by go_num, by omega, Hst, hS⟩
      case measure => simp [intOf]; omega
    · have hnn : (e != 0) = true := by simpa using hef
      have Hst : Hid (orL a = e) := by
       show _ = _
       rw [Hk.out, Hs.out, if_neg hef]
      clear Hca Hk Hs hef
      go_wp2_with fail
      go_ret
      exact ⟨ZC Hst.out.symm, S2'.out _ hS⟩
  · obtain rfl : k = a.length := by omega
    have Hc : Hid (orL a = 0) := by
     show _ = _
     rw [Hk.out, List.drop_length, orL]
    clear hkn hk Hk
    go_wp2_with fail
    go_ret
    exact ⟨ZC Hc.out.symm, S2'.out _ hS⟩
structure DlV where
 A : Option Addr
 cap : Nat
 d : Dl
def DlV.cells (x : DlV) : Array Value := #[.slice x.A x.d.path.length x.cap, .int .i64 x.d.op, .int .i64 x.d.n]
structure DlOk (W : World) (x : DlV) : Prop where
 rd : Rd W x.A (Qg x.d.path)
 len : x.d.path.length ≤ 1000000
theorem AcD (a b c : Int) : orL [a, b, c] = orI a (orI b c) := by
 unfold orL orL orL orL orI
 repeat' split
 all_goals first | rfl | omega
theorem Acm (x y : DlV) (w : World) (hx : DlOk w x) (hy : DlOk w y) :
 Calls Tryz.prog 80 #[.agg x.cells, .agg y.cells] w fun e w' => e = .returned (.int .i64 (Ka x.d y.d)) ∧ Below w.heap.size w w' := by
 obtain ⟨A, cA, ⟨a, op1, n1⟩⟩ := x
 obtain ⟨B, cB, ⟨b, op2, n2⟩⟩ := y
 obtain ⟨ha, hla⟩ := hx
 obtain ⟨hb, hlb⟩ := hy
 simp only at ha hla hb hlb
 unfold DlV.cells
 show Calls _ _ #[.agg #[.slice A a.length cA, .int .i64 op1, .int .i64 n1], .agg #[.slice B b.length cB, .int .i64 op2, .int .i64 n2]] _ _
 have Ha := Lh ha
 have Hb := Lh hb
 clear ha hb
 go_enter Tryz.func80, Tryz.ntmps80
 go_wp2_with (refine Qq _ _ rfl ?_)
 refine Stop.to ?_
 refine Qe rfl 35 _ rfl #[.slice A a.length cA, .int .i64 op1, .int .i64 n1] rfl ?_
 intro G Gw Gh Gr Gb
 go_wp2_with (refine Qq _ _ rfl ?_)
 refine Stop.to ?_
 refine Qe rfl 35 _ rfl #[.slice B b.length cB, .int .i64 op2, .int .i64 n2] rfl ?_
 intro J Jw Jh Jr Jb
 have rG := Gr.below Jb (Nat.lt_of_lt_of_le Gr.lt Jh)
 have b1 := (Below.refl w.heap.size w).trans (Gb.mono Gh)
 have b2 := b1.trans ((Jb.mono Jh).mono b1.size)
 obtain ⟨S, hSd⟩ : ∃ S, S = (fun W => (Row W G 35 #[.slice A a.length cA, .int .i64 op1, .int .i64 n1] ∧ Row W J 35 #[.slice B b.length cB, .int .i64 op2, .int .i64 n2]) ∧ (Rd W A (Qg a) ∧ Rd W B (Qg b)) ∧ Below w.heap.size w W) := ⟨_, rfl⟩
 have stS : St S := by rw [hSd]; infer_instance
 have T0 : Hid (∀ W, S W → Row W G 35 #[.slice A a.length cA, .int .i64 op1, .int .i64 n1]) := by show ∀ W, _; rw [hSd]; exact fun W h => h.1.1
 have T1 : Hid (∀ W, S W → Row W J 35 #[.slice B b.length cB, .int .i64 op2, .int .i64 n2]) := by show ∀ W, _; rw [hSd]; exact fun W h => h.1.2
 have T2 : Hid (∀ W, S W → Rd W A (Qg a)) := by show ∀ W, _; rw [hSd]; exact fun W h => h.2.1.1
 have T3 : Hid (∀ W, S W → Rd W B (Qg b)) := by show ∀ W, _; rw [hSd]; exact fun W h => h.2.1.2
 have T4 : Hid (∀ W, S W → Below w.heap.size w W) := by show ∀ W, _; rw [hSd]; exact fun W h => h.2.2
 have hS : S Jw := by rw [hSd]; exact ⟨⟨rG, Jr⟩, ⟨Rd.go Ha.out b2, Rd.go Hb.out b2⟩, b2⟩
 clear hSd rG Gr Jr Gb Jb b1 b2 Gh Jh Ha Hb
 go_wp2_with fail
 refine Zl S 15 (by kernel_rfl) (by kernel_rfl) (St.drew hS) ?_
 clear hS
 simp only [List.take_succ_cons, List.take_zero, List.drop_succ_cons, List.drop_zero]
 (refine Qh rfl ?_ (fun W hW => ?_) ?_; rotate_left; (focus (go_simp; exact rfl)); simp only [Act.put, Qa, Qb, Qc])
 (refine Qh rfl ?_ (fun W hW => ?_) ?_; rotate_left; (focus (have c := (T0.out W hW).cellv (i := 0) (v := .slice A a.length cA) rfl; go_simp; exact rfl)); simp only [Act.put, Qa, Qb, Qc])
 (refine Qh rfl ?_ (fun W hW => ?_) ?_; rotate_left; (focus (go_simp; exact rfl)); simp only [Act.put, Qa, Qb, Qc])
 (refine Qh rfl ?_ (fun W hW => ?_) ?_; rotate_left; (focus (have c := (T1.out W hW).cellv (i := 0) (v := .slice B b.length cB) rfl; go_simp; exact rfl)); simp only [Act.put, Qa, Qb, Qc])
 (refine Q0 rfl 161 _ (fun W => by (go_simp; try rfl)) (.int .i64 (Zj a b)) (fun W hW => AaL A B cA cB a b W (T2.out W hW) (T3.out W hW) hla hlb) ?_; simp only [Act.put, Qa, Qb, Qc])
 (refine Qh rfl ?_ (fun W hW => ?_) ?_; rotate_left; (focus (go_simp; exact rfl)); simp only [Act.put, Qa, Qb, Qc])
 (refine Qh rfl ?_ (fun W hW => ?_) ?_; rotate_left; (focus (have c := (T0.out W hW).cellv (i := 1) (v := .int .i64 op1) rfl; go_simp; exact rfl)); simp only [Act.put, Qa, Qb, Qc])
 (refine Qh rfl ?_ (fun W hW => ?_) ?_; rotate_left; (focus (go_simp; exact rfl)); simp only [Act.put, Qa, Qb, Qc])
 (refine Qh rfl ?_ (fun W hW => ?_) ?_; rotate_left; (focus (have c := (T1.out W hW).cellv (i := 1) (v := .int .i64 op2) rfl; go_simp; exact rfl)); simp only [Act.put, Qa, Qb, Qc])
 (refine Q0 rfl 162 _ (fun W => by (go_simp; try rfl)) (.int .i64 (Zx op1 op2)) (fun W hW => (Yk op1 op2 W).mono fun e w' h => ⟨h.1, by rw [← h.2]; exact Below.refl _ _⟩) ?_; simp only [Act.put, Qa, Qb, Qc])
 (refine Qh rfl ?_ (fun W hW => ?_) ?_; rotate_left; (focus (go_simp; exact rfl)); simp only [Act.put, Qa, Qb, Qc])
 (refine Qh rfl ?_ (fun W hW => ?_) ?_; rotate_left; (focus (have c := (T0.out W hW).cellv (i := 2) (v := .int .i64 n1) rfl; go_simp; exact rfl)); simp only [Act.put, Qa, Qb, Qc])
 (refine Qh rfl ?_ (fun W hW => ?_) ?_; rotate_left; (focus (go_simp; exact rfl)); simp only [Act.put, Qa, Qb, Qc])
 (refine Qh rfl ?_ (fun W hW => ?_) ?_; rotate_left; (focus (have c := (T1.out W hW).cellv (i := 2) (v := .int .i64 n2) rfl; go_simp; exact rfl)); simp only [Act.put, Qa, Qb, Qc])
 (refine Q0 rfl 162 _ (fun W => by (go_simp; try rfl)) (.int .i64 (Zx n1 n2)) (fun W hW => (Yk n1 n2 W).mono fun e w' h => ⟨h.1, by rw [← h.2]; exact Below.refl _ _⟩) ?_; simp only [Act.put, Qa, Qb, Qc])
 refine QJ fun W hW => ?_
 go_wp2_with (refine ZH _ _ _ rfl ?_)
 refine Stop.to ?_
 refine QC rfl 22 3 _ rfl 3 #[.int .i64 (Zj a b), .int .i64 (Zx op1 op2), .int .i64 (Zx n1 n2)] (fun W => by kernel_rfl) ?_
 intro M Mw Mh Mr Mb
 have bM := (T4.out _ hW).trans ((Mb.mono Mh).mono (T4.out _ hW).size)
 go_wp2_with fail
 refine (Adc _ 3 [Zj a b, Zx op1 op2, Zx n1 n2] _ ?_ (by simp)).mono ?_
 · intro j u hj
   refine ⟨_, rfl, ?_⟩
   have h0 := Mr.cellv (i := 0) (v := .int .i64 (Zj a b)) rfl
   have h1 := Mr.cellv (i := 1) (v := .int .i64 (Zx op1 op2)) rfl
   have h2 := Mr.cellv (i := 2) (v := .int .i64 (Zx n1 n2)) rfl
   match j, hj with
   | 0, hj => injection hj with hj; subst hj; exact h0
   | 1, hj => injection hj with hj; subst hj; exact h1
   | 2, hj => injection hj with hj; subst hj; exact h2
   | k + 3, hj => simp [Qg] at hj
 rintro e w1 ⟨rfl, bO⟩
 go_wp2_with fail
 go_ret
 exact ⟨ZC (AcD _ _ _), bM.trans (bO.mono bM.size)⟩
theorem DlOk.go {W W' : World} {x : DlV} (h : DlOk W x) (b : Below W.heap.size W W') : DlOk W' x := ⟨Rd.go h.rd b, h.len⟩
theorem Acg {α : Type} {c : α → List Value} {sz : Nat} (hsz : ∀ x, (c x).length = sz) (h0 : 0 < sz) {W : World} {A : Option Addr} {l : List α} (hr : Rd W A (l.flatMap c)) {k : Nat} {x : α} (hx : l[k]? = some x) :
 ∃ ad, A = some ad ∧ ∀ j u, (c x)[j]? = some u → W.cell? ((ad.add (k * sz)).add j) = some u := by
 have hl : ∀ (l : List α) (k : Nat) (x : α), l[k]? = some x → ∀ j u, (c x)[j]? = some u → (l.flatMap c)[k * sz + j]? = some u := by
  intro l
  induction l with
  | nil => intro k x h; simp at h
  | cons y l ih =>
   intro k x h j u hu
   rw [List.flatMap_cons]
   match k, h with
   | 0, h =>
    simp at h; subst h
    rw [Nat.zero_mul, Nat.zero_add, List.getElem?_append_left (List.getElem?_eq_some_iff.1 hu).1]; exact hu
   | k + 1, h =>
    rw [List.getElem?_cons_succ] at h
    rw [List.getElem?_append_right (by rw [hsz, Nat.add_mul]; omega), hsz, show (k + 1) * sz + j - sz = k * sz + j by rw [Nat.add_mul]; omega]
    exact ih k x h j u hu
 exact hr.part (k * sz) (c x) (hl l k x hx) (fun e => by have := hsz x; rw [e] at this; simp at this; omega)
def Aa4 {α : Type} (p : α → Bool) (l : List α) : Int := match l.findIdx? p with | some i => (i : Int) | none => -1
theorem Aer {α : Type} {p : α → Bool} {l : List α} {k : Nat} {x : α} (h : ∀ y ∈ l.take k, p y = false) (hx : l[k]? = some x) (hp : p x = true) : Aa4 p l = (k : Int) := by
 unfold Aa4
 have hl := (List.getElem?_eq_some_iff.1 hx).1
 have : l.findIdx? p = some k := by
  rw [List.findIdx?_eq_some_iff_getElem]
  refine ⟨hl, by rw [(List.getElem?_eq_some_iff.1 hx).2]; exact hp, fun j hj => ?_⟩
  rw [h _ (List.mem_take_iff_getElem.2 ⟨j, by omega, rfl⟩)]; simp
 rw [this]
theorem Aex {α : Type} {p : α → Bool} {l : List α} (h : ∀ y ∈ l, p y = false) : Aa4 p l = -1 := by
 unfold Aa4
 have : l.findIdx? p = none := by rw [List.findIdx?_eq_none_iff]; exact h
 rw [this]
theorem Adk {α : Type} (p : α → Bool) (l : List α) : decide (0 ≤ Aa4 p l) = l.any p := by
 unfold Aa4
 cases h : l.findIdx? p with
 | none =>
  rw [List.findIdx?_eq_none_iff] at h
  simp; intro x hx; simpa using h x hx
 | some i =>
  rw [List.findIdx?_eq_some_iff_getElem] at h
  obtain ⟨hl, hp, _⟩ := h
  simp; exact ⟨l[i], List.getElem_mem hl, hp⟩
theorem UG {α : Type} {p : α → Bool} {l : List α} {k : Nat} {x : α} (h : ∀ y ∈ l.take k, p y = false) (hx : l[k]? = some x) (hp : p x = false) : ∀ y ∈ l.take (k + 1), p y = false := by
 rw [List.take_add_one, hx]
 intro y hy
 rcases List.mem_append.1 hy with hy | hy
 · exact h y hy
 · simp at hy; subst hy; exact hp
theorem Adf (A : Option Addr) (cap : Nat) (l : List Nd) (p : Nd → Bool) (w : World) (S : World → Prop) [stS : St S] (hS : S w) (hrd : ∀ W, S W → Rd W A (l.flatMap Nd.cells)) (hlo : ∀ W, S W → Below w.heap.size w W)
 (hp : ∀ x ∈ l, ∀ W, S W → Calls Tryz.prog 176 #[.agg x.cells.toArray] W fun e W' => e = .returned (.bool (p x)) ∧ Below W.heap.size W W') (hl : l.length ≤ 1000000) :
 Calls Tryz.prog 237 #[.slice A l.length cap, .func (.func 176) #[] #[]] w fun e w' => e = .returned (.int .i64 (Aa4 p l)) ∧ Below w.heap.size w w' := by
 have Hp := Lh hp
 have Hrd := Lh hrd
 have Hlo := Lh hlo
 have hl' : (l.length : Int) ≤ 1000000 := by omega
 clear hp hrd hlo hl
 go_enter Tryz.func237, Tryz.ntmps237
 go_wp2
 go_loopw [8] (fun i wr => ∃ k : Nat, i = .int .i64 (k : Int) ∧ k ≤ l.length ∧ Hid (∀ y ∈ l.take k, p y = false) ∧ S wr) (fun i _ => l.length - (intOf i).toNat)
 case atStart => exact ⟨0, rfl, Nat.zero_le _, Lh (fun x hx => by simp at hx), hS⟩
 case round =>
  clear hS
  obtain ⟨k, rfl, hk, Hall, hS⟩ := hrel
  by_cases hlt : k < l.length
  · obtain ⟨x, hx⟩ : ∃ x, l[k]? = some x := ⟨_, List.getElem?_eq_getElem hlt⟩
    obtain ⟨ad, had, hcx⟩ := QS (Hrd.out _ hS) hx
    have Hcx : Hid (∀ j u, x.cells[j]? = some u → wr.cell? ((ad.add (k * 2)).add j) = some u) := hcx
    have Hx := Lh hx
    have Hcall := Lh (Hp.out x (List.mem_of_getElem? hx) wr hS)
    have hltI : (k : Int) < (l.length : Int) := by omega
    clear hx hlt hcx
    subst had
    go_wp2_with (refine Qo rfl 85 _ rfl (ad.add (k * 2)) rfl x.cells _ Hcx.out Tryz.underlying85 rfl (by kernel_rfl) ?_)
    refine Hcall.out.mono ?_
    rintro e w' ⟨rfl, b1⟩
    replace hS := stS.go hS b1
    clear b1 Hcall Hcx
    cases hs : p x
    · have Hn := Lh (UG Hall.out Hx.out hs)
      clear hs Hx
      go_wp2_with fail
      go_roundw
      case rel => exact ⟨k + 1, by go_num, by omega, Hn, hS⟩
      case measure => simp [intOf]; omega
    · have Hn := Lh (Aer Hall.out Hx.out hs)
      clear hs Hx
      go_wp2_with fail
      go_ret
      exact ⟨by rw [Hn.out]; rfl, Hlo.out _ hS⟩
  · obtain rfl : k = l.length := by omega
    have Hn := Lh (Aex (p := p) (l := l) (by have := Hall.out; rwa [List.take_length] at this))
    clear hlt hk
    go_wp2
    go_ret
    exact ⟨by rw [Hn.out]; rfl, Hlo.out _ hS⟩
theorem AbR (A : Option Addr) (cap : Nat) (l : List Nd) (p : Nd → Bool) (w : World) (S : World → Prop) [stS : St S] (hS : S w) (hrd : ∀ W, S W → Rd W A (l.flatMap Nd.cells)) (hlo : ∀ W, S W → Below w.heap.size w W)
 (hp : ∀ x ∈ l, ∀ W, S W → Calls Tryz.prog 176 #[.agg x.cells.toArray] W fun e W' => e = .returned (.bool (p x)) ∧ Below W.heap.size W W') (hl : l.length ≤ 1000000) :
 Calls Tryz.prog 175 #[.slice A l.length cap, .func (.func 176) #[] #[]] w fun e w' => e = .returned (.bool (l.any p)) ∧ Below w.heap.size w w' := by
 have Hc := Lh (Adf A cap l p w S hS hrd hlo hp hl)
 clear hp hrd hlo hl hS
 go_enter Tryz.func175, Tryz.ntmps175
 go_wp2_with fail
 refine Hc.out.mono ?_
 rintro e w' ⟨rfl, b1⟩
 have Ha := Lh (Adk p l)
 clear Hc
 go_wp2_with fail
 go_ret
 exact ⟨KS Ha.out.symm, b1⟩
theorem Aa5 (x : Nd) (w : World) :
 Calls Tryz.prog 176 #[.agg x.cells.toArray] w fun e w' => e = .returned (.bool (decide (Qw x < 0))) ∧ Below w.heap.size w w' := by
 go_enter Tryz.func176, Tryz.ntmps176
 go_wp2_with (refine Qq _ _ rfl ?_)
 refine Stop.to ?_
 refine Qe rfl 85 _ rfl x.cells.toArray rfl ?_
 intro G Gw Gh Gr Gb
 have b1 := (Below.refl w.heap.size w).trans (Gb.mono Gh)
 have Ha := Lh (KP x Gw)
 clear Gb Gh
 go_wp2_with (refine wpList_load_row rfl 85 _ rfl G rfl 85 x.cells.toArray (0, 0) _ Gr Tryz.underlying85 rfl (by kernel_rfl) ?_)
 refine Ha.out.mono ?_
 rintro e w1 ⟨rfl, b2⟩
 have b3 := b1.trans (b2.mono b1.size)
 clear Ha Gr b1 b2
 go_wp2_with fail
 go_ret
 exact ⟨rfl, b3⟩
theorem AbC (A : Option Addr) (cap : Nat) (l : List Nd) (w : World) (hr : Rd w A (l.flatMap Nd.cells)) (hl : l.length ≤ 1000) :
 Calls Tryz.prog 106 #[.slice A l.length cap] w fun e w' => e = .returned (.int .i64 (Zy l)) ∧ Below w.heap.size w w' := by
 by_cases h0 : l.length = 0
 · have Hz := Lh (ER h0)
   rw [h0]
   clear hr hl h0
   go_enter Tryz.func106, Tryz.ntmps106
   go_wp2_with fail
   go_ret
   exact ⟨ZC Hz.out.symm, Below.refl _ _⟩
 have e0 : ((l.length : Int) == 0) = false := by rw [beq_eq_false_iff_ne]; omega
 by_cases h1 : 200 < l.length
 · have Hz := Lh (ES h1)
   have e1 : 200 < (l.length : Int) := by omega
   clear hr hl h0 h1
   go_enter Tryz.func106, Tryz.ntmps106
   go_wp2_with fail
   go_ret
   exact ⟨ZC Hz.out.symm, Below.refl _ _⟩
 have e1 : ¬ (200 < (l.length : Int)) := by omega
 have Hc := Lh (AbR A cap l (fun x => decide (Qw x < 0)) w (fun W => Rd W A (l.flatMap Nd.cells) ∧ Below w.heap.size w W) ⟨hr, Below.refl _ _⟩ (fun W h => h.1) (fun W h => h.2) (fun x _ W _ => Aa5 x W) (by omega))
 have He := Lh (fun W h => Jc A cap l (0 : Int) W h hl)
 have Hr := Lh hr
 have H0 := Lh h0
 have H1 := Lh h1
 have Hl := Lh hl
 clear hr hl h0 h1
 obtain ⟨b, hb⟩ : ∃ b, b = l.any fun x => decide (Qw x < 0) := ⟨_, rfl⟩
 rw [← hb] at Hc
 go_enter Tryz.func106, Tryz.ntmps106
 go_wp2_with fail
 refine Hc.out.mono ?_
 rintro e w1 ⟨rfl, b1⟩
 clear Hc
 cases b
 rotate_left
 · obtain ⟨x, hx, hn⟩ := List.any_eq_true.1 hb.symm
   have Hz := Lh (AaJ H0.out H1.out hx (by simpa using hn))
   clear hb hx hn
   go_wp2_with fail
   go_ret
   exact ⟨ZC Hz.out.symm, b1⟩
 have h2 : ∀ x ∈ l, ¬ Qw x < 0 := fun x hx hn => by
  have := List.any_eq_false.1 hb.symm x hx
  simp at this; omega
 have H2 := Lh h2
 clear hb h2
 go_wp2_with fail
 refine (He.out w1 (Hr.out.go b1)).mono ?_
 rintro e w2 ⟨rfl, b2⟩
 replace b1 := b1.trans (b2.mono b1.size)
 clear b2 He
 by_cases h3 : endZ l 0 = (l.length : Int)
 rotate_left
 · have Hz := Lh (EZ H0.out H1.out (fun x hx hn => by have := H2.out x hx; omega) h3)
   have e3 : (endZ l 0 != (l.length : Int)) = true := by simpa using h3
   clear h3
   go_wp2_with fail
   go_ret
   exact ⟨ZC Hz.out.symm, b1⟩
 obtain ⟨t, ht⟩ := Whole.of h3
 have e3 : ((l.length : Int) != (l.length : Int)) = false := by simp
 have Hz := Lh (Y8 H1.out (fun x hx hn => by have := H2.out x hx; omega) ht)
 have Hd : Hid (Calls Tryz.prog 177 #[.slice A l.length cap, .int .i64 0] w2 fun e w' => e = .returned (.int .i64 (Xi t)) ∧ Below w2.heap.size w2 w') := AcC A cap l Hl.out t.size t 0 (Nat.le_refl _) ht.hat w2 (Hr.out.go b1)
 rw [h3]
 clear h3 ht
 obtain ⟨d, hd⟩ : ∃ d, d = Xi t := ⟨_, rfl⟩
 rw [← hd] at Hd Hz
 clear hd
 go_wp2_with fail
 refine Hd.out.mono ?_
 rintro e w3 ⟨rfl, b3⟩
 replace b1 := b1.trans (b3.mono b1.size)
 clear b3 Hd
 by_cases h4 : 30 < d
 · have Hz2 : Hid (Zy l = 13) := by have := Hz.out; rw [if_pos h4] at this; exact this
   clear Hz
   go_wp2_with fail
   go_ret
   exact ⟨ZC Hz2.out.symm, b1⟩
 · have Hz2 : Hid (Zy l = 0) := by have := Hz.out; rw [if_neg h4] at this; exact this
   clear Hz
   go_wp2_with fail
   go_ret
   exact ⟨ZC Hz2.out.symm, b1⟩
theorem AbS (p : PgV) (hbl : p.body.length ≤ 1000) (w : World) (hok : p.ok w) :
 Calls Tryz.prog 52 #[.agg p.cells] w fun e w' => e = .returned (.int .i64 (Zn p)) ∧ Below w.heap.size w w' := by
 have Hbl := Lh hbl
 have Hok := Lh hok
 clear hbl hok
 go_enter Tryz.func52, Tryz.ntmps52
 go_wp2_with (refine Qq _ _ rfl ?_)
 refine Stop.to ?_
 refine Qe rfl 25 _ rfl p.cells rfl ?_
 intro G Gw Gh Gr Gb
 have b1 := (Below.refl w.heap.size w).trans (Gb.mono Gh)
 have Hok1 := Lh (Hok.out.go b1)
 have c2 := Gr.cellv (i := 2) (v := .slice p.ba p.body.length p.bcap) rfl
 have Hs := Lh (AbC p.ba p.bcap p.body Gw Hok1.out.brd Hbl.out)
 clear Gb Gh Hok
 go_wp2_with fail
 refine Hs.out.mono ?_
 rintro e w1 ⟨rfl, b2⟩
 replace Gr := Gr.below b2 Gr.lt
 replace b1 := b1.trans (b2.mono b1.size)
 replace Hok1 := Lh (Hok1.out.go b2)
 clear b2 Hs c2
 obtain ⟨a, ha⟩ : ∃ a, a = Zy p.body := ⟨_, rfl⟩
 rw [← ha]
 by_cases h0 : a = 0
 rotate_left
 · have Hz : Hid (Zn p = a) := by show _ = _; rw [E3 (by rw [← ha]; exact h0), ← ha]
   have e0 : (a != 0) = true := by simpa using h0
   clear ha h0
   go_wp2_with fail
   go_ret
   exact ⟨ZC Hz.out.symm, b1⟩
 subst h0
 have Ha := Lh ha.symm
 have Hs := Lh (Aas p w1 Hok1.out)
 clear ha
 go_wp2_with (refine wpList_load_row rfl 25 _ rfl G rfl 25 p.cells (0, 0) _ Gr Tryz.underlying25 rfl (by kernel_rfl) ?_)
 refine Hs.out.mono ?_
 rintro e w2 ⟨rfl, b2⟩
 replace Gr := Gr.below b2 Gr.lt
 replace b1 := b1.trans (b2.mono b1.size)
 replace Hok1 := Lh (Hok1.out.go b2)
 clear b2 Hs
 obtain ⟨v, hv⟩ : ∃ v, v = Jy p.params p.V := ⟨_, rfl⟩
 rw [← hv]
 by_cases h0 : v = 0
 rotate_left
 · have h14 : v = 14 := by rcases Xo p.params p.V with h | h <;> omega
   have Hz : Hid (Zn p = 14) := E8 Ha.out (by rw [← hv]; exact h0)
   subst h14
   clear hv h0
   go_wp2_with fail
   go_ret
   exact ⟨ZC Hz.out.symm, b1⟩
 subst h0
 have Hv := Lh hv.symm
 obtain ⟨hl2, har, t, ht, hdp⟩ := V6 Ha.out
 have Ht := Lh ht
 have Hs : Hid (∀ W, p.ok W → Calls Tryz.prog 66 #[.agg p.cells, .int .i64 0] W fun e w' => e = .returned (.int .i64 (ofT p.V t)) ∧ Below W.heap.size W w') := fun W h => E4 p Hbl.out t 0 Ht.out.hat W h
 obtain ⟨ad, had, hc⟩ := QS Hok1.out.brd ht.hat.root
 have c2 := Gr.cellv (i := 2) (v := .slice p.ba p.body.length p.bcap) rfl
 have c0 := hc 0 _ rfl
 have hpos : (0 : Int) < (p.body.length : Int) := by have := ht.pos; omega
 simp only [Nat.zero_mul, Qp] at c0
 rw [had] at c2
 have Hvo : Hid (Kj p.params p.V) := by rcases Xo p.params p.V with h | h; exact h.2; have := Hv.out; omega
 clear hv hl2 har hdp ht hc
 by_cases h20 : t.root.tag = 20
 rotate_left
 · have Hz : Hid (Zn p = 15) := Um Ha.out Hv.out (JY Ht.out.hat (fun h => h20 h.1))
   have e20 : (t.root.tag != 20) = true := by simpa using h20
   clear h20
   go_wp2_with fail
   go_ret
   exact ⟨ZC Hz.out.symm, b1⟩
 have e20 : (t.root.tag != 20) = false := by simp [h20]
 have H20 := Lh h20
 clear h20
 go_wp2_with (refine ZA rfl 25 _ rfl G rfl 25 p.cells (0, 0) _ Gr Tryz.underlying25 rfl (by kernel_rfl) ?_)
 refine (Hs.out w2 Hok1.out).mono ?_
 rintro e w3 ⟨rfl, b2⟩
 replace b1 := b1.trans (b2.mono b1.size)
 clear b2 Hs c0 c2
 obtain ⟨k, hk⟩ : ∃ k, k = ofT p.V t := ⟨_, rfl⟩
 rw [← hk]
 by_cases h2 : k = 2
 · subst h2
   have Hz : Hid (Zn p = 0) := Aax Ha.out Hv.out ⟨Ht.out.hat, Ht.out.size, Hvo.out, H20.out, hk.symm⟩
   clear hk
   go_wp2_with fail
   go_ret
   exact ⟨ZC Hz.out.symm, b1⟩
 · have Hz : Hid (Zn p = 15) := Um Ha.out Hv.out (JY Ht.out.hat (fun h => h2 (by rw [hk]; exact h.2)))
   have e2 : (k != 2) = true := by simpa using h2
   clear hk h2
   go_wp2_with fail
   go_ret
   exact ⟨ZC Hz.out.symm, b1⟩
end Go.Proofs.YtdcmppdhdcjpfaaGreat
