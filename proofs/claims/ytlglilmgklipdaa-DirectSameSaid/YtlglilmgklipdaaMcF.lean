/- The walk over the machine's next. Conditions: stated in each theorem. -/
import Derived.Test.YtlglilmgklipdaaMcC
namespace Go.Proofs.Ytlglilmgklipdaa
set_option linter.unusedVariables false
open Go.RowKit Go.Deep

/-- What is known of the frame on top. -/
structure TopF (L : Lay) (W : World) (M SB o : Nat) (q : Nat) (kid : Nat) (fv : Value) (tag : Int) (kd : Addr) (nk : Nat) (pos : List Nat) : Prop where
  c3 : ∃ ka, L.ka = some ka ∧ W.cell? ⟨L.M, 3, none⟩ = some (.slice (some ka) L.p.body.length L.kcap) ∧ ∃ A cap, W.cell? (ka.add q) = some (.slice A nk cap) ∧ (0 < nk → A = some kd)
  c2 : ∃ bd, W.cell? ⟨L.M, 2, none⟩ = some (.slice (some bd) L.p.body.length L.p.bcap) ∧ W.cell? (bd.add (q * 2)) = some (.int .i64 tag)
  a0 : W.cell? ⟨SB, o, none⟩ = some (.int .i64 (q : Int))
  a1 : W.cell? ⟨SB, o + 1, none⟩ = some (.int .i64 (kid : Int))
  a2 : W.cell? ⟨SB, o + 2, none⟩ = some fv
  ql : (q : Int) < (L.p.body.length : Int)
  kl : (kid : Int) < 1000000
  pl : pos.length = nk
  pc : ∀ (i k : Nat), pos[i]? = some k → W.cell? (kd.add i) = some (.int .i64 (k : Int))
theorem topF {L : Lay} (hL : LOk L) {s : Ms} {x : FrV} {r : List FrV} {sv ev : Value} {W : World} {SB cap : Nat} {cur : Array Value} (hm : MR L s (x :: r) sv ev W) (ht : Top L W x r sv SB cap cur) (hat : At L.p.body x.f.at_ x.f.t) (hk : x.f.kid < 1000000) :
    ∃ kd, TopF L W L.M SB (r.length * 3) x.f.at_ x.f.kid x.v x.f.t.root.tag kd x.f.t.kids.length (spots (x.f.at_ + 1) x.f.t.kids) := by
  obtain ⟨ka, A, kcap, hka, hkc, hkr⟩ := hL.kids W hm.core.im x.f.at_ x.f.t hat
  obtain ⟨bd, hbd, hcx⟩ := nd_at (hL.pok W hm.core.im).brd hat.root
  have hc0 := hcx 0 (.int .i64 x.f.t.root.tag) rfl
  rw [show (bd.add (x.f.at_ * 2)).add 0 = bd.add (x.f.at_ * 2) by rw [add_add']; simp] at hc0
  have e3 : W.cell? ⟨L.M, 3, none⟩ = some (.slice L.ka L.p.body.length L.kcap) := hm.row.cellv rfl
  have e2 : W.cell? ⟨L.M, 2, none⟩ = some (.slice L.p.ba L.p.body.length L.p.bcap) := hm.row.cellv rfl
  rw [hka] at e3
  rw [hbd] at e2
  have hlen : (spots (x.f.at_ + 1) x.f.t.kids).length = x.f.t.kids.length := spots_len _ _
  refine ⟨A.getD ⟨0, 0, none⟩, ⟨ka, hka, e3, A, kcap, hkc, fun h0 => ?_⟩, ⟨bd, e2, hc0⟩, by have := ht.cell 0 _ rfl; simpa using this, ht.cell 1 _ rfl, ht.cell 2 _ rfl, by have := hat.lt; omega, by omega, hlen, fun i k hik => ?_⟩
  · obtain ⟨k, hk0⟩ : ∃ k, (spots (x.f.at_ + 1) x.f.t.kids)[0]? = some k := ⟨_, List.getElem?_eq_getElem (by omega)⟩
    obtain ⟨ad, had, _⟩ := int_at (l := natsI (spots (x.f.at_ + 1) x.f.t.kids)) hkr (k := 0) (x := (k : Int)) (by simp [natsI, hk0])
    rw [had]; rfl
  · obtain ⟨ad, had, hc⟩ := int_at (l := natsI (spots (x.f.at_ + 1) x.f.t.kids)) hkr (k := i) (x := (k : Int)) (by simp [natsI, hik])
    rw [had]; exact hc
set_option maxRecDepth 100000 in
set_option maxHeartbeats 40000000 in
theorem mNextK_any (L : Lay) (SB o q kid : Nat) (fv : Value) (tag : Int) (kd : Addr) (nk : Nat) (pos : List Nat) (k : Nat) (W : World) (h : TopF L W L.M SB o q kid fv tag kd nk pos) (hkid : kid < nk) (hk : pos[kid]? = some k)
    (h1 : ¬ (tag = 23 ∧ 1 ≤ kid)) (h2 : kid = 1 → asks tag → ∃ vd n cap v, fv = .slice (some vd) (n + 1) cap ∧ W.cell? vd = some (.int .i64 v) ∧ ¬ short tag v) :
    Calls Try.prog 35 #[.pointer (some ⟨L.M, 0, none⟩), .pointer (some ⟨SB, o, none⟩)] W fun e W' => ∃ n, e = .returned (.tuple #[.int .i64 (k : Int), .bool true]) ∧ W' = W.drewN n := by
  obtain ⟨⟨ka, hka, c3, A, kcap, ck, hA⟩, ⟨bd, c2, ct⟩, a0, a1, a2, ql, kl, pl, pc⟩ := h
  obtain rfl := hA (by omega)
  have ck2 := pc kid k hk
  have hkI : (kid : Int) < (nk : Int) := by omega
  clear pc hk hka pl hA
  by_cases hk1 : kid = 1
  · by_cases hasks : asks tag
    · obtain ⟨vd, n, cap, v, rfl, cv, hs⟩ := h2 hk1 hasks
      have hcases : (tag = 18 ∧ v ≠ 0) ∨ (tag = 19 ∧ v ≠ 1) ∨ (tag = 24 ∧ v ≠ 0) := by unfold asks at hasks; unfold short at hs; omega
      have ek1 : ((kid : Int) == 1) = true := by simp; omega
      clear h1 h2 hasks hs hkid hk1
      rcases hcases with ⟨rfl, hv⟩ | ⟨rfl, hv⟩ | ⟨rfl, hv⟩
      · have ev : (v == 0) = false := by simpa using hv
        clear hv
        go_enter Try.func35, Try.ntmps35
        go_wp2_with fail
        go_quiet (fail)
        go_wp2_with fail
        go_quiet (fail)
        go_wp2
        go_ret2
        exact ⟨_, rfl, rfl⟩
      · have ev : (v == 1) = false := by simpa using hv
        clear hv
        go_enter Try.func35, Try.ntmps35
        go_wp2_with fail
        go_quiet (fail)
        go_wp2_with fail
        go_quiet (fail)
        go_wp2
        go_ret2
        exact ⟨_, rfl, rfl⟩
      · have ev : (v == 0) = false := by simpa using hv
        clear hv
        go_enter Try.func35, Try.ntmps35
        go_wp2_with fail
        go_quiet (fail)
        go_wp2_with fail
        go_quiet (fail)
        go_wp2
        go_ret2
        exact ⟨_, rfl, rfl⟩
    · have hne : tag ≠ 18 ∧ tag ≠ 19 ∧ tag ≠ 24 ∧ tag ≠ 23 := by unfold asks at hasks; omega
      have e18 : (tag == 18) = false := by simpa using hne.1
      have e19 : (tag == 19) = false := by simpa using hne.2.1
      have e24 : (tag == 24) = false := by simpa using hne.2.2.1
      have e23 : (tag == 23) = false := by simpa using hne.2.2.2
      have ek1 : ((kid : Int) == 1) = true := by simp; omega
      clear h1 h2 hasks hne hkid hk1
      go_enter Try.func35, Try.ntmps35
      go_wp2_with fail
      go_quiet (fail)
      go_wp2_with fail
      go_quiet (fail)
      go_wp2
      go_ret2
      exact ⟨_, rfl, rfl⟩
  · have ek1 : ((kid : Int) == 1) = false := by simp; omega
    by_cases h23 : tag = 23
    · have eg : decide ((1 : Int) < (kid : Int)) = false := by simp; omega
      have eg' : ¬ ((1 : Int) < (kid : Int)) := by omega
      subst h23
      clear h1 h2 hk1 hkid
      go_enter Try.func35, Try.ntmps35
      go_wp2_with fail
      go_quiet (fail)
      go_wp2_with fail
      go_quiet (fail)
      go_wp2
      go_ret2
      exact ⟨_, rfl, rfl⟩
    · have e23 : (tag == 23) = false := by simpa using h23
      clear h1 h2 hk1 h23 hkid
      go_enter Try.func35, Try.ntmps35
      go_wp2_with fail
      go_quiet (fail)
      go_wp2_with fail
      go_quiet (fail)
      go_wp2
      go_ret2
      exact ⟨_, rfl, rfl⟩
set_option maxRecDepth 100000 in
set_option maxHeartbeats 40000000 in
theorem mNextK2_any (L : Lay) (SB o q kid : Nat) (fv : Value) (tag : Int) (kd : Addr) (nk : Nat) (pos : List Nat) (i k : Nat) (v : Int) (vd : Addr) (n cap : Nat) (W : World) (h : TopF L W L.M SB o q kid fv tag kd nk pos) (hk : pos[i]? = some k)
    (ht : tag = 23) (h1 : kid = 1) (hf : fv = .slice (some vd) (n + 1) cap) (cv : W.cell? vd = some (.int .i64 v)) (hv : v = 0 ∨ v = 1) (hi : (i : Int) = 2 - v) :
    Calls Try.prog 35 #[.pointer (some ⟨L.M, 0, none⟩), .pointer (some ⟨SB, o, none⟩)] W fun e W' => ∃ n, e = .returned (.tuple #[.int .i64 (k : Int), .bool true]) ∧ W' = W.drewN n := by
  subst ht hf
  obtain ⟨⟨ka, hka, c3, A, kcap, ck, hA⟩, ⟨bd, c2, ct⟩, a0, a1, a2, ql, kl, pl, pc⟩ := h
  have hil : i < nk := by have := (List.getElem?_eq_some_iff.1 hk).1; omega
  obtain rfl := hA (by omega)
  have ck2 := pc i k hk
  have hkI : (i : Int) < (nk : Int) := by omega
  have ek1 : ((kid : Int) == 1) = true := by simp; omega
  have eg : decide ((1 : Int) < (kid : Int)) = false := by simp; omega
  clear pc hk hka pl hA h1 hil
  rcases hv with rfl | rfl
  · obtain rfl : i = 2 := by omega
    replace ck2 : W.cell? ⟨kd.block, kd.off + 2, none⟩ = some (.int .i64 (k : Int)) := ck2
    clear hi
    go_enter Try.func35, Try.ntmps35
    go_wp2_with fail
    go_quiet (fail)
    go_wp2_with fail
    go_quiet (fail)
    go_wp2
    go_ret2
    exact ⟨_, rfl, rfl⟩
  · obtain rfl : i = 1 := by omega
    replace ck2 : W.cell? ⟨kd.block, kd.off + 1, none⟩ = some (.int .i64 (k : Int)) := ck2
    clear hi
    go_enter Try.func35, Try.ntmps35
    go_wp2_with fail
    go_quiet (fail)
    go_wp2_with fail
    go_quiet (fail)
    go_wp2
    go_ret2
    exact ⟨_, rfl, rfl⟩
set_option maxRecDepth 100000 in
set_option maxHeartbeats 40000000 in
theorem mNextNo_any (L : Lay) (SB o q kid : Nat) (fv : Value) (tag : Int) (kd : Addr) (nk : Nat) (pos : List Nat) (W : World) (h : TopF L W L.M SB o q kid fv tag kd nk pos)
    (h0 : (kid = 1 ∧ ∃ vd n cap v, fv = .slice (some vd) (n + 1) cap ∧ W.cell? vd = some (.int .i64 v) ∧ short tag v) ∨ (¬ (kid = 1 ∧ asks tag) ∧ ((tag = 23 ∧ 1 < kid) ∨ (tag ≠ 23 ∧ nk ≤ kid)))) :
    Calls Try.prog 35 #[.pointer (some ⟨L.M, 0, none⟩), .pointer (some ⟨SB, o, none⟩)] W fun e W' => ∃ n, e = .returned (.tuple #[.int .i64 0, .bool false]) ∧ W' = W.drewN n := by
  obtain ⟨⟨ka, hka, c3, A, kcap, ck, hA⟩, ⟨bd, c2, ct⟩, a0, a1, a2, ql, kl, pl, pc⟩ := h
  clear pc hka pl hA
  rcases h0 with ⟨hk1, vd, n, cap, v, rfl, cv, hs⟩ | ⟨hn, h0⟩
  · have ek1 : ((kid : Int) == 1) = true := by simp; omega
    have hcases : (tag = 18 ∧ v = 0) ∨ (tag = 19 ∧ v = 1) ∨ (tag = 24 ∧ v = 0) := by unfold short at hs; omega
    clear hs hk1
    rcases hcases with ⟨rfl, rfl⟩ | ⟨rfl, rfl⟩ | ⟨rfl, rfl⟩
    · go_enter Try.func35, Try.ntmps35
      go_wp2_with fail
      go_quiet (fail)
      go_wp2_with fail
      go_quiet (fail)
      go_wp2
      go_ret2
      exact ⟨_, rfl, rfl⟩
    · go_enter Try.func35, Try.ntmps35
      go_wp2_with fail
      go_quiet (fail)
      go_wp2_with fail
      go_quiet (fail)
      go_wp2
      go_ret2
      exact ⟨_, rfl, rfl⟩
    · go_enter Try.func35, Try.ntmps35
      go_wp2_with fail
      go_quiet (fail)
      go_wp2_with fail
      go_quiet (fail)
      go_wp2
      go_ret2
      exact ⟨_, rfl, rfl⟩
  · rcases h0 with ⟨rfl, hg⟩ | ⟨h23, hg⟩
    · have ek1 : ((kid : Int) == 1) = false := by simp; omega
      have eg : decide ((1 : Int) < (kid : Int)) = true := by simp; omega
      have eg' : ((1 : Int) < (kid : Int)) := by omega
      clear hn
      go_enter Try.func35, Try.ntmps35
      go_wp2_with fail
      go_quiet (fail)
      go_wp2_with fail
      go_quiet (fail)
      go_wp2
      go_ret2
      exact ⟨_, rfl, rfl⟩
    · have e23 : (tag == 23) = false := by simpa using h23
      have el : decide ((kid : Int) < (nk : Int)) = false := by simp; omega
      by_cases hk1 : kid = 1
      · have hne : tag ≠ 18 ∧ tag ≠ 19 ∧ tag ≠ 24 := by unfold asks at hn; omega
        have e18 : (tag == 18) = false := by simpa using hne.1
        have e19 : (tag == 19) = false := by simpa using hne.2.1
        have e24 : (tag == 24) = false := by simpa using hne.2.2
        have ek1 : ((kid : Int) == 1) = true := by simp; omega
        clear hn hne hg hk1 h23
        generalize (kid : Int) = kI at a1 kl ek1 el
        have el2 : (kI < (nk : Int)) = False := by simpa using el
        clear el
        go_enter Try.func35, Try.ntmps35
        go_wp2_with fail
        go_quiet (fail)
        go_wp2_with fail
        go_quiet (fail)
        go_wp2
        go_ret2
        exact ⟨_, rfl, rfl⟩
      · have ek1 : ((kid : Int) == 1) = false := by simp; omega
        clear hn hg hk1 h23
        generalize (kid : Int) = kI at a1 kl ek1 el
        have el2 : (kI < (nk : Int)) = False := by simpa using el
        clear el
        go_enter Try.func35, Try.ntmps35
        go_wp2_with fail
        go_quiet (fail)
        go_wp2_with fail
        go_quiet (fail)
        go_wp2
        go_ret2
        exact ⟨_, rfl, rfl⟩
end Go.Proofs.Ytlglilmgklipdaa
