/- Lemmas for VerdictMoreP. -/
import Derived.Test.YtdcmppdhdcjpfaaGreatZr1
import Derived.Test.YtdcmppdhdcjpfaaGreatZr11
import Derived.Test.YtdcmppdhdcjpfaaGreatZr18
set_option linter.unusedVariables false
set_option linter.unusedSimpArgs false
set_option maxRecDepth 100000
set_option maxHeartbeats 16000000
namespace Go.Proofs.YtdcmppdhdcjpfaaGreat
open Go.RowKit Go.Deep
def AfZ (p : PgV) (ts : List IntsV) (fuel : Int) : Bool := AeT p && (Vl ts && (decide (p.body.length ≤ 40) && (decide (ts.length ≤ 5) && (decide (fuel ≤ 200) || decide (10000 < fuel)))))
theorem Ahk {p : PgV} {ts : List IntsV} {fuel : Int} (h : AfZ p ts fuel = true) : p.body.length ≤ 40 ∧ p.V.length ≤ 20 ∧ ts.length ≤ 5 ∧ (∀ x ∈ ts, x.l.length ≤ 40) ∧ (fuel ≤ 200 ∨ 10000 < fuel) := by
 unfold AfZ AeT Vl at h
 simp only [Bool.and_eq_true, Bool.or_eq_true, decide_eq_true_eq] at h
 exact ⟨h.2.2.1, h.1.2, h.2.2.2.1, h.2.1.2, h.2.2.2.2⟩
theorem AeS (p : PgV) (A : Option Addr) (cap : Nat) (ts : List IntsV) (fuel : Int) (w : World) (hr : Rd w A (Z6 ts)) : Calls Tryz.prog 24 #[.agg p.cells, .slice A ts.length cap, .int .i64 fuel] w fun e w' => e = .returned (.bool (AfZ p ts fuel)) ∧ Below w.heap.size w w' := by
 have Hr := Lh hr
 clear hr
 have HV : Hid (∀ {β : Bool}, (AeT p && (Vl ts && (decide (p.body.length ≤ 40) && (decide (ts.length ≤ 5) && (decide (fuel ≤ 200) || decide (10000 < fuel)))))) = β → AfZ p ts fuel = β) := fun h => h
 go_enter Tryz.func24, Tryz.ntmps24
 go_wp2_with (refine Qp _ _ rfl ?_)
 refine Stop.to ?_
 refine Qf rfl 25 _ rfl p.cells rfl ?_
 intro G Gw Gh Gr Gb
 have b1 := (Below.refl w.heap.size w).trans (Gb.mono Gh)
 clear Gb Gh
 go_wp2_with (refine wpList_load_row rfl 25 _ rfl G rfl 25 p.cells (0, 0) _ Gr Tryz.underlying25 rfl (by kernel_rfl) ?_)
 refine (Ahl p Gw).mono ?_
 rintro e w1 ⟨rfl, b2⟩
 replace Gr := Gr.below b2 Gr.lt
 replace b1 := b1.trans (b2.mono b1.size)
 have Hb := Lh b1
 have hT := AfY A cap ts w1 (Hr.out.go b1)
 obtain ⟨n, hn⟩ : ∃ n, n = ts.length := ⟨_, rfl⟩
 rw [← hn] at HV hT ⊢
 have c2 := Gr.cellv (i := 2) (v := .slice p.ba p.body.length p.bcap) rfl
 obtain ⟨m, hm⟩ : ∃ m, m = p.body.length := ⟨_, rfl⟩
 rw [← hm] at HV c2
 obtain ⟨q, hq⟩ : ∃ q, q = AeT p := ⟨_, rfl⟩
 rw [← hq] at HV ⊢
 obtain ⟨q2, hq2⟩ : ∃ q, q = Vl ts := ⟨_, rfl⟩
 rw [← hq2] at HV hT
 have HT := Lh hT
 clear b2 b1 Gr Hr hn hm hq hq2 hT
 cases q
 · go_wp2_with fail
   go_ret
   exact ⟨Z9 (HV.out (by simp)), Hb.out⟩
 go_wp2_with fail
 refine HT.out.mono ?_
 rintro e w2 ⟨rfl, rfl⟩
 clear HT
 cases q2
 · go_wp2_with fail
   go_ret
   exact ⟨Z9 (HV.out (by simp)), Hb.out⟩
 by_cases h1 : m ≤ 40
 rotate_left
 · have h1' : ¬ (m : Int) ≤ 40 := by omega
   have h1'' : 40 < (m : Int) := by omega
   have H1 := Lh h1
   clear h1
   go_wp2_with fail
   go_ret
   exact ⟨Z9 (HV.out (by have h1 := H1.out; simp [h1])), Hb.out⟩
 have h1' : (m : Int) ≤ 40 := by omega
 by_cases h2 : n ≤ 5
 rotate_left
 · have h2' : ¬ (n : Int) ≤ 5 := by omega
   have h2'' : 5 < (n : Int) := by omega
   have H2 := Lh h2
   clear h1 h2
   go_wp2_with fail
   go_ret
   exact ⟨Z9 (HV.out (by have h2 := H2.out; simp [h2])), Hb.out⟩
 have h2' : (n : Int) ≤ 5 := by omega
 have H12 := Lh (And.intro h1 h2)
 clear h1 h2
 by_cases h3 : fuel ≤ 200
 · have H3 := Lh h3
   go_wp2_with fail
   go_ret
   exact ⟨Z9 (HV.out (by have h1 := H12.out; have h3 := H3.out; simp [h1.1, h1.2, h3])), Hb.out⟩
 have h3' : 200 < fuel := by omega
 by_cases h4 : 10000 < fuel
 · have H4 := Lh h4
   clear h3
   go_wp2_with fail
   go_ret
   exact ⟨Z9 (HV.out (by have h1 := H12.out; have h3 := H4.out; simp [h1.1, h1.2, h3])), Hb.out⟩
 · have h4' : fuel ≤ 10000 := by omega
   have H3 := Lh h3
   have H4 := Lh h4
   clear h3 h4
   go_wp2_with fail
   go_ret
   exact ⟨Z9 (HV.out (by have h1 := H12.out; have h3 := H3.out; have h4 := H4.out; simp only [h1.1, h1.2, h3, h4, decide_true, decide_false, Bool.true_and, Bool.or_self])), Hb.out⟩
end Go.Proofs.YtdcmppdhdcjpfaaGreat
namespace Go.Proofs.YtdcmppdhdcjpfaaGreat
open Go.ChangeShapes Go.WideShapes Go.RowKit Go.Deep
structure TsV where
 A : Option Addr
 cap : Nat
 l : List IntsV
def TsV.val (t : TsV) : Value := .slice t.A t.l.length t.cap
structure TsRaw (W : World) (t : TsV) : Prop where
 len : t.l.length ≤ t.cap
 cap : t.cap ≤ maxLen
 nil : t.A = none → t.cap = 0
 rd : Rd W t.A (Z6 t.l)
 ok : ∀ x ∈ t.l, x.ok W
section
variable {H : Type} {enc : TypeId × Value → H} {w : World} {base : Nat} {spare : Nat → Bool} {held : Bool}
theorem Acx {r : Go.Reach} {b0 : Nat} {v : Value} {d : DataW H} {p : List MemPlace} (hv : Value.okWide Tryz.prog w r b0 46 v) (h : DataW.Trod enc Tryz.prog w base spare held 46 v d p) :
 ∃ t : TsV, TsRaw w t ∧ v = t.val := by
 obtain ⟨a, len, cap, rfl⟩ := okWide_slice Tryz.underlying46 hv
 obtain ⟨fuel, hx⟩ := h
 obtain ⟨A, c, l, e, h1, h2, h3, h4, h5⟩ := Acw hx
 have e2 : [Value.slice a len cap] = [.slice A l.length c] := e
 injection e2 with e2
 injection e2 with e3 e4 e5
 subst e3 e4 e5
 exact ⟨⟨_, _, l⟩, ⟨h1, h2, h3, h4, h5⟩, rfl⟩
end
end Go.Proofs.YtdcmppdhdcjpfaaGreat
