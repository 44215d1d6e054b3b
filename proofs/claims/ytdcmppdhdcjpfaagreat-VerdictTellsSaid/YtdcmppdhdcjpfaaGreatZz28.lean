/- Lemmas for VerdictTellsP. -/
import Derived.Test.YtdcmppdhdcjpfaaGreatZz1
import Derived.Test.YtdcmppdhdcjpfaaGreatZz26
import Derived.Test.YtdcmppdhdcjpfaaGreatZz27
set_option linter.unusedVariables false
set_option linter.unusedSimpArgs false
set_option maxRecDepth 100000
set_option maxHeartbeats 16000000
namespace Go.Proofs.YtdcmppdhdcjpfaaGreat
open Go.RowKit Go.Deep
def Ent (L : Lay) (t : Tr) (s : Ms) (v : Int) (s' : Ms) : Prop := ∀ (q : Nat) (ev : Value) (W : World), At L.p.body q t → RR L s ev W →
 Calls Tryz.prog 142 #[.pointer (some ⟨L.M, 0, none⟩), .int .i64 (q : Int)] W fun e W' => e = .returned (.int .i64 v) ∧ ∃ ev', RR L s' ev' W' ∧ RChg L ev W ev' W'
theorem Ah5 {L : Lay} {s : Ms} {ev v : Value} {W0 W : World} {n : Nat} {xs : List Value} (h0 : RR L s ev W0) (h : W.ownsRow W0.heap.size 3 1 v n xs) : ∃ A cap, v = .slice A n cap ∧ FRd L ev W A xs ∧ n ≤ cap ∧ (A = none → cap = 0) := by
 obtain ⟨A, cap, rfl, p, l, o⟩ := EM h;refine ⟨A, cap, rfl, ⟨p, fun q e => ?_⟩, l, o⟩;rcases h.2 with ⟨b, j⟩ | ⟨g, i, d, b, k, m, _⟩
 · rw [e] at b; cases b
 · rw [e] at b;injection b with b;injection b with b;subst b;have c : Row W g 3 d := m;exact h0.far_new k c.lt
theorem Ait (q : Nat) (ks : List Tr) : (QU (Q5 (q + 1) ks)).length = ks.length := by rw [XK, ZP]
theorem XB {p : PgV} {q : Nat} {x : Nd} {ks : List Tr} (h : At p.body q (.node x ks)) {i : Nat} {k : Tr} (hk : ks[i]? = some k) : ∃ qi, (Q5 (q + 1) ks)[i]? = some qi ∧ At p.body qi k := by
 have hi : i < (Q5 (q + 1) ks).length := by rw [ZP]; exact (Lb.1 hk).1
 exact ⟨_, La hi, (h.kids.spot i _ k (La hi) hk).1⟩
theorem AjN (L : Lay) (hL : ROk L) (t : Tr) (s : Ms) (ho : s.out.isSome = true) : Ent L t s 0 s := by
 intro q ev W c h;have d := Lh h;have b := h.row.cellv (i := 10) (v := .bool s.out.isSome) rfl;rw [ho] at b;clear h c hL;go_enter Tryz.func142, Tryz.ntmps142
 go_wp2
 go_ret
 exact ⟨rfl, ev, d.out, .refl _ _ _⟩
theorem Ajh (L : Lay) (hL : ROk L) (t : Tr) (s : Ms) (ho : s.out = none) (h0 : s.fuel = 0) : Ent L t s 0 (s.stop 4 0) := by
 intro q ev W d h;have m := Lh (JR L hL s ev 4 0 W h);have b := h.row.cellv (i := 10) (v := .bool s.out.isSome) rfl;have c := h.row.cellv (i := 5) (v := .int .i64 (s.fuel : Int)) rfl;have n : Hid (s.stopped 4 0 = s.stop 4 0) := by show _ = _; unfold Ms.stopped; rw [ho]; rfl
 rw [ho] at b;rw [h0] at c;replace b : W.cell? ⟨L.M, 10, none⟩ = some (.bool false) := b;replace c : W.cell? ⟨L.M, 5, none⟩ = some (.int .i64 0) := c;clear h d hL ho h0;go_enter Tryz.func142, Tryz.ntmps142
 go_wp2_with fail
 refine m.out.mono ?_;rintro e o ⟨rfl, j, g⟩;have k := Lh g;have l := Lh j;clear j g;go_wp2
 go_ret
 exact ⟨rfl, ev, by rw [← n.out]; exact l.out, k.out⟩
def AaD (L : Lay) : List Tr → Ms → Ms → Prop
 | [], s, s' => s = s'
 | t :: ts, s, s' => ∃ v s1, Ent L t s v s1 ∧ AaD L ts s1 s'
end Go.Proofs.YtdcmppdhdcjpfaaGreat
