/- The machine's next, told of by the plain steps. Conditions: stated in each theorem. -/
import Derived.Test.YtlglilmgklipdaaMcH
namespace Go.Proofs.Ytlglilmgklipdaa
set_option linter.unusedVariables false
open Go.RowKit Go.Deep

theorem vals1' {w : World} {b : Nat} {v : Value} {l vs : List Int} {a : Int} (h : w.ownsRow b 3 1 v l.length (ints l)) (hl : l = a :: vs) : ∃ vd n cap c, v = .slice (some vd) (n + 1) cap ∧ w.cell? vd = some (.int .i64 c) ∧ c = a := by
  obtain ⟨g, cap, m, h1, h2⟩ := vals1 h hl
  exact ⟨_, m, cap, a, h1, h2, rfl⟩
theorem mNext_kid (L : Lay) (hL : LOk L) (s : Ms) (x : FrV) (rs : List FrV) (sv ev : Value) (SB cap : Nat) (cur : Array Value) (W : World) (hm : MR L s (x :: rs) sv ev W) (ht : Top L W x rs sv SB cap cur) (hf : FOk L.p.body x.f) (i q : Nat) (hi : NextK x.f i) (hq : (spots (x.f.at_ + 1) x.f.t.kids)[i]? = some q) :
    Calls Try.prog 35 #[.pointer (some ⟨L.M, 0, none⟩), .pointer (some ⟨SB, rs.length * 3, none⟩)] W fun e W' => ∃ n, e = .returned (.tuple #[.int .i64 (q : Int), .bool true]) ∧ W' = W.drewN n := by
  have few := hf.few
  have hkid := hf.kid
  obtain ⟨kd, h⟩ := topF hL hm ht hf.hat (by omega)
  have hx := hm.core.fr x (by simp)
  rcases hi.how with ⟨h23, h1, v, vs, hv, h01, hiv⟩ | ⟨rfl, hn, ha⟩
  · obtain ⟨vd, n, c, v', hxv, cv, rfl⟩ := vals1' hx hv
    exact mNextK2_any L SB _ _ _ _ _ kd _ _ i q v' vd n c W h hq h23 h1 hxv cv h01 hiv
  · refine mNextK_any L SB _ _ _ _ _ kd _ _ q W h hi.lt hq hn (fun h1 hask => ?_)
    obtain ⟨v, vs, hv, hs⟩ := ha h1 hask
    obtain ⟨vd, n, c, v', hxv, cv, rfl⟩ := vals1' hx hv
    exact ⟨vd, n, c, v', hxv, cv, hs⟩
theorem mNext_no (L : Lay) (hL : LOk L) (s : Ms) (x : FrV) (rs : List FrV) (sv ev : Value) (SB cap : Nat) (cur : Array Value) (W : World) (hm : MR L s (x :: rs) sv ev W) (ht : Top L W x rs sv SB cap cur) (hf : FOk L.p.body x.f) (hi : NextNo x.f) :
    Calls Try.prog 35 #[.pointer (some ⟨L.M, 0, none⟩), .pointer (some ⟨SB, rs.length * 3, none⟩)] W fun e W' => ∃ n, e = .returned (.tuple #[.int .i64 0, .bool false]) ∧ W' = W.drewN n := by
  have few := hf.few
  have hkid := hf.kid
  obtain ⟨kd, h⟩ := topF hL hm ht hf.hat (by omega)
  have hx := hm.core.fr x (by simp)
  refine mNextNo_any L SB _ _ _ _ _ kd _ _ W h ?_
  rcases hi.how with ⟨h1, v, vs, hv, hs⟩ | ⟨h1, h2⟩
  · obtain ⟨vd, n, c, v', hxv, cv, rfl⟩ := vals1' hx hv
    exact .inl ⟨h1, vd, n, c, v', hxv, cv, hs⟩
  · exact .inr ⟨h1, h2⟩
/-- The frame on top has entered one kid more. -/
theorem MR.more {L : Lay} {s : Ms} {x : FrV} {rs : List FrV} {sv ev : Value} {W W' : World} {SB cap : Nat} {cur : Array Value} (h : MR L s (x :: rs) sv ev W) (hL : LOk L) (ht : Top L W x rs sv SB cap cur) (o : Only SB W W') (hr : Row W' SB 63 (putL cur (rs.length * 3 + 1) [.int .i64 ((x.f.kid + 1 : Nat) : Int)])) : MR L s (⟨x.f.more, x.v⟩ :: rs) sv ev W' := by
  have hSB := ht.lo
  have t3 := ht.put (x' := ⟨x.f.more, x.v⟩) (j := 1) (u := .int .i64 ((x.f.kid + 1 : Nat) : Int)) (by decide) rfl hr
  have hne : SB ≠ L.M := by have := hL.lt; omega
  have k := h.core.onlyStack hL o ht.row hSB
  refine ⟨h.row.only o (fun e => hne e.symm), t3.own, ⟨k.evs, k.vals, k.arrs, fun y hy => ?_, ?_, k.im, k.size, k.sum, by have := k.few; simpa using this⟩⟩
  · rcases List.mem_cons.1 hy with rfl | hy
    · exact k.fr x (by simp)
    · exact k.fr y (by simp [hy])
  · exact List.pairwise_cons.2 ⟨(List.pairwise_cons.1 k.dist).1, (List.pairwise_cons.1 k.dist).2⟩
def vals0 (V args : List Int) : List Int := (List.range V.length).map fun i => args.getD i 0
def arrs0 (V : List Int) : List (List Int) := V.map fun t => List.replicate (sizeZ t).toNat 0
def initS (V args : List Int) (F : Nat) : Ms := ⟨vals0 V args, arrs0 V, F, 0, [], none⟩
/-- All that a machine may change is newer than the world before it. -/
structure LNew (B : Nat) (L : Lay) : Prop where
  m : B ≤ L.M
  b1 : B ≤ L.b1
  vv : ∀ g, L.vv.ownBlock = some g → B ≤ g
  ab : ∀ g ∈ L.ab, B ≤ g
theorem Chg.new {L : Lay} {B : Nat} {W W' : World} (h : Chg L W W') (n : LNew B L) : Below B W W' :=
  ⟨h.os, h.tape, h.output, h.size, fun k hk => h.block k (by have := n.b1; omega) (by have := n.m; omega) (fun e => by have := n.vv k e; omega) (fun e => by have := n.ab k e; omega)⟩
structure LoadR (p : PgV) (args : List Int) (F : Nat) (w w' : World) (e : Ending) : Prop where
  ex : ∃ L : Lay, e = .returned (.pointer (some ⟨L.M, 0, none⟩)) ∧ L.p = p ∧ L.F = F ∧ LOk L ∧ MRx L ⟨initS p.V args F, []⟩ w' ∧ Below w.heap.size w w' ∧ LNew w.heap.size L
theorem LenS.init (V args : List Int) (F : Nat) : LenS V (initS V args F) := by
  refine ⟨by simp [initS, vals0], by simp [initS, arrs0], fun i t a h1 h2 => ?_⟩
  simp only [initS, arrs0, List.getElem?_map, h1, Option.map_some, Option.some.injEq] at h2
  subst h2
  rw [List.length_replicate]
  unfold sizeZ
  split <;> omega
end Go.Proofs.Ytlglilmgklipdaa
