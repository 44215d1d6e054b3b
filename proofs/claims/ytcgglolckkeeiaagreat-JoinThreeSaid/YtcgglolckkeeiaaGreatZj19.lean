/- Lemmas for JnAll. -/
import Derived.Test.YtcgglolckkeeiaaGreatZj18
import Derived.Test.YtcgglolckkeeiaaGreatZj12
namespace Go.Proofs.YtcgglolckkeeiaaGreat
set_option linter.unusedVariables false
open Go.RowKit Go.Deep
attribute [local go_sem] Oper.semAt_some
theorem add_zero' (a : Addr) : a.add 0 = a := by unfold Addr.add; rw [if_pos rfl]
structure KpG (Z : Nat → Obj → Prop) (A B : World) : Prop where
 block : ∀ k o, ¬ Z k o → A.heap[k]? = some o → B.heap[k]? = some o
 size : A.heap.size ≤ B.heap.size
theorem KpG.trans {Z : Nat → Obj → Prop} {A B C : World} (h : KpG Z A B) (k : KpG Z B C) : KpG Z A C := ⟨fun i o hx ho => k.block i o hx (h.block i o hx ho), Nat.le_trans h.size k.size⟩
theorem KpG.refl (Z : Nat → Obj → Prop) (A : World) : KpG Z A A := ⟨fun _ _ _ h => h, Nat.le_refl _⟩
theorem KpG.of_below {Z : Nat → Obj → Prop} {A B : World} (h : Below A.heap.size A B) : KpG Z A B := ⟨fun k o _ ho => by rw [h.block k (Array.getElem?_eq_some_iff.1 ho).1]; exact ho, h.size⟩
theorem KpG.row {Z : Nat → Obj → Prop} {A B : World} (h : KpG Z A B) {g : Nat} {t : TypeId} {cs : Array Value} (hr : Row A g t cs) (hx : ¬ Z g (.cells cs t (0, 0))) : Row B g t cs := h.block g _ hx hr
theorem KpG.rd {Z : Nat → Obj → Prop} {A B : World} (h : KpG Z A B) {ad : Option Addr} {xs : List Value} (hr : Rd A ad xs) (hx : xs ≠ [] → ∀ a, ad = some a → ∀ o, ¬ Z a.block o) : Rd B ad xs := fun j u hj => by
 obtain ⟨a, e, hc⟩ := hr j u hj
 have hne : xs ≠ [] := fun e => by rw [e] at hj; simp at hj
 have hlt := World.block_lt_of_cell? _ _ hc
 have hbl : (a.add j).block = a.block := add_block a j
 rw [hbl] at hlt
 have h1 : A.heap[a.block]? = some A.heap[a.block] := Array.getElem?_eq_getElem hlt
 have h2 := h.block _ _ (hx hne a e _) h1
 exact ⟨a, e, (World.cell?_of_block (by rw [hbl]; exact h2.trans h1.symm)).trans hc⟩
theorem setCell_same {W : World} {g : Nat} {t : TypeId} {v : Value} (h : Row W g t #[v]) : W.setCell ⟨g, 0, none⟩ v = W := by
 have h1 := h.set 0 v
 have o1 := only_set W g 0 v
 rw [show (#[v] : Array Value).setIfInBounds 0 v = #[v] by simp] at h1
 have hh : (W.setCell ⟨g, 0, none⟩ v).heap = W.heap := by
  apply Array.ext_getElem?
  intro k
  by_cases hk : k = g
  · subst hk; rw [show (W.setCell ⟨k, 0, none⟩ v).heap[k]? = _ from h1, show W.heap[k]? = _ from h]
  · exact o1.block k hk
 have he : W.setCell ⟨g, 0, none⟩ v = { W with heap := (W.setCell ⟨g, 0, none⟩ v).heap } := rfl
 rw [he, hh]
structure LsX where
 op : Int
 A : Option Addr
 cap : Nat
 l : List Int
def LsX.f (x : LsX) : Int × List Int := (x.op, x.l)
def LsX.enc (x : LsX) : Array Value := #[.int .i64 x.op, .slice x.A x.l.length x.cap]
structure LsX.ok (x : LsX) (W : World) : Prop where
 rd : Rd W x.A (ints x.l)
 nil : x.A = none → x.l = []
 ty : IntB W x.A
def LsP (full : List (Int × List Int)) (pre : List LsX) (x : LsX) (W : World) : Prop := x.ok W ∧ ∃ rest, pre.map LsX.f ++ x.f :: rest = full
def listsZ (x y : Nd) : List (Int × List Int) :=
 (if 7 ≤ x.tag ∧ x.tag ≤ 11 then [(1, rowZ 7 11 x.tag)] else if 12 ≤ x.tag ∧ x.tag ≤ 17 then [(2, rowZ 12 17 x.tag)] else if x.tag = 18 ∨ x.tag = 19 then [(3, rowZ 18 19 x.tag)]
  else if x.tag = 1 then [(4, onceZ x.n [0, 1, -1, wrap64 (x.n + 1), wrap64 (x.n - 1)])] else if x.tag = 2 then [(4, [wrap64 (1 - x.n)])] else [])
 ++ (if x.tag = 21 ∨ x.tag = 22 ∨ x.tag = 23 ∨ x.tag = 24 ∨ x.tag = 25 then [(5, [0])] else [])
 ++ (if x.tag = 23 ∨ x.tag = 24 then [(6, [0])] else if x.tag = 25 then [(7, answersZ y)] else [])
structure TellC (lb mo yb : Nat) (Z : Nat → Obj → Prop) (W : World) : Prop where
 rm : Row W mo 4 #[.bool true]
 ry : Row W yb 278 #[.func (.yield lb) #[] #[]]
 zm : ∀ cs fr, ¬ Z mo (.cells cs 4 fr)
 zy : ∀ cs fr, ¬ Z yb (.cells cs 278 fr)
theorem TellC.kg {lb mo yb : Nat} {Z : Nat → Obj → Prop} {W W' : World} (h : TellC lb mo yb Z W) (k : KpG Z W W') : TellC lb mo yb Z W' := ⟨k.row h.rm (h.zm _ _), k.row h.ry (h.zy _ _), h.zm, h.zy⟩
set_option maxRecDepth 100000 in
set_option maxHeartbeats 4000000 in
theorem tell_in (lb mo yb : Nat) (Z : Nat → Obj → Prop) (W : World) (x : LsX) (R : World → Prop) (hC : TellC lb mo yb Z W)
 (hY : YieldAt Fence.wide 0 Tryz.prog lb x.enc W fun e W' => e = .returned (.bool true) ∧ R W' ∧ KpG Z W W') :
 CallsIn Fence.wide 0 Tryz.prog 227 #[.int .i64 x.op, .slice x.A x.l.length x.cap, .pointer (some ⟨mo, 0, none⟩), .pointer (some ⟨yb, 0, none⟩)] W fun e W' => (∃ v, e = .returned v) ∧ R W' ∧ KpG Z W W' := by
 have HC := Lib.hid hC
 obtain ⟨fn, tmps, assign, body, hy, hR⟩ := hY
 have hy' : (Instr.yield lb #[.int .i64 x.op, .slice x.A x.l.length x.cap]).run Tryz.prog W = .ok (.round lb fn tmps assign body) W := hy
 have HR := Lib.hid hR
 clear hy hR hC
 have cm := HC.out.rm.cellv (i := 0) (v := .bool true) rfl
 have cy := HC.out.ry.cellv (i := 0) (v := .func (.yield lb) #[] #[]) rfl
 refine callsIn_of_wp Tryz.func227 rfl trivial ?_ rfl
 simp only [Tryz.ntmps227, List.size_toArray, List.length_cons, List.length_nil, Nat.reduceAdd, Nat.reduceSub, Array.replicate_succ, Array.replicate_zero, List.push_toArray, List.append_toArray, List.nil_append, List.cons_append]
 gi_wp2_with fail
 refine ⟨rfl, HR.out.mono ?_⟩
 clear hy' HR cm cy
 rintro e W2 ⟨rfl, hr, hk⟩
 have hC2 := HC.out.kg hk
 have cm2 := hC2.rm.cellv (i := 0) (v := .bool true) rfl
 have fm2 := hC2.rm.free 0
 have Hs := Lib.hid (setCell_same hC2.rm)
 have HF : Hid (R W2 ∧ KpG Z W W2) := ⟨hr, hk⟩
 clear hr hk hC2
 gi_wp2_with fail
 rw [Hs.out]
 go_end0
 exact ⟨⟨_, rfl⟩, HF.out⟩
structure ListsC (A : Option Addr) (cap n bl Rb : Nat) (x : Nd) (ys : List Nd) (Z : Nat → Obj → Prop) (w : World) : Prop where
 rl : Row w bl 23 #[.slice A n cap]
 hr : Rd w A ((x :: ys).flatMap Nd.cells)
 hn : n = (x :: ys).length
 z1 : ∀ k o, k < w.heap.size → k ≠ Rb → ¬ Z k o
 bn : bl ≠ Rb
 an : ∀ ad, A = some ad → ad.block ≠ Rb
 z2 : ∀ k cs t fr, w.heap.size ≤ k → (t = 278 ∨ t = 74 ∨ t = 4 ∨ t = 3) → ¬ Z k (.cells cs t fr)
 h25 : x.tag = 25 → ys ≠ []
end Go.Proofs.YtcgglolckkeeiaaGreat
