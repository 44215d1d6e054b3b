/- Lemmas for VerdictMoreP. -/
import Derived.Test.YtdcmppdhdcjpfaaGreatZr1
import Derived.Test.YtdcmppdhdcjpfaaGreatZr2
import Derived.Test.YtdcmppdhdcjpfaaGreatRows
import Derived.ScopeJumps
import Derived.WalkMore
import Derived.Maps.OwnIn
import Derived.Deep.LoopGhost
import Derived.Maps.AppendAt
set_option linter.unusedVariables false
set_option linter.unusedSimpArgs false
set_option maxRecDepth 100000
set_option maxHeartbeats 16000000
namespace Go.Proofs.YtdcmppdhdcjpfaaGreat
open Go.RowKit Go.Deep
def Nd.cells (x : Nd) : List Value := [.int .i64 x.tag, .int .i64 x.n]
theorem QK {k : IntKind} {a b : Int} (h : b = a) : Ending.returned (.int k a) = .returned (.int k b) := by rw [h]
theorem Z9 {a b : Bool} (h : b = a) : Ending.returned (.bool a) = .returned (.bool b) := by rw [h]
theorem bp2 {r1 r2 a b : Int} (h : (a, b) = (r1, r2)) : Ending.returned (.tuple #[.int .i64 r1, .int .i64 r2]) = .returned (.tuple #[.int .i64 a, .int .i64 b]) := by cases h; rfl
theorem Adw (x : Nd) (w : World) : Calls Tryz.prog 207 #[.agg x.cells.toArray] w fun e w' => e = .returned (.tuple #[.int .i64 (Q2 x).1, .int .i64 (Q2 x).2]) ∧ Below w.heap.size w w' := by
 obtain ⟨t, n⟩ := x
 rw [show (Nd.cells ⟨t, n⟩).toArray = #[.int .i64 t, .int .i64 n] from rfl]
 go_enter Tryz.func207, Tryz.ntmps207
 go_wp2_with (refine Qp _ _ rfl ?_)
 refine Stop.to ?_
 refine Qf rfl 85 _ rfl #[.int .i64 t, .int .i64 n] rfl ?_
 intro G w1 hG r1 b1
 have b1 := (Below.refl w.heap.size w).trans (b1.mono hG)
 have c0 := r1.cellv (i := 0) (v := .int .i64 t) rfl
 have c1 := r1.cellv (i := 1) (v := .int .i64 n) rfl
 clear r1 hG
 go_wp2
 all_goals (try (go_quiet (fail); go_wp2))
 all_goals (go_ret2; refine ⟨bp2 ?_, (by first | exact b1 | exact ZK b1 _)⟩; clear c0 c1 b1; simp only [beq_iff_eq, beq_eq_false_iff_ne] at *; unfold Q2; dsimp only; first | (subst_vars; rfl) | (repeat (first | rw [if_pos (by omega)] | rw [if_neg (by omega)])))
theorem Xc (x : Nd) (w : World) : Calls Tryz.prog 126 #[.agg x.cells.toArray] w fun e w' => e = .returned (.int .i64 (Qv x)) ∧ Below w.heap.size w w' := by
 obtain ⟨t, n⟩ := x
 obtain ⟨m, hm⟩ : ∃ m, m = Q2 ⟨t, n⟩ := ⟨_, rfl⟩
 have Hm := Lh hm
 have ha : t ≠ 1 → Qv ⟨t, n⟩ = if n < 0 ∨ m.1 < n then -1 else m.2 := fun h => by rw [Qv, if_neg h, hm]
 have Ha := Lh ha
 have h1 : Hid (t = 1 → Qv ⟨t, n⟩ = 0) := by show t = 1 → _; rintro rfl; rfl
 clear hm ha
 rw [show (Nd.cells ⟨t, n⟩).toArray = #[.int .i64 t, .int .i64 n] from rfl]
 go_enter Tryz.func126, Tryz.ntmps126
 go_wp2_with (refine Qp _ _ rfl ?_)
 refine Stop.to ?_
 refine Qf rfl 85 _ rfl #[.int .i64 t, .int .i64 n] rfl ?_
 intro G w1 hG r1 b1
 have b1 := (Below.refl w.heap.size w).trans (b1.mono hG)
 have c0 := r1.cellv (i := 0) (v := .int .i64 t) rfl
 have c1 := r1.cellv (i := 1) (v := .int .i64 n) rfl
 clear hG
 by_cases ht : t = 1
 · have ht' : (t == 1) = true := by simpa using ht
   go_wp2
   go_ret
   exact ⟨QK (h1.out ht), b1⟩
 · have ht' : (t == 1) = false := by simpa using ht
   have Ht := Lh ht
   clear ht
   go_wp2_with (refine wpList_load_row rfl 85 _ rfl G rfl 85 #[.int .i64 t, .int .i64 n] (0, 0) _ r1 Tryz.underlying85 rfl (by kernel_rfl) ?_)
   refine (Adw ⟨t, n⟩ w1).mono ?_
   rintro e w2 ⟨rfl, b2⟩
   rw [← Hm.out]
   have r2 := r1.below b2 r1.lt
   have b2 := b1.trans (b2.mono b1.size)
   have c0 := r2.cellv (i := 0) (v := .int .i64 t) rfl
   have c1 := r2.cellv (i := 1) (v := .int .i64 n) rfl
   clear r1 b1 r2
   by_cases h0 : n < 0
   · go_wp2
     go_ret
     exact ⟨QK (by rw [Ha.out Ht.out, if_pos (.inl h0)]), b2⟩
   · have h0' : 0 ≤ n := by omega
     by_cases h2 : m.1 < n
     · go_wp2
       go_ret
       exact ⟨QK (by rw [Ha.out Ht.out, if_pos (.inr h2)]), b2⟩
     · have h2' : n ≤ m.1 := by omega
       go_wp2
       go_ret
       exact ⟨QK (by rw [Ha.out Ht.out, if_neg (by omega)]), b2⟩
theorem VC : ∀ (l : List Nd) (k : Nat) (x : Nd), l[k]? = some x → ∀ j u, x.cells[j]? = some u → (l.flatMap Nd.cells)[k * 2 + j]? = some u
 | [], k, x, h, _, _, _ => by simp at h
 | a :: l, 0, x, h, j, u, hj => by
  simp at h; subst h
  have hl : j < a.cells.length := (List.getElem?_eq_some_iff.1 hj).1
  simp only [List.flatMap_cons]
  rw [List.getElem?_append_left (by omega)]
  simpa using hj
 | a :: l, k + 1, x, h, j, u, hj => by
  simp only [List.flatMap_cons]
  rw [List.getElem?_append_right (by simp [Nd.cells]; omega)]
  have := VC l k x (by simpa using h) j u hj
  rw [← this]; congr 1; simp [Nd.cells]; omega
theorem Jq {w : World} {A : Option Addr} {l : List Nd} (hr : Rd w A (l.flatMap Nd.cells)) {k : Nat} {x : Nd} (hx : l[k]? = some x) : ∃ ad, A = some ad ∧ ∀ j u, x.cells[j]? = some u → w.cell? ((ad.add (k * 2)).add j) = some u :=
 hr.part (k * 2) x.cells (VC l k x hx) (by simp [Nd.cells])
theorem EZ {l : List Nd} {k : Nat} {x : Nd} (hx : l[k]? = some x) (m : Nat) : Jm (l.drop k) (m + 1) = if Qv x < 0 then none else (Jm (l.drop (k + 1)) (m + (Qv x).toNat)).map (· + 1) := by
 have hk : k < l.length := (List.getElem?_eq_some_iff.1 hx).1
 rw [List.drop_eq_getElem_cons hk, show l[k] = x by rw [List.getElem?_eq_getElem hk] at hx; injection hx]
 rfl
theorem XJ (l : List Nd) (p : Nat) : endZ l (p : Int) = match Jm (l.drop p) 1 with | none => -1 | some c => (p : Int) + c := by
 unfold endZ; rw [if_neg (by omega), Int.toNat_natCast]; rfl
theorem E1 {l d : List Nd} {p c : Nat} (h : Jm (l.drop p) 1 = (Jm d 0).map (· + c)) : endZ l (p : Int) = (p : Int) + (c : Int) := by
 rw [XJ, h]
 have : Jm d 0 = some 0 := by simp [Jm]
 rw [this]
 simp
theorem UA (o : Option Nat) (a b : Nat) : (o.map (· + a)).map (· + b) = o.map (· + (b + a)) := by
 cases o <;> simp; omega
theorem JH (A : Option Addr) (cap : Nat) (l : List Nd) (at_ : Int) (w : World) (hr : Rd w A (l.flatMap Nd.cells)) (hl : l.length ≤ 1000) :
 Calls Tryz.prog 65 #[.slice A l.length cap, .int .i64 at_] w fun e w' => e = .returned (.int .i64 (endZ l at_)) ∧ Below w.heap.size w w' := by
 have Hr := Lh hr
 have Hl := Lh hl
 have sz0 : Below w.heap.size w w := Below.refl _ _
 clear hr hl
 by_cases h0 : at_ < 0
 · have hz := Lh (AfV (l := l) h0)
   go_enter Tryz.func65, Tryz.ntmps65
   go_wp2
   go_step3
   go_wp2
   rw [Exit.noGoto_ret]
   go_ret
   exact ⟨QK hz.out, sz0⟩
 · obtain ⟨p, rfl⟩ : ∃ p : Nat, at_ = (p : Int) := ⟨at_.toNat, by omega⟩
   go_enter Tryz.func65, Tryz.ntmps65
   go_wp2
   refine wp_scope_jumps 0 (fun a' w' => Below w.heap.size w w' ∧ ∃ (k m : Nat) (u7 u8 u9 u10 u11 u12 u13 u14 u15 u16 u17 u18 u19 u20 u21 u22 u23 u24 u25 u26 u27 u28 u29 u30 : Value), a' = { tmps := #[.slice A l.length cap, .int .i64 (p : Int), undef, undef, .int .i64 0, .int .i64 (k : Int), .int .i64 (m : Int), u7, u8, u9, u10, u11, u12, u13, u14, u15, u16, u17, u18, u19, u20, u21, u22, u23, u24, u25, u26, u27, u28, u29, u30], defers := [] } ∧ p ≤ k ∧ k ≤ l.length ∧ 0 < m ∧ m ≤ 1 + 200 * k ∧ Jm (l.drop p) 1 = (Jm (l.drop k) m).map (· + (k - p))) (fun a' _ => l.length - (intOf (a'.tmps.getD 5 undef)).toNat) rfl ?_ ?_
   · go_wp2
     go_step3
     have bw := Below.refl w.heap.size w
     have hl := Hl.out
     have He := Lh (show Jm (l.drop p) 1 = (Jm (l.drop p) 1).map (· + (p - p)) by simp)
     by_cases hlt : p < l.length
     · obtain ⟨x, hx⟩ : ∃ x, l[p]? = some x := ⟨_, List.getElem?_eq_getElem hlt⟩
       have hs := Lh (EZ hx (1 - 1))
       obtain ⟨ad, had, hc⟩ := Jq (Hr.out.go bw) hx
       have Hc := Lh hc
       have hb := Ku x
       have Hx := Lh hx
       have hltI : (p : Int) < (l.length : Int) := by omega
       clear hx hc hlt
       subst had
       go_wp2_with (refine QH rfl 85 _ rfl (ad.add (p * 2)) rfl x.cells _ Hc.out Tryz.underlying85 rfl (by kernel_rfl) ?_)
       refine (Xc x w).mono ?_
       rintro e w2 ⟨rfl, b2⟩
       have bw2 := bw.trans (b2.mono bw.size)
       by_cases hn : Qv x < 0
       · go_wp2
         simp only [Exit.jump]
         go_ret
         refine ⟨QK ?_, bw2⟩
         rw [XJ, He.out, show 1 = 1 - 1 + 1 by omega, hs.out, if_pos hn]; rfl
       · obtain ⟨q, hq⟩ : ∃ q : Nat, Qv x = (q : Int) := ⟨(Qv x).toNat, by omega⟩
         have Hq := Lh hq
         rw [hq] at hb
         rw [hq]
         have hn' : 0 ≤ (q : Int) := by omega
         clear hn hq
         have e0 : Jm (l.drop p) 1 = (Jm (l.drop (p + 1)) (1 - 1 + q)).map (· + (p + 1 - p)) := by
          rw [He.out, show 1 = 1 - 1 + 1 by omega, hs.out, Hq.out, if_neg (by omega), UA, Int.toNat_natCast]
          congr 1; funext c; omega
         have E0 := Lh e0
         clear e0 He hs
         by_cases hz : 1 - 1 + q = 0
         · obtain rfl : q = 0 := by omega
           go_wp2
           simp only [Exit.jump]
           go_ret
           refine ⟨QK ?_, bw2⟩
           rw [E1 E0.out]; omega
         · have hz2 : 0 < (1 : Int) + ((q : Int) - 1) := by omega
           go_wp2
           go_step3
           have e1 : ((p + 1 : Nat) : Int) = (p : Int) + 1 := by omega
           have e2 : ((1 - 1 + q : Nat) : Int) = (1 : Int) + ((q : Int) - 1) := by omega
           refine ⟨rfl, ⟨bw2, p + 1, 1 - 1 + q, _, _, _, _, _, _, _, _, _, _, _, _, _, _, _, _, _, _, _, _, _, _, _, _, by rw [e1, e2], by omega, by omega, by omega, by omega, E0.out⟩⟩
     · have hge : (l.length : Int) ≤ (p : Int) := by omega
       go_wp2
       simp only [Exit.jump]
       go_ret
       refine ⟨QK ?_, bw⟩
       rw [XJ, List.drop_eq_nil_of_le (by omega)]; rfl
   · rintro a' w' ⟨bw, k, m, u7, u8, u9, u10, u11, u12, u13, u14, u15, u16, u17, u18, u19, u20, u21, u22, u23, u24, u25, u26, u27, u28, u29, u30, rfl, hpk, hkl, hm0, hm, he⟩
     have He := Lh he
     have hl := Hl.out
     clear he
     by_cases hlt : k < l.length
     · obtain ⟨x, hx⟩ : ∃ x, l[k]? = some x := ⟨_, List.getElem?_eq_getElem hlt⟩
       have hs := Lh (EZ hx (m - 1))
       obtain ⟨ad, had, hc⟩ := Jq (Hr.out.go bw) hx
       have Hc := Lh hc
       have hb := Ku x
       have Hx := Lh hx
       have hltI : (k : Int) < (l.length : Int) := by omega
       clear hx hc hlt
       subst had
       go_wp2_with (refine QH rfl 85 _ rfl (ad.add (k * 2)) rfl x.cells _ Hc.out Tryz.underlying85 rfl (by kernel_rfl) ?_)
       refine (Xc x w').mono ?_
       rintro e w2 ⟨rfl, b2⟩
       have bw2 := bw.trans (b2.mono bw.size)
       by_cases hn : Qv x < 0
       · go_wp2
         simp only [Exit.jump]
         go_ret
         refine ⟨QK ?_, bw2⟩
         rw [XJ, He.out, show m = m - 1 + 1 by omega, hs.out, if_pos hn]; rfl
       · obtain ⟨q, hq⟩ : ∃ q : Nat, Qv x = (q : Int) := ⟨(Qv x).toNat, by omega⟩
         have Hq := Lh hq
         rw [hq] at hb
         rw [hq]
         have hn' : 0 ≤ (q : Int) := by omega
         clear hn hq
         have e0 : Jm (l.drop p) 1 = (Jm (l.drop (k + 1)) (m - 1 + q)).map (· + (k + 1 - p)) := by
          rw [He.out, show m = m - 1 + 1 by omega, hs.out, Hq.out, if_neg (by omega), UA, Int.toNat_natCast]
          congr 1; funext c; omega
         have E0 := Lh e0
         clear e0 He hs
         by_cases hz : m - 1 + q = 0
         · obtain rfl : q = 0 := by omega
           obtain rfl : m = 1 := by omega
           go_wp2
           simp only [Exit.jump]
           go_ret
           refine ⟨QK ?_, bw2⟩
           rw [E1 E0.out]; omega
         · have hz2 : 0 < (m : Int) + ((q : Int) - 1) := by omega
           go_wp2
           go_step3
           have e1 : ((k + 1 : Nat) : Int) = (k : Int) + 1 := by omega
           have e2 : ((m - 1 + q : Nat) : Int) = (m : Int) + ((q : Int) - 1) := by omega
           refine ⟨rfl, ⟨bw2, k + 1, m - 1 + q, _, _, _, _, _, _, _, _, _, _, _, _, _, _, _, _, _, _, _, _, _, _, _, _, by rw [e1, e2], by omega, by omega, by omega, by omega, E0.out⟩, by simp [intOf]; omega⟩
     · have hge : (l.length : Int) ≤ (k : Int) := by omega
       obtain rfl : k = l.length := by omega
       go_wp2
       simp only [Exit.jump]
       go_ret
       refine ⟨QK ?_, bw⟩
       rw [XJ, He.out, show m = m - 1 + 1 by omega, List.drop_length]; rfl
attribute [local go_sem] Oper.semAt_some
structure Keeps (lim G : Nat) (A B : World) : Prop where
 block : ∀ k, k < lim → k ≠ G → B.heap[k]? = A.heap[k]?
 size : A.heap.size ≤ B.heap.size
theorem Keeps.trans {lim G : Nat} {A B C : World} (h : Keeps lim G A B) (k : Keeps lim G B C) : Keeps lim G A C := ⟨fun i hi hg => (k.block i hi hg).trans (h.block i hi hg), Nat.le_trans h.size k.size⟩
theorem Keeps.row {lim G g : Nat} {A B : World} {t : TypeId} {cs : Array Value} (h : Keeps lim G A B) (hr : Row A g t cs) (h1 : g < lim) (h2 : g ≠ G) : Row B g t cs := (h.block g h1 h2).trans hr
theorem Rd.keeps {w0 A B : World} {lim G : Nat} {ad : Option Addr} {xs : List Value} (h0 : Rd w0 ad xs) (hl : w0.heap.size ≤ lim) (hG : w0.heap.size ≤ G) (h : Rd A ad xs) (k : Keeps lim G A B) : Rd B ad xs := fun j u hj => by
 obtain ⟨a, e, hc⟩ := h j u hj
 obtain ⟨a', e', hc'⟩ := h0 j u hj
 obtain rfl : a = a' := by rw [e] at e'; injection e'
 have hb := World.block_lt_of_cell? _ _ hc'
 refine ⟨a, e, ?_⟩
 rw [← hc]
 have := k.block (a.add j).block (by omega) (by omega)
 simp only [World.cell?, this]
theorem QB {β : Type} {own : Nat → Prop} {B : Nat} {J : β → World → Prop} (h : UY own B J) {s : β} {W W' : World} (hj : J s W) (b : Below W.heap.size W W') : J s W' :=
 h s W W' none hj ⟨b.os, b.tape, b.output, b.size, fun k hk _ => b.block k hk⟩ (fun r e => by cases e)
theorem Yo {l : List Nd} : ∀ (n : Nat) (k : Int), (Zm l n k).length = n
 | 0, _ => rfl
 | n + 1, k => by simp [Zm, Yo n]
theorem Adt (bl ba lim G : Nat) (A : Option Addr) (cap : Nat) (l : List Nd) (p : Nat) (x : Nd) (w0 w : World) (hr0 : Rd w0 A (l.flatMap Nd.cells)) (hr : Rd w A (l.flatMap Nd.cells)) (hl : l.length ≤ 1000) (hx : l[p]? = some x)
 (h1 : Row w bl 23 #[.slice A l.length cap]) (h2 : Row w ba 3 #[.int .i64 (p : Int)]) (g1 : bl < lim) (g2 : ba < lim) (g3 : bl ≠ G) (g4 : ba ≠ G) (g5 : w0.heap.size ≤ lim) (g6 : w0.heap.size ≤ G) (g7 : lim ≤ w.heap.size) :
 Abr Tryz.prog 250 #[.pointer (some ⟨ba, 0, none⟩), .pointer (some ⟨bl, 0, none⟩)] (fun k : Int => #[.int .i64 k]) (fun _ => False) (Keeps lim G) (fun xs => xs = Zm l (Qv x).toNat (p + 1)) (fun _ => True) ((Qv x).toNat + 1) w := by
 intro lb J Jx W _ hwW hJ hJx hY h0
 refine callsIn_of_wp Tryz.func250 rfl trivial ?_ rfl
 simp only [Tryz.ntmps250, List.size_toArray, List.length_cons, List.length_nil, Nat.reduceAdd, Nat.reduceSub, Array.replicate_succ, Array.replicate_zero, List.push_toArray, List.append_toArray, List.nil_append, List.cons_append]
 have hbw : Below w.heap.size w W := ⟨hwW.os, hwW.tape, hwW.output, hwW.size, fun k hk => hwW.block k hk (by simp)⟩
 have r1 := h1.below hbw h1.lt
 have r2 := h2.below hbw h2.lt
 have hd := hr.go hbw
 have hp : p < l.length := (List.getElem?_eq_some_iff.1 hx).1
 obtain ⟨ad, had, hc⟩ := Jq hd hx
 have Hc := Lh hc
 have Hr0 := Lh hr0
 have Hd := Lh hd
 have HJ := Lh hJ
 have HY := Lh hY
 have hpI : (p : Int) < (l.length : Int) := by omega
 have hb := Ku x
 have sz : lim ≤ W.heap.size := Nat.le_trans g7 hbw.size
 clear hc hr hwW h1 h2 hbw hx hJ hJx hY g7 hr0 hp hd
 subst had
 have c1 := r1.cellv (i := 0) (v := .slice (some ad) l.length cap) rfl
 have c2 := r2.cellv (i := 0) (v := .int .i64 (p : Int)) rfl
 gi_wp2_with (refine ZT rfl 85 _ rfl (ad.add (p * 2)) rfl x.cells _ Hc.out Tryz.underlying85 rfl (by kernel_rfl) ?_)
 refine ⟨trivial, rfl, (callsIn_wide.2 (Xc x W)).mono ?_⟩
 rintro e w2 ⟨rfl, b2⟩
 have r1 := r1.below b2 r1.lt
 have r2 := r2.below b2 r2.lt
 have hd2 := Hd.out.go b2
 have h0 := QB HJ.out h0 b2
 have sz := Nat.le_trans sz b2.size
 clear b2 c1 c2 Hc Hd
 by_cases hneg : Qv x < 0
 · have hn0 : (Qv x).toNat = 0 := by omega
   have Hn0 := Lh hn0
   clear hn0
   gi_wp2
   gi_loopw [4, 12] (fun _ i wr => i = .int .i64 0 ∧ J [] wr) (fun _ _ _ => 0)
   case atStart => exact ⟨rfl, h0⟩
   case round =>
    obtain ⟨rfl, hj⟩ := hrel
    have hneg' : Qv x ≤ 0 := by omega
    gi_wp2
    go_end0
    exact ⟨⟨_, rfl⟩, .inl ⟨_, by rw [Hn0.out]; rfl, hj⟩⟩
 obtain ⟨n, hn⟩ : ∃ n : Nat, Qv x = (n : Int) := ⟨(Qv x).toNat, by omega⟩
 rw [hn] at hb ⊢
 have Hn : Hid ((Qv x).toNat = n) := by show _ = n; omega
 clear hn hneg
 gi_wp2
 gi_loopw [4, 12] (fun kk i wr => ∃ (j : Nat) (k : Int) (pre : List Int), i = .int .i64 (j : Int) ∧ kk = .int .i64 k ∧ j ≤ n ∧ pre ++ Zm l (n - j) k = Zm l n (p + 1) ∧ Keeps lim G w2 wr ∧ J pre wr) (fun _ i _ => n - (intOf i).toNat)
 case atStart => exact ⟨0, _, [], by simp, rfl, Nat.zero_le _, by simp, ⟨fun _ _ _ => rfl, Nat.le_refl _⟩, h0⟩
 case round =>
  obtain ⟨j, k, pre, rfl, rfl, hjn, hpre, hkp, hj⟩ := hrel
  have hlen : pre.length = j := by
   have := congrArg List.length hpre
   rw [List.length_append, Yo, Yo] at this; omega
  have Hpre := Lh hpre
  have Hlen := Lh hlen
  have r1' := hkp.row r1 g1 g3
  clear hpre hlen h0
  by_cases hjlt : j < n
  · obtain ⟨fn, tmps, assign, body, hy, hR⟩ := HY.out _ k _ hj (by have := Hlen.out; have := Hn.out; omega)
    have HR := Lh hR
    clear hR hj
    gi_wp2
    refine ⟨rfl, HR.out.mono ?_⟩
    rintro e W' (⟨rfl, hj, hk⟩ | ⟨rfl, hjx⟩)
    rotate_left
    · clear hy
      gi_wp2
      refine bodyPost_ret (results_none rfl _ _ _) rfl ?_
      exact ⟨⟨_, rfl⟩, .inr ⟨_, trivial, hjx⟩⟩
    have hkp := hkp.trans hk
    have r1'' := hkp.row r1 g1 g3
    have c1 := r1''.cellv (i := 0) (v := .slice (some ad) l.length cap) rfl
    have hdW : Rd W' (some ad) (l.flatMap Nd.cells) := Hr0.out.keeps g5 g6 hd2 hkp
    have HdW := Lh hdW
    clear hy r1' hdW
    gi_wp2
    refine ⟨trivial, rfl, (callsIn_wide.2 (JH (some ad) cap l k W' HdW.out hl)).mono ?_⟩
    rintro e w3 ⟨rfl, b3⟩
    have hj := QB HJ.out hj b3
    have hkp := hkp.trans (⟨fun i hi _ => b3.block i (by have := hk.size; have := hkp.size; omega), b3.size⟩ : Keeps lim G W' w3)
    clear b3 c1
    gi_wp2
    go_roundw
    case rel =>
     refine ⟨j + 1, _, _, by go_num, rfl, by omega, ?_, hkp, hj⟩
     rw [← Hpre.out, show n - j = (n - (j + 1)) + 1 by omega, Zm]; simp
    case measure => simp [intOf]; omega
  · obtain rfl : j = n := by omega
    gi_wp2
    go_end0
    refine ⟨⟨_, rfl⟩, .inl ⟨_, ?_, hj⟩⟩
    have := Hpre.out
    rw [Nat.sub_self] at this
    rw [Hn.out, ← this]; simp [Zm]
end Go.Proofs.YtdcmppdhdcjpfaaGreat
namespace Go.Proofs.YtdcmppdhdcjpfaaGreat
open Go.RowKit Go.Deep
attribute [local go_sem] Oper.semAt_some
theorem Jn : (Tryz.prog.info? 3).map (fun i => (i.zero, i.size, i.bytes)) = some (some (.int .i64 0), 1, 8) := by kernel_rfl
def Qi (l : List Int) : List Value := l.map (Value.int .i64)
theorem Kk (l : List Int) : (Qi l).length = l.length := by simp [Qi]
theorem Kj (a b : List Int) : Qi (a ++ b) = Qi a ++ Qi b := by simp [Qi]
theorem Jo (l : List Int) : ∀ u ∈ Qi l, u.oneCell' = true := by
 intro u hu
 simp only [Qi, List.mem_map] at hu
 obtain ⟨x, _, rfl⟩ := hu; rfl
theorem QN {w : World} {base size n g : Nat} {e : TypeId} {v : Value} {xs : List Value} (h : w.ownsRow base e size v n xs) (hv : v.ownBlock = some g) : base ≤ g := by
 rcases h.2 with ⟨rfl, _⟩ | ⟨g', cap, cur, rfl, hb, _⟩
 · simp [Value.ownBlock] at hv
 · simp [Value.ownBlock] at hv; omega
theorem QI {w : World} {base base' size n : Nat} {e : TypeId} {v : Value} {xs : List Value} (h : w.ownsRow base e size v n xs) (hb : base' ≤ base) : w.ownsRow base' e size v n xs := by
 refine ⟨h.1, ?_⟩
 rcases h.2 with h' | ⟨g', cap, cur, rfl, h1, h2⟩
 · exact .inl h'
 · exact .inr ⟨g', cap, cur, rfl, Nat.le_trans hb h1, h2⟩
structure KidsFn (A : Option Addr) (cap : Nat) (l : List Nd) (p : Int) (w w' : World) (e : Ending) : Prop where
 ex : ∃ bl ba, e = .returned (.func (.func 250) #[] #[.pointer (some ⟨ba, 0, none⟩), .pointer (some ⟨bl, 0, none⟩)]) ∧ Row w' bl 23 #[.slice A l.length cap] ∧ Row w' ba 3 #[.int .i64 p] ∧ w.heap.size ≤ bl ∧ w.heap.size ≤ ba ∧ Below w.heap.size w w'
theorem Vv (A : Option Addr) (cap : Nat) (l : List Nd) (p : Int) (w : World) : Calls Tryz.prog 206 #[.slice A l.length cap, .int .i64 p] w fun e w' => KidsFn A cap l p w w' e := by
 go_enter Tryz.func206, Tryz.ntmps206
 go_wp2_with (refine Qp _ _ rfl ?_)
 refine Stop.to ?_
 refine Qf rfl 23 _ rfl #[.slice A l.length cap] rfl ?_
 intro bl w1 hbl r1 b1
 go_wp2_with (refine Qp _ _ rfl ?_)
 refine Stop.to ?_
 refine Qf rfl 3 _ rfl #[.int .i64 p] rfl ?_
 intro ba w2 hba r2 b2
 have r1' := r1.below b2 (Nat.lt_of_lt_of_le r1.lt hba)
 have b2' := ((Below.refl w.heap.size w).trans (b1.mono hbl)).trans ((b2.mono hba).mono b1.size |>.mono (by have := b1.size; omega))
 have la : w.heap.size ≤ ba := by have := b1.size; omega
 clear r1 b1 b2 hba
 go_wp2
 go_ret
 exact ⟨bl, ba, rfl, r1', r2, hbl, la, b2'⟩
structure IntsR (xs : List Int) (w w' : World) (e : Ending) : Prop where
 ex : ∃ v, e = .returned v ∧ w'.ownsRow w.heap.size 3 1 v xs.length (Qi xs) ∧ Below w.heap.size w w'
theorem XN (A : Option Addr) (cap : Nat) (l : List Nd) (at_ : Int) (w : World) (hr : Rd w A (l.flatMap Nd.cells)) (hl : l.length ≤ 1000) :
 Calls Tryz.prog 121 #[.slice A l.length cap, .int .i64 at_] w fun e w' => IntsR (kidsZ l at_) w w' e := by
 obtain ⟨i0, hi0, hz0, hz1, hz2⟩ := info_parts Jn
 have He := JH A cap l at_ w hr hl
 have Hr := Lh hr
 have Hl := Lh hl
 clear hr hl
 by_cases hneg : endZ l at_ < 0
 · have Hk : Hid (kidsZ l at_ = []) := by show _ = _; unfold kidsZ; rw [if_pos hneg]
   go_enter Tryz.func121, Tryz.ntmps121
   go_wp2_with fail
   refine He.mono ?_
   rintro e w1 ⟨rfl, b1⟩
   clear He
   go_wp2
   go_ret
   exact ⟨_, rfl, by rw [Hk.out]; exact World.ownsRow_nil _ _ _ _, b1⟩
 obtain ⟨t, hat, hp0⟩ := Yd (by omega : 0 ≤ endZ l at_)
 obtain ⟨p, rfl⟩ : ∃ p : Nat, at_ = (p : Int) := ⟨at_.toNat, by omega⟩
 rw [Int.toNat_natCast] at hat
 have Hx := Lh hat.root
 have Hk : Hid (kidsZ l (p : Int) = Zm l (Qv t.root).toNat (p + 1)) := by
  show _ = _; unfold kidsZ; rw [if_neg hneg, Int.toNat_natCast, hat.root]; rfl
 have hneg' : 0 ≤ endZ l (p : Int) := by omega
 have hdec : decide (endZ l (p : Int) < 0) = false := by simp; omega
 have hb := Ku t.root
 clear hat hp0 hneg
 refine (callsIn_wide (n := 0)).1 ?_
 refine callsIn_of_wp_marks Tryz.func121 rfl trivial ?_
 simp only [Tryz.ntmps121, List.size_toArray, List.length_cons, List.length_nil, Nat.reduceAdd, Nat.reduceSub, Array.replicate_succ, Array.replicate_zero, List.push_toArray, List.append_toArray, List.nil_append, List.cons_append]
 gi_wp2_with fail
 refine ⟨trivial, rfl, (callsIn_wide.2 He).mono ?_⟩
 rintro e w1 ⟨rfl, b1⟩
 clear He
 have Hr1 : Hid (Rd w1 A (l.flatMap Nd.cells)) := Hr.out.go b1
 gi_wp2_with fail
 have rg := Row.new w1 22 #[.slice none 0 0]
 have b2 := b1.alloc b1.size (.cells #[.slice none 0 0] 22)
 have Hr2 : Hid (Rd (w1.alloc (.cells #[.slice none 0 0] 22)) A (l.flatMap Nd.cells)) := St.alloc (S := fun W => Rd W A (l.flatMap Nd.cells)) Hr1.out _
 have lg : w1.heap.size < (w1.alloc (.cells #[.slice none 0 0] 22)).heap.size := rg.lt
 have gG : w.heap.size ≤ w1.heap.size := b1.size
 generalize w1.alloc (.cells #[.slice none 0 0] 22) = w2 at rg b2 lg Hr2 ⊢
 generalize w1.heap.size = G at rg lg gG ⊢
 clear b1 Hr1
 refine ⟨trivial, rfl, (callsIn_wide.2 (Vv A cap l (p : Int) w2)).mono ?_⟩
 rintro e w3 ⟨bl, ba, rfl, rl, ra, hbl, hba, b3⟩
 have rg3 := rg.below b3 rg.lt
 have Hr3 : Hid (Rd w3 A (l.flatMap Nd.cells)) := Hr2.out.go b3
 have b3' := b2.trans (b3.mono b2.size)
 obtain ⟨lim, hlim⟩ : ∃ lim, lim = w3.heap.size := ⟨_, rfl⟩
 have l1 : bl < lim := by rw [hlim]; exact rl.lt
 have l2 : ba < lim := by rw [hlim]; exact ra.lt
 have l3 : G < lim := by rw [hlim]; exact rg3.lt
 have l4 : w.heap.size ≤ lim := by rw [hlim]; exact b3'.size
 have l5 : bl ≠ G := by omega
 have l6 : ba ≠ G := by omega
 have Hlim := Lh hlim
 have Hseq := Lh (Adt bl ba lim G A cap l p t.root w w3 Hr.out Hr3.out Hl.out Hx.out rl ra l1 l2 l5 l6 l4 gG (Nat.le_of_eq hlim))
 clear rg b2 b3 lg hbl hba hlim rl ra Hr2
 gi_wp2
 refine AaZ (gf := 250) (lb := #[.pointer (some ⟨ba, 0, none⟩), .pointer (some ⟨bl, 0, none⟩)]) rfl (enters_of Tryz.func250 (by kernel_rfl) rfl) Hseq.out (fun r h => h.elim)
  (fun h k => h.trans k) (fun W m o o' hm ho hc => ⟨fun k hk _ => by rw [World.putObj_heap_other (by have := Hlim.out; omega)], by simp⟩) (World.grownBy.refl _ _) (fun _ => rfl)
  (fun pre W => ∃ v, Row W G 22 #[v] ∧ W.ownsRow lim 3 1 v pre.length (Qi pre) ∧ Below w.heap.size w W ∧ lim ≤ W.heap.size) (fun _ _ _ => False) ?hI ?hIx ⟨_, rg3, World.ownsRow_nil _ _ _ _, b3', Nat.le_of_eq Hlim.out⟩
  (fun x a' W => a' = { tmps := #[.slice A l.length cap, .int .i64 (p : Int), undef, undef, .slice none 0 0, .pointer (some ⟨G, 0, none⟩), .int .i64 x, .slice A l.length cap, .int .i64 (p : Int), .int .i64 (endZ l (p : Int)), .bool false, .slice A l.length cap, .int .i64 (p : Int), .func (.func 250) #[] #[.pointer (some ⟨ba, 0, none⟩), .pointer (some ⟨bl, 0, none⟩)], .int .i64 x, undef, undef, undef, undef, undef], defers := [] }) ?hAx ?assign ?body ?done ?stop
 case hI =>
  rintro pre X Y row ⟨v, h1, h2, h3, h4⟩ hg hr
  have hrow : ∀ r, row = some r → lim ≤ r ∧ v.ownBlock ≠ some r := fun r e => by
   rcases hr r e with h | ⟨h, o, ho, hc⟩
   · exact h.elim
   · exact ⟨by have := Hlim.out; omega, ZS h2 ho hc⟩
  refine ⟨v, h1.grown hg (fun e => by have := (hrow G e).1; omega), h2.kept hg ?_, h3.grown hg h3.size (fun k e => by have := (hrow k e).1; omega), Nat.le_trans h4 hg.size⟩
  cases row with
  | none => cases v.ownBlock <;> simp
  | some r => exact .inr (hrow r rfl).2
 case hIx => exact fun _ _ _ _ _ h _ _ => h
 case hAx => exact fun x a' _ _ _ _ h _ _ => h
 case assign =>
  rintro lb pre x W K hI hK
  have HK := Lh hK
  clear hK
  gi_wp2
  exact HK.out _ _ (KeepsFrom.refl _ _) ⟨fun _ _ _ => rfl, Nat.le_refl _⟩ hI rfl
 case body =>
  rintro lb pre x a' W hlb _ ⟨v, h1, h2, h3, h4⟩ rfl hpl
  have hpl' : pre.length < 300 := by omega
  have hc := h1.cellv (i := 0) (v := v) rfl
  have hf := h1.free 0
  have ha := h2.alloc (.cells #[.int .i64 x] 3)
  have HA := Lh ha
  clear ha
  gi_wp2_with (gi_at_builtin; refine wpListIn_append_own_at _ rfl (.tmp 15) (.tmp 17) 22 rfl lim 3 i0 (.int .i64 0) 1 8 Tryz.underlying22 hi0 hz0 hz1 hz2 rfl (by decide) v pre.length (Qi pre) rfl HA.out ⟨W.heap.size, 0, none⟩ 1 1 (Qi [x]) rfl rfl (Jz _ _ _) (Jo _) (by unfold maxLen; omega) (by omega) (by simp; omega) ?_)
  intro v' W3 hown hg _ hat
  have r3 := (h1.alloc (.cells #[.int .i64 x] 3)).grown hg (Qz HA.out (h1.alloc _) (by decide))
  have b3 := Qm (h3.alloc h3.size _) HA.out hg (by have := h3.size; simp; omega) l4
  have k3 : KeepsFrom w3.heap.size W W3 := (KeepsFrom.alloc _ W (.cells #[.int .i64 x] 3)).trans (KeepsFrom.of_own HA.out hg)
  have kp : Keeps lim G W W3 := ⟨fun k hk _ => (hg.block k (by simp; omega) (fun e => by have := QN HA.out e.symm; omega)).trans (Below.heap_alloc _ _ _ (by omega)), by have := hg.size; simp at this; omega⟩
  have s3 : lim ≤ W3.heap.size := Nat.le_trans h4 kp.size
  obtain ⟨A', m', c', rfl⟩ : ∃ A m c, v' = .slice A m c := JD hown
  have hc3 := r3.cellv (i := 0) (v := v) rfl
  have hf3 := r3.free 0
  have nG := Qz hown r3 (by decide)
  have Hown := Lh hown
  clear hown hg hat hc hf
  gi_wp2
  have o4 := Zc W3 G 0 (.slice A' m' c')
  refine ⟨k3.trans (KeepsFrom.of_only r3 o4), kp.trans ⟨fun k _ hk => o4.block k hk, Nat.le_of_eq o4.size.symm⟩, _, r3.set 0 _, ?_, Qo b3 o4 gG, Nat.le_trans s3 (Nat.le_of_eq o4.size.symm)⟩
  have := QA Hown.out o4 nG
  rw [← Kj] at this
  simpa using this
 case stop => exact fun D c pre W _ _ h _ => h.elim
 case done =>
  rintro D ys W hD hys ⟨v, h1, h2, h3, h4⟩ hK
  have Hys := Lh hys
  have hc := h1.cellv (i := 0) (v := v) rfl
  have HK := Lh hK
  clear hK hys
  gi_wp2
  refine ⟨by simp, .inl ⟨_, _, rfl, run_takeDeferred HK.out, ?_⟩⟩
  refine ⟨_, results_tmp rfl _ _ _, v, rfl, ?_, h3.grown (grownBy_putObj' _ _ _) h3.size (fun k e => by cases e; have := Hlim.out; omega)⟩
  rw [Hk.out, ← Hys.out]
  exact QI ((h2.kept (grownBy_putObj' _ _ _) (.inr (ZS h2 HK.out rfl)))) l4
end Go.Proofs.YtdcmppdhdcjpfaaGreat
namespace Go.Proofs.YtdcmppdhdcjpfaaGreat
open Go.RowKit Go.Deep
theorem EI {t n : Int} (h : ¬ (1 ≤ t ∧ t ≤ 26)) : Qv ⟨t, n⟩ = -1 := by
 unfold Qv
 rw [if_neg (by dsimp only; omega)]
 have : Q2 ⟨t, n⟩ = (-1, -1) := by
  unfold Q2; dsimp only
  repeat (first | rw [if_pos (by omega)] | rw [if_neg (by omega)])
 rw [this]
 split <;> rfl
theorem Km (t : Int) (w : World) (ht : InI t) : Calls Tryz.prog 56 #[.int .i64 t] w fun e w' => e = .returned (.int .i64 (QU t)) ∧ w = w' := by
 unfold InI at ht
 by_cases h : 2 ≤ t ∧ t ≤ 9
 · obtain ⟨h1, h2⟩ := h
   have Hs : Hid (QU t = t - 1) := by show _ = _; unfold QU; rw [if_pos ⟨h1, h2⟩]
   go_enter Tryz.func56, Tryz.ntmps56
   go_wp2
   go_ret
   exact ⟨QK Hs.out, rfl⟩
 · have Hs : Hid (QU t = 0) := by show _ = _; unfold QU; rw [if_neg h]
   have h2 : t < 2 ∨ 9 < t := by omega
   clear h
   rcases h2 with h2 | h2
   all_goals
    go_enter Tryz.func56, Tryz.ntmps56
    go_wp2
    go_ret
    exact ⟨QK Hs.out, rfl⟩
structure PgV where
 params : Int
 va : Option Addr
 vcap : Nat
 V : List Int
 ba : Option Addr
 bcap : Nat
 body : List Nd
def PgV.cells (p : PgV) : Array Value := #[.int .i64 p.params, .slice p.va p.V.length p.vcap, .slice p.ba p.body.length p.bcap]
structure PgV.ok (p : PgV) (w : World) : Prop where
 par : InI p.params
 vlen : p.V.length ≤ p.vcap
 vmax : p.vcap ≤ maxLen
 vnil : p.va = none → p.vcap = 0
 vrd : Rd w p.va (Qi p.V)
 vin : ∀ t ∈ p.V, InI t
 blen : p.body.length ≤ p.bcap
 bmax : p.bcap ≤ maxLen
 bnil : p.ba = none → p.bcap = 0
 brd : Rd w p.ba (p.body.flatMap Nd.cells)
 bin : ∀ x ∈ p.body, InI x.tag ∧ InI x.n
theorem PgV.ok.go {p : PgV} {w w' : World} (h : p.ok w) (b : Below w.heap.size w w') : p.ok w' :=
 ⟨h.par, h.vlen, h.vmax, h.vnil, h.vrd.go b, h.vin, h.blen, h.bmax, h.bnil, h.brd.go b, h.bin⟩
instance St.pgok {p : PgV} : St (fun W => p.ok W) := ⟨fun h b => h.go b⟩
theorem Zf {w : World} {A : Option Addr} {l : List Int} (hr : Rd w A (Qi l)) {k : Nat} {x : Int} (hx : l[k]? = some x) : ∃ ad, A = some ad ∧ w.cell? (ad.add k) = some (.int .i64 x) :=
 hr k _ (by simp [Qi, hx])
def XP (params : Int) (j : Nat) (t : Int) : Bool := decide (t = 0 ∨ (params ≤ j ∧ 1 ≤ t ∧ t ≤ 9))
def JS (params : Int) (V : List Int) : Prop := 0 ≤ params ∧ params ≤ V.length ∧ V.length ≤ 12 ∧ ∀ j, j < V.length → XP params j (V.getD j 0) = true
instance (params : Int) (V : List Int) : Decidable (JS params V) := by unfold JS; infer_instance
def Jj (params : Int) (V : List Int) : Int := if JS params V then 0 else 14
theorem Em {params : Int} {V : List Int} (h : params < 0 ∨ (V.length : Int) < params ∨ 12 < (V.length : Int)) : Jj params V = 14 := by
 unfold Jj; rw [if_neg]; unfold JS; omega
theorem Afy {params : Int} {V : List Int} {j : Nat} {t : Int} (hj : V[j]? = some t) (h : XP params j t = false) : Jj params V = 14 := by
 unfold Jj; rw [if_neg]
 rintro ⟨_, _, _, h4⟩
 have := h4 j (List.getElem?_eq_some_iff.1 hj).1
 rw [List.getD_eq_getElem?_getD, hj, Option.getD_some, h] at this
 cases this
theorem AgO {params : Int} {V : List Int} (h1 : 0 ≤ params) (h2 : params ≤ V.length) (h3 : (V.length : Int) ≤ 12) (h : ∀ j, j < V.length → XP params j (V.getD j 0) = true) : Jj params V = 0 := by
 unfold Jj; rw [if_pos ⟨h1, h2, by omega, h⟩]
theorem Yl {params : Int} {V : List Int} {k : Nat} {t : Int} (h : ∀ j, j < k → XP params j (V.getD j 0) = true) (hk : V[k]? = some t) (ht : XP params k t = true) : ∀ j, j < k + 1 → XP params j (V.getD j 0) = true := fun j hj => by
 by_cases e : j = k
 · subst e; rw [List.getD_eq_getElem?_getD, hk]; exact ht
 · exact h j (by omega)
theorem AcQ (p : PgV) (w : World) (hok : p.ok w) : Calls Tryz.prog 64 #[.agg p.cells] w fun e w' => e = .returned (.int .i64 (Jj p.params p.V)) ∧ Below w.heap.size w w' := by
 have Hok := Lh hok
 clear hok
 obtain ⟨params, va, vcap, V, ba, bcap, body⟩ := p
 dsimp only
 rw [show (PgV.mk params va vcap V ba bcap body).cells = #[.int .i64 params, .slice va V.length vcap, .slice ba body.length bcap] from rfl]
 go_enter Tryz.func64, Tryz.ntmps64
 go_wp2_with (refine Qp _ _ rfl ?_)
 refine Stop.to ?_
 refine Qf rfl 25 _ rfl #[.int .i64 params, .slice va V.length vcap, .slice ba body.length bcap] rfl ?_
 intro G w1 hG r1 b1
 have b1 := (Below.refl w.heap.size w).trans (b1.mono hG)
 have hok1 := Hok.out.go b1
 have c0 := r1.cellv (i := 0) (v := .int .i64 params) rfl
 have c1 := r1.cellv (i := 1) (v := .slice va V.length vcap) rfl
 have hvr := hok1.vrd
 have Hvr := Lh hvr
 have Hin := Lh Hok.out.vin
 have hpar := Hok.out.par
 unfold InI at hpar
 dsimp only at Hvr Hin hpar
 clear hG hok1 hvr r1 Hok
 by_cases h0 : params < 0
 · have hz := Lh (Em (V := V) (.inl h0))
   go_wp2
   go_ret
   exact ⟨QK hz.out, b1⟩
 by_cases h1 : (V.length : Int) < params
 · have hz := Lh (Em (V := V) (.inr (.inl h1)))
   have h0' : 0 ≤ params := by omega
   go_wp2
   go_ret
   exact ⟨QK hz.out, b1⟩
 by_cases h2 : 12 < (V.length : Int)
 · have hz := Lh (Em (params := params) (V := V) (.inr (.inr h2)))
   have h0' : 0 ≤ params := by omega
   have h1' : params ≤ (V.length : Int) := by omega
   clear h0 h1
   go_wp2
   go_ret
   exact ⟨QK hz.out, b1⟩
 have h0' : 0 ≤ params := by omega
 have h1' : params ≤ (V.length : Int) := by omega
 have h2' : (V.length : Int) ≤ 12 := by omega
 clear h0 h1 h2
 go_wp2
 go_loop [25] (fun i => ∃ k : Nat, i = .int .i64 (k : Int) ∧ k ≤ V.length ∧ Hid (∀ j, j < k → XP params j (V.getD j 0) = true)) (fun i => V.length - (intOf i).toNat)
 case atStart => exact ⟨0, rfl, Nat.zero_le _, Lh (fun j h => by omega)⟩
 case round =>
  obtain ⟨k, rfl, hk, hall⟩ := hrel
  by_cases hlt : k < V.length
  · obtain ⟨t, ht⟩ : ∃ t, V[k]? = some t := ⟨_, List.getElem?_eq_getElem hlt⟩
    obtain ⟨ad, had, hc⟩ := Zf Hvr.out ht
    have hin := Hin.out t (List.mem_of_getElem? ht)
    have Hin' := Lh hin
    unfold InI at hin
    have Ht := Lh ht
    have hltI : (k : Int) < (V.length : Int) := by omega
    clear ht hlt
    subst had
    by_cases hgood : XP params k t = true
    · have Hg := Lh hgood
      simp only [XP, decide_eq_true_eq] at hgood
      have hz : t = 0 ∨ (t ≠ 0 ∧ (params ≤ k ∧ 1 ≤ t ∧ t ≤ 9)) := by omega
      clear hgood
      rcases hz with rfl | ⟨ht0, hpk, ht1, ht9⟩
      · go_wp2
        go_round
        case rel => exact ⟨k + 1, by go_num, by omega, Lh (Yl hall.out Ht.out Hg.out)⟩
        case measure => simp [intOf]; omega
      · have e0 : (t != 0) = true := by simpa using ht0
        by_cases h1 : t = 1
        · have e1 : (t != 1) = false := by simpa using h1
          clear ht0 h1
          go_wp2
          go_round
          case rel => exact ⟨k + 1, by go_num, by omega, Lh (Yl hall.out Ht.out Hg.out)⟩
          case measure => simp [intOf]; omega
        · have e1 : (t != 1) = true := by simpa using h1
          have e2 : (QU t == 0) = false := by simp [QU]; omega
          clear ht0 h1
          go_wp2_with (go_at_call 56; refine (Km t _ Hin'.out).mono ?_; rintro e w' ⟨rfl, rfl⟩)
          go_round
          case rel => exact ⟨k + 1, by go_num, by omega, Lh (Yl hall.out Ht.out Hg.out)⟩
          case measure => simp [intOf]; omega
    · have hz := Lh (Afy Ht.out (by simpa using hgood))
      simp only [XP, decide_eq_true_eq] at hgood
      have e0 : (t != 0) = true := by simp; omega
      by_cases hkp : (k : Int) < params
      · clear hgood
        go_wp2
        go_ret
        exact ⟨QK hz.out, b1⟩
      · have hkp' : params ≤ (k : Int) := by omega
        have e1 : (t != 1) = true := by simp; omega
        have e2 : QU t = 0 := by unfold QU; rw [if_neg (by omega)]
        have E2 := Lh e2
        clear hgood hkp e2
        go_wp2_with (go_at_call 56; refine (Km t _ Hin'.out).mono ?_; rintro e w' ⟨rfl, rfl⟩; rw [E2.out])
        go_ret
        exact ⟨QK hz.out, b1⟩
  · have hge : (V.length : Int) ≤ (k : Int) := by omega
    obtain rfl : k = V.length := by omega
    have hz := Lh (AgO h0' h1' h2' hall.out)
    go_wp2
    go_ret
    exact ⟨QK hz.out, b1⟩
def AeT (p : PgV) : Bool := decide (p.body.length ≤ 60 ∧ p.V.length ≤ 20)
theorem Ahl (p : PgV) (w : World) : Calls Tryz.prog 51 #[.agg p.cells] w fun e w' => e = .returned (.bool (AeT p)) ∧ Below w.heap.size w w' := by
 obtain ⟨params, va, vcap, V, ba, bcap, body⟩ := p
 rw [show (PgV.mk params va vcap V ba bcap body).cells = #[.int .i64 params, .slice va V.length vcap, .slice ba body.length bcap] from rfl]
 have hz : Hid (AeT ⟨params, va, vcap, V, ba, bcap, body⟩ = decide (body.length ≤ 60 ∧ V.length ≤ 20)) := by show _ = _; rfl
 go_enter Tryz.func51, Tryz.ntmps51
 go_wp2_with (refine Qp _ _ rfl ?_)
 refine Stop.to ?_
 refine Qf rfl 25 _ rfl #[.int .i64 params, .slice va V.length vcap, .slice ba body.length bcap] rfl ?_
 intro G w1 hG r1 b1
 have b1 := (Below.refl w.heap.size w).trans (b1.mono hG)
 have c1 := r1.cellv (i := 1) (v := .slice va V.length vcap) rfl
 have c2 := r1.cellv (i := 2) (v := .slice ba body.length bcap) rfl
 clear hG r1
 by_cases h0 : body.length ≤ 60
 · have h0' : (body.length : Int) ≤ 60 := by omega
   by_cases h1 : V.length ≤ 20
   · have h1' : (V.length : Int) ≤ 20 := by omega
     go_wp2
     go_ret
     exact ⟨Z9 (hz.out.trans (decide_eq_true ⟨h0, h1⟩)), b1⟩
   · have h1' : 20 < (V.length : Int) := by omega
     have H1 := Lh h1
     clear h1
     go_wp2
     go_ret
     exact ⟨Z9 (hz.out.trans (by simp [h0]; omega)), b1⟩
 · have h0' : 60 < (body.length : Int) := by omega
   have H0 := Lh h0
   clear h0
   go_wp2
   go_ret
   exact ⟨Z9 (hz.out.trans (decide_eq_false (fun h : body.length ≤ 60 ∧ V.length ≤ 20 => H0.out h.1))), b1⟩
def JC (l : List Nat) : List Int := l.map fun n : Nat => (n : Int)
theorem Aae (l : List Nat) : (JC l).length = l.length := by simp [JC]
end Go.Proofs.YtdcmppdhdcjpfaaGreat
namespace Go.Proofs.YtdcmppdhdcjpfaaGreat
end Go.Proofs.YtdcmppdhdcjpfaaGreat
namespace Go.Proofs.YtdcmppdhdcjpfaaGreat
open Go.RowKit Go.Deep
theorem YH : ∀ {ks : List Tr} {k : Tr}, k ∈ ks → k.size ≤ (QF ks).length
 | [], _, h => by simp at h
 | t :: ts, k, h => by
  rw [QF, List.length_append]
  rcases List.mem_cons.1 h with rfl | h
  · simp [Tr.size]
  · have := YH h; omega
theorem AdK {w : World} {base n : Nat} {e : TypeId} {v : Value} {xs : List Value} (h : w.ownsRow base e 1 v n xs) : ∃ A cap, v = .slice A n cap ∧ Rd w A xs ∧ n ≤ cap ∧ (A = none → cap = 0) := by
 have hl : xs.length = n := by have := h.1; omega
 rcases h.2 with ⟨rfl, h0⟩ | ⟨g, cap, cur, rfl, hb, hh, hc, hm, hsz, ht⟩
 · have hx : xs = [] := List.eq_nil_of_length_eq_zero (by omega)
   subst hx
   refine ⟨none, 0, by rw [h0], Rd.nil _ _, by omega, fun _ => rfl⟩
 · refine ⟨some ⟨g, 0, none⟩, cap, rfl, fun j u hj => ⟨_, rfl, ?_⟩, hc, fun h => by cases h⟩
   have hr : Row w g e cur := hh
   exact hr.from_ 0 (cs := xs) (fun j v hj => by
    rw [Nat.zero_add, ← Array.getElem?_toList]
    have h1 : (cur.toList.take (n * 1))[j]? = some v := by rw [ht]; exact hj
    rw [List.getElem?_take_of_lt (by have := (List.getElem?_eq_some_iff.1 hj).1; omega)] at h1; exact h1) j u hj
theorem ZZ (W : World) (xs : List Value) (t : TypeId) : Rd (W.alloc (.cells xs.toArray t)) (some ⟨W.heap.size, 0, none⟩) xs := fun j u hj => ⟨_, rfl, Jz W xs t j u hj⟩
theorem Aau {w : World} : (zeroValue 85).run Tryz.prog w = .ok (.agg #[.int .i64 0, .int .i64 0]) w := by kernel_rfl
end Go.Proofs.YtdcmppdhdcjpfaaGreat
