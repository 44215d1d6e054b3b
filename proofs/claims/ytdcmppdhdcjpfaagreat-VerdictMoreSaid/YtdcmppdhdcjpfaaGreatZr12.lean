/- Lemmas for VerdictMoreP. -/
import Derived.Test.YtdcmppdhdcjpfaaGreatZr1
import Derived.Test.YtdcmppdhdcjpfaaGreatZr10
import Derived.Test.YtdcmppdhdcjpfaaGreatZr11
import Derived.Test.YtdcmppdhdcjpfaaGreatZr7
import Derived.Test.YtdcmppdhdcjpfaaGreatZr8
import Derived.Test.YtdcmppdhdcjpfaaGreatZr3
import Derived.Lib.SlicesCompact
import Derived.Shelf.Small.Bits
import Derived.Shelf.Strconv.Itoa0
import Derived.Shelf.Sort.Plain
import Derived.Shelf.Bits.Mul64
import Derived.Shelf.Slices.Clone
import Derived.Shelf.Slices.CompactI
import Derived.Shelf.Slices.SearchI
import Derived.Shelf.Slices.Cells
import Derived.Shelf.Slices.In.SortNone
import Derived.Shelf.SlicesE.Clone
import Derived.Test.YtdcmppdhdcjpfaaGreatRows
import Derived.WalkKit
set_option linter.unusedVariables false
set_option linter.unusedSimpArgs false
set_option maxRecDepth 100000
set_option maxHeartbeats 16000000
namespace Go.Proofs.YtdcmppdhdcjpfaaGreat
open Go.RowKit Go.Deep
theorem Ac2 (A : Option Addr) (cap : Nat) (l : List Nd) (w : World) (hr : Rd w A (l.flatMap Nd.cells)) (hl : l.length ≤ 1000) :
 Calls Tryz.prog 106 #[.slice A l.length cap] w fun e w' => e = .returned (.int .i64 (ZA l)) ∧ Below w.heap.size w w' := by
 by_cases h0 : l.length = 0
 · have Hz := Lh (AbB h0)
   rw [h0]
   clear hr hl h0
   go_enter Tryz.func106, Tryz.ntmps106
   go_wp2_with fail
   go_ret
   exact ⟨ZF Hz.out.symm, Below.refl _ _⟩
 have e0 : ((l.length : Int) == 0) = false := by rw [beq_eq_false_iff_ne]; omega
 by_cases h1 : 200 < l.length
 · have Hz := Lh (AbC h1)
   have e1 : 200 < (l.length : Int) := by omega
   clear hr hl h0 h1
   go_enter Tryz.func106, Tryz.ntmps106
   go_wp2_with fail
   go_ret
   exact ⟨ZF Hz.out.symm, Below.refl _ _⟩
 have e1 : ¬ (200 < (l.length : Int)) := by omega
 have Hc := Lh (Adh A cap l (fun x => decide (Qv x < 0)) w (fun W => Rd W A (l.flatMap Nd.cells) ∧ Below w.heap.size w W) ⟨hr, Below.refl _ _⟩ (fun W h => h.1) (fun W h => h.2) (fun x _ W _ => Adc x W) (by omega))
 have He := Lh (fun W h => JH A cap l (0 : Int) W h hl)
 have Hr := Lh hr
 have H0 := Lh h0
 have H1 := Lh h1
 have Hl := Lh hl
 clear hr hl h0 h1
 obtain ⟨b, hb⟩ : ∃ b, b = l.any fun x => decide (Qv x < 0) := ⟨_, rfl⟩
 rw [← hb] at Hc
 go_enter Tryz.func106, Tryz.ntmps106
 go_wp2_with fail
 refine Hc.out.mono ?_
 rintro e w1 ⟨rfl, b1⟩
 clear Hc
 cases b
 rotate_left
 · obtain ⟨x, hx, hn⟩ := List.any_eq_true.1 hb.symm
   have Hz := Lh (AbD H0.out H1.out hx (by simpa using hn))
   clear hb hx hn
   go_wp2_with fail
   go_ret
   exact ⟨ZF Hz.out.symm, b1⟩
 have h2 : ∀ x ∈ l, ¬ Qv x < 0 := fun x hx hn => by
  have := List.any_eq_false.1 hb.symm x hx
  simp at this; omega
 have H2 := Lh h2
 clear hb h2
 go_wp2_with fail
 refine (He.out w1 (Hr.out.go b1)).mono ?_
 rintro e w2 ⟨rfl, b2⟩
 replace b1 := b1.trans (b2.mono b1.size)
 clear b2 He
 by_cases h3 : endZ l 0 = (l.length : Int)
 rotate_left
 · have Hz := Lh (AbE H0.out H1.out (fun x hx hn => by have := H2.out x hx; omega) h3)
   have e3 : (endZ l 0 != (l.length : Int)) = true := by simpa using h3
   clear h3
   go_wp2_with fail
   go_ret
   exact ⟨ZF Hz.out.symm, b1⟩
 obtain ⟨t, ht⟩ := Whole.of h3
 have e3 : ((l.length : Int) != (l.length : Int)) = false := by simp
 have Hz := Lh (U6 H1.out (fun x hx hn => by have := H2.out x hx; omega) ht)
 have Hd : Hid (Calls Tryz.prog 177 #[.slice A l.length cap, .int .i64 0] w2 fun e w' => e = .returned (.int .i64 (XD t)) ∧ Below w2.heap.size w2 w') := AeR A cap l Hl.out t.size t 0 (Nat.le_refl _) ht.hat w2 (Hr.out.go b1)
 rw [h3]
 clear h3 ht
 obtain ⟨d, hd⟩ : ∃ d, d = XD t := ⟨_, rfl⟩
 rw [← hd] at Hd Hz
 clear hd
 go_wp2_with fail
 refine Hd.out.mono ?_
 rintro e w3 ⟨rfl, b3⟩
 replace b1 := b1.trans (b3.mono b1.size)
 clear b3 Hd
 by_cases h4 : 30 < d
 · have Hz2 : Hid (ZA l = 13) := by have := Hz.out; rw [if_pos h4] at this; exact this
   clear Hz
   go_wp2_with fail
   go_ret
   exact ⟨ZF Hz2.out.symm, b1⟩
 · have Hz2 : Hid (ZA l = 0) := by have := Hz.out; rw [if_neg h4] at this; exact this
   clear Hz
   go_wp2_with fail
   go_ret
   exact ⟨ZF Hz2.out.symm, b1⟩
theorem Vu (p : PgV) (hbl : p.body.length ≤ 1000) (w : World) (hok : p.ok w) :
 Calls Tryz.prog 52 #[.agg p.cells] w fun e w' => e = .returned (.int .i64 (Zb p)) ∧ Below w.heap.size w w' := by
 have Hbl := Lh hbl
 have Hok := Lh hok
 clear hbl hok
 go_enter Tryz.func52, Tryz.ntmps52
 go_wp2_with (refine Qp _ _ rfl ?_)
 refine Stop.to ?_
 refine Qf rfl 25 _ rfl p.cells rfl ?_
 intro G Gw Gh Gr Gb
 have b1 := (Below.refl w.heap.size w).trans (Gb.mono Gh)
 have Hok1 := Lh (Hok.out.go b1)
 have c2 := Gr.cellv (i := 2) (v := .slice p.ba p.body.length p.bcap) rfl
 have Hs := Lh (Ac2 p.ba p.bcap p.body Gw Hok1.out.brd Hbl.out)
 clear Gb Gh Hok
 go_wp2_with fail
 refine Hs.out.mono ?_
 rintro e w1 ⟨rfl, b2⟩
 replace Gr := Gr.below b2 Gr.lt
 replace b1 := b1.trans (b2.mono b1.size)
 replace Hok1 := Lh (Hok1.out.go b2)
 clear b2 Hs c2
 obtain ⟨a, ha⟩ : ∃ a, a = ZA p.body := ⟨_, rfl⟩
 rw [← ha]
 by_cases h0 : a = 0
 rotate_left
 · have Hz : Hid (Zb p = a) := by show _ = _; rw [AbF (by rw [← ha]; exact h0), ← ha]
   have e0 : (a != 0) = true := by simpa using h0
   clear ha h0
   go_wp2_with fail
   go_ret
   exact ⟨ZF Hz.out.symm, b1⟩
 subst h0
 have Ha := Lh ha.symm
 have Hs := Lh (AcQ p w1 Hok1.out)
 clear ha
 go_wp2_with (refine wpList_load_row rfl 25 _ rfl G rfl 25 p.cells (0, 0) _ Gr Tryz.underlying25 rfl (by kernel_rfl) ?_)
 refine Hs.out.mono ?_
 rintro e w2 ⟨rfl, b2⟩
 replace Gr := Gr.below b2 Gr.lt
 replace b1 := b1.trans (b2.mono b1.size)
 replace Hok1 := Lh (Hok1.out.go b2)
 clear b2 Hs
 obtain ⟨v, hv⟩ : ∃ v, v = Jj p.params p.V := ⟨_, rfl⟩
 rw [← hv]
 by_cases h0 : v = 0
 rotate_left
 · have h14 : v = 14 := by rcases XZ p.params p.V with h | h <;> omega
   have Hz : Hid (Zb p = 14) := AbG Ha.out (by rw [← hv]; exact h0)
   subst h14
   clear hv h0
   go_wp2_with fail
   go_ret
   exact ⟨ZF Hz.out.symm, b1⟩
 subst h0
 have Hv := Lh hv.symm
 obtain ⟨hl2, har, t, ht, hdp⟩ := EQ Ha.out
 have Ht := Lh ht
 have Hs : Hid (∀ W, p.ok W → Calls Tryz.prog 66 #[.agg p.cells, .int .i64 0] W fun e w' => e = .returned (.int .i64 (ofT p.V t)) ∧ Below W.heap.size W w') := fun W h => Ab6 p Hbl.out t 0 Ht.out.hat W h
 obtain ⟨ad, had, hc⟩ := Jq Hok1.out.brd ht.hat.root
 have c2 := Gr.cellv (i := 2) (v := .slice p.ba p.body.length p.bcap) rfl
 have c0 := hc 0 _ rfl
 have hpos : (0 : Int) < (p.body.length : Int) := by have := ht.pos; omega
 simp only [Nat.zero_mul, Xa] at c0
 rw [had] at c2
 have Hvo : Hid (JS p.params p.V) := by rcases XZ p.params p.V with h | h; exact h.2; have := Hv.out; omega
 clear hv hl2 har hdp ht hc
 by_cases h20 : t.root.tag = 20
 rotate_left
 · have Hz : Hid (Zb p = 15) := U7 Ha.out Hv.out (Kd Ht.out.hat (fun h => h20 h.1))
   have e20 : (t.root.tag != 20) = true := by simpa using h20
   clear h20
   go_wp2_with fail
   go_ret
   exact ⟨ZF Hz.out.symm, b1⟩
 have e20 : (t.root.tag != 20) = false := by simp [h20]
 have H20 := Lh h20
 clear h20
 go_wp2_with (refine Zj rfl 25 _ rfl G rfl 25 p.cells (0, 0) _ Gr Tryz.underlying25 rfl (by kernel_rfl) ?_)
 refine (Hs.out w2 Hok1.out).mono ?_
 rintro e w3 ⟨rfl, b2⟩
 replace b1 := b1.trans (b2.mono b1.size)
 clear b2 Hs c0 c2
 obtain ⟨k, hk⟩ : ∃ k, k = ofT p.V t := ⟨_, rfl⟩
 rw [← hk]
 by_cases h2 : k = 2
 · subst h2
   have Hz : Hid (Zb p = 0) := AbH Ha.out Hv.out ⟨Ht.out.hat, Ht.out.size, Hvo.out, H20.out, hk.symm⟩
   clear hk
   go_wp2_with fail
   go_ret
   exact ⟨ZF Hz.out.symm, b1⟩
 · have Hz : Hid (Zb p = 15) := U7 Ha.out Hv.out (Kd Ht.out.hat (fun h => h2 (by rw [hk]; exact h.2)))
   have e2 : (k != 2) = true := by simpa using h2
   clear hk h2
   go_wp2_with fail
   go_ret
   exact ⟨ZF Hz.out.symm, b1⟩
def Xm (l : List Nd) : Int → List Int → Int
 | a, [] => a
 | a, i :: π => if i < 0 ∨ ((kidsZ l a).length : Int) ≤ i then -1 else Xm l (((kidsZ l a)[i.toNat]?).getD 0) π
def KF (l : List Nd) (π : List Int) : Int := if endZ l 0 = (l.length : Int) then Xm l 0 π else -1
theorem Aas {l : List Nd} {a i : Int} {π : List Int} {k : Nat} (hi : π[k]? = some i) (h : i < 0 ∨ ((kidsZ l a).length : Int) ≤ i) : Xm l a (π.drop k) = -1 := by
 have hk := (List.getElem?_eq_some_iff.1 hi).1
 have he := (List.getElem?_eq_some_iff.1 hi).2
 rw [List.drop_eq_getElem_cons hk, he, Xm, if_pos h]
theorem AgP {l : List Nd} {a b : Int} {π : List Int} {k j : Nat} (hi : π[k]? = some (j : Int)) (h : (kidsZ l a)[j]? = some b) : Xm l a (π.drop k) = Xm l b (π.drop (k + 1)) := by
 have hk := (List.getElem?_eq_some_iff.1 hi).1
 have he := (List.getElem?_eq_some_iff.1 hi).2
 have hj := (List.getElem?_eq_some_iff.1 h).1
 rw [List.drop_eq_getElem_cons hk, he, Xm, if_neg (by omega), Int.toNat_natCast, h]
 rfl
theorem En {l : List Nd} : ∀ (π : List Int) (q : Nat) (t : Tr), At l q t → Xm l (q : Int) π = match Zx π q t with | some (r, _) => (r : Int) | none => -1
 | [], q, t, _ => by rw [Xm, Zx]
 | i :: π, q, .node x ks, h => by
  have hk := h.kidsZ
  have hkl : (kidsZ l (q : Int)).length = ks.length := by rw [hk, List.length_map, JF]; rfl
  rw [Xm, Zx]
  by_cases h0 : i < 0
  · rw [if_pos (Or.inl h0), if_pos h0]
  rw [if_neg h0]
  by_cases h1 : ((kidsZ l (q : Int)).length : Int) ≤ i
  · rw [if_pos (Or.inr h1)]
    have h2 : ks[i.toNat]? = none := List.getElem?_eq_none (by omega)
    rw [h2]
    split
    · rename_i h3; split at h3 <;> simp_all
    · rfl
  rw [if_neg (by omega)]
  obtain ⟨k, hk2⟩ : ∃ k, ks[i.toNat]? = some k := ⟨_, List.getElem?_eq_getElem (by omega)⟩
  obtain ⟨r, hr⟩ := Aba (p := q + 1) hk2
  have hr2 : (kidsZ l (q : Int))[i.toNat]? = some (r : Int) := by rw [hk, List.getElem?_map, show (Tr.node x ks).kids = ks from rfl, hr]; rfl
  rw [hr2, Option.getD_some, hr, hk2]
  exact En π r k (h.kids.spot i.toNat r k hr hk2).1
end Go.Proofs.YtdcmppdhdcjpfaaGreat
namespace Go.Proofs.YtdcmppdhdcjpfaaGreat
open Go.RowKit
theorem Aeo (a : Int) : ∀ l : List Int, (Ev a l).length ≤ l.length + 1
 | [] => by simp [Ev]
 | b :: l => by
  rw [Ev]
  split
  · simp
  · split
    · simp
    · have := Aeo a l; simp; omega
theorem Eg : ∀ l : List Int, (KJ l).length ≤ l.length
 | [] => by simp [KJ]
 | a :: l => by have := Aeo a (KJ l); have := Eg l; rw [KJ]; simp; omega
theorem VP : ∀ {l : List Int}, l.Pairwise (· < ·) → JE l
 | [], _ => trivial
 | [_], _ => trivial
 | a :: b :: l, h => by
  rw [List.pairwise_cons] at h
  exact ⟨h.1 b (by simp), VP h.2⟩
theorem AaE {s : List Int} (hs : s.Pairwise (· ≤ ·)) : JE (Lib.compact s) ∧ ∀ x, x ∈ Lib.compact s ↔ x ∈ s := by
 have hget : ∀ j, j < s.length → ∃ x, s[j]? = some x ∧ s.toArray[j]! = x := fun j hj => ⟨s[j], List.getElem?_eq_getElem hj, by simp [hj]⟩
 have hmono : ∀ i j x y, i ≤ j → s[i]? = some x → s[j]? = some y → x ≤ y := fun i j x y hij hx hy => by
  rcases Nat.lt_or_eq_of_le hij with h | h
  · obtain ⟨h1, rfl⟩ := List.getElem?_eq_some_iff.1 hx
    obtain ⟨h2, rfl⟩ := List.getElem?_eq_some_iff.1 hy
    exact List.pairwise_iff_getElem.1 hs i j h1 h2 h
  · subst h; rw [hx] at hy; injection hy with hy; omega
 constructor
 · refine VP ?_
   unfold Lib.compact Lib.compactUpTo
   rw [List.pairwise_map, List.pairwise_filter]
   rw [List.pairwise_iff_getElem]
   intro i j hi hj hij hki hkj
   simp only [List.getElem_range] at *
   rw [List.length_range] at hi hj
   unfold Lib.keeps at hkj
   rw [decide_eq_true_eq] at hkj
   obtain ⟨x, hx, hx'⟩ := hget i hi
   obtain ⟨y, hy, hy'⟩ := hget j hj
   obtain ⟨z, hz, hz'⟩ := hget (j - 1) (by omega)
   rw [hx', hy']
   rw [hy', hz'] at hkj
   have h1 := hmono i (j - 1) x z (by omega) hx hz
   have h2 := hmono (j - 1) j z y (by omega) hz hy
   rcases hkj with h | h <;> omega
 · intro x
   unfold Lib.compact Lib.compactUpTo
   rw [List.mem_map]
   constructor
   · rintro ⟨j, hj, rfl⟩
     have hj2 := List.mem_range.1 (List.mem_filter.1 hj).1
     obtain ⟨y, hy, hy'⟩ := hget j hj2
     rw [hy']; exact List.mem_of_getElem? hy
   · intro hx
     obtain ⟨j, hj, hjx⟩ := List.getElem_of_mem hx
     have : ∀ (n j : Nat), j ≤ n → s[j]? = some x → ∃ a : Nat, a ∈ (List.range s.length).filter (Lib.keeps s.toArray) ∧ s.toArray[a]! = x := by
      intro n
      induction n with
      | zero =>
       intro j hj0 hjx
       obtain rfl : j = 0 := by omega
       have hlt := (List.getElem?_eq_some_iff.1 hjx).1
       obtain ⟨y, hy, hy'⟩ := hget 0 hlt
       rw [hy] at hjx; injection hjx with hjx
       exact ⟨0, List.mem_filter.2 ⟨List.mem_range.2 hlt, by simp [Lib.keeps]⟩, by rw [hy', hjx]⟩
      | succ n ih =>
       intro j hjn hjx
       have hlt := (List.getElem?_eq_some_iff.1 hjx).1
       obtain ⟨y, hy, hy'⟩ := hget j hlt
       rw [hy] at hjx; injection hjx with hjx
       subst hjx
       by_cases hk : Lib.keeps s.toArray j = true
       · exact ⟨j, List.mem_filter.2 ⟨List.mem_range.2 hlt, hk⟩, hy'⟩
       · unfold Lib.keeps at hk
         rw [decide_eq_true_eq] at hk
         have hj0 : j ≠ 0 := fun e => hk (.inl e)
         obtain ⟨z, hz, hz'⟩ := hget (j - 1) (by omega)
         have hzy : z = y := by
          rcases Decidable.em (s.toArray[j]! = s.toArray[j - 1]!) with e | e
          · rw [hy', hz'] at e; exact e.symm
          · exact absurd (.inr e) hk
         exact ih (j - 1) (by omega) (by rw [hz, hzy])
     exact this j j (Nat.le_refl _) (by rw [List.getElem?_eq_getElem hj, hjx])
theorem Aft (l : List Int) : Lib.compact (l.mergeSort fun x y => decide (x ≤ y)) = KJ l := by
 have hs : (l.mergeSort fun x y => decide (x ≤ y)).Pairwise (· ≤ ·) := by
  have := List.pairwise_mergeSort (le := fun x y : Int => decide (x ≤ y)) (fun a b c => by simp; omega) (fun a b => by simp; omega) l
  exact this.imp (by simp)
 obtain ⟨h1, h2⟩ := AaE hs
 refine Um h1 (KL l) fun x => ?_
 rw [h2, Kz]
 exact (List.mergeSort_perm l _).mem_iff
end Go.Proofs.YtdcmppdhdcjpfaaGreat
namespace Go.Proofs.YtdcmppdhdcjpfaaGreat
open Go.Shelf
def Ab9 : Go.Shelf.Ren := ⟨fun | 189 => 301 | 125 => 306 | 257 => 305 | 128 => 317 | 129 => 318 | 294 => 308 | 295 => 309 | 296 => 310 | 297 => 311 | 298 => 312 | 299 => 313 | 216 => 314 | 300 => 315 | 301 => 316 | 328 => 319 | 329 => 320 | 330 => 321 | 331 => 322 | 332 => 323 | 215 => 236 | 343 => 324 | n => n, fun | 28 => 22 | 3 => 3 | 46 => 278 | 0 => 0 | 51 => 92 | 53 => 219 | 4 => 4 | 183 => 347 | 182 => 346 | 131 => 129 | 5 => 5 | 9 => 9 | 218 => 354 | 222 => 113 | 228 => 359 | 229 => 227 | n => n, fun | n => n⟩
theorem Ahw : Go.Proofs.Lays.n189 Tryz.prog Ab9 := {
 mixed := by kernel_rfl
 f125 := Tryz.func306.trans (congrArg some (by kernel_rfl))
 f128 := Tryz.func317.trans (congrArg some (by kernel_rfl))
 f129 := Tryz.func318.trans (congrArg some (by kernel_rfl))
 f189 := Tryz.func301.trans (congrArg some (by kernel_rfl))
 f215 := Tryz.func236.trans (congrArg some (by kernel_rfl))
 f216 := Tryz.func314.trans (congrArg some (by kernel_rfl))
 f257 := Tryz.func305.trans (congrArg some (by kernel_rfl))
 f294 := Tryz.func308.trans (congrArg some (by kernel_rfl))
 f295 := Tryz.func309.trans (congrArg some (by kernel_rfl))
 f296 := Tryz.func310.trans (congrArg some (by kernel_rfl))
 f297 := Tryz.func311.trans (congrArg some (by kernel_rfl))
 f298 := Tryz.func312.trans (congrArg some (by kernel_rfl))
 f299 := Tryz.func313.trans (congrArg some (by kernel_rfl))
 f300 := Tryz.func315.trans (congrArg some (by kernel_rfl))
 f301 := Tryz.func316.trans (congrArg some (by kernel_rfl))
 f328 := Tryz.func319.trans (congrArg some (by kernel_rfl))
 f329 := Tryz.func320.trans (congrArg some (by kernel_rfl))
 f330 := Tryz.func321.trans (congrArg some (by kernel_rfl))
 f331 := Tryz.func322.trans (congrArg some (by kernel_rfl))
 f332 := Tryz.func323.trans (congrArg some (by kernel_rfl))
 f343 := Tryz.func324.trans (congrArg some (by kernel_rfl))
 t0 := Tryz.underlying0
 a0 := Tryz.isAgg0
 z0 := Tryz.sizeOf0
 v0 := Tryz.zeroValue0
 t3 := Tryz.underlying3
 a3 := Tryz.isAgg3
 z3 := Tryz.sizeOf3
 v3 := Tryz.zeroValue3
 t4 := Tryz.underlying4
 a4 := Tryz.isAgg4
 z4 := Tryz.sizeOf4
 v4 := Tryz.zeroValue4
 t5 := Tryz.underlying5
 a5 := Tryz.isAgg5
 z5 := Tryz.sizeOf5
 v5 := Tryz.zeroValue5
 t9 := Tryz.underlying9
 a9 := Tryz.isAgg9
 z9 := Tryz.sizeOf9
 v9 := Tryz.zeroValue9
 t28 := Tryz.underlying22
 a28 := Tryz.isAgg22
 z28 := Tryz.sizeOf22
 v28 := Tryz.zeroValue22
 t46 := Tryz.underlying278
 a46 := Tryz.isAgg278
 z46 := Tryz.sizeOf278
 v46 := Tryz.zeroValue278
 t51 := Tryz.underlying92
 a51 := Tryz.isAgg92
 z51 := Tryz.sizeOf92
 v51 := Tryz.zeroValue92
 t53 := Tryz.underlying219
 a53 := Tryz.isAgg219
 z53 := Tryz.sizeOf219
 v53 := Tryz.zeroValue219
 t131 := Tryz.underlying129
 a131 := Tryz.isAgg129
 z131 := Tryz.sizeOf129
 v131 := Tryz.zeroValue129
 t182 := Tryz.underlying346
 a182 := Tryz.isAgg346
 z182 := Tryz.sizeOf346
 v182 := Tryz.zeroValue346
 t183 := Tryz.underlying347
 a183 := Tryz.isAgg347
 z183 := Tryz.sizeOf347
 v183 := Tryz.zeroValue347
 t218 := Tryz.underlying354
 a218 := Tryz.isAgg354
 z218 := Tryz.sizeOf354
 v218 := Tryz.zeroValue354
 t222 := Tryz.underlying113
 a222 := Tryz.isAgg113
 z222 := Tryz.sizeOf113
 v222 := Tryz.zeroValue113
 t228 := Tryz.underlying359
 a228 := Tryz.isAgg359
 z228 := Tryz.sizeOf359
 v228 := Tryz.zeroValue359
 t229 := Tryz.underlying227
 a229 := Tryz.isAgg227
 z229 := Tryz.sizeOf227
 v229 := Tryz.zeroValue227 }
open Go.Sort Go.RowKit in
theorem slices_Sort_int (blk off cap : Nat) (zs : List Int) (w : World) (hH : Holds (Value.int .i64) w blk off zs.toArray) (hblk : blk < w.heap.size) (hsz : zs.length < 4611686018427387904) :
 Calls Tryz.prog 301 #[.slice (some ⟨blk, off, none⟩) zs.length cap] w fun e w' =>
  e = .returned (.tuple #[]) ∧ ∃ n os, w' = grow (putRow (Value.int .i64) (Sort.ahead w n) blk off (zs.mergeSort fun x y => decide (x ≤ y)).toArray) os := Any.slices_Sort_int Ahw blk off cap zs w hH hblk hsz
def Ew : Go.Shelf.Ren := ⟨fun | 20 => 302 | n => n, fun | 22 => 22 | 3 => 3 | 4 => 4 | 0 => 0 | n => n, fun | n => n⟩
theorem Ae5 : Go.Proofs.Lays2.n20 Tryz.prog Ew := {
 mixed := by kernel_rfl
 f20 := Tryz.func302.trans (congrArg some (by kernel_rfl))
 t0 := Tryz.underlying0
 a0 := Tryz.isAgg0
 z0 := Tryz.sizeOf0
 v0 := Tryz.zeroValue0
 t3 := Tryz.underlying3
 a3 := Tryz.isAgg3
 z3 := Tryz.sizeOf3
 v3 := Tryz.zeroValue3
 t4 := Tryz.underlying4
 a4 := Tryz.isAgg4
 z4 := Tryz.sizeOf4
 v4 := Tryz.zeroValue4
 t22 := Tryz.underlying22
 a22 := Tryz.isAgg22
 z22 := Tryz.sizeOf22
 v22 := Tryz.zeroValue22
 i3 := by kernel_rfl }
open Go.RowKit Go.Lib Go.Sort in
theorem slices_Compact_int (blk off cap : Nat) (zs : List Int) (w : World) (hH : Holds (Value.int .i64) w blk off zs.toArray) (hsz : zs.length ≤ 9223372036854775807) (hcap : zs.length ≤ cap) :
 Calls Tryz.prog 302 #[.slice (some ⟨blk, off, none⟩) zs.length cap] w fun e w' => e = .returned (.slice (some ⟨blk, off, none⟩) (Lib.compact zs).length cap) ∧ ∃ q, w' = putRow (Value.int .i64) (Sort.ahead w q) blk off (Lib.compact zs ++ List.replicate (zs.length - (Lib.compact zs).length) 0).toArray := Any.slices_Compact_int Ae5 blk off cap zs w hH hsz hcap
end Go.Proofs.YtdcmppdhdcjpfaaGreat
namespace Go.Proofs.YtdcmppdhdcjpfaaGreat
open Go.RowKit Go.Deep
theorem AaX (d : Array Int) (cs : Array Value) (h : cs.size = d.size) : Sort.putCells (Value.int .i64) 0 d cs = d.map (Value.int .i64) := by
 unfold Sort.putCells
 apply Array.ext
 · simp [h]
 · intro i h1 h2
   have hi : i < d.size := by simpa using h2
   simp [hi]
theorem UB {w : World} {g : Nat} {t : TypeId} {cs : Array Value} (hr : Row w g t cs) (d : Array Int) (h : cs.size = d.size) : Row (Sort.putRow (Value.int .i64) w g 0 d) g t (d.map (Value.int .i64)) ∧ Only g w (Sort.putRow (Value.int .i64) w g 0 d) := by
 unfold Sort.putRow Sort.mapBlock
 refine ⟨?_, rfl, rfl, rfl, by simp, fun k hk => ?_⟩
 · show (w.heap.modify g _)[g]? = _
   rw [Array.getElem?_modify, if_pos rfl, show w.heap[g]? = some (.cells cs t (0, 0)) from hr]
   simp [Sort.onCells, AaX d cs h]
 · show (w.heap.modify g _)[k]? = _
   rw [Array.getElem?_modify, if_neg (Ne.symm hk)]
theorem E5 {w : World} {g : Nat} {t : TypeId} {l : List Int} (hr : Row w g t (Qi l).toArray) : Sort.Holds (Value.int .i64) w g 0 l.toArray := fun j hj => by
 have hj' : j < l.length := by simpa using hj
 refine ⟨?_, by have := hr.free (0 + j); exact this⟩
 have := hr.cellv (i := j) (v := .int .i64 l[j]) (by simp [Qi, hj'])
 rw [Nat.zero_add, this]; simp [hj']
theorem Ab5 (l : List Int) : l.toArray.map (Value.int .i64) = (Qi l).toArray := by simp [Qi]
structure OnRow (g : Nat) (w w' : World) : Prop where
 gr : w.grownBy w' (some g)
theorem OnRow.trans {g : Nat} {a b c : World} (h : OnRow g a b) (k : OnRow g b c) : OnRow g a c := ⟨⟨k.gr.os.trans h.gr.os, k.gr.tape.trans h.gr.tape, k.gr.output.trans h.gr.output, Nat.le_trans h.gr.size k.gr.size, fun i hi hx => (k.gr.block i (Nat.lt_of_lt_of_le hi h.gr.size) hx).trans (h.gr.block i hi hx)⟩⟩
theorem OnRow.of_below {g : Nat} {a b : World} (h : Below a.heap.size a b) : OnRow g a b := ⟨⟨h.os, h.tape, h.output, h.size, fun i hi _ => h.block i hi⟩⟩
theorem OnRow.of_only {g : Nat} {a b : World} (h : Only g a b) : OnRow g a b := ⟨⟨h.os, h.tape, h.output, Nat.le_of_eq h.size.symm, fun i _ hx => h.block i (fun e => hx (by rw [e]))⟩⟩
theorem OnRow.below {g B : Nat} {a b : World} (h : OnRow g a b) (hg : B ≤ g) (hB : B ≤ a.heap.size) : Below B a b := ⟨h.gr.os, h.gr.tape, h.gr.output, h.gr.size, fun i hi => h.gr.block i (by omega) (fun e => by injection e; omega)⟩
theorem OnRow.row {g k : Nat} {a b : World} {t : TypeId} {cs : Array Value} (h : OnRow g a b) (hr : Row a k t cs) (hk : k ≠ g) : Row b k t cs := (h.gr.block k hr.lt (fun e => hk (by injection e))).trans hr
theorem Afs (g cap : Nat) (l : List Int) (w : World) (hr : Row w g 3 (Qi l).toArray) (hl : l.length ≤ 1000) :
 Calls Tryz.prog 301 #[.slice (some ⟨g, 0, none⟩) l.length cap] w fun e w' => e = .returned (.tuple #[]) ∧ Row w' g 3 (Qi (l.mergeSort fun x y => decide (x ≤ y))).toArray ∧ OnRow g w w' := by
 refine (slices_Sort_int g 0 cap l w (E5 hr) hr.lt (by omega)).mono ?_
 rintro e w' ⟨rfl, n, os, rfl⟩
 have h1 : Row (Sort.ahead w n) g 3 (Qi l).toArray := hr.drewN n
 obtain ⟨h2, h3⟩ := UB h1 (l.mergeSort fun x y => decide (x ≤ y)).toArray (by simp [Qi])
 rw [Ab5] at h2
 have hb : Below w.heap.size w (Sort.ahead w n) := ZK (Below.refl _ _) n
 have hg : ∀ (W : World) (os : Array Obj), Below W.heap.size W (Sort.grow W os) := fun W os => ⟨rfl, rfl, rfl, by simp [Sort.grow], fun k hk => by simp [Sort.grow, Array.getElem?_append_left hk]⟩
 exact ⟨rfl, h2.below (hg _ _) h2.lt, (OnRow.of_below hb).trans ((OnRow.of_only h3).trans (OnRow.of_below (hg _ _)))⟩
theorem AaD (g cap : Nat) (l : List Int) (w : World) (hr : Row w g 3 (Qi l).toArray) (hl : l.length ≤ 1000) (hc : l.length ≤ cap) :
 Calls Tryz.prog 302 #[.slice (some ⟨g, 0, none⟩) l.length cap] w fun e w' => e = .returned (.slice (some ⟨g, 0, none⟩) (Lib.compact l).length cap) ∧ Row w' g 3 (Qi (Lib.compact l ++ List.replicate (l.length - (Lib.compact l).length) 0)).toArray ∧ OnRow g w w' := by
 refine (slices_Compact_int g 0 cap l w (E5 hr) (by omega) hc).mono ?_
 rintro e w' ⟨rfl, n, rfl⟩
 have h1 : Row (Sort.ahead w n) g 3 (Qi l).toArray := hr.drewN n
 have hcl : (Lib.compact l).length ≤ l.length := by
  unfold Lib.compact Lib.compactUpTo
  rw [List.length_map]
  have := List.length_filter_le (Lib.keeps l.toArray) (List.range l.length)
  rwa [List.length_range] at this
 obtain ⟨h2, h3⟩ := UB h1 (Lib.compact l ++ List.replicate (l.length - (Lib.compact l).length) 0).toArray (by simp [Qi]; omega)
 rw [Ab5] at h2
 have hb : Below w.heap.size w (Sort.ahead w n) := ZK (Below.refl _ _) n
 exact ⟨rfl, h2, (OnRow.of_below hb).trans (OnRow.of_only h3)⟩
theorem Aah (b : Nat) (but x : Int) (w : World) (hr : Row w b 3 #[.int .i64 but]) :
 Calls Tryz.prog 304 #[.int .i64 x, .pointer (some ⟨b, 0, none⟩)] w fun e w' => e = .returned (.bool (x == but)) ∧ w = w' := by
 have c := hr.cellv (i := 0) (v := .int .i64 but) rfl
 go_enter Tryz.func304, Tryz.ntmps304
 go_wp2
 go_ret
 exact ⟨rfl, rfl⟩
theorem AhS {l z : List Int} {k : Nat} {x : Int} (hlt : k < l.length) (hx : l[k]? = some x) : (Qi (l ++ z)).toArray[k]? = some (.int .i64 x) := by
 have : (Qi (l ++ z))[k]? = some (.int .i64 x) := by rw [Kj, List.getElem?_append_left (by rw [Kk]; exact hlt)]; simp [Qi, hx]
 simpa using this
theorem Ej {but : Int} {l : List Int} {k : Nat} {x : Int} (h : ∀ y ∈ l.take k, y ≠ but) (hx : l[k]? = some x) (hp : x ≠ but) : ∀ y ∈ l.take (k + 1), y ≠ but := by
 rw [List.take_add_one, hx]
 intro y hy
 rcases List.mem_append.1 hy with hy | hy
 · exact h y hy
 · simp at hy; subst hy; exact hp
theorem Af3 (g cap b : Nat) (but : Int) (l z : List Int) (w : World) (hr : Row w g 3 (Qi (l ++ z)).toArray) (hb : Row w b 3 #[.int .i64 but]) (hl : l.length ≤ 1000) :
 Calls Tryz.prog 307 #[.slice (some ⟨g, 0, none⟩) l.length cap, .func (.func 304) #[] #[.pointer (some ⟨b, 0, none⟩)]] w fun e w' => ((∃ i : Nat, e = .returned (.int .i64 (i : Int)) ∧ l[i]? = some but ∧ ∀ x ∈ l.take i, x ≠ but) ∨ (e = .returned (.int .i64 (-1)) ∧ ∀ x ∈ l, x ≠ but)) ∧ w = w' := by
 have Hr := Lh hr
 have Hb := Lh hb
 have hl' : (l.length : Int) ≤ 1000 := by omega
 clear hr hb hl
 go_enter Tryz.func307, Tryz.ntmps307
 go_wp2
 go_loop [8] (fun i => ∃ k : Nat, i = .int .i64 (k : Int) ∧ k ≤ l.length ∧ Hid (∀ x ∈ l.take k, x ≠ but)) (fun i => l.length - (intOf i).toNat)
 case atStart => exact ⟨0, rfl, Nat.zero_le _, Lh (fun x hx => by simp at hx)⟩
 case round =>
  obtain ⟨k, rfl, hk, Hall⟩ := hrel
  by_cases hlt : k < l.length
  · obtain ⟨x, hx⟩ : ∃ x, l[k]? = some x := ⟨_, List.getElem?_eq_getElem hlt⟩
    have hc := Hr.out.cellv (i := k) (v := .int .i64 x) (AhS hlt hx)
    have Hx := Lh hx
    have H1 := Lh (Aah b but x w Hb.out)
    have hltI : (k : Int) < (l.length : Int) := by omega
    clear hx hlt
    go_wp2_with fail
    refine H1.out.mono ?_
    rintro e w' ⟨rfl, rfl⟩
    by_cases hs : x = but
    · have hs' : (x == but) = true := by simpa using hs
      rw [hs']
      have Hf : Hid (l[k]? = some but) := by show _ = _; rw [Hx.out, hs]
      clear hs hs' H1 hc Hx
      go_wp2_with fail
      go_ret
      exact ⟨.inl ⟨k, rfl, Hf.out, Hall.out⟩, rfl⟩
    · have hs' : (x == but) = false := by simpa using hs
      rw [hs']
      have Hn := Lh (Ej Hall.out Hx.out hs)
      clear hs hs' H1 hc Hx
      go_wp2_with fail
      go_round
      case rel => exact ⟨k + 1, by go_num, by omega, Hn⟩
      case measure => simp [intOf]; omega
  · obtain rfl : k = l.length := by omega
    have Hf : Hid (∀ x ∈ l, x ≠ but) := by have := Hall.out; rwa [List.take_length] at this
    clear hlt hk
    go_wp2
    go_ret
    exact ⟨.inr ⟨rfl, Hf.out⟩, rfl⟩
structure Del (but : Int) (l z : List Int) (k : Nat) (cs : List Int) : Prop where
 size : cs.length = (l ++ z).length
 head : cs.take ((l.take k).filter (· != but)).length = (l.take k).filter (· != but)
 tail : cs.drop k = (l ++ z).drop k
theorem Del.get {but : Int} {l z : List Int} {k : Nat} {cs : List Int} (h : Del but l z k cs) {x : Int} (hx : l[k]? = some x) : cs[k]? = some x := by
 have hk := (List.getElem?_eq_some_iff.1 hx).1
 have := congrArg (fun m : List Int => m[0]?) h.tail
 simp only [List.getElem?_drop, Nat.add_zero] at this
 rw [this, List.getElem?_append_left hk, hx]
theorem Del.skip {but : Int} {l z : List Int} {k : Nat} {cs : List Int} (h : Del but l z k cs) {x : Int} (hx : l[k]? = some x) (hb : x = but) : Del but l z (k + 1) cs ∧ ((l.take (k + 1)).filter (· != but)).length = ((l.take k).filter (· != but)).length := by
 have e : (l.take (k + 1)).filter (· != but) = (l.take k).filter (· != but) := by rw [List.take_add_one, hx, List.filter_append]; simp [hb]
 refine ⟨⟨h.size, by rw [e]; exact h.head, ?_⟩, by rw [e]⟩
 have := congrArg (fun m : List Int => m.drop 1) h.tail
 simpa [List.drop_drop] using this
theorem Del.put {but : Int} {l z : List Int} {k : Nat} {cs : List Int} (h : Del but l z k cs) {x : Int} (hx : l[k]? = some x) (hb : x ≠ but) (hlt : ((l.take k).filter (· != but)).length < k) : Del but l z (k + 1) (cs.set ((l.take k).filter (· != but)).length x) ∧ ((l.take (k + 1)).filter (· != but)).length = ((l.take k).filter (· != but)).length + 1 := by
 have hk := (List.getElem?_eq_some_iff.1 hx).1
 have e : (l.take (k + 1)).filter (· != but) = (l.take k).filter (· != but) ++ [x] := by rw [List.take_add_one, hx, List.filter_append]; simp [hb]
 have hs := h.size
 rw [List.length_append] at hs
 have hh := h.head
 generalize hn : ((l.take k).filter (· != but)).length = n at *
 refine ⟨⟨by rw [List.length_set]; exact h.size, ?_, ?_⟩, by rw [e, List.length_append, hn]; rfl⟩
 · rw [e, List.length_append, hn, List.length_singleton, List.take_add_one, List.take_set_of_le (Nat.le_refl _), hh]
   congr 1
   rw [List.getElem?_set, if_pos rfl, if_pos (by omega)]; rfl
 · rw [List.drop_set_of_lt (by omega)]
   have := congrArg (fun m : List Int => m.drop 1) h.tail
   simpa [List.drop_drop] using this
theorem Del.start {but : Int} {l z : List Int} {i : Nat} (hi : l[i]? = some but) (hall : ∀ x ∈ l.take i, x ≠ but) : Del but l z (i + 1) (l ++ z) ∧ ((l.take (i + 1)).filter (· != but)).length = i := by
 have hk := (List.getElem?_eq_some_iff.1 hi).1
 have e : (l.take (i + 1)).filter (· != but) = l.take i := by
  rw [List.take_add_one, hi, List.filter_append, List.filter_eq_self.2 (fun x hx => by simpa using hall x hx)]; simp
 have hl : (l.take i).length = i := by rw [List.length_take]; omega
 refine ⟨⟨rfl, ?_, rfl⟩, by rw [e, hl]⟩
 rw [e, hl, List.take_append_of_le_length (by omega)]
theorem ES {g : Nat} {t : TypeId} : ∀ (n : Nat) {w : World} {cs : List Value} (o : Nat), Row w g t cs.toArray → o + n ≤ cs.length → ∃ cs' : List Value, Row (w.setCells g o (List.replicate n (.int .i64 0))) g t cs'.toArray ∧ cs'.take o = cs.take o ∧ Only g w (w.setCells g o (List.replicate n (.int .i64 0)))
 | 0, w, cs, o, h, _ => ⟨cs, h, rfl, rfl, rfl, rfl, rfl, fun _ _ => rfl⟩
 | n + 1, w, cs, o, h, hn => by
  have h1 := h.set o (.int .i64 0)
  have o1 := Zc w g o (.int .i64 0)
  rw [show cs.toArray.setIfInBounds o (.int .i64 0) = (cs.set o (.int .i64 0)).toArray by simp] at h1
  obtain ⟨cs', h2, h3, o2⟩ := ES n (o + 1) h1 (by simp; omega)
  refine ⟨cs', h2, ?_, ⟨o2.os.trans o1.os, o2.tape.trans o1.tape, o2.output.trans o1.output, o2.size.trans o1.size, fun k hk => (o2.block k hk).trans (o1.block k hk)⟩⟩
  have := congrArg (fun m : List Value => m.take o) h3
  simp only [List.take_take] at this
  rw [show min o (o + 1) = o by omega, List.take_set_of_le (Nat.le_refl _)] at this
  exact this
theorem VX {P : Program} {o : Oper} {w w1 : World} {ρ : Operand → Value} {s : Operand} {t : TypeId} (ho : o.op = .call { callee := .builtin .clear, args := #[s], argTypes := #[t] }) {v : Value} (hv : (Builtin.clear_ #[t] o.type #[ρ s]).run P w = .ok v w1) : (execOp ρ o).run P w = .ok (.value v) w1 := by
 unfold execOp
 simp only [ho, resolve, invoke, builtin, Sem.run_bind, Sem.run_pure, Result.andThen_ok, List.map_toArray, List.map_cons, List.map_nil, hv]
theorem AfT (g cap b : Nat) (but : Int) (l z : List Int) (w : World) (hr : Row w g 3 (Qi (l ++ z)).toArray) (hb : Row w b 3 #[.int .i64 but]) (hgb : b ≠ g) (hl : l.length ≤ 1000) (hc : l.length ≤ cap) (hcm : cap ≤ maxLen) :
 Calls Tryz.prog 303 #[.slice (some ⟨g, 0, none⟩) l.length cap, .func (.func 304) #[] #[.pointer (some ⟨b, 0, none⟩)]] w fun e w' => e = .returned (.slice (some ⟨g, 0, none⟩) (l.filter (· != but)).length cap) ∧ OnRow g w w' ∧ ∃ cs : Array Value, Row w' g 3 cs ∧ ∀ (j : Nat) (u : Value), (Qi (l.filter (· != but)))[j]? = some u → cs[j]? = some u := by
 have H1 := Lh (Af3 g cap b but l z w hr hb hl)
 have Hb := Lh hb
 have Hr := Lh hr
 have hl' : (l.length : Int) ≤ 1000 := by omega
 have hc' : (l.length : Int) ≤ (cap : Int) := by omega
 have hcm' : (cap : Int) ≤ 9223372036854775807 := by unfold maxLen at hcm; omega
 clear hb hr hl hcm
 go_enter Tryz.func303, Tryz.ntmps303
 go_wp2_with fail
 refine H1.out.mono ?_
 clear H1
 rintro e w' ⟨hres, rfl⟩
 rcases hres with ⟨i, rfl, hi, hall⟩ | ⟨rfl, hall⟩
 rotate_left
 · have he : l.filter (· != but) = l := List.filter_eq_self.2 (fun x hx => by simpa using hall x hx)
   have He := Lh he
   clear he hall
   go_wp2_with fail
   go_ret
   refine ⟨by rw [He.out]; rfl, OnRow.of_below (Below.refl _ _), _, Hr.out, fun j u hj => ?_⟩
   rw [He.out] at hj
   rw [Kj]
   simp only [List.getElem?_toArray]
   rw [List.getElem?_append_left (List.getElem?_eq_some_iff.1 hj).1]; exact hj
 have hil := (List.getElem?_eq_some_iff.1 hi).1
 obtain ⟨hd0, hn0⟩ := Del.start (z := z) hi hall
 have hd : (l.take (i + 1)).filter (· != but) = (l.take (i + 1)).filter (· != but) := rfl
 have Hd0 := Lh hd0
 have Hn0 := Lh hn0
 have hiI : (i : Int) < (l.length : Int) := by omega
 have hne1 : ((i : Int) == -1) = false := by simp
 clear hall hd0 hn0 hi hd
 go_wp2_with fail
 go_loopw [5, 6] (fun a j wr => ∃ (k : Nat) (cs : List Int), j = .int .i64 (k : Int) ∧ a = .int .i64 ((((l.take k).filter (· != but)).length : Nat) : Int) ∧ k ≤ l.length ∧ ((l.take k).filter (· != but)).length < k ∧ Hid (Del but l z k cs) ∧ Row wr g 3 (Qi cs).toArray ∧ OnRow g w wr) (fun _ j _ => l.length - (intOf j).toNat)
 case atStart => exact ⟨i + 1, l ++ z, by go_num, by rw [Hn0.out], by omega, by rw [Hn0.out]; omega, Hd0, Hr.out, OnRow.of_below (Below.refl _ _)⟩
 case round =>
  obtain ⟨k, cs, rfl, rfl, hk, hfk, Hd, hrow, hon⟩ := hrel
  by_cases hlt : k < l.length
  · obtain ⟨x, hx⟩ : ∃ x, l[k]? = some x := ⟨_, List.getElem?_eq_getElem hlt⟩
    have hgx := Hd.out.get hx
    have hcx := hrow.cellv (i := k) (v := .int .i64 x) (by simp [Qi, hgx])
    have Hc1 := Lh (Aah b but x wr (hon.row Hb.out hgb))
    have Hx := Lh hx
    have hltI : (k : Int) < (l.length : Int) := by omega
    clear hx hlt hgx
    go_wp2_with fail
    refine Hc1.out.mono ?_
    rintro e w' ⟨rfl, rfl⟩
    by_cases hs : x = but
    · have hs' : (x == but) = true := by simpa using hs
      rw [hs']
      obtain ⟨hd2, hn2⟩ := Hd.out.skip Hx.out hs
      have Hd2 := Lh hd2
      have Hn2 := Lh hn2
      clear hs hs' Hc1 hcx Hx hd2 hn2
      go_wp2_with fail
      go_roundw
      case rel => exact ⟨k + 1, cs, by go_num, by rw [Hn2.out], by omega, by rw [Hn2.out]; omega, Hd2, hrow, hon⟩
      case measure => simp [intOf]; omega
    · have hs' : (x == but) = false := by simpa using hs
      rw [hs']
      obtain ⟨hd2, hn2⟩ := Hd.out.put Hx.out hs hfk
      generalize hn : ((l.take k).filter (· != but)).length = n at *
      have Hd2 := Lh hd2
      have Hn2 := Lh hn2
      have hnI : (n : Int) < (l.length : Int) := by omega
      have hcz : ∃ y, cs[n]? = some y := ⟨_, List.getElem?_eq_getElem (by have := Hd.out.size; rw [List.length_append] at this; omega)⟩
      obtain ⟨y, hy⟩ := hcz
      have hcn := hrow.cellv (i := n) (v := .int .i64 y) (by simp [Qi, hy])
      have hfn := hrow.free n
      have o9 := Zc wr g n (.int .i64 x)
      have r9 := hrow.set n (.int .i64 x)
      rw [show (Qi cs).toArray.setIfInBounds n (.int .i64 x) = (Qi (cs.set n x)).toArray by simp [Qi]] at r9
      have on9 := hon.trans (OnRow.of_only o9)
      clear hs hs' Hc1 hcx Hx hd2 hn2 hy hn o9 hrow hon
      go_wp2_with fail
      go_roundw
      case rel => exact ⟨k + 1, cs.set n x, by go_num, by rw [Hn2.out]; go_num, by omega, by rw [Hn2.out]; omega, Hd2, r9, on9⟩
      case measure => simp [intOf]; omega
  · obtain rfl : k = l.length := by omega
    have hfl : (l.take l.length).filter (· != but) = l.filter (· != but) := by rw [List.take_length]
    rw [hfl] at hfk ⊢
    have hsz := Hd.out.size
    have hhd := Hd.out.head
    rw [hfl] at hhd
    rw [List.length_append] at hsz
    generalize hn : (l.filter (· != but)).length = n at *
    have hnI : (n : Int) < (l.length : Int) := by omega
    have hnI2 : (n : Int) ≤ (cap : Int) := by omega
    obtain ⟨cs', h2, h3, o2⟩ := ES (l.length - n) (cs := Qi cs) n hrow (by rw [Kk]; omega)
    have hclr := Lib.run_clear_slice (P := Tryz.prog) wr 22 3 0 (.int .i64 0) Tryz.underlying22 (fun W => by kernel_rfl) rfl rfl g n (l.length - n) (cap - n) (by omega) (fun j hj => by
     have hj2 : n + j < cs.length := by omega
     rw [hrow.cellv (i := n + j) (v := .int .i64 cs[n + j]) (by simp [Qi, hj2])]; rfl) (fun j hj => hrow.free (n + j))
    have HF : Hid (OnRow g w (wr.setCells g n (List.replicate (l.length - n) (.int .i64 0))) ∧ ∃ cs : Array Value, Row (wr.setCells g n (List.replicate (l.length - n) (.int .i64 0))) g 3 cs ∧ ∀ (j : Nat) (u : Value), (Qi (l.filter (· != but)))[j]? = some u → cs[j]? = some u) := ⟨hon.trans (OnRow.of_only o2), _, h2, fun j u hj => by
     have hjn : j < n := by have := (List.getElem?_eq_some_iff.1 hj).1; rw [Kk] at this; omega
     have e1 : cs'[j]? = (Qi cs)[j]? := by
      have := congrArg (fun m : List Value => m[j]?) h3
      simpa [List.getElem?_take, hjn] using this
     have e2 : cs[j]? = (l.filter (· != but))[j]? := by
      have := congrArg (fun m : List Int => m[j]?) hhd
      simpa [List.getElem?_take, hjn] using this
     simp only [List.getElem?_toArray]
     rw [e1]
     simp only [Qi, List.getElem?_map] at hj ⊢
     rw [e2]; exact hj⟩
    have Hclr := Lh hclr
    clear hclr h2 h3 o2 hon hrow hhd hsz Hd hfl hlt hk
    generalize wr.setCells g n (List.replicate (l.length - n) (.int .i64 0)) = w9 at HF Hclr
    go_wp2_with (refine Zg rfl _ (VX rfl Hclr.out) ?_)
    go_ret
    exact ⟨by rw [hn]; rfl, HF.out⟩
end Go.Proofs.YtdcmppdhdcjpfaaGreat
