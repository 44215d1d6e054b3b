/- Lemmas for CnAll. -/
import Derived.Test.YtcgglolckkeeiaaGreatZn6
import Derived.Test.YtcgglolckkeeiaaGreatZn9
import Derived.Test.YtcgglolckkeeiaaGreatZn7
import Derived.Test.YtcgglolckkeeiaaGreatZn3
import Derived.Test.YtcgglolckkeeiaaGreatZn8
import Derived.Lib.AppendZerosOnto
import Derived.Lib.SliceRun
namespace Go.Proofs.YtcgglolckkeeiaaGreat
set_option linter.unusedVariables false
open Go.ChangeShapes Go.WideShapes Go.RowKit Go.Deep
theorem cells_string : Tryz.prog.cellsOf 9 = 1 := by kernel_rfl
theorem cells_delta : Tryz.prog.cellsOf 42 = 3 := by kernel_rfl
theorem cells_out2 : Tryz.prog.cellsOf 45 = 2 := by kernel_rfl
theorem cells_mutant : Tryz.prog.cellsOf 47 = 8 := by kernel_rfl
theorem cells_muts : Tryz.prog.cellsOf 27 = 1 := by kernel_rfl
theorem cells_tests : Tryz.prog.cellsOf 26 = 1 := by kernel_rfl
theorem cells_score : Tryz.prog.cellsOf 29 = 3 := by kernel_rfl
theorem cells_camp : Tryz.prog.cellsOf 31 = 9 := by kernel_rfl
structure DlRaw (W : World) (x : DlV) : Prop where
 rd : Rd W x.A (ints x.d.path)
 len : x.d.path.length ≤ x.cap
 cap : x.cap ≤ maxLen
 nil : x.A = none → x.cap = 0
 all : ∀ n ∈ x.d.path, InI n
 op : InI x.d.op
 n : InI x.d.n
theorem DlRaw.go {W W' : World} {x : DlV} (h : DlRaw W x) (b : Below W.heap.size W W') : DlRaw W' x := ⟨h.rd.go b, h.len, h.cap, h.nil, h.all, h.op, h.n⟩
instance St.dlraw {x : DlV} : St (fun W => DlRaw W x) := ⟨fun h b => h.go b⟩
theorem DlRaw.none {W : World} {x : DlV} (h : DlRaw W x) (e : x.A = none) : x.d.path = [] := List.eq_nil_of_length_eq_zero (by have := h.nil e; have := h.len; omega)
theorem DlRaw.ok {W : World} {x : DlV} (h : DlRaw W x) (hl : x.d.path.length ≤ 1000000) : DlOk W x := ⟨h.rd, hl⟩
structure MtIn (x : MtV) : Prop where
 len : x.m.d.path.length ≤ x.cap
 cap : x.cap ≤ maxLen
 nil : x.A = none → x.cap = 0
 all : ∀ n ∈ x.m.d.path, InI n
 op : InI x.m.d.op
 n : InI x.m.d.n
 verdict : InI x.m.verdict
 test : InI x.m.test
 kind : InI x.m.kind
 value : InI x.m.value
 dig : x.m.digest.length ≤ maxLen
def MtRaw (W : World) (x : MtV) : Prop := Rd W x.A (ints x.m.d.path) ∧ MtIn x
theorem MtRaw.none {W : World} {x : MtV} (h : MtRaw W x) (e : x.A = Option.none) : x.m.d.path = [] := List.eq_nil_of_length_eq_zero (by have := h.2.nil e; have := h.2.len; omega)
structure CpIn (c : CpV) : Prop where
 tlen : c.tests.length ≤ c.tcap
 tcap : c.tcap ≤ maxLen
 tnil : c.tA = none → c.tcap = 0
 fuel : InI c.fuel
 mlen : c.mts.length ≤ c.mcap
 mcap : c.mcap ≤ maxLen
 mnil : c.mA = none → c.mcap = 0
 mts : ∀ x ∈ c.mts, MtIn x
 alive : InI c.sc.alive
 killed : InI c.sc.killed
 timeout : InI c.sc.timeout
section
variable {H : Type} {enc : TypeId × Value → H} {w : World} {base : Nat} {spare : Nat → Bool} {held : Bool}
set_option maxRecDepth 100000 in
theorem open_deltaC {fuel : Nat} {cs : List Value} {x : DataW H × List MemPlace} (h : DataW.trod enc Tryz.prog w base spare held fuel 42 cs = some x) : ∃ x : DlV, DlRaw w x ∧ cs = x.cells.toList := by
 obtain ⟨hl, n, hf⟩ := trod_field Tryz.underlying42 h
 have hl3 : cs.length = 3 := hl.trans cells_delta
 match cs, hl3 with
 | [a, b, c], _ =>
  obtain ⟨_, h0⟩ := hf 0 _ rfl
  obtain ⟨_, h1⟩ := hf 1 _ rfl
  obtain ⟨_, h2⟩ := hf 2 _ rfl
  obtain ⟨r, hr, e0⟩ := open_intsC h0
  obtain ⟨n1, e1, w1⟩ := trod_i64 Tryz.underlying3 h1
  obtain ⟨n2, e2, w2⟩ := trod_i64 Tryz.underlying3 h2
  simp [cells_int, cells_ints] at e0 e1 e2
  exact ⟨⟨r.addr, r.cap, ⟨r.l, n1, n2⟩⟩, ⟨hr.reads, hr.len, hr.cap, hr.nil, hr.all, w1, w2⟩, by rw [e0, e1, e2]; rfl⟩
set_option maxRecDepth 100000 in
theorem open_outC {fuel : Nat} {cs : List Value} {x : DataW H × List MemPlace} (h : DataW.trod enc Tryz.prog w base spare held fuel 45 cs = some x) : ∃ k v : Int, cs = [.int .i64 k, .int .i64 v] ∧ InI k ∧ InI v := by
 obtain ⟨hl, n, hf⟩ := trod_field Tryz.underlying45 h
 have hl2 : cs.length = 2 := hl.trans cells_out2
 match cs, hl2 with
 | [a, b], _ =>
  obtain ⟨_, h0⟩ := hf 0 _ rfl
  obtain ⟨_, h1⟩ := hf 1 _ rfl
  obtain ⟨n0, e0, w0⟩ := trod_i64 Tryz.underlying3 h0
  obtain ⟨n1, e1, w1⟩ := trod_i64 Tryz.underlying3 h1
  simp [cells_int] at e0 e1
  exact ⟨n0, n1, by rw [e0, e1], w0, w1⟩
set_option maxRecDepth 100000 in
theorem open_scoreC {fuel : Nat} {cs : List Value} {x : DataW H × List MemPlace} (h : DataW.trod enc Tryz.prog w base spare held fuel 29 cs = some x) : ∃ s : Sc, cs = s.cells.toList ∧ InI s.alive ∧ InI s.killed ∧ InI s.timeout := by
 obtain ⟨hl, n, hf⟩ := trod_field Tryz.underlying29 h
 have hl3 : cs.length = 3 := hl.trans cells_score
 match cs, hl3 with
 | [a, b, c], _ =>
  obtain ⟨_, h0⟩ := hf 0 _ rfl
  obtain ⟨_, h1⟩ := hf 1 _ rfl
  obtain ⟨_, h2⟩ := hf 2 _ rfl
  obtain ⟨n0, e0, w0⟩ := trod_i64 Tryz.underlying3 h0
  obtain ⟨n1, e1, w1⟩ := trod_i64 Tryz.underlying3 h1
  obtain ⟨n2, e2, w2⟩ := trod_i64 Tryz.underlying3 h2
  simp [cells_int] at e0 e1 e2
  exact ⟨⟨n0, n1, n2⟩, by rw [e0, e1, e2]; rfl, w0, w1, w2⟩
set_option maxRecDepth 100000 in
theorem open_mutC {fuel : Nat} {cs : List Value} {x : DataW H × List MemPlace} (h : DataW.trod enc Tryz.prog w base spare held fuel 47 cs = some x) : ∃ x : MtV, cs = x.cells ∧ MtRaw w x := by
 obtain ⟨hl, n, hf⟩ := trod_field Tryz.underlying47 h
 have hl8 : cs.length = 8 := hl.trans cells_mutant
 match cs, hl8 with
 | [a0, a1, a2, a3, a4, a5, a6, a7], _ =>
  obtain ⟨_, h0⟩ := hf 0 _ rfl
  obtain ⟨_, h1⟩ := hf 1 _ rfl
  obtain ⟨_, h2⟩ := hf 2 _ rfl
  obtain ⟨_, h3⟩ := hf 3 _ rfl
  obtain ⟨_, h4⟩ := hf 4 _ rfl
  obtain ⟨x, hx, e0⟩ := open_deltaC h0
  obtain ⟨n1, e1, w1⟩ := trod_i64 Tryz.underlying3 h1
  obtain ⟨n2, e2, w2⟩ := trod_i64 Tryz.underlying3 h2
  obtain ⟨k, v, e3, w3, w3'⟩ := open_outC h3
  obtain ⟨s, e4, _, w4⟩ := DataW.trod_string Tryz.underlying9 h4
  simp [cells_int, cells_string, cells_delta, cells_out2, DlV.cells] at e0 e1 e2 e3 e4
  refine ⟨⟨x.A, x.cap, ⟨x.d, n1, n2, k, v, s.data.toList⟩⟩, ?_, hx.rd, hx.len, hx.cap, hx.nil, hx.all, hx.op, hx.n, w1, w2, w3, w3', ?_⟩
  · rw [e0.1, e0.2.1, e0.2.2, e1, e2, e3.1, e3.2, e4]; rfl
  · show s.data.toList.length ≤ maxLen
    rw [Array.length_toList]; exact w4
set_option maxRecDepth 100000 in
theorem open_mutsC {fuel : Nat} {cs : List Value} {x : DataW H × List MemPlace} (h : DataW.trod enc Tryz.prog w base spare held fuel 27 cs = some x) :
 ∃ (A : Option Addr) (cap : Nat) (l : List MtV), cs = [.slice A l.length cap] ∧ l.length ≤ cap ∧ cap ≤ maxLen ∧ (A = none → cap = 0) ∧ Rd w A (mtsC l) ∧ ∀ e ∈ l, MtRaw w e := by
 obtain ⟨A, cap, xss, rfl, h1, h2, hA, h3, h4, h5⟩ := open_rows Tryz.underlying27 h
 obtain ⟨l, rfl, hok⟩ := rows_map MtV.cells (MtRaw w) xss (fun xs hxs => by obtain ⟨n, y, hy⟩ := h5 xs hxs; exact open_mutC hy)
 rw [List.length_map] at h1
 exact ⟨A, cap, l, by rw [List.length_map], h1, h2, hA, by rw [mtsC, List.flatMap_def]; exact h4, hok⟩
set_option maxRecDepth 100000 in
theorem open_testsC {fuel : Nat} {cs : List Value} {x : DataW H × List MemPlace} (h : DataW.trod enc Tryz.prog w base spare held fuel 26 cs = some x) :
 ∃ (A : Option Addr) (cap : Nat) (l : List IntsV), cs = [.slice A l.length cap] ∧ l.length ≤ cap ∧ cap ≤ maxLen ∧ (A = none → cap = 0) ∧ Rd w A (tstC l) ∧ ∀ e ∈ l, e.ok w := by
 obtain ⟨A, cap, xss, rfl, h1, h2, hA, h3, h4, h5⟩ := open_rows Tryz.underlying26 h
 obtain ⟨l, rfl, hok⟩ := rows_map (fun x : IntsV => [x.val]) (fun x => x.ok w) xss (fun xs hxs => by obtain ⟨n, y, hy⟩ := h5 xs hxs; obtain ⟨r, hr, e⟩ := open_intsC hy; exact ⟨r, e, hr⟩)
 rw [List.length_map] at h1
 refine ⟨A, cap, l, by rw [List.length_map], h1, h2, hA, ?_, hok⟩
 rw [show tstC l = (l.map fun x : IntsV => [x.val]).flatten from by
  clear h1 h2 hA h3 h4 h5 hok h
  induction l with
  | nil => rfl
  | cons x l ih => simp only [tstC, List.map_cons, List.flatten_cons, List.singleton_append] at ih ⊢; rw [← ih]]
 exact h4
set_option maxRecDepth 100000 in
theorem open_camp {r : Go.Reach} {b0 : Nat} {v : Value} {d : DataW H} {p : List MemPlace} (hv : Value.okWide Tryz.prog w r b0 31 v) (h : DataW.Trod enc Tryz.prog w base spare held 31 v d p) : ∃ c : CpV, (CpRaw w c ∧ CpIn c) ∧ v = .agg c.cells := by
 obtain ⟨cs, rfl, fuel, x, hx⟩ := trod_val Tryz.underlying31 hv h
 obtain ⟨hl, n, hf⟩ := trod_field Tryz.underlying31 hx
 have hl9 : cs.length = 9 := hl.trans cells_camp
 match cs, hl9 with
 | [a0, a1, a2, a3, a4, a5, a6, a7, a8], _ =>
  obtain ⟨_, h0⟩ := hf 0 _ rfl
  obtain ⟨_, h1⟩ := hf 1 _ rfl
  obtain ⟨_, h2⟩ := hf 2 _ rfl
  obtain ⟨_, h3⟩ := hf 3 _ rfl
  obtain ⟨_, h4⟩ := hf 4 _ rfl
  obtain ⟨q, hq, e0⟩ := open_progC h0
  obtain ⟨tA, tcap, ts, e1, g1, g2, g3, g4, g5⟩ := open_testsC h1
  obtain ⟨n2, e2, w2⟩ := trod_i64 Tryz.underlying3 h2
  obtain ⟨mA, mcap, ms, e3, k1, k2, k3, k4, k5⟩ := open_mutsC h3
  obtain ⟨s, e4, s1, s2, s3⟩ := open_scoreC h4
  simp [cells_prog, cells_int, cells_tests, cells_muts, cells_score, PgV.cells, Sc.cells] at e0 e1 e2 e3 e4
  refine ⟨⟨q, tA, tcap, ts, n2, mA, mcap, ms, s⟩, ⟨⟨hq, g4, g5, fun e => List.eq_nil_of_length_eq_zero (by have := g3 e; show ts.length = 0; omega), k4, fun y hy => ⟨(k5 y hy).1, fun e => (k5 y hy).none e⟩, fun e => List.eq_nil_of_length_eq_zero (by have := k3 e; show ms.length = 0; omega)⟩,
   ⟨g1, g2, g3, w2, k1, k2, k3, fun y hy => (k5 y hy).2, s1, s2, s3⟩⟩, ?_⟩
  rw [e0.1, e0.2.1, e0.2.2, e1, e2, e3, e4.1, e4.2.1, e4.2.2]; rfl
end
end Go.Proofs.YtcgglolckkeeiaaGreat
namespace Go.Proofs.YtcgglolckkeeiaaGreat
set_option linter.unusedVariables false
open Go.RowKit
theorem riseM_head {a : Mt} {l : List Mt} (h : riseM (a :: l)) {b : Mt} (hb : b ∈ l) : cmpD a.d b.d < 0 := riseD_head (riseM_iff.1 h) (List.mem_map_of_mem (f := Mt.d) hb)
theorem riseM_tail {a : Mt} {l : List Mt} (h : riseM (a :: l)) : riseM l := riseM_iff.2 (riseD_tail (riseM_iff.1 h))
theorem riseM_cons {a : Mt} {l : List Mt} (h : riseM l) (ha : ∀ b ∈ l, cmpD a.d b.d < 0) : riseM (a :: l) := by
 cases l with
 | nil => trivial
 | cons b l => exact ⟨ha b (by simp), h⟩
theorem riseM_ext : ∀ {l m : List Mt}, riseM l → riseM m → (∀ x, x ∈ l ↔ x ∈ m) → l = m
 | [], [], _, _, _ => rfl
 | [], b :: m, _, _, h => absurd ((h b).2 (by simp)) (by simp)
 | a :: l, [], _, _, h => absurd ((h a).1 (by simp)) (by simp)
 | a :: l, b :: m, h1, h2, h => by
  have hab : a = b := by
   rcases List.mem_cons.1 ((h a).1 (by simp)) with e | ha
   · exact e
   · rcases List.mem_cons.1 ((h b).2 (by simp)) with e | hb
     · exact e.symm
     · have h3 := riseM_head h1 hb; have h4 := riseM_head h2 ha; rw [cmpD_neg] at h4; omega
  subst hab
  rw [riseM_ext (riseM_tail h1) (riseM_tail h2) fun x => ?_]
  constructor
  · intro hx
    have hlt := riseM_head h1 hx
    rcases List.mem_cons.1 ((h x).1 (by simp [hx])) with e | hm
    · rw [e, cmpD_self] at hlt; omega
    · exact hm
  · intro hx
    have hlt := riseM_head h2 hx
    rcases List.mem_cons.1 ((h x).2 (by simp [hx])) with e | hm
    · rw [e, cmpD_self] at hlt; omega
    · exact hm
theorem riseM_uniq : ∀ {l : List Mt}, riseM l → ∀ {x y : Mt}, x ∈ l → y ∈ l → cmpD x.d y.d = 0 → x = y
 | [], _, _, _, hx, _, _ => by simp at hx
 | a :: l, h, x, y, hx, hy, hc => by
  rcases List.mem_cons.1 hx with e1 | h1
  · rcases List.mem_cons.1 hy with e2 | h2
    · rw [e1, e2]
    · have := riseM_head h h2; rw [e1] at hc; omega
  · rcases List.mem_cons.1 hy with e2 | h2
    · have := riseM_head h h1; rw [e2, cmpD_neg] at hc; omega
    · exact riseM_uniq (riseM_tail h) h1 h2 hc
theorem mergeM_nil (a : List Mt) : mergeM a [] = a := by cases a <;> simp [mergeM]
theorem mergeM_nil' (b : List Mt) : mergeM [] b = b := by simp [mergeM]
theorem mergeM_mem : ∀ {a b : List Mt}, riseM a → riseM b → ∀ x, x ∈ mergeM a b ↔ x ∈ a ∨ (x ∈ b ∧ ∀ y ∈ a, cmpD y.d x.d ≠ 0)
 | [], b, _, _, x => by rw [mergeM_nil']; simp
 | u :: a, [], _, _, x => by rw [mergeM_nil]; simp
 | u :: a, v :: b, ha, hb, x => by
  by_cases h1 : cmpD u.d v.d < 0
  · rw [mergeM, if_pos h1, List.mem_cons, mergeM_mem (riseM_tail ha) hb x, List.mem_cons (a := x) (b := u)]
    have key : x ∈ v :: b → cmpD u.d x.d ≠ 0 := fun hx => by
     rcases List.mem_cons.1 hx with rfl | hx
     · omega
     · have := cmpD_trans h1 (riseM_head hb hx); omega
    constructor
    · rintro (h | h | ⟨h, k⟩)
      · exact .inl (.inl h)
      · exact .inl (.inr h)
      · refine .inr ⟨h, fun y hy => ?_⟩
        rcases List.mem_cons.1 hy with rfl | hy
        · exact key h
        · exact k y hy
    · rintro ((h | h) | ⟨h, k⟩)
      · exact .inl h
      · exact .inr (.inl h)
      · exact .inr (.inr ⟨h, fun y hy => k y (by simp [hy])⟩)
  by_cases h2 : 0 < cmpD u.d v.d
  · rw [mergeM, if_neg h1, if_pos h2, List.mem_cons, mergeM_mem ha (riseM_tail hb) x, List.mem_cons (a := x) (b := v)]
    have key : x = v → ∀ y ∈ u :: a, cmpD y.d x.d ≠ 0 := fun hx y hy => by
     subst hx
     have h3 : cmpD x.d u.d < 0 := by rw [cmpD_neg]; omega
     rcases List.mem_cons.1 hy with rfl | hy
     · omega
     · have := cmpD_trans h3 (riseM_head ha hy); rw [cmpD_neg]; omega
    constructor
    · rintro (h | h | ⟨h, k⟩)
      · exact .inr ⟨.inl h, key h⟩
      · exact .inl h
      · exact .inr ⟨.inr h, k⟩
    · rintro (h | ⟨h | h, k⟩)
      · exact .inr (.inl h)
      · exact .inl h
      · exact .inr (.inr ⟨h, k⟩)
  · have h3 : cmpD u.d v.d = 0 := by omega
    have h4 : u.d = v.d := cmpD_eq.1 h3
    rw [mergeM, if_neg h1, if_neg h2, List.mem_cons, mergeM_mem (riseM_tail ha) (riseM_tail hb) x, List.mem_cons (a := x) (b := u), List.mem_cons (a := x) (b := v)]
    constructor
    · rintro (h | h | ⟨h, k⟩)
      · exact .inl (.inl h)
      · exact .inl (.inr h)
      · refine .inr ⟨.inr h, fun y hy => ?_⟩
        rcases List.mem_cons.1 hy with rfl | hy
        · have := riseM_head hb h; rw [h4]; omega
        · exact k y hy
    · rintro ((h | h) | ⟨h | h, k⟩)
      · exact .inl h
      · exact .inr (.inl h)
      · subst h; exact absurd h3 (k u (by simp))
      · exact .inr (.inr ⟨h, fun y hy => k y (by simp [hy])⟩)
termination_by a b => a.length + b.length
theorem mergeM_rise : ∀ {a b : List Mt}, riseM a → riseM b → riseM (mergeM a b)
 | [], b, _, hb => by rw [mergeM_nil']; exact hb
 | u :: a, [], ha, _ => by rw [mergeM_nil]; exact ha
 | u :: a, v :: b, ha, hb => by
  by_cases h1 : cmpD u.d v.d < 0
  · rw [mergeM, if_pos h1]
    refine riseM_cons (mergeM_rise (riseM_tail ha) hb) fun x hx => ?_
    rcases (mergeM_mem (riseM_tail ha) hb x).1 hx with h | ⟨h, _⟩
    · exact riseM_head ha h
    · rcases List.mem_cons.1 h with rfl | h
      · exact h1
      · exact cmpD_trans h1 (riseM_head hb h)
  by_cases h2 : 0 < cmpD u.d v.d
  · rw [mergeM, if_neg h1, if_pos h2]
    have h3 : cmpD v.d u.d < 0 := by rw [cmpD_neg]; omega
    refine riseM_cons (mergeM_rise ha (riseM_tail hb)) fun x hx => ?_
    rcases (mergeM_mem ha (riseM_tail hb) x).1 hx with h | ⟨h, _⟩
    · rcases List.mem_cons.1 h with rfl | h
      · exact h3
      · exact cmpD_trans h3 (riseM_head ha h)
    · exact riseM_head hb h
  · have h4 : u.d = v.d := cmpD_eq.1 (by omega)
    rw [mergeM, if_neg h1, if_neg h2]
    refine riseM_cons (mergeM_rise (riseM_tail ha) (riseM_tail hb)) fun x hx => ?_
    rcases (mergeM_mem (riseM_tail ha) (riseM_tail hb) x).1 hx with h | ⟨h, _⟩
    · exact riseM_head ha h
    · rw [h4]; exact riseM_head hb h
termination_by a b => a.length + b.length
theorem agreeM_mem {a b : List Mt} (ha : riseM a) (hb : riseM b) (hg : agreeM a b) (x : Mt) : x ∈ mergeM a b ↔ x ∈ a ∨ x ∈ b := by
 rw [mergeM_mem ha hb]
 constructor
 · rintro (h | ⟨h, _⟩)
   · exact .inl h
   · exact .inr h
 · rintro (h | h)
   · exact .inl h
   · by_cases k : ∃ y ∈ a, cmpD y.d x.d = 0
     · obtain ⟨y, hy, hc⟩ := k
       exact .inl (hg y hy x h hc ▸ hy)
     · exact .inr ⟨h, fun y hy hc => k ⟨y, hy, hc⟩⟩
theorem agreeM_symm {a b : List Mt} (h : agreeM a b) : agreeM b a := fun x hx y hy hc => (h y hy x hx (by rw [cmpD_neg]; omega)).symm
end Go.Proofs.YtcgglolckkeeiaaGreat
namespace Go.Proofs.YtcgglolckkeeiaaGreat
set_option linter.unusedVariables false
open Go.RowKit Go.Deep
theorem info_nd : (Tryz.prog.info? 74).map (fun i => (i.zero, i.size, i.bytes)) = some (some (.agg #[.int .i64 0, .int .i64 0]), 2, 16) := by kernel_rfl
theorem at_stopC {ops : Array Oper} {rest : List Oper} {o : Oper} {a : Act} {w : World} {Q : Exit → Act → World → Prop} (h : Stop (wpList Tryz.prog ops Q (o :: rest) a w) id) : wpList Tryz.prog ops Q (o :: rest) a w := h.out
theorem wpList_res {P : Program} {ops : Array Oper} {rest : List Oper} {o : Oper} {a : Act} {w w1 : World} {Q : Exit → Act → World → Prop} (hgd : o.guard = none) (v : Value) (hv : (execOp a.eval o).run P w = .ok (.value v) w1) (h : wpList P ops Q rest (a.put o.dst v) w1) : wpList P ops Q (o :: rest) a w :=
 wpList_plain hgd fun _ hK => by unfold Oper.wp; rw [hv]; exact hK _ _ h
theorem run_exec_append2 {P : Program} {o : Oper} {w w1 : World} {ρ : Operand → Value} {s x : Operand} {t u : TypeId} (ho : o.op = .call { callee := .builtin .append, args := #[s, x], argTypes := #[t, u] }) {v : Value} (hv : (Builtin.append_ #[t, u] o.type #[ρ s, ρ x]).run P w = .ok v w1) : (execOp ρ o).run P w = .ok (.value v) w1 := by
 unfold execOp
 simp only [ho, resolve, invoke, builtin, Sem.run_bind, Sem.run_pure, Result.andThen_ok, List.map_toArray, List.map_cons, List.map_nil, hv]
set_option maxRecDepth 100000 in
set_option maxHeartbeats 2000000 in
theorem growN_any (n : Nat) (hn : n ≤ 1000000) (w : World) : Calls Tryz.prog 245 #[.slice none 0 0, .int .i64 (n : Int)] w fun e w' => ∃ A cap, e = .returned (.slice A 0 cap) ∧ w'.ownsRow w.heap.size 74 2 (.slice A 0 cap) 0 [] ∧ Below w.heap.size w w' := by
 have h1 : ¬ ((n : Int) < 0) := by omega
 have h2 : wrap64 ((0 : Int) - 0) = 0 := by unfold wrap64; omega
 have h3 : wrap64 ((n : Int) - 0) = (n : Int) := by unfold wrap64; omega
 have h4 : IntKind.i64.wrap (n : Int) = (n : Int) := IntWalk.i64_in _ (by omega)
 by_cases h0 : n = 0
 · subst h0
   go_enter Tryz.func245, Tryz.ntmps245
   go_wp2
   go_ret
   exact ⟨_, _, rfl, World.ownsRow_nil _ _ _ _, Below.refl _ _⟩
 · have hp : (0 : Int) < (n : Int) := by omega
   obtain ⟨i0, hi0, hz0, hz1, hz2⟩ := info_parts info_nd
   have hold : (Builtin.firstCells i0.size 0 (.slice none 0 0)).run Tryz.prog w.drew = .ok ([] : List Value).toArray w.drew := run_firstCells_none w.drew i0.size 0 0 0
   have hrz := fun ty => Lib.run_append_grow_zeros (P := Tryz.prog) w 23 3 ty 74 i0 _ .i64 .i64 Tryz.underlying23 Tryz.underlying3 hi0 hz0 none 0 0 [] hold n (by omega) (by rw [hz1]; omega) (by omega) (by omega) (by rw [hz2]; omega) (growslice_fits (by omega) (by rw [hz2]; omega))
   simp only [Nat.zero_add] at hrz
   have hG1 := grownCap_ge w n 0 74
   have hG2 := grownCap_le_maxLen w n 0 74 (by unfold maxLen; omega)
   generalize grownCap w n 0 74 = G at hrz hG1 hG2
   have hcs : ((([] : List Value).toArray ++ Builtin.zeroCells (Value.agg #[.int .i64 0, .int .i64 0]).cells n ++ Builtin.zeroCells (Value.agg #[.int .i64 0, .int .i64 0]).cells (G - n)) : Array Value).size = G * 2 := by
    simp only [Array.size_append, size_zeroCells]
    show 0 + n * 2 + (G - n) * 2 = G * 2
    omega
   generalize (([] : List Value).toArray ++ Builtin.zeroCells (Value.agg #[.int .i64 0, .int .i64 0]).cells n ++ Builtin.zeroCells (Value.agg #[.int .i64 0, .int .i64 0]).cells (G - n)) = cs at hrz hcs
   have Hrz := Lib.hid hrz
   have hG3 : G ≤ 9223372036854775807 := by unfold maxLen at hG2; omega
   clear hrz hi0 hz0 hz1 hz2 hold h0
   go_enter Tryz.func245, Tryz.ntmps245
   go_wp2_with (at_builtin; refine at_stopC ?_)
   refine Stop.to ?_
   refine wpList_res rfl _ (run_exec_append2 rfl (Hrz.out _)) ?_
   have rn : Row (w.drew.alloc (.cells cs 74)) w.heap.size 74 cs := Row.new w.drew _ _
   have bn : Below w.heap.size w (w.drew.alloc (.cells cs 74)) := (⟨rfl, rfl, rfl, Nat.le_refl _, fun _ _ => rfl⟩ : Below w.heap.size w w.drew).trans ((Below.refl _ w.drew).alloc (Nat.le_refl _) _)
   generalize w.drew.alloc (.cells cs 74) = w1 at rn bn ⊢
   clear Hrz
   go_wp2
   go_ret
   exact ⟨_, _, rfl, ⟨by simp, .inr ⟨w.heap.size, G, cs, rfl, Nat.le_refl _, rn, Nat.zero_le _, hG2, hcs, by simp⟩⟩, bn⟩
structure PtV where
 addr : Option Addr
 cap : Nat
 body : List Nd
def PtV.val (q : PtV) : Value := .slice q.addr q.body.length q.cap
def PtV.rd (q : PtV) (w : World) : Prop := Rd w q.addr (q.body.flatMap Nd.cells) ∧ (q.addr = none → q.body = [])
def partsL (ps : List PtV) : List Nd := ps.flatMap PtV.body
theorem PtV.rd.go {q : PtV} {w w' : World} (h : q.rd w) (b : Below w.heap.size w w') : q.rd w' := ⟨h.1.go b, h.2⟩
theorem ndc_len (l : List Nd) : (l.flatMap Nd.cells).length = l.length * 2 := by
 induction l with
 | nil => rfl
 | cons a l ih => simp only [List.flatMap_cons, List.length_append, ih, List.length_cons]; simp [Nd.cells]; omega
theorem ndc_one (l : List Nd) : ∀ u ∈ l.flatMap Nd.cells, u.oneCell' = true := by
 intro u hu
 simp only [List.mem_flatMap, Nd.cells, List.mem_cons, List.not_mem_nil, or_false] at hu
 obtain ⟨a, _, rfl | rfl⟩ := hu <;> rfl
theorem append_nds {W : World} {B n m cap : Nat} {v : Value} {xs : List Value} {A : Option Addr} {l : List Nd} (hown : W.ownsRow B 74 2 v n xs) (hB : B ≤ W.heap.size) (hr : Rd W A (l.flatMap Nd.cells)) (hm : m = l.length) (hA : A = none → m = 0) (hb : n + m ≤ 1000000) :
 ∃ v' W', (Builtin.append_ #[23, 23] 23 #[v, .slice A m cap]).run Tryz.prog W = .ok v' W' ∧ W'.ownsRow B 74 2 v' (n + m) (xs ++ l.flatMap Nd.cells) ∧ W.grownBy W' v.ownBlock ∧ (v'.ownBlock = v.ownBlock ∨ v'.ownBlock = some W.heap.size) :=
 append_rd 23 74 _ 2 16 Tryz.underlying23 info_nd rfl (by decide) (by decide) hown hB hr (by rw [ndc_len, hm]) (ndc_one l) hA hb
theorem own_sl {w : World} {base n size : Nat} {e : TypeId} {v : Value} {xs : List Value} (h : w.ownsRow base e size v n xs) : ∃ A cap, v = .slice A n cap := by
 rcases h.2 with ⟨rfl, h0⟩ | ⟨g, cap, cur, rfl, _⟩
 · subst h0; exact ⟨_, _, rfl⟩
 · exact ⟨_, _, rfl⟩
theorem partsL_succ {ps : List PtV} {k : Nat} {q : PtV} (h : ps[k]? = some q) : partsL (ps.take (k + 1)) = partsL (ps.take k) ++ q.body := by
 unfold partsL
 rw [List.take_add_one, h]
 simp
theorem partsL_le (ps : List PtV) (k : Nat) : (partsL (ps.take k)).length ≤ (partsL ps).length := by
 have : partsL ps = partsL (ps.take k) ++ partsL (ps.drop k) := by
  unfold partsL
  rw [← List.flatMap_append, List.take_append_drop]
 rw [this]; simp
set_option maxRecDepth 100000 in
set_option maxHeartbeats 4000000 in
theorem concat_any (A : Option Addr) (m cp : Nat) (ps : List PtV) (w : World) (hm : m = ps.length) (hr : Rd w A (ps.map PtV.val)) (hps : ∀ q ∈ ps, q.rd w) (hl : (partsL ps).length ≤ 1000000) (hml : m ≤ 1000) :
 Calls Tryz.prog 240 #[.slice A m cp] w fun e w' => ∃ v, e = .returned v ∧ w'.ownsRow w.heap.size 74 2 v (partsL ps).length ((partsL ps).flatMap Nd.cells) ∧ Below w.heap.size w w' := by
 have Hr := Lib.hid hr
 have Hps := Lib.hid hps
 have Hm := Lib.hid hm
 have hl' := hl
 clear hr hps hm
 go_enter Tryz.func240, Tryz.ntmps240
 go_wp2
 go_loopw [3, 11] (fun s i wr => ∃ k : Nat, i = .int .i64 (k : Int) ∧ s = .int .i64 ((partsL (ps.take k)).length : Int) ∧ k ≤ m ∧ w = wr) (fun _ i _ => m - (intOf i).toNat)
 case atStart => exact ⟨0, rfl, by simp [partsL], Nat.zero_le _, rfl⟩
 case round =>
  obtain ⟨k, rfl, rfl, hk, rfl⟩ := hrel
  by_cases hlt : k < m
  · obtain ⟨q, hq⟩ : ∃ q, ps[k]? = some q := ⟨_, List.getElem?_eq_getElem (by have := Hm.out; omega)⟩
    obtain ⟨ad, rfl, hc⟩ := Hr.out k q.val (by simp [hq])
    have hkI : (k : Int) < (m : Int) := by omega
    have hs := partsL_succ hq
    have hle := partsL_le ps (k + 1)
    rw [hs, List.length_append] at hle
    have e1 : IntKind.i64.wrap (((partsL (ps.take k)).length : Int) + (q.body.length : Int)) = ((partsL (ps.take k)).length : Int) + (q.body.length : Int) := IntWalk.i64_in _ (by omega)
    have e2 : ¬ (((partsL (ps.take k)).length : Int) + (q.body.length : Int) < 0) := by omega
    have ewk : IntKind.i64.wrap ((k : Int) + 1) = (k : Int) + 1 := IntWalk.i64_in _ (by omega)
    have Hs : Hid ((((partsL (ps.take k)).length : Int) + (q.body.length : Int)) = ((partsL (ps.take (k + 1))).length : Int)) := by show _ = _; rw [hs, List.length_append]; omega
    unfold PtV.val at hc
    clear hs hle hq
    generalize (partsL (ps.take k)).length = sk at *
    go_wp2
    go_roundw
    case rel => exact ⟨k + 1, by go_num, by rw [← Hs.out], by omega, by trivial⟩
    case measure => simp [intOf]; omega
  · obtain rfl : k = m := by omega
    have ht : ps.take k = ps := by rw [Hm.out]; exact List.take_length
    rw [ht]
    obtain ⟨n, hn⟩ : ∃ n, n = (partsL ps).length := ⟨_, rfl⟩
    have Hn := Lib.hid hn
    rw [← hn] at hl ⊢
    clear hlt hk ht hn hl'
    go_wp2_with fail
    refine (growN_any n hl w).mono ?_
    rintro e w1 ⟨A1, c1, rfl, hown, b1⟩
    have Hown := Lib.hid hown
    have Hb1 := Lib.hid b1
    clear hown b1
    go_wp2
    go_loopw [6, 27] (fun s i W => ∃ (k' : Nat) (v : Value), s = v ∧ i = .int .i64 (k' : Int) ∧ k' ≤ k ∧ Hid (W.ownsRow w.heap.size 74 2 v (partsL (ps.take k')).length ((partsL (ps.take k')).flatMap Nd.cells)) ∧ Hid (Below w.heap.size w W)) (fun _ i _ => k - (intOf i).toNat)
    case atStart => exact ⟨0, _, rfl, rfl, Nat.zero_le _, by simpa [partsL] using Hown, Hb1⟩
    case round =>
     clear Hown Hb1
     obtain ⟨j, v, rfl, rfl, hj, Hown, Hb⟩ := hrel
     by_cases hlt : j < k
     · obtain ⟨q, hq⟩ : ∃ q, ps[j]? = some q := ⟨_, List.getElem?_eq_getElem (by have := Hm.out; omega)⟩
       obtain ⟨ad, rfl, hc⟩ := (Hr.out.go Hb.out) j q.val (by simp [hq])
       have hqr := (Hps.out q (List.mem_of_getElem? hq)).go Hb.out
       have hjI : (j : Int) < (k : Int) := by omega
       have hs := partsL_succ hq
       have hle := partsL_le ps (j + 1)
       rw [hs, List.length_append, ← Hn.out] at hle
       have ewj : IntKind.i64.wrap ((j : Int) + 1) = (j : Int) + 1 := IntWalk.i64_in _ (by omega)
       obtain ⟨v2, W2, hrun, hown2, hgr, _⟩ := append_nds (cap := q.cap) Hown.out Hb.out.size hqr.1 (rfl : q.body.length = q.body.length) (fun h => by rw [hqr.2 h]; rfl) (by omega)
       have b2 := below_grown_own (Below.refl w.heap.size _) Hown.out hgr Hb.out.size (Nat.le_refl _)
       have Hown2 : Hid (W2.ownsRow w.heap.size 74 2 v2 (partsL (ps.take (j + 1))).length ((partsL (ps.take (j + 1))).flatMap Nd.cells)) := by
        show W2.ownsRow _ _ _ _ _ _
        rw [hs, List.length_append, List.flatMap_append]; exact hown2
       have Hb2 := Lib.hid (Hb.out.trans b2)
       have Hrun := Lib.hid hrun
       obtain ⟨A2, c2, rfl⟩ := own_sl hown2
       obtain ⟨A3, c3, rfl⟩ := own_sl Hown.out
       unfold PtV.val at hc
       clear hs hle hq hrun hown2 hgr b2 hqr Hown Hb
       go_wp2_with (at_builtin; refine at_stopC ?_)
       refine Stop.to ?_
       refine wpList_res rfl _ (run_exec_append rfl Hrun.out) ?_
       clear Hrun hc
       go_wp2
       go_roundw
       case rel => exact ⟨j + 1, _, rfl, by go_num, by omega, Hown2, Hb2⟩
       case measure => simp [intOf]; omega
     · obtain rfl : j = k := by omega
       have ht : ps.take j = ps := by rw [Hm.out]; exact List.take_length
       rw [ht] at Hown
       obtain ⟨A3, c3, rfl⟩ := own_sl Hown.out
       clear hlt hj ht
       go_wp2
       go_ret
       exact ⟨_, rfl, Hown.out, Hb.out⟩
end Go.Proofs.YtcgglolckkeeiaaGreat
namespace Go.Proofs.YtcgglolckkeeiaaGreat
set_option linter.unusedVariables false
open Go.RowKit Go.Deep
theorem rd_rowP {W : World} {g : Nat} {t : TypeId} {cs : List Value} (h : Row W g t cs.toArray) : Rd W (some ⟨g, 0, none⟩) cs := fun j u hj => ⟨_, rfl, by
 have := h.cellv (i := j) (v := u) (by simpa using hj)
 unfold Addr.add
 by_cases h0 : j = 0
 · subst h0; exact this
 · rw [if_neg h0]; simpa using this⟩
theorem info_nds : (Tryz.prog.info? 23).map (fun i => (i.zero, i.size)) = some (some (.slice none 0 0), 1) := by kernel_rfl
structure NdsR (l : List Nd) (w w' : World) (e : Ending) : Prop where
 ex : ∃ v, e = .returned v ∧ w'.ownsRow w.heap.size 74 2 v l.length (l.flatMap Nd.cells) ∧ Below w.heap.size w w'
set_option maxRecDepth 100000 in
set_option maxHeartbeats 2000000 in
theorem joined_any (A : Option Addr) (m cp : Nat) (ps : List PtV) (w : World) (hm : m = ps.length) (hr : Rd w A (ps.map PtV.val)) (hps : ∀ q ∈ ps, q.rd w) (hl : (partsL ps).length ≤ 1000000) (hml : m ≤ 1000) :
 Calls Tryz.prog 225 #[.slice A m cp] w (fun e w' => NdsR (partsL ps) w w' e) := by
 have Hc := Lib.hid (concat_any A m cp ps w hm hr hps hl hml)
 clear hm hr hps hl hml
 go_enter Tryz.func225, Tryz.ntmps225
 go_wp2_with fail
 refine Hc.out.mono ?_
 rintro e w1 ⟨v, rfl, hown, b1⟩
 obtain ⟨A3, c3, rfl⟩ := own_sl hown
 go_wp2
 go_ret
 exact ⟨_, rfl, hown, b1⟩
set_option maxRecDepth 100000 in
set_option maxHeartbeats 2000000 in
theorem part_any (A : Option Addr) (cap : Nat) (l : List Nd) (q : Nat) (t : Tr) (w : World) (hat : At l q t) (hr : Rd w A (l.flatMap Nd.cells)) (hl : l.length ≤ 1000) (hlc : l.length ≤ cap) (hcm : cap ≤ maxLen) :
 Calls Tryz.prog 212 #[.slice A l.length cap, .int .i64 (q : Int)] w (fun e w' => NdsR t.flat w w' e) := by
 have he := end_any A cap l (q : Int) w hr hl
 rw [hat.endZ] at he
 have hle := hat.le
 have hts := t.size_eq
 obtain ⟨ad, rfl, _⟩ := nd_at hr hat.root
 obtain ⟨rest, hrest⟩ := hat.here
 have hpart : ∀ W, Rd W (some ad) (l.flatMap Nd.cells) → Rd W (some (ad.add (q * 2))) (t.flat.flatMap Nd.cells) := by
  intro W h j u hj
  obtain ⟨ad', e, hc⟩ := h.part (q * 2) (t.flat.flatMap Nd.cells) (fun j u hj => by
   have h1 : l = l.take q ++ (t.flat ++ rest) := by rw [← hrest, List.take_append_drop]
   have h2 : (l.take q).length = q := by rw [List.length_take]; omega
   rw [h1, List.flatMap_append, List.getElem?_append_right (by rw [ndc_len, h2]; omega), ndc_len, h2, Nat.add_sub_cancel_left, List.flatMap_append, List.getElem?_append_left (List.getElem?_eq_some_iff.1 hj).1]
   exact hj) (by rw [t.flat_eq]; simp [Nd.cells])
  injection e with e
  subst e
  exact ⟨_, rfl, hc j u hj⟩
 have Hpart := Lib.hid hpart
 have He := Lib.hid he
 have Hr := Lib.hid hr
 have Hlen : Hid (t.flat.length = t.size) := rfl
 generalize hsz : t.size = sz at *
 have hcm' : (cap : Int) ≤ 9223372036854775807 := by unfold maxLen at hcm; omega
 have hq1 : (q : Int) ≤ ((q + sz : Nat) : Int) := by omega
 have hq2 : ((q + sz : Nat) : Int) ≤ (cap : Int) := by omega
 have hq3 : ¬ (((q + sz : Nat) : Int) < 0) := by omega
 have hs1 : (1 : Int) ≤ (sz : Int) := by omega
 clear he hr hpart hrest hat hts hsz
 go_enter Tryz.func212, Tryz.ntmps212
 go_wp2_with fail
 refine He.out.mono ?_
 rintro e w1 ⟨rfl, b1⟩
 have Hr1 := Lib.hid (Hr.out.go b1)
 have Hb1 := Lib.hid b1
 clear He Hr b1
 go_wp2_with (refine at_slice _ _ _ rfl ?_)
 refine Stop.to ?_
 have hv : PtV.val ⟨some (ad.add (q * 2)), cap - q, t.flat⟩ = .slice (some (ad.add (q * 2))) (q + sz - q) (cap - q) := by unfold PtV.val; rw [Hlen.out, Nat.add_sub_cancel_left]
 refine wpList_slice_gen rfl 292 1 _ rfl 23 #[PtV.val ⟨some (ad.add (q * 2)), cap - q, t.flat⟩] ?_ ?_
 · rw [hv]
   exact bs_run Tryz.underlying292 info_nds (by decide) (by decide) (by kernel_rfl)
 intro G w2 hG rG bG
 have b2 := Hb1.out.trans ((bG.mono hG).mono Hb1.out.size)
 have hj := joined_any (some ⟨G, 0, none⟩) 1 1 [⟨some (ad.add (q * 2)), cap - q, t.flat⟩] w2 rfl (rd_rowP (cs := [PtV.val ⟨some (ad.add (q * 2)), cap - q, t.flat⟩]) rG) (fun x hx => by
  rw [List.mem_singleton.1 hx]
  exact ⟨Hpart.out _ (Hr1.out.go (bG.mono hG)), fun e => by cases e⟩) (by simp [partsL]; have := Hlen.out; omega) (by omega)
 have Hj := Lib.hid hj
 have Hb2 := Lib.hid b2
 clear hj b2 rG bG hG Hr1 Hb1 Hpart hv
 go_wp2_with fail
 refine Hj.out.mono ?_
 rintro e w3 ⟨v, rfl, hown, b3⟩
 rw [show partsL [⟨some (ad.add (q * 2)), cap - q, t.flat⟩] = t.flat by simp [partsL]] at hown
 obtain ⟨A3, c3, rfl⟩ := own_sl hown
 go_wp2
 go_ret
 exact ⟨_, rfl, own_base hown Hb2.out.size, Hb2.out.trans (b3.mono Hb2.out.size)⟩
end Go.Proofs.YtcgglolckkeeiaaGreat
namespace Go.Proofs.YtcgglolckkeeiaaGreat
set_option linter.unusedVariables false
open Go.RowKit Go.Deep
theorem bs_int0 (W : World) : (Instr.buildSlice 22 0 #[]).run Tryz.prog W = .ok (.slice (some ⟨W.heap.size, 0, none⟩) 0 0) (W.alloc (.cells #[] 3)) := by kernel_rfl
theorem own_rdB {w : World} {base n : Nat} {e : TypeId} {v : Value} {xs : List Value} (h : w.ownsRow base e 1 v n xs) : ∃ A cap, v = .slice A n cap ∧ Rd w A xs ∧ n ≤ cap ∧ (A = none → cap = 0) ∧ ∀ ad, A = some ad → base ≤ ad.block := by
 obtain ⟨A, cap, rfl, h1, h2, h3⟩ := own_rd h
 refine ⟨A, cap, rfl, h1, h2, h3, fun ad e => ?_⟩
 rcases h.2 with ⟨e2, _⟩ | ⟨g, c, cur, e2, hb, _⟩
 · injection e2 with e3; rw [e] at e3; cases e3
 · injection e2 with e3; rw [e] at e3; injection e3 with e3; rw [e3]; exact hb
set_option maxRecDepth 100000 in
set_option maxHeartbeats 2000000 in
theorem clone_any (A : Option Addr) (cap : Nat) (l : List Int) (w : World) (hr : Rd w A (ints l)) (hnil : A = none → l = []) (hl : l.length ≤ 100000) :
 Calls Tryz.prog 224 #[.slice A l.length cap] w fun e w' => IntsR l w w' e := by
 rcases A with _ | ad
 · have h0 := hnil rfl
   subst h0
   have hq := fun W : World => Lib.run_eql_slice_nil (P := Tryz.prog) W 22 3 none 0 cap 0 0 Tryz.underlying22
   simp only [Option.isNone_none] at hq
   rw [show ([] : List Int).length = 0 from rfl]
   go_enter Tryz.func224, Tryz.ntmps224
   go_wp2_with fail
   go_ret
   exact ⟨_, rfl, World.ownsRow_nil _ _ _ _, Below.refl _ _⟩
 · have Hr := Lib.hid hr
   have Hl := Lib.hid hl
   clear hr hl hnil
   have hq := fun W : World => Lib.run_eql_slice_nil (P := Tryz.prog) W 22 3 (some ad) l.length cap 0 0 Tryz.underlying22
   simp only [Option.isNone_some] at hq
   go_enter Tryz.func224, Tryz.ntmps224
   go_wp2_with (refine at_slice _ _ _ rfl ?_)
   refine Stop.to ?_
   refine wpList_res rfl _ (run_exec_bslice [] rfl (bs_int0 w)) ?_
   have rG := Row.new w 3 #[]
   have b1 := (Below.refl w.heap.size w).alloc (Nat.le_refl _) (.cells #[] 3)
   generalize w.alloc (.cells #[] 3) = w1 at rG b1 ⊢
   obtain ⟨v', w2, hrun, hown, hgr, _⟩ := append_rd (P := Tryz.prog) 22 3 (.int .i64 0) 1 8 Tryz.underlying22 info_int rfl (by decide) (by decide) (own_emptyS (B := w.heap.size) (size := 1) (Nat.le_refl _) rG) b1.size (Hr.out.go b1) (m := l.length) (cap := cap) (by simp [ints]) (ints_one l) (by simp) (by have := Hl.out; omega)
   rw [Nat.zero_add, List.nil_append] at hown
   have b2 := below_grown_own b1 (own_emptyS (B := w.heap.size) (size := 1) (Nat.le_refl _) rG) hgr b1.size (Nat.le_refl _)
   have Hrun := Lib.hid hrun
   clear hrun hgr rG
   go_wp2_with (refine at_stopC ?_)
   refine Stop.to ?_
   refine wpList_res rfl _ (run_exec_append rfl Hrun.out) ?_
   obtain ⟨A3, c3, rfl⟩ := own_sl hown
   go_wp2
   go_ret
   exact ⟨_, rfl, hown, b2⟩
end Go.Proofs.YtcgglolckkeeiaaGreat
