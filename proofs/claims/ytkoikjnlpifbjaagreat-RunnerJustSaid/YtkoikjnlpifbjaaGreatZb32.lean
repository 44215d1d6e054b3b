/- Lemmas for RunnerJustP. -/
import Derived.Test.YtkoikjnlpifbjaaGreatZb26
import Derived.Test.YtkoikjnlpifbjaaGreatZb8
import Derived.Test.YtkoikjnlpifbjaaGreatZb31
import Derived.Test.YtkoikjnlpifbjaaGreatZb2
import Derived.Test.YtkoikjnlpifbjaaGreatZb1
import Derived.BigFrameIn
import Derived.Deep.WholeRow
import Derived.Deep.Cut
import Derived.Deep.RegionHeld3
import Derived.Laws.EntriesVeiled
import Derived.Test.YtkoikjnlpifbjaaGreatRows
set_option linter.unusedVariables false
set_option linter.unusedSimpArgs false
set_option maxRecDepth 100000
set_option maxHeartbeats 16000000
namespace Go.Proofs.YtkoikjnlpifbjaaGreat
open Go.RowKit Go.Deep
attribute [local go_sem] Oper.semAt_some
def EvV.nums (e : EvV) : List Int := [e.var, e.at_, e.val]
def RunV.nums (r : RunV) : List Int := r.evs.flatMap EvV.nums ++ [r.kind, r.value]
theorem AdD : ∀ l : List EvV, (l.flatMap EvV.nums).length = 3 * l.length
 | [] => rfl
 | a :: l => by have := AdD l; simp only [LI, Lf, Le]; rw [this]; simp [EvV.nums]; omega
abbrev AkD := { x : Int // InI x }
theorem AaB (bs : Nat) (r : RunV) (Kp : World → World → Prop) (w : World) (hok : r.ok w) (hrow : Row w bs 114 r.cells) (hl : r.evs.length ≤ 1000000)
 (hRun : ∀ A B, Kp A B → Row A bs 114 r.cells → Row B bs 114 r.cells) (hRd : ∀ A B, Kp A B → Rd A r.addr (r.evs.flatMap EvV.cells) → Rd B r.addr (r.evs.flatMap EvV.cells))
 (hSz : ∀ A B, Kp A B → A.heap.size ≤ B.heap.size) (hEv : ∀ A B k cs, w.heap.size ≤ k → Kp A B → Row A k 263 cs → Row B k 263 cs) :
 Acs Tryz.prog 161 #[.pointer (some ⟨bs, 0, none⟩)] (fun x : AkD => #[.int .i64 x.1]) (fun _ => False) Kp (fun xs => xs.map (·.1) = r.nums) (fun _ => True) (3 * r.evs.length + 2) w := by
 intro l J Jx W _ u hJ ax hY h0;have ae : Below w.heap.size w W := ⟨u.os, u.tape, u.output, u.size, fun k g => u.block k g (by simp)⟩;have an := hrow.below ae hrow.lt;have ar := hok.reads.go ae;have al := Lv hok;have m := Lv hRun;have aj := Lv hRd;have ai := Lv hEv;have ak := Lv hSz;have ag := ae.size;have HJ := Lv hJ;have HY := Lv hY;have Hl := Lv hl;clear hrow u hok hRun hRd hEv hSz hJ ax hY ae hl;have ay := an.cellv (i := 3) (v := .slice r.addr r.evs.length r.cap) rfl;refine callsIn_of_wp Tryz.func161 rfl trivial ?_ rfl;simp only [Tryz.ntmps161, Lm, Le, Lu, Nat.reduceAdd, Nat.reduceSub, Lk, Ll, Ly, LH, Lp, Ln];gi_wp2;gi_loopw [8] (fun i wr => ∃ (k : Nat) (ac : List AkD), i = .int .i64 (k : Int) ∧ k ≤ r.evs.length ∧ Row wr bs 114 r.cells ∧ Rd wr r.addr (r.evs.flatMap EvV.cells) ∧ ac.map (·.1) = (r.evs.take k).flatMap EvV.nums ∧ w.heap.size ≤ wr.heap.size ∧ J ac wr) (fun i _ => r.evs.length - (intOf i).toNat)
 case atStart => exact ⟨0, [], by simp, Nat.zero_le _, an, ar, by simp, ag, h0⟩
 case round =>
  clear an ar ay h0 ag;obtain ⟨k, ac, rfl, g, p, y, ab, ag, c⟩ := hrel
  have a0 : ac.length = 3 * k := by
   have := congrArg List.length ab;rw [Lz, AdD, L7] at this; omega
  have ah := Lv ab;clear ab;by_cases af : k < r.evs.length
  · obtain ⟨e, he⟩ : ∃ e, r.evs[k]? = some e := ⟨_, La af⟩;obtain ⟨ad, am, aq⟩ := y.part (k * 3) e.cells (Eu r.evs k e he) (by simp [EvV.cells]);have He := Lv he;have aw := Lv aq;have a1 : (k : Int) < (r.evs.length : Int) := by omega
    have a2 := Hl.out;clear he aq;rw [am];have av := Lv am;clear am;have ap : Hid (e.cells.toArray.all (·.oneCell') = true) := by show _ = true; simp [EvV.cells, Value.oneCell']
    gi_wp2_with (first
     | (refine Ja rfl 263 _ rfl (ad.add (k * 3)) rfl e.cells _ aw.out Tryz.underlying263 rfl (by kernel_rfl) ?_)
     | (refine AbK _ _ _ rfl ?_))
    refine Stop.to ?_;refine Q5 rfl 263 _ _ rfl wr.heap.size e.cells.toArray rfl rfl 263 _ (heap_alloc_new wr _) (by kernel_rfl) rfl ap.out ?_;rw [World.setRow_alloc_new];have rx := Row.new wr 263 e.cells.toArray;have p := p.alloc (.cells e.cells.toArray 263);have y := St.alloc (S := fun W => Rd W r.addr (r.evs.flatMap EvV.cells)) y (.cells e.cells.toArray 263);have c := HJ.out _ _ _ none c (World.grownBy_alloc wr (.cells e.cells.toArray 263) none) (fun r e => by cases e);have aa : ac.length + 3 ≤ 3 * r.evs.length := by omega
    have z : Hid e.ok := al.out.evs e (Lj He.out);clear a0;have b : w.heap.size ≤ (wr.alloc (.cells e.cells.toArray 263)).heap.size := by simp; omega
    generalize wr.alloc (.cells e.cells.toArray 263) = w2 at rx p y c b ⊢;obtain ⟨gx, au⟩ : ∃ gx, gx = wr.heap.size := ⟨_, rfl⟩;have ao : w.heap.size ≤ gx := by omega
    rw [← au] at rx ⊢;clear au ag;have c0 := rx.cellv (i := 0) (v := .int .i64 e.var) rfl;obtain ⟨fn, s, d, n, q, o⟩ := HY.out _ ⟨e.var, z.out.1⟩ w2 c (by have := aa; (try simp only [Lf, Le, Lu]); omega)
    have t := Lv o;have Hj := Lv c;clear o c;gi_wp2;refine ⟨rfl, t.out.mono ?_⟩;rintro e' w3 (⟨rfl, c, g⟩ | ⟨rfl, j⟩);rotate_left
    · clear q c0;gi_wp2;refine ⟨fun _ h => (by cases h), ?_⟩;gi_wp2;refine bodyPost_ret (results_none rfl _ _ _) rfl ?_;exact ⟨⟨_, rfl⟩, .inr ⟨_, trivial, j⟩⟩
    have rx := ai.out _ _ _ _ ao g rx;have b := Li b (ak.out _ _ g);have p := m.out _ _ g p;have y := aj.out _ _ g y;clear q c0 t Hj;have c1 := rx.cellv (i := 1) (v := .int .i64 e.at_) rfl;obtain ⟨fn, s, d, n, q, o⟩ := HY.out _ ⟨e.at_, z.out.2.1⟩ w3 c (by have := aa; (try simp only [Lf, Le, Lu]); omega)
    have t := Lv o;have Hj := Lv c;clear o c;gi_wp2;refine ⟨rfl, t.out.mono ?_⟩;rintro e' w4 (⟨rfl, c, g⟩ | ⟨rfl, j⟩);rotate_left
    · clear q c1;gi_wp2;refine ⟨fun _ h => (by cases h), ?_⟩;gi_wp2;refine bodyPost_ret (results_none rfl _ _ _) rfl ?_;exact ⟨⟨_, rfl⟩, .inr ⟨_, trivial, j⟩⟩
    have rx := ai.out _ _ _ _ ao g rx;have b := Li b (ak.out _ _ g);have p := m.out _ _ g p;have y := aj.out _ _ g y;clear q c1 t Hj;have c2 := rx.cellv (i := 2) (v := .int .i64 e.val) rfl;obtain ⟨fn, s, d, n, q, o⟩ := HY.out _ ⟨e.val, z.out.2.2⟩ w4 c (by have := aa; (try simp only [Lf, Le, Lu]); omega)
    have t := Lv o;have Hj := Lv c;clear o c;gi_wp2;refine ⟨rfl, t.out.mono ?_⟩;rintro e' w5 (⟨rfl, c, g⟩ | ⟨rfl, j⟩);rotate_left
    · clear q c2;gi_wp2;refine bodyPost_ret (results_none rfl _ _ _) rfl ?_;exact ⟨⟨_, rfl⟩, .inr ⟨_, trivial, j⟩⟩
    have rx := ai.out _ _ _ _ ao g rx;have b := Li b (ak.out _ _ g);have p := m.out _ _ g p;have y := aj.out _ _ g y;clear q c2 t Hj;gi_wp2;go_roundw
    case rel =>
     refine ⟨k + 1, _, by go_num, by omega, p, by have := y; rw [av.out] at this; exact this, ?_, b, c⟩;rw [N9 af, LD];have az : r.evs[k] = e := by have := He.out; rw [La af] at this; injection this
     rw [az];simp [EvV.nums, ah.out]
    case measure => simp [intOf]; omega
  · obtain rfl : k = r.evs.length := by omega
    have c0 := p.cellv (i := 0) (v := .int .i64 r.kind) rfl;obtain ⟨fn, s, d, n, q, o⟩ := HY.out _ ⟨r.kind, al.out.kind⟩ wr c (by omega);have t := Lv o;have Hj := Lv c;clear o c af;gi_wp2;refine ⟨rfl, t.out.mono ?_⟩;rintro e' w3 (⟨rfl, c, g⟩ | ⟨rfl, j⟩);rotate_left
    · clear q c0;gi_wp2;go_end0
      exact ⟨⟨_, rfl⟩, .inr ⟨_, trivial, j⟩⟩
    have p := m.out _ _ g p;clear q c0 t Hj y;have c1 := p.cellv (i := 1) (v := .int .i64 r.value) rfl;obtain ⟨fn, s, d, n, q, o⟩ := HY.out _ ⟨r.value, al.out.value⟩ w3 c (by rw [Lf, Ni]; omega);have t := Lv o;have Hj := Lv c;clear o c;gi_wp2;refine ⟨rfl, t.out.mono ?_⟩;rintro e' w4 (⟨rfl, c, g⟩ | ⟨rfl, j⟩)
    · clear q c1;gi_wp2;go_end0
      exact ⟨⟨_, rfl⟩, .inl ⟨_, by have := ah.out; rw [LW] at this; simp [RunV.nums, this], c⟩⟩
    · clear q c1;gi_wp2;go_end0
      exact ⟨⟨_, rfl⟩, .inr ⟨_, trivial, j⟩⟩
end Go.Proofs.YtkoikjnlpifbjaaGreat
namespace Go.Proofs.YtkoikjnlpifbjaaGreat
open Go.RowKit Go.Deep
attribute [local go_sem] Oper.semAt_some
theorem AdC (r : RunV) (w : World) :
 Calls Tryz.prog 124 #[.agg r.cells] w fun e w' => e = .returned (.func (.func 161) #[] #[.pointer (some ⟨w.heap.size, 0, none⟩)]) ∧ w.alloc (.cells r.cells 114) = w' := by
 go_enter Tryz.func124, Tryz.ntmps124
 go_wp2
 go_ret
 exact ⟨rfl, rfl⟩
theorem Row.abid {W W' : World} {g B : Nat} {t : TypeId} {cs : Array Value} {row : Option Nat} (h : Row W g t cs) (hg : W.grownBy W' row) (hr : ∀ r, row = some r → False ∨ (B ≤ r ∧ ∃ o : Obj, W.heap[r]? = some o ∧ o.isCells = false)) : Row W' g t cs :=
 h.grown hg (fun e => by
  rcases hr g e with h' | ⟨_, o, ho, hc⟩
  · exact h'
  · rw [h] at ho; cases ho; cases hc)
theorem Wr.abid {W W' : World} {b g B : Nat} {l : List UInt8} {row : Option Nat} (h : Wr W b g l) (hg : W.grownBy W' row) (hr : ∀ r, row = some r → False ∨ (B ≤ r ∧ ∃ o : Obj, W.heap[r]? = some o ∧ o.isCells = false)) : Wr W' b g l := by
 obtain ⟨i, v, j, c⟩ := h;refine ⟨i, v, j.abid hg hr, c.kept hg ?_⟩;cases row with
 | none => cases v.ownBlock <;> simp
 | some r =>
  refine .inr (fun e => ?_);rcases hr r rfl with d | ⟨_, o, m, k⟩
  · exact d
  · exact Z9 c m k e
def XO (l : List Int) : List UInt8 := l.flatMap zz
theorem AdZ (r : RunV) : U5 r.evs.length ++ XO r.nums = Uf r.kind r.value r.evs := by
 have h : ∀ l : List EvV, XO (l.flatMap EvV.nums) = l.flatMap EvV.bytes := by
  intro l
  induction l with
  | nil => rfl
  | cons a l ih => simp only [XO, LI, LD] at ih ⊢; rw [ih]; simp [EvV.nums, EvV.bytes]
 have b : XO r.nums = XO (r.evs.flatMap EvV.nums) ++ (zz r.kind ++ zz r.value) := by simp [XO, RunV.nums]
 rw [b, h, Uf]
theorem Abk : ∀ l : List Int, (XO l).length ≤ 10 * l.length
 | [] => by simp [XO]
 | a :: l => by
  have := Abk l; have := Uk a
  simp only [XO, LI, Lf, Le] at *; omega
def WrC (b g : Nat) (A B : World) : Prop := A.heap.size ≤ B.heap.size ∧ ∀ k cs t fr, A.heap[k]? = some (.cells cs t fr) → k ≠ g → (t ≠ 5 ∨ k < b) → B.heap[k]? = some (.cells cs t fr)
theorem WrC.of {b g : Nat} {A B : World} (h : WrEff b g A B) : WrC b g A B := ⟨h.size, fun k cs t fr hk hg ht => (h.block k (Lt.1 hk).1 hg (fun cs' hB h' => by
 rcases ht with ht | ht
 · rw [Row, hk] at h'; injection h' with h'; injection h' with _ h''; exact ht h''
 · omega)).trans hk⟩
theorem WrC.trans {b g : Nat} {A B C : World} (h : WrC b g A B) (k : WrC b g B C) : WrC b g A C := ⟨Li h.1 k.1, fun i cs t fr hi hg ht => k.2 i cs t fr (h.2 i cs t fr hi hg ht) hg ht⟩
theorem WrC.put {b g l : Nat} {W : World} {o o' : Obj} (ho : W.heap[l]? = some o) (hc : o.isCells = false) : WrC b g W (W.putObj l o') := ⟨by simp, fun k cs t fr hk _ _ => by
 rw [World.putObj_heap_other (fun e => by subst e; rw [ho] at hk; cases hk; cases hc)]; exact hk⟩
theorem WrC.refl (b g : Nat) (W : World) : WrC b g W W := ⟨Nat.le_refl _, fun _ _ _ _ h _ _ => h⟩
theorem WrC.row {b g k : Nat} {A B : World} {t : TypeId} {cs : Array Value} (h : WrC b g A B) (hr : Row A k t cs) (hg : k ≠ g) (ht : t ≠ 5 ∨ k < b) : Row B k t cs := h.2 k cs t (0, 0) hr hg ht
theorem Ael {W : World} {p : Addr} {u : Value} (h : W.cell? p = some u) : ∃ cs t fr, W.heap[p.block]? = some (.cells cs t fr) := by
 unfold World.cell? at h;split at h
 · exact ⟨_, _, _, by assumption⟩
 · cases h
theorem AjE {w W : World} {addr : Option Addr} {xs : List Value} (h : Rd w addr xs) (b : Below w.heap.size w W) : Rd W addr xs := h.go b
theorem WrC.rd {w A B : World} {b g : Nat} {addr : Option Addr} {xs : List Value} (h : WrC b g A B) (h0 : Rd w addr xs) (hb : w.heap.size ≤ b) (hg : b ≤ g) (hA : Rd A addr xs) : Rd B addr xs := fun j u hj => by
 obtain ⟨i, e, m⟩ := hA j u hj;obtain ⟨c, k, d⟩ := h0 j u hj;obtain rfl : i = c := by rw [e] at k; injection k
 have q := World.block_lt_of_cell? _ _ d;obtain ⟨n, t, o, l⟩ := Ael m;have p := h.2 _ n t o l (by omega) (.inr (by omega));exact ⟨i, e, (World.cell?_of_block (p.trans l.symm)).trans m⟩
theorem AdY (r : RunV) (w : World) (hok : r.ok w) (hl : r.evs.length ≤ 10000) :
 Calls Tryz.prog 82 #[r.val] w fun e w' => e = .returned (.string ⟨(Uf r.kind r.value r.evs).toArray⟩) ∧ Below w.heap.size w w' := by
 have b := Lv hok;have Hl := Lv hl;clear hok hl;refine (callsIn_wide (n := 0)).1 ?_;refine callsIn_of_wp_marks Tryz.func82 rfl trivial ?_;simp only [Tryz.ntmps82, Lm, Le, Lu, Nat.reduceAdd, Nat.reduceSub, Lk, Ll, Ly, LH, Lp, Ln];rw [show r.val = .agg r.cells from rfl];gi_wp2_with fail
 have r0 := Row.new w 114 r.cells;have b0 := (Below.refl w.heap.size w).alloc (Nat.le_refl _) (.cells r.cells 114);generalize w.alloc (.cells r.cells 114) = w1 at r0 b0 ⊢;obtain ⟨S, m⟩ : ∃ S, S = (fun W => Row W w.heap.size 114 r.cells ∧ Below w.heap.size w W) := ⟨_, rfl⟩;have aw : St S := by rw [m]; infer_instance
 have s0 : ∀ W, S W → Row W w.heap.size 114 r.cells := by rw [m]; exact fun W h => h.1
 have s1 : ∀ W, S W → Below w.heap.size w W := by rw [m]; exact fun W h => h.2
 have aj : ∀ W, Row W w.heap.size 114 r.cells → Below w.heap.size w W → S W := by rw [m]; exact fun W h h' => ⟨h, h'⟩
 have y : S w1.drew := St.drew (aj _ r0 b0);clear m r0 b0;refine wpIn_wide.2 ?_;refine wp_cut (fun a W => ∃ t g, w.heap.size < t ∧ S W ∧ Wr W t g (U5 r.evs.length) ∧ a = { tmps := #[.agg r.cells, .pointer (some ⟨w.heap.size, 0, none⟩), .string ⟨#[]⟩, .pointer (some ⟨g, 0, none⟩), undef, undef, .pointer (some ⟨g, 0, none⟩), .pointer (some ⟨w.heap.size, 3, none⟩), .slice r.addr r.evs.length r.cap, .int .i64 r.evs.length, .int .u64 r.evs.length, .pointer (some ⟨g, 0, none⟩), undef, undef, undef, undef, undef, undef, undef, undef, undef, undef], defers := [] }) ?rest ?first
 case first =>
  intro J K' hJ an;have HJ := Lv hJ;have HK := Lv an;have a0 := Hl.out;clear hJ an;refine wp_region_noPanic ?_;refine wp_region_held (S := S) (by kernel_rfl) ?_;simp only [Lm, Le, Lu, Nat.reduceAdd, Lk, Ll, Ly, Lp, Ln];show wpAnyH _ _ _ _ _ _ _ _ w1.drew;generalize w1.drew = w2 at y ⊢;(refine tkH 1 (.pointer (some ⟨w.heap.size, 3, none⟩)) rfl (Qd rfl (fun W hW => by (go_simp))) ?_; simp only [Act.put, Qa, Qb, Qc]);(refine tkH 2 (.slice r.addr r.evs.length r.cap) rfl (Qd rfl (fun W hW => by ((have h := (s0 W hW).cellv (i := 3) (v := .slice r.addr r.evs.length r.cap) rfl; go_simp)))) ?_; simp only [Act.put, Qa, Qb, Qc]);(refine tkH 3 (.int .i64 r.evs.length) rfl (Qd rfl (fun W hW => by (go_simp))) ?_; simp only [Act.put, Qa, Qb, Qc]);(refine tkH 4 (.int .u64 r.evs.length) rfl (Qd rfl (fun W hW => by (go_simp; rw [IntKind.wrap_u64]; omega))) ?_; simp only [Act.put, Qa, Qb, Qc]);(refine wpAnyH_all (rs := [0]) (by kernel_rfl) (by simp) (fun i hi => ?_); obtain rfl : i = 0 := by simpa using hi);refine Qf rfl rfl (fun K2 j => ?_);refine Qo 121 #[] (w1 := w2) (by go_simp) ((Ad6 w2).mono ?_);rintro e w3 ⟨rfl, u, b3⟩;refine ⟨_, rfl, ?_⟩;refine j _ _ ?_;clear j K2;simp only [Act.put, Qa, Qb, Qc];have ag := aw.go y b3;have hB : w.heap.size < w2.heap.size := (s0 _ y).lt;clear y b3;refine ⟨ag, ?_⟩;(refine wpAnyH_all (rs := [5]) (by kernel_rfl) (by simp) (fun i hi => ?_); obtain rfl : i = 5 := by simpa using hi);refine Qf rfl rfl (fun K2 j => ?_);refine Qo 122 #[.pointer (some ⟨w2.heap.size, 0, none⟩), .int .u64 r.evs.length] (w1 := w3) (by go_simp) ((Ajw _ _ [] r.evs.length (by simp) (by omega) w3 u).mono ?_);rintro e w4 ⟨rfl, h4, e4⟩;refine ⟨_, rfl, ?_⟩;refine j _ _ ?_;clear j K2;simp only [Act.put, Qa, Qb, Qc];have ao : S w4 := aj _ (e4.row (s0 _ ag) (by omega) (by decide)) ((s1 _ ag).trans ((e4.below (Nat.le_refl _) (by have := u.lt; omega)).mono (by omega)));refine ⟨ao, ?_⟩;(refine tkH 6 (.pointer (some ⟨w2.heap.size, 0, none⟩)) rfl (Qd rfl (fun W hW => by (rfl))) ?_; simp only [Act.put, Qa, Qb, Qc]);refine wpAnyH_done (by kernel_rfl) ?_ _;exact HK.out _ _ (Met.intro (HJ.out _ _ ⟨_, _, hB, ao, by simpa using h4, rfl⟩))
 case rest =>
  rintro a W ⟨t, g, hB, y, hw, rfl⟩;have gB : t ≤ g := hw.1;have aq := s0 _ y;have q : Row (W.alloc (.cells #[.func (.func 123) #[.pointer (some ⟨g, 0, none⟩)] #[]] 208)) W.heap.size 208 #[.func (.func 123) #[.pointer (some ⟨g, 0, none⟩)] #[]] := Row.new _ _ _;have ah := aq.alloc (.cells #[.func (.func 123) #[.pointer (some ⟨g, 0, none⟩)] #[]] 208);have s := St.alloc (S := fun W => Wr W t g (U5 r.evs.length)) hw (.cells #[.func (.func 123) #[.pointer (some ⟨g, 0, none⟩)] #[]] 208);have aa := (s1 _ y).alloc (s1 _ y).size (.cells #[.func (.func 123) #[.pointer (some ⟨g, 0, none⟩)] #[]] 208);have lG : g < W.heap.size := hw.lt;clear aq;gi_wp2_with (refine Q7 rfl 114 _ rfl w.heap.size rfl 114 r.cells (0, 0) _ ah Tryz.underlying114 rfl (by kernel_rfl) ?_);obtain ⟨BP, af⟩ : ∃ BP, BP = W.heap.size := ⟨_, rfl⟩;have az : g < BP := by omega
  have ay : w.heap.size ≤ BP := by rw [af]; exact (s1 _ y).size
  have ax : r.evs.length ≤ 10000 := Hl.out;rw [← af] at q ⊢;generalize W.alloc (.cells #[.func (.func 123) #[.pointer (some ⟨g, 0, none⟩)] #[]] 208) = w5 at q ah s aa ⊢;refine ⟨trivial, rfl, (callsIn_wide.2 (AdC r w5)).mono ?_⟩;rintro e w6 ⟨rfl, ar⟩;have ab := Row.new w5 114 r.cells;have ac := q.alloc (.cells r.cells 114);have ae := St.alloc (S := fun W => Wr W t g (U5 r.evs.length)) s (.cells r.cells 114);have p := aa.alloc aa.size (.cells r.cells 114);rw [ar] at ab ac ae p;have av := q.lt;obtain ⟨Bs, am⟩ : ∃ Bs, Bs = w5.heap.size := ⟨_, rfl⟩;rw [← am] at ab av ⊢;have l6 := ab.lt;clear am ar s aa q ah y s0 s1 aj hw lG af;have ap : r.ok w6 := ⟨b.out.kind, b.out.value, b.out.steps, b.out.len, b.out.cap, b.out.nil, AjE b.out.reads p, b.out.evs⟩;have al := Lv (AaB Bs r (WrC t g) w6 ap ab (by omega) (fun A B h hr => h.row hr (by omega) (.inl (by decide))) (fun A B h hr => h.rd b.out.reads (by omega) gB hr) (fun A B h => h.1) (fun A B k cs hk h hr => h.row hr (by omega) (.inl (by decide))));gi_wp2
  refine AbW (gf := 161) (lb := #[.pointer (some ⟨Bs, 0, none⟩)]) rfl (enters_of Tryz.func161 (by kernel_rfl) rfl) al.out (fun r h => h.elim)
   (fun h k => h.trans k) (fun W l o o' hl ho hc => WrC.put ho hc) (World.grownBy.refl _ _) (fun _ => rfl)
   (fun d W => Row W BP 208 #[.func (.func 123) #[.pointer (some ⟨g, 0, none⟩)] #[]] ∧ Wr W t g (U5 r.evs.length ++ XO (d.map (·.1))) ∧ Below w.heap.size w W) (fun _ _ _ => False) ?hI ?hIx ⟨ac, by simpa [XO] using ae, p⟩
   (fun x a' W => a' = { tmps := #[.agg r.cells, .pointer (some ⟨w.heap.size, 0, none⟩), .string ⟨#[]⟩, .pointer (some ⟨g, 0, none⟩), .pointer (some ⟨BP, 0, none⟩), .int .i64 x.1, .pointer (some ⟨g, 0, none⟩), .pointer (some ⟨w.heap.size, 3, none⟩), .slice r.addr r.evs.length r.cap, .int .i64 r.evs.length, .int .u64 r.evs.length, .pointer (some ⟨g, 0, none⟩), .pointer (some ⟨g, 0, none⟩), .func (.func 123) #[.pointer (some ⟨g, 0, none⟩)] #[], .agg r.cells, .func (.func 161) #[] #[.pointer (some ⟨Bs, 0, none⟩)], .int .i64 x.1, undef, undef, undef, undef, undef], defers := [] }) ?hAx ?assign ?body ?done ?stop
  case hI =>
   rintro d A B row ⟨h1, z, u⟩ hg hr;refine ⟨h1.abid hg hr, z.abid hg hr, u.grown hg u.size (fun k e => ?_)⟩;rcases hr k e with h | ⟨h, _⟩
   · exact h.elim
   · have := p.size; omega
  case hIx => exact fun _ _ _ _ _ h _ _ => h
  case hAx => exact fun x a' _ _ _ _ h _ _ => h
  case assign =>
   rintro l d x W K hI hK;have HK := Lv hK;clear hK;gi_wp2;exact HK.out _ _ (KeepsFrom.refl _ _) (WrC.refl _ _ _) hI rfl
  case body =>
   rintro l d x a' W hl _ ⟨h1, z, u⟩ rfl a1;have hc := h1.cellv (i := 0) rfl
   have ad : (U5 r.evs.length ++ XO (d.map (·.1))).length ≤ 1000000 := by
    have := Uw r.evs.length; have := Abk (d.map (·.1));rw [Lz] at this;rw [Lf]; omega
   have ak := Lv ad;clear ad;gi_wp2_with fail
   refine ⟨trivial, rfl, (CallsIn.inRound l (callsIn_wide.2 (Ajl t g _ x.1 ak.out x.2 W z))).mono ?_⟩;rintro e W2 ⟨rfl, s, e2⟩;gi_wp2;have ai : ∃ v, Row W g 259 #[v] := by obtain ⟨_, v, h, _⟩ := z; exact ⟨v, h⟩
   obtain ⟨v, ai⟩ := ai;refine ⟨e2.keeps ai, WrC.of e2, e2.row h1 (by omega) (by decide), ?_, u.trans ((e2.below gB (by have := z.lt; omega)).mono (by omega))⟩;simpa [XO] using s
  case stop => exact fun D c d W _ _ h _ => h.elim
  case done =>
   rintro D ys W hD au ⟨h1, z, u⟩ hK;rw [au, AdZ] at z;have HK := Lv hK;clear hK au h1;gi_wp2_with fail
   refine ⟨trivial, rfl, (callsIn_wide.2 (Ad9 t g _ W z)).mono ?_⟩;rintro e W2 ⟨rfl, rfl⟩;clear z;gi_wp2;refine ⟨by simp, .inl ⟨_, _, rfl, run_takeDeferred HK.out, ?_⟩⟩;exact ⟨_, results_tmp rfl _ _ _, rfl, u.grown (grownBy_putObj' _ _ _) u.size (fun k e => by cases e; have := p.size; omega)⟩
end Go.Proofs.YtkoikjnlpifbjaaGreat
namespace Go.Proofs.YtkoikjnlpifbjaaGreat
open Go.RowKit Go.Deep
attribute [local go_sem] AfU Afe Afd Ach Aci Acj VV YG AfV AfW Ad5
theorem AjG {x y : BitVec 32} (h : x = y) : Ending.returned (.int .u32 (wd x)) = .returned (.int .u32 (wd y)) := by rw [h]
theorem Akv (x : BitVec 32) (n : Nat) (h0 : 0 < n) (h1 : n < 32) : x <<< (32 - n) ||| x >>> (32 - (32 - n)) = x.rotateRight n := by
 rw [BitVec.rotateRight_def, NM h1, show 32 - (32 - n) = n from by omega, BitVec.or_comm]
theorem AkE : ∀ n : _root_.Fin 31, bits .and .u64 (IntKind.u64.wrap (-((n.val + 1 : Nat) : Int))) 31 = ((31 - n.val : Nat) : Int) := by decide +kernel
theorem AdT (x : BitVec 32) (n : Int) (h0 : 0 < n) (h1 : n < 32) (w : World) :
 Calls Tryz.prog 157 #[.int .u32 (wd x), .int .i64 n] w fun e w' => e = .returned (.int .u32 (wd (x.rotateRight n.toNat))) ∧ w = w' := by
 obtain ⟨n, rfl⟩ := Int.eq_ofNat_of_zero_le (Int.le_of_lt h0);rw [L1];obtain ⟨m, b⟩ : ∃ m, m = 32 - n := ⟨_, rfl⟩;have j : 0 < m := by omega
 have g : m < 32 := by omega
 have i : bits .and .u64 (IntKind.u64.wrap (-(n : Int))) 31 = (m : Int) := by
  have h := AkE ⟨n - 1, by omega⟩;simp only [show n - 1 + 1 = n from by omega, show 31 - (n - 1) = m from by omega] at h;exact h
 have c : x <<< m ||| x >>> (32 - m) = x.rotateRight n := by rw [b]; exact Akv x n (by omega) (by omega)
 have d := Lv c;clear c b;go_enter Tryz.func157, Tryz.ntmps157
 go_wp2
 go_ret
 exact ⟨AjG d.out, rfl⟩
end Go.Proofs.YtkoikjnlpifbjaaGreat
namespace Go.Proofs.YtkoikjnlpifbjaaGreat
open Go.RowKit Go.Deep
def AcW (l : List UInt8) (W : List (BitVec 32)) (i : Nat) : List (BitVec 32) := W.set (i / 4) (W.getD (i / 4) 0 <<< 8 ||| BitVec.ofNat 32 (l.getD i 0).toNat)
def fill (l : List UInt8) : Nat → List (BitVec 32)
 | 0 => List.replicate 64 0
 | i + 1 => AcW l (fill l i) i
def Aj8 (W : List (BitVec 32)) (t : Nat) : BitVec 32 :=
 let x := W.getD (t - 15) 0
 let y := W.getD (t - 2) 0
 W.getD (t - 16) 0 + (x.rotateRight 7 ^^^ x.rotateRight 18 ^^^ x >>> 3) + W.getD (t - 7) 0 + (y.rotateRight 17 ^^^ y.rotateRight 19 ^^^ y >>> 10)
def X3 (W : List (BitVec 32)) : Nat → List (BitVec 32)
 | 0 => W
 | i + 1 => (X3 W i).set (16 + i) (Aj8 (X3 W i) (16 + i))
def YH (l : List UInt8) : List (BitVec 32) := X3 (fill l 64) 48
theorem KB (l : List UInt8) : ∀ i, (fill l i).length = 64
 | 0 => by simp [fill]
 | i + 1 => by simp [fill, AcW, KB l i]
theorem JH (W : List (BitVec 32)) (h : W.length = 64) : ∀ i, (X3 W i).length = 64
 | 0 => h
 | i + 1 => by simp [X3, JH W h i]
attribute [local go_sem] AfU Afe Afd Ach Aci Acj VV YG AfV AfW Ad5
theorem Ahy (x : BitVec 32) (b : UInt8) : bits .or .u32 (wd (x <<< 8)) ((b.toNat : Int) % 4294967296) = wd (x <<< 8 ||| BitVec.ofNat 32 b.toNat) := by
 rw [show ((b.toNat : Int) % 4294967296) = wd (BitVec.ofNat 32 b.toNat) from by rw [← AjW]; have := b.toNat_lt; omega, AfU]
theorem Ahx (l : List UInt8) (k : Nat) : (wds (fill l k)).toArray.setIfInBounds (k / 4) (.int .u32 (bits .or .u32 (wd ((fill l k)[k / 4]?.getD 0#32 <<< 8)) (((l[k]?.getD 0).toNat : Int) % 4294967296))) = (wds (fill l (k + 1))).toArray := by
 rw [Ahy, UT]; rfl
theorem Ue (x : BitVec 32) (n : Int) (h0 : 0 < n) (h1 : n < 32) (w : World) :
 Calls Tryz.prog 157 #[.int .u32 (wd x), .int .i64 n] w fun e w' => e = .returned (.int .u32 (wd (x.rotateRight n.toNat))) ∧ w' = w :=
 (AdT x n h0 h1 w).mono fun _ _ h => ⟨h.1, h.2.symm⟩
theorem Ajb (W : List (BitVec 32)) (k : Nat) : (wds (X3 W k)).toArray.setIfInBounds (k + 16) (.int .u32 (wd (Aj8 (X3 W k) (k + 16)))) = (wds (X3 W (k + 1))).toArray := by
 rw [UT, Nat.add_comm k 16]; rfl
theorem AgV (g : Nat) (T : TypeId) (l : List UInt8) (hl : l.length = 64) (w : World) (hg : g < w.heap.size) (hrow : Row w g T (u8s l).toArray) :
 Calls Tryz.prog 155 #[.pointer (some ⟨g, 0, none⟩)] w fun e w' => ∃ g', e = .returned (.pointer (some ⟨g', 0, none⟩)) ∧ w.heap.size ≤ g' ∧ Row w' g' 279 (wds (YH l)).toArray ∧ Below w.heap.size w w' := by
 have n := Lv hl;clear hl;go_enter Tryz.func155, Tryz.ntmps155
 go_wp2
 go_loopw [10] (fun i wr => ∃ k : Nat, i = .int .i64 (k : Int) ∧ k ≤ 64 ∧ Row wr w.heap.size 279 (wds (fill l k)).toArray ∧ Below w.heap.size w wr) (fun i _ => (64 - intOf i).toNat)
 case atStart => exact ⟨0, by simp, by omega, Row.new _ _ _, (Below.refl _ _).alloc (Nat.le_refl _) _⟩
 case round =>
  obtain ⟨k, rfl, u, b, d⟩ := hrel;by_cases c : k < 64
  · have hc := (hrow.below d hg).cellv (AkB l k (by rw [n.out]; exact c));have hd := b.cellv (Xk (fill l k) (k / 4) (by rw [KB]; omega));have t := b.free (k / 4);go_wp2
    go_quiet (fail)
    go_wp2
    go_roundw
    case rel => exact ⟨k + 1, by go_num, by omega, by rw [← Ahx]; exact (b.drewN _).set _ _, (ZZ d _).setCell (p := ⟨w.heap.size, k / 4, none⟩) (Nat.le_refl _) _⟩
    case measure => simp [intOf]; omega
  · obtain rfl : k = 64 := by omega
    clear c;rw [show ((64 : Nat) : Int) = 64 from rfl];go_wp2
    go_loopw [6] (fun i wr => ∃ k : Nat, i = .int .i64 ((k : Int) + 16) ∧ k ≤ 48 ∧ Row wr w.heap.size 279 (wds (X3 (fill l 64) k)).toArray ∧ Below w.heap.size w wr) (fun i _ => (64 - intOf i).toNat)
    case atStart => exact ⟨0, by simp, by omega, b, d⟩
    case round =>
     clear d b;obtain ⟨k, rfl, u, b, d⟩ := hrel;by_cases h : k < 48
     · have s := b.cellv (Xk _ k (by rw [JH _ (KB _ _)]; omega));have q := b.cellv (Xk _ (k + 1) (by rw [JH _ (KB _ _)]; omega));have h7 := b.cellv (Xk _ (k + 9) (by rw [JH _ (KB _ _)]; omega));have h2 := b.cellv (Xk _ (k + 14) (by rw [JH _ (KB _ _)]; omega));have h0 := b.cellv (Xk _ (k + 16) (by rw [JH _ (KB _ _)]; omega));have t := b.free (k + 16);go_wp2
       go_quiet (fail)
       go_wp2
       refine QX 29 (by kernel_rfl) (by kernel_rfl) ?_;simp only [LF, LP, LE, LL];have j : IntKind.i64.wrap (k : Int) = (k : Int) := by rw [IntKind.wrap_i64]; omega
       have o : IntKind.i64.wrap ((k : Int) + 16 - 7) = (k : Int) + 9 := by rw [IntKind.wrap_i64]; omega
       have t9 : ((k : Int) + 9).toNat = k + 9 := by omega
       have z : ((k : Int) + 16).toNat = k + 16 := by omega
       have x : (k : Int) + 9 < 64 := by omega
       have v : (k : Int) < 64 := by omega
       have y : 0 ≤ (k : Int) + 9 := by omega
       have m : 0 ≤ (k : Int) + 16 := by omega
       repeat (first | still_step | still_call (Ue _ _ (by omega) (by omega) _))
       refine wpStill_nil ?_;clear j o t9 x v y m;go_wp2
       go_roundw
       case rel => exact ⟨k + 1, by go_num, by omega, by rw [← Ajb]; exact (b.drewN _).set _ _, (ZZ d _).setCell (p := ⟨w.heap.size, k + 16, none⟩) (Nat.le_refl _) _⟩
       case measure => simp [intOf]; omega
     · obtain rfl : k = 48 := by omega
       clear h;go_wp2
       go_ret
       exact ⟨_, rfl, Nat.le_refl _, b, d⟩
end Go.Proofs.YtkoikjnlpifbjaaGreat
namespace Go.Proofs.YtkoikjnlpifbjaaGreat
open Go.RowKit Go.Deep
def cubeL : List (BitVec 32) := [
 0x428a2f98, 0x71374491, 0xb5c0fbcf, 0xe9b5dba5, 0x3956c25b, 0x59f111f1, 0x923f82a4, 0xab1c5ed5,
 0xd807aa98, 0x12835b01, 0x243185be, 0x550c7dc3, 0x72be5d74, 0x80deb1fe, 0x9bdc06a7, 0xc19bf174,
 0xe49b69c1, 0xefbe4786, 0x0fc19dc6, 0x240ca1cc, 0x2de92c6f, 0x4a7484aa, 0x5cb0a9dc, 0x76f988da,
 0x983e5152, 0xa831c66d, 0xb00327c8, 0xbf597fc7, 0xc6e00bf3, 0xd5a79147, 0x06ca6351, 0x14292967,
 0x27b70a85, 0x2e1b2138, 0x4d2c6dfc, 0x53380d13, 0x650a7354, 0x766a0abb, 0x81c2c92e, 0x92722c85,
 0xa2bfe8a1, 0xa81a664b, 0xc24b8b70, 0xc76c51a3, 0xd192e819, 0xd6990624, 0xf40e3585, 0x106aa070,
 0x19a4c116, 0x1e376c08, 0x2748774c, 0x34b0bcb5, 0x391c0cb3, 0x4ed8aa4a, 0x5b9cca4f, 0x682e6ff3,
 0x748f82ee, 0x78a5636f, 0x84c87814, 0x8cc70208, 0x90befffa, 0xa4506ceb, 0xbef9a3f7, 0xc67178f2]
theorem Af9 (w : World) :
 Calls Tryz.prog 156 #[] w fun e w' => ∃ g', e = .returned (.pointer (some ⟨g', 0, none⟩)) ∧ w.heap.size ≤ g' ∧ Row w' g' 279 (wds cubeL).toArray ∧ Below w.heap.size w w' := by
 go_enter Tryz.func156, Tryz.ntmps156
 go_wp2_with (
  (refine wpList_build rfl 279 _ rfl (by kernel_rfl) ?_
   generalize c : (Program.built _ _ _).getD #[] = X
   have b : X = (wds cubeL).toArray := by rw [← c]; kernel_rfl
   clear c
   subst b))
 go_ret
 exact ⟨_, rfl, Nat.le_refl _, Row.new _ _ _, (Below.refl _ _).alloc (Nat.le_refl _) _⟩
def KH : List (BitVec 32) := [0x6a09e667, 0xbb67ae85, 0x3c6ef372, 0xa54ff53a, 0x510e527f, 0x9b05688c, 0x1f83d9ab, 0x5be0cd19]
theorem AgQ (w : World) :
 Calls Tryz.prog 116 #[] w fun e w' => e = .returned (.agg (wds KH).toArray) ∧ Below w.heap.size w w' := by
 go_enter Tryz.func116, Tryz.ntmps116
 go_wp2
 exact bodyPost_ret (v := .agg (wds KH).toArray) (results_cell_row Tryz.results116 _ _ w.heap.size 195 _ (0, 0) _ rfl (heap_alloc_new w _) Tryz.underlying195 rfl (by kernel_rfl)) rfl ⟨rfl, (Below.refl _ _).alloc (Nat.le_refl _) _⟩
end Go.Proofs.YtkoikjnlpifbjaaGreat
