/- Lemmas for JnBll. -/
import Derived.Test.YtcgglolckkeeiaaGreatZk26
namespace Go.Proofs.YtcgglolckkeeiaaGreat
set_option linter.unusedVariables false
open Go.RowKit Go.Deep
attribute [local go_sem] Oper.semAt_some
def zpt (A : Option Addr) : Option Nat → Value
 | none => .pointer none
 | some i => .pointer (A.map fun a => a.add (i * 8))
abbrev ZX : Type := Option Nat × Option Nat
def zenc (A B : Option Addr) (z : ZX) : Array Value := #[zpt A z.1, zpt B z.2]
structure ZipC (A B : Option Addr) (ca cb : Nat) (a b : List MtV) (X : Nat → Prop) (ba bb bc : Nat) (w : World) : Prop where
 ra : Row w ba 27 #[.slice A a.length ca]
 rb : Row w bb 27 #[.slice B b.length cb]
 rc : Row w bc 81 #[.func (.func 46) #[] #[]]
 xa : ¬ X ba
 xb : ¬ X bb
 xc : ¬ X bc
 hA : Rd w A (mtsC a)
 sA : mtsC a ≠ [] → ∀ ad, A = some ad → ¬ X ad.block
 hB : Rd w B (mtsC b)
 sB : mtsC b ≠ [] → ∀ ad, B = some ad → ¬ X ad.block
 oa : ∀ x ∈ a, MtOk w x
 soa : ∀ x ∈ a, ints x.m.d.path ≠ [] → ∀ ad, x.A = some ad → ¬ X ad.block
 ob : ∀ x ∈ b, MtOk w x
 sob : ∀ x ∈ b, ints x.m.d.path ≠ [] → ∀ ad, x.A = some ad → ¬ X ad.block
theorem MtOk.kx {X : Nat → Prop} {W W' : World} {x : MtV} (h : MtOk W x) (k : KpX X W W') (s : ints x.m.d.path ≠ [] → ∀ ad, x.A = some ad → ¬ X ad.block) : MtOk W' x := ⟨k.rd h.rd s, h.len, h.nil, h.dig⟩
theorem ZipC.kx {A B : Option Addr} {ca cb : Nat} {a b : List MtV} {X : Nat → Prop} {ba bb bc : Nat} {w w' : World} (h : ZipC A B ca cb a b X ba bb bc w) (k : KpX X w w') : ZipC A B ca cb a b X ba bb bc w' :=
 ⟨k.row h.ra h.xa, k.row h.rb h.xb, k.row h.rc h.xc, h.xa, h.xb, h.xc, k.rd h.hA h.sA, h.sA, k.rd h.hB h.sB, h.sB, fun x hx => (h.oa x hx).kx k (h.soa x hx), h.soa, fun x hx => (h.ob x hx).kx k (h.sob x hx), h.sob⟩
theorem ZipC.add {A B : Option Addr} {ca cb : Nat} {a b : List MtV} {X : Nat → Prop} {ba bb bc : Nat} {w W : World} {lb : Nat} (h : ZipC A B ca cb a b X ba bb bc w) (bl : Below w.heap.size w W) (h1 : w.heap.size ≤ lb) : ZipC A B ca cb a b (fun i => X i ∨ i = lb) ba bb bc W := by
 have no : ∀ k, k < w.heap.size → ¬ X k → ¬ (X k ∨ k = lb) := fun k hk hx h => by
  rcases h with h | h
  · exact hx h
  · omega
 exact ⟨h.ra.below bl h.ra.lt, h.rb.below bl h.rb.lt, h.rc.below bl h.rc.lt, no _ h.ra.lt h.xa, no _ h.rb.lt h.xb, no _ h.rc.lt h.xc, h.hA.go bl, fun hne ad e => no _ (rd_lt h.hA hne e) (h.sA hne ad e), h.hB.go bl, fun hne ad e => no _ (rd_lt h.hB hne e) (h.sB hne ad e),
  fun x hx => (h.oa x hx).go bl, fun x hx hne ad e => no _ (rd_lt (h.oa x hx).rd hne e) (h.soa x hx hne ad e), fun x hx => (h.ob x hx).go bl, fun x hx hne ad e => no _ (rd_lt (h.ob x hx).rd hne e) (h.sob x hx hne ad e)⟩
theorem wp_scope_jumps2 {P : Program} {a : Act} {w : World} {Q : Exit → Act → World → Prop} {c rest : Code} (l : Nat) (J : Act → World → Prop) (μ : Act → World → Nat) (hf : findLabel c l = some (Code.skip.seq rest))
 (first : (∀ a w, J a w → rest.wp P (Exit.jump l J Q) a w) → c.wp P (Exit.jump l J Q) a w)
 (pass : ∀ a w, J a w → rest.wp P (Exit.jump l (fun a' w' => J a' w' ∧ μ a' w' < μ a w) Q) a w) : (Code.scope c).wp P Q a w :=
 wp_scope_jumps l J μ hf (first fun a w h => Code.wp_mono (fun e a w k => by
  cases e with
  | goto l' => exact ⟨k.1, k.2.1⟩
  | _ => exact k) (pass a w h)) fun a w h => wp_seq (wp_skip (pass a w h))
instance St.zipc {A B : Option Addr} {ca cb : Nat} {a b : List MtV} {X : Nat → Prop} {ba bb bc : Nat} : St (fun W => ZipC A B ca cb a b X ba bb bc W) := ⟨fun h bl => h.kx (KpX.of_below bl)⟩
theorem zipN_0 {a b : List Mt} {i k : Nat} (hi : a.length ≤ i) (hk : b.length ≤ k) : zipN (a.drop i) (b.drop k) i k = [] := by
 rw [List.drop_of_length_le hi, List.drop_of_length_le hk, zipN]
theorem zipN_x {a b : List Mt} {i k : Nat} (hi : i < a.length) (hk : b.length ≤ k) : zipN (a.drop i) (b.drop k) i k = (some i, none) :: zipN (a.drop (i + 1)) (b.drop k) (i + 1) k := by
 rw [List.drop_eq_getElem_cons hi, List.drop_of_length_le hk, zipN]
theorem zipN_y {a b : List Mt} {i k : Nat} (hi : a.length ≤ i) (hk : k < b.length) : zipN (a.drop i) (b.drop k) i k = (none, some k) :: zipN (a.drop i) (b.drop (k + 1)) i (k + 1) := by
 rw [List.drop_eq_getElem_cons hk, List.drop_of_length_le hi, zipN]
theorem zipN_xy {a b : List Mt} {i k : Nat} {x y : Mt} (hx : a[i]? = some x) (hy : b[k]? = some y) :
 (cmpD x.d y.d < 0 → zipN (a.drop i) (b.drop k) i k = (some i, none) :: zipN (a.drop (i + 1)) (b.drop k) (i + 1) k) ∧
 (0 < cmpD x.d y.d → zipN (a.drop i) (b.drop k) i k = (none, some k) :: zipN (a.drop i) (b.drop (k + 1)) i (k + 1)) ∧
 (cmpD x.d y.d = 0 → zipN (a.drop i) (b.drop k) i k = (some i, some k) :: zipN (a.drop (i + 1)) (b.drop (k + 1)) (i + 1) (k + 1)) := by
 obtain ⟨hi, rfl⟩ := List.getElem?_eq_some_iff.1 hx
 obtain ⟨hk, rfl⟩ := List.getElem?_eq_some_iff.1 hy
 rw [List.drop_eq_getElem_cons hi, List.drop_eq_getElem_cons hk]
 refine ⟨fun h => ?_, fun h => ?_, fun h => ?_⟩
 · rw [zipN, if_pos h]
 · rw [zipN, if_neg (by omega), if_pos h]
 · rw [zipN, if_neg (by omega), if_neg (by omega)]
def ZipP (full : List ZX) (pre : List ZX) (z : ZX) (_ : World) : Prop := ∃ rest, pre ++ z :: rest = full
set_option maxRecDepth 100000 in
set_option maxHeartbeats 8000000 in
theorem zip1_iter (A B : Option Addr) (ca cb : Nat) (a b : List MtV) (X : Nat → Prop) (ba bb bc : Nat) (w : World) (hC : ZipC A B ca cb a b X ba bb bc w) (hla : a.length ≤ 100000) (hlb : b.length ≤ 100000) :
 IterP Tryz.prog 104 #[.pointer (some ⟨ba, 0, none⟩), .pointer (some ⟨bb, 0, none⟩), .pointer (some ⟨bc, 0, none⟩)] (zenc A B) (fun _ => False) (fun lb => KpX (fun i => X i ∨ i = lb)) (ZipP (zipN (a.map MtV.m) (b.map MtV.m) 0 0)) (fun xs => xs = zipN (a.map MtV.m) (b.map MtV.m) 0 0) (fun _ => True) (zipN (a.map MtV.m) (b.map MtV.m) 0 0).length True w := by
 intro lb J Jx W hlb hwW _ hJ hJx hY h0
 have hbw : Below w.heap.size w W := ⟨hwW.os, hwW.tape, hwW.output, hwW.size, fun k hk => hwW.block k hk (by simp)⟩
 have hC1 := hC.add hbw hlb.1
 clear hC hlb hbw hwW w
 obtain ⟨full, hfull⟩ : ∃ full, full = zipN (a.map MtV.m) (b.map MtV.m) 0 0 := ⟨_, rfl⟩
 rw [← hfull] at hY ⊢
 have hY' : ∀ pre z W1, J pre W1 → ZipP full pre z W1 → pre.length < full.length → YieldAt Fence.wide 0 Tryz.prog lb #[zpt A z.1, zpt B z.2] W1 fun e W' => (e = .returned (.bool true) ∧ J (pre ++ [z]) W' ∧ KpX (fun i => X i ∨ i = lb) W1 W') ∨ (e = .returned (.bool false) ∧ Jx (pre ++ [z]) W' ∧ KpX (fun i => X i ∨ i = lb) W1 W') := hY
 clear hY
 generalize (fun i => X i ∨ i = lb) = X1 at hC1 hY'
 clear X
 obtain ⟨X, rfl⟩ : ∃ X, X = X1 := ⟨_, rfl⟩
 obtain ⟨na, hna⟩ : ∃ n, n = a.length := ⟨_, rfl⟩
 obtain ⟨nb, hnb⟩ : ∃ n, n = b.length := ⟨_, rfl⟩
 have hnaI : (na : Int) ≤ 100000 := by omega
 have hnbI : (nb : Int) ≤ 100000 := by omega
 have Hna := Lib.hid hna
 have Hnb := Lib.hid hnb
 have Hfull := Lib.hid hfull
 have HC := Lib.hid hC1
 have HJ := Lib.hid hJ
 have HY := Lib.hid hY'
 clear hJ hJx hY' hC1 hfull hla hna hnb
 refine callsIn_of_wp Tryz.func104 rfl trivial ?_ rfl
 simp only [Tryz.ntmps104, List.size_toArray, List.length_cons, List.length_nil, Nat.reduceAdd, Nat.reduceSub, Array.replicate_succ, Array.replicate_zero, List.push_toArray, List.append_toArray, List.nil_append, List.cons_append]
 refine wpIn_wide.2 ?_
 refine wp_scope_jumps2 0 (fun a' w' => ∃ (i k : Nat) (pre : List ZX) (u4 u7 u8 u9 u10 u11 u12 u13 u14 u15 u16 u17 u18 u19 u20 u21 u22 u23 u24 u25 u26 u27 u28 u29 u30 u31 u32 u33 u34 u35 u36 u37 u38 u39 u40 u41 u42 u43 u44 u45 u46 u47 u48 u49 u50 u51 u52 u53 u54 u55 u56 u57 u58 u59 u60 u61 u62 u63 : Value), a' = { tmps := #[.func (.yield lb) #[] #[], .pointer (some ⟨ba, 0, none⟩), .pointer (some ⟨bb, 0, none⟩), .pointer (some ⟨bc, 0, none⟩), u4, .int .i64 (i : Int), .int .i64 (k : Int), u7, u8, u9, u10, u11, u12, u13, u14, u15, u16, u17, u18, u19, u20, u21, u22, u23, u24, u25, u26, u27, u28, u29, u30, u31, u32, u33, u34, u35, u36, u37, u38, u39, u40, u41, u42, u43, u44, u45, u46, u47, u48, u49, u50, u51, u52, u53, u54, u55, u56, u57, u58, u59, u60, u61, u62, u63], defers := [] } ∧ i ≤ na ∧ k ≤ nb ∧ Hid (pre ++ zipN ((a.map MtV.m).drop i) ((b.map MtV.m).drop k) i k = full) ∧ Hid (ZipC A B ca cb a b X ba bb bc w') ∧ J pre w') (fun a' _ => (na - (intOf (a'.tmps.getD 5 undef)).toNat) + (nb - (intOf (a'.tmps.getD 6 undef)).toNat)) rfl ?first ?pass
 case first =>
  intro hrest
  have Hrest := Lib.hid hrest
  clear hrest
  go_wp2_with fail
  refine wp_label ?_
  refine (by assumption : ∀ a w, Code.wp _ _ _ a w → _) _ _ ?_
  refine Hrest.out _ _ ⟨0, 0, [], ?_⟩
  repeat apply Exists.intro
  exact ⟨rfl, Nat.zero_le _, Nat.zero_le _, by show _ = _; rw [Hfull.out]; rfl, HC, h0⟩
 case pass =>
  clear h0 HC
  rintro a' w' ⟨i, k, pre, u4, u7, u8, u9, u10, u11, u12, u13, u14, u15, u16, u17, u18, u19, u20, u21, u22, u23, u24, u25, u26, u27, u28, u29, u30, u31, u32, u33, u34, u35, u36, u37, u38, u39, u40, u41, u42, u43, u44, u45, u46, u47, u48, u49, u50, u51, u52, u53, u54, u55, u56, u57, u58, u59, u60, u61, u62, u63, rfl, hi, hk, Hp, HC, hj⟩
  refine (wpIn_wide (n := 0)).1 ?_
  have c1 := HC.out.ra.cellv (i := 0) (v := .slice A a.length ca) rfl
  have c2 := HC.out.rb.cellv (i := 0) (v := .slice B b.length cb) rfl
  have c3 := HC.out.rc.cellv (i := 0) (v := .func (.func 46) #[] #[]) rfl
  rw [← Hna.out] at c1
  rw [← Hnb.out] at c2
  by_cases h1 : i < na
  · obtain ⟨x, hx⟩ : ∃ x, a[i]? = some x := ⟨_, List.getElem?_eq_getElem (by have := Hna.out; omega)⟩
    obtain ⟨ad, had, hcx⟩ := mt_at HC.out.hA hx
    subst had
    have Hx := Lib.hid hx
    have hiI : (i : Int) < (na : Int) := by omega
    have hi0 : ((i : Int) == (na : Int)) = false := by simp; omega
    have hi00 : (0 : Int) ≤ (i : Int) := by omega
    clear hx hcx
    by_cases h2 : k < nb
    · obtain ⟨y, hy⟩ : ∃ y, b[k]? = some y := ⟨_, List.getElem?_eq_getElem (by have := Hnb.out; omega)⟩
      obtain ⟨bd, hbd, hcy⟩ := mt_at HC.out.hB hy
      subst hbd
      have Hy := Lib.hid hy
      have hkI : (k : Int) < (nb : Int) := by omega
      have hk00 : (0 : Int) ≤ (k : Int) := by omega
      obtain ⟨z1, z2, z3⟩ := zipN_xy (a := a.map MtV.m) (b := b.map MtV.m) (i := i) (k := k) (x := x.m) (y := y.m) (by rw [List.getElem?_map, Hx.out]; rfl) (by rw [List.getElem?_map, Hy.out]; rfl)
      have Hz1 := Lib.hid z1
      have Hz2 := Lib.hid z2
      have Hz3 := Lib.hid z3
      clear hy hcy z1 z2 z3
      gi_wp2_with fail
      refine wpIn_wide.2 ?_
      obtain ⟨S, hSd⟩ : ∃ S, S = (fun W => ZipC (some ad) (some bd) ca cb a b X ba bb bc W ∧ Below w'.heap.size w' W) := ⟨_, rfl⟩
      have stS : St S := by rw [hSd]; infer_instance
      have T0 : Hid (∀ W, S W → ZipC (some ad) (some bd) ca cb a b X ba bb bc W) := by show ∀ W, _; rw [hSd]; exact fun W h => h.1
      have T1 : Hid (∀ W, S W → Below w'.heap.size w' W) := by show ∀ W, _; rw [hSd]; exact fun W h => h.2
      have hS : S w' := by rw [hSd]; exact ⟨HC.out, Below.refl _ _⟩
      have Hcx : Hid (∀ W, S W → ∀ j u, x.cells[j]? = some u → W.cell? ((ad.add (i * 8)).add j) = some u) := fun W h => by
       obtain ⟨ad', e1, e2⟩ := mt_at (T0.out W h).hA Hx.out
       injection e1 with e1; subst e1; exact e2
      have Hcy : Hid (∀ W, S W → ∀ j u, y.cells[j]? = some u → W.cell? ((bd.add (k * 8)).add j) = some u) := fun W h => by
       obtain ⟨ad', e1, e2⟩ := mt_at (T0.out W h).hB Hy.out
       injection e1 with e1; subst e1; exact e2
      have Hjj := Lib.hid hj
      have Hi2 : Hid (i < na ∧ k < nb) := ⟨h1, h2⟩
      clear hSd c1 c2 c3 hj hiI hi0 hi00 hkI hk00 h1 h2 HC
      refine region_hold S (by kernel_rfl) (by kernel_rfl) (St.drew hS) ?_
      clear hS
      (refine hold_value rfl ?_ (fun W hW => ?_) ?_; rotate_left; (focus (have c := (T0.out W hW).rc.cellv (i := 0) (v := .func (.func 46) #[] #[]) rfl; go_simp; exact rfl)); simp only [Act.put, List.setIfInBounds_toArray, List.set_cons_zero, List.set_cons_succ])
      iterate 2 (refine hold_value rfl ?_ (fun W hW => ?_) ?_; rotate_left; (focus (go_simp; exact rfl)); simp only [Act.put, List.setIfInBounds_toArray, List.set_cons_zero, List.set_cons_succ])
      (refine hold_load_at rfl 47 _ rfl (_) rfl x.cells _ (fun W hW => Hcx.out W hW) Tryz.underlying47 rfl (by kernel_rfl) ?_; simp only [Act.put, List.setIfInBounds_toArray, List.set_cons_zero, List.set_cons_succ])
      iterate 2 (refine hold_value rfl ?_ (fun W hW => ?_) ?_; rotate_left; (focus (go_simp; exact rfl)); simp only [Act.put, List.setIfInBounds_toArray, List.set_cons_zero, List.set_cons_succ])
      (refine hold_load_at rfl 47 _ rfl (_) rfl y.cells _ (fun W hW => Hcy.out W hW) Tryz.underlying47 rfl (by kernel_rfl) ?_; simp only [Act.put, List.setIfInBounds_toArray, List.set_cons_zero, List.set_cons_succ])
      (refine hold_call_new rfl 46 _ (fun W => by (go_simp; try rfl)) (.int .i64 (cmpD x.m.d y.m.d)) (fun W hW => order_any x y W ((T0.out W hW).oa x (List.mem_of_getElem? Hx.out)) ((T0.out W hW).ob y (List.mem_of_getElem? Hy.out))) ?_; simp only [Act.put, List.setIfInBounds_toArray, List.set_cons_zero, List.set_cons_succ])
      (refine hold_value rfl ?_ (fun W hW => ?_) ?_; rotate_left; (focus (go_simp; exact rfl)); simp only [Act.put, List.setIfInBounds_toArray, List.set_cons_zero, List.set_cons_succ])
      refine wpHold_nil fun W hS => ?_
      have hj := abid_below HJ.out Hjj.out (T1.out W hS)
      have HC := Lib.hid (T0.out W hS)
      obtain ⟨d, hd⟩ : ∃ d, d = cmpD x.m.d y.m.d := ⟨_, rfl⟩
      rw [← hd]
      rw [← hd] at Hz1 Hz2 Hz3
      clear hd T0 T1 Hcx Hcy hS Hjj stS S
      by_cases h1 : d < 0
      · have Hz : Hid (pre ++ (some i, none) :: zipN ((a.map MtV.m).drop (i + 1)) ((b.map MtV.m).drop k) (i + 1) k = full) := by
         show _ = _
         rw [← Hp.out, Hz1.out h1]
        have hii := Hi2.out
        clear Hz1 Hz2 Hz3 Hp Hi2
        have hz : ZipP full pre (some i, none) W := ⟨_, Hz.out⟩
        have hlen : pre.length < full.length := by rw [← Hz.out]; simp
        obtain ⟨fn, tmps, assign, body, hy, hR⟩ := HY.out _ (some i, none) _ hj hz hlen
        have hy' : (Instr.yield lb #[.pointer (some (ad.add (i * 8))), .pointer none]).run Tryz.prog W = .ok (.round lb fn tmps assign body) W := hy
        have HR := Lib.hid hR
        have HC9 := Lib.hid HC.out
        clear hy hR hz hlen hj HC
        gi_wp2_with fail
        refine ⟨rfl, HR.out.mono ?_⟩
        clear hy' HR
        rintro e W2 (⟨rfl, hj, hk2⟩ | ⟨rfl, hjx, -⟩)
        rotate_left
        · gi_wp2_with fail
          simp only [Exit.jump]
          refine bodyPost_end (results_none rfl _ _ _) rfl ?_
          exact ⟨⟨_, rfl⟩, .inr ⟨_, hjx⟩⟩
        have HC2 := Lib.hid (HC9.out.kx hk2)
        have Hp2 : Hid ((pre ++ [(some i, none)]) ++ zipN ((a.map MtV.m).drop (i + 1)) ((b.map MtV.m).drop k) (i + 1) k = full) := by show _ = _; rw [← Hz.out, List.append_assoc]; rfl
        clear hk2 HC9 Hz
        gi_wp2_with fail
        refine wpIn_wide.2 (wp_goto ?_)
        refine ⟨rfl, ⟨(i + 1), k, pre ++ [(some i, none)], ?_⟩, ?_⟩
        · repeat apply Exists.intro
          exact ⟨rfl, by omega, by omega, Hp2, HC2, hj⟩
        · simp [intOf]; omega
      by_cases h2 : 0 < d
      · have Hz : Hid (pre ++ (none, some k) :: zipN ((a.map MtV.m).drop i) ((b.map MtV.m).drop (k + 1)) i (k + 1) = full) := by
         show _ = _
         rw [← Hp.out, Hz2.out h2]
        have hii := Hi2.out
        clear Hz1 Hz2 Hz3 Hp Hi2
        have hz : ZipP full pre (none, some k) W := ⟨_, Hz.out⟩
        have hlen : pre.length < full.length := by rw [← Hz.out]; simp
        obtain ⟨fn, tmps, assign, body, hy, hR⟩ := HY.out _ (none, some k) _ hj hz hlen
        have hy' : (Instr.yield lb #[.pointer none, .pointer (some (bd.add (k * 8)))]).run Tryz.prog W = .ok (.round lb fn tmps assign body) W := hy
        have HR := Lib.hid hR
        have HC9 := Lib.hid HC.out
        clear hy hR hz hlen hj HC
        gi_wp2_with fail
        refine ⟨rfl, HR.out.mono ?_⟩
        clear hy' HR
        rintro e W2 (⟨rfl, hj, hk2⟩ | ⟨rfl, hjx, -⟩)
        rotate_left
        · gi_wp2_with fail
          simp only [Exit.jump]
          refine bodyPost_end (results_none rfl _ _ _) rfl ?_
          exact ⟨⟨_, rfl⟩, .inr ⟨_, hjx⟩⟩
        have HC2 := Lib.hid (HC9.out.kx hk2)
        have Hp2 : Hid ((pre ++ [(none, some k)]) ++ zipN ((a.map MtV.m).drop i) ((b.map MtV.m).drop (k + 1)) i (k + 1) = full) := by show _ = _; rw [← Hz.out, List.append_assoc]; rfl
        clear hk2 HC9 Hz
        gi_wp2_with fail
        refine wpIn_wide.2 (wp_goto ?_)
        refine ⟨rfl, ⟨i, (k + 1), pre ++ [(none, some k)], ?_⟩, ?_⟩
        · repeat apply Exists.intro
          exact ⟨rfl, by omega, by omega, Hp2, HC2, hj⟩
        · simp [intOf]; omega
      · have Hz : Hid (pre ++ (some i, some k) :: zipN ((a.map MtV.m).drop (i + 1)) ((b.map MtV.m).drop (k + 1)) (i + 1) (k + 1) = full) := by
         show _ = _
         rw [← Hp.out, Hz3.out (by omega)]
        have hii := Hi2.out
        clear Hz1 Hz2 Hz3 Hp Hi2
        have hz : ZipP full pre (some i, some k) W := ⟨_, Hz.out⟩
        have hlen : pre.length < full.length := by rw [← Hz.out]; simp
        obtain ⟨fn, tmps, assign, body, hy, hR⟩ := HY.out _ (some i, some k) _ hj hz hlen
        have hy' : (Instr.yield lb #[.pointer (some (ad.add (i * 8))), .pointer (some (bd.add (k * 8)))]).run Tryz.prog W = .ok (.round lb fn tmps assign body) W := hy
        have HR := Lib.hid hR
        have HC9 := Lib.hid HC.out
        clear hy hR hz hlen hj HC
        gi_wp2_with fail
        refine ⟨rfl, HR.out.mono ?_⟩
        clear hy' HR
        rintro e W2 (⟨rfl, hj, hk2⟩ | ⟨rfl, hjx, -⟩)
        rotate_left
        · gi_wp2_with fail
          simp only [Exit.jump]
          refine bodyPost_end (results_none rfl _ _ _) rfl ?_
          exact ⟨⟨_, rfl⟩, .inr ⟨_, hjx⟩⟩
        have HC2 := Lib.hid (HC9.out.kx hk2)
        have Hp2 : Hid ((pre ++ [(some i, some k)]) ++ zipN ((a.map MtV.m).drop (i + 1)) ((b.map MtV.m).drop (k + 1)) (i + 1) (k + 1) = full) := by show _ = _; rw [← Hz.out, List.append_assoc]; rfl
        clear hk2 HC9 Hz
        gi_wp2_with fail
        refine wpIn_wide.2 (wp_goto ?_)
        refine ⟨rfl, ⟨(i + 1), (k + 1), pre ++ [(some i, some k)], ?_⟩, ?_⟩
        · repeat apply Exists.intro
          exact ⟨rfl, by omega, by omega, Hp2, HC2, hj⟩
        · simp [intOf]; omega
    · obtain rfl : k = nb := by omega
      have hkI : ¬ ((k : Int) < (k : Int)) := by omega
      have Hz : Hid (pre ++ (some i, none) :: zipN ((a.map MtV.m).drop (i + 1)) ((b.map MtV.m).drop k) (i + 1) k = full) := by
       show _ = _
       rw [← Hp.out, zipN_x (a := a.map MtV.m) (b := b.map MtV.m) (i := i) (k := k) (by rw [List.length_map]; have := Hna.out; omega) (by rw [List.length_map]; have := Hnb.out; omega)]
      clear h2 Hp
      have hz : ZipP full pre (some i, none) w' := ⟨_, Hz.out⟩
      have hlen : pre.length < full.length := by rw [← Hz.out]; simp
      obtain ⟨fn, tmps, assign, body, hy, hR⟩ := HY.out _ (some i, none) _ hj hz hlen
      have hy' : (Instr.yield lb #[.pointer (some (ad.add (i * 8))), .pointer none]).run Tryz.prog w' = .ok (.round lb fn tmps assign body) w' := hy
      have HR := Lib.hid hR
      have HC9 := Lib.hid HC.out
      clear hy hR hz hlen hj HC
      gi_wp2_with fail
      refine ⟨rfl, HR.out.mono ?_⟩
      clear hy' HR
      rintro e W2 (⟨rfl, hj, hk2⟩ | ⟨rfl, hjx, -⟩)
      rotate_left
      · gi_wp2_with fail
        simp only [Exit.jump]
        refine bodyPost_end (results_none rfl _ _ _) rfl ?_
        exact ⟨⟨_, rfl⟩, .inr ⟨_, hjx⟩⟩
      have HC2 := Lib.hid (HC9.out.kx hk2)
      have Hp2 : Hid ((pre ++ [(some i, none)]) ++ zipN ((a.map MtV.m).drop (i + 1)) ((b.map MtV.m).drop k) (i + 1) k = full) := by show _ = _; rw [← Hz.out, List.append_assoc]; rfl
      clear hk2 HC9 Hz
      gi_wp2_with fail
      refine wpIn_wide.2 (wp_goto ?_)
      refine ⟨rfl, ⟨(i + 1), k, pre ++ [(some i, none)], ?_⟩, ?_⟩
      · repeat apply Exists.intro
        exact ⟨rfl, by omega, by omega, Hp2, HC2, hj⟩
      · simp [intOf]; omega
  · obtain rfl : i = na := by omega
    have hiI : ¬ ((i : Int) < (i : Int)) := by omega
    have hi0 : ((i : Int) == (i : Int)) = true := by simp
    by_cases h2 : k < nb
    · obtain ⟨y, hy⟩ : ∃ y, b[k]? = some y := ⟨_, List.getElem?_eq_getElem (by have := Hnb.out; omega)⟩
      obtain ⟨bd, hbd, hcy⟩ := mt_at HC.out.hB hy
      subst hbd
      have hkI : (k : Int) < (nb : Int) := by omega
      have hk0 : ((k : Int) == (nb : Int)) = false := by simp; omega
      have hk00 : (0 : Int) ≤ (k : Int) := by omega
      have Hz : Hid (pre ++ (none, some k) :: zipN ((a.map MtV.m).drop i) ((b.map MtV.m).drop (k + 1)) i (k + 1) = full) := by
       show _ = _
       rw [← Hp.out, zipN_y (a := a.map MtV.m) (b := b.map MtV.m) (i := i) (k := k) (by rw [List.length_map]; have := Hna.out; omega) (by rw [List.length_map]; have := Hnb.out; omega)]
      clear hy hcy Hp h1
      have hz : ZipP full pre (none, some k) w' := ⟨_, Hz.out⟩
      have hlen : pre.length < full.length := by rw [← Hz.out]; simp
      obtain ⟨fn, tmps, assign, body, hy, hR⟩ := HY.out _ (none, some k) _ hj hz hlen
      have hy' : (Instr.yield lb #[.pointer none, .pointer (some (bd.add (k * 8)))]).run Tryz.prog w' = .ok (.round lb fn tmps assign body) w' := hy
      have HR := Lib.hid hR
      have HC9 := Lib.hid HC.out
      clear hy hR hz hlen hj HC
      gi_wp2_with fail
      refine ⟨rfl, HR.out.mono ?_⟩
      clear hy' HR
      rintro e W2 (⟨rfl, hj, hk2⟩ | ⟨rfl, hjx, -⟩)
      rotate_left
      · gi_wp2_with fail
        simp only [Exit.jump]
        refine bodyPost_end (results_none rfl _ _ _) rfl ?_
        exact ⟨⟨_, rfl⟩, .inr ⟨_, hjx⟩⟩
      have HC2 := Lib.hid (HC9.out.kx hk2)
      have Hp2 : Hid ((pre ++ [(none, some k)]) ++ zipN ((a.map MtV.m).drop i) ((b.map MtV.m).drop (k + 1)) i (k + 1) = full) := by show _ = _; rw [← Hz.out, List.append_assoc]; rfl
      clear hk2 HC9 Hz
      gi_wp2_with fail
      refine wpIn_wide.2 (wp_goto ?_)
      refine ⟨rfl, ⟨i, (k + 1), pre ++ [(none, some k)], ?_⟩, ?_⟩
      · repeat apply Exists.intro
        exact ⟨rfl, by omega, by omega, Hp2, HC2, hj⟩
      · simp [intOf]; omega
    · obtain rfl : k = nb := by omega
      have hk0 : ((k : Int) == (k : Int)) = true := by simp
      have Hz : Hid (pre = full) := by
       show _ = _
       have := Hp.out
       rw [zipN_0 (a := a.map MtV.m) (b := b.map MtV.m) (i := i) (k := k) (by rw [List.length_map]; have := Hna.out; omega) (by rw [List.length_map]; have := Hnb.out; omega), List.append_nil] at this
       exact this
      clear Hp
      gi_wp2_with fail
      simp only [Exit.jump]
      refine bodyPost_ret (results_none rfl _ _ _) rfl ?_
      exact ⟨⟨_, rfl⟩, .inl (Hz.out ▸ hj)⟩
end Go.Proofs.YtcgglolckkeeiaaGreat
