/- Lemmas for CmAll. -/
import Derived.Test.YtcgglolckkeeiaaGreatZm23
import Derived.Test.YtcgglolckkeeiaaGreatZm13
import Derived.Test.YtcgglolckkeeiaaGreatZm18
import Derived.Test.YtcgglolckkeeiaaGreatZm26
import Derived.Test.YtcgglolckkeeiaaGreatZm12
import Derived.Test.YtcgglolckkeeiaaGreatZm1
import Derived.Test.YtcgglolckkeeiaaGreatRows
import Derived.Maps.OwnIn
namespace Go.Proofs.YtcgglolckkeeiaaGreat
set_option linter.unusedVariables false
open Go.RowKit Go.Deep
theorem info_mt : (Tryz.prog.info? 47).map (fun i => (i.zero, i.size, i.bytes)) = some (some (.agg #[.slice none 0 0, .int .i64 0, .int .i64 0, .int .i64 0, .int .i64 0, .int .i64 0, .int .i64 0, .string ByteArray.empty]), 8, 88) := by kernel_rfl
theorem mtsC_append (a b : List MtV) : mtsC (a ++ b) = mtsC a ++ mtsC b := by simp [mtsC]
theorem mtsC_len : ∀ l : List MtV, (mtsC l).length = l.length * 8
 | [] => rfl
 | x :: l => by
  have := mtsC_len l
  have h : mtsC (x :: l) = x.cells ++ mtsC l := rfl
  rw [h, List.length_append, this]; simp [MtV.cells]; omega
theorem mtsC_one (l : List MtV) : ∀ u ∈ mtsC l, u.oneCell' = true := fun u hu => by
 obtain ⟨x, _, hx⟩ := List.mem_flatMap.1 hu
 have := mt_one x
 rw [Array.all_eq_true'] at this
 exact this u (by simpa using hx)
theorem append_mt {W : World} {B n m cap : Nat} {v : Value} {xs : List Value} {A : Option Addr} (hown : W.ownsRow B 47 8 v n xs) (hB : B ≤ W.heap.size) (l : List MtV) (hr : Rd W A (mtsC l)) (hm : m = l.length) (hA : A = none → m = 0) (hb : n + m ≤ 1000000) :
 ∃ v' W', (Builtin.append_ #[27, 27] 27 #[v, .slice A m cap]).run Tryz.prog W = .ok v' W' ∧ W'.ownsRow B 47 8 v' (n + m) (xs ++ mtsC l) ∧ W.grownBy W' v.ownBlock ∧ (v'.ownBlock = v.ownBlock ∨ v'.ownBlock = some W.heap.size) :=
 append_rd 27 47 _ 8 88 Tryz.underlying27 info_mt rfl (by decide) (by decide) hown hB hr (by rw [mtsC_len, hm]) (mtsC_one l) hA hb
end Go.Proofs.YtcgglolckkeeiaaGreat
namespace Go.Proofs.YtcgglolckkeeiaaGreat
set_option linter.unusedVariables false
open Go.RowKit Go.Deep
def MtT (W : World) (x : MtV) : Prop := MtOk W x ∧ IntB W x.A
theorem MtT.same {A B : World} {x : MtV} (h : MtT A x) (hb : ∀ (a : Addr) (cs : Array Value), x.A = some a → Row A a.block 3 cs → Row B a.block 3 cs) : MtT B x :=
 ⟨⟨fun j u hj => by
  obtain ⟨a, e, hc⟩ := h.1.rd j u hj
  obtain ⟨cs, hr⟩ := h.2 a e
  exact ⟨a, e, (World.cell?_of_block (by rw [add_block]; exact (hb a cs e hr).trans (Eq.symm hr))).trans hc⟩, h.1.len, h.1.nil, h.1.dig⟩, fun a e => by
  obtain ⟨cs, hr⟩ := h.2 a e
  exact ⟨cs, hb a cs e hr⟩⟩
theorem MtT.go {A B : World} {x : MtV} (h : MtT A x) (b : Below A.heap.size A B) : MtT B x := h.same fun _ _ _ hr => hr.below b hr.lt
theorem MtT.abide {W W' : World} {x : MtV} {row : Option Nat} {q : Nat → Prop} (h : MtT W x) (hg : W.grownBy W' row) (hr : ∀ r, row = some r → False ∨ (q r ∧ ∃ o : Obj, W.heap[r]? = some o ∧ o.isCells = false)) : MtT W' x := h.same fun _ _ _ k => k.abide hg hr
theorem MtT.own {W W' : World} {x : MtV} {lim n : Nat} {v : Value} {xs : List Value} (h : MtT W x) (hown : W.ownsRow lim 47 8 v n xs) (hg : W.grownBy W' v.ownBlock) : MtT W' x := h.same fun _ _ _ k => k.grown hg (own_ne hown k (by decide))
theorem MtT.only {W W' : World} {x : MtV} {g : Nat} {t : TypeId} {cs : Array Value} (h : MtT W x) (hr : Row W g t cs) (ht : t ≠ 3) (o : Only g W W') : MtT W' x := h.same fun a cs' _ k => k.only o (fun e => by
 have h1 : W.heap[g]? = some (.cells cs' 3 (0, 0)) := by rw [← e]; exact k
 rw [show W.heap[g]? = some (.cells cs t (0, 0)) from hr] at h1
 injection h1 with h1; injection h1 with _ h1; exact ht h1)
theorem info_mtz : (Tryz.prog.info? 47).map (fun i => (i.zero, i.size)) = some (some (.agg #[.slice none 0 0, .int .i64 0, .int .i64 0, .int .i64 0, .int .i64 0, .int .i64 0, .int .i64 0, .string ByteArray.empty]), 8) := by kernel_rfl
end Go.Proofs.YtcgglolckkeeiaaGreat
namespace Go.Proofs.YtcgglolckkeeiaaGreat
set_option linter.unusedVariables false
set_option linter.unusedSimpArgs false
open Go.RowKit Go.Deep
def bodyE : List Nd := [⟨20, 1⟩, ⟨25, 0⟩, ⟨3, 0⟩]
def treeE : Tr := .node ⟨20, 1⟩ [.node ⟨25, 0⟩ [.node ⟨3, 0⟩ []]]
def pE (g1 g2 : Nat) : PgV := ⟨1, some ⟨g1, 0, none⟩, 1, [0], some ⟨g2, 0, none⟩, 3, bodyE⟩
def mE : Mt := ⟨⟨[0], 5, 0⟩, 0, -1, 0, 0, []⟩
def mvE (g3 : Nat) : MtV := ⟨some ⟨g3, 0, none⟩, 1, mE⟩
def tvE (g4 : Nat) : IntsV := ⟨some ⟨g4, 0, none⟩, 1, [1]⟩
def cE (g1 g2 g3 g4 g5 g6 : Nat) : CpV := ⟨pE g1 g2, some ⟨g5, 0, none⟩, 1, [tvE g4], 9, some ⟨g6, 0, none⟩, 1, [mvE g3], ⟨1, 0, 0⟩⟩
theorem rd_row0 {W : World} {g : Nat} {t : TypeId} {cs : List Value} (h : Row W g t cs.toArray) : Rd W (some ⟨g, 0, none⟩) cs := rd_rowP h
theorem pE_ok {g1 g2 : Nat} {W : World} (r1 : Row W g1 3 (ints [0]).toArray) (r2 : Row W g2 74 (bodyE.flatMap Nd.cells).toArray) : (pE g1 g2).ok W :=
 ⟨by unfold InI pE; dsimp only; omega, by simp [pE], by unfold maxLen; simp [pE], fun h => (by cases h), rd_row0 r1, by simp [pE, InI], by simp [pE, bodyE], by unfold maxLen; simp [pE], fun h => (by cases h), rd_row0 r2, by simp [pE, bodyE, InI]⟩
theorem tvE_ok {g4 : Nat} {W : World} (r4 : Row W g4 3 (ints [1]).toArray) : (tvE g4).ok W :=
 ⟨by simp [tvE], by unfold maxLen; simp [tvE], fun h => (by cases h), rd_row0 r4, by simp [tvE, InI]⟩
theorem mvE_ok {g3 : Nat} {W : World} (r3 : Row W g3 3 (ints [0]).toArray) : MtOk W (mvE g3) :=
 ⟨rd_row0 r3, by simp [mvE, mE], fun h => (by cases h), by simp [mvE, mE]⟩
theorem cE_ok {g1 g2 g3 g4 g5 g6 : Nat} {W : World} (r1 : Row W g1 3 (ints [0]).toArray) (r2 : Row W g2 74 (bodyE.flatMap Nd.cells).toArray) (r3 : Row W g3 3 (ints [0]).toArray) (r4 : Row W g4 3 (ints [1]).toArray)
 (r5 : Row W g5 22 (tstC [tvE g4]).toArray) (r6 : Row W g6 47 (mtsC [mvE g3]).toArray) : CpOk W (cE g1 g2 g3 g4 g5 g6) :=
 ⟨pE_ok r1 r2, by simp [cE, pE, bodyE], by simp [cE, pE], rd_row0 r5, fun x hx => by rw [List.mem_singleton.1 hx]; exact tvE_ok r4, by simp [cE], fun x hx => by rw [List.mem_singleton.1 hx]; simp [tvE], fun h => (by cases h), rd_row0 r6, fun x hx => by rw [List.mem_singleton.1 hx]; exact mvE_ok r3, by simp [cE], fun h => (by cases h)⟩
theorem treeE_fits : treeE.fits := by
 refine .mk _ _ (by rfl) (fun k hk => ?_)
 rw [List.mem_singleton.1 hk]
 refine .mk _ _ (by rfl) (fun k hk => ?_)
 rw [List.mem_singleton.1 hk]
 exact .mk _ _ (by rfl) (fun k hk => by simp at hk)
theorem goodE (g1 g2 : Nat) : Good (pE g1 g2) treeE := ⟨⟨treeE_fits, [], by rfl⟩, by rfl, by show varsOk 1 [0]; decide, rfl, by show ofT [0] treeE = 2; decide +kernel⟩
theorem fineE (g1 g2 : Nat) : Fine (pE g1 g2) treeE := ⟨goodE g1 g2, by simp [pE, bodyE], by show ∀ x ∈ bodyE, ¬ arityZ x < 0; decide, by decide +kernel⟩
theorem inE (g1 g2 : Nat) : inP (pE g1 g2) ⟨[0], 5, 0⟩ = true := (inP_fine (fineE g1 g2) _).2 (by
 show (⟨[0], 5, 0⟩ : Dl) ∈ allZ bodyE treeE
 unfold allZ
 rw [List.mem_flatMap]
 refine ⟨(1, [0]), by simp [pathsT, pathsK, treeE], ?_⟩
 rw [List.mem_map]
 refine ⟨(5, 0), ?_, rfl⟩
 unfold choicesAt choicesZ
 rw [List.mem_flatMap]
 refine ⟨5, by rw [List.mem_map]; exact ⟨4, by simp, rfl⟩, ?_⟩
 rw [List.mem_map]
 refine ⟨0, ?_, rfl⟩
 rw [List.mem_filter]
 exact ⟨by unfold triesZ; rw [sortU_mem]; simp, by decide⟩)
theorem okE (g1 g2 g3 g4 g5 g6 : Nat) : OkC (cE g1 g2 g3 g4 g5 g6) :=
 ⟨checkP_ok.2 ⟨_, fineE g1 g2⟩, by show suiteZ 1 [[1]] 9 = 0; decide, by show [mE].length ≤ 2000; decide, trivial, fun m hm => by rw [List.mem_singleton.1 hm]; exact inE g1 g2, fun m hm => by rw [List.mem_singleton.1 hm]; show oddZ 1 mE = false; decide, by show (⟨1, 0, 0⟩ : Sc) = scoreZ [mE]; rfl⟩
theorem checkP_cp0 : checkP cp0.p = 10 := by rw [checkP_0 (by rw [checkA_0 rfl]; decide), checkA_0 rfl]
theorem info_iE : (Tryz.prog.info? 3).map (fun i => (i.zero, i.size)) = some (some (.int .i64 0), 1) := by kernel_rfl
theorem info_nE : (Tryz.prog.info? 74).map (fun i => (i.zero, i.size)) = some (some (.agg #[.int .i64 0, .int .i64 0]), 2) := by kernel_rfl
theorem info_tE : (Tryz.prog.info? 22).map (fun i => (i.zero, i.size)) = some (some (.slice none 0 0), 1) := by kernel_rfl
theorem zero_pgE {w : World} : (zeroValue 25).run Tryz.prog w = .ok (.agg #[.int .i64 0, .slice none 0 0, .slice none 0 0]) w := by kernel_rfl
end Go.Proofs.YtcgglolckkeeiaaGreat
namespace Go.Proofs.YtcgglolckkeeiaaGreat
set_option linter.unusedVariables false
open Go.RowKit
def lebK : Nat → List UInt8 → Option Nat
 | 0, _ => none
 | _ + 1, [] => none
 | f + 1, b :: t => if b.toNat < 128 then some 1 else (lebK f t).map (· + 1)
def lebV : List UInt8 → Nat
 | [] => 0
 | b :: t => b.toNat % 128 + 128 * lebV t
inductive LebW : List UInt8 → Prop
 | one (b : UInt8) (h : b.toNat < 128) : LebW [b]
 | more (b : UInt8) (t : List UInt8) (h : 128 ≤ b.toNat) (k : LebW t) : LebW (b :: t)
theorem LebW.pos {p : List UInt8} (h : LebW p) : 0 < p.length := by cases h <;> simp
theorem lebK_some : ∀ {f k : Nat} {t : List UInt8}, lebK f t = some k → LebW (t.take k) ∧ k ≤ f ∧ k ≤ t.length ∧ 0 < k
 | 0, _, _, h => by simp [lebK] at h
 | f + 1, k, [], h => by simp [lebK] at h
 | f + 1, k, b :: t, h => by
  rw [lebK] at h
  by_cases hb : b.toNat < 128
  · rw [if_pos hb] at h
    injection h with h
    subst h
    exact ⟨by simpa using LebW.one b hb, by omega, by simp, by omega⟩
  · rw [if_neg hb] at h
    obtain ⟨j, hj, rfl⟩ := Option.map_eq_some_iff.1 h
    obtain ⟨h1, h2, h3, h4⟩ := lebK_some hj
    exact ⟨by rw [List.take_succ_cons]; exact .more b _ (by omega) h1, by omega, by simp; omega, by omega⟩
theorem lebV_lt : ∀ (p : List UInt8), lebV p < 128 ^ p.length
 | [] => by simp [lebV]
 | b :: t => by
  have := lebV_lt t
  rw [lebV, List.length_cons, Nat.pow_succ]
  have hb : b.toNat % 128 < 128 := Nat.mod_lt _ (by decide)
  omega
theorem lebV_snoc : ∀ (p : List UInt8) (b : UInt8), lebV (p ++ [b]) = lebV p + b.toNat % 128 * 128 ^ p.length
 | [], b => by simp [lebV]
 | c :: t, b => by
  rw [List.cons_append, lebV, lebV, lebV_snoc t b, List.length_cons, Nat.pow_succ, Nat.mul_add, Nat.mul_comm 128 (b.toNat % 128 * _), Nat.mul_assoc]
  omega
theorem lebV_last : ∀ {p : List UInt8} {b : UInt8}, p.getLast? = some b → b.toNat % 128 * 128 ^ (p.length - 1) ≤ lebV p := fun {p b} h => by
 obtain ⟨q, rfl⟩ : ∃ q, p = q ++ [b] := by
  rw [List.getLast?_eq_some_iff] at h
  exact h
 rw [lebV_snoc]
 simp
theorem LebW.last {p : List UInt8} (h : LebW p) : ∃ b, p.getLast? = some b ∧ b.toNat < 128 := by
 induction h with
 | one b h => exact ⟨b, rfl, h⟩
 | more b t h k ih =>
  obtain ⟨c, hc, hl⟩ := ih
  refine ⟨c, ?_, hl⟩
  rw [List.getLast?_cons, hc]; rfl
theorem u8_of {b : UInt8} {n : Nat} (h : n = b.toNat) : UInt8.ofNat n = b := by rw [h]; simp
theorem lebF_V {p : List UInt8} (h : LebW p) : ∀ f, p.length ≤ f → (1 < p.length → p.getLast? ≠ some 0) → lebF f (lebV p) = p := by
 induction h with
 | one b hb =>
  intro f hf _
  obtain ⟨g, rfl⟩ : ∃ g, f = g + 1 := ⟨f - 1, by simp at hf; omega⟩
  have e : lebV [b] = b.toNat := by rw [lebV, lebV]; omega
  rw [e, lebF_small _ _ hb, u8_of rfl]
 | more b t hb k ih =>
  intro f hf hl
  obtain ⟨g, rfl⟩ : ∃ g, f = g + 1 := ⟨f - 1, by simp at hf; omega⟩
  have hp := k.pos
  obtain ⟨c, hc, hc1⟩ := k.last
  have hlast : (b :: t).getLast? = some c := by rw [List.getLast?_cons, hc]; rfl
  have hc0 : c ≠ 0 := fun e => hl (by simp; omega) (by rw [hlast, e])
  have hcn : 0 < c.toNat := by
   rcases Nat.eq_zero_or_pos c.toNat with h | h
   · exact absurd (UInt8.toNat_inj.1 (by simpa using h)) hc0
   · exact h
  have hv : 0 < lebV t := by
   have h1 := lebV_last hc
   have h2 : 0 < 128 ^ (t.length - 1) := Nat.pow_pos (by decide)
   have h3 : c.toNat % 128 = c.toNat := Nat.mod_eq_of_lt hc1
   rw [h3] at h1
   exact Nat.lt_of_lt_of_le (Nat.mul_pos hcn h2) h1
  have hb2 := b.toNat_lt
  have e1 : lebV (b :: t) % 128 = b.toNat % 128 := by rw [lebV]; omega
  have e2 : lebV (b :: t) / 128 = lebV t := by rw [lebV]; omega
  rw [lebF_big _ _ (by rw [lebV]; omega), e1, e2, ih g (by simp at hf; omega) (fun h1 h2 => hl (by simp; omega) (by rw [hlast, ← h2, hc])), show UInt8.ofNat (128 + b.toNat % 128) = b from u8_of (by omega)]
theorem lebV_F : ∀ (f n : Nat), n < 128 ^ f → lebV (lebF f n) = n
 | 0, n, h => by simp at h; rw [lebF, lebV, h]
 | f + 1, n, h => by
  by_cases hn : n < 128
  · rw [lebF_small _ _ hn, lebV, lebV]
    have : (UInt8.ofNat n).toNat = n := by simp; omega
    rw [this]; omega
  · rw [lebF_big _ _ hn, lebV, lebV_F f (n / 128) (by rw [Nat.pow_succ] at h; omega)]
    have : (UInt8.ofNat (128 + n % 128)).toNat = 128 + n % 128 := by simp; omega
    rw [this]; omega
theorem lebF_W : ∀ (f n : Nat), n < 128 ^ (f + 1) → LebW (lebF (f + 1) n)
 | f, n, h => by
  by_cases hn : n < 128
  · rw [lebF_small _ _ hn]
    exact .one _ (by simp; omega)
  · rw [lebF_big _ _ hn]
    cases f with
    | zero => simp at h; omega
    | succ f => exact .more _ _ (by simp; omega) (lebF_W f (n / 128) (by rw [Nat.pow_succ] at h; omega))
theorem lebF_last : ∀ (f n : Nat), n < 128 ^ (f + 1) → 1 < (lebF (f + 1) n).length → (lebF (f + 1) n).getLast? ≠ some 0
 | f, n, h, hl => by
  by_cases hn : n < 128
  · rw [lebF_small _ _ hn] at hl; simp at hl
  · rw [lebF_big _ _ hn] at hl ⊢
    cases f with
    | zero => simp at h; omega
    | succ f =>
     have hw := lebF_W f (n / 128) (by rw [Nat.pow_succ] at h; omega)
     obtain ⟨c, hc, _⟩ := hw.last
     rw [List.getLast?_cons, hc]
     show some c ≠ some 0
     by_cases h1 : 1 < (lebF (f + 1) (n / 128)).length
     · rw [← hc]; exact lebF_last f (n / 128) (by rw [Nat.pow_succ] at h; omega) h1
     · have hsm : n / 128 < 128 := by
        rcases Nat.lt_or_ge (n / 128) 128 with h2 | h2
        · exact h2
        · rw [lebF_big _ _ (by omega)] at h1
          have := lebF_pos
          cases f with
          | zero => simp at h; omega
          | succ f => have := lebF_pos f (n / 128 / 128); simp only [List.length_cons] at h1; omega
       rw [lebF_small _ _ hsm] at hc
       simp at hc
       rw [← hc]
       intro e
       injection e with e
       have := u8_eq (b := 0) (by simpa using e)
       omega
def getL (t : List UInt8) : Int × Nat × Nat :=
 match lebK 10 t with
 | none => if t.length < 10 then (2, 0, 0) else (3, 0, 0)
 | some k => if lebL (lebV (t.take k) % 18446744073709551616) = t.take k then (0, lebV (t.take k) % 18446744073709551616, k) else (3, 0, 0)
theorem leb_right {p : List UInt8} (h : LebW p) (hl : p.length ≤ 10) {b : UInt8} (hb : p.getLast? = some b) : lebL (lebV p % 18446744073709551616) = p ↔ ¬ ((b = 0 ∧ 1 < p.length) ∨ (p.length = 10 ∧ 1 < b.toNat)) := by
 have e9 : (128 : Nat) ^ 9 = 9223372036854775808 := by decide
 have e10 : (128 : Nat) ^ 10 = 1180591620717411303424 := by decide
 constructor
 · intro e hbad
   have hn : lebV p % 18446744073709551616 < 18446744073709551616 := Nat.mod_lt _ (by decide)
   have hv : lebV p = lebV p % 18446744073709551616 := by
    have h1 := lebV_F 10 (lebV p % 18446744073709551616) (by rw [e10]; omega)
    rw [show lebF 10 (lebV p % 18446744073709551616) = p from e] at h1
    exact h1
   rcases hbad with ⟨h0, h1⟩ | ⟨h1, h2⟩
   · have h3 := lebF_last 9 (lebV p % 18446744073709551616) (by rw [e10]; omega)
     rw [show lebF 10 (lebV p % 18446744073709551616) = p from e] at h3
     exact h3 h1 (by rw [hb, h0])
   · have h3 := lebV_last hb
     obtain ⟨c, hc, hc1⟩ := h.last
     rw [hb] at hc
     injection hc with hc
     subst hc
     rw [h1, Nat.mod_eq_of_lt hc1] at h3
     rw [show (10 : Nat) - 1 = 9 from rfl, e9] at h3
     omega
 · intro hg
   obtain ⟨c, hc, hc1⟩ := h.last
   rw [hb] at hc
   injection hc with hc
   subst hc
   have hlt : lebV p < 18446744073709551616 := by
    rcases Nat.lt_or_ge p.length 10 with h1 | h1
    · have h2 := lebV_lt p
      have h3 : 128 ^ p.length ≤ 128 ^ 9 := Nat.pow_le_pow_right (by decide) (by omega)
      rw [e9] at h3
      omega
    · obtain ⟨q, rfl⟩ : ∃ q, p = q ++ [b] := by rw [List.getLast?_eq_some_iff] at hb; exact hb
      have hq : q.length = 9 := by simp at hl h1; omega
      rw [lebV_snoc, hq, e9]
      have h2 := lebV_lt q
      rw [hq, e9] at h2
      have h3 : b.toNat ≤ 1 := by
       rcases Nat.lt_or_ge 1 b.toNat with h4 | h4
       · exact absurd (.inr ⟨by simp; omega, h4⟩) hg
       · exact h4
      have h5 : b.toNat % 128 ≤ 1 := by omega
      have h6 : b.toNat % 128 * 9223372036854775808 ≤ 9223372036854775808 := by
       rcases Nat.le_one_iff_eq_zero_or_eq_one.1 h5 with h | h <;> rw [h] <;> decide
      omega
   rw [Nat.mod_eq_of_lt hlt]
   exact lebF_V h 10 hl (fun h1 h2 => hg (.inl ⟨by rw [hb] at h2; exact Option.some.inj h2, h1⟩))
theorem getL_put (n : Nat) (hn : n < 18446744073709551616) (r : List UInt8) : getL (lebL n ++ r) = (0, n, (lebL n).length) := by
 have e10 : (128 : Nat) ^ 10 = 1180591620717411303424 := by decide
 have hw : LebW (lebL n) := lebF_W 9 n (by rw [e10]; omega)
 have hk : ∀ {p : List UInt8}, LebW p → ∀ f, p.length ≤ f → lebK f (p ++ r) = some p.length := by
  intro p hp
  induction hp with
  | one b hb =>
   intro f hf
   obtain ⟨g, rfl⟩ : ∃ g, f = g + 1 := ⟨f - 1, by simp at hf; omega⟩
   simp [lebK, hb]
  | more b t hb k ih =>
   intro f hf
   obtain ⟨g, rfl⟩ : ∃ g, f = g + 1 := ⟨f - 1, by simp at hf; omega⟩
   rw [List.cons_append, lebK, if_neg (by omega), ih g (by simp at hf; omega)]
   rfl
 unfold getL
 rw [hk hw 10 (lebL_len n)]
 have hv : lebV (lebL n) = n := lebV_F 10 n (by rw [e10]; omega)
 simp only [List.take_left', hv, Nat.mod_eq_of_lt hn, if_true]
end Go.Proofs.YtcgglolckkeeiaaGreat
namespace Go.Proofs.YtcgglolckkeeiaaGreat
set_option linter.unusedVariables false
open Go.RowKit Go.Deep
theorem ix_str {s : List UInt8} {i : Nat} {b : UInt8} (h : s[i]? = some b) (W : World) : (Instr.index 9 (.string ⟨s.toArray⟩) (.int .i64 (i : Int))).run Tryz.prog W = .ok (.int .u8 (b.toNat : Int)) W := by
 have hi : i < s.length := (List.getElem?_eq_some_iff.1 h).1
 rw [run_index_string W _ _ _ _ Tryz.underlying9, dif_pos ⟨by omega, by simpa [ByteArray.size] using hi⟩]
 have e : (⟨s.toArray⟩ : ByteArray)[((i : Int)).toNat]'(by simpa [ByteArray.size] using hi) = b := by
  show s.toArray[i]'(by simpa using hi) = b
  rw [List.getElem_toArray]
  exact (List.getElem?_eq_some_iff.1 h).2
 rw [e]
theorem or_seven (n c k : Nat) (hk : k ≤ 9) (hn : n < 128 ^ k) (hc : c < 128) : bits .or .u64 (n : Int) (((c * 128 ^ k % 18446744073709551616 : Nat)) : Int) = (((n + c * 128 ^ k) % 18446744073709551616 : Nat) : Int) := by
 have e2 : (128 : Nat) ^ k = 2 ^ (7 * k) := by rw [show (128 : Nat) = 2 ^ 7 from rfl, ← Nat.pow_mul]
 have e3 : (18446744073709551616 : Nat) = 2 ^ (64 - 7 * k) * 2 ^ (7 * k) := by rw [← Nat.pow_add, show 64 - 7 * k + 7 * k = 64 by omega]
 obtain ⟨q, hq⟩ : ∃ q, c * 128 ^ k % 18446744073709551616 = q * 2 ^ (7 * k) ∧ q < 2 ^ (64 - 7 * k) := by
  refine ⟨c % 2 ^ (64 - 7 * k), ?_, Nat.mod_lt _ (Nat.pow_pos (by decide))⟩
  rw [e2, e3, Nat.mul_mod_mul_right]
 obtain ⟨hq, hq2⟩ := hq
 have hlt : q * 2 ^ (7 * k) + n < 18446744073709551616 := by
  have h1 : (q + 1) * 2 ^ (7 * k) ≤ 2 ^ (64 - 7 * k) * 2 ^ (7 * k) := Nat.mul_le_mul_right _ hq2
  rw [← e3, Nat.add_mul, Nat.one_mul] at h1
  rw [e2] at hn
  omega
 have hn2 : n < 18446744073709551616 := by omega
 have hm : (n + c * 128 ^ k) % 18446744073709551616 = n + q * 2 ^ (7 * k) := by
  rw [Nat.add_mod, hq, Nat.mod_eq_of_lt hn2, Nat.mod_eq_of_lt (by omega)]
 rw [hm, hq]
 show IntKind.u64.wrap ((BitVec.ofInt 64 (n : Int) ||| BitVec.ofInt 64 ((q * 2 ^ (7 * k) : Nat) : Int)).toNat : Int) = _
 have e1 : (BitVec.ofInt 64 (n : Int) ||| BitVec.ofInt 64 ((q * 2 ^ (7 * k) : Nat) : Int)).toNat = n + q * 2 ^ (7 * k) := by
  rw [BitVec.toNat_or, BitVec.ofInt_natCast, BitVec.ofInt_natCast, BitVec.toNat_ofNat, BitVec.toNat_ofNat, Nat.mod_eq_of_lt (by omega), Nat.mod_eq_of_lt (by omega), Nat.or_comm]
  have := Nat.shiftLeft_add_eq_or_of_lt (i := 7 * k) (b := n) (by rw [← e2]; exact hn) q
  rw [Nat.shiftLeft_eq] at this
  rw [← this]; omega
 rw [e1, IntKind.wrap_u64]
 omega
theorem and_seven (b : UInt8) : bits .and .u8 (b.toNat : Int) 127 = ((b.toNat % 128 : Nat) : Int) := by
 have h : ∀ m : Nat, m < 256 → bits .and .u8 (m : Int) 127 = ((m % 128 : Nat) : Int) := by decide +kernel
 exact h _ b.toNat_lt
def Bigs (t : List UInt8) (k : Nat) : Prop := k ≤ t.length ∧ ∀ i b, i < k → t[i]? = some b → 128 ≤ b.toNat
theorem Bigs.zero (t : List UInt8) : Bigs t 0 := ⟨Nat.zero_le _, fun _ _ h => absurd h (Nat.not_lt_zero _)⟩
theorem Bigs.succ {t : List UInt8} {k : Nat} {b : UInt8} (h : Bigs t k) (hb : t[k]? = some b) (hl : 128 ≤ b.toNat) : Bigs t (k + 1) :=
 ⟨(List.getElem?_eq_some_iff.1 hb).1, fun i c hi hc => by
  rcases Nat.lt_succ_iff_lt_or_eq.1 hi with h1 | rfl
  · exact h.2 i c h1 hc
  · rw [hb] at hc; injection hc with hc; subst hc; exact hl⟩
theorem lebK_bigs : ∀ {k f : Nat} {t : List UInt8}, Bigs t k → lebK (k + f) t = (lebK f (t.drop k)).map (· + k)
 | 0, f, t, _ => by simp
 | k + 1, f, [], h => by have := h.1; simp at this
 | k + 1, f, c :: t, h => by
  have hc : 128 ≤ c.toNat := h.2 0 c (by omega) rfl
  have ht : Bigs t k := ⟨by have := h.1; simp at this; exact this, fun i b hi hb => h.2 (i + 1) b (by omega) (by simpa using hb)⟩
  rw [show k + 1 + f = (k + f) + 1 by omega, lebK, if_neg (by omega), lebK_bigs ht, List.drop_succ_cons, Option.map_map]
  congr 1
theorem get_big {t : List UInt8} (h : Bigs t 10) : getL t = (3, 0, 0) := by
 have := lebK_bigs (f := 0) h
 unfold getL
 rw [show (10 : Nat) = 10 + 0 from rfl, this]
 have := h.1
 simp only [lebK, Option.map_none]
 rw [if_neg (by omega)]
theorem get_short {t : List UInt8} {k : Nat} (h : Bigs t k) (hk : t.length = k) (h10 : k < 10) : getL t = (2, 0, 0) := by
 obtain ⟨f, hf⟩ : ∃ f, 10 = k + (f + 1) := ⟨9 - k, by omega⟩
 have := lebK_bigs (f := f + 1) h
 unfold getL
 rw [hf, this, List.drop_of_length_le (by omega)]
 simp only [lebK, Option.map_none]
 rw [if_pos (by omega)]
theorem take_snoc {α : Type} {t : List α} {k : Nat} {b : α} (hb : t[k]? = some b) : t.take (k + 1) = t.take k ++ [b] := by
 rw [List.take_add_one, hb]; rfl
theorem get_end {t : List UInt8} {k : Nat} {b : UInt8} (h : Bigs t k) (hb : t[k]? = some b) (hl : b.toNat < 128) (h10 : k < 10) :
 getL t = if (b = 0 ∧ 0 < k) ∨ (k = 9 ∧ 1 < b.toNat) then (3, 0, 0) else (0, lebV (t.take (k + 1)) % 18446744073709551616, k + 1) := by
 obtain ⟨f, hf⟩ : ∃ f, 10 = k + (f + 1) := ⟨9 - k, by omega⟩
 have hk := (List.getElem?_eq_some_iff.1 hb).1
 have e1 := lebK_bigs (f := f + 1) h
 have e2 : t.drop k = b :: t.drop (k + 1) := by rw [← List.getElem_cons_drop hk, (List.getElem?_eq_some_iff.1 hb).2]
 rw [e2, lebK, if_pos hl, ← hf] at e1
 have e3 : lebK 10 t = some (k + 1) := by rw [e1]; simp [Nat.add_comm]
 obtain ⟨hw, _, _, _⟩ := lebK_some e3
 have hlen : (t.take (k + 1)).length = k + 1 := by simp; omega
 have hr := leb_right hw (by omega) (b := b) (by rw [take_snoc hb]; simp)
 rw [hlen] at hr
 unfold getL
 rw [e3]
 simp only
 by_cases hc : (b = 0 ∧ 0 < k) ∨ (k = 9 ∧ 1 < b.toNat)
 · rw [if_pos hc, if_neg (fun e => (hr.1 e) (by rcases hc with ⟨h1, h2⟩ | ⟨h1, h2⟩; exact .inl ⟨h1, by omega⟩; exact .inr ⟨by omega, h2⟩))]
 · rw [if_neg hc, if_pos (hr.2 (fun e => hc (by rcases e with ⟨h1, h2⟩ | ⟨h1, h2⟩; exact .inl ⟨h1, by omega⟩; exact .inr ⟨by omega, h2⟩)))]
theorem or_step {t : List UInt8} {k n : Nat} {b : UInt8} (hk : k ≤ 9) (hb : t[k]? = some b) (hn : n = lebV (t.take k) % 18446744073709551616) :
 bits .or .u64 (n : Int) (IntKind.u64.wrap ((b.toNat : Int) % 128 * 2 ^ (7 * k))) = ((lebV (t.take (k + 1)) % 18446744073709551616 : Nat) : Int) := by
 have hl := lebV_lt (t.take k)
 have hkl := (List.getElem?_eq_some_iff.1 hb).1
 rw [List.length_take, Nat.min_eq_left (by omega)] at hl
 have h9 : 128 ^ k ≤ 128 ^ 9 := Nat.pow_le_pow_right (by decide) hk
 rw [show (128 : Nat) ^ 9 = 9223372036854775808 from by decide] at h9
 rw [Nat.mod_eq_of_lt (by omega)] at hn
 subst hn
 have e2 : (2 : Int) ^ (7 * k) = ((128 ^ k : Nat) : Int) := by
  rw [show (128 : Nat) ^ k = 2 ^ (7 * k) by rw [show (128 : Nat) = 2 ^ 7 from rfl, ← Nat.pow_mul]]
  simp
 have e3 : IntKind.u64.wrap ((b.toNat : Int) % 128 * 2 ^ (7 * k)) = ((b.toNat % 128 * 128 ^ k % 18446744073709551616 : Nat) : Int) := by
  rw [e2, IntKind.wrap_u64, Int.natCast_emod, Int.natCast_mul, Int.natCast_emod]; rfl
 rw [e3, or_seven _ _ k hk hl (Nat.mod_lt _ (by decide)), take_snoc hb, lebV_snoc, List.length_take, Nat.min_eq_left (by omega)]
theorem ret_get {a b c d e f : Int} (h1 : a = b) (h2 : c = d) (h3 : e = f) : Ending.returned (.tuple #[.int .u64 a, .int .i64 c, .int .i64 e]) = .returned (.tuple #[.int .u64 b, .int .i64 d, .int .i64 f]) := by rw [h1, h2, h3]
set_option maxRecDepth 100000 in
set_option maxHeartbeats 4000000 in
theorem lebGet_any (s : List UInt8) (at_ : Nat) (ha : at_ ≤ s.length) (hs : s.length ≤ 1000000) (w : World) :
 Calls Tryz.prog 173 #[.string ⟨s.toArray⟩, .int .i64 (at_ : Int)] w fun e w' => e = .returned (.tuple #[.int .u64 ((getL (s.drop at_)).2.1 : Int), .int .i64 ((at_ + (getL (s.drop at_)).2.2 : Nat) : Int), .int .i64 (getL (s.drop at_)).1]) ∧ w = w' := by
 have hsz : (⟨s.toArray⟩ : ByteArray).size = s.length := by simp [ByteArray.size]
 have ha0 : ¬ ((s.length : Int) < (at_ : Int)) := by omega
 have ha2 : (at_ : Int) ≤ 1000000 := by omega
 obtain ⟨g, hg⟩ : ∃ g, g = getL (s.drop at_) := ⟨_, rfl⟩
 rw [← hg]
 have HG := Lib.hid hg
 clear hg
 have Hs := Lib.hid hs
 have Ha := Lib.hid ha
 clear hs ha
 go_enter Tryz.func173, Tryz.ntmps173
 go_wp2_with fail
 go_step3
 go_wp2_with fail
 go_step3
 go_wp2_with fail
 go_loopw [7, 8, 9] (fun a b c wr => ∃ k n : Nat, a = .int .u64 (n : Int) ∧ Hid (n = lebV ((s.drop at_).take k) % 18446744073709551616) ∧ b = .int .i64 (k : Int) ∧ (k : Int) ≤ 10 ∧ Hid (Bigs (s.drop at_) k) ∧ wr = w) (fun _ b _ _ => (10 - intOf b).toNat)
 case atStart => exact ⟨0, 0, by simp, Lib.hid (by simp [lebV]), rfl, by omega, Lib.hid (Bigs.zero _), rfl⟩
 case round =>
  obtain ⟨k, n, rfl, Hn, rfl, hk, Hb, rfl⟩ := hrel
  have hlen : (s.drop at_).length = s.length - at_ := by simp
  by_cases h10 : k = 10
  · subst h10
    have HF := HG.out.trans (get_big Hb.out)
    clear HG Hb
    subst HF
    go_wp2_with fail
    try rw [Exit.noGoto_ret]
    go_ret3
    exact ⟨rfl, rfl⟩
  obtain ⟨m, hm⟩ : ∃ m : Nat, m = at_ + k := ⟨_, rfl⟩
  have hmI : (at_ : Int) + (k : Int) = (m : Int) := by omega
  have h10I : ¬ (k : Int) = 10 := by omega
  by_cases hme : m = s.length
  · have hmI2 : (at_ : Int) + (k : Int) = (s.length : Int) := by omega
    have HF := HG.out.trans (get_short Hb.out (by have := Ha.out; omega) (by omega))
    clear HG Hb hm hme hmI hlen
    subst HF
    go_wp2_with fail
    try rw [Exit.noGoto_ret]
    go_ret3
    exact ⟨rfl, rfl⟩
  have hmlt : m < s.length := by have := Hb.out.1; have := Ha.out; omega
  obtain ⟨b, hb⟩ : ∃ b, s[m]? = some b := ⟨_, List.getElem?_eq_getElem hmlt⟩
  have hix := ix_str hb
  have Hbt : Hid ((s.drop at_)[k]? = some b) := Lib.hid (by rw [List.getElem?_drop, ← hm]; exact hb)
  have hme' : ¬ (m : Int) = (s.length : Int) := by omega
  have hand := and_seven b
  have hm2 : (m : Int) ≤ 1000010 := by omega
  have Hm := Lib.hid hm
  clear hme hlen hb hm
  by_cases hb1 : b.toNat < 128
  rotate_left
  · have hb1I : ¬ (b.toNat : Int) < 128 := by omega
    go_wp2_with fail
    refine ⟨⟨k + 1, lebV ((s.drop at_).take (k + 1)) % 18446744073709551616, ?_, Lib.hid rfl, by simp, by omega, Lib.hid (Hb.out.succ Hbt.out (by omega)), trivial⟩, ?_⟩
    · rw [or_step (by omega) Hbt.out Hn.out]
    · simp only [intOf]; omega
  have hb1I : (b.toNat : Int) < 128 := by omega
  have HE := Lib.hid (get_end Hb.out Hbt.out hb1 (by omega))
  have hj : (at_ : Int) + ((k : Int) + 1) = (m : Int) + 1 := by omega
  have Hst := Lib.hid (or_step (by omega) Hbt.out Hn.out)
  have b0 : b = 0 ↔ b.toNat = 0 := ⟨fun e => by rw [e]; rfl, fun e => UInt8.toNat_inj.1 (by simpa using e)⟩
  have B0 := Lib.hid b0
  have Hb1 := Lib.hid hb1
  clear hb1 b0
  by_cases hk0 : 0 < k
  rotate_left
  · have HF := HG.out.trans (HE.out.trans (if_neg (by rintro (⟨_, h⟩ | ⟨h, _⟩) <;> omega)))
    have hk1 : ¬ 1 < (k : Int) + 1 := by omega
    have hk2 : ¬ (k : Int) + 1 = 10 := by omega
    obtain ⟨B, hB⟩ : ∃ B, ((b.toNat : Int) == 0) = B := ⟨_, rfl⟩
    clear HG HE
    subst HF
    go_wp2_with fail
    all_goals
     try rw [Exit.noGoto_ret]
     go_ret3
     exact ⟨ret_get Hst.out (by first | omega | (simp; omega) | simp) rfl, rfl⟩
  by_cases hz : (b.toNat : Int) = 0
  · · have HF := HG.out.trans (HE.out.trans (if_pos (.inl ⟨B0.out.2 (by omega), hk0⟩)))
      have hk1 : 1 < (k : Int) + 1 := by omega
      clear HG HE
      subst HF
      go_wp2_with fail
      try rw [Exit.noGoto_ret]
      go_ret3
      exact ⟨rfl, rfl⟩
  · by_cases hk9 : k = 9
    · by_cases hb2 : 1 < (b.toNat : Int)
      · have HF := HG.out.trans (HE.out.trans (if_pos (.inr ⟨hk9, by omega⟩)))
        have hk2 : (k : Int) + 1 = 10 := by omega
        have hj9 : (at_ : Int) + 10 = (m : Int) + 1 := by omega
        have hk9' := Lib.hid hk9
        clear HG HE hj hk9
        subst HF
        go_wp2_with fail
        try rw [Exit.noGoto_ret]
        go_ret3
        exact ⟨rfl, rfl⟩
      · have HF := HG.out.trans (HE.out.trans (if_neg (by rintro (⟨h, _⟩ | ⟨_, h⟩); · have := B0.out.1 h; omega
                                                          · omega)))
        have hk2 : (k : Int) + 1 = 10 := by omega
        have hj9 : (at_ : Int) + 10 = (m : Int) + 1 := by omega
        have hk9' := Lib.hid hk9
        clear HG HE hj hk9
        subst HF
        go_wp2_with fail
        try rw [Exit.noGoto_ret]
        go_ret3
        exact ⟨ret_get Hst.out (by first | omega | (simp; omega) | simp) rfl, rfl⟩
    · have HF := HG.out.trans (HE.out.trans (if_neg (by rintro (⟨h, _⟩ | ⟨h, _⟩); · have := B0.out.1 h; omega
                                                        · omega)))
      have hk2 : ¬ (k : Int) + 1 = 10 := by omega
      clear HG HE
      subst HF
      go_wp2_with fail
      try rw [Exit.noGoto_ret]
      go_ret3
      exact ⟨ret_get Hst.out (by first | omega | (simp; omega) | simp) rfl, rfl⟩
end Go.Proofs.YtcgglolckkeeiaaGreat
namespace Go.Proofs.YtcgglolckkeeiaaGreat
set_option linter.unusedVariables false
open Go.RowKit Go.Deep
attribute [local go_sem] Oper.semAt_some
def natAt (w : World) (b : Nat) : Nat := match w.cell? ⟨b, 0, none⟩ with | some (.int _ n) => n.toNat | _ => 0
theorem or_more (n : Nat) : bits .or .u8 (((n % 256 : Nat) : Int)) 128 = ((UInt8.ofNat (128 + n % 128)).toNat : Int) := by
 have h : ∀ m : Nat, m < 256 → bits .or .u8 (m : Int) 128 = ((128 + m % 128 : Nat) : Int) := by decide +kernel
 rw [h (n % 256) (by omega)]
 have : (UInt8.ofNat (128 + n % 128)).toNat = 128 + n % 128 := by simp; omega
 rw [this]; omega
theorem u8_low (n : Nat) : ((n % 256 : Nat) : Int) = ((UInt8.ofNat n).toNat : Int) := by simp
set_option maxRecDepth 100000 in
set_option maxHeartbeats 1000000 in
theorem digits1_iter (bs : Nat) (n : Nat) (hn : n < 18446744073709551616) (w : World) (hrow : Row w bs 55 #[.int .u64 n]) :
 IterO Tryz.prog 190 #[.pointer (some ⟨bs, 0, none⟩)] (fun x : UInt8 => #[.int .u8 (x.toNat : Int)]) (· = bs) (fun A B => B.heap[bs]? = A.heap[bs]? ∧ A.heap.size ≤ B.heap.size) (fun xs => xs = lebL n) (fun _ => True) 10 w := by
 intro l J Jx W _ hwW hJ hJx hY h0
 refine callsIn_of_wp Tryz.func190 rfl trivial ?_ rfl
 simp only [Tryz.ntmps190, List.size_toArray, List.length_cons, List.length_nil, Nat.reduceAdd, Nat.reduceSub, Array.replicate_succ, Array.replicate_zero, List.push_toArray, List.append_toArray, List.nil_append, List.cons_append]
 gi_wp2
 have hrW : Row W bs 55 #[.int .u64 n] := (hwW.block bs hrow.lt (by simp)).trans hrow
 have hn10 : n < 128 ^ 10 := by have e : (128 : Nat) ^ 10 = 1180591620717411303424 := by decide
                                rw [e]; omega
 have Hn := Lib.hid hn
 have Hn10 := Lib.hid hn10
 clear hrow hwW hn hn10
 gi_loopw [3, 4] (fun _ _ wr => ∃ (f m : Nat) (pre : List UInt8), pre ++ lebF (f + 1) m = lebL n ∧ m < 128 ^ (f + 1) ∧ m < 18446744073709551616 ∧ pre.length + (f + 1) = 10 ∧ Row wr bs 55 #[.int .u64 m] ∧ J pre wr) (fun _ _ wr => natAt wr bs)
 case atStart => exact ⟨9, n, [], rfl, Hn10.out, Hn.out, rfl, hrW, h0⟩
 case round =>
  clear hrW h0
  obtain ⟨f, m, pre, hpre, hm, hm64, hlen, hr, hj⟩ := hrel
  have Hpre := Lib.hid hpre
  have Hm := Lib.hid hm
  have Hlen := Lib.hid hlen
  have Hm64 := Lib.hid hm64
  clear hpre hm hlen hm64
  have hc := hr.cellv (i := 0) (v := .int .u64 (m : Int)) rfl
  have hf := hr.free 0
  have hlen' : pre.length < 10 := by have := Hlen.out; omega
  by_cases h128 : m < 128
  · obtain ⟨c, hcd⟩ : ∃ c : UInt8, c = UInt8.ofNat m := ⟨_, rfl⟩
    have hx : ((c.toNat : Nat) : Int) = (m : Int) := by rw [hcd, ← u8_low]; omega
    obtain ⟨fn, tmps, assign, body, hy, hR⟩ := hY _ c _ hj hlen'
    rw [hx] at hy
    have HR := Lib.hid hR
    have Hcd := Lib.hid hcd
    have hlt : ((m : Nat) : Int) < 128 := by omega
    clear hR hcd hx h128
    gi_wp2
    refine ⟨rfl, HR.out.mono ?_⟩
    rintro e W' (⟨rfl, hj3, hk3, hs3⟩ | ⟨rfl, hjx⟩)
    · gi_wp2
      go_end0
      refine ⟨⟨_, rfl⟩, .inl ⟨_, ?_, hj3⟩⟩
      rw [← Hpre.out, lebF_small f m (by omega), Hcd.out]
    · gi_wp2
      go_end0
      exact ⟨⟨_, rfl⟩, .inr ⟨_, trivial, hjx⟩⟩
  · obtain ⟨c, hcd⟩ : ∃ c : UInt8, c = UInt8.ofNat (128 + m % 128) := ⟨_, rfl⟩
    have hx : ((c.toNat : Nat) : Int) = bits .or .u8 ((m : Int) % 256) 128 := by
     have e : (m : Int) % 256 = ((m % 256 : Nat) : Int) := by omega
     rw [hcd, e, or_more]
    obtain ⟨fn, tmps, assign, body, hy, hR⟩ := hY _ c _ hj hlen'
    rw [hx] at hy
    have HR := Lib.hid hR
    have Hcd := Lib.hid hcd
    have hlt : 128 ≤ ((m : Nat) : Int) := by omega
    clear hR hcd hx h128
    gi_wp2
    have hbig := lebF_big f m (by omega)
    have hf1 : 0 < f := by
     rcases Nat.eq_zero_or_pos f with rfl | h0
     · have := Hm.out; simp at this; omega
     · exact h0
    obtain ⟨f, rfl⟩ : ∃ f', f = f' + 1 := ⟨f - 1, by omega⟩
    have Hbig := Lib.hid hbig
    clear hbig hf1
    refine ⟨rfl, HR.out.mono ?_⟩
    rintro e W' (⟨rfl, hj3, hk3, hs3⟩ | ⟨rfl, hjx⟩)
    · have hr3 : Row W' bs 55 #[.int .u64 m] := hk3.trans hr
      have hc3 := hr3.cellv (i := 0) (v := .int .u64 (m : Int)) rfl
      have hf3 := hr3.free 0
      have Hj3 := Lib.hid hj3
      clear hj3 hk3 hj hy hf hc
      gi_wp2
      have hdiv : (m : Int) / 128 = ((m / 128 : Nat) : Int) := by omega
      go_roundw
      case rel =>
       refine ⟨f, m / 128, pre ++ [c], ?_, ?_, ?_, ?_, ?_, ?_⟩
       · rw [← Hpre.out, Hbig.out, Hcd.out]; simp
       · have := Hm.out; rw [Nat.pow_succ] at this; omega
       · have := Hm64.out; omega
       · have := Hlen.out; simp; omega
       · rw [← hdiv]; exact hr3.set 0 _
       · exact hJ _ _ _ (some bs) Hj3.out (grownBy_setCell' _ _ _) (fun r e => by cases e; exact .inl rfl)
      case measure =>
       have h1 := (hr3.set 0 (.int .u64 ((m : Int) / 128))).cell 0
       have h2 := hr.cell 0
       unfold natAt
       rw [h1, h2]
       simp; omega
    · clear hj hy hc hf hr
      gi_wp2
      refine bodyPost_ret (results_none rfl _ _ _) rfl ?_
      exact ⟨⟨_, rfl⟩, .inr ⟨_, trivial, hjx⟩⟩
end Go.Proofs.YtcgglolckkeeiaaGreat
namespace Go.Proofs.YtcgglolckkeeiaaGreat
set_option linter.unusedVariables false
open Go.RowKit
theorem info_u8 : (Tryz.prog.info? 5).map (fun i => (i.zero, i.size, i.bytes)) = some (some (.int .u8 0), 1, 1) := by kernel_rfl
end Go.Proofs.YtcgglolckkeeiaaGreat
namespace Go.Proofs.YtcgglolckkeeiaaGreat
set_option linter.unusedVariables false
open Go.RowKit Go.Deep
attribute [local go_sem] Oper.semAt_some
theorem digits_any (n : Nat) (w : World) :
 Calls Tryz.prog 168 #[.int .u64 n] w fun e w' => e = .returned (.func (.func 190) #[] #[.pointer (some ⟨w.heap.size, 0, none⟩)]) ∧ w.alloc (.cells #[.int .u64 n] 55) = w' := by
 go_enter Tryz.func168, Tryz.ntmps168
 go_wp2
 go_ret
 exact ⟨rfl, rfl⟩
set_option maxRecDepth 100000 in
set_option maxHeartbeats 2000000 in
theorem lebPut_any (n : Nat) (hn : n < 18446744073709551616) (w : World) :
 Calls Tryz.prog 130 #[.int .u64 n] w fun e w' => e = .returned (.string ⟨(lebL n).toArray⟩) ∧ Below w.heap.size w w' := by
 have Hn := Lib.hid hn
 clear hn
 obtain ⟨i0, hi0, hz0, hz1, hz2⟩ := info_parts info_u8
 refine (callsIn_wide (n := 0)).1 ?_
 refine callsIn_of_wp_marks Tryz.func130 rfl trivial ?_
 simp only [Tryz.ntmps130, List.size_toArray, List.length_cons, List.length_nil, Nat.reduceAdd, Nat.reduceSub, Array.replicate_succ, Array.replicate_zero, List.push_toArray, List.append_toArray, List.nil_append, List.cons_append]
 gi_wp2_with fail
 have rg := Row.new w 120 #[.slice none 0 0]
 have b1 := (Below.refl w.heap.size w).alloc (Nat.le_refl _) (.cells #[.slice none 0 0] 120)
 have l1 := rg.lt
 generalize w.alloc (.cells #[.slice none 0 0] 120) = w1 at rg b1 l1 ⊢
 refine ⟨trivial, rfl, (callsIn_wide.2 (digits_any n w1)).mono ?_⟩
 rintro e w2 ⟨rfl, hw2⟩
 have rb := Row.new w1 55 #[.int .u64 n]
 have rg2 := rg.alloc (.cells #[.int .u64 n] 55)
 have b2 := b1.alloc b1.size (.cells #[.int .u64 n] 55)
 rw [hw2] at rb rg2 b2
 obtain ⟨Bs, hBs⟩ : ∃ Bs, Bs = w1.heap.size := ⟨_, rfl⟩
 rw [← hBs] at rb l1 ⊢
 have lb := rb.lt
 obtain ⟨G, hG⟩ : ∃ G, G = w.heap.size := ⟨_, rfl⟩
 have gG : w.heap.size ≤ G := by omega
 rw [← hG] at rg2 l1 ⊢
 clear hBs hw2 rg b1
 have HG := Lib.hid hG
 clear hG
 have Hseq := Lib.hid (digits1_iter Bs n Hn.out w2 rb)
 gi_wp2
 refine rangeO (gf := 190) (lb := #[.pointer (some ⟨Bs, 0, none⟩)]) rfl (enters_of Tryz.func190 (by kernel_rfl) rfl) Hseq.out (fun r h => by subst h; omega)
  (fun h k => ⟨k.1.trans h.1, Nat.le_trans h.2 k.2⟩) (fun W l o o' hl ho hc => ⟨by rw [World.putObj_heap_other (by omega)], by simp⟩) (World.grownBy.refl _ _) (fun _ => rfl)
  (fun pre W => ∃ v, Row W G 120 #[v] ∧ W.ownsRow w.heap.size 5 1 v pre.length (u8s pre) ∧ Below w.heap.size w W ∧ v.ownBlock ≠ some Bs ∧ Bs < W.heap.size) (fun _ _ _ => False) ?hI ?hIx ⟨_, rg2, World.ownsRow_nil _ _ _ _, b2, by simp [Value.ownBlock], lb⟩
  (fun x a' W => a' = { tmps := #[.int .u64 n, undef, .string ⟨#[]⟩, .pointer (some ⟨G, 0, none⟩), .int .u8 (x.toNat : Int), .int .u64 n, .func (.func 190) #[] #[.pointer (some ⟨Bs, 0, none⟩)], .int .u8 (x.toNat : Int), undef, undef, undef, undef, undef, undef], defers := [] }) ?hAx ?assign ?body ?done ?stop
 case hI =>
  rintro pre A B row ⟨v, h1, h2, h3, h4, h5⟩ hg hr
  have hrow : ∀ r, row = some r → r ≠ G ∧ v.ownBlock ≠ some r := fun r e => by
   rcases hr r e with h | ⟨h, o, ho, hc⟩
   · have : r = Bs := h
     subst this
     exact ⟨by omega, h4⟩
   · exact ⟨by omega, own_cells h2 ho hc⟩
  refine ⟨v, h1.grown hg (fun e => (hrow G e).1 rfl), h2.kept hg ?_, h3.grown hg h3.size (fun k e => ?_), h4, Nat.lt_of_lt_of_le h5 hg.size⟩
  · cases row with
    | none => cases v.ownBlock <;> simp
    | some r => exact .inr (hrow r rfl).2
  · rcases hr k e with h | ⟨h, _⟩
    · have : k = Bs := h
      omega
    · have := b2.size; omega
 case hIx => exact fun _ _ _ _ _ h _ _ => h
 case hAx => exact fun x a' _ _ _ _ h _ _ => h
 case assign =>
  rintro l pre x W K hI hK
  have HK := Lib.hid hK
  clear hK
  gi_wp2
  exact HK.out _ _ (KeepsFrom.refl _ _) ⟨rfl, Nat.le_refl _⟩ hI rfl
 case body =>
  rintro l pre x a' W hl _ ⟨v, h1, h2, h3, h4, h5⟩ rfl hpl
  have hpl' : pre.length < 10 := hpl
  have hc := h1.cellv (i := 0) (v := v) rfl
  have hf := h1.free 0
  have ha := h2.alloc (.cells #[.int .u8 (x.toNat : Int)] 5)
  have HA := Lib.hid ha
  clear ha
  gi_wp2_with (gi_at_builtin; refine wpListIn_append_own_at _ rfl (.tmp 8) (.tmp 10) 120 rfl w.heap.size 5 i0 (.int .u8 0) 1 1 Tryz.underlying120 hi0 hz0 hz1 hz2 rfl (by decide) v pre.length (u8s pre) rfl HA.out ⟨W.heap.size, 0, none⟩ 1 1 (u8s [x]) rfl rfl (cells_new _ _ _) (u8s_oneCell _) (by unfold maxLen; omega) (by omega) (by have := h3.size; simp; omega) ?_)
  intro v' W3 hown hg _ hat
  have r3 := (h1.alloc (.cells #[.int .u8 (x.toNat : Int)] 5)).grown hg (own_ne HA.out (h1.alloc _) (by decide))
  have b3 := below_grown_own (h3.alloc h3.size _) HA.out hg (by have := h3.size; simp; omega) (Nat.le_refl _)
  have k3 : KeepsFrom w2.heap.size W W3 := (KeepsFrom.alloc _ W (.cells #[.int .u8 (x.toNat : Int)] 5)).trans (KeepsFrom.of_own HA.out hg)
  have e3 : W3.heap[Bs]? = W.heap[Bs]? := (hg.block Bs (by simp; omega) (fun e => h4 e.symm)).trans (Below.heap_alloc _ _ _ h5)
  have l3 : W.heap.size < W3.heap.size := by have := hg.size; simp at this; omega
  have n3 : v'.ownBlock ≠ some Bs := by
   rcases hat with h | h
   · rw [h]; exact h4
   · rw [h]; intro e; injection e; omega
  obtain ⟨A', m', c', rfl⟩ : ∃ A m c, v' = .slice A m c := own_slice hown
  have hc3 := r3.cellv (i := 0) (v := v) rfl
  have hf3 := r3.free 0
  have nG := own_ne hown r3 (by decide)
  have Hown := Lib.hid hown
  clear hown hg hat hc hf
  gi_wp2
  have o4 := only_set W3 G 0 (.slice A' m' c')
  refine ⟨k3.trans (KeepsFrom.of_only r3 o4), ⟨(o4.block Bs (by omega)).trans e3, by have := o4.size; omega⟩, _, r3.set 0 _, ?_, below_only b3 o4 gG, n3, by have := o4.size; omega⟩
  have := own_only Hown.out o4 nG
  rw [← u8s_append] at this
  simpa using this
 case stop => exact fun D c pre W _ _ h _ => h.elim
 case done =>
  rintro D ys W hD rfl ⟨v, h1, h2, h3, _, _⟩ hK
  have hconv := run_string_of_own (P := Tryz.prog) 120 9 5 Tryz.underlying120 Tryz.underlying5 Tryz.underlying9 _ h2
  have hc := h1.cellv (i := 0) (v := v) rfl
  have HK := Lib.hid hK
  clear hK h2
  gi_wp2
  refine ⟨by simp, .inl ⟨_, _, rfl, run_takeDeferred HK.out, ?_⟩⟩
  exact ⟨_, results_tmp rfl _ _ _, rfl, h3.grown (grownBy_putObj' _ _ _) h3.size (fun k e => by cases e; have := b2.size; omega)⟩
end Go.Proofs.YtcgglolckkeeiaaGreat
