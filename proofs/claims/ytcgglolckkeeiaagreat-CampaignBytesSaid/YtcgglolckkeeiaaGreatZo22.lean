/- Lemmas for CoAll. -/
import Derived.Test.YtcgglolckkeeiaaGreatZo21
import Derived.Test.YtcgglolckkeeiaaGreatZo1
import Derived.Test.YtcgglolckkeeiaaGreatRows
import Derived.Maps.OwnIn
set_option linter.unusedVariables false
set_option linter.unusedSimpArgs false
namespace Go.Proofs.YtcgglolckkeeiaaGreat
open Go.RowKit Go.Deep
theorem ix_str {s : List UInt8} {i : Nat} {b : UInt8} (h : s[i]? = some b) (W : World) : (Instr.index 9 (.string ⟨s.toArray⟩) (.int .i64 (i : Int))).run Tryz.prog W = .ok (.int .u8 (b.toNat : Int)) W := by
 have hi : i < s.length := (List.getElem?_eq_some_iff.1 h).1
 rw [run_index_string W _ _ _ _ Tryz.underlying9, dif_pos ⟨by omega, by simpa [ByteArray.size] using hi⟩]
 have e : (⟨s.toArray⟩ : ByteArray)[((i : Int)).toNat]'(by simpa [ByteArray.size] using hi) = b := by
  show s.toArray[i]'(by simpa using hi) = b
  rw [List.getElem_toArray]
  exact (List.getElem?_eq_some_iff.1 h).2
 rw [e]
theorem or_seven (n c k : Nat) (hk : k ≤ 9) (hn : n < 128 ^ k) (hc : c < 128) : bits .or .u64 (n : Int) (((c * 128 ^ k % 18446744073709551616 : Nat)) : Int) = (((n + c * 128 ^ k) % 18446744073709551616 : Nat) : Int) := by
 have e2 : (128 : Nat) ^ k = 2 ^ (7 * k) := by rw [show (128 : Nat) = 2 ^ 7 from rfl, ← Nat.pow_mul]
 have e3 : (18446744073709551616 : Nat) = 2 ^ (64 - 7 * k) * 2 ^ (7 * k) := by rw [← Nat.pow_add, show 64 - 7 * k + 7 * k = 64 by omega]
 obtain ⟨q, hq⟩ : ∃ q, c * 128 ^ k % 18446744073709551616 = q * 2 ^ (7 * k) ∧ q < 2 ^ (64 - 7 * k) := by
  refine ⟨c % 2 ^ (64 - 7 * k), ?_, Nat.mod_lt _ (Nat.pow_pos (by decide))⟩
  rw [e2, e3, Nat.mul_mod_mul_right]
 obtain ⟨hq, hq2⟩ := hq
 have hlt : q * 2 ^ (7 * k) + n < 18446744073709551616 := by
  have h1 : (q + 1) * 2 ^ (7 * k) ≤ 2 ^ (64 - 7 * k) * 2 ^ (7 * k) := Nat.mul_le_mul_right _ hq2
  rw [← e3, Nat.add_mul, Nat.one_mul] at h1
  rw [e2] at hn
  omega
 have hn2 : n < 18446744073709551616 := by omega
 have hm : (n + c * 128 ^ k) % 18446744073709551616 = n + q * 2 ^ (7 * k) := by
  rw [Nat.add_mod, hq, Nat.mod_eq_of_lt hn2, Nat.mod_eq_of_lt (by omega)]
 rw [hm, hq]
 show IntKind.u64.wrap ((BitVec.ofInt 64 (n : Int) ||| BitVec.ofInt 64 ((q * 2 ^ (7 * k) : Nat) : Int)).toNat : Int) = _
 have e1 : (BitVec.ofInt 64 (n : Int) ||| BitVec.ofInt 64 ((q * 2 ^ (7 * k) : Nat) : Int)).toNat = n + q * 2 ^ (7 * k) := by
  rw [BitVec.toNat_or, BitVec.ofInt_natCast, BitVec.ofInt_natCast, BitVec.toNat_ofNat, BitVec.toNat_ofNat, Nat.mod_eq_of_lt (by omega), Nat.mod_eq_of_lt (by omega), Nat.or_comm]
  have := Nat.shiftLeft_add_eq_or_of_lt (i := 7 * k) (b := n) (by rw [← e2]; exact hn) q
  rw [Nat.shiftLeft_eq] at this
  rw [← this]; omega
 rw [e1, IntKind.wrap_u64]
 omega
theorem and_seven (b : UInt8) : bits .and .u8 (b.toNat : Int) 127 = ((b.toNat % 128 : Nat) : Int) := by
 have h : ∀ m : Nat, m < 256 → bits .and .u8 (m : Int) 127 = ((m % 128 : Nat) : Int) := by decide +kernel
 exact h _ b.toNat_lt
def Bigs (t : List UInt8) (k : Nat) : Prop := k ≤ t.length ∧ ∀ i b, i < k → t[i]? = some b → 128 ≤ b.toNat
theorem Bigs.zero (t : List UInt8) : Bigs t 0 := ⟨Nat.zero_le _, fun _ _ h => absurd h (Nat.not_lt_zero _)⟩
theorem Bigs.succ {t : List UInt8} {k : Nat} {b : UInt8} (h : Bigs t k) (hb : t[k]? = some b) (hl : 128 ≤ b.toNat) : Bigs t (k + 1) :=
 ⟨(List.getElem?_eq_some_iff.1 hb).1, fun i c hi hc => by
  rcases Nat.lt_succ_iff_lt_or_eq.1 hi with h1 | rfl
  · exact h.2 i c h1 hc
  · rw [hb] at hc; injection hc with hc; subst hc; exact hl⟩
theorem lebK_bigs : ∀ {k f : Nat} {t : List UInt8}, Bigs t k → lebK (k + f) t = (lebK f (t.drop k)).map (· + k)
 | 0, f, t, _ => by simp
 | k + 1, f, [], h => by have := h.1; simp at this
 | k + 1, f, c :: t, h => by
  have hc : 128 ≤ c.toNat := h.2 0 c (by omega) rfl
  have ht : Bigs t k := ⟨by have := h.1; simp at this; exact this, fun i b hi hb => h.2 (i + 1) b (by omega) (by simpa using hb)⟩
  rw [show k + 1 + f = (k + f) + 1 by omega, lebK, if_neg (by omega), lebK_bigs ht, List.drop_succ_cons, Option.map_map]
  congr 1
theorem get_big {t : List UInt8} (h : Bigs t 10) : getL t = (3, 0, 0) := by
 have := lebK_bigs (f := 0) h
 unfold getL
 rw [show (10 : Nat) = 10 + 0 from rfl, this]
 have := h.1
 simp only [lebK, Option.map_none]
 rw [if_neg (by omega)]
theorem get_short {t : List UInt8} {k : Nat} (h : Bigs t k) (hk : t.length = k) (h10 : k < 10) : getL t = (2, 0, 0) := by
 obtain ⟨f, hf⟩ : ∃ f, 10 = k + (f + 1) := ⟨9 - k, by omega⟩
 have := lebK_bigs (f := f + 1) h
 unfold getL
 rw [hf, this, List.drop_of_length_le (by omega)]
 simp only [lebK, Option.map_none]
 rw [if_pos (by omega)]
theorem take_snoc {α : Type} {t : List α} {k : Nat} {b : α} (hb : t[k]? = some b) : t.take (k + 1) = t.take k ++ [b] := by
 rw [List.take_add_one, hb]; rfl
theorem get_end {t : List UInt8} {k : Nat} {b : UInt8} (h : Bigs t k) (hb : t[k]? = some b) (hl : b.toNat < 128) (h10 : k < 10) :
 getL t = if (b = 0 ∧ 0 < k) ∨ (k = 9 ∧ 1 < b.toNat) then (3, 0, 0) else (0, lebV (t.take (k + 1)) % 18446744073709551616, k + 1) := by
 obtain ⟨f, hf⟩ : ∃ f, 10 = k + (f + 1) := ⟨9 - k, by omega⟩
 have hk := (List.getElem?_eq_some_iff.1 hb).1
 have e1 := lebK_bigs (f := f + 1) h
 have e2 : t.drop k = b :: t.drop (k + 1) := by rw [← List.getElem_cons_drop hk, (List.getElem?_eq_some_iff.1 hb).2]
 rw [e2, lebK, if_pos hl, ← hf] at e1
 have e3 : lebK 10 t = some (k + 1) := by rw [e1]; simp [Nat.add_comm]
 obtain ⟨hw, _, _, _⟩ := lebK_some e3
 have hlen : (t.take (k + 1)).length = k + 1 := by simp; omega
 have hr := leb_right hw (by omega) (b := b) (by rw [take_snoc hb]; simp)
 rw [hlen] at hr
 unfold getL
 rw [e3]
 simp only
 by_cases hc : (b = 0 ∧ 0 < k) ∨ (k = 9 ∧ 1 < b.toNat)
 · rw [if_pos hc, if_neg (fun e => (hr.1 e) (by rcases hc with ⟨h1, h2⟩ | ⟨h1, h2⟩; exact .inl ⟨h1, by omega⟩; exact .inr ⟨by omega, h2⟩))]
 · rw [if_neg hc, if_pos (hr.2 (fun e => hc (by rcases e with ⟨h1, h2⟩ | ⟨h1, h2⟩; exact .inl ⟨h1, by omega⟩; exact .inr ⟨by omega, h2⟩)))]
theorem or_step {t : List UInt8} {k n : Nat} {b : UInt8} (hk : k ≤ 9) (hb : t[k]? = some b) (hn : n = lebV (t.take k) % 18446744073709551616) :
 bits .or .u64 (n : Int) (IntKind.u64.wrap ((b.toNat : Int) % 128 * 2 ^ (7 * k))) = ((lebV (t.take (k + 1)) % 18446744073709551616 : Nat) : Int) := by
 have hl := lebV_lt (t.take k)
 have hkl := (List.getElem?_eq_some_iff.1 hb).1
 rw [List.length_take, Nat.min_eq_left (by omega)] at hl
 have h9 : 128 ^ k ≤ 128 ^ 9 := Nat.pow_le_pow_right (by decide) hk
 rw [show (128 : Nat) ^ 9 = 9223372036854775808 from by decide] at h9
 rw [Nat.mod_eq_of_lt (by omega)] at hn
 subst hn
 have e2 : (2 : Int) ^ (7 * k) = ((128 ^ k : Nat) : Int) := by
  rw [show (128 : Nat) ^ k = 2 ^ (7 * k) by rw [show (128 : Nat) = 2 ^ 7 from rfl, ← Nat.pow_mul]]
  simp
 have e3 : IntKind.u64.wrap ((b.toNat : Int) % 128 * 2 ^ (7 * k)) = ((b.toNat % 128 * 128 ^ k % 18446744073709551616 : Nat) : Int) := by
  rw [e2, IntKind.wrap_u64, Int.natCast_emod, Int.natCast_mul, Int.natCast_emod]; rfl
 rw [e3, or_seven _ _ k hk hl (Nat.mod_lt _ (by decide)), take_snoc hb, lebV_snoc, List.length_take, Nat.min_eq_left (by omega)]
theorem ret_get {a b c d e f : Int} (h1 : a = b) (h2 : c = d) (h3 : e = f) : Ending.returned (.tuple #[.int .u64 a, .int .i64 c, .int .i64 e]) = .returned (.tuple #[.int .u64 b, .int .i64 d, .int .i64 f]) := by rw [h1, h2, h3]
set_option maxRecDepth 100000 in
set_option maxHeartbeats 4000000 in
theorem lebGet_any (s : List UInt8) (at_ : Nat) (ha : at_ ≤ s.length) (hs : s.length ≤ 1000000) (w : World) :
 Calls Tryz.prog 173 #[.string ⟨s.toArray⟩, .int .i64 (at_ : Int)] w fun e w' => e = .returned (.tuple #[.int .u64 ((getL (s.drop at_)).2.1 : Int), .int .i64 ((at_ + (getL (s.drop at_)).2.2 : Nat) : Int), .int .i64 (getL (s.drop at_)).1]) ∧ w = w' := by
 have hsz : (⟨s.toArray⟩ : ByteArray).size = s.length := by simp [ByteArray.size]
 have ha0 : ¬ ((s.length : Int) < (at_ : Int)) := by omega
 have ha2 : (at_ : Int) ≤ 1000000 := by omega
 obtain ⟨g, hg⟩ : ∃ g, g = getL (s.drop at_) := ⟨_, rfl⟩
 rw [← hg]
 have HG := Lib.hid hg
 clear hg
 have Hs := Lib.hid hs
 have Ha := Lib.hid ha
 clear hs ha
 go_enter Tryz.func173, Tryz.ntmps173
 go_wp2_with fail
 go_step3
 go_wp2_with fail
 go_step3
 go_wp2_with fail
 go_loopw [7, 8, 9] (fun a b c wr => ∃ k n : Nat, a = .int .u64 (n : Int) ∧ Hid (n = lebV ((s.drop at_).take k) % 18446744073709551616) ∧ b = .int .i64 (k : Int) ∧ (k : Int) ≤ 10 ∧ Hid (Bigs (s.drop at_) k) ∧ wr = w) (fun _ b _ _ => (10 - intOf b).toNat)
 case atStart => exact ⟨0, 0, by simp, Lib.hid (by simp [lebV]), rfl, by omega, Lib.hid (Bigs.zero _), rfl⟩
 case round =>
  obtain ⟨k, n, rfl, Hn, rfl, hk, Hb, rfl⟩ := hrel
  have hlen : (s.drop at_).length = s.length - at_ := by simp
  by_cases h10 : k = 10
  · subst h10
    have HF := HG.out.trans (get_big Hb.out)
    clear HG Hb
    subst HF
    go_wp2_with fail
    try rw [Exit.noGoto_ret]
    go_ret3
    exact ⟨rfl, rfl⟩
  obtain ⟨m, hm⟩ : ∃ m : Nat, m = at_ + k := ⟨_, rfl⟩
  have hmI : (at_ : Int) + (k : Int) = (m : Int) := by omega
  have h10I : ¬ (k : Int) = 10 := by omega
  by_cases hme : m = s.length
  · have hmI2 : (at_ : Int) + (k : Int) = (s.length : Int) := by omega
    have HF := HG.out.trans (get_short Hb.out (by have := Ha.out; omega) (by omega))
    clear HG Hb hm hme hmI hlen
    subst HF
    go_wp2_with fail
    try rw [Exit.noGoto_ret]
    go_ret3
    exact ⟨rfl, rfl⟩
  have hmlt : m < s.length := by have := Hb.out.1; have := Ha.out; omega
  obtain ⟨b, hb⟩ : ∃ b, s[m]? = some b := ⟨_, List.getElem?_eq_getElem hmlt⟩
  have hix := ix_str hb
  have Hbt : Hid ((s.drop at_)[k]? = some b) := Lib.hid (by rw [List.getElem?_drop, ← hm]; exact hb)
  have hme' : ¬ (m : Int) = (s.length : Int) := by omega
  have hand := and_seven b
  have hm2 : (m : Int) ≤ 1000010 := by omega
  have Hm := Lib.hid hm
  clear hme hlen hb hm
  by_cases hb1 : b.toNat < 128
  rotate_left
  · have hb1I : ¬ (b.toNat : Int) < 128 := by omega
    go_wp2_with fail
    refine ⟨⟨k + 1, lebV ((s.drop at_).take (k + 1)) % 18446744073709551616, ?_, Lib.hid rfl, by simp, by omega, Lib.hid (Hb.out.succ Hbt.out (by omega)), trivial⟩, ?_⟩
    · rw [or_step (by omega) Hbt.out Hn.out]
    · simp only [intOf]; omega
  have hb1I : (b.toNat : Int) < 128 := by omega
  have HE := Lib.hid (get_end Hb.out Hbt.out hb1 (by omega))
  have hj : (at_ : Int) + ((k : Int) + 1) = (m : Int) + 1 := by omega
  have Hst := Lib.hid (or_step (by omega) Hbt.out Hn.out)
  have b0 : b = 0 ↔ b.toNat = 0 := ⟨fun e => by rw [e]; rfl, fun e => UInt8.toNat_inj.1 (by simpa using e)⟩
  have B0 := Lib.hid b0
  have Hb1 := Lib.hid hb1
  clear hb1 b0
  by_cases hk0 : 0 < k
  rotate_left
  · have HF := HG.out.trans (HE.out.trans (if_neg (by rintro (⟨_, h⟩ | ⟨h, _⟩) <;> omega)))
    have hk1 : ¬ 1 < (k : Int) + 1 := by omega
    have hk2 : ¬ (k : Int) + 1 = 10 := by omega
    obtain ⟨B, hB⟩ : ∃ B, ((b.toNat : Int) == 0) = B := ⟨_, rfl⟩
    clear HG HE
    subst HF
    go_wp2_with fail
    all_goals
     try rw [Exit.noGoto_ret]
     go_ret3
     exact ⟨ret_get Hst.out (by first | omega | (simp; omega) | simp) rfl, rfl⟩
  by_cases hz : (b.toNat : Int) = 0
  · · have HF := HG.out.trans (HE.out.trans (if_pos (.inl ⟨B0.out.2 (by omega), hk0⟩)))
      have hk1 : 1 < (k : Int) + 1 := by omega
      clear HG HE
      subst HF
      go_wp2_with fail
      try rw [Exit.noGoto_ret]
      go_ret3
      exact ⟨rfl, rfl⟩
  · by_cases hk9 : k = 9
    · by_cases hb2 : 1 < (b.toNat : Int)
      · have HF := HG.out.trans (HE.out.trans (if_pos (.inr ⟨hk9, by omega⟩)))
        have hk2 : (k : Int) + 1 = 10 := by omega
        have hj9 : (at_ : Int) + 10 = (m : Int) + 1 := by omega
        have hk9' := Lib.hid hk9
        clear HG HE hj hk9
        subst HF
        go_wp2_with fail
        try rw [Exit.noGoto_ret]
        go_ret3
        exact ⟨rfl, rfl⟩
      · have HF := HG.out.trans (HE.out.trans (if_neg (by rintro (⟨h, _⟩ | ⟨_, h⟩); · have := B0.out.1 h; omega
                                                          · omega)))
        have hk2 : (k : Int) + 1 = 10 := by omega
        have hj9 : (at_ : Int) + 10 = (m : Int) + 1 := by omega
        have hk9' := Lib.hid hk9
        clear HG HE hj hk9
        subst HF
        go_wp2_with fail
        try rw [Exit.noGoto_ret]
        go_ret3
        exact ⟨ret_get Hst.out (by first | omega | (simp; omega) | simp) rfl, rfl⟩
    · have HF := HG.out.trans (HE.out.trans (if_neg (by rintro (⟨h, _⟩ | ⟨h, _⟩); · have := B0.out.1 h; omega
                                                        · omega)))
      have hk2 : ¬ (k : Int) + 1 = 10 := by omega
      clear HG HE
      subst HF
      go_wp2_with fail
      try rw [Exit.noGoto_ret]
      go_ret3
      exact ⟨ret_get Hst.out (by first | omega | (simp; omega) | simp) rfl, rfl⟩
end Go.Proofs.YtcgglolckkeeiaaGreat
namespace Go.Proofs.YtcgglolckkeeiaaGreat
open Go.RowKit Go.Deep
attribute [local go_sem] Oper.semAt_some
def natAt (w : World) (b : Nat) : Nat := match w.cell? ⟨b, 0, none⟩ with | some (.int _ n) => n.toNat | _ => 0
theorem or_more (n : Nat) : bits .or .u8 (((n % 256 : Nat) : Int)) 128 = ((UInt8.ofNat (128 + n % 128)).toNat : Int) := by
 have h : ∀ m : Nat, m < 256 → bits .or .u8 (m : Int) 128 = ((128 + m % 128 : Nat) : Int) := by decide +kernel
 rw [h (n % 256) (by omega)]
 have : (UInt8.ofNat (128 + n % 128)).toNat = 128 + n % 128 := by simp; omega
 rw [this]; omega
theorem u8_low (n : Nat) : ((n % 256 : Nat) : Int) = ((UInt8.ofNat n).toNat : Int) := by simp
set_option maxRecDepth 100000 in
set_option maxHeartbeats 1000000 in
theorem digits1_iter (bs : Nat) (n : Nat) (hn : n < 18446744073709551616) (w : World) (hrow : Row w bs 55 #[.int .u64 n]) :
 IterO Tryz.prog 190 #[.pointer (some ⟨bs, 0, none⟩)] (fun x : UInt8 => #[.int .u8 (x.toNat : Int)]) (· = bs) (fun A B => B.heap[bs]? = A.heap[bs]? ∧ A.heap.size ≤ B.heap.size) (fun xs => xs = lebL n) (fun _ => True) 10 w := by
 intro l J Jx W _ hwW hJ hJx hY h0
 refine callsIn_of_wp Tryz.func190 rfl trivial ?_ rfl
 simp only [Tryz.ntmps190, List.size_toArray, List.length_cons, List.length_nil, Nat.reduceAdd, Nat.reduceSub, Array.replicate_succ, Array.replicate_zero, List.push_toArray, List.append_toArray, List.nil_append, List.cons_append]
 gi_wp2
 have hrW : Row W bs 55 #[.int .u64 n] := (hwW.block bs hrow.lt (by simp)).trans hrow
 have hn10 : n < 128 ^ 10 := by have e : (128 : Nat) ^ 10 = 1180591620717411303424 := by decide
                                rw [e]; omega
 have Hn := Lib.hid hn
 have Hn10 := Lib.hid hn10
 clear hrow hwW hn hn10
 gi_loopw [3, 4] (fun _ _ wr => ∃ (f m : Nat) (pre : List UInt8), pre ++ lebF (f + 1) m = lebL n ∧ m < 128 ^ (f + 1) ∧ m < 18446744073709551616 ∧ pre.length + (f + 1) = 10 ∧ Row wr bs 55 #[.int .u64 m] ∧ J pre wr) (fun _ _ wr => natAt wr bs)
 case atStart => exact ⟨9, n, [], rfl, Hn10.out, Hn.out, rfl, hrW, h0⟩
 case round =>
  clear hrW h0
  obtain ⟨f, m, pre, hpre, hm, hm64, hlen, hr, hj⟩ := hrel
  have Hpre := Lib.hid hpre
  have Hm := Lib.hid hm
  have Hlen := Lib.hid hlen
  have Hm64 := Lib.hid hm64
  clear hpre hm hlen hm64
  have hc := hr.cellv (i := 0) (v := .int .u64 (m : Int)) rfl
  have hf := hr.free 0
  have hlen' : pre.length < 10 := by have := Hlen.out; omega
  by_cases h128 : m < 128
  · obtain ⟨c, hcd⟩ : ∃ c : UInt8, c = UInt8.ofNat m := ⟨_, rfl⟩
    have hx : ((c.toNat : Nat) : Int) = (m : Int) := by rw [hcd, ← u8_low]; omega
    obtain ⟨fn, tmps, assign, body, hy, hR⟩ := hY _ c _ hj hlen'
    rw [hx] at hy
    have HR := Lib.hid hR
    have Hcd := Lib.hid hcd
    have hlt : ((m : Nat) : Int) < 128 := by omega
    clear hR hcd hx h128
    gi_wp2
    refine ⟨rfl, HR.out.mono ?_⟩
    rintro e W' (⟨rfl, hj3, hk3, hs3⟩ | ⟨rfl, hjx⟩)
    · gi_wp2
      go_end0
      refine ⟨⟨_, rfl⟩, .inl ⟨_, ?_, hj3⟩⟩
      rw [← Hpre.out, lebF_small f m (by omega), Hcd.out]
    · gi_wp2
      go_end0
      exact ⟨⟨_, rfl⟩, .inr ⟨_, trivial, hjx⟩⟩
  · obtain ⟨c, hcd⟩ : ∃ c : UInt8, c = UInt8.ofNat (128 + m % 128) := ⟨_, rfl⟩
    have hx : ((c.toNat : Nat) : Int) = bits .or .u8 ((m : Int) % 256) 128 := by
     have e : (m : Int) % 256 = ((m % 256 : Nat) : Int) := by omega
     rw [hcd, e, or_more]
    obtain ⟨fn, tmps, assign, body, hy, hR⟩ := hY _ c _ hj hlen'
    rw [hx] at hy
    have HR := Lib.hid hR
    have Hcd := Lib.hid hcd
    have hlt : 128 ≤ ((m : Nat) : Int) := by omega
    clear hR hcd hx h128
    gi_wp2
    have hbig := lebF_big f m (by omega)
    have hf1 : 0 < f := by
     rcases Nat.eq_zero_or_pos f with rfl | h0
     · have := Hm.out; simp at this; omega
     · exact h0
    obtain ⟨f, rfl⟩ : ∃ f', f = f' + 1 := ⟨f - 1, by omega⟩
    have Hbig := Lib.hid hbig
    clear hbig hf1
    refine ⟨rfl, HR.out.mono ?_⟩
    rintro e W' (⟨rfl, hj3, hk3, hs3⟩ | ⟨rfl, hjx⟩)
    · have hr3 : Row W' bs 55 #[.int .u64 m] := hk3.trans hr
      have hc3 := hr3.cellv (i := 0) (v := .int .u64 (m : Int)) rfl
      have hf3 := hr3.free 0
      have Hj3 := Lib.hid hj3
      clear hj3 hk3 hj hy hf hc
      gi_wp2
      have hdiv : (m : Int) / 128 = ((m / 128 : Nat) : Int) := by omega
      go_roundw
      case rel =>
       refine ⟨f, m / 128, pre ++ [c], ?_, ?_, ?_, ?_, ?_, ?_⟩
       · rw [← Hpre.out, Hbig.out, Hcd.out]; simp
       · have := Hm.out; rw [Nat.pow_succ] at this; omega
       · have := Hm64.out; omega
       · have := Hlen.out; simp; omega
       · rw [← hdiv]; exact hr3.set 0 _
       · exact hJ _ _ _ (some bs) Hj3.out (grownBy_setCell' _ _ _) (fun r e => by cases e; exact .inl rfl)
      case measure =>
       have h1 := (hr3.set 0 (.int .u64 ((m : Int) / 128))).cell 0
       have h2 := hr.cell 0
       unfold natAt
       rw [h1, h2]
       simp; omega
    · clear hj hy hc hf hr
      gi_wp2
      refine bodyPost_ret (results_none rfl _ _ _) rfl ?_
      exact ⟨⟨_, rfl⟩, .inr ⟨_, trivial, hjx⟩⟩
end Go.Proofs.YtcgglolckkeeiaaGreat
namespace Go.Proofs.YtcgglolckkeeiaaGreat
open Go.RowKit
theorem info_u8 : (Tryz.prog.info? 5).map (fun i => (i.zero, i.size, i.bytes)) = some (some (.int .u8 0), 1, 1) := by kernel_rfl
end Go.Proofs.YtcgglolckkeeiaaGreat
namespace Go.Proofs.YtcgglolckkeeiaaGreat
open Go.RowKit Go.Deep
attribute [local go_sem] Oper.semAt_some
theorem digits_any (n : Nat) (w : World) :
 Calls Tryz.prog 168 #[.int .u64 n] w fun e w' => e = .returned (.func (.func 190) #[] #[.pointer (some ⟨w.heap.size, 0, none⟩)]) ∧ w.alloc (.cells #[.int .u64 n] 55) = w' := by
 go_enter Tryz.func168, Tryz.ntmps168
 go_wp2
 go_ret
 exact ⟨rfl, rfl⟩
set_option maxRecDepth 100000 in
set_option maxHeartbeats 2000000 in
theorem lebPut_any (n : Nat) (hn : n < 18446744073709551616) (w : World) :
 Calls Tryz.prog 130 #[.int .u64 n] w fun e w' => e = .returned (.string ⟨(lebL n).toArray⟩) ∧ Below w.heap.size w w' := by
 have Hn := Lib.hid hn
 clear hn
 obtain ⟨i0, hi0, hz0, hz1, hz2⟩ := info_parts info_u8
 refine (callsIn_wide (n := 0)).1 ?_
 refine callsIn_of_wp_marks Tryz.func130 rfl trivial ?_
 simp only [Tryz.ntmps130, List.size_toArray, List.length_cons, List.length_nil, Nat.reduceAdd, Nat.reduceSub, Array.replicate_succ, Array.replicate_zero, List.push_toArray, List.append_toArray, List.nil_append, List.cons_append]
 gi_wp2_with fail
 have rg := Row.new w 120 #[.slice none 0 0]
 have b1 := (Below.refl w.heap.size w).alloc (Nat.le_refl _) (.cells #[.slice none 0 0] 120)
 have l1 := rg.lt
 generalize w.alloc (.cells #[.slice none 0 0] 120) = w1 at rg b1 l1 ⊢
 refine ⟨trivial, rfl, (callsIn_wide.2 (digits_any n w1)).mono ?_⟩
 rintro e w2 ⟨rfl, hw2⟩
 have rb := Row.new w1 55 #[.int .u64 n]
 have rg2 := rg.alloc (.cells #[.int .u64 n] 55)
 have b2 := b1.alloc b1.size (.cells #[.int .u64 n] 55)
 rw [hw2] at rb rg2 b2
 obtain ⟨Bs, hBs⟩ : ∃ Bs, Bs = w1.heap.size := ⟨_, rfl⟩
 rw [← hBs] at rb l1 ⊢
 have lb := rb.lt
 obtain ⟨G, hG⟩ : ∃ G, G = w.heap.size := ⟨_, rfl⟩
 have gG : w.heap.size ≤ G := by omega
 rw [← hG] at rg2 l1 ⊢
 clear hBs hw2 rg b1
 have HG := Lib.hid hG
 clear hG
 have Hseq := Lib.hid (digits1_iter Bs n Hn.out w2 rb)
 gi_wp2
 refine rangeO (gf := 190) (lb := #[.pointer (some ⟨Bs, 0, none⟩)]) rfl (enters_of Tryz.func190 (by kernel_rfl) rfl) Hseq.out (fun r h => by subst h; omega)
  (fun h k => ⟨k.1.trans h.1, Nat.le_trans h.2 k.2⟩) (fun W l o o' hl ho hc => ⟨by rw [World.putObj_heap_other (by omega)], by simp⟩) (World.grownBy.refl _ _) (fun _ => rfl)
  (fun pre W => ∃ v, Row W G 120 #[v] ∧ W.ownsRow w.heap.size 5 1 v pre.length (u8s pre) ∧ Below w.heap.size w W ∧ v.ownBlock ≠ some Bs ∧ Bs < W.heap.size) (fun _ _ _ => False) ?hI ?hIx ⟨_, rg2, World.ownsRow_nil _ _ _ _, b2, by simp [Value.ownBlock], lb⟩
  (fun x a' W => a' = { tmps := #[.int .u64 n, undef, .string ⟨#[]⟩, .pointer (some ⟨G, 0, none⟩), .int .u8 (x.toNat : Int), .int .u64 n, .func (.func 190) #[] #[.pointer (some ⟨Bs, 0, none⟩)], .int .u8 (x.toNat : Int), undef, undef, undef, undef, undef, undef], defers := [] }) ?hAx ?assign ?body ?done ?stop
 case hI =>
  rintro pre A B row ⟨v, h1, h2, h3, h4, h5⟩ hg hr
  have hrow : ∀ r, row = some r → r ≠ G ∧ v.ownBlock ≠ some r := fun r e => by
   rcases hr r e with h | ⟨h, o, ho, hc⟩
   · have : r = Bs := h
     subst this
     exact ⟨by omega, h4⟩
   · exact ⟨by omega, own_cells h2 ho hc⟩
  refine ⟨v, h1.grown hg (fun e => (hrow G e).1 rfl), h2.kept hg ?_, h3.grown hg h3.size (fun k e => ?_), h4, Nat.lt_of_lt_of_le h5 hg.size⟩
  · cases row with
    | none => cases v.ownBlock <;> simp
    | some r => exact .inr (hrow r rfl).2
  · rcases hr k e with h | ⟨h, _⟩
    · have : k = Bs := h
      omega
    · have := b2.size; omega
 case hIx => exact fun _ _ _ _ _ h _ _ => h
 case hAx => exact fun x a' _ _ _ _ h _ _ => h
 case assign =>
  rintro l pre x W K hI hK
  have HK := Lib.hid hK
  clear hK
  gi_wp2
  exact HK.out _ _ (KeepsFrom.refl _ _) ⟨rfl, Nat.le_refl _⟩ hI rfl
 case body =>
  rintro l pre x a' W hl _ ⟨v, h1, h2, h3, h4, h5⟩ rfl hpl
  have hpl' : pre.length < 10 := hpl
  have hc := h1.cellv (i := 0) (v := v) rfl
  have hf := h1.free 0
  have ha := h2.alloc (.cells #[.int .u8 (x.toNat : Int)] 5)
  have HA := Lib.hid ha
  clear ha
  gi_wp2_with (gi_at_builtin; refine wpListIn_append_own_at _ rfl (.tmp 8) (.tmp 10) 120 rfl w.heap.size 5 i0 (.int .u8 0) 1 1 Tryz.underlying120 hi0 hz0 hz1 hz2 rfl (by decide) v pre.length (u8s pre) rfl HA.out ⟨W.heap.size, 0, none⟩ 1 1 (u8s [x]) rfl rfl (cells_new _ _ _) (u8s_oneCell _) (by unfold maxLen; omega) (by omega) (by have := h3.size; simp; omega) ?_)
  intro v' W3 hown hg _ hat
  have r3 := (h1.alloc (.cells #[.int .u8 (x.toNat : Int)] 5)).grown hg (own_ne HA.out (h1.alloc _) (by decide))
  have b3 := below_grown_own (h3.alloc h3.size _) HA.out hg (by have := h3.size; simp; omega) (Nat.le_refl _)
  have k3 : KeepsFrom w2.heap.size W W3 := (KeepsFrom.alloc _ W (.cells #[.int .u8 (x.toNat : Int)] 5)).trans (KeepsFrom.of_own HA.out hg)
  have e3 : W3.heap[Bs]? = W.heap[Bs]? := (hg.block Bs (by simp; omega) (fun e => h4 e.symm)).trans (Below.heap_alloc _ _ _ h5)
  have l3 : W.heap.size < W3.heap.size := by have := hg.size; simp at this; omega
  have n3 : v'.ownBlock ≠ some Bs := by
   rcases hat with h | h
   · rw [h]; exact h4
   · rw [h]; intro e; injection e; omega
  obtain ⟨A', m', c', rfl⟩ : ∃ A m c, v' = .slice A m c := own_slice hown
  have hc3 := r3.cellv (i := 0) (v := v) rfl
  have hf3 := r3.free 0
  have nG := own_ne hown r3 (by decide)
  have Hown := Lib.hid hown
  clear hown hg hat hc hf
  gi_wp2
  have o4 := only_set W3 G 0 (.slice A' m' c')
  refine ⟨k3.trans (KeepsFrom.of_only r3 o4), ⟨(o4.block Bs (by omega)).trans e3, by have := o4.size; omega⟩, _, r3.set 0 _, ?_, below_only b3 o4 gG, n3, by have := o4.size; omega⟩
  have := own_only Hown.out o4 nG
  rw [← u8s_append] at this
  simpa using this
 case stop => exact fun D c pre W _ _ h _ => h.elim
 case done =>
  rintro D ys W hD rfl ⟨v, h1, h2, h3, _, _⟩ hK
  have hconv := run_string_of_own (P := Tryz.prog) 120 9 5 Tryz.underlying120 Tryz.underlying5 Tryz.underlying9 _ h2
  have hc := h1.cellv (i := 0) (v := v) rfl
  have HK := Lib.hid hK
  clear hK h2
  gi_wp2
  refine ⟨by simp, .inl ⟨_, _, rfl, run_takeDeferred HK.out, ?_⟩⟩
  exact ⟨_, results_tmp rfl _ _ _, rfl, h3.grown (grownBy_putObj' _ _ _) h3.size (fun k e => by cases e; have := b2.size; omega)⟩
end Go.Proofs.YtcgglolckkeeiaaGreat
namespace Go.Proofs.YtcgglolckkeeiaaGreat
open Go.RowKit Go.Deep
theorem xor_max (u : Int) : bits .xor .u64 IntKind.u64.max (IntKind.u64.wrap (u * 2)) = 18446744073709551615 - IntKind.u64.wrap (u * 2) := by
 obtain ⟨m, hm, hlt⟩ : ∃ m : Nat, IntKind.u64.wrap (u * 2) = (m : Int) ∧ m < 18446744073709551616 := by
  rw [IntKind.wrap_u64]; exact ⟨((u * 2) % 18446744073709551616).toNat, by omega, by omega⟩
 rw [hm]
 show IntKind.u64.wrap ((BitVec.ofInt 64 IntKind.u64.max ^^^ BitVec.ofInt 64 (m : Int)).toNat : Int) = _
 have e1 : BitVec.ofInt 64 IntKind.u64.max = BitVec.allOnes 64 := by decide +kernel
 have e2 : (BitVec.ofInt 64 (m : Int)).toNat = m := by rw [BitVec.ofInt_natCast, BitVec.toNat_ofNat]; exact Nat.mod_eq_of_lt (by omega)
 rw [e1, BitVec.allOnes_xor, BitVec.toNat_not, e2, IntKind.wrap_u64]
 omega
theorem zig1_any (u : Int) (w : World) : Calls Tryz.prog 205 #[.int .u64 u] w fun e w' => e = .returned (.int .u64 (IntKind.u64.wrap (u * 2))) ∧ w = w' := by
 go_enter Tryz.func205, Tryz.ntmps205
 go_wp2
 go_ret
 exact ⟨rfl, rfl⟩
theorem zig2_any (u : Int) (w : World) : Calls Tryz.prog 206 #[.int .u64 u] w fun e w' => e = .returned (.int .u64 (bits .xor .u64 IntKind.u64.max (IntKind.u64.wrap (u * 2)))) ∧ w = w' := by
 have hsg : ¬ IntKind.u64.signed = true := by decide
 go_enter Tryz.func206, Tryz.ntmps206
 go_wp2
 go_ret
 exact ⟨rfl, rfl⟩
theorem zig_pos (n : Int) (hn : InI n) (h : 0 ≤ n) : IntKind.u64.wrap (IntKind.u64.wrap n * 2) = (zigN n : Int) := by
 simp only [IntKind.wrap_u64]; unfold zigN; rw [if_pos h]; have := hn.2; omega
theorem zig_neg (n : Int) (hn : InI n) (h : ¬ 0 ≤ n) : bits .xor .u64 IntKind.u64.max (IntKind.u64.wrap (IntKind.u64.wrap n * 2)) = (zigN n : Int) := by
 rw [xor_max]
 simp only [IntKind.wrap_u64]; unfold zigN; rw [if_neg h]; have := hn.1; omega
theorem ret_u64 {a b : Int} (h : a = b) : Ending.returned (.int .u64 a) = .returned (.int .u64 b) := by rw [h]
set_option maxRecDepth 100000 in
set_option maxHeartbeats 1000000 in
theorem zig_any (n : Int) (hn : InI n) (w : World) :
 Calls Tryz.prog 192 #[.int .i64 n] w fun e w' => e = .returned (.int .u64 (zigN n)) ∧ Below w.heap.size w w' := by
 have Hn := Lib.hid hn
 clear hn
 go_enter Tryz.func192, Tryz.ntmps192
 go_wp2_with (refine at_alloc _ rfl ?_)
 refine Stop.to ?_
 refine wpList_alloc_gen rfl 260 rfl _ _ rfl rfl ?_
 intro g w1 hg r1 b1
 go_wp2_with (refine at_store _ _ _ rfl ?_)
 refine Stop.to ?_
 refine wpList_store_gen rfl 260 _ _ rfl g #[.func (.func 205) #[] #[], .func (.func 206) #[] #[]] rfl rfl 260 _ r1 (by kernel_rfl) rfl (by kernel_rfl) ?_
 intro w2 r2 o2
 have b2 := below_only ((Below.refl w.heap.size w).trans (b1.mono hg)) o2 hg
 have c0 := r2.cellv (i := 0) (v := .func (.func 205) #[] #[]) rfl
 have c1 := r2.cellv (i := 1) (v := .func (.func 206) #[] #[]) rfl
 clear o2 r1 b1 hg
 by_cases h0 : 0 ≤ n
 · have hs : IntKind.u64.wrap n / 9223372036854775808 = 0 := by rw [IntKind.wrap_u64]; have := Hn.out.1; have := Hn.out.2; omega
   have H0 := Lib.hid h0
   clear h0
   go_wp2_with fail
   refine (zig1_any _ w2).mono ?_
   rintro e w3 ⟨rfl, rfl⟩
   go_wp2_with fail
   go_ret
   exact ⟨ret_u64 (zig_pos n Hn.out H0.out), b2⟩
 · have hs : IntKind.u64.wrap n / 9223372036854775808 = 1 := by rw [IntKind.wrap_u64]; have := Hn.out.1; have := Hn.out.2; omega
   have H0 := Lib.hid h0
   clear h0
   go_wp2_with fail
   refine (zig2_any _ w2).mono ?_
   rintro e w3 ⟨rfl, rfl⟩
   go_wp2_with fail
   go_ret
   exact ⟨ret_u64 (zig_neg n Hn.out (by have := H0.out; omega)), b2⟩
theorem zigPut_any (n : Int) (hn : InI n) (w : World) :
 Calls Tryz.prog 171 #[.int .i64 n] w fun e w' => e = .returned (.string ⟨(zz n).toArray⟩) ∧ Below w.heap.size w w' := by
 have Hn := Lib.hid hn
 clear hn
 go_enter Tryz.func171, Tryz.ntmps171
 go_wp2_with fail
 refine (zig_any n Hn.out w).mono ?_
 rintro e w1 ⟨rfl, b1⟩
 go_wp2_with fail
 refine (lebPut_any (zigN n) (zigN_lt Hn.out) w1).mono ?_
 rintro e w2 ⟨rfl, b2⟩
 go_wp2_with fail
 go_ret
 exact ⟨rfl, b1.trans (b2.mono b1.size)⟩
theorem refZig_pos (n : Int) (hn : InI n) (h : 0 ≤ n) : IntKind.u64.wrap (2 * IntKind.u64.wrap n) = (zigN n : Int) := by
 rw [Int.mul_comm]; exact zig_pos n hn h
theorem refZig_neg (n : Int) (hn : InI n) (h : n < 0) : IntKind.u64.wrap (IntKind.u64.wrap (2 * IntKind.u64.wrap (wrap64 (-wrap64 (n + 1)))) + 1) = (zigN n : Int) := by
 obtain ⟨h1, h2⟩ := hn
 have e1 : wrap64 (n + 1) = n + 1 := IntWalk.wrap64_in _ (by omega)
 rw [e1]
 have e2 : wrap64 (-(n + 1)) = -(n + 1) := IntWalk.wrap64_in _ (by omega)
 rw [e2]
 simp only [IntKind.wrap_u64]; unfold zigN; rw [if_neg (by omega)]; omega
set_option maxRecDepth 100000 in
set_option maxHeartbeats 1000000 in
theorem refZig_any (n : Int) (hn : InI n) (w : World) :
 Calls Tryz.prog 136 #[.int .i64 n] w fun e w' => e = .returned (.int .u64 (zigN n)) ∧ w = w' := by
 have Hn := Lib.hid hn
 clear hn
 by_cases h0 : 0 ≤ n
 · have H0 := Lib.hid h0
   go_enter Tryz.func136, Tryz.ntmps136
   go_wp2_with fail
   go_ret
   exact ⟨ret_u64 (refZig_pos n Hn.out H0.out), rfl⟩
 · have H0 := Lib.hid h0
   go_enter Tryz.func136, Tryz.ntmps136
   go_wp2_with fail
   go_ret
   exact ⟨ret_u64 (refZig_neg n Hn.out (by omega)), rfl⟩
theorem small_cell (n : Nat) (h : n < 128) : u8s [UInt8.ofNat n] = [.int .u8 (n : Int)] := by
 have : (UInt8.ofNat n).toNat = n := by simp; omega
 simp [u8s, this]
theorem refPut_small (f n : Nat) (hn : n < 128) (w : World) :
 Calls Tryz.prog 91 #[.int .u64 n] w fun e w' => e = .returned (.string ⟨(lebF (f + 1) n).toArray⟩) ∧ Below w.heap.size w w' := by
 have h128 : ((n : Nat) : Int) < 128 := by omega
 rw [lebF_small f n hn]
 have hconv := run_string_of_row (P := Tryz.prog) 120 9 5 5 Tryz.underlying120 Tryz.underlying5 Tryz.underlying9 (cap := 1) (Row.new w 5 #[.int .u8 (n : Int)]) [UInt8.ofNat n] (n := 1) rfl (fun j hj => by rw [small_cell n hn]; simp)
 clear hn
 go_enter Tryz.func91, Tryz.ntmps91
 go_wp2_with fail
 go_ret
 exact ⟨rfl, (Below.refl _ _).alloc (Nat.le_refl _) _⟩
theorem cat_one (c : UInt8) (l : List UInt8) : ((⟨#[c]⟩ : ByteArray) ++ ⟨l.toArray⟩) = ⟨(c :: l).toArray⟩ := by apply ByteArray.ext; simp
theorem big_cell (n : Nat) : u8s [UInt8.ofNat (128 + n % 128)] = [.int .u8 (128 + (n : Int) % 128)] := by
 have : (UInt8.ofNat (128 + n % 128)).toNat = 128 + n % 128 := by simp; omega
 simp [u8s]; omega
set_option maxRecDepth 100000 in
set_option maxHeartbeats 1000000 in
theorem refPut_any : ∀ (f n : Nat) (w : World), n < 128 ^ (f + 1) → n < 18446744073709551616 → f ≤ 9 →
 Calls Tryz.prog 91 #[.int .u64 n] w fun e w' => e = .returned (.string ⟨(lebF (f + 1) n).toArray⟩) ∧ Below w.heap.size w w' := by
 intro f
 induction f with
 | zero => exact fun n w hf _ _ => refPut_small 0 n (by omega) w
 | succ f ih =>
  intro n w hf hb hf9
  by_cases hn : n < 128
  · exact refPut_small (f + 1) n hn w
  rw [lebF_big (f + 1) n hn]
  have h128 : 128 ≤ ((n : Nat) : Int) := by omega
  have HI := Lib.hid (fun w => ih (n / 128) w (by rw [Nat.pow_succ] at hf; omega) (by omega) (by omega))
  have HB := Lib.hid hb
  have HF := Lib.hid hf9
  clear ih hf hn hb hf9
  go_enter Tryz.func91, Tryz.ntmps91
  go_wp2_with fail
  have hS : (fun W => Below w.heap.size w W) w.drew := St.drew (S := fun W => Below w.heap.size w W) (Below.refl _ _)
  refine wp_region_held (S := fun W => Below w.heap.size w W) (by kernel_rfl) ?_
  simp only [List.size_toArray, List.length_cons, List.length_nil, Nat.reduceAdd, Array.replicate_succ, Array.replicate_zero, List.push_toArray, List.nil_append, List.cons_append]
  show wpAnyH _ _ _ _ _ _ _ _ w.drew
  generalize w.drew = w3 at hS ⊢
  (refine takeH (i := 0) (v := .int .u64 (n : Int)) rfl (by kernel_rfl) (by kernel_rfl) (by kernel_rfl) (fun _ _ _ h => h) (yields_val rfl (fun W hW => by (rfl))) (by assumption) ?_; simp only [Act.put, List.setIfInBounds_toArray, List.set_cons_zero, List.set_cons_succ])
  (refine takeH (i := 1) (v := .int .u64 ((n : Int) % 128)) rfl (by kernel_rfl) (by kernel_rfl) (by kernel_rfl) (fun _ _ _ h => h) (yields_val rfl (fun W hW => by (go_simp; exact Int.tmod_eq_emod_of_nonneg (by omega)))) (by assumption) ?_; simp only [Act.put, List.setIfInBounds_toArray, List.set_cons_zero, List.set_cons_succ])
  (refine takeH (i := 2) (v := .int .u64 (128 + (n : Int) % 128)) rfl (by kernel_rfl) (by kernel_rfl) (by kernel_rfl) (fun _ _ _ h => h) (yields_val rfl (fun W hW => by (go_simp; rw [IntKind.wrap_u64]; omega))) (by assumption) ?_; simp only [Act.put, List.setIfInBounds_toArray, List.set_cons_zero, List.set_cons_succ])
  (refine takeH (i := 3) (v := .int .u8 (128 + (n : Int) % 128)) rfl (by kernel_rfl) (by kernel_rfl) (by kernel_rfl) (fun _ _ _ h => h) (yields_val rfl (fun W hW => by (go_simp; rw [IntKind.wrap_u8]; omega))) (by assumption) ?_; simp only [Act.put, List.setIfInBounds_toArray, List.set_cons_zero, List.set_cons_succ])
  (refine takeH (i := 6) (v := .int .u64 (n : Int)) rfl (by kernel_rfl) (by kernel_rfl) (by kernel_rfl) (fun _ _ _ h => h) (yields_val rfl (fun W hW => by (rfl))) (by assumption) ?_; simp only [Act.put, List.setIfInBounds_toArray, List.set_cons_zero, List.set_cons_succ])
  (refine takeH (i := 7) (v := .int .u64 ((n / 128 : Nat) : Int)) rfl (by kernel_rfl) (by kernel_rfl) (by kernel_rfl) (fun _ _ _ h => h) (yields_val rfl (fun W hW => by (go_simp; rw [IntKind.wrap_u64]; have := HB.out; omega))) (by assumption) ?_; simp only [Act.put, List.setIfInBounds_toArray, List.set_cons_zero, List.set_cons_succ])
  have hmk : ∀ W : World, (Instr.buildSlice 120 1 #[(0, .int .u8 (128 + (n : Int) % 128))]).run Tryz.prog W = .ok (.slice (some ⟨W.heap.size, 0, none⟩) 1 1) (W.alloc (.cells #[.int .u8 (128 + (n : Int) % 128)] 5)) := fun W => by kernel_rfl
  have hcv : ∀ (W : World) (g : Nat), Row W g 5 #[.int .u8 (128 + (n : Int) % 128)] → (convert 120 9 (.slice (some ⟨g, 0, none⟩) 1 1)).run Tryz.prog W = .ok (.string ⟨#[UInt8.ofNat (128 + n % 128)]⟩) W := fun W g hr =>
   run_string_of_row (P := Tryz.prog) 120 9 5 5 Tryz.underlying120 Tryz.underlying5 Tryz.underlying9 (cap := 1) hr [UInt8.ofNat (128 + n % 128)] (n := 1) rfl (fun j hj => by rw [big_cell n]; simp)
  have hcell : Value.oneCell' (.int .u8 (128 + (n : Int) % 128)) = true := rfl
  refine wpAnyH_all (rs := [4, 8]) (by kernel_rfl) (by simp) (fun i hi => ?_)
  simp only [List.mem_cons, List.not_mem_nil, or_false] at hi
  rcases hi with rfl | rfl
  · refine wpOp_plain rfl rfl (fun K2 hK2 => ?_)
    refine wp_res_gen (.slice (some ⟨w3.heap.size, 0, none⟩) 1 1) (w1 := w3.alloc (.cells #[.int .u8 (128 + (n : Int) % 128)] 5)) (by go_simp) ?_
    refine hK2 _ _ ?_
    clear hK2 K2
    simp only [Act.put, List.setIfInBounds_toArray, List.set_cons_zero, List.set_cons_succ]
    have r4 := Row.new w3 5 #[.int .u8 (128 + (n : Int) % 128)]
    have b4 := hS.alloc hS.size (.cells #[.int .u8 (128 + (n : Int) % 128)] 5)
    generalize w3.alloc (.cells #[.int .u8 (128 + (n : Int) % 128)] 5) = w4 at r4 b4 ⊢
    refine ⟨b4, ?_⟩
    clear hS hmk
    refine wpAnyH_all (rs := [5, 8]) (by kernel_rfl) (by simp) (fun i hi => ?_)
    simp only [List.mem_cons, List.not_mem_nil, or_false] at hi
    rcases hi with rfl | rfl
    · refine wpOp_plain rfl rfl (fun K2 hK2 => ?_)
      refine wp_res_gen (.string ⟨#[UInt8.ofNat (128 + n % 128)]⟩) (w1 := w4) (by have := hcv _ _ r4; go_simp) ?_
      refine hK2 _ _ ?_
      clear hK2 K2
      simp only [Act.put, List.setIfInBounds_toArray, List.set_cons_zero, List.set_cons_succ]
      refine ⟨b4, ?_⟩
      (refine wpAnyH_all (rs := [8]) (by kernel_rfl) (by simp) (fun i hi => ?_); obtain rfl : i = 8 := by simpa using hi)
      refine wpOp_plain rfl rfl (fun K2 hK2 => ?_)
      refine wp_call_gen 91 #[.int .u64 ((n / 128 : Nat) : Int)] (w1 := w4) (by go_simp) ((HI.out w4).mono ?_)
      rintro e w5 ⟨rfl, b5⟩
      refine ⟨_, rfl, ?_⟩
      refine hK2 _ _ ?_
      clear hK2 K2
      simp only [Act.put, List.setIfInBounds_toArray, List.set_cons_zero, List.set_cons_succ]
      have b5 := b4.trans (b5.mono b4.size)
      refine ⟨b5, ?_⟩
      clear b4 r4 hcv
      (refine takeH (i := 9) (v := .string ⟨(UInt8.ofNat (128 + n % 128) :: lebF (f + 1) (n / 128)).toArray⟩) rfl (by kernel_rfl) (by kernel_rfl) (by kernel_rfl) (fun _ _ _ h => h) (yields_val rfl (fun W hW => by (go_simp; rw [if_neg (by have := lebF_len (f + 1) (n / 128); have := HF.out; omega), cat_one]))) (by assumption) ?_; simp only [Act.put, List.setIfInBounds_toArray, List.set_cons_zero, List.set_cons_succ])
      (refine takeH (i := 10) (v := .string ⟨(UInt8.ofNat (128 + n % 128) :: lebF (f + 1) (n / 128)).toArray⟩) rfl (by kernel_rfl) (by kernel_rfl) (by kernel_rfl) (fun _ _ _ h => h) (yields_val rfl (fun W hW => by (rfl))) (by assumption) ?_; simp only [Act.put, List.setIfInBounds_toArray, List.set_cons_zero, List.set_cons_succ])
      refine wpAnyH_done (by kernel_rfl) ?_ _
      go_wp2_with fail
      go_ret
      exact ⟨rfl, by assumption⟩
    · refine wpOp_plain rfl rfl (fun K2 hK2 => ?_)
      refine wp_call_gen 91 #[.int .u64 ((n / 128 : Nat) : Int)] (w1 := w4) (by go_simp) ((HI.out w4).mono ?_)
      rintro e w5 ⟨rfl, b5⟩
      refine ⟨_, rfl, ?_⟩
      refine hK2 _ _ ?_
      clear hK2 K2
      simp only [Act.put, List.setIfInBounds_toArray, List.set_cons_zero, List.set_cons_succ]
      have r5 := r4.below b5 r4.lt
      have b5 := b4.trans (b5.mono b4.size)
      refine ⟨b5, ?_⟩
      clear b4 r4
      (refine wpAnyH_all (rs := [5]) (by kernel_rfl) (by simp) (fun i hi => ?_); obtain rfl : i = 5 := by simpa using hi)
      refine wpOp_plain rfl rfl (fun K2 hK2 => ?_)
      refine wp_res_gen (.string ⟨#[UInt8.ofNat (128 + n % 128)]⟩) (w1 := w5) (by have := hcv _ _ r5; go_simp) ?_
      refine hK2 _ _ ?_
      clear hK2 K2
      simp only [Act.put, List.setIfInBounds_toArray, List.set_cons_zero, List.set_cons_succ]
      refine ⟨b5, ?_⟩
      clear r5 hcv
      (refine takeH (i := 9) (v := .string ⟨(UInt8.ofNat (128 + n % 128) :: lebF (f + 1) (n / 128)).toArray⟩) rfl (by kernel_rfl) (by kernel_rfl) (by kernel_rfl) (fun _ _ _ h => h) (yields_val rfl (fun W hW => by (go_simp; rw [if_neg (by have := lebF_len (f + 1) (n / 128); have := HF.out; omega), cat_one]))) (by assumption) ?_; simp only [Act.put, List.setIfInBounds_toArray, List.set_cons_zero, List.set_cons_succ])
      (refine takeH (i := 10) (v := .string ⟨(UInt8.ofNat (128 + n % 128) :: lebF (f + 1) (n / 128)).toArray⟩) rfl (by kernel_rfl) (by kernel_rfl) (by kernel_rfl) (fun _ _ _ h => h) (yields_val rfl (fun W hW => by (rfl))) (by assumption) ?_; simp only [Act.put, List.setIfInBounds_toArray, List.set_cons_zero, List.set_cons_succ])
      refine wpAnyH_done (by kernel_rfl) ?_ _
      go_wp2_with fail
      go_ret
      exact ⟨rfl, by assumption⟩
  · refine wpOp_plain rfl rfl (fun K2 hK2 => ?_)
    refine wp_call_gen 91 #[.int .u64 ((n / 128 : Nat) : Int)] (w1 := w3) (by go_simp) ((HI.out w3).mono ?_)
    rintro e w4 ⟨rfl, b4⟩
    refine ⟨_, rfl, ?_⟩
    refine hK2 _ _ ?_
    clear hK2 K2
    simp only [Act.put, List.setIfInBounds_toArray, List.set_cons_zero, List.set_cons_succ]
    have b4 := hS.trans (b4.mono hS.size)
    refine ⟨b4, ?_⟩
    clear hS
    (refine wpAnyH_all (rs := [4]) (by kernel_rfl) (by simp) (fun i hi => ?_); obtain rfl : i = 4 := by simpa using hi)
    refine wpOp_plain rfl rfl (fun K2 hK2 => ?_)
    refine wp_res_gen (.slice (some ⟨w4.heap.size, 0, none⟩) 1 1) (w1 := w4.alloc (.cells #[.int .u8 (128 + (n : Int) % 128)] 5)) (by go_simp) ?_
    refine hK2 _ _ ?_
    clear hK2 K2
    simp only [Act.put, List.setIfInBounds_toArray, List.set_cons_zero, List.set_cons_succ]
    have r5 := Row.new w4 5 #[.int .u8 (128 + (n : Int) % 128)]
    have b5 := b4.alloc b4.size (.cells #[.int .u8 (128 + (n : Int) % 128)] 5)
    generalize w4.alloc (.cells #[.int .u8 (128 + (n : Int) % 128)] 5) = w5 at r5 b5 ⊢
    refine ⟨b5, ?_⟩
    clear b4 hmk
    (refine wpAnyH_all (rs := [5]) (by kernel_rfl) (by simp) (fun i hi => ?_); obtain rfl : i = 5 := by simpa using hi)
    refine wpOp_plain rfl rfl (fun K2 hK2 => ?_)
    refine wp_res_gen (.string ⟨#[UInt8.ofNat (128 + n % 128)]⟩) (w1 := w5) (by have := hcv _ _ r5; go_simp) ?_
    refine hK2 _ _ ?_
    clear hK2 K2
    simp only [Act.put, List.setIfInBounds_toArray, List.set_cons_zero, List.set_cons_succ]
    refine ⟨b5, ?_⟩
    clear r5 hcv
    (refine takeH (i := 9) (v := .string ⟨(UInt8.ofNat (128 + n % 128) :: lebF (f + 1) (n / 128)).toArray⟩) rfl (by kernel_rfl) (by kernel_rfl) (by kernel_rfl) (fun _ _ _ h => h) (yields_val rfl (fun W hW => by (go_simp; rw [if_neg (by have := lebF_len (f + 1) (n / 128); have := HF.out; omega), cat_one]))) (by assumption) ?_; simp only [Act.put, List.setIfInBounds_toArray, List.set_cons_zero, List.set_cons_succ])
    (refine takeH (i := 10) (v := .string ⟨(UInt8.ofNat (128 + n % 128) :: lebF (f + 1) (n / 128)).toArray⟩) rfl (by kernel_rfl) (by kernel_rfl) (by kernel_rfl) (fun _ _ _ h => h) (yields_val rfl (fun W hW => by (rfl))) (by assumption) ?_; simp only [Act.put, List.setIfInBounds_toArray, List.set_cons_zero, List.set_cons_succ])
    refine wpAnyH_done (by kernel_rfl) ?_ _
    go_wp2_with fail
    go_ret
    exact ⟨rfl, by assumption⟩
theorem lebL_ref (n : Nat) (h : n < 18446744073709551616) (w : World) :
 Calls Tryz.prog 91 #[.int .u64 n] w fun e w' => e = .returned (.string ⟨(lebL n).toArray⟩) ∧ Below w.heap.size w w' :=
 refPut_any 9 n w (by have e : (128 : Nat) ^ (9 + 1) = 1180591620717411303424 := by decide
                      rw [e]; omega) h (Nat.le_refl _)
theorem refZPut_any (n : Int) (hn : InI n) (w : World) :
 Calls Tryz.prog 93 #[.int .i64 n] w fun e w' => e = .returned (.string ⟨(zz n).toArray⟩) ∧ Below w.heap.size w w' := by
 have Hn := Lib.hid hn
 clear hn
 go_enter Tryz.func93, Tryz.ntmps93
 go_wp2_with fail
 refine (refZig_any n Hn.out w).mono ?_
 rintro e w1 ⟨rfl, rfl⟩
 go_wp2_with fail
 refine (lebL_ref (zigN n) (zigN_lt Hn.out) w).mono ?_
 rintro e w2 ⟨rfl, b2⟩
 go_wp2_with fail
 go_ret
 exact ⟨rfl, b2⟩
end Go.Proofs.YtcgglolckkeeiaaGreat
