/- Plain laws on numbers in groups of seven bits, with and without a sign. No program in sight. -/
import Derived.Test.YtkdcelnlhhodlaaBase
namespace Go.Proofs.Ytkdcelnlhhodlaa
open Go.RowKit

def lebF : Nat → Nat → List UInt8
  | 0, _ => []
  | f + 1, n => if n < 128 then [UInt8.ofNat n] else UInt8.ofNat (128 + n % 128) :: lebF f (n / 128)
def lebL (n : Nat) : List UInt8 := lebF 10 n
theorem lebF_small (f n : Nat) (h : n < 128) : lebF (f + 1) n = [UInt8.ofNat n] := by rw [lebF, if_pos h]
theorem lebF_big (f n : Nat) (h : ¬ n < 128) : lebF (f + 1) n = UInt8.ofNat (128 + n % 128) :: lebF f (n / 128) := by rw [lebF, if_neg h]
theorem lebF_len : ∀ f n, (lebF f n).length ≤ f
  | 0, _ => by simp [lebF]
  | f + 1, n => by
    unfold lebF
    split
    · simp
    · have := lebF_len f (n / 128); simp; omega
theorem lebL_len (n : Nat) : (lebL n).length ≤ 10 := lebF_len 10 n
theorem lebF_pos (f n : Nat) : 0 < (lebF (f + 1) n).length := by
  unfold lebF; split <;> simp
theorem u8_eq {a b : Nat} (h : UInt8.ofNat a = UInt8.ofNat b) : a % 256 = b % 256 := by
  have := congrArg UInt8.toNat h; simpa using this
theorem lebF_inj : ∀ (f g a b : Nat) (x y : List UInt8), a < 128 ^ f → b < 128 ^ g → lebF f a ++ x = lebF g b ++ y → 0 < f → 0 < g → a = b ∧ x = y
  | 0, _, _, _, _, _, _, _, _, h, _ => by omega
  | _ + 1, 0, _, _, _, _, _, _, _, _, h => by omega
  | f + 1, g + 1, a, b, x, y, ha, hb, h, _, _ => by
    rw [Nat.pow_succ] at ha hb
    by_cases h1 : a < 128 <;> by_cases h2 : b < 128
    · rw [lebF_small f a h1, lebF_small g b h2] at h
      simp only [List.cons_append, List.nil_append, List.cons.injEq] at h
      have := u8_eq h.1
      exact ⟨by omega, h.2⟩
    · rw [lebF_small f a h1, lebF_big g b h2] at h
      simp only [List.cons_append, List.nil_append, List.cons.injEq] at h
      have := u8_eq h.1
      omega
    · rw [lebF_big f a h1, lebF_small g b h2] at h
      simp only [List.cons_append, List.nil_append, List.cons.injEq] at h
      have := u8_eq h.1
      omega
    · rw [lebF_big f a h1, lebF_big g b h2] at h
      simp only [List.cons_append, List.cons.injEq] at h
      have e := u8_eq h.1
      have hf : 0 < f := by
        rcases Nat.eq_zero_or_pos f with rfl | h0
        · simp at ha; omega
        · exact h0
      have hg : 0 < g := by
        rcases Nat.eq_zero_or_pos g with rfl | h0
        · simp at hb; omega
        · exact h0
      obtain ⟨e2, e3⟩ := lebF_inj f g (a / 128) (b / 128) x y (by omega) (by omega) h.2 hf hg
      exact ⟨by omega, e3⟩
theorem lebL_inj {a b : Nat} {x y : List UInt8} (ha : a < 18446744073709551616) (hb : b < 18446744073709551616) (h : lebL a ++ x = lebL b ++ y) : a = b ∧ x = y := by
  have e : (128 : Nat) ^ 10 = 1180591620717411303424 := by decide
  exact lebF_inj 10 10 a b x y (by rw [e]; omega) (by rw [e]; omega) h (by omega) (by omega)

/-- The number that tells one with a sign. -/
def zigN (n : Int) : Nat := if 0 ≤ n then (2 * n).toNat else (-2 * n - 1).toNat
theorem zigN_inj {a b : Int} (h : zigN a = zigN b) : a = b := by unfold zigN at h; split at h <;> split at h <;> omega
theorem zigN_lt {n : Int} (h : -9223372036854775808 ≤ n ∧ n ≤ 9223372036854775807) : zigN n < 18446744073709551616 := by unfold zigN; split <;> omega
def zz (n : Int) : List UInt8 := lebL (zigN n)
theorem zz_len (n : Int) : (zz n).length ≤ 10 := lebL_len _
def InI (n : Int) : Prop := -9223372036854775808 ≤ n ∧ n ≤ 9223372036854775807
theorem zz_inj {a b : Int} {x y : List UInt8} (ha : InI a) (hb : InI b) (h : zz a ++ x = zz b ++ y) : a = b ∧ x = y := by
  obtain ⟨h1, h2⟩ := lebL_inj (zigN_lt ha) (zigN_lt hb) h
  exact ⟨zigN_inj h1, h2⟩

/-- An event; a run. -/
structure EvV where
  var : Int
  at_ : Int
  val : Int

structure RunV where
  kind : Int
  value : Int
  steps : Int
  addr : Option Addr
  cap : Nat
  evs : List EvV
def EvV.cells (e : EvV) : List Value := [.int .i64 e.var, .int .i64 e.at_, .int .i64 e.val]
def EvV.ok (e : EvV) : Prop := InI e.var ∧ InI e.at_ ∧ InI e.val
def EvV.bytes (e : EvV) : List UInt8 := zz e.var ++ zz e.at_ ++ zz e.val
theorem EvV.bytes_len (e : EvV) : e.bytes.length ≤ 30 := by
  have := zz_len e.var; have := zz_len e.at_; have := zz_len e.val
  simp only [EvV.bytes, List.length_append]; omega
def traceL (kind value : Int) (evs : List EvV) : List UInt8 := lebL evs.length ++ (evs.flatMap EvV.bytes ++ (zz kind ++ zz value))
theorem evs_len : ∀ evs : List EvV, (evs.flatMap EvV.bytes).length ≤ 30 * evs.length
  | [] => by simp
  | e :: evs => by
    have := evs_len evs; have := e.bytes_len
    simp only [List.flatMap_cons, List.length_append, List.length_cons]; omega
theorem traceL_len (kind value : Int) (evs : List EvV) : (traceL kind value evs).length ≤ 30 * evs.length + 30 := by
  have := evs_len evs; have := lebL_len evs.length; have := zz_len kind; have := zz_len value
  simp only [traceL, List.length_append]; omega
theorem evs_inj : ∀ {a b : List EvV} {x y : List UInt8}, a.length = b.length → (∀ e ∈ a, e.ok) → (∀ e ∈ b, e.ok) → a.flatMap EvV.bytes ++ x = b.flatMap EvV.bytes ++ y → a = b ∧ x = y
  | [], [], _, _, _, _, _, h => ⟨rfl, by simpa using h⟩
  | e :: a, f :: b, x, y, hl, ha, hb, h => by
    obtain ⟨a1, a2, a3⟩ := ha e (by simp)
    obtain ⟨b1, b2, b3⟩ := hb f (by simp)
    simp only [List.flatMap_cons, EvV.bytes, List.append_assoc] at h
    obtain ⟨h1, h⟩ := zz_inj a1 b1 h
    obtain ⟨h2, h⟩ := zz_inj a2 b2 h
    obtain ⟨h3, h⟩ := zz_inj a3 b3 h
    obtain ⟨h4, h⟩ := evs_inj (a := a) (b := b) (by simpa using hl) (fun e he => ha e (by simp [he])) (fun e he => hb e (by simp [he])) h
    refine ⟨?_, h⟩
    cases e; cases f; simp_all
  | [], _ :: _, _, _, hl, _, _, _ => by simp at hl
  | _ :: _, [], _, _, hl, _, _, _ => by simp at hl
theorem traceL_inj {k v k' v' : Int} {a b : List EvV} (hk : InI k) (hv : InI v) (hk' : InI k') (hv' : InI v') (ha : ∀ e ∈ a, e.ok) (hb : ∀ e ∈ b, e.ok) (la : a.length < 18446744073709551616) (lb : b.length < 18446744073709551616)
    (h : traceL k v a = traceL k' v' b) : a = b ∧ k = k' ∧ v = v' := by
  obtain ⟨h1, h⟩ := lebL_inj la lb h
  obtain ⟨h2, h⟩ := evs_inj h1 ha hb h
  obtain ⟨h3, h⟩ := zz_inj hk hk' h
  have h' : zz v ++ [] = zz v' ++ [] := by simpa using h
  exact ⟨h2, h3, (zz_inj hv hv' h').1⟩
end Go.Proofs.Ytkdcelnlhhodlaa
