/- Walks over package leb: digits, and the function that it hands back. -/
import Derived.Test.YtkdcelnlhhodlaaRows
import Derived.Test.YtkdcelnlhhodlaaIter
import Derived.Test.YtkdcelnlhhodlaaLeb
import Derived.Test.YtkdcelnlhhodlaaGen
namespace Go.Proofs.Ytkdcelnlhhodlaa
open Go.RowKit Go.Deep
attribute [local go_sem] Oper.semAt_some

def natAt (w : World) (b : Nat) : Nat := match w.cell? ⟨b, 0, none⟩ with | some (.int _ n) => n.toNat | _ => 0
theorem or_more (n : Nat) : bits .or .u8 (((n % 256 : Nat) : Int)) 128 = ((UInt8.ofNat (128 + n % 128)).toNat : Int) := by
  have h : ∀ m : Nat, m < 256 → bits .or .u8 (m : Int) 128 = ((128 + m % 128 : Nat) : Int) := by decide +kernel
  rw [h (n % 256) (by omega)]
  have : (UInt8.ofNat (128 + n % 128)).toNat = 128 + n % 128 := by simp; omega
  rw [this]; omega
theorem u8_wrap (n : Nat) : IntKind.u8.wrap (n : Int) = ((n % 256 : Nat) : Int) := by rw [IntKind.wrap_u8]; omega
theorem u8_low (n : Nat) : ((n % 256 : Nat) : Int) = ((UInt8.ofNat n).toNat : Int) := by simp

set_option maxRecDepth 100000 in
set_option maxHeartbeats 1000000 in
theorem digits1_iter (bs : Nat) (n : Nat) (hn : n < 18446744073709551616) (w : World) (hrow : Row w bs 39 #[.int .u64 n]) :
    IterO Try.prog 45 #[.pointer (some ⟨bs, 0, none⟩)] (fun x : UInt8 => #[.int .u8 (x.toNat : Int)]) (· = bs) (fun A B => B.heap[bs]? = A.heap[bs]? ∧ A.heap.size ≤ B.heap.size) (fun xs => xs = lebL n) (fun _ => True) 10 w := by
  intro l J Jx W _ hwW hJ hJx hY h0
  refine callsIn_of_wp Try.func45 rfl trivial ?_ rfl
  simp only [Try.ntmps45, List.size_toArray, List.length_cons, List.length_nil, Nat.reduceAdd, Nat.reduceSub, Array.replicate_succ, Array.replicate_zero, List.push_toArray, List.append_toArray, List.nil_append, List.cons_append]
  gi_wp2
  have hrW : Row W bs 39 #[.int .u64 n] := (hwW.block bs hrow.lt (by simp)).trans hrow
  have hn10 : n < 128 ^ 10 := by have e : (128 : Nat) ^ 10 = 1180591620717411303424 := by decide
                                 rw [e]; omega
  have Hn := Lib.hid hn
  have Hn10 := Lib.hid hn10
  clear hrow hwW hn hn10
  gi_loopw [3, 4] (fun _ _ wr => ∃ (f m : Nat) (pre : List UInt8), pre ++ lebF (f + 1) m = lebL n ∧ m < 128 ^ (f + 1) ∧ m < 18446744073709551616 ∧ pre.length + (f + 1) = 10 ∧ Row wr bs 39 #[.int .u64 m] ∧ J pre wr) (fun _ _ wr => natAt wr bs)
  case atStart => exact ⟨9, n, [], rfl, Hn10.out, Hn.out, rfl, hrW, h0⟩
  case round =>
    clear hrW h0
    obtain ⟨f, m, pre, hpre, hm, hm64, hlen, hr, hj⟩ := hrel
    have Hpre := Lib.hid hpre
    have Hm := Lib.hid hm
    have Hlen := Lib.hid hlen
    have Hm64 := Lib.hid hm64
    clear hpre hm hlen hm64
    have hc := hr.cellv (i := 0) (v := .int .u64 (m : Int)) rfl
    have hf := hr.free 0
    have hlen' : pre.length < 10 := by have := Hlen.out; omega
    by_cases h128 : m < 128
    · obtain ⟨c, hcd⟩ : ∃ c : UInt8, c = UInt8.ofNat m := ⟨_, rfl⟩
      have hx : ((c.toNat : Nat) : Int) = (m : Int) := by rw [hcd, ← u8_low]; omega
      obtain ⟨fn, tmps, assign, body, hy, hR⟩ := hY _ c _ hj hlen'
      rw [hx] at hy
      have HR := Lib.hid hR
      have Hcd := Lib.hid hcd
      have hlt : ((m : Nat) : Int) < 128 := by omega
      clear hR hcd hx h128
      gi_wp2
      refine ⟨rfl, HR.out.mono ?_⟩
      rintro e W' (⟨rfl, hj3, hk3, hs3⟩ | ⟨rfl, hjx⟩)
      · gi_wp2
        go_end0
        refine ⟨⟨_, rfl⟩, .inl ⟨_, ?_, hj3⟩⟩
        rw [← Hpre.out, lebF_small f m (by omega), Hcd.out]
      · gi_wp2
        go_end0
        exact ⟨⟨_, rfl⟩, .inr ⟨_, trivial, hjx⟩⟩
    · obtain ⟨c, hcd⟩ : ∃ c : UInt8, c = UInt8.ofNat (128 + m % 128) := ⟨_, rfl⟩
      have hx : ((c.toNat : Nat) : Int) = bits .or .u8 ((m : Int) % 256) 128 := by
        have e : (m : Int) % 256 = ((m % 256 : Nat) : Int) := by omega
        rw [hcd, e, or_more]
      obtain ⟨fn, tmps, assign, body, hy, hR⟩ := hY _ c _ hj hlen'
      rw [hx] at hy
      have HR := Lib.hid hR
      have Hcd := Lib.hid hcd
      have hlt : 128 ≤ ((m : Nat) : Int) := by omega
      clear hR hcd hx h128
      gi_wp2
      have hbig := lebF_big f m (by omega)
      have hf1 : 0 < f := by
        rcases Nat.eq_zero_or_pos f with rfl | h0
        · have := Hm.out; simp at this; omega
        · exact h0
      obtain ⟨f, rfl⟩ : ∃ f', f = f' + 1 := ⟨f - 1, by omega⟩
      have Hbig := Lib.hid hbig
      clear hbig hf1
      refine ⟨rfl, HR.out.mono ?_⟩
      rintro e W' (⟨rfl, hj3, hk3, hs3⟩ | ⟨rfl, hjx⟩)
      · have hr3 : Row W' bs 39 #[.int .u64 m] := hk3.trans hr
        have hc3 := hr3.cellv (i := 0) (v := .int .u64 (m : Int)) rfl
        have hf3 := hr3.free 0
        have Hj3 := Lib.hid hj3
        clear hj3 hk3 hj hy hf hc
        gi_wp2
        have hdiv : (m : Int) / 128 = ((m / 128 : Nat) : Int) := by omega
        go_roundw
        case rel =>
          refine ⟨f, m / 128, pre ++ [c], ?_, ?_, ?_, ?_, ?_, ?_⟩
          · rw [← Hpre.out, Hbig.out, Hcd.out]; simp
          · have := Hm.out; rw [Nat.pow_succ] at this; omega
          · have := Hm64.out; omega
          · have := Hlen.out; simp; omega
          · rw [← hdiv]; exact hr3.set 0 _
          · exact hJ _ _ _ (some bs) Hj3.out (grownBy_setCell' _ _ _) (fun r e => by cases e; exact .inl rfl)
        case measure =>
          have h1 := (hr3.set 0 (.int .u64 ((m : Int) / 128))).cell 0
          have h2 := hr.cell 0
          unfold natAt
          rw [h1, h2]
          simp; omega
      · clear hj hy hc hf hr
        gi_wp2
        refine bodyPost_ret (results_none rfl _ _ _) rfl ?_
        exact ⟨⟨_, rfl⟩, .inr ⟨_, trivial, hjx⟩⟩
end Go.Proofs.Ytkdcelnlhhodlaa
