/- The walks over package trace and its reference: Digest; and the laws' works. -/
import Derived.Test.YtkdcelnlhhodlaaTrB
import Derived.Test.YtkdcelnlhhodlaaTrR
import Derived.Test.YtkdcelnlhhodlaaShaI
import Derived.Test.YtkdcelnlhhodlaaRefG
namespace Go.Proofs.Ytkdcelnlhhodlaa
open Go.RowKit Go.Deep

def digL (r : RunV) : List UInt8 := sumL (traceL r.kind r.value r.evs)
set_option maxHeartbeats 1000000 in
theorem trDigest_any (r : RunV) (w : World) (hok : r.ok w) (hl : r.evs.length ≤ 100) :
    Calls Try.prog 9 #[r.val] w fun e w' => e = .returned (.string ⟨(digL r).toArray⟩) ∧ Below w.heap.size w w' := by
  have Hok := Lib.hid hok
  have Hl := Lib.hid hl
  clear hok hl
  go_enter Try.func9, Try.ntmps9
  rw [show r.val = .agg r.cells from rfl]
  go_wp2_with (refine at_box _ _ rfl ?_)
  refine Stop.to ?_
  refine wpList_box_gen rfl 26 _ rfl r.cells rfl ?_
  intro G w1 hG r1 b1
  have b1 := (Below.refl w.heap.size w).trans (b1.mono hG)
  have hok1 : r.ok w1 := ⟨Hok.out.kind, Hok.out.value, Hok.out.steps, Hok.out.len, Hok.out.cap, Hok.out.nil, Hok.out.reads.go b1, Hok.out.evs⟩
  have Hok1 := Lib.hid hok1
  clear hok1
  go_wp2_with (refine wpList_load_row rfl 26 _ rfl G rfl 26 r.cells (0, 0) _ r1 Try.underlying26 rfl (by kernel_rfl) ?_)
  refine (trBytes_any r w1 Hok1.out (by have := Hl.out; omega)).mono ?_
  rintro e w2 ⟨rfl, b2⟩
  have b2 := b1.trans (b2.mono b1.size)
  go_wp2_with fail
  refine (sum_any ⟨(traceL r.kind r.value r.evs).toArray⟩ (by rw [size_mk]; have := traceL_len r.kind r.value r.evs; have := Hl.out; omega) w2).mono ?_
  rintro e w3 ⟨rfl, b3⟩
  go_wp2_with fail
  go_ret
  exact ⟨rfl, b2.trans (b3.mono b2.size)⟩

set_option maxHeartbeats 1000000 in
theorem refTrDigest_any (r : RunV) (w : World) (hok : r.ok w) (hl : r.evs.length ≤ 100) :
    Calls Try.prog 10 #[r.val] w fun e w' => e = .returned (.string ⟨(digL r).toArray⟩) ∧ Below w.heap.size w w' := by
  have Hok := Lib.hid hok
  have Hl := Lib.hid hl
  clear hok hl
  go_enter Try.func10, Try.ntmps10
  rw [show r.val = .agg r.cells from rfl]
  go_wp2_with (refine at_box _ _ rfl ?_)
  refine Stop.to ?_
  refine wpList_box_gen rfl 26 _ rfl r.cells rfl ?_
  intro G w1 hG r1 b1
  have b1 := (Below.refl w.heap.size w).trans (b1.mono hG)
  have hok1 : r.ok w1 := ⟨Hok.out.kind, Hok.out.value, Hok.out.steps, Hok.out.len, Hok.out.cap, Hok.out.nil, Hok.out.reads.go b1, Hok.out.evs⟩
  have Hok1 := Lib.hid hok1
  clear hok1
  go_wp2_with (refine wpList_load_row rfl 26 _ rfl G rfl 26 r.cells (0, 0) _ r1 Try.underlying26 rfl (by kernel_rfl) ?_)
  refine (refTrBytes_any r w1 Hok1.out (by have := Hl.out; omega)).mono ?_
  rintro e w2 ⟨rfl, b2⟩
  have b2 := b1.trans (b2.mono b1.size)
  go_wp2_with fail
  refine (refSum_any ⟨(traceL r.kind r.value r.evs).toArray⟩ (by rw [size_mk]; have := traceL_len r.kind r.value r.evs; have := Hl.out; omega) w2).mono ?_
  rintro e w3 ⟨rfl, b3⟩
  go_wp2_with fail
  go_ret
  exact ⟨rfl, b2.trans (b3.mono b2.size)⟩

theorem sumL_len (l : List UInt8) : (sumL l).length = 32 := by
  rw [sumL, bytesL_len, hashFold_len _ _ rfl]
theorem digL_len (r : RunV) : (digL r).length = 32 := sumL_len _
theorem RunV.ok.ok_go {r : RunV} {w w' : World} (h : r.ok w) (b : Below w.heap.size w w') : r.ok w' :=
  ⟨h.kind, h.value, h.steps, h.len, h.cap, h.nil, h.reads.go b, h.evs⟩
instance St.runok {r : RunV} : St (fun W => r.ok W) := ⟨fun h b => h.ok_go b⟩

/-- The document's example. -/
def run3 : RunV := { kind := 0, value := 3, steps := 7, addr := none, cap := 0, evs := [] }
theorem InI_03 : InI 0 ∧ InI 3 ∧ InI 7 := by unfold InI; omega
theorem run3_ok (w : World) : run3.ok w := ⟨InI_03.1, InI_03.2.1, InI_03.2.2, Nat.le_refl _, by decide, fun _ => rfl, Rd.nil _ _, fun _ h => by simp [run3] at h⟩
theorem run3_bytes : traceL 0 3 [] = [0, 0, 6] := by decide
theorem zero_run {w : World} : (zeroValue 26).run Try.prog w = .ok (.agg #[.int .i64 0, .int .i64 0, .int .i64 0, .slice none 0 0]) w := by kernel_rfl


def run3C : Array Value := #[.int .i64 0, .int .i64 3, .int .i64 7, .slice none 0 0]
def dig3 : List UInt8 := sumL [0, 0, 6]
theorem bytes3 (w : World) : Calls Try.prog 7 #[.agg run3C] w fun e w' => e = .returned (.string ⟨#[0, 0, 6]⟩) ∧ Below w.heap.size w w' := by
  have h := trBytes_any run3 w (run3_ok w) (Nat.zero_le _)
  rwa [show traceL run3.kind run3.value run3.evs = [0, 0, 6] from run3_bytes] at h
theorem digest3 (w : World) : Calls Try.prog 9 #[.agg run3C] w fun e w' => e = .returned (.string ⟨dig3.toArray⟩) ∧ Below w.heap.size w w' := by
  have h := trDigest_any run3 w (run3_ok w) (Nat.zero_le _)
  rwa [show digL run3 = dig3 from by unfold digL; rw [show traceL run3.kind run3.value run3.evs = [0, 0, 6] from run3_bytes]; rfl] at h
theorem sum3 (w : World) : Calls Try.prog 11 #[.string ⟨#[0, 0, 6]⟩] w fun e w' => e = .returned (.string ⟨dig3.toArray⟩) ∧ Below w.heap.size w w' := sum_any ⟨#[0, 0, 6]⟩ (by decide) w

set_option maxHeartbeats 2000000 in
theorem trWorks_any (w : World) : Calls Try.prog 6 #[] w fun e w' => e = .returned (.bool true) ∧ Below w.heap.size w w' := by
  go_enter Try.func6, Try.ntmps6
  go_wp2_with (refine at_alloc _ rfl ?_)
  refine Stop.to ?_
  refine wpList_alloc_gen rfl 26 rfl _ _ zero_run rfl ?_
  intro g w1 hg r1 b1
  go_wp2_with (refine at_store _ _ _ rfl ?_)
  refine Stop.to ?_
  refine wpList_store_gen rfl 26 _ _ rfl g run3C rfl rfl 26 _ r1 (by kernel_rfl) rfl (by kernel_rfl) ?_
  intro w2 r2 o2
  have b2 := ((Below.refl w.heap.size w).trans (b1.mono hg)).trans (o2.below hg)
  have lg := r2.lt
  clear o2 r1 b1
  go_wp2_with (refine wpList_load_row rfl 26 _ rfl g rfl 26 run3C (0, 0) _ r2 Try.underlying26 rfl (by kernel_rfl) ?_)
  refine (bytes3 w2).mono ?_
  rintro e w3 ⟨rfl, b3⟩
  have r3 := r2.below b3 r2.lt
  have b3 := b2.trans (b3.mono b2.size)
  clear r2 b2
  go_wp2_with (refine wpList_load_rowG rfl 26 _ rfl g rfl 26 run3C (0, 0) _ r3 Try.underlying26 rfl (by kernel_rfl) ?_)
  refine (digest3 w3).mono ?_
  rintro e w4 ⟨rfl, b4⟩
  have r4 := r3.below b4 r3.lt
  have b4 := b3.trans (b4.mono b3.size)
  clear r3 b3
  go_wp2_with fail
  refine (sum3 w4).mono ?_
  rintro e w5 ⟨rfl, b5⟩
  have r5 := r4.below b5 r4.lt
  have b5 := b4.trans (b5.mono b4.size)
  clear r4 b4
  go_wp2_with (refine wpList_load_rowG rfl 26 _ rfl g rfl 26 run3C (0, 0) _ r5 Try.underlying26 rfl (by kernel_rfl) ?_)
  refine (digest3 w5).mono ?_
  rintro e w6 ⟨rfl, b6⟩
  have b6 := b5.trans (b6.mono b5.size)
  have hlen : (⟨dig3.toArray⟩ : ByteArray).size = 32 := by rw [size_mk]; exact sumL_len _
  have hlen' : dig3.length = 32 := sumL_len _
  clear r5 b5
  go_wp2_with fail
  go_ret
  exact ⟨rfl, b6⟩
end Go.Proofs.Ytkdcelnlhhodlaa
