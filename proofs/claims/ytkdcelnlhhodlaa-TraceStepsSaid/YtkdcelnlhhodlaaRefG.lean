/- Walks over the reference: Sum. -/
import Derived.Test.YtkdcelnlhhodlaaRefD
import Derived.Test.YtkdcelnlhhodlaaRefF
import Derived.Test.YtkdcelnlhhodlaaShaM
import Derived.Test.YtkdcelnlhhodlaaGen
namespace Go.Proofs.Ytkdcelnlhhodlaa
open Go.RowKit Go.Deep

set_option maxHeartbeats 4000000 in
theorem refSum_any (s : ByteArray) (hs' : s.size ≤ 4096) (w : World) :
    Calls Try.prog 20 #[.string s] w fun e w' => e = .returned (.string ⟨(sumL s.data.toList).toArray⟩) ∧ Below w.heap.size w w' := by
  have hpl : (padT s.size).length ≤ 72 := by rw [padT_len]; exact (padN_bd _).2
  have hql : (s.data.toList ++ padT s.data.toList.length).length % 64 = 0 := by
    rw [List.length_append, padT_len]; unfold padN; omega
  obtain ⟨q, hqe⟩ : ∃ q : ByteArray, q = s ++ (⟨(padT s.size).toArray⟩ : ByteArray) := ⟨_, rfl⟩
  have hq : q.data.toList = s.data.toList ++ padT s.data.toList.length := by rw [hqe]; simp
  have hqs : q.size ≤ 4168 := by rw [hqe, ByteArray.size_append, size_mk (padT s.size)]; omega
  have hqm : q.size % 64 = 0 := by
    have := hql
    rw [← hq] at this; simpa using this
  have Hq := Lib.hid hq
  have Hqe := Lib.hid hqe
  have Hqm := Lib.hid hqm
  clear hq hqe hqm hql
  go_enter Try.func20, Try.ntmps20
  go_wp2_with fail
  refine (refStart_any w).mono ?_
  rintro e w1 ⟨rfl, b1⟩
  go_wp2_with (refine at_alloc _ rfl ?_)
  refine Stop.to ?_
  refine wpList_alloc_gen rfl 48 rfl (.agg (wds (List.replicate 8 0)).toArray) _ (by kernel_rfl) rfl (fun G w2 l2 r2 b2 => ?_)
  go_wp2_with (refine at_store _ _ _ rfl ?_)
  refine Stop.to ?_
  refine wpList_store_gen rfl 48 _ _ rfl G (wds startL).toArray rfl rfl 48 _ r2 (by kernel_rfl) rfl (wds_one _) (fun w3 r3 o3 => ?_)
  have g3 : w.heap.size ≤ G := Nat.le_trans b1.size l2
  have b3 : Below w.heap.size w w3 := below_only ((b1.trans ((b2.mono l2).mono b1.size))) o3 g3
  clear b1 b2 l2 o3 r2
  have gl := r3.lt
  go_wp2_with fail
  refine (refPad_any (s.size : Int) (by omega) (by omega) w3).mono ?_
  rw [Int.toNat_natCast]
  rintro e w4 ⟨rfl, b4⟩
  have rh := r3.below b4 gl
  replace b4 := b3.trans (b4.mono b3.size)
  clear b3 r3 gl
  go_wp2_with fail
  rw [← Hqe.out]
  have hqs0 : ((q.size : Nat) : Int) ≤ 4168 := by omega
  go_loopw [4] (fun p wr => ∃ k p' : Nat, Hid (p' = 64 * k) ∧ p = .int .i64 (p' : Int) ∧ p' ≤ q.size ∧ Row wr G 48 (wds (hashFold startL ((chunks (q.data.toList.length / 64) q.data.toList).take k))).toArray ∧ Below w.heap.size w wr) (fun p _ => (q.size - intOf p).toNat)
  case atStart => exact ⟨0, 0, rfl, by simp, by omega, rh, b4⟩
  case round =>
    obtain ⟨k, p, Hp, rfl, hp, hr, hb⟩ := hrel
    by_cases hpq : p + 64 ≤ q.size
    · have hpq' : (p : Int) + 64 ≤ (q.size : Int) := by omega
      obtain ⟨c, hc⟩ : ∃ c, c = (q.data.toList.drop p).take 64 := ⟨_, rfl⟩
      have hcl : c.length = 64 := by rw [hc]; simp; omega
      have hat : ∀ j, j < 64 → ∃ h : p + j < q.size, c[j]? = some q[p + j] := fun j hj => ⟨by omega, by
        rw [hc, List.getElem?_take_of_lt hj, List.getElem?_drop, List.getElem?_eq_getElem (by simp; omega)]; rfl⟩
      have Hc := Lib.hid hc
      have Hcl := Lib.hid hcl
      have Hat := Lib.hid hat
      clear hc hcl hat
      go_wp2
      obtain ⟨wo, rfl⟩ : ∃ wo : World, wo = wr := ⟨_, rfl⟩
      have gB : w.heap.size ≤ wo.heap.size := hb.size
      have hG := hr.lt
      go_loopw [6] (fun i wi => ∃ j : Nat, i = .int .i64 (j : Int) ∧ j ≤ 64 ∧ Row wi wo.heap.size 55 (u8s (part c 64 j)).toArray ∧ Below wo.heap.size wo wi) (fun i _ => (64 - intOf i).toNat)
      case atStart => exact ⟨0, by simp, by omega, Row.new _ _ _, (Below.refl _ _).alloc (Nat.le_refl _) _⟩
      case round =>
        obtain ⟨j, rfl, hj, hrb, hbb⟩ := hrel
        by_cases hj64 : j < 64
        · obtain ⟨hlt, hx⟩ := Hat.out j hj64
          have cb := hrb.cellv (u8s_at (part c 64 j) j (by rw [part_len _ _ _ Hcl.out (by omega)]; exact hj64))
          have fb := hrb.free j
          have Hx := Lib.hid hx
          clear hx
          have hlt' : (p : Int) + (j : Int) < (q.size : Int) := by omega
          go_wp2
          go_roundw
          case rel => exact ⟨j + 1, by go_num, by omega, by rw [← part_set c 64 j _ Hcl.out hj64 Hx.out]; exact hrb.set _ _, hbb.setCell (p := ⟨wo.heap.size, j, none⟩) (Nat.le_refl _) _⟩
          case measure => simp [intOf]; omega
        · obtain rfl : j = 64 := by omega
          rw [part_done c 64 Hcl.out] at hrb
          have hrg := hr.below hbb hG
          have hHl : (hashFold startL ((chunks (q.data.toList.length / 64) q.data.toList).take k)).length = 8 := hashFold_len _ _ rfl
          obtain ⟨H, hH⟩ : ∃ H, H = hashFold startL ((chunks (q.data.toList.length / 64) q.data.toList).take k) := ⟨_, rfl⟩
          rw [← hH] at hrg hHl
          have hH2 : blockL H c = hashFold startL ((chunks (q.data.toList.length / 64) q.data.toList).take (k + 1)) := by
            rw [hH]; exact hash_take _ k c (by rw [Hc.out, Hp.out]) (by have := Hp.out; have : q.data.toList.length = q.size := by simp
                                                                        omega)
          have HHl := Lib.hid hHl
          have HH2 := Lib.hid hH2
          have Hbsz := Lib.hid (u8s_size c Hcl.out)
          clear hH hHl hH2 hr
          rw [show ((64 : Nat) : Int) = 64 from rfl]
          go_wp2_with (first
            | (refine wpList_load_row rfl 48 _ rfl G rfl 48 (wds H).toArray (0, 0) _ hrg Try.underlying48 rfl (by rw [wds_size _ HHl.out]; kernel_rfl) ?_)
            | (refine wpList_load_row rfl 55 _ rfl wo.heap.size rfl 55 (u8s c).toArray (0, 0) _ hrb Try.underlying55 rfl (by rw [Hbsz.out]; kernel_rfl) ?_))
          refine (refBlock_any H HHl.out c Hcl.out wr).mono ?_
          rintro e wj ⟨rfl, bj⟩
          have hGj := hrg.below bj hrg.lt
          have hn : (blockL H c).length = 8 := addTo_len _ _ HHl.out 8
          have Hn := Lib.hid hn
          clear hn
          go_wp2_with (refine wpList_store_row rfl 48 _ _ rfl G (wds (blockL H c)).toArray rfl rfl 48 _ hGj (by rw [wds_size _ Hn.out]; kernel_rfl) (by rw [wds_size _ Hn.out, wds_size _ HHl.out]) (wds_one _) ?_)
          have hr2 := hGj.setRow (wds (blockL H c)).toArray
          have hb2 := below_setRow_ (hb.trans ((hbb.trans (bj.mono hbb.size)).mono gB)) g3 (wds (blockL H c)).toArray
          rw [HH2.out] at hr2 hb2 ⊢
          go_roundw
          case rel => exact ⟨k + 1, p + 64, by rw [Hp.out]; rfl, by go_num, by omega, hr2, hb2⟩
          case measure => simp [intOf]; omega
    · have hpe : p = q.size := by have := Hp.out; have := Hqm.out; omega
      obtain rfl := hpe
      have hkl : k = q.data.toList.length / 64 := by
        have := Hp.out
        have : q.data.toList.length = q.size := by simp
        omega
      have hHl : (hashFold startL ((chunks (q.data.toList.length / 64) q.data.toList).take k)).length = 8 := hashFold_len _ _ rfl
      have hfin : bytesL (hashFold startL ((chunks (q.data.toList.length / 64) q.data.toList).take k)) = sumL s.data.toList := by
        rw [hkl, List.take_of_length_le (by rw [chunks_len _ _ (Nat.mul_div_le _ _)]; exact Nat.le_refl _), Hq.out]; rfl
      obtain ⟨H, hH⟩ : ∃ H, H = hashFold startL ((chunks (q.data.toList.length / 64) q.data.toList).take k) := ⟨_, rfl⟩
      rw [← hH] at hr hHl hfin
      have HHl := Lib.hid hHl
      have Hfin := Lib.hid hfin
      clear hH hHl hfin hkl
      have hpq' : ¬ ((q.size : Int) + 64 ≤ (q.size : Int)) := by omega
      go_wp2_with (refine wpList_load_row rfl 48 _ rfl G rfl 48 (wds H).toArray (0, 0) _ hr Try.underlying48 rfl (by rw [wds_size _ HHl.out]; kernel_rfl) ?_)
      refine (refBytes_any H HHl.out wr).mono ?_
      rintro e w5 ⟨rfl, b5⟩
      rw [Hfin.out]
      go_wp2_with fail
      go_ret
      exact ⟨rfl, hb.trans (b5.mono hb.size)⟩

end Go.Proofs.Ytkdcelnlhhodlaa
