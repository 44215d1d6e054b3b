/- The walk over the law ShaSteps. -/
import Derived.Test.YtnlffbjjndmjgaaShaW
namespace Go.Proofs.Ytnlffbjjndmjgaa
open Go.RowKit Go.Deep

theorem wpList_load_rowG {P : Program} {ops : Array Oper} {rest : List Oper} {o : Oper} {a : Act} {w : World} {Q : Exit → Act → World → Prop} (hw : Region.wanted o (yielded ops a.tmps) = true) (ty : TypeId) (x : Operand) (ho : o.op = .load ty x)
    (g : Nat) (hx : a.eval x = .pointer (some ⟨g, 0, none⟩)) (t : TypeId) (cs : Array Value) (fr : Nat × Nat) (d : TypeDesc) (hg : w.heap[g]? = some (.cells cs t fr))
    (hu : P.underlying ty = some d) (hd : (match d with | .struct _ | .array _ _ => true | _ => false) = true) (hi : (P.info? ty).map (·.size) = some cs.size)
    (h : wpList P ops Q rest (a.put o.dst (.agg cs)) w) : wpList P ops Q (o :: rest) a w :=
  BigFrame.wpList_want hw fun _ hK => wp_load_row ty x ho g hx t cs fr d hg hu hd hi (hK _ _ h)

/-- The first j of l's bytes, then zeros, n in all. -/
def part (l : List UInt8) (n j : Nat) : List UInt8 := l.take j ++ List.replicate (n - j) 0
theorem part_set (l : List UInt8) (n j : Nat) (x : UInt8) (hl : l.length = n) (hj : j < n) (hx : l[j]? = some x) :
    (u8s (part l n j)).toArray.setIfInBounds j (.int .u8 (x.toNat : Int)) = (u8s (part l n (j + 1))).toArray := by
  have e : (part l n j).set j x = part l n (j + 1) := by
    unfold part
    have hlen : (l.take j).length = j := by rw [List.length_take]; omega
    rw [List.set_append_right _ _ (by omega), hlen, Nat.sub_self, show n - j = (n - (j + 1)) + 1 from by omega, List.replicate_succ, List.set_cons_zero]
    have hj' : j < l.length := by omega
    rw [List.take_succ_eq_append_getElem hj']
    rw [List.getElem?_eq_getElem hj'] at hx
    injection hx with hx
    rw [hx]; simp
  rw [← e]; simp [u8s, List.map_set]
theorem part_done (l : List UInt8) (n : Nat) (hl : l.length = n) : part l n n = l := by
  unfold part; rw [Nat.sub_self, ← hl, List.take_length]; simp
theorem part_len (l : List UInt8) (n j : Nat) (hl : l.length = n) (hj : j ≤ n) : (part l n j).length = n := by
  unfold part; rw [List.length_append, List.length_take, List.length_replicate]; omega
theorem hash_take (s : List UInt8) (k : Nat) (c : List UInt8) (hc : c = (s.drop (64 * k)).take 64) (h : 64 * (k + 1) ≤ s.length) :
    blockL (hashFold startL ((chunks (s.length / 64) s).take k)) c = hashFold startL ((chunks (s.length / 64) s).take (k + 1)) := by
  have hl : c.length = 64 := by rw [hc]; simp; omega
  have := chunks_take s k ⟨c, hl⟩ hc h
  rw [this, hashFold, hashFold, List.foldl_append]; rfl

set_option maxHeartbeats 4000000 in
theorem shaSteps_walk (s : ByteArray) (w : World) : Calls Try.prog 6 #[.string s] w fun e w' => e = .returned (.bool true) ∧ Below w.heap.size w w' := by
  by_cases hs : 500 < s.size
  · go_enter Try.func6, Try.ntmps6
    go_wp2_with fail
    refine (works_any w).mono ?_
    rintro e w1 ⟨rfl, b1⟩
    go_wp2_with fail
    go_ret
    exact ⟨rfl, b1⟩
  have hs' : s.size ≤ 500 := by omega
  have hpl : (padT s.size).length ≤ 72 := by rw [padT_len]; exact (padN_bd _).2
  have hql : (s.data.toList ++ padT s.data.toList.length).length % 64 = 0 := by
    rw [List.length_append, padT_len]; unfold padN; omega
  obtain ⟨q, hqe⟩ : ∃ q : ByteArray, q = s ++ (⟨(padT s.size).toArray⟩ : ByteArray) := ⟨_, rfl⟩
  have hq : q.data.toList = s.data.toList ++ padT s.data.toList.length := by rw [hqe]; simp
  have hqs : q.size ≤ 4168 := by rw [hqe, ByteArray.size_append, size_mk (padT s.size)]; omega
  have hqm : q.size % 64 = 0 := by
    have := hql
    rw [← hq] at this; simpa using this
  have Hq := Lib.hid hq
  have Hqe := Lib.hid hqe
  have Hqm := Lib.hid hqm
  clear hq hqe hqm hql
  go_enter Try.func6, Try.ntmps6
  go_wp2_with fail
  refine (works_any w).mono ?_
  rintro e w1 ⟨rfl, b1⟩
  go_wp2_with fail
  refine (pad_any (s.size : Int) (by omega) (by omega) w1).mono ?_
  rw [Int.toNat_natCast]
  rintro e w2 ⟨rfl, b2⟩
  replace b2 := b1.trans (b2.mono b1.size)
  clear b1
  have hm64 : (((s.size : Int) + ((padT s.size).length : Int)) % 64 != 0) = false := by
    have h1 := Hqm.out
    rw [Hqe.out, ByteArray.size_append, size_mk (padT s.size)] at h1
    simp; omega
  go_wp2_with fail
  rw [← Hqe.out]
  refine (start_any w2).mono ?_
  rintro e w3 ⟨rfl, b3⟩
  replace b3 := b2.trans (b3.mono b2.size)
  have g3 := b3.size
  clear b2 hm64 hpl
  go_wp2_with (refine wpList_store_row rfl 29 _ _ rfl w3.heap.size (wds startL).toArray rfl rfl 29 _ (heap_alloc_new w3 _) (by kernel_rfl) rfl (wds_one _) ?_; rw [World.setRow_alloc_new])
  have rh := Row.new w3 29 (wds startL).toArray
  have b4 := b3.alloc g3 (.cells (wds startL).toArray 29)
  obtain ⟨G, hG⟩ : ∃ G, G = w3.heap.size := ⟨_, rfl⟩
  rw [← hG] at rh g3 ⊢
  clear hG
  generalize w3.alloc (.cells (wds startL).toArray 29) = w4 at rh b4 ⊢
  clear b3
  have hqs0 : ((q.size : Nat) : Int) ≤ 4168 := by omega
  go_loopw [6] (fun p wr => ∃ k p' : Nat, Hid (p' = 64 * k) ∧ p = .int .i64 (p' : Int) ∧ p' ≤ q.size ∧ Row wr G 29 (wds (hashFold startL ((chunks (q.data.toList.length / 64) q.data.toList).take k))).toArray ∧ Below w.heap.size w wr) (fun p _ => (q.size - intOf p).toNat)
  case atStart => exact ⟨0, 0, rfl, by simp, by omega, rh, b4⟩
  case round =>
    obtain ⟨k, p, Hp, rfl, hp, hr, hb⟩ := hrel
    by_cases hpq : p + 64 ≤ q.size
    · have hpq' : (p : Int) + 64 ≤ (q.size : Int) := by omega
      obtain ⟨c, hc⟩ : ∃ c, c = (q.data.toList.drop p).take 64 := ⟨_, rfl⟩
      have hcl : c.length = 64 := by rw [hc]; simp; omega
      have hat : ∀ j, j < 64 → ∃ h : p + j < q.size, c[j]? = some q[p + j] := fun j hj => ⟨by omega, by
        rw [hc, List.getElem?_take_of_lt hj, List.getElem?_drop, List.getElem?_eq_getElem (by simp; omega)]; rfl⟩
      have Hc := Lib.hid hc
      have Hcl := Lib.hid hcl
      have Hat := Lib.hid hat
      clear hc hcl hat
      go_wp2
      obtain ⟨wo, rfl⟩ : ∃ wo : World, wo = wr := ⟨_, rfl⟩
      have gB : w.heap.size ≤ wo.heap.size := hb.size
      have hG := hr.lt
      go_loopw [8] (fun i wi => ∃ j : Nat, i = .int .i64 (j : Int) ∧ j ≤ 64 ∧ Row wi wo.heap.size 27 (u8s (part c 64 j)).toArray ∧ Below wo.heap.size wo wi) (fun i _ => (64 - intOf i).toNat)
      case atStart => exact ⟨0, by simp, by omega, Row.new _ _ _, (Below.refl _ _).alloc (Nat.le_refl _) _⟩
      case round =>
        obtain ⟨j, rfl, hj, hrb, hbb⟩ := hrel
        by_cases hj64 : j < 64
        · obtain ⟨hlt, hx⟩ := Hat.out j hj64
          have cb := hrb.cellv (u8s_at (part c 64 j) j (by rw [part_len _ _ _ Hcl.out (by omega)]; exact hj64))
          have fb := hrb.free j
          have Hx := Lib.hid hx
          clear hx
          have hlt' : (p : Int) + (j : Int) < (q.size : Int) := by omega
          go_wp2
          go_roundw
          case rel => exact ⟨j + 1, by go_num, by omega, by rw [← part_set c 64 j _ Hcl.out hj64 Hx.out]; exact hrb.set _ _, hbb.setCell (p := ⟨wo.heap.size, j, none⟩) (Nat.le_refl _) _⟩
          case measure => simp [intOf]; omega
        · obtain rfl : j = 64 := by omega
          rw [part_done c 64 Hcl.out] at hrb
          have hrg := hr.below hbb hG
          have hHl : (hashFold startL ((chunks (q.data.toList.length / 64) q.data.toList).take k)).length = 8 := hashFold_len _ _ rfl
          obtain ⟨H, hH⟩ : ∃ H, H = hashFold startL ((chunks (q.data.toList.length / 64) q.data.toList).take k) := ⟨_, rfl⟩
          rw [← hH] at hrg hHl
          have hH2 : blockL H c = hashFold startL ((chunks (q.data.toList.length / 64) q.data.toList).take (k + 1)) := by
            rw [hH]; exact hash_take _ k c (by rw [Hc.out, Hp.out]) (by have := Hp.out; have : q.data.toList.length = q.size := by simp
                                                                        omega)
          have HHl := Lib.hid hHl
          have HH2 := Lib.hid hH2
          have Hbsz := Lib.hid (u8s_size c Hcl.out)
          clear hH hHl hH2 hr
          rw [show ((64 : Nat) : Int) = 64 from rfl]
          go_wp2_with (first
            | (refine wpList_load_row rfl 29 _ rfl G rfl 29 (wds H).toArray (0, 0) _ hrg Try.underlying29 rfl (by rw [wds_size _ HHl.out]; kernel_rfl) ?_)
            | (refine wpList_load_row rfl 27 _ rfl wo.heap.size rfl 27 (u8s c).toArray (0, 0) _ hrb Try.underlying27 rfl (by rw [Hbsz.out]; kernel_rfl) ?_))
          refine (block_any H HHl.out c Hcl.out wr).mono ?_
          rintro e wj ⟨rfl, bj⟩
          have hGj := hrg.below bj hrg.lt
          have hn : (blockL H c).length = 8 := addTo_len _ _ HHl.out 8
          have Hn := Lib.hid hn
          clear hn
          go_wp2_with (refine wpList_store_row rfl 29 _ _ rfl G (wds (blockL H c)).toArray rfl rfl 29 _ hGj (by rw [wds_size _ Hn.out]; kernel_rfl) (by rw [wds_size _ Hn.out, wds_size _ HHl.out]) (wds_one _) ?_)
          have hr2 := hGj.setRow (wds (blockL H c)).toArray
          have hb2 := below_setRow_ (hb.trans ((hbb.trans (bj.mono hbb.size)).mono gB)) g3 (wds (blockL H c)).toArray
          rw [HH2.out] at hr2 hb2 ⊢
          go_roundw
          case rel => exact ⟨k + 1, p + 64, by rw [Hp.out]; rfl, by go_num, by omega, hr2, hb2⟩
          case measure => simp [intOf]; omega
    · have hpe : p = q.size := by have := Hp.out; have := Hqm.out; omega
      obtain rfl := hpe
      have hkl : k = q.data.toList.length / 64 := by
        have := Hp.out
        have : q.data.toList.length = q.size := by simp
        omega
      have hHl : (hashFold startL ((chunks (q.data.toList.length / 64) q.data.toList).take k)).length = 8 := hashFold_len _ _ rfl
      have hfin : bytesL (hashFold startL ((chunks (q.data.toList.length / 64) q.data.toList).take k)) = sumL s.data.toList := by
        rw [hkl, List.take_of_length_le (by rw [chunks_len _ _ (Nat.mul_div_le _ _)]; exact Nat.le_refl _), Hq.out]; rfl
      obtain ⟨H, hH⟩ : ∃ H, H = hashFold startL ((chunks (q.data.toList.length / 64) q.data.toList).take k) := ⟨_, rfl⟩
      rw [← hH] at hr hHl hfin
      have HHl := Lib.hid hHl
      have Hfin := Lib.hid hfin
      clear hH hHl hfin hkl
      have hpq' : ¬ ((q.size : Int) + 64 ≤ (q.size : Int)) := by omega
      go_wp2_with (refine wpList_load_rowG rfl 29 _ rfl G rfl 29 (wds H).toArray (0, 0) _ hr Try.underlying29 rfl (by rw [wds_size _ HHl.out]; kernel_rfl) ?_)
      refine (bytes_any H HHl.out wr).mono ?_
      rintro e w5 ⟨rfl, b5⟩
      rw [Hfin.out]
      go_wp2_with fail
      refine (sum_any s (by omega) w5).mono ?_
      rintro e w6 ⟨rfl, b6⟩
      go_wp2_with fail
      go_ret
      exact ⟨rfl, hb.trans ((b5.trans (b6.mono b5.size)).mono hb.size)⟩

end Go.Proofs.Ytnlffbjjndmjgaa
