/- The walk over package sha: Sum. -/
import Derived.Test.YtkdcelnlhhodlaaShaF
import Derived.Test.YtkdcelnlhhodlaaShaH
import Derived.Test.YtkdcelnlhhodlaaShaA
import Derived.Laws.Cover3
namespace Go.Proofs.Ytkdcelnlhhodlaa
open Go.RowKit Go.Deep
attribute [local go_sem] Oper.semAt_some

theorem blocks_any (s : ByteArray) (w : World) :
    Calls Try.prog 22 #[.string s] w fun e w' => e = .returned (.func (.func 35) #[] #[.pointer (some ⟨w.heap.size, 0, none⟩)]) ∧ w.alloc (.cells #[.string s] 9) = w' := by
  go_enter Try.func22, Try.ntmps22
  go_wp2
  go_ret
  exact ⟨rfl, rfl⟩

def hashFold (H : List (BitVec 32)) (l : List Chunk) : List (BitVec 32) := l.foldl (fun H c => blockL H c.1) H
def sumL (s : List UInt8) : List UInt8 := bytesL (hashFold startL (chunks ((s ++ padT s.length).length / 64) (s ++ padT s.length)))

theorem hashFold_len : ∀ (l : List Chunk) (H : List (BitVec 32)), H.length = 8 → (hashFold H l).length = 8
  | [], _, h => h
  | _ :: l, _, h => hashFold_len l _ (addTo_len _ _ h 8)
theorem padT_len (n : Nat) : (padT n).length = padN n := by simp [padT, padL]
theorem padN_bd (n : Nat) : 9 ≤ padN n ∧ padN n ≤ 72 := by unfold padN; omega

set_option maxHeartbeats 2000000 in
theorem sum_any (s : ByteArray) (hs : s.size ≤ 4096) (w : World) :
    Calls Try.prog 11 #[.string s] w fun e w' => e = .returned (.string ⟨(sumL s.data.toList).toArray⟩) ∧ Below w.heap.size w w' := by
  refine (callsIn_wide (n := 0)).1 ?_
  refine callsIn_of_wp_marks Try.func11 rfl trivial ?_
  simp only [Try.ntmps11, List.size_toArray, List.length_cons, List.length_nil, Nat.reduceAdd, Nat.reduceSub, Array.replicate_succ, Array.replicate_zero, List.push_toArray, List.append_toArray, List.nil_append, List.cons_append]
  gi_wp2_with fail
  refine ⟨trivial, rfl, (callsIn_wide.2 (start_any w)).mono ?_⟩
  rintro e w1 ⟨rfl, b1⟩
  gi_wp2_with (refine wpListIn_store_row rfl 50 _ _ rfl w1.heap.size (wds startL).toArray rfl rfl 50 _ (heap_alloc_new w1 _) (by kernel_rfl) rfl (wds_one _) ?_; rw [World.setRow_alloc_new])
  have rh := Row.new w1 50 (wds startL).toArray
  have b2 := b1.alloc b1.size (.cells (wds startL).toArray 50)
  have g1 := b1.size
  obtain ⟨G, hG⟩ : ∃ G, G = w1.heap.size := ⟨_, rfl⟩
  rw [← hG] at rh g1 ⊢
  clear hG
  have lh := rh.lt
  generalize w1.alloc (.cells (wds startL).toArray 50) = w2 at rh b2 lh ⊢
  clear b1
  refine ⟨trivial, rfl, (callsIn_wide.2 (pad_any (s.size : Int) (by omega) (by omega) w2)).mono ?_⟩
  rw [Int.toNat_natCast]
  rintro e w3 ⟨rfl, b3⟩
  have rh3 := rh.below b3 lh
  have b3' := b2.trans (b3.mono b2.size)
  have l3 := b3.size
  clear b3 b2 rh
  have hpl : (padT s.size).length ≤ 72 := by rw [padT_len]; exact (padN_bd _).2
  gi_wp2_with fail
  have hq : (s ++ (⟨(padT s.size).toArray⟩ : ByteArray)).data.toList = s.data.toList ++ padT s.data.toList.length := by simp
  have hqs : (s ++ (⟨(padT s.size).toArray⟩ : ByteArray)).size ≤ 4168 := by rw [ByteArray.size_append, size_mk (padT s.size)]; omega
  generalize (s ++ (⟨(padT s.size).toArray⟩ : ByteArray)) = q at hq hqs ⊢
  have Hq := Lib.hid hq
  clear hq hpl
  refine ⟨trivial, rfl, (callsIn_wide.2 (blocks_any q w3)).mono ?_⟩
  rintro e w4 ⟨rfl, hw4⟩
  have rb := Row.new w3 9 #[.string q]
  have rh4 := rh3.alloc (.cells #[.string q] 9)
  have b4 := b3'.alloc b3'.size (.cells #[.string q] 9)
  have g4 : G < w3.heap.size := rh3.lt
  have gs4 : (w3.alloc (.cells #[.string q] 9)).heap.size = w3.heap.size + 1 := by simp
  rw [hw4] at rb rh4 b4 gs4
  obtain ⟨Bs, hBs⟩ : ∃ Bs, Bs = w3.heap.size := ⟨_, rfl⟩
  rw [← hBs] at rb g4 gs4 ⊢
  clear hBs hw4 rh3 b3' l3 lh
  have gB : w.heap.size ≤ Bs := by omega
  have hlen : q.data.toList.length ≤ 65536 := by simp; omega
  have Hseq := Lib.hid (blocks1_iter Bs q.data.toList hlen w4 rb)
  gi_wp2
  refine rangeO (gf := 35) (lb := #[.pointer (some ⟨Bs, 0, none⟩)]) rfl (enters_of Try.func35 (by kernel_rfl) rfl) Hseq.out (fun r h => by subst h; omega)
    (fun h k => ⟨k.1.trans h.1, Nat.le_trans h.2 k.2⟩) (fun W l o o' hl ho hc => ⟨by rw [World.putObj_heap_other (by omega)], by simp⟩) (World.grownBy.refl _ _) (fun _ => rfl)
    (fun pre W => Row W G 50 (wds (hashFold startL pre)).toArray ∧ Below w.heap.size w W ∧ Bs < W.heap.size) (fun _ _ _ => False) ?hI ?hIx ⟨rh4, b4, by omega⟩
    (fun x a' W => ∃ Bx, Bs < Bx ∧ Row W Bx 55 (u8s x.1).toArray ∧ a' = { tmps := #[.string s, undef, .string ⟨#[]⟩, .pointer (some ⟨G, 0, none⟩), .pointer (some ⟨Bx, 0, none⟩), undef, .agg (wds startL).toArray, .string s, .string s, .int .i64 s.size, .string ⟨(padT s.size).toArray⟩, .string q, .func (.func 35) #[] #[.pointer (some ⟨Bs, 0, none⟩)], .agg (u8s x.1).toArray, undef, undef, undef, undef, undef, undef, undef], defers := [] }) ?hAx ?assign ?body ?done ?stop
  case hI =>
    intro pre A B row hs hg hr
    refine ⟨(hg.block G hs.1.lt (fun e => ?_)).trans hs.1, hs.2.1.grown hg hs.2.1.size (fun k hk => ?_), Nat.lt_of_lt_of_le hs.2.2 hg.size⟩
    · rcases hr _ e.symm with h | ⟨h, _⟩ <;> omega
    · rcases hr _ hk with h | ⟨h, _⟩ <;> omega
  case hIx => exact fun _ _ _ _ _ h _ _ => h
  case hAx =>
    rintro x a' _ A B row ⟨Bx, h1, h2, h3⟩ hg hr
    refine ⟨Bx, h1, (hg.block Bx h2.lt (fun e => ?_)).trans h2, h3⟩
    rcases hr _ e.symm with h | ⟨_, o, ho, hc⟩
    · omega
    · rw [h2] at ho; cases ho; cases hc
  case assign =>
    rintro l pre x W K ⟨hr, hb, hlt⟩ hK
    have hx : (u8s x.1).toArray.size = 64 := u8s_size _ x.2
    have Hx := Lib.hid hx
    clear hx
    have HK := Lib.hid hK
    clear hK
    gi_wp2_with (refine wpListIn_store_row rfl 55 _ _ rfl W.heap.size (u8s x.1).toArray rfl rfl 55 _ (heap_alloc_new W _) (by rw [Hx.out]; kernel_rfl) (by rw [Hx.out]; rfl) (u8s_one _) ?_; rw [World.setRow_alloc_new])
    exact HK.out _ _ (KeepsFrom.alloc _ _ _) ⟨Below.heap_alloc _ _ _ hlt, by simp⟩ ⟨hr.alloc _, hb.alloc hb.size _, by simp; omega⟩ ⟨_, hlt, Row.new _ _ _, rfl⟩
  case body =>
    rintro l pre x a' W hl _ ⟨hr, hb, hlt⟩ ⟨Bx, hBx, hrx, rfl⟩ _
    have hx : (u8s x.1).toArray.size = 64 := u8s_size _ x.2
    obtain ⟨H, hH⟩ : ∃ H, H = hashFold startL pre := ⟨_, rfl⟩
    have hHl : H.length = 8 := by rw [hH]; exact hashFold_len _ _ rfl
    rw [← hH] at hr
    have Hx := Lib.hid hx
    have HH := Lib.hid hH
    have HHl := Lib.hid hHl
    clear hx hH hHl
    gi_wp2_with (first
      | (refine wpListIn_load_row rfl 50 _ rfl G rfl 50 (wds H).toArray (0, 0) _ hr Try.underlying50 rfl (by rw [wds_size _ HHl.out]; kernel_rfl) ?_)
      | (refine wpListIn_load_row rfl 55 _ rfl Bx rfl 55 (u8s x.1).toArray (0, 0) _ hrx Try.underlying55 rfl (by rw [Hx.out]; kernel_rfl) ?_))
    refine ⟨trivial, rfl, (CallsIn.inRound l (callsIn_wide.2 (block_any H HHl.out x.1 x.2 W))).mono ?_⟩
    rintro e W2 ⟨rfl, hb2⟩
    have hr2 := hr.below hb2 hr.lt
    have hn : (blockL H x.1).length = 8 := addTo_len _ _ HHl.out 8
    have Hn := Lib.hid hn
    clear hn
    gi_wp2_with (refine wpListIn_store_row rfl 50 _ _ rfl G (wds (blockL H x.1)).toArray rfl rfl 50 _ hr2 (by rw [wds_size _ Hn.out]; kernel_rfl) (by rw [wds_size _ Hn.out, wds_size _ HHl.out]) (wds_one _) ?_)
    refine ⟨(KeepsFrom.of_below hb2).trans (KeepsFrom.setRow hr2 _), ⟨(setRow_other _ _ _ _ (by omega)).trans (hb2.block _ hlt), Nat.le_trans hb2.size (by simp [World.setRow])⟩, ?_, ?_, ?_⟩
    · have := hr2.setRow (wds (blockL H x.1)).toArray
      have e : blockL H x.1 = hashFold startL (pre ++ [x]) := by rw [HH.out, hashFold, hashFold, List.foldl_append]; rfl
      rw [e] at this
      rw [e]; exact this
    · exact below_setRow_ (hb.trans (hb2.mono hb.size)) g1 _
    · have := hb2.size; simp [World.setRow]; omega
  case stop => exact fun D c pre W _ _ h _ => h.elim
  case done =>
    rintro D ys W hD rfl ⟨hr, hb, _⟩ hK
    obtain ⟨H, hH⟩ : ∃ H, H = hashFold startL (chunks (q.data.toList.length / 64) q.data.toList) := ⟨_, rfl⟩
    have hHl : H.length = 8 := by rw [hH]; exact hashFold_len _ _ rfl
    have hfin : bytesL H = sumL s.data.toList := by rw [hH, Hq.out]; rfl
    rw [← hH] at hr
    have HHl := Lib.hid hHl
    have Hfin := Lib.hid hfin
    have HK := Lib.hid hK
    clear hH hHl hfin hK
    gi_wp2_with (refine wpListIn_load_row rfl 50 _ rfl G rfl 50 (wds H).toArray (0, 0) _ hr Try.underlying50 rfl (by rw [wds_size _ HHl.out]; kernel_rfl) ?_)
    refine ⟨trivial, rfl, (callsIn_wide.2 (bytes_any H HHl.out W)).mono ?_⟩
    rintro e W5 ⟨rfl, hb5⟩
    have hK5 : W5.heap[D]? = some (.deferred (some [])) := (hb5.block D (Array.getElem?_eq_some_iff.1 HK.out).1).trans HK.out
    rw [Hfin.out]
    have HK5 := Lib.hid hK5
    clear hK5 HK hr
    gi_wp2
    refine ⟨by simp, .inl ⟨_, _, rfl, run_takeDeferred HK5.out, ?_⟩⟩
    exact ⟨_, results_tmp rfl _ _ _, rfl, (hb.trans (hb5.mono hb.size)).grown (grownBy_putObj' _ _ _) (Nat.le_trans hb.size hb5.size) (fun k e => by cases e; omega)⟩

end Go.Proofs.Ytkdcelnlhhodlaa
