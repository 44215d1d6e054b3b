/- The walks over package wire: the writer. -/
import Derived.Test.YtkdcelnlhhodlaaZig
import Derived.Lib.AppendStr
namespace Go.Proofs.Ytkdcelnlhhodlaa
open Go.RowKit Go.Deep

/-- Block g is a writer whose bytes are l; all that it owns lies at B or beyond. -/
def Wr (W : World) (B g : Nat) (l : List UInt8) : Prop := B ≤ g ∧ ∃ v, Row W g 59 #[v] ∧ W.ownsRow B 5 1 v l.length (u8s l)
/-- What a writer's methods may do to the world: new blocks; block g; rows of bytes from B on. -/
structure WrEff (B g : Nat) (w w' : World) : Prop where
  os : w'.os = w.os
  tape : w'.tape = w.tape
  output : w'.output = w.output
  size : w.heap.size ≤ w'.heap.size
  block : ∀ k, k < w.heap.size → k ≠ g → (∀ cs, B ≤ k → ¬ Row w k 5 cs) → w'.heap[k]? = w.heap[k]?
theorem WrEff.of_below {B g : Nat} {w w' : World} (b : Below w.heap.size w w') : WrEff B g w w' := ⟨b.os, b.tape, b.output, b.size, fun k hk _ _ => b.block k hk⟩
theorem WrEff.refl (B g : Nat) (w : World) : WrEff B g w w := ⟨rfl, rfl, rfl, Nat.le_refl _, fun _ _ _ _ => rfl⟩
theorem WrEff.trans {B g : Nat} {a b c : World} (h : WrEff B g a b) (k : WrEff B g b c) : WrEff B g a c :=
  ⟨k.os.trans h.os, k.tape.trans h.tape, k.output.trans h.output, Nat.le_trans h.size k.size, fun i hi hg hr => by
    have e := h.block i hi hg hr
    refine (k.block i (Nat.lt_of_lt_of_le hi h.size) hg (fun cs hB hrow => hr cs hB ?_)).trans e
    rw [Row] at hrow ⊢; rw [← e]; exact hrow⟩
theorem WrEff.row {B g k : Nat} {w w' : World} {t : TypeId} {cs : Array Value} (h : WrEff B g w w') (hr : Row w k t cs) (hg : k ≠ g) (ht : t ≠ 5) : Row w' k t cs :=
  (h.block k hr.lt hg (fun cs' _ h' => ht (by rw [Row] at hr h'; rw [hr] at h'; injection h' with h'; injection h' with _ h''))).trans hr
theorem WrEff.below {B g : Nat} {w w' : World} (h : WrEff B g w w') (hB : B ≤ g) (hs : B ≤ w.heap.size) : Below B w w' :=
  ⟨h.os, h.tape, h.output, h.size, fun k hk => h.block k (by omega) (by omega) (fun _ hb _ => by omega)⟩
theorem WrEff.keeps {B g C : Nat} {w w' : World} {t : TypeId} {cs : Array Value} (h : WrEff B g w w') (hg : Row w g t cs) : KeepsFrom C w w' :=
  ⟨h.size, fun k o _ hk ho => (h.block k (Array.getElem?_eq_some_iff.1 hk).1 (fun e => by subst e; rw [hg] at hk; cases hk; cases ho) (fun cs' _ h' => by rw [Row] at h'; rw [h'] at hk; cases hk; cases ho)).trans hk⟩
theorem Wr.go {W W' : World} {B g : Nat} {l : List UInt8} (h : Wr W B g l) (b : Below W.heap.size W W') : Wr W' B g l := by
  obtain ⟨h0, v, h1, h2⟩ := h
  exact ⟨h0, v, h1.below b h1.lt, own_below h2 b⟩
instance St.wr {B g : Nat} {l : List UInt8} : St (fun W => Wr W B g l) := ⟨fun h b => h.go b⟩
theorem Wr.lt {W : World} {B g : Nat} {l : List UInt8} (h : Wr W B g l) : g < W.heap.size := by obtain ⟨_, v, h1, _⟩ := h; exact h1.lt

theorem WrEff.of_own {B g n : Nat} {w w' : World} {v : Value} {xs : List Value} (h : w.ownsRow B 5 1 v n xs) (hg : w.grownBy w' v.ownBlock) : WrEff B g w w' :=
  ⟨hg.os, hg.tape, hg.output, hg.size, fun k hk _ hr => hg.block k hk (fun e => by
    rcases h.2 with ⟨rfl, _⟩ | ⟨g', cap, cur, rfl, hB, hh, _⟩
    · simp [Value.ownBlock] at e
    · have : g' = k := by simpa [Value.ownBlock] using e.symm
      subst this
      exact hr _ hB hh)⟩
theorem WrEff.of_only {B g : Nat} {w w' : World} (o : Only g w w') : WrEff B g w w' := ⟨o.os, o.tape, o.output, Nat.le_of_eq o.size.symm, fun k _ hk _ => o.block k hk⟩

theorem zero_writer {w : World} : (zeroValue 59).run Try.prog w = .ok (.agg #[.slice none 0 0]) w := by kernel_rfl
theorem wireNew_any (w : World) :
    Calls Try.prog 13 #[] w fun e w' => e = .returned (.pointer (some ⟨w.heap.size, 0, none⟩)) ∧ Wr w' w.heap.size w.heap.size [] ∧ Below w.heap.size w w' := by
  go_enter Try.func13, Try.ntmps13
  go_wp2
  go_ret
  exact ⟨rfl, ⟨Nat.le_refl _, .slice none 0 0, Row.new _ _ _, World.ownsRow_nil _ _ _ _⟩, (Below.refl _ _).alloc (Nat.le_refl _) _⟩

theorem strCells_eq (s : ByteArray) : Lib.strCells s = u8s s.data.toList := by
  rfl
set_option maxHeartbeats 1000000 in
theorem raw_any (B g : Nat) (l : List UInt8) (s : ByteArray) (hl : l.length ≤ 1000000) (hs : s.size ≤ 1000000) (w : World) (h : Wr w B g l) :
    Calls Try.prog 26 #[.pointer (some ⟨g, 0, none⟩), .string s] w fun e w' => e = .returned (.pointer (some ⟨g, 0, none⟩)) ∧ Wr w' B g (l ++ s.data.toList) ∧ WrEff B g w w' := by
  obtain ⟨i0, hi0, hz0, hz1, hz2⟩ := info_parts info_u8
  obtain ⟨hBg, v, hr, hown⟩ := h
  have hc := hr.cellv (i := 0) (v := v) rfl
  have hf := hr.free 0
  have hBs : B ≤ w.heap.size := Nat.le_of_lt (Nat.lt_of_le_of_lt hBg hr.lt)
  have Hown := Lib.hid hown
  clear hown
  go_enter Try.func26, Try.ntmps26
  go_wp2_with (at_builtin; refine Lib.wpList_append_own_string w rfl (.tmp 9) (.tmp 10) 57 9 rfl B 5 i0 Try.underlying57 Try.underlying9 hi0 hz0 hz1 hz2 v l.length (u8s l) rfl Hown.out s rfl (by unfold maxLen; omega) (by omega) hBs ?_)
  intro v' w1 hown' hg _
  have r1 := hr.grown hg (own_ne Hown.out hr (by decide))
  have e1 := WrEff.of_own (g := g) Hown.out hg
  obtain ⟨A', m', c', rfl⟩ : ∃ A m c, v' = .slice A m c := own_slice hown'
  have hc1 := r1.cellv (i := 0) (v := v) rfl
  have hf1 := r1.free 0
  have nG := own_ne hown' r1 (by decide)
  have Hown' := Lib.hid hown'
  clear hown' hg hc hf
  go_wp2
  go_ret
  have o2 := only_set w1 g 0 (.slice A' m' c')
  refine ⟨rfl, ⟨hBg, _, r1.set 0 _, ?_⟩, e1.trans (WrEff.of_only o2)⟩
  have := own_only Hown'.out o2 nG
  rw [strCells_eq, ← u8s_append] at this
  simpa using this

theorem num_any (B g : Nat) (l : List UInt8) (n : Nat) (hl : l.length ≤ 1000000) (hn : n < 18446744073709551616) (w : World) (h : Wr w B g l) :
    Calls Try.prog 14 #[.pointer (some ⟨g, 0, none⟩), .int .u64 n] w fun e w' => e = .returned (.pointer (some ⟨g, 0, none⟩)) ∧ Wr w' B g (l ++ lebL n) ∧ WrEff B g w w' := by
  have Hn := Lib.hid hn
  clear hn
  go_enter Try.func14, Try.ntmps14
  go_wp2_with fail
  refine (lebPut_any n Hn.out w).mono ?_
  rintro e w1 ⟨rfl, b1⟩
  go_wp2_with fail
  refine (raw_any B g l _ hl (by rw [size_mk]; have := lebL_len n; omega) w1 (h.go b1)).mono ?_
  rintro e w2 ⟨rfl, h2, e2⟩
  go_wp2_with fail
  go_ret
  exact ⟨rfl, h2, (WrEff.of_below b1).trans e2⟩

theorem int_any (B g : Nat) (l : List UInt8) (n : Int) (hl : l.length ≤ 1000000) (hn : InI n) (w : World) (h : Wr w B g l) :
    Calls Try.prog 15 #[.pointer (some ⟨g, 0, none⟩), .int .i64 n] w fun e w' => e = .returned (.pointer (some ⟨g, 0, none⟩)) ∧ Wr w' B g (l ++ zz n) ∧ WrEff B g w w' := by
  have Hn := Lib.hid hn
  clear hn
  go_enter Try.func15, Try.ntmps15
  go_wp2_with fail
  refine (zigPut_any n Hn.out w).mono ?_
  rintro e w1 ⟨rfl, b1⟩
  go_wp2_with fail
  refine (raw_any B g l _ hl (by rw [size_mk]; have := zz_len n; omega) w1 (h.go b1)).mono ?_
  rintro e w2 ⟨rfl, h2, e2⟩
  go_wp2_with fail
  go_ret
  exact ⟨rfl, h2, (WrEff.of_below b1).trans e2⟩

theorem wrBytes_any (B g : Nat) (l : List UInt8) (w : World) (h : Wr w B g l) :
    Calls Try.prog 17 #[.pointer (some ⟨g, 0, none⟩)] w fun e w' => e = .returned (.string ⟨l.toArray⟩) ∧ w = w' := by
  obtain ⟨hBg, v, hr, hown⟩ := h
  have hc := hr.cellv (i := 0) (v := v) rfl
  have hconv := run_string_of_own (P := Try.prog) 57 9 5 Try.underlying57 Try.underlying5 Try.underlying9 _ hown
  clear hown
  go_enter Try.func17, Try.ntmps17
  go_wp2_with fail
  go_ret
  exact ⟨rfl, rfl⟩
end Go.Proofs.Ytkdcelnlhhodlaa
