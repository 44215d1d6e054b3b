/- Lemmas for VerdictMoreP. -/
import Derived.Test.YtdcmppdhdcjpfaaGreatZr7
import Derived.Test.YtdcmppdhdcjpfaaGreatZr4
import Derived.Test.YtdcmppdhdcjpfaaGreatZr1
import Derived.Lib.SliceRun
set_option linter.unusedVariables false
set_option linter.unusedSimpArgs false
set_option maxRecDepth 100000
set_option maxHeartbeats 16000000
namespace Go.Proofs.YtdcmppdhdcjpfaaGreat
open Go.RowKit Go.Deep
theorem JM {W : World} {g : Nat} {t : TypeId} {cs : List Value} (h : Row W g t cs.toArray) : Rd W (some ⟨g, 0, none⟩) cs := fun j u hj => ⟨_, rfl, by
 have := h.cellv (i := j) (v := u) (by simpa using hj)
 unfold Addr.add
 by_cases h0 : j = 0
 · subst h0; exact this
 · rw [if_neg h0]; simpa using this⟩
theorem Af4 : (Tryz.prog.info? 23).map (fun i => (i.zero, i.size)) = some (some (.slice none 0 0), 1) := by kernel_rfl
structure NdsR (l : List Nd) (w w' : World) (e : Ending) : Prop where
 ex : ∃ v, e = .returned v ∧ w'.ownsRow w.heap.size 85 2 v l.length (l.flatMap Nd.cells) ∧ Below w.heap.size w w'
theorem Vs (A : Option Addr) (m cp : Nat) (ps : List PtV) (w : World) (hm : m = ps.length) (hr : Rd w A (ps.map PtV.val)) (hps : ∀ q ∈ ps, q.rd w) (hl : (Q6 ps).length ≤ 1000000) (hml : m ≤ 1000) :
 Calls Tryz.prog 246 #[.slice A m cp] w (fun e w' => NdsR (Q6 ps) w w' e) := by
 have Hc := Lh (Adg A m cp ps w hm hr hps hl hml)
 clear hm hr hps hl hml
 go_enter Tryz.func246, Tryz.ntmps246
 go_wp2_with fail
 refine Hc.out.mono ?_
 rintro e w1 ⟨v, rfl, hown, b1⟩
 obtain ⟨A3, c3, rfl⟩ := Zd hown
 go_wp2
 go_ret
 exact ⟨_, rfl, hown, b1⟩
theorem Ags (A : Option Addr) (cap : Nat) (l : List Nd) (q : Nat) (t : Tr) (w : World) (hat : At l q t) (hr : Rd w A (l.flatMap Nd.cells)) (hl : l.length ≤ 1000) (hlc : l.length ≤ cap) (hcm : cap ≤ maxLen) :
 Calls Tryz.prog 267 #[.slice A l.length cap, .int .i64 (q : Int)] w (fun e w' => NdsR t.flat w w' e) := by
 have he := JH A cap l (q : Int) w hr hl
 rw [hat.endZ] at he
 have hle := hat.le
 have hts := t.size_eq
 obtain ⟨ad, rfl, _⟩ := Jq hr hat.root
 obtain ⟨rest, hrest⟩ := hat.here
 have hpart : ∀ W, Rd W (some ad) (l.flatMap Nd.cells) → Rd W (some (ad.add (q * 2))) (t.flat.flatMap Nd.cells) := by
  intro W h j u hj
  obtain ⟨ad', e, hc⟩ := h.part (q * 2) (t.flat.flatMap Nd.cells) (fun j u hj => by
   have h1 : l = l.take q ++ (t.flat ++ rest) := by rw [← hrest, List.take_append_drop]
   have h2 : (l.take q).length = q := by rw [List.length_take]; omega
   rw [h1, List.flatMap_append, List.getElem?_append_right (by rw [ZQ, h2]; omega), ZQ, h2, Nat.add_sub_cancel_left, List.flatMap_append, List.getElem?_append_left (List.getElem?_eq_some_iff.1 hj).1]
   exact hj) (by rw [t.flat_eq]; simp [Nd.cells])
  injection e with e
  subst e
  exact ⟨_, rfl, hc j u hj⟩
 have Hpart := Lh hpart
 have He := Lh he
 have Hr := Lh hr
 have Hlen : Hid (t.flat.length = t.size) := rfl
 generalize hsz : t.size = sz at *
 have hcm' : (cap : Int) ≤ 9223372036854775807 := by unfold maxLen at hcm; omega
 have hq1 : (q : Int) ≤ ((q + sz : Nat) : Int) := by omega
 have hq2 : ((q + sz : Nat) : Int) ≤ (cap : Int) := by omega
 have hq3 : ¬ (((q + sz : Nat) : Int) < 0) := by omega
 have hs1 : (1 : Int) ≤ (sz : Int) := by omega
 clear he hr hpart hrest hat hts hsz
 go_enter Tryz.func267, Tryz.ntmps267
 go_wp2_with fail
 refine He.out.mono ?_
 rintro e w1 ⟨rfl, b1⟩
 have Hr1 := Lh (Hr.out.go b1)
 have Hb1 := Lh b1
 clear He Hr b1
 go_wp2_with (refine Zp _ _ _ rfl ?_)
 refine Stop.to ?_
 have hv : PtV.val ⟨some (ad.add (q * 2)), cap - q, t.flat⟩ = .slice (some (ad.add (q * 2))) (q + sz - q) (cap - q) := by unfold PtV.val; rw [Hlen.out, Nat.add_sub_cancel_left]
 refine Qu rfl 316 1 _ rfl 23 #[PtV.val ⟨some (ad.add (q * 2)), cap - q, t.flat⟩] ?_ ?_
 · rw [hv]
   exact ZH Tryz.underlying316 Af4 (by decide) (by decide) (by kernel_rfl)
 intro G w2 hG rG bG
 have b2 := Hb1.out.trans ((bG.mono hG).mono Hb1.out.size)
 have hj := Vs (some ⟨G, 0, none⟩) 1 1 [⟨some (ad.add (q * 2)), cap - q, t.flat⟩] w2 rfl (JM (cs := [PtV.val ⟨some (ad.add (q * 2)), cap - q, t.flat⟩]) rG) (fun x hx => by
  rw [List.mem_singleton.1 hx]
  exact ⟨Hpart.out _ (Hr1.out.go (bG.mono hG)), fun e => by cases e⟩) (by simp [Q6]; have := Hlen.out; omega) (by omega)
 have Hj := Lh hj
 have Hb2 := Lh b2
 clear hj b2 rG bG hG Hr1 Hb1 Hpart hv
 go_wp2_with fail
 refine Hj.out.mono ?_
 rintro e w3 ⟨v, rfl, hown, b3⟩
 rw [show Q6 [⟨some (ad.add (q * 2)), cap - q, t.flat⟩] = t.flat by simp [Q6]] at hown
 obtain ⟨A3, c3, rfl⟩ := Zd hown
 go_wp2
 go_ret
 exact ⟨_, rfl, QI hown Hb2.out.size, Hb2.out.trans (b3.mono Hb2.out.size)⟩
theorem Ahb (W : World) : (Instr.buildSlice 22 0 #[]).run Tryz.prog W = .ok (.slice (some ⟨W.heap.size, 0, none⟩) 0 0) (W.alloc (.cells #[] 3)) := by kernel_rfl
theorem Xy {w : World} {base n : Nat} {e : TypeId} {v : Value} {xs : List Value} (h : w.ownsRow base e 1 v n xs) : ∃ A cap, v = .slice A n cap ∧ Rd w A xs ∧ n ≤ cap ∧ (A = none → cap = 0) ∧ ∀ ad, A = some ad → base ≤ ad.block := by
 obtain ⟨A, cap, rfl, h1, h2, h3⟩ := AdK h
 refine ⟨A, cap, rfl, h1, h2, h3, fun ad e => ?_⟩
 rcases h.2 with ⟨e2, _⟩ | ⟨g, c, cur, e2, hb, _⟩
 · injection e2 with e3; rw [e] at e3; cases e3
 · injection e2 with e3; rw [e] at e3; injection e3 with e3; rw [e3]; exact hb
theorem Ua (A : Option Addr) (cap : Nat) (l : List Int) (w : World) (hr : Rd w A (Qi l)) (hnil : A = none → l = []) (hl : l.length ≤ 100000) :
 Calls Tryz.prog 117 #[.slice A l.length cap] w fun e w' => IntsR l w w' e := by
 rcases A with _ | ad
 · have h0 := hnil rfl
   subst h0
   have hq := fun W : World => Lib.run_eql_slice_nil (P := Tryz.prog) W 22 3 none 0 cap 0 0 Tryz.underlying22
   simp only [Option.isNone_none] at hq
   rw [show ([] : List Int).length = 0 from rfl]
   go_enter Tryz.func117, Tryz.ntmps117
   go_wp2_with fail
   go_ret
   exact ⟨_, rfl, World.ownsRow_nil _ _ _ _, Below.refl _ _⟩
 · have Hr := Lh hr
   have Hl := Lh hl
   clear hr hl hnil
   have hq := fun W : World => Lib.run_eql_slice_nil (P := Tryz.prog) W 22 3 (some ad) l.length cap 0 0 Tryz.underlying22
   simp only [Option.isNone_some] at hq
   go_enter Tryz.func117, Tryz.ntmps117
   go_wp2_with (refine Zp _ _ _ rfl ?_)
   refine Stop.to ?_
   refine Zg rfl _ (Qn [] rfl (Ahb w)) ?_
   have rG := Row.new w 3 #[]
   have b1 := (Below.refl w.heap.size w).alloc (Nat.le_refl _) (.cells #[] 3)
   generalize w.alloc (.cells #[] 3) = w1 at rG b1 ⊢
   obtain ⟨v', w2, hrun, hown, hgr, _⟩ := ZB (P := Tryz.prog) 22 3 (.int .i64 0) 1 8 Tryz.underlying22 Jn rfl (by decide) (by decide) (ZY (B := w.heap.size) (size := 1) (Nat.le_refl _) rG) b1.size (Hr.out.go b1) (m := l.length) (cap := cap) (by simp [Qi]) (Jo l) (by simp) (by have := Hl.out; omega)
   rw [Nat.zero_add, List.nil_append] at hown
   have b2 := Qm b1 (ZY (B := w.heap.size) (size := 1) (Nat.le_refl _) rG) hgr b1.size (Nat.le_refl _)
   have Hrun := Lh hrun
   clear hrun hgr rG
   go_wp2_with (refine Yy ?_)
   refine Stop.to ?_
   refine Zg rfl _ (Qq rfl Hrun.out) ?_
   obtain ⟨A3, c3, rfl⟩ := Zd hown
   go_wp2
   go_ret
   exact ⟨_, rfl, hown, b2⟩
def UZ {α : Type} (P : Program) (g : Nat) (lb : Array Value) (encs : α → Array Value) (own : Nat → Prop) (Kp : Nat → World → World → Prop) (Px : List α → α → World → Prop) (S Sp : List α → Prop) (N : Nat) (st : Prop) (w : World) : Prop :=
 ∀ (l : Nat) (J Jx : List α → World → Prop) (W : World), (w.heap.size ≤ l ∧ l < W.heap.size) → w.grownBy W none → (st ∨ ∀ pre W', ¬ Jx pre W') → UY own W.heap.size J → UY own W.heap.size Jx →
  (∀ pre x W1, J pre W1 → Px pre x W1 → pre.length < N → YieldAt Fence.wide 0 P l (encs x) W1 fun e W' =>
   (e = .returned (.bool true) ∧ J (pre ++ [x]) W' ∧ Kp l W1 W') ∨ (e = .returned (.bool false) ∧ Jx (pre ++ [x]) W' ∧ Kp l W1 W')) →
  J [] W →
  CallsIn Fence.wide 0 P g (#[.func (.yield l) #[] #[]] ++ lb) W fun e W' => (∃ v, e = .returned v) ∧ ((∃ xs, S xs ∧ J xs W') ∨ (∃ pre, Sp pre ∧ Jx pre W'))
def Ago {α : Type} (B : Nat) (Kp : World → World → Prop) (I : List α → World → Prop) (Ix : Code → List α → World → Prop) (xs : List α) (W : World) : Exit → Act → World → Prop
 | .normal, _, W' => KeepsFrom B W W' ∧ Kp W W' ∧ I xs W'
 | .ret, _, W' => KeepsFrom B W W' ∧ Kp W W' ∧ Ix .ret xs W'
 | .exit id, _, W' => KeepsFrom B W W' ∧ Kp W W' ∧ Ix (.exit id) xs W'
 | .goto t, _, W' => KeepsFrom B W W' ∧ Kp W W' ∧ Ix (.goto t) xs W'
 | .panic _, _, _ => False
 | .outgrown, _, _ => False
section
variable {P : Program}
theorem XT {α : Type} {g : Operand} {ps : Array Tmp} {assign body : Code} {Q : Exit → Act → World → Prop} {a : Act} {w : World}
 {gf : Nat} {lb : Array Value} (hg : a.eval g = .func (.func gf) #[] lb) (eg : ∀ args w, (callFunc gf args).run P w = .ok (.enter gf args) w)
 {encs : α → Array Value} {own : Nat → Prop} {Kp : Nat → World → World → Prop} {Px : List α → α → World → Prop} {S Sp : List α → Prop} {N : Nat} {st : Prop} {w0 : World} (hseq : UZ P gf lb encs own Kp Px S Sp N st w0)
 (hown : ∀ r, own r → r < w.heap.size)
 (hKt : ∀ {A B C : World}, Kp (w.heap.size + 1) A B → Kp (w.heap.size + 1) B C → Kp (w.heap.size + 1) A C) (hKb : ∀ (W : World) (o o' : Obj), W.heap[w.heap.size + 1]? = some o → o.isCells = false → Kp (w.heap.size + 1) W (W.putObj (w.heap.size + 1) o')) (hb0 : w0.grownBy w none) (hps : ∀ x, (encs x).size = ps.size)
 (I : List α → World → Prop) (Ix : Code → List α → World → Prop) (hst : st ∨ ∀ c pre W, ¬ Ix c pre W) (hI : UY own w.heap.size I) (hIx : ∀ c, UY own w.heap.size (Ix c)) (h0 : I [] w) (Ax : List α → α → Act → World → Prop) (hAx : ∀ pre x a', UY own w.heap.size (fun (_ : Unit) W => Ax pre x a' W))
 (hassign : ∀ (l : Nat) (pre : List α) (x : α) (W : World) (K : Act → World → Prop), I pre W → Px pre x W → (∀ a' W', KeepsFrom w.heap.size W W' → Kp (w.heap.size + 1) W W' → I pre W' → Ax pre x a' W' → K a' W') →
  assign.wpIn (Fence.wide.inRound l) 0 P (Exit.then K (fun _ _ _ => False)) { tmps := (ps.zip (encs x)).foldl (fun t (p, v) => t.setIfInBounds p v) a.tmps, defers := [] } W)
 (hbody : ∀ (l : Nat) (pre : List α) (x : α) (a' : Act) (W : World), l = w.heap.size + 1 → (∃ r, W.heap[l]? = some (.loop r)) → I pre W → Ax pre x a' W → pre.length < N → body.wpIn (Fence.wide.inRound l) 0 P (Ago w.heap.size (Kp (w.heap.size + 1)) I Ix (pre ++ [x]) W) a' W)
 (hdone : ∀ (D : Nat) (xs : List α) (W : World), w.heap.size ≤ D → S xs → I xs W → W.heap[D]? = some (.deferred (some [])) → Q .normal { a with defers := { target := .collected D, args := #[] } :: a.defers } W)
 (hstop : ∀ (D : Nat) (c : Code) (pre : List α) (W : World), w.heap.size ≤ D → Sp pre → Ix c pre W → W.heap[D]? = some (.deferred (some [])) → c.wpIn Fence.wide 0 P Q { a with defers := { target := .collected D, args := #[] } :: a.defers } W) :
 (Code.rangeFunc g ps assign body).wpIn Fence.wide 0 P Q a w := by
 refine wpIn_rangeFunc ?_
 intro fn hfn
 obtain ⟨rec, hrec⟩ : ∃ rec : LoopState → Option Code → Loop, rec = fun st pe => { state := st, pending := pe, fn, tmps := a.tmps, params := ps, assign, body, defers := w.heap.size } := ⟨_, rfl⟩
 obtain ⟨W1, hW1⟩ : ∃ W1, (w.alloc (.deferred (some []))).alloc (.loop (rec .ready none)) = W1 := ⟨_, rfl⟩
 have hL1 : W1.heap[w.heap.size + 1]? = some (.loop (rec .ready none)) := by
  rw [← hW1]; have := World.alloc_heap_new (w.alloc (.deferred (some []))) (.loop (rec .ready none)); rwa [World.size_alloc] at this
 have hK1 : W1.heap[w.heap.size]? = some (.deferred (some [])) := by
  rw [← hW1]; exact (Below.heap_alloc _ _ _ (by simp)).trans (World.alloc_heap_new w _)
 have hIput : ∀ {s : List α} {W : World} {l : Nat} {o : Obj} (o' : Obj), I s W → w.heap.size ≤ l → W.heap[l]? = some o → o.isCells = false → I s (W.putObj l o') :=
  fun o' hs hB hl ho => hI _ _ _ (some _) hs (grownBy_putObj' _ _ o') (fun r e => by cases e; exact .inr ⟨hB, _, hl, ho⟩)
 have hIxput : ∀ {c : Code} {s : List α} {W : World} {l : Nat} {o : Obj} (o' : Obj), Ix c s W → w.heap.size ≤ l → W.heap[l]? = some o → o.isCells = false → Ix c s (W.putObj l o') :=
  fun o' hs hB hl ho => hIx _ _ _ _ (some _) hs (grownBy_putObj' _ _ o') (fun r e => by cases e; exact .inr ⟨hB, _, hl, ho⟩)
 have hI1 : I [] W1 := by
  rw [← hW1]; exact hI _ _ _ none (hI _ _ _ none h0 (World.grownBy_alloc _ _ _) (fun r e => by cases e)) (World.grownBy_alloc _ _ _) (fun r e => by cases e)
 have hg1 : w0.grownBy W1 none := by
  rw [← hW1]
  exact ⟨hb0.os, hb0.tape, hb0.output, Nat.le_trans hb0.size (by simp; omega), fun k hk _ => by
   have := hb0.size
   rw [Below.heap_alloc _ _ _ (by simp; omega), Below.heap_alloc _ _ _ (by omega)]; exact hb0.block k hk (by simp)⟩
 have s1 : W1.heap.size = w.heap.size + 2 := by rw [← hW1]; simp
 refine ⟨w.heap.size + 1, [{ target := .collected w.heap.size, args := #[] }], W1, { target := .fn (.func gf) lb, args := #[.func (.yield (w.heap.size + 1)) #[] #[]] }, W1, gf,
  #[.func (.yield (w.heap.size + 1)) #[] #[]] ++ lb, W1, ?_, ?_, ?_, ?_, (fun h => by cases h), ?_⟩
 · rw [← hW1, hrec]; exact run_enterLoop_outer _ _ _ _ _
 · simp only [resolve, hg]
   simp [go_sem]
 · intro f' _; trivial
 · simp [invoke, go_sem, eg]
 · have hnw : ∀ {A B : World} {row : Option Nat}, (∀ r, row = some r → own r ∨ (W1.heap.size ≤ r ∧ ∃ o : Obj, A.heap[r]? = some o ∧ o.isCells = false)) → (∀ r, row = some r → own r ∨ (w.heap.size ≤ r ∧ ∃ o : Obj, A.heap[r]? = some o ∧ o.isCells = false)) :=
    fun hr r e => by
     rcases hr r e with h | ⟨hB, h⟩
     · exact .inl h
     · exact .inr ⟨by omega, h⟩
   have hbk : ∀ {A B : World} {row : Option Nat} {k : Nat} {o : Obj}, A.grownBy B row → (∀ r, row = some r → own r ∨ (W1.heap.size ≤ r ∧ ∃ o : Obj, A.heap[r]? = some o ∧ o.isCells = false)) → w.heap.size ≤ k → k < W1.heap.size → A.heap[k]? = some o → B.heap[k]? = some o :=
    fun hg' hr h1 h2 hk => (hg'.block _ (Array.getElem?_eq_some_iff.1 hk).1 (fun e => by
     rcases hr _ e.symm with h | ⟨h, _⟩
     · have := hown _ h; omega
     · omega)).trans hk
   refine (hseq (w.heap.size + 1)
    (fun pre W => I pre W ∧ W.heap[w.heap.size + 1]? = some (.loop (rec .ready none)) ∧ W.heap[w.heap.size]? = some (.deferred (some [])))
    (fun pre W => ∃ c, Ix c pre W ∧ W.heap[w.heap.size + 1]? = some (.loop (rec .done (some c))) ∧ W.heap[w.heap.size]? = some (.deferred (some [])))
    W1 ⟨by have := hb0.size; omega, by omega⟩ hg1 (hst.imp id fun h pre W' => by rintro ⟨c, hc, _⟩; exact h c pre W' hc)
    (fun s A B row hs hg' hr => ⟨hI s A B row hs.1 hg' (hnw (B := B) hr), hbk hg' hr (by omega) (by omega) hs.2.1, hbk hg' hr (by omega) (by omega) hs.2.2⟩)
    (fun s A B row hs hg' hr => by
     obtain ⟨c, hc, hl, hk⟩ := hs
     exact ⟨c, hIx c s A B row hc hg' (hnw (B := B) hr), hbk hg' hr (by omega) (by omega) hl, hbk hg' hr (by omega) (by omega) hk⟩)
    ?_ ⟨hI1, hL1, hK1⟩).mono ?_
   · rintro pre x W ⟨hi, hl, hk⟩ hpx hlen
     have hlt : w.heap.size + 1 < W.heap.size := (Array.getElem?_eq_some_iff.1 hl).1
     have hy := run_yield (P := P) (args := encs x) hl (by rw [hrec]; exact hps x)
     rw [hrec] at hy
     refine ⟨fn, _, assign, body, hy, roundIn_of_wpIn hfn (hassign _ pre x W _ hi hpx ?_)⟩
     clear hy
     intro a' Wa hkfa hkpa hia hax
     replace hl := hkfa.same _ _ (by omega) hl rfl
     replace hk := hkfa.same _ _ (Nat.le_refl _) hk rfl
     replace hlt : w.heap.size + 1 < Wa.heap.size := (Array.getElem?_eq_some_iff.1 hl).1
     refine ⟨_, run_beginRound hl (by rw [hrec]), ?_⟩
     have hl2 : (Wa.putObj (w.heap.size + 1) (.loop { rec .ready none with state := .busy })).heap[w.heap.size + 1]? = some (.loop { rec .ready none with state := .busy }) := World.putObj_heap_same hlt
     have hk2 : (Wa.putObj (w.heap.size + 1) (.loop { rec .ready none with state := .busy })).heap[w.heap.size]? = some (.deferred (some [])) := (World.putObj_heap_other (by omega)).trans hk
     have hw2 : Kp (w.heap.size + 1) Wa (Wa.putObj (w.heap.size + 1) (.loop { rec .ready none with state := .busy })) := hKb _ _ _ hl rfl
     refine wpIn_mono (hbody _ pre x a' _ rfl ⟨_, hl2⟩ (hIput _ hia (by omega) hl rfl) (hAx pre x a' () _ _ (some _) hax (grownBy_putObj' _ _ _) (fun r e => by cases e; exact .inr ⟨by omega, _, hl, rfl⟩)) hlen) ?_
     have fin : ∀ (jump : Option Code) (W3 : World), KeepsFrom w.heap.size (Wa.putObj (w.heap.size + 1) (.loop { rec .ready none with state := .busy })) W3 →
      (Instr.endRound (w.heap.size + 1) jump).run P W3 = .ok (.bool jump.isNone) (W3.putObj (w.heap.size + 1) (.loop (rec (if jump.isNone then .ready else .done) jump))) ∧
      W3.heap[w.heap.size + 1]? = some (.loop { rec .ready none with state := .busy }) ∧
      (W3.putObj (w.heap.size + 1) (.loop (rec (if jump.isNone then .ready else .done) jump))).heap[w.heap.size + 1]? = some (.loop (rec (if jump.isNone then .ready else .done) jump)) ∧
      (W3.putObj (w.heap.size + 1) (.loop (rec (if jump.isNone then .ready else .done) jump))).heap[w.heap.size]? = some (.deferred (some [])) := fun jump W3 hk3 => by
      have hl3 := hk3.same _ _ (by omega) hl2 rfl
      have := run_endRound (P := P) jump hl3
      rw [hrec] at this ⊢
      exact ⟨this, by rw [hrec] at hl3; exact hl3, World.putObj_heap_same (Array.getElem?_eq_some_iff.1 hl3).1, (World.putObj_heap_other (by omega)).trans (hk3.same _ _ (Nat.le_refl _) hk2 rfl)⟩
     rintro e a3 W3 hp
     cases e with
     | normal =>
      obtain ⟨hk3, hkp3, hi3⟩ := hp
      obtain ⟨hr, hl3, hl4, hk4⟩ := fin none W3 hk3
      exact ⟨_, _, hr, .inl ⟨rfl, ⟨hIput _ hi3 (by omega) hl3 rfl, hl4, hk4⟩, hKt hkpa (hKt (hKt hw2 hkp3) (hKb _ _ _ hl3 rfl))⟩⟩
     | ret =>
      obtain ⟨hk3, hkp3, hi3⟩ := hp
      obtain ⟨hr, hl3, hl4, hk4⟩ := fin (some .ret) W3 hk3
      exact ⟨_, _, hr, .inr ⟨rfl, ⟨.ret, hIxput _ hi3 (by omega) hl3 rfl, hl4, hk4⟩, hKt hkpa (hKt (hKt hw2 hkp3) (hKb _ _ _ hl3 rfl))⟩⟩
     | exit id =>
      obtain ⟨hk3, hkp3, hi3⟩ := hp
      obtain ⟨hr, hl3, hl4, hk4⟩ := fin (some (.exit id)) W3 hk3
      exact ⟨_, _, hr, .inr ⟨rfl, ⟨.exit id, hIxput _ hi3 (by omega) hl3 rfl, hl4, hk4⟩, hKt hkpa (hKt (hKt hw2 hkp3) (hKb _ _ _ hl3 rfl))⟩⟩
     | goto t =>
      obtain ⟨hk3, hkp3, hi3⟩ := hp
      obtain ⟨hr, hl3, hl4, hk4⟩ := fin (some (.goto t)) W3 hk3
      exact ⟨_, _, hr, .inr ⟨rfl, ⟨.goto t, hIxput _ hi3 (by omega) hl3 rfl, hl4, hk4⟩, hKt hkpa (hKt (hKt hw2 hkp3) (hKb _ _ _ hl3 rfl))⟩⟩
     | panic ch => exact hp.elim
     | outgrown => exact hp.elim
   · rintro e W2 ⟨⟨v, rfl⟩, (⟨xs, hS, hi, hl, hk⟩ | ⟨pre, hSp, c, hi, hl, hk⟩)⟩
     · exact ⟨none, _, by have := run_endLoop (P := P) hl (by rw [hrec]; simp); rw [hrec] at this; exact this, hdone _ xs _ (Nat.le_refl _) hS (hIput _ hi (by omega) hl rfl) ((World.putObj_heap_other (by omega)).trans hk)⟩
     · exact ⟨some c, _, by have := run_endLoop (P := P) hl (by rw [hrec]; simp); rw [hrec] at this; exact this, hstop _ c pre _ (Nat.le_refl _) hSp (hIxput _ hi (by omega) hl rfl) ((World.putObj_heap_other (by omega)).trans hk)⟩
end
end Go.Proofs.YtdcmppdhdcjpfaaGreat
