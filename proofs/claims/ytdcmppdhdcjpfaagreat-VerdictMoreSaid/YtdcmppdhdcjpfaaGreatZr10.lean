/- Lemmas for VerdictMoreP. -/
import Derived.Test.YtdcmppdhdcjpfaaGreatZr9
import Derived.Test.YtdcmppdhdcjpfaaGreatZr1
import Derived.Test.YtdcmppdhdcjpfaaGreatZr2
import Derived.Test.YtdcmppdhdcjpfaaGreatZr7
import Derived.OrdersIn
import Derived.RangeFuncCalls
set_option linter.unusedVariables false
set_option linter.unusedSimpArgs false
set_option maxRecDepth 100000
set_option maxHeartbeats 16000000
namespace Go.Proofs.YtdcmppdhdcjpfaaGreat
open Go.RowKit Go.Deep
attribute [local go_sem] Oper.semAt_some
theorem VM {P : Program} {fn : Func} {p p' : Tmp} {ty ty' : TypeId} (h : fn.results = #[.cell p ty, .cell p' ty']) (tmps : Array Value) (w : World) (a a' : Addr) (v v' : Value) (hp : tmps.getD p undef = .pointer (some a)) (hp' : tmps.getD p' undef = .pointer (some a'))
 (hv : (loadVar ty a).run P w = .ok v w) (hv' : (loadVar ty' a').run P w = .ok v' w) : (results fn tmps).run P w = .ok (.tuple #[v, v']) w := by
 have h1 : tmps[p]?.getD undef = .pointer (some a) := by simpa using hp
 have h2 : tmps[p']?.getD undef = .pointer (some a') := by simpa using hp'
 simp [results, h, h1, h2, asAddr, hv, hv']
theorem Row.abide {W W' : World} {g : Nat} {t : TypeId} {cs : Array Value} {row : Option Nat} {p : Nat → Prop} (h : Row W g t cs) (hg : W.grownBy W' row) (hr : ∀ r, row = some r → False ∨ (p r ∧ ∃ o : Obj, W.heap[r]? = some o ∧ o.isCells = false)) : Row W' g t cs :=
 h.grown hg (fun e => by
  rcases hr g e with h' | ⟨_, o, ho, hc⟩
  · exact h'
  · rw [h] at ho; cases ho; cases hc)
structure PathR (π : List Int) (w w' : World) (e : Ending) : Prop where
 ex : ∃ A cap, e = .returned (.tuple #[.slice A π.length cap, .bool true]) ∧ Rd w' A (Qi π) ∧ (A = none → π = []) ∧ Below w.heap.size w w' ∧ ∀ ad, A = some ad → w.heap.size ≤ ad.block
theorem KpX.only {X : Nat → Prop} {A B : World} {g : Nat} (o : Only g A B) (hg : X g) : KpX X A B := ⟨fun k p hx hp => by rw [o.block k (fun e => hx (e ▸ hg))]; exact hp, Nat.le_of_eq o.size.symm⟩
theorem Rd.only {A B : World} {ad : Option Addr} {xs : List Value} (h : Rd A ad xs) {g : Nat} (o : Only g A B) (hx : xs ≠ [] → ∀ a, ad = some a → a.block ≠ g) : Rd B ad xs :=
 (KpX.only (X := fun k => k = g) o rfl).rd h hx
theorem VL {A : World} {ad : Option Addr} {l : List Int} (h : Rd A ad (Qi l)) {g : Nat} {t : TypeId} {v : Value} (hr : Row A g t #[v]) (hv : ∀ n, v ≠ .int .i64 n) : Qi l ≠ [] → ∀ a, ad = some a → a.block ≠ g := fun hne a e hb => by
 cases l with
 | nil => exact hne rfl
 | cons x l =>
  obtain ⟨a', e', hc⟩ := h 0 (.int .i64 x) rfl
  rw [e] at e'; injection e' with e'; subst e'
  have hz : a.add 0 = a := by unfold Addr.add; rw [if_pos rfl]
  rw [hz] at hc
  have h1 : A.heap[a.block]? = some (.cells #[v] t (0, 0)) := by rw [hb]; exact hr
  unfold World.cell? at hc
  rw [h1] at hc
  simp only at hc
  split at hc
  · cases hc
  · by_cases h0 : a.off = 0
    · rw [h0] at hc
      exact hv x (by simpa using hc)
    · rw [Array.getElem?_eq_none (by simp; omega)] at hc; cases hc
theorem AdN (A : Option Addr) (cap : Nat) (l : List Nd) (t : Tr) (q : Nat) (π : List Int) (w : World) (hat : At l 0 t) (hsz : t.size = l.length) (hq : (QX [] 0 t)[q]? = some (q, π)) (hr : Rd w A (l.flatMap Nd.cells)) (hl : l.length ≤ 1000) :
 Calls Tryz.prog 243 #[.slice A l.length cap, .int .i64 (q : Int)] w fun e w' => PathR π w w' e := by
 have He := Lh (fun W h => JH A cap l (0 : Int) W h hl)
 have hez : endZ l 0 = (l.length : Int) := by
  have := hat.endZ
  rw [hsz] at this
  simpa using this
 rw [hez] at He
 have Hr := Lh hr
 have Hl := Lh hl
 have Hat := Lh hat
 have Hsz := Lh hsz
 have Hq := Lh hq
 clear hr hl hat hsz hq hez
 refine (callsIn_wide (n := 0)).1 ?_
 refine callsIn_of_wp_marks Tryz.func243 rfl trivial ?_
 simp only [Tryz.ntmps243, List.size_toArray, List.length_cons, List.length_nil, Nat.reduceAdd, Nat.reduceSub, Array.replicate_succ, Array.replicate_zero, List.push_toArray, List.append_toArray, List.nil_append, List.cons_append]
 gi_wp2_with fail
 obtain ⟨B3, hB3⟩ : ∃ B, B = w.heap.size := ⟨_, rfl⟩
 obtain ⟨w1, hw1⟩ : ∃ w1, w1 = w.alloc (.cells #[.int .i64 (q : Int)] 3) := ⟨_, rfl⟩
 have r3 : Row w1 B3 3 #[.int .i64 (q : Int)] := by rw [hw1, hB3]; exact Row.new _ _ _
 have b1 : Below w.heap.size w w1 := by rw [hw1]; exact (Below.refl _ _).alloc (Nat.le_refl _) _
 obtain ⟨R4, hR4⟩ : ∃ B, B = w1.heap.size := ⟨_, rfl⟩
 obtain ⟨w2, hw2⟩ : ∃ w2, w2 = w1.alloc (.cells #[.slice none 0 0] 22) := ⟨_, rfl⟩
 have r4 : Row w2 R4 22 #[.slice none 0 0] := by rw [hw2, hR4]; exact Row.new _ _ _
 have b2 : Below w1.heap.size w1 w2 := by rw [hw2]; exact (Below.refl _ _).alloc (Nat.le_refl _) _
 obtain ⟨R5, hR5⟩ : ∃ B, B = w2.heap.size := ⟨_, rfl⟩
 obtain ⟨w3, hw3⟩ : ∃ w3, w3 = w2.alloc (.cells #[.bool false] 4) := ⟨_, rfl⟩
 have r5 : Row w3 R5 4 #[.bool false] := by rw [hw3, hR5]; exact Row.new _ _ _
 have b3 : Below w2.heap.size w2 w3 := by rw [hw3]; exact (Below.refl _ _).alloc (Nat.le_refl _) _
 have e4 : B3 + 1 = R4 := by rw [hR4, hw1, World.size_alloc, hB3]
 have e5 : R4 + 1 = R5 := by rw [hR5, hw2, World.size_alloc, hR4]
 rw [← hw1, ← hw2, ← hw3, ← hB3, e4, e5]
 clear e4 e5
 have l3 := r3.lt
 have l4 := r4.lt
 have bb : Below w.heap.size w w3 := b1.trans ((b2.mono b1.size).trans (b3.mono (by have := b1.size; have := b2.size; omega)))
 replace r3 := (r3.below b2 l3).below b3 (by have := b2.size; omega)
 replace r4 := r4.below b3 l4
 have g3 : w.heap.size ≤ B3 := by omega
 have g34 : B3 < R4 := by omega
 have g45 : R4 < R5 := by omega
 clear b1 b2 b3 hw1 hw2 hw3 hB3 hR4 hR5 l3 l4
 refine ⟨trivial, rfl, (callsIn_wide.2 (He.out w3 (Hr.out.go bb))).mono ?_⟩
 rintro e w4 ⟨rfl, b4⟩
 replace r3 := r3.below b4 r3.lt
 replace r4 := r4.below b4 r4.lt
 replace r5 := r5.below b4 r5.lt
 replace bb := bb.trans (b4.mono bb.size)
 clear b4 He
 gi_wp2_with fail
 refine ⟨trivial, rfl, (callsIn_wide.2 (XS A cap l 0 none 0 [] w4)).mono ?_⟩
 rintro e w5 ⟨bl, ba, bo, rfl, rl, ra, ro, gl, ga, go, b5⟩
 have l5 := r5.lt
 replace r3 := r3.below b5 r3.lt
 replace r4 := r4.below b5 r4.lt
 replace r5 := r5.below b5 r5.lt
 replace bb := bb.trans (b5.mono bb.size)
 have hC : PathsC w.heap.size A cap l (fun k => k = R4 ∨ k = R5) ba bo bl none 0 [] 0 w5 := ⟨Hr.out.go bb, fun hne ad e h => by have := Xj Hr.out hne e; omega, rl, ra, ro, by omega, by omega, by omega, fun j u hj => by simp [Qi] at hj, fun h => absurd rfl h, fun _ => rfl, fun k hk => by have := r4.lt; have := r5.lt; omega, fun _ e => (nomatch e), bb.size⟩
 have Hit := Lh (AdO A cap l Hl.out t.size t 0 [] (Nat.le_refl _) (by have := Hsz.out; have := Hl.out; simp; omega) Hat.out w.heap.size (fun k => k = R4 ∨ k = R5) ba bo bl none 0 w5 hC)
 have Hb := Lh bb
 have s5 := r5.lt
 clear hC rl ra ro b5 l5 bb
 gi_wp2_with fail
 have HI0 : Hid ((Row w5 B3 3 #[.int .i64 (q : Int)] ∧ Row w5 R4 22 #[.slice none 0 0] ∧ Row w5 R5 4 #[.bool false]) ∧ Below w.heap.size w w5 ∧ ∀ x ∈ ([] : List PtX), x.to ≠ q) := ⟨⟨r3, r4, r5⟩, Hb.out, fun x hx => by simp at hx⟩
 have sb := Hb.out.size
 clear r3 r4 r5 Hb
 refine XT (gf := 284) (lb := #[.pointer (some ⟨ba, 0, none⟩), .pointer (some ⟨bo, 0, none⟩), .pointer (some ⟨bl, 0, none⟩)]) rfl (enters_of Tryz.func284 (by kernel_rfl) rfl) Hit.out (fun r h => h.elim)
  (fun h k => h.trans k) (fun V o o' ho hc => ⟨fun i p hx hp => by rw [World.putObj_heap_other (fun e => hx (.inr e))]; exact hp, by simp⟩) (World.grownBy.refl _ _) (fun _ => rfl)
  (fun pre V => (Row V B3 3 #[.int .i64 (q : Int)] ∧ Row V R4 22 #[.slice none 0 0] ∧ Row V R5 4 #[.bool false]) ∧ Below w.heap.size w V ∧ ∀ x ∈ pre, x.to ≠ q)
  (fun c pre V => c = .ret ∧ ∃ A' c', Row V R4 22 #[.slice A' π.length c'] ∧ Row V R5 4 #[.bool true] ∧ Rd V A' (Qi π) ∧ (A' = none → π = []) ∧ Below w.heap.size w V ∧ ∀ ad, A' = some ad → w.heap.size ≤ ad.block) (.inl trivial) ?hI ?hIx HI0.out
  (fun pre x a' V => a' = { tmps := #[.slice A l.length cap, .int .i64 (q : Int), undef, .pointer (some ⟨B3, 0, none⟩), .pointer (some ⟨R4, 0, none⟩), .pointer (some ⟨R5, 0, none⟩), .int .i64 (x.to : Int), .slice x.A x.l.length x.cap, .slice A l.length cap, .int .i64 (l.length : Int), .slice A l.length cap, .int .i64 (l.length : Int), .bool false, .slice A l.length cap, .func (.func 284) #[] #[.pointer (some ⟨ba, 0, none⟩), .pointer (some ⟨bo, 0, none⟩), .pointer (some ⟨bl, 0, none⟩)], .int .i64 (x.to : Int), .slice x.A x.l.length x.cap, undef, undef, undef, undef], defers := [] } ∧ PxP w.heap.size (QX [] 0 t) pre x V) ?hAx ?assign ?body ?done ?stop
 case hI =>
  rintro pre V V' row ⟨⟨h1, h2, h3⟩, h4, h5⟩ hg hr
  refine ⟨⟨h1.abide hg hr, h2.abide hg hr, h3.abide hg hr⟩, h4.grown hg h4.size (fun k e => ?_), h5⟩
  rcases hr k e with h | ⟨h, _⟩
  · exact h.elim
  · omega
 case hIx =>
  rintro c pre V V' row ⟨h0, A', c', h1, h2, h3, h4, h5, h6⟩ hg hr
  refine ⟨h0, A', c', h1.abide hg hr, h2.abide hg hr, h3.grown hg (fun k e => ?_), h4, h5.grown hg h5.size (fun k e => ?_), h6⟩
  · rcases hr k e with h | ⟨_, h⟩
    · exact h.elim
    · exact h
  · rcases hr k e with h | ⟨h, _⟩
    · exact h.elim
    · omega
 case hAx =>
  rintro pre x a' _ V V' row ⟨h1, ⟨h2, h4⟩, h3⟩ hg hr
  refine ⟨h1, ⟨⟨h2.rd.grown hg (fun i e => ?_), h2.nil, h2.len⟩, h4⟩, h3⟩
  rcases hr i e with h | ⟨h, o⟩
  · exact h.elim
  · exact o
 case assign =>
  rintro l3 pre x V K hI hP hK
  have HK := Lh hK
  have HI := Lh hI
  have HP := Lh hP
  clear hK hI hP
  unfold PtX.enc
  gi_wp2_with fail
  exact HK.out _ _ (KeepsFrom.refl _ _) (KpX.refl _ _) HI.out ⟨rfl, HP.out⟩
 case body =>
  rintro l3 pre x a' V hl3 _ ⟨⟨h3, h4, h5⟩, hb, hall⟩ ⟨rfl, ⟨hok, hlo⟩, rest, hrest⟩ hlen
  have hx : (QX [] 0 t)[pre.length]? = some (x.to, x.l) := by rw [← hrest, List.getElem?_append_right (by simp)]; simp [PtX.f]
  have hxt := Uj t [] 0 pre.length _ hx
  simp only at hxt
  have c3 := h3.cellv (i := 0) (v := .int .i64 (q : Int)) rfl
  by_cases hxq : x.to = q
  · have hpq : pre.length = q := by omega
    have hπ : x.l = π := by
     rw [hpq, Hq.out] at hx
     injection hx with hx; injection hx with _ hx; exact hx.symm
    have hrd := hok.rd
    have hni := hok.nil
    rw [hπ] at hrd hni ⊢
    rw [hxq]
    have hqq : ((q : Int) == (q : Int)) = true := by simp
    have o4 := Zc V R4 0 (.slice x.A π.length x.cap)
    have o5 := Zc (V.setCell ⟨R4, 0, none⟩ (.slice x.A π.length x.cap)) R5 0 (.bool true)
    have n45 : R4 ≠ R5 := by omega
    have k4 := h4.set 0 (.slice x.A π.length x.cap)
    have k5 := (h5.only o4 (Ne.symm n45)).set 0 (.bool true)
    have q4 := k4.only o5 n45
    have hrd5 := (hrd.only o4 (VL hrd h4 (by simp))).only o5 (VL (hrd.only o4 (VL hrd h4 (by simp))) (h5.only o4 (Ne.symm n45)) (by simp))
    have HF : Hid (KeepsFrom w5.heap.size V ((V.setCell ⟨R4, 0, none⟩ (.slice x.A π.length x.cap)).setCell ⟨R5, 0, none⟩ (.bool true)) ∧ KpX (fun i => (i = R4 ∨ i = R5) ∨ i = w5.heap.size + 1) V ((V.setCell ⟨R4, 0, none⟩ (.slice x.A π.length x.cap)).setCell ⟨R5, 0, none⟩ (.bool true)) ∧ ∃ A' c', Row ((V.setCell ⟨R4, 0, none⟩ (.slice x.A π.length x.cap)).setCell ⟨R5, 0, none⟩ (.bool true)) R4 22 #[.slice A' π.length c'] ∧ Row ((V.setCell ⟨R4, 0, none⟩ (.slice x.A π.length x.cap)).setCell ⟨R5, 0, none⟩ (.bool true)) R5 4 #[.bool true] ∧ Rd ((V.setCell ⟨R4, 0, none⟩ (.slice x.A π.length x.cap)).setCell ⟨R5, 0, none⟩ (.bool true)) A' (Qi π) ∧ (A' = none → π = []) ∧ Below w.heap.size w ((V.setCell ⟨R4, 0, none⟩ (.slice x.A π.length x.cap)).setCell ⟨R5, 0, none⟩ (.bool true)) ∧ ∀ ad, A' = some ad → w.heap.size ≤ ad.block) :=
     ⟨(KeepsFrom.of_only h4 o4).trans (KeepsFrom.of_only (h5.only o4 (Ne.symm n45)) o5), (KpX.only o4 (.inl (.inl rfl))).trans (KpX.only o5 (.inl (.inr rfl))), x.A, x.cap, q4, k5, hrd5, hni, Qo (Qo hb o4 (by omega)) o5 (by omega), hlo⟩
    have c4 := h4.cellv (i := 0) (v := .slice none 0 0) rfl
    have f4 := h4.free 0
    have c5 := (h5.only o4 (Ne.symm n45)).cellv (i := 0) (v := .bool false) rfl
    have f5 := (h5.only o4 (Ne.symm n45)).free 0
    clear hxq hpq hπ hrd hni hx hxt hok hrest hall hb h3 h4 h5 k4 k5 q4 hrd5 o4 o5 hlen hl3
    gi_wp2_with fail
    obtain ⟨e1, e2, A', c', e3, e4⟩ := HF.out
    exact ⟨e1, e2, rfl, A', ⟨c', e3⟩, e4⟩
  · have hqq : ((x.to : Int) == (q : Int)) = false := by simp; omega
    have HF : Hid (KeepsFrom w5.heap.size V V ∧ KpX (fun i => (i = R4 ∨ i = R5) ∨ i = w5.heap.size + 1) V V ∧ (Row V B3 3 #[.int .i64 (q : Int)] ∧ Row V R4 22 #[.slice none 0 0] ∧ Row V R5 4 #[.bool false]) ∧ Below w.heap.size w V ∧ ∀ y ∈ pre ++ [x], y.to ≠ q) := ⟨KeepsFrom.refl _ _, KpX.refl _ _, ⟨h3, h4, h5⟩, hb, fun y hy => by
     rcases List.mem_append.1 hy with hy | hy
     · exact hall y hy
     · simp at hy; subst hy; exact hxq⟩
    clear hxq hx hxt hok hrest hall hb h3 h4 h5 hlen hl3
    gi_wp2_with fail
    exact HF.out
 case stop =>
  rintro D c pre V hD _ ⟨rfl, A', c', h1, h2, h3, h4, h5, h6⟩ hK
  have HF : Hid (Row (V.putObj D (.deferred none)) R4 22 #[.slice A' π.length c'] ∧ Row (V.putObj D (.deferred none)) R5 4 #[.bool true] ∧ Rd (V.putObj D (.deferred none)) A' (Qi π) ∧ Below w.heap.size w (V.putObj D (.deferred none))) := ⟨h1.abide (p := fun _ => True) (grownBy_putObj' _ _ _) (fun r e => by cases e; exact .inr ⟨trivial, _, hK, rfl⟩), h2.abide (p := fun _ => True) (grownBy_putObj' _ _ _) (fun r e => by cases e; exact .inr ⟨trivial, _, hK, rfl⟩), h3.grown (grownBy_putObj' _ _ _) (fun r e => by cases e; exact ⟨_, hK, rfl⟩), h5.grown (grownBy_putObj' _ _ _) h5.size (fun k e => by cases e; omega)⟩
  have HK := Lh hK
  have H4 := Lh h4
  have H6 := Lh h6
  clear hK h1 h2 h3 h4 h5 h6 hD
  gi_wp2_with fail
  refine ⟨by simp, .inl ⟨_, _, rfl, run_takeDeferred HK.out, ?_⟩⟩
  refine ⟨_, VM Tryz.results243 _ _ ⟨R4, 0, none⟩ ⟨R5, 0, none⟩ (.slice A' π.length c') (.bool true) rfl rfl ?_ ?_, ⟨A', c', rfl, HF.out.2.2.1, H4.out, HF.out.2.2.2, H6.out⟩⟩
  · have c := HF.out.1.cellv (i := 0) (v := .slice A' π.length c') rfl
    simp [loadVar, go_sem, c]
  · have c := HF.out.2.1.cellv (i := 0) (v := .bool true) rfl
    simp [loadVar, go_sem, c]
 case done =>
  rintro D xs V hD hxs ⟨_, _, hall⟩ hK
  exfalso
  have h1 := Hq.out
  rw [← hxs, List.getElem?_map] at h1
  obtain ⟨x, hx, he⟩ := Option.map_eq_some_iff.1 h1
  exact hall x (List.mem_of_getElem? hx) (by injection he)
end Go.Proofs.YtdcmppdhdcjpfaaGreat
namespace Go.Proofs.YtdcmppdhdcjpfaaGreat
open Go.RowKit
section
variable {P : Program} {ops : Array Oper} {Q : Exit → Act → World → Prop} {l : Nat}
theorem AgW {o : Oper} (hnd : ∀ c, o.op ≠ .defer c) {a : Act} {w : World} {K K' : Act → World → Prop} (h : ∀ a w, K a w → K' a w) (hh : o.wp P a w K Q) : o.wpIn (Fence.wide.inRound l) 0 P a w K' Q := by
 unfold Oper.wpIn
 refine ⟨fun _ _ => trivial, ?_⟩
 rw [Oper.semAt_plain _ _ _ hnd]
 unfold Oper.wp at hh
 generalize (execOp a.eval o).run P w = r at *
 cases r with
 | ok x w' =>
  cases x with
  | value v => exact h _ _ hh
  | skip => exact h _ _ hh
  | defer d => exact h _ _ hh
  | enter f args =>
   refine ⟨fun e => by simp [Fence.wide] at e, CallsIn.inRound l (callsIn_wide.2 (Calls.mono (hh : Calls _ _ _ _ _) fun e w'' he => ?_))⟩
   cases e with
   | returned v => exact h _ _ he
   | panicked c => exact he
   | outgrown => exact he
  | row rn args =>
   refine ⟨fun e => by simp [Fence.wide] at e, fun c cs _ => ?_⟩
   obtain ⟨v, w', r, s⟩ := (hh : Rows _ _ _ _ _) c cs
   exact ⟨v, w', h _ _ r, stepsIn_wide.2 s⟩
  | _ => exact (hh : False).elim
 | halt x w' => cases x <;> first | exact hh | exact (hh : False).elim
def Ends (Q : Exit → Act → World → Prop) : Exit → Act → World → Prop
 | .normal, a, w => Q .normal a w
 | _, _, _ => False
theorem Ends.imp : ∀ (e : Exit) (a : Act) (w : World), Ends Q e a w → Q e a w := fun e a w h => by cases e <;> first | exact h | exact (h : False).elim
theorem XK {a : Act} {w : World} (h : Q .normal a w) : Ends Q .normal a w := h
theorem AfW : ¬ LetsOut (Ends Q) := fun ⟨_, _, h⟩ => h
def Xv (ops : Array Oper) : Bool := ops.all fun o => match o.op with | .defer _ => false | _ => true
theorem AdG {i : Nat} {o : Oper} (h : Xv ops = true) (ho : ops[i]? = some o) : ∀ c, o.op ≠ .defer c := fun c hc => by
 obtain ⟨hi, e⟩ := Array.getElem?_eq_some_iff.1 ho
 have := (Array.all_eq_true.1 h) i hi
 rw [e, hc] at this
 cases this
theorem Ad1 (h : Xv ops = true) {i : Nat} {a : Act} {w : World} {K K' : Act → World → Prop} (hK : ∀ a w, K a w → K' a w) (hh : wpOp P ops (Ends Q) i K a w) : wpOpIn (Fence.wide.inRound l) 0 P ops (Ends Q) i K' a w := by
 unfold wpOp at hh
 unfold wpOpIn
 cases ho : ops[i]? with
 | none => simp only [ho] at hh ⊢; exact hK _ _ hh
 | some o =>
  simp only [ho] at hh ⊢
  by_cases hw : Region.wanted o (yielded ops a.tmps) = true
  · rw [if_pos hw]
    rw [if_pos hw] at hh
    rcases hh with hh | ⟨_, hh⟩
    · exact AgW (AdG h ho) hK hh
    · exact absurd hh AfW
  · rw [if_neg hw]
    rw [if_neg hw] at hh
    exact ⟨fun _ _ => trivial, hK _ _ hh⟩
theorem UK {md : Region.Mode} (h : Xv ops = true) : ∀ (fuel : Nat) (listed : Array Bool) (a : Act) (w : World), wpAny P md ops (Ends Q) fuel listed a w → wpAnyIn (Fence.wide.inRound l) 0 P md ops (Ends Q) fuel listed a w
 | 0, _, _, _, hh => hh
 | fuel + 1, listed, a, w, hh => ⟨hh.1, fun i hi => Ad1 h (fun a w k => UK h fuel _ a w k) (hh.2 i hi)⟩
theorem XU {id : Nat} {a : Act} {w : World} (hm : P.follows .mixedOrders = true) (hd : Xv ops = true) (h : wpAny P .any ops (Ends Q) ops.size (Array.replicate ops.size false) a w.drew) : (Code.region id ops true).wpIn (Fence.wide.inRound l) 0 P Q a w :=
 wpIn_mono (wpIn_region_any hm (UK hd _ _ _ _ h)) Ends.imp
end
theorem Aa1 {P : Program} {r : Nat} {id : Nat} {Q : Exit → Act → World → Prop} {a : Act} {w : World} {l : List Oper} (S : World → Prop) (hm : P.follows .mixedOrders = true) (hd : Xv l.toArray = true) (hB : Region.lexB .any l.toArray = true) (hS : S w.drew)
 (h : ZI P l.toArray S (fun a' => ∀ W, S W → Q .normal a' W) l a) : (Code.region id l.toArray true).wpIn (Fence.wide.inRound r) 0 P Q a w := by
 simp only [Region.lexB, Bool.and_eq_true] at hB
 refine XU hm hd (K6 (S := S) (Q' := Ends Q) (Q := fun a' => ∀ W, S W → Q .normal a' W) (fun _ W h hW => h W hW) _ _ _ _ hS ?_)
 have := Yv (md := .any) hB.1 l 0 (Array.replicate l.toArray.size false) a (by simp) (by simpa using hB.2) h
 simpa using this
theorem YS {P : Program} {r : Nat} {id : Nat} {Q : Exit → Act → World → Prop} {a : Act} {w : World} {l : List Oper} (S : World → Prop) (n : Nat) (hm : P.follows .mixedOrders = true) (hd : Xv l.toArray = true) (hB : Region.lexTailB .any l.toArray n = true) (hS : S w.drew)
 (h : ZI P l.toArray S (fun a' => ∀ W, S W → wpList P l.toArray (Ends Q) (l.drop n) a' W) (l.take n) a) : (Code.region id l.toArray true).wpIn (Fence.wide.inRound r) 0 P Q a w := by
 simp only [Region.lexTailB, Bool.and_eq_true, decide_eq_true_eq] at hB
 obtain ⟨⟨⟨⟨hsel, hn⟩, hs⟩, hc⟩, hlex⟩ := hB
 have hn' : n < l.length := by simpa using hn
 have htl : (l.take n).length = n := by simp; omega
 have hdl : (l.drop n).length = l.toArray.size - n := by simp
 have inv0 : HeadInv .any l.toArray n (Array.replicate l.toArray.size false) :=
  ⟨by simp, fun j oj _ hl => (by rw [getD_replicate_false] at hl; cases hl), fun t _ ht => getD_in (by simpa using ht) (getD_replicate_false _ _)⟩
 have H := X3 (md := .any) (g := l.toArray.size - n) hsel hs hc hn (l.take n) 0 _ a (fun j hj => by
  have hj' : j < n := by rw [htl] at hj; exact hj
  simp [hj']) (by simpa using htl) inv0 (by rw [htl]; exact hlex) h
 refine XU hm hd ?_
 have := KO (Q' := Ends Q) (g := l.toArray.size - n) (fun listed a' W hL hW => by
  have := wpAny_of_seq (md := .any) (Q' := Ends Q) (l.drop n) n listed a' W (fun j => by simp [List.getElem?_drop]) (by rw [hdl]; exact hL.1) (hL.2 W hW)
  rwa [hdl] at this) _ _ _ _ hS H
 rw [htl, show n + (l.toArray.size - n) = l.toArray.size by omega] at this
 exact this
mutual
def XD : Tr → Int
 | .node _ ks => depK ks + 1
def depK : List Tr → Int
 | [] => 0
 | t :: ts => max (XD t) (depK ts)
end
theorem AaF : ∀ ks : List Tr, 0 ≤ depK ks
 | [] => by rw [depK]; omega
 | t :: ts => by rw [depK]; have := AaF ts; omega
theorem EV (t : Tr) : ∀ a : List Tr, depK (a ++ [t]) = max (depK a) (XD t)
 | [] => by
  have h1 : 0 ≤ XD t := by cases t with | node x ks => rw [XD]; have := AaF ks; omega
  have h2 : depK [] = 0 := by rw [depK]
  rw [List.nil_append, h2]
  show depK (t :: []) = _
  rw [depK.eq_2, h2]; omega
 | u :: a => by rw [List.cons_append, depK, depK, EV t a]; omega
mutual
theorem Aee : ∀ t : Tr, XD t ≤ (t.size : Int)
 | .node x ks => by
  have := Aed ks
  have h2 : (Tr.node x ks).size = (QF ks).length + 1 := by rw [Tr.size, Tr.flat, List.length_cons]
  rw [XD, h2]; omega
theorem Aed : ∀ ks : List Tr, depK ks ≤ ((QF ks).length : Int)
 | [] => by simp [depK, QF]
 | t :: ts => by
  have := Aee t
  have := Aed ts
  have h2 : (QF (t :: ts)).length = t.size + (QF ts).length := by rw [QF, List.length_append]; rfl
  rw [depK, h2]; omega
end
end Go.Proofs.YtdcmppdhdcjpfaaGreat
namespace Go.Proofs.YtdcmppdhdcjpfaaGreat
open Go.RowKit Go.Deep
attribute [local go_sem] Oper.semAt_some
structure KidsC (A : Option Addr) (cap : Nat) (l : List Nd) (X : Nat → Prop) (ba bl : Nat) (q : Nat) (w : World) : Prop where
 hr : Rd w A (l.flatMap Nd.cells)
 hA : l.flatMap Nd.cells ≠ [] → ∀ ad, A = some ad → ¬ X ad.block
 rl : Row w bl 23 #[.slice A l.length cap]
 ra : Row w ba 3 #[.int .i64 (q : Int)]
 xl : ¬ X bl
 xa : ¬ X ba
 hX : ∀ k, X k → k < w.heap.size
theorem KidsC.kx {A : Option Addr} {cap : Nat} {l : List Nd} {X : Nat → Prop} {ba bl : Nat} {q : Nat} {w w' : World} (h : KidsC A cap l X ba bl q w) (k : KpX X w w') : KidsC A cap l X ba bl q w' :=
 ⟨k.rd h.hr h.hA, h.hA, k.row h.rl h.xl, k.row h.ra h.xa, h.xl, h.xa, fun i hi => Nat.lt_of_lt_of_le (h.hX i hi) k.size⟩
theorem KidsC.add {A : Option Addr} {cap : Nat} {l : List Nd} {X : Nat → Prop} {ba bl : Nat} {q : Nat} {w W : World} {lb : Nat} (h : KidsC A cap l X ba bl q w) (b : Below w.heap.size w W) (h1 : w.heap.size ≤ lb) (h2 : lb < W.heap.size) : KidsC A cap l (fun i => X i ∨ i = lb) ba bl q W := by
 have no : ∀ k, k < w.heap.size → ¬ X k → ¬ (X k ∨ k = lb) := fun k hk hx h => by
  rcases h with h | h
  · exact hx h
  · omega
 exact ⟨h.hr.go b, fun hne ad e => no _ (Xj h.hr hne e) (h.hA hne ad e), h.rl.below b h.rl.lt, h.ra.below b h.ra.lt, no _ h.rl.lt h.xl, no _ h.ra.lt h.xa, fun k hk => by
  rcases hk with hk | hk
  · exact Nat.lt_of_lt_of_le (h.hX k hk) b.size
  · omega⟩
def Ag4 (full : List Int) (pre : List Int) (x : Int) (_ : World) : Prop := ∃ rest, pre ++ x :: rest = full
theorem UG {l : List Nd} {n j : Nat} {k : Int} (h : j < n) : Zm l (n - j) k = k :: Zm l (n - (j + 1)) (endZ l k) := by
 rw [show n - j = (n - (j + 1)) + 1 by omega, Zm]
theorem Ab7 (A : Option Addr) (cap : Nat) (l : List Nd) (hl : l.length ≤ 1000) (q : Nat) (t : Tr) (hat : At l q t) (X : Nat → Prop) (ba bl : Nat) (w : World) (hC : KidsC A cap l X ba bl q w) :
 UZ Tryz.prog 250 #[.pointer (some ⟨ba, 0, none⟩), .pointer (some ⟨bl, 0, none⟩)] (fun k : Int => #[.int .i64 k]) (fun _ => False) (fun lb => KpX (fun i => X i ∨ i = lb)) (Ag4 (kidsZ l (q : Int))) (fun xs => xs = kidsZ l (q : Int)) (fun _ => True) t.kids.length True w := by
 intro lb J Jx W hlb hwW _ hJ hJx hY h0
 have hbw : Below w.heap.size w W := ⟨hwW.os, hwW.tape, hwW.output, hwW.size, fun k hk => hwW.block k hk (by simp)⟩
 have hC1 := hC.add hbw hlb.1 hlb.2
 have har := hat.fits.arity
 have hkz : kidsZ l (q : Int) = Zm l t.kids.length (q + 1) := by
  unfold kidsZ
  rw [hat.endZ, if_neg (by omega), Int.toNat_natCast, hat.root, Option.getD_some, har, Int.toNat_natCast]
 have hx := hat.root
 clear hC hlb hbw hwW w
 rw [hkz] at hY ⊢
 obtain ⟨n, hn⟩ : ∃ n, n = t.kids.length := ⟨_, rfl⟩
 rw [← hn] at hY har ⊢
 obtain ⟨x, hxd⟩ : ∃ x, x = t.root := ⟨_, rfl⟩
 rw [← hxd] at har hx
 clear hkz hn hxd hat t
 have hY' : ∀ pre k W1, J pre W1 → Ag4 (Zm l n (q + 1)) pre k W1 → pre.length < n → YieldAt Fence.wide 0 Tryz.prog lb #[.int .i64 k] W1 fun e W' => (e = .returned (.bool true) ∧ J (pre ++ [k]) W' ∧ KpX (fun i => X i ∨ i = lb) W1 W') ∨ (e = .returned (.bool false) ∧ Jx (pre ++ [k]) W' ∧ KpX (fun i => X i ∨ i = lb) W1 W') := hY
 clear hY
 generalize (fun i => X i ∨ i = lb) = X1 at hC1 hY'
 clear X
 obtain ⟨X, rfl⟩ : ∃ X, X = X1 := ⟨_, rfl⟩
 obtain ⟨ad, had, hc⟩ := Jq hC1.hr hx
 have Hc := Lh hc
 have Hl := Lh hl
 have HC := Lh hC1
 have HJ := Lh hJ
 have HY := Lh hY'
 have hqI : (q : Int) < (l.length : Int) := by have := (List.getElem?_eq_some_iff.1 hx).1; omega
 have hb := Ku x
 rw [har] at hb
 clear hc hx hJ hJx hY' hC1 hl
 subst had
 refine callsIn_of_wp Tryz.func250 rfl trivial ?_ rfl
 simp only [Tryz.ntmps250, List.size_toArray, List.length_cons, List.length_nil, Nat.reduceAdd, Nat.reduceSub, Array.replicate_succ, Array.replicate_zero, List.push_toArray, List.append_toArray, List.nil_append, List.cons_append]
 have c1 := HC.out.rl.cellv (i := 0) (v := .slice (some ad) l.length cap) rfl
 have c2 := HC.out.ra.cellv (i := 0) (v := .int .i64 (q : Int)) rfl
 gi_wp2_with (refine ZT rfl 85 _ rfl (ad.add (q * 2)) rfl x.cells _ Hc.out Tryz.underlying85 rfl (by kernel_rfl) ?_)
 refine ⟨trivial, rfl, (callsIn_wide.2 (Xc x W)).mono ?_⟩
 rintro e w2 ⟨rfl, b2⟩
 have HC2 := Lh (HC.out.kx (KpX.of_below b2))
 have h0 := QB HJ.out h0 b2
 clear b2 c1 c2 Hc HC
 rw [har]
 clear har
 gi_wp2
 gi_loopw [4, 12] (fun kk i wr => ∃ (j : Nat) (k : Int) (pre : List Int), i = .int .i64 (j : Int) ∧ kk = .int .i64 k ∧ j ≤ n ∧ Hid (pre ++ Zm l (n - j) k = Zm l n (q + 1)) ∧ Hid (pre.length = j) ∧ Hid (KpX X w2 wr) ∧ J pre wr) (fun _ i _ => n - (intOf i).toNat)
 case atStart => exact ⟨0, _, [], by simp, rfl, Nat.zero_le _, Lh (by
  have hw : wrap64 ((q : Int) + 1) = (q : Int) + 1 := by have := Hl.out; unfold wrap64; omega
  simp [hw]), Lh rfl, Lh (KpX.refl _ _), h0⟩
 case round =>
  obtain ⟨j, k, pre, rfl, rfl, hjn, Hpre, Hlen, Hkp, hj⟩ := hrel
  clear h0
  by_cases hjlt : j < n
  · have hpx : Ag4 (Zm l n (q + 1)) pre k wr := ⟨_, by rw [← Hpre.out, UG hjlt]⟩
    obtain ⟨fn, tmps, assign, body, hy, hR⟩ := HY.out _ k _ hj hpx (by have := Hlen.out; omega)
    have HR := Lh hR
    clear hR hj hpx
    gi_wp2
    refine ⟨rfl, HR.out.mono ?_⟩
    rintro e W' (⟨rfl, hj, hk⟩ | ⟨rfl, hjx, hk⟩)
    rotate_left
    · clear hy HR
      gi_wp2
      refine bodyPost_ret (results_none rfl _ _ _) rfl ?_
      exact ⟨⟨_, rfl⟩, .inr ⟨_, trivial, hjx⟩⟩
    have Hkp2 := Lh (Hkp.out.trans hk)
    have HC3 := Lh (HC2.out.kx Hkp2.out)
    have c1 := HC3.out.rl.cellv (i := 0) (v := .slice (some ad) l.length cap) rfl
    clear hy HR hk
    gi_wp2
    refine ⟨trivial, rfl, (callsIn_wide.2 (JH (some ad) cap l k W' HC3.out.hr Hl.out)).mono ?_⟩
    rintro e w3 ⟨rfl, b3⟩
    have hj := QB HJ.out hj b3
    have Hkp3 := Lh (Hkp2.out.trans (KpX.of_below b3))
    have Hp2 : Hid ((pre ++ [k]) ++ Zm l (n - (j + 1)) (endZ l k) = Zm l n (q + 1)) := by show _ = _; rw [← Hpre.out, UG hjlt]; simp
    have Hl2 : Hid ((pre ++ [k]).length = j + 1) := by show _ = _; rw [List.length_append, Hlen.out]; rfl
    clear b3 c1 Hkp Hkp2 Hpre Hlen HC3
    gi_wp2
    go_roundw
    case rel => exact ⟨j + 1, _, _, by go_num, rfl, by omega, Hp2, Hl2, Hkp3, hj⟩
    case measure => simp [intOf]; omega
  · obtain rfl : j = n := by omega
    gi_wp2
    go_end0
    refine ⟨⟨_, rfl⟩, .inl ⟨_, ?_, hj⟩⟩
    have := Hpre.out
    rw [Nat.sub_self] at this
    rw [← this]; simp [Zm]
theorem AeR (A : Option Addr) (cap : Nat) (l : List Nd) (hl : l.length ≤ 1000) : ∀ (n : Nat) (t : Tr) (q : Nat), t.size ≤ n → At l q t → ∀ w, Rd w A (l.flatMap Nd.cells) →
 Calls Tryz.prog 177 #[.slice A l.length cap, .int .i64 (q : Int)] w fun e w' => e = .returned (.int .i64 (XD t)) ∧ Below w.heap.size w w' := by
 intro n
 induction n with
 | zero => intro t q hn; have := t.size_eq; omega
 | succ n ih =>
 intro t q hn hat w hr
 have Hih := Lh ih
 have He := Lh (fun W h => JH A cap l (q : Int) W h hl)
 rw [hat.endZ] at He
 have Hr := Lh hr
 have Hl := Lh hl
 have Hat := Lh hat
 have Hn := Lh hn
 have hqt : q + t.size ≤ l.length := hat.le
 have hdt := Aee t
 have hqI : ((q + t.size : Nat) : Int) ≤ 1000 := by omega
 obtain ⟨Q, hQ⟩ : ∃ Q, Q = q + t.size := ⟨_, rfl⟩
 rw [← hQ] at He hqI
 have hQ0 : ¬ ((Q : Int) < 0) := by omega
 clear ih hl hr hat hn hQ hqt
 refine (callsIn_wide (n := 0)).1 ?_
 refine callsIn_of_wp_marks Tryz.func177 rfl trivial ?_
 simp only [Tryz.ntmps177, List.size_toArray, List.length_cons, List.length_nil, Nat.reduceAdd, Nat.reduceSub, Array.replicate_succ, Array.replicate_zero, List.push_toArray, List.append_toArray, List.nil_append, List.cons_append]
 gi_wp2_with fail
 obtain ⟨LB, hLB⟩ : ∃ B, B = w.heap.size := ⟨_, rfl⟩
 obtain ⟨w1, hw1⟩ : ∃ w1, w1 = w.alloc (.cells #[.slice A l.length cap] 23) := ⟨_, rfl⟩
 have rL : Row w1 LB 23 #[.slice A l.length cap] := by rw [hw1, hLB]; exact Row.new _ _ _
 have b1 : Below w.heap.size w w1 := by rw [hw1]; exact (Below.refl _ _).alloc (Nat.le_refl _) _
 rw [← hw1, ← hLB]
 have gL : w.heap.size ≤ LB := by omega
 clear hw1 hLB
 refine ⟨trivial, rfl, (callsIn_wide.2 (He.out w1 (Hr.out.go b1))).mono ?_⟩
 rintro e w2 ⟨rfl, b2⟩
 replace rL := rL.below b2 rL.lt
 replace b1 := b1.trans (b2.mono b1.size)
 clear b2 He
 have cL : (w2.alloc (.cells #[.int .i64 0] 3)).cell? ⟨LB, 0, none⟩ = some (.slice A l.length cap) := (rL.alloc _).cellv (i := 0) rfl
 gi_wp2_with fail
 obtain ⟨G, hG⟩ : ∃ B, B = w2.heap.size := ⟨_, rfl⟩
 obtain ⟨w3, hw3⟩ : ∃ w3, w3 = w2.alloc (.cells #[.int .i64 0] 3) := ⟨_, rfl⟩
 have rG : Row w3 G 3 #[.int .i64 0] := by rw [hw3, hG]; exact Row.new _ _ _
 have b3 : Below w2.heap.size w2 w3 := by rw [hw3]; exact (Below.refl _ _).alloc (Nat.le_refl _) _
 rw [← hw3, ← hG]
 have gLG : LB < G := by have := rL.lt; omega
 clear cL
 replace rL := rL.below b3 rL.lt
 replace b1 := b1.trans (b3.mono b1.size)
 clear hw3 hG b3
 refine ⟨trivial, rfl, (callsIn_wide.2 (Vv A cap l (q : Int) w3)).mono ?_⟩
 rintro e w4 ⟨bl, ba, rfl, rl, ra, gl, ga, b4⟩
 have lG := rG.lt
 replace rL := rL.below b4 rL.lt
 replace rG := rG.below b4 rG.lt
 replace b1 := b1.trans (b4.mono b1.size)
 have hC : KidsC A cap l (fun k => k = G) ba bl q w4 := ⟨Hr.out.go b1, fun hne ad e h => by have := Xj Hr.out hne e; omega, rl, ra, by omega, by omega, fun k hk => by have := rG.lt; omega⟩
 have Hit := Lh (Ab7 A cap l Hl.out q t Hat.out (fun k => k = G) ba bl w4 hC)
 have Hb := Lh b1
 have hw4 := b1.size
 have sG := rG.lt
 clear hC rl ra b4 b1 gl ga lG
 gi_wp2_with fail
 have HI0 : Hid (Row w4 G 3 #[.int .i64 (depK (t.kids.take ([] : List Int).length))] ∧ Row w4 LB 23 #[.slice A l.length cap] ∧ Below w.heap.size w w4) := ⟨by simpa [depK] using rG, rL, Hb.out⟩
 clear rL rG Hb
 refine XT (gf := 250) (lb := #[.pointer (some ⟨ba, 0, none⟩), .pointer (some ⟨bl, 0, none⟩)]) rfl (enters_of Tryz.func250 (by kernel_rfl) rfl) Hit.out (fun r h => h.elim)
  (fun h k => h.trans k) (fun V o o' ho hc => ⟨fun i p hx hp => by rw [World.putObj_heap_other (fun e => hx (.inr e))]; exact hp, by simp⟩) (World.grownBy.refl _ _) (fun _ => rfl)
  (fun pre V => Row V G 3 #[.int .i64 (depK (t.kids.take pre.length))] ∧ Row V LB 23 #[.slice A l.length cap] ∧ Below w.heap.size w V)
  (fun _ _ _ => False) (.inl trivial) ?hI ?hIx HI0.out
  (fun pre x a' V => a' = { tmps := #[.slice A l.length cap, .int .i64 (q : Int), .pointer (some ⟨LB, 0, none⟩), undef, .int .i64 0, .pointer (some ⟨G, 0, none⟩), .int .i64 x, .slice A l.length cap, .int .i64 (q : Int), .int .i64 (Q : Int), .bool (decide ((Q : Int) < 0)), .slice A l.length cap, .int .i64 (q : Int), .func (.func 250) #[] #[.pointer (some ⟨ba, 0, none⟩), .pointer (some ⟨bl, 0, none⟩)], .int .i64 x, undef, undef, undef, undef, undef, undef, undef], defers := [] } ∧ Ag4 (kidsZ l (q : Int)) pre x V) ?hAx ?assign ?body ?done ?stop
 case hI =>
  rintro pre V V' row ⟨h1, h2, h3⟩ hg hr
  refine ⟨h1.abide hg hr, h2.abide hg hr, h3.grown hg h3.size (fun k e => ?_)⟩
  rcases hr k e with h | ⟨h, _⟩
  · exact h.elim
  · omega
 case hIx => exact fun _ _ _ _ _ h _ _ => h
 case hAx => exact fun pre x a' _ _ _ _ h _ _ => h
 case stop => exact fun D c pre W _ _ h _ => h.elim
 case assign =>
  rintro l3 pre x V K hI hP hK
  have HK := Lh hK
  have HI := Lh hI
  have HP := Lh hP
  clear hK hI hP
  gi_wp2_with fail
  exact HK.out _ _ (KeepsFrom.refl _ _) (KpX.refl _ _) HI.out ⟨rfl, HP.out⟩
 case body =>
  rintro l3 pre x a' V hl3 _ ⟨h1, h2, h3⟩ ⟨rfl, rest, hrest⟩ hlen
  obtain ⟨k, hk⟩ : ∃ k, t.kids[pre.length]? = some k := ⟨_, List.getElem?_eq_getElem hlen⟩
  obtain ⟨r, hr⟩ : ∃ r, (Ze (q + 1) t.kids)[pre.length]? = some r := Aba hk
  have hx : x = (r : Int) := by
   have e := Hat.out.kidsZ
   rw [← hrest] at e
   have e2 := congrArg (fun z => z[pre.length]?) e
   simp [hr] at e2
   exact e2
  have hak := (Hat.out.kids.spot _ _ _ hr hk).1
  have hks : k.size ≤ n := by
   have h4 := YH (List.mem_of_getElem? hk)
   have h5 := t.size_eq
   have := Hn.out
   omega
  have hdk : depK (t.kids.take (pre.length + 1)) = max (depK (t.kids.take pre.length)) (XD k) := by
   rw [List.take_add_one, hk]; exact EV k _
  have Hcall := Lh (fun W h => Hih.out k r hks hak W h)
  have Hdk := Lh hdk
  subst hx
  obtain ⟨m, hm⟩ : ∃ m, m = depK (t.kids.take pre.length) := ⟨_, rfl⟩
  obtain ⟨d, hd⟩ : ∃ d, d = XD k := ⟨_, rfl⟩
  rw [← hm] at h1 Hdk
  rw [← hd] at Hcall Hdk
  have hVG := h1.lt
  obtain ⟨S, hSd⟩ : ∃ S, S = (fun W => Row W G 3 #[.int .i64 m] ∧ Row W LB 23 #[.slice A l.length cap] ∧ Rd W A (l.flatMap Nd.cells) ∧ Below V.heap.size V W) := ⟨_, rfl⟩
  have stS : St S := by rw [hSd]; infer_instance
  have T0 : Hid (∀ W, S W → Row W G 3 #[.int .i64 m]) := by show ∀ W, _; rw [hSd]; exact fun W h => h.1
  have T1 : Hid (∀ W, S W → Row W LB 23 #[.slice A l.length cap]) := by show ∀ W, _; rw [hSd]; exact fun W h => h.2.1
  have T2 : Hid (∀ W, S W → Rd W A (l.flatMap Nd.cells)) := by show ∀ W, _; rw [hSd]; exact fun W h => h.2.2.1
  have T3 : Hid (∀ W, S W → Below V.heap.size V W) := by show ∀ W, _; rw [hSd]; exact fun W h => h.2.2.2
  have hS : S V := by rw [hSd]; exact ⟨h1, h2, Hr.out.go h3, Below.refl _ _⟩
  have H3 := Lh h3
  have s3 := h3.size
  clear hSd h1 h2 h3 hrest hk hr hak hks hdk hm hd hlen hl3 Hih Hr
  gi_wp2_with fail
  refine YS S 5 (by kernel_rfl) (by kernel_rfl) (by kernel_rfl) (St.drew hS) ?_
  clear hS
  simp only [List.take_succ_cons, List.take_zero, List.drop_succ_cons, List.drop_zero]
  (refine Qg rfl ?_ (fun W hW => ?_) ?_; rotate_left; (focus (have c := (T0.out W hW).cellv (i := 0) rfl; go_simp; exact rfl)); simp only [Act.put, Qa, Qb, Qc])
  (refine Qg rfl ?_ (fun W hW => ?_) ?_; rotate_left; (focus (have c := (T1.out W hW).cellv (i := 0) rfl; go_simp; exact rfl)); simp only [Act.put, Qa, Qb, Qc])
  (refine Qg rfl ?_ (fun W hW => ?_) ?_; rotate_left; (focus (go_simp; exact rfl)); simp only [Act.put, Qa, Qb, Qc])
  (refine QE rfl 177 _ (fun W => by (go_simp; try rfl)) (.int .i64 d) (fun W hW => Hcall.out W (T2.out W hW)) ?_; simp only [Act.put, Qa, Qb, Qc])
  (refine Qg rfl ?_ (fun W hW => ?_) ?_; rotate_left; (focus (go_simp; exact rfl)); simp only [Act.put, Qa, Qb, Qc])
  refine QV fun W hS => ?_
  have h1 := T0.out W hS
  have b4 := T3.out W hS
  have o4 := Zc W G 0 (.int .i64 (max m d))
  have HF : Hid (KeepsFrom w4.heap.size V (W.setCell ⟨G, 0, none⟩ (.int .i64 (max m d))) ∧ KpX (fun i => i = G ∨ i = w4.heap.size + 1) V (W.setCell ⟨G, 0, none⟩ (.int .i64 (max m d))) ∧ Row (W.setCell ⟨G, 0, none⟩ (.int .i64 (max m d))) G 3 #[.int .i64 (depK (t.kids.take (pre ++ [(r : Int)]).length))] ∧ Row (W.setCell ⟨G, 0, none⟩ (.int .i64 (max m d))) LB 23 #[.slice A l.length cap] ∧ Below w.heap.size w (W.setCell ⟨G, 0, none⟩ (.int .i64 (max m d)))) :=
   ⟨(KpX.of_below b4).keeps (X := fun _ => False) (fun _ h => h.elim) |>.trans (KeepsFrom.of_only h1 o4), ((KpX.of_below b4).more (fun _ h => (h : False).elim)).trans (KpX.only o4 (.inl rfl)), by rw [List.length_append]; simp only [List.length_cons, List.length_nil, Nat.zero_add]; rw [Hdk.out]; exact h1.set 0 _, (T1.out W hS).only o4 (by omega), Qo (H3.out.trans (b4.mono s3)) o4 (by omega)⟩
  have c := h1.cellv (i := 0) (v := .int .i64 m) rfl
  have f := h1.free 0
  clear h1 b4 o4 T0 T1 T2 T3 Hcall Hdk hS
  go_wp2_with fail
  all_goals
   refine XK ?_
   first | rw [show max m d = d by omega] at HF | rw [show max m d = m by omega] at HF | skip
   gi_wp2_with fail
   exact HF.out
 case done =>
  rintro D ys V hD hys ⟨h1, h2, h3⟩ hK
  have hl4 : ys.length = t.kids.length := by rw [hys, Hat.out.kidsZ, List.length_map, JF]
  rw [hl4, List.take_length] at h1
  have hdd : XD t = depK t.kids + 1 := by cases t; rfl
  have hc := h1.cellv (i := 0) (v := .int .i64 (depK t.kids)) rfl
  have HK := Lh hK
  have H3 := Lh h3
  have Hdd := Lh hdd
  have hdI : depK t.kids ≤ 1000 := by have := Hat.out.le; have := Hl.out; omega
  have hd0 := AaF t.kids
  clear hK h1 h2 h3 hys hl4 hdd
  gi_wp2
  refine ⟨by simp, .inl ⟨_, _, rfl, run_takeDeferred HK.out, ?_⟩⟩
  refine ⟨_, results_tmp rfl _ _ _, ?_, H3.out.grown (grownBy_putObj' _ _ _) H3.out.size (fun k e => by cases e; omega)⟩
  rw [Hdd.out]
  rfl
end Go.Proofs.YtdcmppdhdcjpfaaGreat
namespace Go.Proofs.YtdcmppdhdcjpfaaGreat
open Go.RowKit
structure Whole (l : List Nd) (t : Tr) : Prop where
 hat : At l 0 t
 size : t.size = l.length
theorem Whole.of {l : List Nd} (h : endZ l 0 = (l.length : Int)) : ∃ t, Whole l t := by
 obtain ⟨t, hat, _⟩ := Yd (l := l) (a := 0) (by omega)
 have h2 := hat.endZ
 have h3 : endZ l 0 = ((0 + t.size : Nat) : Int) := by simpa using h2
 exact ⟨t, hat, by omega⟩
theorem Whole.endZ {l : List Nd} {t : Tr} (h : Whole l t) : endZ l 0 = (l.length : Int) := by
 have h2 := h.hat.endZ
 rw [h.size] at h2
 simpa using h2
theorem Whole.uniq {l : List Nd} {a b : Tr} (h : Whole l a) (k : Whole l b) : a = b := h.hat.uniq k.hat
theorem Whole.pos {l : List Nd} {t : Tr} (h : Whole l t) : 0 < l.length := by have := h.hat.lt; omega
theorem Good.whole {p : PgV} {t : Tr} (h : Good p t) : Whole p.body t := ⟨h.hat, h.size⟩
open Classical in
noncomputable def ZA (l : List Nd) : Int :=
 if l.length = 0 then 10 else if 200 < l.length then 4 else if ∃ x ∈ l, Qv x < 0 then 11 else if endZ l 0 ≠ (l.length : Int) then 12 else if ∃ t, Whole l t ∧ 30 < XD t then 13 else 0
theorem AbB {l : List Nd} (h : l.length = 0) : ZA l = 10 := by unfold ZA; rw [if_pos h]
theorem AbC {l : List Nd} (h : 200 < l.length) : ZA l = 4 := by unfold ZA; rw [if_neg (by omega), if_pos h]
theorem AbD {l : List Nd} (h0 : ¬ l.length = 0) (h1 : ¬ 200 < l.length) {x : Nd} (hx : x ∈ l) (h : Qv x < 0) : ZA l = 11 := by unfold ZA; rw [if_neg h0, if_neg h1, if_pos ⟨x, hx, h⟩]
theorem AbE {l : List Nd} (h0 : ¬ l.length = 0) (h1 : ¬ 200 < l.length) (h2 : ∀ x ∈ l, ¬ Qv x < 0) (h : endZ l 0 ≠ (l.length : Int)) : ZA l = 12 := by
 unfold ZA; rw [if_neg h0, if_neg h1, if_neg (fun ⟨x, hx, hn⟩ => h2 x hx hn), if_pos h]
theorem U6 {l : List Nd} (h1 : ¬ 200 < l.length) (h2 : ∀ x ∈ l, ¬ Qv x < 0) {t : Tr} (ht : Whole l t) : ZA l = if 30 < XD t then 13 else 0 := by
 have h0 := ht.pos
 unfold ZA
 rw [if_neg (by omega), if_neg h1, if_neg (fun ⟨x, hx, hn⟩ => h2 x hx hn), if_neg (fun h => h ht.endZ)]
 by_cases hd : 30 < XD t
 · rw [if_pos hd, if_pos ⟨t, ht, hd⟩]
 · rw [if_neg hd, if_neg (fun ⟨u, hu, hn⟩ => hd (by rw [ht.uniq hu]; exact hn))]
theorem EQ {l : List Nd} (h : ZA l = 0) : l.length ≤ 200 ∧ (∀ x ∈ l, ¬ Qv x < 0) ∧ ∃ t, Whole l t ∧ XD t ≤ 30 := by
 by_cases h0 : l.length = 0
 · rw [AbB h0] at h; cases h
 by_cases h1 : 200 < l.length
 · rw [AbC h1] at h; cases h
 by_cases h2 : ∃ x ∈ l, Qv x < 0
 · obtain ⟨x, hx, hn⟩ := h2
   rw [AbD h0 h1 hx hn] at h; cases h
 have h2' : ∀ x ∈ l, ¬ Qv x < 0 := fun x hx hn => h2 ⟨x, hx, hn⟩
 by_cases h3 : endZ l 0 = (l.length : Int)
 · obtain ⟨t, ht⟩ := Whole.of h3
   rw [U6 h1 h2' ht] at h
   refine ⟨by omega, h2', t, ht, ?_⟩
   by_cases hd : 30 < XD t
   · rw [if_pos hd] at h; cases h
   · omega
 · rw [AbE h0 h1 h2' h3] at h; cases h
open Classical in
noncomputable def Zb (p : PgV) : Int := if ZA p.body ≠ 0 then ZA p.body else if Jj p.params p.V ≠ 0 then 14 else if ∃ t, Good p t then 0 else 15
theorem AbF {p : PgV} (h : ZA p.body ≠ 0) : Zb p = ZA p.body := by unfold Zb; rw [if_pos h]
theorem AbG {p : PgV} (h : ZA p.body = 0) (h1 : Jj p.params p.V ≠ 0) : Zb p = 14 := by unfold Zb; rw [if_neg (by simp [h]), if_pos h1]
theorem U7 {p : PgV} (h : ZA p.body = 0) (h1 : Jj p.params p.V = 0) (h2 : ∀ t, ¬ Good p t) : Zb p = 15 := by
 unfold Zb; rw [if_neg (by simp [h]), if_neg (by simp [h1]), if_neg (fun ⟨t, ht⟩ => h2 t ht)]
theorem AbH {p : PgV} (h : ZA p.body = 0) (h1 : Jj p.params p.V = 0) {t : Tr} (h2 : Good p t) : Zb p = 0 := by
 unfold Zb; rw [if_neg (by simp [h]), if_neg (by simp [h1]), if_pos ⟨t, h2⟩]
structure Fine (p : PgV) (t : Tr) : Prop where
 good : Good p t
 len : p.body.length ≤ 200
 ar : ∀ x ∈ p.body, ¬ Qv x < 0
 dep : XD t ≤ 30
theorem checkP_ok {p : PgV} : Zb p = 0 ↔ ∃ t, Fine p t := by
 constructor
 · intro h
   by_cases h0 : ZA p.body = 0
   · by_cases h1 : Jj p.params p.V = 0
     · by_cases h2 : ∃ t, Good p t
       · obtain ⟨t, ht⟩ := h2
         obtain ⟨a, b, u, hu, c⟩ := EQ h0
         have : t = u := ht.whole.uniq hu
         exact ⟨t, ht, a, b, by rw [this]; exact c⟩
       · rw [U7 h0 h1 (fun t ht => h2 ⟨t, ht⟩)] at h; cases h
     · rw [AbG h0 h1] at h; cases h
   · rw [AbF h0] at h; exact absurd h h0
 · rintro ⟨t, ht⟩
   have ha : ZA p.body = 0 := by rw [U6 (by have := ht.len; omega) ht.ar ht.good.whole, if_neg (by have := ht.dep; omega)]
   refine AbH ha ?_ ht.good
   unfold Jj; rw [if_pos ht.good.vars]
end Go.Proofs.YtdcmppdhdcjpfaaGreat
