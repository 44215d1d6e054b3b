/- Lemmas for DirectMutantsP. -/
import Derived.Test.YtdcmppdhdcjpfaaGreatZp1
import Derived.Test.YtdcmppdhdcjpfaaGreatZp26
import Derived.Test.YtdcmppdhdcjpfaaGreatZp25
set_option linter.unusedVariables false
set_option linter.unusedSimpArgs false
set_option maxRecDepth 100000
set_option maxHeartbeats 16000000
namespace Go.Proofs.YtdcmppdhdcjpfaaGreat
open Go.RowKit Go.Deep
attribute [local go_sem] Oper.semAt_some
theorem U3 {P : Program} {fn : Func} {p p' : Tmp} {ty ty' : TypeId} (h : fn.results = #[.cell p ty, .cell p' ty']) (tmps : Array Value) (w : World) (a a' : Addr) (v v' : Value) (hp : tmps.getD p undef = .pointer (some a)) (hp' : tmps.getD p' undef = .pointer (some a'))
 (hv : (loadVar ty a).run P w = .ok v w) (hv' : (loadVar ty' a').run P w = .ok v' w) : (results fn tmps).run P w = .ok (.tuple #[v, v']) w := by
 have h1 : tmps[p]?.getD undef = .pointer (some a) := by simpa using hp
 have h2 : tmps[p']?.getD undef = .pointer (some a') := by simpa using hp'
 simp [results, h, h1, h2, asAddr, hv, hv']
theorem Row.abide {W W' : World} {g : Nat} {t : TypeId} {cs : Array Value} {row : Option Nat} {p : Nat → Prop} (h : Row W g t cs) (hg : W.grownBy W' row) (hr : ∀ r, row = some r → False ∨ (p r ∧ ∃ o : Obj, W.heap[r]? = some o ∧ o.isCells = false)) : Row W' g t cs :=
 h.grown hg (fun e => by
  rcases hr g e with h' | ⟨_, o, ho, hc⟩
  · exact h'
  · rw [h] at ho; cases ho; cases hc)
structure PathR (π : List Int) (w w' : World) (e : Ending) : Prop where
 ex : ∃ A cap, e = .returned (.tuple #[.slice A π.length cap, .bool true]) ∧ Rd w' A (Qg π) ∧ (A = none → π = []) ∧ Below w.heap.size w w' ∧ ∀ ad, A = some ad → w.heap.size ≤ ad.block
theorem KpX.only {X : Nat → Prop} {A B : World} {g : Nat} (o : Only g A B) (hg : X g) : KpX X A B := ⟨fun k p hx hp => by rw [o.block k (fun e => hx (e ▸ hg))]; exact hp, Nat.le_of_eq o.size.symm⟩
theorem Rd.only {A B : World} {ad : Option Addr} {xs : List Value} (h : Rd A ad xs) {g : Nat} (o : Only g A B) (hx : xs ≠ [] → ∀ a, ad = some a → a.block ≠ g) : Rd B ad xs :=
 (KpX.only (X := fun k => k = g) o rfl).rd h hx
theorem UL {A : World} {ad : Option Addr} {l : List Int} (h : Rd A ad (Qg l)) {g : Nat} {t : TypeId} {v : Value} (hr : Row A g t #[v]) (hv : ∀ n, v ≠ .int .i64 n) : Qg l ≠ [] → ∀ a, ad = some a → a.block ≠ g := fun hne a e hb => by
 cases l with
 | nil => exact hne rfl
 | cons x l =>
  obtain ⟨a', e', hc⟩ := h 0 (.int .i64 x) rfl
  rw [e] at e'; injection e' with e'; subst e'
  have hz : a.add 0 = a := by unfold Addr.add; rw [if_pos rfl]
  rw [hz] at hc
  have h1 : A.heap[a.block]? = some (.cells #[v] t (0, 0)) := by rw [hb]; exact hr
  unfold World.cell? at hc
  rw [h1] at hc
  simp only at hc
  split at hc
  · cases hc
  · by_cases h0 : a.off = 0
    · rw [h0] at hc
      exact hv x (by simpa using hc)
    · rw [Array.getElem?_eq_none (by simp; omega)] at hc; cases hc
theorem AbU (A : Option Addr) (cap : Nat) (l : List Nd) (t : Tr) (q : Nat) (π : List Int) (w : World) (hat : At l 0 t) (hsz : t.size = l.length) (hq : (QX [] 0 t)[q]? = some (q, π)) (hr : Rd w A (l.flatMap Nd.cells)) (hl : l.length ≤ 1000) :
 Calls Tryz.prog 243 #[.slice A l.length cap, .int .i64 (q : Int)] w fun e w' => PathR π w w' e := by
 have He := Lh (fun W h => Jc A cap l (0 : Int) W h hl)
 have hez : endZ l 0 = (l.length : Int) := by
  have := hat.endZ
  rw [hsz] at this
  simpa using this
 rw [hez] at He
 have Hr := Lh hr
 have Hl := Lh hl
 have Hat := Lh hat
 have Hsz := Lh hsz
 have Hq := Lh hq
 clear hr hl hat hsz hq hez
 refine (callsIn_wide (n := 0)).1 ?_
 refine callsIn_of_wp_marks Tryz.func243 rfl trivial ?_
 simp only [Tryz.ntmps243, List.size_toArray, List.length_cons, List.length_nil, Nat.reduceAdd, Nat.reduceSub, Array.replicate_succ, Array.replicate_zero, List.push_toArray, List.append_toArray, List.nil_append, List.cons_append]
 gi_wp2_with fail
 obtain ⟨B3, hB3⟩ : ∃ B, B = w.heap.size := ⟨_, rfl⟩
 obtain ⟨w1, hw1⟩ : ∃ w1, w1 = w.alloc (.cells #[.int .i64 (q : Int)] 3) := ⟨_, rfl⟩
 have r3 : Row w1 B3 3 #[.int .i64 (q : Int)] := by rw [hw1, hB3]; exact Row.new _ _ _
 have b1 : Below w.heap.size w w1 := by rw [hw1]; exact (Below.refl _ _).alloc (Nat.le_refl _) _
 obtain ⟨R4, hR4⟩ : ∃ B, B = w1.heap.size := ⟨_, rfl⟩
 obtain ⟨w2, hw2⟩ : ∃ w2, w2 = w1.alloc (.cells #[.slice none 0 0] 22) := ⟨_, rfl⟩
 have r4 : Row w2 R4 22 #[.slice none 0 0] := by rw [hw2, hR4]; exact Row.new _ _ _
 have b2 : Below w1.heap.size w1 w2 := by rw [hw2]; exact (Below.refl _ _).alloc (Nat.le_refl _) _
 obtain ⟨R5, hR5⟩ : ∃ B, B = w2.heap.size := ⟨_, rfl⟩
 obtain ⟨w3, hw3⟩ : ∃ w3, w3 = w2.alloc (.cells #[.bool false] 4) := ⟨_, rfl⟩
 have r5 : Row w3 R5 4 #[.bool false] := by rw [hw3, hR5]; exact Row.new _ _ _
 have b3 : Below w2.heap.size w2 w3 := by rw [hw3]; exact (Below.refl _ _).alloc (Nat.le_refl _) _
 have e4 : B3 + 1 = R4 := by rw [hR4, hw1, World.size_alloc, hB3]
 have e5 : R4 + 1 = R5 := by rw [hR5, hw2, World.size_alloc, hR4]
 rw [← hw1, ← hw2, ← hw3, ← hB3, e4, e5]
 clear e4 e5
 have l3 := r3.lt
 have l4 := r4.lt
 have bb : Below w.heap.size w w3 := b1.trans ((b2.mono b1.size).trans (b3.mono (by have := b1.size; have := b2.size; omega)))
 replace r3 := (r3.below b2 l3).below b3 (by have := b2.size; omega)
 replace r4 := r4.below b3 l4
 have g3 : w.heap.size ≤ B3 := by omega
 have g34 : B3 < R4 := by omega
 have g45 : R4 < R5 := by omega
 clear b1 b2 b3 hw1 hw2 hw3 hB3 hR4 hR5 l3 l4
 refine ⟨trivial, rfl, (callsIn_wide.2 (He.out w3 (Hr.out.go bb))).mono ?_⟩
 rintro e w4 ⟨rfl, b4⟩
 replace r3 := r3.below b4 r3.lt
 replace r4 := r4.below b4 r4.lt
 replace r5 := r5.below b4 r5.lt
 replace bb := bb.trans (b4.mono bb.size)
 clear b4 He
 gi_wp2_with fail
 refine ⟨trivial, rfl, (callsIn_wide.2 (Xs A cap l 0 none 0 [] w4)).mono ?_⟩
 rintro e w5 ⟨bl, ba, bo, rfl, rl, ra, ro, gl, ga, go, b5⟩
 have l5 := r5.lt
 replace r3 := r3.below b5 r3.lt
 replace r4 := r4.below b5 r4.lt
 replace r5 := r5.below b5 r5.lt
 replace bb := bb.trans (b5.mono bb.size)
 have hC : PathsC w.heap.size A cap l (fun k => k = R4 ∨ k = R5) ba bo bl none 0 [] 0 w5 := ⟨Hr.out.go bb, fun hne ad e h => by have := Xf Hr.out hne e; omega, rl, ra, ro, by omega, by omega, by omega, fun j u hj => by simp [Qg] at hj, fun h => absurd rfl h, fun _ => rfl, fun k hk => by have := r4.lt; have := r5.lt; omega, fun _ e => (nomatch e), bb.size⟩
 have Hit := Lh (AbO A cap l Hl.out t.size t 0 [] (Nat.le_refl _) (by have := Hsz.out; have := Hl.out; simp; omega) Hat.out w.heap.size (fun k => k = R4 ∨ k = R5) ba bo bl none 0 w5 hC)
 have Hb := Lh bb
 have s5 := r5.lt
 clear hC rl ra ro b5 l5 bb
 gi_wp2_with fail
 have HI0 : Hid ((Row w5 B3 3 #[.int .i64 (q : Int)] ∧ Row w5 R4 22 #[.slice none 0 0] ∧ Row w5 R5 4 #[.bool false]) ∧ Below w.heap.size w w5 ∧ ∀ x ∈ ([] : List PtX), x.to ≠ q) := ⟨⟨r3, r4, r5⟩, Hb.out, fun x hx => by simp at hx⟩
 have sb := Hb.out.size
 clear r3 r4 r5 Hb
 refine YG (gf := 284) (lb := #[.pointer (some ⟨ba, 0, none⟩), .pointer (some ⟨bo, 0, none⟩), .pointer (some ⟨bl, 0, none⟩)]) rfl (enters_of Tryz.func284 (by kernel_rfl) rfl) Hit.out (fun r h => h.elim)
  (fun h k => h.trans k) (fun V o o' ho hc => ⟨fun i p hx hp => by rw [World.putObj_heap_other (fun e => hx (.inr e))]; exact hp, by simp⟩) (World.grownBy.refl _ _) (fun _ => rfl)
  (fun pre V => (Row V B3 3 #[.int .i64 (q : Int)] ∧ Row V R4 22 #[.slice none 0 0] ∧ Row V R5 4 #[.bool false]) ∧ Below w.heap.size w V ∧ ∀ x ∈ pre, x.to ≠ q)
  (fun c pre V => c = .ret ∧ ∃ A' c', Row V R4 22 #[.slice A' π.length c'] ∧ Row V R5 4 #[.bool true] ∧ Rd V A' (Qg π) ∧ (A' = none → π = []) ∧ Below w.heap.size w V ∧ ∀ ad, A' = some ad → w.heap.size ≤ ad.block) (.inl trivial) ?hI ?hIx HI0.out
  (fun pre x a' V => a' = { tmps := #[.slice A l.length cap, .int .i64 (q : Int), undef, .pointer (some ⟨B3, 0, none⟩), .pointer (some ⟨R4, 0, none⟩), .pointer (some ⟨R5, 0, none⟩), .int .i64 (x.to : Int), .slice x.A x.l.length x.cap, .slice A l.length cap, .int .i64 (l.length : Int), .slice A l.length cap, .int .i64 (l.length : Int), .bool false, .slice A l.length cap, .func (.func 284) #[] #[.pointer (some ⟨ba, 0, none⟩), .pointer (some ⟨bo, 0, none⟩), .pointer (some ⟨bl, 0, none⟩)], .int .i64 (x.to : Int), .slice x.A x.l.length x.cap, undef, undef, undef, undef], defers := [] } ∧ PxP w.heap.size (QX [] 0 t) pre x V) ?hAx ?assign ?body ?done ?stop
 case hI =>
  rintro pre V V' row ⟨⟨h1, h2, h3⟩, h4, h5⟩ hg hr
  refine ⟨⟨h1.abide hg hr, h2.abide hg hr, h3.abide hg hr⟩, h4.grown hg h4.size (fun k e => ?_), h5⟩
  rcases hr k e with h | ⟨h, _⟩
  · exact h.elim
  · omega
 case hIx =>
  rintro c pre V V' row ⟨h0, A', c', h1, h2, h3, h4, h5, h6⟩ hg hr
  refine ⟨h0, A', c', h1.abide hg hr, h2.abide hg hr, h3.grown hg (fun k e => ?_), h4, h5.grown hg h5.size (fun k e => ?_), h6⟩
  · rcases hr k e with h | ⟨_, h⟩
    · exact h.elim
    · exact h
  · rcases hr k e with h | ⟨h, _⟩
    · exact h.elim
    · omega
 case hAx =>
  rintro pre x a' _ V V' row ⟨h1, ⟨h2, h4⟩, h3⟩ hg hr
  refine ⟨h1, ⟨⟨h2.rd.grown hg (fun i e => ?_), h2.nil, h2.len⟩, h4⟩, h3⟩
  rcases hr i e with h | ⟨h, o⟩
  · exact h.elim
  · exact o
 case assign =>
  rintro l3 pre x V K hI hP hK
  have HK := Lh hK
  have HI := Lh hI
  have HP := Lh hP
  clear hK hI hP
  unfold PtX.enc
  gi_wp2_with fail
  exact HK.out _ _ (KeepsFrom.refl _ _) (KpX.refl _ _) HI.out ⟨rfl, HP.out⟩
 case body =>
  rintro l3 pre x a' V hl3 _ ⟨⟨h3, h4, h5⟩, hb, hall⟩ ⟨rfl, ⟨hok, hlo⟩, rest, hrest⟩ hlen
  have hx : (QX [] 0 t)[pre.length]? = some (x.to, x.l) := by rw [← hrest, List.getElem?_append_right (by simp)]; simp [PtX.f]
  have hxt := Yz t [] 0 pre.length _ hx
  simp only at hxt
  have c3 := h3.cellv (i := 0) (v := .int .i64 (q : Int)) rfl
  by_cases hxq : x.to = q
  · have hpq : pre.length = q := by omega
    have hπ : x.l = π := by
     rw [hpq, Hq.out] at hx
     injection hx with hx; injection hx with _ hx; exact hx.symm
    have hrd := hok.rd
    have hni := hok.nil
    rw [hπ] at hrd hni ⊢
    rw [hxq]
    have hqq : ((q : Int) == (q : Int)) = true := by simp
    have o4 := ZD V R4 0 (.slice x.A π.length x.cap)
    have o5 := ZD (V.setCell ⟨R4, 0, none⟩ (.slice x.A π.length x.cap)) R5 0 (.bool true)
    have n45 : R4 ≠ R5 := by omega
    have k4 := h4.set 0 (.slice x.A π.length x.cap)
    have k5 := (h5.only o4 (Ne.symm n45)).set 0 (.bool true)
    have q4 := k4.only o5 n45
    have hrd5 := (hrd.only o4 (UL hrd h4 (by simp))).only o5 (UL (hrd.only o4 (UL hrd h4 (by simp))) (h5.only o4 (Ne.symm n45)) (by simp))
    have HF : Hid (KeepsFrom w5.heap.size V ((V.setCell ⟨R4, 0, none⟩ (.slice x.A π.length x.cap)).setCell ⟨R5, 0, none⟩ (.bool true)) ∧ KpX (fun i => (i = R4 ∨ i = R5) ∨ i = w5.heap.size + 1) V ((V.setCell ⟨R4, 0, none⟩ (.slice x.A π.length x.cap)).setCell ⟨R5, 0, none⟩ (.bool true)) ∧ ∃ A' c', Row ((V.setCell ⟨R4, 0, none⟩ (.slice x.A π.length x.cap)).setCell ⟨R5, 0, none⟩ (.bool true)) R4 22 #[.slice A' π.length c'] ∧ Row ((V.setCell ⟨R4, 0, none⟩ (.slice x.A π.length x.cap)).setCell ⟨R5, 0, none⟩ (.bool true)) R5 4 #[.bool true] ∧ Rd ((V.setCell ⟨R4, 0, none⟩ (.slice x.A π.length x.cap)).setCell ⟨R5, 0, none⟩ (.bool true)) A' (Qg π) ∧ (A' = none → π = []) ∧ Below w.heap.size w ((V.setCell ⟨R4, 0, none⟩ (.slice x.A π.length x.cap)).setCell ⟨R5, 0, none⟩ (.bool true)) ∧ ∀ ad, A' = some ad → w.heap.size ≤ ad.block) :=
     ⟨(KeepsFrom.of_only h4 o4).trans (KeepsFrom.of_only (h5.only o4 (Ne.symm n45)) o5), (KpX.only o4 (.inl (.inl rfl))).trans (KpX.only o5 (.inl (.inr rfl))), x.A, x.cap, q4, k5, hrd5, hni, Qv (Qv hb o4 (by omega)) o5 (by omega), hlo⟩
    have c4 := h4.cellv (i := 0) (v := .slice none 0 0) rfl
    have f4 := h4.free 0
    have c5 := (h5.only o4 (Ne.symm n45)).cellv (i := 0) (v := .bool false) rfl
    have f5 := (h5.only o4 (Ne.symm n45)).free 0
    clear hxq hpq hπ hrd hni hx hxt hok hrest hall hb h3 h4 h5 k4 k5 q4 hrd5 o4 o5 hlen hl3
    gi_wp2_with fail
    obtain ⟨e1, e2, A', c', e3, e4⟩ := HF.out
    exact ⟨e1, e2, rfl, A', ⟨c', e3⟩, e4⟩
  · have hqq : ((x.to : Int) == (q : Int)) = false := by simp; omega
    have HF : Hid (KeepsFrom w5.heap.size V V ∧ KpX (fun i => (i = R4 ∨ i = R5) ∨ i = w5.heap.size + 1) V V ∧ (Row V B3 3 #[.int .i64 (q : Int)] ∧ Row V R4 22 #[.slice none 0 0] ∧ Row V R5 4 #[.bool false]) ∧ Below w.heap.size w V ∧ ∀ y ∈ pre ++ [x], y.to ≠ q) := ⟨KeepsFrom.refl _ _, KpX.refl _ _, ⟨h3, h4, h5⟩, hb, fun y hy => by
     rcases List.mem_append.1 hy with hy | hy
     · exact hall y hy
     · simp at hy; subst hy; exact hxq⟩
    clear hxq hx hxt hok hrest hall hb h3 h4 h5 hlen hl3
    gi_wp2_with fail
    exact HF.out
 case stop =>
  rintro D c pre V hD _ ⟨rfl, A', c', h1, h2, h3, h4, h5, h6⟩ hK
  have HF : Hid (Row (V.putObj D (.deferred none)) R4 22 #[.slice A' π.length c'] ∧ Row (V.putObj D (.deferred none)) R5 4 #[.bool true] ∧ Rd (V.putObj D (.deferred none)) A' (Qg π) ∧ Below w.heap.size w (V.putObj D (.deferred none))) := ⟨h1.abide (p := fun _ => True) (grownBy_putObj' _ _ _) (fun r e => by cases e; exact .inr ⟨trivial, _, hK, rfl⟩), h2.abide (p := fun _ => True) (grownBy_putObj' _ _ _) (fun r e => by cases e; exact .inr ⟨trivial, _, hK, rfl⟩), h3.grown (grownBy_putObj' _ _ _) (fun r e => by cases e; exact ⟨_, hK, rfl⟩), h5.grown (grownBy_putObj' _ _ _) h5.size (fun k e => by cases e; omega)⟩
  have HK := Lh hK
  have H4 := Lh h4
  have H6 := Lh h6
  clear hK h1 h2 h3 h4 h5 h6 hD
  gi_wp2_with fail
  refine ⟨by simp, .inl ⟨_, _, rfl, run_takeDeferred HK.out, ?_⟩⟩
  refine ⟨_, U3 Tryz.results243 _ _ ⟨R4, 0, none⟩ ⟨R5, 0, none⟩ (.slice A' π.length c') (.bool true) rfl rfl ?_ ?_, ⟨A', c', rfl, HF.out.2.2.1, H4.out, HF.out.2.2.2, H6.out⟩⟩
  · have c := HF.out.1.cellv (i := 0) (v := .slice A' π.length c') rfl
    simp [loadVar, go_sem, c]
  · have c := HF.out.2.1.cellv (i := 0) (v := .bool true) rfl
    simp [loadVar, go_sem, c]
 case done =>
  rintro D xs V hD hxs ⟨_, _, hall⟩ hK
  exfalso
  have h1 := Hq.out
  rw [← hxs, List.getElem?_map] at h1
  obtain ⟨x, hx, he⟩ := Option.map_eq_some_iff.1 h1
  exact hall x (List.mem_of_getElem? hx) (by injection he)
end Go.Proofs.YtdcmppdhdcjpfaaGreat
namespace Go.Proofs.YtdcmppdhdcjpfaaGreat
open Go.RowKit Go.Deep
attribute [local go_sem] Oper.semAt_some
theorem Qp (a : Addr) : a.add 0 = a := by unfold Addr.add; rw [if_pos rfl]
structure KpG (Z : Nat → Obj → Prop) (A B : World) : Prop where
 block : ∀ k o, ¬ Z k o → A.heap[k]? = some o → B.heap[k]? = some o
 size : A.heap.size ≤ B.heap.size
theorem KpG.trans {Z : Nat → Obj → Prop} {A B C : World} (h : KpG Z A B) (k : KpG Z B C) : KpG Z A C := ⟨fun i o hx ho => k.block i o hx (h.block i o hx ho), Nat.le_trans h.size k.size⟩
theorem KpG.refl (Z : Nat → Obj → Prop) (A : World) : KpG Z A A := ⟨fun _ _ _ h => h, Nat.le_refl _⟩
theorem KpG.of_below {Z : Nat → Obj → Prop} {A B : World} (h : Below A.heap.size A B) : KpG Z A B := ⟨fun k o _ ho => by rw [h.block k (Array.getElem?_eq_some_iff.1 ho).1]; exact ho, h.size⟩
theorem KpG.row {Z : Nat → Obj → Prop} {A B : World} (h : KpG Z A B) {g : Nat} {t : TypeId} {cs : Array Value} (hr : Row A g t cs) (hx : ¬ Z g (.cells cs t (0, 0))) : Row B g t cs := h.block g _ hx hr
theorem KpG.rd {Z : Nat → Obj → Prop} {A B : World} (h : KpG Z A B) {ad : Option Addr} {xs : List Value} (hr : Rd A ad xs) (hx : xs ≠ [] → ∀ a, ad = some a → ∀ o, ¬ Z a.block o) : Rd B ad xs := fun j u hj => by
 obtain ⟨a, e, hc⟩ := hr j u hj
 have hne : xs ≠ [] := fun e => by rw [e] at hj; simp at hj
 have hlt := World.block_lt_of_cell? _ _ hc
 have hbl : (a.add j).block = a.block := JN a j
 rw [hbl] at hlt
 have h1 : A.heap[a.block]? = some A.heap[a.block] := Array.getElem?_eq_getElem hlt
 have h2 := h.block _ _ (hx hne a e _) h1
 exact ⟨a, e, (World.cell?_of_block (by rw [hbl]; exact h2.trans h1.symm)).trans hc⟩
theorem Er {W : World} {g : Nat} {t : TypeId} {v : Value} (h : Row W g t #[v]) : W.setCell ⟨g, 0, none⟩ v = W := by
 have h1 := h.set 0 v
 have o1 := ZD W g 0 v
 rw [show (#[v] : Array Value).setIfInBounds 0 v = #[v] by simp] at h1
 have hh : (W.setCell ⟨g, 0, none⟩ v).heap = W.heap := by
  apply Array.ext_getElem?
  intro k
  by_cases hk : k = g
  · subst hk; rw [show (W.setCell ⟨k, 0, none⟩ v).heap[k]? = _ from h1, show W.heap[k]? = _ from h]
  · exact o1.block k hk
 have he : W.setCell ⟨g, 0, none⟩ v = { W with heap := (W.setCell ⟨g, 0, none⟩ v).heap } := rfl
 rw [he, hh]
structure LsX where
 op : Int
 A : Option Addr
 cap : Nat
 l : List Int
def LsX.f (x : LsX) : Int × List Int := (x.op, x.l)
def LsX.enc (x : LsX) : Array Value := #[.int .i64 x.op, .slice x.A x.l.length x.cap]
structure LsX.ok (x : LsX) (W : World) : Prop where
 rd : Rd W x.A (Qg x.l)
 nil : x.A = none → x.l = []
 ty : IntB W x.A
def LsP (full : List (Int × List Int)) (pre : List LsX) (x : LsX) (W : World) : Prop := x.ok W ∧ ∃ rest, pre.map LsX.f ++ x.f :: rest = full
def Zm (x y : Nd) : List (Int × List Int) :=
 (if 7 ≤ x.tag ∧ x.tag ≤ 11 then [(1, Z8 7 11 x.tag)] else if 12 ≤ x.tag ∧ x.tag ≤ 17 then [(2, Z8 12 17 x.tag)] else if x.tag = 18 ∨ x.tag = 19 then [(3, Z8 18 19 x.tag)]
  else if x.tag = 1 then [(4, JH x.n [0, 1, -1, wrap64 (x.n + 1), wrap64 (x.n - 1)])] else if x.tag = 2 then [(4, [wrap64 (1 - x.n)])] else [])
 ++ (if x.tag = 21 ∨ x.tag = 22 ∨ x.tag = 23 ∨ x.tag = 24 ∨ x.tag = 25 then [(5, [0])] else [])
 ++ (if x.tag = 23 ∨ x.tag = 24 then [(6, [0])] else if x.tag = 25 then [(7, Zt y)] else [])
structure TellC (lb mo yb : Nat) (Z : Nat → Obj → Prop) (W : World) : Prop where
 rm : Row W mo 4 #[.bool true]
 ry : Row W yb 329 #[.func (.yield lb) #[] #[]]
 zm : ∀ cs fr, ¬ Z mo (.cells cs 4 fr)
 zy : ∀ cs fr, ¬ Z yb (.cells cs 329 fr)
theorem TellC.kg {lb mo yb : Nat} {Z : Nat → Obj → Prop} {W W' : World} (h : TellC lb mo yb Z W) (k : KpG Z W W') : TellC lb mo yb Z W' := ⟨k.row h.rm (h.zm _ _), k.row h.ry (h.zy _ _), h.zm, h.zy⟩
theorem Z0 (lb mo yb : Nat) (Z : Nat → Obj → Prop) (W : World) (x : LsX) (R : World → Prop) (hC : TellC lb mo yb Z W)
 (hY : YieldAt Fence.wide 0 Tryz.prog lb x.enc W fun e W' => e = .returned (.bool true) ∧ R W' ∧ KpG Z W W') :
 CallsIn Fence.wide 0 Tryz.prog 286 #[.int .i64 x.op, .slice x.A x.l.length x.cap, .pointer (some ⟨mo, 0, none⟩), .pointer (some ⟨yb, 0, none⟩)] W fun e W' => (∃ v, e = .returned v) ∧ R W' ∧ KpG Z W W' := by
 have HC := Lh hC
 obtain ⟨fn, tmps, assign, body, hy, hR⟩ := hY
 have hy' : (Instr.yield lb #[.int .i64 x.op, .slice x.A x.l.length x.cap]).run Tryz.prog W = .ok (.round lb fn tmps assign body) W := hy
 have HR := Lh hR
 clear hy hR hC
 have cm := HC.out.rm.cellv (i := 0) (v := .bool true) rfl
 have cy := HC.out.ry.cellv (i := 0) (v := .func (.yield lb) #[] #[]) rfl
 refine callsIn_of_wp Tryz.func286 rfl trivial ?_ rfl
 simp only [Tryz.ntmps286, List.size_toArray, List.length_cons, List.length_nil, Nat.reduceAdd, Nat.reduceSub, Array.replicate_succ, Array.replicate_zero, List.push_toArray, List.append_toArray, List.nil_append, List.cons_append]
 gi_wp2_with fail
 refine ⟨rfl, HR.out.mono ?_⟩
 clear hy' HR cm cy
 rintro e W2 ⟨rfl, hr, hk⟩
 have hC2 := HC.out.kg hk
 have cm2 := hC2.rm.cellv (i := 0) (v := .bool true) rfl
 have fm2 := hC2.rm.free 0
 have Hs := Lh (Er hC2.rm)
 have HF : Hid (R W2 ∧ KpG Z W W2) := ⟨hr, hk⟩
 clear hr hk hC2
 gi_wp2_with fail
 rw [Hs.out]
 go_end0
 exact ⟨⟨_, rfl⟩, HF.out⟩
structure ListsC (A : Option Addr) (cap n bl Rb : Nat) (x : Nd) (ys : List Nd) (Z : Nat → Obj → Prop) (w : World) : Prop where
 rl : Row w bl 23 #[.slice A n cap]
 hr : Rd w A ((x :: ys).flatMap Nd.cells)
 hn : n = (x :: ys).length
 z1 : ∀ k o, k < w.heap.size → k ≠ Rb → ¬ Z k o
 bn : bl ≠ Rb
 an : ∀ ad, A = some ad → ad.block ≠ Rb
 z2 : ∀ k cs t fr, w.heap.size ≤ k → (t = 329 ∨ t = 85 ∨ t = 4 ∨ t = 3) → ¬ Z k (.cells cs t fr)
 h25 : x.tag = 25 → ys ≠ []
end Go.Proofs.YtdcmppdhdcjpfaaGreat
