/- Lemmas for VerdictJustP. -/
import Derived.Test.YtdcmppdhdcjpfaaGreatZy9
import Derived.Test.YtdcmppdhdcjpfaaGreatZy1
import Derived.Test.YtdcmppdhdcjpfaaGreatZy2
import Derived.Test.YtdcmppdhdcjpfaaGreatZy7
import Derived.OrdersIn
import Derived.RangeFuncCalls
set_option linter.unusedVariables false
set_option linter.unusedSimpArgs false
set_option maxRecDepth 100000
set_option maxHeartbeats 16000000
namespace Go.Proofs.YtdcmppdhdcjpfaaGreat
open Go.RowKit Go.Deep
attribute [local go_sem] Oper.semAt_some
theorem EL {P : Program} {fn : Func} {p p' : Tmp} {ty ty' : TypeId} (h : fn.results = #[.cell p ty, .cell p' ty']) (tmps : Array Value) (w : World) (a a' : Addr) (v v' : Value) (hp : tmps.getD p undef = .pointer (some a)) (hp' : tmps.getD p' undef = .pointer (some a'))
 (hv : (loadVar ty a).run P w = .ok v w) (hv' : (loadVar ty' a').run P w = .ok v' w) : (results fn tmps).run P w = .ok (.tuple #[v, v']) w := by
 have c : tmps[p]?.getD undef = .pointer (some a) := by simpa using hp
 have d : tmps[p']?.getD undef = .pointer (some a') := by simpa using hp'
 simp [results, h, c, d, asAddr, hv, hv']
theorem Row.abide {W W' : World} {g : Nat} {t : TypeId} {cs : Array Value} {row : Option Nat} {p : Nat → Prop} (h : Row W g t cs) (hg : W.grownBy W' row) (hr : ∀ r, row = some r → False ∨ (p r ∧ ∃ o : Obj, W.heap[r]? = some o ∧ o.isCells = false)) : Row W' g t cs :=
 h.grown hg (fun e => by
  rcases hr g e with h' | ⟨_, o, ho, hc⟩
  · exact h'
  · rw [h] at ho; cases ho; cases hc)
structure PathR (π : List Int) (w w' : World) (e : Ending) : Prop where
 ex : ∃ A cap, e = .returned (.tuple #[.slice A π.length cap, .bool true]) ∧ Rd w' A (Qi π) ∧ (A = none → π = []) ∧ Below w.heap.size w w' ∧ ∀ ad, A = some ad → w.heap.size ≤ ad.block
theorem KpX.only {X : Nat → Prop} {A B : World} {g : Nat} (o : Only g A B) (hg : X g) : KpX X A B := ⟨fun k p hx hp => by rw [o.block k (fun e => hx (e ▸ hg))]; exact hp, LA o.size.symm⟩
theorem Rd.only {A B : World} {ad : Option Addr} {xs : List Value} (h : Rd A ad xs) {g : Nat} (o : Only g A B) (hx : xs ≠ [] → ∀ a, ad = some a → a.block ≠ g) : Rd B ad xs :=
 (KpX.only (X := fun k => k = g) o rfl).rd h hx
theorem EK {A : World} {ad : Option Addr} {l : List Int} (h : Rd A ad (Qi l)) {g : Nat} {t : TypeId} {v : Value} (hr : Row A g t #[v]) (hv : ∀ n, v ≠ .int .i64 n) : Qi l ≠ [] → ∀ a, ad = some a → a.block ≠ g := fun hne a e hb => by
 cases l with
 | nil => exact hne rfl
 | cons x l =>
  obtain ⟨m, d, c⟩ := h 0 (.int .i64 x) rfl;rw [e] at d; injection d with d; subst d;have k : a.add 0 = a := by unfold Addr.add; rw [if_pos rfl]
  rw [k] at c;have j : A.heap[a.block]? = some (.cells #[v] t (0, 0)) := by rw [hb]; exact hr
  unfold World.cell? at c;rw [j] at c;simp only at c;split at c
  · cases c
  · by_cases i : a.off = 0
    · rw [i] at c;exact hv x (by simpa using c)
    · rw [Array.getElem?_eq_none (by simp; omega)] at c; cases c
theorem AeI (A : Option Addr) (cap : Nat) (l : List Nd) (t : Tr) (q : Nat) (π : List Int) (w : World) (hat : At l 0 t) (hsz : t.size = l.length) (hq : (QY [] 0 t)[q]? = some (q, π)) (hr : Rd w A (l.flatMap Nd.cells)) (hl : l.length ≤ 1000) :
 Calls Tryz.prog 243 #[.slice A l.length cap, .int .i64 (q : Int)] w fun e w' => PathR π w w' e := by
 have He := Lh (fun W h => Jq A cap l (0 : Int) W h hl)
 have ar : endZ l 0 = (l.length : Int) := by
  have := hat.endZ;rw [hsz] at this;simpa using this
 rw [ar] at He;have Hr := Lh hr;have Hl := Lh hl;have ax := Lh hat;have az := Lh hsz;have Hq := Lh hq;clear hr hl hat hsz hq ar;refine (callsIn_wide (n := 0)).1 ?_;refine callsIn_of_wp_marks Tryz.func243 rfl trivial ?_;simp only [Tryz.ntmps243, Lj, Ld, Lp, Nat.reduceAdd, Nat.reduceSub, Ll, Lm, Lr, L2, Lo, Lk];gi_wp2_with fail
 obtain ⟨B3, ah⟩ : ∃ B, B = w.heap.size := ⟨_, rfl⟩;obtain ⟨w1, af⟩ : ∃ w1, w1 = w.alloc (.cells #[.int .i64 (q : Int)] 3) := ⟨_, rfl⟩;have r3 : Row w1 B3 3 #[.int .i64 (q : Int)] := by rw [af, ah]; exact Row.new _ _ _
 have b1 : Below w.heap.size w w1 := by rw [af]; exact (Below.refl _ _).alloc (Nat.le_refl _) _
 obtain ⟨g, ai⟩ : ∃ B, B = w1.heap.size := ⟨_, rfl⟩;obtain ⟨w2, ag⟩ : ∃ w2, w2 = w1.alloc (.cells #[.slice none 0 0] 22) := ⟨_, rfl⟩;have r4 : Row w2 g 22 #[.slice none 0 0] := by rw [ag, ai]; exact Row.new _ _ _
 have b2 : Below w1.heap.size w1 w2 := by rw [ag]; exact (Below.refl _ _).alloc (Nat.le_refl _) _
 obtain ⟨m, ao⟩ : ∃ B, B = w2.heap.size := ⟨_, rfl⟩;obtain ⟨w3, ak⟩ : ∃ w3, w3 = w2.alloc (.cells #[.bool false] 4) := ⟨_, rfl⟩;have r5 : Row w3 m 4 #[.bool false] := by rw [ak, ao]; exact Row.new _ _ _
 have b3 : Below w2.heap.size w2 w3 := by rw [ak]; exact (Below.refl _ _).alloc (Nat.le_refl _) _
 have e4 : B3 + 1 = g := by rw [ai, af, World.size_alloc, ah]
 have e5 : g + 1 = m := by rw [ao, ag, World.size_alloc, ai]
 rw [← af, ← ag, ← ak, ← ah, e4, e5];clear e4 e5;have l3 := r3.lt;have l4 := r4.lt;have bb : Below w.heap.size w w3 := b1.trans ((b2.mono b1.size).trans (b3.mono (by have := b1.size; have := b2.size; omega)));replace r3 := (r3.below b2 l3).below b3 (by have := b2.size; omega);replace r4 := r4.below b3 l4;have g3 : w.heap.size ≤ B3 := by omega
 have a5 : B3 < g := by omega
 have a6 : g < m := by omega
 clear b1 b2 b3 af ag ak ah ai ao l3 l4;refine ⟨trivial, rfl, (callsIn_wide.2 (He.out w3 (Hr.out.go bb))).mono ?_⟩;rintro e w4 ⟨rfl, b4⟩;replace r3 := r3.below b4 r3.lt;replace r4 := r4.below b4 r4.lt;replace r5 := r5.below b4 r5.lt;replace bb := bb.trans (b4.mono bb.size);clear b4 He;gi_wp2_with fail
 refine ⟨trivial, rfl, (callsIn_wide.2 (Yr A cap l 0 none 0 [] w4)).mono ?_⟩;rintro e w5 ⟨bl, ba, bo, rfl, rl, ra, ro, gl, ga, go, b5⟩;have l5 := r5.lt;replace r3 := r3.below b5 r3.lt;replace r4 := r4.below b5 r4.lt;replace r5 := r5.below b5 r5.lt;replace bb := bb.trans (b5.mono bb.size);have hC : PathsC w.heap.size A cap l (fun k => k = g ∨ k = m) ba bo bl none 0 [] 0 w5 := ⟨Hr.out.go bb, fun a1 ad e h => by have := XJ Hr.out a1 e; omega, rl, ra, ro, by omega, by omega, by omega, fun j u hj => by simp [Qi] at hj, fun h => absurd rfl h, fun _ => rfl, fun k hk => by have := r4.lt; have := r5.lt; omega, fun _ e => (nomatch e), bb.size⟩;have ay := Lh (AeJ A cap l Hl.out t.size t 0 [] (Nat.le_refl _) (by have := az.out; have := Hl.out; simp; omega) ax.out w.heap.size (fun k => k = g ∨ k = m) ba bo bl none 0 w5 hC);have Hb := Lh bb;have s5 := r5.lt;clear hC rl ra ro b5 l5 bb;gi_wp2_with fail
 have aw : Hid ((Row w5 B3 3 #[.int .i64 (q : Int)] ∧ Row w5 g 22 #[.slice none 0 0] ∧ Row w5 m 4 #[.bool false]) ∧ Below w.heap.size w w5 ∧ ∀ x ∈ ([] : List PtX), x.to ≠ q) := ⟨⟨r3, r4, r5⟩, Hb.out, fun x hx => by simp at hx⟩;have sb := Hb.out.size;clear r3 r4 r5 Hb
 refine Ys (gf := 284) (lb := #[.pointer (some ⟨ba, 0, none⟩), .pointer (some ⟨bo, 0, none⟩), .pointer (some ⟨bl, 0, none⟩)]) rfl (enters_of Tryz.func284 (by kernel_rfl) rfl) ay.out (fun r h => h.elim)
  (fun h k => h.trans k) (fun V o o' ho hc => ⟨fun i p hx hp => by rw [World.putObj_heap_other (fun e => hx (.inr e))]; exact hp, by simp⟩) (World.grownBy.refl _ _) (fun _ => rfl)
  (fun d V => (Row V B3 3 #[.int .i64 (q : Int)] ∧ Row V g 22 #[.slice none 0 0] ∧ Row V m 4 #[.bool false]) ∧ Below w.heap.size w V ∧ ∀ x ∈ d, x.to ≠ q)
  (fun c d V => c = .ret ∧ ∃ s c', Row V g 22 #[.slice s π.length c'] ∧ Row V m 4 #[.bool true] ∧ Rd V s (Qi π) ∧ (s = none → π = []) ∧ Below w.heap.size w V ∧ ∀ ad, s = some ad → w.heap.size ≤ ad.block) (.inl trivial) ?hI ?hIx aw.out
  (fun d x a' V => a' = { tmps := #[.slice A l.length cap, .int .i64 (q : Int), undef, .pointer (some ⟨B3, 0, none⟩), .pointer (some ⟨g, 0, none⟩), .pointer (some ⟨m, 0, none⟩), .int .i64 (x.to : Int), .slice x.A x.l.length x.cap, .slice A l.length cap, .int .i64 (l.length : Int), .slice A l.length cap, .int .i64 (l.length : Int), .bool false, .slice A l.length cap, .func (.func 284) #[] #[.pointer (some ⟨ba, 0, none⟩), .pointer (some ⟨bo, 0, none⟩), .pointer (some ⟨bl, 0, none⟩)], .int .i64 (x.to : Int), .slice x.A x.l.length x.cap, undef, undef, undef, undef], defers := [] } ∧ PxP w.heap.size (QY [] 0 t) d x V) ?hAx ?assign ?body ?done ?stop
 case hI =>
  rintro d V V' row ⟨⟨h1, h2, h3⟩, z, h5⟩ hg hr;refine ⟨⟨h1.abide hg hr, h2.abide hg hr, h3.abide hg hr⟩, z.grown hg z.size (fun k e => ?_), h5⟩;rcases hr k e with h | ⟨h, _⟩
  · exact h.elim
  · omega
 case hIx =>
  rintro c d V V' row ⟨h0, s, c', h1, h2, h3, z, h5, h6⟩ hg hr;refine ⟨h0, s, c', h1.abide hg hr, h2.abide hg hr, h3.grown hg (fun k e => ?_), z, h5.grown hg h5.size (fun k e => ?_), h6⟩
  · rcases hr k e with h | ⟨_, h⟩
    · exact h.elim
    · exact h
  · rcases hr k e with h | ⟨h, _⟩
    · exact h.elim
    · omega
 case hAx =>
  rintro d x a' _ V V' row ⟨h1, ⟨h2, z⟩, h3⟩ hg hr;refine ⟨h1, ⟨⟨h2.rd.grown hg (fun i e => ?_), h2.nil, h2.len⟩, z⟩, h3⟩;rcases hr i e with h | ⟨h, o⟩
  · exact h.elim
  · exact o
 case assign =>
  rintro l3 d x V K hI hP hK;have HK := Lh hK;have HI := Lh hI;have HP := Lh hP;clear hK hI hP;unfold PtX.enc;gi_wp2_with fail
  exact HK.out _ _ (KeepsFrom.refl _ _) (KpX.refl _ _) HI.out ⟨rfl, HP.out⟩
 case body =>
  rintro l3 d x a' V au _ ⟨⟨h3, z, h5⟩, hb, aa⟩ ⟨rfl, ⟨aj, a0⟩, a4, ab⟩ am;have hx : (QY [] 0 t)[d.length]? = some (x.to, x.l) := by rw [← ab, Lu (by simp)]; simp [PtX.f]
  have aq := U2 t [] 0 d.length _ hx;simp only at aq;have c3 := h3.cellv (i := 0) (v := .int .i64 (q : Int)) rfl;by_cases al : x.to = q
  · have av : d.length = q := by omega
    have hπ : x.l = π := by
     rw [av, Hq.out] at hx;injection hx with hx; injection hx with _ hx; exact hx.symm
    have ac := aj.rd;have ap := aj.nil;rw [hπ] at ac ap ⊢;rw [al];have a2 : ((q : Int) == (q : Int)) = true := by simp
    have o4 := Zh V g 0 (.slice x.A π.length x.cap);have o5 := Zh (V.setCell ⟨g, 0, none⟩ (.slice x.A π.length x.cap)) m 0 (.bool true);have ae : g ≠ m := by omega
    have k4 := z.set 0 (.slice x.A π.length x.cap);have k5 := (h5.only o4 (Ne.symm ae)).set 0 (.bool true);have q4 := k4.only o5 ae;have an := (ac.only o4 (EK ac z (by simp))).only o5 (EK (ac.only o4 (EK ac z (by simp))) (h5.only o4 (Ne.symm ae)) (by simp))
    have HF : Hid (KeepsFrom w5.heap.size V ((V.setCell ⟨g, 0, none⟩ (.slice x.A π.length x.cap)).setCell ⟨m, 0, none⟩ (.bool true)) ∧ KpX (fun i => (i = g ∨ i = m) ∨ i = w5.heap.size + 1) V ((V.setCell ⟨g, 0, none⟩ (.slice x.A π.length x.cap)).setCell ⟨m, 0, none⟩ (.bool true)) ∧ ∃ s c', Row ((V.setCell ⟨g, 0, none⟩ (.slice x.A π.length x.cap)).setCell ⟨m, 0, none⟩ (.bool true)) g 22 #[.slice s π.length c'] ∧ Row ((V.setCell ⟨g, 0, none⟩ (.slice x.A π.length x.cap)).setCell ⟨m, 0, none⟩ (.bool true)) m 4 #[.bool true] ∧ Rd ((V.setCell ⟨g, 0, none⟩ (.slice x.A π.length x.cap)).setCell ⟨m, 0, none⟩ (.bool true)) s (Qi π) ∧ (s = none → π = []) ∧ Below w.heap.size w ((V.setCell ⟨g, 0, none⟩ (.slice x.A π.length x.cap)).setCell ⟨m, 0, none⟩ (.bool true)) ∧ ∀ ad, s = some ad → w.heap.size ≤ ad.block) :=
     ⟨(KeepsFrom.of_only z o4).trans (KeepsFrom.of_only (h5.only o4 (Ne.symm ae)) o5), (KpX.only o4 (.inl (.inl rfl))).trans (KpX.only o5 (.inl (.inr rfl))), x.A, x.cap, q4, k5, an, ap, Qo (Qo hb o4 (by omega)) o5 (by omega), a0⟩
    have c4 := z.cellv (i := 0) (v := .slice none 0 0) rfl;have f4 := z.free 0;have c5 := (h5.only o4 (Ne.symm ae)).cellv (i := 0) (v := .bool false) rfl;have f5 := (h5.only o4 (Ne.symm ae)).free 0;clear al av hπ ac ap hx aq aj ab aa hb h3 z h5 k4 k5 q4 an o4 o5 am au;gi_wp2_with fail
    obtain ⟨e1, e2, s, c', e3, e4⟩ := HF.out;exact ⟨e1, e2, rfl, s, ⟨c', e3⟩, e4⟩
  · have a2 : ((x.to : Int) == (q : Int)) = false := by simp; omega
    have HF : Hid (KeepsFrom w5.heap.size V V ∧ KpX (fun i => (i = g ∨ i = m) ∨ i = w5.heap.size + 1) V V ∧ (Row V B3 3 #[.int .i64 (q : Int)] ∧ Row V g 22 #[.slice none 0 0] ∧ Row V m 4 #[.bool false]) ∧ Below w.heap.size w V ∧ ∀ y ∈ d ++ [x], y.to ≠ q) := ⟨KeepsFrom.refl _ _, KpX.refl _ _, ⟨h3, z, h5⟩, hb, fun y hy => by
     rcases L3.1 hy with hy | hy
     · exact aa y hy
     · simp at hy; subst hy; exact al⟩
    clear al hx aq aj ab aa hb h3 z h5 am au;gi_wp2_with fail
    exact HF.out
 case stop =>
  rintro D c d V hD _ ⟨rfl, s, c', h1, h2, h3, z, h5, h6⟩ hK;have HF : Hid (Row (V.putObj D (.deferred none)) g 22 #[.slice s π.length c'] ∧ Row (V.putObj D (.deferred none)) m 4 #[.bool true] ∧ Rd (V.putObj D (.deferred none)) s (Qi π) ∧ Below w.heap.size w (V.putObj D (.deferred none))) := ⟨h1.abide (p := fun _ => True) (grownBy_putObj' _ _ _) (fun r e => by cases e; exact .inr ⟨trivial, _, hK, rfl⟩), h2.abide (p := fun _ => True) (grownBy_putObj' _ _ _) (fun r e => by cases e; exact .inr ⟨trivial, _, hK, rfl⟩), h3.grown (grownBy_putObj' _ _ _) (fun r e => by cases e; exact ⟨_, hK, rfl⟩), h5.grown (grownBy_putObj' _ _ _) h5.size (fun k e => by cases e; omega)⟩;have HK := Lh hK;have H4 := Lh z;have H6 := Lh h6;clear hK h1 h2 h3 z h5 h6 hD;gi_wp2_with fail
  refine ⟨by simp, .inl ⟨_, _, rfl, run_takeDeferred HK.out, ?_⟩⟩;refine ⟨_, EL Tryz.results243 _ _ ⟨g, 0, none⟩ ⟨m, 0, none⟩ (.slice s π.length c') (.bool true) rfl rfl ?_ ?_, ⟨s, c', rfl, HF.out.2.2.1, H4.out, HF.out.2.2.2, H6.out⟩⟩
  · have c := HF.out.1.cellv (i := 0) (v := .slice s π.length c') rfl;simp [loadVar, go_sem, c]
  · have c := HF.out.2.1.cellv (i := 0) (v := .bool true) rfl;simp [loadVar, go_sem, c]
 case done =>
  rintro D xs V hD a3 ⟨_, _, aa⟩ hK;exfalso;have h1 := Hq.out;rw [← a3, L8] at h1;obtain ⟨x, hx, he⟩ := Option.map_eq_some_iff.1 h1;exact aa x (Lg hx) (by injection he)
end Go.Proofs.YtdcmppdhdcjpfaaGreat
namespace Go.Proofs.YtdcmppdhdcjpfaaGreat
open Go.RowKit
section
variable {P : Program} {ops : Array Oper} {Q : Exit → Act → World → Prop} {l : Nat}
theorem Aij {o : Oper} (hnd : ∀ c, o.op ≠ .defer c) {a : Act} {w : World} {K K' : Act → World → Prop} (h : ∀ a w, K a w → K' a w) (hh : o.wp P a w K Q) : o.wpIn (Fence.wide.inRound l) 0 P a w K' Q := by
 unfold Oper.wpIn;refine ⟨fun _ _ => trivial, ?_⟩;rw [Oper.semAt_plain _ _ _ hnd];unfold Oper.wp at hh;generalize (execOp a.eval o).run P w = r at *;cases r with
 | ok x i =>
  cases x with
  | value v => exact h _ _ hh
  | skip => exact h _ _ hh
  | defer d => exact h _ _ hh
  | enter f args =>
   refine ⟨fun e => by simp [Fence.wide] at e, CallsIn.inRound l (callsIn_wide.2 (Calls.mono (hh : Calls _ _ _ _ _) fun e k g => ?_))⟩;cases e with
   | returned v => exact h _ _ g
   | panicked c => exact g
   | outgrown => exact g
  | row rn args =>
   refine ⟨fun e => by simp [Fence.wide] at e, fun c j _ => ?_⟩;obtain ⟨v, i, r, s⟩ := (hh : Rows _ _ _ _ _) c j;exact ⟨v, i, h _ _ r, stepsIn_wide.2 s⟩
  | _ => exact (hh : False).elim
 | halt x i => cases x <;> first | exact hh | exact (hh : False).elim
def Ends (Q : Exit → Act → World → Prop) : Exit → Act → World → Prop
 | .normal, a, w => Q .normal a w
 | _, _, _ => False
theorem Ends.imp : ∀ (e : Exit) (a : Act) (w : World), Ends Q e a w → Q e a w := fun e a w h => by cases e <;> first | exact h | exact (h : False).elim
theorem Yj {a : Act} {w : World} (h : Q .normal a w) : Ends Q .normal a w := h
theorem Ahi : ¬ LetsOut (Ends Q) := fun ⟨_, _, h⟩ => h
def X0 (ops : Array Oper) : Bool := ops.all fun o => match o.op with | .defer _ => false | _ => true
theorem AeC {i : Nat} {o : Oper} (h : X0 ops = true) (ho : ops[i]? = some o) : ∀ c, o.op ≠ .defer c := fun c hc => by
 obtain ⟨hi, e⟩ := Ln.1 ho;have := (Array.all_eq_true.1 h) i hi;rw [e, hc] at this;cases this
theorem AeV (h : X0 ops = true) {i : Nat} {a : Act} {w : World} {K K' : Act → World → Prop} (hK : ∀ a w, K a w → K' a w) (hh : wpOp P ops (Ends Q) i K a w) : wpOpIn (Fence.wide.inRound l) 0 P ops (Ends Q) i K' a w := by
 unfold wpOp at hh;unfold wpOpIn;cases ho : ops[i]? with
 | none => simp only [ho] at hh ⊢; exact hK _ _ hh
 | some o =>
  simp only [ho] at hh ⊢;by_cases c : Region.wanted o (yielded ops a.tmps) = true
  · rw [if_pos c];rw [if_pos c] at hh;rcases hh with hh | ⟨_, hh⟩
    · exact Aij (AeC h ho) hK hh
    · exact absurd hh Ahi
  · rw [if_neg c];rw [if_neg c] at hh;exact ⟨fun _ _ => trivial, hK _ _ hh⟩
theorem Vv {md : Region.Mode} (h : X0 ops = true) : ∀ (fuel : Nat) (listed : Array Bool) (a : Act) (w : World), wpAny P md ops (Ends Q) fuel listed a w → wpAnyIn (Fence.wide.inRound l) 0 P md ops (Ends Q) fuel listed a w
 | 0, _, _, _, hh => hh
 | fuel + 1, listed, a, w, hh => ⟨hh.1, fun i hi => AeV h (fun a w k => Vv h fuel _ a w k) (hh.2 i hi)⟩
theorem Yt {id : Nat} {a : Act} {w : World} (hm : P.follows .mixedOrders = true) (hd : X0 ops = true) (h : wpAny P .any ops (Ends Q) ops.size (Array.replicate ops.size false) a w.drew) : (Code.region id ops true).wpIn (Fence.wide.inRound l) 0 P Q a w :=
 wpIn_mono (wpIn_region_any hm (Vv hd _ _ _ _ h)) Ends.imp
end
theorem AbO {P : Program} {r : Nat} {id : Nat} {Q : Exit → Act → World → Prop} {a : Act} {w : World} {l : List Oper} (S : World → Prop) (hm : P.follows .mixedOrders = true) (hd : X0 l.toArray = true) (hB : Region.lexB .any l.toArray = true) (hS : S w.drew)
 (h : ZR P l.toArray S (fun a' => ∀ W, S W → Q .normal a' W) l a) : (Code.region id l.toArray true).wpIn (Fence.wide.inRound r) 0 P Q a w := by
 simp only [Region.lexB, Nm] at hB;refine Yt hm hd (Xy (S := S) (Q' := Ends Q) (Q := fun a' => ∀ W, S W → Q .normal a' W) (fun _ W h c => h W c) _ _ _ _ hS ?_);have := Y8 (md := .any) hB.1 l 0 (Array.replicate l.toArray.size false) a (by simp) (by simpa using hB.2) h;simpa using this
theorem Uw {P : Program} {r : Nat} {id : Nat} {Q : Exit → Act → World → Prop} {a : Act} {w : World} {l : List Oper} (S : World → Prop) (n : Nat) (hm : P.follows .mixedOrders = true) (hd : X0 l.toArray = true) (hB : Region.lexTailB .any l.toArray n = true) (hS : S w.drew)
 (h : ZR P l.toArray S (fun a' => ∀ W, S W → wpList P l.toArray (Ends Q) (l.drop n) a' W) (l.take n) a) : (Code.region id l.toArray true).wpIn (Fence.wide.inRound r) 0 P Q a w := by
 simp only [Region.lexTailB, Nm, decide_eq_true_eq] at hB;obtain ⟨⟨⟨⟨k, u⟩, z⟩, x⟩, i⟩ := hB;have y : n < l.length := by simpa using u
 have c : (l.take n).length = n := by simp; omega
 have e : (l.drop n).length = l.toArray.size - n := by simp
 have m : HeadInv .any l.toArray n (Array.replicate l.toArray.size false) :=
  ⟨by simp, fun j oj _ s => (by rw [getD_replicate_false] at s; cases s), fun t _ ht => getD_in (by simpa using ht) (getD_replicate_false _ _)⟩
 have H := YA (md := .any) (g := l.toArray.size - n) k z x u (l.take n) 0 _ a (fun j q => by
  have o : j < n := by rw [c] at q; exact q
  simp [o]) (by simpa using c) m (by rw [c]; exact i) h
 refine Yt hm hd ?_
 have := Xi (Q' := Ends Q) (g := l.toArray.size - n) (fun d a' W p v => by
  have := wpAny_of_seq (md := .any) (Q' := Ends Q) (l.drop n) n d a' W (fun j => by simp [Nx]) (by rw [e]; exact p.1) (p.2 W v)
  rwa [e] at this) _ _ _ _ hS H
 rw [c, show n + (l.toArray.size - n) = l.toArray.size by omega] at this;exact this
mutual
def Yb : Tr → Int
 | .node _ ks => depK ks + 1
def depK : List Tr → Int
 | [] => 0
 | t :: ts => max (Yb t) (depK ts)
end
theorem Abq : ∀ ks : List Tr, 0 ≤ depK ks
 | [] => by rw [depK]; omega
 | t :: ts => by rw [depK]; have := Abq ts; omega
theorem AaI (t : Tr) : ∀ a : List Tr, depK (a ++ [t]) = max (depK a) (Yb t)
 | [] => by
  have h1 : 0 ≤ Yb t := by cases t with | node x ks => rw [Yb]; have := Abq ks; omega
  have h2 : depK [] = 0 := by rw [depK]
  rw [Lo, h2]
  show depK (t :: []) = _
  rw [depK.eq_2, h2]; omega
 | u :: a => by rw [Lk, depK, depK, AaI t a]; omega
mutual
theorem Ae8 : ∀ t : Tr, Yb t ≤ (t.size : Int)
 | .node x ks => by
  have := Ae7 ks
  have h2 : (Tr.node x ks).size = (QJ ks).length + 1 := by rw [Tr.size, Tr.flat, Ld]
  rw [Yb, h2]; omega
theorem Ae7 : ∀ ks : List Tr, depK ks ≤ ((QJ ks).length : Int)
 | [] => by simp [depK, QJ]
 | t :: ts => by
  have := Ae8 t
  have := Ae7 ts
  have h2 : (QJ (t :: ts)).length = t.size + (QJ ts).length := by rw [QJ, Lf]; rfl
  rw [depK, h2]; omega
end
end Go.Proofs.YtdcmppdhdcjpfaaGreat
namespace Go.Proofs.YtdcmppdhdcjpfaaGreat
open Go.RowKit Go.Deep
attribute [local go_sem] Oper.semAt_some
structure KidsC (A : Option Addr) (cap : Nat) (l : List Nd) (X : Nat → Prop) (ba bl : Nat) (q : Nat) (w : World) : Prop where
 hr : Rd w A (l.flatMap Nd.cells)
 hA : l.flatMap Nd.cells ≠ [] → ∀ ad, A = some ad → ¬ X ad.block
 rl : Row w bl 23 #[.slice A l.length cap]
 ra : Row w ba 3 #[.int .i64 (q : Int)]
 xl : ¬ X bl
 xa : ¬ X ba
 hX : ∀ k, X k → k < w.heap.size
theorem KidsC.kx {A : Option Addr} {cap : Nat} {l : List Nd} {X : Nat → Prop} {ba bl : Nat} {q : Nat} {w w' : World} (h : KidsC A cap l X ba bl q w) (k : KpX X w w') : KidsC A cap l X ba bl q w' :=
 ⟨k.rd h.hr h.hA, h.hA, k.row h.rl h.xl, k.row h.ra h.xa, h.xl, h.xa, fun i hi => Lc (h.hX i hi) k.size⟩
theorem KidsC.add {A : Option Addr} {cap : Nat} {l : List Nd} {X : Nat → Prop} {ba bl : Nat} {q : Nat} {w W : World} {lb : Nat} (h : KidsC A cap l X ba bl q w) (b : Below w.heap.size w W) (h1 : w.heap.size ≤ lb) (h2 : lb < W.heap.size) : KidsC A cap l (fun i => X i ∨ i = lb) ba bl q W := by
 have g : ∀ k, k < w.heap.size → ¬ X k → ¬ (X k ∨ k = lb) := fun k c m h => by
  rcases h with h | h
  · exact m h
  · omega
 exact ⟨h.hr.go b, fun d j e => g _ (XJ h.hr d e) (h.hA d j e), h.rl.below b h.rl.lt, h.ra.below b h.ra.lt, g _ h.rl.lt h.xl, g _ h.ra.lt h.xa, fun k c => by
  rcases c with c | c
  · exact Lc (h.hX k c) b.size
  · omega⟩
def Ais (full : List Int) (pre : List Int) (x : Int) (_ : World) : Prop := ∃ rest, pre ++ x :: rest = full
theorem Vr {l : List Nd} {n j : Nat} {k : Int} (h : j < n) : Zr l (n - j) k = k :: Zr l (n - (j + 1)) (endZ l k) := by
 rw [show n - j = (n - (j + 1)) + 1 by omega, Zr]
theorem AcU (A : Option Addr) (cap : Nat) (l : List Nd) (hl : l.length ≤ 1000) (q : Nat) (t : Tr) (hat : At l q t) (X : Nat → Prop) (ba bl : Nat) (w : World) (hC : KidsC A cap l X ba bl q w) :
 VL Tryz.prog 250 #[.pointer (some ⟨ba, 0, none⟩), .pointer (some ⟨bl, 0, none⟩)] (fun k : Int => #[.int .i64 k]) (fun _ => False) (fun lb => KpX (fun i => X i ∨ i = lb)) (Ais (kidsZ l (q : Int))) (fun xs => xs = kidsZ l (q : Int)) (fun _ => True) t.kids.length True w := by
 intro lb J Jx W z h _ hJ al hY h0;have ac : Below w.heap.size w W := ⟨h.os, h.tape, h.output, h.size, fun k hk => h.block k hk (by simp)⟩;have p := hC.add ac z.1 z.2;have g := hat.fits.arity
 have ae : kidsZ l (q : Int) = Zr l t.kids.length (q + 1) := by
  unfold kidsZ;rw [hat.endZ, if_neg (by omega), Li, hat.root, LL, g, Li]
 have hx := hat.root;clear hC z ac h w;rw [ae] at hY ⊢;obtain ⟨n, hn⟩ : ∃ n, n = t.kids.length := ⟨_, rfl⟩;rw [← hn] at hY g ⊢;obtain ⟨x, ag⟩ : ∃ x, x = t.root := ⟨_, rfl⟩;rw [← ag] at g hx;clear ae hn ag hat t;have u : ∀ c k W1, J c W1 → Ais (Zr l n (q + 1)) c k W1 → c.length < n → YieldAt Fence.wide 0 Tryz.prog lb #[.int .i64 k] W1 fun e W' => (e = .returned (.bool true) ∧ J (c ++ [k]) W' ∧ KpX (fun i => X i ∨ i = lb) W1 W') ∨ (e = .returned (.bool false) ∧ Jx (c ++ [k]) W' ∧ KpX (fun i => X i ∨ i = lb) W1 W') := hY;clear hY;generalize (fun i => X i ∨ i = lb) = X1 at p u;clear X;obtain ⟨X, rfl⟩ : ∃ X, X = X1 := ⟨_, rfl⟩;obtain ⟨ad, am, hc⟩ := JP p.hr hx;have Hc := Lh hc;have Hl := Lh hl;have HC := Lh p;have HJ := Lh hJ;have HY := Lh u;have ar : (q : Int) < (l.length : Int) := by have := (La.1 hx).1; omega
 have hb := JK x;rw [g] at hb;clear hc hx hJ al u p hl;subst am;refine callsIn_of_wp Tryz.func250 rfl trivial ?_ rfl;simp only [Tryz.ntmps250, Lj, Ld, Lp, Nat.reduceAdd, Nat.reduceSub, Ll, Lm, Lr, L2, Lo, Lk];have c1 := HC.out.rl.cellv (i := 0) (v := .slice (some ad) l.length cap) rfl;have c2 := HC.out.ra.cellv (i := 0) (v := .int .i64 (q : Int)) rfl;gi_wp2_with (refine Z2 rfl 85 _ rfl (ad.add (q * 2)) rfl x.cells _ Hc.out Tryz.underlying85 rfl (by kernel_rfl) ?_);refine ⟨trivial, rfl, (callsIn_wide.2 (XD x W)).mono ?_⟩;rintro e w2 ⟨rfl, b2⟩;have ai := Lh (HC.out.kx (KpX.of_below b2));have h0 := QD HJ.out h0 b2;clear b2 c1 c2 Hc HC;rw [g];clear g;gi_wp2;gi_loopw [4, 12] (fun kk i wr => ∃ (j : Nat) (k : Int) (c : List Int), i = .int .i64 (j : Int) ∧ kk = .int .i64 k ∧ j ≤ n ∧ Hid (c ++ Zr l (n - j) k = Zr l n (q + 1)) ∧ Hid (c.length = j) ∧ Hid (KpX X w2 wr) ∧ J c wr) (fun _ i _ => n - (intOf i).toNat)
 case atStart => exact ⟨0, _, [], by simp, rfl, Nat.zero_le _, Lh (by
  have hw : wrap64 ((q : Int) + 1) = (q : Int) + 1 := by have := Hl.out; unfold wrap64; omega
  simp [hw]), Lh rfl, Lh (KpX.refl _ _), h0⟩
 case round =>
  obtain ⟨j, k, c, rfl, rfl, aq, d, o, aa, y⟩ := hrel;clear h0;by_cases r : j < n
  · have af : Ais (Zr l n (q + 1)) c k wr := ⟨_, by rw [← d.out, Vr r]⟩;obtain ⟨fn, ap, ah, ao, hy, hR⟩ := HY.out _ k _ y af (by have := o.out; omega);have HR := Lh hR;clear hR y af;gi_wp2;refine ⟨rfl, HR.out.mono ?_⟩;rintro e W' (⟨rfl, y, hk⟩ | ⟨rfl, an, hk⟩);rotate_left
    · clear hy HR;gi_wp2;refine bodyPost_ret (results_none rfl _ _ _) rfl ?_;exact ⟨⟨_, rfl⟩, .inr ⟨_, trivial, an⟩⟩
    have m := Lh (aa.out.trans hk);have s := Lh (ai.out.kx m.out);have c1 := s.out.rl.cellv (i := 0) (v := .slice (some ad) l.length cap) rfl;clear hy HR hk;gi_wp2;refine ⟨trivial, rfl, (callsIn_wide.2 (Jq (some ad) cap l k W' s.out.hr Hl.out)).mono ?_⟩;rintro e w3 ⟨rfl, b3⟩;have y := QD HJ.out y b3;have ab := Lh (m.out.trans (KpX.of_below b3));have ak : Hid ((c ++ [k]) ++ Zr l (n - (j + 1)) (endZ l k) = Zr l n (q + 1)) := by show _ = _; rw [← d.out, Vr r]; simp
    have aj : Hid ((c ++ [k]).length = j + 1) := by show _ = _; rw [Lf, o.out]; rfl
    clear b3 c1 aa m d o s;gi_wp2;go_roundw
    case rel => exact ⟨j + 1, _, _, by go_num, rfl, by omega, ak, aj, ab, y⟩
    case measure => simp [intOf]; omega
  · obtain rfl : j = n := by omega
    gi_wp2;go_end0
    refine ⟨⟨_, rfl⟩, .inl ⟨_, ?_, y⟩⟩;have := d.out;rw [Nu] at this;rw [← this]; simp [Zr]
theorem AfU (A : Option Addr) (cap : Nat) (l : List Nd) (hl : l.length ≤ 1000) : ∀ (n : Nat) (t : Tr) (q : Nat), t.size ≤ n → At l q t → ∀ w, Rd w A (l.flatMap Nd.cells) →
 Calls Tryz.prog 177 #[.slice A l.length cap, .int .i64 (q : Int)] w fun e w' => e = .returned (.int .i64 (Yb t)) ∧ Below w.heap.size w w' := by
 intro n
 induction n with
 | zero => intro t q hn; have := t.size_eq; omega
 | succ n ih =>
 intro t q hn ae w hr;have aj := Lh ih;have He := Lh (fun W h => Jq A cap l (q : Int) W h hl);rw [ae.endZ] at He;have Hr := Lh hr;have Hl := Lh hl;have aa := Lh ae;have Hn := Lh hn;have ay : q + t.size ≤ l.length := ae.le;have a5 := Ae8 t;have ax : ((q + t.size : Nat) : Int) ≤ 1000 := by omega
 obtain ⟨Q, hQ⟩ : ∃ Q, Q = q + t.size := ⟨_, rfl⟩;rw [← hQ] at He ax;have a1 : ¬ ((Q : Int) < 0) := by omega
 clear ih hl hr ae hn hQ ay;refine (callsIn_wide (n := 0)).1 ?_;refine callsIn_of_wp_marks Tryz.func177 rfl trivial ?_;simp only [Tryz.ntmps177, Lj, Ld, Lp, Nat.reduceAdd, Nat.reduceSub, Ll, Lm, Lr, L2, Lo, Lk];gi_wp2_with fail
 obtain ⟨LB, ai⟩ : ∃ B, B = w.heap.size := ⟨_, rfl⟩;obtain ⟨w1, af⟩ : ∃ w1, w1 = w.alloc (.cells #[.slice A l.length cap] 23) := ⟨_, rfl⟩;have rL : Row w1 LB 23 #[.slice A l.length cap] := by rw [af, ai]; exact Row.new _ _ _
 have y : Below w.heap.size w w1 := by rw [af]; exact (Below.refl _ _).alloc (Nat.le_refl _) _
 rw [← af, ← ai];have gL : w.heap.size ≤ LB := by omega
 clear af ai;refine ⟨trivial, rfl, (callsIn_wide.2 (He.out w1 (Hr.out.go y))).mono ?_⟩;rintro e w2 ⟨rfl, b2⟩;replace rL := rL.below b2 rL.lt;replace y := y.trans (b2.mono y.size);clear b2 He;have cL : (w2.alloc (.cells #[.int .i64 0] 3)).cell? ⟨LB, 0, none⟩ = some (.slice A l.length cap) := (rL.alloc _).cellv (i := 0) rfl;gi_wp2_with fail
 obtain ⟨G, hG⟩ : ∃ B, B = w2.heap.size := ⟨_, rfl⟩;obtain ⟨w3, ag⟩ : ∃ w3, w3 = w2.alloc (.cells #[.int .i64 0] 3) := ⟨_, rfl⟩;have rG : Row w3 G 3 #[.int .i64 0] := by rw [ag, hG]; exact Row.new _ _ _
 have b3 : Below w2.heap.size w2 w3 := by rw [ag]; exact (Below.refl _ _).alloc (Nat.le_refl _) _
 rw [← ag, ← hG];have a0 : LB < G := by have := rL.lt; omega
 clear cL;replace rL := rL.below b3 rL.lt;replace y := y.trans (b3.mono y.size);clear ag hG b3;refine ⟨trivial, rfl, (callsIn_wide.2 (Et A cap l (q : Int) w3)).mono ?_⟩;rintro e w4 ⟨bl, ba, rfl, rl, ra, gl, ga, b4⟩;have lG := rG.lt;replace rL := rL.below b4 rL.lt;replace rG := rG.below b4 rG.lt;replace y := y.trans (b4.mono y.size);have hC : KidsC A cap l (fun k => k = G) ba bl q w4 := ⟨Hr.out.go y, fun aw ad e h => by have := XJ Hr.out aw e; omega, rl, ra, by omega, by omega, fun k hk => by have := rG.lt; omega⟩;have au := Lh (AcU A cap l Hl.out q t aa.out (fun k => k = G) ba bl w4 hC);have Hb := Lh y;have a6 := y.size;have sG := rG.lt;clear hC rl ra b4 y gl ga lG;gi_wp2_with fail
 have aq : Hid (Row w4 G 3 #[.int .i64 (depK (t.kids.take ([] : List Int).length))] ∧ Row w4 LB 23 #[.slice A l.length cap] ∧ Below w.heap.size w w4) := ⟨by simpa [depK] using rG, rL, Hb.out⟩;clear rL rG Hb
 refine Ys (gf := 250) (lb := #[.pointer (some ⟨ba, 0, none⟩), .pointer (some ⟨bl, 0, none⟩)]) rfl (enters_of Tryz.func250 (by kernel_rfl) rfl) au.out (fun r h => h.elim)
  (fun h k => h.trans k) (fun V o o' ho hc => ⟨fun i p hx hp => by rw [World.putObj_heap_other (fun e => hx (.inr e))]; exact hp, by simp⟩) (World.grownBy.refl _ _) (fun _ => rfl)
  (fun g V => Row V G 3 #[.int .i64 (depK (t.kids.take g.length))] ∧ Row V LB 23 #[.slice A l.length cap] ∧ Below w.heap.size w V)
  (fun _ _ _ => False) (.inl trivial) ?hI ?hIx aq.out
  (fun g x a' V => a' = { tmps := #[.slice A l.length cap, .int .i64 (q : Int), .pointer (some ⟨LB, 0, none⟩), undef, .int .i64 0, .pointer (some ⟨G, 0, none⟩), .int .i64 x, .slice A l.length cap, .int .i64 (q : Int), .int .i64 (Q : Int), .bool (decide ((Q : Int) < 0)), .slice A l.length cap, .int .i64 (q : Int), .func (.func 250) #[] #[.pointer (some ⟨ba, 0, none⟩), .pointer (some ⟨bl, 0, none⟩)], .int .i64 x, undef, undef, undef, undef, undef, undef, undef], defers := [] } ∧ Ais (kidsZ l (q : Int)) g x V) ?hAx ?assign ?body ?done ?stop
 case hI =>
  rintro g V V' row ⟨j, h2, h3⟩ hg hr;refine ⟨j.abide hg hr, h2.abide hg hr, h3.grown hg h3.size (fun k e => ?_)⟩;rcases hr k e with h | ⟨h, _⟩
  · exact h.elim
  · omega
 case hIx => exact fun _ _ _ _ _ h _ _ => h
 case hAx => exact fun g x a' _ _ _ _ h _ _ => h
 case stop => exact fun D c g W _ _ h _ => h.elim
 case assign =>
  rintro l3 g x V K hI hP hK;have HK := Lh hK;have HI := Lh hI;have HP := Lh hP;clear hK hI hP;gi_wp2_with fail
  exact HK.out _ _ (KeepsFrom.refl _ _) (KpX.refl _ _) HI.out ⟨rfl, HP.out⟩
 case body =>
  rintro l3 g x a' V av _ ⟨j, h2, h3⟩ ⟨rfl, az, ab⟩ ah;obtain ⟨k, hk⟩ : ∃ k, t.kids[g.length]? = some k := ⟨_, Lb ah⟩;obtain ⟨r, hr⟩ : ∃ r, (QW (q + 1) t.kids)[g.length]? = some r := AbW hk
  have hx : x = (r : Int) := by
   have e := aa.out.kidsZ;rw [← ab] at e;have e2 := congrArg (fun z => z[g.length]?) e;simp [hr] at e2;exact e2
  have ak := (aa.out.kids.spot _ _ _ hr hk).1
  have an : k.size ≤ n := by
   have h4 := Um (Lg hk);have h5 := t.size_eq;have := Hn.out;omega
  have am : depK (t.kids.take (g.length + 1)) = max (depK (t.kids.take g.length)) (Yb k) := by
   rw [LF, hk]; exact AaI k _
  have s := Lh (fun W h => aj.out k r an ak W h);have ac := Lh am;subst hx;obtain ⟨m, hm⟩ : ∃ m, m = depK (t.kids.take g.length) := ⟨_, rfl⟩;obtain ⟨d, hd⟩ : ∃ d, d = Yb k := ⟨_, rfl⟩;rw [← hm] at j ac;rw [← hd] at s ac;have a2 := j.lt;obtain ⟨S, u⟩ : ∃ S, S = (fun W => Row W G 3 #[.int .i64 m] ∧ Row W LB 23 #[.slice A l.length cap] ∧ Rd W A (l.flatMap Nd.cells) ∧ Below V.heap.size V W) := ⟨_, rfl⟩;have a7 : St S := by rw [u]; infer_instance
  have T0 : Hid (∀ W, S W → Row W G 3 #[.int .i64 m]) := by show ∀ W, _; rw [u]; exact fun W h => h.1
  have T1 : Hid (∀ W, S W → Row W LB 23 #[.slice A l.length cap]) := by show ∀ W, _; rw [u]; exact fun W h => h.2.1
  have T2 : Hid (∀ W, S W → Rd W A (l.flatMap Nd.cells)) := by show ∀ W, _; rw [u]; exact fun W h => h.2.2.1
  have T3 : Hid (∀ W, S W → Below V.heap.size V W) := by show ∀ W, _; rw [u]; exact fun W h => h.2.2.2
  have hS : S V := by rw [u]; exact ⟨j, h2, Hr.out.go h3, Below.refl _ _⟩
  have H3 := Lh h3;have s3 := h3.size;clear u j h2 h3 ab hk hr ak an am hm hd ah av aj Hr;gi_wp2_with fail
  refine Uw S 5 (by kernel_rfl) (by kernel_rfl) (by kernel_rfl) (St.drew hS) ?_;clear hS;simp only [Lw, L5, Lv, L1];(refine Qg rfl ?_ (fun W hW => ?_) ?_; rotate_left; (focus (have c := (T0.out W hW).cellv (i := 0) rfl; go_simp; exact rfl)); simp only [Act.put, Qa, Qb, Qc]);(refine Qg rfl ?_ (fun W hW => ?_) ?_; rotate_left; (focus (have c := (T1.out W hW).cellv (i := 0) rfl; go_simp; exact rfl)); simp only [Act.put, Qa, Qb, Qc]);(refine Qg rfl ?_ (fun W hW => ?_) ?_; rotate_left; (focus (go_simp; exact rfl)); simp only [Act.put, Qa, Qb, Qc]);(refine QI rfl 177 _ (fun W => by (go_simp; try rfl)) (.int .i64 d) (fun W hW => s.out W (T2.out W hW)) ?_; simp only [Act.put, Qa, Qb, Qc])
  (refine Qg rfl ?_ (fun W hW => ?_) ?_; rotate_left; (focus (go_simp; exact rfl)); simp only [Act.put, Qa, Qb, Qc]);refine QG fun W hS => ?_
  have j := T0.out W hS;have b4 := T3.out W hS;have o4 := Zh W G 0 (.int .i64 (max m d))
  have HF : Hid (KeepsFrom w4.heap.size V (W.setCell ⟨G, 0, none⟩ (.int .i64 (max m d))) ∧ KpX (fun i => i = G ∨ i = w4.heap.size + 1) V (W.setCell ⟨G, 0, none⟩ (.int .i64 (max m d))) ∧ Row (W.setCell ⟨G, 0, none⟩ (.int .i64 (max m d))) G 3 #[.int .i64 (depK (t.kids.take (g ++ [(r : Int)]).length))] ∧ Row (W.setCell ⟨G, 0, none⟩ (.int .i64 (max m d))) LB 23 #[.slice A l.length cap] ∧ Below w.heap.size w (W.setCell ⟨G, 0, none⟩ (.int .i64 (max m d)))) :=
   ⟨(KpX.of_below b4).keeps (X := fun _ => False) (fun _ h => h.elim) |>.trans (KeepsFrom.of_only j o4), ((KpX.of_below b4).more (fun _ h => (h : False).elim)).trans (KpX.only o4 (.inl rfl)), by rw [Lf]; simp only [Ld, Lp, LJ]; rw [ac.out]; exact j.set 0 _, (T1.out W hS).only o4 (by omega), Qo (H3.out.trans (b4.mono s3)) o4 (by omega)⟩
  have c := j.cellv (i := 0) (v := .int .i64 m) rfl;have f := j.free 0;clear j b4 o4 T0 T1 T2 T3 s ac hS;go_wp2_with fail
  all_goals
   refine Yj ?_
   first | rw [show max m d = d by omega] at HF | rw [show max m d = m by omega] at HF | skip
   gi_wp2_with fail
   exact HF.out
 case done =>
  rintro D ys V hD ap ⟨j, h2, h3⟩ hK;have ao : ys.length = t.kids.length := by rw [ap, aa.out.kidsZ, L9, Jd]
  rw [ao, LS] at j;have al : Yb t = depK t.kids + 1 := by cases t; rfl
  have hc := j.cellv (i := 0) (v := .int .i64 (depK t.kids)) rfl;have HK := Lh hK;have H3 := Lh h3;have ar := Lh al;have a4 : depK t.kids ≤ 1000 := by have := aa.out.le; have := Hl.out; omega
  have a3 := Abq t.kids;clear hK j h2 h3 ap ao al;gi_wp2;refine ⟨by simp, .inl ⟨_, _, rfl, run_takeDeferred HK.out, ?_⟩⟩;refine ⟨_, results_tmp rfl _ _ _, ?_, H3.out.grown (grownBy_putObj' _ _ _) H3.out.size (fun k e => by cases e; omega)⟩;rw [ar.out];rfl
end Go.Proofs.YtdcmppdhdcjpfaaGreat
namespace Go.Proofs.YtdcmppdhdcjpfaaGreat
open Go.RowKit
structure Whole (l : List Nd) (t : Tr) : Prop where
 hat : At l 0 t
 size : t.size = l.length
theorem Whole.of {l : List Nd} (h : endZ l 0 = (l.length : Int)) : ∃ t, Whole l t := by
 obtain ⟨t, c, _⟩ := YP (l := l) (a := 0) (by omega);have d := c.endZ;have e : endZ l 0 = ((0 + t.size : Nat) : Int) := by simpa using d
 exact ⟨t, c, by omega⟩
theorem Whole.endZ {l : List Nd} {t : Tr} (h : Whole l t) : endZ l 0 = (l.length : Int) := by
 have c := h.hat.endZ;rw [h.size] at c;simpa using c
theorem Whole.uniq {l : List Nd} {a b : Tr} (h : Whole l a) (k : Whole l b) : a = b := h.hat.uniq k.hat
theorem Whole.pos {l : List Nd} {t : Tr} (h : Whole l t) : 0 < l.length := by have := h.hat.lt; omega
theorem Good.whole {p : PgV} {t : Tr} (h : Good p t) : Whole p.body t := ⟨h.hat, h.size⟩
open Classical in
noncomputable def ZJ (l : List Nd) : Int :=
 if l.length = 0 then 10 else if 200 < l.length then 4 else if ∃ x ∈ l, Qx x < 0 then 11 else if endZ l 0 ≠ (l.length : Int) then 12 else if ∃ t, Whole l t ∧ 30 < Yb t then 13 else 0
theorem Acn {l : List Nd} (h : l.length = 0) : ZJ l = 10 := by unfold ZJ; rw [if_pos h]
theorem Aco {l : List Nd} (h : 200 < l.length) : ZJ l = 4 := by unfold ZJ; rw [if_neg (by omega), if_pos h]
theorem Acp {l : List Nd} (h0 : ¬ l.length = 0) (h1 : ¬ 200 < l.length) {x : Nd} (hx : x ∈ l) (h : Qx x < 0) : ZJ l = 11 := by unfold ZJ; rw [if_neg h0, if_neg h1, if_pos ⟨x, hx, h⟩]
theorem Acq {l : List Nd} (h0 : ¬ l.length = 0) (h1 : ¬ 200 < l.length) (h2 : ∀ x ∈ l, ¬ Qx x < 0) (h : endZ l 0 ≠ (l.length : Int)) : ZJ l = 12 := by
 unfold ZJ; rw [if_neg h0, if_neg h1, if_neg (fun ⟨x, hx, hn⟩ => h2 x hx hn), if_pos h]
theorem VR {l : List Nd} (h1 : ¬ 200 < l.length) (h2 : ∀ x ∈ l, ¬ Qx x < 0) {t : Tr} (ht : Whole l t) : ZJ l = if 30 < Yb t then 13 else 0 := by
 have d := ht.pos;unfold ZJ;rw [if_neg (by omega), if_neg h1, if_neg (fun ⟨x, hx, hn⟩ => h2 x hx hn), if_neg (fun h => h ht.endZ)];by_cases c : 30 < Yb t
 · rw [if_pos c, if_pos ⟨t, ht, c⟩]
 · rw [if_neg c, if_neg (fun ⟨u, hu, hn⟩ => c (by rw [ht.uniq hu]; exact hn))]
theorem AaE {l : List Nd} (h : ZJ l = 0) : l.length ≤ 200 ∧ (∀ x ∈ l, ¬ Qx x < 0) ∧ ∃ t, Whole l t ∧ Yb t ≤ 30 := by
 by_cases e : l.length = 0
 · rw [Acn e] at h; cases h
 by_cases d : 200 < l.length
 · rw [Aco d] at h; cases h
 by_cases j : ∃ x ∈ l, Qx x < 0
 · obtain ⟨x, i, g⟩ := j;rw [Acp e d i g] at h; cases h
 have c : ∀ x ∈ l, ¬ Qx x < 0 := fun x i g => j ⟨x, i, g⟩
 by_cases k : endZ l 0 = (l.length : Int)
 · obtain ⟨t, m⟩ := Whole.of k;rw [VR d c m] at h;refine ⟨by omega, c, t, m, ?_⟩;by_cases n : 30 < Yb t
   · rw [if_pos n] at h; cases h
   · omega
 · rw [Acq e d c k] at h; cases h
open Classical in
noncomputable def Zg (p : PgV) : Int := if ZJ p.body ≠ 0 then ZJ p.body else if Ju p.params p.V ≠ 0 then 14 else if ∃ t, Good p t then 0 else 15
theorem Acr {p : PgV} (h : ZJ p.body ≠ 0) : Zg p = ZJ p.body := by unfold Zg; rw [if_pos h]
theorem Acs {p : PgV} (h : ZJ p.body = 0) (h1 : Ju p.params p.V ≠ 0) : Zg p = 14 := by unfold Zg; rw [if_neg (by simp [h]), if_pos h1]
theorem VS {p : PgV} (h : ZJ p.body = 0) (h1 : Ju p.params p.V = 0) (h2 : ∀ t, ¬ Good p t) : Zg p = 15 := by
 unfold Zg; rw [if_neg (by simp [h]), if_neg (by simp [h1]), if_neg (fun ⟨t, ht⟩ => h2 t ht)]
theorem Acu {p : PgV} (h : ZJ p.body = 0) (h1 : Ju p.params p.V = 0) {t : Tr} (h2 : Good p t) : Zg p = 0 := by
 unfold Zg; rw [if_neg (by simp [h]), if_neg (by simp [h1]), if_pos ⟨t, h2⟩]
structure Fine (p : PgV) (t : Tr) : Prop where
 good : Good p t
 len : p.body.length ≤ 200
 ar : ∀ x ∈ p.body, ¬ Qx x < 0
 dep : Yb t ≤ 30
theorem checkP_ok {p : PgV} : Zg p = 0 ↔ ∃ t, Fine p t := by
 constructor
 · intro h;by_cases e : ZJ p.body = 0
   · by_cases g : Ju p.params p.V = 0
     · by_cases i : ∃ t, Good p t
       · obtain ⟨t, d⟩ := i;obtain ⟨a, b, u, k, c⟩ := AaE e;have : t = u := d.whole.uniq k;exact ⟨t, d, a, b, by rw [this]; exact c⟩
       · rw [VS e g (fun t d => i ⟨t, d⟩)] at h; cases h
     · rw [Acs e g] at h; cases h
   · rw [Acr e] at h; exact absurd h e
 · rintro ⟨t, d⟩;have j : ZJ p.body = 0 := by rw [VR (by have := d.len; omega) d.ar d.good.whole, if_neg (by have := d.dep; omega)]
   refine Acu j ?_ d.good;unfold Ju; rw [if_pos d.good.vars]
end Go.Proofs.YtdcmppdhdcjpfaaGreat
