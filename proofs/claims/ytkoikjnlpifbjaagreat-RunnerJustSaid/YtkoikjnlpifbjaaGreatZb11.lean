/- Lemmas for RunnerJustP. -/
import Derived.Test.YtkoikjnlpifbjaaGreatZb10
import Derived.Test.YtkoikjnlpifbjaaGreatZb1
import Derived.Test.YtkoikjnlpifbjaaGreatZb3
import Derived.Test.YtkoikjnlpifbjaaGreatZb8
import Derived.OrdersIn
import Derived.RangeFuncCalls
set_option linter.unusedVariables false
set_option linter.unusedSimpArgs false
set_option maxRecDepth 100000
set_option maxHeartbeats 16000000
namespace Go.Proofs.YtkoikjnlpifbjaaGreat
open Go.RowKit Go.Deep
attribute [local go_sem] Oper.semAt_some
theorem EV {P : Program} {fn : Func} {p p' : Tmp} {ty ty' : TypeId} (h : fn.results = #[.cell p ty, .cell p' ty']) (tmps : Array Value) (w : World) (a a' : Addr) (v v' : Value) (hp : tmps.getD p undef = .pointer (some a)) (hp' : tmps.getD p' undef = .pointer (some a'))
 (hv : (loadVar ty a).run P w = .ok v w) (hv' : (loadVar ty' a').run P w = .ok v' w) : (results fn tmps).run P w = .ok (.tuple #[v, v']) w := by
 have b : tmps[p]?.getD undef = .pointer (some a) := by simpa using hp
 have c : tmps[p']?.getD undef = .pointer (some a') := by simpa using hp'
 simp [results, h, b, c, asAddr, hv, hv']
theorem Row.abide {W W' : World} {g : Nat} {t : TypeId} {cs : Array Value} {row : Option Nat} {p : Nat → Prop} (h : Row W g t cs) (hg : W.grownBy W' row) (hr : ∀ r, row = some r → False ∨ (p r ∧ ∃ o : Obj, W.heap[r]? = some o ∧ o.isCells = false)) : Row W' g t cs :=
 h.grown hg (fun e => by
  rcases hr g e with h' | ⟨_, o, ho, hc⟩
  · exact h'
  · rw [h] at ho; cases ho; cases hc)
structure PathR (π : List Int) (w w' : World) (e : Ending) : Prop where
 ex : ∃ A cap, e = .returned (.tuple #[.slice A π.length cap, .bool true]) ∧ Rd w' A (Qj π) ∧ (A = none → π = []) ∧ Below w.heap.size w w' ∧ ∀ ad, A = some ad → w.heap.size ≤ ad.block
theorem KpX.only {X : Nat → Prop} {A B : World} {g : Nat} (o : Only g A B) (hg : X g) : KpX X A B := ⟨fun k p hx hp => by rw [o.block k (fun e => hx (e ▸ hg))]; exact hp, LM o.size.symm⟩
theorem Rd.only {A B : World} {ad : Option Addr} {xs : List Value} (h : Rd A ad xs) {g : Nat} (o : Only g A B) (hx : xs ≠ [] → ∀ a, ad = some a → a.block ≠ g) : Rd B ad xs :=
 (KpX.only (X := fun k => k = g) o rfl).rd h hx
theorem EU {A : World} {ad : Option Addr} {l : List Int} (h : Rd A ad (Qj l)) {g : Nat} {t : TypeId} {v : Value} (hr : Row A g t #[v]) (hv : ∀ n, v ≠ .int .i64 n) : Qj l ≠ [] → ∀ a, ad = some a → a.block ≠ g := fun hne a e hb => by
 cases l with
 | nil => exact hne rfl
 | cons x l =>
  obtain ⟨k, c, b⟩ := h 0 (.int .i64 x) rfl;rw [e] at c; injection c with c; subst c;have j : a.add 0 = a := by unfold Addr.add; rw [if_pos rfl]
  rw [j] at b;have i : A.heap[a.block]? = some (.cells #[v] t (0, 0)) := by rw [hb]; exact hr
  unfold World.cell? at b;rw [i] at b;simp only at b;split at b
  · cases b
  · by_cases d : a.off = 0
    · rw [d] at b;exact hv x (by simpa using b)
    · rw [NC (by simp; omega)] at b; cases b
theorem Ae1 (A : Option Addr) (cap : Nat) (l : List Nd) (t : Tr) (q : Nat) (π : List Int) (w : World) (hat : At l 0 t) (hsz : t.size = l.length) (hq : (Q4 [] 0 t)[q]? = some (q, π)) (hr : Rd w A (l.flatMap Nd.cells)) (hl : l.length ≤ 1000) :
 Calls Tryz.prog 152 #[.slice A l.length cap, .int .i64 (q : Int)] w fun e w' => PathR π w w' e := by
 have He := Lv (fun W h => JV A cap l (0 : Int) W h hl)
 have ar : endZ l 0 = (l.length : Int) := by
  have := hat.endZ;rw [hsz] at this;simpa using this
 rw [ar] at He;have Hr := Lv hr;have Hl := Lv hl;have ax := Lv hat;have az := Lv hsz;have Hq := Lv hq;clear hr hl hat hsz hq ar;refine (callsIn_wide (n := 0)).1 ?_;refine callsIn_of_wp_marks Tryz.func152 rfl trivial ?_;simp only [Tryz.ntmps152, Lm, Le, Lu, Nat.reduceAdd, Nat.reduceSub, Lk, Ll, Ly, LH, Lp, Ln];gi_wp2_with fail
 obtain ⟨B3, ah⟩ : ∃ B, B = w.heap.size := ⟨_, rfl⟩;obtain ⟨w1, af⟩ : ∃ w1, w1 = w.alloc (.cells #[.int .i64 (q : Int)] 3) := ⟨_, rfl⟩;have r3 : Row w1 B3 3 #[.int .i64 (q : Int)] := by rw [af, ah]; exact Row.new _ _ _
 have b1 : Below w.heap.size w w1 := by rw [af]; exact (Below.refl _ _).alloc (Nat.le_refl _) _
 obtain ⟨d, ai⟩ : ∃ B, B = w1.heap.size := ⟨_, rfl⟩;obtain ⟨w2, ag⟩ : ∃ w2, w2 = w1.alloc (.cells #[.slice none 0 0] 22) := ⟨_, rfl⟩;have r4 : Row w2 d 22 #[.slice none 0 0] := by rw [ag, ai]; exact Row.new _ _ _
 have b2 : Below w1.heap.size w1 w2 := by rw [ag]; exact (Below.refl _ _).alloc (Nat.le_refl _) _
 obtain ⟨g, ao⟩ : ∃ B, B = w2.heap.size := ⟨_, rfl⟩;obtain ⟨w3, ak⟩ : ∃ w3, w3 = w2.alloc (.cells #[.bool false] 4) := ⟨_, rfl⟩;have r5 : Row w3 g 4 #[.bool false] := by rw [ak, ao]; exact Row.new _ _ _
 have b3 : Below w2.heap.size w2 w3 := by rw [ak]; exact (Below.refl _ _).alloc (Nat.le_refl _) _
 have e4 : B3 + 1 = d := by rw [ai, af, World.size_alloc, ah]
 have e5 : d + 1 = g := by rw [ao, ag, World.size_alloc, ai]
 rw [← af, ← ag, ← ak, ← ah, e4, e5];clear e4 e5;have l3 := r3.lt;have l4 := r4.lt;have bb : Below w.heap.size w w3 := b1.trans ((b2.mono b1.size).trans (b3.mono (by have := b1.size; have := b2.size; omega)));replace r3 := (r3.below b2 l3).below b3 (by have := b2.size; omega);replace r4 := r4.below b3 l4;have g3 : w.heap.size ≤ B3 := by omega
 have a5 : B3 < d := by omega
 have a6 : d < g := by omega
 clear b1 b2 b3 af ag ak ah ai ao l3 l4;refine ⟨trivial, rfl, (callsIn_wide.2 (He.out w3 (Hr.out.go bb))).mono ?_⟩;rintro e w4 ⟨rfl, b4⟩;replace r3 := r3.below b4 r3.lt;replace r4 := r4.below b4 r4.lt;replace r5 := r5.below b4 r5.lt;replace bb := bb.trans (b4.mono bb.size);clear b4 He;gi_wp2_with fail
 refine ⟨trivial, rfl, (callsIn_wide.2 (Yy A cap l 0 none 0 [] w4)).mono ?_⟩;rintro e w5 ⟨bl, ba, bo, rfl, rl, ra, ro, gl, ga, go, b5⟩;have l5 := r5.lt;replace r3 := r3.below b5 r3.lt;replace r4 := r4.below b5 r4.lt;replace r5 := r5.below b5 r5.lt;replace bb := bb.trans (b5.mono bb.size);have hC : PathsC w.heap.size A cap l (fun k => k = d ∨ k = g) ba bo bl none 0 [] 0 w5 := ⟨Hr.out.go bb, fun a1 ad e h => by have := Xe Hr.out a1 e; omega, rl, ra, ro, by omega, by omega, by omega, fun j u hj => by simp [Qj] at hj, fun h => absurd rfl h, fun _ => rfl, fun k hk => by have := r4.lt; have := r5.lt; omega, fun _ e => (nomatch e), bb.size⟩;have ay := Lv (Ae2 A cap l Hl.out t.size t 0 [] (Nat.le_refl _) (by have := az.out; have := Hl.out; simp; omega) ax.out w.heap.size (fun k => k = d ∨ k = g) ba bo bl none 0 w5 hC);have Hb := Lv bb;have s5 := r5.lt;clear hC rl ra ro b5 l5 bb;gi_wp2_with fail
 have aw : Hid ((Row w5 B3 3 #[.int .i64 (q : Int)] ∧ Row w5 d 22 #[.slice none 0 0] ∧ Row w5 g 4 #[.bool false]) ∧ Below w.heap.size w w5 ∧ ∀ x ∈ ([] : List PtX), x.to ≠ q) := ⟨⟨r3, r4, r5⟩, Hb.out, fun x hx => by simp at hx⟩;have sb := Hb.out.size;clear r3 r4 r5 Hb
 refine Yz (gf := 209) (lb := #[.pointer (some ⟨ba, 0, none⟩), .pointer (some ⟨bo, 0, none⟩), .pointer (some ⟨bl, 0, none⟩)]) rfl (enters_of Tryz.func209 (by kernel_rfl) rfl) ay.out (fun r h => h.elim)
  (fun h k => h.trans k) (fun V o o' ho hc => ⟨fun i p hx hp => by rw [World.putObj_heap_other (fun e => hx (.inr e))]; exact hp, by simp⟩) (World.grownBy.refl _ _) (fun _ => rfl)
  (fun b V => (Row V B3 3 #[.int .i64 (q : Int)] ∧ Row V d 22 #[.slice none 0 0] ∧ Row V g 4 #[.bool false]) ∧ Below w.heap.size w V ∧ ∀ x ∈ b, x.to ≠ q)
  (fun c b V => c = .ret ∧ ∃ m c', Row V d 22 #[.slice m π.length c'] ∧ Row V g 4 #[.bool true] ∧ Rd V m (Qj π) ∧ (m = none → π = []) ∧ Below w.heap.size w V ∧ ∀ ad, m = some ad → w.heap.size ≤ ad.block) (.inl trivial) ?hI ?hIx aw.out
  (fun b x a' V => a' = { tmps := #[.slice A l.length cap, .int .i64 (q : Int), undef, .pointer (some ⟨B3, 0, none⟩), .pointer (some ⟨d, 0, none⟩), .pointer (some ⟨g, 0, none⟩), .int .i64 (x.to : Int), .slice x.A x.l.length x.cap, .slice A l.length cap, .int .i64 (l.length : Int), .slice A l.length cap, .int .i64 (l.length : Int), .bool false, .slice A l.length cap, .func (.func 209) #[] #[.pointer (some ⟨ba, 0, none⟩), .pointer (some ⟨bo, 0, none⟩), .pointer (some ⟨bl, 0, none⟩)], .int .i64 (x.to : Int), .slice x.A x.l.length x.cap, undef, undef, undef, undef], defers := [] } ∧ PxP w.heap.size (Q4 [] 0 t) b x V) ?hAx ?assign ?body ?done ?stop
 case hI =>
  rintro b V V' row ⟨⟨h1, h2, h3⟩, s, z⟩ hg hr;refine ⟨⟨h1.abide hg hr, h2.abide hg hr, h3.abide hg hr⟩, s.grown hg s.size (fun k e => ?_), z⟩;rcases hr k e with h | ⟨h, _⟩
  · exact h.elim
  · omega
 case hIx =>
  rintro c b V V' row ⟨h0, m, c', h1, h2, h3, s, z, h6⟩ hg hr;refine ⟨h0, m, c', h1.abide hg hr, h2.abide hg hr, h3.grown hg (fun k e => ?_), s, z.grown hg z.size (fun k e => ?_), h6⟩
  · rcases hr k e with h | ⟨_, h⟩
    · exact h.elim
    · exact h
  · rcases hr k e with h | ⟨h, _⟩
    · exact h.elim
    · omega
 case hAx =>
  rintro b x a' _ V V' row ⟨h1, ⟨h2, s⟩, h3⟩ hg hr;refine ⟨h1, ⟨⟨h2.rd.grown hg (fun i e => ?_), h2.nil, h2.len⟩, s⟩, h3⟩;rcases hr i e with h | ⟨h, o⟩
  · exact h.elim
  · exact o
 case assign =>
  rintro l3 b x V K hI hP hK;have HK := Lv hK;have HI := Lv hI;have HP := Lv hP;clear hK hI hP;unfold PtX.enc;gi_wp2_with fail
  exact HK.out _ _ (KeepsFrom.refl _ _) (KpX.refl _ _) HI.out ⟨rfl, HP.out⟩
 case body =>
  rintro l3 b x a' V au _ ⟨⟨h3, s, z⟩, hb, aa⟩ ⟨rfl, ⟨aj, a0⟩, a4, ab⟩ am;have hx : (Q4 [] 0 t)[b.length]? = some (x.to, x.l) := by rw [← ab, L8 (by simp)]; simp [PtX.f]
  have aq := U9 t [] 0 b.length _ hx;simp only at aq;have c3 := h3.cellv (i := 0) (v := .int .i64 (q : Int)) rfl;by_cases al : x.to = q
  · have av : b.length = q := by omega
    have hπ : x.l = π := by
     rw [av, Hq.out] at hx;injection hx with hx; injection hx with _ hx; exact hx.symm
    have ac := aj.rd;have ap := aj.nil;rw [hπ] at ac ap ⊢;rw [al];have a2 : ((q : Int) == (q : Int)) = true := by simp
    have o4 := Q6 V d 0 (.slice x.A π.length x.cap);have o5 := Q6 (V.setCell ⟨d, 0, none⟩ (.slice x.A π.length x.cap)) g 0 (.bool true);have ae : d ≠ g := by omega
    have k4 := s.set 0 (.slice x.A π.length x.cap);have k5 := (z.only o4 (Ne.symm ae)).set 0 (.bool true);have q4 := k4.only o5 ae;have an := (ac.only o4 (EU ac s (by simp))).only o5 (EU (ac.only o4 (EU ac s (by simp))) (z.only o4 (Ne.symm ae)) (by simp))
    have HF : Hid (KeepsFrom w5.heap.size V ((V.setCell ⟨d, 0, none⟩ (.slice x.A π.length x.cap)).setCell ⟨g, 0, none⟩ (.bool true)) ∧ KpX (fun i => (i = d ∨ i = g) ∨ i = w5.heap.size + 1) V ((V.setCell ⟨d, 0, none⟩ (.slice x.A π.length x.cap)).setCell ⟨g, 0, none⟩ (.bool true)) ∧ ∃ m c', Row ((V.setCell ⟨d, 0, none⟩ (.slice x.A π.length x.cap)).setCell ⟨g, 0, none⟩ (.bool true)) d 22 #[.slice m π.length c'] ∧ Row ((V.setCell ⟨d, 0, none⟩ (.slice x.A π.length x.cap)).setCell ⟨g, 0, none⟩ (.bool true)) g 4 #[.bool true] ∧ Rd ((V.setCell ⟨d, 0, none⟩ (.slice x.A π.length x.cap)).setCell ⟨g, 0, none⟩ (.bool true)) m (Qj π) ∧ (m = none → π = []) ∧ Below w.heap.size w ((V.setCell ⟨d, 0, none⟩ (.slice x.A π.length x.cap)).setCell ⟨g, 0, none⟩ (.bool true)) ∧ ∀ ad, m = some ad → w.heap.size ≤ ad.block) :=
     ⟨(KeepsFrom.of_only s o4).trans (KeepsFrom.of_only (z.only o4 (Ne.symm ae)) o5), (KpX.only o4 (.inl (.inl rfl))).trans (KpX.only o5 (.inl (.inr rfl))), x.A, x.cap, q4, k5, an, ap, Ql (Ql hb o4 (by omega)) o5 (by omega), a0⟩
    have c4 := s.cellv (i := 0) (v := .slice none 0 0) rfl;have f4 := s.free 0;have c5 := (z.only o4 (Ne.symm ae)).cellv (i := 0) (v := .bool false) rfl;have f5 := (z.only o4 (Ne.symm ae)).free 0;clear al av hπ ac ap hx aq aj ab aa hb h3 s z k4 k5 q4 an o4 o5 am au;gi_wp2_with fail
    obtain ⟨e1, e2, m, c', e3, e4⟩ := HF.out;exact ⟨e1, e2, rfl, m, ⟨c', e3⟩, e4⟩
  · have a2 : ((x.to : Int) == (q : Int)) = false := by simp; omega
    have HF : Hid (KeepsFrom w5.heap.size V V ∧ KpX (fun i => (i = d ∨ i = g) ∨ i = w5.heap.size + 1) V V ∧ (Row V B3 3 #[.int .i64 (q : Int)] ∧ Row V d 22 #[.slice none 0 0] ∧ Row V g 4 #[.bool false]) ∧ Below w.heap.size w V ∧ ∀ y ∈ b ++ [x], y.to ≠ q) := ⟨KeepsFrom.refl _ _, KpX.refl _ _, ⟨h3, s, z⟩, hb, fun y hy => by
     rcases L5.1 hy with hy | hy
     · exact aa y hy
     · simp at hy; subst hy; exact al⟩
    clear al hx aq aj ab aa hb h3 s z am au;gi_wp2_with fail
    exact HF.out
 case stop =>
  rintro D c b V hD _ ⟨rfl, m, c', h1, h2, h3, s, z, h6⟩ hK;have HF : Hid (Row (V.putObj D (.deferred none)) d 22 #[.slice m π.length c'] ∧ Row (V.putObj D (.deferred none)) g 4 #[.bool true] ∧ Rd (V.putObj D (.deferred none)) m (Qj π) ∧ Below w.heap.size w (V.putObj D (.deferred none))) := ⟨h1.abide (p := fun _ => True) (grownBy_putObj' _ _ _) (fun r e => by cases e; exact .inr ⟨trivial, _, hK, rfl⟩), h2.abide (p := fun _ => True) (grownBy_putObj' _ _ _) (fun r e => by cases e; exact .inr ⟨trivial, _, hK, rfl⟩), h3.grown (grownBy_putObj' _ _ _) (fun r e => by cases e; exact ⟨_, hK, rfl⟩), z.grown (grownBy_putObj' _ _ _) z.size (fun k e => by cases e; omega)⟩;have HK := Lv hK;have H4 := Lv s;have H6 := Lv h6;clear hK h1 h2 h3 s z h6 hD;gi_wp2_with fail
  refine ⟨by simp, .inl ⟨_, _, rfl, run_takeDeferred HK.out, ?_⟩⟩;refine ⟨_, EV Tryz.results152 _ _ ⟨d, 0, none⟩ ⟨g, 0, none⟩ (.slice m π.length c') (.bool true) rfl rfl ?_ ?_, ⟨m, c', rfl, HF.out.2.2.1, H4.out, HF.out.2.2.2, H6.out⟩⟩
  · have c := HF.out.1.cellv (i := 0) (v := .slice m π.length c') rfl;simp [loadVar, go_sem, c]
  · have c := HF.out.2.1.cellv (i := 0) (v := .bool true) rfl;simp [loadVar, go_sem, c]
 case done =>
  rintro D xs V hD a3 ⟨_, _, aa⟩ hK;exfalso;have h1 := Hq.out;rw [← a3, L6] at h1;obtain ⟨x, hx, he⟩ := Option.map_eq_some_iff.1 h1;exact aa x (Lj hx) (by injection he)
end Go.Proofs.YtkoikjnlpifbjaaGreat
namespace Go.Proofs.YtkoikjnlpifbjaaGreat
open Go.RowKit
section
variable {P : Program} {ops : Array Oper} {Q : Exit → Act → World → Prop} {l : Nat}
theorem AiE {o : Oper} (hnd : ∀ c, o.op ≠ .defer c) {a : Act} {w : World} {K K' : Act → World → Prop} (h : ∀ a w, K a w → K' a w) (hh : o.wp P a w K Q) : o.wpIn (Fence.wide.inRound l) 0 P a w K' Q := by
 unfold Oper.wpIn;refine ⟨fun _ _ => trivial, ?_⟩;rw [Oper.semAt_plain _ _ _ hnd];unfold Oper.wp at hh;generalize (execOp a.eval o).run P w = r at *;cases r with
 | ok x g =>
  cases x with
  | value v => exact h _ _ hh
  | skip => exact h _ _ hh
  | defer d => exact h _ _ hh
  | enter f args =>
   refine ⟨fun e => by simp [Fence.wide] at e, CallsIn.inRound l (callsIn_wide.2 (Calls.mono (hh : Calls _ _ _ _ _) fun e j b => ?_))⟩;cases e with
   | returned v => exact h _ _ b
   | panicked c => exact b
   | outgrown => exact b
  | row rn args =>
   refine ⟨fun e => by simp [Fence.wide] at e, fun c i _ => ?_⟩;obtain ⟨v, g, r, s⟩ := (hh : Rows _ _ _ _ _) c i;exact ⟨v, g, h _ _ r, stepsIn_wide.2 s⟩
  | _ => exact (hh : False).elim
 | halt x g => cases x <;> first | exact hh | exact (hh : False).elim
def Ends (Q : Exit → Act → World → Prop) : Exit → Act → World → Prop
 | .normal, a, w => Q .normal a w
 | _, _, _ => False
theorem Ends.imp : ∀ (e : Exit) (a : Act) (w : World), Ends Q e a w → Q e a w := fun e a w h => by cases e <;> first | exact h | exact (h : False).elim
theorem Yr {a : Act} {w : World} (h : Q .normal a w) : Ends Q .normal a w := h
theorem Aht : ¬ LetsOut (Ends Q) := fun ⟨_, _, h⟩ => h
def X7 (ops : Array Oper) : Bool := ops.all fun o => match o.op with | .defer _ => false | _ => true
theorem AeU {i : Nat} {o : Oper} (h : X7 ops = true) (ho : ops[i]? = some o) : ∀ c, o.op ≠ .defer c := fun c hc => by
 obtain ⟨hi, e⟩ := Lt.1 ho;have := (Array.all_eq_true.1 h) i hi;rw [e, hc] at this;cases this
theorem Afg (h : X7 ops = true) {i : Nat} {a : Act} {w : World} {K K' : Act → World → Prop} (hK : ∀ a w, K a w → K' a w) (hh : wpOp P ops (Ends Q) i K a w) : wpOpIn (Fence.wide.inRound l) 0 P ops (Ends Q) i K' a w := by
 unfold wpOp at hh;unfold wpOpIn;cases ho : ops[i]? with
 | none => simp only [ho] at hh ⊢; exact hK _ _ hh
 | some o =>
  simp only [ho] at hh ⊢;by_cases b : Region.wanted o (yielded ops a.tmps) = true
  · rw [if_pos b];rw [if_pos b] at hh;rcases hh with hh | ⟨_, hh⟩
    · exact AiE (AeU h ho) hK hh
    · exact absurd hh Aht
  · rw [if_neg b];rw [if_neg b] at hh;exact ⟨fun _ _ => trivial, hK _ _ hh⟩
theorem VB {md : Region.Mode} (h : X7 ops = true) : ∀ (fuel : Nat) (listed : Array Bool) (a : Act) (w : World), wpAny P md ops (Ends Q) fuel listed a w → wpAnyIn (Fence.wide.inRound l) 0 P md ops (Ends Q) fuel listed a w
 | 0, _, _, _, hh => hh
 | fuel + 1, listed, a, w, hh => ⟨hh.1, fun i hi => Afg h (fun a w k => VB h fuel _ a w k) (hh.2 i hi)⟩
theorem YA {id : Nat} {a : Act} {w : World} (hm : P.follows .mixedOrders = true) (hd : X7 ops = true) (h : wpAny P .any ops (Ends Q) ops.size (Array.replicate ops.size false) a w.drew) : (Code.region id ops true).wpIn (Fence.wide.inRound l) 0 P Q a w :=
 wpIn_mono (wpIn_region_any hm (VB hd _ _ _ _ h)) Ends.imp
end
theorem AbZ {P : Program} {r : Nat} {id : Nat} {Q : Exit → Act → World → Prop} {a : Act} {w : World} {l : List Oper} (S : World → Prop) (hm : P.follows .mixedOrders = true) (hd : X7 l.toArray = true) (hB : Region.lexB .any l.toArray = true) (hS : S w.drew)
 (h : ZX P l.toArray S (fun a' => ∀ W, S W → Q .normal a' W) l a) : (Code.region id l.toArray true).wpIn (Fence.wide.inRound r) 0 P Q a w := by
 simp only [Region.lexB, Nc] at hB;refine YA hm hd (XF (S := S) (Q' := Ends Q) (Q := fun a' => ∀ W, S W → Q .normal a' W) (fun _ W h b => h W b) _ _ _ _ hS ?_);have := Ui (md := .any) hB.1 l 0 (Array.replicate l.toArray.size false) a (by simp) (by simpa using hB.2) h;simpa using this
theorem UF {P : Program} {r : Nat} {id : Nat} {Q : Exit → Act → World → Prop} {a : Act} {w : World} {l : List Oper} (S : World → Prop) (n : Nat) (hm : P.follows .mixedOrders = true) (hd : X7 l.toArray = true) (hB : Region.lexTailB .any l.toArray n = true) (hS : S w.drew)
 (h : ZX P l.toArray S (fun a' => ∀ W, S W → wpList P l.toArray (Ends Q) (l.drop n) a' W) (l.take n) a) : (Code.region id l.toArray true).wpIn (Fence.wide.inRound r) 0 P Q a w := by
 simp only [Region.lexTailB, Nc, decide_eq_true_eq] at hB;obtain ⟨⟨⟨⟨i, s⟩, y⟩, v⟩, e⟩ := hB;have x : n < l.length := by simpa using s
 have b : (l.take n).length = n := by simp; omega
 have d : (l.drop n).length = l.toArray.size - n := by simp
 have k : HeadInv .any l.toArray n (Array.replicate l.toArray.size false) :=
  ⟨by simp, fun j oj _ q => (by rw [getD_replicate_false] at q; cases q), fun t _ z => getD_in (by simpa using z) (getD_replicate_false _ _)⟩
 have H := YI (md := .any) (g := l.toArray.size - n) i y v s (l.take n) 0 _ a (fun j p => by
  have m : j < n := by rw [b] at p; exact p
  simp [m]) (by simpa using b) k (by rw [b]; exact e) h
 refine YA hm hd ?_
 have := Xl (Q' := Ends Q) (g := l.toArray.size - n) (fun c a' W o u => by
  have := wpAny_of_seq (md := .any) (Q' := Ends Q) (l.drop n) n c a' W (fun j => by simp [Nv]) (by rw [d]; exact o.1) (o.2 W u)
  rwa [d] at this) _ _ _ _ hS H
 rw [b, show n + (l.toArray.size - n) = l.toArray.size by omega] at this;exact this
mutual
def Yh : Tr → Int
 | .node _ ks => depK ks + 1
def depK : List Tr → Int
 | [] => 0
 | t :: ts => max (Yh t) (depK ts)
end
theorem AbH : ∀ ks : List Tr, 0 ≤ depK ks
 | [] => by rw [depK]; omega
 | t :: ts => by rw [depK]; have := AbH ts; omega
theorem AaY (t : Tr) : ∀ a : List Tr, depK (a ++ [t]) = max (depK a) (Yh t)
 | [] => by
  have h1 : 0 ≤ Yh t := by cases t with | node x ks => rw [Yh]; have := AbH ks; omega
  have h2 : depK [] = 0 := by rw [depK]
  rw [Lp, h2]
  show depK (t :: []) = _
  rw [depK.eq_2, h2]; omega
 | u :: a => by rw [Ln, depK, depK, AaY t a]; omega
mutual
theorem Afw : ∀ t : Tr, Yh t ≤ (t.size : Int)
 | .node x ks => by
  have := Afv ks
  have h2 : (Tr.node x ks).size = (QL ks).length + 1 := by rw [Tr.size, Tr.flat, Le]
  rw [Yh, h2]; omega
theorem Afv : ∀ ks : List Tr, depK ks ≤ ((QL ks).length : Int)
 | [] => by simp [depK, QL]
 | t :: ts => by
  have := Afw t
  have := Afv ts
  have h2 : (QL (t :: ts)).length = t.size + (QL ts).length := by rw [QL, Lf]; rfl
  rw [depK, h2]; omega
end
end Go.Proofs.YtkoikjnlpifbjaaGreat
namespace Go.Proofs.YtkoikjnlpifbjaaGreat
open Go.RowKit Go.Deep
attribute [local go_sem] Oper.semAt_some
structure KidsC (A : Option Addr) (cap : Nat) (l : List Nd) (X : Nat → Prop) (ba bl : Nat) (q : Nat) (w : World) : Prop where
 hr : Rd w A (l.flatMap Nd.cells)
 hA : l.flatMap Nd.cells ≠ [] → ∀ ad, A = some ad → ¬ X ad.block
 rl : Row w bl 23 #[.slice A l.length cap]
 ra : Row w ba 3 #[.int .i64 (q : Int)]
 xl : ¬ X bl
 xa : ¬ X ba
 hX : ∀ k, X k → k < w.heap.size
theorem KidsC.kx {A : Option Addr} {cap : Nat} {l : List Nd} {X : Nat → Prop} {ba bl : Nat} {q : Nat} {w w' : World} (h : KidsC A cap l X ba bl q w) (k : KpX X w w') : KidsC A cap l X ba bl q w' :=
 ⟨k.rd h.hr h.hA, h.hA, k.row h.rl h.xl, k.row h.ra h.xa, h.xl, h.xa, fun i hi => Lg (h.hX i hi) k.size⟩
theorem KidsC.add {A : Option Addr} {cap : Nat} {l : List Nd} {X : Nat → Prop} {ba bl : Nat} {q : Nat} {w W : World} {lb : Nat} (h : KidsC A cap l X ba bl q w) (b : Below w.heap.size w W) (h1 : w.heap.size ≤ lb) (h2 : lb < W.heap.size) : KidsC A cap l (fun i => X i ∨ i = lb) ba bl q W := by
 have g : ∀ k, k < w.heap.size → ¬ X k → ¬ (X k ∨ k = lb) := fun k c m h => by
  rcases h with h | h
  · exact m h
  · omega
 exact ⟨h.hr.go b, fun d j e => g _ (Xe h.hr d e) (h.hA d j e), h.rl.below b h.rl.lt, h.ra.below b h.ra.lt, g _ h.rl.lt h.xl, g _ h.ra.lt h.xa, fun k c => by
  rcases c with c | c
  · exact Lg (h.hX k c) b.size
  · omega⟩
def AiO (full : List Int) (pre : List Int) (x : Int) (_ : World) : Prop := ∃ rest, pre ++ x :: rest = full
theorem Vx {l : List Nd} {n j : Nat} {k : Int} (h : j < n) : Zt l (n - j) k = k :: Zt l (n - (j + 1)) (endZ l k) := by
 rw [show n - j = (n - (j + 1)) + 1 by omega, Zt]
theorem Add (A : Option Addr) (cap : Nat) (l : List Nd) (hl : l.length ≤ 1000) (q : Nat) (t : Tr) (hat : At l q t) (X : Nat → Prop) (ba bl : Nat) (w : World) (hC : KidsC A cap l X ba bl q w) :
 VX Tryz.prog 173 #[.pointer (some ⟨ba, 0, none⟩), .pointer (some ⟨bl, 0, none⟩)] (fun k : Int => #[.int .i64 k]) (fun _ => False) (fun lb => KpX (fun i => X i ∨ i = lb)) (AiO (kidsZ l (q : Int))) (fun xs => xs = kidsZ l (q : Int)) (fun _ => True) t.kids.length True w := by
 intro lb J Jx W z g _ hJ al hY h0;have ac : Below w.heap.size w W := ⟨g.os, g.tape, g.output, g.size, fun k hk => g.block k hk (by simp)⟩;have o := hC.add ac z.1 z.2;have d := hat.fits.arity
 have ae : kidsZ l (q : Int) = Zt l t.kids.length (q + 1) := by
  unfold kidsZ;rw [hat.endZ, if_neg (by omega), L1, hat.root, LZ, d, L1]
 have hx := hat.root;clear hC z ac g w;rw [ae] at hY ⊢;obtain ⟨n, hn⟩ : ∃ n, n = t.kids.length := ⟨_, rfl⟩;rw [← hn] at hY d ⊢;obtain ⟨x, ag⟩ : ∃ x, x = t.root := ⟨_, rfl⟩;rw [← ag] at d hx;clear ae hn ag hat t;have u : ∀ b k W1, J b W1 → AiO (Zt l n (q + 1)) b k W1 → b.length < n → YieldAt Fence.wide 0 Tryz.prog lb #[.int .i64 k] W1 fun e W' => (e = .returned (.bool true) ∧ J (b ++ [k]) W' ∧ KpX (fun i => X i ∨ i = lb) W1 W') ∨ (e = .returned (.bool false) ∧ Jx (b ++ [k]) W' ∧ KpX (fun i => X i ∨ i = lb) W1 W') := hY;clear hY;generalize (fun i => X i ∨ i = lb) = X1 at o u;clear X;obtain ⟨X, rfl⟩ : ∃ X, X = X1 := ⟨_, rfl⟩;obtain ⟨ad, am, hc⟩ := JW o.hr hx;have Hc := Lv hc;have Hl := Lv hl;have HC := Lv o;have HJ := Lv hJ;have HY := Lv u;have ar : (q : Int) < (l.length : Int) := by have := (Ld.1 hx).1; omega
 have hb := KS x;rw [d] at hb;clear hc hx hJ al u o hl;subst am;refine callsIn_of_wp Tryz.func173 rfl trivial ?_ rfl;simp only [Tryz.ntmps173, Lm, Le, Lu, Nat.reduceAdd, Nat.reduceSub, Lk, Ll, Ly, LH, Lp, Ln];have c1 := HC.out.rl.cellv (i := 0) (v := .slice (some ad) l.length cap) rfl;have c2 := HC.out.ra.cellv (i := 0) (v := .int .i64 (q : Int)) rfl;gi_wp2_with (refine Ja rfl 65 _ rfl (ad.add (q * 2)) rfl x.cells _ Hc.out Tryz.underlying65 rfl (by kernel_rfl) ?_);refine ⟨trivial, rfl, (callsIn_wide.2 (XJ x W)).mono ?_⟩;rintro e w2 ⟨rfl, b2⟩;have ai := Lv (HC.out.kx (KpX.of_below b2));have h0 := QH HJ.out h0 b2;clear b2 c1 c2 Hc HC;rw [d];clear d;gi_wp2;gi_loopw [4, 12] (fun kk i wr => ∃ (j : Nat) (k : Int) (b : List Int), i = .int .i64 (j : Int) ∧ kk = .int .i64 k ∧ j ≤ n ∧ Hid (b ++ Zt l (n - j) k = Zt l n (q + 1)) ∧ Hid (b.length = j) ∧ Hid (KpX X w2 wr) ∧ J b wr) (fun _ i _ => n - (intOf i).toNat)
 case atStart => exact ⟨0, _, [], by simp, rfl, Nat.zero_le _, Lv (by
  have hw : wrap64 ((q : Int) + 1) = (q : Int) + 1 := by have := Hl.out; unfold wrap64; omega
  simp [hw]), Lv rfl, Lv (KpX.refl _ _), h0⟩
 case round =>
  obtain ⟨j, k, b, rfl, rfl, aq, c, m, aa, y⟩ := hrel;clear h0;by_cases p : j < n
  · have af : AiO (Zt l n (q + 1)) b k wr := ⟨_, by rw [← c.out, Vx p]⟩;obtain ⟨fn, ap, ah, ao, hy, hR⟩ := HY.out _ k _ y af (by have := m.out; omega);have HR := Lv hR;clear hR y af;gi_wp2;refine ⟨rfl, HR.out.mono ?_⟩;rintro e W' (⟨rfl, y, hk⟩ | ⟨rfl, an, hk⟩);rotate_left
    · clear hy HR;gi_wp2;refine bodyPost_ret (results_none rfl _ _ _) rfl ?_;exact ⟨⟨_, rfl⟩, .inr ⟨_, trivial, an⟩⟩
    have h := Lv (aa.out.trans hk);have s := Lv (ai.out.kx h.out);have c1 := s.out.rl.cellv (i := 0) (v := .slice (some ad) l.length cap) rfl;clear hy HR hk;gi_wp2;refine ⟨trivial, rfl, (callsIn_wide.2 (JV (some ad) cap l k W' s.out.hr Hl.out)).mono ?_⟩;rintro e w3 ⟨rfl, b3⟩;have y := QH HJ.out y b3;have ab := Lv (h.out.trans (KpX.of_below b3));have ak : Hid ((b ++ [k]) ++ Zt l (n - (j + 1)) (endZ l k) = Zt l n (q + 1)) := by show _ = _; rw [← c.out, Vx p]; simp
    have aj : Hid ((b ++ [k]).length = j + 1) := by show _ = _; rw [Lf, m.out]; rfl
    clear b3 c1 aa h c m s;gi_wp2;go_roundw
    case rel => exact ⟨j + 1, _, _, by go_num, rfl, by omega, ak, aj, ab, y⟩
    case measure => simp [intOf]; omega
  · obtain rfl : j = n := by omega
    gi_wp2;go_end0
    refine ⟨⟨_, rfl⟩, .inl ⟨_, ?_, y⟩⟩;have := c.out;rw [NN] at this;rw [← this]; simp [Zt]
theorem Aga (A : Option Addr) (cap : Nat) (l : List Nd) (hl : l.length ≤ 1000) : ∀ (n : Nat) (t : Tr) (q : Nat), t.size ≤ n → At l q t → ∀ w, Rd w A (l.flatMap Nd.cells) →
 Calls Tryz.prog 103 #[.slice A l.length cap, .int .i64 (q : Int)] w fun e w' => e = .returned (.int .i64 (Yh t)) ∧ Below w.heap.size w w' := by
 intro n
 induction n with
 | zero => intro t q hn; have := t.size_eq; omega
 | succ n ih =>
 intro t q hn ae w hr;have aj := Lv ih;have He := Lv (fun W h => JV A cap l (q : Int) W h hl);rw [ae.endZ] at He;have Hr := Lv hr;have Hl := Lv hl;have aa := Lv ae;have Hn := Lv hn;have ay : q + t.size ≤ l.length := ae.le;have a5 := Afw t;have ax : ((q + t.size : Nat) : Int) ≤ 1000 := by omega
 obtain ⟨Q, hQ⟩ : ∃ Q, Q = q + t.size := ⟨_, rfl⟩;rw [← hQ] at He ax;have a1 : ¬ ((Q : Int) < 0) := by omega
 clear ih hl hr ae hn hQ ay;refine (callsIn_wide (n := 0)).1 ?_;refine callsIn_of_wp_marks Tryz.func103 rfl trivial ?_;simp only [Tryz.ntmps103, Lm, Le, Lu, Nat.reduceAdd, Nat.reduceSub, Lk, Ll, Ly, LH, Lp, Ln];gi_wp2_with fail
 obtain ⟨LB, ai⟩ : ∃ B, B = w.heap.size := ⟨_, rfl⟩;obtain ⟨w1, af⟩ : ∃ w1, w1 = w.alloc (.cells #[.slice A l.length cap] 23) := ⟨_, rfl⟩;have y : Row w1 LB 23 #[.slice A l.length cap] := by rw [af, ai]; exact Row.new _ _ _
 have u : Below w.heap.size w w1 := by rw [af]; exact (Below.refl _ _).alloc (Nat.le_refl _) _
 rw [← af, ← ai];have gL : w.heap.size ≤ LB := by omega
 clear af ai;refine ⟨trivial, rfl, (callsIn_wide.2 (He.out w1 (Hr.out.go u))).mono ?_⟩;rintro e w2 ⟨rfl, b2⟩;replace y := y.below b2 y.lt;replace u := u.trans (b2.mono u.size);clear b2 He;have cL : (w2.alloc (.cells #[.int .i64 0] 3)).cell? ⟨LB, 0, none⟩ = some (.slice A l.length cap) := (y.alloc _).cellv (i := 0) rfl;gi_wp2_with fail
 obtain ⟨G, hG⟩ : ∃ B, B = w2.heap.size := ⟨_, rfl⟩;obtain ⟨w3, ag⟩ : ∃ w3, w3 = w2.alloc (.cells #[.int .i64 0] 3) := ⟨_, rfl⟩;have rG : Row w3 G 3 #[.int .i64 0] := by rw [ag, hG]; exact Row.new _ _ _
 have b3 : Below w2.heap.size w2 w3 := by rw [ag]; exact (Below.refl _ _).alloc (Nat.le_refl _) _
 rw [← ag, ← hG];have a0 : LB < G := by have := y.lt; omega
 clear cL;replace y := y.below b3 y.lt;replace u := u.trans (b3.mono u.size);clear ag hG b3;refine ⟨trivial, rfl, (callsIn_wide.2 (EF A cap l (q : Int) w3)).mono ?_⟩;rintro e w4 ⟨bl, ba, rfl, rl, ra, gl, ga, b4⟩;have lG := rG.lt;replace y := y.below b4 y.lt;replace rG := rG.below b4 rG.lt;replace u := u.trans (b4.mono u.size);have hC : KidsC A cap l (fun k => k = G) ba bl q w4 := ⟨Hr.out.go u, fun aw ad e h => by have := Xe Hr.out aw e; omega, rl, ra, by omega, by omega, fun k hk => by have := rG.lt; omega⟩;have au := Lv (Add A cap l Hl.out q t aa.out (fun k => k = G) ba bl w4 hC);have Hb := Lv u;have a6 := u.size;have sG := rG.lt;clear hC rl ra b4 u gl ga lG;gi_wp2_with fail
 have aq : Hid (Row w4 G 3 #[.int .i64 (depK (t.kids.take ([] : List Int).length))] ∧ Row w4 LB 23 #[.slice A l.length cap] ∧ Below w.heap.size w w4) := ⟨by simpa [depK] using rG, y, Hb.out⟩;clear y rG Hb
 refine Yz (gf := 173) (lb := #[.pointer (some ⟨ba, 0, none⟩), .pointer (some ⟨bl, 0, none⟩)]) rfl (enters_of Tryz.func173 (by kernel_rfl) rfl) au.out (fun r h => h.elim)
  (fun h k => h.trans k) (fun V o o' ho hc => ⟨fun i p hx hp => by rw [World.putObj_heap_other (fun e => hx (.inr e))]; exact hp, by simp⟩) (World.grownBy.refl _ _) (fun _ => rfl)
  (fun b V => Row V G 3 #[.int .i64 (depK (t.kids.take b.length))] ∧ Row V LB 23 #[.slice A l.length cap] ∧ Below w.heap.size w V)
  (fun _ _ _ => False) (.inl trivial) ?hI ?hIx aq.out
  (fun b x a' V => a' = { tmps := #[.slice A l.length cap, .int .i64 (q : Int), .pointer (some ⟨LB, 0, none⟩), undef, .int .i64 0, .pointer (some ⟨G, 0, none⟩), .int .i64 x, .slice A l.length cap, .int .i64 (q : Int), .int .i64 (Q : Int), .bool (decide ((Q : Int) < 0)), .slice A l.length cap, .int .i64 (q : Int), .func (.func 173) #[] #[.pointer (some ⟨ba, 0, none⟩), .pointer (some ⟨bl, 0, none⟩)], .int .i64 x, undef, undef, undef, undef, undef, undef, undef], defers := [] } ∧ AiO (kidsZ l (q : Int)) b x V) ?hAx ?assign ?body ?done ?stop
 case hI =>
  rintro b V V' row ⟨g, h2, h3⟩ hg hr;refine ⟨g.abide hg hr, h2.abide hg hr, h3.grown hg h3.size (fun k e => ?_)⟩;rcases hr k e with h | ⟨h, _⟩
  · exact h.elim
  · omega
 case hIx => exact fun _ _ _ _ _ h _ _ => h
 case hAx => exact fun b x a' _ _ _ _ h _ _ => h
 case stop => exact fun D c b W _ _ h _ => h.elim
 case assign =>
  rintro l3 b x V K hI hP hK;have HK := Lv hK;have HI := Lv hI;have HP := Lv hP;clear hK hI hP;gi_wp2_with fail
  exact HK.out _ _ (KeepsFrom.refl _ _) (KpX.refl _ _) HI.out ⟨rfl, HP.out⟩
 case body =>
  rintro l3 b x a' V av _ ⟨g, h2, h3⟩ ⟨rfl, az, ab⟩ ah;obtain ⟨k, hk⟩ : ∃ k, t.kids[b.length]? = some k := ⟨_, La ah⟩;obtain ⟨r, hr⟩ : ∃ r, (Zk (q + 1) t.kids)[b.length]? = some r := Aca hk
  have hx : x = (r : Int) := by
   have e := aa.out.kidsZ;rw [← ab] at e;have e2 := congrArg (fun z => z[b.length]?) e;simp [hr] at e2;exact e2
  have ak := (aa.out.kids.spot _ _ _ hr hk).1
  have an : k.size ≤ n := by
   have h4 := Uu (Lj hk);have h5 := t.size_eq;have := Hn.out;omega
  have am : depK (t.kids.take (b.length + 1)) = max (depK (t.kids.take b.length)) (Yh k) := by
   rw [LG, hk]; exact AaY k _
  have j := Lv (fun W h => aj.out k r an ak W h);have ac := Lv am;subst hx;obtain ⟨m, hm⟩ : ∃ m, m = depK (t.kids.take b.length) := ⟨_, rfl⟩;obtain ⟨d, hd⟩ : ∃ d, d = Yh k := ⟨_, rfl⟩;rw [← hm] at g ac;rw [← hd] at j ac;have a2 := g.lt;obtain ⟨S, s⟩ : ∃ S, S = (fun W => Row W G 3 #[.int .i64 m] ∧ Row W LB 23 #[.slice A l.length cap] ∧ Rd W A (l.flatMap Nd.cells) ∧ Below V.heap.size V W) := ⟨_, rfl⟩;have a7 : St S := by rw [s]; infer_instance
  have T0 : Hid (∀ W, S W → Row W G 3 #[.int .i64 m]) := by show ∀ W, _; rw [s]; exact fun W h => h.1
  have T1 : Hid (∀ W, S W → Row W LB 23 #[.slice A l.length cap]) := by show ∀ W, _; rw [s]; exact fun W h => h.2.1
  have T2 : Hid (∀ W, S W → Rd W A (l.flatMap Nd.cells)) := by show ∀ W, _; rw [s]; exact fun W h => h.2.2.1
  have T3 : Hid (∀ W, S W → Below V.heap.size V W) := by show ∀ W, _; rw [s]; exact fun W h => h.2.2.2
  have hS : S V := by rw [s]; exact ⟨g, h2, Hr.out.go h3, Below.refl _ _⟩
  have H3 := Lv h3;have s3 := h3.size;clear s g h2 h3 ab hk hr ak an am hm hd ah av aj Hr;gi_wp2_with fail
  refine UF S 5 (by kernel_rfl) (by kernel_rfl) (by kernel_rfl) (St.drew hS) ?_;clear hS;simp only [LF, LP, LE, LL];(refine Qg rfl ?_ (fun W hW => ?_) ?_; rotate_left; (focus (have c := (T0.out W hW).cellv (i := 0) rfl; go_simp; exact rfl)); simp only [Act.put, Qa, Qb, Qc]);(refine Qg rfl ?_ (fun W hW => ?_) ?_; rotate_left; (focus (have c := (T1.out W hW).cellv (i := 0) rfl; go_simp; exact rfl)); simp only [Act.put, Qa, Qb, Qc]);(refine Qg rfl ?_ (fun W hW => ?_) ?_; rotate_left; (focus (go_simp; exact rfl)); simp only [Act.put, Qa, Qb, Qc]);(refine QG rfl 103 _ (fun W => by (go_simp; try rfl)) (.int .i64 d) (fun W hW => j.out W (T2.out W hW)) ?_; simp only [Act.put, Qa, Qb, Qc])
  (refine Qg rfl ?_ (fun W hW => ?_) ?_; rotate_left; (focus (go_simp; exact rfl)); simp only [Act.put, Qa, Qb, Qc]);refine QS fun W hS => ?_
  have g := T0.out W hS;have b4 := T3.out W hS;have o4 := Q6 W G 0 (.int .i64 (max m d))
  have HF : Hid (KeepsFrom w4.heap.size V (W.setCell ⟨G, 0, none⟩ (.int .i64 (max m d))) ∧ KpX (fun i => i = G ∨ i = w4.heap.size + 1) V (W.setCell ⟨G, 0, none⟩ (.int .i64 (max m d))) ∧ Row (W.setCell ⟨G, 0, none⟩ (.int .i64 (max m d))) G 3 #[.int .i64 (depK (t.kids.take (b ++ [(r : Int)]).length))] ∧ Row (W.setCell ⟨G, 0, none⟩ (.int .i64 (max m d))) LB 23 #[.slice A l.length cap] ∧ Below w.heap.size w (W.setCell ⟨G, 0, none⟩ (.int .i64 (max m d)))) :=
   ⟨(KpX.of_below b4).keeps (X := fun _ => False) (fun _ h => h.elim) |>.trans (KeepsFrom.of_only g o4), ((KpX.of_below b4).more (fun _ h => (h : False).elim)).trans (KpX.only o4 (.inl rfl)), by rw [Lf]; simp only [Le, Lu, LN]; rw [ac.out]; exact g.set 0 _, (T1.out W hS).only o4 (by omega), Ql (H3.out.trans (b4.mono s3)) o4 (by omega)⟩
  have c := g.cellv (i := 0) (v := .int .i64 m) rfl;have f := g.free 0;clear g b4 o4 T0 T1 T2 T3 j ac hS;go_wp2_with fail
  all_goals
   refine Yr ?_
   first | rw [show max m d = d by omega] at HF | rw [show max m d = m by omega] at HF | skip
   gi_wp2_with fail
   exact HF.out
 case done =>
  rintro D ys V hD ap ⟨g, h2, h3⟩ hK;have ao : ys.length = t.kids.length := by rw [ap, aa.out.kidsZ, Lz, JR]
  rw [ao, LW] at g;have al : Yh t = depK t.kids + 1 := by cases t; rfl
  have hc := g.cellv (i := 0) (v := .int .i64 (depK t.kids)) rfl;have HK := Lv hK;have H3 := Lv h3;have ar := Lv al;have a4 : depK t.kids ≤ 1000 := by have := aa.out.le; have := Hl.out; omega
  have a3 := AbH t.kids;clear hK g h2 h3 ap ao al;gi_wp2;refine ⟨by simp, .inl ⟨_, _, rfl, run_takeDeferred HK.out, ?_⟩⟩;refine ⟨_, results_tmp rfl _ _ _, ?_, H3.out.grown (grownBy_putObj' _ _ _) H3.out.size (fun k e => by cases e; omega)⟩;rw [ar.out];rfl
end Go.Proofs.YtkoikjnlpifbjaaGreat
namespace Go.Proofs.YtkoikjnlpifbjaaGreat
open Go.RowKit
structure Whole (l : List Nd) (t : Tr) : Prop where
 hat : At l 0 t
 size : t.size = l.length
theorem Whole.of {l : List Nd} (h : endZ l 0 = (l.length : Int)) : ∃ t, Whole l t := by
 obtain ⟨t, b, _⟩ := YZ (l := l) (a := 0) (by omega);have c := b.endZ;have d : endZ l 0 = ((0 + t.size : Nat) : Int) := by simpa using c
 exact ⟨t, b, by omega⟩
theorem Whole.endZ {l : List Nd} {t : Tr} (h : Whole l t) : endZ l 0 = (l.length : Int) := by
 have b := h.hat.endZ;rw [h.size] at b;simpa using b
theorem Whole.uniq {l : List Nd} {a b : Tr} (h : Whole l a) (k : Whole l b) : a = b := h.hat.uniq k.hat
theorem Whole.pos {l : List Nd} {t : Tr} (h : Whole l t) : 0 < l.length := by have := h.hat.lt; omega
theorem Good.whole {p : PgV} {t : Tr} (h : Good p t) : Whole p.body t := ⟨h.hat, h.size⟩
open Classical in
noncomputable def ZS (l : List Nd) : Int :=
 if l.length = 0 then 10 else if 200 < l.length then 4 else if ∃ x ∈ l, Qu x < 0 then 11 else if endZ l 0 ≠ (l.length : Int) then 12 else if ∃ t, Whole l t ∧ 30 < Yh t then 13 else 0
theorem AcE {l : List Nd} (h : l.length = 0) : ZS l = 10 := by unfold ZS; rw [if_pos h]
theorem AcF {l : List Nd} (h : 200 < l.length) : ZS l = 4 := by unfold ZS; rw [if_neg (by omega), if_pos h]
theorem AcG {l : List Nd} (h0 : ¬ l.length = 0) (h1 : ¬ 200 < l.length) {x : Nd} (hx : x ∈ l) (h : Qu x < 0) : ZS l = 11 := by unfold ZS; rw [if_neg h0, if_neg h1, if_pos ⟨x, hx, h⟩]
theorem AcH {l : List Nd} (h0 : ¬ l.length = 0) (h1 : ¬ 200 < l.length) (h2 : ∀ x ∈ l, ¬ Qu x < 0) (h : endZ l 0 ≠ (l.length : Int)) : ZS l = 12 := by
 unfold ZS; rw [if_neg h0, if_neg h1, if_neg (fun ⟨x, hx, hn⟩ => h2 x hx hn), if_pos h]
theorem Ed {l : List Nd} (h1 : ¬ 200 < l.length) (h2 : ∀ x ∈ l, ¬ Qu x < 0) {t : Tr} (ht : Whole l t) : ZS l = if 30 < Yh t then 13 else 0 := by
 have c := ht.pos;unfold ZS;rw [if_neg (by omega), if_neg h1, if_neg (fun ⟨x, hx, hn⟩ => h2 x hx hn), if_neg (fun h => h ht.endZ)];by_cases b : 30 < Yh t
 · rw [if_pos b, if_pos ⟨t, ht, b⟩]
 · rw [if_neg b, if_neg (fun ⟨u, hu, hn⟩ => b (by rw [ht.uniq hu]; exact hn))]
theorem AaU {l : List Nd} (h : ZS l = 0) : l.length ≤ 200 ∧ (∀ x ∈ l, ¬ Qu x < 0) ∧ ∃ t, Whole l t ∧ Yh t ≤ 30 := by
 by_cases d : l.length = 0
 · rw [AcE d] at h; cases h
 by_cases c : 200 < l.length
 · rw [AcF c] at h; cases h
 by_cases i : ∃ x ∈ l, Qu x < 0
 · obtain ⟨x, g, e⟩ := i;rw [AcG d c g e] at h; cases h
 have b : ∀ x ∈ l, ¬ Qu x < 0 := fun x g e => i ⟨x, g, e⟩
 by_cases j : endZ l 0 = (l.length : Int)
 · obtain ⟨t, k⟩ := Whole.of j;rw [Ed c b k] at h;refine ⟨by omega, b, t, k, ?_⟩;by_cases m : 30 < Yh t
   · rw [if_pos m] at h; cases h
   · omega
 · rw [AcH d c b j] at h; cases h
open Classical in
noncomputable def QI (p : PgV) : Int := if ZS p.body ≠ 0 then ZS p.body else if Jt p.params p.V ≠ 0 then 14 else if ∃ t, Good p t then 0 else 15
theorem AcI {p : PgV} (h : ZS p.body ≠ 0) : QI p = ZS p.body := by unfold QI; rw [if_pos h]
theorem AcJ {p : PgV} (h : ZS p.body = 0) (h1 : Jt p.params p.V ≠ 0) : QI p = 14 := by unfold QI; rw [if_neg (by simp [h]), if_pos h1]
theorem Ee {p : PgV} (h : ZS p.body = 0) (h1 : Jt p.params p.V = 0) (h2 : ∀ t, ¬ Good p t) : QI p = 15 := by
 unfold QI; rw [if_neg (by simp [h]), if_neg (by simp [h1]), if_neg (fun ⟨t, ht⟩ => h2 t ht)]
theorem AcK {p : PgV} (h : ZS p.body = 0) (h1 : Jt p.params p.V = 0) {t : Tr} (h2 : Good p t) : QI p = 0 := by
 unfold QI; rw [if_neg (by simp [h]), if_neg (by simp [h1]), if_pos ⟨t, h2⟩]
structure Fine (p : PgV) (t : Tr) : Prop where
 good : Good p t
 len : p.body.length ≤ 200
 ar : ∀ x ∈ p.body, ¬ Qu x < 0
 dep : Yh t ≤ 30
theorem checkP_ok {p : PgV} : QI p = 0 ↔ ∃ t, Fine p t := by
 constructor
 · intro h;by_cases e : ZS p.body = 0
   · by_cases g : Jt p.params p.V = 0
     · by_cases i : ∃ t, Good p t
       · obtain ⟨t, d⟩ := i;obtain ⟨a, b, u, k, c⟩ := AaU e;have : t = u := d.whole.uniq k;exact ⟨t, d, a, b, by rw [this]; exact c⟩
       · rw [Ee e g (fun t d => i ⟨t, d⟩)] at h; cases h
     · rw [AcJ e g] at h; cases h
   · rw [AcI e] at h; exact absurd h e
 · rintro ⟨t, d⟩;have j : ZS p.body = 0 := by rw [Ed (by have := d.len; omega) d.ar d.good.whole, if_neg (by have := d.dep; omega)]
   refine AcK j ?_ d.good;unfold Jt; rw [if_pos d.good.vars]
end Go.Proofs.YtkoikjnlpifbjaaGreat
