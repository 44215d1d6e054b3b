/- Lemmas for RunnerJustP. -/
import Derived.Test.YtkoikjnlpifbjaaGreatZb1
import Derived.Test.YtkoikjnlpifbjaaGreatZb6
set_option linter.unusedVariables false
set_option linter.unusedSimpArgs false
set_option maxRecDepth 100000
set_option maxHeartbeats 16000000
namespace Go.Proofs.YtkoikjnlpifbjaaGreat
open Go.RowKit Go.Deep
theorem Ua {V : List Int} {inn : Bool} : ∀ (ks : List Tr) (want : List Int) (f : Bool), want.length = ks.length → (Zb V inn f ks want = true ↔ ∀ (j : Nat) (t : Tr) (w : Int), ks[j]? = some t → want[j]? = some w → ofT V t = w ∧ (inn = true → (f = false ∨ 0 < j) → t.root.tag = 20))
 | [], [], f, _ => by rw [Zw]; simp
 | t :: ts, k :: ws, f, h => by
  rw [Zq]
  have ih := Ua (V := V) (inn := inn) ts ws false (by simpa using h)
  constructor
  · intro hh
    simp only [Nc] at hh
    obtain ⟨⟨h1, h2⟩, h3⟩ := hh
    have h3 := ih.1 h3
    intro j t' w' ht hw
    cases j with
    | zero =>
     simp at ht hw; subst ht hw
     refine ⟨by simpa using h1, fun hi hf => ?_⟩
     rcases hf with hf | hf
     · subst hi hf; simpa using h2
     · omega
    | succ j =>
     simp at ht hw
     have := h3 j t' w' ht hw
     exact ⟨this.1, fun hi _ => this.2 hi (.inl rfl)⟩
  · intro hh
    simp only [Nc]
    refine ⟨⟨?_, ?_⟩, ih.2 fun j t' w' ht hw => ?_⟩
    · have := (hh 0 t k rfl rfl).1; simpa using this
    · cases hi : inn with
      | false => simp
      | true =>
       cases hf : f with
       | true => simp
       | false => have := (hh 0 t k rfl rfl).2 hi (.inl hf); simp [this]
    · have := hh (j + 1) t' w' (by simpa using ht) (by simpa using hw)
      exact ⟨this.1, fun hi _ => this.2 hi (.inr (by omega))⟩
structure RB (M : Nat) (W : World) : Prop where
 ex : ∃ es, MapB W M es ∧ (∀ p ∈ es, RuleR W p.1 p.2) ∧ ∀ k, k ∈ es.map (·.1) ↔ (1 ≤ k ∧ k ≤ 26 ∧ k ≠ 20)
theorem RB.go {M : Nat} {W W' : World} (h : RB M W) (b : Below W.heap.size W W') : RB M W' := by
 obtain ⟨d, c, e, g⟩ := h.ex;exact ⟨d, c.below b c.lt, fun p i => (e p i).go b, g⟩
instance St.rb {M : Nat} : St (fun W => RB M W) := ⟨fun h b => h.go b⟩
def K5 (p : PgV) (M : Nat) : Array Value := #[.int .i64 p.params, .slice p.va p.V.length p.vcap, .slice p.ba p.body.length p.bcap, .map (some M)]
theorem Ym {W : World} {C M : Nat} {p : PgV} (h : Row W C 173 (K5 p M)) : ∀ j v, p.cells.toList[j]? = some v → W.cell? ((⟨C, 0, none⟩ : Addr).add j) = some v :=
 h.from_ 0 (cs := p.cells.toList) (fun j v hj => by
  rw [LN]
  have hlt := (Ld.1 hj).1
  simp only [PgV.cells, Le, Lu] at hlt
  have : j = 0 ∨ j = 1 ∨ j = 2 := by omega
  rcases this with rfl | rfl | rfl <;> simpa [PgV.cells, K5] using hj)
theorem AdO {tag is : Int} {want : List Int} (h : JE tag = some (is, want)) :
 (tag = 1 ∧ is = 0 ∧ want = []) ∨ (tag = 2 ∧ is = 1 ∧ want = []) ∨ (tag = 5 ∧ is = 0 ∧ want = [0]) ∨ (tag = 6 ∧ is = 1 ∧ want = [1]) ∨ (tag = 18 ∧ is = 1 ∧ want = [1, 1]) ∨ (tag = 19 ∧ is = 1 ∧ want = [1, 1]) ∨ (tag = 23 ∧ is = 2 ∧ want = [1, 2, 2]) ∨ (tag = 24 ∧ is = 2 ∧ want = [1, 2]) ∨ (tag = 25 ∧ is = 2 ∧ want = [0]) ∨ (tag = 26 ∧ is = 2 ∧ want = []) ∨ ((7 ≤ tag ∧ tag ≤ 11) ∧ is = 0 ∧ want = [0, 0]) ∨ ((12 ≤ tag ∧ tag ≤ 17) ∧ is = 1 ∧ want = [0, 0]) := by
 have b : ∀ {o : Option (Int × List Int)} {a : Int} {l : List Int}, o = some (is, want) → o = some (a, l) → is = a ∧ want = l := fun i e => by
  rw [i] at e; injection e with e; injection e with h3 h4; exact ⟨h3, h4⟩
 by_cases i : tag = 1
 · have := b h (by unfold JE; rw [if_pos i]);exact .inl (⟨i, this.1, this.2⟩)
 by_cases e : tag = 2
 · have := b h (by unfold JE; rw [if_neg i, if_pos e]);exact .inr (.inl (⟨e, this.1, this.2⟩))
 by_cases m : tag = 5
 · have := b h (by unfold JE; rw [if_neg i, if_neg e, if_pos m]);exact .inr (.inr (.inl (⟨m, this.1, this.2⟩)))
 by_cases p : tag = 6
 · have := b h (by unfold JE; rw [if_neg i, if_neg e, if_neg m, if_pos p]);exact .inr (.inr (.inr (.inl (⟨p, this.1, this.2⟩))))
 by_cases c : tag = 18
 · have := b h (by unfold JE; rw [if_neg i, if_neg e, if_neg m, if_neg p, if_pos c]);exact .inr (.inr (.inr (.inr (.inl (⟨c, this.1, this.2⟩)))))
 by_cases d : tag = 19
 · have := b h (by unfold JE; rw [if_neg i, if_neg e, if_neg m, if_neg p, if_neg c, if_pos d]);exact .inr (.inr (.inr (.inr (.inr (.inl (⟨d, this.1, this.2⟩))))))
 by_cases g : tag = 23
 · have := b h (by unfold JE; rw [if_neg i, if_neg e, if_neg m, if_neg p, if_neg c, if_neg d, if_pos g]);exact .inr (.inr (.inr (.inr (.inr (.inr (.inl (⟨g, this.1, this.2⟩)))))))
 by_cases j : tag = 24
 · have := b h (by unfold JE; rw [if_neg i, if_neg e, if_neg m, if_neg p, if_neg c, if_neg d, if_neg g, if_pos j]);exact .inr (.inr (.inr (.inr (.inr (.inr (.inr (.inl (⟨j, this.1, this.2⟩))))))))
 by_cases k : tag = 25
 · have := b h (by unfold JE; rw [if_neg i, if_neg e, if_neg m, if_neg p, if_neg c, if_neg d, if_neg g, if_neg j, if_pos k]);exact .inr (.inr (.inr (.inr (.inr (.inr (.inr (.inr (.inl (⟨k, this.1, this.2⟩)))))))))
 by_cases n : tag = 26
 · have := b h (by unfold JE; rw [if_neg i, if_neg e, if_neg m, if_neg p, if_neg c, if_neg d, if_neg g, if_neg j, if_neg k, if_pos n]);exact .inr (.inr (.inr (.inr (.inr (.inr (.inr (.inr (.inr (.inl (⟨n, this.1, this.2⟩))))))))))
 by_cases q : 7 ≤ tag ∧ tag ≤ 11
 · have := b h (by unfold JE; rw [if_neg i, if_neg e, if_neg m, if_neg p, if_neg c, if_neg d, if_neg g, if_neg j, if_neg k, if_neg n, if_pos q]);exact .inr (.inr (.inr (.inr (.inr (.inr (.inr (.inr (.inr (.inr (.inl (⟨q, this.1, this.2⟩)))))))))))
 by_cases s : 12 ≤ tag ∧ tag ≤ 17
 · have := b h (by unfold JE; rw [if_neg i, if_neg e, if_neg m, if_neg p, if_neg c, if_neg d, if_neg g, if_neg j, if_neg k, if_neg n, if_neg q, if_pos s]);exact .inr (.inr (.inr (.inr (.inr (.inr (.inr (.inr (.inr (.inr (.inr (⟨s, this.1, this.2⟩)))))))))))
 · exfalso;have t : JE tag = none := by unfold JE; rw [if_neg i, if_neg e, if_neg m, if_neg p, if_neg c, if_neg d, if_neg g, if_neg j, if_neg k, if_neg n, if_neg q, if_neg s]
   rw [t] at h; cases h
theorem Ago {V : List Int} {tag n is : Int} {want : List Int} (h : JE tag = some (is, want)) (m : Nat) : isZ V ⟨tag, n⟩ = is ∧ QU V ⟨tag, n⟩ m = want := by
 rcases AdO h with ⟨rfl, rfl, rfl⟩ | ⟨rfl, rfl, rfl⟩ | ⟨rfl, rfl, rfl⟩ | ⟨rfl, rfl, rfl⟩ | ⟨rfl, rfl, rfl⟩ | ⟨rfl, rfl, rfl⟩ | ⟨rfl, rfl, rfl⟩ | ⟨rfl, rfl, rfl⟩ | ⟨rfl, rfl, rfl⟩ | ⟨rfl, rfl, rfl⟩ | ⟨b, rfl, rfl⟩ | ⟨b, rfl, rfl⟩
 iterate 10 (exact ⟨rfl, rfl⟩)
 all_goals
  unfold isZ QU
  dsimp only
  refine ⟨?_, ?_⟩ <;> (repeat (first | rw [if_pos (by omega)] | rw [if_neg (by omega)]))
theorem Ajm {V : List Int} {tag n is : Int} {want : List Int} (h : AiS tag = some (is, want)) (m : Nat) : isZ V ⟨tag, n⟩ = Yl V n is ∧ QU V ⟨tag, n⟩ m = want := by
 unfold AiS at h
 repeat' split at h
 all_goals cases h
 all_goals (subst_vars; exact ⟨rfl, rfl⟩)
theorem AeC {V : List Int} {tag n : Int} {b : Bool} (h : tag = 3 ∧ b = false ∨ tag = 21 ∧ b = true) (m : Nat) : isZ V ⟨tag, n⟩ = Xv V n b ∧ (isZ V ⟨tag, n⟩ ≠ -1 → QU V ⟨tag, n⟩ m = Ky V n b) := by
 rcases h with ⟨rfl, rfl⟩ | ⟨rfl, rfl⟩
 · exact ⟨rfl, fun _ => by unfold Ky; rw [if_neg (by simp)]; rfl⟩
 · refine ⟨rfl, fun c => ?_⟩
   have d : Ki V n = true := by
    cases d : Ki V n with
    | true => rfl
    | false => exact absurd (show isZ V ⟨21, n⟩ = -1 by show (if Ki V n = true then (2 : Int) else -1) = -1; rw [d]; rfl) c
   obtain ⟨t, e, _⟩ := Ya d;unfold Ky;rw [if_pos ⟨rfl, (Ld.1 e).1⟩]; rfl
theorem Abb {V : List Int} {n : Int} (m : Nat) : isZ V ⟨20, n⟩ = 2 ∧ QU V ⟨20, n⟩ m = List.replicate m 2 := ⟨rfl, rfl⟩
theorem Yv {V : List Int} {x : Nd} {ks : List Tr} {iv : Int} {want : List Int} (hi : isZ V x = iv) (hw : iv ≠ -1 → QU V x ks.length = want) :
 (iv = -1 → ofT V (.node x ks) = -1) ∧ (want.length ≠ ks.length → ofT V (.node x ks) = -1) ∧ (iv ≠ -1 → want.length = ks.length → Zb V (ZB x) true ks want = true → ofT V (.node x ks) = iv) ∧ (Zb V (ZB x) true ks want = false → want.length = ks.length → ofT V (.node x ks) = -1) := by
 by_cases h : iv = -1
 · have : ofT V (.node x ks) = -1 := by rw [ofT, if_pos (.inl (hi.trans h))]
   exact ⟨fun _ => this, fun _ => this, fun e => absurd h e, fun _ _ => this⟩
 · have d := hw h;clear hw;subst hi d;refine ⟨fun e => absurd e h, fun b => ?_, fun _ b c => ?_, fun c b => ?_⟩
   · rw [ofT, if_pos (.inr b)]
   · rw [ofT, if_neg (by simp [h, b]), if_pos c]
   · rw [ofT, if_neg (by simp [h, b]), c]; rfl
theorem KP {V : List Int} {inn : Bool} {ks : List Tr} {want : List Int} (hl : want.length = ks.length) {j : Nat} {t : Tr} {w : Int} (ht : ks[j]? = some t) (hw : want[j]? = some w) (h : ¬ (ofT V t = w ∧ (inn = true → 0 < j → t.root.tag = 20))) : Zb V inn true ks want = false := by
 cases hk : Zb V inn true ks want with
 | false => rfl
 | true =>
  have := (Ua ks want true hl).1 hk j t w ht hw;exact absurd ⟨this.1, fun hi b => this.2 hi (.inr b)⟩ h
def AdE (V : List Int) (inn : Bool) (ks : List Tr) (want : List Int) (k : Nat) : Prop := ∀ (j : Nat) (t : Tr) (w : Int), j < k → ks[j]? = some t → want[j]? = some w → ofT V t = w ∧ (inn = true → 0 < j → t.root.tag = 20)
theorem Kf {V : List Int} {inn : Bool} {ks : List Tr} {want : List Int} {k : Nat} {t : Tr} {w : Int} (h : AdE V inn ks want k) (ht : ks[k]? = some t) (hw : want[k]? = some w) (h1 : ofT V t = w) (h2 : inn = true → 0 < k → t.root.tag = 20) : AdE V inn ks want (k + 1) := fun j t' w' hj ht' hw' => by
 by_cases e : j = k
 · subst e;rw [ht] at ht'; rw [hw] at hw';injection ht' with e1; injection hw' with e2; subst e1 e2;exact ⟨h1, h2⟩
 · exact h j t' w' (by omega) ht' hw'
theorem Abl {V : List Int} {inn : Bool} {ks : List Tr} {want : List Int} {k : Nat} (hl : want.length = ks.length) (hk : ks.length ≤ k) (h : AdE V inn ks want k) : Zb V inn true ks want = true :=
 (Ua ks want true hl).2 fun j t w ht hw => by
  have := h j t w (by have := (Ld.1 ht).1; omega) ht hw
  exact ⟨this.1, fun hi hf => this.2 hi (hf.elim (fun e => by cases e) id)⟩
section
variable {A : Option Addr} {m cap : Nat} {is : Int} {b : Bool}
theorem AeO (f : Nat) (w : World) : (method (f + 1) 228 (.agg #[.slice A m cap, .int .i64 is]) "offshoot/kinds.kind").run Tryz.prog w = .ok (274, .agg #[.slice A m cap, .int .i64 is]) w := by kernel_rfl
theorem AeN (f : Nat) (w : World) : (method (f + 1) 232 (.agg #[.slice A m cap, .int .i64 is]) "offshoot/kinds.kind").run Tryz.prog w = .ok (276, .agg #[.slice A m cap, .int .i64 is]) w := by kernel_rfl
theorem Adr (f : Nat) (w : World) : (method (f + 1) 230 (.agg #[.bool b]) "offshoot/kinds.kind").run Tryz.prog w = .ok (275, .agg #[.bool b]) w := by kernel_rfl
end
theorem AkV {W : World} {p : PgV} {tag nn : Int} {v : Value} (k : Nat) (h : RuleR W tag v) (hn0 : tag ≠ 1 → 0 ≤ nn) :
 ∃ ty x fk iv want, v = .iface ty x ∧ (∀ w, (binOp .neq 234 (.iface ty x) .nilIface).run Tryz.prog w = .ok (.bool true) w) ∧ (∀ f w, (method (f + 1) ty x "offshoot/kinds.kind").run Tryz.prog w = .ok (fk, x) w) ∧ (∀ a w, (callFunc fk a).run Tryz.prog w = .ok (.enter fk a) w) ∧
  (∀ W', Below W.heap.size W W' → p.ok W' → Calls Tryz.prog fk #[x, .agg p.cells, .agg (Nd.cells ⟨tag, nn⟩).toArray] W' fun e w' => e = .returned (.int .i64 iv) ∧ Below W'.heap.size W' w') ∧
  (∀ m W', Below W.heap.size W W' → p.ok W' → Calls Tryz.prog 139 #[.agg p.cells, .agg (Nd.cells ⟨tag, nn⟩).toArray, .iface ty x, .int .i64 m] W' fun e w' => WantR want W' w' e) ∧
  isZ p.V ⟨tag, nn⟩ = iv ∧ (iv ≠ -1 → QU p.V ⟨tag, nn⟩ k = want) := by
 cases h with
 | plain is A m cap want hc c hr =>
  subst c;obtain ⟨d, g⟩ := Ago (V := p.V) (n := nn) hc k;exact ⟨_, _, _, _, want, rfl, fun _ => by kernel_rfl, fun f w => AeO f w, fun _ _ => by kernel_rfl, fun W' _ _ => AaD A want.length cap is p ⟨tag, nn⟩ W', fun m W' b _ => (Acw A want.length cap is p ⟨tag, nn⟩ m W').mono fun e w' ⟨e1, b1⟩ => ⟨A, cap, e1, (hr.go b).go b1, b1⟩, d, fun _ => g⟩
 | scalar b h =>
  obtain ⟨d, g⟩ := AeC (V := p.V) (n := nn) h k;have c := hn0 (by omega);exact ⟨_, _, _, _, _, rfl, fun _ => by kernel_rfl, fun f w => Adr f w, fun _ _ => by kernel_rfl, fun W' _ i => Aae b p tag nn W' i c, fun m W' _ i => AbA b p tag nn c m W' i, d, fun h => g (by rw [d]; exact h)⟩
 | array is A m cap want hc c hr =>
  subst c;obtain ⟨d, g⟩ := Ajm (V := p.V) (n := nn) hc k;have c := hn0 (fun e => by subst e; simp [AiS] at hc);exact ⟨_, _, _, _, want, rfl, fun _ => by kernel_rfl, fun f w => AeN f w, fun _ _ => by kernel_rfl, fun W' _ i => Aau A want.length cap is p tag nn W' i c, fun m W' b _ => (Acv A want.length cap is p ⟨tag, nn⟩ m W').mono fun e w' ⟨e1, b1⟩ => ⟨A, cap, e1, (hr.go b).go b1, b1⟩, d, fun _ => g⟩
theorem Ajy (p : PgV) (M : Nat) (hbl : p.body.length ≤ 1000) : ∀ (n : Nat) (t : Tr) (q : Nat), t.size ≤ n → At p.body q t → ∀ w, p.ok w → RB M w → Calls Tryz.prog 105 #[.agg (K5 p M), .int .i64 (q : Int)] w fun e w' => e = .returned (.int .i64 (ofT p.V t)) ∧ Below w.heap.size w w' := by
 intro n
 induction n with
 | zero => intro t q hn; have := t.size_eq; omega
 | succ n ih =>
 intro t q hn ao w co cq;obtain ⟨⟨tag, nn⟩, ks⟩ := t;have ct := Lv hbl;have b2 : kidsZ p.body (q : Int) = KI (Zk (q + 1) ks) := ao.kidsZ;obtain ⟨pos, au⟩ : ∃ pos, pos = Zk (q + 1) ks := ⟨_, rfl⟩;rw [← au] at b2;have cv := Lv b2;have o : Hid (pos.length = ks.length) := by show _ = _; rw [au, JR]
 have cn : ∀ (i q' : Nat) (k : Tr), pos[i]? = some q' → ks[i]? = some k → At p.body q' k ∧ ∀ W, p.ok W → RB M W → Calls Tryz.prog 105 #[.agg (K5 p M), .int .i64 (q' : Int)] W fun e W' => e = .returned (.int .i64 (ofT p.V k)) ∧ Below W.heap.size W W' := by
  intro i q' k h1 hk;rw [au] at h1;obtain ⟨ci, _⟩ := ao.kids.spot i q' k h1 hk;refine ⟨ci, ih k q' ?_ ci⟩;have h3 := Uu (Lj hk);have h4 := (Tr.node ⟨tag, nn⟩ ks).size_eq;simp only [Tr.kids] at h4;omega
 have bn : Hid (pos.length ≤ 1000) := by
  show _ ≤ _
  have h5 : ∀ (ts : List Tr), ts.length ≤ (QL ts).length := fun ts => by
   induction ts with
   | nil => simp
   | cons t ts ih => rw [QL, Lf, Le]; have := t.size_eq; have df : t.size = t.flat.length := rfl; omega
  have h3 := h5 ks;have h4 := (Tr.node ⟨tag, nn⟩ ks).size_eq;simp only [Tr.kids] at h4;have := ao.le;rw [o.out]; omega
 have cc := Lv cn;have bi := ao.fits;have bt : 0 ≤ Qu ⟨tag, nn⟩ := by have := bi.arity; simp only [Tr.root, Tr.kids] at this; omega
 have bj : 1 ≤ tag ∧ tag ≤ 26 := by
  by_cases h : 1 ≤ tag ∧ tag ≤ 26
  · exact h
  · rw [AaM h] at bt; omega
 have cl : tag ≠ 1 → 0 ≤ nn := fun h => by have := AaO bt; simp only at this; omega
 have cw := Lv cl;have bo : Hid (p.body[q]? = some ⟨tag, nn⟩) := ao.root;have de : (q : Int) < (p.body.length : Int) := by have := ao.lt; omega
 have cd := Lv co;have ce := Lv cq;have bh := Lv bj;clear b2 cn bi bt cl co au ao ih hbl hn cq bj;go_enter Tryz.func105, Tryz.ntmps105
 go_wp2_with (refine Qm _ _ rfl ?_)
 refine Stop.to ?_;refine Qe rfl 173 _ rfl (K5 p M) rfl ?_;intro C w1 hC rC b1;have b1 := (Below.refl w.heap.size w).trans (b1.mono hC);have c2 := rC.cellv (i := 2) (v := .slice p.ba p.body.length p.bcap) rfl;have ay := Lv (cd.out.go b1);have bf := Lv (ce.out.go b1);obtain ⟨ad, cg, hc⟩ := JW ay.out.brd bo.out;have Hc := Lv hc;have cf := c2;rw [cg] at cf;clear hC cd ce c2 hc cg
 go_wp2_with (first
  | (refine QF rfl 65 _ rfl (ad.add (q * 2)) rfl (Nd.cells ⟨tag, nn⟩) _ Hc.out Tryz.underlying65 rfl (by kernel_rfl) ?_)
  | (refine QE _ rfl ?_))
 refine Stop.to ?_;refine Qi rfl 65 rfl _ _ Abz rfl ?_;intro X w3 hX rX b3;go_wp2_with (refine Qp _ _ _ rfl ?_)
 refine Stop.to ?_;refine Qk rfl 65 _ _ rfl X (Nd.cells ⟨tag, nn⟩).toArray rfl rfl 65 _ rX (by kernel_rfl) rfl (by simp [Nd.cells, Value.oneCell']) ?_;intro w4 r4 o4;have a2 : Below w1.heap.size w1 w4 := (b3.mono hX).trans (o4.below hX);have rC := rC.below a2 rC.lt;have az := Lv (ay.out.go a2);have bg := Lv (bf.out.go a2);have b4 := b1.trans (a2.mono b1.size);have c2 := rC.cellv (i := 2) (v := .slice p.ba p.body.length p.bcap) rfl;clear b3 o4 rX a2 b1 ay bf cf hX Hc;go_wp2_with fail
 refine (Uv p.ba p.bcap p.body (q : Int) w4 az.out.brd ct.out).mono ?_;rintro e W ⟨kv, rfl, a8, b5⟩;rw [cv.out, Abh] at a8;obtain ⟨KA, da, rfl, ck, dc, dd⟩ := AeX a8;have rC := rC.below b5 rC.lt;have r4 := r4.below b5 r4.lt;have be := Lv (az.out.go b5);have a0 := Lv (bg.out.go b5);have b5 := b4.trans (b5.mono b4.size);have db := r4.cellv (i := 0) (v := .int .i64 tag) rfl;have c3 := rC.cellv (i := 3) (v := .map (some M)) rfl;obtain ⟨S, am⟩ : ∃ S, S = (fun W => Row W C 173 (K5 p M) ∧ Row W X 65 (Nd.cells ⟨tag, nn⟩).toArray ∧ Rd W KA (Qj (KI pos)) ∧ p.ok W ∧ RB M W ∧ Below w.heap.size w W) := ⟨_, rfl⟩;have b9 : St S := by rw [am]; infer_instance
 have S0 : Hid (∀ W, S W → Row W C 173 (K5 p M)) := by show ∀ W, _; rw [am]; exact fun W h => h.1
 have S6 : Hid (∀ W, S W → Row W X 65 (Nd.cells ⟨tag, nn⟩).toArray) := by show ∀ W, _; rw [am]; exact fun W h => h.2.1
 have S1 : Hid (∀ W, S W → Rd W KA (Qj (KI pos))) := by show ∀ W, _; rw [am]; exact fun W h => h.2.2.1
 have S2 : Hid (∀ W, S W → p.ok W) := by show ∀ W, _; rw [am]; exact fun W h => h.2.2.2.1
 have S5 : Hid (∀ W, S W → RB M W) := by show ∀ W, _; rw [am]; exact fun W h => h.2.2.2.2.1
 have S4 : Hid (∀ W, S W → Below w.heap.size w W) := by show ∀ W, _; rw [am]; exact fun W h => h.2.2.2.2.2
 have hS : S W := by rw [am]; exact ⟨rC, r4, ck, be.out, a0.out, b5⟩
 obtain ⟨es, b0, bz, bc⟩ := a0.out.ex;have bk := Lv b0;clear a8 c2 az bg b4 am rC r4 ck be a0 b5;by_cases bb : tag = 20
 · have ar := Lv bb;have cm : JB tag es = none := YY (fun h => ((bc tag).1 h).2.2 bb);have Hv := Lv cm;clear bz bc cm b0 bb
   go_wp2_with (first
    | (refine ZN rfl _ _ rfl Tryz.underlying170 Tryz.underlying3 bk.out rfl tag rfl (z := .nilIface) rfl ?_; rw [Hv.out, Option.getD_none])
    | (refine QF rfl 25 _ rfl ⟨C, 0, none⟩ rfl p.cells.toList _ (Ym (S0.out _ hS)) Tryz.underlying25 rfl (by kernel_rfl) ?_; rw [N7])
    | (refine wpList_load_row rfl 65 _ rfl X rfl 65 (Nd.cells ⟨tag, nn⟩).toArray (0, 0) _ (S6.out _ hS) Tryz.underlying65 rfl (by kernel_rfl) ?_))
   refine (Af0 p ⟨tag, nn⟩ pos.length bn.out W).mono ?_;rintro e W2 ⟨WA, cs, rfl, aw, b6⟩;have hS := b9.go hS b6;obtain ⟨iv, a7⟩ : ∃ iv : Int, iv = 2 := ⟨2, rfl⟩;have y : isZ p.V ⟨tag, nn⟩ = iv := by rw [a7, ar.out]; exact (Abb 0).1
   obtain ⟨b, an⟩ : ∃ b : List Int, b = List.replicate pos.length 2 := ⟨_, rfl⟩;have ab : iv ≠ -1 → QU p.V ⟨tag, nn⟩ ks.length = b := fun _ => by rw [an, o.out, ar.out]; exact (Abb (V := p.V) (n := nn) ks.length).2
   rw [← an] at aw ⊢;rw [← a7];clear a7 an b6;have bp := Lv (Yv (V := p.V) (ks := ks) y ab).1;have bq := Lv (Yv (V := p.V) (ks := ks) y ab).2.1;have br := Lv (Yv (V := p.V) (ks := ks) y ab).2.2.1;have a1 := Lv (Yv (V := p.V) (ks := ks) y ab).2.2.2;clear y ab;by_cases ac : iv = -1
   · have e1 : (iv == -1) = true := by simpa using ac
     have hz := Lv (bp.out ac);clear ac;go_wp2
     go_ret
     exact ⟨Q1 hz.out, S4.out _ hS⟩
   have e1 : (iv == -1) = false := by simpa using ac
   have bm := Lv ac;clear ac;by_cases aa : b.length = ks.length;rotate_left
   · have e2 : ((b.length : Int) != (pos.length : Int)) = true := by simp; have := o.out; omega
     have hz := Lv (bq.out aa);clear aa;go_wp2
     go_ret
     exact ⟨Q1 hz.out, S4.out _ hS⟩
   have e2 : ((b.length : Int) != (pos.length : Int)) = false := by simp; have := o.out; omega
   have d := Lv aa;clear aa;obtain ⟨T, af⟩ : ∃ T : World → Prop, T = (fun W => S W ∧ Rd W WA (Qj b)) := ⟨_, rfl⟩;have c9 : St T := by rw [af]; infer_instance
   have T0 : Hid (∀ W, T W → S W) := by show ∀ W, _; rw [af]; exact fun W h => h.1
   have T1 : Hid (∀ W, T W → Rd W WA (Qj b)) := by show ∀ W, _; rw [af]; exact fun W h => h.2
   have hT : T W2 := by rw [af]; exact ⟨hS, aw⟩
   have TC : Hid (∀ W, T W → Row W C 173 (K5 p M)) := by show ∀ W, _; exact fun W h => S0.out _ (T0.out _ h)
   clear af hS aw;go_wp2
   go_loopw [54] (fun i wr => ∃ k : Nat, i = .int .i64 (k : Int) ∧ k ≤ pos.length ∧ T wr ∧ Hid (AdE p.V (ZB ⟨tag, nn⟩) ks b k)) (fun i _ => pos.length - (intOf i).toNat)
   case atStart => exact ⟨0, rfl, Nat.zero_le _, hT, Lv (fun j _ _ hj => by omega)⟩
   case round =>
    clear hT;obtain ⟨k, rfl, hk, ag, s⟩ := hrel;by_cases ak : k < pos.length
    · obtain ⟨q', hq⟩ : ∃ q, pos[k]? = some q := ⟨_, La ak⟩;obtain ⟨kt, aq⟩ : ∃ kt, ks[k]? = some kt := ⟨_, La (by rw [← o.out]; exact ak)⟩;obtain ⟨u, hu⟩ : ∃ u, b[k]? = some u := ⟨_, La (by rw [d.out, ← o.out]; exact ak)⟩;obtain ⟨ah, ai⟩ := cc.out k q' kt hq aq;have a3 := Lv ai;have ax := Lv ah;obtain ⟨kd, av, a5⟩ := ZP (l := KI pos) (S1.out _ (T0.out _ ag)) (k := k) (x := (q' : Int)) (by simp [KI, hq]);obtain ⟨wd, b8, _⟩ := ZP (l := b) (T1.out _ ag) (k := k) (x := u) hu;subst av b8
      have bw : Hid (∀ W, T W → W.cell? (wd.add k) = some (.int .i64 u)) := by
       show ∀ W, _;intro W m;obtain ⟨cy, e, h⟩ := ZP (l := b) (T1.out _ m) (k := k) (x := u) hu;injection e with e; subst e; exact h
      have c6 : (k : Int) < (pos.length : Int) := by omega
      have c7 : (k : Int) < (b.length : Int) := by have := d.out; have := o.out; omega
      have c8 : (q' : Int) < (p.body.length : Int) := by have := ah.lt; omega
      have ae := Lv aq;have Hu := Lv hu;have cp := bn.out;clear hq aq hu ak ai ah;go_wp2_with fail
      refine ZJ T (by kernel_rfl) (by kernel_rfl) (St.drew ag) ?_;clear ag a5;(refine Zd rfl 173 _ rfl (C) rfl 173 _ _ TC.out Tryz.underlying173 rfl (by kernel_rfl) ?_; simp only [Act.put, Qa, Qb, Qc])
      iterate 1 (refine Qg rfl ?_ (fun W m => ?_) ?_; rotate_left; (focus (go_simp; exact rfl)); simp only [Act.put, Qa, Qb, Qc])
      (refine QG rfl 105 _ (fun W => by (go_simp; try rfl)) _ (fun W m => a3.out W (S2.out _ (T0.out _ m)) (S5.out _ (T0.out _ m))) ?_; simp only [Act.put, Qa, Qb, Qc])
      iterate 3 (refine Qg rfl ?_ (fun W m => ?_) ?_; rotate_left; (focus (go_simp; exact rfl)); simp only [Act.put, Qa, Qb, Qc])
      (refine Qg rfl ?_ (fun W m => ?_) ?_; rotate_left; (focus (have c := bw.out W m; go_simp; exact rfl)); simp only [Act.put, Qa, Qb, Qc])
      iterate 1 (refine Qg rfl ?_ (fun W m => ?_) ?_; rotate_left; (focus (go_simp; exact rfl)); simp only [Act.put, Qa, Qb, Qc])
      refine QS fun W m => ?_
      by_cases he : ofT p.V kt = u;rotate_left
      · have bx : (ofT p.V kt != u) = true := by simpa using he
        have hz := Lv (a1.out (KP d.out ae.out Hu.out (fun h => he h.1)) d.out);clear he;go_wp2
        go_ret
        exact ⟨Q1 hz.out, S4.out _ (T0.out _ m)⟩
      have bx : (ofT p.V kt != u) = false := by simpa using he
      have He := Lv he;have rX := S6.out _ (T0.out _ m);have c0 := rX.cellv (i := 0) (v := .int .i64 tag) rfl;have a9 := TC.out _ m;have bs := a9.cellv (i := 2) (v := .slice p.ba p.body.length p.bcap) rfl;obtain ⟨bd, a4, a6⟩ := JW (S2.out _ (T0.out _ m)).brd ax.out.root;have bv := a6 0 (.int .i64 kt.root.tag) rfl;rw [show (bd.add (q' * 2)).add 0 = bd.add (q' * 2) by rw [KY]; simp] at bv;rw [a4] at bs;clear he rX a9 a6 a4;by_cases g : ZB ⟨tag, nn⟩ = true
      · have aj : tag = 23 ∨ tag = 24 := by simpa [ZB] using g
        have bl := Lv g;clear g;by_cases ap : k = 0
        · have al := Lv (Kf s.out ae.out Hu.out He.out (fun _ h => by omega));subst ap;have e0 : decide (((0 : Nat) : Int) < ((0 : Nat) : Int)) = false := by simp
          rcases aj with rfl | rfl
          all_goals
           go_wp2
           go_roundw
           case rel => exact ⟨0 + 1, by go_num, by omega, m, al⟩
           case measure => simp [intOf]; omega
        · have cj : 0 < (k : Int) := by omega
          by_cases hb : kt.root.tag = 20
          · have bu : (kt.root.tag != 20) = false := by simp [hb]
            have al := Lv (Kf s.out ae.out Hu.out He.out (fun _ _ => hb));clear hb ap;rcases aj with rfl | rfl
            all_goals
             go_wp2
             go_roundw
             case rel => exact ⟨k + 1, by go_num, by omega, m, al⟩
             case measure => simp [intOf]; omega
          · have bu : (kt.root.tag != 20) = true := by simpa using hb
            have hz := Lv (a1.out (KP d.out ae.out Hu.out (fun h => hb (h.2 bl.out (by omega)))) d.out);clear hb ap;rcases aj with rfl | rfl
            all_goals
             go_wp2
             go_ret
             exact ⟨Q1 hz.out, S4.out _ (T0.out _ m)⟩
      · have al := Lv (Kf s.out ae.out Hu.out He.out (fun h _ => absurd h g));have c1 : (tag == 23) = false := by simp [ZB] at g; simp [g.1]
        have c4 : (tag == 24) = false := by simp [ZB] at g; simp [g.2]
        clear g;go_wp2
        go_roundw
        case rel => exact ⟨k + 1, by go_num, by omega, m, al⟩
        case measure => simp [intOf]; omega
    · have c5 : (pos.length : Int) ≤ (k : Int) := by omega
      have hz := Lv (br.out bm.out d.out (Abl d.out (by have := o.out; omega) s.out));clear ak;go_wp2
      go_ret
      exact ⟨Q1 hz.out, S4.out _ (T0.out _ ag)⟩
 · obtain ⟨v, hv⟩ := V8 ((bc tag).2 ⟨bh.out.1, bh.out.2, bb⟩);have cr := bz _ (AaQ hv);have Hv := Lv hv;obtain ⟨ty, x, fk, iv, b, rfl, g1, gm, gc, av, ch, y, ab⟩ := AkV (p := p) ks.length cr cw.out;have cb := Lv av;have ca := Lv ch;have cu := Lv y;have cx := Lv ab;clear bz bc hv b0 cr av ch y ab
   go_wp2_with (first
    | (refine ZN rfl _ _ rfl Tryz.underlying170 Tryz.underlying3 bk.out rfl tag rfl (z := .nilIface) rfl ?_; rw [Hv.out, LZ])
    | (refine QF rfl 25 _ rfl ⟨C, 0, none⟩ rfl p.cells.toList _ (Ym (S0.out _ hS)) Tryz.underlying25 rfl (by kernel_rfl) ?_; rw [N7])
    | (refine wpList_load_row rfl 65 _ rfl X rfl 65 (Nd.cells ⟨tag, nn⟩).toArray (0, 0) _ (S6.out _ hS) Tryz.underlying65 rfl (by kernel_rfl) ?_))
   refine (cb.out W (Below.refl _ _) (S2.out _ hS)).mono ?_;rintro e W1 ⟨rfl, b6⟩;have hS := b9.go hS b6;have B6 := Lv b6;clear b6 gm g1 gc
   go_wp2_with (first
    | (refine ZN rfl _ _ rfl Tryz.underlying170 Tryz.underlying3 bk.out rfl tag rfl (z := .nilIface) rfl ?_; rw [Hv.out, LZ])
    | (refine QF rfl 25 _ rfl ⟨C, 0, none⟩ rfl p.cells.toList _ (Ym (S0.out _ hS)) Tryz.underlying25 rfl (by kernel_rfl) ?_; rw [N7])
    | (refine wpList_load_row rfl 65 _ rfl X rfl 65 (Nd.cells ⟨tag, nn⟩).toArray (0, 0) _ (S6.out _ hS) Tryz.underlying65 rfl (by kernel_rfl) ?_))
   refine (ca.out _ W1 B6.out (S2.out _ hS)).mono ?_;rintro e W2 ⟨WA, cs, rfl, aw, b7⟩;have hS := b9.go hS b7;have y := cu.out;have ab := cx.out;clear b7 B6 cb ca;have bp := Lv (Yv (V := p.V) (ks := ks) y ab).1;have bq := Lv (Yv (V := p.V) (ks := ks) y ab).2.1;have br := Lv (Yv (V := p.V) (ks := ks) y ab).2.2.1;have a1 := Lv (Yv (V := p.V) (ks := ks) y ab).2.2.2;clear y ab;by_cases ac : iv = -1
   · have e1 : (iv == -1) = true := by simpa using ac
     have hz := Lv (bp.out ac);clear ac;go_wp2
     go_ret
     exact ⟨Q1 hz.out, S4.out _ hS⟩
   have e1 : (iv == -1) = false := by simpa using ac
   have bm := Lv ac;clear ac;by_cases aa : b.length = ks.length;rotate_left
   · have e2 : ((b.length : Int) != (pos.length : Int)) = true := by simp; have := o.out; omega
     have hz := Lv (bq.out aa);clear aa;go_wp2
     go_ret
     exact ⟨Q1 hz.out, S4.out _ hS⟩
   have e2 : ((b.length : Int) != (pos.length : Int)) = false := by simp; have := o.out; omega
   have d := Lv aa;clear aa;obtain ⟨T, af⟩ : ∃ T : World → Prop, T = (fun W => S W ∧ Rd W WA (Qj b)) := ⟨_, rfl⟩;have c9 : St T := by rw [af]; infer_instance
   have T0 : Hid (∀ W, T W → S W) := by show ∀ W, _; rw [af]; exact fun W h => h.1
   have T1 : Hid (∀ W, T W → Rd W WA (Qj b)) := by show ∀ W, _; rw [af]; exact fun W h => h.2
   have hT : T W2 := by rw [af]; exact ⟨hS, aw⟩
   have TC : Hid (∀ W, T W → Row W C 173 (K5 p M)) := by show ∀ W, _; exact fun W h => S0.out _ (T0.out _ h)
   clear af hS aw;go_wp2
   go_loopw [54] (fun i wr => ∃ k : Nat, i = .int .i64 (k : Int) ∧ k ≤ pos.length ∧ T wr ∧ Hid (AdE p.V (ZB ⟨tag, nn⟩) ks b k)) (fun i _ => pos.length - (intOf i).toNat)
   case atStart => exact ⟨0, rfl, Nat.zero_le _, hT, Lv (fun j _ _ hj => by omega)⟩
   case round =>
    clear hT;obtain ⟨k, rfl, hk, ag, s⟩ := hrel;by_cases ak : k < pos.length
    · obtain ⟨q', hq⟩ : ∃ q, pos[k]? = some q := ⟨_, La ak⟩;obtain ⟨kt, aq⟩ : ∃ kt, ks[k]? = some kt := ⟨_, La (by rw [← o.out]; exact ak)⟩;obtain ⟨u, hu⟩ : ∃ u, b[k]? = some u := ⟨_, La (by rw [d.out, ← o.out]; exact ak)⟩;obtain ⟨ah, ai⟩ := cc.out k q' kt hq aq;have a3 := Lv ai;have ax := Lv ah;obtain ⟨kd, av, a5⟩ := ZP (l := KI pos) (S1.out _ (T0.out _ ag)) (k := k) (x := (q' : Int)) (by simp [KI, hq]);obtain ⟨wd, b8, _⟩ := ZP (l := b) (T1.out _ ag) (k := k) (x := u) hu;subst av b8
      have bw : Hid (∀ W, T W → W.cell? (wd.add k) = some (.int .i64 u)) := by
       show ∀ W, _;intro W m;obtain ⟨cy, e, h⟩ := ZP (l := b) (T1.out _ m) (k := k) (x := u) hu;injection e with e; subst e; exact h
      have c6 : (k : Int) < (pos.length : Int) := by omega
      have c7 : (k : Int) < (b.length : Int) := by have := d.out; have := o.out; omega
      have c8 : (q' : Int) < (p.body.length : Int) := by have := ah.lt; omega
      have ae := Lv aq;have Hu := Lv hu;have cp := bn.out;clear hq aq hu ak ai ah;go_wp2_with fail
      refine ZJ T (by kernel_rfl) (by kernel_rfl) (St.drew ag) ?_;clear ag a5;(refine Zd rfl 173 _ rfl (C) rfl 173 _ _ TC.out Tryz.underlying173 rfl (by kernel_rfl) ?_; simp only [Act.put, Qa, Qb, Qc])
      iterate 1 (refine Qg rfl ?_ (fun W m => ?_) ?_; rotate_left; (focus (go_simp; exact rfl)); simp only [Act.put, Qa, Qb, Qc])
      (refine QG rfl 105 _ (fun W => by (go_simp; try rfl)) _ (fun W m => a3.out W (S2.out _ (T0.out _ m)) (S5.out _ (T0.out _ m))) ?_; simp only [Act.put, Qa, Qb, Qc])
      iterate 3 (refine Qg rfl ?_ (fun W m => ?_) ?_; rotate_left; (focus (go_simp; exact rfl)); simp only [Act.put, Qa, Qb, Qc])
      (refine Qg rfl ?_ (fun W m => ?_) ?_; rotate_left; (focus (have c := bw.out W m; go_simp; exact rfl)); simp only [Act.put, Qa, Qb, Qc])
      iterate 1 (refine Qg rfl ?_ (fun W m => ?_) ?_; rotate_left; (focus (go_simp; exact rfl)); simp only [Act.put, Qa, Qb, Qc])
      refine QS fun W m => ?_
      by_cases he : ofT p.V kt = u;rotate_left
      · have bx : (ofT p.V kt != u) = true := by simpa using he
        have hz := Lv (a1.out (KP d.out ae.out Hu.out (fun h => he h.1)) d.out);clear he;go_wp2
        go_ret
        exact ⟨Q1 hz.out, S4.out _ (T0.out _ m)⟩
      have bx : (ofT p.V kt != u) = false := by simpa using he
      have He := Lv he;have rX := S6.out _ (T0.out _ m);have c0 := rX.cellv (i := 0) (v := .int .i64 tag) rfl;have a9 := TC.out _ m;have bs := a9.cellv (i := 2) (v := .slice p.ba p.body.length p.bcap) rfl;obtain ⟨bd, a4, a6⟩ := JW (S2.out _ (T0.out _ m)).brd ax.out.root;have bv := a6 0 (.int .i64 kt.root.tag) rfl;rw [show (bd.add (q' * 2)).add 0 = bd.add (q' * 2) by rw [KY]; simp] at bv;rw [a4] at bs;clear he rX a9 a6 a4;by_cases g : ZB ⟨tag, nn⟩ = true
      · have aj : tag = 23 ∨ tag = 24 := by simpa [ZB] using g
        have bl := Lv g;clear g;by_cases ap : k = 0
        · have al := Lv (Kf s.out ae.out Hu.out He.out (fun _ h => by omega));subst ap;have e0 : decide (((0 : Nat) : Int) < ((0 : Nat) : Int)) = false := by simp
          rcases aj with rfl | rfl
          all_goals
           go_wp2
           go_roundw
           case rel => exact ⟨0 + 1, by go_num, by omega, m, al⟩
           case measure => simp [intOf]; omega
        · have cj : 0 < (k : Int) := by omega
          by_cases hb : kt.root.tag = 20
          · have bu : (kt.root.tag != 20) = false := by simp [hb]
            have al := Lv (Kf s.out ae.out Hu.out He.out (fun _ _ => hb));clear hb ap;rcases aj with rfl | rfl
            all_goals
             go_wp2
             go_roundw
             case rel => exact ⟨k + 1, by go_num, by omega, m, al⟩
             case measure => simp [intOf]; omega
          · have bu : (kt.root.tag != 20) = true := by simpa using hb
            have hz := Lv (a1.out (KP d.out ae.out Hu.out (fun h => hb (h.2 bl.out (by omega)))) d.out);clear hb ap;rcases aj with rfl | rfl
            all_goals
             go_wp2
             go_ret
             exact ⟨Q1 hz.out, S4.out _ (T0.out _ m)⟩
      · have al := Lv (Kf s.out ae.out Hu.out He.out (fun h _ => absurd h g));have c1 : (tag == 23) = false := by simp [ZB] at g; simp [g.1]
        have c4 : (tag == 24) = false := by simp [ZB] at g; simp [g.2]
        clear g;go_wp2
        go_roundw
        case rel => exact ⟨k + 1, by go_num, by omega, m, al⟩
        case measure => simp [intOf]; omega
    · have c5 : (pos.length : Int) ≤ (k : Int) := by omega
      have hz := Lv (br.out bm.out d.out (Abl d.out (by have := o.out; omega) s.out));clear ak;go_wp2
      go_ret
      exact ⟨Q1 hz.out, S4.out _ (T0.out _ ag)⟩
theorem RS.rb {w W : World} {M : Nat} {D : List Int} (h : RS w W M D) (hD : ∀ k, k ∈ D ↔ (1 ≤ k ∧ k ≤ 26 ∧ k ≠ 20)) : RB M W := by
 obtain ⟨b, c, d, e⟩ := h.map;subst d;exact ⟨b, c, e, hD⟩
theorem Adc (p : PgV) (hbl : p.body.length ≤ 1000) (t : Tr) (q : Nat) (hat : At p.body q t) (w : World) (hok : p.ok w) : Calls Tryz.prog 62 #[.agg p.cells, .int .i64 (q : Int)] w fun e w' => e = .returned (.int .i64 (ofT p.V t)) ∧ Below w.heap.size w w' := by
 have l := Lv hbl;have aa := Lv hat;have n := Lv hok;have m : Hid (endZ p.body (q : Int) = ((q + t.size : Nat) : Int)) := hat.endZ;have ac : 0 ≤ ((q + t.size : Nat) : Int) := by omega
 clear hbl hat hok;go_enter Tryz.func62, Tryz.ntmps62
 go_wp2_with (refine Qm _ _ rfl ?_)
 refine Stop.to ?_;refine Qe rfl 25 _ rfl p.cells rfl ?_;intro G w1 hG y k;have k := (Below.refl w.heap.size w).trans (k.mono hG);have c2 := y.cellv (i := 2) (v := .slice p.ba p.body.length p.bcap) rfl;have c := Lv (n.out.go k);clear hG n;go_wp2_with fail
 refine (JV p.ba p.bcap p.body (q : Int) w1 c.out.brd l.out).mono ?_;rintro e z ⟨rfl, x⟩;rw [m.out];obtain ⟨S, b⟩ : ∃ S, S = (fun W => Row W G 25 p.cells ∧ p.ok W ∧ Below w.heap.size w W) := ⟨_, rfl⟩;have u : St S := by rw [b]; infer_instance
 have S0 : Hid (∀ W, S W → Row W G 25 p.cells) := by show ∀ W, _; rw [b]; exact fun W h => h.1
 have S1 : Hid (∀ W, S W → p.ok W) := by show ∀ W, _; rw [b]; exact fun W h => h.2.1
 have S2 : Hid (∀ W, S W → Below w.heap.size w W) := by show ∀ W, _; rw [b]; exact fun W h => h.2.2
 have o : S z := by rw [b]; exact ⟨y.below x y.lt, c.out.go x, k.trans (x.mono k.size)⟩
 clear b y k x c2 c;go_wp2_with fail
 refine wp_region_held (S := S) (by kernel_rfl) ?_;simp only [Lm, Le, Lu, Nat.reduceAdd, Lk, Ll, Ly, Lp, Ln];show wpAnyH _ _ _ _ _ _ _ _ z.drew;have g : S z.drew := St.drew o;clear o;generalize z.drew = wd at g ⊢;(refine tkH 0 _ rfl (Z1 rfl 25 _ rfl G rfl 25 p.cells _ S0.out Tryz.underlying25 rfl (by kernel_rfl)) ?_; simp only [Act.put, Qa, Qb, Qc]);(refine tkH 3 (.int .i64 (q : Int)) rfl (Qd rfl (fun W hW => by (go_simp))) ?_; simp only [Act.put, Qa, Qb, Qc]);(refine wpAnyH_all (rs := [1]) (by kernel_rfl) (by simp) (fun i hi => ?_); obtain rfl : i = 1 := by simpa using hi);refine Qf rfl rfl (fun K2 d => ?_);refine Qo (w1 := wd) 104 #[] (by go_simp; try rfl) ?_
 refine (AgN wd).mono ?_;rintro e wr ⟨M, D, rfl, j, hD⟩;refine ⟨_, rfl, d _ _ ?_⟩;clear d K2;have g := u.go g j.below;have s := j.rb hD;have ab := Lv s;clear s j hD;simp only [Act.put, Qa, Qb, Qc];refine ⟨g, ?_⟩;(refine tkH 2 (.agg (K5 p M)) rfl (Qd rfl (fun W hW => by (go_simp; try rfl))) ?_; simp only [Act.put, Qa, Qb, Qc])
 (refine wpAnyH_all (rs := [4]) (by kernel_rfl) (by simp) (fun i hi => ?_); obtain rfl : i = 4 := by simpa using hi);refine Qf rfl rfl (fun K2 d => ?_);refine Qo (w1 := wr) 105 #[.agg (K5 p M), .int .i64 (q : Int)] (by go_simp; try rfl) ?_
 refine (Ajy p M l.out t.size t q (Nat.le_refl _) aa.out wr (S1.out _ g) ab.out).mono ?_;rintro e w6 ⟨rfl, b6⟩;refine ⟨_, rfl, d _ _ ?_⟩;clear d K2;have g := u.go g b6;simp only [Act.put, Qa, Qb, Qc];refine ⟨g, ?_⟩;(refine tkH 5 (.int .i64 (ofT p.V t)) rfl (Qd rfl (fun W hW => by (go_simp))) ?_; simp only [Act.put, Qa, Qb, Qc]);refine wpAnyH_done (by kernel_rfl) ?_ _;go_wp2
 go_ret
 exact ⟨rfl, S2.out _ g⟩
end Go.Proofs.YtkoikjnlpifbjaaGreat
