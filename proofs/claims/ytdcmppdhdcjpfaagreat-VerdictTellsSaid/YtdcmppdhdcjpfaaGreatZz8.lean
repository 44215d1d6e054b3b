/- Lemmas for VerdictTellsP. -/
import Derived.Test.YtdcmppdhdcjpfaaGreatZz1
import Derived.Test.YtdcmppdhdcjpfaaGreatZz7
set_option linter.unusedVariables false
set_option linter.unusedSimpArgs false
set_option maxRecDepth 100000
set_option maxHeartbeats 16000000
namespace Go.Proofs.YtdcmppdhdcjpfaaGreat
open Go.RowKit Go.Deep
theorem YQ {V : List Int} {inn : Bool} : ∀ (ks : List Tr) (want : List Int) (f : Bool), want.length = ks.length → (Q4 V inn f ks want = true ↔ ∀ (j : Nat) (t : Tr) (w : Int), ks[j]? = some t → want[j]? = some w → ofT V t = w ∧ (inn = true → (f = false ∨ 0 < j) → t.root.tag = 20))
 | [], [], f, _ => by rw [Zj]; simp
 | t :: ts, k :: ws, f, h => by
  rw [Q7]
  have ih := YQ (V := V) (inn := inn) ts ws false (by simpa using h)
  constructor
  · intro hh
    simp only [Nk] at hh
    obtain ⟨⟨h1, h2⟩, h3⟩ := hh
    have h3 := ih.1 h3
    intro j t' w' ht hw
    cases j with
    | zero =>
     simp at ht hw; subst ht hw
     refine ⟨by simpa using h1, fun hi hf => ?_⟩
     rcases hf with hf | hf
     · subst hi hf; simpa using h2
     · omega
    | succ j =>
     simp at ht hw
     have := h3 j t' w' ht hw
     exact ⟨this.1, fun hi _ => this.2 hi (.inl rfl)⟩
  · intro hh
    simp only [Nk]
    refine ⟨⟨?_, ?_⟩, ih.2 fun j t' w' ht hw => ?_⟩
    · have := (hh 0 t k rfl rfl).1; simpa using this
    · cases hi : inn with
      | false => simp
      | true =>
       cases hf : f with
       | true => simp
       | false => have := (hh 0 t k rfl rfl).2 hi (.inl hf); simp [this]
    · have := hh (j + 1) t' w' (by simpa using ht) (by simpa using hw)
      exact ⟨this.1, fun hi _ => this.2 hi (.inr (by omega))⟩
structure RB (M : Nat) (W : World) : Prop where
 ex : ∃ es, MapB W M es ∧ (∀ p ∈ es, RuleR W p.1 p.2) ∧ ∀ k, k ∈ es.map (·.1) ↔ (1 ≤ k ∧ k ≤ 26 ∧ k ≠ 20)
theorem RB.go {M : Nat} {W W' : World} (h : RB M W) (b : Below W.heap.size W W') : RB M W' := by
 obtain ⟨d, c, e, g⟩ := h.ex;exact ⟨d, c.below b c.lt, fun p i => (e p i).go b, g⟩
instance St.rb {M : Nat} : St (fun W => RB M W) := ⟨fun h b => h.go b⟩
def K5 (p : PgV) (M : Nat) : Array Value := #[.int .i64 p.params, .slice p.va p.V.length p.vcap, .slice p.ba p.body.length p.bcap, .map (some M)]
theorem Ya {W : World} {C M : Nat} {p : PgV} (h : Row W C 194 (K5 p M)) : ∀ j v, p.cells.toList[j]? = some v → W.cell? ((⟨C, 0, none⟩ : Addr).add j) = some v :=
 h.from_ 0 (cs := p.cells.toList) (fun j v hj => by
  rw [LI]
  have hlt := (Lb.1 hj).1
  simp only [PgV.cells, Lc, Lr] at hlt
  have : j = 0 ∨ j = 1 ∨ j = 2 := by omega
  rcases this with rfl | rfl | rfl <;> simpa [PgV.cells, K5] using hj)
theorem Adn {tag is : Int} {want : List Int} (h : JG tag = some (is, want)) :
 (tag = 1 ∧ is = 0 ∧ want = []) ∨ (tag = 2 ∧ is = 1 ∧ want = []) ∨ (tag = 5 ∧ is = 0 ∧ want = [0]) ∨ (tag = 6 ∧ is = 1 ∧ want = [1]) ∨ (tag = 18 ∧ is = 1 ∧ want = [1, 1]) ∨ (tag = 19 ∧ is = 1 ∧ want = [1, 1]) ∨ (tag = 23 ∧ is = 2 ∧ want = [1, 2, 2]) ∨ (tag = 24 ∧ is = 2 ∧ want = [1, 2]) ∨ (tag = 25 ∧ is = 2 ∧ want = [0]) ∨ (tag = 26 ∧ is = 2 ∧ want = []) ∨ ((7 ≤ tag ∧ tag ≤ 11) ∧ is = 0 ∧ want = [0, 0]) ∨ ((12 ≤ tag ∧ tag ≤ 17) ∧ is = 1 ∧ want = [0, 0]) := by
 have b : ∀ {o : Option (Int × List Int)} {a : Int} {l : List Int}, o = some (is, want) → o = some (a, l) → is = a ∧ want = l := fun i e => by
  rw [i] at e; injection e with e; injection e with h3 h4; exact ⟨h3, h4⟩
 by_cases i : tag = 1
 · have := b h (by unfold JG; rw [if_pos i]);exact .inl (⟨i, this.1, this.2⟩)
 by_cases e : tag = 2
 · have := b h (by unfold JG; rw [if_neg i, if_pos e]);exact .inr (.inl (⟨e, this.1, this.2⟩))
 by_cases m : tag = 5
 · have := b h (by unfold JG; rw [if_neg i, if_neg e, if_pos m]);exact .inr (.inr (.inl (⟨m, this.1, this.2⟩)))
 by_cases p : tag = 6
 · have := b h (by unfold JG; rw [if_neg i, if_neg e, if_neg m, if_pos p]);exact .inr (.inr (.inr (.inl (⟨p, this.1, this.2⟩))))
 by_cases c : tag = 18
 · have := b h (by unfold JG; rw [if_neg i, if_neg e, if_neg m, if_neg p, if_pos c]);exact .inr (.inr (.inr (.inr (.inl (⟨c, this.1, this.2⟩)))))
 by_cases d : tag = 19
 · have := b h (by unfold JG; rw [if_neg i, if_neg e, if_neg m, if_neg p, if_neg c, if_pos d]);exact .inr (.inr (.inr (.inr (.inr (.inl (⟨d, this.1, this.2⟩))))))
 by_cases g : tag = 23
 · have := b h (by unfold JG; rw [if_neg i, if_neg e, if_neg m, if_neg p, if_neg c, if_neg d, if_pos g]);exact .inr (.inr (.inr (.inr (.inr (.inr (.inl (⟨g, this.1, this.2⟩)))))))
 by_cases j : tag = 24
 · have := b h (by unfold JG; rw [if_neg i, if_neg e, if_neg m, if_neg p, if_neg c, if_neg d, if_neg g, if_pos j]);exact .inr (.inr (.inr (.inr (.inr (.inr (.inr (.inl (⟨j, this.1, this.2⟩))))))))
 by_cases k : tag = 25
 · have := b h (by unfold JG; rw [if_neg i, if_neg e, if_neg m, if_neg p, if_neg c, if_neg d, if_neg g, if_neg j, if_pos k]);exact .inr (.inr (.inr (.inr (.inr (.inr (.inr (.inr (.inl (⟨k, this.1, this.2⟩)))))))))
 by_cases n : tag = 26
 · have := b h (by unfold JG; rw [if_neg i, if_neg e, if_neg m, if_neg p, if_neg c, if_neg d, if_neg g, if_neg j, if_neg k, if_pos n]);exact .inr (.inr (.inr (.inr (.inr (.inr (.inr (.inr (.inr (.inl (⟨n, this.1, this.2⟩))))))))))
 by_cases q : 7 ≤ tag ∧ tag ≤ 11
 · have := b h (by unfold JG; rw [if_neg i, if_neg e, if_neg m, if_neg p, if_neg c, if_neg d, if_neg g, if_neg j, if_neg k, if_neg n, if_pos q]);exact .inr (.inr (.inr (.inr (.inr (.inr (.inr (.inr (.inr (.inr (.inl (⟨q, this.1, this.2⟩)))))))))))
 by_cases r : 12 ≤ tag ∧ tag ≤ 17
 · have := b h (by unfold JG; rw [if_neg i, if_neg e, if_neg m, if_neg p, if_neg c, if_neg d, if_neg g, if_neg j, if_neg k, if_neg n, if_neg q, if_pos r]);exact .inr (.inr (.inr (.inr (.inr (.inr (.inr (.inr (.inr (.inr (.inr (⟨r, this.1, this.2⟩)))))))))))
 · exfalso;have s : JG tag = none := by unfold JG; rw [if_neg i, if_neg e, if_neg m, if_neg p, if_neg c, if_neg d, if_neg g, if_neg j, if_neg k, if_neg n, if_neg q, if_neg r]
   rw [s] at h; cases h
theorem AfT {V : List Int} {tag n is : Int} {want : List Int} (h : JG tag = some (is, want)) (m : Nat) : isZ V ⟨tag, n⟩ = is ∧ QQ V ⟨tag, n⟩ m = want := by
 rcases Adn h with ⟨rfl, rfl, rfl⟩ | ⟨rfl, rfl, rfl⟩ | ⟨rfl, rfl, rfl⟩ | ⟨rfl, rfl, rfl⟩ | ⟨rfl, rfl, rfl⟩ | ⟨rfl, rfl, rfl⟩ | ⟨rfl, rfl, rfl⟩ | ⟨rfl, rfl, rfl⟩ | ⟨rfl, rfl, rfl⟩ | ⟨rfl, rfl, rfl⟩ | ⟨b, rfl, rfl⟩ | ⟨b, rfl, rfl⟩
 iterate 10 (exact ⟨rfl, rfl⟩)
 all_goals
  unfold isZ QQ
  dsimp only
  refine ⟨?_, ?_⟩ <;> (repeat (first | rw [if_pos (by omega)] | rw [if_neg (by omega)]))
theorem Aib {V : List Int} {tag n is : Int} {want : List Int} (h : AhR tag = some (is, want)) (m : Nat) : isZ V ⟨tag, n⟩ = X9 V n is ∧ QQ V ⟨tag, n⟩ m = want := by
 unfold AhR at h
 repeat' split at h
 all_goals cases h
 all_goals (subst_vars; exact ⟨rfl, rfl⟩)
theorem Aek {V : List Int} {tag n : Int} {b : Bool} (h : tag = 3 ∧ b = false ∨ tag = 21 ∧ b = true) (m : Nat) : isZ V ⟨tag, n⟩ = Xv V n b ∧ (isZ V ⟨tag, n⟩ ≠ -1 → QQ V ⟨tag, n⟩ m = Ks V n b) := by
 rcases h with ⟨rfl, rfl⟩ | ⟨rfl, rfl⟩
 · exact ⟨rfl, fun _ => by unfold Ks; rw [if_neg (by simp)]; rfl⟩
 · refine ⟨rfl, fun c => ?_⟩
   have d : Jc V n = true := by
    cases d : Jc V n with
    | true => rfl
    | false => exact absurd (show isZ V ⟨21, n⟩ = -1 by show (if Jc V n = true then (2 : Int) else -1) = -1; rw [d]; rfl) c
   obtain ⟨t, e, _⟩ := Xe d;unfold Ks;rw [if_pos ⟨rfl, (Lb.1 e).1⟩]; rfl
theorem AaZ {V : List Int} {n : Int} (m : Nat) : isZ V ⟨20, n⟩ = 2 ∧ QQ V ⟨20, n⟩ m = List.replicate m 2 := ⟨rfl, rfl⟩
theorem Ym {V : List Int} {x : Nd} {ks : List Tr} {iv : Int} {want : List Int} (hi : isZ V x = iv) (hw : iv ≠ -1 → QQ V x ks.length = want) :
 (iv = -1 → ofT V (.node x ks) = -1) ∧ (want.length ≠ ks.length → ofT V (.node x ks) = -1) ∧ (iv ≠ -1 → want.length = ks.length → Q4 V (Zq x) true ks want = true → ofT V (.node x ks) = iv) ∧ (Q4 V (Zq x) true ks want = false → want.length = ks.length → ofT V (.node x ks) = -1) := by
 by_cases h : iv = -1
 · have : ofT V (.node x ks) = -1 := by rw [ofT, if_pos (.inl (hi.trans h))]
   exact ⟨fun _ => this, fun _ => this, fun e => absurd h e, fun _ _ => this⟩
 · have d := hw h;clear hw;subst hi d;refine ⟨fun e => absurd e h, fun b => ?_, fun _ b c => ?_, fun c b => ?_⟩
   · rw [ofT, if_pos (.inr b)]
   · rw [ofT, if_neg (by simp [h, b]), if_pos c]
   · rw [ofT, if_neg (by simp [h, b]), c]; rfl
theorem KN {V : List Int} {inn : Bool} {ks : List Tr} {want : List Int} (hl : want.length = ks.length) {j : Nat} {t : Tr} {w : Int} (ht : ks[j]? = some t) (hw : want[j]? = some w) (h : ¬ (ofT V t = w ∧ (inn = true → 0 < j → t.root.tag = 20))) : Q4 V inn true ks want = false := by
 cases hk : Q4 V inn true ks want with
 | false => rfl
 | true =>
  have := (YQ ks want true hl).1 hk j t w ht hw;exact absurd ⟨this.1, fun hi b => this.2 hi (.inr b)⟩ h
def Add (V : List Int) (inn : Bool) (ks : List Tr) (want : List Int) (k : Nat) : Prop := ∀ (j : Nat) (t : Tr) (w : Int), j < k → ks[j]? = some t → want[j]? = some w → ofT V t = w ∧ (inn = true → 0 < j → t.root.tag = 20)
theorem Kf {V : List Int} {inn : Bool} {ks : List Tr} {want : List Int} {k : Nat} {t : Tr} {w : Int} (h : Add V inn ks want k) (ht : ks[k]? = some t) (hw : want[k]? = some w) (h1 : ofT V t = w) (h2 : inn = true → 0 < k → t.root.tag = 20) : Add V inn ks want (k + 1) := fun j t' w' hj ht' hw' => by
 by_cases e : j = k
 · subst e;rw [ht] at ht'; rw [hw] at hw';injection ht' with e1; injection hw' with e2; subst e1 e2;exact ⟨h1, h2⟩
 · exact h j t' w' (by omega) ht' hw'
theorem Aa7 {V : List Int} {inn : Bool} {ks : List Tr} {want : List Int} {k : Nat} (hl : want.length = ks.length) (hk : ks.length ≤ k) (h : Add V inn ks want k) : Q4 V inn true ks want = true :=
 (YQ ks want true hl).2 fun j t w ht hw => by
  have := h j t w (by have := (Lb.1 ht).1; omega) ht hw
  exact ⟨this.1, fun hi hf => this.2 hi (hf.elim (fun e => by cases e) id)⟩
section
variable {A : Option Addr} {m cap : Nat} {is : Int} {b : Bool}
theorem Aev (f : Nat) (w : World) : (method (f + 1) 257 (.agg #[.slice A m cap, .int .i64 is]) "offshoot/kinds.kind").run Tryz.prog w = .ok (346, .agg #[.slice A m cap, .int .i64 is]) w := by kernel_rfl
theorem Aeu (f : Nat) (w : World) : (method (f + 1) 261 (.agg #[.slice A m cap, .int .i64 is]) "offshoot/kinds.kind").run Tryz.prog w = .ok (348, .agg #[.slice A m cap, .int .i64 is]) w := by kernel_rfl
theorem Ac3 (f : Nat) (w : World) : (method (f + 1) 259 (.agg #[.bool b]) "offshoot/kinds.kind").run Tryz.prog w = .ok (347, .agg #[.bool b]) w := by kernel_rfl
end
theorem AjO {W : World} {p : PgV} {tag nn : Int} {v : Value} (k : Nat) (h : RuleR W tag v) (hn0 : tag ≠ 1 → 0 ≤ nn) :
 ∃ ty x fk iv want, v = .iface ty x ∧ (∀ w, (binOp .neq 263 (.iface ty x) .nilIface).run Tryz.prog w = .ok (.bool true) w) ∧ (∀ f w, (method (f + 1) ty x "offshoot/kinds.kind").run Tryz.prog w = .ok (fk, x) w) ∧ (∀ a w, (callFunc fk a).run Tryz.prog w = .ok (.enter fk a) w) ∧
  (∀ W', Below W.heap.size W W' → p.ok W' → Calls Tryz.prog fk #[x, .agg p.cells, .agg (Nd.cells ⟨tag, nn⟩).toArray] W' fun e w' => e = .returned (.int .i64 iv) ∧ Below W'.heap.size W' w') ∧
  (∀ m W', Below W.heap.size W W' → p.ok W' → Calls Tryz.prog 208 #[.agg p.cells, .agg (Nd.cells ⟨tag, nn⟩).toArray, .iface ty x, .int .i64 m] W' fun e w' => WantR want W' w' e) ∧
  isZ p.V ⟨tag, nn⟩ = iv ∧ (iv ≠ -1 → QQ p.V ⟨tag, nn⟩ k = want) := by
 cases h with
 | plain is A m cap want hc c hr =>
  subst c;obtain ⟨d, g⟩ := AfT (V := p.V) (n := nn) hc k;exact ⟨_, _, _, _, want, rfl, fun _ => by kernel_rfl, fun f w => Aev f w, fun _ _ => by kernel_rfl, fun W' _ _ => Aaw A want.length cap is p ⟨tag, nn⟩ W', fun m W' b _ => (Acm A want.length cap is p ⟨tag, nn⟩ m W').mono fun e w' ⟨e1, b1⟩ => ⟨A, cap, e1, (hr.go b).go b1, b1⟩, d, fun _ => g⟩
 | scalar b h =>
  obtain ⟨d, g⟩ := Aek (V := p.V) (n := nn) h k;have c := hn0 (by omega);exact ⟨_, _, _, _, _, rfl, fun _ => by kernel_rfl, fun f w => Ac3 f w, fun _ _ => by kernel_rfl, fun W' _ i => Aae b p tag nn W' i c, fun m W' _ i => Abn b p tag nn c m W' i, d, fun h => g (by rw [d]; exact h)⟩
 | array is A m cap want hc c hr =>
  subst c;obtain ⟨d, g⟩ := Aib (V := p.V) (n := nn) hc k;have c := hn0 (fun e => by subst e; simp [AhR] at hc);exact ⟨_, _, _, _, want, rfl, fun _ => by kernel_rfl, fun f w => Aeu f w, fun _ _ => by kernel_rfl, fun W' _ i => Aaq A want.length cap is p tag nn W' i c, fun m W' b _ => (Acl A want.length cap is p ⟨tag, nn⟩ m W').mono fun e w' ⟨e1, b1⟩ => ⟨A, cap, e1, (hr.go b).go b1, b1⟩, d, fun _ => g⟩
theorem Ail (p : PgV) (M : Nat) (hbl : p.body.length ≤ 1000) : ∀ (n : Nat) (t : Tr) (q : Nat), t.size ≤ n → At p.body q t → ∀ w, p.ok w → RB M w → Calls Tryz.prog 128 #[.agg (K5 p M), .int .i64 (q : Int)] w fun e w' => e = .returned (.int .i64 (ofT p.V t)) ∧ Below w.heap.size w w' := by
 intro n
 induction n with
 | zero => intro t q hn; have := t.size_eq; omega
 | succ n ih =>
 intro t q hn an w cn cp;obtain ⟨⟨tag, nn⟩, ks⟩ := t;have cs := Lh hbl;have b0 : kidsZ p.body (q : Int) = QU (Q5 (q + 1) ks) := an.kidsZ;obtain ⟨pos, ar⟩ : ∃ pos, pos = Q5 (q + 1) ks := ⟨_, rfl⟩;rw [← ar] at b0;have cu := Lh b0;have o : Hid (pos.length = ks.length) := by show _ = _; rw [ar, ZP]
 have cm : ∀ (i q' : Nat) (k : Tr), pos[i]? = some q' → ks[i]? = some k → At p.body q' k ∧ ∀ W, p.ok W → RB M W → Calls Tryz.prog 128 #[.agg (K5 p M), .int .i64 (q' : Int)] W fun e W' => e = .returned (.int .i64 (ofT p.V k)) ∧ Below W.heap.size W W' := by
  intro i q' k h1 hk;rw [ar] at h1;obtain ⟨ch, _⟩ := an.kids.spot i q' k h1 hk;refine ⟨ch, ih k q' ?_ ch⟩;have h3 := XI (Lf hk);have h4 := (Tr.node ⟨tag, nn⟩ ks).size_eq;simp only [Tr.kids] at h4;omega
 have bm : Hid (pos.length ≤ 1000) := by
  show _ ≤ _
  have h5 : ∀ (ts : List Tr), ts.length ≤ (QI ts).length := fun ts => by
   induction ts with
   | nil => simp
   | cons t ts ih => rw [QI, Le, Lc]; have := t.size_eq; have dd : t.size = t.flat.length := rfl; omega
  have h3 := h5 ks;have h4 := (Tr.node ⟨tag, nn⟩ ks).size_eq;simp only [Tr.kids] at h4;have := an.le;rw [o.out]; omega
 have cb := Lh cm;have bh := an.fits;have bs : 0 ≤ Qq ⟨tag, nn⟩ := by have := bh.arity; simp only [Tr.root, Tr.kids] at this; omega
 have bi : 1 ≤ tag ∧ tag ≤ 26 := by
  by_cases h : 1 ≤ tag ∧ tag ≤ 26
  · exact h
  · rw [Yw h] at bs; omega
 have ck : tag ≠ 1 → 0 ≤ nn := fun h => by have := UH bs; simp only at this; omega
 have cv := Lh ck;have bn : Hid (p.body[q]? = some ⟨tag, nn⟩) := an.root;have dc : (q : Int) < (p.body.length : Int) := by have := an.lt; omega
 have cc := Lh cn;have cd := Lh cp;have bg := Lh bi;clear b0 cm bh bs ck cn ar an ih hbl hn cp bi;go_enter Tryz.func128, Tryz.ntmps128
 go_wp2_with (refine Qn _ _ rfl ?_)
 refine Stop.to ?_;refine Qe rfl 194 _ rfl (K5 p M) rfl ?_;intro C w1 hC rC b1;have b1 := (Below.refl w.heap.size w).trans (b1.mono hC);have c2 := rC.cellv (i := 2) (v := .slice p.ba p.body.length p.bcap) rfl;have ax := Lh (cc.out.go b1);have be := Lh (cd.out.go b1);obtain ⟨ad, cf, hc⟩ := Z9 ax.out.brd bn.out;have Hc := Lh hc;have ce := c2;rw [cf] at ce;clear hC cc cd c2 hc cf
 go_wp2_with (first
  | (refine QE rfl 85 _ rfl (ad.add (q * 2)) rfl (Nd.cells ⟨tag, nn⟩) _ Hc.out Tryz.underlying85 rfl (by kernel_rfl) ?_)
  | (refine QT _ rfl ?_))
 refine Stop.to ?_;refine Qm rfl 85 rfl _ _ YE rfl ?_;intro X w3 hX rX b3;go_wp2_with (refine Qv _ _ _ rfl ?_)
 refine Stop.to ?_;refine Ql rfl 85 _ _ rfl X (Nd.cells ⟨tag, nn⟩).toArray rfl rfl 85 _ rX (by kernel_rfl) rfl (by simp [Nd.cells, Value.oneCell']) ?_;intro w4 r4 o4;have a1 : Below w1.heap.size w1 w4 := (b3.mono hX).trans (o4.below hX);have rC := rC.below a1 rC.lt;have ay := Lh (ax.out.go a1);have bf := Lh (be.out.go a1);have b4 := b1.trans (a1.mono b1.size);have c2 := rC.cellv (i := 2) (v := .slice p.ba p.body.length p.bcap) rfl;clear b3 o4 rX a1 b1 ax be ce hX Hc;go_wp2_with fail
 refine (Yh p.ba p.bcap p.body (q : Int) w4 ay.out.brd cs.out).mono ?_;rintro e W ⟨kv, rfl, a7, b5⟩;rw [cu.out, XK] at a7;obtain ⟨KA, c8, rfl, cj, da, db⟩ := EM a7;have rC := rC.below b5 rC.lt;have r4 := r4.below b5 r4.lt;have bc := Lh (ay.out.go b5);have az := Lh (bf.out.go b5);have b5 := b4.trans (b5.mono b4.size);have c9 := r4.cellv (i := 0) (v := .int .i64 tag) rfl;have c3 := rC.cellv (i := 3) (v := .map (some M)) rfl;obtain ⟨S, al⟩ : ∃ S, S = (fun W => Row W C 194 (K5 p M) ∧ Row W X 85 (Nd.cells ⟨tag, nn⟩).toArray ∧ Rd W KA (Qi (QU pos)) ∧ p.ok W ∧ RB M W ∧ Below w.heap.size w W) := ⟨_, rfl⟩;have b8 : St S := by rw [al]; infer_instance
 have S0 : Hid (∀ W, S W → Row W C 194 (K5 p M)) := by show ∀ W, _; rw [al]; exact fun W h => h.1
 have S6 : Hid (∀ W, S W → Row W X 85 (Nd.cells ⟨tag, nn⟩).toArray) := by show ∀ W, _; rw [al]; exact fun W h => h.2.1
 have S1 : Hid (∀ W, S W → Rd W KA (Qi (QU pos))) := by show ∀ W, _; rw [al]; exact fun W h => h.2.2.1
 have S2 : Hid (∀ W, S W → p.ok W) := by show ∀ W, _; rw [al]; exact fun W h => h.2.2.2.1
 have S5 : Hid (∀ W, S W → RB M W) := by show ∀ W, _; rw [al]; exact fun W h => h.2.2.2.2.1
 have S4 : Hid (∀ W, S W → Below w.heap.size w W) := by show ∀ W, _; rw [al]; exact fun W h => h.2.2.2.2.2
 have hS : S W := by rw [al]; exact ⟨rC, r4, cj, bc.out, az.out, b5⟩
 obtain ⟨es, bz, bx, bb⟩ := az.out.ex;have bj := Lh bz;clear a7 c2 ay bf b4 al rC r4 cj bc az b5;by_cases a9 : tag = 20
 · have aq := Lh a9;have cl : JD tag es = none := YJ (fun h => ((bb tag).1 h).2.2 a9);have Hv := Lh cl;clear bx bb cl bz a9
   go_wp2_with (first
    | (refine ZD rfl _ _ rfl Tryz.underlying191 Tryz.underlying3 bj.out rfl tag rfl (z := .nilIface) rfl ?_; rw [Hv.out, Option.getD_none])
    | (refine QE rfl 25 _ rfl ⟨C, 0, none⟩ rfl p.cells.toList _ (Ya (S0.out _ hS)) Tryz.underlying25 rfl (by kernel_rfl) ?_; rw [Array.toArray_toList])
    | (refine wpList_load_row rfl 85 _ rfl X rfl 85 (Nd.cells ⟨tag, nn⟩).toArray (0, 0) _ (S6.out _ hS) Tryz.underlying85 rfl (by kernel_rfl) ?_))
   refine (AfA p ⟨tag, nn⟩ pos.length bm.out W).mono ?_;rintro e W2 ⟨WA, cr, rfl, av, b6⟩;have hS := b8.go hS b6;obtain ⟨iv, a6⟩ : ∃ iv : Int, iv = 2 := ⟨2, rfl⟩;have s : isZ p.V ⟨tag, nn⟩ = iv := by rw [a6, aq.out]; exact (AaZ 0).1
   obtain ⟨b, am⟩ : ∃ b : List Int, b = List.replicate pos.length 2 := ⟨_, rfl⟩;have aa : iv ≠ -1 → QQ p.V ⟨tag, nn⟩ ks.length = b := fun _ => by rw [am, o.out, aq.out]; exact (AaZ (V := p.V) (n := nn) ks.length).2
   rw [← am] at av ⊢;rw [← a6];clear a6 am b6;have bo := Lh (Ym (V := p.V) (ks := ks) s aa).1;have bp := Lh (Ym (V := p.V) (ks := ks) s aa).2.1;have bq := Lh (Ym (V := p.V) (ks := ks) s aa).2.2.1;have a0 := Lh (Ym (V := p.V) (ks := ks) s aa).2.2.2;clear s aa;by_cases ab : iv = -1
   · have e1 : (iv == -1) = true := by simpa using ab
     have hz := Lh (bo.out ab);clear ab;go_wp2
     go_ret
     exact ⟨Qo hz.out, S4.out _ hS⟩
   have e1 : (iv == -1) = false := by simpa using ab
   have bl := Lh ab;clear ab;by_cases y : b.length = ks.length;rotate_left
   · have e2 : ((b.length : Int) != (pos.length : Int)) = true := by simp; have := o.out; omega
     have hz := Lh (bp.out y);clear y;go_wp2
     go_ret
     exact ⟨Qo hz.out, S4.out _ hS⟩
   have e2 : ((b.length : Int) != (pos.length : Int)) = false := by simp; have := o.out; omega
   have d := Lh y;clear y;obtain ⟨T, ae⟩ : ∃ T : World → Prop, T = (fun W => S W ∧ Rd W WA (Qi b)) := ⟨_, rfl⟩;have c7 : St T := by rw [ae]; infer_instance
   have T0 : Hid (∀ W, T W → S W) := by show ∀ W, _; rw [ae]; exact fun W h => h.1
   have T1 : Hid (∀ W, T W → Rd W WA (Qi b)) := by show ∀ W, _; rw [ae]; exact fun W h => h.2
   have hT : T W2 := by rw [ae]; exact ⟨hS, av⟩
   have TC : Hid (∀ W, T W → Row W C 194 (K5 p M)) := by show ∀ W, _; exact fun W h => S0.out _ (T0.out _ h)
   clear ae hS av;go_wp2
   go_loopw [54] (fun i wr => ∃ k : Nat, i = .int .i64 (k : Int) ∧ k ≤ pos.length ∧ T wr ∧ Hid (Add p.V (Zq ⟨tag, nn⟩) ks b k)) (fun i _ => pos.length - (intOf i).toNat)
   case atStart => exact ⟨0, rfl, Nat.zero_le _, hT, Lh (fun j _ _ hj => by omega)⟩
   case round =>
    clear hT;obtain ⟨k, rfl, hk, af, r⟩ := hrel;by_cases aj : k < pos.length
    · obtain ⟨q', hq⟩ : ∃ q, pos[k]? = some q := ⟨_, La aj⟩;obtain ⟨kt, ap⟩ : ∃ kt, ks[k]? = some kt := ⟨_, La (by rw [← o.out]; exact aj)⟩;obtain ⟨u, hu⟩ : ∃ u, b[k]? = some u := ⟨_, La (by rw [d.out, ← o.out]; exact aj)⟩;obtain ⟨ag, ah⟩ := cb.out k q' kt hq ap;have a2 := Lh ah;have aw := Lh ag;obtain ⟨kd, au, a4⟩ := QR (l := QU pos) (S1.out _ (T0.out _ af)) (k := k) (x := (q' : Int)) (by simp [QU, hq]);obtain ⟨wd, b2, _⟩ := QR (l := b) (T1.out _ af) (k := k) (x := u) hu;subst au b2
      have bv : Hid (∀ W, T W → W.cell? (wd.add k) = some (.int .i64 u)) := by
       show ∀ W, _;intro W m;obtain ⟨cx, e, h⟩ := QR (l := b) (T1.out _ m) (k := k) (x := u) hu;injection e with e; subst e; exact h
      have c4 : (k : Int) < (pos.length : Int) := by omega
      have c5 : (k : Int) < (b.length : Int) := by have := d.out; have := o.out; omega
      have c6 : (q' : Int) < (p.body.length : Int) := by have := ag.lt; omega
      have ac := Lh ap;have Hu := Lh hu;have co := bm.out;clear hq ap hu aj ah ag;go_wp2_with fail
      refine ZA T (by kernel_rfl) (by kernel_rfl) (St.drew af) ?_;clear af a4;(refine QD rfl 194 _ rfl (C) rfl 194 _ _ TC.out Tryz.underlying194 rfl (by kernel_rfl) ?_; simp only [Act.put, Qa, Qb, Qc])
      iterate 1 (refine Qf rfl ?_ (fun W m => ?_) ?_; rotate_left; (focus (go_simp; exact rfl)); simp only [Act.put, Qa, Qb, Qc])
      (refine QB rfl 128 _ (fun W => by (go_simp; try rfl)) _ (fun W m => a2.out W (S2.out _ (T0.out _ m)) (S5.out _ (T0.out _ m))) ?_; simp only [Act.put, Qa, Qb, Qc])
      iterate 3 (refine Qf rfl ?_ (fun W m => ?_) ?_; rotate_left; (focus (go_simp; exact rfl)); simp only [Act.put, Qa, Qb, Qc])
      (refine Qf rfl ?_ (fun W m => ?_) ?_; rotate_left; (focus (have c := bv.out W m; go_simp; exact rfl)); simp only [Act.put, Qa, Qb, Qc])
      iterate 1 (refine Qf rfl ?_ (fun W m => ?_) ?_; rotate_left; (focus (go_simp; exact rfl)); simp only [Act.put, Qa, Qb, Qc])
      refine QG fun W m => ?_
      by_cases he : ofT p.V kt = u;rotate_left
      · have bw : (ofT p.V kt != u) = true := by simpa using he
        have hz := Lh (a0.out (KN d.out ac.out Hu.out (fun h => he h.1)) d.out);clear he;go_wp2
        go_ret
        exact ⟨Qo hz.out, S4.out _ (T0.out _ m)⟩
      have bw : (ofT p.V kt != u) = false := by simpa using he
      have He := Lh he;have rX := S6.out _ (T0.out _ m);have cy := rX.cellv (i := 0) (v := .int .i64 tag) rfl;have a8 := TC.out _ m;have br := a8.cellv (i := 2) (v := .slice p.ba p.body.length p.bcap) rfl;obtain ⟨bd, a3, a5⟩ := Z9 (S2.out _ (T0.out _ m)).brd aw.out.root;have bu := a5 0 (.int .i64 kt.root.tag) rfl;rw [show (bd.add (q' * 2)).add 0 = bd.add (q' * 2) by rw [JU]; simp] at bu;rw [a3] at br;clear he rX a8 a5 a3;by_cases g : Zq ⟨tag, nn⟩ = true
      · have ai : tag = 23 ∨ tag = 24 := by simpa [Zq] using g
        have bk := Lh g;clear g;by_cases ao : k = 0
        · have ak := Lh (Kf r.out ac.out Hu.out He.out (fun _ h => by omega));subst ao;have e0 : decide (((0 : Nat) : Int) < ((0 : Nat) : Int)) = false := by simp
          rcases ai with rfl | rfl
          all_goals
           go_wp2
           go_roundw
           case rel => exact ⟨0 + 1, by go_num, by omega, m, ak⟩
           case measure => simp [intOf]; omega
        · have ci : 0 < (k : Int) := by omega
          by_cases hb : kt.root.tag = 20
          · have bt : (kt.root.tag != 20) = false := by simp [hb]
            have ak := Lh (Kf r.out ac.out Hu.out He.out (fun _ _ => hb));clear hb ao;rcases ai with rfl | rfl
            all_goals
             go_wp2
             go_roundw
             case rel => exact ⟨k + 1, by go_num, by omega, m, ak⟩
             case measure => simp [intOf]; omega
          · have bt : (kt.root.tag != 20) = true := by simpa using hb
            have hz := Lh (a0.out (KN d.out ac.out Hu.out (fun h => hb (h.2 bk.out (by omega)))) d.out);clear hb ao;rcases ai with rfl | rfl
            all_goals
             go_wp2
             go_ret
             exact ⟨Qo hz.out, S4.out _ (T0.out _ m)⟩
      · have ak := Lh (Kf r.out ac.out Hu.out He.out (fun h _ => absurd h g));have cz : (tag == 23) = false := by simp [Zq] at g; simp [g.1]
        have c0 : (tag == 24) = false := by simp [Zq] at g; simp [g.2]
        clear g;go_wp2
        go_roundw
        case rel => exact ⟨k + 1, by go_num, by omega, m, ak⟩
        case measure => simp [intOf]; omega
    · have c1 : (pos.length : Int) ≤ (k : Int) := by omega
      have hz := Lh (bq.out bl.out d.out (Aa7 d.out (by have := o.out; omega) r.out));clear aj;go_wp2
      go_ret
      exact ⟨Qo hz.out, S4.out _ (T0.out _ af)⟩
 · obtain ⟨v, hv⟩ := VO ((bb tag).2 ⟨bg.out.1, bg.out.2, a9⟩);have cq := bx _ (AaI hv);have Hv := Lh hv;obtain ⟨ty, x, fk, iv, b, rfl, g1, gm, gc, au, cg, s, aa⟩ := AjO (p := p) ks.length cq cv.out;have ca := Lh au;have b9 := Lh cg;have ct := Lh s;have cw := Lh aa;clear bx bb hv bz cq au cg s aa
   go_wp2_with (first
    | (refine ZD rfl _ _ rfl Tryz.underlying191 Tryz.underlying3 bj.out rfl tag rfl (z := .nilIface) rfl ?_; rw [Hv.out, LN])
    | (refine QE rfl 25 _ rfl ⟨C, 0, none⟩ rfl p.cells.toList _ (Ya (S0.out _ hS)) Tryz.underlying25 rfl (by kernel_rfl) ?_; rw [Array.toArray_toList])
    | (refine wpList_load_row rfl 85 _ rfl X rfl 85 (Nd.cells ⟨tag, nn⟩).toArray (0, 0) _ (S6.out _ hS) Tryz.underlying85 rfl (by kernel_rfl) ?_))
   refine (ca.out W (Below.refl _ _) (S2.out _ hS)).mono ?_;rintro e W1 ⟨rfl, b6⟩;have hS := b8.go hS b6;have B6 := Lh b6;clear b6 gm g1 gc
   go_wp2_with (first
    | (refine ZD rfl _ _ rfl Tryz.underlying191 Tryz.underlying3 bj.out rfl tag rfl (z := .nilIface) rfl ?_; rw [Hv.out, LN])
    | (refine QE rfl 25 _ rfl ⟨C, 0, none⟩ rfl p.cells.toList _ (Ya (S0.out _ hS)) Tryz.underlying25 rfl (by kernel_rfl) ?_; rw [Array.toArray_toList])
    | (refine wpList_load_row rfl 85 _ rfl X rfl 85 (Nd.cells ⟨tag, nn⟩).toArray (0, 0) _ (S6.out _ hS) Tryz.underlying85 rfl (by kernel_rfl) ?_))
   refine (b9.out _ W1 B6.out (S2.out _ hS)).mono ?_;rintro e W2 ⟨WA, cr, rfl, av, b7⟩;have hS := b8.go hS b7;have s := ct.out;have aa := cw.out;clear b7 B6 ca b9;have bo := Lh (Ym (V := p.V) (ks := ks) s aa).1;have bp := Lh (Ym (V := p.V) (ks := ks) s aa).2.1;have bq := Lh (Ym (V := p.V) (ks := ks) s aa).2.2.1;have a0 := Lh (Ym (V := p.V) (ks := ks) s aa).2.2.2;clear s aa;by_cases ab : iv = -1
   · have e1 : (iv == -1) = true := by simpa using ab
     have hz := Lh (bo.out ab);clear ab;go_wp2
     go_ret
     exact ⟨Qo hz.out, S4.out _ hS⟩
   have e1 : (iv == -1) = false := by simpa using ab
   have bl := Lh ab;clear ab;by_cases y : b.length = ks.length;rotate_left
   · have e2 : ((b.length : Int) != (pos.length : Int)) = true := by simp; have := o.out; omega
     have hz := Lh (bp.out y);clear y;go_wp2
     go_ret
     exact ⟨Qo hz.out, S4.out _ hS⟩
   have e2 : ((b.length : Int) != (pos.length : Int)) = false := by simp; have := o.out; omega
   have d := Lh y;clear y;obtain ⟨T, ae⟩ : ∃ T : World → Prop, T = (fun W => S W ∧ Rd W WA (Qi b)) := ⟨_, rfl⟩;have c7 : St T := by rw [ae]; infer_instance
   have T0 : Hid (∀ W, T W → S W) := by show ∀ W, _; rw [ae]; exact fun W h => h.1
   have T1 : Hid (∀ W, T W → Rd W WA (Qi b)) := by show ∀ W, _; rw [ae]; exact fun W h => h.2
   have hT : T W2 := by rw [ae]; exact ⟨hS, av⟩
   have TC : Hid (∀ W, T W → Row W C 194 (K5 p M)) := by show ∀ W, _; exact fun W h => S0.out _ (T0.out _ h)
   clear ae hS av;go_wp2
   go_loopw [54] (fun i wr => ∃ k : Nat, i = .int .i64 (k : Int) ∧ k ≤ pos.length ∧ T wr ∧ Hid (Add p.V (Zq ⟨tag, nn⟩) ks b k)) (fun i _ => pos.length - (intOf i).toNat)
   case atStart => exact ⟨0, rfl, Nat.zero_le _, hT, Lh (fun j _ _ hj => by omega)⟩
   case round =>
    clear hT;obtain ⟨k, rfl, hk, af, r⟩ := hrel;by_cases aj : k < pos.length
    · obtain ⟨q', hq⟩ : ∃ q, pos[k]? = some q := ⟨_, La aj⟩;obtain ⟨kt, ap⟩ : ∃ kt, ks[k]? = some kt := ⟨_, La (by rw [← o.out]; exact aj)⟩;obtain ⟨u, hu⟩ : ∃ u, b[k]? = some u := ⟨_, La (by rw [d.out, ← o.out]; exact aj)⟩;obtain ⟨ag, ah⟩ := cb.out k q' kt hq ap;have a2 := Lh ah;have aw := Lh ag;obtain ⟨kd, au, a4⟩ := QR (l := QU pos) (S1.out _ (T0.out _ af)) (k := k) (x := (q' : Int)) (by simp [QU, hq]);obtain ⟨wd, b2, _⟩ := QR (l := b) (T1.out _ af) (k := k) (x := u) hu;subst au b2
      have bv : Hid (∀ W, T W → W.cell? (wd.add k) = some (.int .i64 u)) := by
       show ∀ W, _;intro W m;obtain ⟨cx, e, h⟩ := QR (l := b) (T1.out _ m) (k := k) (x := u) hu;injection e with e; subst e; exact h
      have c4 : (k : Int) < (pos.length : Int) := by omega
      have c5 : (k : Int) < (b.length : Int) := by have := d.out; have := o.out; omega
      have c6 : (q' : Int) < (p.body.length : Int) := by have := ag.lt; omega
      have ac := Lh ap;have Hu := Lh hu;have co := bm.out;clear hq ap hu aj ah ag;go_wp2_with fail
      refine ZA T (by kernel_rfl) (by kernel_rfl) (St.drew af) ?_;clear af a4;(refine QD rfl 194 _ rfl (C) rfl 194 _ _ TC.out Tryz.underlying194 rfl (by kernel_rfl) ?_; simp only [Act.put, Qa, Qb, Qc])
      iterate 1 (refine Qf rfl ?_ (fun W m => ?_) ?_; rotate_left; (focus (go_simp; exact rfl)); simp only [Act.put, Qa, Qb, Qc])
      (refine QB rfl 128 _ (fun W => by (go_simp; try rfl)) _ (fun W m => a2.out W (S2.out _ (T0.out _ m)) (S5.out _ (T0.out _ m))) ?_; simp only [Act.put, Qa, Qb, Qc])
      iterate 3 (refine Qf rfl ?_ (fun W m => ?_) ?_; rotate_left; (focus (go_simp; exact rfl)); simp only [Act.put, Qa, Qb, Qc])
      (refine Qf rfl ?_ (fun W m => ?_) ?_; rotate_left; (focus (have c := bv.out W m; go_simp; exact rfl)); simp only [Act.put, Qa, Qb, Qc])
      iterate 1 (refine Qf rfl ?_ (fun W m => ?_) ?_; rotate_left; (focus (go_simp; exact rfl)); simp only [Act.put, Qa, Qb, Qc])
      refine QG fun W m => ?_
      by_cases he : ofT p.V kt = u;rotate_left
      · have bw : (ofT p.V kt != u) = true := by simpa using he
        have hz := Lh (a0.out (KN d.out ac.out Hu.out (fun h => he h.1)) d.out);clear he;go_wp2
        go_ret
        exact ⟨Qo hz.out, S4.out _ (T0.out _ m)⟩
      have bw : (ofT p.V kt != u) = false := by simpa using he
      have He := Lh he;have rX := S6.out _ (T0.out _ m);have cy := rX.cellv (i := 0) (v := .int .i64 tag) rfl;have a8 := TC.out _ m;have br := a8.cellv (i := 2) (v := .slice p.ba p.body.length p.bcap) rfl;obtain ⟨bd, a3, a5⟩ := Z9 (S2.out _ (T0.out _ m)).brd aw.out.root;have bu := a5 0 (.int .i64 kt.root.tag) rfl;rw [show (bd.add (q' * 2)).add 0 = bd.add (q' * 2) by rw [JU]; simp] at bu;rw [a3] at br;clear he rX a8 a5 a3;by_cases g : Zq ⟨tag, nn⟩ = true
      · have ai : tag = 23 ∨ tag = 24 := by simpa [Zq] using g
        have bk := Lh g;clear g;by_cases ao : k = 0
        · have ak := Lh (Kf r.out ac.out Hu.out He.out (fun _ h => by omega));subst ao;have e0 : decide (((0 : Nat) : Int) < ((0 : Nat) : Int)) = false := by simp
          rcases ai with rfl | rfl
          all_goals
           go_wp2
           go_roundw
           case rel => exact ⟨0 + 1, by go_num, by omega, m, ak⟩
           case measure => simp [intOf]; omega
        · have ci : 0 < (k : Int) := by omega
          by_cases hb : kt.root.tag = 20
          · have bt : (kt.root.tag != 20) = false := by simp [hb]
            have ak := Lh (Kf r.out ac.out Hu.out He.out (fun _ _ => hb));clear hb ao;rcases ai with rfl | rfl
            all_goals
             go_wp2
             go_roundw
             case rel => exact ⟨k + 1, by go_num, by omega, m, ak⟩
             case measure => simp [intOf]; omega
          · have bt : (kt.root.tag != 20) = true := by simpa using hb
            have hz := Lh (a0.out (KN d.out ac.out Hu.out (fun h => hb (h.2 bk.out (by omega)))) d.out);clear hb ao;rcases ai with rfl | rfl
            all_goals
             go_wp2
             go_ret
             exact ⟨Qo hz.out, S4.out _ (T0.out _ m)⟩
      · have ak := Lh (Kf r.out ac.out Hu.out He.out (fun h _ => absurd h g));have cz : (tag == 23) = false := by simp [Zq] at g; simp [g.1]
        have c0 : (tag == 24) = false := by simp [Zq] at g; simp [g.2]
        clear g;go_wp2
        go_roundw
        case rel => exact ⟨k + 1, by go_num, by omega, m, ak⟩
        case measure => simp [intOf]; omega
    · have c1 : (pos.length : Int) ≤ (k : Int) := by omega
      have hz := Lh (bq.out bl.out d.out (Aa7 d.out (by have := o.out; omega) r.out));clear aj;go_wp2
      go_ret
      exact ⟨Qo hz.out, S4.out _ (T0.out _ af)⟩
theorem RS.rb {w W : World} {M : Nat} {D : List Int} (h : RS w W M D) (hD : ∀ k, k ∈ D ↔ (1 ≤ k ∧ k ≤ 26 ∧ k ≠ 20)) : RB M W := by
 obtain ⟨b, c, d, e⟩ := h.map;subst d;exact ⟨b, c, e, hD⟩
theorem AcQ (p : PgV) (hbl : p.body.length ≤ 1000) (t : Tr) (q : Nat) (hat : At p.body q t) (w : World) (hok : p.ok w) : Calls Tryz.prog 66 #[.agg p.cells, .int .i64 (q : Int)] w fun e w' => e = .returned (.int .i64 (ofT p.V t)) ∧ Below w.heap.size w w' := by
 have l := Lh hbl;have z := Lh hat;have n := Lh hok;have m : Hid (endZ p.body (q : Int) = ((q + t.size : Nat) : Int)) := hat.endZ;have ab : 0 ≤ ((q + t.size : Nat) : Int) := by omega
 clear hbl hat hok;go_enter Tryz.func66, Tryz.ntmps66
 go_wp2_with (refine Qn _ _ rfl ?_)
 refine Stop.to ?_;refine Qe rfl 25 _ rfl p.cells rfl ?_;intro G w1 hG x k;have k := (Below.refl w.heap.size w).trans (k.mono hG);have c2 := x.cellv (i := 2) (v := .slice p.ba p.body.length p.bcap) rfl;have c := Lh (n.out.go k);clear hG n;go_wp2_with fail
 refine (JW p.ba p.bcap p.body (q : Int) w1 c.out.brd l.out).mono ?_;rintro e y ⟨rfl, u⟩;rw [m.out];obtain ⟨S, b⟩ : ∃ S, S = (fun W => Row W G 25 p.cells ∧ p.ok W ∧ Below w.heap.size w W) := ⟨_, rfl⟩;have s : St S := by rw [b]; infer_instance
 have S0 : Hid (∀ W, S W → Row W G 25 p.cells) := by show ∀ W, _; rw [b]; exact fun W h => h.1
 have S1 : Hid (∀ W, S W → p.ok W) := by show ∀ W, _; rw [b]; exact fun W h => h.2.1
 have S2 : Hid (∀ W, S W → Below w.heap.size w W) := by show ∀ W, _; rw [b]; exact fun W h => h.2.2
 have o : S y := by rw [b]; exact ⟨x.below u x.lt, c.out.go u, k.trans (u.mono k.size)⟩
 clear b x k u c2 c;go_wp2_with fail
 refine wp_region_held (S := S) (by kernel_rfl) ?_;simp only [Lk, Lc, Lr, Nat.reduceAdd, Ll, Lm, Lu, Lp, Ln];show wpAnyH _ _ _ _ _ _ _ _ y.drew;have g : S y.drew := St.drew o;clear o;generalize y.drew = wd at g ⊢;(refine tkH 0 _ rfl (Xl rfl 25 _ rfl G rfl 25 p.cells _ S0.out Tryz.underlying25 rfl (by kernel_rfl)) ?_; simp only [Act.put, Qa, Qb, Qc]);(refine tkH 3 (.int .i64 (q : Int)) rfl (Qd rfl (fun W hW => by (go_simp))) ?_; simp only [Act.put, Qa, Qb, Qc]);(refine wpAnyH_all (rs := [1]) (by kernel_rfl) (by simp) (fun i hi => ?_); obtain rfl : i = 1 := by simpa using hi);refine Qg rfl rfl (fun K2 d => ?_);refine Qt (w1 := wd) 127 #[] (by go_simp; try rfl) ?_
 refine (Agh wd).mono ?_;rintro e wr ⟨M, D, rfl, j, hD⟩;refine ⟨_, rfl, d _ _ ?_⟩;clear d K2;have g := s.go g j.below;have r := j.rb hD;have aa := Lh r;clear r j hD;simp only [Act.put, Qa, Qb, Qc];refine ⟨g, ?_⟩;(refine tkH 2 (.agg (K5 p M)) rfl (Qd rfl (fun W hW => by (go_simp; try rfl))) ?_; simp only [Act.put, Qa, Qb, Qc])
 (refine wpAnyH_all (rs := [4]) (by kernel_rfl) (by simp) (fun i hi => ?_); obtain rfl : i = 4 := by simpa using hi);refine Qg rfl rfl (fun K2 d => ?_);refine Qt (w1 := wr) 128 #[.agg (K5 p M), .int .i64 (q : Int)] (by go_simp; try rfl) ?_
 refine (Ail p M l.out t.size t q (Nat.le_refl _) z.out wr (S1.out _ g) aa.out).mono ?_;rintro e w6 ⟨rfl, b6⟩;refine ⟨_, rfl, d _ _ ?_⟩;clear d K2;have g := s.go g b6;simp only [Act.put, Qa, Qb, Qc];refine ⟨g, ?_⟩;(refine tkH 5 (.int .i64 (ofT p.V t)) rfl (Qd rfl (fun W hW => by (go_simp))) ?_; simp only [Act.put, Qa, Qb, Qc]);refine wpAnyH_done (by kernel_rfl) ?_ _;go_wp2
 go_ret
 exact ⟨rfl, S2.out _ g⟩
end Go.Proofs.YtdcmppdhdcjpfaaGreat
