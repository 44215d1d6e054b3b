/- Lemmas for VerdictMoreP. -/
import Derived.Test.YtdcmppdhdcjpfaaGreatZr1
import Derived.Test.YtdcmppdhdcjpfaaGreatZr5
set_option linter.unusedVariables false
set_option linter.unusedSimpArgs false
set_option maxRecDepth 100000
set_option maxHeartbeats 16000000
namespace Go.Proofs.YtdcmppdhdcjpfaaGreat
open Go.RowKit Go.Deep
theorem Yk {V : List Int} {inn : Bool} : ∀ (ks : List Tr) (want : List Int) (f : Bool), want.length = ks.length → (Q3 V inn f ks want = true ↔ ∀ (j : Nat) (t : Tr) (w : Int), ks[j]? = some t → want[j]? = some w → ofT V t = w ∧ (inn = true → (f = false ∨ 0 < j) → t.root.tag = 20))
 | [], [], f, _ => by rw [Zs]; simp
 | t :: ts, k :: ws, f, h => by
  rw [Zh]
  have ih := Yk (V := V) (inn := inn) ts ws false (by simpa using h)
  constructor
  · intro hh
    simp only [Bool.and_eq_true] at hh
    obtain ⟨⟨h1, h2⟩, h3⟩ := hh
    have h3 := ih.1 h3
    intro j t' w' ht hw
    cases j with
    | zero =>
     simp at ht hw; subst ht hw
     refine ⟨by simpa using h1, fun hi hf => ?_⟩
     rcases hf with hf | hf
     · subst hi hf; simpa using h2
     · omega
    | succ j =>
     simp at ht hw
     have := h3 j t' w' ht hw
     exact ⟨this.1, fun hi _ => this.2 hi (.inl rfl)⟩
  · intro hh
    simp only [Bool.and_eq_true]
    refine ⟨⟨?_, ?_⟩, ih.2 fun j t' w' ht hw => ?_⟩
    · have := (hh 0 t k rfl rfl).1; simpa using this
    · cases hi : inn with
      | false => simp
      | true =>
       cases hf : f with
       | true => simp
       | false => have := (hh 0 t k rfl rfl).2 hi (.inl hf); simp [this]
    · have := hh (j + 1) t' w' (by simpa using ht) (by simpa using hw)
      exact ⟨this.1, fun hi _ => this.2 hi (.inr (by omega))⟩
structure RB (M : Nat) (W : World) : Prop where
 ex : ∃ es, MapB W M es ∧ (∀ p ∈ es, RuleR W p.1 p.2) ∧ ∀ k, k ∈ es.map (·.1) ↔ (1 ≤ k ∧ k ≤ 26 ∧ k ≠ 20)
theorem RB.go {M : Nat} {W W' : World} (h : RB M W) (b : Below W.heap.size W W') : RB M W' := by
 obtain ⟨es, h1, h2, h3⟩ := h.ex
 exact ⟨es, h1.below b h1.lt, fun p hp => (h2 p hp).go b, h3⟩
instance St.rb {M : Nat} : St (fun W => RB M W) := ⟨fun h b => h.go b⟩
def JW (p : PgV) (M : Nat) : Array Value := #[.int .i64 p.params, .slice p.va p.V.length p.vcap, .slice p.ba p.body.length p.bcap, .map (some M)]
theorem Z7 {W : World} {C M : Nat} {p : PgV} (h : Row W C 194 (JW p M)) : ∀ j v, p.cells.toList[j]? = some v → W.cell? ((⟨C, 0, none⟩ : Addr).add j) = some v :=
 h.from_ 0 (cs := p.cells.toList) (fun j v hj => by
  rw [Nat.zero_add]
  have hlt := (List.getElem?_eq_some_iff.1 hj).1
  simp only [PgV.cells, List.length_cons, List.length_nil] at hlt
  have : j = 0 ∨ j = 1 ∨ j = 2 := by omega
  rcases this with rfl | rfl | rfl <;> simpa [PgV.cells, JW] using hj)
theorem AcA {tag is : Int} {want : List Int} (h : Js tag = some (is, want)) :
 (tag = 1 ∧ is = 0 ∧ want = []) ∨ (tag = 2 ∧ is = 1 ∧ want = []) ∨ (tag = 5 ∧ is = 0 ∧ want = [0]) ∨ (tag = 6 ∧ is = 1 ∧ want = [1]) ∨ (tag = 18 ∧ is = 1 ∧ want = [1, 1]) ∨ (tag = 19 ∧ is = 1 ∧ want = [1, 1]) ∨ (tag = 23 ∧ is = 2 ∧ want = [1, 2, 2]) ∨ (tag = 24 ∧ is = 2 ∧ want = [1, 2]) ∨ (tag = 25 ∧ is = 2 ∧ want = [0]) ∨ (tag = 26 ∧ is = 2 ∧ want = []) ∨ ((7 ≤ tag ∧ tag ≤ 11) ∧ is = 0 ∧ want = [0, 0]) ∨ ((12 ≤ tag ∧ tag ≤ 17) ∧ is = 1 ∧ want = [0, 0]) := by
 have key : ∀ {o : Option (Int × List Int)} {a : Int} {l : List Int}, o = some (is, want) → o = some (a, l) → is = a ∧ want = l := fun h1 h2 => by
  rw [h1] at h2; injection h2 with h2; injection h2 with h3 h4; exact ⟨h3, h4⟩
 by_cases h1 : tag = 1
 · have := key h (by unfold Js; rw [if_pos h1])
   exact .inl (⟨h1, this.1, this.2⟩)
 by_cases h2 : tag = 2
 · have := key h (by unfold Js; rw [if_neg h1, if_pos h2])
   exact .inr (.inl (⟨h2, this.1, this.2⟩))
 by_cases h5 : tag = 5
 · have := key h (by unfold Js; rw [if_neg h1, if_neg h2, if_pos h5])
   exact .inr (.inr (.inl (⟨h5, this.1, this.2⟩)))
 by_cases h6 : tag = 6
 · have := key h (by unfold Js; rw [if_neg h1, if_neg h2, if_neg h5, if_pos h6])
   exact .inr (.inr (.inr (.inl (⟨h6, this.1, this.2⟩))))
 by_cases h18 : tag = 18
 · have := key h (by unfold Js; rw [if_neg h1, if_neg h2, if_neg h5, if_neg h6, if_pos h18])
   exact .inr (.inr (.inr (.inr (.inl (⟨h18, this.1, this.2⟩)))))
 by_cases h19 : tag = 19
 · have := key h (by unfold Js; rw [if_neg h1, if_neg h2, if_neg h5, if_neg h6, if_neg h18, if_pos h19])
   exact .inr (.inr (.inr (.inr (.inr (.inl (⟨h19, this.1, this.2⟩))))))
 by_cases h23 : tag = 23
 · have := key h (by unfold Js; rw [if_neg h1, if_neg h2, if_neg h5, if_neg h6, if_neg h18, if_neg h19, if_pos h23])
   exact .inr (.inr (.inr (.inr (.inr (.inr (.inl (⟨h23, this.1, this.2⟩)))))))
 by_cases h24 : tag = 24
 · have := key h (by unfold Js; rw [if_neg h1, if_neg h2, if_neg h5, if_neg h6, if_neg h18, if_neg h19, if_neg h23, if_pos h24])
   exact .inr (.inr (.inr (.inr (.inr (.inr (.inr (.inl (⟨h24, this.1, this.2⟩))))))))
 by_cases h25 : tag = 25
 · have := key h (by unfold Js; rw [if_neg h1, if_neg h2, if_neg h5, if_neg h6, if_neg h18, if_neg h19, if_neg h23, if_neg h24, if_pos h25])
   exact .inr (.inr (.inr (.inr (.inr (.inr (.inr (.inr (.inl (⟨h25, this.1, this.2⟩)))))))))
 by_cases h26 : tag = 26
 · have := key h (by unfold Js; rw [if_neg h1, if_neg h2, if_neg h5, if_neg h6, if_neg h18, if_neg h19, if_neg h23, if_neg h24, if_neg h25, if_pos h26])
   exact .inr (.inr (.inr (.inr (.inr (.inr (.inr (.inr (.inr (.inl (⟨h26, this.1, this.2⟩))))))))))
 by_cases ha : 7 ≤ tag ∧ tag ≤ 11
 · have := key h (by unfold Js; rw [if_neg h1, if_neg h2, if_neg h5, if_neg h6, if_neg h18, if_neg h19, if_neg h23, if_neg h24, if_neg h25, if_neg h26, if_pos ha])
   exact .inr (.inr (.inr (.inr (.inr (.inr (.inr (.inr (.inr (.inr (.inl (⟨ha, this.1, this.2⟩)))))))))))
 by_cases hb : 12 ≤ tag ∧ tag ≤ 17
 · have := key h (by unfold Js; rw [if_neg h1, if_neg h2, if_neg h5, if_neg h6, if_neg h18, if_neg h19, if_neg h23, if_neg h24, if_neg h25, if_neg h26, if_neg ha, if_pos hb])
   exact .inr (.inr (.inr (.inr (.inr (.inr (.inr (.inr (.inr (.inr (.inr (⟨hb, this.1, this.2⟩)))))))))))
 · exfalso
   have hn : Js tag = none := by unfold Js; rw [if_neg h1, if_neg h2, if_neg h5, if_neg h6, if_neg h18, if_neg h19, if_neg h23, if_neg h24, if_neg h25, if_neg h26, if_neg ha, if_neg hb]
   rw [hn] at h; cases h
theorem Ae2 {V : List Int} {tag n is : Int} {want : List Int} (h : Js tag = some (is, want)) (m : Nat) : isZ V ⟨tag, n⟩ = is ∧ QM V ⟨tag, n⟩ m = want := by
 rcases AcA h with ⟨rfl, rfl, rfl⟩ | ⟨rfl, rfl, rfl⟩ | ⟨rfl, rfl, rfl⟩ | ⟨rfl, rfl, rfl⟩ | ⟨rfl, rfl, rfl⟩ | ⟨rfl, rfl, rfl⟩ | ⟨rfl, rfl, rfl⟩ | ⟨rfl, rfl, rfl⟩ | ⟨rfl, rfl, rfl⟩ | ⟨rfl, rfl, rfl⟩ | ⟨h1, rfl, rfl⟩ | ⟨h1, rfl, rfl⟩
 iterate 10 (exact ⟨rfl, rfl⟩)
 all_goals
  unfold isZ QM
  dsimp only
  refine ⟨?_, ?_⟩ <;> (repeat (first | rw [if_pos (by omega)] | rw [if_neg (by omega)]))
theorem Ahu {V : List Int} {tag n is : Int} {want : List Int} (h : Ag6 tag = some (is, want)) (m : Nat) : isZ V ⟨tag, n⟩ = Xp V n is ∧ QM V ⟨tag, n⟩ m = want := by
 unfold Ag6 at h
 repeat' split at h
 all_goals cases h
 all_goals (subst_vars; exact ⟨rfl, rfl⟩)
theorem Adq {V : List Int} {tag n : Int} {b : Bool} (h : tag = 3 ∧ b = false ∨ tag = 21 ∧ b = true) (m : Nat) : isZ V ⟨tag, n⟩ = Kt V n b ∧ (isZ V ⟨tag, n⟩ ≠ -1 → QM V ⟨tag, n⟩ m = JP V n b) := by
 rcases h with ⟨rfl, rfl⟩ | ⟨rfl, rfl⟩
 · exact ⟨rfl, fun _ => by unfold JP; rw [if_neg (by simp)]; rfl⟩
 · refine ⟨rfl, fun hne => ?_⟩
   have hp : JZ V n = true := by
    cases hp : JZ V n with
    | true => rfl
    | false => exact absurd (show isZ V ⟨21, n⟩ = -1 by show (if JZ V n = true then (2 : Int) else -1) = -1; rw [hp]; rfl) hne
   obtain ⟨t, ht, _⟩ := Xz hp
   unfold JP
   rw [if_pos ⟨rfl, (List.getElem?_eq_some_iff.1 ht).1⟩]; rfl
theorem Aaa {V : List Int} {n : Int} (m : Nat) : isZ V ⟨20, n⟩ = 2 ∧ QM V ⟨20, n⟩ m = List.replicate m 2 := ⟨rfl, rfl⟩
theorem Jk {V : List Int} {x : Nd} {ks : List Tr} {iv : Int} {want : List Int} (hi : isZ V x = iv) (hw : iv ≠ -1 → QM V x ks.length = want) :
 (iv = -1 → ofT V (.node x ks) = -1) ∧ (want.length ≠ ks.length → ofT V (.node x ks) = -1) ∧ (iv ≠ -1 → want.length = ks.length → Q3 V (Q4 x) true ks want = true → ofT V (.node x ks) = iv) ∧ (Q3 V (Q4 x) true ks want = false → want.length = ks.length → ofT V (.node x ks) = -1) := by
 by_cases h : iv = -1
 · have : ofT V (.node x ks) = -1 := by rw [ofT, if_pos (.inl (hi.trans h))]
   exact ⟨fun _ => this, fun _ => this, fun e => absurd h e, fun _ _ => this⟩
 · have hw2 := hw h
   clear hw
   subst hi hw2
   refine ⟨fun e => absurd e h, fun hl => ?_, fun _ hl hk => ?_, fun hk hl => ?_⟩
   · rw [ofT, if_pos (.inr hl)]
   · rw [ofT, if_neg (by simp [h, hl]), if_pos hk]
   · rw [ofT, if_neg (by simp [h, hl]), hk]; rfl
theorem ZL {V : List Int} {inn : Bool} {ks : List Tr} {want : List Int} (hl : want.length = ks.length) {j : Nat} {t : Tr} {w : Int} (ht : ks[j]? = some t) (hw : want[j]? = some w) (h : ¬ (ofT V t = w ∧ (inn = true → 0 < j → t.root.tag = 20))) : Q3 V inn true ks want = false := by
 cases hk : Q3 V inn true ks want with
 | false => rfl
 | true =>
  have := (Yk ks want true hl).1 hk j t w ht hw
  exact absurd ⟨this.1, fun hi hj => this.2 hi (.inr hj)⟩ h
def VE (V : List Int) (inn : Bool) (ks : List Tr) (want : List Int) (k : Nat) : Prop := ∀ (j : Nat) (t : Tr) (w : Int), j < k → ks[j]? = some t → want[j]? = some w → ofT V t = w ∧ (inn = true → 0 < j → t.root.tag = 20)
theorem Zz {V : List Int} {inn : Bool} {ks : List Tr} {want : List Int} {k : Nat} {t : Tr} {w : Int} (h : VE V inn ks want k) (ht : ks[k]? = some t) (hw : want[k]? = some w) (h1 : ofT V t = w) (h2 : inn = true → 0 < k → t.root.tag = 20) : VE V inn ks want (k + 1) := fun j t' w' hj ht' hw' => by
 by_cases e : j = k
 · subst e
   rw [ht] at ht'; rw [hw] at hw'
   injection ht' with e1; injection hw' with e2; subst e1 e2
   exact ⟨h1, h2⟩
 · exact h j t' w' (by omega) ht' hw'
theorem X9 {V : List Int} {inn : Bool} {ks : List Tr} {want : List Int} {k : Nat} (hl : want.length = ks.length) (hk : ks.length ≤ k) (h : VE V inn ks want k) : Q3 V inn true ks want = true :=
 (Yk ks want true hl).2 fun j t w ht hw => by
  have := h j t w (by have := (List.getElem?_eq_some_iff.1 ht).1; omega) ht hw
  exact ⟨this.1, fun hi hf => this.2 hi (hf.elim (fun e => by cases e) id)⟩
section
variable {A : Option Addr} {m cap : Nat} {is : Int} {b : Bool}
theorem AdC (f : Nat) (w : World) : (method (f + 1) 257 (.agg #[.slice A m cap, .int .i64 is]) "offshoot/kinds.kind").run Tryz.prog w = .ok (346, .agg #[.slice A m cap, .int .i64 is]) w := by kernel_rfl
theorem AdB (f : Nat) (w : World) : (method (f + 1) 261 (.agg #[.slice A m cap, .int .i64 is]) "offshoot/kinds.kind").run Tryz.prog w = .ok (348, .agg #[.slice A m cap, .int .i64 is]) w := by kernel_rfl
theorem Acj (f : Nat) (w : World) : (method (f + 1) 259 (.agg #[.bool b]) "offshoot/kinds.kind").run Tryz.prog w = .ok (347, .agg #[.bool b]) w := by kernel_rfl
end
theorem AhE (p : PgV) (M : Nat) (hbl : p.body.length ≤ 1000) : ∀ (n : Nat) (t : Tr) (q : Nat), t.size ≤ n → At p.body q t → ∀ w, p.ok w → RB M w → Calls Tryz.prog 128 #[.agg (JW p M), .int .i64 (q : Int)] w fun e w' => e = .returned (.int .i64 (ofT p.V t)) ∧ Below w.heap.size w w' := by
 intro n
 induction n with
 | zero => intro t q hn; have := t.size_eq; omega
 | succ n ih =>
 intro t q hn hat w hok hrb
 obtain ⟨⟨tag, nn⟩, ks⟩ := t
 have Hbl := Lh hbl
 have hkz : kidsZ p.body (q : Int) = JC (Ze (q + 1) ks) := hat.kidsZ
 obtain ⟨pos, hpos⟩ : ∃ pos, pos = Ze (q + 1) ks := ⟨_, rfl⟩
 rw [← hpos] at hkz
 have Hkz := Lh hkz
 have Hpl : Hid (pos.length = ks.length) := by show _ = _; rw [hpos, JF]
 have hof : ∀ (i q' : Nat) (k : Tr), pos[i]? = some q' → ks[i]? = some k → At p.body q' k ∧ ∀ W, p.ok W → RB M W → Calls Tryz.prog 128 #[.agg (JW p M), .int .i64 (q' : Int)] W fun e W' => e = .returned (.int .i64 (ofT p.V k)) ∧ Below W.heap.size W W' := by
  intro i q' k h1 hk
  rw [hpos] at h1
  obtain ⟨hk', _⟩ := hat.kids.spot i q' k h1 hk
  refine ⟨hk', ih k q' ?_ hk'⟩
  have h3 := YH (List.mem_of_getElem? hk)
  have h4 := (Tr.node ⟨tag, nn⟩ ks).size_eq
  simp only [Tr.kids] at h4
  omega
 have Hpm : Hid (pos.length ≤ 1000) := by
  show _ ≤ _
  have h5 : ∀ (ts : List Tr), ts.length ≤ (QF ts).length := fun ts => by
   induction ts with
   | nil => simp
   | cons t ts ih => rw [QF, List.length_append, List.length_cons]; have := t.size_eq; have hsz : t.size = t.flat.length := rfl; omega
  have h3 := h5 ks
  have h4 := (Tr.node ⟨tag, nn⟩ ks).size_eq
  simp only [Tr.kids] at h4
  have := hat.le
  rw [Hpl.out]; omega
 have Hof := Lh hof
 have hfit := hat.fits
 have har : 0 ≤ Qv ⟨tag, nn⟩ := by have := hfit.arity; simp only [Tr.root, Tr.kids] at this; omega
 have htag : 1 ≤ tag ∧ tag ≤ 26 := by
  by_cases h : 1 ≤ tag ∧ tag ≤ 26
  · exact h
  · rw [EI h] at har; omega
 have hn0 : tag ≠ 1 → 0 ≤ nn := fun h => by have := EK har; simp only at this; omega
 have Hn0 := Lh hn0
 have Hroot : Hid (p.body[q]? = some ⟨tag, nn⟩) := hat.root
 have hql : (q : Int) < (p.body.length : Int) := by have := hat.lt; omega
 have Hok := Lh hok
 have Hrb := Lh hrb
 have Htag := Lh htag
 clear hkz hof hfit har hn0 hok hpos hat ih hbl hn hrb htag
 go_enter Tryz.func128, Tryz.ntmps128
 go_wp2_with (refine Qp _ _ rfl ?_)
 refine Stop.to ?_
 refine Qf rfl 194 _ rfl (JW p M) rfl ?_
 intro C w1 hC rC b1
 have b1 := (Below.refl w.heap.size w).trans (b1.mono hC)
 have c2 := rC.cellv (i := 2) (v := .slice p.ba p.body.length p.bcap) rfl
 have Hok1 := Lh (Hok.out.go b1)
 have Hrb1 := Lh (Hrb.out.go b1)
 obtain ⟨ad, had, hc⟩ := Jq Hok1.out.brd Hroot.out
 have Hc := Lh hc
 have c2' := c2
 rw [had] at c2'
 clear hC Hok Hrb c2 hc had
 go_wp2_with (first
  | (refine QH rfl 85 _ rfl (ad.add (q * 2)) rfl (Nd.cells ⟨tag, nn⟩) _ Hc.out Tryz.underlying85 rfl (by kernel_rfl) ?_)
  | (refine QY _ rfl ?_))
 refine Stop.to ?_
 refine Ql rfl 85 rfl _ _ Aau rfl ?_
 intro X w3 hX rX b3
 go_wp2_with (refine QD _ _ _ rfl ?_)
 refine Stop.to ?_
 refine Qk rfl 85 _ _ rfl X (Nd.cells ⟨tag, nn⟩).toArray rfl rfl 85 _ rX (by kernel_rfl) rfl (by simp [Nd.cells, Value.oneCell']) ?_
 intro w4 r4 o4
 have b34 : Below w1.heap.size w1 w4 := (b3.mono hX).trans (o4.below hX)
 have rC := rC.below b34 rC.lt
 have Hok4 := Lh (Hok1.out.go b34)
 have Hrb4 := Lh (Hrb1.out.go b34)
 have b4 := b1.trans (b34.mono b1.size)
 have c2 := rC.cellv (i := 2) (v := .slice p.ba p.body.length p.bcap) rfl
 clear b3 o4 rX b34 b1 Hok1 Hrb1 c2' hX Hc
 go_wp2_with fail
 refine (XN p.ba p.bcap p.body (q : Int) w4 Hok4.out.brd Hbl.out).mono ?_
 rintro e W ⟨kv, rfl, hown, b5⟩
 rw [Hkz.out, Aae] at hown
 obtain ⟨KA, kcap, rfl, hkr, hkc, hkn⟩ := AdK hown
 have rC := rC.below b5 rC.lt
 have r4 := r4.below b5 r4.lt
 have Hok5 := Lh (Hok4.out.go b5)
 have Hrb5 := Lh (Hrb4.out.go b5)
 have b5 := b4.trans (b5.mono b4.size)
 have c4t := r4.cellv (i := 0) (v := .int .i64 tag) rfl
 have c3 := rC.cellv (i := 3) (v := .map (some M)) rfl
 obtain ⟨S, hSd⟩ : ∃ S, S = (fun W => Row W C 194 (JW p M) ∧ Row W X 85 (Nd.cells ⟨tag, nn⟩).toArray ∧ Rd W KA (Qi (JC pos)) ∧ p.ok W ∧ RB M W ∧ Below w.heap.size w W) := ⟨_, rfl⟩
 have stS : St S := by rw [hSd]; infer_instance
 have S0 : Hid (∀ W, S W → Row W C 194 (JW p M)) := by show ∀ W, _; rw [hSd]; exact fun W h => h.1
 have S6 : Hid (∀ W, S W → Row W X 85 (Nd.cells ⟨tag, nn⟩).toArray) := by show ∀ W, _; rw [hSd]; exact fun W h => h.2.1
 have S1 : Hid (∀ W, S W → Rd W KA (Qi (JC pos))) := by show ∀ W, _; rw [hSd]; exact fun W h => h.2.2.1
 have S2 : Hid (∀ W, S W → p.ok W) := by show ∀ W, _; rw [hSd]; exact fun W h => h.2.2.2.1
 have S5 : Hid (∀ W, S W → RB M W) := by show ∀ W, _; rw [hSd]; exact fun W h => h.2.2.2.2.1
 have S4 : Hid (∀ W, S W → Below w.heap.size w W) := by show ∀ W, _; rw [hSd]; exact fun W h => h.2.2.2.2.2
 have hS : S W := by rw [hSd]; exact ⟨rC, r4, hkr, Hok5.out, Hrb5.out, b5⟩
 obtain ⟨es, hes, her, hek⟩ := Hrb5.out.ex
 have Hes := Lh hes
 clear hown c2 Hok4 Hrb4 b4 hSd rC r4 hkr Hok5 Hrb5 b5
 by_cases h20 : tag = 20
 · have Htag20 := Lh h20
   have hno : Ji tag es = none := Yc (fun h => ((hek tag).1 h).2.2 h20)
   have Hv := Lh hno
   clear her hek hno hes h20
   go_wp2_with (first
    | (refine QW rfl _ _ rfl Tryz.underlying191 Tryz.underlying3 Hes.out rfl tag rfl (z := .nilIface) rfl ?_; rw [Hv.out, Option.getD_none])
    | (refine QH rfl 25 _ rfl ⟨C, 0, none⟩ rfl p.cells.toList _ (Z7 (S0.out _ hS)) Tryz.underlying25 rfl (by kernel_rfl) ?_; rw [Array.toArray_toList])
    | (refine wpList_load_row rfl 85 _ rfl X rfl 85 (Nd.cells ⟨tag, nn⟩).toArray (0, 0) _ (S6.out _ hS) Tryz.underlying85 rfl (by kernel_rfl) ?_))
   refine (AeK p ⟨tag, nn⟩ pos.length Hpm.out W).mono ?_
   rintro e W2 ⟨WA, wcap, rfl, hwr, b6⟩
   have hS := stS.go hS b6
   obtain ⟨iv, hivd⟩ : ∃ iv : Int, iv = 2 := ⟨2, rfl⟩
   have hiv : isZ p.V ⟨tag, nn⟩ = iv := by rw [hivd, Htag20.out]; exact (Aaa 0).1
   obtain ⟨want, hwantd⟩ : ∃ want : List Int, want = List.replicate pos.length 2 := ⟨_, rfl⟩
   have hwv : iv ≠ -1 → QM p.V ⟨tag, nn⟩ ks.length = want := fun _ => by rw [hwantd, Hpl.out, Htag20.out]; exact (Aaa (V := p.V) (n := nn) ks.length).2
   rw [← hwantd] at hwr ⊢
   rw [← hivd]
   clear hivd hwantd b6
   have Hz1 := Lh (Jk (V := p.V) (ks := ks) hiv hwv).1
   have Hz2 := Lh (Jk (V := p.V) (ks := ks) hiv hwv).2.1
   have Hz3 := Lh (Jk (V := p.V) (ks := ks) hiv hwv).2.2.1
   have Hz4 := Lh (Jk (V := p.V) (ks := ks) hiv hwv).2.2.2
   clear hiv hwv
   by_cases hm1 : iv = -1
   · have e1 : (iv == -1) = true := by simpa using hm1
     have hz := Lh (Hz1.out hm1)
     clear hm1
     go_wp2
     go_ret
     exact ⟨QK hz.out, S4.out _ hS⟩
   have e1 : (iv == -1) = false := by simpa using hm1
   have Hm1 := Lh hm1
   clear hm1
   by_cases hlen : want.length = ks.length
   rotate_left
   · have e2 : ((want.length : Int) != (pos.length : Int)) = true := by simp; have := Hpl.out; omega
     have hz := Lh (Hz2.out hlen)
     clear hlen
     go_wp2
     go_ret
     exact ⟨QK hz.out, S4.out _ hS⟩
   have e2 : ((want.length : Int) != (pos.length : Int)) = false := by simp; have := Hpl.out; omega
   have Hlen := Lh hlen
   clear hlen
   obtain ⟨T, hTd⟩ : ∃ T : World → Prop, T = (fun W => S W ∧ Rd W WA (Qi want)) := ⟨_, rfl⟩
   have stT : St T := by rw [hTd]; infer_instance
   have T0 : Hid (∀ W, T W → S W) := by show ∀ W, _; rw [hTd]; exact fun W h => h.1
   have T1 : Hid (∀ W, T W → Rd W WA (Qi want)) := by show ∀ W, _; rw [hTd]; exact fun W h => h.2
   have hT : T W2 := by rw [hTd]; exact ⟨hS, hwr⟩
   have TC : Hid (∀ W, T W → Row W C 194 (JW p M)) := by show ∀ W, _; exact fun W h => S0.out _ (T0.out _ h)
   clear hTd hS hwr
   go_wp2
   go_loopw [54] (fun i wr => ∃ k : Nat, i = .int .i64 (k : Int) ∧ k ≤ pos.length ∧ T wr ∧ Hid (VE p.V (Q4 ⟨tag, nn⟩) ks want k)) (fun i _ => pos.length - (intOf i).toNat)
   case atStart => exact ⟨0, rfl, Nat.zero_le _, hT, Lh (fun j _ _ hj => by omega)⟩
   case round =>
    clear hT
    obtain ⟨k, rfl, hk, hTr, hall⟩ := hrel
    by_cases hlt : k < pos.length
    · obtain ⟨q', hq⟩ : ∃ q, pos[k]? = some q := ⟨_, List.getElem?_eq_getElem hlt⟩
      obtain ⟨kt, hkt⟩ : ∃ kt, ks[k]? = some kt := ⟨_, List.getElem?_eq_getElem (by rw [← Hpl.out]; exact hlt)⟩
      obtain ⟨u, hu⟩ : ∃ u, want[k]? = some u := ⟨_, List.getElem?_eq_getElem (by rw [Hlen.out, ← Hpl.out]; exact hlt)⟩
      obtain ⟨hatk, hcall⟩ := Hof.out k q' kt hq hkt
      have call := Lh hcall
      have Hatk := Lh hatk
      obtain ⟨kd, hkd, hckd⟩ := Zf (l := JC pos) (S1.out _ (T0.out _ hTr)) (k := k) (x := (q' : Int)) (by simp [JC, hq])
      obtain ⟨wd, hwd, _⟩ := Zf (l := want) (T1.out _ hTr) (k := k) (x := u) hu
      subst hkd hwd
      have hcu : Hid (∀ W, T W → W.cell? (wd.add k) = some (.int .i64 u)) := by
       show ∀ W, _
       intro W hW
       obtain ⟨ad', e, h⟩ := Zf (l := want) (T1.out _ hW) (k := k) (x := u) hu
       injection e with e; subst e; exact h
      have hkI : (k : Int) < (pos.length : Int) := by omega
      have hkW : (k : Int) < (want.length : Int) := by have := Hlen.out; have := Hpl.out; omega
      have hqb : (q' : Int) < (p.body.length : Int) := by have := hatk.lt; omega
      have Hkt := Lh hkt
      have Hu := Lh hu
      have hpm' := Hpm.out
      clear hq hkt hu hlt hcall hatk
      go_wp2_with fail
      refine ZX T (by kernel_rfl) (by kernel_rfl) (St.drew hTr) ?_
      clear hTr hckd
      (refine QO rfl 194 _ rfl (C) rfl 194 _ _ TC.out Tryz.underlying194 rfl (by kernel_rfl) ?_; simp only [Act.put, Qa, Qb, Qc])
      iterate 1 (refine Qg rfl ?_ (fun W hW => ?_) ?_; rotate_left; (focus (go_simp; exact rfl)); simp only [Act.put, Qa, Qb, Qc])
      (refine QE rfl 128 _ (fun W => by (go_simp; try rfl)) _ (fun W hW => call.out W (S2.out _ (T0.out _ hW)) (S5.out _ (T0.out _ hW))) ?_; simp only [Act.put, Qa, Qb, Qc])
      iterate 3 (refine Qg rfl ?_ (fun W hW => ?_) ?_; rotate_left; (focus (go_simp; exact rfl)); simp only [Act.put, Qa, Qb, Qc])
      (refine Qg rfl ?_ (fun W hW => ?_) ?_; rotate_left; (focus (have c := hcu.out W hW; go_simp; exact rfl)); simp only [Act.put, Qa, Qb, Qc])
      iterate 1 (refine Qg rfl ?_ (fun W hW => ?_) ?_; rotate_left; (focus (go_simp; exact rfl)); simp only [Act.put, Qa, Qb, Qc])
      refine QV fun W hW => ?_
      by_cases he : ofT p.V kt = u
      rotate_left
      · have he' : (ofT p.V kt != u) = true := by simpa using he
        have hz := Lh (Hz4.out (ZL Hlen.out Hkt.out Hu.out (fun h => he h.1)) Hlen.out)
        clear he
        go_wp2
        go_ret
        exact ⟨QK hz.out, S4.out _ (T0.out _ hW)⟩
      have he' : (ofT p.V kt != u) = false := by simpa using he
      have He := Lh he
      have rX := S6.out _ (T0.out _ hW)
      have cXt := rX.cellv (i := 0) (v := .int .i64 tag) rfl
      have rC' := TC.out _ hW
      have cC2 := rC'.cellv (i := 2) (v := .slice p.ba p.body.length p.bcap) rfl
      obtain ⟨bd, hbd, hcx⟩ := Jq (S2.out _ (T0.out _ hW)).brd Hatk.out.root
      have hc0 := hcx 0 (.int .i64 kt.root.tag) rfl
      rw [show (bd.add (q' * 2)).add 0 = bd.add (q' * 2) by rw [JG]; simp] at hc0
      rw [hbd] at cC2
      clear he rX rC' hcx hbd
      by_cases hin : Q4 ⟨tag, nn⟩ = true
      · have hin' : tag = 23 ∨ tag = 24 := by simpa [Q4] using hin
        have Hin := Lh hin
        clear hin
        by_cases hk0 : k = 0
        · have hst := Lh (Zz hall.out Hkt.out Hu.out He.out (fun _ h => by omega))
          subst hk0
          have e0 : decide (((0 : Nat) : Int) < ((0 : Nat) : Int)) = false := by simp
          rcases hin' with rfl | rfl
          all_goals
           go_wp2
           go_roundw
           case rel => exact ⟨0 + 1, by go_num, by omega, hW, hst⟩
           case measure => simp [intOf]; omega
        · have hk0' : 0 < (k : Int) := by omega
          by_cases hb : kt.root.tag = 20
          · have hb' : (kt.root.tag != 20) = false := by simp [hb]
            have hst := Lh (Zz hall.out Hkt.out Hu.out He.out (fun _ _ => hb))
            clear hb hk0
            rcases hin' with rfl | rfl
            all_goals
             go_wp2
             go_roundw
             case rel => exact ⟨k + 1, by go_num, by omega, hW, hst⟩
             case measure => simp [intOf]; omega
          · have hb' : (kt.root.tag != 20) = true := by simpa using hb
            have hz := Lh (Hz4.out (ZL Hlen.out Hkt.out Hu.out (fun h => hb (h.2 Hin.out (by omega)))) Hlen.out)
            clear hb hk0
            rcases hin' with rfl | rfl
            all_goals
             go_wp2
             go_ret
             exact ⟨QK hz.out, S4.out _ (T0.out _ hW)⟩
      · have hst := Lh (Zz hall.out Hkt.out Hu.out He.out (fun h _ => absurd h hin))
        have h23 : (tag == 23) = false := by simp [Q4] at hin; simp [hin.1]
        have h24 : (tag == 24) = false := by simp [Q4] at hin; simp [hin.2]
        clear hin
        go_wp2
        go_roundw
        case rel => exact ⟨k + 1, by go_num, by omega, hW, hst⟩
        case measure => simp [intOf]; omega
    · have hge : (pos.length : Int) ≤ (k : Int) := by omega
      have hz := Lh (Hz3.out Hm1.out Hlen.out (X9 Hlen.out (by have := Hpl.out; omega) hall.out))
      clear hlt
      go_wp2
      go_ret
      exact ⟨QK hz.out, S4.out _ (T0.out _ hTr)⟩
 · obtain ⟨v, hv⟩ := U4 ((hek tag).2 ⟨Htag.out.1, Htag.out.2, h20⟩)
   have hrv := her _ (EM hv)
   have Hv := Lh hv
   clear her hek hv hes
   cases hrv with
   | plain is A m cap want hc hn hr =>
    obtain ⟨hiv0, hwv0⟩ := Ae2 (V := p.V) (n := nn) hc ks.length
    have Hiv := Lh hiv0
    have Hwv := Lh hwv0
    have Hr := Lh hr
    subst hn
    have g1 : ∀ w, (binOp .neq 263 (.iface 257 (.agg #[.slice A want.length cap, .int .i64 is])) .nilIface).run Tryz.prog w = .ok (.bool true) w := fun _ => by kernel_rfl
    have gm := AdC (A := A) (m := want.length) (cap := cap) (is := is)
    clear hc hr hiv0 hwv0
    go_wp2_with (first
     | (refine QW rfl _ _ rfl Tryz.underlying191 Tryz.underlying3 Hes.out rfl tag rfl (z := .nilIface) rfl ?_; rw [Hv.out, Option.getD_some])
     | (refine QH rfl 25 _ rfl ⟨C, 0, none⟩ rfl p.cells.toList _ (Z7 (S0.out _ hS)) Tryz.underlying25 rfl (by kernel_rfl) ?_; rw [Array.toArray_toList])
     | (refine wpList_load_row rfl 85 _ rfl X rfl 85 (Nd.cells ⟨tag, nn⟩).toArray (0, 0) _ (S6.out _ hS) Tryz.underlying85 rfl (by kernel_rfl) ?_))
    refine (EA A want.length cap is p ⟨tag, nn⟩ W).mono ?_
    rintro e W1 ⟨rfl, b6⟩
    have Hr := Lh (Hr.out.go b6)
    have hS := stS.go hS b6
    clear b6 gm g1
    go_wp2_with (first
     | (refine QW rfl _ _ rfl Tryz.underlying191 Tryz.underlying3 Hes.out rfl tag rfl (z := .nilIface) rfl ?_; rw [Hv.out, Option.getD_some])
     | (refine QH rfl 25 _ rfl ⟨C, 0, none⟩ rfl p.cells.toList _ (Z7 (S0.out _ hS)) Tryz.underlying25 rfl (by kernel_rfl) ?_; rw [Array.toArray_toList])
     | (refine wpList_load_row rfl 85 _ rfl X rfl 85 (Nd.cells ⟨tag, nn⟩).toArray (0, 0) _ (S6.out _ hS) Tryz.underlying85 rfl (by kernel_rfl) ?_))
    refine (Abu A want.length cap is p ⟨tag, nn⟩ _ W1).mono ?_
    rintro e W2 ⟨rfl, b7⟩
    have hwr := Hr.out.go b7
    have hS := stS.go hS b7
    obtain ⟨iv, hivd⟩ : ∃ iv : Int, iv = is := ⟨_, rfl⟩
    obtain ⟨WA, hWA⟩ : ∃ WA, WA = A := ⟨_, rfl⟩
    have hiv : isZ p.V ⟨tag, nn⟩ = iv := by rw [hivd]; exact Hiv.out
    have hwv : iv ≠ -1 → QM p.V ⟨tag, nn⟩ ks.length = want := fun _ => Hwv.out
    rw [← hivd, ← hWA]
    rw [← hWA] at hwr
    clear b7 hivd hWA
    have Hz1 := Lh (Jk (V := p.V) (ks := ks) hiv hwv).1
    have Hz2 := Lh (Jk (V := p.V) (ks := ks) hiv hwv).2.1
    have Hz3 := Lh (Jk (V := p.V) (ks := ks) hiv hwv).2.2.1
    have Hz4 := Lh (Jk (V := p.V) (ks := ks) hiv hwv).2.2.2
    clear hiv hwv
    by_cases hm1 : iv = -1
    · have e1 : (iv == -1) = true := by simpa using hm1
      have hz := Lh (Hz1.out hm1)
      clear hm1
      go_wp2
      go_ret
      exact ⟨QK hz.out, S4.out _ hS⟩
    have e1 : (iv == -1) = false := by simpa using hm1
    have Hm1 := Lh hm1
    clear hm1
    by_cases hlen : want.length = ks.length
    rotate_left
    · have e2 : ((want.length : Int) != (pos.length : Int)) = true := by simp; have := Hpl.out; omega
      have hz := Lh (Hz2.out hlen)
      clear hlen
      go_wp2
      go_ret
      exact ⟨QK hz.out, S4.out _ hS⟩
    have e2 : ((want.length : Int) != (pos.length : Int)) = false := by simp; have := Hpl.out; omega
    have Hlen := Lh hlen
    clear hlen
    obtain ⟨T, hTd⟩ : ∃ T : World → Prop, T = (fun W => S W ∧ Rd W WA (Qi want)) := ⟨_, rfl⟩
    have stT : St T := by rw [hTd]; infer_instance
    have T0 : Hid (∀ W, T W → S W) := by show ∀ W, _; rw [hTd]; exact fun W h => h.1
    have T1 : Hid (∀ W, T W → Rd W WA (Qi want)) := by show ∀ W, _; rw [hTd]; exact fun W h => h.2
    have hT : T W2 := by rw [hTd]; exact ⟨hS, hwr⟩
    have TC : Hid (∀ W, T W → Row W C 194 (JW p M)) := by show ∀ W, _; exact fun W h => S0.out _ (T0.out _ h)
    clear hTd hS hwr
    go_wp2
    go_loopw [54] (fun i wr => ∃ k : Nat, i = .int .i64 (k : Int) ∧ k ≤ pos.length ∧ T wr ∧ Hid (VE p.V (Q4 ⟨tag, nn⟩) ks want k)) (fun i _ => pos.length - (intOf i).toNat)
    case atStart => exact ⟨0, rfl, Nat.zero_le _, hT, Lh (fun j _ _ hj => by omega)⟩
    case round =>
     clear hT
     obtain ⟨k, rfl, hk, hTr, hall⟩ := hrel
     by_cases hlt : k < pos.length
     · obtain ⟨q', hq⟩ : ∃ q, pos[k]? = some q := ⟨_, List.getElem?_eq_getElem hlt⟩
       obtain ⟨kt, hkt⟩ : ∃ kt, ks[k]? = some kt := ⟨_, List.getElem?_eq_getElem (by rw [← Hpl.out]; exact hlt)⟩
       obtain ⟨u, hu⟩ : ∃ u, want[k]? = some u := ⟨_, List.getElem?_eq_getElem (by rw [Hlen.out, ← Hpl.out]; exact hlt)⟩
       obtain ⟨hatk, hcall⟩ := Hof.out k q' kt hq hkt
       have call := Lh hcall
       have Hatk := Lh hatk
       obtain ⟨kd, hkd, hckd⟩ := Zf (l := JC pos) (S1.out _ (T0.out _ hTr)) (k := k) (x := (q' : Int)) (by simp [JC, hq])
       obtain ⟨wd, hwd, _⟩ := Zf (l := want) (T1.out _ hTr) (k := k) (x := u) hu
       subst hkd hwd
       have hcu : Hid (∀ W, T W → W.cell? (wd.add k) = some (.int .i64 u)) := by
        show ∀ W, _
        intro W hW
        obtain ⟨ad', e, h⟩ := Zf (l := want) (T1.out _ hW) (k := k) (x := u) hu
        injection e with e; subst e; exact h
       have hkI : (k : Int) < (pos.length : Int) := by omega
       have hkW : (k : Int) < (want.length : Int) := by have := Hlen.out; have := Hpl.out; omega
       have hqb : (q' : Int) < (p.body.length : Int) := by have := hatk.lt; omega
       have Hkt := Lh hkt
       have Hu := Lh hu
       have hpm' := Hpm.out
       clear hq hkt hu hlt hcall hatk
       go_wp2_with fail
       refine ZX T (by kernel_rfl) (by kernel_rfl) (St.drew hTr) ?_
       clear hTr hckd
       (refine QO rfl 194 _ rfl (C) rfl 194 _ _ TC.out Tryz.underlying194 rfl (by kernel_rfl) ?_; simp only [Act.put, Qa, Qb, Qc])
       iterate 1 (refine Qg rfl ?_ (fun W hW => ?_) ?_; rotate_left; (focus (go_simp; exact rfl)); simp only [Act.put, Qa, Qb, Qc])
       (refine QE rfl 128 _ (fun W => by (go_simp; try rfl)) _ (fun W hW => call.out W (S2.out _ (T0.out _ hW)) (S5.out _ (T0.out _ hW))) ?_; simp only [Act.put, Qa, Qb, Qc])
       iterate 3 (refine Qg rfl ?_ (fun W hW => ?_) ?_; rotate_left; (focus (go_simp; exact rfl)); simp only [Act.put, Qa, Qb, Qc])
       (refine Qg rfl ?_ (fun W hW => ?_) ?_; rotate_left; (focus (have c := hcu.out W hW; go_simp; exact rfl)); simp only [Act.put, Qa, Qb, Qc])
       iterate 1 (refine Qg rfl ?_ (fun W hW => ?_) ?_; rotate_left; (focus (go_simp; exact rfl)); simp only [Act.put, Qa, Qb, Qc])
       refine QV fun W hW => ?_
       by_cases he : ofT p.V kt = u
       rotate_left
       · have he' : (ofT p.V kt != u) = true := by simpa using he
         have hz := Lh (Hz4.out (ZL Hlen.out Hkt.out Hu.out (fun h => he h.1)) Hlen.out)
         clear he
         go_wp2
         go_ret
         exact ⟨QK hz.out, S4.out _ (T0.out _ hW)⟩
       have he' : (ofT p.V kt != u) = false := by simpa using he
       have He := Lh he
       have rX := S6.out _ (T0.out _ hW)
       have cXt := rX.cellv (i := 0) (v := .int .i64 tag) rfl
       have rC' := TC.out _ hW
       have cC2 := rC'.cellv (i := 2) (v := .slice p.ba p.body.length p.bcap) rfl
       obtain ⟨bd, hbd, hcx⟩ := Jq (S2.out _ (T0.out _ hW)).brd Hatk.out.root
       have hc0 := hcx 0 (.int .i64 kt.root.tag) rfl
       rw [show (bd.add (q' * 2)).add 0 = bd.add (q' * 2) by rw [JG]; simp] at hc0
       rw [hbd] at cC2
       clear he rX rC' hcx hbd
       by_cases hin : Q4 ⟨tag, nn⟩ = true
       · have hin' : tag = 23 ∨ tag = 24 := by simpa [Q4] using hin
         have Hin := Lh hin
         clear hin
         by_cases hk0 : k = 0
         · have hst := Lh (Zz hall.out Hkt.out Hu.out He.out (fun _ h => by omega))
           subst hk0
           have e0 : decide (((0 : Nat) : Int) < ((0 : Nat) : Int)) = false := by simp
           rcases hin' with rfl | rfl
           all_goals
            go_wp2
            go_roundw
            case rel => exact ⟨0 + 1, by go_num, by omega, hW, hst⟩
            case measure => simp [intOf]; omega
         · have hk0' : 0 < (k : Int) := by omega
           by_cases hb : kt.root.tag = 20
           · have hb' : (kt.root.tag != 20) = false := by simp [hb]
             have hst := Lh (Zz hall.out Hkt.out Hu.out He.out (fun _ _ => hb))
             clear hb hk0
             rcases hin' with rfl | rfl
             all_goals
              go_wp2
              go_roundw
              case rel => exact ⟨k + 1, by go_num, by omega, hW, hst⟩
              case measure => simp [intOf]; omega
           · have hb' : (kt.root.tag != 20) = true := by simpa using hb
             have hz := Lh (Hz4.out (ZL Hlen.out Hkt.out Hu.out (fun h => hb (h.2 Hin.out (by omega)))) Hlen.out)
             clear hb hk0
             rcases hin' with rfl | rfl
             all_goals
              go_wp2
              go_ret
              exact ⟨QK hz.out, S4.out _ (T0.out _ hW)⟩
       · have hst := Lh (Zz hall.out Hkt.out Hu.out He.out (fun h _ => absurd h hin))
         have h23 : (tag == 23) = false := by simp [Q4] at hin; simp [hin.1]
         have h24 : (tag == 24) = false := by simp [Q4] at hin; simp [hin.2]
         clear hin
         go_wp2
         go_roundw
         case rel => exact ⟨k + 1, by go_num, by omega, hW, hst⟩
         case measure => simp [intOf]; omega
     · have hge : (pos.length : Int) ≤ (k : Int) := by omega
       have hz := Lh (Hz3.out Hm1.out Hlen.out (X9 Hlen.out (by have := Hpl.out; omega) hall.out))
       clear hlt
       go_wp2
       go_ret
       exact ⟨QK hz.out, S4.out _ (T0.out _ hTr)⟩
   | scalar b h =>
    obtain ⟨hiv0, hwv0⟩ := Adq (V := p.V) (n := nn) h ks.length
    have Hiv := Lh hiv0
    have Hwv := Lh hwv0
    have hnn : 0 ≤ nn := Hn0.out (by omega)
    have Hnn := Lh hnn
    have g1 : ∀ w, (binOp .neq 263 (.iface 259 (.agg #[.bool b])) .nilIface).run Tryz.prog w = .ok (.bool true) w := fun _ => by kernel_rfl
    have gm := Acj (b := b)
    clear h hiv0 hwv0 hnn
    go_wp2_with (first
     | (refine QW rfl _ _ rfl Tryz.underlying191 Tryz.underlying3 Hes.out rfl tag rfl (z := .nilIface) rfl ?_; rw [Hv.out, Option.getD_some])
     | (refine QH rfl 25 _ rfl ⟨C, 0, none⟩ rfl p.cells.toList _ (Z7 (S0.out _ hS)) Tryz.underlying25 rfl (by kernel_rfl) ?_; rw [Array.toArray_toList])
     | (refine wpList_load_row rfl 85 _ rfl X rfl 85 (Nd.cells ⟨tag, nn⟩).toArray (0, 0) _ (S6.out _ hS) Tryz.underlying85 rfl (by kernel_rfl) ?_))
    refine (Ed b p tag nn W (S2.out _ hS) Hnn.out).mono ?_
    rintro e W1 ⟨rfl, b6⟩
    have hS := stS.go hS b6
    clear b6 gm g1
    go_wp2_with (first
     | (refine QW rfl _ _ rfl Tryz.underlying191 Tryz.underlying3 Hes.out rfl tag rfl (z := .nilIface) rfl ?_; rw [Hv.out, Option.getD_some])
     | (refine QH rfl 25 _ rfl ⟨C, 0, none⟩ rfl p.cells.toList _ (Z7 (S0.out _ hS)) Tryz.underlying25 rfl (by kernel_rfl) ?_; rw [Array.toArray_toList])
     | (refine wpList_load_row rfl 85 _ rfl X rfl 85 (Nd.cells ⟨tag, nn⟩).toArray (0, 0) _ (S6.out _ hS) Tryz.underlying85 rfl (by kernel_rfl) ?_))
    refine (Aaw b p tag nn Hnn.out _ W1 (S2.out _ hS)).mono ?_
    rintro e W2 ⟨WA, wcap, rfl, hwr, b7⟩
    have hS := stS.go hS b7
    obtain ⟨iv, hivd⟩ : ∃ iv : Int, iv = Kt p.V nn b := ⟨_, rfl⟩
    obtain ⟨want, hwantd⟩ : ∃ want : List Int, want = JP p.V nn b := ⟨_, rfl⟩
    have hiv : isZ p.V ⟨tag, nn⟩ = iv := by rw [hivd]; exact Hiv.out
    have hwv : iv ≠ -1 → QM p.V ⟨tag, nn⟩ ks.length = want := fun h => by rw [hwantd]; exact Hwv.out (by rw [hiv]; exact h)
    rw [← hwantd] at hwr ⊢
    rw [← hivd]
    clear hivd hwantd b7
    have Hz1 := Lh (Jk (V := p.V) (ks := ks) hiv hwv).1
    have Hz2 := Lh (Jk (V := p.V) (ks := ks) hiv hwv).2.1
    have Hz3 := Lh (Jk (V := p.V) (ks := ks) hiv hwv).2.2.1
    have Hz4 := Lh (Jk (V := p.V) (ks := ks) hiv hwv).2.2.2
    clear hiv hwv
    by_cases hm1 : iv = -1
    · have e1 : (iv == -1) = true := by simpa using hm1
      have hz := Lh (Hz1.out hm1)
      clear hm1
      go_wp2
      go_ret
      exact ⟨QK hz.out, S4.out _ hS⟩
    have e1 : (iv == -1) = false := by simpa using hm1
    have Hm1 := Lh hm1
    clear hm1
    by_cases hlen : want.length = ks.length
    rotate_left
    · have e2 : ((want.length : Int) != (pos.length : Int)) = true := by simp; have := Hpl.out; omega
      have hz := Lh (Hz2.out hlen)
      clear hlen
      go_wp2
      go_ret
      exact ⟨QK hz.out, S4.out _ hS⟩
    have e2 : ((want.length : Int) != (pos.length : Int)) = false := by simp; have := Hpl.out; omega
    have Hlen := Lh hlen
    clear hlen
    obtain ⟨T, hTd⟩ : ∃ T : World → Prop, T = (fun W => S W ∧ Rd W WA (Qi want)) := ⟨_, rfl⟩
    have stT : St T := by rw [hTd]; infer_instance
    have T0 : Hid (∀ W, T W → S W) := by show ∀ W, _; rw [hTd]; exact fun W h => h.1
    have T1 : Hid (∀ W, T W → Rd W WA (Qi want)) := by show ∀ W, _; rw [hTd]; exact fun W h => h.2
    have hT : T W2 := by rw [hTd]; exact ⟨hS, hwr⟩
    have TC : Hid (∀ W, T W → Row W C 194 (JW p M)) := by show ∀ W, _; exact fun W h => S0.out _ (T0.out _ h)
    clear hTd hS hwr
    go_wp2
    go_loopw [54] (fun i wr => ∃ k : Nat, i = .int .i64 (k : Int) ∧ k ≤ pos.length ∧ T wr ∧ Hid (VE p.V (Q4 ⟨tag, nn⟩) ks want k)) (fun i _ => pos.length - (intOf i).toNat)
    case atStart => exact ⟨0, rfl, Nat.zero_le _, hT, Lh (fun j _ _ hj => by omega)⟩
    case round =>
     clear hT
     obtain ⟨k, rfl, hk, hTr, hall⟩ := hrel
     by_cases hlt : k < pos.length
     · obtain ⟨q', hq⟩ : ∃ q, pos[k]? = some q := ⟨_, List.getElem?_eq_getElem hlt⟩
       obtain ⟨kt, hkt⟩ : ∃ kt, ks[k]? = some kt := ⟨_, List.getElem?_eq_getElem (by rw [← Hpl.out]; exact hlt)⟩
       obtain ⟨u, hu⟩ : ∃ u, want[k]? = some u := ⟨_, List.getElem?_eq_getElem (by rw [Hlen.out, ← Hpl.out]; exact hlt)⟩
       obtain ⟨hatk, hcall⟩ := Hof.out k q' kt hq hkt
       have call := Lh hcall
       have Hatk := Lh hatk
       obtain ⟨kd, hkd, hckd⟩ := Zf (l := JC pos) (S1.out _ (T0.out _ hTr)) (k := k) (x := (q' : Int)) (by simp [JC, hq])
       obtain ⟨wd, hwd, _⟩ := Zf (l := want) (T1.out _ hTr) (k := k) (x := u) hu
       subst hkd hwd
       have hcu : Hid (∀ W, T W → W.cell? (wd.add k) = some (.int .i64 u)) := by
        show ∀ W, _
        intro W hW
        obtain ⟨ad', e, h⟩ := Zf (l := want) (T1.out _ hW) (k := k) (x := u) hu
        injection e with e; subst e; exact h
       have hkI : (k : Int) < (pos.length : Int) := by omega
       have hkW : (k : Int) < (want.length : Int) := by have := Hlen.out; have := Hpl.out; omega
       have hqb : (q' : Int) < (p.body.length : Int) := by have := hatk.lt; omega
       have Hkt := Lh hkt
       have Hu := Lh hu
       have hpm' := Hpm.out
       clear hq hkt hu hlt hcall hatk
       go_wp2_with fail
       refine ZX T (by kernel_rfl) (by kernel_rfl) (St.drew hTr) ?_
       clear hTr hckd
       (refine QO rfl 194 _ rfl (C) rfl 194 _ _ TC.out Tryz.underlying194 rfl (by kernel_rfl) ?_; simp only [Act.put, Qa, Qb, Qc])
       iterate 1 (refine Qg rfl ?_ (fun W hW => ?_) ?_; rotate_left; (focus (go_simp; exact rfl)); simp only [Act.put, Qa, Qb, Qc])
       (refine QE rfl 128 _ (fun W => by (go_simp; try rfl)) _ (fun W hW => call.out W (S2.out _ (T0.out _ hW)) (S5.out _ (T0.out _ hW))) ?_; simp only [Act.put, Qa, Qb, Qc])
       iterate 3 (refine Qg rfl ?_ (fun W hW => ?_) ?_; rotate_left; (focus (go_simp; exact rfl)); simp only [Act.put, Qa, Qb, Qc])
       (refine Qg rfl ?_ (fun W hW => ?_) ?_; rotate_left; (focus (have c := hcu.out W hW; go_simp; exact rfl)); simp only [Act.put, Qa, Qb, Qc])
       iterate 1 (refine Qg rfl ?_ (fun W hW => ?_) ?_; rotate_left; (focus (go_simp; exact rfl)); simp only [Act.put, Qa, Qb, Qc])
       refine QV fun W hW => ?_
       by_cases he : ofT p.V kt = u
       rotate_left
       · have he' : (ofT p.V kt != u) = true := by simpa using he
         have hz := Lh (Hz4.out (ZL Hlen.out Hkt.out Hu.out (fun h => he h.1)) Hlen.out)
         clear he
         go_wp2
         go_ret
         exact ⟨QK hz.out, S4.out _ (T0.out _ hW)⟩
       have he' : (ofT p.V kt != u) = false := by simpa using he
       have He := Lh he
       have rX := S6.out _ (T0.out _ hW)
       have cXt := rX.cellv (i := 0) (v := .int .i64 tag) rfl
       have rC' := TC.out _ hW
       have cC2 := rC'.cellv (i := 2) (v := .slice p.ba p.body.length p.bcap) rfl
       obtain ⟨bd, hbd, hcx⟩ := Jq (S2.out _ (T0.out _ hW)).brd Hatk.out.root
       have hc0 := hcx 0 (.int .i64 kt.root.tag) rfl
       rw [show (bd.add (q' * 2)).add 0 = bd.add (q' * 2) by rw [JG]; simp] at hc0
       rw [hbd] at cC2
       clear he rX rC' hcx hbd
       by_cases hin : Q4 ⟨tag, nn⟩ = true
       · have hin' : tag = 23 ∨ tag = 24 := by simpa [Q4] using hin
         have Hin := Lh hin
         clear hin
         by_cases hk0 : k = 0
         · have hst := Lh (Zz hall.out Hkt.out Hu.out He.out (fun _ h => by omega))
           subst hk0
           have e0 : decide (((0 : Nat) : Int) < ((0 : Nat) : Int)) = false := by simp
           rcases hin' with rfl | rfl
           all_goals
            go_wp2
            go_roundw
            case rel => exact ⟨0 + 1, by go_num, by omega, hW, hst⟩
            case measure => simp [intOf]; omega
         · have hk0' : 0 < (k : Int) := by omega
           by_cases hb : kt.root.tag = 20
           · have hb' : (kt.root.tag != 20) = false := by simp [hb]
             have hst := Lh (Zz hall.out Hkt.out Hu.out He.out (fun _ _ => hb))
             clear hb hk0
             rcases hin' with rfl | rfl
             all_goals
              go_wp2
              go_roundw
              case rel => exact ⟨k + 1, by go_num, by omega, hW, hst⟩
              case measure => simp [intOf]; omega
           · have hb' : (kt.root.tag != 20) = true := by simpa using hb
             have hz := Lh (Hz4.out (ZL Hlen.out Hkt.out Hu.out (fun h => hb (h.2 Hin.out (by omega)))) Hlen.out)
             clear hb hk0
             rcases hin' with rfl | rfl
             all_goals
              go_wp2
              go_ret
              exact ⟨QK hz.out, S4.out _ (T0.out _ hW)⟩
       · have hst := Lh (Zz hall.out Hkt.out Hu.out He.out (fun h _ => absurd h hin))
         have h23 : (tag == 23) = false := by simp [Q4] at hin; simp [hin.1]
         have h24 : (tag == 24) = false := by simp [Q4] at hin; simp [hin.2]
         clear hin
         go_wp2
         go_roundw
         case rel => exact ⟨k + 1, by go_num, by omega, hW, hst⟩
         case measure => simp [intOf]; omega
     · have hge : (pos.length : Int) ≤ (k : Int) := by omega
       have hz := Lh (Hz3.out Hm1.out Hlen.out (X9 Hlen.out (by have := Hpl.out; omega) hall.out))
       clear hlt
       go_wp2
       go_ret
       exact ⟨QK hz.out, S4.out _ (T0.out _ hTr)⟩
   | array is A m cap want hc hn hr =>
    obtain ⟨hiv0, hwv0⟩ := Ahu (V := p.V) (n := nn) hc ks.length
    have Hiv := Lh hiv0
    have Hwv := Lh hwv0
    have Hr := Lh hr
    have hnn : 0 ≤ nn := Hn0.out (fun e => by subst e; simp [Ag6] at hc)
    have Hnn := Lh hnn
    subst hn
    have g1 : ∀ w, (binOp .neq 263 (.iface 261 (.agg #[.slice A want.length cap, .int .i64 is])) .nilIface).run Tryz.prog w = .ok (.bool true) w := fun _ => by kernel_rfl
    have gm := AdB (A := A) (m := want.length) (cap := cap) (is := is)
    clear hc hr hiv0 hwv0 hnn
    go_wp2_with (first
     | (refine QW rfl _ _ rfl Tryz.underlying191 Tryz.underlying3 Hes.out rfl tag rfl (z := .nilIface) rfl ?_; rw [Hv.out, Option.getD_some])
     | (refine QH rfl 25 _ rfl ⟨C, 0, none⟩ rfl p.cells.toList _ (Z7 (S0.out _ hS)) Tryz.underlying25 rfl (by kernel_rfl) ?_; rw [Array.toArray_toList])
     | (refine wpList_load_row rfl 85 _ rfl X rfl 85 (Nd.cells ⟨tag, nn⟩).toArray (0, 0) _ (S6.out _ hS) Tryz.underlying85 rfl (by kernel_rfl) ?_))
    refine (Es A want.length cap is p tag nn W (S2.out _ hS) Hnn.out).mono ?_
    rintro e W1 ⟨rfl, b6⟩
    have Hr := Lh (Hr.out.go b6)
    have hS := stS.go hS b6
    clear b6 gm g1
    go_wp2_with (first
     | (refine QW rfl _ _ rfl Tryz.underlying191 Tryz.underlying3 Hes.out rfl tag rfl (z := .nilIface) rfl ?_; rw [Hv.out, Option.getD_some])
     | (refine QH rfl 25 _ rfl ⟨C, 0, none⟩ rfl p.cells.toList _ (Z7 (S0.out _ hS)) Tryz.underlying25 rfl (by kernel_rfl) ?_; rw [Array.toArray_toList])
     | (refine wpList_load_row rfl 85 _ rfl X rfl 85 (Nd.cells ⟨tag, nn⟩).toArray (0, 0) _ (S6.out _ hS) Tryz.underlying85 rfl (by kernel_rfl) ?_))
    refine (Abt A want.length cap is p ⟨tag, nn⟩ _ W1).mono ?_
    rintro e W2 ⟨rfl, b7⟩
    have hwr := Hr.out.go b7
    have hS := stS.go hS b7
    obtain ⟨iv, hivd⟩ : ∃ iv : Int, iv = Xp p.V nn is := ⟨_, rfl⟩
    obtain ⟨WA, hWA⟩ : ∃ WA, WA = A := ⟨_, rfl⟩
    have hiv : isZ p.V ⟨tag, nn⟩ = iv := by rw [hivd]; exact Hiv.out
    have hwv : iv ≠ -1 → QM p.V ⟨tag, nn⟩ ks.length = want := fun _ => Hwv.out
    rw [← hivd, ← hWA]
    rw [← hWA] at hwr
    clear b7 hivd hWA
    have Hz1 := Lh (Jk (V := p.V) (ks := ks) hiv hwv).1
    have Hz2 := Lh (Jk (V := p.V) (ks := ks) hiv hwv).2.1
    have Hz3 := Lh (Jk (V := p.V) (ks := ks) hiv hwv).2.2.1
    have Hz4 := Lh (Jk (V := p.V) (ks := ks) hiv hwv).2.2.2
    clear hiv hwv
    by_cases hm1 : iv = -1
    · have e1 : (iv == -1) = true := by simpa using hm1
      have hz := Lh (Hz1.out hm1)
      clear hm1
      go_wp2
      go_ret
      exact ⟨QK hz.out, S4.out _ hS⟩
    have e1 : (iv == -1) = false := by simpa using hm1
    have Hm1 := Lh hm1
    clear hm1
    by_cases hlen : want.length = ks.length
    rotate_left
    · have e2 : ((want.length : Int) != (pos.length : Int)) = true := by simp; have := Hpl.out; omega
      have hz := Lh (Hz2.out hlen)
      clear hlen
      go_wp2
      go_ret
      exact ⟨QK hz.out, S4.out _ hS⟩
    have e2 : ((want.length : Int) != (pos.length : Int)) = false := by simp; have := Hpl.out; omega
    have Hlen := Lh hlen
    clear hlen
    obtain ⟨T, hTd⟩ : ∃ T : World → Prop, T = (fun W => S W ∧ Rd W WA (Qi want)) := ⟨_, rfl⟩
    have stT : St T := by rw [hTd]; infer_instance
    have T0 : Hid (∀ W, T W → S W) := by show ∀ W, _; rw [hTd]; exact fun W h => h.1
    have T1 : Hid (∀ W, T W → Rd W WA (Qi want)) := by show ∀ W, _; rw [hTd]; exact fun W h => h.2
    have hT : T W2 := by rw [hTd]; exact ⟨hS, hwr⟩
    have TC : Hid (∀ W, T W → Row W C 194 (JW p M)) := by show ∀ W, _; exact fun W h => S0.out _ (T0.out _ h)
    clear hTd hS hwr
    go_wp2
    go_loopw [54] (fun i wr => ∃ k : Nat, i = .int .i64 (k : Int) ∧ k ≤ pos.length ∧ T wr ∧ Hid (VE p.V (Q4 ⟨tag, nn⟩) ks want k)) (fun i _ => pos.length - (intOf i).toNat)
    case atStart => exact ⟨0, rfl, Nat.zero_le _, hT, Lh (fun j _ _ hj => by omega)⟩
    case round =>
     clear hT
     obtain ⟨k, rfl, hk, hTr, hall⟩ := hrel
     by_cases hlt : k < pos.length
     · obtain ⟨q', hq⟩ : ∃ q, pos[k]? = some q := ⟨_, List.getElem?_eq_getElem hlt⟩
       obtain ⟨kt, hkt⟩ : ∃ kt, ks[k]? = some kt := ⟨_, List.getElem?_eq_getElem (by rw [← Hpl.out]; exact hlt)⟩
       obtain ⟨u, hu⟩ : ∃ u, want[k]? = some u := ⟨_, List.getElem?_eq_getElem (by rw [Hlen.out, ← Hpl.out]; exact hlt)⟩
       obtain ⟨hatk, hcall⟩ := Hof.out k q' kt hq hkt
       have call := Lh hcall
       have Hatk := Lh hatk
       obtain ⟨kd, hkd, hckd⟩ := Zf (l := JC pos) (S1.out _ (T0.out _ hTr)) (k := k) (x := (q' : Int)) (by simp [JC, hq])
       obtain ⟨wd, hwd, _⟩ := Zf (l := want) (T1.out _ hTr) (k := k) (x := u) hu
       subst hkd hwd
       have hcu : Hid (∀ W, T W → W.cell? (wd.add k) = some (.int .i64 u)) := by
        show ∀ W, _
        intro W hW
        obtain ⟨ad', e, h⟩ := Zf (l := want) (T1.out _ hW) (k := k) (x := u) hu
        injection e with e; subst e; exact h
       have hkI : (k : Int) < (pos.length : Int) := by omega
       have hkW : (k : Int) < (want.length : Int) := by have := Hlen.out; have := Hpl.out; omega
       have hqb : (q' : Int) < (p.body.length : Int) := by have := hatk.lt; omega
       have Hkt := Lh hkt
       have Hu := Lh hu
       have hpm' := Hpm.out
       clear hq hkt hu hlt hcall hatk
       go_wp2_with fail
       refine ZX T (by kernel_rfl) (by kernel_rfl) (St.drew hTr) ?_
       clear hTr hckd
       (refine QO rfl 194 _ rfl (C) rfl 194 _ _ TC.out Tryz.underlying194 rfl (by kernel_rfl) ?_; simp only [Act.put, Qa, Qb, Qc])
       iterate 1 (refine Qg rfl ?_ (fun W hW => ?_) ?_; rotate_left; (focus (go_simp; exact rfl)); simp only [Act.put, Qa, Qb, Qc])
       (refine QE rfl 128 _ (fun W => by (go_simp; try rfl)) _ (fun W hW => call.out W (S2.out _ (T0.out _ hW)) (S5.out _ (T0.out _ hW))) ?_; simp only [Act.put, Qa, Qb, Qc])
       iterate 3 (refine Qg rfl ?_ (fun W hW => ?_) ?_; rotate_left; (focus (go_simp; exact rfl)); simp only [Act.put, Qa, Qb, Qc])
       (refine Qg rfl ?_ (fun W hW => ?_) ?_; rotate_left; (focus (have c := hcu.out W hW; go_simp; exact rfl)); simp only [Act.put, Qa, Qb, Qc])
       iterate 1 (refine Qg rfl ?_ (fun W hW => ?_) ?_; rotate_left; (focus (go_simp; exact rfl)); simp only [Act.put, Qa, Qb, Qc])
       refine QV fun W hW => ?_
       by_cases he : ofT p.V kt = u
       rotate_left
       · have he' : (ofT p.V kt != u) = true := by simpa using he
         have hz := Lh (Hz4.out (ZL Hlen.out Hkt.out Hu.out (fun h => he h.1)) Hlen.out)
         clear he
         go_wp2
         go_ret
         exact ⟨QK hz.out, S4.out _ (T0.out _ hW)⟩
       have he' : (ofT p.V kt != u) = false := by simpa using he
       have He := Lh he
       have rX := S6.out _ (T0.out _ hW)
       have cXt := rX.cellv (i := 0) (v := .int .i64 tag) rfl
       have rC' := TC.out _ hW
       have cC2 := rC'.cellv (i := 2) (v := .slice p.ba p.body.length p.bcap) rfl
       obtain ⟨bd, hbd, hcx⟩ := Jq (S2.out _ (T0.out _ hW)).brd Hatk.out.root
       have hc0 := hcx 0 (.int .i64 kt.root.tag) rfl
       rw [show (bd.add (q' * 2)).add 0 = bd.add (q' * 2) by rw [JG]; simp] at hc0
       rw [hbd] at cC2
       clear he rX rC' hcx hbd
       by_cases hin : Q4 ⟨tag, nn⟩ = true
       · have hin' : tag = 23 ∨ tag = 24 := by simpa [Q4] using hin
         have Hin := Lh hin
         clear hin
         by_cases hk0 : k = 0
         · have hst := Lh (Zz hall.out Hkt.out Hu.out He.out (fun _ h => by omega))
           subst hk0
           have e0 : decide (((0 : Nat) : Int) < ((0 : Nat) : Int)) = false := by simp
           rcases hin' with rfl | rfl
           all_goals
            go_wp2
            go_roundw
            case rel => exact ⟨0 + 1, by go_num, by omega, hW, hst⟩
            case measure => simp [intOf]; omega
         · have hk0' : 0 < (k : Int) := by omega
           by_cases hb : kt.root.tag = 20
           · have hb' : (kt.root.tag != 20) = false := by simp [hb]
             have hst := Lh (Zz hall.out Hkt.out Hu.out He.out (fun _ _ => hb))
             clear hb hk0
             rcases hin' with rfl | rfl
             all_goals
              go_wp2
              go_roundw
              case rel => exact ⟨k + 1, by go_num, by omega, hW, hst⟩
              case measure => simp [intOf]; omega
           · have hb' : (kt.root.tag != 20) = true := by simpa using hb
             have hz := Lh (Hz4.out (ZL Hlen.out Hkt.out Hu.out (fun h => hb (h.2 Hin.out (by omega)))) Hlen.out)
             clear hb hk0
             rcases hin' with rfl | rfl
             all_goals
              go_wp2
              go_ret
              exact ⟨QK hz.out, S4.out _ (T0.out _ hW)⟩
       · have hst := Lh (Zz hall.out Hkt.out Hu.out He.out (fun h _ => absurd h hin))
         have h23 : (tag == 23) = false := by simp [Q4] at hin; simp [hin.1]
         have h24 : (tag == 24) = false := by simp [Q4] at hin; simp [hin.2]
         clear hin
         go_wp2
         go_roundw
         case rel => exact ⟨k + 1, by go_num, by omega, hW, hst⟩
         case measure => simp [intOf]; omega
     · have hge : (pos.length : Int) ≤ (k : Int) := by omega
       have hz := Lh (Hz3.out Hm1.out Hlen.out (X9 Hlen.out (by have := Hpl.out; omega) hall.out))
       clear hlt
       go_wp2
       go_ret
       exact ⟨QK hz.out, S4.out _ (T0.out _ hTr)⟩
end Go.Proofs.YtdcmppdhdcjpfaaGreat
