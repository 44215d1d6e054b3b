/- Lemmas for RunnerTurnsP. -/
import Derived.Test.YtkoikjnlpifbjaaGreatZa1
import Derived.Test.YtkoikjnlpifbjaaGreatZa4
import Derived.Test.YtkoikjnlpifbjaaGreatZa5
import Derived.Test.YtkoikjnlpifbjaaGreatZa8
set_option linter.unusedVariables false
set_option linter.unusedSimpArgs false
set_option maxRecDepth 100000
set_option maxHeartbeats 16000000
namespace Go.Proofs.YtkoikjnlpifbjaaGreat
open Go.RowKit Go.Deep
theorem Q7 {a b : Int} (h : a = b) : Ending.returned (.int .i64 a) = .returned (.int .i64 b) := by rw [h]
theorem Ae9 (a : Int) (w : World) : Calls Tryz.prog 126 #[.int .i64 a] w fun e w' => e = .returned (.bool false) ∧ w = w' := by
 have h : (a != a) = false := by simp
 go_enter Tryz.func126, Tryz.ntmps126
 go_wp2
 go_ret
 exact ⟨Q4 (by simp), rfl⟩
theorem YY (a b : Int) (w : World) : Calls Tryz.prog 86 #[.int .i64 a, .int .i64 b] w fun e w' => e = .returned (.int .i64 (Zb a b)) ∧ w = w' := by
 go_enter Tryz.func86, Tryz.ntmps86
 go_wp2_with fail
 refine (Ae9 _ _).mono ?_;rintro e d ⟨rfl, rfl⟩;go_wp2_with fail
 refine (Ae9 _ _).mono ?_;rintro e d ⟨rfl, rfl⟩;by_cases c : a < b
 · go_wp2
   go_ret
   exact ⟨Q7 (by unfold Zb; rw [if_pos c]), rfl⟩
 · by_cases g : b < a
   · go_wp2
     go_ret
     exact ⟨Q7 (by unfold Zb; rw [if_neg (show ¬ a < b by omega), if_pos (show b < a by omega)]), rfl⟩
   · go_wp2
     go_ret
     exact ⟨Q7 (by unfold Zb; rw [if_neg (show ¬ a < b by omega), if_neg (show ¬ b < a by omega)]), rfl⟩
theorem UC {a b : List Int} {k : Nat} {x y : Int} (h : a.take k = b.take k) (hx : a[k]? = some x) (hy : b[k]? = some y) (hc : Zb x y ≠ 0) : Zj a b = Zb x y := by
 have g : a = a.take k ++ x :: a.drop (k + 1) := by
  obtain ⟨d, e⟩ := Lb.1 hx;rw [← e, ← LH d, LC]
 have i : b = b.take k ++ y :: b.drop (k + 1) := by
  obtain ⟨d, e⟩ := Lb.1 hy;rw [← e, ← LH d, LC]
 rw [g, i, h];generalize b.take k = c;clear h g i hx hy
 induction c with
 | nil => rw [Lm, Lm, Zj, if_pos hc]
 | cons z c ih => rw [Ll, Ll, Zj, Yn, if_neg (by simp)]; exact ih
theorem VM : ∀ {a b : List Int} {k : Nat}, a.take k = b.take k → (k = a.length ∨ k = b.length) → k ≤ a.length → k ≤ b.length → Zj a b = Zb (a.length : Int) (b.length : Int)
 | [], [], _, _, _, _, _ => by simp [Zj, Zb]
 | [], _ :: _, _, _, _, _, _ => by simp [Zj, Zb] <;> omega
 | _ :: _, [], _, _, _, _, _ => by simp [Zj, Zb] <;> omega
 | x :: xs, y :: ys, 0, h, hk, _, _ => by simp at hk
 | x :: xs, y :: ys, k + 1, h, hk, h1, h2 => by
  simp only [L7, N5] at h
  obtain ⟨rfl, h⟩ := h
  rw [Zj, Yn, if_neg (by simp), VM h (by simpa using hk) (by simpa using h1) (by simpa using h2)]
  unfold Zb
  simp only [Lc]
  repeat' split
  all_goals omega
theorem Adf (A B : Option Addr) (c d : Nat) (a b : List Int) (w : World) (ha : Rd w A (Qi a)) (hb : Rd w B (Qi b)) (hla : a.length ≤ 1000000) (hlb : b.length ≤ 1000000) :
 Calls Tryz.prog 85 #[.slice A a.length c, .slice B b.length d] w fun e w' => e = .returned (.int .i64 (Zj a b)) ∧ Below w.heap.size w w' := by
 obtain ⟨S, g⟩ : ∃ S, S = (fun W => Rd W A (Qi a) ∧ Rd W B (Qi b) ∧ Below w.heap.size w W) := ⟨_, rfl⟩;have am : St S := by rw [g]; infer_instance
 have u : Hid (∀ W, S W → Rd W A (Qi a)) := by show ∀ W, _; rw [g]; exact fun W h => h.1
 have v : Hid (∀ W, S W → Rd W B (Qi b)) := by show ∀ W, _; rw [g]; exact fun W h => h.2.1
 have x : Hid (∀ W, S W → Below w.heap.size w W) := by show ∀ W, _; rw [g]; exact fun W h => h.2.2
 have l : S w := by rw [g]; exact ⟨ha, hb, Below.refl _ _⟩
 clear g ha hb;obtain ⟨m, hm⟩ : ∃ m : Nat, m = Nat.min a.length b.length := ⟨_, rfl⟩
 have s : m ≤ a.length ∧ m ≤ b.length ∧ (m = a.length ∨ m = b.length) := by
  have h : m = min a.length b.length := hm;omega
 clear hm;go_enter Tryz.func85, Tryz.ntmps85
 go_wp2_with fail
 all_goals
  go_loopw [12] (fun i wr => ∃ k : Nat, i = .int .i64 (k : Int) ∧ k ≤ m ∧ Hid (a.take k = b.take k) ∧ S wr) (fun i _ => m - (intOf i).toNat)
  case atStart => exact ⟨0, by simp, Nat.zero_le _, by simp [Hid], l⟩
  case round =>
   clear l;obtain ⟨k, rfl, hk, t, l⟩ := hrel;by_cases ag : k < m
   · have ai : (k : Int) < (m : Int) := by omega
     obtain ⟨e, he⟩ : ∃ e, a[k]? = some e := ⟨_, La (by omega)⟩;obtain ⟨f, hf⟩ : ∃ f, b[k]? = some f := ⟨_, La (by omega)⟩;obtain ⟨ad, ac, _⟩ := Zc (u.out _ l) he;obtain ⟨bd, ae, _⟩ := Zc (v.out _ l) hf;subst ac ae
     have n : Hid (∀ W, S W → W.cell? (ad.add k) = some (.int .i64 e)) := fun W h => by
      obtain ⟨ab, p, h2⟩ := Zc (u.out _ h) he;injection p with p; subst p; exact h2
     have o : Hid (∀ W, S W → W.cell? (bd.add k) = some (.int .i64 f)) := fun W h => by
      obtain ⟨ab, p, h2⟩ := Zc (v.out _ h) hf;injection p with p; subst p; exact h2
     have y := Lh he;have z := Lh hf;have ak : (k : Int) < (a.length : Int) := by omega
     have al : (k : Int) < (b.length : Int) := by omega
     have aj : IntKind.i64.wrap ((k : Int) + 1) = (k : Int) + 1 := IntWalk.i64_in _ (by omega);clear he hf;go_wp2_with fail
     refine Zf S (by kernel_rfl) (by kernel_rfl) (St.drew l) ?_;clear l
     iterate 3 (refine Qg rfl ?_ (fun W q => ?_) ?_; rotate_left; (focus (go_simp; exact rfl)); simp only [Act.put, Qa, Qb, Qc])
     (refine Qg rfl ?_ (fun W q => ?_) ?_; rotate_left; (focus (have c := n.out W q; go_simp; exact rfl)); simp only [Act.put, Qa, Qb, Qc])
     iterate 3 (refine Qg rfl ?_ (fun W q => ?_) ?_; rotate_left; (focus (go_simp; exact rfl)); simp only [Act.put, Qa, Qb, Qc])
     (refine Qg rfl ?_ (fun W q => ?_) ?_; rotate_left; (focus (have c := o.out W q; go_simp; exact rfl)); simp only [Act.put, Qa, Qb, Qc]);(refine QO rfl 86 _ (fun W => by (go_simp; try rfl)) (.int .i64 (Zb e f)) (fun W q => (YY e f W).mono fun e w' h => ⟨h.1, by rw [← h.2]; exact Below.refl _ _⟩) ?_; simp only [Act.put, Qa, Qb, Qc])
     (refine Qg rfl ?_ (fun W q => ?_) ?_; rotate_left; (focus (go_simp; exact rfl)); simp only [Act.put, Qa, Qb, Qc]);refine QK fun W l => ?_
     by_cases j : Zb e f = 0
     · have ah : (Zb e f != 0) = false := by simp [j]
       have aa : Hid (a.take (k + 1) = b.take (k + 1)) := by
        show _ = _;rw [Lz, Lz, t.out, y.out, z.out, cmpI_eq.1 j]
       clear n o y z t j;go_wp2_with fail
       go_roundw
       case rel => exact ⟨k + 1, by go_num, by omega, aa, l⟩
       case measure => simp [intOf]; omega
     · have ah : (Zb e f != 0) = true := by simpa using j
       have Hc := Lh (UC t.out y.out z.out j);clear n o y z t j;go_wp2_with fail
       go_ret
       exact ⟨Q7 Hc.out.symm, x.out _ l⟩
   · obtain rfl : k = m := by omega
     have Hc := Lh (VM t.out s.2.2 s.1 s.2.1);(first | have af : ¬ ((k : Int) < (b.length : Int)) := by omega | have af : ¬ ((k : Int) < (a.length : Int)) := by omega)
     clear ag hk t;go_wp2_with fail
     refine (YY _ _ _).mono ?_;rintro e w1 ⟨rfl, rfl⟩;go_wp2_with fail
     go_ret
     exact ⟨Q7 Hc.out.symm, x.out _ l⟩
theorem Aet (A B : Option Addr) (c d : Nat) (a b : List Int) (w : World) (ha : Rd w A (Qi a)) (hb : Rd w B (Qi b)) (hla : a.length ≤ 1000000) (hlb : b.length ≤ 1000000) :
 Calls Tryz.prog 149 #[.slice A a.length c, .slice B b.length d] w fun e w' => e = .returned (.int .i64 (Zj a b)) ∧ Below w.heap.size w w' := by
 obtain ⟨S, l⟩ : ∃ S, S = (fun W => Rd W A (Qi a) ∧ Rd W B (Qi b) ∧ Below w.heap.size w W) := ⟨_, rfl⟩;have ap : St S := by rw [l]; infer_instance
 have aa : Hid (∀ W, S W → Rd W A (Qi a)) := by show ∀ W, _; rw [l]; exact fun W h => h.1
 have ab : Hid (∀ W, S W → Rd W B (Qi b)) := by show ∀ W, _; rw [l]; exact fun W h => h.2.1
 have q : Hid (∀ W, S W → Below w.heap.size w W) := by show ∀ W, _; rw [l]; exact fun W h => h.2.2
 have g : S w := by rw [l]; exact ⟨ha, hb, Below.refl _ _⟩
 clear l ha hb;go_enter Tryz.func149, Tryz.ntmps149
 go_wp2_with fail
 go_loopw [5] (fun i wr => ∃ k : Nat, i = .int .i64 (k : Int) ∧ k ≤ a.length ∧ k ≤ b.length ∧ Hid (a.take k = b.take k) ∧ S wr) (fun i _ => a.length - (intOf i).toNat)
 case atStart => exact ⟨0, by simp, Nat.zero_le _, Nat.zero_le _, by simp [Hid], g⟩
 case round =>
  clear g;obtain ⟨k, rfl, ai, aj, v, g⟩ := hrel;by_cases t : k < a.length ∧ k < b.length
  · obtain ⟨am, an⟩ := t;obtain ⟨e, he⟩ : ∃ e, a[k]? = some e := ⟨_, La (by omega)⟩;obtain ⟨f, hf⟩ : ∃ f, b[k]? = some f := ⟨_, La (by omega)⟩;obtain ⟨ad, ag, _⟩ := Zc (aa.out _ g) he;obtain ⟨bd, ah, _⟩ := Zc (ab.out _ g) hf;subst ag ah
    have o : Hid (∀ W, S W → W.cell? (ad.add k) = some (.int .i64 e)) := fun W h => by
     obtain ⟨af, x, h2⟩ := Zc (aa.out _ h) he;injection x with x; subst x; exact h2
    have p : Hid (∀ W, S W → W.cell? (bd.add k) = some (.int .i64 f)) := fun W h => by
     obtain ⟨af, x, h2⟩ := Zc (ab.out _ h) hf;injection x with x; subst x; exact h2
    have y := Lh he;have z := Lh hf;have s : (k : Int) < (a.length : Int) := by omega
    have ao : (k : Int) < (b.length : Int) := by omega
    have ak : IntKind.i64.wrap ((k : Int) + 1) = (k : Int) + 1 := IntWalk.i64_in _ (by omega);clear he hf;go_wp2_with fail
    refine Zf S (by kernel_rfl) (by kernel_rfl) (St.drew g) ?_;clear g
    iterate 3 (refine Qg rfl ?_ (fun W m => ?_) ?_; rotate_left; (focus (go_simp; exact rfl)); simp only [Act.put, Qa, Qb, Qc])
    (refine Qg rfl ?_ (fun W m => ?_) ?_; rotate_left; (focus (have c := o.out W m; go_simp; exact rfl)); simp only [Act.put, Qa, Qb, Qc])
    iterate 3 (refine Qg rfl ?_ (fun W m => ?_) ?_; rotate_left; (focus (go_simp; exact rfl)); simp only [Act.put, Qa, Qb, Qc])
    (refine Qg rfl ?_ (fun W m => ?_) ?_; rotate_left; (focus (have c := p.out W m; go_simp; exact rfl)); simp only [Act.put, Qa, Qb, Qc]);(refine Qg rfl ?_ (fun W m => ?_) ?_; rotate_left; (focus (go_simp; exact rfl)); simp only [Act.put, Qa, Qb, Qc]);refine QK fun W g => ?_
    by_cases x : e < f
    · have j : Zb e f = -1 := by unfold Zb; rw [if_pos (by omega)]
      have n := Lh (UC v.out y.out z.out (by omega));rw [j] at n;clear o p y z v j;go_wp2_with fail
      go_ret
      exact ⟨Q7 n.out.symm, q.out _ g⟩
    have al : f ≤ e := by omega
    go_wp2_with fail
    refine Zf S (by kernel_rfl) (by kernel_rfl) (St.drew g) ?_;clear g
    iterate 3 (refine Qg rfl ?_ (fun W m => ?_) ?_; rotate_left; (focus (go_simp; exact rfl)); simp only [Act.put, Qa, Qb, Qc])
    (refine Qg rfl ?_ (fun W m => ?_) ?_; rotate_left; (focus (have c := o.out W m; go_simp; exact rfl)); simp only [Act.put, Qa, Qb, Qc])
    iterate 3 (refine Qg rfl ?_ (fun W m => ?_) ?_; rotate_left; (focus (go_simp; exact rfl)); simp only [Act.put, Qa, Qb, Qc])
    (refine Qg rfl ?_ (fun W m => ?_) ?_; rotate_left; (focus (have c := p.out W m; go_simp; exact rfl)); simp only [Act.put, Qa, Qb, Qc]);(refine Qg rfl ?_ (fun W m => ?_) ?_; rotate_left; (focus (go_simp; exact rfl)); simp only [Act.put, Qa, Qb, Qc]);refine QK fun W g => ?_
    by_cases h2 : f < e
    · have j : Zb e f = 1 := by unfold Zb; rw [if_neg (by omega), if_pos (by omega)]
      have n := Lh (UC v.out y.out z.out (by omega));rw [j] at n;clear o p y z v j;go_wp2_with fail
      go_ret
      exact ⟨Q7 n.out.symm, q.out _ g⟩
    have ae : Hid (a.take (k + 1) = b.take (k + 1)) := by
     show _ = _;rw [Lz, Lz, v.out, y.out, z.out, show e = f by omega]
    clear o p y z v;go_wp2_with fail
    go_roundw
    case rel => exact ⟨k + 1, by go_num, by omega, by omega, ae, g⟩
    case measure => simp [intOf]; omega
  · have u : k = a.length ∨ k = b.length := by omega
    have n := Lh (VM v.out u ai aj);clear v;have s : ¬ ((k : Int) < (a.length : Int)) ∨ ¬ ((k : Int) < (b.length : Int)) := by omega
    have ac : ∀ W, S W → True := fun _ _ => trivial
    clear ac;by_cases g1 : (k : Int) < (a.length : Int)
    · have g2 : ¬ ((k : Int) < (b.length : Int)) := by omega
      have g3 : ¬ ((a.length : Int) < (b.length : Int)) := by omega
      have g4 : (b.length : Int) < (a.length : Int) := by omega
      have j : Zb (a.length : Int) (b.length : Int) = 1 := by unfold Zb; rw [if_neg (by omega), if_pos (by omega)]
      rw [j] at n;clear t u s j;go_wp2_with fail
      go_ret
      exact ⟨Q7 n.out.symm, q.out _ g⟩
    · by_cases g3 : (a.length : Int) < (b.length : Int)
      · have j : Zb (a.length : Int) (b.length : Int) = -1 := by unfold Zb; rw [if_pos (by omega)]
        rw [j] at n;clear t u s j;go_wp2_with fail
        go_ret
        exact ⟨Q7 n.out.symm, q.out _ g⟩
      · have g4 : ¬ ((b.length : Int) < (a.length : Int)) := by omega
        have j : Zb (a.length : Int) (b.length : Int) = 0 := by unfold Zb; rw [if_neg (by omega), if_neg (by omega)]
        rw [j] at n;clear t u s j;go_wp2_with fail
        go_ret
        exact ⟨Q7 n.out.symm, q.out _ g⟩
theorem AcP (a b : Int) (w : World) : Calls Tryz.prog 150 #[.int .i64 a, .int .i64 b] w fun e w' => e = .returned (.int .i64 (Zb a b)) ∧ w = w' := by
 by_cases c : a < b
 · go_enter Tryz.func150, Tryz.ntmps150
   go_wp2
   go_ret
   exact ⟨Q7 (by unfold Zb; rw [if_pos (by omega)]), rfl⟩
 · by_cases d : b < a
   · go_enter Tryz.func150, Tryz.ntmps150
     go_wp2
     go_ret
     exact ⟨Q7 (by unfold Zb; rw [if_neg (by omega), if_pos (by omega)]), rfl⟩
   · go_enter Tryz.func150, Tryz.ntmps150
     go_wp2
     go_ret
     exact ⟨Q7 (by unfold Zb; rw [if_neg (by omega), if_neg (by omega)]), rfl⟩
def orL : List Int → Int
 | [] => 0
 | x :: l => if x = 0 then orL l else x
theorem Ahh {a : List Int} {k : Nat} {e : Int} (h : a[k]? = some e) : orL (a.drop k) = if e = 0 then orL (a.drop (k + 1)) else e := by
 obtain ⟨b, rfl⟩ := Lb.1 h;rw [LH b, orL]
theorem Afv (A : Option Addr) (c : Nat) (a : List Int) (w : World) (ha : Rd w A (Qi a)) (hla : a.length ≤ 1000000) :
 Calls Tryz.prog 84 #[.slice A a.length c] w fun e w' => e = .returned (.int .i64 (orL a)) ∧ Below w.heap.size w w' := by
 obtain ⟨S, d⟩ : ∃ S, S = (fun W => Rd W A (Qi a) ∧ Below w.heap.size w W) := ⟨_, rfl⟩;have ae : St S := by rw [d]; infer_instance
 have n : Hid (∀ W, S W → Rd W A (Qi a)) := by show ∀ W, _; rw [d]; exact fun W h => h.1
 have o : Hid (∀ W, S W → Below w.heap.size w W) := by show ∀ W, _; rw [d]; exact fun W h => h.2
 have g : S w := by rw [d]; exact ⟨ha, Below.refl _ _⟩
 clear d ha;go_enter Tryz.func84, Tryz.ntmps84
 go_wp2_with fail
 go_loopw [8] (fun i wr => ∃ k : Nat, i = .int .i64 (k : Int) ∧ k ≤ a.length ∧ Hid (orL a = orL (a.drop k)) ∧ S wr) (fun i _ => a.length - (intOf i).toNat)
 case atStart => exact ⟨0, by simp, Nat.zero_le _, by simp [Hid], g⟩
 case round =>
  clear g;obtain ⟨k, rfl, hk, m, g⟩ := hrel;by_cases u : k < a.length
  · obtain ⟨e, q⟩ : ∃ e, a[k]? = some e := ⟨_, La (by omega)⟩;obtain ⟨y, t, _⟩ := Zc (n.out _ g) q;subst t
    have j : Hid (∀ W, S W → W.cell? (y.add k) = some (.int .i64 e)) := fun W h => by
     obtain ⟨z, s, h2⟩ := Zc (n.out _ h) q;injection s with s; subst s; exact h2
    have p := Lh (Ahh q);have ac : (k : Int) < (a.length : Int) := by omega
    have aa : IntKind.i64.wrap ((k : Int) + 1) = (k : Int) + 1 := IntWalk.i64_in _ (by omega);clear q;have ab := j.out _ g;by_cases b : e = 0
    · have v : (e != 0) = false := by simp [b]
      have l : Hid (orL a = orL (a.drop (k + 1))) := by
       show _ = _;rw [m.out, p.out, if_pos b]
      clear j m p b;go_wp2_with fail
      go_roundw
      case rel => exact ⟨k + 1, by go_num, by omega, l, g⟩
      case measure => simp [intOf]; omega
    · have v : (e != 0) = true := by simpa using b
      have l : Hid (orL a = e) := by
       show _ = _;rw [m.out, p.out, if_neg b]
      clear j m p b;go_wp2_with fail
      go_ret
      exact ⟨Q7 l.out.symm, o.out _ g⟩
  · obtain rfl : k = a.length := by omega
    have x : Hid (orL a = 0) := by
     show _ = _;rw [m.out, List.drop_length, orL]
    clear u hk m;go_wp2_with fail
    go_ret
    exact ⟨Q7 x.out.symm, o.out _ g⟩
structure DlV where
 A : Option Addr
 cap : Nat
 d : Dl
def DlV.cells (x : DlV) : Array Value := #[.slice x.A x.d.path.length x.cap, .int .i64 x.d.op, .int .i64 x.d.n]
structure DlOk (W : World) (x : DlV) : Prop where
 rd : Rd W x.A (Qi x.d.path)
 len : x.d.path.length ≤ 1000000
theorem AfW (a b c : Int) : orL [a, b, c] = orI a (orI b c) := by
 unfold orL orL orL orL orI
 repeat' split
 all_goals first | rfl | omega
theorem Afy (x y : DlV) (w : World) (hx : DlOk w x) (hy : DlOk w y) :
 Calls Tryz.prog 55 #[.agg x.cells, .agg y.cells] w fun e w' => e = .returned (.int .i64 (Jm x.d y.d)) ∧ Below w.heap.size w w' := by
 obtain ⟨A, s, ⟨a, l, p⟩⟩ := x;obtain ⟨B, t, ⟨b, m, q⟩⟩ := y;obtain ⟨ha, z⟩ := hx;obtain ⟨hb, aa⟩ := hy;simp only at ha z hb aa;unfold DlV.cells;show Calls _ _ #[.agg #[.slice A a.length s, .int .i64 l, .int .i64 p], .agg #[.slice B b.length t, .int .i64 m, .int .i64 q]] _ _;have Ha := Lh ha;have Hb := Lh hb;clear ha hb;go_enter Tryz.func55, Tryz.ntmps55
 go_wp2_with (refine Qm _ _ rfl ?_)
 refine Stop.to ?_;refine Qe rfl 50 _ rfl #[.slice A a.length s, .int .i64 l, .int .i64 p] rfl ?_;intro G Gw Gh Gr Gb;go_wp2_with (refine Qm _ _ rfl ?_)
 refine Stop.to ?_;refine Qe rfl 50 _ rfl #[.slice B b.length t, .int .i64 m, .int .i64 q] rfl ?_;intro J Jw Jh Jr Jb;have rG := Gr.below Jb (Le Gr.lt Jh);have b1 := (Below.refl w.heap.size w).trans (Gb.mono Gh);have b2 := b1.trans ((Jb.mono Jh).mono b1.size);obtain ⟨S, n⟩ : ∃ S, S = (fun W => (Row W G 50 #[.slice A a.length s, .int .i64 l, .int .i64 p] ∧ Row W J 50 #[.slice B b.length t, .int .i64 m, .int .i64 q]) ∧ (Rd W A (Qi a) ∧ Rd W B (Qi b)) ∧ Below w.heap.size w W) := ⟨_, rfl⟩;have ab : St S := by rw [n]; infer_instance
 have T0 : Hid (∀ W, S W → Row W G 50 #[.slice A a.length s, .int .i64 l, .int .i64 p]) := by show ∀ W, _; rw [n]; exact fun W h => h.1.1
 have T1 : Hid (∀ W, S W → Row W J 50 #[.slice B b.length t, .int .i64 m, .int .i64 q]) := by show ∀ W, _; rw [n]; exact fun W h => h.1.2
 have T2 : Hid (∀ W, S W → Rd W A (Qi a)) := by show ∀ W, _; rw [n]; exact fun W h => h.2.1.1
 have T3 : Hid (∀ W, S W → Rd W B (Qi b)) := by show ∀ W, _; rw [n]; exact fun W h => h.2.1.2
 have T4 : Hid (∀ W, S W → Below w.heap.size w W) := by show ∀ W, _; rw [n]; exact fun W h => h.2.2
 have hS : S Jw := by rw [n]; exact ⟨⟨rG, Jr⟩, ⟨Rd.go Ha.out b2, Rd.go Hb.out b2⟩, b2⟩
 clear n rG Gr Jr Gb Jb b1 b2 Gh Jh Ha Hb;go_wp2_with fail
 refine ZP S 15 (by kernel_rfl) (by kernel_rfl) (St.drew hS) ?_;clear hS;simp only [L7, LJ, L6, LD];(refine Qg rfl ?_ (fun W g => ?_) ?_; rotate_left; (focus (go_simp; exact rfl)); simp only [Act.put, Qa, Qb, Qc]);(refine Qg rfl ?_ (fun W g => ?_) ?_; rotate_left; (focus (have c := (T0.out W g).cellv (i := 0) (v := .slice A a.length s) rfl; go_simp; exact rfl)); simp only [Act.put, Qa, Qb, Qc]);(refine Qg rfl ?_ (fun W g => ?_) ?_; rotate_left; (focus (go_simp; exact rfl)); simp only [Act.put, Qa, Qb, Qc]);(refine Qg rfl ?_ (fun W g => ?_) ?_; rotate_left; (focus (have c := (T1.out W g).cellv (i := 0) (v := .slice B b.length t) rfl; go_simp; exact rfl)); simp only [Act.put, Qa, Qb, Qc]);(refine QO rfl 85 _ (fun W => by (go_simp; try rfl)) (.int .i64 (Zj a b)) (fun W g => Adf A B s t a b W (T2.out W g) (T3.out W g) z aa) ?_; simp only [Act.put, Qa, Qb, Qc])
 (refine Qg rfl ?_ (fun W g => ?_) ?_; rotate_left; (focus (go_simp; exact rfl)); simp only [Act.put, Qa, Qb, Qc]);(refine Qg rfl ?_ (fun W g => ?_) ?_; rotate_left; (focus (have c := (T0.out W g).cellv (i := 1) (v := .int .i64 l) rfl; go_simp; exact rfl)); simp only [Act.put, Qa, Qb, Qc]);(refine Qg rfl ?_ (fun W g => ?_) ?_; rotate_left; (focus (go_simp; exact rfl)); simp only [Act.put, Qa, Qb, Qc]);(refine Qg rfl ?_ (fun W g => ?_) ?_; rotate_left; (focus (have c := (T1.out W g).cellv (i := 1) (v := .int .i64 m) rfl; go_simp; exact rfl)); simp only [Act.put, Qa, Qb, Qc]);(refine QO rfl 86 _ (fun W => by (go_simp; try rfl)) (.int .i64 (Zb l m)) (fun W g => (YY l m W).mono fun e w' h => ⟨h.1, by rw [← h.2]; exact Below.refl _ _⟩) ?_; simp only [Act.put, Qa, Qb, Qc])
 (refine Qg rfl ?_ (fun W g => ?_) ?_; rotate_left; (focus (go_simp; exact rfl)); simp only [Act.put, Qa, Qb, Qc]);(refine Qg rfl ?_ (fun W g => ?_) ?_; rotate_left; (focus (have c := (T0.out W g).cellv (i := 2) (v := .int .i64 p) rfl; go_simp; exact rfl)); simp only [Act.put, Qa, Qb, Qc]);(refine Qg rfl ?_ (fun W g => ?_) ?_; rotate_left; (focus (go_simp; exact rfl)); simp only [Act.put, Qa, Qb, Qc]);(refine Qg rfl ?_ (fun W g => ?_) ?_; rotate_left; (focus (have c := (T1.out W g).cellv (i := 2) (v := .int .i64 q) rfl; go_simp; exact rfl)); simp only [Act.put, Qa, Qb, Qc]);(refine QO rfl 86 _ (fun W => by (go_simp; try rfl)) (.int .i64 (Zb p q)) (fun W g => (YY p q W).mono fun e w' h => ⟨h.1, by rw [← h.2]; exact Below.refl _ _⟩) ?_; simp only [Act.put, Qa, Qb, Qc])
 refine QK fun W g => ?_
 go_wp2_with (refine ZC _ _ _ rfl ?_)
 refine Stop.to ?_;refine Qt rfl 22 3 _ rfl 3 #[.int .i64 (Zj a b), .int .i64 (Zb l m), .int .i64 (Zb p q)] (fun W => by kernel_rfl) ?_;intro M Mw Mh Mr Mb;have bM := (T4.out _ g).trans ((Mb.mono Mh).mono (T4.out _ g).size);go_wp2_with fail
 refine (Afv _ 3 [Zj a b, Zb l m, Zb p q] _ ?_ (by simp)).mono ?_
 · intro j u o;refine ⟨_, rfl, ?_⟩;have h0 := Mr.cellv (i := 0) (v := .int .i64 (Zj a b)) rfl;have h1 := Mr.cellv (i := 1) (v := .int .i64 (Zb l m)) rfl;have h2 := Mr.cellv (i := 2) (v := .int .i64 (Zb p q)) rfl
   match j, o with
   | 0, o => injection o with o; subst o; exact h0
   | 1, o => injection o with o; subst o; exact h1
   | 2, o => injection o with o; subst o; exact h2
   | k + 3, o => simp [Qi] at o
 rintro e w1 ⟨rfl, bO⟩;go_wp2_with fail
 go_ret
 exact ⟨Q7 (AfW _ _ _), bM.trans (bO.mono bM.size)⟩
theorem DlOk.go {W W' : World} {x : DlV} (h : DlOk W x) (b : Below W.heap.size W W') : DlOk W' x := ⟨Rd.go h.rd b, h.len⟩
theorem AbA (x y : DlV) (w : World) (hx : DlOk w x) (hy : DlOk w y) :
 Calls Tryz.prog 114 #[.agg x.cells, .agg y.cells] w fun e w' => e = .returned (.int .i64 (Jm x.d y.d)) ∧ Below w.heap.size w w' := by
 have Ha := Lh hx.rd;have Hb := Lh hy.rd;have ac := hx.len;have ad := hy.len;clear hx hy;go_enter Tryz.func114, Tryz.ntmps114
 go_wp2_with (refine Qm _ _ rfl ?_)
 refine Stop.to ?_;refine Qe rfl 50 _ rfl x.cells rfl ?_;intro G Gw Gh p Gb;go_wp2_with (refine Qm _ _ rfl ?_)
 refine Stop.to ?_;refine Qe rfl 50 _ rfl y.cells rfl ?_;intro J Jw s Jr q;have rG := p.below q (Le p.lt s);have b1 := (Below.refl w.heap.size w).trans (Gb.mono Gh);have o := b1.trans ((q.mono s).mono b1.size);obtain ⟨S, b⟩ : ∃ S, S = (fun W => (Row W G 50 x.cells ∧ Row W J 50 y.cells) ∧ (Rd W x.A (Qi x.d.path) ∧ Rd W y.A (Qi y.d.path)) ∧ Below w.heap.size w W) := ⟨_, rfl⟩;have ae : St S := by rw [b]; infer_instance
 have t : Hid (∀ W, S W → Row W G 50 x.cells) := by show ∀ W, _; rw [b]; exact fun W h => h.1.1
 have u : Hid (∀ W, S W → Row W J 50 y.cells) := by show ∀ W, _; rw [b]; exact fun W h => h.1.2
 have T2 : Hid (∀ W, S W → Rd W x.A (Qi x.d.path)) := by show ∀ W, _; rw [b]; exact fun W h => h.2.1.1
 have T3 : Hid (∀ W, S W → Rd W y.A (Qi y.d.path)) := by show ∀ W, _; rw [b]; exact fun W h => h.2.1.2
 have z : Hid (∀ W, S W → Below w.heap.size w W) := by show ∀ W, _; rw [b]; exact fun W h => h.2.2
 have g : S Jw := by rw [b]; exact ⟨⟨rG, Jr⟩, ⟨Rd.go Ha.out o, Rd.go Hb.out o⟩, o⟩
 clear b rG p Jr Gb q b1 o Gh s Ha Hb;go_wp2_with (refine Ajj ?_)
 refine Stop.to ?_;refine AbY S 6 g ?_;clear g;simp only [L7, L6, LD, List.take_nil];(refine Qg rfl ?_ (fun W j => ?_) ?_; rotate_left; (focus (go_simp; exact rfl)); simp only [Act.put, Qa, Qb, Qc]);(refine Qg rfl ?_ (fun W j => ?_) ?_; rotate_left; (focus (have c := (t.out W j).cellv (i := 0) (v := .slice x.A x.d.path.length x.cap) rfl; go_simp; exact rfl)); simp only [Act.put, Qa, Qb, Qc]);(refine Qg rfl ?_ (fun W j => ?_) ?_; rotate_left; (focus (go_simp; exact rfl)); simp only [Act.put, Qa, Qb, Qc]);(refine Qg rfl ?_ (fun W j => ?_) ?_; rotate_left; (focus (have c := (u.out W j).cellv (i := 0) (v := .slice y.A y.d.path.length y.cap) rfl; go_simp; exact rfl)); simp only [Act.put, Qa, Qb, Qc]);(refine QO rfl 149 _ (fun W => by (go_simp; try rfl)) (.int .i64 (Zj x.d.path y.d.path)) (fun W j => Aet x.A y.A x.cap y.cap _ _ W (T2.out W j) (T3.out W j) ac ad) ?_; simp only [Act.put, Qa, Qb, Qc])
 (refine Qg rfl ?_ (fun W j => ?_) ?_; rotate_left; (focus (go_simp; exact rfl)); simp only [Act.put, Qa, Qb, Qc]);refine QK fun W g => ?_
 have c1 := (t.out _ g).cellv (i := 1) (v := .int .i64 x.d.op) rfl;have c2 := (t.out _ g).cellv (i := 2) (v := .int .i64 x.d.n) rfl;have d1 := (u.out _ g).cellv (i := 1) (v := .int .i64 y.d.op) rfl;have d2 := (u.out _ g).cellv (i := 2) (v := .int .i64 y.d.n) rfl;by_cases k : Zj x.d.path y.d.path = 0
 · have aa : (Zj x.d.path y.d.path != 0) = false := by simp [k]
   by_cases l : x.d.op = y.d.op
   · have ab : (x.d.op != y.d.op) = false := by simp [l]
     have m : Zb x.d.n y.d.n = Jm x.d y.d := by unfold Jm orI; rw [k, if_neg (by simp), cmpI_eq.2 l, if_neg (by simp)]
     clear k l;go_wp2_with fail
     refine (AcP _ _ _).mono ?_;rintro e w1 ⟨rfl, rfl⟩;go_wp2_with fail
     go_ret
     exact ⟨Q7 (by first | exact m | rfl), z.out _ g⟩
   · have ab : (x.d.op != y.d.op) = true := by simpa using l
     have m : Zb x.d.op y.d.op = Jm x.d y.d := by unfold Jm orI; rw [k, if_neg (by simp), if_pos (fun h => l (cmpI_eq.1 h))]
     clear k l;go_wp2_with fail
     refine (AcP _ _ _).mono ?_;rintro e w1 ⟨rfl, rfl⟩;go_wp2_with fail
     go_ret
     exact ⟨Q7 (by first | exact m | rfl), z.out _ g⟩
 · have aa : (Zj x.d.path y.d.path != 0) = true := by simpa using k
   have m : Zj x.d.path y.d.path = Jm x.d y.d := by unfold Jm orI; rw [if_pos k]
   clear k;go_wp2_with fail
   go_ret
   exact ⟨Q7 m, z.out _ g⟩
def Sc.cells (s : Sc) : Array Value := #[.int .i64 s.alive, .int .i64 s.killed, .int .i64 s.timeout]
theorem AdE (w : World) : (zeroValue 108).run Tryz.prog w = .ok (.agg #[.int .i64 0, .int .i64 0, .int .i64 0]) w := by kernel_rfl
theorem E3 (w : World) : (zeroValue 36).run Tryz.prog w = .ok (.agg #[.int .i64 0, .int .i64 0, .int .i64 0]) w := by kernel_rfl
theorem AeB (s : Sc) (w : World) : Calls Tryz.prog 77 #[.agg s.cells] w fun e w' => e = .returned (.agg s.cells) ∧ Below w.heap.size w w' := by
 have q := E3;go_enter Tryz.func77, Tryz.ntmps77
 go_wp2_with (refine Qm _ _ rfl ?_)
 refine Stop.to ?_;refine Qe rfl 108 _ rfl s.cells rfl ?_;intro G t k d j;go_wp2_with (refine QS _ rfl ?_)
 refine Stop.to ?_;refine Qk rfl 36 rfl _ _ (q _) rfl ?_;intro J u b l g;have h := d.below g (Le d.lt b);have c := (Below.refl w.heap.size w).trans (j.mono k);have m := c.trans ((g.mono b).mono c.size);have n : w.heap.size ≤ J := Lf c.size b;have y := h.cellv (i := 0) (v := .int .i64 s.alive) rfl;have z := h.cellv (i := 1) (v := .int .i64 s.killed) rfl;have c2 := h.cellv (i := 2) (v := .int .i64 s.timeout) rfl;clear d j g c k b;go_wp2_with (refine Qv _ _ _ rfl ?_)
 refine Stop.to ?_;refine Ql rfl 36 _ _ rfl J s.cells rfl rfl 36 _ l (by kernel_rfl) rfl (by simp [Value.oneCell', Sc.cells]) ?_;intro x p o;go_wp2_with fail
 refine bodyPost_ret (results_cell_row Tryz.results77 _ _ J 36 _ (0, 0) _ rfl p Tryz.underlying36 rfl (by kernel_rfl)) rfl ?_;exact ⟨rfl, m.trans (o.below n)⟩
structure MtV where
 A : Option Addr
 cap : Nat
 m : Mt
def MtV.dl (x : MtV) : DlV := ⟨x.A, x.cap, x.m.d⟩
def MtV.cells (x : MtV) : List Value := [.slice x.A x.m.d.path.length x.cap, .int .i64 x.m.d.op, .int .i64 x.m.d.n, .int .i64 x.m.verdict, .int .i64 x.m.test, .int .i64 x.m.kind, .int .i64 x.m.value, .string ⟨x.m.digest.toArray⟩]
structure MtOk (W : World) (x : MtV) : Prop where
 rd : Rd W x.A (Qi x.m.d.path)
 len : x.m.d.path.length ≤ 1000000
 nil : x.A = none → x.m.d.path = []
 dig : x.m.digest.length ≤ 1000000
theorem MtOk.go {W W' : World} {x : MtV} (h : MtOk W x) (b : Below W.heap.size W W') : MtOk W' x := ⟨Rd.go h.rd b, h.len, h.nil, h.dig⟩
theorem MtOk.dl {W : World} {x : MtV} (h : MtOk W x) : DlOk W x.dl := ⟨h.rd, h.len⟩
instance St.mtok {x : MtV} : St (fun W => MtOk W x) := ⟨fun h b => h.go b⟩
instance St.mtsok {l : List MtV} : St (fun W => ∀ x ∈ l, MtOk W x) := ⟨fun h b x hx => (h x hx).go b⟩
theorem Ajc {W : World} {G : Nat} {t : TypeId} {x : MtV} (h : Row W G t x.cells.toArray) : ∀ j v, x.dl.cells.toList[j]? = some v → W.cell? ((⟨G, 0, none⟩ : Addr).add j) = some v :=
 Row.from_ (cur := x.cells.toArray) h 0 (fun j v hj => by
  match j, hj with
  | 0, hj | 1, hj | 2, hj => exact hj
  | j + 3, hj => simp [DlV.cells] at hj)
theorem Adj (a b : Mt) : (¬ Jm a.d b.d = 0 → KQ a b = false) ∧ (¬ a.verdict = b.verdict → KQ a b = false) ∧ (¬ a.test = b.test → KQ a b = false) ∧ (¬ a.kind = b.kind → KQ a b = false) ∧ (¬ a.value = b.value → KQ a b = false) ∧ (Jm a.d b.d = 0 → a.verdict = b.verdict → a.test = b.test → a.kind = b.kind → a.value = b.value → KQ a b = (a.digest == b.digest)) := by
 unfold KQ;refine ⟨fun h => ?_, fun h => ?_, fun h => ?_, fun h => ?_, fun h => ?_, fun c g i j k => ?_⟩
 all_goals (first | simp [h]; done | (simp [c, g, i, j, k]; by_cases e : a.digest = b.digest <;> simp [e]))
theorem Aae (x y : MtV) (w : World) (hx : MtOk w x) (hy : MtOk w y) :
 Calls Tryz.prog 76 #[.agg x.cells.toArray, .agg y.cells.toArray] w fun e w' => e = .returned (.bool (KQ x.m y.m)) ∧ Below w.heap.size w w' := by
 have Ha := Lh hx;have Hb := Lh hy;clear hx hy;go_enter Tryz.func76, Tryz.ntmps76
 go_wp2_with (refine Qm _ _ rfl ?_)
 refine Stop.to ?_;refine Qe rfl 54 _ rfl x.cells.toArray rfl ?_;intro G Gw Gh q Gb;go_wp2_with (refine Qm _ _ rfl ?_)
 refine Stop.to ?_;refine Qe rfl 54 _ rfl y.cells.toArray rfl ?_;intro J Jw t n s;have l := q.below s (Le q.lt t);have u := (Below.refl w.heap.size w).trans (Gb.mono Gh);have j := u.trans ((s.mono t).mono u.size);have Hs := Lh (AbA x.dl y.dl Jw (Ha.out.go j).dl (Hb.out.go j).dl);go_wp2_with (first | (refine QH rfl 50 _ rfl ⟨G, 0, none⟩ rfl x.dl.cells.toList _ (Ajc l) Tryz.underlying50 rfl (by kernel_rfl) ?_) | (refine QH rfl 50 _ rfl ⟨J, 0, none⟩ rfl y.dl.cells.toList _ (Ajc n) Tryz.underlying50 rfl (by kernel_rfl) ?_))
 refine Hs.out.mono ?_;rintro e w1 ⟨rfl, o⟩;have g := l.below o (by have := l.lt; exact l.lt);have h := n.below o n.lt;have c1 := g.cellv (i := 3) (v := .int .i64 x.m.verdict) rfl;have c2 := g.cellv (i := 4) (v := .int .i64 x.m.test) rfl;have c3 := g.cellv (i := 7) (v := .string ⟨x.m.digest.toArray⟩) rfl;have d1 := h.cellv (i := 3) (v := .int .i64 y.m.verdict) rfl;have d2 := h.cellv (i := 4) (v := .int .i64 y.m.test) rfl;have d3 := h.cellv (i := 7) (v := .string ⟨y.m.digest.toArray⟩) rfl;have c5 := g.cellv (i := 5) (v := .int .i64 x.m.kind) rfl;have c6 := g.cellv (i := 6) (v := .int .i64 x.m.value) rfl;have d5 := h.cellv (i := 5) (v := .int .i64 y.m.kind) rfl;have d6 := h.cellv (i := 6) (v := .int .i64 y.m.value) rfl;have c := j.trans (o.mono j.size);clear Ha Hb Hs l q Gb n s u j o Gh t g h;have b := Lh (Adj x.m y.m);by_cases z : Jm x.dl.d y.dl.d = 0;rotate_left
 · have ac : (Jm x.dl.d y.dl.d == 0) = false := by simpa using z
   go_wp2_with fail
   go_ret
   exact ⟨Q4 (b.out.1 z), c⟩
 by_cases h2 : x.m.verdict = y.m.verdict;rotate_left
 · go_wp2_with fail
   go_ret
   exact ⟨Q4 (b.out.2.1 h2), c⟩
 by_cases h3 : x.m.test = y.m.test;rotate_left
 · go_wp2_with fail
   go_ret
   exact ⟨Q4 (b.out.2.2.1 h3), c⟩
 by_cases p : x.m.kind = y.m.kind;rotate_left
 · have aa := Lh p;have k : (x.m.kind == y.m.kind) = false := by simpa using p
   clear p;go_wp2_with fail
   go_ret
   exact ⟨Q4 (b.out.2.2.2.1 aa.out), c⟩
 by_cases k : x.m.value = y.m.value;rotate_left
 · have ab := Lh k;have h6 : (x.m.value == y.m.value) = false := by simpa using k
   clear k;go_wp2_with fail
   go_ret
   exact ⟨Q4 (b.out.2.2.2.2.1 ab.out), c⟩
 · go_wp2_with fail
   go_ret
   exact ⟨Q4 (b.out.2.2.2.2.2 z h2 h3 p k), c⟩
end Go.Proofs.YtkoikjnlpifbjaaGreat
