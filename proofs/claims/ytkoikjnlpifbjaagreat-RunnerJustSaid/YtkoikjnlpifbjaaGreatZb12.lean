/- Lemmas for RunnerJustP. -/
import Derived.Test.YtkoikjnlpifbjaaGreatZb1
import Derived.Test.YtkoikjnlpifbjaaGreatZb4
import Derived.Test.YtkoikjnlpifbjaaGreatZb5
import Derived.Test.YtkoikjnlpifbjaaGreatZb8
import Derived.Test.YtkoikjnlpifbjaaGreatZb2
import Derived.Test.YtkoikjnlpifbjaaGreatZb7
set_option linter.unusedVariables false
set_option linter.unusedSimpArgs false
set_option maxRecDepth 100000
set_option maxHeartbeats 16000000
namespace Go.Proofs.YtkoikjnlpifbjaaGreat
open Go.RowKit Go.Deep
theorem Zo {a b : Int} (h : a = b) : Ending.returned (.int .i64 a) = .returned (.int .i64 b) := by rw [h]
theorem AfH (a : Int) (w : World) : Calls Tryz.prog 126 #[.int .i64 a] w fun e w' => e = .returned (.bool false) ∧ w = w' := by
 have h : (a != a) = false := by simp
 go_enter Tryz.func126, Tryz.ntmps126
 go_wp2
 go_ret
 exact ⟨ZU (by simp), rfl⟩
theorem Um (a b : Int) (w : World) : Calls Tryz.prog 86 #[.int .i64 a, .int .i64 b] w fun e w' => e = .returned (.int .i64 (ZO a b)) ∧ w = w' := by
 go_enter Tryz.func86, Tryz.ntmps86
 go_wp2_with fail
 refine (AfH _ _).mono ?_;rintro e d ⟨rfl, rfl⟩;go_wp2_with fail
 refine (AfH _ _).mono ?_;rintro e d ⟨rfl, rfl⟩;by_cases c : a < b
 · go_wp2
   go_ret
   exact ⟨Zo (by unfold ZO; rw [if_pos c]), rfl⟩
 · by_cases g : b < a
   · go_wp2
     go_ret
     exact ⟨Zo (by unfold ZO; rw [if_neg (show ¬ a < b by omega), if_pos (show b < a by omega)]), rfl⟩
   · go_wp2
     go_ret
     exact ⟨Zo (by unfold ZO; rw [if_neg (show ¬ a < b by omega), if_neg (show ¬ b < a by omega)]), rfl⟩
theorem Af5 {a b : List Int} {k : Nat} {x y : Int} (h : a.take k = b.take k) (hx : a[k]? = some x) (hy : b[k]? = some y) (hc : ZO x y ≠ 0) : Zu a b = ZO x y := by
 have g : a = a.take k ++ x :: a.drop (k + 1) := by
  obtain ⟨d, e⟩ := Ld.1 hx;rw [← e, ← LO d, LK]
 have i : b = b.take k ++ y :: b.drop (k + 1) := by
  obtain ⟨d, e⟩ := Ld.1 hy;rw [← e, ← LO d, LK]
 rw [g, i, h];generalize b.take k = c;clear h g i hx hy
 induction c with
 | nil => rw [Lp, Lp, Zu, if_pos hc]
 | cons z c ih => rw [Ln, Ln, Zu, YM, if_neg (by simp)]; exact ih
theorem AcO : ∀ {a b : List Int} {k : Nat}, a.take k = b.take k → (k = a.length ∨ k = b.length) → k ≤ a.length → k ≤ b.length → Zu a b = ZO (a.length : Int) (b.length : Int)
 | [], [], _, _, _, _, _ => by simp [Zu, ZO]
 | [], _ :: _, _, _, _, _, _ => by simp [Zu, ZO] <;> omega
 | _ :: _, [], _, _, _, _, _ => by simp [Zu, ZO] <;> omega
 | x :: xs, y :: ys, 0, h, hk, _, _ => by simp at hk
 | x :: xs, y :: ys, k + 1, h, hk, h1, h2 => by
  simp only [LF, NG] at h
  obtain ⟨rfl, h⟩ := h
  rw [Zu, YM, if_neg (by simp), AcO h (by simpa using hk) (by simpa using h1) (by simpa using h2)]
  unfold ZO
  simp only [Le]
  repeat' split
  all_goals omega
theorem AdL (A B : Option Addr) (c d : Nat) (a b : List Int) (w : World) (ha : Rd w A (Qj a)) (hb : Rd w B (Qj b)) (hla : a.length ≤ 1000000) (hlb : b.length ≤ 1000000) :
 Calls Tryz.prog 85 #[.slice A a.length c, .slice B b.length d] w fun e w' => e = .returned (.int .i64 (Zu a b)) ∧ Below w.heap.size w w' := by
 obtain ⟨S, g⟩ : ∃ S, S = (fun W => Rd W A (Qj a) ∧ Rd W B (Qj b) ∧ Below w.heap.size w W) := ⟨_, rfl⟩;have am : St S := by rw [g]; infer_instance
 have u : Hid (∀ W, S W → Rd W A (Qj a)) := by show ∀ W, _; rw [g]; exact fun W h => h.1
 have v : Hid (∀ W, S W → Rd W B (Qj b)) := by show ∀ W, _; rw [g]; exact fun W h => h.2.1
 have x : Hid (∀ W, S W → Below w.heap.size w W) := by show ∀ W, _; rw [g]; exact fun W h => h.2.2
 have l : S w := by rw [g]; exact ⟨ha, hb, Below.refl _ _⟩
 clear g ha hb;obtain ⟨m, hm⟩ : ∃ m : Nat, m = Nat.min a.length b.length := ⟨_, rfl⟩
 have s : m ≤ a.length ∧ m ≤ b.length ∧ (m = a.length ∨ m = b.length) := by
  have h : m = min a.length b.length := hm;omega
 clear hm;go_enter Tryz.func85, Tryz.ntmps85
 go_wp2_with fail
 all_goals
  go_loopw [12] (fun i wr => ∃ k : Nat, i = .int .i64 (k : Int) ∧ k ≤ m ∧ Hid (a.take k = b.take k) ∧ S wr) (fun i _ => m - (intOf i).toNat)
  case atStart => exact ⟨0, by simp, Nat.zero_le _, by simp [Hid], l⟩
  case round =>
   clear l;obtain ⟨k, rfl, hk, t, l⟩ := hrel;by_cases ag : k < m
   · have ai : (k : Int) < (m : Int) := by omega
     obtain ⟨e, he⟩ : ∃ e, a[k]? = some e := ⟨_, La (by omega)⟩;obtain ⟨f, hf⟩ : ∃ f, b[k]? = some f := ⟨_, La (by omega)⟩;obtain ⟨ad, ac, _⟩ := ZP (u.out _ l) he;obtain ⟨bd, ae, _⟩ := ZP (v.out _ l) hf;subst ac ae
     have n : Hid (∀ W, S W → W.cell? (ad.add k) = some (.int .i64 e)) := fun W h => by
      obtain ⟨ab, p, h2⟩ := ZP (u.out _ h) he;injection p with p; subst p; exact h2
     have o : Hid (∀ W, S W → W.cell? (bd.add k) = some (.int .i64 f)) := fun W h => by
      obtain ⟨ab, p, h2⟩ := ZP (v.out _ h) hf;injection p with p; subst p; exact h2
     have y := Lv he;have z := Lv hf;have ak : (k : Int) < (a.length : Int) := by omega
     have al : (k : Int) < (b.length : Int) := by omega
     have aj : IntKind.i64.wrap ((k : Int) + 1) = (k : Int) + 1 := IntWalk.i64_in _ (by omega);clear he hf;go_wp2_with fail
     refine ZJ S (by kernel_rfl) (by kernel_rfl) (St.drew l) ?_;clear l
     iterate 3 (refine Qg rfl ?_ (fun W q => ?_) ?_; rotate_left; (focus (go_simp; exact rfl)); simp only [Act.put, Qa, Qb, Qc])
     (refine Qg rfl ?_ (fun W q => ?_) ?_; rotate_left; (focus (have c := n.out W q; go_simp; exact rfl)); simp only [Act.put, Qa, Qb, Qc])
     iterate 3 (refine Qg rfl ?_ (fun W q => ?_) ?_; rotate_left; (focus (go_simp; exact rfl)); simp only [Act.put, Qa, Qb, Qc])
     (refine Qg rfl ?_ (fun W q => ?_) ?_; rotate_left; (focus (have c := o.out W q; go_simp; exact rfl)); simp only [Act.put, Qa, Qb, Qc]);(refine QG rfl 86 _ (fun W => by (go_simp; try rfl)) (.int .i64 (ZO e f)) (fun W q => (Um e f W).mono fun e w' h => ⟨h.1, by rw [← h.2]; exact Below.refl _ _⟩) ?_; simp only [Act.put, Qa, Qb, Qc])
     (refine Qg rfl ?_ (fun W q => ?_) ?_; rotate_left; (focus (go_simp; exact rfl)); simp only [Act.put, Qa, Qb, Qc]);refine QS fun W l => ?_
     by_cases j : ZO e f = 0
     · have ah : (ZO e f != 0) = false := by simp [j]
       have aa : Hid (a.take (k + 1) = b.take (k + 1)) := by
        show _ = _;rw [LG, LG, t.out, y.out, z.out, cmpI_eq.1 j]
       clear n o y z t j;go_wp2_with fail
       go_roundw
       case rel => exact ⟨k + 1, by go_num, by omega, aa, l⟩
       case measure => simp [intOf]; omega
     · have ah : (ZO e f != 0) = true := by simpa using j
       have Hc := Lv (Af5 t.out y.out z.out j);clear n o y z t j;go_wp2_with fail
       go_ret
       exact ⟨Zo Hc.out.symm, x.out _ l⟩
   · obtain rfl : k = m := by omega
     have Hc := Lv (AcO t.out s.2.2 s.1 s.2.1);(first | have af : ¬ ((k : Int) < (b.length : Int)) := by omega | have af : ¬ ((k : Int) < (a.length : Int)) := by omega)
     clear ag hk t;go_wp2_with fail
     refine (Um _ _ _).mono ?_;rintro e w1 ⟨rfl, rfl⟩;go_wp2_with fail
     go_ret
     exact ⟨Zo Hc.out.symm, x.out _ l⟩
def orL : List Int → Int
 | [] => 0
 | x :: l => if x = 0 then orL l else x
theorem Ah1 {a : List Int} {k : Nat} {e : Int} (h : a[k]? = some e) : orL (a.drop k) = if e = 0 then orL (a.drop (k + 1)) else e := by
 obtain ⟨b, rfl⟩ := Ld.1 h;rw [LO b, orL]
theorem Af6 (A : Option Addr) (c : Nat) (a : List Int) (w : World) (ha : Rd w A (Qj a)) (hla : a.length ≤ 1000000) :
 Calls Tryz.prog 84 #[.slice A a.length c] w fun e w' => e = .returned (.int .i64 (orL a)) ∧ Below w.heap.size w w' := by
 obtain ⟨S, d⟩ : ∃ S, S = (fun W => Rd W A (Qj a) ∧ Below w.heap.size w W) := ⟨_, rfl⟩;have ae : St S := by rw [d]; infer_instance
 have n : Hid (∀ W, S W → Rd W A (Qj a)) := by show ∀ W, _; rw [d]; exact fun W h => h.1
 have o : Hid (∀ W, S W → Below w.heap.size w W) := by show ∀ W, _; rw [d]; exact fun W h => h.2
 have g : S w := by rw [d]; exact ⟨ha, Below.refl _ _⟩
 clear d ha;go_enter Tryz.func84, Tryz.ntmps84
 go_wp2_with fail
 go_loopw [8] (fun i wr => ∃ k : Nat, i = .int .i64 (k : Int) ∧ k ≤ a.length ∧ Hid (orL a = orL (a.drop k)) ∧ S wr) (fun i _ => a.length - (intOf i).toNat)
 case atStart => exact ⟨0, by simp, Nat.zero_le _, by simp [Hid], g⟩
 case round =>
  clear g;obtain ⟨k, rfl, hk, m, g⟩ := hrel;by_cases u : k < a.length
  · obtain ⟨e, q⟩ : ∃ e, a[k]? = some e := ⟨_, La (by omega)⟩;obtain ⟨y, t, _⟩ := ZP (n.out _ g) q;subst t
    have j : Hid (∀ W, S W → W.cell? (y.add k) = some (.int .i64 e)) := fun W h => by
     obtain ⟨z, s, h2⟩ := ZP (n.out _ h) q;injection s with s; subst s; exact h2
    have p := Lv (Ah1 q);have ac : (k : Int) < (a.length : Int) := by omega
    have aa : IntKind.i64.wrap ((k : Int) + 1) = (k : Int) + 1 := IntWalk.i64_in _ (by omega);clear q;have ab := j.out _ g;by_cases b : e = 0
    · have v : (e != 0) = false := by simp [b]
      have l : Hid (orL a = orL (a.drop (k + 1))) := by
       show _ = _;rw [m.out, p.out, if_pos b]
      clear j m p b;go_wp2_with fail
      go_roundw
      case rel => exact ⟨k + 1, by go_num, by omega, l, g⟩
      case measure => simp [intOf]; omega
    · have v : (e != 0) = true := by simpa using b
      have l : Hid (orL a = e) := by
       show _ = _;rw [m.out, p.out, if_neg b]
      clear j m p b;go_wp2_with fail
      go_ret
      exact ⟨Zo l.out.symm, o.out _ g⟩
  · obtain rfl : k = a.length := by omega
    have x : Hid (orL a = 0) := by
     show _ = _;rw [m.out, List.drop_length, orL]
    clear u hk m;go_wp2_with fail
    go_ret
    exact ⟨Zo x.out.symm, o.out _ g⟩
structure DlV where
 A : Option Addr
 cap : Nat
 d : Dl
def DlV.cells (x : DlV) : Array Value := #[.slice x.A x.d.path.length x.cap, .int .i64 x.d.op, .int .i64 x.d.n]
structure DlOk (W : World) (x : DlV) : Prop where
 rd : Rd W x.A (Qj x.d.path)
 len : x.d.path.length ≤ 1000000
theorem AgB (a b c : Int) : orL [a, b, c] = orI a (orI b c) := by
 unfold orL orL orL orL orI
 repeat' split
 all_goals first | rfl | omega
theorem U2 (x y : DlV) (w : World) (hx : DlOk w x) (hy : DlOk w y) :
 Calls Tryz.prog 55 #[.agg x.cells, .agg y.cells] w fun e w' => e = .returned (.int .i64 (Z8 x.d y.d)) ∧ Below w.heap.size w w' := by
 obtain ⟨A, s, ⟨a, l, p⟩⟩ := x;obtain ⟨B, t, ⟨b, m, q⟩⟩ := y;obtain ⟨ha, z⟩ := hx;obtain ⟨hb, aa⟩ := hy;simp only at ha z hb aa;unfold DlV.cells;show Calls _ _ #[.agg #[.slice A a.length s, .int .i64 l, .int .i64 p], .agg #[.slice B b.length t, .int .i64 m, .int .i64 q]] _ _;have Ha := Lv ha;have Hb := Lv hb;clear ha hb;go_enter Tryz.func55, Tryz.ntmps55
 go_wp2_with (refine Qm _ _ rfl ?_)
 refine Stop.to ?_;refine Qe rfl 50 _ rfl #[.slice A a.length s, .int .i64 l, .int .i64 p] rfl ?_;intro G Gw Gh Gr Gb;go_wp2_with (refine Qm _ _ rfl ?_)
 refine Stop.to ?_;refine Qe rfl 50 _ rfl #[.slice B b.length t, .int .i64 m, .int .i64 q] rfl ?_;intro J Jw Jh Jr Jb;have rG := Gr.below Jb (Lg Gr.lt Jh);have b1 := (Below.refl w.heap.size w).trans (Gb.mono Gh);have b2 := b1.trans ((Jb.mono Jh).mono b1.size);obtain ⟨S, n⟩ : ∃ S, S = (fun W => (Row W G 50 #[.slice A a.length s, .int .i64 l, .int .i64 p] ∧ Row W J 50 #[.slice B b.length t, .int .i64 m, .int .i64 q]) ∧ (Rd W A (Qj a) ∧ Rd W B (Qj b)) ∧ Below w.heap.size w W) := ⟨_, rfl⟩;have ab : St S := by rw [n]; infer_instance
 have T0 : Hid (∀ W, S W → Row W G 50 #[.slice A a.length s, .int .i64 l, .int .i64 p]) := by show ∀ W, _; rw [n]; exact fun W h => h.1.1
 have T1 : Hid (∀ W, S W → Row W J 50 #[.slice B b.length t, .int .i64 m, .int .i64 q]) := by show ∀ W, _; rw [n]; exact fun W h => h.1.2
 have T2 : Hid (∀ W, S W → Rd W A (Qj a)) := by show ∀ W, _; rw [n]; exact fun W h => h.2.1.1
 have T3 : Hid (∀ W, S W → Rd W B (Qj b)) := by show ∀ W, _; rw [n]; exact fun W h => h.2.1.2
 have T4 : Hid (∀ W, S W → Below w.heap.size w W) := by show ∀ W, _; rw [n]; exact fun W h => h.2.2
 have hS : S Jw := by rw [n]; exact ⟨⟨rG, Jr⟩, ⟨Rd.go Ha.out b2, Rd.go Hb.out b2⟩, b2⟩
 clear n rG Gr Jr Gb Jb b1 b2 Gh Jh Ha Hb;go_wp2_with fail
 refine ZA S 15 (by kernel_rfl) (by kernel_rfl) (St.drew hS) ?_;clear hS;simp only [LF, LP, LE, LL];(refine Qg rfl ?_ (fun W g => ?_) ?_; rotate_left; (focus (go_simp; exact rfl)); simp only [Act.put, Qa, Qb, Qc]);(refine Qg rfl ?_ (fun W g => ?_) ?_; rotate_left; (focus (have c := (T0.out W g).cellv (i := 0) (v := .slice A a.length s) rfl; go_simp; exact rfl)); simp only [Act.put, Qa, Qb, Qc]);(refine Qg rfl ?_ (fun W g => ?_) ?_; rotate_left; (focus (go_simp; exact rfl)); simp only [Act.put, Qa, Qb, Qc]);(refine Qg rfl ?_ (fun W g => ?_) ?_; rotate_left; (focus (have c := (T1.out W g).cellv (i := 0) (v := .slice B b.length t) rfl; go_simp; exact rfl)); simp only [Act.put, Qa, Qb, Qc]);(refine QG rfl 85 _ (fun W => by (go_simp; try rfl)) (.int .i64 (Zu a b)) (fun W g => AdL A B s t a b W (T2.out W g) (T3.out W g) z aa) ?_; simp only [Act.put, Qa, Qb, Qc])
 (refine Qg rfl ?_ (fun W g => ?_) ?_; rotate_left; (focus (go_simp; exact rfl)); simp only [Act.put, Qa, Qb, Qc]);(refine Qg rfl ?_ (fun W g => ?_) ?_; rotate_left; (focus (have c := (T0.out W g).cellv (i := 1) (v := .int .i64 l) rfl; go_simp; exact rfl)); simp only [Act.put, Qa, Qb, Qc]);(refine Qg rfl ?_ (fun W g => ?_) ?_; rotate_left; (focus (go_simp; exact rfl)); simp only [Act.put, Qa, Qb, Qc]);(refine Qg rfl ?_ (fun W g => ?_) ?_; rotate_left; (focus (have c := (T1.out W g).cellv (i := 1) (v := .int .i64 m) rfl; go_simp; exact rfl)); simp only [Act.put, Qa, Qb, Qc]);(refine QG rfl 86 _ (fun W => by (go_simp; try rfl)) (.int .i64 (ZO l m)) (fun W g => (Um l m W).mono fun e w' h => ⟨h.1, by rw [← h.2]; exact Below.refl _ _⟩) ?_; simp only [Act.put, Qa, Qb, Qc])
 (refine Qg rfl ?_ (fun W g => ?_) ?_; rotate_left; (focus (go_simp; exact rfl)); simp only [Act.put, Qa, Qb, Qc]);(refine Qg rfl ?_ (fun W g => ?_) ?_; rotate_left; (focus (have c := (T0.out W g).cellv (i := 2) (v := .int .i64 p) rfl; go_simp; exact rfl)); simp only [Act.put, Qa, Qb, Qc]);(refine Qg rfl ?_ (fun W g => ?_) ?_; rotate_left; (focus (go_simp; exact rfl)); simp only [Act.put, Qa, Qb, Qc]);(refine Qg rfl ?_ (fun W g => ?_) ?_; rotate_left; (focus (have c := (T1.out W g).cellv (i := 2) (v := .int .i64 q) rfl; go_simp; exact rfl)); simp only [Act.put, Qa, Qb, Qc]);(refine QG rfl 86 _ (fun W => by (go_simp; try rfl)) (.int .i64 (ZO p q)) (fun W g => (Um p q W).mono fun e w' h => ⟨h.1, by rw [← h.2]; exact Below.refl _ _⟩) ?_; simp only [Act.put, Qa, Qb, Qc])
 refine QS fun W g => ?_
 go_wp2_with (refine ZE _ _ _ rfl ?_)
 refine Stop.to ?_;refine Qz rfl 22 3 _ rfl 3 #[.int .i64 (Zu a b), .int .i64 (ZO l m), .int .i64 (ZO p q)] (fun W => by kernel_rfl) ?_;intro M Mw Mh Mr Mb;have bM := (T4.out _ g).trans ((Mb.mono Mh).mono (T4.out _ g).size);go_wp2_with fail
 refine (Af6 _ 3 [Zu a b, ZO l m, ZO p q] _ ?_ (by simp)).mono ?_
 · intro j u o;refine ⟨_, rfl, ?_⟩;have h0 := Mr.cellv (i := 0) (v := .int .i64 (Zu a b)) rfl;have h1 := Mr.cellv (i := 1) (v := .int .i64 (ZO l m)) rfl;have h2 := Mr.cellv (i := 2) (v := .int .i64 (ZO p q)) rfl
   match j, o with
   | 0, o => injection o with o; subst o; exact h0
   | 1, o => injection o with o; subst o; exact h1
   | 2, o => injection o with o; subst o; exact h2
   | k + 3, o => simp [Qj] at o
 rintro e w1 ⟨rfl, bO⟩;go_wp2_with fail
 go_ret
 exact ⟨Zo (AgB _ _ _), bM.trans (bO.mono bM.size)⟩
theorem DlOk.go {W W' : World} {x : DlV} (h : DlOk W x) (b : Below W.heap.size W W') : DlOk W' x := ⟨Rd.go h.rd b, h.len⟩
theorem Eo (x y : DlV) (w : World) (hx : DlOk w x) (hy : DlOk w y) :
 Calls Tryz.prog 19 #[.agg x.cells, .agg y.cells] w fun e w' => e = .returned (.bool (decide (Z8 x.d y.d = 0))) ∧ Below w.heap.size w w' := by
 have s := Lv hx.rd;have t := Lv hy.rd;have n := hx.len;have o := hy.len;clear hx hy;go_enter Tryz.func19, Tryz.ntmps19
 go_wp2_with (refine Qm _ _ rfl ?_)
 refine Stop.to ?_;refine Qe rfl 50 _ rfl x.cells rfl ?_;intro G Gw q j p;go_wp2_with (refine Qm _ _ rfl ?_)
 refine Stop.to ?_;refine Qe rfl 50 _ rfl y.cells rfl ?_;intro J z l u k;have v := j.below k (Lg j.lt l);have m := (Below.refl w.heap.size w).trans (p.mono q);have g := m.trans ((k.mono l).mono m.size);obtain ⟨S, b⟩ : ∃ S, S = (fun W => (Row W G 50 x.cells ∧ Row W J 50 y.cells) ∧ (Rd W x.A (Qj x.d.path) ∧ Rd W y.A (Qj y.d.path)) ∧ Below w.heap.size w W) := ⟨_, rfl⟩;have aa : St S := by rw [b]; infer_instance
 have T0 : Hid (∀ W, S W → Row W G 50 x.cells) := by show ∀ W, _; rw [b]; exact fun W h => h.1.1
 have T1 : Hid (∀ W, S W → Row W J 50 y.cells) := by show ∀ W, _; rw [b]; exact fun W h => h.1.2
 have T2 : Hid (∀ W, S W → Rd W x.A (Qj x.d.path)) := by show ∀ W, _; rw [b]; exact fun W h => h.2.1.1
 have T3 : Hid (∀ W, S W → Rd W y.A (Qj y.d.path)) := by show ∀ W, _; rw [b]; exact fun W h => h.2.1.2
 have T4 : Hid (∀ W, S W → Below w.heap.size w W) := by show ∀ W, _; rw [b]; exact fun W h => h.2.2
 have i : S z := by rw [b]; exact ⟨⟨v, u⟩, ⟨Rd.go s.out g, Rd.go t.out g⟩, g⟩
 clear b v j u p k m g q l s t;go_wp2_with (refine AiW _ _ rfl ?_)
 refine Stop.to ?_;refine Acn S 4 i ?_;clear i;simp only [LF, LP, LE, LL];(refine Zd rfl 50 _ rfl (G) rfl 50 _ _ (fun W c => T0.out W c) Tryz.underlying50 rfl (by kernel_rfl) ?_; simp only [Act.put, Qa, Qb, Qc]);(refine Zd rfl 50 _ rfl (J) rfl 50 _ _ (fun W c => T1.out W c) Tryz.underlying50 rfl (by kernel_rfl) ?_; simp only [Act.put, Qa, Qb, Qc]);(refine QG rfl 55 _ (fun W => by (go_simp; try rfl)) (.int .i64 (Z8 x.d y.d)) (fun W c => U2 x y W ⟨T2.out W c, n⟩ ⟨T3.out W c, o⟩) ?_; simp only [Act.put, Qa, Qb, Qc])
 (refine Qg rfl ?_ (fun W c => ?_) ?_; rotate_left; (focus (go_simp; exact rfl)); simp only [Act.put, Qa, Qb, Qc]);refine QS fun W i => ?_
 go_wp2_with fail
 go_ret
 exact ⟨ZU (by by_cases h : Z8 x.d y.d = 0 <;> simp [h]), T4.out _ i⟩
def Sc.cells (s : Sc) : Array Value := #[.int .i64 s.alive, .int .i64 s.killed, .int .i64 s.timeout]
theorem VD (w : World) : (zeroValue 108).run Tryz.prog w = .ok (.agg #[.int .i64 0, .int .i64 0, .int .i64 0]) w := by kernel_rfl
theorem Aat (w : World) : (zeroValue 36).run Tryz.prog w = .ok (.agg #[.int .i64 0, .int .i64 0, .int .i64 0]) w := by kernel_rfl
theorem Aik (s : Sc) (w : World) : Calls Tryz.prog 49 #[.agg s.cells] w fun e w' => e = .returned (.agg s.cells) ∧ Below w.heap.size w w' := by
 have q := VD;go_enter Tryz.func49, Tryz.ntmps49
 go_wp2_with (refine Qm _ _ rfl ?_)
 refine Stop.to ?_;refine Qe rfl 36 _ rfl s.cells rfl ?_;intro G t k d j;go_wp2_with (refine QE _ rfl ?_)
 refine Stop.to ?_;refine Qi rfl 108 rfl _ _ (q _) rfl ?_;intro J u b l g;have h := d.below g (Lg d.lt b);have c := (Below.refl w.heap.size w).trans (j.mono k);have m := c.trans ((g.mono b).mono c.size);have n : w.heap.size ≤ J := Li c.size b;have y := h.cellv (i := 0) (v := .int .i64 s.alive) rfl;have z := h.cellv (i := 1) (v := .int .i64 s.killed) rfl;have c2 := h.cellv (i := 2) (v := .int .i64 s.timeout) rfl;clear d j g c k b;go_wp2_with (refine Qp _ _ _ rfl ?_)
 refine Stop.to ?_;refine Qk rfl 108 _ _ rfl J s.cells rfl rfl 108 _ l (by kernel_rfl) rfl (by simp [Value.oneCell', Sc.cells]) ?_;intro x p o;go_wp2_with fail
 refine bodyPost_ret (results_cell_row Tryz.results49 _ _ J 108 _ (0, 0) _ rfl p Tryz.underlying108 rfl (by kernel_rfl)) rfl ?_;exact ⟨rfl, m.trans (o.below n)⟩
theorem Ae8 (s : Sc) (w : World) : Calls Tryz.prog 77 #[.agg s.cells] w fun e w' => e = .returned (.agg s.cells) ∧ Below w.heap.size w w' := by
 have q := Aat;go_enter Tryz.func77, Tryz.ntmps77
 go_wp2_with (refine Qm _ _ rfl ?_)
 refine Stop.to ?_;refine Qe rfl 108 _ rfl s.cells rfl ?_;intro G t k d j;go_wp2_with (refine QE _ rfl ?_)
 refine Stop.to ?_;refine Qi rfl 36 rfl _ _ (q _) rfl ?_;intro J u b l g;have h := d.below g (Lg d.lt b);have c := (Below.refl w.heap.size w).trans (j.mono k);have m := c.trans ((g.mono b).mono c.size);have n : w.heap.size ≤ J := Li c.size b;have y := h.cellv (i := 0) (v := .int .i64 s.alive) rfl;have z := h.cellv (i := 1) (v := .int .i64 s.killed) rfl;have c2 := h.cellv (i := 2) (v := .int .i64 s.timeout) rfl;clear d j g c k b;go_wp2_with (refine Qp _ _ _ rfl ?_)
 refine Stop.to ?_;refine Qk rfl 36 _ _ rfl J s.cells rfl rfl 36 _ l (by kernel_rfl) rfl (by simp [Value.oneCell', Sc.cells]) ?_;intro x p o;go_wp2_with fail
 refine bodyPost_ret (results_cell_row Tryz.results77 _ _ J 36 _ (0, 0) _ rfl p Tryz.underlying36 rfl (by kernel_rfl)) rfl ?_;exact ⟨rfl, m.trans (o.below n)⟩
structure MtV where
 A : Option Addr
 cap : Nat
 m : Mt
def MtV.dl (x : MtV) : DlV := ⟨x.A, x.cap, x.m.d⟩
def MtV.cells (x : MtV) : List Value := [.slice x.A x.m.d.path.length x.cap, .int .i64 x.m.d.op, .int .i64 x.m.d.n, .int .i64 x.m.verdict, .int .i64 x.m.test, .int .i64 x.m.kind, .int .i64 x.m.value, .string ⟨x.m.digest.toArray⟩]
structure MtOk (W : World) (x : MtV) : Prop where
 rd : Rd W x.A (Qj x.m.d.path)
 len : x.m.d.path.length ≤ 1000000
 nil : x.A = none → x.m.d.path = []
 dig : x.m.digest.length ≤ 1000000
theorem MtOk.go {W W' : World} {x : MtV} (h : MtOk W x) (b : Below W.heap.size W W') : MtOk W' x := ⟨Rd.go h.rd b, h.len, h.nil, h.dig⟩
theorem MtOk.dl {W : World} {x : MtV} (h : MtOk W x) : DlOk W x.dl := ⟨h.rd, h.len⟩
instance St.mtok {x : MtV} : St (fun W => MtOk W x) := ⟨fun h b => h.go b⟩
instance St.mtsok {l : List MtV} : St (fun W => ∀ x ∈ l, MtOk W x) := ⟨fun h b x hx => (h x hx).go b⟩
theorem AhQ {W : World} {G : Nat} {t : TypeId} {x : MtV} (h : Row W G t x.cells.toArray) : ∀ j v, x.dl.cells.toList[j]? = some v → W.cell? ((⟨G, 0, none⟩ : Addr).add j) = some v :=
 Row.from_ (cur := x.cells.toArray) h 0 (fun j v hj => by
  match j, hj with
  | 0, hj | 1, hj | 2, hj => exact hj
  | j + 3, hj => simp [DlV.cells] at hj)
theorem AdP (a b : Mt) : (¬ Z8 a.d b.d = 0 → YC a b = false) ∧ (¬ a.verdict = b.verdict → YC a b = false) ∧ (¬ a.test = b.test → YC a b = false) ∧ (¬ a.kind = b.kind → YC a b = false) ∧ (¬ a.value = b.value → YC a b = false) ∧ (Z8 a.d b.d = 0 → a.verdict = b.verdict → a.test = b.test → a.kind = b.kind → a.value = b.value → YC a b = (a.digest == b.digest)) := by
 unfold YC;refine ⟨fun h => ?_, fun h => ?_, fun h => ?_, fun h => ?_, fun h => ?_, fun c g i j k => ?_⟩
 all_goals (first | simp [h]; done | (simp [c, g, i, j, k]; by_cases e : a.digest = b.digest <;> simp [e]))
theorem AeP (x y : MtV) (w : World) (hx : MtOk w x) (hy : MtOk w y) :
 Calls Tryz.prog 20 #[.agg x.cells.toArray, .agg y.cells.toArray] w fun e w' => e = .returned (.bool (YC x.m y.m)) ∧ Below w.heap.size w w' := by
 have Ha := Lv hx;have Hb := Lv hy;clear hx hy;go_enter Tryz.func20, Tryz.ntmps20
 go_wp2_with (refine Qm _ _ rfl ?_)
 refine Stop.to ?_;refine Qe rfl 54 _ rfl x.cells.toArray rfl ?_;intro G Gw Gh q Gb;go_wp2_with (refine Qm _ _ rfl ?_)
 refine Stop.to ?_;refine Qe rfl 54 _ rfl y.cells.toArray rfl ?_;intro J Jw t n s;have l := q.below s (Lg q.lt t);have u := (Below.refl w.heap.size w).trans (Gb.mono Gh);have j := u.trans ((s.mono t).mono u.size);have Hs := Lv (Eo x.dl y.dl Jw (Ha.out.go j).dl (Hb.out.go j).dl);go_wp2_with (first | (refine QF rfl 50 _ rfl ⟨G, 0, none⟩ rfl x.dl.cells.toList _ (AhQ l) Tryz.underlying50 rfl (by kernel_rfl) ?_) | (refine QF rfl 50 _ rfl ⟨J, 0, none⟩ rfl y.dl.cells.toList _ (AhQ n) Tryz.underlying50 rfl (by kernel_rfl) ?_))
 refine Hs.out.mono ?_;rintro e w1 ⟨rfl, o⟩;have g := l.below o (by have := l.lt; exact l.lt);have h := n.below o n.lt;have c1 := g.cellv (i := 3) (v := .int .i64 x.m.verdict) rfl;have c2 := g.cellv (i := 4) (v := .int .i64 x.m.test) rfl;have c3 := g.cellv (i := 7) (v := .string ⟨x.m.digest.toArray⟩) rfl;have d1 := h.cellv (i := 3) (v := .int .i64 y.m.verdict) rfl;have d2 := h.cellv (i := 4) (v := .int .i64 y.m.test) rfl;have d3 := h.cellv (i := 7) (v := .string ⟨y.m.digest.toArray⟩) rfl;have c5 := g.cellv (i := 5) (v := .int .i64 x.m.kind) rfl;have c6 := g.cellv (i := 6) (v := .int .i64 x.m.value) rfl;have d5 := h.cellv (i := 5) (v := .int .i64 y.m.kind) rfl;have d6 := h.cellv (i := 6) (v := .int .i64 y.m.value) rfl;have c := j.trans (o.mono j.size);clear Ha Hb Hs l q Gb n s u j o Gh t g h;have b := Lv (AdP x.m y.m);by_cases h1 : Z8 x.dl.d y.dl.d = 0;rotate_left
 · go_wp2_with fail
   go_ret
   exact ⟨ZU (b.out.1 h1), c⟩
 by_cases h2 : x.m.verdict = y.m.verdict;rotate_left
 · go_wp2_with fail
   go_ret
   exact ⟨ZU (b.out.2.1 h2), c⟩
 by_cases h3 : x.m.test = y.m.test;rotate_left
 · go_wp2_with fail
   go_ret
   exact ⟨ZU (b.out.2.2.1 h3), c⟩
 by_cases p : x.m.kind = y.m.kind;rotate_left
 · have z := Lv p;have k : (x.m.kind == y.m.kind) = false := by simpa using p
   clear p;go_wp2_with fail
   go_ret
   exact ⟨ZU (b.out.2.2.2.1 z.out), c⟩
 by_cases k : x.m.value = y.m.value;rotate_left
 · have aa := Lv k;have h6 : (x.m.value == y.m.value) = false := by simpa using k
   clear k;go_wp2_with fail
   go_ret
   exact ⟨ZU (b.out.2.2.2.2.1 aa.out), c⟩
 · go_wp2_with fail
   go_ret
   exact ⟨ZU (b.out.2.2.2.2.2 h1 h2 h3 p k), c⟩
theorem YW {α : Type} {c : α → List Value} {sz : Nat} (hsz : ∀ x, (c x).length = sz) (h0 : 0 < sz) {W : World} {A : Option Addr} {l : List α} (hr : Rd W A (l.flatMap c)) {k : Nat} {x : α} (hx : l[k]? = some x) :
 ∃ ad, A = some ad ∧ ∀ j u, (c x)[j]? = some u → W.cell? ((ad.add (k * sz)).add j) = some u := by
 have d : ∀ (l : List α) (k : Nat) (x : α), l[k]? = some x → ∀ j u, (c x)[j]? = some u → (l.flatMap c)[k * sz + j]? = some u := by
  intro l
  induction l with
  | nil => intro k x h; simp at h
  | cons y l ih =>
   intro k x h j u b;rw [LI]
   match k, h with
   | 0, h =>
    simp at h; subst h;rw [Nat.zero_mul, LN, LC (Ld.1 b).1]; exact b
   | k + 1, h =>
    rw [Nm] at h;rw [L8 (by rw [hsz, Nat.add_mul]; omega), hsz, show (k + 1) * sz + j - sz = k * sz + j by rw [Nat.add_mul]; omega];exact ih k x h j u b
 exact hr.part (k * sz) (c x) (d l k x hx) (fun e => by have := hsz x; rw [e] at this; simp at this; omega)
theorem AgI (x : MtV) (w : World) (hx : MtOk w x) :
 Calls Tryz.prog 38 #[.agg x.cells.toArray] w fun e w' => e = .returned (.bool (JY x.m)) ∧ Below w.heap.size w w' := by
 have s := Lv hx;have c : x.m.digest.length ≤ 1000000 := hx.dig;clear hx;go_enter Tryz.func38, Tryz.ntmps38
 go_wp2_with (refine Qm _ _ rfl ?_)
 refine Stop.to ?_;refine Qe rfl 54 _ rfl x.cells.toArray rfl ?_;intro G z j b h;have k := (Below.refl w.heap.size w).trans (h.mono j);have l := b.cellv (i := 3) (v := .int .i64 x.m.verdict) rfl;have n := b.cellv (i := 4) (v := .int .i64 x.m.test) rfl;have o := b.cellv (i := 7) (v := .string ⟨x.m.digest.toArray⟩) rfl;have p := b.cellv (i := 5) (v := .int .i64 x.m.kind) rfl;have q := b.cellv (i := 6) (v := .int .i64 x.m.value) rfl;clear s b h j;obtain ⟨A, t, ⟨d, y, g, u, val, dig⟩⟩ := x;simp only at l n o p q c ⊢;go_wp2_with fail
 all_goals
  go_ret
  refine ⟨ZU ?_, k⟩
  clear l n o p q k
  simp only [beq_iff_eq, beq_eq_false_iff_ne, ne_eq] at *
  unfold JY
  first | (simp_all; done) | (simp_all; omega) | ((repeat rw [if_pos (by first | assumption | omega)]); (repeat rw [if_neg (by first | assumption | omega)]); simp_all; first | (cases dig <;> simp; done) | ((have e1 : g ≤ 19 := by omega); (have e2 : dig.length = 32 := by omega); by_cases e : val = 0 <;> simp_all))
end Go.Proofs.YtkoikjnlpifbjaaGreat
namespace Go.Proofs.YtkoikjnlpifbjaaGreat
open Go.ChangeShapes Go.WideShapes Go.RowKit Go.Deep
theorem Aen : Tryz.prog.cellsOf 65 = 2 := by kernel_rfl
theorem Aeo : Tryz.prog.cellsOf 25 = 3 := by kernel_rfl
theorem Aem : Tryz.prog.cellsOf 22 = 1 := by kernel_rfl
theorem AcD : Tryz.prog.cellsOf 23 = 1 := by kernel_rfl
structure IntsV where
 addr : Option Addr
 cap : Nat
 l : List Int
def IntsV.val (r : IntsV) : Value := .slice r.addr r.l.length r.cap
structure IntsV.ok (r : IntsV) (w : World) : Prop where
 len : r.l.length ≤ r.cap
 cap : r.cap ≤ maxLen
 nil : r.addr = none → r.cap = 0
 reads : Rd w r.addr (Qj r.l)
 all : ∀ x ∈ r.l, InI x
theorem IntsV.ok.go {r : IntsV} {w w' : World} (h : r.ok w) (b : Below w.heap.size w w') : r.ok w' := ⟨h.len, h.cap, h.nil, h.reads.go b, h.all⟩
instance St.intsok {r : IntsV} : St (fun W => r.ok W) := ⟨fun h b => h.go b⟩
def PgV.val (p : PgV) : Value := .agg p.cells
section
variable {H : Type} {enc : TypeId × Value → H} {w : World} {base : Nat} {spare : Nat → Bool} {held : Bool}
theorem Agy {fuel : Nat} {cs : List Value} {x : DataW H × List MemPlace} (h : DataW.trod enc Tryz.prog w base spare held fuel 3 cs = some x) : ∃ n : Int, cs = [.int .i64 n] ∧ InI n := by
 obtain ⟨n, e, h⟩ := UO Tryz.underlying3 h;exact ⟨n, e, h⟩
theorem Agz {fuel : Nat} {cs : List Value} {x : DataW H × List MemPlace} (h : DataW.trod enc Tryz.prog w base spare held fuel 65 cs = some x) : ∃ e : Nd, cs = e.cells ∧ InI e.tag ∧ InI e.n := by
 obtain ⟨l, n, i⟩ := Aal Tryz.underlying65 h;have c : cs.length = 2 := l.trans Aen
 match cs, c with
 | [a, b], _ =>
  obtain ⟨_, j⟩ := i 0 _ rfl;obtain ⟨_, k⟩ := i 1 _ rfl;obtain ⟨m, d, p⟩ := UO Tryz.underlying3 j;obtain ⟨o, g, q⟩ := UO Tryz.underlying3 k;simp [AaT] at d g;exact ⟨⟨m, o⟩, by rw [d, g]; rfl, p, q⟩
theorem Agm (l : List Int) : l.flatMap (fun n => [Value.int .i64 n]) = Qj l := by
 induction l with
 | nil => rfl
 | cons a l ih => rw [LI, ih]; rfl
theorem EP {fuel : Nat} {cs : List Value} {x : DataW H × List MemPlace} (h : DataW.trod enc Tryz.prog w base spare held fuel 22 cs = some x) : ∃ r : IntsV, r.ok w ∧ cs = [r.val] := by
 obtain ⟨A, b, e, rfl, g, j, m, q, i, k⟩ := U7 Tryz.underlying22 h;obtain ⟨l, rfl, c⟩ := UJ (fun n : Int => [Value.int .i64 n]) InI e (fun p d => by obtain ⟨n, y, o⟩ := k p d; exact Agy o);rw [Lz] at g;refine ⟨⟨A, b, l⟩, ⟨g, j, m, ?_, c⟩, by rw [Lz]; rfl⟩;rw [← List.flatMap_def, Agm] at i;exact i
theorem AdH {fuel : Nat} {cs : List Value} {x : DataW H × List MemPlace} (h : DataW.trod enc Tryz.prog w base spare held fuel 23 cs = some x) :
 ∃ (A : Option Addr) (cap : Nat) (l : List Nd), cs = [.slice A l.length cap] ∧ l.length ≤ cap ∧ cap ≤ maxLen ∧ (A = none → cap = 0) ∧ Rd w A (l.flatMap Nd.cells) ∧ ∀ e ∈ l, InI e.tag ∧ InI e.n := by
 obtain ⟨A, cap, d, rfl, g, i, m, q, j, k⟩ := U7 Tryz.underlying23 h;obtain ⟨l, rfl, b⟩ := UJ Nd.cells (fun e => InI e.tag ∧ InI e.n) d (fun p c => by obtain ⟨n, y, o⟩ := k p c; exact Agz o);rw [Lz] at g;exact ⟨A, cap, l, by rw [Lz], g, i, m, by rw [List.flatMap_def]; exact j, b⟩
theorem AeV {fuel : Nat} {cs : List Value} {x : DataW H × List MemPlace} (h : DataW.trod enc Tryz.prog w base spare held fuel 25 cs = some x) : ∃ p : PgV, p.ok w ∧ cs = p.cells.toList := by
 obtain ⟨z, n, e⟩ := Aal Tryz.underlying25 h;have g : cs.length = 3 := z.trans Aeo
 match cs, g with
 | [a, b, c], _ =>
  obtain ⟨_, u⟩ := e 0 _ rfl;obtain ⟨_, v⟩ := e 1 _ rfl;obtain ⟨_, y⟩ := e 2 _ rfl;obtain ⟨n0, i, w0⟩ := UO Tryz.underlying3 u;obtain ⟨r, d, j⟩ := EP v;obtain ⟨A, cap, l, k, m, o, q, s, t⟩ := AdH y;simp [AaT, Aem, AcD] at i j k;exact ⟨⟨n0, r.addr, r.cap, r.l, A, cap, l⟩, ⟨w0, d.len, d.cap, d.nil, d.reads, d.all, m, o, q, s, t⟩, by rw [i, j, k]; rfl⟩
theorem AgA {r : Go.Reach} {b0 : Nat} {v : Value} {d : DataW H} {p : List MemPlace} (hv : Value.okWide Tryz.prog w r b0 25 v) (h : DataW.Trod enc Tryz.prog w base spare held 25 v d p) : ∃ p : PgV, p.ok w ∧ v = p.val := by
 obtain ⟨g, rfl, b, x, e⟩ := Aiw Tryz.underlying25 hv h;obtain ⟨p, c, rfl⟩ := AeV e;exact ⟨p, c, rfl⟩
end
end Go.Proofs.YtkoikjnlpifbjaaGreat
namespace Go.Proofs.YtkoikjnlpifbjaaGreat
open Go.RowKit Go.Deep
theorem Kj {α : Type} {c : α → Value} {W : World} {A : Option Addr} {l : List α} (hr : Rd W A (l.map c)) {k : Nat} {x : α} (hx : l[k]? = some x) : ∃ ad, A = some ad ∧ W.cell? (ad.add k) = some (c x) :=
 hr k _ (by simp [hx])
instance St.intsok_all {l : List IntsV} : St (fun W => ∀ x ∈ l, x.ok W) := ⟨fun h b x hx => (h x hx).go b⟩
theorem Abg {W : World} {A : Option Addr} {l : List MtV} (hr : Rd W A (l.flatMap MtV.cells)) {k : Nat} {x : MtV} (hx : l[k]? = some x) : ∃ ad, A = some ad ∧ ∀ j u, x.cells[j]? = some u → W.cell? ((ad.add (k * 8)).add j) = some u :=
 YW (sz := 8) (fun _ => rfl) (by decide) hr hx
instance : DecidableEq Mt := fun a b => decidable_of_iff (YC a b = true) sameM_iff
def Ji (l : List IntsV) : List Value := l.map IntsV.val
def J9 (l : List MtV) : List Value := l.flatMap MtV.cells
theorem AiH (w : World) : (zeroValue 54).run Tryz.prog w = .ok (.agg #[.slice none 0 0, .int .i64 0, .int .i64 0, .int .i64 0, .int .i64 0, .int .i64 0, .int .i64 0, .string ByteArray.empty]) w := by kernel_rfl
theorem AeQ (x : MtV) : x.cells.toArray.all (·.oneCell') = true := by simp [MtV.cells, Value.oneCell']
end Go.Proofs.YtkoikjnlpifbjaaGreat
