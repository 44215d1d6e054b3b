/- Lemmas for VerdictTellsP. -/
import Derived.Test.YtdcmppdhdcjpfaaGreatZz1
import Derived.Test.YtdcmppdhdcjpfaaGreatZz5
import Derived.Test.YtdcmppdhdcjpfaaGreatZz3
import Derived.Test.YtdcmppdhdcjpfaaGreatZz10
import Derived.Test.YtdcmppdhdcjpfaaGreatZz9
import Derived.Test.YtdcmppdhdcjpfaaGreatZz8
set_option linter.unusedVariables false
set_option linter.unusedSimpArgs false
set_option maxRecDepth 100000
set_option maxHeartbeats 16000000
namespace Go.Proofs.YtdcmppdhdcjpfaaGreat
open Go.RowKit Go.Deep
theorem Ze {a b : Int} (h : a = b) : Ending.returned (.int .i64 a) = .returned (.int .i64 b) := by rw [h]
theorem Afi (a : Int) (w : World) : Calls Tryz.prog 236 #[.int .i64 a] w fun e w' => e = .returned (.bool false) ∧ w = w' := by
 have h : (a != a) = false := by simp
 go_enter Tryz.func236, Tryz.ntmps236
 go_wp2
 go_ret
 exact ⟨Z4 (by simp), rfl⟩
theorem Y8 (a b : Int) (w : World) : Calls Tryz.prog 162 #[.int .i64 a, .int .i64 b] w fun e w' => e = .returned (.int .i64 (ZE a b)) ∧ w = w' := by
 go_enter Tryz.func162, Tryz.ntmps162
 go_wp2_with fail
 refine (Afi _ _).mono ?_;rintro e d ⟨rfl, rfl⟩;go_wp2_with fail
 refine (Afi _ _).mono ?_;rintro e d ⟨rfl, rfl⟩;by_cases c : a < b
 · go_wp2
   go_ret
   exact ⟨Ze (by unfold ZE; rw [if_pos c]), rfl⟩
 · by_cases g : b < a
   · go_wp2
     go_ret
     exact ⟨Ze (by unfold ZE; rw [if_neg (show ¬ a < b by omega), if_pos (show b < a by omega)]), rfl⟩
   · go_wp2
     go_ret
     exact ⟨Ze (by unfold ZE; rw [if_neg (show ¬ a < b by omega), if_neg (show ¬ b < a by omega)]), rfl⟩
theorem AfF {a b : List Int} {k : Nat} {x y : Int} (h : a.take k = b.take k) (hx : a[k]? = some x) (hy : b[k]? = some y) (hc : ZE x y ≠ 0) : Zt a b = ZE x y := by
 have g : a = a.take k ++ x :: a.drop (k + 1) := by
  obtain ⟨d, e⟩ := Lb.1 hx;rw [← e, ← LH d, LD]
 have i : b = b.take k ++ y :: b.drop (k + 1) := by
  obtain ⟨d, e⟩ := Lb.1 hy;rw [← e, ← LH d, LD]
 rw [g, i, h];generalize b.take k = c;clear h g i hx hy
 induction c with
 | nil => rw [Lp, Lp, Zt, if_pos hc]
 | cons z c ih => rw [Ln, Ln, Zt, Yz, if_neg (by simp)]; exact ih
theorem Acv : ∀ {a b : List Int} {k : Nat}, a.take k = b.take k → (k = a.length ∨ k = b.length) → k ≤ a.length → k ≤ b.length → Zt a b = ZE (a.length : Int) (b.length : Int)
 | [], [], _, _, _, _, _ => by simp [Zt, ZE]
 | [], _ :: _, _, _, _, _, _ => by simp [Zt, ZE] <;> omega
 | _ :: _, [], _, _, _, _, _ => by simp [Zt, ZE] <;> omega
 | x :: xs, y :: ys, 0, h, hk, _, _ => by simp at hk
 | x :: xs, y :: ys, k + 1, h, hk, h1, h2 => by
  simp only [L0, N0] at h
  obtain ⟨rfl, h⟩ := h
  rw [Zt, Yz, if_neg (by simp), Acv h (by simpa using hk) (by simpa using h1) (by simpa using h2)]
  unfold ZE
  simp only [Lc]
  repeat' split
  all_goals omega
theorem Adk (A B : Option Addr) (c d : Nat) (a b : List Int) (w : World) (ha : Rd w A (Qi a)) (hb : Rd w B (Qi b)) (hla : a.length ≤ 1000000) (hlb : b.length ≤ 1000000) :
 Calls Tryz.prog 161 #[.slice A a.length c, .slice B b.length d] w fun e w' => e = .returned (.int .i64 (Zt a b)) ∧ Below w.heap.size w w' := by
 obtain ⟨S, g⟩ : ∃ S, S = (fun W => Rd W A (Qi a) ∧ Rd W B (Qi b) ∧ Below w.heap.size w W) := ⟨_, rfl⟩;have am : St S := by rw [g]; infer_instance
 have t : Hid (∀ W, S W → Rd W A (Qi a)) := by show ∀ W, _; rw [g]; exact fun W h => h.1
 have u : Hid (∀ W, S W → Rd W B (Qi b)) := by show ∀ W, _; rw [g]; exact fun W h => h.2.1
 have v : Hid (∀ W, S W → Below w.heap.size w W) := by show ∀ W, _; rw [g]; exact fun W h => h.2.2
 have l : S w := by rw [g]; exact ⟨ha, hb, Below.refl _ _⟩
 clear g ha hb;obtain ⟨m, hm⟩ : ∃ m : Nat, m = Nat.min a.length b.length := ⟨_, rfl⟩
 have r : m ≤ a.length ∧ m ≤ b.length ∧ (m = a.length ∨ m = b.length) := by
  have h : m = min a.length b.length := hm;omega
 clear hm;go_enter Tryz.func161, Tryz.ntmps161
 go_wp2_with fail
 all_goals
  go_loopw [12] (fun i wr => ∃ k : Nat, i = .int .i64 (k : Int) ∧ k ≤ m ∧ Hid (a.take k = b.take k) ∧ S wr) (fun i _ => m - (intOf i).toNat)
  case atStart => exact ⟨0, by simp, Nat.zero_le _, by simp [Hid], l⟩
  case round =>
   clear l;obtain ⟨k, rfl, hk, s, l⟩ := hrel;by_cases ag : k < m
   · have ai : (k : Int) < (m : Int) := by omega
     obtain ⟨e, z⟩ : ∃ e, a[k]? = some e := ⟨_, La (by omega)⟩;obtain ⟨f, hf⟩ : ∃ f, b[k]? = some f := ⟨_, La (by omega)⟩;obtain ⟨ad, ac, _⟩ := QR (t.out _ l) z;obtain ⟨bd, ae, _⟩ := QR (u.out _ l) hf;subst ac ae
     have n : Hid (∀ W, S W → W.cell? (ad.add k) = some (.int .i64 e)) := fun W h => by
      obtain ⟨ab, p, h2⟩ := QR (t.out _ h) z;injection p with p; subst p; exact h2
     have o : Hid (∀ W, S W → W.cell? (bd.add k) = some (.int .i64 f)) := fun W h => by
      obtain ⟨ab, p, h2⟩ := QR (u.out _ h) hf;injection p with p; subst p; exact h2
     have x := Lh z;have y := Lh hf;have ak : (k : Int) < (a.length : Int) := by omega
     have al : (k : Int) < (b.length : Int) := by omega
     have aj : IntKind.i64.wrap ((k : Int) + 1) = (k : Int) + 1 := IntWalk.i64_in _ (by omega);clear z hf;go_wp2_with fail
     refine ZA S (by kernel_rfl) (by kernel_rfl) (St.drew l) ?_;clear l
     iterate 3 (refine Qf rfl ?_ (fun W q => ?_) ?_; rotate_left; (focus (go_simp; exact rfl)); simp only [Act.put, Qa, Qb, Qc])
     (refine Qf rfl ?_ (fun W q => ?_) ?_; rotate_left; (focus (have c := n.out W q; go_simp; exact rfl)); simp only [Act.put, Qa, Qb, Qc])
     iterate 3 (refine Qf rfl ?_ (fun W q => ?_) ?_; rotate_left; (focus (go_simp; exact rfl)); simp only [Act.put, Qa, Qb, Qc])
     (refine Qf rfl ?_ (fun W q => ?_) ?_; rotate_left; (focus (have c := o.out W q; go_simp; exact rfl)); simp only [Act.put, Qa, Qb, Qc]);(refine QB rfl 162 _ (fun W => by (go_simp; try rfl)) (.int .i64 (ZE e f)) (fun W q => (Y8 e f W).mono fun e w' h => ⟨h.1, by rw [← h.2]; exact Below.refl _ _⟩) ?_; simp only [Act.put, Qa, Qb, Qc])
     (refine Qf rfl ?_ (fun W q => ?_) ?_; rotate_left; (focus (go_simp; exact rfl)); simp only [Act.put, Qa, Qb, Qc]);refine QG fun W l => ?_
     by_cases j : ZE e f = 0
     · have ah : (ZE e f != 0) = false := by simp [j]
       have aa : Hid (a.take (k + 1) = b.take (k + 1)) := by
        show _ = _;rw [L6, L6, s.out, x.out, y.out, cmpI_eq.1 j]
       clear n o x y s j;go_wp2_with fail
       go_roundw
       case rel => exact ⟨k + 1, by go_num, by omega, aa, l⟩
       case measure => simp [intOf]; omega
     · have ah : (ZE e f != 0) = true := by simpa using j
       have Hc := Lh (AfF s.out x.out y.out j);clear n o x y s j;go_wp2_with fail
       go_ret
       exact ⟨Ze Hc.out.symm, v.out _ l⟩
   · obtain rfl : k = m := by omega
     have Hc := Lh (Acv s.out r.2.2 r.1 r.2.1);(first | have af : ¬ ((k : Int) < (b.length : Int)) := by omega | have af : ¬ ((k : Int) < (a.length : Int)) := by omega)
     clear ag hk s;go_wp2_with fail
     refine (Y8 _ _ _).mono ?_;rintro e w1 ⟨rfl, rfl⟩;go_wp2_with fail
     go_ret
     exact ⟨Ze Hc.out.symm, v.out _ l⟩
def orL : List Int → Int
 | [] => 0
 | x :: l => if x = 0 then orL l else x
theorem Ahc {a : List Int} {k : Nat} {e : Int} (h : a[k]? = some e) : orL (a.drop k) = if e = 0 then orL (a.drop (k + 1)) else e := by
 obtain ⟨b, rfl⟩ := Lb.1 h;rw [LH b, orL]
theorem AfG (A : Option Addr) (c : Nat) (a : List Int) (w : World) (ha : Rd w A (Qi a)) (hla : a.length ≤ 1000000) :
 Calls Tryz.prog 160 #[.slice A a.length c] w fun e w' => e = .returned (.int .i64 (orL a)) ∧ Below w.heap.size w w' := by
 obtain ⟨S, d⟩ : ∃ S, S = (fun W => Rd W A (Qi a) ∧ Below w.heap.size w W) := ⟨_, rfl⟩;have ac : St S := by rw [d]; infer_instance
 have n : Hid (∀ W, S W → Rd W A (Qi a)) := by show ∀ W, _; rw [d]; exact fun W h => h.1
 have o : Hid (∀ W, S W → Below w.heap.size w W) := by show ∀ W, _; rw [d]; exact fun W h => h.2
 have g : S w := by rw [d]; exact ⟨ha, Below.refl _ _⟩
 clear d ha;go_enter Tryz.func160, Tryz.ntmps160
 go_wp2_with fail
 go_loopw [8] (fun i wr => ∃ k : Nat, i = .int .i64 (k : Int) ∧ k ≤ a.length ∧ Hid (orL a = orL (a.drop k)) ∧ S wr) (fun i _ => a.length - (intOf i).toNat)
 case atStart => exact ⟨0, by simp, Nat.zero_le _, by simp [Hid], g⟩
 case round =>
  clear g;obtain ⟨k, rfl, hk, m, g⟩ := hrel;by_cases t : k < a.length
  · obtain ⟨e, q⟩ : ∃ e, a[k]? = some e := ⟨_, La (by omega)⟩;obtain ⟨x, s, _⟩ := QR (n.out _ g) q;subst s
    have j : Hid (∀ W, S W → W.cell? (x.add k) = some (.int .i64 e)) := fun W h => by
     obtain ⟨y, r, h2⟩ := QR (n.out _ h) q;injection r with r; subst r; exact h2
    have p := Lh (Ahc q);have ab : (k : Int) < (a.length : Int) := by omega
    have z : IntKind.i64.wrap ((k : Int) + 1) = (k : Int) + 1 := IntWalk.i64_in _ (by omega);clear q;have aa := j.out _ g;by_cases b : e = 0
    · have u : (e != 0) = false := by simp [b]
      have l : Hid (orL a = orL (a.drop (k + 1))) := by
       show _ = _;rw [m.out, p.out, if_pos b]
      clear j m p b;go_wp2_with fail
      go_roundw
      case rel => exact ⟨k + 1, by go_num, by omega, l, g⟩
      case measure => simp [intOf]; omega
    · have u : (e != 0) = true := by simpa using b
      have l : Hid (orL a = e) := by
       show _ = _;rw [m.out, p.out, if_neg b]
      clear j m p b;go_wp2_with fail
      go_ret
      exact ⟨Ze l.out.symm, o.out _ g⟩
  · obtain rfl : k = a.length := by omega
    have v : Hid (orL a = 0) := by
     show _ = _;rw [m.out, List.drop_length, orL]
    clear t hk m;go_wp2_with fail
    go_ret
    exact ⟨Ze v.out.symm, o.out _ g⟩
structure DlV where
 A : Option Addr
 cap : Nat
 d : Dl
def DlV.cells (x : DlV) : Array Value := #[.slice x.A x.d.path.length x.cap, .int .i64 x.d.op, .int .i64 x.d.n]
structure DlOk (W : World) (x : DlV) : Prop where
 rd : Rd W x.A (Qi x.d.path)
 len : x.d.path.length ≤ 1000000
theorem Af8 (a b c : Int) : orL [a, b, c] = orI a (orI b c) := by
 unfold orL orL orL orL orI
 repeat' split
 all_goals first | rfl | omega
theorem AaQ (x y : DlV) (w : World) (hx : DlOk w x) (hy : DlOk w y) :
 Calls Tryz.prog 80 #[.agg x.cells, .agg y.cells] w fun e w' => e = .returned (.int .i64 (JL x.d y.d)) ∧ Below w.heap.size w w' := by
 obtain ⟨A, r, ⟨a, l, p⟩⟩ := x;obtain ⟨B, s, ⟨b, m, q⟩⟩ := y;obtain ⟨ha, t⟩ := hx;obtain ⟨hb, z⟩ := hy;simp only at ha t hb z;unfold DlV.cells;show Calls _ _ #[.agg #[.slice A a.length r, .int .i64 l, .int .i64 p], .agg #[.slice B b.length s, .int .i64 m, .int .i64 q]] _ _;have Ha := Lh ha;have Hb := Lh hb;clear ha hb;go_enter Tryz.func80, Tryz.ntmps80
 go_wp2_with (refine Qn _ _ rfl ?_)
 refine Stop.to ?_;refine Qe rfl 35 _ rfl #[.slice A a.length r, .int .i64 l, .int .i64 p] rfl ?_;intro G Gw Gh Gr Gb;go_wp2_with (refine Qn _ _ rfl ?_)
 refine Stop.to ?_;refine Qe rfl 35 _ rfl #[.slice B b.length s, .int .i64 m, .int .i64 q] rfl ?_;intro J Jw Jh Jr Jb;have rG := Gr.below Jb (Ld Gr.lt Jh);have b1 := (Below.refl w.heap.size w).trans (Gb.mono Gh);have b2 := b1.trans ((Jb.mono Jh).mono b1.size);obtain ⟨S, n⟩ : ∃ S, S = (fun W => (Row W G 35 #[.slice A a.length r, .int .i64 l, .int .i64 p] ∧ Row W J 35 #[.slice B b.length s, .int .i64 m, .int .i64 q]) ∧ (Rd W A (Qi a) ∧ Rd W B (Qi b)) ∧ Below w.heap.size w W) := ⟨_, rfl⟩;have aa : St S := by rw [n]; infer_instance
 have T0 : Hid (∀ W, S W → Row W G 35 #[.slice A a.length r, .int .i64 l, .int .i64 p]) := by show ∀ W, _; rw [n]; exact fun W h => h.1.1
 have T1 : Hid (∀ W, S W → Row W J 35 #[.slice B b.length s, .int .i64 m, .int .i64 q]) := by show ∀ W, _; rw [n]; exact fun W h => h.1.2
 have T2 : Hid (∀ W, S W → Rd W A (Qi a)) := by show ∀ W, _; rw [n]; exact fun W h => h.2.1.1
 have T3 : Hid (∀ W, S W → Rd W B (Qi b)) := by show ∀ W, _; rw [n]; exact fun W h => h.2.1.2
 have T4 : Hid (∀ W, S W → Below w.heap.size w W) := by show ∀ W, _; rw [n]; exact fun W h => h.2.2
 have hS : S Jw := by rw [n]; exact ⟨⟨rG, Jr⟩, ⟨Rd.go Ha.out b2, Rd.go Hb.out b2⟩, b2⟩
 clear n rG Gr Jr Gb Jb b1 b2 Gh Jh Ha Hb;go_wp2_with fail
 refine Zo S 15 (by kernel_rfl) (by kernel_rfl) (St.drew hS) ?_;clear hS;simp only [L0, LE, Ly, L8];(refine Qf rfl ?_ (fun W g => ?_) ?_; rotate_left; (focus (go_simp; exact rfl)); simp only [Act.put, Qa, Qb, Qc]);(refine Qf rfl ?_ (fun W g => ?_) ?_; rotate_left; (focus (have c := (T0.out W g).cellv (i := 0) (v := .slice A a.length r) rfl; go_simp; exact rfl)); simp only [Act.put, Qa, Qb, Qc]);(refine Qf rfl ?_ (fun W g => ?_) ?_; rotate_left; (focus (go_simp; exact rfl)); simp only [Act.put, Qa, Qb, Qc]);(refine Qf rfl ?_ (fun W g => ?_) ?_; rotate_left; (focus (have c := (T1.out W g).cellv (i := 0) (v := .slice B b.length s) rfl; go_simp; exact rfl)); simp only [Act.put, Qa, Qb, Qc]);(refine QB rfl 161 _ (fun W => by (go_simp; try rfl)) (.int .i64 (Zt a b)) (fun W g => Adk A B r s a b W (T2.out W g) (T3.out W g) t z) ?_; simp only [Act.put, Qa, Qb, Qc])
 (refine Qf rfl ?_ (fun W g => ?_) ?_; rotate_left; (focus (go_simp; exact rfl)); simp only [Act.put, Qa, Qb, Qc]);(refine Qf rfl ?_ (fun W g => ?_) ?_; rotate_left; (focus (have c := (T0.out W g).cellv (i := 1) (v := .int .i64 l) rfl; go_simp; exact rfl)); simp only [Act.put, Qa, Qb, Qc]);(refine Qf rfl ?_ (fun W g => ?_) ?_; rotate_left; (focus (go_simp; exact rfl)); simp only [Act.put, Qa, Qb, Qc]);(refine Qf rfl ?_ (fun W g => ?_) ?_; rotate_left; (focus (have c := (T1.out W g).cellv (i := 1) (v := .int .i64 m) rfl; go_simp; exact rfl)); simp only [Act.put, Qa, Qb, Qc]);(refine QB rfl 162 _ (fun W => by (go_simp; try rfl)) (.int .i64 (ZE l m)) (fun W g => (Y8 l m W).mono fun e w' h => ⟨h.1, by rw [← h.2]; exact Below.refl _ _⟩) ?_; simp only [Act.put, Qa, Qb, Qc])
 (refine Qf rfl ?_ (fun W g => ?_) ?_; rotate_left; (focus (go_simp; exact rfl)); simp only [Act.put, Qa, Qb, Qc]);(refine Qf rfl ?_ (fun W g => ?_) ?_; rotate_left; (focus (have c := (T0.out W g).cellv (i := 2) (v := .int .i64 p) rfl; go_simp; exact rfl)); simp only [Act.put, Qa, Qb, Qc]);(refine Qf rfl ?_ (fun W g => ?_) ?_; rotate_left; (focus (go_simp; exact rfl)); simp only [Act.put, Qa, Qb, Qc]);(refine Qf rfl ?_ (fun W g => ?_) ?_; rotate_left; (focus (have c := (T1.out W g).cellv (i := 2) (v := .int .i64 q) rfl; go_simp; exact rfl)); simp only [Act.put, Qa, Qb, Qc]);(refine QB rfl 162 _ (fun W => by (go_simp; try rfl)) (.int .i64 (ZE p q)) (fun W g => (Y8 p q W).mono fun e w' h => ⟨h.1, by rw [← h.2]; exact Below.refl _ _⟩) ?_; simp only [Act.put, Qa, Qb, Qc])
 refine QG fun W g => ?_
 go_wp2_with (refine Zw _ _ _ rfl ?_)
 refine Stop.to ?_;refine Qy rfl 22 3 _ rfl 3 #[.int .i64 (Zt a b), .int .i64 (ZE l m), .int .i64 (ZE p q)] (fun W => by kernel_rfl) ?_;intro M Mw Mh Mr Mb;have bM := (T4.out _ g).trans ((Mb.mono Mh).mono (T4.out _ g).size);go_wp2_with fail
 refine (AfG _ 3 [Zt a b, ZE l m, ZE p q] _ ?_ (by simp)).mono ?_
 · intro j u o;refine ⟨_, rfl, ?_⟩;have h0 := Mr.cellv (i := 0) (v := .int .i64 (Zt a b)) rfl;have h1 := Mr.cellv (i := 1) (v := .int .i64 (ZE l m)) rfl;have h2 := Mr.cellv (i := 2) (v := .int .i64 (ZE p q)) rfl
   match j, o with
   | 0, o => injection o with o; subst o; exact h0
   | 1, o => injection o with o; subst o; exact h1
   | 2, o => injection o with o; subst o; exact h2
   | k + 3, o => simp [Qi] at o
 rintro e w1 ⟨rfl, bO⟩;go_wp2_with fail
 go_ret
 exact ⟨Ze (Af8 _ _ _), bM.trans (bO.mono bM.size)⟩
theorem DlOk.go {W W' : World} {x : DlV} (h : DlOk W x) (b : Below W.heap.size W W') : DlOk W' x := ⟨Rd.go h.rd b, h.len⟩
theorem Aee (x y : DlV) (w : World) (hx : DlOk w x) (hy : DlOk w y) :
 Calls Tryz.prog 35 #[.agg x.cells, .agg y.cells] w fun e w' => e = .returned (.bool (decide (JL x.d y.d = 0))) ∧ Below w.heap.size w w' := by
 have r := Lh hx.rd;have s := Lh hy.rd;have n := hx.len;have o := hy.len;clear hx hy;go_enter Tryz.func35, Tryz.ntmps35
 go_wp2_with (refine Qn _ _ rfl ?_)
 refine Stop.to ?_;refine Qe rfl 35 _ rfl x.cells rfl ?_;intro G Gw q j p;go_wp2_with (refine Qn _ _ rfl ?_)
 refine Stop.to ?_;refine Qe rfl 35 _ rfl y.cells rfl ?_;intro J v l t k;have u := j.below k (Ld j.lt l);have m := (Below.refl w.heap.size w).trans (p.mono q);have g := m.trans ((k.mono l).mono m.size);obtain ⟨S, b⟩ : ∃ S, S = (fun W => (Row W G 35 x.cells ∧ Row W J 35 y.cells) ∧ (Rd W x.A (Qi x.d.path) ∧ Rd W y.A (Qi y.d.path)) ∧ Below w.heap.size w W) := ⟨_, rfl⟩;have aa : St S := by rw [b]; infer_instance
 have z : Hid (∀ W, S W → Row W G 35 x.cells) := by show ∀ W, _; rw [b]; exact fun W h => h.1.1
 have T1 : Hid (∀ W, S W → Row W J 35 y.cells) := by show ∀ W, _; rw [b]; exact fun W h => h.1.2
 have T2 : Hid (∀ W, S W → Rd W x.A (Qi x.d.path)) := by show ∀ W, _; rw [b]; exact fun W h => h.2.1.1
 have T3 : Hid (∀ W, S W → Rd W y.A (Qi y.d.path)) := by show ∀ W, _; rw [b]; exact fun W h => h.2.1.2
 have T4 : Hid (∀ W, S W → Below w.heap.size w W) := by show ∀ W, _; rw [b]; exact fun W h => h.2.2
 have i : S v := by rw [b]; exact ⟨⟨u, t⟩, ⟨Rd.go r.out g, Rd.go s.out g⟩, g⟩
 clear b u j t p k m g q l r s;go_wp2_with (refine AhS _ _ rfl ?_)
 refine Stop.to ?_;refine Acd S 4 i ?_;clear i;simp only [L0, LE, Ly, L8];(refine QD rfl 35 _ rfl (G) rfl 35 _ _ (fun W c => z.out W c) Tryz.underlying35 rfl (by kernel_rfl) ?_; simp only [Act.put, Qa, Qb, Qc]);(refine QD rfl 35 _ rfl (J) rfl 35 _ _ (fun W c => T1.out W c) Tryz.underlying35 rfl (by kernel_rfl) ?_; simp only [Act.put, Qa, Qb, Qc]);(refine QB rfl 80 _ (fun W => by (go_simp; try rfl)) (.int .i64 (JL x.d y.d)) (fun W c => AaQ x y W ⟨T2.out W c, n⟩ ⟨T3.out W c, o⟩) ?_; simp only [Act.put, Qa, Qb, Qc])
 (refine Qf rfl ?_ (fun W c => ?_) ?_; rotate_left; (focus (go_simp; exact rfl)); simp only [Act.put, Qa, Qb, Qc]);refine QG fun W i => ?_
 go_wp2_with fail
 go_ret
 exact ⟨Z4 (by by_cases h : JL x.d y.d = 0 <;> simp [h]), T4.out _ i⟩
structure MtV where
 A : Option Addr
 cap : Nat
 m : Mt
def MtV.dl (x : MtV) : DlV := ⟨x.A, x.cap, x.m.d⟩
def MtV.cells (x : MtV) : List Value := [.slice x.A x.m.d.path.length x.cap, .int .i64 x.m.d.op, .int .i64 x.m.d.n, .int .i64 x.m.verdict, .int .i64 x.m.test, .int .i64 x.m.kind, .int .i64 x.m.value, .string ⟨x.m.digest.toArray⟩]
structure MtOk (W : World) (x : MtV) : Prop where
 rd : Rd W x.A (Qi x.m.d.path)
 len : x.m.d.path.length ≤ 1000000
 nil : x.A = none → x.m.d.path = []
 dig : x.m.digest.length ≤ 1000000
theorem MtOk.go {W W' : World} {x : MtV} (h : MtOk W x) (b : Below W.heap.size W W') : MtOk W' x := ⟨Rd.go h.rd b, h.len, h.nil, h.dig⟩
theorem MtOk.dl {W : World} {x : MtV} (h : MtOk W x) : DlOk W x.dl := ⟨h.rd, h.len⟩
instance St.mtok {x : MtV} : St (fun W => MtOk W x) := ⟨fun h b => h.go b⟩
instance St.mtsok {l : List MtV} : St (fun W => ∀ x ∈ l, MtOk W x) := ⟨fun h b x hx => (h x hx).go b⟩
theorem Ai0 {W : World} {G : Nat} {t : TypeId} {x : MtV} (h : Row W G t x.cells.toArray) : ∀ j v, x.dl.cells.toList[j]? = some v → W.cell? ((⟨G, 0, none⟩ : Addr).add j) = some v :=
 Row.from_ (cur := x.cells.toArray) h 0 (fun j v hj => by
  match j, hj with
  | 0, hj | 1, hj | 2, hj => exact hj
  | j + 3, hj => simp [DlV.cells] at hj)
theorem Ado (a b : Mt) : (¬ JL a.d b.d = 0 → Xu a b = false) ∧ (¬ a.verdict = b.verdict → Xu a b = false) ∧ (¬ a.test = b.test → Xu a b = false) ∧ (¬ a.kind = b.kind → Xu a b = false) ∧ (¬ a.value = b.value → Xu a b = false) ∧ (JL a.d b.d = 0 → a.verdict = b.verdict → a.test = b.test → a.kind = b.kind → a.value = b.value → Xu a b = (a.digest == b.digest)) := by
 unfold Xu;refine ⟨fun h => ?_, fun h => ?_, fun h => ?_, fun h => ?_, fun h => ?_, fun c g i j k => ?_⟩
 all_goals (first | simp [h]; done | (simp [c, g, i, j, k]; by_cases e : a.digest = b.digest <;> simp [e]))
theorem EE (x y : MtV) (w : World) (hx : MtOk w x) (hy : MtOk w y) :
 Calls Tryz.prog 32 #[.agg x.cells.toArray, .agg y.cells.toArray] w fun e w' => e = .returned (.bool (Xu x.m y.m)) ∧ Below w.heap.size w w' := by
 have Ha := Lh hx;have Hb := Lh hy;clear hx hy;go_enter Tryz.func32, Tryz.ntmps32
 go_wp2_with (refine Qn _ _ rfl ?_)
 refine Stop.to ?_;refine Qe rfl 54 _ rfl x.cells.toArray rfl ?_;intro G Gw Gh q Gb;go_wp2_with (refine Qn _ _ rfl ?_)
 refine Stop.to ?_;refine Qe rfl 54 _ rfl y.cells.toArray rfl ?_;intro J Jw s n r;have l := q.below r (Ld q.lt s);have t := (Below.refl w.heap.size w).trans (Gb.mono Gh);have j := t.trans ((r.mono s).mono t.size);have Hs := Lh (Aee x.dl y.dl Jw (Ha.out.go j).dl (Hb.out.go j).dl);go_wp2_with (first | (refine QE rfl 35 _ rfl ⟨G, 0, none⟩ rfl x.dl.cells.toList _ (Ai0 l) Tryz.underlying35 rfl (by kernel_rfl) ?_) | (refine QE rfl 35 _ rfl ⟨J, 0, none⟩ rfl y.dl.cells.toList _ (Ai0 n) Tryz.underlying35 rfl (by kernel_rfl) ?_))
 refine Hs.out.mono ?_;rintro e w1 ⟨rfl, o⟩;have g := l.below o (by have := l.lt; exact l.lt);have h := n.below o n.lt;have c1 := g.cellv (i := 3) (v := .int .i64 x.m.verdict) rfl;have c2 := g.cellv (i := 4) (v := .int .i64 x.m.test) rfl;have c3 := g.cellv (i := 7) (v := .string ⟨x.m.digest.toArray⟩) rfl;have d1 := h.cellv (i := 3) (v := .int .i64 y.m.verdict) rfl;have d2 := h.cellv (i := 4) (v := .int .i64 y.m.test) rfl;have d3 := h.cellv (i := 7) (v := .string ⟨y.m.digest.toArray⟩) rfl;have c5 := g.cellv (i := 5) (v := .int .i64 x.m.kind) rfl;have c6 := g.cellv (i := 6) (v := .int .i64 x.m.value) rfl;have d5 := h.cellv (i := 5) (v := .int .i64 y.m.kind) rfl;have d6 := h.cellv (i := 6) (v := .int .i64 y.m.value) rfl;have c := j.trans (o.mono j.size);clear Ha Hb Hs l q Gb n r t j o Gh s g h;have b := Lh (Ado x.m y.m);by_cases h1 : JL x.dl.d y.dl.d = 0;rotate_left
 · go_wp2_with fail
   go_ret
   exact ⟨Z4 (b.out.1 h1), c⟩
 by_cases h2 : x.m.verdict = y.m.verdict;rotate_left
 · go_wp2_with fail
   go_ret
   exact ⟨Z4 (b.out.2.1 h2), c⟩
 by_cases h3 : x.m.test = y.m.test;rotate_left
 · go_wp2_with fail
   go_ret
   exact ⟨Z4 (b.out.2.2.1 h3), c⟩
 by_cases p : x.m.kind = y.m.kind;rotate_left
 · have u := Lh p;have k : (x.m.kind == y.m.kind) = false := by simpa using p
   clear p;go_wp2_with fail
   go_ret
   exact ⟨Z4 (b.out.2.2.2.1 u.out), c⟩
 by_cases k : x.m.value = y.m.value;rotate_left
 · have z := Lh k;have h6 : (x.m.value == y.m.value) = false := by simpa using k
   clear k;go_wp2_with fail
   go_ret
   exact ⟨Z4 (b.out.2.2.2.2.1 z.out), c⟩
 · go_wp2_with fail
   go_ret
   exact ⟨Z4 (b.out.2.2.2.2.2 h1 h2 h3 p k), c⟩
theorem Vb {α : Type} {c : α → List Value} {sz : Nat} (hsz : ∀ x, (c x).length = sz) (h0 : 0 < sz) {W : World} {A : Option Addr} {l : List α} (hr : Rd W A (l.flatMap c)) {k : Nat} {x : α} (hx : l[k]? = some x) :
 ∃ ad, A = some ad ∧ ∀ j u, (c x)[j]? = some u → W.cell? ((ad.add (k * sz)).add j) = some u := by
 have d : ∀ (l : List α) (k : Nat) (x : α), l[k]? = some x → ∀ j u, (c x)[j]? = some u → (l.flatMap c)[k * sz + j]? = some u := by
  intro l
  induction l with
  | nil => intro k x h; simp at h
  | cons y l ih =>
   intro k x h j u b;rw [LC]
   match k, h with
   | 0, h =>
    simp at h; subst h;rw [NF, LI, Lw (Lb.1 b).1]; exact b
   | k + 1, h =>
    rw [Nl] at h;rw [Ls (by rw [hsz, Nat.add_mul]; omega), hsz, show (k + 1) * sz + j - sz = k * sz + j by rw [Nat.add_mul]; omega];exact ih k x h j u b
 exact hr.part (k * sz) (c x) (d l k x hx) (fun e => by have := hsz x; rw [e] at this; simp at this; omega)
end Go.Proofs.YtdcmppdhdcjpfaaGreat
namespace Go.Proofs.YtdcmppdhdcjpfaaGreat
open Go.ChangeShapes Go.WideShapes Go.RowKit Go.Deep
theorem Ad4 : Tryz.prog.cellsOf 85 = 2 := by kernel_rfl
theorem Ad5 : Tryz.prog.cellsOf 25 = 3 := by kernel_rfl
theorem Ad3 : Tryz.prog.cellsOf 22 = 1 := by kernel_rfl
theorem Acr : Tryz.prog.cellsOf 23 = 1 := by kernel_rfl
structure IntsV where
 addr : Option Addr
 cap : Nat
 l : List Int
def IntsV.val (r : IntsV) : Value := .slice r.addr r.l.length r.cap
structure IntsV.ok (r : IntsV) (w : World) : Prop where
 len : r.l.length ≤ r.cap
 cap : r.cap ≤ maxLen
 nil : r.addr = none → r.cap = 0
 reads : Rd w r.addr (Qi r.l)
 all : ∀ x ∈ r.l, InI x
theorem IntsV.ok.go {r : IntsV} {w w' : World} (h : r.ok w) (b : Below w.heap.size w w') : r.ok w' := ⟨h.len, h.cap, h.nil, h.reads.go b, h.all⟩
instance St.intsok {r : IntsV} : St (fun W => r.ok W) := ⟨fun h b => h.go b⟩
def PgV.val (p : PgV) : Value := .agg p.cells
section
variable {H : Type} {enc : TypeId × Value → H} {w : World} {base : Nat} {spare : Nat → Bool} {held : Bool}
theorem Af5 {fuel : Nat} {cs : List Value} {x : DataW H × List MemPlace} (h : DataW.trod enc Tryz.prog w base spare held fuel 3 cs = some x) : ∃ n : Int, cs = [.int .i64 n] ∧ InI n := by
 obtain ⟨n, e, h⟩ := XQ Tryz.underlying3 h;exact ⟨n, e, h⟩
theorem Af6 {fuel : Nat} {cs : List Value} {x : DataW H × List MemPlace} (h : DataW.trod enc Tryz.prog w base spare held fuel 85 cs = some x) : ∃ e : Nd, cs = e.cells ∧ InI e.tag ∧ InI e.n := by
 obtain ⟨l, n, i⟩ := YV Tryz.underlying85 h;have c : cs.length = 2 := l.trans Ad4
 match cs, c with
 | [a, b], _ =>
  obtain ⟨_, j⟩ := i 0 _ rfl;obtain ⟨_, k⟩ := i 1 _ rfl;obtain ⟨m, d, p⟩ := XQ Tryz.underlying3 j;obtain ⟨o, g, q⟩ := XQ Tryz.underlying3 k;simp [AaL] at d g;exact ⟨⟨m, o⟩, by rw [d, g]; rfl, p, q⟩
theorem AfR (l : List Int) : l.flatMap (fun n => [Value.int .i64 n]) = Qi l := by
 induction l with
 | nil => rfl
 | cons a l ih => rw [LC, ih]; rfl
theorem EJ {fuel : Nat} {cs : List Value} {x : DataW H × List MemPlace} (h : DataW.trod enc Tryz.prog w base spare held fuel 22 cs = some x) : ∃ r : IntsV, r.ok w ∧ cs = [r.val] := by
 obtain ⟨A, b, e, rfl, g, j, m, q, i, k⟩ := UT Tryz.underlying22 h;obtain ⟨l, rfl, c⟩ := Ut (fun n : Int => [Value.int .i64 n]) InI e (fun p d => by obtain ⟨n, y, o⟩ := k p d; exact Af5 o);rw [L3] at g;refine ⟨⟨A, b, l⟩, ⟨g, j, m, ?_, c⟩, by rw [L3]; rfl⟩;rw [← List.flatMap_def, AfR] at i;exact i
theorem Adg {fuel : Nat} {cs : List Value} {x : DataW H × List MemPlace} (h : DataW.trod enc Tryz.prog w base spare held fuel 23 cs = some x) :
 ∃ (A : Option Addr) (cap : Nat) (l : List Nd), cs = [.slice A l.length cap] ∧ l.length ≤ cap ∧ cap ≤ maxLen ∧ (A = none → cap = 0) ∧ Rd w A (l.flatMap Nd.cells) ∧ ∀ e ∈ l, InI e.tag ∧ InI e.n := by
 obtain ⟨A, cap, d, rfl, g, i, m, q, j, k⟩ := UT Tryz.underlying23 h;obtain ⟨l, rfl, b⟩ := Ut Nd.cells (fun e => InI e.tag ∧ InI e.n) d (fun p c => by obtain ⟨n, y, o⟩ := k p c; exact Af6 o);rw [L3] at g;exact ⟨A, cap, l, by rw [L3], g, i, m, by rw [List.flatMap_def]; exact j, b⟩
theorem AeA {fuel : Nat} {cs : List Value} {x : DataW H × List MemPlace} (h : DataW.trod enc Tryz.prog w base spare held fuel 25 cs = some x) : ∃ p : PgV, p.ok w ∧ cs = p.cells.toList := by
 obtain ⟨z, n, e⟩ := YV Tryz.underlying25 h;have g : cs.length = 3 := z.trans Ad5
 match cs, g with
 | [a, b, c], _ =>
  obtain ⟨_, u⟩ := e 0 _ rfl;obtain ⟨_, v⟩ := e 1 _ rfl;obtain ⟨_, y⟩ := e 2 _ rfl;obtain ⟨n0, i, w0⟩ := XQ Tryz.underlying3 u;obtain ⟨r, d, j⟩ := EJ v;obtain ⟨A, cap, l, k, m, o, q, s, t⟩ := Adg y;simp [AaL, Ad3, Acr] at i j k;exact ⟨⟨n0, r.addr, r.cap, r.l, A, cap, l⟩, ⟨w0, d.len, d.cap, d.nil, d.reads, d.all, m, o, q, s, t⟩, by rw [i, j, k]; rfl⟩
theorem Af7 {r : Go.Reach} {b0 : Nat} {v : Value} {d : DataW H} {p : List MemPlace} (hv : Value.okWide Tryz.prog w r b0 25 v) (h : DataW.Trod enc Tryz.prog w base spare held 25 v d p) : ∃ p : PgV, p.ok w ∧ v = p.val := by
 obtain ⟨g, rfl, b, x, e⟩ := AdB Tryz.underlying25 hv h;obtain ⟨p, c, rfl⟩ := AeA e;exact ⟨p, c, rfl⟩
end
end Go.Proofs.YtdcmppdhdcjpfaaGreat
namespace Go.Proofs.YtdcmppdhdcjpfaaGreat
open Go.RowKit Go.Deep
theorem KU {α : Type} {c : α → Value} {W : World} {A : Option Addr} {l : List α} (hr : Rd W A (l.map c)) {k : Nat} {x : α} (hx : l[k]? = some x) : ∃ ad, A = some ad ∧ W.cell? (ad.add k) = some (c x) :=
 hr k _ (by simp [hx])
instance St.intsok_all {l : List IntsV} : St (fun W => ∀ x ∈ l, x.ok W) := ⟨fun h b x hx => (h x hx).go b⟩
instance : DecidableEq Mt := fun a b => decidable_of_iff (Xu a b = true) sameM_iff
def Ka (l : List IntsV) : List Value := l.map IntsV.val
def AcH {α : Type} (p : α → Bool) (l : List α) : Int := match l.findIdx? p with | some i => (i : Int) | none => -1
theorem AcJ {α : Type} {p : α → Bool} {l : List α} {k : Nat} {x : α} (h : ∀ y ∈ l.take k, p y = false) (hx : l[k]? = some x) (hp : p x = true) : AcH p l = (k : Int) := by
 unfold AcH;have b := (Lb.1 hx).1
 have : l.findIdx? p = some k := by
  rw [List.findIdx?_eq_some_iff_getElem];refine ⟨b, by rw [(Lb.1 hx).2]; exact hp, fun j c => ?_⟩;rw [h _ (List.mem_take_iff_getElem.2 ⟨j, by omega, rfl⟩)]; simp
 rw [this]
theorem Afa {α : Type} {p : α → Bool} {l : List α} (h : ∀ y ∈ l, p y = false) : AcH p l = -1 := by
 unfold AcH;have : l.findIdx? p = none := by rw [List.findIdx?_eq_none_iff]; exact h
 rw [this]
theorem AcI {α : Type} (p : α → Bool) (l : List α) : decide (0 ≤ AcH p l) = l.any p := by
 unfold AcH;cases h : l.findIdx? p with
 | none =>
  rw [List.findIdx?_eq_none_iff] at h;simp; intro x d; simpa using h x d
 | some i =>
  rw [List.findIdx?_eq_some_iff_getElem] at h;obtain ⟨b, c, _⟩ := h;simp; exact ⟨l[i], List.getElem_mem b, c⟩
theorem Yr {α : Type} {p : α → Bool} {l : List α} {k : Nat} {x : α} (h : ∀ y ∈ l.take k, p y = false) (hx : l[k]? = some x) (hp : p x = false) : ∀ y ∈ l.take (k + 1), p y = false := by
 rw [L6, hx];intro y b;rcases Lz.1 b with b | b
 · exact h y b
 · simp at b; subst b; exact hp
theorem AfP (A : Option Addr) (cap : Nat) (l : List Nd) (p : Nd → Bool) (w : World) (S : World → Prop) [stS : St S] (hS : S w) (hrd : ∀ W, S W → Rd W A (l.flatMap Nd.cells)) (hlo : ∀ W, S W → Below w.heap.size w W)
 (hp : ∀ x ∈ l, ∀ W, S W → Calls Tryz.prog 176 #[.agg x.cells.toArray] W fun e W' => e = .returned (.bool (p x)) ∧ Below W.heap.size W W') (hl : l.length ≤ 1000000) :
 Calls Tryz.prog 237 #[.slice A l.length cap, .func (.func 176) #[] #[]] w fun e w' => e = .returned (.int .i64 (AcH p l)) ∧ Below w.heap.size w w' := by
 have Hp := Lh hp;have r := Lh hrd;have m := Lh hlo;have aa : (l.length : Int) ≤ 1000000 := by omega
 clear hp hrd hlo hl;go_enter Tryz.func237, Tryz.ntmps237
 go_wp2
 go_loopw [8] (fun i wr => ∃ k : Nat, i = .int .i64 (k : Int) ∧ k ≤ l.length ∧ Hid (∀ y ∈ l.take k, p y = false) ∧ S wr) (fun i _ => l.length - (intOf i).toNat)
 case atStart => exact ⟨0, rfl, Nat.zero_le _, Lh (fun x g => by simp at g), hS⟩
 case round =>
  clear hS;obtain ⟨k, rfl, hk, b, hS⟩ := hrel;by_cases d : k < l.length
  · obtain ⟨x, g⟩ : ∃ x, l[k]? = some x := ⟨_, La d⟩;obtain ⟨t, s, o⟩ := Z9 (r.out _ hS) g;have h : Hid (∀ j u, x.cells[j]? = some u → wr.cell? ((t.add (k * 2)).add j) = some u) := o;have q := Lh g;have c := Lh (Hp.out x (Lf g) wr hS);have z : (k : Int) < (l.length : Int) := by omega
    clear g d o;subst s;go_wp2_with (refine QE rfl 85 _ rfl (t.add (k * 2)) rfl x.cells _ h.out Tryz.underlying85 rfl (by kernel_rfl) ?_)
    refine c.out.mono ?_;rintro e w' ⟨rfl, v⟩;replace hS := stS.go hS v;clear v c h;cases hs : p x
    · have n := Lh (Yr b.out q.out hs);clear hs q;go_wp2_with fail
      go_roundw
      case rel => exact ⟨k + 1, by go_num, by omega, n, hS⟩
      case measure => simp [intOf]; omega
    · have n := Lh (AcJ b.out q.out hs);clear hs q;go_wp2_with fail
      go_ret
      exact ⟨by rw [n.out]; rfl, m.out _ hS⟩
  · obtain rfl : k = l.length := by omega
    have n := Lh (Afa (p := p) (l := l) (by have := b.out; rwa [LO] at this));clear d hk;go_wp2
    go_ret
    exact ⟨by rw [n.out]; rfl, m.out _ hS⟩
theorem Aeb (A : Option Addr) (cap : Nat) (l : List Nd) (p : Nd → Bool) (w : World) (S : World → Prop) [stS : St S] (hS : S w) (hrd : ∀ W, S W → Rd W A (l.flatMap Nd.cells)) (hlo : ∀ W, S W → Below w.heap.size w W)
 (hp : ∀ x ∈ l, ∀ W, S W → Calls Tryz.prog 176 #[.agg x.cells.toArray] W fun e W' => e = .returned (.bool (p x)) ∧ Below W.heap.size W W') (hl : l.length ≤ 1000000) :
 Calls Tryz.prog 175 #[.slice A l.length cap, .func (.func 176) #[] #[]] w fun e w' => e = .returned (.bool (l.any p)) ∧ Below w.heap.size w w' := by
 have b := Lh (AfP A cap l p w S hS hrd hlo hp hl);clear hp hrd hlo hl hS;go_enter Tryz.func175, Tryz.ntmps175
 go_wp2_with fail
 refine b.out.mono ?_;rintro e w' ⟨rfl, d⟩;have c := Lh (AcI p l);clear b;go_wp2_with fail
 go_ret
 exact ⟨Z4 c.out.symm, d⟩
theorem Ad6 (x : Nd) (w : World) :
 Calls Tryz.prog 176 #[.agg x.cells.toArray] w fun e w' => e = .returned (.bool (decide (Qq x < 0))) ∧ Below w.heap.size w w' := by
 go_enter Tryz.func176, Tryz.ntmps176
 go_wp2_with (refine Qn _ _ rfl ?_)
 refine Stop.to ?_;refine Qe rfl 85 _ rfl x.cells.toArray rfl ?_;intro G j d g c;have b := (Below.refl w.heap.size w).trans (c.mono d);have h := Lh (XH x j);clear c d;go_wp2_with (refine wpList_load_row rfl 85 _ rfl G rfl 85 x.cells.toArray (0, 0) _ g Tryz.underlying85 rfl (by kernel_rfl) ?_)
 refine h.out.mono ?_;rintro e l ⟨rfl, i⟩;have k := b.trans (i.mono b.size);clear h g b i;go_wp2_with fail
 go_ret
 exact ⟨rfl, k⟩
def El (l : List IntsV) : Bool := decide (l.length ≤ 40 ∧ ∀ x ∈ l, x.l.length ≤ 40)
theorem YI {α : Type} {p : α → Prop} {l : List α} {k : Nat} {x : α} (h : ∀ y ∈ l.take k, p y) (hx : l[k]? = some x) (hp : p x) : ∀ y ∈ l.take (k + 1), p y := by
 rw [L6, hx];intro y b;rcases Lz.1 b with b | b
 · exact h y b
 · simp at b; subst b; exact hp
theorem AgO (A : Option Addr) (cap : Nat) (l : List IntsV) (w : World) (hr : Rd w A (Ka l)) :
 Calls Tryz.prog 67 #[.slice A l.length cap] w fun e w' => e = .returned (.bool (El l)) ∧ w = w' := by
 have z := Lh hr;clear hr;by_cases b : l.length ≤ 40;rotate_left
 · have d : El l = false := by unfold El; rw [decide_eq_false_iff_not]; exact fun h => b h.1
   have j := Lh d;have r : (40 : Int) < (l.length : Int) := by omega
   clear d b;go_enter Tryz.func67, Tryz.ntmps67
   go_wp2
   go_ret
   exact ⟨Z4 j.out, rfl⟩
 have r : (l.length : Int) ≤ 40 := by omega
 have q := Lh b;clear b;go_enter Tryz.func67, Tryz.ntmps67
 go_wp2
 go_loop [3] (fun i => ∃ k : Nat, i = .int .i64 (k : Int) ∧ k ≤ l.length ∧ Hid (∀ x ∈ l.take k, x.l.length ≤ 40)) (fun i => l.length - (intOf i).toNat)
 case atStart => exact ⟨0, rfl, Nat.zero_le _, Lh (fun x n => by simp at n)⟩
 case round =>
  obtain ⟨k, rfl, hk, c⟩ := hrel;by_cases g : k < l.length
  · obtain ⟨x, n⟩ : ∃ x, l[k]? = some x := ⟨_, La g⟩;obtain ⟨ad, s, m⟩ := KU z.out n;have hc : w.cell? (ad.add k) = some (.slice x.addr x.l.length x.cap) := m;have u := Lh n;have v : (k : Int) < (l.length : Int) := by omega
    clear n g m;subst s;by_cases o : x.l.length ≤ 40
    · have t : (x.l.length : Int) ≤ 40 := by omega
      have y := Lh (YI (p := fun x : IntsV => x.l.length ≤ 40) c.out u.out o);clear o;go_wp2
      go_round
      case rel => exact ⟨k + 1, by go_num, by omega, y⟩
      case measure => simp [intOf]; omega
    · have t : (40 : Int) < (x.l.length : Int) := by omega
      have d : El l = false := by unfold El; rw [decide_eq_false_iff_not]; exact fun h => o (h.2 x (Lf u.out))
      have j := Lh d;clear d o;go_wp2
      go_ret
      exact ⟨Z4 j.out, rfl⟩
  · obtain rfl : k = l.length := by omega
    have d : El l = true := by unfold El; rw [decide_eq_true_eq]; exact ⟨q.out, by have := c.out; rwa [LO] at this⟩
    have j := Lh d;clear d g hk;go_wp2
    go_ret
    exact ⟨Z4 j.out, rfl⟩
theorem KO (a : Addr) : a.add 0 = a := by unfold Addr.add; rw [if_pos rfl]
end Go.Proofs.YtdcmppdhdcjpfaaGreat
