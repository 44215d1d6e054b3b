/- Lemmas for VerdictJustP. -/
import Derived.Test.YtdcmppdhdcjpfaaGreatZy1
import Derived.Test.YtdcmppdhdcjpfaaGreatZy4
import Derived.Test.YtdcmppdhdcjpfaaGreatZy3
import Derived.Test.YtdcmppdhdcjpfaaGreatZy7
import Derived.Test.YtdcmppdhdcjpfaaGreatZy6
set_option linter.unusedVariables false
set_option linter.unusedSimpArgs false
set_option maxRecDepth 100000
set_option maxHeartbeats 16000000
namespace Go.Proofs.YtdcmppdhdcjpfaaGreat
open Go.RowKit Go.Deep
theorem ZN {a b : Int} (h : a = b) : Ending.returned (.int .i64 a) = .returned (.int .i64 b) := by rw [h]
theorem Afr (a : Int) (w : World) : Calls Tryz.prog 236 #[.int .i64 a] w fun e w' => e = .returned (.bool false) ∧ w = w' := by
 have h : (a != a) = false := by simp
 go_enter Tryz.func236, Tryz.ntmps236
 go_wp2
 go_ret
 exact ⟨Z5 (by simp), rfl⟩
theorem Uf (a b : Int) (w : World) : Calls Tryz.prog 162 #[.int .i64 a, .int .i64 b] w fun e w' => e = .returned (.int .i64 (ZH a b)) ∧ w = w' := by
 go_enter Tryz.func162, Tryz.ntmps162
 go_wp2_with fail
 refine (Afr _ _).mono ?_;rintro e d ⟨rfl, rfl⟩;go_wp2_with fail
 refine (Afr _ _).mono ?_;rintro e d ⟨rfl, rfl⟩;by_cases c : a < b
 · go_wp2
   go_ret
   exact ⟨ZN (by unfold ZH; rw [if_pos c]), rfl⟩
 · by_cases g : b < a
   · go_wp2
     go_ret
     exact ⟨ZN (by unfold ZH; rw [if_neg (show ¬ a < b by omega), if_pos (show b < a by omega)]), rfl⟩
   · go_wp2
     go_ret
     exact ⟨ZN (by unfold ZH; rw [if_neg (show ¬ a < b by omega), if_neg (show ¬ b < a by omega)]), rfl⟩
theorem AfP {a b : List Int} {k : Nat} {x y : Int} (h : a.take k = b.take k) (hx : a[k]? = some x) (hy : b[k]? = some y) (hc : ZH x y ≠ 0) : Zt a b = ZH x y := by
 have g : a = a.take k ++ x :: a.drop (k + 1) := by
  obtain ⟨d, e⟩ := La.1 hx;rw [← e, ← LI d, LD]
 have i : b = b.take k ++ y :: b.drop (k + 1) := by
  obtain ⟨d, e⟩ := La.1 hy;rw [← e, ← LI d, LD]
 rw [g, i, h];generalize b.take k = c;clear h g i hx hy
 induction c with
 | nil => rw [Lo, Lo, Zt, if_pos hc]
 | cons z c ih => rw [Lk, Lk, Zt, YE, if_neg (by simp)]; exact ih
theorem Acx : ∀ {a b : List Int} {k : Nat}, a.take k = b.take k → (k = a.length ∨ k = b.length) → k ≤ a.length → k ≤ b.length → Zt a b = ZH (a.length : Int) (b.length : Int)
 | [], [], _, _, _, _, _ => by simp [Zt, ZH]
 | [], _ :: _, _, _, _, _, _ => by simp [Zt, ZH] <;> omega
 | _ :: _, [], _, _, _, _, _ => by simp [Zt, ZH] <;> omega
 | x :: xs, y :: ys, 0, h, hk, _, _ => by simp at hk
 | x :: xs, y :: ys, k + 1, h, hk, h1, h2 => by
  simp only [Lw, N5] at h
  obtain ⟨rfl, h⟩ := h
  rw [Zt, YE, if_neg (by simp), Acx h (by simpa using hk) (by simpa using h1) (by simpa using h2)]
  unfold ZH
  simp only [Ld]
  repeat' split
  all_goals omega
theorem Ado (A B : Option Addr) (c d : Nat) (a b : List Int) (w : World) (ha : Rd w A (Qi a)) (hb : Rd w B (Qi b)) (hla : a.length ≤ 1000000) (hlb : b.length ≤ 1000000) :
 Calls Tryz.prog 161 #[.slice A a.length c, .slice B b.length d] w fun e w' => e = .returned (.int .i64 (Zt a b)) ∧ Below w.heap.size w w' := by
 obtain ⟨S, g⟩ : ∃ S, S = (fun W => Rd W A (Qi a) ∧ Rd W B (Qi b) ∧ Below w.heap.size w W) := ⟨_, rfl⟩;have am : St S := by rw [g]; infer_instance
 have t : Hid (∀ W, S W → Rd W A (Qi a)) := by show ∀ W, _; rw [g]; exact fun W h => h.1
 have u : Hid (∀ W, S W → Rd W B (Qi b)) := by show ∀ W, _; rw [g]; exact fun W h => h.2.1
 have v : Hid (∀ W, S W → Below w.heap.size w W) := by show ∀ W, _; rw [g]; exact fun W h => h.2.2
 have l : S w := by rw [g]; exact ⟨ha, hb, Below.refl _ _⟩
 clear g ha hb;obtain ⟨m, hm⟩ : ∃ m : Nat, m = Nat.min a.length b.length := ⟨_, rfl⟩
 have r : m ≤ a.length ∧ m ≤ b.length ∧ (m = a.length ∨ m = b.length) := by
  have h : m = min a.length b.length := hm;omega
 clear hm;go_enter Tryz.func161, Tryz.ntmps161
 go_wp2_with fail
 all_goals
  go_loopw [12] (fun i wr => ∃ k : Nat, i = .int .i64 (k : Int) ∧ k ≤ m ∧ Hid (a.take k = b.take k) ∧ S wr) (fun i _ => m - (intOf i).toNat)
  case atStart => exact ⟨0, by simp, Nat.zero_le _, by simp [Hid], l⟩
  case round =>
   clear l;obtain ⟨k, rfl, hk, s, l⟩ := hrel;by_cases ag : k < m
   · have ai : (k : Int) < (m : Int) := by omega
     obtain ⟨e, z⟩ : ∃ e, a[k]? = some e := ⟨_, Lb (by omega)⟩;obtain ⟨f, hf⟩ : ∃ f, b[k]? = some f := ⟨_, Lb (by omega)⟩;obtain ⟨ad, ac, _⟩ := Q9 (t.out _ l) z;obtain ⟨bd, ae, _⟩ := Q9 (u.out _ l) hf;subst ac ae
     have n : Hid (∀ W, S W → W.cell? (ad.add k) = some (.int .i64 e)) := fun W h => by
      obtain ⟨ab, p, h2⟩ := Q9 (t.out _ h) z;injection p with p; subst p; exact h2
     have o : Hid (∀ W, S W → W.cell? (bd.add k) = some (.int .i64 f)) := fun W h => by
      obtain ⟨ab, p, h2⟩ := Q9 (u.out _ h) hf;injection p with p; subst p; exact h2
     have x := Lh z;have y := Lh hf;have ak : (k : Int) < (a.length : Int) := by omega
     have al : (k : Int) < (b.length : Int) := by omega
     have aj : IntKind.i64.wrap ((k : Int) + 1) = (k : Int) + 1 := IntWalk.i64_in _ (by omega);clear z hf;go_wp2_with fail
     refine Jl S (by kernel_rfl) (by kernel_rfl) (St.drew l) ?_;clear l
     iterate 3 (refine Qg rfl ?_ (fun W q => ?_) ?_; rotate_left; (focus (go_simp; exact rfl)); simp only [Act.put, Qa, Qb, Qc])
     (refine Qg rfl ?_ (fun W q => ?_) ?_; rotate_left; (focus (have c := n.out W q; go_simp; exact rfl)); simp only [Act.put, Qa, Qb, Qc])
     iterate 3 (refine Qg rfl ?_ (fun W q => ?_) ?_; rotate_left; (focus (go_simp; exact rfl)); simp only [Act.put, Qa, Qb, Qc])
     (refine Qg rfl ?_ (fun W q => ?_) ?_; rotate_left; (focus (have c := o.out W q; go_simp; exact rfl)); simp only [Act.put, Qa, Qb, Qc]);(refine QI rfl 162 _ (fun W => by (go_simp; try rfl)) (.int .i64 (ZH e f)) (fun W q => (Uf e f W).mono fun e w' h => ⟨h.1, by rw [← h.2]; exact Below.refl _ _⟩) ?_; simp only [Act.put, Qa, Qb, Qc])
     (refine Qg rfl ?_ (fun W q => ?_) ?_; rotate_left; (focus (go_simp; exact rfl)); simp only [Act.put, Qa, Qb, Qc]);refine QG fun W l => ?_
     by_cases j : ZH e f = 0
     · have ah : (ZH e f != 0) = false := by simp [j]
       have aa : Hid (a.take (k + 1) = b.take (k + 1)) := by
        show _ = _;rw [LF, LF, s.out, x.out, y.out, cmpI_eq.1 j]
       clear n o x y s j;go_wp2_with fail
       go_roundw
       case rel => exact ⟨k + 1, by go_num, by omega, aa, l⟩
       case measure => simp [intOf]; omega
     · have ah : (ZH e f != 0) = true := by simpa using j
       have Hc := Lh (AfP s.out x.out y.out j);clear n o x y s j;go_wp2_with fail
       go_ret
       exact ⟨ZN Hc.out.symm, v.out _ l⟩
   · obtain rfl : k = m := by omega
     have Hc := Lh (Acx s.out r.2.2 r.1 r.2.1);(first | have af : ¬ ((k : Int) < (b.length : Int)) := by omega | have af : ¬ ((k : Int) < (a.length : Int)) := by omega)
     clear ag hk s;go_wp2_with fail
     refine (Uf _ _ _).mono ?_;rintro e w1 ⟨rfl, rfl⟩;go_wp2_with fail
     go_ret
     exact ⟨ZN Hc.out.symm, v.out _ l⟩
def orL : List Int → Int
 | [] => 0
 | x :: l => if x = 0 then orL l else x
theorem AhL {a : List Int} {k : Nat} {e : Int} (h : a[k]? = some e) : orL (a.drop k) = if e = 0 then orL (a.drop (k + 1)) else e := by
 obtain ⟨c, rfl⟩ := La.1 h;rw [LI c, orL]
theorem AfQ (A : Option Addr) (c : Nat) (a : List Int) (w : World) (ha : Rd w A (Qi a)) (hla : a.length ≤ 1000000) :
 Calls Tryz.prog 160 #[.slice A a.length c] w fun e w' => e = .returned (.int .i64 (orL a)) ∧ Below w.heap.size w w' := by
 obtain ⟨S, g⟩ : ∃ S, S = (fun W => Rd W A (Qi a) ∧ Below w.heap.size w W) := ⟨_, rfl⟩;have ae : St S := by rw [g]; infer_instance
 have o : Hid (∀ W, S W → Rd W A (Qi a)) := by show ∀ W, _; rw [g]; exact fun W h => h.1
 have p : Hid (∀ W, S W → Below w.heap.size w W) := by show ∀ W, _; rw [g]; exact fun W h => h.2
 have j : S w := by rw [g]; exact ⟨ha, Below.refl _ _⟩
 clear g ha;go_enter Tryz.func160, Tryz.ntmps160
 go_wp2_with fail
 go_loopw [8] (fun i wr => ∃ k : Nat, i = .int .i64 (k : Int) ∧ k ≤ a.length ∧ Hid (orL a = orL (a.drop k)) ∧ S wr) (fun i _ => a.length - (intOf i).toNat)
 case atStart => exact ⟨0, by simp, Nat.zero_le _, by simp [Hid], j⟩
 case round =>
  clear j;obtain ⟨k, rfl, hk, n, j⟩ := hrel;by_cases u : k < a.length
  · obtain ⟨e, r⟩ : ∃ e, a[k]? = some e := ⟨_, Lb (by omega)⟩;obtain ⟨y, t, _⟩ := Q9 (o.out _ j) r;subst t
    have l : Hid (∀ W, S W → W.cell? (y.add k) = some (.int .i64 e)) := fun W h => by
     obtain ⟨z, s, h2⟩ := Q9 (o.out _ h) r;injection s with s; subst s; exact h2
    have q := Lh (AhL r);have ac : (k : Int) < (a.length : Int) := by omega
    have aa : IntKind.i64.wrap ((k : Int) + 1) = (k : Int) + 1 := IntWalk.i64_in _ (by omega);clear r;have ab := l.out _ j;by_cases d : e = 0
    · have v : (e != 0) = false := by simp [d]
      have m : Hid (orL a = orL (a.drop (k + 1))) := by
       show _ = _;rw [n.out, q.out, if_pos d]
      clear l n q d;go_wp2_with fail
      go_roundw
      case rel => exact ⟨k + 1, by go_num, by omega, m, j⟩
      case measure => simp [intOf]; omega
    · have v : (e != 0) = true := by simpa using d
      have m : Hid (orL a = e) := by
       show _ = _;rw [n.out, q.out, if_neg d]
      clear l n q d;go_wp2_with fail
      go_ret
      exact ⟨ZN m.out.symm, p.out _ j⟩
  · obtain rfl : k = a.length := by omega
    have x : Hid (orL a = 0) := by
     show _ = _;rw [n.out, List.drop_length, orL]
    clear u hk n;go_wp2_with fail
    go_ret
    exact ⟨ZN x.out.symm, p.out _ j⟩
structure DlV where
 A : Option Addr
 cap : Nat
 d : Dl
def DlV.cells (x : DlV) : Array Value := #[.slice x.A x.d.path.length x.cap, .int .i64 x.d.op, .int .i64 x.d.n]
structure DlOk (W : World) (x : DlV) : Prop where
 rd : Rd W x.A (Qi x.d.path)
 len : x.d.path.length ≤ 1000000
theorem Agn (a b c : Int) : orL [a, b, c] = orI a (orI b c) := by
 unfold orL orL orL orL orI
 repeat' split
 all_goals first | rfl | omega
theorem AaJ (x y : DlV) (w : World) (hx : DlOk w x) (hy : DlOk w y) :
 Calls Tryz.prog 80 #[.agg x.cells, .agg y.cells] w fun e w' => e = .returned (.int .i64 (Jv x.d y.d)) ∧ Below w.heap.size w w' := by
 obtain ⟨A, r, ⟨a, l, p⟩⟩ := x;obtain ⟨B, s, ⟨b, m, q⟩⟩ := y;obtain ⟨ha, t⟩ := hx;obtain ⟨hb, z⟩ := hy;simp only at ha t hb z;unfold DlV.cells;show Calls _ _ #[.agg #[.slice A a.length r, .int .i64 l, .int .i64 p], .agg #[.slice B b.length s, .int .i64 m, .int .i64 q]] _ _;have Ha := Lh ha;have Hb := Lh hb;clear ha hb;go_enter Tryz.func80, Tryz.ntmps80
 go_wp2_with (refine Qn _ _ rfl ?_)
 refine Stop.to ?_;refine Qe rfl 35 _ rfl #[.slice A a.length r, .int .i64 l, .int .i64 p] rfl ?_;intro G Gw Gh Gr Gb;go_wp2_with (refine Qn _ _ rfl ?_)
 refine Stop.to ?_;refine Qe rfl 35 _ rfl #[.slice B b.length s, .int .i64 m, .int .i64 q] rfl ?_;intro J Jw Jh Jr Jb;have rG := Gr.below Jb (Lc Gr.lt Jh);have b1 := (Below.refl w.heap.size w).trans (Gb.mono Gh);have b2 := b1.trans ((Jb.mono Jh).mono b1.size);obtain ⟨S, n⟩ : ∃ S, S = (fun W => (Row W G 35 #[.slice A a.length r, .int .i64 l, .int .i64 p] ∧ Row W J 35 #[.slice B b.length s, .int .i64 m, .int .i64 q]) ∧ (Rd W A (Qi a) ∧ Rd W B (Qi b)) ∧ Below w.heap.size w W) := ⟨_, rfl⟩;have aa : St S := by rw [n]; infer_instance
 have T0 : Hid (∀ W, S W → Row W G 35 #[.slice A a.length r, .int .i64 l, .int .i64 p]) := by show ∀ W, _; rw [n]; exact fun W h => h.1.1
 have T1 : Hid (∀ W, S W → Row W J 35 #[.slice B b.length s, .int .i64 m, .int .i64 q]) := by show ∀ W, _; rw [n]; exact fun W h => h.1.2
 have T2 : Hid (∀ W, S W → Rd W A (Qi a)) := by show ∀ W, _; rw [n]; exact fun W h => h.2.1.1
 have T3 : Hid (∀ W, S W → Rd W B (Qi b)) := by show ∀ W, _; rw [n]; exact fun W h => h.2.1.2
 have T4 : Hid (∀ W, S W → Below w.heap.size w W) := by show ∀ W, _; rw [n]; exact fun W h => h.2.2
 have hS : S Jw := by rw [n]; exact ⟨⟨rG, Jr⟩, ⟨Rd.go Ha.out b2, Rd.go Hb.out b2⟩, b2⟩
 clear n rG Gr Jr Gb Jb b1 b2 Gh Jh Ha Hb;go_wp2_with fail
 refine Zn S 15 (by kernel_rfl) (by kernel_rfl) (St.drew hS) ?_;clear hS;simp only [Lw, L5, Lv, L1];(refine Qg rfl ?_ (fun W g => ?_) ?_; rotate_left; (focus (go_simp; exact rfl)); simp only [Act.put, Qa, Qb, Qc]);(refine Qg rfl ?_ (fun W g => ?_) ?_; rotate_left; (focus (have c := (T0.out W g).cellv (i := 0) (v := .slice A a.length r) rfl; go_simp; exact rfl)); simp only [Act.put, Qa, Qb, Qc]);(refine Qg rfl ?_ (fun W g => ?_) ?_; rotate_left; (focus (go_simp; exact rfl)); simp only [Act.put, Qa, Qb, Qc]);(refine Qg rfl ?_ (fun W g => ?_) ?_; rotate_left; (focus (have c := (T1.out W g).cellv (i := 0) (v := .slice B b.length s) rfl; go_simp; exact rfl)); simp only [Act.put, Qa, Qb, Qc]);(refine QI rfl 161 _ (fun W => by (go_simp; try rfl)) (.int .i64 (Zt a b)) (fun W g => Ado A B r s a b W (T2.out W g) (T3.out W g) t z) ?_; simp only [Act.put, Qa, Qb, Qc])
 (refine Qg rfl ?_ (fun W g => ?_) ?_; rotate_left; (focus (go_simp; exact rfl)); simp only [Act.put, Qa, Qb, Qc]);(refine Qg rfl ?_ (fun W g => ?_) ?_; rotate_left; (focus (have c := (T0.out W g).cellv (i := 1) (v := .int .i64 l) rfl; go_simp; exact rfl)); simp only [Act.put, Qa, Qb, Qc]);(refine Qg rfl ?_ (fun W g => ?_) ?_; rotate_left; (focus (go_simp; exact rfl)); simp only [Act.put, Qa, Qb, Qc]);(refine Qg rfl ?_ (fun W g => ?_) ?_; rotate_left; (focus (have c := (T1.out W g).cellv (i := 1) (v := .int .i64 m) rfl; go_simp; exact rfl)); simp only [Act.put, Qa, Qb, Qc]);(refine QI rfl 162 _ (fun W => by (go_simp; try rfl)) (.int .i64 (ZH l m)) (fun W g => (Uf l m W).mono fun e w' h => ⟨h.1, by rw [← h.2]; exact Below.refl _ _⟩) ?_; simp only [Act.put, Qa, Qb, Qc])
 (refine Qg rfl ?_ (fun W g => ?_) ?_; rotate_left; (focus (go_simp; exact rfl)); simp only [Act.put, Qa, Qb, Qc]);(refine Qg rfl ?_ (fun W g => ?_) ?_; rotate_left; (focus (have c := (T0.out W g).cellv (i := 2) (v := .int .i64 p) rfl; go_simp; exact rfl)); simp only [Act.put, Qa, Qb, Qc]);(refine Qg rfl ?_ (fun W g => ?_) ?_; rotate_left; (focus (go_simp; exact rfl)); simp only [Act.put, Qa, Qb, Qc]);(refine Qg rfl ?_ (fun W g => ?_) ?_; rotate_left; (focus (have c := (T1.out W g).cellv (i := 2) (v := .int .i64 q) rfl; go_simp; exact rfl)); simp only [Act.put, Qa, Qb, Qc]);(refine QI rfl 162 _ (fun W => by (go_simp; try rfl)) (.int .i64 (ZH p q)) (fun W g => (Uf p q W).mono fun e w' h => ⟨h.1, by rw [← h.2]; exact Below.refl _ _⟩) ?_; simp only [Act.put, Qa, Qb, Qc])
 refine QG fun W g => ?_
 go_wp2_with (refine Zw _ _ _ rfl ?_)
 refine Stop.to ?_;refine Qv rfl 22 3 _ rfl 3 #[.int .i64 (Zt a b), .int .i64 (ZH l m), .int .i64 (ZH p q)] (fun W => by kernel_rfl) ?_;intro M Mw Mh Mr Mb;have bM := (T4.out _ g).trans ((Mb.mono Mh).mono (T4.out _ g).size);go_wp2_with fail
 refine (AfQ _ 3 [Zt a b, ZH l m, ZH p q] _ ?_ (by simp)).mono ?_
 · intro j u o;refine ⟨_, rfl, ?_⟩;have h0 := Mr.cellv (i := 0) (v := .int .i64 (Zt a b)) rfl;have h1 := Mr.cellv (i := 1) (v := .int .i64 (ZH l m)) rfl;have h2 := Mr.cellv (i := 2) (v := .int .i64 (ZH p q)) rfl
   match j, o with
   | 0, o => injection o with o; subst o; exact h0
   | 1, o => injection o with o; subst o; exact h1
   | 2, o => injection o with o; subst o; exact h2
   | k + 3, o => simp [Qi] at o
 rintro e w1 ⟨rfl, bO⟩;go_wp2_with fail
 go_ret
 exact ⟨ZN (Agn _ _ _), bM.trans (bO.mono bM.size)⟩
theorem DlOk.go {W W' : World} {x : DlV} (h : DlOk W x) (b : Below W.heap.size W W') : DlOk W' x := ⟨Rd.go h.rd b, h.len⟩
theorem Ec (x y : DlV) (w : World) (hx : DlOk w x) (hy : DlOk w y) :
 Calls Tryz.prog 35 #[.agg x.cells, .agg y.cells] w fun e w' => e = .returned (.bool (decide (Jv x.d y.d = 0))) ∧ Below w.heap.size w w' := by
 have s := Lh hx.rd;have t := Lh hy.rd;have o := hx.len;have p := hy.len;clear hx hy;go_enter Tryz.func35, Tryz.ntmps35
 go_wp2_with (refine Qn _ _ rfl ?_)
 refine Stop.to ?_;refine Qe rfl 35 _ rfl x.cells rfl ?_;intro G Gw r k q;go_wp2_with (refine Qn _ _ rfl ?_)
 refine Stop.to ?_;refine Qe rfl 35 _ rfl y.cells rfl ?_;intro J z m u l;have v := k.below l (Lc k.lt m);have n := (Below.refl w.heap.size w).trans (q.mono r);have i := n.trans ((l.mono m).mono n.size);obtain ⟨S, c⟩ : ∃ S, S = (fun W => (Row W G 35 x.cells ∧ Row W J 35 y.cells) ∧ (Rd W x.A (Qi x.d.path) ∧ Rd W y.A (Qi y.d.path)) ∧ Below w.heap.size w W) := ⟨_, rfl⟩;have aa : St S := by rw [c]; infer_instance
 have T0 : Hid (∀ W, S W → Row W G 35 x.cells) := by show ∀ W, _; rw [c]; exact fun W h => h.1.1
 have T1 : Hid (∀ W, S W → Row W J 35 y.cells) := by show ∀ W, _; rw [c]; exact fun W h => h.1.2
 have T2 : Hid (∀ W, S W → Rd W x.A (Qi x.d.path)) := by show ∀ W, _; rw [c]; exact fun W h => h.2.1.1
 have T3 : Hid (∀ W, S W → Rd W y.A (Qi y.d.path)) := by show ∀ W, _; rw [c]; exact fun W h => h.2.1.2
 have T4 : Hid (∀ W, S W → Below w.heap.size w W) := by show ∀ W, _; rw [c]; exact fun W h => h.2.2
 have j : S z := by rw [c]; exact ⟨⟨v, u⟩, ⟨Rd.go s.out i, Rd.go t.out i⟩, i⟩
 clear c v k u q l n i r m s t;go_wp2_with (refine XT _ _ rfl ?_)
 refine Stop.to ?_;refine Z8 S 4 j ?_;clear j;simp only [Lw, L5, Lv, L1];(refine QA rfl 35 _ rfl (G) rfl 35 _ _ (fun W g => T0.out W g) Tryz.underlying35 rfl (by kernel_rfl) ?_; simp only [Act.put, Qa, Qb, Qc]);(refine QA rfl 35 _ rfl (J) rfl 35 _ _ (fun W g => T1.out W g) Tryz.underlying35 rfl (by kernel_rfl) ?_; simp only [Act.put, Qa, Qb, Qc]);(refine QI rfl 80 _ (fun W => by (go_simp; try rfl)) (.int .i64 (Jv x.d y.d)) (fun W g => AaJ x y W ⟨T2.out W g, o⟩ ⟨T3.out W g, p⟩) ?_; simp only [Act.put, Qa, Qb, Qc])
 (refine Qg rfl ?_ (fun W g => ?_) ?_; rotate_left; (focus (go_simp; exact rfl)); simp only [Act.put, Qa, Qb, Qc]);refine QG fun W j => ?_
 go_wp2_with fail
 go_ret
 exact ⟨Z5 (by by_cases h : Jv x.d y.d = 0 <;> simp [h]), T4.out _ j⟩
structure MtV where
 A : Option Addr
 cap : Nat
 m : Mt
def MtV.dl (x : MtV) : DlV := ⟨x.A, x.cap, x.m.d⟩
def MtV.cells (x : MtV) : List Value := [.slice x.A x.m.d.path.length x.cap, .int .i64 x.m.d.op, .int .i64 x.m.d.n, .int .i64 x.m.verdict, .int .i64 x.m.test, .int .i64 x.m.kind, .int .i64 x.m.value, .string ⟨x.m.digest.toArray⟩]
structure MtOk (W : World) (x : MtV) : Prop where
 rd : Rd W x.A (Qi x.m.d.path)
 len : x.m.d.path.length ≤ 1000000
 nil : x.A = none → x.m.d.path = []
 dig : x.m.digest.length ≤ 1000000
theorem MtOk.go {W W' : World} {x : MtV} (h : MtOk W x) (b : Below W.heap.size W W') : MtOk W' x := ⟨Rd.go h.rd b, h.len, h.nil, h.dig⟩
theorem MtOk.dl {W : World} {x : MtV} (h : MtOk W x) : DlOk W x.dl := ⟨h.rd, h.len⟩
instance St.mtok {x : MtV} : St (fun W => MtOk W x) := ⟨fun h b => h.go b⟩
instance St.mtsok {l : List MtV} : St (fun W => ∀ x ∈ l, MtOk W x) := ⟨fun h b x hx => (h x hx).go b⟩
theorem AhE {W : World} {G : Nat} {t : TypeId} {x : MtV} (h : Row W G t x.cells.toArray) : ∀ j v, x.dl.cells.toList[j]? = some v → W.cell? ((⟨G, 0, none⟩ : Addr).add j) = some v :=
 Row.from_ (cur := x.cells.toArray) h 0 (fun j v hj => by
  match j, hj with
  | 0, hj | 1, hj | 2, hj => exact hj
  | j + 3, hj => simp [DlV.cells] at hj)
theorem Aez {W : World} {G : Nat} {t : TypeId} {x : MtV} (h : Row W G t x.cells.toArray) : ∀ j v, ([.int .i64 x.m.kind, .int .i64 x.m.value] : List Value)[j]? = some v → W.cell? ((⟨G, 5, none⟩ : Addr).add j) = some v :=
 Row.from_ (cur := x.cells.toArray) h 5 (fun j v hj => by
  match j, hj with
  | 0, hj | 1, hj => exact hj
  | j + 2, hj => simp at hj)
theorem Adr (a b : Mt) : (¬ Jv a.d b.d = 0 → Xp a b = false) ∧ (¬ a.verdict = b.verdict → Xp a b = false) ∧ (¬ a.test = b.test → Xp a b = false) ∧ (¬ a.kind = b.kind → Xp a b = false) ∧ (¬ a.value = b.value → Xp a b = false) ∧ (Jv a.d b.d = 0 → a.verdict = b.verdict → a.test = b.test → a.kind = b.kind → a.value = b.value → Xp a b = (a.digest == b.digest)) := by
 unfold Xp;refine ⟨fun h => ?_, fun h => ?_, fun h => ?_, fun h => ?_, fun h => ?_, fun c g i j k => ?_⟩
 all_goals (first | simp [h]; done | (simp [c, g, i, j, k]; by_cases e : a.digest = b.digest <;> simp [e]))
theorem Ez (x y : MtV) (w : World) (hx : MtOk w x) (hy : MtOk w y) :
 Calls Tryz.prog 32 #[.agg x.cells.toArray, .agg y.cells.toArray] w fun e w' => e = .returned (.bool (Xp x.m y.m)) ∧ Below w.heap.size w w' := by
 have Ha := Lh hx;have Hb := Lh hy;clear hx hy;go_enter Tryz.func32, Tryz.ntmps32
 go_wp2_with (refine Qn _ _ rfl ?_)
 refine Stop.to ?_;refine Qe rfl 54 _ rfl x.cells.toArray rfl ?_;intro G Gw Gh r Gb;go_wp2_with (refine Qn _ _ rfl ?_)
 refine Stop.to ?_;refine Qe rfl 54 _ rfl y.cells.toArray rfl ?_;intro J Jw t o s;have n := r.below s (Lc r.lt t);have u := (Below.refl w.heap.size w).trans (Gb.mono Gh);have k := u.trans ((s.mono t).mono u.size);have Hs := Lh (Ec x.dl y.dl Jw (Ha.out.go k).dl (Hb.out.go k).dl);go_wp2_with (first | (refine QQ rfl 35 _ rfl ⟨G, 0, none⟩ rfl x.dl.cells.toList _ (AhE n) Tryz.underlying35 rfl (by kernel_rfl) ?_) | (refine QQ rfl 35 _ rfl ⟨J, 0, none⟩ rfl y.dl.cells.toList _ (AhE o) Tryz.underlying35 rfl (by kernel_rfl) ?_))
 refine Hs.out.mono ?_;rintro e w1 ⟨rfl, p⟩;have h := n.below p (by have := n.lt; exact n.lt);have j := o.below p o.lt;have c1 := h.cellv (i := 3) (v := .int .i64 x.m.verdict) rfl;have c2 := h.cellv (i := 4) (v := .int .i64 x.m.test) rfl;have c3 := h.cellv (i := 7) (v := .string ⟨x.m.digest.toArray⟩) rfl;have d1 := j.cellv (i := 3) (v := .int .i64 y.m.verdict) rfl;have d2 := j.cellv (i := 4) (v := .int .i64 y.m.test) rfl;have d3 := j.cellv (i := 7) (v := .string ⟨y.m.digest.toArray⟩) rfl;have c5 := h.cellv (i := 5) (v := .int .i64 x.m.kind) rfl;have c6 := h.cellv (i := 6) (v := .int .i64 x.m.value) rfl;have d5 := j.cellv (i := 5) (v := .int .i64 y.m.kind) rfl;have d6 := j.cellv (i := 6) (v := .int .i64 y.m.value) rfl;have g := k.trans (p.mono k.size);clear Ha Hb Hs n r Gb o s u k p Gh t h j;have c := Lh (Adr x.m y.m);by_cases h1 : Jv x.dl.d y.dl.d = 0;rotate_left
 · go_wp2_with fail
   go_ret
   exact ⟨Z5 (c.out.1 h1), g⟩
 by_cases h2 : x.m.verdict = y.m.verdict;rotate_left
 · go_wp2_with fail
   go_ret
   exact ⟨Z5 (c.out.2.1 h2), g⟩
 by_cases h3 : x.m.test = y.m.test;rotate_left
 · go_wp2_with fail
   go_ret
   exact ⟨Z5 (c.out.2.2.1 h3), g⟩
 by_cases q : x.m.kind = y.m.kind;rotate_left
 · have z := Lh q;have l : (x.m.kind == y.m.kind) = false := by simpa using q
   clear q;go_wp2_with fail
   go_ret
   exact ⟨Z5 (c.out.2.2.2.1 z.out), g⟩
 by_cases l : x.m.value = y.m.value;rotate_left
 · have aa := Lh l;have h6 : (x.m.value == y.m.value) = false := by simpa using l
   clear l;go_wp2_with fail
   go_ret
   exact ⟨Z5 (c.out.2.2.2.2.1 aa.out), g⟩
 · go_wp2_with fail
   go_ret
   exact ⟨Z5 (c.out.2.2.2.2.2 h1 h2 h3 q l), g⟩
theorem Afa {α : Type} {c : α → List Value} {sz : Nat} (hsz : ∀ x, (c x).length = sz) (h0 : 0 < sz) {W : World} {A : Option Addr} {l : List α} (hr : Rd W A (l.flatMap c)) {k : Nat} {x : α} (hx : l[k]? = some x) :
 ∃ ad, A = some ad ∧ ∀ j u, (c x)[j]? = some u → W.cell? ((ad.add (k * sz)).add j) = some u := by
 have g : ∀ (l : List α) (k : Nat) (x : α), l[k]? = some x → ∀ j u, (c x)[j]? = some u → (l.flatMap c)[k * sz + j]? = some u := by
  intro l
  induction l with
  | nil => intro k x h; simp at h
  | cons y l ih =>
   intro k x h j u d;rw [LC]
   match k, h with
   | 0, h =>
    simp at h; subst h;rw [Nat.zero_mul, LJ, Ly (La.1 d).1]; exact d
   | k + 1, h =>
    rw [LZ] at h;rw [Lu (by rw [hsz, Nat.add_mul]; omega), hsz, show (k + 1) * sz + j - sz = k * sz + j by rw [Nat.add_mul]; omega];exact ih k x h j u d
 exact hr.part (k * sz) (c x) (g l k x hx) (fun e => by have := hsz x; rw [e] at this; simp at this; omega)
end Go.Proofs.YtdcmppdhdcjpfaaGreat
namespace Go.Proofs.YtdcmppdhdcjpfaaGreat
open Go.ChangeShapes Go.WideShapes Go.RowKit Go.Deep
theorem Ad7 : Tryz.prog.cellsOf 85 = 2 := by kernel_rfl
theorem Ad8 : Tryz.prog.cellsOf 25 = 3 := by kernel_rfl
theorem VQ : Tryz.prog.cellsOf 22 = 1 := by kernel_rfl
theorem Acm : Tryz.prog.cellsOf 23 = 1 := by kernel_rfl
structure IntsV where
 addr : Option Addr
 cap : Nat
 l : List Int
def IntsV.val (r : IntsV) : Value := .slice r.addr r.l.length r.cap
structure IntsV.ok (r : IntsV) (w : World) : Prop where
 len : r.l.length ≤ r.cap
 cap : r.cap ≤ maxLen
 nil : r.addr = none → r.cap = 0
 reads : Rd w r.addr (Qi r.l)
 all : ∀ x ∈ r.l, InI x
theorem IntsV.ok.go {r : IntsV} {w w' : World} (h : r.ok w) (b : Below w.heap.size w w') : r.ok w' := ⟨h.len, h.cap, h.nil, h.reads.go b, h.all⟩
instance St.intsok {r : IntsV} : St (fun W => r.ok W) := ⟨fun h b => h.go b⟩
def PgV.val (p : PgV) : Value := .agg p.cells
section
variable {H : Type} {enc : TypeId × Value → H} {w : World} {base : Nat} {spare : Nat → Bool} {held : Bool}
theorem Agk {fuel : Nat} {cs : List Value} {x : DataW H × List MemPlace} (h : DataW.trod enc Tryz.prog w base spare held fuel 3 cs = some x) : ∃ n : Int, cs = [.int .i64 n] ∧ InI n := by
 obtain ⟨n, e, h⟩ := XM Tryz.underlying3 h;exact ⟨n, e, h⟩
theorem Agl {fuel : Nat} {cs : List Value} {x : DataW H × List MemPlace} (h : DataW.trod enc Tryz.prog w base spare held fuel 85 cs = some x) : ∃ e : Nd, cs = e.cells ∧ InI e.tag ∧ InI e.n := by
 obtain ⟨l, n, i⟩ := Y4 Tryz.underlying85 h;have c : cs.length = 2 := l.trans Ad7
 match cs, c with
 | [a, b], _ =>
  obtain ⟨_, j⟩ := i 0 _ rfl;obtain ⟨_, k⟩ := i 1 _ rfl;obtain ⟨m, d, p⟩ := XM Tryz.underlying3 j;obtain ⟨o, g, q⟩ := XM Tryz.underlying3 k;simp [UN] at d g;exact ⟨⟨m, o⟩, by rw [d, g]; rfl, p, q⟩
theorem Af5 (l : List Int) : l.flatMap (fun n => [Value.int .i64 n]) = Qi l := by
 induction l with
 | nil => rfl
 | cons a l ih => rw [LC, ih]; rfl
theorem YZ {fuel : Nat} {cs : List Value} {x : DataW H × List MemPlace} (h : DataW.trod enc Tryz.prog w base spare held fuel 22 cs = some x) : ∃ r : IntsV, r.ok w ∧ cs = [r.val] := by
 obtain ⟨A, c, g, rfl, i, k, o, s, j, m⟩ := UX Tryz.underlying22 h;obtain ⟨l, rfl, d⟩ := Uz (fun n : Int => [Value.int .i64 n]) InI g (fun q e => by obtain ⟨n, y, p⟩ := m q e; exact Agk p);rw [L9] at i;refine ⟨⟨A, c, l⟩, ⟨i, k, o, ?_, d⟩, by rw [L9]; rfl⟩;rw [← List.flatMap_def, Af5] at j;exact j
theorem Adi {fuel : Nat} {cs : List Value} {x : DataW H × List MemPlace} (h : DataW.trod enc Tryz.prog w base spare held fuel 23 cs = some x) :
 ∃ (A : Option Addr) (cap : Nat) (l : List Nd), cs = [.slice A l.length cap] ∧ l.length ≤ cap ∧ cap ≤ maxLen ∧ (A = none → cap = 0) ∧ Rd w A (l.flatMap Nd.cells) ∧ ∀ e ∈ l, InI e.tag ∧ InI e.n := by
 obtain ⟨A, cap, g, rfl, i, j, o, r, k, m⟩ := UX Tryz.underlying23 h;obtain ⟨l, rfl, c⟩ := Uz Nd.cells (fun e => InI e.tag ∧ InI e.n) g (fun q d => by obtain ⟨n, y, p⟩ := m q d; exact Agl p);rw [L9] at i;exact ⟨A, cap, l, by rw [L9], i, j, o, by rw [List.flatMap_def]; exact k, c⟩
theorem AeE {fuel : Nat} {cs : List Value} {x : DataW H × List MemPlace} (h : DataW.trod enc Tryz.prog w base spare held fuel 25 cs = some x) : ∃ p : PgV, p.ok w ∧ cs = p.cells.toList := by
 obtain ⟨z, n, e⟩ := Y4 Tryz.underlying25 h;have g : cs.length = 3 := z.trans Ad8
 match cs, g with
 | [a, b, c], _ =>
  obtain ⟨_, u⟩ := e 0 _ rfl;obtain ⟨_, v⟩ := e 1 _ rfl;obtain ⟨_, y⟩ := e 2 _ rfl;obtain ⟨n0, i, w0⟩ := XM Tryz.underlying3 u;obtain ⟨r, d, j⟩ := YZ v;obtain ⟨A, cap, l, k, m, o, q, s, t⟩ := Adi y;simp [UN, VQ, Acm] at i j k;exact ⟨⟨n0, r.addr, r.cap, r.l, A, cap, l⟩, ⟨w0, d.len, d.cap, d.nil, d.reads, d.all, m, o, q, s, t⟩, by rw [i, j, k]; rfl⟩
theorem Agm {r : Go.Reach} {b0 : Nat} {v : Value} {d : DataW H} {p : List MemPlace} (hv : Value.okWide Tryz.prog w r b0 25 v) (h : DataW.Trod enc Tryz.prog w base spare held 25 v d p) : ∃ p : PgV, p.ok w ∧ v = p.val := by
 obtain ⟨i, rfl, c, x, g⟩ := AdD Tryz.underlying25 hv h;obtain ⟨p, e, rfl⟩ := AeE g;exact ⟨p, e, rfl⟩
end
end Go.Proofs.YtdcmppdhdcjpfaaGreat
namespace Go.Proofs.YtdcmppdhdcjpfaaGreat
open Go.RowKit Go.Deep
theorem JQ {α : Type} {c : α → Value} {W : World} {A : Option Addr} {l : List α} (hr : Rd W A (l.map c)) {k : Nat} {x : α} (hx : l[k]? = some x) : ∃ ad, A = some ad ∧ W.cell? (ad.add k) = some (c x) :=
 hr k _ (by simp [hx])
instance St.intsok_all {l : List IntsV} : St (fun W => ∀ x ∈ l, x.ok W) := ⟨fun h b x hx => (h x hx).go b⟩
instance : DecidableEq Mt := fun a b => decidable_of_iff (Xp a b = true) sameM_iff
def Xf (l : List IntsV) : List Value := l.map IntsV.val
def AcK {α : Type} (p : α → Bool) (l : List α) : Int := match l.findIdx? p with | some i => (i : Int) | none => -1
theorem AcM {α : Type} {p : α → Bool} {l : List α} {k : Nat} {x : α} (h : ∀ y ∈ l.take k, p y = false) (hx : l[k]? = some x) (hp : p x = true) : AcK p l = (k : Int) := by
 unfold AcK;have c := (La.1 hx).1
 have : l.findIdx? p = some k := by
  rw [List.findIdx?_eq_some_iff_getElem];refine ⟨c, by rw [(La.1 hx).2]; exact hp, fun j d => ?_⟩;rw [h _ (List.mem_take_iff_getElem.2 ⟨j, by omega, rfl⟩)]; simp
 rw [this]
theorem Afh {α : Type} {p : α → Bool} {l : List α} (h : ∀ y ∈ l, p y = false) : AcK p l = -1 := by
 unfold AcK;have : l.findIdx? p = none := by rw [List.findIdx?_eq_none_iff]; exact h
 rw [this]
theorem AcL {α : Type} (p : α → Bool) (l : List α) : decide (0 ≤ AcK p l) = l.any p := by
 unfold AcK;cases h : l.findIdx? p with
 | none =>
  rw [List.findIdx?_eq_none_iff] at h;simp; intro x e; simpa using h x e
 | some i =>
  rw [List.findIdx?_eq_some_iff_getElem] at h;obtain ⟨c, d, _⟩ := h;simp; exact ⟨l[i], List.getElem_mem c, d⟩
theorem Yu {α : Type} {p : α → Bool} {l : List α} {k : Nat} {x : α} (h : ∀ y ∈ l.take k, p y = false) (hx : l[k]? = some x) (hp : p x = false) : ∀ y ∈ l.take (k + 1), p y = false := by
 rw [LF, hx];intro y c;rcases L3.1 c with c | c
 · exact h y c
 · simp at c; subst c; exact hp
theorem Af3 (A : Option Addr) (cap : Nat) (l : List Nd) (p : Nd → Bool) (w : World) (S : World → Prop) [stS : St S] (hS : S w) (hrd : ∀ W, S W → Rd W A (l.flatMap Nd.cells)) (hlo : ∀ W, S W → Below w.heap.size w W)
 (hp : ∀ x ∈ l, ∀ W, S W → Calls Tryz.prog 176 #[.agg x.cells.toArray] W fun e W' => e = .returned (.bool (p x)) ∧ Below W.heap.size W W') (hl : l.length ≤ 1000000) :
 Calls Tryz.prog 237 #[.slice A l.length cap, .func (.func 176) #[] #[]] w fun e w' => e = .returned (.int .i64 (AcK p l)) ∧ Below w.heap.size w w' := by
 have Hp := Lh hp;have s := Lh hrd;have n := Lh hlo;have ab : (l.length : Int) ≤ 1000000 := by omega
 clear hp hrd hlo hl;go_enter Tryz.func237, Tryz.ntmps237
 go_wp2
 go_loopw [8] (fun i wr => ∃ k : Nat, i = .int .i64 (k : Int) ∧ k ≤ l.length ∧ Hid (∀ y ∈ l.take k, p y = false) ∧ S wr) (fun i _ => l.length - (intOf i).toNat)
 case atStart => exact ⟨0, rfl, Nat.zero_le _, Lh (fun x h => by simp at h), hS⟩
 case round =>
  clear hS;obtain ⟨k, rfl, hk, c, hS⟩ := hrel;by_cases g : k < l.length
  · obtain ⟨x, h⟩ : ∃ x, l[k]? = some x := ⟨_, Lb g⟩;obtain ⟨v, t, q⟩ := JP (s.out _ hS) h;have m : Hid (∀ j u, x.cells[j]? = some u → wr.cell? ((v.add (k * 2)).add j) = some u) := q;have r := Lh h;have d := Lh (Hp.out x (Lg h) wr hS);have aa : (k : Int) < (l.length : Int) := by omega
    clear h g q;subst t;go_wp2_with (refine QQ rfl 85 _ rfl (v.add (k * 2)) rfl x.cells _ m.out Tryz.underlying85 rfl (by kernel_rfl) ?_)
    refine d.out.mono ?_;rintro e w' ⟨rfl, z⟩;replace hS := stS.go hS z;clear z d m;cases hs : p x
    · have o := Lh (Yu c.out r.out hs);clear hs r;go_wp2_with fail
      go_roundw
      case rel => exact ⟨k + 1, by go_num, by omega, o, hS⟩
      case measure => simp [intOf]; omega
    · have o := Lh (AcM c.out r.out hs);clear hs r;go_wp2_with fail
      go_ret
      exact ⟨by rw [o.out]; rfl, n.out _ hS⟩
  · obtain rfl : k = l.length := by omega
    have o := Lh (Afh (p := p) (l := l) (by have := c.out; rwa [LS] at this));clear g hk;go_wp2
    go_ret
    exact ⟨by rw [o.out]; rfl, n.out _ hS⟩
theorem Aee (A : Option Addr) (cap : Nat) (l : List Nd) (p : Nd → Bool) (w : World) (S : World → Prop) [stS : St S] (hS : S w) (hrd : ∀ W, S W → Rd W A (l.flatMap Nd.cells)) (hlo : ∀ W, S W → Below w.heap.size w W)
 (hp : ∀ x ∈ l, ∀ W, S W → Calls Tryz.prog 176 #[.agg x.cells.toArray] W fun e W' => e = .returned (.bool (p x)) ∧ Below W.heap.size W W') (hl : l.length ≤ 1000000) :
 Calls Tryz.prog 175 #[.slice A l.length cap, .func (.func 176) #[] #[]] w fun e w' => e = .returned (.bool (l.any p)) ∧ Below w.heap.size w w' := by
 have c := Lh (Af3 A cap l p w S hS hrd hlo hp hl);clear hp hrd hlo hl hS;go_enter Tryz.func175, Tryz.ntmps175
 go_wp2_with fail
 refine c.out.mono ?_;rintro e w' ⟨rfl, g⟩;have d := Lh (AcL p l);clear c;go_wp2_with fail
 go_ret
 exact ⟨Z5 d.out.symm, g⟩
theorem Ad9 (x : Nd) (w : World) :
 Calls Tryz.prog 176 #[.agg x.cells.toArray] w fun e w' => e = .returned (.bool (decide (Qx x < 0))) ∧ Below w.heap.size w w' := by
 go_enter Tryz.func176, Tryz.ntmps176
 go_wp2_with (refine Qn _ _ rfl ?_)
 refine Stop.to ?_;refine Qe rfl 85 _ rfl x.cells.toArray rfl ?_;intro G k g h d;have c := (Below.refl w.heap.size w).trans (d.mono g);have i := Lh (XD x k);clear d g;go_wp2_with (refine wpList_load_row rfl 85 _ rfl G rfl 85 x.cells.toArray (0, 0) _ h Tryz.underlying85 rfl (by kernel_rfl) ?_)
 refine i.out.mono ?_;rintro e m ⟨rfl, j⟩;have l := c.trans (j.mono c.size);clear i h c j;go_wp2_with fail
 go_ret
 exact ⟨rfl, l⟩
def Eh (l : List IntsV) : Bool := decide (l.length ≤ 40 ∧ ∀ x ∈ l, x.l.length ≤ 40)
theorem Aau {α : Type} {p : α → Prop} {l : List α} {k : Nat} {x : α} (h : ∀ y ∈ l.take k, p y) (hx : l[k]? = some x) (hp : p x) : ∀ y ∈ l.take (k + 1), p y := by
 rw [LF, hx];intro y c;rcases L3.1 c with c | c
 · exact h y c
 · simp at c; subst c; exact hp
theorem Ahk (A : Option Addr) (cap : Nat) (l : List IntsV) (w : World) (hr : Rd w A (Xf l)) :
 Calls Tryz.prog 67 #[.slice A l.length cap] w fun e w' => e = .returned (.bool (Eh l)) ∧ w = w' := by
 have Hr := Lh hr;clear hr;by_cases c : l.length ≤ 40;rotate_left
 · have g : Eh l = false := by unfold Eh; rw [decide_eq_false_iff_not]; exact fun h => c h.1
   have m := Lh g;have s : (40 : Int) < (l.length : Int) := by omega
   clear g c;go_enter Tryz.func67, Tryz.ntmps67
   go_wp2
   go_ret
   exact ⟨Z5 m.out, rfl⟩
 have s : (l.length : Int) ≤ 40 := by omega
 have r := Lh c;clear c;go_enter Tryz.func67, Tryz.ntmps67
 go_wp2
 go_loop [3] (fun i => ∃ k : Nat, i = .int .i64 (k : Int) ∧ k ≤ l.length ∧ Hid (∀ x ∈ l.take k, x.l.length ≤ 40)) (fun i => l.length - (intOf i).toNat)
 case atStart => exact ⟨0, rfl, Nat.zero_le _, Lh (fun x o => by simp at o)⟩
 case round =>
  obtain ⟨k, rfl, hk, d⟩ := hrel;by_cases j : k < l.length
  · obtain ⟨x, o⟩ : ∃ x, l[k]? = some x := ⟨_, Lb j⟩;obtain ⟨ad, t, n⟩ := JQ Hr.out o;have hc : w.cell? (ad.add k) = some (.slice x.addr x.l.length x.cap) := n;have v := Lh o;have y : (k : Int) < (l.length : Int) := by omega
    clear o j n;subst t;by_cases q : x.l.length ≤ 40
    · have u : (x.l.length : Int) ≤ 40 := by omega
      have z := Lh (Aau (p := fun x : IntsV => x.l.length ≤ 40) d.out v.out q);clear q;go_wp2
      go_round
      case rel => exact ⟨k + 1, by go_num, by omega, z⟩
      case measure => simp [intOf]; omega
    · have u : (40 : Int) < (x.l.length : Int) := by omega
      have g : Eh l = false := by unfold Eh; rw [decide_eq_false_iff_not]; exact fun h => q (h.2 x (Lg v.out))
      have m := Lh g;clear g q;go_wp2
      go_ret
      exact ⟨Z5 m.out, rfl⟩
  · obtain rfl : k = l.length := by omega
    have g : Eh l = true := by unfold Eh; rw [decide_eq_true_eq]; exact ⟨r.out, by have := d.out; rwa [LS] at this⟩
    have m := Lh g;clear g j hk;go_wp2
    go_ret
    exact ⟨Z5 m.out, rfl⟩
theorem XC (a : Addr) : a.add 0 = a := by unfold Addr.add; rw [if_pos rfl]
end Go.Proofs.YtdcmppdhdcjpfaaGreat
