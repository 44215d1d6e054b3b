/- Lemmas for RunnerJustP. -/
import Derived.Test.YtkoikjnlpifbjaaGreatZb2
import Derived.Test.YtkoikjnlpifbjaaGreatZb4
import Derived.Test.YtkoikjnlpifbjaaGreatZb3
import Derived.Test.YtkoikjnlpifbjaaGreatZb1
import Derived.ChangeMaps4
set_option linter.unusedVariables false
set_option linter.unusedSimpArgs false
set_option maxRecDepth 100000
set_option maxHeartbeats 16000000
namespace Go.Proofs.YtkoikjnlpifbjaaGreat
open Go.RowKit Go.Deep
def Z2 (p : PgV) (dn st : Int) (v : Value) : Array Value := #[.int .i64 p.params, .slice p.va p.V.length p.vcap, .slice p.ba p.body.length p.bcap, .int .u32 dn, .int .i32 st, .int .u32 0, v]
theorem XM (a : Addr) (x : Int) (w : World) (hc : w.cell? a = some (.int .u32 x)) :
 Calls Tryz.prog 107 #[.pointer (some a)] w fun e w' => e = .returned (.bool (x != 0)) ∧ w' = w := by
 have b := run_call_load (P := Tryz.prog) Tryz.func140 (by kernel_rfl) (by kernel_rfl) (by kernel_rfl) .u32 (by kernel_rfl) hc;go_enter Tryz.func107, Tryz.ntmps107
 go_wp2
 go_ret
 exact ⟨rfl, rfl⟩
theorem Aey (bk : Nat) (p : PgV) (v0 : Value) (R : Value → World → Prop) (w : World) (hr : Row w bk 98 (Z2 p 0 0 v0))
 (hF : Calls Tryz.prog 79 #[.pointer (some ⟨bk, 0, none⟩)] (w.setCell ⟨bk, 4, none⟩ (.int .i32 1)) fun e w1 => e = .returned (.tuple #[]) ∧ ∃ v, Row w1 bk 98 (Z2 p 0 1 v) ∧ R v w1) :
 Calls Tryz.prog 108 #[.pointer (some ⟨bk, 3, none⟩), .func (.func 79) #[.pointer (some ⟨bk, 0, none⟩)] #[]] w fun e w' =>
  e = .returned (.tuple #[]) ∧ ∃ v w1, Row w1 bk 98 (Z2 p 0 1 v) ∧ R v w1 ∧ w' = (w1.drew.setCell ⟨bk, 3, none⟩ (.int .u32 1)).setCell ⟨bk, 4, none⟩ (.int .i32 0) := by
 have b := Lv (Abd ⟨bk, 4, none⟩ w (hr.cellv (i := 4) rfl) (hr.free 4));have k : Row (w.setCell ⟨bk, 4, none⟩ (.int .i32 1)) bk 98 (Z2 p 0 1 v0) := hr.set 4 _;generalize w.setCell ⟨bk, 4, none⟩ (.int .i32 1) = w1 at b k hF;have h := Lv hF;have c := Lv (XM ⟨bk, 3, none⟩ 0 w1 (k.cellv (i := 3) rfl));have j : ∀ (x : Bool) (w : World), (Op.unary .not (.bool x)).run Tryz.prog w = .ok (.bool (!x)) w := fun _ _ => rfl
 clear hr hF;go_enter_defers Tryz.func108, Tryz.ntmps108
 go_wp2_with fail
 refine b.out.mono ?_;rintro e w' ⟨rfl, rfl⟩;clear b;go_wp2_with fail
 refine c.out.mono ?_;rintro e w' ⟨rfl, rfl⟩;clear c;go_wp2_with fail
 refine h.out.mono ?_;rintro e g ⟨rfl, v, d, m⟩;clear h;go_wp2_with fail
 refine leaves_cons (f := 143) (args := #[.pointer (some ⟨bk, 3, none⟩), .bool true]) (by simp) (by simp [go_sem]) ?_;refine (YD ⟨bk, 3, none⟩ (.int .u32 0) .returning _ (d.cellv (i := 3) rfl) (d.free 3)).mono ?_;rintro e n o ⟨rfl, rfl, rfl⟩;have l : Row (g.drew.setCell ⟨bk, 3, none⟩ (.int .u32 1)) bk 98 (Z2 p 1 1 v) := Row.set (w := g.drew) (cs := Z2 p 0 1 v) d 3 (.int .u32 1);refine leaves_cons (f := 142) (args := #[.pointer (some ⟨bk, 4, none⟩)]) (by simp [settle]) (by simp [go_sem]) ?_;refine (Yg ⟨bk, 4, none⟩ _ _ (l.cellv (i := 4) rfl) (l.free 4)).mono ?_;rintro e n q ⟨rfl, rfl, rfl⟩;simp only [Leaves, settle];refine ⟨_, results_none rfl _ _ _, rfl, v, g, d, m, rfl⟩
theorem Aex (bk : Nat) (p : PgV) (v0 : Value) (R : Value → World → Prop) (w : World) (hr : Row w bk 98 (Z2 p 0 0 v0))
 (hF : Calls Tryz.prog 79 #[.pointer (some ⟨bk, 0, none⟩)] (w.setCell ⟨bk, 4, none⟩ (.int .i32 1)) fun e w1 => e = .returned (.tuple #[]) ∧ ∃ v, Row w1 bk 98 (Z2 p 0 1 v) ∧ R v w1) :
 Calls Tryz.prog 70 #[.pointer (some ⟨bk, 3, none⟩), .func (.func 79) #[.pointer (some ⟨bk, 0, none⟩)] #[]] w fun e w' =>
  e = .returned (.tuple #[]) ∧ ∃ v w1, Row w1 bk 98 (Z2 p 0 1 v) ∧ R v w1 ∧ w' = (w1.drew.setCell ⟨bk, 3, none⟩ (.int .u32 1)).setCell ⟨bk, 4, none⟩ (.int .i32 0) := by
 have b := Lv (XM ⟨bk, 3, none⟩ 0 w (hr.cellv (i := 3) rfl));have c := Lv (Aey bk p v0 R w hr hF);have d : ∀ (x : Bool) (w : World), (Op.unary .not (.bool x)).run Tryz.prog w = .ok (.bool (!x)) w := fun _ _ => rfl
 clear hr hF;go_enter Tryz.func70, Tryz.ntmps70
 go_wp2_with fail
 refine b.out.mono ?_;rintro e w' ⟨rfl, rfl⟩;clear b;go_wp2_with fail
 refine c.out.mono ?_;rintro e g ⟨rfl, h⟩;clear c;go_wp2_with fail
 go_end0
 exact ⟨rfl, h⟩
theorem AfY (a : Addr) (x : Int) (w : World) (hc : w.cell? a = some (.int .i64 x)) :
 Calls Tryz.prog 33 #[.pointer (some a)] w fun e w' => e = .returned (.int .i64 x) ∧ w' = w := by
 have b := run_call_load (P := Tryz.prog) Tryz.func78 (by kernel_rfl) (by kernel_rfl) (by kernel_rfl) .i64 (by kernel_rfl) hc;go_enter Tryz.func33, Tryz.ntmps33
 go_wp2
 go_ret
 exact ⟨rfl, rfl⟩
theorem Ag3 (a : Addr) (x s : Int) (w : World) (hc : w.cell? a = some (.int .i64 x)) (hz : w.frozen? a = false) (hs : IntKind.i64.wrap (x + 1) = s) :
 Calls Tryz.prog 28 #[.pointer (some a), .int .i64 1] w fun e w' => e = .returned (.int .i64 s) ∧ w' = w.setCell a (.int .i64 s) := by
 have b := run_call_add (P := Tryz.prog) Tryz.func73 (by kernel_rfl) (by kernel_rfl) (by kernel_rfl) .i64 (by kernel_rfl) (y := 1) (s := s) hc hz (by simp [go_sem]; exact hs);go_enter Tryz.func28, Tryz.ntmps28
 go_wp2
 go_ret
 exact ⟨rfl, rfl⟩
theorem Ai8 (f g o : Nat) (T : TypeId) (cs : Array Value) (R : Array Value → World → Prop) (w : World) (hr : Row w g T cs) (h0 : cs[o]? = some (.int .u32 0)) (h1 : cs[o + 1]? = some (.int .i32 0))
 (hf : ∀ a w, (callFunc f a).run Tryz.prog w = .ok (.enter f a) w)
 (hF : Calls Tryz.prog f #[.pointer (some ⟨g, 0, none⟩)] (w.setCell ⟨g, o + 1, none⟩ (.int .i32 1)) fun e w1 => e = .returned (.tuple #[]) ∧ ∃ ds, Row w1 g T ds ∧ ds[o]? = some (.int .u32 0) ∧ ds[o + 1]? = some (.int .i32 1) ∧ R ds w1) :
 Calls Tryz.prog 108 #[.pointer (some ⟨g, o, none⟩), .func (.func f) #[.pointer (some ⟨g, 0, none⟩)] #[]] w fun e w' =>
  e = .returned (.tuple #[]) ∧ ∃ ds w1, Row w1 g T ds ∧ R ds w1 ∧ w' = (w1.drew.setCell ⟨g, o, none⟩ (.int .u32 1)).setCell ⟨g, o + 1, none⟩ (.int .i32 0) := by
 have b := Lv (Abd ⟨g, o + 1, none⟩ w (hr.cellv h1) (hr.free (o + 1)));have j : Row (w.setCell ⟨g, o + 1, none⟩ (.int .i32 1)) g T (cs.setIfInBounds (o + 1) (.int .i32 1)) := hr.set (o + 1) _;have d : (cs.setIfInBounds (o + 1) (.int .i32 1))[o]? = some (.int .u32 0) := by rw [Array.getElem?_setIfInBounds_ne (by omega)]; exact h0
 generalize w.setCell ⟨g, o + 1, none⟩ (.int .i32 1) = w1 at b j hF;have l := Lv hF;have c := Lv (XM ⟨g, o, none⟩ 0 w1 (j.cellv d));have m : ∀ (x : Bool) (w : World), (Op.unary .not (.bool x)).run Tryz.prog w = .ok (.bool (!x)) w := fun _ _ => rfl
 clear hr hF h0 h1 j d;go_enter_defers Tryz.func108, Tryz.ntmps108
 go_wp2_with fail
 refine b.out.mono ?_;rintro e w' ⟨rfl, rfl⟩;clear b;go_wp2_with fail
 refine c.out.mono ?_;rintro e w' ⟨rfl, rfl⟩;clear c;go_wp2_with fail
 refine l.out.mono ?_;rintro e k ⟨rfl, ds, h, p, q, s⟩;clear l hf;go_wp2_with fail
 refine leaves_cons (f := 143) (args := #[.pointer (some ⟨g, o, none⟩), .bool true]) (by simp) (by simp [go_sem]) ?_;refine (YD ⟨g, o, none⟩ (.int .u32 0) .returning _ (h.cellv p) (h.free o)).mono ?_;rintro e t u ⟨rfl, rfl, rfl⟩;have n : Row (k.drew.setCell ⟨g, o, none⟩ (.int .u32 1)) g T (ds.setIfInBounds o (.int .u32 1)) := Row.set (w := k.drew) (cs := ds) h o (.int .u32 1);have i : (ds.setIfInBounds o (.int .u32 1))[o + 1]? = some (.int .i32 1) := by rw [Array.getElem?_setIfInBounds_ne (by omega)]; exact q
 refine leaves_cons (f := 142) (args := #[.pointer (some ⟨g, o + 1, none⟩)]) (by simp [settle]) (by simp [go_sem]) ?_;refine (Yg ⟨g, o + 1, none⟩ _ _ (n.cellv i) (n.free (o + 1))).mono ?_;rintro e t v ⟨rfl, rfl, rfl⟩;simp only [Leaves, settle];refine ⟨_, results_none rfl _ _ _, rfl, ds, k, h, s, rfl⟩
theorem Ai7 (f g o : Nat) (T : TypeId) (cs : Array Value) (R : Array Value → World → Prop) (w : World) (hr : Row w g T cs) (h0 : cs[o]? = some (.int .u32 0)) (h1 : cs[o + 1]? = some (.int .i32 0))
 (hf : ∀ a w, (callFunc f a).run Tryz.prog w = .ok (.enter f a) w)
 (hF : Calls Tryz.prog f #[.pointer (some ⟨g, 0, none⟩)] (w.setCell ⟨g, o + 1, none⟩ (.int .i32 1)) fun e w1 => e = .returned (.tuple #[]) ∧ ∃ ds, Row w1 g T ds ∧ ds[o]? = some (.int .u32 0) ∧ ds[o + 1]? = some (.int .i32 1) ∧ R ds w1) :
 Calls Tryz.prog 70 #[.pointer (some ⟨g, o, none⟩), .func (.func f) #[.pointer (some ⟨g, 0, none⟩)] #[]] w fun e w' =>
  e = .returned (.tuple #[]) ∧ ∃ ds w1, Row w1 g T ds ∧ R ds w1 ∧ w' = (w1.drew.setCell ⟨g, o, none⟩ (.int .u32 1)).setCell ⟨g, o + 1, none⟩ (.int .i32 0) := by
 have b := Lv (XM ⟨g, o, none⟩ 0 w (hr.cellv h0));have c := Lv (Ai8 f g o T cs R w hr h0 h1 hf hF);have d : ∀ (x : Bool) (w : World), (Op.unary .not (.bool x)).run Tryz.prog w = .ok (.bool (!x)) w := fun _ _ => rfl
 clear hr hF h0 h1 hf;go_enter Tryz.func70, Tryz.ntmps70
 go_wp2_with fail
 refine b.out.mono ?_;rintro e w' ⟨rfl, rfl⟩;clear b;go_wp2_with fail
 refine c.out.mono ?_;rintro e i ⟨rfl, h⟩;clear c;go_wp2_with fail
 go_end0
 exact ⟨rfl, h⟩
theorem Agb (v : Value) (g o : Nat) (w : World) (h1 : w.cell? ⟨g, o, none⟩ = some (.int .u32 1)) :
 Calls Tryz.prog 70 #[.pointer (some ⟨g, o, none⟩), v] w fun e w' => e = .returned (.tuple #[]) ∧ w' = w := by
 have b := Lv (XM ⟨g, o, none⟩ 1 w h1);have c : ∀ (x : Bool) (w : World), (Op.unary .not (.bool x)).run Tryz.prog w = .ok (.bool (!x)) w := fun _ _ => rfl
 clear h1;go_enter Tryz.func70, Tryz.ntmps70
 go_wp2_with fail
 refine b.out.mono ?_;rintro e w' ⟨rfl, rfl⟩;clear b;go_wp2_with fail
 go_end0
 exact ⟨rfl, rfl⟩
end Go.Proofs.YtkoikjnlpifbjaaGreat
namespace Go.Proofs.YtkoikjnlpifbjaaGreat
def ZO (a b : Int) : Int := if a < b then -1 else if b < a then 1 else 0
def Zu : List Int → List Int → Int
 | [], [] => 0
 | [], _ :: _ => -1
 | _ :: _, [] => 1
 | a :: xs, b :: ys => if ZO a b ≠ 0 then ZO a b else Zu xs ys
structure Dl where
 path : List Int
 op : Int
 n : Int
def orI (a b : Int) : Int := if a ≠ 0 then a else b
def Z8 (d e : Dl) : Int := orI (Zu d.path e.path) (orI (ZO d.op e.op) (ZO d.n e.n))
theorem YM (a : Int) : ZO a a = 0 := by unfold ZO; rw [if_neg (by omega), if_neg (by omega)]
theorem cmpI_eq {a b : Int} : ZO a b = 0 ↔ a = b := by
 unfold ZO;constructor
 · intro h; split at h
   · cases h
   · split at h
     · cases h
     · omega
 · rintro rfl; rw [if_neg (by omega), if_neg (by omega)]
theorem cmpI_lt {a b : Int} : ZO a b < 0 ↔ a < b := by
 unfold ZO;split
 · simp_all
 · split <;> simp <;> omega
theorem Ei (a b : Int) : ZO b a = -ZO a b := by
 unfold ZO
 repeat' split
 all_goals omega
theorem AbE (a b : Int) : ZO a b = -1 ∨ ZO a b = 0 ∨ ZO a b = 1 := by
 unfold ZO
 repeat' split
 all_goals simp
theorem AaX : ∀ a : List Int, Zu a a = 0
 | [] => rfl
 | x :: xs => by rw [Zu, YM, if_neg (by simp), AaX xs]
theorem cmpL_eq : ∀ {a b : List Int}, Zu a b = 0 ↔ a = b
 | [], [] => by simp [Zu]
 | [], _ :: _ => by simp [Zu]
 | _ :: _, [] => by simp [Zu]
 | a :: xs, b :: ys => by
  rw [Zu]
  by_cases h : ZO a b = 0
  · rw [if_neg (by simpa using h), cmpL_eq, cmpI_eq.1 h]; simp
  · rw [if_pos h]
    constructor
    · intro e; exact absurd e h
    · intro e; injection e with e1 e2; exact absurd (cmpI_eq.2 e1) h
theorem AcP : ∀ (a b : List Int), Zu b a = -Zu a b
 | [], [] => by simp [Zu]
 | [], _ :: _ => by simp [Zu]
 | _ :: _, [] => by simp [Zu]
 | a :: xs, b :: ys => by
  rw [Zu, Zu, Ei a b]
  by_cases h : ZO a b = 0
  · rw [if_neg (by omega), if_neg (by omega), AcP xs ys]
  · rw [if_pos (by omega), if_pos h]
theorem Afs : ∀ (a b : List Int), Zu a b = -1 ∨ Zu a b = 0 ∨ Zu a b = 1
 | [], [] => by simp [Zu]
 | [], _ :: _ => by simp [Zu]
 | _ :: _, [] => by simp [Zu]
 | a :: xs, b :: ys => by
  rw [Zu]
  split
  · exact AbE a b
  · exact Afs xs ys
theorem Ek : ∀ {a b c : List Int}, Zu a b < 0 → Zu b c < 0 → Zu a c < 0
 | [], [], _, h, _ => by simp [Zu] at h
 | [], b :: ys, [], _, h => by simp [Zu] at h
 | [], b :: ys, c :: zs, _, _ => by simp [Zu]
 | a :: xs, [], _, h, _ => by simp [Zu] at h
 | a :: xs, b :: ys, [], _, h => by simp [Zu] at h
 | a :: xs, b :: ys, c :: zs, h1, h2 => by
  rw [Zu] at h1 h2 ⊢
  by_cases e1 : ZO a b = 0
  · rw [if_neg (by simpa using e1)] at h1
    have := cmpI_eq.1 e1
    subst this
    by_cases e2 : ZO a c = 0
    · rw [if_neg (by simpa using e2)] at h2 ⊢
      exact Ek h1 h2
    · rw [if_pos e2] at h2 ⊢
      exact h2
  · rw [if_pos e1] at h1
    by_cases e2 : ZO b c = 0
    · have := cmpI_eq.1 e2
      subst this
      rw [if_pos e1]; exact h1
    · rw [if_pos e2] at h2
      have h3 : ZO a c < 0 := cmpI_lt.2 (Int.lt_trans (cmpI_lt.1 h1) (cmpI_lt.1 h2))
      rw [if_pos (by omega)]; exact h3
theorem Ah0 {a b : Int} : orI a b = 0 ↔ a = 0 ∧ b = 0 := by
 unfold orI;split
 · rename_i h; exact ⟨fun e => absurd e h, fun e => e.1⟩
 · rename_i h; exact ⟨fun e => ⟨by omega, e⟩, fun e => e.2⟩
theorem cmpD_eq {d e : Dl} : Z8 d e = 0 ↔ d = e := by
 unfold Z8;rw [Ah0, Ah0, cmpL_eq, cmpI_eq, cmpI_eq];cases d; cases e;simp
theorem YL (d : Dl) : Z8 d d = 0 := cmpD_eq.2 rfl
theorem AfK (a b : Int) : orI (-a) (-b) = -orI a b := by
 unfold orI;by_cases h : a = 0
 · rw [if_neg (by omega), if_neg (by omega)]
 · rw [if_pos (by omega), if_pos h]
theorem Ahk (d e : Dl) : Z8 e d = -Z8 d e := by
 unfold Z8;rw [AcP, Ei d.op, Ei d.n, AfK, AfK]
theorem AhZ {a b : Int} (h1 : a = -1 ∨ a = 0 ∨ a = 1) (h2 : b = -1 ∨ b = 0 ∨ b = 1) : orI a b = -1 ∨ orI a b = 0 ∨ orI a b = 1 := by
 unfold orI; split <;> assumption
theorem Ai5 (d e : Dl) : Z8 d e = -1 ∨ Z8 d e = 0 ∨ Z8 d e = 1 := AhZ (Afs _ _) (AhZ (AbE _ _) (AbE _ _))
theorem Aes {d e f : Dl} (h1 : Z8 d e < 0) (h2 : Z8 e f < 0) : Z8 d f < 0 := by
 unfold Z8 orI at *;by_cases g : Zu d.path e.path = 0
 · rw [if_neg (by simpa using g)] at h1;rw [cmpL_eq.1 g];by_cases b : Zu e.path f.path = 0
   · rw [if_neg (by simpa using b)] at h2 ⊢;by_cases h : ZO d.op e.op = 0
     · rw [if_neg (by simpa using h)] at h1;rw [cmpI_eq.1 h];by_cases c : ZO e.op f.op = 0
       · rw [if_neg (by simpa using c)] at h2 ⊢;exact cmpI_lt.2 (Int.lt_trans (cmpI_lt.1 h1) (cmpI_lt.1 h2))
       · rw [if_pos c] at h2 ⊢; exact h2
     · rw [if_pos h] at h1;by_cases c : ZO e.op f.op = 0
       · rw [← cmpI_eq.1 c, if_pos h]; exact h1
       · rw [if_pos c] at h2;have i : ZO d.op f.op < 0 := cmpI_lt.2 (Int.lt_trans (cmpI_lt.1 h1) (cmpI_lt.1 h2));rw [if_pos (by omega)]; exact i
   · rw [if_pos b] at h2 ⊢; exact h2
 · rw [if_pos g] at h1;by_cases b : Zu e.path f.path = 0
   · rw [← cmpL_eq.1 b, if_pos g]; exact h1
   · rw [if_pos b] at h2;have i := Ek h1 h2;rw [if_pos (by omega)]; exact i
def KJ : List Dl → Prop
 | [] => True
 | [_] => True
 | a :: b :: l => Z8 a b < 0 ∧ KJ (b :: l)
theorem Ae4 {a : Dl} {l : List Dl} (h : KJ (a :: l)) : KJ l := by
 cases l with
 | nil => trivial
 | cons b l => exact h.2
theorem EW : ∀ {l : List Dl} {a b : Dl}, KJ (a :: l) → b ∈ l → Z8 a b < 0
 | [], _, _, _, h => by simp at h
 | c :: l, a, b, hr, h => by
  rcases L2.1 h with rfl | h
  · exact hr.1
  · exact Aes hr.1 (EW hr.2 h)
theorem YS : ∀ {l : List Dl} {i j : Nat} {a b : Dl}, KJ l → l[i]? = some a → l[j]? = some b → i < j → Z8 a b < 0
 | [], _, _, _, _, _, h, _, _ => by simp at h
 | c :: l, 0, 0, _, _, _, _, _, h => by omega
 | c :: l, 0, j + 1, a, b, hr, h1, h2, _ => by
  simp at h1 h2
  subst h1
  exact EW hr (Lj h2)
 | c :: l, i + 1, 0, _, _, _, _, _, h => by omega
 | c :: l, i + 1, j + 1, a, b, hr, h1, h2, h => YS (Ae4 hr) (by simpa using h1) (by simpa using h2) (by omega)
end Go.Proofs.YtkoikjnlpifbjaaGreat
namespace Go.Proofs.YtkoikjnlpifbjaaGreat
open Go.RowKit
def JQ : List Int → Prop
 | [] => True
 | [_] => True
 | a :: b :: l => a < b ∧ JQ (b :: l)
theorem Kk {a : Int} {l : List Int} (h : JQ (a :: l)) : JQ l := by
 cases l with
 | nil => trivial
 | cons b l => exact h.2
theorem Jv : ∀ {l : List Int} {a b : Int}, JQ (a :: l) → b ∈ l → a < b
 | [], _, _, _, h => by simp at h
 | c :: l, a, b, hr, h => by
  rcases L2.1 h with rfl | h
  · exact hr.1
  · exact Int.lt_trans hr.1 (Jv hr.2 h)
theorem EX {a : Int} {l : List Int} (h : JQ l) (hl : ∀ b ∈ l, a < b) : JQ (a :: l) := by
 cases l with
 | nil => trivial
 | cons b l => exact ⟨hl b (by simp), h⟩
theorem Va : ∀ {l m : List Int}, JQ l → JQ m → (∀ x, x ∈ l ↔ x ∈ m) → l = m
 | [], [], _, _, _ => rfl
 | [], b :: m, _, _, h => absurd ((h b).2 (by simp)) (by simp)
 | a :: l, [], _, _, h => absurd ((h a).1 (by simp)) (by simp)
 | a :: l, b :: m, h1, h2, h => by
  have hab : a = b := by
   rcases L2.1 ((h a).1 (by simp)) with e | i
   · exact e
   · rcases L2.1 ((h b).2 (by simp)) with e | j
     · exact e.symm
     · have := Jv h1 j; have := Jv h2 i; omega
  subst hab
  rw [Va (Kk h1) (Kk h2) fun x => ?_]
  constructor
  · intro c
    have d := Jv h1 c
    rcases L2.1 ((h x).1 (by simp [c])) with e | g
    · omega
    · exact g
  · intro c
    have d := Jv h2 c
    rcases L2.1 ((h x).2 (by simp [c])) with e | g
    · omega
    · exact g
def Aay (a : Int) : List Int → List Int
 | [] => [a]
 | b :: l => if a < b then a :: b :: l else if a = b then b :: l else b :: Aay a l
theorem EC (a x : Int) : ∀ l : List Int, x ∈ Aay a l ↔ x = a ∨ x ∈ l
 | [] => by simp [Aay]
 | b :: l => by
  rw [Aay]
  split
  · simp
  · split
    · rename_i e; subst e; simp
    · rw [L2, EC a x l, L2]
      constructor
      · rintro (h | h | h) <;> simp [h]
      · rintro (h | h | h) <;> simp [h]
theorem Aa9 (a : Int) : ∀ {l : List Int}, JQ l → JQ (Aay a l)
 | [], _ => trivial
 | b :: l, h => by
  rw [Aay]
  split
  · rename_i hab; exact ⟨hab, h⟩
  · split
    · exact h
    · rename_i h1 h2
      refine EX (Aa9 a (Kk h)) fun x hx => ?_
      rcases (EC a x l).1 hx with rfl | hx
      · omega
      · exact Jv h hx
def Xg : List Int → List Int
 | [] => []
 | a :: l => Aay a (Xg l)
theorem YT (x : Int) : ∀ l : List Int, x ∈ Xg l ↔ x ∈ l
 | [] => by simp [Xg]
 | a :: l => by rw [Xg, EC, YT x l, L2]
theorem Xi : ∀ l : List Int, JQ (Xg l)
 | [] => trivial
 | a :: l => Aa9 a (Xi l)
theorem JN (f : Int → Bool) : ∀ {l : List Int}, JQ l → JQ (l.filter f)
 | [], _ => trivial
 | a :: l, h => by
  rw [List.filter_cons]
  split
  · exact EX (JN f (Kk h)) fun b hb => Jv h ((Nq.1 hb).1)
  · exact JN f (Kk h)
def isC (x y : Nd) (op n : Int) : Bool :=
 if op = 1 then decide (7 ≤ x.tag ∧ x.tag ≤ 11 ∧ 7 ≤ n ∧ n ≤ 11 ∧ n ≠ x.tag) else if op = 2 then decide (12 ≤ x.tag ∧ x.tag ≤ 17 ∧ 12 ≤ n ∧ n ≤ 17 ∧ n ≠ x.tag)
 else if op = 3 then decide (18 ≤ x.tag ∧ x.tag ≤ 19 ∧ 18 ≤ n ∧ n ≤ 19 ∧ n ≠ x.tag)
 else if op = 4 then decide ((x.tag = 1 ∧ (n = 0 ∨ n = 1 ∨ n = -1 ∨ n = wrap64 (x.n + 1) ∨ n = wrap64 (x.n - 1)) ∧ n ≠ x.n) ∨ (x.tag = 2 ∧ n = wrap64 (1 - x.n)))
 else if op = 5 then decide ((x.tag = 21 ∨ x.tag = 22 ∨ x.tag = 23 ∨ x.tag = 24 ∨ x.tag = 25) ∧ n = 0)
 else if op = 6 then decide ((x.tag = 23 ∨ x.tag = 24) ∧ n = 0)
 else if op = 7 then decide (x.tag = 25 ∧ (n = 0 ∨ n = 1) ∧ ¬ (y.tag = 1 ∧ y.n = n)) else false
def Ace (x : Nd) : List Int := Xg ([-1, 0, 1, wrap64 (x.n - 1), wrap64 (x.n + 1)] ++ (List.range 13).map fun i : Nat => (i : Int) + 7)
def Jj (x y : Nd) : List (Int × Int) := ((List.range 7).map fun i : Nat => (i : Int) + 1).flatMap fun op => ((Ace x).filter (isC x y op)).map fun n => (op, n)
theorem Aba {x y : Nd} {op n : Int} (h : isC x y op n = true) (h2 : x.tag = 2 → x.n = 0 ∨ x.n = 1) : n ∈ Ace x := by
 unfold Ace;rw [YT]
 have b : ∀ k : Int, 7 ≤ k → k ≤ 19 → k ∈ (List.range 13).map fun i : Nat => (i : Int) + 7 := fun k c h2 => by
  rw [LR];exact ⟨(k - 7).toNat, NA.2 (by omega), by omega⟩
 unfold isC at h;rw [L5]
 repeat' split at h
 all_goals (first | (cases h; done) | skip)
 all_goals (simp only [decide_eq_true_eq] at h)
 · exact .inr (b n (by omega) (by omega))
 · exact .inr (b n (by omega) (by omega))
 · exact .inr (b n (by omega) (by omega))
 · refine .inl ?_;rcases h with ⟨_, h, _⟩ | ⟨c, h⟩
   · simp; omega
   · have : n = 0 ∨ n = 1 := by
      subst h;unfold wrap64;rcases h2 c with e | e <;> rw [e] <;> omega
     simp; omega
 · exact .inl (by simp; omega)
 · exact .inl (by simp; omega)
 · exact .inl (by simp; omega)
theorem AbD {x y : Nd} {op n : Int} (h2 : x.tag = 2 → x.n = 0 ∨ x.n = 1) : (op, n) ∈ Jj x y ↔ isC x y op n = true := by
 unfold Jj;rw [NO];constructor
 · rintro ⟨o, _, h⟩;rw [LR] at h;obtain ⟨m, b, e⟩ := h;injection e with e1 e2;subst e1; subst e2;exact (Nq.1 b).2
 · intro h
   have c : 1 ≤ op ∧ op ≤ 7 := by
    unfold isC at h
    repeat' split at h
    all_goals (first | (cases h; done) | omega)
   refine ⟨op, ?_, ?_⟩
   · rw [LR]; exact ⟨(op - 1).toNat, NA.2 (by omega), by omega⟩
   · rw [LR]; exact ⟨n, Nq.2 ⟨Aba h h2, h⟩, rfl⟩
mutual
def Q4 (own : List Int) (q : Nat) : Tr → List (Nat × List Int)
 | .node _ ks => (q, own) :: Zz own (q + 1) 0 ks
def Zz (own : List Int) (q : Nat) (i : Int) : List Tr → List (Nat × List Int)
 | [] => []
 | t :: ts => Q4 (own ++ [i]) q t ++ Zz own (q + t.size) (i + 1) ts
end
mutual
theorem Jf : ∀ (t : Tr) (own : List Int) (q : Nat), (Q4 own q t).length = t.size
 | .node x ks, own, q => by rw [Q4, Le, ES ks, Tr.size, Tr.flat, Le]
theorem ES : ∀ (ts : List Tr) (own : List Int) (q : Nat) (i : Int), (Zz own q i ts).length = (QL ts).length
 | [], _, _, _ => by simp [Zz, QL]
 | t :: ts, own, q, i => by rw [Zz, Lf, Jf t, ES ts, QL, Lf]; rfl
end
mutual
theorem U9 : ∀ (t : Tr) (own : List Int) (q j : Nat) (e : Nat × List Int), (Q4 own q t)[j]? = some e → e.1 = q + j
 | .node x ks, own, q, 0, e, h => by simp [Q4] at h; subst h; rfl
 | .node x ks, own, q, j + 1, e, h => by
  rw [Q4, Nm] at h
  have := Abp ks own (q + 1) 0 j e h
  omega
theorem Abp : ∀ (ts : List Tr) (own : List Int) (q : Nat) (i : Int) (j : Nat) (e : Nat × List Int), (Zz own q i ts)[j]? = some e → e.1 = q + j
 | [], _, _, _, _, _, h => by simp [Zz] at h
 | t :: ts, own, q, i, j, e, h => by
  rw [Zz] at h
  by_cases hj : j < t.size
  · rw [LC (by rw [Jf]; exact hj)] at h
    exact U9 t _ q j e h
  · rw [L8 (by rw [Jf]; omega), Jf] at h
    have := Abp ts own _ (i + 1) _ e h
    omega
end
def ZL : List Int → Nat → Tr → Option (Nat × Tr)
 | [], q, t => some (q, t)
 | i :: π, q, .node _ ks => if i < 0 then none else match (Zk (q + 1) ks)[i.toNat]?, ks[i.toNat]? with
  | some r, some k => ZL π r k
  | _, _ => none
theorem Un {l : List Nd} : ∀ {π : List Int} {q r : Nat} {t k : Tr}, At l q t → ZL π q t = some (r, k) → At l r k
 | [], q, r, t, k, h, e => by simp [ZL] at e; obtain ⟨rfl, rfl⟩ := e; exact h
 | i :: π, q, r, .node x ks, k, h, e => by
  rw [ZL] at e
  split at e
  · cases e
  · split at e
    · rename_i r1 k1 h1 h2
      exact Un (h.kids.spot i.toNat r1 k1 h1 h2).1 e
    · cases e
mutual
theorem JO : ∀ (t : Tr) (own : List Int) (q r : Nat) (π : List Int), (r, own ++ π) ∈ Q4 own q t ↔ ∃ k, ZL π q t = some (r, k)
 | .node x ks, own, q, r, [] => by
  rw [Q4, Na, L2, ZL]
  constructor
  · rintro (e | h)
    · injection e with e1 _; subst e1; exact ⟨_, rfl⟩
    · obtain ⟨j, ρ, e, _⟩ := Xd ks own (q + 1) 0 r own h
      have := congrArg List.length e
      simp at this
  · rintro ⟨k, e⟩
    injection e with e; injection e with e1 e2
    subst e1; exact .inl rfl
 | .node x ks, own, q, r, i :: π => by
  rw [Q4, L2, ZL]
  have hne : (r, own ++ i :: π) ≠ (q, own) := fun e => by
   injection e with _ e;have := congrArg List.length e;simp at this
  rw [or_iff_right hne, Vu ks own (q + 1) 0 r i π]
  constructor
  · rintro ⟨hi, s, k, b, c, d, g⟩
    rw [Int.sub_zero] at b c
    rw [if_neg (by omega), b, c]
    exact ⟨d, g⟩
  · rintro ⟨d, h⟩
    split at h
    · cases h
    · split at h
      · rename_i s k b c
        exact ⟨by omega, s, k, by rw [Int.sub_zero]; exact b, by rw [Int.sub_zero]; exact c, d, h⟩
      · cases h
theorem Xd : ∀ (ts : List Tr) (own : List Int) (q : Nat) (i : Int) (r : Nat) (σ : List Int), (r, σ) ∈ Zz own q i ts → ∃ (j : Int) (ρ : List Int), σ = own ++ j :: ρ ∧ i ≤ j
 | [], _, _, _, _, _, h => by simp [Zz] at h
 | t :: ts, own, q, i, r, σ, h => by
  rw [Zz, L5] at h
  rcases h with h | h
  · obtain ⟨ρ, e⟩ := Uc t (own ++ [i]) q r σ h
    exact ⟨i, ρ, by rw [e]; simp, Int.le_refl _⟩
  · obtain ⟨j, ρ, e, hj⟩ := Xd ts own _ (i + 1) r σ h
    exact ⟨j, ρ, e, by omega⟩
theorem Uc : ∀ (t : Tr) (own : List Int) (q r : Nat) (σ : List Int), (r, σ) ∈ Q4 own q t → ∃ ρ, σ = own ++ ρ
 | .node x ks, own, q, r, σ, h => by
  rw [Q4, L2] at h
  rcases h with e | h
  · injection e with _ e; exact ⟨[], by rw [e]; simp⟩
  · obtain ⟨j, ρ, e, _⟩ := Xd ks own (q + 1) 0 r σ h
    exact ⟨j :: ρ, e⟩
theorem Vu : ∀ (ts : List Tr) (own : List Int) (q : Nat) (i : Int) (r : Nat) (j : Int) (π : List Int), (r, own ++ j :: π) ∈ Zz own q i ts ↔ i ≤ j ∧ ∃ s k, (Zk q ts)[(j - i).toNat]? = some s ∧ ts[(j - i).toNat]? = some k ∧ ∃ k', ZL π s k = some (r, k')
 | [], _, _, _, _, _, _ => by simp [Zz]
 | t :: ts, own, q, i, r, j, π => by
  rw [Zz, L5, Vu ts own _ (i + 1) r j π]
  constructor
  · rintro (h | ⟨hi, s, k, h1, h2, h3⟩)
    · obtain ⟨ρ, e⟩ := Uc t (own ++ [i]) q r _ h
      rw [L4, List.append_cancel_left_eq] at e
      injection e with e1 e2
      subst e1
      rw [show own ++ j :: π = (own ++ [j]) ++ π by simp] at h
      refine ⟨Int.le_refl _, q, t, by simp [Zk], by simp, (JO t (own ++ [j]) q r π).1 h⟩
    · refine ⟨by omega, s, k, ?_, ?_, h3⟩
      · rw [show (j - i).toNat = (j - (i + 1)).toNat + 1 by omega, Zk, Nm]; exact h1
      · rw [show (j - i).toNat = (j - (i + 1)).toNat + 1 by omega, Nm]; exact h2
  · rintro ⟨hi, s, k, h1, h2, h3⟩
    by_cases e : j = i
    · subst e
      rw [Int.sub_self] at h1 h2
      simp [Zk] at h1 h2
      subst h1; subst h2
      refine .inl ?_
      rw [show own ++ j :: π = (own ++ [j]) ++ π by simp]
      exact (JO t (own ++ [j]) q r π).2 h3
    · refine .inr ⟨by omega, s, k, ?_, ?_, h3⟩
      · rw [show (j - i).toNat = (j - (i + 1)).toNat + 1 by omega, Zk, Nm] at h1; exact h1
      · rw [show (j - i).toNat = (j - (i + 1)).toNat + 1 by omega, Nm] at h2; exact h2
end
theorem Ej : ∀ (own a b : List Int), Zu (own ++ a) (own ++ b) = Zu a b
 | [], _, _ => rfl
 | x :: own, a, b => by rw [Ln, Ln, Zu, YM, if_neg (by simp), Ej own]
def E1 : List (Nat × List Int) → Prop
 | [] => True
 | a :: l => (∀ b ∈ l, Zu a.2 b.2 < 0) ∧ E1 l
theorem UG : ∀ {l m : List (Nat × List Int)}, E1 l → E1 m → (∀ a ∈ l, ∀ b ∈ m, Zu a.2 b.2 < 0) → E1 (l ++ m)
 | [], m, _, h, _ => h
 | a :: l, m, h1, h2, h => ⟨fun b hb => by
  rcases L5.1 hb with hb | hb
  · exact h1.1 b hb
  · exact h a (by simp) b hb, UG h1.2 h2 (fun x hx y hy => h x (by simp [hx]) y hy)⟩
mutual
theorem Vw : ∀ (t : Tr) (own : List Int) (q : Nat), E1 (Q4 own q t)
 | .node x ks, own, q => by
  rw [Q4]
  refine ⟨fun b hb => ?_, Vv ks own (q + 1) 0⟩
  obtain ⟨r, σ⟩ := b
  obtain ⟨j, ρ, e, _⟩ := Xd ks own (q + 1) 0 r σ hb
  simp only
  rw [e, show Zu own (own ++ j :: ρ) = Zu (own ++ []) (own ++ j :: ρ) by rw [Na], Ej]
  simp [Zu]
theorem Vv : ∀ (ts : List Tr) (own : List Int) (q : Nat) (i : Int), E1 (Zz own q i ts)
 | [], _, _, _ => trivial
 | t :: ts, own, q, i => by
  rw [Zz]
  refine UG (Vw t _ q) (Vv ts own _ (i + 1)) fun a ha b hb => ?_
  obtain ⟨r, σ⟩ := a
  obtain ⟨r', σ'⟩ := b
  obtain ⟨ρ, e⟩ := Uc t (own ++ [i]) q r σ ha
  obtain ⟨j, ρ', e', hj⟩ := Xd ts own _ (i + 1) r' σ' hb
  simp only
  have hij : ZO i j < 0 := cmpI_lt.2 (by omega)
  rw [e, e', L4, Ej, Ln, Lp, Zu, if_pos (by omega)]
  exact hij
end
theorem EZ : ∀ {l : List Int}, JQ l → l.Pairwise (· < ·)
 | [], _ => .nil
 | a :: l, h => .cons (fun b hb => Jv h hb) (EZ (Kk h))
theorem Aig {l : List Dl} (h : l.Pairwise fun a b => Z8 a b < 0) : KJ l := by
 induction h with
 | nil => trivial
 | @cons a l ha _ ih =>
  cases l with
  | nil => trivial
  | cons b l => exact ⟨ha b (by simp), ih⟩
theorem E3 : ∀ {l : List (Nat × List Int)}, E1 l → l.Pairwise fun a b => Zu a.2 b.2 < 0
 | [], _ => .nil
 | a :: l, h => .cons h.1 (E3 h.2)
theorem Aaw (x y : Nd) : (Jj x y).Pairwise fun a b => a.1 < b.1 ∨ (a.1 = b.1 ∧ a.2 < b.2) := by
 unfold Jj;rw [List.pairwise_flatMap];refine ⟨fun e _ => ?_, ?_⟩
 · rw [NJ];exact (EZ (JN _ (Xi _))).imp fun h => .inr ⟨rfl, h⟩
 · rw [NJ];refine List.pairwise_lt_range.imp fun {i j} hij => ?_
   intro a c b d;rw [LR] at c d;obtain ⟨m, _, rfl⟩ := c;obtain ⟨n, _, rfl⟩ := d;exact .inl (by show (i : Int) + 1 < (j : Int) + 1; omega)
def U6 (l : List Nd) (q : Nat) : Nd := (l[q]?).getD ⟨0, 0⟩
def Z7 (l : List Nd) (q : Nat) : List (Int × Int) := Jj (U6 l q) (U6 l (q + 1))
def Q8 (l : List Nd) (t : Tr) : List Dl := (Q4 [] 0 t).flatMap fun e => (Z7 l e.1).map fun c => ⟨e.2, c.1, c.2⟩
theorem YJ (l : List Nd) (t : Tr) : KJ (Q8 l t) := by
 refine Aig ?_;unfold Q8;rw [List.pairwise_flatMap];refine ⟨fun e _ => ?_, ?_⟩
 · rw [NJ];refine (Aaw _ _).imp fun {a b} h => ?_
   unfold Z8 orI;simp only [AaX];rw [if_neg (by simp)];rcases h with h | ⟨j, k⟩
   · have := cmpI_lt.2 h;rw [if_pos (by omega)]; exact this
   · rw [if_neg (by simpa using cmpI_eq.2 j)]; exact cmpI_lt.2 k
 · refine (E3 (Vw t [] 0)).imp fun {a b} h => ?_
   intro d g e i;rw [LR] at g i;obtain ⟨c, _, rfl⟩ := g;obtain ⟨m, _, rfl⟩ := i;unfold Z8 orI;simp only;rw [if_pos (by omega)]; exact h
theorem allZ_mem {l : List Nd} {t : Tr} {d : Dl} : d ∈ Q8 l t ↔ ∃ q k, ZL d.path 0 t = some (q, k) ∧ (d.op, d.n) ∈ Z7 l q := by
 unfold Q8;rw [NO];constructor
 · rintro ⟨⟨q, π⟩, e, b⟩;rw [LR] at b;obtain ⟨c, g, rfl⟩ := b;obtain ⟨k, h⟩ := (JO t [] 0 q π).1 (by simpa using e);exact ⟨q, k, h, g⟩
 · rintro ⟨q, k, e, b⟩;refine ⟨(q, d.path), ?_, ?_⟩
   · have := (JO t [] 0 q d.path).2 ⟨k, e⟩;simpa using this
   · rw [LR];exact ⟨_, b, rfl⟩
theorem AjI {l : List Dl} (h : KJ l) {m : Nat} {d e : Dl} (hm : l[m]? = some e) (hc : Z8 e d < 0) : ∀ i, l[i]? = some d → m < i := by
 intro i hi;rcases N6 m i with x | x | x
 · exact x
 · subst x; rw [hm] at hi; injection hi with hi; subst hi; rw [YL] at hc; omega
 · have := YS h hi hm x;rw [Ahk] at this; omega
theorem AjH {l : List Dl} (h : KJ l) {m : Nat} {d e : Dl} (hm : l[m]? = some e) (hc : 0 < Z8 e d) : ∀ i, l[i]? = some d → i < m := by
 intro i hi;rcases N6 i m with x | x | x
 · exact x
 · subst x; rw [hm] at hi; injection hi with hi; subst hi; rw [YL] at hc; omega
 · have := YS h hm hi x;omega
end Go.Proofs.YtkoikjnlpifbjaaGreat
namespace Go.Proofs.YtkoikjnlpifbjaaGreat
open Go.RowKit Go.Deep
def MapB (w : World) (r : Nat) (es : List (Int × Value)) : Prop := ∃ (arr : Array MapEntry) (clock : Nat), w.heap[r]? = some (.map arr clock) ∧ arr.toList.map (fun e => (e.key, e.val)) = es.map (fun p => (Value.int .i64 p.1, p.2))
def JB (k : Int) : List (Int × Value) → Option Value
 | [] => none
 | (k', v) :: es => if k = k' then some v else JB k es
theorem MapB.lt {w : World} {r : Nat} {es : List (Int × Value)} (h : MapB w r es) : r < w.heap.size := by
 obtain ⟨arr, b, c, _⟩ := h;exact (Lt.1 c).1
theorem MapB.below {w w' : World} {r B : Nat} {es : List (Int × Value)} (h : MapB w r es) (b : Below B w w') (hr : r < B) : MapB w' r es := by
 obtain ⟨arr, c, d, e⟩ := h;exact ⟨arr, c, (b.block r hr).trans d, e⟩
instance St.mapB {r : Nat} {es : List (Int × Value)} : St (fun W => MapB W r es) := ⟨fun h b => h.below b h.lt⟩
theorem Ys (k : Int) : ∀ (l : List MapEntry) (es : List (Int × Value)) (i : Nat), l.map (fun e => (e.key, e.val)) = es.map (fun p => (Value.int .i64 p.1, p.2)) →
 (match JB k es with | some v => ∃ j, Instr.findNow (.int .i64) (.int .i64 k) l i = some (some (j, v)) | none => Instr.findNow (.int .i64) (.int .i64 k) l i = some none)
 | [], es, i, h => by
  have : es = [] := by simpa using h.symm
  subst this; rfl
 | e :: l, [], i, h => by simp at h
 | e :: l, (k', v) :: es, i, h => by
  simp only [LQ, NG, Prod.mk.injEq] at h
  obtain ⟨⟨h1, h2⟩, h3⟩ := h
  have ih := Ys k l es (i + 1) h3
  have e1 : Instr.findNow (.int .i64) (.int .i64 k) (e :: l) i = match Instr.sameNow (.int .i64) (.int .i64 k) e.key with | some true => some (some (i, e.val)) | some false => Instr.findNow (.int .i64) (.int .i64 k) l (i + 1) | none => none := rfl
  rw [e1, h1]
  have e2 : Instr.sameNow (.int .i64) (.int .i64 k) (.int .i64 k') = some (k == k') := rfl
  rw [e2, JB]
  by_cases hk : k = k'
  · rw [if_pos hk]
    refine ⟨i, ?_⟩
    rw [show (k == k') = true by simpa using hk, h2]
  · rw [if_neg hk, show (k == k') = false by simpa using hk]
    exact ih
section
variable {P : Program} {w : World} {t kt et : TypeId} {r : Nat} {es : List (Int × Value)}
theorem Kl {b : Bool} {k : Int} (hk : P.underlying kt = some (.int .i64)) : (Instr.checkKey b 10000 kt (.int .i64 k)).run P w = .ok () w := by
 show (Instr.checkKey b (9999 + 1) kt (.int .i64 k)).run P w = .ok () w;rw [Instr.checkKey];simp [run_underlying hk]
theorem Aab (ht : P.underlying t = some (.map kt et)) (hk : P.underlying kt = some (.int .i64)) (h : MapB w r es) (k : Int) {z : Value} (hz : (zeroValue et).run P w = .ok z w) :
 (Instr.lookup t (.map (some r)) (.int .i64 k) false).run P w = .ok ((JB k es).getD z) w := by
 obtain ⟨arr, c, d, g⟩ := h;have b := Ys k arr.toList es 0 g;unfold Instr.lookup Instr.findKey;cases ha : JB k es with
 | some v =>
  rw [ha] at b;obtain ⟨j, e⟩ := b;simp [run_underlying ht, run_underlying hk, Kl hk, MapKept.run_getObj_map d, e]
 | none =>
  rw [ha] at b;simp only at b;simp [run_underlying ht, run_underlying hk, Kl hk, MapKept.run_getObj_map d, b, hz]
theorem Aaa (ht : P.underlying t = some (.map kt et)) (hk : P.underlying kt = some (.int .i64)) (h : MapB w r es) (k : Int) (v : Value) (hn : JB k es = none) :
 ∃ w', (Instr.mapUpdate t (.map (some r)) (.int .i64 k) v).run P w = .ok () w' ∧ MapB w' r (es ++ [(k, v)]) ∧ Only r w w' := by
 obtain ⟨arr, b, c, i⟩ := h;have d := Ys k arr.toList es 0 i;rw [hn] at d;simp only at d;have g : r < w.heap.size := (Lt.1 c).1;refine ⟨{ w with heap := w.heap.setIfInBounds r (.map (arr.push { key := .int .i64 k, val := v, born := b }) (b + 1)) }, ?_, ⟨arr.push { key := .int .i64 k, val := v, born := b }, b + 1, ?_, ?_⟩, ⟨rfl, rfl, rfl, by simp, fun j l => ?_⟩⟩
 · unfold Instr.mapUpdate Instr.findKey;simp [run_underlying ht, run_underlying hk, Kl hk, MapKept.run_getObj_map c, d, MapKept.run_setObj_map _ c]
 · simp [g]
 · simp [i]
 · simp [NH]; intro e; exact absurd e.symm l
theorem MapB.new (w : World) : MapB (w.alloc (.map #[] 0)) w.heap.size [] := ⟨#[], 0, heap_alloc_new w _, rfl⟩
end
section
variable {P : Program} {ops : Array Oper} {rest : List Oper} {o : Oper} {a : Act} {w : World} {Q : Exit → Act → World → Prop} {t kt et : TypeId} {r : Nat} {es : List (Int × Value)}
theorem VG {ρ : Operand → Value} {m x y : Operand} (ho : o.op = .insert t m x y ∨ o.op = .mapUpdate t m x y) {k v : Value} {r : Value} (hm : ρ m = r) (hx : ρ x = k) (hy : ρ y = v) {w' : World} (h : (Instr.mapUpdate t r k v).run P w = .ok () w') : (execOp ρ o).run P w = .ok .skip w' := by
 rcases ho with ho | ho <;> simp [execOp, ho, hm, hx, hy, h]
theorem Xx (hgd : o.guard = none) (m x y : Operand) (ho : o.op = .insert t m x y ∨ o.op = .mapUpdate t m x y) (ht : P.underlying t = some (.map kt et)) (hk : P.underlying kt = some (.int .i64)) (hb : MapB w r es) (hm : a.eval m = .map (some r)) (k : Int) (v : Value) (hx : a.eval x = .int .i64 k) (hy : a.eval y = v) (hn : JB k es = none)
 (h : ∀ w', MapB w' r (es ++ [(k, v)]) → Only r w w' → wpList P ops Q rest (a.put o.dst undef) w') : wpList P ops Q (o :: rest) a w :=
 wpList_plain hgd fun _ hK => by
  obtain ⟨w', h1, h2, h3⟩ := Aaa ht hk hb k v hn
  unfold Oper.wp
  rw [VG ho hm hx hy h1]
  exact hK _ _ (h w' h2 h3)
theorem ZN (hgd : o.guard = none) (m x : Operand) (ho : o.op = .lookup t m x false) (ht : P.underlying t = some (.map kt et)) (hk : P.underlying kt = some (.int .i64)) (hb : MapB w r es) (hm : a.eval m = .map (some r)) (k : Int) (hx : a.eval x = .int .i64 k) {z : Value} (hz : (zeroValue et).run P w = .ok z w)
 (h : wpList P ops Q rest (a.put o.dst ((JB k es).getD z)) w) : wpList P ops Q (o :: rest) a w :=
 Yd hgd _ (by simp only [execOp, ho, hm, hx, Sem.run_bind, Aab ht hk hb k hz, Result.andThen_ok, Sem.run_pure]) h
end
theorem Uu : ∀ {ks : List Tr} {k : Tr}, k ∈ ks → k.size ≤ (QL ks).length
 | [], _, h => by simp at h
 | t :: ts, k, h => by
  rw [QL, Lf]
  rcases L2.1 h with rfl | h
  · simp [Tr.size]
  · have := Uu h; omega
theorem AeX {w : World} {base n : Nat} {e : TypeId} {v : Value} {xs : List Value} (h : w.ownsRow base e 1 v n xs) : ∃ A cap, v = .slice A n cap ∧ Rd w A xs ∧ n ≤ cap ∧ (A = none → cap = 0) := by
 have t : xs.length = n := by have := h.1; omega
 rcases h.2 with ⟨rfl, i⟩ | ⟨g, cap, b, rfl, s, l, k, x, o, p⟩
 · have q : xs = [] := L0 (by omega);subst q;refine ⟨none, 0, by rw [i], Rd.nil _ _, by omega, fun _ => rfl⟩
 · refine ⟨some ⟨g, 0, none⟩, cap, rfl, fun j u c => ⟨_, rfl, ?_⟩, k, fun h => by cases h⟩;have m : Row w g e b := l
   exact m.from_ 0 (cs := xs) (fun j v c => by
    rw [LN, ← Nk]
    have d : (b.toList.take (n * 1))[j]? = some v := by rw [p]; exact c
    rw [LV (by have := (Ld.1 c).1; omega)] at d; exact d) j u c
theorem Jg (W : World) (xs : List Value) (t : TypeId) : Rd (W.alloc (.cells xs.toArray t)) (some ⟨W.heap.size, 0, none⟩) xs := fun j u hj => ⟨_, rfl, JK W xs t j u hj⟩
theorem Abz {w : World} : (zeroValue 65).run Tryz.prog w = .ok (.agg #[.int .i64 0, .int .i64 0]) w := by kernel_rfl
end Go.Proofs.YtkoikjnlpifbjaaGreat
