/- Lemmas for RunnerTurnsP. -/
import Derived.Test.YtkoikjnlpifbjaaGreatZa2
import Derived.Test.YtkoikjnlpifbjaaGreatZa4
import Derived.Test.YtkoikjnlpifbjaaGreatZa3
import Derived.Test.YtkoikjnlpifbjaaGreatZa1
import Derived.ChangeMaps4
set_option linter.unusedVariables false
set_option linter.unusedSimpArgs false
set_option maxRecDepth 100000
set_option maxHeartbeats 16000000
namespace Go.Proofs.YtkoikjnlpifbjaaGreat
open Go.RowKit Go.Deep
def ZY (p : PgV) (dn st : Int) (v : Value) : Array Value := #[.int .i64 p.params, .slice p.va p.V.length p.vcap, .slice p.ba p.body.length p.bcap, .int .u32 dn, .int .i32 st, .int .u32 0, v]
theorem Xq (a : Addr) (x : Int) (w : World) (hc : w.cell? a = some (.int .u32 x)) :
 Calls Tryz.prog 107 #[.pointer (some a)] w fun e w' => e = .returned (.bool (x != 0)) ∧ w' = w := by
 have b := run_call_load (P := Tryz.prog) Tryz.func140 (by kernel_rfl) (by kernel_rfl) (by kernel_rfl) .u32 (by kernel_rfl) hc;go_enter Tryz.func107, Tryz.ntmps107
 go_wp2
 go_ret
 exact ⟨rfl, rfl⟩
theorem Ad0 (bk : Nat) (p : PgV) (v0 : Value) (R : Value → World → Prop) (w : World) (hr : Row w bk 98 (ZY p 0 0 v0))
 (hF : Calls Tryz.prog 79 #[.pointer (some ⟨bk, 0, none⟩)] (w.setCell ⟨bk, 4, none⟩ (.int .i32 1)) fun e w1 => e = .returned (.tuple #[]) ∧ ∃ v, Row w1 bk 98 (ZY p 0 1 v) ∧ R v w1) :
 Calls Tryz.prog 108 #[.pointer (some ⟨bk, 3, none⟩), .func (.func 79) #[.pointer (some ⟨bk, 0, none⟩)] #[]] w fun e w' =>
  e = .returned (.tuple #[]) ∧ ∃ v w1, Row w1 bk 98 (ZY p 0 1 v) ∧ R v w1 ∧ w' = (w1.drew.setCell ⟨bk, 3, none⟩ (.int .u32 1)).setCell ⟨bk, 4, none⟩ (.int .i32 0) := by
 have b := Lh (AaP ⟨bk, 4, none⟩ w (hr.cellv (i := 4) rfl) (hr.free 4));have k : Row (w.setCell ⟨bk, 4, none⟩ (.int .i32 1)) bk 98 (ZY p 0 1 v0) := hr.set 4 _;generalize w.setCell ⟨bk, 4, none⟩ (.int .i32 1) = w1 at b k hF;have h := Lh hF;have c := Lh (Xq ⟨bk, 3, none⟩ 0 w1 (k.cellv (i := 3) rfl));have j : ∀ (x : Bool) (w : World), (Op.unary .not (.bool x)).run Tryz.prog w = .ok (.bool (!x)) w := fun _ _ => rfl
 clear hr hF;go_enter_defers Tryz.func108, Tryz.ntmps108
 go_wp2_with fail
 refine b.out.mono ?_;rintro e w' ⟨rfl, rfl⟩;clear b;go_wp2_with fail
 refine c.out.mono ?_;rintro e w' ⟨rfl, rfl⟩;clear c;go_wp2_with fail
 refine h.out.mono ?_;rintro e g ⟨rfl, v, d, m⟩;clear h;go_wp2_with fail
 refine leaves_cons (f := 143) (args := #[.pointer (some ⟨bk, 3, none⟩), .bool true]) (by simp) (by simp [go_sem]) ?_;refine (Yc ⟨bk, 3, none⟩ (.int .u32 0) .returning _ (d.cellv (i := 3) rfl) (d.free 3)).mono ?_;rintro e n o ⟨rfl, rfl, rfl⟩;have l : Row (g.drew.setCell ⟨bk, 3, none⟩ (.int .u32 1)) bk 98 (ZY p 1 1 v) := Row.set (w := g.drew) (cs := ZY p 0 1 v) d 3 (.int .u32 1);refine leaves_cons (f := 142) (args := #[.pointer (some ⟨bk, 4, none⟩)]) (by simp [settle]) (by simp [go_sem]) ?_;refine (XR ⟨bk, 4, none⟩ _ _ (l.cellv (i := 4) rfl) (l.free 4)).mono ?_;rintro e n q ⟨rfl, rfl, rfl⟩;simp only [Leaves, settle];refine ⟨_, results_none rfl _ _ _, rfl, v, g, d, m, rfl⟩
theorem AdZ (bk : Nat) (p : PgV) (v0 : Value) (R : Value → World → Prop) (w : World) (hr : Row w bk 98 (ZY p 0 0 v0))
 (hF : Calls Tryz.prog 79 #[.pointer (some ⟨bk, 0, none⟩)] (w.setCell ⟨bk, 4, none⟩ (.int .i32 1)) fun e w1 => e = .returned (.tuple #[]) ∧ ∃ v, Row w1 bk 98 (ZY p 0 1 v) ∧ R v w1) :
 Calls Tryz.prog 70 #[.pointer (some ⟨bk, 3, none⟩), .func (.func 79) #[.pointer (some ⟨bk, 0, none⟩)] #[]] w fun e w' =>
  e = .returned (.tuple #[]) ∧ ∃ v w1, Row w1 bk 98 (ZY p 0 1 v) ∧ R v w1 ∧ w' = (w1.drew.setCell ⟨bk, 3, none⟩ (.int .u32 1)).setCell ⟨bk, 4, none⟩ (.int .i32 0) := by
 have b := Lh (Xq ⟨bk, 3, none⟩ 0 w (hr.cellv (i := 3) rfl));have c := Lh (Ad0 bk p v0 R w hr hF);have d : ∀ (x : Bool) (w : World), (Op.unary .not (.bool x)).run Tryz.prog w = .ok (.bool (!x)) w := fun _ _ => rfl
 clear hr hF;go_enter Tryz.func70, Tryz.ntmps70
 go_wp2_with fail
 refine b.out.mono ?_;rintro e w' ⟨rfl, rfl⟩;clear b;go_wp2_with fail
 refine c.out.mono ?_;rintro e g ⟨rfl, h⟩;clear c;go_wp2_with fail
 go_end0
 exact ⟨rfl, h⟩
theorem Afp (a : Addr) (x : Int) (w : World) (hc : w.cell? a = some (.int .i64 x)) :
 Calls Tryz.prog 33 #[.pointer (some a)] w fun e w' => e = .returned (.int .i64 x) ∧ w' = w := by
 have b := run_call_load (P := Tryz.prog) Tryz.func78 (by kernel_rfl) (by kernel_rfl) (by kernel_rfl) .i64 (by kernel_rfl) hc;go_enter Tryz.func33, Tryz.ntmps33
 go_wp2
 go_ret
 exact ⟨rfl, rfl⟩
theorem Agn (a : Addr) (x s : Int) (w : World) (hc : w.cell? a = some (.int .i64 x)) (hz : w.frozen? a = false) (hs : IntKind.i64.wrap (x + 1) = s) :
 Calls Tryz.prog 28 #[.pointer (some a), .int .i64 1] w fun e w' => e = .returned (.int .i64 s) ∧ w' = w.setCell a (.int .i64 s) := by
 have b := run_call_add (P := Tryz.prog) Tryz.func73 (by kernel_rfl) (by kernel_rfl) (by kernel_rfl) .i64 (by kernel_rfl) (y := 1) (s := s) hc hz (by simp [go_sem]; exact hs);go_enter Tryz.func28, Tryz.ntmps28
 go_wp2
 go_ret
 exact ⟨rfl, rfl⟩
theorem Aig (f g o : Nat) (T : TypeId) (cs : Array Value) (R : Array Value → World → Prop) (w : World) (hr : Row w g T cs) (h0 : cs[o]? = some (.int .u32 0)) (h1 : cs[o + 1]? = some (.int .i32 0))
 (hf : ∀ a w, (callFunc f a).run Tryz.prog w = .ok (.enter f a) w)
 (hF : Calls Tryz.prog f #[.pointer (some ⟨g, 0, none⟩)] (w.setCell ⟨g, o + 1, none⟩ (.int .i32 1)) fun e w1 => e = .returned (.tuple #[]) ∧ ∃ ds, Row w1 g T ds ∧ ds[o]? = some (.int .u32 0) ∧ ds[o + 1]? = some (.int .i32 1) ∧ R ds w1) :
 Calls Tryz.prog 108 #[.pointer (some ⟨g, o, none⟩), .func (.func f) #[.pointer (some ⟨g, 0, none⟩)] #[]] w fun e w' =>
  e = .returned (.tuple #[]) ∧ ∃ ds w1, Row w1 g T ds ∧ R ds w1 ∧ w' = (w1.drew.setCell ⟨g, o, none⟩ (.int .u32 1)).setCell ⟨g, o + 1, none⟩ (.int .i32 0) := by
 have b := Lh (AaP ⟨g, o + 1, none⟩ w (hr.cellv h1) (hr.free (o + 1)));have j : Row (w.setCell ⟨g, o + 1, none⟩ (.int .i32 1)) g T (cs.setIfInBounds (o + 1) (.int .i32 1)) := hr.set (o + 1) _;have d : (cs.setIfInBounds (o + 1) (.int .i32 1))[o]? = some (.int .u32 0) := by rw [Array.getElem?_setIfInBounds_ne (by omega)]; exact h0
 generalize w.setCell ⟨g, o + 1, none⟩ (.int .i32 1) = w1 at b j hF;have l := Lh hF;have c := Lh (Xq ⟨g, o, none⟩ 0 w1 (j.cellv d));have m : ∀ (x : Bool) (w : World), (Op.unary .not (.bool x)).run Tryz.prog w = .ok (.bool (!x)) w := fun _ _ => rfl
 clear hr hF h0 h1 j d;go_enter_defers Tryz.func108, Tryz.ntmps108
 go_wp2_with fail
 refine b.out.mono ?_;rintro e w' ⟨rfl, rfl⟩;clear b;go_wp2_with fail
 refine c.out.mono ?_;rintro e w' ⟨rfl, rfl⟩;clear c;go_wp2_with fail
 refine l.out.mono ?_;rintro e k ⟨rfl, ds, h, p, q, s⟩;clear l hf;go_wp2_with fail
 refine leaves_cons (f := 143) (args := #[.pointer (some ⟨g, o, none⟩), .bool true]) (by simp) (by simp [go_sem]) ?_;refine (Yc ⟨g, o, none⟩ (.int .u32 0) .returning _ (h.cellv p) (h.free o)).mono ?_;rintro e t u ⟨rfl, rfl, rfl⟩;have n : Row (k.drew.setCell ⟨g, o, none⟩ (.int .u32 1)) g T (ds.setIfInBounds o (.int .u32 1)) := Row.set (w := k.drew) (cs := ds) h o (.int .u32 1);have i : (ds.setIfInBounds o (.int .u32 1))[o + 1]? = some (.int .i32 1) := by rw [Array.getElem?_setIfInBounds_ne (by omega)]; exact q
 refine leaves_cons (f := 142) (args := #[.pointer (some ⟨g, o + 1, none⟩)]) (by simp [settle]) (by simp [go_sem]) ?_;refine (XR ⟨g, o + 1, none⟩ _ _ (n.cellv i) (n.free (o + 1))).mono ?_;rintro e t v ⟨rfl, rfl, rfl⟩;simp only [Leaves, settle];refine ⟨_, results_none rfl _ _ _, rfl, ds, k, h, s, rfl⟩
theorem Aif (f g o : Nat) (T : TypeId) (cs : Array Value) (R : Array Value → World → Prop) (w : World) (hr : Row w g T cs) (h0 : cs[o]? = some (.int .u32 0)) (h1 : cs[o + 1]? = some (.int .i32 0))
 (hf : ∀ a w, (callFunc f a).run Tryz.prog w = .ok (.enter f a) w)
 (hF : Calls Tryz.prog f #[.pointer (some ⟨g, 0, none⟩)] (w.setCell ⟨g, o + 1, none⟩ (.int .i32 1)) fun e w1 => e = .returned (.tuple #[]) ∧ ∃ ds, Row w1 g T ds ∧ ds[o]? = some (.int .u32 0) ∧ ds[o + 1]? = some (.int .i32 1) ∧ R ds w1) :
 Calls Tryz.prog 70 #[.pointer (some ⟨g, o, none⟩), .func (.func f) #[.pointer (some ⟨g, 0, none⟩)] #[]] w fun e w' =>
  e = .returned (.tuple #[]) ∧ ∃ ds w1, Row w1 g T ds ∧ R ds w1 ∧ w' = (w1.drew.setCell ⟨g, o, none⟩ (.int .u32 1)).setCell ⟨g, o + 1, none⟩ (.int .i32 0) := by
 have b := Lh (Xq ⟨g, o, none⟩ 0 w (hr.cellv h0));have c := Lh (Aig f g o T cs R w hr h0 h1 hf hF);have d : ∀ (x : Bool) (w : World), (Op.unary .not (.bool x)).run Tryz.prog w = .ok (.bool (!x)) w := fun _ _ => rfl
 clear hr hF h0 h1 hf;go_enter Tryz.func70, Tryz.ntmps70
 go_wp2_with fail
 refine b.out.mono ?_;rintro e w' ⟨rfl, rfl⟩;clear b;go_wp2_with fail
 refine c.out.mono ?_;rintro e i ⟨rfl, h⟩;clear c;go_wp2_with fail
 go_end0
 exact ⟨rfl, h⟩
theorem Afz (v : Value) (g o : Nat) (w : World) (h1 : w.cell? ⟨g, o, none⟩ = some (.int .u32 1)) :
 Calls Tryz.prog 70 #[.pointer (some ⟨g, o, none⟩), v] w fun e w' => e = .returned (.tuple #[]) ∧ w' = w := by
 have b := Lh (Xq ⟨g, o, none⟩ 1 w h1);have c : ∀ (x : Bool) (w : World), (Op.unary .not (.bool x)).run Tryz.prog w = .ok (.bool (!x)) w := fun _ _ => rfl
 clear h1;go_enter Tryz.func70, Tryz.ntmps70
 go_wp2_with fail
 refine b.out.mono ?_;rintro e w' ⟨rfl, rfl⟩;clear b;go_wp2_with fail
 go_end0
 exact ⟨rfl, rfl⟩
end Go.Proofs.YtkoikjnlpifbjaaGreat
namespace Go.Proofs.YtkoikjnlpifbjaaGreat
def Zb (a b : Int) : Int := if a < b then -1 else if b < a then 1 else 0
def Zj : List Int → List Int → Int
 | [], [] => 0
 | [], _ :: _ => -1
 | _ :: _, [] => 1
 | a :: xs, b :: ys => if Zb a b ≠ 0 then Zb a b else Zj xs ys
structure Dl where
 path : List Int
 op : Int
 n : Int
def orI (a b : Int) : Int := if a ≠ 0 then a else b
def Jm (d e : Dl) : Int := orI (Zj d.path e.path) (orI (Zb d.op e.op) (Zb d.n e.n))
theorem Yn (a : Int) : Zb a a = 0 := by unfold Zb; rw [if_neg (by omega), if_neg (by omega)]
theorem cmpI_eq {a b : Int} : Zb a b = 0 ↔ a = b := by
 unfold Zb;constructor
 · intro h; split at h
   · cases h
   · split at h
     · cases h
     · omega
 · rintro rfl; rw [if_neg (by omega), if_neg (by omega)]
theorem cmpI_lt {a b : Int} : Zb a b < 0 ↔ a < b := by
 unfold Zb;split
 · simp_all
 · split <;> simp <;> omega
theorem VK (a b : Int) : Zb b a = -Zb a b := by
 unfold Zb
 repeat' split
 all_goals omega
theorem Abf (a b : Int) : Zb a b = -1 ∨ Zb a b = 0 ∨ Zb a b = 1 := by
 unfold Zb
 repeat' split
 all_goals simp
theorem Aay : ∀ a : List Int, Zj a a = 0
 | [] => rfl
 | x :: xs => by rw [Zj, Yn, if_neg (by simp), Aay xs]
theorem cmpL_eq : ∀ {a b : List Int}, Zj a b = 0 ↔ a = b
 | [], [] => by simp [Zj]
 | [], _ :: _ => by simp [Zj]
 | _ :: _, [] => by simp [Zj]
 | a :: xs, b :: ys => by
  rw [Zj]
  by_cases h : Zb a b = 0
  · rw [if_neg (by simpa using h), cmpL_eq, cmpI_eq.1 h]; simp
  · rw [if_pos h]
    constructor
    · intro e; exact absurd e h
    · intro e; injection e with e1 e2; exact absurd (cmpI_eq.2 e1) h
theorem Acl : ∀ (a b : List Int), Zj b a = -Zj a b
 | [], [] => by simp [Zj]
 | [], _ :: _ => by simp [Zj]
 | _ :: _, [] => by simp [Zj]
 | a :: xs, b :: ys => by
  rw [Zj, Zj, VK a b]
  by_cases h : Zb a b = 0
  · rw [if_neg (by omega), if_neg (by omega), Acl xs ys]
  · rw [if_pos (by omega), if_pos h]
theorem AeT : ∀ (a b : List Int), Zj a b = -1 ∨ Zj a b = 0 ∨ Zj a b = 1
 | [], [] => by simp [Zj]
 | [], _ :: _ => by simp [Zj]
 | _ :: _, [] => by simp [Zj]
 | a :: xs, b :: ys => by
  rw [Zj]
  split
  · exact Abf a b
  · exact AeT xs ys
theorem VN : ∀ {a b c : List Int}, Zj a b < 0 → Zj b c < 0 → Zj a c < 0
 | [], [], _, h, _ => by simp [Zj] at h
 | [], b :: ys, [], _, h => by simp [Zj] at h
 | [], b :: ys, c :: zs, _, _ => by simp [Zj]
 | a :: xs, [], _, h, _ => by simp [Zj] at h
 | a :: xs, b :: ys, [], _, h => by simp [Zj] at h
 | a :: xs, b :: ys, c :: zs, h1, h2 => by
  rw [Zj] at h1 h2 ⊢
  by_cases e1 : Zb a b = 0
  · rw [if_neg (by simpa using e1)] at h1
    have := cmpI_eq.1 e1
    subst this
    by_cases e2 : Zb a c = 0
    · rw [if_neg (by simpa using e2)] at h2 ⊢
      exact VN h1 h2
    · rw [if_pos e2] at h2 ⊢
      exact h2
  · rw [if_pos e1] at h1
    by_cases e2 : Zb b c = 0
    · have := cmpI_eq.1 e2
      subst this
      rw [if_pos e1]; exact h1
    · rw [if_pos e2] at h2
      have h3 : Zb a c < 0 := cmpI_lt.2 (Int.lt_trans (cmpI_lt.1 h1) (cmpI_lt.1 h2))
      rw [if_pos (by omega)]; exact h3
theorem Ahg {a b : Int} : orI a b = 0 ↔ a = 0 ∧ b = 0 := by
 unfold orI;split
 · rename_i h; exact ⟨fun e => absurd e h, fun e => e.1⟩
 · rename_i h; exact ⟨fun e => ⟨by omega, e⟩, fun e => e.2⟩
theorem cmpD_eq {d e : Dl} : Jm d e = 0 ↔ d = e := by
 unfold Jm;rw [Ahg, Ahg, cmpL_eq, cmpI_eq, cmpI_eq];cases d; cases e;simp
theorem Aax (d : Dl) : Jm d d = 0 := cmpD_eq.2 rfl
theorem Afc (a b : Int) : orI (-a) (-b) = -orI a b := by
 unfold orI;by_cases h : a = 0
 · rw [if_neg (by omega), if_neg (by omega)]
 · rw [if_pos (by omega), if_pos h]
theorem Agy (d e : Dl) : Jm e d = -Jm d e := by
 unfold Jm;rw [Acl, VK d.op, VK d.n, Afc, Afc]
theorem Ahf {a b : Int} (h1 : a = -1 ∨ a = 0 ∨ a = 1) (h2 : b = -1 ∨ b = 0 ∨ b = 1) : orI a b = -1 ∨ orI a b = 0 ∨ orI a b = 1 := by
 unfold orI; split <;> assumption
theorem Aid (d e : Dl) : Jm d e = -1 ∨ Jm d e = 0 ∨ Jm d e = 1 := Ahf (AeT _ _) (Ahf (Abf _ _) (Abf _ _))
theorem AdU {d e f : Dl} (h1 : Jm d e < 0) (h2 : Jm e f < 0) : Jm d f < 0 := by
 unfold Jm orI at *;by_cases g : Zj d.path e.path = 0
 · rw [if_neg (by simpa using g)] at h1;rw [cmpL_eq.1 g];by_cases b : Zj e.path f.path = 0
   · rw [if_neg (by simpa using b)] at h2 ⊢;by_cases h : Zb d.op e.op = 0
     · rw [if_neg (by simpa using h)] at h1;rw [cmpI_eq.1 h];by_cases c : Zb e.op f.op = 0
       · rw [if_neg (by simpa using c)] at h2 ⊢;exact cmpI_lt.2 (Int.lt_trans (cmpI_lt.1 h1) (cmpI_lt.1 h2))
       · rw [if_pos c] at h2 ⊢; exact h2
     · rw [if_pos h] at h1;by_cases c : Zb e.op f.op = 0
       · rw [← cmpI_eq.1 c, if_pos h]; exact h1
       · rw [if_pos c] at h2;have i : Zb d.op f.op < 0 := cmpI_lt.2 (Int.lt_trans (cmpI_lt.1 h1) (cmpI_lt.1 h2));rw [if_pos (by omega)]; exact i
   · rw [if_pos b] at h2 ⊢; exact h2
 · rw [if_pos g] at h1;by_cases b : Zj e.path f.path = 0
   · rw [← cmpL_eq.1 b, if_pos g]; exact h1
   · rw [if_pos b] at h2;have i := VN h1 h2;rw [if_pos (by omega)]; exact i
def YB : List Dl → Prop
 | [] => True
 | [_] => True
 | a :: b :: l => Jm a b < 0 ∧ YB (b :: l)
theorem Aev {a : Dl} {l : List Dl} (h : YB (a :: l)) : YB l := by
 cases l with
 | nil => trivial
 | cons b l => exact h.2
theorem Ew : ∀ {l : List Dl} {a b : Dl}, YB (a :: l) → b ∈ l → Jm a b < 0
 | [], _, _, _, h => by simp at h
 | c :: l, a, b, hr, h => by
  rcases Lt.1 h with rfl | h
  · exact hr.1
  · exact AdU hr.1 (Ew hr.2 h)
theorem UM : ∀ {l : List Dl} {i j : Nat} {a b : Dl}, YB l → l[i]? = some a → l[j]? = some b → i < j → Jm a b < 0
 | [], _, _, _, _, _, h, _, _ => by simp at h
 | c :: l, 0, 0, _, _, _, _, _, h => by omega
 | c :: l, 0, j + 1, a, b, hr, h1, h2, _ => by
  simp at h1 h2
  subst h1
  exact Ew hr (Lg h2)
 | c :: l, i + 1, 0, _, _, _, _, _, h => by omega
 | c :: l, i + 1, j + 1, a, b, hr, h1, h2, h => UM (Aev hr) (by simpa using h1) (by simpa using h2) (by omega)
end Go.Proofs.YtkoikjnlpifbjaaGreat
namespace Go.Proofs.YtkoikjnlpifbjaaGreat
open Go.RowKit
def JO : List Int → Prop
 | [] => True
 | [_] => True
 | a :: b :: l => a < b ∧ JO (b :: l)
theorem Kc {a : Int} {l : List Int} (h : JO (a :: l)) : JO l := by
 cases l with
 | nil => trivial
 | cons b l => exact h.2
theorem Ju : ∀ {l : List Int} {a b : Int}, JO (a :: l) → b ∈ l → a < b
 | [], _, _, _, h => by simp at h
 | c :: l, a, b, hr, h => by
  rcases Lt.1 h with rfl | h
  · exact hr.1
  · exact Int.lt_trans hr.1 (Ju hr.2 h)
theorem Ex {a : Int} {l : List Int} (h : JO l) (hl : ∀ b ∈ l, a < b) : JO (a :: l) := by
 cases l with
 | nil => trivial
 | cons b l => exact ⟨hl b (by simp), h⟩
theorem UN : ∀ {l m : List Int}, JO l → JO m → (∀ x, x ∈ l ↔ x ∈ m) → l = m
 | [], [], _, _, _ => rfl
 | [], b :: m, _, _, h => absurd ((h b).2 (by simp)) (by simp)
 | a :: l, [], _, _, h => absurd ((h a).1 (by simp)) (by simp)
 | a :: l, b :: m, h1, h2, h => by
  have hab : a = b := by
   rcases Lt.1 ((h a).1 (by simp)) with e | i
   · exact e
   · rcases Lt.1 ((h b).2 (by simp)) with e | j
     · exact e.symm
     · have := Ju h1 j; have := Ju h2 i; omega
  subst hab
  rw [UN (Kc h1) (Kc h2) fun x => ?_]
  constructor
  · intro c
    have d := Ju h1 c
    rcases Lt.1 ((h x).1 (by simp [c])) with e | g
    · omega
    · exact g
  · intro c
    have d := Ju h2 c
    rcases Lt.1 ((h x).2 (by simp [c])) with e | g
    · omega
    · exact g
def E8 (a : Int) : List Int → List Int
 | [] => [a]
 | b :: l => if a < b then a :: b :: l else if a = b then b :: l else b :: E8 a l
theorem VY (a x : Int) : ∀ l : List Int, x ∈ E8 a l ↔ x = a ∨ x ∈ l
 | [] => by simp [E8]
 | b :: l => by
  rw [E8]
  split
  · simp
  · split
    · rename_i e; subst e; simp
    · rw [Lt, VY a x l, Lt]
      constructor
      · rintro (h | h | h) <;> simp [h]
      · rintro (h | h | h) <;> simp [h]
theorem AaL (a : Int) : ∀ {l : List Int}, JO l → JO (E8 a l)
 | [], _ => trivial
 | b :: l, h => by
  rw [E8]
  split
  · rename_i hab; exact ⟨hab, h⟩
  · split
    · exact h
    · rename_i h1 h2
      refine Ex (AaL a (Kc h)) fun x hx => ?_
      rcases (VY a x l).1 hx with rfl | hx
      · omega
      · exact Ju h hx
def KR : List Int → List Int
 | [] => []
 | a :: l => E8 a (KR l)
theorem Yv (x : Int) : ∀ l : List Int, x ∈ KR l ↔ x ∈ l
 | [] => by simp [KR]
 | a :: l => by rw [KR, VY, Yv x l, Lt]
theorem KS : ∀ l : List Int, JO (KR l)
 | [] => trivial
 | a :: l => AaL a (KS l)
theorem JM (f : Int → Bool) : ∀ {l : List Int}, JO l → JO (l.filter f)
 | [], _ => trivial
 | a :: l, h => by
  rw [List.filter_cons]
  split
  · exact Ex (JM f (Kc h)) fun b hb => Ju h ((Ng.1 hb).1)
  · exact JM f (Kc h)
def isC (x y : Nd) (op n : Int) : Bool :=
 if op = 1 then decide (7 ≤ x.tag ∧ x.tag ≤ 11 ∧ 7 ≤ n ∧ n ≤ 11 ∧ n ≠ x.tag) else if op = 2 then decide (12 ≤ x.tag ∧ x.tag ≤ 17 ∧ 12 ≤ n ∧ n ≤ 17 ∧ n ≠ x.tag)
 else if op = 3 then decide (18 ≤ x.tag ∧ x.tag ≤ 19 ∧ 18 ≤ n ∧ n ≤ 19 ∧ n ≠ x.tag)
 else if op = 4 then decide ((x.tag = 1 ∧ (n = 0 ∨ n = 1 ∨ n = -1 ∨ n = wrap64 (x.n + 1) ∨ n = wrap64 (x.n - 1)) ∧ n ≠ x.n) ∨ (x.tag = 2 ∧ n = wrap64 (1 - x.n)))
 else if op = 5 then decide ((x.tag = 21 ∨ x.tag = 22 ∨ x.tag = 23 ∨ x.tag = 24 ∨ x.tag = 25) ∧ n = 0)
 else if op = 6 then decide ((x.tag = 23 ∨ x.tag = 24) ∧ n = 0)
 else if op = 7 then decide (x.tag = 25 ∧ (n = 0 ∨ n = 1) ∧ ¬ (y.tag = 1 ∧ y.n = n)) else false
def AbP (x : Nd) : List Int := KR ([-1, 0, 1, wrap64 (x.n - 1), wrap64 (x.n + 1)] ++ (List.range 13).map fun i : Nat => (i : Int) + 7)
def Je (x y : Nd) : List (Int × Int) := ((List.range 7).map fun i : Nat => (i : Int) + 1).flatMap fun op => ((AbP x).filter (isC x y op)).map fun n => (op, n)
theorem AaM {x y : Nd} {op n : Int} (h : isC x y op n = true) (h2 : x.tag = 2 → x.n = 0 ∨ x.n = 1) : n ∈ AbP x := by
 unfold AbP;rw [Yv]
 have b : ∀ k : Int, 7 ≤ k → k ≤ 19 → k ∈ (List.range 13).map fun i : Nat => (i : Int) + 7 := fun k c h2 => by
  rw [LO];exact ⟨(k - 7).toNat, Nx.2 (by omega), by omega⟩
 unfold isC at h;rw [L2]
 repeat' split at h
 all_goals (first | (cases h; done) | skip)
 all_goals (simp only [decide_eq_true_eq] at h)
 · exact .inr (b n (by omega) (by omega))
 · exact .inr (b n (by omega) (by omega))
 · exact .inr (b n (by omega) (by omega))
 · refine .inl ?_;rcases h with ⟨_, h, _⟩ | ⟨c, h⟩
   · simp; omega
   · have : n = 0 ∨ n = 1 := by
      subst h;unfold wrap64;rcases h2 c with e | e <;> rw [e] <;> omega
     simp; omega
 · exact .inl (by simp; omega)
 · exact .inl (by simp; omega)
 · exact .inl (by simp; omega)
theorem Abe {x y : Nd} {op n : Int} (h2 : x.tag = 2 → x.n = 0 ∨ x.n = 1) : (op, n) ∈ Je x y ↔ isC x y op n = true := by
 unfold Je;rw [ND];constructor
 · rintro ⟨o, _, h⟩;rw [LO] at h;obtain ⟨m, b, e⟩ := h;injection e with e1 e2;subst e1; subst e2;exact (Ng.1 b).2
 · intro h
   have c : 1 ≤ op ∧ op ≤ 7 := by
    unfold isC at h
    repeat' split at h
    all_goals (first | (cases h; done) | omega)
   refine ⟨op, ?_, ?_⟩
   · rw [LO]; exact ⟨(op - 1).toNat, Nx.2 (by omega), by omega⟩
   · rw [LO]; exact ⟨n, Ng.2 ⟨AaM h h2, h⟩, rfl⟩
mutual
def QY (own : List Int) (q : Nat) : Tr → List (Nat × List Int)
 | .node _ ks => (q, own) :: Zx own (q + 1) 0 ks
def Zx (own : List Int) (q : Nat) (i : Int) : List Tr → List (Nat × List Int)
 | [] => []
 | t :: ts => QY (own ++ [i]) q t ++ Zx own (q + t.size) (i + 1) ts
end
mutual
theorem Jt : ∀ (t : Tr) (own : List Int) (q : Nat), (QY own q t).length = t.size
 | .node x ks, own, q => by rw [QY, Lc, Eo ks, Tr.size, Tr.flat, Lc]
theorem Eo : ∀ (ts : List Tr) (own : List Int) (q : Nat) (i : Int), (Zx own q i ts).length = (QE ts).length
 | [], _, _, _ => by simp [Zx, QE]
 | t :: ts, own, q, i => by rw [Zx, Ld, Jt t, Eo ts, QE, Ld]; rfl
end
mutual
theorem UL : ∀ (t : Tr) (own : List Int) (q j : Nat) (e : Nat × List Int), (QY own q t)[j]? = some e → e.1 = q + j
 | .node x ks, own, q, 0, e, h => by simp [QY] at h; subst h; rfl
 | .node x ks, own, q, j + 1, e, h => by
  rw [QY, LZ] at h
  have := Aa0 ks own (q + 1) 0 j e h
  omega
theorem Aa0 : ∀ (ts : List Tr) (own : List Int) (q : Nat) (i : Int) (j : Nat) (e : Nat × List Int), (Zx own q i ts)[j]? = some e → e.1 = q + j
 | [], _, _, _, _, _, h => by simp [Zx] at h
 | t :: ts, own, q, i, j, e, h => by
  rw [Zx] at h
  by_cases hj : j < t.size
  · rw [L1 (by rw [Jt]; exact hj)] at h
    exact UL t _ q j e h
  · rw [Lw (by rw [Jt]; omega), Jt] at h
    have := Aa0 ts own _ (i + 1) _ e h
    omega
end
def ZG : List Int → Nat → Tr → Option (Nat × Tr)
 | [], q, t => some (q, t)
 | i :: π, q, .node _ ks => if i < 0 then none else match (Zi (q + 1) ks)[i.toNat]?, ks[i.toNat]? with
  | some r, some k => ZG π r k
  | _, _ => none
theorem VT {l : List Nd} : ∀ {π : List Int} {q r : Nat} {t k : Tr}, At l q t → ZG π q t = some (r, k) → At l r k
 | [], q, r, t, k, h, e => by simp [ZG] at e; obtain ⟨rfl, rfl⟩ := e; exact h
 | i :: π, q, r, .node x ks, k, h, e => by
  rw [ZG] at e
  split at e
  · cases e
  · split at e
    · rename_i r1 k1 h1 h2
      exact VT (h.kids.spot i.toNat r1 k1 h1 h2).1 e
    · cases e
mutual
theorem Kq : ∀ (t : Tr) (own : List Int) (q r : Nat) (π : List Int), (r, own ++ π) ∈ QY own q t ↔ ∃ k, ZG π q t = some (r, k)
 | .node x ks, own, q, r, [] => by
  rw [QY, LR, Lt, ZG]
  constructor
  · rintro (e | h)
    · injection e with e1 _; subst e1; exact ⟨_, rfl⟩
    · obtain ⟨j, ρ, e, _⟩ := KP ks own (q + 1) 0 r own h
      have := congrArg List.length e
      simp at this
  · rintro ⟨k, e⟩
    injection e with e; injection e with e1 e2
    subst e1; exact .inl rfl
 | .node x ks, own, q, r, i :: π => by
  rw [QY, Lt, ZG]
  have hne : (r, own ++ i :: π) ≠ (q, own) := fun e => by
   injection e with _ e;have := congrArg List.length e;simp at this
  rw [or_iff_right hne, U8 ks own (q + 1) 0 r i π]
  constructor
  · rintro ⟨hi, s, k, b, c, d, g⟩
    rw [Int.sub_zero] at b c
    rw [if_neg (by omega), b, c]
    exact ⟨d, g⟩
  · rintro ⟨d, h⟩
    split at h
    · cases h
    · split at h
      · rename_i s k b c
        exact ⟨by omega, s, k, by rw [Int.sub_zero]; exact b, by rw [Int.sub_zero]; exact c, d, h⟩
      · cases h
theorem KP : ∀ (ts : List Tr) (own : List Int) (q : Nat) (i : Int) (r : Nat) (σ : List Int), (r, σ) ∈ Zx own q i ts → ∃ (j : Int) (ρ : List Int), σ = own ++ j :: ρ ∧ i ≤ j
 | [], _, _, _, _, _, h => by simp [Zx] at h
 | t :: ts, own, q, i, r, σ, h => by
  rw [Zx, L2] at h
  rcases h with h | h
  · obtain ⟨ρ, e⟩ := YO t (own ++ [i]) q r σ h
    exact ⟨i, ρ, by rw [e]; simp, Int.le_refl _⟩
  · obtain ⟨j, ρ, e, hj⟩ := KP ts own _ (i + 1) r σ h
    exact ⟨j, ρ, e, by omega⟩
theorem YO : ∀ (t : Tr) (own : List Int) (q r : Nat) (σ : List Int), (r, σ) ∈ QY own q t → ∃ ρ, σ = own ++ ρ
 | .node x ks, own, q, r, σ, h => by
  rw [QY, Lt] at h
  rcases h with e | h
  · injection e with _ e; exact ⟨[], by rw [e]; simp⟩
  · obtain ⟨j, ρ, e, _⟩ := KP ks own (q + 1) 0 r σ h
    exact ⟨j :: ρ, e⟩
theorem U8 : ∀ (ts : List Tr) (own : List Int) (q : Nat) (i : Int) (r : Nat) (j : Int) (π : List Int), (r, own ++ j :: π) ∈ Zx own q i ts ↔ i ≤ j ∧ ∃ s k, (Zi q ts)[(j - i).toNat]? = some s ∧ ts[(j - i).toNat]? = some k ∧ ∃ k', ZG π s k = some (r, k')
 | [], _, _, _, _, _, _ => by simp [Zx]
 | t :: ts, own, q, i, r, j, π => by
  rw [Zx, L2, U8 ts own _ (i + 1) r j π]
  constructor
  · rintro (h | ⟨hi, s, k, h1, h2, h3⟩)
    · obtain ⟨ρ, e⟩ := YO t (own ++ [i]) q r _ h
      rw [Ly, List.append_cancel_left_eq] at e
      injection e with e1 e2
      subst e1
      rw [show own ++ j :: π = (own ++ [j]) ++ π by simp] at h
      refine ⟨Int.le_refl _, q, t, by simp [Zi], by simp, (Kq t (own ++ [j]) q r π).1 h⟩
    · refine ⟨by omega, s, k, ?_, ?_, h3⟩
      · rw [show (j - i).toNat = (j - (i + 1)).toNat + 1 by omega, Zi, LZ]; exact h1
      · rw [show (j - i).toNat = (j - (i + 1)).toNat + 1 by omega, LZ]; exact h2
  · rintro ⟨hi, s, k, h1, h2, h3⟩
    by_cases e : j = i
    · subst e
      rw [Int.sub_self] at h1 h2
      simp [Zi] at h1 h2
      subst h1; subst h2
      refine .inl ?_
      rw [show own ++ j :: π = (own ++ [j]) ++ π by simp]
      exact (Kq t (own ++ [j]) q r π).2 h3
    · refine .inr ⟨by omega, s, k, ?_, ?_, h3⟩
      · rw [show (j - i).toNat = (j - (i + 1)).toNat + 1 by omega, Zi, LZ] at h1; exact h1
      · rw [show (j - i).toNat = (j - (i + 1)).toNat + 1 by omega, LZ] at h2; exact h2
end
theorem VL : ∀ (own a b : List Int), Zj (own ++ a) (own ++ b) = Zj a b
 | [], _, _ => rfl
 | x :: own, a, b => by rw [Ll, Ll, Zj, Yn, if_neg (by simp), VL own]
def EA : List (Nat × List Int) → Prop
 | [] => True
 | a :: l => (∀ b ∈ l, Zj a.2 b.2 < 0) ∧ EA l
theorem Uj : ∀ {l m : List (Nat × List Int)}, EA l → EA m → (∀ a ∈ l, ∀ b ∈ m, Zj a.2 b.2 < 0) → EA (l ++ m)
 | [], m, _, h, _ => h
 | a :: l, m, h1, h2, h => ⟨fun b hb => by
  rcases L2.1 hb with hb | hb
  · exact h1.1 b hb
  · exact h a (by simp) b hb, Uj h1.2 h2 (fun x hx y hy => h x (by simp [hx]) y hy)⟩
mutual
theorem Va : ∀ (t : Tr) (own : List Int) (q : Nat), EA (QY own q t)
 | .node x ks, own, q => by
  rw [QY]
  refine ⟨fun b hb => ?_, U9 ks own (q + 1) 0⟩
  obtain ⟨r, σ⟩ := b
  obtain ⟨j, ρ, e, _⟩ := KP ks own (q + 1) 0 r σ hb
  simp only
  rw [e, show Zj own (own ++ j :: ρ) = Zj (own ++ []) (own ++ j :: ρ) by rw [LR], VL]
  simp [Zj]
theorem U9 : ∀ (ts : List Tr) (own : List Int) (q : Nat) (i : Int), EA (Zx own q i ts)
 | [], _, _, _ => trivial
 | t :: ts, own, q, i => by
  rw [Zx]
  refine Uj (Va t _ q) (U9 ts own _ (i + 1)) fun a ha b hb => ?_
  obtain ⟨r, σ⟩ := a
  obtain ⟨r', σ'⟩ := b
  obtain ⟨ρ, e⟩ := YO t (own ++ [i]) q r σ ha
  obtain ⟨j, ρ', e', hj⟩ := KP ts own _ (i + 1) r' σ' hb
  simp only
  have hij : Zb i j < 0 := cmpI_lt.2 (by omega)
  rw [e, e', Ly, VL, Ll, Lm, Zj, if_pos (by omega)]
  exact hij
end
theorem Ez : ∀ {l : List Int}, JO l → l.Pairwise (· < ·)
 | [], _ => .nil
 | a :: l, h => .cons (fun b hb => Ju h hb) (Ez (Kc h))
theorem Ahu {l : List Dl} (h : l.Pairwise fun a b => Jm a b < 0) : YB l := by
 induction h with
 | nil => trivial
 | @cons a l ha _ ih =>
  cases l with
  | nil => trivial
  | cons b l => exact ⟨ha b (by simp), ih⟩
theorem EB : ∀ {l : List (Nat × List Int)}, EA l → l.Pairwise fun a b => Zj a.2 b.2 < 0
 | [], _ => .nil
 | a :: l, h => .cons h.1 (EB h.2)
theorem E6 (x y : Nd) : (Je x y).Pairwise fun a b => a.1 < b.1 ∨ (a.1 = b.1 ∧ a.2 < b.2) := by
 unfold Je;rw [List.pairwise_flatMap];refine ⟨fun e _ => ?_, ?_⟩
 · rw [N9];exact (Ez (JM _ (KS _))).imp fun h => .inr ⟨rfl, h⟩
 · rw [N9];refine List.pairwise_lt_range.imp fun {i j} hij => ?_
   intro a c b d;rw [LO] at c d;obtain ⟨m, _, rfl⟩ := c;obtain ⟨n, _, rfl⟩ := d;exact .inl (by show (i : Int) + 1 < (j : Int) + 1; omega)
def UI (l : List Nd) (q : Nat) : Nd := (l[q]?).getD ⟨0, 0⟩
def Jf (l : List Nd) (q : Nat) : List (Int × Int) := Je (UI l q) (UI l (q + 1))
def ZS (l : List Nd) (t : Tr) : List Dl := (QY [] 0 t).flatMap fun e => (Jf l e.1).map fun c => ⟨e.2, c.1, c.2⟩
theorem Aal (l : List Nd) (t : Tr) : YB (ZS l t) := by
 refine Ahu ?_;unfold ZS;rw [List.pairwise_flatMap];refine ⟨fun e _ => ?_, ?_⟩
 · rw [N9];refine (E6 _ _).imp fun {a b} h => ?_
   unfold Jm orI;simp only [Aay];rw [if_neg (by simp)];rcases h with h | ⟨j, k⟩
   · have := cmpI_lt.2 h;rw [if_pos (by omega)]; exact this
   · rw [if_neg (by simpa using cmpI_eq.2 j)]; exact cmpI_lt.2 k
 · refine (EB (Va t [] 0)).imp fun {a b} h => ?_
   intro d g e i;rw [LO] at g i;obtain ⟨c, _, rfl⟩ := g;obtain ⟨m, _, rfl⟩ := i;unfold Jm orI;simp only;rw [if_pos (by omega)]; exact h
theorem allZ_mem {l : List Nd} {t : Tr} {d : Dl} : d ∈ ZS l t ↔ ∃ q k, ZG d.path 0 t = some (q, k) ∧ (d.op, d.n) ∈ Jf l q := by
 unfold ZS;rw [ND];constructor
 · rintro ⟨⟨q, π⟩, e, b⟩;rw [LO] at b;obtain ⟨c, g, rfl⟩ := b;obtain ⟨k, h⟩ := (Kq t [] 0 q π).1 (by simpa using e);exact ⟨q, k, h, g⟩
 · rintro ⟨q, k, e, b⟩;refine ⟨(q, d.path), ?_, ?_⟩
   · have := (Kq t [] 0 q d.path).2 ⟨k, e⟩;simpa using this
   · rw [LO];exact ⟨_, b, rfl⟩
theorem AiN {l : List Dl} (h : YB l) {m : Nat} {d e : Dl} (hm : l[m]? = some e) (hc : Jm e d < 0) : ∀ i, l[i]? = some d → m < i := by
 intro i hi;rcases Nc m i with x | x | x
 · exact x
 · subst x; rw [hm] at hi; injection hi with hi; subst hi; rw [Aax] at hc; omega
 · have := UM h hi hm x;rw [Agy] at this; omega
theorem AiM {l : List Dl} (h : YB l) {m : Nat} {d e : Dl} (hm : l[m]? = some e) (hc : 0 < Jm e d) : ∀ i, l[i]? = some d → i < m := by
 intro i hi;rcases Nc i m with x | x | x
 · exact x
 · subst x; rw [hm] at hi; injection hi with hi; subst hi; rw [Aax] at hc; omega
 · have := UM h hm hi x;omega
end Go.Proofs.YtkoikjnlpifbjaaGreat
namespace Go.Proofs.YtkoikjnlpifbjaaGreat
open Go.RowKit Go.Deep
def MapB (w : World) (r : Nat) (es : List (Int × Value)) : Prop := ∃ (arr : Array MapEntry) (clock : Nat), w.heap[r]? = some (.map arr clock) ∧ arr.toList.map (fun e => (e.key, e.val)) = es.map (fun p => (Value.int .i64 p.1, p.2))
def Jz (k : Int) : List (Int × Value) → Option Value
 | [] => none
 | (k', v) :: es => if k = k' then some v else Jz k es
theorem MapB.lt {w : World} {r : Nat} {es : List (Int × Value)} (h : MapB w r es) : r < w.heap.size := by
 obtain ⟨arr, b, c, _⟩ := h;exact (Ln.1 c).1
theorem MapB.below {w w' : World} {r B : Nat} {es : List (Int × Value)} (h : MapB w r es) (b : Below B w w') (hr : r < B) : MapB w' r es := by
 obtain ⟨arr, c, d, e⟩ := h;exact ⟨arr, c, (b.block r hr).trans d, e⟩
instance St.mapB {r : Nat} {es : List (Int × Value)} : St (fun W => MapB W r es) := ⟨fun h b => h.below b h.lt⟩
theorem X2 (k : Int) : ∀ (l : List MapEntry) (es : List (Int × Value)) (i : Nat), l.map (fun e => (e.key, e.val)) = es.map (fun p => (Value.int .i64 p.1, p.2)) →
 (match Jz k es with | some v => ∃ j, Instr.findNow (.int .i64) (.int .i64 k) l i = some (some (j, v)) | none => Instr.findNow (.int .i64) (.int .i64 k) l i = some none)
 | [], es, i, h => by
  have : es = [] := by simpa using h.symm
  subst this; rfl
 | e :: l, [], i, h => by simp at h
 | e :: l, (k', v) :: es, i, h => by
  simp only [LM, N5, Prod.mk.injEq] at h
  obtain ⟨⟨h1, h2⟩, h3⟩ := h
  have ih := X2 k l es (i + 1) h3
  have e1 : Instr.findNow (.int .i64) (.int .i64 k) (e :: l) i = match Instr.sameNow (.int .i64) (.int .i64 k) e.key with | some true => some (some (i, e.val)) | some false => Instr.findNow (.int .i64) (.int .i64 k) l (i + 1) | none => none := rfl
  rw [e1, h1]
  have e2 : Instr.sameNow (.int .i64) (.int .i64 k) (.int .i64 k') = some (k == k') := rfl
  rw [e2, Jz]
  by_cases hk : k = k'
  · rw [if_pos hk]
    refine ⟨i, ?_⟩
    rw [show (k == k') = true by simpa using hk, h2]
  · rw [if_neg hk, show (k == k') = false by simpa using hk]
    exact ih
section
variable {P : Program} {w : World} {t kt et : TypeId} {r : Nat} {es : List (Int × Value)}
theorem Kd {b : Bool} {k : Int} (hk : P.underlying kt = some (.int .i64)) : (Instr.checkKey b 10000 kt (.int .i64 k)).run P w = .ok () w := by
 show (Instr.checkKey b (9999 + 1) kt (.int .i64 k)).run P w = .ok () w;rw [Instr.checkKey];simp [run_underlying hk]
theorem EJ (ht : P.underlying t = some (.map kt et)) (hk : P.underlying kt = some (.int .i64)) (h : MapB w r es) (k : Int) {z : Value} (hz : (zeroValue et).run P w = .ok z w) :
 (Instr.lookup t (.map (some r)) (.int .i64 k) false).run P w = .ok ((Jz k es).getD z) w := by
 obtain ⟨arr, c, d, g⟩ := h;have b := X2 k arr.toList es 0 g;unfold Instr.lookup Instr.findKey;cases ha : Jz k es with
 | some v =>
  rw [ha] at b;obtain ⟨j, e⟩ := b;simp [run_underlying ht, run_underlying hk, Kd hk, MapKept.run_getObj_map d, e]
 | none =>
  rw [ha] at b;simp only at b;simp [run_underlying ht, run_underlying hk, Kd hk, MapKept.run_getObj_map d, b, hz]
theorem EI (ht : P.underlying t = some (.map kt et)) (hk : P.underlying kt = some (.int .i64)) (h : MapB w r es) (k : Int) (v : Value) (hn : Jz k es = none) :
 ∃ w', (Instr.mapUpdate t (.map (some r)) (.int .i64 k) v).run P w = .ok () w' ∧ MapB w' r (es ++ [(k, v)]) ∧ Only r w w' := by
 obtain ⟨arr, b, c, i⟩ := h;have d := X2 k arr.toList es 0 i;rw [hn] at d;simp only at d;have g : r < w.heap.size := (Ln.1 c).1;refine ⟨{ w with heap := w.heap.setIfInBounds r (.map (arr.push { key := .int .i64 k, val := v, born := b }) (b + 1)) }, ?_, ⟨arr.push { key := .int .i64 k, val := v, born := b }, b + 1, ?_, ?_⟩, ⟨rfl, rfl, rfl, by simp, fun j l => ?_⟩⟩
 · unfold Instr.mapUpdate Instr.findKey;simp [run_underlying ht, run_underlying hk, Kd hk, MapKept.run_getObj_map c, d, MapKept.run_setObj_map _ c]
 · simp [g]
 · simp [i]
 · simp [N6]; intro e; exact absurd e.symm l
theorem MapB.new (w : World) : MapB (w.alloc (.map #[] 0)) w.heap.size [] := ⟨#[], 0, heap_alloc_new w _, rfl⟩
end
section
variable {P : Program} {ops : Array Oper} {rest : List Oper} {o : Oper} {a : Act} {w : World} {Q : Exit → Act → World → Prop} {t kt et : TypeId} {r : Nat} {es : List (Int × Value)}
theorem Vk {ρ : Operand → Value} {m x y : Operand} (ho : o.op = .insert t m x y ∨ o.op = .mapUpdate t m x y) {k v : Value} {r : Value} (hm : ρ m = r) (hx : ρ x = k) (hy : ρ y = v) {w' : World} (h : (Instr.mapUpdate t r k v).run P w = .ok () w') : (execOp ρ o).run P w = .ok .skip w' := by
 rcases ho with ho | ho <;> simp [execOp, ho, hm, hx, hy, h]
theorem Xe (hgd : o.guard = none) (m x y : Operand) (ho : o.op = .insert t m x y ∨ o.op = .mapUpdate t m x y) (ht : P.underlying t = some (.map kt et)) (hk : P.underlying kt = some (.int .i64)) (hb : MapB w r es) (hm : a.eval m = .map (some r)) (k : Int) (v : Value) (hx : a.eval x = .int .i64 k) (hy : a.eval y = v) (hn : Jz k es = none)
 (h : ∀ w', MapB w' r (es ++ [(k, v)]) → Only r w w' → wpList P ops Q rest (a.put o.dst undef) w') : wpList P ops Q (o :: rest) a w :=
 wpList_plain hgd fun _ hK => by
  obtain ⟨w', h1, h2, h3⟩ := EI ht hk hb k v hn
  unfold Oper.wp
  rw [Vk ho hm hx hy h1]
  exact hK _ _ (h w' h2 h3)
theorem ZH (hgd : o.guard = none) (m x : Operand) (ho : o.op = .lookup t m x false) (ht : P.underlying t = some (.map kt et)) (hk : P.underlying kt = some (.int .i64)) (hb : MapB w r es) (hm : a.eval m = .map (some r)) (k : Int) (hx : a.eval x = .int .i64 k) {z : Value} (hz : (zeroValue et).run P w = .ok z w)
 (h : wpList P ops Q rest (a.put o.dst ((Jz k es).getD z)) w) : wpList P ops Q (o :: rest) a w :=
 XN hgd _ (by simp only [execOp, ho, hm, hx, Sem.run_bind, EJ ht hk hb k hz, Result.andThen_ok, Sem.run_pure]) h
end
theorem Y7 : ∀ {ks : List Tr} {k : Tr}, k ∈ ks → k.size ≤ (QE ks).length
 | [], _, h => by simp at h
 | t :: ts, k, h => by
  rw [QE, Ld]
  rcases Lt.1 h with rfl | h
  · simp [Tr.size]
  · have := Y7 h; omega
theorem Aeo {w : World} {base n : Nat} {e : TypeId} {v : Value} {xs : List Value} (h : w.ownsRow base e 1 v n xs) : ∃ A cap, v = .slice A n cap ∧ Rd w A xs ∧ n ≤ cap ∧ (A = none → cap = 0) := by
 have t : xs.length = n := by have := h.1; omega
 rcases h.2 with ⟨rfl, i⟩ | ⟨g, cap, b, rfl, s, l, k, x, o, p⟩
 · have q : xs = [] := Lr (by omega);subst q;refine ⟨none, 0, by rw [i], Rd.nil _ _, by omega, fun _ => rfl⟩
 · refine ⟨some ⟨g, 0, none⟩, cap, rfl, fun j u c => ⟨_, rfl, ?_⟩, k, fun h => by cases h⟩;have m : Row w g e b := l
   exact m.from_ 0 (cs := xs) (fun j v c => by
    rw [LF, ← LX]
    have d : (b.toList.take (n * 1))[j]? = some v := by rw [p]; exact c
    rw [LL (by have := (Lb.1 c).1; omega)] at d; exact d) j u c
theorem Jc (W : World) (xs : List Value) (t : TypeId) : Rd (W.alloc (.cells xs.toArray t)) (some ⟨W.heap.size, 0, none⟩) xs := fun j u hj => ⟨_, rfl, JI W xs t j u hj⟩
theorem Aa9 {w : World} : (zeroValue 65).run Tryz.prog w = .ok (.agg #[.int .i64 0, .int .i64 0]) w := by kernel_rfl
end Go.Proofs.YtkoikjnlpifbjaaGreat
