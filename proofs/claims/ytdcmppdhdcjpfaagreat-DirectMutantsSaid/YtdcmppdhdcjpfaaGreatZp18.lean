/- Lemmas for DirectMutantsP. -/
import Derived.Test.YtdcmppdhdcjpfaaGreatZp1
import Derived.Test.YtdcmppdhdcjpfaaGreatZp16
import Derived.Test.YtdcmppdhdcjpfaaGreatZp17
import Derived.Test.YtdcmppdhdcjpfaaGreatZp15
import Derived.Recover
import Derived.Defers
set_option linter.unusedVariables false
set_option linter.unusedSimpArgs false
set_option maxRecDepth 100000
set_option maxHeartbeats 16000000
namespace Go.Proofs.YtdcmppdhdcjpfaaGreat
open Go.RowKit Go.Deep
def AeL (L : Lay) : Gl → Ms → Int → Ms → Prop
 | .one t, s, v, s' => s.out = none → EntD L t s v s' ∧ ∀ x a b, t = .node x [a, b] → x.tag = 24 → s.go → WhD L a b s.tick s'
 | .all ts, s, _, s' => s.out = none → ∃ vs, Jt L ts s vs s'
theorem Zd {L : Lay} {x : Nd} {ks : List Tr} {s s' : Ms} {v : Int} (ht : x.tag ≠ 24) (h : EntD L (.node x ks) s v s') : AeL L (.one (.node x ks)) s v s' := fun _ => ⟨h, fun _ _ _ e h24 _ => absurd h24 (by injection e with e1 e2; rw [← e1]; exact ht)⟩
theorem AdE {L : Lay} {x : Nd} {a b : Tr} {s s' : Ms} {v : Int} (h : EntD L (.node x [a, b]) s v s') (hw : WhD L a b s.tick s') : AeL L (.one (.node x [a, b])) s v s' := fun _ => ⟨h, fun _ _ _ e _ _ => by
 injection e with e1 e2
 injection e2 with e3 e4
 injection e4 with e5 _
 subst e3; subst e5
 exact hw⟩
theorem Aep {V : List Int} {x : Nd} {ks : List Tr} (h : okO V (.node x ks)) : ks.length ≤ 1000 := by
 have h1 := h.1.arity
 have h2 := JD x
 simp only [Tr.root, Tr.kids] at h1
 omega
theorem AcJ {V : List Int} {x : Nd} {ks : List Tr} (h : okO V (.node x ks)) (ht : x.tag = 20) : x.n = (ks.length : Int) := by
 have h1 := h.1.arity
 simp only [Tr.root, Tr.kids] at h1
 unfold Qw Q1 at h1
 simp only [ht] at h1
 simp at h1
 split at h1 <;> omega
theorem KZ {V : List Int} {x : Nd} {ks : List Tr} (hg : okO V (.node x ks)) (ht : x.tag = 4 ∨ x.tag = 22) : 0 ≤ x.n ∧ ∃ t, V[x.n.toNat]? = some t ∧ Qx t ≠ 0 := by
 obtain ⟨k, sh, hk⟩ := Qs hg
 cases sh <;> first | omega | skip
 case at_ hn t hv hz _ => exact ⟨hn, t, hv, hz⟩
 case put hn t hv hz _ _ => exact ⟨hn, t, hv, hz⟩
theorem Ef {L : Lay} {a b : Tr} {s s1 s2 : Ms} {v u : Int} (h1 : EntD L a s v s1) (o1 : s1.out = none) (h2 : EntD L b s1 u s2) (o2 : s2.out = none) : Jt L [a, b] s [v, u] s2 := ⟨v, s1, h1, .inr ⟨o1, [u], rfl, u, s2, h2, .inr ⟨o2, [], rfl, rfl, rfl⟩⟩⟩
theorem AeA {L : Lay} {a b : Tr} {s s1 s2 : Ms} {v u : Int} (h1 : EntD L a s v s1) (o1 : s1.out = none) (h2 : EntD L b s1 u s2) (o2 : s2.out.isSome = true) : Jt L [a, b] s [v] s2 := ⟨v, s1, h1, .inr ⟨o1, [], rfl, u, s2, h2, .inl ⟨o2, rfl⟩⟩⟩
theorem Ep {L : Lay} {a : Tr} {ts : List Tr} {s s1 : Ms} {v : Int} (h1 : EntD L a s v s1) (o1 : s1.out.isSome = true) : Jt L (a :: ts) s [] s1 := ⟨v, s1, h1, .inl ⟨o1, rfl⟩⟩
theorem Vp {s : Ms} (h : s.out ≠ none) : s.out.isSome = true := by
 cases e : s.out with
 | none => exact absurd e h
 | some o => rfl
theorem Ac3 {t : Tr} {s s' : Ms} {r : Int} (h : Big (.one t) s r s') (ho : s.out = none) (hf : s.fuel = 0) : s' = s.stop 4 0 := by
 have hn : ¬ s.go := fun h => h.2 hf
 cases h <;> first | rfl | (exact absurd ‹s.go› hn) | (rename_i h; rw [ho] at h; cases h)
theorem AcP {t : Tr} {s s' : Ms} {u : Int} (h : Big (.one t) s u s') (ht : t.root.tag = 20) : u = 0 := by
 cases h <;> simp only [Tr.root] at ht <;> first | rfl | omega
theorem AfJ (L : Lay) (hL : DOk L) (x : Nd) (a : Tr) (ks : List Tr) (s s1 : Ms) (v : Int) (hg : okO L.p.V (.node x (a :: ks))) (h : s.go) (ht : KW x.tag) (he : EntD L a s.tick v s1) (ho : s1.out.isSome = true) : AeL L (.one (.node x (a :: ks))) s 0 s1 := by
 obtain ⟨k, sh, hk⟩ := Qs hg
 cases sh <;> first | (unfold KW at ht; omega) | skip
 case at_ => exact Zd (by omega) (AfL L hL x a _ s s1 v 0 h (by omega) he ho)
 case neg => exact Zd (by omega) (AeJ L hL x a _ s s1 v 0 h (by omega) he ho)
 case not => exact Zd (by omega) (AeD L hL x a _ s s1 v 0 h (by omega) he ho)
 case pair b _ _ _ _ => exact Zd (by omega) (AaT L hL x a b s s1 [] 0 h (by omega) (Ep he ho) ho)
 case logic b h89 _ _ =>
  rcases h89 with e | e
  · exact Zd (by omega) (AeX L hL x a _ s s1 v 0 h e he ho)
  · exact Zd (by omega) (AfI L hL x a _ s s1 v 0 h e he ho)
 case set => exact Zd (by omega) (eDo L hL x _ s s1 h (by omega) (Adt L hL x a s.tick s1 v (by omega) he ho))
 case put b _ _ _ _ _ _ _ => exact Zd (by omega) (eDo L hL x _ s s1 h (by omega) (Aa1 L hL x a b s.tick s1 [] (by omega) h.1 (Ep he ho) ho))
 case ifs => exact Zd (by omega) (eDo L hL x _ s s1 h (by omega) (AeR L hL x a _ s.tick s1 v (by omega) he ho))
 case «while» b _ _ _ _ => exact AdE (eDo L hL x _ s s1 h (by omega) (Ee L hL x a b s.tick s1 (by omega) (.cut he ho))) (.cut he ho)
 case ret => exact Zd (by omega) (eDo L hL x _ s s1 h (by omega) (AdP L hL x a s.tick s1 v (by omega) he ho))
theorem Big.dir (L : Lay) (hL : DOk L) {g : Gl} {s s' : Ms} {v : Int} (h : Big g s v s') : okG L.p.V g → OkS L.p.V s → s.evs.length ≤ s.steps → AeL L g s v s' := by
 induction h with
 | nil s => exact fun _ _ _ _ => ⟨[], rfl, rfl⟩
 | cons t ts s s1 s2 v u h1 h2 i1 i2 =>
  intro hg hs hf ho
  have hk := (hg t (by simp)).1
  have he := (i1 hk hs hf ho).1
  by_cases ho1 : s1.out = none
  · obtain ⟨vs, hch⟩ := i2 (fun k hk => hg k (by simp [hk])) (h1.inv hk hs).1 (by have := h1.ext.few; omega) ho1
    exact ⟨v :: vs, v, s1, he, .inr ⟨ho1, vs, rfl, hch⟩⟩
  · have hos := Vp ho1
    have e := Yc h2 hos
    subst e
    exact ⟨[], Ep he hos⟩
 | over t s h => exact fun _ _ _ ho => absurd h (by rw [ho]; simp)
 | empty t s h h0 => exact fun _ _ _ _ => ⟨AfD L hL t s 0 h0, fun _ _ _ _ _ hg => absurd h0 hg.2⟩
 | lit x s h ht => exact fun _ _ _ => Zd (by omega) (Agz L hL x s h ht)
 | var x s h ht =>
  intro hg hs _
  obtain ⟨k, sh, hk⟩ := Qs hg
  cases sh <;> first | omega | skip
  case var hn hv h01 => exact Zd (by omega) (AgB L hL x s _ h ht hn hv (by rcases h01 with e | e <;> rw [e] <;> rfl) hs.vlen)
 | skip x s h ht => exact fun _ _ _ => Zd (by omega) (eDo L hL x [] s s.tick h (by omega) (AfM L hL x s.tick ht h.1))
 | block x ks s s1 u h ht h1 i1 =>
  intro hg hs hf
  obtain ⟨k, sh, hk⟩ := Qs hg
  have hk2 : ∀ k ∈ ks, ofT L.p.V k = 2 := by cases sh <;> first | omega | assumption
  obtain ⟨vs, hch⟩ := i1 (fun k hk => ⟨Qm hg hk, hk2 k hk⟩) hs.tick (by simp only [Ms.tick]; omega) h.1
  exact Zd (by omega) (eDo L hL x ks s s1 h (by omega) (AeW L hL x ks vs s.tick s1 ht (AcJ hg ht) (Aep hg) h.1 hch))
 | cut x a ks s s1 v h ht h1 ho i1 => exact fun hg hs hf => AfJ L hL x a ks s s1 v hg h ht (i1 (Qm hg (by simp)) hs.tick (by simp only [Ms.tick]; omega) h.1).1 ho
 | atNo x a s s1 v h ht h1 ho hb i1 =>
  intro hg hs hf
  obtain ⟨hn, t, hv, hz⟩ := KZ hg (.inl ht)
  exact Zd (by omega) (Agn L hL x a s s1 v t h ht (i1 (Qm hg (by simp)) hs.tick (by simp only [Ms.tick]; omega) h.1).1 ho hn hv hz (h1.inv (Qm hg (by simp) : okG _ (.one a)) hs.tick).1.lens hb)
 | at_ x a s s1 v h ht h1 ho hb i1 =>
  intro hg hs hf
  obtain ⟨hn, t, hv, hz⟩ := KZ hg (.inl ht)
  exact Zd (by omega) (eAt L hL x a s s1 v t h ht (i1 (Qm hg (by simp)) hs.tick (by simp only [Ms.tick]; omega) h.1).1 ho hn hv hz (h1.inv (Qm hg (by simp) : okG _ (.one a)) hs.tick).1.lens hb)
 | neg x a s s1 v h ht h1 ho i1 => exact fun hg hs hf => Zd (by omega) (AgC L hL x a s s1 v h ht (i1 (Qm hg (by simp)) hs.tick (by simp only [Ms.tick]; omega) h.1).1 ho)
 | not x a s s1 v h ht h1 ho i1 =>
  intro hg hs hf
  have ha := Qm hg (k := a) (by simp)
  obtain ⟨k, sh, hk⟩ := Qs hg
  have h1a : ofT L.p.V a = 1 := by cases sh <;> first | omega | assumption
  exact Zd (by omega) (AgA L hL x a s s1 v h ht (i1 ha hs.tick (by simp only [Ms.tick]; omega) h.1).1 ho ((h1.inv (ha : okG _ (.one a)) hs.tick).2.2 ho a rfl h1a))
 | and0 x a b s s1 h ht h1 ho i1 => exact fun hg hs hf => Zd (by omega) (Age L hL x a b s s1 h ht (i1 (Qm hg (by simp)) hs.tick (by simp only [Ms.tick]; omega) h.1).1 ho)
 | and1 x a b s s1 s2 v u h ht h1 ho hv h2 i1 i2 =>
  intro hg hs hf
  have ha := Qm hg (k := a) (by simp)
  have hft : s.tick.evs.length ≤ s.tick.steps := by simp only [Ms.tick]; omega
  exact Zd (by omega) (AfW L hL x a b s s1 s2 v u h ht (i1 ha hs.tick hft h.1).1 ho hv (i2 (Qm hg (by simp)) (h1.inv (ha : okG _ (.one a)) hs.tick).1 (by have := h1.ext.few; omega) ho).1)
 | or1 x a b s s1 h ht h1 ho i1 => exact fun hg hs hf => Zd (by omega) (Agy L hL x a b s s1 h ht (i1 (Qm hg (by simp)) hs.tick (by simp only [Ms.tick]; omega) h.1).1 ho)
 | or0 x a b s s1 s2 v u h ht h1 ho hv h2 i1 i2 =>
  intro hg hs hf
  have ha := Qm hg (k := a) (by simp)
  have hft : s.tick.evs.length ≤ s.tick.steps := by simp only [Ms.tick]; omega
  exact Zd (by omega) (Agw L hL x a b s s1 s2 v u h ht (i1 ha hs.tick hft h.1).1 ho hv (i2 (Qm hg (by simp)) (h1.inv (ha : okG _ (.one a)) hs.tick).1 (by have := h1.ext.few; omega) ho).1)
 | set x a s s1 v h ht h1 ho i1 =>
  intro hg hs hf
  have ha := Qm hg (k := a) (by simp)
  have hft : s.tick.evs.length < s.tick.steps := by simp only [Ms.tick]; omega
  have he := (i1 ha hs.tick (Nat.le_of_lt hft) h.1).1
  have hv1 := (h1.inv (ha : okG _ (.one a)) hs.tick).1.vlen
  obtain ⟨k, sh, hk⟩ := Qs hg
  cases sh <;> first | omega | skip
  case set hn t hv h01 hxx => exact Zd (by omega) (eDo L hL x [a] s _ h (by omega) (Agf L hL x a s.tick s1 v t ht he ho hn hv (by rcases h01 with e | e <;> rw [e] <;> rfl) hv1 (by have := h1.ext.few; omega)))
 | ifs x a b c t s s1 s2 v u h ht h1 ho hv h2 i1 i2 =>
  intro hg hs hf
  have ha := Qm hg (k := a) (by simp)
  have hft : s.tick.evs.length ≤ s.tick.steps := by simp only [Ms.tick]; omega
  obtain ⟨k, sh, hk⟩ := Qs hg
  have h1a : ofT L.p.V a = 1 := by cases sh <;> first | omega | assumption
  have hi := h1.inv (ha : okG _ (.one a)) hs.tick
  have htk : okO L.p.V t := Qm hg (List.mem_of_getElem? hv)
  have ht2 : t.root.tag = 20 := by
   cases sh <;> first | omega | skip
   have := hi.2.2 ho a rfl h1a
   rcases this with rfl | rfl
   · have : c = t := by simpa using hv
     subst this; assumption
   · have : b = t := by simpa using hv
     subst this; assumption
  have h2e := (i2 htk hi.1 (by have := h1.ext.few; omega) ho).1
  obtain rfl := AcP h2 ht2
  exact Zd (by omega) (eDo L hL x [a, b, c] s s2 h (by omega) (Agv L hL x a b c t s.tick s1 s2 v 0 ht (i1 ha hs.tick hft h.1).1 ho (hi.2.2 ho a rfl h1a) hv h2e))
 | while0 x a b s s1 v h ht h1 ho hv i1 =>
  intro hg hs hf
  have he := (i1 (Qm hg (by simp)) hs.tick (by simp only [Ms.tick]; omega) h.1).1
  exact AdE (eDo L hL x _ s s1 h (by omega) (Ee L hL x a b s.tick s1 ht (.done he ho hv))) (.done he ho hv)
 | while1 x a b s s1 s2 s3 u r h ht h1 ho h2 h3 i1 i2 i3 =>
  intro hg hs hf
  have ha := Qm hg (k := a) (by simp)
  have hb := Qm hg (k := b) (by simp)
  have hft : s.tick.evs.length ≤ s.tick.steps := by simp only [Ms.tick]; omega
  have hs1 := (h1.inv (ha : okG _ (.one a)) hs.tick).1
  have e1 := (i1 ha hs.tick hft h.1).1
  have e2 := (i2 hb hs1 (by have := h1.ext.few; omega) ho).1
  have hw : WhD L a b s.tick s3 := by
   by_cases ho2 : s2.out = none
   · by_cases hf2 : s2.fuel = 0
     · rw [Ac3 h3 ho2 hf2]
       exact .empty e1 ho e2 ho2 hf2
     · have h3w := (i3 hg (h2.inv (hb : okG _ (.one b)) hs1).1 (by have := h1.ext.few; have := h2.ext.few; omega) ho2).2 x a b rfl ht ⟨ho2, hf2⟩
       have x1 := h1.ext
       have x2 := h2.ext
       exact .more e1 ho e2 ⟨ho2, hf2⟩ (by have := x1.sum; have := x1.fuel; have := x2.sum; have := x2.fuel; omega) h3w
   · have hos := Vp ho2
     rw [Yc h3 hos]
     exact .cut2 e1 ho e2 hos
  exact AdE (eDo L hL x _ s s3 h (by omega) (Ee L hL x a b s.tick s3 ht hw)) hw
 | ret x a s s1 v h ht h1 ho i1 => exact fun hg hs hf => Zd (by omega) (eDo L hL x _ s _ h (by omega) (Agi L hL x a s.tick s1 v ht (i1 (Qm hg (by simp)) hs.tick (by simp only [Ms.tick]; omega) h.1).1 ho))
 | cut2 x a b s s1 s2 v u h ht h1 ho h2 ho2 i1 i2 =>
  intro hg hs hf
  have ha := Qm hg (k := a) (by simp)
  have hft : s.tick.evs.length ≤ s.tick.steps := by simp only [Ms.tick]; omega
  have hch := AeA (i1 ha hs.tick hft h.1).1 ho (i2 (Qm hg (by simp)) (h1.inv (ha : okG _ (.one a)) hs.tick).1 (by have := h1.ext.few; omega) ho).1 ho2
  obtain ⟨k, sh, hk⟩ := Qs hg
  cases sh <;> first | (unfold wide KW at ht; omega) | skip
  case pair => exact Zd (by omega) (AaT L hL x a b s s2 [v] 0 h (by omega) hch ho2)
  case put => exact Zd (by omega) (eDo L hL x _ s s2 h (by omega) (Aa1 L hL x a b s.tick s2 [v] (by omega) h.1 hch ho2))
 | putNo x a b s s1 s2 v u h ht h1 ho h2 ho2 hb i1 i2 =>
  intro hg hs hf
  have ha := Qm hg (k := a) (by simp)
  have hbk := Qm hg (k := b) (by simp)
  have hft : s.tick.evs.length ≤ s.tick.steps := by simp only [Ms.tick]; omega
  have hs1 := (h1.inv (ha : okG _ (.one a)) hs.tick).1
  obtain ⟨hn, t, hv, hz⟩ := KZ hg (.inr ht)
  exact Zd (by omega) (eDo L hL x _ s _ h (by omega) (AeP L hL x a b s.tick s2 v u t ht h.1 (Ef (i1 ha hs.tick hft h.1).1 ho (i2 hbk hs1 (by have := h1.ext.few; omega) ho).1 ho2) ho2 hn hv hz (h2.inv (hbk : okG _ (.one b)) hs1).1.lens hb))
 | put x a b s s1 s2 v u h ht h1 ho h2 ho2 hb i1 i2 =>
  intro hg hs hf
  have ha := Qm hg (k := a) (by simp)
  have hbk := Qm hg (k := b) (by simp)
  have hft : s.tick.evs.length < s.tick.steps := by simp only [Ms.tick]; omega
  have hs1 := (h1.inv (ha : okG _ (.one a)) hs.tick).1
  obtain ⟨hn, t, hv, hz⟩ := KZ hg (.inr ht)
  exact Zd (by omega) (eDo L hL x _ s _ h (by omega) (Agj L hL x a b s.tick s2 v u t ht h.1 (Ef (i1 ha hs.tick (Nat.le_of_lt hft) h.1).1 ho (i2 hbk hs1 (by have := h1.ext.few; omega) ho).1 ho2) ho2 hn hv hz (h2.inv (hbk : okG _ (.one b)) hs1).1.lens hb (by have := h1.ext.few; have := h2.ext.few; omega)))
 | pairNo x a b s s1 s2 v u h ht h1 ho h2 ho2 hp i1 i2 =>
  intro hg hs hf
  have ha := Qm hg (k := a) (by simp)
  have hft : s.tick.evs.length ≤ s.tick.steps := by simp only [Ms.tick]; omega
  exact Zd (by omega) (Afh L hL x a b s s2 v u h ht (Ef (i1 ha hs.tick hft h.1).1 ho (i2 (Qm hg (by simp)) (h1.inv (ha : okG _ (.one a)) hs.tick).1 (by have := h1.ext.few; omega) ho).1 ho2) ho2 hp)
 | pair x a b s s1 s2 v u c h ht h1 ho h2 ho2 hp i1 i2 =>
  intro hg hs hf
  have ha := Qm hg (k := a) (by simp)
  have hft : s.tick.evs.length ≤ s.tick.steps := by simp only [Ms.tick]; omega
  exact Zd (by omega) (Agl L hL x a b s s2 v u c h ht (Ef (i1 ha hs.tick hft h.1).1 ho (i2 (Qm hg (by simp)) (h1.inv (ha : okG _ (.one a)) hs.tick).1 (by have := h1.ext.few; omega) ho).1 ho2) ho2 hp)
theorem YE {w : World} : (zeroValue 37).run Tryz.prog w = .ok (.agg #[.int .i64 0, .int .i64 0]) w := by kernel_rfl
structure But (g : Nat) (w w' : World) : Prop where
 os : w'.os = w.os
 tape : w'.tape = w.tape
 output : w'.output = w.output
 size : w.heap.size ≤ w'.heap.size
 block : ∀ k, k < w.heap.size → k ≠ g → w'.heap[k]? = w.heap[k]?
section
variable {P : Program} {Q : Exit → Act → List Frame → World → Prop} {a : Act} {cs : List Frame} {w : World} {ops : Array Oper} {rest : List Oper} {o : Oper}
def ZJ (P : Program) (ops : Array Oper) (Q : Exit → Act → List Frame → World → Prop) : List Oper → Act → List Frame → World → Prop
 | [], a, cs, w => Q .normal a cs w
 | o :: rest, a, cs, w =>
  if Region.wanted o (yielded ops a.tmps) then
   match (execOp a.eval o).run P w with
   | .ok .recover w' =>
    match recoverD cs with
    | some (v, cs') => ZJ P ops Q rest (a.put o.dst v) cs' w'
    | none => ZJ P ops Q rest (a.put o.dst .nilIface) cs w'
   | r => o.upon P a (fun a' w' => ZJ P ops Q rest a' cs w') (fun e a' w' => Q e a' cs w') r
  else ZJ P ops Q rest (a.put o.dst undef) cs w
theorem AaG (l : List Oper) : ∀ k, (∀ j, l[j]? = ops[k + j]?) → wpOpsS P ops Q (List.range' k l.length) = ZJ P ops Q l := by
 induction l with
 | nil => intro k _; funext a cs w; simp [wpOpsS, ZJ]
 | cons o l ih =>
  intro k h
  have h0 : ops[k]? = some o := by have := h 0; simpa using this.symm
  have hi := ih (k + 1) (fun j => by have := h (j + 1); simp only [List.getElem?_cons_succ] at this; rw [this]; congr 1; omega)
  funext a cs w
  rw [List.length_cons, List.range'_succ, wpOpsS, h0, ZJ, hi]
  rfl
theorem Xy {id : Nat} {l : List Oper} (h : ZJ P l.toArray Q l a cs w) : (Code.region id l.toArray false).wpS P Q a cs w := by
 refine wpS_region ?_
 rw [List.size_toArray, List.range_eq_range', AaG l 0 (fun j => by rw [Nat.zero_add]; simp)]
 exact h
theorem Xv {o : Oper} {y : Nat → Option Bool} (h : o.guard = none) : Region.wanted o y = true := by unfold Region.wanted; rw [h]
theorem ZS (hgd : o.guard = none) (h : o.wp P a w (fun a' w' => ZJ P ops Q rest a' cs w') (fun e a' w' => Q e a' cs w')) : ZJ P ops Q (o :: rest) a cs w := by
 simp only [ZJ, Xv hgd, if_true]
 unfold Oper.wp at h
 split
 · rename_i heq; rw [heq] at h; exact h.elim
 · exact h
theorem AfZ (hgd : o.guard = none) (he : (execOp a.eval o).run P w = .ok .recover w) {v : Value} {cs' : List Frame} (hr : recoverD cs = some (v, cs')) (h : ZJ P ops Q rest (a.put o.dst v) cs' w) : ZJ P ops Q (o :: rest) a cs w := by
 simp only [ZJ, Xv hgd, if_true, he, hr]
 exact h
theorem AdV (hgd : o.guard = none) (he : (execOp a.eval o).run P w = .ok .recover w) (hr : recoverD cs = none) (h : ZJ P ops Q rest (a.put o.dst .nilIface) cs w) : ZJ P ops Q (o :: rest) a cs w := by
 simp only [ZJ, Xv hgd, if_true, he, hr]
 exact h
end
theorem VG {w : World} : (zeroValue 181).run Tryz.prog w = .ok (.agg #[.int .i64 0, .int .i64 0]) w := by kernel_rfl
theorem YY {P : Program} {ρ : Operand → Value} {o : Oper} {x : Operand} {t u : TypeId} {b : Bool} {v : Value} {w w' : World} (ho : o.op = .typeAssert x t u b) (h : (Instr.typeAssert (ρ x) t u b).run P w = .ok v w') : (execOp ρ o).run P w = .ok (.value v) w' := by
 simp only [execOp, ho, Sem.run_bind, h, Result.andThen_ok, Sem.run_pure]
theorem Afk (k x : Int) (w : World) : (Instr.typeAssert (AaZ k x) 20 181 true).run Tryz.prog w = .ok (.tuple #[.agg #[.int .i64 k, .int .i64 x], .bool true]) w := by kernel_rfl
theorem AfP (w : World) : (Instr.typeAssert .nilIface 20 181 true).run Tryz.prog w = .ok (.tuple #[.agg #[.int .i64 0, .int .i64 0], .bool false]) w := by kernel_rfl
theorem Abd (p : Nat) (k x : Int) (older : List PanicEntry) (w : World) (hr : Row w p 37 #[.int .i64 0, .int .i64 0]) :
 CallsD Tryz.prog 118 #[.pointer (some ⟨p, 0, none⟩)] (.panicking ({ v := AaZ k x, recovered := false } :: older)) w fun e u' w' =>
  e = .returned (.tuple #[]) ∧ u' = .panicking ({ v := AaZ k x, recovered := true } :: older) ∧ Row w' p 37 #[.int .i64 k, .int .i64 x] ∧ But p w w' := by
 have hta := Afk k x w
 generalize AaZ k x = ov at hta ⊢
 refine callsD_of_wpS Tryz.func118 rfl fun c₀ cs hu => ?_
 refine wpS_seq ?_
 refine Xy ?_
 simp only [Tryz.ntmps118]
 simp only [List.size_toArray, List.length_cons, List.length_nil, Nat.reduceAdd, Nat.reduceSub, Array.replicate_succ, Array.replicate_zero, List.push_toArray, List.nil_append, List.cons_append, List.append_toArray]
 refine @AfZ _ _ _ _ _ _ _ _ rfl (by rfl) ov ({ c₀ with mode := .panicking ({ v := ov, recovered := true } :: older) } :: cs) (by simp only [recoverD, hu]) ?_
 simp only [Act.put, Qa, Qb, Qc]
 refine @ZS _ _ _ _ _ _ _ _ rfl ?_
 refine @Qn _ _ _ _ w _ _ (.tuple #[.agg #[.int .i64 k, .int .i64 x], .bool true]) ?_ ?_
 · exact YY rfl (hta)
 simp only [Act.put, Qa, Qb, Qc]
 refine @ZS _ _ _ _ _ _ _ _ rfl ?_
 refine @Qn _ _ _ _ w _ _ (.tuple #[.agg #[.int .i64 k, .int .i64 x], .bool true]) ?_ ?_
 · go_simp; try exact rfl
 simp only [Act.put, Qa, Qb, Qc]
 refine @ZS _ _ _ _ _ _ _ _ rfl ?_
 refine @Qn _ _ _ _ w _ _ (.agg #[.int .i64 k, .int .i64 x]) ?_ ?_
 · go_simp; try exact rfl
 simp only [Act.put, Qa, Qb, Qc]
 refine @ZS _ _ _ _ _ _ _ _ rfl ?_
 refine @Qn _ _ _ _ w _ _ (.bool true) ?_ ?_
 · go_simp; try exact rfl
 simp only [Act.put, Qa, Qb, Qc]
 refine @ZS _ _ _ _ _ _ _ _ rfl ?_
 refine @ZU _ _ _ _ _ _ 181 rfl _ _ VG rfl (fun g w1 hg rg bg => ?_)
 simp only [Act.put, Qa, Qb, Qc]
 refine @ZS _ _ _ _ _ _ _ _ rfl ?_
 refine @ZI _ _ _ _ _ _ 181 (.tmp 1) (.tmp 6) rfl g #[.int .i64 k, .int .i64 x] rfl rfl 181 _ rg (by kernel_rfl) rfl (by simp [Value.oneCell']) (fun w2 r2 o2 => ?_)
 simp only [Act.put]
 refine @ZS _ _ _ _ _ _ _ _ rfl ?_
 refine @Qn _ _ _ _ w2 _ _ (.bool true) ?_ ?_
 · go_simp; try exact rfl
 simp only [Act.put, Qa, Qb, Qc]
 show Code.wpS _ _ _ _ _ _
 refine wpS_seq ?_
 refine Xy ?_
 refine @ZS _ _ _ _ _ _ _ _ rfl ?_
 refine @Qn _ _ _ _ w2 _ _ (.bool true) ?_ ?_
 · go_simp; try exact rfl
 simp only [Act.put, Qa, Qb, Qc]
 show Code.wpS _ _ _ _ _ _
 refine wpS_cond (t := true) rfl ?_
 simp only [if_true]
 refine Xy ?_
 refine @ZS _ _ _ _ _ _ _ _ rfl ?_
 refine @Qn _ _ _ _ w2 _ _ (.pointer (some ⟨g, 0, none⟩)) ?_ ?_
 · go_simp; try exact rfl
 simp only [Act.put, Qa, Qb, Qc]
 refine @ZS _ _ _ _ _ _ _ _ rfl ?_
 refine @wp_load_row _ _ _ _ _ _ 37 _ rfl g rfl 181 #[.int .i64 k, .int .i64 x] (0, 0) _ r2 Tryz.underlying37 rfl (by kernel_rfl) ?_
 simp only [Act.put, Qa, Qb, Qc]
 have hpg : p ≠ g := by have := hr.lt; omega
 have hr2 : Row w2 p 37 #[.int .i64 0, .int .i64 0] := (hr.below (bg.mono hg) hr.lt).only o2 hpg
 refine @ZS _ _ _ _ _ _ _ _ rfl ?_
 refine @ZI _ _ _ _ _ _ 37 (.tmp 0) (.tmp 10) rfl p #[.int .i64 k, .int .i64 x] rfl rfl 37 _ hr2 (by kernel_rfl) rfl (by simp [Value.oneCell']) (fun w3 r3 o3 => ?_)
 simp only [Act.put]
 refine ⟨rfl, _, rfl, .tuple #[], by simp [results, Tryz.results118], rfl, rfl, r3, ?_⟩
 have b := bg.mono hg
 exact ⟨by rw [o3.os, o2.os, b.os], by rw [o3.tape, o2.tape, b.tape], by rw [o3.output, o2.output, b.output], by rw [o3.size, o2.size]; exact b.size, fun i hi hne => ((o3.block i hne).trans (o2.block i (by omega))).trans (b.block i hi)⟩
theorem Abo (p : Nat) (w : World) :
 CallsD Tryz.prog 118 #[.pointer (some ⟨p, 0, none⟩)] .returning w fun e u' w' => e = .returned (.tuple #[]) ∧ u' = .returning ∧ Below w.heap.size w w' := by
 refine callsD_of_wpS Tryz.func118 rfl fun c₀ cs hu => ?_
 refine wpS_seq ?_
 refine Xy ?_
 simp only [Tryz.ntmps118]
 simp only [List.size_toArray, List.length_cons, List.length_nil, Nat.reduceAdd, Nat.reduceSub, Array.replicate_succ, Array.replicate_zero, List.push_toArray, List.nil_append, List.cons_append, List.append_toArray]
 refine @AdV _ _ _ _ _ _ _ _ rfl (by rfl) (by simp only [recoverD, hu]) ?_
 simp only [Act.put, Qa, Qb, Qc]
 have hta := AfP w
 generalize Value.nilIface = ov at hta ⊢
 refine @ZS _ _ _ _ _ _ _ _ rfl ?_
 refine @Qn _ _ _ _ w _ _ (.tuple #[.agg #[.int .i64 0, .int .i64 0], .bool false]) ?_ ?_
 · exact YY rfl (hta)
 simp only [Act.put, Qa, Qb, Qc]
 refine @ZS _ _ _ _ _ _ _ _ rfl ?_
 refine @Qn _ _ _ _ w _ _ (.tuple #[.agg #[.int .i64 0, .int .i64 0], .bool false]) ?_ ?_
 · go_simp; try exact rfl
 simp only [Act.put, Qa, Qb, Qc]
 refine @ZS _ _ _ _ _ _ _ _ rfl ?_
 refine @Qn _ _ _ _ w _ _ (.agg #[.int .i64 0, .int .i64 0]) ?_ ?_
 · go_simp; try exact rfl
 simp only [Act.put, Qa, Qb, Qc]
 refine @ZS _ _ _ _ _ _ _ _ rfl ?_
 refine @Qn _ _ _ _ w _ _ (.bool false) ?_ ?_
 · go_simp; try exact rfl
 simp only [Act.put, Qa, Qb, Qc]
 refine @ZS _ _ _ _ _ _ _ _ rfl ?_
 refine @ZU _ _ _ _ _ _ 181 rfl _ _ VG rfl (fun g w1 hg rg bg => ?_)
 simp only [Act.put, Qa, Qb, Qc]
 refine @ZS _ _ _ _ _ _ _ _ rfl ?_
 refine @ZI _ _ _ _ _ _ 181 (.tmp 1) (.tmp 6) rfl g #[.int .i64 0, .int .i64 0] rfl rfl 181 _ rg (by kernel_rfl) rfl (by simp [Value.oneCell']) (fun w2 r2 o2 => ?_)
 simp only [Act.put]
 refine @ZS _ _ _ _ _ _ _ _ rfl ?_
 refine @Qn _ _ _ _ w2 _ _ (.bool false) ?_ ?_
 · go_simp; try exact rfl
 simp only [Act.put, Qa, Qb, Qc]
 show Code.wpS _ _ _ _ _ _
 refine wpS_seq ?_
 refine Xy ?_
 refine @ZS _ _ _ _ _ _ _ _ rfl ?_
 refine @Qn _ _ _ _ w2 _ _ (.bool false) ?_ ?_
 · go_simp; try exact rfl
 simp only [Act.put, Qa, Qb, Qc]
 show Code.wpS _ _ _ _ _ _
 refine wpS_cond (t := false) rfl ?_
 simp only [Bool.false_eq_true, if_false]
 refine wpS_of_wp (wp_skip ?_)
 refine ⟨rfl, .returning, ?_, .tuple #[], by simp [results, Tryz.results118], rfl, rfl, (bg.mono hg).trans (o2.below hg)⟩
 cases c₀
 simp_all
theorem AcH (L : Lay) (hL : DOk L) (t : Tr) (s s' : Ms) (v : Int) (ev : Value) (W : World) (h : DR L s ev W) (hat : At L.p.body 0 t) (hE : EntD L t s v s') :
 Calls Tryz.prog 57 #[.pointer (some ⟨L.M, 0, none⟩)] W fun e W' => e = .returned (.agg #[.int .i64 ((s'.stopped 3 0).out.getD (0, 0)).1, .int .i64 ((s'.stopped 3 0).out.getD (0, 0)).2]) ∧ ∃ ev', DR L s' ev' W' ∧ RChg L ev W ev' W' := by
 have HL := Lh hL
 have Hat := Lh hat
 have Hm0 := Lh h
 have HE := Lh hE
 clear hL hat h hE
 have hmf : ∀ (fn : Fn) (first cap : Array Value) (w : World), (Instr.makeFunc fn first cap).run Tryz.prog w = .ok (.func fn first cap) w := fun _ _ _ _ => rfl
 go_enter_defers Tryz.func57, Tryz.ntmps57
 go_wp2_with (refine Qy _ rfl ?_)
 refine Stop.to ?_
 refine Qi rfl 37 rfl _ _ YE rfl ?_
 intro P w1 hP rP b1
 have hm := Hm0.out.below HL.out (b1.mono hP)
 have HP : Hid (FRow L ev w1 P 37 #[.int .i64 0, .int .i64 0]) := ⟨Hm0.out.far_new hP rP.lt, rP⟩
 have HC : Hid (RChg L ev W ev w1) := RChg.below (b1.mono hP)
 have Hcall := Lh (HE.out 0 ev w1 Hat.out hm)
 clear hm b1 Hm0
 go_wp2_with fail
 refine Hcall.out.mono ?_
 rintro e W2 ⟨rfl, ev2, hm2, hc2⟩
 have HP2 := Lh (HP.out.go HL.out hc2)
 have HC2 := Lh (HC.out.trans hc2)
 have Hm2 := Lh hm2
 clear hm2 hc2 Hcall HP HC
 cases hs : s'.out with
 | none =>
  rw [QA hs]
  have Hs := Lh hs
  clear hs
  go_wp2_with (refine Ql _ _ _ rfl ?_)
  refine Stop.to ?_
  refine Qj rfl 37 _ _ rfl P #[.int .i64 3, .int .i64 0] rfl rfl 37 _ HP2.out.2 (by kernel_rfl) rfl (by simp [Value.oneCell']) ?_
  intro W3 r3 o3
  go_wp2_with fail
  refine leaves_cons (f := 118) (args := #[.pointer (some ⟨P, 0, none⟩)]) (by simp) (by simp [go_sem]) ?_
  refine (Abo P W3).mono ?_
  rintro e u' w9 ⟨rfl, rfl, bb⟩
  refine ⟨_, results_cell_row Tryz.results57 _ _ P 37 _ (0, 0) _ rfl (r3.below bb r3.lt) Tryz.underlying37 rfl (by kernel_rfl), ?_⟩
  have g3 : W2.grownBy W3 (some P) := ⟨o3.os, o3.tape, o3.output, Nat.le_of_eq o3.size.symm, fun k hk hne => o3.block k (fun e => hne (by rw [e]))⟩
  have hm3 := (Hm2.out.grown HL.out g3 (fun g e => by cases e; exact ⟨HP2.out.1.lo, HP2.out.1.ev⟩)).below HL.out bb
  have hc3 := (HC2.out.more g3 (fun g e => by cases e; exact hP)).trans (RChg.below bb)
  refine ⟨?_, ev2, hm3, hc3⟩
  unfold Ms.stopped
  rw [Hs.out]; rfl
 | some o =>
  obtain ⟨k, x⟩ := o
  rw [QO hs]
  simp only [QV]
  have Hs := Lh hs
  clear hs
  go_wp2_with fail
  refine leaves_cons (f := 118) (args := #[.pointer (some ⟨P, 0, none⟩)]) (by simp) (by simp [go_sem]) ?_
  refine (Abd P k x [] W2 HP2.out.2).mono ?_
  rintro e u' w9 ⟨rfl, rfl, rP, but⟩
  refine ⟨_, results_cell_row Tryz.results57 _ _ P 37 _ (0, 0) _ rfl rP Tryz.underlying37 rfl (by kernel_rfl), ?_⟩
  have g3 : W2.grownBy w9 (some P) := ⟨but.os, but.tape, but.output, but.size, fun k hk hne => but.block k hk (fun e => hne (by rw [e]))⟩
  have hm3 := Hm2.out.grown HL.out g3 (fun g e => by cases e; exact ⟨HP2.out.1.lo, HP2.out.1.ev⟩)
  have hc3 := HC2.out.more g3 (fun g e => by cases e; exact hP)
  refine ⟨?_, ev2, hm3, hc3⟩
  unfold Ms.stopped
  rw [show s'.out.isSome = true from by rw [Hs.out]; rfl, if_pos rfl, Hs.out]; rfl
end Go.Proofs.YtdcmppdhdcjpfaaGreat
