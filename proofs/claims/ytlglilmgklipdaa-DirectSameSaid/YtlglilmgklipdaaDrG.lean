/- What the relation tells is what the direct walker does. Conditions: stated in each theorem. -/
import Derived.Test.YtlglilmgklipdaaDrS
import Derived.Test.YtlglilmgklipdaaDrF
namespace Go.Proofs.Ytlglilmgklipdaa
set_option linter.unusedVariables false
open Go.RowKit Go.Deep

def DirG (L : Lay) : Gl → Ms → Int → Ms → Prop
  | .one t, s, v, s' => s.out = none → EntD L t s v s' ∧ ∀ x a b, t = .node x [a, b] → x.tag = 24 → s.go → WhD L a b s.tick s'
  | .all ts, s, _, s' => s.out = none → ∃ vs, ChainD L ts s vs s'
theorem dirOne {L : Lay} {x : Nd} {ks : List Tr} {s s' : Ms} {v : Int} (ht : x.tag ≠ 24) (h : EntD L (.node x ks) s v s') : DirG L (.one (.node x ks)) s v s' := fun _ => ⟨h, fun _ _ _ e h24 _ => absurd h24 (by injection e with e1 e2; rw [← e1]; exact ht)⟩
theorem dirWh {L : Lay} {x : Nd} {a b : Tr} {s s' : Ms} {v : Int} (h : EntD L (.node x [a, b]) s v s') (hw : WhD L a b s.tick s') : DirG L (.one (.node x [a, b])) s v s' := fun _ => ⟨h, fun _ _ _ e _ _ => by
  injection e with e1 e2
  injection e2 with e3 e4
  injection e4 with e5 _
  subst e3; subst e5
  exact hw⟩
theorem okO_len3 {V : List Int} {x : Nd} {ks : List Tr} (h : okO V (.node x ks)) : ks.length ≤ 1000 := by
  have h1 := h.1.arity
  have h2 := arityZ_bd x
  simp only [Tr.root, Tr.kids] at h1
  omega
theorem okO_block {V : List Int} {x : Nd} {ks : List Tr} (h : okO V (.node x ks)) (ht : x.tag = 20) : x.n = (ks.length : Int) := by
  have h1 := h.1.arity
  simp only [Tr.root, Tr.kids] at h1
  unfold arityZ limitsZ at h1
  simp only [ht] at h1
  simp at h1
  split at h1 <;> omega
theorem arr_shapeZ {V : List Int} {x : Nd} {ks : List Tr} (hg : okO V (.node x ks)) (ht : x.tag = 4 ∨ x.tag = 22) : 0 ≤ x.n ∧ ∃ t, V[x.n.toNat]? = some t ∧ sizeZ t ≠ 0 := by
  obtain ⟨k, sh, hk⟩ := okO_shape hg
  cases sh <;> first | omega | skip
  case at_ hn t hv hz _ => exact ⟨hn, t, hv, hz⟩
  case put hn t hv hz _ _ => exact ⟨hn, t, hv, hz⟩
theorem chain2 {L : Lay} {a b : Tr} {s s1 s2 : Ms} {v u : Int} (h1 : EntD L a s v s1) (o1 : s1.out = none) (h2 : EntD L b s1 u s2) (o2 : s2.out = none) : ChainD L [a, b] s [v, u] s2 := ⟨v, s1, h1, .inr ⟨o1, [u], rfl, u, s2, h2, .inr ⟨o2, [], rfl, rfl, rfl⟩⟩⟩
theorem chain2c {L : Lay} {a b : Tr} {s s1 s2 : Ms} {v u : Int} (h1 : EntD L a s v s1) (o1 : s1.out = none) (h2 : EntD L b s1 u s2) (o2 : s2.out.isSome = true) : ChainD L [a, b] s [v] s2 := ⟨v, s1, h1, .inr ⟨o1, [], rfl, u, s2, h2, .inl ⟨o2, rfl⟩⟩⟩
theorem chain1c {L : Lay} {a : Tr} {ts : List Tr} {s s1 : Ms} {v : Int} (h1 : EntD L a s v s1) (o1 : s1.out.isSome = true) : ChainD L (a :: ts) s [] s1 := ⟨v, s1, h1, .inl ⟨o1, rfl⟩⟩
theorem isSome_of {s : Ms} (h : s.out ≠ none) : s.out.isSome = true := by
  cases e : s.out with
  | none => exact absurd e h
  | some o => rfl
theorem big_empty {t : Tr} {s s' : Ms} {r : Int} (h : Big (.one t) s r s') (ho : s.out = none) (hf : s.fuel = 0) : s' = s.stop 4 0 := by
  have hn : ¬ s.go := fun h => h.2 hf
  cases h <;> first | rfl | (exact absurd ‹s.go› hn) | (rename_i h; rw [ho] at h; cases h)
theorem big_block {t : Tr} {s s' : Ms} {u : Int} (h : Big (.one t) s u s') (ht : t.root.tag = 20) : u = 0 := by
  cases h <;> simp only [Tr.root] at ht <;> first | rfl | omega
/-- A first kid that ends the run. -/
theorem dirCut (L : Lay) (hL : DOk L) (x : Nd) (a : Tr) (ks : List Tr) (s s1 : Ms) (v : Int) (hg : okO L.p.V (.node x (a :: ks))) (h : s.go) (ht : deep x.tag) (he : EntD L a s.tick v s1) (ho : s1.out.isSome = true) : DirG L (.one (.node x (a :: ks))) s 0 s1 := by
  obtain ⟨k, sh, hk⟩ := okO_shape hg
  cases sh <;> first | (unfold deep at ht; omega) | skip
  case at_ => exact dirOne (by omega) (eAtCut L hL x a _ s s1 v 0 h (by omega) he ho)
  case neg => exact dirOne (by omega) (eNegCut L hL x a _ s s1 v 0 h (by omega) he ho)
  case not => exact dirOne (by omega) (eNotCut L hL x a _ s s1 v 0 h (by omega) he ho)
  case pair b _ _ _ _ => exact dirOne (by omega) (ePairCut L hL x a b s s1 [] 0 h (by omega) (chain1c he ho) ho)
  case logic b h89 _ _ =>
    rcases h89 with e | e
    · exact dirOne (by omega) (eAndCut L hL x a _ s s1 v 0 h e he ho)
    · exact dirOne (by omega) (eOrCut L hL x a _ s s1 v 0 h e he ho)
  case set => exact dirOne (by omega) (eDo L hL x _ s s1 h (by omega) (doSetCut L hL x a s.tick s1 v (by omega) he ho))
  case put b _ _ _ _ _ _ _ => exact dirOne (by omega) (eDo L hL x _ s s1 h (by omega) (doPutCut L hL x a b s.tick s1 [] (by omega) h.1 (chain1c he ho) ho))
  case ifs => exact dirOne (by omega) (eDo L hL x _ s s1 h (by omega) (doIfCut L hL x a _ s.tick s1 v (by omega) he ho))
  case «while» b _ _ _ _ => exact dirWh (eDo L hL x _ s s1 h (by omega) (doWhile L hL x a b s.tick s1 (by omega) (.cut he ho))) (.cut he ho)
  case ret => exact dirOne (by omega) (eDo L hL x _ s s1 h (by omega) (doRetCut L hL x a s.tick s1 v (by omega) he ho))
theorem Big.dir (L : Lay) (hL : DOk L) {g : Gl} {s s' : Ms} {v : Int} (h : Big g s v s') : okG L.p.V g → OkS L.p.V s → s.evs.length ≤ s.steps → DirG L g s v s' := by
  induction h with
  | nil s => exact fun _ _ _ _ => ⟨[], rfl, rfl⟩
  | cons t ts s s1 s2 v u h1 h2 i1 i2 =>
    intro hg hs hf ho
    have hk := (hg t (by simp)).1
    have he := (i1 hk hs hf ho).1
    by_cases ho1 : s1.out = none
    · obtain ⟨vs, hch⟩ := i2 (fun k hk => hg k (by simp [hk])) (h1.inv hk hs).1 (by have := h1.ext.few; omega) ho1
      exact ⟨v :: vs, v, s1, he, .inr ⟨ho1, vs, rfl, hch⟩⟩
    · have hos := isSome_of ho1
      have e := big_over h2 hos
      subst e
      exact ⟨[], chain1c he hos⟩
  | over t s h => exact fun _ _ _ ho => absurd h (by rw [ho]; simp)
  | empty t s h h0 => exact fun _ _ _ _ => ⟨eEmpty L hL t s 0 h0, fun _ _ _ _ _ hg => absurd h0 hg.2⟩
  | lit x s h ht => exact fun _ _ _ => dirOne (by omega) (eLit L hL x s h ht)
  | var x s h ht =>
    intro hg hs _
    obtain ⟨k, sh, hk⟩ := okO_shape hg
    cases sh <;> first | omega | skip
    case var hn hv h01 => exact dirOne (by omega) (eVar L hL x s _ h ht hn hv (by rcases h01 with e | e <;> rw [e] <;> rfl) hs.vlen)
  | skip x s h ht => exact fun _ _ _ => dirOne (by omega) (eDo L hL x [] s s.tick h (by omega) (doSkip L hL x s.tick ht h.1))
  | block x ks s s1 u h ht h1 i1 =>
    intro hg hs hf
    obtain ⟨k, sh, hk⟩ := okO_shape hg
    have hk2 : ∀ k ∈ ks, ofT L.p.V k = 2 := by cases sh <;> first | omega | assumption
    obtain ⟨vs, hch⟩ := i1 (fun k hk => ⟨okO_kid hg hk, hk2 k hk⟩) hs.tick (by simp only [Ms.tick]; omega) h.1
    exact dirOne (by omega) (eDo L hL x ks s s1 h (by omega) (doBlock L hL x ks vs s.tick s1 ht (okO_block hg ht) (okO_len3 hg) h.1 hch))
  | cut x a ks s s1 v h ht h1 ho i1 => exact fun hg hs hf => dirCut L hL x a ks s s1 v hg h ht (i1 (okO_kid hg (by simp)) hs.tick (by simp only [Ms.tick]; omega) h.1).1 ho
  | atNo x a s s1 v h ht h1 ho hb i1 =>
    intro hg hs hf
    obtain ⟨hn, t, hv, hz⟩ := arr_shapeZ hg (.inl ht)
    exact dirOne (by omega) (eAtNo L hL x a s s1 v t h ht (i1 (okO_kid hg (by simp)) hs.tick (by simp only [Ms.tick]; omega) h.1).1 ho hn hv hz (h1.inv (okO_kid hg (by simp) : okG _ (.one a)) hs.tick).1.lens hb)
  | at_ x a s s1 v h ht h1 ho hb i1 =>
    intro hg hs hf
    obtain ⟨hn, t, hv, hz⟩ := arr_shapeZ hg (.inl ht)
    exact dirOne (by omega) (eAt L hL x a s s1 v t h ht (i1 (okO_kid hg (by simp)) hs.tick (by simp only [Ms.tick]; omega) h.1).1 ho hn hv hz (h1.inv (okO_kid hg (by simp) : okG _ (.one a)) hs.tick).1.lens hb)
  | neg x a s s1 v h ht h1 ho i1 => exact fun hg hs hf => dirOne (by omega) (eNeg L hL x a s s1 v h ht (i1 (okO_kid hg (by simp)) hs.tick (by simp only [Ms.tick]; omega) h.1).1 ho)
  | not x a s s1 v h ht h1 ho i1 =>
    intro hg hs hf
    have ha := okO_kid hg (k := a) (by simp)
    obtain ⟨k, sh, hk⟩ := okO_shape hg
    have h1a : ofT L.p.V a = 1 := by cases sh <;> first | omega | assumption
    exact dirOne (by omega) (eNot L hL x a s s1 v h ht (i1 ha hs.tick (by simp only [Ms.tick]; omega) h.1).1 ho ((h1.inv (ha : okG _ (.one a)) hs.tick).2.2 ho a rfl h1a))
  | and0 x a b s s1 h ht h1 ho i1 => exact fun hg hs hf => dirOne (by omega) (eAnd0 L hL x a b s s1 h ht (i1 (okO_kid hg (by simp)) hs.tick (by simp only [Ms.tick]; omega) h.1).1 ho)
  | and1 x a b s s1 s2 v u h ht h1 ho hv h2 i1 i2 =>
    intro hg hs hf
    have ha := okO_kid hg (k := a) (by simp)
    have hft : s.tick.evs.length ≤ s.tick.steps := by simp only [Ms.tick]; omega
    exact dirOne (by omega) (eAnd1 L hL x a b s s1 s2 v u h ht (i1 ha hs.tick hft h.1).1 ho hv (i2 (okO_kid hg (by simp)) (h1.inv (ha : okG _ (.one a)) hs.tick).1 (by have := h1.ext.few; omega) ho).1)
  | or1 x a b s s1 h ht h1 ho i1 => exact fun hg hs hf => dirOne (by omega) (eOr1 L hL x a b s s1 h ht (i1 (okO_kid hg (by simp)) hs.tick (by simp only [Ms.tick]; omega) h.1).1 ho)
  | or0 x a b s s1 s2 v u h ht h1 ho hv h2 i1 i2 =>
    intro hg hs hf
    have ha := okO_kid hg (k := a) (by simp)
    have hft : s.tick.evs.length ≤ s.tick.steps := by simp only [Ms.tick]; omega
    exact dirOne (by omega) (eOr0 L hL x a b s s1 s2 v u h ht (i1 ha hs.tick hft h.1).1 ho hv (i2 (okO_kid hg (by simp)) (h1.inv (ha : okG _ (.one a)) hs.tick).1 (by have := h1.ext.few; omega) ho).1)
  | set x a s s1 v h ht h1 ho i1 =>
    intro hg hs hf
    have ha := okO_kid hg (k := a) (by simp)
    have hft : s.tick.evs.length < s.tick.steps := by simp only [Ms.tick]; omega
    have he := (i1 ha hs.tick (Nat.le_of_lt hft) h.1).1
    have hv1 := (h1.inv (ha : okG _ (.one a)) hs.tick).1.vlen
    obtain ⟨k, sh, hk⟩ := okO_shape hg
    cases sh <;> first | omega | skip
    case set hn t hv h01 hxx => exact dirOne (by omega) (eDo L hL x [a] s _ h (by omega) (doSet L hL x a s.tick s1 v t ht he ho hn hv (by rcases h01 with e | e <;> rw [e] <;> rfl) hv1 (by have := h1.ext.few; omega)))
  | ifs x a b c t s s1 s2 v u h ht h1 ho hv h2 i1 i2 =>
    intro hg hs hf
    have ha := okO_kid hg (k := a) (by simp)
    have hft : s.tick.evs.length ≤ s.tick.steps := by simp only [Ms.tick]; omega
    obtain ⟨k, sh, hk⟩ := okO_shape hg
    have h1a : ofT L.p.V a = 1 := by cases sh <;> first | omega | assumption
    have hi := h1.inv (ha : okG _ (.one a)) hs.tick
    have htk : okO L.p.V t := okO_kid hg (List.mem_of_getElem? hv)
    have ht2 : t.root.tag = 20 := by
      cases sh <;> first | omega | skip
      have := hi.2.2 ho a rfl h1a
      rcases this with rfl | rfl
      · have : c = t := by simpa using hv
        subst this; assumption
      · have : b = t := by simpa using hv
        subst this; assumption
    have h2e := (i2 htk hi.1 (by have := h1.ext.few; omega) ho).1
    obtain rfl := big_block h2 ht2
    exact dirOne (by omega) (eDo L hL x [a, b, c] s s2 h (by omega) (doIf L hL x a b c t s.tick s1 s2 v 0 ht (i1 ha hs.tick hft h.1).1 ho (hi.2.2 ho a rfl h1a) hv h2e))
  | while0 x a b s s1 v h ht h1 ho hv i1 =>
    intro hg hs hf
    have he := (i1 (okO_kid hg (by simp)) hs.tick (by simp only [Ms.tick]; omega) h.1).1
    exact dirWh (eDo L hL x _ s s1 h (by omega) (doWhile L hL x a b s.tick s1 ht (.done he ho hv))) (.done he ho hv)
  | while1 x a b s s1 s2 s3 u r h ht h1 ho h2 h3 i1 i2 i3 =>
    intro hg hs hf
    have ha := okO_kid hg (k := a) (by simp)
    have hb := okO_kid hg (k := b) (by simp)
    have hft : s.tick.evs.length ≤ s.tick.steps := by simp only [Ms.tick]; omega
    have hs1 := (h1.inv (ha : okG _ (.one a)) hs.tick).1
    have e1 := (i1 ha hs.tick hft h.1).1
    have e2 := (i2 hb hs1 (by have := h1.ext.few; omega) ho).1
    have hw : WhD L a b s.tick s3 := by
      by_cases ho2 : s2.out = none
      · by_cases hf2 : s2.fuel = 0
        · rw [big_empty h3 ho2 hf2]
          exact .empty e1 ho e2 ho2 hf2
        · have h3w := (i3 hg (h2.inv (hb : okG _ (.one b)) hs1).1 (by have := h1.ext.few; have := h2.ext.few; omega) ho2).2 x a b rfl ht ⟨ho2, hf2⟩
          have x1 := h1.ext
          have x2 := h2.ext
          exact .more e1 ho e2 ⟨ho2, hf2⟩ (by have := x1.sum; have := x1.fuel; have := x2.sum; have := x2.fuel; omega) h3w
      · have hos := isSome_of ho2
        rw [big_over h3 hos]
        exact .cut2 e1 ho e2 hos
    exact dirWh (eDo L hL x _ s s3 h (by omega) (doWhile L hL x a b s.tick s3 ht hw)) hw
  | ret x a s s1 v h ht h1 ho i1 => exact fun hg hs hf => dirOne (by omega) (eDo L hL x _ s _ h (by omega) (doRet L hL x a s.tick s1 v ht (i1 (okO_kid hg (by simp)) hs.tick (by simp only [Ms.tick]; omega) h.1).1 ho))
  | cut2 x a b s s1 s2 v u h ht h1 ho h2 ho2 i1 i2 =>
    intro hg hs hf
    have ha := okO_kid hg (k := a) (by simp)
    have hft : s.tick.evs.length ≤ s.tick.steps := by simp only [Ms.tick]; omega
    have hch := chain2c (i1 ha hs.tick hft h.1).1 ho (i2 (okO_kid hg (by simp)) (h1.inv (ha : okG _ (.one a)) hs.tick).1 (by have := h1.ext.few; omega) ho).1 ho2
    obtain ⟨k, sh, hk⟩ := okO_shape hg
    cases sh <;> first | (unfold wide deep at ht; omega) | skip
    case pair => exact dirOne (by omega) (ePairCut L hL x a b s s2 [v] 0 h (by omega) hch ho2)
    case put => exact dirOne (by omega) (eDo L hL x _ s s2 h (by omega) (doPutCut L hL x a b s.tick s2 [v] (by omega) h.1 hch ho2))
  | putNo x a b s s1 s2 v u h ht h1 ho h2 ho2 hb i1 i2 =>
    intro hg hs hf
    have ha := okO_kid hg (k := a) (by simp)
    have hbk := okO_kid hg (k := b) (by simp)
    have hft : s.tick.evs.length ≤ s.tick.steps := by simp only [Ms.tick]; omega
    have hs1 := (h1.inv (ha : okG _ (.one a)) hs.tick).1
    obtain ⟨hn, t, hv, hz⟩ := arr_shapeZ hg (.inr ht)
    exact dirOne (by omega) (eDo L hL x _ s _ h (by omega) (doPutNo L hL x a b s.tick s2 v u t ht h.1 (chain2 (i1 ha hs.tick hft h.1).1 ho (i2 hbk hs1 (by have := h1.ext.few; omega) ho).1 ho2) ho2 hn hv hz (h2.inv (hbk : okG _ (.one b)) hs1).1.lens hb))
  | put x a b s s1 s2 v u h ht h1 ho h2 ho2 hb i1 i2 =>
    intro hg hs hf
    have ha := okO_kid hg (k := a) (by simp)
    have hbk := okO_kid hg (k := b) (by simp)
    have hft : s.tick.evs.length < s.tick.steps := by simp only [Ms.tick]; omega
    have hs1 := (h1.inv (ha : okG _ (.one a)) hs.tick).1
    obtain ⟨hn, t, hv, hz⟩ := arr_shapeZ hg (.inr ht)
    exact dirOne (by omega) (eDo L hL x _ s _ h (by omega) (doPut L hL x a b s.tick s2 v u t ht h.1 (chain2 (i1 ha hs.tick (Nat.le_of_lt hft) h.1).1 ho (i2 hbk hs1 (by have := h1.ext.few; omega) ho).1 ho2) ho2 hn hv hz (h2.inv (hbk : okG _ (.one b)) hs1).1.lens hb (by have := h1.ext.few; have := h2.ext.few; omega)))
  | pairNo x a b s s1 s2 v u h ht h1 ho h2 ho2 hp i1 i2 =>
    intro hg hs hf
    have ha := okO_kid hg (k := a) (by simp)
    have hft : s.tick.evs.length ≤ s.tick.steps := by simp only [Ms.tick]; omega
    exact dirOne (by omega) (ePairNo L hL x a b s s2 v u h ht (chain2 (i1 ha hs.tick hft h.1).1 ho (i2 (okO_kid hg (by simp)) (h1.inv (ha : okG _ (.one a)) hs.tick).1 (by have := h1.ext.few; omega) ho).1 ho2) ho2 hp)
  | pair x a b s s1 s2 v u c h ht h1 ho h2 ho2 hp i1 i2 =>
    intro hg hs hf
    have ha := okO_kid hg (k := a) (by simp)
    have hft : s.tick.evs.length ≤ s.tick.steps := by simp only [Ms.tick]; omega
    exact dirOne (by omega) (ePair L hL x a b s s2 v u c h ht (chain2 (i1 ha hs.tick hft h.1).1 ho (i2 (okO_kid hg (by simp)) (h1.inv (ha : okG _ (.one a)) hs.tick).1 (by have := h1.ext.few; omega) ho).1 ho2) ho2 hp)
end Go.Proofs.Ytlglilmgklipdaa
