/- The walk over the reference's Run. Conditions: stated in each theorem. -/
import Derived.Test.YtlglilmgklipdaaRmD
import Derived.Test.YtlglilmgklipdaaMcM
namespace Go.Proofs.Ytlglilmgklipdaa
set_option linter.unusedVariables false
open Go.RowKit Go.Deep

theorem chain_of {L : Lay} : ∀ {t : Tr} {ts : List Tr} {s s1 s2 : Ms} {v : Int}, Ent L t s v s1 → Chain L ts s1 s2 → Chain L (t :: ts) s s2 := fun h1 h2 => ⟨_, _, h1, h2⟩
def EntG (L : Lay) : Gl → Ms → Int → Ms → Prop
  | .one t, s, v, s' => Ent L t s v s'
  | .all ts, s, _, s' => Chain L ts s s'
theorem okO_len {V : List Int} {x : Nd} {ks : List Tr} (h : okO V (.node x ks)) : ks.length ≤ 1000 := by
  have h1 := h.1.arity
  have h2 := arityZ_bd x
  simp only [Tr.root, Tr.kids] at h1
  omega
theorem arr_shape {V : List Int} {x : Nd} {ks : List Tr} (hg : okO V (.node x ks)) (ht : x.tag = 4 ∨ x.tag = 22) : 0 ≤ x.n ∧ ∃ t, V[x.n.toNat]? = some t := by
  obtain ⟨k, sh, hk⟩ := okO_shape hg
  cases sh <;> first | omega | skip
  all_goals (rename_i h0 t hv _ _; first | exact ⟨h0, t, hv⟩ | skip)
  all_goals (rename_i h0 _ _ _; first | exact ⟨by assumption, _, by assumption⟩)
/-- What the relation tells is what the reference's enter does. -/
theorem Big.ent (L : Lay) (hL : ROk L) {g : Gl} {s s' : Ms} {v : Int} (h : Big g s v s') : okG L.p.V g → OkS L.p.V s → s.evs.length ≤ s.steps → EntG L g s v s' := by
  induction h with
  | nil s => exact fun _ _ _ => rfl
  | cons t ts s s1 s2 v u h1 h2 i1 i2 =>
    intro hg hs hf
    have hk := (hg t (by simp)).1
    exact chain_of (i1 hk hs hf) (i2 (fun k hk => hg k (by simp [hk])) (h1.inv hk hs).1 (by have := h1.ext.few; omega))
  | over t s h => exact fun _ _ _ => rOver L hL t s h
  | empty t s h h0 => exact fun _ _ _ => rEmpty L hL t s h h0
  | lit x s h ht => exact fun _ _ _ => rLit L hL x s h ht
  | var x s h ht =>
    intro hg hs _
    obtain ⟨k, sh, hk⟩ := okO_shape hg
    have : 0 ≤ x.n ∧ x.n.toNat < s.vals.length := by
      cases sh <;> first | omega | skip
      rename_i hn hv h01
      exact ⟨hn, by rw [hs.vlen]; exact (List.getElem?_eq_some_iff.1 hv).1⟩
    exact rVar L hL x s h ht this.1 this.2
  | skip x s h ht => exact fun _ _ _ => rSkip L hL x s h ht
  | block x ks s s1 u h ht h1 i1 =>
    intro hg hs hf
    obtain ⟨k, sh, hk⟩ := okO_shape hg
    have hk2 : ∀ k ∈ ks, ofT L.p.V k = 2 := by cases sh <;> first | omega | assumption
    exact rBlock L hL x ks s s1 h ht (okO_len hg) (i1 (fun k hk => ⟨okO_kid hg hk, hk2 k hk⟩) hs.tick (by simp only [Ms.tick]; omega))
  | cut x a ks s s1 v h ht h1 ho i1 => exact fun hg hs hf => rCut L hL x a ks s s1 v h ht (by have := okO_len hg; simp at this; omega) (i1 (okO_kid hg (by simp)) hs.tick (by simp only [Ms.tick]; omega)) ho
  | atNo x a s s1 v h ht h1 ho hb i1 =>
    intro hg hs hf
    obtain ⟨hn, t, hv⟩ := arr_shape hg (.inl ht)
    exact rAtNo L hL x a s s1 v t h ht hn hv (h1.inv (okO_kid hg (by simp) : okG _ (.one a)) hs.tick).1.lens (i1 (okO_kid hg (by simp)) hs.tick (by simp only [Ms.tick]; omega)) ho hb
  | at_ x a s s1 v h ht h1 ho hb i1 =>
    intro hg hs hf
    obtain ⟨hn, t, hv⟩ := arr_shape hg (.inl ht)
    exact rAt L hL x a s s1 v t h ht hn hv (h1.inv (okO_kid hg (by simp) : okG _ (.one a)) hs.tick).1.lens (i1 (okO_kid hg (by simp)) hs.tick (by simp only [Ms.tick]; omega)) ho hb
  | neg x a s s1 v h ht h1 ho i1 => exact fun hg hs hf => rNeg L hL x a s s1 v h ht (i1 (okO_kid hg (by simp)) hs.tick (by simp only [Ms.tick]; omega)) ho
  | not x a s s1 v h ht h1 ho i1 =>
    intro hg hs hf
    have ha := okO_kid hg (k := a) (by simp)
    obtain ⟨k, sh, hk⟩ := okO_shape hg
    have h1a : ofT L.p.V a = 1 := by cases sh <;> first | omega | assumption
    exact rNot L hL x a s s1 v h ht (i1 ha hs.tick (by simp only [Ms.tick]; omega)) ho ((h1.inv (ha : okG _ (.one a)) hs.tick).2.2 ho a rfl h1a)
  | and0 x a b s s1 h ht h1 ho i1 => exact fun hg hs hf => rAnd0 L hL x a b s s1 h ht (i1 (okO_kid hg (by simp)) hs.tick (by simp only [Ms.tick]; omega)) ho
  | and1 x a b s s1 s2 v u h ht h1 ho hv h2 i1 i2 =>
    intro hg hs hf
    have ha := okO_kid hg (k := a) (by simp)
    have hft : s.tick.evs.length ≤ s.tick.steps := by simp only [Ms.tick]; omega
    exact rAnd1 L hL x a b s s1 s2 v u h ht (i1 ha hs.tick hft) ho hv (i2 (okO_kid hg (by simp)) (h1.inv (ha : okG _ (.one a)) hs.tick).1 (by have := h1.ext.few; omega))
  | or1 x a b s s1 h ht h1 ho i1 => exact fun hg hs hf => rOr1 L hL x a b s s1 h ht (i1 (okO_kid hg (by simp)) hs.tick (by simp only [Ms.tick]; omega)) ho
  | or0 x a b s s1 s2 v u h ht h1 ho hv h2 i1 i2 =>
    intro hg hs hf
    have ha := okO_kid hg (k := a) (by simp)
    have hft : s.tick.evs.length ≤ s.tick.steps := by simp only [Ms.tick]; omega
    exact rOr0 L hL x a b s s1 s2 v u h ht (i1 ha hs.tick hft) ho hv (i2 (okO_kid hg (by simp)) (h1.inv (ha : okG _ (.one a)) hs.tick).1 (by have := h1.ext.few; omega))
  | set x a s s1 v h ht h1 ho i1 =>
    intro hg hs hf
    have ha := okO_kid hg (k := a) (by simp)
    obtain ⟨k, sh, hk⟩ := okO_shape hg
    have hn : 0 ≤ x.n ∧ x.n.toNat < s1.vals.length := by
      cases sh <;> first | omega | skip
      rename_i hn t hv h01 hxx
      exact ⟨hn, by rw [(h1.inv (ha : okG _ (.one a)) hs.tick).1.vlen]; exact (List.getElem?_eq_some_iff.1 hv).1⟩
    have hft : s.tick.evs.length < s.tick.steps := by simp only [Ms.tick]; omega
    exact rSet L hL x a s s1 v h ht hn.1 hn.2 (by have := h1.ext.few; omega) (i1 ha hs.tick (Nat.le_of_lt hft)) ho
  | ifs x a b c t s s1 s2 v u h ht h1 ho hv h2 i1 i2 =>
    intro hg hs hf
    have ha := okO_kid hg (k := a) (by simp)
    have hft : s.tick.evs.length ≤ s.tick.steps := by simp only [Ms.tick]; omega
    obtain ⟨k, sh, hk⟩ := okO_shape hg
    have h1a : ofT L.p.V a = 1 := by cases sh <;> first | omega | assumption
    have hi := h1.inv (ha : okG _ (.one a)) hs.tick
    exact rIf L hL x a b c t s s1 s2 v u h ht (i1 ha hs.tick hft) ho (hi.2.2 ho a rfl h1a) hv (i2 (okO_kid hg (List.mem_of_getElem? hv)) hi.1 (by have := h1.ext.few; omega))
  | while0 x a b s s1 v h ht h1 ho hv i1 => exact fun hg hs hf => rWhile0 L hL x a b s s1 v h ht (i1 (okO_kid hg (by simp)) hs.tick (by simp only [Ms.tick]; omega)) ho hv
  | while1 x a b s s1 s2 s3 u r h ht h1 ho h2 h3 i1 i2 i3 =>
    intro hg hs hf
    have ha := okO_kid hg (k := a) (by simp)
    have hb := okO_kid hg (k := b) (by simp)
    have hft : s.tick.evs.length ≤ s.tick.steps := by simp only [Ms.tick]; omega
    have hs1 := (h1.inv (ha : okG _ (.one a)) hs.tick).1
    exact rWhile1 L hL x a b s s1 s2 s3 u r h ht (i1 ha hs.tick hft) ho (i2 hb hs1 (by have := h1.ext.few; omega)) (i3 hg (h2.inv (hb : okG _ (.one b)) hs1).1 (by have := h1.ext.few; have := h2.ext.few; omega))
  | ret x a s s1 v h ht h1 ho i1 => exact fun hg hs hf => rRet L hL x a s s1 v h ht (i1 (okO_kid hg (by simp)) hs.tick (by simp only [Ms.tick]; omega)) ho
  | cut2 x a b s s1 s2 v u h ht h1 ho h2 ho2 i1 i2 =>
    intro hg hs hf
    have ha := okO_kid hg (k := a) (by simp)
    have hft : s.tick.evs.length ≤ s.tick.steps := by simp only [Ms.tick]; omega
    exact rCut2 L hL x a b s s1 s2 v u h ht (i1 ha hs.tick hft) ho (i2 (okO_kid hg (by simp)) (h1.inv (ha : okG _ (.one a)) hs.tick).1 (by have := h1.ext.few; omega)) ho2
  | putNo x a b s s1 s2 v u h ht h1 ho h2 ho2 hb i1 i2 =>
    intro hg hs hf
    have ha := okO_kid hg (k := a) (by simp)
    have hbk := okO_kid hg (k := b) (by simp)
    have hft : s.tick.evs.length ≤ s.tick.steps := by simp only [Ms.tick]; omega
    have hs1 := (h1.inv (ha : okG _ (.one a)) hs.tick).1
    obtain ⟨hn, t, hv⟩ := arr_shape hg (.inr ht)
    exact rPutNo L hL x a b s s1 s2 v u t h ht hn hv (h2.inv (hbk : okG _ (.one b)) hs1).1.lens (i1 ha hs.tick hft) ho (i2 hbk hs1 (by have := h1.ext.few; omega)) ho2 hb
  | put x a b s s1 s2 v u h ht h1 ho h2 ho2 hb i1 i2 =>
    intro hg hs hf
    have ha := okO_kid hg (k := a) (by simp)
    have hbk := okO_kid hg (k := b) (by simp)
    have hft : s.tick.evs.length < s.tick.steps := by simp only [Ms.tick]; omega
    have hs1 := (h1.inv (ha : okG _ (.one a)) hs.tick).1
    obtain ⟨hn, t, hv⟩ := arr_shape hg (.inr ht)
    exact rPut L hL x a b s s1 s2 v u t h ht hn hv (h2.inv (hbk : okG _ (.one b)) hs1).1.lens (by have := h1.ext.few; have := h2.ext.few; omega) (i1 ha hs.tick (Nat.le_of_lt hft)) ho (i2 hbk hs1 (by have := h1.ext.few; omega)) ho2 hb
  | pairNo x a b s s1 s2 v u h ht h1 ho h2 ho2 hp i1 i2 =>
    intro hg hs hf
    have ha := okO_kid hg (k := a) (by simp)
    have hft : s.tick.evs.length ≤ s.tick.steps := by simp only [Ms.tick]; omega
    exact rPairNo L hL x a b s s1 s2 v u h ht (i1 ha hs.tick hft) ho (i2 (okO_kid hg (by simp)) (h1.inv (ha : okG _ (.one a)) hs.tick).1 (by have := h1.ext.few; omega)) ho2 hp
  | pair x a b s s1 s2 v u c h ht h1 ho h2 ho2 hp i1 i2 =>
    intro hg hs hf
    have ha := okO_kid hg (k := a) (by simp)
    have hft : s.tick.evs.length ≤ s.tick.steps := by simp only [Ms.tick]; omega
    exact rPair L hL x a b s s1 s2 v u c h ht (i1 ha hs.tick hft) ho (i2 (okO_kid hg (by simp)) (h1.inv (ha : okG _ (.one a)) hs.tick).1 (by have := h1.ext.few; omega)) ho2 hp
end Go.Proofs.Ytlglilmgklipdaa
