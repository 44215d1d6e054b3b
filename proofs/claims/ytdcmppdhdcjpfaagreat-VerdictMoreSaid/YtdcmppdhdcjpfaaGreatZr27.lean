/- Lemmas for VerdictMoreP. -/
import Derived.Test.YtdcmppdhdcjpfaaGreatZr1
import Derived.Test.YtdcmppdhdcjpfaaGreatZr26
import Derived.Test.YtdcmppdhdcjpfaaGreatZr4
import Derived.Maps.AppendAt
set_option linter.unusedVariables false
set_option linter.unusedSimpArgs false
set_option maxRecDepth 100000
set_option maxHeartbeats 16000000
namespace Go.Proofs.YtdcmppdhdcjpfaaGreat
open Go.RowKit Go.Deep
theorem ZU {P : Program} {o : Oper} {a : Act} {w : World} {K : Act → World → Prop} {Q : Exit → Act → World → Prop} (s x : Operand) (t : TypeId)
 (ho : o.op = .call { callee := .builtin .append, args := #[s, x], argTypes := #[t, t] })
 (base : Nat) (e : TypeId) (i : TypeInfo) (z : Value) (size bytes : Nat) (ht : P.underlying t = some (.slice e)) (hi : P.info? e = some i) (hz : i.zero = some z)
 (hsize : i.size = size) (hby : i.bytes = bytes) (hzs : z.cells.size = size) (hsz : 0 < size)
 (v : Value) (n : Nat) (xs : List Value) (hs : a.eval s = v) (hown : w.ownsRow base e size v n xs)
 (ad : Addr) (m c : Nat) (news : List Value) (hx : a.eval x = .slice (some ad) m c) (hl : news.length = m * size) (hnews : ∀ j u, news[j]? = some u → w.cell? (ad.add j) = some u) (h1 : ∀ u ∈ news, u.oneCell' = true)
 (h63 : n + m ≤ maxLen) (hbytes : (n + m) * bytes ≤ 140737488355328) (hbase : base ≤ w.heap.size)
 (h : ∀ v' w', w'.ownsRow base e size v' (n + m) (xs ++ news) → w.grownBy w' v.ownBlock → (v'.ownBlock = v.ownBlock ∨ v'.ownBlock = some w.heap.size) → K (a.put o.dst v') w') :
 o.wp P a w K Q := by
 obtain ⟨v', w', hr, h2, h3, h4, h5⟩ := run_append_own_at (P := P) w base t o.type e i z size bytes ht hi hz hsize hby hzs hsz v n xs hown ad m c news hl hnews h1 h63 hbytes hbase
 unfold Oper.wp execOp
 simp only [ho, resolve, invoke, builtin, Sem.run_bind, Sem.run_pure, Result.andThen_ok, List.map_toArray, List.map_cons, List.map_nil, hs, hx, hr]
 exact h v' w' h2 h3 h5
theorem Ad2 {P : Program} {o : Oper} {a : Act} {w : World} {K : Act → World → Prop} {Q : Exit → Act → World → Prop} (ty : TypeId) (x : Operand) (ho : o.op = .box ty x) (cs : Array Value) (hx : (a.eval x).cells = cs)
 (h : ∀ g w', w.heap.size ≤ g → Row w' g ty cs → Below g w w' → K (a.put o.dst (.pointer (some ⟨g, 0, none⟩))) w') : o.wp P a w K Q := by
 have e : (execOp a.eval o).run P w = .ok (.value (.pointer (some ⟨w.heap.size, 0, none⟩))) (w.alloc (.cells cs ty)) := by
  rw [← hx]; simp [execOp, ho, Instr.box, newVar, newRow]
 unfold Oper.wp
 rw [e]
 exact h _ _ (Nat.le_refl _) (Row.new _ _ _) ((Below.refl _ _).alloc (Nat.le_refl _) _)
structure ChM (M B : Nat) (W W' : World) : Prop where
 os : W'.os = W.os
 tape : W'.tape = W.tape
 output : W'.output = W.output
 size : W.heap.size ≤ W'.heap.size
 block : ∀ k, k < B → k ≠ M → W'.heap[k]? = W.heap[k]?
section
variable {M B : Nat} {A W W' : World}
theorem ChM.refl (M B : Nat) (W : World) : ChM M B W W := ⟨rfl, rfl, rfl, Nat.le_refl _, fun _ _ _ => rfl⟩
theorem ChM.trans (h : ChM M B A W) (k : ChM M B W W') : ChM M B A W' := ⟨k.os.trans h.os, k.tape.trans h.tape, k.output.trans h.output, Nat.le_trans h.size k.size, fun i h1 h2 => (k.block i h1 h2).trans (h.block i h1 h2)⟩
theorem ChM.below (b : Below B W W') : ChM M B W W' := ⟨b.os, b.tape, b.output, b.size, fun k h1 _ => b.block k h1⟩
theorem ChM.only (o : Only M W W') : ChM M B W W' := ⟨o.os, o.tape, o.output, Nat.le_of_eq o.size.symm, fun k _ h => o.block k h⟩
theorem ChM.grown {g : Option Nat} (h : W.grownBy W' g) (hs : B ≤ W.heap.size) (hg : ∀ k, g = some k → B ≤ k) : ChM M B W W' :=
 ⟨h.os, h.tape, h.output, h.size, fun k h1 _ => h.block k (by omega) (fun e => by have := hg k e.symm; omega)⟩
theorem Row.chm {g : Nat} {t : TypeId} {cs : Array Value} (h : Row W g t cs) (c : ChM M B W W') (hg : g < B) (hne : g ≠ M) : Row W' g t cs := (c.block g hg hne).trans h
theorem Aew {b size n : Nat} {e : TypeId} {v : Value} {xs : List Value} (h : W.ownsRow b e size v n xs) (c : ChM M B W W') (hv : ∀ g, v.ownBlock = some g → g < B ∧ g ≠ M) : W'.ownsRow b e size v n xs := by
 refine ⟨h.1, ?_⟩
 rcases h.2 with h | ⟨g, cap, cur, h1, h2, h3, h4⟩
 · exact .inl h
 · have := hv g (by rw [h1]; rfl)
   exact .inr ⟨g, cap, cur, h1, h2, (c.block g this.1 this.2).trans h3, h4⟩
end
theorem AcW {P : Program} {md : Region.Mode} {o : Array Oper} {Q : Exit → Act → World → Prop} {S : World → Prop} {n : Nat} {L : Array Bool} {a : Act} {W : World} {G : Prop}
 (main : wpAnyH P md o Q S n L a W → G) (tail : wpAnyH P md o Q S n L a W) : G := main tail
def ZG (p : PgV) (kv vv av : Value) (F : Int) (PB : Nat) : Array Value :=
 #[.int .i64 p.params, .slice p.va p.V.length p.vcap, .slice p.ba p.body.length p.bcap, kv, vv, av, .int .i64 F, .slice none 0 0, .int .i64 0, .int .i64 0, .int .i64 0, .slice none 0 0, .bool false, .map (some PB)]
theorem ChM.to_below {M B b : Nat} {A W : World} (h : ChM M B A W) (hB : b ≤ B) (hM : b ≤ M) : Below b A W := ⟨h.os, h.tape, h.output, h.size, fun k hk => h.block k (by omega) (by omega)⟩
theorem Ahq : (Tryz.prog.info? 22).map (fun i => (i.zero, i.size, i.bytes)) = some (some (.slice none 0 0), 1, 24) := by kernel_rfl
theorem VH {w : World} {b size n : Nat} {e : TypeId} {v : Value} {xs : List Value} (h : w.ownsRow b e size v n xs) : ∃ A m c, v = .slice A m c := by
 rcases h.2 with ⟨rfl, _⟩ | ⟨g, cap, cur, rfl, _⟩
 · exact ⟨_, _, _, rfl⟩
 · exact ⟨_, _, _, rfl⟩
def asL (gs : List Nat) (V : List Int) : List Value := (gs.zip V).map fun x => Value.slice (some ⟨x.1, 0, none⟩) (QU x.2).toNat (QU x.2).toNat
structure K2 (p : PgV) (M Bk PB : Nat) (F : Int) (kv : Value) (args : List Int) (W1 : World) (k : Nat) (W : World) : Prop where
 ex : ∃ vv av gs, Row W M 125 (ZG p kv vv av F PB) ∧ gs.length = k ∧ W.ownsRow Bk 3 1 vv k (Qi ((JU p.V args).take k)) ∧ W.ownsRow Bk 22 1 av k (asL gs p.V) ∧ (∀ (i g : Nat) (t : Int), gs[i]? = some g → p.V[i]? = some t → Row W g 3 (Qi (List.replicate (QU t).toNat 0)).toArray) ∧ (∀ g ∈ gs, Bk ≤ g) ∧ gs.Nodup ∧ (∀ g ∈ gs, vv.ownBlock ≠ some g) ∧ ChM M Bk W1 W
theorem Ad7 (gs : List Nat) (V : List Int) (g : Nat) (t : Int) (h : V[gs.length]? = some t) : asL (gs ++ [g]) V = asL gs V ++ [.slice (some ⟨g, 0, none⟩) (QU t).toNat (QU t).toNat] := by
 induction gs generalizing V with
 | nil =>
  cases V with
  | nil => simp at h
  | cons b V => simp at h; subst h; simp [asL]
 | cons a gs ih =>
  cases V with
  | nil => simp at h
  | cons b V =>
   have := ih V (by simpa using h)
   simp only [asL, List.cons_append, List.zip_cons_cons, List.map_cons] at this ⊢
   rw [this]
theorem El {V args : List Int} {k : Nat} (h : k < V.length) : (JU V args).take (k + 1) = (JU V args).take k ++ [args.getD k 0] := by
 rw [List.take_add_one, List.getElem?_eq_getElem (by simpa [JU] using h)]
 simp [JU]
theorem Zu {P : Program} {ρ : Operand → Value} {o : Oper} {t : TypeId} {x y : Operand} (ho : o.op = .makeSlice t x y) {a b v : Value} (hx : ρ x = a) (hy : ρ y = b) {w w' : World} (h : (Instr.makeSlice t a b).run P w = .ok v w') : (execOp ρ o).run P w = .ok (.value v) w' := by
 simp [execOp, ho, hx, hy, h]
theorem XQ {w : World} {b size n g : Nat} {e : TypeId} {v : Value} {xs : List Value} (h : w.ownsRow b e size v n xs) (hv : v.ownBlock = some g) : g < w.heap.size := by
 rcases h.2 with ⟨rfl, _⟩ | ⟨g', cap, cur, rfl, _, hh, _⟩
 · simp [Value.ownBlock] at hv
 · simp [Value.ownBlock] at hv; subst hv
   exact (Array.getElem?_eq_some_iff.1 hh).1
structure K3 (p : PgV) (M Bk PB : Nat) (F : Int) (kv vv av : Value) (args : List Int) (gs : List Nat) (W1 : World) (k : Nat) (W : World) : Prop where
 row : Row W M 125 (ZG p kv vv av F PB)
 vv : W.ownsRow Bk 3 1 vv (k + 1) (Qi ((JU p.V args).take (k + 1)))
 av : W.ownsRow Bk 22 1 av k (asL gs p.V)
 rows : ∀ (i g : Nat) (t : Int), gs[i]? = some g → p.V[i]? = some t → Row W g 3 (Qi (List.replicate (QU t).toNat 0)).toArray
 ch : ChM M Bk W1 W
 size : Bk ≤ W.heap.size
theorem K3.go {p : PgV} {M Bk PB : Nat} {F : Int} {kv vv av : Value} {args : List Int} {gs : List Nat} {W1 : World} {k : Nat} {A A' : World} (h : K3 p M Bk PB F kv vv av args gs W1 k A) (b : Below A.heap.size A A') : K3 p M Bk PB F kv vv av args gs W1 k A' :=
 ⟨h.row.below b h.row.lt, Qs h.vv b, Qs h.av b, fun i g t h1 h2 => (h.rows i g t h1 h2).below b (h.rows i g t h1 h2).lt, h.ch.trans (.below (b.mono h.size)), Nat.le_trans h.size b.size⟩
theorem Ab0 : (Tryz.prog.info? 22).map (fun i => (i.zero, i.size, i.bytes)) = some (some (.slice none 0 0), 1, 24) := by kernel_rfl
theorem Ad9 {ops : Array Oper} {rest : List Oper} {o : Oper} {a : Act} {w : World} {Q : Exit → Act → World → Prop} (h : Stop (wpList Tryz.prog ops Q (o :: rest) a w) id) : wpList Tryz.prog ops Q (o :: rest) a w := h.out
theorem Xi {w : World} {b n : Nat} {e : TypeId} {v : Value} {xs : List Value} (h : w.ownsRow b e 1 v n xs) : ∃ A c, v = .slice A n c ∧ Rd w A xs := by
 rcases h.2 with ⟨rfl, rfl⟩ | ⟨g, cap, cur, rfl, _, hh, _, _, _, ht⟩
 · have := h.1
   simp at this
   subst this
   exact ⟨_, _, rfl, Rd.nil _ _⟩
 · refine ⟨_, _, rfl, fun j u hj => ⟨_, rfl, ?_⟩⟩
   have hr : Row w g e cur := hh
   have hjl : j < xs.length := (List.getElem?_eq_some_iff.1 hj).1
   have hl := h.1
   rw [← ht, List.getElem?_take_of_lt (by omega)] at hj
   have : w.cell? ⟨g, j, none⟩ = some u := hr.cellv (by rw [← Array.getElem?_toList]; exact hj)
   unfold Addr.add
   by_cases h0 : j = 0
   · subst h0; exact this
   · rw [if_neg h0]; simpa using this
theorem AaV {L : Lay} {W W' : World} {b size n : Nat} {e : TypeId} {v : Value} {xs : List Value} (h : W.ownsRow b e size v n xs) (c : Chg L W W') (hv : ∀ g, v.ownBlock = some g → g < L.b1 ∧ g ≠ L.M ∧ L.vv.ownBlock ≠ some g ∧ g ∉ L.ab) : W'.ownsRow b e size v n xs := by
 refine ⟨h.1, ?_⟩
 rcases h.2 with h | ⟨g, cap, cur, h1, h2, h3, h4⟩
 · exact .inl h
 · have := hv g (by rw [h1]; rfl)
   exact .inr ⟨g, cap, cur, h1, h2, (c.block g this.1 this.2.1 this.2.2.1 this.2.2.2).trans h3, h4⟩
theorem Ag7 {gs : List Nat} {V : List Int} {i g : Nat} {t : Int} (h1 : gs[i]? = some g) (h2 : V[i]? = some t) : (asL gs V)[i]? = some (.slice (some ⟨g, 0, none⟩) (QU t).toNat (QU t).toNat) := by
 unfold asL
 rw [List.getElem?_map, (List.getElem?_zip_eq_some (z := (g, t))).2 ⟨h1, h2⟩]; rfl
theorem Agd {p : PgV} {args : List Int} {fuel : Int} {w w3 W1 W : World} {M B0 Bk PB : Nat} {kv : Value} {ks : List Value} (hbl : p.body.length ≤ 1000) (hok : p.ok w) (hf : 0 ≤ fuel ∧ fuel ≤ 10000)
 (hMw : w.heap.size ≤ M) (hPM : PB < M) (hMB : M < B0) (hBk : Bk = W1.heap.size) (hB0k : B0 ≤ Bk) (b3 : Below w.heap.size w w3) (hpm : MapB w3 PB KH) (hch : ChM M B0 w3 W1)
 (hkl : ks.length = p.body.length) (hown : W1.ownsRow B0 22 1 kv ks.length ks) (hks : ∀ (i : Nat) (v : Value), ks[i]? = some v → W1.ownsRow B0 3 1 v (kidsZ p.body (i : Int)).length (Qi (kidsZ p.body (i : Int))))
 (hK : K2 p M Bk PB fuel kv args W1 p.V.length W) : LoadR p args fuel.toNat w W (.returned (.pointer (some ⟨M, 0, none⟩))) := by
 obtain ⟨vv, av, gs, r, hgl, hvv, hav, hrows, hge, hnd, hne, hc2⟩ := hK.ex
 have hsz : Bk ≤ W.heap.size := by have := hc2.size; omega
 have hMlt : M < W.heap.size := r.lt
 have hrow : ∀ g ∈ gs, ∃ cs, Row W g 3 cs := by
  intro g hgm
  obtain ⟨i, hil, hi⟩ := List.getElem_of_mem hgm
  exact ⟨_, hrows i g _ (by rw [List.getElem?_eq_getElem hil, hi]) (List.getElem?_eq_getElem (by omega))⟩
 have hglt : ∀ g ∈ gs, g < W.heap.size := fun g hg => by obtain ⟨cs, hr⟩ := hrow g hg; exact hr.lt
 have own1 : W.ownsRow B0 22 1 kv ks.length ks := Aew hown hc2 (fun g e => ⟨by have := XQ hown e; omega, by have := QN hown e; omega⟩)
 have rows1 : ∀ (i : Nat) (v : Value), ks[i]? = some v → W.ownsRow B0 3 1 v (kidsZ p.body (i : Int)).length (Qi (kidsZ p.body (i : Int))) := fun i v hi => Aew (hks i v hi) hc2 (fun g e => ⟨by have := XQ (hks i v hi) e; omega, by have := QN (hks i v hi) e; omega⟩)
 have bW : Below w.heap.size w W := b3.trans ((hch.to_below (by omega) hMw).trans (hc2.to_below (by omega) hMw))
 have map1 : MapB W PB KH := by
  obtain ⟨arr, clock, he, hm⟩ := hpm
  exact ⟨arr, clock, (hc2.block PB (by omega) (by omega)).trans ((hch.block PB (by omega) (by omega)).trans he), hm⟩
 obtain ⟨ka, kcap, hkv, _⟩ := Xi own1
 obtain ⟨aa, acap, hava, _⟩ := Xi hav
 let L : Lay := ⟨p, M, ka, kcap, vv, aa, acap, gs, PB, fuel.toNat, w.heap.size, W.heap.size, fun X => Below w.heap.size w X ∧ MapB X PB KH ∧ X.ownsRow B0 22 1 kv ks.length ks ∧ (∀ (i : Nat) (v : Value), ks[i]? = some v → X.ownsRow B0 3 1 v (kidsZ p.body (i : Int)).length (Qi (kidsZ p.body (i : Int)))) ∧ X.ownsRow Bk 22 1 av p.V.length (asL gs p.V)⟩
 have hvlo : ∀ g, vv.ownBlock = some g → Bk ≤ g := fun g e => QN hvv e
 have hnew : LNew w.heap.size L := ⟨hMw, by show _ ≤ W.heap.size; omega, fun g e => by have := hvlo g e; omega, fun g hg => by have := hge g hg; omega⟩
 have low : ∀ g, g < Bk → g ≠ M → g < L.b1 ∧ g ≠ L.M ∧ L.vv.ownBlock ≠ some g ∧ g ∉ L.ab := fun g h1 h2 => ⟨by show g < W.heap.size; omega, h2, fun e => by have := hvlo g e; omega, fun e => by have := hge g e; omega⟩
 have hL : LOk L := by
  refine ⟨⟨fun X X' h c => ⟨h.1.trans (c.new hnew), ?_, AaV h.2.2.1 c (fun g e => low g (by have := XQ hown e; omega) (by have := QN hown e; omega)), fun i v hi => AaV (h.2.2.2.1 i v hi) c (fun g e => low g (by have := XQ (hks i v hi) e; omega) (by have := QN (hks i v hi) e; omega)), AaV h.2.2.2.2 c (fun g e => ?_)⟩, hMlt, fun g e => ⟨XQ hvv e, by have := hvlo g e; show g ≠ M; omega, fun hg => hne g hg e⟩, fun g hg => ⟨hglt g hg, by have := hge g hg; show g ≠ M; omega⟩, hnd, by show fuel.toNat ≤ 20000; omega, hbl, hMw, by show w.heap.size ≤ W.heap.size; omega⟩, fun X h q t hat => ?_, fun X h => hok.go h.1, fun X h i g hg => ?_, hgl, fun X h => h.2.1⟩
  · obtain ⟨arr, clock, he, hm⟩ := h.2.1
    have := low PB (by omega) (by omega)
    exact ⟨arr, clock, (c.block PB this.1 this.2.1 this.2.2.1 this.2.2.2).trans he, hm⟩
  · refine ⟨XQ hav e, by have := QN hav e; show g ≠ M; omega, fun e2 => ?_, fun hg => ?_⟩
    · rcases Za hvv hav (by decide) with h0 | h0
      · rw [h0] at e; cases e
      · exact h0 (e2.trans e.symm)
    · obtain ⟨cs, hr⟩ := hrow g hg
      exact Qz hav hr (by decide) e
  · have hql : q < ks.length := by have := hat.lt; show q < ks.length; rw [hkl]; exact this
    obtain ⟨A, c, hv, hrd⟩ := Xi (h.2.2.2.1 q _ (List.getElem?_eq_getElem hql))
    obtain ⟨ka', c', hkv', hrk⟩ := Xi h.2.2.1
    rw [hkv] at hkv'
    injection hkv' with e1 e2 e3
    subst e1
    obtain ⟨ad, had, hc⟩ := hrk q _ (List.getElem?_eq_getElem hql)
    have hz := hat.kidsZ
    refine ⟨ad, A, c, had, ?_, ?_⟩
    · rw [hc, hv, hz]; simp [JF]
    · rw [hz] at hrd; exact hrd
  · obtain ⟨aa', c', hav', hra⟩ := Xi h.2.2.2.2
    rw [hava] at hav'
    injection hav' with e1 e2 e3
    subst e1
    have hil : i < p.V.length := by have := (List.getElem?_eq_some_iff.1 hg).1; rw [← hgl]; exact this
    have ht := List.getElem?_eq_getElem hil
    obtain ⟨ad, had, hc⟩ := hra i _ (Ag7 hg ht)
    exact ⟨ad, _, had, ht, hc⟩
 refine ⟨L, rfl, rfl, rfl, hL, ⟨[], .slice none 0 0, .slice none 0 0, rfl, ?_, World.ownsRow_nil _ _ _ _, World.ownsRow_nil _ _ _ _, ?_, ?_, fun x hx => by simp at hx, List.Pairwise.nil, ⟨bW, map1, own1, rows1, hav⟩, Nat.le_refl _, Nat.zero_add _, Nat.le_refl _⟩, bW, hnew⟩
 · have hF : ((fuel.toNat : Nat) : Int) = fuel := by omega
   have e : L.cells (ZR p.V args fuel.toNat) (.slice none 0 0) (.slice none 0 0) = ZG p kv vv av fuel PB := by
    rw [hkv, hava, ← hkl.symm]
    unfold Lay.cells ZG
    simp only [L, hF, hgl]
    rfl
   rw [e]; exact r
 · have hl : (JU p.V args).length = p.V.length := by simp [JU]
   rw [List.take_of_length_le (by omega)] at hvv
   have := QI hvv (base' := w.heap.size) (by omega)
   show W.ownsRow w.heap.size 3 1 vv (JU p.V args).length (Qi (JU p.V args))
   rw [hl]; exact this
 · intro i g a hg ha
   have hil : i < p.V.length := by have := (List.getElem?_eq_some_iff.1 hg).1; rw [← hgl]; exact this
   have ht := List.getElem?_eq_getElem hil
   have := hrows i g _ hg ht
   simp only [ZR, EL, List.getElem?_map, ht, Option.map_some, Option.some.injEq] at ha
   rw [← ha]; exact this
structure K1 (p : PgV) (G M B0 PB : Nat) (F : Int) (w3 : World) (k : Nat) (W : World) : Prop where
 ex : ∃ kv ks, Row W M 125 (ZG p kv (.slice none 0 0) (.slice none 0 0) F PB) ∧ ks.length = k ∧ W.ownsRow B0 22 1 kv ks.length ks ∧ (∀ (i : Nat) (v : Value), ks[i]? = some v → W.ownsRow B0 3 1 v (kidsZ p.body (i : Int)).length (Qi (kidsZ p.body (i : Int)))) ∧ ChM M B0 w3 W
theorem Ae9 (p : PgV) (aa : Option Addr) (acap : Nat) (args : List Int) (fuel : Int) (w : World) (hbl : p.body.length ≤ 1000) (hn : args.length ≤ 1000) (hok : p.ok w) (hvars : JS p.params p.V) (hlen : (args.length : Int) = p.params) (hf : 0 ≤ fuel ∧ fuel ≤ 10000) (hra : Rd w aa (Qi args)) :
 Calls Tryz.prog 58 #[.agg p.cells, .slice aa args.length acap, .int .i64 fuel] w fun e w' => LoadR p args fuel.toNat w w' e := by
 have Hok := Lh hok
 have Hbl := Lh hbl
 have Hra := Lh hra
 have Hvars := Lh hvars
 have Hlen := Lh hlen
 have Hf := Lh hf
 have Hn := Lh hn
 clear hok hbl hra hvars hlen hf hn
 go_enter Tryz.func58, Tryz.ntmps58
 go_wp2_with (refine Qp _ _ rfl ?_)
 refine Stop.to ?_
 refine Qf rfl 25 _ rfl p.cells rfl ?_
 intro G w1 hG r1 b1
 replace b1 := (Below.refl w.heap.size w).trans (b1.mono hG)
 obtain ⟨S, hSd⟩ : ∃ S, S = (fun W => Row W G 25 p.cells ∧ Below w.heap.size w W) := ⟨_, rfl⟩
 have stS : St S := by rw [hSd]; infer_instance
 have S0 : Hid (∀ W, S W → Row W G 25 p.cells) := by show ∀ W, _; rw [hSd]; exact fun W h => h.1
 have S2 : Hid (∀ W, S W → Below w.heap.size w W) := by show ∀ W, _; rw [hSd]; exact fun W h => h.2
 have hS0 : S w1 := by rw [hSd]; exact ⟨r1, b1⟩
 clear hSd r1 b1
 go_wp2_with fail
 refine wp_region_held (S := S) (by kernel_rfl) ?_
 simp only [List.size_toArray, List.length_cons, List.length_nil, Nat.reduceAdd, Array.replicate_succ, Array.replicate_zero, List.push_toArray, List.nil_append, List.cons_append]
 show wpAnyH _ _ _ _ _ _ _ _ w1.drew
 have hS : S w1.drew := St.drew hS0
 clear hS0
 generalize w1.drew = wd at hS ⊢
 (refine tkH 0 _ rfl (J9 rfl 25 _ rfl G rfl 25 p.cells _ S0.out Tryz.underlying25 rfl (by kernel_rfl)) ?_; simp only [Act.put, Qa, Qb, Qc])
 (refine tkH 1 (.int .i64 fuel) rfl (Qd rfl (fun W hW => by (go_simp))) ?_; simp only [Act.put, Qa, Qb, Qc])
 (refine wpAnyH_all (rs := [2]) (by kernel_rfl) (by simp) (fun i hi => ?_); obtain rfl : i = 2 := by simpa using hi)
 refine Qe rfl rfl (fun K2 hK2 => ?_)
 refine Qx (w1 := wd) 120 #[] (by go_simp; try rfl) ?_
 refine (Afo wd).mono ?_
 rintro e wp ⟨PB, rfl, hps⟩
 refine ⟨_, rfl, hK2 _ _ ?_⟩
 clear hK2 K2
 have hPB : w.heap.size ≤ PB := Nat.le_trans (S2.out _ hS).size hps.lo
 replace hS := stS.go hS hps.below
 have hpm := hps.map
 clear hps
 simp only [Act.put, Qa, Qb, Qc]
 refine ⟨hS, ?_⟩
 (refine tkH 3 (.agg (ZG p (.slice none 0 0) (.slice none 0 0) (.slice none 0 0) fuel PB)) rfl (Qd rfl (fun W hW => by (go_simp; try rfl))) ?_; simp only [Act.put, Qa, Qb, Qc])
 (refine wpAnyH_all (rs := [4]) (by kernel_rfl) (by simp) (fun i hi => ?_); obtain rfl : i = 4 := by simpa using hi)
 refine Qe rfl rfl (fun K2 hK2 => ?_)
 refine Ad2 125 _ rfl (ZG p (.slice none 0 0) (.slice none 0 0) (.slice none 0 0) fuel PB) rfl ?_
 intro M w3 hM r3 b3
 refine hK2 _ _ ?_
 clear hK2 K2
 simp only [Act.put, Qa, Qb, Qc]
 have hMw : w.heap.size ≤ M := Nat.le_trans (S2.out _ hS).size hM
 have hGM : G < M := Nat.lt_of_lt_of_le (S0.out _ hS).lt hM
 have hPM : PB < M := Nat.lt_of_lt_of_le hpm.lt hM
 have hS3 := stS.go hS (b3.mono hM)
 have hpm3 := hpm.below (b3.mono hM) hpm.lt
 refine ⟨hS3, ?_⟩
 (refine tkH 5 (.pointer (some ⟨M, 0, none⟩)) rfl (Qd rfl (fun W hW => by (go_simp))) ?_; simp only [Act.put, Qa, Qb, Qc])
 refine wpAnyH_done (by kernel_rfl) ?_ _
 have R3 := Lh r3
 have G3 := Lh (S0.out _ hS3)
 have B3 := Lh (S2.out _ hS3)
 have P3 := Lh hpm3
 clear S0 S2 stS hS hS3 hpm hpm3 r3 b3 hM
 clear S wd wp w1
 have c2 := G3.out.cellv (i := 2) (v := .slice p.ba p.body.length p.bcap) rfl
 go_wp2_with fail
 obtain ⟨B0, hB0⟩ : ∃ B0, B0 = w3.heap.size := ⟨_, rfl⟩
 have hMB : M < B0 := by rw [hB0]; exact R3.out.lt
 have HB0 := Lh hB0
 clear hB0 c2
 go_loopw [8, 20] (fun _ i W => ∃ (k : Nat), i = .int .i64 (k : Int) ∧ k ≤ p.body.length ∧ Hid (K1 p G M B0 PB fuel w3 k W)) (fun _ i _ => p.body.length - (intOf i).toNat)
 case atStart => exact ⟨0, rfl, Nat.zero_le _, Lh ⟨.slice none 0 0, [], R3.out, rfl, World.ownsRow_nil _ _ _ _, fun i v h => by simp at h, ChM.refl _ _ _⟩⟩
 case round =>
  obtain ⟨k, rfl, hk, hK⟩ := hrel
  by_cases hlt : k < p.body.length
  · obtain ⟨kv, ks, r, hkl, hown, hks, hch⟩ := hK.out
    have hbb : Below w.heap.size w wr := B3.out.trans (hch.to_below (by omega) hMw)
    obtain ⟨J, hJd⟩ : ∃ J, J = (fun W => Row W M 125 (ZG p kv (.slice none 0 0) (.slice none 0 0) fuel PB) ∧ W.ownsRow B0 22 1 kv ks.length ks ∧ (∀ (i : Nat) (v : Value), ks[i]? = some v → W.ownsRow B0 3 1 v (kidsZ p.body (i : Int)).length (Qi (kidsZ p.body (i : Int)))) ∧ ChM M B0 w3 W ∧ Row W G 25 p.cells ∧ Below w.heap.size w W) := ⟨_, rfl⟩
    have stJ : St J := by
     rw [hJd]
     refine ⟨fun {A A'} h b => ⟨h.1.below b h.1.lt, Qs h.2.1 b, fun i v hi => Qs (h.2.2.1 i v hi) b, h.2.2.2.1.trans (.below (b.mono ?_)), h.2.2.2.2.1.below b h.2.2.2.2.1.lt, h.2.2.2.2.2.trans (b.mono h.2.2.2.2.2.size)⟩⟩
     have := h.2.2.2.1.size; have := HB0.out; omega
    have hJ : J wr := by rw [hJd]; exact ⟨r, hown, hks, hch, G3.out.chm hch (by omega) (by omega), hbb⟩
    have J0 : Hid (∀ W, J W → Row W M 125 (ZG p kv (.slice none 0 0) (.slice none 0 0) fuel PB)) := by show ∀ W, _; rw [hJd]; exact fun W h => h.1
    have J1 : Hid (∀ W, J W → W.ownsRow B0 22 1 kv ks.length ks) := by show ∀ W, _; rw [hJd]; exact fun W h => h.2.1
    have J2 : Hid (∀ W, J W → ∀ (i : Nat) (v : Value), ks[i]? = some v → W.ownsRow B0 3 1 v (kidsZ p.body (i : Int)).length (Qi (kidsZ p.body (i : Int)))) := by show ∀ W, _; rw [hJd]; exact fun W h => h.2.2.1
    have J3 : Hid (∀ W, J W → ChM M B0 w3 W) := by show ∀ W, _; rw [hJd]; exact fun W h => h.2.2.2.1
    have J4 : Hid (∀ W, J W → Row W G 25 p.cells) := by show ∀ W, _; rw [hJd]; exact fun W h => h.2.2.2.2.1
    have J5 : Hid (∀ W, J W → Below w.heap.size w W) := by show ∀ W, _; rw [hJd]; exact fun W h => h.2.2.2.2.2
    have Hkl := Lh hkl
    obtain ⟨i0, hi0, hz0, hz1, hz2⟩ := info_parts Ahq
    clear hJd r hown hks hch hbb hK hkl
    obtain ⟨S, hSd⟩ : ∃ S, S = (fun W => Row W G 25 p.cells) := ⟨_, rfl⟩
    have S0 : Hid (∀ W, S W → Row W G 25 p.cells) := by show ∀ W, _; rw [hSd]; exact fun W h => h
    have S1 : Hid (∀ W, Row W G 25 p.cells → S W) := by show ∀ W, _; rw [hSd]; exact fun W h => h
    clear hSd
    go_wp2_with fail
    refine wp_region_held (S := S) (by kernel_rfl) ?_
    simp only [List.size_toArray, List.length_cons, List.length_nil, Nat.reduceAdd, Array.replicate_succ, Array.replicate_zero, List.push_toArray, List.nil_append, List.cons_append]
    show wpAnyH _ _ _ _ _ _ _ _ wr.drew
    have hJ1 : J wr.drew := St.drew hJ
    clear hJ
    generalize wr.drew = wd at hJ1 ⊢
    have hS1 : S wd := S1.out _ (J4.out _ hJ1)
    (refine tkH 0 (.pointer (some ⟨M, 0, none⟩)) rfl (Qd rfl (fun W hW => by (go_simp))) ?_; simp only [Act.put, Qa, Qb, Qc])
    (refine tkH 1 (.pointer (some ⟨M, 0, none⟩)) rfl (Qd rfl (fun W hW => by (go_simp))) ?_; simp only [Act.put, Qa, Qb, Qc])
    (refine tkH 2 (.pointer (some ⟨M, 0, none⟩)) rfl (Qd rfl (fun W hW => by (go_simp))) ?_; simp only [Act.put, Qa, Qb, Qc])
    (refine tkH 3 (.pointer (some ⟨M, 3, none⟩)) rfl (Qd rfl (fun W hW => by (go_simp))) ?_; simp only [Act.put, Qa, Qb, Qc])
    (refine tkH 5 (.pointer (some ⟨G, 2, none⟩)) rfl (Qd rfl (fun W hW => by (go_simp))) ?_; simp only [Act.put, Qa, Qb, Qc])
    (refine tkH 6 (.slice p.ba p.body.length p.bcap) rfl (Qd rfl (fun W hW => by ((have h := (S0.out W hW).cellv (i := 2) (v := .slice p.ba p.body.length p.bcap) rfl; go_simp)))) ?_; simp only [Act.put, Qa, Qb, Qc])
    (refine tkH 7 (.int .i64 (k : Int)) rfl (Qd rfl (fun W hW => by (go_simp))) ?_; simp only [Act.put, Qa, Qb, Qc])
    refine wpAnyH_all (rs := [4, 8]) (by kernel_rfl) (by simp) (fun i hi => ?_)
    have hi2 : i = 4 ∨ i = 8 := by simpa using hi
    rcases hi2 with rfl | rfl
    · refine Qe rfl rfl (fun K2 hK2 => ?_)
      refine Qj kv (w1 := wd) (by have h := (J0.out _ hJ1).cellv (i := 3) (v := kv) rfl; go_simp) ?_
      refine hK2 _ _ ?_
      clear hK2 K2
      simp only [Act.put, Qa, Qb, Qc]
      refine ⟨hS1, ?_⟩
      (refine wpAnyH_all (rs := [8]) (by kernel_rfl) (by simp) (fun i hi => ?_); obtain rfl : i = 8 := by simpa using hi)
      refine Qe rfl rfl (fun K2 hK2 => ?_)
      refine Qx (w1 := wd) 121 #[.slice p.ba p.body.length p.bcap, .int .i64 (k : Int)] (by go_simp; try rfl) ?_
      refine (XN p.ba p.bcap p.body (k : Int) wd (Hok.out.go (J5.out _ hJ1)).brd Hbl.out).mono ?_
      rintro e w4 ⟨v, rfl, hv4, b4⟩
      obtain ⟨vA, vn, vc, rfl⟩ := VH hv4
      refine ⟨_, rfl, hK2 _ _ ?_⟩
      clear hK2 K2
      have hJ4 : J w4 := stJ.go hJ1 b4
      have hS4 : S w4 := S1.out _ (J4.out _ hJ4)
      have hov := Jl hv4
      have Hov := Lh hov
      have hvB := QI hv4 (by have := (J3.out _ hJ1).size; have := HB0.out; omega : B0 ≤ (wd).heap.size)
      have HvB := Lh hvB
      clear hv4 hvB hov b4
      simp only [Act.put, Qa, Qb, Qc]
      refine ⟨hS4, ?_⟩
      (refine wpAnyH_all (rs := [9]) (by kernel_rfl) (by simp) (fun i hi => ?_); obtain rfl : i = 9 := by simpa using hi)
      refine Qe rfl rfl (fun K2 hK2 => ?_)
      refine Qj (.slice (some ⟨w4.heap.size, 0, none⟩) 1 1) (w1 := w4.alloc (.cells #[.slice vA vn vc] 22)) (by have h := Hov.out; go_simp; try rfl) ?_
      refine hK2 _ _ ?_
      clear hK2 K2
      have hJ5 : J (w4.alloc (.cells #[.slice vA vn vc] 22)) := stJ.go hJ4 ((Below.refl _ _).alloc (Nat.le_refl _) _)
      have hS5 : S (w4.alloc (.cells #[.slice vA vn vc] 22)) := S1.out _ (J4.out _ hJ5)
      have hv5 := HvB.out.alloc (.cells #[.slice vA vn vc] 22)
      have Hv5 := Lh hv5
      clear hv5
      simp only [Act.put, Qa, Qb, Qc]
      refine ⟨hS5, ?_⟩
      (refine wpAnyH_all (rs := [10]) (by kernel_rfl) (by simp) (fun i hi => ?_); obtain rfl : i = 10 := by simpa using hi)
      refine Qe rfl rfl (fun K2 hK2 => ?_)
      have hsz5 : B0 ≤ (w4.alloc (.cells #[.slice vA vn vc] 22)).heap.size := by have := (J3.out _ hJ5).size; have := HB0.out; omega
      refine ZU (.tmp 27) (.tmp 32) 46 rfl B0 22 i0 (.slice none 0 0) 1 24 Tryz.underlying46 hi0 hz0 hz1 hz2 rfl (by decide) kv ks.length ks rfl (J1.out _ hJ5) ⟨w4.heap.size, 0, none⟩ 1 1 [.slice vA vn vc] rfl rfl (cell_one_new _ _ _) (by intro u hu; rw [List.mem_singleton.1 hu]; exact Hov.out) (by have := Hkl.out; have := Hbl.out; unfold maxLen; omega) (by have := Hkl.out; have := Hbl.out; omega) hsz5 ?_
      intro kv' w6 hown6 hg6 _
      refine hK2 _ _ ?_
      clear hK2 K2
      have o5 := J1.out _ hJ5
      have hG6 := (J4.out _ hJ5).grown hg6 (fun e => by have := QN o5 e; omega)
      have hM6 := (J0.out _ hJ5).grown hg6 (Qz o5 (J0.out _ hJ5) (by decide))
      have hv6 := Q5 Hv5.out hg6 (Za Hv5.out o5 (by decide))
      have hk6 : ∀ (i : Nat) (u : Value), ks[i]? = some u → w6.ownsRow B0 3 1 u (kidsZ p.body (i : Int)).length (Qi (kidsZ p.body (i : Int))) := fun i u hi => Q5 (J2.out _ hJ5 i u hi) hg6 (Za (J2.out _ hJ5 i u hi) o5 (by decide))
      have hc6 := (J3.out _ hJ5).trans (.grown hg6 hsz5 (fun k e => QN o5 e))
      have hov6 := Jl hown6
      have HG6 := Lh hG6
      have HM6 := Lh hM6
      have Hv6 := Lh hv6
      have Hk6 := Lh hk6
      have Hc6 := Lh hc6
      have Ho6 := Lh hown6
      simp only [Act.put, Qa, Qb, Qc]
      refine ⟨S1.out _ hG6, ?_⟩
      have hS6 : S w6 := S1.out _ hG6
      clear hG6 hM6 hv6 hk6 hc6 hown6 hg6 o5 hJ5 hS5 hJ4 hS4 hJ1 hS1 Hv5 HvB
      (refine tkH 11 (.pointer (some ⟨M, 0, none⟩)) rfl (Qd rfl (fun W hW => by (go_simp))) ?_; simp only [Act.put, Qa, Qb, Qc])
      (refine tkH 12 (.pointer (some ⟨M, 3, none⟩)) rfl (Qd rfl (fun W hW => by (go_simp))) ?_; simp only [Act.put, Qa, Qb, Qc])
      (refine wpAnyH_all (rs := [13]) (by kernel_rfl) (by simp) (fun i hi => ?_); obtain rfl : i = 13 := by simpa using hi)
      refine Qe rfl rfl (fun K2 hK2 => ?_)
      refine Z1 46 (.tmp 35) (.tmp 33) rfl M 3 rfl _ rfl [kv'] (by cases kv' <;> first | rfl | cases hov6) 125 _ (ZG p kv' (.slice none 0 0) (.slice none 0 0) fuel PB) HM6.out (by kernel_rfl) (by show 3 + 1 ≤ 14; omega) (by simpa using hov6) rfl ?_
      intro w7 r7 o7
      refine hK2 _ _ ?_
      clear hK2 K2
      simp only [Act.put, Qa, Qb, Qc]
      refine ⟨S1.out _ (HG6.out.only o7 (by omega)), ?_⟩
      refine wpAnyH_done (by kernel_rfl) ?_ _
      have hK7 : K1 p G M B0 PB fuel w3 (k + 1) w7 := by
       have ne : ∀ {e : TypeId} {u : Value} {n : Nat} {xs : List Value}, w6.ownsRow B0 e 1 u n xs → w7.ownsRow B0 e 1 u n xs := fun h => QA h o7 (fun e => by have := QN h e; omega)
       refine ⟨kv', ks ++ [.slice vA vn vc], r7, by simp [Hkl.out], by simpa using ne Ho6.out, fun i u hi => ?_, Hc6.out.trans (.only o7)⟩
       rcases Nat.lt_trichotomy i ks.length with hl | hl | hl
       · rw [List.getElem?_append_left hl] at hi; exact ne (Hk6.out i u hi)
       · subst hl
         rw [List.getElem?_append_right (Nat.le_refl _), Nat.sub_self] at hi
         injection hi with hi
         subst hi
         rw [Hkl.out]
         exact ne Hv6.out
       · rw [List.getElem?_append_right (by omega)] at hi
         have := (List.getElem?_eq_some_iff.1 hi).1
         simp at this; omega
      have HK7 := Lh hK7
      clear hK7 r7 o7
      have hbl := Hbl.out
      go_wp2_with fail
      go_roundw
      case rel => exact ⟨k + 1, by go_num, by omega, HK7⟩
      case measure => simp [intOf]; omega
    · refine Qe rfl rfl (fun K2 hK2 => ?_)
      refine Qx (w1 := wd) 121 #[.slice p.ba p.body.length p.bcap, .int .i64 (k : Int)] (by go_simp; try rfl) ?_
      refine (XN p.ba p.bcap p.body (k : Int) wd (Hok.out.go (J5.out _ hJ1)).brd Hbl.out).mono ?_
      rintro e w4 ⟨v, rfl, hv4, b4⟩
      obtain ⟨vA, vn, vc, rfl⟩ := VH hv4
      refine ⟨_, rfl, hK2 _ _ ?_⟩
      clear hK2 K2
      have hJ4 : J w4 := stJ.go hJ1 b4
      have hS4 : S w4 := S1.out _ (J4.out _ hJ4)
      have hov := Jl hv4
      have Hov := Lh hov
      have hvB := QI hv4 (by have := (J3.out _ hJ1).size; have := HB0.out; omega : B0 ≤ (wd).heap.size)
      have HvB := Lh hvB
      clear hv4 hvB hov b4
      simp only [Act.put, Qa, Qb, Qc]
      refine ⟨hS4, ?_⟩
      refine wpAnyH_all (rs := [4, 9]) (by kernel_rfl) (by simp) (fun i hi => ?_)
      have hi2 : i = 4 ∨ i = 9 := by simpa using hi
      rcases hi2 with rfl | rfl
      · refine Qe rfl rfl (fun K2 hK2 => ?_)
        refine Qj kv (w1 := w4) (by have h := (J0.out _ hJ4).cellv (i := 3) (v := kv) rfl; go_simp) ?_
        refine hK2 _ _ ?_
        clear hK2 K2
        simp only [Act.put, Qa, Qb, Qc]
        refine ⟨hS4, ?_⟩
        (refine wpAnyH_all (rs := [9]) (by kernel_rfl) (by simp) (fun i hi => ?_); obtain rfl : i = 9 := by simpa using hi)
        refine Qe rfl rfl (fun K2 hK2 => ?_)
        refine Qj (.slice (some ⟨w4.heap.size, 0, none⟩) 1 1) (w1 := w4.alloc (.cells #[.slice vA vn vc] 22)) (by have h := Hov.out; go_simp; try rfl) ?_
        refine hK2 _ _ ?_
        clear hK2 K2
        have hJ5 : J (w4.alloc (.cells #[.slice vA vn vc] 22)) := stJ.go hJ4 ((Below.refl _ _).alloc (Nat.le_refl _) _)
        have hS5 : S (w4.alloc (.cells #[.slice vA vn vc] 22)) := S1.out _ (J4.out _ hJ5)
        have hv5 := HvB.out.alloc (.cells #[.slice vA vn vc] 22)
        have Hv5 := Lh hv5
        clear hv5
        simp only [Act.put, Qa, Qb, Qc]
        refine ⟨hS5, ?_⟩
        (refine wpAnyH_all (rs := [10]) (by kernel_rfl) (by simp) (fun i hi => ?_); obtain rfl : i = 10 := by simpa using hi)
        refine Qe rfl rfl (fun K2 hK2 => ?_)
        have hsz5 : B0 ≤ (w4.alloc (.cells #[.slice vA vn vc] 22)).heap.size := by have := (J3.out _ hJ5).size; have := HB0.out; omega
        refine ZU (.tmp 27) (.tmp 32) 46 rfl B0 22 i0 (.slice none 0 0) 1 24 Tryz.underlying46 hi0 hz0 hz1 hz2 rfl (by decide) kv ks.length ks rfl (J1.out _ hJ5) ⟨w4.heap.size, 0, none⟩ 1 1 [.slice vA vn vc] rfl rfl (cell_one_new _ _ _) (by intro u hu; rw [List.mem_singleton.1 hu]; exact Hov.out) (by have := Hkl.out; have := Hbl.out; unfold maxLen; omega) (by have := Hkl.out; have := Hbl.out; omega) hsz5 ?_
        intro kv' w6 hown6 hg6 _
        refine hK2 _ _ ?_
        clear hK2 K2
        have o5 := J1.out _ hJ5
        have hG6 := (J4.out _ hJ5).grown hg6 (fun e => by have := QN o5 e; omega)
        have hM6 := (J0.out _ hJ5).grown hg6 (Qz o5 (J0.out _ hJ5) (by decide))
        have hv6 := Q5 Hv5.out hg6 (Za Hv5.out o5 (by decide))
        have hk6 : ∀ (i : Nat) (u : Value), ks[i]? = some u → w6.ownsRow B0 3 1 u (kidsZ p.body (i : Int)).length (Qi (kidsZ p.body (i : Int))) := fun i u hi => Q5 (J2.out _ hJ5 i u hi) hg6 (Za (J2.out _ hJ5 i u hi) o5 (by decide))
        have hc6 := (J3.out _ hJ5).trans (.grown hg6 hsz5 (fun k e => QN o5 e))
        have hov6 := Jl hown6
        have HG6 := Lh hG6
        have HM6 := Lh hM6
        have Hv6 := Lh hv6
        have Hk6 := Lh hk6
        have Hc6 := Lh hc6
        have Ho6 := Lh hown6
        simp only [Act.put, Qa, Qb, Qc]
        refine ⟨S1.out _ hG6, ?_⟩
        have hS6 : S w6 := S1.out _ hG6
        clear hG6 hM6 hv6 hk6 hc6 hown6 hg6 o5 hJ5 hS5 hJ4 hS4 hJ1 hS1 Hv5 HvB
        (refine tkH 11 (.pointer (some ⟨M, 0, none⟩)) rfl (Qd rfl (fun W hW => by (go_simp))) ?_; simp only [Act.put, Qa, Qb, Qc])
        (refine tkH 12 (.pointer (some ⟨M, 3, none⟩)) rfl (Qd rfl (fun W hW => by (go_simp))) ?_; simp only [Act.put, Qa, Qb, Qc])
        (refine wpAnyH_all (rs := [13]) (by kernel_rfl) (by simp) (fun i hi => ?_); obtain rfl : i = 13 := by simpa using hi)
        refine Qe rfl rfl (fun K2 hK2 => ?_)
        refine Z1 46 (.tmp 35) (.tmp 33) rfl M 3 rfl _ rfl [kv'] (by cases kv' <;> first | rfl | cases hov6) 125 _ (ZG p kv' (.slice none 0 0) (.slice none 0 0) fuel PB) HM6.out (by kernel_rfl) (by show 3 + 1 ≤ 14; omega) (by simpa using hov6) rfl ?_
        intro w7 r7 o7
        refine hK2 _ _ ?_
        clear hK2 K2
        simp only [Act.put, Qa, Qb, Qc]
        refine ⟨S1.out _ (HG6.out.only o7 (by omega)), ?_⟩
        refine wpAnyH_done (by kernel_rfl) ?_ _
        have hK7 : K1 p G M B0 PB fuel w3 (k + 1) w7 := by
         have ne : ∀ {e : TypeId} {u : Value} {n : Nat} {xs : List Value}, w6.ownsRow B0 e 1 u n xs → w7.ownsRow B0 e 1 u n xs := fun h => QA h o7 (fun e => by have := QN h e; omega)
         refine ⟨kv', ks ++ [.slice vA vn vc], r7, by simp [Hkl.out], by simpa using ne Ho6.out, fun i u hi => ?_, Hc6.out.trans (.only o7)⟩
         rcases Nat.lt_trichotomy i ks.length with hl | hl | hl
         · rw [List.getElem?_append_left hl] at hi; exact ne (Hk6.out i u hi)
         · subst hl
           rw [List.getElem?_append_right (Nat.le_refl _), Nat.sub_self] at hi
           injection hi with hi
           subst hi
           rw [Hkl.out]
           exact ne Hv6.out
         · rw [List.getElem?_append_right (by omega)] at hi
           have := (List.getElem?_eq_some_iff.1 hi).1
           simp at this; omega
        have HK7 := Lh hK7
        clear hK7 r7 o7
        have hbl := Hbl.out
        go_wp2_with fail
        go_roundw
        case rel => exact ⟨k + 1, by go_num, by omega, HK7⟩
        case measure => simp [intOf]; omega
      · refine Qe rfl rfl (fun K2 hK2 => ?_)
        refine Qj (.slice (some ⟨w4.heap.size, 0, none⟩) 1 1) (w1 := w4.alloc (.cells #[.slice vA vn vc] 22)) (by have h := Hov.out; go_simp; try rfl) ?_
        refine hK2 _ _ ?_
        clear hK2 K2
        have hJ5 : J (w4.alloc (.cells #[.slice vA vn vc] 22)) := stJ.go hJ4 ((Below.refl _ _).alloc (Nat.le_refl _) _)
        have hS5 : S (w4.alloc (.cells #[.slice vA vn vc] 22)) := S1.out _ (J4.out _ hJ5)
        have hv5 := HvB.out.alloc (.cells #[.slice vA vn vc] 22)
        have Hv5 := Lh hv5
        clear hv5
        simp only [Act.put, Qa, Qb, Qc]
        refine ⟨hS5, ?_⟩
        (refine wpAnyH_all (rs := [4]) (by kernel_rfl) (by simp) (fun i hi => ?_); obtain rfl : i = 4 := by simpa using hi)
        refine Qe rfl rfl (fun K2 hK2 => ?_)
        refine Qj kv (w1 := (w4.alloc (.cells #[.slice vA vn vc] 22))) (by have h := (J0.out _ hJ5).cellv (i := 3) (v := kv) rfl; go_simp) ?_
        refine hK2 _ _ ?_
        clear hK2 K2
        simp only [Act.put, Qa, Qb, Qc]
        refine ⟨hS5, ?_⟩
        (refine wpAnyH_all (rs := [10]) (by kernel_rfl) (by simp) (fun i hi => ?_); obtain rfl : i = 10 := by simpa using hi)
        refine Qe rfl rfl (fun K2 hK2 => ?_)
        have hsz5 : B0 ≤ (w4.alloc (.cells #[.slice vA vn vc] 22)).heap.size := by have := (J3.out _ hJ5).size; have := HB0.out; omega
        refine ZU (.tmp 27) (.tmp 32) 46 rfl B0 22 i0 (.slice none 0 0) 1 24 Tryz.underlying46 hi0 hz0 hz1 hz2 rfl (by decide) kv ks.length ks rfl (J1.out _ hJ5) ⟨w4.heap.size, 0, none⟩ 1 1 [.slice vA vn vc] rfl rfl (cell_one_new _ _ _) (by intro u hu; rw [List.mem_singleton.1 hu]; exact Hov.out) (by have := Hkl.out; have := Hbl.out; unfold maxLen; omega) (by have := Hkl.out; have := Hbl.out; omega) hsz5 ?_
        intro kv' w6 hown6 hg6 _
        refine hK2 _ _ ?_
        clear hK2 K2
        have o5 := J1.out _ hJ5
        have hG6 := (J4.out _ hJ5).grown hg6 (fun e => by have := QN o5 e; omega)
        have hM6 := (J0.out _ hJ5).grown hg6 (Qz o5 (J0.out _ hJ5) (by decide))
        have hv6 := Q5 Hv5.out hg6 (Za Hv5.out o5 (by decide))
        have hk6 : ∀ (i : Nat) (u : Value), ks[i]? = some u → w6.ownsRow B0 3 1 u (kidsZ p.body (i : Int)).length (Qi (kidsZ p.body (i : Int))) := fun i u hi => Q5 (J2.out _ hJ5 i u hi) hg6 (Za (J2.out _ hJ5 i u hi) o5 (by decide))
        have hc6 := (J3.out _ hJ5).trans (.grown hg6 hsz5 (fun k e => QN o5 e))
        have hov6 := Jl hown6
        have HG6 := Lh hG6
        have HM6 := Lh hM6
        have Hv6 := Lh hv6
        have Hk6 := Lh hk6
        have Hc6 := Lh hc6
        have Ho6 := Lh hown6
        simp only [Act.put, Qa, Qb, Qc]
        refine ⟨S1.out _ hG6, ?_⟩
        have hS6 : S w6 := S1.out _ hG6
        clear hG6 hM6 hv6 hk6 hc6 hown6 hg6 o5 hJ5 hS5 hJ4 hS4 hJ1 hS1 Hv5 HvB
        (refine tkH 11 (.pointer (some ⟨M, 0, none⟩)) rfl (Qd rfl (fun W hW => by (go_simp))) ?_; simp only [Act.put, Qa, Qb, Qc])
        (refine tkH 12 (.pointer (some ⟨M, 3, none⟩)) rfl (Qd rfl (fun W hW => by (go_simp))) ?_; simp only [Act.put, Qa, Qb, Qc])
        (refine wpAnyH_all (rs := [13]) (by kernel_rfl) (by simp) (fun i hi => ?_); obtain rfl : i = 13 := by simpa using hi)
        refine Qe rfl rfl (fun K2 hK2 => ?_)
        refine Z1 46 (.tmp 35) (.tmp 33) rfl M 3 rfl _ rfl [kv'] (by cases kv' <;> first | rfl | cases hov6) 125 _ (ZG p kv' (.slice none 0 0) (.slice none 0 0) fuel PB) HM6.out (by kernel_rfl) (by show 3 + 1 ≤ 14; omega) (by simpa using hov6) rfl ?_
        intro w7 r7 o7
        refine hK2 _ _ ?_
        clear hK2 K2
        simp only [Act.put, Qa, Qb, Qc]
        refine ⟨S1.out _ (HG6.out.only o7 (by omega)), ?_⟩
        refine wpAnyH_done (by kernel_rfl) ?_ _
        have hK7 : K1 p G M B0 PB fuel w3 (k + 1) w7 := by
         have ne : ∀ {e : TypeId} {u : Value} {n : Nat} {xs : List Value}, w6.ownsRow B0 e 1 u n xs → w7.ownsRow B0 e 1 u n xs := fun h => QA h o7 (fun e => by have := QN h e; omega)
         refine ⟨kv', ks ++ [.slice vA vn vc], r7, by simp [Hkl.out], by simpa using ne Ho6.out, fun i u hi => ?_, Hc6.out.trans (.only o7)⟩
         rcases Nat.lt_trichotomy i ks.length with hl | hl | hl
         · rw [List.getElem?_append_left hl] at hi; exact ne (Hk6.out i u hi)
         · subst hl
           rw [List.getElem?_append_right (Nat.le_refl _), Nat.sub_self] at hi
           injection hi with hi
           subst hi
           rw [Hkl.out]
           exact ne Hv6.out
         · rw [List.getElem?_append_right (by omega)] at hi
           have := (List.getElem?_eq_some_iff.1 hi).1
           simp at this; omega
        have HK7 := Lh hK7
        clear hK7 r7 o7
        have hbl := Hbl.out
        go_wp2_with fail
        go_roundw
        case rel => exact ⟨k + 1, by go_num, by omega, HK7⟩
        case measure => simp [intOf]; omega
  · obtain rfl : k = p.body.length := by omega
    clear hlt hk
    have c1 : wr.cell? ⟨G, 1, none⟩ = some (.slice p.va p.V.length p.vcap) := by
     obtain ⟨_, _, _, _, _, _, hch⟩ := hK.out
     exact (G3.out.chm hch (by omega) (by omega)).cellv (i := 1) rfl
    go_wp2_with fail
    obtain ⟨W1, rfl⟩ : ∃ W1, W1 = wr := ⟨_, rfl⟩
    obtain ⟨kv, ks, r, hkl, hown, hks, hch⟩ := hK.out
    have R1 := Lh r
    have Hkl := Lh hkl
    have Hown := Lh hown
    have Hks := Lh hks
    have Hch := Lh hch
    obtain ⟨Bk, hBk⟩ : ∃ Bk, Bk = W1.heap.size := ⟨_, rfl⟩
    have HBk := Lh hBk
    have hB0k : B0 ≤ Bk := by have := hch.size; have := HB0.out; omega
    have hVl : p.V.length ≤ 12 := Hvars.out.2.2.1
    clear hK c1 r hkl hown hks hch hBk
    go_loopw [9, 10, 11, 40] (fun _ _ _ i W => ∃ (k : Nat), i = .int .i64 (k : Int) ∧ k ≤ p.V.length ∧ Hid (K2 p M Bk PB fuel kv args W1 k W)) (fun _ _ _ i _ => p.V.length - (intOf i).toNat)
    case atStart => exact ⟨0, rfl, Nat.zero_le _, Lh ⟨.slice none 0 0, .slice none 0 0, [], R1.out, rfl, by simpa [Qi] using World.ownsRow_nil W1 Bk 3 1, by simpa [asL] using World.ownsRow_nil W1 Bk 22 1, fun i g t h => by simp at h, fun g h => by simp at h, List.nodup_nil, fun g h => by simp at h, ChM.refl _ _ _⟩⟩
    case round =>
     obtain ⟨k, rfl, hk, hK⟩ := hrel
     by_cases hlt : k < p.V.length
     · obtain ⟨vv, av, gs, r, hgl, hvv, hav, hrows, hge, hnd, hne, hch⟩ := hK.out
       obtain ⟨t, ht⟩ : ∃ t, p.V[k]? = some t := ⟨_, List.getElem?_eq_getElem hlt⟩
       have hbw : Below w.heap.size w wr := B3.out.trans ((Hch.out.to_below (by omega) hMw).trans (hch.to_below (by omega) hMw))
       obtain ⟨vd, hvd, cv⟩ := Zf (Hok.out.go hbw).vrd ht
       have hsz1 : Bk ≤ wr.heap.size := by have := hch.size; have := HBk.out; omega
       have hti : InI t := Hok.out.vin t (List.mem_of_getElem? ht)
       obtain ⟨J, hJd⟩ : ∃ J, J = (fun W => Row W M 125 (ZG p kv vv av fuel PB) ∧ W.ownsRow Bk 3 1 vv k (Qi ((JU p.V args).take k)) ∧ W.ownsRow Bk 22 1 av k (asL gs p.V) ∧ (∀ (i g : Nat) (t : Int), gs[i]? = some g → p.V[i]? = some t → Row W g 3 (Qi (List.replicate (QU t).toNat 0)).toArray) ∧ ChM M Bk W1 W ∧ Bk ≤ W.heap.size) := ⟨_, rfl⟩
       have stJ : St J := by
        rw [hJd]
        exact ⟨fun {A A'} h b => ⟨h.1.below b h.1.lt, Qs h.2.1 b, Qs h.2.2.1 b, fun i g t h1 h2 => (h.2.2.2.1 i g t h1 h2).below b (h.2.2.2.1 i g t h1 h2).lt, h.2.2.2.2.1.trans (.below (b.mono h.2.2.2.2.2)), Nat.le_trans h.2.2.2.2.2 b.size⟩⟩
       have hJ : J wr := by rw [hJd]; exact ⟨r, hvv, hav, hrows, hch, hsz1⟩
       have J0 : Hid (∀ W, J W → Row W M 125 (ZG p kv vv av fuel PB)) := by show ∀ W, _; rw [hJd]; exact fun W h => h.1
       have J1 : Hid (∀ W, J W → W.ownsRow Bk 3 1 vv k (Qi ((JU p.V args).take k))) := by show ∀ W, _; rw [hJd]; exact fun W h => h.2.1
       have J2 : Hid (∀ W, J W → W.ownsRow Bk 22 1 av k (asL gs p.V)) := by show ∀ W, _; rw [hJd]; exact fun W h => h.2.2.1
       have J3 : Hid (∀ W, J W → ∀ (i g : Nat) (t : Int), gs[i]? = some g → p.V[i]? = some t → Row W g 3 (Qi (List.replicate (QU t).toNat 0)).toArray) := by show ∀ W, _; rw [hJd]; exact fun W h => h.2.2.2.1
       have J4 : Hid (∀ W, J W → ChM M Bk W1 W) := by show ∀ W, _; rw [hJd]; exact fun W h => h.2.2.2.2.1
       have J5 : Hid (∀ W, J W → Bk ≤ W.heap.size) := by show ∀ W, _; rw [hJd]; exact fun W h => h.2.2.2.2.2
       have Hgl := Lh hgl
       have Hge := Lh hge
       have Hnd := Lh hnd
       have Hne := Lh hne
       have Ht := Lh ht
       obtain ⟨i0, hi0, hz0, hz1, hz2⟩ := info_parts E7
       have c4 := r.cellv (i := 4) (v := vv) rfl
       have hra := Hra.out.go (hbw.mono (Nat.le_refl _))
       clear hJd r hvv hav hrows hch hsz1 hK hgl hge hnd hne ht hbw
       by_cases hka : k < args.length
       · obtain ⟨ad, had, ca⟩ := Zf hra (List.getElem?_eq_getElem hka)
         have hdec : decide ((k : Int) < (args.length : Int)) = true := by simp; omega
         have hx : args.getD k 0 = args[k] := by simp [List.getD, List.getElem?_eq_getElem hka]
         rw [← hx] at ca
         obtain ⟨xk, hxk⟩ : ∃ xk, args.getD k 0 = xk := ⟨_, rfl⟩
         rw [hxk] at ca
         have Hxk := Lh hxk
         clear hx hxk
         rw [hvd, had]
         go_wp2_with (at_builtin; refine Ad9 ?_)
         refine Stop.to ?_
         refine (wpList_append_own_at _ rfl (.tmp 57) (.tmp 59) 22 rfl Bk 3 i0 (.int .i64 0) 1 8 Tryz.underlying22 hi0 hz0 hz1 hz2 rfl (by decide) vv k _ rfl (Qs (J1.out _ hJ) ((Below.refl _ _).alloc (Nat.le_refl _) _)) ⟨wr.heap.size, 0, none⟩ 1 1 [.int .i64 xk] rfl rfl (cell_one_new _ _ _) (by simp [Value.oneCell']) (by unfold maxLen; omega) (by omega) (by have := J5.out _ hJ; simp; omega) ?_)
         intro vv' W2 hown hg _ hat
         have hJa : J (wr.alloc (.cells #[.int .i64 xk] 3)) := stJ.go hJ ((Below.refl _ _).alloc (Nat.le_refl _) _)
         have rM2 := (J0.out _ hJa).grown hg (Qz (J1.out _ hJa) (J0.out _ hJa) (by decide))
         have av2 := Q5 (J2.out _ hJa) hg (Za (J2.out _ hJa) (J1.out _ hJa) (by decide))
         have rows2 : ∀ (i g : Nat) (t : Int), gs[i]? = some g → p.V[i]? = some t → Row W2 g 3 (Qi (List.replicate (QU t).toNat 0)).toArray := fun i g t h1 h2 => (J3.out _ hJa i g t h1 h2).grown hg (Hne.out g (List.mem_of_getElem? h1))
         have ch2 := (J4.out _ hJa).trans (.grown hg (J5.out _ hJa) (fun k e => QN (J1.out _ hJa) e))
         have sz2 : Bk ≤ W2.heap.size := Nat.le_trans (J5.out _ hJa) hg.size
         have hne2 : ∀ g ∈ gs, vv'.ownBlock ≠ some g := by
          intro g hgm
          rcases hat with e | e
          · rw [e]; exact Hne.out g hgm
          · obtain ⟨i, hil, hi⟩ := List.getElem_of_mem hgm
            have h1 : gs[i]? = some g := by rw [List.getElem?_eq_getElem hil, hi]
            have h2 : p.V[i]? = some (p.V[i]'(by have := Hgl.out; omega)) := List.getElem?_eq_getElem _
            have := (J3.out _ hJa i g _ h1 h2).lt
            rw [e]
            intro e3
            injection e3 with e3
            omega
         have hown2 : W2.ownsRow Bk 3 1 vv' (k + 1) (Qi ((JU p.V args).take (k + 1))) := by rw [El hlt, Hxk.out]; simpa [Qi] using hown
         have hov2 := Jl hown2
         have RM2 := Lh rM2
         have AV2 := Lh av2
         have Rows2 := Lh rows2
         have Ch2 := Lh ch2
         have Hne2 := Lh hne2
         have Hown2 := Lh hown2
         clear rM2 av2 rows2 ch2 hne2 hown2 hown hg hat hJa hJ c4 hra cv
         go_wp2_with (refine QD _ _ _ rfl ?_)
         refine Stop.to ?_
         refine QJ rfl 22 _ _ rfl M 4 rfl _ rfl [vv'] (by cases vv' <;> first | rfl | cases hov2) 125 _ (ZG p kv vv' av fuel PB) RM2.out (by kernel_rfl) (by show 4 + 1 ≤ 14; omega) (by simpa using hov2) rfl ?_
         intro W3 r3 o3
         have k3 : K3 p M Bk PB fuel kv vv' av args gs W1 k W3 := by
          have ne : ∀ {e : TypeId} {u : Value} {n : Nat} {xs : List Value}, W2.ownsRow Bk e 1 u n xs → W3.ownsRow Bk e 1 u n xs := fun h => QA h o3 (fun e => by have := QN h e; omega)
          exact ⟨r3, ne Hown2.out, ne AV2.out, fun i g t h1 h2 => (Rows2.out i g t h1 h2).only o3 (by have := Hge.out g (List.mem_of_getElem? h1); omega), Ch2.out.trans (.only o3), by rw [o3.size]; exact sz2⟩
         have k3d : K3 p M Bk PB fuel kv vv' av args gs W1 k W3.drew := k3.go ⟨rfl, rfl, rfl, Nat.le_refl _, fun _ _ => rfl⟩
         have KE := Lh k3d
         clear r3 o3 k3 k3d RM2 AV2 Rows2 Ch2 Hown2 sz2 J0 J1 J2 J3 J4 J5 stJ J hi0 hz0 hz1 hz2 i0
         obtain ⟨i0, hi0, hz0, hz1, hz2⟩ := info_parts Ab0
         obtain ⟨n, hn⟩ : ∃ n : Nat, QU t = (n : Int) := ⟨(QU t).toNat, by unfold QU; split <;> omega⟩
         have hn8 : n ≤ 8 := by unfold QU at hn; split at hn <;> omega
         have hmk : ∀ W : World, (Instr.makeSlice 22 (.int .i64 (n : Int)) (.int .i64 (n : Int))).run Tryz.prog W = .ok (.slice (some ⟨W.heap.size, 0, none⟩) n n) (W.alloc (.cells (Qi (List.replicate n 0)).toArray 3)) := fun W => by
          have := run_make_row' (P := Tryz.prog) (w := W) 22 3 (.int .i64 0) 8 Tryz.underlying22 Jn rfl .i64 .i64 n (by omega) (by omega)
          rw [show madeCells #[Value.int .i64 0] n = (Qi (List.replicate n 0)).toArray from by rw [KZ]; simp [Qi]] at this
          exact this
         have Hmk := Lh hmk
         have Hnn := Lh hn
         clear hmk hn
         go_wp2_with fail
         refine wp_region_held (S := fun _ => True) (by kernel_rfl) ?_
         simp only [List.size_toArray, List.length_cons, List.length_nil, Nat.reduceAdd, Array.replicate_succ, Array.replicate_zero, List.push_toArray, List.nil_append, List.cons_append]
         show wpAnyH _ _ _ _ _ _ _ _ W3.drew
         generalize W3.drew = we at KE ⊢
         have hTT : (fun _ : World => True) we := trivial
         (refine tkH 0 (.pointer (some ⟨M, 0, none⟩)) rfl (Qd rfl (fun W hW => by (go_simp))) ?_; simp only [Act.put, Qa, Qb, Qc])
         (refine tkH 1 (.pointer (some ⟨M, 0, none⟩)) rfl (Qd rfl (fun W hW => by (go_simp))) ?_; simp only [Act.put, Qa, Qb, Qc])
         (refine tkH 2 (.pointer (some ⟨M, 0, none⟩)) rfl (Qd rfl (fun W hW => by (go_simp))) ?_; simp only [Act.put, Qa, Qb, Qc])
         (refine tkH 3 (.pointer (some ⟨M, 5, none⟩)) rfl (Qd rfl (fun W hW => by (go_simp))) ?_; simp only [Act.put, Qa, Qb, Qc])
         (refine tkH 5 (.int .i64 t) rfl (Qd rfl (fun W hW => by (go_simp))) ?_; simp only [Act.put, Qa, Qb, Qc])
         apply AcW
         case main =>
          intro tAP
          refine wpAnyH_all (rs := [4, 6]) (by kernel_rfl) (by simp) (fun i hi => ?_)
          have hi2 : i = 4 ∨ i = 6 := by simpa using hi
          rcases hi2 with rfl | rfl
          · refine Qe rfl rfl (fun K2 hK2 => ?_)
            refine Qj av (w1 := we) (by have h := (KE.out).row.cellv (i := 5) (v := av) rfl; go_simp) ?_
            refine hK2 _ _ ?_
            clear hK2 K2
            simp only [Act.put, Qa, Qb, Qc]
            refine ⟨trivial, ?_⟩
            (refine wpAnyH_all (rs := [6]) (by kernel_rfl) (by simp) (fun i hi => ?_); obtain rfl : i = 6 := by simpa using hi)
            refine Qe rfl rfl (fun K2 hK2 => ?_)
            refine Qx (w1 := we) 56 #[.int .i64 t] (by go_simp; try rfl) ?_
            refine (Km t we hti).mono ?_
            rintro e w4 ⟨rfl, rfl⟩
            rw [Hnn.out]
            refine ⟨_, rfl, hK2 _ _ ?_⟩
            clear hK2 K2
            simp only [Act.put, Qa, Qb, Qc]
            refine ⟨trivial, ?_⟩
            (refine wpAnyH_all (rs := [7]) (by kernel_rfl) (by simp) (fun i hi => ?_); obtain rfl : i = 7 := by simpa using hi)
            refine Qe rfl rfl (fun K2 hK2 => ?_)
            refine Qj (.slice (some ⟨we.heap.size, 0, none⟩) n n) (Zu rfl rfl rfl (Hmk.out we)) ?_
            refine hK2 _ _ ?_
            clear hK2 K2
            have KM := KE.out.go (A' := we.alloc (.cells (Qi (List.replicate n 0)).toArray 3)) ((Below.refl _ _).alloc (Nat.le_refl _) _)
            simp only [Act.put, Qa, Qb, Qc]
            refine ⟨trivial, ?_⟩
            (refine wpAnyH_all (rs := [8]) (by kernel_rfl) (by simp) (fun i hi => ?_); obtain rfl : i = 8 := by simpa using hi)
            refine Qe rfl rfl (fun K2 hK2 => ?_)
            refine Qj (.slice (some ⟨(we.alloc (.cells (Qi (List.replicate n 0)).toArray 3)).heap.size, 0, none⟩) 1 1) (w1 := (we.alloc (.cells (Qi (List.replicate n 0)).toArray 3)).alloc (.cells #[.slice (some ⟨we.heap.size, 0, none⟩) n n] 22)) (by go_simp; try rfl) ?_
            refine hK2 _ _ ?_
            clear hK2 K2
            have K8 := KM.go (A' := (we.alloc (.cells (Qi (List.replicate n 0)).toArray 3)).alloc (.cells #[.slice (some ⟨we.heap.size, 0, none⟩) n n] 22)) ((Below.refl _ _).alloc (Nat.le_refl _) _)
            simp only [Act.put, Qa, Qb, Qc]
            refine ⟨trivial, ?_⟩
            exact tAP
          · refine Qe rfl rfl (fun K2 hK2 => ?_)
            refine Qx (w1 := we) 56 #[.int .i64 t] (by go_simp; try rfl) ?_
            refine (Km t we hti).mono ?_
            rintro e w4 ⟨rfl, rfl⟩
            rw [Hnn.out]
            refine ⟨_, rfl, hK2 _ _ ?_⟩
            clear hK2 K2
            simp only [Act.put, Qa, Qb, Qc]
            refine ⟨trivial, ?_⟩
            refine wpAnyH_all (rs := [4, 7]) (by kernel_rfl) (by simp) (fun i hi => ?_)
            have hi2 : i = 4 ∨ i = 7 := by simpa using hi
            rcases hi2 with rfl | rfl
            · refine Qe rfl rfl (fun K2 hK2 => ?_)
              refine Qj av (w1 := we) (by have h := (KE.out).row.cellv (i := 5) (v := av) rfl; go_simp) ?_
              refine hK2 _ _ ?_
              clear hK2 K2
              simp only [Act.put, Qa, Qb, Qc]
              refine ⟨trivial, ?_⟩
              (refine wpAnyH_all (rs := [7]) (by kernel_rfl) (by simp) (fun i hi => ?_); obtain rfl : i = 7 := by simpa using hi)
              refine Qe rfl rfl (fun K2 hK2 => ?_)
              refine Qj (.slice (some ⟨we.heap.size, 0, none⟩) n n) (Zu rfl rfl rfl (Hmk.out we)) ?_
              refine hK2 _ _ ?_
              clear hK2 K2
              have KM := KE.out.go (A' := we.alloc (.cells (Qi (List.replicate n 0)).toArray 3)) ((Below.refl _ _).alloc (Nat.le_refl _) _)
              simp only [Act.put, Qa, Qb, Qc]
              refine ⟨trivial, ?_⟩
              (refine wpAnyH_all (rs := [8]) (by kernel_rfl) (by simp) (fun i hi => ?_); obtain rfl : i = 8 := by simpa using hi)
              refine Qe rfl rfl (fun K2 hK2 => ?_)
              refine Qj (.slice (some ⟨(we.alloc (.cells (Qi (List.replicate n 0)).toArray 3)).heap.size, 0, none⟩) 1 1) (w1 := (we.alloc (.cells (Qi (List.replicate n 0)).toArray 3)).alloc (.cells #[.slice (some ⟨we.heap.size, 0, none⟩) n n] 22)) (by go_simp; try rfl) ?_
              refine hK2 _ _ ?_
              clear hK2 K2
              have K8 := KM.go (A' := (we.alloc (.cells (Qi (List.replicate n 0)).toArray 3)).alloc (.cells #[.slice (some ⟨we.heap.size, 0, none⟩) n n] 22)) ((Below.refl _ _).alloc (Nat.le_refl _) _)
              simp only [Act.put, Qa, Qb, Qc]
              refine ⟨trivial, ?_⟩
              exact tAP
            · refine Qe rfl rfl (fun K2 hK2 => ?_)
              refine Qj (.slice (some ⟨we.heap.size, 0, none⟩) n n) (Zu rfl rfl rfl (Hmk.out we)) ?_
              refine hK2 _ _ ?_
              clear hK2 K2
              have KM := KE.out.go (A' := we.alloc (.cells (Qi (List.replicate n 0)).toArray 3)) ((Below.refl _ _).alloc (Nat.le_refl _) _)
              simp only [Act.put, Qa, Qb, Qc]
              refine ⟨trivial, ?_⟩
              refine wpAnyH_all (rs := [4, 8]) (by kernel_rfl) (by simp) (fun i hi => ?_)
              have hi2 : i = 4 ∨ i = 8 := by simpa using hi
              rcases hi2 with rfl | rfl
              · refine Qe rfl rfl (fun K2 hK2 => ?_)
                refine Qj av (w1 := (we.alloc (.cells (Qi (List.replicate n 0)).toArray 3))) (by have h := (KM).row.cellv (i := 5) (v := av) rfl; go_simp) ?_
                refine hK2 _ _ ?_
                clear hK2 K2
                simp only [Act.put, Qa, Qb, Qc]
                refine ⟨trivial, ?_⟩
                (refine wpAnyH_all (rs := [8]) (by kernel_rfl) (by simp) (fun i hi => ?_); obtain rfl : i = 8 := by simpa using hi)
                refine Qe rfl rfl (fun K2 hK2 => ?_)
                refine Qj (.slice (some ⟨(we.alloc (.cells (Qi (List.replicate n 0)).toArray 3)).heap.size, 0, none⟩) 1 1) (w1 := (we.alloc (.cells (Qi (List.replicate n 0)).toArray 3)).alloc (.cells #[.slice (some ⟨we.heap.size, 0, none⟩) n n] 22)) (by go_simp; try rfl) ?_
                refine hK2 _ _ ?_
                clear hK2 K2
                have K8 := KM.go (A' := (we.alloc (.cells (Qi (List.replicate n 0)).toArray 3)).alloc (.cells #[.slice (some ⟨we.heap.size, 0, none⟩) n n] 22)) ((Below.refl _ _).alloc (Nat.le_refl _) _)
                simp only [Act.put, Qa, Qb, Qc]
                refine ⟨trivial, ?_⟩
                exact tAP
              · refine Qe rfl rfl (fun K2 hK2 => ?_)
                refine Qj (.slice (some ⟨(we.alloc (.cells (Qi (List.replicate n 0)).toArray 3)).heap.size, 0, none⟩) 1 1) (w1 := (we.alloc (.cells (Qi (List.replicate n 0)).toArray 3)).alloc (.cells #[.slice (some ⟨we.heap.size, 0, none⟩) n n] 22)) (by go_simp; try rfl) ?_
                refine hK2 _ _ ?_
                clear hK2 K2
                have K8 := KM.go (A' := (we.alloc (.cells (Qi (List.replicate n 0)).toArray 3)).alloc (.cells #[.slice (some ⟨we.heap.size, 0, none⟩) n n] 22)) ((Below.refl _ _).alloc (Nat.le_refl _) _)
                simp only [Act.put, Qa, Qb, Qc]
                refine ⟨trivial, ?_⟩
                (refine wpAnyH_all (rs := [4]) (by kernel_rfl) (by simp) (fun i hi => ?_); obtain rfl : i = 4 := by simpa using hi)
                refine Qe rfl rfl (fun K2 hK2 => ?_)
                refine Qj av (w1 := ((we.alloc (.cells (Qi (List.replicate n 0)).toArray 3)).alloc (.cells #[.slice (some ⟨we.heap.size, 0, none⟩) n n] 22))) (by have h := (K8).row.cellv (i := 5) (v := av) rfl; go_simp) ?_
                refine hK2 _ _ ?_
                clear hK2 K2
                simp only [Act.put, Qa, Qb, Qc]
                refine ⟨trivial, ?_⟩
                exact tAP
         case tail =>
          have KM := KE.out.go (A' := we.alloc (.cells (Qi (List.replicate n 0)).toArray 3)) ((Below.refl _ _).alloc (Nat.le_refl _) _)
          have K8 := KM.go (A' := (we.alloc (.cells (Qi (List.replicate n 0)).toArray 3)).alloc (.cells #[.slice (some ⟨we.heap.size, 0, none⟩) n n] 22)) ((Below.refl _ _).alloc (Nat.le_refl _) _)
          (refine wpAnyH_all (rs := [9]) (by kernel_rfl) (by simp) (fun i hi => ?_); obtain rfl : i = 9 := by simpa using hi)
          have rn8 : Row ((we.alloc (.cells (Qi (List.replicate n 0)).toArray 3)).alloc (.cells #[.slice (some ⟨we.heap.size, 0, none⟩) n n] 22)) we.heap.size 3 (Qi (List.replicate n 0)).toArray := (Row.new we _ _).alloc _
          have gn := KE.out.size
          have glt : ∀ g ∈ gs, g < we.heap.size := by
           intro g hgm
           obtain ⟨i, hil, hi⟩ := List.getElem_of_mem hgm
           have h1 : gs[i]? = some g := by rw [List.getElem?_eq_getElem hil, hi]
           have h2 : p.V[i]? = some (p.V[i]'(by have := Hgl.out; omega)) := List.getElem?_eq_getElem _
           exact (KE.out.rows i g _ h1 h2).lt
          have vvn : vv'.ownBlock ≠ some we.heap.size := fun e => by have := XQ KE.out.vv e; omega
          generalize hw8 : (we.alloc (.cells (Qi (List.replicate n 0)).toArray 3)).alloc (.cells #[.slice (some ⟨we.heap.size, 0, none⟩) n n] 22) = w8 at *
          have cs8 : ∀ (j : Nat) (u : Value), [Value.slice (some ⟨we.heap.size, 0, none⟩) n n][j]? = some u → w8.cell? ((⟨(we.alloc (.cells (Qi (List.replicate n 0)).toArray 3)).heap.size, 0, none⟩ : Addr).add j) = some u := by rw [← hw8]; exact cell_one_new _ _ _
          clear hw8
          refine Qe rfl rfl (fun K2 hK2 => ?_)
          refine ZU (.tmp 67) (.tmp 71) 46 rfl Bk 22 i0 (.slice none 0 0) 1 24 Tryz.underlying46 hi0 hz0 hz1 hz2 rfl (by decide) av k _ rfl K8.av _ 1 1 [Value.slice (some ⟨we.heap.size, 0, none⟩) n n] rfl rfl cs8 (by simp [Value.oneCell']) (by unfold maxLen; omega) (by omega) K8.size ?_
          intro av' w9 hown9 hg9 _
          refine hK2 _ _ ?_
          clear hK2 K2
          have hM9 := K8.row.grown hg9 (Qz K8.av K8.row (by decide))
          have vv9 := Q5 K8.vv hg9 (Za K8.vv K8.av (by decide))
          have rows9 : ∀ (i g : Nat) (t : Int), gs[i]? = some g → p.V[i]? = some t → Row w9 g 3 (Qi (List.replicate (QU t).toNat 0)).toArray := fun i g t h1 h2 => (K8.rows i g t h1 h2).grown hg9 (Qz K8.av (K8.rows i g t h1 h2) (by decide))
          have rn9 := rn8.grown hg9 (Qz K8.av rn8 (by decide))
          have ch9 := K8.ch.trans (.grown hg9 K8.size (fun k e => QN K8.av e))
          have hov9 := Jl hown9
          have HM9 := Lh hM9
          have VV9 := Lh vv9
          have Rows9 := Lh rows9
          have RN9 := Lh rn9
          have CH9 := Lh ch9
          have Own9 := Lh hown9
          have Glt := Lh glt
          have Vvn := Lh vvn
          simp only [Act.put, Qa, Qb, Qc]
          refine ⟨trivial, ?_⟩
          clear hM9 vv9 rows9 rn9 ch9 hown9 hg9 rn8 cs8 K8 KM KE glt vvn
          (refine tkH 10 (.pointer (some ⟨M, 0, none⟩)) rfl (Qd rfl (fun W hW => by (go_simp))) ?_; simp only [Act.put, Qa, Qb, Qc])
          (refine tkH 11 (.pointer (some ⟨M, 5, none⟩)) rfl (Qd rfl (fun W hW => by (go_simp))) ?_; simp only [Act.put, Qa, Qb, Qc])
          (refine wpAnyH_all (rs := [12]) (by kernel_rfl) (by simp) (fun i hi => ?_); obtain rfl : i = 12 := by simpa using hi)
          refine Qe rfl rfl (fun K2 hK2 => ?_)
          refine Z1 46 (.tmp 74) (.tmp 72) rfl M 5 rfl _ rfl [av'] (by cases av' <;> first | rfl | cases hov9) 125 _ (ZG p kv vv' av' fuel PB) HM9.out (by kernel_rfl) (by show 5 + 1 ≤ 14; omega) (by simpa using hov9) rfl ?_
          intro w10 r10 o10
          refine hK2 _ _ ?_
          clear hK2 K2
          simp only [Act.put, Qa, Qb, Qc]
          refine ⟨trivial, ?_⟩
          refine wpAnyH_done (by kernel_rfl) ?_ _
          have hK10 : K2 p M Bk PB fuel kv args W1 (k + 1) w10 := by
           have ne : ∀ {e : TypeId} {u : Value} {n : Nat} {xs : List Value}, w9.ownsRow Bk e 1 u n xs → w10.ownsRow Bk e 1 u n xs := fun h => QA h o10 (fun e => by have := QN h e; omega)
           have hgl := Hgl.out
           subst hgl
           refine ⟨vv', av', gs ++ [we.heap.size], r10, by simp, ne VV9.out, ?_, fun i g t' h1 h2 => ?_, fun g hg => ?_, ?_, fun g hg => ?_, CH9.out.trans (.only o10)⟩
           · rw [Ad7 gs p.V we.heap.size t Ht.out, Hnn.out, Int.toNat_natCast]; exact ne Own9.out
           · rcases Nat.lt_trichotomy i gs.length with hl | hl | hl
             · rw [List.getElem?_append_left hl] at h1
               exact (Rows9.out i g t' h1 h2).only o10 (by have := Hge.out g (List.mem_of_getElem? h1); omega)
             · subst hl
               rw [List.getElem?_append_right (Nat.le_refl _), Nat.sub_self] at h1
               injection h1 with h1
               subst h1
               rw [Ht.out] at h2
               injection h2 with h2
               subst h2
               rw [Hnn.out, Int.toNat_natCast]
               exact RN9.out.only o10 (by omega)
             · rw [List.getElem?_append_right (by omega)] at h1
               have := (List.getElem?_eq_some_iff.1 h1).1
               simp at this; omega
           · rcases List.mem_append.1 hg with hg | hg
             · exact Hge.out g hg
             · rw [List.mem_singleton.1 hg]; exact gn
           · rw [List.nodup_append]
             refine ⟨Hnd.out, by simp, fun a ha b hb e => ?_⟩
             rw [List.mem_singleton.1 hb] at e
             have := Glt.out a ha
             omega
           · rcases List.mem_append.1 hg with hg | hg
             · exact Hne2.out g hg
             · rw [List.mem_singleton.1 hg]; exact Vvn.out
          have HK10 := Lh hK10
          clear hK10 r10 o10
          go_wp2_with fail
          go_roundw
          case rel => exact ⟨k + 1, by go_num, by omega, HK10⟩
          case measure => simp [intOf]; omega
       · have hdec : decide ((k : Int) < (args.length : Int)) = false := by simp; omega
         have hx : args.getD k 0 = 0 := by simp [List.getD, List.getElem?_eq_none (show args.length ≤ k by omega)]
         have Hxk := Lh hx
         clear hx
         rw [hvd]
         go_wp2_with (at_builtin; refine Ad9 ?_)
         refine Stop.to ?_
         refine (wpList_append_own_at _ rfl (.tmp 57) (.tmp 59) 22 rfl Bk 3 i0 (.int .i64 0) 1 8 Tryz.underlying22 hi0 hz0 hz1 hz2 rfl (by decide) vv k _ rfl (Qs (J1.out _ hJ) ((Below.refl _ _).alloc (Nat.le_refl _) _)) ⟨wr.heap.size, 0, none⟩ 1 1 [.int .i64 0] rfl rfl (cell_one_new _ _ _) (by simp [Value.oneCell']) (by unfold maxLen; omega) (by omega) (by have := J5.out _ hJ; simp; omega) ?_)
         intro vv' W2 hown hg _ hat
         have hJa : J (wr.alloc (.cells #[.int .i64 0] 3)) := stJ.go hJ ((Below.refl _ _).alloc (Nat.le_refl _) _)
         have rM2 := (J0.out _ hJa).grown hg (Qz (J1.out _ hJa) (J0.out _ hJa) (by decide))
         have av2 := Q5 (J2.out _ hJa) hg (Za (J2.out _ hJa) (J1.out _ hJa) (by decide))
         have rows2 : ∀ (i g : Nat) (t : Int), gs[i]? = some g → p.V[i]? = some t → Row W2 g 3 (Qi (List.replicate (QU t).toNat 0)).toArray := fun i g t h1 h2 => (J3.out _ hJa i g t h1 h2).grown hg (Hne.out g (List.mem_of_getElem? h1))
         have ch2 := (J4.out _ hJa).trans (.grown hg (J5.out _ hJa) (fun k e => QN (J1.out _ hJa) e))
         have sz2 : Bk ≤ W2.heap.size := Nat.le_trans (J5.out _ hJa) hg.size
         have hne2 : ∀ g ∈ gs, vv'.ownBlock ≠ some g := by
          intro g hgm
          rcases hat with e | e
          · rw [e]; exact Hne.out g hgm
          · obtain ⟨i, hil, hi⟩ := List.getElem_of_mem hgm
            have h1 : gs[i]? = some g := by rw [List.getElem?_eq_getElem hil, hi]
            have h2 : p.V[i]? = some (p.V[i]'(by have := Hgl.out; omega)) := List.getElem?_eq_getElem _
            have := (J3.out _ hJa i g _ h1 h2).lt
            rw [e]
            intro e3
            injection e3 with e3
            omega
         have hown2 : W2.ownsRow Bk 3 1 vv' (k + 1) (Qi ((JU p.V args).take (k + 1))) := by rw [El hlt, Hxk.out]; simpa [Qi] using hown
         have hov2 := Jl hown2
         have RM2 := Lh rM2
         have AV2 := Lh av2
         have Rows2 := Lh rows2
         have Ch2 := Lh ch2
         have Hne2 := Lh hne2
         have Hown2 := Lh hown2
         clear rM2 av2 rows2 ch2 hne2 hown2 hown hg hat hJa hJ c4 hra cv
         go_wp2_with (refine QD _ _ _ rfl ?_)
         refine Stop.to ?_
         refine QJ rfl 22 _ _ rfl M 4 rfl _ rfl [vv'] (by cases vv' <;> first | rfl | cases hov2) 125 _ (ZG p kv vv' av fuel PB) RM2.out (by kernel_rfl) (by show 4 + 1 ≤ 14; omega) (by simpa using hov2) rfl ?_
         intro W3 r3 o3
         have k3 : K3 p M Bk PB fuel kv vv' av args gs W1 k W3 := by
          have ne : ∀ {e : TypeId} {u : Value} {n : Nat} {xs : List Value}, W2.ownsRow Bk e 1 u n xs → W3.ownsRow Bk e 1 u n xs := fun h => QA h o3 (fun e => by have := QN h e; omega)
          exact ⟨r3, ne Hown2.out, ne AV2.out, fun i g t h1 h2 => (Rows2.out i g t h1 h2).only o3 (by have := Hge.out g (List.mem_of_getElem? h1); omega), Ch2.out.trans (.only o3), by rw [o3.size]; exact sz2⟩
         have k3d : K3 p M Bk PB fuel kv vv' av args gs W1 k W3.drew := k3.go ⟨rfl, rfl, rfl, Nat.le_refl _, fun _ _ => rfl⟩
         have KE := Lh k3d
         clear r3 o3 k3 k3d RM2 AV2 Rows2 Ch2 Hown2 sz2 J0 J1 J2 J3 J4 J5 stJ J hi0 hz0 hz1 hz2 i0
         obtain ⟨i0, hi0, hz0, hz1, hz2⟩ := info_parts Ab0
         obtain ⟨n, hn⟩ : ∃ n : Nat, QU t = (n : Int) := ⟨(QU t).toNat, by unfold QU; split <;> omega⟩
         have hn8 : n ≤ 8 := by unfold QU at hn; split at hn <;> omega
         have hmk : ∀ W : World, (Instr.makeSlice 22 (.int .i64 (n : Int)) (.int .i64 (n : Int))).run Tryz.prog W = .ok (.slice (some ⟨W.heap.size, 0, none⟩) n n) (W.alloc (.cells (Qi (List.replicate n 0)).toArray 3)) := fun W => by
          have := run_make_row' (P := Tryz.prog) (w := W) 22 3 (.int .i64 0) 8 Tryz.underlying22 Jn rfl .i64 .i64 n (by omega) (by omega)
          rw [show madeCells #[Value.int .i64 0] n = (Qi (List.replicate n 0)).toArray from by rw [KZ]; simp [Qi]] at this
          exact this
         have Hmk := Lh hmk
         have Hnn := Lh hn
         clear hmk hn
         go_wp2_with fail
         refine wp_region_held (S := fun _ => True) (by kernel_rfl) ?_
         simp only [List.size_toArray, List.length_cons, List.length_nil, Nat.reduceAdd, Array.replicate_succ, Array.replicate_zero, List.push_toArray, List.nil_append, List.cons_append]
         show wpAnyH _ _ _ _ _ _ _ _ W3.drew
         generalize W3.drew = we at KE ⊢
         have hTT : (fun _ : World => True) we := trivial
         (refine tkH 0 (.pointer (some ⟨M, 0, none⟩)) rfl (Qd rfl (fun W hW => by (go_simp))) ?_; simp only [Act.put, Qa, Qb, Qc])
         (refine tkH 1 (.pointer (some ⟨M, 0, none⟩)) rfl (Qd rfl (fun W hW => by (go_simp))) ?_; simp only [Act.put, Qa, Qb, Qc])
         (refine tkH 2 (.pointer (some ⟨M, 0, none⟩)) rfl (Qd rfl (fun W hW => by (go_simp))) ?_; simp only [Act.put, Qa, Qb, Qc])
         (refine tkH 3 (.pointer (some ⟨M, 5, none⟩)) rfl (Qd rfl (fun W hW => by (go_simp))) ?_; simp only [Act.put, Qa, Qb, Qc])
         (refine tkH 5 (.int .i64 t) rfl (Qd rfl (fun W hW => by (go_simp))) ?_; simp only [Act.put, Qa, Qb, Qc])
         apply AcW
         case main =>
          intro tAP
          refine wpAnyH_all (rs := [4, 6]) (by kernel_rfl) (by simp) (fun i hi => ?_)
          have hi2 : i = 4 ∨ i = 6 := by simpa using hi
          rcases hi2 with rfl | rfl
          · refine Qe rfl rfl (fun K2 hK2 => ?_)
            refine Qj av (w1 := we) (by have h := (KE.out).row.cellv (i := 5) (v := av) rfl; go_simp) ?_
            refine hK2 _ _ ?_
            clear hK2 K2
            simp only [Act.put, Qa, Qb, Qc]
            refine ⟨trivial, ?_⟩
            (refine wpAnyH_all (rs := [6]) (by kernel_rfl) (by simp) (fun i hi => ?_); obtain rfl : i = 6 := by simpa using hi)
            refine Qe rfl rfl (fun K2 hK2 => ?_)
            refine Qx (w1 := we) 56 #[.int .i64 t] (by go_simp; try rfl) ?_
            refine (Km t we hti).mono ?_
            rintro e w4 ⟨rfl, rfl⟩
            rw [Hnn.out]
            refine ⟨_, rfl, hK2 _ _ ?_⟩
            clear hK2 K2
            simp only [Act.put, Qa, Qb, Qc]
            refine ⟨trivial, ?_⟩
            (refine wpAnyH_all (rs := [7]) (by kernel_rfl) (by simp) (fun i hi => ?_); obtain rfl : i = 7 := by simpa using hi)
            refine Qe rfl rfl (fun K2 hK2 => ?_)
            refine Qj (.slice (some ⟨we.heap.size, 0, none⟩) n n) (Zu rfl rfl rfl (Hmk.out we)) ?_
            refine hK2 _ _ ?_
            clear hK2 K2
            have KM := KE.out.go (A' := we.alloc (.cells (Qi (List.replicate n 0)).toArray 3)) ((Below.refl _ _).alloc (Nat.le_refl _) _)
            simp only [Act.put, Qa, Qb, Qc]
            refine ⟨trivial, ?_⟩
            (refine wpAnyH_all (rs := [8]) (by kernel_rfl) (by simp) (fun i hi => ?_); obtain rfl : i = 8 := by simpa using hi)
            refine Qe rfl rfl (fun K2 hK2 => ?_)
            refine Qj (.slice (some ⟨(we.alloc (.cells (Qi (List.replicate n 0)).toArray 3)).heap.size, 0, none⟩) 1 1) (w1 := (we.alloc (.cells (Qi (List.replicate n 0)).toArray 3)).alloc (.cells #[.slice (some ⟨we.heap.size, 0, none⟩) n n] 22)) (by go_simp; try rfl) ?_
            refine hK2 _ _ ?_
            clear hK2 K2
            have K8 := KM.go (A' := (we.alloc (.cells (Qi (List.replicate n 0)).toArray 3)).alloc (.cells #[.slice (some ⟨we.heap.size, 0, none⟩) n n] 22)) ((Below.refl _ _).alloc (Nat.le_refl _) _)
            simp only [Act.put, Qa, Qb, Qc]
            refine ⟨trivial, ?_⟩
            exact tAP
          · refine Qe rfl rfl (fun K2 hK2 => ?_)
            refine Qx (w1 := we) 56 #[.int .i64 t] (by go_simp; try rfl) ?_
            refine (Km t we hti).mono ?_
            rintro e w4 ⟨rfl, rfl⟩
            rw [Hnn.out]
            refine ⟨_, rfl, hK2 _ _ ?_⟩
            clear hK2 K2
            simp only [Act.put, Qa, Qb, Qc]
            refine ⟨trivial, ?_⟩
            refine wpAnyH_all (rs := [4, 7]) (by kernel_rfl) (by simp) (fun i hi => ?_)
            have hi2 : i = 4 ∨ i = 7 := by simpa using hi
            rcases hi2 with rfl | rfl
            · refine Qe rfl rfl (fun K2 hK2 => ?_)
              refine Qj av (w1 := we) (by have h := (KE.out).row.cellv (i := 5) (v := av) rfl; go_simp) ?_
              refine hK2 _ _ ?_
              clear hK2 K2
              simp only [Act.put, Qa, Qb, Qc]
              refine ⟨trivial, ?_⟩
              (refine wpAnyH_all (rs := [7]) (by kernel_rfl) (by simp) (fun i hi => ?_); obtain rfl : i = 7 := by simpa using hi)
              refine Qe rfl rfl (fun K2 hK2 => ?_)
              refine Qj (.slice (some ⟨we.heap.size, 0, none⟩) n n) (Zu rfl rfl rfl (Hmk.out we)) ?_
              refine hK2 _ _ ?_
              clear hK2 K2
              have KM := KE.out.go (A' := we.alloc (.cells (Qi (List.replicate n 0)).toArray 3)) ((Below.refl _ _).alloc (Nat.le_refl _) _)
              simp only [Act.put, Qa, Qb, Qc]
              refine ⟨trivial, ?_⟩
              (refine wpAnyH_all (rs := [8]) (by kernel_rfl) (by simp) (fun i hi => ?_); obtain rfl : i = 8 := by simpa using hi)
              refine Qe rfl rfl (fun K2 hK2 => ?_)
              refine Qj (.slice (some ⟨(we.alloc (.cells (Qi (List.replicate n 0)).toArray 3)).heap.size, 0, none⟩) 1 1) (w1 := (we.alloc (.cells (Qi (List.replicate n 0)).toArray 3)).alloc (.cells #[.slice (some ⟨we.heap.size, 0, none⟩) n n] 22)) (by go_simp; try rfl) ?_
              refine hK2 _ _ ?_
              clear hK2 K2
              have K8 := KM.go (A' := (we.alloc (.cells (Qi (List.replicate n 0)).toArray 3)).alloc (.cells #[.slice (some ⟨we.heap.size, 0, none⟩) n n] 22)) ((Below.refl _ _).alloc (Nat.le_refl _) _)
              simp only [Act.put, Qa, Qb, Qc]
              refine ⟨trivial, ?_⟩
              exact tAP
            · refine Qe rfl rfl (fun K2 hK2 => ?_)
              refine Qj (.slice (some ⟨we.heap.size, 0, none⟩) n n) (Zu rfl rfl rfl (Hmk.out we)) ?_
              refine hK2 _ _ ?_
              clear hK2 K2
              have KM := KE.out.go (A' := we.alloc (.cells (Qi (List.replicate n 0)).toArray 3)) ((Below.refl _ _).alloc (Nat.le_refl _) _)
              simp only [Act.put, Qa, Qb, Qc]
              refine ⟨trivial, ?_⟩
              refine wpAnyH_all (rs := [4, 8]) (by kernel_rfl) (by simp) (fun i hi => ?_)
              have hi2 : i = 4 ∨ i = 8 := by simpa using hi
              rcases hi2 with rfl | rfl
              · refine Qe rfl rfl (fun K2 hK2 => ?_)
                refine Qj av (w1 := (we.alloc (.cells (Qi (List.replicate n 0)).toArray 3))) (by have h := (KM).row.cellv (i := 5) (v := av) rfl; go_simp) ?_
                refine hK2 _ _ ?_
                clear hK2 K2
                simp only [Act.put, Qa, Qb, Qc]
                refine ⟨trivial, ?_⟩
                (refine wpAnyH_all (rs := [8]) (by kernel_rfl) (by simp) (fun i hi => ?_); obtain rfl : i = 8 := by simpa using hi)
                refine Qe rfl rfl (fun K2 hK2 => ?_)
                refine Qj (.slice (some ⟨(we.alloc (.cells (Qi (List.replicate n 0)).toArray 3)).heap.size, 0, none⟩) 1 1) (w1 := (we.alloc (.cells (Qi (List.replicate n 0)).toArray 3)).alloc (.cells #[.slice (some ⟨we.heap.size, 0, none⟩) n n] 22)) (by go_simp; try rfl) ?_
                refine hK2 _ _ ?_
                clear hK2 K2
                have K8 := KM.go (A' := (we.alloc (.cells (Qi (List.replicate n 0)).toArray 3)).alloc (.cells #[.slice (some ⟨we.heap.size, 0, none⟩) n n] 22)) ((Below.refl _ _).alloc (Nat.le_refl _) _)
                simp only [Act.put, Qa, Qb, Qc]
                refine ⟨trivial, ?_⟩
                exact tAP
              · refine Qe rfl rfl (fun K2 hK2 => ?_)
                refine Qj (.slice (some ⟨(we.alloc (.cells (Qi (List.replicate n 0)).toArray 3)).heap.size, 0, none⟩) 1 1) (w1 := (we.alloc (.cells (Qi (List.replicate n 0)).toArray 3)).alloc (.cells #[.slice (some ⟨we.heap.size, 0, none⟩) n n] 22)) (by go_simp; try rfl) ?_
                refine hK2 _ _ ?_
                clear hK2 K2
                have K8 := KM.go (A' := (we.alloc (.cells (Qi (List.replicate n 0)).toArray 3)).alloc (.cells #[.slice (some ⟨we.heap.size, 0, none⟩) n n] 22)) ((Below.refl _ _).alloc (Nat.le_refl _) _)
                simp only [Act.put, Qa, Qb, Qc]
                refine ⟨trivial, ?_⟩
                (refine wpAnyH_all (rs := [4]) (by kernel_rfl) (by simp) (fun i hi => ?_); obtain rfl : i = 4 := by simpa using hi)
                refine Qe rfl rfl (fun K2 hK2 => ?_)
                refine Qj av (w1 := ((we.alloc (.cells (Qi (List.replicate n 0)).toArray 3)).alloc (.cells #[.slice (some ⟨we.heap.size, 0, none⟩) n n] 22))) (by have h := (K8).row.cellv (i := 5) (v := av) rfl; go_simp) ?_
                refine hK2 _ _ ?_
                clear hK2 K2
                simp only [Act.put, Qa, Qb, Qc]
                refine ⟨trivial, ?_⟩
                exact tAP
         case tail =>
          have KM := KE.out.go (A' := we.alloc (.cells (Qi (List.replicate n 0)).toArray 3)) ((Below.refl _ _).alloc (Nat.le_refl _) _)
          have K8 := KM.go (A' := (we.alloc (.cells (Qi (List.replicate n 0)).toArray 3)).alloc (.cells #[.slice (some ⟨we.heap.size, 0, none⟩) n n] 22)) ((Below.refl _ _).alloc (Nat.le_refl _) _)
          (refine wpAnyH_all (rs := [9]) (by kernel_rfl) (by simp) (fun i hi => ?_); obtain rfl : i = 9 := by simpa using hi)
          have rn8 : Row ((we.alloc (.cells (Qi (List.replicate n 0)).toArray 3)).alloc (.cells #[.slice (some ⟨we.heap.size, 0, none⟩) n n] 22)) we.heap.size 3 (Qi (List.replicate n 0)).toArray := (Row.new we _ _).alloc _
          have gn := KE.out.size
          have glt : ∀ g ∈ gs, g < we.heap.size := by
           intro g hgm
           obtain ⟨i, hil, hi⟩ := List.getElem_of_mem hgm
           have h1 : gs[i]? = some g := by rw [List.getElem?_eq_getElem hil, hi]
           have h2 : p.V[i]? = some (p.V[i]'(by have := Hgl.out; omega)) := List.getElem?_eq_getElem _
           exact (KE.out.rows i g _ h1 h2).lt
          have vvn : vv'.ownBlock ≠ some we.heap.size := fun e => by have := XQ KE.out.vv e; omega
          generalize hw8 : (we.alloc (.cells (Qi (List.replicate n 0)).toArray 3)).alloc (.cells #[.slice (some ⟨we.heap.size, 0, none⟩) n n] 22) = w8 at *
          have cs8 : ∀ (j : Nat) (u : Value), [Value.slice (some ⟨we.heap.size, 0, none⟩) n n][j]? = some u → w8.cell? ((⟨(we.alloc (.cells (Qi (List.replicate n 0)).toArray 3)).heap.size, 0, none⟩ : Addr).add j) = some u := by rw [← hw8]; exact cell_one_new _ _ _
          clear hw8
          refine Qe rfl rfl (fun K2 hK2 => ?_)
          refine ZU (.tmp 67) (.tmp 71) 46 rfl Bk 22 i0 (.slice none 0 0) 1 24 Tryz.underlying46 hi0 hz0 hz1 hz2 rfl (by decide) av k _ rfl K8.av _ 1 1 [Value.slice (some ⟨we.heap.size, 0, none⟩) n n] rfl rfl cs8 (by simp [Value.oneCell']) (by unfold maxLen; omega) (by omega) K8.size ?_
          intro av' w9 hown9 hg9 _
          refine hK2 _ _ ?_
          clear hK2 K2
          have hM9 := K8.row.grown hg9 (Qz K8.av K8.row (by decide))
          have vv9 := Q5 K8.vv hg9 (Za K8.vv K8.av (by decide))
          have rows9 : ∀ (i g : Nat) (t : Int), gs[i]? = some g → p.V[i]? = some t → Row w9 g 3 (Qi (List.replicate (QU t).toNat 0)).toArray := fun i g t h1 h2 => (K8.rows i g t h1 h2).grown hg9 (Qz K8.av (K8.rows i g t h1 h2) (by decide))
          have rn9 := rn8.grown hg9 (Qz K8.av rn8 (by decide))
          have ch9 := K8.ch.trans (.grown hg9 K8.size (fun k e => QN K8.av e))
          have hov9 := Jl hown9
          have HM9 := Lh hM9
          have VV9 := Lh vv9
          have Rows9 := Lh rows9
          have RN9 := Lh rn9
          have CH9 := Lh ch9
          have Own9 := Lh hown9
          have Glt := Lh glt
          have Vvn := Lh vvn
          simp only [Act.put, Qa, Qb, Qc]
          refine ⟨trivial, ?_⟩
          clear hM9 vv9 rows9 rn9 ch9 hown9 hg9 rn8 cs8 K8 KM KE glt vvn
          (refine tkH 10 (.pointer (some ⟨M, 0, none⟩)) rfl (Qd rfl (fun W hW => by (go_simp))) ?_; simp only [Act.put, Qa, Qb, Qc])
          (refine tkH 11 (.pointer (some ⟨M, 5, none⟩)) rfl (Qd rfl (fun W hW => by (go_simp))) ?_; simp only [Act.put, Qa, Qb, Qc])
          (refine wpAnyH_all (rs := [12]) (by kernel_rfl) (by simp) (fun i hi => ?_); obtain rfl : i = 12 := by simpa using hi)
          refine Qe rfl rfl (fun K2 hK2 => ?_)
          refine Z1 46 (.tmp 74) (.tmp 72) rfl M 5 rfl _ rfl [av'] (by cases av' <;> first | rfl | cases hov9) 125 _ (ZG p kv vv' av' fuel PB) HM9.out (by kernel_rfl) (by show 5 + 1 ≤ 14; omega) (by simpa using hov9) rfl ?_
          intro w10 r10 o10
          refine hK2 _ _ ?_
          clear hK2 K2
          simp only [Act.put, Qa, Qb, Qc]
          refine ⟨trivial, ?_⟩
          refine wpAnyH_done (by kernel_rfl) ?_ _
          have hK10 : K2 p M Bk PB fuel kv args W1 (k + 1) w10 := by
           have ne : ∀ {e : TypeId} {u : Value} {n : Nat} {xs : List Value}, w9.ownsRow Bk e 1 u n xs → w10.ownsRow Bk e 1 u n xs := fun h => QA h o10 (fun e => by have := QN h e; omega)
           have hgl := Hgl.out
           subst hgl
           refine ⟨vv', av', gs ++ [we.heap.size], r10, by simp, ne VV9.out, ?_, fun i g t' h1 h2 => ?_, fun g hg => ?_, ?_, fun g hg => ?_, CH9.out.trans (.only o10)⟩
           · rw [Ad7 gs p.V we.heap.size t Ht.out, Hnn.out, Int.toNat_natCast]; exact ne Own9.out
           · rcases Nat.lt_trichotomy i gs.length with hl | hl | hl
             · rw [List.getElem?_append_left hl] at h1
               exact (Rows9.out i g t' h1 h2).only o10 (by have := Hge.out g (List.mem_of_getElem? h1); omega)
             · subst hl
               rw [List.getElem?_append_right (Nat.le_refl _), Nat.sub_self] at h1
               injection h1 with h1
               subst h1
               rw [Ht.out] at h2
               injection h2 with h2
               subst h2
               rw [Hnn.out, Int.toNat_natCast]
               exact RN9.out.only o10 (by omega)
             · rw [List.getElem?_append_right (by omega)] at h1
               have := (List.getElem?_eq_some_iff.1 h1).1
               simp at this; omega
           · rcases List.mem_append.1 hg with hg | hg
             · exact Hge.out g hg
             · rw [List.mem_singleton.1 hg]; exact gn
           · rw [List.nodup_append]
             refine ⟨Hnd.out, by simp, fun a ha b hb e => ?_⟩
             rw [List.mem_singleton.1 hb] at e
             have := Glt.out a ha
             omega
           · rcases List.mem_append.1 hg with hg | hg
             · exact Hne2.out g hg
             · rw [List.mem_singleton.1 hg]; exact Vvn.out
          have HK10 := Lh hK10
          clear hK10 r10 o10
          go_wp2_with fail
          go_roundw
          case rel => exact ⟨k + 1, by go_num, by omega, HK10⟩
          case measure => simp [intOf]; omega
     · obtain rfl : k = p.V.length := by omega
       have HK := hK
       clear hlt hk hK
       go_wp2
       go_ret
       exact Agd Hbl.out Hok.out Hf.out hMw hPM hMB HBk.out hB0k B3.out P3.out Hch.out Hkl.out Hown.out Hks.out HK.out
end Go.Proofs.YtdcmppdhdcjpfaaGreat
