/- Lemmas for RunnerTurnsP. -/
import Derived.Test.YtkoikjnlpifbjaaGreatZa1
import Derived.Test.YtkoikjnlpifbjaaGreatZa28
import Derived.Test.YtkoikjnlpifbjaaGreatZa4
import Derived.Maps.AppendAt
set_option linter.unusedVariables false
set_option linter.unusedSimpArgs false
set_option maxRecDepth 100000
set_option maxHeartbeats 16000000
namespace Go.Proofs.YtkoikjnlpifbjaaGreat
open Go.RowKit Go.Deep
theorem Z6 {P : Program} {o : Oper} {a : Act} {w : World} {K : Act → World → Prop} {Q : Exit → Act → World → Prop} (s x : Operand) (t : TypeId)
 (ho : o.op = .call { callee := .builtin .append, args := #[s, x], argTypes := #[t, t] })
 (base : Nat) (e : TypeId) (i : TypeInfo) (z : Value) (size bytes : Nat) (ht : P.underlying t = some (.slice e)) (hi : P.info? e = some i) (hz : i.zero = some z)
 (hsize : i.size = size) (hby : i.bytes = bytes) (hzs : z.cells.size = size) (hsz : 0 < size)
 (v : Value) (n : Nat) (xs : List Value) (hs : a.eval s = v) (hown : w.ownsRow base e size v n xs)
 (ad : Addr) (m c : Nat) (news : List Value) (hx : a.eval x = .slice (some ad) m c) (hl : news.length = m * size) (hnews : ∀ j u, news[j]? = some u → w.cell? (ad.add j) = some u) (h1 : ∀ u ∈ news, u.oneCell' = true)
 (h63 : n + m ≤ maxLen) (hbytes : (n + m) * bytes ≤ 140737488355328) (hbase : base ≤ w.heap.size)
 (h : ∀ v' w', w'.ownsRow base e size v' (n + m) (xs ++ news) → w.grownBy w' v.ownBlock → (v'.ownBlock = v.ownBlock ∨ v'.ownBlock = some w.heap.size) → K (a.put o.dst v') w') :
 o.wp P a w K Q := by
 obtain ⟨v', w', k, b, d, l, g⟩ := run_append_own_at (P := P) w base t o.type e i z size bytes ht hi hz hsize hby hzs hsz v n xs hown ad m c news hl hnews h1 h63 hbytes hbase;unfold Oper.wp execOp;simp only [ho, resolve, invoke, builtin, Sem.run_bind, Sem.run_pure, Result.andThen_ok, Nn, LM, Nu, hs, hx, k];exact h v' w' b d g
theorem AeJ {P : Program} {o : Oper} {a : Act} {w : World} {K : Act → World → Prop} {Q : Exit → Act → World → Prop} (ty : TypeId) (x : Operand) (ho : o.op = .box ty x) (cs : Array Value) (hx : (a.eval x).cells = cs)
 (h : ∀ g w', w.heap.size ≤ g → Row w' g ty cs → Below g w w' → K (a.put o.dst (.pointer (some ⟨g, 0, none⟩))) w') : o.wp P a w K Q := by
 have e : (execOp a.eval o).run P w = .ok (.value (.pointer (some ⟨w.heap.size, 0, none⟩))) (w.alloc (.cells cs ty)) := by
  rw [← hx]; simp [execOp, ho, Instr.box, newVar, newRow]
 unfold Oper.wp;rw [e];exact h _ _ (Nat.le_refl _) (Row.new _ _ _) ((Below.refl _ _).alloc (Nat.le_refl _) _)
structure ChM (M B : Nat) (W W' : World) : Prop where
 os : W'.os = W.os
 tape : W'.tape = W.tape
 output : W'.output = W.output
 size : W.heap.size ≤ W'.heap.size
 block : ∀ k, k < B → k ≠ M → W'.heap[k]? = W.heap[k]?
section
variable {M B : Nat} {A W W' : World}
theorem ChM.refl (M B : Nat) (W : World) : ChM M B W W := ⟨rfl, rfl, rfl, Nat.le_refl _, fun _ _ _ => rfl⟩
theorem ChM.trans (h : ChM M B A W) (k : ChM M B W W') : ChM M B A W' := ⟨k.os.trans h.os, k.tape.trans h.tape, k.output.trans h.output, Lf h.size k.size, fun i h1 h2 => (k.block i h1 h2).trans (h.block i h1 h2)⟩
theorem ChM.below (b : Below B W W') : ChM M B W W' := ⟨b.os, b.tape, b.output, b.size, fun k h1 _ => b.block k h1⟩
theorem ChM.only (o : Only M W W') : ChM M B W W' := ⟨o.os, o.tape, o.output, LE o.size.symm, fun k _ h => o.block k h⟩
theorem ChM.grown {g : Option Nat} (h : W.grownBy W' g) (hs : B ≤ W.heap.size) (hg : ∀ k, g = some k → B ≤ k) : ChM M B W W' :=
 ⟨h.os, h.tape, h.output, h.size, fun k h1 _ => h.block k (by omega) (fun e => by have := hg k e.symm; omega)⟩
theorem Row.chm {g : Nat} {t : TypeId} {cs : Array Value} (h : Row W g t cs) (c : ChM M B W W') (hg : g < B) (hne : g ≠ M) : Row W' g t cs := (c.block g hg hne).trans h
theorem Afd {b size n : Nat} {e : TypeId} {v : Value} {xs : List Value} (h : W.ownsRow b e size v n xs) (c : ChM M B W W') (hv : ∀ g, v.ownBlock = some g → g < B ∧ g ≠ M) : W'.ownsRow b e size v n xs := by
 refine ⟨h.1, ?_⟩;rcases h.2 with h | ⟨g, d, i, j, k, l, m⟩
 · exact .inl h
 · have := hv g (by rw [j]; rfl);exact .inr ⟨g, d, i, j, k, (c.block g this.1 this.2).trans l, m⟩
end
theorem AdB {P : Program} {md : Region.Mode} {o : Array Oper} {Q : Exit → Act → World → Prop} {S : World → Prop} {n : Nat} {L : Array Bool} {a : Act} {W : World} {G : Prop}
 (main : wpAnyH P md o Q S n L a W → G) (tail : wpAnyH P md o Q S n L a W) : G := main tail
def ZR (p : PgV) (kv vv av : Value) (F : Int) (PB : Nat) : Array Value :=
 #[.int .i64 p.params, .slice p.va p.V.length p.vcap, .slice p.ba p.body.length p.bcap, kv, vv, av, .int .i64 F, .slice none 0 0, .int .i64 0, .int .i64 0, .int .i64 0, .slice none 0 0, .bool false, .map (some PB)]
theorem ChM.to_below {M B b : Nat} {A W : World} (h : ChM M B A W) (hB : b ≤ B) (hM : b ≤ M) : Below b A W := ⟨h.os, h.tape, h.output, h.size, fun k hk => h.block k (by omega) (by omega)⟩
theorem Aiq : (Tryz.prog.info? 22).map (fun i => (i.zero, i.size, i.bytes)) = some (some (.slice none 0 0), 1, 24) := by kernel_rfl
theorem Em {w : World} {b size n : Nat} {e : TypeId} {v : Value} {xs : List Value} (h : w.ownsRow b e size v n xs) : ∃ A m c, v = .slice A m c := by
 rcases h.2 with ⟨rfl, _⟩ | ⟨g, d, i, rfl, _⟩
 · exact ⟨_, _, _, rfl⟩
 · exact ⟨_, _, _, rfl⟩
def asL (gs : List Nat) (V : List Int) : List Value := (gs.zip V).map fun x => Value.slice (some ⟨x.1, 0, none⟩) (QU x.2).toNat (QU x.2).toNat
structure K2 (p : PgV) (M Bk PB : Nat) (F : Int) (kv : Value) (args : List Int) (W1 : World) (k : Nat) (W : World) : Prop where
 ex : ∃ vv av gs, Row W M 184 (ZR p kv vv av F PB) ∧ gs.length = k ∧ W.ownsRow Bk 3 1 vv k (Qi ((JX p.V args).take k)) ∧ W.ownsRow Bk 22 1 av k (asL gs p.V) ∧ (∀ (i g : Nat) (t : Int), gs[i]? = some g → p.V[i]? = some t → Row W g 3 (Qi (List.replicate (QU t).toNat 0)).toArray) ∧ (∀ g ∈ gs, Bk ≤ g) ∧ gs.Nodup ∧ (∀ g ∈ gs, vv.ownBlock ≠ some g) ∧ ChM M Bk W1 W
theorem AeO (gs : List Nat) (V : List Int) (g : Nat) (t : Int) (h : V[gs.length]? = some t) : asL (gs ++ [g]) V = asL gs V ++ [.slice (some ⟨g, 0, none⟩) (QU t).toNat (QU t).toNat] := by
 induction gs generalizing V with
 | nil =>
  cases V with
  | nil => simp at h
  | cons b V => simp at h; subst h; simp [asL]
 | cons a gs ih =>
  cases V with
  | nil => simp at h
  | cons b V =>
   have := ih V (by simpa using h);simp only [asL, Ll, List.zip_cons_cons, LM] at this ⊢;rw [this]
theorem ES {V args : List Int} {k : Nat} (h : k < V.length) : (JX V args).take (k + 1) = (JX V args).take k ++ [args.getD k 0] := by
 rw [Lz, La (by simpa [JX] using h)];simp [JX]
theorem Zy {P : Program} {ρ : Operand → Value} {o : Oper} {t : TypeId} {x y : Operand} (ho : o.op = .makeSlice t x y) {a b v : Value} (hx : ρ x = a) (hy : ρ y = b) {w w' : World} (h : (Instr.makeSlice t a b).run P w = .ok v w') : (execOp ρ o).run P w = .ok (.value v) w' := by
 simp [execOp, ho, hx, hy, h]
theorem KL {w : World} {b size n g : Nat} {e : TypeId} {v : Value} {xs : List Value} (h : w.ownsRow b e size v n xs) (hv : v.ownBlock = some g) : g < w.heap.size := by
 rcases h.2 with ⟨rfl, _⟩ | ⟨j, c, d, rfl, _, i, _⟩
 · simp [Value.ownBlock] at hv
 · simp [Value.ownBlock] at hv; subst hv;exact (Ln.1 i).1
structure K3 (p : PgV) (M Bk PB : Nat) (F : Int) (kv vv av : Value) (args : List Int) (gs : List Nat) (W1 : World) (k : Nat) (W : World) : Prop where
 row : Row W M 184 (ZR p kv vv av F PB)
 vv : W.ownsRow Bk 3 1 vv (k + 1) (Qi ((JX p.V args).take (k + 1)))
 av : W.ownsRow Bk 22 1 av k (asL gs p.V)
 rows : ∀ (i g : Nat) (t : Int), gs[i]? = some g → p.V[i]? = some t → Row W g 3 (Qi (List.replicate (QU t).toNat 0)).toArray
 ch : ChM M Bk W1 W
 size : Bk ≤ W.heap.size
theorem K3.go {p : PgV} {M Bk PB : Nat} {F : Int} {kv vv av : Value} {args : List Int} {gs : List Nat} {W1 : World} {k : Nat} {A A' : World} (h : K3 p M Bk PB F kv vv av args gs W1 k A) (b : Below A.heap.size A A') : K3 p M Bk PB F kv vv av args gs W1 k A' :=
 ⟨h.row.below b h.row.lt, QA h.vv b, QA h.av b, fun i g t h1 h2 => (h.rows i g t h1 h2).below b (h.rows i g t h1 h2).lt, h.ch.trans (.below (b.mono h.size)), Lf h.size b.size⟩
theorem AcC : (Tryz.prog.info? 22).map (fun i => (i.zero, i.size, i.bytes)) = some (some (.slice none 0 0), 1, 24) := by kernel_rfl
theorem AeQ {ops : Array Oper} {rest : List Oper} {o : Oper} {a : Act} {w : World} {Q : Exit → Act → World → Prop} (h : Stop (wpList Tryz.prog ops Q (o :: rest) a w) id) : wpList Tryz.prog ops Q (o :: rest) a w := h.out
theorem Xy {w : World} {b n : Nat} {e : TypeId} {v : Value} {xs : List Value} (h : w.ownsRow b e 1 v n xs) : ∃ A c, v = .slice A n c ∧ Rd w A xs := by
 rcases h.2 with ⟨rfl, rfl⟩ | ⟨g, l, d, rfl, _, m, _, _, _, q⟩
 · have := h.1;simp at this;subst this;exact ⟨_, _, rfl, Rd.nil _ _⟩
 · refine ⟨_, _, rfl, fun j u i => ⟨_, rfl, ?_⟩⟩;have p : Row w g e d := m;have o : j < xs.length := (Lb.1 i).1;have s := h.1;rw [← q, LL (by omega)] at i;have : w.cell? ⟨g, j, none⟩ = some u := p.cellv (by rw [← LX]; exact i);unfold Addr.add;by_cases k : j = 0
   · subst k; exact this
   · rw [if_neg k]; simpa using this
theorem Abu {L : Lay} {W W' : World} {b size n : Nat} {e : TypeId} {v : Value} {xs : List Value} (h : W.ownsRow b e size v n xs) (c : Chg L W W') (hv : ∀ g, v.ownBlock = some g → g < L.b1 ∧ g ≠ L.M ∧ L.vv.ownBlock ≠ some g ∧ g ∉ L.ab) : W'.ownsRow b e size v n xs := by
 refine ⟨h.1, ?_⟩;rcases h.2 with h | ⟨g, d, i, j, k, l, m⟩
 · exact .inl h
 · have := hv g (by rw [j]; rfl);exact .inr ⟨g, d, i, j, k, (c.block g this.1 this.2.1 this.2.2.1 this.2.2.2).trans l, m⟩
theorem Ah5 {gs : List Nat} {V : List Int} {i g : Nat} {t : Int} (h1 : gs[i]? = some g) (h2 : V[i]? = some t) : (asL gs V)[i]? = some (.slice (some ⟨g, 0, none⟩) (QU t).toNat (QU t).toNat) := by
 unfold asL;rw [L4, (List.getElem?_zip_eq_some (z := (g, t))).2 ⟨h1, h2⟩]; rfl
theorem Ag1 {p : PgV} {args : List Int} {fuel : Int} {w w3 W1 W : World} {M B0 Bk PB : Nat} {kv : Value} {ks : List Value} (hbl : p.body.length ≤ 1000) (hok : p.ok w) (hf : 0 ≤ fuel ∧ fuel ≤ 10000)
 (hMw : w.heap.size ≤ M) (hPM : PB < M) (hMB : M < B0) (hBk : Bk = W1.heap.size) (hB0k : B0 ≤ Bk) (b3 : Below w.heap.size w w3) (hpm : MapB w3 PB KO) (hch : ChM M B0 w3 W1)
 (hkl : ks.length = p.body.length) (hown : W1.ownsRow B0 22 1 kv ks.length ks) (hks : ∀ (i : Nat) (v : Value), ks[i]? = some v → W1.ownsRow B0 3 1 v (kidsZ p.body (i : Int)).length (Qi (kidsZ p.body (i : Int))))
 (hK : K2 p M Bk PB fuel kv args W1 p.V.length W) : LoadR p args fuel.toNat w W (.returned (.pointer (some ⟨M, 0, none⟩))) := by
 obtain ⟨vv, av, gs, r, s, o, j, m, ag, aw, ax, k⟩ := hK.ex;have a1 : Bk ≤ W.heap.size := by have := k.size; omega
 have ak : M < W.heap.size := r.lt
 have ae : ∀ g ∈ gs, ∃ cs, Row W g 3 cs := by
  intro g au;obtain ⟨i, l, hi⟩ := Nm au;exact ⟨_, m i g _ (by rw [La l, hi]) (La (by omega))⟩
 have am : ∀ g ∈ gs, g < W.heap.size := fun g b => by obtain ⟨cs, hr⟩ := ae g b; exact hr.lt
 have own1 : W.ownsRow B0 22 1 kv ks.length ks := Afd hown k (fun g e => ⟨by have := KL hown e; omega, by have := QP hown e; omega⟩);have ai : ∀ (i : Nat) (v : Value), ks[i]? = some v → W.ownsRow B0 3 1 v (kidsZ p.body (i : Int)).length (Qi (kidsZ p.body (i : Int))) := fun i v hi => Afd (hks i v hi) k (fun g e => ⟨by have := KL (hks i v hi) e; omega, by have := QP (hks i v hi) e; omega⟩);have bW : Below w.heap.size w W := b3.trans ((hch.to_below (by omega) hMw).trans (k.to_below (by omega) hMw))
 have ar : MapB W PB KO := by
  obtain ⟨arr, d, he, hm⟩ := hpm;exact ⟨arr, d, (k.block PB (by omega) (by omega)).trans ((hch.block PB (by omega) (by omega)).trans he), hm⟩
 obtain ⟨ka, aq, an, _⟩ := Xy own1;obtain ⟨aa, aj, y, _⟩ := Xy j;let L : Lay := ⟨p, M, ka, aq, vv, aa, aj, gs, PB, fuel.toNat, w.heap.size, W.heap.size, fun X => Below w.heap.size w X ∧ MapB X PB KO ∧ X.ownsRow B0 22 1 kv ks.length ks ∧ (∀ (i : Nat) (v : Value), ks[i]? = some v → X.ownsRow B0 3 1 v (kidsZ p.body (i : Int)).length (Qi (kidsZ p.body (i : Int)))) ∧ X.ownsRow Bk 22 1 av p.V.length (asL gs p.V)⟩;have n : ∀ g, vv.ownBlock = some g → Bk ≤ g := fun g e => QP o e
 have ac : LNew w.heap.size L := ⟨hMw, by show _ ≤ W.heap.size; omega, fun g e => by have := n g e; omega, fun g b => by have := ag g b; omega⟩;have ah : ∀ g, g < Bk → g ≠ M → g < L.b1 ∧ g ≠ L.M ∧ L.vv.ownBlock ≠ some g ∧ g ∉ L.ab := fun g h1 h2 => ⟨by show g < W.heap.size; omega, h2, fun e => by have := n g e; omega, fun e => by have := ag g e; omega⟩
 have hL : LOk L := by
  refine ⟨⟨fun X X' h c => ⟨h.1.trans (c.new ac), ?_, Abu h.2.2.1 c (fun g e => ah g (by have := KL hown e; omega) (by have := QP hown e; omega)), fun i v hi => Abu (h.2.2.2.1 i v hi) c (fun g e => ah g (by have := KL (hks i v hi) e; omega) (by have := QP (hks i v hi) e; omega)), Abu h.2.2.2.2 c (fun g e => ?_)⟩, ak, fun g e => ⟨KL o e, by have := n g e; show g ≠ M; omega, fun b => ax g b e⟩, fun g b => ⟨am g b, by have := ag g b; show g ≠ M; omega⟩, aw, by show fuel.toNat ≤ 20000; omega, hbl, hMw, by show w.heap.size ≤ W.heap.size; omega⟩, fun X h q t al => ?_, fun X h => hok.go h.1, fun X h i g b => ?_, s, fun X h => h.2.1⟩
  · obtain ⟨arr, d, he, hm⟩ := h.2.1;have := ah PB (by omega) (by omega);exact ⟨arr, d, (c.block PB this.1 this.2.1 this.2.2.1 this.2.2.2).trans he, hm⟩
  · refine ⟨KL j e, by have := QP j e; show g ≠ M; omega, fun e2 => ?_, fun b => ?_⟩
    · rcases Zg o j (by decide) with h0 | h0
      · rw [h0] at e; cases e
      · exact h0 (e2.trans e.symm)
    · obtain ⟨cs, hr⟩ := ae g b;exact Qx j hr (by decide) e
  · have ao : q < ks.length := by have := al.lt; show q < ks.length; rw [hkl]; exact this
    obtain ⟨A, c, hv, ap⟩ := Xy (h.2.2.2.1 q _ (La ao));obtain ⟨a2, c', z, az⟩ := Xy h.2.2.1;rw [an] at z;injection z with e1 e2 e3;subst e1;obtain ⟨ad, af, hc⟩ := az q _ (La ao);have hz := al.kidsZ;refine ⟨ad, A, c, af, ?_, ?_⟩
    · rw [hc, hv, hz]; simp [JP]
    · rw [hz] at ap; exact ap
  · obtain ⟨a0, c', u, ay⟩ := Xy h.2.2.2.2;rw [y] at u;injection u with e1 e2 e3;subst e1;have l : i < p.V.length := by have := (Lb.1 b).1; rw [← s]; exact this
    have ht := La l;obtain ⟨ad, af, hc⟩ := ay i _ (Ah5 b ht);exact ⟨ad, _, af, ht, hc⟩
 refine ⟨L, rfl, rfl, rfl, hL, ⟨[], .slice none 0 0, .slice none 0 0, rfl, ?_, World.ownsRow_nil _ _ _ _, World.ownsRow_nil _ _ _ _, ?_, ?_, fun x hx => by simp at hx, List.Pairwise.nil, ⟨bW, ar, own1, ai, j⟩, Nat.le_refl _, LF _, Nat.le_refl _⟩, bW, ac⟩
 · have hF : ((fuel.toNat : Nat) : Int) = fuel := by omega
   have e : L.cells (ZZ p.V args fuel.toNat) (.slice none 0 0) (.slice none 0 0) = ZR p kv vv av fuel PB := by
    rw [an, y, ← hkl.symm];unfold Lay.cells ZR;simp only [L, hF, s];rfl
   rw [e]; exact r
 · have hl : (JX p.V args).length = p.V.length := by simp [JX]
   rw [Lx (by omega)] at o;have := QL o (base' := w.heap.size) (by omega);show W.ownsRow w.heap.size 3 1 vv (JX p.V args).length (Qi (JX p.V args));rw [hl]; exact this
 · intro i g a b ha;have l : i < p.V.length := by have := (Lb.1 b).1; rw [← s]; exact this
   have ht := La l;have := m i g _ b ht;simp only [ZZ, Aar, L4, ht, Nl, Nb] at ha;rw [← ha]; exact this
structure K1 (p : PgV) (G M B0 PB : Nat) (F : Int) (w3 : World) (k : Nat) (W : World) : Prop where
 ex : ∃ kv ks, Row W M 184 (ZR p kv (.slice none 0 0) (.slice none 0 0) F PB) ∧ ks.length = k ∧ W.ownsRow B0 22 1 kv ks.length ks ∧ (∀ (i : Nat) (v : Value), ks[i]? = some v → W.ownsRow B0 3 1 v (kidsZ p.body (i : Int)).length (Qi (kidsZ p.body (i : Int)))) ∧ ChM M B0 w3 W
theorem AfO (p : PgV) (aa : Option Addr) (acap : Nat) (args : List Int) (fuel : Int) (w : World) (hbl : p.body.length ≤ 1000) (hn : args.length ≤ 1000) (hok : p.ok w) (hvars : KT p.params p.V) (hlen : (args.length : Int) = p.params) (hf : 0 ≤ fuel ∧ fuel ≤ 10000) (hra : Rd w aa (Qi args)) :
 Calls Tryz.prog 109 #[.agg p.cells, .slice aa args.length acap, .int .i64 fuel] w fun e w' => LoadR p args fuel.toNat w w' e := by
 have cd := Lh hok;have an := Lh hbl;have ee := Lh hra;have dm := Lh hvars;have ek := Lh hlen;have Hf := Lh hf;have Hn := Lh hn;clear hok hbl hra hvars hlen hf hn;go_enter Tryz.func109, Tryz.ntmps109
 go_wp2_with (refine Qm _ _ rfl ?_)
 refine Stop.to ?_;refine Qe rfl 25 _ rfl p.cells rfl ?_;intro G w1 hG r1 b1;replace b1 := (Below.refl w.heap.size w).trans (b1.mono hG);obtain ⟨S, a7⟩ : ∃ S, S = (fun W => Row W G 25 p.cells ∧ Below w.heap.size w W) := ⟨_, rfl⟩;have dv : St S := by rw [a7]; infer_instance
 have S0 : Hid (∀ W, S W → Row W G 25 p.cells) := by show ∀ W, _; rw [a7]; exact fun W h => h.1
 have S2 : Hid (∀ W, S W → Below w.heap.size w W) := by show ∀ W, _; rw [a7]; exact fun W h => h.2
 have d2 : S w1 := by rw [a7]; exact ⟨r1, b1⟩
 clear a7 r1 b1;go_wp2_with fail
 refine wp_region_held (S := S) (by kernel_rfl) ?_;simp only [Lk, Lc, Lo, Nat.reduceAdd, Li, Lj, Lp, Lm, Ll];show wpAnyH _ _ _ _ _ _ _ _ w1.drew;have hS : S w1.drew := St.drew d2;clear d2;generalize w1.drew = wd at hS ⊢;(refine tkH 0 _ rfl (Jd rfl 25 _ rfl G rfl 25 p.cells _ S0.out Tryz.underlying25 rfl (by kernel_rfl)) ?_; simp only [Act.put, Qa, Qb, Qc]);(refine tkH 1 (.int .i64 fuel) rfl (Qd rfl (fun W hW => by (go_simp))) ?_; simp only [Act.put, Qa, Qb, Qc]);(refine wpAnyH_all (rs := [2]) (by kernel_rfl) (by simp) (fun i hi => ?_); obtain rfl : i = 2 := by simpa using hi);refine Qf rfl rfl (fun K2 c => ?_);refine Qo (w1 := wd) 144 #[] (by go_simp; try rfl) ?_
 refine (Af1 wd).mono ?_;rintro e wp ⟨PB, rfl, de⟩;refine ⟨_, rfl, c _ _ ?_⟩;clear c K2;have em : w.heap.size ≤ PB := Lf (S2.out _ hS).size de.lo;replace hS := dv.go hS de.below;have dd := de.map;clear de;simp only [Act.put, Qa, Qb, Qc];refine ⟨hS, ?_⟩;(refine tkH 3 (.agg (ZR p (.slice none 0 0) (.slice none 0 0) (.slice none 0 0) fuel PB)) rfl (Qd rfl (fun W hW => by (go_simp; try rfl))) ?_; simp only [Act.put, Qa, Qb, Qc])
 (refine wpAnyH_all (rs := [4]) (by kernel_rfl) (by simp) (fun i hi => ?_); obtain rfl : i = 4 := by simpa using hi);refine Qf rfl rfl (fun K2 c => ?_);refine AeJ 184 _ rfl (ZR p (.slice none 0 0) (.slice none 0 0) (.slice none 0 0) fuel PB) rfl ?_;intro M w3 hM r3 b3;refine c _ _ ?_;clear c K2;simp only [Act.put, Qa, Qb, Qc];have da : w.heap.size ≤ M := Lf (S2.out _ hS).size hM;have el : G < M := Le (S0.out _ hS).lt hM;have eg : PB < M := Le dd.lt hM;have dc := dv.go hS (b3.mono hM);have dg := dd.below (b3.mono hM) dd.lt;refine ⟨dc, ?_⟩;(refine tkH 5 (.pointer (some ⟨M, 0, none⟩)) rfl (Qd rfl (fun W hW => by (go_simp))) ?_; simp only [Act.put, Qa, Qb, Qc]);refine wpAnyH_done (by kernel_rfl) ?_ _;have R3 := Lh r3;have G3 := Lh (S0.out _ dc);have B3 := Lh (S2.out _ dc);have P3 := Lh dg;clear S0 S2 dv hS dc dd dg r3 b3 hM;clear S wd wp w1;have c2 := G3.out.cellv (i := 2) (v := .slice p.ba p.body.length p.bcap) rfl;go_wp2_with fail
 obtain ⟨B0, ds⟩ : ∃ B0, B0 = w3.heap.size := ⟨_, rfl⟩;have ef : M < B0 := by rw [ds]; exact R3.out.lt
 have bm := Lh ds;clear ds c2;go_loopw [8, 20] (fun _ i W => ∃ (k : Nat), i = .int .i64 (k : Int) ∧ k ≤ p.body.length ∧ Hid (K1 p G M B0 PB fuel w3 k W)) (fun _ i _ => p.body.length - (intOf i).toNat)
 case atStart => exact ⟨0, rfl, Nat.zero_le _, Lh ⟨.slice none 0 0, [], R3.out, rfl, World.ownsRow_nil _ _ _ _, fun i v h => by simp at h, ChM.refl _ _ _⟩⟩
 case round =>
  obtain ⟨k, rfl, hk, hK⟩ := hrel;by_cases bx : k < p.body.length
  · obtain ⟨kv, ks, r, cp, ab, cq, ac⟩ := hK.out;have d5 : Below w.heap.size w wr := B3.out.trans (ac.to_below (by omega) da);obtain ⟨J, y⟩ : ∃ J, J = (fun W => Row W M 184 (ZR p kv (.slice none 0 0) (.slice none 0 0) fuel PB) ∧ W.ownsRow B0 22 1 kv ks.length ks ∧ (∀ (i : Nat) (v : Value), ks[i]? = some v → W.ownsRow B0 3 1 v (kidsZ p.body (i : Int)).length (Qi (kidsZ p.body (i : Int)))) ∧ ChM M B0 w3 W ∧ Row W G 25 p.cells ∧ Below w.heap.size w W) := ⟨_, rfl⟩
    have a3 : St J := by
     rw [y];refine ⟨fun {A A'} h b => ⟨h.1.below b h.1.lt, QA h.2.1 b, fun i v hi => QA (h.2.2.1 i v hi) b, h.2.2.2.1.trans (.below (b.mono ?_)), h.2.2.2.2.1.below b h.2.2.2.2.1.lt, h.2.2.2.2.2.trans (b.mono h.2.2.2.2.2.size)⟩⟩;have := h.2.2.2.1.size; have := bm.out; omega
    have hJ : J wr := by rw [y]; exact ⟨r, ab, cq, ac, G3.out.chm ac (by omega) (by omega), d5⟩
    have J0 : Hid (∀ W, J W → Row W M 184 (ZR p kv (.slice none 0 0) (.slice none 0 0) fuel PB)) := by show ∀ W, _; rw [y]; exact fun W h => h.1
    have J1 : Hid (∀ W, J W → W.ownsRow B0 22 1 kv ks.length ks) := by show ∀ W, _; rw [y]; exact fun W h => h.2.1
    have J2 : Hid (∀ W, J W → ∀ (i : Nat) (v : Value), ks[i]? = some v → W.ownsRow B0 3 1 v (kidsZ p.body (i : Int)).length (Qi (kidsZ p.body (i : Int)))) := by show ∀ W, _; rw [y]; exact fun W h => h.2.2.1
    have J3 : Hid (∀ W, J W → ChM M B0 w3 W) := by show ∀ W, _; rw [y]; exact fun W h => h.2.2.2.1
    have J4 : Hid (∀ W, J W → Row W G 25 p.cells) := by show ∀ W, _; rw [y]; exact fun W h => h.2.2.2.2.1
    have J5 : Hid (∀ W, J W → Below w.heap.size w W) := by show ∀ W, _; rw [y]; exact fun W h => h.2.2.2.2.2
    have ah := Lh cp;obtain ⟨i0, ap, aq, ar, au⟩ := info_parts Aiq;clear y r ab cq ac d5 hK cp;obtain ⟨S, a7⟩ : ∃ S, S = (fun W => Row W G 25 p.cells) := ⟨_, rfl⟩;have S0 : Hid (∀ W, S W → Row W G 25 p.cells) := by show ∀ W, _; rw [a7]; exact fun W h => h
    have S1 : Hid (∀ W, Row W G 25 p.cells → S W) := by show ∀ W, _; rw [a7]; exact fun W h => h
    clear a7;go_wp2_with fail
    refine wp_region_held (S := S) (by kernel_rfl) ?_;simp only [Lk, Lc, Lo, Nat.reduceAdd, Li, Lj, Lp, Lm, Ll];show wpAnyH _ _ _ _ _ _ _ _ wr.drew;have ao : J wr.drew := St.drew hJ;clear hJ;generalize wr.drew = wd at ao ⊢;have db : S wd := S1.out _ (J4.out _ ao);(refine tkH 0 (.pointer (some ⟨M, 0, none⟩)) rfl (Qd rfl (fun W hW => by (go_simp))) ?_; simp only [Act.put, Qa, Qb, Qc]);(refine tkH 1 (.pointer (some ⟨M, 0, none⟩)) rfl (Qd rfl (fun W hW => by (go_simp))) ?_; simp only [Act.put, Qa, Qb, Qc]);(refine tkH 2 (.pointer (some ⟨M, 0, none⟩)) rfl (Qd rfl (fun W hW => by (go_simp))) ?_; simp only [Act.put, Qa, Qb, Qc]);(refine tkH 3 (.pointer (some ⟨M, 3, none⟩)) rfl (Qd rfl (fun W hW => by (go_simp))) ?_; simp only [Act.put, Qa, Qb, Qc]);(refine tkH 5 (.pointer (some ⟨G, 2, none⟩)) rfl (Qd rfl (fun W hW => by (go_simp))) ?_; simp only [Act.put, Qa, Qb, Qc]);(refine tkH 6 (.slice p.ba p.body.length p.bcap) rfl (Qd rfl (fun W hW => by ((have h := (S0.out W hW).cellv (i := 2) (v := .slice p.ba p.body.length p.bcap) rfl; go_simp)))) ?_; simp only [Act.put, Qa, Qb, Qc]);(refine tkH 7 (.int .i64 (k : Int)) rfl (Qd rfl (fun W hW => by (go_simp))) ?_; simp only [Act.put, Qa, Qb, Qc]);refine wpAnyH_all (rs := [4, 8]) (by kernel_rfl) (by simp) (fun i hi => ?_);have ae : i = 4 ∨ i = 8 := by simpa using hi
    rcases ae with rfl | rfl
    · refine Qf rfl rfl (fun K2 c => ?_);refine Qj kv (w1 := wd) (by have h := (J0.out _ ao).cellv (i := 3) (v := kv) rfl; go_simp) ?_;refine c _ _ ?_;clear c K2;simp only [Act.put, Qa, Qb, Qc];refine ⟨db, ?_⟩;(refine wpAnyH_all (rs := [8]) (by kernel_rfl) (by simp) (fun i hi => ?_); obtain rfl : i = 8 := by simpa using hi);refine Qf rfl rfl (fun K2 c => ?_);refine Qo (w1 := wd) 133 #[.slice p.ba p.body.length p.bcap, .int .i64 (k : Int)] (by go_simp; try rfl) ?_
      refine (X4 p.ba p.bcap p.body (k : Int) wd (cd.out.go (J5.out _ ao)).brd an.out).mono ?_;rintro e w4 ⟨v, rfl, a9, b4⟩;obtain ⟨vA, vn, vc, rfl⟩ := Em a9;refine ⟨_, rfl, c _ _ ?_⟩;clear c K2;have a2 : J w4 := a3.go ao b4;have br : S w4 := S1.out _ (J4.out _ a2);have cs := JA a9;have bo := Lh cs;have cu := QL a9 (by have := (J3.out _ ao).size; have := bm.out; omega : B0 ≤ (wd).heap.size);have bp := Lh cu;clear a9 cu cs b4;simp only [Act.put, Qa, Qb, Qc];refine ⟨br, ?_⟩;(refine wpAnyH_all (rs := [9]) (by kernel_rfl) (by simp) (fun i hi => ?_); obtain rfl : i = 9 := by simpa using hi);refine Qf rfl rfl (fun K2 c => ?_);refine Qj (.slice (some ⟨w4.heap.size, 0, none⟩) 1 1) (w1 := w4.alloc (.cells #[.slice vA vn vc] 22)) (by have h := bo.out; go_simp; try rfl) ?_
      refine c _ _ ?_;clear c K2;have d : J (w4.alloc (.cells #[.slice vA vn vc] 22)) := a3.go a2 ((Below.refl _ _).alloc (Nat.le_refl _) _);have a6 : S (w4.alloc (.cells #[.slice vA vn vc] 22)) := S1.out _ (J4.out _ d);have bk := bp.out.alloc (.cells #[.slice vA vn vc] 22);have ax := Lh bk;clear bk;simp only [Act.put, Qa, Qb, Qc];refine ⟨a6, ?_⟩;(refine wpAnyH_all (rs := [10]) (by kernel_rfl) (by simp) (fun i hi => ?_); obtain rfl : i = 10 := by simpa using hi);refine Qf rfl rfl (fun K2 c => ?_);have am : B0 ≤ (w4.alloc (.cells #[.slice vA vn vc] 22)).heap.size := by have := (J3.out _ d).size; have := bm.out; omega
      refine Z6 (.tmp 27) (.tmp 32) 26 rfl B0 22 i0 (.slice none 0 0) 1 24 Tryz.underlying26 ap aq ar au rfl (by decide) kv ks.length ks rfl (J1.out _ d) ⟨w4.heap.size, 0, none⟩ 1 1 [.slice vA vn vc] rfl rfl (cell_one_new _ _ _) (by intro u hu; rw [Lv.1 hu]; exact bo.out) (by have := ah.out; have := an.out; unfold maxLen; omega) (by have := ah.out; have := an.out; omega) am ?_;intro aj w6 o x _;refine c _ _ ?_;clear c K2;have o5 := J1.out _ d;have ai := (J4.out _ d).grown x (fun e => by have := QP o5 e; omega);have be := (J0.out _ d).grown x (Qx o5 (J0.out _ d) (by decide));have bl := Q5 ax.out x (Zg ax.out o5 (by decide));have bg : ∀ (i : Nat) (u : Value), ks[i]? = some u → w6.ownsRow B0 3 1 u (kidsZ p.body (i : Int)).length (Qi (kidsZ p.body (i : Int))) := fun i u hi => Q5 (J2.out _ d i u hi) x (Zg (J2.out _ d i u hi) o5 (by decide));have bf := (J3.out _ d).trans (.grown x am (fun k e => QP o5 e));have al := JA o;have b2 := Lh ai;have b7 := Lh be;have ce := Lh bl;have b9 := Lh bg;have b8 := Lh bf;have cc := Lh o;simp only [Act.put, Qa, Qb, Qc];refine ⟨S1.out _ ai, ?_⟩;have d3 : S w6 := S1.out _ ai;clear ai be bl bg bf o x o5 d a6 a2 br ao db ax bp;(refine tkH 11 (.pointer (some ⟨M, 0, none⟩)) rfl (Qd rfl (fun W hW => by (go_simp))) ?_; simp only [Act.put, Qa, Qb, Qc]);(refine tkH 12 (.pointer (some ⟨M, 3, none⟩)) rfl (Qd rfl (fun W hW => by (go_simp))) ?_; simp only [Act.put, Qa, Qb, Qc]);(refine wpAnyH_all (rs := [13]) (by kernel_rfl) (by simp) (fun i hi => ?_); obtain rfl : i = 13 := by simpa using hi);refine Qf rfl rfl (fun K2 c => ?_);refine Zn 26 (.tmp 35) (.tmp 33) rfl M 3 rfl _ rfl [aj] (by cases aj <;> first | rfl | cases al) 184 _ (ZR p aj (.slice none 0 0) (.slice none 0 0) fuel PB) b7.out (by kernel_rfl) (by show 3 + 1 ≤ 14; omega) (by simpa using al) rfl ?_
      intro w7 r7 o7;refine c _ _ ?_;clear c K2;simp only [Act.put, Qa, Qb, Qc];refine ⟨S1.out _ (b2.out.only o7 (by omega)), ?_⟩;refine wpAnyH_done (by kernel_rfl) ?_ _
      have bd : K1 p G M B0 PB fuel w3 (k + 1) w7 := by
       have ne : ∀ {e : TypeId} {u : Value} {n : Nat} {xs : List Value}, w6.ownsRow B0 e 1 u n xs → w7.ownsRow B0 e 1 u n xs := fun h => Qu h o7 (fun e => by have := QP h e; omega)
       refine ⟨aj, ks ++ [.slice vA vn vc], r7, by simp [ah.out], by simpa using ne cc.out, fun i u hi => ?_, b8.out.trans (.only o7)⟩;rcases Nc i ks.length with hl | hl | hl
       · rw [L1 hl] at hi; exact ne (b9.out i u hi)
       · subst hl;rw [Lw (Nat.le_refl _), Nt] at hi;injection hi with hi;subst hi;rw [ah.out];exact ne ce.out
       · rw [Lw (by omega)] at hi;have := (Lb.1 hi).1;simp at this; omega
      have b6 := Lh bd;clear bd r7 o7;have hbl := an.out;go_wp2_with fail
      go_roundw
      case rel => exact ⟨k + 1, by go_num, by omega, b6⟩
      case measure => simp [intOf]; omega
    · refine Qf rfl rfl (fun K2 c => ?_);refine Qo (w1 := wd) 133 #[.slice p.ba p.body.length p.bcap, .int .i64 (k : Int)] (by go_simp; try rfl) ?_
      refine (X4 p.ba p.bcap p.body (k : Int) wd (cd.out.go (J5.out _ ao)).brd an.out).mono ?_;rintro e w4 ⟨v, rfl, a9, b4⟩;obtain ⟨vA, vn, vc, rfl⟩ := Em a9;refine ⟨_, rfl, c _ _ ?_⟩;clear c K2;have a2 : J w4 := a3.go ao b4;have br : S w4 := S1.out _ (J4.out _ a2);have cs := JA a9;have bo := Lh cs;have cu := QL a9 (by have := (J3.out _ ao).size; have := bm.out; omega : B0 ≤ (wd).heap.size);have bp := Lh cu;clear a9 cu cs b4;simp only [Act.put, Qa, Qb, Qc];refine ⟨br, ?_⟩;refine wpAnyH_all (rs := [4, 9]) (by kernel_rfl) (by simp) (fun i hi => ?_);have ae : i = 4 ∨ i = 9 := by simpa using hi
      rcases ae with rfl | rfl
      · refine Qf rfl rfl (fun K2 c => ?_);refine Qj kv (w1 := w4) (by have h := (J0.out _ a2).cellv (i := 3) (v := kv) rfl; go_simp) ?_;refine c _ _ ?_;clear c K2;simp only [Act.put, Qa, Qb, Qc];refine ⟨br, ?_⟩;(refine wpAnyH_all (rs := [9]) (by kernel_rfl) (by simp) (fun i hi => ?_); obtain rfl : i = 9 := by simpa using hi);refine Qf rfl rfl (fun K2 c => ?_);refine Qj (.slice (some ⟨w4.heap.size, 0, none⟩) 1 1) (w1 := w4.alloc (.cells #[.slice vA vn vc] 22)) (by have h := bo.out; go_simp; try rfl) ?_
        refine c _ _ ?_;clear c K2;have d : J (w4.alloc (.cells #[.slice vA vn vc] 22)) := a3.go a2 ((Below.refl _ _).alloc (Nat.le_refl _) _);have a6 : S (w4.alloc (.cells #[.slice vA vn vc] 22)) := S1.out _ (J4.out _ d);have bk := bp.out.alloc (.cells #[.slice vA vn vc] 22);have ax := Lh bk;clear bk;simp only [Act.put, Qa, Qb, Qc];refine ⟨a6, ?_⟩;(refine wpAnyH_all (rs := [10]) (by kernel_rfl) (by simp) (fun i hi => ?_); obtain rfl : i = 10 := by simpa using hi);refine Qf rfl rfl (fun K2 c => ?_);have am : B0 ≤ (w4.alloc (.cells #[.slice vA vn vc] 22)).heap.size := by have := (J3.out _ d).size; have := bm.out; omega
        refine Z6 (.tmp 27) (.tmp 32) 26 rfl B0 22 i0 (.slice none 0 0) 1 24 Tryz.underlying26 ap aq ar au rfl (by decide) kv ks.length ks rfl (J1.out _ d) ⟨w4.heap.size, 0, none⟩ 1 1 [.slice vA vn vc] rfl rfl (cell_one_new _ _ _) (by intro u hu; rw [Lv.1 hu]; exact bo.out) (by have := ah.out; have := an.out; unfold maxLen; omega) (by have := ah.out; have := an.out; omega) am ?_;intro aj w6 o x _;refine c _ _ ?_;clear c K2;have o5 := J1.out _ d;have ai := (J4.out _ d).grown x (fun e => by have := QP o5 e; omega);have be := (J0.out _ d).grown x (Qx o5 (J0.out _ d) (by decide));have bl := Q5 ax.out x (Zg ax.out o5 (by decide));have bg : ∀ (i : Nat) (u : Value), ks[i]? = some u → w6.ownsRow B0 3 1 u (kidsZ p.body (i : Int)).length (Qi (kidsZ p.body (i : Int))) := fun i u hi => Q5 (J2.out _ d i u hi) x (Zg (J2.out _ d i u hi) o5 (by decide));have bf := (J3.out _ d).trans (.grown x am (fun k e => QP o5 e));have al := JA o;have b2 := Lh ai;have b7 := Lh be;have ce := Lh bl;have b9 := Lh bg;have b8 := Lh bf;have cc := Lh o;simp only [Act.put, Qa, Qb, Qc];refine ⟨S1.out _ ai, ?_⟩;have d3 : S w6 := S1.out _ ai;clear ai be bl bg bf o x o5 d a6 a2 br ao db ax bp;(refine tkH 11 (.pointer (some ⟨M, 0, none⟩)) rfl (Qd rfl (fun W hW => by (go_simp))) ?_; simp only [Act.put, Qa, Qb, Qc]);(refine tkH 12 (.pointer (some ⟨M, 3, none⟩)) rfl (Qd rfl (fun W hW => by (go_simp))) ?_; simp only [Act.put, Qa, Qb, Qc]);(refine wpAnyH_all (rs := [13]) (by kernel_rfl) (by simp) (fun i hi => ?_); obtain rfl : i = 13 := by simpa using hi);refine Qf rfl rfl (fun K2 c => ?_);refine Zn 26 (.tmp 35) (.tmp 33) rfl M 3 rfl _ rfl [aj] (by cases aj <;> first | rfl | cases al) 184 _ (ZR p aj (.slice none 0 0) (.slice none 0 0) fuel PB) b7.out (by kernel_rfl) (by show 3 + 1 ≤ 14; omega) (by simpa using al) rfl ?_
        intro w7 r7 o7;refine c _ _ ?_;clear c K2;simp only [Act.put, Qa, Qb, Qc];refine ⟨S1.out _ (b2.out.only o7 (by omega)), ?_⟩;refine wpAnyH_done (by kernel_rfl) ?_ _
        have bd : K1 p G M B0 PB fuel w3 (k + 1) w7 := by
         have ne : ∀ {e : TypeId} {u : Value} {n : Nat} {xs : List Value}, w6.ownsRow B0 e 1 u n xs → w7.ownsRow B0 e 1 u n xs := fun h => Qu h o7 (fun e => by have := QP h e; omega)
         refine ⟨aj, ks ++ [.slice vA vn vc], r7, by simp [ah.out], by simpa using ne cc.out, fun i u hi => ?_, b8.out.trans (.only o7)⟩;rcases Nc i ks.length with hl | hl | hl
         · rw [L1 hl] at hi; exact ne (b9.out i u hi)
         · subst hl;rw [Lw (Nat.le_refl _), Nt] at hi;injection hi with hi;subst hi;rw [ah.out];exact ne ce.out
         · rw [Lw (by omega)] at hi;have := (Lb.1 hi).1;simp at this; omega
        have b6 := Lh bd;clear bd r7 o7;have hbl := an.out;go_wp2_with fail
        go_roundw
        case rel => exact ⟨k + 1, by go_num, by omega, b6⟩
        case measure => simp [intOf]; omega
      · refine Qf rfl rfl (fun K2 c => ?_);refine Qj (.slice (some ⟨w4.heap.size, 0, none⟩) 1 1) (w1 := w4.alloc (.cells #[.slice vA vn vc] 22)) (by have h := bo.out; go_simp; try rfl) ?_
        refine c _ _ ?_;clear c K2;have d : J (w4.alloc (.cells #[.slice vA vn vc] 22)) := a3.go a2 ((Below.refl _ _).alloc (Nat.le_refl _) _);have a6 : S (w4.alloc (.cells #[.slice vA vn vc] 22)) := S1.out _ (J4.out _ d);have bk := bp.out.alloc (.cells #[.slice vA vn vc] 22);have ax := Lh bk;clear bk;simp only [Act.put, Qa, Qb, Qc];refine ⟨a6, ?_⟩;(refine wpAnyH_all (rs := [4]) (by kernel_rfl) (by simp) (fun i hi => ?_); obtain rfl : i = 4 := by simpa using hi);refine Qf rfl rfl (fun K2 c => ?_);refine Qj kv (w1 := (w4.alloc (.cells #[.slice vA vn vc] 22))) (by have h := (J0.out _ d).cellv (i := 3) (v := kv) rfl; go_simp) ?_;refine c _ _ ?_;clear c K2;simp only [Act.put, Qa, Qb, Qc];refine ⟨a6, ?_⟩;(refine wpAnyH_all (rs := [10]) (by kernel_rfl) (by simp) (fun i hi => ?_); obtain rfl : i = 10 := by simpa using hi);refine Qf rfl rfl (fun K2 c => ?_);have am : B0 ≤ (w4.alloc (.cells #[.slice vA vn vc] 22)).heap.size := by have := (J3.out _ d).size; have := bm.out; omega
        refine Z6 (.tmp 27) (.tmp 32) 26 rfl B0 22 i0 (.slice none 0 0) 1 24 Tryz.underlying26 ap aq ar au rfl (by decide) kv ks.length ks rfl (J1.out _ d) ⟨w4.heap.size, 0, none⟩ 1 1 [.slice vA vn vc] rfl rfl (cell_one_new _ _ _) (by intro u hu; rw [Lv.1 hu]; exact bo.out) (by have := ah.out; have := an.out; unfold maxLen; omega) (by have := ah.out; have := an.out; omega) am ?_;intro aj w6 o x _;refine c _ _ ?_;clear c K2;have o5 := J1.out _ d;have ai := (J4.out _ d).grown x (fun e => by have := QP o5 e; omega);have be := (J0.out _ d).grown x (Qx o5 (J0.out _ d) (by decide));have bl := Q5 ax.out x (Zg ax.out o5 (by decide));have bg : ∀ (i : Nat) (u : Value), ks[i]? = some u → w6.ownsRow B0 3 1 u (kidsZ p.body (i : Int)).length (Qi (kidsZ p.body (i : Int))) := fun i u hi => Q5 (J2.out _ d i u hi) x (Zg (J2.out _ d i u hi) o5 (by decide));have bf := (J3.out _ d).trans (.grown x am (fun k e => QP o5 e));have al := JA o;have b2 := Lh ai;have b7 := Lh be;have ce := Lh bl;have b9 := Lh bg;have b8 := Lh bf;have cc := Lh o;simp only [Act.put, Qa, Qb, Qc];refine ⟨S1.out _ ai, ?_⟩;have d3 : S w6 := S1.out _ ai;clear ai be bl bg bf o x o5 d a6 a2 br ao db ax bp;(refine tkH 11 (.pointer (some ⟨M, 0, none⟩)) rfl (Qd rfl (fun W hW => by (go_simp))) ?_; simp only [Act.put, Qa, Qb, Qc]);(refine tkH 12 (.pointer (some ⟨M, 3, none⟩)) rfl (Qd rfl (fun W hW => by (go_simp))) ?_; simp only [Act.put, Qa, Qb, Qc]);(refine wpAnyH_all (rs := [13]) (by kernel_rfl) (by simp) (fun i hi => ?_); obtain rfl : i = 13 := by simpa using hi);refine Qf rfl rfl (fun K2 c => ?_);refine Zn 26 (.tmp 35) (.tmp 33) rfl M 3 rfl _ rfl [aj] (by cases aj <;> first | rfl | cases al) 184 _ (ZR p aj (.slice none 0 0) (.slice none 0 0) fuel PB) b7.out (by kernel_rfl) (by show 3 + 1 ≤ 14; omega) (by simpa using al) rfl ?_
        intro w7 r7 o7;refine c _ _ ?_;clear c K2;simp only [Act.put, Qa, Qb, Qc];refine ⟨S1.out _ (b2.out.only o7 (by omega)), ?_⟩;refine wpAnyH_done (by kernel_rfl) ?_ _
        have bd : K1 p G M B0 PB fuel w3 (k + 1) w7 := by
         have ne : ∀ {e : TypeId} {u : Value} {n : Nat} {xs : List Value}, w6.ownsRow B0 e 1 u n xs → w7.ownsRow B0 e 1 u n xs := fun h => Qu h o7 (fun e => by have := QP h e; omega)
         refine ⟨aj, ks ++ [.slice vA vn vc], r7, by simp [ah.out], by simpa using ne cc.out, fun i u hi => ?_, b8.out.trans (.only o7)⟩;rcases Nc i ks.length with hl | hl | hl
         · rw [L1 hl] at hi; exact ne (b9.out i u hi)
         · subst hl;rw [Lw (Nat.le_refl _), Nt] at hi;injection hi with hi;subst hi;rw [ah.out];exact ne ce.out
         · rw [Lw (by omega)] at hi;have := (Lb.1 hi).1;simp at this; omega
        have b6 := Lh bd;clear bd r7 o7;have hbl := an.out;go_wp2_with fail
        go_roundw
        case rel => exact ⟨k + 1, by go_num, by omega, b6⟩
        case measure => simp [intOf]; omega
  · obtain rfl : k = p.body.length := by omega
    clear bx hk
    have c1 : wr.cell? ⟨G, 1, none⟩ = some (.slice p.va p.V.length p.vcap) := by
     obtain ⟨_, _, _, _, _, _, ac⟩ := hK.out;exact (G3.out.chm ac (by omega) (by omega)).cellv (i := 1) rfl
    go_wp2_with fail
    obtain ⟨W1, rfl⟩ : ∃ W1, W1 = wr := ⟨_, rfl⟩;obtain ⟨kv, ks, r, cp, ab, cq, ac⟩ := hK.out;have R1 := Lh r;have ah := Lh cp;have dz := Lh ab;have ed := Lh cq;have dx := Lh ac;obtain ⟨z, d1⟩ : ∃ z, z = W1.heap.size := ⟨_, rfl⟩;have dw := Lh d1;have d0 : B0 ≤ z := by have := ac.size; have := bm.out; omega
    have en : p.V.length ≤ 12 := dm.out.2.2.1;clear hK c1 r cp ab cq ac d1;go_loopw [9, 10, 11, 40] (fun _ _ _ i W => ∃ (k : Nat), i = .int .i64 (k : Int) ∧ k ≤ p.V.length ∧ Hid (K2 p M z PB fuel kv args W1 k W)) (fun _ _ _ i _ => p.V.length - (intOf i).toNat)
    case atStart => exact ⟨0, rfl, Nat.zero_le _, Lh ⟨.slice none 0 0, .slice none 0 0, [], R1.out, rfl, by simpa [Qi] using World.ownsRow_nil W1 z 3 1, by simpa [asL] using World.ownsRow_nil W1 z 22 1, fun i g t h => by simp at h, fun g h => by simp at h, List.nodup_nil, fun g h => by simp at h, ChM.refl _ _ _⟩⟩
    case round =>
     obtain ⟨k, rfl, hk, hK⟩ := hrel;by_cases bx : k < p.V.length
     · obtain ⟨vv, av, gs, r, bw, ec, d4, ct, d7, d9, ea, ac⟩ := hK.out;obtain ⟨t, ht⟩ : ∃ t, p.V[k]? = some t := ⟨_, La bx⟩;have dt : Below w.heap.size w wr := B3.out.trans ((dx.out.to_below (by omega) da).trans (ac.to_below (by omega) da));obtain ⟨vd, eb, cv⟩ := Zc (cd.out.go dt).vrd ht;have dh : z ≤ wr.heap.size := by have := ac.size; have := dw.out; omega
       have df : InI t := cd.out.vin t (Lg ht);obtain ⟨J, y⟩ : ∃ J, J = (fun W => Row W M 184 (ZR p kv vv av fuel PB) ∧ W.ownsRow z 3 1 vv k (Qi ((JX p.V args).take k)) ∧ W.ownsRow z 22 1 av k (asL gs p.V) ∧ (∀ (i g : Nat) (t : Int), gs[i]? = some g → p.V[i]? = some t → Row W g 3 (Qi (List.replicate (QU t).toNat 0)).toArray) ∧ ChM M z W1 W ∧ z ≤ W.heap.size) := ⟨_, rfl⟩
       have a3 : St J := by
        rw [y];exact ⟨fun {A A'} h b => ⟨h.1.below b h.1.lt, QA h.2.1 b, QA h.2.2.1 b, fun i g t m h2 => (h.2.2.2.1 i g t m h2).below b (h.2.2.2.1 i g t m h2).lt, h.2.2.2.2.1.trans (.below (b.mono h.2.2.2.2.2)), Lf h.2.2.2.2.2 b.size⟩⟩
       have hJ : J wr := by rw [y]; exact ⟨r, ec, d4, ct, ac, dh⟩
       have J0 : Hid (∀ W, J W → Row W M 184 (ZR p kv vv av fuel PB)) := by show ∀ W, _; rw [y]; exact fun W h => h.1
       have J1 : Hid (∀ W, J W → W.ownsRow z 3 1 vv k (Qi ((JX p.V args).take k))) := by show ∀ W, _; rw [y]; exact fun W h => h.2.1
       have J2 : Hid (∀ W, J W → W.ownsRow z 22 1 av k (asL gs p.V)) := by show ∀ W, _; rw [y]; exact fun W h => h.2.2.1
       have J3 : Hid (∀ W, J W → ∀ (i g : Nat) (t : Int), gs[i]? = some g → p.V[i]? = some t → Row W g 3 (Qi (List.replicate (QU t).toNat 0)).toArray) := by show ∀ W, _; rw [y]; exact fun W h => h.2.2.2.1
       have J4 : Hid (∀ W, J W → ChM M z W1 W) := by show ∀ W, _; rw [y]; exact fun W h => h.2.2.2.2.1
       have J5 : Hid (∀ W, J W → z ≤ W.heap.size) := by show ∀ W, _; rw [y]; exact fun W h => h.2.2.2.2.2
       have bv := Lh bw;have bu := Lh d7;have dy := Lh d9;have c9 := Lh ea;have Ht := Lh ht;obtain ⟨i0, ap, aq, ar, au⟩ := info_parts AaK;have c4 := r.cellv (i := 4) (v := vv) rfl;have hra := ee.out.go (dt.mono (Nat.le_refl _));clear y r ec d4 ct ac dh hK bw d7 d9 ea ht dt;by_cases d8 : k < args.length
       · obtain ⟨ad, ei, ca⟩ := Zc hra (La d8);have d6 : decide ((k : Int) < (args.length : Int)) = true := by simp; omega
         have hx : args.getD k 0 = args[k] := by simp [List.getD, La d8]
         rw [← hx] at ca;obtain ⟨xk, du⟩ : ∃ xk, args.getD k 0 = xk := ⟨_, rfl⟩;rw [du] at ca;have dn := Lh du;clear hx du;rw [eb, ei];go_wp2_with (at_builtin; refine AeQ ?_)
         refine Stop.to ?_;refine (wpList_append_own_at _ rfl (.tmp 57) (.tmp 59) 22 rfl z 3 i0 (.int .i64 0) 1 8 Tryz.underlying22 ap aq ar au rfl (by decide) vv k _ rfl (QA (J1.out _ hJ) ((Below.refl _ _).alloc (Nat.le_refl _) _)) ⟨wr.heap.size, 0, none⟩ 1 1 [.int .i64 xk] rfl rfl (cell_one_new _ _ _) (by simp [Value.oneCell']) (by unfold maxLen; omega) (by omega) (by have := J5.out _ hJ; simp; omega) ?_);intro s W2 ab hg _ co;have l : J (wr.alloc (.cells #[.int .i64 xk] 3)) := a3.go hJ ((Below.refl _ _).alloc (Nat.le_refl _) _);have c0 := (J0.out _ l).grown hg (Qx (J1.out _ l) (J0.out _ l) (by decide));have ci := Q5 (J2.out _ l) hg (Zg (J2.out _ l) (J1.out _ l) (by decide));have a0 : ∀ (i g : Nat) (t : Int), gs[i]? = some g → p.V[i]? = some t → Row W2 g 3 (Qi (List.replicate (QU t).toNat 0)).toArray := fun i g t m h2 => (J3.out _ l i g t m h2).grown hg (c9.out g (Lg m));have cj := (J4.out _ l).trans (.grown hg (J5.out _ l) (fun k e => QP (J1.out _ l) e));have c5 : z ≤ W2.heap.size := Lf (J5.out _ l) hg.size
         have bh : ∀ g ∈ gs, s.ownBlock ≠ some g := by
          intro g a8;rcases co with e | e
          · rw [e]; exact c9.out g a8
          · obtain ⟨i, bs, hi⟩ := Nm a8;have m : gs[i]? = some g := by rw [La bs, hi]
            have h2 : p.V[i]? = some (p.V[i]'(by have := bv.out; omega)) := La _;have := (J3.out _ l i g _ m h2).lt;rw [e];intro e3;injection e3 with e3;omega
         have af : W2.ownsRow z 3 1 s (k + 1) (Qi ((JX p.V args).take (k + 1))) := by rw [ES bx, dn.out]; simpa [Qi] using ab
         have bi := JA af;have cg := Lh c0;have bz := Lh ci;have ay := Lh a0;have b0 := Lh cj;have cb := Lh bh;have aw := Lh af;clear c0 ci a0 cj bh af ab hg co l hJ c4 hra cv;go_wp2_with (refine Qv _ _ _ rfl ?_)
         refine Stop.to ?_;refine Qq rfl 22 _ _ rfl M 4 rfl _ rfl [s] (by cases s <;> first | rfl | cases bi) 184 _ (ZR p kv s av fuel PB) cg.out (by kernel_rfl) (by show 4 + 1 ≤ 14; omega) (by simpa using bi) rfl ?_
         intro W3 r3 o3
         have k3 : K3 p M z PB fuel kv s av args gs W1 k W3 := by
          have ne : ∀ {e : TypeId} {u : Value} {n : Nat} {xs : List Value}, W2.ownsRow z e 1 u n xs → W3.ownsRow z e 1 u n xs := fun h => Qu h o3 (fun e => by have := QP h e; omega)
          exact ⟨r3, ne aw.out, ne bz.out, fun i g t m h2 => (ay.out i g t m h2).only o3 (by have := bu.out g (Lg m); omega), b0.out.trans (.only o3), by rw [o3.size]; exact c5⟩
         have cx : K3 p M z PB fuel kv s av args gs W1 k W3.drew := k3.go ⟨rfl, rfl, rfl, Nat.le_refl _, fun _ _ => rfl⟩;have KE := Lh cx;clear r3 o3 k3 cx cg bz ay b0 aw c5 J0 J1 J2 J3 J4 J5 a3 J ap aq ar au i0;obtain ⟨i0, ap, aq, ar, au⟩ := info_parts AcC;obtain ⟨n, hn⟩ : ∃ n : Nat, QU t = (n : Int) := ⟨(QU t).toNat, by unfold QU; split <;> omega⟩
         have ej : n ≤ 8 := by unfold QU at hn; split at hn <;> omega
         have cr : ∀ W : World, (Instr.makeSlice 22 (.int .i64 (n : Int)) (.int .i64 (n : Int))).run Tryz.prog W = .ok (.slice (some ⟨W.heap.size, 0, none⟩) n n) (W.alloc (.cells (Qi (List.replicate n 0)).toArray 3)) := fun W => by
          have := run_make_row' (P := Tryz.prog) (w := W) 22 3 (.int .i64 0) 8 Tryz.underlying22 Jo rfl .i64 .i64 n (by omega) (by omega);rw [show madeCells #[Value.int .i64 0] n = (Qi (List.replicate n 0)).toArray from by rw [Xg]; simp [Qi]] at this;exact this
         have bn := Lh cr;have a4 := Lh hn;clear cr hn;go_wp2_with fail
         refine wp_region_held (S := fun _ => True) (by kernel_rfl) ?_;simp only [Lk, Lc, Lo, Nat.reduceAdd, Li, Lj, Lp, Lm, Ll];show wpAnyH _ _ _ _ _ _ _ _ W3.drew;generalize W3.drew = we at KE ⊢;have eh : (fun _ : World => True) we := trivial;(refine tkH 0 (.pointer (some ⟨M, 0, none⟩)) rfl (Qd rfl (fun W hW => by (go_simp))) ?_; simp only [Act.put, Qa, Qb, Qc]);(refine tkH 1 (.pointer (some ⟨M, 0, none⟩)) rfl (Qd rfl (fun W hW => by (go_simp))) ?_; simp only [Act.put, Qa, Qb, Qc]);(refine tkH 2 (.pointer (some ⟨M, 0, none⟩)) rfl (Qd rfl (fun W hW => by (go_simp))) ?_; simp only [Act.put, Qa, Qb, Qc]);(refine tkH 3 (.pointer (some ⟨M, 5, none⟩)) rfl (Qd rfl (fun W hW => by (go_simp))) ?_; simp only [Act.put, Qa, Qb, Qc]);(refine tkH 5 (.int .i64 t) rfl (Qd rfl (fun W hW => by (go_simp))) ?_; simp only [Act.put, Qa, Qb, Qc]);apply AdB
         case main =>
          intro bb;refine wpAnyH_all (rs := [4, 6]) (by kernel_rfl) (by simp) (fun i hi => ?_);have ae : i = 4 ∨ i = 6 := by simpa using hi
          rcases ae with rfl | rfl
          · refine Qf rfl rfl (fun K2 c => ?_);refine Qj av (w1 := we) (by have h := (KE.out).row.cellv (i := 5) (v := av) rfl; go_simp) ?_;refine c _ _ ?_;clear c K2;simp only [Act.put, Qa, Qb, Qc];refine ⟨trivial, ?_⟩;(refine wpAnyH_all (rs := [6]) (by kernel_rfl) (by simp) (fun i hi => ?_); obtain rfl : i = 6 := by simpa using hi);refine Qf rfl rfl (fun K2 c => ?_);refine Qo (w1 := we) 97 #[.int .i64 t] (by go_simp; try rfl) ?_
            refine (Ks t we df).mono ?_;rintro e w4 ⟨rfl, rfl⟩;rw [a4.out];refine ⟨_, rfl, c _ _ ?_⟩;clear c K2;simp only [Act.put, Qa, Qb, Qc];refine ⟨trivial, ?_⟩;(refine wpAnyH_all (rs := [7]) (by kernel_rfl) (by simp) (fun i hi => ?_); obtain rfl : i = 7 := by simpa using hi);refine Qf rfl rfl (fun K2 c => ?_);refine Qj (.slice (some ⟨we.heap.size, 0, none⟩) n n) (Zy rfl rfl rfl (bn.out we)) ?_;refine c _ _ ?_;clear c K2;have KM := KE.out.go (A' := we.alloc (.cells (Qi (List.replicate n 0)).toArray 3)) ((Below.refl _ _).alloc (Nat.le_refl _) _);simp only [Act.put, Qa, Qb, Qc];refine ⟨trivial, ?_⟩;(refine wpAnyH_all (rs := [8]) (by kernel_rfl) (by simp) (fun i hi => ?_); obtain rfl : i = 8 := by simpa using hi);refine Qf rfl rfl (fun K2 c => ?_);refine Qj (.slice (some ⟨(we.alloc (.cells (Qi (List.replicate n 0)).toArray 3)).heap.size, 0, none⟩) 1 1) (w1 := (we.alloc (.cells (Qi (List.replicate n 0)).toArray 3)).alloc (.cells #[.slice (some ⟨we.heap.size, 0, none⟩) n n] 22)) (by go_simp; try rfl) ?_
            refine c _ _ ?_;clear c K2;have q := KM.go (A' := (we.alloc (.cells (Qi (List.replicate n 0)).toArray 3)).alloc (.cells #[.slice (some ⟨we.heap.size, 0, none⟩) n n] 22)) ((Below.refl _ _).alloc (Nat.le_refl _) _);simp only [Act.put, Qa, Qb, Qc];refine ⟨trivial, ?_⟩;exact bb
          · refine Qf rfl rfl (fun K2 c => ?_);refine Qo (w1 := we) 97 #[.int .i64 t] (by go_simp; try rfl) ?_
            refine (Ks t we df).mono ?_;rintro e w4 ⟨rfl, rfl⟩;rw [a4.out];refine ⟨_, rfl, c _ _ ?_⟩;clear c K2;simp only [Act.put, Qa, Qb, Qc];refine ⟨trivial, ?_⟩;refine wpAnyH_all (rs := [4, 7]) (by kernel_rfl) (by simp) (fun i hi => ?_);have ae : i = 4 ∨ i = 7 := by simpa using hi
            rcases ae with rfl | rfl
            · refine Qf rfl rfl (fun K2 c => ?_);refine Qj av (w1 := we) (by have h := (KE.out).row.cellv (i := 5) (v := av) rfl; go_simp) ?_;refine c _ _ ?_;clear c K2;simp only [Act.put, Qa, Qb, Qc];refine ⟨trivial, ?_⟩;(refine wpAnyH_all (rs := [7]) (by kernel_rfl) (by simp) (fun i hi => ?_); obtain rfl : i = 7 := by simpa using hi);refine Qf rfl rfl (fun K2 c => ?_);refine Qj (.slice (some ⟨we.heap.size, 0, none⟩) n n) (Zy rfl rfl rfl (bn.out we)) ?_;refine c _ _ ?_;clear c K2;have KM := KE.out.go (A' := we.alloc (.cells (Qi (List.replicate n 0)).toArray 3)) ((Below.refl _ _).alloc (Nat.le_refl _) _);simp only [Act.put, Qa, Qb, Qc];refine ⟨trivial, ?_⟩;(refine wpAnyH_all (rs := [8]) (by kernel_rfl) (by simp) (fun i hi => ?_); obtain rfl : i = 8 := by simpa using hi);refine Qf rfl rfl (fun K2 c => ?_);refine Qj (.slice (some ⟨(we.alloc (.cells (Qi (List.replicate n 0)).toArray 3)).heap.size, 0, none⟩) 1 1) (w1 := (we.alloc (.cells (Qi (List.replicate n 0)).toArray 3)).alloc (.cells #[.slice (some ⟨we.heap.size, 0, none⟩) n n] 22)) (by go_simp; try rfl) ?_
              refine c _ _ ?_;clear c K2;have q := KM.go (A' := (we.alloc (.cells (Qi (List.replicate n 0)).toArray 3)).alloc (.cells #[.slice (some ⟨we.heap.size, 0, none⟩) n n] 22)) ((Below.refl _ _).alloc (Nat.le_refl _) _);simp only [Act.put, Qa, Qb, Qc];refine ⟨trivial, ?_⟩;exact bb
            · refine Qf rfl rfl (fun K2 c => ?_);refine Qj (.slice (some ⟨we.heap.size, 0, none⟩) n n) (Zy rfl rfl rfl (bn.out we)) ?_;refine c _ _ ?_;clear c K2;have KM := KE.out.go (A' := we.alloc (.cells (Qi (List.replicate n 0)).toArray 3)) ((Below.refl _ _).alloc (Nat.le_refl _) _);simp only [Act.put, Qa, Qb, Qc];refine ⟨trivial, ?_⟩;refine wpAnyH_all (rs := [4, 8]) (by kernel_rfl) (by simp) (fun i hi => ?_);have ae : i = 4 ∨ i = 8 := by simpa using hi
              rcases ae with rfl | rfl
              · refine Qf rfl rfl (fun K2 c => ?_);refine Qj av (w1 := (we.alloc (.cells (Qi (List.replicate n 0)).toArray 3))) (by have h := (KM).row.cellv (i := 5) (v := av) rfl; go_simp) ?_;refine c _ _ ?_;clear c K2;simp only [Act.put, Qa, Qb, Qc];refine ⟨trivial, ?_⟩;(refine wpAnyH_all (rs := [8]) (by kernel_rfl) (by simp) (fun i hi => ?_); obtain rfl : i = 8 := by simpa using hi);refine Qf rfl rfl (fun K2 c => ?_);refine Qj (.slice (some ⟨(we.alloc (.cells (Qi (List.replicate n 0)).toArray 3)).heap.size, 0, none⟩) 1 1) (w1 := (we.alloc (.cells (Qi (List.replicate n 0)).toArray 3)).alloc (.cells #[.slice (some ⟨we.heap.size, 0, none⟩) n n] 22)) (by go_simp; try rfl) ?_
                refine c _ _ ?_;clear c K2;have q := KM.go (A' := (we.alloc (.cells (Qi (List.replicate n 0)).toArray 3)).alloc (.cells #[.slice (some ⟨we.heap.size, 0, none⟩) n n] 22)) ((Below.refl _ _).alloc (Nat.le_refl _) _);simp only [Act.put, Qa, Qb, Qc];refine ⟨trivial, ?_⟩;exact bb
              · refine Qf rfl rfl (fun K2 c => ?_);refine Qj (.slice (some ⟨(we.alloc (.cells (Qi (List.replicate n 0)).toArray 3)).heap.size, 0, none⟩) 1 1) (w1 := (we.alloc (.cells (Qi (List.replicate n 0)).toArray 3)).alloc (.cells #[.slice (some ⟨we.heap.size, 0, none⟩) n n] 22)) (by go_simp; try rfl) ?_
                refine c _ _ ?_;clear c K2;have q := KM.go (A' := (we.alloc (.cells (Qi (List.replicate n 0)).toArray 3)).alloc (.cells #[.slice (some ⟨we.heap.size, 0, none⟩) n n] 22)) ((Below.refl _ _).alloc (Nat.le_refl _) _);simp only [Act.put, Qa, Qb, Qc];refine ⟨trivial, ?_⟩;(refine wpAnyH_all (rs := [4]) (by kernel_rfl) (by simp) (fun i hi => ?_); obtain rfl : i = 4 := by simpa using hi);refine Qf rfl rfl (fun K2 c => ?_);refine Qj av (w1 := ((we.alloc (.cells (Qi (List.replicate n 0)).toArray 3)).alloc (.cells #[.slice (some ⟨we.heap.size, 0, none⟩) n n] 22))) (by have h := (q).row.cellv (i := 5) (v := av) rfl; go_simp) ?_;refine c _ _ ?_;clear c K2;simp only [Act.put, Qa, Qb, Qc];refine ⟨trivial, ?_⟩;exact bb
         case tail =>
          have KM := KE.out.go (A' := we.alloc (.cells (Qi (List.replicate n 0)).toArray 3)) ((Below.refl _ _).alloc (Nat.le_refl _) _);have q := KM.go (A' := (we.alloc (.cells (Qi (List.replicate n 0)).toArray 3)).alloc (.cells #[.slice (some ⟨we.heap.size, 0, none⟩) n n] 22)) ((Below.refl _ _).alloc (Nat.le_refl _) _);(refine wpAnyH_all (rs := [9]) (by kernel_rfl) (by simp) (fun i hi => ?_); obtain rfl : i = 9 := by simpa using hi);have bt : Row ((we.alloc (.cells (Qi (List.replicate n 0)).toArray 3)).alloc (.cells #[.slice (some ⟨we.heap.size, 0, none⟩) n n] 22)) we.heap.size 3 (Qi (List.replicate n 0)).toArray := (Row.new we _ _).alloc _;have gn := KE.out.size
          have cm : ∀ g ∈ gs, g < we.heap.size := by
           intro g a8;obtain ⟨i, bs, hi⟩ := Nm a8;have m : gs[i]? = some g := by rw [La bs, hi]
           have h2 : p.V[i]? = some (p.V[i]'(by have := bv.out; omega)) := La _;exact (KE.out.rows i g _ m h2).lt
          have c7 : s.ownBlock ≠ some we.heap.size := fun e => by have := KL KE.out.vv e; omega
          generalize cw : (we.alloc (.cells (Qi (List.replicate n 0)).toArray 3)).alloc (.cells #[.slice (some ⟨we.heap.size, 0, none⟩) n n] 22) = w8 at *;have cl : ∀ (j : Nat) (u : Value), [Value.slice (some ⟨we.heap.size, 0, none⟩) n n][j]? = some u → w8.cell? ((⟨(we.alloc (.cells (Qi (List.replicate n 0)).toArray 3)).heap.size, 0, none⟩ : Addr).add j) = some u := by rw [← cw]; exact cell_one_new _ _ _
          clear cw;refine Qf rfl rfl (fun K2 c => ?_);refine Z6 (.tmp 67) (.tmp 71) 26 rfl z 22 i0 (.slice none 0 0) 1 24 Tryz.underlying26 ap aq ar au rfl (by decide) av k _ rfl q.av _ 1 1 [Value.slice (some ⟨we.heap.size, 0, none⟩) n n] rfl rfl cl (by simp [Value.oneCell']) (by unfold maxLen; omega) (by omega) q.size ?_;intro a5 w9 ag ak _;refine c _ _ ?_;clear c K2;have cn := q.row.grown ak (Qx q.av q.row (by decide));have c6 := Q5 q.vv ak (Zg q.vv q.av (by decide));have a1 : ∀ (i g : Nat) (t : Int), gs[i]? = some g → p.V[i]? = some t → Row w9 g 3 (Qi (List.replicate (QU t).toNat 0)).toArray := fun i g t m h2 => (q.rows i g t m h2).grown ak (Qx q.av (q.rows i g t m h2) (by decide));have c3 := bt.grown ak (Qx q.av bt (by decide));have ck := q.ch.trans (.grown ak q.size (fun k e => QP q.av e));have bj := JA ag;have dk := Lh cn;have dq := Lh c6;have bq := Lh a1;have dp := Lh c3;have di := Lh ck;have cf := Lh ag;have dj := Lh cm;have dr := Lh c7;simp only [Act.put, Qa, Qb, Qc];refine ⟨trivial, ?_⟩;clear cn c6 a1 c3 ck ag ak bt cl q KM KE cm c7;(refine tkH 10 (.pointer (some ⟨M, 0, none⟩)) rfl (Qd rfl (fun W hW => by (go_simp))) ?_; simp only [Act.put, Qa, Qb, Qc]);(refine tkH 11 (.pointer (some ⟨M, 5, none⟩)) rfl (Qd rfl (fun W hW => by (go_simp))) ?_; simp only [Act.put, Qa, Qb, Qc]);(refine wpAnyH_all (rs := [12]) (by kernel_rfl) (by simp) (fun i hi => ?_); obtain rfl : i = 12 := by simpa using hi);refine Qf rfl rfl (fun K2 c => ?_);refine Zn 26 (.tmp 74) (.tmp 72) rfl M 5 rfl _ rfl [a5] (by cases a5 <;> first | rfl | cases bj) 184 _ (ZR p kv s a5 fuel PB) dk.out (by kernel_rfl) (by show 5 + 1 ≤ 14; omega) (by simpa using bj) rfl ?_
          intro c8 cy az;refine c _ _ ?_;clear c K2;simp only [Act.put, Qa, Qb, Qc];refine ⟨trivial, ?_⟩;refine wpAnyH_done (by kernel_rfl) ?_ _
          have bc : K2 p M z PB fuel kv args W1 (k + 1) c8 := by
           have ne : ∀ {e : TypeId} {u : Value} {n : Nat} {xs : List Value}, w9.ownsRow z e 1 u n xs → c8.ownsRow z e 1 u n xs := fun h => Qu h az (fun e => by have := QP h e; omega)
           have bw := bv.out;subst bw;refine ⟨s, a5, gs ++ [we.heap.size], cy, by simp, ne dq.out, ?_, fun i g t' m h2 => ?_, fun g hg => ?_, ?_, fun g hg => ?_, di.out.trans (.only az)⟩
           · rw [AeO gs p.V we.heap.size t Ht.out, a4.out, Ls]; exact ne cf.out
           · rcases Nc i gs.length with hl | hl | hl
             · rw [L1 hl] at m;exact (bq.out i g t' m h2).only az (by have := bu.out g (Lg m); omega)
             · subst hl;rw [Lw (Nat.le_refl _), Nt] at m;injection m with m;subst m;rw [Ht.out] at h2;injection h2 with h2;subst h2;rw [a4.out, Ls];exact dp.out.only az (by omega)
             · rw [Lw (by omega)] at m;have := (Lb.1 m).1;simp at this; omega
           · rcases L2.1 hg with hg | hg
             · exact bu.out g hg
             · rw [Lv.1 hg]; exact gn
           · rw [List.nodup_append];refine ⟨dy.out, by simp, fun a ha b hb e => ?_⟩;rw [Lv.1 hb] at e;have := dj.out a ha;omega
           · rcases L2.1 hg with hg | hg
             · exact cb.out g hg
             · rw [Lv.1 hg]; exact dr.out
          have b5 := Lh bc;clear bc cy az;go_wp2_with fail
          go_roundw
          case rel => exact ⟨k + 1, by go_num, by omega, b5⟩
          case measure => simp [intOf]; omega
       · have d6 : decide ((k : Int) < (args.length : Int)) = false := by simp; omega
         have hx : args.getD k 0 = 0 := by simp [List.getD, Nh (show args.length ≤ k by omega)]
         have dn := Lh hx;clear hx;rw [eb];go_wp2_with (at_builtin; refine AeQ ?_)
         refine Stop.to ?_;refine (wpList_append_own_at _ rfl (.tmp 57) (.tmp 59) 22 rfl z 3 i0 (.int .i64 0) 1 8 Tryz.underlying22 ap aq ar au rfl (by decide) vv k _ rfl (QA (J1.out _ hJ) ((Below.refl _ _).alloc (Nat.le_refl _) _)) ⟨wr.heap.size, 0, none⟩ 1 1 [.int .i64 0] rfl rfl (cell_one_new _ _ _) (by simp [Value.oneCell']) (by unfold maxLen; omega) (by omega) (by have := J5.out _ hJ; simp; omega) ?_);intro s W2 ab hg _ co;have l : J (wr.alloc (.cells #[.int .i64 0] 3)) := a3.go hJ ((Below.refl _ _).alloc (Nat.le_refl _) _);have c0 := (J0.out _ l).grown hg (Qx (J1.out _ l) (J0.out _ l) (by decide));have ci := Q5 (J2.out _ l) hg (Zg (J2.out _ l) (J1.out _ l) (by decide));have a0 : ∀ (i g : Nat) (t : Int), gs[i]? = some g → p.V[i]? = some t → Row W2 g 3 (Qi (List.replicate (QU t).toNat 0)).toArray := fun i g t m h2 => (J3.out _ l i g t m h2).grown hg (c9.out g (Lg m));have cj := (J4.out _ l).trans (.grown hg (J5.out _ l) (fun k e => QP (J1.out _ l) e));have c5 : z ≤ W2.heap.size := Lf (J5.out _ l) hg.size
         have bh : ∀ g ∈ gs, s.ownBlock ≠ some g := by
          intro g a8;rcases co with e | e
          · rw [e]; exact c9.out g a8
          · obtain ⟨i, bs, hi⟩ := Nm a8;have m : gs[i]? = some g := by rw [La bs, hi]
            have h2 : p.V[i]? = some (p.V[i]'(by have := bv.out; omega)) := La _;have := (J3.out _ l i g _ m h2).lt;rw [e];intro e3;injection e3 with e3;omega
         have af : W2.ownsRow z 3 1 s (k + 1) (Qi ((JX p.V args).take (k + 1))) := by rw [ES bx, dn.out]; simpa [Qi] using ab
         have bi := JA af;have cg := Lh c0;have bz := Lh ci;have ay := Lh a0;have b0 := Lh cj;have cb := Lh bh;have aw := Lh af;clear c0 ci a0 cj bh af ab hg co l hJ c4 hra cv;go_wp2_with (refine Qv _ _ _ rfl ?_)
         refine Stop.to ?_;refine Qq rfl 22 _ _ rfl M 4 rfl _ rfl [s] (by cases s <;> first | rfl | cases bi) 184 _ (ZR p kv s av fuel PB) cg.out (by kernel_rfl) (by show 4 + 1 ≤ 14; omega) (by simpa using bi) rfl ?_
         intro W3 r3 o3
         have k3 : K3 p M z PB fuel kv s av args gs W1 k W3 := by
          have ne : ∀ {e : TypeId} {u : Value} {n : Nat} {xs : List Value}, W2.ownsRow z e 1 u n xs → W3.ownsRow z e 1 u n xs := fun h => Qu h o3 (fun e => by have := QP h e; omega)
          exact ⟨r3, ne aw.out, ne bz.out, fun i g t m h2 => (ay.out i g t m h2).only o3 (by have := bu.out g (Lg m); omega), b0.out.trans (.only o3), by rw [o3.size]; exact c5⟩
         have cx : K3 p M z PB fuel kv s av args gs W1 k W3.drew := k3.go ⟨rfl, rfl, rfl, Nat.le_refl _, fun _ _ => rfl⟩;have KE := Lh cx;clear r3 o3 k3 cx cg bz ay b0 aw c5 J0 J1 J2 J3 J4 J5 a3 J ap aq ar au i0;obtain ⟨i0, ap, aq, ar, au⟩ := info_parts AcC;obtain ⟨n, hn⟩ : ∃ n : Nat, QU t = (n : Int) := ⟨(QU t).toNat, by unfold QU; split <;> omega⟩
         have ej : n ≤ 8 := by unfold QU at hn; split at hn <;> omega
         have cr : ∀ W : World, (Instr.makeSlice 22 (.int .i64 (n : Int)) (.int .i64 (n : Int))).run Tryz.prog W = .ok (.slice (some ⟨W.heap.size, 0, none⟩) n n) (W.alloc (.cells (Qi (List.replicate n 0)).toArray 3)) := fun W => by
          have := run_make_row' (P := Tryz.prog) (w := W) 22 3 (.int .i64 0) 8 Tryz.underlying22 Jo rfl .i64 .i64 n (by omega) (by omega);rw [show madeCells #[Value.int .i64 0] n = (Qi (List.replicate n 0)).toArray from by rw [Xg]; simp [Qi]] at this;exact this
         have bn := Lh cr;have a4 := Lh hn;clear cr hn;go_wp2_with fail
         refine wp_region_held (S := fun _ => True) (by kernel_rfl) ?_;simp only [Lk, Lc, Lo, Nat.reduceAdd, Li, Lj, Lp, Lm, Ll];show wpAnyH _ _ _ _ _ _ _ _ W3.drew;generalize W3.drew = we at KE ⊢;have eh : (fun _ : World => True) we := trivial;(refine tkH 0 (.pointer (some ⟨M, 0, none⟩)) rfl (Qd rfl (fun W hW => by (go_simp))) ?_; simp only [Act.put, Qa, Qb, Qc]);(refine tkH 1 (.pointer (some ⟨M, 0, none⟩)) rfl (Qd rfl (fun W hW => by (go_simp))) ?_; simp only [Act.put, Qa, Qb, Qc]);(refine tkH 2 (.pointer (some ⟨M, 0, none⟩)) rfl (Qd rfl (fun W hW => by (go_simp))) ?_; simp only [Act.put, Qa, Qb, Qc]);(refine tkH 3 (.pointer (some ⟨M, 5, none⟩)) rfl (Qd rfl (fun W hW => by (go_simp))) ?_; simp only [Act.put, Qa, Qb, Qc]);(refine tkH 5 (.int .i64 t) rfl (Qd rfl (fun W hW => by (go_simp))) ?_; simp only [Act.put, Qa, Qb, Qc]);apply AdB
         case main =>
          intro bb;refine wpAnyH_all (rs := [4, 6]) (by kernel_rfl) (by simp) (fun i hi => ?_);have ae : i = 4 ∨ i = 6 := by simpa using hi
          rcases ae with rfl | rfl
          · refine Qf rfl rfl (fun K2 c => ?_);refine Qj av (w1 := we) (by have h := (KE.out).row.cellv (i := 5) (v := av) rfl; go_simp) ?_;refine c _ _ ?_;clear c K2;simp only [Act.put, Qa, Qb, Qc];refine ⟨trivial, ?_⟩;(refine wpAnyH_all (rs := [6]) (by kernel_rfl) (by simp) (fun i hi => ?_); obtain rfl : i = 6 := by simpa using hi);refine Qf rfl rfl (fun K2 c => ?_);refine Qo (w1 := we) 97 #[.int .i64 t] (by go_simp; try rfl) ?_
            refine (Ks t we df).mono ?_;rintro e w4 ⟨rfl, rfl⟩;rw [a4.out];refine ⟨_, rfl, c _ _ ?_⟩;clear c K2;simp only [Act.put, Qa, Qb, Qc];refine ⟨trivial, ?_⟩;(refine wpAnyH_all (rs := [7]) (by kernel_rfl) (by simp) (fun i hi => ?_); obtain rfl : i = 7 := by simpa using hi);refine Qf rfl rfl (fun K2 c => ?_);refine Qj (.slice (some ⟨we.heap.size, 0, none⟩) n n) (Zy rfl rfl rfl (bn.out we)) ?_;refine c _ _ ?_;clear c K2;have KM := KE.out.go (A' := we.alloc (.cells (Qi (List.replicate n 0)).toArray 3)) ((Below.refl _ _).alloc (Nat.le_refl _) _);simp only [Act.put, Qa, Qb, Qc];refine ⟨trivial, ?_⟩;(refine wpAnyH_all (rs := [8]) (by kernel_rfl) (by simp) (fun i hi => ?_); obtain rfl : i = 8 := by simpa using hi);refine Qf rfl rfl (fun K2 c => ?_);refine Qj (.slice (some ⟨(we.alloc (.cells (Qi (List.replicate n 0)).toArray 3)).heap.size, 0, none⟩) 1 1) (w1 := (we.alloc (.cells (Qi (List.replicate n 0)).toArray 3)).alloc (.cells #[.slice (some ⟨we.heap.size, 0, none⟩) n n] 22)) (by go_simp; try rfl) ?_
            refine c _ _ ?_;clear c K2;have q := KM.go (A' := (we.alloc (.cells (Qi (List.replicate n 0)).toArray 3)).alloc (.cells #[.slice (some ⟨we.heap.size, 0, none⟩) n n] 22)) ((Below.refl _ _).alloc (Nat.le_refl _) _);simp only [Act.put, Qa, Qb, Qc];refine ⟨trivial, ?_⟩;exact bb
          · refine Qf rfl rfl (fun K2 c => ?_);refine Qo (w1 := we) 97 #[.int .i64 t] (by go_simp; try rfl) ?_
            refine (Ks t we df).mono ?_;rintro e w4 ⟨rfl, rfl⟩;rw [a4.out];refine ⟨_, rfl, c _ _ ?_⟩;clear c K2;simp only [Act.put, Qa, Qb, Qc];refine ⟨trivial, ?_⟩;refine wpAnyH_all (rs := [4, 7]) (by kernel_rfl) (by simp) (fun i hi => ?_);have ae : i = 4 ∨ i = 7 := by simpa using hi
            rcases ae with rfl | rfl
            · refine Qf rfl rfl (fun K2 c => ?_);refine Qj av (w1 := we) (by have h := (KE.out).row.cellv (i := 5) (v := av) rfl; go_simp) ?_;refine c _ _ ?_;clear c K2;simp only [Act.put, Qa, Qb, Qc];refine ⟨trivial, ?_⟩;(refine wpAnyH_all (rs := [7]) (by kernel_rfl) (by simp) (fun i hi => ?_); obtain rfl : i = 7 := by simpa using hi);refine Qf rfl rfl (fun K2 c => ?_);refine Qj (.slice (some ⟨we.heap.size, 0, none⟩) n n) (Zy rfl rfl rfl (bn.out we)) ?_;refine c _ _ ?_;clear c K2;have KM := KE.out.go (A' := we.alloc (.cells (Qi (List.replicate n 0)).toArray 3)) ((Below.refl _ _).alloc (Nat.le_refl _) _);simp only [Act.put, Qa, Qb, Qc];refine ⟨trivial, ?_⟩;(refine wpAnyH_all (rs := [8]) (by kernel_rfl) (by simp) (fun i hi => ?_); obtain rfl : i = 8 := by simpa using hi);refine Qf rfl rfl (fun K2 c => ?_);refine Qj (.slice (some ⟨(we.alloc (.cells (Qi (List.replicate n 0)).toArray 3)).heap.size, 0, none⟩) 1 1) (w1 := (we.alloc (.cells (Qi (List.replicate n 0)).toArray 3)).alloc (.cells #[.slice (some ⟨we.heap.size, 0, none⟩) n n] 22)) (by go_simp; try rfl) ?_
              refine c _ _ ?_;clear c K2;have q := KM.go (A' := (we.alloc (.cells (Qi (List.replicate n 0)).toArray 3)).alloc (.cells #[.slice (some ⟨we.heap.size, 0, none⟩) n n] 22)) ((Below.refl _ _).alloc (Nat.le_refl _) _);simp only [Act.put, Qa, Qb, Qc];refine ⟨trivial, ?_⟩;exact bb
            · refine Qf rfl rfl (fun K2 c => ?_);refine Qj (.slice (some ⟨we.heap.size, 0, none⟩) n n) (Zy rfl rfl rfl (bn.out we)) ?_;refine c _ _ ?_;clear c K2;have KM := KE.out.go (A' := we.alloc (.cells (Qi (List.replicate n 0)).toArray 3)) ((Below.refl _ _).alloc (Nat.le_refl _) _);simp only [Act.put, Qa, Qb, Qc];refine ⟨trivial, ?_⟩;refine wpAnyH_all (rs := [4, 8]) (by kernel_rfl) (by simp) (fun i hi => ?_);have ae : i = 4 ∨ i = 8 := by simpa using hi
              rcases ae with rfl | rfl
              · refine Qf rfl rfl (fun K2 c => ?_);refine Qj av (w1 := (we.alloc (.cells (Qi (List.replicate n 0)).toArray 3))) (by have h := (KM).row.cellv (i := 5) (v := av) rfl; go_simp) ?_;refine c _ _ ?_;clear c K2;simp only [Act.put, Qa, Qb, Qc];refine ⟨trivial, ?_⟩;(refine wpAnyH_all (rs := [8]) (by kernel_rfl) (by simp) (fun i hi => ?_); obtain rfl : i = 8 := by simpa using hi);refine Qf rfl rfl (fun K2 c => ?_);refine Qj (.slice (some ⟨(we.alloc (.cells (Qi (List.replicate n 0)).toArray 3)).heap.size, 0, none⟩) 1 1) (w1 := (we.alloc (.cells (Qi (List.replicate n 0)).toArray 3)).alloc (.cells #[.slice (some ⟨we.heap.size, 0, none⟩) n n] 22)) (by go_simp; try rfl) ?_
                refine c _ _ ?_;clear c K2;have q := KM.go (A' := (we.alloc (.cells (Qi (List.replicate n 0)).toArray 3)).alloc (.cells #[.slice (some ⟨we.heap.size, 0, none⟩) n n] 22)) ((Below.refl _ _).alloc (Nat.le_refl _) _);simp only [Act.put, Qa, Qb, Qc];refine ⟨trivial, ?_⟩;exact bb
              · refine Qf rfl rfl (fun K2 c => ?_);refine Qj (.slice (some ⟨(we.alloc (.cells (Qi (List.replicate n 0)).toArray 3)).heap.size, 0, none⟩) 1 1) (w1 := (we.alloc (.cells (Qi (List.replicate n 0)).toArray 3)).alloc (.cells #[.slice (some ⟨we.heap.size, 0, none⟩) n n] 22)) (by go_simp; try rfl) ?_
                refine c _ _ ?_;clear c K2;have q := KM.go (A' := (we.alloc (.cells (Qi (List.replicate n 0)).toArray 3)).alloc (.cells #[.slice (some ⟨we.heap.size, 0, none⟩) n n] 22)) ((Below.refl _ _).alloc (Nat.le_refl _) _);simp only [Act.put, Qa, Qb, Qc];refine ⟨trivial, ?_⟩;(refine wpAnyH_all (rs := [4]) (by kernel_rfl) (by simp) (fun i hi => ?_); obtain rfl : i = 4 := by simpa using hi);refine Qf rfl rfl (fun K2 c => ?_);refine Qj av (w1 := ((we.alloc (.cells (Qi (List.replicate n 0)).toArray 3)).alloc (.cells #[.slice (some ⟨we.heap.size, 0, none⟩) n n] 22))) (by have h := (q).row.cellv (i := 5) (v := av) rfl; go_simp) ?_;refine c _ _ ?_;clear c K2;simp only [Act.put, Qa, Qb, Qc];refine ⟨trivial, ?_⟩;exact bb
         case tail =>
          have KM := KE.out.go (A' := we.alloc (.cells (Qi (List.replicate n 0)).toArray 3)) ((Below.refl _ _).alloc (Nat.le_refl _) _);have q := KM.go (A' := (we.alloc (.cells (Qi (List.replicate n 0)).toArray 3)).alloc (.cells #[.slice (some ⟨we.heap.size, 0, none⟩) n n] 22)) ((Below.refl _ _).alloc (Nat.le_refl _) _);(refine wpAnyH_all (rs := [9]) (by kernel_rfl) (by simp) (fun i hi => ?_); obtain rfl : i = 9 := by simpa using hi);have bt : Row ((we.alloc (.cells (Qi (List.replicate n 0)).toArray 3)).alloc (.cells #[.slice (some ⟨we.heap.size, 0, none⟩) n n] 22)) we.heap.size 3 (Qi (List.replicate n 0)).toArray := (Row.new we _ _).alloc _;have gn := KE.out.size
          have cm : ∀ g ∈ gs, g < we.heap.size := by
           intro g a8;obtain ⟨i, bs, hi⟩ := Nm a8;have m : gs[i]? = some g := by rw [La bs, hi]
           have h2 : p.V[i]? = some (p.V[i]'(by have := bv.out; omega)) := La _;exact (KE.out.rows i g _ m h2).lt
          have c7 : s.ownBlock ≠ some we.heap.size := fun e => by have := KL KE.out.vv e; omega
          generalize cw : (we.alloc (.cells (Qi (List.replicate n 0)).toArray 3)).alloc (.cells #[.slice (some ⟨we.heap.size, 0, none⟩) n n] 22) = w8 at *;have cl : ∀ (j : Nat) (u : Value), [Value.slice (some ⟨we.heap.size, 0, none⟩) n n][j]? = some u → w8.cell? ((⟨(we.alloc (.cells (Qi (List.replicate n 0)).toArray 3)).heap.size, 0, none⟩ : Addr).add j) = some u := by rw [← cw]; exact cell_one_new _ _ _
          clear cw;refine Qf rfl rfl (fun K2 c => ?_);refine Z6 (.tmp 67) (.tmp 71) 26 rfl z 22 i0 (.slice none 0 0) 1 24 Tryz.underlying26 ap aq ar au rfl (by decide) av k _ rfl q.av _ 1 1 [Value.slice (some ⟨we.heap.size, 0, none⟩) n n] rfl rfl cl (by simp [Value.oneCell']) (by unfold maxLen; omega) (by omega) q.size ?_;intro a5 w9 ag ak _;refine c _ _ ?_;clear c K2;have cn := q.row.grown ak (Qx q.av q.row (by decide));have c6 := Q5 q.vv ak (Zg q.vv q.av (by decide));have a1 : ∀ (i g : Nat) (t : Int), gs[i]? = some g → p.V[i]? = some t → Row w9 g 3 (Qi (List.replicate (QU t).toNat 0)).toArray := fun i g t m h2 => (q.rows i g t m h2).grown ak (Qx q.av (q.rows i g t m h2) (by decide));have c3 := bt.grown ak (Qx q.av bt (by decide));have ck := q.ch.trans (.grown ak q.size (fun k e => QP q.av e));have bj := JA ag;have dk := Lh cn;have dq := Lh c6;have bq := Lh a1;have dp := Lh c3;have di := Lh ck;have cf := Lh ag;have dj := Lh cm;have dr := Lh c7;simp only [Act.put, Qa, Qb, Qc];refine ⟨trivial, ?_⟩;clear cn c6 a1 c3 ck ag ak bt cl q KM KE cm c7;(refine tkH 10 (.pointer (some ⟨M, 0, none⟩)) rfl (Qd rfl (fun W hW => by (go_simp))) ?_; simp only [Act.put, Qa, Qb, Qc]);(refine tkH 11 (.pointer (some ⟨M, 5, none⟩)) rfl (Qd rfl (fun W hW => by (go_simp))) ?_; simp only [Act.put, Qa, Qb, Qc]);(refine wpAnyH_all (rs := [12]) (by kernel_rfl) (by simp) (fun i hi => ?_); obtain rfl : i = 12 := by simpa using hi);refine Qf rfl rfl (fun K2 c => ?_);refine Zn 26 (.tmp 74) (.tmp 72) rfl M 5 rfl _ rfl [a5] (by cases a5 <;> first | rfl | cases bj) 184 _ (ZR p kv s a5 fuel PB) dk.out (by kernel_rfl) (by show 5 + 1 ≤ 14; omega) (by simpa using bj) rfl ?_
          intro c8 cy az;refine c _ _ ?_;clear c K2;simp only [Act.put, Qa, Qb, Qc];refine ⟨trivial, ?_⟩;refine wpAnyH_done (by kernel_rfl) ?_ _
          have bc : K2 p M z PB fuel kv args W1 (k + 1) c8 := by
           have ne : ∀ {e : TypeId} {u : Value} {n : Nat} {xs : List Value}, w9.ownsRow z e 1 u n xs → c8.ownsRow z e 1 u n xs := fun h => Qu h az (fun e => by have := QP h e; omega)
           have bw := bv.out;subst bw;refine ⟨s, a5, gs ++ [we.heap.size], cy, by simp, ne dq.out, ?_, fun i g t' m h2 => ?_, fun g hg => ?_, ?_, fun g hg => ?_, di.out.trans (.only az)⟩
           · rw [AeO gs p.V we.heap.size t Ht.out, a4.out, Ls]; exact ne cf.out
           · rcases Nc i gs.length with hl | hl | hl
             · rw [L1 hl] at m;exact (bq.out i g t' m h2).only az (by have := bu.out g (Lg m); omega)
             · subst hl;rw [Lw (Nat.le_refl _), Nt] at m;injection m with m;subst m;rw [Ht.out] at h2;injection h2 with h2;subst h2;rw [a4.out, Ls];exact dp.out.only az (by omega)
             · rw [Lw (by omega)] at m;have := (Lb.1 m).1;simp at this; omega
           · rcases L2.1 hg with hg | hg
             · exact bu.out g hg
             · rw [Lv.1 hg]; exact gn
           · rw [List.nodup_append];refine ⟨dy.out, by simp, fun a ha b hb e => ?_⟩;rw [Lv.1 hb] at e;have := dj.out a ha;omega
           · rcases L2.1 hg with hg | hg
             · exact cb.out g hg
             · rw [Lv.1 hg]; exact dr.out
          have b5 := Lh bc;clear bc cy az;go_wp2_with fail
          go_roundw
          case rel => exact ⟨k + 1, by go_num, by omega, b5⟩
          case measure => simp [intOf]; omega
     · obtain rfl : k = p.V.length := by omega
       have HK := hK;clear bx hk hK;go_wp2
       go_ret
       exact Ag1 an.out cd.out Hf.out da eg ef dw.out d0 B3.out P3.out dx.out ah.out dz.out ed.out HK.out
end Go.Proofs.YtkoikjnlpifbjaaGreat
