/- Lemmas for DirectMutantsP. -/
import Derived.Test.YtdcmppdhdcjpfaaGreatZp33
import Derived.Test.YtdcmppdhdcjpfaaGreatZp31
import Derived.Test.YtdcmppdhdcjpfaaGreatZp1
import Derived.Test.YtdcmppdhdcjpfaaGreatZp24
set_option linter.unusedVariables false
set_option linter.unusedSimpArgs false
set_option maxRecDepth 100000
set_option maxHeartbeats 16000000
namespace Go.Proofs.YtdcmppdhdcjpfaaGreat
open Go.RowKit Go.Deep
theorem AbB (p : PgV) (t : Tr) (x : DlV) (w : World) (hok : p.ok w) (hx : DlOk w x) (hbl : p.body.length ≤ 1000) (hg : Fine p t) (hd : x.d ∈ Ji p.body t) (hneg : ∀ W, p.ok W → Abl p W) :
 ∃ q k, Zu x.d.path 0 t = some (q, k) ∧ (∀ m : PgV, m.params = p.params → m.V = p.V → m.body = Z1 p.body q k x.d.op x.d.n → Good m (KN (chT x.d.op x.d.n) x.d.path t)) ∧
  Calls Tryz.prog 18 #[.agg p.cells, .agg x.cells] w fun e w' => AplR p (Z1 p.body q k x.d.op x.d.n) w w' e := by
 obtain ⟨q, k, hf, hm, _⟩ := VM p t x.A x.cap x.d w hok hx.1 hx.2 hbl hg.good hd (hneg w hok)
 refine ⟨q, k, hf, hm, ?_⟩
 obtain ⟨bd, hbd⟩ : ∃ bd, bd = Z1 p.body q k x.d.op x.d.n := ⟨_, rfl⟩
 rw [← hbd]
 have HA : Hid (∀ W, Below w.heap.size w W → Calls Tryz.prog 55 #[.agg p.cells, .agg x.cells] W fun e w' => AplR p bd W w' e) := fun W b => by
  obtain ⟨q', k', hf', _, h⟩ := VM p t x.A x.cap x.d W (hok.go b) (hx.1.go b) hx.2 hbl hg.good hd (hneg W (hok.go b))
  rw [hf] at hf'
  injection hf' with hf'
  injection hf' with h1 h2
  subst h1 h2
  rw [hbd]
  exact h
 have HS : Hid (∀ W, Below w.heap.size w W → Calls Tryz.prog 17 #[.agg p.cells] W fun e w' => AllR p W w' e) := fun W b => Kc p hbl W (hok.go b)
 have HX : Hid (∀ W, Below w.heap.size w W → DlOk W x) := fun W b => ⟨hx.1.go b, hx.2⟩
 have Hd := Lh hd
 have Hg := Lh hg
 have Hc := Lh (checkP_ok.2 ⟨t, hg⟩)
 clear hok hx hbl hg hd hneg hf hm hbd
 go_enter Tryz.func18, Tryz.ntmps18
 go_wp2_with (refine Qq _ _ rfl ?_)
 refine Stop.to ?_
 refine Qe rfl 25 _ rfl p.cells rfl ?_
 intro G Gw Gh Gr Gb
 go_wp2_with (refine Qq _ _ rfl ?_)
 refine Stop.to ?_
 refine Qe rfl 35 _ rfl x.cells rfl ?_
 intro D Dw Dh Dr Db
 go_wp2_with (first | fail | (refine Qy _ rfl ?_))
 refine Stop.to ?_
 refine Qi rfl 25 rfl _ _ KR rfl ?_
 intro R Rw Rh Rr Rb
 have b1 := (Below.refl w.heap.size w).trans (Gb.mono Gh)
 have b2 := b1.trans ((Db.mono Dh).mono b1.size)
 have b3 := b2.trans ((Rb.mono Rh).mono b2.size)
 have hR : w.heap.size ≤ R := Nat.le_trans b2.size Rh
 have rG := (Gr.below Db (Nat.lt_of_lt_of_le Gr.lt Dh))
 have rG2 := rG.below Rb (Nat.lt_of_lt_of_le rG.lt Rh)
 have rD := Dr.below Rb (Nat.lt_of_lt_of_le Dr.lt Rh)
 have rR : Row Rw R 25 #[.int .i64 0, .slice none 0 0, .slice none 0 0] := Rr
 have H1 := Lh (HS.out _ b3)
 clear Gr Gb Gh Dr Db Dh Rb Rh rG b1 b2 Rr HS
 go_wp2_with (refine wpList_load_row rfl 25 _ rfl G rfl 25 p.cells (0, 0) _ rG2 Tryz.underlying25 rfl (by kernel_rfl) ?_)
 refine H1.out.mono ?_
 rintro e w1 ⟨A, cap, xs, rfl, hrd, hcap, hnil, hT, hmap, _, hlen, b4⟩
 rw [Hc.out]
 have hmap2 := hmap t Hg.out
 have b5 := b3.trans (b4.mono b3.size)
 replace rG2 := rG2.below b4 rG2.lt
 replace rD := rD.below b4 rD.lt
 replace rR := rR.below b4 rR.lt
 have Hfd := Lh (AaM A cap xs x w1 hrd (by omega) (fun y hy => (hT y hy).ok) (HX.out _ b5) (by rw [hmap2]; exact VY _ _))
 have Hin : Hid (x.d ∈ xs.map DlV.d) := by show _ ∈ _; rw [hmap2]; exact Hd.out
 clear H1 hrd hcap hnil hT hmap hmap2 hlen b4 b3
 go_wp2_with (refine wpList_load_row rfl 35 _ rfl D rfl 35 x.cells (0, 0) _ rD Tryz.underlying35 rfl (by kernel_rfl) ?_)
 refine Hfd.out.mono ?_
 rintro e w2 ⟨⟨r, rfl, hr⟩, b6⟩
 have hr0 : ¬ (r < 0) := by have := hr.2 Hin.out; omega
 have b7 := b5.trans (b6.mono b5.size)
 replace rG2 := rG2.below b6 rG2.lt
 replace rD := rD.below b6 rD.lt
 replace rR := rR.below b6 rR.lt
 have H2 := Lh (HA.out _ b7)
 clear Hfd Hin hr b6 b5 HA HX
 go_wp2_with (first | (refine wpList_load_row rfl 25 _ rfl G rfl 25 p.cells (0, 0) _ rG2 Tryz.underlying25 rfl (by kernel_rfl) ?_) | (refine wpList_load_row rfl 35 _ rfl D rfl 35 x.cells (0, 0) _ rD Tryz.underlying35 rfl (by kernel_rfl) ?_))
 refine H2.out.mono ?_
 rintro e w3 ⟨m, rfl, hm, o1, o2, b8⟩
 replace rR := rR.below b8 rR.lt
 have b9 := b7.trans (b8.mono b7.size)
 have p1 := QH o1 b7.size
 have p2 := QH o2 b7.size
 have Hm := Lh hm
 clear H2 rG2 rD o1 o2 b8 b7 hm
 go_wp2_with (refine Ql 25 _ _ rfl ?_)
 refine Stop.to ?_
 refine Qj rfl 25 _ _ rfl R m.cells rfl rfl 25 _ rR (by kernel_rfl) rfl (by simp [PgV.cells, Value.oneCell']) ?_
 intro W9 r9 o9
 have q1 := Qt p1 o9 (Qu p1 rR (by decide))
 have q2 := Qt p2 o9 (Qu p2 rR (by decide))
 have bE := Qv b9 o9 hR
 clear p1 p2 b9 o9 rR
 go_wp2_with fail
 refine bodyPost_ret (QY Tryz.results18 _ _ R 25 _ (0, 0) _ rfl r9 Tryz.underlying25 rfl (by kernel_rfl)) rfl ?_
 exact ⟨m, rfl, Hm.out, q1, q2, bE⟩
end Go.Proofs.YtdcmppdhdcjpfaaGreat
namespace Go.Proofs.YtdcmppdhdcjpfaaGreat
open Go.RowKit
theorem Y3 {w : World} {base n size : Nat} {e : TypeId} {v : Value} {xs : List Value} (h : w.ownsRow base e size v n xs) : ∃ A cap, v = .slice A n cap ∧ Rd w A xs ∧ n ≤ cap ∧ cap ≤ maxLen ∧ (A = none → cap = 0) ∧ ∀ ad, A = some ad → base ≤ ad.block := by
 have hl : xs.length = n * size := h.1
 rcases h.2 with ⟨rfl, h0⟩ | ⟨g, cap, cur, rfl, hb, hh, hc, hm, hsz, ht⟩
 · have hx : xs = [] := List.eq_nil_of_length_eq_zero (by rw [hl, h0, Nat.zero_mul])
   subst hx
   exact ⟨none, 0, by rw [h0], Rd.nil _ _, by omega, by unfold maxLen; omega, fun _ => rfl, fun ad e => by cases e⟩
 · refine ⟨some ⟨g, 0, none⟩, cap, rfl, fun j u hj => ⟨_, rfl, ?_⟩, hc, hm, fun e => (by cases e), fun ad e => by cases e; exact hb⟩
   have hr : Row w g e cur := hh
   exact hr.from_ 0 (cs := xs) (fun j v hj => by
    rw [Nat.zero_add, ← Array.getElem?_toList]
    have h1 : (cur.toList.take (n * size))[j]? = some v := by rw [ht]; exact hj
    rw [List.getElem?_take_of_lt (by have := (List.getElem?_eq_some_iff.1 hj).1; omega)] at h1; exact h1) j u hj
end Go.Proofs.YtdcmppdhdcjpfaaGreat
namespace Go.Proofs.YtdcmppdhdcjpfaaGreat
open Go.RowKit Go.Deep
noncomputable def AfK (p : PgV) (d : Dl) : List Nd := open Classical in if h : ∃ b, ∃ t q k, Fine p t ∧ Zu d.path 0 t = some (q, k) ∧ b = Z1 p.body q k d.op d.n then h.choose else []
theorem Acf {p : PgV} {d : Dl} {t k : Tr} {q : Nat} (hf : Fine p t) (h : Zu d.path 0 t = some (q, k)) : AfK p d = Z1 p.body q k d.op d.n := by
 unfold AfK
 have hex : ∃ b, ∃ t q k, Fine p t ∧ Zu d.path 0 t = some (q, k) ∧ b = Z1 p.body q k d.op d.n := ⟨_, t, q, k, hf, h, rfl⟩
 rw [dif_pos hex]
 obtain ⟨t2, q2, k2, h1, h2, h3⟩ := hex.choose_spec
 rw [h3]
 obtain rfl := h1.good.whole.uniq hf.good.whole
 rw [h] at h2
 injection h2 with h2
 injection h2 with e1 e2
 subst e1 e2
 rfl
noncomputable def Y1 (p : PgV) (d : Dl) : Int := open Classical in if Zn p ≠ 0 then Zn p else if ∃ t, Fine p t ∧ d ∈ Ji p.body t then 0 else 17
theorem AdI {p : PgV} {d : Dl} {t : Tr} (hf : Fine p t) (hd : d ∈ Ji p.body t) : Y1 p d = 0 := by
 unfold Y1; rw [if_neg (by rw [checkP_ok.2 ⟨t, hf⟩]; simp), if_pos ⟨t, hf, hd⟩]
theorem Ae9 {p : PgV} {d : Dl} {t : Tr} (hf : Fine p t) (hd : d ∉ Ji p.body t) : Y1 p d = 17 := by
 unfold Y1; rw [if_neg (by rw [checkP_ok.2 ⟨t, hf⟩]; simp), if_neg (fun ⟨u, h1, h2⟩ => hd (by rw [hf.good.whole.uniq h1.good.whole]; exact h2))]
theorem AfQ {p : PgV} {d : Dl} (h : Zn p ≠ 0) : Y1 p d = Zn p := by unfold Y1; rw [if_pos h]
theorem Ae4 {p : PgV} {d : Dl} (h : Y1 p d = 0) : ∃ t, Fine p t ∧ d ∈ Ji p.body t := by
 unfold Y1 at h
 split at h
 · rename_i h1; exact absurd h h1
 · split at h
   · assumption
   · cases h
structure IsMut (p : PgV) (d : Dl) (m : PgV) : Prop where
 par : m.params = p.params
 vars : m.V = p.V
 body : m.body = AfK p d
theorem AaY {p m : PgV} {d : Dl} (h : IsMut p d m) (hc : Y1 p d = 0) : ∃ t, Good m t := by
 obtain ⟨t, hf, hd⟩ := Ae4 hc
 obtain ⟨q, k, h1, _, _, _, _, h2⟩ := hf.good.change hd
 exact ⟨_, h2 m h.par h.vars (h.body.trans (Acf hf h1))⟩
theorem Afx {x y : Nd} {op n : Int} (h : isC x y op n = true) : InI n := by
 unfold isC at h
 have hw : ∀ a : Int, InI (wrap64 a) := fun a => by unfold wrap64 InI; omega
 by_cases o1 : op = 1
 · rw [if_pos o1, decide_eq_true_eq] at h; unfold InI; omega
 rw [if_neg o1] at h
 by_cases o2 : op = 2
 · rw [if_pos o2, decide_eq_true_eq] at h; unfold InI; omega
 rw [if_neg o2] at h
 by_cases o3 : op = 3
 · rw [if_pos o3, decide_eq_true_eq] at h; unfold InI; omega
 rw [if_neg o3] at h
 by_cases o4 : op = 4
 · rw [if_pos o4, decide_eq_true_eq] at h
   rcases h with ⟨_, h | h | h | h | h, _⟩ | ⟨_, h⟩
   · unfold InI; omega
   · unfold InI; omega
   · unfold InI; omega
   · rw [h]; exact hw _
   · rw [h]; exact hw _
   · rw [h]; exact hw _
 rw [if_neg o4] at h
 by_cases o5 : op = 5
 · rw [if_pos o5, decide_eq_true_eq] at h; unfold InI; omega
 rw [if_neg o5] at h
 by_cases o6 : op = 6
 · rw [if_pos o6, decide_eq_true_eq] at h; unfold InI; omega
 rw [if_neg o6] at h
 by_cases o7 : op = 7
 · rw [if_pos o7, decide_eq_true_eq] at h; unfold InI; omega
 rw [if_neg o7] at h
 cases h
theorem AdL {l : List Nd} {c : Nat × Nd × Nat} {y : Nd} (h : y ∈ Y0 l c) : y ∈ l ∨ y = c.2.1 := by
 unfold Y0 at h
 rcases List.mem_append.1 h with h | h
 · exact .inl (List.mem_of_mem_take h)
 · rcases List.mem_cons.1 h with h | h
   · exact .inr h
   · exact .inl (List.mem_of_mem_drop h)
theorem AdJ {p : PgV} {t : Tr} {d : Dl} {q : Nat} {k : Tr} (hg : Good p t) (hd : d ∈ Ji p.body t) (hf : Zu d.path 0 t = some (q, k)) (hin : ∀ x ∈ p.body, InI x.tag ∧ InI x.n) : (∀ x ∈ Z1 p.body q k d.op d.n, InI x.tag ∧ InI x.n) ∧ (Z1 p.body q k d.op d.n).length ≤ p.body.length + 1 := by
 obtain ⟨q2, k2, h1, h2, _, h4, _, _⟩ := hg.change hd
 rw [hf] at h1
 injection h1 with h1
 injection h1 with e1 e2
 subst e1 e2
 have hn := Afx h4
 have hs := k.size_eq
 have hle := h2.le
 have hr := hin _ (List.mem_of_getElem? h2.root)
 have hz : InI 0 ∧ InI 1 ∧ InI 6 ∧ InI 26 := by unfold InI; omega
 have hnew : InI (Ui k.root q k.size d.op d.n).2.1.tag ∧ InI (Ui k.root q k.size d.op d.n).2.1.n := by
  unfold Ui
  split
  · exact ⟨hn, hr.2⟩
  · split
    · exact ⟨hr.1, hn⟩
    · split
      · exact ⟨hz.2.2.2, hz.1⟩
      · split
        · exact ⟨hz.2.2.1, hz.1⟩
        · exact ⟨hz.2.1, hn⟩
 constructor
 · intro x hx
   rcases AdL hx with h | h
   · exact hin x h
   · rw [h]; exact hnew
 · unfold Z1 Y0
   rw [List.length_append, List.length_cons, List.length_take, List.length_drop]
   unfold Ui
   split
   · simp only; omega
   · split
     · simp only; omega
     · split
       · simp only; omega
       · split <;> (simp only; omega)
theorem AbI (p : PgV) (hbl : p.body.length ≤ 1000) (W : World) (hok : p.ok W) : Abl p W := fun q t W2 b hat h hq => Adq p q t W2 hat hbl (hok.go b) h hq
theorem AplR.okm {p : PgV} {bd : List Nd} {w w' : World} {e : Ending} (h : AplR p bd w w' e) (hok : p.ok w) (hin : ∀ x ∈ bd, InI x.tag ∧ InI x.n) : ∃ m : PgV, e = .returned (.tuple #[.agg m.cells, .int .i64 0]) ∧ (m.params = p.params ∧ m.V = p.V ∧ m.body = bd) ∧ m.ok w' ∧ (∀ ad, m.va = some ad ∨ m.ba = some ad → w.heap.size ≤ ad.block) ∧ Below w.heap.size w w' := by
 obtain ⟨m, h1, h2, h3, h4, h5⟩ := h
 refine ⟨m, h1, h2, ?_, ?_, h5⟩
 rotate_left
 · obtain ⟨A, c, e1, _, _, _, _, a4⟩ := Y3 h3
   obtain ⟨B, c2, e2, _, _, _, _, b4⟩ := Y3 h4
   injection e1 with x1 _ _
   injection e2 with y1 _ _
   intro ad h
   rcases h with h | h
   · exact a4 ad (x1 ▸ h)
   · exact b4 ad (y1 ▸ h)
 obtain ⟨A, c, e1, r3, a1, a2, a3, _⟩ := Y3 h3
 obtain ⟨B, c2, e2, r4, b1, b2, b3, _⟩ := Y3 h4
 injection e1 with x1 _ x3
 injection e2 with y1 _ y3
 rw [← x1] at r3 a3
 rw [← y1] at r4 b3
 rw [← x3] at a1 a2 a3
 rw [← y3] at b1 b2 b3
 exact ⟨by rw [h2.1]; exact hok.par, a1, a2, a3, r3, by rw [h2.2.1]; exact hok.vin, b1, b2, b3, r4, by rw [h2.2.2]; exact hin⟩
theorem AbD {P : Program} {ops : Array Oper} {S : World → Prop} {a : Act} {o : Oper} (hw : Region.wanted o (yielded ops a.tmps) = true) (ty : TypeId) (x : Operand) (ho : o.op = .load ty x) (ad : Addr) (hx : a.eval x = .pointer (some ad)) (cs : List Value) (d : TypeDesc)
 (hr : ∀ W, S W → ∀ (j : Nat) (v : Value), cs[j]? = some v → W.cell? (ad.add j) = some v) (hu : P.underlying ty = some d) (hd : (match d with | .struct _ | .array _ _ => true | _ => false) = true) (hi : (P.info? ty).map (·.size) = some cs.length) : YieldsIf P ops S o (.agg cs.toArray) a :=
 Qd hw (fun W hW => by simp only [execOp, ho, hx, Instr.loadAt, Instr.sureAddr, Sem.run_bind, Sem.run_pure, Result.andThen_ok, Z9 W ad ty cs d (hr W hW) hu hd hi])
theorem PgV.ok.kx {p : PgV} {X : Nat → Prop} {W W' : World} (h : p.ok W) (hv : Qg p.V ≠ [] → ∀ ad, p.va = some ad → ¬ X ad.block) (hb : p.body.flatMap Nd.cells ≠ [] → ∀ ad, p.ba = some ad → ¬ X ad.block) (k : KpX X W W') : p.ok W' :=
 ⟨h.par, h.vlen, h.vmax, h.vnil, k.rd h.vrd hv, h.vin, h.blen, h.bmax, h.bnil, k.rd h.brd hb, h.bin⟩
structure MutR (p : PgV) (d : Dl) (w w' : World) (e : Ending) : Prop where
 ex : ∃ m : PgV, e = .returned (.tuple #[.agg m.cells, .int .i64 (Y1 p d)]) ∧ (Y1 p d = 0 → IsMut p d m ∧ m.ok w' ∧ m.body.length ≤ p.body.length + 1 ∧ ∀ ad, m.va = some ad ∨ m.ba = some ad → w.heap.size ≤ ad.block) ∧ (Y1 p d ≠ 0 → m = ⟨0, none, 0, [], none, 0, []⟩) ∧ Below w.heap.size w w'
theorem Aai (p : PgV) (x : DlV) (w : World) (hok : p.ok w) (hbl : p.body.length ≤ 1000) (hc : Zn p ≠ 0) :
 Calls Tryz.prog 18 #[.agg p.cells, .agg x.cells] w fun e w' => e = .returned (.tuple #[.agg (PgV.mk 0 none 0 [] none 0 []).cells, .int .i64 (Zn p)]) ∧ Below w.heap.size w w' := by
 have HS : Hid (∀ W, Below w.heap.size w W → Calls Tryz.prog 17 #[.agg p.cells] W fun e w' => AllR p W w' e) := fun W b => Kc p hbl W (hok.go b)
 obtain ⟨c, hcd⟩ : ∃ c, c = Zn p := ⟨_, rfl⟩
 have Hcd := Lh hcd
 rw [← hcd] at hc ⊢
 have hc1 : (c != 0) = true := by simpa using hc
 clear hok hbl hcd hc
 go_enter Tryz.func18, Tryz.ntmps18
 go_wp2_with (refine Qq _ _ rfl ?_)
 refine Stop.to ?_
 refine Qe rfl 25 _ rfl p.cells rfl ?_
 intro G Gw Gh Gr Gb
 go_wp2_with (refine Qq _ _ rfl ?_)
 refine Stop.to ?_
 refine Qe rfl 35 _ rfl x.cells rfl ?_
 intro D Dw Dh Dr Db
 go_wp2_with (first | fail | (refine Qy _ rfl ?_))
 refine Stop.to ?_
 refine Qi rfl 25 rfl _ _ KR rfl ?_
 intro R Rw Rh Rr Rb
 have b1 := (Below.refl w.heap.size w).trans (Gb.mono Gh)
 have b2 := b1.trans ((Db.mono Dh).mono b1.size)
 have b3 := b2.trans ((Rb.mono Rh).mono b2.size)
 have hR : w.heap.size ≤ R := Nat.le_trans b2.size Rh
 have rG := (Gr.below Db (Nat.lt_of_lt_of_le Gr.lt Dh))
 have rG2 := rG.below Rb (Nat.lt_of_lt_of_le rG.lt Rh)
 have rD := Dr.below Rb (Nat.lt_of_lt_of_le Dr.lt Rh)
 have rR : Row Rw R 25 #[.int .i64 0, .slice none 0 0, .slice none 0 0] := Rr
 have H1 := Lh (HS.out _ b3)
 clear Gr Gb Gh Dr Db Dh Rb Rh rG b1 b2 Rr HS
 go_wp2_with (refine wpList_load_row rfl 25 _ rfl G rfl 25 p.cells (0, 0) _ rG2 Tryz.underlying25 rfl (by kernel_rfl) ?_)
 refine H1.out.mono ?_
 rintro e w1 ⟨A, cap, xs, rfl, hrd, hcap, hnil, hT, hmap, _, hlen, b4⟩
 rw [← Hcd.out]
 have b5 := b3.trans (b4.mono b3.size)
 replace rR := rR.below b4 rR.lt
 clear H1 hrd hcap hnil hT hmap hlen b4 b3 rG2 rD
 go_wp2_with (refine Ql 25 _ _ rfl ?_)
 refine Stop.to ?_
 refine Qj rfl 25 _ _ rfl R (PgV.mk 0 none 0 [] none 0 []).cells rfl rfl 25 _ rR (by kernel_rfl) rfl (by simp [PgV.cells, Value.oneCell']) ?_
 intro W9 r9 o9
 have bE := Qv b5 o9 hR
 clear b5 o9 rR
 go_wp2_with fail
 refine bodyPost_ret (QY Tryz.results18 _ _ R 25 _ (0, 0) _ rfl r9 Tryz.underlying25 rfl (by kernel_rfl)) rfl ?_
 exact ⟨rfl, bE⟩
theorem Aam (p : PgV) (t : Tr) (x : DlV) (w : World) (hok : p.ok w) (hx : DlOk w x) (hbl : p.body.length ≤ 1000) (hg : Fine p t) (hd : x.d ∉ Ji p.body t) :
 Calls Tryz.prog 18 #[.agg p.cells, .agg x.cells] w fun e w' => e = .returned (.tuple #[.agg (PgV.mk 0 none 0 [] none 0 []).cells, .int .i64 17]) ∧ Below w.heap.size w w' := by
 have HS : Hid (∀ W, Below w.heap.size w W → Calls Tryz.prog 17 #[.agg p.cells] W fun e w' => AllR p W w' e) := fun W b => Kc p hbl W (hok.go b)
 have HX : Hid (∀ W, Below w.heap.size w W → DlOk W x) := fun W b => ⟨hx.1.go b, hx.2⟩
 have Hd := Lh hd
 have Hg := Lh hg
 have Hc := Lh (checkP_ok.2 ⟨t, hg⟩)
 clear hok hx hbl hg hd
 go_enter Tryz.func18, Tryz.ntmps18
 go_wp2_with (refine Qq _ _ rfl ?_)
 refine Stop.to ?_
 refine Qe rfl 25 _ rfl p.cells rfl ?_
 intro G Gw Gh Gr Gb
 go_wp2_with (refine Qq _ _ rfl ?_)
 refine Stop.to ?_
 refine Qe rfl 35 _ rfl x.cells rfl ?_
 intro D Dw Dh Dr Db
 go_wp2_with (first | fail | (refine Qy _ rfl ?_))
 refine Stop.to ?_
 refine Qi rfl 25 rfl _ _ KR rfl ?_
 intro R Rw Rh Rr Rb
 have b1 := (Below.refl w.heap.size w).trans (Gb.mono Gh)
 have b2 := b1.trans ((Db.mono Dh).mono b1.size)
 have b3 := b2.trans ((Rb.mono Rh).mono b2.size)
 have hR : w.heap.size ≤ R := Nat.le_trans b2.size Rh
 have rG := (Gr.below Db (Nat.lt_of_lt_of_le Gr.lt Dh))
 have rG2 := rG.below Rb (Nat.lt_of_lt_of_le rG.lt Rh)
 have rD := Dr.below Rb (Nat.lt_of_lt_of_le Dr.lt Rh)
 have rR : Row Rw R 25 #[.int .i64 0, .slice none 0 0, .slice none 0 0] := Rr
 have H1 := Lh (HS.out _ b3)
 clear Gr Gb Gh Dr Db Dh Rb Rh rG b1 b2 Rr HS
 go_wp2_with (refine wpList_load_row rfl 25 _ rfl G rfl 25 p.cells (0, 0) _ rG2 Tryz.underlying25 rfl (by kernel_rfl) ?_)
 refine H1.out.mono ?_
 rintro e w1 ⟨A, cap, xs, rfl, hrd, hcap, hnil, hT, hmap, _, hlen, b4⟩
 rw [Hc.out]
 have hmap2 := hmap t Hg.out
 have b5 := b3.trans (b4.mono b3.size)
 replace rD := rD.below b4 rD.lt
 replace rR := rR.below b4 rR.lt
 have Hfd := Lh (AaM A cap xs x w1 hrd (by omega) (fun y hy => (hT y hy).ok) (HX.out _ b5) (by rw [hmap2]; exact VY _ _))
 have Hin : Hid (¬ x.d ∈ xs.map DlV.d) := by show ¬ _; rw [hmap2]; exact Hd.out
 clear H1 hrd hcap hnil hT hmap hmap2 hlen b4 b3
 go_wp2_with (refine wpList_load_row rfl 35 _ rfl D rfl 35 x.cells (0, 0) _ rD Tryz.underlying35 rfl (by kernel_rfl) ?_)
 refine Hfd.out.mono ?_
 rintro e w2 ⟨⟨r, rfl, hr⟩, b6⟩
 have hr0 : r < 0 := by
  by_cases h : 0 ≤ r
  · exact absurd (hr.1 h) Hin.out
  · omega
 have b7 := b5.trans (b6.mono b5.size)
 replace rR := rR.below b6 rR.lt
 clear Hfd Hin hr b6 b5 HX rD rG2
 go_wp2_with (refine Ql 25 _ _ rfl ?_)
 refine Stop.to ?_
 refine Qj rfl 25 _ _ rfl R (PgV.mk 0 none 0 [] none 0 []).cells rfl rfl 25 _ rR (by kernel_rfl) rfl (by simp [PgV.cells, Value.oneCell']) ?_
 intro W9 r9 o9
 have bE := Qv b7 o9 hR
 clear b7 o9 rR
 go_wp2_with fail
 refine bodyPost_ret (QY Tryz.results18 _ _ R 25 _ (0, 0) _ rfl r9 Tryz.underlying25 rfl (by kernel_rfl)) rfl ?_
 exact ⟨rfl, bE⟩
theorem U4 (p : PgV) (x : DlV) (w : World) (hok : p.ok w) (hx : DlOk w x) (hbl : p.body.length ≤ 1000) :
 Calls Tryz.prog 18 #[.agg p.cells, .agg x.cells] w fun e w' => MutR p x.d w w' e := by
 by_cases hc : Zn p = 0
 · obtain ⟨t, hg⟩ := checkP_ok.1 hc
   by_cases hd : x.d ∈ Ji p.body t
   · obtain ⟨q, k, h1, _, h3⟩ := AbB p t x w hok hx hbl hg hd (AbI p hbl)
     obtain ⟨i1, i2⟩ := AdJ hg.good hd h1 hok.bin
     have h0 := AdI hg hd
     have hb := Acf hg h1
     refine h3.mono fun e w' h => ?_
     obtain ⟨m, e1, ⟨m1, m2, m3⟩, m4, m6, m5⟩ := h.okm hok i1
     exact ⟨m, by rw [h0]; exact e1, fun _ => ⟨⟨m1, m2, m3.trans hb.symm⟩, m4, by rw [m3]; exact i2, m6⟩, fun h => absurd h0 h, m5⟩
   · have h0 := Ae9 hg hd
     refine (Aam p t x w hok hx hbl hg hd).mono ?_
     rintro e w' ⟨rfl, b⟩
     exact ⟨_, by rw [h0], fun h => (by rw [h0] at h; cases h), fun _ => rfl, b⟩
 · have h0 := AfQ (d := x.d) hc
   refine (Aai p x w hok hbl hc).mono ?_
   rintro e w' ⟨rfl, b⟩
   exact ⟨_, by rw [h0], fun h => absurd (h0.symm.trans h) hc, fun _ => rfl, b⟩
end Go.Proofs.YtdcmppdhdcjpfaaGreat
