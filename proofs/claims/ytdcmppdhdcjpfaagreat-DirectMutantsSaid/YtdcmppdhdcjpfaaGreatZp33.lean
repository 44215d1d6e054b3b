/- Lemmas for DirectMutantsP. -/
import Derived.Test.YtdcmppdhdcjpfaaGreatZp1
import Derived.Test.YtdcmppdhdcjpfaaGreatZp23
import Derived.Test.YtdcmppdhdcjpfaaGreatZp32
import Derived.Test.YtdcmppdhdcjpfaaGreatZp29
set_option linter.unusedVariables false
set_option linter.unusedSimpArgs false
set_option maxRecDepth 100000
set_option maxHeartbeats 16000000
namespace Go.Proofs.YtdcmppdhdcjpfaaGreat
open Go.RowKit Go.Deep
structure AplR (p : PgV) (bd : List Nd) (w w' : World) (e : Ending) : Prop where
 ex : ∃ m : PgV, e = .returned (.tuple #[.agg m.cells, .int .i64 0]) ∧ (m.params = p.params ∧ m.V = p.V ∧ m.body = bd) ∧ w'.ownsRow w.heap.size 3 1 (.slice m.va m.V.length m.vcap) m.V.length (Qg m.V) ∧ w'.ownsRow w.heap.size 85 2 (.slice m.ba m.body.length m.bcap) m.body.length (m.body.flatMap Nd.cells) ∧ Below w.heap.size w w'
theorem AdQ {w : World} : (zeroValue 177).run Tryz.prog w = .ok (.agg #[.nilFunc, .nilFunc, .nilFunc, .nilFunc, .nilFunc, .nilFunc, .nilFunc, .nilFunc]) w := by kernel_rfl
theorem KR {w : World} : (zeroValue 25).run Tryz.prog w = .ok (.agg #[.int .i64 0, .slice none 0 0, .slice none 0 0]) w := by kernel_rfl
def AdN : Array Value := #[.nilFunc, .func (.func 109) #[] #[], .func (.func 110) #[] #[], .func (.func 111) #[] #[], .func (.func 112) #[] #[], .func (.func 113) #[] #[], .func (.func 114) #[] #[], .func (.func 115) #[] #[]]
theorem Abt (k : Nat) (fn : FuncId) (hk : 1 ≤ k ∧ k < 8) (hop : AdN[k]? = some (.func (.func fn) #[] #[])) (hen : ∀ args w, (callFunc fn args).run Tryz.prog w = .ok (.enter fn args) w) (p : PgV) (A : Option Addr) (cap : Nat) (π : List Int) (n : Int) (q : Nat) (bd : List Nd) (w : World) (hok : p.ok w) (hra : Rd w A (Qg π)) (hπ : π.length ≤ 1000000) (hf : Ku p.body π = (q : Int)) (hbl : p.body.length ≤ 1000) (hV : p.V.length ≤ 12) (hbd : 0 < bd.length)
 (hch : ∀ W, Below w.heap.size w W → Calls Tryz.prog fn #[.agg (Zs p q n)] W fun e w' => NdsR bd W w' e) :
 Calls Tryz.prog 55 #[.agg p.cells, .agg #[.slice A π.length cap, .int .i64 (k : Int), .int .i64 n]] w fun e w' => AplR p bd w w' e := by
 have Hfind : Hid (∀ W, Below w.heap.size w W → Calls Tryz.prog 116 #[.slice p.ba p.body.length p.bcap, .slice A π.length cap] W fun e w' => e = .returned (.int .i64 (q : Int)) ∧ Below W.heap.size W w') := fun W b => by
  rw [← hf]; exact Ade p.ba A p.bcap cap p.body π W (hok.go b).brd hbl (hra.go b) hπ
 have Hcl : Hid (∀ W, Below w.heap.size w W → Calls Tryz.prog 117 #[.slice p.va p.V.length p.vcap] W fun e w' => IntsR p.V W w' e) := fun W b => YA p.va p.vcap p.V W (hok.go b).vrd (fun e => List.eq_nil_of_length_eq_zero (by have h1 := hok.vlen; have h2 := hok.vnil e; omega)) (by omega)
 have Hch := Lh hch
 have Hop := Lh hop
 have k1 : ¬ ((k : Int) < 1) := by omega
 have k2 : ¬ ((8 : Int) ≤ (k : Int)) := by omega
 have k3 : (k : Int) < 8 := by omega
 have k4 : ¬ k = 0 := by omega
 have k5 : k < 8 := hk.2
 clear hop hk
 have hbld : ∀ W : World, (Instr.build 176 #[(0, .agg p.cells), (1, .int .i64 (q : Int)), (2, .int .i64 n)]).run Tryz.prog W = .ok (.agg (Zs p q n)) W := fun W => by kernel_rfl
 have hbI : ¬ ((bd.length : Int) = 0) := by omega
 have hq0 : ¬ ((q : Int) < 0) := by omega
 clear hok hra hπ hf hbl hch hbd hV
 go_enter Tryz.func55, Tryz.ntmps55
 go_wp2_with (refine Qq _ _ rfl ?_)
 refine Stop.to ?_
 refine Qe rfl 25 _ rfl p.cells rfl ?_
 intro G Gw Gh Gr Gb
 go_wp2_with (refine Qq _ _ rfl ?_)
 refine Stop.to ?_
 refine Qe rfl 35 _ rfl #[.slice A π.length cap, .int .i64 (k : Int), .int .i64 n] rfl ?_
 intro D Dw Dh Dr Db
 go_wp2_with (first | fail | (refine Qy _ rfl ?_))
 refine Stop.to ?_
 refine Qi rfl 25 rfl _ _ KR rfl ?_
 intro R Rw Rh Rr Rb
 have b1 := (Below.refl w.heap.size w).trans (Gb.mono Gh)
 have b2 := b1.trans ((Db.mono Dh).mono b1.size)
 have b3 := b2.trans ((Rb.mono Rh).mono b2.size)
 have hR : w.heap.size ≤ R := Nat.le_trans b2.size Rh
 have rG := (Gr.below Db (Nat.lt_of_lt_of_le Gr.lt Dh))
 have rG2 := rG.below Rb (Nat.lt_of_lt_of_le rG.lt Rh)
 have rD := Dr.below Rb (Nat.lt_of_lt_of_le Dr.lt Rh)
 have hGR : G < R ∧ D < R := ⟨by have := Gr.lt; have := Db.size; omega, Nat.lt_of_lt_of_le Dr.lt Rh⟩
 have hRl := Rr.lt
 clear Gr Gb Gh Dr Db Dh Rb Rh rG b1 b2
 go_wp2_with (refine Qy _ rfl ?_)
 refine Stop.to ?_
 refine Qi rfl 177 rfl _ _ AdQ rfl ?_
 intro F Fw Fh Fr Fb
 go_wp2_with (refine Ql 177 _ _ rfl ?_)
 refine Stop.to ?_
 refine Qj rfl 177 _ _ rfl F AdN rfl rfl 177 _ Fr (by kernel_rfl) rfl (by simp [AdN, Value.oneCell']) ?_
 intro W9 r9 o9
 have hord : (G ≠ R ∧ D ≠ R) ∧ F ≠ R := by omega
 clear hGR hRl
 have bF := (Below.refl Rw.heap.size Rw).trans (Fb.mono Fh)
 have bK := bF.trans (o9.below Fh)
 have b4 := b3.trans (bK.mono b3.size)
 replace rG2 := rG2.below bK rG2.lt
 replace rD := rD.below bK rD.lt
 replace Rr := Rr.below bK Rr.lt
 clear bF bK b3 Fb Fh Fr o9
 have g2 := rG2.cellv (i := 2) (v := .slice p.ba p.body.length p.bcap) rfl
 have d0 := rD.cellv (i := 0) (v := .slice A π.length cap) rfl
 have Hf := Lh (Hfind.out _ b4)
 clear Hfind
 go_wp2_with fail
 refine Hf.out.mono ?_
 rintro e w1 ⟨rfl, b5⟩
 replace b4 := b4.trans (b5.mono b4.size)
 replace rG2 := rG2.below b5 rG2.lt
 replace rD := rD.below b5 rD.lt
 replace Rr := Rr.below b5 Rr.lt
 replace r9 := r9.below b5 r9.lt
 clear b5 g2 d0 Hf
 have d1 := rD.cellv (i := 1) (v := .int .i64 (k : Int)) rfl
 go_wp2_with fail
 obtain ⟨S, hSd⟩ : ∃ S, S = (fun W => (Row W G 25 p.cells ∧ Row W D 35 #[.slice A π.length cap, .int .i64 (k : Int), .int .i64 n]) ∧ Row W F 177 AdN ∧ Below w.heap.size w W ∧ Below w1.heap.size w1 W) := ⟨_, rfl⟩
 have stS : St S := by rw [hSd]; infer_instance
 have TG : Hid (∀ W, S W → Row W G 25 p.cells) := by show ∀ W, _; rw [hSd]; exact fun W h => h.1.1
 have TD : Hid (∀ W, S W → Row W D 35 #[.slice A π.length cap, .int .i64 (k : Int), .int .i64 n]) := by show ∀ W, _; rw [hSd]; exact fun W h => h.1.2
 have TF : Hid (∀ W, S W → Row W F 177 AdN) := by show ∀ W, _; rw [hSd]; exact fun W h => h.2.1
 have TB : Hid (∀ W, S W → Below w.heap.size w W) := by show ∀ W, _; rw [hSd]; exact fun W h => h.2.2.1
 have TW : Hid (∀ W, S W → Below w1.heap.size w1 W) := by show ∀ W, _; rw [hSd]; exact fun W h => h.2.2.2
 have hS : S w1 := by rw [hSd]; exact ⟨⟨rG2, rD⟩, r9, b4, Below.refl _ _⟩
 have HR : Hid (∀ W, Below w1.heap.size w1 W → Row W R 25 #[.int .i64 0, .slice none 0 0, .slice none 0 0]) := fun W b => Row.below (cs := #[.int .i64 0, .slice none 0 0, .slice none 0 0]) Rr b Rr.lt
 have hne : Hid ((G ≠ R ∧ D ≠ R) ∧ F ≠ R) := hord
 clear hSd rG2 rD Rr r9 b4 d1 hord
 refine Zl S 9 (by kernel_rfl) (by kernel_rfl) (St.drew hS) ?_
 clear hS
 simp only [List.take_succ_cons, List.take_zero, List.drop_succ_cons, List.drop_zero]
 (refine Qh rfl ?_ (fun W hW => ?_) ?_; rotate_left; (focus (go_simp; exact rfl)); simp only [Act.put, Qa, Qb, Qc])
 (refine Qh rfl ?_ (fun W hW => ?_) ?_; rotate_left; (focus (have c := (TD.out W hW).cellv (i := 1) (v := .int .i64 (k : Int)) rfl; go_simp; exact rfl)); simp only [Act.put, Qa, Qb, Qc])
 (refine Qh rfl ?_ (fun W hW => ?_) ?_; rotate_left; (focus (go_simp; exact rfl)); simp only [Act.put, Qa, Qb, Qc])
 (refine Qh rfl ?_ (fun W hW => ?_) ?_; rotate_left; (focus (have c := (TF.out W hW).cellv (i := k) (v := .func (.func fn) #[] #[]) Hop.out; go_simp; exact rfl)); simp only [Act.put, Qa, Qb, Qc])
 (refine Zr rfl 25 _ rfl (G) rfl 25 _ _ TG.out Tryz.underlying25 rfl (by kernel_rfl) ?_; simp only [Act.put, Qa, Qb, Qc])
 iterate 2 (refine Qh rfl ?_ (fun W hW => ?_) ?_; rotate_left; (focus (go_simp; exact rfl)); simp only [Act.put, Qa, Qb, Qc])
 (refine Qh rfl ?_ (fun W hW => ?_) ?_; rotate_left; (focus (have c := (TD.out W hW).cellv (i := 2) (v := .int .i64 n) rfl; go_simp; exact rfl)); simp only [Act.put, Qa, Qb, Qc])
 (refine Qh rfl (.agg (Zs p q n)) (fun W hW => Ko 176 [_, _, _] rfl _ (by exact hbld W)) ?_; simp only [Act.put, Qa, Qb, Qc])
 refine QJ fun W hW => ?_
 have Hc := Lh (Hch.out W (TB.out W hW))
 clear Hch
 go_wp2_with (simp only [hen])
 refine Hc.out.mono ?_
 rintro e w2 ⟨v, rfl, hown, b6⟩
 have hS2 := stS.go hW b6
 have own1 := QH hown (TB.out W hW).size
 obtain ⟨A3, c3, rfl⟩ := Ze own1
 clear hown b6 Hc hW hbld
 go_wp2_with fail
 obtain ⟨S2, hSd⟩ : ∃ S2, S2 = (fun W => Row W G 25 p.cells ∧ Below w.heap.size w W) := ⟨_, rfl⟩
 have stS2 : St S2 := by rw [hSd]; infer_instance
 have U0 : Hid (∀ W, S2 W → Row W G 25 p.cells) := by show ∀ W, _; rw [hSd]; exact fun W h => h.1
 have U1 : Hid (∀ W, S2 W → Below w.heap.size w W) := by show ∀ W, _; rw [hSd]; exact fun W h => h.2
 have UMK : Hid (∀ W, Row W G 25 p.cells → Below w.heap.size w W → S2 W) := by show ∀ W, _; rw [hSd]; exact fun W h h2 => ⟨h, h2⟩
 have rR0 := HR.out _ (TW.out _ hS2)
 have hS3 := UMK.out _ (TG.out _ hS2) (TB.out _ hS2)
 clear hSd hS2 TD TF TW HR TG TB stS S
 refine wp_region_held (S := S2) (by kernel_rfl) ?_
 simp only [List.size_toArray, List.length_cons, List.length_nil, Nat.reduceAdd, Array.replicate_succ, Array.replicate_zero, List.push_toArray, List.nil_append, List.cons_append]
 show wpAnyH _ _ _ _ _ _ _ _ (w2).drew
 obtain ⟨V0, hV0⟩ : ∃ V0, V0 = (w2).drew := ⟨_, rfl⟩
 have b0 : Below w2.heap.size w2 V0 := by rw [hV0]; exact St.drew (S := fun W => Below w2.heap.size w2 W) (Below.refl _ _)
 rw [← hV0]
 clear hV0
 have hS0 : S2 V0 := stS2.go hS3 b0
 replace rR0 := rR0.below b0 rR0.lt
 have own2 := QN own1 b0
 clear b0 own1 hS3
 (refine tkH 0 (.pointer (some ⟨G, 0, none⟩)) rfl (Qd rfl (fun W hW => by (go_simp))) ?_; simp only [Act.put, Qa, Qb, Qc])
 (refine tkH 1 (.int .i64 p.params) rfl (Qd rfl (fun W hW => by ((have c := (U0.out _ hW).cellv (i := 0) (v := .int .i64 p.params) rfl; go_simp)))) ?_; simp only [Act.put, Qa, Qb, Qc])
 (refine tkH 2 (.pointer (some ⟨G, 1, none⟩)) rfl (Qd rfl (fun W hW => by (go_simp))) ?_; simp only [Act.put, Qa, Qb, Qc])
 (refine tkH 3 (.slice p.va p.V.length p.vcap) rfl (Qd rfl (fun W hW => by ((have c := (U0.out _ hW).cellv (i := 1) (v := .slice p.va p.V.length p.vcap) rfl; go_simp)))) ?_; simp only [Act.put, Qa, Qb, Qc])
 (refine tkH 5 (.slice A3 bd.length c3) rfl (Qd rfl (fun W hW => by (go_simp))) ?_; simp only [Act.put, Qa, Qb, Qc])
 (refine wpAnyH_all (rs := [4]) (by kernel_rfl) (by simp) (fun i hi => ?_); obtain rfl : i = 4 := by simpa using hi)
 refine Qf rfl rfl (fun K2 hK2 => ?_)
 refine QB 117 #[.slice p.va p.V.length p.vcap] (w1 := V0) (by go_simp) ((Hcl.out V0 (U1.out _ hS0)).mono ?_)
 rintro e V1 ⟨v6, rfl, own6, b6⟩
 refine ⟨_, rfl, ?_⟩
 refine hK2 _ _ ?_
 clear hK2 K2
 simp only [Act.put, Qa, Qb, Qc]
 have hS1 := stS2.go hS0 b6
 have own3 := QN own2 b6
 have own7 := QH own6 (U1.out _ hS0).size
 have rR := rR0.below b6 rR0.lt
 clear own2 own6 b6 hS0 Hcl rR0
 obtain ⟨A6, c6, rfl⟩ := Ze own7
 refine ⟨hS1, ?_⟩
 (refine tkH 6 (.agg #[.int .i64 p.params, .slice A6 p.V.length c6, .slice A3 bd.length c3]) rfl (Qd rfl (fun W hW => by (go_simp))) ?_; simp only [Act.put, Qa, Qb, Qc])
 (refine wpAnyH_all (rs := [7]) (by kernel_rfl) (by simp) (fun i hi => ?_); obtain rfl : i = 7 := by simpa using hi)
 refine Qf rfl rfl (fun K2 hK2 => ?_)
 refine ZI 25 _ _ rfl R #[.int .i64 p.params, .slice A6 p.V.length c6, .slice A3 bd.length c3] rfl rfl 25 _ rR (by kernel_rfl) rfl (by simp [Value.oneCell']) ?_
 intro V2 rR2 o2
 refine hK2 _ _ ?_
 clear hK2 K2
 simp only [Act.put, Qa, Qb, Qc]
 have o3 := Qt own3 o2 (Qu own3 rR (by decide))
 have o7 := Qt own7 o2 (Qu own7 rR (by decide))
 have bE := Qv (U1.out _ hS1) o2 hR
 have hS4 := UMK.out _ ((U0.out _ hS1).only o2 hne.out.1.1) bE
 refine ⟨hS4, ?_⟩
 clear hS1 own3 own7 rR o2
 (refine tkH 8 (.int .i64 0) rfl (Qd rfl (fun W hW => by (go_simp))) ?_; simp only [Act.put, Qa, Qb, Qc])
 refine wpAnyH_done (by kernel_rfl) ?_ _
 go_wp2_with fail
 refine bodyPost_ret (QY Tryz.results55 _ _ R 25 _ (0, 0) _ rfl rR2 Tryz.underlying25 rfl (by kernel_rfl)) rfl ?_
 exact ⟨⟨p.params, A6, c6, p.V, A3, c3, bd⟩, rfl, ⟨rfl, rfl, rfl⟩, o7, o3, bE⟩
end Go.Proofs.YtdcmppdhdcjpfaaGreat
namespace Go.Proofs.YtdcmppdhdcjpfaaGreat
open Go.RowKit
def Ui (x : Nd) (q s : Nat) (op n : Int) : Nat × Nd × Nat :=
 if op ≤ 3 then (q, ⟨n, x.n⟩, q + 1) else if op = 4 then (q, ⟨x.tag, n⟩, q + 1) else if op = 5 then (q, ⟨26, 0⟩, q + s) else if op = 6 then (q + 1, ⟨6, 0⟩, q + 1) else (q + 1, ⟨1, n⟩, q + s)
def Y0 (l : List Nd) (c : Nat × Nd × Nat) : List Nd := l.take c.1 ++ (c.2.1 :: l.drop c.2.2)
def Z1 (l : List Nd) (q : Nat) (k : Tr) (op n : Int) : List Nd := Y0 l (Ui k.root q k.size op n)
def AfC : List Tr → List Tr
 | [] => []
 | c :: r => .node ⟨6, 0⟩ [c] :: r
def chT (op n : Int) : Tr → Tr
 | .node x ks => if op ≤ 3 then .node ⟨n, x.n⟩ ks else if op = 4 then .node ⟨x.tag, n⟩ ks else if op = 5 then .node ⟨26, 0⟩ [] else
  if op = 6 then .node x (AfC ks) else .node x [.node ⟨1, n⟩ []]
mutual
def KN (f : Tr → Tr) : List Int → Tr → Tr
 | [], t => f t
 | i :: π, .node x ks => .node x (Xg f π i.toNat ks)
def Xg (f : Tr → Tr) (π : List Int) : Nat → List Tr → List Tr
 | _, [] => []
 | 0, t :: ts => KN f π t :: ts
 | i + 1, t :: ts => t :: Xg f π i ts
end
theorem UD (f : Tr → Tr) (π : List Int) : ∀ (i : Nat) (ks : List Tr), (Xg f π i ks).length = ks.length
 | _, [] => by simp [Xg]
 | 0, t :: ts => by simp [Xg]
 | i + 1, t :: ts => by simp [Xg, UD f π i ts]
theorem Vo : ∀ (ts : List Tr) (p i : Nat) (r : Nat) (k : Tr), (QP p ts)[i]? = some r → ts[i]? = some k → ∃ a b : List Nd, QF ts = a ++ (k.flat ++ b) ∧ r = p + a.length ∧ ∀ (f : Tr → Tr) (π : List Int), QF (Xg f π i ts) = a ++ ((KN f π k).flat ++ b)
 | [], _, _, _, _, h, _ => by simp [QP] at h
 | t :: ts, p, 0, r, k, h1, h2 => by
  simp [QP] at h1 h2
  subst h1 h2
  exact ⟨[], QF ts, by simp [QF], by simp, fun f π => by simp [Xg, QF]⟩
 | t :: ts, p, i + 1, r, k, h1, h2 => by
  simp [QP] at h1 h2
  obtain ⟨a, b, e1, e2, e3⟩ := Vo ts (p + t.size) i r k h1 h2
  refine ⟨t.flat ++ a, b, by rw [QF, e1, List.append_assoc], by rw [e2, List.length_append]; show p + t.flat.length + a.length = _; omega, fun f π => ?_⟩
  rw [Xg, QF, e3, List.append_assoc]
theorem UX : ∀ (π : List Int) (q r : Nat) (t k : Tr), Zu π q t = some (r, k) → ∃ a b : List Nd, t.flat = a ++ (k.flat ++ b) ∧ r = q + a.length ∧ ∀ f : Tr → Tr, (KN f π t).flat = a ++ ((f k).flat ++ b)
 | [], q, r, t, k, h => by
  simp [Zu] at h
  obtain ⟨rfl, rfl⟩ := h
  exact ⟨[], [], by simp, by simp, fun f => by simp [KN]⟩
 | i :: π, q, r, .node x ks, k, h => by
  rw [Zu] at h
  split at h
  · cases h
  · split at h
    · rename_i s u h1 h2
      obtain ⟨a, b, e1, e2, e3⟩ := Vo ks (q + 1) i.toNat s u h1 h2
      obtain ⟨a2, b2, g1, g2, g3⟩ := UX π s r u k h
      refine ⟨x :: (a ++ a2), b2 ++ b, by rw [Tr.flat, e1, g1]; simp, by rw [g2, e2]; simp; omega, fun f => ?_⟩
      rw [KN, Tr.flat, e3, g3]
      simp
    · cases h
theorem K7 {π : List Int} {i : Int} {q r : Nat} {x : Nd} {ks : List Tr} {k : Tr} (h : Zu (i :: π) q (.node x ks) = some (r, k)) : ∃ s u, (QP (q + 1) ks)[i.toNat]? = some s ∧ ks[i.toNat]? = some u ∧ Zu π s u = some (r, k) := by
 rw [Zu] at h
 split at h
 · cases h
 · split at h
   · rename_i s u h1 h2; exact ⟨s, u, h1, h2, h⟩
   · cases h
theorem AaV (f : Tr → Tr) (π : List Int) : ∀ (ks : List Tr) (i j : Nat) (u : Tr), ks[i]? = some u → (Xg f π i ks)[j]? = if j = i then some (KN f π u) else ks[j]?
 | [], i, _, _, h => by simp at h
 | t :: ts, 0, j, u, h => by
  simp at h; subst h
  cases j with
  | zero => simp [Xg]
  | succ j => simp [Xg]
 | t :: ts, i + 1, j, u, h => by
  simp at h
  cases j with
  | zero => simp [Xg]
  | succ j => simp [Xg, AaV f π ts i j u h]
theorem VA {f : Tr → Tr} : ∀ {π : List Int} {q r : Nat} {t k : Tr}, t.fits → Zu π q t = some (r, k) → (k.fits → (f k).fits) → (KN f π t).fits
 | [], q, r, t, k, ht, h, hf => by
  simp [Zu] at h
  obtain ⟨_, rfl⟩ := h
  rw [KN]; exact hf ht
 | i :: π, q, r, .node x ks, k, ht, h, hf => by
  obtain ⟨s, u, h1, h2, h3⟩ := K7 h
  cases ht with
  | mk _ _ ha hk =>
   rw [KN]
   refine .mk _ _ (by rw [UD]; exact ha) fun c hc => ?_
   obtain ⟨j, hj⟩ := List.mem_iff_getElem?.1 hc
   rw [AaV f π ks i.toNat j u h2] at hj
   split at hj
   · injection hj with hj
     subst hj
     exact VA (hk u (List.mem_of_getElem? h2)) h3 hf
   · exact hk c (List.mem_of_getElem? hj)
theorem Uw : ∀ {π : List Int} {q r : Nat} {t k : Tr}, t.fits → Zu π q t = some (r, k) → k.fits
 | [], q, r, t, k, ht, h => by simp [Zu] at h; obtain ⟨_, rfl⟩ := h; exact ht
 | i :: π, q, r, .node x ks, k, ht, h => by
  obtain ⟨s, u, h1, h2, h3⟩ := K7 h
  cases ht with
  | mk _ _ ha hk => exact Uw (hk u (List.mem_of_getElem? h2)) h3
theorem UT {V : List Int} {inn : Bool} {f : Tr → Tr} {π : List Int} : ∀ (ts : List Tr) (ws : List Int) (b : Bool) (i : Nat) (u : Tr), ts[i]? = some u → ofT V (KN f π u) = ofT V u → (KN f π u).root.tag = u.root.tag ∨ (¬ (KN f π u).root.tag = 20 ∧ ¬ u.root.tag = 20) → Q2 V inn b (Xg f π i ts) ws = Q2 V inn b ts ws
 | [], _, _, i, u, h, _, _ => by simp at h
 | t :: ts, [], b, i, u, h, _, _ => by
  cases i <;> simp [Xg, Q2]
 | t :: ts, w :: ws, b, 0, u, h, h1, h2 => by
  simp at h; subst h
  have e : ((KN f π t).root.tag == 20) = (t.root.tag == 20) := by
   rcases h2 with h2 | ⟨h2, h3⟩
   · rw [h2]
   · rw [Bool.eq_iff_iff, beq_iff_eq, beq_iff_eq]
     exact ⟨fun h => absurd h h2, fun h => absurd h h3⟩
  rw [Xg, Q2, Q2, h1, e]
 | t :: ts, w :: ws, b, i + 1, u, h, h1, h2 => by
  simp at h
  rw [Xg, Q2, Q2, UT ts ws false i u h h1 h2]
theorem Aez {V : List Int} {x : Nd} {n : Nat} (hx : isZ V x ≠ -1) (h : (-1 : Int) ∈ QL V x n) : False := by
 unfold QL at h
 repeat' split at h
 all_goals (try (simp at h; done))
 · rename_i _ _ _ _ h21
   have hp : JP V x.n = true := by
    by_cases hp : JP V x.n = true
    · exact hp
    · exfalso
      apply hx
      unfold isZ
      rw [if_neg (by omega), if_neg (by omega), if_neg (by omega), if_neg (by omega), if_neg (by omega), if_neg (by omega), if_neg (by omega), if_neg (by omega), if_pos h21, if_neg hp]
   obtain ⟨t, ht, h01⟩ := K9 hp
   rw [ht] at h
   simp at h
   omega
theorem YL {V : List Int} : ∀ {π : List Int} {q r : Nat} {t k : Tr}, ofT V t ≠ -1 → Zu π q t = some (r, k) → ofT V k ≠ -1
 | [], q, r, t, k, ht, h => by simp [Zu] at h; obtain ⟨_, rfl⟩ := h; exact ht
 | i :: π, q, r, .node x ks, k, ht, h => by
  obtain ⟨s, u, h1, h2, h3⟩ := K7 h
  obtain ⟨_, g2, g3, g4⟩ := Ki ht
  have hl : i.toNat < (QL V x ks.length).length := by rw [g3]; exact (List.getElem?_eq_some_iff.1 h2).1
  have := KY g4 i.toNat u _ h2 (List.getElem?_eq_getElem hl)
  refine YL (t := u) ?_ h3
  rw [this]
  intro e
  have hm : (-1 : Int) ∈ QL V x ks.length := by rw [← e]; exact List.getElem_mem hl
  exact Aez g2 hm
def AbZ (a b : Int) : Prop := a = b ∨ (¬ a = 20 ∧ ¬ b = 20)
theorem VR {V : List Int} {f : Tr → Tr} : ∀ {π : List Int} {q r : Nat} {t k : Tr}, Zu π q t = some (r, k) → ofT V (f k) = ofT V k → AbZ (f k).root.tag k.root.tag → ofT V (KN f π t) = ofT V t ∧ AbZ (KN f π t).root.tag t.root.tag
 | [], q, r, t, k, h, h1, h2 => by simp [Zu] at h; obtain ⟨_, rfl⟩ := h; rw [KN]; exact ⟨h1, h2⟩
 | i :: π, q, r, .node x ks, k, h, h1, h2 => by
  obtain ⟨s, u, g1, g2, g3⟩ := K7 h
  obtain ⟨e1, e2⟩ := VR g3 h1 h2
  rw [KN]
  refine ⟨?_, .inl rfl⟩
  rw [ofT, ofT, UD, UT ks _ _ i.toNat u g2 e1 e2]
theorem Tr.fits.len {x : Nd} {ks : List Tr} (h : (Tr.node x ks).fits) : Qw x = (ks.length : Int) := by cases h; assumption
theorem Tr.fits.kids {x : Nd} {ks : List Tr} (h : (Tr.node x ks).fits) : ∀ k ∈ ks, k.fits := by cases h; assumption
theorem UM {t n m a : Int} (h : Q1 ⟨t, n⟩ = (m, a)) (ht : ¬ t = 1) (h0 : 0 ≤ n) (h1 : n ≤ m) : Qw ⟨t, n⟩ = a := by
 unfold Qw
 rw [if_neg ht, h, if_neg (by simp only; omega)]
theorem EI {t n : Int} (h : 7 ≤ t ∧ t ≤ 19) : Q1 ⟨t, n⟩ = (0, 2) := by
 unfold Q1
 simp only
 rw [if_neg (by omega), if_neg (by omega), if_neg (by omega), if_neg (by omega), if_neg (by omega), if_neg (by omega), if_neg (by omega), if_neg (by omega), if_neg (by omega), if_pos h]
theorem AcG {x : Nd} (h : 7 ≤ x.tag ∧ x.tag ≤ 19) (ha : Qw x ≠ -1) : x.n = 0 := by
 unfold Qw at ha
 rw [if_neg (by omega), show Q1 x = (0, 2) from EI (t := x.tag) (n := x.n) h] at ha
 by_cases h2 : x.n < 0 ∨ 0 < x.n
 · rw [if_pos h2] at ha; exact absurd rfl ha
 · omega
theorem YB {x y : Nd} {op n : Int} (h : isC x y op n = true) :
 (op = 1 ∧ (7 ≤ x.tag ∧ x.tag ≤ 11) ∧ 7 ≤ n ∧ n ≤ 11 ∧ n ≠ x.tag) ∨ (op = 2 ∧ (12 ≤ x.tag ∧ x.tag ≤ 17) ∧ 12 ≤ n ∧ n ≤ 17 ∧ n ≠ x.tag) ∨ (op = 3 ∧ (18 ≤ x.tag ∧ x.tag ≤ 19) ∧ 18 ≤ n ∧ n ≤ 19 ∧ n ≠ x.tag) ∨
 (op = 4 ∧ ((x.tag = 1 ∧ n ≠ x.n) ∨ (x.tag = 2 ∧ n = wrap64 (1 - x.n)))) ∨ (op = 5 ∧ (x.tag = 21 ∨ x.tag = 22 ∨ x.tag = 23 ∨ x.tag = 24 ∨ x.tag = 25) ∧ n = 0) ∨ (op = 6 ∧ (x.tag = 23 ∨ x.tag = 24) ∧ n = 0) ∨ (op = 7 ∧ x.tag = 25 ∧ (n = 0 ∨ n = 1)) := by
 unfold isC at h
 by_cases o1 : op = 1
 · rw [if_pos o1, decide_eq_true_eq] at h; exact .inl ⟨o1, ⟨h.1, h.2.1⟩, h.2.2.1, h.2.2.2.1, h.2.2.2.2⟩
 rw [if_neg o1] at h
 by_cases o2 : op = 2
 · rw [if_pos o2, decide_eq_true_eq] at h; exact .inr (.inl ⟨o2, ⟨h.1, h.2.1⟩, h.2.2.1, h.2.2.2.1, h.2.2.2.2⟩)
 rw [if_neg o2] at h
 by_cases o3 : op = 3
 · rw [if_pos o3, decide_eq_true_eq] at h; exact .inr (.inr (.inl ⟨o3, ⟨h.1, h.2.1⟩, h.2.2.1, h.2.2.2.1, h.2.2.2.2⟩))
 rw [if_neg o3] at h
 by_cases o4 : op = 4
 · rw [if_pos o4, decide_eq_true_eq] at h
   refine .inr (.inr (.inr (.inl ⟨o4, ?_⟩)))
   rcases h with ⟨h1, _, h2⟩ | ⟨h1, h2⟩
   · exact .inl ⟨h1, h2⟩
   · exact .inr ⟨h1, h2⟩
 rw [if_neg o4] at h
 by_cases o5 : op = 5
 · rw [if_pos o5, decide_eq_true_eq] at h; exact .inr (.inr (.inr (.inr (.inl ⟨o5, h.1, h.2⟩))))
 rw [if_neg o5] at h
 by_cases o6 : op = 6
 · rw [if_pos o6, decide_eq_true_eq] at h; exact .inr (.inr (.inr (.inr (.inr (.inl ⟨o6, h.1, h.2⟩)))))
 rw [if_neg o6] at h
 by_cases o7 : op = 7
 · rw [if_pos o7, decide_eq_true_eq] at h; exact .inr (.inr (.inr (.inr (.inr (.inr ⟨o7, h.1, h.2.1⟩)))))
 rw [if_neg o7] at h
 cases h
theorem Aeu {V : List Int} {x : Nd} (h : x.tag = 21 ∨ x.tag = 22 ∨ x.tag = 23 ∨ x.tag = 24 ∨ x.tag = 25) (h2 : isZ V x ≠ -1) : isZ V x = 2 := by
 unfold isZ at h2 ⊢
 rw [if_neg (by omega), if_neg (by omega), if_neg (by omega), if_neg (by omega), if_neg (by omega), if_neg (by omega), if_neg (by omega), if_neg (by omega)] at h2 ⊢
 by_cases h21 : x.tag = 21
 · rw [if_pos h21] at h2 ⊢
   split at h2
   · rename_i hp; rw [if_pos hp]
   · exact absurd rfl h2
 · rw [if_neg h21] at h2 ⊢
   by_cases h22 : x.tag = 22
   · rw [if_pos h22] at h2 ⊢
     split at h2
     · rename_i hp; rw [if_pos hp]
     · exact absurd rfl h2
   · rw [if_neg h22]
theorem EJ (V : List Int) {x : Nd} {n : Nat} (h : x.tag = 23 ∨ x.tag = 24) : ∃ r, QL V x n = 1 :: r := by
 unfold QL
 rw [if_neg (by omega), if_neg (by omega), if_neg (by omega), if_neg (by omega), if_neg (by omega)]
 rcases h with h | h
 · rw [if_pos h]; exact ⟨_, rfl⟩
 · rw [if_neg (by omega), if_pos h]; exact ⟨_, rfl⟩
theorem XZ (V : List Int) {x : Nd} {n : Nat} (h : x.tag = 1 ∨ x.tag = 2 ∨ x.tag = 26) : QL V x n = [] := by
 unfold QL
 rw [if_neg (by omega), if_neg (by omega), if_neg (by omega), if_neg (by omega), if_neg (by omega), if_neg (by omega), if_neg (by omega), if_pos (by omega)]
theorem EU (V : List Int) {x : Nd} {n : Nat} (h : x.tag = 25) : QL V x n = [0] := by
 unfold QL; rw [if_pos (by omega)]
theorem Ado (V : List Int) {x : Nd} {n : Nat} (h : x.tag = 6) : QL V x n = [1] := by
 unfold QL; rw [if_neg (by omega), if_pos h]
theorem isZ_t {V : List Int} {x : Nd} : (x.tag = 1 → isZ V x = 0) ∧ (x.tag = 2 → isZ V x = 1) ∧ (x.tag = 6 → isZ V x = 1) ∧ (x.tag = 26 → isZ V x = 2) ∧ (7 ≤ x.tag ∧ x.tag ≤ 11 → isZ V x = 0) ∧ (12 ≤ x.tag ∧ x.tag ≤ 19 → isZ V x = 1) := by
 unfold isZ
 refine ⟨fun h => ?_, fun h => ?_, fun h => ?_, fun h => ?_, fun h => ?_, fun h => ?_⟩
 · rw [if_pos h]
 · rw [if_neg (by omega), if_pos h]
 · rw [if_neg (by omega), if_neg (by omega), if_neg (by omega), if_neg (by omega), if_neg (by omega), if_pos h]
 · rw [if_neg (by omega), if_neg (by omega), if_neg (by omega), if_neg (by omega), if_neg (by omega), if_neg (by omega), if_neg (by omega), if_neg (by omega), if_neg (by omega), if_neg (by omega)]
 · rw [if_neg (by omega), if_neg (by omega), if_neg (by omega), if_neg (by omega), if_neg (by omega), if_neg (by omega), if_pos h]
 · rw [if_neg (by omega), if_neg (by omega), if_neg (by omega), if_neg (by omega), if_neg (by omega), if_neg (by omega), if_neg (by omega), if_pos h]
theorem KQ (V : List Int) {x : Nd} {n : Nat} : (7 ≤ x.tag ∧ x.tag ≤ 17 → QL V x n = [0, 0]) ∧ (18 ≤ x.tag ∧ x.tag ≤ 19 → QL V x n = [1, 1]) := by
 unfold QL
 refine ⟨fun h => ?_, fun h => ?_⟩
 · rw [if_neg (by omega), if_neg (by omega), if_pos (by omega)]
 · rw [if_neg (by omega), if_neg (by omega), if_neg (by omega), if_pos (by omega)]
theorem U6 {x : Nd} (h : ¬ x.tag = 23) (h2 : ¬ x.tag = 24) : Q6 x = false := by unfold Q6; simp [h, h2]
theorem AeQ {V : List Int} {k : Tr} {y : Nd} {op n : Int} (hk : k.fits) (ht : ofT V k ≠ -1) (hc : isC k.root y op n = true) (hn : k.root.tag = 2 → k.root.n = 0 ∨ k.root.n = 1) :
 (chT op n k).fits ∧ ofT V (chT op n k) = ofT V k ∧ AbZ (chT op n k).root.tag k.root.tag := by
 obtain ⟨x, ks⟩ := k
 obtain ⟨h1, h2, h3, h4⟩ := Ki ht
 have ha := hk.len
 have hks := hk.kids
 have hroot : (Tr.node x ks).root = x := rfl
 rw [hroot] at hc hn
 have hb : ∀ t : Int, (7 ≤ x.tag ∧ x.tag ≤ 19) → 7 ≤ t ∧ t ≤ 19 → (QL V x ks.length = QL V ⟨t, x.n⟩ ks.length) → isZ V x = isZ V ⟨t, x.n⟩ → (Tr.node ⟨t, x.n⟩ ks).fits ∧ ofT V (.node ⟨t, x.n⟩ ks) = ofT V (.node x ks) ∧ AbZ t x.tag := by
  intro t hx h7 hw hi
  have hx0 := AcG hx (by omega)
  have h2 : Qw x = 2 := UM (t := x.tag) (n := x.n) (EI hx) (by omega) (by omega) (by omega)
  refine ⟨.mk _ _ ?_ hks, ?_, .inr ⟨by omega, by omega⟩⟩
  · rw [UM (EI h7) (by omega) (by omega) (by omega), ← ha, h2]
  · rw [ofT, ofT, ← hw, ← hi, U6 (x := ⟨t, x.n⟩) (by simp only; omega) (by simp only; omega), U6 (x := x) (by omega) (by omega)]
 rcases YB hc with ⟨rfl, hx, h7, h8, _⟩ | ⟨rfl, hx, h7, h8, _⟩ | ⟨rfl, hx, h7, h8, _⟩ | ⟨rfl, h⟩ | ⟨rfl, h, rfl⟩ | ⟨rfl, h, rfl⟩ | ⟨rfl, h, _⟩
 · rw [chT, if_pos (by decide)]
   exact hb n (by omega) (by omega) (by rw [(KQ V).1 (by omega), (KQ V).1 (by simp only; omega)]) (by rw [isZ_t.2.2.2.2.1 (by omega), isZ_t.2.2.2.2.1 (by simp only; omega)])
 · rw [chT, if_pos (by decide)]
   exact hb n (by omega) (by omega) (by rw [(KQ V).1 (by omega), (KQ V).1 (by simp only; omega)]) (by rw [isZ_t.2.2.2.2.2 (by omega), isZ_t.2.2.2.2.2 (by simp only; omega)])
 · rw [chT, if_pos (by decide)]
   exact hb n (by omega) (by omega) (by rw [(KQ V).2 (by omega), (KQ V).2 (by simp only; omega)]) (by rw [isZ_t.2.2.2.2.2 (by omega), isZ_t.2.2.2.2.2 (by simp only; omega)])
 · rw [chT, if_neg (by decide), if_pos rfl]
   have hw : QL V x ks.length = [] := XZ V (by omega)
   have hw2 : QL V ⟨x.tag, n⟩ ks.length = [] := XZ V (by simp only; omega)
   rw [hw] at h3
   have hks0 : ks = [] := List.eq_nil_of_length_eq_zero (by simpa using h3.symm)
   subst hks0
   refine ⟨.mk _ _ ?_ hks, ?_, .inl rfl⟩
   · rcases h with ⟨h, _⟩ | ⟨h, h5⟩
     · unfold Qw; rw [if_pos h]; rfl
     · have hl : Q1 ⟨x.tag, n⟩ = (1, 0) := by unfold Q1; rw [if_pos h]
       have hnn : n = 0 ∨ n = 1 := by
        rw [h5]; unfold wrap64
        rcases hn h with e | e <;> rw [e] <;> omega
       rw [UM hl (by omega) (by omega) (by omega)]; rfl
   · have hi : isZ V ⟨x.tag, n⟩ = isZ V x := by
      rcases h with ⟨h, _⟩ | ⟨h, _⟩
      · rw [(isZ_t (x := x)).1 h, (isZ_t (x := ⟨x.tag, n⟩)).1 h]
      · rw [(isZ_t (x := x)).2.1 h, (isZ_t (x := ⟨x.tag, n⟩)).2.1 h]
     rw [ofT, ofT, hw, hw2, hi]
     simp [Q2]
 · rw [chT, if_neg (by decide), if_neg (by decide), if_pos rfl]
   refine ⟨.mk _ _ (by decide) (fun k hk => by cases hk), ?_, .inr ⟨by show ¬ (26 : Int) = 20; decide, by show ¬ x.tag = 20; omega⟩⟩
   rw [h1, Aeu h h2, ofT, XZ V (by simp), isZ_t.2.2.2.1 rfl]
   simp [Q2]
 · rw [chT, if_neg (by decide), if_neg (by decide), if_neg (by decide), if_pos rfl]
   obtain ⟨ws, hw⟩ := EJ V (n := ks.length) h
   rw [hw] at h3 h4
   match ks, ha, hks, h3, h4, hw with
   | [], _, _, h3, _, _ => simp at h3
   | c :: r, ha, hks, h3, h4, hw =>
    have hc1 : ofT V c = 1 := KY h4 0 c 1 rfl rfl
    refine ⟨.mk _ _ ha fun k hk => ?_, ?_, .inl rfl⟩
    · rcases List.mem_cons.1 hk with rfl | hk
      · exact .mk _ _ (show Qw ⟨6, 0⟩ = ((1 : Nat) : Int) by decide) fun k hk => by rw [List.mem_singleton.1 hk]; exact hks c (by simp)
      · exact hks k (by simp [hk])
    · have hnot : ofT V (.node ⟨6, 0⟩ [c]) = 1 := by
       rw [ofT, Ado V rfl, isZ_t.2.2.1 rfl]
       simp [Q2, hc1, U6]
      rw [ofT, ofT, hw]
      have hl : ((Tr.node ⟨6, 0⟩ [c]) :: r).length = (c :: r).length := rfl
      rw [AfC, hl, hw]
      have hk2 : Q2 V (Q6 x) true ((Tr.node ⟨6, 0⟩ [c]) :: r) (1 :: ws) = Q2 V (Q6 x) true (c :: r) (1 :: ws) := by
       rw [Q2, Q2, hnot, hc1]; simp
      rw [hk2]
 · rw [chT, if_neg (by decide), if_neg (by decide), if_neg (by decide), if_neg (by decide)]
   have hw : QL V x ks.length = [0] := EU V h
   rw [hw] at h3 h4
   match ks, ha, hks, h3, h4, hw with
   | [], _, _, h3, _, _ => simp at h3
   | c :: d :: r, _, _, h3, _, _ => simp at h3
   | [c], ha, hks, h3, h4, hw =>
    have hc1 : ofT V c = 0 := KY h4 0 c 0 rfl rfl
    refine ⟨.mk _ _ ha fun k hk => ?_, ?_, .inl rfl⟩
    · rw [List.mem_singleton.1 hk]
      exact .mk _ _ (by unfold Qw; rfl) fun k hk => by cases hk
    · have hint : ofT V (.node ⟨1, n⟩ []) = 0 := by
       rw [ofT, XZ V (by simp), isZ_t.1 rfl]
       simp [Q2]
      rw [ofT, ofT]
      show (if isZ V x = -1 ∨ (QL V x 1).length ≠ 1 then _ else _) = (if isZ V x = -1 ∨ (QL V x 1).length ≠ 1 then _ else _)
      have hk2 : Q2 V (Q6 x) true [(Tr.node ⟨1, n⟩ [])] (QL V x 1) = Q2 V (Q6 x) true [c] (QL V x 1) := by
       rw [show QL V x 1 = [0] from hw]; simp [Q2, hint, hc1]
      rw [show QL V x [Tr.node ⟨1, n⟩ []].length = QL V x 1 from rfl, show QL V x [c].length = QL V x 1 from rfl, hk2]
theorem Ad8 {l a b : List Nd} {k : Tr} {op n : Int} {V : List Int} {y : Nd} (h : l = a ++ (k.flat ++ b)) (hk : k.fits) (ht : ofT V k ≠ -1) (hc : isC k.root y op n = true) : Z1 l a.length k op n = a ++ ((chT op n k).flat ++ b) := by
 obtain ⟨x, ks⟩ := k
 obtain ⟨_, _, h3, _⟩ := Ki ht
 have hroot : (Tr.node x ks).root = x := rfl
 rw [hroot] at hc
 have e0 : l.take a.length = a := by rw [h]; simp
 have e1 : l.drop (a.length + 1) = QF ks ++ b := by rw [h, Tr.flat]; simp
 have e2 : l.drop (a.length + (Tr.node x ks).size) = b := by
  rw [h, ← List.append_assoc]
  exact List.drop_left' (by simp [Tr.size])
 have e3 : l.take (a.length + 1) = a ++ [x] := by
  rw [h, Tr.flat, show a ++ (x :: QF ks ++ b) = (a ++ [x]) ++ (QF ks ++ b) by simp]
  exact List.take_left' (by simp)
 unfold Z1 Y0 Ui
 rw [hroot]
 rcases YB hc with ⟨rfl, _⟩ | ⟨rfl, _⟩ | ⟨rfl, _⟩ | ⟨rfl, h⟩ | ⟨rfl, h, rfl⟩ | ⟨rfl, h, rfl⟩ | ⟨rfl, h, _⟩
 · rw [chT, if_pos (by decide), if_pos (by decide), e0, e1, Tr.flat]; simp
 · rw [chT, if_pos (by decide), if_pos (by decide), e0, e1, Tr.flat]; simp
 · rw [chT, if_pos (by decide), if_pos (by decide), e0, e1, Tr.flat]; simp
 · rw [chT, if_neg (by decide), if_pos rfl, if_neg (by decide), if_pos rfl, e0, e1, Tr.flat]; simp
 · rw [chT, if_neg (by decide), if_neg (by decide), if_pos rfl, if_neg (by decide), if_neg (by decide), if_pos rfl, e0, e2, Tr.flat]; simp [QF]
 · rw [chT, if_neg (by decide), if_neg (by decide), if_neg (by decide), if_pos rfl, if_neg (by decide), if_neg (by decide), if_neg (by decide), if_pos rfl]
   simp only
   rw [e3, e1, Tr.flat]
   obtain ⟨ws, hw⟩ := EJ V (n := ks.length) h
   rw [hw] at h3
   match ks, h3 with
   | c :: r, _ => simp [AfC, QF, Tr.flat]
 · rw [chT, if_neg (by decide), if_neg (by decide), if_neg (by decide), if_neg (by decide), if_neg (by decide), if_neg (by decide), if_neg (by decide), if_neg (by decide)]
   simp only
   rw [e3, e2, Tr.flat]; simp [QF, Tr.flat]
theorem E1 {x : Nd} {ks : List Tr} (h : (Tr.node x ks).fits) (h2 : x.tag = 2) : x.n = 0 ∨ x.n = 1 := by
 have ha := h.len
 obtain ⟨a, b⟩ := x
 simp only at h2
 subst h2
 by_cases hn : b < 0 ∨ 1 < b
 · have h3 : Qw ⟨2, b⟩ = -1 := by
    unfold Qw
    rw [if_neg (by simp), show Q1 ⟨2, b⟩ = (1, 0) from by unfold Q1; rw [if_pos rfl], if_pos hn]
   rw [h3] at ha; omega
 · simp only; omega
theorem Good.typed {p : PgV} {t : Tr} (h : Good p t) : ofT p.V t ≠ -1 := by rw [h.kind]; decide
theorem Good.change {p : PgV} {t : Tr} (h : Good p t) {d : Dl} (hd : d ∈ Ji p.body t) : ∃ q k, Zu d.path 0 t = some (q, k) ∧ At p.body q k ∧ ofT p.V k ≠ -1 ∧ isC k.root (YC p.body (q + 1)) d.op d.n = true ∧ YC p.body q = k.root ∧
 ∀ m : PgV, m.params = p.params → m.V = p.V → m.body = Z1 p.body q k d.op d.n → Good m (KN (chT d.op d.n) d.path t) := by
 obtain ⟨q, k, hf, hc⟩ := allZ_mem.1 hd
 have hat := Uf h.hat hf
 have hnd : YC p.body q = k.root := by
  obtain ⟨r, hr⟩ := hat.here
  have : p.body[q]? = some k.root := by
   have := congrArg (·[0]?) hr
   obtain ⟨x, ks⟩ := k
   simpa [List.getElem?_drop, Tr.flat, Tr.root] using this
  unfold YC; rw [this]; rfl
 have hkf := Uw h.hat.fits hf
 have hkt := YL h.typed hf
 have h2 : k.root.tag = 2 → k.root.n = 0 ∨ k.root.n = 1 := by
  obtain ⟨x, ks⟩ := k
  exact E1 hkf
 have hc' : isC k.root (YC p.body (q + 1)) d.op d.n = true := by
  have hc2 : (d.op, d.n) ∈ ZV (YC p.body q) (YC p.body (q + 1)) := hc
  rw [hnd] at hc2
  exact (Eh h2).1 hc2
 refine ⟨q, k, hf, hat, hkt, hc', hnd, fun m m1 m2 m3 => ?_⟩
 obtain ⟨c1, c2, c3⟩ := AeQ hkf hkt hc' h2
 obtain ⟨k1, k2⟩ := VR hf c2 c3
 obtain ⟨a, b, f1, f2, f3⟩ := UX _ _ _ _ _ hf
 have hbody : p.body = t.flat := by
  obtain ⟨r, hr⟩ := h.hat.here
  have hl := congrArg List.length hr
  have hs := h.size
  rw [List.length_append] at hl
  have : t.flat.length = p.body.length := hs
  have hr0 : r = [] := List.eq_nil_of_length_eq_zero (by simp at hl; omega)
  subst hr0
  simpa using hr
 have hq : q = a.length := by omega
 subst hq
 have hm : m.body = (KN (chT d.op d.n) d.path t).flat := by
  rw [m3, f3, Ad8 (hbody.trans f1) hkf hkt hc']
 refine ⟨⟨VA h.hat.fits hf (fun _ => c1), [], ?_⟩, ?_, ?_, ?_, ?_⟩
 · rw [hm]; simp
 · rw [hm]; rfl
 · rw [m1, m2]; exact h.vars
 · rcases k2 with k2 | ⟨_, k2⟩
   · rw [k2, h.tag]
   · exact absurd h.tag k2
 · rw [m2, k1, h.kind]
end Go.Proofs.YtdcmppdhdcjpfaaGreat
namespace Go.Proofs.YtdcmppdhdcjpfaaGreat
open Go.RowKit Go.Deep
theorem Uv : ∀ {l : List Nd} {q : Nat} (y : Nd), q < l.length → l.set q y = l.take q ++ y :: l.drop (q + 1)
 | [], _, _, h => by simp at h
 | x :: l, 0, y, _ => by simp
 | x :: l, q + 1, y, h => by
  rw [List.set_cons_succ, Uv (l := l) y (by simpa using h)]
  simp
theorem Aa0 : ∀ ks : List Tr, ks.length ≤ (QF ks).length
 | [] => by simp
 | .node x js :: ts => by
  have := Aa0 ts
  rw [QF, List.length_append, Tr.flat, List.length_cons, List.length_cons]
  omega
def Abl (p : PgV) (w : World) : Prop := ∀ (q : Nat) (t : Tr) (W : World), Below w.heap.size w W → At p.body q t → (t.root.tag = 23 ∨ t.root.tag = 24) → q + 1 < p.body.length → Calls Tryz.prog 114 #[.agg (Zs p q 0)] W fun e w' => NdsR (p.body.take (q + 1) ++ (⟨6, 0⟩ :: p.body.drop (q + 1))) W w' e
theorem Acp {p : PgV} {t k : Tr} {π : List Int} {q : Nat} (h : Good p t) (hf : Zu π 0 t = some (q, k)) : Ku p.body π = (q : Int) := by
 unfold Ku
 rw [if_pos h.whole.endZ]
 have := U2 π 0 t h.hat
 rw [hf] at this
 exact this
theorem VM (p : PgV) (t : Tr) (A : Option Addr) (cap : Nat) (d : Dl) (w : World) (hok : p.ok w) (hra : Rd w A (Qg d.path)) (hπ : d.path.length ≤ 1000000) (hbl : p.body.length ≤ 1000) (hg : Good p t) (hd : d ∈ Ji p.body t) (hneg : Abl p w) :
 ∃ q k, Zu d.path 0 t = some (q, k) ∧ (∀ m : PgV, m.params = p.params → m.V = p.V → m.body = Z1 p.body q k d.op d.n → Good m (KN (chT d.op d.n) d.path t)) ∧
  Calls Tryz.prog 55 #[.agg p.cells, .agg #[.slice A d.path.length cap, .int .i64 d.op, .int .i64 d.n]] w fun e w' => AplR p (Z1 p.body q k d.op d.n) w w' e := by
 obtain ⟨q, k, hf, hat, hty, hc, _, hm⟩ := hg.change hd
 refine ⟨q, k, hf, hm, ?_⟩
 have hfd := Acp hg hf
 have hV : p.V.length ≤ 12 := hg.vars.2.2.1
 have hq := hat.lt
 have hx := hat.root
 have hs := hat.le
 obtain ⟨π, op, n⟩ := d
 dsimp only at hra hπ hf hc hfd ⊢
 obtain ⟨x, ks⟩ := k
 have hroot : (Tr.node x ks).root = x := rfl
 rw [hroot] at hc hx
 have hpos : ∀ c : Nat × Nd × Nat, 0 < (Y0 p.body c).length := fun c => by unfold Y0; simp; omega
 have e123 : op ≤ 3 → Z1 p.body q (.node x ks) op n = p.body.set q ⟨n, x.n⟩ := fun h => by
  unfold Z1 Ui Y0
  rw [hroot, if_pos h, Uv _ hq]
 rcases YB hc with ⟨rfl, h1, h2, h3, _⟩ | ⟨rfl, h1, h2, h3, _⟩ | ⟨rfl, h1, h2, h3, _⟩ | ⟨rfl, h⟩ | ⟨rfl, h, rfl⟩ | ⟨rfl, h, rfl⟩ | ⟨rfl, h, h2⟩
 · exact Abt 1 109 (by decide) rfl (enters_of Tryz.func109 (by kernel_rfl) rfl) p A cap π n q _ w hok hra hπ hfd hbl hV (hpos _) fun W b => by rw [e123 (by decide)]; exact AbA p q n x W hx hbl (hok.go b) ⟨h1, h2, h3⟩
 · exact Abt 2 110 (by decide) rfl (enters_of Tryz.func110 (by kernel_rfl) rfl) p A cap π n q _ w hok hra hπ hfd hbl hV (hpos _) fun W b => by rw [e123 (by decide)]; exact Ad6 p q n x W hx hbl (hok.go b) ⟨h1, h2, h3⟩
 · exact Abt 3 111 (by decide) rfl (enters_of Tryz.func111 (by kernel_rfl) rfl) p A cap π n q _ w hok hra hπ hfd hbl hV (hpos _) fun W b => by rw [e123 (by decide)]; exact Abj p q n x W hx hbl (hok.go b) ⟨h1, h2, h3⟩
 · refine Abt 4 112 (by decide) rfl (enters_of Tryz.func112 (by kernel_rfl) rfl) p A cap π n q _ w hok hra hπ hfd hbl hV (hpos _) fun W b => ?_
   have e : Z1 p.body q (.node x ks) 4 n = p.body.set q ⟨x.tag, n⟩ := by
    unfold Z1 Ui Y0
    rw [hroot, if_neg (by decide), if_pos rfl, Uv _ hq]
   rw [e]
   refine Aa8 p q n x W hx hbl (hok.go b) ?_
   rcases h with ⟨h, _⟩ | ⟨h, h5⟩
   · exact .inl h
   · have h2 := E1 hat.fits h
     refine .inr ⟨h, ?_⟩
     rw [h5]
     unfold wrap64
     rcases h2 with e | e <;> rw [e] <;> omega
 · refine Abt 5 113 (by decide) rfl (enters_of Tryz.func113 (by kernel_rfl) rfl) p A cap π 0 q _ w hok hra hπ hfd hbl hV (hpos _) fun W b => ?_
   have e : Z1 p.body q (.node x ks) 5 0 = p.body.take q ++ ([⟨26, 0⟩] ++ p.body.drop (q + (Tr.node x ks).size)) := by
    unfold Z1 Ui Y0
    rw [hroot, if_neg (by decide), if_neg (by decide), if_pos rfl]
    rfl
   rw [e]
   exact Aef p q (.node x ks) W hat hbl (hok.go b) h
 · refine Abt 6 114 (by decide) rfl (enters_of Tryz.func114 (by kernel_rfl) rfl) p A cap π 0 q _ w hok hra hπ hfd hbl hV (hpos _) fun W b => ?_
   have e : Z1 p.body q (.node x ks) 6 0 = p.body.take (q + 1) ++ (⟨6, 0⟩ :: p.body.drop (q + 1)) := by
    unfold Z1 Ui Y0
    rw [hroot, if_neg (by decide), if_neg (by decide), if_neg (by decide), if_pos rfl]
   rw [e]
   refine hneg q (.node x ks) W b hat h ?_
   obtain ⟨_, _, h3, _⟩ := Ki hty
   obtain ⟨ws, hw⟩ := EJ p.V (n := ks.length) h
   rw [hw] at h3
   have h4 := Aa0 ks
   have h5 : (Tr.node x ks).size = (QF ks).length + 1 := by unfold Tr.size; rw [Tr.flat, List.length_cons]
   simp only [List.length_cons] at h3
   omega
 · refine Abt 7 115 (by decide) rfl (enters_of Tryz.func115 (by kernel_rfl) rfl) p A cap π n q _ w hok hra hπ hfd hbl hV (hpos _) fun W b => ?_
   obtain ⟨_, _, h3, _⟩ := Ki hty
   rw [EU p.V h] at h3
   match ks, h3, hat, hf, hty with
   | [c], _, hat, _, _ =>
    have hsz : (Tr.node x [c]).size = 1 + c.size := by unfold Tr.size; rw [Tr.flat, List.length_cons, QF, QF, List.append_nil]; omega
    have hac : At p.body (q + 1) c := by
     obtain ⟨r, hr⟩ := hat.here
     refine ⟨hat.fits.kids c (by simp), r, ?_⟩
     rw [← List.drop_drop, hr, Tr.flat, QF, QF, List.append_nil]
     rfl
    have e : Z1 p.body q (.node x [c]) 7 n = p.body.take (q + 1) ++ ([⟨1, n⟩] ++ p.body.drop (q + 1 + c.size)) := by
     unfold Z1 Ui Y0
     rw [hroot, if_neg (by decide), if_neg (by decide), if_neg (by decide), if_neg (by decide), hsz]
     simp only
     rw [show q + (1 + c.size) = q + 1 + c.size by omega]
     rfl
    rw [e]
    exact Adi p q n (.node x [c]) c W hat hac hbl (hok.go b) h
end Go.Proofs.YtdcmppdhdcjpfaaGreat
