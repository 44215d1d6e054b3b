/- Lemmas for JnBll. -/
import Derived.Test.YtcgglolckkeeiaaGreatZk29
import Derived.Test.YtcgglolckkeeiaaGreatZk32
namespace Go.Proofs.YtcgglolckkeeiaaGreat
set_option linter.unusedVariables false
open Go.RowKit Go.Deep
instance : DecidableEq Dl := fun a b => decidable_of_iff (cmpD a b = 0) cmpD_eq
theorem chV_at {W : World} {A : Option Addr} {l : List ChV} (hr : Rd W A (chsC l)) {k : Nat} {x : ChV} (hx : l[k]? = some x) : ∃ ad, A = some ad ∧ ∀ j u, x.cells.toList[j]? = some u → W.cell? ((ad.add (k * 5)).add j) = some u :=
 el_at (c := fun c : ChV => c.cells.toList) (sz := 5) (fun _ => rfl) (by decide) hr hx
theorem ch_dl {W : World} {A : Addr} {x : ChV} (h : ∀ j u, x.cells.toList[j]? = some u → W.cell? (A.add j) = some u) : ∀ j v, x.x.cells.toList[j]? = some v → W.cell? (A.add j) = some v := fun j v hj => h j v (by
 match j, hj with
 | 0, hj | 1, hj | 2, hj => exact hj
 | j + 3, hj => simp [DlV.cells] at hj)
instance St.chok {l : List ChV} : St (fun W => ∀ x ∈ l, DlOk W x.x) := ⟨fun h b x hx => ⟨Rd.go (h x hx).rd b, (h x hx).len⟩⟩
set_option maxRecDepth 100000 in
set_option maxHeartbeats 4000000 in
theorem changes_any (A B : Option Addr) (c d na nb : Nat) (a b : List ChV) (w : World) (hna : na = a.length) (hnb : nb = b.length) (ha : Rd w A (chsC a)) (hb : Rd w B (chsC b)) (hoa : ∀ x ∈ a, DlOk w x.x) (hob : ∀ x ∈ b, DlOk w x.x) (hla : a.length ≤ 1000000) :
 Calls Tryz.prog 22 #[.slice A na c, .slice B nb d] w fun e w' => e = .returned (.bool (decide (a.map ChV.data = b.map ChV.data))) ∧ Below w.heap.size w w' := by
 by_cases hl : na = nb
 rotate_left
 · have hlI : ((na : Int) != (nb : Int)) = true := by simp; omega
   have hne : a.map ChV.data ≠ b.map ChV.data := fun e => hl (by rw [hna, hnb]; simpa using congrArg List.length e)
   have Hne : Hid (decide (a.map ChV.data = b.map ChV.data) = false) := by show _ = _; simp [hne]
   clear hl hna hnb hne ha hb hla hoa hob
   go_enter Tryz.func22, Tryz.ntmps22
   go_wp2
   go_ret
   exact ⟨ret_b Hne.out, Below.refl _ _⟩
 subst hl
 have Ha := Lib.hid hna
 have Hb := Lib.hid hnb
 have hn6 : (na : Int) ≤ 1000000 := by omega
 clear hna hnb hla
 obtain ⟨S, hSd⟩ : ∃ S, S = (fun W => Rd W A (chsC a) ∧ Rd W B (chsC b) ∧ (∀ x ∈ a, DlOk W x.x) ∧ (∀ x ∈ b, DlOk W x.x) ∧ Below w.heap.size w W) := ⟨_, rfl⟩
 have stS : St S := by rw [hSd]; infer_instance
 have S0' : Hid (∀ W, S W → Rd W A (chsC a)) := by show ∀ W, _; rw [hSd]; exact fun W h => h.1
 have S1' : Hid (∀ W, S W → Rd W B (chsC b)) := by show ∀ W, _; rw [hSd]; exact fun W h => h.2.1
 have S3' : Hid (∀ W, S W → ∀ x ∈ a, DlOk W x.x) := by show ∀ W, _; rw [hSd]; exact fun W h => h.2.2.1
 have S4' : Hid (∀ W, S W → ∀ x ∈ b, DlOk W x.x) := by show ∀ W, _; rw [hSd]; exact fun W h => h.2.2.2.1
 have S2' : Hid (∀ W, S W → Below w.heap.size w W) := by show ∀ W, _; rw [hSd]; exact fun W h => h.2.2.2.2
 have hS : S w := by rw [hSd]; exact ⟨ha, hb, hoa, hob, Below.refl _ _⟩
 clear hSd ha hb hoa hob
 go_enter Tryz.func22, Tryz.ntmps22
 go_wp2
 go_loopw [5] (fun i wr => ∃ k : Nat, i = .int .i64 (k : Int) ∧ k ≤ na ∧ Hid ((a.take k).map ChV.data = (b.take k).map ChV.data) ∧ S wr) (fun i _ => na - (intOf i).toNat)
 case atStart => exact ⟨0, by simp, Nat.zero_le _, by simp [Hid], hS⟩
 case round =>
  clear hS
  obtain ⟨k, rfl, hk, Hk, hS⟩ := hrel
  by_cases hkn : k < na
  · obtain ⟨e, he⟩ : ∃ e, a[k]? = some e := ⟨_, List.getElem?_eq_getElem (by have := Ha.out; omega)⟩
    obtain ⟨f, hf⟩ : ∃ f, b[k]? = some f := ⟨_, List.getElem?_eq_getElem (by have := Hb.out; omega)⟩
    obtain ⟨ad, had, _⟩ := chV_at (S0'.out _ hS) he
    obtain ⟨bd, hbd, _⟩ := chV_at (S1'.out _ hS) hf
    subst had hbd
    have Hca : Hid (∀ W, S W → ∀ j u, e.cells.toList[j]? = some u → W.cell? ((ad.add (k * 5)).add j) = some u) := fun W h => by
     obtain ⟨ad', h1, h2⟩ := chV_at (S0'.out _ h) he
     injection h1 with h1; subst h1; exact h2
    have Hcb : Hid (∀ W, S W → ∀ j u, f.cells.toList[j]? = some u → W.cell? ((bd.add (k * 5)).add j) = some u) := fun W h => by
     obtain ⟨ad', h1, h2⟩ := chV_at (S1'.out _ h) hf
     injection h1 with h1; subst h1; exact h2
    have He := Lib.hid he
    have Hf := Lib.hid hf
    have Hea := Lib.hid (List.mem_of_getElem? he)
    have Hfb := Lib.hid (List.mem_of_getElem? hf)
    have hkn' : (k : Int) < (na : Int) := by omega
    have ewk : IntKind.i64.wrap ((k : Int) + 1) = (k : Int) + 1 := IntWalk.i64_in _ (by omega)
    clear he hf
    by_cases hd : e.x.d = f.x.d
    rotate_left
    · have hd0 : cmpD e.x.d f.x.d ≠ 0 := fun h => hd (cmpD_eq.1 h)
      have hef : e.data ≠ f.data := fun h => hd (congrArg Prod.fst h)
      obtain ⟨δ, hδ⟩ : ∃ δ, δ = cmpD e.x.d f.x.d := ⟨_, rfl⟩
      have hδ0 : (δ != 0) = true := by simpa [hδ] using hd0
      have Hδ := Lib.hid hδ
      clear hδ hd0 hd
      go_wp2
      refine region_hold S (by kernel_rfl) (by kernel_rfl) (St.drew hS) ?_
      clear hS
      iterate 4 (refine hold_value rfl ?_ (fun W hW => ?_) ?_; rotate_left; (focus (go_simp; exact rfl)); simp only [Act.put, List.setIfInBounds_toArray, List.set_cons_zero, List.set_cons_succ])
      (refine hold_load_at rfl 42 _ rfl ((ad.add (k * 5))) rfl e.x.cells.toList _ (fun W hW => ch_dl (Hca.out W hW)) Tryz.underlying42 rfl (by kernel_rfl) ?_; simp only [Act.put, List.setIfInBounds_toArray, List.set_cons_zero, List.set_cons_succ])
      iterate 4 (refine hold_value rfl ?_ (fun W hW => ?_) ?_; rotate_left; (focus (go_simp; exact rfl)); simp only [Act.put, List.setIfInBounds_toArray, List.set_cons_zero, List.set_cons_succ])
      (refine hold_load_at rfl 42 _ rfl ((bd.add (k * 5))) rfl f.x.cells.toList _ (fun W hW => ch_dl (Hcb.out W hW)) Tryz.underlying42 rfl (by kernel_rfl) ?_; simp only [Act.put, List.setIfInBounds_toArray, List.set_cons_zero, List.set_cons_succ])
      (refine hold_call_new rfl 57 _ (fun W => by (go_simp; try rfl)) (.int .i64 δ) (fun W hW => (by rw [Hδ.out]; exact refDlCmp_any e.x f.x W (S3'.out _ hW e Hea.out) (S4'.out _ hW f Hfb.out))) ?_; simp only [Act.put, List.setIfInBounds_toArray, List.set_cons_zero, List.set_cons_succ])
      (refine hold_value rfl (.bool true) (fun W hW => (by first | (go_simp; done) | (go_simp; simp [hδ0]))) ?_; simp only [Act.put, List.setIfInBounds_toArray, List.set_cons_zero, List.set_cons_succ])
      (refine hold_value rfl ?_ (fun W hW => ?_) ?_; rotate_left; (focus (go_simp; exact rfl)); simp only [Act.put, List.setIfInBounds_toArray, List.set_cons_zero, List.set_cons_succ])
      iterate 11 (refine hold_skip rfl ?_; simp only [Act.put, List.setIfInBounds_toArray, List.set_cons_zero, List.set_cons_succ])
      iterate 2 (refine hold_value rfl ?_ (fun W hW => ?_) ?_; rotate_left; (focus (go_simp; exact rfl)); simp only [Act.put, List.setIfInBounds_toArray, List.set_cons_zero, List.set_cons_succ])
      iterate 11 (refine hold_skip rfl ?_; simp only [Act.put, List.setIfInBounds_toArray, List.set_cons_zero, List.set_cons_succ])
      (refine hold_value rfl ?_ (fun W hW => ?_) ?_; rotate_left; (focus (go_simp; exact rfl)); simp only [Act.put, List.setIfInBounds_toArray, List.set_cons_zero, List.set_cons_succ])
      refine wpHold_nil fun W hS => ?_
      have Hne : Hid (decide (a.map ChV.data = b.map ChV.data) = false) := by
       show _ = _
       have := map_take_no (f := ChV.data) He.out Hf.out hef
       simp [this]
      clear Hca Hcb He Hf Hk hef Hea Hfb
      go_wp2
      go_ret
      exact ⟨ret_b Hne.out, S2'.out _ hS⟩
    have hd0 : cmpD e.x.d f.x.d = 0 := cmpD_eq.2 hd
    have Hd0 := Lib.hid hd0
    by_cases h1 : e.a = f.a
    rotate_left
    · have hef : e.data ≠ f.data := fun h => h1 (congrArg (fun x => x.2.1) h)
      have hn1 : (e.a != f.a) = true := by simpa using h1
      clear hd hd0 h1
      go_wp2
      refine region_hold S (by kernel_rfl) (by kernel_rfl) (St.drew hS) ?_
      clear hS
      iterate 4 (refine hold_value rfl ?_ (fun W hW => ?_) ?_; rotate_left; (focus (go_simp; exact rfl)); simp only [Act.put, List.setIfInBounds_toArray, List.set_cons_zero, List.set_cons_succ])
      (refine hold_load_at rfl 42 _ rfl ((ad.add (k * 5))) rfl e.x.cells.toList _ (fun W hW => ch_dl (Hca.out W hW)) Tryz.underlying42 rfl (by kernel_rfl) ?_; simp only [Act.put, List.setIfInBounds_toArray, List.set_cons_zero, List.set_cons_succ])
      iterate 4 (refine hold_value rfl ?_ (fun W hW => ?_) ?_; rotate_left; (focus (go_simp; exact rfl)); simp only [Act.put, List.setIfInBounds_toArray, List.set_cons_zero, List.set_cons_succ])
      (refine hold_load_at rfl 42 _ rfl ((bd.add (k * 5))) rfl f.x.cells.toList _ (fun W hW => ch_dl (Hcb.out W hW)) Tryz.underlying42 rfl (by kernel_rfl) ?_; simp only [Act.put, List.setIfInBounds_toArray, List.set_cons_zero, List.set_cons_succ])
      (refine hold_call_new rfl 57 _ (fun W => by (go_simp; try rfl)) (.int .i64 0) (fun W hW => (by rw [← Hd0.out]; exact refDlCmp_any e.x f.x W (S3'.out _ hW e Hea.out) (S4'.out _ hW f Hfb.out))) ?_; simp only [Act.put, List.setIfInBounds_toArray, List.set_cons_zero, List.set_cons_succ])
      iterate 2 (refine hold_value rfl ?_ (fun W hW => ?_) ?_; rotate_left; (focus (go_simp; exact rfl)); simp only [Act.put, List.setIfInBounds_toArray, List.set_cons_zero, List.set_cons_succ])
      iterate 4 (refine hold_value rfl ?_ (fun W hW => ?_) ?_; rotate_left; (focus (go_simp; exact rfl)); simp only [Act.put, List.setIfInBounds_toArray, List.set_cons_zero, List.set_cons_succ])
      (refine hold_value rfl ?_ (fun W hW => ?_) ?_; rotate_left; (focus (have c : W.cell? ⟨(ad.add (k * 5)).block, (ad.add (k * 5)).off + 3, none⟩ = some (.int .i64 e.a) := Hca.out W hW 3 _ rfl; go_simp; exact rfl)); simp only [Act.put, List.setIfInBounds_toArray, List.set_cons_zero, List.set_cons_succ])
      iterate 4 (refine hold_value rfl ?_ (fun W hW => ?_) ?_; rotate_left; (focus (go_simp; exact rfl)); simp only [Act.put, List.setIfInBounds_toArray, List.set_cons_zero, List.set_cons_succ])
      (refine hold_value rfl ?_ (fun W hW => ?_) ?_; rotate_left; (focus (have c : W.cell? ⟨(bd.add (k * 5)).block, (bd.add (k * 5)).off + 3, none⟩ = some (.int .i64 f.a) := Hcb.out W hW 3 _ rfl; go_simp; exact rfl)); simp only [Act.put, List.setIfInBounds_toArray, List.set_cons_zero, List.set_cons_succ])
      (refine hold_value rfl (.bool true) (fun W hW => (by first | (go_simp; done) | (go_simp; simp [hn1]))) ?_; simp only [Act.put, List.setIfInBounds_toArray, List.set_cons_zero, List.set_cons_succ])
      iterate 2 (refine hold_value rfl ?_ (fun W hW => ?_) ?_; rotate_left; (focus (go_simp; exact rfl)); simp only [Act.put, List.setIfInBounds_toArray, List.set_cons_zero, List.set_cons_succ])
      iterate 11 (refine hold_skip rfl ?_; simp only [Act.put, List.setIfInBounds_toArray, List.set_cons_zero, List.set_cons_succ])
      (refine hold_value rfl ?_ (fun W hW => ?_) ?_; rotate_left; (focus (go_simp; exact rfl)); simp only [Act.put, List.setIfInBounds_toArray, List.set_cons_zero, List.set_cons_succ])
      refine wpHold_nil fun W hS => ?_
      have Hne : Hid (decide (a.map ChV.data = b.map ChV.data) = false) := by
       show _ = _
       have := map_take_no (f := ChV.data) He.out Hf.out hef
       simp [this]
      clear Hca Hcb He Hf Hk hef Hea Hfb
      go_wp2
      go_ret
      exact ⟨ret_b Hne.out, S2'.out _ hS⟩
    have hn1 : (e.a != f.a) = false := by simpa using h1
    by_cases h2 : e.b = f.b
    rotate_left
    · have hef : e.data ≠ f.data := fun h => h2 (congrArg (fun x => x.2.2) h)
      have hn2 : (e.b != f.b) = true := by simpa using h2
      clear hd hd0 h1 h2
      go_wp2
      refine region_hold S (by kernel_rfl) (by kernel_rfl) (St.drew hS) ?_
      clear hS
      iterate 4 (refine hold_value rfl ?_ (fun W hW => ?_) ?_; rotate_left; (focus (go_simp; exact rfl)); simp only [Act.put, List.setIfInBounds_toArray, List.set_cons_zero, List.set_cons_succ])
      (refine hold_load_at rfl 42 _ rfl ((ad.add (k * 5))) rfl e.x.cells.toList _ (fun W hW => ch_dl (Hca.out W hW)) Tryz.underlying42 rfl (by kernel_rfl) ?_; simp only [Act.put, List.setIfInBounds_toArray, List.set_cons_zero, List.set_cons_succ])
      iterate 4 (refine hold_value rfl ?_ (fun W hW => ?_) ?_; rotate_left; (focus (go_simp; exact rfl)); simp only [Act.put, List.setIfInBounds_toArray, List.set_cons_zero, List.set_cons_succ])
      (refine hold_load_at rfl 42 _ rfl ((bd.add (k * 5))) rfl f.x.cells.toList _ (fun W hW => ch_dl (Hcb.out W hW)) Tryz.underlying42 rfl (by kernel_rfl) ?_; simp only [Act.put, List.setIfInBounds_toArray, List.set_cons_zero, List.set_cons_succ])
      (refine hold_call_new rfl 57 _ (fun W => by (go_simp; try rfl)) (.int .i64 0) (fun W hW => (by rw [← Hd0.out]; exact refDlCmp_any e.x f.x W (S3'.out _ hW e Hea.out) (S4'.out _ hW f Hfb.out))) ?_; simp only [Act.put, List.setIfInBounds_toArray, List.set_cons_zero, List.set_cons_succ])
      iterate 2 (refine hold_value rfl ?_ (fun W hW => ?_) ?_; rotate_left; (focus (go_simp; exact rfl)); simp only [Act.put, List.setIfInBounds_toArray, List.set_cons_zero, List.set_cons_succ])
      iterate 4 (refine hold_value rfl ?_ (fun W hW => ?_) ?_; rotate_left; (focus (go_simp; exact rfl)); simp only [Act.put, List.setIfInBounds_toArray, List.set_cons_zero, List.set_cons_succ])
      (refine hold_value rfl ?_ (fun W hW => ?_) ?_; rotate_left; (focus (have c : W.cell? ⟨(ad.add (k * 5)).block, (ad.add (k * 5)).off + 3, none⟩ = some (.int .i64 e.a) := Hca.out W hW 3 _ rfl; go_simp; exact rfl)); simp only [Act.put, List.setIfInBounds_toArray, List.set_cons_zero, List.set_cons_succ])
      iterate 4 (refine hold_value rfl ?_ (fun W hW => ?_) ?_; rotate_left; (focus (go_simp; exact rfl)); simp only [Act.put, List.setIfInBounds_toArray, List.set_cons_zero, List.set_cons_succ])
      (refine hold_value rfl ?_ (fun W hW => ?_) ?_; rotate_left; (focus (have c : W.cell? ⟨(bd.add (k * 5)).block, (bd.add (k * 5)).off + 3, none⟩ = some (.int .i64 f.a) := Hcb.out W hW 3 _ rfl; go_simp; exact rfl)); simp only [Act.put, List.setIfInBounds_toArray, List.set_cons_zero, List.set_cons_succ])
      (refine hold_value rfl (.bool false) (fun W hW => (by first | (go_simp; done) | (go_simp; simp [hn1]))) ?_; simp only [Act.put, List.setIfInBounds_toArray, List.set_cons_zero, List.set_cons_succ])
      iterate 2 (refine hold_value rfl ?_ (fun W hW => ?_) ?_; rotate_left; (focus (go_simp; exact rfl)); simp only [Act.put, List.setIfInBounds_toArray, List.set_cons_zero, List.set_cons_succ])
      iterate 4 (refine hold_value rfl ?_ (fun W hW => ?_) ?_; rotate_left; (focus (go_simp; exact rfl)); simp only [Act.put, List.setIfInBounds_toArray, List.set_cons_zero, List.set_cons_succ])
      (refine hold_value rfl ?_ (fun W hW => ?_) ?_; rotate_left; (focus (have c : W.cell? ⟨(ad.add (k * 5)).block, (ad.add (k * 5)).off + 4, none⟩ = some (.int .i64 e.b) := Hca.out W hW 4 _ rfl; go_simp; exact rfl)); simp only [Act.put, List.setIfInBounds_toArray, List.set_cons_zero, List.set_cons_succ])
      iterate 4 (refine hold_value rfl ?_ (fun W hW => ?_) ?_; rotate_left; (focus (go_simp; exact rfl)); simp only [Act.put, List.setIfInBounds_toArray, List.set_cons_zero, List.set_cons_succ])
      (refine hold_value rfl ?_ (fun W hW => ?_) ?_; rotate_left; (focus (have c : W.cell? ⟨(bd.add (k * 5)).block, (bd.add (k * 5)).off + 4, none⟩ = some (.int .i64 f.b) := Hcb.out W hW 4 _ rfl; go_simp; exact rfl)); simp only [Act.put, List.setIfInBounds_toArray, List.set_cons_zero, List.set_cons_succ])
      (refine hold_value rfl (.bool true) (fun W hW => (by first | (go_simp; done) | (go_simp; simp [hn2]))) ?_; simp only [Act.put, List.setIfInBounds_toArray, List.set_cons_zero, List.set_cons_succ])
      (refine hold_value rfl ?_ (fun W hW => ?_) ?_; rotate_left; (focus (go_simp; exact rfl)); simp only [Act.put, List.setIfInBounds_toArray, List.set_cons_zero, List.set_cons_succ])
      refine wpHold_nil fun W hS => ?_
      have Hne : Hid (decide (a.map ChV.data = b.map ChV.data) = false) := by
       show _ = _
       have := map_take_no (f := ChV.data) He.out Hf.out hef
       simp [this]
      clear Hca Hcb He Hf Hk hef Hea Hfb
      go_wp2
      go_ret
      exact ⟨ret_b Hne.out, S2'.out _ hS⟩
    · have hef : e.data = f.data := by unfold ChV.data; rw [hd, h1, h2]
      have hn2 : (e.b != f.b) = false := by simpa using h2
      clear hd hd0 h1 h2
      go_wp2
      refine region_hold S (by kernel_rfl) (by kernel_rfl) (St.drew hS) ?_
      clear hS
      iterate 4 (refine hold_value rfl ?_ (fun W hW => ?_) ?_; rotate_left; (focus (go_simp; exact rfl)); simp only [Act.put, List.setIfInBounds_toArray, List.set_cons_zero, List.set_cons_succ])
      (refine hold_load_at rfl 42 _ rfl ((ad.add (k * 5))) rfl e.x.cells.toList _ (fun W hW => ch_dl (Hca.out W hW)) Tryz.underlying42 rfl (by kernel_rfl) ?_; simp only [Act.put, List.setIfInBounds_toArray, List.set_cons_zero, List.set_cons_succ])
      iterate 4 (refine hold_value rfl ?_ (fun W hW => ?_) ?_; rotate_left; (focus (go_simp; exact rfl)); simp only [Act.put, List.setIfInBounds_toArray, List.set_cons_zero, List.set_cons_succ])
      (refine hold_load_at rfl 42 _ rfl ((bd.add (k * 5))) rfl f.x.cells.toList _ (fun W hW => ch_dl (Hcb.out W hW)) Tryz.underlying42 rfl (by kernel_rfl) ?_; simp only [Act.put, List.setIfInBounds_toArray, List.set_cons_zero, List.set_cons_succ])
      (refine hold_call_new rfl 57 _ (fun W => by (go_simp; try rfl)) (.int .i64 0) (fun W hW => (by rw [← Hd0.out]; exact refDlCmp_any e.x f.x W (S3'.out _ hW e Hea.out) (S4'.out _ hW f Hfb.out))) ?_; simp only [Act.put, List.setIfInBounds_toArray, List.set_cons_zero, List.set_cons_succ])
      iterate 2 (refine hold_value rfl ?_ (fun W hW => ?_) ?_; rotate_left; (focus (go_simp; exact rfl)); simp only [Act.put, List.setIfInBounds_toArray, List.set_cons_zero, List.set_cons_succ])
      iterate 4 (refine hold_value rfl ?_ (fun W hW => ?_) ?_; rotate_left; (focus (go_simp; exact rfl)); simp only [Act.put, List.setIfInBounds_toArray, List.set_cons_zero, List.set_cons_succ])
      (refine hold_value rfl ?_ (fun W hW => ?_) ?_; rotate_left; (focus (have c : W.cell? ⟨(ad.add (k * 5)).block, (ad.add (k * 5)).off + 3, none⟩ = some (.int .i64 e.a) := Hca.out W hW 3 _ rfl; go_simp; exact rfl)); simp only [Act.put, List.setIfInBounds_toArray, List.set_cons_zero, List.set_cons_succ])
      iterate 4 (refine hold_value rfl ?_ (fun W hW => ?_) ?_; rotate_left; (focus (go_simp; exact rfl)); simp only [Act.put, List.setIfInBounds_toArray, List.set_cons_zero, List.set_cons_succ])
      (refine hold_value rfl ?_ (fun W hW => ?_) ?_; rotate_left; (focus (have c : W.cell? ⟨(bd.add (k * 5)).block, (bd.add (k * 5)).off + 3, none⟩ = some (.int .i64 f.a) := Hcb.out W hW 3 _ rfl; go_simp; exact rfl)); simp only [Act.put, List.setIfInBounds_toArray, List.set_cons_zero, List.set_cons_succ])
      (refine hold_value rfl (.bool false) (fun W hW => (by first | (go_simp; done) | (go_simp; simp [hn1]))) ?_; simp only [Act.put, List.setIfInBounds_toArray, List.set_cons_zero, List.set_cons_succ])
      iterate 2 (refine hold_value rfl ?_ (fun W hW => ?_) ?_; rotate_left; (focus (go_simp; exact rfl)); simp only [Act.put, List.setIfInBounds_toArray, List.set_cons_zero, List.set_cons_succ])
      iterate 4 (refine hold_value rfl ?_ (fun W hW => ?_) ?_; rotate_left; (focus (go_simp; exact rfl)); simp only [Act.put, List.setIfInBounds_toArray, List.set_cons_zero, List.set_cons_succ])
      (refine hold_value rfl ?_ (fun W hW => ?_) ?_; rotate_left; (focus (have c : W.cell? ⟨(ad.add (k * 5)).block, (ad.add (k * 5)).off + 4, none⟩ = some (.int .i64 e.b) := Hca.out W hW 4 _ rfl; go_simp; exact rfl)); simp only [Act.put, List.setIfInBounds_toArray, List.set_cons_zero, List.set_cons_succ])
      iterate 4 (refine hold_value rfl ?_ (fun W hW => ?_) ?_; rotate_left; (focus (go_simp; exact rfl)); simp only [Act.put, List.setIfInBounds_toArray, List.set_cons_zero, List.set_cons_succ])
      (refine hold_value rfl ?_ (fun W hW => ?_) ?_; rotate_left; (focus (have c : W.cell? ⟨(bd.add (k * 5)).block, (bd.add (k * 5)).off + 4, none⟩ = some (.int .i64 f.b) := Hcb.out W hW 4 _ rfl; go_simp; exact rfl)); simp only [Act.put, List.setIfInBounds_toArray, List.set_cons_zero, List.set_cons_succ])
      (refine hold_value rfl (.bool false) (fun W hW => (by first | (go_simp; done) | (go_simp; simp [hn2]))) ?_; simp only [Act.put, List.setIfInBounds_toArray, List.set_cons_zero, List.set_cons_succ])
      (refine hold_value rfl ?_ (fun W hW => ?_) ?_; rotate_left; (focus (go_simp; exact rfl)); simp only [Act.put, List.setIfInBounds_toArray, List.set_cons_zero, List.set_cons_succ])
      refine wpHold_nil fun W hS => ?_
      have Hst := Lib.hid (map_take_step (f := ChV.data) Hk.out He.out Hf.out hef)
      clear Hca Hcb He Hf Hk hef Hea Hfb
      go_wp2
      go_roundw
      case rel => exact ⟨k + 1, by go_num, by omega, Hst, hS⟩
      case measure => simp [intOf]; omega
  · obtain rfl : k = na := by omega
    have Heq : Hid (decide (a.map ChV.data = b.map ChV.data) = true) := by
     show _ = _
     have h1 := Hk.out
     rw [List.take_of_length_le (by have := Ha.out; omega), List.take_of_length_le (by have := Hb.out; omega)] at h1
     simp [h1]
    clear hkn hk Hk
    go_wp2
    go_ret
    exact ⟨ret_b Heq.out, S2'.out _ hS⟩
structure RefDiffR (a b : CpV) (w w' : World) (e : Ending) : Prop where
 ex : ∃ (A : Option Addr) (cap : Nat) (cs : List ChV), e = .returned (.tuple #[.slice A cs.length cap, .int .i64 (diffE a b)]) ∧ Rd w' A (chsC cs) ∧ (∀ c ∈ cs, DlOk w' c.x) ∧ cs.map ChV.data = (if diffE a b = 0 then diffL a.muts b.muts else []) ∧ Below w.heap.size w w'
theorem RefDiffR.err {a b : CpV} {w w' : World} {n : Int} (h : diffE a b = n) (h0 : n ≠ 0) (hb : Below w.heap.size w w') : RefDiffR a b w w' (.returned (.tuple #[.slice none 0 0, .int .i64 n])) :=
 ⟨none, 0, [], by rw [h]; rfl, Rd.nil _ _, fun c hc => by simp at hc, by rw [if_neg (by rw [h]; exact h0)]; rfl, hb⟩
theorem wp_cutG {P : Program} {c : Code} {a : Act} {w : World} {Q : Exit → Act → World → Prop} {F : Nat → World → Prop} {f : Nat → Act}
 (hreg : c.wp P (Ends fun _ a' w' => ∃ D : Nat, a' = f D ∧ F D w') a w) (cont : ∀ D w', F D w' → Q .normal (f D) w') : c.wp P Q a w :=
 Code.wp_mono (fun e a' w' h => by
  cases e with
  | normal =>
   obtain ⟨D, rfl, hF⟩ := (h : ∃ D : Nat, a' = f D ∧ F D w')
   exact cont _ _ hF
  | _ => exact (h : False).elim) hreg
theorem zero_ch (w : World) : (zeroValue 51).run Tryz.prog w = .ok (.agg #[.slice none 0 0, .int .i64 0, .int .i64 0, .int .i64 0, .int .i64 0]) w := by kernel_rfl
def tellM (a b : List Mt) (m : Mt) : Option (Dl × Int × Int) := if toldZ a m.d = toldZ b m.d then none else some (m.d, toldZ a m.d, toldZ b m.d)
structure LoopD (a b : CpV) (l : List MtV) (w5 : World) (k : Nat) (v : Value) (cs : List ChV) (W : World) : Prop where
 bw : Below w5.heap.size w5 W
 own : W.ownsRow w5.heap.size 51 5 v cs.length (chsC cs)
 dat : cs.map ChV.data = (l.take k).filterMap fun x => tellM a.muts b.muts x.m
 len : cs.length ≤ k
 al : ∀ c ∈ cs, ∃ x ∈ l, c.x = x.dl
set_option maxRecDepth 100000 in
set_option maxHeartbeats 8000000 in
theorem refDiff_any (a b : CpV) (w : World) (ha : CpOk w a) (hb : CpOk w b) (hl : a.mts.length + b.mts.length ≤ 100000) (hca : a.mts.length ≤ a.mcap) (hcb : b.mts.length ≤ b.mcap) :
 Calls Tryz.prog 21 #[.agg a.cells, .agg b.cells] w fun e w' => RefDiffR a b w w' e := by
 have HA := Lib.hid ha
 have HB := Lib.hid hb
 have Hl := Lib.hid hl
 have Hca := Lib.hid hca
 have Hcb := Lib.hid hcb
 clear ha hb hl hca hcb
 go_enter Tryz.func21, Tryz.ntmps21
 go_wp2_with (refine at_box _ _ rfl ?_)
 refine Stop.to ?_
 refine wpList_box_gen rfl 31 _ rfl a.cells rfl ?_
 intro G Gw Gh Gr Gb
 go_wp2_with (refine at_box _ _ rfl ?_)
 refine Stop.to ?_
 refine wpList_box_gen rfl 31 _ rfl b.cells rfl ?_
 intro H Hw Hh Hr Hb
 have rG := Gr.below Hb (Nat.lt_of_lt_of_le Gr.lt Hh)
 have b1 := (Below.refl w.heap.size w).trans (Gb.mono Gh)
 have b2 := b1.trans ((Hb.mono Hh).mono b1.size)
 clear Gr Gb Gh Hb Hh b1
 obtain ⟨S, hSd⟩ : ∃ S, S = (fun W => (Row W G 31 a.cells ∧ Row W H 31 b.cells) ∧ (CpOk W a ∧ CpOk W b) ∧ Below w.heap.size w W) := ⟨_, rfl⟩
 have stS : St S := by rw [hSd]; infer_instance
 have T0 : Hid (∀ W, S W → Row W G 31 a.cells ∧ Row W H 31 b.cells) := by show ∀ W, _; rw [hSd]; exact fun W h => h.1
 have T1 : Hid (∀ W, S W → CpOk W a) := by show ∀ W, _; rw [hSd]; exact fun W h => h.2.1.1
 have T2 : Hid (∀ W, S W → CpOk W b) := by show ∀ W, _; rw [hSd]; exact fun W h => h.2.1.2
 have T3 : Hid (∀ W, S W → Below w.heap.size w W) := by show ∀ W, _; rw [hSd]; exact fun W h => h.2.2
 have hS : S Hw := by rw [hSd]; exact ⟨⟨rG, Hr⟩, ⟨HA.out.go b2, HB.out.go b2⟩, b2⟩
 clear hSd rG Hr b2
 have Hs := Lib.hid (refCpCheck_any a _ (T1.out _ hS))
 go_wp2_with (refine wpList_load_row rfl 31 _ rfl G rfl 31 a.cells (0, 0) _ ((T0.out _ hS).1) Tryz.underlying31 rfl (by kernel_rfl) ?_)
 refine Hs.out.mono ?_
 rintro e w1 ⟨rfl, b1⟩
 replace hS := stS.go hS b1
 clear Hs b1
 obtain ⟨z, hz⟩ : ∃ z, z = cpCheckZ a := ⟨_, rfl⟩
 rw [← hz]
 by_cases h0 : z = 0
 rotate_left
 · have hz2 : (z != 0) = true := by simpa using h0
   have hE : diffE a b = z := by unfold diffE cpChecks; rw [if_pos (by rw [if_pos (by rw [← hz]; exact h0), ← hz]; exact h0), if_pos (by rw [← hz]; exact h0), hz]
   have HE := Lib.hid hE
   have H0 := Lib.hid h0
   clear hz hE h0
   go_wp2_with fail
   try rw [Exit.noGoto_ret]
   refine bodyPost_ret (results_tmp2 Tryz.results21 _ _ _) rfl ?_
   exact RefDiffR.err HE.out H0.out (T3.out _ hS)
 subst h0
 have Hz0 := Lib.hid hz.symm
 clear hz
 have Hs := Lib.hid (refCpCheck_any b _ (T2.out _ hS))
 go_wp2_with (refine wpList_load_row rfl 31 _ rfl H rfl 31 b.cells (0, 0) _ ((T0.out _ hS).2) Tryz.underlying31 rfl (by kernel_rfl) ?_)
 refine Hs.out.mono ?_
 rintro e w1 ⟨rfl, b1⟩
 replace hS := stS.go hS b1
 clear Hs b1
 obtain ⟨z, hz⟩ : ∃ z, z = cpCheckZ b := ⟨_, rfl⟩
 rw [← hz]
 by_cases h0 : z = 0
 rotate_left
 · have hz2 : (z != 0) = true := by simpa using h0
   have hE : diffE a b = z := by unfold diffE cpChecks; rw [if_pos (by rw [if_neg (by simp [Hz0.out]), ← hz]; exact h0), if_neg (by simp [Hz0.out]), hz]
   have HE := Lib.hid hE
   have H0 := Lib.hid h0
   clear hz hE h0
   go_wp2_with fail
   try rw [Exit.noGoto_ret]
   refine bodyPost_ret (results_tmp2 Tryz.results21 _ _ _) rfl ?_
   exact RefDiffR.err HE.out H0.out (T3.out _ hS)
 subst h0
 have Hok : Hid (OkC a ∧ OkC b) := ⟨okC.1 Hz0.out, okC.1 hz.symm⟩
 clear hz Hz0
 have Hs := Lib.hid (refPgSame_any a.p b.p _ (T1.out _ hS).pok (T2.out _ hS).pok (T1.out _ hS).bl (T1.out _ hS).vl)
 go_wp2_with (first | (refine wpList_load_at rfl 25 _ rfl ⟨G, 0, none⟩ rfl a.p.cells.toList _ (cp_head (T0.out _ hS).1) Tryz.underlying25 rfl (by kernel_rfl) ?_) | (refine wpList_load_at rfl 25 _ rfl ⟨H, 0, none⟩ rfl b.p.cells.toList _ (cp_head (T0.out _ hS).2) Tryz.underlying25 rfl (by kernel_rfl) ?_))
 refine Hs.out.mono ?_
 rintro e w3 ⟨rfl, b1⟩
 replace hS := stS.go hS b1
 clear Hs b1
 obtain ⟨sp, hsp⟩ : ∃ sp, sp = sameP a.p b.p := ⟨_, rfl⟩
 rw [← hsp]
 have Hsp := Lib.hid hsp
 clear hsp
 cases sp
 · have HE : Hid (diffE a b = 26) := by show _ = _; unfold diffE; rw [if_neg (by rw [checks_iff.2 Hok.out]; simp), if_neg (by rw [← Hsp.out]; simp)]
   clear Hsp Hok
   go_wp2_with fail
   try rw [Exit.noGoto_ret]
   refine bodyPost_ret (results_tmp2 Tryz.results21 _ _ _) rfl ?_
   exact RefDiffR.err HE.out (by decide) (T3.out _ hS)
 have HE0 : Hid (diffE a b = 0) := by show _ = _; unfold diffE; rw [if_neg (by rw [checks_iff.2 Hok.out]; simp), if_pos Hsp.out.symm]
 clear Hsp
 have c1 := cp_mut (T0.out _ hS).1
 have c2 := cp_mut (T0.out _ hS).2
 have Hs := Lib.hid (union_any (.slice a.mA a.mts.length a.mcap) (.slice b.mA b.mts.length b.mcap) a.mts b.mts w3 ⟨_, _, _, rfl, (T1.out _ hS).mrd, rfl, Hca.out, (T1.out _ hS).mnil, (T1.out _ hS).mok⟩ ⟨_, _, _, rfl, (T2.out _ hS).mrd, rfl, Hcb.out, (T2.out _ hS).mnil, (T2.out _ hS).mok⟩ Hl.out)
 go_wp2_with fail
 clear c1 c2
 refine Hs.out.mono ?_
 rintro e w5 ⟨v, rfl, hsl, b1, -⟩
 replace hS := stS.go hS b1
 clear Hs b1
 obtain ⟨l, hl⟩ : ∃ l, l = unF a.mts a.mts b.mts := ⟨_, rfl⟩
 rw [← hl] at hsl
 have Hlen : Hid (l.length ≤ 100000) := by show _ ≤ _; rw [hl]; exact Nat.le_trans (unF_length _ _ _) Hl.out
 have Hmm : Hid (l.map MtV.m = mergeM a.muts b.muts) := by show _ = _; rw [hl]; exact unF_merge a.mts b.mts Hok.out.1.rise Hok.out.2.rise
 obtain ⟨A, n, cap, rfl, hrd, rfl, hcap, hnil, hmok⟩ := hsl
 obtain ⟨S2, hSd⟩ : ∃ S2, S2 = (fun W => S W ∧ Rd W A (mtsC l) ∧ ∀ x ∈ l, MtOk W x) := ⟨_, rfl⟩
 have stS2 : St S2 := by rw [hSd]; exact ⟨fun h b => ⟨stS.go h.1 b, h.2.1.go b, fun x hx => (h.2.2 x hx).go b⟩⟩
 have U0 : Hid (∀ W, S2 W → S W) := by show ∀ W, _; rw [hSd]; exact fun W h => h.1
 have U1 : Hid (∀ W, S2 W → Rd W A (mtsC l)) := by show ∀ W, _; rw [hSd]; exact fun W h => h.2.1
 have U2 : Hid (∀ W, S2 W → ∀ x ∈ l, MtOk W x) := by show ∀ W, _; rw [hSd]; exact fun W h => h.2.2
 have hS2 : S2 w5 := by rw [hSd]; exact ⟨hS, hrd, hmok⟩
 have HS5 := Lib.hid hS2
 clear hSd hS hrd hmok hl hcap hnil
 have HL0 : Hid (LoopD a b l w5 0 (.slice none 0 0) [] w5) := ⟨Below.refl _ _, World.ownsRow_nil _ _ _ _, rfl, Nat.le_refl _, fun c hc => by simp at hc⟩
 have hlI : (l.length : Int) ≤ 100000 := by have := Hlen.out; omega
 clear hS2
 go_wp2_with fail
 go_loopw [9, 11] (fun v i wr => ∃ (k : Nat) (cs : List ChV), i = .int .i64 (k : Int) ∧ k ≤ l.length ∧ Hid (LoopD a b l w5 k v cs wr)) (fun _ i _ => l.length - (intOf i).toNat)
 case atStart => exact ⟨0, [], rfl, Nat.zero_le _, HL0⟩
 case round =>
  clear HL0
  obtain ⟨k, cs, rfl, hk1, HL⟩ := hrel
  by_cases hkn : k < l.length
  rotate_left
  · have hge : ¬ ((k : Int) < (l.length : Int)) := by omega
    obtain rfl : k = l.length := by omega
    have hL := HL.out
    have hs := stS2.go HS5.out hL.bw
    obtain ⟨A9, c9, rfl⟩ := own_sl hL.own
    have HF : Hid (RefDiffR a b w wr (.returned (.tuple #[.slice A9 cs.length c9, .int .i64 0]))) := by
     refine ⟨A9, c9, cs, by rw [HE0.out], own_rdS hL.own, fun c hc => ?_, ?_, T3.out _ (U0.out _ hs)⟩
     · obtain ⟨x, hx, e⟩ := hL.al c hc
       rw [e]; exact (U2.out _ hs x hx).dl
     · rw [if_pos HE0.out, hL.dat, List.take_length, diffL_told _ _ Hok.out.1.rise Hok.out.2.rise, ← Hmm.out, List.filterMap_map]; rfl
    clear HL hL hs hkn hk1
    go_wp2_with fail
    refine bodyPost_ret (results_tmp2 Tryz.results21 _ _ _) rfl ?_
    exact HF.out
  have hka : (k : Int) < (l.length : Int) := by omega
  obtain ⟨x, hx⟩ : ∃ x, l[k]? = some x := ⟨_, List.getElem?_eq_getElem hkn⟩
  have hS2 := stS2.go HS5.out HL.out.bw
  obtain ⟨ad, had, _⟩ := mt_at (U1.out _ hS2) hx
  obtain ⟨T, hTd⟩ : ∃ T, T = (fun W => Below wr.heap.size wr W) := ⟨_, rfl⟩
  have stT : St T := by rw [hTd]; exact ⟨fun h b => h.trans (b.mono h.size)⟩
  have K0 : Hid (∀ W, T W → Below wr.heap.size wr W) := by show ∀ W, _; rw [hTd]; exact fun W h => h
  have K1 : Hid (∀ W, Below wr.heap.size wr W → T W) := by show ∀ W, _; rw [hTd]; exact fun W h => h
  have hT : T wr := K1.out _ (Below.refl _ _)
  have TS : Hid (∀ W, T W → S2 W) := fun W h => stS2.go hS2 (K0.out W h)
  have Hc : Hid (∀ W, T W → ∀ j u, x.cells[j]? = some u → W.cell? ((ad.add (k * 8)).add j) = some u) := fun W h => by
   obtain ⟨ad', e1, e2⟩ := mt_at (U1.out W (TS.out W h)) hx
   rw [had] at e1; injection e1 with e1; subst e1; exact e2
  have C5 : Hid (∀ W, T W → W.cell? ⟨G, 5, none⟩ = some (.slice a.mA a.mts.length a.mcap)) := fun W h => cp_mut (T0.out W (U0.out W (TS.out W h))).1
  have C6 : Hid (∀ W, T W → W.cell? ⟨H, 5, none⟩ = some (.slice b.mA b.mts.length b.mcap)) := fun W h => cp_mut (T0.out W (U0.out W (TS.out W h))).2
  obtain ⟨ta, hta⟩ : ∃ ta, ta = toldZ a.muts x.m.d := ⟨_, rfl⟩
  obtain ⟨tb, htb⟩ : ∃ tb, tb = toldZ b.muts x.m.d := ⟨_, rfl⟩
  have HTa : Hid (∀ W, T W → Calls Tryz.prog 56 #[.slice a.mA a.mts.length a.mcap, .agg x.dl.cells] W fun e w' => e = .returned (.int .i64 ta) ∧ Below W.heap.size W w') := fun W h => by
   have h1 := T1.out W (U0.out W (TS.out W h))
   rw [hta]; exact refTold_any a.mA a.mcap _ a.mts x.dl W rfl h1.mrd (by have := h1.mlen; omega) h1.mok ((U2.out W (TS.out W h) x (List.mem_of_getElem? hx)).dl)
  have HTb : Hid (∀ W, T W → Calls Tryz.prog 56 #[.slice b.mA b.mts.length b.mcap, .agg x.dl.cells] W fun e w' => e = .returned (.int .i64 tb) ∧ Below W.heap.size W w') := fun W h => by
   have h1 := T2.out W (U0.out W (TS.out W h))
   rw [htb]; exact refTold_any b.mA b.mcap _ b.mts x.dl W rfl h1.mrd (by have := h1.mlen; omega) h1.mok ((U2.out W (TS.out W h) x (List.mem_of_getElem? hx)).dl)
  have Htell : Hid (tellM a.muts b.muts x.m = if ta = tb then none else some (x.m.d, ta, tb)) := by show _ = _; unfold tellM; rw [hta, htb]
  obtain ⟨c, hc⟩ : ∃ c : ChV, c = ⟨x.dl, ta, tb⟩ := ⟨_, rfl⟩
  have Hcc := Lib.hid hc
  have Hx := Lib.hid hx
  rw [had]
  clear hx had hTd hS2 hta htb hc hkn
  go_wp2_with fail
  apply wp_cutG (F := fun D W => T W ∧ wr.heap.size ≤ D ∧ Row W D 51 c.cells)
  case hreg =>
   refine wp_region_held (S := T) (by kernel_rfl) ?_
   simp only [List.size_toArray, List.length_cons, List.length_nil, Nat.reduceAdd, Array.replicate_succ, Array.replicate_zero, List.push_toArray, List.nil_append, List.cons_append]
   show wpAnyH _ _ _ _ _ _ _ _ wr.drew
   replace hT := St.drew hT
   generalize wr.drew = wd at hT ⊢
   (refine takeH (i := 0) (v := .slice (some ad) l.length cap) rfl (by kernel_rfl) (by kernel_rfl) (by kernel_rfl) (fun _ _ _ h => h) (yields_val rfl (fun W hW => by (go_simp))) (by assumption) ?_; simp only [Act.put, List.setIfInBounds_toArray, List.set_cons_zero, List.set_cons_succ])
   (refine takeH (i := 1) (v := .int .i64 (k : Int)) rfl (by kernel_rfl) (by kernel_rfl) (by kernel_rfl) (fun _ _ _ h => h) (yields_val rfl (fun W hW => by (go_simp))) (by assumption) ?_; simp only [Act.put, List.setIfInBounds_toArray, List.set_cons_zero, List.set_cons_succ])
   (refine takeH (i := 2) (v := .pointer (some (ad.add (k * 8)))) rfl (by kernel_rfl) (by kernel_rfl) (by kernel_rfl) (fun _ _ _ h => h) (yields_val rfl (fun W hW => by (go_simp))) (by assumption) ?_; simp only [Act.put, List.setIfInBounds_toArray, List.set_cons_zero, List.set_cons_succ])
   (refine takeH (i := 3) (v := .pointer (some (ad.add (k * 8)))) rfl (by kernel_rfl) (by kernel_rfl) (by kernel_rfl) (fun _ _ _ h => h) (yields_val rfl (fun W hW => by (go_simp))) (by assumption) ?_; simp only [Act.put, List.setIfInBounds_toArray, List.set_cons_zero, List.set_cons_succ])
   (refine takeH (i := 4) (v := _) rfl (by kernel_rfl) (by kernel_rfl) (by kernel_rfl) (fun _ _ _ h => h) ((yields_atp rfl 42 _ rfl (ad.add (k * 8)) rfl x.dl.cells.toList _ (fun W hW => mt_dlat (Hc.out W hW)) Tryz.underlying42 rfl (by kernel_rfl))) (by assumption) ?_; simp only [Act.put, List.setIfInBounds_toArray, List.set_cons_zero, List.set_cons_succ])
   (refine takeH (i := 5) (v := .pointer (some ⟨G, 5, none⟩)) rfl (by kernel_rfl) (by kernel_rfl) (by kernel_rfl) (fun _ _ _ h => h) (yields_val rfl (fun W hW => by (go_simp))) (by assumption) ?_; simp only [Act.put, List.setIfInBounds_toArray, List.set_cons_zero, List.set_cons_succ])
   (refine takeH (i := 6) (v := .slice a.mA a.mts.length a.mcap) rfl (by kernel_rfl) (by kernel_rfl) (by kernel_rfl) (fun _ _ _ h => h) (yields_val rfl (fun W hW => by ((have c := C5.out W hW; go_simp)))) (by assumption) ?_; simp only [Act.put, List.setIfInBounds_toArray, List.set_cons_zero, List.set_cons_succ])
   (refine takeH (i := 7) (v := .slice (some ad) l.length cap) rfl (by kernel_rfl) (by kernel_rfl) (by kernel_rfl) (fun _ _ _ h => h) (yields_val rfl (fun W hW => by (go_simp))) (by assumption) ?_; simp only [Act.put, List.setIfInBounds_toArray, List.set_cons_zero, List.set_cons_succ])
   (refine takeH (i := 8) (v := .int .i64 (k : Int)) rfl (by kernel_rfl) (by kernel_rfl) (by kernel_rfl) (fun _ _ _ h => h) (yields_val rfl (fun W hW => by (go_simp))) (by assumption) ?_; simp only [Act.put, List.setIfInBounds_toArray, List.set_cons_zero, List.set_cons_succ])
   (refine takeH (i := 9) (v := .pointer (some (ad.add (k * 8)))) rfl (by kernel_rfl) (by kernel_rfl) (by kernel_rfl) (fun _ _ _ h => h) (yields_val rfl (fun W hW => by (go_simp))) (by assumption) ?_; simp only [Act.put, List.setIfInBounds_toArray, List.set_cons_zero, List.set_cons_succ])
   (refine takeH (i := 10) (v := .pointer (some (ad.add (k * 8)))) rfl (by kernel_rfl) (by kernel_rfl) (by kernel_rfl) (fun _ _ _ h => h) (yields_val rfl (fun W hW => by (go_simp))) (by assumption) ?_; simp only [Act.put, List.setIfInBounds_toArray, List.set_cons_zero, List.set_cons_succ])
   (refine takeH (i := 11) (v := _) rfl (by kernel_rfl) (by kernel_rfl) (by kernel_rfl) (fun _ _ _ h => h) ((yields_atp rfl 42 _ rfl (ad.add (k * 8)) rfl x.dl.cells.toList _ (fun W hW => mt_dlat (Hc.out W hW)) Tryz.underlying42 rfl (by kernel_rfl))) (by assumption) ?_; simp only [Act.put, List.setIfInBounds_toArray, List.set_cons_zero, List.set_cons_succ])
   (refine takeH (i := 13) (v := .pointer (some ⟨H, 5, none⟩)) rfl (by kernel_rfl) (by kernel_rfl) (by kernel_rfl) (fun _ _ _ h => h) (yields_val rfl (fun W hW => by (go_simp))) (by assumption) ?_; simp only [Act.put, List.setIfInBounds_toArray, List.set_cons_zero, List.set_cons_succ])
   (refine takeH (i := 14) (v := .slice b.mA b.mts.length b.mcap) rfl (by kernel_rfl) (by kernel_rfl) (by kernel_rfl) (fun _ _ _ h => h) (yields_val rfl (fun W hW => by ((have c := C6.out W hW; go_simp)))) (by assumption) ?_; simp only [Act.put, List.setIfInBounds_toArray, List.set_cons_zero, List.set_cons_succ])
   (refine takeH (i := 15) (v := .slice (some ad) l.length cap) rfl (by kernel_rfl) (by kernel_rfl) (by kernel_rfl) (fun _ _ _ h => h) (yields_val rfl (fun W hW => by (go_simp))) (by assumption) ?_; simp only [Act.put, List.setIfInBounds_toArray, List.set_cons_zero, List.set_cons_succ])
   (refine takeH (i := 16) (v := .int .i64 (k : Int)) rfl (by kernel_rfl) (by kernel_rfl) (by kernel_rfl) (fun _ _ _ h => h) (yields_val rfl (fun W hW => by (go_simp))) (by assumption) ?_; simp only [Act.put, List.setIfInBounds_toArray, List.set_cons_zero, List.set_cons_succ])
   (refine takeH (i := 17) (v := .pointer (some (ad.add (k * 8)))) rfl (by kernel_rfl) (by kernel_rfl) (by kernel_rfl) (fun _ _ _ h => h) (yields_val rfl (fun W hW => by (go_simp))) (by assumption) ?_; simp only [Act.put, List.setIfInBounds_toArray, List.set_cons_zero, List.set_cons_succ])
   (refine takeH (i := 18) (v := .pointer (some (ad.add (k * 8)))) rfl (by kernel_rfl) (by kernel_rfl) (by kernel_rfl) (fun _ _ _ h => h) (yields_val rfl (fun W hW => by (go_simp))) (by assumption) ?_; simp only [Act.put, List.setIfInBounds_toArray, List.set_cons_zero, List.set_cons_succ])
   (refine takeH (i := 19) (v := _) rfl (by kernel_rfl) (by kernel_rfl) (by kernel_rfl) (fun _ _ _ h => h) ((yields_atp rfl 42 _ rfl (ad.add (k * 8)) rfl x.dl.cells.toList _ (fun W hW => mt_dlat (Hc.out W hW)) Tryz.underlying42 rfl (by kernel_rfl))) (by assumption) ?_; simp only [Act.put, List.setIfInBounds_toArray, List.set_cons_zero, List.set_cons_succ])
   refine wpAnyH_all (rs := [12, 22]) (by kernel_rfl) (by simp) (fun i hi => ?_)
   simp only [List.mem_cons, List.not_mem_nil, or_false] at hi
   rcases hi with rfl | rfl
   · skip
     refine wpOp_plain rfl rfl (fun K2 hK2 => ?_)
     refine wp_call_gen 56 #[.slice a.mA a.mts.length a.mcap, .agg x.dl.cells] (w1 := wd) (by go_simp; try rfl) (Calls.mono (HTa.out _ hT) ?_)
     rintro e wa ⟨rfl, bb⟩
     refine ⟨_, rfl, hK2 _ _ ?_⟩
     clear hK2 K2
     simp only [Act.put, List.setIfInBounds_toArray, List.set_cons_zero, List.set_cons_succ]
     replace hT := stT.go hT bb
     clear bb
     refine ⟨hT, ?_⟩
     refine wpAnyH_all (rs := [20, 22]) (by kernel_rfl) (by simp) (fun i hi => ?_)
     simp only [List.mem_cons, List.not_mem_nil, or_false] at hi
     rcases hi with rfl | rfl
     · skip
       refine wpOp_plain rfl rfl (fun K2 hK2 => ?_)
       refine wp_call_gen 56 #[.slice b.mA b.mts.length b.mcap, .agg x.dl.cells] (w1 := wa) (by go_simp; try rfl) (Calls.mono (HTb.out _ hT) ?_)
       rintro e wb ⟨rfl, bb⟩
       refine ⟨_, rfl, hK2 _ _ ?_⟩
       clear hK2 K2
       simp only [Act.put, List.setIfInBounds_toArray, List.set_cons_zero, List.set_cons_succ]
       replace hT := stT.go hT bb
       clear bb
       refine ⟨hT, ?_⟩
       (refine takeH (i := 21) (v := .agg c.cells) rfl (by kernel_rfl) (by kernel_rfl) (by kernel_rfl) (fun _ _ _ h => h) (yields_val rfl (fun W hW => by ((have e := Hcc.out; rw [e]; clear e; go_simp; try rfl)))) (by assumption) ?_; simp only [Act.put, List.setIfInBounds_toArray, List.set_cons_zero, List.set_cons_succ])
       (refine wpAnyH_all (rs := [22]) (by kernel_rfl) (by simp) (fun i hi => ?_); obtain rfl : i = 22 := by simpa using hi)
       refine wpOp_plain rfl rfl (fun K2 hK2 => ?_)
       refine wp_alloc_gen 51 rfl _ _ (zero_ch _) rfl ?_
       intro D wc hD hr bx
       refine hK2 _ _ ?_
       clear hK2 K2
       simp only [Act.put, List.setIfInBounds_toArray, List.set_cons_zero, List.set_cons_succ]
       have hDw : wr.heap.size ≤ D := Nat.le_trans (K0.out _ hT).size hD
       replace hT := stT.go hT (bx.mono hD)
       clear bx hD
       refine ⟨hT, ?_⟩
       (refine wpAnyH_all (rs := [23]) (by kernel_rfl) (by simp) (fun i hi => ?_); obtain rfl : i = 23 := by simpa using hi)
       refine wpOp_plain rfl rfl (fun K2 hK2 => ?_)
       refine wp_store_gen 51 _ _ rfl D c.cells rfl rfl 51 _ hr (by kernel_rfl) rfl (by simp [ChV.cells, Value.oneCell']) ?_
       intro W9 r9 o9
       refine hK2 _ _ ?_
       clear hK2 K2
       simp only [Act.put, List.setIfInBounds_toArray, List.set_cons_zero, List.set_cons_succ]
       have hT9 : T W9 := K1.out _ (below_only (K0.out _ hT) o9 hDw)
       refine ⟨hT9, ?_⟩
       refine wpAnyH_done (by kernel_rfl) ?_ _
       refine ends_normal ?_
       exact ⟨D, rfl, hT9, hDw, r9⟩
     · skip
       refine wpOp_plain rfl rfl (fun K2 hK2 => ?_)
       refine wp_alloc_gen 51 rfl _ _ (zero_ch _) rfl ?_
       intro D wb hD hr bx
       refine hK2 _ _ ?_
       clear hK2 K2
       simp only [Act.put, List.setIfInBounds_toArray, List.set_cons_zero, List.set_cons_succ]
       have hDw : wr.heap.size ≤ D := Nat.le_trans (K0.out _ hT).size hD
       replace hT := stT.go hT (bx.mono hD)
       clear bx hD
       refine ⟨hT, ?_⟩
       (refine wpAnyH_all (rs := [20]) (by kernel_rfl) (by simp) (fun i hi => ?_); obtain rfl : i = 20 := by simpa using hi)
       refine wpOp_plain rfl rfl (fun K2 hK2 => ?_)
       refine wp_call_gen 56 #[.slice b.mA b.mts.length b.mcap, .agg x.dl.cells] (w1 := wb) (by go_simp; try rfl) (Calls.mono (HTb.out _ hT) ?_)
       rintro e wc ⟨rfl, bb⟩
       refine ⟨_, rfl, hK2 _ _ ?_⟩
       clear hK2 K2
       simp only [Act.put, List.setIfInBounds_toArray, List.set_cons_zero, List.set_cons_succ]
       replace hT := stT.go hT bb
       replace hr := hr.below bb hr.lt
       clear bb
       refine ⟨hT, ?_⟩
       (refine takeH (i := 21) (v := .agg c.cells) rfl (by kernel_rfl) (by kernel_rfl) (by kernel_rfl) (fun _ _ _ h => h) (yields_val rfl (fun W hW => by ((have e := Hcc.out; rw [e]; clear e; go_simp; try rfl)))) (by assumption) ?_; simp only [Act.put, List.setIfInBounds_toArray, List.set_cons_zero, List.set_cons_succ])
       (refine wpAnyH_all (rs := [23]) (by kernel_rfl) (by simp) (fun i hi => ?_); obtain rfl : i = 23 := by simpa using hi)
       refine wpOp_plain rfl rfl (fun K2 hK2 => ?_)
       refine wp_store_gen 51 _ _ rfl D c.cells rfl rfl 51 _ hr (by kernel_rfl) rfl (by simp [ChV.cells, Value.oneCell']) ?_
       intro W9 r9 o9
       refine hK2 _ _ ?_
       clear hK2 K2
       simp only [Act.put, List.setIfInBounds_toArray, List.set_cons_zero, List.set_cons_succ]
       have hT9 : T W9 := K1.out _ (below_only (K0.out _ hT) o9 hDw)
       refine ⟨hT9, ?_⟩
       refine wpAnyH_done (by kernel_rfl) ?_ _
       refine ends_normal ?_
       exact ⟨D, rfl, hT9, hDw, r9⟩
   · skip
     refine wpOp_plain rfl rfl (fun K2 hK2 => ?_)
     refine wp_alloc_gen 51 rfl _ _ (zero_ch _) rfl ?_
     intro D wa hD hr bx
     refine hK2 _ _ ?_
     clear hK2 K2
     simp only [Act.put, List.setIfInBounds_toArray, List.set_cons_zero, List.set_cons_succ]
     have hDw : wr.heap.size ≤ D := Nat.le_trans (K0.out _ hT).size hD
     replace hT := stT.go hT (bx.mono hD)
     clear bx hD
     refine ⟨hT, ?_⟩
     (refine wpAnyH_all (rs := [12]) (by kernel_rfl) (by simp) (fun i hi => ?_); obtain rfl : i = 12 := by simpa using hi)
     refine wpOp_plain rfl rfl (fun K2 hK2 => ?_)
     refine wp_call_gen 56 #[.slice a.mA a.mts.length a.mcap, .agg x.dl.cells] (w1 := wa) (by go_simp; try rfl) (Calls.mono (HTa.out _ hT) ?_)
     rintro e wb ⟨rfl, bb⟩
     refine ⟨_, rfl, hK2 _ _ ?_⟩
     clear hK2 K2
     simp only [Act.put, List.setIfInBounds_toArray, List.set_cons_zero, List.set_cons_succ]
     replace hT := stT.go hT bb
     replace hr := hr.below bb hr.lt
     clear bb
     refine ⟨hT, ?_⟩
     (refine wpAnyH_all (rs := [20]) (by kernel_rfl) (by simp) (fun i hi => ?_); obtain rfl : i = 20 := by simpa using hi)
     refine wpOp_plain rfl rfl (fun K2 hK2 => ?_)
     refine wp_call_gen 56 #[.slice b.mA b.mts.length b.mcap, .agg x.dl.cells] (w1 := wb) (by go_simp; try rfl) (Calls.mono (HTb.out _ hT) ?_)
     rintro e wc ⟨rfl, bb⟩
     refine ⟨_, rfl, hK2 _ _ ?_⟩
     clear hK2 K2
     simp only [Act.put, List.setIfInBounds_toArray, List.set_cons_zero, List.set_cons_succ]
     replace hT := stT.go hT bb
     replace hr := hr.below bb hr.lt
     clear bb
     refine ⟨hT, ?_⟩
     (refine takeH (i := 21) (v := .agg c.cells) rfl (by kernel_rfl) (by kernel_rfl) (by kernel_rfl) (fun _ _ _ h => h) (yields_val rfl (fun W hW => by ((have e := Hcc.out; rw [e]; clear e; go_simp; try rfl)))) (by assumption) ?_; simp only [Act.put, List.setIfInBounds_toArray, List.set_cons_zero, List.set_cons_succ])
     (refine wpAnyH_all (rs := [23]) (by kernel_rfl) (by simp) (fun i hi => ?_); obtain rfl : i = 23 := by simpa using hi)
     refine wpOp_plain rfl rfl (fun K2 hK2 => ?_)
     refine wp_store_gen 51 _ _ rfl D c.cells rfl rfl 51 _ hr (by kernel_rfl) rfl (by simp [ChV.cells, Value.oneCell']) ?_
     intro W9 r9 o9
     refine hK2 _ _ ?_
     clear hK2 K2
     simp only [Act.put, List.setIfInBounds_toArray, List.set_cons_zero, List.set_cons_succ]
     have hT9 : T W9 := K1.out _ (below_only (K0.out _ hT) o9 hDw)
     refine ⟨hT9, ?_⟩
     refine wpAnyH_done (by kernel_rfl) ?_ _
     refine ends_normal ?_
     exact ⟨D, rfl, hT9, hDw, r9⟩
  case cont =>
   clear hT
   rintro D W ⟨hT, hDw, rD⟩
   have c3 : W.cell? ⟨D, 3, none⟩ = some (.int .i64 ta) := by have h := rD.cellv (i := 3) (v := .int .i64 c.a) rfl; rw [Hcc.out] at h; exact h
   have c4 : W.cell? ⟨D, 4, none⟩ = some (.int .i64 tb) := by have h := rD.cellv (i := 4) (v := .int .i64 c.b) rfl; rw [Hcc.out] at h; exact h
   have HL1 : Hid (LoopD a b l w5 k u9 cs W) := ⟨HL.out.bw.trans ((K0.out _ hT).mono HL.out.bw.size), own_below HL.out.own (K0.out _ hT), HL.out.dat, HL.out.len, HL.out.al⟩
   have Hstep : Hid ((l.take (k + 1)).filterMap (fun x => tellM a.muts b.muts x.m) = (l.take k).filterMap (fun x => tellM a.muts b.muts x.m) ++ (if ta = tb then [] else [(x.m.d, ta, tb)])) := by
    show _ = _
    rw [List.take_add_one, Hx.out, List.filterMap_append, Option.toList_some, List.filterMap_cons, Htell.out]
    by_cases h : ta = tb
    · simp [h]
    · simp [h]
   have RD := Lib.hid rD
   clear HL TS Hc C5 C6 HTa HTb Htell K1 rD hDw
   by_cases htt : ta = tb
   · have hq : (ta != tb) = false := by simpa using htt
     have HL2 : Hid (LoopD a b l w5 (k + 1) u9 cs W) := ⟨HL1.out.bw, HL1.out.own, by rw [HL1.out.dat, Hstep.out, if_pos htt, List.append_nil], by have := HL1.out.len; omega, HL1.out.al⟩
     clear HL1 Hstep htt Hcc Hx
     go_wp2_with fail
     exact ⟨⟨k + 1, cs, by simp, by omega, HL2⟩, by simp only [intOf]; omega⟩
   · have hq : (ta != tb) = true := by simpa using htt
     go_wp2_with (first | (refine wpList_load_row rfl 51 _ rfl D rfl 51 c.cells (0, 0) _ RD.out Tryz.underlying51 rfl (by kernel_rfl) ?_) | (refine at_slice _ _ _ rfl ?_))
     refine Stop.to ?_
     refine wpList_slice_gen rfl 37 1 _ rfl 51 c.cells (bs_run Tryz.underlying37 info_chz (by decide) (by decide) (by kernel_rfl)) ?_
     intro M Mw Mh Mr Mb
     have b3 := Mb.mono Mh
     have hown3 := own_below HL1.out.own b3
     obtain ⟨v4, w4, hrun4, hown4, hgr4, -⟩ := append_rd (P := Tryz.prog) 37 51 (.agg #[.slice none 0 0, .int .i64 0, .int .i64 0, .int .i64 0, .int .i64 0]) 5 56 Tryz.underlying37 info_ch rfl (by decide) (by decide) hown3 (Nat.le_trans HL1.out.bw.size b3.size) (rd_rowP (cs := c.cells.toList) (by simpa using Mr)) (m := 1) (cap := 1) rfl (chsC_one c) (by simp) (by have := HL1.out.len; omega)
     have Hrun4 := Lib.hid hrun4
     have hb4 := below_grown_own (HL1.out.bw.trans (b3.mono HL1.out.bw.size)) hown3 hgr4 (Nat.le_trans HL1.out.bw.size b3.size) (Nat.le_refl _)
     have HL2 : Hid (LoopD a b l w5 (k + 1) v4 (cs ++ [c]) w4) := ⟨hb4, by rw [List.length_append, chsC_snoc]; exact hown4, by rw [List.map_append, HL1.out.dat, Hstep.out, if_neg htt, Hcc.out]; rfl, by rw [List.length_append]; have := HL1.out.len; simp only [List.length_cons, List.length_nil]; omega, fun y hy => by
      rcases List.mem_append.1 hy with hy | hy
      · exact HL1.out.al y hy
      · rw [List.mem_singleton.1 hy, Hcc.out]; exact ⟨x, List.mem_of_getElem? Hx.out, rfl⟩⟩
     clear hrun4 hown4 hgr4 hown3 b3 Mb Mr Mh hb4 HL1 Hstep htt Hcc Hx c3 c4
     go_wp2_with (refine at_app _ _ _ _ rfl ?_)
     refine Stop.to ?_
     refine wpList_res rfl _ (run_exec_append rfl Hrun4.out) ?_
     clear Hrun4
     go_wp2_with fail
     exact ⟨⟨k + 1, cs ++ [c], by simp, by omega, HL2⟩, by simp only [intOf]; omega⟩
end Go.Proofs.YtcgglolckkeeiaaGreat
