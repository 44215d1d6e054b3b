/- Lemmas for JnCll. -/
import Derived.Test.YtcgglolckkeeiaaGreatZl10
import Derived.Test.YtcgglolckkeeiaaGreatZl21
import Derived.OrdersHeld
namespace Go.Proofs.YtcgglolckkeeiaaGreat
set_option linter.unusedVariables false
open Go.RowKit
section
variable {P : Program} {ops : Array Oper} {Q : Exit → Act → World → Prop} {md : Region.Mode} {S : World → Prop} {last : Nat}
def YieldsC (P : Program) (ops : Array Oper) (S : World → Prop) (o : Oper) (v : Value) (a : Act) : Prop :=
 (Region.wanted o (yielded ops a.tmps) = true ∧ ∀ w, S w → (execOp a.eval o).run P w = .ok (.value v) w ∨ ∃ f args, (execOp a.eval o).run P w = .ok (.enter f args) w ∧ Calls P f args w fun e w' => e = .returned v ∧ w' = w) ∨
 (Region.wanted o (yielded ops a.tmps) = false ∧ v = undef)
theorem yieldsC_of {o : Oper} {v : Value} {a : Act} (h : YieldsIf P ops S o v a) : YieldsC P ops S o v a := h.imp (fun ⟨hw, hv⟩ => ⟨hw, fun w hS => .inl (hv w hS)⟩) id
theorem YieldsC.wpOp {i : Nat} {o : Oper} {v : Value} {a : Act} (hi : ops[i]? = some o) (hy : YieldsC P ops S o v a) {K : Act → World → Prop} {w : World} (hS : S w) (h : K (a.put o.dst v) w) : wpOp P ops Q i K a w := by
 unfold Go.wpOp
 simp only [hi]
 rcases hy with ⟨hw, hv⟩ | ⟨hw, rfl⟩
 · rw [if_pos hw]
   refine .inl ?_
   unfold Oper.wp
   rcases hv w hS with hv | ⟨f, args, hv, hc⟩
   · rw [hv]; exact h
   · rw [hv]
     refine Calls.mono hc fun e w' he => ?_
     obtain ⟨rfl, rfl⟩ := he
     exact h
 · rw [if_neg (by rw [hw]; simp)]; exact h
theorem YieldsC.of_same {o : Oper} {v : Value} {a a' : Act} (hy : YieldsC P ops S o v a) (he : execOp a'.eval o = execOp a.eval o) (hw : Region.wanted o (yielded ops a'.tmps) = Region.wanted o (yielded ops a.tmps)) : YieldsC P ops S o v a' := by
 unfold YieldsC at *
 rw [he, hw]
 exact hy
theorem wpOp_putC {j : Nat} {oi oj : Oper} {v : Value} (hj : ops[j]? = some oj) (hap : oi.apart ops oj = true)
 (hsi : ∀ cs b, oi.op ≠ .select cs b) (hsj : ∀ cs b, oj.op ≠ .select cs b)
 (hQ : ∀ c a w, Q (.panic c) (a.put oi.dst v) w → Q (.panic c) a w) {K : Act → World → Prop} {a : Act} {w : World}
 (hy : YieldsC P ops S oi v a) (h : wpOp P ops Q j K (a.put oi.dst v) w) :
 wpOp P ops Q j (fun a' w' => YieldsC P ops S oi v a' ∧ K (a'.put oi.dst v) w') a w := by
 obtain ⟨h1, h2, h3⟩ := Oper.apart_spec hap
 have keep : ∀ (a : Act), YieldsC P ops S oi v a → ∀ u, YieldsC P ops S oi v (a.put oj.dst u) := fun a hy u =>
  hy.of_same (execOp_put oi hsi a oj.dst u h3) (wanted_put oi a oj.dst u h3)
 have keepD : ∀ d, YieldsC P ops S oi v { a with defers := d :: a.defers } := fun d => hy.of_same rfl rfl
 unfold wpOp at *
 simp only [hj] at *
 rw [wanted_put oj a oi.dst v h1] at h
 split
 · rename_i hw
   simp only [hw, if_true] at h
   rcases h with h | ⟨hasks, hlets⟩
   case inr => exact .inr ⟨by unfold Oper.asks at *; rw [execOp_put oj hsj a oi.dst v h1] at hasks; exact hasks, hlets⟩
   refine .inl ?_
   unfold Oper.wp at *
   rw [execOp_put oj hsj a oi.dst v h1] at h
   generalize (execOp a.eval oj).run P w = r at *
   cases r with
   | ok n w' =>
    cases n <;> simp only [Oper.upon] at h ⊢
    case value u => exact ⟨keep a hy u, by rw [← Act.put_comm a v u h2]; exact h⟩
    case skip => exact ⟨keep a hy _, by rw [← Act.put_comm a v undef h2]; exact h⟩
    case defer d =>
     refine ⟨keep _ (keepD d) _, ?_⟩
     rw [← Act.put_comm _ v undef h2, ← Act.put_defers]
     exact h
    case enter f args =>
     refine Calls.mono h fun e w'' he => ?_
     cases e with
     | returned u => exact ⟨keep a hy u, by rw [← Act.put_comm a v u h2]; exact he⟩
     | panicked c => exact hQ _ _ _ he
     | outgrown => exact he
    case row row args => exact Rows.mono h fun u w'' he => ⟨keep a hy u, by rw [← Act.put_comm a v u h2]; exact he⟩
   | halt x w' =>
    cases x <;> simp only [Oper.upon] at h ⊢
    case panic u => exact hQ _ _ _ h
 · rename_i hw
   simp only [hw] at h
   exact ⟨keep a hy _, by rw [← Act.put_comm a v undef h2]; exact h⟩
def wpAnyL (P : Program) (md : Region.Mode) (ops : Array Oper) (Q : Exit → Act → World → Prop) (S : World → Prop) (last : Nat) : Nat → Array Bool → Act → World → Prop
 | 0, listed, a, w => Region.ready md ops listed = [] ∧ Q .normal a w
 | fuel + 1, listed, a, w =>
  (Region.ready md ops listed = [] → Q .normal a w) ∧
  ∀ i ∈ Region.ready md ops listed, wpOp P ops Q i (fun a' w' => (i ≠ last → S w') ∧ wpAnyL P md ops Q S last fuel (listed.setIfInBounds i true) a' w') a w
theorem wpAny_of_L : ∀ (fuel : Nat) (listed : Array Bool) (a : Act) (w : World), wpAnyL P md ops Q S last fuel listed a w → wpAny P md ops Q fuel listed a w
 | 0, _, _, _, h => h
 | fuel + 1, _, _, _, h => ⟨h.1, fun i hi => wpOp_mono (fun a' w' h' => wpAny_of_L fuel _ a' w' h'.2) (h.2 i hi)⟩
theorem wpAnyL_first {i : Nat} {oi : Oper} {v : Value} (hi : ops[i]? = some oi) (hsel : ∀ (j : Nat) (o : Oper) cs b, ops[j]? = some o → o.op ≠ .select cs b)
 (hil : i ≠ last) (hdep : ∀ o, ops[last]? = some o → ∃ e ∈ o.after, Region.binds md e = true ∧ e.on = i)
 (hQ : ∀ c a w, Q (.panic c) (a.put oi.dst v) w → Q (.panic c) a w) :
 ∀ (fuel : Nat) (listed : Array Bool) (a : Act) (w : World),
  (∀ j oj, ops[j]? = some oj → j ≠ i → listed.getD j true = false → (∀ e ∈ oj.after, Region.binds md e = true → e.on ≠ i) → oi.apart ops oj = true) →
  i ∈ Region.ready md ops listed → YieldsC P ops S oi v a → S w →
  wpAnyL P md ops Q S last fuel (listed.setIfInBounds i true) (a.put oi.dst v) w → wpAnyL P md ops Q S last (fuel + 1) listed a w := by
 intro fuel
 induction fuel with
 | zero =>
  intro listed a w _ hr hy hS H
  refine ⟨fun h => (by rw [h] at hr; cases hr), fun j hj => ?_⟩
  by_cases hji : j = i
  · subst hji; exact hy.wpOp hi hS ⟨fun _ => hS, H⟩
  · have := ready_mono hj hji
    rw [H.1] at this
    cases this
 | succ fuel ih =>
  intro listed a w hfree hr hy hS H
  refine ⟨fun h => (by rw [h] at hr; cases hr), fun j hj => ?_⟩
  by_cases hji : j = i
  · subst hji; exact hy.wpOp hi hS ⟨fun _ => hS, H⟩
  · have h1 := H.2 j (ready_mono hj hji)
    obtain ⟨hjun, oj, hoj, hall⟩ := mem_ready.1 hj
    have hnot : ∀ e ∈ oj.after, Region.binds md e = true → e.on ≠ i := fun e he hb heq => by
     have h1 := hall e he hb
     have h0 := (mem_ready.1 hr).1
     rw [heq] at h1
     rcases Nat.lt_or_ge i listed.size with h' | h'
     · simp [h'] at h0 h1; rw [h0] at h1; cases h1
     · simp [Array.getElem?_eq_none h'] at h1
    have hjl : j ≠ last := fun e => by
     subst e
     obtain ⟨e, he, hb, heq⟩ := hdep oj hoj
     exact hnot e he hb heq
    have h2 := wpOp_putC hoj (hfree j oj hoj hji hjun hnot) (fun cs b => hsel i oi cs b hi) (fun cs b => hsel j oj cs b hoj) hQ hy h1
    have hfree' : ∀ k ok, ops[k]? = some ok → k ≠ i → (listed.setIfInBounds j true).getD k true = false →
     (∀ e ∈ ok.after, Region.binds md e = true → e.on ≠ i) → oi.apart ops ok = true := fun k ok hk hki hun hno => by
     refine hfree k ok hk hki ?_ hno
     by_cases hjk : j = k
     · subst hjk; exact hjun
     · rw [getD_set_ne true hjk] at hun; exact hun
    refine wpOp_mono (fun a' w' h3 => ⟨fun _ => h3.2.1 hjl, ih (listed.setIfInBounds j true) a' w' hfree' (ready_mono hr (Ne.symm hji)) h3.1 (h3.2.1 hjl) ?_⟩) h2
    rw [Array.setIfInBounds_comm _ _ hji]
    exact h3.2.2
theorem wpAnyL_all {rs : List Nat} {fuel : Nat} {listed : Array Bool} {a : Act} {w : World} (hr : Region.ready md ops listed = rs) (hne : rs ≠ [])
 (h : ∀ i ∈ rs, wpOp P ops Q i (fun a' w' => (i ≠ last → S w') ∧ wpAnyL P md ops Q S last fuel (listed.setIfInBounds i true) a' w') a w) : wpAnyL P md ops Q S last (fuel + 1) listed a w :=
 ⟨fun h0 => absurd (hr ▸ h0) hne, hr ▸ h⟩
theorem wpAnyL_done {listed : Array Bool} {a : Act} {w : World} (hr : Region.ready md ops listed = []) (h : Q .normal a w) : ∀ fuel, wpAnyL P md ops Q S last fuel listed a w
 | 0 => ⟨hr, h⟩
 | _ + 1 => ⟨fun _ => h, by rw [hr]; simp⟩
end
def leansB (md : Region.Mode) (ops : Array Oper) (last i : Nat) : Bool := match ops[last]? with | some o => o.after.any (fun e => Region.binds md e && e.on == i) && (i != last) | none => false
theorem takeL {P : Program} {md : Region.Mode} {l : List Oper} {Q : Exit → Act → World → Prop} {S : World → Prop} {last i : Nat} {oi : Oper} {rest : List Oper} {v : Value} {fuel : Nat} {listed : Array Bool} {a : Act} {w : World} (ho : l.drop i = oi :: rest)
 (hs : Region.noSelect l.toArray = true) (hf : Region.free md l.toArray listed i = true) (hr : (Region.ready md l.toArray listed).contains i = true) (hd : leansB md l.toArray last i = true)
 (hQ : ∀ c a w, Q (.panic c) (a.put oi.dst v) w → Q (.panic c) a w) (hy : YieldsC P l.toArray S oi v a) (hS : S w)
 (h : wpAnyL P md l.toArray Q S last fuel (listed.setIfInBounds i true) (a.put oi.dst v) w) : wpAnyL P md l.toArray Q S last (fuel + 1) listed a w := by
 have hd1 : i ≠ last := fun e => by
  subst e
  unfold leansB at hd
  split at hd
  · simp at hd
  · cases hd
 refine wpAnyL_first (drop_at ho) (Region.noSelect_spec hs) hd1 (fun o hol => ?_) hQ fuel listed a w (Region.free_spec (drop_at ho) hf) (by simpa using hr) hy hS h
 unfold leansB at hd
 rw [hol] at hd
 simp only [Bool.and_eq_true] at hd
 obtain ⟨n, hn, hb⟩ := Array.any_eq_true.1 hd.1
 simp only [Bool.and_eq_true, beq_iff_eq] at hb
 exact ⟨_, Array.getElem_mem hn, hb.1, hb.2⟩
theorem region_last {P : Program} {last id : Nat} {Q : Exit → Act → World → Prop} {a : Act} {w : World} {l : List Oper} {S : World → Prop} (hm : P.follows .mixedOrders = true) (h : wpAnyL P .any l.toArray Q S last l.toArray.size (Array.replicate l.toArray.size false) a w.drew) : (Code.region id l.toArray true).wp P Q a w :=
 wp_region_any hm (wpAny_of_L _ _ _ _ h)
theorem region_lastR {P : Program} {last r id : Nat} {Q : Exit → Act → World → Prop} {a : Act} {w : World} {l : List Oper} {S : World → Prop} (hm : P.follows .mixedOrders = true) (hd : noDefer l.toArray = true) (h : wpAnyL P .any l.toArray (Ends Q) S last l.toArray.size (Array.replicate l.toArray.size false) a w.drew) : (Code.region id l.toArray true).wpIn (Fence.wide.inRound r) 0 P Q a w :=
 region_anyR hm hd (wpAny_of_L _ _ _ _ h)
end Go.Proofs.YtcgglolckkeeiaaGreat
namespace Go.Proofs.YtcgglolckkeeiaaGreat
set_option linter.unusedVariables false
open Go.RowKit Go.Deep
theorem zero_mt (w : World) : (zeroValue 47).run Tryz.prog w = .ok (.agg #[.slice none 0 0, .int .i64 0, .int .i64 0, .int .i64 0, .int .i64 0, .int .i64 0, .int .i64 0, .string ByteArray.empty]) w := by kernel_rfl
structure CopyR (x : MtV) (w w' : World) (e : Ending) : Prop where
 ex : ∃ y : MtV, e = .returned (.agg y.cells.toArray) ∧ y.m = x.m ∧ MtOk w' y ∧ IntB w' y.A ∧ (∀ ad, y.A = some ad → w.heap.size ≤ ad.block) ∧ Below w.heap.size w w'
set_option maxRecDepth 100000 in
set_option maxHeartbeats 4000000 in
theorem copied_any (x : MtV) (w : World) (hx : MtOk w x) :
 Calls Tryz.prog 48 #[.agg x.cells.toArray] w fun e w' => CopyR x w w' e := by
 have Hx := Lib.hid hx
 clear hx
 go_enter Tryz.func48, Tryz.ntmps48
 go_wp2_with (refine at_box _ _ rfl ?_)
 refine Stop.to ?_
 refine wpList_box_gen rfl 47 _ rfl x.cells.toArray rfl ?_
 intro G Gw Gh Gr Gb
 have b1 := (Below.refl w.heap.size w).trans (Gb.mono Gh)
 clear Gb
 go_wp2_with (first | fail | (refine at_alloc _ rfl ?_))
 refine Stop.to ?_
 refine wpList_alloc_gen rfl 47 rfl _ _ (zero_mt _) rfl ?_
 intro R Rw Rh Rr Rb
 have rG := Gr.below Rb (Nat.lt_of_lt_of_le Gr.lt Rh)
 have b2 := b1.trans ((Rb.mono Rh).mono b1.size)
 have hGR : G < R := Nat.lt_of_lt_of_le Gr.lt Rh
 have hGw : w.heap.size ≤ G := Gh
 have hxr := Hx.out.rd.go b2
 obtain ⟨v3, w3, hrun, hown, hgr, -⟩ := append_rd (P := Tryz.prog) 22 3 (.int .i64 0) 1 8 Tryz.underlying22 info_int rfl (by decide) (by decide) (World.ownsRow_nil Rw Rw.heap.size 3 1) (Nat.le_refl _) hxr (m := x.m.d.path.length) (cap := x.cap) (by rw [ints_length, Nat.mul_one]) (ints_one x.m.d.path) (fun e => by rw [Hx.out.nil e]; rfl) (by have := Hx.out.len; omega)
 have b23 : Below Rw.heap.size Rw w3 := ⟨hgr.os, hgr.tape, hgr.output, hgr.size, fun k hk => hgr.block k hk (by simp [Value.ownBlock])⟩
 rw [Nat.zero_add, List.nil_append] at hown
 obtain ⟨PA, pc, rfl, hpr, hpc, hpn, hpb⟩ := own_rdB hown
 have hib : IntB w3 PA := own_intB hown rfl
 have rG3 := rG.below b23 rG.lt
 have rR3 := Rr.below b23 Rr.lt
 have b3 := b2.trans (b23.mono b2.size)
 have Hrun := Lib.hid hrun
 have sR := Rr.lt
 obtain ⟨y, hy⟩ : ∃ y : MtV, y = ⟨PA, pc, x.m⟩ := ⟨_, rfl⟩
 have o4 := only_set w3 G 0 (.slice PA x.m.d.path.length pc)
 have rG4 : Row (w3.setCell ⟨G, 0, none⟩ (.slice PA x.m.d.path.length pc)) G 47 y.cells.toArray := by rw [hy]; exact rG3.set 0 _
 have rR4 := rR3.only o4 (by omega)
 have b4 := below_only b3 o4 hGw
 have hpr4 : Rd (w3.setCell ⟨G, 0, none⟩ (.slice PA x.m.d.path.length pc)) PA (ints x.m.d.path) := hpr.only o4 (fun _ a e => by have := hpb a e; omega)
 have hib4 : IntB (w3.setCell ⟨G, 0, none⟩ (.slice PA x.m.d.path.length pc)) PA := fun a e => by
  obtain ⟨cs, hr⟩ := hib a e
  exact ⟨cs, hr.only o4 (by have := hpb a e; omega)⟩
 have hpn4 : PA = none → x.m.d.path = [] := fun e => List.eq_nil_of_length_eq_zero (by have := hpn e; omega)
 have c3 := rG3.cellv (i := 0) (v := .slice x.A x.m.d.path.length x.cap) rfl
 have f3 := rG3.free 0
 have c0 := rG.cellv (i := 0) (v := .slice x.A x.m.d.path.length x.cap) rfl
 have Hlen := Lib.hid Hx.out.len
 have Hdig := Lib.hid Hx.out.dig
 have hpb0 : ∀ ad, PA = some ad → w.heap.size ≤ ad.block ∧ ad.block ≠ R := fun ad e => by have := hpb ad e; omega
 have hRw : w.heap.size ≤ R := by omega
 have HF : Hid (∀ W, Only R (w3.setCell ⟨G, 0, none⟩ (.slice PA x.m.d.path.length pc)) W → CopyR x w W (.returned (.agg y.cells.toArray))) := fun W o => by
  refine ⟨y, rfl, by rw [hy], ?_, ?_, ?_, below_only b4 o hRw⟩
  · rw [hy]
    exact ⟨hpr4.only o (fun _ a e => (hpb0 a e).2), Hlen.out, hpn4, Hdig.out⟩
  · rw [hy]
    intro a e
    obtain ⟨cs, hr⟩ := hib4 a e
    exact ⟨cs, hr.only o (hpb0 a e).2⟩
  · rw [hy]
    exact fun ad e => (hpb0 ad e).1
 clear hy b4 hpr4 hib4 hpn4 hpb0 Hlen Hdig
 clear Gr rG Rr Rb Rh b1 b2 hxr hrun hown hgr b23 hpr hpc hpn hpb hib rG3 rR3 b3 o4 Hx Gh
 go_wp2_with (at_builtin; refine at_stopC ?_)
 refine Stop.to ?_
 refine wpList_res rfl _ (run_exec_append rfl Hrun.out) ?_
 clear c0 Hrun
 go_wp2_with (refine wpList_load_row rfl 47 _ rfl G rfl 47 y.cells.toArray (0, 0) _ rG4 Tryz.underlying47 rfl (by kernel_rfl) ?_; refine at_stopC ?_)
 refine Stop.to ?_
 refine wpList_store_gen rfl 47 _ _ rfl R y.cells.toArray rfl rfl 47 _ rR4 (by kernel_rfl) rfl (by simp [MtV.cells, Value.oneCell']) ?_
 intro w5 r5 o5
 have hF : CopyR x w w5 (.returned (.agg y.cells.toArray)) := HF.out w5 o5
 have HF2 := Lib.hid hF
 clear hF HF rG4 rR4 o5 c3 f3
 go_wp2_with fail
 refine bodyPost_ret (results_cell_row Tryz.results48 _ _ R 47 _ (0, 0) _ rfl r5 Tryz.underlying47 rfl (by kernel_rfl)) rfl ?_
 exact HF2.out
end Go.Proofs.YtcgglolckkeeiaaGreat
namespace Go.Proofs.YtcgglolckkeeiaaGreat
set_option linter.unusedVariables false
open Go.RowKit Go.Deep
attribute [local go_sem] Oper.semAt_some
def zpt (A : Option Addr) : Option Nat → Value
 | none => .pointer none
 | some i => .pointer (A.map fun a => a.add (i * 8))
abbrev ZX : Type := Option Nat × Option Nat
def zenc (A B : Option Addr) (z : ZX) : Array Value := #[zpt A z.1, zpt B z.2]
structure ZipC (A B : Option Addr) (ca cb : Nat) (a b : List MtV) (X : Nat → Prop) (ba bb bc : Nat) (w : World) : Prop where
 ra : Row w ba 27 #[.slice A a.length ca]
 rb : Row w bb 27 #[.slice B b.length cb]
 rc : Row w bc 81 #[.func (.func 46) #[] #[]]
 xa : ¬ X ba
 xb : ¬ X bb
 xc : ¬ X bc
 hA : Rd w A (mtsC a)
 sA : mtsC a ≠ [] → ∀ ad, A = some ad → ¬ X ad.block
 hB : Rd w B (mtsC b)
 sB : mtsC b ≠ [] → ∀ ad, B = some ad → ¬ X ad.block
 oa : ∀ x ∈ a, MtOk w x
 soa : ∀ x ∈ a, ints x.m.d.path ≠ [] → ∀ ad, x.A = some ad → ¬ X ad.block
 ob : ∀ x ∈ b, MtOk w x
 sob : ∀ x ∈ b, ints x.m.d.path ≠ [] → ∀ ad, x.A = some ad → ¬ X ad.block
theorem MtOk.kx {X : Nat → Prop} {W W' : World} {x : MtV} (h : MtOk W x) (k : KpX X W W') (s : ints x.m.d.path ≠ [] → ∀ ad, x.A = some ad → ¬ X ad.block) : MtOk W' x := ⟨k.rd h.rd s, h.len, h.nil, h.dig⟩
theorem ZipC.kx {A B : Option Addr} {ca cb : Nat} {a b : List MtV} {X : Nat → Prop} {ba bb bc : Nat} {w w' : World} (h : ZipC A B ca cb a b X ba bb bc w) (k : KpX X w w') : ZipC A B ca cb a b X ba bb bc w' :=
 ⟨k.row h.ra h.xa, k.row h.rb h.xb, k.row h.rc h.xc, h.xa, h.xb, h.xc, k.rd h.hA h.sA, h.sA, k.rd h.hB h.sB, h.sB, fun x hx => (h.oa x hx).kx k (h.soa x hx), h.soa, fun x hx => (h.ob x hx).kx k (h.sob x hx), h.sob⟩
theorem ZipC.add {A B : Option Addr} {ca cb : Nat} {a b : List MtV} {X : Nat → Prop} {ba bb bc : Nat} {w W : World} {lb : Nat} (h : ZipC A B ca cb a b X ba bb bc w) (bl : Below w.heap.size w W) (h1 : w.heap.size ≤ lb) : ZipC A B ca cb a b (fun i => X i ∨ i = lb) ba bb bc W := by
 have no : ∀ k, k < w.heap.size → ¬ X k → ¬ (X k ∨ k = lb) := fun k hk hx h => by
  rcases h with h | h
  · exact hx h
  · omega
 exact ⟨h.ra.below bl h.ra.lt, h.rb.below bl h.rb.lt, h.rc.below bl h.rc.lt, no _ h.ra.lt h.xa, no _ h.rb.lt h.xb, no _ h.rc.lt h.xc, h.hA.go bl, fun hne ad e => no _ (rd_lt h.hA hne e) (h.sA hne ad e), h.hB.go bl, fun hne ad e => no _ (rd_lt h.hB hne e) (h.sB hne ad e),
  fun x hx => (h.oa x hx).go bl, fun x hx hne ad e => no _ (rd_lt (h.oa x hx).rd hne e) (h.soa x hx hne ad e), fun x hx => (h.ob x hx).go bl, fun x hx hne ad e => no _ (rd_lt (h.ob x hx).rd hne e) (h.sob x hx hne ad e)⟩
theorem wp_scope_jumps2 {P : Program} {a : Act} {w : World} {Q : Exit → Act → World → Prop} {c rest : Code} (l : Nat) (J : Act → World → Prop) (μ : Act → World → Nat) (hf : findLabel c l = some (Code.skip.seq rest))
 (first : (∀ a w, J a w → rest.wp P (Exit.jump l J Q) a w) → c.wp P (Exit.jump l J Q) a w)
 (pass : ∀ a w, J a w → rest.wp P (Exit.jump l (fun a' w' => J a' w' ∧ μ a' w' < μ a w) Q) a w) : (Code.scope c).wp P Q a w :=
 wp_scope_jumps l J μ hf (first fun a w h => Code.wp_mono (fun e a w k => by
  cases e with
  | goto l' => exact ⟨k.1, k.2.1⟩
  | _ => exact k) (pass a w h)) fun a w h => wp_seq (wp_skip (pass a w h))
instance St.zipc {A B : Option Addr} {ca cb : Nat} {a b : List MtV} {X : Nat → Prop} {ba bb bc : Nat} : St (fun W => ZipC A B ca cb a b X ba bb bc W) := ⟨fun h bl => h.kx (KpX.of_below bl)⟩
theorem zipN_0 {a b : List Mt} {i k : Nat} (hi : a.length ≤ i) (hk : b.length ≤ k) : zipN (a.drop i) (b.drop k) i k = [] := by
 rw [List.drop_of_length_le hi, List.drop_of_length_le hk, zipN]
theorem zipN_x {a b : List Mt} {i k : Nat} (hi : i < a.length) (hk : b.length ≤ k) : zipN (a.drop i) (b.drop k) i k = (some i, none) :: zipN (a.drop (i + 1)) (b.drop k) (i + 1) k := by
 rw [List.drop_eq_getElem_cons hi, List.drop_of_length_le hk, zipN]
theorem zipN_y {a b : List Mt} {i k : Nat} (hi : a.length ≤ i) (hk : k < b.length) : zipN (a.drop i) (b.drop k) i k = (none, some k) :: zipN (a.drop i) (b.drop (k + 1)) i (k + 1) := by
 rw [List.drop_eq_getElem_cons hk, List.drop_of_length_le hi, zipN]
theorem zipN_xy {a b : List Mt} {i k : Nat} {x y : Mt} (hx : a[i]? = some x) (hy : b[k]? = some y) :
 (cmpD x.d y.d < 0 → zipN (a.drop i) (b.drop k) i k = (some i, none) :: zipN (a.drop (i + 1)) (b.drop k) (i + 1) k) ∧
 (0 < cmpD x.d y.d → zipN (a.drop i) (b.drop k) i k = (none, some k) :: zipN (a.drop i) (b.drop (k + 1)) i (k + 1)) ∧
 (cmpD x.d y.d = 0 → zipN (a.drop i) (b.drop k) i k = (some i, some k) :: zipN (a.drop (i + 1)) (b.drop (k + 1)) (i + 1) (k + 1)) := by
 obtain ⟨hi, rfl⟩ := List.getElem?_eq_some_iff.1 hx
 obtain ⟨hk, rfl⟩ := List.getElem?_eq_some_iff.1 hy
 rw [List.drop_eq_getElem_cons hi, List.drop_eq_getElem_cons hk]
 refine ⟨fun h => ?_, fun h => ?_, fun h => ?_⟩
 · rw [zipN, if_pos h]
 · rw [zipN, if_neg (by omega), if_pos h]
 · rw [zipN, if_neg (by omega), if_neg (by omega)]
def ZipP (full : List ZX) (pre : List ZX) (z : ZX) (_ : World) : Prop := ∃ rest, pre ++ z :: rest = full
set_option maxRecDepth 100000 in
set_option maxHeartbeats 8000000 in
theorem zip1_iter (A B : Option Addr) (ca cb : Nat) (a b : List MtV) (X : Nat → Prop) (ba bb bc : Nat) (w : World) (hC : ZipC A B ca cb a b X ba bb bc w) (hla : a.length ≤ 100000) (hlb : b.length ≤ 100000) :
 IterP Tryz.prog 104 #[.pointer (some ⟨ba, 0, none⟩), .pointer (some ⟨bb, 0, none⟩), .pointer (some ⟨bc, 0, none⟩)] (zenc A B) (fun _ => False) (fun lb => KpX (fun i => X i ∨ i = lb)) (ZipP (zipN (a.map MtV.m) (b.map MtV.m) 0 0)) (fun xs => xs = zipN (a.map MtV.m) (b.map MtV.m) 0 0) (fun _ => True) (zipN (a.map MtV.m) (b.map MtV.m) 0 0).length True w := by
 intro lb J Jx W hlb hwW _ hJ hJx hY h0
 have hbw : Below w.heap.size w W := ⟨hwW.os, hwW.tape, hwW.output, hwW.size, fun k hk => hwW.block k hk (by simp)⟩
 have hC1 := hC.add hbw hlb.1
 clear hC hlb hbw hwW w
 obtain ⟨full, hfull⟩ : ∃ full, full = zipN (a.map MtV.m) (b.map MtV.m) 0 0 := ⟨_, rfl⟩
 rw [← hfull] at hY ⊢
 have hY' : ∀ pre z W1, J pre W1 → ZipP full pre z W1 → pre.length < full.length → YieldAt Fence.wide 0 Tryz.prog lb #[zpt A z.1, zpt B z.2] W1 fun e W' => (e = .returned (.bool true) ∧ J (pre ++ [z]) W' ∧ KpX (fun i => X i ∨ i = lb) W1 W') ∨ (e = .returned (.bool false) ∧ Jx (pre ++ [z]) W' ∧ KpX (fun i => X i ∨ i = lb) W1 W') := hY
 clear hY
 generalize (fun i => X i ∨ i = lb) = X1 at hC1 hY'
 clear X
 obtain ⟨X, rfl⟩ : ∃ X, X = X1 := ⟨_, rfl⟩
 obtain ⟨na, hna⟩ : ∃ n, n = a.length := ⟨_, rfl⟩
 obtain ⟨nb, hnb⟩ : ∃ n, n = b.length := ⟨_, rfl⟩
 have hnaI : (na : Int) ≤ 100000 := by omega
 have hnbI : (nb : Int) ≤ 100000 := by omega
 have Hna := Lib.hid hna
 have Hnb := Lib.hid hnb
 have Hfull := Lib.hid hfull
 have HC := Lib.hid hC1
 have HJ := Lib.hid hJ
 have HY := Lib.hid hY'
 clear hJ hJx hY' hC1 hfull hla hna hnb
 refine callsIn_of_wp Tryz.func104 rfl trivial ?_ rfl
 simp only [Tryz.ntmps104, List.size_toArray, List.length_cons, List.length_nil, Nat.reduceAdd, Nat.reduceSub, Array.replicate_succ, Array.replicate_zero, List.push_toArray, List.append_toArray, List.nil_append, List.cons_append]
 refine wpIn_wide.2 ?_
 refine wp_scope_jumps2 0 (fun a' w' => ∃ (i k : Nat) (pre : List ZX) (u4 u7 u8 u9 u10 u11 u12 u13 u14 u15 u16 u17 u18 u19 u20 u21 u22 u23 u24 u25 u26 u27 u28 u29 u30 u31 u32 u33 u34 u35 u36 u37 u38 u39 u40 u41 u42 u43 u44 u45 u46 u47 u48 u49 u50 u51 u52 u53 u54 u55 u56 u57 u58 u59 u60 u61 u62 u63 : Value), a' = { tmps := #[.func (.yield lb) #[] #[], .pointer (some ⟨ba, 0, none⟩), .pointer (some ⟨bb, 0, none⟩), .pointer (some ⟨bc, 0, none⟩), u4, .int .i64 (i : Int), .int .i64 (k : Int), u7, u8, u9, u10, u11, u12, u13, u14, u15, u16, u17, u18, u19, u20, u21, u22, u23, u24, u25, u26, u27, u28, u29, u30, u31, u32, u33, u34, u35, u36, u37, u38, u39, u40, u41, u42, u43, u44, u45, u46, u47, u48, u49, u50, u51, u52, u53, u54, u55, u56, u57, u58, u59, u60, u61, u62, u63], defers := [] } ∧ i ≤ na ∧ k ≤ nb ∧ Hid (pre ++ zipN ((a.map MtV.m).drop i) ((b.map MtV.m).drop k) i k = full) ∧ Hid (ZipC A B ca cb a b X ba bb bc w') ∧ J pre w') (fun a' _ => (na - (intOf (a'.tmps.getD 5 undef)).toNat) + (nb - (intOf (a'.tmps.getD 6 undef)).toNat)) rfl ?first ?pass
 case first =>
  intro hrest
  have Hrest := Lib.hid hrest
  clear hrest
  go_wp2_with fail
  refine wp_label ?_
  refine (by assumption : ∀ a w, Code.wp _ _ _ a w → _) _ _ ?_
  refine Hrest.out _ _ ⟨0, 0, [], ?_⟩
  repeat apply Exists.intro
  exact ⟨rfl, Nat.zero_le _, Nat.zero_le _, by show _ = _; rw [Hfull.out]; rfl, HC, h0⟩
 case pass =>
  clear h0 HC
  rintro a' w' ⟨i, k, pre, u4, u7, u8, u9, u10, u11, u12, u13, u14, u15, u16, u17, u18, u19, u20, u21, u22, u23, u24, u25, u26, u27, u28, u29, u30, u31, u32, u33, u34, u35, u36, u37, u38, u39, u40, u41, u42, u43, u44, u45, u46, u47, u48, u49, u50, u51, u52, u53, u54, u55, u56, u57, u58, u59, u60, u61, u62, u63, rfl, hi, hk, Hp, HC, hj⟩
  refine (wpIn_wide (n := 0)).1 ?_
  have c1 := HC.out.ra.cellv (i := 0) (v := .slice A a.length ca) rfl
  have c2 := HC.out.rb.cellv (i := 0) (v := .slice B b.length cb) rfl
  have c3 := HC.out.rc.cellv (i := 0) (v := .func (.func 46) #[] #[]) rfl
  rw [← Hna.out] at c1
  rw [← Hnb.out] at c2
  by_cases h1 : i < na
  · obtain ⟨x, hx⟩ : ∃ x, a[i]? = some x := ⟨_, List.getElem?_eq_getElem (by have := Hna.out; omega)⟩
    obtain ⟨ad, had, hcx⟩ := mt_at HC.out.hA hx
    subst had
    have Hx := Lib.hid hx
    have hiI : (i : Int) < (na : Int) := by omega
    have hi0 : ((i : Int) == (na : Int)) = false := by simp; omega
    have hi00 : (0 : Int) ≤ (i : Int) := by omega
    clear hx hcx
    by_cases h2 : k < nb
    · obtain ⟨y, hy⟩ : ∃ y, b[k]? = some y := ⟨_, List.getElem?_eq_getElem (by have := Hnb.out; omega)⟩
      obtain ⟨bd, hbd, hcy⟩ := mt_at HC.out.hB hy
      subst hbd
      have Hy := Lib.hid hy
      have hkI : (k : Int) < (nb : Int) := by omega
      have hk00 : (0 : Int) ≤ (k : Int) := by omega
      obtain ⟨z1, z2, z3⟩ := zipN_xy (a := a.map MtV.m) (b := b.map MtV.m) (i := i) (k := k) (x := x.m) (y := y.m) (by rw [List.getElem?_map, Hx.out]; rfl) (by rw [List.getElem?_map, Hy.out]; rfl)
      have Hz1 := Lib.hid z1
      have Hz2 := Lib.hid z2
      have Hz3 := Lib.hid z3
      clear hy hcy z1 z2 z3
      gi_wp2_with fail
      refine wpIn_wide.2 ?_
      obtain ⟨S, hSd⟩ : ∃ S, S = (fun W => ZipC (some ad) (some bd) ca cb a b X ba bb bc W ∧ Below w'.heap.size w' W) := ⟨_, rfl⟩
      have stS : St S := by rw [hSd]; infer_instance
      have T0 : Hid (∀ W, S W → ZipC (some ad) (some bd) ca cb a b X ba bb bc W) := by show ∀ W, _; rw [hSd]; exact fun W h => h.1
      have T1 : Hid (∀ W, S W → Below w'.heap.size w' W) := by show ∀ W, _; rw [hSd]; exact fun W h => h.2
      have hS : S w' := by rw [hSd]; exact ⟨HC.out, Below.refl _ _⟩
      have Hcx : Hid (∀ W, S W → ∀ j u, x.cells[j]? = some u → W.cell? ((ad.add (i * 8)).add j) = some u) := fun W h => by
       obtain ⟨ad', e1, e2⟩ := mt_at (T0.out W h).hA Hx.out
       injection e1 with e1; subst e1; exact e2
      have Hcy : Hid (∀ W, S W → ∀ j u, y.cells[j]? = some u → W.cell? ((bd.add (k * 8)).add j) = some u) := fun W h => by
       obtain ⟨ad', e1, e2⟩ := mt_at (T0.out W h).hB Hy.out
       injection e1 with e1; subst e1; exact e2
      have Hjj := Lib.hid hj
      have Hi2 : Hid (i < na ∧ k < nb) := ⟨h1, h2⟩
      clear hSd c1 c2 c3 hj hiI hi0 hi00 hkI hk00 h1 h2 HC
      refine region_hold S (by kernel_rfl) (by kernel_rfl) (St.drew hS) ?_
      clear hS
      (refine hold_value rfl ?_ (fun W hW => ?_) ?_; rotate_left; (focus (have c := (T0.out W hW).rc.cellv (i := 0) (v := .func (.func 46) #[] #[]) rfl; go_simp; exact rfl)); simp only [Act.put, List.setIfInBounds_toArray, List.set_cons_zero, List.set_cons_succ])
      iterate 2 (refine hold_value rfl ?_ (fun W hW => ?_) ?_; rotate_left; (focus (go_simp; exact rfl)); simp only [Act.put, List.setIfInBounds_toArray, List.set_cons_zero, List.set_cons_succ])
      (refine hold_load_at rfl 47 _ rfl (_) rfl x.cells _ (fun W hW => Hcx.out W hW) Tryz.underlying47 rfl (by kernel_rfl) ?_; simp only [Act.put, List.setIfInBounds_toArray, List.set_cons_zero, List.set_cons_succ])
      iterate 2 (refine hold_value rfl ?_ (fun W hW => ?_) ?_; rotate_left; (focus (go_simp; exact rfl)); simp only [Act.put, List.setIfInBounds_toArray, List.set_cons_zero, List.set_cons_succ])
      (refine hold_load_at rfl 47 _ rfl (_) rfl y.cells _ (fun W hW => Hcy.out W hW) Tryz.underlying47 rfl (by kernel_rfl) ?_; simp only [Act.put, List.setIfInBounds_toArray, List.set_cons_zero, List.set_cons_succ])
      (refine hold_call_new rfl 46 _ (fun W => by (go_simp; try rfl)) (.int .i64 (cmpD x.m.d y.m.d)) (fun W hW => order_any x y W ((T0.out W hW).oa x (List.mem_of_getElem? Hx.out)) ((T0.out W hW).ob y (List.mem_of_getElem? Hy.out))) ?_; simp only [Act.put, List.setIfInBounds_toArray, List.set_cons_zero, List.set_cons_succ])
      (refine hold_value rfl ?_ (fun W hW => ?_) ?_; rotate_left; (focus (go_simp; exact rfl)); simp only [Act.put, List.setIfInBounds_toArray, List.set_cons_zero, List.set_cons_succ])
      refine wpHold_nil fun W hS => ?_
      have hj := abid_below HJ.out Hjj.out (T1.out W hS)
      have HC := Lib.hid (T0.out W hS)
      obtain ⟨d, hd⟩ : ∃ d, d = cmpD x.m.d y.m.d := ⟨_, rfl⟩
      rw [← hd]
      rw [← hd] at Hz1 Hz2 Hz3
      clear hd T0 T1 Hcx Hcy hS Hjj stS S
      by_cases h1 : d < 0
      · have Hz : Hid (pre ++ (some i, none) :: zipN ((a.map MtV.m).drop (i + 1)) ((b.map MtV.m).drop k) (i + 1) k = full) := by
         show _ = _
         rw [← Hp.out, Hz1.out h1]
        have hii := Hi2.out
        clear Hz1 Hz2 Hz3 Hp Hi2
        have hz : ZipP full pre (some i, none) W := ⟨_, Hz.out⟩
        have hlen : pre.length < full.length := by rw [← Hz.out]; simp
        obtain ⟨fn, tmps, assign, body, hy, hR⟩ := HY.out _ (some i, none) _ hj hz hlen
        have hy' : (Instr.yield lb #[.pointer (some (ad.add (i * 8))), .pointer none]).run Tryz.prog W = .ok (.round lb fn tmps assign body) W := hy
        have HR := Lib.hid hR
        have HC9 := Lib.hid HC.out
        clear hy hR hz hlen hj HC
        gi_wp2_with fail
        refine ⟨rfl, HR.out.mono ?_⟩
        clear hy' HR
        rintro e W2 (⟨rfl, hj, hk2⟩ | ⟨rfl, hjx, -⟩)
        rotate_left
        · gi_wp2_with fail
          simp only [Exit.jump]
          refine bodyPost_end (results_none rfl _ _ _) rfl ?_
          exact ⟨⟨_, rfl⟩, .inr ⟨_, hjx⟩⟩
        have HC2 := Lib.hid (HC9.out.kx hk2)
        have Hp2 : Hid ((pre ++ [(some i, none)]) ++ zipN ((a.map MtV.m).drop (i + 1)) ((b.map MtV.m).drop k) (i + 1) k = full) := by show _ = _; rw [← Hz.out, List.append_assoc]; rfl
        clear hk2 HC9 Hz
        gi_wp2_with fail
        refine wpIn_wide.2 (wp_goto ?_)
        refine ⟨rfl, ⟨(i + 1), k, pre ++ [(some i, none)], ?_⟩, ?_⟩
        · repeat apply Exists.intro
          exact ⟨rfl, by omega, by omega, Hp2, HC2, hj⟩
        · simp [intOf]; omega
      by_cases h2 : 0 < d
      · have Hz : Hid (pre ++ (none, some k) :: zipN ((a.map MtV.m).drop i) ((b.map MtV.m).drop (k + 1)) i (k + 1) = full) := by
         show _ = _
         rw [← Hp.out, Hz2.out h2]
        have hii := Hi2.out
        clear Hz1 Hz2 Hz3 Hp Hi2
        have hz : ZipP full pre (none, some k) W := ⟨_, Hz.out⟩
        have hlen : pre.length < full.length := by rw [← Hz.out]; simp
        obtain ⟨fn, tmps, assign, body, hy, hR⟩ := HY.out _ (none, some k) _ hj hz hlen
        have hy' : (Instr.yield lb #[.pointer none, .pointer (some (bd.add (k * 8)))]).run Tryz.prog W = .ok (.round lb fn tmps assign body) W := hy
        have HR := Lib.hid hR
        have HC9 := Lib.hid HC.out
        clear hy hR hz hlen hj HC
        gi_wp2_with fail
        refine ⟨rfl, HR.out.mono ?_⟩
        clear hy' HR
        rintro e W2 (⟨rfl, hj, hk2⟩ | ⟨rfl, hjx, -⟩)
        rotate_left
        · gi_wp2_with fail
          simp only [Exit.jump]
          refine bodyPost_end (results_none rfl _ _ _) rfl ?_
          exact ⟨⟨_, rfl⟩, .inr ⟨_, hjx⟩⟩
        have HC2 := Lib.hid (HC9.out.kx hk2)
        have Hp2 : Hid ((pre ++ [(none, some k)]) ++ zipN ((a.map MtV.m).drop i) ((b.map MtV.m).drop (k + 1)) i (k + 1) = full) := by show _ = _; rw [← Hz.out, List.append_assoc]; rfl
        clear hk2 HC9 Hz
        gi_wp2_with fail
        refine wpIn_wide.2 (wp_goto ?_)
        refine ⟨rfl, ⟨i, (k + 1), pre ++ [(none, some k)], ?_⟩, ?_⟩
        · repeat apply Exists.intro
          exact ⟨rfl, by omega, by omega, Hp2, HC2, hj⟩
        · simp [intOf]; omega
      · have Hz : Hid (pre ++ (some i, some k) :: zipN ((a.map MtV.m).drop (i + 1)) ((b.map MtV.m).drop (k + 1)) (i + 1) (k + 1) = full) := by
         show _ = _
         rw [← Hp.out, Hz3.out (by omega)]
        have hii := Hi2.out
        clear Hz1 Hz2 Hz3 Hp Hi2
        have hz : ZipP full pre (some i, some k) W := ⟨_, Hz.out⟩
        have hlen : pre.length < full.length := by rw [← Hz.out]; simp
        obtain ⟨fn, tmps, assign, body, hy, hR⟩ := HY.out _ (some i, some k) _ hj hz hlen
        have hy' : (Instr.yield lb #[.pointer (some (ad.add (i * 8))), .pointer (some (bd.add (k * 8)))]).run Tryz.prog W = .ok (.round lb fn tmps assign body) W := hy
        have HR := Lib.hid hR
        have HC9 := Lib.hid HC.out
        clear hy hR hz hlen hj HC
        gi_wp2_with fail
        refine ⟨rfl, HR.out.mono ?_⟩
        clear hy' HR
        rintro e W2 (⟨rfl, hj, hk2⟩ | ⟨rfl, hjx, -⟩)
        rotate_left
        · gi_wp2_with fail
          simp only [Exit.jump]
          refine bodyPost_end (results_none rfl _ _ _) rfl ?_
          exact ⟨⟨_, rfl⟩, .inr ⟨_, hjx⟩⟩
        have HC2 := Lib.hid (HC9.out.kx hk2)
        have Hp2 : Hid ((pre ++ [(some i, some k)]) ++ zipN ((a.map MtV.m).drop (i + 1)) ((b.map MtV.m).drop (k + 1)) (i + 1) (k + 1) = full) := by show _ = _; rw [← Hz.out, List.append_assoc]; rfl
        clear hk2 HC9 Hz
        gi_wp2_with fail
        refine wpIn_wide.2 (wp_goto ?_)
        refine ⟨rfl, ⟨(i + 1), (k + 1), pre ++ [(some i, some k)], ?_⟩, ?_⟩
        · repeat apply Exists.intro
          exact ⟨rfl, by omega, by omega, Hp2, HC2, hj⟩
        · simp [intOf]; omega
    · obtain rfl : k = nb := by omega
      have hkI : ¬ ((k : Int) < (k : Int)) := by omega
      have Hz : Hid (pre ++ (some i, none) :: zipN ((a.map MtV.m).drop (i + 1)) ((b.map MtV.m).drop k) (i + 1) k = full) := by
       show _ = _
       rw [← Hp.out, zipN_x (a := a.map MtV.m) (b := b.map MtV.m) (i := i) (k := k) (by rw [List.length_map]; have := Hna.out; omega) (by rw [List.length_map]; have := Hnb.out; omega)]
      clear h2 Hp
      have hz : ZipP full pre (some i, none) w' := ⟨_, Hz.out⟩
      have hlen : pre.length < full.length := by rw [← Hz.out]; simp
      obtain ⟨fn, tmps, assign, body, hy, hR⟩ := HY.out _ (some i, none) _ hj hz hlen
      have hy' : (Instr.yield lb #[.pointer (some (ad.add (i * 8))), .pointer none]).run Tryz.prog w' = .ok (.round lb fn tmps assign body) w' := hy
      have HR := Lib.hid hR
      have HC9 := Lib.hid HC.out
      clear hy hR hz hlen hj HC
      gi_wp2_with fail
      refine ⟨rfl, HR.out.mono ?_⟩
      clear hy' HR
      rintro e W2 (⟨rfl, hj, hk2⟩ | ⟨rfl, hjx, -⟩)
      rotate_left
      · gi_wp2_with fail
        simp only [Exit.jump]
        refine bodyPost_end (results_none rfl _ _ _) rfl ?_
        exact ⟨⟨_, rfl⟩, .inr ⟨_, hjx⟩⟩
      have HC2 := Lib.hid (HC9.out.kx hk2)
      have Hp2 : Hid ((pre ++ [(some i, none)]) ++ zipN ((a.map MtV.m).drop (i + 1)) ((b.map MtV.m).drop k) (i + 1) k = full) := by show _ = _; rw [← Hz.out, List.append_assoc]; rfl
      clear hk2 HC9 Hz
      gi_wp2_with fail
      refine wpIn_wide.2 (wp_goto ?_)
      refine ⟨rfl, ⟨(i + 1), k, pre ++ [(some i, none)], ?_⟩, ?_⟩
      · repeat apply Exists.intro
        exact ⟨rfl, by omega, by omega, Hp2, HC2, hj⟩
      · simp [intOf]; omega
  · obtain rfl : i = na := by omega
    have hiI : ¬ ((i : Int) < (i : Int)) := by omega
    have hi0 : ((i : Int) == (i : Int)) = true := by simp
    by_cases h2 : k < nb
    · obtain ⟨y, hy⟩ : ∃ y, b[k]? = some y := ⟨_, List.getElem?_eq_getElem (by have := Hnb.out; omega)⟩
      obtain ⟨bd, hbd, hcy⟩ := mt_at HC.out.hB hy
      subst hbd
      have hkI : (k : Int) < (nb : Int) := by omega
      have hk0 : ((k : Int) == (nb : Int)) = false := by simp; omega
      have hk00 : (0 : Int) ≤ (k : Int) := by omega
      have Hz : Hid (pre ++ (none, some k) :: zipN ((a.map MtV.m).drop i) ((b.map MtV.m).drop (k + 1)) i (k + 1) = full) := by
       show _ = _
       rw [← Hp.out, zipN_y (a := a.map MtV.m) (b := b.map MtV.m) (i := i) (k := k) (by rw [List.length_map]; have := Hna.out; omega) (by rw [List.length_map]; have := Hnb.out; omega)]
      clear hy hcy Hp h1
      have hz : ZipP full pre (none, some k) w' := ⟨_, Hz.out⟩
      have hlen : pre.length < full.length := by rw [← Hz.out]; simp
      obtain ⟨fn, tmps, assign, body, hy, hR⟩ := HY.out _ (none, some k) _ hj hz hlen
      have hy' : (Instr.yield lb #[.pointer none, .pointer (some (bd.add (k * 8)))]).run Tryz.prog w' = .ok (.round lb fn tmps assign body) w' := hy
      have HR := Lib.hid hR
      have HC9 := Lib.hid HC.out
      clear hy hR hz hlen hj HC
      gi_wp2_with fail
      refine ⟨rfl, HR.out.mono ?_⟩
      clear hy' HR
      rintro e W2 (⟨rfl, hj, hk2⟩ | ⟨rfl, hjx, -⟩)
      rotate_left
      · gi_wp2_with fail
        simp only [Exit.jump]
        refine bodyPost_end (results_none rfl _ _ _) rfl ?_
        exact ⟨⟨_, rfl⟩, .inr ⟨_, hjx⟩⟩
      have HC2 := Lib.hid (HC9.out.kx hk2)
      have Hp2 : Hid ((pre ++ [(none, some k)]) ++ zipN ((a.map MtV.m).drop i) ((b.map MtV.m).drop (k + 1)) i (k + 1) = full) := by show _ = _; rw [← Hz.out, List.append_assoc]; rfl
      clear hk2 HC9 Hz
      gi_wp2_with fail
      refine wpIn_wide.2 (wp_goto ?_)
      refine ⟨rfl, ⟨i, (k + 1), pre ++ [(none, some k)], ?_⟩, ?_⟩
      · repeat apply Exists.intro
        exact ⟨rfl, by omega, by omega, Hp2, HC2, hj⟩
      · simp [intOf]; omega
    · obtain rfl : k = nb := by omega
      have hk0 : ((k : Int) == (k : Int)) = true := by simp
      have Hz : Hid (pre = full) := by
       show _ = _
       have := Hp.out
       rw [zipN_0 (a := a.map MtV.m) (b := b.map MtV.m) (i := i) (k := k) (by rw [List.length_map]; have := Hna.out; omega) (by rw [List.length_map]; have := Hnb.out; omega), List.append_nil] at this
       exact this
      clear Hp
      gi_wp2_with fail
      simp only [Exit.jump]
      refine bodyPost_ret (results_none rfl _ _ _) rfl ?_
      exact ⟨⟨_, rfl⟩, .inl (Hz.out ▸ hj)⟩
end Go.Proofs.YtcgglolckkeeiaaGreat
