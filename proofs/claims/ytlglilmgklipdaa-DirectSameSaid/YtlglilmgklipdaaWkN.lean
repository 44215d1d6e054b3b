/- The documents' two small programs as values: what they come to. Conditions: stated in each theorem. -/
import Derived.Test.YtlglilmgklipdaaMlB
namespace Go.Proofs.Ytlglilmgklipdaa
set_option linter.unusedVariables false
open Go.RowKit Go.Deep

theorem rd_row {W : World} {g : Nat} {t : TypeId} {cs : List Value} (h : Row W g t cs.toArray) : Rd W (some ⟨g, 0, none⟩) cs := fun j u hj => ⟨_, rfl, by
  have := h.cellv (i := j) (v := u) (by simpa using hj)
  unfold Addr.add
  by_cases h0 : j = 0
  · subst h0; exact this
  · rw [if_neg h0]; simpa using this⟩
def litP (params : Int) (V : List Int) (body : List Nd) (g1 g2 : Nat) : PgV := ⟨params, some ⟨g1, 0, none⟩, V.length, V, some ⟨g2, 0, none⟩, body.length, body⟩
theorem litP_ok {params : Int} {V : List Int} {body : List Nd} {g1 g2 : Nat} {W : World} (hp : InI params) (hv : ∀ t ∈ V, InI t) (hb : ∀ x ∈ body, InI x.tag ∧ InI x.n) (h1 : V.length ≤ maxLen) (h2 : body.length ≤ maxLen)
    (r1 : Row W g1 3 (ints V).toArray) (r2 : Row W g2 44 (body.flatMap Nd.cells).toArray) : (litP params V body g1 g2).ok W :=
  ⟨hp, Nat.le_refl _, h1, fun h => (by cases h), rd_row r1, hv, Nat.le_refl _, h2, fun h => (by cases h), rd_row r2, hb⟩
def bodyW : List Nd := [⟨20, 1⟩, ⟨25, 0⟩, ⟨7, 0⟩, ⟨3, 0⟩, ⟨1, 1⟩]
def bodyX : List Nd := [⟨20, 1⟩, ⟨21, 0⟩, ⟨1, 7⟩]
def treeW : Tr := .node ⟨20, 1⟩ [.node ⟨25, 0⟩ [.node ⟨7, 0⟩ [.node ⟨3, 0⟩ [], .node ⟨1, 1⟩ []]]]
def treeX : Tr := .node ⟨20, 1⟩ [.node ⟨21, 0⟩ [.node ⟨1, 7⟩ []]]
def pW (g1 g2 : Nat) : PgV := litP 1 [0] bodyW g1 g2
def pX (g1 g2 : Nat) : PgV := litP 0 [0] bodyX g1 g2
def pZ : PgV := ⟨0, none, 0, [], none, 0, []⟩
theorem pW_ok {g1 g2 : Nat} {W : World} (r1 : Row W g1 3 (ints [0]).toArray) (r2 : Row W g2 44 (bodyW.flatMap Nd.cells).toArray) : (pW g1 g2).ok W :=
  litP_ok (by unfold InI; omega) (by simp [InI]) (by simp [bodyW, InI]) (by unfold maxLen; simp) (by unfold maxLen; simp [bodyW]) r1 r2
theorem pX_ok {g1 g2 : Nat} {W : World} (r1 : Row W g1 3 (ints [0]).toArray) (r2 : Row W g2 44 (bodyX.flatMap Nd.cells).toArray) : (pX g1 g2).ok W :=
  litP_ok (by unfold InI; omega) (by simp [InI]) (by simp [bodyX, InI]) (by unfold maxLen; simp) (by unfold maxLen; simp [bodyX]) r1 r2
theorem pZ_ok (W : World) : pZ.ok W := ⟨by unfold InI pZ; dsimp only; omega, Nat.le_refl _, Nat.zero_le _, fun _ => rfl, Rd.nil _ _, by simp [pZ], Nat.le_refl _, Nat.zero_le _, fun _ => rfl, Rd.nil _ _, by simp [pZ]⟩
theorem treeW_fits : treeW.fits := by
  refine .mk _ _ (by rfl) (fun k hk => ?_)
  rw [List.mem_singleton.1 hk]
  refine .mk _ _ (by rfl) (fun k hk => ?_)
  rw [List.mem_singleton.1 hk]
  refine .mk _ _ (by rfl) (fun k hk => ?_)
  simp only [List.mem_cons, List.not_mem_nil, or_false] at hk
  rcases hk with rfl | rfl
  · exact .mk _ _ (by rfl) (fun k hk => by simp at hk)
  · exact .mk _ _ (by rfl) (fun k hk => by simp at hk)
theorem treeX_fits : treeX.fits := by
  refine .mk _ _ (by rfl) (fun k hk => ?_)
  rw [List.mem_singleton.1 hk]
  refine .mk _ _ (by rfl) (fun k hk => ?_)
  rw [List.mem_singleton.1 hk]
  exact .mk _ _ (by rfl) (fun k hk => by simp at hk)
theorem goodW (g1 g2 : Nat) : Good (pW g1 g2) treeW := ⟨⟨treeW_fits, [], by rfl⟩, by rfl, by show varsOk 1 [0]; decide, rfl, by show ofT [0] treeW = 2; decide +kernel⟩
theorem goodX (g1 g2 : Nat) : Good (pX g1 g2) treeX := ⟨⟨treeX_fits, [], by rfl⟩, by rfl, by show varsOk 0 [0]; decide, rfl, by show ofT [0] treeX = 2; decide +kernel⟩
theorem badZ (t : Tr) : ¬ Good pZ t := not_good_nil rfl t
theorem checkW (g1 g2 n : Nat) (fuel : Int) : checkZ (pW g1 g2) n fuel = if (n : Int) ≠ 1 then 18 else if fuel < 0 ∨ 10000 < fuel then 19 else 0 := checkZ_good (goodW g1 g2)
theorem checkX (g1 g2 n : Nat) (fuel : Int) : checkZ (pX g1 g2) n fuel = if (n : Int) ≠ 0 then 18 else if fuel < 0 ∨ 10000 < fuel then 19 else 0 := checkZ_good (goodX g1 g2)
theorem check_Z (n : Nat) (fuel : Int) : checkZ pZ n fuel = 23 := checkZ_no badZ
theorem run_lit {p : PgV} {t : Tr} {args : List Int} {fuel v : Int} {s : Ms} {w : World} (hok : p.ok w) (hin : ∀ a ∈ args, InI a) (hc : checkZ p args.length fuel = 0) (hg : Good p t) (he : evG (fuel.toNat + 1) (.one t) (initS p.V args fuel.toNat) = (v, s)) : runZ p args fuel = s.stopped 3 0 := by
  obtain ⟨t', v', s', hk⟩ := runZ_is hok hin hc
  have := hk.good.hat.uniq hg.hat
  subst this
  have h1 := hk.big.ev (fuel.toNat + 1) (by simp [initS])
  rw [he] at h1
  have h2 : s = s' := congrArg Prod.snd h1
  rw [hk.eq, h2]
theorem runW5 {g1 g2 : Nat} {w : World} (h : (pW g1 g2).ok w) : runZ (pW g1 g2) [4] 5 = ⟨[4], [[]], 0, 5, [], some (0, 5)⟩ := by
  rw [run_lit h (by simp [InI]) (by rw [checkW]; rfl) (goodW g1 g2) (v := 0) (s := ⟨[4], [[]], 0, 5, [], some (0, 5)⟩) (by kernel_rfl)]; rfl
theorem runW4 {g1 g2 : Nat} {w : World} (h : (pW g1 g2).ok w) : runZ (pW g1 g2) [4] 4 = ⟨[4], [[]], 0, 4, [], some (4, 0)⟩ := by
  rw [run_lit h (by simp [InI]) (by rw [checkW]; rfl) (goodW g1 g2) (v := 0) (s := ⟨[4], [[]], 0, 4, [], some (4, 0)⟩) (by kernel_rfl)]; rfl
theorem runX9 {g1 g2 : Nat} {w : World} (h : (pX g1 g2).ok w) : runZ (pX g1 g2) [] 9 = ⟨[7], [[]], 6, 3, [⟨0, -1, 7⟩], some (3, 0)⟩ := by
  rw [run_lit h (by simp) (by rw [checkX]; rfl) (goodX g1 g2) (v := 0) (s := ⟨[7], [[]], 6, 3, [⟨0, -1, 7⟩], none⟩) (by kernel_rfl)]; rfl
theorem runWn {g1 g2 : Nat} {fuel : Int} : runZ (pW g1 g2) [] fuel = zeroS := runZ_no (by rw [checkW]; simp)
theorem runZn {fuel : Int} : runZ pZ [] fuel = zeroS := runZ_no (by rw [check_Z]; omega)
theorem info_i : (Try.prog.info? 3).map (fun i => (i.zero, i.size)) = some (some (.int .i64 0), 1) := by kernel_rfl
theorem info_n : (Try.prog.info? 44).map (fun i => (i.zero, i.size)) = some (some (.agg #[.int .i64 0, .int .i64 0]), 2) := by kernel_rfl
theorem info_e : (Try.prog.info? 41).map (fun i => (i.zero, i.size)) = some (some (.agg #[.int .i64 0, .int .i64 0, .int .i64 0]), 3) := by kernel_rfl
theorem zero_prog {w : World} : (zeroValue 25).run Try.prog w = .ok (.agg #[.int .i64 0, .slice none 0 0, .slice none 0 0]) w := by kernel_rfl
theorem prog_one (p : PgV) : p.cells.all (·.oneCell') = true := by simp [PgV.cells, Value.oneCell']
end Go.Proofs.Ytlglilmgklipdaa
