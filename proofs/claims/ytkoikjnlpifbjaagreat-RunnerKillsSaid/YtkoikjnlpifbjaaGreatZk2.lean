/- Lemmas for RunnerKillsP. -/
import Derived.Test.YtkoikjnlpifbjaaGreatZk1
import Derived.Test.YtkoikjnlpifbjaaGreatRows
import Derived.Defers
import Derived.Laws.Pointers
import Derived.Laws.LoneSync
import Derived.RegionTactic
import Derived.RegionCalls
set_option linter.unusedVariables false
set_option linter.unusedSimpArgs false
set_option maxRecDepth 100000
set_option maxHeartbeats 16000000
namespace Go.Proofs.YtkoikjnlpifbjaaGreat
open Go.ChangeShapes Go.WideShapes Go.RowKit Go.Deep
theorem Aa6:Tryz.prog.cellsOf 3=1:=by kernel_rfl
section
variable {H:Type} {enc:TypeId×Value->H} {w:World} {base:Nat} {spare:Nat->Bool} {held:Bool}
def RunV.val (r:RunV):Value:=.agg #[.int .i64 r.kind,.int .i64 r.value,.int .i64 r.steps,.slice r.addr r.evs.length r.cap]
structure RunV.ok (r:RunV)(w:World):Prop where
 kind:InI r.kind
 value:InI r.value
 steps:InI r.steps
 len:r.evs.length<=r.cap
 cap:r.cap<=maxLen
 nil:r.addr=none->r.cap=0
 reads:Rd w r.addr (r.evs.flatMap EvV.cells)
 evs:∀e∈r.evs,e.ok
end
end Go.Proofs.YtkoikjnlpifbjaaGreat
namespace Go.Proofs.YtkoikjnlpifbjaaGreat
open Go.RowKit Go.Deep
theorem UM (w:World):(callFunc 201 #[]).run Tryz.prog w=.ok (.value (.tuple #[])) w:=run_call_mark0 Tryz.func201 (by kernel_rfl) (by kernel_rfl) (by kernel_rfl) .disable (by kernel_rfl) w
theorem VN (w:World):(callFunc 203 #[]).run Tryz.prog w=.ok (.value (.tuple #[])) w:=run_call_mark0 Tryz.func203 (by kernel_rfl) (by kernel_rfl) (by kernel_rfl) .enable (by kernel_rfl) w
theorem Acc (a:Addr)(w:World):(callFunc 204 #[.pointer (some a)]).run Tryz.prog w=.ok (.value (.tuple #[])) w:=run_call_marked Tryz.func204 (by kernel_rfl) (by kernel_rfl) (by kernel_rfl) .acquire (by kernel_rfl) a w
theorem UN (a:Addr)(w:World):(callFunc 206 #[.pointer (some a)]).run Tryz.prog w=.ok (.value (.tuple #[])) w:=run_call_marked Tryz.func206 (by kernel_rfl) (by kernel_rfl) (by kernel_rfl) .releaseMerge (by kernel_rfl) a w
theorem YJ (a:Addr)(x:Value)(u:FrameMode)(w:World)(hc:w.cell? a=some x)(hz:w.frozen? a=false):
 CallsD Tryz.prog 143 #[.pointer (some a),.bool true] u w λe u' w'=>u'=u/\(e=.returned (.tuple #[])/\w'=w.drew.setCell a (.int .u32 1)):=by
 have c:w.drew.cell? a=some x:=by go_simp
 have d:w.drew.frozen? a=false:=by go_simp
 have g:=run_call_store (P:=Tryz.prog) Tryz.func177 (by kernel_rfl) (by kernel_rfl) (by kernel_rfl) (by kernel_rfl) (k:=.u32) (y:=1) c d;go_enter_d Tryz.func143,Tryz.ntmps143
 go_wp2
 go_region_calls
 all_goals(go_end0;exact⟨rfl,rfl⟩)
theorem Acw (a:Addr)(w:World)(hc:w.cell? a=some (.int .i32 1))(hz:w.frozen? a=false):
 Calls Tryz.prog 176 #[.pointer (some a)] w λe w'=>e=.returned (.tuple #[])/\w'=w.setCell a (.int .i32 0):=by
 have g:=UM;have h:=VN;have i:=UN;have c:=run_call_add (P:=Tryz.prog) Tryz.func207 (by kernel_rfl) (by kernel_rfl) (by kernel_rfl) .i32 (by kernel_rfl) (y:= -1) (s:=0) hc hz (by simp[go_sem];rfl);have d:=run_convert_to_unsafe (P:=Tryz.prog) (src:=288) (dst:=292) Tryz.underlying288 Tryz.underlying292 (by kernel_rfl) hc;go_enter Tryz.func176,Tryz.ntmps176
 go_wp2
 first|go_end0|go_ret
 exact⟨rfl,rfl⟩
theorem Ae7 (a:Addr)(w:World)(hc:w.cell? a=some (.int .i32 0))(hz:w.frozen? a=false):
 Calls Tryz.prog 175 #[.pointer (some a)] w λe w'=>e=.returned (.tuple #[])/\w'=w.setCell a (.int .i32 1):=by
 have i:=UM;have j:=VN;have h:=Acc;have d:=run_call_cas_hit (P:=Tryz.prog) Tryz.func202 (by kernel_rfl) (by kernel_rfl) (by kernel_rfl) .i32 (by kernel_rfl) (y:=1) hc hz;have c:(w.setCell a (.int .i32 1)).cell? a=some (.int .i32 1):=World.cell?_setCell_same w a _ hc;have g:=run_convert_to_unsafe (P:=Tryz.prog) (src:=288) (dst:=292) Tryz.underlying288 Tryz.underlying292 (by kernel_rfl) c;go_enter Tryz.func175,Tryz.ntmps175
 go_wp2
 first|go_end0| (simp only[Exit.inBlock,Exit.then];refine bodyPost_ret (results_none rfl _ _ _) rfl ?_)|refine bodyPost_ret (results_none rfl _ _ _) rfl ?_
 exact⟨rfl,rfl⟩
theorem Abs (a:Addr)(w:World)(hc:w.cell? a=some (.int .i32 0))(hz:w.frozen? a=false):
 Calls Tryz.prog 141 #[.pointer (some a)] w λe w'=>e=.returned (.tuple #[])/\w'=w.setCell a (.int .i32 1):=by
 have c:=Lh (Ae7 a w hc hz);clear hc hz;go_enter Tryz.func141,Tryz.ntmps141
 go_wp2_with fail
 refine c.out.mono ?_;rintro e d ⟨rfl,rfl⟩;go_wp2
 first|go_end0|go_ret
 exact⟨rfl,rfl⟩
theorem Yr (a:Addr)(u:FrameMode)(w:World)(hc:w.cell? a=some (.int .i32 1))(hz:w.frozen? a=false):
 CallsD Tryz.prog 142 #[.pointer (some a)] u w λe u' w'=>u'=u/\(e=.returned (.tuple #[])/\w'=w.setCell a (.int .i32 0)):=by
 have c:=Lh (Acw a w hc hz);clear hc hz;go_enter_d Tryz.func142,Tryz.ntmps142
 go_wp2_with fail
 refine c.out.mono ?_;rintro e d ⟨rfl,rfl⟩;go_wp2
 first|go_end0|go_ret
 exact⟨rfl,rfl⟩
end Go.Proofs.YtkoikjnlpifbjaaGreat
