/- Lemmas for ArAll. -/
import Derived.Test.YtgnmkiafeplbpaaGreatDoorZf1
import Derived.Test.YtgnmkiafeplbpaaGreatDoorZf39
import Derived.Test.YtgnmkiafeplbpaaGreatDoorZf40
import Derived.Test.YtgnmkiafeplbpaaGreatDoorZf41
import Derived.Test.YtgnmkiafeplbpaaGreatDoorZf21
import Derived.Test.YtgnmkiafeplbpaaGreatDoorZf27
import Derived.Test.YtgnmkiafeplbpaaGreatDoorProg
import Derived.WalkKit
import Derived.LaidEql
import Derived.Stop.Asserts
import Derived.RowKitTokens
set_option linter.unusedVariables false
set_option linter.unusedSimpArgs false
set_option maxRecDepth 100000
set_option maxHeartbeats 16000000
namespace Go.Proofs.YtgnmkiafeplbpaaGreatDoor
open Go.RowKit Go.Extern.Stop Go.Stop Go.Extern
theorem Amg (t:Value)(w:World):
 Calls Tryz.prog 46 #[.nilIface,t] w λe w'=>e=.returned (.bool false)/\w=w':=by
 go_enter Tryz.func46,Tryz.ntmps46
 go_wp2
 go_ret
 exact⟨rfl,rfl⟩
def ErrG (W:World):Prop:=W.cell? ⟨0,0,none⟩=some (.iface 225 (.agg #[.pointer (some ⟨1,72,none⟩)]))
theorem AdG (t:Addr)(w:World):(ReflectliteValue.unpack (.iface 73 (.pointer (some t)))).run Tryz.prog w
 =.ok (.agg #[.pointer (some ⟨1,73,none⟩),.pointer (some ⟨w.heap.size,0,none⟩),.int .u64 150]) (w.alloc (.cells #[.pointer (some t)] 73)):=by kernel_rfl
theorem AiE (a:Addr)(w:World):(ReflectliteValue.methodAny (ReflectliteValue.valueError "reflectlite.Value.Type" 0) (λt _ _ _=>ReflectliteType.toType t) #[.agg #[.pointer (some ⟨1,73,none⟩),.pointer (some a),.int .u64 150]]).run Tryz.prog w
 =.ok (.iface 225 (.agg #[.pointer (some ⟨1,73,none⟩)])) w:=by kernel_rfl
theorem Ac2 (f:Nat)(h:Value)(w:World):(Go.method (f+1) 225 (.agg #[h]) "Kind").run Tryz.prog w=.ok (336,h) w:=by kernel_rfl
theorem AiD (w:World):((ReflectliteType.abiMethod λt=>(λa:Nat=>Value.int IntKind.u8 (a:Int))<$>Rtype.kind t) #[.pointer (some ⟨1,73,none⟩)]).run Tryz.prog w=.ok (.int .u8 22) w:=by kernel_rfl
theorem AiC (w:World):((ReflectliteType.abiMethod λt=>(λa:Nat=>Value.int IntKind.u8 (a:Int))<$>Rtype.kind t) #[.pointer (some ⟨1,69,none⟩)]).run Tryz.prog w=.ok (.int .u8 22) w:=by kernel_rfl
theorem rlm (z:Sem Value)(f:TypeId->Addr->Nat->Nat->Sem Value)(v:Value):
 ReflectliteValue.method z f #[v]=(do match<-ReflectliteValue.parts v with|none=>z|some (t,a,fl)=>f t a fl (fl % 32)):=rfl
theorem AbW (a:Addr)(w:World):(ReflectliteValue.parts (.agg #[.pointer (some ⟨1,73,none⟩),.pointer (some a),.int .u64 150])).run Tryz.prog w=.ok (some (73,a,150)) w:=by kernel_rfl
theorem Ahh (a p:Addr)(W:World)(ha:W.cell? a=some (.pointer (some p))):
 (ReflectliteValue.method (ReflectliteValue.valueError "reflectlite.Value.IsNil" 0) ReflectliteValue.isNil #[.agg #[.pointer (some ⟨1,73,none⟩),.pointer (some a),.int .u64 150]]).run Tryz.prog W=.ok (.bool false) W:=by
 rw[rlm];simp only[Sem.run_bind,AbW,Result.andThen];simp[ReflectliteValue.isNil,loadVar,isAgg,underlying,Tryz.underlying73,ha,Result.andThen]
theorem Ac1 (f:Nat)(h:Value)(w:World):(Go.method (f+1) 225 (.agg #[h]) "Elem").run Tryz.prog w=.ok (348,.agg #[h]) w:=by kernel_rfl
theorem Uw (f:Nat)(h:Value)(w:World):(Go.method (f+1) 225 (.agg #[h]) "Implements").run Tryz.prog w=.ok (349,.agg #[h]) w:=by kernel_rfl
theorem Yx (f:Nat)(h:Value)(w:World):(Go.method (f+1) 225 (.agg #[h]) "AssignableTo").run Tryz.prog w=.ok (346,.agg #[h]) w:=by kernel_rfl
theorem AiB (w:World):(ReflectliteType.method ReflectliteType.elem #[.agg #[.pointer (some ⟨1,73,none⟩)]]).run Tryz.prog w=.ok (.iface 225 (.agg #[.pointer (some ⟨1,69,none⟩)])) w:=by kernel_rfl
theorem Aad (w:World):(ReflectliteType.relation "Implements" ReflectliteType.implements_ #[.agg #[.pointer (some ⟨1,69,none⟩)],.iface 225 (.agg #[.pointer (some ⟨1,72,none⟩)])]).run Tryz.prog w=.ok (.bool true) w:=by kernel_rfl
theorem Afa (v:Value)(w:World):(ReflectliteType.typeOf #[.iface 69 v]).run Tryz.prog w=.ok (.iface 225 (.agg #[.pointer (some ⟨1,69,none⟩)])) w:=by kernel_rfl
theorem Aac (w:World):(ReflectliteType.relation "AssignableTo" ReflectliteType.assignableTo #[.agg #[.pointer (some ⟨1,69,none⟩)],.iface 225 (.agg #[.pointer (some ⟨1,69,none⟩)])]).run Tryz.prog w=.ok (.bool true) w:=by kernel_rfl
theorem AdF (e:Addr)(w:World):(ReflectliteValue.unpack (.iface 69 (.pointer (some e)))).run Tryz.prog w
 =.ok (.agg #[.pointer (some ⟨1,69,none⟩),.pointer (some ⟨w.heap.size,0,none⟩),.int .u64 150]) (w.alloc (.cells #[.pointer (some e)] 69)):=by kernel_rfl
theorem Ae8 (w:World):(Rtype.elem? 73).run Tryz.prog w=.ok (some 69) w:=by kernel_rfl
theorem Amc (p:Addr)(w:World):(ReflectliteValue.mk 69 p ReflectliteValue.flagAddr).run Tryz.prog w=.ok (.agg #[.pointer (some ⟨1,69,none⟩),.pointer (some p),.int .u64 406]) w:=by kernel_rfl
theorem Ahg (a p:Addr)(W:World)(ha:W.cell? a=some (.pointer (some p))):
 (ReflectliteValue.method (ReflectliteValue.valueError "reflectlite.Value.Elem" 0) ReflectliteValue.elem #[.agg #[.pointer (some ⟨1,73,none⟩),.pointer (some a),.int .u64 150]]).run Tryz.prog W
  =.ok (.agg #[.pointer (some ⟨1,69,none⟩),.pointer (some p),.int .u64 406]) W:=by
 rw[rlm];simp only[Sem.run_bind,AbW,Result.andThen];simp[ReflectliteValue.elem,loadVar,isAgg,underlying,Tryz.underlying73,ha,Result.andThen,Ae8,Amc]
theorem rls (v x:Value):ReflectliteValue.set #[v,x]=(do
 let (some (dst,a,fl),some (src,b,_)):=(<-ReflectliteValue.parts v, <-ReflectliteValue.parts x)
  |unsupported (.noEntry "extern/(internal/reflectlite.Value).Set.zeroValue")
 if fl / ReflectliteValue.flagAddr % 2==0 then unsupported (.noEntry "extern/(internal/reflectlite.Value).Set.unaddressable")
 let val<-loadVar src b
 if<-Rtype.directlyAssignable dst src then storeVar dst a val
 else if<-Rtype.implements dst src then
  if (<-Rtype.kind src)==20 then
   match val with
   | .nilIface=>unsupported (.noEntry "extern/reflectlite: a nil value of one interface type handed on as a value of another")
   |_=>storeVar dst a val
  else storeVar dst a (.iface src val)
 else panicString ("reflectlite.Set: value of type " ++(<-Rtype.spelt src)++ " is not assignable to type " ++(<-Rtype.spelt dst))
 pure (.tuple #[])):=rfl
theorem Ae9 (a:Addr)(w:World):(ReflectliteValue.parts (.agg #[.pointer (some ⟨1,69,none⟩),.pointer (some a),.int .u64 406])).run Tryz.prog w=.ok (some (69,a,406)) w:=by kernel_rfl
theorem Ahi (a:Addr)(w:World):(ReflectliteValue.parts (.agg #[.pointer (some ⟨1,69,none⟩),.pointer (some a),.int .u64 150])).run Tryz.prog w=.ok (some (69,a,150)) w:=by kernel_rfl
theorem Ae7 (w:World):(Rtype.directlyAssignable 69 69).run Tryz.prog w=.ok true w:=by kernel_rfl
theorem AkJ (ta b e:Addr)(old:Value)(W:World)(hb:W.cell? b=some (.pointer (some e)))(ht:W.cell? ta=some old)(hf:W.frozen? ta=false):
 (ReflectliteValue.set #[.agg #[.pointer (some ⟨1,69,none⟩),.pointer (some ta),.int .u64 406],.agg #[.pointer (some ⟨1,69,none⟩),.pointer (some b),.int .u64 150]]).run Tryz.prog W
  =.ok (.tuple #[]) (W.setCell ta (.pointer (some e))):=by
 rw[rls];simp only[Sem.run_bind,Ae9,Ahi,Result.andThen];simp[ReflectliteValue.flagAddr,loadVar,isAgg,underlying,Tryz.underlying69,hb,Result.andThen,Ae7,storeVar,Value.cells,storeCells,Addr.add];rw[run_store Tryz.prog W ta _ _ (by rfl)];simp[ht,hf]
theorem Amf (e t:Addr)(old:Value)(w:World)(hg:ErrG w)(ht0:w.cell? t=some old)(hf0:w.frozen? t=false):
 Calls Tryz.prog 46 #[.iface 69 (.pointer (some e)),.iface 73 (.pointer (some t))] w λev w'=>ev=.returned (.bool true)/\w'=((((w.alloc (.cells #[.pointer (some t)] 73)).alloc (.cells #[.pointer (some ⟨1,73,none⟩),.pointer (some ⟨w.heap.size,0,none⟩),.int .u64 150] 144)).alloc (.cells #[.pointer (some ⟨1,73,none⟩),.pointer (some ⟨w.heap.size,0,none⟩),.int .u64 150] 144)).alloc (.cells #[.pointer (some e)] 69)).setCell t (.pointer (some e)):=by
 have h6:=@run_callFunc_extern Tryz.prog 116 _ (λa=>ReflectliteValue.unpack (a.getD 0 (.tuple #[]))) Tryz.func116 (by kernel_rfl) (by kernel_rfl) (by kernel_rfl) (by kernel_rfl);have h7:=@run_callFunc_extern Tryz.prog 117 _ (ReflectliteValue.methodAny (ReflectliteValue.valueError "reflectlite.Value.Type" 0) (λt _ _ _=>ReflectliteType.toType t)) Tryz.func117 (by kernel_rfl) (by kernel_rfl) (by kernel_rfl) (by kernel_rfl);have h8:=@run_callFunc_extern Tryz.prog 118 _ (ReflectliteValue.method (ReflectliteValue.valueError "reflectlite.Value.IsNil" 0) ReflectliteValue.isNil) Tryz.func118 (by kernel_rfl) (by kernel_rfl) (by kernel_rfl) (by kernel_rfl);have m:=@run_callFunc_extern Tryz.prog 336 _ (ReflectliteType.abiMethod λt=>do pure (.int .u8 (<-Rtype.kind t))) Tryz.func336 (by kernel_rfl) (by kernel_rfl) (by kernel_rfl) (by kernel_rfl);have o:=@run_callFunc_extern Tryz.prog 348 _ (ReflectliteType.method ReflectliteType.elem) Tryz.func348 (by kernel_rfl) (by kernel_rfl) (by kernel_rfl) (by kernel_rfl);have p:=@run_callFunc_extern Tryz.prog 349 _ (ReflectliteType.relation "Implements" ReflectliteType.implements_) Tryz.func349 (by kernel_rfl) (by kernel_rfl) (by kernel_rfl) (by kernel_rfl);have j:=@run_callFunc_extern Tryz.prog 184 _ ReflectliteType.typeOf Tryz.func184 (by kernel_rfl) (by kernel_rfl) (by kernel_rfl) (by kernel_rfl);have n:=@run_callFunc_extern Tryz.prog 346 _ (ReflectliteType.relation "AssignableTo" ReflectliteType.assignableTo) Tryz.func346 (by kernel_rfl) (by kernel_rfl) (by kernel_rfl) (by kernel_rfl);have k:=@run_callFunc_extern Tryz.prog 185 _ (ReflectliteValue.method (ReflectliteValue.valueError "reflectlite.Value.Elem" 0) ReflectliteValue.elem) Tryz.func185 (by kernel_rfl) (by kernel_rfl) (by kernel_rfl) (by kernel_rfl);have l:=@run_callFunc_extern Tryz.prog 186 _ ReflectliteValue.set Tryz.func186 (by kernel_rfl) (by kernel_rfl) (by kernel_rfl) (by kernel_rfl);have tO:=Afa;have mA:=Yx;have d:=Aac;have x:=AdF;have z:=AdG;have f7:=AiE;have mK:=Ac2;have mE:=Ac1;have mI:=Uw;have v:=AiD;have u:=AiC;have g:=AiB;have s:=Aad;have n8:=Ahh ⟨w.heap.size,0,none⟩ t ((w.alloc (.cells #[.pointer (some t)] 73)).alloc (.cells #[.pointer (some ⟨1,73,none⟩),.pointer (some ⟨w.heap.size,0,none⟩),.int .u64 150] 144)) (by simp);unfold ErrG at hg
 have c:0<w.heap.size:=by
  rcases Nj w.heap.size with i|h
  ·simp[World.cell?,i]at hg
  ·exact h
 have q:((w.alloc (.cells #[.pointer (some t)] 73)).alloc (.cells #[.pointer (some ⟨1,73,none⟩),.pointer (some ⟨w.heap.size,0,none⟩),.int .u64 150] 144)).cell? ⟨0,0,none⟩=some (.iface 225 (.agg #[.pointer (some ⟨1,72,none⟩)])):=by
  rw[World.cell?_alloc_lt _ _ ⟨0,0,none⟩ (by simp),World.cell?_alloc_lt _ _ ⟨0,0,none⟩ c];exact hg
 have b:t.block<w.heap.size:=by
  rcases Nz t.block w.heap.size with h|h
  ·exact h
  ·simp[World.cell?,N0 h]at ht0
 have y:=Ahg ⟨w.heap.size,0,none⟩ t (((w.alloc (.cells #[.pointer (some t)] 73)).alloc (.cells #[.pointer (some ⟨1,73,none⟩),.pointer (some ⟨w.heap.size,0,none⟩),.int .u64 150] 144)).alloc (.cells #[.pointer (some ⟨1,73,none⟩),.pointer (some ⟨w.heap.size,0,none⟩),.int .u64 150] 144)) (by rw[World.cell?_alloc_lt _ _ ⟨w.heap.size,0,none⟩ (by simp;omega)];simp)
 have st:=AkJ t ⟨w.heap.size+1+1+1,0,none⟩ e old ((((w.alloc (.cells #[.pointer (some t)] 73)).alloc (.cells #[.pointer (some ⟨1,73,none⟩),.pointer (some ⟨w.heap.size,0,none⟩),.int .u64 150] 144)).alloc (.cells #[.pointer (some ⟨1,73,none⟩),.pointer (some ⟨w.heap.size,0,none⟩),.int .u64 150] 144)).alloc (.cells #[.pointer (some e)] 69))
  (by rw[World.cell?_alloc_at _ _ _ _ (by simp)];rfl)
  (by rw[World.cell?_alloc_lt _ _ t (by simp;omega),World.cell?_alloc_lt _ _ t (by simp;omega),World.cell?_alloc_lt _ _ t (by simp;omega),World.cell?_alloc_lt _ _ t b];exact ht0)
  (by rw[World.frozen?_alloc_old _ _ t (by simp;omega),World.frozen?_alloc_old _ _ t (by simp;omega),World.frozen?_alloc_old _ _ t (by simp;omega),World.frozen?_alloc_old _ _ t (Nat.ne_of_lt b)];exact hf0)
 go_enter Tryz.func46,Tryz.ntmps46
 go_wp2
 refine wp_loop_rounds 1 ?_;rw[rounds_succ];go_wp2
 go_ret
 exact⟨rfl,rfl⟩
theorem AiJ (e:Addr)(t:Nat)(old:Value)(w:World)(hg:ErrG w)(ht:Row w t 69 #[old]):
 Calls Tryz.prog 46 #[.iface 69 (.pointer (some e)),.iface 73 (.pointer (some ⟨t,0,none⟩))] w λev w'=>ev=.returned (.bool true)/\Row w' t 69 #[.pointer (some e)]/\∃V,Below w.heap.size w V/\Only t V w':=by
 refine(Amf e ⟨t,0,none⟩ old w hg (ht.cellv (i:=0) rfl) (ht.free 0)).mono ?_;rintro ev w' ⟨rfl,rfl⟩;obtain⟨V,b⟩:∃V,V=(((w.alloc (.cells #[.pointer (some ⟨t,0,none⟩)] 73)).alloc (.cells #[.pointer (some ⟨1,73,none⟩),.pointer (some ⟨w.heap.size,0,none⟩),.int .u64 150] 144)).alloc (.cells #[.pointer (some ⟨1,73,none⟩),.pointer (some ⟨w.heap.size,0,none⟩),.int .u64 150] 144)).alloc (.cells #[.pointer (some e)] 69):=⟨_,rfl⟩
 have a:Below w.heap.size w V:=by
  rw[b];exact((((Below.refl _ _).alloc (Nat.le_refl _) _).alloc (by simp) _).alloc (by simp;omega) _).alloc (by simp;omega) _
 rw[<-b];have c:=ht.below a ht.lt;exact⟨rfl,c.set 0 _,V,a,Qu V t 0 _⟩
end Go.Proofs.YtgnmkiafeplbpaaGreatDoor
namespace Go.Proofs.YtgnmkiafeplbpaaGreatDoor
open Go.RowKit Go.Deep
attribute [local go_sem] Oper.semAt_some
def Afc (told:Int)(v:Value)(W:World):Prop:=(told=0/\v=.nilIface)\/(told≠0/\∃(f:Nat) (x:Value),v=.iface 69 (.pointer (some ⟨f,0,none⟩))/\Row W f 75 #[.int .i64 told,x])
theorem KE (told e:Int)(ht:e≠0->told≠0)(w:World):Calls Tryz.prog 112 #[.int .i64 told,.int .i64 e] w λev w'=>∃v,ev=.returned v/\Afc (if e=0 then 0 else told) v w'/\Below w.heap.size w w':=by
 by_cases h:e=0
 ·subst h;go_enter Tryz.func112,Tryz.ntmps112
  go_wp2_with fail
  go_ret
  exact⟨_,rfl,.inl ⟨rfl,rfl⟩,Below.refl _ _⟩
 ·have j:∀W:World,(Instr.build 75 #[(0,.int .i64 told),(1,.iface 34 (.int .i64 e))]).run Tryz.prog W=.ok (.agg #[.int .i64 told,.iface 34 (.int .i64 e)]) W:=λW=>by kernel_rfl
  have g:(e==0)=false:=by simpa using h
  have d:=Lv (ht h);have H:=Lv h;clear ht h;go_enter Tryz.func112,Tryz.ntmps112
  go_wp2_with (refine Qx _ _ rfl ?_)
  refine Stop.to ?_;refine Qf rfl 75 _ rfl #[.int .i64 told,.iface 34 (.int .i64 e)] rfl ?_;intro F i b Fr a;have c:=Lv ((Below.refl w.heap.size w).trans (a.mono b));clear a b;go_wp2_with fail
  go_ret
  exact⟨_,rfl,.inr ⟨d.out,F,_,rfl,Fr⟩,c.out⟩
theorem Ui (e:Int)(w:World):Calls Tryz.prog 110 #[.int .i64 e] w λev w'=>∃v,ev=.returned v/\Afc e v w'/\Below w.heap.size w w':=by
 have H:=Lv (KE e e (λh=>h) w);have a:(if e=0 then 0 else e)=e:=by split<;>simp[*]
 rw[a]at H;clear a;go_enter Tryz.func110,Tryz.ntmps110
 go_wp2_with fail
 refine H.out.mono ?_;rintro ev d ⟨v,rfl,b,c⟩;go_wp2_with fail
 go_ret
 exact⟨_,rfl,b,c⟩
def Aaf (s:List UInt8)(A:Option Addr)(cap n:Nat)(c:CpV):Array Value:=#[.string ⟨s.toArray⟩,.slice A n cap,.int .i64 c.p.params,.slice c.p.va c.p.V.length c.p.vcap,.slice c.p.ba c.p.body.length c.p.bcap,.slice c.tA c.tests.length c.tcap,.int .i64 c.fuel,.slice c.mA c.mts.length c.mcap,.int .i64 c.sc.alive,.int .i64 c.sc.killed,.int .i64 c.sc.timeout]
structure ArS (s:List UInt8)(r:Nat)(W:World)(A:Option Addr)(cap:Nat)(l:List Sec)(c:CpV):Prop where
 row:Row W r 66 (Aaf s A cap l.length c)
 sec:Rd W A (Zy l)
 an:∀ad,A=some ad->r<ad.block
 ok:CpOk W c
 t:CpT W c
theorem CpT.go{W W':World}{c:CpV}(h:CpT W c)(b:Below W.heap.size W W'):CpT W' c:=
 ⟨h.va.go b,h.ba.go b,h.tA.go b,λx hx=>(h.ts x hx).go b,h.mA.go b,λx hx=>(h.ms x hx).go b⟩
theorem ArS.go{s:List UInt8}{r:Nat}{W W':World}{A:Option Addr}{cap:Nat}{l:List Sec}{c:CpV}(h:ArS s r W A cap l c)(b:Below W.heap.size W W'):ArS s r W' A cap l c:=
 ⟨h.row.below b h.row.lt,h.sec.go b,h.an,h.ok.go b,h.t.go b⟩
theorem RowB.neG{W:World}{t t':TypeId}{A:Option Addr}{g:Nat}{cs':Array Value}(h:RowB W t A)(hg:Row W g t' cs')(ne:t≠t'):∀ad,A=some ad->ad.block≠g:=λad e e2=>by
 obtain⟨b,c⟩:=h ad e;have a:W.heap[g]? =some (.cells b t (0,0)):=by rw[<-e2];exact c
 rw[show W.heap[g]? =some (.cells cs' t' (0,0))from hg]at a;injection a with a;injection a with _ a;exact ne a.symm
theorem VS{W W':World}{c:CpV}{g:Nat}{tt:TypeId}{cs:Array Value}(h:CpOk W c)(t:CpT W c)(o:Only g W W')(hg:Row W g tt cs)(n1:3≠tt)(n2:52≠tt)(n3:22≠tt)(n4:95≠tt):CpOk W' c/\CpT W' c:=
 ⟨⟨h.pok.only o (t.va.neG hg n1) (t.ba.neG hg n2),h.bl,h.vl,h.trd.only o (λ_=>t.tA.neG hg n3),λx hx=>⟨(h.tok x hx).len,(h.tok x hx).cap,(h.tok x hx).nil,(h.tok x hx).reads.only o (λ_=>(t.ts x hx).neG hg n1),(h.tok x hx).all⟩,h.tlen,h.tl,h.tnil,h.mrd.only o (λ_=>t.mA.neG hg n4),λx hx=>⟨(h.mok x hx).rd.only o (λ_=>(t.ms x hx).neG hg n1),(h.mok x hx).len,(h.mok x hx).nil,(h.mok x hx).dig⟩,h.mlen,h.mnil⟩,
  ⟨t.va.only o hg n1,t.ba.only o hg n2,t.tA.only o hg n3,λx hx=>(t.ts x hx).only o hg n1,t.mA.only o hg n4,λx hx=>(t.ms x hx).only o hg n1⟩⟩
theorem ArS.only{s:List UInt8}{r:Nat}{W W':World}{A:Option Addr}{cap:Nat}{l:List Sec}{c:CpV}{cs:Array Value}(hg:Row W r 66 cs)(o:Only r W W')(row:Row W' r 66 (Aaf s A cap l.length c))(sec:Rd W A (Zy l))(an:∀ad,A=some ad->r<ad.block)(ok:CpOk W c)(t:CpT W c):ArS s r W' A cap l c:=
 ⟨row,sec.only o (λ_ ad e=>by have:=an ad e;omega),an,(VS ok t o hg (by decide) (by decide) (by decide) (by decide)).1,(VS ok t o hg (by decide) (by decide) (by decide) (by decide)).2⟩
structure Stg (s:List UInt8)(k:Nat)(l:List Sec)(c:CpV):Prop where
 h1:1<=k->Z8 s=(l,0)
 h2:2<=k->l.map Sec.t=[1,2,3,4]
 h3:3<=k->XR (Z0 l 0)=(c.p.pd,0)
 h4:4<=k->Yq (Z0 l 1)=((c.testsL,c.fuel),0)
 h5:5<=k->JP (Z0 l 2)=(c.muts,0)
 h6:6<=k->YH (Z0 l 3)=(c.sc,0)
 h7:7<=k->QQ c=0
theorem Stg.ok{s:List UInt8}{l:List Sec}{c:CpV}(h:Stg s 7 l c):ZF s=(c.data,0):=by
 have a:arC l=c.data:=by unfold arC;rw[h.h3 (by omega),h.h4 (by omega),h.h5 (by omega),h.h6 (by omega)];rfl
 unfold ZF;rw[h.h1 (by omega),if_neg (by simp)];unfold arL;rw[if_neg (by simp[h.h2 (by omega)]),h.h3 (by omega),h.h4 (by omega),h.h5 (by omega),h.h6 (by omega),a,Jd,h.h7 (by omega)];simp
structure StepR (s:List UInt8)(r k:Nat)(w w':World)(ev:Ending):Prop where
 ex:∃v told,ev=.returned v/\Afc told v w'/\RdEff r w w'/\(told=0->∃A cap l c,ArS s r w' A cap l c/\Stg s (k+1) l c)/\(told≠0->ZF s=(J7,told))
theorem XZ{s:List UInt8}{l:List Sec}(h:Z8 s=(l,0)):(∀x∈l,x.d.length<=s.length)/\l.length<=s.length:=by
 have a:=AcO h;unfold K8 at a;split at a
 ·injection a with _ a;exact absurd a (by decide)
 ·split at a
  ·injection a with _ a;exact absurd a (by decide)
  ·injection a with a _;have e:=congrArg List.length a;simp only[La]at e;exact⟨λx b=>by have:=KQ b;omega,by have:=Yc l;omega⟩
theorem Afg (s:List UInt8)(hs:s.length<=900000)(r:Nat)(W:World)(h:∃A cap l c,ArS s r W A cap l c/\Stg s 0 l c):Calls Tryz.prog 39 #[.pointer (some ⟨r,0,none⟩)] W λev w'=>StepR s r 0 W w' ev:=by
 obtain⟨A,cap,l,c,h, -⟩:=h;have c0:=h.row.cellv (i:=0) (v:=.string ⟨s.toArray⟩) rfl;have HO:=Lv (AeG s hs W);have H:=Lv h;clear h hs;go_enter Tryz.func39,Tryz.ntmps39
 go_wp2_with fail
 refine HO.out.mono ?_;rintro e w1 ⟨k,a,rfl,j,x,n⟩;have y:=H.out.go x;have z:Hid (∀q,k=some q->r<q.block):=λq e=>Lg H.out.row.lt (n q e);have b:Hid ((Z8 s).2≠0->ZF s=(J7,(Z8 s).2)):=λaa=>by unfold ZF;exact if_pos aa
 obtain⟨⟨u,e1⟩,hz⟩:∃p,p=Z8 s:=⟨_,rfl⟩;rw[<-hz]at j b|-;dsimp only at j b|-;have Hz:=Lv hz;have w:=Lv j;have B1:=Lv x;have H1:=Lv y;have d:=y.row;clear hz j x y n c0 HO;go_wp2_with (refine Qk _ _ _ rfl ?_)
 refine Stop.to ?_;refine Qt rfl 43 _ _ rfl r 1 rfl (.slice k u.length a) rfl [.slice k u.length a] rfl 66 _ (Aaf s k a u.length c) d (by kernel_rfl) (by show 1+1<=11;omega) (by simp[Value.oneCell']) rfl ?_;intro w2 r2 o2;have S2:=Lv (ArS.only (s:=s) d o2 r2 w.out z.out H1.out.ok H1.out.t);have E2:=Lv ((RdEff.of_below (g:=r) B1.out).trans (RdEff.of_only o2));clear r2 o2 d;go_wp2_with fail
 refine(Ui e1 w2).mono ?_;rintro ev w9 ⟨v9,rfl,o,b9⟩;have HV:=Lv o;have m:=Lv b9;clear o b9;go_wp2_with fail
 go_ret
 exact⟨v9,e1,rfl,HV.out,(E2.out).trans (.of_below m.out),(λh0=>⟨k,a,u,c,S2.out.go m.out,⟨λ_=>by rw[<-Hz.out,h0],by omega,by omega,by omega,by omega,by omega,by omega⟩⟩),b.out⟩
theorem Stg.dec{s:List UInt8}{k:Nat}{l:List Sec}{c:CpV}(h:Stg s k l c)(hk:2<=k):ZF s=arL l:=by
 unfold ZF;rw[h.h1 (by omega),if_neg (by simp)]
theorem AiI{l:List Sec}(h:l.map Sec.t≠[1,2,3,4]):arL l=(J7,12):=if_pos h
theorem Stg.no0{s:List UInt8}{l:List Sec}{c:CpV}(h:Stg s 2 l c)(e:(XR (Z0 l 0)).2≠0):ZF s=(J7,23):=by
 rw[h.dec (by omega)];unfold arL;rw[if_neg (by simp[h.h2 (by omega)]),if_pos e]
theorem Stg.no1{s:List UInt8}{l:List Sec}{c:CpV}(h:Stg s 3 l c)(e:(Yq (Z0 l 1)).2≠0):ZF s=(J7,18):=by
 rw[h.dec (by omega)];unfold arL;rw[if_neg (by simp[h.h2 (by omega)]),if_neg (by simp[h.h3 (by omega)]),if_pos e]
theorem Stg.no2{s:List UInt8}{l:List Sec}{c:CpV}(h:Stg s 4 l c)(e:(JP (Z0 l 2)).2≠0):ZF s=(J7,24):=by
 rw[h.dec (by omega)];unfold arL;rw[if_neg (by simp[h.h2 (by omega)]),if_neg (by simp[h.h3 (by omega)]),if_neg (by simp[h.h4 (by omega)]),if_pos e]
theorem Stg.no3{s:List UInt8}{l:List Sec}{c:CpV}(h:Stg s 5 l c)(e:(YH (Z0 l 3)).2≠0):ZF s=(J7,22):=by
 rw[h.dec (by omega)];unfold arL;rw[if_neg (by simp[h.h2 (by omega)]),if_neg (by simp[h.h3 (by omega)]),if_neg (by simp[h.h4 (by omega)]),if_neg (by simp[h.h5 (by omega)]),if_pos e]
theorem Stg.no4{s:List UInt8}{l:List Sec}{c:CpV}(h:Stg s 6 l c)(e:QQ c≠0):ZF s=(J7,QQ c):=by
 have a:arC l=c.data:=by unfold arC;rw[h.h3 (by omega),h.h4 (by omega),h.h5 (by omega),h.h6 (by omega)];rfl
 rw[h.dec (by omega)];unfold arL;rw[if_neg (by simp[h.h2 (by omega)]),if_neg (by simp[h.h3 (by omega)]),if_neg (by simp[h.h4 (by omega)]),if_neg (by simp[h.h5 (by omega)]),if_neg (by simp[h.h6 (by omega)]),a,Jd,if_pos e]
theorem Un{e k:Int}(hk:k≠0)(h:(if e=0 then 0 else k)=0):e=0:=by
 by_cases a:e=0
 ·exact a
 ·rw[if_neg a]at h;exact absurd h hk
theorem XG{e k:Int}(h:(if e=0 then 0 else k)≠0):e≠0/\(if e=0 then 0 else k)=k:=by
 have a:e≠0:=λa=>h (by rw[if_pos a])
 exact⟨a,if_neg a⟩
theorem AkD{w:World}:(zeroValue 25).run Tryz.prog w=.ok (.agg #[.int .i64 0,.slice none 0 0,.slice none 0 0]) w:=by kernel_rfl
theorem Afh (s:List UInt8)(hs:s.length<=900000)(r:Nat)(W:World)(h:∃A cap l c,ArS s r W A cap l c/\Stg s 2 l c):Calls Tryz.prog 41 #[.pointer (some ⟨r,0,none⟩)] W λev w'=>StepR s r 2 W w' ev:=by
 obtain⟨A,cap,l,c,h,j⟩:=h;have hl:l.length=4:=by have:=congrArg List.length (j.h2 (by omega));simpa using this
 obtain⟨x,hx⟩:∃x,l[0]? =some x:=⟨_,Ld (by omega)⟩;obtain⟨ad,rfl,ac⟩:=Yl h.sec hx;have ct:W.cell? ⟨ad.block,ad.off+1,none⟩=some (.string ⟨x.d.toArray⟩):=ac 1 _ rfl;have af:x.d.length<=900000:=by have:=(XZ (j.h1 (by omega))).1 x (Li hx);omega
 have ab:Z0 l 0=x.d:=by unfold Z0;rw[LP,hx];rfl
 have c0:=h.row.cellv (i:=1) (v:=.slice (some ad) l.length cap) rfl;rw[hl]at c0;have ag:=Lv ab;have m:=Lv j;have H:=Lv h;have Hl:=Lv hl;have ah:=Lv af;clear h j ab hl hx ac af hs;have HO:=Lv (AdY x.d W ah.out);go_enter Tryz.func41,Tryz.ntmps41
 go_wp2_with fail
 refine HO.out.mono ?_;rintro e w1 ⟨p,G⟩;obtain⟨rfl,gm,y,w,aa,z,u,gb⟩:=G;have h1:=H.out.go gb;obtain⟨⟨pd,e1⟩,hz⟩:∃p,p=XR x.d:=⟨_,rfl⟩;rw[<-hz]at gm|-;dsimp only at gm|-;have Hz:Hid (XR (Z0 l 0)=(p.pd,e1)):=by show _=_;rw[ag.out, <-hz,gm]
 have HP:Hid (p.ok w1/\RowB w1 3 p.va/\RowB w1 52 p.ba):=⟨y,z,u⟩;have q:Hid (p.body.length<=1000/\p.V.length<=1000):=⟨w,aa⟩;have H1:=Lv h1;have B1:=Lv gb;clear hz gm y w aa z u gb h1 c0 ct HO;go_wp2_with (first|fail| (refine Qs _ rfl ?_))
 refine Stop.to ?_;refine Qi rfl 25 rfl _ _ AkD rfl ?_;intro D Dw Dh Dr Db;go_wp2_with (refine Qk _ _ _ rfl ?_)
 refine Stop.to ?_;refine Qh rfl 25 _ _ rfl D p.cells rfl rfl 25 _ Dr (by kernel_rfl) rfl (by simp[Value.oneCell',PgV.cells]) ?_;intro Dx Ds Do;have n:=(Db.mono Dh).trans (Do.below Dh);clear Db Dr Do;have a:=Lv (H1.out.go n);have k:Hid (p.ok Dx/\RowB Dx 3 p.va/\RowB Dx 52 p.ba):=⟨HP.out.1.go n,HP.out.2.1.go n,HP.out.2.2.go n⟩;have B2:=Lv ((RdEff.of_below (g:=r) B1.out).trans (.of_below n));have b:=a.out.row;clear n Dh H1 HP B1;go_wp2_with (first| (refine wpList_load_row rfl 25 _ rfl D rfl 25 p.cells (0,0) _ Ds Tryz.underlying25 rfl (by kernel_rfl) ?_)| (refine Qk _ _ _ rfl ?_))
 refine Stop.to ?_;refine Qt rfl 25 _ _ rfl r 2 rfl (.agg p.cells) rfl p.cells.toList rfl 66 _ (Aaf s (some ad) cap l.length { c with p:=p }) b (by kernel_rfl) (by show 2+3<=11;omega) (by simp[Value.oneCell',PgV.cells]) rfl ?_;intro w2 r2 o2;have S2:=Lv (ArS.only (s:=s) (c:={ c with p:=p }) b o2 r2 a.out.sec a.out.an ⟨k.out.1,q.out.1,q.out.2,a.out.ok.trd,a.out.ok.tok,a.out.ok.tlen,a.out.ok.tl,a.out.ok.tnil,a.out.ok.mrd,a.out.ok.mok,a.out.ok.mlen,a.out.ok.mnil⟩ ⟨k.out.2.1,k.out.2.2,a.out.t.tA,a.out.t.ts,a.out.t.mA,a.out.t.ms⟩);have E2:=Lv (B2.out.trans (RdEff.of_only o2));clear r2 o2 b Ds;go_wp2_with fail
 refine(KE 23 e1 (λ_=>by decide) w2).mono ?_;rintro ev w9 ⟨v9,rfl,ae,b9⟩;have HV:=Lv ae;have o:=Lv b9;clear ae b9;go_wp2_with fail
 go_ret
 exact⟨v9,(if e1=0 then 0 else 23),rfl,HV.out,(E2.out).trans (.of_below o.out),(λh0=>⟨_,_,_,_,S2.out.go o.out,⟨λ_=>m.out.h1 (by omega),λ_=>m.out.h2 (by omega),λ_=>by rw[Hz.out,Un (by decide) h0],by omega,by omega,by omega,by omega⟩⟩),(λh0=>by rw[(XG h0).2];exact m.out.no0 (by rw[Hz.out];exact(XG h0).1))⟩
end Go.Proofs.YtgnmkiafeplbpaaGreatDoor
namespace Go.Proofs.YtgnmkiafeplbpaaGreatDoor
open Go.RowKit Go.Deep
attribute [local go_sem] Oper.semAt_some
theorem AdM (s:List UInt8)(hs:s.length<=900000)(r:Nat)(W:World)(h:∃A cap l c,ArS s r W A cap l c/\Stg s 3 l c):Calls Tryz.prog 42 #[.pointer (some ⟨r,0,none⟩)] W λev w'=>StepR s r 3 W w' ev:=by
 obtain⟨A,cap,l,c,h,n⟩:=h;have hl:l.length=4:=by have:=congrArg List.length (n.h2 (by omega));simpa using this
 obtain⟨x,hx⟩:∃x,l[1]? =some x:=⟨_,Ld (by omega)⟩;obtain⟨w,rfl,ae⟩:=Yl h.sec hx;have ct:W.cell? ⟨w.block,w.off+2+1,none⟩=some (.string ⟨x.d.toArray⟩):=ae 1 _ rfl;have ag:x.d.length<=900000:=by have:=(XZ (n.h1 (by omega))).1 x (Li hx);omega
 have ac:Z0 l 1=x.d:=by unfold Z0;rw[LP,hx];rfl
 have c0:=h.row.cellv (i:=1) (v:=.slice (some w) l.length cap) rfl;rw[hl]at c0;have ah:=Lv ac;have m:=Lv n;have H:=Lv h;have Hl:=Lv hl;have ai:=Lv ag;clear h n ac hl hx ae ag hs;have HO:=Lv (Air x.d W ai.out);go_enter Tryz.func42,Tryz.ntmps42
 go_wp2_with fail
 refine HO.out.mono ?_;rintro e w1 ⟨tA,q,j,z,G⟩;obtain⟨rfl,gm,ab,o,gt,aa,gn,gl,gb⟩:=G;obtain⟨⟨sd,e1⟩,hz⟩:∃p,p=Yq x.d:=⟨_,rfl⟩;rw[<-hz]at gm|-;dsimp only at gm|-;have Hz:Hid (Yq (Z0 l 1)=((j.map IntsV.l,z),e1)):=by show _=_;rw[ah.out, <-hz,gm]
 have HT:Hid (Rd w1 tA (ZU j)/\(∀y∈j,IntT w1 y)/\RowB w1 22 tA):=⟨ab,gt,aa⟩;have Hp:Hid ((tA=none->j=[])/\j.length<=1000/\∀y∈j,y.l.length<=1000):=⟨o,gn,gl⟩;have b:=Lv (H.out.go gb);have B1:=Lv gb;have k:=b.out.row;clear hz gm ab o gt aa gn gl gb c0 ct HO;go_wp2_with (refine Qk _ _ _ rfl ?_)
 refine Stop.to ?_;refine Qt rfl 26 _ _ rfl r 5 rfl (.slice tA j.length q) rfl [.slice tA j.length q] rfl 66 _ (Aaf s (some w) cap l.length { c with tA:=tA,tcap:=q,tests:=j }) k (by kernel_rfl) (by show 5+1<=11;omega) (by simp[Value.oneCell']) rfl ?_;intro w2 r2 o2;have a:=Lv (ArS.only (s:=s) (c:={ c with tA:=tA,tcap:=q,tests:=j }) k o2 r2 b.out.sec b.out.an ⟨b.out.ok.pok,b.out.ok.bl,b.out.ok.vl,HT.out.1,λy hy=>(HT.out.2.1 y hy).1,Hp.out.2.1,Hp.out.2.2,Hp.out.1,b.out.ok.mrd,b.out.ok.mok,b.out.ok.mlen,b.out.ok.mnil⟩ ⟨b.out.t.va,b.out.t.ba,HT.out.2.2,λy hy=>(HT.out.2.1 y hy).2,b.out.t.mA,b.out.t.ms⟩);have E2:=Lv ((RdEff.of_below (g:=r) B1.out).trans (RdEff.of_only o2));clear o2 k;go_wp2_with (refine Qk _ _ _ rfl ?_)
 refine Stop.to ?_;refine Qt rfl 3 _ _ rfl r 6 rfl (.int .i64 z) rfl [.int .i64 z] rfl 66 _ (Aaf s (some w) cap l.length { c with tA:=tA,tcap:=q,tests:=j,fuel:=z }) r2 (by kernel_rfl) (by show 6+1<=11;omega) (by simp[Value.oneCell']) rfl ?_;intro w3 r3 o3;have S3:=Lv (ArS.only (s:=s) (c:={ c with tA:=tA,tcap:=q,tests:=j,fuel:=z }) r2 o3 r3 a.out.sec a.out.an ⟨a.out.ok.pok,a.out.ok.bl,a.out.ok.vl,a.out.ok.trd,a.out.ok.tok,a.out.ok.tlen,a.out.ok.tl,a.out.ok.tnil,a.out.ok.mrd,a.out.ok.mok,a.out.ok.mlen,a.out.ok.mnil⟩ ⟨a.out.t.va,a.out.t.ba,a.out.t.tA,a.out.t.ts,a.out.t.mA,a.out.t.ms⟩);have E3:=Lv (E2.out.trans (RdEff.of_only o3));clear r2 r3 o3 a E2;go_wp2_with fail
 refine(KE 18 e1 (λ_=>by decide) w3).mono ?_;rintro ev w9 ⟨v9,rfl,af,b9⟩;have HV:=Lv af;have u:=Lv b9;clear af b9;go_wp2_with fail
 go_ret
 exact⟨v9,(if e1=0 then 0 else 18),rfl,HV.out,(E3.out).trans (.of_below u.out),(λh0=>⟨_,_,_,_,S3.out.go u.out,⟨λ_=>m.out.h1 (by omega),λ_=>m.out.h2 (by omega),λ_=>m.out.h3 (by omega),λ_=>by rw[Hz.out,Un (by decide) h0];rfl,by omega,by omega,by omega⟩⟩),(λh0=>by rw[(XG h0).2];exact m.out.no1 (by rw[Hz.out];exact(XG h0).1))⟩
theorem AfM (s:List UInt8):(JP s).1.length<=2000:=by
 by_cases h:(JP s).2=0
 ·exact(YI (z:=[]) h).1.1
 ·have:JP s=([],12):=by
    unfold JP XS at h|-;split
    ·rename_i a;rw[dif_pos a]at h;exact absurd rfl h
    ·rfl
  rw[this];decide
theorem Aff (s:List UInt8)(hs:s.length<=900000)(r:Nat)(W:World)(h:∃A cap l c,ArS s r W A cap l c/\Stg s 4 l c):Calls Tryz.prog 43 #[.pointer (some ⟨r,0,none⟩)] W λev w'=>StepR s r 4 W w' ev:=by
 obtain⟨A,cap,l,c,h,o⟩:=h;have hl:l.length=4:=by have:=congrArg List.length (o.h2 (by omega));simpa using this
 obtain⟨x,hx⟩:∃x,l[2]? =some x:=⟨_,Ld (by omega)⟩;obtain⟨ad,rfl,af⟩:=Yl h.sec hx;have ct:W.cell? ⟨ad.block,ad.off+4+1,none⟩=some (.string ⟨x.d.toArray⟩):=af 1 _ rfl;have ah:x.d.length<=900000:=by have:=(XZ (o.h1 (by omega))).1 x (Li hx);omega
 have ae:Z0 l 2=x.d:=by unfold Z0;rw[LP,hx];rfl
 have c0:=h.row.cellv (i:=1) (v:=.slice (some ad) l.length cap) rfl;rw[hl]at c0;have ai:=Lv ae;have b:=Lv o;have H:=Lv h;have Hl:=Lv hl;have aj:=Lv ah;clear h o ae hl hx af ah hs;have HO:=Lv (Aeg x.d W (by have:=aj.out;omega));have k:=Lv (AfM x.d);go_enter Tryz.func43,Tryz.ntmps43
 go_wp2_with fail
 refine HO.out.mono ?_;rintro e w1 ⟨q,n,mc,u,G⟩;obtain⟨rfl,gm,rfl,gc,w,ac,gt,aa,ab,gb⟩:=G;obtain⟨⟨md,e1⟩,hz⟩:∃p,p=JP x.d:=⟨_,rfl⟩;rw[<-hz]at gm k|-;dsimp only at gm k|-;have Hz:Hid (JP (Z0 l 2)=(u.map MtV.m,e1)):=by show _=_;rw[ai.out, <-hz,gm]
 have HT:Hid (Rd w1 q (ZH u)/\(∀y∈u,MtT w1 y)/\RowB w1 95 q):=⟨ac,gt,ab⟩;have Hp:Hid ((q=none->u=[])/\u.length<=100000):=⟨w,by have:=k.out;rw[<-gm,L7]at this;omega⟩;have a:=Lv (H.out.go gb);have B1:=Lv gb;have j:=a.out.row;clear hz gm ac w gt ab gc aa gb c0 ct HO k;go_wp2_with (refine Qk _ _ _ rfl ?_)
 refine Stop.to ?_;refine Qt rfl 27 _ _ rfl r 7 rfl (.slice q u.length mc) rfl [.slice q u.length mc] rfl 66 _ (Aaf s (some ad) cap l.length { c with mA:=q,mcap:=mc,mts:=u }) j (by kernel_rfl) (by show 7+1<=11;omega) (by simp[Value.oneCell']) rfl ?_;intro w2 r2 o2;have S2:=Lv (ArS.only (s:=s) (c:={ c with mA:=q,mcap:=mc,mts:=u }) j o2 r2 a.out.sec a.out.an ⟨a.out.ok.pok,a.out.ok.bl,a.out.ok.vl,a.out.ok.trd,a.out.ok.tok,a.out.ok.tlen,a.out.ok.tl,a.out.ok.tnil,HT.out.1,λy hy=>(HT.out.2.1 y hy).1,Hp.out.2,Hp.out.1⟩ ⟨a.out.t.va,a.out.t.ba,a.out.t.tA,a.out.t.ts,HT.out.2.2,λy hy=>(HT.out.2.1 y hy).2⟩);have E2:=Lv ((RdEff.of_below (g:=r) B1.out).trans (RdEff.of_only o2));clear r2 o2 j;go_wp2_with fail
 refine(KE 24 e1 (λ_=>by decide) w2).mono ?_;rintro ev w9 ⟨v9,rfl,ag,b9⟩;have HV:=Lv ag;have z:=Lv b9;clear ag b9;go_wp2_with fail
 go_ret
 exact⟨v9,(if e1=0 then 0 else 24),rfl,HV.out,(E2.out).trans (.of_below z.out),(λh0=>⟨_,_,_,_,S2.out.go z.out,⟨λ_=>b.out.h1 (by omega),λ_=>b.out.h2 (by omega),λ_=>b.out.h3 (by omega),λ_=>b.out.h4 (by omega),λ_=>by rw[Hz.out,Un (by decide) h0];rfl,by omega,by omega⟩⟩),(λh0=>by rw[(XG h0).2];exact b.out.no2 (by rw[Hz.out];exact(XG h0).1))⟩
theorem AkG (w:World):(zeroValue 29).run Tryz.prog w=.ok (.agg #[.int .i64 0,.int .i64 0,.int .i64 0]) w:=by kernel_rfl
theorem AdL (s:List UInt8)(hs:s.length<=900000)(r:Nat)(W:World)(h:∃A cap l c,ArS s r W A cap l c/\Stg s 5 l c):Calls Tryz.prog 44 #[.pointer (some ⟨r,0,none⟩)] W λev w'=>StepR s r 5 W w' ev:=by
 obtain⟨A,cap,l,c,h,k⟩:=h;have hl:l.length=4:=by have:=congrArg List.length (k.h2 (by omega));simpa using this
 obtain⟨x,hx⟩:∃x,l[3]? =some x:=⟨_,Ld (by omega)⟩;obtain⟨y,rfl,q⟩:=Yl h.sec hx;have ct:W.cell? ⟨y.block,y.off+6+1,none⟩=some (.string ⟨x.d.toArray⟩):=q 1 _ rfl;have w:x.d.length<=900000:=by have:=(XZ (k.h1 (by omega))).1 x (Li hx);omega
 have o:Z0 l 3=x.d:=by unfold Z0;rw[LP,hx];rfl
 have c0:=h.row.cellv (i:=1) (v:=.slice (some y) l.length cap) rfl;rw[hl]at c0;have aa:=Lv o;have b:=Lv k;have H:=Lv h;have Hl:=Lv hl;have ab:=Lv w;clear h k o hl hx q w hs;have HO:=Lv (Adb x.d W (by have:=ab.out;omega));go_enter Tryz.func44,Tryz.ntmps44
 go_wp2_with fail
 refine HO.out.mono ?_;rintro e w1 ⟨rfl,gb⟩;obtain⟨⟨m,e1⟩,hz⟩:∃p,p=YH x.d:=⟨_,rfl⟩;rw[<-hz];dsimp only;have Hz:Hid (YH (Z0 l 3)=(m,e1)):=by show _=_;rw[aa.out, <-hz]
 have H1:=Lv (H.out.go gb);have B1:=Lv gb;clear hz gb c0 ct HO;go_wp2_with (first|fail| (refine Qs _ rfl ?_))
 refine Stop.to ?_;refine Qi rfl 29 rfl _ _ (AkG _) rfl ?_;intro D Dw Dh Dr Db;go_wp2_with (refine Qk _ _ _ rfl ?_)
 refine Stop.to ?_;refine Qh rfl 29 _ _ rfl D m.cells rfl rfl 29 _ Dr (by kernel_rfl) rfl (by simp[Value.oneCell',Sc.cells]) ?_;intro Dx Ds Do;have Dc:=(Db.mono Dh).trans (Do.below Dh);clear Db Dr Do;have a:=Lv (H1.out.go Dc);have B2:=Lv ((RdEff.of_below (g:=r) B1.out).trans (.of_below Dc));have j:=a.out.row;clear Dc Dh H1 B1;go_wp2_with (first| (refine wpList_load_row rfl 29 _ rfl D rfl 29 m.cells (0,0) _ Ds Tryz.underlying29 rfl (by kernel_rfl) ?_)| (refine Qk _ _ _ rfl ?_))
 refine Stop.to ?_;refine Qt rfl 29 _ _ rfl r 8 rfl (.agg m.cells) rfl m.cells.toList rfl 66 _ (Aaf s (some y) cap l.length { c with sc:=m }) j (by kernel_rfl) (by show 8+3<=11;omega) (by simp[Value.oneCell',Sc.cells]) rfl ?_;intro w2 r2 o2;have S2:=Lv (ArS.only (s:=s) (c:={ c with sc:=m }) j o2 r2 a.out.sec a.out.an ⟨a.out.ok.pok,a.out.ok.bl,a.out.ok.vl,a.out.ok.trd,a.out.ok.tok,a.out.ok.tlen,a.out.ok.tl,a.out.ok.tnil,a.out.ok.mrd,a.out.ok.mok,a.out.ok.mlen,a.out.ok.mnil⟩ ⟨a.out.t.va,a.out.t.ba,a.out.t.tA,a.out.t.ts,a.out.t.mA,a.out.t.ms⟩);have E2:=Lv (B2.out.trans (RdEff.of_only o2));clear r2 o2 j Ds;go_wp2_with fail
 refine(KE 22 e1 (λ_=>by decide) w2).mono ?_;rintro ev w9 ⟨v9,rfl,u,b9⟩;have HV:=Lv u;have n:=Lv b9;clear u b9;go_wp2_with fail
 go_ret
 exact⟨v9,(if e1=0 then 0 else 22),rfl,HV.out,(E2.out).trans (.of_below n.out),(λz=>⟨_,_,_,_,S2.out.go n.out,⟨λ_=>b.out.h1 (by omega),λ_=>b.out.h2 (by omega),λ_=>b.out.h3 (by omega),λ_=>b.out.h4 (by omega),λ_=>b.out.h5 (by omega),λ_=>by rw[Hz.out,Un (by decide) z],by omega⟩⟩),(λz=>by rw[(XG z).2];exact b.out.no3 (by rw[Hz.out];exact(XG z).1))⟩
theorem AbX{W:World}{r n cap:Nat}{s:List UInt8}{A:Option Addr}{c:CpV}(h:Row W r 66 (Aaf s A cap n c)):∀j v,c.cells.toList[j]? =some v->W.cell? ((⟨r,2,none⟩:Addr).add j)=some v:=
 Row.from_ h 2 (λj v hj=>by
  match j,hj with
  |0,hj|1,hj|2,hj|3,hj|4,hj|5,hj|6,hj|7,hj|8,hj=>exact hj
  |j+9,hj=>simp[CpV.cells]at hj)
theorem AdK (s:List UInt8)(r:Nat)(W:World)(h:∃A cap l c,ArS s r W A cap l c/\Stg s 6 l c):Calls Tryz.prog 45 #[.pointer (some ⟨r,0,none⟩)] W λev w'=>StepR s r 6 W w' ev:=by
 obtain⟨A,cap,l,c,h,d⟩:=h;have o:=Lv (Xm c W h.ok);have t:=AbX h.row;have H:=Lv h;have a:=Lv d;clear h d;go_enter Tryz.func45,Tryz.ntmps45
 go_wp2_with (refine Qn rfl 31 _ rfl ⟨r,2,none⟩ rfl c.cells.toList _ t Tryz.underlying31 rfl (by kernel_rfl) ?_)
 refine o.out.mono ?_;rintro e y ⟨rfl,k⟩;have w:=Lv (H.out.go k);have u:=Lv (RdEff.of_below (g:=r) k);obtain⟨q,n⟩:∃e,e=QQ c:=⟨_,rfl⟩;have j:=Lv n;rw[<-n];clear k t n o;go_wp2_with fail
 refine(Ui q y).mono ?_;rintro ev z ⟨x,rfl,i,p⟩;have v:=Lv i;have b:=Lv p;clear i p;go_wp2_with fail
 go_ret
 exact⟨x,q,rfl,v.out,(u.out).trans (.of_below b.out),(λm=>⟨_,_,_,_,w.out.go b.out,⟨λ_=>a.out.h1 (by omega),λ_=>a.out.h2 (by omega),λ_=>a.out.h3 (by omega),λ_=>a.out.h4 (by omega),λ_=>a.out.h5 (by omega),λ_=>a.out.h6 (by omega),λ_=>by rw[<-j.out];exact m⟩⟩),(λm=>by rw[j.out];exact a.out.no4 (by rw[<-j.out];exact m))⟩
end Go.Proofs.YtgnmkiafeplbpaaGreatDoor
