/- Lemmas for ArAll. -/
import Derived.WalkKit
import Derived.WalkSpells
import Derived.Lib.Hide
import Derived.Deep.OwnRows
import Derived.Deep.Draws
import Derived.Deep.QuietTactic
import Derived.BigQuiet
import Derived.StillTailTactics
import Derived.StillTail
import Derived.Laws.StructEq
import Derived.OrdersHeld
import Derived.RangeFuncNested
import Derived.RangeFuncBound
import Derived.RangeFuncCalls
import Derived.RangeFuncLeaves
import Derived.OwnWalkIn
import Derived.TacticsInMore
import Derived.LoopNIn
import Derived.LoopIn
import Derived.Shelf.Abstract
import Derived.Shelf.RegionOpen
import Derived.Deep.Slices
import Derived.ProofKit
import Derived.OpenShut
import Derived.ChangeSame
import Derived.Maps.OwnIn
import Derived.BigFrameIn
import Derived.Deep.WholeRow
import Derived.Laws.CopyRow
set_option linter.unusedVariables false
set_option linter.unusedSimpArgs false
set_option maxRecDepth 100000
set_option maxHeartbeats 16000000
namespace Go.Proofs.YtgnmkiafeplbpaaGreatDoor
open Go.RowKit
abbrev La:=@List.length_append
abbrev Ld:=@List.getElem?_eq_getElem
abbrev Le:=@List.length_cons
abbrev Lf:=@List.getElem?_eq_some_iff
abbrev Lg:=@Nat.lt_of_lt_of_le
abbrev Li:=@List.mem_of_getElem?
abbrev Lj:=@Nat.le_trans
abbrev Lk:=@List.cons_append
abbrev Ll:=@List.length_nil
abbrev Lm:=@List.take_of_length_le
abbrev Ln:=@Array.replicate_succ
abbrev Lp:=@Array.replicate_zero
abbrev Lt:=@Array.getElem?_eq_some_iff
abbrev Lu:=@List.nil_append
abbrev Ly:=@List.size_toArray
abbrev Lz:=@List.push_toArray
abbrev L0:=@Int.toNat_natCast
abbrev L3:=@List.eq_nil_of_length_eq_zero
abbrev L4:=@List.append_assoc
abbrev L5:=@List.take_add_one
abbrev L6:=@List.mem_cons
abbrev L7:=@List.length_map
abbrev L8:=@List.mem_singleton
abbrev L9:=@Nat.le_of_lt
abbrev LA:=@Int.eq_ofNat_of_zero_le
abbrev LC:=@List.take_append_drop
abbrev LD:=@List.append_toArray
abbrev LE:=@Nat.mod_eq_of_lt
abbrev LF:=@List.flatMap_cons
abbrev LG:=@List.mem_append
abbrev LH:=@List.length_take
abbrev LI:=@Nat.le_of_eq
abbrev LJ:=@List.not_mem_nil
abbrev LK:=@Bool.and_eq_true
abbrev LL:=@List.mem_map
abbrev LM:=@List.flatMap_append
abbrev LN:=@List.length_drop
abbrev LO:=@List.take_length
abbrev LP:=@List.getD_eq_getElem?_getD
abbrev LQ:=@List.getElem?_append_left
abbrev LR:=@List.getElem?_map
abbrev LS:=@Nat.zero_add
abbrev LT:=@List.append_nil
abbrev LU:=@List.getElem?_cons_succ
abbrev LV:=@List.drop_eq_getElem_cons
abbrev LW:=@List.map_append
abbrev LX:=@Nat.add_le_add
abbrev LY:=@List.take_succ_cons
abbrev LZ:=@List.getElem?_append_right
abbrev Na:=@Array.getElem?_modify
abbrev Nb:=@List.length_singleton
abbrev Nc:=@List.getElem?_take_of_lt
abbrev Nf:=@List.drop_drop
abbrev Ng:=@List.take_left'
abbrev Nh:=@List.drop_left'
abbrev Ni:=@List.getElem?_drop
abbrev Nj:=@Nat.eq_zero_or_pos
abbrev Nk:=@List.drop_succ_cons
abbrev Nl:=@List.mem_filter
abbrev Nm:=@List.all_eq_true
abbrev Nn:=@Nat.add_assoc
abbrev No:=@List.map_cons
abbrev Np:=@List.take_append_of_le_length
abbrev Nq:=@List.any_eq_false
abbrev Nr:=@Nat.pow_succ
abbrev Ns:=@List.getElem_cons_drop
abbrev Nt:=@Nat.mod_two_eq_zero_or_one
abbrev Nu:=@List.length_filter_le
abbrev Nv:=@Array.getElem?_setIfInBounds_ne
abbrev Nw:=@List.map_toArray
abbrev Nx:=@Option.getD_some
abbrev Ny:=@List.mem_range
abbrev Nz:=@Nat.lt_or_ge
abbrev N0:=@Array.getElem?_eq_none
abbrev N1:=@List.filter_append
abbrev N2:=@Array.getElem?_toList
abbrev N3:=@List.length_replicate
abbrev N4:=@List.pairwise_map
abbrev N5:=@Bool.not_eq_true'
abbrev N6:=@Nat.add_comm
abbrev N7:=@List.mem_flatMap
abbrev N8:=@Nat.shiftRight_eq_div_pow
abbrev N9:=@Array.getElem?_eq_getElem
abbrev NA:=@List.mem_map_of_mem
abbrev NB:=@List.length_take_le
abbrev NC:=@Array.setIfInBounds_comm
abbrev ND:=@List.nodup_cons
abbrev NE:=@Nat.min_eq_left
abbrev NF:=@List.set_cons_succ
abbrev NG:=@List.mem_cons_self
abbrev NH:=@List.getElem?_replicate
abbrev NI:=@Nat.add_sub_cancel_left
theorem Qa{α}{l:List α}{i:Nat}{a:α}:l.toArray.setIfInBounds i a=(l.set i a).toArray:=List.setIfInBounds_toArray ..
theorem Qb{α}{x:α}{xs:List α}{a:α}:(x::xs).set 0 a=a::xs:=List.set_cons_zero ..
theorem Qc{α}{x:α}{xs:List α}{n:Nat}{a:α}:(x::xs).set (n+1) a=x::xs.set n a:=NF ..
theorem Lv{p:Prop}(h:p):Go.RowKit.Hid p:=h
def Row (w:World)(g:Nat)(t:TypeId)(cs:Array Value):Prop:=w.heap[g]? =some (.cells cs t (0,0))
section
variable {w w':World} {g:Nat} {t:TypeId} {cs:Array Value}
theorem Row.lt (h:Row w g t cs):g<w.heap.size:=by
 rcases Nz g w.heap.size with b|a
 ·exact b
 ·rw[Row,N0 a]at h;cases h
theorem Row.cell (h:Row w g t cs)(i:Nat):w.cell? ⟨g,i,none⟩=cs[i]? :=cell_of_row w g i cs t (0,0) h
theorem Row.cellv (h:Row w g t cs){i:Nat}{v:Value}(hv:cs[i]? =some v):w.cell? ⟨g,i,none⟩=some v:=(h.cell i).trans hv
theorem Row.free (h:Row w g t cs)(i:Nat):w.frozen? ⟨g,i,none⟩=false:=by
 rw[Row]at h;simp[World.frozen?,h]
theorem Row.new (w:World)(t:TypeId)(cs:Array Value):Row (w.alloc (.cells cs t)) w.heap.size t cs:=heap_alloc_new w _
theorem Row.drew (h:Row w g t cs):Row w.drew g t cs:=h
theorem Row.drewN (h:Row w g t cs)(n:Nat):Row (w.drewN n) g t cs:=h
theorem Row.alloc (h:Row w g t cs)(o:Obj):Row (w.alloc o) g t cs:=(Below.heap_alloc w o g h.lt).trans h
theorem Row.set (h:Row w g t cs)(i:Nat)(u:Value):Row (w.setCell ⟨g,i,none⟩ u) g t (cs.setIfInBounds i u):=by
 rw[Row]at h|-;simp[World.setCell,Na,h]
theorem Row.below{B:Nat}(h:Row w g t cs)(hb:Below B w w')(hg:g<B):Row w' g t cs:=(hb.block g hg).trans h
end
theorem Row.from_{w:World}{g:Nat}{t:TypeId}{cur:Array Value}(h:Row w g t cur)(o:Nat){cs:List Value}(hc:∀j v,cs[j]? =some v->cur[o+j]? =some v):
 ∀j v,cs[j]? =some v->w.cell? ((⟨g,o,none⟩:Addr).add j)=some v:=λj v hj=>by
 rw[show((⟨g,o,none⟩:Addr).add j)=⟨g,o+j,none⟩from by unfold Addr.add;split<;>simp_all]
 exact h.cellv (hc j v hj)
theorem AbE{B:Nat}{a w:World}(h:Below B a w){g:Nat}(hg:B<=g)(cells:Array Value):Below B a (w.setRow g cells):=
 h.trans ⟨rfl,rfl,rfl,by simp[World.setRow],λk hk=>by simp only[World.setRow,Na];rw[if_neg (by omega)]⟩
theorem Row.setRow{w:World}{g:Nat}{t:TypeId}{cs:Array Value}(h:Row w g t cs)(cells:Array Value):Row (w.setRow g cells) g t cells:=by
 rw[Row]at h|-;simp[World.setRow,Na,h]
theorem Jq{B:Nat}{a w:World}(h:Below B a w)(n:Nat):Below B a (w.drewN n):=⟨h.os,h.tape,h.output,h.size,h.block⟩
theorem Ag5 (l:List UInt8):(⟨l.toArray⟩:ByteArray).size=l.length:=by simp[ByteArray.size]
def u8s (l:List UInt8):List Value:=l.map λb=>.int .u8 (b.toNat:Int)
theorem Adz (l:List UInt8)(i:Nat):(u8s l)[i]? =l[i]?.map λb=>.int .u8 (b.toNat:Int):=by simp[u8s]
theorem Agl (l:List UInt8):(u8s l).length=l.length:=by simp[u8s]
theorem UN (a b:List UInt8):u8s (a++b)=u8s a++u8s b:=by simp[u8s]
theorem XE{P:Program}{w:World}(src dst e t:TypeId)(hs:P.underlying src=some (.slice e))(he:P.underlying e=some (.int .u8))(hd:P.underlying dst=some .string)
 {g n cap:Nat} {cs:Array Value} (hr:Row w g t cs) (l:List UInt8) (hl:l.length=n) (hc:∀j,j<n->cs[j]? =(u8s l)[j]?):
 (convert src dst (.slice (some ⟨g,0,none⟩) n cap)).run P w=.ok (.string ⟨l.toArray⟩) w:=by
 subst hl;refine run_convert_bytes_back w src dst e _ cap l hs he hd (λj a=>?_);rw[show(Addr.add ⟨g,0,none⟩ j)=⟨g,j,none⟩from by unfold Addr.add;split<;>simp_all,hr.cell j,hc j a,Adz,Ld a]
 rfl
theorem XD{P:Program}{w:World}(src dst e:TypeId)(hs:P.underlying src=some (.slice e))(he:P.underlying e=some (.int .u8))(hd:P.underlying dst=some .string)
 {base n:Nat} {v:Value} (l:List UInt8) (hown:w.ownsRow base e 1 v n (u8s l)):(convert src dst v).run P w=.ok (.string ⟨l.toArray⟩) w:=by
 have d:l.length=n:=by have:=hown.1;rw[Agl]at this;omega
 rcases hown.2 with⟨rfl,k⟩|⟨g,b,a,rfl,m,c,o,q,h,i⟩
 ·have:l=[]:=L3 (by omega);subst this;rw[run_convert_bytes_nil w src e hs he 0 0 dst hd];rfl
 ·refine XE src dst e e hs he hd (cs:=a) c l d (λj p=>?_);rw[<-i,Nc (by omega)];simp
theorem XP (w:World)(xs:List Value)(t:TypeId):∀j u,xs[j]? =some u->(w.alloc (.cells xs.toArray t)).cell? ((⟨w.heap.size,0,none⟩:Addr).add j)=some u:=λj u hj=>
 (Row.new w t xs.toArray).from_ 0 (by intro j v h;simpa using h) j u hj
theorem AeX (l:List UInt8):∀u∈u8s l,u.oneCell'=true:=by
 intro u a;simp only[u8s,LL]at a;obtain⟨x,_,rfl⟩:=a;rfl
theorem QJ{base size n:Nat}{e:TypeId}{v:Value}{xs:List Value}{B:Nat}{a w w':World}(h:Below B a w)(hown:w.ownsRow base e size v n xs)(hg:w.grownBy w' v.ownBlock)(hB:B<=w.heap.size)(hb:B<=base):Below B a w':=
 h.grown hg hB (λk hk=>by
  rcases hown.2 with⟨rfl,_⟩|⟨g,_,_,rfl,h1,_⟩
  ·simp[Value.ownBlock]at hk
  ·simp[Value.ownBlock]at hk;omega)
def wd (x:BitVec 32):Int:=(x.toNat:Int)
theorem Aiv (x:BitVec 32):0<=wd x:=by unfold wd;omega
theorem Am7 (x:BitVec 32):wd x<4294967296:=by unfold wd;have:=x.isLt;omega
theorem Ag9 (x:BitVec 32):IntKind.u32.wrap (wd x)=wd x:=by
 rw[IntKind.wrap_u32];have:=Aiv x;have:=Am7 x;omega
theorem VF (x:BitVec 32):BitVec.ofInt 32 (wd x)=x:=by
 unfold wd;apply BitVec.eq_of_toNat_eq;rw[BitVec.ofInt_natCast,BitVec.toNat_ofNat,LE x.isLt]
theorem Agm (x y:BitVec 32):bits .xor .u32 (wd x) (wd y)=wd (x ^^^ y):=by
 show IntKind.u32.wrap ((BitVec.ofInt 32 (wd x) ^^^ BitVec.ofInt 32 (wd y)).toNat:Int)=_;rw[VF,VF];exact Ag9 _
theorem Aku (x y:BitVec 32):bits .and .u32 (wd x) (wd y)=wd (x &&& y):=by
 show IntKind.u32.wrap ((BitVec.ofInt 32 (wd x) &&& BitVec.ofInt 32 (wd y)).toNat:Int)=_;rw[VF,VF];exact Ag9 _
theorem Akv (x:BitVec 32)(m:Nat):wd x / (2:Int) ^ m=wd (x >>> m):=by
 unfold wd;rw[BitVec.toNat_ushiftRight,N8,Int.natCast_ediv,Int.natCast_pow];rfl
theorem AlS (x:BitVec 32):wd x / (2:Int)=wd (x >>> 1):=Akv x 1
theorem AlT (x:BitVec 32):wd x / (256:Int)=wd (x >>> 8):=Akv x 8
def wds (l:List (BitVec 32)):List Value:=l.map λb=>.int .u32 (wd b)
theorem AmA (l:List (BitVec 32))(i:Nat)(h:i<l.length):(wds l).toArray[i]? =some (.int .u32 (wd (l.getD i 0))):=by
 simp[wds,Ld h,List.getD]
def Xi:Nat->Nat->List UInt8
 |0,_=>[]
 |f+1,n=>if n<128 then [UInt8.ofNat n]else UInt8.ofNat (128+n % 128)::Xi f (n / 128)
def QC (n:Nat):List UInt8:=Xi 10 n
theorem Kn (f n:Nat)(h:n<128):Xi (f+1) n=[UInt8.ofNat n]:=by rw[Xi,if_pos h]
theorem XU (f n:Nat)(h:¬n<128):Xi (f+1) n=UInt8.ofNat (128+n % 128)::Xi f (n / 128):=by rw[Xi,if_neg h]
theorem Aet:∀f n,(Xi f n).length<=f
 |0,_=>by simp[Xi]
 |f+1,n=>by
  unfold Xi
  split
  ·simp
  ·have:=Aet f (n / 128);simp;omega
theorem Qz (n:Nat):(QC n).length<=10:=Aet 10 n
theorem AaR (f n:Nat):0<(Xi (f+1) n).length:=by
 unfold Xi;split<;>simp
theorem Am5{a b:Nat}(h:UInt8.ofNat a=UInt8.ofNat b):a % 256=b % 256:=by
 have:=congrArg UInt8.toNat h;simpa using this
def Es (n:Int):Nat:=if 0<=n then(2*n).toNat else(-2*n-1).toNat
theorem Ahd{n:Int}(h: -9223372036854775808<=n/\n<=9223372036854775807):Es n<18446744073709551616:=by unfold Es;split<;>omega
def zz (n:Int):List UInt8:=QC (Es n)
theorem Et (n:Int):(zz n).length<=10:=Qz _
def InI (n:Int):Prop:= -9223372036854775808<=n/\n<=9223372036854775807
structure EvV where
 var:Int
 at_:Int
 val:Int
def EvV.cells (e:EvV):List Value:=[.int .i64 e.var,.int .i64 e.at_,.int .i64 e.val]
def EvV.ok (e:EvV):Prop:=InI e.var/\InI e.at_/\InI e.val
def EvV.bytes (e:EvV):List UInt8:=zz e.var++zz e.at_++zz e.val
structure Stop (p:Prop)(i:p->p):Prop where
 out:p
theorem Stop.to{p:Prop}(h:p):Stop p id:=⟨h⟩
structure Only (g:Nat)(w w':World):Prop where
 os:w'.os=w.os
 tape:w'.tape=w.tape
 output:w'.output=w.output
 size:w'.heap.size=w.heap.size
 block:∀k,k≠g->w'.heap[k]? =w.heap[k]?
theorem Row.only{w w':World}{g k:Nat}{t:TypeId}{cs:Array Value}(h:Row w k t cs)(o:Only g w w')(hk:k≠g):Row w' k t cs:=(o.block k hk).trans h
theorem Only.below{w w':World}{g B:Nat}(o:Only g w w')(hg:B<=g):Below B w w':=⟨o.os,o.tape,o.output,LI o.size.symm,λk hk=>o.block k (by omega)⟩
theorem Ql{w w' a:World}{g B:Nat}(b:Below B a w)(o:Only g w w')(hg:B<=g):Below B a w':=b.trans (o.below hg)
theorem ZY (w:World)(g:Nat)(cells:Array Value):Only g w (w.setRow g cells):=
 ⟨rfl,rfl,rfl,by simp[World.setRow],λk hk=>by simp only[World.setRow,Na];rw[if_neg (λh=>hk h.symm)]⟩
section
variable {P:Program} {ops:Array Oper} {rest:List Oper} {o:Oper} {a:Act} {w:World} {K:Act->World->Prop} {Q:Exit->Act->World->Prop}
theorem ZL (ty:TypeId)(ho:o.op=.alloc ty)(z:Value)(cs:Array Value)(hz:(zeroValue ty).run P w=.ok z w)(hc:z.cells=cs)
 (h:∀g w',w.heap.size<=g->Row w' g ty cs->Below g w w'->K (a.put o.dst (.pointer (some ⟨g,0,none⟩))) w'):o.wp P a w K Q:=by
 have e:(execOp a.eval o).run P w=.ok (.value (.pointer (some ⟨w.heap.size,0,none⟩))) (w.alloc (.cells cs ty)):=by
  rw[<-hc];simp[execOp,ho,Instr.alloc,Sem.run_bind,hz,newVar,newRow]
 unfold Oper.wp;rw[e];exact h _ _ (Nat.le_refl _) (Row.new _ _ _) ((Below.refl _ _).alloc (Nat.le_refl _) _)
theorem Qi (hgd:o.guard=none)(ty:TypeId)(ho:o.op=.alloc ty)(z:Value)(cs:Array Value)(hz:(zeroValue ty).run P w=.ok z w)(hc:z.cells=cs)
 (h:∀g w',w.heap.size<=g->Row w' g ty cs->Below g w w'->wpList P ops Q rest (a.put o.dst (.pointer (some ⟨g,0,none⟩))) w'):wpList P ops Q (o::rest) a w:=
 wpList_plain hgd λ_ hK=>ZL ty ho z cs hz hc λg w' h1 h2 h3=>hK _ _ (h g w' h1 h2 h3)
theorem UO (hgd:o.guard=none)(v:Value)(hv:(execOp a.eval o).run P w=.ok (.value v) w)(h:wpList P ops Q rest (a.put o.dst v) w):wpList P ops Q (o::rest) a w:=
 wpList_plain hgd λ_ hK=>by unfold Oper.wp;rw[hv];exact hK _ _ h
theorem Abh{ρ:Operand->Value}(ty:TypeId)(ps:List (Nat×Operand))(ho:o.op=.build ty ps.toArray)(v:Value)(hv:(Instr.build ty (ps.map λ(i,x)=>(i,ρ x)).toArray).run P w=.ok v w):(execOp ρ o).run P w=.ok (.value v) w:=by
 simp only[execOp,ho,Sem.run_bind,Nw,hv,Result.andThen_ok,Sem.run_pure]
theorem Qs (ty:TypeId)(_:o.op=.alloc ty)(h:Stop (wpList P ops Q (o::rest) a w) id):wpList P ops Q (o::rest) a w:=h.out
theorem Qk (ty:TypeId)(p x:Operand)(_:o.op=.store ty p x)(h:Stop (wpList P ops Q (o::rest) a w) id):wpList P ops Q (o::rest) a w:=h.out
theorem Qh (hgd:o.guard=none)(ty:TypeId)(p x:Operand)(ho:o.op=.store ty p x)(g:Nat)(cells:Array Value)(hp:a.eval p=.pointer (some ⟨g,0,none⟩))(hx:a.eval x=.agg cells)
 (t:TypeId) (cur:Array Value) (hg:Row w g t cur) (hi:(P.info? ty).map (·.size)=some cells.size) (hs:cur.size=cells.size) (h1:cells.all (·.oneCell')=true)
 (h:∀w',Row w' g t cells->Only g w w'->wpList P ops Q rest (a.put o.dst undef) w'):wpList P ops Q (o::rest) a w:=
 wpList_store_row hgd ty p x ho g cells hp hx t cur hg hi hs h1 (h _ (hg.setRow cells) (ZY _ _ _))
end
class St (S:World->Prop):Prop where
 go:∀{W W':World},S W->Below W.heap.size W W'->S W'
theorem St.drew{S:World->Prop}[h:St S]{W:World}(hS:S W):S W.drew:=h.go hS ⟨rfl,rfl,rfl,Nat.le_refl _,λ_ _=>rfl⟩
theorem St.drewN{S:World->Prop}[h:St S]{W:World}(hS:S W)(n:Nat):S (W.drewN n):=h.go hS ⟨rfl,rfl,rfl,Nat.le_refl _,λ_ _=>rfl⟩
theorem St.alloc{S:World->Prop}[h:St S]{W:World}(hS:S W)(o:Obj):S (W.alloc o):=h.go hS ((Below.refl _ _).alloc (Nat.le_refl _) o)
theorem St.from_{S:World->Prop}[h:St S]{W W':World}{g:Nat}(hS:S W)(hb:Below g W W')(hg:W.heap.size<=g):S W':=h.go hS (hb.mono hg)
instance St.row{g:Nat}{t:TypeId}{cs:Array Value}:St (λW=>Row W g t cs):=⟨λh b=>h.below b h.lt⟩
instance St.below{w:World}:St (λW=>Below w.heap.size w W):=⟨λh b=>h.trans (b.mono h.size)⟩
instance St.and{S T:World->Prop}[hs:St S][ht:St T]:St (λW=>S W/\T W):=⟨λh b=>⟨hs.go h.1 b,ht.go h.2 b⟩⟩
instance St.lt{n:Nat}:St (λW=>n<W.heap.size):=⟨λh b=>Lg h b.size⟩
instance St.le{n:Nat}:St (λW=>n<=W.heap.size):=⟨λh b=>Lj h b.size⟩
section
variable {P:Program} {ops:Array Oper} {md:Region.Mode} {S:World->Prop}
def YJ (P:Program)(S:World->Prop)(v:Value):Result Next->Prop
 | .ok (.value u) W=>u=v/\S W
 | .ok .skip W=>v=undef/\S W
 | .ok (.enter f args) W=>Calls P f args W λe W'=>e=.returned v/\S W'
 |_=>False
def YieldsH (P:Program)(ops:Array Oper)(S:World->Prop)(o:Oper)(v:Value)(a:Act):Prop:=
 (Region.wanted o (yielded ops a.tmps)=true/\∀W,S W->YJ P S v ((execOp a.eval o).run P W))\/(Region.wanted o (yielded ops a.tmps)=false/\v=undef)
def ZO (P:Program)(ops:Array Oper)(S:World->Prop)(Q:Act->Prop):List Oper->Act->Prop
 |[],a=>Q a
 |o::rest,a=>∃v,YieldsH P ops S o v a/\ZO P ops S Q rest (a.put o.dst v)
theorem QE{Q:Act->Prop}{a:Act}(h:Q a):ZO P ops S Q [] a:=h
theorem Acn{Q:Act->Prop}{a:Act}{o:Oper}{rest:List Oper}(hw:Region.wanted o (yielded ops a.tmps)=false)(h:ZO P ops S Q rest (a.put o.dst undef)):ZO P ops S Q (o::rest) a:=
 ⟨undef,.inr ⟨hw,rfl⟩,h⟩
theorem Qe{Q:Act->Prop}{a:Act}{o:Oper}{rest:List Oper}(hw:Region.wanted o (yielded ops a.tmps)=true)(v:Value)(hv:∀W,S W->(execOp a.eval o).run P W=.ok (.value v) W)(h:ZO P ops S Q rest (a.put o.dst v)):ZO P ops S Q (o::rest) a:=
 ⟨v,.inl ⟨hw,λW hW=>by rw[hv W hW];exact⟨rfl,hW⟩⟩,h⟩
theorem AhN{Q:Act->Prop}{a:Act}{o:Oper}{rest:List Oper}(hw:Region.wanted o (yielded ops a.tmps)=true)(f:FuncId)(args:Array Value)(he:∀W,(execOp a.eval o).run P W=.ok (.enter f args) W)(v:Value)
 (hc:∀W,S W->Calls P f args W λe W'=>e=.returned v/\S W') (h:ZO P ops S Q rest (a.put o.dst v)):ZO P ops S Q (o::rest) a:=
 ⟨v,.inl ⟨hw,λW hW=>by rw[he W];exact hc W hW⟩,h⟩
theorem QA [hst:St S]{Q:Act->Prop}{a:Act}{o:Oper}{rest:List Oper}(hw:Region.wanted o (yielded ops a.tmps)=true)(f:FuncId)(args:Array Value)(he:∀W,(execOp a.eval o).run P W=.ok (.enter f args) W)(v:Value)
 (hc:∀W,S W->Calls P f args W λe W'=>e=.returned v/\Below W.heap.size W W') (h:ZO P ops S Q rest (a.put o.dst v)):ZO P ops S Q (o::rest) a:=
 AhN hw f args he v (λW hW=>(hc W hW).mono λ_ _ ⟨h1,h2⟩=>⟨h1,hst.go hW h2⟩) h
theorem ZN{Q:Act->Prop}{a:Act}{o:Oper}{rest:List Oper}(hw:Region.wanted o (yielded ops a.tmps)=true)(ty:TypeId)(x:Operand)(ho:o.op=.load ty x)(g:Nat)(hx:a.eval x=.pointer (some ⟨g,0,none⟩))(t:TypeId)(cs:Array Value)(d:TypeDesc)
 (hr:∀W,S W->Row W g t cs) (hu:P.underlying ty=some d) (hd:(match d with| .struct _| .array _ _=>true|_=>false)=true) (hi:(P.info? ty).map (·.size)=some cs.size)
 (h:ZO P ops S Q rest (a.put o.dst (.agg cs))):ZO P ops S Q (o::rest) a:=
 Qe hw (.agg cs) (λW hW=>by
  simp only[execOp,ho,hx,Instr.loadAt,Instr.sureAddr,Sem.run_bind,Sem.run_pure,Result.andThen_ok,run_loadVar_row W g t ty cs (0,0) d (hr W hW) hu hd hi]) h
def hOp (P:Program)(ops:Array Oper)(S:World->Prop)(i:Nat)(K:Act->Prop)(a:Act):Prop:=
 match ops[i]? with
 |none=>K a
 |some o=>∃v,YieldsH P ops S o v a/\K (a.put o.dst v)
theorem Aej{i:Nat}{o:Oper}{K:Act->Prop}{a:Act}(hi:ops[i]? =some o):hOp P ops S i K a<->∃v,YieldsH P ops S o v a/\K (a.put o.dst v):=by
 unfold hOp;simp only[hi]
theorem Aei{i:Nat}{a:Act}{K K':Act->Prop}(h:∀a,K a->K' a)(hh:hOp P ops S i K a):hOp P ops S i K' a:=by
 unfold hOp at*;split
 ·rename_i b;simp only[b]at hh;exact h _ hh
 ·rename_i o b;simp only[b]at hh;obtain⟨v,d,c⟩:=hh;exact⟨v,d,h _ c⟩
theorem EP{i:Nat}{a:Act}{w:World}(hS:S w){K:Act->Prop}{K':Act->World->Prop}{Q':Exit->Act->World->Prop}(h:∀a W,K a->S W->K' a W)(hh:hOp P ops S i K a):wpOp P ops Q' i K' a w:=by
 unfold hOp at hh;unfold wpOp;split
 ·rename_i g;simp only[g]at hh;exact h _ _ hh hS
 ·rename_i o g;simp only[g]at hh;obtain⟨v,l,c⟩:=hh;rcases l with⟨j,k⟩|⟨j,rfl⟩
  ·simp only[j,if_true];refine .inl ?_;have b:=k w hS;unfold Oper.wp;generalize (execOp a.eval o).run P w=r at b;cases r with
   |ok n w'=>
    cases n<;>simp only[YJ]at b<;>simp only[Oper.upon]
    case value u=>obtain⟨rfl,d⟩:=b;exact h _ _ c d
    case skip=>obtain⟨rfl,d⟩:=b;exact h _ _ c d
    case enter f args=>exact b.mono λe w'' ⟨he,hs⟩=>by subst he;exact h _ _ c hs
   |halt x w'=>simp only[YJ]at b
  ·simp only[j,Bool.false_eq_true,if_false];exact h _ _ c hS
theorem YieldsH.of_same{o:Oper}{v:Value}{a a':Act}(hy:YieldsH P ops S o v a)(he:execOp a'.eval o=execOp a.eval o)
 (hw:Region.wanted o (yielded ops a'.tmps)=Region.wanted o (yielded ops a.tmps)):YieldsH P ops S o v a':=by
 unfold YieldsH at*;rw[he,hw];exact hy
theorem AgB{j:Nat}{oi oj:Oper}{v:Value}(hj:ops[j]? =some oj)(hap:oi.apart ops oj=true)
 (hsi:∀cs b,oi.op≠.select cs b) (hsj:∀cs b,oj.op≠.select cs b) {K:Act->Prop} {a:Act}
 (hy:YieldsH P ops S oi v a) (h:hOp P ops S j K (a.put oi.dst v)):
 hOp P ops S j (λa'=>YieldsH P ops S oi v a'/\K (a'.put oi.dst v)) a:=by
 obtain⟨d,g,e⟩:=Oper.apart_spec hap;rw[Aej hj]at h|-;obtain⟨u,c,i⟩:=h;refine⟨u,c.of_same (execOp_put oj hsj a oi.dst v d).symm (wanted_put oj a oi.dst v d).symm,hy.of_same (execOp_put oi hsi a oj.dst u e) (wanted_put oi a oj.dst u e),?_⟩;rw[<-Act.put_comm a v u g];exact i
def Abx (P:Program)(md:Region.Mode)(ops:Array Oper)(S:World->Prop)(Q:Act->Prop):Nat->Array Bool->Act->Prop
 |0,listed,a=>Region.ready md ops listed=[]/\Q a
 |fuel+1,listed,a=>
  (Region.ready md ops listed=[]->Q a)/\
  ∀i∈Region.ready md ops listed,hOp P ops S i (Abx P md ops S Q fuel (listed.setIfInBounds i true)) a
theorem Uv{Q:Act->Prop}{Q':Exit->Act->World->Prop}(hQ:∀a W,Q a->S W->Q' .normal a W):∀(fuel:Nat) (listed:Array Bool) (a:Act) (w:World),S w->
 Abx P md ops S Q fuel listed a->wpAny P md ops Q' fuel listed a w
 |0,_,_,_,hS,h=>⟨h.1,hQ _ _ h.2 hS⟩
 |fuel+1,_,_,_,hS,h=>⟨λh0=>hQ _ _ (h.1 h0) hS,λi hi=>EP hS (λa' W hK hSW=>Uv hQ fuel _ a' W hSW hK) (h.2 i hi)⟩
theorem YieldsH.hOp{i:Nat}{o:Oper}{v:Value}{a:Act}(hi:ops[i]? =some o)(hy:YieldsH P ops S o v a){K:Act->Prop}(h:K (a.put o.dst v)):hOp P ops S i K a:=
 (Aej hi).2 ⟨v,hy,h⟩
theorem AdC{Q:Act->Prop}{i:Nat}{oi:Oper}{v:Value}(hi:ops[i]? =some oi)(hsel:∀(j:Nat) (o:Oper) cs b,ops[j]? =some o->o.op≠.select cs b):
 ∀(fuel:Nat) (listed:Array Bool) (a:Act),
  (∀j oj,ops[j]? =some oj->j≠i->listed.getD j true=false->(∀e∈oj.after,Region.binds md e=true->e.on≠i)->oi.apart ops oj=true)->
  i∈Region.ready md ops listed->YieldsH P ops S oi v a->
  Abx P md ops S Q fuel (listed.setIfInBounds i true) (a.put oi.dst v)->Abx P md ops S Q (fuel+1) listed a:=by
 intro fuel
 induction fuel with
 |zero=>
  intro listed a _ n x H;refine⟨λh=>(by rw[h]at n;cases n),λj w=>?_⟩;by_cases c:j=i
  ·subst c;exact x.hOp hi H
  ·have:=ready_mono w c;rw[H.1]at this;cases this
 |succ fuel ih=>
  intro listed a d n x H;refine⟨λh=>(by rw[h]at n;cases n),λj w=>?_⟩;by_cases c:j=i
  ·subst c;exact x.hOp hi H
  ·have u:=H.2 j (ready_mono w c);obtain⟨l,oj,m,p⟩:=mem_ready.1 w
   have s:∀e∈oj.after,Region.binds md e=true->e.on≠i:=λe he hb y=>by
    have u:=p e he hb;have h0:=(mem_ready.1 n).1;rw[y,getD_both h0]at u;cases u
   have h2:=AgB m (d j oj m c l s) (λcs b=>hsel i oi cs b hi) (λcs b=>hsel j oj cs b m) x u
   have g:∀k ok,ops[k]? =some ok->k≠i->(listed.setIfInBounds j true).getD k true=false->
    (∀e∈ok.after,Region.binds md e=true->e.on≠i)->oi.apart ops ok=true:=λk ok hk z t aa=>by
    refine d k ok hk z ?_ aa;by_cases q:j=k
    ·subst q;exact l
    ·rw[getD_set_ne true q]at t;exact t
   refine Aei (λa' h3=>ih (listed.setIfInBounds j true) a' g (ready_mono n (Ne.symm c)) h3.1 ?_) h2;rw[NC _ _ c];exact h3.2
theorem Aby{Q:Act->Prop}(hs:Region.noSelect ops=true):∀(l:List Oper) (k:Nat) (listed:Array Bool) (a:Act),(∀j,l[j]? =ops[k+j]?)->
 Region.lexFrom md ops l.length k listed=true->ZO P ops S Q l a->Abx P md ops S Q l.length listed a
 |[],_,_,_,_,hB,h=>⟨by simpa[Region.lexFrom]using hB,h⟩
 |o::l,k,listed,a,hl,hB,h=>by
  have h0:ops[k]? =some o:=by simpa using (hl 0).symm
  simp only[Le,Region.lexFrom,LK]at hB
  obtain⟨⟨hr,hf⟩,hB'⟩:=hB
  obtain⟨v,hy,hK⟩:=h
  exact AdC h0 (Region.noSelect_spec hs) l.length listed a (Region.free_spec h0 hf) (by simpa using hr) hy
   (Aby hs l (k+1) _ _ (λj=>by have:=hl (j+1);simpa[Nn,N6 1 j]using this) hB' hK)
theorem QG{id:Nat}{Q:Exit->Act->World->Prop}{a:Act}{w:World}{l:List Oper}(S:World->Prop)(hm:P.follows .mixedOrders=true)(hB:Region.lexB .any l.toArray=true)(hS:S w.drew)
 (h:ZO P l.toArray S (λa'=>∀W,S W->Q .normal a' W) l a):(Code.region id l.toArray true).wp P Q a w:=by
 simp only[Region.lexB,LK]at hB;refine wp_region_any hm (Uv (S:=S) (Q:=λa'=>∀W,S W->Q .normal a' W) (λ_ W h b=>h W b) _ _ _ _ hS ?_);have:=Aby (md:=.any) hB.1 l 0 (Array.replicate l.toArray.size false) a (by simp) (by simpa using hB.2) h;simpa using this
def VG (P:Program)(md:Region.Mode)(ops:Array Oper)(S:World->Prop)(n:Nat)(L:Array Bool->Act->Prop):Nat->Array Bool->Act->Prop
 |0,listed,a=>L listed a
 |f+1,listed,a=>
  Region.ready md ops listed≠[]/\∀i∈Region.ready md ops listed,i<n/\hOp P ops S i (VG P md ops S n L f (listed.setIfInBounds i true)) a
theorem Xf{n g:Nat}{L:Array Bool->Act->Prop}{Q':Exit->Act->World->Prop}(hL:∀listed a W,L listed a->S W->wpAny P md ops Q' g listed a W):
 ∀(f:Nat) (listed:Array Bool) (a:Act) (w:World),S w->VG P md ops S n L f listed a->wpAny P md ops Q' (f+g) listed a w
 |0,listed,a,w,hS,h=>by rw[LS];exact hL _ _ _ h hS
 |f+1,listed,a,w,hS,h=>by
  rw[show f+1+g=(f+g)+1 by omega]
  exact⟨λh0=>absurd h0 h.1,λi hi=>EP hS (λa' W h' hW=>Xf hL f _ a' W hW h') (h.2 i hi).2⟩
theorem AbV{n i:Nat}{oi:Oper}{v:Value}{L:Array Bool->Act->Prop}(hi:ops[i]? =some oi)(hsel:∀(j:Nat) (o:Oper) cs b,ops[j]? =some o->o.op≠.select cs b)
 (hs:Region.sinkB md ops n=true) (hc:Region.chainB md ops n=true) (hn:n<ops.size) (hin:i<n)
 (hdone:∀listed a,L listed a->∀j∈Region.ready md ops listed,n<=j):
 ∀(f:Nat) (listed:Array Bool) (a:Act),HeadInv md ops n listed->
  (∀j oj,ops[j]? =some oj->j≠i->listed.getD j true=false->(∀e∈oj.after,Region.binds md e=true->e.on≠i)->oi.apart ops oj=true)->
  i∈Region.ready md ops listed->YieldsH P ops S oi v a->
  VG P md ops S n L f (listed.setIfInBounds i true) (a.put oi.dst v)->VG P md ops S n L (f+1) listed a:=by
 intro f
 induction f with
 |zero=>
  intro listed a p _ s hy H;have d:=(mem_ready.1 s).1;refine⟨λh=>(by rw[h]at s;cases s),λj t=>?_⟩
  have m:j<n:=by
   rcases Nz j n with h|h
   ·exact h
   ·exact absurd t (tail_waits hs hc hn p _ i rfl hin d j h)
  refine⟨m,?_⟩;by_cases c:j=i
  ·subst c;exact hy.hOp hi H
  ·have:=hdone _ _ H j (ready_mono t c);omega
 |succ f ih=>
  intro listed a p g s hy H;have d:=(mem_ready.1 s).1;refine⟨λh=>(by rw[h]at s;cases s),λj t=>?_⟩
  have m:j<n:=by
   rcases Nz j n with h|h
   ·exact h
   ·exact absurd t (tail_waits hs hc hn p _ i rfl hin d j h)
  refine⟨m,?_⟩;by_cases c:j=i
  ·subst c;exact hy.hOp hi H
  ·have z:=(H.2 j (ready_mono t c)).2;obtain⟨q,oj,u,w⟩:=mem_ready.1 t
   have y:∀e∈oj.after,Region.binds md e=true->e.on≠i:=λe he hb aa=>by
    have z:=w e he hb;rw[aa,getD_both d]at z;cases z
   have h2:=AgB u (g j oj u c q y) (λcs b=>hsel i oi cs b hi) (λcs b=>hsel j oj cs b u) hy z
   have l:∀k ok,ops[k]? =some ok->k≠i->(listed.setIfInBounds j true).getD k true=false->
    (∀e∈ok.after,Region.binds md e=true->e.on≠i)->oi.apart ops ok=true:=λk ok hk ab d ac=>by
    refine g k ok hk ab ?_ ac;by_cases x:j=k
    ·subst x;exact q
    ·rw[getD_set_ne true x]at d;exact d
   refine Aei (λa' h3=>ih (listed.setIfInBounds j true) a' (p.set t m) l (ready_mono s (Ne.symm c)) h3.1 ?_) h2;rw[NC _ _ c];exact h3.2
theorem Y3{n g:Nat}{Lq:Act->Prop}(hsel:Region.noSelect ops=true)(hs:Region.sinkB md ops n=true)(hc:Region.chainB md ops n=true)(hn:n<ops.size):
 ∀(l:List Oper) (k:Nat) (listed:Array Bool) (a:Act),(∀j,j<l.length->l[j]? =ops[k+j]?)->k+l.length=n->HeadInv md ops n listed->
 Region.lexHead md ops g l.length k listed=true->ZO P ops S Lq l a->
 VG P md ops S n (λlisted' a'=>Region.seqB md ops g n listed'=true/\Lq a') l.length listed a
 |[],k,listed,a,_,hk,_,hB,h=>by
  have:k=n:=by simpa using hk
  subst this
  exact⟨by simpa[Region.lexHead]using hB,h⟩
 |o::l,k,listed,a,hl,hk,inv,hB,h=>by
  have h0:ops[k]? =some o:=by simpa using (hl 0 (by simp)).symm
  simp only[Le,Region.lexHead,LK]at hB
  obtain⟨⟨hr,hf⟩,hB'⟩:=hB
  have hkn:k<n:=by simp only[Le]at hk;omega
  have hr':k∈Region.ready md ops listed:=by simpa using hr
  obtain⟨v,hy,hK⟩:=h
  exact AbV h0 (Region.noSelect_spec hsel) hs hc hn hkn (λlisted' a' hL=>seqB_ready hL.1) l.length listed a inv (Region.free_spec h0 hf) hr' hy
   (Y3 hsel hs hc hn l (k+1) _ _ (λj hj=>by have:=hl (j+1) (by simp;omega);simpa[Nn,N6 1 j]using this) (by simp only[Le]at hk;omega) (inv.set hr' hkn) hB' hK)
theorem Ee{id:Nat}{Q:Exit->Act->World->Prop}{a:Act}{w:World}{l:List Oper}(S:World->Prop)(n:Nat)(hm:P.follows .mixedOrders=true)(hB:Region.lexTailB .any l.toArray n=true)(hS:S w.drew)
 (h:ZO P l.toArray S (λa'=>∀W,S W->wpList P l.toArray Q (l.drop n) a' W) (l.take n) a):(Code.region id l.toArray true).wp P Q a w:=by
 simp only[Region.lexTailB,LK,decide_eq_true_eq]at hB;obtain⟨⟨⟨⟨i,s⟩,y⟩,v⟩,e⟩:=hB;have x:n<l.length:=by simpa using s
 have b:(l.take n).length=n:=by simp;omega
 have d:(l.drop n).length=l.toArray.size-n:=by simp
 have k:HeadInv .any l.toArray n (Array.replicate l.toArray.size false):=
  ⟨by simp,λj oj _ q=>(by rw[getD_replicate_false]at q;cases q),λt _ z=>getD_in (by simpa using z) (getD_replicate_false _ _)⟩
 have H:=Y3 (md:=.any) (g:=l.toArray.size-n) i y v s (l.take n) 0 _ a (λj p=>by
  have m:j<n:=by rw[b]at p;exact p
  simp[m]) (by simpa using b) k (by rw[b];exact e) h
 refine wp_region_any hm ?_
 have:=Xf (Q':=Q) (g:=l.toArray.size-n) (λc a' W o u=>by
  have:=wpAny_of_seq (md:=.any) (Q':=Q) (l.drop n) n c a' W (λj=>by simp[Ni]) (by rw[d];exact o.1) (o.2 W u)
  rwa[d]at this) _ _ _ _ hS H
 rw[b,show n+(l.toArray.size-n)=l.toArray.size by omega]at this;exact this
end
theorem AbB{P:Program}{ops:Array Oper}{S:World->Prop}{a:Act}{o:Oper}(hw:Region.wanted o (yielded ops a.tmps)=true)(ty:TypeId)(x:Operand)(ho:o.op=.load ty x)(g:Nat)(hx:a.eval x=.pointer (some ⟨g,0,none⟩))(t:TypeId)(cs:Array Value)(d:TypeDesc)
 (hr:∀W,S W->Row W g t cs) (hu:P.underlying ty=some d) (hd:(match d with| .struct _| .array _ _=>true|_=>false)=true) (hi:(P.info? ty).map (·.size)=some cs.size):YieldsIf P ops S o (.agg cs) a:=
 .inl ⟨hw,λW hW=>by simp only[execOp,ho,hx,Instr.loadAt,Instr.sureAddr,Sem.run_bind,Sem.run_pure,Result.andThen_ok,run_loadVar_row W g t ty cs (0,0) d (hr W hW) hu hd hi]⟩
theorem Qd{P:Program}{ops:Array Oper}{S:World->Prop}{a:Act}{o:Oper}(hw:Region.wanted o (yielded ops a.tmps)=true){v:Value}(hv:∀W,S W->(execOp a.eval o).run P W=.ok (.value v) W):YieldsIf P ops S o v a:=.inl ⟨hw,hv⟩
theorem E1{l:List Oper}{i:Nat}{o:Oper}{rest:List Oper}(ho:l.drop i=o::rest):l.toArray[i]? =some o:=by
 have:=congrArg List.head? ho;rw[List.head?_drop]at this;simpa using this
theorem AcW{P:Program}{md:Region.Mode}{l:List Oper}{Q:Exit->Act->World->Prop}{S:World->Prop}{i:Nat}{oi:Oper}{rest:List Oper}{v:Value}{fuel:Nat}{listed:Array Bool}{a:Act}{w:World}(ho:l.drop i=oi::rest)
 (hs:Region.noSelect l.toArray=true) (hf:Region.free md l.toArray listed i=true) (hr:(Region.ready md l.toArray listed).contains i=true)
 (hQ:∀c a w,Q (.panic c) (a.put oi.dst v) w->Q (.panic c) a w) (hy:YieldsIf P l.toArray S oi v a) (hS:S w)
 (h:wpAnyH P md l.toArray Q S fuel (listed.setIfInBounds i true) (a.put oi.dst v) w):wpAnyH P md l.toArray Q S (fuel+1) listed a w:=
 wpAnyH_take (E1 ho) hs hf hr hQ hy hS h
theorem tkH{P:Program}{md:Region.Mode}{l:List Oper}{Q:Exit->Act->World->Prop}{S:World->Prop}(i:Nat){oi:Oper}{rest:List Oper}(v:Value){fuel:Nat}{listed:Array Bool}{a:Act}{w:World}(ho:l.drop i=oi::rest)(hy:YieldsIf P l.toArray S oi v a)
 (h:wpAnyH P md l.toArray Q S fuel (listed.setIfInBounds i true) (a.put oi.dst v) w) (hs:Region.noSelect l.toArray=true:=by kernel_rfl) (hf:Region.free md l.toArray listed i=true:=by kernel_rfl) (hr:(Region.ready md l.toArray listed).contains i=true:=by kernel_rfl)
 (hQ:∀c a w,Q (.panic c) (a.put oi.dst v) w->Q (.panic c) a w:=by exact λ_ _ _ h=>h) (hS:S w:=by assumption):wpAnyH P md l.toArray Q S (fuel+1) listed a w:=AcW ho hs hf hr hQ hy hS h
theorem Qg{P:Program}{l:List Oper}{Q:Exit->Act->World->Prop}{i:Nat}{o:Oper}{rest:List Oper}{K:Act->World->Prop}{a:Act}{w:World}(ho:l.drop i=o::rest)(hg:o.guard=none)(h:∀K':Act->World->Prop,(∀a w,K a w->K' a w)->o.wp P a w K' Q):wpOp P l.toArray Q i K a w:=by
 have b:=E1 ho;unfold wpOp;simp only[b];rw[if_pos (by simp[Region.wanted,hg])];exact .inl (h K λ_ _ h=>h)
theorem VJ{P:Program}{o:Oper}{a:Act}{w:World}{K:Act->World->Prop}{Q:Exit->Act->World->Prop}(ty:TypeId)(p x:Operand)(ho:o.op=.store ty p x)(g:Nat)(cells:Array Value)(hp:a.eval p=.pointer (some ⟨g,0,none⟩))(hx:a.eval x=.agg cells)
 (t:TypeId) (cur:Array Value) (hg:Row w g t cur) (hi:(P.info? ty).map (·.size)=some cells.size) (hs:cur.size=cells.size) (h1:cells.all (·.oneCell')=true)
 (h:∀w',Row w' g t cells->Only g w w'->K (a.put o.dst undef) w'):o.wp P a w K Q:=by
 have:=wp_store_row (P:=P) (o:=o) (a:=a) (w:=w) (K:=K) (Q:=Q) ty p x ho g cells hp hx t cur hg hi hs h1 (h _ (hg.setRow cells) (ZY _ _ _));exact this
theorem Qm{P:Program}{o:Oper}{a:Act}{w w1:World}{K:Act->World->Prop}{Q:Exit->Act->World->Prop}(f:FuncId)(args:Array Value)(he:(execOp a.eval o).run P w=.ok (.enter f args) w1)
 (hc:Calls P f args w1 λe w'=>∃v,e=.returned v/\K (a.put o.dst v) w'):o.wp P a w K Q:=by
 unfold Oper.wp;rw[he];simp only[Oper.upon];exact hc.mono λe w' ⟨v,h1,h2⟩=>by subst h1;exact h2
theorem Qr{P:Program}{o:Oper}{a:Act}{w w1:World}{K:Act->World->Prop}{Q:Exit->Act->World->Prop}(v:Value)(he:(execOp a.eval o).run P w=.ok (.value v) w1)(h:K (a.put o.dst v) w1):o.wp P a w K Q:=by
 unfold Oper.wp;rw[he];exact h
def Aab{β:Type}(own:Nat->Prop)(B:Nat)(J:β->World->Prop):Prop:=
 ∀s W W' row,J s W->W.grownBy W' row->(∀r,row=some r->own r\/(B<=r/\∃o:Obj,W.heap[r]? =some o/\o.isCells=false))->J s W'
def AiF{α:Type}(P:Program)(g:Nat)(lb:Array Value)(encs:α->Array Value)(own:Nat->Prop)(Kp:World->World->Prop)(S Sp:List α->Prop)(N:Nat)(w:World):Prop:=
 ∀(l:Nat) (J Jx:List α->World->Prop) (W:World),W.grownBy W none->w.grownBy W none->Aab own W.heap.size J->Aab own W.heap.size Jx->
  (∀pre x W1,J pre W1->pre.length<N->YieldAt Fence.wide 0 P l (encs x) W1 λe W'=>
   (e=.returned (.bool true)/\J (pre++[x]) W'/\Kp W1 W')\/(e=.returned (.bool false)/\Jx (pre++[x]) W'))->
  J [] W->
  CallsIn Fence.wide 0 P g (#[.func (.yield l) #[] #[]]++lb) W λe W'=>(∃v,e=.returned v)/\((∃xs,S xs/\J xs W')\/(∃pre,Sp pre/\Jx pre W'))
theorem KeepsFrom.of_below{B:Nat}{W W':World}(h:Below W.heap.size W W'):KeepsFrom B W W':=
 ⟨h.size,λk _ _ hk _=>(h.block k (Lt.1 hk).1).trans hk⟩
theorem KeepsFrom.alloc (B:Nat)(W:World)(o:Obj):KeepsFrom B W (W.alloc o):=(KeepsOthers.alloc W o).from B
theorem KeepsFrom.setRow{B:Nat}{W:World}{g:Nat}{t:TypeId}{cs:Array Value}(h:Row W g t cs)(cells:Array Value):KeepsFrom B W (W.setRow g cells):=
 ⟨by simp[World.setRow],λk o _ hk ho=>by
  simp only[World.setRow,Na]
  by_cases e:g=k
  ·subst e;rw[h]at hk;cases hk;cases ho
  ·rw[if_neg e,hk]⟩
section
variable {F:Fence} {n:Nat} {P:Program}
theorem Kg{ops:Array Oper}{rest:List Oper}{o:Oper}{a:Act}{w:World}{Q:Exit->Act->World->Prop}(hgd:o.guard=none)(ty:TypeId)(x:Operand)(ho:o.op=.load ty x)
 (g:Nat) (hx:a.eval x=.pointer (some ⟨g,0,none⟩)) (t:TypeId) (cs:Array Value) (fr:Nat×Nat) (d:TypeDesc) (hg:w.heap[g]? =some (.cells cs t fr))
 (hu:P.underlying ty=some d) (hd:(match d with| .struct _| .array _ _=>true|_=>false)=true) (hi:(P.info? ty).map (·.size)=some cs.size)
 (h:wpListIn F n P ops Q rest (a.put o.dst (.agg cs)) w):wpListIn F n P ops Q (o::rest) a w:=by
 refine wpListIn_plain hgd λK e=>?_
 unfold Oper.wpIn;refine⟨?_,?_⟩
 ·simp[Oper.about,ho]
 ·rw[Oper.semAt_plain F _ _ (by rw[ho];intro c b;cases b)];simp only[execOp,ho,hx,Instr.loadAt,Instr.sureAddr,Sem.run_bind,Sem.run_pure,Result.andThen_ok,run_loadVar_row w g t ty cs fr d hg hu hd hi];exact e _ _ h
theorem Zz{ops:Array Oper}{rest:List Oper}{o:Oper}{a:Act}{w:World}{Q:Exit->Act->World->Prop}(hgd:o.guard=none)(ty:TypeId)(x y:Operand)(ho:o.op=.store ty x y)
 (g:Nat) (cells:Array Value) (hx:a.eval x=.pointer (some ⟨g,0,none⟩)) (hy:a.eval y=.agg cells)
 (t:TypeId) (old:Array Value) (hg:w.heap[g]? =some (.cells old t (0,0))) (hi:(P.info? ty).map (·.size)=some cells.size)
 (hold:old.size=cells.size) (h1:cells.all (·.oneCell')=true)
 (h:wpListIn F n P ops Q rest (a.put o.dst undef) (w.setRow g cells)):wpListIn F n P ops Q (o::rest) a w:=by
 refine wpListIn_plain hgd λK d=>?_
 unfold Oper.wpIn;refine⟨?_,?_⟩
 ·simp[Oper.about,ho]
 ·rw[Oper.semAt_plain F _ _ (by rw[ho];intro c b;cases b)];simp only[execOp,ho,hx,hy,Instr.storeAt,Instr.sureAddr,Sem.run_bind,Sem.run_pure,Result.andThen_ok,run_storeVar_row w g t ty old cells hg hi hold h1];exact d _ _ h
end
section
variable {P:Program}
theorem Aj3{α:Type}{g:Operand}{ps:Array Tmp}{assign body:Code}{Q:Exit->Act->World->Prop}{a:Act}{w:World}
 {gf:Nat} {lb:Array Value} (hg:a.eval g=.func (.func gf) #[] lb) (eg:∀args w,(callFunc gf args).run P w=.ok (.enter gf args) w)
 {encs:α->Array Value} {own:Nat->Prop} {Kp:World->World->Prop} {S Sp:List α->Prop} {N:Nat} {w0:World} (hseq:AiF P gf lb encs own Kp S Sp N w0)
 (hown:∀r,own r->r<w.heap.size)
 (hKt:∀{A B C:World},Kp A B->Kp B C->Kp A C) (hKb:∀(W:World) (l:Nat) (o o':Obj),w.heap.size<=l->W.heap[l]? =some o->o.isCells=false->Kp W (W.putObj l o')) (hb0:w0.grownBy w none) (hps:∀x,(encs x).size=ps.size)
 (I:List α->World->Prop) (Ix:Code->List α->World->Prop) (hI:Aab own w.heap.size I) (hIx:∀c,Aab own w.heap.size (Ix c)) (h0:I [] w) (Ax:α->Act->World->Prop) (hAx:∀x a',Aab own w.heap.size (λ(_:Unit) W=>Ax x a' W))
 (hassign:∀(l:Nat) (pre:List α) (x:α) (W:World) (K:Act->World->Prop),I pre W->(∀a' W',KeepsFrom w.heap.size W W'->Kp W W'->I pre W'->Ax x a' W'->K a' W')->
  assign.wpIn (Fence.wide.inRound l) 0 P (Exit.then K (λ_ _ _=>False)) { tmps:=(ps.zip (encs x)).foldl (λt (p,v)=>t.setIfInBounds p v) a.tmps,defers:=[] } W)
 (hbody:∀(l:Nat) (pre:List α) (x:α) (a':Act) (W:World),w.heap.size<=l->(∃r,W.heap[l]? =some (.loop r))->I pre W->Ax x a' W->pre.length<N->body.wpIn (Fence.wide.inRound l) 0 P (ownPostG w.heap.size Kp I Ix (pre++[x]) W) a' W)
 (hdone:∀(D:Nat) (xs:List α) (W:World),w.heap.size<=D->S xs->I xs W->W.heap[D]? =some (.deferred (some []))->Q .normal { a with defers:={ target:=.collected D,args:=#[] }::a.defers } W)
 (hstop:∀(D:Nat) (c:Code) (pre:List α) (W:World),w.heap.size<=D->Sp pre->Ix c pre W->W.heap[D]? =some (.deferred (some []))->c.wpIn Fence.wide 0 P Q { a with defers:={ target:=.collected D,args:=#[] }::a.defers } W):
 (Code.rangeFunc g ps assign body).wpIn Fence.wide 0 P Q a w:=by
 refine wpIn_rangeFunc ?_;intro fn av;obtain⟨d,i⟩:∃d:LoopState->Option Code->Loop,d=λst pe=>{ state:=st,pending:=pe,fn,tmps:=a.tmps,params:=ps,assign,body,defers:=w.heap.size }:=⟨_,rfl⟩;obtain⟨z,ae⟩:∃z,(w.alloc (.deferred (some []))).alloc (.loop (d .ready none))=z:=⟨_,rfl⟩
 have aq:z.heap[w.heap.size+1]? =some (.loop (d .ready none)):=by
  rw[<-ae];have:=World.alloc_heap_new (w.alloc (.deferred (some []))) (.loop (d .ready none));rwa[World.size_alloc]at this
 have ap:z.heap[w.heap.size]? =some (.deferred (some [])):=by
  rw[<-ae];exact(Below.heap_alloc _ _ _ (by simp)).trans (World.alloc_heap_new w _)
 have aa:∀{s:List α} {W:World} {l:Nat} {o:Obj} (o':Obj),I s W->w.heap.size<=l->W.heap[l]? =some o->o.isCells=false->I s (W.putObj l o'):=
  λo' hs hB q ho=>hI _ _ _ (some _) hs (grownBy_putObj' _ _ o') (λr e=>by cases e;exact .inr ⟨hB,_,q,ho⟩)
 have m:∀{c:Code} {s:List α} {W:World} {l:Nat} {o:Obj} (o':Obj),Ix c s W->w.heap.size<=l->W.heap[l]? =some o->o.isCells=false->Ix c s (W.putObj l o'):=
  λo' hs hB q ho=>hIx _ _ _ _ (some _) hs (grownBy_putObj' _ _ o') (λr e=>by cases e;exact .inr ⟨hB,_,q,ho⟩)
 have ao:I [] z:=by
  rw[<-ae];exact hI _ _ _ none (hI _ _ _ none h0 (World.grownBy_alloc _ _ _) (λr e=>by cases e)) (World.grownBy_alloc _ _ _) (λr e=>by cases e)
 have aw:w0.grownBy z none:=by
  rw[<-ae]
  exact⟨hb0.os,hb0.tape,hb0.output,Lj hb0.size (by simp;omega),λk hk _=>by
   have:=hb0.size
   rw[Below.heap_alloc _ _ _ (by simp;omega),Below.heap_alloc _ _ _ (by omega)];exact hb0.block k hk (by simp)⟩
 have s1:z.heap.size=w.heap.size+2:=by rw[<-ae];simp
 refine⟨w.heap.size+1,[{ target:=.collected w.heap.size,args:=#[] }],z,{ target:=.fn (.func gf) lb,args:=#[.func (.yield (w.heap.size+1)) #[] #[]] },z,gf,
  #[.func (.yield (w.heap.size+1)) #[] #[]]++lb,z,?_,?_,?_,?_,(λh=>by cases h),?_⟩
 ·rw[<-ae,i];exact run_enterLoop_outer _ _ _ _ _
 ·simp only[resolve,hg];simp[go_sem]
 ·intro f' _;trivial
 ·simp[invoke,go_sem,eg]
 ·have an:∀{A B:World} {row:Option Nat},(∀r,row=some r->own r\/(z.heap.size<=r/\∃o:Obj,A.heap[r]? =some o/\o.isCells=false))->(∀r,row=some r->own r\/(w.heap.size<=r/\∃o:Obj,A.heap[r]? =some o/\o.isCells=false)):=
    λy r e=>by
     rcases y r e with h|⟨hB,h⟩
     ·exact .inl h
     ·exact .inr ⟨by omega,h⟩
  have ag:∀{A B:World} {row:Option Nat} {k:Nat} {o:Obj},A.grownBy B row->(∀r,row=some r->own r\/(z.heap.size<=r/\∃o:Obj,A.heap[r]? =some o/\o.isCells=false))->w.heap.size<=k->k<z.heap.size->A.heap[k]? =some o->B.heap[k]? =some o:=
   λu y h1 h2 hk=>(u.block _ (Lt.1 hk).1 (λe=>by
    rcases y _ e.symm with h|⟨h,_⟩
    ·have:=hown _ h;omega
    ·omega)).trans hk
  refine(hseq (w.heap.size+1)
   (λpre W=>I pre W/\W.heap[w.heap.size+1]? =some (.loop (d .ready none))/\W.heap[w.heap.size]? =some (.deferred (some [])))
   (λpre W=>∃c,Ix c pre W/\W.heap[w.heap.size+1]? =some (.loop (d .done (some c)))/\W.heap[w.heap.size]? =some (.deferred (some [])))
   z (World.grownBy.refl z none) aw
   (λs A B row hs u y=>⟨hI s A B row hs.1 u (an (B:=B) y),ag u y (by omega) (by omega) hs.2.1,ag u y (by omega) (by omega) hs.2.2⟩)
   (λs A B row hs u y=>by
    obtain⟨c,hc,q,hk⟩:=hs
    exact⟨c,hIx c s A B row hc u (an (B:=B) y),ag u y (by omega) (by omega) q,ag u y (by omega) (by omega) hk⟩)
   ?_ ⟨ao,aq,ap⟩).mono ?_
  ·rintro pre x W ⟨hi,q,hk⟩ al;have am:w.heap.size+1<W.heap.size:=(Lt.1 q).1;have hy:=run_yield (P:=P) (args:=encs x) q (by rw[i];exact hps x);rw[i]at hy;refine⟨fn,_,assign,body,hy,roundIn_of_wpIn av (hassign _ pre x W _ hi ?_)⟩;clear hy;intro a' Wa ah aj ax au;replace q:=ah.same _ _ (by omega) q rfl;replace hk:=ah.same _ _ (Nat.le_refl _) hk rfl;replace am:w.heap.size+1<Wa.heap.size:=(Lt.1 q).1;refine⟨_,run_beginRound q (by rw[i]),?_⟩;have ak:(Wa.putObj (w.heap.size+1) (.loop { d .ready none with state:=.busy })).heap[w.heap.size+1]? =some (.loop { d .ready none with state:=.busy }):=World.putObj_heap_same am;have ay:(Wa.putObj (w.heap.size+1) (.loop { d .ready none with state:=.busy })).heap[w.heap.size]? =some (.deferred (some [])):=(World.putObj_heap_other (by omega)).trans hk;have az:Kp Wa (Wa.putObj (w.heap.size+1) (.loop { d .ready none with state:=.busy })):=hKb _ _ _ _ (by omega) q rfl;refine wpIn_mono (hbody _ pre x a' _ (by omega) ⟨_,ak⟩ (aa _ ax (by omega) q rfl) (hAx x a' () _ _ (some _) au (grownBy_putObj' _ _ _) (λr e=>by cases e;exact .inr ⟨by omega,_,q,rfl⟩)) al) ?_
   have af:∀(b:Option Code) (W3:World),KeepsFrom w.heap.size (Wa.putObj (w.heap.size+1) (.loop { d .ready none with state:=.busy })) W3->
    (Instr.endRound (w.heap.size+1) b).run P W3=.ok (.bool b.isNone) (W3.putObj (w.heap.size+1) (.loop (d (if b.isNone then .ready else .done) b)))/\
    W3.heap[w.heap.size+1]? =some (.loop { d .ready none with state:=.busy })/\
    (W3.putObj (w.heap.size+1) (.loop (d (if b.isNone then .ready else .done) b))).heap[w.heap.size+1]? =some (.loop (d (if b.isNone then .ready else .done) b))/\
    (W3.putObj (w.heap.size+1) (.loop (d (if b.isNone then .ready else .done) b))).heap[w.heap.size]? =some (.deferred (some [])):=λb W3 n=>by
    have j:=n.same _ _ (by omega) ak rfl;have:=run_endRound (P:=P) b j;rw[i]at this|-;exact⟨this,by rw[i]at j;exact j,World.putObj_heap_same (Lt.1 j).1,(World.putObj_heap_other (by omega)).trans (n.same _ _ (Nat.le_refl _) ay rfl)⟩
   rintro e a3 W3 hp;cases e with
   |normal=>
    obtain⟨n,ai,ab⟩:=hp;obtain⟨y,j,ad,ac⟩:=af none W3 n;exact⟨_,_,y,.inl ⟨rfl,⟨aa _ ab (by omega) j rfl,ad,ac⟩,hKt aj (hKt (hKt az ai) (hKb _ _ _ _ (by omega) j rfl))⟩⟩
   |ret=>
    obtain⟨n,ab⟩:=hp;obtain⟨y,j,ad,ac⟩:=af (some .ret) W3 n;exact⟨_,_,y,.inr ⟨rfl,.ret,m _ ab (by omega) j rfl,ad,ac⟩⟩
   |exit id=>
    obtain⟨n,ab⟩:=hp;obtain⟨y,j,ad,ac⟩:=af (some (.exit id)) W3 n;exact⟨_,_,y,.inr ⟨rfl,.exit id,m _ ab (by omega) j rfl,ad,ac⟩⟩
   |goto t=>
    obtain⟨n,ab⟩:=hp;obtain⟨y,j,ad,ac⟩:=af (some (.goto t)) W3 n;exact⟨_,_,y,.inr ⟨rfl,.goto t,m _ ab (by omega) j rfl,ad,ac⟩⟩
   |panic ch=>exact hp.elim
   |outgrown=>exact hp.elim
  ·rintro e W2 ⟨⟨v,rfl⟩,(⟨xs,hS,hi,q,hk⟩|⟨pre,ar,c,hi,q,hk⟩)⟩
   ·exact⟨none,_,by have:=run_endLoop (P:=P) q (by rw[i];simp);rw[i]at this;exact this,hdone _ xs _ (Nat.le_refl _) hS (aa _ hi (by omega) q rfl) ((World.putObj_heap_other (by omega)).trans hk)⟩
   ·exact⟨some c,_,by have:=run_endLoop (P:=P) q (by rw[i];simp);rw[i]at this;exact this,hstop _ c pre _ (Nat.le_refl _) ar (m _ hi (by omega) q rfl) ((World.putObj_heap_other (by omega)).trans hk)⟩
end
end Go.Proofs.YtgnmkiafeplbpaaGreatDoor
namespace Go.Proofs.YtgnmkiafeplbpaaGreatDoor
open Go.ChangeShapes Go.WideShapes Go.RowKit Go.Deep
theorem JU (a:Addr)(n:Nat):(a.add n).block=a.block:=by unfold Addr.add;split<;>rfl
theorem Yy (a:Addr)(i j:Nat):(a.add i).add j=a.add (i+j):=by
 unfold Addr.add;by_cases b:i=0<;>by_cases c:j=0<;>simp[b,c,Nn]
def Rd (w:World)(A:Option Addr)(xs:List Value):Prop:=∀j u,xs[j]? =some u->∃ad,A=some ad/\w.cell? (ad.add j)=some u
theorem Rd.nil (w:World)(A:Option Addr):Rd w A []:=λj u h=>by simp at h
theorem Rd.go{w w':World}{A:Option Addr}{xs:List Value}(h:Rd w A xs)(b:Below w.heap.size w w'):Rd w' A xs:=λj u hj=>by
 obtain⟨c,e,a⟩:=h j u hj;exact⟨c,e,(b.cell (World.block_lt_of_cell? _ _ a)).trans a⟩
instance St.rd{A:Option Addr}{xs:List Value}:St (λW=>Rd W A xs):=⟨λh b=>h.go b⟩
theorem Rd.part{w:World}{A:Option Addr}{xs:List Value}(h:Rd w A xs)(k:Nat)(cs:List Value)(hk:∀j u,cs[j]? =some u->xs[k+j]? =some u)(hne:cs≠[]):
 ∃ad,A=some ad/\∀j u,cs[j]? =some u->w.cell? ((ad.add k).add j)=some u:=by
 match cs,hne with
 |c::cs,_=>
  obtain⟨ad,e,_⟩:=h k c (hk 0 c rfl);refine⟨ad,e,λj u g=>?_⟩;obtain⟨a,b,d⟩:=h (k+j) u (hk j u g);obtain rfl:ad=a:=by rw[e]at b;injection b
  rw[Yy];exact d
section
variable {H:Type} {enc:TypeId×Value->H} {P:Program} {w:World} {base:Nat} {spare:Nat->Bool} {held:Bool}
theorem Ug{t e:TypeId}{fuel:Nat}{cs:List Value}{x:DataW H×List MemPlace}(ht:P.underlying t=some (.slice e))(h:DataW.trod enc P w base spare held fuel t cs=some x):
 ∃(A:Option Addr) (cap:Nat) (xss:List (List Value)),cs=[.slice A xss.length cap]/\xss.length<=cap/\cap<=maxLen/\(A=none->cap=0)/\(∀xs∈xss,xs.length=P.cellsOf e)/\Rd w A xss.flatten/\∀xs∈xss,∃n y,DataW.trod enc P w base spare held n e xs=some y:=by
 rcases open_slice ht h with⟨rfl,_⟩|⟨a,len,cap,m,n,D,Pl,rfl,hb,hl,hm,o,_,hi⟩
 ·exact⟨none,0,[],rfl,Nat.le_refl _,Nat.zero_le _,λ_=>rfl,λ_ h=>by simp at h,Rd.nil _ _,λ_ h=>by simp at h⟩
 ·have ac:len<=m:=by rw[o];split<;>omega
  have aa:∀i,i<len->∃b,w.cells? base (a.add (i*P.cellsOf e)) (P.cellsOf e)=some b/\∃y,DataW.trod enc P w base spare held n e b=some y:=λi h=>by
   obtain⟨b,d,g⟩:=hi i (by omega);exact⟨b,d,_,g⟩
  clear hi o ac
  have ad:∀k,k<=len->∃xss:List (List Value),xss.length=k/\(∀xs∈xss,xs.length=P.cellsOf e)/\Rd w (some a) xss.flatten/\∀xs∈xss,∃n y,DataW.trod enc P w base spare held n e xs=some y:=by
   intro k
   induction k with
   |zero=>intro _;exact⟨[],rfl,λ_ h=>by simp at h,Rd.nil _ _,λ_ h=>by simp at h⟩
   |succ k ih=>
    intro hk;obtain⟨xss,d,g,p,q⟩:=ih (by omega);obtain⟨b,hc,y,hy⟩:=aa k (by omega);obtain⟨_,v,s⟩:=World.cells?_some hc
    have z:xss.flatten.length=k*P.cellsOf e:=by
     rw[<-d];clear d p q ih
     induction xss with
     |nil=>simp
     |cons x xss ih=>simp only[List.flatten_cons,La,Le];rw[ih (λxs c=>g xs (by simp[c])),g x (by simp),Nat.succ_mul];omega
    refine⟨xss++[b],by simp[d],λxs c=>?_,λj u l=>?_,λxs c=>?_⟩
    ·rcases LG.1 c with h|h
     ·exact g xs h
     ·rw[L8.1 h];exact v
    ·rw[List.flatten_append]at l;by_cases ab:j<xss.flatten.length
     ·rw[LQ ab]at l;exact p j u l
     ·rw[LZ (by omega)]at l;simp only[List.flatten_cons,List.flatten_nil,LT]at l;have ae:j-xss.flatten.length<b.length:=(Lf.1 l).1;refine⟨a,rfl,?_⟩;have:=s (j-xss.flatten.length) (by omega);rw[l,z]at this;rw[<-this,Yy,show k*P.cellsOf e+(j-k*P.cellsOf e)=j from by omega]
    ·rcases LG.1 c with h|h
     ·exact q xs h
     ·rw[L8.1 h];exact⟨n,y,hy⟩
  obtain⟨xss,d,g,p,q⟩:=ad len (Nat.le_refl _);subst d;exact⟨some a,cap,xss,rfl,hl,hm,λh=>by simp at h,g,p,q⟩
theorem YY{α:Type}(enc':α->List Value)(ok:α->Prop):∀(xss:List (List Value)),(∀xs∈xss,∃a,xs=enc' a/\ok a)->∃l:List α,xss=l.map enc'/\∀a∈l,ok a
 |[],_=>⟨[],rfl,λ_ h=>by simp at h⟩
 |x::xss,h=>by
  obtain⟨a,rfl,ha⟩:=h x (by simp)
  obtain⟨l,rfl,hl⟩:=YY enc' ok xss (λxs hxs=>h xs (by simp[hxs]))
  refine⟨a::l,rfl,λb hb=>?_⟩
  rcases L6.1 hb with rfl|h
  ·exact ha
  ·exact hl b h
theorem ZJ{t:TypeId}{fuel:Nat}{cs:List Value}{x:DataW H×List MemPlace}(ht:P.underlying t=some (.int .i64))(h:DataW.trod enc P w base spare held fuel t cs=some x):∃n,cs=[.int .i64 n]/\InI n:=by
 obtain⟨n,rfl,_,a⟩:=DataW.trod_int ht h;have:=bounds_i64 a;exact⟨n,rfl,by unfold InI;omega⟩
theorem JR{t:TypeId}{fs:Array Field}{fuel:Nat}{cs:List Value}{x:DataW H×List MemPlace}(ht:P.underlying t=some (.struct fs))(h:DataW.trod enc P w base spare held fuel t cs=some x):
 cs.length=P.cellsOf t/\∃n,∀(i:Nat) (f:Field),fs[i]? =some f->∃y,DataW.trod enc P w base spare held n f.type ((cs.drop f.offset).take (P.cellsOf f.type))=some y:=by
 obtain⟨d,n,_,_,g,b,e⟩:=DataW.trod_struct ht h;refine⟨g,n,λi f c=>?_⟩;have a:i<d.length:=by rw[b];exact(Lt.1 c).1
 exact⟨d[i],(e i f c).trans (Ld a)⟩
theorem Ako{t:TypeId}{fs:Array Field}{r:Reach}{b0:Nat}{v:Value}{d:DataW H}{p:List MemPlace}(ht:P.underlying t=some (.struct fs))(hv:Value.okWide P w r b0 t v)(h:DataW.Trod enc P w base spare held t v d p):
 ∃cs:List Value,v=.agg cs.toArray/\∃fuel x,DataW.trod enc P w base spare held fuel t cs=some x:=by
 obtain⟨cs,rfl,_⟩:=okWide_struct ht hv;obtain⟨fuel,a⟩:=h;exact⟨cs.toList,rfl,fuel,_,a⟩
end
end Go.Proofs.YtgnmkiafeplbpaaGreatDoor
namespace Go.Proofs.YtgnmkiafeplbpaaGreatDoor
open Go.RowKit Go.Deep
theorem QK{w:World}{base size n g:Nat}{e t:TypeId}{v:Value}{xs:List Value}{cs:Array Value}(h:w.ownsRow base e size v n xs)(hg:Row w g t cs)(hne:e≠t):v.ownBlock≠some g:=by
 rcases h.2 with⟨rfl,_⟩|⟨c,a,b,rfl,_,i,_⟩
 ·simp[Value.ownBlock]
 ·intro d;have:c=g:=by simpa[Value.ownBlock]using d
  subst this;rw[Row,i]at hg;injection hg with hg;injection hg with _ ht;exact hne ht
theorem QU{w w':World}{base size n:Nat}{e:TypeId}{v:Value}{xs:List Value}(h:w.ownsRow base e size v n xs)(b:Below w.heap.size w w'):w'.ownsRow base e size v n xs:=
 h.kept (row:=none) ⟨b.os,b.tape,b.output,b.size,λk hk _=>b.block k hk⟩ (by cases hv:v.ownBlock<;>simp)
instance St.own{base size n:Nat}{e:TypeId}{v:Value}{xs:List Value}:St (λW=>W.ownsRow base e size v n xs):=⟨λh b=>QU h b⟩
theorem Row.grown{w w':World}{g:Nat}{t:TypeId}{cs:Array Value}{row:Option Nat}(h:Row w g t cs)(b:w.grownBy w' row)(hne:row≠some g):Row w' g t cs:=(b.block g h.lt (λe=>hne e.symm)).trans h
theorem Za{w w':World}{base size n g:Nat}{e:TypeId}{v:Value}{xs:List Value}(h:w.ownsRow base e size v n xs)(o:Only g w w')(hne:v.ownBlock≠some g):w'.ownsRow base e size v n xs:=
 h.kept (row:=some g) ⟨o.os,o.tape,o.output,LI o.size.symm,λk _ hk=>o.block k (λe=>hk (by rw[e]))⟩ (.inr hne)
theorem Qu (w:World)(g i:Nat)(u:Value):Only g w (w.setCell ⟨g,i,none⟩ u):=⟨rfl,rfl,rfl,by simp[World.setCell],λk hk=>Below.heap_setCell w ⟨g,i,none⟩ u k hk⟩
theorem JC{w:World}{base size n r:Nat}{e:TypeId}{v:Value}{xs:List Value}{o:Obj}(h:w.ownsRow base e size v n xs)(ho:w.heap[r]? =some o)(hc:o.isCells=false):v.ownBlock≠some r:=λe2=>by
 rcases h.2 with⟨rfl,_⟩|⟨c,a,b,rfl,_,d,_⟩
 ·simp[Value.ownBlock]at e2
 ·have:c=r:=by simpa[Value.ownBlock]using e2
  subst this;rw[d]at ho;cases ho;cases hc
theorem Ji{w:World}{base size n:Nat}{e:TypeId}{v:Value}{xs:List Value}(h:w.ownsRow base e size v n xs):∃A m c,v=.slice A m c:=by
 rcases h.2 with⟨rfl,_⟩|⟨d,a,b,rfl,_⟩<;>exact⟨_,_,_,rfl⟩
theorem KeepsFrom.of_own{B:Nat}{w w':World}{base size n:Nat}{e:TypeId}{v:Value}{xs:List Value}(h:w.ownsRow base e size v n xs)(hg:w.grownBy w' v.ownBlock):KeepsFrom B w w':=
 ⟨hg.size,λk o _ hk ho=>(hg.block k (Lt.1 hk).1 (λe=>JC h hk ho e.symm)).trans hk⟩
theorem KeepsFrom.of_only{B g:Nat}{w w':World}{t:TypeId}{cs:Array Value}(h:Row w g t cs)(o:Only g w w'):KeepsFrom B w w':=
 ⟨LI o.size.symm,λk ob _ hk ho=>(o.block k (λe=>by subst e;rw[h]at hk;cases hk;cases ho)).trans hk⟩
section
variable {F:Fence} {n:Nat} {P:Program}
theorem Ke (w:World)(ad:Addr)(ty:TypeId)(cs:List Value)(d:TypeDesc)(hc:∀j v,cs[j]? =some v->w.cell? (ad.add j)=some v)
 (hu:P.underlying ty=some d) (hd:(match d with| .struct _| .array _ _=>true|_=>false)=true) (hi:(P.info? ty).map (·.size)=some cs.length):
 (loadVar ty ad).run P w=.ok (.agg cs.toArray) w:=by
 have b:(loadCells ad cs.length).run P w=.ok cs.toArray w:=run_loadCells_list (P:=P) w ad cs hc;cases hq:P.info? ty with
 |none=>simp[hq]at hi
 |some i=>
  have c:i.size=cs.length:=by simpa[hq]using hi
  have a:(isAgg ty).run P w=.ok true w:=by
   unfold isAgg;rw[Sem.run_bind,run_underlying hu w];cases d<;>simp_all
  simp[loadVar,Sem.run_bind,a,sizeOf,typeInfo,hq,c,b]
theorem ZW{ops:Array Oper}{rest:List Oper}{o:Oper}{a:Act}{w:World}{Q:Exit->Act->World->Prop}(hgd:o.guard=none)(ty:TypeId)(x:Operand)(ho:o.op=.load ty x)
 (ad:Addr) (hx:a.eval x=.pointer (some ad)) (cs:List Value) (d:TypeDesc) (hc:∀j v,cs[j]? =some v->w.cell? (ad.add j)=some v)
 (hu:P.underlying ty=some d) (hd:(match d with| .struct _| .array _ _=>true|_=>false)=true) (hi:(P.info? ty).map (·.size)=some cs.length)
 (h:wpListIn F n P ops Q rest (a.put o.dst (.agg cs.toArray)) w):wpListIn F n P ops Q (o::rest) a w:=by
 refine wpListIn_plain hgd λK e=>?_
 unfold Oper.wpIn;refine⟨?_,?_⟩
 ·simp[Oper.about,ho]
 ·rw[Oper.semAt_plain F _ _ (by rw[ho];intro c b;cases b)];simp only[execOp,ho,hx,Instr.loadAt,Instr.sureAddr,Sem.run_bind,Sem.run_pure,Result.andThen_ok,Ke w ad ty cs d hc hu hd hi];exact e _ _ h
theorem Qn{ops:Array Oper}{rest:List Oper}{o:Oper}{a:Act}{w:World}{Q:Exit->Act->World->Prop}(hgd:o.guard=none)(ty:TypeId)(x:Operand)(ho:o.op=.load ty x)
 (ad:Addr) (hx:a.eval x=.pointer (some ad)) (cs:List Value) (d:TypeDesc) (hc:∀j v,cs[j]? =some v->w.cell? (ad.add j)=some v)
 (hu:P.underlying ty=some d) (hd:(match d with| .struct _| .array _ _=>true|_=>false)=true) (hi:(P.info? ty).map (·.size)=some cs.length)
 (h:wpList P ops Q rest (a.put o.dst (.agg cs.toArray)) w):wpList P ops Q (o::rest) a w:=
 UO hgd (.agg cs.toArray) (by simp only[execOp,ho,hx,Instr.loadAt,Instr.sureAddr,Sem.run_bind,Sem.run_pure,Result.andThen_ok,Ke w ad ty cs d hc hu hd hi]) h
end
theorem Zl{P:Program}{ops:Array Oper}{rest:List Oper}{o:Oper}{a:Act}{w:World}{Q:Exit->Act->World->Prop}(hw:Region.wanted o (yielded ops a.tmps)=true)(ty:TypeId)(x:Operand)(ho:o.op=.load ty x)
 (g:Nat) (hx:a.eval x=.pointer (some ⟨g,0,none⟩)) (t:TypeId) (cs:Array Value) (fr:Nat×Nat) (d:TypeDesc) (hg:w.heap[g]? =some (.cells cs t fr))
 (hu:P.underlying ty=some d) (hd:(match d with| .struct _| .array _ _=>true|_=>false)=true) (hi:(P.info? ty).map (·.size)=some cs.size)
 (h:wpList P ops Q rest (a.put o.dst (.agg cs)) w):wpList P ops Q (o::rest) a w:=
 BigFrame.wpList_want hw λ_ hK=>wp_load_row ty x ho g hx t cs fr d hg hu hd hi (hK _ _ h)
end Go.Proofs.YtgnmkiafeplbpaaGreatDoor
namespace Go.Proofs.YtgnmkiafeplbpaaGreatDoor
open Go.RowKit
def Adn (cur:Array Value)(off:Nat)(vs:List Value):Array Value:=(cur.toList.take off++vs++cur.toList.drop (off+vs.length)).toArray
section
variable {P:Program} {ops:Array Oper} {rest:List Oper} {o:Oper} {a:Act} {w:World} {K:Act->World->Prop} {Q:Exit->Act->World->Prop}
theorem Vs (w:World)(g off:Nat)(t ty:TypeId)(cur:Array Value)(v:Value)(vs:List Value)(hv:v.cells=vs.toArray)(hg:Row w g t cur)(hi:(P.info? ty).map (·.size)=some vs.length)
 (hfit:off+vs.length<=cur.size) (h1:∀u∈vs,u.oneCell'=true):(storeVar ty ⟨g,off,none⟩ v).run P w=.ok () (w.setRow g (Adn cur off vs)):=by
 have:=run_storeCells_at P g off t vs 0 cur w hg (by simpa using hfit) h1;cases hq:P.info? ty with
 |none=>simp[hq]at hi
 |some i=>
  have a:i.size=vs.length:=by simpa[hq]using hi
  simp only[Nat.add_zero]at this;simp[storeVar,sizeOf,typeInfo,hq,a,hv,this,Adn]
theorem Jk (ty:TypeId)(p x:Operand)(ho:o.op=.store ty p x)(g off:Nat)(hp:a.eval p=.pointer (some ⟨g,off,none⟩))(v:Value)(hx:a.eval x=v)(vs:List Value)(hv:v.cells=vs.toArray)
 (t:TypeId) (cur cur':Array Value) (hg:Row w g t cur) (hi:(P.info? ty).map (·.size)=some vs.length) (hfit:off+vs.length<=cur.size) (h1:∀u∈vs,u.oneCell'=true) (hc:Adn cur off vs=cur')
 (h:∀w',Row w' g t cur'->Only g w w'->K (a.put o.dst undef) w'):o.wp P a w K Q:=by
 unfold Oper.wp execOp;simp only[ho,hp,hx,Instr.storeAt,Instr.sureAddr,Sem.run_bind,Sem.run_pure,Result.andThen_ok,Vs w g off t ty cur v vs hv hg hi hfit h1];exact h _ (hc▸hg.setRow _) (ZY _ _ _)
theorem Qt (hgd:o.guard=none)(ty:TypeId)(p x:Operand)(ho:o.op=.store ty p x)(g off:Nat)(hp:a.eval p=.pointer (some ⟨g,off,none⟩))(v:Value)(hx:a.eval x=v)(vs:List Value)(hv:v.cells=vs.toArray)
 (t:TypeId) (cur cur':Array Value) (hg:Row w g t cur) (hi:(P.info? ty).map (·.size)=some vs.length) (hfit:off+vs.length<=cur.size) (h1:∀u∈vs,u.oneCell'=true) (hc:Adn cur off vs=cur')
 (h:∀w',Row w' g t cur'->Only g w w'->wpList P ops Q rest (a.put o.dst undef) w'):wpList P ops Q (o::rest) a w:=
 wpList_plain hgd λ_ hK=>Jk ty p x ho g off hp v hx vs hv t cur cur' hg hi hfit h1 hc λw' h1 h2=>hK _ _ (h w' h1 h2)
end
section
variable {P:Program} {ops:Array Oper} {rest:List Oper} {o:Oper} {a:Act} {w:World} {Q:Exit->Act->World->Prop}
theorem Qx (ty:TypeId)(x:Operand)(_:o.op=.box ty x)(h:Stop (wpList P ops Q (o::rest) a w) id):wpList P ops Q (o::rest) a w:=h.out
theorem Qf (hgd:o.guard=none)(ty:TypeId)(x:Operand)(ho:o.op=.box ty x)(cs:Array Value)(hx:(a.eval x).cells=cs)
 (h:∀g w',w.heap.size<=g->Row w' g ty cs->Below g w w'->wpList P ops Q rest (a.put o.dst (.pointer (some ⟨g,0,none⟩))) w'):wpList P ops Q (o::rest) a w:=
 wpList_plain hgd λ_ hK=>by
  have e:(execOp a.eval o).run P w=.ok (.value (.pointer (some ⟨w.heap.size,0,none⟩))) (w.alloc (.cells cs ty)):=by
   rw[<-hx];simp[execOp,ho,Instr.box,newVar,newRow]
  unfold Oper.wp
  rw[e]
  exact hK _ _ (h _ _ (Nat.le_refl _) (Row.new _ _ _) ((Below.refl _ _).alloc (Nat.le_refl _) _))
end
theorem Qv{P:Program}{fn:Func}{p t':Tmp}{ty:TypeId}(h:fn.results=#[.cell p ty,.tmp t'])(tmps:Array Value)(w:World)(g:Nat)(t:TypeId)(cs:Array Value)(fr:Nat×Nat)(d:TypeDesc)
 (hp:tmps.getD p undef=.pointer (some ⟨g,0,none⟩)) (hg:w.heap[g]? =some (.cells cs t fr))
 (hu:P.underlying ty=some d) (hd:(match d with| .struct _| .array _ _=>true|_=>false)=true) (hi:(P.info? ty).map (·.size)=some cs.size):
 (results fn tmps).run P w=.ok (.tuple #[.agg cs,tmps.getD t' undef]) w:=by
 have a:tmps[p]?.getD undef=.pointer (some ⟨g,0,none⟩):=by simpa using hp
 simp[results,h,a,asAddr,run_loadVar_row w g t ty cs fr d hg hu hd hi]
end Go.Proofs.YtgnmkiafeplbpaaGreatDoor
