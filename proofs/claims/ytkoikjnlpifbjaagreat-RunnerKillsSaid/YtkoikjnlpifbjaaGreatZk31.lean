/- Lemmas for RunnerKillsP. -/
import Derived.Test.YtkoikjnlpifbjaaGreatZk30
import Derived.Test.YtkoikjnlpifbjaaGreatZk29
import Derived.Test.YtkoikjnlpifbjaaGreatZk1
import Derived.Test.YtkoikjnlpifbjaaGreatRows
import Derived.Laws.CopyOwn
import Derived.Lib.ConvBytes
import Derived.Laws.Cover3
set_option linter.unusedVariables false
set_option linter.unusedSimpArgs false
set_option maxRecDepth 100000
set_option maxHeartbeats 16000000
namespace Go.Proofs.YtkoikjnlpifbjaaGreat
open Go.RowKit Go.Deep
def Alc (e f g h k x:BitVec 32):BitVec 32:=h+(e.rotateRight 6 ^^^ e.rotateRight 11 ^^^ e.rotateRight 25)+(g ^^^ e &&& (f ^^^ g))+k+x
def AlJ (a b c:BitVec 32):BitVec 32:=(a.rotateRight 2 ^^^ a.rotateRight 13 ^^^ a.rotateRight 22)+(a &&& b ^^^ a &&& c ^^^ b &&& c)
def Ach (W:List (BitVec 32))(t:Nat):List (BitVec 32)->List (BitVec 32)
 |[a,b,c,d,e,f,g,h]=>
  let t1:=Alc e f g h (cubeL.getD t 0) (W.getD t 0)
  [t1+AlJ a b c,a,b,c,d+t1,e,f,g]
 |l=>l
def XK (W H:List (BitVec 32)):Nat->List (BitVec 32)
 |0=>H
 |t+1=>Ach W t (XK W H t)
theorem Aai (W H:List (BitVec 32))(h:H.length=8):∀t,(XK W H t).length=8
 |0=>h
 |t+1=>by
  have ih:=Aai W H h t
  unfold XK
  match h':XK W H t,ih with
  |[a,b,c,d,e,f,g,h],_=>simp[Ach]
theorem Alz{α:Type}{l:List α}(h:l.length=8):∃a b c d e f g i,l=[a,b,c,d,e,f,g,i]:=by
 match l,h with
 |[a,b,c,d,e,f,g,i],_=>exact⟨a,b,c,d,e,f,g,i,rfl⟩
def XN (H V:List (BitVec 32)):Nat->List (BitVec 32)
 |0=>H
 |j+1=>(XN H V j).set j ((XN H V j).getD j 0+V.getD j 0)
theorem XO (H V:List (BitVec 32))(h:H.length=8):∀j,(XN H V j).length=8
 |0=>h
 |j+1=>by simp[XN,XO H V h j]
def Ug (H:List (BitVec 32))(l:List UInt8):List (BitVec 32):=XN H (XK (YP l) H 64) 8
theorem AhS (a b c d e f g i:BitVec 32):∀j v,(wds [a,b,c,d,e,f,g])[j]? =some v->(wds [a,b,c,d,e,f,g,i]).toArray[0+j]? =some v:=by
 intro j v h
 match j,h with
 |0,h|1,h|2,h|3,h|4,h|5,h|6,h=>exact h
theorem Afr (W H:List (BitVec 32))(k:Nat)(a b c d e f g i xk xw:BitVec 32)(h:XK W H k=[a,b,c,d,e,f,g,i])(hk:xk=cubeL.getD k 0)(hw:xw=W.getD k 0):
 ((wds [a,a,b,c,d,e,f,g]).toArray.setIfInBounds 0 (.int .u32 (wd (Alc e f g i xk xw+AlJ a b c)))).setIfInBounds 4 (.int .u32 (wd (d+Alc e f g i xk xw)))=(wds (XK W H (k+1))).toArray:=by
 rw[U3,U3,XK,h,Ach,hk,hw];rfl
theorem AhC (H V:List (BitVec 32))(j:Nat):(wds (XN H V j)).toArray.setIfInBounds j (.int .u32 (wd ((XN H V j).getD j 0+V.getD j 0)))=(wds (XN H V (j+1))).toArray:=U3 _ _ _
attribute [local go_sem] Agk AfB AfA Acy Acz AcA Eh YO
theorem Ags (H:List (BitVec 32))(hH:H.length=8)(l:List UInt8)(hl:l.length=64)(w:World):
 Calls Tryz.prog 119 #[.agg (wds H).toArray,.agg (u8s l).toArray] w λe w'=>e=.returned (.agg (wds (Ug H l)).toArray)/\Below w.heap.size w w':=by
 have Hl:=Lh hl;have HH:=Lh hH;clear hl hH;go_enter Tryz.func119,Tryz.ntmps119
 go_wp2_with fail
 have n:Row (((w.alloc (.cells (wds H).toArray 195)).alloc (.cells (u8s l).toArray 201)).alloc (.cells (wds [0,0,0,0,0,0,0,0]).toArray 195)) w.heap.size 195 (wds H).toArray:=((Row.new _ _ _).alloc _).alloc _
 have r1:Row (((w.alloc (.cells (wds H).toArray 195)).alloc (.cells (u8s l).toArray 201)).alloc (.cells (wds [0,0,0,0,0,0,0,0]).toArray 195)) (w.heap.size+1) 201 (u8s l).toArray:=by
  have h:=(Row.new (w.alloc (.cells (wds H).toArray 195)) 201 (u8s l).toArray).alloc (.cells (wds [0,0,0,0,0,0,0,0]).toArray 195);rwa[World.size_alloc]at h
 have q:Row (((w.alloc (.cells (wds H).toArray 195)).alloc (.cells (u8s l).toArray 201)).alloc (.cells (wds [0,0,0,0,0,0,0,0]).toArray 195)) (w.heap.size+1+1) 195 (wds [0,0,0,0,0,0,0,0]).toArray:=by
  have h:=Row.new ((w.alloc (.cells (wds H).toArray 195)).alloc (.cells (u8s l).toArray 201)) 195 (wds [0,0,0,0,0,0,0,0]).toArray;rwa[World.size_alloc,World.size_alloc]at h
 have s:Below w.heap.size w (((w.alloc (.cells (wds H).toArray 195)).alloc (.cells (u8s l).toArray 201)).alloc (.cells (wds [0,0,0,0,0,0,0,0]).toArray 195)):=
  (((Below.refl _ _).alloc (Nat.le_refl _) _).alloc (by simp) _).alloc (by simp;omega) _
 have s0:(((w.alloc (.cells (wds H).toArray 195)).alloc (.cells (u8s l).toArray 201)).alloc (.cells (wds [0,0,0,0,0,0,0,0]).toArray 195)).heap.size=w.heap.size+3:=by simp
 rw[show #[Value.int IntKind.u32 0,Value.int IntKind.u32 0,Value.int IntKind.u32 0,Value.int IntKind.u32 0,Value.int IntKind.u32 0,Value.int IntKind.u32 0,Value.int IntKind.u32 0,Value.int IntKind.u32 0]=(wds [0,0,0,0,0,0,0,0]).toArray from rfl];generalize (((w.alloc (.cells (wds H).toArray 195)).alloc (.cells (u8s l).toArray 201)).alloc (.cells (wds [0,0,0,0,0,0,0,0]).toArray 195))=w1 at n r1 q s s0|-;refine(Ahr (w.heap.size+1) _ l Hl.out w1 (by omega) r1).mono ?_;rintro e w2 ⟨gw,rfl,au,y,t⟩;replace n:=n.below t (by omega);replace q:=q.below t (by omega);replace s:=s.trans (t.mono (by omega));have s2:=t.size;go_wp2_with fail
 refine(Agy w2).mono ?_;rintro e m ⟨gk,rfl,ar,af,o⟩;have aw:=y.lt;replace n:=n.below o (by omega);replace q:=q.below o (by omega);replace y:=y.below o (by omega);replace s:=s.trans (o.mono (by omega));have s3:=o.size;have av:=af.lt
 go_wp2_with (first
  | (refine wpList_load_row rfl 193 _ rfl w.heap.size rfl 195 (wds H).toArray (0,0) _ n Tryz.underlying193 rfl (by rw[JP _ HH.out];kernel_rfl) ?_)
  | (refine wpList_store_row rfl 193 _ _ rfl m.heap.size (wds H).toArray rfl rfl 193 _ (heap_alloc_new m _) (by rw[JP _ HH.out];kernel_rfl) (by rw[JP _ HH.out];rfl) (U2 H) ?_
     rw[World.setRow_alloc_new]))
 have ag:=Row.new m 193 (wds H).toArray;have b4:=(Below.refl m.heap.size m).alloc (Nat.le_refl _) (.cells (wds H).toArray 193);generalize m.alloc (.cells (wds H).toArray 193)=w4 at ag b4|-;have ah:=Lh (Aai (YP l) H HH.out);go_loopw [18] (λi wr=>∃k:Nat,i=.int .i64 (k:Int)/\k<=64/\Row wr m.heap.size 193 (wds (XK (YP l) H k)).toArray/\Below m.heap.size m wr) (λi _=>(64-intOf i).toNat)
 case atStart=>exact⟨0,by simp,by omega,ag,b4⟩
 case round=>
  clear ag b4;obtain⟨k,rfl,hk,j,hb⟩:=hrel;by_cases aj:k<64
  ·obtain⟨a,b,c,d,e,f,g,i,aa⟩:=Alz (ah.out k);rw[aa]at j;have am:=Lh aa;clear aa;have c0:=j.cellv (i:=0) (v:=.int .u32 (wd a)) rfl;have c1:=j.cellv (i:=1) (v:=.int .u32 (wd b)) rfl;have c2:=j.cellv (i:=2) (v:=.int .u32 (wd c)) rfl;have c4:=j.cellv (i:=4) (v:=.int .u32 (wd e)) rfl;have c5:=j.cellv (i:=5) (v:=.int .u32 (wd f)) rfl;have c6:=j.cellv (i:=6) (v:=.int .u32 (wd g)) rfl;have c7:=j.cellv (i:=7) (v:=.int .u32 (wd i)) rfl;have ck:=(af.below hb (by omega)).cellv (Xu cubeL k (by show k<64;omega));have cw:=(y.below hb (by omega)).cellv (Xu (YP l) k (by rw[YP,JR _ (KQ _ _)];omega));obtain⟨xk,ad⟩:∃x,x=cubeL.getD k 0:=⟨_,rfl⟩;obtain⟨xw,ae⟩:∃x,x=(YP l).getD k 0:=⟨_,rfl⟩;rw[<-ad]at ck;rw[<-ae]at cw;have an:=Lh ad;have ao:=Lh ae;clear ad ae;go_wp2
   go_quiet (fail)
   go_wp2
   go_quiet ((go_at_call 157;exact E9 (Up _ _ (by omega) (by omega) _)))
   go_wp2
   go_quiet ((go_at_call 157;exact E9 (Up _ _ (by omega) (by omega) _)))
   go_wp2
   refine QJ 2 (by kernel_rfl) (by kernel_rfl) ?_;simp only[L0,LE,Lz,LA]
   repeat still_step
   refine wpStill_nil ?_;refine wpList_copy_own rfl _ _ 257 257 rfl 77 Tryz.underlying257 (by kernel_rfl) m.heap.size 1 7 7 ⟨m.heap.size,0,none⟩ 7 8 rfl rfl (wds [a,b,c,d,e,f,g,i]).toArray 193 j (wds [a,b,c,d,e,f,g]) rfl ?_ (by simp[wds]) ?_ ?_
   ·exact Row.from_ (cur:=(wds [a,b,c,d,e,f,g,i]).toArray) j 0 (AhS a b c d e f g i)
   ·exact λv hv=>(Nu.1 (U2 _)) v (by simpa using hv)
   generalize ac:World.setRow _ _ _=w9;have u:Row w9 m.heap.size 193 (wds [a,a,b,c,d,e,f,g]).toArray:=by rw[<-ac];exact Row.setRow (cs:=(wds [a,b,c,d,e,f,g,i]).toArray) j _
   have ap:Below m.heap.size m w9:=by rw[<-ac];exact KG (Below.drew (Z0 (Z0 (Z0 hb _) _) _)) (Nat.le_refl _) _
   clear ac c0 c1 c2 c4 c5 c6 c7 ck cw j hb;have c4:=u.cellv (i:=4) (v:=.int .u32 (wd d)) rfl;have c0:=u.cellv (i:=0) (v:=.int .u32 (wd a)) rfl;have f4:=u.free 4;have f0:=u.free 0;go_wp2
   go_roundw
   case rel=>exact⟨k+1,by go_num,by omega,by rw[<-Afr _ _ _ _ _ _ _ _ _ _ _ _ _ am.out an.out ao.out];exact(u.set _ _).set _ _,(ap.setCell (p:=⟨m.heap.size,0,none⟩) (Nat.le_refl _) _).setCell (p:=⟨m.heap.size,4,none⟩) (Nat.le_refl _) _⟩
   case measure=>simp[intOf];omega
  ·obtain rfl:k=64:=by omega
   clear aj;rw[show((64:Nat):Int)=64 from rfl];have n:=n.below hb (by omega);have q:=q.below hb (by omega);have s:=s.trans (hb.mono (by omega));have gv:w.heap.size+2<m.heap.size:=by omega
   obtain⟨V,hV⟩:∃V,V=XK (YP l) H 64:=⟨_,rfl⟩;have ai:V.length=8:=by rw[hV];exact ah.out 64
   rw[<-hV]at j;have HV:=Lh hV;have al:=Lh ai;clear hV ai hb y af o t;obtain⟨G,hG⟩:∃G,G=m.heap.size:=⟨_,rfl⟩;rw[<-hG]at j gv|-;clear hG;go_wp2
   go_loopw [96] (λi wr=>∃k:Nat,i=.int .i64 (k:Int)/\k<=8/\Row wr w.heap.size 195 (wds (XN H V k)).toArray/\Row wr G 193 (wds V).toArray/\Row wr (w.heap.size+1+1) 195 (wds [0,0,0,0,0,0,0,0]).toArray/\Below w.heap.size w wr) (λi _=>(8-intOf i).toNat)
   case atStart=>exact⟨0,by simp,by omega,n,j,q,s⟩
   case round=>
    clear j n q s;obtain⟨k,rfl,hk,n,j,q,s⟩:=hrel;by_cases ab:k<8
    ·have c0:=n.cellv (Xu _ k (by rw[XO _ _ HH.out];exact ab));have c1:=j.cellv (Xu _ k (by rw[al.out];exact ab));have f0:=n.free k;have aq:(k:Int)<8:=by omega
     go_wp2
     refine QJ 10 (by kernel_rfl) (by kernel_rfl) ?_;simp only[L0,LE,Lz,LA]
     repeat still_step
     refine wpStill_nil ?_;go_wp2
     go_roundw
     case rel=>exact⟨k+1,by go_num,by omega,by rw[<-AhC];exact n.drew.set _ _,(j.drew).far (by show G≠w.heap.size;omega) _,(q.drew).far (by show w.heap.size+1+1≠w.heap.size;omega) _,s.drew.setCell (p:=⟨w.heap.size,k,none⟩) (Nat.le_refl _) _⟩
     case measure=>simp[intOf];omega
    ·obtain rfl:k=8:=by omega
     clear ab;have ak:(wds (XN H V 8)).toArray.size=8:=JP _ (XO _ _ HH.out 8);have z:=Lh ak;clear ak
     go_wp2_with (first
      | (refine wpList_load_row rfl 195 _ rfl w.heap.size rfl 195 (wds (XN H V 8)).toArray (0,0) _ n Tryz.underlying195 rfl (by rw[z.out];kernel_rfl) ?_)
      | (refine wpList_store_row rfl 195 _ _ rfl (w.heap.size+1+1) (wds (XN H V 8)).toArray rfl rfl 195 _ q (by rw[z.out];kernel_rfl) (by rw[z.out];rfl) (U2 _) ?_))
     exact bodyPost_ret (v:=.agg (wds (XN H V 8)).toArray) (results_cell_row Tryz.results119 _ _ (w.heap.size+1+1) 195 _ (0,0) _ rfl (q.setRow _) Tryz.underlying195 rfl (by rw[z.out];kernel_rfl)) rfl ⟨by rw[Ug, <-HV.out],KG s (by omega) _⟩
end Go.Proofs.YtkoikjnlpifbjaaGreat
namespace Go.Proofs.YtkoikjnlpifbjaaGreat
open Go.RowKit Go.Deep
def AaD (x:BitVec 32):List UInt8:=[UInt8.ofNat (x >>> 24).toNat,UInt8.ofNat (x >>> 16).toNat,UInt8.ofNat (x >>> 8).toNat,UInt8.ofNat x.toNat]
def XI (H:List (BitVec 32)):List UInt8:=H.flatMap AaD
theorem Aex (H:List (BitVec 32)):(XI H).length=4*H.length:=by
 induction H with
 |nil=>rfl
 |cons a l ih=>simp only[XI,L8,Le,Lc]at ih|-;rw[ih];simp[AaD];omega
theorem AcQ (H:List (BitVec 32))(k:Nat)(h:k<H.length):XI (H.take (k+1))=XI (H.take k)++AaD (H.getD k 0):=by
 rw[Nx h,XI,L6];simp[XI,List.getD,Lb h]
theorem Ajw (x:BitVec 32):wd x % (256:Int)=((UInt8.ofNat x.toNat).toNat:Int):=by
 unfold wd;simp
theorem AgR (w:World):(isAgg 77).run Tryz.prog w=.ok false w:=by
 unfold isAgg;simp[run_underlying Tryz.underlying77]
theorem AiK (H:List (BitVec 32))(i:Nat)(hi:i<H.length)(w:World):(part 77 (wds H).toArray i).run Tryz.prog w=.ok (.int .u32 (wd (H.getD i 0))) w:=by
 unfold part;rw[Sem.run_bind,AgR];simp only[Result.andThen_ok,Bool.false_eq_true,if_false,Xu H i hi];rfl
theorem Af9 (x:BitVec 32):[Value.int .u8 (wd (x >>> 24) % (256:Int)),.int .u8 (wd (x >>> 16) % (256:Int)),.int .u8 (wd (x >>> 8) % (256:Int)),.int .u8 (wd x % (256:Int))]=u8s (AaD x):=by
 simp only[Ajw,u8s,AaD,LP,Nv]
attribute [local go_sem] Ajb Aja Akx
theorem Agt (H:List (BitVec 32))(hH:H.length=8)(w:World):
 Calls Tryz.prog 120 #[.agg (wds H).toArray] w λe w'=>e=.returned (.string ⟨(XI H).toArray⟩)/\Below w.heap.size w w':=by
 have j:=Lh hH;clear hH;obtain⟨i0,p,t,u,y⟩:=info_parts VY;have r0:=Row.new w 195 (wds H).toArray;have z:=(Below.refl w.heap.size w).alloc (Nat.le_refl _) (.cells (wds H).toArray 195);have s0:w.heap.size+1<=(w.alloc (.cells (wds H).toArray 195)).heap.size:=by simp
 go_enter Tryz.func120,Tryz.ntmps120
 go_wp2_with (first
  | (refine wpList_load_row rfl 193 _ rfl w.heap.size rfl 195 (wds H).toArray (0,0) _ r0 Tryz.underlying193 rfl (by rw[JP _ j.out];kernel_rfl) ?_))
 generalize w.alloc (.cells (wds H).toArray 195)=w1 at r0 z s0|-;go_loopw [3,8] (λv i wr=>∃k:Nat,i=.int .i64 (k:Int)/\k<=8/\wr.ownsRow (w.heap.size+1) 5 1 v (4*k) (u8s (XI (H.take k)))/\Below w.heap.size w wr/\w.heap.size+1<=wr.heap.size) (λ_ i _=>(8-intOf i).toNat)
 case atStart=>exact⟨0,by simp,by omega,World.ownsRow_nil _ _ _ _,z,s0⟩
 case round=>
  obtain⟨k,rfl,hk,c,l,hs⟩:=hrel;by_cases g:k<8
  ·have h:=AaS (P:=Tryz.prog) wr 193 77 8 (wds H).toArray .i64 k _ Tryz.underlying193 (AiK H k (by rw[j.out];exact g) wr) (by kernel_rfl) g;obtain⟨x,s⟩:∃x,x=H.getD k 0:=⟨_,rfl⟩;rw[<-s]at h;have Hx:=Lh s;clear s;have aa:(k:Int)<8:=by omega
   go_wp2_with (
    (at_builtin
     refine wpList_append_own _ rfl (.tmp 11) (.tmp 23) 250 rfl (w.heap.size+1) 5 i0 (.int .u8 0) 1 1 Tryz.underlying250 p t u y rfl (by decide) _ _ _ rfl (c.alloc _) ⟨wr.heap.size,0,none⟩ 4 4 [.int .u8 (wd (x >>> 24) % (256:Int)),.int .u8 (wd (x >>> 16) % (256:Int)),.int .u8 (wd (x >>> 8) % (256:Int)),.int .u8 (wd x % (256:Int))] rfl rfl (Z9 _ _ _) ?c2 (by unfold maxLen;omega) (by omega) (by simp;omega) ?_))
   case c2=>rw[Af9];exact VQ _
   intro v' w2 d o _;have m:=QL (l.alloc (by omega) _) (c.alloc _) o (by simp;omega) (by omega);have q:=o.size;rw[World.size_alloc]at q;rw[Af9,Hx.out]at d;clear o h c l;go_wp2
   go_roundw
   case rel=>exact⟨k+1,by go_num,by omega,by rw[AcQ H k (by rw[j.out];exact g),Ur];exact d,m,by omega⟩
   case measure=>simp[intOf];omega
  ·obtain rfl:k=8:=by omega
   clear g;rw[show((8:Nat):Int)=8 from rfl];rw[L7 (by rw[j.out];omega)]at c;have n:=Kk (P:=Tryz.prog) 250 9 5 Tryz.underlying250 Tryz.underlying5 Tryz.underlying9 _ c;clear c;go_wp2
   go_ret
   exact⟨rfl,l⟩
end Go.Proofs.YtkoikjnlpifbjaaGreat
namespace Go.Proofs.YtkoikjnlpifbjaaGreat
open Go.RowKit Go.Deep
attribute [local go_sem] Oper.semAt_some
abbrev Vz:={ l:List UInt8 // l.length=64 }
def AfO (l:List UInt8)(h:64<=l.length):Vz:=⟨l.take 64,by simp;omega⟩
def Kq:Nat->List UInt8->List Vz
 |0,_=>[]
 |n+1,l=>if h:64<=l.length then AfO l h::Kq n (l.drop 64)else []
def AkM (w:World)(b:Nat):Nat:=match w.cell? ⟨b,0,none⟩with|some (.string s)=>s.size|_=>0
theorem Aa8:∀(n k:Nat) (l:List UInt8),k<n->64*(k+1)<=l.length->∃c:Vz,(Kq n l)[k]? =some c/\c.1=(l.drop (64*k)).take 64
 |0,k,l,h,_=>by omega
 |n+1,0,l,_,h=>by
  rw[Kq,dif_pos (by omega)]
  exact⟨_,rfl,by simp[AfO]⟩
 |n+1,k+1,l,h,h2=>by
  rw[Kq,dif_pos (by omega)]
  obtain⟨c,h3,h4⟩:=Aa8 n k (l.drop 64) (by omega) (by simp;omega)
  exact⟨c,by simpa using h3,by rw[h4,Nj,Nat.mul_add,Nat.add_comm]⟩
theorem Ew:∀(n:Nat) (l:List UInt8),64*n<=l.length->(Kq n l).length=n
 |0,l,_=>rfl
 |n+1,l,h=>by
  rw[Kq,dif_pos (by omega),Lc,Ew n (l.drop 64) (by simp;omega)]
theorem Ac2 (l:List UInt8)(k:Nat)(x:Vz)(hx:x.1=(l.drop (64*k)).take 64)(h:64*(k+1)<=l.length):
 (Kq (l.length / 64) l).take (k+1)=(Kq (l.length / 64) l).take k++[x]:=by
 obtain⟨c,d,g⟩:=Aa8 (l.length / 64) k l (by omega) h;have e:k<(Kq (l.length / 64) l).length:=(La.1 d).1;rw[Nx e];rw[Lb e]at d;have:c=x:=Subtype.ext (g.trans hx.symm);rw[<-this];injection d with d;rw[d]
theorem U8 (w:World)(e:TypeId)(s:ByteArray):w.grownBy (Lib.bytesWorld w e s) none:=
 ⟨rfl,rfl,rfl,by rw[Lib.bytesWorld_size];omega,λk hk _=>Lib.bytesWorld_at_old w e s k hk⟩
theorem AbQ (bs:Nat)(s:List UInt8)(hs:s.length<=2000000)(w:World)(hrow:Row w bs 9 #[.string ⟨s.toArray⟩]):
 AcI Tryz.prog 154 #[.pointer (some ⟨bs,0,none⟩)] (λx:Vz=>#[.agg (u8s x.1).toArray]) (· =bs) (λA B=>B.heap[bs]? =A.heap[bs]? /\A.heap.size<=B.heap.size) (λxs=>xs=Kq (s.length / 64) s) (λ_=>True) (s.length / 64) w:=by
 intro l J Jx W _ ae hJ aq hY h0;refine callsIn_of_wp Tryz.func154 rfl trivial ?_ rfl;simp only[Tryz.ntmps154,Lk,Lc,Lo,Nat.reduceAdd,Nat.reduceSub,Li,Lj,Lp,L5,Lm,Ll];gi_wp2;have ak:Row W bs 9 #[.string ⟨s.toArray⟩]:=(ae.block bs hrow.lt (by simp)).trans hrow;clear hrow ae;gi_loopw [3] (λ_ wr=>∃(k:Nat) (q:ByteArray),q.data.toList=s.drop (64*k)/\64*k<=s.length/\Row wr bs 9 #[.string q]/\J ((Kq (s.length / 64) s).take k) wr) (λ_ wr=>AkM wr bs)
 case atStart=>exact⟨0,⟨s.toArray⟩,by simp,by omega,ak,by simpa using h0⟩
 case round=>
  obtain⟨k,q,hq,hk,hr,t⟩:=hrel
  have ab:q.size+64*k=s.length:=by
   have:=congrArg List.length hq;simp at this;omega
  have Hq:=Lh hq;have g:=Lh ab;clear hq ab;have hc:=hr.cellv (i:=0) (v:=.string q) rfl;have hf:=hr.free 0;by_cases ap:64<=q.size
  ·have c:=λw=>Lib.run_convert_string_bytes (P:=Tryz.prog) w 9 250 5 (q.extract 0 64) Tryz.underlying9 Tryz.underlying250 Tryz.underlying5
   have y:(q.extract 0 64).size=64:=by simp;omega
   simp only[y]at c;have ai:=Lh y;have p:=λw=>run_arrayAt (P:=Tryz.prog) w 201 5 64 (some ⟨wr.heap.size,0,none⟩) 64 (grownCap wr 64 0 5) Tryz.underlying201 (Nat.le_refl _)
   clear y;obtain⟨x,hx⟩:∃x:Vz,x.1=(q.extract 0 64).data.toList:=⟨⟨(q.extract 0 64).data.toList,by have:=ai.out;simpa using this⟩,rfl⟩
   have d:∀j v,(u8s x.1)[j]? =some v->(Lib.bytesWorld wr 5 (q.extract 0 64)).cell? ⟨wr.heap.size,j,none⟩=some v:=by
    intro j v hv;rw[Yo,hx]at hv
    have t:j<(q.extract 0 64).size:=by
     rcases Nat.lt_or_ge j (q.extract 0 64).data.toList.length with h|h
     ·simpa using h
     ·rw[Nh h]at hv;cases hv
    rw[Lib.bytesWorld_cell _ _ _ j t, <-hv,List.getD,Lb (by simpa using t)];rfl
   have m:=Lh d;have Hx:=Lh hx;have n:wr.grownBy (Lib.bytesWorld wr 5 (q.extract 0 64)) none:=U8 _ _ _;have u:=hJ _ _ _ none t n (λr e=>by cases e);have ac:Row (Lib.bytesWorld wr 5 (q.extract 0 64)) bs 9 #[.string q]:=(n.block bs hr.lt (by simp)).trans hr;have aw:k<s.length / 64:=by have:=g.out;omega
   obtain⟨fn,ao,af,an,hy,hR⟩:=hY _ x _ u (by rw[L1];omega);have am:=Lh n;have HR:=Lh hR;have ah:=Lh ac;clear d hx n t ac hr hR;gi_wp2_with (refine Ut rfl 201 _ rfl wr.heap.size rfl (u8s x.1) _ m.out Tryz.underlying201 rfl (by rw[Us,x.2];kernel_rfl) ?_);refine⟨rfl,HR.out.mono ?_⟩;rintro e W' (⟨rfl,z,aa,ax⟩|⟨rfl,aj⟩)
   ·have o:Row W' bs 9 #[.string q]:=aa.trans ah.out;have ar:=o.cellv (i:=0) (v:=.string q) rfl;have au:=o.free 0;have ag:=Lh z;clear z aa u hy hf c p;gi_wp2;go_roundw
    case rel=>
     refine⟨k+1,q.extract 64 q.size,?_,by have:=g.out;omega,o.set _ _,?_⟩
     ·have:=Hq.out;simp only[ByteArray.data_extract,Array.toList_extract,List.extract_eq_take_drop,this,Nj];rw[L7 (by simp;have:=g.out;omega),Nat.mul_add]
     ·refine hJ _ _ _ (some bs) ?_ (grownBy_setCell' _ _ _) (λr e=>by cases e;exact .inl rfl);rw[Ac2 s k x (by rw[Hx.out];simp[Hq.out]) (by have:=g.out;omega)];exact ag.out
    case measure=>
     have al:=o.set 0 (.string (q.extract 64 q.size));have ad:=al.cell 0;unfold AkM;rw[ad,hc];simp;omega
   ·clear u hy c p;gi_wp2;refine bodyPost_ret (results_none rfl _ _ _) rfl ?_;exact⟨⟨_,rfl⟩,.inr ⟨_,trivial,aj⟩⟩
  ·gi_wp2;go_end0
   refine⟨⟨_,rfl⟩,.inl ⟨_,rfl,?_⟩⟩;have av:k=s.length / 64:=by have:=g.out;omega
   rw[L7 (by rw[Ew _ _ (by omega)];omega)]at t;exact t
end Go.Proofs.YtkoikjnlpifbjaaGreat
namespace Go.Proofs.YtkoikjnlpifbjaaGreat
open Go.RowKit Go.Deep
def AdZ (R L k i:Nat):UInt8:=if i=0 then 128 else if i+k<L then 0 else UInt8.ofNat (R / 256 ^ (L-1-i))
def E7 (R L k:Nat):List UInt8:=(List.range L).map (AdZ R L k)
def Aca (R L k:Nat):Array Value:=(u8s (E7 R L k)).toArray
theorem Ee (R L k i:Nat):(Aca R L k)[i]? =if i<L then some (.int .u8 ((AdZ R L k i).toNat:Int))else none:=by
 unfold Aca E7;simp only[N7,Yo,L4];by_cases h:i<L<;>simp[h]
theorem Ag7 (R L k:Nat):(Aca R L k).size=L:=by simp[Aca,E7,u8s]
theorem Ag8 (R L k:Nat)(hk:k+1<L):(Aca R L k).setIfInBounds (L-1-k) (.int .u8 ((UInt8.ofNat (R / 256 ^ k)).toNat:Int))=Aca R L (k+1):=by
 apply Array.ext_getElem?;intro i;rw[N6,Ee,Ee,Ag7];by_cases hi:L-1-k=i
 ·subst hi;rw[if_pos rfl,if_pos (by omega),if_pos (by omega)];unfold AdZ;rw[if_neg (by omega),if_neg (by omega),show L-1-(L-1-k)=k from by omega]
 ·rw[if_neg hi];by_cases c:i<L
  ·rw[if_pos c,if_pos c];congr 4;unfold AdZ;by_cases d:i=0
   ·simp[d]
   ·rw[if_neg d,if_neg d];by_cases e:i+(k+1)<L
    ·rw[if_pos e,if_pos (by omega)]
    ·rw[if_neg e,if_neg (by omega)]
  ·rw[if_neg c,if_neg c]
theorem Afk (R L:Nat)(cs:Array Value)(hs:cs.size=L)(h:∀i,i<L->cs[i]? =some (.int .u8 0)):cs.setIfInBounds 0 (.int .u8 128)=Aca R L 0:=by
 apply Array.ext_getElem?;intro i;rw[N6,Ee,hs];by_cases hi:0=i
 ·subst hi;rw[if_pos rfl];by_cases c:0<L<;>simp[c,AdZ]
 ·rw[if_neg hi];by_cases c:i<L
  ·rw[if_pos c,h i c];unfold AdZ;rw[if_neg (by omega),if_pos (by omega)];rfl
  ·rw[if_neg c,Nz (by omega)]
theorem Aj4 (z:Value)(n i:Nat)(h:i<n):(madeCells #[z] n)[i]? =some z:=by
 unfold madeCells;simp[h,Nat.mod_one]
theorem Alg (q:Nat):((q:Int) % 256)=((UInt8.ofNat q).toNat:Int):=by simp
theorem Aij (L k:Nat):(L:Int)-1-(k:Int)-1=(L:Int)-1-((k+1:Nat):Int):=by omega
theorem Ah2 (R k:Nat):((R / 256 ^ k:Nat):Int) / 256=((R / 256 ^ (k+1):Nat):Int):=by
 rw[Nat.pow_succ, <-Nat.div_div_eq_div_mul];omega
def Afl (n:Nat):Nat:=72-(n+8) % 64
def UI (n:Nat):List UInt8:=E7 (n*8 % 18446744073709551616) (Afl n) 8
theorem Ag9 (R L k:Nat)(hk:k<=8)(h:R / 256 ^ k=0):E7 R L k=E7 R L 8:=by
 unfold E7;apply List.map_congr_left;intro i hi;unfold AdZ;by_cases c:i=0
 ·simp[c]
 ·rw[if_neg c,if_neg c];by_cases d:i+8<L
  ·rw[if_pos (by omega),if_pos d]
  ·rw[if_neg d];by_cases e:i+k<L
   ·rw[if_pos e]
    have:R / 256 ^ (L-1-i)=0:=by
     have g:256 ^ k<=256 ^ (L-1-i):=Nat.pow_le_pow_right (by omega) (by omega);rw[Nat.div_eq_zero_iff]at h|-;rcases h with h|h
     ·exact absurd h (Nat.pos_iff_ne_zero.1 (Nat.pow_pos (by omega)))
     ·exact .inr (by omega)
    rw[this];rfl
   ·rw[if_neg e]
theorem Akg (n:Int)(h0:0<=n)(h1:n<=9223372036854775807)(w:World):
 Calls Tryz.prog 118 #[.int .i64 n] w λe w'=>e=.returned (.string ⟨(UI n.toNat).toArray⟩)/\Below w.heap.size w w':=by
 obtain⟨L,hL,af,ad⟩:∃L:Nat,72-(n+8) % 64=(L:Int)/\9<=L/\L<=72:=⟨(72-(n+8) % 64).toNat,by omega,by omega,by omega⟩;obtain⟨u,o⟩:∃u,u=madeCells #[Value.int .u8 0] L:=⟨_,rfl⟩;have ac:=run_make_row' (P:=Tryz.prog) 250 5 (.int .u8 0) 1 Tryz.underlying250 VY rfl .i64 .i64 L (by omega) (by omega);have l:∀i,i<L->u[i]? =some (.int .u8 0):=λi hi=>by rw[o];exact Aj4 _ _ _ hi
 have s:=size_madeCells #[Value.int .u8 0] L;rw[<-o]at ac s;have ae:u[0]? =some (.int .u8 0):=l 0 (by omega)
 obtain⟨R,hR,g⟩:∃R:Nat,IntKind.u64.wrap (n*8)=(R:Int)/\R<18446744073709551616:=by
  rw[IntKind.wrap_u64];exact⟨((n*8) % 18446744073709551616).toNat,by omega,by omega⟩
 have t:=Lh g;have aa:=Lh l;have ab:=Lh s
 have d:Hid (E7 R L 8=UI n.toNat):=by
  unfold UI;rw[show Afl n.toNat=L from by unfold Afl;omega,show n.toNat*8 % 18446744073709551616=R from by rw[IntKind.wrap_u64]at hR;omega];rfl
 clear o l s g;go_enter Tryz.func118,Tryz.ntmps118
 go_wp2
 go_loopw [4,5] (λi r wr=>∃k:Nat,i=.int .i64 ((L:Int)-1-(k:Int))/\r=.int .u64 ((R / 256 ^ k:Nat):Int)/\k<=8/\Row wr w.heap.size 5 (Aca R L k)/\Below w.heap.size w wr) (λ_ r _=>(intOf r).toNat)
 case atStart=>exact⟨0,by simp,by simp,by omega,by rw[<-Afk R L u ab.out aa.out];exact Row.new _ _ _,(Below.refl _ _).alloc (Nat.le_refl _) _⟩
 case round=>
  obtain⟨k,rfl,rfl,hk,c,hb⟩:=hrel;by_cases y:R / 256 ^ k=0
  ·have m:=XF (P:=Tryz.prog) 250 9 5 5 Tryz.underlying250 Tryz.underlying5 Tryz.underlying9 (cap:=L) c (E7 R L k) (n:=L) (by simp[E7]) (λj hj=>by simp[Aca]);rw[Ag9 R L k hk y,d.out]at m;have z:((R / 256 ^ k:Nat):Int)=0:=by omega
   rw[z];clear y z d;go_wp2
   go_ret
   exact⟨rfl,hb⟩
  ·have ag:k<8:=by
     rcases Nat.lt_or_ge k 8 with h|h
     ·exact h
     ·obtain rfl:k=8:=by omega
      exact absurd (Nat.div_eq_of_lt t.out) y
   have x:0<R / 256 ^ k:=Nat.pos_of_ne_zero y;obtain⟨q,hq⟩:∃q,q=R / 256 ^ k:=⟨_,rfl⟩;rw[<-hq]at y x|-;have Hq:=Lh hq;clear hq;have hc:=c.cellv (i:=L-1-k) (v:=.int .u8 ((AdZ R L k (L-1-k)).toNat:Int)) (by rw[Ee,if_pos (by omega)]);have hf:=c.free (L-1-k);go_wp2
   go_roundw
   case rel=>exact⟨k+1,by rw[Aij],by rw[<-Ah2,Hq.out],by omega,by rw[<-Ag8 R L k (by omega),Alg,Hq.out];exact c.set _ _,hb.setCell (p:=⟨w.heap.size,L-1-k,none⟩) (Nat.le_refl _) _⟩
   case measure=>simp[intOf];omega
attribute [local go_sem] Oper.semAt_some
theorem AaU (s:ByteArray)(w:World):
 Calls Tryz.prog 117 #[.string s] w λe w'=>e=.returned (.func (.func 154) #[] #[.pointer (some ⟨w.heap.size,0,none⟩)])/\w.alloc (.cells #[.string s] 9)=w':=by
 go_enter Tryz.func117,Tryz.ntmps117
 go_wp2
 go_ret
 exact⟨rfl,rfl⟩
def KR (H:List (BitVec 32))(l:List Vz):List (BitVec 32):=l.foldl (λH c=>Ug H c.1) H
def AiZ (s:List UInt8):List UInt8:=XI (KR KV (Kq ((s++UI s.length).length / 64) (s++UI s.length)))
theorem KZ:∀(l:List Vz) (H:List (BitVec 32)),H.length=8->(KR H l).length=8
 |[],_,h=>h
 |_::l,_,h=>KZ l _ (XO _ _ h 8)
theorem AiH (n:Nat):(UI n).length=Afl n:=by simp[UI,E7]
theorem Akf (n:Nat):9<=Afl n/\Afl n<=72:=by unfold Afl;omega
theorem Akq (s:ByteArray)(hs:s.size<=1000000)(w:World):
 Calls Tryz.prog 81 #[.string s] w λe w'=>e=.returned (.string ⟨(AiZ s.data.toList).toArray⟩)/\Below w.heap.size w w':=by
 refine(callsIn_wide (n:=0)).1 ?_;refine callsIn_of_wp_marks Tryz.func81 rfl trivial ?_;simp only[Tryz.ntmps81,Lk,Lc,Lo,Nat.reduceAdd,Nat.reduceSub,Li,Lj,Lp,L5,Lm,Ll];gi_wp2_with fail
 refine⟨trivial,rfl,(callsIn_wide.2 (Ahl w)).mono ?_⟩;rintro e w1 ⟨rfl,b1⟩;gi_wp2_with (refine Zd rfl 195 _ _ rfl w1.heap.size (wds KV).toArray rfl rfl 195 _ (heap_alloc_new w1 _) (by kernel_rfl) rfl (U2 _) ?_;rw[World.setRow_alloc_new]);have rh:=Row.new w1 195 (wds KV).toArray;have b2:=b1.alloc b1.size (.cells (wds KV).toArray 195);have g1:=b1.size;obtain⟨G,hG⟩:∃G,G=w1.heap.size:=⟨_,rfl⟩;rw[<-hG]at rh g1|-;clear hG;have lh:=rh.lt;generalize w1.alloc (.cells (wds KV).toArray 195)=w2 at rh b2 lh|-;clear b1;refine⟨trivial,rfl,(callsIn_wide.2 (Akg (s.size:Int) (by omega) (by omega) w2)).mono ?_⟩;rw[Ln];rintro e w3 ⟨rfl,b3⟩;have ad:=rh.below b3 lh;have aa:=b2.trans (b3.mono b2.size);have l3:=b3.size;clear b3 b2 rh;have an:(UI s.size).length<=72:=by rw[AiH];exact(Akf _).2
 gi_wp2_with fail
 have hq:(s++(⟨(UI s.size).toArray⟩:ByteArray)).data.toList=s.data.toList++UI s.data.toList.length:=by simp
 have ao:(s++(⟨(UI s.size).toArray⟩:ByteArray)).size<=1000072:=by rw[ByteArray.size_append,Eg (UI s.size)];omega
 generalize (s++(⟨(UI s.size).toArray⟩:ByteArray))=q at hq ao|-;have Hq:=Lh hq;clear hq an;refine⟨trivial,rfl,(callsIn_wide.2 (AaU q w3)).mono ?_⟩;rintro e w4 ⟨rfl,ak⟩;have rb:=Row.new w3 9 #[.string q];have al:=ad.alloc (.cells #[.string q] 9);have b4:=aa.alloc aa.size (.cells #[.string q] 9);have g4:G<w3.heap.size:=ad.lt;have ag:(w3.alloc (.cells #[.string q] 9)).heap.size=w3.heap.size+1:=by simp
 rw[ak]at rb al b4 ag;obtain⟨v,ah⟩:∃v,v=w3.heap.size:=⟨_,rfl⟩;rw[<-ah]at rb g4 ag|-;clear ah ak ad aa l3 lh;have gB:w.heap.size<=v:=by omega
 have aj:q.data.toList.length<=2000000:=by simp;omega
 have af:=Lh (AbQ v q.data.toList aj w4 rb);gi_wp2
 refine Acd (gf:=154) (lb:=#[.pointer (some ⟨v,0,none⟩)]) rfl (enters_of Tryz.func154 (by kernel_rfl) rfl) af.out (λr h=>by subst h;omega)
  (λh k=>⟨k.1.trans h.1,Ld h.2 k.2⟩) (λW l o o' hl ho hc=>⟨by rw[World.putObj_heap_other (by omega)],by simp⟩) (World.grownBy.refl _ _) (λ_=>rfl)
  (λi W=>Row W G 195 (wds (KR KV i)).toArray/\Below w.heap.size w W/\v<W.heap.size) (λ_ _ _=>False) ?hI ?hIx ⟨al,b4,by omega⟩
  (λx a' W=>∃y,v<y/\Row W y 201 (u8s x.1).toArray/\a'={ tmps:=#[.string s,undef,.string ⟨#[]⟩,.pointer (some ⟨G,0,none⟩),.pointer (some ⟨y,0,none⟩),undef,.agg (wds KV).toArray,.string s,.string s,.int .i64 s.size,.string ⟨(UI s.size).toArray⟩,.string q,.func (.func 154) #[] #[.pointer (some ⟨v,0,none⟩)],.agg (u8s x.1).toArray,undef,undef,undef,undef,undef,undef,undef],defers:=[] }) ?hAx ?assign ?body ?done ?stop
 case hI=>
  intro i A B row hs hg g;refine⟨(hg.block G hs.1.lt (λe=>?_)).trans hs.1,hs.2.1.grown hg hs.2.1.size (λk hk=>?_),Lg hs.2.2 hg.size⟩
  ·rcases g _ e.symm with h|⟨h,_⟩<;>omega
  ·rcases g _ hk with h|⟨h,_⟩<;>omega
 case hIx=>exact λ_ _ _ _ _ h _ _=>h
 case hAx=>
  rintro x a' _ A B row ⟨y,h1,h2,h3⟩ hg g;refine⟨y,h1,(hg.block y h2.lt (λe=>?_)).trans h2,h3⟩;rcases g _ e.symm with h|⟨_,o,ho,hc⟩
  ·omega
  ·rw[h2]at ho;cases ho;cases hc
 case assign=>
  rintro l i x W K ⟨g,t,u⟩ hK;have hx:(u8s x.1).toArray.size=64:=Aee _ x.2;have Hx:=Lh hx;clear hx;have HK:=Lh hK;clear hK;gi_wp2_with (refine Zd rfl 201 _ _ rfl W.heap.size (u8s x.1).toArray rfl rfl 201 _ (heap_alloc_new W _) (by rw[Hx.out];kernel_rfl) (by rw[Hx.out];rfl) (Aku _) ?_;rw[World.setRow_alloc_new]);exact HK.out _ _ (KeepsFrom.alloc _ _ _) ⟨Below.heap_alloc _ _ _ u,by simp⟩ ⟨g.alloc _,t.alloc t.size _,by simp;omega⟩ ⟨_,u,Row.new _ _ _,rfl⟩
 case body=>
  rintro l i x a' W hl _ ⟨g,t,u⟩ ⟨y,aq,ap,rfl⟩ _;have hx:(u8s x.1).toArray.size=64:=Aee _ x.2;obtain⟨H,p⟩:∃H,H=KR KV i:=⟨_,rfl⟩;have m:H.length=8:=by rw[p];exact KZ _ _ rfl
  rw[<-p]at g;have Hx:=Lh hx;have HH:=Lh p;have d:=Lh m;clear hx p m
  gi_wp2_with (first
   | (refine Zz rfl 195 _ rfl G rfl 195 (wds H).toArray (0,0) _ g Tryz.underlying195 rfl (by rw[JP _ d.out];kernel_rfl) ?_)
   | (refine Zz rfl 201 _ rfl y rfl 201 (u8s x.1).toArray (0,0) _ ap Tryz.underlying201 rfl (by rw[Hx.out];kernel_rfl) ?_))
  refine⟨trivial,rfl,(CallsIn.inRound l (callsIn_wide.2 (Ags H d.out x.1 x.2 W))).mono ?_⟩;rintro e W2 ⟨rfl,j⟩;have ac:=g.below j g.lt;have hn:(Ug H x.1).length=8:=XO _ _ d.out 8;have Hn:=Lh hn;clear hn;gi_wp2_with (refine Zd rfl 195 _ _ rfl G (wds (Ug H x.1)).toArray rfl rfl 195 _ ac (by rw[JP _ Hn.out];kernel_rfl) (by rw[JP _ Hn.out,JP _ d.out]) (U2 _) ?_);refine⟨(KeepsFrom.of_below j).trans (KeepsFrom.setRow ac _),⟨(Acp _ _ _ _ (by omega)).trans (j.block _ u),Ld j.size (by simp[World.setRow])⟩,?_,?_,?_⟩
  ·have:=ac.setRow (wds (Ug H x.1)).toArray;have e:Ug H x.1=KR KV (i++[x]):=by rw[HH.out,KR,KR,List.foldl_append];rfl
   rw[e]at this;rw[e];exact this
  ·exact KG (t.trans (j.mono t.size)) g1 _
  ·have:=j.size;simp[World.setRow];omega
 case stop=>exact λD c i W _ _ h _=>h.elim
 case done=>
  rintro D ys W hD rfl ⟨g,t,_⟩ hK;obtain⟨H,p⟩:∃H,H=KR KV (Kq (q.data.toList.length / 64) q.data.toList):=⟨_,rfl⟩;have m:H.length=8:=by rw[p];exact KZ _ _ rfl
  have z:XI H=AiZ s.data.toList:=by rw[p,Hq.out];rfl
  rw[<-p]at g;have d:=Lh m;have ae:=Lh z;have HK:=Lh hK;clear p m z hK;gi_wp2_with (refine Zz rfl 195 _ rfl G rfl 195 (wds H).toArray (0,0) _ g Tryz.underlying195 rfl (by rw[JP _ d.out];kernel_rfl) ?_);refine⟨trivial,rfl,(callsIn_wide.2 (Agt H d.out W)).mono ?_⟩;rintro e W5 ⟨rfl,ab⟩;have ai:W5.heap[D]? =some (.deferred (some [])):=(ab.block D (Lr.1 HK.out).1).trans HK.out;rw[ae.out];have am:=Lh ai;clear ai HK g;gi_wp2;refine⟨by simp,.inl ⟨_,_,rfl,run_takeDeferred am.out,?_⟩⟩;exact⟨_,results_tmp rfl _ _ _,rfl,(t.trans (ab.mono t.size)).grown (grownBy_putObj' _ _ _) (Ld t.size ab.size) (λk e=>by cases e;omega)⟩
end Go.Proofs.YtkoikjnlpifbjaaGreat
namespace Go.Proofs.YtkoikjnlpifbjaaGreat
open Go.RowKit Go.Deep
def part (l:List UInt8)(n j:Nat):List UInt8:=l.take j++List.replicate (n-j) 0
def Uz (r:RunV):List UInt8:=AiZ (Uq r.kind r.value r.evs)
theorem UV (r:RunV)(w:World)(hok:r.ok w)(hl:r.evs.length<=10000):
 Calls Tryz.prog 52 #[r.val] w λe w'=>e=.returned (.string ⟨(Uz r).toArray⟩)/\Below w.heap.size w w':=by
 have c:=Lh hok;have j:=Lh hl;clear hok hl;go_enter Tryz.func52,Tryz.ntmps52
 rw[show r.val=.agg r.cells from rfl];go_wp2_with (refine Qq _ _ rfl ?_)
 refine Stop.to ?_;refine Qe rfl 114 _ rfl r.cells rfl ?_;intro G k m n h;have h:=(Below.refl w.heap.size w).trans (h.mono m);have d:r.ok k:=⟨c.out.kind,c.out.value,c.out.steps,c.out.len,c.out.cap,c.out.nil,c.out.reads.go h,c.out.evs⟩;have g:=Lh d;clear d;go_wp2_with (refine wpList_load_row rfl 114 _ rfl G rfl 114 r.cells (0,0) _ n Tryz.underlying114 rfl (by kernel_rfl) ?_)
 refine(Aec r k g.out (by have:=j.out;omega)).mono ?_;rintro e o ⟨rfl,i⟩;have i:=h.trans (i.mono h.size);go_wp2_with fail
 refine(Akq ⟨(Uq r.kind r.value r.evs).toArray⟩ (by rw[Eg];have:=Afy r.kind r.value r.evs;have:=j.out;omega) o).mono ?_;rintro e p ⟨rfl,l⟩;go_wp2_with fail
 go_ret
 exact⟨rfl,i.trans (l.mono i.size)⟩
theorem Ai0 (l:List UInt8):(AiZ l).length=32:=by
 rw[AiZ,Aex,KZ _ _ rfl]
theorem Ac8 (r:RunV):(Uz r).length=32:=Ai0 _
theorem RunV.ok.ok_go{r:RunV}{w w':World}(h:r.ok w)(b:Below w.heap.size w w'):r.ok w':=
 ⟨h.kind,h.value,h.steps,h.len,h.cap,h.nil,h.reads.go b,h.evs⟩
instance St.runok{r:RunV}:St (λW=>r.ok W):=⟨λh b=>h.ok_go b⟩
end Go.Proofs.YtkoikjnlpifbjaaGreat
