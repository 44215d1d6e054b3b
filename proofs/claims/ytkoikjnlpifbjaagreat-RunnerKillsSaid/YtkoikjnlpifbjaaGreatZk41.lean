/- Lemmas for RunnerKillsP. -/
import Derived.Test.YtkoikjnlpifbjaaGreatZk1
import Derived.Test.YtkoikjnlpifbjaaGreatZk40
set_option linter.unusedVariables false
set_option linter.unusedSimpArgs false
set_option maxRecDepth 100000
set_option maxHeartbeats 16000000
namespace Go.Proofs.YtkoikjnlpifbjaaGreat
open Go.RowKit Go.Deep
theorem Kc{P:Program}{o:Oper}{a:Act}{w w1:World}{K:Act->World->Prop}{Q:Exit->Act->World->Prop}(f:FuncId)(args:Array Value)(he:(execOp a.eval o).run P w=.ok (.enter f args) w1)
 (hc:Calls P f args w1 λ
  | .returned v,w'=>K (a.put o.dst v) w'
  | .panicked ch,w'=>Q (.panic ch) a w'
  | .outgrown,_=>LetsOut Q):o.wp P a w K Q:=by
 unfold Oper.wp;rw[he];exact hc
theorem DR.stop{L:Lay}{s:Ms}{ev:Value}{W:World}(h:DR L s ev W)(k v:Int):DR L (s.stop k v) ev W:=⟨h.row,h.evs,h.rows,h.im,h.size,h.sum,h.few⟩
theorem EntD.at1{L:Lay}{t:Tr}{s s':Ms}{v:Int}(h:EntD L t s v s'){q:Nat}{ev:Value}{W:World}(hat:At L.p.body (q+1) t)(hm:DR L s ev W):
 Calls Tryz.prog 135 #[.pointer (some ⟨L.M,0,none⟩),.int .i64 ((q:Int)+1)] W λe W'=>e=AgF v s'/\∃ev',DR L s' ev' W'/\RChg L ev W ev' W':=by
 have:=h (q+1) ev W hat hm;rwa[Int.natCast_add]at this
def Ah5 (s:Ms):Ending:=match s.out with|none=>.returned (.tuple #[])|some o=>Zc o.1 o.2
theorem JW{s:Ms}(h:s.out=none):Ah5 s=.returned (.tuple #[]):=by unfold Ah5;rw[h]
theorem Jq{k x:Int}{s:Ms}(h:s.out=some (k,x)):Ah5 s=Zc k x:=by unfold Ah5;rw[h]
def DoD (L:Lay)(x:Nd)(ks:List Tr)(t s':Ms):Prop:=∀(q:Nat) (ev:Value) (W:World),At L.p.body q (.node x ks)->DR L t ev W->
 Calls Tryz.prog 172 #[.pointer (some ⟨L.M,0,none⟩),.agg #[.int .i64 x.tag,.int .i64 x.n],.int .i64 (q:Int)] W λe W'=>e=Ah5 s'/\∃ev',DR L s' ev' W'/\RChg L ev W ev' W'
inductive WhD (L:Lay)(a b:Tr):Ms->Ms->Prop
 |cut {t t1:Ms} {v:Int} (h1:EntD L a t v t1) (ho:t1.out.isSome=true):WhD L a b t t1
 |done {t t1:Ms} {v:Int} (h1:EntD L a t v t1) (ho:t1.out=none) (hv:v≠1):WhD L a b t t1
 |cut2 {t t1 t2:Ms} {u:Int} (h1:EntD L a t 1 t1) (ho:t1.out=none) (h2:EntD L b t1 u t2) (ho2:t2.out.isSome=true):WhD L a b t t2
 |empty {t t1 t2:Ms} {u:Int} (h1:EntD L a t 1 t1) (ho:t1.out=none) (h2:EntD L b t1 u t2) (ho2:t2.out=none) (hf:t2.fuel=0):WhD L a b t (t2.stop 4 0)
 |more {t t1 t2 s':Ms} {u:Int} (h1:EntD L a t 1 t1) (ho:t1.out=none) (h2:EntD L b t1 u t2) (hg:t2.go) (hle:t.steps<=t2.steps) (h3:WhD L a b t2.tick s'):WhD L a b t s'
theorem AfQ (L:Lay)(hL:DOk L)(s:Ms)(ev:Value)(q:Nat)(x:Nd)(ks:List Tr)(n:Int)(m:Nat)(hm:n=(m:Int))(qn:Nat)(W:World)(h:DR L s ev W)(hat:At L.p.body q (.node x ks))(hn:(Q1 (q+1) ks)[m]? =some qn):
 Calls Tryz.prog 169 #[.pointer (some ⟨L.M,0,none⟩),.int .i64 (q:Int),.int .i64 n] W λe W'=>e=.returned (.int .i64 (qn:Int))/\Below W.heap.size W W':=by
 subst hm;exact AhV L hL s ev q x ks m qn W h hat hn
theorem EE (L:Lay)(hL:DOk L)(ts:List Tr)(q:Nat)(s s':Ms)(vs:List Int)(n:Int)(hn:n=(ts.length:Int))(ev:Value)(W:World)(h:DR L s ev W)(hats:Ats L.p.body (q+1) ts)(hch:Ko L ts s vs s')(ho:s.out=none)(hl:ts.length<=1000):
 Calls Tryz.prog 170 #[.pointer (some ⟨L.M,0,none⟩),.int .i64 ((q:Int)+1),.int .i64 n] W λe W'=>∃ev',DR L s' ev' W'/\RChg L ev W ev' W'/\((∃k x,s'.out=some (k,x)/\e=Zc k x)\/(s'.out=none/\∃v,e=.returned v/\FOwn L ev' W' W.heap.size v vs)):=by
 subst hn;have:=Agz L hL ts (q+1) s s' vs ev W h hats hch ho hl;rwa[Int.natCast_add]at this
theorem DR.drew1{L:Lay}{s:Ms}{ev:Value}{W:World}(h:DR L s ev W)(hL:LOk0 L):DR L s ev W.drew:=h.drew hL 1
theorem AkW (L:Lay)(hL:DOk L)(x:Nd)(t:Ms)(ht:x.tag=26)(ho:t.out=none):DoD L x [] t t:=by
 obtain⟨tag,n⟩:=x;dsimp only at ht|-;subst ht;have y:=Lh ho;clear ho;intro q c z e h;have s:=Lh hL;have u:=Lh e;have d:=Lh h;have l:=hL.blen;have m:=e.lt;have aa:IntKind.i64.wrap ((q:Int)+1)=(q:Int)+1:=IntWalk.i64_in _ (by omega);clear h e hL m l;go_enter Tryz.func172,Tryz.ntmps172
 go_wp2_with (refine Qq _ _ rfl ?_)
 refine Stop.to ?_;refine Qe rfl 65 _ rfl #[.int .i64 26,.int .i64 n] rfl ?_;intro X W j g k;have o:=d.out.below s.out (k.mono j);have w:=Lh o;have HX:Hid (FRow L c W X 65 #[.int .i64 26,.int .i64 n]):=⟨d.out.far_new j g.lt,g⟩;have p:Hid (RChg L c z c W):=RChg.below (k.mono j);have x0:=g.cellv (i:=0) (v:=.int .i64 26) rfl;have x1:=g.cellv (i:=1) (v:=.int .i64 n) rfl;clear o j g k d;go_wp2
 go_end0
 exact⟨(JW y.out).symm,c,w.out,p.out⟩
theorem AjH (L:Lay)(hL:DOk L)(x:Nd)(ks:List Tr)(vs:List Int)(t s':Ms)(ht:x.tag=20)(hn:x.n=(ks.length:Int))(hl:ks.length<=1000)(ho:t.out=none)(hch:Ko L ks t vs s'):DoD L x ks t s':=by
 obtain⟨tag,y⟩:=x;dsimp only at ht|-;subst ht;dsimp only at hn;have Hn:=Lh hn;have aa:=Lh hch;have Ho:=Lh ho;clear ho hch hn;intro q d W0 k h;have HL:=Lh hL;have z:=Lh k;have g:=Lh h;have ac:=hL.blen;have ad:=k.lt;have ab:IntKind.i64.wrap ((q:Int)+1)=(q:Int)+1:=IntWalk.i64_in _ (by omega);clear h k hL ad ac;go_enter Tryz.func172,Tryz.ntmps172
 go_wp2_with (refine Qq _ _ rfl ?_)
 refine Stop.to ?_;refine Qe rfl 65 _ rfl #[.int .i64 20,.int .i64 y] rfl ?_;intro X W w u b1;have hm:=g.out.below HL.out (b1.mono w);have Hm:=Lh hm;have HX:Hid (FRow L d W X 65 #[.int .i64 20,.int .i64 y]):=⟨g.out.far_new w u.lt,u⟩;have HC:Hid (RChg L d W0 d W):=RChg.below (b1.mono w);have x0:=u.cellv (i:=0) (v:=.int .i64 20) rfl;have x1:=u.cellv (i:=1) (v:=.int .i64 y) rfl;clear hm w u b1 g;go_wp2_with fail
 refine(EE L HL.out ks q t s' vs y Hn.out d W Hm.out z.out.kids aa.out Ho.out hl).mono ?_;rintro e Wa ⟨o,s,p,hr⟩;have l:=Lh (HC.out.trans p);have m:=Lh s;clear s p Hm HC HX x0 x1 ab;rcases hr with⟨ok,ox,c,rfl⟩|⟨c,v,rfl,_⟩
 ·simp only[Zc];have j:=Lh c;clear c;go_wp2
  exact⟨rfl,(Jq j.out).symm,o,m.out,l.out⟩
 ·have j:=Lh c;clear c;go_wp2
  go_end0
  exact⟨(JW j.out).symm,o,m.out,l.out⟩
theorem Alx (L:Lay)(hL:DOk L)(x:Nd)(a:Tr)(t t1:Ms)(v:Int)(ht:x.tag=25)(h1:EntD L a t v t1)(ho:t1.out=none):DoD L x [a] t (t1.stop 0 v):=by
 obtain⟨tag,s⟩:=x;dsimp only at ht|-;subst ht;intro q g W0 j h;have HL:=Lh hL;have w:=Lh j;have d:=Lh h;have aa:=hL.blen;have ab:=j.lt;have ac:IntKind.i64.wrap ((q:Int)+1)=(q:Int)+1:=IntWalk.i64_in _ (by omega);clear h j hL ab aa;go_enter Tryz.func172,Tryz.ntmps172
 go_wp2_with (refine Qq _ _ rfl ?_)
 refine Stop.to ?_;refine Qe rfl 65 _ rfl #[.int .i64 25,.int .i64 s] rfl ?_;intro X W p m y;have hm:=d.out.below HL.out (y.mono p);have o:=Lh hm;have n:Hid (FRow L g W X 65 #[.int .i64 25,.int .i64 s]):=⟨d.out.far_new p m.lt,m⟩;have u:Hid (RChg L g W0 g W):=RChg.below (y.mono p);have x0:=m.cellv (i:=0) (v:=.int .i64 25) rfl;have x1:=m.cellv (i:=1) (v:=.int .i64 s) rfl;clear hm p m y d;have c:=Lh (EntD.at1 h1 w.out.kids.head o.out);go_wp2_with fail
 refine c.out.mono ?_;rintro e Wa ⟨rfl,z,l,k⟩;replace n:=Lh (n.out.go HL.out k);replace u:=Lh (u.out.trans k);clear c x0 x1 o h1;have o:=Lh l;have x0:=n.out.2.cellv (i:=0) (v:=.int .i64 25) rfl;have x1:=n.out.2.cellv (i:=1) (v:=.int .i64 s) rfl;clear l k;rw[QU ho];clear ho;go_wp2_with fail
 refine(YV _ _ _).mono ?_;rintro e w' ⟨rfl,rfl⟩;simp only[Zc];go_wp2
 exact⟨rfl,rfl,z,o.out.stop _ _,u.out⟩
theorem Ah3 (L:Lay)(hL:DOk L)(x:Nd)(a:Tr)(t t1:Ms)(v:Int)(ht:x.tag=25)(h1:EntD L a t v t1)(ho:t1.out.isSome=true):DoD L x [a] t t1:=by
 obtain⟨tag,u⟩:=x;dsimp only at ht|-;subst ht;intro q g W0 j h;have HL:=Lh hL;have y:=Lh j;have d:=Lh h;have ab:=hL.blen;have ac:=j.lt;have ad:IntKind.i64.wrap ((q:Int)+1)=(q:Int)+1:=IntWalk.i64_in _ (by omega);clear h j hL ac ab;go_enter Tryz.func172,Tryz.ntmps172
 go_wp2_with (refine Qq _ _ rfl ?_)
 refine Stop.to ?_;refine Qe rfl 65 _ rfl #[.int .i64 25,.int .i64 u] rfl ?_;intro X W s n b1;have hm:=d.out.below HL.out (b1.mono s);have p:=Lh hm;have o:Hid (FRow L g W X 65 #[.int .i64 25,.int .i64 u]):=⟨d.out.far_new s n.lt,n⟩;have w:Hid (RChg L g W0 g W):=RChg.below (b1.mono s);have x0:=n.cellv (i:=0) (v:=.int .i64 25) rfl;have x1:=n.cellv (i:=1) (v:=.int .i64 u) rfl;clear hm s n b1 d;have c:=Lh (EntD.at1 h1 y.out.kids.head p.out);go_wp2_with fail
 refine c.out.mono ?_;rintro e Wa ⟨rfl,aa,m,k⟩;replace o:=Lh (o.out.go HL.out k);replace w:=Lh (w.out.trans k);clear c x0 x1 p h1;have p:=Lh m;have x0:=o.out.2.cellv (i:=0) (v:=.int .i64 25) rfl;have x1:=o.out.2.cellv (i:=1) (v:=.int .i64 u) rfl;clear m k;obtain⟨⟨ok,ox⟩,l⟩:=LI.1 ho;rw[Zu l];simp only[Zc];have z:=Lh l;clear l ho;go_wp2
 exact⟨rfl,(Jq z.out).symm,aa,p.out,w.out⟩
theorem AjI (L:Lay)(hL:DOk L)(x:Nd)(a:Tr)(ks:List Tr)(t t1:Ms)(v:Int)(ht:x.tag=23)(h1:EntD L a t v t1)(ho:t1.out.isSome=true):DoD L x (a::ks) t t1:=by
 obtain⟨tag,u⟩:=x;dsimp only at ht|-;subst ht;intro q g W0 j h;have HL:=Lh hL;have y:=Lh j;have d:=Lh h;have ab:=hL.blen;have ac:=j.lt;have ad:IntKind.i64.wrap ((q:Int)+1)=(q:Int)+1:=IntWalk.i64_in _ (by omega);clear h j hL ac ab;go_enter Tryz.func172,Tryz.ntmps172
 go_wp2_with (refine Qq _ _ rfl ?_)
 refine Stop.to ?_;refine Qe rfl 65 _ rfl #[.int .i64 23,.int .i64 u] rfl ?_;intro X W s n b1;have hm:=d.out.below HL.out (b1.mono s);have p:=Lh hm;have o:Hid (FRow L g W X 65 #[.int .i64 23,.int .i64 u]):=⟨d.out.far_new s n.lt,n⟩;have w:Hid (RChg L g W0 g W):=RChg.below (b1.mono s);have x0:=n.cellv (i:=0) (v:=.int .i64 23) rfl;have x1:=n.cellv (i:=1) (v:=.int .i64 u) rfl;clear hm s n b1 d;have c:=Lh (EntD.at1 h1 y.out.kids.head p.out);go_wp2_with fail
 refine c.out.mono ?_;rintro e Wa ⟨rfl,aa,m,k⟩;replace o:=Lh (o.out.go HL.out k);replace w:=Lh (w.out.trans k);clear c x0 x1 p h1;have p:=Lh m;have x0:=o.out.2.cellv (i:=0) (v:=.int .i64 23) rfl;have x1:=o.out.2.cellv (i:=1) (v:=.int .i64 u) rfl;clear m k;obtain⟨⟨ok,ox⟩,l⟩:=LI.1 ho;rw[Zu l];simp only[Zc];have z:=Lh l;clear l ho;go_wp2
 exact⟨rfl,(Jq z.out).symm,aa,p.out,w.out⟩
theorem AlZ (L:Lay)(hL:DOk L)(x:Nd)(a b c k:Tr)(t t1 s2:Ms)(v u:Int)(ht:x.tag=23)(h1:EntD L a t v t1)(ho:t1.out=none)(hv01:v=0\/v=1)(hv:[a,b,c][(2-v).toNat]? =some k)(h2:EntD L k t1 u s2):DoD L x [a,b,c] t s2:=by
 obtain⟨tag,nn⟩:=x;dsimp only at ht|-;subst ht;rcases hv01 with rfl|rfl
 ·obtain rfl:c=k:=by simpa using hv
  clear hv;intro q s W0 w h;have HL:=Lh hL;have n:=Lh w;have p:=Lh h;have am:=hL.blen;have an:=w.lt;have al:IntKind.i64.wrap ((q:Int)+1)=(q:Int)+1:=IntWalk.i64_in _ (by omega);clear h w hL an am;go_enter Tryz.func172,Tryz.ntmps172
  go_wp2_with (refine Qq _ _ rfl ?_)
  refine Stop.to ?_;refine Qe rfl 65 _ rfl #[.int .i64 23,.int .i64 nn] rfl ?_;intro X W hX rX b1;have hm:=p.out.below HL.out (b1.mono hX);have g:=Lh hm;have HX:Hid (FRow L s W X 65 #[.int .i64 23,.int .i64 nn]):=⟨p.out.far_new hX rX.lt,rX⟩;have m:Hid (RChg L s W0 s W):=RChg.below (b1.mono hX);have x0:=rX.cellv (i:=0) (v:=.int .i64 23) rfl;have x1:=rX.cellv (i:=1) (v:=.int .i64 nn) rfl;clear hm hX rX b1 p;obtain⟨qn,ai,l⟩:=V7 n.out (i:=2) (k:=c) rfl;have d:=Lh (EntD.at1 h1 n.out.kids.head g.out);go_wp2_with fail
  refine d.out.mono ?_;rintro e Wa ⟨rfl,j,af,y⟩;replace HX:=Lh (HX.out.go HL.out y);replace m:=Lh (m.out.trans y);clear d x0 x1 g h1;have g:=Lh af;have x0:=HX.out.2.cellv (i:=0) (v:=.int .i64 23) rfl;have x1:=HX.out.2.cellv (i:=1) (v:=.int .i64 nn) rfl;clear af y;rw[QU ho];clear ho;go_wp2_with fail
  refine(AfQ L HL.out t1 j q _ [a,b,c] 2 2 rfl qn Wa g.out n.out ai).mono ?_;rintro e Wb ⟨rfl,bb⟩;have ab:=Lh (g.out.below HL.out bb);have ad:RChg L j Wa j Wb:=RChg.below bb;have aa:=Lh (m.out.trans ad);clear bb ad g m HX x0 x1 ai;have d:=Lh (h2 qn j Wb l ab.out);clear l h2 al;go_wp2_with fail
  refine d.out.mono ?_;rintro e Wc ⟨rfl,ac,ag,ae⟩;have g:=Lh ag;have m:=Lh (aa.out.trans ae);clear ag ae ab aa d;cases hs2:s2.out with
  |none=>
   rw[QU hs2];have ak:=Lh hs2;clear hs2;go_wp2
   go_end0
   exact⟨(JW ak.out).symm,ac,g.out,m.out⟩
  |some o=>
   have ah:s2.out.isSome=true:=by rw[hs2];rfl
   clear hs2;obtain⟨⟨ok,ox⟩,z⟩:=LI.1 ah;rw[Zu z];simp only[Zc];have aj:=Lh z;clear z ah;go_wp2
   exact⟨rfl,(Jq aj.out).symm,ac,g.out,m.out⟩
 ·obtain rfl:b=k:=by simpa using hv
  clear hv;intro q s W0 w h;have HL:=Lh hL;have n:=Lh w;have p:=Lh h;have am:=hL.blen;have an:=w.lt;have al:IntKind.i64.wrap ((q:Int)+1)=(q:Int)+1:=IntWalk.i64_in _ (by omega);clear h w hL an am;go_enter Tryz.func172,Tryz.ntmps172
  go_wp2_with (refine Qq _ _ rfl ?_)
  refine Stop.to ?_;refine Qe rfl 65 _ rfl #[.int .i64 23,.int .i64 nn] rfl ?_;intro X W hX rX b1;have hm:=p.out.below HL.out (b1.mono hX);have g:=Lh hm;have HX:Hid (FRow L s W X 65 #[.int .i64 23,.int .i64 nn]):=⟨p.out.far_new hX rX.lt,rX⟩;have m:Hid (RChg L s W0 s W):=RChg.below (b1.mono hX);have x0:=rX.cellv (i:=0) (v:=.int .i64 23) rfl;have x1:=rX.cellv (i:=1) (v:=.int .i64 nn) rfl;clear hm hX rX b1 p;obtain⟨qn,ai,l⟩:=V7 n.out (i:=1) (k:=b) rfl;have d:=Lh (EntD.at1 h1 n.out.kids.head g.out);go_wp2_with fail
  refine d.out.mono ?_;rintro e Wa ⟨rfl,j,af,y⟩;replace HX:=Lh (HX.out.go HL.out y);replace m:=Lh (m.out.trans y);clear d x0 x1 g h1;have g:=Lh af;have x0:=HX.out.2.cellv (i:=0) (v:=.int .i64 23) rfl;have x1:=HX.out.2.cellv (i:=1) (v:=.int .i64 nn) rfl;clear af y;rw[QU ho];clear ho;go_wp2_with fail
  refine(AfQ L HL.out t1 j q _ [a,b,c] 1 1 rfl qn Wa g.out n.out ai).mono ?_;rintro e Wb ⟨rfl,bb⟩;have ab:=Lh (g.out.below HL.out bb);have ad:RChg L j Wa j Wb:=RChg.below bb;have aa:=Lh (m.out.trans ad);clear bb ad g m HX x0 x1 ai;have d:=Lh (h2 qn j Wb l ab.out);clear l h2 al;go_wp2_with fail
  refine d.out.mono ?_;rintro e Wc ⟨rfl,ac,ag,ae⟩;have g:=Lh ag;have m:=Lh (aa.out.trans ae);clear ag ae ab aa d;cases hs2:s2.out with
  |none=>
   rw[QU hs2];have ak:=Lh hs2;clear hs2;go_wp2
   go_end0
   exact⟨(JW ak.out).symm,ac,g.out,m.out⟩
  |some o=>
   have ah:s2.out.isSome=true:=by rw[hs2];rfl
   clear hs2;obtain⟨⟨ok,ox⟩,z⟩:=LI.1 ah;rw[Zu z];simp only[Zc];have aj:=Lh z;clear z ah;go_wp2
   exact⟨rfl,(Jq aj.out).symm,ac,g.out,m.out⟩
theorem Ah4 (L:Lay)(hL:DOk L)(x:Nd)(a:Tr)(t t1:Ms)(v:Int)(ht:x.tag=21)(h1:EntD L a t v t1)(ho:t1.out.isSome=true):DoD L x [a] t t1:=by
 obtain⟨tag,l⟩:=x;dsimp only at ht|-;subst ht;intro q c W0 j h;have HL:=Lh hL;have y:=Lh j;have g:=Lh h;have ad:=hL.blen;have ae:=j.lt;have ac:IntKind.i64.wrap ((q:Int)+1)=(q:Int)+1:=IntWalk.i64_in _ (by omega);clear h j hL ae ad;go_enter Tryz.func172,Tryz.ntmps172
 go_wp2_with (refine Qq _ _ rfl ?_)
 refine Stop.to ?_;refine Qe rfl 65 _ rfl #[.int .i64 21,.int .i64 l] rfl ?_;intro X W u s b1;have hm:=g.out.below HL.out (b1.mono u);have Hm:=Lh hm;have HX:Hid (FRow L c W X 65 #[.int .i64 21,.int .i64 l]):=⟨g.out.far_new u s.lt,s⟩;have HC:Hid (RChg L c W0 c W):=RChg.below (b1.mono u);have x0:=s.cellv (i:=0) (v:=.int .i64 21) rfl;have x1:=s.cellv (i:=1) (v:=.int .i64 l) rfl;clear hm u s b1 g;have d:=EntD.at1 h1 y.out.kids.head (Hm.out.drew1 HL.out);go_wp2_with fail
 refine wp_region_held (S:=λW=>Row W X 65 #[.int .i64 21,.int .i64 l]) (by kernel_rfl) ?_;simp only[Lk,Lc,Lo,Nat.reduceAdd,Li,Lj,Lp,Lm,Ll];show wpAnyH _ _ _ _ _ _ _ _ W.drew;have hS:Row W.drew X 65 #[.int .i64 21,.int .i64 l]:=HX.out.2;(refine tkH 0 (.pointer (some ⟨L.M,0,none⟩)) rfl (Qd rfl (λW m=>by(go_simp))) ?_;simp only[Act.put,Qa,Qb,Qc]);(refine tkH 1 (.pointer (some ⟨X,1,none⟩)) rfl (Qd rfl (λW m=>by(go_simp))) ?_;simp only[Act.put,Qa,Qb,Qc]);(refine tkH 2 (.int .i64 l) rfl (Qd rfl (λW m=>by((have h:=m.cellv (i:=1) (v:=.int .i64 l) rfl;go_simp)))) ?_;simp only[Act.put,Qa,Qb,Qc]);(refine tkH 3 (.pointer (some ⟨L.M,0,none⟩)) rfl (Qd rfl (λW m=>by(go_simp))) ?_;simp only[Act.put,Qa,Qb,Qc]);(refine tkH 4 (.int .i64 (q:Int)) rfl (Qd rfl (λW m=>by(go_simp))) ?_;simp only[Act.put,Qa,Qb,Qc]);(refine tkH 5 (.int .i64 ((q:Int)+1)) rfl (Qd rfl (λW m=>by(go_simp;try exact ac))) ?_;simp only[Act.put,Qa,Qb,Qc])
 (refine wpAnyH_all (rs:=[6]) (by kernel_rfl) (by simp) (λi hi=>?_);obtain rfl:i=6:=by simpa using hi);refine Qf rfl rfl (λK2 af=>?_);refine Kc 135 #[.pointer (some ⟨L.M,0,none⟩),.int .i64 ((q:Int)+1)] (w1:=W.drew) (by go_simp) ?_;refine d.mono ?_;rintro e Wa ⟨rfl,ab,p,n⟩;clear d;obtain⟨⟨ok,ox⟩,k⟩:=LI.1 ho;rw[Zu k];simp only[Zc];have o:RChg L c W c W.drew:=RChg.below ⟨rfl,rfl,rfl,Nat.le_refl _,λ_ _=>rfl⟩;have w:=Lh (HC.out.trans (o.trans n));have z:=Lh p;have aa:=Lh k;clear k ho p n o;go_wp2
 exact⟨rfl,(Jq aa.out).symm,ab,z.out,w.out⟩
theorem Aly (L:Lay)(hL:DOk L)(x:Nd)(a:Tr)(t t1:Ms)(v ty:Int)(ht:x.tag=21)(h1:EntD L a t v t1)(ho:t1.out=none)(hn0:0<=x.n)(hV:L.p.V[x.n.toNat]? =some ty)(hz:QC ty=0)(hlen:t1.vals.length=L.p.V.length)(hf:t1.evs.length<t1.steps):DoD L x [a] t (t1.setv x.n v):=by
 obtain⟨tag,d⟩:=x;dsimp only at ht|-;subst ht;dsimp only at hn0 hV|-;obtain⟨n,rfl⟩:∃n:Nat,d=(n:Int):=⟨d.toNat,by omega⟩;rw[Ln]at hV;generalize ad:(n:Int)=d;have ah:=Lh ad;have HV:=Lh hV;have Hz:=Lh hz;have aa:=Lh hlen;have Hf:=Lh hf;have Ho:=Lh ho;clear ad hV hz hlen hf ho hn0;intro q c W0 m h;have HL:=Lh hL;have af:=Lh m;have j:=Lh h;have am:=hL.blen;have ao:=m.lt;have al:IntKind.i64.wrap ((q:Int)+1)=(q:Int)+1:=IntWalk.i64_in _ (by omega);clear h m hL ao am;go_enter Tryz.func172,Tryz.ntmps172
 go_wp2_with (refine Qq _ _ rfl ?_)
 refine Stop.to ?_;refine Qe rfl 65 _ rfl #[.int .i64 21,.int .i64 d] rfl ?_;intro X W hX rX b1;have hm:=j.out.below HL.out (b1.mono hX);have Hm:=Lh hm;have HX:Hid (FRow L c W X 65 #[.int .i64 21,.int .i64 d]):=⟨j.out.far_new hX rX.lt,rX⟩;have HC:Hid (RChg L c W0 c W):=RChg.below (b1.mono hX);have x0:=rX.cellv (i:=0) (v:=.int .i64 21) rfl;have x1:=rX.cellv (i:=1) (v:=.int .i64 d) rfl;clear hm hX rX b1 j;have g:=EntD.at1 h1 af.out.kids.head (Hm.out.drew1 HL.out);go_wp2_with fail
 refine wp_region_held (S:=λW=>Row W X 65 #[.int .i64 21,.int .i64 d]) (by kernel_rfl) ?_;simp only[Lk,Lc,Lo,Nat.reduceAdd,Li,Lj,Lp,Lm,Ll];show wpAnyH _ _ _ _ _ _ _ _ W.drew;have hS:Row W.drew X 65 #[.int .i64 21,.int .i64 d]:=HX.out.2;(refine tkH 0 (.pointer (some ⟨L.M,0,none⟩)) rfl (Qd rfl (λW y=>by(go_simp))) ?_;simp only[Act.put,Qa,Qb,Qc]);(refine tkH 1 (.pointer (some ⟨X,1,none⟩)) rfl (Qd rfl (λW y=>by(go_simp))) ?_;simp only[Act.put,Qa,Qb,Qc]);(refine tkH 2 (.int .i64 d) rfl (Qd rfl (λW y=>by((have h:=y.cellv (i:=1) (v:=.int .i64 d) rfl;go_simp)))) ?_;simp only[Act.put,Qa,Qb,Qc]);(refine tkH 3 (.pointer (some ⟨L.M,0,none⟩)) rfl (Qd rfl (λW y=>by(go_simp))) ?_;simp only[Act.put,Qa,Qb,Qc]);(refine tkH 4 (.int .i64 (q:Int)) rfl (Qd rfl (λW y=>by(go_simp))) ?_;simp only[Act.put,Qa,Qb,Qc]);(refine tkH 5 (.int .i64 ((q:Int)+1)) rfl (Qd rfl (λW y=>by(go_simp;try exact al))) ?_;simp only[Act.put,Qa,Qb,Qc])
 (refine wpAnyH_all (rs:=[6]) (by kernel_rfl) (by simp) (λi hi=>?_);obtain rfl:i=6:=by simpa using hi);refine Qf rfl rfl (λK2 k=>?_);refine Kc 135 #[.pointer (some ⟨L.M,0,none⟩),.int .i64 ((q:Int)+1)] (w1:=W.drew) (by go_simp) ?_;refine g.mono ?_;rintro e Wa ⟨rfl,aj,ab,o⟩;clear g;rw[QU Ho.out];have an:n<t1.vals.length:=by rw[aa.out];exact(La.1 HV.out).1
 have w:=AjG L HL.out t1 aj n ty v _ Wa ab HV.out Hz.out (Lb an) Hf.out;rw[ah.out]at w;have l:=HX.out.go HL.out ((RChg.below ⟨rfl,rfl,rfl,Nat.le_refl _,λ_ _=>rfl⟩:RChg L c W c W.drew).trans o);have z:=Lh (HC.out.trans ((RChg.below ⟨rfl,rfl,rfl,Nat.le_refl _,λ_ _=>rfl⟩:RChg L c W c W.drew).trans o));refine k _ _ ?_;simp only[Act.put,Qa,Qb,Qc];refine⟨l.2,?_⟩;clear ab o hS;(refine wpAnyH_all (rs:=[7]) (by kernel_rfl) (by simp) (λi hi=>?_);obtain rfl:i=7:=by simpa using hi);refine Qf rfl rfl (λK2 k=>?_);refine Kc 199 #[.pointer (some ⟨L.M,0,none⟩),.int .i64 d,.int .i64 (-1),.int .i64 v] (w1:=Wa) (by go_simp) ?_;refine w.mono ?_;rintro e Wb ⟨⟨u,rfl⟩,ak,ac,s⟩;refine k _ _ ?_;simp only[Act.put,Qa,Qb,Qc];refine⟨(l.go HL.out s).2,?_⟩;refine wpAnyH_done (by kernel_rfl) ?_ _;have ag:=Lh ac;have ae:=Lh (z.out.trans s);have ai:Hid ((t1.setv d v).out=none):=Ho.out;clear ac s w l z x0 x1 HX Hm HC;go_wp2
 go_end0
 exact⟨(JW ai.out).symm,ak,ag.out,ae.out⟩
theorem Ada (L:Lay)(hL:DOk L)(x:Nd)(a b:Tr)(t s':Ms)(vs:List Int)(ht:x.tag=22)(ho:t.out=none)(hch:Ko L [a,b] t vs s')(ho2:s'.out.isSome=true):DoD L x [a,b] t s':=by
 obtain⟨tag,nn⟩:=x;dsimp only at ht|-;subst ht;have s:=Lh hch;have Ho:=Lh ho;have w:=Lh ho2;clear ho hch ho2;intro q c W0 j h;have HL:=Lh hL;have p:=Lh j;have g:=Lh h;have ac:=hL.blen;have ad:=j.lt;have ab:IntKind.i64.wrap ((q:Int)+1)=(q:Int)+1:=IntWalk.i64_in _ (by omega);clear h j hL ad ac;go_enter Tryz.func172,Tryz.ntmps172
 go_wp2_with (refine Qq _ _ rfl ?_)
 refine Stop.to ?_;refine Qe rfl 65 _ rfl #[.int .i64 22,.int .i64 nn] rfl ?_;intro X W n m z;have hm:=g.out.below HL.out (z.mono n);have Hm:=Lh hm;have HX:Hid (FRow L c W X 65 #[.int .i64 22,.int .i64 nn]):=⟨g.out.far_new n m.lt,m⟩;have HC:Hid (RChg L c W0 c W):=RChg.below (z.mono n);have x0:=m.cellv (i:=0) (v:=.int .i64 22) rfl;have x1:=m.cellv (i:=1) (v:=.int .i64 nn) rfl;clear hm n m z g;go_wp2_with fail
 refine(EE L HL.out [a,b] q t s' vs 2 rfl c W Hm.out p.out.kids s.out Ho.out (by simp)).mono ?_;rintro e Wa ⟨aa,l,k,hr⟩;have o:=Lh (HC.out.trans k);have u:=Lh l;clear l k Hm HC HX x0 x1 ab;rcases hr with⟨ok,ox,d,rfl⟩|⟨d,v,rfl,_⟩
 ·simp only[Zc];have y:=Lh d;clear d;go_wp2
  exact⟨rfl,(Jq y.out).symm,aa,u.out,o.out⟩
 ·exact absurd w.out (by rw[d];simp)
theorem AjK (L:Lay)(hL:DOk L)(x:Nd)(a b:Tr)(t s2:Ms)(v u ty:Int)(ht:x.tag=22)(ho:t.out=none)(hch:Ko L [a,b] t [v,u] s2)(ho2:s2.out=none)(hn0:0<=x.n)(hV:L.p.V[x.n.toNat]? =some ty)(hz:QC ty≠0)(hs:LenS L.p.V s2)(hb:v<0\/((s2.arr x.n).length:Int)<=v):DoD L x [a,b] t (s2.stop 2 0):=by
 obtain⟨tag,nn⟩:=x;dsimp only at ht|-;subst ht;dsimp only at hn0 hV hb|-;obtain⟨n,rfl⟩:∃n:Nat,nn=(n:Int):=⟨nn.toNat,by omega⟩;rw[Ln]at hV;have y:∀(ev:Value) (W:World),DR L s2 ev W->_:=λev W h=>AhZ L hL s2 ev n ty v u W h hV hz hs hb
 generalize av:(n:Int)=nn at y;have am:=Lh y;have ao:=Lh hch;have Ho:=Lh ho;have aq:=Lh ho2;clear av hV hz hs hb ho ho2 hch hn0 y;intro q j W0 ab h;have HL:=Lh hL;have an:=Lh ab;have s:=Lh h;have au:=hL.blen;have ax:=ab.lt;have ar:IntKind.i64.wrap ((q:Int)+1)=(q:Int)+1:=IntWalk.i64_in _ (by omega);clear h ab hL ax au;go_enter Tryz.func172,Tryz.ntmps172
 go_wp2_with (refine Qq _ _ rfl ?_)
 refine Stop.to ?_;refine Qe rfl 65 _ rfl #[.int .i64 22,.int .i64 nn] rfl ?_;intro X W hX rX b1;have hm:=s.out.below HL.out (b1.mono hX);have Hm:=Lh hm;have HX:Hid (FRow L j W X 65 #[.int .i64 22,.int .i64 nn]):=⟨s.out.far_new hX rX.lt,rX⟩;have HC:Hid (RChg L j W0 j W):=RChg.below (b1.mono hX);have x0:=rX.cellv (i:=0) (v:=.int .i64 22) rfl;have x1:=rX.cellv (i:=1) (v:=.int .i64 nn) rfl;clear hm hX rX b1 s;go_wp2_with fail
 refine(EE L HL.out [a,b] q t s2 [v,u] 2 rfl j W Hm.out an.out.kids ao.out Ho.out (by simp)).mono ?_;rintro e z ⟨c,ak,ac,hr⟩;rcases hr with⟨ok,ox,aw,rfl⟩|⟨_,lv,rfl,m⟩
 ·exact absurd aw (by rw[aq.out];simp)
 obtain⟨A,az,rfl,ae⟩:=m.frd;obtain⟨ad,rfl,d⟩:=Zg (k:=0) (x:=v) ae.1 rfl;obtain⟨ay,aa,g⟩:=Zg (k:=1) (x:=u) ae.1 rfl;injection aa with aa;subst aa;replace d:z.cell? ad=some (.int .i64 v):=d;replace g:z.cell? ⟨ad.block,ad.off+1,none⟩=some (.int .i64 u):=by simpa[Addr.add]using g
 have o:=Lh (HX.out.go HL.out ac);have af:=Lh (HC.out.trans ac);have ah:=Lh ak;have x0:=o.out.2.cellv (i:=0) (v:=.int .i64 22) rfl;have x1:=o.out.2.cellv (i:=1) (v:=.int .i64 nn) rfl;clear ak ac Hm HC HX ar ae m;go_wp2_with fail
 refine QJ 9 (by kernel_rfl) (by kernel_rfl) ?_;simp only[L0,LE,Lz,LA];have l:∀a u,z.cell? a=some u->z.drew.cell? a=some u:=λ_ _ h=>h
 replace x1:=l _ _ x1;replace d:=l _ _ d;replace g:=l _ _ g;have aj:RChg L c z c z.drew:=RChg.below ⟨rfl,rfl,rfl,Nat.le_refl _,λ_ _=>rfl⟩;have ag:=Lh (af.out.trans aj);have w:=Lh (ah.out.drew1 HL.out);clear l aj af ah o x0;generalize z.drew=Wd at*
 repeat still_step
 refine wpStill_nil ?_;go_wp2_with fail
 refine(am.out c Wd w.out).mono ?_;rintro e Wb ⟨rfl,bb⟩;have ap:=Lh (w.out.below HL.out bb);have ai:RChg L c Wd c Wb:=RChg.below bb;have al:=Lh (ag.out.trans ai);clear bb ai w ag x1 d g;simp only[Zc];go_wp2
 exact⟨rfl,rfl,c,ap.out.stop _ _,al.out⟩
theorem Alw (L:Lay)(hL:DOk L)(x:Nd)(a b:Tr)(t s2:Ms)(v u ty:Int)(ht:x.tag=22)(ho:t.out=none)(hch:Ko L [a,b] t [v,u] s2)(ho2:s2.out=none)(hn0:0<=x.n)(hV:L.p.V[x.n.toNat]? =some ty)(hz:QC ty≠0)(hs:LenS L.p.V s2)(hb:¬(v<0\/((s2.arr x.n).length:Int)<=v))(hf:s2.evs.length<s2.steps):DoD L x [a,b] t (s2.seta x.n v u):=by
 obtain⟨tag,m⟩:=x;dsimp only at ht|-;subst ht;dsimp only at hn0 hV hb|-;obtain⟨n,rfl⟩:∃n:Nat,m=(n:Int):=⟨m.toNat,by omega⟩;rw[Ln]at hV;have y:∀(ev:Value) (W:World),DR L s2 ev W->_:=λev W h=>AjF L hL s2 ev n ty v u W h hV hz hs hb hf
 generalize az:(n:Int)=m at y|-;have aq:=Lh y;have au:=Lh hch;have Ho:=Lh ho;have ak:=Lh ho2;clear az hV hz hs hb ho ho2 hch hn0 hf y;intro q g W0 ac h;have HL:=Lh hL;have ar:=Lh ac;have w:=Lh h;have ay:=hL.blen;have a1:=ac.lt;have ax:IntKind.i64.wrap ((q:Int)+1)=(q:Int)+1:=IntWalk.i64_in _ (by omega);clear h ac hL a1 ay;go_enter Tryz.func172,Tryz.ntmps172
 go_wp2_with (refine Qq _ _ rfl ?_)
 refine Stop.to ?_;refine Qe rfl 65 _ rfl #[.int .i64 22,.int .i64 m] rfl ?_;intro X W hX rX b1;have hm:=w.out.below HL.out (b1.mono hX);have Hm:=Lh hm;have HX:Hid (FRow L g W X 65 #[.int .i64 22,.int .i64 m]):=⟨w.out.far_new hX rX.lt,rX⟩;have HC:Hid (RChg L g W0 g W):=RChg.below (b1.mono hX);have x0:=rX.cellv (i:=0) (v:=.int .i64 22) rfl;have x1:=rX.cellv (i:=1) (v:=.int .i64 m) rfl;clear hm hX rX b1 w;go_wp2_with fail
 refine(EE L HL.out [a,b] q t s2 [v,u] 2 rfl g W Hm.out ar.out.kids au.out Ho.out (by simp)).mono ?_;rintro e z ⟨aa,an,ae,hr⟩;rcases hr with⟨ok,ox,a0,rfl⟩|⟨_,lv,rfl,l⟩
 ·exact absurd a0 (by rw[ak.out];simp)
 obtain⟨A,a3,rfl,af⟩:=l.frd;obtain⟨ad,rfl,c⟩:=Zg (k:=0) (x:=v) af.1 rfl;obtain⟨a2,ab,d⟩:=Zg (k:=1) (x:=u) af.1 rfl;injection ab with ab;subst ab;replace c:z.cell? ad=some (.int .i64 v):=c;replace d:z.cell? ⟨ad.block,ad.off+1,none⟩=some (.int .i64 u):=by simpa[Addr.add]using d
 have o:=Lh (HX.out.go HL.out ae);have ag:=Lh (HC.out.trans ae);have ai:=Lh an;have x0:=o.out.2.cellv (i:=0) (v:=.int .i64 22) rfl;have x1:=o.out.2.cellv (i:=1) (v:=.int .i64 m) rfl;clear an ae Hm HC HX ax af l;go_wp2_with fail
 refine QJ 9 (by kernel_rfl) (by kernel_rfl) ?_;simp only[L0,LE,Lz,LA];have j:∀a u,z.cell? a=some u->z.drew.cell? a=some u:=λ_ _ h=>h
 replace x1:=j _ _ x1;replace c:=j _ _ c;replace d:=j _ _ d;have am:RChg L aa z aa z.drew:=RChg.below ⟨rfl,rfl,rfl,Nat.le_refl _,λ_ _=>rfl⟩;have ah:=Lh (ag.out.trans am);have aj:=Lh (ai.out.drew1 HL.out);clear j am ag ai o x0;generalize z.drew=Wd at*
 repeat still_step
 refine wpStill_nil ?_;go_wp2_with fail
 refine(aq.out aa Wd aj.out).mono ?_;rintro e Wb ⟨⟨uu,rfl⟩,aw,ao,al⟩;have av:=Lh ao;have ap:=Lh (ah.out.trans al);clear ao al aj ah x1 c d;go_wp2
 go_end0
 exact⟨(JW (s:=s2.seta m v u) ak.out).symm,aw,av.out,ap.out⟩
def stepsIn (L:Lay)(W:World):Nat:=(intOf ((W.cell? ⟨L.M,5,none⟩).getD (.int .i64 0))).toNat
theorem DR.stepsIn{L:Lay}{s:Ms}{ev:Value}{W:World}(h:DR L s ev W):stepsIn L W=s.steps:=by
 unfold Go.Proofs.YtkoikjnlpifbjaaGreat.stepsIn;rw[h.row.cellv (i:=5) (v:=.int .i64 (s.steps:Int)) rfl];simp[intOf]
theorem Ali{L:Lay}{a b:Tr}{t s':Ms}(h:WhD L a b t s'):∃v t1,EntD L a t v t1/\((t1.out.isSome=true/\s'=t1)\/(t1.out=none/\v≠1/\s'=t1)\/(t1.out=none/\v=1/\∃u t2,EntD L b t1 u t2/\((t2.out.isSome=true/\s'=t2)\/(t2.out=none/\t2.fuel=0/\s'=t2.stop 4 0)\/(t2.go/\t.steps<=t2.steps/\WhD L a b t2.tick s')))):=by
 cases h with
 |cut h1 ho=>exact⟨_,_,h1,.inl ⟨ho,rfl⟩⟩
 |done h1 ho hv=>exact⟨_,_,h1,.inr (.inl ⟨ho,hv,rfl⟩)⟩
 |cut2 h1 ho h2 ho2=>exact⟨_,_,h1,.inr (.inr ⟨ho,rfl,_,_,h2,.inl ⟨ho2,rfl⟩⟩)⟩
 |empty h1 ho h2 ho2 hf=>exact⟨_,_,h1,.inr (.inr ⟨ho,rfl,_,_,h2,.inr (.inl ⟨ho2,hf,rfl⟩)⟩)⟩
 |more h1 ho h2 hg hle h3=>exact⟨_,_,h1,.inr (.inr ⟨ho,rfl,_,_,h2,.inr (.inr ⟨hg,hle,h3⟩)⟩)⟩
theorem AbZ (L:Lay)(hL:DOk L)(x:Nd)(a b:Tr)(t s':Ms)(ht:x.tag=24)(hw:WhD L a b t s'):DoD L x [a,b] t s':=by
 obtain⟨tag,nn⟩:=x;dsimp only at ht|-;subst ht;have Hw:=Lh hw;have hF:=hL.F;clear hw;intro q ac W0 ar h;have z:=Lh hL;have ao:=Lh ar;have m:=Lh h;have bg:=hL.blen;have bi:=ar.lt;have bm:IntKind.i64.wrap ((q:Int)+1)=(q:Int)+1:=IntWalk.i64_in _ (by omega);clear h ar hL bi bg;go_enter Tryz.func172,Tryz.ntmps172
 go_wp2_with (refine Qq _ _ rfl ?_)
 refine Stop.to ?_;refine Qe rfl 65 _ rfl #[.int .i64 24,.int .i64 nn] rfl ?_;intro X W hX rX b1;have hm:=m.out.below z.out (b1.mono hX);have l:=Lh hm;have HX:Hid (FRow L ac W X 65 #[.int .i64 24,.int .i64 nn]):=⟨m.out.far_new hX rX.lt,rX⟩;have o:Hid (RChg L ac W0 ac W):=RChg.below (b1.mono hX);have x0:=rX.cellv (i:=0) (v:=.int .i64 24) rfl;have x1:=rX.cellv (i:=1) (v:=.int .i64 nn) rfl;clear hm hX rX b1 m;obtain⟨qn,a5,am⟩:=V7 ao.out (i:=1) (k:=b) rfl;have bc:=Lh a5;have a1:=Lh am;clear a5 am;go_wp2_with fail
 go_loopw [] (λwr=>∃(sk:Ms) (aj:Value),Hid (WhD L a b sk s')/\Hid (DR L sk aj wr)/\Hid (RChg L ac W0 aj wr)/\Hid (FRow L aj wr X 65 #[.int .i64 24,.int .i64 nn])) (λwr=>L.F-stepsIn L wr)
 case atStart=>exact⟨t,ac,Hw,l,o,HX⟩
 case round=>
  clear Hw l o HX x0 x1;obtain⟨sk,aj,Hw,l,o,HX⟩:=hrel;have a6:=l.out.stepsIn;obtain⟨v,t1,h1,al⟩:=Ali Hw.out;have bd:=Lh a6;have p:=Lh al;have c:=Lh (EntD.at1 h1 ao.out.kids.head l.out);clear a6 h1 al;go_wp2_with fail
  refine c.out.mono ?_;rintro e Wa ⟨rfl,s,a4,av⟩;replace HX:=Lh (HX.out.go z.out av);replace o:=Lh (o.out.trans av);clear c l;have l:=Lh a4;clear a4 av;rcases p.out with⟨j,rfl⟩|⟨j,a7,rfl⟩|⟨j,rfl,u,y,h2,ad⟩
  ·clear p;obtain⟨⟨ok,ox⟩,n⟩:=LI.1 j;rw[Zu n];simp only[Zc];have ap:=Lh n;clear n j;go_wp2
   exact⟨rfl,(Jq ap.out).symm,s,l.out,o.out⟩
  ·rw[QU j];have ba:=Lh j;have bl:(v==1)=false:=by simpa using a7
   have x0:=HX.out.2.cellv (i:=0) (v:=.int .i64 24) rfl;clear j a7 p;go_wp2
   go_end0
   exact⟨(JW ba.out).symm,s,l.out,o.out⟩
  ·rw[QU j];have g:=Lh ad;have H2:=Lh h2;clear j p ad h2;go_wp2_with fail
   refine(AfQ L z.out t1 s q _ [a,b] 1 1 rfl qn Wa l.out ao.out bc.out).mono ?_;rintro e Wb ⟨rfl,bb⟩;have aa:=Lh (l.out.below z.out bb);have aw:RChg L s Wa s Wb:=RChg.below bb;have ah:=Lh (o.out.trans aw);have ai:=Lh (HX.out.go z.out aw);clear bb aw l o HX;have c:=Lh (H2.out qn s Wb a1.out aa.out);go_wp2_with fail
   refine c.out.mono ?_;rintro e Wc ⟨rfl,d,af,ax⟩;have l:=Lh af;have o:=Lh (ah.out.trans ax);have HX:=Lh (ai.out.go z.out ax);have c2:=af.row.cellv (i:=2) (v:=.int .i64 (L.F:Int)) rfl;have c5:=af.row.cellv (i:=5) (v:=.int .i64 (y.steps:Int)) rfl;have an:=af.sum;clear af ax aa ah ai c;rcases g.out with⟨w,rfl⟩|⟨w,bh,rfl⟩|⟨ae,a3,a8⟩
   ·clear g c2 c5;obtain⟨⟨ok,ox⟩,n⟩:=LI.1 w;rw[Zu n];simp only[Zc];have ap:=Lh n;clear n w;go_wp2
    exact⟨rfl,(Jq ap.out).symm,d,l.out,o.out⟩
   ·rw[QU w];have hd:L.F<=y.steps:=by omega
    have bk:=Lh w;clear w bh an g;go_wp2_with fail
    go_quiet (fail)
    go_wp2_with fail
    refine(YV _ _ _).mono ?_;rintro e w' ⟨rfl,rfl⟩;simp only[Zc];clear c2 c5;go_wp2
    exact⟨rfl,rfl,d,(l.out.drew z.out _).stop _ _,o.out.trans (.below ⟨rfl,rfl,rfl,Nat.le_refl _,λ_ _=>rfl⟩)⟩
   ·rw[QU ae.1];have hd:¬L.F<=y.steps:=by have:=ae.2;omega
    have bf:IntKind.i64.wrap ((y.steps:Int)+1)=(y.steps:Int)+1:=IntWalk.i64_in _ (by omega);have ag:y.tick.steps+y.tick.fuel=L.F:=by have:=ae.2;simp only[Ms.tick];omega
    have bj:=Lh ae;have a2:=Lh ag;have be:=Lh a8;have a9:=Lh a3;clear ae a8 a3 g an ag;go_wp2_with fail
    go_quiet (fail)
    obtain⟨ab,ak⟩:∃ab,ab=Wc.drewN nq:=⟨_,rfl⟩;rw[<-ak];have ay:DR L y d ab:=by rw[ak];exact l.out.drew z.out _
    have au:RChg L d Wc d ab:=by rw[ak];exact .below ⟨rfl,rfl,rfl,Nat.le_refl _,λ_ _=>rfl⟩
    have a0:=Lh (HX.out.go z.out au);have az:=Lh (o.out.trans au);have m:=Lh ay;replace c5:=ay.row.cellv (i:=5) (v:=.int .i64 (y.steps:Int)) rfl;clear ay au ak c2 l HX o hd;go_wp2_with (refine Qs _ _ _ rfl ?_)
    refine Stop.to ?_;refine Qm rfl 3 _ _ rfl L.M 5 rfl _ rfl [.int .i64 ((y.steps:Int)+1)] rfl 156 _ (L.dcells y.tick d) m.out.row (by kernel_rfl) (by show 5+1<=7;omega) (by simp[Value.oneCell']) rfl ?_;intro W2 r2 o2;have m2:DR L y.tick d W2:=m.out.setM z.out o2 r2 rfl rfl rfl a2.out (by simp[Ms.tick]);have aq:RChg L d ab d W2:=RChg.only o2 (.inl rfl);have ai:=Lh (a0.out.go z.out aq);have ah:=Lh (az.out.trans aq);have aa:=Lh m2;clear r2 o2 m2 aq c5 m az a0 bf;go_wp2_with fail
    refine⟨?_,?measure⟩
    ·repeat apply Exists.intro
     refine⟨?_,rfl⟩;exact⟨y.tick,d,be,aa,ah,ai⟩
    case measure=>rw[aa.out.stepsIn,bd.out];have:=a9.out;have:=a2.out;simp only[Ms.tick]at this|-;omega
end Go.Proofs.YtkoikjnlpifbjaaGreat
