/- Lemmas for RunnerKillsP. -/
import Derived.Test.YtkoikjnlpifbjaaGreatZk1
import Derived.Test.YtkoikjnlpifbjaaGreatZk38
import Derived.Test.YtkoikjnlpifbjaaGreatZk12
import Derived.Test.YtkoikjnlpifbjaaGreatZk25
import Derived.WalkLawsBesides
set_option linter.unusedVariables false
set_option linter.unusedSimpArgs false
set_option maxRecDepth 100000
set_option maxHeartbeats 16000000
namespace Go.Proofs.YtkoikjnlpifbjaaGreat
open Go.RowKit Go.Deep
def tvR (g:Nat):IntsV:=⟨some ⟨g,0,none⟩,0,[]⟩
theorem Ai5 (g:Nat)(W:World):∀x∈[tvR g],x.ok W:=λx hx=>by
 rw[Lv.1 hx];exact⟨Nat.le_refl _,by unfold maxLen;simp[tvR],λh=>(by cases h),λj u c=>by simp[tvR,Qi]at c,by simp[tvR]⟩
theorem AlG{g:Nat}{W:World}(r:Row W g 65 (bodyR.flatMap Nd.cells).toArray):(pR g).ok W:=
 ⟨by unfold InI pR;dsimp only;omega,Nat.le_refl _,Nat.zero_le _,λ_=>rfl,Rd.nil _ _,by simp[pR],by simp[pR,bodyR],by unfold maxLen;simp[pR],λh=>(by cases h),Ace r,by simp[pR,bodyR,InI]⟩
theorem AhE (g:Nat):Zo (pR g) [[]] 9=0:=by
 unfold Zo;rw[if_neg (by rw[checkP_ok.2 ⟨_,Ade g⟩];simp)];show Z3 0 [[]] 9=0;decide
theorem AhF (g:Nat):Zo (pR g) [] 9=18:=by
 unfold Zo;rw[if_neg (by rw[checkP_ok.2 ⟨_,Ade g⟩];simp)];show Z3 0 [] 9=18;decide
theorem Ael (w:World):Calls Tryz.prog 6 #[] w λe w'=>e=.returned (.bool true)/\Below w.heap.size w w':=by
 go_enter Tryz.func6,Tryz.ntmps6
 obtain⟨S0,bm,a4,t⟩:=Al0 (w:=w) (λW=>Below w.heap.size w W) (Below.refl _ _);go_wp2_with (refine ZJ _ _ _ rfl ?_)
 refine Stop.to ?_;refine QA rfl 23 3 _ rfl 65 (bodyR.flatMap Nd.cells).toArray (Z8 Tryz.underlying23 AjT (by decide) (by decide) (by kernel_rfl)) ?_;intro k az o q p;have j:=bm.go a4.out (p.mono o);obtain⟨S1,bn,a5,D1,a2⟩:=EJ (w:=az) S0 (λW=>Row W k 65 (bodyR.flatMap Nd.cells).toArray) j (q);clear j a4 o q p;go_wp2_with (refine QH _ rfl ?_)
 refine Stop.to ?_;refine Qj rfl 25 rfl _ _ Aji rfl ?_;intro ah b0 o q p;go_wp2_with (refine Qs _ _ _ rfl ?_)
 refine Stop.to ?_;refine Qk rfl 25 _ _ rfl ah #[.int .i64 0,.slice none 0 0,.slice (some ⟨k,0,none⟩) 3 3] rfl rfl 25 _ q (by kernel_rfl) rfl (by simp[Value.oneCell']) ?_;intro bi rH oH;have bH:Below (az).heap.size az bi:=(p.mono o).trans (oH.below o);have j:=bn.go a5.out (bH);obtain⟨S2,bo,au,D2,aq⟩:=EJ (w:=bi) S1 (λW=>Row W ah 25 #[.int .i64 0,.slice none 0 0,.slice (some ⟨k,0,none⟩) 3 3]) j (rH);clear j a5 o q p rH oH bH;have aa:Hid (∀W,S2 W->(pR k).ok W):=by show ∀W,_;exact λW hW=>AlG (a2.out _ (D2.out _ hW))
 go_wp2_with (first| (refine wpList_load_row rfl 25 _ rfl ah rfl 25 #[.int .i64 0,.slice none 0 0,.slice (some ⟨k,0,none⟩) 3 3] (0,0) _ (aq.out _ au.out) Tryz.underlying25 rfl (by kernel_rfl) ?_)| (refine ZJ _ _ _ rfl ?_))
 refine Stop.to ?_;refine QA rfl 22 0 _ rfl 3 #[] (λW=>by kernel_rfl) ?_;intro al bu o q p;have j:=bo.go au.out (p.mono o);obtain⟨S3,bp,a6,D3,bv⟩:=EJ (w:=bu) S2 (λW=>Row W al 3 #[]) j (q);clear j au o q p;go_wp2_with (refine ZJ _ _ _ rfl ?_)
 refine Stop.to ?_;refine QA rfl 26 1 _ rfl 22 (Jo [tvR al]).toArray (Z8 Tryz.underlying26 AfZ (by decide) (by decide) (by kernel_rfl)) ?_;intro a3 bj o q p;have j:=bp.go a6.out (p.mono o);obtain⟨S4,be,af,D4,a0⟩:=EJ (w:=bj) S3 (λW=>Row W a3 22 (Jo [tvR al]).toArray) j (q);clear j a6 o q p;go_wp2_with fail
 refine(Ack (pR k) (some ⟨a3,0,none⟩) 1 [tvR al] 9 bj (aa.out _ (D3.out _ (D4.out _ af.out))) (by show 3<=40;omega) (Ace (a0.out _ af.out)) (Ai5 _ _) (by simp)).mono ?_;rintro e ao ⟨-,z,x⟩;obtain⟨c,rfl, -,hd⟩:=z (AhE k);have Hc:Hid (c.mts.length=5/\c.sc=⟨0,5,0⟩):=Aln (w:=w) (hd Yq (Ade k));have j:=be.go af.out (x);replace af:=Lh j;clear j x z hd;go_wp2_with (refine QH _ rfl ?_)
 refine Stop.to ?_;refine Qj rfl 38 rfl _ _ (K6 _) rfl ?_;intro ag bx o q p;go_wp2_with (refine Qs _ _ _ rfl ?_)
 refine Stop.to ?_;refine Qk rfl 38 _ _ rfl ag c.cells rfl rfl 38 _ q (by kernel_rfl) rfl (by simp[CpV.cells,Value.oneCell']) ?_;intro ap rH oH;have bH:Below (ao).heap.size ao ap:=(p.mono o).trans (oH.below o);have j:=be.go af.out (bH);obtain⟨S5,bq,av,D5,ae⟩:=EJ (w:=ap) S4 (λW=>Row W ag 38 c.cells) j (rH);clear j af o q p rH oH bH;go_wp2_with (first| (refine wpList_load_row rfl 25 _ rfl ah rfl 25 #[.int .i64 0,.slice none 0 0,.slice (some ⟨k,0,none⟩) 3 3] (0,0) _ (aq.out _ (D3.out _ (D4.out _ (D5.out _ av.out)))) Tryz.underlying25 rfl (by kernel_rfl) ?_)| (refine ZJ _ _ _ rfl ?_))
 refine Stop.to ?_;refine QA rfl 22 0 _ rfl 3 #[] (λW=>by kernel_rfl) ?_;intro ab bf o q p;have j:=bq.go av.out (p.mono o);obtain⟨S6,br,a7,D6,bw⟩:=EJ (w:=bf) S5 (λW=>Row W ab 3 #[]) j (q);clear j av o q p;go_wp2_with (refine ZJ _ _ _ rfl ?_)
 refine Stop.to ?_;refine QA rfl 26 1 _ rfl 22 (Jo [tvR ab]).toArray (Z8 Tryz.underlying26 AfZ (by decide) (by decide) (by kernel_rfl)) ?_;intro an aj o q p;have j:=br.go a7.out (p.mono o);obtain⟨S7,bs,ai,D7,a1⟩:=EJ (w:=aj) S6 (λW=>Row W an 22 (Jo [tvR ab]).toArray) j (q);clear j a7 o q p;go_wp2_with fail
 refine(Ab6 (pR k) (some ⟨an,0,none⟩) 1 [tvR ab] 9 aj (aa.out _ (D3.out _ (D4.out _ (D5.out _ (D6.out _ (D7.out _ ai.out)))))) (by show 3<=999;omega) (Ace (a1.out _ ai.out)) (Ai5 _ _) (by simp)).mono ?_;rintro e ak ⟨-,z,x⟩;obtain⟨R,rfl,hR,⟨q1,q2,q3⟩,bc,hf,ax,bd,aw,a9,bl⟩:=z (AhE k);have HS:Hid (RunS (pR k) [[]] 9 0 R):=⟨⟨q1,q2,q3⟩,bc,hf,ax,by rw[aw];omega,by rw[a9,aw];rfl,bd,AhE _⟩;obtain⟨lo,ac⟩:∃lo,lo=(aj).heap.size:=⟨_,rfl⟩;have bk:Hid (w.heap.size<=lo):=by show _<=_;rw[ac];exact((t.out _ (D1.out _ (D2.out _ (D3.out _ (D4.out _ (D5.out _ (D6.out _ (D7.out _ ai.out))))))))).size
 have a8:Hid (lo<=ak.heap.size):=by show _<=_;rw[ac];exact x.size
 rw[<-ac]at hR;have Hx:Hid (R.xs.length=5):=by show _=_;rw[<-Lu (f:=DlV.d),ax Yq (Ade k)];exact congrArg List.length Ajo
 clear q1 q2 q3 bc hf ax bd aw a9 bl ac;have j:=bs.go ai.out (x);obtain⟨S8,bt,u,D8,y,ar⟩:=AjN (w:=ak) S7 (λW=>RnIn lo R W) (λW=>lo<=W.heap.size) j (hR) (a8.out);clear j ai x z hR;go_wp2_with (refine wpList_load_row rfl 25 _ rfl ah rfl 25 #[.int .i64 0,.slice none 0 0,.slice (some ⟨k,0,none⟩) 3 3] (0,0) _ (aq.out _ (D3.out _ (D4.out _ (D5.out _ (D6.out _ (D7.out _ (D8.out _ u.out))))))) Tryz.underlying25 rfl (by kernel_rfl) ?_)
 refine(Ab6 (pR k) none 0 [] 9 ak (aa.out _ (D3.out _ (D4.out _ (D5.out _ (D6.out _ (D7.out _ (D8.out _ u.out))))))) (by show 3<=999;omega) (Rd.nil _ _) (by simp) (by simp)).mono ?_;rintro e bg ⟨ba, -,x⟩;have h0:=ba (by rw[show List.map IntsV.l []=[]from rfl,AhF];decide);rw[show List.map IntsV.l []=[]from rfl,AhF]at h0;subst h0;have j:=bt.go u.out (x);replace u:=Lh j;clear j x ba;go_wp2_with fail
 refine(Abw R bg (y.out _ u.out) HS.out (ar.out _ u.out) (by show 3<=40;omega)).mono ?_;rintro e w9 ⟨R2,rfl,hN⟩;rw[Hx.out,show decide (0<5)=true from rfl];have h1:=hN.rn;have h2:=hN.tk _ _ _ (ae.out _ (D6.out _ (D7.out _ (D8.out _ u.out)))) (by decide) (by decide);have h3:=((t.out _ (D1.out _ (D2.out _ (D3.out _ (D4.out _ (D5.out _ (D6.out _ (D7.out _ (D8.out _ u.out)))))))))).trans (hN.low.mono bk.out);have Hg:Hid (R2.g=R.g):=hN.g;have H1:Hid (RunS (pR k) [[]] 9 1 R2):=hN.s;have H5:Hid (R2.xs.length=5):=by show _=_;rw[hN.xs,Hx.out]
 have am:Hid (R2.n=1):=by show _=_;rw[H1.out.n,H5.out];rfl
 obtain⟨S9,ay,m,t,ae,y⟩:=AjN (w:=w9) (λW=>Below w.heap.size w W) (λW=>Row W ag 38 c.cells) (λW=>RnIn lo R2 W) (h3) (h2) (h1);clear h1 h2 h3 hN u;have c5:=((ae.out _ m.out).cellv (i:=5) (v:=.slice c.mA 5 c.mcap) (by show some (Value.slice c.mA c.mts.length c.mcap)=_;rw[Hc.out.1]));have c6:=((ae.out _ m.out).cellv (i:=6) (v:=.int .i64 0) (by show some (Value.int .i64 c.sc.alive)=_;rw[Hc.out.2]));have c7:=((ae.out _ m.out).cellv (i:=7) (v:=.int .i64 5) (by show some (Value.int .i64 c.sc.killed)=_;rw[Hc.out.2]));have c8:=((ae.out _ m.out).cellv (i:=8) (v:=.int .i64 0) (by show some (Value.int .i64 c.sc.timeout)=_;rw[Hc.out.2]));go_wp2_with fail
 have Hd:=Lh (EF R2.g R2.cells 1 w9 (y.out _ m.out).row (by show some (Value.int .i64 (R2.n:Int))=_;rw[am.out];rfl));rw[Hg.out]at Hd;refine Hd.out.mono ?_;clear Hd;rintro e w' ⟨rfl,hw⟩;replace hw:=hw.symm;subst hw;clear c5 c6 c7 c8;go_wp2_with fail
 have Hd:=Lh (EW R2 w9 (y.out _ m.out) (by rw[am.out,H5.out];omega) (by rw[H5.out];omega));rw[Hg.out]at Hd;refine Hd.out.mono ?_;rintro e bh ⟨rfl,x⟩;rw[show((R2.xs.length:Int)-(R2.n:Int))=4 from by rw[H5.out,am.out];rfl];have j:=ay.go m.out (x);replace m:=Lh j;clear j x Hd;go_wp2_with fail
 have Hd:=Lh (Aa5 R2 bh (y.out _ m.out) H1.out (by show 3<=40;omega));rw[Hg.out]at Hd;refine Hd.out.mono ?_;rintro e ad ⟨c2,rfl, -, -,hd,x⟩
 have hm:c2.mts.length=1:=by
  have h:=congrArg (λd=>d.muts.length) hd;have h2:c2.muts.length=c2.mts.length:=Lu _;rw[<-h2];refine h.trans ?_;show(List.map _ ((R2.xs.map DlV.d).take R2.n)).length=1;rw[Lu,L1,Lu,H5.out,am.out];rfl
 have hf:∀W,(Instr.field 38 (.agg c2.cells) 3).run Tryz.prog W=.ok (.slice c2.mA 1 c2.mcap) W:=λW=>by rw[<-hm];kernel_rfl
 clear hd hm;have j:=ay.go m.out (x);replace m:=Lh j;clear j x Hd;go_wp2_with fail
 clear hf;refine(AdO ad).mono ?_;rintro e w' ⟨rfl,hw⟩;replace hw:=hw.symm;subst hw;go_wp2_with fail
 refine(Adb ad).mono ?_;rintro e w' ⟨rfl,hw⟩;replace hw:=hw.symm;subst hw;go_wp2_with fail
 refine(Adz ad).mono ?_;rintro e w' ⟨rfl,hw⟩;replace hw:=hw.symm;subst hw;go_wp2_with fail
 refine(AcR ad).mono ?_;rintro e bz ⟨rfl,x⟩;have hf:∀W,(Instr.field 38 (.agg cp0.cells) 1).run Tryz.prog W=.ok (.slice none 0 0) W:=λW=>by kernel_rfl
 have j:=ay.go m.out (x);replace m:=Lh j;clear j x;go_wp2_with fail
 go_ret
 exact⟨rfl,(t.out _ m.out)⟩
def AgJ (p:PgV)(ts:List IntsV)(fuel:Int):Bool:=AgI p && (EK ts && (decide (p.body.length<=40) && (decide (ts.length<=5) && (decide (fuel<=200) || decide (10000<fuel)))))
theorem AjP{p:PgV}{ts:List IntsV}{fuel:Int}(h:AgJ p ts fuel=true):p.body.length<=40/\p.V.length<=20/\ts.length<=5/\(∀x∈ts,x.l.length<=40)/\(fuel<=200\/10000<fuel):=by
 unfold AgJ AgI EK at h;simp only[LX,Bool.or_eq_true,decide_eq_true_eq]at h;exact⟨h.2.2.1,h.1.2,h.2.2.2.1,h.2.1.2,h.2.2.2.2⟩
theorem AgG (p:PgV)(A:Option Addr)(cap:Nat)(ts:List IntsV)(fuel:Int)(w:World)(hr:Rd w A (Jo ts)):Calls Tryz.prog 23 #[.agg p.cells,.slice A ts.length cap,.int .i64 fuel] w λe w'=>e=.returned (.bool (AgJ p ts fuel))/\Below w.heap.size w w':=by
 have Hr:=Lh hr;clear hr;have d:Hid (∀{β:Bool},(AgI p && (EK ts && (decide (p.body.length<=40) && (decide (ts.length<=5) && (decide (fuel<=200) || decide (10000<fuel))))))=β->AgJ p ts fuel=β):=λh=>h
 go_enter Tryz.func23,Tryz.ntmps23
 go_wp2_with (refine Qq _ _ rfl ?_)
 refine Stop.to ?_;refine Qe rfl 25 _ rfl p.cells rfl ?_;intro G Gw Gh l Gb;have o:=(Below.refl w.heap.size w).trans (Gb.mono Gh);clear Gb Gh;go_wp2_with (refine wpList_load_row rfl 25 _ rfl G rfl 25 p.cells (0,0) _ l Tryz.underlying25 rfl (by kernel_rfl) ?_)
 refine(AjQ p Gw).mono ?_;rintro e w1 ⟨rfl,b2⟩;replace l:=l.below b2 l.lt;replace o:=o.trans (b2.mono o.size);have k:=Lh o;have x:=Ah9 A cap ts w1 (Hr.out.go o);obtain⟨n,hn⟩:∃n,n=ts.length:=⟨_,rfl⟩;rw[<-hn]at d x|-;have c2:=l.cellv (i:=2) (v:=.slice p.ba p.body.length p.bcap) rfl;obtain⟨m,hm⟩:∃m,m=p.body.length:=⟨_,rfl⟩;rw[<-hm]at d c2;obtain⟨q,hq⟩:∃q,q=AgI p:=⟨_,rfl⟩;rw[<-hq]at d|-;obtain⟨q2,u⟩:∃q,q=EK ts:=⟨_,rfl⟩;rw[<-u]at d x;have HT:=Lh x;clear b2 o l Hr hn hm hq u x;cases q
 ·go_wp2_with fail
  go_ret
  exact⟨Kg (d.out (by simp)),k.out⟩
 go_wp2_with fail
 refine HT.out.mono ?_;rintro e w2 ⟨rfl,rfl⟩;clear HT;cases q2
 ·go_wp2_with fail
  go_ret
  exact⟨Kg (d.out (by simp)),k.out⟩
 by_cases c:m<=40;rotate_left
 ·have aa:¬(m:Int)<=40:=by omega
  have ac:40<(m:Int):=by omega
  have H1:=Lh c;clear c;go_wp2_with fail
  go_ret
  exact⟨Kg (d.out (by have c:=H1.out;simp[c])),k.out⟩
 have aa:(m:Int)<=40:=by omega
 by_cases s:n<=5;rotate_left
 ·have ab:¬(n:Int)<=5:=by omega
  have ad:5<(n:Int):=by omega
  have H2:=Lh s;clear c s;go_wp2_with fail
  go_ret
  exact⟨Kg (d.out (by have s:=H2.out;simp[s])),k.out⟩
 have ab:(n:Int)<=5:=by omega
 have j:=Lh (And.intro c s);clear c s;by_cases g:fuel<=200
 ·have y:=Lh g;go_wp2_with fail
  go_ret
  exact⟨Kg (d.out (by have c:=j.out;have g:=y.out;simp[c.1,c.2,g])),k.out⟩
 have ae:200<fuel:=by omega
 by_cases t:10000<fuel
 ·have z:=Lh t;clear g;go_wp2_with fail
  go_ret
  exact⟨Kg (d.out (by have c:=j.out;have g:=z.out;simp[c.1,c.2,g])),k.out⟩
 ·have af:fuel<=10000:=by omega
  have y:=Lh g;have z:=Lh t;clear g t;go_wp2_with fail
  go_ret
  exact⟨Kg (d.out (by have c:=j.out;have g:=y.out;have t:=z.out;simp only[c.1,c.2,g,t,decide_true,decide_false,Bool.true_and,Bool.or_self])),k.out⟩
structure FewR (p:PgV)(ts:List IntsV)(fuel:Int):Prop where
 v:AgJ p ts fuel=true
 body:p.body.length<=20
 tl:ts.length<=3
theorem AgH (p:PgV)(A:Option Addr)(cap:Nat)(ts:List IntsV)(fuel:Int)(w:World)(hr:Rd w A (Jo ts)):Calls Tryz.prog 7 #[.agg p.cells,.slice A ts.length cap,.int .i64 fuel] w λe w'=>(e=.returned (.bool false)\/(e=.returned (.bool true)/\FewR p ts fuel))/\Below w.heap.size w w':=by
 have y:=Lh hr;clear hr;go_enter Tryz.func7,Tryz.ntmps7
 go_wp2_with (refine Qq _ _ rfl ?_)
 refine Stop.to ?_;refine Qe rfl 25 _ rfl p.cells rfl ?_;intro G Gw t d s;have h:=(Below.refl w.heap.size w).trans (s.mono t);clear s t;go_wp2_with (refine wpList_load_row rfl 25 _ rfl G rfl 25 p.cells (0,0) _ d Tryz.underlying25 rfl (by kernel_rfl) ?_)
 refine(AgG p A cap ts fuel Gw (y.out.go h)).mono ?_;rintro e w1 ⟨rfl,j⟩;replace d:=d.below j d.lt;replace h:=h.trans (j.mono h.size);have g:=Lh h;have c2:=d.cellv (i:=2) (v:=.slice p.ba p.body.length p.bcap) rfl;obtain⟨q,o⟩:∃q,q=AgJ p ts fuel:=⟨_,rfl⟩;rw[<-o];have u:Hid (q=true->(p.body.length:Int)<=20->(ts.length:Int)<=3->FewR p ts fuel):=λa b c=>⟨o▸a,by omega,by omega⟩;obtain⟨n,l⟩:∃n:Nat,n=ts.length:=⟨_,rfl⟩;obtain⟨m,k⟩:∃m:Nat,m=p.body.length:=⟨_,rfl⟩;rw[<-l, <-k]at u;rw[<-l];rw[<-k]at c2;clear j h d y o l k;cases q
 ·go_wp2_with fail
  go_ret
  exact⟨(.inl rfl),g.out⟩
 by_cases h1:(m:Int)<=20;rotate_left
 ·have z:20<(m:Int):=by omega
  go_wp2_with fail
  go_ret
  exact⟨(.inl rfl),g.out⟩
 by_cases h2:(n:Int)<=3;rotate_left
 ·have aa:3<(n:Int):=by omega
  go_wp2_with fail
  go_ret
  exact⟨(.inl rfl),g.out⟩
 have x:=Lh (u.out rfl h1 h2);by_cases h3:fuel<=80
 ·go_wp2_with fail
  go_ret
  exact⟨(.inr ⟨rfl,x.out⟩),g.out⟩
 have ab:80<fuel:=by omega
 by_cases h4:10000<fuel
 ·go_wp2_with fail
  go_ret
  exact⟨(.inr ⟨rfl,x.out⟩),g.out⟩
 ·have ac:fuel<=10000:=by omega
  go_wp2_with fail
  go_ret
  refine⟨.inl ?_,g.out⟩;simp[h4];omega
end Go.Proofs.YtkoikjnlpifbjaaGreat
namespace Go.Proofs.YtkoikjnlpifbjaaGreat
open Go.ChangeShapes Go.WideShapes Go.RowKit Go.Deep
structure TsV where
 A:Option Addr
 cap:Nat
 l:List IntsV
def TsV.val (t:TsV):Value:=.slice t.A t.l.length t.cap
structure TsRaw (W:World)(t:TsV):Prop where
 len:t.l.length<=t.cap
 cap:t.cap<=maxLen
 nil:t.A=none->t.cap=0
 rd:Rd W t.A (Jo t.l)
 ok:∀x∈t.l,x.ok W
section
variable {H:Type} {enc:TypeId×Value->H} {w:World} {base:Nat} {spare:Nat->Bool} {held:Bool}
theorem AdW{r:Go.Reach}{b0:Nat}{v:Value}{d:DataW H}{p:List MemPlace}(hv:Value.okWide Tryz.prog w r b0 26 v)(h:DataW.Trod enc Tryz.prog w base spare held 26 v d p):
 ∃t:TsV,TsRaw w t/\v=t.val:=by
 obtain⟨a,len,g,rfl⟩:=okWide_slice Tryz.underlying26 hv;obtain⟨j,s⟩:=h;obtain⟨A,c,l,e,k,m,n,o,q⟩:=AdV s;have i:[Value.slice a len g]=[.slice A l.length c]:=e;injection i with i;injection i with e3 e4 e5;subst e3 e4 e5;exact⟨⟨_,_,l⟩,⟨k,m,n,o,q⟩,rfl⟩
end
end Go.Proofs.YtkoikjnlpifbjaaGreat
namespace Go.Proofs.YtkoikjnlpifbjaaGreat
open Go.RowKit Go.Deep
def AdY (k v:Int):Value:=.iface 221 (.agg #[.int .i64 k,.int .i64 v])
def Zc (k v:Int):Ending:=.panicked [{ v:=AdY k v,recovered:=false }]
def JL (t:Int)(g:Nat):Value:=if QC t=0 then .iface 163 (.agg #[.pointer (some ⟨g,0,none⟩)])else .iface 157 (.slice (some ⟨g,0,none⟩) (QC t).toNat (QC t).toNat)
def Ms.cont (s:Ms)(i:Nat)(t:Int):List Int:=if QC t=0 then [(s.vals[i]?).getD 0]else(s.arrs[i]?).getD []
def Lay.dcells (L:Lay)(s:Ms)(ev:Value):Array Value:=
 #[.slice L.p.ba L.p.body.length L.p.bcap,.slice L.aa L.ab.length L.acap,.int .i64 (L.F:Int),.int .i64 0,.int .i64 0,.int .i64 (s.steps:Int),ev]
structure DR (L:Lay)(s:Ms)(ev:Value)(W:World):Prop where
 row:Row W L.M 156 (L.dcells s ev)
 evs:W.ownsRow L.b1 263 3 ev s.evs.length (s.evs.flatMap EvV.cells)
 rows:∀(i g:Nat) (t:Int),L.ab[i]? =some g->L.p.V[i]? =some t->Row W g 3 (Qi (s.cont i t)).toArray
 im:L.Im W
 size:L.b1<=W.heap.size
 sum:s.steps+s.fuel=L.F
 few:s.evs.length<=s.steps
structure DOk (L:Lay):Prop extends LOk0 L where
 pok:∀W,L.Im W->L.p.ok W
 cells:∀W,L.Im W->∀(i g:Nat) (t:Int),L.ab[i]? =some g->L.p.V[i]? =some t->∃ad:Addr,L.aa=some ad/\W.cell? (ad.add i)=some (JL t g)
 alen:L.ab.length=L.p.V.length
 vv:L.vv=.slice none 0 0
instance{L:Lay}:Coe (DOk L) (LOk0 L):=⟨DOk.toLOk0⟩
section
variable {L:Lay} {s s':Ms} {ev:Value} {W W':World}
theorem DR.below (h:DR L s ev W)(hL:LOk0 L)(b:Below W.heap.size W W'):DR L s ev W':=
 ⟨h.row.below b h.row.lt,QB h.evs b,λi g t h1 h2=>(h.rows i g t h1 h2).below b (h.rows i g t h1 h2).lt,hL.im _ _ h.im (.below (b.mono h.size)),Ld h.size b.size,h.sum,h.few⟩
theorem DR.drew (h:DR L s ev W)(hL:LOk0 L)(n:Nat):DR L s ev (W.drewN n):=h.below hL ⟨rfl,rfl,rfl,Nat.le_refl _,λ_ _=>rfl⟩
theorem DR.setM (h:DR L s ev W)(hL:LOk0 L)(o:Only L.M W W')(hr:Row W' L.M 156 (L.dcells s' ev))(h1:s'.vals=s.vals)(h2:s'.arrs=s.arrs)(h3:s'.evs=s.evs)(h4:s'.steps+s'.fuel=L.F)(h5:s.steps<=s'.steps):DR L s' ev W':=
 ⟨hr,by rw[h3];exact Qx h.evs o (λe=>by have:=QQ h.evs e;have:=hL.lt;omega),λi g t a b=>by have:=(h.rows i g t a b).only o (hL.alt g (Lf a)).2;unfold Ms.cont at this|-;rw[h1,h2];exact this,
  hL.im _ _ h.im (.only o (.inr (.inl rfl))),by rw[o.size];exact h.size,h4,by rw[h3];have:=h.few;omega⟩
theorem DR.far_new (h:DR L s ev W){g:Nat}{W':World}(hg:W.heap.size<=g)(hlt:g<W'.heap.size):Far L ev W' g:=
 ⟨Ld h.size hg,λe=>by have:=h.evs.lt _ e;omega,hlt⟩
theorem DR.setB (h:DR L s ev W)(hL:LOk0 L){n g:Nat}{t:Int}(hg:L.ab[n]? =some g)(ht:L.p.V[n]? =some t)(o:Only g W W')(hr:Row W' g 3 (Qi (s'.cont n t)).toArray)
 (hv:∀i,i≠n->s'.vals[i]? =s.vals[i]? /\s'.arrs[i]? =s.arrs[i]?) (h3:s'.evs=s.evs) (h4:s'.steps=s.steps) (h5:s'.fuel=s.fuel):DR L s' ev W':=by
 have v:=Lf hg;have l:=hL.alt g v;refine⟨?_,by rw[h3];exact Qx h.evs o (λe=>by have:=QQ h.evs e;omega),λi u y hi d=>?_,hL.im _ _ h.im (.only o (.inr (.inr (.inr v)))),by rw[o.size];exact h.size,by rw[h4,h5];exact h.sum,by rw[h3,h4];exact h.few⟩
 ·have:=h.row.only o (λe=>l.2 e.symm);unfold Lay.dcells at this|-;rw[h4];exact this
 ·by_cases c:i=n
  ·subst c;rw[hg]at hi;rw[ht]at d;cases hi;cases d;exact hr
  ·have k:u≠g:=by
     intro e;subst e;obtain⟨w,m⟩:=La.1 hg;obtain⟨x,q⟩:=La.1 hi;rcases Nk i n with j|j|j
     ·exact absurd (q.trans m.symm) (LY.1 hL.and i n x w j)
     ·exact c j
     ·exact absurd (m.trans q.symm) (LY.1 hL.and n i w x j)
   have:=(h.rows i u y hi d).only o k;unfold Ms.cont at this|-;rw[(hv i c).1,(hv i c).2];exact this
theorem RChg.onlyB{g:Nat}(o:Only g W W')(hg:g∈L.ab):RChg L ev W ev W':=RChg.only o (.inr (.inr hg))
end
theorem YV (k v:Int)(w:World):Calls Tryz.prog 166 #[.int .i64 k,.int .i64 v] w λe w'=>e=Zc k v/\w=w':=by
 go_enter Tryz.func166,Tryz.ntmps166
 go_wp2
 exact⟨rfl,rfl,rfl⟩
theorem Yw (b:Bool)(w:World):Calls Tryz.prog 168 #[.bool b] w λe w'=>e=.returned (.int .i64 (tr b))/\w=w':=by
 cases b
 all_goals
  go_enter Tryz.func168,Tryz.ntmps168
  go_wp2
  go_ret
  exact⟨rfl,rfl⟩
theorem AhI (tag a b c:Int)(w:World)(ht:7<=tag/\tag<=17)(hp:Zn tag a b=some c):Calls Tryz.prog 171 #[.int .i64 tag,.int .i64 a,.int .i64 b] w λe w'=>e=.returned (.int .i64 c)/\w=w':=by
 have h:tag=7\/tag=8\/tag=9\/tag=12\/tag=13\/tag=14\/tag=15\/tag=16\/tag=17\/tag=10\/tag=11:=by omega
 clear ht;rcases h with rfl|rfl|rfl|rfl|rfl|rfl|rfl|rfl|rfl|rfl|rfl
 ·have d:wrap64 (a+b)=c:=by simpa[Zn]using hp
  subst d;clear hp;go_enter Tryz.func171,Tryz.ntmps171
  go_wp2
  go_ret
  exact⟨QS (by first|rfl|simp),rfl⟩
 ·have d:wrap64 (a-b)=c:=by simpa[Zn]using hp
  subst d;clear hp;go_enter Tryz.func171,Tryz.ntmps171
  go_wp2
  go_ret
  exact⟨QS (by first|rfl|simp),rfl⟩
 ·have d:wrap64 (a*b)=c:=by simpa[Zn]using hp
  subst d;clear hp;go_enter Tryz.func171,Tryz.ntmps171
  go_wp2
  go_ret
  exact⟨QS (by first|rfl|simp),rfl⟩
 ·have d:tr (decide (a=b))=c:=by simpa[Zn]using hp
  clear hp;go_enter Tryz.func171,Tryz.ntmps171
  go_wp2_with fail
  refine(Yw _ _).mono ?_;rintro e w' ⟨rfl,rfl⟩;go_wp2
  go_ret
  exact⟨QS (by rw[<-d];all_goals(first| (congr 1;done)| (congr 1;rw[LS];simp))),rfl⟩
 ·have d:tr (decide (a≠b))=c:=by simpa[Zn]using hp
  clear hp;go_enter Tryz.func171,Tryz.ntmps171
  go_wp2_with fail
  refine(Yw _ _).mono ?_;rintro e w' ⟨rfl,rfl⟩;go_wp2
  go_ret
  exact⟨QS (by rw[<-d];all_goals(first| (congr 1;done)| (congr 1;rw[LS];simp))),rfl⟩
 ·have d:tr (decide (a<b))=c:=by simpa[Zn]using hp
  clear hp;go_enter Tryz.func171,Tryz.ntmps171
  go_wp2_with fail
  refine(Yw _ _).mono ?_;rintro e w' ⟨rfl,rfl⟩;go_wp2
  go_ret
  exact⟨QS (by rw[<-d];all_goals(first| (congr 1;done)| (congr 1;rw[LS];simp))),rfl⟩
 ·have d:tr (decide (a<=b))=c:=by simpa[Zn]using hp
  clear hp;go_enter Tryz.func171,Tryz.ntmps171
  go_wp2_with fail
  refine(Yw _ _).mono ?_;rintro e w' ⟨rfl,rfl⟩;go_wp2
  go_ret
  exact⟨QS (by rw[<-d];all_goals(first| (congr 1;done)| (congr 1;rw[LS];simp))),rfl⟩
 ·have d:tr (decide (b<a))=c:=by simpa[Zn]using hp
  clear hp;go_enter Tryz.func171,Tryz.ntmps171
  go_wp2_with fail
  refine(Yw _ _).mono ?_;rintro e w' ⟨rfl,rfl⟩;go_wp2
  go_ret
  exact⟨QS (by rw[<-d];all_goals(first| (congr 1;done)| (congr 1;rw[LS];simp))),rfl⟩
 ·have d:tr (decide (b<=a))=c:=by simpa[Zn]using hp
  clear hp;go_enter Tryz.func171,Tryz.ntmps171
  go_wp2_with fail
  refine(Yw _ _).mono ?_;rintro e w' ⟨rfl,rfl⟩;go_wp2
  go_ret
  exact⟨QS (by rw[<-d];all_goals(first| (congr 1;done)| (congr 1;rw[LS];simp))),rfl⟩
 ·by_cases g:b=0
  ·simp[Zn,g]at hp
  have d:wrap64 (a.tdiv b)=c:=by simpa[Zn,g]using hp
  subst d;clear hp;go_enter Tryz.func171,Tryz.ntmps171
  go_wp2
  go_ret
  exact⟨QS (by first|rfl|simp),rfl⟩
 ·by_cases g:b=0
  ·simp[Zn,g]at hp
  have d:a.tmod b=c:=by simpa[Zn,g]using hp
  subst d;clear hp;go_enter Tryz.func171,Tryz.ntmps171
  go_wp2
  go_ret
  exact⟨QS (by first|rfl|simp),rfl⟩
theorem Aew (tag a b:Int)(w:World)(hp:Zn tag a b=none):Calls Tryz.prog 171 #[.int .i64 tag,.int .i64 a,.int .i64 b] w λe w'=>e=Zc 1 0/\w=w':=by
 have c:b=0/\(tag=10\/tag=11):=by
  unfold Zn at hp
  repeat' split at hp
  all_goals(first| (cases hp;done)| (refine⟨?_,?_⟩<;>first|assumption|omega))
 obtain⟨rfl,d⟩:=c;clear hp;rcases d with rfl|rfl
 all_goals
  go_enter Tryz.func171,Tryz.ntmps171
  go_wp2_with fail
  refine(YV _ _ _).mono ?_
  rintro e w' ⟨rfl,rfl⟩
  simp only[Zc]
  go_wp2
  exact⟨rfl,rfl,rfl⟩
end Go.Proofs.YtkoikjnlpifbjaaGreat
