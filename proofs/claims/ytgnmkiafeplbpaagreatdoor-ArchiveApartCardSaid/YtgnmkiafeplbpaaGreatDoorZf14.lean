/- Lemmas for ArAll. -/
import Derived.Test.YtgnmkiafeplbpaaGreatDoorZf1
import Derived.Test.YtgnmkiafeplbpaaGreatDoorZf13
import Derived.Test.YtgnmkiafeplbpaaGreatDoorZf10
import Derived.Test.YtgnmkiafeplbpaaGreatDoorZf2
import Derived.Lib.SlicesCompact
import Derived.Shelf.Small.Bits
import Derived.Shelf.Strconv.Itoa0
import Derived.Shelf.Sort.Plain
import Derived.Shelf.Bits.Mul64
import Derived.Shelf.Slices.Clone
import Derived.Shelf.Slices.CompactI
import Derived.Shelf.Slices.SearchI
import Derived.Shelf.Slices.Cells
import Derived.Shelf.Slices.In.SortNone
import Derived.Shelf.SlicesE.Clone
import Derived.Test.YtgnmkiafeplbpaaGreatDoorRows
import Derived.WalkKit
set_option linter.unusedVariables false
set_option linter.unusedSimpArgs false
set_option maxRecDepth 100000
set_option maxHeartbeats 16000000
namespace Go.Proofs.YtgnmkiafeplbpaaGreatDoor
open Go.RowKit Go.Deep
def JE (a b:CpV):Bool:=KN a.p b.p && (decide (a.testsL=b.testsL) && (a.fuel==b.fuel && ((a.sc.alive==b.sc.alive && (a.sc.killed==b.sc.killed && a.sc.timeout==b.sc.timeout)) && decide (a.muts=b.muts))))
theorem Xn{W:World}{G:Nat}{t:TypeId}{c:CpV}(h:Row W G t c.cells):∀j v,c.p.cells.toList[j]? =some v->W.cell? ((⟨G,0,none⟩:Addr).add j)=some v:=
 Row.from_ (cur:=c.cells) h 0 (λj v hj=>by
  match j,hj with
  |0,hj|1,hj|2,hj=>exact hj
  |j+3,hj=>simp[PgV.cells]at hj)
theorem Afv (a b:CpV)(w:World)(ha:CpOk w a)(hb:CpOk w b):
 Calls Tryz.prog 20 #[.agg a.cells,.agg b.cells] w λe w'=>e=.returned (.bool (JE a b))/\Below w.heap.size w w':=by
 have j:=Lv ha;have q:=Lv hb;clear ha hb;go_enter Tryz.func20,Tryz.ntmps20
 go_wp2_with (refine Qx _ _ rfl ?_)
 refine Stop.to ?_;refine Qf rfl 31 _ rfl a.cells rfl ?_;intro G Gw Gh Gr Gb;go_wp2_with (refine Qx _ _ rfl ?_)
 refine Stop.to ?_;refine Qf rfl 31 _ rfl b.cells rfl ?_;intro J Jw Jh Jr Jb;have d:=Gr.below Jb (Lg Gr.lt Jh);have g:=Jr;have b1:=(Below.refl w.heap.size w).trans (Gb.mono Gh);have c:=b1.trans ((Jb.mono Jh).mono b1.size);clear Gr Gb Gh Jb Jh Jr b1;have k:=Lv (Agb a.p b.p Jw (j.out.go c).pok (q.out.go c).pok j.out.bl j.out.vl);go_wp2_with (first| (refine Qn rfl 25 _ rfl ⟨G,0,none⟩ rfl a.p.cells.toList _ (Xn d) Tryz.underlying25 rfl (by kernel_rfl) ?_)| (refine Qn rfl 25 _ rfl ⟨J,0,none⟩ rfl b.p.cells.toList _ (Xn g) Tryz.underlying25 rfl (by kernel_rfl) ?_))
 refine k.out.mono ?_;rintro e w1 ⟨rfl,h⟩;have o:=c.trans (h.mono c.size);replace d:=d.below h d.lt;replace g:=g.below h g.lt;clear h c k;have c:=o;clear o;generalize hs:KN a.p b.p=s;have k:=Lv hs;clear hs;cases s
 ·go_wp2_with fail
  go_ret
  exact⟨QD (by unfold JE;rw[k.out];rfl),c⟩
 have ct:=d.cellv (i:=3) (v:=.slice a.tA a.tests.length a.tcap) rfl;have cf:=d.cellv (i:=4) (v:=.int .i64 a.fuel) rfl;have cm:=d.cellv (i:=5) (v:=.slice a.mA a.mts.length a.mcap) rfl;have cx:=d.cellv (i:=6) (v:=.int .i64 a.sc.alive) rfl;have cy:=d.cellv (i:=7) (v:=.int .i64 a.sc.killed) rfl;have cz:=d.cellv (i:=8) (v:=.int .i64 a.sc.timeout) rfl;have dt:=g.cellv (i:=3) (v:=.slice b.tA b.tests.length b.tcap) rfl;have df:=g.cellv (i:=4) (v:=.int .i64 b.fuel) rfl;have dm:=g.cellv (i:=5) (v:=.slice b.mA b.mts.length b.mcap) rfl;have dx:=g.cellv (i:=6) (v:=.int .i64 b.sc.alive) rfl;have dy:=g.cellv (i:=7) (v:=.int .i64 b.sc.killed) rfl;have dz:=g.cellv (i:=8) (v:=.int .i64 b.sc.timeout) rfl;have n:=Lv (Agk a.tA b.tA a.tcap b.tcap a.tests b.tests w1 (j.out.go c).trd (q.out.go c).trd (j.out.go c).tok (q.out.go c).tok (by have:=j.out.tlen;omega) (λx hx=>by have:=j.out.tl x hx;omega));go_wp2_with fail
 clear ct cf cm cx cy cz dt df dm dx dy dz;refine n.out.mono ?_;rintro e w2 ⟨rfl,h⟩;have o:=c.trans (h.mono c.size);replace d:=d.below h d.lt;replace g:=g.below h g.lt;clear h c n;have c:=o;clear o;generalize y:decide (a.tests.map IntsV.l=b.tests.map IntsV.l)=t;have n:=Lv y;clear y;have ct:=d.cellv (i:=3) (v:=.slice a.tA a.tests.length a.tcap) rfl;have cf:=d.cellv (i:=4) (v:=.int .i64 a.fuel) rfl;have cm:=d.cellv (i:=5) (v:=.slice a.mA a.mts.length a.mcap) rfl;have cx:=d.cellv (i:=6) (v:=.int .i64 a.sc.alive) rfl;have cy:=d.cellv (i:=7) (v:=.int .i64 a.sc.killed) rfl;have cz:=d.cellv (i:=8) (v:=.int .i64 a.sc.timeout) rfl;have dt:=g.cellv (i:=3) (v:=.slice b.tA b.tests.length b.tcap) rfl;have df:=g.cellv (i:=4) (v:=.int .i64 b.fuel) rfl;have dm:=g.cellv (i:=5) (v:=.slice b.mA b.mts.length b.mcap) rfl;have dx:=g.cellv (i:=6) (v:=.int .i64 b.sc.alive) rfl;have dy:=g.cellv (i:=7) (v:=.int .i64 b.sc.killed) rfl;have dz:=g.cellv (i:=8) (v:=.int .i64 b.sc.timeout) rfl;cases t
 ·go_wp2_with fail
  go_ret
  exact⟨QD (by unfold JE CpV.testsL;rw[k.out,n.out];rfl),c⟩
 generalize hf:(a.fuel==b.fuel)=f;have u:=Lv hf;cases f
 ·go_wp2_with fail
  go_ret
  exact⟨QD (by unfold JE CpV.testsL;rw[k.out,n.out,u.out];rfl),c⟩
 generalize h1:(a.sc.alive==b.sc.alive)=u1;have z:=Lv h1;cases u1
 ·go_wp2_with fail
  go_ret
  exact⟨QD (by unfold JE CpV.testsL;rw[k.out,n.out,u.out,z.out];rfl),c⟩
 generalize h2:(a.sc.killed==b.sc.killed)=u2;have H2:=Lv h2;cases u2
 ·go_wp2_with fail
  go_ret
  exact⟨QD (by unfold JE CpV.testsL;rw[k.out,n.out,u.out,z.out,H2.out];rfl),c⟩
 generalize h3:(a.sc.timeout==b.sc.timeout)=u3;have H3:=Lv h3;cases u3
 ·go_wp2_with fail
  go_ret
  exact⟨QD (by unfold JE CpV.testsL;rw[k.out,n.out,u.out,z.out,H2.out,H3.out];rfl),c⟩
 have Hm:=Lv (AfK a.mA b.mA a.mcap b.mcap _ _ a.mts b.mts w2 rfl rfl (j.out.go c).mrd (q.out.go c).mrd (j.out.go c).mok (q.out.go c).mok (by have:=j.out.mlen;omega));go_wp2_with fail
 clear ct cf cm cx cy cz dt df dm dx dy dz;refine Hm.out.mono ?_;rintro e w3 ⟨rfl,h⟩;have o:=c.trans (h.mono c.size);replace d:=d.below h d.lt;replace g:=g.below h g.lt;clear h c Hm;have c:=o;clear o;generalize y:decide (a.mts.map MtV.m=b.mts.map MtV.m)=t;have Hm:=Lv y;clear y hf h1 h2 h3;go_wp2_with fail
 go_ret
 exact⟨QD (by unfold JE CpV.testsL CpV.muts;rw[k.out,n.out,u.out,z.out,H2.out,H3.out,Hm.out];rfl),c⟩
theorem Ut (a b:CpV)(w:World)(ha:CpOk w a)(hb:CpOk w b):
 Calls Tryz.prog 15 #[.agg a.cells,.agg b.cells] w λe w'=>e=.returned (.bool (JE a b))/\Below w.heap.size w w':=by
 have k:=Lv ha;have q:=Lv hb;clear ha hb;go_enter Tryz.func15,Tryz.ntmps15
 go_wp2_with (refine Qx _ _ rfl ?_)
 refine Stop.to ?_;refine Qf rfl 31 _ rfl a.cells rfl ?_;intro G Gw Gh Gr Gb;go_wp2_with (refine Qx _ _ rfl ?_)
 refine Stop.to ?_;refine Qf rfl 31 _ rfl b.cells rfl ?_;intro J Jw Jh Jr Jb;have d:=Gr.below Jb (Lg Gr.lt Jh);have g:=Jr;have b1:=(Below.refl w.heap.size w).trans (Gb.mono Gh);have c:=b1.trans ((Jb.mono Jh).mono b1.size);clear Gr Gb Gh Jb Jh Jr b1;have j:=Lv (AbQ a.p b.p Jw (k.out.go c).pok (q.out.go c).pok k.out.bl k.out.vl);go_wp2_with (first| (refine Qn rfl 25 _ rfl ⟨G,0,none⟩ rfl a.p.cells.toList _ (Xn d) Tryz.underlying25 rfl (by kernel_rfl) ?_)| (refine Qn rfl 25 _ rfl ⟨J,0,none⟩ rfl b.p.cells.toList _ (Xn g) Tryz.underlying25 rfl (by kernel_rfl) ?_))
 refine j.out.mono ?_;rintro e w1 ⟨rfl,h⟩;have o:=c.trans (h.mono c.size);replace d:=d.below h d.lt;replace g:=g.below h g.lt;clear h c j;have c:=o;clear o;generalize hs:KN a.p b.p=s;have j:=Lv hs;clear hs;have ct:=d.cellv (i:=3) (v:=.slice a.tA a.tests.length a.tcap) rfl;have cf:=d.cellv (i:=4) (v:=.int .i64 a.fuel) rfl;have cm:=d.cellv (i:=5) (v:=.slice a.mA a.mts.length a.mcap) rfl;have cx:=d.cellv (i:=6) (v:=.int .i64 a.sc.alive) rfl;have cy:=d.cellv (i:=7) (v:=.int .i64 a.sc.killed) rfl;have cz:=d.cellv (i:=8) (v:=.int .i64 a.sc.timeout) rfl;have dt:=g.cellv (i:=3) (v:=.slice b.tA b.tests.length b.tcap) rfl;have df:=g.cellv (i:=4) (v:=.int .i64 b.fuel) rfl;have dm:=g.cellv (i:=5) (v:=.slice b.mA b.mts.length b.mcap) rfl;have dx:=g.cellv (i:=6) (v:=.int .i64 b.sc.alive) rfl;have dy:=g.cellv (i:=7) (v:=.int .i64 b.sc.killed) rfl;have dz:=g.cellv (i:=8) (v:=.int .i64 b.sc.timeout) rfl;have n:=Lv (Aa7 a.tA b.tA a.tcap b.tcap _ _ a.tests b.tests w1 rfl rfl (k.out.go c).trd (q.out.go c).trd (k.out.go c).tok (q.out.go c).tok (by have:=k.out.tlen;omega) (λx hx=>by have:=k.out.tl x hx;omega));go_wp2_with fail
 clear ct cf cm cx cy cz dt df dm dx dy dz;refine n.out.mono ?_;rintro e w2 ⟨rfl,h⟩;have o:=c.trans (h.mono c.size);replace d:=d.below h d.lt;replace g:=g.below h g.lt;clear h c n;have c:=o;clear o;generalize ht:decide (a.tests.map IntsV.l=b.tests.map IntsV.l)=t;have n:=Lv ht;clear ht;have ct:=d.cellv (i:=3) (v:=.slice a.tA a.tests.length a.tcap) rfl;have cf:=d.cellv (i:=4) (v:=.int .i64 a.fuel) rfl;have cm:=d.cellv (i:=5) (v:=.slice a.mA a.mts.length a.mcap) rfl;have cx:=d.cellv (i:=6) (v:=.int .i64 a.sc.alive) rfl;have cy:=d.cellv (i:=7) (v:=.int .i64 a.sc.killed) rfl;have cz:=d.cellv (i:=8) (v:=.int .i64 a.sc.timeout) rfl;have dt:=g.cellv (i:=3) (v:=.slice b.tA b.tests.length b.tcap) rfl;have df:=g.cellv (i:=4) (v:=.int .i64 b.fuel) rfl;have dm:=g.cellv (i:=5) (v:=.slice b.mA b.mts.length b.mcap) rfl;have dx:=g.cellv (i:=6) (v:=.int .i64 b.sc.alive) rfl;have dy:=g.cellv (i:=7) (v:=.int .i64 b.sc.killed) rfl;have dz:=g.cellv (i:=8) (v:=.int .i64 b.sc.timeout) rfl;have y:=Lv (Aa5 a.mA b.mA a.mcap b.mcap _ _ a.mts b.mts w2 rfl rfl (k.out.go c).mrd (q.out.go c).mrd (k.out.go c).mok (q.out.go c).mok (by have:=k.out.mlen;omega));go_wp2_with fail
 clear ct cf cm cx cy cz dt df dm dx dy dz;refine y.out.mono ?_;rintro e w3 ⟨rfl,h⟩;have o:=c.trans (h.mono c.size);replace d:=d.below h d.lt;replace g:=g.below h g.lt;clear h c y;have c:=o;clear o;generalize hm:decide (a.mts.map MtV.m=b.mts.map MtV.m)=m;have y:=Lv hm;clear hm;have ct:=d.cellv (i:=3) (v:=.slice a.tA a.tests.length a.tcap) rfl;have cf:=d.cellv (i:=4) (v:=.int .i64 a.fuel) rfl;have cm:=d.cellv (i:=5) (v:=.slice a.mA a.mts.length a.mcap) rfl;have cx:=d.cellv (i:=6) (v:=.int .i64 a.sc.alive) rfl;have cy:=d.cellv (i:=7) (v:=.int .i64 a.sc.killed) rfl;have cz:=d.cellv (i:=8) (v:=.int .i64 a.sc.timeout) rfl;have dt:=g.cellv (i:=3) (v:=.slice b.tA b.tests.length b.tcap) rfl;have df:=g.cellv (i:=4) (v:=.int .i64 b.fuel) rfl;have dm:=g.cellv (i:=5) (v:=.slice b.mA b.mts.length b.mcap) rfl;have dx:=g.cellv (i:=6) (v:=.int .i64 b.sc.alive) rfl;have dy:=g.cellv (i:=7) (v:=.int .i64 b.sc.killed) rfl;have dz:=g.cellv (i:=8) (v:=.int .i64 b.sc.timeout) rfl;cases s
 ·go_wp2_with fail
  go_ret
  exact⟨QD (by unfold JE;rw[j.out];rfl),c⟩
 cases t
 ·go_wp2_with fail
  go_ret
  exact⟨QD (by unfold JE CpV.testsL;rw[j.out,n.out];rfl),c⟩
 cases m
 ·go_wp2_with fail
  go_ret
  exact⟨QD (by unfold JE CpV.testsL CpV.muts;rw[j.out,n.out,y.out];simp),c⟩
 generalize hf:(a.fuel==b.fuel)=f;have u:=Lv hf;cases f
 ·go_wp2_with fail
  go_ret
  exact⟨QD (by unfold JE CpV.testsL;rw[j.out,n.out,u.out];rfl),c⟩
 generalize h1:(a.sc.alive==b.sc.alive)=u1;have z:=Lv h1;cases u1
 ·go_wp2_with fail
  go_ret
  exact⟨QD (by unfold JE CpV.testsL;rw[j.out,n.out,u.out,z.out];rfl),c⟩
 generalize h2:(a.sc.killed==b.sc.killed)=u2;have H2:=Lv h2;cases u2
 ·go_wp2_with fail
  go_ret
  exact⟨QD (by unfold JE CpV.testsL;rw[j.out,n.out,u.out,z.out,H2.out];rfl),c⟩
 generalize h3:(a.sc.timeout==b.sc.timeout)=u3;have H3:=Lv h3;cases u3
 ·go_wp2_with fail
  go_ret
  exact⟨QD (by unfold JE CpV.testsL;rw[j.out,n.out,u.out,z.out,H2.out,H3.out];rfl),c⟩
 ·go_wp2_with fail
  go_ret
  exact⟨QD (by unfold JE CpV.testsL CpV.muts;rw[j.out,n.out,u.out,z.out,H2.out,H3.out,y.out];rfl),c⟩
def AbI (l:List IntsV):Bool:=decide (l.length<=40/\∀x∈l,x.l.length<=40)
def okM (x:MtV):Prop:=x.m.d.path.length<=60/\x.m.digest.length<=100
instance (x:MtV):Decidable (okM x):=by unfold okM;infer_instance
def ER (l:List MtV):Bool:=decide (l.length<=250/\∀x∈l,okM x)
theorem Uu{α:Type}{p:α->Prop}{l:List α}{k:Nat}{x:α}(h:∀y∈l.take k,p y)(hx:l[k]? =some x)(hp:p x):∀y∈l.take (k+1),p y:=by
 rw[L5,hx];intro y a;rcases LG.1 a with a|a
 ·exact h y a
 ·simp at a;subst a;exact hp
theorem Ajj (A:Option Addr)(cap:Nat)(l:List IntsV)(w:World)(hr:Rd w A (ZU l)):
 Calls Tryz.prog 22 #[.slice A l.length cap] w λe w'=>e=.returned (.bool (AbI l))/\w=w':=by
 have z:=Lv hr;clear hr;by_cases a:l.length<=40;rotate_left
 ·have c:AbI l=false:=by unfold AbI;rw[decide_eq_false_iff_not];exact λh=>a h.1
  have g:=Lv c;have q:(40:Int)<(l.length:Int):=by omega
  clear c a;go_enter Tryz.func22,Tryz.ntmps22
  go_wp2
  go_ret
  exact⟨QD g.out,rfl⟩
 have q:(l.length:Int)<=40:=by omega
 have o:=Lv a;clear a;go_enter Tryz.func22,Tryz.ntmps22
 go_wp2
 go_loop [3] (λi=>∃k:Nat,i=.int .i64 (k:Int)/\k<=l.length/\Hid (∀x∈l.take k,x.l.length<=40)) (λi=>l.length-(intOf i).toNat)
 case atStart=>exact⟨0,rfl,Nat.zero_le _,Lv (λx m=>by simp at m)⟩
 case round=>
  obtain⟨k,rfl,hk,b⟩:=hrel;by_cases d:k<l.length
  ·obtain⟨x,m⟩:∃x,l[k]? =some x:=⟨_,Ld d⟩;obtain⟨ad,s,j⟩:=ZT z.out m;have hc:w.cell? (ad.add k)=some (.slice x.addr x.l.length x.cap):=j;have u:=Lv m;have v:(k:Int)<(l.length:Int):=by omega
   clear m d j;subst s;by_cases n:x.l.length<=40
   ·have t:(x.l.length:Int)<=40:=by omega
    have y:=Lv (Uu (p:=λx:IntsV=>x.l.length<=40) b.out u.out n);clear n;go_wp2
    go_round
    case rel=>exact⟨k+1,by go_num,by omega,y⟩
    case measure=>simp[intOf];omega
   ·have t:(40:Int)<(x.l.length:Int):=by omega
    have c:AbI l=false:=by unfold AbI;rw[decide_eq_false_iff_not];exact λh=>n (h.2 x (Li u.out))
    have g:=Lv c;clear c n;go_wp2
    go_ret
    exact⟨QD g.out,rfl⟩
  ·obtain rfl:k=l.length:=by omega
   have c:AbI l=true:=by unfold AbI;rw[decide_eq_true_eq];exact⟨o.out,by have:=b.out;rwa[LO]at this⟩
   have g:=Lv c;clear c d hk;go_wp2
   go_ret
   exact⟨QD g.out,rfl⟩
theorem KW (a:Addr):a.add 0=a:=by unfold Addr.add;rw[if_pos rfl]
theorem Ajh (A:Option Addr)(cap:Nat)(l:List MtV)(w:World)(hr:Rd w A (ZH l)):
 Calls Tryz.prog 23 #[.slice A l.length cap] w λe w'=>e=.returned (.bool (ER l))/\w=w':=by
 have Hr:=Lv hr;clear hr;by_cases b:l.length<=250;rotate_left
 ·have a:ER l=false:=by unfold ER;rw[decide_eq_false_iff_not];exact λh=>b h.1
  have g:=Lv a;have z:(250:Int)<(l.length:Int):=by omega
  clear a b;go_enter Tryz.func23,Tryz.ntmps23
  go_wp2
  go_ret
  exact⟨QD g.out,rfl⟩
 have z:(l.length:Int)<=250:=by omega
 have v:=Lv b;clear b;go_enter Tryz.func23,Tryz.ntmps23
 go_wp2
 go_loop [3] (λi=>∃k:Nat,i=.int .i64 (k:Int)/\k<=l.length/\Hid (∀x∈l.take k,okM x)) (λi=>l.length-(intOf i).toNat)
 case atStart=>exact⟨0,rfl,Nat.zero_le _,Lv (λx s=>by simp at s)⟩
 case round=>
  obtain⟨k,rfl,hk,c⟩:=hrel;by_cases n:k<l.length
  ·obtain⟨x,s⟩:∃x,l[k]? =some x:=⟨_,Ld n⟩;obtain⟨t,aa,j⟩:=KM Hr.out s;have af:w.cell? (t.add (k*8))=some (.slice x.A x.m.d.path.length x.cap):=by have:=j 0 _ rfl;rwa[KW]at this
   have o:w.cell? ((t.add (k*8)).add 7)=some (.string ⟨x.m.digest.toArray⟩):=j 7 _ rfl;have ag:w.cell? ⟨(t.add (k*8)).block,(t.add (k*8)).off+7,none⟩=some (.string ⟨x.m.digest.toArray⟩):=o;clear o;have y:=Lv s;have ae:(k:Int)<(l.length:Int):=by omega
   clear s n j;subst aa;by_cases q:x.m.d.path.length<=60
   ·have ab:(x.m.d.path.length:Int)<=60:=by omega
    by_cases u:x.m.digest.length<=100
    ·have ac:(x.m.digest.length:Int)<=100:=by omega
     have Hn:=Lv (Uu (p:=okM) c.out y.out ⟨q,u⟩);clear q u;go_wp2
     go_round
     case rel=>exact⟨k+1,by go_num,by omega,Hn⟩
     case measure=>simp[intOf];omega
    ·have ac:(100:Int)<(x.m.digest.length:Int):=by omega
     have a:ER l=false:=by unfold ER;rw[decide_eq_false_iff_not];exact λh=>u (h.2 x (Li y.out)).2
     have g:=Lv a;clear a q u;go_wp2
     go_ret
     exact⟨QD g.out,rfl⟩
   ·have ab:(60:Int)<(x.m.d.path.length:Int):=by omega
    have a:ER l=false:=by unfold ER;rw[decide_eq_false_iff_not];exact λh=>q (h.2 x (Li y.out)).1
    have g:=Lv a;clear a q;go_wp2
    go_ret
    exact⟨QD g.out,rfl⟩
  ·obtain rfl:k=l.length:=by omega
   have a:ER l=true:=by unfold ER;rw[decide_eq_true_eq];exact⟨v.out,by have:=c.out;rwa[LO]at this⟩
   have g:=Lv a;clear a n hk;go_wp2
   go_ret
   exact⟨QD g.out,rfl⟩
structure CpRaw (W:World)(c:CpV):Prop where
 pok:c.p.ok W
 trd:Rd W c.tA (ZU c.tests)
 tok:∀x∈c.tests,x.ok W
 tnil:c.tA=none->c.tests=[]
 mrd:Rd W c.mA (ZH c.mts)
 mok:∀x∈c.mts,Rd W x.A (Qj x.m.d.path)/\(x.A=none->x.m.d.path=[])
 mnil:c.mA=none->c.mts=[]
theorem CpRaw.go{W W':World}{c:CpV}(h:CpRaw W c)(b:Below W.heap.size W W'):CpRaw W' c:=
 ⟨h.pok.go b,h.trd.go b,λx hx=>(h.tok x hx).go b,h.tnil,h.mrd.go b,λx hx=>⟨(h.mok x hx).1.go b,(h.mok x hx).2⟩,h.mnil⟩
instance St.cpraw{c:CpV}:St (λW=>CpRaw W c):=⟨λh b=>h.go b⟩
def AbH (c:CpV):Bool:=Aji c.p && (AbI c.tests && ER c.mts)
theorem AaD (c:CpV)(w:World)(hc:CpRaw w c):
 Calls Tryz.prog 10 #[.agg c.cells] w λe w'=>e=.returned (.bool (AbH c))/\Below w.heap.size w w':=by
 have u:=Lv hc;clear hc;go_enter Tryz.func10,Tryz.ntmps10
 go_wp2_with (refine Qx _ _ rfl ?_)
 refine Stop.to ?_;refine Qf rfl 31 _ rfl c.cells rfl ?_;intro G h s g q;have l:=(Below.refl w.heap.size w).trans (q.mono s);have a:=Lv (Alf c.p h);have hG:Hid (h.heap.size<=h.heap.size):=Nat.le_refl _;go_wp2_with (first| (refine Qn rfl 25 _ rfl ⟨G,0,none⟩ rfl c.p.cells.toList _ (Xn g) Tryz.underlying25 rfl (by kernel_rfl) ?_))
 refine a.out.mono ?_;rintro e w1 ⟨rfl,n⟩;have d:=l.trans (n.mono l.size);have o:=g.below n g.lt;clear g q s a l n hG;have c3:=o.cellv (i:=3) (v:=.slice c.tA c.tests.length c.tcap) rfl;have c5:=o.cellv (i:=5) (v:=.slice c.mA c.mts.length c.mcap) rfl;have x:=Lv (Ajj c.tA c.tcap c.tests w1 (u.out.go d).trd);have j:=Lv (Ajh c.mA c.mcap c.mts w1 (u.out.go d).mrd);clear o;generalize z:Aji c.p=p;have a:=Lv z;clear z;cases p
 ·go_wp2_with fail
  refine j.out.mono ?_;rintro e w2 ⟨rfl,rfl⟩;go_wp2_with fail
  go_ret
  exact⟨QD (by unfold AbH;rw[a.out];rfl),d⟩
 ·go_wp2_with fail
  refine x.out.mono ?_;rintro e w2 ⟨rfl,rfl⟩;generalize ht:AbI c.tests=t;have b:=Lv ht;clear ht x;go_wp2_with fail
  refine j.out.mono ?_;rintro e w2 ⟨rfl,rfl⟩;generalize y:ER c.mts=m;have k:=Lv y;clear y j;cases t
  ·go_wp2_with fail
   go_ret
   exact⟨QD (by unfold AbH;rw[a.out,b.out];rfl),d⟩
  ·go_wp2_with fail
   go_ret
   exact⟨QD (by unfold AbH;rw[a.out,b.out,k.out];rfl),d⟩
theorem Ale{c:CpV}(h:AbH c=true):c.p.body.length<=60/\c.p.V.length<=20/\c.tests.length<=40/\(∀x∈c.tests,x.l.length<=40)/\c.mts.length<=250/\∀x∈c.mts,okM x:=by
 unfold AbH Aji AbI ER at h;simp only[LK,decide_eq_true_eq]at h;exact⟨by omega,by omega,h.2.1.1,h.2.1.2,h.2.2.1,h.2.2.2⟩
theorem CpRaw.ok{W:World}{c:CpV}(h:CpRaw W c)(hf:AbH c=true):CpOk W c:=by
 obtain⟨e,g,i,d,j,b⟩:=Ale hf;exact⟨h.pok,by omega,by omega,h.trd,h.tok,by omega,λx a=>by have:=d x a;omega,h.tnil,h.mrd,λx a=>⟨(h.mok x a).1,by have:=(b x a).1;omega,(h.mok x a).2,by have:=(b x a).2;omega⟩,by omega,h.mnil⟩
theorem Afd (A:Option Addr)(cap:Nat)(l:List Nd)(w:World)(hr:Rd w A (l.flatMap Nd.cells))(hl:l.length<=1000):
 Calls Tryz.prog 129 #[.slice A l.length cap] w λe w'=>e=.returned (.int .i64 (Zs l))/\Below w.heap.size w w':=by
 by_cases j:l.length=0
 ·have a:=Lv (UQ j);rw[j];clear hr hl j;go_enter Tryz.func129,Tryz.ntmps129
  go_wp2_with fail
  go_ret
  exact⟨QT a.out.symm,Below.refl _ _⟩
 have e0:((l.length:Int)==0)=false:=by rw[beq_eq_false_iff_ne];omega
 by_cases o:200<l.length
 ·have a:=Lv (AdR o);have e1:200<(l.length:Int):=by omega
  clear hr hl j o;go_enter Tryz.func129,Tryz.ntmps129
  go_wp2_with fail
  go_ret
  exact⟨QT a.out.symm,Below.refl _ _⟩
 have e1:¬(200<(l.length:Int)):=by omega
 have s:=Lv (Aft A cap l (λx=>decide (Qy x<0)) w (λW=>Rd W A (l.flatMap Nd.cells)/\Below w.heap.size w W) ⟨hr,Below.refl _ _⟩ (λW h=>h.1) (λW h=>h.2) (λx _ W _=>Afm x W) (by omega));have He:=Lv (λW h=>Xp A cap l (0:Int) W h hl);have Hr:=Lv hr;have y:=Lv j;have q:=Lv o;have Hl:=Lv hl;clear hr hl j o;obtain⟨b,m⟩:∃b,b=l.any λx=>decide (Qy x<0):=⟨_,rfl⟩;rw[<-m]at s;go_enter Tryz.func129,Tryz.ntmps129
 go_wp2_with fail
 refine s.out.mono ?_;rintro e w1 ⟨rfl,c⟩;clear s;cases b;rotate_left
 ·obtain⟨x,g,n⟩:=List.any_eq_true.1 m.symm;have a:=Lv (AdS y.out q.out g (by simpa using n));clear m g n;go_wp2_with fail
  go_ret
  exact⟨QT a.out.symm,c⟩
 have h2:∀x∈l,¬Qy x<0:=λx g n=>by
  have:=Nq.1 m.symm x g;simp at this;omega
 have z:=Lv h2;clear m h2;go_wp2_with fail
 refine(He.out w1 (Hr.out.go c)).mono ?_;rintro e p ⟨rfl,b2⟩;replace c:=c.trans (b2.mono c.size);clear b2 He;by_cases k:endZ l 0=(l.length:Int);rotate_left
 ·have a:=Lv (AdT y.out q.out (λx g n=>by have:=z.out x g;omega) k);have e3:(endZ l 0 != (l.length:Int))=true:=by simpa using k
  clear k;go_wp2_with fail
  go_ret
  exact⟨QT a.out.symm,c⟩
 obtain⟨t,v⟩:=Whole.of k;have e3:((l.length:Int) != (l.length:Int))=false:=by simp
 have a:=Lv (Aap q.out (λx g n=>by have:=z.out x g;omega) v);have u:Hid (Calls Tryz.prog 200 #[.slice A l.length cap,.int .i64 0] p λe w'=>e=.returned (.int .i64 (Xg t))/\Below p.heap.size p w'):=Ahx A cap l Hl.out t.size t 0 (Nat.le_refl _) v.hat p (Hr.out.go c);rw[k];clear k v;obtain⟨d,hd⟩:∃d,d=Xg t:=⟨_,rfl⟩;rw[<-hd]at u a;clear hd;go_wp2_with fail
 refine u.out.mono ?_;rintro e w3 ⟨rfl,b3⟩;replace c:=c.trans (b3.mono c.size);clear b3 u;by_cases h4:30<d
 ·have i:Hid (Zs l=13):=by have:=a.out;rw[if_pos h4]at this;exact this
  clear a;go_wp2_with fail
  go_ret
  exact⟨QT i.out.symm,c⟩
 ·have i:Hid (Zs l=0):=by have:=a.out;rw[if_neg h4]at this;exact this
  clear a;go_wp2_with fail
  go_ret
  exact⟨QT i.out.symm,c⟩
theorem UC (p:PgV)(hbl:p.body.length<=1000)(w:World)(hok:p.ok w):
 Calls Tryz.prog 62 #[.agg p.cells] w λe w'=>e=.returned (.int .i64 (QP p))/\Below w.heap.size w w':=by
 have s:=Lv hbl;have u:=Lv hok;clear hbl hok;go_enter Tryz.func62,Tryz.ntmps62
 go_wp2_with (refine Qx _ _ rfl ?_)
 refine Stop.to ?_;refine Qf rfl 25 _ rfl p.cells rfl ?_;intro G Gw Gh j Gb;have c:=(Below.refl w.heap.size w).trans (Gb.mono Gh);have b:=Lv (u.out.go c);have c2:=j.cellv (i:=2) (v:=.slice p.ba p.body.length p.bcap) rfl;have m:=Lv (Afd p.ba p.bcap p.body Gw b.out.brd s.out);clear Gb Gh u;go_wp2_with fail
 refine m.out.mono ?_;rintro e w1 ⟨rfl,g⟩;replace j:=j.below g j.lt;replace c:=c.trans (g.mono c.size);replace b:=Lv (b.out.go g);clear g m c2;obtain⟨a,o⟩:∃a,a=Zs p.body:=⟨_,rfl⟩;rw[<-o];by_cases n:a=0;rotate_left
 ·have l:Hid (QP p=a):=by show _=_;rw[Aaq (by rw[<-o];exact n), <-o]
  have e0:(a != 0)=true:=by simpa using n
  clear o n;go_wp2_with fail
  go_ret
  exact⟨QT l.out.symm,c⟩
 subst n;have q:=Lv o.symm;have m:=Lv (Akr p w1 b.out);clear o;go_wp2_with (refine wpList_load_row rfl 25 _ rfl G rfl 25 p.cells (0,0) _ j Tryz.underlying25 rfl (by kernel_rfl) ?_)
 refine m.out.mono ?_;rintro e w2 ⟨rfl,g⟩;replace j:=j.below g j.lt;replace c:=c.trans (g.mono c.size);replace b:=Lv (b.out.go g);clear g m;obtain⟨v,z⟩:∃v,v=KJ p.params p.V:=⟨_,rfl⟩;rw[<-z];by_cases n:v=0;rotate_left
 ·have ae:v=14:=by rcases EM p.params p.V with h|h<;>omega
  have l:Hid (QP p=14):=AdU q.out (by rw[<-z];exact n);subst ae;clear z n;go_wp2_with fail
  go_ret
  exact⟨QT l.out.symm,c⟩
 subst n;have Hv:=Lv z.symm;obtain⟨ai,ag,t,ht,ah⟩:=Ab1 q.out;have x:=Lv ht;have m:Hid (∀W,p.ok W->Calls Tryz.prog 131 #[.agg p.cells,.int .i64 0] W λe w'=>e=.returned (.int .i64 (ofT p.V t))/\Below W.heap.size W w'):=λW h=>AjB p s.out t 0 x.out.hat W h
 obtain⟨ad,af,hc⟩:=JG b.out.brd ht.hat.root;have c2:=j.cellv (i:=2) (v:=.slice p.ba p.body.length p.bcap) rfl;have c0:=hc 0 _ rfl;have aj:(0:Int)<(p.body.length:Int):=by have:=ht.pos;omega
 simp only[Nat.zero_mul,KW]at c0;rw[af]at c2;have ab:Hid (Yn p.params p.V):=by rcases EM p.params p.V with h|h;exact h.2;have:=Hv.out;omega
 clear z ai ag ah ht hc;by_cases d:t.root.tag=20;rotate_left
 ·have l:Hid (QP p=15):=Aar q.out Hv.out (Ur x.out.hat (λh=>d h.1));have ac:(t.root.tag != 20)=true:=by simpa using d
  clear d;go_wp2_with fail
  go_ret
  exact⟨QT l.out.symm,c⟩
 have ac:(t.root.tag != 20)=false:=by simp[d]
 have aa:=Lv d;clear d;go_wp2_with (refine Zl rfl 25 _ rfl G rfl 25 p.cells (0,0) _ j Tryz.underlying25 rfl (by kernel_rfl) ?_)
 refine(m.out w2 b.out).mono ?_;rintro e w3 ⟨rfl,g⟩;replace c:=c.trans (g.mono c.size);clear g m c0 c2;obtain⟨k,y⟩:∃k,k=ofT p.V t:=⟨_,rfl⟩;rw[<-y];by_cases h2:k=2
 ·subst h2;have l:Hid (QP p=0):=AdV q.out Hv.out ⟨x.out.hat,x.out.size,ab.out,aa.out,y.symm⟩;clear y;go_wp2_with fail
  go_ret
  exact⟨QT l.out.symm,c⟩
 ·have l:Hid (QP p=15):=Aar q.out Hv.out (Ur x.out.hat (λh=>h2 (by rw[y];exact h.2)));have e2:(k != 2)=true:=by simpa using h2
  clear y h2;go_wp2_with fail
  go_ret
  exact⟨QT l.out.symm,c⟩
end Go.Proofs.YtgnmkiafeplbpaaGreatDoor
namespace Go.Proofs.YtgnmkiafeplbpaaGreatDoor
open Go.RowKit
theorem AgF (a:Int):∀l:List Int,(AbK a l).length<=l.length+1
 |[]=>by simp[AbK]
 |b::l=>by
  rw[AbK]
  split
  ·simp
  ·split
   ·simp
   ·have:=AgF a l;simp;omega
theorem Abq:∀l:List Int,(Xd l).length<=l.length
 |[]=>by simp[Xd]
 |a::l=>by have:=AgF a (Xd l);have:=Abq l;rw[Xd];simp;omega
theorem Abb:∀{l:List Int},l.Pairwise (· <·)->J3 l
 |[],_=>trivial
 |[_],_=>trivial
 |a::b::l,h=>by
  rw[List.pairwise_cons]at h
  exact⟨h.1 b (by simp),Abb h.2⟩
theorem Ac9{s:List Int}(hs:s.Pairwise (· <=·)):J3 (Lib.compact s)/\∀x,x∈Lib.compact s<->x∈s:=by
 have c:∀j,j<s.length->∃x,s[j]? =some x/\s.toArray[j]! =x:=λj m=>⟨s[j],Ld m,by simp[m]⟩
 have l:∀i j x y,i<=j->s[i]? =some x->s[j]? =some y->x<=y:=λi j x y t q g=>by
  rcases Nat.lt_or_eq_of_le t with h|h
  ·obtain⟨h1,rfl⟩:=Lf.1 q;obtain⟨h2,rfl⟩:=Lf.1 g;exact List.pairwise_iff_getElem.1 hs i j h1 h2 h
  ·subst h;rw[q]at g;injection g with g;omega
 constructor
 ·refine Abb ?_;unfold Lib.compact Lib.compactUpTo;rw[N4,List.pairwise_filter];rw[List.pairwise_iff_getElem];intro i j hi m t ae o;simp only[List.getElem_range]at*;rw[List.length_range]at hi m;unfold Lib.keeps at o;rw[decide_eq_true_eq]at o;obtain⟨x,q,ab⟩:=c i hi;obtain⟨y,g,d⟩:=c j m;obtain⟨z,v,p⟩:=c (j-1) (by omega);rw[ab,d];rw[d,p]at o;have h1:=l i (j-1) x z (by omega) q v;have h2:=l (j-1) j z y (by omega) v g;rcases o with h|h<;>omega
 ·intro x;unfold Lib.compact Lib.compactUpTo;rw[LL];constructor
  ·rintro⟨j,m,rfl⟩;have aa:=Ny.1 (Nl.1 m).1;obtain⟨y,g,d⟩:=c j aa;rw[d];exact Li g
  ·intro q;obtain⟨j,m,b⟩:=List.getElem_of_mem q
   have:∀(n j:Nat),j<=n->s[j]? =some x->∃a:Nat,a∈(List.range s.length).filter (Lib.keeps s.toArray)/\s.toArray[a]! =x:=by
    intro n
    induction n with
    |zero=>
     intro j w b;obtain rfl:j=0:=by omega
     have k:=(Lf.1 b).1;obtain⟨y,g,d⟩:=c 0 k;rw[g]at b;injection b with b;exact⟨0,Nl.2 ⟨Ny.2 k,by simp[Lib.keeps]⟩,by rw[d,b]⟩
    |succ n ih=>
     intro j ad b;have k:=(Lf.1 b).1;obtain⟨y,g,d⟩:=c j k;rw[g]at b;injection b with b;subst b;by_cases u:Lib.keeps s.toArray j=true
     ·exact⟨j,Nl.2 ⟨Ny.2 k,u⟩,d⟩
     ·unfold Lib.keeps at u;rw[decide_eq_true_eq]at u;have w:j≠0:=λe=>u (.inl e)
      obtain⟨z,v,p⟩:=c (j-1) (by omega)
      have ac:z=y:=by
       rcases Decidable.em (s.toArray[j]! =s.toArray[j-1]!)with e|e
       ·rw[d,p]at e;exact e.symm
       ·exact absurd (.inr e) u
      exact ih (j-1) (by omega) (by rw[v,ac])
   exact this j j (Nat.le_refl _) (by rw[Ld m,b])
theorem Aio (l:List Int):Lib.compact (l.mergeSort λx y=>decide (x<=y))=Xd l:=by
 have g:(l.mergeSort λx y=>decide (x<=y)).Pairwise (· <=·):=by
  have:=List.pairwise_mergeSort (le:=λx y:Int=>decide (x<=y)) (λa b c=>by simp;omega) (λa b=>by simp;omega) l;exact this.imp (by simp)
 obtain⟨d,e⟩:=Ac9 g;refine Ef d (Xe l) λx=>?_
 rw[e,Um];exact(List.mergeSort_perm l _).mem_iff
end Go.Proofs.YtgnmkiafeplbpaaGreatDoor
namespace Go.Proofs.YtgnmkiafeplbpaaGreatDoor
open Go.Shelf
def Aer:Go.Shelf.Ren:=⟨λ|189=>298|125=>304|257=>303|128=>314|129=>315|294=>305|295=>306|296=>307|297=>308|298=>309|299=>310|216=>311|300=>312|301=>313|328=>316|329=>317|330=>318|331=>319|332=>320|215=>238|343=>321|n=>n,λ|28=>22|3=>3|46=>267|0=>0|51=>42|53=>113|4=>4|183=>361|182=>360|131=>366|5=>5|9=>9|218=>369|222=>222|228=>374|229=>290|n=>n,λ|n=>n⟩
theorem Alt:Go.Proofs.Lays.n189 Tryz.prog Aer:={
 mixed:=by kernel_rfl
 f125:=Tryz.func304.trans (congrArg some (by kernel_rfl))
 f128:=Tryz.func314.trans (congrArg some (by kernel_rfl))
 f129:=Tryz.func315.trans (congrArg some (by kernel_rfl))
 f189:=Tryz.func298.trans (congrArg some (by kernel_rfl))
 f215:=Tryz.func238.trans (congrArg some (by kernel_rfl))
 f216:=Tryz.func311.trans (congrArg some (by kernel_rfl))
 f257:=Tryz.func303.trans (congrArg some (by kernel_rfl))
 f294:=Tryz.func305.trans (congrArg some (by kernel_rfl))
 f295:=Tryz.func306.trans (congrArg some (by kernel_rfl))
 f296:=Tryz.func307.trans (congrArg some (by kernel_rfl))
 f297:=Tryz.func308.trans (congrArg some (by kernel_rfl))
 f298:=Tryz.func309.trans (congrArg some (by kernel_rfl))
 f299:=Tryz.func310.trans (congrArg some (by kernel_rfl))
 f300:=Tryz.func312.trans (congrArg some (by kernel_rfl))
 f301:=Tryz.func313.trans (congrArg some (by kernel_rfl))
 f328:=Tryz.func316.trans (congrArg some (by kernel_rfl))
 f329:=Tryz.func317.trans (congrArg some (by kernel_rfl))
 f330:=Tryz.func318.trans (congrArg some (by kernel_rfl))
 f331:=Tryz.func319.trans (congrArg some (by kernel_rfl))
 f332:=Tryz.func320.trans (congrArg some (by kernel_rfl))
 f343:=Tryz.func321.trans (congrArg some (by kernel_rfl))
 t0:=Tryz.underlying0
 a0:=Tryz.isAgg0
 z0:=Tryz.sizeOf0
 v0:=Tryz.zeroValue0
 t3:=Tryz.underlying3
 a3:=Tryz.isAgg3
 z3:=Tryz.sizeOf3
 v3:=Tryz.zeroValue3
 t4:=Tryz.underlying4
 a4:=Tryz.isAgg4
 z4:=Tryz.sizeOf4
 v4:=Tryz.zeroValue4
 t5:=Tryz.underlying5
 a5:=Tryz.isAgg5
 z5:=Tryz.sizeOf5
 v5:=Tryz.zeroValue5
 t9:=Tryz.underlying9
 a9:=Tryz.isAgg9
 z9:=Tryz.sizeOf9
 v9:=Tryz.zeroValue9
 t28:=Tryz.underlying22
 a28:=Tryz.isAgg22
 z28:=Tryz.sizeOf22
 v28:=Tryz.zeroValue22
 t46:=Tryz.underlying267
 a46:=Tryz.isAgg267
 z46:=Tryz.sizeOf267
 v46:=Tryz.zeroValue267
 t51:=Tryz.underlying42
 a51:=Tryz.isAgg42
 z51:=Tryz.sizeOf42
 v51:=Tryz.zeroValue42
 t53:=Tryz.underlying113
 a53:=Tryz.isAgg113
 z53:=Tryz.sizeOf113
 v53:=Tryz.zeroValue113
 t131:=Tryz.underlying366
 a131:=Tryz.isAgg366
 z131:=Tryz.sizeOf366
 v131:=Tryz.zeroValue366
 t182:=Tryz.underlying360
 a182:=Tryz.isAgg360
 z182:=Tryz.sizeOf360
 v182:=Tryz.zeroValue360
 t183:=Tryz.underlying361
 a183:=Tryz.isAgg361
 z183:=Tryz.sizeOf361
 v183:=Tryz.zeroValue361
 t218:=Tryz.underlying369
 a218:=Tryz.isAgg369
 z218:=Tryz.sizeOf369
 v218:=Tryz.zeroValue369
 t222:=Tryz.underlying222
 a222:=Tryz.isAgg222
 z222:=Tryz.sizeOf222
 v222:=Tryz.zeroValue222
 t228:=Tryz.underlying374
 a228:=Tryz.isAgg374
 z228:=Tryz.sizeOf374
 v228:=Tryz.zeroValue374
 t229:=Tryz.underlying290
 a229:=Tryz.isAgg290
 z229:=Tryz.sizeOf290
 v229:=Tryz.zeroValue290 }
open Go.Sort Go.RowKit in
theorem slices_Sort_int (blk off cap:Nat)(zs:List Int)(w:World)(hH:Holds (Value.int .i64) w blk off zs.toArray)(hblk:blk<w.heap.size)(hsz:zs.length<4611686018427387904):
 Calls Tryz.prog 298 #[.slice (some ⟨blk,off,none⟩) zs.length cap] w λe w'=>
  e=.returned (.tuple #[])/\∃n os,w'=grow (putRow (Value.int .i64) (Sort.ahead w n) blk off (zs.mergeSort λx y=>decide (x<=y)).toArray) os:=Any.slices_Sort_int Alt blk off cap zs w hH hblk hsz
def AbL:Go.Shelf.Ren:=⟨λ|20=>299|n=>n,λ|22=>22|3=>3|4=>4|0=>0|n=>n,λ|n=>n⟩
theorem AhV:Go.Proofs.Lays2.n20 Tryz.prog AbL:={
 mixed:=by kernel_rfl
 f20:=Tryz.func299.trans (congrArg some (by kernel_rfl))
 t0:=Tryz.underlying0
 a0:=Tryz.isAgg0
 z0:=Tryz.sizeOf0
 v0:=Tryz.zeroValue0
 t3:=Tryz.underlying3
 a3:=Tryz.isAgg3
 z3:=Tryz.sizeOf3
 v3:=Tryz.zeroValue3
 t4:=Tryz.underlying4
 a4:=Tryz.isAgg4
 z4:=Tryz.sizeOf4
 v4:=Tryz.zeroValue4
 t22:=Tryz.underlying22
 a22:=Tryz.isAgg22
 z22:=Tryz.sizeOf22
 v22:=Tryz.zeroValue22
 i3:=by kernel_rfl }
open Go.RowKit Go.Lib Go.Sort in
theorem slices_Compact_int (blk off cap:Nat)(zs:List Int)(w:World)(hH:Holds (Value.int .i64) w blk off zs.toArray)(hsz:zs.length<=9223372036854775807)(hcap:zs.length<=cap):
 Calls Tryz.prog 299 #[.slice (some ⟨blk,off,none⟩) zs.length cap] w λe w'=>e=.returned (.slice (some ⟨blk,off,none⟩) (Lib.compact zs).length cap)/\∃q,w'=putRow (Value.int .i64) (Sort.ahead w q) blk off (Lib.compact zs++List.replicate (zs.length-(Lib.compact zs).length) 0).toArray:=Any.slices_Compact_int AhV blk off cap zs w hH hsz hcap
end Go.Proofs.YtgnmkiafeplbpaaGreatDoor
