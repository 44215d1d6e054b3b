/- Lemmas for ArAll. -/
import Derived.Test.YtgnmkiafeplbpaaGreatDoorZf1
import Derived.Test.YtgnmkiafeplbpaaGreatDoorZf20
import Derived.Test.YtgnmkiafeplbpaaGreatDoorZf14
set_option linter.unusedVariables false
set_option linter.unusedSimpArgs false
set_option maxRecDepth 100000
set_option maxHeartbeats 16000000
namespace Go.Proofs.YtgnmkiafeplbpaaGreatDoor
open Go.RowKit Go.Deep
def ES (l:List Dl)(d:Dl):Bool:=l.any λe=>decide (Zw e d=0)
theorem Aek{l:List Dl}{d:Dl}:ES l d=true<->d∈l:=by
 unfold ES;rw[List.any_eq_true];constructor
 ·rintro⟨e,a,h⟩;rw[decide_eq_true_eq,cmpD_eq]at h;exact h▸a
 ·exact λh=>⟨d,h,by rw[decide_eq_true_eq];exact VP d⟩
instance St.dlt_all{l:List DlV}:St (λW=>∀x∈l,DlT W x):=⟨λh b x hx=>(h x hx).go b⟩
theorem AeW (L:Nat)(A:Option Addr)(cap:Nat)(xs:List DlV)(x:MtV)(w:World)(hr:Row w L 87 #[.slice A xs.length cap])(hrd:Rd w A (XQ xs))(hl:xs.length<=1000000)(hok:∀y∈xs,DlT w y)(hrise:K6 (xs.map DlV.d))(hx:MtOk w x):
 Calls Tryz.prog 56 #[.agg x.cells.toArray,.pointer (some ⟨L,0,none⟩)] w λe w'=>e=.returned (.bool (!ES (xs.map DlV.d) x.m.d))/\Below w.heap.size w w':=by
 have j:=Lv hrd;have g:=Lv hok;have t:=Lv hx;have q:=Lv hl;have a:=Lv hrise;clear hrd hok hx hl hrise;go_enter Tryz.func56,Tryz.ntmps56
 go_wp2_with (refine Qx _ _ rfl ?_)
 refine Stop.to ?_;refine Qf rfl 95 _ rfl x.cells.toArray rfl ?_;intro G Gw o p n;have c:=(Below.refl w.heap.size w).trans (n.mono o);have rL:=hr.below c hr.lt;have c0:=rL.cellv (i:=0) (v:=.slice A xs.length cap) rfl;have s:=Lv (Ajl A cap xs x.dl Gw (j.out.go c) q.out (λy hy=>((g.out y hy).go c).ok) (t.out.go c).dl a.out);clear hr rL n o j g t q a;go_wp2_with (refine Qn rfl 91 _ rfl ⟨G,0,none⟩ rfl x.dl.cells.toList _ (Acw p) Tryz.underlying91 rfl (by kernel_rfl) ?_)
 refine s.out.mono ?_;rintro e w1 ⟨⟨r,rfl,hd⟩,u⟩;have z:=c.trans (u.mono c.size);have b:0<=r<->ES (xs.map DlV.d) x.m.d=true:=by rw[hd,Aek];exact Iff.rfl
 clear s p c u c0 hd;by_cases h0:r<0
 ·have k:Hid ((!ES (xs.map DlV.d) x.m.d)=true):=by
    show _=_;have l:¬ES (xs.map DlV.d) x.m.d=true:=λh=>by have:=b.2 h;omega
    simpa using l
  clear b;go_wp2_with fail
  go_ret
  exact⟨QD k.out,z⟩
 ·have k:Hid ((!ES (xs.map DlV.d) x.m.d)=false):=by
    show _=_;have l:=b.1 (by omega);simp only[l,Bool.not_true]
  clear b;go_wp2_with fail
  go_ret
  exact⟨QD (k.out.trans (decide_eq_false (by omega)).symm),z⟩
theorem Ajv (P:Nat)(A:Option Addr)(cap:Nat)(l:List MtV)(p:MtV->Bool)(w:World)(S:World->Prop)[stS:St S](hS:S w)(hrd:∀W,S W->Rd W A (ZH l))(hlo:∀W,S W->Below w.heap.size w W)
 (hp:∀x∈l,∀W,S W->Calls Tryz.prog 56 #[.agg x.cells.toArray,.pointer (some ⟨P,0,none⟩)] W λe W'=>e=.returned (.bool (p x))/\Below W.heap.size W W') (hl:l.length<=1000000):
 Calls Tryz.prog 139 #[.slice A l.length cap,.func (.func 56) #[] #[.pointer (some ⟨P,0,none⟩)]] w λe w'=>e=.returned (.int .i64 (AaM p l))/\Below w.heap.size w w':=by
 have Hp:=Lv hp;have q:=Lv hrd;have h:=Lv hlo;have aa:(l.length:Int)<=1000000:=by omega
 clear hp hrd hlo hl;go_enter Tryz.func139,Tryz.ntmps139
 go_wp2
 go_loopw [8] (λi wr=>∃k:Nat,i=.int .i64 (k:Int)/\k<=l.length/\Hid (∀y∈l.take k,p y=false)/\S wr) (λi _=>l.length-(intOf i).toNat)
 case atStart=>exact⟨0,rfl,Nat.zero_le _,Lv (λx d=>by simp at d),hS⟩
 case round=>
  clear hS;obtain⟨k,rfl,hk,a,hS⟩:=hrel;by_cases c:k<l.length
  ·obtain⟨x,d⟩:∃x,l[k]? =some x:=⟨_,Ld c⟩;obtain⟨t,s,n⟩:=KM (q.out _ hS) d;have g:Hid (∀j u,x.cells[j]? =some u->wr.cell? ((t.add (k*8)).add j)=some u):=n;have o:=Lv d;have b:=Lv (Hp.out x (Li d) wr hS);have z:(k:Int)<(l.length:Int):=by omega
   clear d c n;subst s;go_wp2_with (refine Qn rfl 95 _ rfl (t.add (k*8)) rfl x.cells _ g.out Tryz.underlying95 rfl (by kernel_rfl) ?_)
   refine b.out.mono ?_;rintro e w' ⟨rfl,v⟩;replace hS:=stS.go hS v;clear v b g;cases hs:p x
   ·have m:=Lv (JA a.out o.out hs);clear hs o;go_wp2_with fail
    go_roundw
    case rel=>exact⟨k+1,by go_num,by omega,m,hS⟩
    case measure=>simp[intOf];omega
   ·have m:=Lv (YL a.out o.out hs);clear hs o;go_wp2_with fail
    go_ret
    exact⟨by rw[m.out];rfl,h.out _ hS⟩
  ·obtain rfl:k=l.length:=by omega
   have m:=Lv (U3 (p:=p) (l:=l) (by have:=a.out;rwa[LO]at this));clear c hk;go_wp2
   go_ret
   exact⟨by rw[m.out];rfl,h.out _ hS⟩
theorem Ahu (P:Nat)(A:Option Addr)(cap:Nat)(l:List MtV)(p:MtV->Bool)(w:World)(S:World->Prop)[stS:St S](hS:S w)(hrd:∀W,S W->Rd W A (ZH l))(hlo:∀W,S W->Below w.heap.size w W)
 (hp:∀x∈l,∀W,S W->Calls Tryz.prog 56 #[.agg x.cells.toArray,.pointer (some ⟨P,0,none⟩)] W λe W'=>e=.returned (.bool (p x))/\Below W.heap.size W W') (hl:l.length<=1000000):
 Calls Tryz.prog 69 #[.slice A l.length cap,.func (.func 56) #[] #[.pointer (some ⟨P,0,none⟩)]] w λe w'=>e=.returned (.bool (l.any p))/\Below w.heap.size w w':=by
 have a:=Lv (Ajv P A cap l p w S hS hrd hlo hp hl);clear hp hrd hlo hl hS;go_enter Tryz.func69,Tryz.ntmps69
 go_wp2_with fail
 refine a.out.mono ?_;rintro e w' ⟨rfl,c⟩;have b:=Lv (YK p l);clear a;go_wp2_with fail
 go_ret
 exact⟨QD b.out.symm,c⟩
theorem Agu{W:World}{G:Nat}{t:TypeId}{c:CpV}(h:Row W G t c.cells):W.cell? ⟨G,3,none⟩=some (.slice c.tA c.tests.length c.tcap):=h.cellv (i:=3) rfl
theorem Aay{W:World}{G:Nat}{t:TypeId}{c:CpV}(h:Row W G t c.cells):W.cell? ⟨G,5,none⟩=some (.slice c.mA c.mts.length c.mcap):=h.cellv (i:=5) rfl
def AaW (n:Nat)(x:Mt):Bool:= !Kd x || decide ((n:Int)<=x.test)
theorem AjK (C:Nat)(c:CpV)(x:MtV)(w:World)(hr:Row w C 31 c.cells)(hx:MtOk w x):
 Calls Tryz.prog 58 #[.agg x.cells.toArray,.pointer (some ⟨C,0,none⟩)] w λe w'=>e=.returned (.bool (AaW c.tests.length x.m))/\Below w.heap.size w w':=by
 have o:=Lv hx;clear hx;go_enter Tryz.func58,Tryz.ntmps58
 go_wp2_with (refine Qx _ _ rfl ?_)
 refine Stop.to ?_;refine Qf rfl 95 _ rfl x.cells.toArray rfl ?_;intro G s l d k;have a:=(Below.refl w.heap.size w).trans (k.mono l);have j:=hr.below a hr.lt;have n:=Lv (AcK x s (o.out.go a));clear hr k l o;go_wp2_with (refine wpList_load_row rfl 95 _ rfl G rfl 95 x.cells.toArray (0,0) _ d Tryz.underlying95 rfl (by kernel_rfl) ?_)
 refine n.out.mono ?_;rintro e t ⟨rfl,g⟩;have q:=a.trans (g.mono a.size);have u:=Agu (j.below g j.lt);have v:t.cell? ⟨G,4,none⟩=some (.int .i64 x.m.test):=(d.below g d.lt).cellv (i:=4) rfl;clear n d j a g;obtain⟨b,h⟩:∃b,b=Kd x.m:=⟨_,rfl⟩;have p:Hid (AaW c.tests.length x.m=(!b || decide ((c.tests.length:Int)<=x.m.test))):=by show _=_;rw[h];rfl
 rw[<-h];clear h;cases b
 ·go_wp2_with fail
  go_ret
  exact⟨QD (p.out.trans rfl),q⟩
 ·go_wp2_with fail
  go_ret
  exact⟨QD (p.out.trans (by simp)),q⟩
theorem Aju (P:Nat)(A:Option Addr)(cap:Nat)(l:List MtV)(p:MtV->Bool)(w:World)(S:World->Prop)[stS:St S](hS:S w)(hrd:∀W,S W->Rd W A (ZH l))(hlo:∀W,S W->Below w.heap.size w W)
 (hp:∀x∈l,∀W,S W->Calls Tryz.prog 58 #[.agg x.cells.toArray,.pointer (some ⟨P,0,none⟩)] W λe W'=>e=.returned (.bool (p x))/\Below W.heap.size W W') (hl:l.length<=1000000):
 Calls Tryz.prog 139 #[.slice A l.length cap,.func (.func 58) #[] #[.pointer (some ⟨P,0,none⟩)]] w λe w'=>e=.returned (.int .i64 (AaM p l))/\Below w.heap.size w w':=by
 have Hp:=Lv hp;have q:=Lv hrd;have h:=Lv hlo;have aa:(l.length:Int)<=1000000:=by omega
 clear hp hrd hlo hl;go_enter Tryz.func139,Tryz.ntmps139
 go_wp2
 go_loopw [8] (λi wr=>∃k:Nat,i=.int .i64 (k:Int)/\k<=l.length/\Hid (∀y∈l.take k,p y=false)/\S wr) (λi _=>l.length-(intOf i).toNat)
 case atStart=>exact⟨0,rfl,Nat.zero_le _,Lv (λx d=>by simp at d),hS⟩
 case round=>
  clear hS;obtain⟨k,rfl,hk,a,hS⟩:=hrel;by_cases c:k<l.length
  ·obtain⟨x,d⟩:∃x,l[k]? =some x:=⟨_,Ld c⟩;obtain⟨t,s,n⟩:=KM (q.out _ hS) d;have g:Hid (∀j u,x.cells[j]? =some u->wr.cell? ((t.add (k*8)).add j)=some u):=n;have o:=Lv d;have b:=Lv (Hp.out x (Li d) wr hS);have z:(k:Int)<(l.length:Int):=by omega
   clear d c n;subst s;go_wp2_with (refine Qn rfl 95 _ rfl (t.add (k*8)) rfl x.cells _ g.out Tryz.underlying95 rfl (by kernel_rfl) ?_)
   refine b.out.mono ?_;rintro e w' ⟨rfl,v⟩;replace hS:=stS.go hS v;clear v b g;cases hs:p x
   ·have m:=Lv (JA a.out o.out hs);clear hs o;go_wp2_with fail
    go_roundw
    case rel=>exact⟨k+1,by go_num,by omega,m,hS⟩
    case measure=>simp[intOf];omega
   ·have m:=Lv (YL a.out o.out hs);clear hs o;go_wp2_with fail
    go_ret
    exact⟨by rw[m.out];rfl,h.out _ hS⟩
  ·obtain rfl:k=l.length:=by omega
   have m:=Lv (U3 (p:=p) (l:=l) (by have:=a.out;rwa[LO]at this));clear c hk;go_wp2
   go_ret
   exact⟨by rw[m.out];rfl,h.out _ hS⟩
theorem Aht (P:Nat)(A:Option Addr)(cap:Nat)(l:List MtV)(p:MtV->Bool)(w:World)(S:World->Prop)[stS:St S](hS:S w)(hrd:∀W,S W->Rd W A (ZH l))(hlo:∀W,S W->Below w.heap.size w W)
 (hp:∀x∈l,∀W,S W->Calls Tryz.prog 58 #[.agg x.cells.toArray,.pointer (some ⟨P,0,none⟩)] W λe W'=>e=.returned (.bool (p x))/\Below W.heap.size W W') (hl:l.length<=1000000):
 Calls Tryz.prog 69 #[.slice A l.length cap,.func (.func 58) #[] #[.pointer (some ⟨P,0,none⟩)]] w λe w'=>e=.returned (.bool (l.any p))/\Below w.heap.size w w':=by
 have a:=Lv (Aju P A cap l p w S hS hrd hlo hp hl);clear hp hrd hlo hl hS;go_enter Tryz.func69,Tryz.ntmps69
 go_wp2_with fail
 refine a.out.mono ?_;rintro e w' ⟨rfl,c⟩;have b:=Lv (YK p l);clear a;go_wp2_with fail
 go_ret
 exact⟨QD b.out.symm,c⟩
theorem AiS (C:Nat)(c:CpV)(w:World)(hr:Row w C 31 c.cells)(hc:CpOk w c):
 Calls Tryz.prog 60 #[.pointer (some ⟨C,0,none⟩)] w λe w'=>e=.returned (.int .i64 (QH (QP c.p==0) 23))/\Below w.heap.size w w':=by
 have a:=Lv (UC c.p hc.bl w hc.pok);clear hc;go_enter Tryz.func60,Tryz.ntmps60
 go_wp2_with (refine Qn rfl 25 _ rfl ⟨C,0,none⟩ rfl c.p.cells.toList _ (Xn hr) Tryz.underlying25 rfl (by kernel_rfl) ?_)
 refine a.out.mono ?_;rintro e d ⟨rfl,b⟩;clear a hr;go_wp2_with fail
 refine(J5 _ 23 d).mono ?_;rintro e g ⟨rfl,rfl⟩;go_wp2_with fail
 go_ret
 exact⟨rfl,b⟩
theorem AiT (C:Nat)(c:CpV)(w:World)(hr:Row w C 31 c.cells)(hc:CpOk w c):
 Calls Tryz.prog 63 #[.pointer (some ⟨C,0,none⟩)] w λe w'=>e=.returned (.int .i64 (Zk c.p.params c.testsL c.fuel))/\Below w.heap.size w w':=by
 have a:=Lv (AcV c.p.params c.fuel c.tA c.tcap c.tests w hc.trd (by have:=hc.tlen;omega));have d:=hr.cellv (i:=0) (v:=.int .i64 c.p.params) rfl;have g:=Agu hr;have h:=hr.cellv (i:=4) (v:=.int .i64 c.fuel) rfl;clear hr hc;go_enter Tryz.func63,Tryz.ntmps63
 go_wp2_with fail
 refine a.out.mono ?_;rintro e j ⟨rfl,b⟩;clear a d g h;go_wp2_with fail
 go_ret
 exact⟨rfl,b⟩
theorem AiU (C:Nat)(c:CpV)(w:World)(hr:Row w C 31 c.cells):
 Calls Tryz.prog 65 #[.pointer (some ⟨C,0,none⟩)] w λe w'=>e=.returned (.int .i64 (QH (decide ((c.mts.length:Int)<=2000)) 24))/\Below w.heap.size w w':=by
 have a:=Aay hr;clear hr;go_enter Tryz.func65,Tryz.ntmps65
 go_wp2_with fail
 refine(J5 _ 24 w).mono ?_;rintro e b ⟨rfl,rfl⟩;clear a;go_wp2_with fail
 go_ret
 exact⟨rfl,Below.refl _ _⟩
theorem AiV (C:Nat)(c:CpV)(w:World)(hr:Row w C 31 c.cells)(hc:CpOk w c):
 Calls Tryz.prog 66 #[.pointer (some ⟨C,0,none⟩)] w λe w'=>e=.returned (.int .i64 (QH (YX c.muts) 20))/\Below w.heap.size w w':=by
 have a:=Lv (Aie c.mA c.mcap _ c.mts w rfl hc.mrd (by have:=hc.mlen;omega) hc.mok);have d:=Aay hr;clear hr hc;go_enter Tryz.func66,Tryz.ntmps66
 go_wp2_with fail
 refine a.out.mono ?_;rintro e g ⟨rfl,b⟩;clear a d;go_wp2_with fail
 refine(J5 _ 20 g).mono ?_;rintro e h ⟨rfl,rfl⟩;go_wp2_with fail
 go_ret
 exact⟨rfl,b⟩
theorem AiW (C F L:Nat)(c:CpV)(A:Option Addr)(cap:Nat)(xs:List DlV)(w:World)(hr:Row w C 31 c.cells)(hc:CpOk w c)(hf:Row w F 97 #[.func (.func 56) #[] #[.pointer (some ⟨L,0,none⟩)]])
 (hL:Row w L 87 #[.slice A xs.length cap]) (hrd:Rd w A (XQ xs)) (hl:xs.length<=1000000) (hok:∀y∈xs,DlT w y) (hrise:K6 (xs.map DlV.d)):
 Calls Tryz.prog 68 #[.pointer (some ⟨C,0,none⟩),.pointer (some ⟨F,0,none⟩)] w λe w'=>e=.returned (.int .i64 (QH (!c.mts.any λx=> !ES (xs.map DlV.d) x.m.d) 17))/\Below w.heap.size w w':=by
 have a:=Lv (Ahu L c.mA c.mcap c.mts (λx=> !ES (xs.map DlV.d) x.m.d) w (λW=>(Row W L 87 #[.slice A xs.length cap]/\Rd W A (XQ xs)/\∀y∈xs,DlT W y)/\CpOk W c/\Below w.heap.size w W) ⟨⟨hL,hrd,hok⟩,hc,Below.refl _ _⟩ (λW h=>h.2.1.mrd) (λW h=>h.2.2) (λx k W h=>AeW L A cap xs x W h.1.1 h.1.2.1 hl h.1.2.2 hrise (h.2.1.mok x k)) (by have:=hc.mlen;omega));have g:=Aay hr;have j:=hf.cellv (i:=0) (v:=.func (.func 56) #[] #[.pointer (some ⟨L,0,none⟩)]) rfl;clear hr hc hf hL hrd hl hok hrise;go_enter Tryz.func68,Tryz.ntmps68
 go_wp2_with fail
 refine a.out.mono ?_;rintro e l ⟨rfl,b⟩;clear a g j;go_wp2_with fail
 refine(J5 _ 17 l).mono ?_;rintro e n ⟨rfl,rfl⟩;go_wp2_with fail
 go_ret
 exact⟨rfl,b⟩
theorem AiX (C F:Nat)(c:CpV)(w:World)(hr:Row w C 31 c.cells)(hc:CpOk w c)(hf:Row w F 97 #[.func (.func 58) #[] #[.pointer (some ⟨C,0,none⟩)]]):
 Calls Tryz.prog 70 #[.pointer (some ⟨C,0,none⟩),.pointer (some ⟨F,0,none⟩)] w λe w'=>e=.returned (.int .i64 (QH (!c.mts.any λx=>AaW c.tests.length x.m) 21))/\Below w.heap.size w w':=by
 have a:=Lv (Aht C c.mA c.mcap c.mts (λx=>AaW c.tests.length x.m) w (λW=>Row W C 31 c.cells/\CpOk W c/\Below w.heap.size w W) ⟨hr,hc,Below.refl _ _⟩ (λW h=>h.2.1.mrd) (λW h=>h.2.2) (λx j W h=>AjK C c x W h.1 (h.2.1.mok x j)) (by have:=hc.mlen;omega));have d:=Aay hr;have g:=hf.cellv (i:=0) (v:=.func (.func 58) #[] #[.pointer (some ⟨C,0,none⟩)]) rfl;clear hr hc hf;go_enter Tryz.func70,Tryz.ntmps70
 go_wp2_with fail
 refine a.out.mono ?_;rintro e k ⟨rfl,b⟩;clear a d g;go_wp2_with fail
 refine(J5 _ 21 k).mono ?_;rintro e l ⟨rfl,rfl⟩;go_wp2_with fail
 go_ret
 exact⟨rfl,b⟩
theorem Ad0{W:World}{G:Nat}{t:TypeId}{c:CpV}(h:Row W G t c.cells):∀j v,c.sc.cells.toList[j]? =some v->W.cell? ((⟨G,6,none⟩:Addr).add j)=some v:=
 Row.from_ (cur:=c.cells) h 6 (λj v hj=>by
  match j,hj with
  |0,hj|1,hj|2,hj=>exact hj
  |j+3,hj=>simp[Sc.cells]at hj)
def scB (a b:Sc):Bool:=a.alive==b.alive && (a.killed==b.killed && a.timeout==b.timeout)
theorem AiY (C:Nat)(c:CpV)(w:World)(hr:Row w C 31 c.cells)(hc:CpOk w c):
 Calls Tryz.prog 71 #[.pointer (some ⟨C,0,none⟩)] w λe w'=>e=.returned (.int .i64 (QH (scB c.sc (Zf c.muts)) 22))/\Below w.heap.size w w':=by
 obtain⟨S,a⟩:∃S,S=(λW=>Row W C 31 c.cells/\CpOk W c/\Below w.heap.size w W):=⟨_,rfl⟩;have k:St S:=by rw[a];infer_instance
 have g:Hid (∀W,S W->Row W C 31 c.cells):=by show ∀W,_;rw[a];exact λW h=>h.1
 have i:Hid (∀W,S W->CpOk W c):=by show ∀W,_;rw[a];exact λW h=>h.2.1
 have j:Hid (∀W,S W->Below w.heap.size w W):=by show ∀W,_;rw[a];exact λW h=>h.2.2
 have d:S w:=by rw[a];exact⟨hr,hc,Below.refl _ _⟩
 clear a hr hc;go_enter Tryz.func71,Tryz.ntmps71
 go_wp2_with fail
 refine QG S (by kernel_rfl) (by kernel_rfl) (St.drew d) ?_;clear d;(refine Qe rfl ?_ (λW b=>?_) ?_;rotate_left;(focus(go_simp;exact rfl));simp only[Act.put,Qa,Qb,Qc]);(refine QW rfl 29 _ rfl (_) rfl [.int .i64 c.sc.alive,.int .i64 c.sc.killed,.int .i64 c.sc.timeout] _ (λW b=>Ad0 (g.out W b)) Tryz.underlying29 rfl (by kernel_rfl) ?_;simp only[Act.put,Qa,Qb,Qc]);(refine Qe rfl ?_ (λW b=>?_) ?_;rotate_left;(focus(go_simp;exact rfl));simp only[Act.put,Qa,Qb,Qc]);(refine Qe rfl ?_ (λW b=>?_) ?_;rotate_left;(focus(have l:=Aay (g.out W b);go_simp;exact rfl));simp only[Act.put,Qa,Qb,Qc]);(refine QA rfl 72 _ (λW=>by(go_simp;try rfl)) (.agg #[.int .i64 (Zf c.muts).alive,.int .i64 (Zf c.muts).killed,.int .i64 (Zf c.muts).timeout]) (λW b=>Ail c.mA c.mcap c.mts W (i.out W b).mrd (by have:=(i.out W b).mlen;omega)) ?_;simp only[Act.put,Qa,Qb,Qc])
 (refine Qe rfl (.bool (scB c.sc (Zf c.muts))) (λW b=>(by unfold scB;go_simp;repeat(first|rfl|split);all_goals simp[*])) ?_;simp only[Act.put,Qa,Qb,Qc])
 (refine QA rfl 61 _ (λW=>by(go_simp;try rfl)) (.int .i64 (QH (scB c.sc (Zf c.muts)) 22)) (λW b=>((J5 (scB c.sc (Zf c.muts)) 22 W).mono λ_ _ ⟨h1,h2⟩=>⟨h1,h2▸Below.refl _ _⟩)) ?_;simp only[Act.put,Qa,Qb,Qc])
 (refine Qe rfl ?_ (λW b=>?_) ?_;rotate_left;(focus(go_simp;exact rfl));simp only[Act.put,Qa,Qb,Qc]);refine QE λW d=>?_
 go_wp2_with fail
 go_ret
 exact⟨rfl,j.out _ d⟩
noncomputable def QQ (c:CpV):Int:=orL [QH (QP c.p==0) 23,Zk c.p.params c.testsL c.fuel,QH (decide ((c.mts.length:Int)<=2000)) 24,QH (YX c.muts) 20,QH (!c.mts.any λx=> !inP c.p x.m.d) 17,QH (!c.mts.any λx=>AaW c.tests.length x.m) 21,QH (scB c.sc (Zf c.muts)) 22]
theorem AjQ{l:List Int}(h:∀(j:Nat) (x:Int),l[j]? =some x->x=0):orL l=0:=by
 induction l with
 |nil=>rfl
 |cons a l ih=>
  have b:a=0:=h 0 a rfl;rw[orL,if_pos b];exact ih λj x c=>h (j+1) x (by simpa using c)
theorem Jg:∀{l:List Int} {k:Nat} {e:Int},(∀j,j<k->l[j]? =some 0)->l[k]? =some e->e≠0->orL l=e
 |[],_,_,_,h,_=>by simp at h
 |a::l,0,e,_,h,hne=>by
  simp at h
  rw[orL,h,if_neg hne]
 |a::l,k+1,e,hz,h,hne=>by
  have h0:a=0:=by have:=hz 0 (by omega);simpa using this
  rw[orL,if_pos h0]
  exact Jg (k:=k) (λj hj=>by have:=hz (j+1) (by omega);simpa using this) (by simpa using h) hne
theorem Ahb (w:World):(zeroValue 97).run Tryz.prog w=.ok .nilFunc w:=by kernel_rfl
theorem AlZ (w:World):(zeroValue 87).run Tryz.prog w=.ok (.slice none 0 0) w:=by kernel_rfl
theorem AlY (w:World):(zeroValue 104).run Tryz.prog w=.ok (.agg #[.nilFunc,.nilFunc,.nilFunc,.nilFunc,.nilFunc,.nilFunc,.nilFunc]) w:=by kernel_rfl
theorem Xm (c:CpV)(w:World)(hc:CpOk w c):
 Calls Tryz.prog 16 #[.agg c.cells] w λe w'=>e=.returned (.int .i64 (QQ c))/\Below w.heap.size w w':=by
 have Hc:=Lv hc;obtain⟨z,hz⟩:∃z,z=QQ c:=⟨_,rfl⟩;rw[<-hz];have ac:=Lv hz;clear hc hz;go_enter Tryz.func16,Tryz.ntmps16
 go_wp2_with (refine Qx _ _ rfl ?_)
 refine Stop.to ?_;refine Qf rfl 31 _ rfl c.cells rfl ?_;intro C Cw Ch Cr Cb;have l:=(Below.refl w.heap.size w).trans (Cb.mono Ch);have o:=Lv (Hc.out.go l);have Hs:=Lv (Adx c.p o.out.bl Cw o.out.pok);clear Cb Ch Hc;go_wp2_with fail
 go_step3
 go_wp2_with (refine Qn rfl 25 _ rfl ⟨C,0,none⟩ rfl c.p.cells.toList _ (Xn Cr) Tryz.underlying25 rfl (by kernel_rfl) ?_)
 refine Hs.out.mono ?_;rintro e w1 ⟨A,ah,xs,rfl,av,ao,aq,au,af,ar,aw,b2⟩;replace Cr:=Cr.below b2 Cr.lt;replace l:=l.trans (b2.mono l.size);replace o:=Lv (o.out.go b2)
 have ak:K6 (xs.map DlV.d):=by
  by_cases h:QP c.p=0
  ·obtain⟨t,ht⟩:=checkP_ok.1 h;rw[af t ht];exact Ahj _ _
  ·rw[ar h];trivial
 have ap:QP c.p=0->∀d,ES (xs.map DlV.d) d=inP c.p d:=λh d=>by
  obtain⟨t,ht⟩:=checkP_ok.1 h;rw[Bool.eq_iff_iff,Aek,Ajw ht,af t ht]
 obtain⟨es,al⟩:∃es,es=[QH (QP c.p==0) 23,Zk c.p.params c.testsL c.fuel,QH (decide ((c.mts.length:Int)<=2000)) 24,QH (YX c.muts) 20,QH (!c.mts.any λx=> !ES (xs.map DlV.d) x.m.d) 17,QH (!c.mts.any λx=>AaW c.tests.length x.m) 21,QH (scB c.sc (Zf c.muts)) 22]:=⟨_,rfl⟩
 have am:QQ c=orL es:=by
  by_cases h:QP c.p=0
  ·rw[al];unfold QQ;simp only[ap h]
  ·rw[al];unfold QQ;have hu:QH (QP c.p==0) 23=23:=by unfold QH;rw[if_neg (by simpa using h)]
   rw[Jg (k:=0) (e:=23) (λj hj=>by omega) (by rw[hu];rfl) (by omega),Jg (k:=0) (e:=23) (λj hj=>by omega) (by rw[hu];rfl) (by omega)]
 replace ac:=Lv (ac.out.trans am);have ad:=Lv al;have ab:=Lv av;have aa:=Lv au;have ax:=Lv aw;have an:=Lv ak;clear b2 Hs av ao aq au af ar aw ak ap al am;go_wp2_with (refine Qs _ rfl ?_)
 refine Stop.to ?_;refine Qi rfl 87 rfl _ _ (AlZ _) rfl ?_;intro L Lw Lh Lr Lb;go_wp2_with (refine Qk _ _ _ rfl ?_)
 refine Stop.to ?_;refine Qt rfl 87 _ _ rfl L 0 rfl (.slice A xs.length ah) rfl [.slice A xs.length ah] rfl 87 _ #[.slice A xs.length ah] Lr (by kernel_rfl) (by show 0+1<=1;omega) (by simp[Value.oneCell']) rfl ?_;intro Lx Ls Lo;have Lc:=(Lb.mono Lh).trans (Lo.below Lh);clear Lb Lr Lo;replace Cr:=Cr.below Lc Cr.lt;replace ab:=Lv (ab.out.go Lc);replace aa:=Lv (λy hy=>(aa.out y hy).go Lc);replace o:=Lv (o.out.go Lc);replace l:=l.trans (Lc.mono l.size);clear Lc Lh;go_wp2_with (refine Qs _ rfl ?_)
 refine Stop.to ?_;refine Qi rfl 97 rfl _ _ (Ahb _) rfl ?_;intro F Fw Fh Fr Fb;go_wp2_with (refine Qk _ _ _ rfl ?_)
 refine Stop.to ?_;refine Qt rfl 97 _ _ rfl F 0 rfl (.func (.func 56) #[] #[.pointer (some ⟨L,0,none⟩)]) rfl [.func (.func 56) #[] #[.pointer (some ⟨L,0,none⟩)]] rfl 97 _ #[.func (.func 56) #[] #[.pointer (some ⟨L,0,none⟩)]] Fr (by kernel_rfl) (by show 0+1<=1;omega) (by simp[Value.oneCell']) rfl ?_;intro Fx Fs Fo;have Fc:=(Fb.mono Fh).trans (Fo.below Fh);clear Fb Fr Fo;replace Cr:=Cr.below Fc Cr.lt;replace Ls:=Ls.below Fc Ls.lt;replace ab:=Lv (ab.out.go Fc);replace aa:=Lv (λy hy=>(aa.out y hy).go Fc);replace o:=Lv (o.out.go Fc);replace l:=l.trans (Fc.mono l.size);clear Fc Fh;go_wp2_with (refine Qs _ rfl ?_)
 refine Stop.to ?_;refine Qi rfl 97 rfl _ _ (Ahb _) rfl ?_;intro O Ow Oh Or Ob;go_wp2_with (refine Qk _ _ _ rfl ?_)
 refine Stop.to ?_;refine Qt rfl 97 _ _ rfl O 0 rfl (.func (.func 58) #[] #[.pointer (some ⟨C,0,none⟩)]) rfl [.func (.func 58) #[] #[.pointer (some ⟨C,0,none⟩)]] rfl 97 _ #[.func (.func 58) #[] #[.pointer (some ⟨C,0,none⟩)]] Or (by kernel_rfl) (by show 0+1<=1;omega) (by simp[Value.oneCell']) rfl ?_;intro Ox Os Oo;have Oc:=(Ob.mono Oh).trans (Oo.below Oh);clear Ob Or Oo;replace Cr:=Cr.below Oc Cr.lt;replace Ls:=Ls.below Oc Ls.lt;replace Fs:=Fs.below Oc Fs.lt;replace ab:=Lv (ab.out.go Oc);replace aa:=Lv (λy hy=>(aa.out y hy).go Oc);replace o:=Lv (o.out.go Oc);replace l:=l.trans (Oc.mono l.size);clear Oc Oh;go_wp2_with (first|fail| (refine Qs _ rfl ?_))
 refine Stop.to ?_;refine Qi rfl 104 rfl _ _ (AlY _) rfl ?_;intro M Mw Mh Mr Mb;go_wp2_with (refine Qk _ _ _ rfl ?_)
 refine Stop.to ?_;refine Qh rfl 104 _ _ rfl M #[.func (.func 60) #[] #[.pointer (some ⟨C,0,none⟩)],.func (.func 63) #[] #[.pointer (some ⟨C,0,none⟩)],.func (.func 65) #[] #[.pointer (some ⟨C,0,none⟩)],.func (.func 66) #[] #[.pointer (some ⟨C,0,none⟩)],.func (.func 68) #[] #[.pointer (some ⟨C,0,none⟩),.pointer (some ⟨F,0,none⟩)],.func (.func 70) #[] #[.pointer (some ⟨C,0,none⟩),.pointer (some ⟨O,0,none⟩)],.func (.func 71) #[] #[.pointer (some ⟨C,0,none⟩)]] rfl rfl 104 _ Mr (by kernel_rfl) rfl (by simp[Value.oneCell']) ?_;intro Mx Ms Mo;have Mc:=(Mb.mono Mh).trans (Mo.below Mh);clear Mb Mr Mo;replace Cr:=Cr.below Mc Cr.lt;replace Ls:=Ls.below Mc Ls.lt;replace Fs:=Fs.below Mc Fs.lt;replace Os:=Os.below Mc Os.lt;replace ab:=Lv (ab.out.go Mc);replace aa:=Lv (λy hy=>(aa.out y hy).go Mc);replace o:=Lv (o.out.go Mc);replace l:=l.trans (Mc.mono l.size);clear Mc Mh;obtain⟨S,aj⟩:∃S,S=(λW=>(Row W C 31 c.cells/\Row W L 87 #[.slice A xs.length ah]/\Row W F 97 #[.func (.func 56) #[] #[.pointer (some ⟨L,0,none⟩)]]/\Row W O 97 #[.func (.func 58) #[] #[.pointer (some ⟨C,0,none⟩)]])/\(Rd W A (XQ xs)/\(∀y∈xs,DlT W y)/\CpOk W c)/\Below w.heap.size w W):=⟨_,rfl⟩;have ag:St S:=by rw[aj];infer_instance
 have Hs:Hid (∀W,S W->(Row W C 31 c.cells/\Row W L 87 #[.slice A xs.length ah]/\Row W F 97 #[.func (.func 56) #[] #[.pointer (some ⟨L,0,none⟩)]]/\Row W O 97 #[.func (.func 58) #[] #[.pointer (some ⟨C,0,none⟩)]])/\(Rd W A (XQ xs)/\(∀y∈xs,DlT W y)/\CpOk W c)):=by show ∀W,_;rw[aj];exact λW h=>⟨h.1,h.2.1⟩
 have ae:Hid (∀W,S W->Below w.heap.size w W):=by show ∀W,_;rw[aj];exact λW h=>h.2.2
 have b:S Mx:=by rw[aj];exact⟨⟨Cr,Ls,Fs,Os⟩,⟨ab.out,aa.out,o.out⟩,l⟩
 clear aj Cr Ls Fs Os ab aa o l;go_wp2_with fail
 go_step3
 go_wp2_with (refine wpList_load_row rfl 104 _ rfl M rfl 104 #[.func (.func 60) #[] #[.pointer (some ⟨C,0,none⟩)],.func (.func 63) #[] #[.pointer (some ⟨C,0,none⟩)],.func (.func 65) #[] #[.pointer (some ⟨C,0,none⟩)],.func (.func 66) #[] #[.pointer (some ⟨C,0,none⟩)],.func (.func 68) #[] #[.pointer (some ⟨C,0,none⟩),.pointer (some ⟨F,0,none⟩)],.func (.func 70) #[] #[.pointer (some ⟨C,0,none⟩),.pointer (some ⟨O,0,none⟩)],.func (.func 71) #[] #[.pointer (some ⟨C,0,none⟩)]] (0,0) _ Ms Tryz.underlying104 rfl (by kernel_rfl) ?_)
 clear Ms;go_loopw [8,28] (λe i wr=>∃k:Nat,e=.int .i64 0/\i=.int .i64 (k:Int)/\k<=7/\Hid (∀j:Nat,j<k->es[j]? =some 0)/\S wr) (λ_ i _=>7-(intOf i).toNat)
 case atStart=>exact⟨0,rfl,rfl,Nat.zero_le _,Lv (λj hj=>by omega),b⟩
 case round=>
  clear b;obtain⟨k,rfl,rfl,hk,n,b⟩:=hrel;have ay:k=0\/k=1\/k=2\/k=3\/k=4\/k=5\/k=6\/k=7:=by omega
  clear hk;rcases ay with rfl|rfl|rfl|rfl|rfl|rfl|rfl|rfl
  ·skip;have H1:=Lv (AiS C c wr (Hs.out _ b).1.1 (Hs.out _ b).2.2.2);have ai:∀w:World,(Instr.index 104 (.agg #[.func (.func 60) #[] #[.pointer (some ⟨C,0,none⟩)],.func (.func 63) #[] #[.pointer (some ⟨C,0,none⟩)],.func (.func 65) #[] #[.pointer (some ⟨C,0,none⟩)],.func (.func 66) #[] #[.pointer (some ⟨C,0,none⟩)],.func (.func 68) #[] #[.pointer (some ⟨C,0,none⟩),.pointer (some ⟨F,0,none⟩)],.func (.func 70) #[] #[.pointer (some ⟨C,0,none⟩),.pointer (some ⟨O,0,none⟩)],.func (.func 71) #[] #[.pointer (some ⟨C,0,none⟩)]]) (.int .i64 0)).run Tryz.prog w=.ok (.func (.func 60) #[] #[.pointer (some ⟨C,0,none⟩)]) w:=λ_=>by kernel_rfl
   go_wp2_with fail
   refine H1.out.mono ?_;rintro e w' ⟨rfl,l⟩;replace b:=ag.go b l;clear H1 l;obtain⟨v,hv⟩:∃v,v=QH (QP c.p==0) 23:=⟨_,rfl⟩;have a:es[0]? =some v:=by rw[ad.out,hv];rfl
   rw[<-hv];clear hv;by_cases g:v=0
   ·have s:(v != 0)=false:=by simp[g]
    have q:Hid (∀j:Nat,j<0+1->es[j]? =some 0):=λj hj=>by
     by_cases u:j<0
     ·exact n.out j u
     ·obtain rfl:j=0:=by omega
      rw[a,g]
    subst g;clear a n;go_wp2_with fail
    exact⟨⟨0+1,by simp,by simp,by omega,q,b⟩,by simp[intOf]⟩
   ·have s:(v != 0)=true:=by simpa using g
    have Hf:Hid (orL es=v):=Jg n.out a g;clear a g n;go_wp2_with fail
    try rw[Exit.noGoto_ret]
    go_ret
    exact⟨QT (ac.out.trans Hf.out).symm,ae.out _ b⟩
  ·skip;have H1:=Lv (AiT C c wr (Hs.out _ b).1.1 (Hs.out _ b).2.2.2);have ai:∀w:World,(Instr.index 104 (.agg #[.func (.func 60) #[] #[.pointer (some ⟨C,0,none⟩)],.func (.func 63) #[] #[.pointer (some ⟨C,0,none⟩)],.func (.func 65) #[] #[.pointer (some ⟨C,0,none⟩)],.func (.func 66) #[] #[.pointer (some ⟨C,0,none⟩)],.func (.func 68) #[] #[.pointer (some ⟨C,0,none⟩),.pointer (some ⟨F,0,none⟩)],.func (.func 70) #[] #[.pointer (some ⟨C,0,none⟩),.pointer (some ⟨O,0,none⟩)],.func (.func 71) #[] #[.pointer (some ⟨C,0,none⟩)]]) (.int .i64 1)).run Tryz.prog w=.ok (.func (.func 63) #[] #[.pointer (some ⟨C,0,none⟩)]) w:=λ_=>by kernel_rfl
   go_wp2_with fail
   refine H1.out.mono ?_;rintro e w' ⟨rfl,l⟩;replace b:=ag.go b l;clear H1 l;obtain⟨v,hv⟩:∃v,v=Zk c.p.params c.testsL c.fuel:=⟨_,rfl⟩;have a:es[1]? =some v:=by rw[ad.out,hv];rfl
   rw[<-hv];clear hv;by_cases g:v=0
   ·have s:(v != 0)=false:=by simp[g]
    have q:Hid (∀j:Nat,j<1+1->es[j]? =some 0):=λj hj=>by
     by_cases u:j<1
     ·exact n.out j u
     ·obtain rfl:j=1:=by omega
      rw[a,g]
    subst g;clear a n;go_wp2_with fail
    exact⟨⟨1+1,by simp,by simp,by omega,q,b⟩,by simp[intOf]⟩
   ·have s:(v != 0)=true:=by simpa using g
    have Hf:Hid (orL es=v):=Jg n.out a g;clear a g n;go_wp2_with fail
    try rw[Exit.noGoto_ret]
    go_ret
    exact⟨QT (ac.out.trans Hf.out).symm,ae.out _ b⟩
  ·skip;have H1:=Lv (AiU C c wr (Hs.out _ b).1.1);have ai:∀w:World,(Instr.index 104 (.agg #[.func (.func 60) #[] #[.pointer (some ⟨C,0,none⟩)],.func (.func 63) #[] #[.pointer (some ⟨C,0,none⟩)],.func (.func 65) #[] #[.pointer (some ⟨C,0,none⟩)],.func (.func 66) #[] #[.pointer (some ⟨C,0,none⟩)],.func (.func 68) #[] #[.pointer (some ⟨C,0,none⟩),.pointer (some ⟨F,0,none⟩)],.func (.func 70) #[] #[.pointer (some ⟨C,0,none⟩),.pointer (some ⟨O,0,none⟩)],.func (.func 71) #[] #[.pointer (some ⟨C,0,none⟩)]]) (.int .i64 2)).run Tryz.prog w=.ok (.func (.func 65) #[] #[.pointer (some ⟨C,0,none⟩)]) w:=λ_=>by kernel_rfl
   go_wp2_with fail
   refine H1.out.mono ?_;rintro e w' ⟨rfl,l⟩;replace b:=ag.go b l;clear H1 l;obtain⟨v,hv⟩:∃v,v=QH (decide ((c.mts.length:Int)<=2000)) 24:=⟨_,rfl⟩;have a:es[2]? =some v:=by rw[ad.out,hv];rfl
   rw[<-hv];clear hv;by_cases g:v=0
   ·have s:(v != 0)=false:=by simp[g]
    have q:Hid (∀j:Nat,j<2+1->es[j]? =some 0):=λj hj=>by
     by_cases u:j<2
     ·exact n.out j u
     ·obtain rfl:j=2:=by omega
      rw[a,g]
    subst g;clear a n;go_wp2_with fail
    exact⟨⟨2+1,by simp,by simp,by omega,q,b⟩,by simp[intOf]⟩
   ·have s:(v != 0)=true:=by simpa using g
    have Hf:Hid (orL es=v):=Jg n.out a g;clear a g n;go_wp2_with fail
    try rw[Exit.noGoto_ret]
    go_ret
    exact⟨QT (ac.out.trans Hf.out).symm,ae.out _ b⟩
  ·skip;have H1:=Lv (AiV C c wr (Hs.out _ b).1.1 (Hs.out _ b).2.2.2);have ai:∀w:World,(Instr.index 104 (.agg #[.func (.func 60) #[] #[.pointer (some ⟨C,0,none⟩)],.func (.func 63) #[] #[.pointer (some ⟨C,0,none⟩)],.func (.func 65) #[] #[.pointer (some ⟨C,0,none⟩)],.func (.func 66) #[] #[.pointer (some ⟨C,0,none⟩)],.func (.func 68) #[] #[.pointer (some ⟨C,0,none⟩),.pointer (some ⟨F,0,none⟩)],.func (.func 70) #[] #[.pointer (some ⟨C,0,none⟩),.pointer (some ⟨O,0,none⟩)],.func (.func 71) #[] #[.pointer (some ⟨C,0,none⟩)]]) (.int .i64 3)).run Tryz.prog w=.ok (.func (.func 66) #[] #[.pointer (some ⟨C,0,none⟩)]) w:=λ_=>by kernel_rfl
   go_wp2_with fail
   refine H1.out.mono ?_;rintro e w' ⟨rfl,l⟩;replace b:=ag.go b l;clear H1 l;obtain⟨v,hv⟩:∃v,v=QH (YX c.muts) 20:=⟨_,rfl⟩;have a:es[3]? =some v:=by rw[ad.out,hv];rfl
   rw[<-hv];clear hv;by_cases g:v=0
   ·have s:(v != 0)=false:=by simp[g]
    have q:Hid (∀j:Nat,j<3+1->es[j]? =some 0):=λj hj=>by
     by_cases u:j<3
     ·exact n.out j u
     ·obtain rfl:j=3:=by omega
      rw[a,g]
    subst g;clear a n;go_wp2_with fail
    exact⟨⟨3+1,by simp,by simp,by omega,q,b⟩,by simp[intOf]⟩
   ·have s:(v != 0)=true:=by simpa using g
    have Hf:Hid (orL es=v):=Jg n.out a g;clear a g n;go_wp2_with fail
    try rw[Exit.noGoto_ret]
    go_ret
    exact⟨QT (ac.out.trans Hf.out).symm,ae.out _ b⟩
  ·skip;have H1:=Lv (AiW C F L c A ah xs wr (Hs.out _ b).1.1 (Hs.out _ b).2.2.2 (Hs.out _ b).1.2.2.1 (Hs.out _ b).1.2.1 (Hs.out _ b).2.1 (by have:=ax.out;omega) (Hs.out _ b).2.2.1 an.out);have ai:∀w:World,(Instr.index 104 (.agg #[.func (.func 60) #[] #[.pointer (some ⟨C,0,none⟩)],.func (.func 63) #[] #[.pointer (some ⟨C,0,none⟩)],.func (.func 65) #[] #[.pointer (some ⟨C,0,none⟩)],.func (.func 66) #[] #[.pointer (some ⟨C,0,none⟩)],.func (.func 68) #[] #[.pointer (some ⟨C,0,none⟩),.pointer (some ⟨F,0,none⟩)],.func (.func 70) #[] #[.pointer (some ⟨C,0,none⟩),.pointer (some ⟨O,0,none⟩)],.func (.func 71) #[] #[.pointer (some ⟨C,0,none⟩)]]) (.int .i64 4)).run Tryz.prog w=.ok (.func (.func 68) #[] #[.pointer (some ⟨C,0,none⟩),.pointer (some ⟨F,0,none⟩)]) w:=λ_=>by kernel_rfl
   go_wp2_with fail
   refine H1.out.mono ?_;rintro e w' ⟨rfl,l⟩;replace b:=ag.go b l;clear H1 l;obtain⟨v,hv⟩:∃v,v=QH (!c.mts.any λx=> !ES (xs.map DlV.d) x.m.d) 17:=⟨_,rfl⟩;have a:es[4]? =some v:=by rw[ad.out,hv];rfl
   rw[<-hv];clear hv;by_cases g:v=0
   ·have s:(v != 0)=false:=by simp[g]
    have q:Hid (∀j:Nat,j<4+1->es[j]? =some 0):=λj hj=>by
     by_cases u:j<4
     ·exact n.out j u
     ·obtain rfl:j=4:=by omega
      rw[a,g]
    subst g;clear a n;go_wp2_with fail
    exact⟨⟨4+1,by simp,by simp,by omega,q,b⟩,by simp[intOf]⟩
   ·have s:(v != 0)=true:=by simpa using g
    have Hf:Hid (orL es=v):=Jg n.out a g;clear a g n;go_wp2_with fail
    try rw[Exit.noGoto_ret]
    go_ret
    exact⟨QT (ac.out.trans Hf.out).symm,ae.out _ b⟩
  ·skip;have H1:=Lv (AiX C O c wr (Hs.out _ b).1.1 (Hs.out _ b).2.2.2 (Hs.out _ b).1.2.2.2);have ai:∀w:World,(Instr.index 104 (.agg #[.func (.func 60) #[] #[.pointer (some ⟨C,0,none⟩)],.func (.func 63) #[] #[.pointer (some ⟨C,0,none⟩)],.func (.func 65) #[] #[.pointer (some ⟨C,0,none⟩)],.func (.func 66) #[] #[.pointer (some ⟨C,0,none⟩)],.func (.func 68) #[] #[.pointer (some ⟨C,0,none⟩),.pointer (some ⟨F,0,none⟩)],.func (.func 70) #[] #[.pointer (some ⟨C,0,none⟩),.pointer (some ⟨O,0,none⟩)],.func (.func 71) #[] #[.pointer (some ⟨C,0,none⟩)]]) (.int .i64 5)).run Tryz.prog w=.ok (.func (.func 70) #[] #[.pointer (some ⟨C,0,none⟩),.pointer (some ⟨O,0,none⟩)]) w:=λ_=>by kernel_rfl
   go_wp2_with fail
   refine H1.out.mono ?_;rintro e w' ⟨rfl,l⟩;replace b:=ag.go b l;clear H1 l;obtain⟨v,hv⟩:∃v,v=QH (!c.mts.any λx=>AaW c.tests.length x.m) 21:=⟨_,rfl⟩;have a:es[5]? =some v:=by rw[ad.out,hv];rfl
   rw[<-hv];clear hv;by_cases g:v=0
   ·have s:(v != 0)=false:=by simp[g]
    have q:Hid (∀j:Nat,j<5+1->es[j]? =some 0):=λj hj=>by
     by_cases u:j<5
     ·exact n.out j u
     ·obtain rfl:j=5:=by omega
      rw[a,g]
    subst g;clear a n;go_wp2_with fail
    exact⟨⟨5+1,by simp,by simp,by omega,q,b⟩,by simp[intOf]⟩
   ·have s:(v != 0)=true:=by simpa using g
    have Hf:Hid (orL es=v):=Jg n.out a g;clear a g n;go_wp2_with fail
    try rw[Exit.noGoto_ret]
    go_ret
    exact⟨QT (ac.out.trans Hf.out).symm,ae.out _ b⟩
  ·skip;have H1:=Lv (AiY C c wr (Hs.out _ b).1.1 (Hs.out _ b).2.2.2);have ai:∀w:World,(Instr.index 104 (.agg #[.func (.func 60) #[] #[.pointer (some ⟨C,0,none⟩)],.func (.func 63) #[] #[.pointer (some ⟨C,0,none⟩)],.func (.func 65) #[] #[.pointer (some ⟨C,0,none⟩)],.func (.func 66) #[] #[.pointer (some ⟨C,0,none⟩)],.func (.func 68) #[] #[.pointer (some ⟨C,0,none⟩),.pointer (some ⟨F,0,none⟩)],.func (.func 70) #[] #[.pointer (some ⟨C,0,none⟩),.pointer (some ⟨O,0,none⟩)],.func (.func 71) #[] #[.pointer (some ⟨C,0,none⟩)]]) (.int .i64 6)).run Tryz.prog w=.ok (.func (.func 71) #[] #[.pointer (some ⟨C,0,none⟩)]) w:=λ_=>by kernel_rfl
   go_wp2_with fail
   refine H1.out.mono ?_;rintro e w' ⟨rfl,l⟩;replace b:=ag.go b l;clear H1 l;obtain⟨v,hv⟩:∃v,v=QH (scB c.sc (Zf c.muts)) 22:=⟨_,rfl⟩;have a:es[6]? =some v:=by rw[ad.out,hv];rfl
   rw[<-hv];clear hv;by_cases g:v=0
   ·have s:(v != 0)=false:=by simp[g]
    have q:Hid (∀j:Nat,j<6+1->es[j]? =some 0):=λj hj=>by
     by_cases u:j<6
     ·exact n.out j u
     ·obtain rfl:j=6:=by omega
      rw[a,g]
    subst g;clear a n;go_wp2_with fail
    exact⟨⟨6+1,by simp,by simp,by omega,q,b⟩,by simp[intOf]⟩
   ·have s:(v != 0)=true:=by simpa using g
    have Hf:Hid (orL es=v):=Jg n.out a g;clear a g n;go_wp2_with fail
    try rw[Exit.noGoto_ret]
    go_ret
    exact⟨QT (ac.out.trans Hf.out).symm,ae.out _ b⟩
  ·have Hf:Hid (orL es=0):=AjQ λj x hx=>by
     have hl:j<7:=by have:=(Lf.1 hx).1;rw[ad.out]at this;exact this
     have:=n.out j hl;rw[hx]at this;injection this
   clear n;go_wp2_with fail
   try rw[Exit.noGoto_ret]
   go_ret
   exact⟨QT (ac.out.trans Hf.out).symm,ae.out _ b⟩
end Go.Proofs.YtgnmkiafeplbpaaGreatDoor
