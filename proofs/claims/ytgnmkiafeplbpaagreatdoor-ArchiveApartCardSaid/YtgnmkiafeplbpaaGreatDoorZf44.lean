/- Lemmas for ArAll. -/
import Derived.Test.YtgnmkiafeplbpaaGreatDoorZf1
import Derived.Test.YtgnmkiafeplbpaaGreatDoorZf43
import Derived.Test.YtgnmkiafeplbpaaGreatDoorZf22
set_option linter.unusedVariables false
set_option linter.unusedSimpArgs false
set_option maxRecDepth 100000
set_option maxHeartbeats 16000000
namespace Go.Proofs.YtgnmkiafeplbpaaGreatDoor
open Go.RowKit Go.Deep
theorem XL (t:ByteArray)(w:World)(hg:ErrG w):Calls Tryz.prog 6 #[.string t] w λe w'=>e=.returned (.bool true)/\Below w.heap.size w w':=by
 obtain⟨s,rfl⟩:∃l:List UInt8,t=⟨l.toArray⟩:=⟨t.data.toList,by cases t;simp⟩;have ak:(⟨s.toArray⟩:ByteArray).size=s.length:=by simp[ByteArray.size]
 go_enter Tryz.func6,Tryz.ntmps6
 obtain⟨S0,af,h,g,aa⟩:=Yv (w:=w) (λW=>Below w.heap.size w W) (λW=>ErrG W) (Below.refl _ _) (hg);clear hg;go_wp2_with fail
 refine(Y2 w (aa.out _ h.out)).mono ?_;rintro e ai ⟨rfl,u⟩;have a:=af.go h.out (u);replace h:=Lv a;clear a u;by_cases hs:4000<(s.length:Int)
 ·skip;go_wp2_with fail
  go_ret
  exact⟨rfl,(g.out _ h.out)⟩
 ·skip;have Hl:Hid (s.length<=900000):=by show _<=_;omega
  go_wp2_with fail
  refine(KO s Hl.out ai (aa.out _ h.out)).mono ?_;rintro e v ⟨d,n⟩;have ad:=n.e;have Hm:Hid (d.data=(ZF s).1):=n.m;obtain⟨⟨x,z⟩,hz⟩:∃p,p=ZF s:=⟨_,rfl⟩;rw[<-hz]at ad Hm;have Hz:=Lv hz;clear hz;subst ad;have a:=af.go h.out (n.b);obtain⟨S1,ah,ab,D1,k⟩:=Yv (w:=v) S0 (λW=>CpOk W d) a (n.ok);clear a h n;go_wp2_with (refine Qs _ rfl ?_)
  refine Stop.to ?_;refine Qi rfl 31 rfl _ _ (VK _) rfl ?_;intro j ao hG rG bG;go_wp2_with (refine Qk _ _ _ rfl ?_)
  refine Stop.to ?_;refine Qh rfl 31 _ _ rfl j d.cells rfl rfl 31 _ rG (by kernel_rfl) rfl (by simp[Value.oneCell',CpV.cells]) ?_;intro o rH oH;have bH:Below (v).heap.size v o:=(bG.mono hG).trans (oH.below hG);have a:=ah.go ab.out (bH);obtain⟨S2,ag,c,D2,q⟩:=Yv (w:=o) S1 (λW=>Row W j 31 d.cells) a (rH);clear a ab hG rG bG rH oH bH;by_cases y:z≠0
  ·skip;have hm:d.data=J7:=Hm.out.trans (by have:=Ak4 (s:=s) (by rw[<-Hz.out];exact y);rw[<-Hz.out]at this;exact this);have an:(z != 0)=true:=by simpa using y
   have ac:d.p.body.length=0:=by have:d.p.body=[]:=congrArg Cd.body hm;rw[this];rfl
   have ae:d.mts.length=0:=by have:d.muts=[]:=congrArg Cd.muts hm;have:=congrArg List.length this;simpa[CpV.muts]using this
   have al:(o).cell? ⟨j,2,none⟩=some (.slice d.p.ba 0 d.p.bcap):=by rw[<-ac];exact Row.cellv (q.out _ c.out) (i:=2) rfl
   have am:(o).cell? ⟨j,5,none⟩=some (.slice d.mA 0 d.mcap):=by rw[<-ae];exact Row.cellv (q.out _ c.out) (i:=5) rfl
   clear hm ac ae y;go_wp2_with fail
   go_ret
   exact⟨rfl,(g.out _ (D1.out _ (D2.out _ c.out)))⟩
  ·skip;have y:z=0:=Decidable.not_not.1 y;subst y;obtain⟨h1,h2,h3⟩:=Alc (x:=d.data) (s:=s) (by rw[<-Hz.out,Hm.out]);have He:=Lv h3;have Hi:=Lv h2;have Hk:=Lv (show QQ d=0 by rw[<-Jd];exact h1);clear h1 h2 h3;go_wp2_with (refine wpList_load_row rfl 31 _ rfl j rfl 31 d.cells (0,0) _ (q.out _ c.out) Tryz.underlying31 rfl (by kernel_rfl) ?_)
   refine(Z1 d o (k.out _ (D2.out _ c.out)) Hi.out).mono ?_;rintro e aj ⟨rfl,u⟩;rw[He.out];dsimp only;have a:=ag.go c.out (u);replace c:=Lv a;clear a u;go_wp2_with (refine Zl (by kernel_rfl) 31 _ rfl j rfl 31 d.cells (0,0) _ (q.out _ c.out) Tryz.underlying31 rfl (by kernel_rfl) ?_)
   refine(Xm d aj (k.out _ (D2.out _ c.out))).mono ?_;rintro e ap ⟨rfl,u⟩;rw[Hk.out];have a:=ag.go c.out (u);replace c:=Lv a;clear a u;go_wp2_with fail
   go_ret
   exact⟨rfl,(g.out _ (D1.out _ (D2.out _ c.out)))⟩
theorem Xj (a b:CpV)(w:World)(hg:ErrG w)(ha:CpRaw w a/\CpIn a)(hb:CpRaw w b/\CpIn b):Calls Tryz.prog 8 #[.agg a.cells,.agg b.cells] w λe w'=>e=.returned (.bool true)/\Below w.heap.size w w':=by
 go_enter Tryz.func8,Tryz.ntmps8
 obtain⟨S0,ao,aa,g,ah,u,v⟩:=Ana (w:=w) (λW=>Below w.heap.size w W) (λW=>ErrG W) (λW=>CpRaw W a) (λW=>CpRaw W b) (Below.refl _ _) (hg) (ha.1) (hb.1);have al:=Lv ha.2;have am:=Lv hb.2;clear ha hb hg;go_wp2_with (refine Qx _ _ rfl ?_)
 refine Stop.to ?_;refine Qf rfl 31 _ rfl a.cells rfl ?_;intro q aq hG rG bG;have c:=ao.go aa.out (bG.mono hG);obtain⟨S1,ap,ab,o,x⟩:=Yv (w:=aq) S0 (λW=>Row W q 31 a.cells) c (rG);clear c aa hG rG bG;go_wp2_with (refine Qx _ _ rfl ?_)
 refine Stop.to ?_;refine Qf rfl 31 _ rfl b.cells rfl ?_;intro s ag hG rG bG;have c:=ap.go ab.out (bG.mono hG);obtain⟨S2,m,d,l,y⟩:=Yv (w:=ag) S1 (λW=>Row W s 31 b.cells) c (rG);clear c ab hG rG bG;go_wp2_with fail
 refine(Y2 ag (ah.out _ (o.out _ (l.out _ d.out)))).mono ?_;rintro e ar ⟨rfl,i⟩;have c:=m.go d.out (i);replace d:=Lv c;clear c i;go_wp2_with (refine wpList_load_row rfl 31 _ rfl q rfl 31 a.cells (0,0) _ (x.out _ (l.out _ d.out)) Tryz.underlying31 rfl (by kernel_rfl) ?_)
 refine(AaD a ar (u.out _ (o.out _ (l.out _ d.out)))).mono ?_;rintro e au ⟨rfl,i⟩;generalize hq:AbH a=qa;have ai:=Lv hq;clear hq;have c:=m.go d.out (i);replace d:=Lv c;clear c i;cases qa
 ·skip;go_wp2_with fail
  go_ret
  exact⟨rfl,(g.out _ (o.out _ (l.out _ d.out)))⟩
 ·skip;go_wp2_with (refine Zl (by kernel_rfl) 31 _ rfl s rfl 31 b.cells (0,0) _ (y.out _ d.out) Tryz.underlying31 rfl (by kernel_rfl) ?_)
  refine(AaD b au (v.out _ (o.out _ (l.out _ d.out)))).mono ?_;rintro e av ⟨rfl,i⟩;generalize hq:AbH b=qb;have aj:=Lv hq;clear hq;have c:=m.go d.out (i);replace d:=Lv c;clear c i;cases qb
  ·skip;go_wp2_with fail
   go_ret
   exact⟨rfl,(g.out _ (o.out _ (l.out _ d.out)))⟩
  ·skip;have j:Hid (∀W,S2 W->CpOk W a):=by show ∀W,_;exact λW hW=>((u.out _ (o.out _ (l.out _ hW)))).ok ai.out
   have ac:Hid (IntD a.data):=Adf (j.out _ d.out) al.out;have k:Hid (∀W,S2 W->CpOk W b):=by show ∀W,_;exact λW hW=>((v.out _ (o.out _ (l.out _ hW)))).ok aj.out
   have ad:Hid (IntD b.data):=Adf (k.out _ d.out) am.out;go_wp2_with (refine wpList_load_row rfl 31 _ rfl q rfl 31 a.cells (0,0) _ (x.out _ (l.out _ d.out)) Tryz.underlying31 rfl (by kernel_rfl) ?_)
   refine(Z1 a av (j.out _ d.out) ac.out).mono ?_;rintro e aw ⟨rfl,i⟩;obtain⟨⟨sa,ea⟩,z⟩:∃p,p=Jn a.data:=⟨_,rfl⟩;rw[<-z];have ae:=Lv z;clear z;dsimp only;have c:=m.go d.out (i);replace d:=Lv c;clear c i;go_wp2_with (refine wpList_load_row rfl 31 _ rfl s rfl 31 b.cells (0,0) _ (y.out _ d.out) Tryz.underlying31 rfl (by kernel_rfl) ?_)
   refine(Z1 b aw (k.out _ d.out) ad.out).mono ?_;rintro e ax ⟨rfl,i⟩;obtain⟨⟨sb,eb⟩,z⟩:∃p,p=Jn b.data:=⟨_,rfl⟩;rw[<-z];have af:=Lv z;clear z;dsimp only;have c:=m.go d.out (i);replace d:=Lv c;clear c i;by_cases n:ea≠0
   ·skip;have an:(ea != 0)=true:=by simpa using n
    go_wp2_with fail
    go_ret
    exact⟨rfl,(g.out _ (o.out _ (l.out _ d.out)))⟩
   ·skip;have az:(ea != 0)=false:=by simp[Decidable.not_not.1 n]
    by_cases t:eb≠0
    ·skip;have an:(eb != 0)=true:=by simpa using t
     go_wp2_with fail
     go_ret
     exact⟨rfl,(g.out _ (o.out _ (l.out _ d.out)))⟩
    ·skip;have n:ea=0:=Decidable.not_not.1 n;have t:eb=0:=Decidable.not_not.1 t;subst n;subst t
     have ak:Hid (JE a b=(sa==sb)):=by
      show _=_;rw[Bool.eq_iff_iff,sameC_iff,beq_iff_eq];constructor
      ·intro h;have h1:=ae.out;rw[h, <-af.out]at h1;injection h1
      ·intro h;exact AhD ac.out ad.out ae.out.symm (by rw[h];exact af.out.symm)
     go_wp2_with (first| (refine Zl (by kernel_rfl) 31 _ rfl q rfl 31 a.cells (0,0) _ (x.out _ (l.out _ d.out)) Tryz.underlying31 rfl (by kernel_rfl) ?_)| (refine Zl (by kernel_rfl) 31 _ rfl s rfl 31 b.cells (0,0) _ (y.out _ d.out) Tryz.underlying31 rfl (by kernel_rfl) ?_))
     refine(Afv a b ax (j.out _ d.out) (k.out _ d.out)).mono ?_;rintro e ay ⟨rfl,i⟩;rw[ak.out];have c:=m.go d.out (i);replace d:=Lv c;clear c i;go_wp2_with fail
     go_ret
     exact⟨rfl,(g.out _ (o.out _ (l.out _ d.out)))⟩
end Go.Proofs.YtgnmkiafeplbpaaGreatDoor
