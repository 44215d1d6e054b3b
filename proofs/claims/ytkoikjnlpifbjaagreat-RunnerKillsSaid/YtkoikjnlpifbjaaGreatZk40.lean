/- Lemmas for RunnerKillsP. -/
import Derived.Test.YtkoikjnlpifbjaaGreatZk1
import Derived.Test.YtkoikjnlpifbjaaGreatZk39
set_option linter.unusedVariables false
set_option linter.unusedSimpArgs false
set_option maxRecDepth 100000
set_option maxHeartbeats 16000000
namespace Go.Proofs.YtkoikjnlpifbjaaGreat
open Go.RowKit Go.Deep
theorem Ym (A:Option Addr)(n c:Nat)(i:Int)(w:World):Calls Tryz.prog 270 #[.slice A n c,.int .i64 i] w λe w'=>e=.returned (.bool (decide (0<=i/\i<(n:Int))))/\w=w':=by
 by_cases d:0<=i
 ·by_cases g:i<(n:Int)
  ·go_enter Tryz.func270,Tryz.ntmps270
   go_wp2
   go_ret
   exact⟨Kg (by simp;omega),rfl⟩
  ·go_enter Tryz.func270,Tryz.ntmps270
   go_wp2
   go_ret
   exact⟨Kg (by simp;omega),rfl⟩
 ·go_enter Tryz.func270,Tryz.ntmps270
  go_wp2
  go_ret
  exact⟨Kg (by simp;omega),rfl⟩
theorem Ahd (A:Addr)(n c i:Nat)(v:Int)(w:World)(hi:i<n)(hc:w.cell? (A.add i)=some (.int .i64 v)):Calls Tryz.prog 269 #[.slice (some A) n c,.int .i64 (i:Int)] w λe w'=>e=.returned (.tuple #[.int .i64 v,.bool true])/\w=w':=by
 have d:decide (0<=(i:Int)/\(i:Int)<(n:Int))=true:=by simp;omega
 have g:(i:Int)<(n:Int):=by omega
 go_enter Tryz.func269,Tryz.ntmps269
 go_wp2_with fail
 refine(Ym (some A) n c (i:Int) w).mono ?_;rintro e w' ⟨rfl,rfl⟩;rw[d];clear d hi;go_wp2
 go_ret2
 exact⟨rfl,rfl⟩
theorem Ahc (A:Option Addr)(n c:Nat)(i:Int)(w:World)(hi:i<0\/(n:Int)<=i):Calls Tryz.prog 269 #[.slice A n c,.int .i64 i] w λe w'=>e=.returned (.tuple #[.int .i64 0,.bool false])/\w=w':=by
 have d:decide (0<=i/\i<(n:Int))=false:=by simp;omega
 go_enter Tryz.func269,Tryz.ntmps269
 go_wp2_with fail
 refine(Ym A n c i w).mono ?_;rintro e w' ⟨rfl,rfl⟩;rw[d];clear d hi;go_wp2
 go_ret2
 exact⟨rfl,rfl⟩
theorem Ahf (A:Option Addr)(n c:Nat)(i v:Int)(w:World)(hi:i<0\/(n:Int)<=i):Calls Tryz.prog 271 #[.slice A n c,.int .i64 i,.int .i64 v] w λe w'=>e=.returned (.bool false)/\w=w':=by
 have d:decide (0<=i/\i<(n:Int))=false:=by simp;omega
 go_enter Tryz.func271,Tryz.ntmps271
 go_wp2_with fail
 refine(Ym A n c i w).mono ?_;rintro e w' ⟨rfl,rfl⟩;rw[d];clear d hi;go_wp2
 go_ret
 exact⟨rfl,rfl⟩
theorem Ahg (g n c i:Nat)(v:Int)(cur:Array Value)(w:World)(hi:i<n)(hn:n<=cur.size)(hr:Row w g 3 cur):Calls Tryz.prog 271 #[.slice (some ⟨g,0,none⟩) n c,.int .i64 (i:Int),.int .i64 v] w λe w'=>e=.returned (.bool true)/\Only g w w'/\Row w' g 3 (cur.setIfInBounds i (.int .i64 v)):=by
 have h:decide (0<=(i:Int)/\(i:Int)<(n:Int))=true:=by simp;omega
 have l:(i:Int)<(n:Int):=by omega
 have d:=Ad2 cur i (.int .i64 v) (by omega);have k:=Lh hr;clear hr;go_enter Tryz.func271,Tryz.ntmps271
 go_wp2_with fail
 refine(Ym (some ⟨g,0,none⟩) n c (i:Int) w).mono ?_;rintro e w' ⟨rfl,rfl⟩;rw[h];have j:=Lh hi;clear h hi;go_wp2_with (refine Qs _ _ _ rfl ?_)
 refine Stop.to ?_;refine Qm rfl 3 _ _ rfl g i rfl _ rfl [.int .i64 v] rfl 3 _ _ k.out (by kernel_rfl) (by have:=j.out;simp;omega) (by simp[Value.oneCell']) d ?_;intro p o m;go_wp2
 go_ret
 exact⟨rfl,m,o⟩
theorem AaT (g:Nat)(i v:Int)(w:World)(hc:w.cell? ⟨g,0,none⟩=some (.int .i64 v)):Calls Tryz.prog 272 #[.agg #[.pointer (some ⟨g,0,none⟩)],.int .i64 i] w λe w'=>e=.returned (.tuple #[.int .i64 v,.bool true])/\Below w.heap.size w w':=by
 go_enter Tryz.func272,Tryz.ntmps272
 go_wp2_with (refine Qq _ _ rfl ?_)
 refine Stop.to ?_;refine Qe rfl 163 _ rfl #[.pointer (some ⟨g,0,none⟩)] rfl ?_;intro G m j k h;have d:=h.mono j;have n:=k.cellv (i:=0) (v:=.pointer (some ⟨g,0,none⟩)) rfl;have c:=World.block_lt_of_cell? _ _ hc;have o:m.cell? ⟨g,0,none⟩=some (.int .i64 v):=(d.cell c).trans hc;have l:=Lh d;clear k h j hc c d;go_wp2
 go_ret2
 exact⟨rfl,l.out⟩
theorem Ua (g:Nat)(i v u:Int)(w:World)(hr:Row w g 3 #[.int .i64 u]):Calls Tryz.prog 273 #[.agg #[.pointer (some ⟨g,0,none⟩)],.int .i64 i,.int .i64 v] w λe w'=>e=.returned (.bool true)/\∃w1,Below w.heap.size w w1/\Only g w1 w'/\Row w' g 3 #[.int .i64 v]:=by
 have d:=Lh hr;clear hr;go_enter Tryz.func273,Tryz.ntmps273
 go_wp2_with (refine Qq _ _ rfl ?_)
 refine Stop.to ?_;refine Qe rfl 163 _ rfl #[.pointer (some ⟨g,0,none⟩)] rfl ?_;intro G w1 j k h;have c:=h.mono j;have n:=k.cellv (i:=0) (v:=.pointer (some ⟨g,0,none⟩)) rfl;have m:=Lh (d.out.below c d.out.lt);have l:=Lh c;clear k h j c;go_wp2_with (refine Qs _ _ _ rfl ?_)
 refine Stop.to ?_;refine Qm rfl 3 _ _ rfl g 0 rfl _ rfl [.int .i64 v] rfl 3 _ #[.int .i64 v] m.out (by kernel_rfl) (by simp) (by simp[Value.oneCell']) rfl ?_;intro q p o;clear n;go_wp2
 go_ret
 exact⟨rfl,w1,l.out,o,p⟩
section
variable {g n c:Nat}
theorem Af3 (f:Nat)(w:World):(method (f+1) 157 (.slice (some ⟨g,0,none⟩) n c) "offshoot/direct.get").run Tryz.prog w=.ok (269,.slice (some ⟨g,0,none⟩) n c) w:=by kernel_rfl
theorem Af4 (f:Nat)(w:World):(method (f+1) 157 (.slice (some ⟨g,0,none⟩) n c) "offshoot/direct.set").run Tryz.prog w=.ok (271,.slice (some ⟨g,0,none⟩) n c) w:=by kernel_rfl
theorem Aj5 (f:Nat)(w:World):(method (f+1) 163 (.agg #[.pointer (some ⟨g,0,none⟩)]) "offshoot/direct.get").run Tryz.prog w=.ok (272,.agg #[.pointer (some ⟨g,0,none⟩)]) w:=by kernel_rfl
theorem Af5 (f:Nat)(w:World):(method (f+1) 163 (.agg #[.pointer (some ⟨g,0,none⟩)]) "offshoot/direct.set").run Tryz.prog w=.ok (273,.agg #[.pointer (some ⟨g,0,none⟩)]) w:=by kernel_rfl
end
theorem AkU (L:Lay)(hL:DOk L)(s:Ms)(ev:Value)(n:Nat)(t at_ v:Int)(W:World)(h:DR L s ev W)(ht:L.p.V[n]? =some t)(h0:QC t=0)(hv:s.vals[n]? =some v):Calls Tryz.prog 167 #[.pointer (some ⟨L.M,0,none⟩),.int .i64 (n:Int),.int .i64 at_] W λe W'=>e=.returned (.int .i64 v)/\Below W.heap.size W W':=by
 obtain⟨g,k⟩:∃g,L.ab[n]? =some g:=⟨_,Lb (by rw[hL.alen];exact(La.1 ht).1)⟩;obtain⟨w,j,c⟩:=hL.cells W h.im n g t k ht;have d:=h.rows n g t k ht;have l:=h.row.cellv (i:=1) (v:=.slice L.aa L.ab.length L.acap) rfl;rw[j]at l;have u:(n:Int)<(L.ab.length:Int):=by have:=(La.1 k).1;omega
 rw[show s.cont n t=[v] by unfold Ms.cont;rw[if_pos h0,hv];rfl]at d;rw[show JL t g=.iface 163 (.agg #[.pointer (some ⟨g,0,none⟩)]) by unfold JL;rw[if_pos h0]]at c;have m:=d.cellv (i:=0) (v:=.int .i64 v) rfl;have q:=Aj5 (g:=g);clear h hL k ht j d h0 hv;go_enter Tryz.func167,Tryz.ntmps167
 go_wp2_with fail
 refine(AaT g at_ v W m).mono ?_;rintro e x ⟨rfl,o⟩;clear l c m q;go_wp2
 go_ret
 exact⟨rfl,o⟩
theorem AkT (L:Lay)(hL:DOk L)(s:Ms)(ev:Value)(n:Nat)(t i v:Int)(W:World)(h:DR L s ev W)(ht:L.p.V[n]? =some t)(h0:QC t≠0)(hs:LenS L.p.V s)(hi:¬(i<0\/((s.arr (n:Int)).length:Int)<=i))(hv:(s.arr (n:Int))[i.toNat]? =some v):Calls Tryz.prog 167 #[.pointer (some ⟨L.M,0,none⟩),.int .i64 (n:Int),.int .i64 i] W λe W'=>e=.returned (.int .i64 v)/\Below W.heap.size W W':=by
 obtain⟨k,rfl⟩:∃k:Nat,i=(k:Int):=⟨i.toNat,by omega⟩;obtain⟨g,u⟩:∃g,L.ab[n]? =some g:=⟨_,Lb (by rw[hL.alen];exact(La.1 ht).1)⟩;obtain⟨ad,l,d⟩:=hL.cells W h.im n g t u ht;have j:=h.rows n g t u ht;have x:=h.row.cellv (i:=1) (v:=.slice L.aa L.ab.length L.acap) rfl;rw[l]at x;have ac:(n:Int)<(L.ab.length:Int):=by have:=(La.1 u).1;omega
 have w:=hs.arr_len (n:=(n:Int)) (t:=t) (by rw[Ln];exact ht);have q:(QC t).toNat=(s.arr (n:Int)).length:=by omega
 rw[show s.cont n t=s.arr (n:Int) by unfold Ms.cont Ms.arr;rw[if_neg h0,Ln]]at j;rw[show JL t g=.iface 157 (.slice (some ⟨g,0,none⟩) (s.arr (n:Int)).length (s.arr (n:Int)).length) by unfold JL;rw[if_neg h0,q]]at d;rw[Ln]at hv;have o:k<(s.arr (n:Int)).length:=(La.1 hv).1
 have y:W.cell? ((⟨g,0,none⟩:Addr).add k)=some (.int .i64 v):=by
  have:=j.cellv (i:=k) (v:=.int .i64 v) (by simp[Qi,hv]);unfold Addr.add;by_cases h0:k=0
  ·subst h0;exact this
  ·rw[if_neg h0];simpa using this
 have z:=Af3 (g:=g) (n:=(s.arr (n:Int)).length) (c:=(s.arr (n:Int)).length);generalize (s.arr (n:Int)).length=m at*;clear h hL u ht l j h0 hv hs w q hi;go_enter Tryz.func167,Tryz.ntmps167
 go_wp2_with fail
 refine(Ahd ⟨g,0,none⟩ m m k v W o y).mono ?_;rintro e w1 ⟨rfl,rfl⟩;clear x d y z o;go_wp2
 go_ret
 exact⟨rfl,Below.refl _ _⟩
theorem AjE (L:Lay)(hL:DOk L)(s:Ms)(ev:Value)(n:Nat)(t i:Int)(W:World)(h:DR L s ev W)(ht:L.p.V[n]? =some t)(h0:QC t≠0)(hs:LenS L.p.V s)(hi:i<0\/((s.arr (n:Int)).length:Int)<=i):Calls Tryz.prog 167 #[.pointer (some ⟨L.M,0,none⟩),.int .i64 (n:Int),.int .i64 i] W λe W'=>e=Zc 2 0/\Below W.heap.size W W':=by
 obtain⟨g,o⟩:∃g,L.ab[n]? =some g:=⟨_,Lb (by rw[hL.alen];exact(La.1 ht).1)⟩;obtain⟨z,j,d⟩:=hL.cells W h.im n g t o ht;have k:=h.rows n g t o ht;have u:=h.row.cellv (i:=1) (v:=.slice L.aa L.ab.length L.acap) rfl;rw[j]at u;have y:(n:Int)<(L.ab.length:Int):=by have:=(La.1 o).1;omega
 have q:=hs.arr_len (n:=(n:Int)) (t:=t) (by rw[Ln];exact ht);have l:(QC t).toNat=(s.arr (n:Int)).length:=by omega
 rw[show JL t g=.iface 157 (.slice (some ⟨g,0,none⟩) (s.arr (n:Int)).length (s.arr (n:Int)).length) by unfold JL;rw[if_neg h0,l]]at d;have x:=Af3 (g:=g) (n:=(s.arr (n:Int)).length) (c:=(s.arr (n:Int)).length);generalize (s.arr (n:Int)).length=m at*;clear h hL o ht j k h0 hs q l;have w:=Lh hi;clear hi;go_enter Tryz.func167,Tryz.ntmps167
 go_wp2_with fail
 refine(Ahc (some ⟨g,0,none⟩) m m i W w.out).mono ?_;rintro e w1 ⟨rfl,rfl⟩;clear u d x;go_wp2_with fail
 refine(YV _ _ _).mono ?_;rintro e w' ⟨rfl,rfl⟩;simp only[Zc];go_wp2
 exact⟨rfl,rfl,Below.refl _ _⟩
theorem AhZ (L:Lay)(hL:DOk L)(s:Ms)(ev:Value)(n:Nat)(t i v:Int)(W:World)(h:DR L s ev W)(ht:L.p.V[n]? =some t)(h0:QC t≠0)(hs:LenS L.p.V s)(hi:i<0\/((s.arr (n:Int)).length:Int)<=i):Calls Tryz.prog 199 #[.pointer (some ⟨L.M,0,none⟩),.int .i64 (n:Int),.int .i64 i,.int .i64 v] W λe W'=>e=Zc 2 0/\Below W.heap.size W W':=by
 obtain⟨g,o⟩:∃g,L.ab[n]? =some g:=⟨_,Lb (by rw[hL.alen];exact(La.1 ht).1)⟩;obtain⟨z,j,d⟩:=hL.cells W h.im n g t o ht;have k:=h.rows n g t o ht;have u:=h.row.cellv (i:=1) (v:=.slice L.aa L.ab.length L.acap) rfl;rw[j]at u;have y:(n:Int)<(L.ab.length:Int):=by have:=(La.1 o).1;omega
 have q:=hs.arr_len (n:=(n:Int)) (t:=t) (by rw[Ln];exact ht);have l:(QC t).toNat=(s.arr (n:Int)).length:=by omega
 rw[show JL t g=.iface 157 (.slice (some ⟨g,0,none⟩) (s.arr (n:Int)).length (s.arr (n:Int)).length) by unfold JL;rw[if_neg h0,l]]at d;have x:=Af4 (g:=g) (n:=(s.arr (n:Int)).length) (c:=(s.arr (n:Int)).length);generalize (s.arr (n:Int)).length=m at*;clear h hL o ht j k h0 hs q l;have w:=Lh hi;clear hi;go_enter Tryz.func199,Tryz.ntmps199
 go_wp2_with fail
 refine(Ahf (some ⟨g,0,none⟩) m m i v W w.out).mono ?_;rintro e w1 ⟨rfl,rfl⟩;clear u d x;go_wp2_with fail
 refine(YV _ _ _).mono ?_;rintro e w' ⟨rfl,rfl⟩;simp only[Zc];go_wp2
 exact⟨rfl,rfl,Below.refl _ _⟩
theorem AhX (L:Lay)(hL:DOk L)(s s2 s3:Ms)(ev:Value)(n:Nat)(t at_ x:Int)(g:Nat)(W:World)(h:DR L s ev W)(ad:Addr)(had:L.aa=some ad)(hnl:(n:Int)<(L.ab.length:Int))(hcell:W.cell? (ad.add n)=some (.iface 163 (.agg #[.pointer (some ⟨g,0,none⟩)])))
 (gm:∀(f:Nat) (w:World),(method (f+1) 163 (.agg #[.pointer (some ⟨g,0,none⟩)]) "offshoot/direct.set").run Tryz.prog w=.ok (273,.agg #[.pointer (some ⟨g,0,none⟩)]) w)
 (hset:Calls Tryz.prog 273 #[.agg #[.pointer (some ⟨g,0,none⟩)],.int .i64 at_,.int .i64 x] W λe w1=>e=.returned (.bool true)/\DR L s2 ev w1/\RChg L ev W ev w1)
 (h1:s3.vals=s2.vals) (h2:s3.arrs=s2.arrs) (h3:s3.steps=s2.steps) (h4:s3.fuel=s2.fuel) (h5:s3.evs=s2.evs++[⟨(n:Int),at_,x⟩]) (h6:s2.evs.length<s2.steps):
 Calls Tryz.prog 199 #[.pointer (some ⟨L.M,0,none⟩),.int .i64 (n:Int),.int .i64 at_,.int .i64 x] W λe W'=>(∃u,e=.returned u)/\∃ev',DR L s3 ev' W'/\RChg L ev W ev' W':=by
 have c1:=h.row.cellv (i:=1) (v:=.slice L.aa L.ab.length L.acap) rfl;rw[had]at c1;obtain⟨i0,an,ao,ap,aq⟩:=info_parts Ab2;have HL:=Lh hL;have ac:=Lh hset;have H1:=Lh h1;have H2:=Lh h2;have H3:=Lh h3;have H4:=Lh h4;have H5:=Lh h5;have hF:=hL.F;clear h hL had hset h1 h2 h3 h4 h5;go_enter Tryz.func199,Tryz.ntmps199
 go_wp2_with fail
 refine ac.out.mono ?_;rintro e w1 ⟨rfl,j,ah⟩;clear c1 hcell gm;have c6:=j.row.cellv (i:=6) (v:=ev) rfl;have aj:=j.sum;have ar:=j.size;have au:s2.evs.length<=20001:=by omega
 have ha:=j.evs.alloc (.cells (EvV.cells ⟨(n:Int),at_,x⟩).toArray 263);have HA:=Lh ha;have z:=Lh j;have am:=Lh ah;clear j ah ha aj;go_wp2_with (at_builtin;refine wpList_append_own_at _ rfl (.tmp 25) (.tmp 30) 112 rfl L.b1 263 i0 _ 3 24 Tryz.underlying112 an ao ap aq rfl (by decide) ev s2.evs.length (s2.evs.flatMap EvV.cells) rfl HA.out ⟨w1.heap.size,0,none⟩ 1 1 (EvV.cells ⟨(n:Int),at_,x⟩) rfl rfl (Z9 _ _ _) (Yc _) (by unfold maxLen;omega) (by omega) (by simp;omega) ?_)
 intro ev' W3 o d _ ag;have b2:Below w1.heap.size w1 (w1.alloc (.cells (EvV.cells ⟨(n:Int),at_,x⟩).toArray 263)):=(Below.refl _ _).alloc (Nat.le_refl _) _;have c:=z.out.below HL.out b2;have r3:=c.row.grown d (Qz c.evs c.row (by decide))
 have g3:RChg L ev w1 ev' W3:=(RChg.below b2).trans (.grown d (λk e=>by
  rcases ag with h|h
  ·exact .inl (h▸e)
  ·rw[h]at e;injection e with e;exact .inr (by simp only[World.alloc,Array.size_push]at*;omega)))
 have q:∀(i g:Nat) (t:Int),L.ab[i]? =some g->L.p.V[i]? =some t->Row W3 g 3 (Qi (s3.cont i t)).toArray:=λi g t h1 h2=>by
  have:=(c.rows i g t h1 h2).grown d (Qz c.evs (c.rows i g t h1 h2) (by decide));unfold Ms.cont at this|-;rw[H1.out,H2.out];exact this
 have ak:=HL.out.im _ _ c.im (.grown d c.size (λk e=>QQ c.evs e));have al:L.b1<=W3.heap.size:=Ld c.size d.size;have ai:=Jj o;have R3:=Lh r3;have G3:=Lh g3;have m:=Lh q;have l:=Lh o;have ae:=Lh ak;have af:=Lh al;have y:=Lh z.out.sum;clear o d ag b2 c r3 g3 HA z c6 q ak al;go_wp2_with (refine Qs _ _ _ rfl ?_)
 refine Stop.to ?_;refine Qm rfl 112 _ _ rfl L.M 6 rfl _ rfl [ev'] (by cases ev'<;>first|rfl|cases ai) 156 _ (L.dcells s3 ev') R3.out (by kernel_rfl) (by show 6+1<=7;omega) (by simpa using ai) (by unfold Lay.dcells;rw[H3.out];rfl) ?_
 intro W4 r4 o4
 have m4:DR L s3 ev' W4:=⟨r4,by have:=Qx l.out o4 (λe=>by have:=QQ l.out e;have:=HL.out.lt;omega);rw[H5.out];simpa using this,
  λi g t h1 h2=>(m.out i g t h1 h2).only o4 (HL.out.alt g (Lf h1)).2,
  HL.out.im _ _ ae.out (.only o4 (.inr (.inl rfl))),by rw[o4.size];exact af.out,by rw[H3.out,H4.out];exact y.out,by rw[H5.out,H3.out];simp;omega⟩
 have M4:=Lh m4;have G4:=Lh (am.out.trans (G3.out.trans (RChg.only o4 (.inl rfl))));clear m4 r4 o4 R3 G3 m l ae y af;go_wp2
 go_end0
 exact⟨⟨_,rfl⟩,ev',M4.out,G4.out⟩
theorem AhY (L:Lay)(hL:DOk L)(s s2 s3:Ms)(ev:Value)(n:Nat)(t at_ x:Int)(g m:Nat)(W:World)(h:DR L s ev W)(ad:Addr)(had:L.aa=some ad)(hnl:(n:Int)<(L.ab.length:Int))(hcell:W.cell? (ad.add n)=some (.iface 157 (.slice (some ⟨g,0,none⟩) m m)))
 (gm:∀(f:Nat) (w:World),(method (f+1) 157 (.slice (some ⟨g,0,none⟩) m m) "offshoot/direct.set").run Tryz.prog w=.ok (271,.slice (some ⟨g,0,none⟩) m m) w)
 (hset:Calls Tryz.prog 271 #[.slice (some ⟨g,0,none⟩) m m,.int .i64 at_,.int .i64 x] W λe w1=>e=.returned (.bool true)/\DR L s2 ev w1/\RChg L ev W ev w1)
 (h1:s3.vals=s2.vals) (h2:s3.arrs=s2.arrs) (h3:s3.steps=s2.steps) (h4:s3.fuel=s2.fuel) (h5:s3.evs=s2.evs++[⟨(n:Int),at_,x⟩]) (h6:s2.evs.length<s2.steps):
 Calls Tryz.prog 199 #[.pointer (some ⟨L.M,0,none⟩),.int .i64 (n:Int),.int .i64 at_,.int .i64 x] W λe W'=>(∃u,e=.returned u)/\∃ev',DR L s3 ev' W'/\RChg L ev W ev' W':=by
 have c1:=h.row.cellv (i:=1) (v:=.slice L.aa L.ab.length L.acap) rfl;rw[had]at c1;obtain⟨i0,ao,ap,aq,ar⟩:=info_parts Ab2;have HL:=Lh hL;have ae:=Lh hset;have H1:=Lh h1;have H2:=Lh h2;have H3:=Lh h3;have H4:=Lh h4;have H5:=Lh h5;have hF:=hL.F;clear h hL had hset h1 h2 h3 h4 h5;go_enter Tryz.func199,Tryz.ntmps199
 go_wp2_with fail
 refine ae.out.mono ?_;rintro e w1 ⟨rfl,j,ai⟩;clear c1 hcell gm;have c6:=j.row.cellv (i:=6) (v:=ev) rfl;have ak:=j.sum;have au:=j.size;have av:s2.evs.length<=20001:=by omega
 have ha:=j.evs.alloc (.cells (EvV.cells ⟨(n:Int),at_,x⟩).toArray 263);have HA:=Lh ha;have ac:=Lh j;have an:=Lh ai;clear j ai ha ak;go_wp2_with (at_builtin;refine wpList_append_own_at _ rfl (.tmp 25) (.tmp 30) 112 rfl L.b1 263 i0 _ 3 24 Tryz.underlying112 ao ap aq ar rfl (by decide) ev s2.evs.length (s2.evs.flatMap EvV.cells) rfl HA.out ⟨w1.heap.size,0,none⟩ 1 1 (EvV.cells ⟨(n:Int),at_,x⟩) rfl rfl (Z9 _ _ _) (Yc _) (by unfold maxLen;omega) (by omega) (by simp;omega) ?_)
 intro ev' W3 q d _ ah;have b2:Below w1.heap.size w1 (w1.alloc (.cells (EvV.cells ⟨(n:Int),at_,x⟩).toArray 263)):=(Below.refl _ _).alloc (Nat.le_refl _) _;have c:=ac.out.below HL.out b2;have r3:=c.row.grown d (Qz c.evs c.row (by decide))
 have g3:RChg L ev w1 ev' W3:=(RChg.below b2).trans (.grown d (λk e=>by
  rcases ah with h|h
  ·exact .inl (h▸e)
  ·rw[h]at e;injection e with e;exact .inr (by simp only[World.alloc,Array.size_push]at*;omega)))
 have y:∀(i g:Nat) (t:Int),L.ab[i]? =some g->L.p.V[i]? =some t->Row W3 g 3 (Qi (s3.cont i t)).toArray:=λi g t h1 h2=>by
  have:=(c.rows i g t h1 h2).grown d (Qz c.evs (c.rows i g t h1 h2) (by decide));unfold Ms.cont at this|-;rw[H1.out,H2.out];exact this
 have al:=HL.out.im _ _ c.im (.grown d c.size (λk e=>QQ c.evs e));have am:L.b1<=W3.heap.size:=Ld c.size d.size;have aj:=Jj q;have R3:=Lh r3;have G3:=Lh g3;have o:=Lh y;have l:=Lh q;have af:=Lh al;have ag:=Lh am;have z:=Lh ac.out.sum;clear q d ah b2 c r3 g3 HA ac c6 y al am;go_wp2_with (refine Qs _ _ _ rfl ?_)
 refine Stop.to ?_;refine Qm rfl 112 _ _ rfl L.M 6 rfl _ rfl [ev'] (by cases ev'<;>first|rfl|cases aj) 156 _ (L.dcells s3 ev') R3.out (by kernel_rfl) (by show 6+1<=7;omega) (by simpa using aj) (by unfold Lay.dcells;rw[H3.out];rfl) ?_
 intro W4 r4 o4
 have m4:DR L s3 ev' W4:=⟨r4,by have:=Qx l.out o4 (λe=>by have:=QQ l.out e;have:=HL.out.lt;omega);rw[H5.out];simpa using this,
  λi g t h1 h2=>(o.out i g t h1 h2).only o4 (HL.out.alt g (Lf h1)).2,
  HL.out.im _ _ af.out (.only o4 (.inr (.inl rfl))),by rw[o4.size];exact ag.out,by rw[H3.out,H4.out];exact z.out,by rw[H5.out,H3.out];simp;omega⟩
 have M4:=Lh m4;have G4:=Lh (an.out.trans (G3.out.trans (RChg.only o4 (.inl rfl))));clear m4 r4 o4 R3 G3 o l af z ag;go_wp2
 go_end0
 exact⟨⟨_,rfl⟩,ev',M4.out,G4.out⟩
theorem AjG (L:Lay)(hL:DOk L)(s:Ms)(ev:Value)(n:Nat)(t x u:Int)(W:World)(h:DR L s ev W)(ht:L.p.V[n]? =some t)(h0:QC t=0)(hv:s.vals[n]? =some u)(hf:s.evs.length<s.steps):Calls Tryz.prog 199 #[.pointer (some ⟨L.M,0,none⟩),.int .i64 (n:Int),.int .i64 (-1),.int .i64 x] W λe W'=>(∃u,e=.returned u)/\∃ev',DR L (s.setv (n:Int) x) ev' W'/\RChg L ev W ev' W':=by
 obtain⟨g,k⟩:∃g,L.ab[n]? =some g:=⟨_,Lb (by rw[hL.alen];exact(La.1 ht).1)⟩;obtain⟨y,j,c⟩:=hL.cells W h.im n g t k ht;have d:=h.rows n g t k ht;have z:=h.row.cellv (i:=1) (v:=.slice L.aa L.ab.length L.acap) rfl;rw[j]at z;have m:(n:Int)<(L.ab.length:Int):=by have:=(La.1 k).1;omega
 rw[show s.cont n t=[u] by unfold Ms.cont;rw[if_pos h0,hv];rfl]at d;rw[show JL t g=.iface 163 (.agg #[.pointer (some ⟨g,0,none⟩)]) by unfold JL;rw[if_pos h0]]at c;have l:n<s.vals.length:=(La.1 hv).1;refine AhX L hL s { s with vals:=s.vals.set n x } (s.setv (n:Int) x) ev n t (-1) x g W h y j m c (λf w=>Af5 (g:=g) f w) ?_ (by simp[Ms.setv]) rfl rfl rfl rfl hf;refine(Ua g (-1) x u W d).mono ?_;rintro e w1 ⟨rfl,w0,o,q,r1⟩;exact⟨rfl,(h.below hL o).setB hL k ht q (by unfold Ms.cont;rw[if_pos h0];simp only[N1 l];exact r1) (λi hi=>⟨by simp[Ne.symm hi],rfl⟩) rfl rfl rfl,(RChg.below o:RChg L ev W ev w0).trans (RChg.onlyB q (Lf k))⟩
theorem AjF (L:Lay)(hL:DOk L)(s:Ms)(ev:Value)(n:Nat)(t i x:Int)(W:World)(h:DR L s ev W)(ht:L.p.V[n]? =some t)(h0:QC t≠0)(hs:LenS L.p.V s)(hi:¬(i<0\/((s.arr (n:Int)).length:Int)<=i))(hf:s.evs.length<s.steps):Calls Tryz.prog 199 #[.pointer (some ⟨L.M,0,none⟩),.int .i64 (n:Int),.int .i64 i,.int .i64 x] W λe W'=>(∃u,e=.returned u)/\∃ev',DR L (s.seta (n:Int) i x) ev' W'/\RChg L ev W ev' W':=by
 obtain⟨k,rfl⟩:∃k:Nat,i=(k:Int):=⟨i.toNat,by omega⟩;obtain⟨g,l⟩:∃g,L.ab[n]? =some g:=⟨_,Lb (by rw[hL.alen];exact(La.1 ht).1)⟩;obtain⟨z,j,c⟩:=hL.cells W h.im n g t l ht;have d:=h.rows n g t l ht;have c1:=h.row.cellv (i:=1) (v:=.slice L.aa L.ab.length L.acap) rfl;rw[j]at c1;have o:(n:Int)<(L.ab.length:Int):=by have:=(La.1 l).1;omega
 have ac:=hs.arr_len (n:=(n:Int)) (t:=t) (by rw[Ln];exact ht);have q:(QC t).toNat=(s.arr (n:Int)).length:=by omega
 have m:n<s.arrs.length:=by rw[hs.alen];exact(La.1 ht).1
 rw[show s.cont n t=s.arr (n:Int) by unfold Ms.cont Ms.arr;rw[if_neg h0,Ln]]at d;rw[show JL t g=.iface 157 (.slice (some ⟨g,0,none⟩) (s.arr (n:Int)).length (s.arr (n:Int)).length) by unfold JL;rw[if_neg h0,q]]at c;refine AhY L hL s { s with arrs:=s.arrs.set n ((s.arr (n:Int)).set k x) } (s.seta (n:Int) (k:Int) x) ev n t (k:Int) x g _ W h z j o c (λf w=>Af4 (g:=g) f w) ?_ rfl (by simp[Ms.seta]) rfl rfl rfl hf;refine(Ahg g _ _ k x _ W (by omega) (by simp[Qi]) d).mono ?_;rintro e w1 ⟨rfl,y,r1⟩;refine⟨rfl,h.setB hL l ht y ?_ (λi hi=>⟨rfl,by simp[Ne.symm hi]⟩) rfl rfl rfl,RChg.onlyB y (Lf l)⟩;unfold Ms.cont;rw[if_neg h0];simp only[N1 m,LL];have:(Qi ((s.arr (n:Int)).set k x)).toArray=(Qi (s.arr (n:Int))).toArray.setIfInBounds k (.int .i64 x):=by simp[Qi,List.map_set]
 rw[this];exact r1
def AgF (v:Int)(s:Ms):Ending:=match s.out with|none=>.returned (.int .i64 v)|some o=>Zc o.1 o.2
theorem QU{v:Int}{s:Ms}(h:s.out=none):AgF v s=.returned (.int .i64 v):=by unfold AgF;rw[h]
theorem Zu{v k x:Int}{s:Ms}(h:s.out=some (k,x)):AgF v s=Zc k x:=by unfold AgF;rw[h]
def EntD (L:Lay)(t:Tr)(s:Ms)(v:Int)(s':Ms):Prop:=∀(q:Nat) (ev:Value) (W:World),At L.p.body q t->DR L s ev W->
 Calls Tryz.prog 135 #[.pointer (some ⟨L.M,0,none⟩),.int .i64 (q:Int)] W λe W'=>e=AgF v s'/\∃ev',DR L s' ev' W'/\RChg L ev W ev' W'
def Ko (L:Lay):List Tr->Ms->List Int->Ms->Prop
 |[],s,vs,s'=>vs=[]/\s'=s
 |t::ts,s,vs,s'=>∃v s1,EntD L t s v s1/\((s1.out.isSome=true/\s'=s1)\/(s1.out=none/\∃vs',vs=v::vs'/\Ko L ts s1 vs' s'))
def FOwn (L:Lay)(ev:Value)(W:World)(b:Nat)(v:Value)(xs:List Int):Prop:=W.ownsRow b 3 1 v xs.length (Qi xs)/\∀g,v.ownBlock=some g->Far L ev W g
section
variable {L:Lay} {s:Ms} {ev ev':Value} {W W':World}
theorem FOwn.go{b:Nat}{v:Value}{xs:List Int}(h:FOwn L ev W b v xs)(hL:LOk0 L)(c:RChg L ev W ev' W'):FOwn L ev' W' b v xs:=by
 refine⟨⟨h.1.1,?_⟩,λg e=>(h.2 g e).go c⟩;rcases h.1.2 with k|⟨g,d,i,j,l,m,n⟩
 ·exact .inl k
 ·exact .inr ⟨g,d,i,j,l,((h.2 g (by rw[j];rfl)).same hL c).trans m,n⟩
theorem FOwn.frd{b:Nat}{v:Value}{xs:List Int}(h:FOwn L ev W b v xs):∃A cap,v=.slice A xs.length cap/\FRd L ev W A (Qi xs):=by
 rcases h.1.2 with⟨rfl,l⟩|⟨g,cap,k,j,_⟩
 ·have n:xs=[]:=Lt l;subst n;exact⟨none,0,rfl,Rd.nil _ _,λi e=>by cases e⟩
 ·obtain⟨A,d,c,m,_⟩:=Ab9 h.1;refine⟨A,d,c,m,λi e=>h.2 i.block ?_⟩;rw[j]at c;injection c with e1;rw[<-e1]at e;injection e with e;rw[j, <-e];rfl
theorem DR.grown{row:Option Nat}(h:DR L s ev W)(hL:LOk0 L)(hg:W.grownBy W' row)(hr:∀g,row=some g->L.b1<=g/\ev.ownBlock≠some g):DR L s ev W':=by
 have ne:∀k,k<L.b1->row≠some k:=λk j e=>by have:=(hr k e).1;omega
 refine⟨h.row.grown hg (ne _ hL.lt),ZB h.evs hg ?_,λi g t c d=>(h.rows i g t c d).grown hg (ne _ (hL.alt g (Lf c)).1),hL.im _ _ h.im (.grown hg h.size (λk e=>(hr k e).1)),Ld h.size hg.size,h.sum,h.few⟩;cases hrow:row with
 |none=>exact .inl rfl
 |some g=>exact .inr (hr g hrow).2
theorem RChg.more{row:Option Nat}{W0:World}(h:RChg L ev W0 ev' W)(hg:W.grownBy W' row)(hr:∀g,row=some g->W0.heap.size<=g):RChg L ev W0 ev' W':=
 ⟨hg.os.trans h.os,hg.tape.trans h.tape,hg.output.trans h.output,Ld h.size hg.size,λk h0 h1 h2 h3 h4=>(hg.block k (Lg h0 h.size) (λe=>by have:=hr k e.symm;omega)).trans (h.block k h0 h1 h2 h3 h4),h.evb⟩
end
theorem V7{p:PgV}{q:Nat}{x:Nd}{ks:List Tr}(h:At p.body q (.node x ks)){i:Nat}{k:Tr}(hk:ks[i]? =some k):∃qi,(Q1 (q+1) ks)[i]? =some qi/\At p.body qi k:=by
 have hi:i<(Q1 (q+1) ks).length:=by rw[Ju];exact(La.1 hk).1
 exact⟨_,Lb hi,(h.kids.spot i _ k (Lb hi) hk).1⟩
theorem AcO:∀{l:List Nd} {q:Nat} {ts:List Tr} (k:Nat) (t:Tr),Ats l q ts->ts[k]? =some t->∃qk,(Q1 q ts)[k]? =some qk/\Ats l qk (ts.drop k)/\At l qk t
 |l,q,u::ts,0,t,h,hk=>by
  injection hk with hk
  subst hk
  exact⟨q,by simp[Q1],h,h.head⟩
 |l,q,u::ts,k+1,t,h,hk=>by
  obtain⟨qk,h1,h2,h3⟩:=AcO k t h.tail (by simpa using hk)
  exact⟨qk,by rw[Q1];simpa using h1,by simpa using h2,h3⟩
theorem Aaw:∀{ts:List Tr} {p k q:Nat} {t:Tr},(Q1 p ts)[k]? =some q->ts[k]? =some t->k+1<ts.length->(Q1 p ts)[k+1]? =some (q+t.size)
 |[],_,_,_,_,_,h,_=>by simp at h
 |[u],_,_,_,_,_,_,h=>by simp at h
 |u::u'::ts,p,0,q,t,h1,h2,_=>by
  simp only[Q1,List.getElem?_cons_zero,Nc]at h1 h2
  subst h1;subst h2
  simp[Q1]
 |u::u'::ts,p,k+1,q,t,h1,h2,h3=>by
  have:=Aaw (ts:=u'::ts) (p:=p+u.size) (k:=k) (q:=q) (t:=t) (by simpa[Q1]using h1) (by simpa using h2) (by simpa using h3)
  rw[Q1];simpa using this
theorem AhV (L:Lay)(hL:DOk L)(s:Ms)(ev:Value)(q:Nat)(x:Nd)(ks:List Tr)(n:Nat)(qn:Nat)(W:World)(h:DR L s ev W)(hat:At L.p.body q (.node x ks))(hn:(Q1 (q+1) ks)[n]? =some qn):
 Calls Tryz.prog 169 #[.pointer (some ⟨L.M,0,none⟩),.int .i64 (q:Int),.int .i64 (n:Int)] W λe W'=>e=.returned (.int .i64 (qn:Int))/\Below W.heap.size W W':=by
 have ae:n<ks.length:=by have:=(La.1 hn).1;rwa[Ju]at this
 have aj:q<L.p.body.length:=hat.lt;have ah:=hL.blen;have ai:ks.length<=200:=by have c:=hat.fits.arity;have y:=JT x;simp only[Tr.root,Tr.kids]at c;omega
 have z:=Lh hL;have Hm:=Lh h;have aa:=Lh hat;have Hn:=Lh hn;have ew:IntKind.i64.wrap ((q:Int)+1)=(q:Int)+1:=IntWalk.i64_in _ (by omega);clear hL h hat hn;go_enter Tryz.func169,Tryz.ntmps169
 go_wp2
 go_loopw [1,10] (λa i wr=>∃(k u:Nat),a=.int .i64 (u:Int)/\i=.int .i64 (k:Int)/\k<=n/\Hid ((Q1 (q+1) ks)[k]? =some u)/\Hid (Below W.heap.size W wr)) (λ_ i _=>n-(intOf i).toNat)
 case atStart=>exact⟨0,q+1,rfl,rfl,Nat.zero_le _,Lh (by cases ks with|nil=>simp at ae|cons t ts=>simp[Q1]),Lh (Below.refl _ _)⟩
 case round=>
  obtain⟨k,u,rfl,rfl,hk,w,j⟩:=hrel;by_cases ad:k<n
  ·have hm:=Hm.out.below z.out j.out;have c0:=hm.row.cellv (i:=0) (v:=.slice L.p.ba L.p.body.length L.p.bcap) rfl;have g:ks[k]? =some ks[k]:=Lb (by omega);obtain⟨o,c,y,h3⟩:=AcO k ks[k] aa.out.kids g;have e1:o=u:=by have:=w.out;simp only[Tr.kids]at c;rw[c]at this;injection this
   subst e1;have hz:=h3.endZ
   have m:(Q1 (q+1) ks)[k+1]? =some (o+ks[k].size):=by
    have:=Aaw (p:=q+1) (ts:=ks) (k:=k) (q:=o) (t:=ks[k]) w.out g (by omega);exact this
   have ac:=Lh m;have af:decide ((k:Int)<(n:Int))=true:=by simp;omega
   have Hz:=Lh hz;have d:=JH L.p.ba L.p.bcap L.p.body (o:Int) wr (z.out.pok _ hm.im).brd z.out.blen;have l:=Lh d;clear hm g c y h3 hz m d;have ag:IntKind.i64.wrap ((k:Int)+1)=(k:Int)+1:=IntWalk.i64_in _ (by omega);go_wp2_with fail
   refine l.out.mono ?_;rintro e w2 ⟨rfl,b2⟩;rw[Hz.out];have ab:=Lh (j.out.trans (b2.mono j.out.size));clear b2 j c0 w;go_wp2
   go_roundw
   case rel=>exact⟨k+1,o+ks[k].size,rfl,rfl,by omega,ac,ab⟩
   case measure=>simp[intOf];omega
  ·obtain rfl:k=n:=by omega
   have e1:u=qn:=by have c:=w.out;have y:=Hn.out;rw[y]at c;injection c with c;exact c.symm
   subst e1;clear ad hk;go_wp2
   go_ret
   exact⟨rfl,j.out⟩
theorem Agz (L:Lay)(hL:DOk L)(ts:List Tr)(q:Nat)(s s':Ms)(vs:List Int)(ev:Value)(W:World)(h:DR L s ev W)(hats:Ats L.p.body q ts)(hch:Ko L ts s vs s')(ho:s.out=none)(hl:ts.length<=1000):
 Calls Tryz.prog 170 #[.pointer (some ⟨L.M,0,none⟩),.int .i64 (q:Int),.int .i64 (ts.length:Int)] W λe W'=>∃ev',DR L s' ev' W'/\RChg L ev W ev' W'/\((∃k x,s'.out=some (k,x)/\e=Zc k x)\/(s'.out=none/\∃v,e=.returned v/\FOwn L ev' W' W.heap.size v vs)):=by
 have HL:=Lh hL;have Hm:=Lh h;have d:=Lh hats;have l:=Lh hch;have Ho:=Lh ho;have bn:=hL.blen;obtain⟨i0,bf,bg,bh,bi⟩:=info_parts Jc;clear hL h hats hch ho;go_enter Tryz.func170,Tryz.ntmps170
 go_wp2
 go_loopw [1,7,9] (λa v i wr=>∃(k qk:Nat) (vv:Value) (sk:Ms) (y:Value) (j aw:List Int),vv=v/\a=.int .i64 (qk:Int)/\i=.int .i64 (k:Int)/\k<=ts.length/\Hid (Ats L.p.body qk (ts.drop k))/\Hid (Ko L (ts.drop k) sk aw s')/\Hid (sk.out=none)/\Hid (s'.out=none->j++aw=vs)/\Hid (DR L sk y wr)/\Hid (FOwn L y wr W.heap.size v j)/\Hid (RChg L ev W y wr)/\Hid (j.length=k)) (λ_ _ i _=>ts.length-(intOf i).toNat)
 case atStart=>exact⟨0,q,_,s,ev,[],vs,rfl,rfl,rfl,Nat.zero_le _,d,l,Ho,Lh (λ_=>rfl),Hm,Lh ⟨by simpa[Qi]using World.ownsRow_nil W W.heap.size 3 1,λg e=>by cases e⟩,Lh (RChg.refl _ _ _),Lh rfl⟩
 case round=>
  clear d l Ho Hm;obtain⟨k,qk,v,sk,y,j,aw,rfl,rfl,rfl,hk,d,l,Ho,az,Hm,t,HC,ap⟩:=hrel;by_cases a4:k<ts.length
  ·have hch:=l.out;have hats:=d.out;rw[LH a4]at hch hats;obtain⟨x,s1,he,al⟩:=hch;have ad:=hats.head;have ag:=hats.tail;have aa:=Lh (he qk y wr ad Hm.out);have Hz:=Lh ad.endZ;have aq:=Lh ag;have bk:decide ((k:Int)<(ts.length:Int))=true:=by simp;omega
   have bo:=ap.out;have aj:=Lh al;clear hats he ad ag al l d;go_wp2_with fail
   refine aa.out.mono ?_;rintro e wa ⟨rfl,w,a6,ar⟩;have n:=Lh (t.out.go HL.out ar);have ah:=Lh (HC.out.trans ar);have ab:=Lh a6;clear aa t HC Hm a6 ar;rcases aj.out with⟨z,a8⟩|⟨z,bj,an,am⟩
   ·obtain⟨o,av⟩:=LI.1 z;obtain⟨k1,x1⟩:=o;rw[Zu av];simp only[Zc];have bd:=Lh av;have be:=Lh a8;clear z av a8;go_wp2
    rw[be.out];exact⟨rfl,w,ab.out,ah.out,.inl ⟨k1,x1,bd.out,rfl⟩⟩
   ·rw[QU z];have bc:=Lh z;have ay:=Lh am;have a0:=Lh an;have ha:=n.out.1.alloc (.cells #[.int .i64 x] 3);have HA:=Lh ha;have bm:=ah.out.size;clear z am an ha aj;go_wp2_with (at_builtin;refine wpList_append_own_at _ rfl (.tmp 11) (.tmp 15) 22 rfl W.heap.size 3 i0 (.int .i64 0) 1 8 Tryz.underlying22 bf bg bh bi rfl (by decide) v j.length (Qi j) rfl HA.out ⟨wa.heap.size,0,none⟩ 1 1 (Qi [x]) rfl rfl (Z9 _ _ _) (Jn _) (by unfold maxLen;omega) (by omega) (by simp;omega) ?_)
    intro v' W3 ae hg _ a2;have b1:Below wa.heap.size wa (wa.alloc (.cells #[.int .i64 x] 3)):=(Below.refl _ _).alloc (Nat.le_refl _) _;have u:∀g,v.ownBlock=some g->Far L w (wa.alloc (.cells #[.int .i64 x] 3)) g:=λg e=>(n.out.2 g e).go (.below b1);have a5:=(ab.out.below HL.out b1).grown HL.out hg (λg e=>⟨(u g e).lo,(u g e).ev⟩);have a3:=(ah.out.trans (.below b1)).more hg (λg e=>QQ HA.out e)
    have af:FOwn L w W3 W.heap.size v' (j++[x]):=by
     refine⟨by rw[JY];have a7:=ap.out;simpa[a7]using ae,λg e=>?_⟩;rcases a2 with h1|h1
     ·have:=u g (h1▸e);exact⟨this.lo,this.ev,Lg this.lt hg.size⟩
     ·rw[h1]at e;injection e with e;have bp:(wa.alloc (.cells #[.int .i64 x] 3)).heap.size=wa.heap.size+1:=by simp only[World.alloc,Array.size_push]
      have h3:=ae.lt g (by rw[h1,e]);refine⟨by have:=ab.out.size;omega,λe2=>?_,h3.2⟩;have:=ab.out.evs.lt _ e2;omega
    have ai:=Lh a5;have ax:=Lh a3;have ac:=Lh af;clear ae hg a2 b1 u a5 a3 af HA ab n ah;have c0:=ai.out.row.cellv (i:=0) (v:=.slice L.p.ba L.p.body.length L.p.bcap) rfl;have ak:=Lh (JH L.p.ba L.p.bcap L.p.body (qk:Int) W3 (HL.out.pok _ ai.out.im).brd HL.out.blen);have bl:IntKind.i64.wrap ((k:Int)+1)=(k:Int)+1:=IntWalk.i64_in _ (by omega);go_wp2_with fail
    refine ak.out.mono ?_;rintro e w4 ⟨rfl,b4⟩;rw[Hz.out];have bb:=Lh (ai.out.below HL.out b4);have au:RChg L w W3 w w4:=.below b4;have a9:=Lh (ax.out.trans au);have ao:=Lh (ac.out.go HL.out au);clear b4 au ai ax ac c0 ak;go_wp2
    go_roundw
    case rel=>exact⟨k+1,qk+ts[k].size,_,s1,w,j++[x],bj,rfl,rfl,rfl,by omega,aq,ay,bc,Lh (λhz=>by rw[<-az.out hz,a0.out];simp),bb,ao,a9,Lh (by simp[ap.out])⟩
    case measure=>simp[intOf];omega
  ·obtain rfl:k=ts.length:=by omega
   have hch:=l.out;rw[List.drop_length]at hch;obtain⟨rfl,rfl⟩:=hch;obtain⟨A,m,c,rfl⟩:=ZC t.out.1;have a1:Hid (j=vs):=by have:=az.out Ho.out;rw[LR]at this;exact this
   clear a4 hk l d;go_wp2
   go_ret
   exact⟨y,Hm.out,HC.out,.inr ⟨Ho.out,_,rfl,by rw[<-a1.out];exact t.out⟩⟩
end Go.Proofs.YtkoikjnlpifbjaaGreat
