/- Lemmas for RunnerKillsP. -/
import Derived.Test.YtkoikjnlpifbjaaGreatZk8
import Derived.Test.YtkoikjnlpifbjaaGreatZk2
import Derived.Test.YtkoikjnlpifbjaaGreatZk3
import Derived.Test.YtkoikjnlpifbjaaGreatZk1
import Derived.Test.YtkoikjnlpifbjaaGreatZk5
set_option linter.unusedVariables false
set_option linter.unusedSimpArgs false
set_option maxRecDepth 100000
set_option maxHeartbeats 16000000
namespace Go.Proofs.YtkoikjnlpifbjaaGreat
open Go.RowKit
structure Rn where
 kind:Int
 value:Int
 dig:List UInt8
def Q2 (b r:Rn):Int:=if b.kind=4 then 0 else if r.kind=4 then 2 else if r.kind=b.kind/\r.value=b.value then 0 else 1
theorem Aeb (b r:Rn):Q2 b r=0\/Q2 b r=1\/Q2 b r=2:=by
 unfold Q2;split
 ·exact .inl rfl
 ·split
  ·exact .inr (.inr rfl)
  ·split
   ·exact .inl rfl
   ·exact .inr (.inl rfl)
theorem tells_1{b r:Rn}:Q2 b r=1<->¬b.kind=4/\¬r.kind=4/\¬(r.kind=b.kind/\r.value=b.value):=by
 unfold Q2;by_cases c:b.kind=4
 ·rw[if_pos c];simp[c]
 ·rw[if_neg c];by_cases d:r.kind=4
  ·rw[if_pos d];simp[d]
  ·rw[if_neg d];by_cases e:r.kind=b.kind/\r.value=b.value
   ·rw[if_pos e];simp[e]
   ·rw[if_neg e];simp[c,d,e]
theorem tells_2{b r:Rn}:Q2 b r=2<->¬b.kind=4/\r.kind=4:=by
 unfold Q2;by_cases c:b.kind=4
 ·rw[if_pos c];simp[c]
 ·rw[if_neg c];by_cases d:r.kind=4
  ·rw[if_pos d];simp[c,d]
  ·rw[if_neg d];split<;>simp[d]
def ZK (vs:List Int):Int×Int:=if 1∈vs then(1,(vs.idxOf 1:Int))else if 2∈vs then(2,(vs.idxOf 2:Int))else(0, -1)
theorem Abl{l r:List Int}{v:Int}(h:v∉l):(l++v::r).idxOf v=l.length:=by
 rw[List.idxOf_append,if_neg h];simp
theorem EN{l r:List Int}{v:Int}(h:v∈l):(l++r).idxOf v=l.idxOf v:=by rw[List.idxOf_append,if_pos h]
theorem AkQ{l:List Int}(r:List Int)(h:(1:Int)∉l):ZK (l++1::r)=(1,(l.length:Int)):=by
 unfold ZK;rw[if_pos (by simp),Abl h]
theorem AkR{l:List Int}(h:(1:Int)∉l)(h2:(2:Int)∉l):ZK (l++[2])=(2,(l.length:Int)):=by
 unfold ZK;rw[if_neg (by simp[h]),if_pos (by simp),Abl h2]
theorem Aju{l:List Int}{v:Int}(h:(1:Int)∉l)(h2:(2:Int)∈l)(hv:¬v=1):ZK (l++[v])=ZK l:=by
 unfold ZK;rw[if_neg (by simp[h];omega),if_pos (by simp[h2]),if_neg h,if_pos h2,EN h2]
theorem AkP{l:List Int}{v:Int}(h1:¬v=1)(h2:¬v=2):ZK (l++[v])=ZK l:=by
 unfold ZK;by_cases a:(1:Int)∈l
 ·rw[if_pos (by simp[a]),if_pos a,EN a]
 ·rw[if_neg (by simp[a];omega),if_neg a];by_cases b:(2:Int)∈l
  ·rw[if_pos (by simp[b]),if_pos b,EN b]
  ·rw[if_neg (by simp[b];omega),if_neg b]
theorem best_v1{l:List Int}:(ZK l).1=1<->(1:Int)∈l:=by
 unfold ZK;by_cases a:(1:Int)∈l
 ·rw[if_pos a];simp[a]
 ·rw[if_neg a];split<;>simp[a]
theorem best_v2{l:List Int}:(ZK l).1=2<->(1:Int)∉l/\(2:Int)∈l:=by
 unfold ZK;by_cases a:(1:Int)∈l
 ·rw[if_pos a];simp[a]
 ·rw[if_neg a];by_cases b:(2:Int)∈l
  ·rw[if_pos b];simp[a,b]
  ·rw[if_neg b];simp[b]
theorem best_v0{l:List Int}:(ZK l).1=0<->(1:Int)∉l/\(2:Int)∉l:=by
 unfold ZK;by_cases a:(1:Int)∈l
 ·rw[if_pos a];simp[a]
 ·rw[if_neg a];by_cases b:(2:Int)∈l
  ·rw[if_pos b];simp[b]
  ·rw[if_neg b];simp[a,b]
theorem Ep (l:List Int):(ZK l).1=0\/(ZK l).1=1\/(ZK l).1=2:=by
 unfold ZK;split
 ·exact .inr (.inl rfl)
 ·split
  ·exact .inr (.inr rfl)
  ·exact .inl rfl
theorem AfN{l:List Int}(h:(ZK l).1≠0):∃i,(ZK l).2=(i:Nat)/\i<l.length/\l[i]? =some (ZK l).1/\∀j,j<i->¬l[j]? =some (ZK l).1:=by
 have c:∀v:Int,v∈l->l.idxOf v<l.length/\l[l.idxOf v]? =some v/\∀j,j<l.idxOf v->¬l[j]? =some v:=by
  intro v m;have d:=List.idxOf_lt_length_iff.2 m;refine⟨d,by rw[Lb d,List.getElem_idxOf d],λj k e=>?_⟩;obtain⟨n,e⟩:=La.1 e;have g:=List.not_of_lt_findIdx (p:=(· ==v)) (xs:=l) (i:=j) k;simp[e]at g
 by_cases a:(1:Int)∈l
 ·have e:ZK l=(1,(l.idxOf 1:Int)):=by unfold ZK;rw[if_pos a]
  rw[e];exact⟨_,rfl,c 1 a⟩
 ·by_cases b:(2:Int)∈l
  ·have e:ZK l=(2,(l.idxOf 2:Int)):=by unfold ZK;rw[if_neg a,if_pos b]
   rw[e];exact⟨_,rfl,c 2 b⟩
  ·exact absurd (best_v0.2 ⟨a,b⟩) h
def AdJ (d:Dl)(rs:List Rn)(b:Int×Int):Mt:=if b.1=0 then⟨d,0, -1,0,0,[]⟩else⟨d,b.1,b.2,(rs.getD b.2.toNat ⟨0,0,[]⟩).kind,(rs.getD b.2.toNat ⟨0,0,[]⟩).value,(rs.getD b.2.toNat ⟨0,0,[]⟩).dig⟩
section
variable {α:Type} (f g:α->Rn)
def Zs (ts:List α):List Int:=ts.map λa=>Q2 (f a) (g a)
def Za (d:Dl)(ts:List α):Mt:=AdJ d (ts.map g) (ZK (Zs f g ts))
variable {f g}
theorem Yg{d:Dl}{ts:List α}:(Za f g d ts).d=d:=by unfold Za AdJ;split<;>rfl
theorem Yh{d:Dl}{ts:List α}:(Za f g d ts).verdict=(ZK (Zs f g ts)).1:=by
 unfold Za AdJ;split
 ·rename_i h;exact h.symm
 ·rfl
theorem VZ{d:Dl}{ts:List α}(h:(ZK (Zs f g ts)).1=0):Za f g d ts=⟨d,0, -1,0,0,[]⟩:=by
 unfold Za AdJ;rw[if_pos h]
theorem ER{d:Dl}{ts:List α}(h:(Za f g d ts).verdict≠0):∃i a,ts[i]? =some a/\Za f g d ts=⟨d,Q2 (f a) (g a),(i:Nat),(g a).kind,(g a).value,(g a).dig⟩/\(Q2 (f a) (g a)=1\/Q2 (f a) (g a)=2)/\∀j b,j<i->ts[j]? =some b->Q2 (f b) (g b)≠Q2 (f a) (g a):=by
 rw[Yh]at h;obtain⟨i,l,m,n,o⟩:=AfN h;have hi:i<ts.length:=by simpa[Zs]using m
 have c:ts[i]? =some ts[i]:=Lb hi
 have ev:(ZK (Zs f g ts)).1=Q2 (f ts[i]) (g ts[i]):=by
  have:=n;unfold Zs at this;rw[L4,c]at this;exact(Option.some.inj this).symm
 refine⟨i,ts[i],c,?_,?_,λj b q p e=>o j q ?_⟩
 ·unfold Za AdJ;rw[if_neg h,l,ev];have k:(ts.map g).getD i ⟨0,0,[]⟩=g ts[i]:=by rw[LJ,L4,c];rfl
  rw[show((i:Nat):Int).toNat=i by omega,k]
 ·rw[<-ev];rcases Ep (Zs f g ts)with e|e|e
  ·exact absurd e h
  ·exact .inl e
  ·exact .inr e
 ·unfold Zs;rw[L4,p];show some (Q2 (f b) (g b))=some _;rw[e, <-ev];rfl
theorem Ahp{ts:List α}{v:Int}:v∈Zs f g ts<->∃a∈ts,Q2 (f a) (g a)=v:=by unfold Zs;rw[LK]
theorem judge_killed{d:Dl}{ts:List α}:(Za f g d ts).verdict=1<->∃a∈ts,Q2 (f a) (g a)=1:=by rw[Yh,best_v1,Ahp]
theorem Aid{ts:List α}{x:α}{i:Nat}(h:i<ts.length):((ts++[x]).map g).getD i ⟨0,0,[]⟩=(ts.map g).getD i ⟨0,0,[]⟩:=by
 rw[LJ,LJ,L4,L4,L3 h]
theorem VC{d:Dl}{ts:List α}(hl:ts.length<=20)(hg:∀a∈ts,0<=(g a).kind/\(g a).kind<=4/\((g a).kind=0\/(g a).value=0)/\(g a).dig.length=32):Xo (Za f g d ts)=true/\(Za f g d ts).test<ts.length:=by
 by_cases h:(Za f g d ts).verdict=0
 ·rw[Yh]at h;rw[VZ h];exact⟨by simp[Xo],by simp only;omega⟩
 ·obtain⟨i,a,e,j,c,_⟩:=ER h;have hi:=(La.1 e).1;obtain⟨l,m,n,o⟩:=hg a (Lf e);rw[j];refine⟨?_,by simp only;omega⟩;rcases c with c|c
  ·have k:=(tells_1.1 c).2.1;unfold Xo;simp only;rw[c,if_neg (by decide),if_pos rfl];simp only[decide_eq_true_eq];omega
  ·have k:=(tells_2.1 c).2;unfold Xo;simp only;rw[c,if_neg (by decide),if_neg (by decide),if_pos rfl];simp only[decide_eq_true_eq];omega
end
end Go.Proofs.YtkoikjnlpifbjaaGreat
namespace Go.Proofs.YtkoikjnlpifbjaaGreat
open Go.RowKit Go.Deep
def RunV.cells (r:RunV):Array Value:=#[.int .i64 r.kind,.int .i64 r.value,.int .i64 r.steps,.slice r.addr r.evs.length r.cap]
def fnV (f:Nat):Value:=.func (.func f) #[] #[]
def Xm:List (Int×Value):=[(7,fnV 179),(8,fnV 180),(9,fnV 181),(12,fnV 182),(13,fnV 184),(14,fnV 185),
 (15,fnV 186),(16,fnV 187),(17,fnV 188),(10,fnV 189),(11,fnV 190)]
structure Lay where
 p:PgV
 M:Nat
 ka:Option Addr
 kcap:Nat
 vv:Value
 aa:Option Addr
 acap:Nat
 ab:List Nat
 PB:Nat
 F:Nat
 b0:Nat
 b1:Nat
 Im:World->Prop
structure FrV where
 f:Fr
 v:Value
def FrV.cells (x:FrV):List Value:=[.int .i64 (x.f.at_:Int),.int .i64 (x.f.kid:Int),x.v]
def Lay.cells (L:Lay)(s:Ms)(sv ev:Value):Array Value:=
 #[.int .i64 L.p.params,.slice L.p.va L.p.V.length L.p.vcap,.slice L.p.ba L.p.body.length L.p.bcap,.slice L.ka L.p.body.length L.kcap,L.vv,.slice L.aa L.ab.length L.acap,.int .i64 (L.F:Int),sv,
  .int .i64 (s.out.getD (0,0)).1,.int .i64 (s.out.getD (0,0)).2,.int .i64 (s.steps:Int),ev,.bool s.out.isSome,.map (some L.PB)]
structure Chg (L:Lay)(W W':World):Prop where
 os:W'.os=W.os
 tape:W'.tape=W.tape
 output:W'.output=W.output
 size:W.heap.size<=W'.heap.size
 block:∀k,k<L.b1->k≠L.M->L.vv.ownBlock≠some k->k∉L.ab->W'.heap[k]? =W.heap[k]?
theorem Chg.refl (L:Lay)(W:World):Chg L W W:=⟨rfl,rfl,rfl,Nat.le_refl _,λ_ _ _ _ _=>rfl⟩
theorem Chg.trans{L:Lay}{A B C:World}(h:Chg L A B)(k:Chg L B C):Chg L A C:=
 ⟨k.os.trans h.os,k.tape.trans h.tape,k.output.trans h.output,Ld h.size k.size,λi h1 h2 h3 h4=>(k.block i h1 h2 h3 h4).trans (h.block i h1 h2 h3 h4)⟩
theorem Chg.only{L:Lay}{A B:World}{g:Nat}(o:Only g A B)(h:L.b1<=g\/g=L.M\/L.vv.ownBlock=some g\/g∈L.ab):Chg L A B:=
 ⟨o.os,o.tape,o.output,LD o.size.symm,λk h1 h2 h3 h4=>o.block k (λe=>by subst e;rcases h with h|h|h|h;omega;exact h2 h;exact h3 h;exact h4 h)⟩
theorem Chg.below{L:Lay}{A B:World}(b:Below L.b1 A B):Chg L A B:=⟨b.os,b.tape,b.output,b.size,λk h1 _ _ _=>b.block k h1⟩
theorem Chg.grown{L:Lay}{A B:World}{g:Option Nat}(h:A.grownBy B g)(hs:L.b1<=A.heap.size)(hg:∀k,g=some k->L.b1<=k):Chg L A B:=
 ⟨h.os,h.tape,h.output,h.size,λk h1 _ _ _=>h.block k (by omega) (λe=>by have:=hg k e.symm;omega)⟩
structure MC (L:Lay)(s:Ms)(fs:List FrV)(ev:Value)(W:World):Prop where
 evs:W.ownsRow L.b1 263 3 ev s.evs.length (s.evs.flatMap EvV.cells)
 vals:W.ownsRow L.b0 3 1 L.vv s.vals.length (Qi s.vals)
 arrs:∀(i g:Nat) (a:List Int),L.ab[i]? =some g->s.arrs[i]? =some a->Row W g 3 (Qi a).toArray
 fr:∀x∈fs,W.ownsRow L.b1 3 1 x.v x.f.vals.length (Qi x.f.vals)
 dist:fs.Pairwise λx y=>x.v.ownBlock=none\/x.v.ownBlock≠y.v.ownBlock
 im:L.Im W
 size:L.b1<=W.heap.size
 sum:s.steps+s.fuel=L.F
 few:s.evs.length+fs.length<=s.steps
structure MR (L:Lay)(s:Ms)(fs:List FrV)(sv ev:Value)(W:World):Prop where
 row:Row W L.M 184 (L.cells s sv ev)
 stack:W.ownsRow L.b1 187 3 sv fs.length (fs.reverse.flatMap FrV.cells)
 core:MC L s fs ev W
structure LOk0 (L:Lay):Prop where
 im:∀W W',L.Im W->Chg L W W'->L.Im W'
 lt:L.M<L.b1
 vlt:∀g,L.vv.ownBlock=some g->g<L.b1/\g≠L.M/\g∉L.ab
 alt:∀g∈L.ab,g<L.b1/\g≠L.M
 and:L.ab.Nodup
 F:L.F<=20000
 blen:L.p.body.length<=1000
 b0:L.b0<=L.M
 bb:L.b0<=L.b1
structure LOk (L:Lay):Prop extends LOk0 L where
 kids:∀W,L.Im W->∀(q:Nat) (t:Tr),At L.p.body q t->∃ad A cap,L.ka=some ad/\W.cell? (ad.add q)=some (.slice A t.kids.length cap)/\Rd W A (Qi (KX (Q1 (q+1) t.kids)))
 pok:∀W,L.Im W->L.p.ok W
 arrs:∀W,L.Im W->∀(i g:Nat),L.ab[i]? =some g->∃(ad:Addr) (t:Int),L.aa=some ad/\L.p.V[i]? =some t/\W.cell? (ad.add i)=some (.slice (some ⟨g,0,none⟩) (QC t).toNat (QC t).toNat)
 alen:L.ab.length=L.p.V.length
 pairs:∀W,L.Im W->MapB W L.PB Xm
instance{L:Lay}:Coe (LOk L) (LOk0 L):=⟨LOk.toLOk0⟩
def MRx (L:Lay)(m:Mm)(W:World):Prop:=∃fs sv ev,fs.map FrV.f=m.stack/\MR L m.s fs sv ev W
theorem Only.trans{A B C:World}{g:Nat}(h:Only g A B)(k:Only g B C):Only g A C:=⟨k.os.trans h.os,k.tape.trans h.tape,k.output.trans h.output,k.size.trans h.size,λi hi=>(k.block i hi).trans (h.block i hi)⟩
theorem ZB{w w':World}{base size n:Nat}{e:TypeId}{v:Value}{xs:List Value}{row:Option Nat}(h:w.ownsRow base e size v n xs)(hg:w.grownBy w' row)(hne:row=none\/v.ownBlock≠row):w'.ownsRow base e size v n xs:=by
 refine h.kept hg ?_;rcases hne with rfl|h
 ·cases v.ownBlock<;>simp
 ·exact .inr h
theorem ZP{w:World}{b b' s s' n n':Nat}{e e':TypeId}{v v':Value}{xs xs':List Value}(h:w.ownsRow b e s v n xs)(h':w.ownsRow b' e' s' v' n' xs')(hne:e≠e'):v'.ownBlock=none\/v.ownBlock≠v'.ownBlock:=by
 rcases h'.2 with⟨rfl,_⟩|⟨g,d,c,rfl,_,j,_⟩
 ·exact .inl rfl
 ·have k:Row w g e' c:=j;right;intro i;exact Qz h k hne (by rw[i];rfl)
section
variable {L:Lay} {s:Ms} {fs:List FrV} {sv ev:Value} {W W':World}
theorem MC.only (h:MC L s fs ev W)(hL:LOk0 L)(o:Only L.M W W'):MC L s fs ev W':=by
 have lo:∀{e:TypeId} {size n:Nat} {v:Value} {xs:List Value},W.ownsRow L.b1 e size v n xs->W'.ownsRow L.b1 e size v n xs:=λh=>Qx h o (λe=>by have:=QQ h e;have:=hL.lt;omega)
 exact⟨lo h.evs,Qx h.vals o (λe=>(hL.vlt _ e).2.1 rfl),λi g a hi c=>(h.arrs i g a hi c).only o (hL.alt g (Lf hi)).2,λx d=>lo (h.fr x d),h.dist,
  hL.im _ _ h.im (.only o (.inr (.inl rfl))),by rw[o.size];exact h.size,h.sum,h.few⟩
theorem MC.below (h:MC L s fs ev W)(hL:LOk0 L)(b:Below W.heap.size W W'):MC L s fs ev W':=
 ⟨QB h.evs b,QB h.vals b,λi g a hi ha=>(h.arrs i g a hi ha).below b (h.arrs i g a hi ha).lt,λx hx=>QB (h.fr x hx) b,h.dist,hL.im _ _ h.im (.below (b.mono h.size)),Ld h.size b.size,h.sum,h.few⟩
theorem MR.below (h:MR L s fs sv ev W)(hL:LOk L)(b:Below W.heap.size W W'):MR L s fs sv ev W':=
 ⟨h.row.below b h.row.lt,QB h.stack b,h.core.below hL b⟩
theorem MR.drew (h:MR L s fs sv ev W)(hL:LOk L)(n:Nat):MR L s fs sv ev (W.drewN n):=h.below hL ⟨rfl,rfl,rfl,Nat.le_refl _,λ_ _=>rfl⟩
theorem MC.grownStack{n:Nat}{xs:List Value}(h:MC L s fs ev W)(hL:LOk0 L)(hs:W.ownsRow L.b1 187 3 sv n xs)(hg:W.grownBy W' sv.ownBlock):MC L s fs ev W':=
 ⟨ZB h.evs hg (ZP h.evs hs (by decide)),ZB h.vals hg (ZP h.vals hs (by decide)),λi g a hi ha=>(h.arrs i g a hi ha).grown hg (Qz hs (h.arrs i g a hi ha) (by decide)),
  λx hx=>ZB (h.fr x hx) hg (ZP (h.fr x hx) hs (by decide)),h.dist,hL.im _ _ h.im (.grown hg h.size (λk e=>QQ hs e)),Ld h.size hg.size,h.sum,h.few⟩
theorem MC.grownEvs (h:MC L s fs ev W)(hL:LOk0 L)(hg:W.grownBy W' ev.ownBlock){s':Ms}{ev':Value}(he:W'.ownsRow L.b1 263 3 ev' s'.evs.length (s'.evs.flatMap EvV.cells))(h1:s'.vals=s.vals)(h2:s'.arrs=s.arrs)(h3:s'.steps=s.steps)(h4:s'.fuel=s.fuel)(h5:s'.evs.length+fs.length<=s'.steps):MC L s' fs ev' W':=
 ⟨he,by rw[h1];exact ZB h.vals hg (ZP h.vals h.evs (by decide)),λi g a hi ha=>by rw[h2]at ha;exact(h.arrs i g a hi ha).grown hg (Qz h.evs (h.arrs i g a hi ha) (by decide)),
  λx hx=>ZB (h.fr x hx) hg (ZP (h.fr x hx) h.evs (by decide)),h.dist,hL.im _ _ h.im (.grown hg h.size (λk e=>QQ h.evs e)),Ld h.size hg.size,by rw[h3,h4];exact h.sum,h5⟩
theorem MC.state{s':Ms}(h:MC L s fs ev W)(h1:s'.vals=s.vals)(h2:s'.arrs=s.arrs)(h3:s'.evs=s.evs)(h4:s'.steps+s'.fuel=L.F)(h5:s.steps<=s'.steps):MC L s' fs ev W:=
 ⟨by rw[h3];exact h.evs,by rw[h1];exact h.vals,by rw[h2];exact h.arrs,h.fr,h.dist,h.im,h.size,h4,by rw[h3];have:=h.few;omega⟩
end
theorem MR.setM{L:Lay}{s s':Ms}{fs:List FrV}{sv ev:Value}{W W':World}(h:MR L s fs sv ev W)(hL:LOk L)(o:Only L.M W W')(hr:Row W' L.M 184 (L.cells s' sv ev))
 (h1:s'.vals=s.vals) (h2:s'.arrs=s.arrs) (h3:s'.evs=s.evs) (h4:s'.steps+s'.fuel=L.F) (h5:s.steps<=s'.steps):MR L s' fs sv ev W':=
 ⟨hr,Qx h.stack o (λe=>by have:=QQ h.stack e;have:=hL.lt;omega),(h.core.only hL o).state h1 h2 h3 h4 h5⟩
theorem EY (L:Lay)(hL:LOk L)(m:Mm)(k v:Int)(W:World)(h:MRx L m W):Calls Tryz.prog 110 #[.pointer (some ⟨L.M,0,none⟩),.int .i64 k,.int .i64 v] W λe W'=>(∃u,e=.returned u)/\MRx L ⟨m.s.stop k v,m.stack⟩ W'/\Only L.M W W':=by
 obtain⟨w,j,ev,d,g⟩:=h;have l:=Lh g;have q:=g.row;have i:(L.cells m.s j ev).size=14:=rfl;clear g;go_enter Tryz.func110,Tryz.ntmps110
 go_wp2_with (refine Qs _ _ _ rfl ?_)
 refine Stop.to ?_;refine Qm rfl 52 _ _ rfl L.M 8 rfl _ rfl [.int .i64 k,.int .i64 v] rfl 184 _ _ q (by kernel_rfl) (by show 8+2<=14;omega) (by simp[Value.oneCell']) rfl ?_;intro y p n;go_wp2_with (refine Qs _ _ _ rfl ?_)
 refine Stop.to ?_;refine Qm rfl 4 _ _ rfl L.M 12 rfl _ rfl [.bool true] rfl 184 _ (L.cells (m.s.stop k v) j ev) p (by kernel_rfl) (by show 12+1<=14;omega) (by simp[Value.oneCell']) rfl ?_;intro t x o;have c:Only L.M W t:=n.trans o;clear q p n o i;go_wp2
 go_end0
 exact⟨⟨_,rfl⟩,⟨w,j,ev,d,l.out.setM hL c x rfl rfl rfl l.out.core.sum (Nat.le_refl _)⟩,c⟩
theorem XU (L:Lay)(hL:LOk L)(m:Mm)(k v:Int)(W:World)(h:MRx L m W):Calls Tryz.prog 110 #[.pointer (some ⟨L.M,0,none⟩),.int .i64 k,.int .i64 v] W λe W'=>(∃u,e=.returned u)/\MRx L ⟨m.s.stop k v,m.stack⟩ W'/\Chg L W W':=
 (EY L hL m k v W h).mono λ_ _ h=>⟨h.1,h.2.1,.only h.2.2 (.inr (.inl rfl))⟩
theorem AeV:(Tryz.prog.info? 187).map (λi=>(i.zero,i.size,i.bytes))=some (some (.agg #[.int .i64 0,.int .i64 0,.slice none 0 0]),3,40):=by kernel_rfl
theorem Xy (fs:List FrV):(fs.flatMap FrV.cells).length=fs.length*3:=by
 induction fs with
 |nil=>rfl
 |cons x fs ih=>simp only[L8,Le,Lc,ih];simp[FrV.cells];omega
theorem Jj{w:World}{base n size:Nat}{e:TypeId}{v:Value}{xs:List Value}(h:w.ownsRow base e size v n xs):v.oneCell'=true:=by
 rcases h.2 with⟨rfl,_⟩|⟨g,c,d,rfl,_⟩<;>rfl
theorem MC.push{L:Lay}{s:Ms}{fs:List FrV}{ev:Value}{W:World}(h:MC L s fs ev W)(hf:0<s.fuel)(q:Nat)(t:Tr):MC L s.tick (⟨⟨q,t,0,[]⟩,.slice none 0 0⟩::fs) ev W:=
 ⟨h.evs,h.vals,h.arrs,λx hx=>by
  rcases Ls.1 hx with rfl|hx
  ·exact World.ownsRow_nil _ _ _ _
  ·exact h.fr x hx,
 Ni.2 ⟨λ_ _=>.inl rfl,h.dist⟩,h.im,h.size,by have:=h.sum;simp only[Ms.tick];omega,by have:=h.few;simp only[Ms.tick,Lc];omega⟩
theorem AkI (x:FrV)(h:x.v.oneCell'=true):∀u∈x.cells,u.oneCell'=true:=by
 intro u c;simp only[FrV.cells,Ls,Lw,or_false]at c;rcases c with rfl|rfl|rfl
 ·rfl
 ·rfl
 ·exact h
theorem Uj (L:Lay)(hL:LOk L)(m:Mm)(q:Nat)(t:Tr)(W:World)(h:MRx L m W):Calls Tryz.prog 111 #[.pointer (some ⟨L.M,0,none⟩),.int .i64 (q:Int)] W λe W'=>(∃u,e=.returned u)/\MRx L (Z2 q t m) W'/\Chg L W W':=by
 obtain⟨fs,sv,ev,o,p⟩:=h;have ac:=λn=>XU L hL m 4 0 (W.drewN n) ⟨fs,sv,ev,o,p.drew hL n⟩
 have x:=Lh ac;have af:=Lh o;have Hm:=Lh p;have l:=Lh hL;have ah:=p.row.cellv (i:=10) (v:=.int .i64 (m.s.steps:Int)) rfl;have c6:=p.row.cellv (i:=6) (v:=.int .i64 (L.F:Int)) rfl;have ad:=p.core.sum;have aa:=p.core.few;have hF:=hL.F;clear p ac hL o;by_cases h0:m.s.fuel=0
 ·have he:((m.s.steps:Int)==(L.F:Int))=true:=by simp;omega
  have Hz:Hid (Z2 q t m=⟨m.s.stop 4 0,m.stack⟩):=by show _=_;unfold Z2;rw[if_pos h0]
  clear ad aa h0;go_enter Tryz.func111,Tryz.ntmps111
  go_wp2_with fail
  go_quiet (fail)
  go_wp2_with fail
  refine(x.out nq).mono ?_;rintro e W2 ⟨⟨u,rfl⟩,h2,g2⟩;have gd:Chg L W (W.drewN nq):=⟨rfl,rfl,rfl,Nat.le_refl _,λ_ _ _ _ _=>rfl⟩;have G2:=Lh (gd.trans g2);have H2:=Lh h2;clear h2 g2 gd;go_wp2
  refine bodyPost_ret (results_none rfl _ _ _) rfl ?_;exact⟨⟨_,rfl⟩,by rw[Hz.out];exact H2.out,G2.out⟩
 ·have he:((m.s.steps:Int)==(L.F:Int))=false:=by simp;omega
  have Hz:Hid (Z2 q t m=⟨m.s.tick,⟨q,t,0,[]⟩::m.stack⟩):=by show _=_;unfold Z2;rw[if_neg h0]
  have ai:0<m.s.fuel:=by omega
  obtain⟨i0,ak,am,an,ao⟩:=info_parts AeV;clear h0 x;go_enter Tryz.func111,Tryz.ntmps111
  go_wp2_with fail
  go_quiet (fail)
  have hd:Below W.heap.size W (W.drewN nq):=⟨rfl,rfl,rfl,Nat.le_refl _,λ_ _=>rfl⟩;have Hd:=Lh hd;have ag:=Lh Hm.out.core.size;have c:=Lh (Hm.out.drew l.out nq);clear Hm hd;generalize W.drewN nq=W0 at c Hd|-;have rM:=c.out.row;have z:=rM.cellv (i:=10) (v:=.int .i64 (m.s.steps:Int)) rfl;have al:(m.s.steps:Int)+1<=20001:=by omega
  clear ah c6;go_wp2_with (refine Qs _ _ _ rfl ?_)
  refine Stop.to ?_;refine Qm rfl 3 _ _ rfl L.M 10 rfl _ rfl [.int .i64 ((m.s.steps:Int)+1)] rfl 184 _ (L.cells m.s.tick sv ev) rM (by kernel_rfl) (by show 10+1<=14;omega) (by simp[Value.oneCell']) (by rfl) ?_;intro y r1 o1;have k1:=c.out.core.only l.out o1;have s1:=Qx c.out.stack o1 (λe=>by have:=QQ c.out.stack e;have:=l.out.lt;omega);have g1:=Chg.only (L:=L) o1 (.inr (.inl rfl));have K1:=Lh k1;have S1:=Lh s1;have G1:=Lh ((Chg.below (L:=L) (Hd.out.mono ag.out)).trans g1);clear rM z o1 k1 s1 g1 c;have c7:=r1.cellv (i:=7) (v:=sv) rfl;have ha:=S1.out.alloc (.cells (FrV.cells ⟨⟨q,t,0,[]⟩,.slice none 0 0⟩).toArray 187);have w:=Lh ha;have ae:=K1.out.size;have ap:fs.length<=20001:=by omega
  clear ha;go_wp2_with (at_builtin;refine wpList_append_own_at _ rfl (.tmp 29) (.tmp 32) 181 rfl L.b1 187 i0 _ 3 40 Tryz.underlying181 ak am an ao rfl (by decide) sv fs.length (fs.reverse.flatMap FrV.cells) rfl w.out ⟨y.heap.size,0,none⟩ 1 1 (FrV.cells ⟨⟨q,t,0,[]⟩,.slice none 0 0⟩) rfl rfl (Z9 _ _ _) (AkI _ rfl) (by unfold maxLen;omega) (by omega) (by simp;omega) ?_)
  intro j W3 g hg _ aj;have b2:Below y.heap.size y (y.alloc (.cells (FrV.cells ⟨⟨q,t,0,[]⟩,.slice none 0 0⟩).toArray 187)):=(Below.refl _ _).alloc (Nat.le_refl _) _;have k3:=(K1.out.below l.out b2).grownStack l.out w.out hg;have r3:=(r1.alloc (.cells (FrV.cells ⟨⟨q,t,0,[]⟩,.slice none 0 0⟩).toArray 187)).grown hg (Qz w.out (r1.alloc _) (by decide));have g3:Chg L y W3:=(Chg.below (L:=L) (b2.mono ae)).trans (.grown hg (by simp;omega) (λk e=>QQ w.out e));have G3:=Lh (G1.out.trans g3);have K3:=Lh k3;have d:=Lh g;have ab:=Jj g;clear g hg aj b2 k3 g3 w G1 K1 S1 r1 c7;go_wp2_with (refine Qs _ _ _ rfl ?_)
  refine Stop.to ?_;refine Qm rfl 181 _ _ rfl L.M 7 rfl _ rfl [j] (by cases j<;>first|rfl|cases ab) 184 _ (L.cells m.s.tick j ev) r3 (by kernel_rfl) (by show 7+1<=14;omega) (by simpa using ab) (by rfl) ?_
  intro W4 r4 o4;have k4:=(K3.out.only l.out o4).push ai q t;have s4:=Qx d.out o4 (λe=>by have:=QQ d.out e;have:=l.out.lt;omega);have K4:=Lh k4;have S4:=Lh s4;have G4:=Lh (G3.out.trans (.only o4 (.inr (.inl rfl))));clear o4 k4 s4 r3 K3 d G3;go_wp2
  go_end0
  refine⟨⟨_,rfl⟩,?_,G4.out⟩;rw[Hz.out];refine⟨_::fs,j,ev,by rw[<-af.out];rfl,r4,?_,K4.out⟩;have:=S4.out;rw[List.reverse_cons,L6];simpa using this
structure Top (L:Lay)(W:World)(x:FrV)(r:List FrV)(sv:Value)(SB cap:Nat)(cur:Array Value):Prop where
 sve:sv=.slice (some ⟨SB,0,none⟩) (r.length+1) cap
 row:Row W SB 187 cur
 size:cur.size=cap*3
 le:r.length+1<=cap
 max:cap<=maxLen
 lo:L.b1<=SB
 low:cur.toList.take (r.length*3)=r.reverse.flatMap FrV.cells
 top:(cur.toList.drop (r.length*3)).take 3=x.cells
section
variable {L:Lay} {W W':World} {x x':FrV} {r fs:List FrV} {sv ev:Value} {SB cap:Nat} {cur:Array Value} {s s':Ms}
theorem Acu (h:W.ownsRow L.b1 187 3 sv (x::r).length ((x::r).reverse.flatMap FrV.cells)):∃SB cap cur,Top L W x r sv SB cap cur:=by
 rcases h.2 with⟨_,i⟩|⟨g,cap,cur,rfl,j,m,k,n,d,e⟩
 ·simp at i
 ·rw[List.reverse_cons,L6,Lc]at e;have o:(r.reverse.flatMap FrV.cells).length=r.length*3:=by rw[Xy,NF]
  have c:cur.toList.take (r.length*3)=r.reverse.flatMap FrV.cells:=by
   have:=congrArg (List.take (r.length*3)) e;rw[NA,NI (by omega),No (by omega),L7 (l:=r.reverse.flatMap FrV.cells) (by omega)]at this;exact this
  refine⟨g,cap,cur,rfl,m,d,k,n,j,c,?_⟩;have:=congrArg (List.drop (r.length*3)) e;rw[List.drop_take,List.drop_append_of_le_length (by omega),N2 (show(r.reverse.flatMap FrV.cells).length<=r.length*3 by omega),Lm]at this;rw[show(r.length+1)*3-r.length*3=3 by omega]at this;simpa using this
theorem Top.own (h:Top L W x r sv SB cap cur):W.ownsRow L.b1 187 3 sv (r.length+1) ((x::r).reverse.flatMap FrV.cells):=by
 have c:(r.reverse.flatMap FrV.cells).length=r.length*3:=by rw[Xy,NF]
 refine⟨by rw[Xy,NF,Lc],.inr ⟨SB,cap,cur,h.sve,h.lo,h.row,h.le,h.max,h.size,?_⟩⟩;rw[List.reverse_cons,L6,show(r.length+1)*3=r.length*3+3 by omega,List.take_add,h.low,h.top];simp
theorem Top.cell (h:Top L W x r sv SB cap cur)(j:Nat)(u:Value)(hu:x.cells[j]? =some u):W.cell? ⟨SB,r.length*3+j,none⟩=some u:=by
 refine h.row.cellv ?_;have c:j<3:=by have:=(La.1 hu).1;simpa[FrV.cells]using this
 rw[<-h.top,LQ c,Nn]at hu;rw[<-Ng];exact hu
theorem Top.pop (h:Top L W x r sv SB cap cur):W.ownsRow L.b1 187 3 (.slice (some ⟨SB,0,none⟩) r.length cap) r.length (r.reverse.flatMap FrV.cells):=
 ⟨by rw[Xy,NF],.inr ⟨SB,cap,cur,rfl,h.lo,h.row,by have:=h.le;omega,h.max,h.size,h.low⟩⟩
theorem Top.hi (h:Top L W x r sv SB cap cur):r.length*3+3<=cur.size:=by have:=h.size;have:=h.le;omega
theorem Top.put (h:Top L W x r sv SB cap cur){j:Nat}{u:Value}(hj:j<3)(hx:x'.cells=x.cells.set j u)(hr:Row W' SB 187 (ZS cur (r.length*3+j) [u])):Top L W' x' r sv SB cap (ZS cur (r.length*3+j) [u]):=by
 have c:=h.hi
 have e:(ZS cur (r.length*3+j) [u]).toList=cur.toList.set (r.length*3+j) u:=by
  unfold ZS;simp only[Nf];rw[List.set_eq_take_append_cons_drop,if_pos (by simp;omega)];simp
 refine⟨h.sve,hr,?_,h.le,h.max,h.lo,?_,?_⟩
 ·rw[<-h.size, <-LU,e];simp
 ·rw[e,List.take_set_of_le (by omega)];exact h.low
 ·rw[e,List.drop_set,if_neg (by omega),show r.length*3+j-r.length*3=j by omega,List.take_set,h.top,hx]
theorem Top.below (h:Top L W x r sv SB cap cur)(b:Below W.heap.size W W'):Top L W' x r sv SB cap cur:=⟨h.sve,h.row.below b h.row.lt,h.size,h.le,h.max,h.lo,h.low,h.top⟩
theorem AlX{n:Nat}{v:Value}{xs:List Value}{e:TypeId}{size:Nat}(hL:LOk L)(h:W.ownsRow L.b1 e size v n xs):v.ownBlock=none\/L.vv.ownBlock≠v.ownBlock:=by
 cases hv:v.ownBlock with
 |none=>exact .inl rfl
 |some g=>exact .inr (λe=>by have:=(hL.vlt g e).1;have:=QQ h hv;omega)
theorem MC.grownTop (h:MC L s (x::r) ev W)(hL:LOk L)(hg:W.grownBy W' x.v.ownBlock)(hx:W'.ownsRow L.b1 3 1 x'.v x'.f.vals.length (Qi x'.f.vals))(hat:x'.v.ownBlock=x.v.ownBlock\/x'.v.ownBlock=some W.heap.size):MC L s (x'::r) ev W':=by
 have c:=h.fr x (by simp);have l:=Ni.1 h.dist
 refine⟨ZB h.evs hg (ZP h.evs c (by decide)),ZB h.vals hg (AlX hL c),λi g a hi m=>(h.arrs i g a hi m).grown hg (λe=>?_),λy j=>?_,Ni.2 ⟨λy j=>?_,l.2⟩,
  hL.im _ _ h.im (.grown hg h.size (λk e=>QQ c e)),Ld h.size hg.size,h.sum,by have:=h.few;simpa using this⟩
 ·have d:=(hL.alt g (Lf hi)).1;have:=QQ c e;omega
 ·rcases Ls.1 j with rfl|j
  ·exact hx
  ·exact ZB (h.fr y (by simp[j])) hg (by
     rcases l.1 y j with d|d
     ·exact .inl d
     ·exact .inr (λe=>d e.symm))
 ·rcases hat with d|d
  ·rw[d];exact l.1 y j
  ·rw[d];right;intro e;have:=(h.fr y (by simp[j])).lt _ e.symm;omega
end
theorem MC.onlyStack{L:Lay}{s:Ms}{fs:List FrV}{ev:Value}{W W':World}{SB:Nat}{cur:Array Value}(h:MC L s fs ev W)(hL:LOk L)(o:Only SB W W')(hr:Row W SB 187 cur)(hlo:L.b1<=SB):MC L s fs ev W':=
 ⟨Qx h.evs o (Qz h.evs hr (by decide)),Qx h.vals o (Qz h.vals hr (by decide)),λi g a hi ha=>(h.arrs i g a hi ha).only o (λe=>by have:=(hL.alt g (Lf hi)).1;omega),
  λx hx=>Qx (h.fr x hx) o (Qz (h.fr x hx) hr (by decide)),h.dist,hL.im _ _ h.im (.only o (.inl hlo)),by rw[o.size];exact h.size,h.sum,h.few⟩
theorem Abm:(Tryz.prog.info? 3).map (λi=>(i.zero,i.size,i.bytes))=some (some (.int .i64 0),1,8):=by kernel_rfl
theorem Js (L:Lay)(hL:LOk L)(s:Ms)(f:Fr)(r:List Fr)(v:Int)(W:World)(h:MRx L ⟨s,f::r⟩ W)(hv:f.vals.length<=1000):Calls Tryz.prog 145 #[.pointer (some ⟨L.M,0,none⟩),.int .i64 v] W λe W'=>(∃u,e=.returned u)/\MRx L ⟨s,f.told v::r⟩ W'/\Chg L W W':=by
 obtain⟨fs,sv,ev,q,y⟩:=h
 obtain⟨x,p,rfl⟩:∃x p,fs=x::p:=by cases fs with
  |nil=>simp at q
  |cons x p=>exact⟨x,p,rfl⟩
 simp only[LP,N5]at q;obtain⟨rfl,rfl⟩:=q;obtain⟨SB,ai,ac,ht⟩:=Acu y.stack;obtain⟨i0,ak,am,an,ao⟩:=info_parts Abm;have Hm:=Lh y;have HL:=Lh hL;have Ht:=Lh ht;have c7:=y.row.cellv (i:=7) (v:=sv) rfl;rw[ht.sve]at c7;have n:=y.core.few;have o:=y.core.sum;have hF:=hL.F;have ap:p.length<=20001:=by simp at n;dsimp only at o;omega
 clear y hL ht n o hF;go_enter Tryz.func145,Tryz.ntmps145
 go_wp2_with fail
 go_quiet (fail)
 have hd:Below W.heap.size W (W.drewN nq):=⟨rfl,rfl,rfl,Nat.le_refl _,λ_ _=>rfl⟩;have gd:Chg L W (W.drewN nq):=⟨rfl,rfl,rfl,Nat.le_refl _,λ_ _ _ _ _=>rfl⟩;have g:=Hm.out.below HL.out hd;have m:=Ht.out.below hd;have Gd:=Lh gd;clear Hm Ht c7 hd gd;generalize W.drewN nq=W0 at g m Gd|-;have cv:=m.cell 2 x.v rfl;have ah:=g.core.fr x (by simp);have aj:=g.core.size;have ha:=ah.alloc (.cells #[.int .i64 v] 3);have z:=Lh ha;have aa:=Lh g;have ab:=Lh m;clear ha ah g m;go_wp2_with (at_builtin;refine wpList_append_own_at _ rfl (.tmp 20) (.tmp 22) 22 rfl L.b1 3 i0 (.int .i64 0) 1 8 Tryz.underlying22 ak am an ao rfl (by decide) x.v x.f.vals.length (Qi x.f.vals) rfl z.out ⟨W0.heap.size,0,none⟩ 1 1 (Qi [v]) rfl rfl (Z9 _ _ _) (Jn _) (by unfold maxLen;omega) (by omega) (by simp;omega) ?_)
 intro w W1 d hg _ ae;have b1:Below W0.heap.size W0 (W0.alloc (.cells #[.int .i64 v] 3)):=(Below.refl _ _).alloc (Nat.le_refl _) _;have l:=aa.out.below HL.out b1;have c:=ab.out.below b1;have k2:=l.core.grownTop (x':=⟨x.f.told v,w⟩) HL.out hg (by rw[<-JY]at d;simpa[Fr.told]using d) (by simpa using ae);have r2:=l.row.grown hg (Qz z.out l.row (by decide));have t2:Row W1 SB 187 ac:=c.row.grown hg (Qz z.out c.row (by decide));have ag:Top L W1 x p sv SB ai ac:=⟨c.sve,t2,c.size,c.le,c.max,c.lo,c.low,c.top⟩;have g2:=(Gd.out.trans (Chg.below (L:=L) (b1.mono aj))).trans (.grown hg (by simp;omega) (λk e=>QQ z.out e));have af:=Jj d;have K2:=Lh k2;have R2:=Lh r2;have t:=Lh ag;have G2:=Lh g2;clear d hg ae b1 l c k2 r2 t2 ag g2 z aa ab Gd cv;go_wp2_with (refine Qs _ _ _ rfl ?_)
 refine Stop.to ?_;refine Qm rfl 22 _ _ rfl SB (p.length*3+2) rfl _ rfl [w] (by cases w<;>first|rfl|cases af) 187 _ _ t.out.row (by kernel_rfl) (by have:=t.out.hi;simp;omega) (by simpa using af) rfl ?_
 intro W3 r3 o3;have ad:=t.out.lo;have t3:=t.out.put (x':=⟨x.f.told v,w⟩) (j:=2) (u:=w) (by decide) rfl r3;have al:SB≠L.M:=by have:=HL.out.lt;omega
 have m3:MR L s (⟨x.f.told v,w⟩::p) sv ev W3:=by
  refine⟨R2.out.only o3 (λe=>al e.symm),t3.own,?_⟩;exact K2.out.onlyStack HL.out o3 t.out.row ad
 have M3:=Lh m3;have G3:=Lh (G2.out.trans (.only o3 (.inl ad)));clear m3 t3 o3 r3 R2 t K2 G2;go_wp2
 go_end0
 exact⟨⟨_,rfl⟩,⟨_,sv,ev,rfl,M3.out⟩,G3.out⟩
theorem Xd (b:Bool)(w:World):Calls Tryz.prog 183 #[.bool b] w λe w'=>e=.returned (.int .i64 (tr b))/\w=w':=by
 cases b
 all_goals
  go_enter Tryz.func183,Tryz.ntmps183
  go_wp2
  go_ret
  exact⟨rfl,rfl⟩
theorem Vk (tag a b c:Int)(f:Nat)(w:World)(hf:JK tag Xm=some (fnV f))(hp:Zn tag a b=some c):Calls Tryz.prog f #[.int .i64 a,.int .i64 b] w λe w'=>e=.returned (.int .i64 c)/\w=w':=by
 have i:tag=7\/tag=8\/tag=9\/tag=12\/tag=13\/tag=14\/tag=15\/tag=16\/tag=17\/tag=10\/tag=11:=by
  unfold Xm at hf;simp only[JK]at hf
  repeat' split at hf
  all_goals(first| (cases hf;done)|omega)
 rcases i with rfl|rfl|rfl|rfl|rfl|rfl|rfl|rfl|rfl|rfl|rfl
 all_goals
  have h:=hf
  simp[Xm,JK,fnV]at h
  subst h
  clear hf
 ·have d:wrap64 (a+b)=c:=by simpa[Zn]using hp
  subst d;clear hp;go_enter Tryz.func179,Tryz.ntmps179
  go_wp2
  go_ret
  exact⟨QS rfl,rfl⟩
 ·have d:wrap64 (a-b)=c:=by simpa[Zn]using hp
  subst d;clear hp;go_enter Tryz.func180,Tryz.ntmps180
  go_wp2
  go_ret
  exact⟨QS rfl,rfl⟩
 ·have d:wrap64 (a*b)=c:=by simpa[Zn]using hp
  subst d;clear hp;go_enter Tryz.func181,Tryz.ntmps181
  go_wp2
  go_ret
  exact⟨QS rfl,rfl⟩
 ·have d:tr (decide (a=b))=c:=by simpa[Zn]using hp
  clear hp;go_enter Tryz.func182,Tryz.ntmps182
  go_wp2_with fail
  refine(Xd _ _).mono ?_;rintro e w' ⟨rfl,rfl⟩;go_wp2
  go_ret
  exact⟨QS (by rw[<-d];all_goals(first| (congr 1;done)| (congr 1;rw[LS];simp))),rfl⟩
 ·have d:tr (decide (a≠b))=c:=by simpa[Zn]using hp
  clear hp;go_enter Tryz.func184,Tryz.ntmps184
  go_wp2_with fail
  refine(Xd _ _).mono ?_;rintro e w' ⟨rfl,rfl⟩;go_wp2
  go_ret
  exact⟨QS (by rw[<-d];all_goals(first| (congr 1;done)| (congr 1;rw[LS];simp))),rfl⟩
 ·have d:tr (decide (a<b))=c:=by simpa[Zn]using hp
  clear hp;go_enter Tryz.func185,Tryz.ntmps185
  go_wp2_with fail
  refine(Xd _ _).mono ?_;rintro e w' ⟨rfl,rfl⟩;go_wp2
  go_ret
  exact⟨QS (by rw[<-d];all_goals(first| (congr 1;done)| (congr 1;rw[LS];simp))),rfl⟩
 ·have d:tr (decide (a<=b))=c:=by simpa[Zn]using hp
  clear hp;go_enter Tryz.func186,Tryz.ntmps186
  go_wp2_with fail
  refine(Xd _ _).mono ?_;rintro e w' ⟨rfl,rfl⟩;go_wp2
  go_ret
  exact⟨QS (by rw[<-d];all_goals(first| (congr 1;done)| (congr 1;rw[LS];simp))),rfl⟩
 ·have d:tr (decide (b<a))=c:=by simpa[Zn]using hp
  clear hp;go_enter Tryz.func187,Tryz.ntmps187
  go_wp2_with fail
  refine(Xd _ _).mono ?_;rintro e w' ⟨rfl,rfl⟩;go_wp2
  go_ret
  exact⟨QS (by rw[<-d];all_goals(first| (congr 1;done)| (congr 1;rw[LS];simp))),rfl⟩
 ·have d:tr (decide (b<=a))=c:=by simpa[Zn]using hp
  clear hp;go_enter Tryz.func188,Tryz.ntmps188
  go_wp2_with fail
  refine(Xd _ _).mono ?_;rintro e w' ⟨rfl,rfl⟩;go_wp2
  go_ret
  exact⟨QS (by rw[<-d];all_goals(first| (congr 1;done)| (congr 1;rw[LS];simp))),rfl⟩
 ·by_cases g:b=0
  ·simp[Zn,g]at hp
  have d:wrap64 (a.tdiv b)=c:=by simpa[Zn,g]using hp
  subst d;clear hp;go_enter Tryz.func189,Tryz.ntmps189
  go_wp2
  go_ret
  exact⟨QS rfl,rfl⟩
 ·by_cases g:b=0
  ·simp[Zn,g]at hp
  have d:a.tmod b=c:=by simpa[Zn,g]using hp
  subst d;clear hp;go_enter Tryz.func190,Tryz.ntmps190
  go_wp2
  go_ret
  exact⟨QS rfl,rfl⟩
theorem AcE{w:World}:(zeroValue 144).run Tryz.prog w=.ok Value.nilFunc w:=by kernel_rfl
theorem AdF (L:Lay)(hL:LOk L)(m:Mm)(tag a b:Int)(W:World)(h:MRx L m W)(hp:Zn tag a b=none):Calls Tryz.prog 148 #[.pointer (some ⟨L.M,0,none⟩),.int .i64 tag,.int .i64 a,.int .i64 b] W λe W'=>(∃u,e=.returned u)/\MRx L ⟨m.s.stop 1 0,m.stack⟩ W'/\Chg L W W':=by
 have c:=XU L hL m 1 0 W h;have d:=Lh c
 have l:b=0/\(tag=10\/tag=11):=by
  unfold Zn at hp
  repeat' split at hp
  all_goals(first| (cases hp;done)| (refine⟨?_,?_⟩<;>first|assumption|omega))
 obtain⟨rfl,n⟩:=l;clear c h hp hL;rcases n with rfl|rfl
 all_goals
  go_enter Tryz.func148,Tryz.ntmps148
  go_wp2_with fail
  refine d.out.mono ?_
  rintro e o ⟨⟨u,rfl⟩,i,g⟩
  have j:=Lh g
  have k:=Lh i
  clear i g
  go_wp2
  refine bodyPost_ret (results_none rfl _ _ _) rfl ?_
  exact⟨⟨_,rfl⟩,k.out,j.out⟩
theorem AgZ (L:Lay)(hL:LOk L)(s:Ms)(f:Fr)(r:List Fr)(tag a b c:Int)(W:World)(h:MRx L ⟨s,f::r⟩ W)(hv:f.vals.length<=1000)(ht:7<=tag/\tag<=17)(hp:Zn tag a b=some c):Calls Tryz.prog 148 #[.pointer (some ⟨L.M,0,none⟩),.int .i64 tag,.int .i64 a,.int .i64 b] W λe W'=>(∃u,e=.returned u)/\MRx L ⟨s,f.told c::r⟩ W'/\Chg L W W':=by
 obtain⟨fs,sv,ev,q,x⟩:=h;have w:=Js L hL s f r c W ⟨fs,sv,ev,q,x⟩ hv;have t:=hL.pairs W x.core.im;have m:=Lh w;have l:=Lh t;have aa:=x.row.cellv (i:=13) (v:=.map (some L.PB)) rfl;have n:tag=7\/tag=8\/tag=9\/tag=12\/tag=13\/tag=14\/tag=15\/tag=16\/tag=17\/tag=10\/tag=11:=by omega
 clear w x t hL q ht;rcases n with rfl|rfl|rfl|rfl|rfl|rfl|rfl|rfl|rfl|rfl|rfl
 iterate 9
  ·by_cases k:b=0
   ·have z:(b==0)=true:=by simpa using k
    clear k
    have d:=Lh (Vk _ a b c _ W rfl hp)
    clear hp
    go_enter Tryz.func148,Tryz.ntmps148
    go_wp2_with (refine ZQ rfl _ _ rfl Tryz.underlying182 Tryz.underlying3 l.out rfl _ rfl AcE ?_;simp only[Xm,JK,fnV,LL,Int.reduceEq,if_false,if_true])
    refine d.out.mono ?_
    rintro e w' ⟨rfl,rfl⟩
    go_wp2_with fail
    refine m.out.mono ?_
    rintro e y ⟨⟨u,rfl⟩,j,g⟩
    have o:=Lh g
    have p:=Lh j
    clear j g
    go_wp2
    go_end0
    exact⟨⟨_,rfl⟩,p.out,o.out⟩
   ·have z:(b==0)=false:=by simpa using k
    clear k
    have d:=Lh (Vk _ a b c _ W rfl hp)
    clear hp
    go_enter Tryz.func148,Tryz.ntmps148
    go_wp2_with (refine ZQ rfl _ _ rfl Tryz.underlying182 Tryz.underlying3 l.out rfl _ rfl AcE ?_;simp only[Xm,JK,fnV,LL,Int.reduceEq,if_false,if_true])
    refine d.out.mono ?_
    rintro e w' ⟨rfl,rfl⟩
    go_wp2_with fail
    refine m.out.mono ?_
    rintro e y ⟨⟨u,rfl⟩,j,g⟩
    have o:=Lh g
    have p:=Lh j
    clear j g
    go_wp2
    go_end0
    exact⟨⟨_,rfl⟩,p.out,o.out⟩
 all_goals
  by_cases k:b=0
  ·subst k;simp[Zn]at hp
  have z:(b==0)=false:=by simpa using k
  clear k
  have d:=Lh (Vk _ a b c _ W rfl hp)
  clear hp
  go_enter Tryz.func148,Tryz.ntmps148
  go_wp2_with (refine ZQ rfl _ _ rfl Tryz.underlying182 Tryz.underlying3 l.out rfl _ rfl AcE ?_;simp only[Xm,JK,fnV,LL,Int.reduceEq,if_false,if_true])
  refine d.out.mono ?_
  rintro e w' ⟨rfl,rfl⟩
  go_wp2_with fail
  refine m.out.mono ?_
  rintro e y ⟨⟨u,rfl⟩,j,g⟩
  have o:=Lh g
  have p:=Lh j
  clear j g
  go_wp2
  go_end0
  exact⟨⟨_,rfl⟩,p.out,o.out⟩
end Go.Proofs.YtkoikjnlpifbjaaGreat
