/- PeMxSf PeRo5f PeCoL0f PeCoL1f PeCoL2f PeIn3f PeIn4f PeIn5f PeIn5bf PeCo8f PeRo1f PeRoEf PeRo11f PeRo12f PeRo13f PeCoEf -/
import Derived.Test.YtdeeijhmpjbfcaaGreatDoorECMatE
import Derived.Test.YtdeeijhmpjbfcaaGreatDoorECMatG
import Derived.Shelf.SlGeneric
import Derived.Shelf.SlIterI.Nil
import Derived.Shelf.SortM.Plain
import Derived.Shelf.SortM.SortNone
import Derived.Ground.GgzProg
import Derived.Ground.SlgmProg
import Derived.Test.YtdeeijhmpjbfcaaGreatDoorProg
import Derived.RangeFuncNested
import Derived.RangeFuncBound
import Derived.RangeFuncCalls
import Derived.RangeFuncLeaves
import Derived.RangeFuncWrites
import Derived.Shelf.Abstract
import Derived.Shelf.RegionOpen
import Derived.WalkKit
import Derived.OwnWalkIn
import Derived.TacticsInMore
import Derived.LoopNIn
import Derived.LoopIn
import Derived.Maps.OwnIn
set_option linter.all false
namespace Go.Eng.Mp
def le(z x:Int):Prop:=dX x=false/\z<=x
def PK(x:Int):Prop:=x=-1099511627776\/dX x=false
def jC{x:Int}:dX x=false↔-549755813888<x:=by
 simp only[dX,wE];omega
def le_iff{z x:Int}:le z x↔-549755813888<x/\z<=x:=by unfold le;rw[jC]
def UX{y z x:Int}(h:y<=z)(b:le z x):le y x:=⟨b.1,by have:=b.2;omega⟩
def F2{x:Int}(h:dX x=false):le x x:=⟨h,Z⟩
def nu{z x y:Int}:le z (kb x y)↔le z x\/le z y:=by
 simp only[le_iff,kb,dX,Bool.cond_eq_ite,qC,qE];split<;>omega
def sW(x y:Int):PK (kb x y):=by
 simp only[PK,jC];simp only[kb,dX,Bool.cond_eq_ite,qC,qE];split<;>omega
def Og{z x y:Int}(h:dX x=false->dX y=false->-549755813888<x+y):le z (lz x y)↔∃u v,le u x/\le v y/\z<=u+v:=by
 constructor;intro b;simp only[jC]at h;simp only[le_iff,lz,dX,Bool.cond_eq_ite,yH,qE]at b;split at b;omega;exact⟨x,y,le_iff.2 ⟨Z,Z⟩,le_iff.2 ⟨Z,Z⟩,b.2⟩;rintro⟨u,v,f,e,b⟩;have:=h f.1 e.1;simp only[le_iff]at f e;simp only[le_iff,lz,dX,Bool.cond_eq_ite,yH,qE];split<;>omega
def YY{g:Int->Int}{z:Int}:∀n:Nat,le z (pH kb g (-1099511627776) n)↔∃k:Nat,k<n/\le z (g k)
 |0=>by simp[pH,le,dX]|n+1=>by
  simp only[pH,nu,YY n];constructor;rintro(⟨k,b,h⟩|h);exact⟨k,Z,h⟩;exact⟨n,Z,h⟩;rintro⟨k,b,h⟩;by_cases e:k=n;subst e;exact .inr h;exact .inl ⟨k,Z,h⟩
structure Bd(n:Nat)(L:Int)(m:Lj):Prop where
 sq:Sq n m
 le:n<=40
 el:∀i j:Int,0<=i->i<n->0<=j->j<n->dX (at2 m i j)=false->-L<=at2 m i j/\at2 m i j<=L
def zE2{n:Nat}{L b:Int}{m:Lj}(h:Bd n L m)(v:L<=b):Bd n b m:=
 ⟨h.sq,h.le,λi j u f r e g=>by have:=h.el i j u f r e g;omega⟩
abbrev In(n:Nat)(i:Int):Prop:=0<=i/\i<(n:Int)
def PW(m:Lj)(p:Nat->Int):Nat->Int->Prop|0,z=>z<=0|k+1,z=>∃u v,PW m p k u/\le v (at2 m (p k) (p (k+1)))/\z<=u+v
section
variable {m:Lj}{p q:Nat->Int}
def PW.down:∀{k:Nat}{y z:Int},PW m p k z->y<=z->PW m p k y|0,_,_,h,b=>qCn b h|_+1,_,_,⟨u,v,f,e,g⟩,b=>⟨u,v,f,e,Z⟩
def PW.congr:∀{k:Nat}{z:Int},(∀t,t<=k->p t=q t)->PW m p k z->PW m q k z|0,_,_,h=>h|k+1,_,e,⟨u,v,g,f,b⟩=>⟨u,v,PW.congr (λt i=>e t Z) g,by rw[<- e k Z,<- e (k+1) Z];exact f,b⟩
def PW.split(a:Nat):∀(b:Nat) {z:Int},PW m p (a+b) z->∃u v,PW m p a u/\PW m (λt=>p (a+t)) b v/\z<=u+v
 |0,z,h=>⟨z,0,h,qH _,Z⟩|b+1,z,⟨u,v,i,g,j⟩=>by
  obtain⟨f,e,g1,g2,g3⟩:=PW.split a b i;exact⟨f,e+v,g1,⟨e,v,g2,g,qH _⟩,Z⟩
def glue(p q:Nat->Int)(a:Nat):Nat->Int:=λt=>if t<=a then p t else q (t-a)
def nD{a t:Nat}(h:t<=a):glue p q a t=p t:=if_pos h
def kO{a b:Nat}(e:p a=q 0):glue p q a (a+b)=q b:=by
 unfold glue;split;have:b=0:=by omega
 subst this;simpa using e;congr 1;omega
def PW.join{a:Nat}{u:Int}(h:PW m p a u)(e:p a=q 0):∀(b:Nat) {v:Int},PW m q b v->PW m (glue p q a) (a+b) (u+v)
 |0,v,f=>by
  have f:v<=0:=f;exact(h.congr (λt g=>(nD g).symm)).down Z
 |b+1,v,⟨x,y,j,i,r⟩=>by
  refine⟨u+x,y,PW.join h e b j,?_,Z⟩;show le y (at2 m (glue p q a (a+b)) (glue p q a (a+(b+1))));rw[kO e,kO e];exact i
def W(m:Lj)(n:Nat)(t:Int)(k:Nat)(i j z:Int):Prop:=
 ∃p:Nat->Int,p 0=i/\p k=j/\(∀s,s<=k->In n (p s))/\(∀s,0<s->s<k->p s<t)/\PW m p k z
variable {n:Nat}{t:Int}
def W.ins{k:Nat}{i j z:Int}(h:W m n t k i j z):In n i/\In n j:=by
 obtain⟨p,rfl,rfl,h,_⟩:=h;exact⟨h 0 Z,h k Z⟩
def W.zero{i z:Int}(e:In n i)(b:z<=0):W m n t 0 i i z:=⟨λ_=>i,rfl,rfl,λ_ _=>e,λs g f=>Z,b⟩
def W.one{i j z:Int}(e:In n i)(b:In n j)(h:le z (at2 m i j)):W m n t 1 i j z:=
 ⟨λs=>if s=0 then i else j,rfl,rfl,λs _=>by show In n (if s=0 then i else j);split<;>assumption,λs g f=>Z,0,z,qH _,h,Z⟩
def W.down{k:Nat}{i j y z:Int}(h:W m n t k i j z)(b:y<=z):W m n t k i j y:=by
 obtain⟨p,u,r,g,f,e⟩:=h;exact⟨p,u,r,g,f,e.down b⟩
def W.mono{t':Int}{k:Nat}{i j z:Int}(h:W m n t k i j z)(x:t<=t'):W m n t' k i j z:=by
 obtain⟨p,v,u,r,g,f⟩:=h;exact⟨p,v,u,r,λs e b=>by have:=g s e b;omega,f⟩
def W.all{k:Nat}{i j z:Int}(h:W m n t k i j z):W m n n k i j z:=by
 obtain⟨p,g,f,b,v,e⟩:=h;exact⟨p,g,f,b,λs u r=>(b s Z).2,e⟩
def W.trans{a b:Nat}{i l j u v:Int}(h:W m n t a i l u)(f:W m n t b l j v)(x:l<t):W m n t (a+b) i j (u+v):=by
 obtain⟨p,G,g,A,z,y⟩:=h;obtain⟨q,g1,g2,g3,g4,L⟩:=f;have e:p a=q 0:=by rw[g,g1]
 refine⟨glue p q a,by rw[nD Z];exact G,by rw[kO e];exact g2,λs T=>?_,λs r O=>?_,y.join e b L⟩;by_cases h:s<=a;rw[nD h];exact A s h;rw[show s=a+(s-a) by omega,kO e];exact g3 _ Z;by_cases h:s<a;rw[nD Z];exact z s r h;by_cases f:s=a;subst f;rw[nD Z,g];exact x;rw[show s=a+(s-a) by omega,kO e];exact g4 _ Z Z
def W.trans'{a b:Nat}{i l j u v:Int}(h:W m n n a i l u)(e:W m n n b l j v):W m n n (a+b) i j (u+v):=h.trans e h.ins.2.2
def tS:∀(n:Nat) (f:Nat->Nat),(∀i,i<=n->f i<n)->∃a b,a<b/\b<=n/\f a=f b
 |0,f,h=>by have:=h 0 Z;omega|n+1,f,h=>by
  by_cases u:∃i,i<=n/\f i=f (n+1);obtain⟨i,j,e⟩:=u;exact⟨i,n+1,Z,Z,e⟩;have g:∀i,i<=n->f i≠f (n+1):=λi j e=>u ⟨i,j,e⟩;have y:=h (n+1) Z;obtain⟨a,b,v,x,r⟩:=tS n (λi=>if f i=n then f (n+1)else f i) (λi j=>by
   have v:=h i Z;have x:=g i j;show(if f i=n then f (n+1)else f i)<n;split<;>omega)
  have A:=g a Z;have z:=g b Z;refine⟨a,b,v,Z,?_⟩;have r:(if f a=n then f (n+1)else f a)=(if f b=n then f (n+1)else f b):=r;split at r<;>split at r<;>omega
def W.short:∀(k:Nat) {i j z:Int},W m n t k i j z->∃v r,v<n/\W m n t v i j r/\((∀k x u,W m n t k x x u->u<=0)->z<=r)
 |k,i,j,z,h=>by
  by_cases hk:k<n;exact⟨k,z,hk,h,λ_=>qH _⟩;obtain⟨p,h1,h2,g,O,h5⟩:=h;obtain⟨a,b,hab,hbn,e⟩:=tS n (λs=>(p s).toNat) (λs X=>by have:=g s Z;omega);have e:(p a).toNat=(p b).toNat:=e;have e:p a=p b:=by have:=g a Z;have:=g b Z;omega
  have L:PW m p (a+(k-a)) z:=by rw[show a+(k-a)=k by omega];exact h5
  obtain⟨u1,w,q1,q2,q3⟩:=PW.split a (k-a) L;have G:PW m (λt=>p (a+t)) ((b-a)+(k-b)) w:=by rw[show(b-a)+(k-b)=k-a by omega];exact q2
  obtain⟨u2,T,r1,A,r3⟩:=PW.split (b-a) (k-b) G;have A:PW m (λt=>p (b+t)) (k-b) T:=A.congr (λt _=>by show p (a+(b-a+t))=p (b+t);congr 1;omega);have f:W m n t (b-a) (p a) (p a) u2:=
   ⟨λt=>p (a+t),rfl,by show p (a+(b-a))=p a;rw[show a+(b-a)=b by omega,e],λs X=>g _ Z,λs V s2=>O _ Z Z,r1⟩
  have y:p a=(λt=>p (b+t)) 0:=by show p a=p (b+0);rw[xZ];exact e
  have hw:W m n t (a+(k-b)) i j (u1+T):=by
   refine⟨glue p (λt=>p (b+t)) a,by rw[nD Z];exact h1,?_,λs X=>?_,λs V s2=>?_,q1.join y _ A⟩;rw[kO y];show p (b+(k-b))=j;rw[show b+(k-b)=k by omega];exact h2;by_cases h:s<=a;rw[nD h];exact g s Z;rw[show s=a+(s-a) by omega,kO y];exact g _ Z;by_cases h:s<=a;rw[nD h];exact O s V Z;rw[show s=a+(s-a) by omega,kO y];exact O _ Z Z
  obtain⟨v,r,w1,w2,w3⟩:=W.short (a+(k-b)) hw;refine⟨v,r,w1,w2,λhc=>?_⟩;have:=w3 hc;have:=hc _ _ _ f;omega
termination_by k=>k
decreasing_by omega
def Ph(P:Nat->Prop):∀k:Nat,P k->∃a,a<=k/\P a/\∀b,b<a->¬P b
 |k,h=>by
  by_cases f:∃b,b<k/\P b;obtain⟨b,g,e⟩:=f;obtain⟨a,r,j,i⟩:=Ph P b e;exact⟨a,Z,j,i⟩;exact⟨k,Z,h,λb g e=>f ⟨b,g,e⟩⟩
termination_by k=>k
decreasing_by omega
def W.cut{k:Nat}{i j z:Int}(h:W m n (t+1) k i j z):W m n t k i j z\/∃a b u v,b<k/\W m n t a i t u/\W m n (t+1) b t j v/\z<=u+v:=by
 obtain⟨p,O,L,y,x,G⟩:=h;by_cases A:∃s,0<s/\s<k/\p s=t;obtain⟨s,V,g,f⟩:=A;obtain⟨a,a1,⟨a2,T⟩,a4⟩:=Ph (λs=>0<s/\p s=t) s ⟨V,f⟩;have r:PW m p (a+(k-a)) z:=by rw[show a+(k-a)=k by omega];exact G
 obtain⟨u,v,q1,q2,X⟩:=PW.split a (k-a) r;refine .inr ⟨a,k-a,u,v,Z,⟨p,O,T,λs hs=>y s Z,λs g f=>?_,q1⟩,⟨λs=>p (a+s),T,?_,λs hs=>y _ Z,λs g f=>x _ Z Z,q2⟩,X⟩;have:=x s g Z;have:=a4 s f;have:p s≠t:=λe=>this ⟨g,e⟩;omega;show p (a+(k-a))=j;rw[show a+(k-a)=k by omega];exact L;refine .inl ⟨p,O,L,y,λs g f=>?_,G⟩;have:=x s g f;have:p s≠t:=λe=>A ⟨s,g,f,e⟩;omega
def PW.low{L:Int}(hm:Bd n L m):∀{k:Nat}{z:Int},(∀s,s<=k->In n (p s))->PW m p k z->PW m p k (-((k:Int)*L))
 |0,_,_,_=>by show -(((0:Nat):Int)*L)<=0;simp|k+1,_,e,⟨u,v,g,f,i⟩=>by
  have a:=e k Z;have b:=e (k+1) Z;have:=hm.el _ _ a.1 a.2 b.1 b.2 f.1;refine⟨-((k:Int)*L),-L,PW.low hm (λs h=>e s Z) g,⟨f.1,Z⟩,?_⟩;have:((k+1:Nat):Int)*L=(k:Int)*L+L:=by
   rw[Int.natCast_add,Int.add_mul];simp
  omega
def W.low{L:Int}(hm:Bd n L m){k:Nat}{i j z:Int}(h:W m n t k i j z):W m n t k i j (-((k:Int)*L)):=by
 obtain⟨p,r,g,b,f,e⟩:=h;exact⟨p,r,g,b,f,e.low hm b⟩
def PW.high{L:Int}(hm:Bd n L m):∀{k:Nat}{z:Int},(∀s,s<=k->In n (p s))->PW m p k z->z<=(k:Int)*L
 |0,z,_,h=>by have h:z<=0:=h;simpa using h|k+1,z,e,⟨u,v,g,f,j⟩=>by
  have a:=e k Z;have b:=e (k+1) Z;have:=hm.el _ _ a.1 a.2 b.1 b.2 f.1;have:=PW.high hm (λs i=>e s Z) g;have:=f.2;have:((k+1:Nat):Int)*L=(k:Int)*L+L:=by
   rw[Int.natCast_add,Int.add_mul];simp
  omega
def W.high{L:Int}(hm:Bd n L m){k:Nat}{i j z:Int}(h:W m n t k i j z):z<=(k:Int)*L:=by
 obtain⟨p,r,g,e,f,b⟩:=h;exact b.high hm e
def wa(f:m.length=n){i j:Int}(e:In n i)(b:In n j):at2 (cm m 0) i j=oL m i j:=by
 show at2 (aI (oL m) m.length) i j=_;rw[f];exact iH _ _ _ _ e.1 e.2 b.1 b.2
def ER(f:m.length=n)(t:Nat){i j:Int}(e:In n i)(b:In n j):at2 (cm m (t+1)) i j=qf (cm m t) t i j:=by
 show at2 (aI (qf (cm m t) t) m.length) i j=_;rw[f];exact iH _ _ _ _ e.1 e.2 b.1 b.2
structure Fw(m:Lj)(n:Nat)(B:Int)(t:Nat):Prop where
 s:∀i j z,In n i->In n j->le z (at2 (cm m t) i j)->∃k,W m n t k i j z
 c:∀k i j z,W m n t k i j z->le z (at2 (cm m t) i j)
 lb:∀i j,In n i->In n j->dX (at2 (cm m t) i j)=false->-B<=at2 (cm m t) i j
def aFH{L:Int}(hm:Bd n L m)(r:0<=L)(t:Nat)(s:∀i j z,In n i->In n j->le z (at2 (cm m t) i j)->∃k,W m n t k i j z)
  (c:∀k i j z,W m n t k i j z->le z (at2 (cm m t) i j)):Fw m n (n*L) t:=
 ⟨s,c,λi j g f h=>by
  obtain⟨k,e⟩:=s i j _ g f (F2 h);obtain⟨b,v,y,u,_⟩:=e.short;have:=(c _ _ _ _ (u.low hm)).2;have x:(b:Int)*L<=n*L:=gW Z r;omega⟩
def fw0{L:Int}(hm:Bd n L m)(G:0<=L):Fw m n (n*L) 0:=by
 refine aFH hm G 0 (λi j z f g h=>?_) (λk i j z h=>?_);rw[wa hm.sq.len f g]at h;unfold oL at h;by_cases e:i=j;subst e;simp only[qBc,qAy,nu]at h;rcases h with h|h;exact⟨0,W.zero f h.2⟩;exact⟨1,W.one f g h⟩;simp only[e,gK,qAz,nu]at h;rcases h with h|h;simp[le,dX]at h;exact⟨1,W.one f g h⟩;obtain⟨f,g⟩:=h.ins;rw[wa hm.sq.len f g];obtain⟨p,A,r,y,x,b⟩:=h;unfold oL;match k,r,y,x,b with
 |0,r,_,_,b=>
  have e:i=j:=by rw[<- A,<- r]
  have b:z<=0:=b;simp only[e,qBc,qAy,nu];exact .inl ⟨by decide,b⟩
 |1,r,_,_,b=>
  obtain⟨u,v,g1,g2,g3⟩:=b;have g1:u<=0:=g1;simp only[zQ,A,r]at g2;have g4:le z (at2 m i j):=UX Z g2;cases decide (i=j);simp only[qAz,nu];exact .inr g4;simp only[qAy,nu];exact .inr g4
 |k+2,_,y,x,_=>
  have:=x 1 Z Z;have:=(y 1 Z).1;simp only[Int.natCast_zero]at *;omega
def aCZ{L:Int}(hm:Bd n L m)(hL:0<=L)(hB:n*L<=100000000000){t:Nat}(ht:t<n)(h:Fw m n (n*L) t)(hd:at2 (cm m t) t t<=0\/dX (at2 (cm m t) t t)=true):Fw m n (n*L) (t+1):=by
 have g:In n t:=⟨Z,Z⟩;have V:∀{i j:Int},In n i->In n j->dX (at2 (cm m t) i t)=false->dX (at2 (cm m t) t j)=false->-549755813888<at2 (cm m t) i t+at2 (cm m t) t j:=λr f e1 e2=>by
  have:=h.lb _ _ r g e1;have:=h.lb _ _ g f e2;omega
 have ret:∀(k:Nat) (j z:Int),W m n ((t:Int)+1) k t j z->le z (at2 (cm m t) t j):=by
  intro k;induction k using Nat.strongRecOn with
  |ind k ih=>
   intro j z x;rcases x.cut with x|⟨a,b,u,v,hb,A,y,e⟩;exact h.c _ _ _ _ x;have X:=h.c _ _ _ _ A;have h2:=ih b hb j v y;have:u<=0:=by
    rcases hd with hd|hd;have:=X.2;omega;rw[X.1]at hd;cases hd
   exact UX Z h2
 refine aFH hm hL (t+1) (λi j z r f e=>?_) (λk i j z x=>?_);rw[ER hm.sq.len t r f]at e;unfold qf at e;rw[nu]at e;rcases e with e|e;obtain⟨k,T⟩:=h.s _ _ _ r f e;exact⟨k,T.mono Z⟩;obtain⟨u,v,hu,hv,e⟩:=(Og (V r f)).1 e;obtain⟨k,T⟩:=h.s _ _ _ r g hu;obtain⟨k',O⟩:=h.s _ _ _ g f hv;exact⟨k+k',((T.mono (t':=((t+1:Nat):Int)) Z).trans (O.mono Z) Z).down e⟩;obtain⟨r,f⟩:=x.ins;rw[ER hm.sq.len t r f];unfold qf;rw[nu];have G:W m n ((t:Int)+1) k i j z:=by simpa using x
 rcases G.cut with x|⟨a,b,u,v,_,A,y,e⟩;exact .inl (h.c _ _ _ _ x);exact .inr ((Og (V r f)).2 ⟨u,v,h.c _ _ _ _ A,ret _ _ _ y,e⟩)
def Bc(m:Lj)(n:Nat):Prop:=∀k x u,W m n n k x x u->u<=0
def sU{s:Lj}(e:s.length=n):iF s=false↔∀i,In n i->at2 s i i<=0:=by
 unfold iF;rw[ux,e];constructor;intro h i b;have:=h i b.1 b.2;simp only[diag,wE]at this;omega;intro h k g f;have:=h k ⟨g,f⟩;simp only[diag,wE];omega
def O4{L:Int}(hm:Bd n L m)(b:0<=L)(e:n*L<=100000000000):∀t,t<=n->(∀s,s<t->iF (cm m s)=false)->Fw m n (n*L) t
 |0,_,_=>fw0 hm b|t+1,g,h=>by
  refine aCZ hm b e Z (O4 hm b e t Z (λs i=>h s Z)) (.inl ?_);have f:(cm m t).length=n:=by rw[(km m t).len,hm.sq.len]
  exact(sU f).1 (h t Z) t ⟨Z,Z⟩
def YG{L:Int}(hm:Bd n L m)(f:0<=L)(g:n*L<=100000000000)(h:∀s,s<=n->iF (cm m s)=false):Bc m n:=by
 intro k x u b;have i:=O4 hm f g n (qM _) (λs j=>h s Z);have e:(cm m n).length=n:=by rw[(km m n).len,hm.sq.len]
 have:=(i.c _ _ _ _ b).2;have:=(sU e).1 (h n (qM _)) x b.ins.1;omega
def tD{L:Int}(hm:Bd n L m)(x:0<=L)(y:n*L<=100000000000)(h:Bc m n):∀s,s<=n->iF (cm m s)=false:=by
 intro s;induction s using Nat.strongRecOn with
 |ind s e=>
  intro f;have z:=O4 hm x y s f (λr g=>e r g Z);have u:(cm m s).length=n:=by rw[(km m s).len,hm.sq.len]
  refine(sU u).2 λi b=>?_;by_cases j:at2 (cm m s) i i<=0;exact j;obtain⟨k,v⟩:=z.s i i 1 b b (le_iff.2 ⟨Z,Z⟩);have:=h k i 1 v.all;omega
def KV{L:Int}(hm:Bd n L m)(e:0<=L)(f:n*L<=100000000000):mW m=false↔Bc m n:=by
 have g:=hm.sq.len;constructor;intro h;refine YG hm e f λs b=>?_;unfold mW at h;rw[qAi]at h;simpa using h s (qW.2 Z);intro h;unfold mW;rw[qAi];intro s b;have:=tD hm e f h s (by have:=qW.1 b;omega);simp[this]
def aBT{L:Int}(hm:Bd n L m)(b:aA m=true)(e:0<=L)(f:n*L<=100000000000)(h:Bc m n):gy m=0/\dF m=cm m n:=by
 have:=(KV hm e f).2 h;simp[gy,dF,HA,b,this,hm.sq.len]
def KU(e:m.length=n):∀(t:Nat) {i j:Int},In n i->In n j->PK (at2 (cm m t) i j)
 |0,i,j,hi,b=>by
  rw[wa e hi b];unfold oL;cases decide (i=j);simp only[qAz];exact sW _ _;simp only[qAy];exact sW _ _
 |t+1,_,_,hi,b=>by rw[ER e t hi b];exact sW _ _
def L8{L:Int}(hm:Bd n L m)(b:0<=L)(e:n*L<=100000000000)(h:Bc m n){i j z:Int}(u:In n i)(r:In n j):le z (at2 (cm m n) i j)↔∃k,W m n n k i j z:=by
 have f:=O4 hm b e n (qM _) (λs v=>tD hm b e h s Z);exact⟨f.s i j z u r,λ⟨k,g⟩=>f.c k i j z g⟩
def Bc.short(h:Bc m n){k:Nat}{i j z:Int}(e:W m n n k i j z):∃b,b<n/\W m n n b i j z:=by
 obtain⟨b,u,r,g,f⟩:=e.short;exact⟨b,r,g.down (f h)⟩
def aBU{L:Int}(hm:Bd n L m)(b:0<=L)(r:n*L<=100000000000)(h:Bc m n):Bd n (n*L) (cm m n):=
 ⟨by rw[<- hm.sq.len];exact km m _,hm.le,λi j v g u f z=>by
  have x:=(L8 hm b r h ⟨v,g⟩ ⟨u,f⟩).1 (F2 z);obtain⟨k,y⟩:=x;obtain⟨e,g1,g2⟩:=h.short y;have A:(e:Int)*L<=n*L:=gW Z b;have:=g2.high hm;have:=((L8 hm b r h ⟨v,g⟩ ⟨u,f⟩).2 ⟨e,g2.low hm⟩).2;omega⟩
end
end Go.Eng.Mp
set_option maxRecDepth 100000
namespace Go.Eng.Sv
open Go.Proofs
open Go.Eng.Mp (aI b9 oN bz upto at2 ou dF gy pw)
open Go.Eng.Mp (W PW Bc)
structure Nc(q:Nat)(ls:Ll)(c:Li)(B:Int->Int->Int):Prop where
 lo:∀o d:Int,0<=o->o<q->0<=d->d<q->-1<=B o d
 same:∀o:Int,0<=o->o<q->B o o=0
 step:∀(k:Nat) (l:Line),ls[k]?=some l->c.getD k 0≠dR->∀d:Int,0<=d->d<q->0<=B (lTo l) d->0<=B (bn l) d/\B (bn l) d<=c.getD k 0+B (lTo l) d
 from_:∀o d:Int,0<=o->o<q->0<=d->d<q->o≠d->0<=B o d->∃(k:Nat) (l:Line),ls[k]?=some l/\c.getD k 0≠dR/\bn l=o/\0<=B (lTo l) d/\B o d=c.getD k 0+B (lTo l) d
structure Nb(q:Nat)(ls:Ll)(c:Li):Prop where
 pos:∀(k:Nat) (l:Line),ls[k]?=some l->c.getD k 0≠dR->0<c.getD k 0
 ends:∀(k:Nat) (l:Line),ls[k]?=some l->(0<=bn l/\bn l<q)/\0<=lTo l/\lTo l<q
def Nc.mono{q:Nat}{ls b:Ll}{c G:Li}{B L:Int->Int->Int}(h:Nc q ls c B)(x:Nb q ls c)(y:Nc q b G L)
  (X:∀(k:Nat) (l:Line),ls[k]?=some l->c.getD k 0≠dR->∃(i:Nat) (g:Line),b[i]?=some g/\G.getD i 0≠dR/\bn g=bn l/\lTo g=lTo l/\G.getD i 0<=c.getD k 0):
  ∀(f:Nat) (o d:Int),0<=o->o<q->0<=d->d<q->0<=B o d->(B o d).toNat<=f->0<=L o d/\L o d<=B o d
 |f,o,d,r,j,A,z,hB,v=>by
  by_cases e:o=d;subst e;rw[h.same o r j,y.same o r j];omega;obtain⟨k,l,u,V,T,k4,k5⟩:=h.from_ o d r j A z e hB;have hp:=x.pos k l u V;obtain⟨_,t0,t1⟩:=x.ends k l u;match f,v with
  |0,v=>omega|f+1,v=>
   obtain⟨i1,i2⟩:=h.mono x y X f (lTo l) d t0 t1 A z k4 Z;obtain⟨i,g,g1,g2,g3,g4,g5⟩:=X k l u V;obtain⟨O,s2⟩:=y.step i g g1 g2 d A z (by rw[g4];exact i1);rw[g3,T,g4]at s2;rw[g3,T]at O;exact⟨O,Z⟩
def Nc.le{q:Nat}{ls b:Ll}{c g:Li}{B i:Int->Int->Int}(h:Nc q ls c B)(v:Nb q ls c)(y:Nc q b g i)
  (u:∀(k:Nat) (l:Line),ls[k]?=some l->c.getD k 0≠dR->∃(f:Nat) (e:Line),b[f]?=some e/\g.getD f 0≠dR/\bn e=bn l/\lTo e=lTo l/\g.getD f 0<=c.getD k 0)
  {o d:Int} (r:0<=o) (j:o<q) (A:0<=d) (z:d<q) (x:0<=B o d):0<=i o d/\i o d<=B o d:=h.mono v y u _ o d r j A z x (qM _)
def IP{ls:Ll}{c:Li}{l:Line}:∀(m k:Nat),k<m->ls[k]?=some l->c.getD k 0≠dR->-(c.getD k 0)<=fR ls c m (bn l) (lTo l)
 |m+1,k,h,b,f=>by
  rw[jO];by_cases e:k=m;subst e;rw[if_pos ⟨f,by rw[qA,b];rfl,by rw[qA,b];rfl⟩];omega;have g:=IP m k Z b f;split<;>omega
def yg{ls:Ll}{c:Li}{o d:Int}:∀m:Nat,m<=ls.length->fR ls c m o d=dR\/∃(k:Nat) (l:Line),ls[k]?=some l/\c.getD k 0≠dR/\bn l=o/\lTo l=d/\fR ls c m o d=-(c.getD k 0)
 |0,_=>.inl rfl|m+1,hm=>by
  rw[jO];have b:ls[m]?=some (ls[m]'Z):=qB _;have r:ls.getD m (⟨#[]⟩,0,0,0,0,0)=ls[m]'Z:=by rw[qA,b];rfl
  split;rename_i g;rw[r]at g;rcases yg (ls:=ls) (c:=c) (o:=o) (d:=d) m Z with h|⟨k,l,j,i,f,e,u⟩;by_cases q:dR<=-(c.getD m 0);exact .inr ⟨m,_,b,g.1,g.2.1,g.2.2,by rw[h];omega⟩;left;rw[h];omega;by_cases q:fR ls c m o d<=-(c.getD m 0);exact .inr ⟨m,_,b,g.1,g.2.1,g.2.2,Z⟩;exact .inr ⟨k,l,j,i,f,e,Z⟩;exact yg m Z
def Pv(x:LC)(r j:LB)(f:Lo)(ls:Ll)(u:Lk){c:Li}(h:fN (x,r,j,f,ls,u) c):Nb f.length ls c:=by
 have L:c.length=ls.length:=h.2.1;refine⟨λk l b O=>?_,λk l b=>?_⟩;have v:k<ls.length:=(qG.1 b).1;have:=h.2.2 k Z Z;rw[qR]at this;rcases this with g|g;exact(O g).elim;exact g.1;have v:k<ls.length:=(qG.1 b).1;obtain⟨G,A,z,y,_⟩:=dd x r j f ls u h.1 (i:=k) Z Z;have e:al (x,r,j,f,ls,u) k=l:=by
  unfold al;show ls.getD (k:Int).toNat _=l;rw[qR,qA,b];rfl
 rw[e]at G A z y;exact⟨⟨G,A⟩,z,y⟩
def YX(v:LC)(r f:LB)(b:Lo)(ls:Ll)(u:Lk){c:Li}(h:fN (v,r,f,b,ls,u) c):Mp.Bd b.length 1000000 (bF (v,r,f,b,ls,u) c):=by
 have y:=(eJ v r f b ls u (aK v r f b ls u h.1)).1;have O:c.length=ls.length:=h.2.1;refine⟨oh v r f b ls u c _,Z,λi j L G A z x=>?_⟩;have e:at2 (bF (v,r,f,b,ls,u) c) i j=fR ls c (ls.length:Int).toNat i j:=jB v r f b ls u c _ L G A z;rw[e]at x ⊢;rcases ky h ls i j (ls.length:Int).toNat Z with g|g;rw[g]at x;cases x;omega
def UU(v:LC)(r f:LB)(b:Lo)(ls:Ll)(u:Lk){c:Li}(h:fN (v,r,f,b,ls,u) c){i j:Int}(A:0<=i)(z:i<b.length)(y:0<=j)(x:j<b.length):at2 (bF (v,r,f,b,ls,u) c) i j<=-1:=by
 have G:c.length=ls.length:=h.2.1;have e:at2 (bF (v,r,f,b,ls,u) c) i j=fR ls c (ls.length:Int).toNat i j:=jB v r f b ls u c _ A z y x;rw[e];rcases ky h ls i j (ls.length:Int).toNat Z with g|g;rw[g];unfold dR;omega;omega
def aAw{m:Lj}{p:Nat->Int}{q:Nat}(hm:∀i j:Int,0<=i->i<q->0<=j->j<q->at2 m i j<=-1):∀(k:Nat) (z:Int),(∀s,s<=k->Mp.In q (p s))->PW m p k z->z<=-(k:Int)
 |0,z,_,h=>by have h:z<=0:=h;omega|k+1,z,e,⟨u,v,g,f,y⟩=>by
  have r:=aAw hm k u (λs x=>e s Z) g;have a:=e k Z;have b:=e (k+1) Z;have:=hm _ _ a.1 a.2 b.1 b.2;have:=f.2;omega
def yf(r:LC)(f e:LB)(b:Lo)(ls:Ll)(g:Lk){c:Li}(h:fN (r,f,e,b,ls,g) c){t:Int}{k:Nat}{i j z:Int}(A:W (bF (r,f,e,b,ls,g) c) b.length t k i j z):z<=0:=by
 obtain⟨p,V,T,L,O,G⟩:=A;have:=aAw (λi j y x v u=>UU r f e b ls g h y x v u) k z L G;omega
def rV(A:LC)(r f:LB)(b:Lo)(ls:Ll)(y:Lk){c:Li}(h:fN (A,r,f,b,ls,y) c):Nc b.length ls c (λo d=>at2 (bf (A,r,f,b,ls,y) c) o d)/\gy (bF (A,r,f,b,ls,y) c)=0/\
  (∀o d:Int,0<=o->o<b.length->0<=d->d<b.length->at2 (dF (bF (A,r,f,b,ls,y) c)) o d=if at2 (bf (A,r,f,b,ls,y) c) o d<0 then dR else -(at2 (bf (A,r,f,b,ls,y) c) o d))/\Mp.Sq b.length (dF (bF (A,r,f,b,ls,y) c)):=by
 have l12:=(eJ A r f b ls y (aK A r f b ls y h.1)).1;have hcl:c.length=ls.length:=h.2.1;have hm:=YX A r f b ls y h;have hB:(b.length:Int)*1000000<=100000000000:=Z;have hv:Mp.aA (bF (A,r,f,b,ls,y) c)=true:=rk A r f b ls y h Z (qH _);have hN:Bc (bF (A,r,f,b,ls,y) c) b.length:=λk x u hw=>yf A r f b ls y h hw;obtain⟨e1,e2⟩:=Mp.aBT hm hv Z hB hN;have hle:∀{i j z:Int},Mp.In b.length i->Mp.In b.length j->(Mp.le z (at2 (dF (bF (A,r,f,b,ls,y) c)) i j)↔∃k,W (bF (A,r,f,b,ls,y) c) b.length b.length k i j z):=λhi hj=>by
  rw[e2];exact Mp.L8 hm Z hB hN hi hj
 have hcl2:∀{i j:Int},Mp.In b.length i->Mp.In b.length j->Mp.PK (at2 (dF (bF (A,r,f,b,ls,y) c)) i j):=λhi hj=>by
  rw[e2];exact Mp.KU hm.sq.len _ hi hj
 have hat:∀o d:Int,0<=o->o<b.length->0<=d->d<b.length->at2 (bf (A,r,f,b,ls,y) c) o d=if at2 (dF (bF (A,r,f,b,ls,y) c)) o d=dR then -1 else -(at2 (dF (bF (A,r,f,b,ls,y) c)) o d):=λo d T O L G=>by
  have:at2 (bf (A,r,f,b,ls,y) c) o d=V9 (gy (bF (A,r,f,b,ls,y) c)) (dF (bF (A,r,f,b,ls,y) c)) o d:=Mp.iH _ _ o d T O L G;rw[this];unfold V9;rw[if_pos e1]
 have X:∀o d:Int,0<=o->o<b.length->0<=d->d<b.length->(at2 (dF (bF (A,r,f,b,ls,y) c)) o d=dR/\at2 (bf (A,r,f,b,ls,y) c) o d=-1)\/(Mp.dX (at2 (dF (bF (A,r,f,b,ls,y) c)) o d)=false/\at2 (dF (bF (A,r,f,b,ls,y) c)) o d<=0/\at2 (bf (A,r,f,b,ls,y) c) o d=-(at2 (dF (bF (A,r,f,b,ls,y) c)) o d)):=λo d T O L G=>by
  have ha:=hat o d T O L G;rcases hcl2 (i:=o) (j:=d) ⟨T,O⟩ ⟨L,G⟩with g|g;left;rw[if_pos (show _=dR from g)]at ha;exact⟨g,ha⟩;right;obtain⟨k,hw⟩:=(hle ⟨T,O⟩ ⟨L,G⟩).1 (Mp.F2 g);have g':=Mp.jC.1 g;rw[if_neg (show ¬_=dR by unfold dR;omega)]at ha;exact⟨g,yf A r f b ls y h hw,ha⟩
 have hge:∀{o d:Int},0<=o->o<b.length->0<=d->d<b.length->∀{k:Nat}{z:Int},-549755813888<z->W (bF (A,r,f,b,ls,y) c) b.length b.length k o d z->0<=at2 (bf (A,r,f,b,ls,y) c) o d/\at2 (bf (A,r,f,b,ls,y) c) o d<=-z:=λ{o d} T O L G {k z} _ hw=>by
  have:=(hle ⟨T,O⟩ ⟨L,G⟩).2 ⟨k,hw⟩;rcases X o d T O L G with⟨g1,g2⟩|⟨g1,g2,g3⟩;rw[g1]at this;cases this.1;have:=this.2;omega
 have hW:∀{o d:Int},0<=o->o<b.length->0<=d->d<b.length->0<=at2 (bf (A,r,f,b,ls,y) c) o d->∃k,W (bF (A,r,f,b,ls,y) c) b.length b.length k o d (-(at2 (bf (A,r,f,b,ls,y) c) o d))/\-549755813888 < -(at2 (bf (A,r,f,b,ls,y) c) o d):=λ{o d} T O L G hb=>by
  rcases X o d T O L G with⟨g1,g2⟩|⟨g1,g2,g3⟩;omega;have e:-(at2 (bf (A,r,f,b,ls,y) c) o d)=at2 (dF (bF (A,r,f,b,ls,y) c)) o d:=by omega
  rw[e];obtain⟨k,hw⟩:=(hle ⟨T,O⟩ ⟨L,G⟩).1 (Mp.F2 g1);exact⟨k,hw,Mp.jC.1 g1⟩
 have cp:=Pv A r f b ls y h;have hstep:∀(k:Nat) (l:Line),ls[k]?=some l->c.getD k 0≠dR->∀d:Int,0<=d->d<b.length->0<=at2 (bf (A,r,f,b,ls,y) c) (lTo l) d->0<=at2 (bf (A,r,f,b,ls,y) c) (bn l) d/\at2 (bf (A,r,f,b,ls,y) c) (bn l) d<=c.getD k 0+at2 (bf (A,r,f,b,ls,y) c) (lTo l) d:=λk l hk hc d L G hb=>by
  obtain⟨⟨f0,f1⟩,t0,t1⟩:=cp.ends k l hk;have hlt:k<ls.length:=(qG.1 hk).1;have hcb:=h.2.2 k Z Z;rw[qR]at hcb;have hcb:0<c.getD k 0/\c.getD k 0<=1000000:=by
   rcases hcb with g|g;exact(hc g).elim;exact g
  obtain⟨k',hw,hz⟩:=hW t0 t1 L G hb;have ea:at2 (bF (A,r,f,b,ls,y) c) (bn l) (lTo l)=fR ls c (ls.length:Int).toNat (bn l) (lTo l):=jB A r f b ls y c _ f0 f1 t0 t1;have hge1:=IP (ls:=ls) (c:=c) (l:=l) (ls.length:Int).toNat k Z hk hc;have h1:W (bF (A,r,f,b,ls,y) c) b.length b.length 1 (bn l) (lTo l) (-(c.getD k 0)):=W.one ⟨f0,f1⟩ ⟨t0,t1⟩ (Mp.le_iff.2 ⟨by rw[ea];omega,by rw[ea];exact hge1⟩);have h2:=h1.trans' hw;have V:-549755813888 < -(c.getD k 0)+-(at2 (bf (A,r,f,b,ls,y) c) (lTo l) d):=by
   obtain⟨k2,q1,q2⟩:=hw.short;have:=q2.2;obtain⟨q3,q4⟩:=q2;have hlow:=(Mp.aBU hm Z hB hN).el (lTo l) d t0 t1 L G (by
    rcases X (lTo l) d t0 t1 L G with⟨g1,g2⟩|⟨g1,_⟩;omega;rw[<- e2];exact g1)
   rcases X (lTo l) d t0 t1 L G with⟨g1,g2⟩|⟨g1,g2,g3⟩;omega;rw[<- e2]at hlow;omega
  obtain⟨r1,r2⟩:=hge f0 f1 L G V h2;exact⟨r1,Z⟩
 refine⟨⟨λo d T O L G=>?_,λo T O=>?_,hstep,λo d T O L G hne hb=>?_⟩,e1,λo d T O L G=>?_,by rw[e2,<- hm.sq.len];exact Mp.km _ _⟩;show -1<=at2 (bf (A,r,f,b,ls,y) c) o d;rcases X o d T O L G with⟨g1,g2⟩|⟨g1,g2,g3⟩<;>omega;show at2 (bf (A,r,f,b,ls,y) c) o o=0;have:=hge T O T O Z (W.zero (m:=bF (A,r,f,b,ls,y) c) (n:=b.length) (t:=b.length) ⟨T,O⟩ (qH 0));omega;have hb:0<=at2 (bf (A,r,f,b,ls,y) c) o d:=hb;obtain⟨k,hw,hz⟩:=hW T O L G hb;obtain⟨p,p1,p2,p3,p4,p5⟩:=hw;match k,p2,p3,p4,p5 with
 |0,p2,_,_,_=>exact(hne (by rw[<- p1,<- p2])).elim|k+1,p2,p3,p4,p5=>
  rw[show k+1=1+k by omega]at p5;obtain⟨u,v,q1,q2,q3⟩:=PW.split 1 k p5;obtain⟨u',v',q4,q5,q6⟩:=q1;have q4:u'<=0:=q4;have q5:Mp.le v' (at2 (bF (A,r,f,b,ls,y) c) (p 0) (p 1)):=q5;rw[p1]at q5;obtain⟨x0,x1⟩:=p3 1 Z;have ea:at2 (bF (A,r,f,b,ls,y) c) o (p 1)=fR ls c (ls.length:Int).toNat o (p 1):=jB A r f b ls y c _ T O x0 x1;rw[ea]at q5;have V:=Mp.jC.1 q5.1;rcases yg (ls:=ls) (c:=c) (o:=o) (d:=p 1) (ls.length:Int).toNat Z with g|⟨k',l,g1,g2,g3,g4,g5⟩;rw[g]at V;unfold dR at V;omega;have hw2:W (bF (A,r,f,b,ls,y) c) b.length b.length k (p 1) d v:=⟨λt=>p (1+t),rfl,by show p (1+k)=d;rw[show 1+k=k+1 by omega];exact p2,λs hs=>p3 _ Z,λs s1 s2=>(p3 _ Z).2,q2⟩;have q8:=q5.2;have cpos:=cp.pos k' l g1 g2;obtain⟨r1,r2⟩:=hge x0 x1 L G Z hw2;refine⟨k',l,g1,g2,g3,?_,?_⟩;show 0<=at2 (bf (A,r,f,b,ls,y) c) (lTo l) d;rw[g4];exact r1;obtain⟨s1,s2⟩:=hstep k' l g1 g2 d L G (by rw[g4];exact r1);rw[g3]at s2;show at2 (bf (A,r,f,b,ls,y) c) o d=_;rw[g4]at s2 ⊢;omega
 rcases X o d T O L G with⟨g1,g2⟩|⟨g1,g2,g3⟩;rw[if_pos Z];exact g1;rw[if_neg Z];omega
end Go.Eng.Sv
namespace Go.Proofs
open Go.Shelf
def zC7:Go.Shelf.Ren:=⟨fun|7=>63|10=>125|n=>n,fun|23=>116|26=>3|3=>4|28=>93|0=>0|27=>92|33=>113|4=>4|n=>n,fun|n=>n⟩
def zD4:Go.Proofs.SlLaysZI.n7 Tryz.prog zC7:={
 mixed:=by kernel_rfl
 f7:=⟨Tryz.f63.name,by decide,Tryz.func63.trans (congrArg some (by kernel_rfl))⟩
 f10:=⟨Tryz.f125.name,by decide,Tryz.func125.trans (congrArg some (by kernel_rfl))⟩
 t0:=Tryz.underlying0
 a0:=Tryz.isAgg0
 z0:=Tryz.sizeOf0
 v0:=Tryz.zeroValue0
 t4:=Tryz.underlying4
 a4:=Tryz.isAgg4
 z4:=Tryz.sizeOf4
 v4:=Tryz.zeroValue4
 t23:=Tryz.underlying116
 a23:=Tryz.isAgg116
 z23:=Tryz.sizeOf116
 v23:=Tryz.zeroValue116
 t26:=Tryz.underlying3
 a26:=Tryz.isAgg3
 z26:=Tryz.sizeOf3
 v26:=Tryz.zeroValue3
 t27:=Tryz.underlying92
 a27:=Tryz.isAgg92
 z27:=Tryz.sizeOf92
 v27:=Tryz.zeroValue92
 t28:=Tryz.underlying93
 a28:=Tryz.isAgg93
 z28:=Tryz.sizeOf93
 v28:=Tryz.zeroValue93
 t33:=Tryz.underlying113
 a33:=Tryz.isAgg113
 z33:=Tryz.sizeOf113
 v33:=Tryz.zeroValue113}
def zC6:Go.Shelf.Ren:=⟨fun|6=>62|8=>123|9=>124|11=>185|13=>187|12=>186|23=>252|24=>253|14=>243|15=>244|16=>245|17=>246|18=>247|19=>248|20=>249|21=>250|22=>251|25=>272|26=>273|27=>274|28=>275|29=>276|30=>277|31=>291|n=>n,fun|26=>3|28=>93|24=>37|0=>0|3=>3|37=>202|48=>232|50=>234|4=>4|40=>226|39=>225|45=>203|5=>5|9=>9|51=>245|55=>249|57=>253|58=>130|33=>113|n=>n,fun|n=>n⟩
def zD5:Go.Proofs.SlLaysZI.n6 Tryz.prog zC6:={
 mixed:=by kernel_rfl
 f6:=⟨Tryz.f62.name,by decide,Tryz.func62.trans (congrArg some (by kernel_rfl))⟩
 f8:=⟨Tryz.f123.name,by decide,Tryz.func123.trans (congrArg some (by kernel_rfl))⟩
 f11:=⟨Tryz.f185.name,by decide,Tryz.func185.trans (congrArg some (by kernel_rfl))⟩
 t0:=Tryz.underlying0
 a0:=Tryz.isAgg0
 z0:=Tryz.sizeOf0
 v0:=Tryz.zeroValue0
 t24:=Tryz.underlying37
 a24:=Tryz.isAgg37
 z24:=Tryz.sizeOf37
 v24:=Tryz.zeroValue37
 t26:=Tryz.underlying3
 a26:=Tryz.isAgg3
 z26:=Tryz.sizeOf3
 v26:=Tryz.zeroValue3
 t28:=Tryz.underlying93
 a28:=Tryz.isAgg93
 z28:=Tryz.sizeOf93
 v28:=Tryz.zeroValue93
 i26:=by kernel_rfl}
def zD1:Go.Shelf.Ren:=⟨fun|5=>124|8=>187|7=>186|19=>252|20=>253|10=>243|11=>244|12=>245|13=>246|14=>247|15=>248|16=>249|17=>250|18=>251|30=>272|31=>273|32=>274|33=>275|34=>276|35=>277|40=>291|n=>n,fun|23=>37|25=>3|3=>3|32=>202|22=>37|0=>0|44=>232|46=>234|4=>4|36=>226|35=>225|41=>203|5=>5|9=>9|53=>245|57=>249|63=>253|64=>130|n=>n,fun|n=>n⟩
def zD3:Go.Proofs.SlLaysM.n5 Tryz.prog zD1:={
 mixed:=by kernel_rfl
 f5:=⟨Tryz.f124.name,by decide,Tryz.func124.trans (congrArg some (by kernel_rfl))⟩
 f7:=⟨Tryz.f186.name,by decide,Tryz.func186.trans (congrArg some (by kernel_rfl))⟩
 f8:=Tryz.func187.trans (congrArg some (by kernel_rfl))
 f10:=⟨Tryz.f243.name,by decide,Tryz.func243.trans (congrArg some (by kernel_rfl))⟩
 f11:=⟨Tryz.f244.name,by decide,Tryz.func244.trans (congrArg some (by kernel_rfl))⟩
 f12:=⟨Tryz.f245.name,by decide,Tryz.func245.trans (congrArg some (by kernel_rfl))⟩
 f13:=⟨Tryz.f246.name,by decide,Tryz.func246.trans (congrArg some (by kernel_rfl))⟩
 f14:=⟨Tryz.f247.name,by decide,Tryz.func247.trans (congrArg some (by kernel_rfl))⟩
 f15:=⟨Tryz.f248.name,by decide,Tryz.func248.trans (congrArg some (by kernel_rfl))⟩
 f16:=⟨Tryz.f249.name,by decide,Tryz.func249.trans (congrArg some (by kernel_rfl))⟩
 f17:=⟨Tryz.f250.name,by decide,Tryz.func250.trans (congrArg some (by kernel_rfl))⟩
 f18:=⟨Tryz.f251.name,by decide,Tryz.func251.trans (congrArg some (by kernel_rfl))⟩
 f19:=Tryz.func252.trans (congrArg some (by kernel_rfl))
 f20:=Tryz.func253.trans (congrArg some (by kernel_rfl))
 f30:=⟨Tryz.f272.name,by decide,Tryz.func272.trans (congrArg some (by kernel_rfl))⟩
 f31:=Tryz.func273.trans (congrArg some (by kernel_rfl))
 f32:=Tryz.func274.trans (congrArg some (by kernel_rfl))
 f33:=⟨Tryz.f275.name,by decide,Tryz.func275.trans (congrArg some (by kernel_rfl))⟩
 f34:=⟨Tryz.f276.name,by decide,Tryz.func276.trans (congrArg some (by kernel_rfl))⟩
 f35:=⟨Tryz.f277.name,by decide,Tryz.func277.trans (congrArg some (by kernel_rfl))⟩
 f40:=⟨Tryz.f291.name,by decide,Tryz.func291.trans (congrArg some (by kernel_rfl))⟩
 t0:=Tryz.underlying0
 a0:=Tryz.isAgg0
 z0:=Tryz.sizeOf0
 v0:=Tryz.zeroValue0
 t3:=Tryz.underlying3
 a3:=Tryz.isAgg3
 z3:=Tryz.sizeOf3
 v3:=Tryz.zeroValue3
 t4:=Tryz.underlying4
 a4:=Tryz.isAgg4
 z4:=Tryz.sizeOf4
 v4:=Tryz.zeroValue4
 t5:=Tryz.underlying5
 a5:=Tryz.isAgg5
 z5:=Tryz.sizeOf5
 v5:=Tryz.zeroValue5
 t9:=Tryz.underlying9
 a9:=Tryz.isAgg9
 z9:=Tryz.sizeOf9
 v9:=Tryz.zeroValue9
 t22:=Tryz.underlying37
 a22:=Tryz.isAgg37
 z22:=Tryz.sizeOf37
 v22:=Tryz.zeroValue37
 t23:=Tryz.underlying37
 a23:=Tryz.isAgg37
 z23:=Tryz.sizeOf37
 v23:=Tryz.zeroValue37
 t25:=Tryz.underlying3
 a25:=Tryz.isAgg3
 z25:=Tryz.sizeOf3
 v25:=Tryz.zeroValue3
 t32:=Tryz.underlying202
 a32:=Tryz.isAgg202
 z32:=Tryz.sizeOf202
 v32:=Tryz.zeroValue202
 t35:=Tryz.underlying225
 a35:=Tryz.isAgg225
 z35:=Tryz.sizeOf225
 v35:=Tryz.zeroValue225
 t36:=Tryz.underlying226
 a36:=Tryz.isAgg226
 z36:=Tryz.sizeOf226
 v36:=Tryz.zeroValue226
 t41:=Tryz.underlying203
 a41:=Tryz.isAgg203
 z41:=Tryz.sizeOf203
 v41:=Tryz.zeroValue203
 t44:=Tryz.underlying232
 a44:=Tryz.isAgg232
 z44:=Tryz.sizeOf232
 v44:=Tryz.zeroValue232
 t46:=Tryz.underlying234
 a46:=Tryz.isAgg234
 z46:=Tryz.sizeOf234
 v46:=Tryz.zeroValue234
 t53:=Tryz.underlying245
 a53:=Tryz.isAgg245
 z53:=Tryz.sizeOf245
 v53:=Tryz.zeroValue245
 t57:=Tryz.underlying249
 a57:=Tryz.isAgg249
 z57:=Tryz.sizeOf249
 v57:=Tryz.zeroValue249
 t63:=Tryz.underlying253
 a63:=Tryz.isAgg253
 z63:=Tryz.sizeOf253
 v63:=Tryz.zeroValue253
 t64:=Tryz.underlying130
 a64:=Tryz.isAgg130
 z64:=Tryz.sizeOf130
 v64:=Tryz.zeroValue130}
open Go.RowKit Go.Maps Go.Sort Go.Shelf
attribute [local go_sem] Oper.semAt_some
abbrev CoI:={x:Int // (Lit.int .i64 x).wf=true}
def aF4(zs:List Int)(hw:∀j:Nat,(Lit.int .i64 (zs[j]?.getD 0)).wf=true)(j:Nat):CoI:=⟨zs[j]?.getD 0,hw j⟩
def pj(zs:List Int)(hw:∀j:Nat,(Lit.int .i64 (zs[j]?.getD 0)).wf=true)(o k:Nat):List CoI:=((List.range k).filter λj=>decide (j≠o)).map (aF4 zs hw)
def Pz(zs:List Int)(hw:∀j:Nat,(Lit.int .i64 (zs[j]?.getD 0)).wf=true)(o k:Nat):(pj zs hw o k).length<=k:=by
 unfold pj;rw[List.length_map];exact Nat.le_trans (List.length_filter_le _ _) (by rw[List.length_range];exact Nat.le_refl _)
def PD{zs:List Int}{hw:∀j:Nat,(Lit.int .i64 (zs[j]?.getD 0)).wf=true}{o k:Nat}(h:k≠o):pj zs hw o (k+1)=pj zs hw o k++[aF4 zs hw k]:=by
 unfold pj;rw[List.range_succ,List.filter_append,List.map_append,List.filter_cons,if_pos (by simp[h])];rfl
def VU{zs:List Int}{hw:∀j:Nat,(Lit.int .i64 (zs[j]?.getD 0)).wf=true}{o k:Nat}(h:k=o):pj zs hw o (k+1)=pj zs hw o k:=by
 unfold pj;rw[List.range_succ,List.filter_append,List.map_append,List.filter_cons,if_neg (by simp[h])];exact List.append_nil _
def aDk{zs:List Int}{hw:∀j:Nat,(Lit.int .i64 (zs[j]?.getD 0)).wf=true}{o k:Nat}(h:k<zs.length)(ho:k≠o):(pj zs hw o k).length<(pj zs hw o zs.length).length:=by
 have e:zs.length=k+1+(zs.length-(k+1)):=by omega
 have:pj zs hw o (k+1) <+: pj zs hw o zs.length:=by
  have g:∀m:Nat,pj zs hw o (k+1) <+: pj zs hw o (k+1+m):=λm=>by
   unfold pj;rw[List.range_add (n:=k+1),List.filter_append,List.map_append];exact List.prefix_append _ _
  rw[e];exact g _
 have:=this.length_le;rw[PD ho,List.length_append]at this;simp at this;omega
def Be(n₀:Nat)(W:World)(B1 B2 o:Nat)(zs:List Int):Prop:=
 B1<n₀/\B2<n₀/\W.cell? ⟨B2,0,none⟩=some (.int .i64 o)/\∃(b1 o1 n1 c1:Nat) (a2:Option Addr) (c2:Nat),W.cell? ⟨B1,2,none⟩=some (.slice (some ⟨b1,o1,none⟩) n1 c1)/\o<n1/\b1<n₀/\
  W.cell? ⟨b1,o1+o,none⟩=some (.slice a2 zs.length c2)/\(zs.length=0\/∃b2 o2,a2=some ⟨b2,o2,none⟩/\b2<n₀/\∀j,j<zs.length->W.cell? ⟨b2,o2+j,none⟩=some (.int .i64 (zs[j]?.getD 0)))
def Be.below{n₀:Nat}{A B:World}(h:Below n₀ A B){B1 B2 o:Nat}{zs:List Int}:Be n₀ A B1 B2 o zs->Be n₀ B B1 B2 o zs:=by
 rintro⟨h1,h2,h3,b1,o1,n1,c1,a2,c2,h4,h5,h6,h7,h8⟩;refine⟨h1,h2,(h.cell (p:=⟨B2,0,none⟩) h2).trans h3,b1,o1,n1,c1,a2,c2,(h.cell (p:=⟨B1,2,none⟩) h1).trans h4,h5,h6,(h.cell (p:=⟨b1,o1+o,none⟩) h6).trans h7,?_⟩;rcases h8 with h8|⟨b2,o2,h8,h9,h10⟩;exact .inl h8;exact .inr ⟨b2,o2,h8,h9,λj hj=>(h.cell (p:=⟨b2,o2+j,none⟩) h9).trans (h10 j hj)⟩
def Be.mono{n₀ n₁:Nat}(h:n₀<=n₁){W:World}{B1 B2 o:Nat}{zs:List Int}:Be n₀ W B1 B2 o zs->Be n₁ W B1 B2 o zs:=by
 rintro⟨h1,h2,h3,b1,o1,n1,c1,a2,c2,h4,h5,h6,h7,h8⟩;refine⟨by omega,by omega,h3,b1,o1,n1,c1,a2,c2,h4,h5,by omega,h7,?_⟩;rcases h8 with h8|⟨b2,o2,h8,h9,h10⟩;exact .inl h8;exact .inr ⟨b2,o2,h8,by omega,h10⟩
set_option maxRecDepth 100000 in
set_option maxHeartbeats 4000000 in
def ZC(n:Nat)(hn:1<=n)(l B1 B2 o n₀:Nat)(zs:List Int)(hw:∀j:Nat,(Lit.int .i64 (zs[j]?.getD 0)).wf=true)(hreach:zs.length<=1000000)(J Jx:List CoI->World->Prop)
  (hY:∀pre x W,J pre W->pre.length<(pj zs hw o zs.length).length->YieldAt Fence.wide (n-1) Tryz.prog l #[.int .i64 x.1] W λe W' =>
   (e=.returned (.bool true)/\J (pre++[x]) W'/\Below n₀ W W')\/(e=.returned (.bool false)/\Jx (pre++[x]) W'))
  (W:World) (hR:Be n₀ W B1 B2 o zs) (h0:J [] W):
  CallsIn Fence.wide n Tryz.prog 61 #[.func (.yield l) #[] #[],.pointer (some ⟨B1,0,none⟩),.pointer (some ⟨B2,0,none⟩)] W λe W'=>(∃v,e=.returned v)/\
   ((∃ys,ys=pj zs hw o zs.length/\J ys W')\/(∃pre,True/\Jx pre W')):=by
 obtain⟨h1,h2,hO,b1,o1,n1,c1,a2,c2,hN,hon,hb1,hS,hZ⟩:=hR;refine callsIn_of_wp Tryz.func61 rfl trivial ?_ rfl;simp only[Tryz.ntmps61,List.size_toArray,List.length_cons,List.length_nil,Nat.reduceAdd,Nat.reduceSub,Array.replicate_succ,Array.replicate_zero,List.push_toArray,List.append_toArray,List.nil_append,List.cons_append];have ho63:(o:Int)<n1:=by omega
 gi_wp2
 gi_loopw [12] (λi wr=>∃k:Nat,k<=zs.length/\i=.int .i64 k/\J (pj zs hw o k) wr/\Below n₀ W wr)
  (λi _=>zs.length-(intOf i).toNat)
 case atStart=>exact⟨0,Nat.zero_le _,rfl,h0,Below.refl _ _⟩
 case round=>
  obtain⟨k,hk,rfl,hJs,hnx⟩:=hrel;by_cases hlt:k<zs.length;rcases hZ with hZ|⟨b2,o2,rfl,hb2,hZ⟩;omega;have hcx':wr.cell? ⟨b2,o2+k,none⟩=some (.int .i64 (zs[k]?.getD 0)):=(hnx.cell (p:=⟨b2,o2+k,none⟩) hb2).trans (hZ k hlt);have hO':wr.cell? ⟨B2,0,none⟩=some (.int .i64 o):=(hnx.cell (p:=⟨B2,0,none⟩) h2).trans hO;by_cases hko:k=o
  .subst hko
   gi_wp2
   refine⟨λ_ h=>(by cases h),?_⟩
   gi_wp2
   go_roundw
   case rel=>exact⟨k+1,by omega,by simp,by rw[VU rfl];exact hJs,hnx⟩
   case measure=>simp[intOf];omega
  obtain⟨fn,tmps,assign,body,hy,hR⟩:=hY _ (aF4 zs hw k) wr hJs (aDk hlt hko);dsimp only[aF4]at hy;generalize hx:zs[k]?.getD 0=x at hcx' hy;have hne:((k:Int) != (o:Int))=true:=by rw[bne_iff_ne];omega
  gi_wp2
  refine hR.mono ?_;rintro e W3 (⟨rfl,hJ3,hk3⟩|⟨rfl,hJx3⟩)
  .gi_wp2
   go_roundw
   case rel=>exact⟨k+1,by omega,by simp,by rw[PD hko];exact hJ3,hnx.trans hk3⟩
   case measure=>simp[intOf];omega
  .gi_wp2
   refine bodyPost_ret (results_none rfl _ _ _) rfl ?_;exact⟨⟨_,rfl⟩,.inr ⟨_,trivial,hJx3⟩⟩
  obtain rfl:k=zs.length:=by omega
  gi_wp2
  go_end0
  exact⟨⟨_,rfl⟩,.inl ⟨_,rfl,hJs⟩⟩
def ZB(n:Nat)(hn:1<=n)(B1 B2 o n₀:Nat)(zs:List Int)(hw:∀j:Nat,(Lit.int .i64 (zs[j]?.getD 0)).wf=true)(hreach:zs.length<=1000000)(w:World)(hn₀:n₀<=w.heap.size)(hR:Be n₀ w B1 B2 o zs):
  SeqStopsK Fence.wide n Tryz.prog 61 #[.pointer (some ⟨B1,0,none⟩),.pointer (some ⟨B2,0,none⟩)] (λx:CoI=>#[Value.int .i64 x.1]) (Below n₀) (λys=>ys=pj zs hw o zs.length) (λ_=>True) (pj zs hw o zs.length).length w:=λl J Jx W hW _ _ hY h0=>
 ZC n hn l B1 B2 o n₀ zs hw hreach J Jx hY W (hR.below (hW.mono hn₀)) h0
set_option maxHeartbeats 1000000 in
def aDj(n:Nat)(x:Int)(w:World):CallsIn Fence.wide n Tryz.prog 65 #[.int .i64 x] w λe w'=>e=.returned (.bool (x != -1))/\w'=w:=by
 refine callsIn_of_wp Tryz.func65 rfl trivial ?_ rfl;simp only[Tryz.ntmps65,List.size_toArray,List.length_cons,List.length_nil,Nat.reduceAdd,Nat.reduceSub,Array.replicate_succ,Array.replicate_zero,List.push_toArray,List.append_toArray,List.nil_append,List.cons_append]
 gi_wp2
 go_ret
 exact⟨rfl,rfl⟩
def cell_of_box_c{W:World}{B:Nat}{v:Value}{t:TypeId}(h:W.heap[B]?=some (.cells #[v] t (0,0))):W.cell? ⟨B,0,none⟩=some v/\W.frozen? ⟨B,0,none⟩=false:=by
 constructor<;>simp[World.cell?,World.frozen?,h]
def cell_new_c(W:World)(v:Value)(t:TypeId):(W.alloc (.cells #[v] t)).cell? ⟨W.heap.size,0,none⟩=some v/\(W.alloc (.cells #[v] t)).frozen? ⟨W.heap.size,0,none⟩=false:=
 cell_of_box_c (World.alloc_heap_new W _)
def cell_alloc_c{W:World}{a:Addr}{v:Value}(o:Obj)(h:W.cell? a=some v):(W.alloc o).cell? a=some v:=cell_kept h (World.grownBy_alloc W o none) (λr e=>by cases e)
def coD(xs:List CoI):DataW Unit:=xs.foldl (λD x=>if x.1=-1 then D else D.put (.int .i64 x.1) (.lit (.bool true))) (.map [])
def PE(pre:List CoI)(x:CoI):coD (pre++[x])=if x.1=-1 then coD pre else(coD pre).put (.int .i64 x.1) (.lit (.bool true)):=by simp[coD]
set_option maxRecDepth 100000 in
set_option maxHeartbeats 4000000 in
def Rk(n:Nat)(hn:3<=n)(B1 B2 o:Nat)(zs:List Int)(hw:∀j:Nat,(Lit.int .i64 (zs[j]?.getD 0)).wf=true)(hreach:zs.length<=1000000)(w:World)(hR:Be w.heap.size w B1 B2 o zs):
  CallsIn Fence.wide n Tryz.prog 64 #[.func (.func 61) #[] #[.pointer (some ⟨B1,0,none⟩),.pointer (some ⟨B2,0,none⟩)],.func (.func 65) #[] #[]] w λe W'=>e=.returned (.map (some (w.heap.size+1)))/\
   W'.ownsMap Tryz.prog 3 (plainElem (H:=Unit) Tryz.prog 4) (w.heap.size+1) (pj zs hw o zs.length).length (coD (pj zs hw o zs.length))/\Below w.heap.size w W':=by
 have h1:1<=n:=by omega
 have hmm:=@run_makeMap Tryz.prog;refine callsIn_of_wp_marks Tryz.func64 rfl trivial ?_ rfl;simp only[Tryz.ntmps64,List.size_toArray,List.length_cons,List.length_nil,Nat.reduceAdd,Nat.reduceSub,Array.replicate_succ,Array.replicate_zero,List.push_toArray,List.append_toArray,List.nil_append,List.cons_append]
 gi_wp2
 have cG:=cell_new_c w (.func (.func 65) #[] #[]) 113;have hm0:=World.ownsMap_made (w.alloc (.cells #[.func (.func 65) #[] #[]] 113)) Tryz.prog 3 (plainElem (H:=Unit) Tryz.prog 4);have cS:=cell_new_c ((w.alloc (.cells #[.func (.func 65) #[] #[]] 113)).alloc (.map #[] 0)) (.map (some (w.heap.size+1))) 116;simp only[World.size_alloc]at cS hm0;have hB0:Below w.heap.size w (((w.alloc (.cells #[.func (.func 65) #[] #[]] 113)).alloc (.map #[] 0)).alloc (.cells #[.map (some (w.heap.size+1))] 116)):=(((Below.refl _ w).alloc (Nat.le_refl _) _).alloc (by simp) _).alloc (by simp;omega) _;refine wpIn_rangeFunc_ownG rfl h1 (gf:=61) (lb:=#[.pointer (some ⟨B1,0,none⟩),.pointer (some ⟨B2,0,none⟩)]) rfl trivial (enters_of Tryz.func61 (by kernel_rfl) rfl)
  (ZB (n-1) (by omega) B1 B2 o w.heap.size zs hw hreach _ (by simp;omega) (hR.below hB0)) belowK_t (belowK_b (by simp;omega)) (Below.refl _ _) (λ_=>rfl)
  (λpre W=>(W.cell? ⟨w.heap.size,0,none⟩=some (.func (.func 65) #[] #[])/\W.cell? ⟨w.heap.size+1+1,0,none⟩=some (.map (some (w.heap.size+1)))/\W.ownsMap Tryz.prog 3 (plainElem (H:=Unit) Tryz.prog 4) (w.heap.size+1) pre.length (coD pre))/\Below w.heap.size w W)
  (λ_ _ _=>False)
  (OwnFrom.and (λs A B row hs hg hr=>⟨cell_kept hs.1 hg (λr e=>(hr r e).2),cell_kept hs.2.1 hg (λr e=>(hr r e).2),hs.2.2.kept hg (λe=>by have:=(hr _ e.symm).1;simp at this;omega)⟩) (ownFrom_below (Nat.le_refl _) (by simp;omega)))
  (λ_ _ _ _ _ hs _ _=>hs)
  ⟨⟨cell_alloc_c _ (cell_alloc_c _ cG.1),cS.1,hm0.alloc _⟩,hB0⟩
  (λx=>{tmps:=#[.func (.func 61) #[] #[.pointer (some ⟨B1,0,none⟩),.pointer (some ⟨B2,0,none⟩)],.func (.func 65) #[] #[],undef,.pointer (some ⟨w.heap.size,0,none⟩),.map none,.pointer (some ⟨w.heap.size+1+1,0,none⟩),.int .i64 x.1,.map (some (w.heap.size+1)),.func (.func 61) #[] #[.pointer (some ⟨B1,0,none⟩),.pointer (some ⟨B2,0,none⟩)],.int .i64 x.1,undef,undef,undef,undef,undef,undef],defers:=[]}) ?assign ?body ?done ?stop
 case assign=>
  intro l x W K hK
  gi_wp2
  exact hK
 case body=>
  rintro l pre x W ⟨⟨hg,hc,hown⟩,hB⟩ hlt;have hlen:=Pz zs hw o zs.length;have hmax:pre.length<maxLen:=by unfold maxLen;omega
  gi_wp2
  refine⟨trivial,λ_=>by omega,(CallsIn.inRound l (aDj _ x.1 _)).mono ?_⟩;rintro e w' ⟨rfl,rfl⟩
  gi_wp2_with (gi_at_mapUpdate;refine wpListIn_mapUpdate_own _ rfl _ _ _ 116 rfl 3 4 (Maps.int_keyed Tryz.underlying3) Tryz.underlying116 _ (w.heap.size+1) pre.length _ rfl hown hmax _ _ _ rfl rfl (Maps.keyOf_int_mk Tryz.underlying3 x.2) _ [] (plainElem_bool Tryz.underlying4 true) ?_;intro w1 hown1 hgrow1)
  have hx:x.1≠-1:=by rename_i h;simpa using h
  obtain⟨es,ck,hh,_⟩:=hown;refine⟨KeepsFrom.of_grownBy hgrow1 (λj e=>by cases e;simp),(Below.refl _ _).grown hgrow1 hB.size (λk e=>by cases e;omega),
   ⟨cell_kept hg hgrow1 (λr e=>by cases e;exact⟨_,hh,rfl⟩),cell_kept hc hgrow1 (λr e=>by cases e;exact⟨_,hh,rfl⟩),by rw[PE,if_neg hx,List.length_append];exact hown1⟩,hB.grown hgrow1 hB.size (λk e=>by cases e;omega)⟩
  have hx:x.1=-1:=by rename_i h;simpa using h
  exact⟨KeepsFrom.refl _ _,Below.refl _ _,⟨hg,hc,by rw[PE,if_pos hx,List.length_append];exact hown.mono (Nat.le_add_right _ _)⟩,hB⟩
 case done=>
  rintro D ys W hD rfl ⟨⟨hg,hc,hown⟩,hB⟩ hK
  gi_wp2
  refine⟨by simp,.inl ⟨_,_,rfl,run_takeDeferred hK,?_⟩⟩;exact⟨_,results_tmp rfl _ _ _,rfl,hown.kept (grownBy_putObj' _ D _) (λe=>by cases e;simp at hD;omega),hB.trans (belowK_b (w:=w) (Nat.le_refl _) W D _ _ (by simp at hD;omega) hK rfl rfl)⟩
 case stop=>
  rintro D c pre W _ _ h _;exact h.elim
def zD6(m:Nat):AnyZI.SortsIn Tryz.prog zC6 Fence.wide m:=
 ⟨λblk off cap ss W hH hblk hsz=>callsIn_wide.2 (AnyM.slices_Sort_int zD3 blk off cap ss W hH hblk hsz),
  λp cap W=>callsIn_wide.2 (AnyM.slices_Sort_int_none zD3 p cap W)⟩
def MW{y:Int}:∀(xs:List CoI) (D:DataW Unit),IsMap D->(has (xs.foldl (λD x=>if x.1=-1 then D else D.put (.int .i64 x.1) (.lit (.bool true))) D) (.int .i64 y)=true↔has D (.int .i64 y)=true\/(y≠-1/\y∈xs.map Subtype.val))
 |[],D,_=>by simp|x::xs,D,hD=>by
  rw[List.foldl_cons];by_cases hx:x.1=-1;rw[if_pos hx,MW xs D hD,List.map_cons,List.mem_cons,hx];constructor;rintro(h|⟨h,g⟩);exact .inl h;exact .inr ⟨h,.inr g⟩;rintro(h|⟨h,g|g⟩);exact .inl h;exact absurd g h;exact .inr ⟨h,g⟩;rw[if_neg hx,MW xs _ (hD.put _ _),List.map_cons,List.mem_cons];by_cases hy:y=x.1;subst hy;rw[has_put_same hD (by simp[WideAt.IsKeyLit])];exact⟨λ_=>.inr ⟨hx,.inl rfl⟩,λ_=>.inl rfl⟩;rw[has_put_other (by simpa using hy)];constructor;rintro(h|⟨h,g⟩);exact .inl h;exact .inr ⟨h,.inr g⟩;rintro(h|⟨h,g|g⟩);exact .inl h;exact absurd g hy;exact .inr ⟨h,g⟩
set_option maxRecDepth 100000 in
set_option maxHeartbeats 4000000 in
def ZD(cs:Array Value)(o:Nat)(zs:List Int)(hw:∀j:Nat,(Lit.int .i64 (zs[j]?.getD 0)).wf=true)(hreach:zs.length<=1000000)(gs:List Int)(hgs:gs.Pairwise (· < ·))(hmem:∀y,y∈gs↔y≠-1/\y∈(pj zs hw o zs.length).map Subtype.val)(w:World)
  (hR:∀w1,w1=(w.alloc (.cells cs 33)).alloc (.cells #[.int .i64 o] 3)->Be w1.heap.size w1 w.heap.size (w.heap.size+1) o zs):
  Calls Tryz.prog 31 #[.agg cs,.int .i64 o] w λe w'=>∃(v:Value),e=.returned v/\
   w'.ownsRow w.heap.size 3 1 v gs.length (gs.map encZ)/\(v=.slice none 0 0↔gs=[])/\Below w.heap.size w w':=by
 refine(callsIn_wide (n:=6)).1 ?_;refine callsIn_of_wp Tryz.func31 rfl trivial ?_ rfl;simp only[Tryz.ntmps31,List.size_toArray,List.length_cons,List.length_nil,Nat.reduceAdd,Nat.reduceSub,Array.replicate_succ,Array.replicate_zero,List.push_toArray,List.append_toArray,List.nil_append,List.cons_append]
 gi_wp2
 obtain⟨w1,hw1⟩:∃w1,(w.alloc (.cells cs 33)).alloc (.cells #[.int .i64 o] 3)=w1:=⟨_,rfl⟩;have hR:=hR w1 hw1.symm;have hs1:w1.heap.size=w.heap.size+1+1:=by rw[<- hw1];simp
 have hB1:Below w.heap.size w w1:=by rw[<- hw1];exact((Below.refl _ w).alloc (Nat.le_refl _) _).alloc (by simp) _
 rw[hw1];refine⟨trivial,(Rk 5 (by omega) w.heap.size (w.heap.size+1) o zs hw hreach w1 hR).mono ?_⟩;rintro e w2 ⟨rfl,hown,hB2⟩;rw[hs1]at hB2 hown;have hcl:=Pz zs hw o zs.length;have hmax:Maps.size (coD (pj zs hw o zs.length))<=maxLen:=Nat.le_trans hown.size_le (by unfold maxLen;omega);have hbytes:Maps.size (coD (pj zs hw o zs.length))*8<=140737488355328:=Nat.le_trans (Nat.mul_le_mul_right 8 hown.size_le) (by omega);have hbl:=hown.lt;have hseq:SeqGives Fence.wide 2 Tryz.prog 125 #[.pointer (some ⟨w2.heap.size,0,none⟩)] encZ (λss=>ss.Perm (intKeys (coD (pj zs hw o zs.length)))) (Maps.size (coD (pj zs hw o zs.length))) (w2.alloc (.cells #[.map (some (w.heap.size+1+1+1))] 116)):=
  AnyZI.keys_gives (ρ:=zC7) {zD4 with} Fence.wide _ trivial rfl (by omega) w2.heap.size (w.heap.size+1+1+1) (pj zs hw o zs.length).length (coD (pj zs hw o zs.length)) _ (by simp) (by simp) (by
   obtain⟨es,clock,hb,Ft,hs,hD⟩:=hown;exact⟨es,clock,(Below.heap_alloc _ _ _ hbl).trans hb,Ft,hs,hD⟩)
 have cK:∀mb W,CallsIn Fence.wide 5 Tryz.prog 63 #[.map mb] W λe w'=>e=.returned (.func (.func 125) #[] #[.pointer (some ⟨W.heap.size,0,none⟩)])/\w'=W.alloc (.cells #[.map mb] 116):=λmb W=>AnyZI.keys_in zD4 Fence.wide 5 trivial rfl mb W;have cS:=AnyZI.sorted_in zD5 Fence.wide 5 trivial trivial trivial trivial rfl (by omega) (zD6 _) (enters_of Tryz.func124 (by kernel_rfl) rfl) 125 #[.pointer (some ⟨w2.heap.size,0,none⟩)] trivial (enters_of Tryz.func125 (by kernel_rfl) rfl) _ _ hmax hbytes _ hseq;change CallsIn _ _ Tryz.prog 62 _ _ _ at cS;have hfK:Fence.wide.fn 63:=trivial;have hfS:Fence.wide.fn 62:=trivial
 gi_wp2_with (first
  |(gi_at_call 63;refine(cK _ _).mono ?_;rintro e w' ⟨rfl,rfl⟩)
  |(gi_at_call 62;refine cS.mono ?_;rintro e w' ⟨v,ss,rfl,hS,hrow,hnil,hb⟩))
 go_ret
 have hP:gs.Perm (intKeys (coD (pj zs hw o zs.length))):=CollectedI.perm (left:=λ_=>false) ⟨hgs.imp (λh=>Int.ne_of_lt h),λx=>by
  rw[hmem x];unfold coD;rw[MW _ _ isMap_empty];exact⟨λh=>⟨.inr h,rfl⟩,λ⟨h,_⟩=>h.resolve_left (by simp[has_eq])⟩⟩ hown (Maps.int_keyed Tryz.underlying3) Tryz.underlying3 (λ_=>rfl)
 have hP:gs.Perm ss:=hP.trans hS.symm;have hM:ss.mergeSort (λx y=>decide (x<=y))=gs:=(mergeSort_of_perm_i hP.symm).trans (List.mergeSort_of_pairwise (hgs.imp (λh=>decide_eq_true (Int.le_of_lt h))));rw[hM]at hrow;have hl:=hP.length_eq;rw[<- hl]at hrow;have hB3:Below w.heap.size w w2:=hB1.trans (hB2.mono (by omega));have hs2:=hB3.size;refine⟨v,rfl,ownsRow_base_a hrow (by simp;omega),hnil.trans ⟨λh=>(by subst h;exact hP.eq_nil),λh=>(by subst h;exact hP.symm.eq_nil)⟩,(hB3.alloc (by omega) _).trans (hb.mono (by simp;omega))⟩
end Go.Proofs
namespace Go.Eng.Sv
open Go.Proofs
open Go.RowKit
def WW{x:Int}(h:-1<=x/\x<=1000000):(Lit.int .i64 x).wf=true:=by
 have e:IntKind.min .i64=-9223372036854775808:=by decide
 have b:IntKind.max .i64=9223372036854775807:=by decide
 simp only[Lit.wf,e,b,qC,qE];omega
def BX:pF:=by
 rintro p o ⟨o0,o1,o2,o3⟩ w D E us hD hG O hH;obtain⟨u1,us,rfl,⟨ps,rfl,hps⟩,u2,us,rfl,h2,rfl⟩:=O;obtain⟨v1,_,rfl,_,v2,_,rfl,_,v3,_,rfl,h3,v4,_,rfl,_,rfl⟩:=hps;have h2:[u2]=[Value.int .i64 o]:=h2;cases h2;obtain⟨ao,r,e3,_,_,hsp,x⟩:=h3;cases e3;have at_:(p.2.2.1)[o.toNat]?=some (cj p o):=by
  unfold cj;rw[qA,qB Z,qK]
 obtain⟨a,ue,rfl,ha,hca,bo,cp2,rfl,_,_,V,X⟩:=x o.toNat (cj p o) at_;have sp:=hsp a rfl Z;have hw:∀j:Nat,(Lit.int .i64 ((cj p o)[j]?.getD 0)).wf=true:=λj=>by
  have:=o3 j;rw[qA]at this;exact WW this
 have eo:((o.toNat:Nat):Int)=o:=Z;have mem:∀y,y∈rZ p o↔y≠-1/\y∈(pj (cj p o) hw o.toNat (cj p o).length).map Subtype.val:=λy=>by
  unfold rZ W9 pj;rw[Gt,yI,qE,and_comm,List.map_map];have e:((List.range (cj p o).length).filter λd:Nat=>decide ((d:Int)≠o))=(List.range (cj p o).length).filter λd=>decide (d≠o.toNat):=by
   congr 1;funext d;rw[qBm];omega
  rw[e];have f:(λd:Nat=>(cj p o).getD d 0)=Subtype.val∘aF4 (cj p o) hw:=by
   funext d;exact qA
  rw[f]
 have hc:=ZD #[v1,v2,.slice (some a) p.2.2.1.length r,v4] o.toNat (cj p o) hw Z (rZ p o) (mx _) mem w λw1 z=>by
  have hB:Go.RowKit.Below w.heap.size w w1:=by rw[z];exact((Go.RowKit.Below.refl _ w).alloc (qM _) _).alloc (by simp) _
  have s1:w1.heap.size=w.heap.size+1+1:=by rw[z];simp
  have c1:w1.heap[w.heap.size]?=some (.cells #[v1,v2,.slice (some a) p.2.2.1.length r,v4] 33 (0,0)):=by
   rw[z];exact(Go.RowKit.Below.heap_alloc _ _ _ (by simp)).trans (World.alloc_heap_new w _)
  have c2:w1.heap[w.heap.size+1]?=some (.cells #[.int .i64 o] 3 (0,0)):=by
   have:=World.alloc_heap_new (w.alloc (.cells #[v1,v2,.slice (some a) p.2.2.1.length r,v4] 33)) (.cells #[.int .i64 ((o.toNat:Nat):Int)] 3);rw[yG,eo]at this;rw[z,eo];exact this
  refine⟨Z,Z,by rw[eo];simp[World.cell?,c2],a.block,a.off,p.2.2.1.length,r,bo,cp2,?_,Z,by have:=hD _ ha;omega,?_,?_⟩;obtain⟨b,f,s⟩:=a;have sp:s=none:=sp;subst sp;simp[World.cell?,c1];have:=hca 0 _ rfl;exact(hB.cell (p:=⟨a.block,a.off+o.toNat*1+0,none⟩) (hD _ ha)).trans this |> λh=>by
   rw[show a.off+o.toNat*1+0=a.off+o.toNat by omega]at h;exact h
  by_cases hz:(cj p o).length=0;exact .inl hz;have at0:(cj p o)[0]?=some ((cj p o).getD 0 0):=by
   rw[qA,qB Z,qK]
  obtain⟨A,_,e2,hb2,_⟩:=X 0 _ at0;subst e2;have G:=V A rfl Z;refine .inr ⟨A.block,A.off,?_,by have:=hD _ hb2;omega,λj T=>?_⟩;obtain⟨b,f,s⟩:=A;have G:s=none:=G;subst G;rfl;have atj:(cj p o)[j]?=some ((cj p o)[j]?.getD 0):=by
   rw[qB T,qK]
  obtain⟨a3,ue3,e3,hb3,hc3,L⟩:=X j _ atj;cases e3;have L:ue3=[Value.int .i64 ((cj p o)[j]?.getD 0)]:=L;subst L;have:=hc3 0 _ rfl;have h:=(hB.cell (p:=⟨A.block,A.off+j*1+0,none⟩) (hD _ hb3)).trans this;rw[show A.off+j*1+0=A.off+j by omega]at h;exact h
 rw[eo]at hc;refine hc.mono ?_;rintro e w' ⟨v,rfl,x,hnil,hB⟩;refine⟨v,λb=>D b\/iV w w' b,E,rfl,⟨(Chg.refl _ _).below hB,λ_ h=>.inl h,λb h=>h.imp id λh=>.inl h.1,λb h=>h.elim (λh=>qZ (hD b h) hB.size) λh=>h.2,zC9 _ _ _ _,λnm b b' g=>(by cases g),λnm b b' g=>(by cases g),λnm b _ g=>(by cases g),λnm i b g=>(mf g).elim⟩,?_⟩;show ∃(ao:Option Addr) (r:Nat),[v]=[.slice ao (rZ p o).length r]/\_;obtain⟨_,⟨rfl,h0⟩|⟨g,r,cur,rfl,hg,hb,hcap,_,hsz,htk⟩⟩:=x;have h0:rZ p o=[]:=vY h0;rw[h0];exact⟨none,0,rfl,qM _,λ_=>rfl,λ_ h=>(by cases h),λi y h=>(by cases h)⟩;refine⟨_,r,rfl,hcap,λh=>(by cases h),λa h _=>(by cases h;rfl),λi y hy=>⟨_,[Value.int .i64 y],rfl,.inr ⟨hg,(vV.1 hb).1⟩,λj u T=>?_,rfl⟩⟩;cases j with
 |succ j=>cases T
 |zero=>
  have T:some (Value.int .i64 y)=some u:=T;cases T;show w'.cell? ⟨g,0+i*1+0,none⟩=_;have hi:i<(rZ p o).length:=(qG.1 hy).1;have e:(cur.toList.take ((rZ p o).length*1))[i]?=some (Value.int .i64 y):=by
   rw[htk,qX,hy];rfl
  rw[List.getElem?_take_of_lt Z,yP]at e;have hi2:0+i*1+0<cur.size:=Z;rw[show 0+i*1+0=i by omega]at hi2 ⊢;simp[World.cell?,hb,e]
end Go.Eng.Sv
noncomputable section
namespace Go.Eng.In
open Go.Proofs
abbrev Of:Ty:=.pair S (.pair I (.pair I (.pair I (.pair I (.pair I (.sl S))))))
abbrev Ln:Ty:=.pair S (.pair I (.pair I (.pair I (.pair I I))))
abbrev Kl:Ty:=.pair S (.pair I I)
abbrev N:Ty:=.pair (.sl C) (.pair (.sl S) (.pair (.sl S) (.pair (.sl Of) (.pair (.sl Ln) (.sl Kl)))))
abbrev Cal:=Int×List Bool×Li
abbrev Off:=ByteArray×Int×Int×Int×Int×Int×List ByteArray
abbrev Line:=ByteArray×Int×Int×Int×Int×Int
abbrev Cla:=ByteArray×Int×Int
abbrev Net:=List Cal×List ByteArray×List ByteArray×List Off×List Line×List Cla
def pM(c:Cal):Bool:=ic c.1 c.2.1 c.2.2
def nb(n:Net)(o:Off):Bool:=(btw o.2.2.1 0 ((n.1.length:Int)-1)&&btw o.2.2.2.2.1 1 1000)&&btw o.2.2.2.2.2.1 1 1000
def pE(n:Net)(x:Int):Bool:=btw x 0 ((n.2.2.2.1.length:Int)-1)
def nt(n:Net)(l:Line):Bool:=((pE n l.2.1&&pE n l.2.2.1)&&btw l.2.2.2.1 0 1439)&&btw l.2.2.2.2.1 1 100000
def nK(k:Cla):Bool:=btw k.2.1 0 1439&&btw k.2.2 0 1439
def usF(n:Net):Bool:=((n.1.all pM&&n.2.2.2.1.all (nb n))&&n.2.2.2.2.1.all (nt n))&&n.2.2.2.2.2.all nK
def G9(n:Net):Prop:=((n.1.length<=2000000000000000/\n.2.2.2.1.length<=2000000000000000)/\n.2.2.2.2.1.length<=2000000000000000)/\n.2.2.2.2.2.length<=2000000000000000
def ZN(n:Net)(k:Int):Prop:=0<=k/\k<=n.1.length/\(n.1.take k.toNat).all pM=true
def YA(n:Net)(k:Int):Prop:=0<=k/\k<=n.2.2.2.1.length/\(n.2.2.2.1.take k.toNat).all (nb n)=true
def YS(n:Net)(k:Int):Prop:=0<=k/\k<=n.2.2.2.2.1.length/\(n.2.2.2.2.1.take k.toNat).all (nt n)=true
def ZH(n:Net)(k:Int):Prop:=0<=k/\k<=n.2.2.2.2.2.length/\(n.2.2.2.2.2.take k.toNat).all nK=true
def fL(n:Net)(l:Int):Line:=n.2.2.2.2.1.getD l.toNat (⟨#[]⟩,0,0,0,0,0)
def mE(n:Net)(o l:Int):Bool:=decide (l=-1)||(decide (l<n.2.2.2.2.1.length)&&decide ((fL n l).2.1=o))
def pB(n:Net)(o:Int)(r:Li):Bool:=r.all (mE n o)
def Pe(n:Net)(p:Plan):Bool:=(decide (p.2.2.1.length=n.2.2.2.1.length)&&decide (p.2.2.2.length=n.2.2.2.2.2.length))&&(List.range p.2.2.1.length).all λi=>pB n i (p.2.2.1.getD i [])
def nxP(p:Plan):Prop:=p.2.2.1.length<=2000000000000000/\∀r∈p.2.2.1,r.length<=2000000000000000/\∀x∈r,-1<=x
def aGO(n:Net)(p:Plan)(k:Int):Prop:=0<=k/\k<=p.2.2.1.length/\∀i:Nat,(i:Int)<k->pB n i (p.2.2.1.getD i [])=true
def YD(n:Net)(o:Int)(r:Li)(k:Int):Prop:=0<=k/\k<=r.length/\(r.take k.toNat).all (mE n o)=true
def lK(c:Li×Int):Bool:=ig c.1 c.2&&pR c.1
def FM(c:Li×Int):Int:=if ig c.1 c.2 then 190 else 180
def Im(c:Li×Int):Prop:=L1 c.1
def MV(args:List AV)(m:Mem):Option jY:=match args,m with|[.ifc t (.dat (.int .i64) e)],[]=>if t=40 then some ⟨True,.dat I e,[]⟩else none|_,_=>none
def aJs:Kt:=kOr 35 MV aKo
def c9:Cfg:=QG aJs (λt=>t==12) KP8 (λf=>f==37||f==69)
abbrev Ol:=aj [.val I] (λ_=>True) λ(x,_)=>.dat .bool (btw x 0 1439)
abbrev Oj:=aj [.val I,.bp N] (λ(_,n,_)=>G9 n) λ(x,n,_)=>.dat .bool (pE n x)
def aGA:Kt:=kOr 70 Ol <|
 kOr 72 Oj aJs
def usA(n:Net):Ann:=⟨λb s=>match b with
 |4=>some {α:=Int,inv:=λk=>ZN n k,st:=λk=>put {gv s with mem:=[]} [(19,.dat I k),(6,.top)],μ:=λk=>Dc (Di (Df n.1) k)}
 |10=>some {α:=Int,inv:=λk=>YA n k,st:=λk=>put {gv s with mem:=[]} [(32,.dat I k),(8,.top)],μ:=λk=>Dc (Di (Df n.2.2.2.1) k)}
 |16=>some {α:=Int,inv:=λk=>YS n k,st:=λk=>put {gv s with mem:=[]} [(64,.dat I k),(10,.top)],μ:=λk=>Dc (Di (Df n.2.2.2.2.1) k)}
 |22=>some {α:=Int,inv:=λk=>ZH n k,st:=λk=>put {gv s with mem:=[]} [(99,.dat I k),(12,.top)],μ:=λk=>Dc (Di (Df n.2.2.2.2.2) k)}
 |_=>none,λ_ _=>none,λ_ _=>none⟩
def aKJ(n:Net)(p:Plan):Ann:=⟨λb s=>match b with
 |4=>some {α:=Int,inv:=λk=>aGO n p k,st:=λk=>put (gv s) [(38,.dat I k)],μ:=λk=>Dc (Di (Df p.2.2.1) k)}|7=>match s.sig.T 5,s.sig.T 6 with
  |.dat (.int .i64) o,.dat (.sl (.int .i64)) r=>some {α:=Int,inv:=λk=>YD n o r k,st:=λk=>put (gv s) [(45,.dat I k)],μ:=λk=>Dc (Di (Df r) k)}|_,_=>none
 |_=>none,λ_ _=>none,λ_ _=>none⟩
def ZA:∀args m c,MV args m=some c->ah yv iU 35 args m c:=by
 intro args m c h;unfold MV at h;split at h;split at h;rename_i e;subst e;cases h;exact aED _;cases h;cases h
def Z4:ai yv iU aJs:=af ZA aJi
def gM(s:Int)(l:Li):ah yv iU 36 [.agg [.dat R l,.dat I s]] [] ⟨Im (l,s)/\lK (l,s)=true,.tup [.agg [.dat I (aC l).1,.dat I (aC l).2.1,.dat M (aC l).2.2.1,.dat (.sl M) (aC l).2.2.2],.ptr 1 1 0 0],[(1,.var [.dat R (cz l)])]⟩/\
  dA yv iU 36 [.agg [.dat R l,.dat I s]] [] ⟨Im (l,s),lK (l,s),eZ 40 (FM (l,s))⟩:=by
 refine zM (c:=c9) (A:=az) (q:=⟨Im (l,s),lK (l,s),eZ 40 (FM (l,s))⟩) Z4 gC hm aGt (p:=let b:=(l,s);let e:=lK b;let g:=chainOf (Value.iface 40 (Value.int .i64 (FM b)));let j:=(aC l).1;let h:=(aC l).2;let r:=h.1;let i:=h.2;let f:=i.1;let u:=i.2;true/\(Im b->L1 l/\(true->True/\(ig l s=false->e=false/\true/\chainOf (Value.iface 40 (Value.int .i64 (180:Int)))=g))/\((true->ig l s)->(True/\ig l s)/\(true->fk l/\(pR l=false->e=false/\true/\chainOf (Value.iface 40 (Value.int .i64 (190:Int)))=g))/\((true->pR l)->(fk l/\pR l)/\T4 1 1 0 1 0 1 0 (e/\L3 1 0 j r f u 1 0 0 (T3 (cz l))))))) ⟨rfl,λe=>?_⟩;refine Z9 ?_;refine⟨e,λh=>⟨?_,?_⟩,λh=>⟨h,⟨?_,λb=>⟨?_,?_⟩⟩,λb=>⟨⟨?_,b⟩,?_⟩⟩⟩;unfold lK;rw[h];rfl;unfold FM;rw[h];rfl;exact⟨by unfold ig at h;rw[qC]at h;exact h.1,e⟩;unfold lK;rw[b];simp;unfold FM;rw[h];rfl;exact⟨by unfold ig at h;rw[qC]at h;exact h.1,e⟩;unfold lK;rw[h,b];rfl
def aHq:eO 70 Ol:=ae λ((x:Int),_)=>zE (A:=az) (p:=let b:=btw x 0 1439;(True->True/\T3 b)) Z4 λ_=>⟨trivial,rfl,trivial⟩
def aHp:eO 72 Oj:=ae λ((x:Int),(n:Net),_)=>by
 refine zE (A:=az) (p:=let b:=Df n.2.2.2.1-1;(G9 n->inR .i64 b/\True/\btw x 0 b=pE n x/\True)) Z4 λb=>⟨aD ?_,trivial,rfl,trivial⟩;have:=b.1.1.2;simp only[Di,Df];omega
def EF:ai yv iU aGA:=af aHq<|af aHp Z4
def rY{α:Type}{p:α->Bool}{l:List α}{k:Int}(d:α)(g:0<=k)(f:k<l.length)(e:(l.take k.toNat).all p=true)(b:p (l.getD k.toNat d)=true):(l.take (k+1).toNat).all p=true:=by
 rw[show(k+1).toNat=k.toNat+1 by omega,wW,gV,e];rw[qA,qB (by omega:k.toNat<l.length)]at b;rw[qB (by omega:k.toNat<l.length)];simpa using b
def J7{α:Type}{p:α->Bool}{l:List α}{k:Int}(d:α)(g:0<=k)(f:k<l.length)(b:p (l.getD k.toNat d)=false):l.all p=false:=by
 cases e:l.all p with
 |false=>rfl|true=>rw[qQ.1 e _ (bj (d:=d) Z)]at b;cases b
def Ax{α:Type}{p:α->Bool}{l:List α}{k:Int}(b:(l.take k.toNat).all p=true)(e:¬k<l.length):l.all p=true:=by
 rwa [qO Z]at b
abbrev UZ:=aj [.ptr N] (λ(n,_)=>G9 n) λ(n,_)=>.dat .bool (usF n)
def aKv:eO 38 UZ:=ae λ((n:Net),_)=>by
 refine zE (A:=(lvA [(4,[1,2,3,4,6,8,10,12,17,18,19,30,31,32,62,63,64,97,98,99]),(10,[1,2,3,4,8,10,12,30,31,32,62,63,64,97,98,99]),(16,[1,2,3,4,10,12,62,63,64,97,98,99]),(22,[2,3,12,97,98,99])] (usA n))) (p:=let b:=n.2.2.2;let f:=Df n.1;let h:=Df b.1;let z:=f-1;let T:=Df b.2.1;let c11:=((0:Int),(0:Int));let u:=Df b.2.2;(G9 n->(∃x,ZN n x/\Q3 n n n.1 f (0=x/\True))/\∀(x:Int),let c16:=Du n.1 (Dc x) ((0:Int),Dt Bool,Dt Int);let c18:=Dj (ic c16.1 c16.2.1 c16.2.2);let c19:=x+1;ZN n x->(Dn x f->0<=x/\x<f/\Q3 1 0 1 0 (True/\(c18->false=usF n/\True)/\(c18=false->inR .i64 c19/\∃y,ZN n y/\(Q3 n n n.1 f (c19=y/\True))/\Dc (f-y)<Dc (f-x))))/\(Dn x f=false->(∃xa,YA n xa/\Q3 n n b.1 h (0=xa/\True))/\∀(xb:Int),let c20:=(Du b.1 (Dc xb) (ByteArray.mk #[],(0:Int),(0:Int),(0:Int),(0:Int),(0:Int),Dt ByteArray)).2.2;let c21:=Dj (btw c20.1 0 z);let G:=Dj c21;let c24:=Dz c21 true (Dj (btw c20.2.2.1 1 1000));let v:=Dj c24;let c26:=Dz c24 true (Dj (btw c20.2.2.2.1 1 1000));let c27:=xb+1;YA n xb->(Dn xb h->0<=xb/\xb<h/\T2 1 0 1 1 0 (inR .i64 z/\True/\(G->1=1)/\L4 G ((G->1=1)/\(G->0=0)/\L4 G ((G->True)/\L4 G ((Dh true G->G)/\(v->1=1)/\L4 v ((v->1=1)/\(v->0=0)/\L4 v ((v->True)/\L4 v ((Dh true v->v)/\(c26->false=usF n/\True)/\(c26=false->inR .i64 c27/\∃y,YA n y/\(Q3 n n b.1 h (c27=y/\True))/\Dc (h-y)<Dc (h-xb))))))))))/\(Dn xb h=false->(∃xba,YS n xba/\Q3 n n b.2.1 T (0=xba/\True))/\∀(L:Int),let V:=(Du b.2.1 (Dc L) (ByteArray.mk #[],(0:Int),(0:Int),(0:Int),c11)).2;let c29:=Dj (pE n V.1);let r:=Dj c29;let c32:=Dz c29 true (Dj (pE n V.2.1));let j:=Dj c32;let c35:=Dz c32 true (Dj (btw V.2.2.1 0 1439));let i:=Dj c35;
  let c37:=Dz c35 true (Dj (btw V.2.2.2.1 1 100000));let c38:=L+1;YS n L->(Dn L T->0<=L/\L<T/\T2 1 0 1 1 0 (G9 n/\(r->1=1)/\L4 r ((r->1=1)/\(r->0=0)/\L7 r ((r->G9 n)/\L4 r ((Dh true r->r)/\(j->1=1)/\L4 j ((j->1=1)/\(j->0=0)/\L7 j ((j->True)/\L4 j ((Dh true j->j)/\(i->1=1)/\L4 i ((i->1=1)/\(i->0=0)/\L4 i ((i->True)/\L4 i ((Dh true i->i)/\(c37->false=usF n/\True)/\(c37=false->inR .i64 c38/\∃y,YS n y/\(Q3 n n b.2.1 T (c38=y/\True))/\Dc (T-y)<Dc (T-L)))))))))))))/\(Dn L T=false->(∃X,ZH n X/\L5 b.2.2 u (0=X/\True))/\∀(e:Int),let c39:=(Du b.2.2 (Dc e) (ByteArray.mk #[],c11)).2;let c40:=Dj (btw c39.1 0 1439);let g:=Dj c40;let c42:=Dz c40 true (Dj (btw c39.2 0 1439));let c43:=e+1;ZH n e->(Dn e u->0<=e/\e<u/\T2 1 0 1 1 0 (True/\(g->1=1)/\L4 g ((g->1=1)/\(g->0=0)/\L7 g ((g->True)/\L4 g ((Dh true g->g)/\(c42->false=usF n/\True)/\(c42=false->inR .i64 c43/\∃y,ZH n y/\(L5 b.2.2 u (c43=y/\True))/\Dc (u-y)<Dc (u-e)))))))/\(Dn e u=false->true=usF n/\True)))))) EF λhp=>?_
 obtain⟨⟨⟨l1,l2⟩,l3⟩,l4⟩:=id hp;obtain⟨cs,ns,os,fs,ls,ks⟩:=n;simp only at l1 l2 l3 l4;refine Z9 ?_;refine⟨⟨qH _,qI _,rfl⟩,λx hx=>?_⟩;have hx0:0<=x:=hx.1;have hx1:x<=cs.length:=hx.2.1;refine⟨λb=>⟨hx0,b,λf=>?_,λf=>⟨aD Z,x+1,⟨Z,by show x+1<=(cs.length:Int);omega,rY (0,[],[]) hx0 b hx.2.2 f⟩,rfl,Z⟩⟩,λO=>?_⟩;unfold usF;rw[J7 (p:=pM) (0,[],[]) hx0 b f];rfl;have e1:=Ax hx.2.2 O;refine⟨⟨qH _,qI _,rfl⟩,λy hy=>?_⟩;have hy0:0<=y:=hy.1;have hy1:y<=fs.length:=hy.2.1;refine⟨λb=>⟨hy0,b,aD Z,λf=>?_,λf=>⟨aD Z,y+1,⟨Z,by show y+1<=(fs.length:Int);omega,rY (⟨#[]⟩,0,0,0,0,0,[]) hy0 b hy.2.2 ?_⟩,rfl,Z⟩⟩,λO=>?_⟩;have:nb (cs,ns,os,fs,ls,ks) (fs.getD y.toNat (⟨#[]⟩,0,0,0,0,0,[]))=false:=by
  unfold nb;rcases f with(h|h)|h<;>rw[h]<;>simp
 unfold usF;rw[J7 (p:=nb (cs,ns,os,fs,ls,ks)) (⟨#[]⟩,0,0,0,0,0,[]) hy0 b this];simp;unfold nb;rw[f.1.1,f.1.2,f.2];rfl;have e2:=Ax hy.2.2 O;refine⟨⟨qH _,qI _,rfl⟩,λz hz=>?_⟩;have hz0:0<=z:=hz.1;have hz1:z<=ls.length:=hz.2.1;refine⟨λb=>⟨hz0,b,hp,λ_=>hp,λf=>?_,λf=>⟨aD Z,z+1,⟨Z,by show z+1<=(ls.length:Int);omega,rY (⟨#[]⟩,0,0,0,0,0) hz0 b hz.2.2 ?_⟩,rfl,Z⟩⟩,λO=>?_⟩;have:nt (cs,ns,os,fs,ls,ks) (ls.getD z.toNat (⟨#[]⟩,0,0,0,0,0))=false:=by
  unfold nt;rcases f with((h|h)|h)|h<;>rw[h]<;>simp
 unfold usF;rw[J7 (p:=nt (cs,ns,os,fs,ls,ks)) (⟨#[]⟩,0,0,0,0,0) hz0 b this];simp;unfold nt;rw[f.1.1.1,f.1.1.2,f.1.2,f.2];rfl;have e3:=Ax hz.2.2 O;refine⟨⟨qH _,qI _,rfl⟩,λu hu=>?_⟩;have hu0:0<=u:=hu.1;have hu1:u<=ks.length:=hu.2.1;refine⟨λb=>⟨hu0,b,λf=>?_,λf=>⟨aD Z,u+1,⟨Z,by show u+1<=(ks.length:Int);omega,rY (⟨#[]⟩,0,0) hu0 b hu.2.2 ?_⟩,rfl,Z⟩⟩,λO=>?_⟩;have:nK (ks.getD u.toNat (⟨#[]⟩,0,0))=false:=by
  unfold nK;rcases f with h|h<;>rw[h]<;>simp
 unfold usF;rw[J7 (p:=nK) (⟨#[]⟩,0,0) hu0 b this];simp;unfold nK;rw[f.1,f.2];rfl;have e4:=Ax hu.2.2 O;unfold usF;rw[e1,e2,e3,e4];rfl
def aFL{n:Net}{p:Plan}{i:Nat}(b:i<p.2.2.1.length)(h:pB n i (p.2.2.1.getD i [])=false):Pe n p=false:=by
 cases e:Pe n p with
 |false=>rfl|true=>
  unfold Pe at e;rw[qC,qQ]at e;rw[e.2 i (qW.2 b)]at h;cases h
abbrev OV:=aj [.ptr N,.ptr Pl] (λ(n,p,_)=>G9 n/\nxP p) λ(n,p,_)=>.dat .bool (Pe n p)
def aH2:eO 39 OV:=ae λ((n:Net),(p:Plan),_)=>by
 refine zE (A:=(lvA [(4,[0,4,5,6,8,36,37,38,43,44,45]),(7,[0,4,5,6,8,36,37,38,43,44,45])] (aKJ n p))) (p:=let v:=n.2.2.2;let i:=p.2.2.1;let g:=Df i;let A:=Dw g (Df v.1);let j:=Dj A;let c8:=Dz A true (Dw (Df p.2.2.2) (Df v.2.2));let c10:=Df v.2.1;(G9 n/\nxP p->L4 j (Q4 j (Q4 j (Q4 j ((Dh true j->j)/\(c8->false=Pe n p/\True)/\(c8=false->(∃x,aGO n p x/\Q2 n i g (0=x/\True))/\∀(x:Int),let f:=Du i (Dc x) [];let h:=Df f;let G:=x+1;aGO n p x->(Dn x g->0<=x/\x<g/\(∃b,YD n x f b/\T5 n x f i g x f h (0=b/\True))/\∀(b:Int),let r:=Du f (Dc b) 0;let e:=Dw r (-1);let X:=Ed r c10;let u:=Dj X;let z:=Dh e u;let V:=Dz e (Dz X true (Dw (Du v.2.1 (Dc r) (ByteArray.mk #[],(0:Int),(0:Int),(0:Int),(0:Int),(0:Int))).2.1 x)) false;let T:=b+1;YD n x f b->(Dn b h->0<=b/\b<h/\L4 e (Q4 e (Q4 e (L7 z (Q4 z ((Dh e u->0<=r)/\(Dh e u->r<c10)/\L4 z (Q4 z (L4 e ((e->Dh e u->Dh e u)/\(Dh true e->e)/\(V->false=Pe n p/\True)/\(V=false->inR IntKind.i64 T/\∃y,YD n x f y/\(T5 n x f i g x f h (T=y/\True))/\Dc (h-y)<Dc (h-b)))))))))))/\(Dn b h=false->inR .i64 G/\∃y,aGO n p y/\(Q2 n i g (G=y/\True))/\Dc (g-y)<Dc (g-x)))/\(Dn x g=false->true=Pe n p/\True)))))))) EF λ⟨hn,hp⟩=>?_;obtain⟨⟨⟨l1,l2⟩,l3⟩,l4⟩:=id hn;obtain⟨cs,ns,os,fs,z,ks⟩:=n;obtain⟨p1,p2,nx,dy⟩:=p;simp only at l1 l2 l3 l4;refine Z9 ?_;obtain⟨q1,q2⟩:nx.length<=2000000000000000/\∀r∈nx,r.length<=2000000000000000/\∀x∈r,-1<=x:=hp;refine⟨λh=>?_,λ⟨h1,h2⟩=>⟨⟨qH _,qI _,λi hi=>Z⟩,λx hx=>?_⟩⟩;unfold Pe;rcases h with h|h;rw[vF (p:=nx.length=fs.length) Z];simp
 rw[vF (p:=dy.length=ks.length) Z];simp;have L:0<=x:=hx.1;have hx1:x<=nx.length:=hx.2.1;refine⟨λhlt=>⟨L,hlt,⟨qH _,qI _,rfl⟩,λy G=>?_⟩,λhge=>?_⟩;obtain⟨r1,r2⟩:=q2 _ (bj (l:=nx) (i:=x.toNat) (d:=[]) Z);obtain⟨r,hr⟩:∃r,r=nx.getD x.toNat []:=⟨_,rfl⟩;rw[<- hr]at r1 r2 G ⊢;have j:0<=y:=G.1;have hy1:y<=r.length:=G.2.1;refine⟨λg=>?_,λO=>?_⟩;have hv:=r2 _ (bj (l:=r) (i:=y.toNat) (d:=0) Z);obtain⟨v,u⟩:∃v,v=r.getD y.toNat 0:=⟨_,rfl⟩;rw[<- u]at hv ⊢;have cg:mE (cs,ns,os,fs,z,ks) x v=(decide (v=-1)||(decide (v<z.length)&&decide ((z.getD v.toNat (⟨#[]⟩,0,0,0,0,0)).2.1=x))):=rfl;refine⟨j,g,λh=>Z,λh=>Z,λh=>?_,λh=>⟨aD Z,y+1,⟨Z,Z,rY 0 j g G.2.2 ?_⟩,rfl,Z⟩⟩;have:mE (cs,ns,os,fs,z,ks) x v=false:=by
  rw[cg,vF h.1];rcases h.2 with h3|h3;rw[vF Z];rfl;rw[vF h3];simp
 refine(aFL (i:=x.toNat) (by show x.toNat<nx.length;omega) ?_).symm;show pB _ _ (nx.getD x.toNat [])=false;rw[<- hr];unfold pB;rw[qY L];exact J7 0 j g (by rw[<- u];exact this);rw[<- u,cg];by_cases hm:v=-1;rw[qU hm];rfl;obtain⟨g1,g2⟩:=h hm;rw[qU (p:=v<z.length) Z,qU g2];simp;have e1:=Ax G.2.2 O;refine⟨aD Z,x+1,⟨Z,by show x+1<=(nx.length:Int);omega,λi hi=>?_⟩,rfl,Z⟩;by_cases e:(i:Int)<x;exact hx.2.2 i e;have:(i:Int)=x:=by omega
 rw[this];show pB _ _ (nx.getD i [])=true;have e2:i=x.toNat:=Z;rw[e2,<- hr];exact e1;unfold Pe;rw[qU (p:=nx.length=fs.length) Z,qU (p:=dy.length=ks.length) Z];symm;simp only[zV];exact qQ.2 λi hi=>hx.2.2 i (by have:i<nx.length:=qW.1 hi;omega)
def cw(n:Net)(o:Int):Off:=n.2.2.2.1.getD o.toNat (⟨#[]⟩,0,0,0,0,0,[])
def ay(n:Net)(o:Int):Cal:=n.1.getD (cw n o).2.2.1.toNat (0,[],[])
def fO(n:Net)(k:Int):Cla:=n.2.2.2.2.2.getD k.toNat (⟨#[]⟩,0,0)
def usP(n:Net):Prop:=usF n=true/\G9 n
def mj(n:Net)(o:Int):Prop:=0<=o/\o<n.2.2.2.1.length
def ZI(n:Net)(k:Int):Prop:=0<=k/\k<n.2.2.2.2.2.length
def tOk(t:Int):Prop:=-3000000000<=t/\t<=3000000000
def AO(n:Net)(o t:Int):Int:=t+(cw n o).2.2.2.2.1*(cw n o).2.2.2.2.2.1
def aDQ(n:Net)(o t:Int):Prop:=usP n/\mj n o/\tOk t
def cellAt(p:Plan)(o d:Int):Int:=(p.2.2.1.getD o.toNat []).getD d.toNat 0
def k9(p:Plan)(k o d:Int):Int:=((p.2.2.2.getD k.toNat []).getD o.toNat []).getD d.toNat 0
def plP(n:Net)(p:Plan):Prop:=(0<=p.1/\p.1<=p.2.1/\p.2.1<=600)/\(p.2.2.1.length=n.2.2.2.1.length/\∀r∈p.2.2.1,r.length=n.2.2.2.1.length)/\(∀i j:Int,mj n i->mj n j->mE n i (cellAt p i j)=true/\-1<=cellAt p i j)/\
 p.2.2.2.length=n.2.2.2.2.2.length/\∀t∈p.2.2.2,t.length=n.2.2.2.1.length/\∀r∈t,r.length=n.2.2.2.1.length
def xo(n:Net)(o l:Int)(p:Plan)(x t:Int):Bool:=wkF (ay n o).2.1 (ay n o).2.2 (x-2+p.1)&&decide (Ha (ay n o).1 (x-2+p.1) (fL n l).2.2.2.1≥AO n o t)
def MJ(n:Net)(p:Plan)(d:Int):Nat->Int->Int->Li->Bool×Int×Li
 |0,o,t,xs=>(decide (o=d),t,xs)|f+1,o,t,xs=>if o=d then(true,t,xs)else if cellAt p o d=-1 then(false,t,xs)else if b7 xs=false then(false,t,xs)else
  if xo n o (cellAt p o d) p (hd xs) t=true then MJ n p d f (fL n (cellAt p o d)).2.2.1 (Ha (ay n o).1 (hd xs-2+p.1) (fL n (cellAt p o d)).2.2.2.1+(fL n (cellAt p o d)).2.2.2.2.1) (tl xs)else(false,t,tl xs)
def A3(n:Net)(p:Plan)(o d t:Int)(xs:Li):Bool:=(MJ n p d 19 o t xs).1
def DU(n:Net)(p:Plan)(o d t:Int)(xs:Li):Int:=(MJ n p d 19 o t xs).2.1
def RN(n:Net)(p:Plan)(o d t:Int)(xs:Li):Li:=(MJ n p d 19 o t xs).2.2
def O8(n:Net)(p:Plan)(o d t:Int)(xs:Li):Prop:=((usP n/\plP n p)/\mj n o/\mj n d)/\tOk t/\fk xs
def Zh(n:Net)(p:Plan)(d f e:Int)(b:Li)(k o t:Int)(xs:Li):Prop:=(0<=k/\k<=19/\O8 n p o d t xs)/\MJ n p d (19-k).toNat o t xs=MJ n p d 19 f e b
def WQ(c:Cal)(m t:Int):Int:=if m<dS c.1 t then bB c.1 t+1 else bB c.1 t
def aDV(c:Cal)(m t:Int):Option Int:=(jF c.2.1 c.2.2 (WQ c m t) (WQ c m t+59)).head?
def pK(c:Cal)(m t:Int):Bool:=(aDV c m t).isSome
def RP(c:Cal)(m t:Int):Int:=(aDV c m t).getD 0
def Zs(c:Cal)(t:Int):Prop:=pM c=true/\big t
def F5(k:Nat):Prop:=k=0
def ZT(n:Net)(d cut:Int):Int:=bB (ay n d).1 cut
def QR(n:Net)(p:Plan)(k o d cut:Int)(xs:Li):Int:=RP (ay n d) (fO n k).2.2 (AO n d (DU n p o d cut xs))
def YK(n:Net)(p:Plan)(k o d cut:Int)(xs:Li):Li:=jF (ay n d).2.1 (ay n d).2.2 (ZT n d cut+1) (QR n p k o d cut xs)
def AP(n:Net)(p:Plan)(k o d cut:Int)(xs:Li):Bool:=A3 n p o d cut xs&&(pK (ay n d) (fO n k).2.2 (AO n d (DU n p o d cut xs))&&(decide (QR n p k o d cut xs-ZT n d cut<=2000)&&decide (((YK n p k o d cut xs).length:Int)<=k9 p k o d)))
def tE(n:Net)(p:Plan)(k o d cut:Int)(xs:Li):Prop:=O8 n p o d cut xs/\ZI n k
def VW(k:Nat):Prop:=k<=4000000000000
def Aa(p:Plan)(t:Int):Bool:=decide (1440*p.1<=t)&&decide (t<1440*p.2.1)
def Re(n:Net)(p:Plan)(o:Int):Li:=jF (ay n o).2.1 (ay n o).2.2 (p.1-1) (p.2.1+1)
def Rb(n:Net)(k o d:Int):Int:=Ha (ay n o).1 d (fO n k).2.1
def mD(n:Net)(p:Plan)(k o:Int):Li:=((Re n p o).map λd=>Rb n k o d).filter (Aa p)
def mL(n:Net)(p:Plan)(k o:Int)(j:Nat):Nat:=((((Re n p o).take j).map λd=>Rb n k o d).filter (Aa p)).length
def aGX(n:Net)(p:Plan)(k o:Int):Prop:=(usP n/\plP n p)/\mj n o/\ZI n k
abbrev Ci:=aj [.pvf N Pl,.val I,.val I] (λ((n,_),o,t,_)=>aDQ n o t) λ((n,_),o,t,_)=>.dat I (AO n o t)
abbrev uk:=aj [.pvf N Pl,.val I] (λ((n,_),o,_)=>usP n/\mj n o) λ((n,_),o,_)=>.ip C (ay n o)
abbrev I9:=aj [.pvf N Pl,.val I,.val I] (λ_=>True) λ((n,p),k,o,_)=>.fn 74 [.ipv (.ips [.ip N n,.ip Pl p,.top]),.ip I o,.ip I k]
def WC:Kt:=kOr 80 Ci <|
 kOr 75 uk <|
 kOr 40 I9 aGA
def KI1:FuncId->List AV->Option jX:=λf e=>if f=130 then match ofK [.ptr I,.ptr I,.bp C] e with
 |some (a,b,c,_)=>some ⟨wdP c.2.1 c.2.2 a b,I,jF c.2.1 c.2.2 a b⟩|none=>none
 else none
noncomputable def aCH(K:Kt)(f:FuncId->List AV->Option jX)(e:KPt)(b:FuncId->Bool):Cfg:=⟨yv,iU,K,λ_=>false,f,true,e,b⟩
def mki(K:Kt)(KI:FuncId->List AV->Option jX):Cfg:={mkc K with KI:=KI}
def aKN(n:Net)(p:Plan)(k o:Int):aAF:=⟨az,⟨λ_ _=>none,λ_ _=>none,λb=>b==6⟩,λs=>some (frz (allNames s) s),λj=>mL n p k o j⟩
def aKI(n:Net)(p:Plan)(d f e:Int)(b:Li):Ann:=Z8 2 (Int×Int×Int×Li) (λx=>Zh n p d f e b x.1 x.2.1 x.2.2.1 x.2.2.2) (λs x=>dD (put (gv s) [(9,.dat I x.1),(1,.dat I x.2.1),(3,.dat I x.2.2.1)]) 1 (.var [.dat R x.2.2.2])) λx=>Dc (Di 19 x.1)
def aGz:Kt:=kOr 128 (xD 1 R [.mp 1] (λ_ b=>True/\b7 b=true) (λ_ b=>.dat I (hd b)) λ_ b=>tl b) WC
def c12:Cfg:=QG aGz (λ_=>false) KP6 (λf=>f==37||f==128)
def aKM:Ann:=Z8 5 Nat F5 (λs _=>gv s) λk=>k
def aDG:Kt:=kOr 78 (xD 1 R [.pv 1 N Pl,.val I,.val I,.val I] (λ((n,p),o,d,t,_) b=>O8 n p o d t b/\A3 n p o d t b=true) (λ((n,p),o,d,t,_) b=>.dat I (DU n p o d t b)) λ((n,p),o,d,t,_) b=>RN n p o d t b) <|
 kOr 79 (aj [.ptr C,.val I,.val I] (λ(c,m,t,_)=>Zs c t/\pK c m t=true) λ(c,m,t,_)=>.dat I (RP c m t)) WC
def aKl:KPt:=pOr 78 (aCI 1 R [.pv 1 N Pl,.val I,.val I,.val I] λ((n,p),o,d,t,_) b=>⟨O8 n p o d t b,A3 n p o d t b,eZ 40 190⟩) <|
 pOr 79 (A4 [.ptr C,.val I,.val I] λ(c,m,t,_)=>⟨Zs c t,pK c m t,eZ 40 190⟩) KPr
def c13:Cfg:=aCH aDG KI1 aKl (λf=>f==37||f==78||f==79)
def aKz:Ann:=⟨λe s=>match e with
 |7=>match s.sig.T 15 with
  |.ptr b _ _ _=>some {α:=Nat,inv:=λk=>VW k,st:=λk=>dD (gv s) b (.var [.dat I (Ea k)]),μ:=λk=>k}|_=>none
 |_=>none,λ_ _=>none,λ_ _=>none⟩
def Np{n:Net}(h:usP n):((∀c∈n.1,pM c=true)/\(∀o∈n.2.2.2.1,nb n o=true))/\(∀l∈n.2.2.2.2.1,nt n l=true)/\∀k∈n.2.2.2.2.2,nK k=true:=by
 have:=h.1;unfold usF at this;simp only[qC,qQ]at this;exact⟨⟨this.1.1.1,this.1.1.2⟩,this.1.2,this.2⟩
def RX{n:Net}{o:Int}(h:usP n)(b:mj n o):(0<=(cw n o).2.2.1/\(cw n o).2.2.1<n.1.length)/\(1<=(cw n o).2.2.2.2.1/\(cw n o).2.2.2.2.1<=1000)/\1<=(cw n o).2.2.2.2.2.1/\(cw n o).2.2.2.2.2.1<=1000:=by
 have:=(Np h).1.2 (cw n o) (bj (by have:=b.1;have:=b.2;omega));unfold nb at this;simp only[qC,pP]at this;omega
def Nn{n:Net}{o:Int}(h:usP n)(b:mj n o):pM (ay n o)=true:=
 (Np h).1.1 _ (bj (by have:=(RX h b).1;omega))
def gD{n:Net}{l:Int}(h:usP n)(e:0<=l)(b:l<n.2.2.2.2.1.length):mj n (fL n l).2.1/\mj n (fL n l).2.2.1/\(0<=(fL n l).2.2.2.1/\(fL n l).2.2.2.1<=1439)/\1<=(fL n l).2.2.2.2.1/\(fL n l).2.2.2.2.1<=100000:=by
 have:=(Np h).2.1 (fL n l) (bj Z);unfold nt pE at this;simp only[qC,pP]at this;unfold mj;omega
def gE{n:Net}{k:Int}(h:usP n)(b:ZI n k):(0<=(fO n k).2.1/\(fO n k).2.1<=1439)/\0<=(fO n k).2.2/\(fO n k).2.2<=1439:=by
 have:=(Np h).2.2 (fO n k) (bj (by have:=b.1;have:=b.2;omega));unfold nK at this;simp only[qC,pP]at this;omega
def nL{c:Cal}(h:pM c=true):(-720<=c.1/\c.1<=840)/\c.2.1.length=7/\srt c.2.2:=by
 have:=(kj.1 h).1;exact⟨⟨this.1,this.2.1⟩,this.2.2.1,RU h⟩
def oT{n:Net}{o t:Int}(h:usP n)(b:mj n o):t+1<=AO n o t/\AO n o t<=t+1000000:=by
 obtain⟨_,⟨i,g⟩,f,e⟩:=RX h b;unfold AO;have r:1*1<=(cw n o).2.2.2.2.1*(cw n o).2.2.2.2.2.1:=kP i f (by decide) Z;have j:(cw n o).2.2.2.2.1*(cw n o).2.2.2.2.2.1<=1000*1000:=kP g e Z (by decide);omega
def aA9:eO 80 Ci:=ae λ(((n:Net),(p:Plan)),(o:Int),(t:Int),_)=>by
 refine zE (A:=az) (p:=let b:=(Du n.2.2.2.1 (Dc o) (ByteArray.mk #[],(0:Int),(0:Int),(0:Int),(0:Int),(0:Int),Dt ByteArray)).2.2.2.2;let e:=b.1*b.2.1;let f:=t+e;(aDQ n o t->0<=o/\o<Df n.2.2.2.1/\inR .i64 e/\inR .i64 f/\f=AO n o t/\True)) EF λ⟨f,b,g⟩=>?_;obtain⟨i,h⟩:=oT (t:=t) f b;obtain⟨t1,t2⟩:=g;have e:AO n o t=t+(cw n o).2.2.2.2.1*(cw n o).2.2.2.2.2.1:=rfl;refine⟨b.1,b.2,aD ?_,aD ?_,rfl,trivial⟩;show _<=(cw n o).2.2.2.2.1*(cw n o).2.2.2.2.2.1/\(cw n o).2.2.2.2.1*(cw n o).2.2.2.2.2.1<=_;omega;show _<=t+(cw n o).2.2.2.2.1*(cw n o).2.2.2.2.2.1/\t+(cw n o).2.2.2.2.1*(cw n o).2.2.2.2.2.1<=_;omega
def Tc:eO 75 uk:=ae λ(((n:Net),(p:Plan)),(o:Int),_)=>by
 refine zE (A:=az) (p:=let b:=(Du n.2.2.2.1 (Dc o) (ByteArray.mk #[],(0:Int),(0:Int),(0:Int),(0:Int),(0:Int),Dt ByteArray)).2.2.1;(usP n/\mj n o->0<=o/\o<Df n.2.2.2.1/\0<=b/\b<Df n.1/\Du n.1 (Dc b) ((0:Int),Dt Bool,Dt Int)=ay n o/\True)) EF λ⟨e,b⟩=>?_;have:=(RX e b).1;exact⟨b.1,b.2,this.1,this.2,rfl,trivial⟩
def aEz:eO 40 I9:=ae λ(((n:Net),(p:Plan)),(k:Int),(o:Int),_)=>zE (A:=az) (p:=(True->z8 n p o k)) EF λ_=>by simp
def PY:ai yv iU WC:=af aA9<|af Tc<|af aEz EF
def mU.args{P:Program}{G:List (Nat×AV)}{gf:FuncId}{xs f:List AV}{g:jX}(h:mU P G gf f g)(e:∀(C:Ctx) b,zA1 P C xs b->zA1 P C f b):mU P G gf xs g:=
 λj l J JX JP w D b u r i=>h j l J JX JP w D b u r (e _ b i)
def aHa:bh yv iU KI1:=by
 intro f g u h;unfold KI1 at h;split at h;rename_i e;subst e;split at h;rename_i a b c _ i;cases h;exact mU.args (aHo c.1 a b c.2.1 c.2.2) λC r j=>fZ i j;cases h;cases h
def Zv(n:Net)(p:Plan)(k o:Int):mL n p k o (Re n p o).length=(mD n p k o).length:=by
 unfold mL mD;rw[qO (qM _)]
def VP{n:Net}{p:Plan}{k o:Int}{j:Nat}{y:Int}(h:nB (Re n p o) j y):mL n p k o (j+1)=mL n p k o j+(if Aa p (Rb n k o y)=true then 1 else 0):=by
 have h:(Re n p o)[j]?=some y:=h;unfold mL;rw[wW,h,zZ,yO,qF];congr 1;simp only[Option.toList,zO,qBx,yR,gQ];split<;>rfl
def aDe{n:Net}{p:Plan}{k o:Int}{j:Nat}{y:Int}(h:nB (Re n p o) j y)(f:Aa p (Rb n k o y)=true):nB (mD n p k o) (mL n p k o j) (Rb n k o y):=by
 have h:(Re n p o)[j]?=some y:=h;obtain⟨i,b⟩:=qG.1 h;have e:Re n p o=(Re n p o).take j++y::(Re n p o).drop (j+1):=by rw[<- b,List.getElem_cons_drop,kJ]
 have g:mD n p k o=(((Re n p o).take j).map λd=>Rb n k o d).filter (Aa p)++((y::(Re n p o).drop (j+1)).map λd=>Rb n k o d).filter (Aa p):=by
  unfold mD;conv=>lhs;rw[e]
  rw[zZ,yO]
 unfold nB;rw[g];unfold mL;rw[vJ (qM _),qBg,zO,yR,if_pos f];rfl
def fT{w:List Bool}{h:Li}{a b x:Int}(e:x∈jF w h a b):a<=x/\x<=b/\wkF w h x=true:=by
 unfold jF at e;rw[yI,vK]at e;obtain⟨⟨i,f,rfl⟩,g⟩:=e;have:=qW.1 f;exact⟨Z,Z,g⟩
def aEA(n:Net)(p:Plan)(k o:Int):mU yv iU 74 [.ipv (.ips [.ip N n,.ip Pl p,.top]),.ip I o,.ip I k] ⟨aGX n p k o,I,mD n p k o⟩:=by
 refine zN (c:=mki WC KI1) (A:=(aKN n p k o)) PY aHa hm (p:=let A:=ay n o;let c3:=(Ty.int .i64).pair (Ty.bool.sl.pair (Ty.int .i64).sl);let h:=p.2.1;let i:=1440*p.1;let x:=1440*h;let f:=p.1-1;let g:=h+1;let X:=A.2;let V:=jF X.1 X.2 f g;let c12:=mD n p k o;let c13:=Dk c12;let z:=A.1;let v:=(Du n.2.2.2.2.2 (Dc k) (ByteArray.mk #[],(0:Int),(0:Int))).2.1;true/\true/\true/\false=false/\∀(l:Nat),aGX n p k o->(usP n/\mj n o)/\L5 1 0 (inR .i64 i/\inR .i64 x/\T6 1 0 1 0 1 0 (inR IntKind.i64 f/\inR .i64 g/\True/\L3 l n p o k l 1 0 (AV.ip c3 A) (L3 1 0 i 1 0 x n p o (L3 (ay n o) n p n p p p p p (L3 p.1 i n p n p p p p (L3 p.2 h x (ay n o) n p n p p (L3 p p p p.1 f n p n p (L3 p p p p.2 h g f g (ay n o) (wdP X.1 X.2 f g/\mL n p k o 0=0/\mL n p k o (Dk V)=c13/\∀(j:Nat),let u:=mL n p k o j;let T:=u+1;let O:=mL n p k o (j+1);∀(y:Int),let r:=Ed (Ha z y v) i;let e:=Dz r (Dn (Ha z y v) x) false;let c4:=Dh true e->e;let L:=Dz e (Dj false) false;nB V j y->true/\0<=k/\k<Df n.2.2.2.2.2/\(big z/\big y/\big v)/\L7 r ((Dh true r->r)/\(e->(e->e)/\(e->e)/\l=l/\true/\nB c12 u (Ha z y v)/\∀(b:Bool),let G:=Dz e (Dj b) false;c4/\(G->b->T=c13)/\(G=false->b/\T=O))/\(e=false->L4 e (c4/\(L->true->u=c13)/\(L=false->true/\u=O)))))))))))))) ⟨rfl,rfl,rfl,rfl,λl ⟨⟨hu,hp⟩,ho,hk⟩=>?_⟩
 obtain⟨⟨p0,p1,p2⟩,_⟩:=hp;have hc:=Nn hu ho;obtain⟨⟨z1,z2⟩,hw,hs⟩:=nL hc;have hcl:=gE hu hk;simp only[L5,T6,L3,L7,L4,qBf,yD,vW];refine⟨⟨hu,ho⟩,aD Z,aD Z,aD Z,aD Z,⟨hw,hs,⟨Z,Z⟩,⟨Z,Z⟩⟩,rfl,Zv n p k o,λj y hy=>?_⟩;have x:nB (Re n p o) j y:=hy;have hm2:=fT (yA x);have g:=VP (k:=k) x;have eM:Ha (ay n o).1 y (fO n k).2.1=Rb n k o y:=rfl;have eC:Dz (Ed (Rb n k o y) (Ei 1440 p.1)) (Dn (Rb n k o y) (Ei 1440 p.2.1)) false=Aa p (Rb n k o y):=by
  rw[VX];rfl
 have two:∀{q:Prop},q->(q/\q):=λh=>⟨h,h⟩;refine⟨hk.1,hk.2,⟨⟨Z,Z⟩,⟨Z,Z⟩,⟨by show _<=(fO n k).2.1;omega,by show(fO n k).2.1<=_;omega⟩⟩,?_⟩;simp only[qAn,kL,yD,vW];refine⟨λh=>by simpa[Dh]using h,λf=>?_,λf=>?_⟩;have i:Aa p (Rb n k o y)=true:=by rw[<- eC];exact f
 rw[if_pos i]at g;refine⟨aDe x i,λb=>⟨λ_=>f,λz h2=>?_,λz=>?_⟩⟩;rw[h2]at z;rw[f]at z;cases z;rw[f]at z;have:b=true:=by simpa[Dz,Dj]using z
 exact⟨this,g.symm⟩;have i:Aa p (Rb n k o y)=false:=by rw[<- eC];exact f
 rw[if_neg (by rw[i];exact Bool.false_ne_true)]at g;refine⟨λh=>by simpa[Dh]using h,?_,?_⟩;intro h;rw[f]at h;cases h;intro _;exact g.symm
def aGs:ai yv iU aGz:=af (sy λ_ b=>(vL b).1) PY
def Nv(n:Net)(p:Plan)(o d t:Int)(xs:Li):ah yv iU 78 [.ips [.ip N n,.ip Pl p,.ptr 1 1 0 0],.dat I o,.dat I d,.dat I t] [(1,.var [.dat R xs])] ⟨O8 n p o d t xs/\A3 n p o d t xs=true,.dat I (DU n p o d t xs),[(1,.var [.dat R (RN n p o d t xs)])]⟩/\
  dA yv iU 78 [.ips [.ip N n,.ip Pl p,.ptr 1 1 0 0],.dat I o,.dat I d,.dat I t] [(1,.var [.dat R xs])] ⟨O8 n p o d t xs,A3 n p o d t xs,eZ 40 190⟩:=by
 refine zM (c:=c12) (A:=(aKI n p d o t xs)) (q:=⟨O8 n p o d t xs,A3 n p o d t xs,eZ 40 190⟩) aGs gC hm WB (p:=let i:=p.2.2.1;let g:=A3 n p o d t xs;let f:=chainOf (Value.iface 40 (Value.int .i64 (190:Int)));let j:=n.2.2.2.2.1;let O:=p.1;let T:=(ByteArray.mk #[],(0:Int),(0:Int),(0:Int),(0:Int),(0:Int));true/\(O8 n p o d t xs->1=1/\(∃(x:Int×Int×Int×Li),let r:=x.1;let c8:=x.2;let v:=c8.1;let c10:=c8.2;let c11:=c10.1;let z:=c10.2;Zh n p d o t xs r v c11 z/\T2 n p 1 0 0 (o=v/\d=d/\t=c11/\(0:Int)=(0:Int)/\0=r/\xs=z/\T3 1))/\∀(x:Int×Int×Int×Li),let h:=x.1;let A:=x.2;let e:=A.1;let c16:=A.2;let c17:=c16.1;let L:=c16.2;let c19:=Dw e d;let c20:=Du i (Dc e) [];let u:=Dn h 19;let X:=Du c20 (Dc d) 0;let c23:=Dz u (Dw X (-1)) false;let c24:=b7 L;let c25:=hd L-2;let G:=c25+O;let c27:=ay n e;let c28:=c27.1;let c29:=(Du j (Dc X) T).2.2;let c30:=c29.2;let c31:=c30.1;let c32:=c27.2;let c33:=c32.1;let c34:=c32.2;let b:=wkF c33 c34 G;let c36:=Ha c28 G c31;let c37:=Dz b (Ed c36 (AO n e c17)) false;let c38:=c36+c30.2.1;let c39:=h+1;
  Zh n p d o t xs h e c17 L->(c19->0<=e/\e<Df i/\0<=d/\d<Df c20/\(u->u->u)/\(Dh true u->u)/\(true->True/\(c23=false->g=false/\true/\f=f))/\((true->c23)->(True/\c23)/\0<=X/\X<Df j/\(usP n/\mj n e)/\True/\(c24->(True/\c24)/\1=1/\inR .i64 c25/\inR .i64 G/\(big c28/\big G/\big c31)/\wkP c33 c34 G/\(b->b->b)/\(b->b->b)/\(b->b->b)/\(b->aDQ n e c17)/\(b->b->b)/\(b->b->b)/\(Dh true b->b)/\(true->True/\(c37=false->g=false/\true/\f=f))/\((true->c37)->(True/\c37)/\inR .i64 c38/\inR .i64 c39/\∃(y:Int×Int×Int×Li),let c40:=y.1;let c41:=y.2;let c42:=c41.1;let c43:=c41.2;let c44:=c43.1;let c45:=c43.2;Zh n p d o t xs c40 c42 c44 c45/\(T2 n p 1 0 0 (c29.1=c42/\d=d/\c38=c44/\(0:Int)=(0:Int)/\c39=c40/\tl L=c45/\T3 1))/\Dc (19-c40)<Dc (19-h)))/\(c24=false->g=false/\true/\f=f)))/\(c19=false->g/\c17=DU n p o d t xs/\L=RN n p o d t xs/\T3 1))) ⟨rfl,λhp=>?_⟩
 refine Z9 ?_;refine⟨⟨(0,o,t,xs),⟨⟨qH _,show(0:Int)<=19 by decide,hp⟩,rfl⟩,rfl,rfl,rfl,rfl⟩,λ⟨k,j,t2,g⟩ hi=>?_⟩;obtain⟨⟨k0,k1,hq⟩,he⟩:=hi;simp only at k0 k1 hq he;obtain⟨⟨⟨hu,hpl⟩,r,T⟩,ht2,hys⟩:=id hq;obtain⟨⟨p0,p1,p2⟩,⟨q1,q2⟩,q3,_⟩:=id hpl;obtain⟨c,ec⟩:∃c,c=cellAt p j d:=⟨_,rfl⟩;have eC:(p.2.2.1.getD j.toNat []).getD d.toNat 0=c:=ec.symm;obtain⟨v,el⟩:∃v,v=fL n c:=⟨_,rfl⟩;have eL:n.2.2.2.2.1.getD c.toNat (⟨#[]⟩,0,0,0,0,0)=v:=el.symm;simp only[eC,eL];obtain⟨g1,g2⟩:=q3 j d r T;rw[<- ec]at g1 g2;have V:A3 n p o d t xs=(MJ n p d (19-k).toNat j t2 g).1:=by rw[he];rfl
 have eT:DU n p o d t xs=(MJ n p d (19-k).toNat j t2 g).2.1:=by rw[he];rfl
 have eR:RN n p o d t xs=(MJ n p d (19-k).toNat j t2 g).2.2:=by rw[he];rfl
 have hf:k<19->(19-k).toNat=(19-(k+1)).toNat+1:=λh=>Z;have eS:∀f,MJ n p d (f+1) j t2 g=if j=d then(true,t2,g)else if c=-1 then(false,t2,g)else if b7 g=false then(false,t2,g)else
   if xo n j c p (hd g) t2=true then MJ n p d f v.2.2.1 (Ha (ay n j).1 (hd g-2+p.1) v.2.2.2.1+v.2.2.2.2.1) (tl g)else(false,t2,tl g):=λf=>by rw[el,ec];rfl
 have eD:xo n j c p (hd g) t2=(wkF (ay n j).2.1 (ay n j).2.2 (hd g-2+p.1)&&decide (Ha (ay n j).1 (hd g-2+p.1) v.2.2.2.1≥AO n j t2)):=by rw[el];rfl
 refine⟨λz=>?_,λheq=>?_⟩;have hrow:=q2 _ (bj (l:=p.2.2.1) (i:=j.toNat) (d:=[]) (by have:=r.1;have:=r.2;omega));refine⟨r.1,by rw[q1];exact r.2,T.1,by rw[hrow];exact T.2,λh=>?_,λ⟨O,hc⟩=>?_⟩;rw[V];by_cases O:k<19;rw[hf O,eS,if_neg z,if_pos (h O)];rw[show(19-k).toNat=0 by omega];exact vF z;have hl:c<n.2.2.2.2.1.length:=by
  unfold mE at g1;rw[vF hc,kV,qC,qE]at g1;exact g1.1
 obtain⟨_,lo,⟨m0,m1⟩,r0,r1⟩:=gD hu (by omega:0<=c) hl;rw[<- el]at lo m0 m1 r0 r1;obtain⟨⟨z1,z2⟩,hw,hs⟩:=nL (Nn hu r);refine⟨⟨O,hc⟩,Z,hl,⟨hu,r⟩,λh1=>?_,λh1=>?_⟩;have hm1:0<=hd g/\hd g<=65519:=fE.1 hys.1 _ (bj (vT h1));have hm2:-1000000<=Ha (ay n j).1 (hd g-2+p.1) v.2.2.2.1/\Ha (ay n j).1 (hd g-2+p.1) v.2.2.2.1<=100000000:=by unfold Ha;omega
 refine⟨h1,aD Z,aD Z,⟨⟨Z,Z⟩,⟨Z,Z⟩,⟨Z,Z⟩⟩,⟨hw,hs,⟨Z,Z⟩⟩,λ_=>⟨hu,r,ht2⟩,λh=>?_,λh=>?_⟩;rw[V,hf O,eS,if_neg z,if_neg hc,if_neg (by rw[h1];exact Bool.noConfusion),if_neg];rw[eD];simpa using h;have hy:xo n j c p (hd g) t2=true:=by rw[eD];simpa using h
 refine⟨h,aD Z,aD Z,⟨(k+1,v.2.2.1,Ha (ay n j).1 (hd g-2+p.1) v.2.2.2.1+v.2.2.2.2.1,tl g),⟨⟨by show 0<=k+1;omega,by show k+1<=19;omega,⟨⟨hu,hpl⟩,lo,T⟩,⟨by show -3000000000<=_+_;omega,by show _+_<=3000000000;omega⟩,f9 hys 1⟩,?_⟩,⟨rfl,rfl,rfl,rfl⟩,by show(19-(k+1)).toNat<_;omega⟩⟩;rw[<- he,hf O,eS,if_neg z,if_neg hc,if_neg (by rw[h1];exact Bool.noConfusion),if_pos hy];rw[V,hf O,eS,if_neg z,if_neg hc,if_pos h1];have e:MJ n p d (19-k).toNat j t2 g=(true,t2,g):=by
  by_cases O:k<19;rw[hf O,eS,if_pos heq];rw[show(19-k).toNat=0 by omega];show(decide (j=d),t2,g)=_;rw[qU heq]
 rw[V,eT,eR,e];exact⟨rfl,rfl,rfl⟩
def S9(c:Cal)(m t:Int):ah yv iU 79 [.ip C c,.dat I m,.dat I t] [] ⟨Zs c t/\pK c m t=true,.dat I (RP c m t),[]⟩/\
  dA yv iU 79 [.ip C c,.dat I m,.dat I t] [] ⟨Zs c t,pK c m t,eZ 40 190⟩:=by
 obtain⟨z,w,h⟩:=c;refine zC (c:=aCH WC KI1 noP (λ_=>false)) (A:=aKM) (q:=⟨Zs (z,w,h) t,pK (z,w,h) m t,eZ 40 190⟩) PY aHa hm tG (p:=let b:=(z,w,h);let i:=Dn m (dS z t);let e:=bB z t+1;let j:=e+60;let g:=j-1;let A:=jF w h e g;let v:=pK b m t;let X:=chainOf (Value.iface 40 (Value.int .i64 (190:Int)));let G:=true->True/\(false=false->v=false/\true/\X=X);let u:=bB z t+60;let f:=u-1;let r:=jF w h (bB z t) f;true/\(Zs b t->(big z/\big t)/\(i->inR .i64 e/\inR .i64 j/\inR .i64 g/\True/\wdP w h e g/\(∃x,F5 x/\x=0/\b=b/\m=m/\t=t/\1=1/\0=0/\0=0/\e=e/\dS z t=dS z t/\bB z t=bB z t/\dS z t=dS z t/\b=b/\t=t/\bB z t=bB z t/\dS z t=dS z t/\bB z t=bB z t/\dS z t=dS z t/\m=m/\dS z t=dS z t/\i=i/\bB z t=bB z t/\e=e/\b=b/\e=e/\e=e/\j=j/\g=g/\e=e/\g=g/\b=b/\(0:Int)=(0:Int)/\True)/\(∀(x:Nat) (y:Int),F5 x->nB A x y->L5 1 0 (v/\L5 1 0 (y=RP b m t/\True)))/\∀(x:Nat),F5 x->x=Dk A->G/\True)/\(i=false->inR .i64 u/\inR .i64 f/\True/\wdP w h (bB z t) f/\(∃x,F5 x/\x=0/\b=b/\m=m/\t=t/\1=1/\0=0/\0=0/\bB z t=bB z t/\dS z t=dS z t/\bB z t=bB z t/\dS z t=dS z t/\b=b/\t=t/\bB z t=bB z t/\dS z t=dS z t/\bB z t=bB z t/\dS z t=dS z t/\m=m/\dS z t=dS z t/\i=i/\b=b/\bB z t=bB z t/\bB z t=bB z t/\u=u/\f=f/\bB z t=bB z t/\f=f/\b=b/\(0:Int)=(0:Int)/\True)/\(∀(x:Nat) (y:Int),F5 x->nB r x y->L5 1 0 (v/\L5 1 0 (y=RP b m t/\True)))/\∀(x:Nat),F5 x->x=Dk r->G/\True))) ⟨rfl,λhp=>?_⟩
 refine Z9 ?_;obtain⟨hc,t1,t2⟩:=id hp;obtain⟨⟨z1,z2⟩,G,L⟩:=nL hc;simp only at z1 z2 G L;have V:-1000000000<=bB z t/\bB z t<=1000000000:=by unfold bB;omega
 have i:∀b:Int,WQ (z,w,h) m t=b->(∀(x:Nat) (y:Int),F5 x->nB (jF w h b (b+60-1)) x y->pK (z,w,h) m t=true/\y=RP (z,w,h) m t)/\∀x:Nat,F5 x->x=(jF w h b (b+60-1)).length->pK (z,w,h) m t=false:=λb hb=>by
  have e:aDV (z,w,h) m t=(jF w h b (b+60-1)).head?:=by
   unfold aDV;rw[hb,show b+60-1=b+59 by omega]
  refine⟨λx y g j=>?_,λx g j=>?_⟩;have g:x=0:=g;have j:(jF w h b (b+60-1))[x]?=some y:=j;rw[g,<- List.head?_eq_getElem?,<- e]at j;unfold pK RP;rw[j];exact⟨rfl,rfl⟩;have g:x=0:=g;have:jF w h b (b+60-1)=[]:=vY Z;unfold pK;rw[e,this];rfl
 refine⟨⟨⟨Z,Z⟩,t1,t2⟩,λO=>?_,λT=>?_⟩;obtain⟨v,u⟩:=i (bB z t+1) (by unfold WQ;exact if_pos O);exact⟨aD Z,aD Z,aD Z,⟨G,L,⟨Z,Z⟩,⟨Z,Z⟩⟩,rfl,v,u⟩;obtain⟨v,u⟩:=i (bB z t) (by unfold WQ;exact if_neg T);exact⟨aD Z,aD Z,⟨G,L,⟨Z,Z⟩,⟨Z,Z⟩⟩,rfl,v,u⟩
def aAz:ai yv iU aDG:=af (sy λ((n,p),o,d,t,_) b=>(Nv n p o d t b).1)<|af (ae λ(c,m,t,_)=>(S9 c m t).1) PY
def aDE:bJ yv iU aKl:=jL (x4 λ((n,p),o,d,t,_) b=>(Nv n p o d t b).2)<|jL (lg λ(c,m,t,_)=>(S9 c m t).2) PZ
def Zg{n:Net}{p:Plan}{o d t:Int}{xs:Li}(x:O8 n p o d t xs)(z:cellAt p o d≠-1)(A:b7 xs=true):(0<=cellAt p o d/\cellAt p o d<n.2.2.2.2.1.length)/\O8 n p (fL n (cellAt p o d)).2.2.1 d (Ha (ay n o).1 (hd xs-2+p.1) (fL n (cellAt p o d)).2.2.2.1+(fL n (cellAt p o d)).2.2.2.2.1) (tl xs):=by
 obtain⟨⟨⟨h,e⟩,f,g⟩,v,b⟩:=x;obtain⟨⟨p0,p1,p2⟩,⟨X,V⟩,r,_⟩:=id e;obtain⟨g1,g2⟩:=r o d f g;have i:cellAt p o d<n.2.2.2.2.1.length:=by
  unfold mE at g1;rw[vF z,kV,qC,qE]at g1;exact g1.1
 have j:0<=cellAt p o d:=Z;obtain⟨_,u,⟨m0,m1⟩,T,O⟩:=gD h j i;obtain⟨⟨L,G⟩,hw,hs⟩:=nL (Nn h f);have y:0<=hd xs/\hd xs<=65519:=fE.1 b.1 _ (bj (vT A));refine⟨⟨j,i⟩,⟨⟨h,e⟩,u,g⟩,⟨?_,?_⟩,f9 b 1⟩<;>unfold Ha<;>omega
def MI{n:Net}{p:Plan}{d:Int}:∀(f:Nat) {o t:Int}{xs:Li},O8 n p o d t xs->tOk (MJ n p d f o t xs).2.1/\fk (MJ n p d f o t xs).2.2
 |0,o,t,xs,h=>⟨h.2.1,h.2.2⟩|f+1,o,t,xs,h=>by
  unfold MJ;by_cases i:o=d;rw[if_pos i];exact⟨h.2.1,h.2.2⟩;rw[if_neg i];by_cases e:cellAt p o d=-1;rw[if_pos e];exact⟨h.2.1,h.2.2⟩;rw[if_neg e];by_cases b:b7 xs=false;rw[if_pos b];exact⟨h.2.1,h.2.2⟩;rw[if_neg b];by_cases g:xo n o (cellAt p o d) p (hd xs) t=true;rw[if_pos g];exact MI f (Zg h e (by simpa using b)).2;rw[if_neg g];exact⟨h.2.1,f9 h.2.2 1⟩
def aDb{c:Cal}{m t:Int}(h:pK c m t=true):WQ c m t<=RP c m t/\RP c m t<=WQ c m t+59:=by
 unfold pK at h;unfold RP;cases e:aDV c m t with
 |none=>rw[e]at h;cases h
 |some y=>
  unfold aDV at e;have:=fT (qCk e);exact⟨this.1,this.2.1⟩
def aD2(w:List Bool)(h:Li)(a b:Int):(jF w h a b).length<=(b+1-a).toNat:=by
 unfold jF;refine wJ (zU _ _) ?_;rw[vG,vC];exact qM _
def SO(n:Net)(p:Plan)(k o d cut:Int)(xs:Li):ah yv iU 41 [.ips [.ip N n,.ip Pl p,.ptr 1 1 0 0],.dat I k,.dat I o,.dat I d,.dat I cut] [(1,.var [.dat R xs])] ⟨tE n p k o d cut xs/\AP n p k o d cut xs=true,.tup [],[(1,.var [.dat R (RN n p o d cut xs)])]⟩/\
  dA yv iU 41 [.ips [.ip N n,.ip Pl p,.ptr 1 1 0 0],.dat I k,.dat I o,.dat I d,.dat I cut] [(1,.var [.dat R xs])] ⟨tE n p k o d cut xs,AP n p k o d cut xs,eZ 40 190⟩:=by
 refine zM (c:=c13) (A:=aKz) (q:=⟨tE n p k o d cut xs,AP n p k o d cut xs,eZ 40 190⟩) aAz aHa hm aDE (p:=let c1:=A3 n p o d cut xs;let V:=AP n p k o d cut xs;let i:=chainOf (Value.iface 40 (Value.int .i64 (190:Int)));let A:=n.2.2.2.2.2;let h:=DU n p o d cut xs;let T:=AO n d h;let c7:=Du A (Dc k) (ByteArray.mk #[],(0:Int),(0:Int));let L:=c7.2.2;let c9:=pK (ay n d) L T;let G:=(ay n d).1;let b:=RP (ay n d) L T;let f:=bB G cut;let c13:=b-f;let X:=Ef c13 2000;let O:=f+1;let c16:=(ay n d).2;let c17:=c16.1;let c18:=c16.2;let e:=dS G cut;let v:=RN n p o d cut xs;let c21:=jF c17 c18 O b;let u:=p.2.2.2;let r:=Du u (Dc k) (Dt (Li));let j:=Du r (Dc o) [];let g:=Du j (Dc d) 0;true/\(tE n p k o d cut xs->1=1/\(true->O8 n p o d cut xs/\(c1=false->V=false/\true/\i=i))/\((true->c1)->(O8 n p o d cut xs/\c1)/\1=1/\(usP n/\mj n d)/\0<=k/\k<Df A/\aDQ n d h/\Zs (ay n d) T/\(c9->0<=k/\k<Df A/\aDQ n d h/\(Zs (ay n d) T/\c9)/\(big G/\big cut)/\inR .i64 c13/\(true->True/\(X=false->V=false/\true/\i=i))/\((true->X)->(True/\X)/\L5 1 0 (inR .i64 O/\True/\wdP c17 c18 O b/\(∃x,VW x/\x=0/\L3 n p 1 0 0 k o d cut (L3 h (ay n d) b f e 1 0 0 n (L3 p 1 0 0 o d cut h n (L3 p 1 0 0 d (ay n d) (ay n d) n p (L3 1 0 0 n p 1 0 0 n (L3 p 1 0 0 n n A A k (L3 c7 L L n p 1 0 0 d (L3 h T b f e (ay n d) cut f e (L3 f e b f c13 X (ay n d) f O (T2 b O b (ay n d) v (0=Ea x/\T3 1)))))))))))/\(∀(x:Nat),let c26:=Ea x+1;
  ∀(y:Int),VW x->nB c21 x y->L5 1 0 (inR .i64 c26/\L5 1 0 (∃z,VW z/\z=x+1/\L3 n p 1 0 0 k o d cut (L3 h (ay n d) b f e 1 0 0 n (L3 p 1 0 0 o d cut h n (L3 p 1 0 0 d (ay n d) (ay n d) n p (L3 1 0 0 n p 1 0 0 n (L3 p 1 0 0 n n A A k (L3 c7 L L n p 1 0 0 d (L3 h T b f e (ay n d) cut f e (L3 f e b f c13 X (ay n d) f O (T2 b O b (ay n d) v (c26=Ea z/\T3 1)))))))))))))/\∀(x:Nat),VW x->x=Dk c21->L5 1 0 (0<=k/\k<Df u/\0<=o/\o<Df r/\0<=d/\d<Df j/\True/\(Ef (Ea x) g->L5 1 0 (0<=k/\k<Df u/\0<=o/\o<Df r/\0<=d/\d<Df j/\(True/\Ef (Ea x) g)/\V/\T7 v 1))/\(Ef (Ea x) g=false->V=false/\true/\i=i)))))/\(c9=false->V=false/\true/\i=i)))) ⟨rfl,λhp=>?_⟩
 refine Z9 ?_;obtain⟨hf,f⟩:=id hp;obtain⟨⟨⟨O,hpl⟩,ho,hd⟩,ht,hys⟩:=id hf;obtain⟨⟨p0,p1,p2⟩,⟨q1,q2⟩,q3,q4,q5⟩:=id hpl;obtain⟨ft,_⟩:=MI 19 hf;have hcl:=gE O f;have hc:=Nn O hd;obtain⟨⟨z1,z2⟩,hw,hs⟩:=nL hc;have hr:=oT (t:=DU n p o d cut xs) O hd;have ft:-3000000000<=DU n p o d cut xs/\DU n p o d cut xs<=3000000000:=ft;have ht2:-3000000000<=cut/\cut<=3000000000:=ht;have eK:n.2.2.2.2.2.getD k.toNat (⟨#[]⟩,0,0)=fO n k:=rfl;have eL:RP (ay n d) (fO n k).2.2 (AO n d (DU n p o d cut xs))=QR n p k o d cut xs:=rfl;have eB:bB (ay n d).1 cut=ZT n d cut:=rfl;have eN:jF (ay n d).2.1 (ay n d).2.2 (ZT n d cut+1) (QR n p k o d cut xs)=YK n p k o d cut xs:=rfl;have eY:((p.2.2.2.getD k.toNat []).getD o.toNat []).getD d.toNat 0=k9 p k o d:=rfl;have eP:AP n p k o d cut xs=(A3 n p o d cut xs&&(pK (ay n d) (fO n k).2.2 (AO n d (DU n p o d cut xs))&&(decide (QR n p k o d cut xs-ZT n d cut<=2000)&&decide (((YK n p k o d cut xs).length:Int)<=k9 p k o d)))):=rfl;simp only[eK,eL,eB,eN,eY];have T:aDQ n d (DU n p o d cut xs):=⟨O,hd,ft⟩;have hdp:Zs (ay n d) (AO n d (DU n p o d cut xs)):=⟨hc,⟨Z,Z⟩⟩;have hB:-10000000<=ZT n d cut/\ZT n d cut<=10000000:=by unfold ZT bB;omega
 refine⟨⟨hf,λh=>by rw[eP,h];rfl⟩,λh1=>⟨⟨hf,h1⟩,⟨O,hd⟩,f.1,f.2,T,hdp,λh2=>⟨f.1,f.2,T,⟨hdp,h2⟩,⟨⟨Z,Z⟩,⟨Z,Z⟩⟩,?_⟩,λh=>by rw[eP,h1,h];rfl⟩⟩;have hD:=aDb h2;rw[eL]at hD;have hbg:bB (ay n d).1 (AO n d (DU n p o d cut xs))<=WQ (ay n d) (fO n k).2.2 (AO n d (DU n p o d cut xs))/\WQ (ay n d) (fO n k).2.2 (AO n d (DU n p o d cut xs))<=bB (ay n d).1 (AO n d (DU n p o d cut xs))+1:=by unfold WQ;split<;>omega
 have hbd:-10000000<=bB (ay n d).1 (AO n d (DU n p o d cut xs))/\bB (ay n d).1 (AO n d (DU n p o d cut xs))<=10000000:=by unfold bB;omega
 refine⟨aD Z,λh=>by rw[eP,h1,h2,vF h];rfl,λh3=>⟨h3,aD Z,⟨hw,hs,⟨Z,Z⟩,⟨Z,Z⟩⟩,⟨0,wU _,rfl,rfl⟩,λx y hx hy=>?_,λx hx hlen=>?_⟩⟩;have hlt:x<(YK n p k o d cut xs).length:=(qG.1 hy).1;have:=aD2 (ay n d).2.1 (ay n d).2.2 (ZT n d cut+1) (QR n p k o d cut xs);rw[eN]at this;exact⟨aD Z,x+1,by show x+1<=4000000000000;omega,rfl,Z⟩;have X:=f.1;have hk2:=f.2;have V:=ho.1;have ho2:=ho.2;have hd1:=hd.1;have hd2:=hd.2;obtain⟨w1,w2⟩:=q5 _ (bj (l:=p.2.2.2) (i:=k.toNat) (d:=[]) Z);have w3:=w2 _ (bj (l:=p.2.2.2.getD k.toNat []) (i:=o.toNat) (d:=[]) Z);refine⟨X,Z,V,Z,hd1,Z,λh=>⟨X,Z,V,Z,hd1,Z,h,?_⟩,λh=>?_⟩;rw[eP,h1,h2,qU h3,qU Z];rfl;rw[eP,h1,h2,qU h3,vF Z];rfl
def cellsD(p:Plan)(k o:Int):Li:=(p.2.2.2.getD k.toNat []).getD o.toNat []
def fK(p:Plan)(k:Int):Lj:=p.2.2.2.getD k.toNat []
def runN(f:Nat->Li->Option (Li)):Nat->Li->Option (Li)|0,x=>some x|m+1,x=>(runN f m x).bind (f m)
def BQ(n:Net)(p:Plan)(k o d:Int)(j:Nat)(xs:Li):Option (Li):=if AP n p k o d ((mD n p k o).getD j 0) xs=true then some (RN n p o d ((mD n p k o).getD j 0) xs)else none
def GX(n:Net)(p:Plan)(k o d:Int)(xs:Li):Option (Li):=if k9 p k o d=-1 then some xs else runN (BQ n p k o d) (mD n p k o).length xs
def iX(n:Net)(p:Plan)(k o:Int)(xs:Li):Option (Li):=runN (λd=>GX n p k o (d:Int)) (cellsD p k o).length xs
def aEc(n:Net)(p:Plan)(k:Int)(xs:Li):Option (Li):=runN (λo=>iX n p k (o:Int)) (fK p k).length xs
def st1(n:Net)(p:Plan)(l:Li)(k:Int):Option (Li):=runN (λk=>aEc n p (k:Int)) k.toNat l
def st2(n:Net)(p:Plan)(l:Li)(k o:Int):Option (Li):=(st1 n p l k).bind (runN (λo=>iX n p k (o:Int)) o.toNat)
def st3(n:Net)(p:Plan)(l:Li)(k o d:Int):Option (Li):=(st2 n p l k o).bind (runN (λd=>GX n p k o (d:Int)) d.toNat)
def st4(n:Net)(p:Plan)(l:Li)(k o d:Int)(j:Nat):Option (Li):=(st3 n p l k o d).bind (runN (BQ n p k o d) j)
def J8(n:Net)(p:Plan)(l:Li):Option (Li):=st1 n p l p.2.2.2.length
def Xe(n:Net)(p:Plan)(l:Li)(k:Int)(xs:Li):Prop:=(0<=k/\k<=p.2.2.2.length)/\st1 n p l k=some xs/\fk xs
def to2(n:Net)(p:Plan)(l:Li)(k o:Int)(xs:Li):Prop:=((0<=k/\k<p.2.2.2.length)/\0<=o/\o<=(fK p k).length)/\st2 n p l k o=some xs/\fk xs
def to3(n:Net)(p:Plan)(l:Li)(k o d:Int)(xs:Li):Prop:=((0<=k/\k<p.2.2.2.length)/\(0<=o/\o<(fK p k).length)/\0<=d/\d<=(cellsD p k o).length)/\st3 n p l k o d=some xs/\fk xs
def to4(n:Net)(p:Plan)(l:Li)(k o d j:Int)(xs:Li):Prop:=0<=j/\st4 n p l k o d j.toNat=some xs/\fk xs
def TA(l:Li):Bool:=decide (l.length<=40000)
def sJ(n:Net)(l:Li):Bool:=Pe n (aC l)&&TA l
def aJx(n:Net)(l:Li):Int:=if J8 n (aC l) (cz l)=some []then 0 else 190
def jv(n:Net)(l:Li)(s:Int):Int:=if lK (l,s)=true then if usF n=true then if sJ n l=true then aJx n l else 190 else 1 else FM (l,s)
def aCw(args:List AV)(m:Mem):Option jY:=match args,m with|[.agg [.dat (.sl (.int .i64)) l,.dat (.int .i64) s]],[]=>some ⟨Im (l,s)/\lK (l,s)=true,.tup [.agg [.dat I (aC l).1,.dat I (aC l).2.1,.dat M (aC l).2.2.1,.dat (.sl M) (aC l).2.2.2],.ptr 1 1 0 0],[(1,.var [.dat R (cz l)])]⟩|_,_=>none
def Z6:Kt:=kOr 36 aCw <|
 kOr 38 UZ <|
 kOr 39 OV <|
 kOr 41 (xD 1 R [.pv 1 N Pl,.val I,.val I,.val I,.val I] (λ((n,p),k,o,d,cut,_) b=>tE n p k o d cut b/\AP n p k o d cut b=true) (λ_ _=>.tup []) λ((n,p),k,o,d,cut,_) b=>RN n p o d cut b) aDG
def aJo:KPt:=pOr 36 (A4 [.row Ce] λ(c,_)=>⟨Im c,lK c,eZ 40 (FM c)⟩) <|
 pOr 41 (aCI 1 R [.pv 1 N Pl,.val I,.val I,.val I,.val I] λ((n,p),k,o,d,cut,_) b=>⟨tE n p k o d cut b,AP n p k o d cut b,eZ 40 190⟩) KPr
def KI2:FuncId->List AV->Option jX:=λf b=>if f=74 then match ofK [.pvb N Pl,.ptr I,.ptr I] b with
 |some ((n,p),o,k,_)=>some ⟨aGX n p k o,I,mD n p k o⟩|none=>none
 else KI1 f b
def c14:Cfg:=QG Z6 (λ_=>false) aJo (λf=>f==37||f==36)
def c15:Cfg:=aCH Z6 KI2 aJo (λf=>f==37||f==36||f==41)
def keep(s:St)(x:Li):St:={gv s with mem:=xF (s.mem.filter λb=>b.1<=2) 1 (.var [.dat R x])}
def aKO(n:Net)(l:Li):Ann:=⟨λe s=>match e with
 |7=>some {α:=Int×Li,inv:=λx=>Xe n (aC l) (cz l) x.1 x.2,st:=λx=>dD (put (gv s) [(37,.dat I x.1)]) 1 (.var [.dat R x.2]),μ:=λx=>Dc (Di (Df (aC l).2.2.2) x.1)}|10=>match s.sig.T 39 with
  |.dat (.int .i64) k=>some {α:=Int×Li,inv:=λx=>to2 n (aC l) (cz l) k x.1 x.2,st:=λx=>dD (put (gv s) [(44,.dat I x.1)]) 1 (.var [.dat R x.2]),μ:=λx=>Dc (Di (Df (fK (aC l) k)) x.1)}|_=>none
 |13=>match s.sig.T 39,s.sig.T 46 with
  |.dat (.int .i64) k,.dat (.int .i64) o=>some {α:=Int×Li,inv:=λx=>to3 n (aC l) (cz l) k o x.1 x.2,st:=λx=>dD (put (gv s) [(51,.dat I x.1)]) 1 (.var [.dat R x.2]),μ:=λx=>Dc (Di (Df (cellsD (aC l) k o)) x.1)}|_,_=>none
 |17=>match s.sig.T 39,s.sig.T 46,s.sig.T 53 with
  |.dat (.int .i64) k,.dat (.int .i64) o,.dat (.int .i64) d=>some {α:=Int×Li,inv:=λx=>to4 n (aC l) (cz l) k o d x.1 x.2,st:=λx=>dD (gv s) 1 (.var [.dat R x.2]),μ:=λx=>Dc x.1}|_,_,_=>none
 |_=>none,λe s=>match e with
 |3=>some (put {s with mem:=s.mem.filter λb=>b.1 != 2} [(5,.ip Pl (aC l))])
 |_=>none,λ_ _=>none⟩
def Yx:∀args m c,aCw args m=some c->ah yv iU 36 args m c:=by
 intro args m c h;unfold aCw at h;split at h;cases h;exact(gM _ _).1;cases h
def aAy:ai yv iU Z6:=af Yx<|af aKv<|af aH2<|af (sy λ((n,p),k,o,d,cut,_) b=>(SO n p k o d cut b).1) aAz
def aDD:bJ yv iU aJo:=jL (lg λ(c,_)=>(gM c.2 c.1).2)<|jL (x4 λ((n,p),k,o,d,cut,_) b=>(SO n p k o d cut b).2) PZ
def aKY:bh yv iU KI2:=by
 intro f b g h;unfold KI2 at h;split at h;rename_i e;subst e;split at h;rename_i n p o k _ i;cases h;exact mU.args (aEA n p k o) λC r j=>fZ i j;cases h;exact aHa f b g h
end Go.Eng.In
set_option maxHeartbeats 4000000
namespace Go.Eng.In
open Go.Proofs
def BM{l:Li}(b:fk l)(h:pR l=true):(0<=l.getD 2 0/\l.getD 2 0<=12)/\(0<=l.getD 3 0/\l.getD 3 0<=4)/\0<=l.getD 0 0/\l.getD 0 0<l.getD 1 0/\l.getD 1 0<=600:=by
 have bd:∀k:Nat,0<=l.getD k 0:=λk=>by
  by_cases e:k<l.length;exact(fE.1 b.1 _ (bj e)).1;rw[qA,zD Z];exact qH _
 unfold pR xh at h;simp only[qC,qE]at h;exact⟨⟨bd 2,h.1.2.1⟩,⟨bd 3,h.1.2.2.1⟩,bd 0,h.1.2.2.2.1,h.1.2.2.2.2.2⟩
def An(g:Int->Int->Int)(n:Int):(fb g n).length=n.toNat:=by unfold fb;simp
def rU{g:Int->Int->Int}{n:Int}{r:Li}(h:r∈fb g n):r.length=n.toNat/\∀x∈r,∃i j,x=g i j:=by
 unfold fb at h;obtain⟨i,_,rfl⟩:=vK.1 h;refine⟨by simp,λx b=>?_⟩;obtain⟨j,_,rfl⟩:=vK.1 b;exact⟨_,_,rfl⟩
def ZP{g:Int->Int->Int}{n i j:Int}(f:0<=i/\i<n)(b:0<=j/\j<n):((fb g n).getD i.toNat []).getD j.toNat 0=g i j:=by
 unfold fb;have r:i.toNat<n.toNat:=Z;have h:j.toNat<n.toNat:=Z;have e:((List.range n.toNat).map λi:Nat=>(List.range n.toNat).map λj:Nat=>g i j).getD i.toNat []=(List.range n.toNat).map λj:Nat=>g (i.toNat:Nat) j:=by
  rw[qA,qX,vP r];rfl
 rw[e,qA,qX,vP h,qY f.1];show g i (j.toNat:Nat)=_;rw[qY b.1]
def aD8{l:Li}(b:fk l)(m i j:Int): -1<=tg l m i j:=by
 unfold tg;have:0<=l.getD (i*m+j).toNat 0:=by
  by_cases e:(i*m+j).toNat<l.length;exact(fE.1 b.1 _ (bj e)).1;rw[qA,zD Z];exact qH _
 omega
def Xh{q m:Int}{l:Li}{t:Lj}(h:t∈AL q m l):∃k,t=oU m (bY l k):=by
 unfold AL at h;obtain⟨i,_,rfl⟩:=vK.1 h;exact⟨_,rfl⟩
def Xi(q m:Int)(l:Li):(AL q m l).length=q.toNat:=by unfold AL;simp
def aCt{l:Li}(b:fk l)(h:pR l=true):nxP (aC l):=by
 obtain⟨⟨v,u⟩,_⟩:=BM b h;refine⟨?_,λr f=>?_⟩;show(fb _ _).length<=_;rw[An];omega;obtain⟨y,g⟩:=rU f;refine⟨Z,λx e=>?_⟩;obtain⟨i,j,rfl⟩:=g x e;exact aD8 (f9 b 4) _ _ _
def Yq{n:Net}{l:Li}(y:fk l)(h:pR l=true)(v:Pe n (aC l)=true):plP n (aC l):=by
 obtain⟨⟨m0,m1⟩,⟨q0,q1⟩,a0,a1,a2⟩:=BM y h;unfold Pe at v;simp only[qC,qE,qQ,qW]at v;obtain⟨⟨V,T⟩,O⟩:=v;have e1:(aC l).2.2.1.length=(l.getD 2 0).toNat:=An _ _;have e2:(aC l).2.2.2.length=(l.getD 3 0).toNat:=Xi _ _ _;refine⟨⟨a0,by show l.getD 0 0<=l.getD 1 0;omega,a2⟩,⟨V,λr b=>?_⟩,λi j L G=>?_,T,λt A=>?_⟩;have h1:=(rU b).1;omega;obtain⟨x,i1⟩:=L;obtain⟨z,j1⟩:=G;have u:i<l.getD 2 0:=Z;have f:j<l.getD 2 0:=Z;have X:cellAt (aC l) i j=tg (bY l 4) (l.getD 2 0) i j:=ZP ⟨x,u⟩ ⟨z,f⟩;have:=O i.toNat Z;unfold pB at this;rw[qQ,qY x]at this;have b:=(rU (g:=tg (bY l 4) (l.getD 2 0)) (n:=l.getD 2 0) (r:=(aC l).2.2.1.getD i.toNat []) (bj (by omega:i.toNat<(aC l).2.2.1.length))).1;refine⟨this _ (bj Z),?_⟩;rw[X];exact aD8 (f9 y 4) _ _ _;obtain⟨k,rfl⟩:=Xh A;have e:(oU (l.getD 2 0) (bY (bY l (4+l.getD 2 0*l.getD 2 0)) k)).length=(l.getD 2 0).toNat:=An _ _;refine⟨Z,λr b=>?_⟩;have:=(rU b).1;omega
def qj{f:Nat->Li->Option (Li)}{m:Nat}{x:Li}(h:runN f m x=none):∀{k:Nat},m<=k->runN f k x=none:=by
 intro k e;induction e with
 |refl=>exact h|step _ b=>rw[runN,b];rfl
def oI{α:Type}(x:Option α):(x.bind λy=>some y)=x:=by cases x<;>rfl
def bind_none{α:Type}{x:Option α}{f g:α->Option α}(h:x.bind f=none)(b:∀y,f y=none->g y=none):x.bind g=none:=by
 cases x with
 |none=>rfl|some y=>exact b y h
section
variable {n:Net}{p:Plan}{l:Li}{k o d:Int}
def XW:st2 n p l k 0=st1 n p l k:=oI _
def XT:st3 n p l k o 0=st2 n p l k o:=oI _
def XQ:st4 n p l k o d 0=st3 n p l k o d:=oI _
def NB(b:0<=k):st1 n p l (k+1)=st2 n p l k (fK p k).length:=by
 unfold st2;rw[qR];show runN _ (k+1).toNat l=_;rw[show(k+1).toNat=k.toNat+1 by omega,runN,qY b];rfl
def NA(b:0<=o):st2 n p l k (o+1)=st3 n p l k o (cellsD p k o).length:=by
 unfold st3 st2;rw[qR,show(o+1).toNat=o.toNat+1 by omega,qDa];congr 1;funext x;rw[runN,qY b];rfl
def XU(e:0<=d)(h:k9 p k o d=-1):st3 n p l k o (d+1)=st3 n p l k o d:=by
 unfold st3;rw[show(d+1).toNat=d.toNat+1 by omega];congr 1;funext x;rw[runN,qY e,show GX n p k o d=λb=>some b from funext λb=>if_pos h];exact oI _
def Nz(e:0<=d)(h:k9 p k o d≠-1):st3 n p l k o (d+1)=st4 n p l k o d (mD n p k o).length:=by
 unfold st4 st3;rw[show(d+1).toNat=d.toNat+1 by omega,qDa];congr 1;funext x;rw[runN,qY e,show GX n p k o d=λb=>runN (BQ n p k o d) (mD n p k o).length b from funext λb=>if_neg h]
def XR(j:Nat):st4 n p l k o d (j+1)=(st4 n p l k o d j).bind (BQ n p k o d j):=by
 unfold st4;rw[qDa];rfl
def XY{b:Int}(h:st1 n p l k=none)(e:k<=b):st1 n p l b=none:=qj h Z
def XX{o':Int}(h:st2 n p l k o=none)(e:o<=o'):st2 n p l k o'=none:=bind_none h λy b=>qj b Z
def XV{d':Int}(h:st3 n p l k o d=none)(e:d<=d'):st3 n p l k o d'=none:=bind_none h λy b=>qj b Z
def XS{j b:Nat}(h:st4 n p l k o d j=none)(f:j<=b):st4 n p l k o d b=none:=bind_none h λy e=>qj e f
def aBV{j:Nat}(h:st4 n p l k o d j=none)(r:j<=(mD n p k o).length)(hd:k9 p k o d≠-1)(u:0<=d)(y:d<(cellsD p k o).length)(g:0<=o)(v:o<(fK p k).length)(i:0<=k)(x:k<p.2.2.2.length):J8 n p l=none:=by
 have f:=XS h r;rw[<- Nz u hd]at f;have e:=XV f (d':=(cellsD p k o).length) Z;rw[<- NA g]at e;have b:=XX e (o':=(fK p k).length) Z;rw[<- NB i]at b;exact XY b Z
end
def aBR(s:Int)(l:Li)(cs:List Cal)(ns V:List ByteArray)(X:List Off)(ls:List Line)(ks:List Cla):ah yv iU 18 [.agg [.dat (.sl C) cs,.dat (.sl S) ns,.dat (.sl S) V,.dat (.sl Of) X,.dat (.sl Ln) ls,.dat (.sl Kl) ks],.agg [.dat R l,.dat I s]] [] ⟨L1 l/\G9 (cs,ns,V,X,ls,ks),.dat I (jv (cs,ns,V,X,ls,ks) l s),[]⟩:=by
 refine zR (c:=c15) (Kz:=Z6) (A0:=az) (A:=(aKO (cs,ns,V,X,ls,ks) l)) (Ac:=az) aAy aAy aKY hm aDD (p:=let e:=(cs,ns,V,X,ls,ks);let c2:=(l,s);let c3:=lK c2;let c4:=jv e l s;let h:=(aC l).1;let aW:=(aC l).2;let j:=aW.1;let c8:=aW.2;let r:=c8.1;let b:=c8.2;let G:=usF e;let A:=Pe e (aC l);let c13:=Dz A (Ef (Df l) 40000) false;let c14:=Df b;(true/\true)/\(L1 l/\G9 e->true/\(true->Im c2/\(c3=false->true/\true/\(Dj false->True/\Q3 1 0 1 0 (FM c2=c4/\True))/\(Dj false=false->L5 1 0 (0=c4/\True))))/\((true->c3)->(Im c2/\c3)/\L3 1 0 cs ns V X ls ks l (T5 s e c2 1 0 0 1 0 ((h,j,r,b)=aC l/\L3 1 0 0 undef undef undef undef undef undef (L3 undef undef 1 0 0 h j r b (L3 1 0 0 l s h j r b (L3 1 0 0 h j r b 1 0 (L3 0 undef undef undef undef undef undef undef undef (L3 undef undef undef undef undef undef undef undef undef (L3 undef undef undef undef undef undef undef undef undef (L3 undef undef undef undef undef undef undef undef undef (L3 undef undef undef undef undef undef undef undef undef (L3 undef undef undef undef undef undef undef undef undef (L3 undef undef undef undef undef Q1 (cz l) 1 0 (0=0/\G9 e/\(true->True/\(G=false->true/\true/\(Dj false->True/\Q3 1 0 1 0 (1=c4/\True))/\(Dj false=false->L5 1 0 (0=c4/\True))))/\((true->G)->(True/\G)/\(G9 e/\nxP (aC l))/\(A->A->A)/\(A->A->A)/\(A->A->A)/\(Dh true A->A)/\(true->True/\(c13=false->true/\true/\(Dj false->True/\Q3 1 0 1 0 (190=c4/\True))/\(Dj false=false->L5 1 0 (0=c4/\True))))/\((true->c13)->(True/\c13)/\Q3 1 1 1 0 ((∃(x:Int×Li),let c15:=x.1;let c16:=x.2;
  Xe e (aC l) (cz l) c15 c16/\L3 cs ns V X ls ks l s e (L3 c2 1 0 0 (aC l) 1 0 0 1 (L3 0 0 1 0 0 h j r b (L3 1 0 0 l s h j r b (L3 1 0 0 h j r b 1 0 (L3 0 G A A c13 1 0 0 e (L3 (aC l) 1 0 0 e (aC l) 1 0 0 (Q2 b b c14 (0=c15/\(0:Int)=(0:Int)/\cz l=c16/\w7 e (aC l) 1 0 0 1 0 0)))))))))/\∀(x:Int×Li),let f:=x.1;let c18:=x.2;let T:=Dn f c14;let i:=Du b (Dc f) (Dt (Li));let O:=Df i;let c22:=Df (fK (aC l) f);let c23:=f+1;let c24:=Eb (Df c18) 0;Xe e (aC l) (cz l) f c18->(T->0<=f/\f<c14/\L5 1 0 ((∃(xa:Int×Li),let c25:=xa.1;let c26:=xa.2;to2 e (aC l) (cz l) f c25 c26/\L3 cs ns V X ls ks l s e (L3 c2 1 0 0 (aC l) 1 0 0 1 (L3 0 0 1 0 0 i 1 0 0 (L3 h j r b 1 0 0 l s (L3 h j r b 1 0 0 h j (L3 r b 1 0 0 G A A c13 (L3 1 0 0 e (aC l) 1 0 0 e (L3 (aC l) 1 0 0 b b c14 f T (T2 f i i i O (0=c25/\(0:Int)=(0:Int)/\c18=c26/\w6 e (aC l) 1 0 0 f 1 0 0))))))))))/\∀(xb:Int×Li),let g:=xb.1;let c28:=xb.2;let c29:=Dn g O;let v:=Du i (Dc g) [];let c31:=Df v;let c32:=Df (cellsD (aC l) f g);let c33:=mD e (aC l) f g;let c34:=g+1;to2 e (aC l) (cz l) f g c28->(c29->0<=g/\g<O/\L5 1 0 ((∃(xba:Int×List Int),let c35:=xba.1;let c36:=xba.2;
  to3 e (aC l) (cz l) f g c35 c36/\L3 cs ns V X ls ks l s e (L3 c2 1 0 0 (aC l) 1 0 0 1 (L3 0 0 1 0 0 i 1 0 0 (L3 v 1 0 0 h j r b 1 (L3 0 0 l s h j r b 1 (L3 0 0 h j r b 1 0 0 (L3 G A A c13 1 0 0 e (aC l) (L3 1 0 0 e (aC l) 1 0 0 b (L3 b c14 f T f i i i O (T4 g c29 g v v v c31 (0=c35/\(0:Int)=(0:Int)/\c28=c36/\L3 e (aC l) 1 0 0 f g 1 0 (T3 0))))))))))))/\∀(xbb:Int×Li),let u:=xbb.1;let c38:=xbb.2;let c39:=Dn u c31;let L:=Du v (Dc u) 0;let c41:=Eb L (-1);let c42:=u+1;to3 e (aC l) (cz l) f g u c38->(c39->0<=u/\u<c31/\L5 1 0 ((c41->inR .i64 c42/\∃(y:Int×Li),let c43:=y.1;let c44:=y.2;to3 e (aC l) (cz l) f g c43 c44/\(L3 cs ns V X ls ks l s e (L3 c2 1 0 0 (aC l) 1 0 0 1 (L3 0 0 1 0 0 i 1 0 0 (L3 v 1 0 0 h j r b 1 (L3 0 0 l s h j r b 1 (L3 0 0 h j r b 1 0 0 (L3 G A A c13 1 0 0 e (aC l) (L3 1 0 0 e (aC l) 1 0 0 b (L3 b c14 f T f i i i O (T4 g c29 g v v v c31 (c42=c43/\(0:Int)=(0:Int)/\c38=c44/\L3 e (aC l) 1 0 0 f g 1 0 (T3 0))))))))))))/\Dc (c32-c43)<Dc (c32-u))/\(c41=false->T6 1 0 1 0 1 0 (True/\aGX e (aC l) f g/\(∃(xbba:Int×Li),let c45:=xbba.1;let c46:=xbba.2;
  to4 e (aC l) (cz l) f g u c45 c46/\Dc c45=0/\L3 cs ns V X ls ks l s e (L3 c2 1 0 0 (aC l) 1 0 0 1 (L3 0 0 1 0 0 i 1 0 0 (L3 v 1 0 0 L 1 0 0 h (L3 j r b 1 0 0 l s h (L3 j r b 1 0 0 h j r (L3 b 1 0 0 G A A c13 1 (L3 0 0 e (aC l) 1 0 0 e (aC l) (L3 1 0 0 b b c14 f T f (L3 i i i O g c29 g v v (L3 v c31 u c39 u L L L c41 (L3 e (aC l) 1 0 0 f g e (aC l) (Q2 g f Q1 (c38=c46/\L3 e (aC l) 1 0 0 f g u 1 (T7 0 0)))))))))))))))/\(∀(xbbb:Int×Li),let c47:=xbbb.1;let c48:=xbbb.2;let c49:=Dc c47;∀(y:Int),let c50:=AP e (aC l) f g u y c48;to4 e (aC l) (cz l) f g u c47 c48->nB c33 c49 y->T5 1 0 1 0 1 0 1 0 ((true->tE e (aC l) f g u y c48/\(c50=false->true/\true/\(Dj false->True/\Q3 1 0 1 0 (190=c4/\True))/\(Dj false=false->L5 1 0 (0=c4/\True))))/\((true->c50)->(tE e (aC l) f g u y c48/\c50)/\1=1/\∃(z:Int×Li),let c51:=z.1;let c52:=z.2;
  to4 e (aC l) (cz l) f g u c51 c52/\Dc c51=c49+1/\L3 cs ns V X ls ks l s e (L3 c2 1 0 0 (aC l) 1 0 0 1 (L3 0 0 1 0 0 i 1 0 0 (L3 v 1 0 0 L 1 0 0 h (L3 j r b 1 0 0 l s h (L3 j r b 1 0 0 h j r (L3 b 1 0 0 G A A c13 1 (L3 0 0 e (aC l) 1 0 0 e (aC l) (L3 1 0 0 b b c14 f T f (L3 i i i O g c29 g v v (L3 v c31 u c39 u L L L c41 (L3 e (aC l) 1 0 0 f g e (aC l) (Q2 g f Q1 (RN e (aC l) g u y c48=c52/\L3 e (aC l) 1 0 0 f g u 1 (T7 0 0)))))))))))))))))/\∀(xbbc:Int×List Int),let c53:=xbbc.1;let c54:=xbbc.2;to4 e (aC l) (cz l) f g u c53 c54->Dc c53=Dk c33->inR .i64 c42/\∃(y:Int×Li),let c55:=y.1;let c56:=y.2;to3 e (aC l) (cz l) f g c55 c56/\(L3 cs ns V X ls ks l s e (L3 c2 1 0 0 (aC l) 1 0 0 1 (L3 0 0 1 0 0 i 1 0 0 (L3 v 1 0 0 h j r b 1 (L3 0 0 l s h j r b 1 (L3 0 0 h j r b 1 0 0 (L3 G A A c13 1 0 0 e (aC l) (L3 1 0 0 e (aC l) 1 0 0 b (L3 b c14 f T f i i i O (T4 g c29 g v v v c31 (c42=c55/\(0:Int)=(0:Int)/\c54=c56/\L3 e (aC l) 1 0 0 f g 1 0 (T3 0))))))))))))/\Dc (c32-c55)<Dc (c32-u)))))/\(c39=false->inR .i64 c34/\∃(y:Int×Li),let c57:=y.1;let c58:=y.2;
  to2 e (aC l) (cz l) f c57 c58/\(L3 cs ns V X ls ks l s e (L3 c2 1 0 0 (aC l) 1 0 0 1 (L3 0 0 1 0 0 i 1 0 0 (L3 h j r b 1 0 0 l s (L3 h j r b 1 0 0 h j (L3 r b 1 0 0 G A A c13 (L3 1 0 0 e (aC l) 1 0 0 e (L3 (aC l) 1 0 0 b b c14 f T (T2 f i i i O (c34=c57/\(0:Int)=(0:Int)/\c38=c58/\w6 e (aC l) 1 0 0 f 1 0 0))))))))))/\Dc (c22-c57)<Dc (c22-g))))/\(c29=false->inR .i64 c23/\∃(y:Int×Li),let c59:=y.1;let c60:=y.2;Xe e (aC l) (cz l) c59 c60/\(L3 cs ns V X ls ks l s e (L3 c2 1 0 0 (aC l) 1 0 0 1 (L3 0 0 1 0 0 h j r b (L3 1 0 0 l s h j r b (L3 1 0 0 h j r b 1 0 (L3 0 G A A c13 1 0 0 e (L3 (aC l) 1 0 0 e (aC l) 1 0 0 (Q2 b b c14 (c23=c59/\(0:Int)=(0:Int)/\c28=c60/\w7 e (aC l) 1 0 0 1 0 0)))))))))/\Dc (c14-c59)<Dc (c14-f))))/\(T=false->Q3 1 1 1 0 ((true->True/\(c24=false->true/\true/\(Dj false->True/\Q3 1 0 1 0 (190=c4/\True))/\(Dj false=false->L5 1 0 (0=c4/\True))))/\((true->c24)->(True/\c24)/\L5 1 0 (true/\true/\(Dj true->False)/\(Dj true=false->L5 1 0 (0=c4/\True))))))))))))))))))))))))) ⟨⟨rfl,rfl⟩,λhp=>?_⟩
 refine Z9 ?_;obtain⟨hl,hn⟩:=hp;generalize (cs,ns,V,X,ls,ks)=n at hn ⊢;have two:∀{p q:Prop},p->(p/\(false=true->q)):=λh=>⟨h,λh=>by cases h⟩;have eF:jv n l s=if lK (l,s)=true then if usF n=true then if sJ n l=true then aJx n l else 190 else 1 else FM (l,s):=rfl;refine⟨⟨hl,λh=>two (by rw[eF,if_neg (by rw[h];exact Bool.noConfusion)])⟩,λh1=>⟨⟨hl,h1⟩,hn,λh=>two (by rw[eF,if_pos h1,if_neg (by rw[h];exact Bool.noConfusion)]),λh2=>?_⟩⟩;have hs:ig l s=true/\pR l=true:=by
  unfold lK at h1;rwa [qC]at h1
 have hnum:fk l:=⟨by have:=hs.1;unfold ig at this;rw[qC]at this;exact this.1,hl⟩;have hnx:=aCt hnum hs.2;refine⟨h2,⟨hn,hnx⟩,λh=>two ?_,λh3=>⟨h3,?_⟩⟩;have:sJ n l=false:=by
  unfold sJ TA;cases e:Pe n (aC l)with
  |false=>rfl|true=>rw[vF (by have:=h e;omega)];rfl
 rw[eF,if_pos h1,if_pos h2,if_neg (by rw[this];exact Bool.noConfusion)];have hfa:sJ n l=true:=by
  unfold sJ TA;rw[h3.1,qU (by have:=h3.2;omega)];rfl
 have hpl:=Yq hnum hs.2 h3.1;have eC:jv n l s=if J8 n (aC l) (cz l)=some []then 0 else 190:=by rw[eF,if_pos h1,if_pos h2,if_pos hfa];rfl
 have hrest:fk (cz l):=f9 hnum _;obtain⟨p,ep⟩:∃p,p=aC l:=⟨_,rfl⟩;obtain⟨r,er⟩:∃r,r=cz l:=⟨_,rfl⟩;rw[<- ep]at hpl;rw[<- er]at hrest;rw[eC];rw[<- ep,<- er];clear eC eF hnx hfa h3 hs h1;obtain⟨⟨p0,p1,p2⟩,⟨q1,q2⟩,q3,q4,q5⟩:=id hpl;have eRow:∀k:Int,p.2.2.2.getD k.toNat []=fK p k:=λ_=>rfl;have eCel:∀k o:Int,(fK p k).getD o.toNat []=cellsD p k o:=λ_ _=>rfl;have eDay:∀k o d:Int,(cellsD p k o).getD d.toNat 0=k9 p k o d:=λ_ _ _=>rfl;simp only[eRow,eCel,eDay];have hu:usP n:=⟨h2,hn⟩;have hno:n.2.2.2.1.length<=2000000000000000:=hn.1.1.2;have hnk:n.2.2.2.2.2.length<=2000000000000000:=hn.2;refine⟨⟨(0,r),⟨⟨qH _,qI _⟩,rfl,hrest⟩,rfl,rfl⟩,λ⟨k,xs⟩ ⟨⟨k0,k1⟩,kx,kn⟩=>⟨λhk=>?_,λhk=>?_⟩⟩;have hk:k<p.2.2.2.length:=hk;have hrw:(fK p k).length=n.2.2.2.1.length/\∀r∈fK p k,r.length=n.2.2.2.1.length:=q5 _ (bj Z);refine⟨k0,hk,⟨(0,xs),⟨⟨⟨k0,hk⟩,qH _,qI _⟩,by rw[XW];exact kx,kn⟩,rfl,rfl⟩,λ⟨o,ys⟩ ⟨⟨_,o0,o1⟩,ox,on⟩=>⟨λho=>?_,λho=>?_⟩⟩;have ho:o<(fK p k).length:=ho;have hcl:(cellsD p k o).length=n.2.2.2.1.length:=hrw.2 _ (bj Z);refine⟨o0,ho,⟨(0,ys),⟨⟨⟨k0,hk⟩,⟨o0,ho⟩,qH _,qI _⟩,by rw[XT];exact ox,on⟩,rfl,rfl⟩,λ⟨d,zs⟩ ⟨⟨_,_,d0,d1⟩,dx,dn⟩=>⟨λhd=>?_,λhd=>?_⟩⟩;have hd:d<(cellsD p k o).length:=hd;have d0:0<=d:=d0;have offO:mj n o:=⟨o0,by show o<_;omega⟩;have offD:mj n d:=⟨d0,Z⟩;have cla:ZI n k:=⟨k0,by show k<_;omega⟩
 refine⟨d0,hd,λhm1=>⟨aD Z,⟨(d+1,zs),⟨⟨⟨k0,hk⟩,⟨o0,ho⟩,by show 0<=d+1;omega,by show d+1<=_;omega⟩,by rw[XU d0 hm1];exact dx,dn⟩,⟨rfl,rfl⟩,by show(_-(d+1)).toNat<_;omega⟩⟩,λhm1=>⟨⟨⟨hu,hpl⟩,offO,cla⟩,⟨(0,zs),⟨qH _,by show st4 n p r k o d 0=_;rw[XQ];exact dx,dn⟩,rfl,rfl⟩,λ⟨j,us⟩ y ⟨j0,jx,jn⟩ hy=>?_,λ⟨j,us⟩ ⟨j0,jx,jn⟩ hj=>?_⟩⟩;have hy:(mD n p k o)[j.toNat]?=some y:=hy;obtain⟨jl,_⟩:=qG.1 hy;have hyd:(mD n p k o).getD j.toNat 0=y:=by rw[qA,hy];rfl
 have hin:Aa p y=true:=by
  have:=yA hy;unfold mD at this;exact(yI.1 this).2
 have hin2:1440*p.1<=y/\y<1440*p.2.1:=by
  unfold Aa at hin;rwa [qC,qE,qE]at hin
 have hf:O8 n p o d y us:=⟨⟨⟨hu,hpl⟩,offO,offD⟩,⟨Z,Z⟩,jn⟩;have jx:st4 n p r k o d j.toNat=some us:=jx;have ju:st4 n p r k o d (j.toNat+1)=if AP n p k o d y us=true then some (RN n p o d y us)else none:=by
  rw[XR,jx];show BQ n p k o d j.toNat us=_;unfold BQ;rw[hyd]
 refine⟨⟨⟨hf,cla⟩,λhno=>two ?_⟩,λhok=>⟨⟨⟨hf,cla⟩,hok⟩,⟨(j+1,RN n p o d y us),⟨by show 0<=j+1;have:0<=j:=j0;omega,by rw[show((j+1,RN n p o d y us).1).toNat=j.toNat+1 by show(j+1).toNat=_;have:0<=j:=j0;omega,ju,if_pos hok],(MI 19 hf).2⟩,by show(j+1).toNat=_;have:0<=j:=j0;omega,rfl⟩⟩⟩;rw[if_neg (by rw[hno];exact Bool.noConfusion)]at ju;rw[aBV ju Z hm1 d0 hd o0 ho k0 hk];exact(if_neg (λh=>by cases h)).symm;have hj:j.toNat=(mD n p k o).length:=hj;have jx:st4 n p r k o d j.toNat=some us:=jx;refine⟨aD Z,⟨(d+1,us),⟨⟨⟨k0,hk⟩,⟨o0,ho⟩,by show 0<=d+1;omega,by show d+1<=_;omega⟩,by rw[Nz d0 hm1,<- hj];exact jx,jn⟩,⟨rfl,rfl⟩,by show(_-(d+1)).toNat<_;omega⟩⟩;have d1:d<=(cellsD p k o).length:=d1;have hd:¬d<(cellsD p k o).length:=hd;have de:d=(cellsD p k o).length:=Z;have o0:0<=o:=o0;refine⟨aD Z,⟨(o+1,zs),⟨⟨⟨k0,hk⟩,by show 0<=o+1;omega,by show o+1<=_;omega⟩,by rw[NA o0,<- de];exact dx,dn⟩,⟨rfl,rfl⟩,by show(_-(o+1)).toNat<_;omega⟩⟩;have o1:o<=(fK p k).length:=o1;have ho:¬o<(fK p k).length:=ho;have oe:o=(fK p k).length:=Z;have k0:0<=k:=k0;refine⟨aD Z,⟨(k+1,ys),⟨⟨by show 0<=k+1;omega,by show k+1<=_;omega⟩,by rw[NB k0,<- oe];exact ox,on⟩,⟨rfl,rfl⟩,by show(_-(k+1)).toNat<_;omega⟩⟩;have k1:k<=p.2.2.2.length:=k1;have hk:¬k<p.2.2.2.length:=hk;have ke:k=p.2.2.2.length:=Z;have ka:J8 n p r=some xs:=by unfold J8;rw[<- ke];exact kx
 rw[ka];have xl:∀xs:Li,(some xs=some [])↔xs.length=0:=λxs=>by
  rw[wQ,List.length_eq_zero_iff]
 refine⟨λh=>two ?_,λh=>⟨h,(λh=>by cases h),?_⟩⟩;have h:(xs.length:Int)≠0:=h;rw[if_neg (by rw[xl];omega)];have h:(xs.length:Int)=0:=h;rw[if_pos (by rw[xl];omega)]
end Go.Eng.In
namespace Go.Eng.Sv
open Go.Proofs
def xCs:List (Int×List Bool×Li):=[(0,[true,true,true,true,true,true,true],[])]
def xNs:List ByteArray:=[⟨#[99]⟩]
def xOs:List ByteArray:=[⟨#[112]⟩]
def xFs:Lo:=[(⟨#[97]⟩,0,0,2,1,10,[]),(⟨#[98]⟩,0,0,2,1,10,[])]
def xLs:Ll:=[(⟨#[120]⟩,0,1,600,60,1),(⟨#[121]⟩,1,0,600,60,1)]
def xKs:Lk:=[(⟨#[107]⟩,300,720)]
def yFs:Lo:=[(⟨#[97]⟩,0,0,2,1,10,[]),(⟨#[98]⟩,0,0,2,1,10,[]),(⟨#[99]⟩,0,0,2,1,10,[])]
def yLs:Ll:=[(⟨#[120]⟩,0,1,600,60,1),(⟨#[121]⟩,1,0,600,60,1),(⟨#[122]⟩,0,2,600,60,1),(⟨#[119]⟩,2,0,600,60,1)]
def lE(a b:Li):Bool:=a==b
def pA(a b:Li)(k:Int):Prop:=0<=k/\k<=a.length/\a.length=b.length/\a.length<=1000000/\a.take k.toNat=b.take k.toNat
def je(a:Li):Prop:=a.length<=1000000
def uP(a b:List (Lj)):Bool:=a==b
def EX(a b:List (Lj))(k:Int):Prop:=0<=k/\k<=a.length/\a.length=b.length/\a.take k.toNat=b.take k.toNat
def LS(a:List (Lj)):Prop:=a.length<=1000000/\∀t∈a,mild t
def smF(n:Net)(nx:Lj):Bool:=(Vx n&&decide ((n.2.2.2.1.length:Int)<=6))&&(decide ((nx.length:Int)<=10)&&nx.all λr=>decide ((r.length:Int)<=10))
def aGI(nx:Lj)(k:Int):Prop:=0<=k/\k<=nx.length/\nx.length<=10/\∀i:Nat,(i:Int)<k->(nx.getD i []).length<=10
def w9(a b:Int):Bool:=decide (b<=IntKind.i64.wrap (a+9))||decide (b>IntKind.i64.wrap (a+60))
def aGJ(n:Net)(a b:Int):Bool:=(smF n []&&decide ((n.2.2.2.2.2.length:Int)<=3))&&w9 a b
def KL1:Kt:=KC8
def iA(a b:Li):Ann:=Z8 4 Int (pA a b) (λe k=>put e [(5,.dat I k)]) λk=>Dc (Di (Df a) k)
abbrev ON:=aj [.val M,.val M] (λ(a,_,_)=>mild a) λ(a,b,_)=>.dat .bool (pz a b)
abbrev OP:=aj [.val R,.val R] (λ(a,_,_)=>je a) λ(a,b,_)=>.dat .bool (lE a b)
def KL2:Kt:=kOr 15 ON <|
 kOr 13 OP KC8
def aEP(a b:List (Lj)):Ann:=Z8 4 Int (EX a b) (λe k=>put e [(5,.dat I k)]) λk=>Dc (Di (Df a) k)
abbrev OM:=aj [.val (.sl M),.val (.sl M)] (λ(a,_,_)=>LS a) λ(a,b,_)=>.dat .bool (uP a b)
def KL3:Kt:=kOr 16 OM KL2
def smA(nx:Lj):Ann:=Z8 4 Int (aGI nx) (λs k=>put s [(5,.dat I k)]) λk=>Dc (Di (Df nx) k)
abbrev CN:=aj [.row N,.val M] (λ_=>True) λ(n,nx,_)=>.dat .bool (smF n nx)
def KL4:Kt:=kOr 19 CN KL3
abbrev CM:=aj [.row N,.val I,.val I] (λ_=>True) λ(n,a,b,_)=>.dat .bool (aGJ n a b)
abbrev OQ:=aj [] (λ_=>True) λ_=>.agg [.dat (.sl C) xCs,.dat (.sl S) xNs,.dat (.sl S) xOs,.dat (.sl Of) xFs,.dat (.sl Ln) xLs,.dat (.sl Kl) xKs]
def KL5:Kt:=kOr 5 CM <|
 kOr 14 OQ <|
 kOr 7 uj <|
 kOr 9 y7 <|
 kOr 18 (aj [.row N,.row (.pair R I)] (λ(n,c,_)=>Go.Eng.In.L1 c.1/\Go.Eng.In.G9 n) λ(n,c,_)=>.dat I (Go.Eng.In.jv n c.1 c.2)) <|
 kOr 17 (aj [.val R] (λ(l,_)=>Go.Eng.In.YT l) λ(l,_)=>.dat I (Go.Eng.In.mP l)) KL4
def aKE:Ann:=⟨λ_ _=>none,λb s=>match b with
 |8=>some (aFA [1,2,3,4,5,6,9,10] (frz ((s.mem.filter λp=>match p.2 with
  |.buf ..=>true|_=>false).map (·.1)) s))
 |_=>none,λ_ _=>none⟩
abbrev y6:=aj [] (λ_=>True) λ_=>.dat .bool true
def KL6:Kt:=kOr 4 y6 KL5
def aJ5:ai yv G0 KL1:=WT
def aHT:eO 15 ON:=ae λ((a:Lj),(b:Lj),_)=>by
 refine zE (A:=(lvA [(4,[0,1,4,5,6]),(9,[0,1,4,5,6])] (aEQ a b))) (p:=let g:=Dw (Df a) (Df b);(mild a->(g->false=pz a b/\True)/\(g=false->(∃x,EZ a b x/\L5 a b (0=x/\True))/\∀(x:Int),let h:=Dn x (Df a);let i:=Du a (Dc x) [];let e:=Df i;let j:=Du b (Dc x) [];let u:=Df j;let v:=Dw e u;let T:=x+1;EZ a b x->(h->0<=x/\x<Df a/\0<=x/\x<Df b/\(v->false=pz a b/\True)/\(v=false->(∃f,E0 a b x f/\Q2 a b x (0=f/\True))/\∀(f:Int),let z:=Dw (Du i (Dc f) 0) (Du j (Dc f) 0);let r:=f+1;E0 a b x f->0<=x/\x<Df a/\(Dn f e->0<=x/\x<Df a/\0<=f/\f<e/\0<=x/\x<Df b/\0<=f/\f<u/\(z->false=pz a b/\True)/\(z=false->inR .i64 r/\∃y,E0 a b x y/\(Q2 a b x (r=y/\True))/\Dc (e-y)<Dc (e-f)))/\(Dn f e=false->inR .i64 T/\∃y,EZ a b y/\(L5 a b (T=y/\True))/\Dc (Df a-y)<Dc (Df a-x))))/\(h=false->true=pz a b/\True)))) aJ5 λ⟨V,u⟩=>?_;refine Z9 ?_;refine⟨λh=>EY λe=>h (by rw[e]),λh=>⟨⟨qH _,qI _,Z,V,rfl⟩,λx ⟨j,g1,g2,g3,g4⟩=>⟨λg=>⟨j,g,j,Z,λhd=>EY λe=>hd (by rw[e]),λhd=>?_⟩,λX=>?_⟩⟩⟩;have v:=u _ (getD_mem (l:=a) (i:=x.toNat) (d:=[]) Z);refine⟨⟨qH _,qI _,Z,v,rfl⟩,λz ⟨O,f1,f2,f3,G⟩=>⟨j,g,λL=>⟨j,g,O,L,j,Z,O,Z,λhd=>EY λe=>hd (by rw[e]),λhe=>⟨⟨Z,Z⟩,z+1,⟨Z,Z,f2,f3,?_⟩,rfl,Z⟩⟩,λL=>⟨⟨Z,Z⟩,x+1,⟨Z,Z,g2,g3,?_⟩,rfl,Z⟩⟩⟩;rw[show(z+1).toNat=z.toNat+1 by omega];exact iY G Z Z he;rw[show(x+1).toNat=x.toNat+1 by omega];refine iY (d:=[]) g4 Z Z ?_;rw[qO Z,qO Z]at G;exact G;rw[qO Z,qO Z]at g4;subst g4;unfold pz;simp
def u7{a b:Li}(h:a≠b):false=lE a b:=by unfold lE;exact(qAr.2 h).symm
def aHV:eO 13 OP:=ae λ((a:Li),(b:Li),_)=>by
 refine zE (A:=(lvA [(4,[0,1,4,5])] (iA a b))) (p:=let e:=Dw (Df a) (Df b);(je a->(e->false=lE a b/\True)/\(e=false->(∃x,pA a b x/\L5 a b (0=x/\True))/\∀(x:Int),let f:=Dn x (Df a);let g:=Dw (Du a (Dc x) 0) (Du b (Dc x) 0);let h:=x+1;pA a b x->(f->0<=x/\x<Df a/\0<=x/\x<Df b/\(g->false=lE a b/\True)/\(g=false->inR .i64 h/\∃y,pA a b y/\(L5 a b (h=y/\True))/\Dc (Df a-y)<Dc (Df a-x)))/\(f=false->true=lE a b/\True)))) aJ5 λi=>?_;refine Z9 ?_;refine⟨λh=>u7 λe=>h (by rw[e]),λh=>⟨⟨qH _,qI _,Z,i,rfl⟩,λx ⟨g,g1,g2,g3,g4⟩=>⟨λf=>⟨g,f,g,Z,λhd=>u7 λe=>hd (by rw[e]),λhd=>⟨⟨Z,Z⟩,x+1,⟨Z,Z,g2,g3,?_⟩,rfl,Z⟩⟩,λj=>?_⟩⟩⟩;rw[show(x+1).toNat=x.toNat+1 by omega];exact iY g4 Z Z hd;rw[qO Z,qO Z]at g4;subst g4;unfold lE;simp
def aJ4:ai yv G0 KL2:=af aHT<|af aHV WT
def NG{a b:List (Lj)}(h:a≠b):false=uP a b:=by unfold uP;exact(qAr.2 h).symm
def HS{a b:Lj}:pz a b=true↔a=b:=kN
def aHS:eO 16 OM:=ae λ((a:List (Lj)),(b:List (Lj)),_)=>by
 refine zE (A:=(lvA [(4,[0,1,4,5])] (aEP a b))) (p:=let e:=Df a;let f:=Df b;let g:=Dw e f;(LS a->(g->false=uP a b/\True)/\(g=false->(∃x,EX a b x/\L5 a b (0=x/\True))/\∀(x:Int),let h:=Du a (Dc x) (Dt (Li));let i:=Dj (pz h (Du b (Dc x) (Dt (Li))));let j:=x+1;EX a b x->(Dn x e->0<=x/\x<e/\0<=x/\x<f/\mild h/\(i->false=uP a b/\True)/\(i=false->inR .i64 j/\∃y,EX a b y/\(L5 a b (j=y/\True))/\Dc (e-y)<Dc (e-x)))/\(Dn x e=false->true=uP a b/\True)))) aJ4 λr=>?_;refine Z9 ?_;obtain⟨j,f⟩:=r;refine⟨λh=>NG λe=>h (by rw[e]),λh=>⟨⟨qH _,qI _,Z,rfl⟩,λx ⟨i,g1,g2,g3⟩=>⟨λg=>⟨i,g,i,Z,f _ (getD_mem Z),λhd=>NG λe=>?_,λhd=>⟨au Z,x+1,⟨Z,Z,g2,?_⟩,rfl,Z⟩⟩,λu=>?_⟩⟩⟩;rw[e,HS.2 rfl]at hd;cases hd;rw[show(x+1).toNat=x.toNat+1 by omega];exact iY g3 Z Z (HS.1 hd);rw[qO Z,qO Z]at g3;subst g3;unfold uP;simp
def aJ3:ai yv G0 KL3:=af aHS aJ4
def aBn:eO 19 CN:=ae λ(((L,u,j,f,v,z):Net),(nx:Lj),_)=>by
 refine zE (A:=(lvA [(4,[1,4,5])] (smA nx))) (p:=let i:=(L,u,j,f,v,z);let r:=Dj (Vx i);let b:=Dj r;let A:=Dz r true (Eh (Df f) 6);let e:=Dj A;let G:=Dz A true (Eh (Df nx) 10);let h:=smF i nx;(True->True/\Q4 b ((Dh true b->b)/\L7 e ((Dh true e->e)/\(G->false=h/\True)/\(G=false->(∃x,aGI nx x/\nx=nx/\0=x/\True)/\∀(x:Int),let T:=Dn x (Df nx);let O:=Eh (Df (Du nx (Dc x) [])) 10;let g:=x+1;aGI nx x->(T->0<=x/\x<Df nx/\(O->false=h/\True)/\(O=false->inR .i64 g/\∃y,aGI nx y/\(nx=nx/\g=y/\True)/\Dc (Df nx-y)<Dc (Df nx-x)))/\(T=false->true=h/\True)))))) aJ3 λ_=>?_;refine Z9 ?_;have e:smF (L,u,j,f,v,z) nx=((Vx (L,u,j,f,v,z)&&decide ((f.length:Int)<=6))&&(decide ((nx.length:Int)<=10)&&nx.all λr=>decide ((r.length:Int)<=10))):=rfl;refine⟨λh=>?_,λ⟨⟨h1,h2⟩,h3⟩=>⟨⟨qH _,qI _,Z,λi h=>Z⟩,λx b=>⟨λG=>⟨b.1,G,λhb=>?_,λhb=>⟨au (by have:=b.1;omega),x+1,⟨by have:=b.1;omega,Z,b.2.2.1,λi O=>?_⟩,rfl,by have:=b.1;omega⟩⟩,λX=>?_⟩⟩⟩;rw[e];rcases h with(h|h)|h;rw[h];rfl;rw[vF Z,zJ];rfl;rw[vF (p:=(nx.length:Int)<=10) Z,gG,zJ];rw[e];have:(nx.all λr=>decide ((r.length:Int)<=10))=false:=by
  refine qAj.2 ⟨nx.getD x.toNat [],?_,by simp only[qE];omega⟩;rw[qA,qB (by have:=b.1;omega),qK];exact wL _
 rw[this,zJ,zJ];by_cases h:(i:Int)<x;exact b.2.2.2 i h;have:i=x.toNat:=by have:=b.1;omega
 rw[this];omega;rw[e,h1,qU Z,qU (p:=(nx.length:Int)<=10) Z];refine(qQ.2 λr V=>?_).symm;obtain⟨i,O,rfl⟩:=wX.1 V;have:=b.2.2.2 i Z;rw[qA,qB O,qK]at this;simp only[qE];omega
def aI9:ai yv G0 KL4:=af aBn aJ3
def aBm:eO 5 CM:=ae λ(((j,g,f,i,h,e):Net),(a:Int),(b:Int),_)=>by
 refine zF (c:={mkc KL4 with mb:=λt=>t==18||t==23}) (A:=az) aI9 gC hm (p:=let x:=(j,g,f,i,h,e);let u:=smF x (Dt (Li));let r:=Dz u (Ef (Df e) 3) false;let y:=Ef b (Ep IntKind.i64 (a+9));let v:=Dj y;true/\(True->True/\Q4 u ((Dh true u->u)/\L4 r (Q4 r (Q4 (Dh r v) (L4 r ((r->Dh r v->Dh r v)/\(Dh true r->r)/\Dz r (Dz y true (Eh b (Ep IntKind.i64 (a+60)))) false=aGJ x a b/\True))))))) ⟨rfl,λ_=>?_⟩;refine Z9 ?_;rfl
def aHX:eO 14 OQ:=ae λ_=>by
 refine zE (A:=az) (p:=let b:=((0:Int),(0:Int),(2:Int),(1:Int),(10:Int),Dt ByteArray);let e:=((600:Int),(60:Int),(1:Int));(True->L3 1 0 1 0 1 0 1 1 0 (L3 1 1 0 1 1 0 1 0 1 (Q2 0 1 0 ([((0:Int),[true,true,true,true,true,true,true],Dt Int)]=xCs/\[ByteArray.mk #[(99:UInt8)]]=xNs/\[ByteArray.mk #[(112:UInt8)]]=xOs/\[(ByteArray.mk #[(97:UInt8)],b),(ByteArray.mk #[(98:UInt8)],b)]=xFs/\[(ByteArray.mk #[(120:UInt8)],(0:Int),(1:Int),e),(ByteArray.mk #[(121:UInt8)],(1:Int),(0:Int),e)]=xLs/\[(ByteArray.mk #[(107:UInt8)],(300:Int),(720:Int))]=xKs/\True))))) aI9 λ_=>?_;refine Z9 ?_;exact⟨rfl,rfl,rfl,rfl,rfl,rfl⟩
def aJ2:ai yv G0 KL5:=af aBm<|af aHX<|af (Ta BX)<|af (XG BX)<|af (ae λ((i,e,b,h,f,g),c,_)=>Zd (Go.Eng.In.aBR c.2 c.1 i e b h f g))<|af (ae λ(l,_)=>Zd (Go.Eng.In.KR l)) aI9
abbrev xN:Net:=(xCs,xNs,xOs,xFs,xLs,xKs)
abbrev xP:Plan:=(0,1,[[-1,0],[1,-1]],[[[0,0],[0,0]]])
abbrev xL:Li:=[0,1,2,1,0,1,2,0,1,1,1,1,2,2]
def XF:eO 4 y6:=ae λ_=>by
 refine zF (c:={mkc KL5 with mb:=λt=>t==46}) (A:=aKE) aJ2 gC hm (p:=let h:=(xCs,xNs,xOs,xFs,xLs,xKs);let c2:=uF h 0 1;let c3:=c2.1;let c4:=c2.2;let c5:=c4.1;let c6:=c4.2;let A:=c6.1;let c8:=c6.2;let c9:=(c3,c5,A,c8);let c10:=Df xFs;let O:=0+Dk xLs;let c12:=Ee (Dt (ByteArray×Int×Int×Int×Int×Int)) xLs;let c13:=((600:Int),(60:Int),(1:Int));let c14:=[(ByteArray.mk #[(122:UInt8)],(0:Int),(2:Int),c13),(ByteArray.mk #[(119:UInt8)],(2:Int),(0:Int),c13)];let V:=O+Dk c14;let L:=Ee c12 c14;let c17:=rP h 0 1;let G:=gsF h c9 0;let z:=ofF h c9 0;let X:=rP h 0 61;let T:=Hf h 0 1;let j:=T.1;let y:=T.2;let c24:=uF h 0 61;let c25:=c24.1;let c26:=c24.2;let c27:=c26.1;let c28:=c26.2;let c29:=c28.1;let c30:=c28.2;let c31:=Hf h 0 61;let c32:=c31.1;let c33:=c31.2;let c34:=(ByteArray.mk #[],(0:Int),(0:Int),(0:Int),(0:Int),(0:Int),Dt ByteArray);let c35:=Du xFs (Dc 0) c34;let c36:=c35.2;let c37:=c36.2;let c38:=c37.2;let c39:=c38.2;let c40:=c39.2;let c41:=Du xFs (Dc 1) c34;let c42:=c41.2;let c43:=c42.2;let c44:=c43.2;let c45:=c44.2;let c46:=c45.2;let c47:=[(c35.1,c36.1,c37.1,c38.1,c39.1,c40.1,c40.2),(c41.1,c42.1,c43.1,c44.1,c45.1,c46.1,c46.2),(ByteArray.mk #[(99:UInt8)],(0:Int),(0:Int),(2:Int),(1:Int),(10:Int),Dt ByteArray)];let f:=Eb c17 0;let c49:=[(0:Int)];let c50:=(-1:Int)::c49;let e:=Dz f (pz A [c50,[(1:Int),(-1:Int)]]) false;let c52:=(0:Int)::c49;let i:=Dz e (uP c8 [[c52,c52]]) false;
  let b:=Dz i (lE j [(0:Int),(1:Int),(2:Int),(1:Int),(0:Int),(1:Int),(2:Int),(0:Int),(1:Int),(1:Int),(1:Int),(1:Int),(2:Int),(2:Int)]) false;let u:=Dz b (Eb y (In.mP j)) false;let r:=Dz u (lE G c50) false;let x:=Dz r (lE z [(0:Int),(1:Int)]) false;let v:=Dz x (Eb X 1) false;let g:=Dz v (Eb (rP (xCs,xNs,xOs,c47,L,xKs) 0 1) 140) false;
  true/\(True->True/\Q3 1 0 1 0 (True/\T5 1 0 1 0 1 0 1 0 (jh c9/\L5 1 0 (True/\L3 1 0 1 0 1 0 1 0 1 (L5 1 0 (Dl 0 0/\0<c10/\Q2 1 1 0 (Dl 0 1/\1<c10/\T6 1 1 0 1 1 0 (Dk (Dt (ByteArray×Int×Int×Int×Int×Int))=0/\(O*56)<=140737488355328/\O<=9223372036854775807/\Dk c12=O/\(V*56)<=140737488355328/\V<=9223372036854775807/\Q2 1 1 0 (Dk L=V/\L3 1 0 0 1 0 0 1 0 0 (L3 c17 G z X 1 0 0 xCs xNs (L3 xOs xFs xLs xKs c3 c5 A c8 j (L3 y c25 c27 c29 c30 c32 c33 xCs xNs (L5 xOs c47 (Dk L=V/\Q3 L xKs 1 0 (True/\Q3 1 0 1 0 ((f->1=1)/\(f->f->f)/\(f->1=1)/\(f->0=0)/\(f->f->f)/\(f->f->f)/\(f->f->f)/\(f->f->f)/\(f->mild A)/\(Dh true f->f)/\(e->1=1)/\(e->e->e)/\(e->1=1)/\(e->0=0)/\(e->e->e)/\(e->e->e)/\(e->e->e)/\(e->e->e)/\(e->e->e)/\(e->LS c8)/\(Dh true e->e)/\(i->1=1)/\(i->i->i)/\(i->1=1)/\(i->0=0)/\(i->i->i)/\(i->i->i)/\(i->je j)/\(Dh true i->i)/\(b->1=1)/\(b->b->b)/\(b->1=1)/\(b->0=0)/\(b->1=1)/\(b->b->b)/\(b->1=1)/\(b->0=0)/\(b->b->b)/\(b->In.YT j)/\(b->b->b)/\(b->b->b)/\(Dh true b->b)/\(u->u->u)/\(u->u->u)/\(u->je G)/\(Dh true u->u)/\(r->r->r)/\(r->r->r)/\(r->je z)/\(Dh true r->r)/\(x->x->x)/\(Dh true x->x)/\(v->v->v)/\(Dh true v->v)/\(g->1=1)/\(g->0=0)/\(g->1=1)/\(g->0=0)/\(g->g->g)/\(g->g->g)/\(g->In.L1 j/\In.G9 h)/\(g->g->g)/\(Dh true g->g)/\Dz g (Eb (In.jv h j y) 0) false/\True))))))))))))))))) ?_
 intro c1 c2 c3 c4 c5 c6 c7 c8 c9 c10 O c12 c13 c14 c15 L c17 G z X T j y c24 c25 c26 c27 c28 c29 c30 c31 c32 c33 c34 c35 c36 c37 c38 c39 c40 c41 c42 c43 c44 c45 c46 c47 f c49 c50 e c52 i b u r x v g;have q2:c2=xP:=by decide +kernel
 have q7:c7=[[-1,0],[1,-1]]:=by show c2.2.2.1=_;rw[q2]
 have q8:c8=[[[0,0],[0,0]]]:=by show c2.2.2.2=_;rw[q2]
 have q9:c9=xP:=by show(c2.1,c2.2.1,c2.2.2.1,c2.2.2.2)=_;rw[q2]
 have q17:c17=0:=by decide +kernel
 have q18:G=[-1,0]:=by show gsF xN c9 0=_;rw[q9];decide +kernel
 have q19:z=[0,1]:=by show ofF xN c9 0=_;rw[q9];decide +kernel
 have q20:X=1:=by decide +kernel
 have q21:T=(xL,Go.Eng.In.mP xL):=by decide +kernel
 have V:j=xL:=by show T.1=_;rw[q21]
 have q23:y=Go.Eng.In.mP xL:=by show T.2=_;rw[q21]
 have h5:rP (xCs,xNs,xOs,c47,L,xKs) 0 1=140:=by
  show rP (xCs,xNs,xOs,yFs,yLs,xKs) 0 1=140;decide +kernel
 have h8:Go.Eng.In.jv xN xL (Go.Eng.In.mP xL)=0:=by decide +kernel
 have e48:f=true:=by show Eb c17 0=true;rw[q17];rfl
 have e51:e=true:=by show Dz f (pz c7 [[-1,0],[1,-1]]) false=true;rw[e48,q7];rfl
 have e53:i=true:=by show Dz e (uP c8 [[[0,0],[0,0]]]) false=true;rw[e51,q8];rfl
 have e54:b=true:=by show Dz i (lE j xL) false=true;rw[e53,V];rfl
 have e55:u=true:=by show Dz b (Eb y (In.mP j)) false=true;rw[e54,V,q23];show decide (In.mP xL=In.mP xL)=true;exact qU rfl
 have e56:r=true:=by show Dz u (lE G [-1,0]) false=true;rw[e55,q18];rfl
 have e57:x=true:=by show Dz r (lE z [0,1]) false=true;rw[e56,q19];rfl
 have e58:v=true:=by show Dz x (Eb X 1) false=true;rw[e57,q20];rfl
 have e59:g=true:=by show Dz v (Eb (rP (xCs,xNs,xOs,c47,L,xKs) 0 1) 140) false=true;rw[e58,h5];rfl
 have e60:Dz g (Eb (In.jv c1 j y) (0:Int)) false=true:=by
  show Dz g (Eb (In.jv xN j y) (0:Int)) false=true;rw[e59,V,q23,h8];rfl
 have m7:mild c7:=by rw[q7];unfold mild;decide
 have m8:LS c8:=by rw[q8];unfold LS mild;decide
 have m9:jh c9:=by rw[q9];unfold jh du;decide
 have m22:je j:=by rw[V];unfold je;decide
 have s22:In.YT j:=by rw[V];unfold In.YT;decide
 have l22:In.L1 j/\In.G9 c1:=⟨by rw[V];unfold In.L1;decide,by show In.G9 xN;unfold In.G9;decide⟩;have m18:je G:=by rw[q18];unfold je;decide
 have m19:je z:=by rw[q19];unfold je;decide
 have k10:Dp (0:Int) c10/\Dp (1:Int) c10:=by constructor<;>decide
 have k11:Dy (Ej O (56)) (140737488355328)/\Dy O (9223372036854775807):=by constructor<;>decide
 have k15:Dy (Ej c15 (56)) (140737488355328)/\Dy c15 (9223372036854775807):=by constructor<;>decide
 have k16:Dk c12=O/\Dk L=c15:=⟨rfl,rfl⟩;clear_value g v x r u b i e f c31 c24 y j T X z G c17 c9 c8 c7 c2;subst e48 e51 e53 e54 e55 e56 e57 e58 e59;refine⟨rfl,λ_=>?_⟩;generalize jh c9=F9 at m9 ⊢
 and_intros
 all_goals first
  |with_reducible exact trivial
  |with_reducible rfl
  |with_reducible exact e60
  |with_reducible exact m9
  |with_reducible exact λ_=>m7|with_reducible exact λ_=>m8|with_reducible exact λ_=>m22|with_reducible exact λ_=>s22|with_reducible exact λ_=>l22|with_reducible exact λ_=>m18|with_reducible exact λ_=>m19
  |with_reducible exact k10.1
  |with_reducible exact k10.2
  |with_reducible exact k11.1
  |with_reducible exact k11.2
  |with_reducible exact k15.1
  |with_reducible exact k15.2
  |with_reducible exact k16.1
  |with_reducible exact k16.2
  |with_reducible exact λ_=>rfl|with_reducible exact λh _=>h|with_reducible exact λh=>h
  |decide
  |rfl
def aKU:ai yv G0 KL6:=af XF aJ2
def aFK(a b:Int):Int:=a/b
def Jy(a b:Int):Prop:=uR a/\QC b
def aDU(h:Li)(d:Int):Bool:=h.contains d
def Za(h:Li)(d k:Int):Prop:=0<=k/\k<=h.length/\h.length<=1000000/\(h.take k.toNat).contains d=false
def EG(z:Int)(w:List Bool)(h:Li)(d:Int):Prop:=aA z w h=true/\bG d=true
def gk(n:Net)(line t:Int):Bool:=aS n&&cY line n.2.2.2.2.1.length&&bS t
def onP(n:Net)(line d:Int):Prop:=L0 n line/\bG d=true
def onB(n:Net)(line d:Int):Bool:=aX (dQ n line).2.1 (dQ n line).2.2 d
def NQ(n:Net)(line t d:Int):Prop:=nE n line t/\gk n line t=true/\bE (dQ n line).1 t<=d/\d<=bE (dQ n line).1 t+62/\∀e,bE (dQ n line).1 t<=e->e<d->onB n line e=true->aV n line e<t\/t+86400<=aV n line e
def iD(n:Net)(line a b d:Int):Li:=((cD (dQ n line).2.1 (dQ n line).2.2 (bE (dQ n line).1 a) (d-bE (dQ n line).1 a)).map (aV n line)).filter λt=>decide (a<=t)&&decide (t<b)
def sn(n:Net)(line a b d:Int):Prop:=nE n line a/\nE n line b/\gk n line a=true/\gk n line b=true/\b<=a+86400/\bE (dQ n line).1 a<=d/\(d<=bE (dQ n line).1 b+1\/d=bE (dQ n line).1 a)
def atF(l:Li)(a i:Int):Int:=if i=0 then a else l.getD (i-1).toNat 0+1
def rstart(n:Net)(line a b i:Int):Int:=([a-1]++da n line a b).getD i.toNat 0+1
def wm(n:Net)(line a b m i:Int):Prop:=ki n line a b=true/\0<=i/\i<=(da n line a b).length+1/\0<=m/\m<=86400/\
 (i<=(da n line a b).length->waitGo n line b (b-rstart n line a b i).toNat (rstart n line a b i) m=uM n line a b)/\(i=(da n line a b).length+1->uM n line a b=some m)
def KY0:Kt:=KL6
def aKF(h:Li)(d:Int):Ann:=Z8 2 Int (Za h d) (λs k=>put s [(5,.dat I k)]) λk=>Dc (Di (Df h) k)
abbrev yn:=aj [.val I,.val I] (λ(a,b,_)=>Jy a b) λ(a,b,_)=>.tup [.dat I (aFK a b),.dat I (Ky a b)]
abbrev yk:=aj [.val I] (λ_=>True) λ(a,_)=>.dat .bool (bG a)
abbrev rp:=aj [.row C,.val I] (λ(c,_,_)=>je c.2.2) λ(c,d,_)=>.dat .bool (aDU c.2.2 d)
def KY1:Kt:=kOr 165 yn <|
 kOr 159 yk <|
 kOr 220 rp KY0
abbrev rn:=aj [.row C,.val I] (λ(c,d,_)=>EG c.1 c.2.1 c.2.2 d) λ(c,d,_)=>.dat .bool (aX c.2.1 c.2.2 d)
def KY2:Kt:=kOr 160 rn KY1
abbrev B8:=aj [.row C,.val I] (λ(c,d,_)=>EG c.1 c.2.1 c.2.2 d) λ(c,d,_)=>.dat .bool (aX c.2.1 c.2.2 d)
abbrev ym:=aj [.row C,.val I] (λ(c,t,_)=>dK c.1 c.2.1 c.2.2 t) λ(c,t,_)=>.tup [.dat I (bE c.1 t),.dat I (ID c.1 t)]
abbrev Cb:=aj [.row C,.val I,.val I] (λ(c,d,m,_)=>jk c.1 c.2.1 c.2.2 d m) λ(c,d,m,_)=>.dat I (dE c.1 d m)
abbrev Cf:=aj [.row N,.val I,.val I] (λ(n,_,_,_)=>cZ n=true) λ(n,l,t,_)=>.dat .bool (gk n l t)
def KY3:Kt:=kOr 116 B8 <|
 kOr 119 ym <|
 kOr 115 Cb <|
 kOr 217 Cf KY2
abbrev U0:=aj [.row N,.val I,.val I] (λ(n,l,d,_)=>onP n l d) λ(n,l,d,_)=>.tup [.dat I (aV n l d),.dat .bool (onB n l d)]
def KY4:Kt:=kOr 268 U0 KY3
def aIi(n:Net)(line t:Int):Ann:=Z8 6 Int (NQ n line t) (λs d=>put s [(11,.dat I d)]) λd=>Dc (Di (Dq (bE (dQ n line).1 t) 62) d)
def aFd(n:Net)(line a b:Int):Ann:=⟨λf s=>match f with
 |8=>match s.sig.T 18 with
  |.buf e _=>some {α:=Int,inv:=λd=>sn n line a b d,st:=λd=>dD (put (flat s) [(15,.dat I d),(9,.buf e (Dk (iD n line a b d)))]) e (.buf 3 I (iD n line a b d) []),μ:=λd=>Dc (Di (Dq (bE (dQ n line).1 b) 1) d)}|_=>none
 |_=>none,λ_ _=>none,λ_ _=>none⟩
abbrev tW:=aj [.row N,.val I,.val I] (λ(n,_,_,_)=>cZ n=true) λ(n,l,t,_)=>.tup [.dat I (dP n l t),.dat I (gi n l t)]
abbrev Cm:=aj [.row N,.val I,.val I,.val I] (λ(n,_,_,_,_)=>cZ n=true) λ(n,l,a,b,_)=>.dat R (da n l a b)
def KY5:Kt:=kOr 219 tW <|
 kOr 218 Cm KY4
def aE3(n:Net)(line a b:Int):Ann:=⟨λe s=>match e with
 |6=>some {α:=Int×Int,inv:=λx=>wm n line a b x.1 x.2,st:=λx=>put s [(11,.dat I x.1),(12,.dat I x.2)],μ:=λx=>Dc (Di (Dq (Df (da n line a b)) 1) x.2)}|_=>none,λe s=>match e with
 |4=>some (put (frz (allNames s) s) [(40,.top)])|_=>none,λ_ _=>none⟩
abbrev B9:=aj [.row N,.val I,.val I,.val I] (λ(n,_,_,_,_)=>cZ n=true) λ(n,l,a,b,_)=>.tup [.dat I (mO n l a b),.dat I (oK n l a b)]
def KY6:Kt:=kOr 154 B9 KY5
def aG5:ai yv G0 KY0:=aKU
def MP{n:Net}{l t:Int}(b:bO n l [t]=true)(h:gi n l t=0):bH n l t=some (dP n l t):=by
 unfold gi at h;unfold dP lS;rw[if_pos b]at h ⊢;unfold k7 at h;cases e:bH n l t with
 |none=>rw[e]at h;cases h
 |some u=>rfl
def MQ{n:Net}{l t:Int}(b:bO n l [t]=true)(h:gi n l t≠0):bH n l t=none/\gi n l t=20:=by
 unfold gi at h ⊢;rw[if_pos b]at h ⊢;unfold k7 at h ⊢;cases e:bH n l t with
 |none=>exact⟨rfl,rfl⟩|some u=>rw[e]at h;exact(h rfl).elim
def VG{n:Net}{l t u:Int}(b:bO n l [t]=true)(h:bH n l t=some u):dP n l t=u/\gi n l t=0:=by
 unfold dP gi lS k7;rw[if_pos b,if_pos b,h];exact⟨rfl,rfl⟩
def dlt{a b:Int}(h:a<b):Dn a b=true:=qU h
def Am(e:LC)(g f:LB)(b:Lo)(h:Ll)(i:Lk)(line:Int):e.getD (b.getD (al (e,g,f,b,h,i) line).2.1.toNat (⟨#[]⟩,0,0,0,0,0,[])).2.2.1.toNat (0,[],[])=dQ (e,g,f,b,h,i) line:=rfl
def sR(y:LC)(g f:LB)(x:Lo)(r:Ll)(u:Lk){line a b i:Int}(ha:atOk (y,g,f,x,r,u) line)(X:JF (y,g,f,x,r,u) line a b)(hab:a<=b)(i0:0<=i)(i1:i<(da (y,g,f,x,r,u) line a b).length):
  bH (y,g,f,x,r,u) line (atF (da (y,g,f,x,r,u) line a b) a i)=some ((da (y,g,f,x,r,u) line a b).getD i.toNat 0)/\a<=atF (da (y,g,f,x,r,u) line a b) a i/\atF (da (y,g,f,x,r,u) line a b) a i<=b/\(da (y,g,f,x,r,u) line a b).getD i.toNat 0<b:=by
 have hs:=zz (y,g,f,x,r,u) line a b;have hm:=λv=>Oa (v:=v) ha X;have hb:=X.2;generalize hl:da (y,g,f,x,r,u) line a b=l at *;have L:l.getD i.toNat 0=l[i.toNat]'Z:=by rw[qA,qB Z,qK]
 obtain⟨g1,g2,g3⟩:=(hm _).1 (L▸wL Z);have z:a<=atF l a i/\atF l a i<=l.getD i.toNat 0/\∀v∈l,atF l a i<=v->l.getD i.toNat 0<=v:=by
  have e:∀j k:Nat,(A:j<k)->(T:k<l.length)->l[j]'Z<l[k]'T:=λj k A T=>List.pairwise_iff_getElem.1 hs j k Z T A;unfold atF;split;rename_i h0;subst h0;refine⟨qH _,g1,λv G _=>?_⟩;obtain⟨j,A,rfl⟩:=List.getElem_of_mem G;rw[L];rcases Nat.eq_zero_or_pos j with h|h;subst h;exact qH _;have:=e 0 j h A;exact Int.le_of_lt this;rename_i h0;have V:l.getD (i-1).toNat 0=l[(i-1).toNat]'Z:=by rw[qA,qB Z,qK]
  obtain⟨k1,k2,k3⟩:=(hm _).1 (V▸wL Z);have O:=e (i-1).toNat i.toNat Z Z;rw[<- V,<- L]at O;refine⟨Z,Z,λv G hle=>?_⟩;obtain⟨j,A,rfl⟩:=List.getElem_of_mem G;rw[L];rcases qDb j i.toNat with h|h|h;exfalso;rcases zT j (i-1).toNat with q|q;have:=e j (i-1).toNat q Z;omega;have:j=(i-1).toNat:=by omega
  subst this;omega;subst h;exact qH _;exact Int.le_of_lt (e i.toNat j h A)
 refine⟨vn ha z.2.1 Z g3 λv v1 v2 G=>?_,z.1,Z,g2⟩;have:=z.2.2 v ((hm v).2 ⟨Z,Z,G⟩) v1;omega
def VE(x:LC)(f e:LB)(r:Lo)(g:Ll)(i:Lk){line a b u:Int}(V:atOk (x,f,e,r,g,i) line)(ho:JF (x,f,e,r,g,i) line a b)(T:a<=b)(h:bH (x,f,e,r,g,i) line (atF (da (x,f,e,r,g,i) line a b) a (da (x,f,e,r,g,i) line a b).length)=some u):b<=u/\a<=atF (da (x,f,e,r,g,i) line a b) a (da (x,f,e,r,g,i) line a b).length/\atF (da (x,f,e,r,g,i) line a b) a (da (x,f,e,r,g,i) line a b).length<=b:=by
 have hs:=zz (x,f,e,r,g,i) line a b;have hm:=λv=>Oa (v:=v) V ho;obtain⟨u1,u2,X,u4⟩:=first_some V h;generalize hl:da (x,f,e,r,g,i) line a b=l at *;have y:a<=atF l a l.length/\atF l a l.length<=b/\∀v∈l,v<atF l a l.length:=by
  have z:∀j k:Nat,(O:j<k)->(L:k<l.length)->l[j]'Z<l[k]'L:=λj k O L=>List.pairwise_iff_getElem.1 hs j k Z L O;unfold atF;split;rename_i h0;have:l=[]:=vY Z;subst this;exact⟨qH _,T,λv A=>by cases A⟩;rename_i h0;have hp:l.getD ((l.length:Int)-1).toNat 0=l[((l.length:Int)-1).toNat]'Z:=by rw[qA,qB Z,qK]
  obtain⟨k1,k2,k3⟩:=(hm _).1 (hp▸wL Z);refine⟨Z,Z,λv A=>?_⟩;obtain⟨j,O,rfl⟩:=List.getElem_of_mem A;rcases zT j ((l.length:Int)-1).toNat with q|q;have:=z j _ q Z;omega;have:j=((l.length:Int)-1).toNat:=by omega
  subst this;omega
 refine⟨Int.not_lt.1 λG=>?_,y.1,y.2.1⟩;have:=y.2.2 u ((hm u).2 ⟨Z,G,X⟩);omega
def jQ{x:Int}(h:-4000000000000<=x/\x<=4000000000000):inR .i64 x:=by unfold inR;simp only;omega
def Xu:eO 165 yn:=ae λ((a:Int),(b:Int),_)=>by
 refine zE (A:=az) (p:=let e:=Dn (Fp a b) 0;let f:=Gf a b-1;let g:=Fp a b+b;(Jy a b->b≠0/\inR .i64 (Gf a b)/\b≠0/\(e->inR .i64 f/\inR .i64 g/\f=aFK a b/\g=Ky a b/\True)/\(e=false->Gf a b=aFK a b/\Fp a b=Ky a b/\True))) aG5 λ⟨⟨z,y⟩,j,x⟩=>?_;refine Z9 ?_;simp only[qc,Gf,Fp,aFK,Ky];have e:=gZ (a:=a) (b:=b);have T:=kH a (show b≠0 by omega);have O:=xB a j;have u:(b.natAbs:Int)=b:=Int.natAbs_of_nonneg Z;have L:=Int.mul_ediv_add_emod a b;have G:=Int.mul_tdiv_add_tmod a b;have g:(a.tdiv b).natAbs<=a.natAbs:=Int.natAbs_tdiv_le_natAbs a b;by_cases f:0<=a\/b ∣ a;rw[if_pos f]at e;have i:a.tdiv b=a/b:=by
  have:b*a.tdiv b=b*(a/b):=Z;exact qDh Z this
 refine⟨Z,jQ Z,Z,λh=>Z,λ_=>⟨i,Z⟩⟩;rw[if_neg f,u]at e;have v:a%b≠0:=λr=>f (.inr (qDs r));have i:a.tdiv b=a/b+1:=by
  have:b*a.tdiv b=b*(a/b+1):=by rw[Int.mul_add];omega
  exact qDh Z this
 refine⟨Z,jQ Z,Z,λh=>⟨jQ Z,aE Z,Z,Z⟩,λh=>Z⟩
def Xr:eO 159 yk:=ae λ((a:Int),_)=>by
 refine zE (A:=az) (p:=let b:=Ed a (-1000000);(True->L4 b ((Dh true b->b)/\Dz b (Ef a 1000000) false=bG a/\True))) aG5 λ_=>⟨λh _=>h,λh=>by simpa[Dh]using h,?_,trivial⟩;rw[jS];simp[bG,Ed,Ef]
def Qd:eO 220 rp:=ae λ(((z:Int),(w:List Bool),(h:Li)),(d:Int),_)=>by
 refine zE (A:=(lvA [(2,[1,2,4,5])] (aKF h d))) (p:=let b:=(z,w,h);(je h->(∃x,Za h d x/\L5 d b (0=x/\True))/\∀(x:Int),let e:=Dn x (Df h);let f:=Eb (Du h (Dc x) 0) d;let g:=x+1;Za h d x->(e->0<=x/\x<Df h/\(f->true=aDU h d/\True)/\(f=false->inR IntKind.i64 g/\∃y,Za h d y/\(L5 d b (g=y/\True))/\Dc (Df h-y)<Dc (Df h-x)))/\(e=false->false=aDU h d/\True))) aG5 λf=>?_;have f:h.length<=1000000:=f;refine Z9 ?_;refine⟨⟨qH _,qI _,f,rfl⟩,λx ⟨u,L,G,e⟩=>⟨λi=>?_,λv=>?_⟩⟩;have b:x.toNat<h.length:=by omega
 have r:h.getD x.toNat 0=h[x.toNat]:=by rw[qA,qB b,qK]
 refine⟨u,i,λj=>?_,λj=>⟨aE Z,x+1,⟨Z,Z,f,?_⟩,rfl,Z⟩⟩;unfold aDU;symm;rw[qBj,<- j,r];exact wL _;rw[show(x+1).toNat=x.toNat+1 by omega,wW,qB b,<- xJ,qBj,qJ];rw[<- xJ,qBj]at e;rintro(g|g);exact e g;rw[qBa,vI]at g;exact j (r.trans g.symm);unfold aDU;rw[qO Z]at e;exact e.symm
def aJO:ai yv G0 KY1:=af Xu<|af Xr<|af Qd aG5
def aFW{d:Int}(h:bG d=true):Jy d 7:=by
 have:=dY.1 h;exact⟨⟨Z,Z⟩,by decide,by decide⟩
def Qc:eO 160 rn:=ae λ(((z:Int),(w:List Bool),(h:Li)),(d:Int),_)=>by
 refine zE (A:=az) (p:=let e:=Ky d 7;let b:=Du w (Dc e) false;(EG z w h d->Jy d 7/\0<=e/\e<Df w/\L7 b ((b->je h)/\L4 b ((Dh true b->b)/\Dz b (Dj (aDU h d)) false=aX w h d/\True)))) aJO λ⟨b,hd⟩=>?_;refine Z9 ?_;obtain⟨_,_,g,f⟩:=(bD.1 b).1;have e:0<=Ky d 7:=kH d Z;have i:Ky d 7<7:=xB d Z;refine⟨aFW hd,e,Z,λ_=>(show h.length<=1000000 by omega),?_⟩;rfl
def aGf:ai yv G0 KY2:=af Qc aJO
def aAY:eO 116 B8:=ae λ(((z:Int),(w:List Bool),(h:Li)),(d:Int),_)=>by
 refine zE (A:=az) (p:=let e:=aA z w h;let b:=Dz e (bG d) false;(EG z w h d->True/\L4 e ((aA z w h->True)/\(Dh true e->aA z w h)/\L7 b ((b->EG z w h d)/\(Dh true b->b)/\Dz b (aX w h d) false=aX w h d/\True)))) aGf λ⟨b,hd⟩=>?_;refine Z9 ?_;simp only[qc,b,hd];exact⟨b,hd⟩
def Xt:eO 119 ym:=ae λ(((z:Int),(w:List Bool),(h:Li)),(t:Int),_)=>by
 refine zE (A:=az) (p:=let f:=Dj (aA z w h);let b:=Dj f;let g:=Dz f true (Dn t (-2000000000));let e:=Dj g;let i:=Dz g true (Eh t 2000000000);(dK z w h t->True/\L4 b ((Dh true b->b)/\L4 e ((Dh true e->e)/\(i->0=bE z t/\0=ID z t/\True)/\(i=false->inR .i64 (t+z)/\Jy (t+z) 1440/\aFK (t+z) 1440=bE z t/\Ky (t+z) 1440=ID z t/\True))))) aGf λ⟨b,u,r⟩=>?_;obtain⟨j,i,_⟩:=(bD.1 b).1;have f:¬t < -2000000000:=Z;have e:¬t>2000000000:=Z;refine Z9 ?_;simp only[qc,b,f,e];refine⟨λg=>?_,λ_=>⟨jQ Z,⟨⟨Z,Z⟩,by decide,by decide⟩,rfl,rfl⟩⟩;rcases g with(g|g)|g<;>cases g
def aA0:eO 115 Cb:=ae λ(((z:Int),(w:List Bool),(h:Li)),(d:Int),(m:Int),_)=>by
 refine zE (A:=az) (p:=let j:=Dj (aA z w h);let e:=Dj j;let r:=Dz j true (Dj (bG d));let g:=Dj r;let u:=Dz r true (Dn m 0);let i:=Dj u;let v:=Dz u true (Eh m 1439);let f:=1440*d;let x:=f+m;let b:=x-z;(jk z w h d m->True/\L4 e ((e->True)/\L4 e ((Dh true e->e)/\L4 g ((Dh true g->g)/\L4 i ((Dh true i->i)/\(v->0=dE z d m/\True)/\(v=false->inR .i64 f/\inR .i64 x/\inR .i64 b/\b=dE z d m/\True))))))) aGf λ⟨e,hd,y,x⟩=>?_;obtain⟨v,u,_⟩:=(bD.1 e).1;have r:¬m<0:=Z;have j:¬m>1439:=Z;have i:=dY.1 hd;refine Z9 ?_;simp only[qc,e,hd,r,j];refine⟨λg=>?_,λ_=>⟨jQ Z,jQ Z,jQ Z,by unfold dE;omega⟩⟩;rcases g with((g|g)|g)|g<;>cases g
def aA7:eO 217 Cf:=ae λ(((r,h,g,j,f,i):Net),(b:Int),(t:Int),_)=>by
 refine zE (A:=az) (p:=let u:=(r,h,g,j,f,i);let v:=aS u;let e:=Dz v (Ed b 0) false;let x:=Dz e (Dn b (Df f)) false;let y:=Dz x (Ed t 0) false;(cZ u->cZ u/\L4 v ((Dh true v->v)/\L4 e (Q4 e ((Dh true e->e)/\L4 x ((Dh true x->x)/\L4 y ((Dh true y->y)/\Dz y (Ef t 2000000) false=gk u b t/\True))))))) aGf λu=>?_;have e:gk (r,h,g,j,f,i) b t=(aS (r,h,g,j,f,i)&&(decide (0<=b)&&decide (b<(f.length:Int)))&&(decide (0<=t)&&decide (t<=2000000))):=by
  unfold gk cY bS;simp
 rw[e];refine Z9 ?_;refine⟨u,?_⟩;simp[Bool.and_assoc]
def aJN:ai yv G0 KY3:=af aAY<|af Xt<|af aA0<|af aA7 aGf
def aKw:eO 268 U0:=ae λ(((g,i,h,f,e,j):Net),(b:Int),(d:Int),_)=>by
 refine zE (A:=az) (p:=let v:=(g,i,h,f,e,j);let u:=(Du e (Dc b) (ByteArray.mk #[],(0:Int),(0:Int),(0:Int),(0:Int),(0:Int))).2;let x:=(Du f (Dc u.1) (ByteArray.mk #[],(0:Int),(0:Int),(0:Int),(0:Int),(0:Int),Dt ByteArray)).2.2.1;let r:=Du g (Dc x) ((0:Int),Dt Bool,Dt Int);(onP v b d->0<=b/\b<Df e/\T2 1 0 1 1 0 (0<=u.1/\u.1<Df f/\0<=x/\x<Df g/\T4 1 0 1 0 1 1 0 (jk r.1 r.2.1 r.2.2 d u.2.2.1/\L5 1 0 (EG r.1 r.2.1 r.2.2 d/\dE r.1 d u.2.2.1=aV v b d/\aX r.2.1 r.2.2 d=onB v b d/\True))))) aJN λ⟨r,hd⟩=>?_;refine Z9 ?_;simp only[qc,dM g i h f e j,Am g i h f e j];obtain⟨u,z,y,x,v,G,L⟩:=Eg g i h f e j r;exact⟨r.2.1,r.2.2,z,y,x,v,⟨u,hd,G,Z⟩,⟨u,hd⟩,rfl,rfl⟩
def aI0:ai yv G0 KY4:=af aKw aJN
def i7{n:Net}{line t:Int}:gk n line t=bO n line [t]:=by
 unfold gk bO;cases aS n<;>cases cY line n.2.2.2.2.1.length<;>simp
def lG{n:Net}{line a b:Int}:bO n line [a,b]=(gk n line a&&gk n line b):=by
 unfold gk bO;cases aS n<;>cases cY line n.2.2.2.2.1.length<;>simp
def SJ:eO 219 tW:=ae λ(((i,r,j,h,f,u):Net),(b:Int),(t:Int),_)=>by
 refine zE (A:=(lvA [(6,[1,2,3,6,7,9,11,12,13])] (aIi (i,r,j,h,f,u) b t))) (p:=let e:=(i,r,j,h,f,u);let V:=Dj (gk e b t);let A:=dP e b t;let G:=gi e b t;let L:=(Du f (Dc b) (ByteArray.mk #[],(0:Int),(0:Int),(0:Int),(0:Int),(0:Int))).2.1;let O:=(Du h (Dc L) (ByteArray.mk #[],(0:Int),(0:Int),(0:Int),(0:Int),(0:Int),Dt ByteArray)).2.2.1;let g:=Du i (Dc O) ((0:Int),Dt Bool,Dt Int);let v:=bE g.1 t;let T:=v+61;let X:=t+86400;let c15:=bE (dQ e b).1 t+62;(cZ e->cZ e/\(V->0=A/\1=G/\True)/\(V=false->0<=b/\b<Df f/\0<=L/\L<Df h/\0<=O/\O<Df i/\Q3 1 0 1 0 (dK g.1 g.2.1 g.2.2 t/\(∃x,NQ e b t x/\Q3 b t e v (v=x/\z6 g.1 g.2.1 g.2.2))/\∀(x:Int),let z:=Dz (onB e b x) (Ed (aV e b x) t) false;let c17:=Dz z (Dn (aV e b x) X) false;let c18:=x+1;NQ e b t x->inR .i64 T/\(Ef x T->onP e b x/\L7 (onB e b x) ((Dh true (onB e b x)->onB e b x)/\L4 z ((z->inR .i64 X)/\L7 z ((Dh true z->z)/\(c17->aV e b x=A/\0=G/\True)/\(c17=false->inR .i64 c18/\∃y,NQ e b t y/\(Q3 b t e v (c18=y/\z6 g.1 g.2.1 g.2.2))/\Dc (c15-y)<Dc (c15-x))))))/\(Ef x T=false->0=A/\20=G/\True))))) aI0 λhp=>?_;refine Z9 ?_;simp only[qc,dM i r j h f u,Am i r j h f u];refine⟨hp,λhr=>?_,λhr=>?_⟩;rw[i7]at hr;unfold dP gi;rw[hr];exact⟨rfl,rfl⟩;have hu:=hr;rw[i7]at hu;obtain⟨V,t0,t1⟩:=gj i r j h f u hu (vI.2 rfl);have ha:=FY i r j h f u V;obtain⟨L,q1,q2,q3,q4,m0,m1⟩:=Eg i r j h f u V;obtain⟨d0,d1⟩:=uZ L t0 t1;obtain⟨v1,v2,_⟩:=(bD.1 L).1;refine⟨V.2.1,V.2.2,q1,q2,q3,q4,⟨L,Z,Z⟩,⟨⟨V,t0,t1⟩,hr,qH _,Z,λe e1 e2=>Z⟩,λx hx=>⟨aE Z,λT=>?_,λX=>?_⟩⟩
 obtain⟨_,_,x0,x1,x2⟩:=hx;have T:x<=bE (dQ (i,r,j,h,f,u) b).1 t+61:=by first|exact T|exact vT T
 have O:∀e,aV (i,r,j,h,f,u) b e<aV (i,r,j,h,f,u) b x↔e<x:=λe=>by unfold aV dE;omega
 refine⟨⟨V,dY.2 Z⟩,λ_=>aE Z,λ⟨⟨h1,h2⟩,h3⟩=>?_,λh1=>⟨aE Z,x+1,⟨⟨V,t0,t1⟩,hr,Z,Z,λe e1 e2 hw=>?_⟩,rfl,Z⟩⟩;have hf:bH (i,r,j,h,f,u) b t=some (aV (i,r,j,h,f,u) b x):=vn ha h2 h3 (rj ha h1) λv v1 v2 L=>by
  have G:=nH L;have h5:bE (dQ (i,r,j,h,f,u) b).1 v<x:=(O _).1 (by rw[G];exact v2);have h6:bE (dQ (i,r,j,h,f,u) b).1 t<=bE (dQ (i,r,j,h,f,u) b).1 v:=by unfold bE;omega
  rcases x2 _ h6 h5 L.1 with g|g;rw[G]at g;omega;rw[G]at g;omega
 obtain⟨k1,k2⟩:=VG hu hf;exact⟨k1.symm,k2.symm⟩;by_cases he:e=x;subst he;by_cases g:aV (i,r,j,h,f,u) b e<t;exact .inl g;right;refine Int.not_lt.1 λg2=>?_;have:=h1 ⟨hw,Z⟩;omega;exact x2 e e1 Z hw;obtain⟨_,_,x0,x1,x2⟩:=hx;have X:¬x<=bE (dQ (i,r,j,h,f,u) b).1 t+61:=by first|exact X|exact kK X
 have hf:bH (i,r,j,h,f,u) b t=none:=Pg ha λv v1 v2 L=>by
  have G:=nH L;have h6:bE (dQ (i,r,j,h,f,u) b).1 t<=bE (dQ (i,r,j,h,f,u) b).1 v/\bE (dQ (i,r,j,h,f,u) b).1 v<x:=by
   unfold bE at *;omega
  rcases x2 _ h6.1 h6.2 L.1 with g|g<;>(rw[G]at g;omega)
 unfold dP gi lS k7;rw[hu,hf];exact⟨rfl,rfl⟩
def jz{w:List Bool}{h:Li}{a n:Int}(b:0<=n):cD w h a (n+1)=cD w h a n++(if aX w h (a+n)then[a+n]else[]):=by
 unfold cD;rw[show(n+1).toNat=n.toNat+1 by omega,zS,zZ,yO];congr 1;simp only[zO,qBx,yR,gQ,show a+((n.toNat:Nat):Int)=a+n by omega]
def JH{n:Net}{line a b x:Int}(h:bE (dQ n line).1 a<=x):iD n line a b (x+1)=iD n line a b x++(if(onB n line x=true/\a<=aV n line x)/\aV n line x<b then[aV n line x]else[]):=by
 unfold iD;rw[show x+1-bE (dQ n line).1 a=(x-bE (dQ n line).1 a)+1 by omega,jz Z,zZ,yO,show bE (dQ n line).1 a+(x-bE (dQ n line).1 a)=x by omega];congr 1;unfold onB;by_cases f:aX (dQ n line).2.1 (dQ n line).2.2 x=true;rw[if_pos f,qCu,yR,gQ];by_cases e:a<=aV n line x/\aV n line x<b;rw[if_pos (show(decide (a<=aV n line x)&&decide (aV n line x<b))=true by rw[qU e.1,qU e.2];rfl),if_pos ⟨⟨f,e.1⟩,e.2⟩];rw[if_neg (show ¬(decide (a<=aV n line x)&&decide (aV n line x<b))=true by rw[qC,qE,qE];exact e),if_neg (λg=>e ⟨g.1.2,g.2⟩)];rw[if_neg f,if_neg (λg=>f g.1.1)];rfl
def uA(n:Net)(line a b:Int):iD n line a b (bE (dQ n line).1 a)=[]:=by
 unfold iD cD;rw[show(bE (dQ n line).1 a-bE (dQ n line).1 a).toNat=0 by omega];rfl
def MR{n:Net}{line a b x:Int}:(iD n line a b x).length<=(x-bE (dQ n line).1 a).toNat:=by
 unfold iD cD;refine wJ (zU _ _) ?_;rw[vG];refine wJ (zU _ _) ?_;rw[vG,vC];exact qM _
def aBb:eO 218 Cm:=ae λ(((j,u,r,i,f,v):Net),(line:Int),(a:Int),(b:Int),_)=>by
 refine zF (c:={mkc KY4 with mb:=λt=>t==18}) (A:=(lvA [(8,[1,2,3,4,8,9,13,15,16,17])] (aFd (j,u,r,i,f,v) line a b))) aI0 gC hm (p:=let g:=(j,u,r,i,f,v);let L:=Dj (gk g line a);let h:=Dj L;let c4:=Dz L true (Dj (gk g line b));let z:=Dj c4;let c6:=a+86400;let c7:=Dz c4 true (Eh b c6);let c8:=da g line a b;let A:=(Du f (Dc line) (ByteArray.mk #[],(0:Int),(0:Int),(0:Int),(0:Int),(0:Int))).2.1;let c10:=(Du i (Dc A) (ByteArray.mk #[],(0:Int),(0:Int),(0:Int),(0:Int),(0:Int),Dt ByteArray)).2.2.1;let e:=Du j (Dc c10) ((0:Int),Dt Bool,Dt Int);let G:=bE e.1 b;let c17:=bE (dQ g line).1 b+1;true/\(cZ g->cZ g/\Q4 h ((h->cZ g)/\L4 h ((Dh true h->h)/\L4 z ((z->inR .i64 c6)/\L7 z ((Dh true z->z)/\(c7->Dk (Dt Int)=0/\Dt Int=c8/\True)/\(c7=false->0<=line/\line<Df f/\0<=A/\A<Df i/\0<=c10/\c10<Df j/\Q3 1 0 1 0 (dK e.1 e.2.1 e.2.2 a/\L5 1 0 (dK e.1 e.2.1 e.2.2 b/\(∃x,let c18:=iD g line a b x;sn g line a b x/\T2 line a b g Z0 (0=Dk c18/\G=G/\bE e.1 a=x/\Dt Int=c18/\z6 e.1 e.2.1 e.2.2))/\∀(x:Int),let X:=Dz (onB g line x) (Ed (aV g line x) a) false;let c20:=Dz X (Dn (aV g line x) b) false;let V:=iD g line a b x;let O:=Dk V;let c23:=[aV g line x];let c24:=O+Dk c23;let T:=x+1;sn g line a b x->(Ef x G->onP g line x/\L7 (onB g line x) ((Dh true (onB g line x)->onB g line x)/\L7 X ((Dh true X->X)/\(c20->O=O/\(c24*8)<=140737488355328/\c24<=9223372036854775807/\inR .i64 T/\∃y,let c26:=iD g line a b y;
  sn g line a b y/\(T2 line a b g Z0 (c24=Dk c26/\G=G/\T=y/\Ee V c23=c26/\z6 e.1 e.2.1 e.2.2))/\Dc (c17-y)<Dc (c17-x))/\(c20=false->inR .i64 T/\∃y,let c27:=iD g line a b y;sn g line a b y/\(T2 line a b g Z0 (O=Dk c27/\G=G/\T=y/\V=c27/\z6 e.1 e.2.1 e.2.2))/\Dc (c17-y)<Dc (c17-x)))))/\(Ef x G=false->O=O/\V=c8/\True)))))))))) ⟨rfl,λhp=>?_⟩
 refine Z9 ?_;simp only[qc,dM j u r i f v,Am j u r i f v];have z:∀t,gk (j,u,r,i,f,v) line t=true->nE (j,u,r,i,f,v) line t:=λt ht=>gj j u r i f v (i7▸ht) (vI.2 rfl);refine⟨hp,λ_=>hp,λh=>?_,λh=>?_,λh=>?_⟩;obtain⟨_,a0,a1⟩:=z a h.1;exact aE Z;refine⟨rfl,?_⟩;unfold da;rcases h with(h|h)|h;rw[lG,h];rfl;rw[lG,h,zJ];rfl;rw[vF (show ¬b<=a+86400 by omega),zJ];rfl;obtain⟨⟨ra,rb⟩,hb⟩:=h;obtain⟨hl,a0,a1⟩:=z a ra;obtain⟨_,b0,b1⟩:=z b rb;have hb:b<=a+86400:=by first|omega|(have:=kK hb;omega)
 obtain⟨hv,q1,q2,q3,q4,m0,m1⟩:=Eg j u r i f v hl;obtain⟨d0,d1⟩:=uZ hv a0 a1;obtain⟨e0,e1⟩:=uZ hv b0 b1;refine⟨hl.2.1,hl.2.2,q1,q2,q3,q4,⟨hv,Z,Z⟩,⟨hv,Z,Z⟩,⟨_,⟨⟨hl,a0,a1⟩,⟨hl,b0,b1⟩,ra,rb,hb,qH _,.inr rfl⟩,by rw[uA];rfl,rfl,by rw[uA]⟩,λx hx=>⟨λhle=>?_,λhgt=>?_⟩⟩;have hle:x<=bE (dQ (j,u,r,i,f,v) line).1 b:=by first|exact hle|exact vT hle
 have x0:=hx.2.2.2.2.2.1;have L:=JH (n:=(j,u,r,i,f,v)) (line:=line) (b:=b) x0;have hln:=MR (n:=(j,u,r,i,f,v)) (line:=line) (a:=a) (b:=b) (x:=x);have hx1:sn (j,u,r,i,f,v) line a b (x+1):=⟨⟨hl,a0,a1⟩,⟨hl,b0,b1⟩,ra,rb,hb,Z,.inl Z⟩;refine⟨⟨hl,dY.2 Z⟩,λh=>?_,λh=>?_⟩;rw[if_pos h]at L;simp only[qL];exact⟨Z,Z,aE Z,x+1,hx1,⟨by rw[L,qF];rfl,rfl,L.symm⟩,Z⟩;have h':¬((onB (j,u,r,i,f,v) line x=true/\a<=aV (j,u,r,i,f,v) line x)/\aV (j,u,r,i,f,v) line x<b):=λg=>h ⟨g.1.1,g.1.2⟩ g.2;rw[if_neg h',wB]at L;exact⟨aE Z,x+1,hx1,⟨by rw[L],rfl,L.symm⟩,Z⟩;have hgt:¬x<=bE (dQ (j,u,r,i,f,v) line).1 b:=by first|exact hgt|exact kK hgt
 have hx2:=hx.2.2.2.2.2.2;have hu:bO (j,u,r,i,f,v) line [a,b]=true:=by rw[lG,ra,rb];rfl
 rw[GN ⟨hu,hb⟩];unfold iD Qm jE;rcases hx2 with g|g;rw[show x=bE (dQ (j,u,r,i,f,v) line).1 b+1 by omega,show bE (dQ (j,u,r,i,f,v) line).1 b+1-bE (dQ (j,u,r,i,f,v) line).1 a=bE (dQ (j,u,r,i,f,v) line).1 b-bE (dQ (j,u,r,i,f,v) line).1 a+1 by omega];subst g;unfold cD;rw[show(bE (dQ (j,u,r,i,f,v) line).1 a-bE (dQ (j,u,r,i,f,v) line).1 a).toNat=0 by omega,show(bE (dQ (j,u,r,i,f,v) line).1 b-bE (dQ (j,u,r,i,f,v) line).1 a+1).toNat=0 by omega]
def aJM:ai yv G0 KY5:=af SJ<|af aBb aI0
def HZ{n:Net}{line a b i:Int}(e:0<=i):rstart n line a b i=atF (da n line a b) a i:=by
 unfold rstart atF;by_cases h:i=0;subst h;rw[if_pos rfl];show a-1+1=a;omega;rw[if_neg h,show i.toNat=(i-1).toNat+1 by omega];show((a-1)::da n line a b).getD ((i-1).toNat+1) 0+1=_;rw[List.getD_cons_succ]
def Lm{n:Net}{line a b i:Int}(e:0<=i):rstart n line a b (i+1)=(da n line a b).getD i.toNat 0+1:=by
 rw[HZ Z];unfold atF;rw[if_neg Z,show i+1-1=i by omega]
def aAZ:eO 154 B9:=ae λ(((u,f,e,r,g,j):Net),(line:Int),(a:Int),(b:Int),_)=>by
 refine zF (c:={mkc KY5 with mb:=λt=>t==40}) (A:=(lvA [(6,[1,3,4,8,9,10,11,12,13,14])] (aE3 (u,f,e,r,g,j) line a b))) aJM gC hm (p:=let h:=(u,f,e,r,g,j);let c2:=gk h line a;let z:=Dj c2;let i:=Dj z;let A:=Dz z true (Dj (gk h line b));let O:=Dj A;let G:=Dz A true (Ef b a);let c8:=Dj G;let c9:=a+86400;let c10:=Dz G true (Eh b c9);let c11:=mO h line a b;let T:=oK h line a b;let X:=a-1;let c14:=[X];let L:=da h line a b;let c16:=1+Dk L;let v:=Ee c14 L;let c18:=Df v;let c19:=Df L+1;true/\(cZ h->cZ h/\Q4 i ((i->cZ h)/\L4 i ((Dh true i->i)/\L7 O ((Dh true O->O)/\L4 c8 ((c8->inR .i64 c9)/\L7 c8 ((Dh true c8->c8)/\(c10->0=c11/\1=T/\True)/\(c10=false->inR .i64 X/\cZ h/\Dk c14=1/\(c16*8)<=140737488355328/\c16<=9223372036854775807/\L3 u f e r g j line a b (Q2 h Q1 Q1 (Dk v=c16/\L3 v u f e r g j line a (L3 c2 z z A A G G c10 a (L3 X u f e r g j line a (L5 b L (Dk v=c16/\v=v/\(∃(x:Int×Int),wm h line a b x.1 x.2/\Q3 line b h v (0=x.1/\0=x.2/\True))/\∀(x:Int×Int),let c20:=Dn x.2 c18;let c21:=Du v (Dc x.2) 0;let V:=c21+1;let c23:=Dn V b;let c24:=gi h line V;let c25:=Dw c24 0;let c26:=dP h line V-c21;let c27:=c26-1;let c28:=x.2+1;
  wm h line a b x.1 x.2->(c20->0<=x.2/\x.2<c18/\inR .i64 V/\(c23->0<=x.2/\x.2<c18/\inR .i64 V/\cZ h/\(c25->0=c11/\c24=T/\True)/\(c25=false->0<=x.2/\x.2<c18/\inR .i64 c26/\inR .i64 c27/\inR .i64 c28/\∃(y:Int×Int),wm h line a b y.1 y.2/\(Q3 line b h v (Ew x.1 c27=y.1/\c28=y.2/\True))/\Dc (c19-y.2)<Dc (c19-x.2)))/\(c23=false->inR .i64 c28/\∃(y:Int×Int),wm h line a b y.1 y.2/\(Q3 line b h v (x.1=y.1/\c28=y.2/\True))/\Dc (c19-y.2)<Dc (c19-x.2)))/\(c20=false->x.1=c11/\0=T/\True))))))))))))))) ⟨rfl,λhp=>?_⟩
 refine Z9 ?_;have z:∀t,gk (u,f,e,r,g,j) line t=true->nE (u,f,e,r,g,j) line t:=λt ht=>gj u f e r g j (i7▸ht) (vI.2 rfl);refine⟨hp,λ_=>hp,λh=>?_,λh=>?_,λh=>?_⟩;obtain⟨_,a0,a1⟩:=z a h.1.1;exact aE Z;have:ki (u,f,e,r,g,j) line a b=false:=by
  unfold ki;rcases h with((h|h)|h)|h;rw[lG,h];rfl;rw[lG,h,zJ];rfl;rw[vF (show ¬a<b by omega),zJ];rfl;rw[vF (show ¬b<=a+86400 by omega),zJ]
 unfold mO oK;rw[this];exact⟨rfl,rfl⟩;obtain⟨⟨⟨ra,rb⟩,hab⟩,hb⟩:=h;have hab:a<b:=Z;have hb:b<=a+86400:=Z;obtain⟨hl,a0,a1⟩:=z a ra;obtain⟨_,b0,b1⟩:=z b rb;have ha:=FY u f e r g j hl;have hu:bO (u,f,e,r,g,j) line [a,b]=true:=by rw[lG,ra,rb];rfl
 have O:ki (u,f,e,r,g,j) line a b=true:=by
  unfold ki;rw[hu,qU hab,qU hb];rfl
 have T:JF (u,f,e,r,g,j) line a b:=⟨hu,hb⟩;have hut:∀t,0<=t->t<=2000000->bO (u,f,e,r,g,j) line [t]=true:=λt g0 g1=>by
  rw[<- i7];unfold gk at ra ⊢;rw[qC]at ra;rw[ra.1];unfold bS;exact qU ⟨g0,g1⟩
 have dl:(da (u,f,e,r,g,j) line a b).length<=100:=by
  rw[GN T];refine wJ (zU _ _) ?_;rw[vG];refine wJ Tv ?_;unfold bE;omega
 have hl1:([a-1]++da (u,f,e,r,g,j) line a b).length=1+(da (u,f,e,r,g,j) line a b).length:=by rw[qF];rfl
 refine⟨aE Z,hp,rfl,Z,Z,hl1,hl1,⟨(0,0),⟨O,qH _,Z,qH _,(by show(0:Int)<=86400;omega),λ_=>?_,λh=>(by have h:(0:Int)=_:=h;omega)⟩,rfl,rfl⟩,λx=>?_⟩;show waitGo _ _ _ (b-(a-1+1)).toNat (a-1+1) 0=_;rw[show a-1+1=a by omega];rfl;obtain⟨m,i⟩:=x;simp only;rintro⟨_,i0,i1,m0,m1,hg,he⟩;refine⟨λX=>?_,λhge=>?_⟩;have hi:i<=(da (u,f,e,r,g,j) line a b).length:=by rw[hl1]at X;omega
 have L:=hg hi;have hst:([a-1]++da (u,f,e,r,g,j) line a b).getD i.toNat 0+1=rstart (u,f,e,r,g,j) line a b i:=rfl;have G:=HZ (n:=(u,f,e,r,g,j)) (line:=line) (a:=a) (b:=b) i0;have hrange:a<=rstart (u,f,e,r,g,j) line a b i/\rstart (u,f,e,r,g,j) line a b i<=b:=by
  by_cases hz:i=0;subst hz;rw[G];unfold atF;rw[if_pos rfl];omega;obtain⟨g1,g2,g3,g4⟩:=sR u f e r g j (line:=line) (a:=a) (b:=b) (i:=i-1) ha T Z Z Z;have gr:=fx g1;rw[G];unfold atF;rw[if_neg hz];omega
 rw[hst];have hvx:([a-1]++da (u,f,e,r,g,j) line a b).getD i.toNat 0=rstart (u,f,e,r,g,j) line a b i-1:=Z;rw[hvx];refine⟨i0,X,aE Z,λht=>⟨i0,X,aE Z,hp,λhE=>?_,λhE=>?_⟩,λht=>⟨aE Z,(m,i+1),⟨O,Z,Z,m0,m1,λh=>?_,λh=>?_⟩,⟨rfl,rfl⟩,Z⟩⟩;obtain⟨hn,e20⟩:=MQ (hut _ Z Z) hE;rw[show(b-rstart (u,f,e,r,g,j) line a b i).toNat=(b-rstart (u,f,e,r,g,j) line a b i).toNat-1+1 by omega,waitGo,if_pos ht,hn]at L;have L:uM (u,f,e,r,g,j) line a b=none:=L.symm;unfold mO oK;rw[O,L,e20];exact⟨rfl,rfl⟩;have hs:=MP (hut _ Z Z) hE;obtain⟨u0,u1⟩:=fx hs;rw[show(b-rstart (u,f,e,r,g,j) line a b i).toNat=(b-rstart (u,f,e,r,g,j) line a b i).toNat-1+1 by omega,waitGo,if_pos ht,hs]at L;have L:waitGo (u,f,e,r,g,j) line b ((b-rstart (u,f,e,r,g,j) line a b i).toNat-1) (dP (u,f,e,r,g,j) line (rstart (u,f,e,r,g,j) line a b i)+1) (nq m (dP (u,f,e,r,g,j) line (rstart (u,f,e,r,g,j) line a b i)-rstart (u,f,e,r,g,j) line a b i))=uM (u,f,e,r,g,j) line a b:=L;have emx:Ew m (dP (u,f,e,r,g,j) line (rstart (u,f,e,r,g,j) line a b i)-(rstart (u,f,e,r,g,j) line a b i-1)-1)=nq m (dP (u,f,e,r,g,j) line (rstart (u,f,e,r,g,j) line a b i)-rstart (u,f,e,r,g,j) line a b i):=by
  unfold nq;show max m _=_;split<;>omega
 have hmx:0<=nq m (dP (u,f,e,r,g,j) line (rstart (u,f,e,r,g,j) line a b i)-rstart (u,f,e,r,g,j) line a b i)/\nq m (dP (u,f,e,r,g,j) line (rstart (u,f,e,r,g,j) line a b i)-rstart (u,f,e,r,g,j) line a b i)<=86400:=by unfold nq;split<;>omega
 refine⟨i0,X,aE Z,aE Z,aE Z,(nq m (dP (u,f,e,r,g,j) line (rstart (u,f,e,r,g,j) line a b i)-rstart (u,f,e,r,g,j) line a b i),i+1),⟨O,Z,Z,hmx.1,hmx.2,λh=>?_,λh=>?_⟩,⟨emx,rfl⟩,Z⟩;have h:i+1<=(da (u,f,e,r,g,j) line a b).length:=h;obtain⟨g1,g2,g3,g4⟩:=sR u f e r g j (line:=line) (a:=a) (b:=b) (i:=i) ha T Z i0 Z;rw[<- G,hs]at g1;have g1:=wZ g1;rw[Lm i0,<- g1,<- L];exact pq _ _ _ _ (qM _) Z;have h:i+1=(da (u,f,e,r,g,j) line a b).length+1:=h;have hi2:i=(da (u,f,e,r,g,j) line a b).length:=Z;have hs2:=hs;rw[G,hi2]at hs2;obtain⟨g1,_⟩:=VE u f e r g j (line:=line) (a:=a) (b:=b) ha T Z hs2;rw[<- hi2,<- G]at g1;rw[<- L];cases(b-rstart (u,f,e,r,g,j) line a b i).toNat-1 with
 |zero=>rfl|succ k=>rw[waitGo,if_neg Z]
 have h:i+1<=(da (u,f,e,r,g,j) line a b).length:=h;exfalso;obtain⟨g1,g2,g3,g4⟩:=sR u f e r g j (line:=line) (a:=a) (b:=b) (i:=i) ha T Z i0 Z;have gr:=fx g1;rw[<- G]at gr;omega;rw[<- L,show(b-rstart (u,f,e,r,g,j) line a b i).toNat=0 by omega];rfl;have hi:i=(da (u,f,e,r,g,j) line a b).length+1:=by rw[hl1]at hge;omega
 have L:=he hi;unfold mO oK;rw[O,L];exact⟨rfl,rfl⟩
def aJL:ai yv G0 KY6:=af aAZ aJM
abbrev Cc:=aj [.val I,.val I] (λ_=>True) λ(a,b,_)=>.dat .bool (NM a b)
noncomputable def KQ5:Kt:=kOr 153 Cc KY6
abbrev tR:=aj [.row N,.val I,.val I] (λ(n,_,_,_)=>cZ n=true) λ(n,a,b,_)=>.dat .bool (fh n a b)
noncomputable def KQ6:Kt:=kOr 109 tR KQ5
def aA5:eO 153 Cc:=ae λ((a:Int),(b:Int),_)=>by
 refine zF (c:={mkc KY6 with mb:=λt=>t==15}) (A:=az) aJL gC hm (p:=let e:=Ed a 0;let f:=Dz e (Dn a b) false;let g:=Dz f (Ef b (Ep IntKind.i64 (a+86400))) false;true/\(True->L7 e ((Dh true e->e)/\Q4 f ((Dh true f->f)/\L4 g ((Dh true g->g)/\Dz g (Ef b 2000000) false=NM a b/\True))))) ⟨rfl,λ_=>?_⟩;have e:Dz (Dz (Dz (Ed a 0) (Dn a b) false) (Ef b (Ep .i64 (Dq a 86400))) false) (Ef b 2000000) false=NM a b:=by
  rw[xC,sj];by_cases h:0<=a/\a<b/\b<=2000000;have j:Ep .i64 (Dq a 86400)=a+86400:=by
   unfold Ep;exact gR (by unfold Dq;exact aE Z)
  rw[j];simp only[qc,Dh,Eu,Dj,qd,Dt,Eb,Dw,Dn,Eh,Ef,Ed,Ez,Df,Eo,Dl,Dp,Es,Dy,Dx,Di,Dq,Ei,Fh,Dc,Ea,Dk,Ec,Ej,Du,Ey,Ew,Em,Ee,Fg,Fj,Fe,Et,En,Ep,Fb];omega;generalize Ep .i64 (Dq a 86400)=q;refine Z9 ?_;constructor;rintro⟨⟨⟨i,g⟩,_⟩,f⟩;exact(h ⟨i,g,f⟩).elim;rintro⟨i,g,f,_⟩;exact(h ⟨i,g,f⟩).elim
 generalize Ep .i64 (Dq a 86400)=q at *;unfold L4 L7 Q4;simp only[qAn,kL,yD,vW,Dh,zV];exact e
def aJZ:ai yv G0 KQ5:=af aA5 aJL
def SG:eO 109 tR:=ae λ(((r,f,e,j,g,h):Net),(a:Int),(b:Int),_)=>by
 refine zE (A:=az) (p:=let i:=(r,f,e,j,g,h);(cZ i->True/\L4 (NM a b) ((NM a b->cZ i)/\(Dh true (NM a b)->NM a b)/\Dz (NM a b) (aS i) false=fh i a b/\True))) aJZ λi=>?_;refine Z9 ?_;exact⟨λ_=>i,rfl⟩
def aJY:ai yv G0 KQ6:=af SG aJZ
open Go.Eng.Mp (aI b9 oN bz upto at2 ou dF gy pw)
def ES(n:Net)(o:Int):Int:=(sw n o).2.2.2.2.1*(sw n o).2.2.2.2.2.1
def aBY(n:Net)(o:Int):Prop:=aS n=true/\0<=o/\o<n.2.2.2.1.length
def lh(n:Net)(a b k:Int):Li:=(bM n a b).take k.toNat
def sV(n:Net)(a b k:Int):Prop:=cZ n=true/\fh n a b=true/\0<=k/\k<=n.2.2.2.2.1.length
def pi(v q k:Int):Lj:=List.replicate k.toNat (List.replicate q.toNat v)
def JL(v k:Int):Li:=List.replicate k.toNat v
def aGH(n:Net):Prop:=n.2.2.2.1.length<=1000000
abbrev tO:=aj [.row N,.val I] (λ(n,o,_)=>aBY n o) λ(n,o,_)=>.dat I (ES n o)
def KQ7:Kt:=kOr 155 tO KQ6
def aCq(n:Net)(a b:Int):Ann:=⟨λf s=>match f with
 |5=>match s.sig.T 11 with
  |.buf e _=>some {α:=Int,inv:=λk=>sV n a b k,st:=λk=>dD (put (flat s) [(8,.dat I k),(7,.buf e (Dk (lh n a b k)))]) e (.buf 3 I (lh n a b k) []),μ:=λk=>Dc (Di (Df n.2.2.2.2.1) k)}|_=>none
 |_=>none,λ_ _=>none,λ_ _=>none⟩
def Xk(v q:Int):Ann:=⟨λe s=>match e with
 |3=>match s.sig.T 9 with
  |.buf b _=>some {α:=Int,inv:=λk=>upto k q,st:=λk=>dD (put (flat s) [(6,.dat I k),(5,.buf b (Dk (pi v q k)))]) b (.mat 37 3 I (pi v q k) []),μ:=λk=>Dc (Di q k)}|_=>none
 |7=>match s.sig.T 17 with
  |.buf b _=>some {α:=Int,inv:=λk=>upto k q,st:=λk=>dD (put (flat s) [(8,.dat I k),(7,.buf b (Dk (JL v k)))]) b (.buf 3 I (JL v k) []),μ:=λk=>Dc (Di q k)}|_=>none
 |_=>none,λ_ _=>none,λ_ _=>none⟩
def SD:eO 155 tO:=ae λ(((i,f,e,b,g,h):Net),(o:Int),_)=>by
 refine zE (A:=az) (p:=let j:=(i,f,e,b,g,h);let r:=(Du b (Dc o) (ByteArray.mk #[],(0:Int),(0:Int),(0:Int),(0:Int),(0:Int),Dt ByteArray)).2.2.2.2;let u:=r.1*r.2.1;(aBY j o->0<=o/\o<Df b/\0<=o/\o<Df b/\inR IntKind.i64 u/\u=ES j o/\True)) aJY λ⟨x,r,j⟩=>?_;obtain⟨v,p1⟩:=qg i f e b g h x r j;refine Z9 ?_;have u:(b.getD o.toNat (⟨#[]⟩,0,0,0,0,0,[])).2.2.2.2.1*(b.getD o.toNat (⟨#[]⟩,0,0,0,0,0,[])).2.2.2.2.2.1=ES (i,f,e,b,g,h) o:=rfl;have y:ES (i,f,e,b,g,h) o<=960/\0<ES (i,f,e,b,g,h) o:=⟨p1,v⟩;refine⟨r,j,r,j,aE (by rw[u];omega),u⟩
def aI7:ai yv G0 KQ7:=af SD aJY
def MU(r:LC)(g f:LB)(j:Lo)(e:Ll)(i:Lk){a b k:Int}(v:0<=k)(u:k<e.length):lh (r,g,f,j,e,i) a b k++[rM (r,g,f,j,e,i) a b k]=lh (r,g,f,j,e,i) a b (k+1):=by
 have h:=JM r g f j e i a b v u;have x:(bM (r,g,f,j,e,i) a b).length=e.length:=cE _ _ _;unfold lh;rw[show(k+1).toNat=k.toNat+1 by omega,wW,qB Z];rw[qA,qB Z,qK]at h;rw[h];rfl
def DY(j:LC)(g f:LB)(i:Lo)(e:Ll)(h:Lk){a b k:Int}(u:0<=k)(r:k<=e.length):(lh (j,g,f,i,e,h) a b k).length=k.toNat:=by
 have v:(bM (j,g,f,i,e,h) a b).length=e.length:=cE _ _ _;unfold lh;rw[qP];omega
abbrev ru:=aj [.row N,.val I,.val I] (λ(n,_,_,_)=>cZ n=true) λ(n,a,b,_)=>.dat R (aG n a b)
def Qe:eO 111 ru:=ae λ(((u,i,g,r,f,j):Net),(a:Int),(b:Int),_)=>by
 refine zE (A:=(lvA [(5,[1,2,3,6,7,8,9,10])] (aCq (u,i,g,r,f,j) a b))) (p:=let e:=(u,i,g,r,f,j);let A:=Dj (fh e a b);let L:=aG e a b;let h:=Df f;let X:=[(-1099511627776:Int)];(cZ e->cZ e/\(A->Dk (Dt Int)=0/\Dt Int=L/\True)/\(A=false->(∃x,let c8:=lh e a b x;sV e a b x/\Q3 a b e Z0 (0=Dk c8/\0=x/\Dt Int=c8/\True))/\∀(x:Int),let c9:=Eb (oK e x a b) 0;let V:=(Du f (Dc x) (ByteArray.mk #[],(0:Int),(0:Int),(0:Int),(0:Int),(0:Int))).2.2;let c11:=mO e x a b+V.2.2.1;let c13:=c11+ES e V.1;let z:=lh e a b x;let v:=Dk z;let c16:=[c13];let T:=v+Dk c16;let G:=x+1;let O:=v+(Dk X);sV e a b x->(Dn x h->cZ e/\(c9->0<=x/\x<h/\inR .i64 c11/\0<=x/\x<h/\aBY e V.1/\inR .i64 c13/\v=v/\(T*8)<=140737488355328/\T<=9223372036854775807/\inR IntKind.i64 G/\∃y,let c20:=lh e a b y;sV e a b y/\(Q3 a b e Z0 (T=Dk c20/\G=y/\Ee z c16=c20/\True))/\Dc (h-y)<Dc (h-x))/\(c9=false->v=v/\(O*8)<=140737488355328/\O<=9223372036854775807/\inR .i64 G/\∃y,let c21:=lh e a b y;sV e a b y/\(Q3 a b e Z0 (O=Dk c21/\G=y/\Ee z X=c21/\True))/\Dc (h-y)<Dc (h-x)))/\(Dn x h=false->v=v/\z=L/\True)))) aI7 λhp=>?_;refine Z9 ?_;simp only[qc,dM u i g r f j];refine⟨hp,λh=>?_,λh=>?_⟩;refine⟨rfl,?_⟩;unfold aG;rw[h];rfl;have hs:=(kp.1 h).2;have l40:=(fV u i g r f j (aK u i g r f j hs)).2;refine⟨⟨0,⟨hp,h,qH _,qI _⟩,by simp[lh],rfl,by simp[lh]⟩,λx hx=>⟨λv=>?_,λhge=>?_⟩⟩
 obtain⟨_,_,L,x1⟩:=hx;obtain⟨l0,l1,l2,l3,l4,l5,l6⟩:=dd u i g r f j hs L v;obtain⟨o0,o1⟩:=qg u i g r f j hs l2 l3;have z:=MU u i g r f j (a:=a) (b:=b) L v;have hl1:=DY u i g r f j (a:=a) (b:=b) L Z;have hl2:=DY u i g r f j (a:=a) (b:=b) (k:=x+1) Z Z;have X:sV (u,i,g,r,f,j) a b (x+1):=⟨hp,h,Z,by show x+1<=(f.length:Int);omega⟩;simp only[qL];refine⟨hp,λhe=>?_,λhe=>?_⟩;rcases KG u i g r f j h L v with⟨e,_,w0,w1⟩|⟨e,_⟩;have hc:rM (u,i,g,r,f,j) a b x=mO (u,i,g,r,f,j) x a b+(al (u,i,g,r,f,j) x).2.2.2.2.1+ES (u,i,g,r,f,j) (al (u,i,g,r,f,j) x).2.2.1:=by unfold rM;rw[if_pos e];rfl
 rw[hc]at z;have hso:0<ES (u,i,g,r,f,j) (al (u,i,g,r,f,j) x).2.2.1/\ES (u,i,g,r,f,j) (al (u,i,g,r,f,j) x).2.2.1<=960:=⟨o0,o1⟩;exact⟨L,v,aE Z,L,v,⟨hs,l2,l3⟩,aE Z,Z,Z,aE Z,x+1,X,⟨Z,rfl,z⟩,Z⟩;omega;have hc:rM (u,i,g,r,f,j) a b x=-1099511627776:=by unfold rM;rw[if_neg he];rfl
 rw[hc]at z;exact⟨Z,Z,aE Z,x+1,X,⟨Z,rfl,z⟩,Z⟩;obtain⟨_,_,L,x1⟩:=hx;have x1:x<=f.length:=x1;have hl:(bM (u,i,g,r,f,j) a b).length=f.length:=cE _ _ _;unfold lh aG;rw[h,qO Z];rfl
def VR{v k:Int}(b:0<=k):JL v k++[v]=JL v (k+1):=by
 unfold JL;rw[show(k+1).toNat=k.toNat+1 by omega,List.replicate_succ']
def vo{v q k:Int}:(pi v q k).length=k.toNat:=by unfold pi;rw[wS]
def VQ{v q k:Int}(e:0<=k){r:Li}(b:r=List.replicate q.toNat v):(pi v q k++[[]]).set (pi v q k).length r=pi v q (k+1):=by
 rw[qCj _ _ (qM _),qBg,List.set_cons_zero,b];unfold pi;rw[show(k+1).toNat=k.toNat+1 by omega,List.replicate_succ']
abbrev tN:=DT [.row N,.val I] (λ(n,_,_)=>aGH n) (λ(n,v,_)=>.buf 0 (Dk (pi v (Df n.2.2.2.1) (Df n.2.2.2.1)))) λ(n,v,_)=>.mat 37 3 I (pi v (Df n.2.2.2.1) (Df n.2.2.2.1)) []
def SB:eO 112 tN:=rI λ(((cs,X,V,e,ls,ks):Net),(v:Int),_)=>by
 refine zF (c:={mkc KQ7 with mb:=λt=>t==31}) (A:=(lvA [(3,[1,2,4,5,6,7,8]),(7,[1,2,4,5,6,7,8])] (Xk v (Df e)))) aI7 gC hm (p:=let j:=(cs,X,V,e,ls,ks);let f:=Df e;let z:=[v];let G:=Dk z;let A:=pi v f f;true/\(aGH j->(∃x,upto x f/\Q2 v j Z0 (0=Dk (pi v f x)/\0=x/\Dt (Li)=pi v f x/\Fb (pi v f x)/\True))/\∀(x:Int),let i:=Dk (pi v f x);let u:=i+1;let T:=x+1;upto x f->(Dn x f->(∃b,upto b f/\T2 v j Z0 i x (0=Dk (JL v b)/\0=b/\pi v f x=pi v f x/\Dt Int=JL v b/\True))/\∀(b:Int),let r:=Dk (JL v b);let g:=r+G;let h:=b+1;upto b f->(Dn b f->r=r/\(g*8)<=140737488355328/\g<=9223372036854775807/\inR IntKind.i64 h/\∃y,upto y f/\(T2 v j Z0 i x (g=Dk (JL v y)/\h=y/\pi v f x=pi v f x/\Ee (JL v b) z=JL v y/\True))/\Dc (f-y)<Dc (f-b))/\(Dn b f=false->L5 r i ((u*24)<=140737488355328/\u<=9223372036854775807/\inR .i64 T/\∃y,upto y f/\(Q2 v j Z0 (u=Dk (pi v f y)/\T=y/\Dk (JL v b)=r/\Em (Ee (pi v f x) [Dt Int]) i (JL v b)=pi v f y/\True))/\Dc (f-y)<Dc (f-x))))/\(Dn x f=false->i=Dk A/\pi v f x=A/\True))) ⟨rfl,λL=>?_⟩;have L:e.length<=1000000:=L;refine Z9 ?_;have f:∀k:Int,(JL v k).length=k.toNat:=λk=>by unfold JL;rw[wS]
 refine⟨⟨0,⟨Z,.inr rfl⟩,by simp[pi],rfl,by simp[pi],λr hr=>by simp[pi]at hr⟩,λx j=>⟨λhlt=>⟨⟨0,⟨Z,.inr rfl⟩,by simp[JL],rfl,by simp[JL]⟩,λy i=>⟨λO=>?_,λu=>?_⟩⟩,λu=>?_⟩⟩;have z:=i.1;have c1:=f y;have c2:=f (y+1);simp only[qL];exact⟨Z,Z,aE Z,y+1,⟨Z,.inl Z⟩,⟨Z,rfl,VR z⟩,Z⟩;have G:=j.1;have z:=i.1;have y1:=i.2;have ey:y=e.length:=Z;have c1:=vo (v:=v) (q:=e.length) (k:=x);have c2:=vo (v:=v) (q:=e.length) (k:=x+1);exact⟨Z,Z,aE Z,x+1,⟨Z,.inl Z⟩,⟨Z,rfl,VQ G (by rw[ey];rfl)⟩,Z⟩;have G:=j.1;have x1:=j.2;have ex:x=e.length:=Z;rw[ex];exact⟨rfl,rfl⟩
def GM(k i j:Int):Int:=if i=j/\i<k then 0 else -1
def nG(q k:Int):Lj:=aI (GM k) q
def oV(n:Net)(c:Li)(m:Lj)(k d:Int):Prop:=c.getD k.toNat 0=dR\/at2 m (al n k).2.2.1 d<0\/(0<=at2 m (al n k).2.1 d/\at2 m (al n k).2.1 d<=c.getD k.toNat 0+at2 m (al n k).2.2.1 d)
def wPb(x:Int):Nat:=if x<0 then 1000000000 else x.toNat
def wC(x:Int):Nat:=if x<0 then 0 else 1
def sumW(w:Int->Nat)(m:Lj):Nat:=(m.map λr=>(r.map w).sum).sum
def muB(b:Bool)(m:Lj):Nat:=2*sumW wPb m+(if b then 1 else 0)
def aAr(n:Net)(a b:Int)(m:Lj):Prop:=fh n a b=true/\m.length=n.2.2.2.1.length/\(∀o:Int,0<=o->o<n.2.2.2.1.length->(m.getD o.toNat []).length=n.2.2.2.1.length)/\
 (∀o:Int,0<=o->o<n.2.2.2.1.length->at2 m o o=0)/\(∀o d:Int,0<=o->o<n.2.2.2.1.length->0<=d->d<n.2.2.2.1.length->-1<=at2 m o d/\at2 m o d<=1000000*sumW wC m)/\
 (∀o d:Int,0<=o->o<n.2.2.2.1.length->0<=d->d<n.2.2.2.1.length->0<=at2 m o d->0<=at2 (aM n a b) o d/\at2 (aM n a b) o d<=at2 m o d)
def aGV(n:Net)(a b:Int)(x:Bool)(m:Lj):Prop:=aAr n a b m/\(x=false->∀k d:Int,0<=k->k<n.2.2.2.2.1.length->0<=d->d<n.2.2.2.1.length->oV n (aG n a b) m k d)
def aGU(n:Net)(a b:Int)(e:Lj)(x:Bool)(m:Lj)(i:Int):Prop:=aAr n a b m/\0<=i/\i<=n.2.2.2.2.1.length/\
 (x=false->m=e/\∀k d:Int,0<=k->k<i->0<=d->d<n.2.2.2.1.length->oV n (aG n a b) m k d)/\(x=true->sumW wPb m<sumW wPb e)
def aFF(n:Net)(a b:Int)(f:Lj)(g:Bool)(i:Int)(x:Bool)(m:Lj)(d:Int):Prop:=aAr n a b m/\0<=d/\d<=n.2.2.2.1.length/\
 ((x=g/\m=f/\∀e:Int,0<=e->e<d->oV n (aG n a b) m i e)\/(x=true/\sumW wPb m<sumW wPb f))
def KQ8:Kt:=kOr 111 ru <|
 kOr 112 tN KQ7
def aFx(s:St)(b:Nat):Option (Lj):=match s.mem.lookup b with|some (.mat _ _ (.int .i64) xss [])=>some xss|_=>none
def IG(s:St):List Nat:=s.mem.filterMap λp=>match p.2 with|.mat _ _ _ _ _=>some p.1|_=>none
def Ym(n:Net)(a b:Int):Ann:=⟨λf s=>match s.sig.T 7 with
 |.buf e _=>match f with
  |5=>some {α:=Int,inv:=λk=>upto k (Df n.2.2.2.1),st:=λk=>dD (put (flat s) [(8,.dat I k)]) e (.mat 37 3 I (nG (Df n.2.2.2.1) k) []),μ:=λk=>Dc (Di (Df n.2.2.2.1) k)}|10=>some {α:=Bool×Lj×Int,inv:=λx=>aGV n a b x.1 x.2.1,st:=λx=>dD (put (flat s) [(10,.dat .bool x.1)]) e (.mat 37 3 I x.2.1 []),μ:=λx=>muB x.1 x.2.1}|13=>match aFx s e with
   |some h=>some {α:=Bool×Lj×Int,inv:=λx=>aGU n a b h x.1 x.2.1 x.2.2,st:=λx=>dD (put (flat s) [(10,.dat .bool x.1),(11,.dat I x.2.2)]) e (.mat 37 3 I x.2.1 []),μ:=λx=>Dc (Di (Df n.2.2.2.2.1) x.2.2)}|none=>none
  |1000018=>match aFx s e,s.sig.T 11,s.sig.T 140 with
   |some g,.dat (.int .i64) i,.dat .bool x1=>some {α:=Bool×Lj×Int,inv:=λx=>aFF n a b g x1 i x.1 x.2.1 x.2.2,st:=λx=>dD (put (flat s) [(10,.dat .bool x.1),(14,.dat I x.2.2)]) e (.mat 37 3 I x.2.1 []),μ:=λx=>Dc (Di (Df n.2.2.2.1) x.2.2)}|_,_,_=>none
  |_=>none
 |_=>none,λf s=>match f with
 |23=>some (frz (IG s) s)|_=>none,λ_ _=>none⟩
def KT{α:Type}(f:α->Nat):∀(l:List α) (i:Nat) (y:α) (h:i<l.length),((l.set i y).map f).sum+f l[i]=(l.map f).sum+f y
 |x::l,0,y,h=>by simp only[List.set_cons_zero,zO,List.sum_cons,List.getElem_cons_zero];omega|x::l,i+1,y,h=>by
  have:=KT f l i y (by simp at h;omega);simp only[List.set_cons_succ,zO,List.sum_cons,List.getElem_cons_succ];omega
def TE(m:Lj)(o d v:Int):Lj:=m.set o.toNat ((m.getD o.toNat []).set d.toNat v)
def Nw(w:Int->Nat){m:Lj}{q:Nat}(j:m.length=q)(f:∀o:Int,0<=o->o<q->(m.getD o.toNat []).length=q){o d:Int}(e:0<=o)(b:o<q)(y:0<=d)(x:d<q)(v:Int):
  sumW w (TE m o d v)+w (at2 m o d)=sumW w m+w v:=by
 have u:=f o e b;have h:m.getD o.toNat []=m[o.toNat]'Z:=by rw[qA,qB Z,qK]
 have i:=KT (λr:List _=>(r.map w).sum) m o.toNat ((m.getD o.toNat []).set d.toNat v) Z;have z:=KT w (m.getD o.toNat []) d.toNat v Z;have g:at2 m o d=(m.getD o.toNat [])[d.toNat]'Z:=by unfold at2;rw[qA,qB Z,qK]
 unfold sumW TE;rw[g];simp only[<- h]at i;omega
def aEM{m:Lj}{q:Nat}(L:m.length=q)(r:∀o:Int,0<=o->o<q->(m.getD o.toNat []).length=q){o d:Int}(h:0<=o)(f:o<q)(V:0<=d)(T:d<q)(v:Int){i j:Int}(G:0<=i)(A:i<q)(z:0<=j)(y:j<q):
  at2 (TE m o d v) i j=if i=o/\j=d then v else at2 m i j:=by
 unfold at2 TE;have O:=r o h f;rw[qA (l:=m.set _ _),yK];by_cases e:o.toNat=i.toNat;have x:i=o:=by omega
 subst x;rw[if_pos rfl,if_pos Z,qK,qA,yK];by_cases b:d.toNat=j.toNat;have u:j=d:=by omega
 subst u;rw[if_pos rfl,if_pos Z,if_pos ⟨rfl,rfl⟩];rfl;rw[if_neg b,if_neg (λg=>b (by rw[g.2]))];rw[qA (l:=m.getD i.toNat [])];rw[if_neg e,if_neg (λg=>e (by rw[g.1])),<- qA]
def aEL{m:Lj}{q:Nat}(r:m.length=q)(b:∀o:Int,0<=o->o<q->(m.getD o.toNat []).length=q){o d:Int}(g:0<=o)(f:o<q)(v:Int):(TE m o d v).length=q/\∀i:Int,0<=i->i<q->((TE m o d v).getD i.toNat []).length=q:=by
 unfold TE;refine⟨by rw[yJ];exact r,λi j h=>?_⟩;rw[qA,yK];by_cases e:o.toNat=i.toNat;rw[if_pos e,if_pos Z,qK,yJ];exact b o g f;rw[if_neg e,<- qA];exact b i j h
def Tm{α:Type}(f:α->Nat)(K:Nat):∀l:List α,(∀x∈l,f x<=K)->(l.map f).sum<=l.length*K
 |[],_=>wU _|x::l,h=>by
  have g:=h x wF;have e:=Tm f K l λy b=>h y (zA _ b);simp only[zO,List.sum_cons,wO];rw[zX];omega
def cnt_le{m:Lj}{q:Nat}(f:m.length=q)(e:∀o:Int,0<=o->o<q->(m.getD o.toNat []).length=q):sumW wC m<=q*q:=by
 unfold sumW;have h:=Tm (λr:Li=>(r.map wC).sum) q m λr b=>by
  obtain⟨i,g,rfl⟩:=List.getElem_of_mem b;have j:=e i Z Z;rw[qR,qA,qB g,qK]at j;have u:=Tm wC 1 m[i] λx _=>by unfold wC;split<;>omega
  show(m[i].map wC).sum<=q;omega
 rw[f]at h;exact h
def aAL(y:LC)(u r:LB)(f:Lo)(h:Ll)(x:Lk){a b k d:Int}{m:Lj}(hi:aAr (y,u,r,f,h,x) a b m)(k0:0<=k)(k1:k<h.length)(hc:(aG (y,u,r,f,h,x) a b).getD k.toNat 0≠dR)(d0:0<=d)(d1:d<f.length)
  (ht:0<=at2 m (al (y,u,r,f,h,x) k).2.2.1 d) (ho:at2 m (al (y,u,r,f,h,x) k).2.1 d<0\/(aG (y,u,r,f,h,x) a b).getD k.toNat 0+at2 m (al (y,u,r,f,h,x) k).2.2.1 d<at2 m (al (y,u,r,f,h,x) k).2.1 d):
  aAr (y,u,r,f,h,x) a b (TE m (al (y,u,r,f,h,x) k).2.1 d ((aG (y,u,r,f,h,x) a b).getD k.toNat 0+at2 m (al (y,u,r,f,h,x) k).2.2.1 d))/\sumW wPb (TE m (al (y,u,r,f,h,x) k).2.1 d ((aG (y,u,r,f,h,x) a b).getD k.toNat 0+at2 m (al (y,u,r,f,h,x) k).2.2.1 d))<sumW wPb m/\
  -1<=at2 m (al (y,u,r,f,h,x) k).2.2.1 d/\at2 m (al (y,u,r,f,h,x) k).2.2.1 d<=200000000/\0<(aG (y,u,r,f,h,x) a b).getD k.toNat 0/\(aG (y,u,r,f,h,x) a b).getD k.toNat 0<=1000000:=by
 obtain⟨hr,hl,z,O,L,A⟩:=hi;have hl:m.length=f.length:=hl;have z:∀o:Int,0<=o->o<f.length->(m.getD o.toNat []).length=f.length:=z;have hs:=(kp.1 hr).2;have q12:=(eJ y u r f h x (aK y u r f h x hs)).1;obtain⟨o0,o1,t0,t1,hne,_⟩:=dd y u r f h x hs k0 k1;have hco:=iW y u r f h x hr;have hcb:0<(aG (y,u,r,f,h,x) a b).getD k.toNat 0/\(aG (y,u,r,f,h,x) a b).getD k.toNat 0<=1000000:=by
  have e:aG (y,u,r,f,h,x) a b=bM (y,u,r,f,h,x) a b:=by unfold aG;rw[hr];rfl
  rw[e]at hc ⊢;rcases hco.2.2 k k0 (by rw[cE];exact k1)with g|g;exact(hc g).elim;exact g
 have hB:=(rV y u r f h x hco).1;have hbe:aM (y,u,r,f,h,x) a b=bf (y,u,r,f,h,x) (bM (y,u,r,f,h,x) a b):=by unfold aM;rw[hr];rfl
 have hce:aG (y,u,r,f,h,x) a b=bM (y,u,r,f,h,x) a b:=by unfold aG;rw[hr];rfl
 have hg:h[k.toNat]?=some (al (y,u,r,f,h,x) k):=by
  unfold al;show _=some (h.getD k.toNat _);rw[qA,qB Z,qK]
 have hst:=hB.step k.toNat _ hg (by rw[<- hce];exact hc) d d0 d1;rw[<- hbe,<- hce]at hst;have hrt:=L _ d t0 t1 d0 d1;have hro:=L _ d o0 o1 d0 d1;have hsd:=A _ d t0 t1 d0 d1 ht;have hcnt:=cnt_le hl z;have hqq:f.length*f.length<=144:=Nat.mul_le_mul (show f.length<=12 by omega) (show f.length<=12 by omega);have hP:=Nw wPb hl z o0 o1 d0 d1 ((aG (y,u,r,f,h,x) a b).getD k.toNat 0+at2 m (al (y,u,r,f,h,x) k).2.2.1 d);have hC:=Nw wC hl z o0 o1 d0 d1 ((aG (y,u,r,f,h,x) a b).getD k.toNat 0+at2 m (al (y,u,r,f,h,x) k).2.2.1 d);have hsq:=aEL hl z o0 o1 (d:=d) ((aG (y,u,r,f,h,x) a b).getD k.toNat 0+at2 m (al (y,u,r,f,h,x) k).2.2.1 d);have hat:=λi j i0 X V T=>aEM hl z o0 o1 d0 d1 ((aG (y,u,r,f,h,x) a b).getD k.toNat 0+at2 m (al (y,u,r,f,h,x) k).2.2.1 d) (i:=i) (j:=j) i0 X V T;have hod:(al (y,u,r,f,h,x) k).2.1≠d:=λe=>by
  have:=O _ o0 o1;rw[<- e]at ho;rw[this]at ho;rw[<- e]at ht;omega
 have hst':0<=at2 (aM (y,u,r,f,h,x) a b) (al (y,u,r,f,h,x) k).2.1 d/\at2 (aM (y,u,r,f,h,x) a b) (al (y,u,r,f,h,x) k).2.1 d<=(aG (y,u,r,f,h,x) a b).getD k.toNat 0+at2 (aM (y,u,r,f,h,x) a b) (al (y,u,r,f,h,x) k).2.2.1 d:=hst hsd.1;generalize (aG (y,u,r,f,h,x) a b).getD k.toNat 0=c at *;generalize hv:c+at2 m (al (y,u,r,f,h,x) k).2.2.1 d=v at *;have hv0:0<v:=Z;have hwv:wPb v=v.toNat:=by unfold wPb;rw[if_neg Z]
 have hcv:wC v=1:=by unfold wC;rw[if_neg Z]
 have G:wC (at2 m (al (y,u,r,f,h,x) k).2.1 d)=if at2 m (al (y,u,r,f,h,x) k).2.1 d<0 then 0 else 1:=rfl;have hwo:wPb (at2 m (al (y,u,r,f,h,x) k).2.1 d)=if at2 m (al (y,u,r,f,h,x) k).2.1 d<0 then 1000000000 else(at2 m (al (y,u,r,f,h,x) k).2.1 d).toNat:=rfl;refine⟨⟨hr,hsq.1,hsq.2,λo x0 x1=>?_,λi j i0 X V T=>?_,λi j i0 X V T=>?_⟩,?_,hrt.1,Z,hcb.1,hcb.2⟩;rw[hat o o x0 x1 x0 x1,if_neg (λg=>hod (g.1.symm.trans g.2))];exact O o x0 x1;rw[hat i j i0 X V T];have hij:=L i j i0 X V T;split;by_cases g:at2 m (al (y,u,r,f,h,x) k).2.1 d<0;rw[if_pos g]at G;omega;rw[if_neg g]at G;omega;by_cases g:at2 m (al (y,u,r,f,h,x) k).2.1 d<0;rw[if_pos g]at G;omega;rw[if_neg g]at G;omega;rw[hat i j i0 X V T];split;rename_i g;rw[g.1,g.2];intro _;exact⟨hst'.1,Z⟩;exact A i j i0 X V T;by_cases g:at2 m (al (y,u,r,f,h,x) k).2.1 d<0;rw[if_pos g]at hwo;omega;rw[if_neg g]at hwo;omega
def U8(v:LC)(r j:LB)(i:Lo)(g:Ll)(u:Lk){a b:Int}{m:Lj}(hi:aAr (v,r,j,i,g,u) a b m)(y:∀k d:Int,0<=k->k<g.length->0<=d->d<i.length->oV (v,r,j,i,g,u) (aG (v,r,j,i,g,u) a b) m k d):∀(f:Nat) (o d:Int),0<=o->o<i.length->0<=d->d<i.length->0<=at2 (aM (v,r,j,i,g,u) a b) o d->(at2 (aM (v,r,j,i,g,u) a b) o d).toNat<=f->0<=at2 m o d/\at2 m o d<=at2 (aM (v,r,j,i,g,u) a b) o d
 |f,o,d,o0,o1,d0,d1,hb,V=>by
  obtain⟨T,hl,hrow,x,hrng,L⟩:=id hi;have z:=iW v r j i g u T;have X:aM (v,r,j,i,g,u) a b=bf (v,r,j,i,g,u) (bM (v,r,j,i,g,u) a b):=by unfold aM;rw[T];rfl
  have A:aG (v,r,j,i,g,u) a b=bM (v,r,j,i,g,u) a b:=by unfold aG;rw[T];rfl
  have hB:=(rV v r j i g u z).1;have hC:=Pv v r j i g u z;rw[<- X,<- A]at hB;rw[<- A]at hC;by_cases e:o=d;subst e;have:=x o o0 o1;omega;obtain⟨k,l,G,k2,k3,O,k5⟩:=hB.from_ o d o0 o1 d0 d1 e hb;have hp:=hC.pos k l G k2;obtain⟨_,t0,t1⟩:=hC.ends k l G;have k5:at2 (aM (v,r,j,i,g,u) a b) o d=(aG (v,r,j,i,g,u) a b).getD k 0+at2 (aM (v,r,j,i,g,u) a b) (lTo l) d:=k5;have O:0<=at2 (aM (v,r,j,i,g,u) a b) (lTo l) d:=O;match f,V with
  |0,V=>omega|f+1,V=>
   obtain⟨i1,i2⟩:=U8 v r j i g u hi y f (lTo l) d t0 t1 d0 d1 O Z;have hkl:k<g.length:=(qG.1 G).1;have el:al (v,r,j,i,g,u) k=l:=by
    unfold al;show g.getD (k:Int).toNat _=l;rw[qR,qA,G];rfl
   have h:=y k d Z Z d0 d1;unfold oV at h;rw[el,qR]at h;have e1:l.2.2.1=lTo l:=rfl;have e2:l.2.1=o:=k3;rw[e1,e2]at h;rcases h with h|h|h;exact(k2 h).elim;omega;exact⟨h.1,Z⟩
def aJX:ai yv G0 KQ8:=af Qe<|af SB aI7
def aBX{a b:Lj}{q:Nat}(g:a.length=q)(e:∀o:Int,0<=o->o<q->(a.getD o.toNat []).length=q)(f:Mp.Sq q b)(h:∀i j:Int,0<=i->i<q->0<=j->j<q->at2 a i j=at2 b i j):a=b:=by
 refine qBs (by rw[g,f.len]) λi r G=>?_;have L:i<q:=by rw[<- g];exact r
 have y:=e i Z Z;have x:=f.row i Z Z;have v:a.getD (i:Int).toNat []=a[i]:=by rw[qR,qA,qB r,qK]
 have u:b.getD (i:Int).toNat []=b[i]:=by rw[qR,qA,qB G,qK]
 rw[v]at y;rw[u]at x;refine qBs Z λj A z=>?_;have:=h i j Z Z Z Z;unfold at2 at this;rw[v,u,qR,qA,qA,qB A,qB z]at this;exact this
def inv_eq(v:LC)(r h:LB)(e:Lo)(f:Ll)(u:Lk){a b:Int}{m:Lj}(hi:aAr (v,r,h,e,f,u) a b m)(V:∀k d:Int,0<=k->k<f.length->0<=d->d<e.length->oV (v,r,h,e,f,u) (aG (v,r,h,e,f,u) a b) m k d):m=aM (v,r,h,e,f,u) a b:=by
 obtain⟨hr,hl,y,X,z,x⟩:=id hi;have hco:=iW v r h e f u hr;have A:aM (v,r,h,e,f,u) a b=bf (v,r,h,e,f,u) (bM (v,r,h,e,f,u) a b):=by unfold aM;rw[hr];rfl
 have hB:=(rV v r h e f u hco).1;rw[<- A]at hB;refine aBX (q:=e.length) hl y (by rw[A];exact Mp.iG _ _) λi j T O L G=>?_;have h1:=z i j T O L G;have h2:=x i j T O L G;have h3:-1<=at2 (aM (v,r,h,e,f,u) a b) i j:=hB.lo i j T O L G;by_cases g:0<=at2 (aM (v,r,h,e,f,u) a b) i j;have h4:=U8 v r h e f u hi V _ i j T O L G g (qM _);have h5:=h2 h4.1;omega;by_cases g2:0<=at2 m i j;exact(g (h2 g2).1).elim;omega
def Zr(x:LC)(r f:LB)(e:Lo)(u:Ll)(v:Lk){a b:Int}(T:fh (x,r,f,e,u,v) a b=true):aAr (x,r,f,e,u,v) a b (nG e.length e.length):=by
 have sq:Mp.Sq e.length (nG e.length e.length):=Mp.iG _ _;have y:∀i j:Int,0<=i->i<e.length->0<=j->j<e.length->at2 (nG e.length e.length) i j=GM e.length i j:=λi j A z O L=>Mp.iH _ _ i j A z O L;have V:=iW x r f e u v T;have X:aM (x,r,f,e,u,v) a b=bf (x,r,f,e,u,v) (bM (x,r,f,e,u,v) a b):=by unfold aM;rw[T];rfl
 have hB:=(rV x r f e u v V).1;rw[<- X]at hB;refine⟨T,sq.len,sq.row,λo o0 G=>?_,λi j A z O L=>?_,λi j A z O L=>?_⟩;have G:o<e.length:=G;rw[y o o o0 G o0 G];unfold GM;rw[if_pos ⟨rfl,G⟩];rw[y i j A z O L];unfold GM;split<;>omega;rw[y i j A z O L];unfold GM;split;rename_i g;intro _;have:=hB.same i A z;have this:at2 (aM (x,r,f,e,u,v) a b) i i=0:=this;rw[<- g.1];omega;intro h;omega
abbrev tY:=aj [.row N,.val I,.val I] (λ(n,_,_,_)=>cZ n=true) λ(n,a,b,_)=>.dat M (aM n a b)
def SL:eO 110 tY:=ae λ(((cs,V,T,G,L,X):Net),(a:Int),(b:Int),_)=>by
 refine zE (A:=(lvA [(5,[1,2,3,6,7,8,9,10,11,12,13,14]),(10,[3,6,7,9,10,11,12,13,14]),(13,[3,6,7,9,10,11,12,13,14]),(18,[3,6,7,9,10,11,12,13,14])] (Ym (cs,V,T,G,L,X) a b))) (p:=let i:=(L,X);let g:=(cs,V,T,G,i);let c3:=Dj (fh g a b);let c4:=aM g a b;let h:=Df G;let c6:=pi (-1) h h;let e:=Dk c6;let c8:=Int.ofNat e;let j:=aG g a b;let c10:=Df L;let A:=Df j;(cZ g->cZ g/\(c3->c4=Dt (Li)/\True)/\(c3=false->aGH g/\(∃x,upto x h/\T2 a b g Z0 e (0=x/\c6=nG h x/\True))/\∀(x:Int),let z:=Dk (nG h x);let c14:=Du (nG h x) (Dc x) [];let c15:=Dk c14;let c16:=x+1;upto x h->Dk (nG h x)=e/\(Dn x c8->z=e/\0<=x/\x<Ea z/\z=e/\z=e/\0<=x/\x<Ea c15/\z=e/\c15=c15/\inR .i64 c16/\∃y,upto y h/\(T2 a b g Z0 e (c16=y/\Em (nG h x) (Dc x) (Em c14 (Dc x) 0)=nG h y/\True))/\Dc (h-y)<Dc (h-x))/\(Dn x c8=false->cZ g/\(∃(x_3:Bool×Lj×Int),aGV g a b x_3.1 x_3.2.1/\Q3 g Z0 e j (true=x_3.1/\nG h x=x_3.2.1/\True))/\∀(xa:Bool×Lj×Int),aGV g a b xa.1 xa.2.1->(xa.1->(∃(xaa:Bool×Lj×Int),aGU g a b xa.2.1 xaa.1 xaa.2.1 xaa.2.2/\Q3 g Z0 e j (false=xaa.1/\0=xaa.2.2/\xa.2.1=xaa.2.1/\True))/\∀(f:Bool×Lj×Int),let c29:=Dn f.2.2 c10;let c30:=Dc f.2.2;let u:=Du L c30 (ByteArray.mk #[],(0:Int),(0:Int),(0:Int),(0:Int),(0:Int));let c36:=Du j c30 0;let c38:=Dc u.2.1;let c39:=f.2.2+1;
  aGU g a b xa.2.1 f.1 f.2.1 f.2.2->(c29->0<=f.2.2/\f.2.2<c10/\0<=f.2.2/\f.2.2<c10/\(∃(xaba:Bool×Lj×Int),aFF g a b f.2.1 f.1 f.2.2 xaba.1 xaba.2.1 xaba.2.2/\Q3 g Z0 e j (f.1=xaba.1/\Q2 f.2.2 u.2.1 u.2.2.1 (0=xaba.2.2/\L3 f.2.2 i L c10 c29 i L f.2.2 u (T5 u.2 u.2.1 i L f.2.2 u u.2.2 u.2.2.1 (f.2.1=xaba.2.1/\True)))))/\∀(r:Bool×Lj×Int),let c48:=Dn r.2.2 c8;let c49:=Dz c48 (Dw c36 (-1099511627776)) false;let c50:=Dk r.2.1;let c51:=Ea c50;let c52:=Du r.2.1 (Dc u.2.2.1) [];let c53:=Dk c52;let c55:=Dc r.2.2;let c56:=Du c52 c55 0;let v:=Ed c56 0;let c19:=v->c50=e;let c58:=Du r.2.1 c38 [];let c59:=Dk c58;let c60:=Du c58 c55 0;let c61:=Dn c60 0;let O:=Dj c61;let c18:=Dh v O;let c17:=Dh v O->c50=e;let c62:=c36+c56;let c63:=Dz v (Dz c61 true (Dn c62 c60)) false;let c64:=r.2.2+1;
  aFF g a b f.2.1 f.1 f.2.2 r.1 r.2.1 r.2.2->Dk r.2.1=e/\L7 c48 ((c48->0<=f.2.2)/\(c48->f.2.2<A)/\L7 c48 ((Dh true c48->c48)/\(c49->c50=e/\0<=u.2.2.1/\u.2.2.1<c51/\c50=e/\c50=e/\0<=r.2.2/\r.2.2<Ea c53/\c50=e/\c53=c53/\L7 v (c19/\(v->0<=u.2.1)/\(v->u.2.1<c51)/\L4 v (c19/\L7 v (c19/\(v->0<=r.2.2)/\(v->r.2.2<Ea c59)/\L4 v (c19/\(v->c59=c59)/\L7 v (L7 c18 ((Dh v O->0<=f.2.2)/\(Dh v O->f.2.2<A)/\Q4 c18 (c17/\(Dh v O->0<=u.2.2.1)/\(Dh v O->u.2.2.1<c51)/\L4 c18 (c17/\L7 c18 (c17/\(Dh v O->0<=r.2.2)/\(Dh v O->r.2.2<Ea c53)/\L4 c18 (c17/\(Dh v O->c53=c53)/\L7 c18 ((Dh v O->inR .i64 c62)/\L7 c18 (c17/\(Dh v O->0<=u.2.1)/\(Dh v O->u.2.1<c51)/\L4 c18 (c17/\L7 c18 (c17/\(Dh v O->0<=r.2.2)/\(Dh v O->r.2.2<Ea c59)/\L4 c18 (c17/\(Dh v O->c59=c59)/\L7 c18 (L4 v ((v->Dh v O->Dh v O)/\(Dh true v->v)/\(c63->c50=e/\0<=u.2.1/\u.2.1<c51/\c50=e/\0<=f.2.2/\f.2.2<A/\c50=e/\0<=u.2.2.1/\u.2.2.1<c51/\c50=e/\c50=e/\0<=r.2.2/\r.2.2<Ea c53/\c50=e/\c53=c53/\inR .i64 c62/\c50=e/\0<=r.2.2/\r.2.2<Ea c59/\c50=e/\c59=c59/\inR .i64 c64/\∃(y:Bool×Lj×Int),aFF g a b f.2.1 f.1 f.2.2 y.1 y.2.1 y.2.2/\(Q3 g Z0 e j (true=y.1/\Q2 f.2.2 u.2.1 u.2.2.1 (c64=y.2.2/\L3 f.2.2 i L c10 c29 i L f.2.2 u (T5 u.2 u.2.1 i L f.2.2 u u.2.2 u.2.2.1 (Em r.2.1 c38 (Em c58 c55 c62)=y.2.1/\True)))))/\Dc (h-y.2.2)<Dc (h-r.2.2))/\
  (c63=false->inR .i64 c64/\∃(y:Bool×Lj×Int),aFF g a b f.2.1 f.1 f.2.2 y.1 y.2.1 y.2.2/\(Q3 g Z0 e j (r.1=y.1/\Q2 f.2.2 u.2.1 u.2.2.1 (c64=y.2.2/\L3 f.2.2 i L c10 c29 i L f.2.2 u (T5 u.2 u.2.1 i L f.2.2 u u.2.2 u.2.2.1 (r.2.1=y.2.1/\True)))))/\Dc (h-y.2.2)<Dc (h-r.2.2))))))))))))))))))))/\(c49=false->inR .i64 c39/\∃(y:Bool×Lj×Int),aGU g a b xa.2.1 y.1 y.2.1 y.2.2/\(Q3 g Z0 e j (r.1=y.1/\c39=y.2.2/\r.2.1=y.2.1/\True))/\Dc (c10-y.2.2)<Dc (c10-f.2.2)))))/\(c29=false->∃(y:Bool×Lj×Int),aGV g a b y.1 y.2.1/\(Q3 g Z0 e j (f.1=y.1/\f.2.1=y.2.1/\True))/\muB y.1 y.2.1<muB xa.1 xa.2.1))/\(xa.1=false->L5 g Z0 (Dk xa.2.1=e/\Q3 xa.2.1 j xa.1 xa.1 (xa.2.1=c4/\True))))))) aJX λhp=>?_
 refine Z9 ?_;simp only[qc,Dh,Eu,Dj,dM cs V T G L X];have cl:(pi (-1) G.length G.length).length=G.length:=by rw[vo];exact qR _
 have dl:∀x:Int,(nG G.length x).length=G.length:=λx=>by unfold nG;rw[Mp.fH];exact qR _
 have dr:∀x o:Int,0<=o->o<G.length->((nG G.length x).getD o.toNat []).length=G.length:=λx o o0 o1=>(Mp.iG (GM x) G.length).row o o0 o1;rw[cl];refine⟨hp,λh=>by unfold aM;rw[h];rfl,λhr=>?_⟩;have hs:=(kp.1 hr).2;have q12:=(eJ cs V T G L X (aK cs V T G L X hs)).1;have l40:=(fV cs V T G L X (aK cs V T G L X hs)).2;have hcl:(aG (cs,V,T,G,L,X) a b).length=L.length:=by unfold aG;rw[hr];exact cE _ _ _
 refine⟨by show G.length<=1000000;omega,⟨0,⟨Z,.inr rfl⟩,rfl,?_⟩,λx hx=>⟨dl x,λhlt=>?_,λhge=>⟨hp,⟨(true,nG G.length x,0),⟨?_,λh=>by cases h⟩,rfl,rfl⟩,λy hy=>⟨λht=>⟨⟨(false,y.2.1,0),⟨hy.1,qH _,qI _,λ_=>⟨rfl,λk d k0 k1=>(by have k1:k<0:=k1;omega)⟩,λh=>by cases h⟩,rfl,rfl,rfl⟩,λz hz=>⟨λhzl=>⟨hz.2.1,hzl,hz.2.1,hzl,⟨(z.1,z.2.1,0),⟨hz.1,qH _,qI _,.inl ⟨rfl,rfl,λe e0 e1=>(by have e1:e<0:=e1;omega)⟩⟩,rfl,rfl,rfl⟩,λw hw=>⟨hw.1.2.1,λ_=>hz.2.1,λ_=>Z,λhc=>?_,λhc=>?_⟩⟩,λhzl=>?_⟩⟩,λhf=>?_⟩⟩⟩⟩;have e:∀i j:Nat,GM 0 i j=-1:=λi j=>by unfold GM;rw[if_neg Z]
 unfold nG aI pi;simp only[e,List.map_const',vC];have x0:=hx.1;have r1:=dr x x x0 hlt;have l1:=dl x;refine⟨dl x,x0,Z,dl x,dl x,x0,Z,dl x,aE Z,x+1,⟨Z,.inl Z⟩,⟨rfl,?_⟩,Z⟩;unfold nG;rw[sY x0 hlt x0 hlt];refine dI λi j i0 i1 j0 j1=>?_;unfold GM;by_cases g:i=j;by_cases g2:i=x;rw[if_pos ⟨g2,Z⟩,if_pos ⟨g,Z⟩];rw[if_neg (λq=>g2 q.1)];by_cases g3:i<x;rw[if_pos ⟨g,g3⟩,if_pos ⟨g,Z⟩];rw[if_neg (λq=>g3 q.2),if_neg (λq=>by have:=q.2;omega)];rw[if_neg (λq=>g (by rw[q.1,q.2])),if_neg (λq=>g q.1),if_neg (λq=>g q.1)];have ex:x=G.length:=by have:=hx.1;have:=hx.2;omega
 rw[ex];exact Zr cs V T G L X hr
 .have lw:w.2.1.length=G.length:=hw.1.2.1;have rw_:∀o:Int,0<=o->o<G.length->(w.2.1.getD o.toNat []).length=G.length:=hw.1.2.2.1;obtain⟨o0,o1,t0,t1,hne,_⟩:=dd cs V T G L X hs hz.2.1 hzl;have rT:=rw_ _ t0 t1;have rO:=rw_ _ o0 o1;have e0:=hw.2.1;have i0:=hz.2.1;have hT:=hw.1.2.2.2.2.1 _ w.2.2 t0 t1 e0 hc.1;have hO:=hw.1.2.2.2.2.1 _ w.2.2 o0 o1 e0 hc.1;have hcnt:=cnt_le lw rw_;have hqq:G.length*G.length<=144:=Nat.mul_le_mul (show G.length<=12 by omega) (show G.length<=12 by omega);have hcr:0<(aG (cs,V,T,G,L,X) a b).getD z.2.2.toNat 0/\(aG (cs,V,T,G,L,X) a b).getD z.2.2.toNat 0<=1000000:=by
   have hc2:=hc.2;have e:aG (cs,V,T,G,L,X) a b=bM (cs,V,T,G,L,X) a b:=by unfold aG;rw[hr];rfl
   rw[e]at hc2 ⊢;rcases(iW cs V T G L X hr).2.2 z.2.2 i0 (by rw[cE];exact hzl)with g|g;exact(hc2 g).elim;exact g
  have hup:=aAL cs V T G L X hw.1 i0 hzl hc.2 e0 hc.1;unfold at2 at hT hO hup;have hin:inR .i64 ((aG (cs,V,T,G,L,X) a b).getD z.2.2.toNat 0+(w.2.1.getD (al (cs,V,T,G,L,X) z.2.2).2.2.1.toNat []).getD w.2.2.toNat 0):=aE Z;have hin2:inR .i64 (w.2.2+1):=aE Z;refine⟨lw,t0,Z,lw,lw,e0,Z,lw,?_⟩
  and_intros
  all_goals try first
   |exact λ_=>lw|exact λ_=>o0|exact λ_=>t0|exact λ_=>e0|exact λ_=>i0|exact λ_=>hin
   |(intro _;omega)
  intro h;have h1:0<=(w.2.1.getD (al (cs,V,T,G,L,X) z.2.2).2.2.1.toNat []).getD w.2.2.toNat 0:=h.1;have h2:=h.2;obtain⟨u1,u2,_⟩:=hup h1 h2;have hlt:sumW wPb (TE w.2.1 (al (cs,V,T,G,L,X) z.2.2).2.1 w.2.2 ((aG (cs,V,T,G,L,X) a b).getD z.2.2.toNat 0+(w.2.1.getD (al (cs,V,T,G,L,X) z.2.2).2.2.1.toNat []).getD w.2.2.toNat 0))<sumW wPb z.2.1:=by
   rcases hw.2.2.2 with⟨_,g2,_⟩|⟨_,g2⟩;rw[<- g2];exact u2;exact Nat.lt_trans u2 g2
  exact⟨lw,o0,Z,lw,i0,Z,lw,t0,Z,lw,lw,e0,Z,lw,hin,lw,e0,Z,lw,hin2,(true,TE w.2.1 (al (cs,V,T,G,L,X) z.2.2).2.1 w.2.2 ((aG (cs,V,T,G,L,X) a b).getD z.2.2.toNat 0+(w.2.1.getD (al (cs,V,T,G,L,X) z.2.2).2.2.1.toNat []).getD w.2.2.toNat 0),w.2.2+1),
   ⟨u1,by show 0<=w.2.2+1;omega,by show w.2.2+1<=(G.length:Int);omega,.inr ⟨rfl,hlt⟩⟩,⟨rfl,rfl,rfl⟩,by show((G.length:Int)-(w.2.2+1)).toNat<_;omega⟩
  intro h;have hstep:oV (cs,V,T,G,L,X) (aG (cs,V,T,G,L,X) a b) w.2.1 z.2.2 w.2.2:=by
   unfold oV at2;by_cases g:0<=(w.2.1.getD (al (cs,V,T,G,L,X) z.2.2).2.2.1.toNat []).getD w.2.2.toNat 0;obtain⟨h1,h2⟩:=h g;exact .inr (.inr ⟨Z,Z⟩);exact .inr (.inl Z)
  refine⟨hin2,(w.1,w.2.1,w.2.2+1),⟨hw.1,by show 0<=w.2.2+1;omega,by show w.2.2+1<=(G.length:Int);omega,?_⟩,⟨rfl,rfl,rfl⟩,by show((G.length:Int)-(w.2.2+1)).toNat<_;omega⟩;rcases hw.2.2.2 with⟨g1,g2,g3⟩|g;refine .inl ⟨g1,g2,λe x0 x1=>?_⟩;show oV (cs,V,T,G,L,X) _ w.2.1 z.2.2 e;have x1:e<w.2.2+1:=x1;by_cases q:e=w.2.2;rw[q];exact hstep;exact g3 e x0 Z;exact .inr g
 obtain⟨hz1,i0,i1,hzf,hzt⟩:=hz;obtain⟨hw1,e0,e1,hw2⟩:=hw;refine⟨aE Z,(w.1,w.2.1,z.2.2+1),⟨hw1,by show 0<=z.2.2+1;omega,by show z.2.2+1<=(L.length:Int);omega,λhwf=>?_,λhwt=>?_⟩,⟨rfl,rfl,rfl⟩,by show((L.length:Int)-(z.2.2+1)).toNat<_;omega⟩;have hwf:w.1=false:=hwf;rcases hw2 with⟨g1,g2,g3⟩|⟨g1,_⟩;obtain⟨h1,h2⟩:=hzf (by rw[<- g1];exact hwf);refine⟨by show w.2.1=y.2.1;rw[g2,h1],λk d k0 k1 d0 d1=>?_⟩;show oV (cs,V,T,G,L,X) _ w.2.1 k d;by_cases e:k=z.2.2;by_cases hd:d<w.2.2;rw[e];exact g3 d d0 hd;rw[e];exact .inl (hc (by have d1:d<G.length:=d1;omega));rw[g2];exact h2 k d k0 (by have k1:k<z.2.2+1:=k1;omega) d0 d1;rw[g1]at hwf;cases hwf;have hwt:w.1=true:=hwt;show sumW wPb w.2.1<sumW wPb y.2.1;rcases hw2 with⟨g1,g2,g3⟩|⟨g1,g2⟩;rw[g2];exact hzt (by rw[<- g1];exact hwt);cases hb:z.1 with
 |false=>rw[<- (hzf hb).1];exact g2|true=>have:=hzt hb;omega
 obtain⟨hz1,i0,i1,hzf,hzt⟩:=hz;have i1:z.2.2<=L.length:=i1;refine⟨(z.1,z.2.1,0),⟨hz1,λh k d k0 k1 d0 d1=>(hzf h).2 k d k0 (by have k1:k<L.length:=k1;omega) d0 d1⟩,⟨rfl,rfl⟩,?_⟩;show muB z.1 z.2.1<muB y.1 y.2.1;unfold muB;rw[ht];cases hb:z.1 with
 |false=>rw[(hzf hb).1];simp|true=>have:=hzt hb;simp;omega
 have he:=inv_eq cs V T G L X hy.1 (hy.2 hf);have hl:=hy.1.2.1;first
  |exact⟨hl,he⟩
  |exact⟨hl,hl,hl,he⟩
def nxR(n:Net)(c:Li)(b:Lj):Nat->Int->Int->Int|0,_,_=>-1|r+1,o,d=>if o≠d/\iK n c b o d ((n.2.2.2.2.1.length:Int)-(r+1))=true then(n.2.2.2.2.1.length:Int)-(r+1)else nxR n c b r o d
def nx2(n:Net)(c:Li)(b:Lj)(k o d:Int):Int:=nxR n c b ((n.2.2.2.2.1.length:Int)-k).toNat o d
def nxD(n:Net)(c:Li)(b:Lj)(i k o d:Int):Int:=if o=(al n i).2.1/\d<k then nx2 n c b i o d else nx2 n c b (i+1) o d
def nxT(n:Net)(a b i:Int):Lj:=aI (nx2 n (aG n a b) (aM n a b) i) n.2.2.2.1.length
def Iu(n:Net)(a b i k:Int):Lj:=aI (nxD n (aG n a b) (aM n a b) i k) n.2.2.2.1.length
def aFp(n:Net)(a b i:Int):Prop:=cZ n=true/\fh n a b=true/\-1<=i/\i<n.2.2.2.2.1.length
def QD(n:Net)(a b i k:Int):Prop:=aFp n a b i/\0<=i/\0<=k/\k<=n.2.2.2.1.length
def KQ9:Kt:=kOr 110 tY KQ8
def Yj(n:Net)(a b:Int):Ann:=⟨λe s=>match s.sig.T 9 with
 |.buf f _=>match e with
  |7=>some {α:=Int,inv:=λi=>aFp n a b i,st:=λi=>dD (put (flat s) [(10,.dat I i)]) f (.mat 37 3 I (nxT n a b (Dq i 1)) []),μ:=λi=>Dc (Dq i 1)}|12=>match s.sig.T 10 with
   |.dat (.int .i64) i=>some {α:=Int,inv:=λk=>QD n a b i k,st:=λk=>dD (put (flat s) [(13,.dat I k)]) f (.mat 37 3 I (Iu n a b i k) []),μ:=λk=>Dc (Di (Df n.2.2.2.1) k)}|_=>none
  |_=>none
 |_=>none,λe s=>match e with
 |16=>some (frz (IG s) s)|_=>none,λ_ _=>none⟩
abbrev tQ:=aj [.row N,.val I,.val I] (λ(n,_,_,_)=>cZ n=true) λ(n,a,b,_)=>.dat M (aT n a b)
def aKi:Kt:=kOr 50 tQ KQ9
def aJW:ai yv G0 KQ9:=af SL aJX
def LJ{n:Net}{c:Li}{b:Lj}{i o d:Int}(f:0<=i)(e:i<n.2.2.2.2.1.length):nx2 n c b i o d=if o≠d/\iK n c b o d i=true then i else nx2 n c b (i+1) o d:=by
 unfold nx2;rw[show((n.2.2.2.2.1.length:Int)-i).toNat=((n.2.2.2.2.1.length:Int)-(i+1)).toNat+1 by omega,nxR];rw[show(n.2.2.2.2.1.length:Int)-(((n.2.2.2.2.1.length:Int)-(i+1)).toNat+1:Int)=i by omega]
def aCz{n:Net}{c:Li}{b:Lj}{i o d:Int}(h:(n.2.2.2.2.1.length:Int)<=i):nx2 n c b i o d=-1:=by
 unfold nx2;rw[show((n.2.2.2.2.1.length:Int)-i).toNat=0 by omega];rfl
def UB{n:Net}{c:Li}{b:Lj}{o d:Int}(e:o≠d):∀r:Nat,r<=n.2.2.2.2.1.length->nxR n c b r o d=match((List.range n.2.2.2.2.1.length).drop (n.2.2.2.2.1.length-r)).find? λi:Nat=>iK n c b o d i with|some i=>(i:Int)|none=>-1
 |0,_=>by
  rw[yE (by simp)];rfl
 |r+1,h=>by
  have j:=UB (n:=n) (c:=c) (b:=b) e r Z;have f:n.2.2.2.2.1.length-(r+1)<(List.range n.2.2.2.2.1.length).length:=by rw[vC];omega
  rw[List.drop_eq_getElem_cons f,qBb,show n.2.2.2.2.1.length-(r+1)+1=n.2.2.2.2.1.length-r by omega,qAa,nxR];rw[show((n.2.2.2.2.1.length:Int)-((r:Int)+1))=((n.2.2.2.2.1.length-(r+1):Nat):Int) by omega];cases hb:iK n c b o d ((n.2.2.2.2.1.length-(r+1):Nat):Int)with
  |true=>rw[if_pos ⟨e,rfl⟩]|false=>rw[if_neg (λg=>by cases g.2)];exact j
def UA{n:Net}{c:Li}{b:Lj}{o:Int}:∀r:Nat,nxR n c b r o o=-1|0=>rfl|r+1=>by rw[nxR,if_neg (λg=>g.1 rfl)];exact UA r
def aFo(v:LC)(r j:LB)(h:Lo)(f:Ll)(u:Lk){a b o d:Int}(G:fh (v,r,j,h,f,u) a b=true)(o0:0<=o)(X:o<h.length)(d0:0<=d)(d1:d<h.length):nx2 (v,r,j,h,f,u) (aG (v,r,j,h,f,u) a b) (aM (v,r,j,h,f,u) a b) 0 o d=qw (v,r,j,h,f,u) (aG (v,r,j,h,f,u) a b) (aM (v,r,j,h,f,u) a b) o d:=by
 have x:=iW v r j h f u G;have z:aG (v,r,j,h,f,u) a b=bM (v,r,j,h,f,u) a b:=by unfold aG;rw[G];rfl
 rw[<- z]at x;unfold nx2 qw;by_cases e:o=d;rw[if_pos (.inl e),e];exact UA _;have O:=UB (n:=(v,r,j,h,f,u)) (c:=aG (v,r,j,h,f,u) a b) (b:=aM (v,r,j,h,f,u) a b) e f.length (qM _);rw[show((((v,r,j,h,f,u):Net).2.2.2.2.1.length:Int)-0).toNat=f.length by show((f.length:Int)-0).toNat=f.length;omega,O];rw[show((v,r,j,h,f,u):Net).2.2.2.2.1.length-f.length=0 from qBg _,qEc];split;rename_i i hi;have y:=qW.1 (List.mem_of_find?_eq_some hi);have y:i<f.length:=y;have L:iK (v,r,j,h,f,u) (aG (v,r,j,h,f,u) a b) (aM (v,r,j,h,f,u) a b) o d i=true:=qCm (p:=λi:Nat=>iK (v,r,j,h,f,u) (aG (v,r,j,h,f,u) a b) (aM (v,r,j,h,f,u) a b) o d i) hi;obtain⟨_,p2,V,T⟩:=iQ.1 L;have A:=x.2.2 i Z (by rw[x.2.1];show(i:Int)<f.length;omega);rw[if_neg (λg=>by
  rcases g with g|g;exact e g;rcases A with q|q;exact p2 q;omega)]
 unfold Ar;rw[hi];rename_i hi;split;rfl;unfold Ar;rw[hi]
def aCA(v:LC)(r h:LB)(e:Lo)(f:Ll)(u:Lk){a b x y:Int}(X:aS (v,r,h,e,f,u)=true)(G:0<=x)(A:x<f.length)(O:0<=y)(L:y<e.length)(z:(al (v,r,h,e,f,u) x).2.1≠y)(hb:iK (v,r,h,e,f,u) (aG (v,r,h,e,f,u) a b) (aM (v,r,h,e,f,u) a b) (al (v,r,h,e,f,u) x).2.1 y x=true):
  (Iu (v,r,h,e,f,u) a b x y).set (al (v,r,h,e,f,u) x).2.1.toNat (((Iu (v,r,h,e,f,u) a b x y).getD (al (v,r,h,e,f,u) x).2.1.toNat []).set y.toNat x)=Iu (v,r,h,e,f,u) a b x (y+1):=by
 obtain⟨V,T,_⟩:=dd v r h e f u X G A;unfold Iu;show(aI _ (e.length:Int)).set _ (((aI _ (e.length:Int)).getD _ _).set _ _)=aI _ (e.length:Int);rw[sY V T O L];refine dI λi j i0 i1 j0 j1=>?_;unfold nxD;by_cases g:i=(al (v,r,h,e,f,u) x).2.1;by_cases g2:j=y;rw[if_pos ⟨g,g2⟩,if_pos ⟨g,Z⟩,g,g2,LJ G A,if_pos ⟨z,hb⟩];rw[if_neg (λq=>g2 q.2)];by_cases g3:j<y;rw[if_pos ⟨g,g3⟩,if_pos ⟨g,Z⟩];rw[if_neg (λq=>g3 q.2),if_neg (λq=>by have:=q.2;omega)];rw[if_neg (λq=>g q.1),if_neg (λq=>g q.1),if_neg (λq=>g q.1)]
def YE(v:LC)(h f:LB)(u:Lo)(e:Ll)(r:Lk){a b x y:Int}(A:0<=x)(z:x<e.length)(G:¬((al (v,h,f,u,e,r) x).2.1≠y/\iK (v,h,f,u,e,r) (aG (v,h,f,u,e,r) a b) (aM (v,h,f,u,e,r) a b) (al (v,h,f,u,e,r) x).2.1 y x=true)):Iu (v,h,f,u,e,r) a b x y=Iu (v,h,f,u,e,r) a b x (y+1):=by
 unfold Iu;refine dI λi j V T O L=>?_;unfold nxD;by_cases g:i=(al (v,h,f,u,e,r) x).2.1;by_cases g2:j=y;rw[if_neg (λq=>by have:=q.2;omega),if_pos ⟨g,Z⟩,g,g2,LJ (i:=x) A z,if_neg G];by_cases g3:j<y;rw[if_pos ⟨g,g3⟩,if_pos ⟨g,Z⟩];rw[if_neg (λq=>g3 q.2),if_neg (λq=>by have:=q.2;omega)];rw[if_neg (λq=>g q.1),if_neg (λq=>g q.1)]
def UC(u:LC)(f e:LB)(r:Lo)(g:Ll)(h:Lk)(a b x:Int):nxT (u,f,e,r,g,h) a b (x+1)=Iu (u,f,e,r,g,h) a b x 0:=by
 unfold nxT Iu;refine dI λi j A z y v=>?_;unfold nxD;rw[if_neg (λq=>by have:=q.2;omega)]
def aCB(v:LC)(r h:LB)(f:Lo)(e:Ll)(u:Lk){a b x:Int}(z:0<=x)(y:x<e.length):Iu (v,r,h,f,e,u) a b x f.length=nxT (v,r,h,f,e,u) a b x:=by
 unfold nxT Iu;refine dI λi j O L G A=>?_;unfold nxD;by_cases g:i=(al (v,r,h,f,e,u) x).2.1;rw[if_pos ⟨g,A⟩];rw[if_neg (λq=>g q.1),LJ (i:=x) z y,if_neg (λq=>g (iQ.1 q.2).1.symm)]
def SE:eO 50 tQ:=ae λ(((L,z,v,f,g,G):Net),(a:Int),(b:Int),_)=>by
 refine zE (A:=(lvA [(7,[3,6,7,8,9,10,11,12,13]),(12,[3,6,7,8,9,10,11,12,13])] (Yj (L,z,v,f,g,G) a b))) (p:=let e:=(L,z,v,f,g,G);let c2:=Dj (fh e a b);let c3:=aT e a b;let A:=Df g;let c5:=A-1;let i:=aM e a b;let j:=aG e a b;let c8:=Df f;let c9:=pi (-1) c8 c8;let O:=Dk c9;let c12:=Df j;let T:=Df i;(cZ e->cZ e/\(c2->c3=Dt (Li)/\True)/\(c2=false->cZ e/\cZ e/\aGH e/\inR .i64 c5/\(∃x,aFp e a b x/\T2 e Z0 i j O (c5=x/\c9=nxT e a b (x+1)/\True))/\∀(x:Int),let c14:=Ed x 0;let h:=(Du g (Dc x) (ByteArray.mk #[],(0:Int),(0:Int),(0:Int),(0:Int),(0:Int))).2;let c18:=x+1;let c19:=nxT e a b c18;let c20:=Du j (Dc x) 0;let c21:=Dw c20 (-1099511627776);let c22:=Du i (Dc h.2.1) [];let c23:=Dc h.1;let c24:=Du i c23 [];let c25:=x-1;aFp e a b x->(c14->0<=x/\x<A/\0<=x/\x<A/\(∃r,QD e a b x r/\T5 e Z0 i j O x h.1 h.2.1 (0=r/\c19=Iu e a b x r/\True))/\∀(r:Int),let X:=Iu e a b x r;let V:=Dz c21 (Dw h.1 r) false;let c28:=Du c22 (Dc r) 0;let u:=Dz V (Ed c28 0) false;let c30:=c20+c28;let c31:=Dz u (Eb c30 (Du c24 (Dc r) 0)) false;let c32:=Dk X;let c33:=Du X c23 [];let c34:=Dk c33;let c35:=r+1;
  QD e a b x r->Dk X=O/\(Dn r (Int.ofNat O)->0<=x/\x<c12/\L7 c21 ((Dh true c21->c21)/\L7 V ((V->0<=h.2.1)/\(V->h.2.1<T)/\Q4 V ((V->0<=r)/\(V->r<Df c22)/\L7 V ((Dh true V->V)/\L7 u ((u->0<=x)/\(u->x<c12)/\Q4 u ((u->0<=h.2.1)/\(u->h.2.1<T)/\Q4 u ((u->0<=r)/\(u->r<Df c22)/\Q4 u ((u->inR .i64 c30)/\L7 u ((u->0<=h.1)/\(u->h.1<T)/\Q4 u ((u->0<=r)/\(u->r<Df c24)/\Q4 u ((Dh true u->u)/\(c31->c32=O/\0<=h.1/\h.1<Ea c32/\c32=O/\c32=O/\0<=r/\r<Ea c34/\c32=O/\c34=c34/\inR .i64 c35/\∃y,QD e a b x y/\(T5 e Z0 i j O x h.1 h.2.1 (c35=y/\Em X c23 (Em c33 (Dc r) x)=Iu e a b x y/\True))/\Dc (c8-y)<Dc (c8-r))/\(c31=false->inR .i64 c35/\∃y,QD e a b x y/\(T5 e Z0 i j O x h.1 h.2.1 (c35=y/\X=Iu e a b x y/\True))/\Dc (c8-y)<Dc (c8-r))))))))))))))/\(Dn r (Int.ofNat O)=false->inR .i64 c25/\∃y,let c36:=y+1;aFp e a b y/\(T2 e Z0 i j O (c25=y/\X=nxT e a b c36/\True))/\Dc c36<Dc c18))/\(c14=false->Q3 e Z0 i j (Dk c19=O/\Q3 c19 x x c14 (c19=c3/\True)))))) aJW λhp=>?_
 refine Z9 ?_;simp only[qc,Dh,Eu,Dj,dM L z v f g G];have cl:(pi (-1) f.length f.length).length=f.length:=by rw[vo];exact qR _
 rw[cl];refine⟨hp,λh=>by unfold aT;rw[h];rfl,λhr=>?_⟩;have hs:=(kp.1 hr).2;have q12:=(eJ L z v f g G (aK L z v f g G hs)).1;have l40:=(fV L z v f g G (aK L z v f g G hs)).2;have hce:aG (L,z,v,f,g,G) a b=bM (L,z,v,f,g,G) a b:=by unfold aG;rw[hr];rfl
 have hbe:aM (L,z,v,f,g,G) a b=bf (L,z,v,f,g,G) (bM (L,z,v,f,g,G) a b):=by unfold aM;rw[hr];rfl
 have hcl:(aG (L,z,v,f,g,G) a b).length=g.length:=by rw[hce];exact cE _ _ _
 have sb:Mp.Sq f.length (aM (L,z,v,f,g,G) a b):=by rw[hbe];exact Mp.iG _ _
 have sd:∀x y:Int,Mp.Sq f.length (Iu (L,z,v,f,g,G) a b x y):=λx y=>Mp.iG _ _;have st:∀x:Int,Mp.Sq f.length (nxT (L,z,v,f,g,G) a b x):=λx=>Mp.iG _ _;refine⟨hp,hp,by show f.length<=1000000;omega,aE Z,⟨(g.length:Int)-1,⟨hp,hr,Z,by show(g.length:Int)-1<g.length;omega⟩,rfl,?_⟩,λx hx=>⟨λT=>?_,λhlt=>?_⟩⟩;have e:∀i j:Int,nx2 (L,z,v,f,g,G) (aG (L,z,v,f,g,G) a b) (aM (L,z,v,f,g,G) a b) ((g.length:Int)-1+1) i j=-1:=λi j=>aCz (by show(g.length:Int)<=_;omega);unfold nxT aI pi;simp only[e,List.map_const',vC]
 .have x1:x<g.length:=hx.2.2.2;obtain⟨o0,o1,t0,t1,_⟩:=dd L z v f g G hs T x1;refine⟨T,x1,T,x1,⟨0,⟨hx,T,qH _,qI _⟩,rfl,UC L z v f g G a b x⟩,λy hy=>⟨(sd x y).len,λhlt=>?_,λhge2=>?_⟩⟩
  .have y0:=hy.2.2.1;have rT:=sb.row _ t0 t1;have rO:=sb.row _ o0 o1;have bl:=sb.len;have dl:=(sd x y).len;have dO:=(sd x y).row _ o0 o1;have hcb:=(iW L z v f g G hr).2.2 x T (by rw[cE];exact x1);have hbb:=(aAm L z v f g G (iW L z v f g G hr) _ y t0 t1 y0 hlt).2;rw[<- hce]at hcb;rw[<- hbe]at hbb;unfold at2 at hbb;have hok:QD (L,z,v,f,g,G) a b x (y+1):=⟨hx,T,Z,by show y+1<=(f.length:Int);omega⟩;have hin:(aG (L,z,v,f,g,G) a b).getD x.toNat 0≠-1099511627776->inR .i64 ((aG (L,z,v,f,g,G) a b).getD x.toNat 0+((aM (L,z,v,f,g,G) a b).getD (al (L,z,v,f,g,G) x).2.2.1.toNat []).getD y.toNat 0):=λh=>by
    rcases hcb with q|q;exact(h q).elim;unfold inR;simp only;omega
   refine⟨T,Z,?_⟩
   and_intros
   all_goals try first
    |exact λ_=>t0|exact λ_=>o0|exact λ_=>y0|exact λ_=>T|exact λh=>hin h.1.1
    |(intro _;omega)
   intro h;have hT:=h.1.2;have hb:iK (L,z,v,f,g,G) (aG (L,z,v,f,g,G) a b) (aM (L,z,v,f,g,G) a b) (al (L,z,v,f,g,G) x).2.1 y x=true:=iQ.2 ⟨rfl,h.1.1.1,hT,h.2⟩;exact⟨dl,o0,Z,dl,dl,y0,Z,dl,aE Z,y+1,hok,⟨rfl,aCA L z v f g G hs T x1 y0 hlt h.1.1.2 hb⟩,Z⟩;intro h;refine⟨aE Z,y+1,hok,⟨rfl,YE L z v f g G T x1 λq=>?_⟩,Z⟩;obtain⟨_,p2,p3,p4⟩:=iQ.1 q.2;exact h ⟨⟨p2,q.1⟩,p3⟩ p4
  have ey:y=f.length:=by
   have:y<=f.length:=hy.2.2.2;omega
  refine⟨aE Z,x-1,⟨hp,hr,Z,by show x-1<(g.length:Int);omega⟩,⟨rfl,?_⟩,Z⟩;rw[ey,show x-1+1=x by omega];exact aCB L z v f g G T x1
 have ex:x=-1:=by have:=hx.2.2.1;omega
 have dl:=(st (x+1)).len;have he:nxT (L,z,v,f,g,G) a b (x+1)=aT (L,z,v,f,g,G) a b:=by
  rw[ex];unfold aT aCD nxT;rw[hr,if_pos rfl,<- hce];show aI _ (f.length:Int)=aI _ (f.length:Int);refine dI λi j i0 i1 j0 j1=>?_;rw[show(-1:Int)+1=0 by omega,aFo L z v f g G hr i0 i1 j0 j1,hbe,hce]
 first
  |exact⟨dl,he⟩
  |exact⟨dl,dl,he⟩
def RH:ai yv G0 aKi:=af SE aJW
def FO(c:Int×List Bool×Li)(d:Int):Prop:=aA c.1 c.2.1 c.2.2=true/\-900000<=d/\d<=900000
def YC(c:Int×List Bool×Li)(d k:Int):Prop:=FO c d/\0<=k/\k<=60/\cD c.2.1 c.2.2 d k=[]
def ZE(c:Int×List Bool×Li)(a b:Int):Prop:=aA c.1 c.2.1 c.2.2=true/\-900000<=a/\a<=900000/\-900000<=b/\b<=900000
def MX(c:Int×List Bool×Li)(a d:Int):Int:=((cD c.2.1 c.2.2 (a+1) (d-(a+1))).length:Int)
def aF5(c:Int×List Bool×Li)(a b d:Int):Prop:=ZE c a b/\b<=a+2000/\a+1<=d/\(d<=b+1\/d=a+1)
def aIw(n:Net)(o m t:Int):Prop:=jm n o/\0<=m/\m<=1439/\-1000000<=t/\t<=100000000
def WX(n:Net)(nx:Lj)(o to t:Int):Prop:=cZ n=true/\Az n nx o to t
def aFs(c:Int×List Bool×Li)(d:Int):Ann:=Z8 2 Int (YC c d) (λs k=>put s [(6,.dat I k)]) λk=>Dc (Di 60 k)
def aIN(c:Int×List Bool×Li)(a b:Int):Ann:=Z8 5 Int (aF5 c a b) (λs d=>put s [(7,.dat I (MX c a d)),(8,.dat I d)]) λd=>Dc (Di (Dq b 1) d)
abbrev rA:=aj [.val I,.val I] (λ_=>True) λ(i,l,_)=>.dat .bool (cY i l)
abbrev C9:=aj [.val I] (λ_=>True) λ(t,_)=>.dat .bool (bS t)
abbrev uc:=aj [.row N,.val I,.val I] (λ(n,o,t,_)=>iq n o t) λ(n,o,t,_)=>.dat I (aF n o t)
abbrev y9:=aj [.row C,.val I] (λ(c,d,_)=>FO c d) λ(c,d,_)=>.tup [.dat I (ff c.2.1 c.2.2 d),.dat I (d5 c.2.1 c.2.2 d)]
abbrev ui:=aj [.row C,.val I,.val I] (λ(c,a,b,_)=>ZE c a b) λ(c,a,b,_)=>.dat I (jd c.2.1 c.2.2 a b)
def KE1:Kt:=kOr 126 rA <|
 kOr 161 C9 <|
 kOr 164 uc <|
 kOr 269 y9 <|
 kOr 157 ui aKi
def aFy(n:Net)(nx:Lj):Ann:=⟨λb s=>match b with
 |4=>some {α:=Int,inv:=λk=>ql n nx k,st:=λk=>put s [(5,.dat I k)],μ:=λk=>Dc (Di (Df nx) k)}|9=>match s.sig.T 5 with
  |.dat (.int .i64) o=>some {α:=Int,inv:=λk=>H4 n o (Du nx (Dc o) []) k,st:=λk=>put s [(6,.dat I k)],μ:=λk=>Dc (Di (Df nx) k)}|_=>none
 |_=>none,λ_ _=>none,λ_ _=>none⟩
abbrev zc:=aj [.row C,.val I] (λ(c,d,_)=>FO c d) λ(c,d,_)=>.tup [.dat I (ff c.2.1 c.2.2 d),.dat I (d5 c.2.1 c.2.2 d)]
abbrev uf:=aj [.row N,.val M] (λ(_,nx,_)=>du nx) λ(n,nx,_)=>.dat .bool (l8 n nx)
abbrev ub:=aj [.row N,.val I,.val I,.val I] (λ(n,_)=>cZ n=true) λ(n,k,o,t,_)=>.dat .bool (Ba n k o t)
def KE2:Kt:=kOr 221 zc <|
 kOr 66 uf <|
 kOr 162 ub KE1
abbrev rB:=aj [.row N,.val I,.val I,.val I] (λ(n,o,m,t,_)=>aIw n o m t) λ(n,o,m,t,_)=>.tup [.dat I (jf (aB n o) m t),.dat I (mS (aB n o) m t)]
def KE3:Kt:=kOr 163 rB KE2
def Qj:eO 126 rA:=ae λ((i:Int),(l:Int),_)=>by
 refine zE (A:=az) (p:=let b:=Ed i 0;(True->L7 b ((Dh true b->b)/\Dz b (Dn i l) false=cY i l/\True))) RH λ_=>⟨λh _=>h,λh _=>h,λh=>by simpa[Dh]using h,?_,trivial⟩;unfold cY;simp only[Dz,Ed,Dn,kQ];by_cases h:0<=i<;>simp[h]
def aBH:eO 161 C9:=ae λ((t:Int),_)=>by
 refine zE (A:=az) (p:=let b:=Ed t 0;(True->L4 b ((Dh true b->b)/\Dz b (Ef t 2000000) false=bS t/\True))) RH λ_=>⟨λh _=>h,λh=>by simpa[Dh]using h,?_,trivial⟩;unfold bS;simp only[Dz,Ed,Ef,kQ];by_cases h:0<=t<;>simp[h]
def S0:eO 164 uc:=ae λ(((r,h,g,b,i,j):Net),(o:Int),(t:Int),_)=>by
 refine zE (A:=az) (p:=let e:=(r,h,g,b,i,j);let f:=(Du b (Dc o) (ByteArray.mk #[],(0:Int),(0:Int),(0:Int),(0:Int),(0:Int),Dt ByteArray)).2.2.2.2;let u:=f.1*f.2.1;let v:=t+u;(iq e o t->0<=o/\o<Df b/\0<=o/\o<Df b/\inR .i64 u/\inR .i64 v/\v=aF e o t/\True)) RH λu=>?_;obtain⟨f,z,y⟩:=u;obtain⟨x,v⟩:=lI r h g b i j (t:=t) f;have e:aF (r,h,g,b,i,j) o t=t+(b.getD o.toNat (⟨#[]⟩,0,0,0,0,0,[])).2.2.2.2.1*(b.getD o.toNat (⟨#[]⟩,0,0,0,0,0,[])).2.2.2.2.2.1:=rfl;refine Z9 ?_;exact⟨f.2.1,f.2.2,f.2.1,f.2.2,au Z,au Z,e.symm⟩
def IK{w:List Bool}{h:Li}{a:Int}:∀(j:Nat) {k:Int},0<=k->∃r,cD w h a (k+j)=cD w h a k++r
 |0,k,_=>⟨[],by simp⟩|j+1,k,e=>by
  obtain⟨r,b⟩:=IK (w:=w) (h:=h) (a:=a) j e;exact⟨r++_,by rw[show k+((j+1:Nat):Int)=k+j+1 by omega,jz Z,b,vO]⟩
def FQ{w:List Bool}{h:Li}{d k:Int}(e:0<=k)(i:k<60)(g:cD w h d k=[])(f:aX w h (d+k)=true):ff w h d=d+k/\d5 w h d=0:=by
 obtain⟨r,b⟩:=IK (w:=w) (h:=h) (a:=d) (59-k).toNat (k:=k+1) Z;rw[show k+1+((59-k).toNat:Int)=60 by omega,jz e,g,if_pos f]at b;have:qu w h d=some (d+k):=by unfold qu;rw[b];rfl
 unfold ff d5;rw[this];exact⟨rfl,rfl⟩
def FP{w:List Bool}{h:Li}{d:Int}(b:cD w h d 60=[]):ff w h d=0/\d5 w h d=20:=by
 have:qu w h d=none:=by unfold qu;rw[b];rfl
 unfold ff d5;rw[this];exact⟨rfl,rfl⟩
def XI:eO 269 y9:=ae λ(((z:Int),(w:List Bool),(h:Li)),(d:Int),_)=>by
 refine zE (A:=(lvA [(2,[1,2,4,5,6])] (aFs (z,w,h) d))) (p:=let b:=(z,w,h);(FO b d->(∃x,YC b d x/\L5 d b (0=x/\True))/\∀(x:Int),let e:=Dn x 60;let f:=aX w h (d+x);let g:=x+1;YC b d x->(e->inR .i64 (d+x)/\EG z w h (d+x)/\(f->inR .i64 (d+x)/\d+x=ff w h d/\0=d5 w h d/\True)/\(f=false->inR .i64 g/\∃y,YC b d y/\(L5 d b (g=y/\True))/\Dc (60-y)<Dc (60-x)))/\(e=false->0=ff w h d/\20=d5 w h d/\True))) RH λe=>?_;obtain⟨u,O,L⟩:=id e;refine Z9 ?_;refine⟨⟨e,Z,Z,rfl⟩,λx ⟨_,r,G,g⟩=>⟨λf=>⟨au Z,⟨u,dj Z Z⟩,λb=>?_,λb=>?_⟩,λv=>?_⟩⟩;obtain⟨j,i⟩:=FQ r f g b;exact⟨au Z,j.symm,i.symm⟩;refine⟨au Z,x+1,⟨e,Z,Z,?_⟩,rfl,Z⟩;show cD w h d (x+1)=[];rw[jz r,g,if_neg (by rw[b];decide)];rfl;have:x=60:=by omega
 subst this;obtain⟨j,i⟩:=FP g;exact⟨j.symm,i.symm⟩
def S8:eO 157 ui:=ae λ(((z:Int),(w:List Bool),(h:Li)),(a:Int),(b:Int),_)=>by
 refine zE (A:=(lvA [(5,[2,3,6,7,8])] (aIN (z,w,h) a b))) (p:=let e:=(z,w,h);let A:=Dj (aA z w h);let i:=Dj A;let G:=Dz A true (Dj (bG a));let j:=Dj G;let O:=Dz G true (Dj (bG b));let r:=Dj O;let L:=a+2000;let T:=Dz O true (Eh b L);let g:=jd w h a b;let f:=a+1;let u:=b+1;(ZE e a b->True/\L4 i ((i->True)/\L4 i ((Dh true i->i)/\L4 j ((j->True)/\L4 j ((Dh true j->j)/\L4 r ((r->inR .i64 L)/\L7 r ((Dh true r->r)/\(T->(-1:Int)=g/\True)/\(T=false->inR .i64 f/\(∃x,aF5 e a b x/\Q2 b e Q1 (0=MX e a x/\f=x/\True))/\∀(x:Int),let V:=MX e a x+1;let v:=x+1;aF5 e a b x->(Ef x b->EG z w h x/\(aX w h x->inR .i64 V/\inR .i64 v/\∃y,aF5 e a b y/\(Q2 b e Q1 (V=MX e a y/\v=y/\True))/\Dc (u-y)<Dc (u-x))/\(aX w h x=false->inR .i64 v/\∃y,aF5 e a b y/\(Q2 b e Q1 (MX e a x=MX e a y/\v=y/\True))/\Dc (u-y)<Dc (u-x)))/\(Ef x b=false->MX e a x=g/\True)))))))))) RH λr=>?_;obtain⟨j,a0,a1,b0,b1⟩:=id r;have j:aA z w h=true:=j;have ha:bG a=true:=dj Z Z;have hb:bG b=true:=dj Z Z;have G:∀x,a+1<=x->MX (z,w,h) a (x+1)=MX (z,w,h) a x+if aX w h x=true then 1 else 0:=λx hx=>by
  unfold MX;rw[show x+1-(a+1)=x-(a+1)+1 by omega,jz Z,show a+1+(x-(a+1))=x by omega];split<;>simp
 have bd:∀x,MX (z,w,h) a x<=(x-(a+1)).toNat:=λx=>by
  unfold MX cD;have:=zU (λd=>aX w h d) ((List.range (x-(a+1)).toNat).map λ(i:Nat)=>a+1+(i:Int));rw[vG,vC]at this;exact Int.ofNat_le.2 this
 refine Z9 ?_;simp only[qc,j,ha,hb,xU,false_or,false_and];refine⟨au Z,λhg=>?_,λV=>⟨au Z,⟨a+1,⟨r,Z,Z,.inr rfl⟩,?_,rfl⟩,λx ⟨_,_,v,O⟩=>⟨λT=>⟨⟨j,dj Z Z⟩,λu=>?_,λu=>?_⟩,λX=>?_⟩⟩⟩;unfold jd;rw[if_neg Z];unfold MX cD;rw[Int.sub_self];rfl;have e:=G x v;rw[if_pos u]at e;have:=bd x;exact⟨au (by unfold MX at *;omega),au Z,x+1,⟨r,Z,Z,.inl Z⟩,⟨e.symm,rfl⟩,Z⟩;have e:=G x v;rw[if_neg (by rw[u];decide),qDq]at e;exact⟨au Z,x+1,⟨r,Z,Z,.inl Z⟩,⟨e.symm,rfl⟩,Z⟩;unfold jd MX;rw[if_pos Z];rcases O with h1|h1;rw[show x-(a+1)=b-a by omega];unfold cD;rw[show(x-(a+1)).toNat=0 by omega,show(b-a).toNat=0 by omega]
def aG9:ai yv G0 KE1:=af Qj<|af aBH<|af S0<|af XI<|af S8 RH
def XK:eO 221 zc:=ae λ(((z:Int),(w:List Bool),(h:Li)),(d:Int),_)=>by
 refine zE (A:=az) (p:=let e:=Dj (aA z w h);let b:=Dj e;let f:=Dz e true (Dj (bG d));(FO (z,w,h) d->True/\L4 b ((b->True)/\L4 b ((Dh true b->b)/\(f->0=ff w h d/\1=d5 w h d/\True)/\(f=false->FO (z,w,h) d/\T7 (ff w h d) (d5 w h d)))))) aG9 λe=>?_;obtain⟨b,i,f⟩:=id e;have b:aA z w h=true:=b;have hd:bG d=true:=dj Z Z;refine Z9 ?_;simp only[qc,b,hd];exact⟨λg=>by rcases g with g|g<;>contradiction,e⟩
def S4:eO 66 uf:=ae λ(((cs,V,T,z,v,X):Net),(nx:Lj),_)=>by
 refine zE (A:=(lvA [(4,[1,2,4,5,6,7]),(9,[1,2,4,5,6,7])] (aFy (cs,V,T,z,v,X) nx))) (p:=let G:=Df nx;let i:=Dw G (Df z);let f:=(cs,V,T,z,v,X);let h:=l8 f nx;let j:=Df v;(du nx->(i->false=h/\True)/\(i=false->(∃x,ql f nx x/\L5 nx f (0=x/\True))/\∀(x:Int),let A:=Dn x G;let g:=Du nx (Dc x) [];let L:=Df g;let c8:=Dw L G;let O:=x+1;ql f nx x->(A->0<=x/\x<Df nx/\(c8->false=h/\True)/\(c8=false->(∃b,H4 f x g b/\Q2 nx f x (0=b/\True))/\∀(b:Int),let c10:=Dn b G;let u:=Du g (Dc b) 0;let e:=Dw u (-1);let c13:=Dj (cY u j);let r:=Dj c13;let c18:=Dh e r;let c14:=Dz e (Dz c13 true (Dw (Du v (Dc u) (ByteArray.mk #[],(0:Int),(0:Int),(0:Int),(0:Int),(0:Int))).2.1 x)) false;let c15:=b+1;H4 f x g b->(c10->0<=x/\x<Df nx/\0<=b/\b<L/\L4 e (Q4 e ((e->True)/\L7 e (Q4 c18 ((Dh e r->0<=u)/\(Dh e r->u<j)/\L4 c18 (Q4 c18 (L4 e ((e->Dh e r->Dh e r)/\(Dh true e->e)/\(c14->false=h/\True)/\(c14=false->inR .i64 c15/\∃y,H4 f x g y/\(Q2 nx f x (c15=y/\True))/\Dc (Df nx-y)<Dc (Df nx-b))))))))))/\(c10=false->inR .i64 O/\∃y,ql f nx y/\(L5 nx f (O=y/\True))/\Dc (Df nx-y)<Dc (Df nx-x))))/\(A=false->true=h/\True)))) aG9 λhf=>?_;refine Z9 ?_;obtain⟨hf1,hf2⟩:=id hf;have hr:∀x:Int,0<=x->x<nx.length->(nx.getD x.toNat []).length<=1000000:=λx h0 h1=>hf2 _ (by
  rw[qA,qB Z,qK];exact wL _)
 have hct:∀x:Int,0<=x->((x.toNat:Nat):Int)=x:=λx h=>Z;have bad:∀x:Int,ql (cs,V,T,z,v,X) nx x->x<nx.length->rowOk (cs,V,T,z,v,X) x (nx.getD x.toNat [])=false->false=l8 (cs,V,T,z,v,X) nx:=λx e f hb=>by
  refine(kD.2 λht=>?_).symm;have:=(pu e.2.2.1).1 ht x.toNat (by have:=e.1;omega);rw[hct x e.1,hb]at this;cases this
 refine⟨λhne=>?_,λhe=>⟨⟨qH _,Z,he,λi h=>Z⟩,λx e=>⟨λf=>⟨e.1,f,λg=>?_,λg=>⟨⟨qH _,Z,g.trans he,λi h=>Z⟩,λy L=>⟨λhlty=>⟨e.1,f,L.1,Z,λh=>(ot.1 h.2).1,λh=>(ot.1 h.2).2,λhc=>?_,λhc=>?_⟩,λhgey=>?_⟩⟩⟩,λhge=>?_⟩⟩⟩;unfold l8;rw[vF hne];rfl;refine bad x e f ?_;unfold rowOk;rw[vF (by show ¬((nx.getD x.toNat []).length:Int)=z.length;omega)];rfl;refine bad x e f ?_;refine kD.2 λht=>?_;have O:=(qm (n:=(cs,V,T,z,v,X)) (g.trans he)).1 ht y.toNat (by have:=L.1;omega);unfold br at O;simp only[yH,qC,qE]at O;obtain⟨h3,h4⟩:=hc;rcases O with O|⟨O,h5⟩;exact h3 O;rcases h4 with h4|h4;rw[h4]at O;cases O;exact h4 h5;have h1:=hr x e.1 f;refine⟨au (by have:=L.1;omega),y+1,⟨by have:=L.1;omega,Z,g.trans he,λi hi=>?_⟩,rfl,by have:=L.1;omega⟩;by_cases h:(i:Int)<y;exact L.2.2.2 i h;have:i=y.toNat:=by have:=L.1;omega
 rw[this];unfold br;simp only[yH,qC,qE];by_cases h1:(nx.getD x.toNat []).getD y.toNat 0=-1;exact .inl h1;exact .inr (hc h1);refine⟨au (by have:=e.1;omega),x+1,⟨by have:=e.1;omega,Z,he,λi hi=>?_⟩,rfl,by have:=e.1;omega⟩;by_cases h:(i:Int)<x;exact e.2.2.2 i h;have:i=x.toNat:=by have:=e.1;omega
 rw[this,hct x e.1];exact(qm (n:=(cs,V,T,z,v,X)) (g.trans he)).2 λj hj=>L.2.2.2 j Z;exact((pu he).2 λi hi=>e.2.2.2 i Z).symm
def SZ:eO 162 ub:=ae λ(((i,g,f,e,h,b):Net),(k:Int),(o:Int),(t:Int),_)=>by
 refine zE (A:=az) (p:=let v:=(i,g,f,e,h,b);let j:=aS v;let r:=Dz j (cY k (Df b)) false;let u:=Dz r (cY o (Df e)) false;(cZ v->cZ v/\L4 j (Q4 j ((j->True)/\(Dh true j->j)/\L4 r (Q4 r ((r->True)/\(Dh true r->r)/\L4 u ((u->True)/\(Dh true u->u)/\Dz u (bS t) false=Ba v k o t/\True))))))) aG9 λj=>?_;refine Z9 ?_;refine⟨j,?_⟩;unfold Ba;cases aS (i,g,f,e,h,b)<;>simp[Bool.and_assoc]
def aJ7:ai yv G0 KE2:=af XK<|af S4<|af SZ aG9
def Qk:eO 163 rB:=ae λ(((i,r,j,g,u,v):Net),(o:Int),(m:Int),(t:Int),_)=>by
 refine zE (A:=az) (p:=let z:=(i,r,j,g,u,v);let y:=(Du g (Dc o) (ByteArray.mk #[],(0:Int),(0:Int),(0:Int),(0:Int),(0:Int),Dt ByteArray)).2.2.1;let e:=Du i (Dc y) ((0:Int),Dt Bool,Dt Int);let c8:=Eh (ID e.1 t) m;let h:=bE e.1 t;let f:=h+1;let A:=d5 e.2.1 e.2.2 f;let V:=Dw A 0;let X:=aB z o;let x:=jf X m t;let b:=mS X m t;let T:=ff e.2.1 e.2.2 f;let O:=d5 e.2.1 e.2.2 h;let L:=Dw O 0;let G:=ff e.2.1 e.2.2 h;(aIw z o m t->0<=o/\o<Df g/\0<=y/\y<Df i/\Q3 1 0 1 0 (dK e.1 e.2.1 e.2.2 t/\(c8->inR .i64 f/\L5 1 0 (FO e f/\(V->0=x/\A=b/\True)/\(V=false->L5 1 0 (jk e.1 e.2.1 e.2.2 T m/\dE e.1 T m=x/\0=b/\True))))/\(c8=false->L5 1 0 (FO e h/\(L->0=x/\O=b/\True)/\(L=false->L5 1 0 (jk e.1 e.2.1 e.2.2 G m/\dE e.1 G m=x/\0=b/\True))))))) aJ7 λhp=>?_;obtain⟨ho,m0,m1,t0,t1⟩:=id hp;obtain⟨X,V,hv,_⟩:=fJ i r j g u v ho;have eC:i.getD (g.getD o.toNat (⟨#[]⟩,0,0,0,0,0,[])).2.2.1.toNat (0,[],[])=aB (i,r,j,g,u,v) o:=rfl;refine Z9 ?_;simp only[qc,eC];have hP:MH (aB (i,r,j,g,u,v) o) m t:=⟨hv,Z,Z,Z,Z⟩;obtain⟨b1,b2⟩:=VJ hP;generalize aB (i,r,j,g,u,v) o=c at *;obtain⟨z,w,h⟩:=c;simp only at *;have x:∀d,d=d0F (z,w,h) m t->FO (z,w,h) d/\(¬d5 w h d=0->(0:Int)=jf (z,w,h) m t/\d5 w h d=mS (z,w,h) m t)/\(d5 w h d=0->jk z w h (ff w h d) m/\dE z (ff w h d) m=jf (z,w,h) m t/\(0:Int)=mS (z,w,h) m t):=by
  rintro d rfl;refine⟨⟨hv,Z,Z⟩,λy=>⟨(if_neg y).symm,rfl⟩,λy=>?_⟩;obtain⟨X,V,q3⟩:=qt y;exact⟨⟨hv,dj Z Z,m0,Z⟩,(if_pos y).symm,y.symm⟩
 refine⟨ho.2.1,ho.2.2,X,V,⟨hv,Z,Z⟩,λhlt=>?_,λhge=>?_⟩;have e:bE z t+1=d0F (z,w,h) m t:=(if_pos hlt).symm;obtain⟨X,V,q3⟩:=x _ e;exact⟨au Z,X,V,q3⟩;have e:bE z t=d0F (z,w,h) m t:=(if_neg hge).symm;exact x _ e
def aJe:ai yv G0 KE3:=af Qk aJ7
def M5{n:Net}{k o t:Int}:Ba n k o t=true↔(0<=k/\k<n.2.2.2.2.2.length)/\(0<=o/\o<n.2.2.2.1.length)/\(0<=t/\t<=2000000)/\aS n=true:=by
 unfold Ba cY bS;simp only[qC,qE,qCi]
abbrev uh:=aj [.row N,.val I,.val I,.val I] (λ(n,_)=>cZ n=true) λ(n,k,o,t,_)=>.tup [.dat I (aAD n k o t),.dat I (WG n k o t)]
def S7:eO 118 uh:=ae λ(((r,g,f,j,i,e):Net),(k:Int),(o:Int),(t:Int),_)=>by
 refine zE (A:=az) (p:=let b:=(r,g,f,j,i,e);let v:=Dj (Ba b k o t);let x:=aAD b k o t;let y:=WG b k o t;let h:=(Du e (Dc k) (ByteArray.mk #[],(0:Int),(0:Int))).2.2;let u:=aF b o t;let z:=aB b o;(cZ b->cZ b/\(v->0=x/\1=y/\True)/\(v=false->0<=k/\k<Df e/\iq b o t/\aIw b o h u/\jf z h u=x/\mS z h u=y/\True))) aJe λx=>?_;have z:(e.getD k.toNat (⟨#[]⟩,0,0)).2.2=(bC (r,g,f,j,i,e) k).2.2:=rfl;refine Z9 ?_;simp only[qc,z];refine⟨x,λh=>?_,λh=>?_⟩;unfold aAD WG;rw[h];exact⟨rfl,rfl⟩;obtain⟨u,y,O,v⟩:=M5.1 h;have b:jm (r,g,f,j,i,e) o:=⟨aK r g f j i e v,y⟩;obtain⟨_,c1,c2⟩:=nJ r g f j i e b.1 (k:=k) u;obtain⟨L,G⟩:=lI r g f j i e (t:=t) b;refine⟨u.1,u.2,⟨b,Z,Z⟩,⟨b,c1,c2,Z,Z⟩,?_⟩;unfold aAD WG;rw[h];exact⟨rfl,rfl⟩
end Go.Eng.Sv
