/- PeWa2f PeWa3f PeWa4f PeWa5f PeWa6f PeCo1f PeMxf PeTt3f PeTt4f PeTt7f PeTt8f PeRo2f PeCo2f PeCo3f PeCo4f PeCo5f PeCo6f PeCo7f -/
import Derived.Test.YtdeeijhmpjbfcaaGreatDoorECMatE
import Derived.Test.YtdeeijhmpjbfcaaGreatDoorECMatF
set_option linter.all false
set_option maxRecDepth 100000
noncomputable section
namespace Go.Eng.Sv
open Go.Proofs
def jd(w:List Bool)(h:Li)(a b:Int):Int:=if b<=a+2000 then((cD w h (a+1) (b-a)).length:Int)else -1
def countP(z:Int)(w:List Bool)(h:Li)(a b:Int):Prop:=aA z w h=true/\bG a=true/\bG b=true
def R2(k:Nat)(l:Li):Prop:=k<=l.length/\l.length<=100000
def iE(x:Int):Bool:=decide (-1<=x/\x<=65518)
def jt(b x:Int):Bool:=iE x
def sgR(g:Int->Int->Bool)(m o:Int)(b:Li):Bool:=decide ((b.length:Int)=m)&&b.all (g o)
def sgF(g:Int->Int->Bool)(t:Lj)(m:Int):Bool:=decide ((t.length:Int)=m)&&(List.range t.length).all λi=>sgR g m i (t.getD i [])
def Kx(g:Int->Int->Bool)(t:Lj)(m k:Int):Prop:=0<=k/\k<=t.length/\(t.length:Int)=m/\∀i:Nat,(i:Int)<k->sgR g m i (t.getD i [])=true
def oM(g:Int->Int->Bool)(b:Li)(m o k:Int):Prop:=0<=k/\k<=b.length/\(b.length:Int)=m/\∀i:Nat,(i:Int)<k->g o (b.getD i 0)=true
def jh(p:Plan):Prop:=du p.2.2.1/\p.2.2.2.length<=1000000/\∀t∈p.2.2.2,du t
def lJ(p:Plan):Bool:=decide (0<=p.1/\p.1<p.2.1/\p.2.1<=600/\p.2.1-p.1<=60)
def oP(n:Net)(p:Plan):Bool:=decide ((p.2.2.2.length:Int)=n.2.2.2.2.2.length)&&p.2.2.2.all λt=>sgF jt t n.2.2.2.1.length
def jg(n:Net)(p:Plan):Bool:=lJ p&&(l8 n p.2.2.1&&oP n p)
def uw(n:Net)(p:Plan)(k:Int):Prop:=0<=k/\k<=p.2.2.2.length/\lJ p=true/\l8 n p.2.2.1=true/\(p.2.2.2.length:Int)=n.2.2.2.2.2.length/\∀i:Nat,(i:Int)<k->sgF jt (p.2.2.2.getD i []) n.2.2.2.1.length=true
def aF0(w:List Bool)(h:Li)(a b:Int):Ann:=Z8 5 Nat (λk=>R2 k (cD w h (Dq a 1) (Di b a))) (λs k=>dD (flat s) 0 (.var [.dat I (Ea k)])) λk=>k
abbrev I8:=aj [.val I,.val I] (λ_=>True) λ(o,x,_)=>.dat .bool (jt o x)
abbrev CP:=aj [.ptr N] (λ_=>True) λ(n,_)=>.fn 206 [.ipv (.ip N n)]
abbrev CQ:=aj [.val I,.val I,.bp N] (λ_=>True) λ(o,x,n,_)=>.dat .bool (br n o x)
def KW4:Kt:=kOr 142 I8 <|
 kOr 141 CP <|
 kOr 206 CQ <|
 kOr 150 (aj [.row C,.val I,.val I] (λ(c,a,b,_)=>countP c.1 c.2.1 c.2.2 a b) λ(c,a,b,_)=>.dat I (jd c.2.1 c.2.2 a b)) KW3
def sgA(g:Int->Int->Bool)(t:Lj)(m:Int):Ann:=⟨λb s=>match b with
 |4=>some {α:=Int,inv:=λk=>Kx g t m k,st:=λk=>put s [(17,.dat I k)],μ:=λk=>Dc (Di (Df t) k)}|9=>match s.sig.T 17,s.sig.T 26 with
  |.dat (.int .i64) o,.dat (.sl (.int .i64)) row=>some {α:=Int,inv:=λk=>oM g row m o k,st:=λk=>put s [(28,.dat I k)],μ:=λk=>Dc (Di (Df row) k)}|_,_=>none
 |_=>none,λ_ _=>none,λ_ _=>none⟩
def KW5:Kt:=kOr 140 (aGR (aj [.val M,.val I,.fnb 206 N] (λ(t,_,_,_)=>du t) λ(t,m,n,_)=>.dat .bool (sgF (br n) t m)) (aj [.val M,.val I,.fn0 142] (λ(t,_,_)=>du t) λ(t,m,_)=>.dat .bool (sgF jt t m))) KW4
def aIG(n:Net)(p:Plan):Ann:=Z8 7 Int (uw n p) (λs k=>put s [(74,.dat I k)]) λk=>Dc (Di (Df p.2.2.2) k)
def TN(z:Int)(w:List Bool)(h:Li)(a b:Int):ah yv G0 150 [cal z w h,.dat I a,.dat I b] [] ⟨countP z w h a b,.dat I (jd w h a b),[]⟩:=by
 refine zF (c:=aJB KR1) (A:=(aF0 w h a b)) aI6 aGw hm (p:=let i:=Dj (aA z w h);let v:=Dj i;let r:=Dz i true (Dj (bG a));let A:=Dj r;let u:=Dz r true (Dj (bG b));let G:=Dj u;let O:=a+2000;let j:=Dz u true (Eh b O);let T:=jd w h a b;let e:=a+1;let f:=cD w h e (b-a);let L:=(z,w,h);true/\(countP z w h a b->True/\L4 v ((v->True)/\L4 v ((Dh true v->v)/\L4 A ((A->True)/\L4 A ((Dh true A->A)/\L4 G ((G->inR .i64 O)/\L7 G ((Dh true G->G)/\(j->(-1:Int)=T/\True)/\(j=false->L5 1 0 (inR .i64 e/\inR .i64 (b-a)/\Dk w=7/\Q7 w h e (b-a)/\(∃x,R2 x f/\x=0/\L3 z w h a b L Q1 1 0 (L3 0 z w h (aA z w h) i i r r (L3 u u j z w h a e b (T6 a (b-a) e (b-a) w L (0=Ea x/\True)))))/\(∀(x:Nat),let V:=Ea x+1;∀(y:Int),R2 x f->nB f x y->L5 1 0 (inR .i64 V/\L5 1 0 (∃g,R2 g f/\g=x+1/\L3 z w h a b L Q1 1 0 (L3 0 z w h (aA z w h) i i r r (L3 u u j z w h a e b (T6 a (b-a) e (b-a) w L (V=Ea g/\True)))))))/\∀(x:Nat),R2 x f->x=Dk f->L5 1 0 (Ea x=T/\True))))))))))) ⟨rfl,λ⟨u,O,L⟩=>?_⟩;have G:=GZ u;have ha':=okd O;have X:=okd L;have hl:(cD w h (a+1) (b-a)).length<=(b-a).toNat:=by
  unfold cD;exact wJ (zU _ _) (by simp)
 simp only[u,O,L,qc,Dh,Eu,Dj,qd,Dt,Eb,Dw,Dn,Eh,Ef,Ed,Ez,Df,Eo,Dl,Dp,Es,Dy,Dx,Di,Dq,Ei,Fh,Dc,Ea,Dk,Ec,Ej,Du,Ey,Ew,Em,Ee,Fg,Fj,Fe,Et,En,Ep,Fb,yL,yX,qBk,qAx,gG,wG,xU,reduceCtorEq,qAv,gK,qBc];refine⟨⟨Z,Z⟩,λV=>(if_neg Z).symm,λhab=>⟨⟨Z,Z⟩,⟨Z,Z⟩,G.1,⟨G,Z,Z,Z,Z⟩,⟨0,⟨Z,Z⟩,rfl,rfl⟩,λk y v r=>?_,λk v i=>?_⟩⟩;have r:(cD w h (a+1) (b-a))[k]?=some y:=r;have:=(qG.1 r).1;obtain⟨k1,T⟩:=v;refine⟨⟨Z,Z⟩,k+1,⟨Z,T⟩,rfl,Z⟩;rw[i];exact(if_pos Z).symm
def aEy:eO 142 I8:=ae λ((o:Int),(x:Int),_)=>by
 refine zE (A:=az) (p:=let b:=Ed x (-1);(True->L4 b ((Dh true b->b)/\Dz b (Ef x 65518) false=jt o x/\True))) aDY λ_=>⟨λh _=>h,λh=>by simpa[Dh]using h,?_,trivial⟩;unfold jt iE;simp only[Dz,Ed,Ef,kQ];by_cases h:-1<=x<;>simp[h]
def aBp:eO 141 CP:=ae λ((n:Net),_)=>zE (A:=az) (p:=(True->T3 n)) aDY λ_=>⟨rfl,trivial⟩
def aBq:eO 206 CQ:=ae λ((o:Int),(x:Int),((r,g,f,j,b,i):Net),_)=>by
 refine zE (A:=az) (p:=let v:=Eb x (-1);let e:=Dj v;let y:=Df b;let h:=cY x y;let u:=Dh e h;(True->Q4 e (Q4 e ((e->True)/\L4 e (L7 u (Q4 u ((Dh e h->0<=x)/\(Dh e h->x<y)/\L4 u (Q4 u (L4 e ((e->Dh e h->Dh e h)/\(Dh true e->e)/\Dz v true (Dz h (Eb (Du b (Dc x) (ByteArray.mk #[],(0:Int),(0:Int),(0:Int),(0:Int),(0:Int))).2.1 o) false)=br (r,g,f,j,b,i) o x/\True)))))))))) aDY λ_=>?_;have e:Dz (Eb x (-1)) true (Dz (cY x (Df b)) (Eb (Du b (Dc x) (ByteArray.mk (Dt UInt8).toArray,(0:Int),(0:Int),(0:Int),(0:Int),(0:Int))).snd.fst o) false)=br (r,g,f,j,b,i) o x:=by
  unfold br;rw[uE,jS];congr 1
 rw[e];refine Z9 ?_;unfold cY;simp only[qE];exact⟨λh=>h.2.1,λh=>h.2.2⟩
def aG6:ai yv G0 KW4:=af aEy<|af aBp<|af aBq<|af (ae λ((z,w,h),a,b,_)=>TN z w h a b) aDY
def HN{g:Int->Int->Bool}{t:Lj}{m:Int}(b:(t.length:Int)=m):sgF g t m=true↔∀i:Nat,(i:Int)<t.length->sgR g m i (t.getD i [])=true:=by
 unfold sgF;simp only[qC,qE,qQ,qW];exact⟨λh i e=>h.2 i Z,λh=>⟨b,λi e=>h i Z⟩⟩
def KY{g:Int->Int->Bool}{m o:Int}{b:Li}(j:(b.length:Int)=m):sgR g m o b=true↔∀i:Nat,(i:Int)<b.length->g o (b.getD i 0)=true:=by
 unfold sgR;simp only[qC,qE,qQ];refine⟨λh i e=>h.2 _ ?_,λh=>⟨j,λx f=>?_⟩⟩;rw[qA,qB Z,qK];exact wL _;obtain⟨i,e,rfl⟩:=wX.1 f;have:=h i Z;rw[qA,qB e,qK]at this;exact this
def EU(g:Int->Int->Bool){t:Lj}{m:Int}(V:du t):((t.length:Int)≠m->false=sgF g t m)/\((t.length:Int)=m->Kx g t m 0/\∀x:Int,Kx g t m x->
  (x<t.length->0<=x/\x<t.length/\(((t.getD x.toNat []).length:Int)≠m->false=sgF g t m)/\(((t.getD x.toNat []).length:Int)=m->oM g (t.getD x.toNat []) m x 0/\∀y:Int,oM g (t.getD x.toNat []) m x y->
   (y<(t.getD x.toNat []).length->0<=y/\y<(t.getD x.toNat []).length/\(g x ((t.getD x.toNat []).getD y.toNat 0)=false->false=sgF g t m)/\
    (g x ((t.getD x.toNat []).getD y.toNat 0)=true->inR .i64 (y+1)/\∃z,oM g (t.getD x.toNat []) m x z/\y+1=z/\(((t.getD x.toNat []).length:Int)-z).toNat<(((t.getD x.toNat []).length:Int)-y).toNat))/\
   (¬y<(t.getD x.toNat []).length->inR .i64 (x+1)/\∃z,Kx g t m z/\x+1=z/\((t.length:Int)-z).toNat<((t.length:Int)-x).toNat)))/\(¬x<t.length->true=sgF g t m)):=by
 have f:∀x:Int,0<=x->((x.toNat:Nat):Int)=x:=λx h=>Z;refine⟨λh=>?_,λe=>⟨⟨qH _,Z,e,λi h=>Z⟩,λx ⟨r,x1,_,G⟩=>⟨λO=>?_,λO=>?_⟩⟩⟩;unfold sgF;rw[vF h];rfl;have hr:=V.2 _ (getD_mem (l:=t) (i:=x.toNat) (d:=[]) Z);have hfl:=V.1;refine⟨r,O,λh=>?_,λhm=>⟨⟨qH _,Z,hm,λi h=>Z⟩,λy ⟨X,y1,_,A⟩=>⟨λL=>⟨X,L,λh=>?_,λh=>?_⟩,λL=>?_⟩⟩⟩;refine(kD.2 λu=>h ?_).symm;have b:=(HN e).1 u x.toNat Z;unfold sgR at b;simp only[qC,qE]at b;exact b.1;refine(kD.2 λu=>?_).symm;have b:=(KY hm).1 ((HN e).1 u x.toNat Z) y.toNat Z;rw[f x r,h]at b;cases b;refine⟨au Z,y+1,⟨Z,Z,hm,λi T=>?_⟩,rfl,Z⟩;by_cases v:(i:Int)<y;exact A i v;have:i=y.toNat:=by omega
 subst this;exact h;refine⟨au Z,x+1,⟨Z,Z,e,λi T=>?_⟩,rfl,Z⟩;by_cases v:(i:Int)<x;exact G i v;have:i=x.toNat:=by omega
 subst this;exact(KY hm).2 λj hj=>by rw[f x r];exact A j Z
 exact((HN e).2 λi T=>G i Z).symm
def aHs(t:Lj)(m:Int):ah yv G0 140 [.dat M t,.dat I m,.fn 142 []] [] ⟨du t,.dat .bool (sgF jt t m),[]⟩:=by
 refine zE (A:=(lvA [(4,[1,2,6,7,8,10,15,16,17,26,27,28]),(9,[1,2,6,7,8,10,15,16,17,26,27,28])] (sgA jt t m))) (p:=let h:=Dw (Df t) m;(du t->(h->false=sgF jt t m/\True)/\(h=false->(∃x,Kx jt t m x/\Q2 m t (Df t) (0=x/\True))/\∀(x:Int),let i:=Dn x (Df t);let f:=Du t (Dc x) [];let g:=Df f;let j:=Dw g m;let r:=x+1;Kx jt t m x->(i->0<=x/\x<Df t/\(j->false=sgF jt t m/\True)/\(j=false->(∃b,oM jt f m x b/\T5 m x f t (Df t) x f g (0=b/\True))/\∀(b:Int),let u:=Dj (jt x (Du f (Dc b) 0));let e:=b+1;oM jt f m x b->(Dn b g->0<=b/\b<g/\True/\(u->false=sgF jt t m/\True)/\(u=false->inR .i64 e/\∃y,oM jt f m x y/\(T5 m x f t (Df t) x f g (e=y/\True))/\Dc (g-y)<Dc (g-b)))/\(Dn b g=false->inR .i64 r/\∃y,Kx jt t m y/\(Q2 m t (Df t) (r=y/\True))/\Dc (Df t-y)<Dc (Df t-x))))/\(i=false->true=sgF jt t m/\True)))) aG6 λf=>?_;refine Z9 ?_;exact EU jt f
def aHr(t:Lj)(m:Int)(n:Net):ah yv G0 140 [.dat M t,.dat I m,.fn 206 [.ipv (.ip N n)]] [] ⟨du t,.dat .bool (sgF (br n) t m),[]⟩:=by
 refine zE (A:=(lvA [(4,[1,2,6,7,8,10,15,16,17,26,27,28]),(9,[1,2,6,7,8,10,15,16,17,26,27,28])] (sgA (br n) t m))) (p:=let i:=Dw (Df t) m;let h:=sgF (br n) t m;(du t->(i->false=h/\True)/\(i=false->(∃x,Kx (br n) t m x/\Q3 m n t (Df t) (0=x/\True))/\∀(x:Int),let j:=Dn x (Df t);let f:=Du t (Dc x) [];let g:=Df f;let r:=Dw g m;let u:=x+1;Kx (br n) t m x->(j->0<=x/\x<Df t/\(r->false=h/\True)/\(r=false->(∃b,oM (br n) f m x b/\L3 m n x f t (Df t) x f g (0=b/\True))/\∀(b:Int),let e:=Dj (br n x (Du f (Dc b) 0));let v:=b+1;oM (br n) f m x b->(Dn b g->0<=b/\b<g/\True/\(e->false=h/\True)/\(e=false->inR .i64 v/\∃y,oM (br n) f m x y/\(L3 m n x f t (Df t) x f g (v=y/\True))/\Dc (g-y)<Dc (g-b)))/\(Dn b g=false->inR .i64 u/\∃y,Kx (br n) t m y/\(Q3 m n t (Df t) (u=y/\True))/\Dc (Df t-y)<Dc (Df t-x))))/\(j=false->true=h/\True)))) aG6 λf=>?_;refine Z9 ?_;exact EU (br n) f
def aJP:ai yv G0 KW5:=af (U4 (ae λ(t,m,n,_)=>aHr t m n) (ae λ(t,m,_)=>aHs t m)) aG6
abbrev B6:=aj [.ptr N,.ptr Pl] (λ(_,p,_)=>jh p) λ(n,p,_)=>.dat .bool (jg n p)
def aAS:eO 104 B6:=ae λ((n:Net),(p:Plan),_)=>by
 refine zE (A:=(lvA [(7,[0,4,5,7,72,73,74])] (aIG n p))) (p:=let i:=p.2.2.2;let O:=Dn p.1 0;let h:=Dj O;let T:=Dz O true (Ef p.2.1 p.1);let A:=Dj T;let c8:=Dz T true (Eh p.2.1 600);let f:=Dj c8;let L:=p.2.1-p.1;let G:=Dz c8 true (Eh L 60);let e:=Df i;let z:=Dw e (Df n.2.2.2.2.2);let b:=Dj z;let v:=Df n.2.2.2.1;let u:=Dz z true (Dj (sgF (br n) p.2.2.1 v));(jh p->L7 h (Q4 h (Q4 h ((Dh true h->h)/\L4 A (Q4 A ((Dh true A->A)/\L7 f (Q4 f (Q4 f ((f->inR .i64 L)/\L4 f ((Dh true f->f)/\(G->false=jg n p/\True)/\(G=false->L7 b (Q4 b (Q4 b ((b->True)/\Q4 b ((b->du p.2.2.1)/\L4 b ((Dh true b->b)/\(u->false=jg n p/\True)/\(u=false->(∃x,uw n p x/\Q2 n i e (0=x/\True))/\∀(x:Int),let r:=Du i (Dc x) (Dt (Li));let j:=Dj (sgF jt r v);let g:=x+1;uw n p x->(Dn x e->0<=x/\x<e/\du r/\(j->false=jg n p/\True)/\(j=false->inR .i64 g/\∃y,uw n p y/\(Q2 n i e (g=y/\True))/\Dc (e-y)<Dc (e-x)))/\(Dn x e=false->true=jg n p/\True))))))))))))))))))) aJP λ⟨a3,a4,a5⟩=>?_;refine Z9 ?_;have eT:sgF (br n) p.2.2.1 n.2.2.2.1.length=l8 n p.2.2.1:=rfl;rw[eT];have e1:∀i:Nat,(i:Int)<p.2.2.2.length->p.2.2.2.getD i []∈p.2.2.2:=λi f=>getD_mem Z;have eD:(p.2.2.2.length:Int)=n.2.2.2.2.2.length->(oP n p=true↔∀i:Nat,(i:Int)<p.2.2.2.length->sgF jt (p.2.2.2.getD i []) n.2.2.2.1.length=true):=λhl=>by
  unfold oP;simp only[qC,qE,qQ];refine⟨λh i f=>h.2 _ (e1 i f),λh=>⟨hl,λx O=>?_⟩⟩;obtain⟨i,f,rfl⟩:=wX.1 O;have:=h i Z;rw[qA,qB f,qK]at this;exact this
 refine⟨λh=>au Z,λh=>?_,λh=>⟨λ_=>a3,λe=>?_,λ⟨e,h3⟩=>?_⟩⟩;unfold jg lJ;rw[vF Z];rfl;unfold jg oP;rcases e with e|e;rw[vF e];simp;rw[e];simp;have V:lJ p=true:=by unfold lJ;exact qU Z
 refine⟨⟨qH _,Z,V,h3,e,λi f=>Z⟩,λx ⟨x0,x1,_,_,_,x5⟩=>⟨λO=>⟨x0,O,a5 _ (getD_mem Z),λX=>?_,λX=>?_⟩,λO=>?_⟩⟩;refine(kD.2 λT=>?_).symm;unfold jg at T;simp only[qC]at T;have:=(eD e).1 T.2.2 x.toNat Z;rw[X]at this;cases this;refine⟨au Z,x+1,⟨Z,Z,V,h3,e,λi f=>?_⟩,rfl,Z⟩;by_cases h5:(i:Int)<x;exact x5 i h5;have:i=x.toNat:=by omega
 subst this;exact X;unfold jg;rw[V,h3,(eD e).2 λi f=>x5 i Z];rfl
def aFz(n:Net)(f:Int)(s:Stop):Int:=bE (aB n s.1).1 s.2.2.1+(2-f)
def mQ(n:Net)(f:Int)(l:List Stop):Li:=l.map (aFz n f)
def Kv(n:Net)(p:Plan)(o d t:Int):Li:=mQ n p.1 (gA n p.2.2.1 o d t).dropLast
def vA(n:Net)(p:Plan)(o d t:Int):Int:=((gA n p.2.2.1 o d t).getLastD (0,0,0,0)).2.1
def EH(n:Net)(p:Plan)(o d t:Int)(k:Nat)(xs:Li):Prop:=Az n p.2.2.1 o d t/\(0<=p.1/\p.1<=600)/\xs.length=k/\xs.length<=950000000000
def aHd(n:Net)(p:Plan)(e d b:Int)(xs:Li):Ann:=Z8 2 (List Stop×Int×Int) (RJ n p.2.2.1 e d b) (λs x=>{put (flat s) [(1,.dat I x.2.1),(3,.dat I x.2.2),(9,.dat I (Dq (Df x.1) 1))]with mem:=Kw n p (Ec (Dk xs) (Dk (mQ n p.1 x.1))) (Ee xs (mQ n p.1 x.1))}) λx=>Dc (Di 20 (Df x.1))
def cWw:Cfg:=mkp KW3 (λ_=>false) aJn (λf=>f==146)
def gH(o d t:Int)(k:Nat)(xs:Li)(n:Net)(p:Plan):ah yv G0 144 [.ptr 2 1 0 0,.dat I o,.dat I d,.dat I t] (Kw n p k xs) ⟨EH n p o d t k xs/\isZero (ib n p.2.2.1 o d t)=true,.dat I (vA n p o d t),Kw n p (Ec k (Dk (Kv n p o d t))) (Ee xs (Kv n p o d t))⟩/\
  dA yv G0 144 [.ptr 2 1 0 0,.dat I o,.dat I d,.dat I t] (Kw n p k xs) ⟨EH n p o d t k xs,isZero (ib n p.2.2.1 o d t),AE 40 (ib n p.2.2.1 o d t)⟩:=by
 refine zM (c:=cWw) (A:=(aHd n p o d t xs)) (q:=⟨EH n p o d t k xs,isZero (ib n p.2.2.1 o d t),AE 40 (ib n p.2.2.1 o d t)⟩) aDY gC hm WA (p:=let j:=Kv n p o d t;let u:=Ee xs j;let v:=p.2;let z:=v.2;let b:=z.1;let f:=n.1;let A:=n.2;let c8:=A.1;let L:=A.2;let c10:=L.1;let c11:=L.2;let g:=c11.1;let O:=c11.2;let e:=O.1;let h:=O.2;let r:=p.1;let c17:=v.1;let G:=z.2;let c19:=ib n b o d t;let T:=isZero c19;let c21:=chainOf (Value.iface 40 (Value.int .i64 c19));let c22:=(f,c8,c10,g,e,h);let c23:=(ByteArray.mk #[],(0:Int),(0:Int),(0:Int),(0:Int),(0:Int));let c24:=2-r;true/\(EH n p o d t k xs->1=1/\Dk xs<=Dk u/\(∃(x:List Stop×Int×Int),let c25:=x.2;let c26:=x.1;let c27:=mQ n r c26;RJ n b o d t x/\Q2 1 0 0 (o=c25.1/\d=d/\t=c25.2/\(0:Int)=(0:Int)/\1=Df c26+1/\L3 f c8 c10 g e h r c17 b (G=G/\k=Dk xs+Dk c27/\xs=Ee xs c27/\T7 1 (Dk xs))))/\∀(x:List (Int×Int×Int×Int)×Int×Int),let c28:=x.2;let i:=c28.1;let c30:=Dw i d;let c31:=Du b (Dc i) [];let c32:=Du c31 (Dc d) 0;let c33:=Eb c32 (-1);let c34:=c28.2;let X:=aF c22 i c34;let c36:=Eh X 2000000;let c37:=aB c22 i;let c38:=c37.1;let c39:=c37.2;let c40:=c39.1;let c41:=c39.2;let c42:=(c38,c40,c41);let c43:=(Du e (Dc c32) c23).2.2;let c44:=c43.2;let c45:=c44.1;let c46:=mS c42 c45 X;let c47:=isZero c46;let c48:=x.1;let c49:=Df c48;let c50:=c49+1;let c51:=Eb c50 20;let c52:=jf c42 c45 X;let c53:=[bE c38 c52];let c54:=mQ n r c48;let V:=Ee xs c54;let c56:=Dk xs+Dk c54;let c57:=upR c53 c24 (Df c53);let c58:=Ee V c57;let c59:=c52+c44.2.1;let c60:=c50+1;
  RJ n b o d t x->(c30->T2 1 1 1 1 0 (0<=i/\i<Df b/\0<=d/\d<Df c31/\(c33->(true->True/\(false=false->T=false/\true/\chainOf (Value.iface 40 (Value.int IntKind.i64 (170:Int)))=c21))/\True)/\(c33=false->iq c22 i c34/\(c36->(true->True/\(false=false->T=false/\true/\chainOf (Value.iface 40 (Value.int .i64 (1:Int)))=c21))/\True)/\(c36=false->T2 1 1 1 1 0 (0<=c32/\c32<Df e/\L5 1 0 (jm c22 i/\T4 1 0 1 0 1 1 0 (MH c42 c45 X/\(true->True/\(c47=false->T=false/\true/\chainOf (Value.iface 40 (Value.int .i64 c46))=c21))/\((true->c47)->(True/\c47)/\(c51->(true->True/\(false=false->T=false/\true/\chainOf (Value.iface 40 (Value.int .i64 (170:Int)))=c21))/\True)/\(c51=false->L5 1 0 (dK c38 c40 c41 c52/\T2 1 1 1 1 0 (inR .i64 c24/\rsP c24 c53 V c56/\1=1/\Dk V<=Dk c58/\T6 1 1 0 1 1 0 (inR .i64 c59/\inR .i64 c60/\∃(y:List Stop×Int×Int),let c61:=y.2;let c62:=y.1;let c63:=Df c62;let c64:=mQ n r c62;RJ n b o d t y/\(Q2 1 0 0 (c43.1=c61.1/\d=d/\c59=c61.2/\(0:Int)=(0:Int)/\c60=c63+1/\L3 f c8 c10 g e h r c17 b (G=G/\c56+Dk c57=Dk xs+Dk c64/\c58=Ee xs c64/\T7 1 (Dk xs))))/\Dc (20-c63)<Dc (20-c49)))))))))))))/\(c30=false->T/\c34=vA n p o d t/\L3 f c8 c10 g e h r c17 b (G=G/\c56=k+Dk j/\V=u/\T7 1 (Dk xs))))) ⟨rfl,λhp=>?_⟩
 obtain⟨hp,hp1,hk,hxl⟩:=hp;have eN:(n.1,n.2.1,n.2.2.1,n.2.2.2.1,n.2.2.2.2.1,n.2.2.2.2.2)=n:=rfl;have eC:∀c:Int×List Bool×Li,(c.1,c.2.1,c.2.2)=c:=λ_=>rfl;have eX:∀l:Int,n.2.2.2.2.1.getD l.toNat (⟨#[]⟩,0,0,0,0,0)=sB n l:=λ_=>rfl;have eM:∀u:Int,(p.2.2.1.getD u.toNat []).getD d.toNat 0=nxt p.2.2.1 u d:=λ_=>rfl;have eU:∀x b:Int,upR [x] b (([x]:Li).length:Int)=[x+b]:=λ_ _=>rfl;refine Z9 ?_;simp only[qc,eN,eC,eX,eM,eU];refine⟨by rw[qF];omega,⟨([],o,t),⟨hp,by simp,(FG 19 o t).symm⟩,rfl,rfl,rfl,by rw[hk];rfl,(wB _).symm⟩,?_⟩;rintro⟨l,u,v⟩ hx;simp only;generalize f:nxt p.2.2.1 u d=g at *;obtain⟨⟨hs,ht,u0,u1,o0,o1,v0,v1⟩,hd,hw⟩:=hx;simp only at u0 u1 o0 o1 v0 v1 hd hw;have hno:noF n=true:=aK n.1 n.2.1 n.2.2.1 n.2.2.2.1 n.2.2.2.2.1 n.2.2.2.2.2 hs;obtain⟨c1,c2,c3⟩:(p.2.2.1.length:Int)=n.2.2.2.1.length/\((p.2.2.1.getD u.toNat []).length:Int)=n.2.2.2.1.length/\(nxt p.2.2.1 u d≠-1->(0<=nxt p.2.2.1 u d/\nxt p.2.2.1 u d<n.2.2.2.2.1.length)/\bT n (nxt p.2.2.1 u d)=u):=dJ n.1 n.2.1 n.2.2.1 n.2.2.2.1 n.2.2.2.2.1 n.2.2.2.2.2 ht u0 u1 o0 o1;rw[f]at c3;have L:jm n u:=⟨hno,u0,u1⟩;have hr:iq n u v:=⟨L,Z,Z⟩;obtain⟨_,_,r1,r2⟩:inR .i64 ((bX n u).2.2.2.2.1*(bX n u).2.2.2.2.2.1)/\inR .i64 (aF n u v)/\v<=aF n u v/\aF n u v<=v+960:=xg n.1 n.2.1 n.2.2.1 n.2.2.2.1 n.2.2.2.2.1 n.2.2.2.2.2 hr;have hE:ib n p.2.2.1 o d t=(BL l (lj n p.2.2.1 d (19-l.length) u v)).2:=by unfold ib;rw[hw]
 have hL:gA n p.2.2.1 o d t=(BL l (lj n p.2.2.1 d (19-l.length) u v)).1:=by unfold gA;rw[hw]
 have z:∀e:Int,e≠0->lj n p.2.2.1 d (19-l.length) u v=([],e)->ib n p.2.2.1 o d t=e:=λe he h=>by rw[hE,h];unfold BL;rw[if_neg he]
 refine⟨λO=>⟨u0,by rw[c1];exact u1,o0,by rw[c2];exact o1,λhm=>?_,λhm=>⟨hr,λhgt=>?_,λhle=>?_⟩⟩,λhe=>?_⟩;rw[z 170 (by decide) (lu _ O (f.trans hm))];exact⟨rfl,rfl⟩;have e1:uW n g (aF n u v)=1:=if_neg (by unfold bS;rw[qE];omega);rw[z 1 (by decide) ((po _ O (by rw[f];exact hm) (by rw[f,e1];decide)).trans (by rw[f,e1]))];exact⟨rfl,rfl⟩;obtain⟨⟨l0,l1⟩,lf⟩:=c3 hm;have hlin:RL n g:=⟨hno,l0,l1⟩;obtain⟨g1,g2,g3,g4,g5,g6,g7,g8⟩:0<=bT n g/\bT n g<n.2.2.2.1.length/\0<=x9 n g/\x9 n g<n.2.2.2.1.length/\0<=yb n g/\yb n g<=1439/\1<=ix n g/\ix n g<=5000:=yd n.1 n.2.1 n.2.2.1 n.2.2.2.1 n.2.2.2.2.1 n.2.2.2.2.2 hlin;have htm:bS (aF n u v)=true:=by unfold bS;rw[qE];omega
 have eE:uW n g (aF n u v)=mS (aB n u) (sB n g).2.2.2.1 (aF n u v):=by unfold uW;rw[if_pos htm,lf];rfl
 have eD:pS n g (aF n u v)=jf (aB n u) (sB n g).2.2.2.1 (aF n u v):=by unfold pS;rw[if_pos htm,lf];rfl
 have hv:aA (aB n u).1 (aB n u).2.1 (aB n u).2.2=true:=(fJ n.1 n.2.1 n.2.2.1 n.2.2.2.1 n.2.2.2.2.1 n.2.2.2.2.2 L).2.2.1;have g5':0<=(sB n g).2.2.2.1:=g5;have g6':(sB n g).2.2.2.1<=1439:=g6;have g7':1<=(sB n g).2.2.2.2.1:=g7;have g8':(sB n g).2.2.2.2.1<=5000:=g8;refine⟨l0,l1,L,⟨hv,Z,Z,Z,Z⟩,λhz=>?_,λhz=>⟨hz,λh20=>?_,λh20=>?_⟩⟩;have j:=gq.1 hz;rw[z _ j ((po _ O (by rw[f];exact hm) (by rw[f,eE];exact j)).trans (by rw[f,eE]))];exact⟨hz,rfl⟩;have j:=dW.1 hz;rw[z 170 (by decide) (by rw[show 19-l.length=0 by omega];exact nR O (by rw[f];exact hm) (by rw[f,eE];exact j))];exact⟨rfl,rfl⟩;have j:=dW.1 hz;obtain⟨b1,b2⟩:=mr hv j g5' g6';have hnx:=nQ (n:=n) (nx:=p.2.2.1) (to:=d) (o:=u) (t:=v) (19-(l.length+1)) O (by rw[f];exact hm) (by rw[f,eE];exact j);rw[show 19-(l.length+1)+1=19-l.length by omega,f,eD]at hnx;have lD:(mQ n p.1 l).length=l.length:=by unfold mQ;rw[vG]
 generalize hq:jf (aB n u) (sB n g).2.2.2.1 (aF n u v)=q at *;have lA:mQ n p.1 (l++[(u,v,q,g)])=mQ n p.1 l++[bE (aB n u).1 q+(2-p.1)]:=by unfold mQ aFz;rw[zZ];rfl
 have dq:-1000000<=bE (aB n u).1 q/\bE (aB n u).1 q<=1000000:=by
  obtain⟨⟨z1,z2,_,_⟩,_⟩:=bD.1 hv;unfold bE;omega
 refine⟨⟨hv,Z,Z⟩,au Z,⟨⟨by rw[qF],by rw[qF,lD];show _+1<=_;omega⟩,Z,Z,λx hx=>by rw[vI]at hx;omega⟩,by simp only[qF];omega,au Z,au Z,
  (l++[(u,v,q,g)],x9 n g,q+ix n g),⟨⟨hs,ht,g3,g4,o0,o1,by simp only;omega,by simp only;omega⟩,by simp;omega,?_⟩,⟨rfl,rfl,by simp,by rw[lA];simp;omega,by rw[lA,vO]⟩,by simp;omega⟩
 show lj n p.2.2.1 d 19 o t=_;rw[hw,hnx,va];simp;rw[Bf _ he]at hE hL;have hL':gA n p.2.2.1 o d t=l++[(u,v,-1,-1)]:=hL;have eG:Kv n p o d t=mQ n p.1 l:=by unfold Kv;rw[hL',List.dropLast_concat]
 have eT:vA n p o d t=v:=by unfold vA;rw[hL'];simp
 have hE':ib n p.2.2.1 o d t=0:=hE;rw[hE',eG,eT];exact⟨rfl,rfl,Z,rfl⟩
def VO(c:Int×List Bool×Li)(m b:Int):Nat->Int->Li|0,_=>[]|f+1,t=>if mS c m t=0 then if jf c m t<b then jf c m t::VO c m b f (jf c m t+1)else[]else[]
def aAk(p:Plan):Nat:=(1440*(p.2.1-p.1)).toNat+1
def WO(n:Net)(p:Plan)(c o:Int)(f:Nat)(t:Int):Li:=VO (aB n o) (bC n c).2.1 (1440*p.2.1) f t
def jZ(n:Net)(p:Plan)(c o:Int):Li:=WO n p c o (aAk p) (1440*p.1)
def A5(n:Net)(p:Plan)(c o:Int):Prop:=jm n o/\uG n c/\lJ p=true
def DX(n:Net)(p:Plan)(c o:Int)(x:Nat×Int):Prop:=(1440*p.1+x.1<=x.2/\x.2<=1440*p.2.1)/\x.1<=(jZ n p c o).length/\(jZ n p c o).drop x.1=WO n p c o (aAk p-x.1) x.2
def aIA:AV->AV|.pin u a=>.pin u a|.yld l=>.yld l|_=>.top
def aHg(n:Net)(p:Plan)(c o:Int):Ku:=⟨λb y=>match b with
 |1=>some {α:=Nat×Int,inv:=λx=>DX n p c o x,st:=λx=>⟨put {y.s with tm:=y.s.tm.map aIA} [(5,.dat I x.2)],x.1,true⟩,μ:=λx=>Dc (Di (Dq (Ei 1440 p.2.1) 1) x.2)}
 |_=>none,λ_ _=>none,λb=>b==2⟩
def aAU(c o:Int)(n:Net)(p:Plan):Kr yv G0 208 [.ipv (.ips (wHd n p .top)),.ip I o,.ip I c] ⟨A5 n p c o,I,jZ n p c o⟩:=by
 refine zL (c:=mkc KW3) (A:=aHg n p c o) aDY gC hm (p:=let z:=n.2.1;let r:=p.2.1;let A:=n.2.2.1;let h:=p.2.2;let g:=n.2.2.2;let L:=1440*p.1;let c21:=(aB n o);let c22:=(Du g.2.2 (Dc c) (ByteArray.mk #[],(0:Int),(0:Int))).2.1;let X:=1440*r;let c24:=jZ n p c o;let V:=Dk c24;let f:=X+1;true/\true/\false=false/\∀(l:Nat) (u:Nat->Value),A5 n p c o->inR .i64 L/\(∃(x:Nat×Int),DX n p c o x/\(L3 l (u 0) n.1 z A g.1 g.2.1 g.2.2 p.1 (T4 r h.1 h.2 (u 1) o (u 2) c (L=x.2/\True)))/\0=x.1/\true)/\∀(x:Nat×Int),let c27:=Dw (mS c21 c22 x.2) 0;let e:=Dj c27;let T:=jf c21 c22 x.2;let O:=Dz c27 true (Ed T X);let b:=Dj O;let G:=Dh true b->b;let c32:=Dz O true (Dj true);let v:=x.1+1;let i:=T+1;let j:=Dz O true (Dj false);DX n p c o x->jm n o/\0<=c/\c<Df g.2.2/\MH c21 c22 x.2/\L7 e (Q4 e ((e->inR .i64 X)/\L7 e ((Dh true e->e)/\(b->(b->b)/\(b->b)/\Q3 (u 0) (u 1) (u 2) l (true/\nB c24 x.1 T/\(G/\(c32->true->v=V)/\(c32=false->inR .i64 i/\∃(y:Nat×Int),DX n p c o y/\((L3 l (u 0) n.1 z A g.1 g.2.1 g.2.2 p.1 (T4 r h.1 h.2 (u 1) o (u 2) c (i=y.2/\True)))/\v=y.1/\true)/\Dc (f-y.2)<Dc (f-x.2)))/\G/\(j->false->v=V)/\(j=false->inR .i64 i/\∃(y:Nat×Int),DX n p c o y/\(False/\v=y.1/\false)/\Dc (f-y.2)<Dc (f-x.2))))/\(b=false->L4 b (G/\(j->true->x.1=V)/\(j=false->inR .i64 i/\∃(y:Nat×Int),DX n p c o y/\((L3 l (u 0) n.1 z A g.1 g.2.1 g.2.2 p.1 (T4 r h.1 h.2 (u 1) o (u 2) c (i=y.2/\True)))/\x.1=y.1/\true)/\Dc (f-y.2)<Dc (f-x.2)))))))) ⟨rfl,rfl,rfl,λl u ⟨g,L,hR⟩=>?_⟩
 have eN:(n.1,n.2.1,n.2.2.1,n.2.2.2.1,n.2.2.2.2.1,n.2.2.2.2.2)=n:=rfl;have eC:∀c:Int×List Bool×Li,(c.1,c.2.1,c.2.2)=c:=λ_=>rfl;have eK:n.2.2.2.2.2.getD c.toNat (⟨#[]⟩,0,0)=bC n c:=rfl;have hR':0<=p.1/\p.1<p.2.1/\p.2.1<=600/\p.2.1-p.1<=60:=vT hR;have hv:aA (aB n o).1 (aB n o).2.1 (aB n o).2.2=true:=(fJ n.1 n.2.1 n.2.2.1 n.2.2.2.1 n.2.2.2.2.1 n.2.2.2.2.2 g).2.2.1;obtain⟨⟨m0,m1⟩,_⟩:=nJ n.1 n.2.1 n.2.2.1 n.2.2.2.1 n.2.2.2.2.1 n.2.2.2.2.2 g.1 L;have m0:0<=(bC n c).2.1:=m0;have m1:(bC n c).2.1<=1439:=m1;refine Z9 ?_;simp only[qc,or_false,eN,eC,eK,yL,yX,wG,xU,false_and,and_false,exists_false,imp_false,qCv,reduceCtorEq];obtain⟨q,hq⟩:∃q,q=1440*p.1:=⟨_,rfl⟩;obtain⟨r,hr⟩:∃r,r=1440*p.2.1:=⟨_,rfl⟩;refine⟨au Z,⟨(0,1440*p.1),⟨⟨by simp only;omega,by simp only;omega⟩,wU _,rfl⟩,rfl,rfl⟩,?_⟩;rintro⟨k,t⟩ ⟨⟨t0,t1⟩,k1,G⟩;simp only at t0 t1 k1 G ⊢;have hU:aAk p-k=(aAk p-(k+1))+1:=by unfold aAk;omega
 have hst:WO n p c o (aAk p-k) t=if mS (aB n o) (bC n c).2.1 t=0 then if jf (aB n o) (bC n c).2.1 t<1440*p.2.1 then jf (aB n o) (bC n c).2.1 t::WO n p c o (aAk p-(k+1)) (jf (aB n o) (bC n c).2.1 t+1)else[]else[]:=by rw[hU];rfl
 rw[hst]at G;have z:∀{l:Li},(jZ n p c o).drop k=l->(jZ n p c o).length=k+l.length:=λh=>by
  have:=yS List.length h;rw[wM]at this;omega
 refine⟨g,L.1,L.2,⟨hv,m0,Z,Z,Z⟩,λ_=>au Z,λ⟨h1,h2⟩=>?_,λh _=>?_⟩;have h2':jf (aB n o) (bC n c).2.1 t<1440*p.2.1:=by omega
 obtain⟨b1,b2⟩:=mr hv h1 m0 m1;rw[if_pos h1,if_pos h2']at G;have hl:=z G;rw[wO]at hl;refine⟨?_,λh=>absurd h Z,λ_=>⟨au Z,(k+1,jf (aB n o) (bC n c).2.1 t+1),⟨⟨by simp only;omega,by simp only;omega⟩,by simp only;omega,?_⟩,⟨rfl,rfl⟩,by simp only;omega⟩⟩;show(jZ n p c o)[k]?=some _;have:=yS (λl=>l[0]?) G;simpa[vM]using this;show(jZ n p c o).drop (k+1)=_;have:=yS (List.drop 1) G;rwa [xA]at this;have:(jZ n p c o).drop k=[]:=by
  rw[G];by_cases h1:mS (aB n o) (bC n c).2.1 t=0;rw[if_pos h1,if_neg Z];rw[if_neg h1]
 have hl:=z this;rw[xR]at hl;omega
def MS{n:Net}{p:Plan}{c o:Int}(h:A5 n p c o):(jZ n p c o).length<=86401:=by
 have g:0<=p.1/\p.1<p.2.1/\p.2.1<=600/\p.2.1-p.1<=60:=vT h.2.2;have:∀(f:Nat) (t:Int),(WO n p c o f t).length<=f:=λf=>by
  induction f with
  |zero=>intro t;exact qM _
  |succ f b=>
   intro t;have e:WO n p c o (f+1) t=if mS (aB n o) (bC n c).2.1 t=0 then if jf (aB n o) (bC n c).2.1 t<1440*p.2.1 then jf (aB n o) (bC n c).2.1 t::WO n p c o f (jf (aB n o) (bC n c).2.1 t+1)else[]else[]:=rfl;rw[e];split;split;rw[wO];exact qCg (b _);exact wU _;exact wU _
 refine wJ (this _ _) ?_;unfold aAk;omega
def VM{n:Net}{p:Plan}{c o x:Int}(h:A5 n p c o)(j:x∈jZ n p c o):1440*p.1<=x/\x<1440*p.2.1:=by
 have r:aA (aB n o).1 (aB n o).2.1 (aB n o).2.2=true:=(fJ n.1 n.2.1 n.2.2.1 n.2.2.2.1 n.2.2.2.2.1 n.2.2.2.2.2 h.1).2.2.1;obtain⟨⟨g,b⟩,_⟩:=nJ n.1 n.2.1 n.2.2.1 n.2.2.2.1 n.2.2.2.2.1 n.2.2.2.2.2 h.1.1 h.2.1;have g:0<=(bC n c).2.1:=g;have b:(bC n c).2.1<=1439:=b;have:∀(f:Nat) (t:Int),x∈WO n p c o f t->t<=x/\x<1440*p.2.1:=λf=>by
  induction f with
  |zero=>intro t h;cases h
  |succ f i=>
   intro t h;have e:WO n p c o (f+1) t=if mS (aB n o) (bC n c).2.1 t=0 then if jf (aB n o) (bC n c).2.1 t<1440*p.2.1 then jf (aB n o) (bC n c).2.1 t::WO n p c o f (jf (aB n o) (bC n c).2.1 t+1)else[]else[]:=rfl;rw[e]at h;split at h;rename_i u;obtain⟨v,y⟩:=mr r u g b;split at h;rcases zH.1 h with rfl|h;exact⟨v,by assumption⟩;have:=i _ h;omega;cases h;cases h
 exact this _ _ j
def fz(p:Plan)(k o d:Int):Int:=((p.2.2.2.getD k.toNat []).getD o.toNat []).getD d.toNat 0
def aJz(n:Net)(p:Plan)(o d cut:Int):Int:=aF n d (vA n p o d cut)
def aJF(n:Net)(p:Plan)(c o d cut:Int):Int:=jf (aB n d) (bC n c).2.2 (aJz n p o d cut)
def DW(n:Net)(p:Plan)(c o d cut:Int):Int:=mS (aB n d) (bC n c).2.2 (aJz n p o d cut)
def ZF(n:Net)(p:Plan)(c o d cut:Int):Int:=jd (aB n d).2.1 (aB n d).2.2 (bE (aB n d).1 cut) (bE (aB n d).1 (aJF n p c o d cut))
def JK(n:Net)(p:Plan)(c o d cut:Int):Int:=if ib n p.2.2.1 o d cut≠0 then ib n p.2.2.1 o d cut else if DW n p c o d cut≠0 then DW n p c o d cut else if ZF n p c o d cut>fz p c o d then 190 else 0
def He(l:Li):Int:=(l.find? λe=>decide (e≠0)).getD 0
def jP(n:Net)(p:Plan)(c o d:Int):Int:=He ((jZ n p c o).map (JK n p c o d))
def lP(n:Net)(p:Plan)(c o d:Int)(j:Nat):Li:=((jZ n p c o).take j).flatMap (Kv n p o d)
def keepA(n:Net)(p:Plan)(c o d:Int):Li:=lP n p c o d (jZ n p c o).length
def oO(n:Net)(p:Plan):Prop:=aS n=true/\jg n p=true
def pd(n:Net)(p:Plan)(c o d:Int)(k:Nat)(xs:Li):Prop:=(oO n p/\uG n c/\jm n o/\jm n d)/\xs.length=k/\xs.length<=900000000000
def uo(n:Net)(p:Plan)(c o d:Int)(k:Nat)(xs:Li)(j:Nat):Prop:=pd n p c o d k xs/\j<=(jZ n p c o).length/\∀i:Nat,i<j->JK n p c o d ((jZ n p c o).getD i 0)=0
def KIW:FuncId->List AV->Option jX:=λf b=>if f=208+A1 then match b with
  |[.ipv x,.ip (.int .i64) o,.ip (.int .i64) c]=>match asI x with
   |some (n,p)=>some ⟨A5 n p c o,I,jZ n p c o⟩|none=>none
  |_=>none
 else none
def KW6:Kt:=kOr 144 (wK [.mp 2,.val I,.val I,.val I] (λ(_,o,d,t,_) n p k b=>EH n p o d t k b/\isZero (ib n p.2.2.1 o d t)=true) (λ(_,o,d,t,_) n p=>.dat I (vA n p o d t)) λ(_,o,d,t,_) n p=>Kv n p o d t) KW4
def aJm:KPt:=pOr 144 (wP [.mp 2,.val I,.val I,.val I] λ(_,o,d,t,_) n p k b=>⟨EH n p o d t k b,isZero (ib n p.2.2.1 o d t),AE 40 (ib n p.2.2.1 o d t)⟩) aJn
noncomputable def aIP:Cfg:=⟨yv,G0,KW6,λ_=>false,KIW,true,aJm,λf=>f==146||f==144⟩
def aD1(n:Net)(p:Plan)(c o d:Int)(k:Nat)(xs:Li):Ann:=Z8 2 Nat (uo n p c o d k xs) (λs j=>{flat s with mem:=Kw n p (Ec (Dk xs) (Dk (lP n p c o d j))) (Ee xs (lP n p c o d j))}) λj=>j
def Gs{l:Li}{j:Nat}(b:j<l.length)(f:∀i:Nat,i<j->l.getD i 0=0)(e:l.getD j 0≠0):He l=l.getD j 0:=by
 induction l generalizing j with
 |nil=>simp at b|cons x l g=>
  unfold He;rw[qAa];cases j with
  |zero=>
   have:x≠0:=e;rw[qU this];rfl
  |succ j=>
   have h:x=0:=f 0 Z;rw[vF (by rw[h];decide)];exact g (by simpa using b) (λi r=>by simpa using f (i+1) Z) (by simpa using e)
def rH{l:Li}(h:∀i:Nat,i<l.length->l.getD i 0=0):He l=0:=by
 unfold He;have:l.find? (λe=>decide (e≠0))=none:=by
  rw[qBy];intro x f;obtain⟨i,b,rfl⟩:=wX.1 f;have:=h i b;rw[qA,qB b,qK]at this;simp[this]
 rw[this];rfl
def iC{l:Li}(h:He l=0):∀x∈l,x=0:=by
 intro x u;obtain⟨i,g,rfl⟩:=wX.1 u;induction i using Nat.strongRecOn with
 |ind i r=>
  have e:∀j (f:j<l.length),l.getD j 0=l[j]:=λj f=>by rw[qA,qB f,qK]
  rw[<- e i g];refine Decidable.byContradiction λb=>?_;have:=Gs g (λj f=>by rw[e j Z];exact r j f Z (wL _)) b;exact b (this.symm.trans h)
def fF{n:Net}{p:Plan}(h:jg n p=true):lJ p=true/\l8 n p.2.2.1=true/\oP n p=true:=by
 unfold jg at h;simpa only[qC]using h
def VH{n:Net}{p:Plan}(h:oP n p=true){c o d:Int}(g:uG n c)(x:0<=o)(v:o<n.2.2.2.1.length)(A:0<=d)(z:d<n.2.2.2.1.length):
  (c<p.2.2.2.length/\o<(p.2.2.2.getD c.toNat []).length/\d<((p.2.2.2.getD c.toNat []).getD o.toNat []).length)/\-1<=fz p c o d/\fz p c o d<=65518:=by
 obtain⟨c0,c1⟩:=g;unfold oP at h;simp only[qC,qE,qQ]at h;obtain⟨y,u⟩:=h;have e:=u _ (getD_mem (l:=p.2.2.2) (i:=c.toNat) (d:=[]) Z);have r:((p.2.2.2.getD c.toNat []).length:Int)=n.2.2.2.1.length:=by
  unfold sgF at e;simp only[qC,qE]at e;exact e.1
 have b:=(HN r).1 e o.toNat Z;have j:(((p.2.2.2.getD c.toNat []).getD o.toNat []).length:Int)=n.2.2.2.1.length:=by
  unfold sgR at b;simp only[qC,qE]at b;exact b.1
 have f:jt ((o.toNat:Nat):Int) (fz p c o d)=true:=(KY j).1 b d.toNat Z;unfold jt iE at f;rw[qE]at f;exact⟨⟨Z,Z,Z⟩,f⟩
def r7{n:Net}{nx:Lj}{to:Int}:∀(k:Nat) (o t:Int),Az n nx o to t->(lj n nx to k o t).2=0->
  (lj n nx to k o t).1.length<=k+1/\(lj n nx to k o t).1≠[]/\t<=((lj n nx to k o t).1.getLastD (0,0,0,0)).2.1/\((lj n nx to k o t).1.getLastD (0,0,0,0)).2.1<=2200000
 |k,o,t,V,h=>by
  obtain⟨G,A,u,r,x,v,X,L⟩:=id V;by_cases f:o=to;rw[Bf k f];exact⟨by simp,by simp,qH _,L⟩;by_cases hm:nxt nx o to=-1;rw[lu k f hm]at h;cases h;by_cases g:uW n (nxt nx o to) (aF n o t)=0;case neg=>rw[po k f hm g]at h;exact absurd h g
  cases k with
  |zero=>rw[nR f hm g]at h;cases h
  |succ k=>
   have e:noF n=true:=aK n.1 n.2.1 n.2.2.1 n.2.2.2.1 n.2.2.2.2.1 n.2.2.2.2.2 G;obtain⟨_,_,c3⟩:(nx.length:Int)=n.2.2.2.1.length/\((nx.getD o.toNat []).length:Int)=n.2.2.2.1.length/\(nxt nx o to≠-1->(0<=nxt nx o to/\nxt nx o to<n.2.2.2.2.1.length)/\bT n (nxt nx o to)=o):=dJ n.1 n.2.1 n.2.2.1 n.2.2.2.1 n.2.2.2.2.1 n.2.2.2.2.2 A u r x v;obtain⟨⟨T,O⟩,lf⟩:=c3 hm;have b:RL n (nxt nx o to):=⟨e,T,O⟩;obtain⟨g1,g2,g3,g4,g5,g6,g7,g8⟩:0<=bT n (nxt nx o to)/\bT n (nxt nx o to)<n.2.2.2.1.length/\0<=x9 n (nxt nx o to)/\x9 n (nxt nx o to)<n.2.2.2.1.length/\0<=yb n (nxt nx o to)/\yb n (nxt nx o to)<=1439/\1<=ix n (nxt nx o to)/\ix n (nxt nx o to)<=5000:=yd n.1 n.2.1 n.2.2.1 n.2.2.2.1 n.2.2.2.2.1 n.2.2.2.2.2 b;obtain⟨b1,b2,b3,b4⟩:0<=aF n o t/\aF n o t<=2000000/\aF n o t<=pS n (nxt nx o to) (aF n o t)/\pS n (nxt nx o to) (aF n o t)<=aF n o t+90000:=oD n.1 n.2.1 n.2.2.1 n.2.2.2.1 n.2.2.2.2.1 n.2.2.2.2.2 b g;obtain⟨_,_,r1,r2⟩:inR .i64 ((bX n o).2.2.2.2.1*(bX n o).2.2.2.2.2.1)/\inR .i64 (aF n o t)/\t<=aF n o t/\aF n o t<=t+960:=xg n.1 n.2.1 n.2.2.1 n.2.2.2.1 n.2.2.2.2.1 n.2.2.2.2.2 ⟨⟨e,u,r⟩,Z,Z⟩;rw[nQ k f hm g]at h ⊢;by_cases j:(lj n nx to k (x9 n (nxt nx o to)) (pS n (nxt nx o to) (aF n o t)+ix n (nxt nx o to))).2=0;case neg=>rw[FH j]at h;exact absurd h j
   obtain⟨i1,i,z,y⟩:=r7 k _ _ ⟨G,A,g3,g4,x,v,Z,Z⟩ j;rw[FD j];refine⟨by simp;omega,by simp,?_,?_⟩;show t<=(([_]++(lj n nx to k _ _).1).getLastD (0,0,0,0)).2.1;rw[List.singleton_append,List.getLastD_cons,gI,gX i];rw[gI,gX i]at z;simp only[qK]at z ⊢;omega;show(([_]++(lj n nx to k _ _).1).getLastD (0,0,0,0)).2.1<=_;rw[List.singleton_append,List.getLastD_cons,gI,gX i];rw[gI,gX i]at y;exact y
def EI{n:Net}{p:Plan}{o d t:Int}(b:Az n p.2.2.1 o d t)(h:ib n p.2.2.1 o d t=0):(Kv n p o d t).length<=19/\t<=vA n p o d t/\vA n p o d t<=2200000:=by
 obtain⟨g,_,f,e⟩:=r7 19 o t b h;refine⟨?_,f,e⟩;unfold Kv mQ;rw[vG,List.length_dropLast];show(lj n p.2.2.1 d 19 o t).1.length-1<=19;omega
def VK{n:Net}{p:Plan}{c o d x:Int}(e:oO n p)(b:A5 n p c o)(hd:jm n d)(f:x∈jZ n p c o):Az n p.2.2.1 o d x:=by
 obtain⟨i,h⟩:=VM b f;have g:0<=p.1/\p.1<p.2.1/\p.2.1<=600/\p.2.1-p.1<=60:=vT b.2.2;exact⟨e.1,(fF e.2).2.1,b.1.2.1,b.1.2.2,hd.2.1,hd.2.2,Z,Z⟩
def Zw{n:Net}{p:Plan}{c o d x:Int}(h:JK n p c o d x=0):ib n p.2.2.1 o d x=0/\DW n p c o d x=0/\ZF n p c o d x<=fz p c o d:=by
 unfold JK at h;by_cases e:ib n p.2.2.1 o d x=0;rw[if_neg (λg=>g e)]at h;by_cases b:DW n p c o d x=0;rw[if_neg (λg=>g b)]at h;split at h;cases h;exact⟨e,b,Z⟩;rw[if_pos b]at h;exact absurd h b;rw[if_pos e]at h;exact absurd h e
def rC{n:Net}{p:Plan}{c o d:Int}{k:Nat}{xs:Li}:∀{j:Nat},uo n p c o d k xs j->(lP n p c o d j).length<=19*j
 |0,_=>by unfold lP;simp|j+1,⟨b,h,e⟩=>by
  have f:=rC (j:=j) ⟨b,Z,λi r=>e i Z⟩;have g:A5 n p c o:=⟨b.1.2.2.1,b.1.2.1,(fF b.1.1.2).1⟩;have hm:(jZ n p c o).getD j 0∈jZ n p c o:=getD_mem Z;have:=(EI (VK b.1.1 g b.1.2.2.2 hm) (Zw (e j Z)).1).1;unfold lP at f ⊢;rw[wW,qAs,qF,qB (show j<(jZ n p c o).length by omega)];rw[qA,qB (show j<(jZ n p c o).length by omega),qK]at this;simp only[qBa,qAh,qDm,wB];omega
def aKR:ai yv G0 KW6:=af (WZ λ(_,o,d,t,_) n p k b=>(gH o d t k b n p).1) aG6
def Wy:bJ yv G0 aJm:=jL (aD6 λ(_,o,d,t,_) n p k b=>(gH o d t k b n p).2) WA
def aDF{P:Program}{G:List (Nat×AV)}{g N:Nat}{b:List AV}{e:jX}(h:Kr P G g b e):if g+N<N then mU P G (g+N) b e else Kr P G (g+N-N) b e:=by
 rw[if_neg Z,Nat.add_sub_cancel];exact h
def aGu:bh yv G0 KIW:=by
 unfold bh KIW;generalize A1=N;intro f b i h;split at h;case isFalse=>cases h
 rename_i g;split at h;case h_2=>cases h
 rename_i x o c;split at h;case h_2=>cases h
 rename_i n p e;cases h;subst g;rw[aAs e];exact aDF (aAU c o n p)
def Ss(c o d:Int)(k:Nat)(xs:Li)(n:Net)(p:Plan):ah yv G0 107 [.ptr 2 1 0 0,.dat I c,.dat I o,.dat I d] (Kw n p k xs) ⟨pd n p c o d k xs/\isZero (jP n p c o d)=true,.tup [],Kw n p (Ec k (Dk (keepA n p c o d))) (Ee xs (keepA n p c o d))⟩/\
  dA yv G0 107 [.ptr 2 1 0 0,.dat I c,.dat I o,.dat I d] (Kw n p k xs) ⟨pd n p c o d k xs,isZero (jP n p c o d),AE 40 (jP n p c o d)⟩:=by
 refine zM (c:=aIP) (A:=(aD1 n p c o d k xs)) (q:=⟨pd n p c o d k xs,isZero (jP n p c o d),AE 40 (jP n p c o d)⟩) aKR aGu hm Wy (p:=let c10:=Ty.int IntKind.i64;let e:=Ty.int .i64;let h:=n.2.1;let i:=p.2.1;let j:=n.2.2.1;let g:=p.2.2;let f:=n.2.2.2;let c8:=AV.ips [AV.dat (e.pair (Ty.bool.sl.pair e.sl)).sl n.1,AV.dat Ty.str.sl h,AV.dat Ty.str.sl j,AV.dat (Ty.str.pair (e.pair (e.pair (e.pair (e.pair (c10.pair Ty.str.sl)))))).sl f.1,AV.dat (Ty.str.pair (e.pair (e.pair (e.pair (c10.pair e))))).sl f.2.1,AV.dat (Ty.str.pair (e.pair e)).sl f.2.2,AV.dat e p.1,AV.dat e i,AV.dat e.sl.sl g.1,AV.dat e.sl.sl.sl g.2,AV.top];let r:=keepA n p c o d;let u:=Ee xs r;let c21:=jZ n p c o;let c22:=jP n p c o d;let O:=isZero c22;let c24:=chainOf (Value.iface 40 (Value.int .i64 c22));let b:=aB n d;let L:=(Du f.2.2 (Dc c) (ByteArray.mk #[],(0:Int),(0:Int))).2.2;let c32:=Du g.2 (Dc c) (Dt (Li));let c33:=Du c32 (Dc o) [];true/\(pd n p c o d k xs->1=1/\Dk xs<=Dk u/\True/\true/\(∀(x:Nat),uo n p c o d k xs x->some [c8.ipv,AV.ip e o,AV.ip e c]=some [c8.ipv,AV.ip e o,AV.ip e c])/\A5 n p c o/\(∃x,let c34:=lP n p c o d x;uo n p c o d k xs x/\x=0/\L3 1 0 0 c o d 1 0 0 (L3 c o d 1 0 0 c o 1 (L3 0 0 o c n.1 h j f.1 f.2.1 (T2 f.2.2 p.1 i g.1 g.2 (k=Dk xs+Dk c34/\xs=Ee xs c34/\T7 1 (Dk xs))))))/\(∀(x:Nat),let c35:=lP n p c o d x;let c36:=Dk xs+Dk c35;let G:=Ee xs c35;∀(y:Int),let c38:=ib n g.1 o d y;let c39:=isZero c38;let c40:=Kv n p o d y;let c41:=Ee G c40;let c42:=vA n p o d y;let v:=aF n d c42;let c44:=mS b L v;let X:=isZero c44;let c46:=jf b L v;let c47:=bE b.1 c46;
  let c48:=Eh (jd b.2.1 b.2.2 (bE b.1 y) c47) (Du c33 (Dc d) 0);uo n p c o d k xs x->nB c21 x y->(true->EH n p o d y c36 G/\(c39=false->O=false/\true/\chainOf (Value.iface 40 (Value.int .i64 c38))=c24))/\((true->c39)->(EH n p o d y c36 G/\c39)/\1=1/\Dk G<=Dk c41/\jm n d/\L3 1 0 1 0 1 1 1 1 0 (0<=c/\c<Df f.2.2/\iq n d c42/\MH b L v/\True/\(X->T4 1 0 1 1 1 1 0 (0<=c/\c<Df f.2.2/\iq n d c42/\MH b L v/\(True/\X)/\L5 1 0 (dK b.1 b.2.1 b.2.2 y/\L5 1 0 (dK b.1 b.2.1 b.2.2 c46/\L5 1 0 (countP b.1 b.2.1 b.2.2 (bE b.1 y) c47/\T2 1 1 1 1 0 (0<=c/\c<Df g.2/\0<=o/\o<Df c32/\0<=d/\d<Df c33/\(c48->(true->True/\(false=false->O=false/\true/\chainOf (Value.iface 40 (Value.int .i64 (190:Int)))=c24))/\True)/\(c48=false->∃z,let c49:=lP n p c o d z;uo n p c o d k xs z/\z=x+1/\L3 1 0 0 c o d 1 0 0 (L3 c o d 1 0 0 c o 1 (L3 0 0 o c n.1 h j f.1 f.2.1 (T2 f.2.2 p.1 i g.1 g.2 (c36+Dk c40=Dk xs+Dk c49/\c41=Ee xs c49/\T7 1 (Dk xs))))))))))))/\(X=false->O=false/\true/\chainOf (Value.iface 40 (Value.int .i64 c44))=c24))))/\∀(x:Nat),let c50:=lP n p c o d x;uo n p c o d k xs x->x=Dk c21->O/\L3 n.1 h j f.1 f.2.1 f.2.2 p.1 i g.1 (g.2=g.2/\Dk xs+Dk c50=k+Dk r/\Ee xs c50=u/\T7 1 (Dk xs)))) ⟨rfl,λhp=>?_⟩
 have eN:(n.1,n.2.1,n.2.2.1,n.2.2.2.1,n.2.2.2.2.1,n.2.2.2.2.2)=n:=rfl;have eP:(p.1,p.2.1,p.2.2.1,p.2.2.2)=p:=rfl;have eC:∀c:Int×List Bool×Li,(c.1,c.2.1,c.2.2)=c:=λ_=>rfl;have eK:n.2.2.2.2.2.getD c.toNat (⟨#[]⟩,0,0)=bC n c:=rfl;have eA:((p.2.2.2.getD c.toNat []).getD o.toNat []).getD d.toNat 0=fz p c o d:=rfl;refine Z9 ?_;simp only[qc,eN,eP,eC,eK,eA];obtain⟨⟨hpl,f,ho,hd⟩,hk,hxl⟩:=id hp;obtain⟨hR,hT,hDy⟩:=fF hpl.2;have hc:A5 n p c o:=⟨ho,f,hR⟩;have hR':0<=p.1/\p.1<p.2.1/\p.2.1<=600/\p.2.1-p.1<=60:=vT hR;have hlen:=MS hc;have hv:aA (aB n d).1 (aB n d).2.1 (aB n d).2.2=true:=(fJ n.1 n.2.1 n.2.2.1 n.2.2.2.1 n.2.2.2.2.1 n.2.2.2.2.2 hd).2.2.1;obtain⟨⟨z1,z2,_,_⟩,_⟩:=bD.1 hv;obtain⟨_,⟨m0,m1⟩⟩:=nJ n.1 n.2.1 n.2.2.1 n.2.2.2.1 n.2.2.2.2.1 n.2.2.2.2.2 hd.1 f;have m0:0<=(bC n c).2.2:=m0;have m1:(bC n c).2.2<=1439:=m1;obtain⟨⟨q1,q2,q3⟩,q4⟩:=VH hDy f ho.2.1 ho.2.2 hd.2.1 hd.2.2;have kE:∀(x:Nat),uo n p c o d k xs x->x<(jZ n p c o).length->JK n p c o d ((jZ n p c o).getD x 0)≠0->jP n p c o d=JK n p c o d ((jZ n p c o).getD x 0):=λx V hl hne=>by
  have eg:∀i:Nat,i<(jZ n p c o).length->((jZ n p c o).map (JK n p c o d)).getD i 0=JK n p c o d ((jZ n p c o).getD i 0):=λi u=>by
   rw[qA,qX,qA,qB u];rfl
  unfold jP;rw[Gs (j:=x) (by rw[vG];exact hl) (λi u=>by rw[eg i Z];exact V.2.2 i u) (by rw[eg x hl];exact hne),eg x hl]
 refine⟨by rw[qF];omega,hc,⟨0,⟨hp,wU _,λi u=>Z⟩,rfl,by rw[hk];rfl,(wB _).symm⟩,λx y V hy=>?_,λx V hl=>?_⟩;have hy:(jZ n p c o)[x]?=some y:=hy;have T:x<(jZ n p c o).length:=(qG.1 hy).1;have ey:(jZ n p c o).getD x 0=y:=by rw[qA,hy];rfl
 have hym:y∈jZ n p c o:=yA hy;have kE:=kE x V T;rw[ey]at kE;obtain⟨y0,y1⟩:=VM hc hym;have hgl:=rC V;have hwP:=VK hpl hc hd hym;have hW:EH n p o d y (xs.length+(lP n p c o d x).length) (xs++lP n p c o d x):=⟨hwP,⟨Z,Z⟩,by rw[qF],by rw[qF];omega⟩;refine⟨⟨hW,λhz=>?_⟩,λhz=>?_⟩;have h:=gq.1 hz;have e:JK n p c o d y=ib n p.2.2.1 o d y:=if_pos h;rw[kE (by rw[e];exact h),e];exact⟨hz,rfl⟩;have h:=dW.1 hz;obtain⟨_,w1,w2⟩:=EI hwP h;have hr:iq n d (vA n p o d y):=⟨hd,Z,Z⟩;obtain⟨_,_,r1,r2⟩:inR .i64 ((bX n d).2.2.2.2.1*(bX n d).2.2.2.2.2.1)/\inR .i64 (aF n d (vA n p o d y))/\vA n p o d y<=aF n d (vA n p o d y)/\aF n d (vA n p o d y)<=vA n p o d y+960:=xg n.1 n.2.1 n.2.2.1 n.2.2.2.1 n.2.2.2.2.1 n.2.2.2.2.2 hr;have hf:MH (aB n d) (bC n c).2.2 (aF n d (vA n p o d y)):=⟨hv,m0,Z,Z,Z⟩;refine⟨⟨hW,hz⟩,by simp only[qF];omega,hd,f.1,f.2,hr,hf,λh0=>?_,λh0=>?_⟩;have r:=dW.1 h0;obtain⟨b1,b2⟩:=mr hv r m0 m1;have dB:∀t:Int,0<=t->t<=3000000->bG (bE (aB n d).1 t)=true:=λt t0 t1=>dj (by unfold bE;omega) (by unfold bE;omega);refine⟨f.1,f.2,hr,hf,h0,⟨hv,Z,Z⟩,⟨hv,Z,Z⟩,⟨hv,dB _ Z Z,dB _ Z Z⟩,f.1,q1,ho.2.1,q2,hd.2.1,q3,λhgt=>?_,λhle=>?_⟩;have e:JK n p c o d y=190:=by
  unfold JK;rw[if_neg (λg=>g h),if_neg (λg=>g (show DW n p c o d y=0 from r)),if_pos (show ZF n p c o d y>fz p c o d from hgt)]
 rw[kE (by rw[e];decide),e];exact⟨rfl,rfl⟩;have e:JK n p c o d y=0:=by
  unfold JK;rw[if_neg (λg=>g h),if_neg (λg=>g (show DW n p c o d y=0 from r)),if_neg (show ¬ZF n p c o d y>fz p c o d from hle)]
 have eG:lP n p c o d (x+1)=lP n p c o d x++Kv n p o d y:=by
  unfold lP;rw[wW,hy,qAs];simp
 refine⟨x+1,⟨hp,T,λi u=>?_⟩,rfl,by rw[eG,qF];omega,by rw[eG,vO]⟩;by_cases h3:i<x;exact V.2.2 i h3;have:i=x:=by omega
 rw[this,ey];exact e;have r:=gq.1 h0;have e:JK n p c o d y=DW n p c o d y:=by
  unfold JK;rw[if_neg (λg=>g h),if_pos (show DW n p c o d y≠0 from r)]
 rw[kE (by rw[e];exact r),e];exact⟨h0,rfl⟩;have e:jP n p c o d=0:=by
  unfold jP;refine rH λi u=>?_;rw[vG]at u;rw[qA,qX,qB u];have:=V.2.2 i Z;rw[qA,qB u]at this;exact this
 rw[e,hl];exact⟨rfl,by rw[hk];rfl,rfl⟩
end Go.Eng.Sv
set_option maxHeartbeats 4000000
namespace Go.Eng.Sv
open Go.Proofs
def up1(r:Li):Li:=upR r 1 (r.length:Int)
def h4N(n:Net)(p:Plan):Li:=[p.1,p.2.1,n.2.2.2.1.length,n.2.2.2.2.2.length]
def h1N(n:Net)(p:Plan)(j:Int):Li:=h4N n p++(p.2.2.1.take j.toNat).flatMap up1
def h2N(n:Net)(p:Plan)(i:Int):Li:=h1N n p p.2.2.1.length++(p.2.2.2.take i.toNat).flatMap λt=>t.flatMap up1
def h3N(n:Net)(p:Plan)(i j:Int):Li:=h2N n p i++((p.2.2.2.getD i.toNat []).take j.toNat).flatMap up1
def hdN(n:Net)(p:Plan):Li:=h2N n p p.2.2.2.length
def A6(n:Net)(p:Plan)(c o d:Int):Li:=if fz p c o d=-1 then[]else keepA n p c o d
def Ud(n:Net)(p:Plan)(c o:Int)(k:Nat):Li:=(List.range k).flatMap λd:Nat=>A6 n p c o (d:Int)
def Sl(n:Net)(p:Plan)(c:Int)(k:Nat):Li:=(List.range k).flatMap λo:Nat=>Ud n p c (o:Int) ((p.2.2.2.getD c.toNat []).getD o []).length
def WS(n:Net)(p:Plan)(k:Nat):Li:=(List.range k).flatMap λc:Nat=>Sl n p (c:Int) (p.2.2.2.getD c []).length
def Aj(n:Net)(p:Plan)(c o d:Int):Int:=if fz p c o d=-1 then 0 else jP n p c o d
def oA(n:Net)(p:Plan)(c o:Int)(k:Nat):Int:=He ((List.range k).map λd:Nat=>Aj n p c o (d:Int))
def Xn(n:Net)(p:Plan)(c:Int)(k:Nat):Int:=He ((List.range k).map λo:Nat=>oA n p c (o:Int) ((p.2.2.2.getD c.toNat []).getD o []).length)
def RG(n:Net)(p:Plan)(k:Nat):Int:=He ((List.range k).map λc:Nat=>Xn n p (c:Int) (p.2.2.2.getD c []).length)
def AW(n:Net)(p:Plan):Li:=hdN n p++WS n p p.2.2.2.length
def k1N(n:Net)(p:Plan)(c:Int):Li:=hdN n p++WS n p c.toNat
def k2N(n:Net)(p:Plan)(c o:Int):Li:=k1N n p c++Sl n p c o.toNat
def k3N(n:Net)(p:Plan)(c o d:Int):Li:=k2N n p c o++Ud n p c o d.toNat
def wrE(n:Net)(p:Plan):Int:=if aS n=true/\jg n p=true then if RG n p p.2.2.2.length≠0 then RG n p p.2.2.2.length else if(AW n p).length>40000 then 2 else 0 else 1
def wrN(n:Net)(p:Plan):Li:=if wrE n p=0 then AW n p else[]
def wrS(n:Net)(p:Plan):Int:=if wrE n p=0 then Go.Eng.In.mP (AW n p)else 0
def tA(n:Net)(p:Plan)(k:Int):Prop:=oO n p/\0<=k/\k<=p.2.2.1.length
def tB(n:Net)(p:Plan)(i:Int):Prop:=oO n p/\0<=i/\i<=p.2.2.2.length
def tC(n:Net)(p:Plan)(i j:Int):Prop:=(oO n p/\0<=i/\i<p.2.2.2.length)/\0<=j/\j<=(p.2.2.2.getD i.toNat []).length
def t1(n:Net)(p:Plan)(c:Int):Prop:=tB n p c/\RG n p c.toNat=0
def t2(n:Net)(p:Plan)(c o:Int):Prop:=tC n p c o/\RG n p c.toNat=0/\Xn n p c o.toNat=0
def t3(n:Net)(p:Plan)(c o d:Int):Prop:=((tC n p c o/\o<(p.2.2.2.getD c.toNat []).length)/\0<=d/\d<=((p.2.2.2.getD c.toNat []).getD o.toNat []).length)/\RG n p c.toNat=0/\Xn n p c o.toNat=0/\oA n p c o d.toNat=0
def aFm(l:List Nat)(s:St):St:={s with tm:=(List.range s.tm.length).map λi=>if l.contains i then aD7 (s.tm.getD i .top)else .top}
def aDR(s:St)(l:List Nat)(n:Net)(p:Plan)(b:List (Tmp×AV))(xs:Li):St:=dD (dD (put (aFm ([2,3,4,5,6]++l) s) b) 2 (.var (wHd n p (.buf 3 (Dk xs))))) 3 (.buf 3 I xs [])
def wrA(n:Net)(p:Plan):Ann:=⟨λb s=>match b with
 |7=>some {α:=Int,inv:=λj=>tA n p j,st:=λj=>aDR s [53,54] n p [(55,.dat I j)] (h1N n p j),μ:=λj=>Dc (Di (Df p.2.2.1) j)}|12=>some {α:=Int,inv:=λj=>tB n p j,st:=λj=>aDR s [64,65] n p [(66,.dat I j)] (h2N n p j),μ:=λj=>Dc (Di (Df p.2.2.2) j)}|15=>match s.sig.T 66,s.sig.T 70 with
  |.dat (.int .i64) i,.dat (.sl (.sl (.int .i64))) t=>some {α:=Int,inv:=λj=>tC n p i j,st:=λj=>aDR s [64,65,66,70,71] n p [(72,.dat I j)] (h3N n p i j),μ:=λj=>Dc (Di (Df t) j)}|_,_=>none
 |21=>some {α:=Int,inv:=λj=>t1 n p j,st:=λj=>aDR s [82,83] n p [(84,.dat I j)] (k1N n p j),μ:=λj=>Dc (Di (Df p.2.2.2) j)}|24=>match s.sig.T 84,s.sig.T 89 with
  |.dat (.int .i64) c,.dat (.sl (.sl (.int .i64))) t=>some {α:=Int,inv:=λj=>t2 n p c j,st:=λj=>aDR s [82,83,84,13,89,90] n p [(91,.dat I j)] (k2N n p c j),μ:=λj=>Dc (Di (Df t) j)}|_,_=>none
 |27=>match s.sig.T 84,s.sig.T 91,s.sig.T 96 with
  |.dat (.int .i64) c,.dat (.int .i64) o,.dat (.sl (.int .i64)) t=>some {α:=Int,inv:=λj=>t3 n p c o j,st:=λj=>aDR s [82,83,84,13,89,90,91,15,96,97] n p [(98,.dat I j)] (k3N n p c o j),μ:=λj=>Dc (Di (Df t) j)}|_,_,_=>none
 |_=>none,λb s=>match b with
 |5=>some (dD (dD (aFm [2,3,4,5,6] s) 2 (.var (wHd n p (.buf 3 0)))) 3 (.buf 3 I [] []))|36=>some (frz [3] s)|_=>none,λ_ _=>none⟩
def KW7:Kt:=kOr 107 (wK [.mp 2,.val I,.val I,.val I] (λ(_,c,o,d,_) n p k b=>pd n p c o d k b/\isZero (jP n p c o d)=true) (λ_ _ _=>.tup []) λ(_,c,o,d,_) n p=>keepA n p c o d) <|
 kOr 104 B6 <|
 kOr 103 aDi <|
 kOr 17 (aj [.val R] (λ(l,_)=>Go.Eng.In.YT l) λ(l,_)=>.dat I (Go.Eng.In.mP l)) KW5
def aKj:KPt:=pOr 107 (wP [.mp 2,.val I,.val I,.val I] λ(_,c,o,d,_) n p k b=>⟨pd n p c o d k b,isZero (jP n p c o d),AE 40 (jP n p c o d)⟩) aJm
def cWr:Cfg:=mkp KW7 (λt=>t==32) aKj (λf=>f==107)
def VT:∀args m c,aDi args m=some c->ah yv G0 103 args m c:=by
 intro args m c h;unfold aDi at h;split at h;split at h;rename_i e;subst e;cases h;exact aAV _;cases h;cases h
def Zd{P:Program}{G:List (Nat×AV)}{f:FuncId}{args:List AV}{m:Mem}{c:jY}(h:ah P [] f args m c):ah P G f args m c:=
 λb w D E e j _ g i=>h b w D E e j (λp b=>by cases b) g i
def aKQ:ai yv G0 KW7:=af (WZ λ(_,c,o,d,_) n p k b=>(Ss c o d k b n p).1)<|af aAS<|af VT<|af (ae λ(l,_)=>Zd (Go.Eng.In.KR l)) aJP
def aDB:bJ yv G0 aKj:=jL (aD6 λ(_,c,o,d,_) n p k b=>(Ss c o d k b n p).2) Wy
def jG{α:Type}{l:List α}{f:α->Li}{x:Int}(d:α)(e:0<=x)(b:x<l.length):(l.take (x+1).toNat).flatMap f=(l.take x.toNat).flatMap f++f (l.getD x.toNat d):=by
 rw[show(x+1).toNat=x.toNat+1 by omega,wW,qAs,qA,qB (show x.toNat<l.length by omega)];simp
def jy{f:Nat->Li}{x:Int}(b:0<=x):(List.range (x+1).toNat).flatMap f=(List.range x.toNat).flatMap f++f x.toNat:=by
 rw[show(x+1).toNat=x.toNat+1 by omega,zS,qAs];simp
def zr{f:Nat->Int}{x:Int}(j:0<=x)(h:He ((List.range x.toNat).map f)=0)(g:f x.toNat=0):He ((List.range (x+1).toNat).map f)=0:=by
 refine rH λi b=>?_;rw[vG,vC]at b;rw[qA,qX,vP b];show f i=0;by_cases e:i<x.toNat;exact iC h _ (vK.2 ⟨i,qW.2 e,rfl⟩);have:i=x.toNat:=by omega
 rw[this];exact g
def Gq{f:Nat->Int}{k N:Nat}(b:k<N)(h:He ((List.range k).map f)=0)(r:f k≠0):He ((List.range N).map f)=f k:=by
 have g:∀i,i<N->((List.range N).map f).getD i 0=f i:=λi e=>by
  rw[qA,qX,vP e];rfl
 rw[Gs (j:=k) (by simpa using b) (λi e=>by rw[g i Z];exact iC h _ (vK.2 ⟨i,qW.2 e,rfl⟩)) (by rw[g k b];exact r),g k b]
def oz{α:Type}{f:α->Li}{B:Nat}:∀{l:List α},(∀x∈l,(f x).length<=B)->(l.flatMap f).length<=l.length*B
 |[],_=>by simp|a::l,h=>by
  have:=oz (l:=l) λx b=>h x (zA _ b);have:=h a (wF ..);rw[qAh,qF,wO,Nat.succ_mul];omega
def aAM(r:Li):(up1 r).length=r.length:=by unfold up1 upR;simp
structure aGe(n:Net)(p:Plan):Prop where
 m:n.2.2.2.1.length<=12
 q:n.2.2.2.2.2.length<=4
 nl:p.2.2.1.length=n.2.2.2.1.length
 nr:∀r∈p.2.2.1,r.length=n.2.2.2.1.length/\∀x∈r,-1<=x/\x<=40
 dl:p.2.2.2.length=n.2.2.2.2.2.length
 dr:∀t∈p.2.2.2,t.length=n.2.2.2.1.length/\∀r∈t,r.length=n.2.2.2.1.length/\∀x∈r,-1<=x/\x<=65518
def AQ{n:Net}{p:Plan}(h:oO n p):aGe n p:=by
 obtain⟨T,X⟩:=h;obtain⟨_,f,z⟩:=fF X;have e:noF n=true:=aK n.1 n.2.1 n.2.2.1 n.2.2.2.1 n.2.2.2.2.1 n.2.2.2.2.2 T;have G:(n.2.2.2.1.length:Int)<=12:=(eJ n.1 n.2.1 n.2.2.1 n.2.2.2.1 n.2.2.2.2.1 n.2.2.2.2.2 e).1;have L:(n.2.2.2.2.1.length:Int)<=40:=(nh n.1 n.2.1 n.2.2.1 n.2.2.2.1 n.2.2.2.2.1 n.2.2.2.2.2 e).1;have c4:(n.2.2.2.2.2.length:Int)<=4:=((mq (by decide) (λl:Cla=>l.1) lq n.2.2.2.2.2).1 (ku n.1 n.2.1 n.2.2.1 n.2.2.2.1 n.2.2.2.2.1 n.2.2.2.2.2 e).2.2.2.2.2).1;have V:(p.2.2.1.length:Int)=n.2.2.2.1.length:=by
  unfold l8 at f;simp only[qC,qE]at f;exact f.1
 unfold oP at z;simp only[qC,qE,qQ]at z;refine⟨Z,Z,Z,λr v=>?_,Z,λt O=>?_⟩;obtain⟨i,y,rfl⟩:=wX.1 v;have b:=(pu (n:=n) V).1 f i Z;rw[qA,qB y,qK]at b;unfold rowOk at b;simp only[qC,qE,qQ]at b;refine⟨Z,λx u=>?_⟩;have j:=b.2 x u;unfold br cY at j;simp only[yH,qC,qE]at j;omega;have b:=z.2 t O;have j:(t.length:Int)=n.2.2.2.1.length:=by
  unfold sgF at b;simp only[qC,qE]at b;exact b.1
 refine⟨Z,λr v=>?_⟩;obtain⟨i,y,rfl⟩:=wX.1 v;have g:=(HN j).1 b i Z;rw[qA,qB y,qK]at g;unfold sgR at g;simp only[qC,qE,qQ]at g;refine⟨Z,λx u=>?_⟩;have A:=g.2 x u;unfold jt iE at A;rw[qE]at A;exact A
def Ff{m:Nat}(hm:m<=12){l:Lj}(e:l.length<=12)(h:∀r∈l,r.length=m):(l.flatMap up1).length<=144:=by
 have g:=oz (l:=l) (f:=up1) (B:=12) λr b=>by rw[aAM,h r b];exact hm
 have:=wH 12 e;omega
def Vk{n:Net}{p:Plan}(h:aGe n p)(j:Int):(h1N n p j).length<=148:=by
 have:=Ff h.m (l:=p.2.2.1.take j.toNat) (by rw[qP,h.nl];have:=h.m;omega) λr b=>(h.nr r (qAk b)).1;unfold h1N h4N;rw[qF];simp only[wO,xR];omega
def O2{n:Net}{p:Plan}(h:aGe n p)(i:Int):(h2N n p i).length<=724:=by
 have x:=Vk h p.2.2.1.length;have v:=oz (l:=p.2.2.2.take i.toNat) (f:=λt:Lj=>t.flatMap up1) (B:=144) λt g=>by
  obtain⟨e,b⟩:=h.dr t (qAk g);exact Ff h.m (by rw[e];exact h.m) λr j=>(b r j).1
 have u:(p.2.2.2.take i.toNat).length<=4:=by rw[qP,h.dl];have:=h.q;omega
 have:=wH 144 u;unfold h2N;rw[qF];omega
def aAf{n:Net}{p:Plan}(h:aGe n p){i:Int}(j:Int)(v:0<=i)(u:i<p.2.2.2.length):(h3N n p i j).length<=868:=by
 have g:=O2 h i;obtain⟨e,b⟩:=h.dr _ (getD_mem (l:=p.2.2.2) (i:=i.toNat) (d:=[]) Z);have:=Ff h.m (l:=(p.2.2.2.getD i.toNat []).take j.toNat) (by rw[qP,e];have:=h.m;omega) λr f=>(b r (qAk f)).1;unfold h3N;rw[qF];omega
def Jk{n:Net}{p:Plan}{c o d:Int}(h:jP n p c o d=0):∀x∈jZ n p c o,JK n p c o d x=0:=λx b=>iC h _ (vK.2 ⟨x,b,rfl⟩)
def ZK{n:Net}{p:Plan}{c o d:Int}(e:oO n p)(u:uG n c)(r:0<=o/\o<n.2.2.2.1.length)(hd:0<=d/\d<n.2.2.2.1.length)(h:Aj n p c o d=0):(A6 n p c o d).length<=1641619:=by
 unfold Aj at h;unfold A6;split;exact wU _;rename_i f;rw[if_neg f]at h;have b:noF n=true:=aK n.1 n.2.1 n.2.2.1 n.2.2.2.1 n.2.2.2.2.1 n.2.2.2.2.2 e.1;have g:A5 n p c o:=⟨⟨b,r⟩,u,(fF e.2).1⟩;have:=rC (n:=n) (p:=p) (c:=c) (o:=o) (d:=d) (k:=0) (xs:=[]) (j:=(jZ n p c o).length) ⟨⟨⟨e,u,⟨b,r⟩,⟨b,hd⟩⟩,rfl,wU _⟩,qM _,λi v=>Jk h _ (getD_mem v)⟩;have x:=MS g;unfold keepA;omega
def Lq{n:Net}{p:Plan}{c o:Int}{k:Nat}(b:oO n p)(g:uG n c)(e:0<=o/\o<n.2.2.2.1.length)(r:k<=n.2.2.2.1.length)(h:oA n p c o k=0):(Ud n p c o k).length<=19699428:=by
 have j:=(AQ b).m;have i:=oz (l:=List.range k) (f:=λd:Nat=>A6 n p c o (d:Int)) (B:=1641619) λd hd=>by
  have hd:=qW.1 hd;exact ZK b g e ⟨Z,Z⟩ (iC h _ (vK.2 ⟨d,qW.2 hd,rfl⟩))
 rw[vC]at i;have:=wH 1641619 (show k<=12 by omega);unfold Ud;omega
def aDK{n:Net}{p:Plan}(g:oO n p){c o:Int}(h:uG n c)(j:0<=o/\o<n.2.2.2.1.length):(p.2.2.2.getD c.toNat []).length=n.2.2.2.1.length/\((p.2.2.2.getD c.toNat []).getD o.toNat []).length=n.2.2.2.1.length:=by
 have b:=AQ g;obtain⟨c0,c1⟩:=h;have r:=b.dl;obtain⟨f,e⟩:=b.dr _ (getD_mem (l:=p.2.2.2) (i:=c.toNat) (d:=[]) Z);exact⟨f,(e _ (getD_mem Z)).1⟩
def KQ{n:Net}{p:Plan}{c:Int}{k:Nat}(b:oO n p)(i:uG n c)(u:k<=n.2.2.2.1.length)(h:Xn n p c k=0):(Sl n p c k).length<=236393136:=by
 have r:=(AQ b).m;have j:=oz (l:=List.range k) (f:=λo:Nat=>Ud n p c (o:Int) ((p.2.2.2.getD c.toNat []).getD o []).length) (B:=19699428) λo g=>by
  have g:=qW.1 g;have e:=(aDK b i (o:=(o:Int)) ⟨Z,Z⟩).2;rw[qR]at e;exact Lq b i ⟨Z,Z⟩ Z (iC h _ (vK.2 ⟨o,qW.2 g,rfl⟩))
 rw[vC]at j;have:=wH 19699428 (show k<=12 by omega);unfold Sl;omega
def M8{n:Net}{p:Plan}{k:Nat}(b:oO n p)(v:k<=n.2.2.2.2.2.length)(h:RG n p k=0):(WS n p k).length<=945572544:=by
 have u:=(AQ b).q;have j:=oz (l:=List.range k) (f:=λc:Nat=>Sl n p (c:Int) (p.2.2.2.getD c []).length) (B:=236393136) λc g=>by
  have g:=qW.1 g;have e:uG n (c:Int):=⟨Z,Z⟩;have x:=(AQ b).dl;have r:=((AQ b).dr _ (getD_mem (l:=p.2.2.2) (i:=c) (d:=[]) Z)).1;exact KQ b e Z (iC h _ (vK.2 ⟨c,qW.2 g,rfl⟩))
 rw[vC]at j;have:=wH 236393136 (show k<=4 by omega);unfold WS;omega
abbrev B0:=aj [.row N,.row Pl] (λ(_,p,_)=>jh p) λ(n,p,_)=>.tup [.agg [.dat R (wrN n p),.dat I (wrS n p)],.dat I (wrE n p)]
def aAQ:eO 48 B0:=ae λ(((cs,ns,os,fs,ls,ks):Net),((p1,p2,nx,L):Plan),_)=>by
 refine zG (c:=cWr) (A:=(lvA [(7,[3,4,5,6,8,10,12,13,14,15,16,17,18,53,54,55,64,65,66,70,71,72,82,83,84,89,90,91,96,97,98]),(12,[3,4,5,6,10,12,13,14,15,16,17,18,64,65,66,70,71,72,82,83,84,89,90,91,96,97,98]),(15,[3,4,5,6,10,12,13,14,15,16,17,18,64,65,66,70,71,72,82,83,84,89,90,91,96,97,98]),(21,[4,5,6,13,14,15,16,17,18,82,83,84,89,90,91,96,97,98]),(24,[4,5,6,13,14,15,16,17,18,82,83,84,89,90,91,96,97,98]),(27,[4,5,6,13,14,15,16,17,18,82,83,84,89,90,91,96,97,98])] (wrA (cs,ns,os,fs,ls,ks) (p1,p2,nx,L)))) (Ac:=az) aKQ gC hm aDB (p:=let e:=(p1,p2,nx,L);let g:=(cs,ns,os,fs,ls,ks);let V:=Eh (Df (fa g)) 0;let r:=Dj V;let c5:=Dz V true (Dj (jg g e));let h:=wrN g e;let i:=wrS g e;let c8:=wrE g e;let z:=[p1,p2,Df fs,Df ks];let c10:=Ee (Dt Int) z;let u:=Df L;(false=false/\true)/\(jh e->true/\True/\(r->jh e)/\(r->r->r)/\(Dh true r->r)/\(c5->(true->True/\(false=false->true/\true/\(Dj false->True/\T5 1 0 1 0 1 0 1 0 (h=Dt Int/\0=i/\1=c8/\True))/\(Dj false=false->Q3 1 0 1 0 (h=Dt Int/\0=i/\0=c8/\True))))/\True)/\(c5=false->L3 g e 1 0 0 1 0 0 1 (L3 0 0 Z0 Q1 Q1 cs ns os fs (L3 ls ks p1 p2 nx L 0 (Dt Int) (Dt Int) (L3 1 0 0 1 0 0 1 1 1 (T4 1 0 1 1 1 1 0 ((aGC [] 0/\WY [] z)/\1=1/\Dk (Dt Int)<=Dk c10/\(∃x,tA g e x/\L3 e 1 0 0 1 0 0 1 0 (Q2 0 nx (Df nx) (0=x/\L3 Z0 Q1 Q1 cs ns os fs ls ks (Q3 p1 p2 nx L (0+Dk z=Dk (h1N g e x)/\c10=h1N g e x/\z7 1 0 0 1 0 0)))))/\∀(x:Int),let c12:=Dn x (Df nx);let A:=Du nx (Dc x) [];let v:=Dk (h1N g e x);let c15:=upR A 1 (Df A);let c16:=Ee (h1N g e x) c15;let c17:=x+1;
  tA g e x->(c12->0<=x/\x<Df nx/\rsP 1 A (h1N g e x) v/\1=1/\v<=Dk c16/\inR .i64 c17/\∃y,tA g e y/\(L3 e 1 0 0 1 0 0 1 0 (Q2 0 nx (Df nx) (c17=y/\L3 Z0 Q1 Q1 cs ns os fs ls ks (Q3 p1 p2 nx L (v+Dk c15=Dk (h1N g e y)/\c16=h1N g e y/\z7 1 0 0 1 0 0)))))/\Dc (Df nx-y)<Dc (Df nx-x))/\(c12=false->(∃x_3,tB g e x_3/\L3 e 1 0 0 1 0 0 1 0 (Q2 0 L u (0=x_3/\L3 Z0 Q1 Q1 cs ns os fs ls ks (Q3 p1 p2 nx L (v=Dk (h2N g e x_3)/\h1N g e x=h2N g e x_3/\z7 1 0 0 1 0 0)))))/\∀(O:Int),let c18:=Du L (Dc O) (Dt (Li));let c19:=Df c18;let c20:=Dk (h2N g e O);let c21:=O+1;tB g e O->(Dn O u->0<=O/\O<u/\(∃G,let c22:=h3N g e O G;tC g e O G/\L3 e 1 0 0 1 0 0 1 0 (T6 0 L u O c18 c19 (0=G/\L3 Z0 Q1 Q1 cs ns os fs ls ks (Q3 p1 p2 nx L (c20=Dk c22/\h2N g e O=c22/\z7 1 0 0 1 0 0)))))/\∀(G:Int),let c23:=Du c18 (Dc G) [];let c24:=h3N g e O G;let c25:=Dk c24;let c26:=upR c23 1 (Df c23);let c27:=Ee c24 c26;let c28:=G+1;tC g e O G->(Dn G c19->0<=G/\G<c19/\rsP 1 c23 c24 c25/\1=1/\c25<=Dk c27/\inR .i64 c28/\∃y,let c29:=h3N g e O y;
  tC g e O y/\(L3 e 1 0 0 1 0 0 1 0 (T6 0 L u O c18 c19 (c28=y/\L3 Z0 Q1 Q1 cs ns os fs ls ks (Q3 p1 p2 nx L (c25+Dk c26=Dk c29/\c27=c29/\z7 1 0 0 1 0 0)))))/\Dc (c19-y)<Dc (c19-G))/\(Dn G c19=false->inR .i64 c21/\∃y,tB g e y/\(L3 e 1 0 0 1 0 0 1 0 (Q2 0 L u (c21=y/\L3 Z0 Q1 Q1 cs ns os fs ls ks (Q3 p1 p2 nx L (c25=Dk (h2N g e y)/\c24=h2N g e y/\z7 1 0 0 1 0 0)))))/\Dc (u-y)<Dc (u-O)))/\(Dn O u=false->(∃G,t1 g e G/\L3 1 0 0 1 0 0 1 0 0 (L5 L u (0=G/\L3 Z0 Q1 Q1 cs ns os fs ls ks (Q3 p1 p2 nx L (c20=Dk (k1N g e G)/\h2N g e O=k1N g e G/\z7 1 0 0 1 0 0)))))/\∀(b:Int),let c30:=Du L (Dc b) (Dt (Li));let X:=Df c30;let c32:=Dk (k1N g e b);let c33:=b+1;let c34:=Int.ofNat c32;let c35:=Eh c34 40000;t1 g e b->(Dn b u->0<=b/\b<u/\(∃f,let c36:=k2N g e b f;t2 g e b f/\L3 1 0 0 1 0 0 1 0 0 (T6 b L u b c30 X (0=f/\L3 Z0 Q1 Q1 cs ns os fs ls ks (Q3 p1 p2 nx L (c32=Dk c36/\k1N g e b=c36/\z7 1 0 0 1 0 0)))))/\∀(f:Int),let c37:=Du c30 (Dc f) [];let T:=Df c37;let c39:=k2N g e b f;let c40:=Dk c39;let c41:=f+1;t2 g e b f->(Dn f X->0<=f/\f<X/\(∃j,let c42:=k3N g e b f j;
  t3 g e b f j/\L3 1 0 0 1 0 0 1 0 0 (L3 b f L u b c30 X f c37 (T=T/\0=j/\L3 Z0 Q1 Q1 cs ns os fs ls ks (Q3 p1 p2 nx L (c40=Dk c42/\c39=c42/\z7 1 0 0 1 0 0)))))/\∀(j:Int),let c43:=Dw (Du c37 (Dc j) 0) (-1);let c44:=k3N g e b f j;let c45:=Dk c44;let c46:=jP g e b f j;let c47:=isZero c46;let c48:=keepA g e b f j;let c49:=Ee c44 c48;let c50:=j+1;t3 g e b f j->(Dn j T->0<=j/\j<T/\(c43->(true->pd g e b f j c45 c44/\(c47=false->true/\true/\(Dj false->True/\T5 1 0 1 0 1 0 1 0 (h=Dt Int/\0=i/\c46=c8/\True))/\(Dj false=false->Q3 1 0 1 0 (h=Dt Int/\0=i/\0=c8/\True))))/\((true->c47)->(pd g e b f j c45 c44/\c47)/\1=1/\c45<=Dk c49/\inR .i64 c50/\∃y,let c51:=k3N g e b f y;t3 g e b f y/\(L3 1 0 0 1 0 0 1 0 0 (L3 b f L u b c30 X f c37 (T=T/\c50=y/\L3 Z0 Q1 Q1 cs ns os fs ls ks (Q3 p1 p2 nx L (c45+Dk c48=Dk c51/\c49=c51/\z7 1 0 0 1 0 0)))))/\Dc (T-y)<Dc (T-j)))/\(c43=false->inR IntKind.i64 c50/\∃y,let c52:=k3N g e b f y;t3 g e b f y/\(L3 1 0 0 1 0 0 1 0 0 (L3 b f L u b c30 X f c37 (T=T/\c50=y/\L3 Z0 Q1 Q1 cs ns os fs ls ks (Q3 p1 p2 nx L (c45=Dk c52/\c44=c52/\z7 1 0 0 1 0 0)))))/\Dc (T-y)<Dc (T-j)))/\(Dn j T=false->inR .i64 c41/\∃y,let c53:=k2N g e b y;
  t2 g e b y/\(L3 1 0 0 1 0 0 1 0 0 (T6 b L u b c30 X (c41=y/\L3 Z0 Q1 Q1 cs ns os fs ls ks (Q3 p1 p2 nx L (c45=Dk c53/\c44=c53/\z7 1 0 0 1 0 0)))))/\Dc (X-y)<Dc (X-f)))/\(Dn f X=false->inR .i64 c33/\∃y,t1 g e y/\(L3 1 0 0 1 0 0 1 0 0 (L5 L u (c33=y/\L3 Z0 Q1 Q1 cs ns os fs ls ks (Q3 p1 p2 nx L (c40=Dk (k1N g e y)/\c39=k1N g e y/\z7 1 0 0 1 0 0)))))/\Dc (u-y)<Dc (u-b)))/\(Dn b u=false->T2 1 1 1 0 c32 ((c35->(true->True/\(false=false->true/\true/\(Dj false->True/\T5 1 0 1 0 1 0 1 0 (h=Dt Int/\0=i/\2=c8/\True))/\(Dj false=false->Q3 1 0 1 0 (h=Dt Int/\0=i/\0=c8/\True))))/\True)/\(c35=false->L3 1 0 0 1 0 0 1 0 0 (L3 L u b (Dn b u) 1 0 0 1 0 (L3 0 1 0 10 c32 (k1N g e b) c34 c35 Z0 (L3 Q1 Q1 cs ns os fs ls ks p1 (L3 p2 nx L c32 (k1N g e b) 1 0 0 1 (L3 0 0 1 1 1 0 1 1 1 (0=0/\In.YT (k1N g e b)/\Q3 1 0 1 0 (true/\true/\(Dj true->False)/\(Dj true=false->Q3 1 0 1 0 (k1N g e b=h/\In.mP (k1N g e b)=i/\0=c8/\True)))))))))))))))))))))) ⟨⟨rfl,rfl⟩,λhp=>?_⟩
 refine Z9 ?_;simp only[qc,yX,yL,wG,xU,qCv,kR,gJ];obtain⟨n,hn⟩:∃n:Net,n=(cs,ns,os,fs,ls,ks):=⟨_,rfl⟩;obtain⟨p,hpe⟩:∃p:Plan,p=(p1,p2,nx,L):=⟨_,rfl⟩;have e1:fs=n.2.2.2.1:=by rw[hn]
 have e2:ks=n.2.2.2.2.2:=by rw[hn]
 have e3:nx=p.2.2.1:=by rw[hpe]
 have e4:L=p.2.2.2:=by rw[hpe]
 have e5:p1=p.1:=by rw[hpe]
 have e6:p2=p.2.1:=by rw[hpe]
 rw[<- hn,<- hpe]at *;clear hn hpe;subst e1 e2 e3 e4 e5 e6;have eS:aS n=decide (((fa n).length:Int)=0):=Br;have hbad:¬(aS n=true/\jg n p=true)->wrE n p=1:=λh=>if_neg h;have hne:wrE n p≠0->wrN n p=[]/\(0:Int)=wrS n p:=λh=>⟨if_neg h,(if_neg h).symm⟩;refine⟨λ_=>hp,λh=>?_,λ⟨h1,h2⟩=>?_⟩;have:wrE n p=1:=hbad λ⟨g1,g2⟩=>by
  rw[eS,qE]at g1;rcases h with h|h;omega;rw[h]at g2;cases g2
 obtain⟨q1,q2⟩:=hne (by rw[this];decide);exact⟨q1,q2,this.symm⟩;have v:oO n p:=⟨by rw[eS,qE];omega,h2⟩;have V:=AQ v;have hW:wrE n p=if RG n p p.2.2.2.length≠0 then RG n p p.2.2.2.length else if(AW n p).length>40000 then 2 else 0:=if_pos v;have hno:noF n=true:=aK n.1 n.2.1 n.2.2.1 n.2.2.2.1 n.2.2.2.2.1 n.2.2.2.2.2 v.1;have rs:∀(r:Li) (xs:Li),(∀x∈r,-1<=x/\x<=65518)->r.length<=12->xs.length<=10000->rsP 1 r xs xs.length:=λr xs q1 q2 q3=>⟨⟨rfl,Z⟩,by decide,by decide,λx hx=>by have:=q1 x hx;omega⟩;have m12:=V.m;have q04:=V.q;have nl:=V.nl;have dl:=V.dl;refine⟨⟨rfl,by show 0+4<=1000000000000;decide⟩,by simp,⟨0,⟨v,qH _,Z⟩,rfl,rfl,rfl⟩,λx ⟨_,x0,x1⟩=>⟨λhx=>?_,λhx=>⟨⟨0,⟨v,qH _,Z⟩,rfl,?_,?_⟩,?_⟩⟩⟩;obtain⟨q1,q2⟩:=V.nr _ (getD_mem (l:=p.2.2.1) (i:=x.toNat) (d:=[]) Z);have e:h1N n p (x+1)=h1N n p x++up1 (p.2.2.1.getD x.toNat []):=by unfold h1N;rw[jG [] x0 hx,vO]
 refine⟨x0,hx,rs _ _ (λy hy=>by have:=q2 y hy;omega) Z (by have:=Vk V x;omega),by rw[qF];omega,au Z,x+1,⟨v,Z,Z⟩,⟨rfl,by rw[e,qF];rfl,e.symm⟩,Z⟩;have:x=p.2.2.1.length:=by omega
 rw[this];simp[h2N];have:x=p.2.2.1.length:=by omega
 rw[this];simp[h2N];rintro x ⟨_,x0,x1⟩;refine⟨λhx=>⟨x0,hx,⟨0,⟨⟨v,x0,hx⟩,qH _,Z⟩,rfl,by simp[h3N],by simp[h3N]⟩,λy ⟨_,y0,y1⟩=>⟨λhy=>?_,λhy=>?_⟩⟩,λhx=>⟨⟨0,⟨⟨v,qH _,Z⟩,rfl⟩,rfl,?_,?_⟩,?_⟩⟩;obtain⟨q1,q2⟩:=V.dr _ (getD_mem (l:=p.2.2.2) (i:=x.toNat) (d:=[]) Z);obtain⟨q3,q4⟩:=q2 _ (getD_mem (l:=p.2.2.2.getD x.toNat []) (i:=y.toNat) (d:=[]) Z);have e:h3N n p x (y+1)=h3N n p x y++up1 ((p.2.2.2.getD x.toNat []).getD y.toNat []):=by unfold h3N;rw[jG [] y0 hy,vO]
 refine⟨y0,hy,rs _ _ q4 Z (by have:=aAf V y x0 hx;omega),by rw[qF];omega,au Z,y+1,⟨⟨v,x0,hx⟩,Z,Z⟩,⟨rfl,by rw[e,qF];rfl,e.symm⟩,Z⟩;have ey:y=(p.2.2.2.getD x.toNat []).length:=by omega
 have e:h2N n p (x+1)=h3N n p x y:=by
  unfold h3N;rw[ey,qR,yQ];unfold h2N;rw[jG [] x0 hx,vO]
 exact⟨au Z,x+1,⟨v,Z,Z⟩,⟨rfl,by rw[e],e.symm⟩,Z⟩;have:x=p.2.2.2.length:=by omega
 rw[this];simp[k1N,hdN,WS];have:x=p.2.2.2.length:=by omega
 rw[this];simp[k1N,hdN,WS];rintro x ⟨⟨_,x0,x1⟩,O⟩;have hd2:=O2 V p.2.2.2.length;refine⟨λhx=>?_,λhx=>?_⟩;have hcl:uG n x:=⟨x0,Z⟩;have xt:((x.toNat:Nat):Int)=x:=Z;have tl:=(aDK v hcl (o:=0));obtain⟨tr1,_⟩:=V.dr _ (getD_mem (l:=p.2.2.2) (i:=x.toNat) (d:=[]) Z);refine⟨x0,hx,⟨0,⟨⟨⟨v,x0,hx⟩,qH _,Z⟩,O,rfl⟩,rfl,by simp[k2N,Sl],by simp[k2N,Sl]⟩,λy ⟨⟨_,y0,y1⟩,_,ya⟩=>⟨λhy=>?_,λhy=>?_⟩⟩;have yt:((y.toNat:Nat):Int)=y:=by omega
 obtain⟨_,tr2⟩:=aDK v hcl (o:=y) ⟨y0,Z⟩;refine⟨y0,hy,⟨0,⟨⟨⟨⟨⟨v,x0,hx⟩,y0,Z⟩,hy⟩,qH _,Z⟩,O,ya,rfl⟩,rfl,by simp[k3N,Ud],by simp[k3N,Ud]⟩,λz ⟨⟨_,z0,z1⟩,_,_,za⟩=>⟨λhz=>?_,λhz=>?_⟩⟩;have zt:((z.toNat:Nat):Int)=z:=by omega
 have eD:((p.2.2.2.getD x.toNat []).getD y.toNat []).getD z.toNat 0=fz p x y z:=rfl;rw[eD];have hkl:(k3N n p x y z).length<=900000000000:=by
  have l1:=M8 v (k:=x.toNat) Z O;have l2:=KQ v hcl (k:=y.toNat) Z ya;have l3:=Lq v hcl (o:=y) (k:=z.toNat) ⟨y0,Z⟩ Z za;unfold k3N k2N k1N hdN;simp only[qF];omega
 have hK:pd n p x y z (k3N n p x y z).length (k3N n p x y z):=⟨⟨v,hcl,⟨hno,y0,Z⟩,⟨hno,z0,Z⟩⟩,rfl,hkl⟩;have step:Aj n p x y z=0->(∃w,t3 n p x y w/\(z+1=w/\(k3N n p x y z).length+(A6 n p x y z).length=(k3N n p x y w).length/\k3N n p x y z++A6 n p x y z=k3N n p x y w)/\(((p.2.2.2.getD x.toNat []).getD y.toNat []).length-w).toNat<(((p.2.2.2.getD x.toNat []).getD y.toNat []).length-z).toNat):=λh0=>by
  have e:k3N n p x y (z+1)=k3N n p x y z++A6 n p x y z:=by
   unfold k3N Ud;rw[jy z0,zt,vO]
  exact⟨z+1,⟨⟨⟨⟨⟨v,x0,hx⟩,y0,Z⟩,hy⟩,Z,Z⟩,O,ya,zr z0 za (by rw[zt];exact h0)⟩,⟨rfl,by rw[e,qF],e.symm⟩,Z⟩
 refine⟨z0,hz,λhne1=>⟨⟨hK,λhz0=>?_⟩,λhz0=>⟨⟨hK,hz0⟩,by rw[qF];omega,au Z,?_⟩⟩,λh1=>⟨au Z,?_⟩⟩;have hz1:=gq.1 hz0;have c1:Aj n p x y z=jP n p x y z:=if_neg hne1;have r1:oA n p x y ((p.2.2.2.getD x.toNat []).getD y.toNat []).length=jP n p x y z:=by
  unfold oA;rw[Gq (k:=z.toNat) Z za (by rw[zt,c1];exact hz1),zt,c1]
 have r2:Xn n p x (p.2.2.2.getD x.toNat []).length=jP n p x y z:=by
  unfold Xn;rw[Gq (k:=y.toNat) Z ya (by rw[yt,r1];exact hz1),yt,r1]
 have r3:RG n p p.2.2.2.length=jP n p x y z:=by
  unfold RG;rw[Gq (k:=x.toNat) Z O (by rw[xt,r2];exact hz1),xt,r2]
 have r4:wrE n p=jP n p x y z:=by rw[hW,r3,if_pos hz1]
 obtain⟨q1,q2⟩:=hne (by rw[r4];exact hz1);exact⟨q1,q2,r4.symm⟩;have c1:Aj n p x y z=jP n p x y z:=if_neg hne1;have c2:A6 n p x y z=keepA n p x y z:=if_neg hne1;have:=step (by rw[c1];exact dW.1 hz0);rw[c2]at this;exact this;have c1:Aj n p x y z=0:=if_pos h1;have c2:A6 n p x y z=[]:=if_pos h1;have:=step c1;rw[c2]at this;simpa using this;have ez:z=((p.2.2.2.getD x.toNat []).getD y.toNat []).length:=by omega
 have e:k2N n p x (y+1)=k3N n p x y z:=by
  unfold k3N;rw[ez,qR];unfold k2N Sl;rw[jy y0,yt,vO]
 have za':oA n p x y ((p.2.2.2.getD x.toNat []).getD y.toNat []).length=0:=by rw[ez,qR]at za;exact za
 exact⟨au Z,y+1,⟨⟨⟨v,x0,hx⟩,Z,Z⟩,O,zr y0 ya (by rw[yt];exact za')⟩,⟨rfl,by rw[e],e.symm⟩,Z⟩;have ey:y=(p.2.2.2.getD x.toNat []).length:=by omega
 have e:k1N n p (x+1)=k2N n p x y:=by
  unfold k2N;rw[ey,qR];unfold k1N WS;rw[jy x0,xt,vO]
 have ya':Xn n p x (p.2.2.2.getD x.toNat []).length=0:=by rw[ey,qR]at ya;exact ya
 exact⟨au Z,x+1,⟨⟨v,Z,Z⟩,zr x0 O (by rw[xt];exact ya')⟩,⟨rfl,by rw[e],e.symm⟩,Z⟩;have ex:x=p.2.2.2.length:=by omega
 have eN:k1N n p x=AW n p:=by unfold k1N AW;rw[ex,qR]
 rw[ex,qR]at O;have hl:=M8 v (k:=p.2.2.2.length) Z O;rw[eN];rw[O,if_neg (λg=>g rfl)]at hW;refine⟨λhgt=>?_,λhle=>?_⟩;rw[if_pos Z]at hW;obtain⟨q1,q2⟩:=hne (by rw[hW];decide);exact⟨q1,q2,hW.symm⟩;rw[if_neg Z]at hW;refine⟨?_,(if_pos hW).symm,(if_pos hW).symm,hW.symm⟩;show(AW n p).length<=9223372036854775807;omega
def pN(nx:Lj):Plan:=(0,0,nx,[])
def aIJ(n:Net)(k o t:Int):Prop:=(jm n o/\uG n k)/\0<=t/\t<=2200000
def JJ(n:Net)(k o a b:Int):Li:=VO (aB n o) (bC n k).2.1 b ((b-a).toNat+1) a
def Q8(n:Net)(k o a b:Int):Prop:=jm n o/\uG n k/\0<=a/\a<b/\b<=1000000
def JI(n:Net)(k o a b:Int)(x:Nat×Int):Prop:=(a+x.1<=x.2/\x.2<=b)/\x.1<=(JJ n k o a b).length/\(JJ n k o a b).drop x.1=VO (aB n o) (bC n k).2.1 b ((b-a).toNat+1-x.1) x.2
def zP(n:Net)(nx:Lj)(k o d cut:Int):Int:=if ib n nx o d cut≠0 then ib n nx o d cut else if DW n (pN nx) k o d cut≠0 then DW n (pN nx) k o d cut else if ZF n (pN nx) k o d cut<0 then 1 else 0
def RQ(n:Net)(nx:Lj)(k o d cut:Int):Int:=ZF n (pN nx) k o d cut
def GQ(n:Net)(nx:Lj)(k o d cut:Int):Prop:=Az n nx o d cut/\uG n k
def aHn(n:Net)(nx:Lj)(a b:Int):Prop:=aS n=true/\l8 n nx=true/\0<=a/\a<b/\b<=600/\b-a<=60
def aIs(n:Net)(o:Int):Prop:=0<=o/\o<n.2.2.2.1.length
def cellP(n:Net)(nx:Lj)(k o d a b:Int):Prop:=aHn n nx a b/\uG n k/\aIs n o/\aIs n d
def AG(n:Net)(k o a b:Int):Li:=JJ n k o (1440*a) (1440*b)
def KB(n:Net)(nx:Lj)(k o d a b:Int)(j:Nat):Int:=(((AG n k o a b).take j).map (RQ n nx k o d)).foldl max (-1)
def IC(n:Net)(nx:Lj)(k o d a b:Int):Int:=He ((AG n k o a b).map (zP n nx k o d))
def np(n:Net)(nx:Lj)(k o d a b:Int):Int:=if IC n nx k o d a b=0 then KB n nx k o d a b (AG n k o a b).length else -1
def IB(n:Net)(nx:Lj)(k o d a b:Int)(j:Nat):Prop:=cellP n nx k o d a b/\j<=(AG n k o a b).length/\∀i:Nat,i<j->zP n nx k o d ((AG n k o a b).getD i 0)=0
def aIq(n:Net)(k o a b:Int):Ku:=⟨λe y=>match e with
 |1=>some {α:=Nat×Int,inv:=λx=>JI n k o a b x,st:=λx=>⟨put y.s [(7,.dat I x.2)],x.1,true⟩,μ:=λx=>Dc (Di (Dq b 1) x.2)}|_=>none,λ_ _=>none,λe=>e==2⟩
abbrev CG:=aj [.ptr N,.val I,.val I,.val I] (λ(n,k,o,t,_)=>aIJ n k o t) λ(n,k,o,t,_)=>.tup [.dat I (aAi n k o t),.dat I (aFT n k o t)]
abbrev CH:=aj [.ptr N,.val I,.val I,.val I,.val I] (λ_=>True) λ(n,k,o,a,b,_)=>.fn 199 [.ip I a,.ipv (.ip N n),.ip I o,.ip I k,.ip I b]
def KC0:Kt:=kOr 150 (aj [.row C,.val I,.val I] (λ(c,a,b,_)=>countP c.1 c.2.1 c.2.2 a b) λ(c,a,b,_)=>.dat I (jd c.2.1 c.2.2 a b)) <|
 kOr 204 CG <|
 kOr 138 CH KR5
def aIQ:Cfg:=mkp KC0 (λ_=>false) KPw (λf=>f==203||f==205||f==202)
def KC1:Kt:=kOr 139 (aj [.ptr N,.val M,.val I,.val I,.val I,.val I] (λ(n,nx,k,o,d,c,_)=>GQ n nx k o d c/\isZero (zP n nx k o d c)=true) λ(n,nx,k,o,d,c,_)=>.dat I (RQ n nx k o d c)) KC0
def aKk:KPt:=pOr 139 (A4 [.ptr N,.val M,.val I,.val I,.val I,.val I] λ(n,nx,k,o,d,c,_)=>⟨GQ n nx k o d c,isZero (zP n nx k o d c),AE 40 (zP n nx k o d c)⟩) KPw
def KIC:FuncId->List AV->Option jX:=λf e=>if f=199 then match ofK [.ptr I,.bp N,.ptr I,.ptr I,.ptr I] e with
 |some (a,n,o,k,b,_)=>some ⟨Q8 n k o a b,I,JJ n k o a b⟩|none=>none
 else none
noncomputable def aIO:Cfg:=⟨yv,G0,KC1,λ_=>false,KIC,true,aKk,λf=>f==139⟩
def aIv(n:Net)(nx:Lj)(k o d a b:Int):Ann:=Z8 4 Nat (IB n nx k o d a b) (λs j=>dD (flat s) 0 (.var [.dat I (KB n nx k o d a b j)])) λj=>j
def aBe:eO 204 CG:=ae λ(((j,f,e,i,g,b):Net),(k:Int),(o:Int),(t:Int),_)=>by
 refine zE (A:=az) (p:=let h:=(j,f,e,i,g,b);let r:=(aB h o);let u:=(Du b (Dc k) (ByteArray.mk #[],(0:Int),(0:Int))).2.2;let v:=aF h o t;(aIJ h k o t->jm h o/\0<=k/\k<Df b/\iq h o t/\MH r u v/\jf r u v=aAi h k o t/\mS r u v=aFT h k o t/\True)) aJU λv=>?_;refine Z9 ?_;obtain⟨⟨h,r⟩,y,t1⟩:=v;have z:=lI (t:=t) j f e i g b h;have u:=(fJ j f e i g b h).2.2.1;have x:=(nJ j f e i g b h.1 r).2;exact⟨h,r.1,r.2,⟨h,Z,Z⟩,⟨u,x.1,by show(bC (j,f,e,i,g,b) k).2.2<1440;omega,Z,Z⟩,rfl,rfl⟩
def aBf:eO 138 CH:=ae λ((n:Net),(k:Int),(o:Int),(a:Int),(b:Int),_)=>zE (A:=az) (p:=(True->v6 a n o k b)) EE λ_=>⟨rfl,rfl,rfl,rfl,rfl,trivial⟩
def aBg(k o a b:Int)(n:Net):mU yv G0 199 [.ip I a,.ipv (.ip N n),.ip I o,.ip I k,.ip I b] ⟨Q8 n k o a b,I,JJ n k o a b⟩:=by
 refine zI (c:=mkc KR3) (A:=aIq n k o a b) aG7 gC hm (p:=let z:=(aB n o).2;let h:=((aB n o).1,z.1,z.2);let i:=(Du n.2.2.2.2.2 (Dc k) (ByteArray.mk #[],(0:Int),(0:Int))).2.1;let A:=JJ n k o a b;let L:=Dk A;let f:=b+1;true/\true/\true/\false=false/\∀(l:Nat),Q8 n k o a b->(∃(x:Nat×Int),JI n k o a b x/\(T6 l a n o k b (a=x.2/\T3 a))/\0=x.1/\true)/\∀(x:Nat×Int),let c8:=Dw (mS h i x.2) 0;let j:=Dj c8;let u:=jf h i x.2;let r:=Dz c8 true (Ed u b);let e:=Dj r;let O:=Dh true e->e;let T:=x.1+1;let g:=u+1;let V:=Dz r true (Dj false);JI n k o a b x->jm n o/\0<=k/\k<Df n.2.2.2.2.2/\MH h i x.2/\L7 j ((Dh true j->j)/\(e->(e->e)/\(e->e)/\l=l/\true/\nB A x.1 u/\∀(v:Bool),let G:=Dz r true (Dj v);O/\(G->v->T=L)/\(G=false->inR .i64 g/\∃(y:Nat×Int),JI n k o a b y/\((T6 l a n o k b (g=y.2/\T3 a))/\T=y.1/\v)/\Dc (f-y.2)<Dc (f-x.2)))/\(e=false->L4 e (O/\(V->true->x.1=L)/\(V=false->inR .i64 g/\∃(y:Nat×Int),JI n k o a b y/\((T6 l a n o k b (g=y.2/\T3 a))/\x.1=y.1/\true)/\Dc (f-y.2)<Dc (f-x.2)))))) ⟨rfl,rfl,rfl,rfl,λl ⟨e,i,a0,hab,b1⟩=>?_⟩;have eN:(n.1,n.2.1,n.2.2.1,n.2.2.2.1,n.2.2.2.2.1,n.2.2.2.2.2)=n:=rfl;have eC:∀c:Int×List Bool×Li,(c.1,c.2.1,c.2.2)=c:=λ_=>rfl;have eK:n.2.2.2.2.2.getD k.toNat (⟨#[]⟩,0,0)=bC n k:=rfl;have hv:aA (aB n o).1 (aB n o).2.1 (aB n o).2.2=true:=(fJ n.1 n.2.1 n.2.2.1 n.2.2.2.1 n.2.2.2.2.1 n.2.2.2.2.2 e).2.2.1;obtain⟨⟨L,T⟩,_⟩:=nJ n.1 n.2.1 n.2.2.1 n.2.2.2.1 n.2.2.2.2.1 n.2.2.2.2.2 e.1 i;have L:0<=(bC n k).2.1:=L;have T:(bC n k).2.1<=1439:=T;refine Z9 ?_
 simp only[qc,eN,eC,eK,yL,yX,wG,xU,false_and,and_false,exists_false,imp_false,qCv,reduceCtorEq];refine⟨⟨(0,a),⟨⟨by simp only;omega,by simp only;omega⟩,wU _,rfl⟩,rfl,rfl⟩,?_⟩;rintro⟨j,t⟩ ⟨⟨t0,t1⟩,k1,g⟩;simp only at t0 t1 k1 g ⊢;have hU:(b-a).toNat+1-j=((b-a).toNat+1-(j+1))+1:=Z;have V:VO (aB n o) (bC n k).2.1 b ((b-a).toNat+1-j) t=if mS (aB n o) (bC n k).2.1 t=0 then if jf (aB n o) (bC n k).2.1 t<b then jf (aB n o) (bC n k).2.1 t::VO (aB n o) (bC n k).2.1 b ((b-a).toNat+1-(j+1)) (jf (aB n o) (bC n k).2.1 t+1)else[]else[]:=by rw[hU];rfl
 rw[V]at g;have f:∀{l:Li},(JJ n k o a b).drop j=l->(JJ n k o a b).length=j+l.length:=λh=>by
  have:=yS List.length h;rw[wM]at this;omega
 refine⟨e,i.1,i.2,⟨hv,L,Z,Z,Z⟩,λ⟨z,h2⟩=>?_,λh=>?_⟩;have h2':jf (aB n o) (bC n k).2.1 t<b:=by omega
 obtain⟨b1,b2⟩:=mr hv z L T;rw[if_pos z,if_pos h2']at g;have X:=f g;rw[wO]at X;refine⟨?_,λbb=>⟨λh O=>?_,λ⟨_,O⟩=>⟨au Z,(j+1,jf (aB n o) (bC n k).2.1 t+1),⟨⟨by simp only;omega,by simp only;omega⟩,by simp only;omega,?_⟩,⟨rfl,rfl,O⟩,by simp only;omega⟩⟩⟩;show(JJ n k o a b)[j]?=some _;have:=yS (λl=>l[0]?) g;simpa[vM]using this;rcases h with(h|h)|h;exact absurd z h;omega;rw[h]at O;cases O;show(JJ n k o a b).drop (j+1)=_;have:=yS (List.drop 1) g;rwa [xA]at this;have:(JJ n k o a b).drop j=[]:=by
  rw[g];by_cases z:mS (aB n o) (bC n k).2.1 t=0;rw[if_pos z,if_neg Z];rw[if_neg z]
 have X:=f this;rw[xR]at X;omega
def aKc:ai yv G0 KC0:=af (ae λ((z,w,h),a,b,_)=>TN z w h a b)<|af aBe<|af aBf aJU
def RR{n:Net}{nx:Lj}{o d t:Int}(h:gA n nx o d t≠[]):((gA n nx o d t).getD ((gA n nx o d t).length-1) (0,0,0,0)).2.1=vA n (pN nx) o d t:=by
 show _=((gA n nx o d t).getLastD (0,0,0,0)).2.1;rw[gI,List.getLast?_eq_getElem?,qA]
def Po{n:Net}{nx:Lj}{k o d cut:Int}(h:ib n nx o d cut≠0):zP n nx k o d cut=ib n nx o d cut:=if_pos h
def Pq{n:Net}{nx:Lj}{k o d cut:Int}(h:ib n nx o d cut=0)(b:DW n (pN nx) k o d cut≠0):zP n nx k o d cut=DW n (pN nx) k o d cut:=by
 unfold zP;rw[if_neg (λg=>g h),if_pos b]
def GR{n:Net}{nx:Lj}{k o d cut:Int}(h:ib n nx o d cut=0)(b:DW n (pN nx) k o d cut=0):zP n nx k o d cut=if ZF n (pN nx) k o d cut<0 then 1 else 0:=by
 unfold zP;rw[if_neg (λg=>g h),if_neg (λg=>g b)]
def SV(k o d cut:Int)(nx:Lj)(j:LC)(e b:LB)(i:Lo)(f:Ll)(g:Lk):ah yv G0 139 [.ip N (j,e,b,i,f,g),.dat M nx,.dat I k,.dat I o,.dat I d,.dat I cut] [] ⟨GQ (j,e,b,i,f,g) nx k o d cut/\isZero (zP (j,e,b,i,f,g) nx k o d cut)=true,.dat I (RQ (j,e,b,i,f,g) nx k o d cut),[]⟩/\dA yv G0 139 [.ip N (j,e,b,i,f,g),.dat M nx,.dat I k,.dat I o,.dat I d,.dat I cut] [] ⟨GQ (j,e,b,i,f,g) nx k o d cut,isZero (zP (j,e,b,i,f,g) nx k o d cut),AE 40 (zP (j,e,b,i,f,g) nx k o d cut)⟩:=by
 refine zC (c:=aIQ) (A:=az) (q:=⟨GQ (j,e,b,i,f,g) nx k o d cut,isZero (zP (j,e,b,i,f,g) nx k o d cut),AE 40 (zP (j,e,b,i,f,g) nx k o d cut)⟩) aKc gC hm aAA (p:=let r:=(j,e,b,i,f,g);let L:=ib r nx o d cut;let z:=isZero L;let T:=zP r nx k o d cut;let x:=isZero T;let A:=chainOf (Value.iface 40 (Value.int .i64 T));let c7:=gA r nx o d cut;let c8:=Df c7;let y:=c8-1;let v:=(Du c7 (Dc y) ((0:Int),(0:Int),(0:Int),(0:Int))).2.1;let c11:=aFT r k d v;let G:=isZero c11;let h:=aB r d;let c18:=aAi r k d v;let X:=bE h.1 cut;let V:=bE h.1 c18;let O:=jd h.2.1 h.2.2 X V;let u:=Ed O 0;true/\(GQ r nx k o d cut->(true->Az r nx o d cut/\(z=false->x=false/\true/\chainOf (Value.iface 40 (Value.int .i64 L))=A))/\((true->z)->(Az r nx o d cut/\z)/\inR .i64 y/\0<=y/\y<c8/\aIJ r k d v/\(true->True/\(G=false->x=false/\true/\chainOf (Value.iface 40 (Value.int .i64 c11))=A))/\((true->G)->(True/\G)/\jm r d/\Q3 1 0 1 0 (dK h.1 h.2.1 h.2.2 cut/\L5 1 0 (dK h.1 h.2.1 h.2.2 c18/\L5 1 0 (countP h.1 h.2.1 h.2.2 X V/\(true->True/\(u=false->x=false/\true/\chainOf (Value.iface 40 (Value.int IntKind.i64 (1:Int)))=A))/\((true->u)->(True/\u)/\x/\O=RQ r nx k o d cut/\True)))))))) ⟨rfl,λhp=>?_⟩
 obtain⟨n,hn⟩:∃n:Net,n=(j,e,b,i,f,g):=⟨_,rfl⟩;rw[<- hn]at hp ⊢;obtain⟨hW,L⟩:=id hp;obtain⟨hs,ht,u0,u1,o0,o1,v0,v1⟩:=id hW;have G:noF n=true:=aK n.1 n.2.1 n.2.2.1 n.2.2.2.1 n.2.2.2.2.1 n.2.2.2.2.2 hs;have hd:jm n d:=⟨G,o0,o1⟩;have z:aA (aB n d).1 (aB n d).2.1 (aB n d).2.2=true:=(fJ n.1 n.2.1 n.2.2.1 n.2.2.2.1 n.2.2.2.2.1 n.2.2.2.2.2 hd).2.2.1;obtain⟨⟨z1,z2,_,_⟩,_⟩:=bD.1 z;obtain⟨_,⟨m0,m1⟩⟩:=nJ n.1 n.2.1 n.2.2.1 n.2.2.2.1 n.2.2.2.2.1 n.2.2.2.2.2 G L;have m0:0<=(bC n k).2.2:=m0;have m1:(bC n k).2.2<=1439:=m1;refine Z9 ?_;refine⟨⟨hW,λy=>?_⟩,λy=>⟨⟨hW,y⟩,?_⟩⟩;have h:=gq.1 y;rw[Po h];exact⟨y,rfl⟩;have h:=dW.1 y;obtain⟨w1,w2,w3,w4⟩:(gA n nx o d cut).length<=20/\gA n nx o d cut≠[]/\cut<=vA n (pN nx) o d cut/\vA n (pN nx) o d cut<=2200000:=r7 19 o cut hW h;have hlen:0<(gA n nx o d cut).length:=qCp.2 w2;have eI:((gA n nx o d cut).length-1:Int).toNat=(gA n nx o d cut).length-1:=Z;rw[eI,RR w2];obtain⟨T,hT⟩:∃T,T=vA n (pN nx) o d cut:=⟨_,rfl⟩;rw[<- hT]at w3 w4 ⊢;have eE:aFT n k d T=DW n (pN nx) k o d cut:=by rw[hT];rfl
 have eD:aAi n k d T=aJF n (pN nx) k o d cut:=by rw[hT];rfl
 refine⟨au Z,Z,Z,⟨⟨hd,L⟩,Z,w4⟩,λx=>?_,λx=>⟨x,hd,?_⟩⟩;have r:=gq.1 x;rw[eE]at r x ⊢;rw[Pq h r];exact⟨x,rfl⟩;have r:=dW.1 x;have hf0:mS (aB n d) (bC n k).2.2 (aF n d T)=0:=r;obtain⟨b1,b2⟩:=mr z hf0 m0 m1;have hr:iq n d T:=⟨hd,Z,Z⟩;obtain⟨_,_,r1,r2⟩:inR .i64 ((bX n d).2.2.2.2.1*(bX n d).2.2.2.2.2.1)/\inR .i64 (aF n d T)/\T<=aF n d T/\aF n d T<=T+960:=xg n.1 n.2.1 n.2.2.1 n.2.2.2.1 n.2.2.2.2.1 n.2.2.2.2.2 hr;have b1:aF n d T<=aAi n k d T:=b1;have b2:aAi n k d T<=aF n d T+90000:=b2;have dB:∀t:Int,0<=t->t<=3000000->bG (bE (aB n d).1 t)=true:=λt t0 t1=>dj (by unfold bE;omega) (by unfold bE;omega);have eV:jd (aB n d).2.1 (aB n d).2.2 (bE (aB n d).1 cut) (bE (aB n d).1 (aAi n k d T))=ZF n (pN nx) k o d cut:=by rw[eD];rfl
 have eR:DW n (pN nx) k o d cut=0:=eE▸r;refine⟨⟨z,Z,Z⟩,⟨z,Z,Z⟩,⟨z,dB _ Z Z,dB _ Z Z⟩,λh1=>?_,λh1=>⟨h1,?_,eV⟩⟩;rw[eV]at h1;rw[GR h eR,if_pos Z];exact⟨rfl,rfl⟩;rw[eV]at h1;rw[GR h eR,if_neg Z];rfl
def aGm:ai yv G0 KC1:=af (ae λ((i,e,b,h,f,g),nx,k,o,d,c,_)=>(SV k o d c nx i e b h f g).1) aKc
def aDC:bJ yv G0 aKk:=jL (lg λ((i,e,b,h,f,g),nx,k,o,d,c,_)=>(SV k o d c nx i e b h f g).2) aAA
def aGy:bh yv G0 KIC:=by
 intro f e y h;unfold KIC at h;split at h;case isFalse=>cases h
 rename_i u;subst u;split at h;case h_2=>cases h
 rename_i a n o k b _ i;cases h;exact λr l J JX JP w D g x v j=>aBg k o a b n r l J JX JP w D g x v (fZ i j)
def Zu{n:Net}{k o a b x:Int}(h:Q8 n k o a b)(j:x∈JJ n k o a b):a<=x/\x<b:=by
 have r:aA (aB n o).1 (aB n o).2.1 (aB n o).2.2=true:=(fJ n.1 n.2.1 n.2.2.1 n.2.2.2.1 n.2.2.2.2.1 n.2.2.2.2.2 h.1).2.2.1;obtain⟨⟨g,e⟩,_⟩:=nJ n.1 n.2.1 n.2.2.1 n.2.2.2.1 n.2.2.2.2.1 n.2.2.2.2.2 h.1.1 h.2.1;have g:0<=(bC n k).2.1:=g;have e:(bC n k).2.1<=1439:=e;have:∀(f:Nat) (t:Int),x∈VO (aB n o) (bC n k).2.1 b f t->t<=x/\x<b:=λf=>by
  induction f with
  |zero=>intro t h;cases h
  |succ f i=>
   intro t h;rw[VO]at h;split at h;rename_i u;obtain⟨v,y⟩:=mr r u g e;split at h;rcases zH.1 h with rfl|h;exact⟨v,by assumption⟩;have:=i _ h;omega;cases h;cases h
 exact this _ _ j
def aCE{n:Net}{nx:Lj}{k o d a b y:Int}{j:Nat}(h:(AG n k o a b)[j]?=some y):KB n nx k o d a b (j+1)=max (KB n nx k o d a b j) (RQ n nx k o d y):=by
 unfold KB;rw[wW,h,qBa,zZ,qAg];rfl
abbrev CB:=aj [.ptr N,.val M,.val I,.val I,.val I,.val I,.val I] (λ(n,nx,k,o,d,a,b,_)=>cellP n nx k o d a b) λ(n,nx,k,o,d,a,b,_)=>.dat I (np n nx k o d a b)
def aBd:eO 101 CB:=ae λ((n:Net),(nx:Lj),(k:Int),(o:Int),(d:Int),(a:Int),(b:Int),_)=>by
 refine zR (c:=aIO) (Kz:=(λ_ _ _=>none)) (A0:=az) (A:=(aIv n nx k o d a b)) (Ac:=az) (λ_ _ _ _ h=>by cases h) aGm aGy hm aDC (p:=let e:=1440*a;let f:=1440*b;let i:=JJ n k o e f;let g:=np n nx k o d a b;(true/\true)/\(cellP n nx k o d a b->true/\L5 1 0 (inR .i64 e/\inR .i64 f/\True/\Q8 n k o e f/\(∃x,IB n nx k o d a b x/\x=0/\L3 n nx k o d a b n nx (L3 k o d 1 0 0 1 0 0 (L3 n k o a e b f e n (Q2 o k f ((-1:Int)=KB n nx k o d a b x/\z6 1 0 0)))))/\(∀(x:Nat),let j:=KB n nx k o d a b x;∀(y:Int),let h:=isZero (zP n nx k o d y);IB n nx k o d a b x->nB i x y->L5 1 0 (GQ n nx k o d y/\(h->L5 1 0 ((GQ n nx k o d y/\h)/\L5 1 0 (∃z,IB n nx k o d a b z/\z=x+1/\L3 n nx k o d a b n nx (L3 k o d 1 0 0 1 0 0 (L3 n k o a e b f e n (Q2 o k f (Ew j (RQ n nx k o d y)=KB n nx k o d a b z/\z6 1 0 0)))))))/\(h=false->true/\true/\(Dj false->Q3 1 0 1 0 ((-1:Int)=g/\True))/\(Dj false=false->L5 1 0 (j=g/\True)))))/\∀(x:Nat),IB n nx k o d a b x->x=Dk i->Q3 1 0 1 0 (true/\true/\(Dj true->Q3 1 0 1 0 ((-1:Int)=g/\True))/\(Dj true=false->L5 1 0 (KB n nx k o d a b x=g/\True)))))) ⟨⟨rfl,rfl⟩,λO=>?_⟩;refine Z9 ?_;obtain⟨⟨hs,ht,a0,ab,b6,b60⟩,u,L,hd⟩:=id O;have T:noF n=true:=aK n.1 n.2.1 n.2.2.1 n.2.2.2.1 n.2.2.2.2.1 n.2.2.2.2.2 hs;have hX:Q8 n k o (1440*a) (1440*b):=⟨⟨T,L.1,L.2⟩,u,Z,Z,Z⟩;have hcB:JJ n k o (1440*a) (1440*b)=AG n k o a b:=rfl;refine⟨au Z,au Z,hX,⟨0,⟨O,wU _,λi e=>Z⟩,rfl,rfl⟩,λx y G g=>?_,λx G hl=>?_⟩
 have g:(AG n k o a b)[x]?=some y:=g;have f:x<(AG n k o a b).length:=(qG.1 g).1;have ey:(AG n k o a b).getD x 0=y:=by rw[qA,g];rfl
 obtain⟨y0,y1⟩:=Zu hX (yA g);have hD:GQ n nx k o d y:=⟨⟨hs,ht,L.1,L.2,hd.1,hd.2,Z,Z⟩,u⟩;refine⟨hD,λv=>⟨⟨hD,v⟩,x+1,⟨O,f,λi e=>?_⟩,rfl,(aCE g).symm⟩,λv=>?_⟩;by_cases h3:i<x;exact G.2.2 i h3;have:i=x:=by omega
 rw[this,ey];exact dW.1 v;have r:=gq.1 v;have eg:∀i:Nat,i<(AG n k o a b).length->((AG n k o a b).map (zP n nx k o d)).getD i 0=zP n nx k o d ((AG n k o a b).getD i 0):=λi e=>by
  rw[qA,qX,qA,qB e];rfl
 have X:IC n nx k o d a b=zP n nx k o d y:=by
  unfold IC;rw[Gs (j:=x) (by rw[vG];exact f) (λi e=>by rw[eg i Z];exact G.2.2 i e) (by rw[eg x f,ey];exact r),eg x f,ey]
 have V:np n nx k o d a b=-1:=by
  unfold np;rw[if_neg (by rw[X];exact r)]
 rw[V];simp;have X:IC n nx k o d a b=0:=by
  unfold IC;refine rH λi e=>?_;rw[vG]at e;rw[qA,qX,qB e];have:=G.2.2 i (by rw[hl];exact e);rw[qA,qB e]at this;exact this
 have V:np n nx k o d a b=KB n nx k o d a b x:=by
  unfold np;rw[if_pos X,hl];rfl
 rw[V];simp
end Go.Eng.Sv
namespace Go.Eng.Mp
open Go.Proofs
open Go.Eng.Sv (I R M G0 KI0)
open Go.Eng.Sv (gC hm)
def dX(x:Int):Bool:=decide (x<=-549755813888)
def uV(x:Int):Bool:=dX x||(decide (x≥-1000000000)&&decide (x<=1000000000))
def kb(x y:Int):Int:=bif dX x&&dX y then -1099511627776 else max x y
def lz(x y:Int):Int:=bif dX x||dX y then -1099511627776 else x+y
def Bn(x y:Int):Prop:=dX x=false->dX y=false->inR .i64 (x+y)
def fM(x y:Bool):Bool:=x||y
def pH{α:Type}(b:α->α->α)(g:Int->α)(z:α):Nat->α|0=>z|k+1=>b (pH b g z k) (g k)
def kg(b:Bool->Bool->Bool)(g:Int->Bool)(z:Bool)(n:Int):Bool:=pH b g z n.toNat
def kr(n:Int)(e:Bool->Bool->Prop)(b:Int->Prop)(g:Int->Bool):Prop:=n<=9223372036854775807/\∀k,0<=k->k<n->b k/\∀x,e x (g k)
def upto(k n:Int):Prop:=0<=k/\(k<=n\/k=0)
def idx(k:Int)(b:Li):Prop:=0<=k/\k<(b.length:Int)
def at1(b:Li)(k:Int):Int:=b.getD k.toNat 0
def ng(b:Li)(k:Int):Bool:=!(uV (at1 b k))
def pT(b:Li):Bool:=kg fM (ng b) false b.length
def YW(b:Li):Prop:=(b.length:Int)<=9223372036854775807
def K0:Kt:=λ_ _ _=>none
def c0:Cfg:=Sv.mkc K0
def KS0:ai Tryz.prog G0 K0:=λf args m c h=>by cases h
def aIe(x:Int):ah Tryz.prog G0 258 [.dat I x] [] ⟨True,.dat .bool (dX x),[]⟩:=
 zF (c:=c0) (A:=az) KS0 gC hm (p:=true/\(True->Ef x (-549755813888)=dX x/\True)) ⟨rfl,λ_=>⟨rfl,trivial⟩⟩
def NH(x y:Bool):ah Tryz.prog G0 260 [.dat .bool x,.dat .bool y] [] ⟨True,.dat .bool (fM x y),[]⟩:=
 zF (c:=c0) (A:=az) KS0 gC hm (p:=true/\(True->(Dh true (Dj x)->Dj x)/\Dz x true y=fM x y/\True)) (by cases x<;>cases y<;>simp[fM])
def aFJ(n:Int)(z:Bool)(b:Bool->Bool->Bool)(g:Int->Bool):Ann:=Z8 3 Int (λk=>upto k n) (λs k=>put s [(13,.dat I k),(9,.dat .bool (kg b g z k))]) λk=>Dc (Di n k)
def QX(b:Bool->Bool->Bool)(g:Int->Bool)(z:Bool):kg b g z 0=z:=rfl
def QY(b:Bool->Bool->Bool)(g:Int->Bool)(z:Bool)(k:Int)(h:0<=k):kg b g z (k+1)=b (kg b g z k) (g k):=by
 unfold kg;have e:(k+1).toNat=k.toNat+1:=Z;rw[e];show b _ (g (k.toNat:Int))=_;rw[qY h]
def Vq(b:Bool->Bool->Bool)(g:Int->Bool)(z:Bool)(k n:Int)(h:upto k n)(f:¬k<n):kg b g z k=kg b g z n:=by
 unfold kg;unfold upto at h;have e:k.toNat=n.toNat:=Z;rw[e]
def aCd(n:Int)(z:Bool)(e:Bool->Bool->Prop)(f:Bool->Bool->Bool)(b:Int->Prop)(g:Int->Bool):
  ah Tryz.prog G0 259 [.dat I n,.dat .bool z,.clo2 .bool .bool .bool e f,.clo1 I .bool b g] [] ⟨kr n e b g,.dat .bool (kg f g z n),[]⟩:=by
 refine zF (c:=c0) (A:=(lvA [(3,[2,3,8,9,10,12,13])] (aFJ n z f g))) KS0 gC hm (p:=true/\(kr n e b g->(∃x,upto x n/\Q2 (AV.clo2 Ty.bool Ty.bool Ty.bool e f) (AV.clo1 (Ty.int .i64) Ty.bool b g) false (z=kg f g z x/\n=n/\0=x/\True))/\∀(x:Int),let h:=kg f g z x;let i:=x+1;upto x n->(Dn x n->b x/\e h (g x)/\inR .i64 i/\∃y,upto y n/\(Q2 (AV.clo2 Ty.bool Ty.bool Ty.bool e f) (AV.clo1 (Ty.int .i64) Ty.bool b g) false (f h (g x)=kg f g z y/\n=n/\i=y/\True))/\Dc (n-y)<Dc (n-x))/\(Dn x n=false->h=kg f g z n/\True))) ⟨rfl,λr=>⟨⟨0,⟨Z,.inr rfl⟩,?_⟩,λx j=>⟨λh=>?_,λi=>?_⟩⟩⟩;simp[QX];have h:x<n:=by simpa using h
 have u:=j.1;obtain⟨p1,p2⟩:=r.2 x u h;refine⟨p1,p2 _,?_,x+1,⟨Z,.inl Z⟩,?_,?_⟩;have:=r.1;simp only[inR,Dq];omega;simp[QY f g z x u];simp only[Dx,Dc,Di];omega;have i:¬x<n:=by simpa using i
 exact⟨Vq f g z x n j i,trivial⟩
def K1:Kt:=λf args m=>match f,args,m with|258,[.dat (.int .i64) x],[]=>some ⟨True,.dat .bool (dX x),[]⟩|260,[.dat .bool x,.dat .bool y],[]=>some ⟨True,.dat .bool (fM x y),[]⟩|_,_,_=>none
def c1:Cfg:=Sv.mkc K1
def KS1:ai Tryz.prog G0 K1:=by
 intro f args m c h;unfold K1 at h;split at h;cases h;exact aIe _;cases h;exact NH _ _;cases h
def aEX(x:Int):ah Tryz.prog G0 281 [.dat I x] [] ⟨True,.dat .bool (uV x),[]⟩:=
 zF (c:=c1) (A:=az) KS1 gC hm (p:=let b:=Ed x (-1000000000);true/\(True->True/\(Dj (dX x)->Dj (dX x)->Dj (dX x))/\(Dj (dX x)->Dj (dX x)->Dj (dX x))/\(Dh (Dj (dX x)) b->Dh (Dj (dX x)) b->Dh (Dj (dX x)) b)/\(Dj (dX x)->Dj (dX x)->Dj (dX x))/\(Dj (dX x)->Dh (Dj (dX x)) b->Dh (Dj (dX x)) b)/\(Dh true (Dj (dX x))->Dj (dX x))/\Dz (dX x) true (Dz b (Ef x 1000000000) false)=uV x/\True)) (by cases h:dX x<;>simp[uV,h,Bool.cond_eq_ite])
def aET(x y:Int):ah Tryz.prog G0 195 [.dat I x,.dat I y] [] ⟨True,.dat I (kb x y),[]⟩:=
 zF (c:=c1) (A:=az) KS1 gC hm (p:=let b:=Dz (dX x) (dX y) false;true/\(True->True/\(dX x->dX x->dX x)/\(dX x->True)/\(Dh true (dX x)->dX x)/\(b->(-1099511627776:Int)=kb x y/\True)/\(b=false->Ew x y=kb x y/\True))) (by cases h:dX x<;>cases b:dX y<;>simp[kb,h,b])
def aB7(x y:Int):ah Tryz.prog G0 198 [.dat I x,.dat I y] [] ⟨Bn x y,.dat I (lz x y),[]⟩:=
 zF (c:=c1) (A:=az) KS1 gC hm (p:=let b:=Dz (dX x) true (dX y);true/\(Bn x y->True/\(Dj (dX x)->Dj (dX x)->Dj (dX x))/\(Dj (dX x)->True)/\(Dh true (Dj (dX x))->Dj (dX x))/\(b->(-1099511627776:Int)=lz x y/\True)/\(b=false->inR .i64 (x+y)/\x+y=lz x y/\True))) (by cases h:dX x<;>cases b:dX y<;>simp[lz,Bn,h,b])
def K2:Kt:=λf args m=>match f,args,m with|281,[.dat (.int .i64) x],[]=>some ⟨True,.dat .bool (uV x),[]⟩|195,[.dat (.int .i64) x,.dat (.int .i64) y],[]=>some ⟨True,.dat I (kb x y),[]⟩|198,[.dat (.int .i64) x,.dat (.int .i64) y],[]=>some ⟨Bn x y,.dat I (lz x y),[]⟩|_,_,_=>K1 f args m
def c2:Cfg:=Sv.mkc K2
def KS2:ai Tryz.prog G0 K2:=by
 intro f args m c h;unfold K2 at h;split at h;cases h;exact aEX _;cases h;exact aET _ _;cases h;exact aB7 _ _;exact KS1 _ _ _ _ h
def X2(k:Int)(b:Li):ah Tryz.prog G0 280 [.dat I k,.ip R b] [] ⟨idx k b,.dat .bool (ng b k),[]⟩:=
 zF (c:=c2) (A:=az) KS2 gC hm (p:=true/\(idx k b->0<=k/\k<Df b/\True/\Dj (uV (Du b (Dc k) 0))=ng b k/\True)) ⟨rfl,λh=>⟨h.1,h.2,trivial,rfl,trivial⟩⟩
def Ue{P:Program}{C:Ctx}{a b x y g f:AV}{e:Lv}(h:zA1 P C [a,b,x,y] e)(j:∀v,x.rel P C v->g.rel P C v)(i:∀v,y.rel P C v->f.rel P C v):zA1 P C [a,b,g,f] e:=by
 obtain⟨u,e,rfl,L,V,e,rfl,G,T,e,rfl,A,O,e,rfl,z,r⟩:=h;exact⟨_,_,rfl,L,_,_,rfl,G,_,_,rfl,j _ A,_,_,rfl,i _ z,r⟩
def Q0{C:Ctx}(b:me Tryz.prog C G0){v:Value}(h:(AV.fn 260 []).rel Tryz.prog C v):(AV.clo2 .bool .bool .bool (λ_ _=>True) fM).rel Tryz.prog C v:=
 lV (by kernel_rfl) rfl (λx y=>NH x y) b h
def BB(n:Int)(z:Bool){f:FuncId}{e:List AV}(b:Int->Prop)(g:Int->Bool)(v:goes Tryz.prog f=true)(u:zA2 e=[])(h:∀k,ah Tryz.prog G0 f (.dat I k::e) [] ⟨b k,.dat .bool (g k),[]⟩):
  ah Tryz.prog G0 259 [.dat I n,.dat .bool z,.fn 260 [],.fn f e] [] ⟨kr n (λ_ _=>True) b g,.dat .bool (kg fM g z n),[]⟩:=
 (aCd n z _ fM b g).args λ_ _ i r=>Ue r (λ_ h=>Q0 i h) (λ_ j=>lW v u h i j)
def K3:Kt:=λf args m=>match f,args,m with|259,[.dat (.int .i64) n,.dat .bool z,.fn 260 [],.fn 280 [.ip (.sl (.int .i64)) row]],[]=>some ⟨kr n (λ_ _=>True) (λk=>idx k row) (ng row),.dat .bool (kg fM (ng row) z n),[]⟩|_,_,_=>K2 f args m
def c3:Cfg:=Sv.mkc K3
def KS3:ai Tryz.prog G0 K3:=by
 intro f args m c h;unfold K3 at h;split at h;cases h;exact BB _ _ _ _ (by kernel_rfl) rfl (λk=>X2 k _);exact KS2 _ _ _ _ h
def aB5(b:Li):ah Tryz.prog G0 257 [.dat R b] [] ⟨YW b,.dat .bool (pT b),[]⟩:=
 zF (c:=c3) (A:=az) KS3 gC hm (p:=true/\(YW b->kr (Df b) (λx e↦True) (λk↦idx k b) (ng b)/\kg fM (ng b) false (Df b)=pT b/\True)) ⟨rfl,λh=>⟨⟨h,λk g f=>⟨⟨g,f⟩,λ_=>trivial⟩⟩,rfl,trivial⟩⟩
def aI(g:Int->Int->Int)(n:Int):Lj:=(List.range n.toNat).map λi:Nat=>(List.range n.toNat).map λj:Nat=>g i j
def b9(g:Int->Int->Int)(n i:Int):Lj:=(aI g n).take i.toNat++List.replicate (n.toNat-i.toNat) []
def oN(g:Int->Int->Int)(n i j:Int):Li:=((List.range n.toNat).map λj:Nat=>g i j).take j.toNat++List.replicate (n.toNat-j.toNat) 0
def bz(n:Int)(b:Int->Int->Prop):Prop:=0<=n/\n<=1000000/\∀i j,0<=i->i<n->0<=j->j<n->b i j
def aF8(n:Int)(g:Int->Int->Int):Ann:=⟨λb s=>match b with
 |3=>some {α:=Int,inv:=λk=>upto k n,st:=λk=>dD (put s [(11,.dat I k),(5,.buf 0 (Dc n))]) 0 (.buf 37 R (b9 g n k) []),μ:=λk=>Dc (Di n k)}|7=>match s.sig.T 6 with
  |.dat (.int .i64) i=>some {α:=Int,inv:=λk=>upto k n,st:=λk=>dD (put s [(20,.dat I k)]) 1 (.buf 3 I (oN g n i k) []),μ:=λk=>Dc (Di n k)}|_=>none
 |_=>none,λ_ _=>none,λ_ _=>none⟩
def Gw{α:Type}(xs:List α)(d v:α)(k:Nat)(b:xs[k]?=some v):(xs.take k++List.replicate (xs.length-k) d).set k v=xs.take (k+1)++List.replicate (xs.length-(k+1)) d:=by
 obtain⟨h,e⟩:=qG.1 b;have f:xs.length-k=(xs.length-(k+1))+1:=Z;rw[f,qBv,qCj _ _ (by simp;omega)];simp[wW,b,kF (Nat.le_of_lt h)]
def fH(g:Int->Int->Int)(n:Int):(aI g n).length=n.toNat:=by simp[aI]
def m3(g:Int->Int->Int)(n x:Int)(h:upto x n):(b9 g n x).length=n.toNat:=by
 have:=h.1;have:=h.2;simp only[b9,qF,qP,wS,fH];omega
def nX(g:Int->Int->Int)(n i x:Int)(h:upto x n):(oN g n i x).length=n.toNat:=by
 have:=h.1;have:=h.2;simp only[oN,qF,qP,wS,vG,vC];omega
def nW(g:Int->Int->Int)(n:Int):b9 g n 0=List.replicate n.toNat []:=by simp[b9]
def wv(g:Int->Int->Int)(n i:Int):oN g n i 0=List.replicate n.toNat 0:=by simp[oN]
def wx(g:Int->Int->Int)(n i j:Int)(b:0<=j)(f:j<n):(oN g n i j).set j.toNat (g i j)=oN g n i (j+1):=by
 have e:(j+1).toNat=j.toNat+1:=Z;have:=Gw ((List.range n.toNat).map λj:Nat=>g i j) 0 (g i j) j.toNat (by
  rw[qX,vP Z];simp[qY b])
 simp only[vG,vC]at this;unfold oN;rw[e];exact this
def Yi(g:Int->Int->Int)(n i j:Int)(h:upto j n)(b:¬j<n):oN g n i j=(List.range n.toNat).map λj:Nat=>g i j:=by
 have:=h.1;have:=h.2;have e:j.toNat=n.toNat:=Z;unfold oN;rw[e,qO (by simp)];simp
def si(g:Int->Int->Int)(n i j:Int)(f:0<=i)(r:i<n)(h:upto j n)(b:¬j<n):(b9 g n i).set i.toNat (oN g n i j)=b9 g n (i+1):=by
 have e:(i+1).toNat=i.toNat+1:=Z;rw[Yi g n i j h b];have:=Gw (aI g n) [] ((List.range n.toNat).map λj:Nat=>g i j) i.toNat (by
  unfold aI;rw[qX,vP Z];simp[qY f])
 rw[fH]at this;unfold b9;rw[e];exact this
def wu(g:Int->Int->Int)(n i:Int)(h:upto i n)(b:¬i<n):b9 g n i=aI g n:=by
 have:=h.1;have:=h.2;have e:i.toNat=n.toNat:=Z;unfold b9;rw[e,qO (by rw[fH];exact qM _)];simp
def aCf(n:Int)(b:Int->Int->Prop)(g:Int->Int->Int):ah Tryz.prog G0 193 [.dat I n,.clo2 I I I b g] [] ⟨bz n b,.dat M (aI g n),[]⟩:=by
 refine zF (c:=c0) (A:=(lvA [(3,[0,1,4,5,6,7,10,11,19,20]),(7,[0,1,4,5,6,7,10,11,19,20])] (aF8 n g))) KS0 gC hm (p:=let j:=Et n (0:Int);true/\(bz n b->0<=n/\(Ea 24*n)<=281474976710656/\n<=9223372036854775807/\(∃x,upto x n/\n=n/\AV.clo2 (Ty.int .i64) (Ty.int .i64) (Ty.int .i64) b g=AV.clo2 (Ty.int IntKind.i64) (Ty.int .i64) (Ty.int .i64) b g/\Q2 Z0 (Dc n) n (0=x/\Et n (Dt Int)=b9 g n x/\True))/\∀(x:Int),let f:=Dk (b9 g n x);let r:=x+1;upto x n->(Dn x n->0<=n/\(Ea 8*n)<=281474976710656/\n<=9223372036854775807/\f=Dc n/\0<=x/\x<Ea f/\f=Dc n/\Dk j=Dc n/\(∃e,upto e n/\T5 n (AV.clo2 (Ty.int .i64) (Ty.int .i64) (Ty.int .i64) b g) Z0 (Dc n) x n x n (0=e/\Q2 (b9 g n x) (Dc x) (Dc n) (j=oN g n x e/\True)))/\∀(e:Int),let i:=oN g n x e;let h:=Dk i;let u:=e+1;upto e n->(Dn e n->f=Dc n/\0<=x/\x<Ea f/\f=Dc n/\Dc x=Dc x/\b x e/\h=Dc n/\0<=e/\e<Ea h/\h=Dc n/\inR .i64 u/\∃y,upto y n/\(T5 n (AV.clo2 (Ty.int .i64) (Ty.int .i64) (Ty.int .i64) b g) Z0 (Dc n) x n x n (u=y/\Q2 (b9 g n x) (Dc x) (Dc n) (Em i (Dc e) (g x e)=oN g n x y/\True)))/\Dc (n-y)<Dc (n-e))/\(Dn e n=false->inR .i64 r/\∃y,upto y n/\(n=n/\AV.clo2 (Ty.int .i64) (Ty.int .i64) (Ty.int .i64) b g=AV.clo2 (Ty.int .i64) (Ty.int .i64) (Ty.int IntKind.i64) b g/\Q2 Z0 (Dc n) n (r=y/\h=Dc n/\Em (b9 g n x) (Dc x) i=b9 g n y/\True))/\Dc (n-y)<Dc (n-x)))/\(Dn x n=false->f=Dc n/\b9 g n x=aI g n/\True))) ⟨rfl,λO=>?_⟩;obtain⟨p1,p2,L⟩:=O;refine⟨p1,by simp only[Dl,Ei,Ea];omega,Z,⟨0,⟨Z,.inr rfl⟩,?_⟩,λx u=>⟨λi=>?_,λf=>?_⟩⟩;simp[nW]
 have i:x<n:=by simpa using i
 have z:=u.1;have v:=m3 g n x u;refine⟨p1,by simp only[Dl,Ei,Ea];omega,Z,v,z,by simp only[Dp,Ea,Dk];omega,v,by simp,⟨0,⟨Z,.inr rfl⟩,?_⟩,λy r=>⟨λh=>?_,λf=>?_⟩⟩;simp[wv];have h:y<n:=by simpa using h
 have G:=r.1;have j:=nX g n x y r;refine⟨v,z,by simp only[Dp,Ea,Dk];omega,v,rfl,L x y z i G h,j,G,by simp only[Dp,Ea,Dk];omega,j,by simp only[inR,Dq];omega,y+1,⟨Z,.inl Z⟩,?_,?_⟩;simp[wx g n x y G h];simp only[Dx,Dc,Di];omega;have f:¬y<n:=by simpa using f
 refine⟨by simp only[inR,Dq];omega,x+1,⟨Z,.inl Z⟩,?_,?_⟩;simp[si g n x y z i r f,nX g n x y r];simp only[Dx,Dc,Di];omega;have f:¬x<n:=by simpa using f
 exact⟨m3 g n x u,wu g n x u f,trivial⟩
def oZ(m:Lj)(b:Li):Bool:=decide ((b.length:Int)≠m.length)||pT b
def aA(m:Lj):Bool:=!decide ((m.length:Int)>40)&&!m.any (oZ m)
def WL(m:Lj)(k:Int):Prop:=0<=k/\k<=m.length/\m.length<=40/\(m.take k.toNat).any (oZ m)=false
def ou(i j:Int)(a:Lj):Prop:=0<=i/\i<(a.length:Int)/\idx j (a.getD i.toNat [])
def at2(a:Lj)(i j:Int):Int:=(a.getD i.toNat []).getD j.toNat 0
def diag(m:Lj)(k:Int):Bool:=decide (at2 m k k>0)
def iF(m:Lj):Bool:=kg fM (diag m) false m.length
def aDc(m:Lj):Prop:=kr m.length (λ_ _=>True) (λk=>ou k k m) (diag m)
def oL(m:Lj)(i j:Int):Int:=bif decide (i=j)then kb 0 (at2 m i j)else kb (-1099511627776) (at2 m i j)
def qf(m:Lj)(k i j:Int):Int:=kb (at2 m i j) (lz (at2 m i k) (at2 m k j))
def Ny(m:Lj)(k i j:Int):Prop:=ou i j m/\ou i k m/\ou k j m/\Bn (at2 m i k) (at2 m k j)
def K4:Kt:=λf args m=>match f,args,m with|257,[.dat (.sl (.int .i64)) row],[]=>some ⟨YW row,.dat .bool (pT row),[]⟩|_,_,_=>K3 f args m
def c4:Cfg:=Sv.mkc K4
def Nl(m:Lj):Ann:=Z8 4 Int (WL m) (λs k=>put s [(10,.dat I k)]) λk=>Dc (Di (Df m) k)
def KS4:ai Tryz.prog G0 K4:=by
 intro f args m c h;unfold K4 at h;split at h;cases h;exact aB5 _;exact KS3 _ _ _ _ h
def Ux{m:Lj}(h:¬(m.length:Int)>40):WL m 0:=⟨Z,Z,Z,by simp⟩
def N3{m:Lj}{k:Int}(h:WL m k)(f:k<m.length):m.getD k.toNat []∈m/\m.take (k+1).toNat=m.take k.toNat++[m.getD k.toNat []]:=by
 have g:=h.1;have b:k.toNat<m.length:=Z;have e:(k+1).toNat=k.toNat+1:=Z;rw[qA,qB b,e];exact⟨wL b,by rw[wW,qB b];rfl⟩
def Uy{m:Lj}{k:Int}(h:WL m k)(g:k<m.length)(f:oZ m (m.getD k.toNat [])=false):WL m (k+1):=by
 obtain⟨j,i,e,b⟩:=h;refine⟨Z,Z,e,?_⟩;rw[(N3 ⟨j,i,e,b⟩ g).2,qBw,b,qCw,f];rfl
def P3{m:Lj}{k:Int}(h:WL m k)(e:k<m.length)(b:oZ m (m.getD k.toNat [])=true):aA m=false:=by
 unfold aA;have:m.any (oZ m)=true:=xI.2 ⟨_,(N3 h e).1,b⟩;rw[this];simp
def P2{m:Lj}{k:Int}(h:WL m k)(f:¬k<m.length):aA m=true:=by
 obtain⟨j,i,g,b⟩:=h;unfold aA;have e:k.toNat=m.length:=Z;rw[e,yQ]at b;rw[b];have:¬((m.length:Int)>40):=Z;simp only[this,gK];rfl
def D7(m:Lj)(r:Li):Dz (Dw (Df r) (Df m)) true (pT r)=oZ m r:=by
 unfold oZ Dz Dw Df;by_cases h:(r.length:Int)=m.length<;>simp[h]
def Lc(m:Lj):ah Tryz.prog G0 192 [.dat M m] [] ⟨True,.dat .bool (aA m),[]⟩:=by
 refine zF (c:=c4) (A:=(lvA [(4,[0,2,4,8,9,10])] (Nl m))) KS4 gC hm (p:=let f:=Eh (Df m) 40;true/\(True->(f->false=aA m/\True)/\(f=false->(∃x,WL m x/\Q2 m m (Df m) (0=x/\True))/\∀(x:Int),let g:=Dn x (Df m);let e:=Du m (Dc x) [];let h:=Dw (Df e) (Df m);let b:=Dj h;let i:=Dz h true (pT e);let j:=x+1;WL m x->(g->0<=x/\x<Df m/\(b->b->b)/\(b->YW e)/\(Dh true b->b)/\(i->false=aA m/\True)/\(i=false->inR .i64 j/\∃y,WL m y/\(Q2 m m (Df m) (j=y/\True))/\Dc (Df m-y)<Dc (Df m-x)))/\(g=false->true=aA m/\True)))) ⟨rfl,λ_=>⟨λh=>⟨?_,trivial⟩,λh=>⟨⟨0,Ux (by simpa using h),by simp⟩,λx e=>⟨λb=>?_,λf=>?_⟩⟩⟩⟩;have:(m.length:Int)>40:=by simpa using h
 unfold aA;simp only[this,qBc];rfl;have b:x<m.length:=by simpa using b
 refine⟨e.1,b,λ_ h=>h,λi=>?_,λh=>?_,λg=>⟨?_,trivial⟩,λg=>⟨?_,x+1,?_,by simp,?_⟩⟩;have:((m.getD x.toNat []).length:Int)=m.length:=by simpa using i
 have:=e.2.2.1;show((m.getD x.toNat []).length:Int)<=_;omega;simpa using h;rw[D7 m]at g;exact(P3 e b g).symm;have:=e.2.2.1;have:=e.1;simp only[inR,Dq];omega;rw[D7 m]at g;exact Uy e b g;have:=e.1;simp only[Dx,Dc,Di,Df];omega;have f:¬x<m.length:=by simpa using f
 exact⟨(P2 e f).symm,trivial⟩
def aEY(k:Int)(m:Lj):ah Tryz.prog G0 261 [.dat I k,.ip M m] [] ⟨ou k k m,.dat .bool (diag m k),[]⟩:=
 zF (c:=c4) (A:=az) KS4 gC hm (p:=let b:=Du m (Dc k) [];true/\(ou k k m->0<=k/\k<Df m/\0<=k/\k<Df b/\Eh (Du b (Dc k) 0) 0=diag m k/\True)) ⟨rfl,λb=>⟨b.1,b.2.1,b.2.2.1,b.2.2.2,rfl,trivial⟩⟩
def aB9(i j:Int)(m:Lj):ah Tryz.prog G0 194 [.dat I i,.dat I j,.ip M m] [] ⟨ou i j m,.dat I (oL m i j),[]⟩:=
 zF (c:=c4) (A:=az) KS4 gC hm (p:=let b:=Du m (Dc i) [];let e:=Du b (Dc j) 0;true/\(ou i j m->(Eb i j->0<=i/\i<Df m/\0<=j/\j<Df b/\True/\kb 0 e=oL m i j/\True)/\(Eb i j=false->0<=i/\i<Df m/\0<=j/\j<Df b/\True/\kb (-1099511627776) e=oL m i j/\True))) ⟨rfl,λb=>⟨λe=>⟨b.1,b.2.1,b.2.2.1,b.2.2.2,trivial,by
   have e:i=j:=by simpa using e
   simp[oL,e,at2],trivial⟩,
  λe=>⟨b.1,b.2.1,b.2.2.1,b.2.2.2,trivial,by
   have e:¬i=j:=by simpa using e
   simp[oL,e,at2],trivial⟩⟩⟩
def aB8(k i j:Int)(m:Lj):ah Tryz.prog G0 197 [.dat I i,.dat I j,.ip M m,.ip I k] [] ⟨Ny m k i j,.dat I (qf m k i j),[]⟩:=
 zF (c:=c4) (A:=az) KS4 gC hm (p:=let b:=Du m (Dc i) [];let e:=Df b;let f:=Du m (Dc k) [];let g:=Du b (Dc k) 0;let h:=Du f (Dc j) 0;true/\(Ny m k i j->0<=i/\i<Df m/\0<=j/\j<e/\0<=i/\i<Df m/\0<=k/\k<e/\0<=k/\k<Df m/\0<=j/\j<Df f/\Bn g h/\True/\kb (Du b (Dc j) 0) (lz g h)=qf m k i j/\True)) ⟨rfl,λ⟨f,e,b,g⟩=>⟨f.1,f.2.1,f.2.2.1,f.2.2.2,e.1,e.2.1,e.2.2.1,e.2.2.2,b.1,b.2.1,b.2.2.1,b.2.2.2,g,trivial,rfl,trivial⟩⟩
def BD(n:Int){f:FuncId}{e:List AV}(b:Int->Int->Prop)(g:Int->Int->Int)(u:goes Tryz.prog f=true)(r:zA2 e=[])(h:∀i j,ah Tryz.prog G0 f (.dat I i::.dat I j::e) [] ⟨b i j,.dat I (g i j),[]⟩):
  ah Tryz.prog G0 193 [.dat I n,.fn f e] [] ⟨bz n b,.dat M (aI g n),[]⟩:=
 (aCf n b g).args λ_ _ v ⟨_,_,G,z,_,_,A,y,x⟩=>⟨_,_,G,z,_,_,A,lV u r h v y,x⟩
def K5:Kt:=λf args m=>match f,args,m with|192,[.dat (.sl (.sl (.int .i64))) m],[]=>some ⟨True,.dat .bool (aA m),[]⟩|259,[.dat (.int .i64) n,.dat .bool z,.fn 260 [],.fn 261 [.ip (.sl (.sl (.int .i64))) m]],[]=>some ⟨kr n (λ_ _=>True) (λk=>ou k k m) (diag m),.dat .bool (kg fM (diag m) z n),[]⟩|193,[.dat (.int .i64) n,.fn 194 [.ip (.sl (.sl (.int .i64))) m]],[]=>some ⟨bz n (λi j=>ou i j m),.dat M (aI (oL m) n),[]⟩|193,[.dat (.int .i64) n,.fn 197 [.ip (.sl (.sl (.int .i64))) m,.ip (.int .i64) k]],[]=>some ⟨bz n (Ny m k),.dat M (aI (qf m k) n),[]⟩|_,_,_=>K4 f args m
def c5:Cfg:=Sv.mkc K5
def KS5:ai Tryz.prog G0 K5:=by
 intro f args m c h;unfold K5 at h;split at h;cases h;exact Lc _;cases h;exact BB _ _ _ _ (by kernel_rfl) rfl (λk=>aEY k _);cases h;exact BD _ _ _ (by kernel_rfl) rfl (λi j=>aB9 i j _);cases h;exact BD _ _ _ (by kernel_rfl) rfl (λi j=>aB8 _ i j _);exact KS4 _ _ _ _ h
def X9(m:Lj):ah Tryz.prog G0 196 [.dat M m] [] ⟨aDc m,.dat .bool (iF m),[]⟩:=
 zF (c:=c5) (A:=az) KS5 gC hm (p:=true/\(aDc m->kr (Df m) (λx b↦True) (λk↦ou k k m) (diag m)/\kg fM (diag m) false (Df m)=iF m/\True)) ⟨rfl,λh=>⟨h,rfl,trivial⟩⟩
def cm(m:Lj):Nat->Lj|0=>aI (oL m) m.length|k+1=>aI (qf (cm m k) k) m.length
def qe(m:Lj)(k:Int):Lj:=cm m k.toNat
def mW(m:Lj):Bool:=(List.range (m.length+1)).any λk=>iF (cm m k)
def HA(m:Lj):Lj×Int:=bif aA m then bif mW m then([],120)else(cm m m.length,0)else([],1)
def dF(m:Lj):Lj:=(HA m).1
def gy(m:Lj):Int:=(HA m).2
def pw(m:Lj):Prop:=m.length<=20
def Nx(m:Lj)(k:Int):Prop:=0<=k/\k<=m.length/\aA m=true/\∀j:Nat,(j:Int)<=k->iF (cm m j)=false
def K6:Kt:=λf args m=>match f,args,m with|196,[.dat (.sl (.sl (.int .i64))) m],[]=>some ⟨aDc m,.dat .bool (iF m),[]⟩|_,_,_=>K5 f args m
def c6:Cfg:=Sv.mkc K6
def aIc(m:Lj):Ann:=⟨λb s=>match b with
 |8=>some {α:=Int,inv:=λk=>Nx m k,st:=λk=>put s [(19,.dat I k),(5,.dat M (qe m k))],μ:=λk=>Dc (Di (Df m) k)}|_=>none,λb s=>match b with
 |11=>some (frz [0,1] s)|_=>none,λ_ _=>none⟩
def Jw{g:Int->Bool}(n:Nat):pH fM g false n=false↔∀k:Nat,k<n->g k=false:=by
 induction n with
 |zero=>simp[pH]|succ n b=>
  simp only[pH,fM,qBt,b];constructor;rintro⟨j,i⟩ k f;by_cases e:k=n;subst e;exact i;exact j k Z;exact λh=>⟨λk f=>h k Z,h n Z⟩
def ux{g:Int->Bool}{n:Int}:kg fM g false n=false↔∀k:Int,0<=k->k<n->g k=false:=by
 unfold kg;rw[Jw];constructor;intro h k b f;have:=h k.toNat Z;rwa [qY b]at this;exact λh k e=>h k Z Z
def s8{b:Li}:pT b=false↔∀k:Int,0<=k->k<b.length->uV (at1 b k)=true:=by
 unfold pT;rw[ux];simp[ng]
structure Sq(n:Nat)(m:Lj):Prop where
 len:m.length=n
 row:∀i:Int,0<=i->i<n->(m.getD i.toNat []).length=n
def Sq.ou{n:Nat}{m:Lj}(h:Sq n m){i j:Int}(e:0<=i)(b:i<n)(g:0<=j)(f:j<n):ou i j m:=
 ⟨e,by rw[h.len];exact b,g,by rw[h.row i e b];exact f⟩
def Nk{m:Lj}(h:aA m=true):Sq m.length m/\m.length<=40/\∀i j:Int,0<=i->i<m.length->0<=j->j<m.length->uV (at2 m i j)=true:=by
 unfold aA at h;simp only[qC,yC,wE]at h;obtain⟨y,u⟩:=h;have f:∀i:Int,0<=i->i<m.length->oZ m (m.getD i.toNat [])=false:=by
  intro i e b;have r:i.toNat<m.length:=Z;rw[qAi]at u;rw[qA,qB r];simpa using u _ (wL r)
 have g:∀i:Int,0<=i->i<m.length->(m.getD i.toNat []).length=m.length/\pT (m.getD i.toNat [])=false:=by
  intro i e b;have:=f i e b;unfold oZ at this;simp only[qBt,wE,ne_eq,qCb]at this;exact⟨by have:=this.1;omega,this.2⟩
 refine⟨⟨rfl,λi e b=>(g i e b).1⟩,Z,λi j e b x v=>?_⟩;obtain⟨g1,g2⟩:=g i e b;exact s8.1 g2 j x (by rw[g1];exact v)
def sZ(g:Int->Int->Int)(n:Nat)(i:Int)(b:0<=i)(e:i<n):(aI g n).getD i.toNat []=(List.range n).map λj:Nat=>g i j:=by
 unfold aI;simp only[qR];rw[qA,qX,vP Z];simp[qY b]
def iG(g:Int->Int->Int)(n:Nat):Sq n (aI g n):=⟨by simp[aI],λi e b=>by rw[sZ g n i e b];simp⟩
def iH(g:Int->Int->Int)(n:Nat)(i j:Int)(f:0<=i)(b:i<n)(e:0<=j)(h:j<n):at2 (aI g n) i j=g i j:=by
 unfold at2;rw[sZ g n i f b,qA,qX,vP Z];simp[qY e]
def KS6:ai Tryz.prog G0 K6:=by
 intro f args m c h;unfold K6 at h;split at h;cases h;exact X9 _;exact KS5 _ _ _ _ h
def km(m:Lj)(k:Nat):Sq m.length (cm m k):=by
 cases k<;>exact iG _ _
def bd(k:Nat):Int:=((1099511627776*2 ^ k:Nat):Int)
def aGb(k:Nat):1099511627776<=bd k:=by
 unfold bd;have:1<=2 ^ k:=Nat.one_le_two_pow;omega
def aDq(k:Nat):bd (k+1)=2*bd k:=by
 unfold bd;rw[Nat.pow_succ];omega
def aAq{k:Nat}(h:k<=20):bd k<=1152921504606846976:=by
 unfold bd;have:=Nat.pow_le_pow_right (n:=2) Z h;omega
def Yp{x y b:Int}(g:1099511627776<=b)(f:-b<=x/\x<=b)(e:-b<=y/\y<=b): -b<=kb x y/\kb x y<=b:=by
 unfold kb;cases dX x&&dX y;simp only[qAz];omega;simp only[qAy];omega
def R9{x y b:Int}(g:1099511627776<=b)(f:-b<=x/\x<=b)(e:-b<=y/\y<=b): -(2*b)<=lz x y/\lz x y<=2*b:=by
 unfold lz;cases dX x||dX y;simp only[qAz];omega;simp only[qAy];omega
def NS{c x:Int}(e:-1099511627776<=c/\c<=0)(b:uV x=true): -1099511627776<=kb c x/\kb c x<=1099511627776:=by
 unfold kb;cases h:dX x;simp only[uV,h,kV,qC,qE]at b;simp only[zJ,qAz];omega;simp only[dX,qE]at h;cases dX c&&true;simp only[qAz];omega;simp only[qAy];omega
def nS{m:Lj}(h:aA m=true):∀(k:Nat),k<=m.length->∀i j:Int,0<=i->i<m.length->0<=j->j<m.length->-(bd k)<=at2 (cm m k) i j/\at2 (cm m k) i j<=bd k
 |0,_,i,j,g,hi,f,b=>by
  have e:=(Nk h).2.2 i j g hi f b;show -(bd 0)<=at2 (aI (oL m) m.length) i j/\at2 (aI (oL m) m.length) i j<=bd 0;rw[iH _ _ _ _ g hi f b];have u:bd 0=1099511627776:=rfl;rw[u];unfold oL;cases decide (i=j);exact NS (c:=-1099511627776) Z e;exact NS (c:=0) Z e
 |k+1,v,i,j,g,hi,f,b=>by
  show -(bd (k+1))<=at2 (aI (qf (cm m k) k) m.length) i j/\at2 (aI (qf (cm m k) k) m.length) i j<=bd (k+1);rw[iH _ _ _ _ g hi f b,aDq];have r:=aGb k;have g1:=nS h k Z i j g hi f b;have g2:=nS h k Z i k g hi Z Z;have g3:=nS h k Z k j Z Z f b;exact Yp Z Z (R9 r g2 g3)
def aFX{n:Nat}{m:Lj}(h:Sq n m)(f:n<=20):aDc m:=
 ⟨by rw[h.len];omega,λk e b=>⟨h.ou e (by rw[<- h.len];exact b) e (by rw[<- h.len];exact b),λ_=>trivial⟩⟩
def Ql{m:Lj}(k:Nat)(b:k<=m.length)(h:iF (cm m k)=true):mW m=true:=
 xI.2 ⟨k,qW.2 Z,h⟩
def aES(m:Lj):ah Tryz.prog G0 134 [.dat M m] [] ⟨pw m,.tup [.dat M (dF m),.dat I (gy m)],[]⟩:=by
 refine zF (c:=c6) (A:=(lvA [(8,[2,3,4,5,6,7,18,19])] (aIc m))) KS6 gC hm (p:=let b:=aI (oL m) (Df m);let g:=iF b;true/\(pw m->True/\(Dj (aA m)->dF m=Dt (Li)/\1=gy m/\True)/\(Dj (aA m)=false->(bz (Df m) λi j↦ou i j m)/\aDc b/\(g->dF m=Dt (Li)/\120=gy m/\True)/\(g=false->(∃x,Nx m x/\Df m=Df m/\b=qe m x/\Df m=Df m/\0=x/\True)/\∀(x:Int),let e:=Dn x (Df m);let f:=aI (qf (qe m x) x) (Df m);let h:=iF f;let r:=x+1;Nx m x->(e->L3 1 0 1 0 (Df m) (qe m x) 1 0 x (T5 1 0 (qe m x) (Df m) x e x (qe m x) (bz (Df m) (Ny (qe m x) x)/\aDc f/\(h->dF m=Dt (Li)/\120=gy m/\True)/\(h=false->inR .i64 r/\∃y,Nx m y/\(Df m=Df m/\f=qe m y/\Df m=Df m/\r=y/\True)/\Dc (Df m-y)<Dc (Df m-x)))))/\(e=false->qe m x=dF m/\0=gy m/\True))))) ⟨rfl,λhp=>⟨trivial,λh=>?_,λh=>?_⟩⟩;have h:aA m=false:=by simpa using h
 simp[dF,gy,HA,h];have h:aA m=true:=by simpa using h
 unfold pw at hp;obtain⟨sq,_,el⟩:=Nk h;have V:∀k:Nat,aDc (cm m k):=λk=>aFX (km m k) hp;have L:∀k:Nat,k<=m.length->iF (cm m k)=true->dF m=[]/\(120:Int)=gy m/\True:=λk T z=>by
  have:=Ql k T z;simp[dF,gy,HA,h,this]
 refine⟨⟨by simp only[Df];omega,by simp only[Df];omega,λi j g u G f=>sq.ou g u G f⟩,V 0,L 0 Z,λg=>⟨⟨0,⟨Z,Z,h,λj f=>?_⟩,?_⟩,λx X=>⟨λb=>?_,λv=>?_⟩⟩⟩;have:j=0:=by omega
 subst this;exact g;simp only[yD,vW,qBf];rfl;have b:x<m.length:=by simpa using b
 obtain⟨r,g1,g2,g3⟩:=X;have ex:qe m x=cm m x.toNat:=rfl;have es:aI (qf (qe m x) x) (Df m)=cm m (x.toNat+1):=by
  rw[ex];show aI (qf (cm m x.toNat) x) m.length=aI (qf (cm m x.toNat) (x.toNat:Int)) m.length;rw[qY r]
 rw[es];simp only[L3,T5,yD,vW,qBf];refine⟨⟨by simp only[Df];omega,by simp only[Df];omega,λi j g u G f=>?_⟩,V _,λz=>by simpa using L (x.toNat+1) Z z,λz=>⟨by simp only[inR,Dq];omega,x+1,⟨Z,Z,h,λj f=>?_⟩,⟨?_,rfl⟩,?_⟩⟩;rw[ex];have O:=km m x.toNat;refine⟨O.ou g u G f,O.ou g u r b,O.ou r b G f,λ_ _=>?_⟩;have b1:=nS h x.toNat Z i x g u r b;have b2:=nS h x.toNat Z x j r b G f;have b3:=aAq (k:=x.toNat) Z;simp only[inR];omega;by_cases e:(j:Int)<=x;exact g3 j e;have:j=x.toNat+1:=by omega
 rw[this];exact z;show cm m (x.toNat+1)=cm m (x+1).toNat;rw[show(x+1).toNat=x.toNat+1 by omega];simp only[Dx,Dc,Di,Df];omega;have v:¬x<m.length:=by simpa using v
 obtain⟨r,g1,g2,g3⟩:=X;have hb:mW m=false:=by
  unfold mW;rw[qAi];intro k T;have:=g3 k (by have:=qW.1 T;omega);simp[this]
 have e:x.toNat=m.length:=Z;have:HA m=(cm m m.length,0):=by simp[HA,h,hb]
 refine⟨?_,?_,trivial⟩;unfold dF;rw[this];show cm m x.toNat=_;rw[e];unfold gy;rw[this]
end Go.Eng.Mp
namespace Go.Eng.Sv
open Go.Proofs
def Hh(z:Int)(w:List Bool)(h:Li)(a b:Int):Prop:=aA z w h=true/\bG a=true/\bG b=true
def jE(w:List Bool)(h:Li)(a b:Int):Li:=cD w h a (b-a+1)
def L0(n:Net)(line:Int):Prop:=noF n=true/\0<=line/\line<n.2.2.2.2.1.length
def al(n:Net)(line:Int):Line:=n.2.2.2.2.1.getD line.toNat (⟨#[]⟩,0,0,0,0,0)
def dQ(n:Net)(line:Int):Int×List Bool×Li:=n.1.getD (n.2.2.2.1.getD (al n line).2.1.toNat (⟨#[]⟩,0,0,0,0,0,[])).2.2.1.toNat (0,[],[])
def bO(n:Net)(line:Int)(b:Li):Bool:=cY line n.2.2.2.2.1.length&&b.all bS&&aS n
def EN(b:Li)(k:Int):Prop:=0<=k/\k<=b.length/\(b.take k.toNat).all bS=true
def Zl(b:Li):Prop:=b.length<=1000000
def nE(n:Net)(line b:Int):Prop:=L0 n line/\0<=b/\b<=2000000
def aV(n:Net)(line d:Int):Int:=dE (dQ n line).1 d (al n line).2.2.2.1
def oS(n:Net)(line b:Int):Li:=jE (dQ n line).2.1 (dQ n line).2.2 (bE (dQ n line).1 b) (bE (dQ n line).1 b+60)
def bH(n:Net)(line b:Int):Option Int:=(((oS n line b).map (aV n line)).find? λt=>decide (b<=t)).bind λt=>if t<b+86400 then some t else none
def lS(n:Net)(line b:Int):Int:=(bH n line b).getD 0
def k7(n:Net)(line b:Int):Bool:=(bH n line b).isSome
def firstTo(n:Net)(line b:Int)(k:Nat):Prop:=k<=(oS n line b).length/\((oS n line b).take k).all (λd=>decide (aV n line d<b))=true
def KT5:Kt:=kOr 279 Jg KT4
def aAJ(b:Li):Ann:=Z8 4 Int (EN b) (λs k=>put s [(20,.dat I k)]) λk=>Dc (Di (Df b) k)
def fI(w:List Bool)(h:Li)(a b:Int):Ku:=⟨λe y=>match e with
 |1=>some {α:=Int,inv:=λd=>nI a (Dq (Di b a) 1) d,st:=λd=>⟨put y.s [(5,.dat I d)],mT w h a d,true⟩,μ:=λd=>Dc (Di (Dq b 1) d)}|_=>none,λ_ _=>none,λe=>e==3⟩
def W0(z a b:Int)(w:List Bool)(h:Li)(i:
 let c1:=(z,w,h);let c2:=jE w h a b;let c3:=Dk c2;let c4:=b+1;true/\true/\true/\false=false/\∀(l:Nat),Hh z w h a b->(∃x,nI a ((b-a)+1) x/\(Q3 l a b c1 (a=x/\T3 a))/\0=mT w h a x/\true)/\∀(x:Int),let c5:=(b-a)+1;let c6:=mT w h a x;let c7:=c6+1;let g:=x+1;let c9:=Dz (aX w h x) (Dj false) false;nI a c5 x->(Ef x b->(aA z w h/\bG x)/\(aX w h x->(aX w h x->aX w h x)/\(aX w h x->aX w h x)/\l=l/\true/\nB c2 c6 x/\∀(e:Bool),let f:=Dz (aX w h x) (Dj e) false;(Dh true (aX w h x)->aX w h x)/\(f->e->c7=c3)/\(f=false->inR .i64 g/\∃y,nI a c5 y/\((Q3 l a b c1 (g=y/\T3 a))/\c7=mT w h a y/\e)/\Dc (c4-y)<Dc (c4-x)))/\(aX w h x=false->L4 (aX w h x) ((Dh true (aX w h x)->aX w h x)/\(c9->true->c6=c3)/\(c9=false->inR .i64 g/\∃y,nI a c5 y/\((Q3 l a b c1 (g=y/\T3 a))/\c6=mT w h a y/\true)/\Dc (c4-y)<Dc (c4-x)))))/\(Ef x b=false->true->c6=c3)):
  evI (mkc KT5) (fI w h a b) 278 [.ip I a,.ip I b,.ip C (z,w,h)] ⟨Hh z w h a b,I,jE w h a b⟩:=oE_ i
abbrev DI:=aj [.row N,.val I] (λ(n,l,_)=>L0 n l) λ(n,l,_)=>cal (dQ n l).1 (dQ n l).2.1 (dQ n l).2.2
abbrev rm:=aj [.row C,.val I,.val I] (λ_=>True) λ(c,a,b,_)=>.fn 278 [.ip I a,.ip I b,.ip C (c.1,c.2.1,c.2.2)]
abbrev yj:=aj [.row N,.val I,.val R] (λ(_,_,b,_)=>Zl b) λ(n,l,b,_)=>.dat .bool (bO n l b)
def KT6:Kt:=kOr 255 DI <|
 kOr 256 rm <|
 kOr 189 yj KT5
def aJp:FuncId->List AV->Option jX:=λf e=>match f,e with|278,[.ip (.int .i64) a,.ip (.int .i64) b,.ip (.pair (.int .i64) (.pair (.sl .bool) (.sl (.int .i64)))) c]=>some ⟨Hh c.1 c.2.1 c.2.2 a b,I,jE c.2.1 c.2.2 a b⟩|_,_=>none
noncomputable def mkr(K:Kt)(b:Tmp->Bool):Cfg:=⟨yv,G0,K,b,aJp,true,λ_ _ _=>none,λ_=>false⟩
def aFN(n:Net)(line b:Int):Ann:=Z8 4 Nat (firstTo n line b) (λs _=>flat s) λk=>k
abbrev CV:=aj [.row N,.val I,.val I] (λ(n,l,t,_)=>nE n l t) λ(n,l,t,_)=>.tup [.dat I (lS n l t),.dat .bool (k7 n l t)]
def KT7:Kt:=kOr 190 CV KT6
def aGg:ai yv G0 KT5:=af aE0 aGh
def Eg(e:LC)(g i:LB)(b:Lo)(f:Ll)(j:Lk){line:Int}(h:L0 (e,g,i,b,f,j) line):aA (dQ (e,g,i,b,f,j) line).1 (dQ (e,g,i,b,f,j) line).2.1 (dQ (e,g,i,b,f,j) line).2.2=true/\0<=(al (e,g,i,b,f,j) line).2.1/\(al (e,g,i,b,f,j) line).2.1<b.length/\
  0<=(b.getD (al (e,g,i,b,f,j) line).2.1.toNat (⟨#[]⟩,0,0,0,0,0,[])).2.2.1/\(b.getD (al (e,g,i,b,f,j) line).2.1.toNat (⟨#[]⟩,0,0,0,0,0,[])).2.2.1<e.length/\0<=(al (e,g,i,b,f,j) line).2.2.2.1/\(al (e,g,i,b,f,j) line).2.2.2.1<=1439:=by
 obtain⟨r,T,v⟩:=h;have v:line<f.length:=v;have z:al (e,g,i,b,f,j) line∈f:=by
  unfold al;show f.getD line.toNat _∈f;rw[qA,qB Z,qK];exact wL _
 obtain⟨g1,g2,g3,g4,V,x,_⟩:=kB ((nh e g i b f j r).2.2.2 _ z);have O:0<=(al (e,g,i,b,f,j) line).2.1:=g1;have L:(al (e,g,i,b,f,j) line).2.1<b.length:=g2;have y:b.getD (al (e,g,i,b,f,j) line).2.1.toNat (⟨#[]⟩,0,0,0,0,0,[])∈b:=by
  rw[qA,qB Z,qK];exact wL _
 have u:=(eJ e g i b f j r).2.2.2 _ y;unfold dt cY at u;simp only[qC,qE]at u;have u:0<=(b.getD (al (e,g,i,b,f,j) line).2.1.toNat (⟨#[]⟩,0,0,0,0,0,[])).2.2.1/\(b.getD (al (e,g,i,b,f,j) line).2.1.toNat (⟨#[]⟩,0,0,0,0,0,[])).2.2.1<(e.length:Int):=u.1.1.1.1.1.2;have G:=((vj (by decide)).1 (ku e g i b f j r).2.1).2.2.2;have A:(aL e g).length=e.length:=by unfold aL;simp
 have:=G (b.getD (al (e,g,i,b,f,j) line).2.1.toNat (⟨#[]⟩,0,0,0,0,0,[])).2.2.1.toNat Z;unfold bI at this;rw[iw (λc:Int×List Bool×Li=>aA c.1 c.2.1 c.2.2) e _ (0,[],[]) false Z]at this;exact⟨this,O,L,u.1,u.2,x.1,x.2⟩
def aBQ:eO 255 DI:=ae λ(((g,j,i,f,e,r):Net),(b:Int),_)=>by
 refine zE (A:=az) (p:=let y:=(g,j,i,f,e,r);let h:=(Du e (Dc b) (ByteArray.mk #[],(0:Int),(0:Int),(0:Int),(0:Int),(0:Int))).2.1;let u:=(Du f (Dc h) (ByteArray.mk #[],(0:Int),(0:Int),(0:Int),(0:Int),(0:Int),Dt ByteArray)).2.2.1;let v:=Du g (Dc u) ((0:Int),Dt Bool,Dt Int);let x:=dQ y b;(L0 y b->0<=b/\b<Df e/\0<=h/\h<Df f/\0<=u/\u<Df g/\Q3 1 0 1 0 (v.1=x.1/\v.2.1=x.2.1/\v.2.2=x.2.2/\True))) aGg λh=>?_;obtain⟨_,y,x,v,u,_⟩:=Eg g j i f e r h;exact⟨h.2.1,h.2.2,y,x,v,u,rfl,rfl,rfl,rfl,rfl,rfl,rfl,trivial⟩
def Qb:eO 256 rm:=ae λ(((z:Int),(w:List Bool),(h:Li)),(a:Int),(b:Int),_)=>zE (A:=az) (p:=let e:=(z,w,h);(True->z6 a b e)) aGg λ_=>⟨rfl,rfl,rfl,trivial⟩
def Bo{t:Int}:bS t=true↔¬t<0/\¬t>2000000:=by unfold bS;rw[qE];omega
def Xp:eO 189 yj:=ae λ(((T,v,u,O,f,z):Net),(b:Int),(e:Li),_)=>by
 refine zE (A:=(lvA [(4,[3,6,8,18,19,20])] (aAJ e))) (p:=let G:=Dn b 0;let g:=Dj G;let L:=Dz G true (Ed b (Df f));let h:=(T,v,u,O,f,z);let r:=bO h b e;(Zl e->L4 g (Q4 g ((Dh true g->g)/\(L->false=r/\True)/\(L=false->(∃x,EN e x/\Q2 h e (Df e) (0=x/\True))/\∀(x:Int),let X:=Dn x (Df e);let c7:=Du e (Dc x) 0;let V:=Dn c7 0;let A:=Dj V;let j:=Dz V true (Eh c7 2000000);let i:=x+1;EN e x->(X->0<=x/\x<Df e/\L4 A ((Dh true A->A)/\(j->false=r/\True)/\(j=false->inR .i64 i/\∃y,EN e y/\(Q2 h e (Df e) (i=y/\True))/\Dc (Df e-y)<Dc (Df e-x))))/\(X=false->True/\Eb (Df (fa h)) 0=r/\True)))))) aGg λhp=>?_;refine Z9 ?_;have hp':e.length<=1000000:=hp;refine⟨λh=>?_,λ⟨h1,h2⟩=>⟨⟨qH _,qI _,rfl⟩,λk ⟨X,k1,r⟩=>⟨λG=>?_,λG=>?_⟩⟩⟩;unfold bO;have:cY b (f.length:Nat)=false:=by unfold cY;exact vF Z
 show false=(cY b (f.length:Nat)&&_&&_);rw[this];rfl;have L:e.getD k.toNat 0=e[k.toNat]:=by rw[qA,qB Z,qK]
 refine⟨X,G,λh=>?_,λh=>⟨aE Z,k+1,⟨Z,Z,?_⟩,rfl,Z⟩⟩;have hn:e.all bS=false:=by
  rw[qAj];refine⟨e[k.toNat],wL _,λg=>?_⟩;rw[<- L,Bo]at g;omega
 unfold bO;rw[hn,zJ];rfl;rw[show(k+1).toNat=k.toNat+1 by omega,wW,qB Z,qBa,gV,r,<- L];show(true&&(bS _&&true))=true;rw[Bo.2 h];rfl;have e1:cY b (f.length:Nat)=true:=by unfold cY;exact qU Z
 have e2:e.all bS=true:=by
  rw[qO Z]at r;exact r
 unfold bO aS;show _=(cY b (f.length:Nat)&&e.all bS&&_);rw[e1,e2];cases fa (T,v,u,O,f,z)with
 |nil=>rfl|cons a l=>
  show decide _=false;rw[wE];show ¬((((a::l).length:Nat):Int)=0);rw[wO];omega
def dY{d:Int}:bG d=true↔-1000000<=d/\d<=1000000:=by unfold bG;rw[qE]
def aAT(a b:Int)(c:C.den):mU yv G0 278 [.ip I a,.ip I b,.ip C c] ⟨Hh c.1 c.2.1 c.2.2 a b,I,jE c.2.1 c.2.2 a b⟩:=by
 obtain⟨z,w,h⟩:=c;refine sF (c:=mkc KT5) (A:=fI w h a b) aGg gC hm ?_;refine W0 z a b w h ⟨rfl,rfl,rfl,rfl,λl ⟨r,O,G⟩=>?_⟩;refine Z9 ?_;have L:=dY.1 O;have y:=dY.1 G;refine⟨⟨a,⟨qH _,.inr rfl⟩,rfl,(PG w h a).symm⟩,λx i=>?_⟩;have e:=i.1;have j:=i.2;refine⟨λu=>⟨⟨r,dY.2 Z⟩,λf=>⟨Wl e Z f,λs=>⟨λg1 g2=>(by rw[g1.2]at g2;cases g2),λg=>⟨aE Z,x+1,⟨Z,.inl Z⟩,⟨rfl,?_,g f⟩,Z⟩⟩⟩,λf=>⟨λg=>(by rw[f]at g;cases g),λ_=>⟨aE Z,x+1,⟨Z,.inl Z⟩,⟨rfl,?_⟩,Z⟩⟩⟩,λv=>?_⟩;rw[vq e,f];rfl;rw[vq e,f];rfl;exact cnt_end (n:=b-a+1) i Z
def aJT:ai yv G0 KT6:=af aBQ<|af Qb<|af Xp aGg
def aGv:bh yv G0 aJp:=by
 intro f b c h;unfold aJp at h;split at h;cases h;exact aAT _ _ _;cases h
def MK{f:Int->Int}{b y:Int}(e:¬f y<b):∀{L:Li}{x:Nat},L[x]?=some y->(L.take x).all (λd=>decide (f d<b))=true->(L.map f).find? (λt=>decide (b<=t))=some (f y)
 |[],x,h,_=>by simp at h|a::L,0,h,_=>by
  have:a=y:=by simpa using h
  subst this;rw[zO,qAa,qU (show b<=f a by omega)]
 |a::L,x+1,h,g=>by
  rw[List.take_succ_cons,qAc,qC,qE]at g;rw[zO,qAa,vF (show ¬b<=f a by omega)];exact MK e (by simpa using h) g.2
def Vs{f:Int->Int}{b:Int}:∀{L:Li},L.all (λd=>decide (f d<b))=true->(L.map f).find? (λt=>decide (b<=t))=none
 |[],_=>rfl|a::L,g=>by
  rw[qAc,qC,qE]at g;rw[zO,qAa,vF (show ¬b<=f a by omega)];exact Vs g.2
def r6{w:List Bool}{h:Li}{a b y:Int}(e:y∈jE w h a b):a<=y/\y<=b/\aX w h y=true:=by
 unfold jE cD at e;rw[yI]at e;obtain⟨e,f⟩:=e;obtain⟨i,g,rfl⟩:=vK.1 e;have:=qW.1 g;exact⟨Z,Z,f⟩
def uZ{z:Int}{w:List Bool}{h:Li}{t:Int}(b:aA z w h=true)(g:0<=t)(t1:t<=2000000): -2<=bE z t/\bE z t<=2000:=by
 obtain⟨⟨f,e,_⟩,_⟩:=bD.1 b;unfold bE;omega
def aBt:eO 190 CV:=ae λ(((u,i,h,r,g,j):Net),(b:Int),(e:Int),_)=>by
 refine zF (c:=mkr KT6 λ_=>false) (A:=(aFN (u,i,h,r,g,j) b e)) aJT aGv hm (p:=let V:=(u,i,h,r,g,j);let c2:=dQ V b;let A:=c2.1;let c4:=c2.2;let G:=c4.1;let O:=c4.2;let f:=bE A e;let v:=f+60;let T:=ID A e;let L:=(A,G,O);let c11:=jE G O f v;let X:=(Du g (Dc b) (ByteArray.mk #[],(0:Int),(0:Int),(0:Int),(0:Int),(0:Int))).2.2.2.1;let c13:=e+86400;let c14:=lS V b e;let c15:=k7 V b e;true/\(nE V b e->L0 V b/\Q3 1 0 1 0 (dK A G O e/\L5 1 0 (inR IntKind.i64 v/\True/\Hh A G O f v/\(∃x,firstTo V b e x/\x=0/\u=u/\i=i/\h=h/\r=r/\g=g/\j=j/\b=b/\e=e/\V=V/\b=b/\e=e/\1=1/\0=0/\0=0/\1=1/\0=0/\0=0/\1=1/\0=0/\0=0/\f=f/\T=T/\u=u/\i=i/\h=h/\r=r/\g=g/\j=j/\b=b/\A=A/\G=G/\O=O/\f=f/\T=T/\A=A/\G=G/\O=O/\e=e/\f=f/\T=T/\f=f/\T=T/\A=A/\G=G/\O=O/\f=f/\f=f/\v=v/\f=f/\v=v/\L=L/\(0:Int)=(0:Int)/\false=false/\A=A/\G=G/\O=O/\True)/\(∀(x:Nat) (y:Int),let c16:=Dn (dE A y X) e;let c17:=Ed (dE A y X) c13;
  firstTo V b e x->nB c11 x y->L5 1 0 (0<=b/\b<Df g/\jk A G O y X/\(c16->∃z,firstTo V b e z/\z=x+1/\u=u/\i=i/\h=h/\r=r/\g=g/\j=j/\b=b/\e=e/\V=V/\b=b/\e=e/\1=1/\0=0/\0=0/\1=1/\0=0/\0=0/\1=1/\0=0/\0=0/\f=f/\T=T/\u=u/\i=i/\h=h/\r=r/\g=g/\j=j/\b=b/\A=A/\G=G/\O=O/\f=f/\T=T/\A=A/\G=G/\O=O/\e=e/\f=f/\T=T/\f=f/\T=T/\A=A/\G=G/\O=O/\f=f/\f=f/\v=v/\f=f/\v=v/\L=L/\(0:Int)=(0:Int)/\false=false/\A=A/\G=G/\O=O/\True)/\(c16=false->inR .i64 c13/\(c17->T5 1 0 1 0 1 0 1 0 (0=c14/\false=c15/\True))/\(c17=false->T5 1 0 1 0 1 0 1 0 (dE A y X=c14/\true=c15/\True)))))/\∀(x:Nat),firstTo V b e x->x=Dk c11->T5 1 0 1 0 1 0 1 0 (0=c14/\false=c15/\True))))) ⟨rfl,λhp=>?_⟩
 refine Z9 ?_;obtain⟨V,t0,t1⟩:=hp;obtain⟨hv,_,_,_,_,m0,m1⟩:=Eg u i h r g j V;obtain⟨d0,d1⟩:=uZ hv t0 t1;refine⟨V,⟨hv,Z,Z⟩,aE Z,⟨hv,dY.2 Z,dY.2 Z⟩,⟨wU _,rfl⟩,λx y hx hy=>?_,λx hx V=>?_⟩;have G:(oS (u,i,h,r,g,j) b e)[x]?=some y:=hy;obtain⟨y0,y1,yw⟩:=r6 (yA hy);obtain⟨x1,T⟩:=hx;refine⟨V.2.1,V.2.2,⟨hv,dY.2 Z,m0,(by show(al (u,i,h,r,g,j) b).2.2.2.1<1440;omega)⟩,λhlt=>⟨(qG.1 G).1,?_⟩,λX=>⟨aE Z,λhfar=>?_,λO=>?_⟩⟩;rw[wW,G,qBa,gV,T];show(true&&(decide (aV (u,i,h,r,g,j) b y<e)&&true))=true;rw[qU (show aV (u,i,h,r,g,j) b y<e from hlt)];rfl;have hf:bH (u,i,h,r,g,j) b e=none:=by
  unfold bH;rw[MK (f:=aV (u,i,h,r,g,j) b) X G T];show(if aV (u,i,h,r,g,j) b y<e+86400 then some (aV (u,i,h,r,g,j) b y)else none)=none;rw[if_neg (show ¬aV (u,i,h,r,g,j) b y<e+86400 from by have:aV (u,i,h,r,g,j) b y≥e+86400:=hfar;omega)]
 unfold lS k7;rw[hf];exact⟨rfl,rfl⟩;have hf:bH (u,i,h,r,g,j) b e=some (aV (u,i,h,r,g,j) b y):=by
  unfold bH;rw[MK (f:=aV (u,i,h,r,g,j) b) X G T];show(if aV (u,i,h,r,g,j) b y<e+86400 then some (aV (u,i,h,r,g,j) b y)else none)=_;rw[if_pos (show aV (u,i,h,r,g,j) b y<e+86400 from by have:¬aV (u,i,h,r,g,j) b y≥e+86400:=O;omega)]
 unfold lS k7;rw[hf];exact⟨rfl,rfl⟩;obtain⟨x1,T⟩:=hx;have hx':x=(oS (u,i,h,r,g,j) b e).length:=V;rw[hx',yQ]at T;have hf:bH (u,i,h,r,g,j) b e=none:=by
  unfold bH;rw[Vs T];rfl
 unfold lS k7;rw[hf];exact⟨rfl,rfl⟩
def aKT:ai yv G0 KT7:=af aBt aJT
def dP(n:Net)(l t:Int):Int:=if bO n l [t]then lS n l t else 0
def gi(n:Net)(l t:Int):Int:=if bO n l [t]then(if k7 n l t then 0 else 20)else 1
def nq(a b:Int):Int:=if a<b then b else a
def KT8:Kt:=KT7
abbrev OJ:=aj [.val I] (λ_=>True) λ_=>.dat .bool false
def KT9:Kt:=kOr 277 OJ KT8
abbrev I0:=aj [.val I,.val I] (λ_=>True) λ(x,y,_)=>.dat .bool (Dn x y)
def aJK:Kt:=kOr 249 I0 KT9
abbrev ua:=aj [.val I,.val I] (λ_=>True) λ(x,y,_)=>.dat I (nq x y)
def aJJ:Kt:=kOr 191 ua aJK
def gj(v:LC)(i g:LB)(u:Lo)(j:Ll)(r:Lk){line b:Int}{x:Li}(h:bO (v,i,g,u,j,r) line x=true)(y:b∈x):nE (v,i,g,u,j,r) line b:=by
 unfold bO at h;rw[qC,qC]at h;obtain⟨⟨f,G⟩,A⟩:=h;have f:=vT f;have z:=((D8 v i g u j r).1 (zB.1 A)).1;have e:=vT (qQ.1 G b y);exact⟨⟨z,f.1,f.2⟩,e.1,e.2⟩
def aJS:ai yv G0 KT8:=aKT
def aHQ:eO 277 OJ:=ae λ((x:Int),_)=>zE (A:=az) (p:=(True->Dw x x=false/\True)) aJS λ_=>⟨by simp[Dw],trivial⟩
def aJR:ai yv G0 KT9:=af aHQ aJS
def aEq:eO 249 I0:=ae λ((x:Int),(y:Int),_)=>by
 refine zE (A:=az) (p:=let e:=Dz false (Dj false) false;let b:=Dj e;(True->True/\L4 false ((false->True)/\L4 false ((Dh true false->false)/\L7 b ((Dh true b->b)/\Dz e true (Dn x y)=Dn x y/\True))))) aJR λ_=>?_;exact⟨trivial,λh=>(by cases h),λ_=>trivial,λh=>(by cases h),λh=>(by cases h),λh _=>h,λh _=>h,λh=>h,rfl,trivial⟩
def aGj:ai yv G0 aJK:=af aEq aJR
def SY:eO 191 ua:=ae λ((x:Int),(y:Int),_)=>by
 refine zE (A:=az) (p:=(True->True/\(Dn x y->y=nq x y/\True)/\(Dn x y=false->x=nq x y/\True))) aGj λ_=>⟨trivial,λh=>⟨?_,trivial⟩,λh=>⟨?_,trivial⟩⟩;unfold nq;rw[if_pos (vT h)];unfold nq;rw[if_neg (kK h)]
def aI4:ai yv G0 aJJ:=af SY aGj
def waitGo(n:Net)(line b:Int):Nat->Int->Int->Option Int|0,_,m=>some m|k+1,t,m=>if t<b then(bH n line t).bind λu=>waitGo n line b k (u+1) (nq m (u-t))else some m
def uM(n:Net)(line a b:Int):Option Int:=waitGo n line b (b-a).toNat a 0
def ki(n:Net)(line a b:Int):Bool:=bO n line [a,b]&&decide (a<b)&&decide (b<=a+86400)
def mO(n:Net)(line a b:Int):Int:=if ki n line a b then(uM n line a b).getD 0 else 0
def oK(n:Net)(line a b:Int):Int:=if ki n line a b then(if(uM n line a b).isSome then 0 else 20)else 1
def Nj(n:Net)(line a b m t:Int):Prop:=ki n line a b=true/\a<=t/\t<=b+86400/\0<=m/\m<=86400/\waitGo n line b (b-t).toNat t m=uM n line a b
def aIZ:Kt:=aJJ
def aHi(n:Net)(line a b:Int):Ann:=Z8 5 (Int×Int) (λx=>Nj n line a b x.1 x.2) (λs x=>put s [(10,.dat I x.1),(11,.dat I x.2)]) λx=>Dc (Di b x.2)
abbrev IU:=aj [.row N,.val I,.val I,.val I] (λ_=>True) λ(n,l,a,b,_)=>.tup [.dat I (mO n l a b),.dat I (oK n l a b)]
def aJI:Kt:=kOr 132 IU aIZ
def aGi:ai yv G0 aIZ:=aI4
def Bh(r:LC)(f e:LB)(j:Lo)(g:Ll)(i:Lk){line a b:Int}(h:bO (r,f,e,j,g,i) line [a,b]=true):nE (r,f,e,j,g,i) line a/\nE (r,f,e,j,g,i) line b:=
 ⟨gj r f e j g i h (by simp),gj r f e j g i h (by simp)⟩
def fx{n:Net}{l t u:Int}(h:bH n l t=some u):t<=u/\u<t+86400:=by
 unfold bH at h;cases e:((oS n l t).map (aV n l)).find? (λv=>decide (t<=v))with
 |none=>rw[e]at h;cases h
 |some v=>
  rw[e]at h;have b:=vT (qCm (p:=λv=>decide (t<=v)) e);have h:(if v<t+86400 then some v else none)=some u:=h;split at h;cases h;exact⟨b,by assumption⟩;cases h
def pq{n:Net}{l b:Int}:∀(k j:Nat) (t m:Int),(b-t).toNat<=k->(b-t).toNat<=j->waitGo n l b k t m=waitGo n l b j t m
 |0,0,_,_,_,_=>rfl|0,j+1,t,m,h,_=>by rw[waitGo,waitGo,if_neg Z]|k+1,0,t,m,_,h=>by rw[waitGo,waitGo,if_neg Z]|k+1,j+1,t,m,i,f=>by
  rw[waitGo,waitGo];by_cases g:t<b;rw[if_pos g,if_pos g];cases e:bH n l t with
  |none=>rfl|some u=>
   have:=fx e;exact pq k j (u+1) _ Z Z
  rw[if_neg g,if_neg g]
def aEg:eO 132 IU:=ae λ(((z,i,g,v,j,r):Net),(f:Int),(a:Int),(b:Int),_)=>by
 refine zF (c:=mkr aIZ λ_=>false) (A:=(lvA [(5,[1,3,4,8,9,10,11,12,13])] (aHi (z,i,g,v,j,r) f a b))) aGi aGv hm (p:=let G:=[a,b];let e:=(z,i,g,v,j,r);let L:=Dj (bO e f G);let u:=Dj L;let O:=Dz L true (Ef b a);let h:=Dj O;let V:=a+86400;let c8:=Dz O true (Eh b V);let A:=mO e f a b;let T:=oK e f a b;true/\(True->Zl G/\L7 u ((Dh true u->u)/\L4 h ((h->inR .i64 V)/\L7 h ((Dh true h->h)/\(c8->0=A/\1=T/\True)/\(c8=false->(∃(x:Int×Int),Nj e f a b x.1 x.2/\Q2 f b e (0=x.1/\a=x.2/\True))/\∀(x:Int×Int),let X:=Dn x.2 b;let c12:=Dj (k7 e f x.2);let c13:=lS e f x.2;let c14:=c13-x.2;let c15:=c13+1;Nj e f a b x.1 x.2->(X->nE e f x.2/\(c12->0=A/\20=T/\True)/\(c12=false->inR .i64 c14/\True/\inR .i64 c15/\∃(y:Int×Int),Nj e f a b y.1 y.2/\(Q2 f b e (nq x.1 c14=y.1/\c15=y.2/\True))/\Dc (b-y.2)<Dc (b-x.2)))/\(X=false->x.1=A/\0=T/\True))))))) ⟨rfl,λ_=>?_⟩;refine Z9 ?_;have h2:Zl [a,b]:=(by show(2:Nat)<=1000000;decide);refine⟨h2,λ⟨hu,_⟩=>?_,λh=>?_,λ⟨⟨hu,hab⟩,hb⟩=>?_⟩;obtain⟨⟨_,a0,a1⟩,_⟩:=Bh z i g v j r hu;exact aE Z;have hn:ki (z,i,g,v,j,r) f a b=false:=by
  unfold ki;rcases h with(h|h)|h;rw[h];rfl;rw[vF (show ¬a<b by omega),zJ];rfl;rw[vF (show ¬b<=a+86400 by omega),zJ]
 unfold mO oK;rw[hn];exact⟨rfl,rfl⟩;obtain⟨⟨hl,a0,a1⟩,_,b0,b1⟩:=Bh z i g v j r hu;have L:ki (z,i,g,v,j,r) f a b=true:=by
  unfold ki;rw[hu,qU (show a<b by omega),qU (show b<=a+86400 by omega)];rfl
 refine⟨⟨(0,a),⟨L,qH _,(by show a<=b+86400;omega),qH _,(by show(0:Int)<=86400;omega),rfl⟩,rfl,rfl⟩,λx=>?_⟩;obtain⟨m,t⟩:=x;simp only;rintro⟨_,t0,t1,m0,m1,G⟩;refine⟨λht=>?_,λht=>?_⟩;have hk:(b-t).toNat=(b-t).toNat-1+1:=by omega
 rw[hk,waitGo,if_pos ht]at G;refine⟨⟨hl,Z,Z⟩,λO=>?_,λO=>?_⟩;have e:bH (z,i,g,v,j,r) f t=none:=by
  unfold k7 at O;cases e:bH (z,i,g,v,j,r) f t with
  |none=>rfl|some u=>rw[e]at O;cases O
 rw[e]at G;have G:uM (z,i,g,v,j,r) f a b=none:=G.symm;unfold mO oK;rw[L,G];exact⟨rfl,rfl⟩;obtain⟨u,e⟩:∃u,bH (z,i,g,v,j,r) f t=some u:=by
  unfold k7 at O;cases e:bH (z,i,g,v,j,r) f t with
  |none=>rw[e]at O;cases O
  |some u=>exact⟨u,rfl⟩
 obtain⟨u0,u1⟩:=fx e;have hd:lS (z,i,g,v,j,r) f t=u:=by unfold lS;rw[e];rfl
 rw[e]at G;have G:waitGo (z,i,g,v,j,r) f b ((b-t).toNat-1) (u+1) (nq m (u-t))=uM (z,i,g,v,j,r) f a b:=G;have V:0<=nq m (u-t)/\nq m (u-t)<=86400:=by unfold nq;split<;>omega
 rw[hd];refine⟨aE Z,aE Z,(nq m (u-t),u+1),⟨L,(by show a<=u+1;omega),(by show u+1<=b+86400;omega),V.1,V.2,?_⟩,⟨rfl,rfl⟩,(by show(b-(u+1)).toNat<_;omega)⟩;rw[<- G];exact pq _ _ _ _ (qM _) (by show(b-(u+1)).toNat<=_;omega);have hk:(b-t).toNat=0:=by omega
 rw[hk,waitGo]at G;unfold mO oK;rw[L,<- G];exact⟨rfl,rfl⟩
def aI3:ai yv G0 aJI:=af aEg aGi
def Qm(n:Net)(line a b:Int):Li:=jE (dQ n line).2.1 (dQ n line).2.2 (bE (dQ n line).1 a) (bE (dQ n line).1 b)
def VF(n:Net)(line a b:Int)(k:Nat):Li:=(((Qm n line a b).take k).map (aV n line)).filter λt=>decide (a<=t)&&decide (t<b)
def da(n:Net)(line a b:Int):Li:=if bO n line [a,b]&&decide (b<=a+86400)then VF n line a b (Qm n line a b).length else[]
def Tv{n:Net}{line a b:Int}:(Qm n line a b).length<=(bE (dQ n line).1 b-bE (dQ n line).1 a+1).toNat:=by
 unfold Qm jE cD;exact wJ (zU _ _) (by rw[vG,vC];exact qM _)
def isDep(n:Net)(l v:Int):Prop:=aX (dQ n l).2.1 (dQ n l).2.2 (bE (dQ n l).1 v)=true/\ID (dQ n l).1 v=(al n l).2.2.2.1
def atOk(n:Net)(l:Int):Prop:=0<=(al n l).2.2.2.1/\(al n l).2.2.2.1<=1439
def FY(j:LC)(e b:LB)(i:Lo)(f:Ll)(g:Lk){line:Int}(h:L0 (j,e,b,i,f,g) line):atOk (j,e,b,i,f,g) line:=by
 obtain⟨_,_,_,_,_,u,r⟩:=Eg j e b i f g h;exact⟨u,r⟩
def UT{n:Net}{l:Int}(h:atOk n l)(d:Int):bE (dQ n l).1 (aV n l d)=d/\ID (dQ n l).1 (aV n l d)=(al n l).2.2.2.1:=by
 unfold atOk at h;unfold bE ID aV dE;omega
def nH{n:Net}{l v:Int}(h:isDep n l v):aV n l (bE (dQ n l).1 v)=v:=by
 unfold isDep bE ID at h;unfold aV dE bE;omega
def rj{n:Net}{l d:Int}(h:atOk n l)(b:aX (dQ n l).2.1 (dQ n l).2.2 d=true):isDep n l (aV n l d):=by
 have:=UT h d;unfold isDep;rw[this.1,this.2];exact⟨b,rfl⟩
def BV{w:List Bool}{h:Li}{a b y:Int}(g:a<=y)(f:y<=b)(e:aX w h y=true):y∈jE w h a b:=by
 unfold jE cD;rw[yI];exact⟨vK.2 ⟨(y-a).toNat,qW.2 Z,Z⟩,e⟩
def pU(w:List Bool)(h:Li)(a b:Int):(jE w h a b).Pairwise (· < ·):=by
 unfold jE cD;refine List.Pairwise.filter _ ?_;rw[qAf];exact List.pairwise_lt_range.imp λh=>Z
def tK{n:Net}{l:Int}{L:Li}(h:L.Pairwise (· < ·)):(L.map (aV n l)).Pairwise (· < ·):=by
 rw[qAf];exact h.imp λh=>by unfold aV dE;omega
def sM{t u:Int}:∀{L:Li},L.Pairwise (· < ·)->L.find? (λv=>decide (t<=v))=some u->u∈L/\t<=u/\∀v∈L,t<=v->u<=v
 |[],_,e=>by cases e
 |a::L,j,e=>by
  rw[qAa]at e;obtain⟨y,x⟩:=yV.1 j;by_cases g:t<=a;rw[qU g]at e;have e:a=u:=wZ e;subst e;refine⟨wF,g,λv b _=>?_⟩;rcases zH.1 b with rfl|b;exact qH _;have:=y v b;omega;rw[vF g]at e;obtain⟨i,h,f⟩:=sM x e;refine⟨zA _ i,h,λv b r=>?_⟩;rcases zH.1 b with rfl|b;omega;exact f v b r
def JG{n:Net}{l t v:Int}(h:isDep n l v)(e:t<=v)(b:v<t+86400):v∈(oS n l t).map (aV n l):=by
 refine vK.2 ⟨bE (dQ n l).1 v,BV ?_ ?_ h.1,nH h⟩;unfold bE;omega;unfold bE;omega
def td(n:Net)(l t:Int):((oS n l t).map (aV n l)).Pairwise (· < ·):=tK (pU _ _ _ _)
def first_some{n:Net}{l t u:Int}(j:atOk n l)(h:bH n l t=some u):t<=u/\u<t+86400/\isDep n l u/\∀v,t<=v->v<u->¬isDep n l v:=by
 obtain⟨y,r⟩:=fx h;unfold bH at h;cases e:((oS n l t).map (aV n l)).find? (λv=>decide (t<=v))with
 |none=>rw[e]at h;cases h
 |some x=>
  rw[e]at h;have h:(if x<t+86400 then some x else none)=some u:=h;split at h;cases h;obtain⟨g,A,f⟩:=sM (td n l t) e;obtain⟨d,hd,rfl⟩:=vK.1 g;refine⟨y,r,rj j (r6 hd).2.2,λv b z i=>?_⟩;have:=f v (JG i b Z) b;omega;cases h
def QZ{n:Net}{l t:Int}(h:bH n l t=none)(v:Int)(b:t<=v)(f:v<t+86400):¬isDep n l v:=by
 intro g;have hm:=JG g b f;unfold bH at h;cases e:((oS n l t).map (aV n l)).find? (λv=>decide (t<=v))with
 |none=>
  rw[qBy]at e;exact e v hm (qU b)
 |some x=>
  rw[e]at h;have h:(if x<t+86400 then some x else none)=none:=h;split at h;cases h;have:=(sM (td n l t) e).2.2 v hm b;omega
def vn{n:Net}{l t u:Int}(h:atOk n l)(f:t<=u)(j:u<t+86400)(b:isDep n l u)(i:∀v,t<=v->v<u->¬isDep n l v):bH n l t=some u:=by
 cases e:bH n l t with
 |none=>exact(QZ e u f j b).elim|some x=>
  obtain⟨g1,g2,g3,g4⟩:=first_some h e;rcases Int.lt_trichotomy x u with g|g|g;exact(i x g1 g g3).elim;rw[g];exact(g4 u f g b).elim
def Pg{n:Net}{l t:Int}(b:atOk n l)(h:∀v,t<=v->v<t+86400->¬isDep n l v):bH n l t=none:=by
 cases e:bH n l t with
 |none=>rfl|some x=>
  obtain⟨g1,g2,g3,g4⟩:=first_some b e;exact(h x g1 g2 g3).elim
def Bt:∀{a b:Li},a.Pairwise (· < ·)->b.Pairwise (· < ·)->(∀x,x∈a↔x∈b)->a=b
 |[],[],_,_,_=>rfl|[],y::b,_,_,h=>by have:=(h y).2 wF;cases this
 |x::a,[],_,_,h=>by have:=(h x).1 wF;cases this
 |x::a,y::b,r,hb,h=>by
  obtain⟨j,v⟩:=yV.1 r;obtain⟨i,u⟩:=yV.1 hb;have e:x=y:=by
   rcases zH.1 ((h x).1 wF)with g|g;exact g;rcases zH.1 ((h y).2 wF)with k|k;exact k.symm;have:=j y k;have:=i x g;omega
  subst e;rw[Bt v u λz=>⟨λf=>?_,λf=>?_⟩];rcases zH.1 ((h z).1 (zA _ f))with g|g;have:=j z f;omega;exact g;rcases zH.1 ((h z).2 (zA _ f))with g|g;have:=i z f;omega;exact g
def JF(n:Net)(l a b:Int):Prop:=bO n l [a,b]=true/\b<=a+86400
def GN{n:Net}{l a b:Int}(h:JF n l a b):da n l a b=((Qm n l a b).map (aV n l)).filter λt=>decide (a<=t)&&decide (t<b):=by
 unfold da VF;rw[h.1,qU h.2,yQ];rfl
def zz(n:Net)(l a b:Int):(da n l a b).Pairwise (· < ·):=by
 unfold da;split;unfold VF;refine List.Pairwise.filter _ (tK ?_);exact(pU _ _ _ _).sublist (List.take_sublist _ _);exact yZ
def Oa{n:Net}{l a b v:Int}(i:atOk n l)(h:JF n l a b):v∈da n l a b↔a<=v/\v<b/\isDep n l v:=by
 rw[GN h,yI,qC,qE,qE];constructor;rintro⟨g,f,e⟩;obtain⟨d,hd,rfl⟩:=vK.1 g;exact⟨f,e,rj i (r6 hd).2.2⟩;rintro⟨g,f,e⟩;refine⟨vK.2 ⟨bE (dQ n l).1 v,BV ?_ ?_ e.1,nH e⟩,g,f⟩;unfold bE;omega;unfold bE;omega
def KH{n:Net}{l b w:Int}(j:atOk n l):∀(k:Nat) (t m:Int),(b-t).toNat<=k->waitGo n l b k t m=some w->
  m<=w/\(∀s,t<=s->s<b->∃u,bH n l s=some u/\u-s<=w)/\(w=m\/∃s u,t<=s/\s<b/\(s=t\/t<=s-1/\isDep n l (s-1))/\bH n l s=some u/\u-s=w)
 |0,t,m,O,h=>by
  rw[waitGo]at h;cases h;exact⟨qH _,λs g f=>Z,.inl rfl⟩
 |k+1,t,m,O,h=>by
  rw[waitGo]at h;by_cases i:t<b;rw[if_pos i]at h;cases e:bH n l t with
  |none=>rw[e]at h;cases h
  |some u=>
   rw[e]at h;have h:waitGo n l b k (u+1) (nq m (u-t))=some w:=h;obtain⟨g1,g2,g3,g4⟩:=first_some j e;obtain⟨V,G,r⟩:=KH j k (u+1) _ Z h;have hm:m<=nq m (u-t)/\u-t<=nq m (u-t)/\(nq m (u-t)=m\/nq m (u-t)=u-t):=by
    unfold nq;split<;>omega
   refine⟨Z,λs g f=>?_,?_⟩;by_cases L:u+1<=s;exact G s L f;exact⟨u,vn j Z Z g3 λv T x=>g4 v Z x,Z⟩;rcases r with r|⟨s,y,g,f,s3,A,z⟩;rcases hm.2.2 with q|q;exact .inl Z;exact .inr ⟨t,u,qH _,i,.inl rfl,e,Z⟩;refine .inr ⟨s,y,Z,f,.inr ?_,A,z⟩;rcases s3 with rfl|s3;exact⟨Z,by rw[show u+1-1=u by omega];exact g3⟩;exact⟨Z,s3.2⟩
  rw[if_neg i]at h;cases h;exact⟨qH _,λs g f=>Z,.inl rfl⟩
def KJ{n:Net}{l b:Int}(i:atOk n l):∀(k:Nat) (t m:Int),waitGo n l b k t m=none->∃s,t<=s/\s<b/\bH n l s=none/\(s=t\/t<=s-1/\isDep n l (s-1))
 |0,t,m,h=>by rw[waitGo]at h;cases h
 |k+1,t,m,h=>by
  rw[waitGo]at h;by_cases g:t<b;rw[if_pos g]at h;cases e:bH n l t with
  |none=>exact⟨t,qH _,g,e,.inl rfl⟩|some u=>
   rw[e]at h;obtain⟨g1,g2,g3,g4⟩:=first_some i e;obtain⟨s,v,r,j,f⟩:=KJ i k (u+1) _ h;refine⟨s,Z,r,j,.inr ?_⟩;rcases f with rfl|f;exact⟨Z,by rw[show u+1-1=u by omega];exact g3⟩;exact⟨Z,f.2⟩
  rw[if_neg g]at h;cases h
open Go.Eng.Mp (aI b9 oN bz upto at2 ou dF gy pw)
def dR:Int:=-1099511627776
def NM(a b:Int):Bool:=decide (0<=a)&&decide (a<b)&&decide (b<=2000000)&&decide (b<=a+86400)
def fh(n:Net)(a b:Int):Bool:=NM a b&&aS n
def aCi(n:Net)(a b:Int):Prop:=fh n a b=true
def sw(n:Net)(o:Int):Off:=n.2.2.2.1.getD o.toNat (⟨#[]⟩,0,0,0,0,0,[])
def rM(n:Net)(a b i:Int):Int:=if oK n i a b=0 then mO n i a b+(al n i).2.2.2.2.1+(sw n (al n i).2.2.1).2.2.2.2.1*(sw n (al n i).2.2.1).2.2.2.2.2.1 else dR
def bM(n:Net)(a b:Int):Li:=(List.range n.2.2.2.2.1.length).map λi:Nat=>rM n a b i
def jj(n:Net)(a b k:Int):Li:=(bM n a b).take k.toNat++List.replicate (n.2.2.2.2.1.length-k.toNat) 0
def JO(n:Net)(a b k:Int):Prop:=fh n a b=true/\0<=k/\k<=n.2.2.2.2.1.length
def fN(n:Net)(c:Li):Prop:=aS n=true/\c.length=n.2.2.2.2.1.length/\∀i:Int,0<=i->i<c.length->c.getD i.toNat 0=dR\/(0<c.getD i.toNat 0/\c.getD i.toNat 0<=1000000)
def QE(_ _:Int):Int:=dR
def aGP(_ _:Int):Prop:=True
def fR(b:Ll)(c:Li):Nat->Int->Int->Int|0,_,_=>dR|k+1,o,d=>if c.getD k 0≠dR/\(b.getD k (⟨#[]⟩,0,0,0,0,0)).2.1=o/\(b.getD k (⟨#[]⟩,0,0,0,0,0)).2.2.1=d then max (fR b c k o d) (-(c.getD k 0))else fR b c k o d
def bq(n:Net)(c:Li)(k:Int):Lj:=aI (fR n.2.2.2.2.1 c k.toNat) n.2.2.2.1.length
def bF(n:Net)(c:Li):Lj:=bq n c n.2.2.2.2.1.length
def UN(n:Net)(c:Li)(k:Int):Prop:=fN n c/\0<=k/\k<=n.2.2.2.2.1.length
def V9(e:Int)(s:Lj)(o d:Int):Int:=if e=0 then(if at2 s o d=dR then -1 else -(at2 s o d))else -1
def Rw(e:Int)(s:Lj)(o d:Int):Prop:=e=0->ou o d s/\(at2 s o d=dR\/(-1152921504606846976<=at2 s o d/\at2 s o d<=1152921504606846976))
def bf(n:Net)(c:Li):Lj:=aI (V9 (gy (bF n c)) (dF (bF n c))) n.2.2.2.1.length
def iK(n:Net)(c:Li)(b:Lj)(o d i:Int):Bool:=decide ((al n i).2.1=o)&&decide (c.getD i.toNat 0≠dR)&&decide (0<=at2 b (al n i).2.2.1 d)&&decide (c.getD i.toNat 0+at2 b (al n i).2.2.1 d=at2 b o d)
def Ar(n:Net)(c:Li)(b:Lj)(o d:Int):Int:=match(List.range n.2.2.2.2.1.length).find? λi:Nat=>iK n c b o d i with|some i=>i|none=>-1
def V8(n:Net)(b:Lj):Prop:=∀o d:Int,0<=o->o<n.2.2.2.1.length->0<=d->d<n.2.2.2.1.length->ou o d b/\-1152921504606846976<=at2 b o d/\at2 b o d<=1152921504606846976
def J3(n:Net)(c:Li)(b:Lj)(o d:Int):Prop:=fN n c/\V8 n b/\0<=o/\o<n.2.2.2.1.length/\0<=d/\d<n.2.2.2.1.length
def Aq(n:Net)(c:Li)(b:Lj)(o d k:Int):Prop:=J3 n c b o d/\0<=k/\k<=n.2.2.2.2.1.length/\(List.range k.toNat).all (λi:Nat=>!iK n c b o d i)=true
def qw(n:Net)(c:Li)(b:Lj)(o d:Int):Int:=if o=d\/at2 b o d<0 then -1 else Ar n c b o d
def aCD(n:Net)(c:Li):Lj:=aI (qw n c (bf n c)) n.2.2.2.1.length
def aG(n:Net)(a b:Int):Li:=if fh n a b then bM n a b else[]
def aM(n:Net)(a b:Int):Lj:=if fh n a b then bf n (bM n a b)else[]
def aT(n:Net)(a b:Int):Lj:=if fh n a b then aCD n (bM n a b)else[]
def KQ0:Kt:=kOr 134 (aj [.val M] (λ(m,_)=>pw m) λ(m,_)=>.tup [.dat M (dF m),.dat I (gy m)]) aJI
def aF1(n:Net)(a b:Int):Ann:=⟨λf s=>match f with
 |3=>match s.sig.T 16 with
  |.buf e _=>some {α:=Int,inv:=λk=>JO n a b k,st:=λk=>dD (put s [(20,.dat I k)]) e (.buf 3 I (jj n a b k) []),μ:=λk=>Dc (Di (Df n.2.2.2.2.1) k)}|_=>none
 |_=>none,λ_ _=>none,λ_ _=>none⟩
def aEb(n:Int)(g:Int->Int->Int):Ann:=⟨λe s=>match e with
 |3=>match s.sig.T 11 with
  |.buf b _=>some {α:=Int,inv:=λk=>upto k n,st:=λk=>dD (put s [(14,.dat I k),(5,.buf b (Dc n))]) b (.buf 37 R (b9 g n k) []),μ:=λk=>Dc (Di n k)}|_=>none
 |7=>match s.sig.T 6,s.sig.T 22 with
  |.dat (.int .i64) i,.buf b _=>some {α:=Int,inv:=λk=>upto k n,st:=λk=>dD (put s [(29,.dat I k)]) b (.buf 3 I (oN g n i k) []),μ:=λk=>Dc (Di n k)}|_,_=>none
 |_=>none,λ_ _=>none,λ_ _=>none⟩
def aEa(n:Int)(g:Int->Int->Int):Ann:=⟨λe s=>match e with
 |3=>match s.sig.T 11 with
  |.buf b _=>some {α:=Int,inv:=λk=>upto k n,st:=λk=>dD (put s [(14,.dat I k),(5,.buf b (Dc n))]) b (.mat 37 3 I (b9 g n k) []),μ:=λk=>Dc (Di n k)}|_=>none
 |7=>match s.sig.T 6,s.sig.T 22 with
  |.dat (.int .i64) i,.buf b _=>some {α:=Int,inv:=λk=>upto k n,st:=λk=>dD (put s [(29,.dat I k)]) b (.buf 3 I (oN g n i k) []),μ:=λk=>Dc (Di n k)}|_,_=>none
 |_=>none,λ_ _=>none,λ_ _=>none⟩
def Sj(args:List AV)(m:Mem):Option jY:=match m,args with|[],[.agg [.dat (.sl (.pair (.int .i64) (.pair (.sl .bool) (.sl (.int .i64))))) j,.dat (.sl .str) g,.dat (.sl .str) f,.dat (.sl (.pair .str (.pair (.int .i64) (.pair (.int .i64) (.pair (.int .i64) (.pair (.int .i64) (.pair (.int .i64) (.sl .str)))))))) b,.dat (.sl (.pair .str (.pair (.int .i64) (.pair (.int .i64) (.pair (.int .i64) (.pair (.int .i64) (.int .i64))))))) h,.dat (.sl (.pair .str (.pair (.int .i64) (.int .i64)))) i],.fn 133 []]=>some ⟨bz (Df b) aGP,.buf 0 (Dk (aI QE (Df b))),[(0,.mat 37 3 I (aI QE (Df b)) [])]⟩|[],[.agg [.dat (.sl (.pair (.int .i64) (.pair (.sl .bool) (.sl (.int .i64))))) j,.dat (.sl .str) g,.dat (.sl .str) f,.dat (.sl (.pair .str (.pair (.int .i64) (.pair (.int .i64) (.pair (.int .i64) (.pair (.int .i64) (.pair (.int .i64) (.sl .str)))))))) b,.dat (.sl (.pair .str (.pair (.int .i64) (.pair (.int .i64) (.pair (.int .i64) (.pair (.int .i64) (.int .i64))))))) h,.dat (.sl (.pair .str (.pair (.int .i64) (.int .i64)))) i],.fn 135 [.ip (.int .i64) e,.ip (.sl (.sl (.int .i64))) s]]=>some ⟨bz (Df b) (Rw e s),.dat M (aI (V9 e s) (Df b)),[]⟩|_,_=>none
abbrev IV:=aj [.row N,.val I,.val I] (λ_=>True) λ(n,a,b,_)=>.dat .bool (fh n a b)
abbrev Ds:=aj [.row N,.val I,.val I] (λ(n,a,b,_)=>aCi n a b) λ(n,a,b,_)=>.dat R (bM n a b)
def KQ1:Kt:=kOr 87 Sj <|
 kOr 84 IV <|
 kOr 85 Ds KQ0
def YP(s:St):List Nat:=s.mem.filterMap λp=>match p.2 with|.mat _ _ _ _ _=>some p.1|_=>none
def aDp(n:Net)(c:Li):Ann:=⟨λb s=>match b with
 |3=>match s.sig.T 11 with
  |.buf e _=>some {α:=Int,inv:=λk=>UN n c k,st:=λk=>dD (put s [(15,.dat I k)]) e (.mat 37 3 I (bq n c k) []),μ:=λk=>Dc (Di (Df n.2.2.2.2.1) k)}|_=>none
 |_=>none,λb s=>match b with
 |8=>some (frz (YP s) s)|9=>some (frz (allNames s) s)|_=>none,λ_ _=>none⟩
def aIT(n:Net)(c:Li)(b:Lj)(o d:Int):Ann:=Z8 3 Int (Aq n c b o d) (λs k=>put s [(17,.dat I k),(11,.dat I (-1))]) λk=>Dc (Di (Df n.2.2.2.2.1) k)
abbrev tX:=aj [.row N,.val R] (λ(n,c,_)=>fN n c) λ(n,c,_)=>.dat M (bf n c)
abbrev Jc:=aj [.row N,.val R,.val M,.val I,.val I] (λ(n,c,b,o,d,_)=>J3 n c b o d) λ(n,c,b,o,d,_)=>.dat I (Ar n c b o d)
def KQ2:Kt:=kOr 86 tX <|
 kOr 89 Jc KQ1
def KQ3:Kt:=kOr 87 (λargs m=>match m,args with
 |[],[.agg [.dat (.sl (.pair (.int .i64) (.pair (.sl .bool) (.sl (.int .i64))))) j,.dat (.sl .str) g,.dat (.sl .str) f,.dat (.sl (.pair .str (.pair (.int .i64) (.pair (.int .i64) (.pair (.int .i64) (.pair (.int .i64) (.pair (.int .i64) (.sl .str)))))))) e,.dat (.sl (.pair .str (.pair (.int .i64) (.pair (.int .i64) (.pair (.int .i64) (.pair (.int .i64) (.int .i64))))))) h,.dat (.sl (.pair .str (.pair (.int .i64) (.int .i64)))) i],.fn 88 [.ip (.sl (.sl (.int .i64))) b,.ip (.pair (.sl (.pair (.int .i64) (.pair (.sl .bool) (.sl (.int .i64))))) (.pair (.sl .str) (.pair (.sl .str) (.pair (.sl (.pair .str (.pair (.int .i64) (.pair (.int .i64) (.pair (.int .i64) (.pair (.int .i64) (.pair (.int .i64) (.sl .str)))))))) (.pair (.sl (.pair .str (.pair (.int .i64) (.pair (.int .i64) (.pair (.int .i64) (.pair (.int .i64) (.int .i64))))))) (.sl (.pair .str (.pair (.int .i64) (.int .i64))))))))) n,.ip (.sl (.int .i64)) c]]=>some ⟨bz (Df e) (J3 n c b),.dat M (aI (qw n c b) (Df e)),[]⟩|_,_=>none) KQ2
def aE8:Ann:=⟨λ_ _=>none,λb s=>match b with
 |5=>some (frz (allNames s) s)|_=>none,λ_ _=>none⟩
def dM(i:LC)(f e:LB)(h:Lo)(b:Ll)(g:Lk)(line:Int):b.getD line.toNat (⟨#[]⟩,0,0,0,0,0)=al (i,f,e,h,b,g) line:=rfl
def Bg{n:Net}{l b:Int}:∀(k:Nat) (t m w:Int),0<=m->m<=86400->waitGo n l b k t m=some w->0<=w/\w<=86400
 |0,t,m,w,g,f,h=>by rw[waitGo]at h;cases h;exact⟨g,f⟩
 |k+1,t,m,w,g,f,h=>by
  rw[waitGo]at h;split at h;cases e:bH n l t with
  |none=>rw[e]at h;cases h
  |some u=>
   rw[e]at h;have:=fx e;exact Bg k (u+1) (nq m (u-t)) w (by unfold nq;split<;>omega) (by unfold nq;split<;>omega) h
  cases h;exact⟨g,f⟩
def aDy:ai yv G0 KQ0:=af (ae λ(m,_)=>Mp.aES m) aI3
def sj{a b:Int}:NM a b=true↔0<=a/\a<b/\b<=2000000/\b<=a+86400:=by
 unfold NM;simp only[qC,qE,qCi]
def HI{n:Net}:aS n=decide (((fa n).length:Int)=0):=by
 unfold aS;cases fa n with
 |nil=>rfl|cons a l=>
  symm;show decide _=false;rw[wE,wO];omega
def kp{n:Net}{a b:Int}:fh n a b=true↔(0<=a/\a<b/\b<=2000000/\b<=a+86400)/\aS n=true:=by
 unfold fh;rw[qC,sj]
def aEk:eO 84 IV:=ae λ(((u,g,f,r,i,j):Net),(a:Int),(b:Int),_)=>by
 refine zE (A:=az) (p:=let y:=Dn a 0;let v:=Dj y;let z:=Dz y true (Ef b a);let x:=Dj z;let A:=Dz z true (Eh b 2000000);let h:=Dj A;let G:=Dz A true (Eh (b-a) 86400);let e:=(u,g,f,r,i,j);let L:=fh e a b;(True->L7 v ((Dh true v->v)/\L4 x ((Dh true x->x)/\L7 h ((h->inR .i64 (b-a))/\L4 h ((Dh true h->h)/\(G->false=L/\True)/\(G=false->True/\Eb (Df (fa e)) 0=L/\True))))))) aDy λ_=>?_;refine Z9 ?_;refine⟨λh=>aE Z,λh=>?_,λh=>?_⟩;unfold fh;have:NM a b=false:=by
  rw[<- xJ,sj];omega
 rw[this];rfl;unfold fh;rw[sj.2 Z,zV,HI];rfl
def dd(r:LC)(g f:LB)(e:Lo)(b:Ll)(j:Lk){i:Int}(h:aS (r,g,f,e,b,j)=true)(G:0<=i)(A:i<b.length):0<=(al (r,g,f,e,b,j) i).2.1/\(al (r,g,f,e,b,j) i).2.1<e.length/\0<=(al (r,g,f,e,b,j) i).2.2.1/\(al (r,g,f,e,b,j) i).2.2.1<e.length/\(al (r,g,f,e,b,j) i).2.1≠(al (r,g,f,e,b,j) i).2.2.1/\1<=(al (r,g,f,e,b,j) i).2.2.2.2.1/\(al (r,g,f,e,b,j) i).2.2.2.2.1<=5000:=by
 have u:=aK r g f e b j h;have v:al (r,g,f,e,b,j) i∈b:=by
  unfold al;show b.getD i.toNat _∈b;rw[qA,qB Z,qK];exact wL _
 obtain⟨g1,g2,g3,g4,z,L,y,x⟩:=kB ((nh r g f e b j u).2.2.2 _ v);exact⟨g1,g2,g3,g4,z,y,x⟩
def qg(r:LC)(g f:LB)(e:Lo)(i:Ll)(j:Lk){o:Int}(h:aS (r,g,f,e,i,j)=true)(L:0<=o)(G:o<e.length):0<(sw (r,g,f,e,i,j) o).2.2.2.2.1*(sw (r,g,f,e,i,j) o).2.2.2.2.2.1/\(sw (r,g,f,e,i,j) o).2.2.2.2.1*(sw (r,g,f,e,i,j) o).2.2.2.2.2.1<=960:=by
 have u:=aK r g f e i j h;have y:sw (r,g,f,e,i,j) o∈e:=by
  unfold sw;show e.getD o.toNat _∈e;rw[qA,qB Z,qK];exact wL _
 have v:=(eJ r g f e i j u).2.2.2 _ y;unfold dt cY cP at v;simp only[qC,qE]at v;obtain⟨⟨_,A,p1⟩,z,x⟩:=v;generalize (sw (r,g,f,e,i,j) o).2.2.2.2.1=p at *;generalize (sw (r,g,f,e,i,j) o).2.2.2.2.2.1=q at *;refine⟨Int.mul_pos Z Z,?_⟩;have:=kP (a:=p) (b:=q) (c:=4) (d:=240) p1 x Z Z;omega
def KG(v:LC)(j g:LB)(u:Lo)(f:Ll)(r:Lk){i a b:Int}(h:fh (v,j,g,u,f,r) a b=true)(A:0<=i)(z:i<f.length):(oK (v,j,g,u,f,r) i a b=0/\uM (v,j,g,u,f,r) i a b=some (mO (v,j,g,u,f,r) i a b)/\0<=mO (v,j,g,u,f,r) i a b/\mO (v,j,g,u,f,r) i a b<=86400)\/(oK (v,j,g,u,f,r) i a b=20/\uM (v,j,g,u,f,r) i a b=none):=by
 obtain⟨⟨X,O,V,L⟩,G⟩:=kp.1 h;have y:bO (v,j,g,u,f,r) i [a,b]=true:=by
  unfold bO cY;rw[G,kM,qC];exact⟨qU ⟨A,z⟩,by simp[bS];omega⟩
 have x:ki (v,j,g,u,f,r) i a b=true:=by
  unfold ki;rw[y,qU O,qU L];rfl
 have T:=FY v j g u f r (gj v j g u f r y (wF)).1;unfold oK mO;rw[if_pos x,if_pos x];cases e:uM (v,j,g,u,f,r) i a b with
 |none=>exact .inr ⟨rfl,rfl⟩|some w=>
  have:=Bg _ _ _ _ Z Z e;exact .inl ⟨rfl,rfl,this.1,this.2⟩
def Ri(v:LC)(j g:LB)(u:Lo)(f:Ll)(r:Lk){i a b:Int}(h:fh (v,j,g,u,f,r) a b=true)(y:0<=i)(x:i<f.length):rM (v,j,g,u,f,r) a b i=dR\/(0<rM (v,j,g,u,f,r) a b i/\rM (v,j,g,u,f,r) a b i<=100000):=by
 obtain⟨_,z⟩:=kp.1 h;obtain⟨l0,l1,G,A,l4,X,V⟩:=dd v j g u f r z y x;obtain⟨T,O⟩:=qg v j g u f r z G A;unfold rM;rcases KG v j g u f r h y x with⟨e,_,w0,L⟩|⟨e,_⟩;rw[if_pos e];right;omega;rw[if_neg Z];exact .inl rfl
def cE(n:Net)(a b:Int):(bM n a b).length=n.2.2.2.2.1.length:=by simp[bM]
def JM(r:LC)(g f:LB)(j:Lo)(e:Ll)(h:Lk)(a b:Int){i:Int}(u:0<=i)(v:i<e.length):(bM (r,g,f,j,e,h) a b).getD i.toNat 0=rM (r,g,f,j,e,h) a b i:=by
 unfold bM;rw[qA,qX,vP (by show i.toNat<e.length;omega)];simp[qY u]
def iW(x:LC)(j f:LB)(v:Lo)(e:Ll)(r:Lk){a b:Int}(h:fh (x,j,f,v,e,r) a b=true):fN (x,j,f,v,e,r) (bM (x,j,f,v,e,r) a b):=by
 refine⟨(kp.1 h).2,cE _ _ _,λi y u=>?_⟩;have u:i<e.length:=by rw[cE]at u;exact u
 rw[JM x j f v e r a b y u];rcases Ri x j f v e r h y u with g|g;exact .inl g;right;omega
def Ab(r:LC)(g f:LB)(j:Lo)(e:Ll)(i:Lk){a b k:Int}(h:0<=k/\k<=e.length):(jj (r,g,f,j,e,i) a b k).length=e.length:=by
 unfold jj;rw[qF,qP,wS,cE];show min k.toNat e.length+(e.length-k.toNat)=e.length;omega
def uB(r:LC)(h g:LB)(j:Lo)(f:Ll)(i:Lk){a b k v:Int}(u:0<=k)(y:k<f.length)(x:v=rM (r,h,g,j,f,i) a b k):(jj (r,h,g,j,f,i) a b k).set k.toNat v=jj (r,h,g,j,f,i) a b (k+1):=by
 have e:(k+1).toNat=k.toNat+1:=Z;have:=Mp.Gw (bM (r,h,g,j,f,i) a b) 0 v k.toNat (by
  unfold bM;rw[qX,vP (by show k.toNat<f.length;omega),x];simp[qY u])
 rw[cE]at this;unfold jj;rw[e];exact this
def aBL:eO 85 Ds:=ae λ(((r,i,h,g,f,j):Net),(a:Int),(b:Int),_)=>by
 refine zE (A:=(lvA [(3,[1,2,3,6,7,8,9,10,11,12,18,19,20])] (aF1 (r,i,h,g,f,j) a b))) (p:=let e:=(r,i,h,g,f,j);let u:=Df f;let v:=Dc u;(aCi e a b->0<=u/\(Ea 8*u)<=281474976710656/\u<=9223372036854775807/\(∃x,JO e a b x/\T4 a b e Z0 v f u (0=x/\Et u (0:Int)=jj e a b x/\True))/\∀(x:Int),let O:=Dw (oK e x a b) 0;let A:=jj e a b x;let L:=Dk A;let G:=x+1;let z:=(Du f (Dc x) (ByteArray.mk #[],(0:Int),(0:Int),(0:Int),(0:Int),(0:Int))).2.2;let T:=mO e x a b+z.2.2.1;let V:=(Du g (Dc z.1) (ByteArray.mk #[],(0:Int),(0:Int),(0:Int),(0:Int),(0:Int),Dt ByteArray)).2.2.2.2;let X:=V.1*V.2.1;let c15:=T+X;JO e a b x->(Dn x u->0<=x/\x<u/\L5 1 0 (True/\(O->L=v/\0<=x/\x<Ea L/\L=v/\inR .i64 G/\∃y,JO e a b y/\(T4 a b e Z0 v f u (G=y/\Em A (Dc x) (-1099511627776)=jj e a b y/\True))/\Dc (u-y)<Dc (u-x))/\(O=false->Q2 1 1 0 (0<=z.1/\z.1<Df g/\T2 1 0 1 1 0 (inR .i64 T/\T6 1 1 0 1 1 0 (inR .i64 X/\inR .i64 c15/\L=v/\0<=x/\x<Ea L/\L=v/\inR .i64 G/\∃y,JO e a b y/\(T4 a b e Z0 v f u (G=y/\Em A (Dc x) c15=jj e a b y/\True))/\Dc (u-y)<Dc (u-x)))))))/\(Dn x u=false->L=v/\A=bM e a b/\True))) aDy λG=>?_;have G:fh (r,i,h,g,f,j) a b=true:=G;obtain⟨_,V⟩:=kp.1 G;have l40:=(fV r i h g f j (aK r i h g f j V)).2;refine Z9 ?_;simp only[qc,dM r i h g f j];have X:∀x:Int,g.getD (al (r,i,h,g,f,j) x).2.2.1.toNat (⟨#[]⟩,0,0,0,0,0,[])=sw (r,i,h,g,f,j) (al (r,i,h,g,f,j) x).2.2.1:=λ_=>rfl;refine⟨Z,Z,Z,⟨0,⟨G,Z,Z⟩,rfl,by simp[jj]⟩,λx hx=>⟨λu=>?_,λhge=>?_⟩⟩
 obtain⟨_,v,O⟩:=hx;have T:=Ab r i h g f j (a:=a) (b:=b) ⟨v,O⟩;obtain⟨l0,l1,l2,l3,l4,l5,l6⟩:=dd r i h g f j V v u;obtain⟨o0,o1⟩:=qg r i h g f j V l2 l3;refine⟨v,u,λhw=>?_,λhw=>?_⟩;refine⟨T,v,Z,T,aE Z,x+1,⟨G,Z,(by show x+1<=(f.length:Int);omega)⟩,⟨rfl,uB r i h g f j v u ?_⟩,Z⟩;unfold rM;rw[if_neg hw];rfl;rcases KG r i h g f j G v u with⟨e,_,w0,w1⟩|⟨e,_⟩;refine⟨l2,l3,aE Z,aE (by rw[X];omega),aE (by rw[X];omega),T,v,Z,T,aE Z,x+1,⟨G,Z,(by show x+1<=(f.length:Int);omega)⟩,⟨rfl,uB r i h g f j v u ?_⟩,Z⟩;unfold rM;rw[if_pos e];rfl;exfalso;omega;obtain⟨_,v,O⟩:=hx;have O:x<=f.length:=O;have e:x.toNat=f.length:=Z;refine⟨Ab r i h g f j ⟨v,O⟩,?_⟩;unfold jj;rw[e,qO (by rw[cE];exact qM _)];show _++List.replicate (f.length-f.length) 0=_;simp
def SC(e:Int->Int->Prop)(g:Int->Int->Int)(cs:LC)(ns os:LB)(f:Lo)(ls:Ll)(ks:Lk):ah yv G0 87 [net cs ns os f ls ks,.clo2 I I I e g] [] ⟨bz (Df f) e,.dat M (aI g (Df f)),[]⟩:=by
 refine zE (A:=(lvA [(3,[1,2,4,5,6,7,13,14,28,29]),(7,[1,2,4,5,6,7,13,14,28,29])] (aEb (Df f) g))) (p:=let r:=Ty.int .i64;let h:=Df f;let O:=Et h (Dt Int);let i:=Dc h;let z:=(cs,ns,os,f,ls,ks);let u:=Int.ofNat i;let A:=Et h (0:Int);(bz h e->0<=h/\(Ea 24*h)<=281474976710656/\h<=9223372036854775807/\Dk O=i/\(∃x,upto x h/\AV.clo2 r r r e g=AV.clo2 (Ty.int IntKind.i64) r r e g/\Q3 z Z0 i u (0=x/\O=b9 g h x/\True))/\∀(x:Int),let v:=Dk (b9 g h x);let c8:=x+1;upto x h->(Dn x u->0<=h/\(Ea 8*h)<=281474976710656/\h<=9223372036854775807/\v=i/\0<=x/\x<Ea v/\v=i/\Dk A=i/\v=i/\0<=x/\x<Ea v/\v=i/\Dc x=Dc x/\Dk A=i/\(∃b,upto b h/\T5 (AV.clo2 r r r e g) z Z0 i x u x u (0=b/\Q2 (b9 g h x) (Dc x) i (A=oN g h x b/\True)))/\∀(b:Int),let L:=oN g h x b;let j:=Dk L;let G:=b+1;upto b h->(Dn b u->v=i/\0<=x/\x<Ea v/\v=i/\Dc x=Dc x/\e x b/\j=i/\0<=b/\b<Ea j/\j=i/\inR .i64 G/\∃y,upto y h/\(T5 (AV.clo2 r r r e g) z Z0 i x u x u (G=y/\Q2 (b9 g h x) (Dc x) i (Em L (Dc b) (g x b)=oN g h x y/\True)))/\Dc (h-y)<Dc (h-b))/\(Dn b u=false->inR .i64 c8/\∃y,upto y h/\(T2 (AV.clo2 r r r e g) z Z0 i u (c8=y/\j=i/\Em (b9 g h x) (Dc x) L=b9 g h y/\True))/\Dc (h-y)<Dc (h-x)))/\(Dn x u=false->v=i/\b9 g h x=aI g h/\True))) aDy λhp=>?_
 obtain⟨p1,p2,X⟩:=hp;simp only[qc,Dh,Eu,Dj,qd,Dt,Eb,Dw,Dn,Eh,Ef,Ed,Ez,Df,Eo,Dl,Dp,Es,Dy,Dx,Di,Dq,Ei,Fh,Dc,Ea,Dk,Ec,Ej,Du,Ey,Ew,Em,Ee,Fg,Fj,Fe,Et,En,Ep,Fb]at p1 p2 X ⊢;have T:(f.length:Int).toNat=f.length:=qR _;refine⟨Z,Z,Z,by simp,⟨0,⟨Z,.inr rfl⟩,by simp,by rw[Mp.nW];simp⟩,λx O=>⟨λv=>?_,λu=>?_⟩⟩;have z:=O.1;have i:=Mp.m3 g f.length x O;rw[T]at i;refine⟨Z,Z,Z,i,z,Z,i,by simp,i,z,Z,i,by simp,⟨0,⟨Z,.inr rfl⟩,by simp,by rw[Mp.wv];simp⟩,λy L=>⟨λr=>?_,λu=>?_⟩⟩;have V:=L.1;have h:=Mp.nX g f.length x y L;rw[T]at h;refine⟨i,z,Z,i,X x y z v V r,h,V,Z,h,aE Z,y+1,⟨Z,.inl Z⟩,⟨rfl,?_⟩,Z⟩;exact Mp.wx g f.length x y V r;have h:=Mp.nX g f.length x y L;rw[T]at h;refine⟨aE Z,x+1,⟨Z,.inl Z⟩,⟨rfl,h,?_⟩,Z⟩;exact Mp.si g f.length x y z v L u;have i:=Mp.m3 g f.length x O;rw[T]at i;exact⟨i,Mp.wu g f.length x O u⟩
def Xq(f:Int->Int->Prop)(g:Int->Int->Int)(cs:LC)(ns os:LB)(h:Lo)(ls:Ll)(ks:Lk):ah yv G0 87 [net cs ns os h ls ks,.clo2 I I I f g] [] ⟨bz (Df h) f,.buf 0 (Dk (aI g (Df h))),[(0,.mat 37 3 I (aI g (Df h)) [])]⟩:=by
 refine zE (A:=(lvA [(3,[1,2,4,5,6,7,13,14,28,29]),(7,[1,2,4,5,6,7,13,14,28,29])] (aEa (Df h) g))) (p:=let r:=Ty.int .i64;let e:=Df h;let G:=Et e (Dt Int);let i:=Dc e;let z:=(cs,ns,os,h,ls,ks);let v:=Int.ofNat i;let A:=Et e (0:Int);let O:=aI g e;(bz e f->0<=e/\(Ea 24*e)<=281474976710656/\e<=9223372036854775807/\Dk G=i/\(∃x,upto x e/\AV.clo2 r r r f g=AV.clo2 (Ty.int IntKind.i64) r r f g/\Q3 z Z0 i v (0=x/\G=b9 g e x/\Fb (b9 g e x)/\True))/\∀(x:Int),let j:=Dk (b9 g e x);let T:=x+1;upto x e->(Dn x v->0<=e/\(Ea 8*e)<=281474976710656/\e<=9223372036854775807/\j=i/\0<=x/\x<Ea j/\j=i/\Dk A=i/\j=i/\0<=x/\x<Ea j/\j=i/\Dc x=Dc x/\Dk A=i/\(∃b,upto b e/\T5 (AV.clo2 r r r f g) z Z0 i x v x v (0=b/\Q2 (b9 g e x) (Dc x) i (A=oN g e x b/\True)))/\∀(b:Int),let u:=oN g e x b;let L:=Dk u;let V:=b+1;upto b e->(Dn b v->j=i/\0<=x/\x<Ea j/\j=i/\Dc x=Dc x/\f x b/\L=i/\0<=b/\b<Ea L/\L=i/\inR .i64 V/\∃y,upto y e/\(T5 (AV.clo2 r r r f g) z Z0 i x v x v (V=y/\Q2 (b9 g e x) (Dc x) i (Em u (Dc b) (g x b)=oN g e x y/\True)))/\Dc (e-y)<Dc (e-b))/\(Dn b v=false->inR .i64 T/\∃y,upto y e/\(T2 (AV.clo2 r r r f g) z Z0 i v (T=y/\Dk u=i/\Em (b9 g e x) (Dc x) u=b9 g e y/\True))/\Dc (e-y)<Dc (e-x)))/\(Dn x v=false->i=Dk O/\b9 g e x=O/\True))) aDy λhp=>?_
 obtain⟨p1,p2,p3⟩:=hp;simp only[qc,Dh,Eu,Dj,qd,Dt,Eb,Dw,Dn,Eh,Ef,Ed,Ez,Df,Eo,Dl,Dp,Es,Dy,Dx,Di,Dq,Ei,Fh,Dc,Ea,Dk,Ec,Ej,Du,Ey,Ew,Em,Ee,Fg,Fj,Fe,Et,En,Ep,Fb]at p1 p2 p3 ⊢;have X:(h.length:Int).toNat=h.length:=qR _;refine⟨Z,Z,Z,by simp,⟨0,⟨Z,.inr rfl⟩,by simp,by rw[Mp.nW];simp,?_⟩,λx hx=>⟨λO=>?_,λG=>?_⟩⟩;rw[Mp.nW];intro r hr;exact gU hr;have T:=hx.1;have z:=Mp.m3 g h.length x hx;rw[X]at z;refine⟨Z,Z,Z,z,T,Z,z,by simp,z,T,Z,z,by simp,⟨0,⟨Z,.inr rfl⟩,by simp,by rw[Mp.wv];simp⟩,λy V=>⟨λv=>?_,λG=>?_⟩⟩;have h2:=V.1;have i:=Mp.nX g h.length x y V;rw[X]at i;refine⟨z,T,Z,z,p3 x y T O h2 v,i,h2,Z,i,aE Z,y+1,⟨Z,.inl Z⟩,⟨rfl,?_⟩,Z⟩;exact Mp.wx g h.length x y h2 v;have i:=Mp.nX g h.length x y V;rw[X]at i;refine⟨aE Z,x+1,⟨Z,.inl Z⟩,⟨rfl,i,?_⟩,Z⟩;exact Mp.si g h.length x y T O V G;have e:=Mp.wu g h.length x hx G;refine⟨?_,e⟩;rw[Mp.fH,X]
def Tf(o d:Int):ah yv G0 133 [.dat I o,.dat I d] [] ⟨aGP o d,.dat I (QE o d),[]⟩:=
 zE (A:=az) (p:=(aGP o d->(-1099511627776:Int)=QE o d/\True)) aDy λ_=>⟨rfl,trivial⟩
def Td(e:Int)(s:Lj)(o d:Int):ah yv G0 135 [.dat I o,.dat I d,.ip I e,.ip M s] [] ⟨Rw e s o d,.dat I (V9 e s o d),[]⟩:=by
 refine zE (A:=az) (p:=let g:=Dw e 0;let b:=Dj g;let f:=Du s (Dc o) [];let h:=Du f (Dc d) 0;let i:=Dz g true (Eb h (-1099511627776));let j:=V9 e s o d;let r:=Fh h;(Rw e s o d->L7 b ((b->0<=o)/\(b->o<Df s)/\Q4 b ((b->0<=d)/\(b->d<Df f)/\L7 b ((Dh true b->b)/\(i->(-1:Int)=j/\True)/\(i=false->0<=o/\o<Df s/\0<=d/\d<Df f/\inR IntKind.i64 r/\r=j/\True)))))) aDy λb=>?_;have g:(s.getD o.toNat []).getD d.toNat 0=at2 s o d:=rfl;refine Z9 ?_;simp only[qc,g];refine⟨λh=>(b h).1.1,λh=>(b h).1.2.1,λh=>(b h).1.2.2.1,λh=>(b h).1.2.2.2,λh=>?_,λh=>?_⟩;unfold V9;rcases h with h|h;rw[if_neg h];split;exact(if_pos h).symm;rfl;obtain⟨⟨u,r,j,i⟩,f⟩:=b h.1;refine⟨u,r,j,i,?_,?_⟩;rcases f with f|f;exact(h.2 f).elim;unfold inR;simp only;omega;unfold V9;rw[if_pos h.1];exact(if_neg h.2).symm
def iM{P:Program}{C:Ctx}{a x e:AV}{b:Lv}(h:zA1 P C [a,x] b)(f:∀v,x.rel P C v->e.rel P C v):zA1 P C [a,e] b:=by
 obtain⟨u,b,rfl,j,r,b,rfl,i,g⟩:=h;exact⟨_,_,rfl,j,_,_,rfl,f _ i,g⟩
def Si:∀args m c,Sj args m=some c->ah yv G0 87 args m c:=by
 intro args m c b;unfold Sj at b;split at b;rename_i A g f z h i;cases b;exact(Xq _ _ A g f z h i).args λC G u r=>iM r λv j=>lV (by kernel_rfl) rfl (λx y=>Tf x y) u j;rename_i A g f z h i e s;cases b;exact(SC _ _ A g f z h i).args λC G u r=>iM r λv j=>lV (by kernel_rfl) rfl (λx y=>Td e s x y) u j;cases b
def dI{g b:Int->Int->Int}{m:Nat}(h:∀i j:Int,0<=i->i<m->0<=j->j<m->g i j=b i j):aI g m=aI b m:=by
 unfold aI;simp only[qR];refine zK λi f=>zK λj e=>?_;have:=qW.1 f;have:=qW.1 e;exact h _ _ Z Z Z Z
def sY{g:Int->Int->Int}{m:Nat}{a b v:Int}(y:0<=a)(x:a<m)(O:0<=b)(L:b<m):
  (aI g m).set a.toNat (((aI g m).getD a.toNat []).set b.toNat v)=aI (λo d=>if o=a/\d=b then v else g o d) m:=by
 rw[Mp.sZ g m a y x];unfold aI;simp only[qR];refine qBs (by simp) λi G u=>?_;rw[vG,vC]at u;rw[List.getElem_set];by_cases e:a.toNat=i;rw[if_pos e];rw[qBq,qBb];refine qBs (by simp) λj A r=>?_;rw[vG,vC]at r;rw[List.getElem_set,qBq,qBb,qBq,qBb];have h:(i:Int)=a:=Z;by_cases f:b.toNat=j;rw[if_pos f,if_pos ⟨h,Z⟩];rw[if_neg f,if_neg (λq=>f Z),h];rw[if_neg e];rw[qBq,qBq,qBb];refine zK λj z=>?_;rw[if_neg (λq=>e Z)]
def W5{m:Lj}(g:Mp.Sq m.length m)(y:m.length<=40)(h:∀i j:Int,0<=i->i<m.length->0<=j->j<m.length->Mp.uV (at2 m i j)=true):Mp.aA m=true:=by
 unfold Mp.aA;rw[qC,yC,yC,wE,qAi];refine⟨Z,λr v=>?_⟩;obtain⟨i,x,rfl⟩:=List.getElem_of_mem v;have e:m[i]=m.getD (i:Int).toNat []:=by rw[qR,qA,qB x,qK]
 have b:=g.row i Z Z;rw[e];unfold Mp.oZ;rw[xJ,qBt,wE,Mp.s8];refine⟨Z,λk u f=>?_⟩;rw[b]at f;exact h i k Z Z u f
def jO(b:Ll)(c:Li)(k:Nat)(o d:Int):fR b c (k+1) o d=if c.getD k 0≠dR/\(b.getD k (⟨#[]⟩,0,0,0,0,0)).2.1=o/\(b.getD k (⟨#[]⟩,0,0,0,0,0)).2.2.1=d then max (fR b c k o d) (-(c.getD k 0))else fR b c k o d:=rfl
def ky{n:Net}{c:Li}(h:fN n c)(f:Ll)(o d:Int):∀k:Nat,k<=c.length->fR f c k o d=dR\/(-1000000<=fR f c k o d/\fR f c k o d<=-1)
 |0,_=>.inl rfl|k+1,i=>by
  have b:=ky h f o d k Z;have e:=h.2.2 k Z Z;rw[qR]at e;rw[jO];split;rename_i g;rcases e with e|e;exact(g.1 e).elim;right;rcases b with b|b;rw[b];unfold dR;omega;omega;exact b
def oh(i:LC)(f e:LB)(b:Lo)(g:Ll)(h:Lk)(c:Li)(k:Int):Mp.Sq b.length (bq (i,f,e,b,g,h) c k):=Mp.iG _ _
def jB(v:LC)(i f:LB)(b:Lo)(e:Ll)(j:Lk)(c:Li)(k:Int){o d:Int}(h:0<=o)(g:o<b.length)(u:0<=d)(r:d<b.length):at2 (bq (v,i,f,b,e,j) c k) o d=fR e c k.toNat o d:=Mp.iH _ _ o d h g u r
def rk(v:LC)(f e:LB)(u:Lo)(b:Ll)(r:Lk){c:Li}{k:Int}(h:fN (v,f,e,u,b,r) c)(V:0<=k)(T:k<=b.length):Mp.aA (bq (v,f,e,u,b,r) c k)=true:=by
 have x:=oh v f e u b r c k;have A:=(eJ v f e u b r (aK v f e u b r h.1)).1;have O:c.length=b.length:=h.2.1;refine W5 (by rw[x.len];exact x) (by rw[x.len];omega) λi j L z G y=>?_;rw[x.len]at z y;rw[jB v f e u b r c k L z G y];unfold Mp.uV Mp.dX;rcases ky h b i j k.toNat Z with g|g;rw[g];rfl;simp only[yH,qC,qE];right;omega
def aEJ{m:Lj}(h:Mp.aA m=true)(b:gy m=0):dF m=Mp.cm m m.length:=by
 unfold gy dF Mp.HA at *;rw[h]at b ⊢;simp only[qAy]at b ⊢;cases hb:Mp.mW m with
 |true=>rw[hb]at b;simp only[qAy]at b;omega|false=>rfl
def UW(j:LC)(f e:LB)(b:Lo)(g:Ll)(i:Lk){c:Li}(h:fN (j,f,e,b,g,i) c){o d:Int}(v:0<=o)(u:o<b.length)(z:0<=d)(y:d<b.length):Rw (gy (bF (j,f,e,b,g,i) c)) (dF (bF (j,f,e,b,g,i) c)) o d:=by
 intro L;have x:Mp.aA (bF (j,f,e,b,g,i) c)=true:=rk j f e b g i h Z (qH _);have r:Mp.Sq b.length (bF (j,f,e,b,g,i) c):=oh j f e b g i c _;have G:=(eJ j f e b g i (aK j f e b g i h.1)).1;rw[aEJ x L];have A:=Mp.km (bF (j,f,e,b,g,i) c) (bF (j,f,e,b,g,i) c).length;have T:=Mp.nS x (bF (j,f,e,b,g,i) c).length (qM _) o d v (by rw[r.len];exact u) z (by rw[r.len];exact y);have O:=Mp.aAq (k:=(bF (j,f,e,b,g,i) c).length) (by rw[r.len];omega);refine⟨A.ou v (by rw[r.len];exact u) z (by rw[r.len];exact y),.inr ?_⟩;omega
def QQ(v:LC)(r f:LB)(e:Lo)(b:Ll)(u:Lk){c:Li}{k:Int}(h:fN (v,r,f,e,b,u) c)(O:0<=k)(L:k<b.length)(T:c.getD k.toNat 0≠dR):
  (bq (v,r,f,e,b,u) c k).set (al (v,r,f,e,b,u) k).2.1.toNat (((bq (v,r,f,e,b,u) c k).getD (al (v,r,f,e,b,u) k).2.1.toNat []).set (al (v,r,f,e,b,u) k).2.2.1.toNat (max (((bq (v,r,f,e,b,u) c k).getD (al (v,r,f,e,b,u) k).2.1.toNat []).getD (al (v,r,f,e,b,u) k).2.2.1.toNat 0) (-(c.getD k.toNat 0))))=bq (v,r,f,e,b,u) c (k+1):=by
 obtain⟨G,A,z,y,_⟩:=dd v r f e b u h.1 O L;have X:(k+1).toNat=k.toNat+1:=Z;have V:=jB v r f e b u c k G A z y;have x:((bq (v,r,f,e,b,u) c k).getD (al (v,r,f,e,b,u) k).2.1.toNat []).getD (al (v,r,f,e,b,u) k).2.2.1.toNat 0=fR b c k.toNat (al (v,r,f,e,b,u) k).2.1 (al (v,r,f,e,b,u) k).2.2.1:=V;rw[x];unfold bq;rw[X];show(aI _ (e.length:Int)).set _ (((aI _ (e.length:Int)).getD _ _).set _ _)=aI _ (e.length:Int);rw[sY G A z y];refine dI λi j i0 i1 j0 j1=>?_;show _=fR b c (k.toNat+1) i j;rw[jO];by_cases g:i=(al (v,r,f,e,b,u) k).2.1/\j=(al (v,r,f,e,b,u) k).2.2.1;rw[if_pos g,if_pos ⟨T,g.1.symm,g.2.symm⟩,g.1,g.2];rw[if_neg g,if_neg (λq=>g ⟨q.2.1.symm,q.2.2.symm⟩)]
def QP(r:LC)(f e:LB)(h:Lo)(b:Ll)(g:Lk){c:Li}{k:Int}(x:0<=k)(u:c.getD k.toNat 0=dR):bq (r,f,e,h,b,g) c k=bq (r,f,e,h,b,g) c (k+1):=by
 have v:(k+1).toNat=k.toNat+1:=Z;unfold bq;rw[v];refine dI λi j G A z y=>?_;show _=fR b c (k.toNat+1) i j;rw[jO,if_neg (λq=>q.1 u)]
def aI8:ai yv G0 KQ1:=af Si<|af aEk<|af aBL aDy
def SK:eO 86 tX:=ae λ(((v,r,h,f,b,u):Net),(c:Li),_)=>by
 refine zE (A:=(lvA [(3,[1,2,4,5,6,7,8,9,13,14,15])] (aDp (v,r,h,f,b,u) c))) (p:=let e:=(v,r,h,f,b,u);let O:=Df f;let X:=aI QE O;let i:=Dk X;let g:=Df b;(fN e c->bz O aGP/\(∃x,UN e c x/\T6 c e Z0 i b g (0=x/\X=bq e c x/\True))/\∀(x:Int),let c7:=Du c (Dc x) 0;let c8:=Dw c7 (-1099511627776);let j:=Dk (bq e c x);let z:=(Du b (Dc x) (ByteArray.mk #[],(0:Int),(0:Int),(0:Int),(0:Int),(0:Int))).2;let c13:=Dc z.1;let V:=Du (bq e c x) c13 [];let A:=Dk V;let c16:=Fh c7;let T:=x+1;let c18:=Dc z.2.1;let L:=dF (bq e c x);let G:=gy (bq e c x);UN e c x->(Dn x g->0<=x/\x<g/\L5 1 0 (0<=x/\x<Df c/\(c8->Q2 1 1 0 (j=i/\0<=z.1/\z.1<Ea j/\j=i/\T6 1 1 0 1 1 0 (j=i/\0<=z.1/\z.1<Ea j/\j=i/\Q2 1 1 0 (j=i/\0<=z.2.1/\z.2.1<Ea A/\j=i/\A=A/\0<=x/\x<Df c/\inR .i64 c16/\j=i/\0<=z.2.1/\z.2.1<Ea A/\j=i/\A=A/\inR .i64 T/\∃y,UN e c y/\(T6 c e Z0 i b g (T=y/\Em (bq e c x) c13 (Em V c18 (Ew (Du V c18 0) c16))=bq e c y/\True))/\Dc (g-y)<Dc (g-x)))))/\(c8=false->inR IntKind.i64 T/\∃y,UN e c y/\(T6 c e Z0 i b g (T=y/\bq e c x=bq e c y/\True))/\Dc (g-y)<Dc (g-x))))/\(Dn x g=false->Q2 c e Z0 (Dk (bq e c x)=i/\T2 (bq e c x) b g x (Dn x g) (pw (bq e c x)/\L3 1 0 1 0 c e Z0 (bq e c x) 1 (L3 0 L 1 0 G b g x (Dn x g) (T4 L G (bq e c x) L G L G (bz O (Rw G L)/\aI (V9 G L) O=bf e c/\True)))))))) aI8 λO=>?_
 have hno:=aK v r h f b u O.1;have l40:=(fV v r h f b u hno).2;have l12:=(eJ v r h f b u hno).1;have hcl:c.length=b.length:=O.2.1;refine Z9 ?_;simp only[qc,dM v r h f b u];have en:(f.length:Int).toNat=f.length:=qR _;have bl:∀g:Int->Int->Int,(aI g f.length).length=f.length:=λg=>by rw[Mp.fH,en]
 have ll:∀x,(bq (v,r,h,f,b,u) c x).length=f.length:=λx=>bl _;refine⟨⟨Z,Z,λ_ _ _ _ _ _=>trivial⟩,⟨0,⟨O,Z,Z⟩,rfl,rfl⟩,λx hx=>⟨λhlt=>?_,λhge=>?_⟩⟩;obtain⟨_,V,x1⟩:=hx;obtain⟨l0,l1,l2,l3,_⟩:=dd v r h f b u O.1 V hlt;have hrow:=(oh v r h f b u c x).row _ l0 l1;have hc:=O.2.2 x V Z;have hx1:x+1<=(((v,r,h,f,b,u):Net).2.2.2.2.1.length:Int):=(by show x+1<=(b.length:Int);omega);refine⟨V,hlt,V,Z,λhn=>?_,λhn=>?_⟩;have X:(bq (v,r,h,f,b,u) c x).length=(aI QE f.length).length:=by rw[ll,bl]
 have hb:(al (v,r,h,f,b,u) x).2.1<((bq (v,r,h,f,b,u) c x).length:Int):=by rw[ll];exact l1
 have hr:(al (v,r,h,f,b,u) x).2.2.1<(((bq (v,r,h,f,b,u) c x).getD (al (v,r,h,f,b,u) x).2.1.toNat []).length:Int):=by rw[hrow];exact l3
 refine⟨X,l0,hb,X,X,l0,hb,X,X,l2,hr,X,V,Z,?_,X,l2,hr,X,aE Z,x+1,⟨O,Z,hx1⟩,⟨rfl,QQ v r h f b u O V hlt hn⟩,Z⟩;rcases hc with hc|hc;exact(hn hc).elim;exact aE Z;exact⟨aE Z,x+1,⟨O,Z,hx1⟩,⟨rfl,QP v r h f b u V hn⟩,Z⟩
 .obtain⟨_,V,x1⟩:=hx;have x1:x<=b.length:=x1;have e:x=b.length:=Z;have el:bq (v,r,h,f,b,u) c x=bF (v,r,h,f,b,u) c:=by rw[e];rfl
  rw[el];refine⟨?_,?_,?_,?_⟩;all_goals first
   |(rw[<- el,ll,bl])
   |(show List.length _<=20;rw[<- el,ll];omega)
   |exact⟨Z,Z,λi j i0 i1 j0 j1=>UW v r h f b u O i0 i1 j0 j1⟩
   |rfl
def find_range{m:Nat}{p:Nat->Bool}{i:Nat}(g:i<m)(f:p i=true)(h:(List.range i).all (λj=>!p j)=true):(List.range m).find? p=some i:=by
 have e:m=i+(m-i-1+1):=Z;rw[e,List.range_add,List.find?_append];have:(List.range i).find? p=none:=by
  rw[qBy];intro x b;have:=qQ.1 h x b;simpa using this
 rw[this,List.range_succ_eq_map,zO,qAa];simp[f]
def Gv{m:Nat}{p:Nat->Bool}(h:(List.range m).all (λj=>!p j)=true):(List.range m).find? p=none:=by
 rw[qBy];intro x b;have:=qQ.1 h x b;simpa using this
def Ap{n:Net}{c:Li}{b:Lj}{o d x:Int}(f:Aq n c b o d x)(j:x<n.2.2.2.2.1.length)(h:iK n c b o d x=false):Aq n c b o d (x+1):=by
 obtain⟨g,e,_,i⟩:=f;refine⟨g,Z,Z,?_⟩;rw[show(x+1).toNat=x.toNat+1 by omega,zS,gV,i,qAc,qY e,h];rfl
def iQ{n:Net}{c:Li}{b:Lj}{o d i:Int}:iK n c b o d i=true↔(al n i).2.1=o/\c.getD i.toNat 0≠dR/\0<=at2 b (al n i).2.2.1 d/\c.getD i.toNat 0+at2 b (al n i).2.2.1 d=at2 b o d:=by
 unfold iK;simp only[qC,qE,qCi]
def Jm{n:Net}{c:Li}{b:Lj}{o d i:Int}(h:¬((al n i).2.1=o/\c.getD i.toNat 0≠dR/\0<=at2 b (al n i).2.2.1 d/\c.getD i.toNat 0+at2 b (al n i).2.2.1 d=at2 b o d)):iK n c b o d i=false:=by
 rw[<- xJ,iQ];exact h
def aEG:eO 89 Jc:=ae λ(((O,u,r,L,g,v):Net),(c:Li),(b:Lj),(o:Int),(d:Int),_)=>by
 refine zE (A:=(lvA [(3,[1,2,3,4,10,11,12,13,15,16,17])] (aIT (O,u,r,L,g,v) c b o d))) (p:=let h:=(O,u,r,L,g,v);let e:=Df g;let z:=Du b (Dc o) [];let A:=Ar h c b o d;(J3 h c b o d->(∃x,Aq h c b o d x/\T5 c b o d Q1 (-1:Int) g e (0=x/\True))/\∀(x:Int),let i:=(Du g (Dc x) (ByteArray.mk #[],(0:Int),(0:Int),(0:Int),(0:Int),(0:Int))).2;let G:=Dw i.1 o;let c8:=Dj G;let V:=Du c (Dc x) 0;let c10:=Dz G true (Eb V (-1099511627776));let f:=Dj c10;let j:=Du b (Dc i.2.1) [];let X:=Du j (Dc d) 0;let c15:=Dz c10 true (Dn X 0);let T:=x+1;let c17:=V+X;let c18:=Eb c17 (Du z (Dc d) 0);Aq h c b o d x->(Dn x e->0<=x/\x<e/\T2 1 0 1 1 0 (L7 c8 ((c8->0<=x)/\(c8->x<Df c)/\L7 c8 ((Dh true c8->c8)/\(f->1=1)/\L4 f ((f->1=1)/\(f->0=0)/\L7 f ((f->0<=i.2.1)/\(f->i.2.1<Df b)/\Q4 f ((f->0<=d)/\(f->d<Df j)/\L7 f ((Dh true f->f)/\(c15->inR .i64 T/\∃y,Aq h c b o d y/\(T5 c b o d Q1 (-1:Int) g e (T=y/\True))/\Dc (e-y)<Dc (e-x))/\(c15=false->0<=x/\x<Df c/\Q2 1 1 0 (0<=i.2.1/\i.2.1<Df b/\0<=d/\d<Df j/\inR IntKind.i64 c17/\0<=o/\o<Df b/\0<=d/\d<Df z/\(c18->x=A/\True)/\(c18=false->inR IntKind.i64 T/\∃y,Aq h c b o d y/\(T5 c b o d Q1 (-1:Int) g e (T=y/\True))/\Dc (e-y)<Dc (e-x))))))))))))/\(Dn x e=false->(-1:Int)=A/\True))) aI8 λhp=>?_;obtain⟨hc,hb,o0,o1,X,d1⟩:=hp;have hno:=aK O u r L g v hc.1;have l40:=(fV O u r L g v hno).2;have hcl:c.length=g.length:=hc.2.1;have hat:∀i j:Int,(b.getD i.toNat []).getD j.toNat 0=at2 b i j:=λ_ _=>rfl
 refine Z9 ?_;simp only[qc,dM O u r L g v,hat];refine⟨⟨⟨hc,hb,o0,o1,X,d1⟩,Z,Z,rfl⟩,λx hx=>⟨λz=>?_,λhge=>?_⟩⟩;obtain⟨hp,V,x1,ha⟩:=id hx;obtain⟨l0,l1,l2,l3,_⟩:=dd O u r L g v hc.1 V z;obtain⟨⟨i1,i2,i3,i4⟩,i5,i6⟩:=hb _ _ l2 l3 X d1;obtain⟨⟨j1,j2,j3,j4⟩,j5,j6⟩:=hb _ _ o0 o1 X d1;have G:=hc.2.2 x V Z;have hx1:x+1<=(((O,u,r,L,g,v):Net).2.2.2.2.1.length:Int):=(by show x+1<=(g.length:Int);omega);refine⟨V,z,λ_=>V,λ_=>Z,λ_=>l2,λ_=>i2,λ_=>X,λ_=>i4,λh=>⟨aE Z,x+1,Ap hx z (Jm λq=>?_),rfl,Z⟩,λh=>⟨V,Z,l2,i2,X,i4,?_,o0,j2,X,j4,λh2=>?_,λh2=>⟨aE Z,x+1,Ap hx z (Jm λq=>h2 q.2.2.2),rfl,Z⟩⟩⟩;rcases h with(h|h)|h;exact h q.1;exact q.2.1 h;omega;rcases G with G|G;exact(h.1.2 G).elim;unfold inR;simp only;omega;have hbst:iK (O,u,r,L,g,v) c b o d x=true:=iQ.2 ⟨by first|exact h.1.1|exact qCb.1 h.1.1,h.1.2,Z,h2⟩;unfold Ar;rw[find_range (i:=x.toNat) (by show x.toNat<g.length;omega) (by rw[qY V];exact hbst) ha];show x=((x.toNat:Nat):Int);omega;obtain⟨hp,V,x1,ha⟩:=hx;have x1:x<=g.length:=x1;have e:x.toNat=g.length:=Z;rw[e]at ha;unfold Ar;rw[Gv (show(List.range ((O,u,r,L,g,v):Net).2.2.2.2.1.length).all _=true from ha)]
def aJ1:ai yv G0 KQ2:=af SK<|af aEG aI8
def aBi(b:Lj)(c:Li)(o d:Int)(x:LC)(g f:LB)(v:Lo)(r:Ll)(u:Lk):ah yv G0 88 [.dat I o,.dat I d,.ip M b,.ip N (x,g,f,v,r,u),.ip R c] [] ⟨J3 (x,g,f,v,r,u) c b o d,.dat I (qw (x,g,f,v,r,u) c b o d),[]⟩:=by
 refine zE (A:=az) (p:=let e:=Eb o d;let h:=Dj e;let i:=(x,g,f,v,r,u);let j:=Du b (Dc o) [];let y:=Dz e true (Dn (Du j (Dc d) 0) 0);let z:=qw i c b o d;(J3 i c b o d->L7 h ((Dj e->0<=o)/\(Dj e->o<Df b)/\Q4 h ((Dj e->0<=d)/\(Dj e->d<Df j)/\L7 h ((Dh true h->Dj e)/\(y->(-1:Int)=z/\True)/\(y=false->J3 i c b o d/\Ar i c b o d=z/\True)))))) aJ1 λe=>?_;obtain⟨⟨O,L,G,z⟩,V,T⟩:=e.2.1 o d e.2.2.1 e.2.2.2.1 e.2.2.2.2.1 e.2.2.2.2.2;have y:∀i j:Int,(b.getD i.toNat []).getD j.toNat 0=at2 b i j:=λ_ _=>rfl;refine Z9 ?_;simp only[qc,y];refine⟨λ_=>O,λ_=>L,λ_=>G,λ_=>z,λh=>?_,λh=>⟨e,?_⟩⟩;unfold qw;exact(if_pos h).symm;unfold qw;exact(if_neg Z).symm
def aJ0:ai yv G0 KQ3:=af (λargs m c e=>by
 split at e;rename_i A g f z h i b n c;cases e;exact(SC _ _ A g f z h i).args λC us u r=>iM r λv j=>lV (by kernel_rfl) rfl (λx y=>by obtain⟨X,V,T,O,L,G⟩:=n;exact aBi b c x y X V T O L G) u j;cases e) aJ1
def aAm(j:LC)(f e:LB)(b:Lo)(g:Ll)(i:Lk){c:Li}(h:fN (j,f,e,b,g,i) c):V8 (j,f,e,b,g,i) (bf (j,f,e,b,g,i) c):=by
 intro o d v u y x;have z:Mp.Sq b.length (bf (j,f,e,b,g,i) c):=Mp.iG _ _;refine⟨z.ou v u y x,?_⟩;have G:at2 (bf (j,f,e,b,g,i) c) o d=V9 (gy (bF (j,f,e,b,g,i) c)) (dF (bF (j,f,e,b,g,i) c)) o d:=Mp.iH _ _ o d v u y x;have r:=UW j f e b g i h v u y x;rw[G];unfold Rw at r;unfold V9;split;rename_i A;obtain⟨_,r⟩:=r A;split;omega;rcases r with r|r;contradiction;omega;omega
abbrev Cd:=aj [.row N,.val I,.val I] (λ_=>True) λ(n,a,b,_)=>.dat M (aT n a b)
def aA6:eO 44 Cd:=ae λ(((v,g,f,e,r,u):Net),(a:Int),(b:Int),_)=>by
 refine zE (A:=aE8) (p:=let h:=(v,g,f,e,r,u);let y:=fh h a b;let x:=Dj y;let z:=aT h a b;let i:=bM h a b;let j:=bf h i;let A:=Df e;(True->True/\(x->z=Dt (Li)/\True)/\(x=false->aCi h a b/\Q3 1 0 1 0 (fN h i/\L3 1 0 v g f e r u a (L3 b h Z0 1 0 i 1 0 j (L3 v g f e r u a b y (L3 x v g f e r u a b (L3 i v g f e r u i j (bz A (J3 h i j)/\aI (qw h i j) A=z/\True))))))))) aJ0 λ_=>?_;refine Z9 ?_;refine⟨λh=>?_,λh=>?_⟩;unfold aT;rw[h];rfl;have x:=iW v g f e r u h;have y:=(eJ v g f e r u (aK v g f e r u x.1)).1;refine⟨h,x,⟨Z,Z,λi j O L G z=>⟨x,aAm v g f e r u x,O,L,G,z⟩⟩,?_⟩;unfold aT;rw[h];rfl
def kI(n:Net)(nx:Lj)(k o a b:Int):Li:=(List.range n.2.2.2.1.length).map λd:Nat=>np n nx k o d a b
def P9(n:Net)(nx:Lj)(k a b:Int):Lj:=(List.range n.2.2.2.1.length).map λo:Nat=>kI n nx k o a b
def AI(n:Net)(nx:Lj)(a b:Int):Bool:=decide (0<=a/\a<b/\b<=600/\b-a<=60)&&(aS n&&l8 n nx)
def Ns(n:Net)(nx:Lj)(a b:Int):List (Lj):=if AI n nx a b=true then(List.range n.2.2.2.2.2.length).map λk:Nat=>P9 n nx k a b else[]
def upF{α:Type}(g:Int->α)(z:α)(l k:Int):List α:=((List.range k.toNat).map λi:Nat=>g i)++List.replicate (l-k).toNat z
def upI(g:Int->Int)(l k:Int):Li:=upF g 0 l k
def RZ(g:Int->Li)(l k:Int):Lj:=upF g [] l k
def upM(g:Int->Lj)(l k:Int):List (Lj):=upF g [] l k
def uQ(l:Int)(p:Int->Prop):Prop:=(0<=l/\l<=1000000)/\∀i,0<=i->i<l->p i
def toI(l k:Int):Prop:=0<=k/\k<=l
def YN(n:Net)(nx:Lj)(k o a b d:Int):Prop:=cellP n nx k o d a b
def YO(n:Net)(nx:Lj)(k o a b d:Int):Int:=np n nx k o d a b
def Yh(n:Net)(nx:Lj)(k a b o:Int):Prop:=aHn n nx a b/\uG n k/\aIs n o
def Uc(n:Net)(nx:Lj)(k a b o:Int):Li:=kI n nx k o a b
def Xm(n:Net)(nx:Lj)(a b k:Int):Prop:=aHn n nx a b/\uG n k
def P8(n:Net)(nx:Lj)(a b k:Int):Lj:=P9 n nx k a b
def aE6(l:Int)(g:Int->Int):Ann:=⟨λe s=>match e with
 |3=>match s.sig.T 5 with
  |.buf b _=>some {α:=Int,inv:=λk=>toI l k,st:=λk=>dD (put s [(11,.dat I k)]) b (.buf 3 I (upI g l k) []),μ:=λk=>Dc (Di l k)}|_=>none
 |_=>none,λ_ _=>none,λ_ _=>none⟩
def aE4(l:Int)(g:Int->Li):Ann:=⟨λe s=>match e with
 |3=>match s.sig.T 5 with
  |.buf b _=>some {α:=Int,inv:=λk=>toI l k,st:=λk=>dD (put s [(11,.dat I k)]) b (.buf 37 R (RZ g l k) []),μ:=λk=>Dc (Di l k)}|_=>none
 |_=>none,λ_ _=>none,λ_ _=>none⟩
def aE5(l:Int)(g:Int->Lj):Ann:=⟨λe s=>match e with
 |3=>match s.sig.T 5 with
  |.buf b _=>some {α:=Int,inv:=λk=>toI l k,st:=λk=>dD (put s [(11,.dat I k)]) b (.buf 30 M (upM g l k) []),μ:=λk=>Dc (Di l k)}|_=>none
 |_=>none,λ_ _=>none,λ_ _=>none⟩
def KC2:Kt:=kOr 101 CB KC1
def T9(args:List AV)(m:Mem):Option jY:=match m,args with
 |[],[.dat (.int .i64) l,.fn f caps]=>if f=100 then match ofK [.ptr N,.ptr M,.ptr I,.ptr I,.ptr I,.ptr I] caps with
  |some (n,nx,k,o,a,b,_)=>some ⟨uQ l (YN n nx k o a b),.dat R (upI (YO n nx k o a b) l l),[]⟩|none=>none
  else none
 |_,_=>none
def KC3:Kt:=kOr 99 T9 KC2
def TW(args:List AV)(m:Mem):Option jY:=match m,args with
 |[],[.dat (.int .i64) l,.fn f caps]=>if f=98 then match ofK [.ptr N,.ptr M,.ptr I,.ptr I,.ptr I] caps with
  |some (n,nx,k,a,b,_)=>some ⟨uQ l (Yh n nx k a b),.dat M (RZ (Uc n nx k a b) l l),[]⟩|none=>none
  else none
 |_,_=>none
def KC4:Kt:=kOr 97 TW KC3
def TY(args:List AV)(m:Mem):Option jY:=match m,args with
 |[],[.dat (.int .i64) l,.fn f caps]=>if f=96 then match ofK [.ptr N,.ptr M,.ptr I,.ptr I] caps with
  |some (n,nx,a,b,_)=>some ⟨uQ l (Xm n nx a b),.dat (.sl M) (upM (P8 n nx a b) l l),[]⟩|none=>none
  else none
 |_,_=>none
def KC5:Kt:=kOr 95 TY KC4
def vB{α:Type}{g:Int->α}{z:α}{l k:Int}(h:toI l k):(upF g z l k).length=l.toNat:=by
 obtain⟨e,b⟩:=h;unfold upF;rw[qF,vG,vC,wS];omega
def pW{α:Type}{g:Int->α}{z:α}{l:Int}:List.replicate l.toNat z=upF g z l 0:=by
 unfold upF;simp
def sg{α:Type}{g:Int->α}{z:α}{l:Int}:upF g z l l=(List.range l.toNat).map λi:Nat=>g i:=by
 unfold upF;simp
def EK{α:Type}{g:Int->α}{z:α}{l k:Int}(i:0<=k)(h:k<l):(upF g z l k).set k.toNat (g k)=upF g z l (k+1):=by
 unfold upF;have e:(k+1).toNat=k.toNat+1:=Z;have f:(l-k).toNat=(l-(k+1)).toNat+1:=Z;rw[e,f,zS,zZ,qBv,List.set_append,if_neg (by simp)];rw[vG,vC,qBg,List.set_cons_zero,qCu,vO];have b:((k.toNat:Nat):Int)=k:=Z;rw[b];rfl
def rows_ok{α:Type}{g:Int->α}{z:α}{l:Int}{p:Int->Prop}(h:0<=l)(j:l<=1000000)(u:∀i,0<=i->i<l->p i){q:Int->Prop}{m:Int}(hm:m<=100)(L:0<=m)(r:∀x,0<=x/\x<=1000001->q x):
  0<=l/\m*l<=281474976710656/\l<=9223372036854775807/\(List.replicate l.toNat z).length=l.toNat/\(∃x,toI l x/\0=x/\List.replicate l.toNat z=upF g z l x)/\
  ∀x,toI l x->(x<((l.toNat:Nat):Int)->p x/\(upF g z l x).length=l.toNat/\0<=x/\x<((upF g z l x).length:Int)/\(upF g z l x).length=l.toNat/\q (x+1)/\∃y,toI l y/\(x+1=y/\(upF g z l x).set x.toNat (g x)=upF g z l y)/\(l-y).toNat<(l-x).toNat)/\
   (¬x<((l.toNat:Nat):Int)->(upF g z l x).length=l.toNat/\upF g z l x=upF g z l l):=by
 have v:m*l<=100*1000000:=kP hm j h Z;refine⟨h,Z,Z,by simp,⟨0,⟨Z,h⟩,rfl,pW⟩,λx b=>⟨λA=>?_,λG=>?_⟩⟩;have e:=vB (g:=g) (z:=z) b;have f:=b.1;exact⟨u x f Z,e,f,Z,e,r _ Z,x+1,⟨Z,Z⟩,⟨rfl,EK f Z⟩,Z⟩;have e:=vB (g:=g) (z:=z) b;obtain⟨f,O⟩:=b;exact⟨e,by rw[show x=l by omega]⟩
def aA4(l:Int)(p:Int->Prop)(g:Int->Int):ah yv G0 99 [.dat I l,.clo1 I I p g] [] ⟨uQ l p,.dat R (upI g l l),[]⟩:=by
 refine zE (A:=(lvA [(3,[1,4,5,6,10,11])] (aE6 l g))) (p:=let f:=Dc l;let b:=Ty.int .i64;let h:=Et l (0:Int);(uQ l p->0<=l/\(Ea 8*l)<=281474976710656/\l<=9223372036854775807/\Dk h=Dc l/\(∃x,toI l x/\Q3 (AV.clo1 b b p g) Z0 (Dc l) (Int.ofNat f) (0=x/\h=upI g l x/\True))/\∀(x:Int),let i:=Dn x (Int.ofNat f);let e:=Dk (upI g l x);let j:=x+1;toI l x->(i->p x/\e=Dc l/\0<=x/\x<Ea e/\e=Dc l/\inR .i64 j/\∃y,toI l y/\(Q3 (AV.clo1 b b p g) Z0 (Dc l) (Int.ofNat f) (j=y/\Em (upI g l x) (Dc x) (g x)=upI g l y/\True))/\Dc (l-y)<Dc (l-x))/\(i=false->e=Dc l/\upI g l x=upI g l l/\True))) aGm λb=>?_;obtain⟨⟨f,e⟩,b⟩:=b;refine Z9 ?_;exact rows_ok f e b Z Z (λx h=>au Z)
def aA2(l:Int)(p:Int->Prop)(g:Int->Li):ah yv G0 97 [.dat I l,.clo1 I R p g] [] ⟨uQ l p,.dat M (RZ g l l),[]⟩:=by
 refine zE (A:=(lvA [(3,[1,4,5,6,10,11])] (aE4 l g))) (p:=let f:=Dc l;let b:=Ty.int .i64;let h:=Et l (Dt Int);(uQ l p->0<=l/\(Ea 24*l)<=281474976710656/\l<=9223372036854775807/\Dk h=Dc l/\(∃x,toI l x/\Q3 (AV.clo1 b b.sl p g) Z0 (Dc l) (Int.ofNat f) (0=x/\h=RZ g l x/\True))/\∀(x:Int),let i:=Dn x (Int.ofNat f);let e:=Dk (RZ g l x);let j:=x+1;toI l x->(i->p x/\e=Dc l/\0<=x/\x<Ea e/\e=Dc l/\inR .i64 j/\∃y,toI l y/\(Q3 (AV.clo1 b b.sl p g) Z0 (Dc l) (Int.ofNat f) (j=y/\Em (RZ g l x) (Dc x) (g x)=RZ g l y/\True))/\Dc (l-y)<Dc (l-x))/\(i=false->e=Dc l/\RZ g l x=RZ g l l/\True))) aGm λb=>?_;obtain⟨⟨f,e⟩,b⟩:=b;refine Z9 ?_;exact rows_ok f e b Z Z (λx h=>au Z)
def aA3(l:Int)(p:Int->Prop)(g:Int->Lj):ah yv G0 95 [.dat I l,.clo1 I M p g] [] ⟨uQ l p,.dat (.sl M) (upM g l l),[]⟩:=by
 refine zE (A:=(lvA [(3,[1,4,5,6,10,11])] (aE5 l g))) (p:=let f:=Dc l;let b:=Ty.int .i64;let h:=Et l (Dt (Li));(uQ l p->0<=l/\(Ea 24*l)<=281474976710656/\l<=9223372036854775807/\Dk h=Dc l/\(∃x,toI l x/\Q3 (AV.clo1 b b.sl.sl p g) Z0 (Dc l) (Int.ofNat f) (0=x/\h=upM g l x/\True))/\∀(x:Int),let i:=Dn x (Int.ofNat f);let e:=Dk (upM g l x);let j:=x+1;toI l x->(i->p x/\e=Dc l/\0<=x/\x<Ea e/\e=Dc l/\inR .i64 j/\∃y,toI l y/\(Q3 (AV.clo1 b b.sl.sl p g) Z0 (Dc l) (Int.ofNat f) (j=y/\Em (upM g l x) (Dc x) (g x)=upM g l y/\True))/\Dc (l-y)<Dc (l-x))/\(i=false->e=Dc l/\upM g l x=upM g l l/\True))) aGm λb=>?_;obtain⟨⟨f,e⟩,b⟩:=b;refine Z9 ?_;exact rows_ok f e b Z Z (λx h=>au Z)
def aKb:ai yv G0 KC2:=af aBd aGm
def aEh(d k o a b:Int)(nx:Lj)(n:Net):ah yv G0 100 [.dat I d,.ip N n,.ip M nx,.ip I k,.ip I o,.ip I a,.ip I b] [] ⟨YN n nx k o a b d,.dat I (YO n nx k o a b d),[]⟩:=
 zE (A:=az) (p:=(YN n nx k o a b d->cellP n nx k o d a b/\np n nx k o d a b=YO n nx k o a b d/\True)) aKb λe=>⟨e,rfl,trivial⟩
def zw{P:Program}{C:Ctx}{f:FuncId}{l:List AK}{b:List AV}{x:AKs l}{v:Value}(h:ofK l b=some x)(g:(AV.fn f b).rel P C v):(AV.fn f (avK l x)).rel P C v:=by
 obtain⟨e,rfl,i⟩:=g;exact⟨e,rfl,fZ h i⟩
def T8:∀args m c,T9 args m=some c->ah yv G0 99 args m c:=by
 intro args m c e;unfold T9 at e;split at e;case h_2=>cases e
 rename_i l f caps;split at e;case isFalse=>cases e
 rename_i j;subst j;split at e;case h_2=>cases e
 rename_i n nx k o a b _ g;cases e;exact(aA4 _ _ _).args λC u r i=>iM i λv h=>lW (by kernel_rfl) rfl (λx=>aEh x k o a b nx n) r (zw g h)
def aKa:ai yv G0 KC3:=af T8 aKb
def aDl(j:LC)(f e:LB)(i:Lo)(g:Ll)(b:Lk)(h:noF (j,f,e,i,g,b)=true):(b.length:Int)<=4:=by
 have:=((vj (by decide)).1 (ku j f e i g b h).2.2.2.2.2).1;simpa[aP]using this
def jM(r:LC)(i g:LB)(f:Lo)(j:Ll)(b:Lk)(h:aS (r,i,g,f,j,b)=true):(f.length:Int)<=12/\(b.length:Int)<=1000000:=by
 have e:=aK r i g f j b h;exact⟨(eJ r i g f j b e).1,by have:=aDl r i g f j b e;omega⟩
def aEi(o k a b:Int)(nx:Lj)(n:Net):ah yv G0 98 [.dat I o,.ip N n,.ip M nx,.ip I k,.ip I a,.ip I b] [] ⟨Yh n nx k a b o,.dat R (Uc n nx k a b o),[]⟩:=by
 refine zE (A:=az) (p:=let e:=Df n.2.2.2.1;(Yh n nx k a b o->uQ e (YN n nx k o a b)/\upI (YO n nx k o a b) e e=Uc n nx k a b o/\True)) aKa λ⟨f,h,g⟩=>?_;refine Z9 ?_;obtain⟨e,r⟩:=jM n.1 n.2.1 n.2.2.1 n.2.2.2.1 n.2.2.2.2.1 n.2.2.2.2.2 f.1;have e:(n.2.2.2.1.length:Int)<=12:=e;refine⟨⟨⟨Z,Z⟩,λd j i=>⟨f,h,g,j,i⟩⟩,?_⟩;unfold upI Uc kI;rw[sg,qR];rfl
def TV:∀args m c,TW args m=some c->ah yv G0 97 args m c:=by
 intro args m c e;unfold TW at e;split at e;case h_2=>cases e
 rename_i l f caps;split at e;case isFalse=>cases e
 rename_i j;subst j;split at e;case h_2=>cases e
 rename_i n nx k a b _ g;cases e;exact(aA2 _ _ _).args λC u r i=>iM i λv h=>lW (by kernel_rfl) rfl (λx=>aEi x k a b nx n) r (zw g h)
def aJ9:ai yv G0 KC4:=af TV aKa
def aEj(k a b:Int)(nx:Lj)(n:Net):ah yv G0 96 [.dat I k,.ip N n,.ip M nx,.ip I a,.ip I b] [] ⟨Xm n nx a b k,.dat M (P8 n nx a b k),[]⟩:=by
 refine zE (A:=az) (p:=let e:=Df n.2.2.2.1;(Xm n nx a b k->uQ e (Yh n nx k a b)/\RZ (Uc n nx k a b) e e=P8 n nx a b k/\True)) aJ9 λ⟨f,i⟩=>?_;refine Z9 ?_;obtain⟨e,j⟩:=jM n.1 n.2.1 n.2.2.1 n.2.2.2.1 n.2.2.2.2.1 n.2.2.2.2.2 f.1;have e:(n.2.2.2.1.length:Int)<=12:=e;refine⟨⟨⟨Z,Z⟩,λo h g=>⟨f,i,h,g⟩⟩,?_⟩;unfold RZ P8 P9;rw[sg,qR];rfl
def TX:∀args m c,TY args m=some c->ah yv G0 95 args m c:=by
 intro args m c e;unfold TY at e;split at e;case h_2=>cases e
 rename_i l f caps;split at e;case isFalse=>cases e
 rename_i j;subst j;split at e;case h_2=>cases e
 rename_i n nx a b _ g;cases e;exact(aA3 _ _ _).args λC u r i=>iM i λv h=>lW (by kernel_rfl) rfl (λx=>aEj x a b nx n) r (zw g h)
def aKW:ai yv G0 KC5:=af TX aJ9
abbrev yq:=aj [.row N,.val M,.val I,.val I] (λ(_,nx,_,_,_)=>du nx) λ(n,nx,a,b,_)=>.dat (.sl M) (Ns n nx a b)
def Xx:eO 47 yq:=ae λ(((x,j,i,v,r,f):Net),(nx:Lj),(a:Int),(b:Int),_)=>by
 refine zE (A:=az) (p:=let L:=Dn a 0;let h:=Dj L;let O:=Dz L true (Ef b a);let u:=Dj O;let T:=Dz O true (Eh b 600);let g:=Dj T;let V:=Dz T true (Eh (b-a) 60);let y:=(x,j,i,v,r,f);let A:=Ns y nx a b;let z:=Dj (aS y);let e:=Dj z;let X:=Dz z true (Dj (l8 y nx));let G:=Df f;(du nx->L7 h ((Dh true h->h)/\L4 u ((Dh true u->u)/\L7 g ((g->inR .i64 (b-a))/\L4 g ((Dh true g->g)/\(V->A=Dt (Lj)/\True)/\(V=false->True/\L4 e ((e->du nx)/\L4 e ((Dh true e->e)/\(X->A=Dt (Lj)/\True)/\(X=false->uQ G (Xm y nx a b)/\upM (P8 y nx a b) G G=A/\True)))))))))) aKW λT=>?_;refine Z9 ?_;have G:¬AI (x,j,i,v,r,f) nx a b=true->Ns (x,j,i,v,r,f) nx a b=[]:=λh=>if_neg h;have u:AI (x,j,i,v,r,f) nx a b=true↔(0<=a/\a<b/\b<=600/\b-a<=60)/\aS (x,j,i,v,r,f)=true/\l8 (x,j,i,v,r,f) nx=true:=by
  unfold AI;rw[qC,qC,qE]
 refine⟨λh=>au Z,λh=>G (λg=>by have:=(u.1 g).1;omega),λh=>⟨λ_=>T,λg=>G (λq=>?_),λ⟨g1,g2⟩=>?_⟩⟩;have:=(u.1 q).2;rcases g with g|g<;>simp[g]at this;obtain⟨X,V⟩:=jM x j i v r f g1;refine⟨⟨⟨Z,Z⟩,λk O L=>⟨⟨g1,g2,Z,Z,Z,Z⟩,O,L⟩⟩,?_⟩;unfold Ns;rw[if_pos (u.2 ⟨Z,g1,g2⟩)];unfold upM P8;rw[sg,qR]
open Go.Eng.Mp (aI b9 oN upto at2 ou)
def qS(p:Int):Bool:=decide (2<=p)&&decide (p<=64)
def mg(b e:Int):Int:=b ^ e.toNat
def Yo(b e:Int):Prop:=0<=b/\b<=64/\e<=4
def If(b e k:Int):Prop:=Yo b e/\0<=k/\(k<=e\/k=0)
def La(p q n:Int):Bool:=(((qS p&&decide (1<=q))&&decide (q<=4))&&decide (0<=n))&&decide (n<=2000)
def AA(p q n:Int):Int:=if La p q n=true then if mg p q<n then 140 else 0 else 1
def aGK(p k d:Int):Int:=Int.tmod (Int.tdiv d (mg p k)) p
def aDN(p q n:Int):Lj:=if AA p q n=0 then(List.range q.toNat).map λk:Nat=>(List.range n.toNat).map λd:Nat=>aGK p k d else[]
def aB3(p q n k:Int):Lj:=((List.range k.toNat).map λj:Nat=>(List.range n.toNat).map λd:Nat=>aGK p j d)++List.replicate (q-k).toNat []
def aDM(p n j k:Int):Li:=upF (aGK p j) 0 n k
def TG(p q n k:Int):Prop:=AA p q n=0/\0<=k/\k<=q
def X0(p q n j k:Int):Prop:=TG p q n j/\j<q/\0<=k/\k<=n
def lX(a b:Int):Bool:=((decide (0<=a)&&decide (a<b))&&decide (b<=600))&&decide (b-a<=60)
def KC6:Kt:=kOr 48 B0 <|
 kOr 47 yq <|
 kOr 44 Cd KQ3
def aKA(b e:Int):Ann:=Z8 3 Int (If b e) (λs k=>put s [(7,.dat I k),(5,.dat I (mg b k))]) λk=>Dc (Di e k)
abbrev IY:=aj [.val I] (λ_=>True) λ(p,_)=>.dat .bool (qS p)
abbrev OC:=aj [.val I,.val I] (λ(b,e,_)=>Yo b e) λ(b,e,_)=>.dat I (mg b e)
def KC7:Kt:=kOr 91 IY <|
 kOr 92 OC KC6
def aKy(p q n:Int):Ann:=⟨λg s=>match g with
 |7=>match s.sig.T 8 with
  |.buf e _=>some {α:=Int,inv:=λk=>TG p q n k,st:=λk=>dD (put s [(38,.dat I k)]) e (.mat 37 3 I (aB3 p q n k) []),μ:=λk=>Dc (Di q k)}|_=>none
 |11=>match s.sig.T 9,s.sig.T 8,s.sig.T 44 with
  |.dat (.int .i64) j,.buf e _,.buf b f=>some {α:=Int,inv:=λk=>X0 p q n j k,st:=λk=>dD (dD (put s [(47,.dat I k)]) e (.mat 37 3 I (aB3 p q n j) [(Dc j,.buf b f)])) b (.buf 3 I (aDM p n j k) []),μ:=λk=>Dc (Di n k)}|_,_,_=>none
 |_=>none,λ_ _=>none,λ_ _=>none⟩
def aJf:ai yv G0 KC6:=af aAQ<|af Xx<|af aA6 aJ0
def aEo:eO 91 IY:=ae λ((p:Int),_)=>by
 refine zE (A:=az) (p:=let b:=Ed p 2;(True->L4 b ((Dh true b->b)/\Dz b (Ef p 64) false=qS p/\True))) aJf λ_=>?_;refine⟨λh _=>h,λh=>h,?_,trivial⟩;unfold qS;cases e:decide (2<=p)<;>simp[Dz,Ed,Ef,e]<;>simpa using e
def Ly{b:Int}(e:0<=b)(h:b<=64):∀k:Nat,0<=b ^ k/\b ^ k<=64 ^ k
 |0=>by simp|k+1=>by
  obtain⟨g,f⟩:=Ly e h k;rw[Int.pow_succ,Int.pow_succ];exact⟨qAm g e,kP f h e (qCn g f)⟩
def tF{b e:Int}(j:0<=b)(i:b<=64)(r:e<=4):0<=mg b e/\mg b e<=16777216:=by
 unfold mg;obtain⟨g,f⟩:=Ly j i e.toNat;have:e.toNat<=4:=Z;refine⟨g,qCn f ?_⟩;rcases(by omega:e.toNat=0\/e.toNat=1\/e.toNat=2\/e.toNat=3\/e.toNat=4)with h|h|h|h|h<;>rw[h]<;>decide
def vb{b k:Int}(h:0<=k):mg b (k+1)=mg b k*b:=by
 unfold mg;rw[show(k+1).toNat=k.toNat+1 by omega,Int.pow_succ]
def aHK:eO 92 OC:=ae λ((b:Int),(e:Int),_)=>by
 refine zE (A:=(lvA [(3,[0,4,5,6,7])] (aKA b e))) (p:=(Yo b e->(∃x,If b e x/\L5 b Q1 (1=mg b x/\e=e/\0=x/\True))/\∀(x:Int),let f:=mg b x*b;let g:=x+1;If b e x->(Dn x e->inR .i64 f/\inR .i64 g/\∃y,If b e y/\(L5 b Q1 (f=mg b y/\e=e/\g=y/\True))/\Dc (e-y)<Dc (e-x))/\(Dn x e=false->mg b x=mg b e/\True))) aJf λf=>?_;refine Z9 ?_;obtain⟨v,u,G⟩:=id f;refine⟨⟨0,⟨f,Z,.inr rfl⟩,by unfold mg;simp,rfl⟩,λx ⟨_,g,z⟩=>⟨λj=>?_,λr=>?_⟩⟩;obtain⟨i,h⟩:=tF v u (e:=x+1) Z;rw[vb g]at i h;exact⟨au Z,au Z,x+1,⟨f,Z,Z⟩,⟨(vb g).symm,rfl⟩,Z⟩;unfold mg;rw[show x.toNat=e.toNat by omega]
def aDz:ai yv G0 KC7:=af aEo<|af aHK aJf
def aJy(p n j:Int):Li:=(List.range n.toNat).map λd:Nat=>aGK p j d
def wi(p q n k:Int):aB3 p q n k=upF (aJy p n) [] q k:=rfl
def XZ(p n j:Int):aDM p n j n=aJy p n j:=sg
abbrev Om:=aj [.val I,.val I,.val I] (λ_=>True) λ(p,q,n,_)=>.tup [.dat M (aDN p q n),.dat I (AA p q n)]
def aHt:eO 46 Om:=ae λ((p:Int),(q:Int),(n:Int),_)=>by
 refine zE (A:=(lvA [(7,[0,2,6,7,8,9,10,37,38,46,47]),(11,[0,2,6,7,8,9,10,37,38,46,47])] (aKy p q n))) (p:=let u:=Dj (qS p);let r:=Dz u true (Dn q 1);let g:=Dj r;let v:=Dz r true (Eh q 4);let h:=Dj v;let z:=Dz v true (Dn n 0);let j:=Dj z;let A:=Dz z true (Eh n 2000);let c8:=Dn (mg p q) n;let L:=Et n (0:Int);(True->True/\L4 (Dj u) ((Dh true (Dj u)->Dj u)/\L4 g ((Dh true g->g)/\L4 h ((Dh true h->h)/\L4 j ((Dh true j->j)/\(A->aDN p q n=Dt (Li)/\1=AA p q n/\True)/\(A=false->Yo p q/\(c8->aDN p q n=Dt (Li)/\140=AA p q n/\True)/\(c8=false->0<=q/\(Ea 24*q)<=281474976710656/\q<=9223372036854775807/\(∃x,let c10:=aB3 p q n x;TG p q n x/\T6 p n Z0 Q1 (Dc q) q (0=x/\Et q (Dt Int)=c10/\Fb c10/\True))/\∀(x:Int),let i:=aB3 p q n x;let b:=Dk i;let O:=x+1;TG p q n x->(Dn x q->0<=n/\(Ea 8*n)<=281474976710656/\n<=9223372036854775807/\b=Dc q/\0<=x/\x<Ea b/\b=Dc q/\Dk L=Dc n/\(∃f,X0 p q n x f/\L3 p n Z0 Q1 (Dc q) x q x n (0=f/\Q2 i (Dc x) (Dc n) (L=aDM p n x f/\True)))/\∀(f:Int),let T:=Gf f (mg p x);let e:=aDM p n x f;let G:=Dk e;let c17:=f+1;
  X0 p q n x f->(Dn f n->b=Dc q/\0<=x/\x<Ea b/\b=Dc q/\Dc x=Dc x/\Yo p x/\mg p x≠0/\inR .i64 T/\p≠0/\G=Dc n/\0<=f/\f<Ea G/\G=Dc n/\inR .i64 c17/\∃y,X0 p q n x y/\(L3 p n Z0 Q1 (Dc q) x q x n (c17=y/\Q2 i (Dc x) (Dc n) (Em e (Dc f) (Fp T p)=aDM p n x y/\True)))/\Dc (n-y)<Dc (n-f))/\(Dn f n=false->inR .i64 O/\∃y,TG p q n y/\(T6 p n Z0 Q1 (Dc q) q (O=y/\Dk e=Dc n/\Em i (Dc x) e=aB3 p q n y/\True))/\Dc (q-y)<Dc (q-x)))/\(Dn x q=false->Dk i=Dc q/\i=aDN p q n/\0=AA p q n/\True))))))))) aDz λ_=>?_
 refine Z9 ?_;have no:AA p q n≠0->aDN p q n=[]:=λh=>if_neg h;have hM:qS p=true↔2<=p/\p<=64:=by unfold qS;rw[qC,qE,qE]
 have eO:La p q n=true↔((((2<=p/\p<=64)/\1<=q)/\q<=4)/\0<=n)/\n<=2000:=by
  unfold La;simp only[qC,qE,hM]
 refine⟨λh=>?_,λ⟨⟨⟨⟨h1,h2⟩,h3⟩,h4⟩,h5⟩=>?_⟩
 .have hO:¬La p q n=true:=λg=>by
   have g:=eO.1 g;rcases h with(((h|h)|h)|h)|h;rw[hM.2 ⟨Z,Z⟩]at h;cases h;all_goals omega
  have:AA p q n=1:=if_neg hO;exact⟨no (by rw[this];decide),this.symm⟩
 obtain⟨m0,m1⟩:=hM.1 h1;have hO:La p q n=true:=eO.2 Z;have X:AA p q n=if mg p q<n then 140 else 0:=if_pos hO;refine⟨⟨Z,Z,Z⟩,λh=>?_,λh=>?_⟩;have:AA p q n=140:=by rw[X,if_pos h]
 exact⟨no (by rw[this];decide),this.symm⟩;have O:AA p q n=0:=by rw[X,if_neg h]
 have l1:∀{x:Int},0<=x->x<=q->(aB3 p q n x).length=q.toNat:=λa b=>by rw[wi];exact vB ⟨a,b⟩
 have l2:∀{j x:Int},0<=x->x<=n->(aDM p n j x).length=n.toNat:=λa b=>vB ⟨a,b⟩;refine⟨Z,Z,Z,⟨0,⟨O,Z,Z⟩,rfl,by rw[wi,<- pW],?_⟩,λx ⟨_,v,x1⟩=>⟨λz=>?_,λhge=>?_⟩⟩;rw[wi,<- pW];exact λr hr=>gU hr;have hl:=l1 v x1;refine⟨Z,Z,Z,hl,v,Z,hl,by simp,⟨0,⟨⟨O,v,x1⟩,z,Z,Z⟩,rfl,pW⟩,λy ⟨_,_,L,y1⟩=>⟨λT=>?_,λhge=>?_⟩⟩;have V:=l2 (j:=x) L y1;obtain⟨w0,w1⟩:=Ly (b:=p) Z Z x.toNat;have wne:mg p x≠0:=λe=>by
  have:p ^ x.toNat≠0:=Int.pow_ne_zero Z;exact this e
 have hq:0<=Gf y (mg p x)/\Gf y (mg p x)<=y:=⟨Int.tdiv_nonneg L w0,Int.tdiv_le_self _ L⟩;exact⟨hl,v,Z,hl,⟨Z,Z,Z⟩,wne,au Z,Z,V,L,Z,V,au Z,y+1,⟨⟨O,v,x1⟩,z,Z,Z⟩,⟨rfl,EK L T⟩,Z⟩;have hy:y=n:=by omega
 subst hy;exact⟨au Z,x+1,⟨O,Z,Z⟩,⟨rfl,l2 L y1,by rw[XZ,wi];exact EK v z⟩,Z⟩;have hx:x=q:=by omega
 subst hx;refine⟨l1 v x1,?_,O.symm⟩;unfold aDN;rw[if_pos O,wi,sg];rfl
abbrev DF:=aj [.val I,.val I] (λ_=>True) λ(a,b,_)=>.dat .bool (lX a b)
def aBO:eO 43 DF:=ae λ((a:Int),(b:Int),_)=>by
 refine zE (A:=az) (p:=let f:=Ed a 0;let g:=Dz f (Eh b a) false;let e:=Dz g (Ef b 600) false;(True->L7 f ((Dh true f->f)/\L4 g ((Dh true g->g)/\L7 e ((e->inR .i64 (b-a))/\L4 e ((Dh true e->e)/\Dz e (Ef (b-a) 60) false=lX a b/\True)))))) aDz λ_=>?_;refine Z9 ?_;exact⟨λh=>au Z,rfl⟩
abbrev zd:=aj [.row N] (λ_=>True) λ(n,_)=>.dat .bool (aS n)
def XL:eO 29 zd:=ae λ(((i,e,b,h,f,g):Net),_)=>by
 refine zE (A:=az) (p:=let j:=(i,e,b,h,f,g);(True->True/\Eb (Df (fa j)) 0=aS j/\True)) aDz λ_=>⟨trivial,?_,trivial⟩;rw[HI];rfl
def PL(n:Net)(p:Plan):Int:=if(lX p.1 p.2.1&&aS n)=true then 0 else 1
def aFY(n:Net)(p:Plan):Plan:=(p.1,p.2.1,aT n (1440*p.1) (1440*p.2.1),p.2.2.2)
def aFZ(n:Net)(p:Plan):Plan:=(p.1,p.2.1,p.2.2.1,Ns n p.2.2.1 p.1 p.2.1)
def aIM(p:Plan):Prop:=0<=p.1/\p.1<=1000/\0<=p.2.1/\p.2.1<=1000
abbrev oQ:=Li×Int
def V1(n:Net)(p:Plan)(c:oQ):List AV:=[.dat (.sl C) n.1,.dat (.sl S) n.2.1,.dat (.sl S) n.2.2.1,.dat (.sl Of) n.2.2.2.1,.dat (.sl Ln) n.2.2.2.2.1,.dat (.sl Kl) n.2.2.2.2.2,.dat I p.1,.dat I p.2.1,.dat M p.2.2.1,.dat (.sl M) p.2.2.2,.dat R c.1,.dat I c.2]
def aGZ(n:Net)(p:Plan)(c:oQ):Mem:=[(2,.var (V1 n p c))]
def asC:Mem->Option (Net×Plan×oQ)
 |[(2,.var [T,O,L,G,A,z,y,x,v,f,e,b])]=>match ji (.sl C) T,ji (.sl S) O,ji (.sl S) L,ji (.sl Of) G,ji (.sl Ln) A,ji (.sl Kl) z,ji I y,ji I x,ji M v,ji (.sl M) f,ji R e,ji I b with
  |some u,some h,some g,some r,some i,some j,some p1,some p2,some p3,some p4,some c1,some c2=>some ((u,h,g,r,i,j),(p1,p2,p3,p4),(c1,c2))|_,_,_,_,_,_,_,_,_,_,_,_=>none
 |_=>none
def cK(b:Net->Plan->Prop)(ret:Net->Plan->Int)(nxt:Net->Plan->oQ->Plan×oQ)(args:List AV)(m:Mem):Option jY:=match asC m,args with|some (n,p,c),[.ptr 2 1 0 0]=>some ⟨b n p,.dat I (ret n p),aGZ n (nxt n p c).1 (nxt n p c).2⟩|_,_=>none
def KC8:Kt:=kOr 43 DF <|
 kOr 29 zd <|
 kOr 46 Om KC7
def WT:ai yv G0 KC8:=af aBO<|af XL<|af aHt aDz
def aGd{m:Mem}{n:Net}{p:Plan}{c:oQ}(h:asC m=some (n,p,c)):m=aGZ n p c:=by
 unfold asC at h;split at h;case h_2=>cases h
 split at h;case h_2=>cases h
 rename_i y x v u r j i g h9 f e b;cases h;rw[bL y,bL x,bL v,bL u,bL r,bL j,bL i,bL g,bL h9,bL f,bL e,bL b];rfl
def VZ{f:FuncId}{b:Net->Plan->Prop}{ret:Net->Plan->Int}{nxt:Net->Plan->oQ->Plan×oQ}
  (h:∀n p c,ah yv G0 f [.ptr 2 1 0 0] (aGZ n p c) ⟨b n p,.dat I (ret n p),aGZ n (nxt n p c).1 (nxt n p c).2⟩):∀args m c,cK b ret nxt args m=some c->ah yv G0 f args m c:=by
 intro args m c e;unfold cK at e;split at e;case h_2=>cases e
 rename_i n p c g;cases e;rw[aGd g];exact h n p c
abbrev zf:=cK (λ_ _=>True) PL λ_ p c=>(p,c)
def XN:eO 20 zf:=VZ λ(n:Net) (p:Plan) (c:oQ)=>by
 refine zE (A:=az) (p:=let h:=p.2.1;let j:=n.2.2.1;let g:=p.2.2;let f:=n.2.2.2;let r:=Dj (lX p.1 h);let e:=Dj r;let i:=e->1=1;let b:=Dz r true (Dj (aS n));(True->L3 1 1 1 1 1 0 1 1 1 (L5 1 0 (True/\L4 e (i/\L4 e (i/\L4 e (i/\(e->0=0)/\L4 e ((e->True)/\L4 e ((Dh true e->e)/\(b->1=PL n p/\L3 n.1 n.2.1 j f.1 f.2.1 f.2.2 p.1 h g.1 (z8 g.2 c.1 c.2 1))/\(b=false->0=PL n p/\L3 n.1 n.2.1 j f.1 f.2.1 f.2.2 p.1 h g.1 (z8 g.2 c.1 c.2 1))))))))))) WT λ_=>?_;refine Z9 ?_;refine⟨λh=>?_,λ⟨f,e⟩=>?_⟩;have:¬(lX p.1 p.2.1&&aS n)=true:=λg=>by
  rw[qC]at g;rcases h with h|h;rw[g.1]at h;cases h;rw[g.2]at h;cases h
 exact(if_neg this).symm;exact(if_pos (by rw[f,e];rfl)).symm
abbrev ze:=cK (λ_ p=>aIM p) (λ_ _=>0) λn p c=>(aFY n p,c)
def XM:eO 21 ze:=VZ λ(n:Net) (p:Plan) (c:oQ)=>by
 refine zE (A:=az) (p:=let e:=n.2.2.2;let f:=1440*p.1;let g:=1440*p.2.1;let b:=(aFY n p).2;(aIM p->L3 1 1 1 1 0 1 1 1 1 (0=0/\inR .i64 f/\T2 1 1 1 1 0 (inR .i64 g/\True/\L3 1 1 1 1 0 Q1 n.1 n.2.1 n.2.2.1 (Q2 e.1 e.2.1 e.2.2 (p.1=(aFY n p).1/\p.2.1=b.1/\aT n f g=b.2.1/\p.2.2.2=b.2.2/\z6 c.1 c.2 1)))))) aDz λ⟨h,g,f,e⟩=>?_;refine Z9 ?_;exact⟨au Z,au Z,rfl,rfl,rfl,rfl⟩
abbrev Dm:=cK (λ_ p=>du p.2.2.1) (λ_ _=>0) λn p c=>(aFZ n p,c)
def aBK:eO 23 Dm:=VZ λ(n:Net) (p:Plan) (c:oQ)=>by
 refine zE (A:=az) (p:=let b:=p.2.2.1;let e:=n.2.2.2;let f:=(aFZ n p).2;(du b->L3 1 1 1 1 0 1 1 1 1 (L3 0 1 1 1 1 0 1 1 1 (L5 1 0 (du b/\L3 1 1 1 1 0 Q1 n.1 n.2.1 n.2.2.1 (Q2 e.1 e.2.1 e.2.2 (p.1=(aFZ n p).1/\p.2.1=f.1/\b=f.2.1/\Ns n b p.1 p.2.1=f.2.2/\z6 c.1 c.2 1))))))) aDz λh=>?_;refine Z9 ?_;exact⟨h,rfl,rfl,rfl,rfl⟩
abbrev DG:=cK (λ_ p=>jh p) wrE λn p _=>(p,(wrN n p,wrS n p))
def aBP:eO 24 DG:=VZ λ(n:Net) (p:Plan) (c:oQ)=>by
 refine zE (A:=az) (p:=let b:=n.2.2.2;(jh p->L3 1 1 1 1 0 1 1 1 0 (jh p/\L3 1 1 1 0 (wrE n p) n.1 n.2.1 n.2.2.1 b.1 (w6 b.2.1 b.2.2 p.1 p.2.1 p.2.2.1 p.2.2.2 (wrN n p) (wrS n p) 1)))) aDz λh=>?_;refine Z9 ?_;exact h
def AZ(n:Net):List (Int×Off):=(List.range n.2.2.2.1.length).map λi:Nat=>((i:Int),bX n i)
def II(n:Net)(k:Int):Prop:=0<=k/\k<=n.2.2.2.1.length
def Bv(n:Net):Prop:=(n.2.2.2.1.length:Int)<=1000000
def cj(p:Plan)(o:Int):Li:=p.2.2.1.getD o.toNat []
def W9(p:Plan)(o:Int):Li:=((List.range (cj p o).length).filter λd:Nat=>decide ((d:Int)≠o)).map λd=>(cj p o).getD d 0
def wfR(l:Li):Prop:=∀j:Nat,-1<=l.getD j 0/\l.getD j 0<=1000000
def W8(p:Plan)(o:Int):Prop:=0<=o/\o<p.2.2.1.length/\((cj p o).length:Int)<=1000000/\wfR (cj p o)
def QT(x:Int):Li->Li|[]=>[x]|a::l=>if x<a then x::a::l else if x=a then a::l else a::QT x l
def rZ(p:Plan)(o:Int):Li:=((W9 p o).filter λl=>decide (l≠-1)).foldr QT []
def Qn(n:Net)(p:Plan)(o:Int):Int:=AA (bX n o).2.2.2.1 (bX n o).2.2.2.2.1 (1+(rZ p o).length)
def py(n:Net)(p:Plan):Int:=if(List.range n.2.2.2.1.length).all (λo:Nat=>decide (Qn n p o=0))then 0 else 140
def NC(n:Net)(p:Plan):Prop:=aS n=true/\l8 n p.2.2.1=true
def HJ(n:Net)(p:Plan)(j:Nat):Prop:=NC n p/\j<=(AZ n).length/\∀i:Nat,i<j->Qn n p i=0
def aIx(n:Net):Ku:=⟨λb y=>match b with
 |1=>some {α:=Int,inv:=λk=>II n k,st:=λk=>⟨put y.s [(8,.dat I k)],Dc k,true⟩,μ:=λk=>Dc (Di (Df n.2.2.2.1) k)}|_=>none,λb s=>match b,s.sig.T 8 with
 |3,.dat (.int .i64) k=>some (put {s with mem:=[]} [(4,.ip Of (bX n k))])
 |_,_=>none,λb=>b==3⟩
abbrev CL:=aj [.row N] (λ_=>True) λ(n,_)=>.fn 90 [.ip N n]
def KC9:Kt:=kOr 31 (aj [.row Pl,.val I] (λ(p,o,_)=>W8 p o) λ(p,o,_)=>.dat R (rZ p o)) <|
 kOr 45 CL KC8
def KIM:FuncId->List AV->Option jX:=λf b=>if f=90 then match ofK [.ptr N] b with
 |some (n,_)=>some ⟨Bv n,.pair I Of,AZ n⟩|none=>none
 else none
noncomputable def cSort:Cfg:=⟨yv,G0,KC9,λ_=>false,KIM,true,Go.Eng.noP,λ_=>false⟩
def sortA(n:Net)(p:Plan)(c:oQ):Ann:=Z8 2 Nat (HJ n p) (λs j=>dD (dD (flat s) 2 (.var (V1 n p c))) 3 (.var [.dat I 0])) λj=>j
def aBl:eO 45 CL:=ae λ((n:Net),_)=>zE (A:=az) (p:=(True->T3 n)) WT λ_=>⟨rfl,trivial⟩
def aCK{n:Net}{x:Int}(f:0<=x)(b:x<n.2.2.2.1.length):nB (AZ n) x.toNat (x,bX n x):=by
 show((List.range n.2.2.2.1.length).map λi:Nat=>((i:Int),bX n i))[x.toNat]?=_;have e:((x.toNat:Nat):Int)=x:=Z;rw[qX,vP Z,zY,e]
def FU(n:Net):(AZ n).length=n.2.2.2.1.length:=by unfold AZ;simp
def aBk(n:Net):mU yv G0 90 [.ip N n] ⟨Bv n,.pair I Of,AZ n⟩:=by
 refine zI (c:=mkc KC8) (A:=aIx n) WT gC hm (p:=let h:=n.2.2.2;let g:=Df h.1;let j:=Dk (AZ n);true/\true/\true/\false=false/\∀(l:Nat),Bv n->(∃x,II n x/\(T2 l n h h.1 g (0=x/\True))/\0=Dc x/\true)/\∀(x:Int),let i:=Du h.1 (Dc x) (ByteArray.mk #[],(0:Int),(0:Int),(0:Int),(0:Int),(0:Int),Dt ByteArray);let e:=(bX n x).2;let f:=x+1;II n x->(Dn x g->0<=x/\x<g/\T4 1 0 l n x 1 0 (i=bX n x/\L3 h h.1 g x (Dn x g) x i i.1 i.2.1 (T2 i.2.2.1 i.2.2.2.1 i.2.2.2.2.1 i.2.2.2.2.2.1 i.2.2.2.2.2.2 ((true->l=l/\true/\nB (AZ n) (Dc x) (x,(bX n x).1,e.1,e.2.1,e.2.2.1,e.2.2.2.1,e.2.2.2.2.1,e.2.2.2.2.2)/\∀(b:Bool),(Dj b->b->Dc x+1=j)/\(Dj b=false->inR .i64 f/\∃y,II n y/\((T2 l n h h.1 g (f=y/\True))/\Dc x+1=Dc y/\b)/\Dc (g-y)<Dc (g-x)))/\(true=false->(true->true)/\(Dj false->true->Dc x=j)/\(Dj false=false->inR .i64 f/\∃y,II n y/\((T2 l n h h.1 g (f=y/\True))/\Dc x=Dc y/\true)/\Dc (g-y)<Dc (g-x)))))))/\(Dn x g=false->true->Dc x=j)) ⟨rfl,rfl,rfl,rfl,λl r=>?_⟩;have eO:∀x:Int,n.2.2.2.1.getD x.toNat (⟨#[]⟩,0,0,0,0,0,[])=bX n x:=λ_=>rfl;have L:∀q:Off,(q.1,q.2.1,q.2.2.1,q.2.2.2.1,q.2.2.2.2.1,q.2.2.2.2.2.1,q.2.2.2.2.2.2)=q:=λ_=>rfl;refine Z9 ?_;simp only[qc,FU];unfold Bv at r;refine⟨⟨0,⟨Z,Z⟩,rfl,rfl⟩,λx ⟨i,G⟩=>⟨λg=>⟨i,g,rfl,⟨aCK i g,λb=>⟨λz j=>(by rw[z]at j;cases j),λv=>⟨au Z,x+1,⟨Z,Z⟩,⟨rfl,Z,v⟩,Z⟩⟩⟩,λh=>(by cases h)⟩,λu=>Z⟩⟩
def pF:Prop:=∀(p:Plan) (o:Int),ah yv G0 31 [.agg [.dat I p.1,.dat I p.2.1,.dat M p.2.2.1,.dat (.sl M) p.2.2.2],.dat I o] [] ⟨W8 p o,.dat R (rZ p o),[]⟩
def aJ8(h:pF):ai yv G0 KC9:=af (ae λ(p,o,_)=>h p o)<|af aBl WT
def aGx:bh yv G0 KIM:=by
 intro f b x h;unfold KIM at h;split at h;case isFalse=>cases h
 rename_i r;subst r;split at h;case h_2=>cases h
 rename_i n _ g;cases h;exact λj l J JX JP w D e v u i=>aBk n j l J JX JP w D e v u (fZ g i)
def MA{x y:Int}:∀{l:Li},y∈QT x l↔y=x\/y∈l
 |[]=>by simp[QT]|a::l=>by
  unfold QT;split;simp;split;rename_i h;subst h;simp;rw[zH,MA (l:=l),zH];constructor;rintro(h|h|h);exact .inr (.inl h);exact .inl h;exact .inr (.inr h);rintro(h|h|h);exact .inr (.inl h);exact .inl h;exact .inr (.inr h)
def DN{x:Int}:∀{l:Li},l.Pairwise (· < ·)->(QT x l).Pairwise (· < ·)
 |[],_=>qAt _ _|a::l,h=>by
  obtain⟨f,i⟩:=yV.1 h;unfold QT;split;rename_i g;refine yV.2 ⟨λb e=>?_,h⟩;rcases zH.1 e with rfl|e;exact g;have:=f b e;omega;split;exact h;refine yV.2 ⟨λb e=>?_,DN i⟩;rcases MA.1 e with rfl|e;omega;exact f b e
def U9{x:Int}:∀{l:Li},(QT x l).length<=l.length+1
 |[]=>qM _|a::l=>by
  have:=U9 (x:=x) (l:=l);unfold QT;split;simp;split;simp;simp only[wO];omega
def Gt{y:Int}:∀{l:Li},y∈l.foldr QT []↔y∈l|[]=>by simp|a::l=>by rw[qDu,MA,Gt,zH]
def mx:∀(l:Li),(l.foldr QT []).Pairwise (· < ·)|[]=>yZ|_::l=>DN (mx l)
def O7:∀(l:Li),(l.foldr QT []).length<=l.length
 |[]=>qM _|a::l=>by
  have:=O7 l;have:=U9 (x:=a) (l:=l.foldr QT []);rw[qDu,wO];omega
def MF(p:Plan)(o:Int):(rZ p o).length<=(cj p o).length:=by
 unfold rZ;refine wJ (O7 _) (wJ (zU _ _) ?_);unfold W9;rw[vG];exact wJ (zU _ _) (by rw[vC];exact qM _)
def gF(u:LC)(g f:LB)(b:Lo)(i:Ll)(r:Lk){nx:Lj}(z:aS (u,g,f,b,i,r)=true)(y:l8 (u,g,f,b,i,r) nx=true){o:Int}(x:0<=o)(v:o<b.length):wfR (nx.getD o.toNat []):=λj=>by
 have L:=(nh u g f b i r (aK u g f b i r z)).1;by_cases G:(j:Int)<b.length;obtain⟨_,_,h⟩:=dJ u g f b i r y x v (d:=j) Z G;have e:nxt nx o j=(nx.getD o.toNat []).getD j 0:=by unfold nxt;rw[qR]
 rw[<- e];by_cases A:nxt nx o j=-1;omega;have:=(h A).1;omega;obtain⟨_,h,_⟩:=dJ u g f b i r y x v x v;rw[qA,zD Z];exact⟨by decide,by decide⟩
abbrev Db:=cK NC py λ_ p c=>(p,c)
def aBJ(h:pF):eO 22 Db:=VZ λ(n:Net) (p:Plan) (c:oQ)=>by
 refine zF (c:=cSort) (A:=(sortA n p c)) (aJ8 h) aGx hm (p:=let r:=p.2.1;let i:=n.2.1;let h:=p.2.2;let j:=n.2.2.1;let b:=n.2.2.2;let g:=AZ n;true/\(NC n p->T2 1 1 1 1 0 (True/\Bv n/\(∃x,HJ n p x/\x=0/\1=1/\0=0/\0=0/\1=1/\0=0/\0=0/\1=1/\0=0/\0=0/\1=1/\0=0/\0=0/\1=1/\0=0/\0=0/\1=1/\0=0/\0=0/\n.1=n.1/\i=i/\j=j/\b.1=b.1/\b.2.1=b.2.1/\b.2.2=b.2.2/\n=n/\n.1=n.1/\i=i/\j=j/\b.1=b.1/\b.2.1=b.2.1/\b.2.2=b.2.2/\p.1=p.1/\r=r/\h.1=h.1/\h.2=h.2/\c.1=c.1/\c.2=c.2/\(0:Int)=(0:Int)/\1=1/\True)/\(∀(x:Nat) (y:Int×ByteArray×Int×Int×Int×Int×Int×List ByteArray),let f:=1+Df (rZ p y.1);let e:=Dw (AA y.2.2.2.2.1 y.2.2.2.2.2.1 f) 0;HJ n p x->nB g x y->T6 1 0 1 1 1 0 (W8 p y.1/\inR IntKind.i64 f/\T6 1 1 0 1 1 0 (True/\(e->Q3 1 0 1 0 (140=py n p/\L3 n.1 i j b.1 b.2.1 b.2.2 p.1 r h.1 (z8 h.2 c.1 c.2 1)))/\(e=false->∃z,HJ n p z/\z=x+1/\1=1/\0=0/\0=0/\1=1/\0=0/\0=0/\1=1/\0=0/\0=0/\1=1/\0=0/\0=0/\1=1/\0=0/\0=0/\1=1/\0=0/\0=0/\n.1=n.1/\i=i/\j=j/\b.1=b.1/\b.2.1=b.2.1/\b.2.2=b.2.2/\n=n/\n.1=n.1/\i=i/\j=j/\b.1=b.1/\b.2.1=b.2.1/\b.2.2=b.2.2/\p.1=p.1/\r=r/\h.1=h.1/\h.2=h.2/\c.1=c.1/\c.2=c.2/\(0:Int)=(0:Int)/\1=1/\True))))/\∀(x:Nat),HJ n p x->x=Dk g->Q3 1 0 1 0 (0=py n p/\L3 n.1 i j b.1 b.2.1 b.2.2 p.1 r h.1 (z8 h.2 c.1 c.2 1))))) ⟨rfl,λu=>?_⟩;refine Z9 ?_;obtain⟨hs,X⟩:=id u;obtain⟨O,_⟩:=jM n.1 n.2.1 n.2.2.1 n.2.2.2.1 n.2.2.2.2.1 n.2.2.2.2.2 hs;have O:(n.2.2.2.1.length:Int)<=12:=O
 have j:∀o:Int,0<=o->o<n.2.2.2.1.length->(p.2.2.1.length:Int)=n.2.2.2.1.length/\((cj p o).length:Int)=n.2.2.2.1.length:=λo V T=>by
  obtain⟨g1,g2,_⟩:=dJ n.1 n.2.1 n.2.2.1 n.2.2.2.1 n.2.2.2.2.1 n.2.2.2.2.2 X V T V T;exact⟨g1,g2⟩
 have L:∀{x:Nat}{y:Int×Off},nB (AZ n) x y->x<n.2.2.2.1.length/\y=((x:Int),bX n x):=λ{x y} h=>by
  have h:((List.range n.2.2.2.1.length).map λi:Nat=>((i:Int),bX n i))[x]?=some y:=h;rw[qX]at h;by_cases b:x<n.2.2.2.1.length;rw[vP b]at h;exact⟨b,(wZ h).symm⟩;rw[zD (by rw[vC];omega)]at h;cases h
 have fail:∀o:Nat,o<n.2.2.2.1.length->Qn n p o≠0->py n p=140:=λo v G=>by
  unfold py;rw[if_neg];intro h;have:=qQ.1 h o (qW.2 v);exact G (vT this)
 refine⟨by unfold Bv;omega,⟨u,wU _,λi hi=>Z⟩,λx y b hy=>?_,λx b hl=>?_⟩;obtain⟨r,rfl⟩:=L hy;obtain⟨r1,r2⟩:=j x Z Z;have gl:=MF p x;have r1':(p.2.2.1.length:Int)=n.2.2.2.1.length:=r1;refine⟨⟨by show(0:Int)<=(x:Int);omega,by show(x:Int)<_;omega,by show((cj p (x:Int)).length:Int)<=1000000;omega,gF n.1 n.2.1 n.2.2.1 n.2.2.2.1 n.2.2.2.2.1 n.2.2.2.2.2 hs X Z Z⟩,au (by simp only;omega),λh=>(fail x r h).symm,λh=>⟨u,by rw[FU];omega,λi hi=>?_⟩⟩;by_cases h3:i<x;exact b.2.2 i h3;have:i=x:=by omega
 rw[this];exact h;rw[FU]at hl;unfold py;rw[if_pos];rw[qQ];intro o v;exact qU (b.2.2 o (by rw[hl];exact qW.1 v))
def p0F(a b:Int):Plan:=(a,b,[],[])
def p1F(n:Net)(a b:Int):Plan:=aFY n (p0F a b)
def p2F(n:Net)(a b:Int):Plan:=aFZ n (p1F n a b)
def Rh(n:Net)(a b:Int):Nat->Plan|0=>p0F a b|1=>p0F a b|2=>p1F n a b|3=>p1F n a b|_=>p2F n a b
def Rm(n:Net)(a b:Int):Nat->oQ|5=>(wrN n (p2F n a b),wrS n (p2F n a b))|_=>([],0)
def rP(n:Net)(a b:Int):Int:=if PL n (p0F a b)≠0 then PL n (p0F a b)else if py n (p1F n a b)≠0 then py n (p1F n a b)else wrE n (p2F n a b)
def uF(n:Net)(a b:Int):Plan:=if rP n a b=0 then p2F n a b else(0,0,[],[])
def Hf(n:Net)(a b:Int):oQ:=if rP n a b=0 then(wrN n (p2F n a b),wrS n (p2F n a b))else([],0)
def rN(n:Net)(a b:Int)(j:Nat):Prop:=j<=5/\(1<=j->PL n (p0F a b)=0)/\(3<=j->py n (p1F n a b)=0)/\(5<=j->wrE n (p2F n a b)=0)
def aJr:Kt:=kOr 20 zf <|
 kOr 21 ze <|
 kOr 22 Db <|
 kOr 23 Dm <|
 kOr 24 DG KC9
def cComp:Cfg:=mkp aJr (λt=>t==19) Go.Eng.noP (λ_=>false)
def aF2(n:Net)(a b:Int):Ann:=⟨λe s=>match e with
 |4=>some {α:=Nat,inv:=λj=>rN n a b j,st:=λj=>dD (put s [(28,.dat I (Int.ofNat j))]) 2 (.var (V1 n (Rh n a b j) (Rm n a b j))),μ:=λj=>Dc (Di 5 (Int.ofNat j)),fin:=[0,1,2,3,4,5]}|_=>none,λ_ _=>none,λ_ _=>none⟩
def aGl(h:pF):ai yv G0 aJr:=af XN<|af XM<|af (aBJ h)<|af aBK<|af aBP (aJ8 h)
def Wh{n:Net}{c:Li}{bd:Lj}{o d:Int}:br n o (Ar n c bd o d)=true:=by
 unfold Ar br;split;rename_i i h;have hm:=qW.1 (List.mem_of_find?_eq_some h);have b:=qCm h;unfold iK at b;simp only[qC,qE]at b;rw[yH,qC];refine .inr ⟨?_,qU b.1.1.1⟩;unfold cY;exact qU ⟨Z,Z⟩;rfl
def wz{n:Net}{a b:Int}(h:fh n a b=true):l8 n (aT n a b)=true:=by
 have e:aT n a b=Go.Eng.Mp.aI (qw n (bM n a b) (bf n (bM n a b))) n.2.2.2.1.length:=by
  unfold aT aCD;rw[if_pos h]
 rw[e];generalize r:qw n (bM n a b) (bf n (bM n a b))=g;have u:∀o d:Int,br n o (g o d)=true:=λo d=>by
  rw[<- r];unfold qw;split;rfl;exact Wh
 unfold l8 Go.Eng.Mp.aI;rw[qC];refine⟨qU (by simp),qQ.2 λi f=>?_⟩;have f:i<n.2.2.2.1.length:=by simpa using f
 rw[qA,qX,vP (by simpa using f)];unfold rowOk;rw[qC];refine⟨qU (by simp),qQ.2 λl j=>?_⟩;obtain⟨d,_,rfl⟩:=vK.1 j;exact u _ _
def u5{n:Net}{nx:Lj}(g:aS n=true)(b:l8 n nx=true):du nx:=by
 obtain⟨e,_⟩:=jM n.1 n.2.1 n.2.2.1 n.2.2.2.1 n.2.2.2.2.1 n.2.2.2.2.2 g;have e:(n.2.2.2.1.length:Int)<=12:=e;unfold l8 at b;rw[qC,qE]at b;refine⟨by have:=b.1;omega,λr h=>?_⟩;obtain⟨i,f,rfl⟩:=wX.1 h;have:=qQ.1 b.2 i (qW.2 f);unfold rowOk at this;rw[qC,qE,qA,qB f,qK]at this;have:=this.1;omega
def Xg{n:Net}{nx:Lj}{a b:Int}(h:aS n=true):(Ns n nx a b).length<=1000000/\∀t∈Ns n nx a b,du t:=by
 obtain⟨g,f⟩:=jM n.1 n.2.1 n.2.2.1 n.2.2.2.1 n.2.2.2.2.1 n.2.2.2.2.2 h;have g:(n.2.2.2.1.length:Int)<=12:=g;have f:(n.2.2.2.2.2.length:Int)<=1000000:=f;unfold Ns;split;refine⟨by rw[vG,vC];omega,λt e=>?_⟩;obtain⟨k,_,rfl⟩:=vK.1 e;unfold P9;refine⟨by rw[vG,vC];omega,λr i=>?_⟩;obtain⟨o,_,rfl⟩:=vK.1 i;unfold kI;rw[vG,vC];omega;exact⟨wU _,λt e=>by cases e⟩
def aF6{n:Net}{p:Plan}:PL n p=0↔(0<=p.1/\p.1<p.2.1/\p.2.1<=600/\p.2.1-p.1<=60)/\aS n=true:=by
 unfold PL lX;simp only[qC,qE];split;rename_i h;exact⟨λ_=>⟨Z,h.2⟩,λ_=>rfl⟩;rename_i h;constructor;intro g;cases g;intro g;exact absurd ⟨Z,g.2⟩ h
def PH{n:Net}{a b:Int}(h:PL n (p0F a b)=0):(0<=a/\a<b/\b<=600/\b-a<=60)/\aS n=true/\fh n (1440*a) (1440*b)=true/\l8 n (p1F n a b).2.2.1=true:=by
 obtain⟨e,g⟩:=aF6.1 h;have e:0<=a/\a<b/\b<=600/\b-a<=60:=e;have f:fh n (1440*a) (1440*b)=true:=by
  unfold fh;rw[qC];exact⟨sj.2 Z,g⟩
 exact⟨e,g,f,wz f⟩
abbrev uj:=aj [.row N,.val I,.val I] (λ_=>True) λ(n,a,b,_)=>.tup [.agg [.dat I (uF n a b).1,.dat I (uF n a b).2.1,.dat M (uF n a b).2.2.1,.dat (.sl M) (uF n a b).2.2.2],.agg [.dat R (Hf n a b).1,.dat I (Hf n a b).2],.dat I (rP n a b)]
def Ta(h:pF):eO 7 uj:=ae λ(((cs,X,V,fs,ls,ks):Net),(a:Int),(b:Int),_)=>by
 refine zF (c:=cComp) (A:=(lvA [(4,[6,7,8,9,12,13,26,27,28])] (aF2 (cs,X,V,fs,ls,ks) a b))) (aGl h) gC hm (p:=let e:=(cs,X,V,fs,ls,ks);let u:=Dn 0 5;let h:=Rh e a b 0;let c10:=PL e h;let c11:=Dw c10 0;let g:=uF e a b;let f:=Hf e a b;let r:=rP e a b;let c23:=Dq 0 1;let c24:=Rm e a b 0;let c27:=Dn 1 5;let T:=Rh e a b 1;let c36:=Dw 0 0;let A:=c36->1=1/\0=0/\1=1/\0=0/\1=1/\0=0/\1=1/\0=0/\0=g.1/\0=g.2.1/\g.2.2.1=Dt (Li)/\g.2.2.2=Dt (Lj)/\f.1=Dt Int/\0=f.2/\0=r/\True;let c37:=Dq 1 1;let c38:=aFY e T;let c41:=Rm e a b 1;let c44:=Dn 2 5;let j:=Rh e a b 2;let c53:=py e j;let c54:=Dw c53 0;let c55:=Dq 2 1;let c56:=Rm e a b 2;let c59:=Dn 3 5;let O:=Rh e a b 3;let c64:=Dq 3 1;let c68:=aFZ e O;let c71:=Rm e a b 3;let c74:=Dn 4 5;let i:=Rh e a b 4;let c83:=wrE e i;let c84:=Dw c83 0;let c85:=Dq 4 1;let c86:=Rm e a b 4;let c87:=Dn 5 5;let c88:=Rh e a b 5;let c91:=Rm e a b 5;true/\(True->(∃x,let c92:=Rh e a b x;let c95:=Rm e a b x;rN e a b x/\L3 1 0 0 1 0 0 1 0 0 ((5:Int)=(5:Int)/\0=Int.ofNat x/\L3 Q1 Q1 Z0 Z0 Z0 Q1 cs X V (Q2 fs ls ks (a=c92.1/\b=c92.2.1/\c92.2.2.1=Dt (Li)/\c92.2.2.2=Dt (Lj)/\c95.1=Dt Int/\0=c95.2/\True))))/\(∀(x:Nat),rN e a b x->x∈[0,1,2,3,4,5])/\(rN e a b 0->(u->Dl 0 0/\0<Ea 5/\T2 1 0 1 1 0 (True/\1=1/\(c11->T5 1 0 1 0 1 0 1 0 (0=g.1/\0=g.2.1/\g.2.2.1=Dt (Li)/\g.2.2.2=Dt (Lj)/\f.1=Dt Int/\0=f.2/\c10=r/\True))/\(c11=false->inR .i64 c23/\∃y,let c96:=Rh e a b y;let c99:=Rm e a b y;
  rN e a b y/\(L3 1 0 0 1 0 0 1 0 0 ((5:Int)=(5:Int)/\c23=Int.ofNat y/\L3 Q1 Q1 Z0 Z0 Z0 Q1 cs X V (Q2 fs ls ks (h.1=c96.1/\h.2.1=c96.2.1/\h.2.2.1=c96.2.2.1/\h.2.2.2=c96.2.2.2/\c24.1=c99.1/\c24.2=c99.2/\True))))/\Dc (5-Int.ofNat y)<Dc (Di 5 0))))/\(u=false->L3 1 1 1 0 1 1 1 0 1 (T4 0 1 0 1 0 1 0 (h.1=g.1/\h.2.1=g.2.1/\h.2.2.1=g.2.2.1/\h.2.2.2=g.2.2.2/\c24.1=f.1/\c24.2=f.2/\0=r/\True))))/\(rN e a b 1->(c27->Dl 0 1/\1<Ea 5/\T2 1 0 1 1 0 (aIM T/\1=1/\A/\(c36=false->inR .i64 c37/\∃y,let L:=Rh e a b y;let c103:=Rm e a b y;rN e a b y/\(L3 1 0 0 1 0 0 1 0 0 ((5:Int)=(5:Int)/\c37=Int.ofNat y/\L3 Q1 Q1 Z0 Z0 Z0 Q1 cs X V (Q2 fs ls ks (c38.1=L.1/\c38.2.1=L.2.1/\c38.2.2.1=L.2.2.1/\c38.2.2.2=L.2.2.2/\c41.1=c103.1/\c41.2=c103.2/\True))))/\Dc (5-Int.ofNat y)<Dc (Di 5 1))))/\(c27=false->L3 1 1 1 0 1 1 1 0 1 (T4 0 1 0 1 0 1 0 (T.1=g.1/\T.2.1=g.2.1/\T.2.2.1=g.2.2.1/\T.2.2.2=g.2.2.2/\c41.1=f.1/\c41.2=f.2/\0=r/\True))))/\(rN e a b 2->(c44->Dl 0 2/\2<Ea 5/\T2 1 0 1 1 0 (NC e j/\1=1/\(c54->T5 1 0 1 0 1 0 1 0 (0=g.1/\0=g.2.1/\g.2.2.1=Dt (Li)/\g.2.2.2=Dt (Lj)/\f.1=Dt Int/\0=f.2/\c53=r/\True))/\(c54=false->inR .i64 c55/\∃y,let G:=Rh e a b y;let c107:=Rm e a b y;
  rN e a b y/\(L3 1 0 0 1 0 0 1 0 0 ((5:Int)=(5:Int)/\c55=Int.ofNat y/\L3 Q1 Q1 Z0 Z0 Z0 Q1 cs X V (Q2 fs ls ks (j.1=G.1/\j.2.1=G.2.1/\j.2.2.1=G.2.2.1/\j.2.2.2=G.2.2.2/\c56.1=c107.1/\c56.2=c107.2/\True))))/\Dc (5-Int.ofNat y)<Dc (Di 5 2))))/\(c44=false->L3 1 1 1 0 1 1 1 0 1 (T4 0 1 0 1 0 1 0 (j.1=g.1/\j.2.1=g.2.1/\j.2.2.1=g.2.2.1/\j.2.2.2=g.2.2.2/\c56.1=f.1/\c56.2=f.2/\0=r/\True))))/\(rN e a b 3->(c59->Dl 0 3/\3<Ea 5/\T2 1 0 1 1 0 (du O.2.2.1/\1=1/\A/\(c36=false->inR .i64 c64/\∃y,let z:=Rh e a b y;let c111:=Rm e a b y;rN e a b y/\(L3 1 0 0 1 0 0 1 0 0 ((5:Int)=(5:Int)/\c64=Int.ofNat y/\L3 Q1 Q1 Z0 Z0 Z0 Q1 cs X V (Q2 fs ls ks (c68.1=z.1/\c68.2.1=z.2.1/\c68.2.2.1=z.2.2.1/\c68.2.2.2=z.2.2.2/\c71.1=c111.1/\c71.2=c111.2/\True))))/\Dc (5-Int.ofNat y)<Dc (Di 5 3))))/\(c59=false->L3 1 1 1 0 1 1 1 0 1 (T4 0 1 0 1 0 1 0 (O.1=g.1/\O.2.1=g.2.1/\O.2.2.1=g.2.2.1/\O.2.2.2=g.2.2.2/\c71.1=f.1/\c71.2=f.2/\0=r/\True))))/\(rN e a b 4->(c74->Dl 0 4/\4<Ea 5/\T2 1 0 1 1 0 (jh i/\1=1/\(c84->T5 1 0 1 0 1 0 1 0 (0=g.1/\0=g.2.1/\g.2.2.1=Dt (Li)/\g.2.2.2=Dt (Lj)/\f.1=Dt Int/\0=f.2/\c83=r/\True))/\(c84=false->inR .i64 c85/\∃y,let v:=Rh e a b y;let c115:=Rm e a b y;
  rN e a b y/\(L3 1 0 0 1 0 0 1 0 0 ((5:Int)=(5:Int)/\c85=Int.ofNat y/\L3 Q1 Q1 Z0 Z0 Z0 Q1 cs X V (Q2 fs ls ks (i.1=v.1/\i.2.1=v.2.1/\i.2.2.1=v.2.2.1/\i.2.2.2=v.2.2.2/\wrN e i=c115.1/\wrS e i=c115.2/\True))))/\Dc (5-Int.ofNat y)<Dc (Di 5 4))))/\(c74=false->L3 1 1 1 0 1 1 1 0 1 (T4 0 1 0 1 0 1 0 (i.1=g.1/\i.2.1=g.2.1/\i.2.2.1=g.2.2.1/\i.2.2.2=g.2.2.2/\c86.1=f.1/\c86.2=f.2/\0=r/\True))))/\(rN e a b 5->(c87->False)/\(c87=false->L3 1 1 1 0 1 1 1 0 1 (T4 0 1 0 1 0 1 0 (c88.1=g.1/\c88.2.1=g.2.1/\c88.2.2.1=g.2.2.1/\c88.2.2.2=g.2.2.2/\c91.1=f.1/\c91.2=f.2/\0=r/\True))))/\True)) ⟨rfl,λ_=>?_⟩
 obtain⟨n,hn⟩:∃n:Net,n=(cs,X,V,fs,ls,ks):=⟨_,rfl⟩;simp only[<- hn];refine Z9 ?_;have bad:∀e:Int,e≠0->e=rP n a b->0=(uF n a b).1/\0=(uF n a b).2.1/\(uF n a b).2.2.1=[]/\(uF n a b).2.2.2=[]/\(Hf n a b).1=[]/\0=(Hf n a b).2/\e=rP n a b:=λe he h=>by
  have hne:¬rP n a b=0:=by rw[<- h];exact he
  unfold uF Hf;rw[if_neg hne,if_neg hne];exact⟨rfl,rfl,rfl,rfl,rfl,rfl,h⟩
 refine⟨⟨0,⟨Z,λh=>Z,λh=>Z,λh=>Z⟩,rfl,rfl,rfl,rfl,rfl,rfl,rfl⟩,λx hx=>?_,λ_=>?_,λh1=>?_,λh2=>?_,λh3=>?_,λh4=>?_,λh5=>?_⟩;have:=hx.1;rcases(by omega:x=0\/x=1\/x=2\/x=3\/x=4\/x=5)with rfl|rfl|rfl|rfl|rfl|rfl<;>simp
 refine⟨λ_=>⟨Z,Z,λg=>bad _ g ?_,λg=>⟨au Z,1,⟨Z,λ_=>g,λh=>Z,λh=>Z⟩,⟨rfl,rfl,rfl,rfl,rfl,rfl,rfl⟩,by decide⟩⟩,λh=>absurd (by decide) h⟩;unfold rP;rw[if_pos (show PL n (p0F a b)≠0 from g)];rfl;have u:=h1.2.1 Z;obtain⟨hr,hs,hu,ht⟩:=PH u;exact⟨λ_=>⟨Z,Z,⟨by show 0<=a;omega,by show a<=1000;omega,by show 0<=b;omega,by show b<=1000;omega⟩,λh=>absurd rfl h,au Z,2,⟨Z,λ_=>u,λh=>Z,λh=>Z⟩,⟨rfl,rfl,rfl,rfl,rfl,rfl,rfl⟩,by decide⟩,λh=>absurd (by decide) h⟩;have u:=h2.2.1 Z;obtain⟨hr,hs,hu,ht⟩:=PH u;refine⟨λ_=>⟨Z,Z,⟨hs,ht⟩,λg=>bad _ g ?_,λg=>⟨au Z,3,⟨Z,λ_=>u,λ_=>g,λh=>Z⟩,⟨rfl,rfl,rfl,rfl,rfl,rfl,rfl⟩,by decide⟩⟩,λh=>absurd (by decide) h⟩;unfold rP;rw[if_neg (λh=>h u),if_pos (show py n (p1F n a b)≠0 from g)];rfl;have u:=h3.2.1 Z;obtain⟨hr,hs,hu,ht⟩:=PH u;exact⟨λ_=>⟨Z,Z,u5 hs ht,λh=>absurd rfl h,au Z,4,⟨Z,λ_=>u,λ_=>h3.2.2.1 Z,λh=>Z⟩,⟨rfl,rfl,rfl,rfl,rfl,rfl,rfl⟩,by decide⟩,λh=>absurd (by decide) h⟩;have u:=h4.2.1 Z;have hso:=h4.2.2.1 Z;obtain⟨hr,hs,hu,ht⟩:=PH u;obtain⟨t1,t2⟩:=Xg (nx:=(p1F n a b).2.2.1) (a:=(p1F n a b).1) (b:=(p1F n a b).2.1) hs;refine⟨λ_=>⟨Z,Z,⟨u5 hs ht,t1,t2⟩,λg=>bad _ g ?_,λg=>⟨au Z,5,⟨Z,λ_=>u,λ_=>hso,λ_=>g⟩,⟨rfl,rfl,rfl,rfl,rfl,rfl,rfl⟩,by decide⟩⟩,λh=>absurd (by decide) h⟩;unfold rP;rw[if_neg (λh=>h u),if_neg (λh=>h hso)];rfl;have u:=h5.2.1 Z;have hso:=h5.2.2.1 Z;have hw:=h5.2.2.2 Z;have hE:rP n a b=0:=by
  unfold rP;rw[if_neg (λh=>h u),if_neg (λh=>h hso)];exact hw
 unfold uF Hf;rw[if_pos hE,if_pos hE,hE];exact⟨λh=>absurd h (by decide),λ_=>⟨rfl,rfl,rfl,rfl,rfl,rfl,rfl⟩⟩
def KD(x:Int):Li->Nat|[]=>0|a::l=>if a=x then 0 else KD x l+1
def aAe(l:Li)(x:Int):Int:=if KD x l<l.length then(KD x l:Int)else -1
def Y8(l:Li)(x k:Int):Prop:=0<=k/\k<=l.length/\k<=KD x l
def aFM(l:Li):Prop:=(l.length:Int)<=1000000000
def gOk(n:Net)(p:Plan)(o:Int):Bool:=(cY o n.2.2.2.1.length&&aS n)&&jg n p
def gsF(n:Net)(p:Plan)(o:Int):Li:=if gOk n p o=true then -1::rZ p o else[]
def Vm(p:Plan)(o d:Int):Int:=if d=o then 0 else if(cj p o).getD d.toNat 0=-1 then -1 else aAe (-1::rZ p o) ((cj p o).getD d.toNat 0)
def ofF(n:Net)(p:Plan)(o:Int):Li:=if gOk n p o=true then(List.range n.2.2.2.1.length).map λd:Nat=>Vm p o d else[]
def Uz(n:Net)(p:Plan)(o k:Int):Li:=upF (Vm p o) 0 n.2.2.2.1.length k
def gTo(n:Net)(p:Plan)(o k:Int):Prop:=gOk n p o=true/\0<=k/\k<=n.2.2.2.1.length
abbrev Jb:=aj [.val I,.val I,.ptr N] (λ_=>True) λ(o,x,n,_)=>.dat .bool (br n o x)
abbrev Ja:=aj [.val I,.val I] (λ_=>True) λ(o,x,_)=>.dat .bool (jt o x)
def aKn:Kt:=kOr 58 Jb <|
 kOr 59 Ja KC8
def aIL(args:List AV)(m:Mem):Option jY:=match m,args with
 |[],[.dat (.sl (.sl (.int .i64))) t,.dat (.int .i64) k,.fn f caps]=>if f=58 then match ofK [.ptr N] caps with
   |some (n,_)=>some ⟨du t,.dat .bool (sgF (br n) t k),[]⟩|none=>none
  else if f=59 then match ofK [] caps with|some _=>some ⟨du t,.dat .bool (sgF jt t k),[]⟩|none=>none
  else none
 |_,_=>none
def aKZ:Kt:=kOr 60 aIL aKn
def aF7(n:Net)(p:Plan):Ann:=Z8 6 Int (uw n p) (λs k=>put s [(38,.dat I k)]) λk=>Dc (Di (Df p.2.2.2) k)
def aKD(l:Li)(x:Int):Ann:=Z8 2 Int (Y8 l x) (λs k=>put s [(8,.dat I k)]) λk=>Dc (Di (Df l) k)
abbrev DD:=aj [.row N,.row Pl] (λ(_,p,_)=>jh p) λ(n,p,_)=>.dat .bool (jg n p)
abbrev CS:=aj [.val R,.val I] (λ(l,_,_)=>aFM l) λ(l,x,_)=>.dat I (aAe l x)
def aKm:Kt:=kOr 30 DD <|
 kOr 32 CS aJr
def aKG(n:Net)(p:Plan)(o:Int):Ann:=⟨λe s=>match e with
 |6=>match s.sig.T 9 with
  |.buf b _=>some {α:=Int,inv:=λk=>gTo n p o k,st:=λk=>dD (put s [(47,.dat I k)]) b (.buf 3 I (Uz n p o k) []),μ:=λk=>Dc (Di (Df n.2.2.2.1) k)}|_=>none
 |_=>none,λ_ _=>none,λ_ _=>none⟩
def aKP:Cfg:=mkp aKm (λt=>t==32) Go.Eng.noP (λ_=>false)
def aEF:eO 58 Jb:=ae λ((o:Int),(x:Int),((j,f,e,i,b,g):Net),_)=>by
 refine zE (A:=az) (p:=let y:=Eb x (-1);let h:=Dj y;let u:=Ed x 0;let z:=Df b;let r:=Dz u (Dn x z) false;let v:=Dh h r;(True->L7 h (L4 (Dh h u) (Q4 (Dh h u) (L4 h ((h->Dh h u->Dh h u)/\L4 h (Q4 v ((Dh h r->0<=x)/\(Dh h r->x<z)/\L4 v (Q4 v (L4 h ((h->Dh h r->Dh h r)/\(Dh true h->h)/\Dz y true (Dz r (Eb (Du b (Dc x) (ByteArray.mk #[],(0:Int),(0:Int),(0:Int),(0:Int),(0:Int))).2.1 o) false)=br (j,f,e,i,b,g) o x/\True))))))))))) WT λ_=>?_;refine Z9 ?_;refine⟨λh=>h.2.1,λh=>h.2.2,?_⟩;unfold br cY;rw[xC];simp only[yH,qC,kN,qE];exact Iff.rfl
def aEE:eO 59 Ja:=ae λ((o:Int),(x:Int),_)=>by
 refine zE (A:=az) (p:=let b:=Ed x (-1);(True->L4 b ((Dh true b->b)/\Dz b (Ef x 65518) false=jt o x/\True))) WT λ_=>⟨λh _=>h,λh=>by simpa[Dh]using h,?_,trivial⟩;unfold jt iE;simp only[Dz,Ed,Ef,kQ];by_cases h:-1<=x<;>simp[h]
def aDA:ai yv G0 aKn:=af aEF<|af aEE WT
def aEB(t:Lj)(m:Int)(n:Net):ah yv G0 60 [.dat M t,.dat I m,.fn 58 [.ip N n]] [] ⟨du t,.dat .bool (sgF (br n) t m),[]⟩:=by
 refine zE (A:=(lvA [(4,[1,2,6,7,8,10,15,16,17,26,27,28]),(9,[1,2,6,7,8,10,15,16,17,26,27,28])] (sgA (br n) t m))) (p:=let i:=Dw (Df t) m;let h:=sgF (br n) t m;(du t->(i->false=h/\True)/\(i=false->(∃x,Kx (br n) t m x/\Q3 m n t (Df t) (0=x/\True))/\∀(x:Int),let j:=Dn x (Df t);let f:=Du t (Dc x) [];let g:=Df f;let r:=Dw g m;let u:=x+1;Kx (br n) t m x->(j->0<=x/\x<Df t/\(r->false=h/\True)/\(r=false->(∃b,oM (br n) f m x b/\L3 m n x f t (Df t) x f g (0=b/\True))/\∀(b:Int),let e:=Dj (br n x (Du f (Dc b) 0));let v:=b+1;oM (br n) f m x b->(Dn b g->0<=b/\b<g/\True/\(e->false=h/\True)/\(e=false->inR .i64 v/\∃y,oM (br n) f m x y/\(L3 m n x f t (Df t) x f g (v=y/\True))/\Dc (g-y)<Dc (g-b)))/\(Dn b g=false->inR .i64 u/\∃y,Kx (br n) t m y/\(Q3 m n t (Df t) (u=y/\True))/\Dc (Df t-y)<Dc (Df t-x))))/\(j=false->true=h/\True)))) aDA λf=>?_;refine Z9 ?_;exact EU (br n) f
def aEC(t:Lj)(m:Int):ah yv G0 60 [.dat M t,.dat I m,.fn 59 []] [] ⟨du t,.dat .bool (sgF jt t m),[]⟩:=by
 refine zE (A:=(lvA [(4,[1,2,6,7,8,10,15,16,17,26,27,28]),(9,[1,2,6,7,8,10,15,16,17,26,27,28])] (sgA jt t m))) (p:=let h:=Dw (Df t) m;(du t->(h->false=sgF jt t m/\True)/\(h=false->(∃x,Kx jt t m x/\Q2 m t (Df t) (0=x/\True))/\∀(x:Int),let i:=Dn x (Df t);let f:=Du t (Dc x) [];let g:=Df f;let j:=Dw g m;let r:=x+1;Kx jt t m x->(i->0<=x/\x<Df t/\(j->false=sgF jt t m/\True)/\(j=false->(∃b,oM jt f m x b/\T5 m x f t (Df t) x f g (0=b/\True))/\∀(b:Int),let u:=Dj (jt x (Du f (Dc b) 0));let e:=b+1;oM jt f m x b->(Dn b g->0<=b/\b<g/\True/\(u->false=sgF jt t m/\True)/\(u=false->inR .i64 e/\∃y,oM jt f m x y/\(T5 m x f t (Df t) x f g (e=y/\True))/\Dc (g-y)<Dc (g-b)))/\(Dn b g=false->inR .i64 r/\∃y,Kx jt t m y/\(Q2 m t (Df t) (r=y/\True))/\Dc (Df t-y)<Dc (Df t-x))))/\(i=false->true=sgF jt t m/\True)))) aDA λf=>?_;refine Z9 ?_;exact EU jt f
def BJ{P:Program}{C:Ctx}{a b x f:AV}{e:Lv}(h:zA1 P C [a,b,x] e)(g:∀v,x.rel P C v->f.rel P C v):zA1 P C [a,b,f] e:=by
 obtain⟨u,e,rfl,j,i⟩:=h;exact⟨_,_,rfl,j,iM i g⟩
def aDf:∀args m c,aIL args m=some c->ah yv G0 60 args m c:=by
 intro args m c b;unfold aIL at b;split at b;case h_2=>cases b
 rename_i t k f caps;split at b;rename_i i;subst i;split at b;case h_2=>cases b
 rename_i n _ e;cases b;exact(aEB t k n).args λC j r h=>BJ h λv g=>zw e g;split at b;case isFalse=>cases b
 rename_i i;subst i;split at b;case h_2=>cases b
 rename_i x e;cases b;exact(aEC t k).args λC j r h=>BJ h λv g=>zw e g
def aJh:ai yv G0 aKZ:=af aDf aDA
def aBN:eO 30 DD:=ae λ(((u,j,g,e,r,f):Net),((p1,p2,nx,b):Plan),_)=>by
 refine zE (A:=(lvA [(6,[2,4,6,8,36,37,38])] (aF7 (u,j,g,e,r,f) (p1,p2,nx,b)))) (p:=let T:=Dj (lX p1 p2);let A:=(p1,p2,nx,b);let L:=Dj T;let h:=Df b;let V:=Dz T true (Dw h (Df f));let v:=Dj V;let i:=(u,j,g,e,r,f);let X:=Df e;let c8:=Dz V true (Dj (sgF (br i) nx X));let O:=jg i A;(jh A->True/\Q4 L (Q4 L ((Dh true L->L)/\Q4 v (Q4 v ((v->du nx)/\L4 v ((Dh true v->v)/\(c8->false=O/\True)/\(c8=false->(∃x,uw i A x/\Q2 i b h (0=x/\True))/\∀(x:Int),let G:=Du b (Dc x) (Dt (Li));let z:=Dj (sgF jt G X);let c12:=x+1;uw i A x->(Dn x h->0<=x/\x<h/\du G/\(z->false=O/\True)/\(z=false->inR .i64 c12/\∃y,uw i A y/\(Q2 i b h (c12=y/\True))/\Dc (h-y)<Dc (h-x)))/\(Dn x h=false->true=O/\True))))))))) aJh λhf=>?_;refine Z9 ?_;obtain⟨a3,a4,a5⟩:=id hf;have a3:du nx:=a3;have a4:b.length<=1000000:=a4;have eT:sgF (br (u,j,g,e,r,f)) nx e.length=l8 (u,j,g,e,r,f) nx:=rfl;have eR:lX p1 p2=lJ (p1,p2,nx,b):=by
  unfold lX lJ;rw[xC];simp only[qC,qE];omega
 rw[eT,eR];have eF:jg (u,j,g,e,r,f) (p1,p2,nx,b)=(lJ (p1,p2,nx,b)&&(l8 (u,j,g,e,r,f) nx&&oP (u,j,g,e,r,f) (p1,p2,nx,b))):=rfl;have eD:(b.length:Int)=f.length->(oP (u,j,g,e,r,f) (p1,p2,nx,b)=true↔∀i:Nat,(i:Int)<b.length->sgF jt (b.getD i []) e.length=true):=λhl=>by
  unfold oP;simp only[qC,qE,qQ];refine⟨λh i v=>h.2 _ (getD_mem Z),λh=>⟨hl,λx L=>?_⟩⟩;obtain⟨i,v,rfl⟩:=wX.1 L;have:=h i Z;rw[qA,qB v,qK]at this;exact this
 refine⟨λ_=>a3,λh=>?_,λ⟨⟨V,O⟩,h3⟩=>⟨⟨qH _,qI _,V,h3,O,λi v=>Z⟩,λx ⟨x0,x1,_,_,_,x5⟩=>⟨λL=>⟨x0,L,a5 _ (getD_mem (l:=b) (i:=x.toNat) (d:=[]) Z),λX=>?_,λX=>?_⟩,λL=>?_⟩⟩⟩;rw[eF];rcases h with(h|h)|h;rw[h];rfl;have:oP (u,j,g,e,r,f) (p1,p2,nx,b)=false:=by
  unfold oP;rw[vF h];rfl
 rw[this];simp;rw[h];simp;refine(kD.2 λT=>?_).symm;rw[eF]at T;simp only[qC]at T;have:=(eD O).1 T.2.2 x.toNat Z;rw[X]at this;cases this;refine⟨au Z,x+1,⟨Z,by show x+1<=(b.length:Int);omega,V,h3,O,λi v=>?_⟩,rfl,Z⟩;by_cases h5:(i:Int)<x;exact x5 i h5;have:i=x.toNat:=by omega
 subst this;exact X;rw[eF,V,h3,(eD O).2 λi v=>x5 i Z];rfl
def Vj(x:Int):∀l:Li,KD x l<=l.length
 |[]=>qM _|a::l=>by
  unfold KD;split;exact wU _;exact qCg (Vj x l)
def aAd{x:Int}:∀{l:Li}{k:Nat},k<l.length->l.getD k 0=x->KD x l<=k
 |[],k,h,_=>by simp at h|a::l,k,h,e=>by
  unfold KD;split;exact wU _;cases k with
  |zero=>contradiction|succ k=>exact qCg (aAd (by simpa using h) (by simpa using e))
def aAc{x:Int}:∀{l:Li}{k:Nat},k<=KD x l->l.getD k 0≠x->k<l.length->k+1<=KD x l
 |[],k,_,_,h=>by simp at h|a::l,k,h,e,f=>by
  unfold KD at h ⊢;split;rename_i b;rw[if_pos b]at h;have:k=0:=Z;subst this;exact absurd b e;rename_i b;rw[if_neg b]at h;cases k with
  |zero=>omega|succ k=>exact qCg (aAc Z (by simpa using e) (by simpa using f))
def aBr:eO 32 CS:=ae λ((l:Li),(x:Int),_)=>by
 refine zE (A:=(lvA [(2,[0,1,4,5,7,8])] (aKD l x))) (p:=(aFM l->(∃b,Y8 l x b/\Q2 l x (Df l) (0=b/\True))/\∀(b:Int),let e:=Dn b (Df l);let f:=Eb x (Du l (Dc b) 0);let g:=b+1;Y8 l x b->(e->0<=b/\b<Df l/\(f->b=aAe l x/\True)/\(f=false->inR IntKind.i64 g/\∃y,Y8 l x y/\(Q2 l x (Df l) (g=y/\True))/\Dc (Df l-y)<Dc (Df l-b)))/\(e=false->(-1:Int)=aAe l x/\True))) WT λu=>?_;refine Z9 ?_;unfold aFM at u;refine⟨⟨Z,Z,Z⟩,λk ⟨j,G,z⟩=>⟨λg=>⟨j,g,λv=>?_,λf=>⟨au Z,k+1,⟨Z,Z,?_⟩,rfl,Z⟩⟩,λr=>?_⟩⟩;have h:k.toNat<l.length:=by omega
 have i:=aAd h v.symm;have e:KD x l=k.toNat:=Z;unfold aAe;rw[e,if_pos h];omega;have i:=aAc (x:=x) (l:=l) (k:=k.toNat) Z (λe=>f e.symm) Z;omega;have i:=Vj x l;unfold aAe;rw[if_neg Z]
def aJg(h:pF):ai yv G0 aKm:=af aBN<|af aBr (aGl h)
abbrev y7:=aj [.row N,.row Pl,.val I] (λ(_,p,_,_)=>jh p) λ(n,p,o,_)=>.tup [.dat R (gsF n p o),.dat R (ofF n p o)]
def XG(h:pF):eO 9 y7:=ae λ(((V,L,G,f,O,T):Net),((p1,p2,nx,r):Plan),(o:Int),_)=>by
 refine zF (c:=aKP) (A:=(lvA [(6,[2,6,7,8,9,10,11,45,46,47])] (aKG (V,L,G,f,O,T) (p1,p2,nx,r) o))) (aJg h) gC hm (p:=let b:=(p1,p2,nx,r);let c2:=Dn o 0;let A:=Dj c2;let g:=Df f;let c5:=Dz c2 true (Ed o g);let v:=Dj c5;let e:=(V,L,G,f,O,T);let c8:=Dz c5 true (Dj (aS e));let z:=Dj c8;let c10:=Dz c8 true (Dj (jg e b));let c11:=gsF e b o;let c12:=ofF e b o;let c13:=[(-1:Int)];let c14:=rZ b o;let h:=1+Dk c14;let j:=Dc g;let c17:=Du nx (Dc o) [];let X:=Df c17;let i:=Ee c13 c14;true/\(jh b->L4 A (Q4 A ((Dh true A->A)/\L4 v ((v->True)/\L4 v ((Dh true v->v)/\L7 z ((z->jh b)/\L4 z ((Dh true z->z)/\(c10->c11=Dt Int/\c12=Dt Int/\True)/\(c10=false->W8 b o/\Dk c13=1/\(h*8)<=140737488355328/\h<=9223372036854775807/\0<=g/\(Ea 8*g)<=281474976710656/\g<=9223372036854775807/\0<=o/\o<Df nx/\(∃x,gTo e b o x/\T4 o Z0 Z0 h j c17 X (0=x/\i=i/\Et g (0:Int)=Uz e b o x/\True))/\∀(x:Int),let c20:=Uz e b o x;let u:=Dk c20;let c22:=x+1;let c23:=Du c17 (Dc x) 0;let c24:=Eb c23 (-1);
  gTo e b o x->(Dn x X->0<=x/\x<X/\(Eb x o->u=j/\0<=x/\x<Ea u/\u=j/\inR .i64 c22/\∃y,gTo e b o y/\(T4 o Z0 Z0 h j c17 X (c22=y/\i=i/\Em c20 (Dc x) 0=Uz e b o y/\True))/\Dc (g-y)<Dc (g-x))/\(Eb x o=false->(c24->u=j/\0<=x/\x<Ea u/\u=j/\inR IntKind.i64 c22/\∃y,gTo e b o y/\(T4 o Z0 Z0 h j c17 X (c22=y/\i=i/\Em c20 (Dc x) (-1)=Uz e b o y/\True))/\Dc (g-y)<Dc (g-x))/\(c24=false->aFM i/\Dk i=h/\u=j/\0<=x/\x<Ea u/\u=j/\inR .i64 c22/\∃y,gTo e b o y/\(T4 o Z0 Z0 h j c17 X (c22=y/\i=i/\Em c20 (Dc x) (aAe i c23)=Uz e b o y/\True))/\Dc (g-y)<Dc (g-x))))/\(Dn x X=false->Dk i=h/\i=c11/\u=j/\c20=c12/\True)))))))))) ⟨rfl,λhf=>?_⟩
 refine Z9 ?_;have ok:gOk (V,L,G,f,O,T) (p1,p2,nx,r) o=true↔((0<=o/\o<f.length)/\aS (V,L,G,f,O,T)=true)/\jg (V,L,G,f,O,T) (p1,p2,nx,r)=true:=by
  unfold gOk cY;rw[qC,qC,qE]
 refine⟨λ_=>hf,λh=>?_,λ⟨⟨⟨h0,h1⟩,hs⟩,hfm⟩=>?_⟩;have hn:¬gOk (V,L,G,f,O,T) (p1,p2,nx,r) o=true:=λg=>by
  obtain⟨⟨⟨g0,g1⟩,g2⟩,g3⟩:=ok.1 g;rcases h with((h|h)|h)|h;omega;omega;rw[g2]at h;cases h;rw[g3]at h;cases h
 exact⟨if_neg hn,if_neg hn⟩;have o0:0<=o:=Z;have o1:o<f.length:=Z;have hg:gOk (V,L,G,f,O,T) (p1,p2,nx,r) o=true:=ok.2 ⟨⟨⟨o0,o1⟩,hs⟩,hfm⟩;have ht:l8 (V,L,G,f,O,T) nx=true:=(fF hfm).2.1;obtain⟨q1,_⟩:=jM V L G f O T hs;obtain⟨r1,r2,_⟩:=dJ V L G f O T ht o0 o1 o0 o1;have r2:((cj (p1,p2,nx,r) o).length:Int)=f.length:=r2;have gl:=MF (p1,p2,nx,r) o;have eR:nx.getD o.toNat []=cj (p1,p2,nx,r) o:=rfl;rw[eR];have len:∀{k:Int},0<=k->k<=f.length->(Uz (V,L,G,f,O,T) (p1,p2,nx,r) o k).length=f.length:=λa b=>by
  have:=vB (g:=Vm (p1,p2,nx,r) o) (z:=0) (l:=f.length) (k:=_) ⟨a,b⟩;rw[qR]at this;exact this
 have nxt_:∀{k v:Int},0<=k->k<f.length->v=Vm (p1,p2,nx,r) o k->(Uz (V,L,G,f,O,T) (p1,p2,nx,r) o k).set k.toNat v=Uz (V,L,G,f,O,T) (p1,p2,nx,r) o (k+1):=λa b e=>by
  rw[e];exact EK a b
 have e0:List.replicate f.length (0:Int)=Uz (V,L,G,f,O,T) (p1,p2,nx,r) o 0:=by
  have:=pW (g:=Vm (p1,p2,nx,r) o) (z:=(0:Int)) (l:=f.length);rw[qR]at this;exact this
 have e1:Uz (V,L,G,f,O,T) (p1,p2,nx,r) o f.length=ofF (V,L,G,f,O,T) (p1,p2,nx,r) o:=by
  unfold ofF;rw[if_pos hg];have:=sg (g:=Vm (p1,p2,nx,r) o) (z:=(0:Int)) (l:=f.length);rw[qR]at this;exact this
 have e2:gsF (V,L,G,f,O,T) (p1,p2,nx,r) o=-1::rZ (p1,p2,nx,r) o:=if_pos hg;refine⟨⟨o0,by show o<(nx.length:Int);omega,Z,gF V L G f O T hs ht o0 o1⟩,rfl,Z,Z,Z,Z,Z,o0,Z,⟨0,⟨hg,Z,by show(0:Int)<=(f.length:Int);omega⟩,rfl,e0⟩,λx ⟨_,x0,x1⟩=>⟨λhlt=>⟨x0,hlt,λhe=>?_,λhne=>⟨λhl=>?_,λhl=>?_⟩⟩,λhge=>?_⟩⟩;have hx:x<f.length:=by omega
 have hl:=len x0 x1;exact⟨hl,x0,Z,hl,au Z,x+1,⟨hg,Z,by show x+1<=(f.length:Int);omega⟩,⟨rfl,nxt_ x0 hx (by unfold Vm;rw[if_pos he])⟩,Z⟩;have hx:x<f.length:=by omega
 have hl':=len x0 x1;exact⟨hl',x0,Z,hl',au Z,x+1,⟨hg,Z,by show x+1<=(f.length:Int);omega⟩,⟨rfl,nxt_ x0 hx (by unfold Vm;rw[if_neg hne,if_pos hl])⟩,Z⟩;have hx:x<f.length:=by omega
 have hl':=len x0 x1;exact⟨by unfold aFM;simp only[qF,qL];omega,by simp[qBh],hl',x0,Z,hl',au Z,x+1,⟨hg,Z,by show x+1<=(f.length:Int);omega⟩,⟨rfl,nxt_ x0 hx (by unfold Vm;rw[if_neg hne,if_neg hl];rfl)⟩,Z⟩;have x1:x<=(f.length:Int):=x1;have hx:x=f.length:=Z;rw[hx];exact⟨by simp[qBh],by rw[e2];rfl,len Z Z,e1⟩
end Go.Eng.Sv
