/- PeCoFf PeCoGf PeCoHf PeCoIf PeCoJf PeH19 PeH20 -/
import Derived.Test.YtdeeijhmpjbfcaaGreatDoorECMatE
import Derived.Test.YtdeeijhmpjbfcaaGreatDoorECMatH
import Derived.ChangeSame
import Derived.Carry
import Derived.Deep.Slices
import Derived.ChangeArms
import Derived.OpenShut
set_option linter.all false
set_option maxRecDepth 100000
noncomputable section
namespace Go.Eng.Sv
open Go.Proofs
open Go.Eng.Mp (aI b9 oN bz upto at2 ou dF gy pw)
def aGQ(n:Net)(nx:Lj)(k o d cut:Int):Prop:=cZ n=true/\Az n nx o d cut/\uG n k
def ndA(n:Net)(nx:Lj)(o d cut:Int):Int:=((gA n nx o d cut).getD ((gA n nx o d cut).length-1) (0,0,0,0)).2.1
def ndF(n:Net)(nx:Lj)(k o d cut:Int):Int:=if ib n nx o d cut≠0 then -1 else if WG n k d (ndA n nx o d cut)≠0 then -1 else jd (aB n d).2.1 (aB n d).2.2 (bE (aB n d).1 cut) (bE (aB n d).1 (aAD n k d (ndA n nx o d cut)))
def aDd(n:Net)(k o d:Int):Int:=dE (aB n o).1 d (bC n k).2.1
def aDW(n:Net)(k o a b d:Int):Bool:=aX (aB n o).2.1 (aB n o).2.2 d&&decide (1440*a<=aDd n k o d)&&decide (aDd n k o d<1440*b)
def na(n:Net)(k o a b d:Int):Li:=(((List.range (d-(a-2)).toNat).map λi:Nat=>a-2+(i:Int)).filter λx=>aDW n k o a b x).map (aDd n k o)
def iN(n:Net)(k o a b:Int):Li:=na n k o a b (b+3)
def Uh(n:Net)(k o a b:Int):Prop:=jm n o/\uG n k/\0<=a/\a<b/\b<=600
def Ie(n:Net)(k o a b d:Int):Prop:=Uh n k o a b/\a-2<=d/\d<=b+3
def uY(n:Net)(nx:Lj)(k o d a b i:Int):Bool:=((iN n k o a b).take i.toNat).any λx=>decide (ndF n nx k o d x<0)
def lM(n:Net)(nx:Lj)(k o d a b i:Int):Int:=(((iN n k o a b).take i.toNat).map (ndF n nx k o d)).foldl max (-1)
def D9(n:Net)(nx:Lj)(k o d a b:Int):Int:=if uY n nx k o d a b (iN n k o a b).length=true then -1 else lM n nx k o d a b (iN n k o a b).length
def qn(n:Net)(nx:Lj)(k o a b j:Int):Li:=(List.range j.toNat).map λd:Nat=>D9 n nx k o d a b
def sh(n:Net)(nx:Lj)(k a b j:Int):Lj:=(List.range j.toNat).map λo:Nat=>qn n nx k o a b n.2.2.2.1.length
def uO(n:Net)(nx:Lj)(a b j:Int):List (Lj):=(List.range j.toNat).map λk:Nat=>sh n nx k a b n.2.2.2.1.length
def HY(n:Net)(nx:Lj)(a b:Int):List (Lj):=if AI n nx a b=true then uO n nx a b n.2.2.2.2.2.length else[]
def aAP(n:Net)(nx:Lj):Prop:=cZ n=true/\du nx
def tb1(n:Net)(nx:Lj)(a b k:Int):Prop:=cZ n=true/\AI n nx a b=true/\0<=k/\k<=n.2.2.2.2.2.length
def tb2(n:Net)(nx:Lj)(a b k o:Int):Prop:=tb1 n nx a b k/\k<n.2.2.2.2.2.length/\0<=o/\o<=n.2.2.2.1.length
def tb3(n:Net)(nx:Lj)(a b k o d:Int):Prop:=tb2 n nx a b k o/\o<n.2.2.2.1.length/\0<=d/\d<=n.2.2.2.1.length
def tb4(n:Net)(nx:Lj)(a b k o d i:Int):Prop:=tb3 n nx a b k o d/\d<n.2.2.2.1.length/\0<=i/\i<=(iN n k o a b).length
def dsP(n:Net)(t:List (Lj)):Prop:=jh (0,0,[],t)
def dsR(m:Int)(t:Lj):Bool:=decide ((t.length:Int)=m)&&t.all λr=>decide ((r.length:Int)=m)
def dsF(n:Net)(t:List (Lj)):Bool:=decide ((t.length:Int)=n.2.2.2.2.2.length)&&t.all (dsR n.2.2.2.1.length)
def aFS(n:Net)(t:List (Lj))(k:Int):Prop:=(0<=k/\k<=t.length/\(t.length:Int)=n.2.2.2.2.2.length)/\(t.take k.toNat).all (dsR n.2.2.2.1.length)=true
def Zn(n:Net)(t:List (Lj))(k j:Int):Prop:=aFS n t k/\k<t.length/\((t.getD k.toNat []).length:Int)=n.2.2.2.1.length/\0<=j/\j<=(t.getD k.toNat []).length/\((t.getD k.toNat []).take j.toNat).all (λr=>decide ((r.length:Int)=n.2.2.2.1.length))=true
def AS(n:Net)(a b:Int):Bool:=lX a b&&aS n
def aD3(n:Net)(nx:Lj)(e to b:Int):Ann:=Z8 2 (List Stop×Int×Int) (RJ n nx e to b) (λs x=>dD (put s [(12,.buf 100 (Dk x.1)),(2,.dat I x.2.1),(4,.dat I x.2.2)]) 100 (.buf 162 Stp x.1 [])) λx=>Dc (Di 20 (Df x.1))
abbrev C3:=aj [.row N,.val M,.val I,.val I,.val I] (λ(n,nx,o,b,t,_)=>WX n nx o b t) λ(n,nx,o,b,t,_)=>.tup [.dat (.sl Stp) (gA n nx o b t),.dat I (ib n nx o b t)]
def KE4:Kt:=kOr 118 uh <|
 kOr 156 C3 KE3
def aIj(n:Net)(k o a b:Int):Ann:=Z8 4 Int (Ie n k o a b) (λs d=>dD (put s [(13,.dat I d),(12,.buf 100 (Dk (na n k o a b d)))]) 100 (.buf 3 I (na n k o a b d) [])) λd=>Dc (Di (Dq b 3) d)
def dsA(n:Net)(t:List (Lj)):Ann:=⟨λb s=>match b with
 |4=>some {α:=Int,inv:=λk=>aFS n t k,st:=λk=>put s [(5,.dat I k)],μ:=λk=>Dc (Di (Df t) k)}|9=>match s.sig.T 5 with
  |.dat (.int .i64) k=>some {α:=Int,inv:=λj=>Zn n t k j,st:=λj=>put s [(6,.dat I j)],μ:=λj=>Dc (Di (Df (Du t (Dc k) [])) j)}|_=>none
 |_=>none,λ_ _=>none,λ_ _=>none⟩
def aIn(b e:Int):Ann:=Z8 3 Int (If b e) (λs k=>put s [(6,.dat I k),(5,.dat I (mg b k))]) λk=>Dc (Di e k)
abbrev ud:=aj [.row N,.val M,.val I,.val I,.val I,.val I] (λ(n,nx,k,o,d,c,_)=>aGQ n nx k o d c) λ(n,nx,k,o,d,c,_)=>.dat I (ndF n nx k o d c)
abbrev zb:=aj [.row N,.val I,.val I,.val I,.val I] (λ(n,k,o,a,b,_)=>Uh n k o a b) λ(n,k,o,a,b,_)=>.dat R (iN n k o a b)
abbrev I7:=aj [.row N,.val (.sl M)] (λ(n,t,_)=>dsP n t) λ(n,t,_)=>.dat .bool (dsF n t)
abbrev C6:=aj [.val I,.val I] (λ(b,e,_)=>Yo b e) λ(b,e,_)=>.dat I (mg b e)
abbrev C7:=aj [.row N,.val I,.val I] (λ(n,_)=>cZ n=true) λ(n,a,b,_)=>.dat .bool (AS n a b)
def KE5:Kt:=kOr 113 ud <|
 kOr 54 zb <|
 kOr 127 I7 <|
 kOr 114 C6 <|
 kOr 25 C7 KE4
def aD9(n:Net)(nx:Lj)(a b:Int):Ann:=⟨λe s=>match e with
 |5=>some {α:=Int,inv:=λk=>tb1 n nx a b k,st:=λk=>dD (put s [(10,.dat I k),(9,.buf 100 (Dk (uO n nx a b k)))]) 100 (.buf 30 (.sl (.sl I)) (uO n nx a b k) []),μ:=λk=>Dc (Di (Df n.2.2.2.2.2) k)}|9=>match s.sig.T 10 with
  |.dat (.int .i64) k=>some {α:=Int,inv:=λo=>tb2 n nx a b k o,st:=λo=>dD (put s [(12,.dat I o),(11,.buf 101 (Dk (sh n nx k a b o)))]) 101 (.buf 37 (.sl I) (sh n nx k a b o) []),μ:=λo=>Dc (Di (Df n.2.2.2.1) o)}|_=>none
 |14=>match s.sig.T 10,s.sig.T 12 with
  |.dat (.int .i64) k,.dat (.int .i64) o=>some {α:=Int,inv:=λd=>tb3 n nx a b k o d,st:=λd=>dD (put s [(15,.dat I d),(13,.buf 102 (Dk (qn n nx k o a b d)))]) 102 (.buf 3 I (qn n nx k o a b d) []),μ:=λd=>Dc (Di (Df n.2.2.2.1) d)}|_,_=>none
 |19=>match s.sig.T 10,s.sig.T 12,s.sig.T 15 with
  |.dat (.int .i64) k,.dat (.int .i64) o,.dat (.int .i64) d=>some {α:=Int,inv:=λi=>tb4 n nx a b k o d i,st:=λi=>put s [(18,.dat I i),(16,.dat I (lM n nx k o d a b i)),(17,.dat .bool (uY n nx k o d a b i))],μ:=λi=>Dc (Di (Df (iN n k o a b)) i)}|_,_,_=>none
 |_=>none,λe s=>match e with
 |27=>some (frz [102] s)|28=>some (frz [101] s)|_=>none,λ_ _=>none⟩
def qT{w:List Bool}{h:Li}{d j e:Int}(b:cD w h d j=[])(g:d<=e)(f:e<d+j):aX w h e≠true:=by
 unfold cD at b;rw[qBd]at b;exact b e (vK.2 ⟨(e-d).toNat,qW.2 Z,Z⟩)
def sA(w:List Bool)(h:Li)(d:Int):∀k:Nat,cD w h d k=[]\/∃j:Int,0<=j/\j<k/\cD w h d j=[]/\aX w h (d+j)=true
 |0=>.inl rfl|k+1=>by
  rcases sA w h d k with g|⟨j,b,j1,g1,g2⟩;by_cases hw:aX w h (d+k)=true;exact .inr ⟨k,Z,Z,g,hw⟩;left;rw[show((k+1:Nat):Int)=(k:Int)+1 by omega,jz Z,g,if_neg hw];rfl;exact .inr ⟨j,b,Z,g1,g2⟩
def aFU(x:LC)(f b:LB)(u:Lo)(i:Ll)(r:Lk){l t:Int}(hs:aS (x,f,b,u,i,r)=true)(hl:RL (x,f,b,u,i,r) l):dP (x,f,b,u,i,r) l t=pS (x,f,b,u,i,r) l t/\gi (x,f,b,u,i,r) l t=uW (x,f,b,u,i,r) l t:=by
 obtain⟨X,l0,l1⟩:=id hl;have hu:bO (x,f,b,u,i,r) l [t]=bS t:=by
  unfold bO;rw[hs,show cY l (((x,f,b,u,i,r):Net).2.2.2.2.1.length:Int)=true from ot.2 ⟨l0,l1⟩];simp
 unfold dP gi pS uW;rw[hu];cases hk:bS t with
 |false=>exact⟨rfl,rfl⟩|true=>
  have G:=FY x f b u i r (line:=l) ⟨X,l0,l1⟩;obtain⟨m0,m1⟩:0<=yb (x,f,b,u,i,r) l/\yb (x,f,b,u,i,r) l<=1439:=id G;have A:∀d,aV (x,f,b,u,i,r) l d=d*1440+yb (x,f,b,u,i,r) l-(aB (x,f,b,u,i,r) (bT (x,f,b,u,i,r) l)).1:=λ_=>rfl;have hc:dQ (x,f,b,u,i,r) l=aB (x,f,b,u,i,r) (bT (x,f,b,u,i,r) l):=rfl;have hD:∀v,isDep (x,f,b,u,i,r) l v->aX (aB (x,f,b,u,i,r) (bT (x,f,b,u,i,r) l)).2.1 (aB (x,f,b,u,i,r) (bT (x,f,b,u,i,r) l)).2.2 (bE (aB (x,f,b,u,i,r) (bT (x,f,b,u,i,r) l)).1 v)=true/\v=bE (aB (x,f,b,u,i,r) (bT (x,f,b,u,i,r) l)).1 v*1440+yb (x,f,b,u,i,r) l-(aB (x,f,b,u,i,r) (bT (x,f,b,u,i,r) l)).1:=λv h=>⟨h.1,(nH h).symm⟩;rw[if_pos rfl,if_pos rfl,if_pos rfl,if_pos rfl];unfold lS k7;have y:d0F (aB (x,f,b,u,i,r) (bT (x,f,b,u,i,r) l)) (yb (x,f,b,u,i,r) l) t=if yb (x,f,b,u,i,r) l<(t+(aB (x,f,b,u,i,r) (bT (x,f,b,u,i,r) l)).1)%1440 then(t+(aB (x,f,b,u,i,r) (bT (x,f,b,u,i,r) l)).1)/1440+1 else(t+(aB (x,f,b,u,i,r) (bT (x,f,b,u,i,r) l)).1)/1440:=rfl;unfold jf mS;generalize hcc:aB (x,f,b,u,i,r) (bT (x,f,b,u,i,r) l)=c at *;obtain⟨z,w,h⟩:=c;generalize hd0:d0F (z,w,h) (yb (x,f,b,u,i,r) l) t=L at *;generalize yb (x,f,b,u,i,r) l=m at *;simp only at y hD A ⊢;have hb:t<=L*1440+m-z/\L*1440+m-z<t+1440:=by split at y<;>omega
  rcases sA w h L 60 with g|⟨j,j0,T,g1,g2⟩;obtain⟨e1,e2⟩:=FP g;have hf:bH (x,f,b,u,i,r) l t=none:=Pg G λv v1 v2 V=>by
   obtain⟨O,k2⟩:=hD v V;exact qT g (e:=bE z v) Z Z O
  rw[hf,e2];exact⟨rfl,rfl⟩;have T:j<60:=T;obtain⟨e1,e2⟩:=FQ j0 T g1 g2;have hf:bH (x,f,b,u,i,r) l t=some (aV (x,f,b,u,i,r) l (L+j)):=vn G (by rw[A];omega) (by rw[A];omega) (rj G (by rw[hc];exact g2)) λv v1 v2 V=>by
   obtain⟨O,k2⟩:=hD v V;rw[A]at v2;exact qT g1 (e:=bE z v) Z Z O
  rw[hf,e2,e1];exact⟨A _,rfl⟩
def aBC:eO 156 C3:=ae λ(((r,g,f,j,b,i):Net),(nx:Lj),(o:Int),(to:Int),(t:Int),_)=>by
 refine zE (A:=(lvA [(2,[1,2,3,4,5,10,11,12,13,14,15])] (aD3 (r,g,f,j,b,i) nx o to t))) (p:=let e:=(r,g,f,j,b,i);let h:=gA e nx o to t;let u:=ib e nx o to t;let c4:=(ByteArray.mk #[],(0:Int),(0:Int),(0:Int),(0:Int),(0:Int));(WX e nx o to t->(∃(x:List Stop×Int×Int),let A:=x.2;let z:=x.1;RJ e nx o to t x/\nx=nx/\o=A.1/\to=to/\t=A.2/\e=e/\Dk z=0/\z=Dt (Int×Int×Int×Int)/\z=Dt (Int×Int×Int×Int)/\True)/\∀(x:List (Int×Int×Int×Int)×Int×Int),let L:=x.2;let c8:=L.1;let T:=Dw c8 to;let c10:=Du nx (Dc c8) [];let G:=Du c10 (Dc to) 0;let V:=Dn G 0;let v:=L.2;let X:=aF e c8 v;let c15:=gi e G X;let c16:=Dw c15 0;let c17:=x.1;let O:=Dk c17;let c19:=dP e G X;let c20:=[(c8,v,c19,G)];let c21:=O+Dk c20;let c22:=Ee c17 c20;let c23:=Ed (Int.ofNat c21) 20;let c24:=(Du b (Dc G) c4).2.2;let c25:=c19+c24.2.2.1;let c26:=[(to,v,(-1:Int),(-1:Int))];let c27:=O+Dk c26;let c28:=Ee c17 c26;RJ e nx o to t x->(T->0<=c8/\c8<Df nx/\0<=to/\to<Df c10/\(V->h=Dt (Int×Int×Int×Int)/\170=u/\True)/\(V=false->iq e c8 v/\cZ e/\(c16->h=Dt (Int×Int×Int×Int)/\c15=u/\True)/\(c16=false->O=O/\(c21*32)<=140737488355328/\c21<=9223372036854775807/\Dk c22=c21/\(c23->h=Dt (Int×Int×Int×Int)/\170=u/\True)/\(c23=false->0<=G/\G<Df b/\0<=G/\G<Df b/\inR .i64 c25/\∃(y:List Stop×Int×Int),let c29:=y.2;let c30:=y.1;RJ e nx o to t y/\(nx=nx/\c24.1=c29.1/\to=to/\c25=c29.2/\e=e/\c21=Dk c30/\c22=c30/\True)/\Dc (20-Df c30)<Dc (20-Df c17)))))/\(T=false->O=O/\(c27*32)<=140737488355328/\c27<=9223372036854775807/\Dk c28=c27/\c28=h/\0=u/\True))) aJe λ⟨hf,hp⟩=>?_
 refine Z9 ?_;refine⟨⟨([],o,t),⟨hp,by simp,(FG 19 o t).symm⟩,rfl,rfl,rfl,rfl,rfl⟩,?_⟩;rintro⟨d,u,v⟩ hx;obtain⟨⟨hs,ht,u0,u1,o0,o1,v0,v1⟩,hd,hw⟩:=id hx;simp only at u0 u1 o0 o1 v0 v1 hd hw ⊢;have hno:=aK r g f j b i hs;obtain⟨c1,c2,c3⟩:=dJ r g f j b i ht u0 u1 o0 o1;have ec:(nx.getD u.toNat []).getD to.toNat 0=nxt nx u to:=rfl;rw[ec];generalize L:nxt nx u to=T at *;have hoff:jm (r,g,f,j,b,i) u:=⟨hno,u0,u1⟩;have hW:ib (r,g,f,j,b,i) nx o to t=(BL d (lj (r,g,f,j,b,i) nx to (19-d.length) u v)).2:=by unfold ib;rw[hw]
 have hL:gA (r,g,f,j,b,i) nx o to t=(BL d (lj (r,g,f,j,b,i) nx to (19-d.length) u v)).1:=by unfold gA;rw[hw]
 have X:∀e:Int,e≠0->lj (r,g,f,j,b,i) nx to (19-d.length) u v=([],e)->gA (r,g,f,j,b,i) nx o to t=[]/\e=ib (r,g,f,j,b,i) nx o to t:=λe he h=>by
  rw[hW,hL,h];unfold BL;rw[if_neg he];exact⟨rfl,rfl⟩
 have ha1:∀z:Stop,(d++[z]).length=d.length+1:=λz=>by simp
 refine⟨λhne=>⟨u0,by rw[c1];exact u1,o0,by rw[c2];exact o1,λhm=>?_,λhm=>?_⟩,λhe=>?_⟩;have hm1:T=-1:=Classical.byContradiction λh=>by have:=(c3 h).1.1;omega
 exact X 170 (by decide) (lu _ hne (L.trans hm1));have hm':nxt nx u to≠-1:=by rw[L];omega
 obtain⟨⟨l0,l1⟩,lf⟩:=c3 Z;have V:RL (r,g,f,j,b,i) T:=⟨hno,l0,l1⟩;obtain⟨r1,r2⟩:=lI r g f j b i (t:=v) hoff;obtain⟨eD,eE⟩:=aFU r g f j b i (t:=aF (r,g,f,j,b,i) u v) hs V;rw[eD,eE];refine⟨⟨hoff,Z,Z⟩,hf,λhz=>?_,λhz=>⟨by simp only[qL];omega,by simp only[qL];omega,by rw[ha1];simp,λh20=>?_,λh20=>?_⟩⟩;have:=po (n:=(r,g,f,j,b,i)) (nx:=nx) (to:=to) (o:=u) (t:=v) (19-d.length) hne hm' (by rw[L];exact hz);rw[L]at this;exact X _ hz this;simp only[qL]at h20;refine X 170 (by decide) ?_;rw[show 19-d.length=0 by omega];exact nR hne hm' (by rw[L];exact hz);simp only[qL]at h20;obtain⟨b1,b2,b3,b4⟩:=oD r g f j b i V hz;obtain⟨g1,g2,g3,g4,g5,g6,g7,g8⟩:=yd r g f j b i V;have et:(b.getD T.toNat (⟨#[]⟩,0,0,0,0,0)).2.2.2.2.1=ix (r,g,f,j,b,i) T:=rfl;have eo:(b.getD T.toNat (⟨#[]⟩,0,0,0,0,0)).2.2.1=x9 (r,g,f,j,b,i) T:=rfl;rw[et,eo];have hnx:=nQ (n:=(r,g,f,j,b,i)) (nx:=nx) (to:=to) (o:=u) (t:=v) (19-(d.length+1)) hne hm' (by rw[L];exact hz);rw[show 19-(d.length+1)+1=19-d.length by omega,L]at hnx;refine⟨l0,l1,l0,l1,au Z,(d++[(u,v,pS (r,g,f,j,b,i) T (aF (r,g,f,j,b,i) u v),T)],x9 (r,g,f,j,b,i) T,pS (r,g,f,j,b,i) T (aF (r,g,f,j,b,i) u v)+ix (r,g,f,j,b,i) T),⟨⟨hs,ht,g3,g4,o0,o1,by simp only;omega,by simp only;omega⟩,by rw[ha1];omega,?_⟩,⟨rfl,rfl,by rw[ha1];rfl,rfl⟩,by rw[ha1];omega⟩;show lj (r,g,f,j,b,i) nx to 19 o t=_;rw[hw,hnx,va];simp
 have:=Bf (n:=(r,g,f,j,b,i)) (nx:=nx) (to:=to) (o:=u) (t:=v) (19-d.length) he;rw[hW,hL,this];exact⟨by simp only[qL];omega,by simp only[qL];omega,by rw[ha1];rfl,by rw[FD rfl,he],by rw[FD rfl]⟩
def aDZ:ai yv G0 KE4:=af S7<|af aBC aJe
def S3:eO 113 ud:=ae λ(((e,h,f,b,i,j):Net),(nx:Lj),(k:Int),(o:Int),(d:Int),(cut:Int),_)=>by
 refine zE (A:=az) (p:=let g:=(e,h,f,b,i,j);let y:=Dw (ib g nx o d cut) 0;let v:=ndF g nx k o d cut;let z:=gA g nx o d cut;let A:=Df z;let u:=A-1;let O:=(Du z (Dc u) ((0:Int),(0:Int),(0:Int),(0:Int))).2.1;let c8:=Dw (WG g k d O) 0;let x:=(Du b (Dc d) (ByteArray.mk #[],(0:Int),(0:Int),(0:Int),(0:Int),(0:Int),Dt ByteArray)).2.2.1;let r:=Du e (Dc x) ((0:Int),Dt Bool,Dt Int);let T:=aAD g k d O;let L:=bE r.1 cut;let G:=bE r.1 T;(aGQ g nx k o d cut->WX g nx o d cut/\(y->(-1:Int)=v/\True)/\(y=false->inR .i64 u/\0<=u/\u<A/\cZ g/\(c8->(-1:Int)=v/\True)/\(c8=false->0<=d/\d<Df b/\0<=x/\x<Df e/\Q3 1 0 1 0 (dK r.1 r.2.1 r.2.2 cut/\L5 1 0 (dK r.1 r.2.1 r.2.2 T/\L5 1 0 (ZE r L G/\jd r.2.1 r.2.2 L G=v/\True))))))) aDZ λ⟨hf,T,O⟩=>?_;obtain⟨hs,ht,u0,u1,X,V,v0,v1⟩:=id T;have z:=aK e h f b i j hs;have hd:jm (e,h,f,b,i,j) d:=⟨z,X,V⟩;obtain⟨q1,q2,y,_⟩:=fJ e h f b i j hd;obtain⟨_,m0,m1⟩:=nJ e h f b i j z O;obtain⟨⟨z1,z2,_,_⟩,_⟩:=bD.1 y;have eC:e.getD (b.getD d.toNat (⟨#[]⟩,0,0,0,0,0,[])).2.2.1.toNat (0,[],[])=aB (e,h,f,b,i,j) d:=rfl;refine Z9 ?_;simp only[qc,eC];refine⟨⟨hf,T⟩,λx=>?_,λx=>?_⟩;unfold ndF;rw[if_pos x];obtain⟨w1,w2,w3,w4⟩:(gA (e,h,f,b,i,j) nx o d cut).length<=20/\gA (e,h,f,b,i,j) nx o d cut≠[]/\cut<=vA (e,h,f,b,i,j) (pN nx) o d cut/\vA (e,h,f,b,i,j) (pN nx) o d cut<=2200000:=r7 19 o cut T x;have hlen:0<(gA (e,h,f,b,i,j) nx o d cut).length:=qCp.2 w2;have eI:((gA (e,h,f,b,i,j) nx o d cut).length-1:Int).toNat=(gA (e,h,f,b,i,j) nx o d cut).length-1:=Z
 have eA:((gA (e,h,f,b,i,j) nx o d cut).getD ((gA (e,h,f,b,i,j) nx o d cut).length-1) (0,0,0,0)).2.1=ndA (e,h,f,b,i,j) nx o d cut:=rfl;rw[eI,eA];refine⟨au Z,Z,Z,hf,λv=>?_,λv=>?_⟩;unfold ndF;rw[if_neg (λg=>g x),if_pos v];have u:Ba (e,h,f,b,i,j) k d (ndA (e,h,f,b,i,j) nx o d cut)=true:=by
  unfold WG at v;split at v;assumption;cases v
 obtain⟨_,_,⟨t0,t1⟩,_⟩:=M5.1 u;have eD:aAD (e,h,f,b,i,j) k d (ndA (e,h,f,b,i,j) nx o d cut)=jf (aB (e,h,f,b,i,j) d) (bC (e,h,f,b,i,j) k).2.2 (aF (e,h,f,b,i,j) d (ndA (e,h,f,b,i,j) nx o d cut)):=if_pos u;have eE:mS (aB (e,h,f,b,i,j) d) (bC (e,h,f,b,i,j) k).2.2 (aF (e,h,f,b,i,j) d (ndA (e,h,f,b,i,j) nx o d cut))=0:=by
  unfold WG at v;rw[if_pos u]at v;exact v
 obtain⟨r1,r2⟩:=lI e h f b i j (t:=ndA (e,h,f,b,i,j) nx o d cut) hd;obtain⟨b1,b2⟩:=mr y eE m0 m1;rw[<- eD]at b1 b2;refine⟨X,V,q1,q2,⟨y,Z,Z⟩,⟨y,Z,Z⟩,⟨y,?_⟩,?_⟩;show -900000<=bE _ _/\bE _ _<=900000/\-900000<=bE _ _/\bE _ _<=900000;unfold bE;omega;unfold ndF;rw[if_neg (λg=>g x),if_neg (λg=>g v)]
def Ug{n:Net}{k o a b x:Int}(h:a-2<=x):na n k o a b (x+1)=na n k o a b x++if aDW n k o a b x=true then[aDd n k o x]else[]:=by
 unfold na;rw[show(x+1-(a-2)).toNat=(x-(a-2)).toNat+1 by omega,zS,zZ,yO,zZ,qCu,show a-2+(((x-(a-2)).toNat:Nat):Int)=x by omega,yR];split<;>rfl
def NR(n:Net)(k o a b d:Int):(na n k o a b d).length<=(d-(a-2)).toNat:=by
 unfold na;rw[vG];exact wJ (zU _ _) (by rw[vG,vC];exact qM _)
def XJ:eO 54 zb:=ae λ(((i,r,j,f,u,e):Net),(k:Int),(o:Int),(a:Int),(b:Int),_)=>by
 refine zE (A:=(lvA [(4,[1,3,4,5,10,11,12,13,14,15])] (aIj (i,r,j,f,u,e) k o a b))) (p:=let h:=(i,r,j,f,u,e);let T:=(Du f (Dc o) (ByteArray.mk #[],(0:Int),(0:Int),(0:Int),(0:Int),(0:Int),Dt ByteArray)).2.2.1;let c3:=a-2;let g:=Du i (Dc T) ((0:Int),Dt Bool,Dt Int);let X:=b+2;let O:=(Du e (Dc k) (ByteArray.mk #[],(0:Int),(0:Int))).2.1;let c11:=1440*a;let c12:=1440*b;let A:=b+3;(Uh h k o a b->0<=o/\o<Df f/\0<=T/\T<Df i/\L5 1 0 (inR .i64 c3/\(∃x,let c14:=na h k o a b x;Ie h k o a b x/\T5 k a b h Z0 1 0 0 (Dk c14=0/\c14=Dt Int/\c3=x/\Q2 g.1 g.2.1 g.2.2 (c14=Dt Int/\True)))/\∀(x:Int),let v:=Dz (aX g.2.1 g.2.2 x) (Ed (dE g.1 x O) c11) false;let c16:=Dz v (Dn (dE g.1 x O) c12) false;let L:=na h k o a b x;let z:=Dk L;let c19:=[dE g.1 x O];let V:=z+Dk c19;let G:=x+1;Ie h k o a b x->inR .i64 X/\(Ef x X->L5 1 0 (0<=k/\k<Df e/\jk g.1 g.2.1 g.2.2 x O/\L5 1 0 (EG g.1 g.2.1 g.2.2 x/\L4 (aX g.2.1 g.2.2 x) ((aX g.2.1 g.2.2 x->inR .i64 c11)/\L7 (aX g.2.1 g.2.2 x) ((Dh true (aX g.2.1 g.2.2 x)->aX g.2.1 g.2.2 x)/\L4 v ((v->inR .i64 c12)/\L7 v ((Dh true v->v)/\(c16->z=z/\(V*8)<=140737488355328/\V<=9223372036854775807/\inR .i64 G/\∃y,let c22:=na h k o a b y;Ie h k o a b y/\(T5 k a b h Z0 1 0 0 (V=Dk c22/\G=y/\Q2 g.1 g.2.1 g.2.2 (Ee L c19=c22/\True)))/\Dc (A-y)<Dc (A-x))/\(c16=false->inR .i64 G/\∃y,let c23:=na h k o a b y;
  Ie h k o a b y/\(T5 k a b h Z0 1 0 0 (z=Dk c23/\G=y/\Q2 g.1 g.2.1 g.2.2 (L=c23/\True)))/\Dc (A-y)<Dc (A-x)))))))))/\(Ef x X=false->z=z/\L=iN h k o a b/\True)))) aDZ λhp=>?_
 have eC:i.getD (f.getD o.toNat (⟨#[]⟩,0,0,0,0,0,[])).2.2.1.toNat (0,[],[])=aB (i,r,j,f,u,e) o:=rfl;have eK:e.getD k.toNat (⟨#[]⟩,0,0)=bC (i,r,j,f,u,e) k:=rfl;have eT:∀x,dE (aB (i,r,j,f,u,e) o).1 x (bC (i,r,j,f,u,e) k).2.1=aDd (i,r,j,f,u,e) k o x:=λ_=>rfl;refine Z9 ?_;simp only[qc,eC,eK,eT];obtain⟨v,T,a0,ab,b1⟩:=id hp;obtain⟨q1,q2,hv,_⟩:=fJ i r j f u e v;obtain⟨⟨m0,m1⟩,_⟩:=nJ i r j f u e v.1 T;have m0:0<=(bC (i,r,j,f,u,e) k).2.1:=m0;have m1:(bC (i,r,j,f,u,e) k).2.1<=1439:=m1;have r0:na (i,r,j,f,u,e) k o a b (a-2)=[]:=by
  unfold na;rw[Int.sub_self];rfl
 refine⟨v.2.1,v.2.2,q1,q2,au Z,⟨a-2,⟨hp,qH _,Z⟩,by rw[r0];rfl,r0,rfl,r0⟩,λx ⟨_,x0,x1⟩=>⟨au Z,λhx=>?_,λhx=>?_⟩⟩;have hl:=NR (i,r,j,f,u,e) k o a b x;have X:=Ug (n:=(i,r,j,f,u,e)) (k:=k) (o:=o) (b:=b) x0;have hd:bG x=true:=dj Z Z;refine⟨T.1,T.2,⟨hv,hd,m0,Z⟩,⟨hv,hd⟩,λ_=>au Z,λ_=>au Z,λ⟨⟨h1,h2⟩,h3⟩=>?_,λh=>?_⟩;rw[if_pos (by unfold aDW;rw[h1,qU h2,qU h3];rfl)]at X;exact⟨by simp only[qL];omega,by simp only[qL];omega,au Z,x+1,⟨hp,Z,Z⟩,⟨by rw[X,qF],rfl,X.symm⟩,Z⟩;rw[if_neg (by
  unfold aDW;rw[qC,qC,qE,qE];exact λg=>h g.1 g.2),wB]at X
 exact⟨au Z,x+1,⟨hp,Z,Z⟩,⟨by rw[X],rfl,X.symm⟩,Z⟩;have:x=b+3:=by omega
 rw[this];rfl
def aEx:eO 127 I7:=ae λ(((X,T,O,g,V,j):Net),(t:List (Lj)),_)=>by
 refine zE (A:=(lvA [(4,[1,2,4,5,6]),(9,[1,2,4,5,6])] (dsA (X,T,O,g,V,j) t))) (p:=let e:=(X,T,O,g,V,j);let f:=Df t;let r:=Dw f (Df j);let i:=dsF e t;let u:=Df g;(dsP e t->(r->false=i/\True)/\(r=false->(∃x,aFS e t x/\L5 t e (0=x/\True))/\∀(x:Int),let v:=Du t (Dc x) (Dt (Li));let h:=Df v;let c8:=Dw h u;let A:=x+1;aFS e t x->(Dn x f->0<=x/\x<f/\(c8->false=i/\True)/\(c8=false->(∃b,Zn e t x b/\Q2 t e x (0=b/\True))/\∀(b:Int),let G:=Dw (Df (Du v (Dc b) [])) u;let z:=b+1;Zn e t x b->0<=x/\x<f/\(Dn b h->0<=x/\x<f/\0<=b/\b<h/\(G->false=i/\True)/\(G=false->inR .i64 z/\∃y,Zn e t x y/\(Q2 t e x (z=y/\True))/\Dc (h-y)<Dc (h-b)))/\(Dn b h=false->inR .i64 A/\∃y,aFS e t y/\(L5 t e (A=y/\True))/\Dc (f-y)<Dc (f-x))))/\(Dn x f=false->true=i/\True)))) aDZ λhp=>?_;refine Z9 ?_;obtain⟨_,f1,f2⟩:=hp;have f1:t.length<=1000000:=f1;have e:dsF (X,T,O,g,V,j) t=(decide ((t.length:Int)=j.length)&&t.all (dsR g.length)):=rfl;refine⟨λh=>?_,λh=>⟨⟨⟨qH _,qI _,h⟩,rfl⟩,λx hx=>?_⟩⟩;rw[e,vF h];rfl;obtain⟨⟨x0,x1,_⟩,r⟩:=id hx;refine⟨λf=>?_,λhge=>?_⟩;have hg:t.getD x.toNat []∈t:=getD_mem Z;have g1:=(f2 _ hg).1;have L:dsR g.length (t.getD x.toNat [])=false->false=dsF (X,T,O,g,V,j) t:=λh=>by
  rw[e,jW (d:=[]) (k:=x.toNat) Z h,zJ]
 refine⟨x0,f,λv=>L (by unfold dsR;rw[vF v];rfl),λv=>⟨⟨hx,f,v,qH _,qI _,rfl⟩,λy hy=>?_⟩⟩;obtain⟨_,_,_,y0,y1,y2⟩:=id hy;refine⟨x0,f,λu=>⟨x0,f,y0,u,λi=>L ?_,λi=>⟨au Z,y+1,⟨hx,f,v,Z,Z,?_⟩,rfl,Z⟩⟩,λu=>⟨au Z,x+1,⟨⟨Z,Z,h⟩,?_⟩,rfl,Z⟩⟩;unfold dsR;rw[jW (d:=[]) (k:=y.toNat) Z (vF i),zJ];rw[show(y+1).toNat=y.toNat+1 by omega];exact dz (d:=[]) y2 Z (qU i);rw[show(x+1).toNat=x.toNat+1 by omega];refine dz (d:=[]) r Z ?_;unfold dsR;rw[qO Z]at y2;rw[y2,qU v];rfl;rw[qO Z]at r;have r:t.all (dsR g.length)=true:=r;rw[e,qU h,r];rfl
def aBF:eO 114 C6:=ae λ((b:Int),(e:Int),_)=>by
 refine zE (A:=(lvA [(3,[0,1,4,5,6])] (aIn b e))) (p:=(Yo b e->(∃x,If b e x/\Q2 b e Q1 (1=mg b x/\0=x/\True))/\∀(x:Int),let f:=mg b x*b;let g:=x+1;If b e x->(Dn x e->inR .i64 f/\inR .i64 g/\∃y,If b e y/\(Q2 b e Q1 (f=mg b y/\g=y/\True))/\Dc (e-y)<Dc (e-x))/\(Dn x e=false->mg b x=mg b e/\True))) aDZ λf=>?_;refine Z9 ?_;obtain⟨v,u,G⟩:=id f;refine⟨⟨0,⟨f,Z,.inr rfl⟩,by unfold mg;simp,rfl⟩,λx ⟨_,g,z⟩=>⟨λj=>?_,λr=>?_⟩⟩;obtain⟨i,h⟩:=tF v u (e:=x+1) Z;rw[vb g]at i h;exact⟨au Z,au Z,x+1,⟨f,Z,Z⟩,⟨(vb g).symm,rfl⟩,Z⟩;unfold mg;rw[show x.toNat=e.toNat by omega]
def aBG:eO 25 C7:=ae λ(((z,j,i,y,r,u):Net),(a:Int),(b:Int),_)=>by
 refine zF (c:={mkc KE4 with mb:=λt=>t==21}) (A:=az) aDZ gC hm (p:=let e:=(z,j,i,y,r,u);let f:=aS e;let g:=Dz f (Ed a 0) false;let h:=Dz g (Eh b a) false;let v:=Dz h (Ef b (Ep IntKind.i64 (a+60))) false;true/\(cZ e->cZ e/\L4 f ((Dh true f->f)/\L7 g ((Dh true g->g)/\Q4 h ((Dh true h->h)/\L4 v ((Dh true v->v)/\Dz v (Ef b 600) false=AS e a b/\True)))))) ⟨rfl,λL=>?_⟩;have v:Dz (Dz (Dz (Dz (aS (z,j,i,y,r,u)) (Ed a 0) false) (Eh b a) false) (Ef b (Ep .i64 (Dq a 60))) false) (Ef b 600) false=AS (z,j,i,y,r,u) a b:=by
  unfold AS lX;rw[xC];by_cases h:0<=a/\a<b/\b<=600;have G:Ep .i64 (Dq a 60)=a+60:=by
   unfold Ep;exact gR (by unfold Dq;exact au Z)
  rw[G];refine Z9 ?_;constructor;rintro⟨⟨⟨⟨x,g⟩,f⟩,O⟩,e⟩;exact⟨⟨⟨⟨g,f⟩,e⟩,Z⟩,x⟩;rintro⟨⟨⟨⟨g,f⟩,e⟩,O⟩,x⟩;exact⟨⟨⟨⟨x,g⟩,f⟩,Z⟩,e⟩;generalize Ep .i64 (Dq a 60)=q;refine Z9 ?_;constructor;rintro⟨⟨⟨⟨_,g⟩,f⟩,_⟩,e⟩;exact(h ⟨g,f,e⟩).elim;rintro⟨⟨⟨⟨g,f⟩,e⟩,_⟩,_⟩;exact(h ⟨g,f,e⟩).elim
 generalize Ep .i64 (Dq a 60)=q at *;unfold L4 L7 Q4;simp only[qAn,kL,yD,vW,Dh,zV];exact⟨L,v⟩
def aJd:ai yv G0 KE5:=af S3<|af XJ<|af aEx<|af aBF<|af aBG aDZ
def u9{n:Net}{k o a b x:Int}(h:x∈iN n k o a b):1440*a<=x/\x<1440*b:=by
 unfold iN na at h;obtain⟨d,hd,rfl⟩:=vK.1 h;have:=(yI.1 hd).2;unfold aDW at this;simp only[qC,qE]at this;exact⟨this.1.2,this.2⟩
def nY{α:Type}(g:Nat->α){x:Int}(h:0<=x):(List.range (x+1).toNat).map g=(List.range x.toNat).map g++[g x.toNat]:=by
 rw[show(x+1).toNat=x.toNat+1 by omega,zS,zZ];rfl
def Qv{n:Net}{nx:Lj}{k o a b x:Int}(h:0<=x):qn n nx k o a b (x+1)=qn n nx k o a b x++[D9 n nx k o x a b]:=by
 unfold qn;rw[nY _ h,show((x.toNat:Nat):Int)=x by omega]
def Qa{n:Net}{nx:Lj}{k a b x:Int}(h:0<=x):sh n nx k a b (x+1)=sh n nx k a b x++[qn n nx k x a b n.2.2.2.1.length]:=by
 unfold sh;rw[nY _ h,show((x.toNat:Nat):Int)=x by omega]
def P7{n:Net}{nx:Lj}{a b x:Int}(h:0<=x):uO n nx a b (x+1)=uO n nx a b x++[sh n nx x a b n.2.2.2.1.length]:=by
 unfold uO;rw[nY _ h,show((x.toNat:Nat):Int)=x by omega]
def vE{α:Type}{l:List α}{i:Nat}(d:α)(h:i<l.length):l.take (i+1)=l.take i++[l.getD i d]:=by
 rw[wW,qB h,qA,qB h];rfl
def LP{n:Net}{nx:Lj}{k o d a b i:Int}(f:0<=i)(e:i<(iN n k o a b).length):lM n nx k o d a b (i+1)=max (lM n nx k o d a b i) (ndF n nx k o d ((iN n k o a b).getD i.toNat 0)):=by
 unfold lM;rw[show(i+1).toNat=i.toNat+1 by omega,vE 0 Z,zZ,qAg];rfl
def RB{n:Net}{nx:Lj}{k o d a b i:Int}(f:0<=i)(e:i<(iN n k o a b).length):uY n nx k o d a b (i+1)=(uY n nx k o d a b i||decide (ndF n nx k o d ((iN n k o a b).getD i.toNat 0)<0)):=by
 unfold uY;rw[show(i+1).toNat=i.toNat+1 by omega,vE 0 Z,qBw];simp
def KO{n:Net}{nx:Lj}{a b:Int}:AI n nx a b=true↔(0<=a/\a<b/\b<=600/\b-a<=60)/\aS n=true/\l8 n nx=true:=by
 unfold AI;rw[qC,qC,qE]
abbrev C5:=aj [.row N,.val M,.val I,.val I] (λ(n,nx,_)=>aAP n nx) λ(n,nx,a,b,_)=>.dat (.sl M) (HY n nx a b)
def aBE:eO 51 C5:=ae λ(((X,T,O,r,V,u):Net),(nx:Lj),(a:Int),(b:Int),_)=>by
 refine zF (c:={mkc KE5 with mb:=λt=>t==41}) (A:=(lvA [(5,[1,2,3,4,8,9,10,11,12,13,14,15,16,17,18,19]),(9,[1,2,3,4,8,9,10,11,12,13,14,15,16,17,18,19]),(14,[1,2,3,4,8,9,10,11,12,13,14,15,16,17,18,19]),(19,[1,2,3,4,8,9,10,11,12,13,14,15,16,17,18,19])] (aD9 (X,T,O,r,V,u) nx a b))) aJd gC hm (p:=let i:=(r,V,u);let e:=(X,T,O,i);let c3:=Dj (aS e);let g:=Dj c3;let c5:=Dz c3 true (Dj (l8 e nx));let z:=Dj c5;let c7:=Dz c5 true (Dn a 0);let c8:=Dj c7;let c9:=Dz c7 true (Ef b a);let c10:=Dj c9;let c11:=Dz c9 true (Eh b (Ep IntKind.i64 (a+60)));let A:=Dj c11;let c13:=Dz c11 true (Eh b 600);let c14:=HY e nx a b;let h:=Df u;let L:=Df r;let c17:=[(-1:Int)];true/\(aAP e nx->cZ e/\L7 g ((g->du nx)/\L4 g ((Dh true g->g)/\L4 z ((Dh true z->z)/\L7 c8 ((Dh true c8->c8)/\Q4 c10 ((Dh true c10->c10)/\L4 A ((Dh true A->A)/\(c13->c14=Dt (Lj)/\True)/\(c13=false->(∃x,let c19:=uO e nx a b x;tb1 e nx a b x/\T2 nx a b e Z0 (Dk c19=0/\c19=Dt (Lj)/\0=x/\c19=Dt (Lj)/\True))/\∀(x:Int),let G:=uO e nx a b x;let c21:=Dk G;let c22:=x+1;tb1 e nx a b x->(Dn x h->(∃f,let c23:=sh e nx x a b f;tb2 e nx a b x f/\T4 nx a b e Z0 c21 x (Dk c23=0/\c23=Dt (Li)/\0=f/\G=G/\c23=Dt (Li)/\True))/\∀(f:Int),let c24:=sh e nx x a b f;let c25:=Dk c24;let c26:=iN e x f a b;let c27:=Df c26;let c28:=f+1;let c29:=[c24];let c30:=c21+Dk c29;tb2 e nx a b x f->(Dn f L->Uh e x f a b/\(∃j,let c31:=qn e nx x f a b j;tb3 e nx a b x f j/\L3 nx a b e Z0 c21 x c25 f (Dk c31=0/\c31=Dt Int/\c26=c26/\0=j/\L5 G c24 (c31=Dt Int/\True)))/\∀(j:Int),let c32:=qn e nx x f a b j;let c33:=Dk c32;let c34:=c33+(Dk c17);let c35:=j+1;let c36:=[c32];let c37:=c25+Dk c36;
  tb3 e nx a b x f j->(Dn j L->(∃v,tb4 e nx a b x f j v/\L3 nx a b e Z0 c21 x c25 f (Q2 c33 c26 j ((-1:Int)=lM e nx x f j a b v/\false=uY e nx x f j a b v/\0=v/\z6 G c24 c32)))/\∀(v:Int),let c38:=Du c26 (Dc v) 0;let c39:=uY e nx x f j a b v;let c40:=Dj c39;let c41:=v+1;let c42:=lM e nx x f j a b v;let c43:=ndF e nx x f j c38;let c44:=[c42];let c45:=c33+Dk c44;tb4 e nx a b x f j v->(Dn v c27->0<=v/\v<c27/\aGQ e nx x f j c38/\L4 c40 ((Dh true c40->c40)/\inR .i64 c41/\∃y,tb4 e nx a b x f j y/\(L3 nx a b e Z0 c21 x c25 f (Q2 c33 c26 j (Ew c42 c43=lM e nx x f j a b y/\Dz c39 true (Dn c43 0)=uY e nx x f j a b y/\c41=y/\z6 G c24 c32)))/\Dc (c27-y)<Dc (c27-v)))/\(Dn v c27=false->(c39->c33=c33/\(c34*8)<=140737488355328/\c34<=9223372036854775807/\inR .i64 c35/\∃y,let c46:=qn e nx x f a b y;tb3 e nx a b x f y/\(L3 nx a b e Z0 c21 x c25 f (c34=Dk c46/\c26=c26/\c35=y/\L5 G c24 (Ee c32 c17=c46/\True)))/\Dc (L-y)<Dc (L-j))/\(c39=false->c33=c33/\(c45*8)<=140737488355328/\c45<=9223372036854775807/\inR .i64 c35/\∃y,let c47:=qn e nx x f a b y;
  tb3 e nx a b x f y/\(L3 nx a b e Z0 c21 x c25 f (c45=Dk c47/\c26=c26/\c35=y/\L5 G c24 (Ee c32 c44=c47/\True)))/\Dc (L-y)<Dc (L-j))))/\(Dn j L=false->L3 nx a b e Z0 c21 x c25 f (L3 c33 c32 c26 j j i r L (Dn j L) (Q2 G c24 c25 ((c37*24)<=140737488355328/\c37<=9223372036854775807/\inR .i64 c28/\∃y,let c48:=sh e nx x a b y;tb2 e nx a b x y/\(T4 nx a b e Z0 c21 x (c37=Dk c48/\c28=y/\G=G/\Ee c24 c36=c48/\True))/\Dc (L-y)<Dc (L-f))))))/\(Dn f L=false->L3 nx a b e Z0 c21 x c25 c24 (T5 f f i r L (Dn f L) G c21 ((c30*24)<=140737488355328/\c30<=9223372036854775807/\inR IntKind.i64 c22/\∃y,let c49:=uO e nx a b y;tb1 e nx a b y/\(T2 nx a b e Z0 (c30=Dk c49/\c22=y/\Ee G c29=c49/\True))/\Dc (h-y)<Dc (h-x)))))/\(Dn x h=false->c21=c21/\G=c14/\True)))))))))) ⟨rfl,λ⟨hf,hfit⟩=>?_⟩
 have hw:0<=a->a<b->b<=600->Ep .i64 (Dq a 60)=a+60:=λh0 h1 h2=>by
  unfold Ep;exact gR (by unfold Dq;exact au Z)
 generalize Ep .i64 (Dq a 60)=q at *;refine Z9 ?_;refine⟨hf,λ_=>hfit,λh=>?_,λ⟨⟨⟨⟨⟨hs,ht⟩,h0⟩,h1⟩,h2⟩,h3⟩=>?_⟩
 .unfold HY;refine if_neg λg=>?_;obtain⟨⟨g0,g1,g2,g3⟩,g4,g5⟩:=KO.1 g;have:=hw g0 g1 g2;rcases h with((((h|h)|h)|h)|h)|h;rw[g4]at h;cases h;rw[g5]at h;cases h;all_goals omega
 have hq:=hw Z Z Z;have hok:AI (X,T,O,r,V,u) nx a b=true:=KO.2 ⟨Z,hs,ht⟩;have hno:=aK X T O r V u hs;obtain⟨q1,q2⟩:=jM X T O r V u hs;have z1:tb1 (X,T,O,r,V,u) nx a b 0:=⟨hf,hok,qH _,qI _⟩;have l1:∀x,(uO (X,T,O,r,V,u) nx a b x).length=x.toNat:=λx=>by unfold uO;rw[vG,vC]
 have l2:∀k x,(sh (X,T,O,r,V,u) nx k a b x).length=x.toNat:=λk x=>by unfold sh;rw[vG,vC]
 have l3:∀k o x,(qn (X,T,O,r,V,u) nx k o a b x).length=x.toNat:=λk o x=>by unfold qn;rw[vG,vC]
 simp only[qL,l1,l2,l3];refine⟨⟨0,z1,rfl,rfl,rfl,rfl⟩,λx hx=>⟨λxl=>⟨⟨0,⟨hx,xl,qH _,qI _⟩,rfl,rfl,rfl,rfl⟩,λy hy=>⟨λyl=>⟨⟨⟨hno,hy.2.2.1,yl⟩,⟨hx.2.2.1,xl⟩,Z,Z,Z⟩,⟨0,⟨hy,yl,qH _,qI _⟩,rfl,rfl,rfl,rfl⟩,λz hz=>⟨λzl=>⟨⟨0,⟨hz,zl,qH _,qI _⟩,rfl,rfl,rfl⟩,λi hi=>⟨λil=>?_,λil=>?_⟩⟩,λzl=>?_⟩⟩,λyl=>?_⟩⟩,λxl=>?_⟩⟩;obtain⟨i0,i1⟩:=hi.2.2;have hm:=u9 (getD_mem (l:=iN (X,T,O,r,V,u) x y a b) (i:=i.toNat) (d:=0) Z);have hl:=NR (X,T,O,r,V,u) x y a b (b+3);have hl:(iN (X,T,O,r,V,u) x y a b).length<=(b+3-(a-2)).toNat:=hl;refine⟨i0,il,⟨hf,⟨hs,ht,hy.2.2.1,yl,hz.2.2.1,zl,Z,Z⟩,hx.2.2.1,xl⟩,au Z,i+1,⟨hz,zl,Z,by show i+1<=((iN (X,T,O,r,V,u) x y a b).length:Int);omega⟩,⟨(LP i0 il).symm,(RB i0 il).symm,rfl⟩,Z⟩;obtain⟨i0,i1⟩:=hi.2.2;have z0:=hz.2.2.1;have ei:i.toNat=(iN (X,T,O,r,V,u) x y a b).length:=Z;have hz':tb3 (X,T,O,r,V,u) nx a b x y (z+1):=⟨hy,yl,Z,by show z+1<=(r.length:Int);omega⟩;have hr:=Qv (n:=(X,T,O,r,V,u)) (nx:=nx) (k:=x) (o:=y) (a:=a) (b:=b) z0;have ec:uY (X,T,O,r,V,u) nx x y z a b i=uY (X,T,O,r,V,u) nx x y z a b (iN (X,T,O,r,V,u) x y a b).length:=by unfold uY;rw[ei];rfl
 have em:lM (X,T,O,r,V,u) nx x y z a b i=lM (X,T,O,r,V,u) nx x y z a b (iN (X,T,O,r,V,u) x y a b).length:=by unfold lM;rw[ei];rfl
 rw[ec,em];refine⟨λhb=>?_,λhb=>?_⟩;have e:D9 (X,T,O,r,V,u) nx x y z a b=-1:=if_pos hb;rw[e]at hr;exact⟨Z,Z,au Z,z+1,hz',⟨Z,rfl,hr.symm⟩,Z⟩;have e:D9 (X,T,O,r,V,u) nx x y z a b=lM (X,T,O,r,V,u) nx x y z a b (iN (X,T,O,r,V,u) x y a b).length:=if_neg (by rw[hb];decide);rw[e]at hr;exact⟨Z,Z,au Z,z+1,hz',⟨Z,rfl,hr.symm⟩,Z⟩;have y0:=hy.2.2.1;obtain⟨z0,z1⟩:=hz.2.2;have z1:z<=(r.length:Int):=z1;have hr:=Qa (n:=(X,T,O,r,V,u)) (nx:=nx) (k:=x) (a:=a) (b:=b) y0;have ez:z=r.length:=Z;rw[ez];exact⟨Z,Z,au Z,y+1,⟨hx,xl,Z,by show y+1<=(r.length:Int);omega⟩,⟨Z,rfl,hr.symm⟩,Z⟩;have x0:=hx.2.2.1;obtain⟨y0,y1⟩:=hy.2.2;have y1:y<=(r.length:Int):=y1;have hr:=P7 (n:=(X,T,O,r,V,u)) (nx:=nx) (a:=a) (b:=b) x0;have ey:y=r.length:=Z;rw[ey];exact⟨Z,Z,au Z,x+1,⟨hf,hok,Z,by show x+1<=(u.length:Int);omega⟩,⟨Z,rfl,hr.symm⟩,Z⟩;obtain⟨x0,x1⟩:=hx.2.2;have x1:x<=(u.length:Int):=x1;have ex:x=u.length:=Z;rw[ex];exact(if_pos hok).symm
end Go.Eng.Sv
set_option maxHeartbeats 4000000
namespace Go.Eng.Sv
open Go.Proofs
open Go.Eng.Mp (aI b9 oN bz upto at2 ou dF gy pw)
def dv1(n:Net)(t:List (Lj))(k:Int):Prop:=dsF n t=true/\0<=k/\k<=t.length/\(t.take k.toNat).all (λr=>r.all λl=>l.all iE)=true
def dv2(n:Net)(t:List (Lj))(k o:Int):Prop:=dv1 n t k/\k<t.length/\0<=o/\o<=(t.getD k.toNat []).length/\((t.getD k.toNat []).take o.toNat).all (λl=>l.all iE)=true
def dv3(n:Net)(t:List (Lj))(k o d:Int):Prop:=dv2 n t k o/\o<(t.getD k.toNat []).length/\0<=d/\d<=((t.getD k.toNat []).getD o.toNat []).length/\(((t.getD k.toNat []).getD o.toNat []).take d.toNat).all iE=true
def dv(n:Net)(t:List (Lj)):Bool:=oP n (0,0,[],t)
def WH(n:Net)(p:Plan):Bool:=aS n&&jg n p
def vPr(n:Net)(p:Plan):Prop:=cZ n=true/\jh p
def aIp(n:Net)(a b:Int):Prop:=cZ n=true/\AS n a b=true
def usB(p:Plan)(o l k:Int):Bool:=(List.range k.toNat).any λd:Nat=>decide ((d:Int)≠o/\(cj p o).getD d 0=l)
def gLn(n:Net)(p:Plan)(o l:Int):Li:=-1::(((List.range l.toNat).filter λi:Nat=>usB p o i n.2.2.2.1.length).map λi:Nat=>(i:Int))
def iO(p:Plan)(o d:Int)(g:Li):Nat->Int|0=>if d=o then 0 else -1|1=>if d=o then 0 else -1|k+2=>if d≠o/\(cj p o).getD d.toNat 0=g.getD (k+1) 0 then((k:Int)+1)else iO p o d g (k+1)
def KA(n:Net)(p:Plan)(o j:Int):Li:=(List.range j.toNat).map λd:Nat=>iO p o d (gsF n p o) (gsF n p o).length
def g1(n:Net)(p:Plan)(o l:Int):Prop:=vPr n p/\gOk n p o=true/\0<=l/\l<=n.2.2.2.2.1.length
def g2(n:Net)(p:Plan)(o l d:Int):Prop:=g1 n p o l/\l<n.2.2.2.2.1.length/\0<=d/\d<=n.2.2.2.1.length
def g3(n:Net)(p:Plan)(o d:Int):Prop:=vPr n p/\gOk n p o=true/\0<=d/\d<=n.2.2.2.1.length
def g4(n:Net)(p:Plan)(o d i:Int):Prop:=g3 n p o d/\d<n.2.2.2.1.length/\1<=i/\i<=(gsF n p o).length
def pC(n:Net)(a b:Int):Plan:=(a,b,aT n (1440*a) (1440*b),HY n (aT n (1440*a) (1440*b)) a b)
def dvA(n:Net)(t:List (Lj)):Ann:=⟨λb s=>match b with
 |4=>some {α:=Int,inv:=λk=>dv1 n t k,st:=λk=>put s [(5,.dat I k)],μ:=λk=>Dc (Di (Df t) k)}|7=>match s.sig.T 5 with
  |.dat (.int .i64) k=>some {α:=Int,inv:=λo=>dv2 n t k o,st:=λo=>put s [(6,.dat I o)],μ:=λo=>Dc (Di (Df (Du t (Dc k) [])) o)}|_=>none
 |10=>match s.sig.T 5,s.sig.T 6 with
  |.dat (.int .i64) k,.dat (.int .i64) o=>some {α:=Int,inv:=λd=>dv3 n t k o d,st:=λd=>put s [(7,.dat I d)],μ:=λd=>Dc (Di (Df (Du (Du t (Dc k) []) (Dc o) [])) d)}|_,_=>none
 |_=>none,λ_ _=>none,λ_ _=>none⟩
abbrev I6:=aj [.row N,.val (.sl M)] (λ(n,t,_)=>dsP n t) λ(n,t,_)=>.dat .bool (dv n t)
def KE6:Kt:=kOr 51 C5 <|
 kOr 67 I6 KE5
abbrev C4:=aj [.row N,.row Pl] (λ(n,p,_)=>vPr n p) λ(n,p,_)=>.dat .bool (WH n p)
abbrev y8:=aj [.row N,.val I,.val I] (λ(n,a,b,_)=>aIp n a b) λ(n,a,b,_)=>.agg [.dat I (pC n a b).1,.dat I (pC n a b).2.1,.dat M (pC n a b).2.2.1,.dat (.sl M) (pC n a b).2.2.2]
def KE7:Kt:=kOr 33 C4 <|
 kOr 26 y8 KE6
def aFG(n:Net)(p:Plan)(o:Int):Ann:=⟨λb s=>match b with
 |5=>match s.sig.T 31 with
  |.buf e _=>some {α:=Int,inv:=λl=>g1 n p o l,st:=λl=>dD (put s [(9,.dat I l),(8,.buf e (Dk (gLn n p o l)))]) e (.buf 3 I (gLn n p o l) []),μ:=λl=>Dc (Di (Df n.2.2.2.2.1) l)}|_=>none
 |9=>match s.sig.T 9 with
  |.dat (.int .i64) l=>some {α:=Int,inv:=λd=>g2 n p o l d,st:=λd=>put s [(11,.dat I d),(10,.dat .bool (usB p o l d))],μ:=λd=>Dc (Di (Df n.2.2.2.1) d)}|_=>none
 |16=>some {α:=Int,inv:=λd=>g3 n p o d,st:=λd=>dD (put s [(13,.dat I d),(12,.buf 101 (Dk (KA n p o d)))]) 101 (.buf 3 I (KA n p o d) []),μ:=λd=>Dc (Di (Df n.2.2.2.1) d)}|22=>match s.sig.T 13 with
  |.dat (.int .i64) d=>some {α:=Int,inv:=λi=>g4 n p o d i,st:=λi=>put s [(15,.dat I i),(14,.dat I (iO p o d (gsF n p o) (Dc i)))],μ:=λi=>Dc (Di (Df (gsF n p o)) i)}|_=>none
 |_=>none,λb s=>match b with
 |14=>some (frz (allNames s) s)|_=>none,λ_ _=>none⟩
abbrev Da:=aj [.row N,.row Pl,.val I] (λ(n,p,_)=>vPr n p) λ(n,p,o,_)=>.tup [.dat R (gsF n p o),.dat R (ofF n p o)]
def KE8:Kt:=kOr 10 Da KE7
def aEK(m:Int)(t:Lj):sgF jt t m=(dsR m t&&t.all λl=>l.all iE):=by
 rw[xC];unfold sgF dsR sgR jt;simp only[qC,qE,qQ,qW];constructor;rintro⟨h,g⟩;have f:∀r∈t,(r.length:Int)=m/\∀x∈r,iE x=true:=λr b=>by
  obtain⟨i,e,rfl⟩:=wX.1 b;have:=g i e;rw[qA,qB e,qK]at this;exact this
 exact⟨⟨h,λr b=>(f r b).1⟩,λr b=>(f r b).2⟩;rintro⟨⟨h,g⟩,f⟩;exact⟨h,λi e=>⟨g _ (getD_mem e),f _ (getD_mem e)⟩⟩
def aC8(n:Net)(t:List (Lj)):dv n t=(dsF n t&&t.all λr=>r.all λl=>l.all iE):=by
 unfold dv oP dsF;simp only[aEK];rw[xC];simp only[qC,qE,qQ];exact⟨λ⟨f,e⟩=>⟨⟨f,λx b=>(e x b).1⟩,λx b=>(e x b).2⟩,λ⟨⟨f,e⟩,g⟩=>⟨f,λx b=>⟨e x b,g x b⟩⟩⟩
def aEw:eO 67 I6:=ae λ(((cs,ns,os,fs,ls,ks):Net),(t:List (Lj)),_)=>by
 refine zE (A:=(lvA [(4,[1,4,5,6,7]),(7,[1,4,5,6,7]),(10,[1,4,5,6,7])] (dvA (cs,ns,os,fs,ls,ks) t))) (p:=let f:=(cs,ns,os,fs,ls,ks);let z:=Dj (dsF f t);let v:=dv f t;let h:=Df t;(dsP f t->dsP f t/\(z->false=v/\True)/\(z=false->(∃x,dv1 f t x/\t=t/\0=x/\True)/\∀(x:Int),let A:=Du t (Dc x) (Dt (Li));let i:=Df A;let G:=x+1;dv1 f t x->(Dn x h->(∃b,dv2 f t x b/\L5 t x (0=b/\True))/\∀(b:Int),let c8:=Du A (Dc b) [];let j:=Df c8;let u:=b+1;dv2 f t x b->0<=x/\x<h/\(Dn b i->(∃e,dv3 f t x b e/\Q2 t x b (0=e/\True))/\∀(e:Int),let r:=Du c8 (Dc e) 0;let L:=Dn r (-1);let g:=Dj L;let O:=Dz L true (Eh r 65518);let T:=e+1;dv3 f t x b e->0<=x/\x<h/\0<=b/\b<i/\(Dn e j->0<=x/\x<h/\0<=b/\b<i/\0<=e/\e<j/\L7 g ((g->0<=x)/\(g->x<h)/\Q4 g ((g->0<=b)/\(g->b<i)/\Q4 g ((g->0<=e)/\(g->e<j)/\L7 g ((Dh true g->g)/\(O->false=v/\True)/\(O=false->inR IntKind.i64 T/\∃y,dv3 f t x b y/\(Q2 t x b (T=y/\True))/\Dc (j-y)<Dc (j-e)))))))/\(Dn e j=false->inR .i64 u/\∃y,dv2 f t x y/\(L5 t x (u=y/\True))/\Dc (i-y)<Dc (i-b)))/\(Dn b i=false->inR .i64 G/\∃y,dv1 f t y/\(t=t/\G=y/\True)/\Dc (h-y)<Dc (h-x)))/\(Dn x h=false->true=v/\True)))) aJd λhp=>?_;obtain⟨_,f1,f2⟩:=id hp;have f1:t.length<=1000000:=f1;have f2:∀x∈t,du x:=f2;refine Z9 ?_;refine⟨hp,λh=>by rw[aC8,h];rfl,λh=>⟨⟨h,qH _,qI _,rfl⟩,λx V=>⟨λf=>⟨⟨V,f,qH _,qI _,rfl⟩,λy T=>?_⟩,λf=>?_⟩⟩⟩;obtain⟨_,j,_,O⟩:=id V;obtain⟨g11,g12⟩:=f2 _ (getD_mem (l:=t) (i:=x.toNat) (d:=[]) Z);refine⟨j,f,λg=>⟨⟨T,g,qH _,qI _,rfl⟩,λz hz=>?_⟩,λg=>?_⟩
 obtain⟨_,_,L,_,G⟩:=id T;have g2:=g12 _ (getD_mem (l:=t.getD x.toNat []) (i:=y.toNat) (d:=[]) Z);refine⟨j,f,L,g,λX=>?_,λX=>?_⟩;obtain⟨_,_,z0,_,v⟩:=id hz;refine⟨j,f,L,g,z0,X,λ_=>j,λ_=>f,λ_=>L,λ_=>g,λ_=>z0,λ_=>X,λhb=>?_,λhb=>⟨au Z,z+1,⟨T,g,Z,Z,?_⟩,rfl,Z⟩⟩;rw[aC8,jW (l:=t) (d:=[]) (k:=x.toNat) Z (jW (l:=t.getD x.toNat []) (d:=[]) (k:=y.toNat) Z (jW (l:=(t.getD x.toNat []).getD y.toNat []) (d:=0) (k:=z.toNat) Z (vF Z))),zJ];rw[show(z+1).toNat=z.toNat+1 by omega];exact dz (d:=0) v Z (qU Z);obtain⟨_,_,z0,z1,v⟩:=id hz;rw[qO Z]at v;refine⟨au Z,y+1,⟨V,f,Z,Z,?_⟩,rfl,Z⟩;rw[show(y+1).toNat=y.toNat+1 by omega];exact dz (d:=[]) G Z v;obtain⟨_,_,L,y1,G⟩:=id T;rw[qO Z]at G;refine⟨au Z,x+1,⟨h,Z,Z,?_⟩,rfl,Z⟩;rw[show(x+1).toNat=x.toNat+1 by omega];exact dz (d:=[]) O Z G;obtain⟨_,j,x1,O⟩:=id V;rw[qO Z]at O;rw[aC8,h,O];rfl
def aJc:ai yv G0 KE6:=af aBE<|af aEw aJd
def aBD:eO 33 C4:=ae λ(((u,f,b,j,g,i):Net),((p1,p2,nx,y):Plan),_)=>by
 refine zF (c:={mkc KE6 with mb:=λt=>t==24}) (A:=az) aJc gC hm (p:=let e:=(u,f,b,j,g,i);let A:=(p1,p2,nx,y);let x:=aS e;let h:=Dz x (Ed p1 0) false;let r:=Dz h (Eh p2 p1) false;let z:=Dz r (Ef p2 (Ep IntKind.i64 (p1+60))) false;let v:=Dz z (Ef p2 600) false;let L:=Dz v (l8 e nx) false;true/\(vPr e A->cZ e/\L7 x ((Dh true x->x)/\L4 h (Q4 h ((Dh true h->h)/\L7 r (Q4 r ((Dh true r->r)/\L7 z ((Dh true z->z)/\Q4 v ((v->du nx)/\(Dh true v->v)/\Q4 L ((L->dsP e y)/\(Dh true L->L)/\Dz L (dv e y) false=WH e A/\True)))))))))) ⟨rfl,λ⟨hf,G,x,v⟩=>?_⟩;have G:du nx:=G;have hd:dsP (u,f,b,j,g,i) y:=⟨⟨wU _,λr hr=>by cases hr⟩,x,v⟩;have O:Dz (Dz (Dz (Dz (Dz (Dz (aS (u,f,b,j,g,i)) (Ed p1 0) false) (Eh p2 p1) false) (Ef p2 (Ep .i64 (Dq p1 60))) false) (Ef p2 600) false) (l8 (u,f,b,j,g,i) nx) false) (dv (u,f,b,j,g,i) y) false=WH (u,f,b,j,g,i) (p1,p2,nx,y):=by
  have e:WH (u,f,b,j,g,i) (p1,p2,nx,y)=(aS (u,f,b,j,g,i)&&(lJ (p1,p2,nx,y)&&(l8 (u,f,b,j,g,i) nx&&dv (u,f,b,j,g,i) y))):=rfl;rw[e];unfold lJ;rw[xC];by_cases h:0<=p1/\p1<p2/\p2<=600;have X:Ep .i64 (Dq p1 60)=p1+60:=by
   unfold Ep;exact gR (by unfold Dq;exact au Z)
  rw[X];refine Z9 ?_;constructor;rintro⟨⟨⟨⟨⟨⟨G,x⟩,v⟩,h4⟩,z⟩,V⟩,T⟩;exact⟨G,⟨x,v,z,Z⟩,V,T⟩;rintro⟨G,⟨x,v,z,h4⟩,V,T⟩;exact⟨⟨⟨⟨⟨⟨G,x⟩,v⟩,Z⟩,z⟩,V⟩,T⟩;generalize Ep .i64 (Dq p1 60)=q;refine Z9 ?_;constructor;rintro⟨⟨⟨⟨⟨⟨_,x⟩,v⟩,_⟩,z⟩,_⟩,_⟩;exact(h ⟨x,v,z⟩).elim;rintro⟨_,⟨x,v,z,_⟩,_⟩;exact(h ⟨x,v,z⟩).elim
 generalize Ep .i64 (Dq p1 60)=q at *;unfold L4 L7 Q4;simp only[qAn,kL,yD,vW,Dh,zV];exact⟨hf,λ_=>G,λ_=>hd,O⟩
def jK{n:Net}{a b:Int}:AS n a b=true↔(0<=a/\a<b/\b<=600/\b-a<=60)/\aS n=true:=by
 unfold AS lX;simp only[qC,qE,qCi]
def nZ{n:Net}{a b:Int}(h:AS n a b=true):fh n (1440*a) (1440*b)=true/\l8 n (aT n (1440*a) (1440*b))=true/\du (aT n (1440*a) (1440*b)):=by
 obtain⟨g,f⟩:=jK.1 h;have e:fh n (1440*a) (1440*b)=true:=by
  unfold fh;rw[qC];exact⟨sj.2 Z,f⟩
 exact⟨e,wz e,u5 f (wz e)⟩
def XH:eO 26 y8:=ae λ(((u,h,g,r,i,j):Net),(a:Int),(b:Int),_)=>by
 refine zF (c:={mkc KE6 with mb:=λt=>t==7}) (A:=az) aJc gC hm (p:=let e:=(u,h,g,r,i,j);let v:=1440*a;let x:=1440*b;let f:=aT e v x;let y:=(pC e a b).2.2;true/\(aIp e a b->inR .i64 v/\inR .i64 x/\cZ e/\T2 1 0 1 1 0 (aAP e f/\L3 1 1 0 1 0 1 0 1 0 (L5 a b (f=y.1/\HY e f a b=y.2/\True))))) ⟨rfl,λ⟨f,e⟩=>?_⟩;refine Z9 ?_;obtain⟨x,v⟩:=jK.1 e;exact⟨au Z,au Z,f,⟨f,(nZ e).2.2⟩,rfl,rfl⟩
def aJ6:ai yv G0 KE7:=af aBD<|af XH aJc
def vm{p:Plan}{o x:Int}:x∈rZ p o↔x≠-1/\∃d:Int,0<=d/\d<(cj p o).length/\d≠o/\(cj p o).getD d.toNat 0=x:=by
 unfold rZ W9;rw[Gt,yI,vK];simp only[yI,qW,qE];constructor;rintro⟨⟨d,⟨g,f⟩,e⟩,b⟩;exact⟨b,d,Z,Z,f,by rw[qR];exact e⟩;rintro⟨b,d,h,g,f,e⟩;exact⟨⟨d.toNat,⟨Z,by rw[qY h];exact f⟩,e⟩,b⟩
def Y7{l:Li}{x:Int}(h:x∈l):KD x l<l.length/\l.getD (KD x l) 0=x:=by
 induction l with
 |nil=>cases h
 |cons a l e=>
  unfold KD;by_cases b:a=x;rw[if_pos b];exact⟨by simp,b⟩;rw[if_neg b];rcases zH.1 h with g|g;exact absurd g.symm b;obtain⟨i,f⟩:=e g;exact⟨by simp only[wO];omega,by simpa using f⟩
def aAK{p:Plan}{o l k:Int}:usB p o l k=true↔∃d:Int,0<=d/\d<k/\d≠o/\(cj p o).getD d.toNat 0=l:=by
 unfold usB;simp only[xI,qW,qE];constructor;rintro⟨d,f,e,b⟩;exact⟨d,Z,Z,e,by rw[qR];exact b⟩;rintro⟨d,f,e,b,g⟩;exact⟨d.toNat,Z,by rw[qY f];exact b,g⟩
def Xa{p:Plan}{o l k:Int}(b:0<=k):usB p o l (k+1)=(usB p o l k||(k != o&&(cj p o).getD k.toNat 0==l)):=by
 unfold usB;have e:((k.toNat:Nat):Int)=k:=Z;rw[show(k+1).toNat=k.toNat+1 by omega,zS,qBw];simp only[qCw,List.any_nil,qAw,e];congr 1;rw[xC];simp
def Ze{n:Net}{p:Plan}{o l:Int}(b:0<=l):gLn n p o (l+1)=gLn n p o l++if usB p o l n.2.2.2.1.length=true then[l]else[]:=by
 unfold gLn;rw[show(l+1).toNat=l.toNat+1 by omega,zS,yO,zZ,List.cons_append];congr 2;simp only[yR,gQ,show((l.toNat:Nat):Int)=l by omega];split<;>simp<;>omega
def aCX(n:Net)(p:Plan)(o l:Int):(gLn n p o l).length<=l.toNat+1:=by
 unfold gLn;rw[wO,vG];have:=zU (λi:Nat=>usB p o i n.2.2.2.1.length) (List.range l.toNat);rw[vC]at this;omega
def rG{n:Net}{p:Plan}{o:Int}(h:gOk n p o=true):(0<=o/\o<n.2.2.2.1.length)/\aS n=true/\l8 n p.2.2.1=true/\gsF n p o=-1::rZ p o:=by
 have e:gsF n p o=-1::rZ p o:=if_pos h;unfold gOk cY at h;simp only[qC,qE]at h;exact⟨h.1.1,h.1.2,(fF h.2).2.1,e⟩
def aCY(v:LC)(j g:LB)(b:Lo)(f:Ll)(r:Lk){p:Plan}{o:Int}(h:gOk (v,j,g,b,f,r) p o=true):gLn (v,j,g,b,f,r) p o f.length=gsF (v,j,g,b,f,r) p o:=by
 obtain⟨⟨G,A⟩,hs,T,e⟩:=rG h;rw[e];unfold gLn;congr 1;refine Bt (qAf.2 ((List.pairwise_lt_range).imp (λh=>Z) |>.filter _)) (mx _) λx=>?_;rw[vm,vK];simp only[yI,qW,aAK];have V:((cj p o).length:Int)=b.length:=(dJ v j g b f r T G A G A).2.1;constructor;rintro⟨i,⟨h1,d,z,O,L,y⟩,rfl⟩;exact⟨Z,d,z,by have O:d<(b.length:Int):=O;omega,L,y⟩;rintro⟨h1,d,z,O,L,y⟩;have u:d<(b.length:Int):=Z;have X:=(dJ v j g b f r T G A z u).2.2;have en:nxt p.2.2.1 o d=x:=y;rw[en]at X;obtain⟨⟨x0,x1⟩,_⟩:=X h1;exact⟨x.toNat,⟨by show x.toNat<(f.length:Int).toNat;omega,d,z,u,L,by rw[y];omega⟩,Z⟩
def BR{p:Plan}{o:Int}{g:Li}:∀k:Nat,iO p o o g k=0|0=>if_pos rfl|1=>if_pos rfl|k+2=>by unfold iO;rw[if_neg (λh=>h.1 rfl)];exact BR (k+1)
def NZ{p:Plan}{o d:Int}{g:Li}(h:d≠o):∀k:Nat,(∀j:Nat,1<=j->j<k->(cj p o).getD d.toNat 0≠g.getD j 0)->iO p o d g k=-1
 |0,_=>if_neg h|1,_=>if_neg h|k+2,b=>by
  unfold iO;rw[if_neg (λq=>b (k+1) Z Z q.2)];exact NZ h (k+1) λj e f=>b j e Z
def N2{p:Plan}{o d:Int}{g:Li}{i:Nat}(h:d≠o)(u:1<=i)(e:(cj p o).getD d.toNat 0=g.getD i 0):∀k:Nat,i<k->(∀j:Nat,i<j->j<k->(cj p o).getD d.toNat 0≠g.getD j 0)->iO p o d g k=i
 |0,f,_=>Z|1,f,_=>Z|k+2,f,b=>by
  unfold iO;by_cases hi:i=k+1;subst hi;rw[if_pos ⟨h,e⟩];omega;rw[if_neg (λq=>b (k+1) Z Z q.2)];exact N2 h u e (k+1) Z λj r v=>b j r Z
def Uu{n:Net}{p:Plan}{o d:Int}(h:gOk n p o=true)(hd:0<=d/\d<(cj p o).length):iO p o d (gsF n p o) (gsF n p o).length=Vm p o d:=by
 obtain⟨_,_,_,e⟩:=rG h;have hg:∀j:Nat,1<=j->j<(rZ p o).length+1->(gsF n p o).getD j 0∈rZ p o:=λj u r=>by
  rw[e,show j=(j-1)+1 by omega,List.getD_cons_succ];exact getD_mem Z
 have hlen:(gsF n p o).length=(rZ p o).length+1:=by rw[e];rfl
 unfold Vm;by_cases i:d=o;subst i;rw[if_pos rfl];exact BR _;rw[if_neg i];by_cases g:(cj p o).getD d.toNat 0=-1;rw[if_pos g];refine NZ i _ λj u r G=>?_;have:=(vm.1 (hg j u Z)).1;rw[<- G]at this;exact this g;rw[if_neg g];have hm:(cj p o).getD d.toNat 0∈rZ p o:=vm.2 ⟨g,d,hd.1,hd.2,i,rfl⟩;obtain⟨f,b⟩:=Y7 (zA (-1) hm);rw[<- e]at f b;have q0:KD ((cj p o).getD d.toNat 0) (gsF n p o)≠0:=λq=>by rw[q,e]at b;exact g b.symm
 unfold aAe;rw[<- e,if_pos f];refine N2 i Z b.symm _ f λj u r G=>?_;have hs:(gsF n p o).Pairwise (· < ·):=by
  rw[e,yV];refine⟨λx hx=>?_,mx _⟩;obtain⟨x1,y,y0,y1,y2,y3⟩:=vm.1 hx;obtain⟨⟨A,z⟩,hso,X,_⟩:=rG h;obtain⟨cs,O,L,v,T,V⟩:=n;have hrow:((cj p o).length:Int)=v.length:=(dJ cs O L v T V X A z A z).2.1;have h3:=(dJ cs O L v T V X A z y0 (by omega:y<(v.length:Int))).2.2;have en:nxt p.2.2.1 o y=x:=y3;rw[en]at h3;have:=(h3 x1).1.1;omega
 have:=List.pairwise_iff_getElem.1 hs _ _ f r u;rw[qA,qB f,qK]at b;rw[qA (l:=gsF n p o),qB r,qK]at G;omega
def aBI:eO 10 Da:=ae λ(((cs,ns,os,G,X,ks):Net),((p1,p2,nx,dy):Plan),(o:Int),_)=>by
 refine zF (c:={mkc KE7 with mb:=λt=>t==31}) (A:=(lvA [(5,[2,3,4,6,7,8,9,10,11,12,13,14,15]),(9,[2,3,4,6,7,8,9,10,11,12,13,14,15]),(16,[2,3,4,6,7,8,12,13,14,15]),(22,[2,3,4,6,7,8,12,13,14,15])] (aFG (cs,ns,os,G,X,ks) (p1,p2,nx,dy) o))) aJ6 gC hm (p:=let c1:=(X,ks);let h:=(cs,ns,os,G,c1);let g:=(p1,p2,nx,dy);let c4:=Dj (WH h g);let c5:=Dj c4;let c6:=Dz c4 true (Dn o 0);let A:=Dj c6;let V:=Df G;let c9:=Dz c6 true (Ed o V);let u:=gsF h g o;let c11:=ofF h g o;let i:=Df X;let O:=Du nx (Dc o) [];let c14:=Df O;let z:=Df u;true/\(vPr h g->vPr h g/\L4 c5 ((Dh true c5->c5)/\L4 A (Q4 A ((Dh true A->A)/\(c9->u=Dt Int/\c11=Dt Int/\True)/\(c9=false->(∃x,let c16:=gLn h g o x;g1 h g o x/\T2 o h g Z0 Z0 (1=Dk c16/\0=x/\[(-1:Int)]=c16/\True))/\∀(x:Int),let f:=gLn h g o x;let L:=Dk f;let c19:=[x];let c20:=L+Dk c19;let c21:=x+1;let T:=Df f;g1 h g o x->(Dn x i->(∃e,g2 h g o x e/\T4 o h g Z0 Z0 L x (false=usB g o x e/\0=e/\T3 f))/\∀(e:Int),let c23:=usB g o x e;let r:=Dj c23;let c25:=e+1;
  g2 h g o x e->(Dn e V->Q4 r (Q4 (Dh r (Dw e o)) ((Dh r (Dw e o)->0<=o)/\(Dh r (Dw e o)->o<Df nx)/\Q4 (Dh r (Dw e o)) ((Dh r (Dw e o)->0<=e)/\(Dh r (Dw e o)->e<c14)/\Q4 (Dh r (Dw e o)) (L4 r ((r->Dh r (Dw e o)->Dh r (Dw e o))/\(Dh true r->r)/\inR .i64 c25/\∃y,g2 h g o x y/\(T4 o h g Z0 Z0 L x (Dz c23 true (Dz (Dw e o) (Eb (Du O (Dc e) 0) x) false)=usB g o x y/\c25=y/\T3 f))/\Dc (V-y)<Dc (V-e)))))))/\(Dn e V=false->(c23->L=L/\(c20*8)<=140737488355328/\c20<=9223372036854775807/\inR .i64 c21/\∃y,let c26:=gLn h g o y;g1 h g o y/\(T2 o h g Z0 Z0 (c20=Dk c26/\c21=y/\Ee f c19=c26/\True))/\Dc (i-y)<Dc (i-x))/\(c23=false->inR IntKind.i64 c21/\∃y,let c27:=gLn h g o y;g1 h g o y/\(T2 o h g Z0 Z0 (L=Dk c27/\c21=y/\f=c27/\True))/\Dc (i-y)<Dc (i-x))))/\(Dn x i=false->L3 o h g Z0 Z0 L f x x (Q3 c1 X i (Dn x i) ((∃xa,let c28:=KA h g o xa;g3 h g o xa/\T6 o h g Z0 Z0 f (Dk c28=0/\c28=Dt Int/\0=xa/\c28=Dt Int/\True))/\∀(xb:Int),let v:=KA h g o xb;let j:=Dk v;let c31:=xb+1;
  g3 h g o xb->(Dn xb V->(Eb xb o->(∃b,g4 h g o xb b/\T5 o h g Z0 Z0 f j xb (0=iO g o xb u (Dc b)/\1=b/\T3 v))/\∀(b:Int),let c32:=Dz (Dw xb o) (Eb (Du O (Dc xb) 0) (Du f (Dc b) 0)) false;let c33:=b+1;let c34:=iO g o xb u (Dc b);let c35:=[c34];let c36:=j+Dk c35;g4 h g o xb b->(Dn b T->Q4 (Dw xb o) ((Dw xb o->0<=o)/\(Dw xb o->o<Df nx)/\Q4 (Dw xb o) ((Dw xb o->0<=xb)/\(Dw xb o->xb<c14)/\Q4 (Dw xb o) ((Dw xb o->0<=b)/\(Dw xb o->b<T)/\Q4 (Dw xb o) ((Dh true (Dw xb o)->Dw xb o)/\(c32->inR .i64 c33/\∃y,g4 h g o xb y/\(T5 o h g Z0 Z0 f j xb (b=iO g o xb u (Dc y)/\c33=y/\T3 v))/\Dc (z-y)<Dc (z-b))/\(c32=false->inR .i64 c33/\∃y,g4 h g o xb y/\(T5 o h g Z0 Z0 f j xb (c34=iO g o xb u (Dc y)/\c33=y/\T3 v))/\Dc (z-y)<Dc (z-b)))))))/\(Dn b T=false->j=j/\(c36*8)<=140737488355328/\c36<=9223372036854775807/\inR .i64 c31/\∃y,let c37:=KA h g o y;g3 h g o y/\(T6 o h g Z0 Z0 f (c36=Dk c37/\c31=y/\Ee v c35=c37/\True))/\Dc (V-y)<Dc (V-xb)))/\(Eb xb o=false->(∃b,g4 h g o xb b/\T5 o h g Z0 Z0 f j xb ((-1:Int)=iO g o xb u (Dc b)/\1=b/\T3 v))/\∀(b:Int),let c38:=Dz (Dw xb o) (Eb (Du O (Dc xb) 0) (Du f (Dc b) 0)) false;let c39:=b+1;let c40:=iO g o xb u (Dc b);let c41:=[c40];let c42:=j+Dk c41;
  g4 h g o xb b->(Dn b T->Q4 (Dw xb o) ((Dw xb o->0<=o)/\(Dw xb o->o<Df nx)/\Q4 (Dw xb o) ((Dw xb o->0<=xb)/\(Dw xb o->xb<c14)/\Q4 (Dw xb o) ((Dw xb o->0<=b)/\(Dw xb o->b<T)/\Q4 (Dw xb o) ((Dh true (Dw xb o)->Dw xb o)/\(c38->inR .i64 c39/\∃y,g4 h g o xb y/\(T5 o h g Z0 Z0 f j xb (b=iO g o xb u (Dc y)/\c39=y/\T3 v))/\Dc (z-y)<Dc (z-b))/\(c38=false->inR .i64 c39/\∃y,g4 h g o xb y/\(T5 o h g Z0 Z0 f j xb (c40=iO g o xb u (Dc y)/\c39=y/\T3 v))/\Dc (z-y)<Dc (z-b)))))))/\(Dn b T=false->j=j/\(c42*8)<=140737488355328/\c42<=9223372036854775807/\inR .i64 c31/\∃y,let c43:=KA h g o y;g3 h g o y/\(T6 o h g Z0 Z0 f (c42=Dk c43/\c31=y/\Ee v c41=c43/\True))/\Dc (V-y)<Dc (V-xb))))/\(Dn xb V=false->f=u/\j=j/\v=c11/\True)))))))))) ⟨rfl,λhp=>?_⟩
 obtain⟨n,hn⟩:∃n:Net,n=(cs,ns,os,G,X,ks):=⟨_,rfl⟩;obtain⟨p,hpl⟩:∃p:Plan,p=(p1,p2,nx,dy):=⟨_,rfl⟩;simp only[<- hn,<- hpl]at hp ⊢;refine Z9 ?_;have O:n.2.2.2.1=G:=by rw[hn]
 have eL:n.2.2.2.2.1=X:=by rw[hn]
 have eU:nx.getD o.toNat []=cj p o:=by rw[hpl];rfl
 have eX:p.2.2.1=nx:=by rw[hpl]
 have eG:gOk n p o=true↔(WH n p=true/\¬o<0)/\¬o≥↑G.length:=by
  unfold gOk WH cY;simp only[qC,qE,O];exact⟨λ⟨⟨h1,h2⟩,h3⟩=>⟨⟨⟨h2,h3⟩,Z⟩,Z⟩,λ⟨⟨⟨h2,h3⟩,h4⟩,h5⟩=>⟨⟨Z,h2⟩,h3⟩⟩
 refine⟨hp,λh=>?_,λh=>?_⟩;have hn':¬gOk n p o=true:=λg=>by
  obtain⟨⟨g1,g2⟩,g3⟩:=eG.1 g;rcases h with(h|h)|h;rw[g1]at h;cases h;exact g2 h;exact g3 h
 exact⟨if_neg hn',if_neg hn'⟩;have hg:=eG.2 h;obtain⟨⟨o0,o1⟩,hs,ht,eS⟩:=rG hg;rw[O]at o1;rw[eX]at ht;have q12:(G.length:Int)<=12:=by have:=(jM n.1 n.2.1 n.2.2.1 n.2.2.2.1 n.2.2.2.2.1 n.2.2.2.2.2 hs).1;rw[O]at this;exact this
 have l40:X.length<=40:=by have:=(fV n.1 n.2.1 n.2.2.1 n.2.2.2.1 n.2.2.2.2.1 n.2.2.2.2.2 (aK n.1 n.2.1 n.2.2.1 n.2.2.2.1 n.2.2.2.2.1 n.2.2.2.2.2 hs)).2;rw[eL]at this;exact this
 have hrow:(nx.length:Int)=G.length/\((nx.getD o.toNat []).length:Int)=G.length:=by
  have:=dJ n.1 n.2.1 n.2.2.1 n.2.2.2.1 n.2.2.2.2.1 n.2.2.2.2.2 (nx:=nx) (o:=o) (d:=o) ht o0 (by rw[O];exact o1) o0 (by rw[O];exact o1);rw[O]at this;exact⟨this.1,this.2.1⟩
 have gend:gLn n p o X.length=gsF n p o:=by rw[<- eL];exact aCY n.1 n.2.1 n.2.2.1 n.2.2.2.1 n.2.2.2.2.1 n.2.2.2.2.2 hg
 rw[eU]at hrow;simp only[eU];have lo:∀x,(KA n p o x).length=x.toNat:=λx=>by unfold KA;rw[vG,vC]
 have hgl:=λx=>aCX n p o x;have onx:∀x,0<=x->KA n p o (x+1)=KA n p o x++[iO p o x (gsF n p o) (gsF n p o).length]:=λx x0=>by
  unfold KA;rw[nY _ x0,show((x.toNat:Nat):Int)=x by omega]
 have z1:g1 n p o 0:=⟨hp,hg,qH _,qI _⟩;have hgs:(gsF n p o).length<=41:=by rw[<- gend];have:=hgl X.length;omega
 have hgs1:1<=(gsF n p o).length:=by rw[eS];simp
 simp only[qL,lo];refine⟨⟨0,z1,rfl,rfl,rfl⟩,λx hx=>⟨λxl=>⟨⟨0,⟨hx,by rw[eL];exact xl,qH _,qI _⟩,rfl,rfl⟩,λy hy=>⟨λyl=>?_,λyl=>?_⟩⟩,λxl=>?_⟩⟩;obtain⟨_,_,y0,y1⟩:=hy;exact⟨λ_=>o0,λ_=>Z,λ_=>y0,λ_=>Z,au Z,y+1,⟨hx,by rw[eL];exact xl,Z,by rw[O];omega⟩,⟨(Xa y0).symm,rfl⟩,Z⟩;obtain⟨_,_,y0,y1⟩:=hy;obtain⟨x0,x1⟩:=hx.2.2;have ey:y=G.length:=by rw[O]at y1;omega
 have z:=Ze (n:=n) (p:=p) (o:=o) x0;rw[O]at z;have hl:=hgl x;have hx':g1 n p o (x+1):=⟨hp,hg,Z,by rw[eL];omega⟩;rw[ey];refine⟨λhu=>?_,λhu=>?_⟩;rw[if_pos hu]at z;exact⟨Z,Z,au Z,x+1,hx',⟨by rw[z];simp,rfl,z.symm⟩,Z⟩;rw[if_neg (by rw[hu];decide),wB]at z;exact⟨au Z,x+1,hx',⟨by rw[z],rfl,z.symm⟩,Z⟩;obtain⟨x0,x1⟩:=hx.2.2;have ex:x=X.length:=by rw[eL]at x1;omega
 rw[ex,gend];refine⟨⟨0,⟨hp,hg,qH _,qI _⟩,rfl,rfl,rfl,rfl⟩,λd hd=>⟨λdl=>?_,λdl=>?_⟩⟩;obtain⟨_,_,d0,d1⟩:=id hd;have nxt1:∀i:Int,g4 n p o d i->¬i<((gsF n p o).length:Int)->(d.toNat+1)*8<=140737488355328/\d.toNat+1<=9223372036854775807/\inR .i64 (d+1)/\∃y,g3 n p o y/\(d.toNat+1=y.toNat/\d+1=y/\KA n p o d++[iO p o d (gsF n p o) i.toNat]=KA n p o y)/\((G.length:Int)-y).toNat<((G.length:Int)-d).toNat:=λi hi il=>by
  obtain⟨_,_,i0,i1⟩:=hi;have ei:i.toNat=(gsF n p o).length:=Z;rw[ei];exact⟨Z,Z,au Z,d+1,⟨hp,hg,Z,by rw[O];omega⟩,⟨Z,rfl,(onx d d0).symm⟩,Z⟩
 have stp:∀i:Int,g4 n p o d i->i<((gsF n p o).length:Int)->iO p o d (gsF n p o) (i+1).toNat=if d≠o/\(cj p o).getD d.toNat 0=(gsF n p o).getD i.toNat 0 then i else iO p o d (gsF n p o) i.toNat:=λi hi il=>by
  obtain⟨_,_,i0,i1⟩:=hi;obtain⟨k,hk⟩:∃k:Nat,i.toNat=k+1:=⟨i.toNat-1,Z⟩;rw[show(i+1).toNat=k+2 by omega,hk];unfold iO;split;omega;cases k<;>rfl
 have rnd:∀i:Int,g4 n p o d i->(i<((gsF n p o).length:Int)->(d≠o->0<=o)/\(d≠o->o < ↑nx.length)/\(d≠o->0<=d)/\(d≠o->d < ↑(cj p o).length)/\(d≠o->0<=i)/\(d≠o->i < ↑(gsF n p o).length)/\
   (d≠o/\(cj p o).getD d.toNat 0=(gsF n p o).getD i.toNat 0->inR .i64 (i+1)/\∃y,g4 n p o d y/\(i=iO p o d (gsF n p o) y.toNat/\i+1=y)/\(((gsF n p o).length:Int)-y).toNat<(((gsF n p o).length:Int)-i).toNat)/\
   ((d≠o->(cj p o).getD d.toNat 0≠(gsF n p o).getD i.toNat 0)->inR .i64 (i+1)/\∃y,g4 n p o d y/\(iO p o d (gsF n p o) i.toNat=iO p o d (gsF n p o) y.toNat/\i+1=y)/\(((gsF n p o).length:Int)-y).toNat<(((gsF n p o).length:Int)-i).toNat))/\
   (¬i<((gsF n p o).length:Int)->(d.toNat+1)*8<=140737488355328/\d.toNat+1<=9223372036854775807/\inR .i64 (d+1)/\∃y,g3 n p o y/\(d.toNat+1=y.toNat/\d+1=y/\KA n p o d++[iO p o d (gsF n p o) i.toNat]=KA n p o y)/\((G.length:Int)-y).toNat<((G.length:Int)-d).toNat):=λi hi=>⟨λil=>by
  have hst:=stp i hi il;obtain⟨_,_,i0,i1⟩:=id hi;have hi':g4 n p o d (i+1):=⟨hd,by rw[O];exact dl,Z,Z⟩;refine⟨λ_=>o0,λ_=>Z,λ_=>d0,λ_=>Z,λ_=>Z,λ_=>il,λhc=>⟨au Z,i+1,hi',⟨by rw[hst,if_pos hc],rfl⟩,Z⟩,λhc=>⟨au Z,i+1,hi',⟨by rw[hst,if_neg λq=>hc q.1 q.2],rfl⟩,Z⟩⟩,nxt1 i hi⟩
 have f1:g4 n p o d 1:=⟨hd,by rw[O];exact dl,qH _,Z⟩;exact⟨λhdo=>⟨⟨1,f1,(if_pos hdo).symm,rfl⟩,rnd⟩,λhdo=>⟨⟨1,f1,(if_neg hdo).symm,rfl⟩,rnd⟩⟩;obtain⟨_,_,d0,d1⟩:=hd;have ed:d=G.length:=by rw[O]at d1;omega
 refine⟨rfl,?_⟩;unfold KA ofF;rw[if_pos hg,ed,O];refine zK λi hi=>Uu hg ?_;have:=qW.1 hi;omega
def aG8:ai yv G0 KE8:=af aBI aJ6
def aCF(l:Li):∀{z x:Int},(x=z\/x∈l)->x<=l.foldl max z:=by
 induction l with
 |nil=>
   intro z x h;rcases h with rfl|h;exact qH _;cases h
 |cons y l b=>
  intro z x h;rw[kG];rcases h with rfl|h;exact qCn (Int.le_max_left _ _) (b (.inl rfl));rcases zH.1 h with rfl|h;exact qCn (Int.le_max_right _ _) (b (.inl rfl));exact b (.inr h)
def aIu(l:Li):∀{z x:Int},z<=x->(∀y∈l,y<=x)->l.foldl max z<=x:=by
 induction l with
 |nil=>intro z x h _;exact h
 |cons y l b=>
  intro z x h g;rw[kG];exact b (Int.max_le.2 ⟨h,g _ wF⟩) λw e=>g w (zA _ e)
def VS(w:List Bool)(h:Li)(a b:Int): -1<=jd w h a b/\jd w h a b<=2000:=by
 unfold jd;split;rename_i hb;have:(cD w h (a+1) (b-a)).length<=(b-a).toNat:=by
  unfold cD;refine wJ (zU _ _) ?_;rw[vG,vC];exact qM _
 omega;omega
def aFu{l:Li}(h:∀x∈l,x<=2000):iE (l.foldl max (-1))=true:=by
 have e:=aCF l (z:=-1) (x:=-1) (.inl rfl);have b:=aIu l (z:=-1) (x:=2000) (by decide) h;exact qU Z
def aCG(n:Net)(nx:Lj)(k o d a b:Int):iE (np n nx k o d a b)=true:=by
 unfold np;split;unfold KB;refine aFu λx e=>?_;obtain⟨c,_,rfl⟩:=vK.1 e;exact(VS _ _ _ _).2;rfl
def TC{m:Nat}(g:Nat->Nat->Int)(h:∀i j,iE (g i j)=true):sgF jt ((List.range m).map λi=>(List.range m).map λj=>g i j) m=true:=by
 rw[aEK];unfold dsR;simp only[qC,qE,qQ,vG,vC,yD];refine⟨λr b=>?_,λr b x e=>?_⟩;obtain⟨i,_,rfl⟩:=vK.1 b;rw[vG,vC];obtain⟨i,_,rfl⟩:=vK.1 b;obtain⟨j,_,rfl⟩:=vK.1 e;exact h i j
def Zf{n:Net}{a b:Int}{t:List (Lj)}(h:AS n a b=true)(g:t.length=n.2.2.2.2.2.length)(e:∀r∈t,sgF jt r n.2.2.2.1.length=true):jg n (a,b,aT n (1440*a) (1440*b),t)=true:=by
 obtain⟨f,_⟩:=jK.1 h;unfold jg lJ oP;simp only[qC,qE,qQ];exact⟨Z,(nZ h).2.1,Z,e⟩
def FK{n:Net}{a b:Int}(h:AS n a b=true):AI n (aT n (1440*a) (1440*b)) a b=true:=by
 obtain⟨f,e⟩:=jK.1 h;exact KO.2 ⟨f,e,(nZ h).2.1⟩
def aC4{n:Net}{a b:Int}(h:AS n a b=true):jg n (p2F n a b)=true:=by
 have e:Ns n (aT n (1440*a) (1440*b)) a b=(List.range n.2.2.2.2.2.length).map λk:Nat=>P9 n (aT n (1440*a) (1440*b)) k a b:=if_pos (FK h);refine Zf h (t:=Ns n (aT n (1440*a) (1440*b)) a b) (by rw[e,vG,vC]) λr f=>?_;rw[e]at f;obtain⟨k,_,rfl⟩:=vK.1 f;exact TC _ λi j=>aCG _ _ _ _ _ _ _
def oy{l:Li}(h:∀x∈l,x=0):He l=0:=rH λi b=>h _ (getD_mem b)
def VI{n:Net}{a b:Int}(h:AS n a b=true){k o d:Nat}(g:k<n.2.2.2.2.2.length)(f:o<n.2.2.2.1.length)(hd:d<n.2.2.2.1.length):fz (p2F n a b) k o d=np n (aT n (1440*a) (1440*b)) k o d a b:=by
 have e:(p2F n a b).2.2.2=(List.range n.2.2.2.2.2.length).map λk:Nat=>P9 n (aT n (1440*a) (1440*b)) k a b:=if_pos (FK h);unfold fz;rw[e];simp only[qR];rw[qA,qA,qA,qX,vP g];simp only[zY,qK];unfold P9;rw[qX,vP f];simp only[zY,qK];unfold kI;rw[qX,vP hd];rfl
def Zt{n:Net}{a b:Int}(h:AS n a b=true){k o d:Nat}(L:k<n.2.2.2.2.2.length)(A:o<n.2.2.2.1.length)(hd:d<n.2.2.2.1.length):Aj n (p2F n a b) k o d=0:=by
 have y:=VI h L A hd;unfold Aj;rw[y];split;rfl;rename_i j;have v:IC n (aT n (1440*a) (1440*b)) k o d a b=0:=Classical.byContradiction λg=>j (if_neg g);have T:np n (aT n (1440*a) (1440*b)) k o d a b=KB n (aT n (1440*a) (1440*b)) k o d a b (AG n k o a b).length:=if_pos v;have i:=iC v;refine oy λx z=>?_;obtain⟨c,O,rfl⟩:=vK.1 z;have f:c∈AG n k o a b:=by
  unfold AG JJ;rw[show(1440*b-1440*a).toNat=(1440*(b-a)).toNat by congr 1;omega];exact O
 have e:=i _ (vK.2 ⟨c,f,rfl⟩);have G:RQ n (aT n (1440*a) (1440*b)) k o d c<=np n (aT n (1440*a) (1440*b)) k o d a b:=by
  rw[T];unfold KB;rw[yQ];exact aCF _ (.inr (vK.2 ⟨c,f,rfl⟩))
 unfold zP at e;unfold JK;rw[y];have V:ib n (p2F n a b).2.2.1 o d c=ib n (aT n (1440*a) (1440*b)) o d c:=rfl;have eE:DW n (p2F n a b) k o d c=DW n (pN (aT n (1440*a) (1440*b))) k o d c:=rfl;have X:ZF n (p2F n a b) k o d c=RQ n (aT n (1440*a) (1440*b)) k o d c:=rfl;rw[V,eE,X];by_cases u:ib n (aT n (1440*a) (1440*b)) o d c≠0;rw[if_pos u]at e;exact absurd e u;rw[if_neg u]at e ⊢;by_cases r:DW n (pN (aT n (1440*a) (1440*b))) k o d c≠0;rw[if_pos r]at e;exact absurd e r;rw[if_neg r,if_neg Z]
def all_zero{n:Net}{a b:Int}(h:AS n a b=true):RG n (p2F n a b) (p2F n a b).2.2.2.length=0:=by
 have e:(p2F n a b).2.2.2=(List.range n.2.2.2.2.2.length).map λk:Nat=>P9 n (aT n (1440*a) (1440*b)) k a b:=if_pos (FK h);have r:(p2F n a b).2.2.2.length=n.2.2.2.2.2.length:=by rw[e,vG,vC]
 unfold RG;refine oy λx f=>?_;obtain⟨k,i,rfl⟩:=vK.1 f;rw[qW,r]at i;have j:(p2F n a b).2.2.2.getD k []=P9 n (aT n (1440*a) (1440*b)) k a b:=by
  rw[e,qA,qX,vP i];rfl
 unfold Xn;refine oy λx f=>?_;obtain⟨o,g,rfl⟩:=vK.1 f;have g:o<n.2.2.2.1.length:=by
  have:=qW.1 g;rw[j]at this;unfold P9 at this;rwa [vG,vC]at this
 rw[qR,j];have u:(P9 n (aT n (1440*a) (1440*b)) k a b).getD o []=kI n (aT n (1440*a) (1440*b)) k o a b:=by
  unfold P9;rw[qA,qX,vP g];rfl
 rw[u];unfold oA;refine oy λx f=>?_;obtain⟨d,hd,rfl⟩:=vK.1 f;have hd:d<n.2.2.2.1.length:=by
  have:=qW.1 hd;unfold kI at this;rwa [vG,vC]at this
 exact Zt h i g hd
noncomputable def bnF(n:Net)(a b d u:Int):Int:=at2 (bf n (bM n a b)) u d
noncomputable def goW(n:Net)(p:Plan)(k o d c:Int):Prop:=Az n p.2.2.1 o d c/\(∃(i:List Stop) (T:Int),gA n p.2.2.1 o d c=i++[(d,T,-1,-1)]/\(0<=T/\T<=2000000)/\∀s∈i,(0<=s.1/\s.1<n.2.2.2.1.length)/\0<=s.2.2.1/\s.2.2.1<=2100000)/\0<=ndF n p.2.2.1 k o d c/\ndF n p.2.2.1 k o d c<=fz p k o d/\c<=864000
noncomputable def aC6(B:Int->Int)(m:Nat)(u:Int):Nat:=((List.range m).filter λv:Nat=>decide (B v<B u)).length
def aFj{a b:Li}(f:a.Pairwise (· < ·))(e:b.Pairwise (· < ·))(h:∀x,x∈a↔x∈b):a=b:=
 List.Perm.eq_of_pairwise (λx y _ _ i g=>Z) f e ((List.perm_ext_iff_of_nodup (f.imp Int.ne_of_lt) (e.imp Int.ne_of_lt)).2 h)
def VN{c:Int×List Bool×Li}{m b:Int}(G:0<=m)(A:m<=1439):∀(f:Nat) (t:Int),b-t<f->b<=t+86400->
  (VO c m b f t).Pairwise (· < ·)/\∀x,x∈VO c m b f t↔t<=x/\x<b/\∃D,aX c.2.1 c.2.2 D=true/\x=dE c.1 D m
 |0,t,h,_=>⟨.nil,λx=>⟨λh=>(by cases h),λ⟨_,_,_⟩=>Z⟩⟩
 |f+1,t,h1,h2=>by
  have hd:∀D,t<=dE c.1 D m↔d0F c m t<=D:=λD=>by unfold dE d0F ID bE;split<;>omega
  have v:∀D,dE c.1 D m=D*1440+m-c.1:=λ_=>rfl;unfold VO mS jf;rcases sA c.2.1 c.2.2 (d0F c m t) 60 with g|⟨j,L,j1,g1,g2⟩;rw[if_neg (by rw[(FP g).2];decide)];refine⟨.nil,λx=>⟨λh=>(by cases h),λ⟨u,i,D,w,e⟩=>?_⟩⟩;rw[e]at u i;have:=(hd _).2 (qH _);rw[v]at this i;exact(qT g ((hd D).1 u) Z w).elim;obtain⟨X,z⟩:=FQ L j1 g1 g2;have V:=(hd (d0F c m t+j)).2 Z;have hm:∀D,aX c.2.1 c.2.2 D=true->t<=dE c.1 D m->d0F c m t+j<=D:=λD w h=>Classical.byContradiction λq=>qT g1 ((hd D).1 h) Z w;rw[if_pos z,if_pos z,X];split;obtain⟨O,y⟩:=VN (c:=c) (b:=b) G A f (dE c.1 (d0F c m t+j) m+1) Z Z;refine⟨yV.2 ⟨λx T=>by have:=((y x).1 T).1;omega,O⟩,λx=>?_⟩;rw[zH,y];constructor;rintro(rfl|⟨u,i,r⟩);exact⟨V,Z,_,g2,rfl⟩;exact⟨Z,i,r⟩;rintro⟨u,i,D,w,rfl⟩;have:=hm D w u;by_cases q:D=d0F c m t+j;exact .inl (by rw[q]);exact .inr ⟨by rw[v,v];omega,i,D,w,rfl⟩;refine⟨.nil,λx=>⟨λh=>(by cases h),λ⟨u,i,D,w,e⟩=>?_⟩⟩;rw[e]at u i;have:=hm D w u;rw[v]at *;omega
def Lx(v:LC)(g f:LB)(u:Lo)(h:Ll)(r:Lk){k o a b:Int}(G:jm (v,g,f,u,h,r) o)(hk:uG (v,g,f,u,h,r) k)(ab:b<=a+60):iN (v,g,f,u,h,r) k o a b=AG (v,g,f,u,h,r) k o a b:=by
 obtain⟨_,_,hv,_⟩:=fJ v g f u h r G;obtain⟨⟨z,y⟩,_⟩:=nJ v g f u h r G.1 hk;obtain⟨⟨z0,z1,_,_⟩,_⟩:=bD.1 hv;obtain⟨X,V⟩:=VN (c:=aB (v,g,f,u,h,r) o) (b:=1440*b) z y ((1440*b-1440*a).toNat+1) (1440*a) Z Z;have A:∀D,aDd (v,g,f,u,h,r) k o D=D*1440+(bC (v,g,f,u,h,r) k).2.1-(aB (v,g,f,u,h,r) o).1:=λ_=>rfl;have z:0<=(bC (v,g,f,u,h,r) k).2.1:=z;have y:(bC (v,g,f,u,h,r) k).2.1<=1439:=y;refine aFj ?_ X λx=>?_;unfold iN na;rw[qAf];refine(qAf.2 (List.pairwise_lt_range.imp λ{i j} q=>?_)).filter _;rw[A,A];omega;refine Iff.trans ?_ (V x).symm;unfold iN na aDW;simp only[vK,yI,qW,qC,qE];constructor;rintro⟨D,⟨_,⟨p1,p2⟩,T⟩,rfl⟩;exact⟨p2,T,D,p1,rfl⟩;rintro⟨O,L,D,p,e⟩;have e:x=aDd (v,g,f,u,h,r) k o D:=e;subst e;refine⟨D,⟨⟨(D-(a-2)).toNat,?_,?_⟩,⟨p,O⟩,L⟩,rfl⟩<;>rw[A]at*<;> omega
def aFO{B:Int->Int}{m:Nat}{u w:Int}(g:0<=w)(f:w<m)(h:B w<B u):aC6 B m w<aC6 B m u:=by
 unfold aC6;have e:(List.range m).filter (λv:Nat=>decide (B v<B w))=((List.range m).filter λv:Nat=>decide (B v<B u)).filter λv:Nat=>decide (B v<B w):=by
  rw[List.filter_filter];exact qDd λv _=>by rw[xC,qC];simp only[qE];omega
 have b:((w.toNat:Nat):Int)=w:=Z;rw[e,List.length_filter_lt_length_iff_exists];exact⟨w.toNat,yI.2 ⟨qW.2 Z,qU (by rw[b];exact h)⟩,by rw[b];simp⟩
def aFP{B:Int->Int}{m:Nat}{u:Int}(b:0<=u)(e:u<m):aC6 B m u<m:=by
 have:=List.length_filter_lt_length_iff_exists (p:=λv:Nat=>decide (B v<B u)) (l:=List.range m);rw[vC]at this;exact this.2 ⟨u.toNat,qW.2 Z,by rw[qY b];simp⟩
def YI(y:LC)(r j:LB)(f:Lo)(v:Ll)(x:Lk){a b u d:Int}(h:fh (y,r,j,f,v,x) a b=true)(O:0<=u)(L:u<f.length)(V:0<=d)(T:d<f.length)(z:nxt (aT (y,r,j,f,v,x) a b) u d≠-1):bnF (y,r,j,f,v,x) a b d (x9 (y,r,j,f,v,x) (nxt (aT (y,r,j,f,v,x) a b) u d))<bnF (y,r,j,f,v,x) a b d u:=by
 have G:=iW y r j f v x h;have e:nxt (aT (y,r,j,f,v,x) a b) u d=qw (y,r,j,f,v,x) (bM (y,r,j,f,v,x) a b) (bf (y,r,j,f,v,x) (bM (y,r,j,f,v,x) a b)) u d:=by
  unfold aT;rw[if_pos h];exact Mp.iH _ _ u d O L V T
 rw[e]at z ⊢;unfold qw at z ⊢;split at z;exact absurd rfl z;rename_i g;rw[if_neg g];unfold Ar at z ⊢;split at z;rename_i i hi;obtain⟨_,p2,_,A⟩:=iQ.1 (qCm (p:=λi:Nat=>iK (y,r,j,f,v,x) (bM (y,r,j,f,v,x) a b) (bf (y,r,j,f,v,x) (bM (y,r,j,f,v,x) a b)) u d i) hi);have X:=qW.1 (List.mem_of_find?_eq_some hi);have:=G.2.2 i Z (by rw[G.2.1];omega);have A:(bM (y,r,j,f,v,x) a b).getD (i:Int).toNat 0+bnF (y,r,j,f,v,x) a b d (x9 (y,r,j,f,v,x) i)=bnF (y,r,j,f,v,x) a b d u:=A;show bnF (y,r,j,f,v,x) a b d (x9 (y,r,j,f,v,x) i)<_;rcases this with q|q;exact absurd q p2;omega;exact absurd rfl z
def Ni{n:Net}{nx:Lj}{to:Int}{B:Int->Int}(L:∀u:Int,0<=u->u<n.2.2.2.1.length->nxt nx u to≠-1->B (x9 n (nxt nx u to))<B u):∀(k:Nat) (o t:Int),Az n nx o to t->(lj n nx to k o t).2=0->
  ∃(i:List Stop) (T:Int),(lj n nx to k o t).1=i++[(to,T,-1,-1)]/\T<=t+95960*aC6 B n.2.2.2.1.length o/\∀s∈i,(0<=s.1/\s.1<n.2.2.2.1.length)/\0<=s.2.2.1/\s.2.2.1<=2100000
 |k,o,t,X,h=>by
  obtain⟨b,G,x,v,A,z,v0,v1⟩:=id X;by_cases g:o=to;rw[Bf k g];exact⟨[],t,by rw[g];rfl,Z,λs b=>by cases b⟩;by_cases hm:nxt nx o to=-1;rw[lu k g hm]at h;cases h;by_cases r:uW n (nxt nx o to) (aF n o t)=0;case neg=>rw[po k g hm r]at h;exact absurd h r
  cases k with
  |zero=>rw[nR g hm r]at h;cases h
  |succ k=>
   have j:noF n=true:=aK n.1 n.2.1 n.2.2.1 n.2.2.2.1 n.2.2.2.2.1 n.2.2.2.2.2 b;obtain⟨_,_,c3⟩:(nx.length:Int)=n.2.2.2.1.length/\((nx.getD o.toNat []).length:Int)=n.2.2.2.1.length/\(nxt nx o to≠-1->(0<=nxt nx o to/\nxt nx o to<n.2.2.2.2.1.length)/\bT n (nxt nx o to)=o):=dJ n.1 n.2.1 n.2.2.1 n.2.2.2.1 n.2.2.2.2.1 n.2.2.2.2.2 G x v A z;obtain⟨⟨V,O⟩,lf⟩:=c3 hm;have f:RL n (nxt nx o to):=⟨j,V,O⟩;obtain⟨g1,g2,g3,g4,g5,g6,g7,g8⟩:0<=bT n (nxt nx o to)/\bT n (nxt nx o to)<n.2.2.2.1.length/\0<=x9 n (nxt nx o to)/\x9 n (nxt nx o to)<n.2.2.2.1.length/\0<=yb n (nxt nx o to)/\yb n (nxt nx o to)<=1439/\1<=ix n (nxt nx o to)/\ix n (nxt nx o to)<=5000:=yd n.1 n.2.1 n.2.2.1 n.2.2.2.1 n.2.2.2.2.1 n.2.2.2.2.2 f;obtain⟨b1,b2,b3,b4⟩:0<=aF n o t/\aF n o t<=2000000/\aF n o t<=pS n (nxt nx o to) (aF n o t)/\pS n (nxt nx o to) (aF n o t)<=aF n o t+90000:=oD n.1 n.2.1 n.2.2.1 n.2.2.2.1 n.2.2.2.2.1 n.2.2.2.2.2 f r;obtain⟨r1,r2⟩:t+1<=aF n o t/\aF n o t<=t+960:=lI n.1 n.2.1 n.2.2.1 n.2.2.2.1 n.2.2.2.2.1 n.2.2.2.2.2 ⟨j,x,v⟩;rw[nQ k g hm r]at h ⊢;by_cases y:(lj n nx to k (x9 n (nxt nx o to)) (pS n (nxt nx o to) (aF n o t)+ix n (nxt nx o to))).2=0;case neg=>rw[FH y]at h;exact absurd h y
   obtain⟨i,T,e,hT,hi⟩:=Ni L k _ _ ⟨b,G,g3,g4,A,z,Z,Z⟩ y;have:=aFO (m:=n.2.2.2.1.length) g3 g4 (L o x v hm);rw[FD y,e];exact⟨_::i,T,rfl,Z,λs b=>by
    rcases zH.1 b with rfl|b;exact⟨⟨x,v⟩,by show 0<=pS _ _ _/\pS _ _ _<=_;omega⟩;exact hi s b⟩
def Nh(x:LC)(j g:LB)(f:Lo)(r:Ll)(v:Lk){a b o d t:Int}(X:fh (x,j,g,f,r,v) a b=true)(A:Az (x,j,g,f,r,v) (aT (x,j,g,f,r,v) a b) o d t)(t1:t<=864000)(h:ib (x,j,g,f,r,v) (aT (x,j,g,f,r,v) a b) o d t=0):∃(i:List Stop) (T:Int),gA (x,j,g,f,r,v) (aT (x,j,g,f,r,v) a b) o d t=i++[(d,T,-1,-1)]/\(0<=T/\T<=2000000)/\∀s∈i,(0<=s.1/\s.1<f.length)/\0<=s.2.2.1/\s.2.2.1<=2100000:=by
 obtain⟨hs,_,z,y,V,O,v0,_⟩:=id A;obtain⟨i,T,e,L,hi⟩:=Ni (B:=bnF (x,j,g,f,r,v) a b d) (λu z y=>YI x j g f r v X z y V O) 19 o t A h;have h1:aC6 (bnF (x,j,g,f,r,v) a b d) f.length o<f.length:=aFP z y;have h2:=(jM x j g f r v hs).1;have L:T<=t+95960*aC6 (bnF (x,j,g,f,r,v) a b d) f.length o:=L;obtain⟨_,_,G,_⟩:=r7 19 o t A h;rw[e,List.getLastD_concat]at G;have G:t<=T:=G;exact⟨i,T,e,⟨Z,Z⟩,hi⟩
def wD(v:LC)(f e:LB)(u:Lo)(j:Ll)(r:Lk){a b k o d c:Int}(h:AS (v,f,e,u,j,r) a b=true)(L:jm (v,f,e,u,j,r) o)(hd:jm (v,f,e,u,j,r) d)(hk:uG (v,f,e,u,j,r) k)(c0:1440*a<=c)(c1:c<1440*b):
  (zP (v,f,e,u,j,r) (aT (v,f,e,u,j,r) (1440*a) (1440*b)) k o d c=0->ndF (v,f,e,u,j,r) (aT (v,f,e,u,j,r) (1440*a) (1440*b)) k o d c=RQ (v,f,e,u,j,r) (aT (v,f,e,u,j,r) (1440*a) (1440*b)) k o d c/\0<=RQ (v,f,e,u,j,r) (aT (v,f,e,u,j,r) (1440*a) (1440*b)) k o d c)/\(zP (v,f,e,u,j,r) (aT (v,f,e,u,j,r) (1440*a) (1440*b)) k o d c≠0->ndF (v,f,e,u,j,r) (aT (v,f,e,u,j,r) (1440*a) (1440*b)) k o d c<0):=by
 obtain⟨hr,G⟩:=jK.1 h;obtain⟨V,X,_⟩:=nZ h;have hW:Az (v,f,e,u,j,r) (aT (v,f,e,u,j,r) (1440*a) (1440*b)) o d c:=⟨G,X,L.2.1,L.2.2,hd.2.1,hd.2.2,Z,Z⟩;generalize z:aT (v,f,e,u,j,r) (1440*a) (1440*b)=nx at *;by_cases x:ib (v,f,e,u,j,r) nx o d c=0;obtain⟨i,T,A,hT,_⟩:=Nh v f e u j r V (by rw[z];exact hW) Z (by rw[z];exact x);rw[z]at A;have eA:ndA (v,f,e,u,j,r) nx o d c=T:=by
  unfold ndA;rw[A,qA];simp
 have eW:vA (v,f,e,u,j,r) (pN nx) o d c=T:=by
  show((gA (v,f,e,u,j,r) nx o d c).getLastD _).2.1=T;rw[A,List.getLastD_concat]
 have O:Ba (v,f,e,u,j,r) k d T=true:=M5.2 ⟨hk,hd.2,hT,G⟩;have eN:ndF (v,f,e,u,j,r) nx k o d c=if DW (v,f,e,u,j,r) (pN nx) k o d c≠0 then -1 else RQ (v,f,e,u,j,r) nx k o d c:=by
  unfold ndF WG aAD;rw[if_neg (λg=>g x),eA,if_pos O,if_pos O,<- eW];rfl
 rw[eN];by_cases y:DW (v,f,e,u,j,r) (pN nx) k o d c=0;rw[if_neg (λg=>g y),GR x y];refine⟨λq=>⟨rfl,?_⟩,λq=>?_⟩;split at q;cases q;rename_i g;exact Int.not_lt.1 g;split at q;assumption;exact absurd rfl q;rw[if_pos y,Pq x y];exact⟨λq=>absurd q y,λ_=>by decide⟩;rw[Po x];unfold ndF;rw[if_pos x];exact⟨λq=>absurd q x,λ_=>by decide⟩
def aDn(y:LC)(i f:LB)(v:Lo)(j:Ll)(r:Lk){a b k o d:Int}(h:AS (y,i,f,v,j,r) a b=true)(G:jm (y,i,f,v,j,r) o)(hd:jm (y,i,f,v,j,r) d)(L:uG (y,i,f,v,j,r) k):D9 (y,i,f,v,j,r) (aT (y,i,f,v,j,r) (1440*a) (1440*b)) k o d a b=np (y,i,f,v,j,r) (aT (y,i,f,v,j,r) (1440*a) (1440*b)) k o d a b:=by
 have e:=Lx y i f v j r G L (a:=a) (b:=b) (by have:=(jK.1 h).1;omega);have z:∀c∈AG (y,i,f,v,j,r) k o a b,_:=λc u=>by
  rw[<- e]at u;exact wD y i f v j r h G hd L (u9 u).1 (u9 u).2
 unfold D9 np uY lM KB;rw[e];simp only[qR,yQ];by_cases hm:IC (y,i,f,v,j,r) (aT (y,i,f,v,j,r) (1440*a) (1440*b)) k o d a b=0;have A:=λc u=>(z c u).1 (iC hm _ (vK.2 ⟨c,u,rfl⟩));rw[if_pos hm,if_neg,zK λc u=>(A c u).1];rw[xI];rintro⟨c,u,q⟩;have:=A c u;have:=vT q;omega;rw[if_neg hm,if_pos];refine Classical.byContradiction λq=>hm (oy λx O=>?_);obtain⟨c,u,rfl⟩:=vK.1 O;exact Classical.byContradiction λg=>q (xI.2 ⟨c,u,qU ((z c u).2 g)⟩)
def aCu(u:LC)(g f:LB)(r:Lo)(i:Ll)(j:Lk){a b:Int}(h:AS (u,g,f,r,i,j) a b=true):pC (u,g,f,r,i,j) a b=p2F (u,g,f,r,i,j) a b:=by
 have x:=FK h;have v:=aK u g f r i j (jK.1 h).2;have e:HY (u,g,f,r,i,j) (aT (u,g,f,r,i,j) (1440*a) (1440*b)) a b=Ns (u,g,f,r,i,j) (aT (u,g,f,r,i,j) (1440*a) (1440*b)) a b:=by
  unfold HY Ns;rw[if_pos x,if_pos x];unfold uO;rw[qR];refine zK λk z=>?_;unfold sh P9;rw[qR];refine zK λo y=>?_;unfold qn kI;rw[qR];refine zK λd hd=>?_;have z:=qW.1 z;have y:=qW.1 y;have hd:=qW.1 hd;exact aDn u g f r i j h ⟨v,Z,Z⟩ ⟨v,Z,Z⟩ ⟨Z,Z⟩
 show(a,b,_,HY _ _ _ _)=(a,b,_,Ns _ _ _ _);rw[e];rfl
def LM{n:Net}{nx:Lj}{k o d c:Int}(h:0<=ndF n nx k o d c):ib n nx o d c=0/\WG n k d (ndA n nx o d c)=0:=by
 unfold ndF at h;by_cases b:ib n nx o d c=0;rw[if_neg (λg=>g b)]at h;refine⟨b,Classical.byContradiction λg=>?_⟩;rw[if_pos g]at h;exact absurd h (by decide);rw[if_pos b]at h;exact absurd h (by decide)
def aCy(u:LC)(f e:LB)(r:Lo)(i:Ll)(j:Lk){a b k o d c:Int}(h:AS (u,f,e,r,i,j) a b=true)(x:jm (u,f,e,r,i,j) o)(hd:jm (u,f,e,r,i,j) d)(z:uG (u,f,e,r,i,j) k)(G:fz (p2F (u,f,e,r,i,j) a b) k o d≠-1)(hc:c∈jZ (u,f,e,r,i,j) (p2F (u,f,e,r,i,j) a b) k o):goW (u,f,e,r,i,j) (p2F (u,f,e,r,i,j) a b) k o d c:=by
 obtain⟨hr,hs⟩:=jK.1 h;obtain⟨V,X,_⟩:=nZ h;have L:=VI (n:=(u,f,e,r,i,j)) h (k:=k.toNat) (o:=o.toNat) (d:=d.toNat) (by have:=z.1;have:=z.2;omega) (by have:=x.2;omega) (by have:=hd.2;omega);rw[qY z.1,qY x.2.1,qY hd.2.1]at L;have T:IC (u,f,e,r,i,j) (aT (u,f,e,r,i,j) (1440*a) (1440*b)) k o d a b=0:=Classical.byContradiction λg=>G (L.trans (if_neg g));have hM:np (u,f,e,r,i,j) (aT (u,f,e,r,i,j) (1440*a) (1440*b)) k o d a b=KB (u,f,e,r,i,j) (aT (u,f,e,r,i,j) (1440*a) (1440*b)) k o d a b (AG (u,f,e,r,i,j) k o a b).length:=if_pos T;have v:c∈AG (u,f,e,r,i,j) k o a b:=by
  unfold AG JJ;rw[show(1440*b-1440*a).toNat=(1440*(b-a)).toNat by congr 1;omega];exact hc
 have A:=v;rw[<- Lx u f e r i j x z Z]at A;obtain⟨c0,c1⟩:=u9 A;obtain⟨g1,g2⟩:=(wD u f e r i j h x hd z c0 c1).1 (iC T _ (vK.2 ⟨c,v,rfl⟩));have y:RQ (u,f,e,r,i,j) (aT (u,f,e,r,i,j) (1440*a) (1440*b)) k o d c<=fz (p2F (u,f,e,r,i,j) a b) k o d:=by
  rw[L,hM];unfold KB;rw[yQ];exact aCF _ (.inr (vK.2 ⟨c,v,rfl⟩))
 have O:Az (u,f,e,r,i,j) (aT (u,f,e,r,i,j) (1440*a) (1440*b)) o d c:=⟨hs,X,x.2.1,x.2.2,hd.2.1,hd.2.2,Z,Z⟩;rw[<- g1]at g2 y;exact⟨O,Nh u f e r i j V O Z (LM g2).1,g2,y,Z⟩
def wyP(n:Net)(nx:Lj)(o to t:Int):Prop:=cZ n=true/\Az n nx o to t/\t<=2000000
def aGE(n:Net)(p:Plan)(k o d c:Int):Prop:=(cZ n=true/\oO n p)/\uG n k/\goW n p k o d c
def aGD(n:Net)(p:Plan)(k o d c i:Int):Prop:=aGE n p k o d c/\0<=i/\i+1<=(gA n p.2.2.1 o d c).length
def RS(n:Net)(p:Plan)(o d c i:Int):Li:=mQ n p.1 ((gA n p.2.2.1 o d c).take i.toNat)
def qN(p:Plan):Net:=([],[],[],List.replicate p.2.2.1.length (⟨#[]⟩,0,0,0,0,0,[]),[],List.replicate p.2.2.2.length (⟨#[]⟩,0,0))
def hdP(p:Plan):Prop:=aGe (qN p) p
def hdL(p:Plan):Li:=hdN (qN p) p
def e1P(p:Plan)(o:Int):Prop:=hdP p/\0<=o/\o<=p.2.2.1.length
def e2P(p:Plan)(o d:Int):Prop:=e1P p o/\o<p.2.2.1.length/\0<=d/\d<=(p.2.2.1.getD o.toNat []).length
def e3P(p:Plan)(k:Int):Prop:=hdP p/\0<=k/\k<=p.2.2.2.length
def e4P(p:Plan)(k o:Int):Prop:=e3P p k/\k<p.2.2.2.length/\0<=o/\o<=(p.2.2.2.getD k.toNat []).length
def e5P(p:Plan)(k o d:Int):Prop:=e4P p k o/\o<(p.2.2.2.getD k.toNat []).length/\0<=d/\d<=((p.2.2.2.getD k.toNat []).getD o.toNat []).length
def e1L(p:Plan)(o:Int):Li:=h1N (qN p) p o
def e2L(p:Plan)(o d:Int):Li:=e1L p o++upR (p.2.2.1.getD o.toNat []) 1 d
def e3L(p:Plan)(k:Int):Li:=h2N (qN p) p k
def e4L(p:Plan)(k o:Int):Li:=h3N (qN p) p k o
def e5L(p:Plan)(k o d:Int):Li:=e4L p k o++upR ((p.2.2.2.getD k.toNat []).getD o.toNat []) 1 d
def okW(n:Net)(p:Plan):Prop:=∀k o d:Int,uG n k->jm n o->jm n d->fz p k o d≠-1->∀c∈jZ n p k o,goW n p k o d c
def wrP(n:Net)(p:Plan):Prop:=(cZ n=true/\jh p)/\oO n p/\RG n p p.2.2.2.length=0/\okW n p
def f1P(n:Net)(p:Plan)(k:Int):Prop:=wrP n p/\0<=k/\k<=n.2.2.2.2.2.length
def f2P(n:Net)(p:Plan)(k o:Int):Prop:=f1P n p k/\k<n.2.2.2.2.2.length/\0<=o/\o<=n.2.2.2.1.length
def f3P(n:Net)(p:Plan)(k o d:Int):Prop:=f2P n p k o/\o<n.2.2.2.1.length/\0<=d/\d<=n.2.2.2.1.length
def f4P(n:Net)(p:Plan)(k o d i:Int):Prop:=f3P n p k o d/\d<n.2.2.2.1.length/\0<=i/\i<=(jZ n p k o).length/\(fz p k o d=-1->i=0)
def f4L(n:Net)(p:Plan)(k o d i:Int):Li:=k3N n p k o d++lP n p k o d i.toNat
def s1P(p q n:Int)(l:Lj):Prop:=AA p q n=0/\(l.length:Int)<=q
def s2P(p q n:Int)(l:Li):Prop:=(l.length:Int)<=n
def aDL(n:Net)(p:Plan)(o:Nat):Bool:=decide (AA (bX n o).2.2.2.1 (bX n o).2.2.2.2.1 (gsF n p o).length=0)
def srB(n:Net)(p:Plan):Bool:=(List.range n.2.2.2.1.length).all (aDL n p)
def srP(n:Net)(p:Plan):Prop:=vPr n p/\oO n p
def srT(n:Net)(p:Plan)(o:Int):Prop:=srP n p/\0<=o/\o<=n.2.2.2.1.length/\(List.range o.toNat).all (aDL n p)=true
def aEO(p q n:Int):Ann:=⟨λe s=>match e with
 |7=>some {α:=Lj,inv:=λl=>s1P p q n l,st:=λl=>dD (put s [(9,.dat I (Df l)),(8,.buf 100 (Dk l))]) 100 (.buf 37 (.sl I) l []),μ:=λl=>Dc (Di q (Df l))}|11=>match s.sig.T 44 with
  |.buf b _=>some {α:=Li,inv:=λl=>s2P p q n l,st:=λl=>dD (put s [(11,.dat I (Df l)),(10,.buf b (Dk l))]) b (.buf 3 I l []),μ:=λl=>Dc (Di n (Df l))}|_=>none
 |_=>none,λe s=>match e with
 |14=>match s.sig.T 10 with
  |.buf b _=>some (frz [b] s)|_=>none
 |_=>none,λ_ _=>none⟩
abbrev C2:=aj [.row N,.val M,.val I,.val I,.val I] (λ(n,nx,o,b,t,_)=>wyP n nx o b t) λ(n,nx,o,b,t,_)=>.tup [.dat (.sl Stp) (gA n nx o b t),.dat I (ib n nx o b t)]
abbrev C0:=aj [.row N,.val I] (λ(n,o,_)=>jm n o) λ(n,o,_)=>cal (aB n o).1 (aB n o).2.1 (aB n o).2.2
abbrev CY:=aj [.val I,.val I,.val I] (λ_=>True) λ(p,q,n,_)=>.tup [.top,.dat I (AA p q n)]
def KF1:Kt:=kOr 117 C2 <|
 kOr 120 C0 <|
 kOr 56 (aj [.val R] (λ(l,_)=>Go.Eng.In.L1 l) λ(l,_)=>.dat I (Go.Eng.In.mP l)) <|
 kOr 52 CY KE8
def aKt(n:Net)(p:Plan)(k o d c:Int):Ann:=⟨λb s=>match b with
 |12=>match s.sig.T 76 with
  |.buf e _=>some {α:=Int,inv:=λi=>aGD n p k o d c i,st:=λi=>dD (put s [(18,.dat I i),(17,.buf e (Dk (RS n p o d c i)))]) e (.buf 3 I (RS n p o d c i) []),μ:=λi=>Dc (Di (Df (gA n p.2.2.1 o d c)) i)}|_=>none
 |_=>none,λb s=>match b with
 |16=>some (frz (allNames s) s)|_=>none,λ_ _=>none⟩
def hdA(p:Plan):Ann:=⟨λb s=>match b with
 |3=>some {α:=Int,inv:=λo=>e1P p o,st:=λo=>dD (put s [(4,.dat I o),(3,.buf 0 (Dk (e1L p o)))]) 0 (.buf 3 I (e1L p o) []),μ:=λo=>Dc (Di (Df p.2.2.1) o)}|6=>match s.sig.T 4 with
  |.dat (.int .i64) o=>some {α:=Int,inv:=λd=>e2P p o d,st:=λd=>dD (put s [(5,.dat I d),(3,.buf 0 (Dk (e2L p o d)))]) 0 (.buf 3 I (e2L p o d) []),μ:=λd=>Dc (Di (Df (Du p.2.2.1 (Dc o) [])) d)}|_=>none
 |10=>some {α:=Int,inv:=λk=>e3P p k,st:=λk=>dD (put s [(6,.dat I k),(3,.buf 0 (Dk (e3L p k)))]) 0 (.buf 3 I (e3L p k) []),μ:=λk=>Dc (Di (Df p.2.2.2) k)}|13=>match s.sig.T 6 with
  |.dat (.int .i64) k=>some {α:=Int,inv:=λo=>e4P p k o,st:=λo=>dD (put s [(7,.dat I o),(3,.buf 0 (Dk (e4L p k o)))]) 0 (.buf 3 I (e4L p k o) []),μ:=λo=>Dc (Di (Df (Du p.2.2.2 (Dc k) [])) o)}|_=>none
 |16=>match s.sig.T 6,s.sig.T 7 with
  |.dat (.int .i64) k,.dat (.int .i64) o=>some {α:=Int,inv:=λd=>e5P p k o d,st:=λd=>dD (put s [(8,.dat I d),(3,.buf 0 (Dk (e5L p k o d)))]) 0 (.buf 3 I (e5L p k o d) []),μ:=λd=>Dc (Di (Df (Du (Du p.2.2.2 (Dc k) []) (Dc o) [])) d)}|_,_=>none
 |_=>none,λ_ _=>none,λ_ _=>none⟩
abbrev CW:=aj [.row N,.row Pl,.val I,.val I,.val I,.val I] (λ(n,p,k,o,d,c,_)=>aGE n p k o d c) λ(n,p,k,o,d,c,_)=>.tup [.dat R (Kv n p o d c),.dat I 0]
abbrev I5:=DT [.row Pl] (λ(p,_)=>hdP p) (λ(p,_)=>.buf 0 (Dk (hdL p))) λ(p,_)=>.buf 3 I (hdL p) []
def KF2:Kt:=kOr 55 CW <|
 kOr 53 I5 KF1
def aHe(n:Net)(p:Plan):Ann:=⟨λb s=>match b with
 |5=>some {α:=Int,inv:=λk=>f1P n p k,st:=λk=>dD (put s [(7,.dat I k),(6,.buf 1 (Dk (k1N n p k)))]) 1 (.buf 3 I (k1N n p k) []),μ:=λk=>Dc (Di (Df n.2.2.2.2.2) k)}|8=>match s.sig.T 7 with
  |.dat (.int .i64) k=>some {α:=Int,inv:=λo=>f2P n p k o,st:=λo=>dD (put s [(8,.dat I o),(6,.buf 1 (Dk (k2N n p k o)))]) 1 (.buf 3 I (k2N n p k o) []),μ:=λo=>Dc (Di (Df n.2.2.2.1) o)}|_=>none
 |12=>match s.sig.T 7,s.sig.T 8 with
  |.dat (.int .i64) k,.dat (.int .i64) o=>some {α:=Int,inv:=λd=>f3P n p k o d,st:=λd=>dD (put s [(10,.dat I d),(6,.buf 1 (Dk (k3N n p k o d)))]) 1 (.buf 3 I (k3N n p k o d) []),μ:=λd=>Dc (Di (Df n.2.2.2.1) d)}|_,_=>none
 |15=>match s.sig.T 7,s.sig.T 8,s.sig.T 10 with
  |.dat (.int .i64) k,.dat (.int .i64) o,.dat (.int .i64) d=>some {α:=Int,inv:=λi=>f4P n p k o d i,st:=λi=>dD (put s [(11,.dat I i),(6,.buf 1 (Dk (f4L n p k o d i)))]) 1 (.buf 3 I (f4L n p k o d i) []),μ:=λi=>Dc (Di (Df (jZ n p k o)) i)}|_,_,_=>none
 |_=>none,λb s=>match b with
 |21=>some (frz [1] s)|_=>none,λ_ _=>none⟩
def srA(n:Net)(p:Plan):Ann:=Z8 2 Int (srT n p) (λs o=>put s [(5,.dat I o)]) λo=>Dc (Di (Df n.2.2.2.1) o)
abbrev I3:=aj [.row N,.row Pl] (λ(n,p,_)=>wrP n p) λ(n,p,_)=>.tup [.agg [.dat R (wrN n p),.dat I (wrS n p)],.dat I (wrE n p)]
abbrev CX:=aj [.row N,.row Pl] (λ(n,p,_)=>srP n p) λ(n,p,_)=>.dat .bool (srB n p)
def KF3:Kt:=kOr 28 I3 <|
 kOr 27 CX KF2
def aBA:eO 117 C2:=ae λ(((T,u,r,O,v,x):Net),(nx:Lj),(o:Int),(b:Int),(t:Int),_)=>by
 refine zF (c:={mkc KE8 with mb:=λt=>t==15||t==21||t==28||t==35}) (A:=az) aG8 gC hm (p:=let g:=(T,u,r,O,v,x);let z:=Dj (aS g);let h:=Dj z;let A:=Dz z true (Dj (l8 g nx));let i:=Dj A;let G:=Dz A true (Dj (cY o (Df nx)));let j:=Dj G;let V:=Dz G true (Dj (cY b (Df nx)));let y:=Dj V;let f:=Dz V true (Dj (bS t));let e:=gA g nx o b t;let L:=ib g nx o b t;true/\(wyP g nx o b t->cZ g/\L7 h ((h->du nx)/\L4 h ((Dh true h->h)/\Q4 i ((i->True)/\L4 i ((Dh true i->i)/\Q4 j ((j->True)/\L4 j ((Dh true j->j)/\L4 y ((y->True)/\L4 y ((Dh true y->y)/\(f->e=Dt (Int×Int×Int×Int)/\1=L/\True)/\(f=false->WX g nx o b t/\T7 e L))))))))))) ⟨rfl,λ⟨G,L,t1⟩=>?_⟩;obtain⟨y,j,i,g,d0,d1,X,_⟩:=id L;have z:=(dJ T u r O v x j i g i g).1;have e3:cY o (nx.length:Int)=true:=ot.2 ⟨i,by rw[z];exact g⟩;have e4:cY b (nx.length:Int)=true:=ot.2 ⟨d0,by rw[z];exact d1⟩;have e5:bS t=true:=Xf.2 ⟨X,t1⟩;refine Z9 ?_;simp only[qc,y,j,e3,e4,e5];exact⟨G,u5 y j,λh=>by simp at h,G,L⟩
def aBz:eO 120 C0:=ae λ(((e,h,g,b,i,j):Net),(o:Int),_)=>by
 refine zE (A:=az) (p:=let v:=(e,h,g,b,i,j);let f:=(Du b (Dc o) (ByteArray.mk #[],(0:Int),(0:Int),(0:Int),(0:Int),(0:Int),Dt ByteArray)).2.2.1;let r:=Du e (Dc f) ((0:Int),Dt Bool,Dt Int);let u:=aB v o;(jm v o->0<=o/\o<Df b/\0<=f/\f<Df e/\Q3 1 0 1 0 (r.1=u.1/\r.2.1=u.2.1/\r.2.2=u.2.2/\True))) aG8 λf=>?_;obtain⟨g1,g2,_⟩:=fJ e h g b i j f;refine Z9 ?_;exact⟨f.2.1,f.2.2,g1,g2,rfl,rfl,rfl⟩
def aBw:eO 52 CY:=ae λ((p:Int),(q:Int),(n:Int),_)=>by
 refine zF (c:={mkc KE8 with mb:=λt=>t==44}) (A:=(lvA [(7,[0,1,2,6,7,8,9,10,11]),(11,[0,1,2,6,7,8,9,10,11])] (aEO p q n))) aG8 gC hm (p:=let h:=Dn p 2;let e:=Dj h;let z:=Dz h true (Eh p 64);let f:=Dj z;let A:=Dz z true (Dn q 1);let g:=Dj A;let X:=Dz A true (Eh q 4);let V:=Dj X;let c9:=Dz X true (Dn n 0);let u:=Dj c9;let T:=Dz c9 true (Eh n 2000);let c12:=Dn (mg p q) n;true/\(True->L4 e ((Dh true e->e)/\L4 f ((Dh true f->f)/\L4 g ((Dh true g->g)/\L4 V ((Dh true V->V)/\L4 u ((Dh true u->u)/\(T->1=AA p q n/\True)/\(T=false->Yo p q/\(c12->140=AA p q n/\True)/\(c12=false->(∃x,s1P p q n x/\T2 p q n Z0 Q1 (Dk x=0/\x=Dt (Li)/\0=Df x/\x=Dt (Li)/\True))/\∀(x:Lj),let c13:=Dn (Df x) q;let c14:=mg p (Df x);let c15:=Df x+1;s1P p q n x->(c13->(∃b,s2P p q n b/\T4 p q n Z0 Q1 (Dk x) (Df x) (0=Dk b/\0=Df b/\x=x/\Dt Int=b/\True))/\∀(b:Li),let r:=Dn (Df b) n;let O:=Gf (Df b) c14;let L:=[Fp O p];let j:=Dk b+Dk L;let G:=Df b+1;let v:=[b];let i:=Dk x+Dk v;
  s2P p q n b->(r->Yo p (Df x)/\c14≠0/\inR .i64 O/\p≠0/\Dk b=Dk b/\(j*8)<=140737488355328/\j<=9223372036854775807/\inR .i64 G/\∃y,s2P p q n y/\(T4 p q n Z0 Q1 (Dk x) (Df x) (j=Dk y/\G=Df y/\x=x/\Ee b L=y/\True))/\Dc (n-Df y)<Dc (n-Df b))/\(r=false->L3 p q n Z0 Q1 (Dk x) (Df x) (Dk b) b (T6 (Df b) (Df b) n r x (Dk x) ((i*24)<=140737488355328/\i<=9223372036854775807/\inR .i64 c15/\∃y,s1P p q n y/\(T2 p q n Z0 Q1 (i=Dk y/\c15=Df y/\Ee x v=y/\True))/\Dc (q-Df y)<Dc (q-Df x)))))/\(c13=false->0=AA p q n/\True)))))))))) ⟨rfl,λ_=>?_⟩
 refine Z9 ?_;refine⟨λh=>?_,λh=>?_⟩;refine(if_neg λg=>?_).symm;unfold La qS at g;simp only[qC,qE]at g;omega;have e:AA p q n=if mg p q<n then 140 else 0:=if_pos (by
  unfold La qS;simp only[qC,qE];omega)
 refine⟨⟨Z,Z,Z⟩,λX=>by rw[e,if_pos X],λX=>?_⟩;rw[if_neg Z]at e;refine⟨⟨[],⟨e,by show(0:Int)<=q;omega⟩,rfl,rfl,rfl,rfl⟩,λx ⟨_,x1⟩=>⟨λxl=>⟨⟨[],by show(0:Int)<=n;omega,rfl,rfl,rfl⟩,λy hy=>⟨λyl=>?_,λyl=>?_⟩⟩,λ_=>e.symm⟩⟩;have w0:0<mg p x.length:=Int.pow_pos Z;have hq:0<=Gf (y.length:Int) (mg p x.length)/\Gf (y.length:Int) (mg p x.length)<=y.length:=⟨Int.tdiv_nonneg Z Z,Int.tdiv_le_self _ Z⟩;have f:∀z:Int,(y++[z]).length=y.length+1:=λz=>by simp
 exact⟨⟨Z,Z,Z⟩,Z,au Z,Z,by simp only[qL];omega,by simp only[qL];omega,au Z,y++[_],by unfold s2P;rw[f];omega,⟨by rw[f];rfl,by rw[f];omega,rfl⟩,by rw[f];omega⟩;have f:(x++[y]).length=x.length+1:=by simp
 exact⟨by simp only[qL];omega,by simp only[qL];omega,au Z,x++[y],⟨e,by rw[f];omega⟩,⟨by rw[f];rfl,by rw[f];omega,rfl⟩,by rw[f];omega⟩
def aJb:ai yv G0 KF1:=af aBA<|af aBz<|af (ae λ(l,_)=>Zd (Go.Eng.In.aA1 l))<|af aBw aG8
def aBu:eO 55 CW:=ae λ(((r,g,f,b,j,e):Net),((p1,p2,nx,u):Plan),(k:Int),(o:Int),(d:Int),(c:Int),_)=>by
 refine zF (c:={mkc KF1 with mb:=λt=>t==76||t==61}) (A:=(lvA [(12,[6,7,12,13,14,17,18,19])] (aKt (r,g,f,b,j,e) (p1,p2,nx,u) k o d c))) aJb gC hm (p:=let i:=(r,g,f,b,j,e);let A:=(p1,p2,nx,u);let c3:=ib i nx o d c;let c4:=Dw c3 0;let X:=Kv i A o d c;let T:=gA i nx o d c;let L:=Df T;let c8:=L-1;let c9:=((0:Int),(0:Int),(0:Int),(0:Int));let c10:=WG i k d (Du T (Dc c8) c9).2.1;let c11:=Dw c10 0;let c12:=ndF i nx k o d c;let c13:=Dn c12 0;let h:=Dj c13;let c15:=Du u (Dc k) (Dt (Li));let c16:=Du c15 (Dc o) [];let c17:=Dz c13 true (Eh c12 (Du c16 (Dc d) 0));true/\(aGE i A k o d c->wyP i nx o d c/\(c4->X=Dt Int/\c3=0/\True)/\(c4=false->inR .i64 c8/\0<=c8/\c8<L/\cZ i/\(c11->X=Dt Int/\c10=0/\True)/\(c11=false->aGQ i nx k o d c/\(h->h->h)/\(h->h->h)/\(h->h->h)/\(h->0<=k)/\(h->k<Df u)/\(h->h->h)/\(h->h->h)/\(h->h->h)/\(h->0<=o)/\(h->o<Df c15)/\(h->h->h)/\(h->h->h)/\(h->h->h)/\(h->0<=d)/\(h->d<Df c16)/\(h->h->h)/\(h->h->h)/\(h->h->h)/\(Dh true h->h)/\(c17->X=Dt Int/\(190:Int)=(0:Int)/\True)/\(c17=false->(∃x,let c18:=RS i A o d c x;aGD i A k o d c x/\T2 i A Z0 Q1 T (0=Dk c18/\0=x/\Dt Int=c18/\True))/\∀(x:Int),let v:=x+1;let V:=Dn v L;let c21:=Du T (Dc x) c9;let c22:=c21.1;let c23:=aB i c22;let c24:=c23.1;let c25:=c23.2;let c26:=c21.2.2.1;let c27:=bE c24 c26-p1;let c28:=c27+2;let G:=RS i A o d c x;let z:=Dk G;let c31:=[c28];let O:=z+Dk c31;
  aGD i A k o d c x->inR .i64 v/\(V->0<=x/\x<L/\jm i c22/\0<=x/\x<L/\dK c24 c25.1 c25.2 c26/\inR .i64 c27/\inR .i64 c28/\z=z/\(O*8)<=140737488355328/\O<=9223372036854775807/\inR .i64 v/\∃y,let c33:=RS i A o d c y;aGD i A k o d c y/\(T2 i A Z0 Q1 T (O=Dk c33/\v=y/\Ee G c31=c33/\True))/\Dc (L-y)<Dc (L-x))/\(V=false->L3 i A Z0 Q1 T z G x x (Q3 v T L V (G=X/\T3 Q1)))))))) ⟨rfl,λhp=>?_⟩
 obtain⟨⟨hf,L⟩,hk,hW,⟨i,T,X,⟨T0,T1⟩,hi⟩,n0,n1,c1⟩:=id hp;obtain⟨z1,z2⟩:=LM n0;obtain⟨hs,_,o0,o1,d0,d1,v0,_⟩:=id hW;have hno:=aK r g f b j e hs;obtain⟨r1,r2⟩:((u.getD k.toNat []).length=b.length)/\((u.getD k.toNat []).getD o.toNat []).length=b.length:=aDK L hk ⟨o0,o1⟩;have dl:u.length=e.length:=(AQ L).dl;have hk2:k<e.length:=hk.2;have o1:o<(b.length:Int):=o1;have d1:d<(b.length:Int):=d1;have hR:0<=p1/\p1<p2/\p2<=600/\p2-p1<=60:=vT (fF L.2).1;have X:gA (r,g,f,b,j,e) nx o d c=i++[(d,T,-1,-1)]:=X;have hl:(gA (r,g,f,b,j,e) nx o d c).length=i.length+1:=by rw[X];simp
 have h20:(gA (r,g,f,b,j,e) nx o d c).length<=20:=(r7 19 o c hW z1).1;have eI:((gA (r,g,f,b,j,e) nx o d c).length-1:Int).toNat=(gA (r,g,f,b,j,e) nx o d c).length-1:=Z;have eA:((gA (r,g,f,b,j,e) nx o d c).getD ((gA (r,g,f,b,j,e) nx o d c).length-1) (0,0,0,0)).2.1=ndA (r,g,f,b,j,e) nx o d c:=rfl;have eD:((u.getD k.toNat []).getD o.toNat []).getD d.toNat 0=fz (p1,p2,nx,u) k o d:=rfl;have n0:0<=ndF (r,g,f,b,j,e) nx k o d c:=n0;have n1:ndF (r,g,f,b,j,e) nx k o d c<=fz (p1,p2,nx,u) k o d:=n1;have hG:∀x:Int,(RS (r,g,f,b,j,e) (p1,p2,nx,u) o d c x).length<=20:=λx=>by
  unfold RS mQ;rw[vG,qP];exact wJ (Nat.min_le_right _ _) h20
 refine Z9 ?_;simp only[qc,eI,eA,eD];refine⟨⟨hf,hW,Z⟩,λh=>absurd z1 h,λ_=>⟨au Z,Z,Z,hf,λh=>absurd z2 h,λ_=>⟨⟨hf,hW,hk⟩,λ_=>hk.1,λ_=>Z,λ_=>o0,λ_=>Z,λ_=>d0,λ_=>Z,λh=>by rcases h with h|h<;>omega,λ_=>⟨⟨0,⟨hp,qH _,by show(0:Int)+1<=(gA (r,g,f,b,j,e) nx o d c).length;omega⟩,rfl,rfl,rfl⟩,λx ⟨_,x0,x1⟩=>⟨au (by have x1:x+1<=((gA (r,g,f,b,j,e) nx o d c).length:Int):=x1;omega),λxl=>?_,λxl=>?_⟩⟩⟩⟩⟩;have hx:x.toNat<i.length:=by omega
 have eg:(gA (r,g,f,b,j,e) nx o d c).getD x.toNat (0,0,0,0)=i.getD x.toNat (0,0,0,0):=by
  rw[X,qA,vS hx,<- qA]
 have e1:RS (r,g,f,b,j,e) (p1,p2,nx,u) o d c (x+1)=RS (r,g,f,b,j,e) (p1,p2,nx,u) o d c x++[aFz (r,g,f,b,j,e) p1 (i.getD x.toNat (0,0,0,0))]:=by
  unfold RS mQ;rw[show(x+1).toNat=x.toNat+1 by omega,vE (0,0,0,0) (by show x.toNat<(gA (r,g,f,b,j,e) nx o d c).length;omega),zZ];show _++[aFz (r,g,f,b,j,e) p1 ((gA (r,g,f,b,j,e) nx o d c).getD _ _)]=_;rw[eg]
 rw[eg];generalize hsx:i.getD x.toNat (0,0,0,0)=s at *;obtain⟨⟨s0,s1⟩,s2,s3⟩:=hi s (by rw[<- hsx];exact getD_mem hx);have ho:jm (r,g,f,b,j,e) s.1:=⟨hno,s0,s1⟩;obtain⟨_,_,hv,_⟩:=fJ r g f b j e ho;obtain⟨⟨y0,y1,_,_⟩,_⟩:=bD.1 hv;have eF:bE (aB (r,g,f,b,j,e) s.1).1 s.2.2.1=(s.2.2.1+(aB (r,g,f,b,j,e) s.1).1)/1440:=rfl;have eV:aFz (r,g,f,b,j,e) p1 s=bE (aB (r,g,f,b,j,e) s.1).1 s.2.2.1-p1+2:=by show bE _ _+(2-p1)=_;omega
 rw[eV]at e1;have:=hG x;rw[eF]at *;exact⟨x0,Z,ho,x0,Z,⟨hv,Z,Z⟩,au Z,au Z,by simp only[qL];omega,by simp only[qL];omega,au Z,x+1,⟨hp,Z,by show x+1+1<=((gA (r,g,f,b,j,e) nx o d c).length:Int);omega⟩,⟨by rw[e1,qF];rfl,rfl,e1.symm⟩,Z⟩;unfold RS Kv;show mQ _ _ ((gA (r,g,f,b,j,e) nx o d c).take x.toNat)=mQ _ _ (gA (r,g,f,b,j,e) nx o d c).dropLast;have x1:x+1<=((gA (r,g,f,b,j,e) nx o d c).length:Int):=x1;rw[show x.toNat=i.length by omega,X,qEa,List.dropLast_concat]
def FC{f:Nat->Int}{k m:Nat}(h:He ((List.range m).map f)=0)(g:k<=m):He ((List.range k).map f)=0:=oy λx b=>by
 obtain⟨i,e,rfl⟩:=vK.1 b;exact iC h _ (vK.2 ⟨i,qW.2 (by have:=qW.1 e;omega),rfl⟩)
def FN{f:Nat->Int}{k m:Nat}(h:He ((List.range m).map f)=0)(b:k<m):f k=0:=iC h _ (vK.2 ⟨k,qW.2 b,rfl⟩)
def aEv:eO 53 I5:=rI λ(((p1,p2,nx,b):Plan),_)=>by
 refine zF (c:={mkc KF1 with mb:=λt=>t==19}) (A:=(lvA [(3,[1,2,3,4,5,6,7,8]),(6,[1,2,3,4,5,6,7,8]),(10,[1,2,3,6,7,8]),(13,[1,2,3,6,7,8]),(16,[1,2,3,6,7,8])] (hdA (p1,p2,nx,b)))) aJb gC hm (p:=let e:=(p1,p2,nx,b);let h:=Df b;let v:=hdL e;true/\(hdP e->(∃x,e1P e x/\L5 e Z0 (4=Dk (e1L e x)/\0=x/\[p1,p2,Df nx,h]=e1L e x/\True))/\∀(x:Int),let z:=Dn x (Df nx);let A:=Dk (e1L e x);let G:=Du nx (Dc x) [];let i:=Df G;let c8:=x+1;e1P e x->(z->(∃g,e2P e x g/\L5 e Z0 (A=Dk (e2L e x g)/\x=x/\0=g/\e1L e x=e2L e x g/\True))/\∀(g:Int),let L:=Du G (Dc g) 0+1;let c10:=Dk (e2L e x g);let c11:=[L];let r:=c10+Dk c11;let T:=g+1;e2P e x g->0<=x/\x<Df nx/\(Dn g i->0<=x/\x<Df nx/\0<=g/\g<i/\inR .i64 L/\c10=c10/\(r*8)<=140737488355328/\r<=9223372036854775807/\inR .i64 T/\∃y,e2P e x y/\(L5 e Z0 (r=Dk (e2L e x y)/\x=x/\T=y/\Ee (e2L e x g) c11=e2L e x y/\True))/\Dc (i-y)<Dc (i-g))/\(Dn g i=false->inR .i64 c8/\∃y,e1P e y/\(L5 e Z0 (c10=Dk (e1L e y)/\c8=y/\e2L e x g=e1L e y/\True))/\Dc (Df nx-y)<Dc (Df nx-x)))/\(z=false->(∃g,e3P e g/\L5 e Z0 (A=Dk (e3L e g)/\0=g/\e1L e x=e3L e g/\True))/\∀(j:Int),let V:=Dk (e3L e j);let c15:=Du b (Dc j) (Dt (Li));let O:=Df c15;let c17:=j+1;e3P e j->(Dn j h->(∃f,e4P e j f/\L5 e Z0 (V=Dk (e4L e j f)/\j=j/\0=f/\e3L e j=e4L e j f/\True))/\∀(f:Int),let c18:=Dk (e4L e j f);let c19:=Du c15 (Dc f) [];let X:=Df c19;let c21:=f+1;e4P e j f->0<=j/\j<h/\(Dn f O->(∃u,let c22:=e5L e j f u;
  e5P e j f u/\L5 e Z0 (c18=Dk c22/\L5 j f (0=u/\e4L e j f=c22/\True)))/\∀(u:Int),let c23:=Du c19 (Dc u) 0+1;let c24:=e5L e j f u;let c25:=Dk c24;let c26:=[c23];let c27:=c25+Dk c26;let c28:=u+1;e5P e j f u->0<=j/\j<h/\0<=f/\f<O/\(Dn u X->0<=j/\j<h/\0<=f/\f<O/\0<=u/\u<X/\inR .i64 c23/\c25=c25/\(c27*8)<=140737488355328/\c27<=9223372036854775807/\inR .i64 c28/\∃y,let c29:=e5L e j f y;e5P e j f y/\(L5 e Z0 (c27=Dk c29/\L5 j f (c28=y/\Ee c24 c26=c29/\True)))/\Dc (X-y)<Dc (X-u))/\(Dn u X=false->inR .i64 c21/\∃y,e4P e j y/\(L5 e Z0 (c25=Dk (e4L e j y)/\j=j/\c21=y/\c24=e4L e j y/\True))/\Dc (O-y)<Dc (O-f)))/\(Dn f O=false->inR .i64 c17/\∃y,e3P e y/\(L5 e Z0 (c18=Dk (e3L e y)/\c17=y/\e4L e j f=e3L e y/\True))/\Dc (h-y)<Dc (h-j)))/\(Dn j h=false->V=Dk v/\e3L e j=v/\True)))) ⟨rfl,λv=>?_⟩
 refine Z9 ?_;have en:(qN (p1,p2,nx,b)).2.2.2.1.length=nx.length:=by unfold qN;simp
 have m12:nx.length<=12:=by rw[<- en];exact v.m
 have q4:b.length<=4:=by have:b.length=_:=v.dl;have:=v.q;omega
 have nr:∀r∈nx,r.length<=12/\∀x∈r,-1<=x/\x<=40:=λr hr=>by
  obtain⟨h1,h2⟩:=v.nr r hr;exact⟨Z,h2⟩
 have dr:∀t∈b,t.length<=12/\∀r∈t,r.length<=12/\∀x∈r,-1<=x/\x<=65518:=λt ht=>by
  obtain⟨h1,h2⟩:=v.dr t ht;exact⟨Z,λr hr=>⟨by have:=(h2 r hr).1;omega,(h2 r hr).2⟩⟩
 have hul:∀(l:Li) (x:Int),(upR l 1 x).length<=l.length:=λl x=>by
  unfold upR;rw[vG,qP];exact Nat.min_le_right _ _
 have hue:∀(l:Li) (x:Int),¬x<l.length->upR l 1 x=up1 l:=λl x h=>by
  unfold up1 upR;rw[qO Z,qO Z]
 have g0:[p1,p2,(nx.length:Int),(b.length:Int)]=e1L (p1,p2,nx,b) 0:=by simp[e1L,h1N,h4N,qN]
 have g1:∀x,e2L (p1,p2,nx,b) x 0=e1L (p1,p2,nx,b) x:=λx=>by simp[e2L,upR]
 have g3:∀x,e4L (p1,p2,nx,b) x 0=e3L (p1,p2,nx,b) x:=λx=>by simp[e3L,e4L,h3N]
 have g4:∀x y,e5L (p1,p2,nx,b) x y 0=e4L (p1,p2,nx,b) x y:=λx y=>by simp[e5L,upR]
 have k1:∀x,(e1L (p1,p2,nx,b) x).length<=148:=λx=>Vk v x;refine⟨⟨0,⟨v,qH _,qI _⟩,by rw[<- g0];rfl,rfl,g0⟩,λx ⟨_,L,V⟩=>⟨λG=>⟨⟨0,⟨⟨v,L,V⟩,G,qH _,qI _⟩,by rw[g1],rfl,(g1 x).symm⟩,λy ⟨_,_,y0,y1⟩=>⟨L,G,λT=>?_,λT=>?_⟩⟩,λG=>?_⟩⟩;have hr:=nr _ (getD_mem (l:=nx) (i:=x.toNat) (d:=[]) Z);have hc:=hr.2 _ (getD_mem (l:=nx.getD x.toNat []) (i:=y.toNat) (d:=0) Z);have e:e2L (p1,p2,nx,b) x (y+1)=e2L (p1,p2,nx,b) x y++[(nx.getD x.toNat []).getD y.toNat 0+1]:=by
  unfold e2L;rw[show(((p1,p2,nx,b):Plan).2.2.1.getD x.toNat [])=nx.getD x.toNat []from rfl,EJ y0 T,vO]
 have:(e2L (p1,p2,nx,b) x y).length<=160:=by
  unfold e2L;rw[qF];have:=hul (nx.getD x.toNat []) y;have:=k1 x;show _+(upR (nx.getD x.toNat []) 1 y).length<=_;omega
 exact⟨L,G,y0,T,au Z,by simp only[qL];omega,by simp only[qL];omega,au Z,y+1,⟨⟨v,L,V⟩,G,Z,by show y+1<=((nx.getD x.toNat []).length:Int);omega⟩,⟨by rw[e,qF],rfl,e.symm⟩,Z⟩;have e:e2L (p1,p2,nx,b) x y=e1L (p1,p2,nx,b) (x+1):=by
  unfold e2L e1L h1N;rw[jG [] L G,<- vO,hue _ _ T]
 exact⟨au Z,x+1,⟨v,Z,by show x+1<=(nx.length:Int);omega⟩,⟨by rw[e],rfl,e⟩,Z⟩;have g2:e3L (p1,p2,nx,b) 0=e1L (p1,p2,nx,b) x:=by
  have ex:x=nx.length:=by have V:x<=(nx.length:Int):=V;omega
  rw[ex];simp[e1L,e3L,h2N]
 have k3:∀x,(e3L (p1,p2,nx,b) x).length<=724:=λx=>O2 v x;refine⟨⟨0,⟨v,qH _,qI _⟩,by rw[g2],rfl,g2.symm⟩,λx ⟨_,L,V⟩=>⟨λG=>⟨⟨0,⟨⟨v,L,V⟩,G,qH _,qI _⟩,by rw[g3],rfl,(g3 x).symm⟩,λy ⟨_,_,y0,y1⟩=>⟨L,G,λT=>⟨⟨0,⟨⟨⟨v,L,V⟩,G,y0,y1⟩,T,qH _,qI _⟩,by rw[g4],rfl,(g4 x y).symm⟩,λz ⟨_,_,z0,z1⟩=>⟨L,G,y0,T,λzl=>?_,λzl=>?_⟩⟩,λT=>?_⟩⟩,λG=>?_⟩⟩;have ht:=dr _ (getD_mem (l:=b) (i:=x.toNat) (d:=[]) Z);have hr:=ht.2 _ (getD_mem (l:=b.getD x.toNat []) (i:=y.toNat) (d:=[]) Z);have hc:=hr.2 _ (getD_mem (l:=(b.getD x.toNat []).getD y.toNat []) (i:=z.toNat) (d:=0) Z);have e:e5L (p1,p2,nx,b) x y (z+1)=e5L (p1,p2,nx,b) x y z++[((b.getD x.toNat []).getD y.toNat []).getD z.toNat 0+1]:=by
  unfold e5L;rw[show((((p1,p2,nx,b):Plan).2.2.2.getD x.toNat []).getD y.toNat [])=(b.getD x.toNat []).getD y.toNat []from rfl,EJ z0 zl,vO]
 have:(e5L (p1,p2,nx,b) x y z).length<=880:=by
  unfold e5L;rw[qF];have:=hul ((b.getD x.toNat []).getD y.toNat []) z;have:(e4L (p1,p2,nx,b) x y).length<=868:=aAf v y L G;show _+(upR ((b.getD x.toNat []).getD y.toNat []) 1 z).length<=_;omega
 exact⟨L,G,y0,T,z0,zl,au Z,by simp only[qL];omega,by simp only[qL];omega,au Z,z+1,⟨⟨⟨v,L,V⟩,G,y0,y1⟩,T,Z,by show z+1<=(((b.getD x.toNat []).getD y.toNat []).length:Int);omega⟩,⟨by rw[e,qF],rfl,e.symm⟩,Z⟩;have e:e5L (p1,p2,nx,b) x y z=e4L (p1,p2,nx,b) x (y+1):=by
  unfold e5L e4L h3N;rw[jG [] y0 T,<- vO,hue _ _ zl]
 exact⟨au (by have:=(dr _ (getD_mem (l:=b) (i:=x.toNat) (d:=[]) Z)).1;omega),y+1,⟨⟨v,L,V⟩,G,Z,by show y+1<=((b.getD x.toNat []).length:Int);omega⟩,⟨by rw[e],rfl,e⟩,Z⟩;have e:e4L (p1,p2,nx,b) x y=e3L (p1,p2,nx,b) (x+1):=by
  have ey:y.toNat=(b.getD x.toNat []).length:=by have y1:y<=((b.getD x.toNat []).length:Int):=y1;omega
  unfold e4L e3L h3N h2N;rw[jG [] L G,<- vO,ey];show _++((b.getD x.toNat []).take (b.getD x.toNat []).length).flatMap up1=_;rw[yQ]
 exact⟨au Z,x+1,⟨v,Z,by show x+1<=(b.length:Int);omega⟩,⟨by rw[e],rfl,e⟩,Z⟩;have ex:x=b.length:=by have V:x<=(b.length:Int):=V;omega
 have e:e3L (p1,p2,nx,b) x=hdL (p1,p2,nx,b):=by rw[ex];rfl
 exact⟨by rw[e],e⟩
def aJa:ai yv G0 KF2:=af aBu<|af aEv aJb
def aBv:eO 27 CX:=ae λ(((j,f,e,b,g,i):Net),((p1,p2,nx,z):Plan),_)=>by
 refine zE (A:=(lvA [(2,[2,3,4,5,6,9])] (srA (j,f,e,b,g,i) (p1,p2,nx,z)))) (p:=let h:=(j,f,e,b,g,i);let r:=(p1,p2,nx,z);let u:=Df b;let v:=srB h r;(srP h r->(∃x,srT h r x/\L5 h r (0=x/\True))/\∀(x:Int),let A:=(Du b (Dc x) (ByteArray.mk #[],(0:Int),(0:Int),(0:Int),(0:Int),(0:Int),Dt ByteArray)).2.2.2;let G:=Dw (AA A.1 A.2.1 (Df (gsF h r x))) 0;let L:=x+1;srT h r x->(Dn x u->vPr h r/\0<=x/\x<u/\0<=x/\x<u/\True/\(G->false=v/\True)/\(G=false->inR .i64 L/\∃y,srT h r y/\(L5 h r (L=y/\True))/\Dc (u-y)<Dc (u-x)))/\(Dn x u=false->true=v/\True))) aJa λv=>?_;have eO:∀x:Int,b.getD x.toNat (⟨#[]⟩,0,0,0,0,0,[])=bX (j,f,e,b,g,i) x:=λ_=>rfl;refine Z9 ?_;simp only[qc,eO];have V:=(jM j f e b g i v.2.1).1;have u:∀x:Int,0<=x->aDL (j,f,e,b,g,i) (p1,p2,nx,z) x.toNat=decide (AA (bX (j,f,e,b,g,i) x).2.2.2.1 (bX (j,f,e,b,g,i) x).2.2.2.2.1 (gsF (j,f,e,b,g,i) (p1,p2,nx,z) x).length=0):=λx r=>by
  unfold aDL;rw[qY r]
 refine⟨⟨v,qH _,qI _,rfl⟩,λx ⟨_,r,O,L⟩=>⟨λG=>⟨v.1,r,G,r,G,λh=>?_,λh=>⟨au Z,x+1,⟨v,Z,by show x+1<=(b.length:Int);omega,?_⟩,rfl,Z⟩⟩,λG=>?_⟩⟩;unfold srB;refine(qAj.2 ⟨x.toNat,qW.2 (by show x.toNat<b.length;omega),?_⟩).symm;rw[u x r,vF h];decide;rw[show(x+1).toNat=x.toNat+1 by omega,zS,gV,L];simp only[qAc,List.all_nil,kM,zV];rw[u x r];exact qU h;have T:x.toNat=b.length:=by have O:x<=(b.length:Int):=O;omega
 rw[T]at L;exact L.symm
def aEt:eO 28 I3:=ae λ(((X,T,O,u,V,L):Net),((p1,p2,nx,f):Plan),_)=>by
 refine zF (c:={mkc KF2 with mb:=λt=>t==54}) (A:=(lvA [(5,[2,3,4,5,6,7,8,9,10,11,12,13]),(8,[2,3,4,5,6,7,8,9,10,11,12,13]),(12,[2,3,4,5,6,7,8,9,10,11,12,13]),(15,[2,3,4,5,6,7,8,9,10,11,12,13])] (aHe (X,T,O,u,V,L) (p1,p2,nx,f)))) aJa gC hm (p:=let e:=(X,T,O,u,V,L);let g:=(p1,p2,nx,f);let z:=Dj (WH e g);let i:=wrN e g;let j:=wrS e g;let r:=wrE e g;let A:=hdL g;let c8:=Df L;let h:=Df u;let c10:=Dw 0 0;true/\(wrP e g->vPr e g/\(z->Q3 1 0 1 0 (i=Dt Int/\0=j/\1=r/\True))/\(z=false->hdP g/\(∃x,f1P e g x/\T2 e g 1 0 0 (Dk A=Dk (k1N e g x)/\0=x/\L5 Z0 Q1 (A=k1N e g x/\True)))/\∀(x:Int),let c11:=Dk (k1N e g x);let c12:=Du f (Dc x) (Dt (Li));let c13:=x+1;let c14:=Eh (Df (k1N e g x)) 40000;f1P e g x->(Dn x c8->(∃b,let c15:=k2N e g x b;f2P e g x b/\T2 e g 1 0 0 (c11=Dk c15/\x=x/\0=b/\L5 Z0 Q1 (k1N e g x=c15/\True)))/\∀(b:Int),let c16:=k2N e g x b;let c17:=Dk c16;let c18:=iN e x b p1 p2;let c19:=Df c18;let c20:=Du c12 (Dc b) [];let c21:=Df (jZ e g x b);let c22:=b+1;f2P e g x b->(Dn b h->Uh e x b p1 p2/\(∃G,let c23:=k3N e g x b G;f3P e g x b G/\T2 e g 1 0 0 (c17=Dk c23/\Q2 x b c18 (0=G/\L5 Z0 Q1 (c16=c23/\True))))/\∀(G:Int),let c24:=k3N e g x b G;let c25:=Dk c24;let c26:=G+1;f3P e g x b G->(Dn G h->(∃v,let c27:=f4L e g x b G v;f4P e g x b G v/\T2 e g 1 0 0 (c25=Dk c27/\Q3 x b c18 G (0=v/\L5 Z0 Q1 (c24=c27/\True))))/\∀(v:Int),let c28:=Dz (Dn v c19) (Ed (Du c20 (Dc G) 0) 0) false;let c29:=Du c18 (Dc v) 0;let c30:=f4L e g x b G v;let c31:=Dk c30;let c32:=Kv e g b G c29;
  let c33:=c31+Dk c32;let c34:=v+1;f4P e g x b G v->Q4 (Dn v c19) ((Dn v c19->0<=x)/\(Dn v c19->x<Df f)/\Q4 (Dn v c19) ((Dn v c19->0<=b)/\(Dn v c19->b<Df c12)/\Q4 (Dn v c19) ((Dn v c19->0<=G)/\(Dn v c19->G<Df c20)/\L7 (Dn v c19) ((Dh true (Dn v c19)->Dn v c19)/\(c28->0<=v/\v<c19/\aGE e g x b G c29/\(c10->Q3 1 0 1 0 (i=Dt Int/\0=j/\0=r/\True))/\(c10=false->c31=c31/\(c33*8)<=140737488355328/\c33<=9223372036854775807/\inR .i64 c34/\∃y,let c35:=f4L e g x b G y;f4P e g x b G y/\(T2 e g 1 0 0 (c33=Dk c35/\Q3 x b c18 G (c34=y/\L5 Z0 Q1 (Ee c30 c32=c35/\True))))/\Dc (c21-y)<Dc (c21-v)))/\(c28=false->inR .i64 c26/\∃y,let c36:=k3N e g x b y;f3P e g x b y/\(T2 e g 1 0 0 (c31=Dk c36/\Q2 x b c18 (c26=y/\L5 Z0 Q1 (c30=c36/\True))))/\Dc (h-y)<Dc (h-G)))))))/\(Dn G h=false->inR .i64 c22/\∃y,let c37:=k2N e g x y;f2P e g x y/\(T2 e g 1 0 0 (c25=Dk c37/\x=x/\c22=y/\L5 Z0 Q1 (c24=c37/\True)))/\Dc (h-y)<Dc (h-b)))/\(Dn b h=false->inR IntKind.i64 c13/\∃y,f1P e g y/\(T2 e g 1 0 0 (c17=Dk (k1N e g y)/\c13=y/\L5 Z0 Q1 (c16=k1N e g y/\True)))/\Dc (c8-y)<Dc (c8-x)))/\(Dn x c8=false->L3 e g 1 0 0 c11 (k1N e g x) x x (T6 L L c8 (Dn x c8) Z0 Q1 ((c14->Q3 1 0 1 0 (i=Dt Int/\0=j/\2=r/\True))/\(c14=false->In.L1 (k1N e g x)/\Q3 1 0 1 0 (k1N e g x=i/\In.mP (k1N e g x)=j/\0=r/\True)))))))) ⟨rfl,λhp=>?_⟩
 obtain⟨⟨hf,hfit⟩,hpl,ha,hok⟩:=id hp;have hsh:=AQ hpl;have hno:=aK X T O u V L hpl.1;have m12:u.length<=12:=hsh.m;have q04:L.length<=4:=hsh.q;have dl:f.length=L.length:=hsh.dl;have nl:nx.length=u.length:=hsh.nl;obtain⟨hR,_,_⟩:=fF hpl.2;have hR':0<=p1/\p1<p2/\p2<=600/\p2-p1<=60:=vT hR;have hv:WH (X,T,O,u,V,L) (p1,p2,nx,f)=true:=by unfold WH;rw[hpl.1,hpl.2];rfl
 have hW:wrE (X,T,O,u,V,L) (p1,p2,nx,f)=if(AW (X,T,O,u,V,L) (p1,p2,nx,f)).length>40000 then 2 else 0:=by
  unfold wrE;rw[if_pos ⟨hpl.1,hpl.2⟩,if_neg (λg=>g ha)]
 have hH:hdP (p1,p2,nx,f):=by
  have e1:(qN (p1,p2,nx,f)).2.2.2.1.length=nx.length:=by unfold qN;simp
  have e2:(qN (p1,p2,nx,f)).2.2.2.2.2.length=f.length:=by unfold qN;simp
  exact⟨by rw[e1,nl];exact m12,by rw[e2,dl];exact q04,e1.symm,λr hr=>by rw[e1,nl];exact hsh.nr r hr,e2.symm,λt ht=>by rw[e1,nl];exact hsh.dr t ht⟩
 have eH:hdL (p1,p2,nx,f)=hdN (X,T,O,u,V,L) (p1,p2,nx,f):=by
  show[p1,p2,_,_]++_++_=[p1,p2,_,_]++_++_;simp[qN,nl,dl]
 have ec:∀x y:Int,uG (X,T,O,u,V,L) x->jm (X,T,O,u,V,L) y->iN (X,T,O,u,V,L) x y p1 p2=jZ (X,T,O,u,V,L) (p1,p2,nx,f) x y:=λx y hx hy=>by
  rw[Lx X T O u V L hy hx Z];unfold AG JJ;rw[show(1440*p2-1440*p1).toNat=(1440*(p2-p1)).toNat by congr 1;omega];rfl
 refine Z9 ?_;refine⟨⟨hf,hfit⟩,λh=>(by rw[hv]at h;cases h),λ_=>⟨hH,⟨0,⟨hp,qH _,qI _⟩,by rw[eH];simp[k1N,WS],rfl,by rw[eH];simp[k1N,WS]⟩,λx ⟨_,x0,x1⟩=>⟨λxl=>⟨⟨0,⟨⟨hp,x0,x1⟩,xl,qH _,qI _⟩,by simp[k2N,Sl],rfl,by simp[k2N,Sl]⟩,λy ⟨_,_,y0,y1⟩=>⟨λyl=>⟨⟨⟨hno,y0,yl⟩,⟨x0,xl⟩,Z,Z,Z⟩,⟨0,⟨⟨⟨hp,x0,x1⟩,xl,y0,y1⟩,yl,qH _,qI _⟩,by simp[k3N,Ud],rfl,by simp[k3N,Ud]⟩,λz ⟨_,_,z0,z1⟩=>⟨λzl=>⟨⟨0,⟨⟨⟨⟨hp,x0,x1⟩,xl,y0,y1⟩,yl,z0,z1⟩,zl,qH _,qI _,λ_=>rfl⟩,by simp[f4L,lP],rfl,by simp[f4L,lP]⟩,λi ⟨_,_,i0,i1,i2⟩=>?_⟩,λzl=>?_⟩⟩,λyl=>?_⟩⟩,λxl=>?_⟩⟩⟩;have hk:uG (X,T,O,u,V,L) x:=⟨x0,xl⟩;have ho:jm (X,T,O,u,V,L) y:=⟨hno,y0,yl⟩;have hd:jm (X,T,O,u,V,L) z:=⟨hno,z0,zl⟩;obtain⟨r1,r2⟩:(f.getD x.toNat []).length=u.length/\((f.getD x.toNat []).getD y.toNat []).length=u.length:=aDK hpl hk ⟨y0,yl⟩;have ta:Xn (X,T,O,u,V,L) (p1,p2,nx,f) x (f.getD x.toNat []).length=0:=by
  have:=FN ha (k:=x.toNat) (by show x.toNat<f.length;omega);rwa [qY x0]at this
 have ra:oA (X,T,O,u,V,L) (p1,p2,nx,f) x y ((f.getD x.toNat []).getD y.toNat []).length=0:=by
  have:=FN ta (k:=y.toNat) Z;rwa [qY y0]at this
 have ca:Aj (X,T,O,u,V,L) (p1,p2,nx,f) x y z=0:=by
  have:=FN ra (k:=z.toNat) Z;rwa [qY z0]at this
 have eD:((f.getD x.toNat []).getD y.toNat []).getD z.toNat 0=fz (p1,p2,nx,f) x y z:=rfl;rw[ec x y hk ho,eD];have hkl:(k3N (X,T,O,u,V,L) (p1,p2,nx,f) x y z).length<=900000000000:=by
  have l1:=M8 hpl (k:=x.toNat) (by show x.toNat<=L.length;omega) (FC ha (by show x.toNat<=f.length;omega));have l2:=KQ hpl hk (k:=y.toNat) (by show y.toNat<=u.length;omega) (FC ta Z);have l3:=Lq hpl hk (o:=y) (k:=z.toNat) ⟨y0,yl⟩ (by show z.toNat<=u.length;omega) (FC ra Z);have l4:=O2 hsh f.length;unfold k3N k2N k1N hdN;simp only[qF];omega
 have hcb:=MS ⟨ho,hk,hR⟩;have dn:=((hsh.dr _ (getD_mem (l:=f) (i:=x.toNat) (d:=[]) Z)).2 _ (getD_mem (l:=f.getD x.toNat []) (i:=y.toNat) (d:=[]) Z)).2 _ (getD_mem (l:=(f.getD x.toNat []).getD y.toNat []) (i:=z.toNat) (d:=0) Z);rw[eD]at dn;have i1:i<=((jZ (X,T,O,u,V,L) (p1,p2,nx,f) x y).length:Int):=i1;refine⟨λ_=>x0,λ_=>Z,λ_=>y0,λ_=>Z,λ_=>z0,λ_=>Z,λ⟨h1,h2⟩=>?_,λh=>?_⟩;have hne:fz (p1,p2,nx,f) x y z≠-1:=by omega
 have hg:=hok x y z hk ho hd hne _ (getD_mem (l:=jZ (X,T,O,u,V,L) (p1,p2,nx,f) x y) (i:=i.toNat) (d:=0) Z);have kz:jP (X,T,O,u,V,L) (p1,p2,nx,f) x y z=0:=by
  have:=ca;unfold Aj at this;rwa [if_neg hne]at this
 have kl:=rC (n:=(X,T,O,u,V,L)) (p:=(p1,p2,nx,f)) (c:=x) (o:=y) (d:=z) (k:=0) (xs:=[]) (j:=i.toNat) ⟨⟨⟨hpl,hk,ho,hd⟩,rfl,wU _⟩,Z,λj hj=>Jk kz _ (getD_mem Z)⟩;have wl:=(EI hg.1 (LM hg.2.2.1).1).1;have e:f4L (X,T,O,u,V,L) (p1,p2,nx,f) x y z (i+1)=f4L (X,T,O,u,V,L) (p1,p2,nx,f) x y z i++Kv (X,T,O,u,V,L) (p1,p2,nx,f) y z ((jZ (X,T,O,u,V,L) (p1,p2,nx,f) x y).getD i.toNat 0):=by
  unfold f4L lP;rw[jG 0 i0 h1,vO]
 have hl:(f4L (X,T,O,u,V,L) (p1,p2,nx,f) x y z i).length<=900010000000:=by
  unfold f4L;rw[qF];omega
 exact⟨i0,h1,⟨⟨hf,hpl⟩,hk,hg⟩,λg=>absurd rfl g,Z,Z,au Z,i+1,⟨⟨⟨⟨hp,x0,x1⟩,xl,y0,y1⟩,yl,z0,z1⟩,zl,Z,Z,λq=>absurd q hne⟩,⟨by rw[e,qF],rfl,e.symm⟩,Z⟩;have e:f4L (X,T,O,u,V,L) (p1,p2,nx,f) x y z i=k3N (X,T,O,u,V,L) (p1,p2,nx,f) x y (z+1):=by
  unfold f4L k3N Ud;rw[jy z0,qY z0,<- vO];congr 1;unfold A6;by_cases hne:fz (p1,p2,nx,f) x y z=-1;rw[if_pos hne,i2 hne];simp[lP];rw[if_neg hne,show i.toNat=(jZ (X,T,O,u,V,L) (p1,p2,nx,f) x y).length by
   have:=qCb.1 (λq:¬¬i<((jZ (X,T,O,u,V,L) (p1,p2,nx,f) x y).length:Int)=>absurd Z (h (qCb.1 q)));omega]
  rfl
 exact⟨au Z,z+1,⟨⟨⟨hp,x0,x1⟩,xl,y0,y1⟩,yl,Z,by show z+1<=(u.length:Int);omega⟩,⟨by rw[e],rfl,e⟩,Z⟩;obtain⟨_,r2⟩:(f.getD x.toNat []).length=u.length/\((f.getD x.toNat []).getD y.toNat []).length=u.length:=aDK hpl ⟨x0,xl⟩ ⟨y0,yl⟩;have ez:z.toNat=((f.getD x.toNat []).getD y.toNat []).length:=by have z1:z<=(u.length:Int):=z1;omega
 have e:k3N (X,T,O,u,V,L) (p1,p2,nx,f) x y z=k2N (X,T,O,u,V,L) (p1,p2,nx,f) x (y+1):=by
  unfold k3N;rw[ez];unfold k2N Sl;rw[jy y0,qY y0,vO]
 exact⟨au Z,y+1,⟨⟨hp,x0,x1⟩,xl,Z,by show y+1<=(u.length:Int);omega⟩,⟨by rw[e],rfl,e⟩,Z⟩;obtain⟨q1,_⟩:=hsh.dr _ (getD_mem (l:=f) (i:=x.toNat) (d:=[]) Z);have q1:(f.getD x.toNat []).length=u.length:=q1;have ey:y.toNat=(f.getD x.toNat []).length:=by have y1:y<=(u.length:Int):=y1;omega
 have e:k2N (X,T,O,u,V,L) (p1,p2,nx,f) x y=k1N (X,T,O,u,V,L) (p1,p2,nx,f) (x+1):=by
  unfold k2N;rw[ey];unfold k1N WS;rw[jy x0,qY x0,vO]
 exact⟨au Z,x+1,⟨hp,Z,by show x+1<=(L.length:Int);omega⟩,⟨by rw[e],rfl,e⟩,Z⟩;have eN:k1N (X,T,O,u,V,L) (p1,p2,nx,f) x=AW (X,T,O,u,V,L) (p1,p2,nx,f):=by
  unfold k1N AW;rw[show x.toNat=f.length by have x1:x<=(L.length:Int):=x1;omega]
 rw[eN];refine⟨λh=>?_,λh=>?_⟩;rw[if_pos Z]at hW;have hn:¬wrE (X,T,O,u,V,L) (p1,p2,nx,f)=0:=by rw[hW];decide
 exact⟨if_neg hn,(if_neg hn).symm,hW.symm⟩;rw[if_neg Z]at hW;exact⟨by show _<=_;omega,(if_pos hW).symm,(if_pos hW).symm,hW.symm⟩
def aGk:ai yv G0 KF3:=af aEt<|af aBv aJa
def O9{n:Net}{a b:Int}(h:AS n a b=true):jh (p2F n a b):=by
 have e:=AQ (p:=p2F n a b) ⟨(jK.1 h).2,aC4 h⟩;have g:=e.m;exact⟨(nZ h).2.2,by have:=e.dl;have:=e.q;omega,λt i=>by
  obtain⟨u,f⟩:=e.dr t i;exact⟨Z,λr j=>by have:=(f r j).1;omega⟩⟩
abbrev CZ:=aj [.row N,.val I,.val I] (λ(n,_)=>cZ n=true) λ(n,a,b,_)=>.tup [.agg [.dat I (uF n a b).1,.dat I (uF n a b).2.1,.dat M (uF n a b).2.2.1,.dat (.sl M) (uF n a b).2.2.2],.agg [.dat R (Hf n a b).1,.dat I (Hf n a b).2],.dat I (rP n a b)]
def aBy:eO 8 CZ:=ae λ(((x,r,j,f,u,v):Net),(a:Int),(b:Int),_)=>by
 refine zE (A:=az) (p:=let g:=(x,r,j,f,u,v);let z:=Dj (AS g a b);let e:=uF g a b;let y:=Hf g a b;let i:=rP g a b;let h:=pC g a b;let c22:=Dj (srB g h);let c23:=wrE g h;let c24:=Dw c23 0;(cZ g->cZ g/\(z->T5 1 0 1 0 1 0 1 0 (0=e.1/\0=e.2.1/\e.2.2.1=Dt (Li)/\e.2.2.2=Dt (Lj)/\y.1=Dt Int/\0=y.2/\1=i/\True))/\(z=false->aIp g a b/\Q3 1 0 1 0 (srP g h/\(c22->T5 1 0 1 0 1 0 1 0 (0=e.1/\0=e.2.1/\e.2.2.1=Dt (Li)/\e.2.2.2=Dt (Lj)/\y.1=Dt Int/\0=y.2/\140=i/\True))/\(c22=false->L5 1 0 (wrP g h/\L5 1 0 ((c24->T5 1 0 1 0 1 0 1 0 (0=e.1/\0=e.2.1/\e.2.2.1=Dt (Li)/\e.2.2.2=Dt (Lj)/\y.1=Dt Int/\0=y.2/\c23=i/\True))/\(c24=false->L3 1 0 1 0 1 0 1 0 1 (Q2 0 1 0 (h.1=e.1/\h.2.1=e.2.1/\h.2.2.1=e.2.2.1/\h.2.2.2=e.2.2.2/\wrN g h=y.1/\wrS g h=y.2/\0=i/\True)))))))))) aGk λhf=>?_;have O:rP (x,r,j,f,u,v) a b≠0->uF (x,r,j,f,u,v) a b=(0,0,[],[])/\Hf (x,r,j,f,u,v) a b=([],0):=λh=>⟨if_neg h,if_neg h⟩;refine Z9 ?_;refine⟨hf,λh=>?_,λh=>?_⟩;have h1:PL (x,r,j,f,u,v) (p0F a b)=1:=if_neg (by rw[xJ];exact h);have e:rP (x,r,j,f,u,v) a b=1:=by unfold rP;rw[h1];rfl
 obtain⟨X,V⟩:=O (by rw[e];decide);rw[X,V,e];exact⟨rfl,rfl,rfl,rfl,rfl,rfl,rfl⟩;rw[aCu x r j f u v h];have hs:=(jK.1 h).2;have L:oO (x,r,j,f,u,v) (p2F (x,r,j,f,u,v) a b):=⟨hs,aC4 h⟩;have G:=O9 h;have h1:PL (x,r,j,f,u,v) (p0F a b)=0:=if_pos h;have z:rP (x,r,j,f,u,v) a b=if py (x,r,j,f,u,v) (p1F (x,r,j,f,u,v) a b)≠0 then py (x,r,j,f,u,v) (p1F (x,r,j,f,u,v) a b)else wrE (x,r,j,f,u,v) (p2F (x,r,j,f,u,v) a b):=by
  unfold rP;rw[if_neg (λg=>g h1)]
 have eO:∀o:Nat,o<f.length->aDL (x,r,j,f,u,v) (p2F (x,r,j,f,u,v) a b) o=decide (Qn (x,r,j,f,u,v) (p1F (x,r,j,f,u,v) a b) o=0):=λo ho=>by
  have hg:gsF (x,r,j,f,u,v) (p2F (x,r,j,f,u,v) a b) o=-1::rZ (p1F (x,r,j,f,u,v) a b) o:=if_pos (by
   unfold gOk;rw[hs,L.2,show cY (o:Int) _=true from ot.2 ⟨Z,by show(o:Int)<f.length;omega⟩];rfl)
  unfold aDL Qn;rw[hg,wO,show(((rZ (p1F (x,r,j,f,u,v) a b) o).length+1:Nat):Int)=1+(rZ (p1F (x,r,j,f,u,v) a b) o).length by omega]
 have eB:srB (x,r,j,f,u,v) (p2F (x,r,j,f,u,v) a b)=(List.range f.length).all λo:Nat=>decide (Qn (x,r,j,f,u,v) (p1F (x,r,j,f,u,v) a b) o=0):=by
  unfold srB;rw[xC,qQ,qQ];exact⟨λq i T=>by rw[<- eO i (qW.1 T)];exact q i T,λq i T=>by rw[eO i (qW.1 T)];exact q i T⟩
 have hno:=aK x r j f u v hs;refine⟨⟨hf,h⟩,⟨⟨hf,G⟩,L⟩,λhb=>?_,λhb=>⟨⟨⟨hf,G⟩,L,all_zero h,λk o d hk ho hd hn c hc=>aCy x r j f u v h ho hd hk hn hc⟩,?_⟩⟩;have e:py (x,r,j,f,u,v) (p1F (x,r,j,f,u,v) a b)=140:=if_neg (by rw[eB]at hb;rw[xJ];exact hb);rw[e]at z;have z:rP (x,r,j,f,u,v) a b=140:=z;obtain⟨X,V⟩:=O (by rw[z];decide);rw[X,V,z];exact⟨rfl,rfl,rfl,rfl,rfl,rfl,rfl⟩;have e:py (x,r,j,f,u,v) (p1F (x,r,j,f,u,v) a b)=0:=if_pos (by rw[<- eB];exact hb);rw[e,if_neg (λg=>g rfl)]at z;refine⟨λhw=>?_,λhw=>?_⟩;obtain⟨X,V⟩:=O (by rw[z];exact hw);rw[X,V,z];exact⟨rfl,rfl,rfl,rfl,rfl,rfl,rfl⟩;rw[hw]at z;rw[show uF (x,r,j,f,u,v) a b=p2F (x,r,j,f,u,v) a b from if_pos z,show Hf (x,r,j,f,u,v) a b=(wrN (x,r,j,f,u,v) (p2F (x,r,j,f,u,v) a b),wrS (x,r,j,f,u,v) (p2F (x,r,j,f,u,v) a b))from if_pos z,z];exact⟨rfl,rfl,rfl,rfl,rfl,rfl,rfl⟩
def w12(p:Plan):Bool:=decide (p.2.1>IntKind.i64.wrap (p.1+12))&&decide (p.2.1<=IntKind.i64.wrap (p.1+60))
def sxT(t:Lj):Bool:=decide ((t.length:Int)<=10)&&t.all λr=>decide ((r.length:Int)<=10)
def sxB(n:Net)(p:Plan):Bool:=(smF n p.2.2.1&&decide ((n.2.2.2.2.2.length:Int)<=3))&&(!w12 p&&decide ((p.2.2.2.length:Int)<=5))
def aBZ(n:Net)(p:Plan):Bool:=sxB n p&&p.2.2.2.all sxT
def aEH(n:Net)(p:Plan)(k:Int):Prop:=sxB n p=true/\(0<=k/\k<=p.2.2.2.length)/\∀i:Nat,(i:Int)<k->sxT (p.2.2.2.getD i [])=true
def XO(n:Net)(p:Plan)(k j:Int):Prop:=(aEH n p k/\k<p.2.2.2.length)/\(((p.2.2.2.getD k.toNat []).length:Int)<=10/\0<=j/\j<=(p.2.2.2.getD k.toNat []).length)/\∀i:Nat,(i:Int)<j->(((p.2.2.2.getD k.toNat []).getD i []).length:Int)<=10
def qi(a b:Li)(s u:Int):Bool:=decide (s=u)&&lE a b
def HT(p q:Plan):Bool:=decide (p.1=q.1)&&decide (p.2.1=q.2.1)&&pz p.2.2.1 q.2.2.1&&uP p.2.2.2 q.2.2.2
def UM(p:Plan):Prop:=mild p.2.2.1/\LS p.2.2.2
def sxA(n:Net)(p:Plan):Ann:=⟨λb s=>match b with
 |4=>some {α:=Int,inv:=λk=>aEH n p k,st:=λk=>put s [(5,.dat I k)],μ:=λk=>Dc (Di (Df p.2.2.2) k)}|9=>match s.sig.T 5 with
  |.dat (.int .i64) k=>some {α:=Int,inv:=λj=>XO n p k j,st:=λj=>put s [(6,.dat I j)],μ:=λj=>Dc (Di 10 j)}|_=>none
 |_=>none,λ_ _=>none,λ_ _=>none⟩
abbrev I4:=aj [.row N,.row Pl] (λ_=>True) λ(n,p,_)=>.dat .bool (aBZ n p)
abbrev OO:=aj [.row Pl,.row Pl] (λ(p,_,_)=>UM p) λ(p,q,_)=>.dat .bool (HT p q)
def KF4:Kt:=kOr 6 I4 <|
 kOr 12 (aj [.row (.pair R I),.row (.pair R I)] (λ(a,_,_)=>je a.1) λ(a,b,_)=>.dat .bool (qi a.1 b.1 a.2 b.2)) <|
 kOr 11 OO <|
 kOr 8 CZ KF3
def aIa{l:Lj}(h:∀i:Nat,(i:Int)<(l.length:Int)->((l.getD i []).length:Int)<=10):l.all (λr=>decide ((r.length:Int)<=10))=true:=by
 refine qQ.2 λr b=>?_;obtain⟨i,e,rfl⟩:=wX.1 b;have:=h i Z;rw[qA,qB e,qK]at this;rw[qE];exact this
def aEu:eO 6 I4:=ae λ(((O,z,v,L,G,g):Net),((p1,p2,nx,b):Plan),_)=>by
 refine zF (c:={mkc KF3 with mb:=λt=>t==23||t==30}) (A:=(lvA [(4,[3,4,5,6]),(9,[3,4,5,6])] (sxA (O,z,v,L,G,g) (p1,p2,nx,b)))) aGk gC hm (p:=let i:=(O,z,v,L,G,g);let V:=Dj (smF i nx);let T:=Dj V;let X:=Dz V true (Eh (Df g) 3);let h:=Dj X;let r:=Eh p2 (Ep IntKind.i64 (p1+12));let c7:=Dz X true (Dz r (Ef p2 (Ep IntKind.i64 (p1+60))) false);let c8:=Dj c7;let j:=Df b;let c10:=Dz c7 true (Eh j 5);let e:=(p1,p2,nx,b);let u:=aBZ i e;true/\(True->True/\Q4 T ((Dh true T->T)/\Q4 h (Q4 h (L7 (Dh h r) (Q4 (Dh h r) (L4 h ((h->Dh h r->Dh h r)/\(Dh true h->h)/\Q4 c8 ((Dh true c8->c8)/\(c10->false=u/\True)/\(c10=false->(∃x,aEH i e x/\e=e/\0=x/\True)/\∀(x:Int),let c13:=Du b (Dc x) (Dt (Li));let A:=Df c13;let c15:=Eh A 10;let c16:=x+1;aEH i e x->(Dn x j->0<=x/\x<j/\(c15->false=u/\True)/\(c15=false->(∃f,XO i e x f/\L5 e x (0=f/\True))/\∀(f:Int),let c17:=Eh (Df (Du c13 (Dc f) [])) 10;let c18:=f+1;XO i e x f->0<=x/\x<j/\(Dn f A->0<=x/\x<j/\0<=f/\f<A/\(c17->false=u/\True)/\(c17=false->inR .i64 c18/\∃y,XO i e x y/\(L5 e x (c18=y/\True))/\Dc (10-y)<Dc (10-f)))/\(Dn f A=false->inR .i64 c16/\∃y,aEH i e y/\(e=e/\c16=y/\True)/\Dc (j-y)<Dc (j-x))))/\(Dn x j=false->true=u/\True))))))))))) ⟨rfl,λ_=>?_⟩
 refine Z9 ?_;have e1:aBZ (O,z,v,L,G,g) (p1,p2,nx,b)=(sxB (O,z,v,L,G,g) (p1,p2,nx,b)&&b.all sxT):=rfl;have e2:sxB (O,z,v,L,G,g) (p1,p2,nx,b)=((smF (O,z,v,L,G,g) nx&&decide ((g.length:Int)<=3))&&(!w12 (p1,p2,nx,b)&&decide ((b.length:Int)<=5))):=rfl;have e3:w12 (p1,p2,nx,b)=(decide (p2>IntKind.i64.wrap (p1+12))&&decide (p2<=IntKind.i64.wrap (p1+60))):=rfl;generalize aBZ (O,z,v,L,G,g) (p1,p2,nx,b)=W at e1;generalize w12 (p1,p2,nx,b)=w at e2 e3;have e0:sxB (O,z,v,L,G,g) (p1,p2,nx,b)=false->false=W:=λh=>by rw[e1,h];rfl
 have ef:b.all sxT=false->false=W:=λh=>by rw[e1,h,zJ]
 refine⟨λh=>e0 ?_,λ⟨⟨⟨h1,h2⟩,h3⟩,h4⟩=>?_⟩;rw[e2];rcases h with((h|h)|⟨h,h'⟩)|h;rw[h];rfl;rw[vF (p:=(g.length:Int)<=3) Z,zJ];rfl;rw[e3,qU h,qU h',kM,yL,gG,zJ];rw[vF (p:=(b.length:Int)<=5) Z,zJ,zJ];have eB:sxB (O,z,v,L,G,g) (p1,p2,nx,b)=true:=by
  have hw:w=false:=by
   rw[e3];by_cases h:p2>IntKind.i64.wrap (p1+12);rw[vF (p:=p2<=_) (h3 h),zJ];rw[vF h];rfl
  rw[e2,h1,hw,qU (p:=(g.length:Int)<=3) Z,qU (p:=(b.length:Int)<=5) Z];rfl
 refine⟨⟨eB,⟨qH _,qI _⟩,λi h=>Z⟩,λx X=>⟨λu=>?_,λhge=>?_⟩⟩;have x0:0<=x:=X.2.1.1;have hmem:b.getD x.toNat []∈b:=by
  rw[qA,qB (show x.toNat<b.length by omega),qK];exact wL _
 have T:sxT (b.getD x.toNat [])=false->false=W:=λh=>ef (qAj.2 ⟨_,hmem,by rw[h];decide⟩);refine⟨x0,u,λhb=>T ?_,λhb=>⟨⟨⟨X,u⟩,⟨by show((b.getD x.toNat []).length:Int)<=10;omega,qH _,qI _⟩,λi h=>Z⟩,λy V=>⟨x0,u,λhy1=>⟨x0,u,V.2.1.2.1,hy1,λhb2=>T ?_,λhb2=>?_⟩,λhy1=>?_⟩⟩⟩;unfold sxT;rw[vF Z];rfl;have hm2:(b.getD x.toNat []).getD y.toNat []∈b.getD x.toNat []:=by
  have:=V.2.1.2.1;exact getD_mem Z
 unfold sxT;rw[show((b.getD x.toNat []).all λr=>decide ((r.length:Int)<=10))=false from qAj.2 ⟨_,hm2,by rw[qE];omega⟩,zJ];have y0:0<=y:=V.2.1.2.1;have y1:((b.getD x.toNat []).length:Int)<=10:=V.2.1.1;refine⟨au Z,y+1,⟨⟨X,u⟩,⟨y1,Z,by show y+1<=((b.getD x.toNat []).length:Int);omega⟩,λi hi=>?_⟩,rfl,Z⟩;by_cases h:(i:Int)<y;exact V.2.2 i h;have:i=y.toNat:=by omega
 rw[this];show(((b.getD x.toNat []).getD y.toNat []).length:Int)<=10;omega;have hx1:x<=(b.length:Int):=X.2.1.2;refine⟨au Z,x+1,⟨eB,⟨Z,by show x+1<=(b.length:Int);omega⟩,λi hi=>?_⟩,rfl,Z⟩;by_cases h:(i:Int)<x;exact X.2.2 i h;have:i=x.toNat:=by omega
 rw[this];show sxT (b.getD x.toNat [])=true;unfold sxT;rw[qU Z,zV];refine aIa λj hj=>?_;exact V.2.2 j Z;rw[e1,eB,zV];refine(qQ.2 λr hr=>?_).symm;obtain⟨i,hi,rfl⟩:=wX.1 hr;have:=X.2.2 i Z;rw[show((p1,p2,nx,b):Plan).2.2.2=b from rfl,qA,qB hi,qK]at this;exact this
def aHW(a b:Li)(s u:Int):ah yv G0 12 [.agg [.dat R a,.dat I s],.agg [.dat R b,.dat I u]] [] ⟨je a,.dat .bool (qi a b s u),[]⟩:=by
 refine zE (A:=(lvA [(4,[2,3,4,5])] (iA a b))) (p:=let g:=Dw s u;let e:=Dj g;let h:=Dz g true (Dw (Df a) (Df b));let f:=qi a b s u;let i:=(a,s);let j:=(b,u);(je a->Q4 e (Q4 e ((Dh true e->Dj g)/\(h->false=f/\True)/\(h=false->(∃x,pA a b x/\L5 i j (0=x/\True))/\∀(x:Int),let r:=Dn x (Df a);let v:=Dw (Du a (Dc x) 0) (Du b (Dc x) 0);let z:=x+1;pA a b x->(r->0<=x/\x<Df a/\0<=x/\x<Df b/\(v->false=f/\True)/\(v=false->inR .i64 z/\∃y,pA a b y/\(L5 i j (z=y/\True))/\Dc (Df a-y)<Dc (Df a-x)))/\(r=false->true=f/\True)))))) aGk λj=>?_;refine Z9 ?_;refine⟨λh=>?_,λ⟨v,z⟩=>⟨⟨qH _,qI _,Z,j,rfl⟩,λx ⟨i,g1,g2,g3,g4⟩=>⟨λf=>⟨i,f,i,Z,λhd=>?_,λhd=>⟨au Z,x+1,⟨Z,Z,g2,g3,?_⟩,rfl,Z⟩⟩,λr=>?_⟩⟩⟩;unfold qi;rcases h with h|h;rw[vF h];rfl;rw[<- u7 (a:=a) (b:=b) λe=>h (by rw[e]),zJ];unfold qi;rw[<- u7 (a:=a) (b:=b) λe=>hd (by rw[e]),zJ];rw[show(x+1).toNat=x.toNat+1 by omega];exact iY g4 Z Z hd;rw[qO Z,qO Z]at g4;subst g4;unfold qi lE;rw[qU v];simp
def aHU:eO 11 OO:=ae λ((p:Plan),(q:Plan),_)=>by
 refine zE (A:=az) (p:=let f:=Eb p.1 q.1;let b:=Dz f (Eb p.2.1 q.2.1) false;let e:=Dz b (pz p.2.2.1 q.2.2.1) false;(UM p->L4 f (Q4 f ((Dh true f->Eb p.1 q.1)/\L4 b (Q4 b ((b->mild p.2.2.1)/\(Dh true b->b)/\L4 e (Q4 e ((e->LS p.2.2.2)/\(Dh true e->e)/\Dz e (uP p.2.2.2 q.2.2.2) false=HT p q/\True)))))))) aGk λb=>?_;refine Z9 ?_;exact⟨λ_=>b.1,λ_=>b.2,rfl⟩
def aKV:ai yv G0 KF4:=af aEu<|af (ae λ(a,b,_)=>aHW a.1 b.1 a.2 b.2)<|af aHU<|af aBy aGk
def aBS{n:Net}{p:Plan}(h:aBZ n p=true):jh p/\(∀r∈p.2.2.1,r.length<=10)/\n.2.2.2.1.length<=6:=by
 unfold aBZ sxB smF at h;simp only[qC,qE,qQ]at h;obtain⟨⟨⟨⟨⟨_,u⟩,j,e⟩,_⟩,_,i⟩,g⟩:=h;have e:∀r∈p.2.2.1,r.length<=10:=λr b=>by have:=e r b;omega
 exact⟨⟨⟨Z,λr b=>by have:=e r b;omega⟩,Z,λt f=>by
  have:=g t f;unfold sxT at this;simp only[qC,qE,qQ]at this;exact⟨Z,λr b=>by have:=this.2 r b;omega⟩⟩,e,Z⟩
def aBx(a b o:Int)(u:LC)(f e:LB)(j:Lo)(h:Ll)(i:Lk)(p1 p2:Int)(nx:Lj)(T:List (Lj)):ah yv G0 3 [net u f e j h i,.dat I a,.dat I b,.agg [.dat I p1,.dat I p2,.dat M nx,.dat (.sl M) T],.dat I o] [] ⟨True,.dat .bool true,[]⟩:=by
 refine zF (c:={mkc KF4 with mb:=λt=>t==28}) (A:=az) aKV gC hm (p:=let g:=(u,f,e,j,h,i);let X:=Dj (aGJ g a b);let z:=Dj X;let A:=(p1,p2,nx,T);let c5:=Dz X true (Dj (aBZ g A));let c6:=rP g a b;let r:=Dz true (Eb c6 c6) false;let O:=(uF g a b);let y:=Dz r (HT O O) false;let V:=Hf g a b;let x:=Dz y (qi V.1 V.1 V.2 V.2) false;let L:=gsF g A o;let v:=Dz x (lE L L) false;let G:=ofF g A o;true/\(True->True/\True/\L7 z ((z->True)/\L4 z ((Dh true z->z)/\(c5->true/\True)/\(c5=false->True/\Q3 1 0 1 0 (cZ g/\Q3 1 0 1 0 (jh A/\vPr g A/\L7 true ((Dh true true->true)/\(r->1=1)/\(r->0=0)/\(r->1=1)/\(r->0=0)/\L7 r ((r->UM O)/\(Dh true r->r)/\(y->1=1)/\(y->0=0)/\(y->1=1)/\(y->0=0)/\L7 y ((y->je V.1)/\(Dh true y->y)/\L7 x ((x->je L)/\(Dh true x->x)/\L7 v ((v->je G)/\(Dh true v->v)/\Dz v (lE G G) false/\True)))))))))))) ⟨rfl,λ_=>?_⟩;refine Z9 ?_;intro⟨h1,h2⟩;obtain⟨y,V,hm6⟩:=aBS h2;have hf:cZ (u,f,e,j,h,i)=true:=by
  unfold aGJ smF at h1;simp only[qC]at h1;exact Zk h1.1.1.1.1
 have hP:jh (uF (u,f,e,j,h,i) a b)/\je (Hf (u,f,e,j,h,i) a b).1:=by
  by_cases z:rP (u,f,e,j,h,i) a b=0;have e1:uF (u,f,e,j,h,i) a b=p2F (u,f,e,j,h,i) a b:=if_pos z;have e2:Hf (u,f,e,j,h,i) a b=(wrN (u,f,e,j,h,i) (p2F (u,f,e,j,h,i) a b),wrS (u,f,e,j,h,i) (p2F (u,f,e,j,h,i) a b)):=if_pos z;have X:AS (u,f,e,j,h,i) a b=true:=Classical.byContradiction λg=>by
   have:PL (u,f,e,j,h,i) (p0F a b)=1:=if_neg g;unfold rP at z;rw[this]at z;cases z
  rw[e1,e2];refine⟨O9 X,?_⟩;show(wrN (u,f,e,j,h,i) (p2F (u,f,e,j,h,i) a b)).length<=_;unfold wrN;split;rename_i hw;unfold wrE at hw;rw[if_pos ⟨(jK.1 X).2,aC4 X⟩,if_neg (λg=>g (all_zero X))]at hw;split at hw;cases hw;omega;exact wU _;rw[show uF (u,f,e,j,h,i) a b=(0,0,[],[])from if_neg z,show Hf (u,f,e,j,h,i) a b=([],0)from if_neg z];exact⟨⟨⟨wU _,λr V=>by cases V⟩,wU _,λr V=>by cases V⟩,wU _⟩
 have hg:je (gsF (u,f,e,j,h,i) (p1,p2,nx,T) o):=by
  unfold gsF je;split;have h4:=MF (p1,p2,nx,T) o;have h5:(cj (p1,p2,nx,T) o).length<=10:=by
   unfold cj;by_cases hx:o.toNat<nx.length;exact V _ (getD_mem hx);rw[qA,zD (by show nx.length<=_;omega)];exact wU _
  rw[wO];omega;exact wU _
 have ho:je (ofF (u,f,e,j,h,i) (p1,p2,nx,T) o):=by
  unfold ofF je;split;rw[vG,vC];omega;exact wU _
 have s1:HT (uF (u,f,e,j,h,i) a b) (uF (u,f,e,j,h,i) a b)=true:=by unfold HT pz uP;simp
 have s2:∀(l:Li) (s:Int),qi l l s s=true:=λl s=>by unfold qi lE;simp
 have s3:∀l:Li,lE l l=true:=λl=>by unfold lE;simp
 simp only[s1,s2,s3];exact⟨hf,y,⟨hf,y⟩,⟨hP.1.1,hP.1.2.1,hP.1.2.2⟩,λ_=>hP.2,λ_=>hg,λ_=>ho,⟨⟨trivial,trivial⟩,trivial⟩,trivial⟩
end Go.Eng.Sv
namespace Go.Eng
open Go.RowKit Go.ChangeShapes
def FI{H:Type}{enc:TypeId×Value->H}{P:Program}{f:Func}{s:ChangeSpec}{apart fresh h again:Bool}{W y:World}{args:Array Value}{v:Value}{ds G:List (DataW H)}{before pa pv:List MemPlace}
  (O:DataW.Whole enc P f.params.toList s.vars apart W args.toList ds G before) (hb:Below W.heap.size W y)
  (i:∀(b:Nat) (sp:Nat->Bool) (hd:Bool),DataW.TrodAll enc P y b sp hd f.resultTypes.toList (v.resultList f.resultTypes.size) (s.fn H (ds++G)).results [])
  (g:∀sp:Nat->Bool,(∀p∈before,sp p.block=true)->DataW.TrodAll enc P y 0 sp true f.params.toList args.toList (s.fn H (ds++G)).args pa)
  (e:∀sp:Nat->Bool,(∀p∈before,sp p.block=true)->DataW.TrodVars enc P y sp s.vars (s.fn H (ds++G)).vars pv)
  (u:before=pa++pv)
  (L:∀(j:Nat) (t:TypeId) (r:Value),f.resultTypes[j]?=some t->(v.resultList f.resultTypes.size)[j]?=some r->Value.okWide P y .any 0 t r):
  s.post enc P f apart fresh h again W args v y:=by
 have A:∀p∈before,p.block<W.heap.size:=λp x=>O.lt p x;have hold:∀p∈before,(λb=>decide (b<W.heap.size)) p.block=true:=λp x=>by simpa using A p x
 refine⟨ds,G,before,[],pa,pv,O,i _ _ _,g _ hold,e _ hold,hb.frame _,λ_=>?_⟩;obtain⟨_,_,_,_,_,T,V⟩:=O;refine⟨L,_,_,([]++pa)++pv,⟨[]++pa,pv,trodAll_append (g _ (λ_ _=>rfl)) (i _ _ _),e _ (λ_ _=>rfl),rfl,?_,?_⟩,?_⟩;intro b off x;have z:MemPlace.cell b off∈before:=by rw[u];simpa using x
 rw[hb.frozen (A _ z)];exact T b off z;intro X;have:=V X;rw[u]at this;simpa using this;intro p x _;rw[u];simpa using x
def okT:(t:Ty)->t.den->Prop|.int k,x=>inR k x|.bool,_=>True|.str,s=>s.size<=9223372036854775807|.sl e,xs=>List.length xs<=9223372036854775807/\∀x∈(xs:List e.den),okT e x|.pair a b,x=>okT a x.1/\okT b x.2
def lY:(t:Ty)->t.den->Nat|.int _,_=>1|.bool,_=>1|.str,s=>s.size+1|.sl e,xs=>((xs:List e.den).map λx=>lY e x).sum+1|.pair a b,x=>lY a x.1+lY b x.2
mutual
def sX{H:Type}:DataW H->Nat|.lit (.string bytes)=>bytes.length+1|.slice elems _=>mM elems+1|.agg parts=>mM parts+1|_=>1
def mM{H:Type}:List (DataW H)->Nat|[]=>0|d::r=>sX d+mM r
end
def Iq{H:Type}(d:DataW H):1<=sX d:=by
 cases d with
 |lit l=>cases l<;>simp[sX]
 |_=>simp[sX]
def Qs:(a c:Ty)->a.den->c.den->(m4 a c).den|.pair _ b,c,x,y=>(x.1,Qs b c x.2 y)|.int _,_,x,y=>(x,y)|.bool,_,x,y=>(x,y)|.str,_,x,y=>(x,y)|.sl _,_,x,y=>(x,y)
def H6:∀(a c:Ty),(m4 a c).sz=a.sz+c.sz|.pair a b,c=>by simp only[m4,Ty.sz,H6 b c];omega|.int _,_|.bool,_|.str,_|.sl _,_=>by simp[m4,Ty.sz]
def H5{w:World}{D:Nat->Prop}:∀{a c:Ty}{x:a.den}{y:c.den}{us vs:Lv},ag w D a x us->ag w D c y vs->ag w D (m4 a c) (Qs a c x y) (us++vs)
 |.pair a b,c,x,y,us,vs,g,f=>by
  obtain⟨i,h,e,g1,g2⟩:=g;subst e;exact⟨i,h++vs,by simp,g1,H5 g2 f⟩
 |.int _,_,_,_,us,vs,g,f=>⟨us,vs,rfl,g,f⟩|.bool,_,_,_,us,vs,g,f=>⟨us,vs,rfl,g,f⟩|.str,_,_,_,us,vs,g,f=>⟨us,vs,rfl,g,f⟩|.sl _,_,_,_,us,vs,g,f=>⟨us,vs,rfl,g,f⟩
def NJ:∀{a c:Ty}{x:a.den}{y:c.den},okT a x->okT c y->okT (m4 a c) (Qs a c x y)|.pair _ _,_,_,_,b,e=>⟨b.1,NJ b.2 e⟩|.int _,_,_,_,b,e=>⟨b,e⟩|.bool,_,_,_,b,e=>⟨b,e⟩|.str,_,_,_,b,e=>⟨b,e⟩|.sl _,_,_,_,b,e=>⟨b,e⟩
def BG:∀{a c:Ty}{x:a.den}{y:c.den},lY (m4 a c) (Qs a c x y)=lY a x+lY c y
 |.pair a b,c,x,y=>by
  show lY a x.1+lY (m4 b c) (Qs b c x.2 y)=lY a x.1+lY b x.2+lY c y;rw[BG];omega
 |.int _,_,_,_=>rfl|.bool,_,_,_=>rfl|.str,_,_,_=>rfl|.sl _,_,_,_=>rfl
def fieldsB(P:Program)(T:TypeId->Option Ty):Nat->List Field->Option Ty
 |_,[]=>none|off,f::r=>if f.offset=off then match T f.type with
  |some a=>if P.cellsOf f.type=a.sz then match r with
   |[]=>some a|g::r'=>match fieldsB P T (off+a.sz) (g::r')with
    |some c=>some (m4 a c)|none=>none
   else none
  |none=>none
  else none
def tyB(P:Program):Nat->TypeId->Option Ty
 |0,_=>none|n+1,t=>match P.underlying t with
  |some (.int k)=>some (.int k)|some .bool=>some .bool|some .string=>some .str|some (.slice e)=>match tyB P n e with
   |some ty=>if P.cellsOf e=ty.sz then some (.sl ty)else none|none=>none
  |some (.struct fs)=>match fieldsB P (tyB P n) 0 fs.toList with
   |some ty=>if P.cellsOf t=ty.sz then some ty else none|none=>none
  |_=>none
abbrev Uw(w:World):Nat->Prop:=λb=>b<w.heap.size
def aFE{k:IntKind}{n:Int}(h:(Lit.int k n).wf=true):inR k n:=by
 simp only[Lit.wf,qC,qE]at h;cases k<;>simpa[IntKind.min,IntKind.max,IntKind.signed,IntKind.bits,inR]using h
section
variable {H:Type}{enc:TypeId×Value->H}{P:Program}{w:World}
def Opened(w:World)(ty:Ty)(cs:Lv)(n:Nat):Prop:=∃d:ty.den,ag w (Uw w) ty d cs/\okT ty d/\lY ty d<=n
def xi{T:TypeId->Option Ty}{n:Nat}{cs:Lv}
  (O:∀t ty,T t=some ty->∀cs x,DataW.trod enc P w 0 (λ_=>true) true n t cs=some x->Opened w ty cs (sX x.1)):
  ∀(A:List Field) (off:Nat) (ty:Ty) (xs:List (DataW H×List MemPlace)),fieldsB P T off A=some ty->xs.length=A.length->
   (∀(i:Nat) (f:Field),A[i]?=some f->DataW.trod enc P w 0 (λ_=>true) true n f.type ((cs.drop f.offset).take (P.cellsOf f.type))=xs[i]?)->
   cs.length=off+ty.sz->Opened w ty (cs.drop off) (mM (xs.map (·.1)))
 |[],_,_,_,h,_,_,_=>by simp[fieldsB]at h|f::r,off,ty,xs,h,u,L,hc=>by
  rw[fieldsB.eq_2]at h;split at h;case isFalse=>cases h
  rename_i b;split at h;case h_2=>cases h
  rename_i a ha;split at h;case isFalse=>cases h
  rename_i j;match xs,u with
  |y::ys,u=>
   have z:=L 0 f rfl;simp only[qAu]at z;rw[b,j]at z;obtain⟨d,G,V,d3⟩:=O _ _ ha _ _ z;split at h;cases h;refine⟨d,?_,V,?_⟩;rw[qO (by rw[wM];omega)]at G;exact G;simp only[zO,mM];omega;rename_i g X _;split at h;case h_2=>cases h
   rename_i c v;cases h;rw[H6]at hc;obtain⟨e,e1,e2,e3⟩:=xi O (g::X) (off+a.sz) c ys v (by simpa using u) (λi f' hi=>by simpa using L (i+1) f' (by simpa using hi)) Z;refine⟨Qs a c d e,?_,NJ V e2,?_⟩;have:=H5 G e1;rwa [<- xA,kJ]at this;rw[BG];simp only[zO,mM];omega
def JW{e:Ty}(f:Nat->e.den)(D:Nat->DataW H):∀l:List Nat,(∀i∈l,lY e (f i)<=sX (D i))->((l.map f).map λx=>lY e x).sum<=mM (l.map D)
 |[],_=>by simp[mM]|i::l,h=>by
  have r:=h i (by simp);have g:=JW f D l (λj b=>h j (by simp[b]));simp only[zO,List.sum_cons,mM];omega
def xj:∀(n:Nat) {t:TypeId}{ty:Ty},tyB P n t=some ty->∀(fuel:Nat) (cs:Lv) (x:DataW H×List MemPlace),
  DataW.trod enc P w 0 (λ_=>true) true fuel t cs=some x->Opened w ty cs (sX x.1)
 |0,_,_,h,_,_,_,_=>by simp[tyB]at h|n+1,t,ty,h,fuel,cs,x,O=>by
  simp only[tyB]at h;split at h;rename_i k z;cases h;obtain⟨m,rfl,rfl,hw⟩:=DataW.trod_int z O;exact⟨m,rfl,aFE hw,Iq _⟩;rename_i z;cases h;obtain⟨b,rfl,rfl⟩:=DataW.trod_bool z O;exact⟨b,rfl,trivial,Iq _⟩;rename_i z;cases h;obtain⟨s,rfl,rfl,hs⟩:=DataW.trod_string z O;refine⟨s,rfl,by simpa[okT,maxLen]using hs,?_⟩;simp only[lY,sX];have:s.data.toList.length=s.size:=by rw[vU];rfl
  omega;rename_i e z;split at h;case h_2=>cases h
  rename_i g he;split at h;case isFalse=>cases h
  rename_i hsz;cases h;rcases Deep.open_slice z O with⟨rfl,rfl⟩|⟨a,len,cap,m,n',Dd,Pl,rfl,hb,hl,hm,hmm,rfl,hel⟩;exact⟨[],bw _ _ _,⟨wU _,λx O=>by cases O⟩,by simp[lY,sX]⟩;have hlm:len<=m:=by rw[hmm];simpa using hl
  haveI:Inhabited g.den:=⟨g.dflt⟩
  obtain⟨f,X⟩:=Deep.choose_lt (α:=g.den) (n:=len) (p:=λi d=>∃r,w.cells? 0 (a.add (i*g.sz)) g.sz=some r/\ag w (Uw w) g d r/\okT g d/\lY g d<=sX (Dd i)) (λi hi=>by
   obtain⟨r,h1,h2⟩:=hel i Z;rw[hsz]at h1;obtain⟨d,d1,d2,d3⟩:=xj n he _ _ _ h2;exact⟨d,r,h1,d1,d2,d3⟩)
  have hp:=zA9 g;have G:0<len->a.spot=none/\a.block<w.heap.size:=λh0=>by
   obtain⟨r,h1,d1,_⟩:=X 0 h0;obtain⟨_,hcl,V⟩:=World.cells?_some h1;have:=V 0 hp;have hlt:0<r.length:=Z;rw[qB hlt]at this;simp only[xX]at this;have e0:(a.add 0).add 0=a:=by simp[Addr.add]
   rw[e0]at this;unfold World.cell? at this;split at this;rename_i c t' fr hc;refine⟨?_,(vV.1 hc).1⟩;split at this;cases this;rename_i hs;cases A:a.spot with
   |none=>rfl|some _=>rw[A]at hs;simp at hs
   cases this
  have v:List.length ((List.range len).map f)=len:=by simp
  refine⟨(List.range len).map f,⟨some a,cap,by rw[v],by rw[v];exact hl,(λh=>by cases h),λa' ha' L=>?_,λi y hy=>?_⟩,⟨?_,λy hy=>?_⟩,?_⟩;cases ha';rw[v]at L;exact(G L).1;have hi:i<len:=by
   have:=(qG.1 hy).1;rwa [v]at this
  have ey:y=f i:=by
   rw[qX,vP hi]at hy;exact(wZ hy).symm
  subst ey;obtain⟨r,h1,d1,_⟩:=X i hi;obtain⟨A,hbk⟩:=G Z;refine⟨a,r,rfl,hbk,λj u hj=>?_,d1⟩;obtain⟨_,hcl,V⟩:=World.cells?_some h1;have hjl:=(qG.1 hj).1;have:=V j Z;rw[hj,Deep.add_add]at this;have e1:a.add (i*g.sz+j)=⟨a.block,a.off+i*g.sz+j,none⟩:=by
   cases a with|mk b o s=>simp only at A;subst A;rw[xQ,qAb]
  rw[e1]at this;exact this;rw[v];unfold maxLen at hm;omega;obtain⟨i,hi,rfl⟩:=vK.1 hy;obtain⟨_,_,_,h2,_⟩:=X i (qW.1 hi);exact h2;have:=JW f Dd (List.range len) (λi hi=>by
   obtain⟨_,_,_,_,h3⟩:=X i (qW.1 hi);exact h3)
  simp only[lY,sX];omega;rename_i fs z;split at h;case h_2=>cases h
  rename_i ty' hfs;split at h;case isFalse=>cases h
  rename_i hsz;cases h;obtain⟨xs,m,_,rfl,hcl,hxl,X⟩:=DataW.trod_struct z O;obtain⟨d,d1,d2,d3⟩:=xi (cs:=cs) (n:=m) (T:=tyB P n) (λt' ty' ht' r x' hx'=>xj n ht' _ _ _ hx') fs.toList 0 ty xs hfs (by simpa using hxl)
   (λi f' hi=>X i f' (by simpa using hi)) Z
  refine⟨d,by simpa using d1,d2,?_⟩;simp only[sX];omega;cases h
abbrev TT:=Bool×Ty
def aAE:List TT->Type|[]=>PUnit|p::r=>p.2.den×aAE r
def aGc(p:TT)(x:p.2.den):AV:=match p.1 with|true=>.agg (cellsOf p.2 x)|false=>.dat p.2 x
def avs:(l:List TT)->aAE l->List AV|[],_=>[]|p::r,x=>aGc p x.1::avs r x.2
def okL:(l:List TT)->aAE l->Prop|[],_=>True|p::r,x=>okT p.2 x.1/\okL r x.2
def ZO:(l:List TT)->aAE l->Nat|[],_=>0|p::r,x=>lY p.2 x.1+ZO r x.2
def ttB(P:Program)(t:TypeId)(p:TT):Bool:=decide (tyB P 12 t=some p.2)&&(match P.underlying t with
 |some (.struct _)=>p.1|some (.int _)|some .bool|some .string|some (.slice _)=>!p.1|_=>false)
def WI(P:Program):List TypeId->List TT->Bool|[],[]=>true|t::ts,p::ps=>ttB P t p&&WI P ts ps|_,_=>false
def open_arg{t:TypeId}{p:TT}{base:Nat}{v:Value}{d:DataW H}{j:List MemPlace}(r:ttB P t p=true)(b:Value.okWide P w .any base t v)
  (h:DataW.Trod enc P w 0 (λ_=>true) true t v d j):∃x:p.2.den,(aGc p x).rel P ⟨w,Uw w,noM,noE⟩ v/\okT p.2 x/\lY p.2 x<=sX d:=by
 unfold ttB at r;simp only[qC,qE]at r;obtain⟨i,f⟩:=r;obtain⟨fuel,z⟩:=h;obtain⟨x,x1,x2,u⟩:=xj 12 i _ _ _ z;refine⟨x,?_,x2,u⟩;have plain:(∀cs,v≠.agg cs)->p.1=false->(aGc p x).rel P ⟨w,Uw w,noM,noE⟩ v:=λy A=>by
  have e:v.cells.toList=[v]:=by cases v<;>first|rfl|exact(y _ rfl).elim
  rw[e]at x1;unfold aGc;rw[A];exact x1
 split at f;rename_i G g;have:∃cs,v=.agg cs:=by
  unfold Value.okWide at b;rw[g]at b;obtain⟨cs,e,_⟩:=b;exact⟨cs,e⟩
 obtain⟨cs,rfl⟩:=this;unfold aGc;rw[f];refine⟨cs.toList,rfl,cy (C:=⟨w,Uw w,noM,noE⟩) ?_⟩;exact x1;all_goals first
  |cases f
  |(rename_i g;refine plain (λcs e=>?_) (by simpa using f);subst e;simp[Value.okWide,g,Cell.okWide,Cell.ok]at b)
def Il:∀{ts:List TypeId}{l:List TT}{vs:Lv}{ds:List (DataW H)}{f:List MemPlace}{base:Nat},WI P ts l=true->
  (∀(j:Nat) t v,ts[j]?=some t->vs[j]?=some v->Value.okWide P w .any base t v)->DataW.TrodAll enc P w 0 (λ_=>true) true ts vs ds f->
  ∃x:aAE l,zA1 P ⟨w,Uw w,noM,noE⟩ (avs l x) vs/\okL l x/\ZO l x<=mM ds
 |[],[],vs,ds,f,base,_,_,h=>by
  obtain⟨rfl,rfl,rfl⟩:=trodAll_nil h;exact⟨PUnit.unit,rfl,trivial,wU _⟩
 |t::ts,p::l,vs,ds,f,base,b,i,h=>by
  obtain⟨v,e,d,O,p1,q,rfl,rfl,rfl,L,G⟩:=trodAll_cons h;simp only[WI,qC]at b;obtain⟨x,x1,x2,V⟩:=open_arg b.1 (i 0 t v rfl rfl) L;obtain⟨y,u,r,T⟩:=Il b.2 (λj t' z A g=>i (j+1) t' z (by simpa using A) (by simpa using g)) G;exact⟨(x,y),⟨v,e,rfl,x1,u⟩,⟨x2,r⟩,by simp only[ZO,mM];omega⟩
 |[],_::_,_,_,_,_,b,_,_=>by simp[WI]at b|_::_,[],_,_,_,_,b,_,_=>by simp[WI]at b
def Jl{W r:World}(i:laidOutB P=true)(hb:Below W.heap.size W r):∀{ts:List TypeId}{vs:Lv}{ds:List (DataW H)}{j:List MemPlace},
  (ts.all λt=>P.readableRec t&&decide (t<P.types.size))=true->DataW.TrodAll enc P W 0 (λ_=>true) true ts vs ds j->(∀x∈j,x.block<W.heap.size)->
  ∀sp:Nat->Bool,(∀x∈j,sp x.block=true)->DataW.TrodAll enc P r 0 sp true ts vs ds j
 |[],vs,ds,j,_,h,_,sp,_=>by
  obtain⟨rfl,rfl,rfl⟩:=trodAll_nil h;exact trodAll_mk0
 |t::ts,vs,ds,j,g,h,f,sp,e=>by
  obtain⟨v,u,d,A,p1,q,rfl,rfl,rfl,z,y⟩:=trodAll_cons h;simp only[qAc,qC,qE]at g;have g1:=WideElems.Trod_stays (enc:=enc) (sp':=sp) i g.1.1 g.1.2 z (λx b=>hb.same (f x (qJ.2 (.inl b)))) (λx b=>e x (qJ.2 (.inl b)));exact⟨p1,q,g1,Jl i hb (by simpa using g.2) y (λx b=>f x (qJ.2 (.inr b))) sp (λx b=>e x (qJ.2 (.inr b))),rfl⟩
def law_contractG{G:List (Nat×AV)}{f:FuncId}{fn:Func}{s:ChangeSpec}{apart fresh r again:Bool}{l:List TT}{X:aAE l->Prop}{rt:TypeId}(hf:∀x:aAE l,X x->ah P G f (avs l x) [] ⟨True,.dat .bool true,[]⟩)
  (O:WI P fn.params.toList l=true) (hl:laidOutB P=true) (hrd:(fn.params.toList.all λt=>P.readableRec t&&decide (t<P.types.size))=true)
  (V:fn.resultTypes=#[rt]) (i:P.underlying rt=some .bool) (g:s.vars=[])
  {W:World}{base:Nat}{args:Array Value}{ds gs:List (DataW H)}{before:List MemPlace}
  (y:ds.length=l.length->s.fn H ds={results:=[.lit (.bool true)],args:=ds})
  (L:∀(j:Nat) t v,fn.params[j]?=some t->args[j]?=some v->Value.okWide P W .any base t v)
  (hW:DataW.Whole enc P fn.params.toList s.vars apart W args.toList ds gs before)
  (hX:∀x:aAE l,okL l x->ZO l x<=mM ds->X x) (hG:me P ⟨W,Uw W,noM,noE⟩ G):
  Calls P f args W λe W'=>∃v,e=.returned v/\s.post enc P fn apart fresh r again W args v W':=by
 obtain⟨p,q,hA,hV,u,hfz,hnd⟩:=id hW;rw[g]at hV;obtain⟨rfl,rfl⟩:=trodVars_none hV;rw[wB]at u;subst u;have hlt:∀x∈before,x.block<W.heap.size:=λx hx=>hW.lt x hx;obtain⟨x,x1,x2,x3⟩:=Il (l:=l) O (λj t v h1 h2=>L j t v (by simpa using h1) (by simpa using h2)) hA;have hsl:∀{ts:List TypeId}{l:List TT}{vs:Lv}{ds:List (DataW H)}{p:List MemPlace},WI P ts l=true->DataW.TrodAll enc P W 0 (λ_=>true) true ts vs ds p->ds.length=l.length:=by
  intro ts;induction ts with
  |nil=>
   intro l vs ds p T h;obtain⟨rfl,rfl,rfl⟩:=trodAll_nil h;cases l with
   |nil=>rfl|cons _ _=>simp[WI]at T
  |cons t ts ih=>
   intro l vs ds p T h;obtain⟨v,vs',d,ds',p1,q,rfl,rfl,rfl,h1,h2⟩:=trodAll_cons h;cases l with
   |nil=>simp[WI]at T|cons _ l=>
    simp only[WI,qC]at T;simp[ih T.2 h2]
 have z:=y (hsl O hA);have A:=(hf x (hX x x2 x3)).data trivial (w:=W) (D:=Uw W) (us:=args.toList) (λb hb=>hb) hG x1;refine A.mono λe W' he=>?_;obtain⟨v,rfl,hb,hv⟩:=he;have hv:v=.bool true:=by simpa[AV.rel,ag]using hv
 subst hv;refine⟨_,rfl,FI (pa:=before) (pv:=[]) hW hb (λb sp hd=>?_) (λsp hsp=>?_) (λsp _=>?_) (by simp) (ok_one V rfl (okWide_bool_mk i _))⟩;rw[wB,z,V];exact trodAll_mk1 (shut_bool i true);rw[wB,z];exact Jl hl hb hrd hA hlt sp hsp;rw[g,wB,z];exact rfl
def laid_strs{n:String}{g:Nat}{ta te m:Nat}{w:World}{xs:List ByteArray}(hg:P.globalNamed n=some g)(ht:(P.globals[g]?).map (·.type)=some ta)(ha:P.underlying ta=some (.array m te))
  (he:P.underlying te=some .string) (hc:P.cellsOf te=1) (hsz:m<=9223372036854775807) (O:0<m) {r:List (String×DataW Unit)}{ps:List MemPlace}
  (h:DataW.LaidVars P w ((n,.agg (xs.map λs=>.lit (.string s.data.toList)))::r) ps):me P ⟨w,Uw w,noM,noE⟩ [(g,.ia .str xs)]/\∃x,DataW.LaidVars P w r x:=by
 obtain⟨g',t',cs,fuel,p,q',T,L,hv,hd,hr,_⟩:=h;obtain rfl:=wZ (hg.symm.trans T);obtain rfl:=wZ (ht.symm.trans L);refine⟨λz hz=>?_,q',hr⟩;obtain rfl:=vI.1 hz;obtain⟨ys,f,rfl,G,hlen,hm,V⟩:=DataW.trod_array ha hd;simp only[qCf,DataW.agg.injEq]at G;have hxl:xs.length=m:=by
  have:=yS List.length G.1;simpa[hm]using this
 have cell:∀i (hi:i<m),∃y,xs[i]?=some y/\w.cell? ⟨g,i,none⟩=some (.string y):=by
  intro i hi;have h1:=V i hi;rw[hc,xG,qB Z]at h1;obtain⟨s,e1,e2,_⟩:=DataW.trod_string he h1;have e:cs[i]?=some (.string s):=by
   have:=yS (·[0]?) e1;simpa[vX,vM]using this
  refine⟨s,?_,by rw[World.var?_cell hg hv];exact e⟩;have v:=yS (·[i]?) G.1;simp only[qX,qB (show i<ys.length by omega),qB (show i<xs.length by omega),zY,wQ]at v;rw[e2]at v;simp only[DataW.lit.injEq,Lit.string.injEq]at v;rw[qB Z];have:xs[i].data=s.data:=Array.toList_inj.1 v;cases A:xs[i]with|mk d=>cases s with|mk d'=>rw[A]at this;exact yS some (yS ByteArray.mk this)
 have b:Uw w g:=by
  obtain⟨y,_,e⟩:=cell 0 O;show g<w.heap.size;unfold World.cell? at e;split at e;rename_i c t' fr X;exact(vV.1 X).1;cases e
 refine⟨rfl,g,0,rfl,some ⟨g,0,none⟩,xs.length,by rfl,qM _,(λh=>by cases h),λa' ha' _=>by cases ha';rfl,λi y hy=>?_⟩;have hi:=(qG.1 hy).1;obtain⟨y',e1,e2⟩:=cell i Z;obtain rfl:=wZ (hy.symm.trans e1);refine⟨⟨g,0,none⟩,[.string y],rfl,b,λj u hj=>?_,rfl⟩;have:j=0:=by
  have:=(qG.1 hj).1;simp at this;omega
 subst this;obtain rfl:Value.string y=u:=by simpa using hj
 simpa[Ty.sz]using e2
end
end Go.Eng
