/- TrDp -/
import Derived.Test.YtecnnbcfgijddaaGreatDoorETPrmE
import Derived.Test.YtecnnbcfgijddaaGreatDoorETPrmW
import Derived.Test.YtecnnbcfgijddaaGreatDoorETPrmX
import Derived.Test.YtecnnbcfgijddaaGreatDoorChecked
set_option linter.unusedSimpArgs false
set_option linter.unusedVariables false
set_option maxRecDepth 100000
noncomputable section
namespace Go.Eng.Sv
open Go.Proofs
def Iu(w:List Bool)(h:Li):Nat->Int->Option Int|0,d=>some d|n+1,d=>(jP w h (d+1)).bind (Iu w h n)
def UD(w:List Bool)(h:Li)(d n:Int):Int:=if n<=200 then(Iu w h n.toNat d).getD 0 else 0
def UX(w:List Bool)(h:Li)(d n:Int):Int:=if n<=200 then(if(Iu w h n.toNat d).isSome then 0 else 20)else 1
abbrev aDx(z:Int)(w:List Bool)(h:Li)(d n:Int):Prop:=aW z w h=true/\dF d=true/\0<=n
def UC(w:List Bool)(h:Li)(d n i e:Int):Prop:=0<=i/\i<=n/\-1000000<=e/\e<=1000000+100*i/\Iu w h (n-i).toNat e=Iu w h n.toNat d
def cT(n:Net)(k:Int):Cla:=n.2.2.2.2.2.getD k.toNat (⟨#[]⟩,0,0)
abbrev aEi(n:Net)(k:Int):Prop:=0<=k/\k<n.2.2.2.2.2.length
abbrev aFV(n:Net)(k o t:Int):Prop:=(tA n o/\aEi n k)/\bO t=true
def aEd(n:Net)(k o t:Int):Int:=fX (aM n o) (cT n k).2.2 (aO n o t)
def aEc(n:Net)(k o t:Int):Int:=mT (aM n o) (cT n k).2.2 (aO n o t)
def oz(n:Net)(k o t:Int):Bool:=((cw k n.2.2.2.2.2.length&&cw o n.2.2.2.1.length)&&bO t)&&aZ n
def Yt(n:Net)(k o t:Int):Int:=if oz n k o t=true then aEd n k o t else 0
def Ko(n:Net)(k o t:Int):Int:=if oz n k o t=true then aEc n k o t else 1
def PO(n:Net)(k o t:Int):Int:=if oz n k o t=true then fX (aM n o) (cT n k).2.1 t else 0
def UY(n:Net)(k o t:Int):Int:=if oz n k o t=true then mT (aM n o) (cT n k).2.1 t else 1
def rI(m:Int)(t:Lj):Bool:=decide ((t.length:Int)=m)&&t.all λr=>decide ((r.length:Int)=m)
def CW(n:Net)(f:List (Lj)):Bool:=decide ((f.length:Int)=n.2.2.2.2.2.length)&&f.all (rI n.2.2.2.1.length)
abbrev fitsT(f:List (Lj)):Prop:=f.length<=1000000/\∀t∈f,jb t
def Nc(n:Net)(f:List (Lj))(k:Int):Prop:=0<=k/\k<=f.length/\(f.length:Int)=n.2.2.2.2.2.length/\(f.take k.toNat).all (rI n.2.2.2.1.length)=true
def CV(n:Net)(t:Lj)(k:Int):Prop:=0<=k/\k<=t.length/\(t.length:Int)=n.2.2.2.1.length/\(t.take k.toNat).all (λr=>decide ((r.length:Int)=n.2.2.2.1.length))=true
def JR(n:Net)(f:List (Lj))(x:ByteArray×Int×Int×Int×Int):Bool:=((CW n f&&cw x.2.2.2.1 n.2.2.2.2.2.length)&&(cw x.2.1 n.2.2.2.1.length&&cw x.2.2.1 n.2.2.2.1.length))&&((decide (0<=x.2.2.2.2)&&decide (x.2.2.2.2<=1000000))&&aZ n)
def ON(f:List (Lj))(x:ByteArray×Int×Int×Int×Int):Int:=((f.getD x.2.2.2.1.toNat []).getD x.2.1.toNat []).getD x.2.2.1.toNat 0
def aBG(n:Net)(x:ByteArray×Int×Int×Int×Int):Int:=fX (aM n x.2.1) (cT n x.2.2.2.1).2.1 x.2.2.2.2
def CQ(n:Net)(x:ByteArray×Int×Int×Int×Int):Int:=mT (aM n x.2.1) (cT n x.2.2.2.1).2.1 x.2.2.2.2
def TJ(n:Net)(x:ByteArray×Int×Int×Int×Int):Int:=jy (aM n x.2.2.1).1 (aBG n x)
def JS(n:Net)(f:List (Lj))(x:ByteArray×Int×Int×Int×Int):Int:=UX (aM n x.2.2.1).2.1 (aM n x.2.2.1).2.2 (TJ n x) (ON f x)
def TI(n:Net)(f:List (Lj))(x:ByteArray×Int×Int×Int×Int):Int:=UD (aM n x.2.2.1).2.1 (aM n x.2.2.1).2.2 (TJ n x) (ON f x)
def DK(n:Net)(f:List (Lj))(x:ByteArray×Int×Int×Int×Int):Int:=if JR n f x=true then if CQ n x=0 then if ON f x<0 then 170 else JS n f x else CQ n x else 1
def PN(n:Net)(f:List (Lj))(x:ByteArray×Int×Int×Int×Int):Int:=if DK n f x=0 then gY (aM n x.2.2.1).1 (TI n f x) (cT n x.2.2.2.1).2.2 else 0
def aHc(w:List Bool)(h:Li)(d n:Int):Ann:=⟨λf s=>match f with
 |4=>some {α:=Int×Int,inv:=λx=>UC w h d n (p1 x) (p2 x),st:=λx=>nU (put s [(27,.dat I (p1 x))]) 0 (.var [.dat I (p2 x)]),μ:=λx=>Dc (Dk n (p1 x))}|7=>some {α:=Nat,inv:=λk=>isZ k,st:=λ_=>flat s,μ:=λk=>k}|_=>none,λ_ _=>none,λ_ _=>none⟩
def cAdd:Cfg:={aGr KR1 with mb:=λt=>t==4}
def aFY(n:Net)(f:List (Lj)):Ann:=⟨λh s=>match h with
 |4=>some {α:=Int,inv:=λk=>Nc n f k,st:=λk=>put s [(19,.dat I k)],μ:=λk=>Dc (Dk (Dh f) k)}|9=>match s.sig.T 31 with
  |.dat (.sl (.sl (.int .i64))) t=>some {α:=Int,inv:=λk=>CV n t k,st:=λk=>put s [(33,.dat I k)],μ:=λk=>Dc (Dk (Dh t) k)}|_=>none
 |_=>none,λ_ _=>none,λ_ _=>none⟩
abbrev Hf:=az [.row C,.val I,.val I] (λ(c,d,n,_)=>aDx c.1 c.2.1 c.2.2 d n) λ(c,d,n,_)=>.tup [.dat I (UD c.2.1 c.2.2 d n),.dat I (UX c.2.1 c.2.2 d n)]
abbrev G7:=az [.ptr N,.val (.sl M)] (λ(_,f,_)=>fitsT f) λ(n,f,_)=>.dat .bool (CW n f)
abbrev MF:=az [.ptr N,.val I,.val I,.val I] (λ(n,k,o,t,_)=>aFV n k o t) λ(n,k,o,t,_)=>.tup [.dat I (aEd n k o t),.dat I (aEc n k o t)]
def KRD:Kt:=kOr 73 Hf <|
 kOr 67 G7 <|
 kOr 110 MF KR5
def aHb:Cfg:={mkp KRD (λ_=>false) KPw (λf=>f==68||f==46)with rng:=true}
theorem WN(A:LC)(u j:LB)(z:Lo)(y:Ll)(f:Lk)(h:noF (A,u,j,z,y,f)=true):∀x∈f,kO x=true:=
 ((nY (by decide) (λl:Cla=>l.1) kO f).1 (mM A u j z y f h).2.2.2.2.2).2.2.2
theorem If(A:LC)(u j:LB)(z:Lo)(y:Ll)(f:Lk){k:Int}(h:noF (A,u,j,z,y,f)=true)(L:aEi (A,u,j,z,y,f) k):(0<=(cT (A,u,j,z,y,f) k).2.1/\(cT (A,u,j,z,y,f) k).2.1<=1439)/\0<=(cT (A,u,j,z,y,f) k).2.2/\(cT (A,u,j,z,y,f) k).2.2<=1439:=by
 obtain⟨X,G⟩:=L;have G:k<(f.length:Int):=G;have hm:cT (A,u,j,z,y,f) k∈f:=by
  show f.getD k.toNat _∈f;rw[qA,qB Z,vK];exact wM _
 have:=WN A u j z y f h _ hm;unfold kO cN at this;simp only[qC,qF]at this;omega
theorem Bj{t:Int}:bO t=true↔0<=t/\t<=2000000:=by unfold bO;rw[qF]
theorem uA(A:LC)(j f:LB)(z:Lo)(u:Ll)(y:Lk){o t:Int}(h:tA (A,j,f,z,u,y) o):t+1<=aO (A,j,f,z,u,y) o t/\aO (A,j,f,z,u,y) o t<=t+960:=by
 obtain⟨_,_,_,g1,X,L,G⟩:=jO A j f z u y h;unfold aO;have h1:1*1<=(dd (A,j,f,z,u,y) o).2.2.2.2.1*(dd (A,j,f,z,u,y) o).2.2.2.2.2.1:=qAb g1 L (by decide) Z;have h2:(dd (A,j,f,z,u,y) o).2.2.2.2.1*(dd (A,j,f,z,u,y) o).2.2.2.2.2.1<=4*240:=qAb X G Z (by decide);omega
theorem J6{w:List Bool}{h:Li}:∀(k:Nat) {d e:Int},Iu w h k d=some e->d<=e/\e<=d+61*k
 |0,d,e,g=>by cases g;omega
 |k+1,d,e,g=>by
  unfold Iu at g;obtain⟨y,f,j⟩:=xK.1 g;have hm:y∈dK w h (d+1) 60:=gK (by unfold jP at f;rw[f];rfl);have:=pE hm;have:=J6 k j;omega
theorem aCu:eO 73 Hf:=ae λ(((z:Int),(w:List Bool),(h:Li)),(d:Int),(n:Int),_)=>by
 refine zF (c:=cAdd) (A:=(lvA [(4,[3,4,6,7,8,9,26,27,33])] (aHc w h d n))) aGa aBs hm (p:=let c1:=Di (aW z w h);let c2:=Di c1;let c3:=Dz c1 true (Di (dF d));let c4:=Di c3;let c5:=Dz c3 true (Dn n 0);let X:=Di c5;let c7:=Dz c5 true (Ef n 200);let c8:=UD w h d n;let A:=UX w h d n;let u:=(z,w,h);true/\(aDx z w h d n->True/\(c2->1=1)/\(c2->0=0)/\L5 c2 ((c2->True)/\L5 c2 ((Dj true c2->c2)/\L5 c4 ((Dj true c4->c4)/\L5 X ((Dj true X->X)/\(c7->0=c8/\1=A/\True)/\(c7=false->(∃x,UC w h d n (p1 x) (p2 x)/\T6 u 1 0 0 n (0=p1 x/\d=p2 x/\True))/\∀(x:Int×Int),let j:=p2 x+1;let c12:=dK w h j 60;let L:=p1 x+1;UC w h d n (p1 x) (p2 x)->(Dn (p1 x) n->T4 1 0 1 0 (inR .i64 j/\Dl w=7/\OR w h j 60/\(∃f,isZ f/\f=0/\u=u/\1=1/\0=0/\0=0/\1=1/\0=0/\0=0/\n=n/\p1 x=p1 x/\Dn (p1 x) n=Dn (p1 x) n/\z=z/\w=w/\h=h/\p2 x=p2 x/\j=j/\j=j/\(60:Int)=(60:Int)/\w=w/\u=u/\p2 x=p2 x/\false=false/\True)/\(∀(f:Nat) (y:Int),isZ f->oD c12 f y->w6 1 0 1 0 1 0 ((Di true->0=c8/\20=A/\True)/\(Di true=false->inR .i64 L/\∃G,UC w h d n (p1 G) (p2 G)/\(T6 u 1 0 0 n (L=p1 G/\y=p2 G/\True))/\Dc (n-p1 G)<Dc (n-p1 x))))/\∀(f:Nat),isZ f->f=Dl c12->L7 1 0 ((Di false->0=c8/\20=A/\True)/\(Di false=false->inR .i64 L/\∃y,UC w h d n (p1 y) (p2 y)/\(T6 u 1 0 0 n (L=p1 y/\p2 x=p2 y/\True))/\Dc (n-p1 y)<Dc (n-p1 x)))))/\(Dn (p1 x) n=false->L7 1 0 (p2 x=c8/\0=A/\True))))))))) ⟨rfl,λ⟨hv,hd,n1⟩=>?_⟩;have hc:=C2 hv;have hd':=okd hd;simp only[hv,hd];refine Z9 ?_;refine⟨λh=>?_,λ⟨_,h200⟩=>?_⟩;have:¬n<=200:=by
  rcases h with(h|h)|h;simp at h;omega;omega
 unfold UD UX;rw[if_neg this,if_neg this];exact⟨rfl,rfl⟩;have hle:n<=200:=Z;have eD:UD w h d n=(Iu w h n.toNat d).getD 0:=if_pos hle;have eE:UX w h d n=if(Iu w h n.toNat d).isSome then 0 else 20:=if_pos hle;refine⟨⟨(0,d),⟨qL _,n1,by simp only[p2];omega,by simp only[p1,p2];omega,by simp only[p1,p2,Int.sub_zero]⟩,rfl,rfl⟩,λx hx=>⟨λhlt=>?_,λhge=>?_⟩⟩;obtain⟨i,e⟩:=x;obtain⟨i0,i1,i2,i3,L⟩:=hx;simp only[p1,p2]at i0 i1 i2 i3 L hlt ⊢;have hsub:(n-i).toNat=(n-(i+1)).toNat+1:=Z;rw[hsub]at L;refine⟨⟨Z,Z⟩,hc.1,⟨hc,Z,Z,Z,Z⟩,rfl,λk y hk hy=>⟨λh=>by simp at h,?_⟩,λk hk hl=>⟨?_,λh=>by simp at h⟩⟩;have hk:k=0:=hk;subst hk;have hy:(dK w h (e+1) 60)[0]?=some y:=hy;obtain⟨m1,m2,m3⟩:=pE (qY hy);have X:jP w h (e+1)=some y:=by
  unfold jP;rw[qBm];exact hy
 refine⟨⟨Z,Z⟩,(i+1,y),⟨by simp only[p1];omega,by simp only[p1];omega,by simp only[p2];omega,by simp only[p1,p2];omega,?_⟩,⟨rfl,rfl⟩,by simp only;omega⟩;simp only[p1,p2];rw[<- L];simp only[Iu,X,Option.bind_some];have hk:k=0:=hk;subst hk;have X:jP w h (e+1)=none:=by
  unfold jP;rw[vI hl.symm];rfl
 have:Iu w h n.toNat d=none:=by
  rw[<- L];simp only[Iu,X,Option.bind_none]
 simp[eD,eE,this];obtain⟨i,e⟩:=x;obtain⟨i0,i1,i2,i3,L⟩:=hx;simp only[p1,p2]at i0 i1 i2 i3 L hge ⊢;rw[show(n-i).toNat=0 by omega]at L;have:Iu w h n.toNat d=some e:=by rw[<- L];rfl
 simp[eD,eE,this]
theorem aCh:eO 67 G7:=ae λ(((cs,ns,os,X,ls,ks):Net),(j:List (Lj)),_)=>by
 refine zE (A:=(lvA [(4,[0,4,6,8,17,18,19,31,32,33]),(9,[0,4,6,8,17,18,19,31,32,33])] (aFY (cs,ns,os,X,ls,ks) j))) (p:=let z:=Dh j;let c2:=Ea z (Dh ks);let u:=(cs,ns,os,X,ls,ks);let c4:=CW u j;let c5:=Dh X;(fitsT j->(c2->false=c4/\True)/\(c2=false->(∃x,Nc u j x/\Q3 u j z (0=x/\True))/\∀(x:Int),let h:=Dw j (Dc x) (Du (Li));let A:=Dh h;let c8:=Ea A c5;let G:=x+1;Nc u j x->(Dn x z->0<=x/\x<z/\(c8->false=c4/\True)/\(c8=false->(∃f,CV u h f/\T7 u h j z x h A (0=f/\True))/\∀(f:Int),let c10:=Ea (Dh (Dw h (Dc f) [])) c5;let c11:=f+1;CV u h f->(Dn f A->0<=f/\f<A/\(c10->false=c4/\True)/\(c10=false->inR .i64 c11/\∃y,CV u h y/\(T7 u h j z x h A (c11=y/\True))/\Dc (A-y)<Dc (A-f)))/\(Dn f A=false->inR .i64 G/\∃y,Nc u j y/\(Q3 u j z (G=y/\True))/\Dc (z-y)<Dc (z-x))))/\(Dn x z=false->true=c4/\True)))) aEp λhp=>?_;refine Z9 ?_;obtain⟨f1,f2⟩:=hp;have ec:CW (cs,ns,os,X,ls,ks) j=(decide ((j.length:Int)=ks.length)&&j.all (rI X.length)):=rfl;have two:∀{x:Int},0<=x->x<j.length->rI X.length (j.getD x.toNat [])=false->false=CW (cs,ns,os,X,ls,ks) j:=λ{x} h0 h1 L=>by
  rw[ec,ly (l:=j) (d:=[]) (k:=x.toNat) Z L,kR]
 refine⟨λh=>by rw[ec,qV h];rfl,λh=>⟨⟨qL _,qR _,h,rfl⟩,λx ⟨x0,x1,x2,x3⟩=>⟨λG=>⟨x0,G,λL=>two x0 G (by unfold rI;rw[qV L];rfl),λhr=>⟨⟨qL _,qR _,hr,rfl⟩,λy ⟨y0,y1,y2,y3⟩=>⟨λhly=>⟨y0,hly,λL=>two x0 G ?_,λL=>⟨?_,y+1,⟨Z,Z,y2,?_⟩,rfl,Z⟩⟩,λhgy=>⟨?_,x+1,⟨Z,Z,x2,?_⟩,rfl,Z⟩⟩⟩⟩,λhge=>?_⟩⟩⟩;unfold rI;rw[ly (l:=j.getD x.toNat []) (d:=[]) (k:=y.toNat) Z (qV L),kR];have:=(f2 _ (getD_mem (l:=j) (i:=x.toNat) (d:=[]) Z)).1;exact jk Z;rw[show(y+1).toNat=y.toNat+1 by omega];exact eI (d:=[]) y3 Z (qP L);exact jk Z;rw[show(x+1).toNat=x.toNat+1 by omega];refine eI (d:=[]) x3 Z ?_;rw[qO Z]at y3;unfold rI;rw[qP hr,y3];rfl;rw[qO Z]at x3;rw[ec,qP h,x3];rfl
theorem aFb:eO 110 MF:=ae λ(((L,u,j,G,y,f):Net),(k:Int),(o:Int),(t:Int),_)=>by
 refine zE (A:=aE) (p:=let h:=(L,u,j,G,y,f);let c4:=(aM h o);let c5:=(Dw f (Dc k) (ByteArray.mk #[],(0:Int),(0:Int))).2.2;let z:=aO h o t;(aFV h k o t->tA h o/\0<=k/\k<Dh f/\zt h o t/\IJ c4 c5 z/\fX c4 c5 z=aEd h k o t/\mT c4 c5 z=aEc h k o t/\True)) aEp λhp=>?_;refine Z9 ?_;obtain⟨⟨z,X⟩,ht⟩:=hp;have ht:=Bj.1 ht;have hr:=uA (t:=t) L u j G y f z;have hv:=(jO L u j G y f z).2.2.1;have hc:=(If L u j G y f z.1 X).2;exact⟨z,X.1,X.2,⟨z,Z,Z⟩,⟨hv,hc.1,by show(cT (L,u,j,G,y,f) k).2.2<1440;omega,Z,Z⟩,rfl,rfl⟩
theorem Yo:ay Tryz.prog G0 KRD:=ah aCu<|ah aCh<|ah aFb aEp
abbrev MJ:=az [.row N,.val I,.val I,.val I] (λ_=>True) λ(n,k,o,t,_)=>.tup [.dat I (Yt n k o t),.dat I (Ko n k o t)]
theorem aFl:eO 43 MJ:=ae λ(((G,y,u,j,z,f):Net),(k:Int),(o:Int),(t:Int),_)=>by
 refine zE (A:=aE) (p:=let c1:=Di (cw k (Dh f));let L:=Di c1;let c3:=Dz c1 true (Di (cw o (Dh j)));let X:=Di c3;let c5:=Dz c3 true (Di (bO t));let A:=Di c5;let h:=(G,y,u,j,z,f);let c8:=Dz c5 true (Di (aZ h));let c9:=Yt h k o t;let c10:=Ko h k o t;(True->True/\L5 L (Q4 L ((L->True)/\L5 L ((Dj true L->L)/\L5 X ((X->True)/\L5 X ((Dj true X->X)/\(A->True)/\L5 A ((Dj true A->A)/\(c8->0=c9/\1=c10/\True)/\(c8=false->aFV h k o t/\aEd h k o t=c9/\aEc h k o t=c10/\True))))))))) Yo λhp=>?_;refine Z9 ?_;have ea:oz (G,y,u,j,z,f) k o t=(((cw k f.length&&cw o j.length)&&bO t)&&aZ (G,y,u,j,z,f)):=rfl;refine⟨λh=>?_,λ⟨⟨⟨h1,h2⟩,h3⟩,h4⟩=>?_⟩;have:oz (G,y,u,j,z,f) k o t=false:=by
  rw[ea];rcases h with((h|h)|h)|h<;>rw[h]<;>simp
 unfold Yt Ko;rw[this];exact⟨rfl,rfl⟩;have:oz (G,y,u,j,z,f) k o t=true:=by rw[ea,h1,h2,h3,h4];rfl
 have e1:=cC.1 h1;have e2:=cC.1 h2;unfold Yt Ko;rw[this];exact⟨⟨⟨⟨gA G y u j z f h4,e2.1,e2.2⟩,e1⟩,h3⟩,rfl,rfl⟩
abbrev MK:=az [.row N,.val I,.val I,.val I] (λ_=>True) λ(n,k,o,t,_)=>.tup [.dat I (PO n k o t),.dat I (UY n k o t)]
theorem t_Cut:eO 42 MK:=ae λ(((G,y,u,j,z,f):Net),(k:Int),(o:Int),(t:Int),_)=>by
 refine zE (A:=aE) (p:=let c1:=Dh f;let c2:=Di (cw k c1);let L:=Di c2;let c4:=Dz c2 true (Di (cw o (Dh j)));let c5:=Di c4;let c6:=Dz c4 true (Di (bO t));let h:=Di c6;let X:=(G,y,u,j,z,f);let c9:=Dz c6 true (Di (aZ X));let c10:=PO X k o t;let c11:=UY X k o t;let A:=(aM X o);let c15:=(Dw f (Dc k) (ByteArray.mk #[],(0:Int),(0:Int))).2.1;(True->True/\L5 L (Q4 L ((L->True)/\L5 L ((Dj true L->L)/\L5 c5 ((c5->True)/\L5 c5 ((Dj true c5->c5)/\(h->True)/\L5 h ((Dj true h->h)/\(c9->0=c10/\1=c11/\True)/\(c9=false->tA X o/\0<=k/\k<c1/\IJ A c15 t/\fX A c15 t=c10/\mT A c15 t=c11/\True))))))))) Yo λhp=>?_;refine Z9 ?_;have ea:oz (G,y,u,j,z,f) k o t=(((cw k f.length&&cw o j.length)&&bO t)&&aZ (G,y,u,j,z,f)):=rfl;refine⟨λh=>?_,λ⟨⟨⟨h1,h2⟩,h3⟩,h4⟩=>?_⟩;have:oz (G,y,u,j,z,f) k o t=false:=by
  rw[ea];rcases h with((h|h)|h)|h<;>rw[h]<;>simp
 unfold PO UY;rw[this];exact⟨rfl,rfl⟩;have:oz (G,y,u,j,z,f) k o t=true:=by rw[ea,h1,h2,h3,h4];rfl
 have e1:=cC.1 h1;have e2:=cC.1 h2;have ho:tA (G,y,u,j,z,f) o:=⟨gA G y u j z f h4,e2.1,e2.2⟩;have ht:=Bj.1 h3;have hv:=(jO G y u j z f ho).2.2.1;have hc:=(If G y u j z f ho.1 e1).1;unfold PO UY;rw[this];exact⟨ho,e1.1,e1.2,⟨hv,hc.1,by show(cT (G,y,u,j,z,f) k).2.1<1440;omega,Z,Z⟩,rfl,rfl⟩
abbrev MI:=az [.row N,.val (.sl M),.row Po] (λ(_,f,_)=>fitsT f) λ(n,f,x,_)=>.tup [.dat I (PN n f x),.dat I (DK n f x)]
theorem aFk:eO 21 MI:=ae λ(((G,y,u,j,z,f):Net),(L:List (Lj)),((x1:ByteArray),(x2:Int),(x3:Int),(X:Int),(x5:Int)),_)=>by
 refine zR (c:=aHb) (Kz:=Kcd) (A0:=aE) (A:=aE) (Ac:=aE) Zs Yo sJ hm Zv (p:=let c1:=(G,y,u,j,z,f);let c2:=CW c1 L;let c3:=Dh f;let c4:=Dz c2 (cw X c3) false;let c5:=(x1,x2,x3,X,x5);let A:=PN c1 L c5;let c7:=DK c1 L c5;let c8:=Dh j;let h:=cw x2 c8;let c10:=Dz h (cw x3 c8) false;let c11:=Eb x5 0;let c12:=Dz c11 (Eh x5 1000000) false;let c13:=Dz c12 (aZ c1) false;let c14:=aM c1 x2;let c15:=c14.2;let c16:=(c14.1,c15.1,c15.2);let c17:=(Dw f (Dc X) (ByteArray.mk #[],(0:Int),(0:Int))).2;let c18:=c17.1;let c19:=mT c16 c18 x5;let c20:=isZero c19;let c21:=Dw L (Dc X) (Du (Li));let c22:=Dw c21 (Dc x2) [];let c23:=Dw c22 (Dc x3) 0;let c24:=Dn c23 0;let c25:=aM c1 x3;let c26:=c25.1;let c27:=c25.2;let c28:=c27.1;let c29:=c27.2;let c30:=fX c16 c18 x5;let c31:=jy c26 c30;let c32:=UX c28 c29 c31 c23;let c33:=isZero c32;let c34:=UD c28 c29 c31 c23;let c35:=c17.2;
  (true/\true)/\(fitsT L->true/\fitsT L/\(c2->c2->c2)/\(c2->c2->c2)/\(c2->c2->c2)/\(c2->c2->c2)/\(c2->c2->c2)/\(c2->True)/\(Dj true c2->c2)/\(true->True/\(c4=false->true/\true/\(Di false->True/\z8 1 0 1 0 1 0 1 0 (0=A/\1=c7/\True))/\(Di false=false->T4 1 0 1 0 (0=A/\0=c7/\True))))/\((true->c4)->(True/\c4)/\True/\(h->h->h)/\(h->h->h)/\(h->h->h)/\(h->h->h)/\(h->h->h)/\(h->True)/\(Dj true h->h)/\(true->True/\(c10=false->true/\true/\(Di false->True/\z8 1 0 1 0 1 0 1 0 (0=A/\1=c7/\True))/\(Di false=false->T4 1 0 1 0 (0=A/\0=c7/\True))))/\((true->c10)->(True/\c10)/\(c11->c11->c11)/\(c11->c11->c11)/\(Dj true c11->c11)/\(c12->True)/\(Dj true c12->c12)/\(true->True/\(c13=false->true/\true/\(Di false->True/\z8 1 0 1 0 1 0 1 0 (0=A/\1=c7/\True))/\(Di false=false->T4 1 0 1 0 (0=A/\0=c7/\True))))/\((true->c13)->(True/\c13)/\0<=X/\X<c3/\L7 1 0 (tA c1 x2/\Q3 1 1 0 (IJ c16 c18 x5/\True/\(c20->tA c1 x2/\Q3 1 1 0 (IJ c16 c18 x5/\(True/\c20)/\0<=X/\X<Dh L/\0<=x2/\x2<Dh c21/\0<=x3/\x3<Dh c22/\(c24->(true->True/\(false=false->true/\true/\(Di false->True/\z8 1 0 1 0 1 0 1 0 (0=A/\170=c7/\True))/\(Di false=false->T4 1 0 1 0 (0=A/\0=c7/\True))))/\True)/\(c24=false->tA c1 x3/\T4 1 0 1 0 (qw c26 c28 c29 c30/\T4 1 0 1 0 (aDx c26 c28 c29 c31 c23/\Q3 1 1 0 (True/\(c33->T4 1 0 1 0 (aDx c26 c28 c29 c31 c23/\(True/\c33)/\Q3 1 1 0 (nG c26 c28 c29 c34 c35/\T4 1 0 1 0 (true/\true/\(Di true->False)/\(Di true=false->T4 1 0 1 0 (gY c26 c34 c35=A/\0=c7/\True))))))/\(c33=false->true/\true/\(Di false->True/\z8 1 0 1 0 1 0 1 0 (0=A/\c32=c7/\True))/\(Di false=false->T4 1 0 1 0 (0=A/\0=c7/\True)))))))))/\(c20=false->true/\true/\
  (Di false->True/\z8 1 0 1 0 1 0 1 0 (0=A/\c19=c7/\True))/\(Di false=false->T4 1 0 1 0 (0=A/\0=c7/\True)))))))))) ⟨⟨rfl,rfl⟩,λhp=>?_⟩
 refine Z9 ?_;have two:∀{p q:Prop},p->(p/\(false=true->q)):=λh=>⟨h,λh=>by cases h⟩;obtain⟨x,hx⟩:∃x:ByteArray×Int×Int×Int×Int,x=(x1,x2,x3,X,x5):=⟨_,rfl⟩;have eo:JR (G,y,u,j,z,f) L x=((CW (G,y,u,j,z,f) L&&cw X f.length)&&(cw x2 j.length&&cw x3 j.length)&&((decide (0<=x5)&&decide (x5<=1000000))&&aZ (G,y,u,j,z,f))):=by rw[hx];rfl
 have eC:fX ((aM (G,y,u,j,z,f) x2).1,(aM (G,y,u,j,z,f) x2).2.1,(aM (G,y,u,j,z,f) x2).2.2) (f.getD X.toNat (⟨#[]⟩,0,0)).2.1 x5=aBG (G,y,u,j,z,f) x:=by rw[hx];rfl
 have eE:mT ((aM (G,y,u,j,z,f) x2).1,(aM (G,y,u,j,z,f) x2).2.1,(aM (G,y,u,j,z,f) x2).2.2) (f.getD X.toNat (⟨#[]⟩,0,0)).2.1 x5=CQ (G,y,u,j,z,f) x:=by rw[hx];rfl
 have eN:((L.getD X.toNat []).getD x2.toNat []).getD x3.toNat 0=ON L x:=by rw[hx];rfl
 have eA:jy (aM (G,y,u,j,z,f) x3).1 (aBG (G,y,u,j,z,f) x)=TJ (G,y,u,j,z,f) x:=by rw[hx];rfl
 have eAE:UX (aM (G,y,u,j,z,f) x3).2.1 (aM (G,y,u,j,z,f) x3).2.2 (TJ (G,y,u,j,z,f) x) (ON L x)=JS (G,y,u,j,z,f) L x:=by rw[hx];rfl
 have eAD:UD (aM (G,y,u,j,z,f) x3).2.1 (aM (G,y,u,j,z,f) x3).2.2 (TJ (G,y,u,j,z,f) x) (ON L x)=TI (G,y,u,j,z,f) L x:=by rw[hx];rfl
 have eK:(f.getD X.toNat (⟨#[]⟩,0,0)).2.2=(cT (G,y,u,j,z,f) X).2.2:=rfl;have eDE:DK (G,y,u,j,z,f) L x=if JR (G,y,u,j,z,f) L x=true then if CQ (G,y,u,j,z,f) x=0 then if ON L x<0 then 170 else JS (G,y,u,j,z,f) L x else CQ (G,y,u,j,z,f) x else 1:=rfl;have eDD:PN (G,y,u,j,z,f) L x=if DK (G,y,u,j,z,f) L x=0 then gY (aM (G,y,u,j,z,f) x3).1 (TI (G,y,u,j,z,f) L x) (cT (G,y,u,j,z,f) X).2.2 else 0:=by rw[hx];rfl
 rw[<- hx];simp only[eC,eE,eN,eA,eAE,eAD,eK];have bad:∀e,DK (G,y,u,j,z,f) L x=e->e≠0->0=PN (G,y,u,j,z,f) L x/\e=DK (G,y,u,j,z,f) L x:=λe he h0=>⟨by rw[eDD,if_neg (by rw[he];exact h0)],he.symm⟩;have arg:JR (G,y,u,j,z,f) L x=false->0=PN (G,y,u,j,z,f) L x/\1=DK (G,y,u,j,z,f) L x:=λh=>bad 1 (by rw[eDE,h];rfl) (by decide);refine⟨hp,λh=>two (arg ?_),λh1=>⟨h1,λh=>two (arg ?_),λh2=>⟨h2,λh=>two (arg ?_),λh3=>⟨h3,?_⟩⟩⟩⟩;rw[eo];cases e1:CW (G,y,u,j,z,f) L<;>cases e2:cw X f.length<;>simp;simp[h e1]at e2;rw[eo];cases e1:cw x2 j.length<;>cases e2:cw x3 j.length<;>simp;simp[h e1]at e2;rw[eo];by_cases e1:0<=x5<;>by_cases e2:x5<=1000000<;>simp[e1,e2];intros;exact h ⟨e1,e2⟩;obtain⟨a1,a2⟩:=h1;obtain⟨b1,b2⟩:=h2;obtain⟨⟨c1,c2⟩,c3⟩:=h3;have hok:JR (G,y,u,j,z,f) L x=true:=by rw[eo,a1,a2,b1,b2,c3,qP (by omega:0<=x5),qP c2];rfl
 have hno:=gA G y u j z f c3;have i4:=cC.1 a2;have i2:=cC.1 b1;have i3:=cC.1 b2;have o2:tA (G,y,u,j,z,f) x2:=⟨hno,i2.1,i2.2⟩;have o3:tA (G,y,u,j,z,f) x3:=⟨hno,i3.1,i3.2⟩;have v2:=(jO G y u j z f o2).2.2.1;have v3:=(jO G y u j z f o3).2.2.1;have hc:=If G y u j z f hno (k:=X) i4;have f2:IJ ((aM (G,y,u,j,z,f) x2).1,(aM (G,y,u,j,z,f) x2).2.1,(aM (G,y,u,j,z,f) x2).2.2) (f.getD X.toNat (⟨#[]⟩,0,0)).2.1 x5:=⟨v2,hc.1.1,by show(cT (G,y,u,j,z,f) X).2.1<1440;omega,Z,Z⟩;unfold CW rI at a1;simp only[qC,qF,qU]at a1;obtain⟨q1,q2⟩:=a1;have q1:(L.length:Int)=f.length:=q1;have r1:=q2 _ (getD_mem (l:=L) (i:=X.toNat) (d:=[]) Z);have r1a:((L.getD X.toNat []).length:Int)=j.length:=r1.1;have r2:(((L.getD X.toNat []).getD x2.toNat []).length:Int)=j.length:=r1.2 _ (getD_mem Z);have hE:DK (G,y,u,j,z,f) L x=if CQ (G,y,u,j,z,f) x=0 then if ON L x<0 then 170 else JS (G,y,u,j,z,f) L x else CQ (G,y,u,j,z,f) x:=by rw[eDE,if_pos hok]
 refine⟨i4.1,i4.2,o2,f2,λhz=>?_,?_⟩;have hz0:=jU.1 hz;have hb:CQ (G,y,u,j,z,f) x=0->x5<=aBG (G,y,u,j,z,f) x/\aBG (G,y,u,j,z,f) x<=x5+90000:=λhz0=>by
  have:=wm (c:=aM (G,y,u,j,z,f) x2) (m:=(cT (G,y,u,j,z,f) X).2.1) (t:=x5) v2 (by rw[hx]at hz0;exact hz0) hc.1.1 hc.1.2;rw[hx];exact this
 have hcb:=hb hz0;obtain⟨⟨z1,z2,_,_⟩,_⟩:=dZ.1 v3;have hday:-1000<=TJ (G,y,u,j,z,f) x/\TJ (G,y,u,j,z,f) x<=10000:=by
  rw[<- eA];unfold jy;omega
 have hE2:DK (G,y,u,j,z,f) L x=if ON L x<0 then 170 else JS (G,y,u,j,z,f) L x:=by rw[hE,if_pos hz0]
 refine⟨o2,f2,hz,i4.1,Z,i2.1,Z,i3.1,Z,λhneg=>two (bad 170 (by rw[hE2,if_pos hneg]) (by decide)),λhpos=>?_⟩;have hadd:aDx (aM (G,y,u,j,z,f) x3).1 (aM (G,y,u,j,z,f) x3).2.1 (aM (G,y,u,j,z,f) x3).2.2 (TJ (G,y,u,j,z,f) x) (ON L x):=⟨v3,jW Z Z,Z⟩;have hE3:DK (G,y,u,j,z,f) L x=JS (G,y,u,j,z,f) L x:=by rw[hE2,if_neg hpos]
 refine⟨o3,⟨v3,Z,Z⟩,hadd,λhz2=>?_,?_⟩;have hz3:=jU.1 hz2;have hb2:dF (TI (G,y,u,j,z,f) L x)=true:=by
  rw[<- eAE]at hz3;rw[<- eAD];unfold UX at hz3;unfold UD;split at hz3;rename_i h200;rw[if_pos h200];cases ha:Iu (aM (G,y,u,j,z,f) x3).2.1 (aM (G,y,u,j,z,f) x3).2.2 (ON L x).toNat (TJ (G,y,u,j,z,f) x)with
  |none=>rw[ha]at hz3;simp at hz3|some e=>
   have:=J6 _ ha;exact jW (by show _<=e;omega) (by show e<=_;omega)
  omega
 exact⟨hadd,hz2,⟨v3,hb2,hc.2.1,Z⟩,(λh=>by simp at h),by rw[eDD,if_pos (by rw[hE3];exact hz3)],by rw[hE3];exact hz3.symm⟩;intro hz2;exact two (bad _ hE3 (jT.1 hz2));intro hz;exact two (bad _ (by rw[hE,if_neg (jT.1 hz)]) (jT.1 hz))
end Go.Eng.Sv
namespace Go.Eng.In
open Go.Proofs
abbrev I:Ty:=.int .i64
abbrev B:Ty:=.sl .bool
abbrev R:Ty:=.sl I
abbrev M:Ty:=.sl R
abbrev LC:Type:=List (Int×List Bool×Li)
abbrev LB:Type:=List ByteArray
abbrev C:Ty:=.pair I (.pair B R)
abbrev S:Ty:=.str
abbrev dO(t:TypeId)(e:Int):Value:=.iface t (.int .i64 e)
def big(x:Int):Prop:=-1000000000000<=x/\x<=1000000000000
def btw(x a b:Int):Bool:=decide (a<=x/\x<=b)
def bf(z t:Int):Int:=(t+z)/1440
def dj(z t:Int):Int:=(t+z)%1440
def nX(z d m:Int):Int:=d*1440+m-z
def wkF(w:List Bool)(h:Li)(d:Int):Bool:=w.getD (d%7).toNat false&&!h.contains d
def X8(h:Li)(d:Int):Int:=((h.filter λx=>decide (x<d)).length:Int)
def srt(h:Li):Prop:=h.length<=1000000/\∀i j:Nat,i<j->j<h.length->h.getD i 0<h.getD j 0
def O4(h:Li)(d i j:Int):Prop:=0<=i/\i<=j/\j<=h.length/\(∀k:Nat,(k:Int)<i->h.getD k 0<d)/\∀k:Nat,j<=k->k<h.length->d<=h.getD k 0
def O5(h:Li)(d:Int):Bool:=h.contains d
def fQ(z:Int)(w:List Bool)(h:Li):Bool:=decide (-720<=z/\z<=840/\w.length=7/\h.length<=40)&&(List.range (h.length-1)).all λi=>decide (h.getD i 0<h.getD (i+1) 0)
def Cf(h:Li)(k:Int):Prop:=1<=k/\(k<=h.length\/k=1)/\h.length<=40/\∀i:Nat,(i:Int)+1<k->h.getD i 0<h.getD (i+1) 0
def wkP(w:List Bool)(h:Li)(d:Int):Prop:=w.length=7/\srt h/\big d
def fu(w:List Bool)(h:Li)(a b:Int):Li:=((List.range (b+1-a).toNat).map λ(i:Nat)=>a+(i:Int)).filter λd=>wkF w h d
def gv(w:List Bool)(h:Li)(a d:Int):Nat:=(((List.range (d-a).toNat).map λ(i:Nat)=>a+(i:Int)).filter λd=>wkF w h d).length
def wdP(w:List Bool)(h:Li)(a b:Int):Prop:=w.length=7/\srt h/\big a/\big b
def aBz(a b d:Int):Prop:=a<=d/\(d<=b+1\/d=a)
def bh(xs:Li):Bool:=decide (0<xs.length)
def hd(xs:Li):Int:=xs.getD 0 0
def tl(xs:Li):Li:=xs.drop 1
def aGN:Kt:=λf args m=>none
def fP:List (Nat×AV):=[]
def KI0:FuncId->List AV->Option iJ:=λ_ _=>none
noncomputable def mkc(K:Kt):Cfg:=⟨Tryz.prog,fP,K,λ_=>false,KI0,false,λ_ _ _=>none,λ_=>false⟩
noncomputable def Og(K:Kt)(mb:Tmp->Bool)(h:KPt)(f:FuncId->Bool):Cfg:=⟨Tryz.prog,fP,K,mb,KI0,false,h,f⟩
def fY(s:St):St:={s with tm:=s.tm.map aBV}
def U9(h:Li):Ann:=Z8 4 Int (Cf h) (λs k=>put s [(3,.dat I k)]) λk=>Dc (Dk (Dh h) k)
def bsA(h:Li)(d:Int):Ann:=Z8 3 (Int×Int) (λk=>O4 h d k.1 k.2) (λs k=>put s [(7,.dat I k.1),(8,.dat I k.2)]) λk=>Dc (Dk k.2 k.1)
abbrev MH:=az [.val I,.val I,.val I] (λ_=>True) λ(x,a,b,_)=>.dat .bool (btw x a b)
abbrev GY:=az [.val I] (λ_=>True) λ_=>.dat .bool false
abbrev GX:=az [.val I] (λ_=>True) λ_=>.dat .bool false
def aGM:Kt:=kOr 82 MH <|
 kOr 259 GY <|
 kOr 284 GX aGN
abbrev G1:=az [.val I,.val I] (λ_=>True) λ(x,y,_)=>.dat .bool (Dn x y)
def aGL:Kt:=kOr 258 G1 aGM
abbrev SH:=az [.val R,.val I] (λ(h,_,_)=>srt h) λ(h,d,_)=>.tup [.dat I (X8 h d),.dat .bool (O5 h d)]
def aGm:Kt:=kOr 218 SH aGL
def KPr:KPt:=pOr 29 (Ia [.val .bool,.val I] λ(b,e,_)=>⟨True,b,dO 38 e⟩) noP
abbrev An:=az [.ptr C,.val I] (λ(c,d,_)=>wkP c.2.1 c.2.2 d) λ(c,d,_)=>.dat .bool (wkF c.2.1 c.2.2 d)
abbrev Ax:=az [.ptr C,.val I] (λ(c,t,_)=>big c.1/\big t) λ(c,t,_)=>.tup [.dat I (bf c.1 t),.dat I (dj c.1 t)]
abbrev Mc:=az [.ptr C,.val I,.val I] (λ(c,d,m,_)=>big c.1/\big d/\big m) λ(c,d,m,_)=>.dat I (nX c.1 d m)
abbrev SD:=az [.row C] (λ_=>True) λ(c,_)=>.dat .bool (fQ c.1 c.2.1 c.2.2)
abbrev rY:=az [.ptr C,.val I,.val I] (λ_=>True) λ(c,a,b,_)=>.fn 156 [.ip I a,.ip I b,.ipv (.ip C c)]
def aEt:Kt:=kOr 157 An <|
 kOr 92 Ax <|
 kOr 88 Mc <|
 kOr 84 SD <|
 kOr 87 rY <|
 kOr 29 (az [.val .bool,.val I] (λ(b,_)=>True/\b=true) λ_=>.tup []) aGm
def wdA(w:List Bool)(h:Li)(a b:Int):ID:=⟨λf y=>match f with
 |1=>some {α:=Int,inv:=λd=>aBz a b d,st:=λd=>⟨put y.s [(5,.dat I d)],gv w h a d,true⟩,μ:=λd=>Dc (Dk (Dt b 1) d)}|_=>none,λ_ _=>none,λf=>f==3⟩
def cR:Cfg:=Og aEt (λ_=>false) KPr (λf=>f==29)
theorem aEg(x y:Bool):Dz x true y=(x||y):=by cases x<;>rfl
theorem T8(x y:Bool):Dz x y false=(x&&y):=by cases x<;>rfl
theorem hm:Tryz.prog.follows .mixedOrders=true:=by kernel_rfl
theorem Yq:ay Tryz.prog fP aGN:=λf args m c h=>by cases h
theorem sJ:aR Tryz.prog fP KI0:=λf args c h=>by cases h
theorem zE{K:Kt}{A:Ann}{f:FuncId}{args:List AV}{m:Mem}{r:lA}{p:Prop}(j:ay Tryz.prog fP K)(h:p)(e:evF (mkc K) A f args m r=(true=true/\p):=by kernel_rfl):aj Tryz.prog fP f args m r:=nQ (c:=mkc K) j sJ hm (by rw[e];exact⟨rfl,h⟩)
abbrev eO:=EO Tryz.prog fP
theorem ou{x a b:Int}:btw x a b=true↔a<=x/\x<=b:=by unfold btw;rw[qF]
theorem aN{α:Type}{l:List α}{i:Nat}{d:α}(h:i<l.length):l.getD i d∈l:=by
 rw[qA,qB h];exact wM h
theorem aFi:eO 82 MH:=ae λ((x:Int),(a:Int),(b:Int),_)=>by
 refine zE (A:=aE) (p:=let f:=Eb x a;(True->Q2 f ((Dj true f->Eb x a)/\Dz f (Eh x b) false=btw x a b/\True))) Yq λ_=>?_;refine Z9 ?_;unfold btw;simp
theorem aB5:eO 259 GY:=ae λ((x:Int),_)=>zE (A:=aE) (p:=(True->Ea x x=false/\True)) Yq λ_=>⟨by simp,trivial⟩
theorem aB4:eO 284 GX:=ae λ((x:Int),_)=>zE (A:=aE) (p:=(True->Ea x x=false/\True)) Yq λ_=>⟨by simp,trivial⟩
theorem aDG:ay Tryz.prog fP aGM:=ah aFi<|ah aB5<|ah aB4 Yq
theorem aB7:eO 258 G1:=ae λ((x:Int),(y:Int),_)=>by
 refine zE (A:=aE) (p:=let h:=Dz false (Di false) false;let f:=Di h;(True->True/\L5 false ((false->True)/\L5 false ((Dj true false->false)/\Q2 f ((Dj true f->f)/\Dz h true (Dn x y)=Dn x y/\True))))) aDG λ_=>?_;simp only[qc,Dj,Et,Di,xG,Dz,cond_false,kE,wZ,qDb]
theorem aDF:ay Tryz.prog fP aGL:=ah aB7 aDG
theorem QH{h:Li}(f:srt h){i j:Nat}(y:i<=j)(u:j<h.length):h.getD i 0<=h.getD j 0:=by
 rcases zO i j with g|g;exact Int.le_of_lt (f.2 i j g u);have:i=j:=by omega
 rw[this];exact qL _
theorem aDt{h:Li}{d i:Int}(A:srt h)(L:O4 h d i i):i=X8 h d/\(O5 h d=true↔i<h.length/\h.getD i.toNat 0=d):=by
 obtain⟨h1,_,h3,z,y⟩:=L;constructor;unfold X8;have e:h=h.take i.toNat++h.drop i.toNat:=(xU _ _).symm;have l1:(h.take i.toNat).filter (λx=>decide (x<d))=h.take i.toNat:=List.filter_eq_self.2 λx u=>by
  obtain⟨k,f,rfl⟩:=yD.1 u;rw[qM]at f;have:=z k Z;rw[qA,qB Z]at this;rw[qCj];exact qP this
 have l2:(h.drop i.toNat).filter (λx=>decide (x<d))=[]:=qBn.2 λx u=>by
  obtain⟨k,f,rfl⟩:=yD.1 u;rw[wC]at f;have:=y (i.toNat+k) Z Z;rw[qA,qB Z]at this;rw[List.getElem_drop];simpa using this
 rw[e,yF,l1,l2,vZ,qM];omega;unfold O5;rw[List.contains_iff_mem];constructor;intro hm;obtain⟨k,f,e⟩:=yD.1 hm;have e2:h.getD k 0=d:=by rw[qA,qB f];exact e
 have X:¬(k:Int)<i:=λg=>by have:=z k g;omega
 refine⟨Z,?_⟩;have:=QH A (i:=i.toNat) (j:=k) Z f;have:=y i.toNat Z Z;omega;rintro⟨G,e⟩;rw[<- e];exact aN Z
theorem aA{x:Int}(h:-4000000000000000<=x/\x<=4000000000000000):inR .i64 x:=⟨show(-9223372036854775808:Int)<=x by omega,show x<=9223372036854775807 by omega⟩
theorem aGT:eO 218 SH:=ae λ((h:Li),(d:Int),_)=>by
 refine zE (A:=(lvA [(3,[0,1,4,5,6,7,8,9])] (bsA h d))) (p:=(srt h->(∃(x:Int×Int),O4 h d x.1 x.2/\T6 h d V6 false (Dh h) (0=x.1/\Dh h=x.2/\True))/\∀(x:Int×Int),let c1:=Dn x.1 x.2;let L:=x.1+x.2;let u:=Gl L 1;let c4:=Dn (Dw h (Dc u) 0) d;let X:=u+1;let j:=Dn x.1 (Dh h);let z:=Ee (Dw h (Dc x.1) 0) d;let f:=Dj j (Di z);O4 h d x.1 x.2->(c1->inR .i64 L/\inR IntKind.u64 L/\Dp 0 1/\Dc 1<=64/\inR .i64 u/\0<=u/\u<Dh h/\True/\(c4->inR .i64 X/\∃(y:Int×Int),O4 h d y.1 y.2/\(T6 h d V6 false (Dh h) (X=y.1/\x.2=y.2/\True))/\Dc (y.2-y.1)<Dc (x.2-x.1))/\(c4=false->∃(y:Int×Int),O4 h d y.1 y.2/\(T6 h d V6 false (Dh h) (x.1=y.1/\u=y.2/\True))/\Dc (y.2-y.1)<Dc (x.2-x.1)))/\(c1=false->(j->j->j)/\(j->j->j)/\(j->0<=x.1)/\(j->x.1<Dh h)/\(j->j->j)/\(j->j->j)/\(j->j->j)/\(j->j->j)/\(f->f->f)/\(f->f->f)/\(f->0<=x.1)/\(f->x.1<Dh h)/\(f->f->f)/\(f->f->f)/\(f->True)/\(f->f->f)/\(Dj f false->Dj f false->Dj f false)/\(Dj f false->True)/\(f->f->f)/\(f->Dj f false->Dj f false)/\(j->j->j)/\(j->f->f)/\(Dj true j->j)/\x.1=X8 h d/\Dz j (Dz z true (Dz false false false)) false=O5 h d/\True))) aDF λhs=>?_;have hl:=hs.1;refine⟨⟨(0,Dh h),⟨qL _,qR _,qL _,λk g=>Z,λk g1 g2=>by simp only[Dh]at g1;omega⟩,?_⟩,λ⟨i,j⟩=>?_⟩;simp;intro c1 L u c4 X c6 c7 f hi;have hi':=hi;obtain⟨h1,h2,h3,h4,h5⟩:=hi;have e3:u=(i+j)/2:=by
  show(i+j).fdiv (2 ^ (1:Int).toNat)=_;rw[qCh _ (by decide)];rfl
 have e2:L=i+j:=rfl;have e5:X=u+1:=rfl;have e1:c1=decide (i<j):=rfl;have e4:c4=decide (h.getD u.toNat 0<d):=rfl;have hiu:inR .u64 L:=by
  rw[e2];exact⟨show(0:Int)<=i+j by omega,show i+j<=18446744073709551615 by omega⟩
 clear_value c1 L u c4 X;constructor;intro G;rw[e1,qF]at G;refine⟨by rw[e2];exact aA Z,hiu,by decide,by decide,aA Z,by show(0:Int)<=u;omega,by show u<(h.length:Int);omega,trivial,λz=>?_,λz=>?_⟩;rw[e4,qF]at z;refine⟨by rw[e5];exact aA Z,(X,j),⟨Z,Z,h3,λk hk=>?_,h5⟩,by simp,?_⟩;have:=QH hs (i:=k) (j:=u.toNat) Z Z;omega;simp only[Dx,Dc,Dk];omega;rw[e4,wJ]at z;refine⟨(i,u),⟨h1,Z,Z,h4,λk hk hk2=>?_⟩,by simp,?_⟩;have:=QH hs (i:=u.toNat) (j:=k) Z Z;omega;simp only[Dx,Dc,Dk];omega
 .intro G;rw[e1,wJ]at G;have:i=j:=Z;subst this;obtain⟨b1,b2⟩:=aDt hs hi';have e6:c6=decide (i<h.length):=rfl;have e7:c7=decide (h.getD i.toNat 0=d):=rfl;have e8:f=(c6&&!c7):=rfl;clear_value c6 c7 f;have hlt:c6=true->i<(h.length:Int):=λg=>by rw[e6]at g;exact vJ g
  have g8:f=true->c6=true:=λg=>by rw[e8,qC]at g;exact g.1
  simp only[qc,Dj,Et,Di]
  and_intros
  all_goals first
   |exact λ_=>h1
   |exact hlt
   |exact λg=>hlt (g8 g)
   |exact b1
   |exact λg=>g8 g
   |skip
  rw[qCx,b2,e6,e7];simp
theorem IA:ay Tryz.prog fP aGm:=ah aGT aDF
theorem BJ{a m:Int}(h:0<m):(a.tmod m+m).tmod m=a%m:=by
 have e:=qAt (a:=a) (b:=m);have z:=gV a (show m≠0 by omega);have y:=kQ a h;have u:(m.natAbs:Int)=m:=Z;have f:a.tmod m=a%m\/a.tmod m=a%m-m:=by
  rw[e];split;exact .inl Z;exact .inr Z
 have j:0<=a.tmod m+m:=Z;rw[qCg j];rcases f with f|f<;>rw[f];rw[Int.add_emod_right,Int.emod_emod_of_dvd _ (Int.dvd_refl _)];rw[Int.sub_add_cancel,Int.emod_emod_of_dvd _ (Int.dvd_refl _)]
theorem ZL:eO 157 An:=ae λ(((z:Int),(w:List Bool),(h:Li)),(d:Int),_)=>by
 refine zE (A:=aE) (p:=let y:=Gg d 7+7;let j:=Gg y 7;let u:=Di (Dw w (Dc j) false);(wkP w h d->Es 7 0/\inR .i64 y/\Es 7 0/\0<=j/\j<Dh w/\(u->false=wkF w h d/\True)/\(u=false->srt h/\Di (O5 h d)=wkF w h d/\True))) IA λ⟨L,X,hb⟩=>?_;have e:=BJ (a:=d) (m:=7) (by decide);have G:=gV d (show(7:Int)≠0 by decide);have n1:=kQ d (show(0:Int)<7 by decide);have tb:-7<d.tmod 7/\d.tmod 7<7:=by
  have:=qAt (a:=d) (b:=7);split at this<;>omega
 simp only[Gg,Dt,e,Di,Dw,Dc,Dp,Dq,Es,Dh,L];refine⟨by decide,aA Z,by decide,G,Z,λf=>⟨?_,trivial⟩,λf=>⟨X,?_,trivial⟩⟩;unfold wkF;rw[zD]at f;rw[f];rfl;unfold wkF O5;rw[kC]at f;rw[f];rfl
theorem Z3:eO 92 Ax:=ae λ(((z:Int),(w:List Bool),(h:Li)),(t:Int),_)=>by
 refine zE (A:=aE) (p:=let G:=Gg (t+z) 1440+1440;let y:=Gg G 1440;let u:=(t+z)-y;let j:=Gq u 1440;(big z/\big t->inR .i64 (t+z)/\Es 1440 0/\inR .i64 G/\Es 1440 0/\inR .i64 u/\Es 1440 0/\inR .i64 j/\j=bf z t/\y=dj z t/\True)) IA λ⟨L,X⟩=>?_;obtain⟨z1,z2⟩:=L;obtain⟨t1,t2⟩:=X;have e:=BJ (a:=t+z) (m:=1440) (by decide);have n0:=gV (t+z) (show(1440:Int)≠0 by decide);have n1:=kQ (t+z) (show(0:Int)<1440 by decide);have tb:-1440<(t+z).tmod 1440/\(t+z).tmod 1440<1440:=by
  have:=qAt (a:=t+z) (b:=1440);split at this<;>omega
 have eq:(t+z-(t+z)%1440).tdiv 1440=(t+z)/1440:=by
  have:t+z-(t+z)%1440=1440*((t+z)/1440):=Z;rw[this,qCt _ (by decide)]
 have f:∀{x:Int},-4000000000000<=x->x<=4000000000000->inR .i64 x:=λ{x} h1 h2=>⟨show(-9223372036854775808:Int)<=x by omega,show x<=9223372036854775807 by omega⟩;simp only[Gg,Dt,Dk,Gq,e,eq];exact⟨f Z Z,by decide,f Z Z,by decide,f Z Z,by decide,f Z Z,rfl,rfl,trivial⟩
theorem aE2:eO 88 Mc:=ae λ(((z:Int),(w:List Bool),(h:Li)),(d:Int),(m:Int),_)=>by
 refine zE (A:=aE) (p:=let y:=d*1440;let u:=y+m;let j:=u-z;(big z/\big d/\big m->inR .i64 y/\inR .i64 u/\inR .i64 j/\j=nX z d m/\True)) IA λ⟨⟨L,G⟩,⟨d1,d2⟩,⟨m1,X⟩⟩=>?_;have f:∀{x:Int},-4000000000000000<=x->x<=4000000000000000->inR .i64 x:=λ{x} h1 h2=>⟨show(-9223372036854775808:Int)<=x by omega,show x<=9223372036854775807 by omega⟩;exact⟨f Z Z,f Z Z,f Z Z,rfl,trivial⟩
def Dm(z:Int)(w:List Bool)(h:Li):Prop:=(-720<=z/\z<=840/\w.length=7/\h.length<=40)/\∀i:Nat,i+1<h.length->h.getD i 0<h.getD (i+1) 0
theorem jg{z:Int}{w:List Bool}{h:Li}:fQ z w h=true↔Dm z w h:=by
 unfold fQ Dm;rw[qC,qF,qU];refine and_congr_right λ_=>⟨λg i f=>?_,λg i f=>?_⟩;have:=g i (wG.2 Z);simpa using this;have:=wG.1 f;simpa using g i Z
theorem rx{z:Int}{w:List Bool}{h:Li}(j:¬Dm z w h):false=fQ z w h:=by
 cases f:fQ z w h with
 |false=>rfl|true=>exact(j (jg.1 f)).elim
theorem P0{z:Int}{w:List Bool}{h:Li}(u:fQ z w h=true):srt h:=by
 obtain⟨⟨_,_,_,L⟩,A⟩:=jg.1 u;refine⟨Z,λi j y G=>?_⟩;induction j with
 |zero=>omega|succ j f=>
  have:=A j Z;rcases zO i j with g|g;have:=f g Z;omega;have:i=j:=by omega
  rw[this];assumption
theorem aGQ:eO 84 SD:=ae λ(((z:Int),(w:List Bool),(h:Li)),_)=>by
 refine zE (A:=(lvA [(4,[1,2,3])] (U9 h))) (p:=let c1:=Di (btw z (-720) 840);let c2:=Di c1;let c3:=Dz c1 true (Ea (Dh w) 7);let c4:=Di c3;let c5:=Dz c3 true (Ef (Dh h) 40);let j:=(z,w,h);(True->True/\Q4 c2 ((Dj true c2->c2)/\Q4 c4 ((Dj true c4->c4)/\(c5->false=fQ z w h/\True)/\(c5=false->(∃x,Cf h x/\j=j/\1=x/\True)/\∀(x:Int),let A:=Dn x (Dh h);let u:=x-1;let G:=Eh (Dw h (Dc x) 0) (Dw h (Dc u) 0);let f:=x+1;Cf h x->(A->0<=x/\x<Dh h/\inR .i64 u/\0<=u/\u<Dh h/\(G->false=fQ z w h/\True)/\(G=false->inR .i64 f/\∃y,Cf h y/\(j=j/\f=y/\True)/\Dc (Dh h-y)<Dc (Dh h-x)))/\(A=false->true=fQ z w h/\True)))))) IA λ_=>?_;have eb:btw z (-720) 840=decide (-720<=z/\z<=840):=rfl;simp only[eb];refine Z9 ?_;refine⟨λhb=>rx λL=>?_,λ⟨⟨⟨h1,h2⟩,h3⟩,h4⟩=>⟨⟨qL _,.inr rfl,Z,λi hi=>Z⟩,λx j=>⟨λX=>?_,λhge=>(jg.2 ⟨⟨Z,Z,Z,Z⟩,λi hi=>j.2.2.2 i Z⟩).symm⟩⟩⟩;obtain⟨⟨g1,g2,g3,g4⟩,_⟩:=L;omega;have hx1:=j.1;have G:=j.2.2.1;refine⟨Z,X,aA Z,Z,Z,λhle=>rx λL=>?_,λhn=>⟨aA Z,x+1,⟨Z,Z,G,λi hi=>?_⟩,rfl,Z⟩⟩;have:=L.2 (x-1).toNat Z;rw[show(x-1).toNat+1=x.toNat by omega]at this;omega;by_cases e:(i:Int)+1<x;exact j.2.2.2 i e;have e1:(x-1).toNat=i:=by omega
 have e2:x.toNat=i+1:=Z;rw[e1,e2]at hn;omega
theorem Qh:eO 87 rY:=ae λ(((z:Int),(w:List Bool),(h:Li)),(a:Int),(b:Int),_)=>zE (A:=aE) (p:=let f:=(z,w,h);(True->d9 a b f)) IA λ_=>⟨rfl,rfl,rfl,trivial⟩
theorem aB1(b:Bool)(e:Int):aj Tryz.prog fP 29 [.dat .bool b,.dat I e] [] ⟨True/\b=true,.tup [],[]⟩/\fm Tryz.prog fP 29 [.dat .bool b,.dat I e] [] ⟨True,b,dO 38 e⟩:=by
 refine zC (c:=mkc aGm) (A:=aE) (q:=⟨True,b,dO 38 e⟩) IA sJ hm Aa (p:=let f:=chainOf (Value.iface 38 (Value.int .i64 e));true/\(True->(Di b->(true->True/\(false=false->b=false/\true/\f=f))/\True)/\(Di b=false->b/\True))) ⟨rfl,λ_=>⟨λh=>⟨λ_=>⟨trivial,λ_=>⟨?_,rfl,rfl⟩⟩,trivial⟩,λh=>⟨?_,trivial⟩⟩⟩;simpa using h;simpa using h
theorem aCi(e:Int):aj Tryz.prog fP 27 [.ifc 38 (.dat I e)] [] ⟨True,.dat I e,[]⟩:=
 zE (A:=aE) (p:=(True->(true->T5 e)/\(true=false->190=e/\True))) IA λ_=>⟨λ_=>⟨rfl,trivial⟩,λh=>by cases h⟩
theorem UF:ay Tryz.prog fP aEt:=ah ZL<|ah Z3<|ah aE2<|ah aGQ<|ah Qh<|ah (ae λ(b,e,_)=>(aB1 b e).1) IA
theorem NC:bI Tryz.prog fP KPr:=lT (mX λ(b,e,_)=>(aB1 b e).2) Aa
theorem HK{α:Type}{f:Nat->α}{p:α->Bool}{k:Nat}(u:p (f k)=true):∀N:Nat,k<N->(((List.range N).map f).filter p)[(((List.range k).map f).filter p).length]?=some (f k)
 |0,h=>Z|N+1,h=>by
  rw[yK,wV,yF];rcases zO k N with y|y;have j:=HK u N y;rw[vY (qE.1 j).1];exact j;have e:N=k:=by omega
  subst e;rw[qZ (qN _),qAk];simp[u]
theorem Up{w:List Bool}{h:Li}{a b x:Int}(y:a<=x)(u:x<=b)(j:wkF w h x=true):oD (fu w h a b) (gv w h a x) x:=by
 have e:a+((x-a).toNat:Int)=x:=Z;have:=HK (f:=λ(i:Nat)=>a+(i:Int)) (p:=λd=>wkF w h d) (k:=(x-a).toNat) (by simp only[e];exact j) (b+1-a).toNat Z;simp only[e]at this;exact this
theorem AU{w:List Bool}{h:Li}{a x:Int}(f:a<=x):gv w h a (x+1)=gv w h a x+(if wkF w h x then 1 else 0):=by
 unfold gv;rw[show(x+1-a).toNat=(x-a).toNat+1 by omega,yK,wV,yF,qG];have e:a+((x-a).toNat:Int)=x:=Z;congr 1;simp only[wR,qBv,e,yV,gQ];split<;>simp_all
theorem OX(w:List Bool)(h:Li)(a:Int):gv w h a a=0:=by
 unfold gv;rw[show(a-a).toNat=0 by omega];rfl
theorem TX{w:List Bool}{h:Li}{a b x:Int}(f:aBz a b x)(j:¬x<=b):gv w h a x=(fu w h a b).length:=by
 unfold gv fu;have e:(x-a).toNat=(b+1-a).toNat:=by
  rcases f with⟨y,u|u⟩<;>omega
 rw[e]
theorem aEE(z a b:Int)(w:List Bool)(h:Li):lI Tryz.prog fP 156 [.ip I a,.ip I b,.ipv (.ip C (z,w,h))] ⟨wdP w h a b,I,fu w h a b⟩:=by
 refine zI (c:=mkc aEt) (A:=(wdA w h a b)) UF sJ hm (p:=let c1:=(z,w,h);let c2:=fu w h a b;let c3:=Dl c2;let c4:=b+1;true/\true/\true/\false=false/\∀(l:Nat),wdP w h a b->(∃x,aBz a b x/\(T4 l a b c1 (a=x/\T5 a))/\0=gv w h a x/\true)/\∀(x:Int),let X:=gv w h a x;let j:=X+1;let f:=x+1;let c8:=Dz (wkF w h x) (Di false) false;aBz a b x->(Eh x b->wkP w h x/\(wkF w h x->(wkF w h x->wkF w h x)/\(wkF w h x->wkF w h x)/\l=l/\true/\oD c2 X x/\∀(u:Bool),let A:=Dz (wkF w h x) (Di u) false;(Dj true (wkF w h x)->wkF w h x)/\(A->u->j=c3)/\(A=false->inR IntKind.i64 f/\∃y,aBz a b y/\((T4 l a b c1 (f=y/\T5 a))/\j=gv w h a y/\u)/\Dc (c4-y)<Dc (c4-x)))/\(wkF w h x=false->L5 (wkF w h x) ((Dj true (wkF w h x)->wkF w h x)/\(c8->true->X=c3)/\(c8=false->inR .i64 f/\∃y,aBz a b y/\((T4 l a b c1 (f=y/\T5 a))/\X=gv w h a y/\true)/\Dc (c4-y)<Dc (c4-x)))))/\(Eh x b=false->true->X=c3)) ⟨rfl,rfl,rfl,rfl,λl ⟨hw,hs,⟨a1,a2⟩,⟨b1,b2⟩⟩=>?_⟩;refine⟨⟨a,⟨qL _,.inr rfl⟩,⟨rfl,rfl,rfl,rfl,rfl,rfl,trivial⟩,(OX w h a).symm,rfl⟩,λx hx=>?_⟩;obtain⟨x1,x2⟩:=hx;refine⟨λj=>?_,λhge _=>TX ⟨x1,x2⟩ (by simpa using hge)⟩;have j:x<=b:=by simpa using j
 have hb:big x:=⟨Z,Z⟩;refine⟨⟨hw,hs,hb⟩,λf=>⟨λh=>h,λh=>h,rfl,rfl,Up x1 j f,λbb=>⟨λ_=>f,λL hb1=>?_,λL=>?_⟩⟩,λf=>⟨λ_ h=>h,λ_=>?_,λh8 _=>?_,λh8=>?_⟩⟩;rw[f,hb1]at L;cases L;rw[f]at L;have:bb=true:=by simpa[Dz,Di]using L
 refine⟨aA Z,x+1,⟨Z,.inl Z⟩,⟨⟨rfl,rfl,rfl,rfl,rfl,rfl,trivial⟩,?_,this⟩,?_⟩;rw[AU x1,f];rfl;simp only[Dx,Dc,Dk,Dt];omega;rename_i G;rw[f]at G;cases G;rw[f]at h8;cases h8;refine⟨aA Z,x+1,⟨Z,.inl Z⟩,⟨⟨rfl,rfl,rfl,rfl,rfl,rfl,trivial⟩,?_,rfl⟩,?_⟩;rw[AU x1,f];rfl;simp only[Dx,Dc,Dk,Dt];omega
theorem IV(xs:Li):aj Tryz.prog fP 154 [.ptr 1 1 0 0] [(1,.var [.dat R xs])] ⟨True/\bh xs=true,.dat I (hd xs),[(1,.var [.dat R (tl xs)])]⟩/\fm Tryz.prog fP 154 [.ptr 1 1 0 0] [(1,.var [.dat R xs])] ⟨True,bh xs,dO 38 190⟩:=by
 refine zM (c:=cR) (A:=aE) (q:=⟨True,bh xs,dO 38 190⟩) UF sJ hm NC (p:=let f:=Ef (Dh xs) 0;let j:=chainOf (Value.iface 38 (Value.int .i64 (190:Int)));true/\(True->T6 1 1 1 1 0 ((true->True/\(f=false->bh xs=false/\true/\j=j))/\((true->f)->(True/\f)/\T4 1 1 1 0 (Dp 0 0/\0<Dh xs/\T4 1 1 1 0 (Dp 0 1/\1<=Dh xs/\T4 1 1 1 0 (bh xs/\Dw xs (Dc 0) 0=hd xs/\Fe xs 1=tl xs/\T5 1))))))) ⟨rfl,λ_=>?_⟩;have e:Ef (Dh xs) 0=bh xs:=by unfold bh;simp
 simp only[e];refine Z9 ?_;refine λh=>?_;have u:0<xs.length:=by unfold bh at h;simpa using h
 exact⟨h,qL _,Z,by decide,Z,h,rfl,rfl⟩
abbrev Ce:Ty:=.pair R I
abbrev Pl:Ty:=.pair I (.pair I (.pair M (.sl M)))
abbrev Plan:=Int×Int×Lj×List (Lj)
abbrev Ai(l:Li):Prop:=l.length<=2000000000000000
abbrev aBE(l:Li):Prop:=l.length<=9223372036854775807
def sP(l:Li)(k:Int):Int:=(NS (1,0) (l.take k.toNat)).1
def sS(l:Li)(k:Int):Int:=(NS (1,0) (l.take k.toNat)).2
def rl(l:Li):Li:=l.map λx=>x%65521
def jI(l:Li):Int:=zk (rl l)
def jm(l:Li):Bool:=l.all λx=>btw x 0 65519
def dq(l:Li)(s:Int):Bool:=jm l&&decide (s=zk l)
def aAJ(l:Li)(k:Int):Prop:=0<=k/\k<=l.length/\jm (l.take k.toNat)=true
def Xr(l:Li)(k:Int):Prop:=0<=k/\k<=l.length
def iT(g:Int->Int->Int)(n:Int):Lj:=(List.range n.toNat).map λi:Nat=>(List.range n.toNat).map λj:Nat=>g i j
def o9(g:Int->Int->Int)(n i:Int):Lj:=(iT g n).take i.toNat++List.replicate (n.toNat-i.toNat) []
def I5(g:Int->Int->Int)(n i j:Int):Li:=((List.range n.toNat).map λj:Nat=>g i j).take j.toNat++List.replicate (n.toNat-j.toNat) 0
def upto(k n:Int):Prop:=0<=k/\(k<=n\/k=0)
def tg(l:Li)(m i j:Int):Int:=l.getD (i*m+j).toNat 0-1
def nB(m:Int)(l:Li):Lj:=iT (tg l m) m
def bN(l:Li)(k:Int):Li:=l.drop k.toNat
def oM(m:Int)(l:Li):Bool:=decide (m*m<=l.length)
def dz(l:Li):Prop:=jm l=true/\Ai l
def Qd(m:Int)(l:Li):Prop:=0<=m/\m<=12/\dz l
def Vh(m:Int)(l:Li)(k:Int):Prop:=upto k m/\k*m<=l.length
def Kx(m:Int)(l:Li)(i k:Int):Prop:=upto k m/\i*m+k<=l.length
def t8(q m:Int)(l:Li):List (Lj):=(List.range q.toNat).map λk:Nat=>nB m (bN l ((k:Int)*(m*m)))
def oK(q m:Int)(l:Li)(k:Int):List (Lj):=(t8 q m l).take k.toNat++List.replicate (q.toNat-k.toNat) []
def aD3(q m:Int)(l:Li)(k:Int):Prop:=upto k q/\(k+1)*(m*m)<=l.length-4
def uG(l:Li):Bool:=decide (l.getD 2 0<=12/\l.getD 3 0<=4/\l.getD 0 0<l.getD 1 0/\l.getD 1 0<=l.getD 0 0+60/\l.getD 1 0<=600)
def ni(l:Li):Bool:=decide (4<=l.length)&&uG l&&decide (4+l.getD 2 0*l.getD 2 0+l.getD 3 0*(l.getD 2 0*l.getD 2 0)<=l.length)
def ai(l:Li):Plan:=(l.getD 0 0,l.getD 1 0,nB (l.getD 2 0) (bN l 4),t8 (l.getD 3 0) (l.getD 2 0) (bN l (4+l.getD 2 0*l.getD 2 0)))
def bU(l:Li):Li:=bN l (4+l.getD 2 0*l.getD 2 0+l.getD 3 0*(l.getD 2 0*l.getD 2 0))
def at0(l:Li)(k:Nat):Int:=l.getD k 0
def NY(q m:Int)(l:Li)(k:Int):Li:=bN l (4+m*m+k*(m*m))
def aG0(l:Li):Ann:=Z8 3 Int (aAJ l) (λs k=>put (fY s) [(10,.dat I k),(3,.dat I (sP l k)),(4,.dat I (sS l k))]) λk=>Dc (Dk (Dh l) k)
def aBR(l:Li):Ann:=Z8 3 Int (Xr l) (λs k=>put (fY s) [(9,.dat I k),(3,.dat I (sP (rl l) k)),(4,.dat I (sS (rl l) k))]) λk=>Dc (Dk (Dh l) k)
abbrev pN:=az [.row Ce] (λ(c,_)=>Ai c.1) λ(c,_)=>.dat .bool (dq c.1 c.2)
def aGK:Kt:=kOr 79 pN <|
 kOr 7 (az [.val R] (λ(l,_)=>aBE l) λ(l,_)=>.dat I (jI l)) aEt
def aGl:Kt:=
 kOr 154 (YV 1 R [.mp 1] (λ_ f=>True/\bh f=true) (λ_ f=>.dat I (hd f)) λ_ f=>tl f) aGK
def KP6:KPt:=pOr 154 (aAo 1 R [.mp 1] λ_ f=>⟨True,bh f,dO 38 190⟩) KPr
def c6:Cfg:=Og aGl (λ_=>false) KP6 (λf=>f==29||f==154)
def aBX(m:Int)(l:Li):Ann:=⟨λf s=>match f with
 |3=>some {α:=Int,inv:=λk=>Vh m l k,st:=λk=>nU (nU (put (fY s) [(12,.dat I k),(5,.buf 2 (Dc m))]) 2 (.buf 30 R (o9 (tg l m) m k) [])) 1 (.var [.dat R (bN l (Em k m))]),μ:=λk=>Dc (Dk m k)}|7=>match s.sig.T 6,s.sig.T 23 with
  |.dat (.int .i64) i,.buf nm _=>some {α:=Int,inv:=λk=>Kx m l i k,st:=λk=>nU (nU (put (fY s) [(25,.dat I k)]) nm (.buf 3 I (I5 (tg l m) m i k) [])) 1 (.var [.dat R (bN l (Dt (Em i m) k))]),μ:=λk=>Dc (Dk m k)}|_,_=>none
 |_=>none,λ_ _=>none,λ_ _=>none⟩
def aGk:Kt:=kOr 155 (YV 1 R [.mp 1,.val I] (λ(_,m,_) f=>Qd m f/\oM m f=true) (λ(_,m,_) f=>.dat M (nB m f)) λ(_,m,_) f=>bN f (Em m m)) aGl
def KP7:KPt:=pOr 155 (aAo 1 R [.mp 1,.val I] λ(_,m,_) f=>⟨Qd m f,oM m f,dO 38 190⟩) KP6
def c7:Cfg:=Og aGk (λ_=>false) KP7 (λf=>f==29||f==154||f==155)
def aFx(l:Li):Ann:=Z8 9 Int (aD3 (at0 l 3) (at0 l 2) l) (λs k=>nU (nU (put (fY s) [(53,.dat I k)]) 4 (.buf 40 M (oK (at0 l 3) (at0 l 2) (bN l (Dt 4 (Em (at0 l 2) (at0 l 2)))) k) [])) 1 (.var [.dat R (NY (at0 l 3) (at0 l 2) l k)])) λk=>Dc (Dk (at0 l 3) k)
def aGJ:Kt:=kOr 80 (YV 1 R [.mp 1] (λ_ f=>dz f/\ni f=true) (λ_ f=>.agg [.dat I (ai f).1,.dat I (ai f).2.1,.dat M (ai f).2.2.1,.dat (.sl M) (ai f).2.2.2]) λ_ f=>bU f) aGk
def KP8:KPt:=pOr 80 (aAo 1 R [.mp 1] λ_ f=>⟨dz f,ni f,dO 38 190⟩) KP7
theorem QW(l:Li):sP l 0=1:=rfl
theorem QU(l:Li):sS l 0=0:=rfl
theorem DX{l:Li}{x:Int}(h:0<=x)(f:x<l.length):l.take (x+1).toNat=l.take x.toNat++[l.getD x.toNat 0]:=by
 rw[show(x+1).toNat=x.toNat+1 by omega,wW,qA,qB (by omega:x.toNat<l.length)];rfl
theorem KO{l:Li}{x:Int}(h:0<=x)(f:x<l.length):sP l (x+1)=sP l x*3%65521/\sS l (x+1)=(sS l x+l.getD x.toNat 0*(sP l x*3%65521))%65521:=by
 unfold sP sS;rw[DX h f,VQ];exact⟨rfl,rfl⟩
theorem aDY(l:Li)(x:Int):(0<=sP l x/\sP l x<65521)/\0<=sS l x/\sS l x<65521:=QV (l.take x.toNat) (st:=(1,0)) ⟨⟨by decide,by decide⟩,⟨by decide,by decide⟩⟩
theorem aCs{l:Li}{x:Int}(h:(l.length:Int)<=x):sS l x=zk l:=by
 unfold sS zk;rw[qO Z]
theorem YL(l:Li):(rl l).length=l.length:=by unfold rl;rw[vT]
theorem aFs{l:Li}{i:Nat}(h:i<l.length):(rl l).getD i 0=l.getD i 0%65521:=by
 unfold rl;rw[qA,qQ,qA,qB h];rfl
theorem dI{l:Li}:jm l=true↔∀x∈l,0<=x/\x<=65519:=by
 unfold jm;rw[qU];exact⟨λh x f=>ou.1 (h x f),λh x f=>ou.2 (h x f)⟩
theorem SX{l:Li}{x:Int}(h:aAJ l x)(j:x<l.length)(f:btw (l.getD x.toNat 0) 0 65519=true):aAJ l (x+1):=by
 obtain⟨a,b,c⟩:=h;refine⟨Z,Z,?_⟩;rw[DX a j];unfold jm at c ⊢;rw[gU,c];simpa using f
theorem Xq{l:Li}{x:Int}(h:aAJ l x)(f:¬x<l.length):jm l=true:=by
 obtain⟨a,b,c⟩:=h;rwa [qO Z]at c
theorem SY{l:Li}{x:Int}(j:0<=x)(h:x<l.length)(f:btw (l.getD x.toNat 0) 0 65519=false):jm l=false:=by
 cases e:jm l with
 |false=>rfl|true=>
  have:=ou.2 (dI.1 e _ (aN (l:=l) (i:=x.toNat) (d:=0) Z));rw[this]at f;cases f
theorem YU{a b:Int}(j:0<=a)(h:a<=65521)(b0:0<=b)(f:b<=65521):0<=a*b/\a*b<=65521*65521:=
 ⟨qAa j b0,qAb h f b0 Z⟩
theorem tme{a:Int}(h:0<=a):a.tmod 65521=a%65521:=qCg h
theorem NL:eO 79 pN:=ae λ(((l:Li),(s:Int)),_)=>by
 refine zE (A:=(aG0 l)) (p:=let G:=(l,s);(Ai l->(∃x,aAJ l x/\Q3 l s G (1=sP l x/\0=sS l x/\Q3 G l (Dh l) (0=x/\True)))/\∀(x:Int),let c2:=Dn x (Dh l);let h:=Dw l (Dc x) 0;let z:=Di (btw h 0 65519);let u:=sP l x*3;let f:=Gg u 65521;let A:=h*f;let j:=sS l x+A;let L:=x+1;aAJ l x->(c2->0<=x/\x<Dh l/\True/\(z->false=dq l s/\True)/\(z=false->inR .i64 u/\Es 65521 0/\inR .i64 A/\inR .i64 j/\Es 65521 0/\inR .i64 L/\∃y,aAJ l y/\(Q3 l s G (f=sP l y/\Gg j 65521=sS l y/\Q3 G l (Dh l) (L=y/\True)))/\Dc (Dh l-y)<Dc (Dh l-x)))/\(c2=false->Ee s (sS l x)=dq l s/\True))) UF λhl=>?_;have hl:l.length<=2000000000000000:=hl;refine⟨⟨0,⟨qL _,qR _,rfl⟩,by simp[QW,QU]⟩,λx=>?_⟩;intro c2 h z u c6 c7 j c9 L;refine⟨λf=>?_,λf=>?_⟩;have f:x<(l.length:Int):=vJ f;have h0:=L.1;obtain⟨⟨p0,p1⟩,s0,s1⟩:=aDY l x;obtain⟨n1,n2⟩:=KO h0 f;refine⟨h0,f,trivial,λX=>⟨?_,trivial⟩,λX=>?_⟩;have:btw (l.getD x.toNat 0) 0 65519=false:=by simpa[z,h,Di,Dw,Dc]using X
 unfold dq;rw[SY h0 f this];rfl;have hb:btw (l.getD x.toNat 0) 0 65519=true:=by simpa[z,h,Di,Dw,Dc]using X
 obtain⟨b0,b1⟩:=ou.1 hb;have e6:c6=sP l (x+1):=by rw[n1];exact tme (by show 0<=sP l x*3;omega)
 obtain⟨⟨q0,q1⟩,_,_⟩:=aDY l (x+1);have e3:h=l.getD x.toNat 0:=rfl;have e7:c7=h*c6:=rfl;have e8:j=sS l x+c7:=rfl;have e5:u=sP l x*3:=rfl;have e9:c9=x+1:=rfl;clear_value h u c6 c7 j c9;have hm:=YU (a:=h) (b:=c6) Z Z Z Z;refine⟨aA Z,by decide,aA Z,aA Z,by decide,aA Z,x+1,SX L f hb,⟨rfl,rfl,rfl,e6,?_,rfl,rfl,rfl,e9,trivial⟩,?_⟩;rw[n2,<- n1];show j.tmod 65521=_;rw[tme Z,e8,e7,e3,e6];simp only[Dx,Dc,Dk,Dh];omega;have f:¬x<(l.length:Int):=qCd f;refine⟨?_,trivial⟩;unfold dq;rw[Xq L f,aCs Z,yM];show(s==_)=_;rw[qCx];simp
theorem Qf(l:Li):aj Tryz.prog fP 7 [.dat R l] [] ⟨aBE l,.dat I (jI l),[]⟩:=by
 refine zE (A:=(aBR l)) (p:=(aBE l->(∃x,Xr l x/\L7 l V6 (1=sP (rl l) x/\0=sS (rl l) x/\L7 l (Dh l) (0=x/\True)))/\∀(x:Int),let G:=Dn x (Dh l);let z:=sP (rl l) x*3;let j:=Gg (Dw l (Dc x) 0) 65521+65521;let h:=Gg z 65521;let u:=Gg j 65521*h;let f:=sS (rl l) x+u;let A:=x+1;Xr l x->(G->0<=x/\x<Dh l/\inR .i64 z/\Es 65521 0/\Es 65521 0/\inR .i64 j/\Es 65521 0/\inR .i64 u/\inR .i64 f/\Es 65521 0/\inR IntKind.i64 A/\∃y,Xr l y/\(L7 l V6 (h=sP (rl l) y/\Gg f 65521=sS (rl l) y/\L7 l (Dh l) (A=y/\True)))/\Dc (Dh l-y)<Dc (Dh l-x))/\(G=false->sS (rl l) x=jI l/\True))) UF λhl=>?_;have hl:l.length<=9223372036854775807:=hl;refine⟨⟨0,⟨qL _,qR _⟩,by simp[QW,QU]⟩,λx=>?_⟩;intro G z j h u c6 c7 hx;refine⟨λf=>?_,λf=>?_⟩;have f:x<(l.length:Int):=vJ f;have h0:=hx.1;obtain⟨⟨p0,p1⟩,s0,s1⟩:=aDY (rl l) x;obtain⟨X,L⟩:=KO (l:=rl l) h0 (by rw[YL];exact f);rw[aFs Z]at L;have e4:h=sP (rl l) (x+1):=by rw[X];exact tme (by show 0<=sP (rl l) x*3;omega)
 obtain⟨⟨q0,q1⟩,_,_⟩:=aDY (rl l) (x+1);have em:Gg j 65521=l.getD x.toNat 0%65521:=BJ (by decide);have m0:=gV (l.getD x.toNat 0) (show(65521:Int)≠0 by decide);have m1:=kQ (l.getD x.toNat 0) (show(0:Int)<65521 by decide);have e5:u=Gg j 65521*h:=rfl;have e6:c6=sS (rl l) x+u:=rfl;have e2:z=sP (rl l) x*3:=rfl;have e7:c7=x+1:=rfl;have e3:j=(l.getD x.toNat 0).tmod 65521+65521:=rfl;have tb:-65521<(l.getD x.toNat 0).tmod 65521/\(l.getD x.toNat 0).tmod 65521<65521:=by
  have:=qAt (a:=l.getD x.toNat 0) (b:=65521);split at this<;>omega
 rw[em]at e5;clear_value z j h u c6 c7;have hm:=YU (a:=l.getD x.toNat 0%65521) (b:=h) Z Z Z Z;refine⟨h0,f,aA Z,by decide,by decide,aA Z,by decide,aA Z,aA Z,by decide,⟨show(-9223372036854775808:Int)<=_ by omega,show _<=(9223372036854775807:Int) by omega⟩,x+1,⟨Z,Z⟩,⟨rfl,rfl,e4,?_,rfl,rfl,e7,trivial⟩,?_⟩;rw[L,<- X];show c6.tmod 65521=_;rw[tme Z,e6,e5,e4];simp only[Dx,Dc,Dk,Dh];omega;have f:¬x<(l.length:Int):=qCd f;exact⟨aCs (by rw[YL];omega),trivial⟩
theorem aGd:ay Tryz.prog fP aGK:=ah NL<|ah (ae λ(l,_)=>Qf l) UF
theorem ZZ:∀x f,aj Tryz.prog fP 154 (avK [.mp 1] x) [(1,.var [.dat R f])] ⟨True/\bh f=true,.dat I (hd f),[(1,.var [.dat R (tl f)])]⟩:=λ_ f=>(IV f).1
theorem aDE:ay Tryz.prog fP aGl:=
 ah (qy ZZ) aGd
theorem UI:bI Tryz.prog fP KP6:=lT (uY λ_ f=>(IV f).2) NC
theorem CH{α:Type}(xs:List α)(d v:α)(k:Nat)(f:xs[k]?=some v):(xs.take k++List.replicate (xs.length-k) d).set k v=xs.take (k+1)++List.replicate (xs.length-(k+1)) d:=by
 obtain⟨h,e⟩:=qE.1 f;have j:xs.length-k=(xs.length-(k+1))+1:=Z;rw[j,List.replicate_succ,qBr _ _ (by simp;omega)];simp[wW,f,kG (Nat.le_of_lt h)]
theorem lq(g:Int->Int->Int)(n:Int):(iT g n).length=n.toNat:=by simp[iT]
theorem EW(g:Int->Int->Int)(n x:Int)(h:upto x n):(o9 g n x).length=n.toNat:=by
 have:=h.1;have:=h.2;simp only[o9,qG,qM,yL,lq];omega
theorem KV(g:Int->Int->Int)(n i x:Int)(h:upto x n):(I5 g n i x).length=n.toNat:=by
 have:=h.1;have:=h.2;simp only[I5,qG,qM,yL,vT,yE];omega
theorem NU(g:Int->Int->Int)(n:Int):o9 g n 0=List.replicate n.toNat []:=by simp[o9]
theorem Rf(g:Int->Int->Int)(n i:Int):I5 g n i 0=List.replicate n.toNat 0:=by simp[I5]
theorem Rh(g:Int->Int->Int)(n i j:Int)(f:0<=j)(h:j<n):(I5 g n i j).set j.toNat (g i j)=I5 g n i (j+1):=by
 have e:(j+1).toNat=j.toNat+1:=Z;have:=CH ((List.range n.toNat).map λj:Nat=>g i j) 0 (g i j) j.toNat (by
  rw[qQ,zH Z];simp[vX f])
 simp only[vT,yE]at this;unfold I5;rw[e];exact this
theorem VZ(g:Int->Int->Int)(n i j:Int)(h:upto j n)(f:¬j<n):I5 g n i j=(List.range n.toNat).map λj:Nat=>g i j:=by
 have:=h.1;have:=h.2;have e:j.toNat=n.toNat:=Z;unfold I5;rw[e,qO (by simp)];simp
theorem NV(g:Int->Int->Int)(n i j:Int)(u:0<=i)(y:i<n)(h:upto j n)(f:¬j<n):(o9 g n i).set i.toNat (I5 g n i j)=o9 g n (i+1):=by
 have e:(i+1).toNat=i.toNat+1:=Z;rw[VZ g n i j h f];have:=CH (iT g n) [] ((List.range n.toNat).map λj:Nat=>g i j) i.toNat (by
  unfold iT;rw[qQ,zH Z];simp[vX u])
 rw[lq]at this;unfold o9;rw[e];exact this
theorem Q9(g:Int->Int->Int)(n i:Int)(h:upto i n)(f:¬i<n):o9 g n i=iT g n:=by
 have:=h.1;have:=h.2;have e:i.toNat=n.toNat:=Z;unfold o9;rw[e,qO (by rw[lq];exact qN _)];simp
theorem Bh{l:Li}{k:Int}(h:0<=k):tl (bN l k)=bN l (k+1):=by
 unfold tl bN;rw[xE];congr 1;omega
theorem wi(l:Li)(k:Int):hd (bN l k)=l.getD k.toNat 0:=by
 unfold hd bN;simp[qA,vO]
theorem tt{l:Li}{k:Int}(h:0<=k):bh (bN l k)=decide (k<l.length):=by
 unfold bh bN;rw[wC,qAp];omega
theorem drop_drop{l:Li}{a b:Int}(h:0<=a)(f:0<=b):bN (bN l a) b=bN l (a+b):=by
 unfold bN;rw[xE];congr 1;omega
theorem M7(l:Li)(k:Int):(bN l k).length=l.length-k.toNat:=by unfold bN;rw[wC]
theorem iE(i m:Int):(i+1)*m=i*m+m:=by rw[Int.add_mul,Int.one_mul]
theorem Qi(m:Int)(l:Li):aj Tryz.prog fP 155 [.ptr 1 1 0 0,.dat I m] [(1,.var [.dat R l])] ⟨Qd m l/\oM m l=true,.dat M (nB m l),[(1,.var [.dat R (bN l (Em m m))])]⟩/\
  fm Tryz.prog fP 155 [.ptr 1 1 0 0,.dat I m] [(1,.var [.dat R l])] ⟨Qd m l,oM m l,dO 38 190⟩:=by
 refine zM (c:=c6) (A:=(aBX m l)) (q:=⟨Qd m l,oM m l,dO 38 190⟩) aDE sJ hm UI (p:=let c1:=Ew m (Du Int);let c2:=Ew m (0:Int);let c3:=chainOf (Value.iface 38 (Value.int .i64 (190:Int)));true/\(Qd m l->1=1/\0<=m/\(Ec 24*m)<=281474976710656/\m<=9223372036854775807/\Dl c1=Dc m/\(∃x,Vh m l x/\L4 1 0 0 m Z0 (Dc m) m (Dc m) (Dc m) (Int.ofNat (Dc m)=Int.ofNat (Dc m)/\0=x/\l=bN l (x*m)/\c1=o9 (tg l m) m x/\T5 1))/\∀(x:Int),let c4:=Dn x (Int.ofNat (Dc m));let c5:=o9 (tg l m) m x;let h:=Dl c5;let A:=bN l (x*m);let c8:=x+1;Vh m l x->(c4->0<=m/\(Ec 8*m)<=281474976710656/\m<=9223372036854775807/\h=Dc m/\0<=x/\x<Ec h/\h=Dc m/\Dl c2=Dc m/\h=Dc m/\0<=x/\x<Ec h/\h=Dc m/\Dc x=Dc x/\Dl c2=Dc m/\(∃f,Kx m l x f/\L4 1 0 0 m Z0 (Dc m) x m (Dc m) (L4 (Dc m) (Int.ofNat (Dc m)) x c4 x (Dc m) x m (Dc m) (L4 (Dc m) (Dc x) 0 (Dc m) x (Dc m) (Dc x) 0 (Dc m) (Int.ofNat (Dc m)=Int.ofNat (Dc m)/\0=f/\A=bN l ((x*m)+f)/\Q3 c5 (Dc x) (Dc m) (c2=I5 (tg l m) m x f/\T5 1)))))/\∀(f:Int),let G:=Dn f (Int.ofNat (Dc m));let u:=bN l ((x*m)+f);let c11:=bh u;let L:=hd u-1;let z:=I5 (tg l m) m x f;let j:=Dl z;let X:=f+1;
  Kx m l x f->(G->h=Dc m/\0<=x/\x<Ec h/\h=Dc m/\Dc x=Dc x/\True/\(c11->h=Dc m/\0<=x/\x<Ec h/\h=Dc m/\Dc x=Dc x/\(True/\c11)/\1=1/\inR .i64 L/\j=Dc m/\0<=f/\f<Ec j/\j=Dc m/\inR .i64 X/\∃y,Kx m l x y/\(L4 1 0 0 m Z0 (Dc m) x m (Dc m) (L4 (Dc m) (Int.ofNat (Dc m)) x c4 x (Dc m) x m (Dc m) (L4 (Dc m) (Dc x) 0 (Dc m) x (Dc m) (Dc x) 0 (Dc m) (Int.ofNat (Dc m)=Int.ofNat (Dc m)/\X=y/\tl u=bN l ((x*m)+y)/\Q3 c5 (Dc x) (Dc m) (Ep z (Dc f) L=I5 (tg l m) m x y/\T5 1)))))/\Dc (m-y)<Dc (m-f))/\(c11=false->oM m l=false/\true/\c3=c3))/\(G=false->inR .i64 c8/\∃y,Vh m l y/\(L4 1 0 0 m Z0 (Dc m) m (Dc m) (Dc m) (Int.ofNat (Dc m)=Int.ofNat (Dc m)/\c8=y/\u=bN l (y*m)/\j=Dc m/\Ep c5 (Dc x) z=o9 (tg l m) m y/\T5 1))/\Dc (m-y)<Dc (m-x)))/\(c4=false->oM m l/\h=Dc m/\c5=nB m l/\A=bN l (m*m)/\T5 1))) ⟨rfl,λhp=>?_⟩
 obtain⟨m0,m1,⟨hin,hl⟩⟩:=hp;have hl:l.length<=2000000000000000:=hl;have em:(Int.ofNat (Dc m))=m:=vX m0;have bd:∀{k:Int},0<=k->k<l.length->0<=l.getD k.toNat 0/\l.getD k.toNat 0<=65519:=λ{k} X h1=>dI.1 hin _ (aN Z);simp only[em];refine Z9 ?_;refine⟨m0,Z,Z,by simp,⟨0,⟨⟨qL _,.inr rfl⟩,by rw[Int.zero_mul];exact qR _⟩,rfl,by rw[Int.zero_mul];rfl,(NU _ _).symm⟩,λx G=>⟨λhlt=>?_,λhge=>?_⟩⟩;have X:=G.1.1;have h:=EW (tg l m) m x G.1;have xm0:0<=x*m:=qAa X m0;have top:(x+1)*m<=m*m:=qBw Z m0;rw[iE]at top;have em2:(m.toNat:Int)=m:=vX m0;have j:x<((o9 (tg l m) m x).length:Int):=by rw[h];omega
 refine⟨m0,Z,Z,h,X,j,h,by simp,h,X,j,h,by simp,⟨0,⟨⟨qL _,.inr rfl⟩,by have:=G.2;omega⟩,rfl,by rw[Int.add_zero],(Rf _ _ _).symm⟩,λy hy=>⟨λz=>?_,λz=>?_⟩⟩;have y0:=hy.1.1;have L:=KV (tg l m) m x y hy.1;have hly:y<((I5 (tg l m) m x y).length:Int):=by rw[L];omega
 have eo:=tt (l:=l) (k:=x*m+y) Z;refine⟨h,X,j,h,λho=>?_,λho=>?_⟩;have hlt2:x*m+y<l.length:=by rw[eo]at ho;exact vJ ho
 obtain⟨b0,b1⟩:=bd (k:=x*m+y) Z hlt2;have eh:hd (bN l (x*m+y))-1=tg l m x y:=by rw[wi];rfl
 refine⟨h,X,j,h,ho,aA (by rw[wi];omega),L,y0,hly,L,aA Z,y+1,⟨⟨Z,.inl Z⟩,Z⟩,⟨rfl,?_,?_⟩,Z⟩;rw[Bh Z,Int.add_assoc];rw[eh];exact Rh (tg l m) m x y y0 z;rw[eo,wJ]at ho;unfold oM;rw[wJ];omega;have hy2:y=m:=by rcases hy.1 with⟨y0,y1⟩;omega
 refine⟨aA Z,x+1,⟨⟨Z,.inl Z⟩,by rw[iE];have:=hy.2;omega⟩,⟨rfl,by rw[iE,hy2],KV _ _ _ _ hy.1,NV (tg l m) m x y X hlt hy.1 z⟩,Z⟩;have hx2:x=m:=by rcases G.1 with⟨x0,x1⟩;omega
 have htab:oM m l=true:=by
  unfold oM;rw[qF];have:=G.2;rw[hx2]at this;exact this
 refine⟨htab,EW _ _ _ G.1,Q9 _ _ _ G.1 hge,?_⟩;rw[hx2]
theorem aDD:ay Tryz.prog fP aGk:=ah (qy λ(_,m,_) f=>(Qi m f).1) aDE
theorem Zx:bI Tryz.prog fP KP7:=lT (uY λ(_,m,_) f=>(Qi m f).2) UI
theorem fA{l:Li}(h:dz l)(k:Int):dz (bN l k):=
 ⟨dI.2 λx f=>dI.1 h.1 x (List.mem_of_mem_drop f),by show(bN l k).length<=_;rw[M7];have:l.length<=2000000000000000:=h.2;omega⟩
theorem Yz(l:Li):aj Tryz.prog fP 80 [.ptr 1 1 0 0] [(1,.var [.dat R l])] ⟨dz l/\ni l=true,.agg [.dat I (ai l).1,.dat I (ai l).2.1,.dat M (ai l).2.2.1,.dat (.sl M) (ai l).2.2.2],[(1,.var [.dat R (bU l)])]⟩/\
  fm Tryz.prog fP 80 [.ptr 1 1 0 0] [(1,.var [.dat R l])] ⟨dz l,ni l,dO 38 190⟩:=by
 refine zM (c:=c7) (A:=(aFx l)) (q:=⟨dz l,ni l,dO 38 190⟩) aDD sJ hm Zx (p:=let L:=chainOf (Value.iface 38 (Value.int .i64 (190:Int)));let c2:=bh (tl (tl (tl l)));let c3:=Eh (hd (tl (tl l))) 12;let c4:=hd (tl (tl (tl l)));let c5:=Dz c3 (Eh c4 4) false;let f:=Dn (hd l) (hd (tl l));let X:=hd l+60;let G:=Dz f (Eh (hd (tl l)) X) false;let j:=Dz G (Eh (hd (tl l)) 600) false;let c10:=tl (tl (tl (tl l)));let c11:=oM (hd (tl (tl l))) c10;let A:=Ew c4 (Du (Li));let h:=Dc c4;let u:=nB (hd (tl (tl l))) c10;let z:=Int.ofNat h;let c16:=hd (tl (tl l))*hd (tl (tl l));let c17:=bN l (4+(at0 l 2*at0 l 2));let c18:=(ai l).2;let c19:=c18.2;
  true/\(dz l->1=1/\(true->True/\(bh l=false->ni l=false/\true/\L=L))/\((true->bh l)->(True/\bh l)/\1=1/\(true->True/\(bh (tl l)=false->ni l=false/\true/\L=L))/\((true->bh (tl l))->(True/\bh (tl l))/\T7 1 1 1 0 1 1 0 ((true->True/\(bh (tl (tl l))=false->ni l=false/\true/\L=L))/\((true->bh (tl (tl l)))->(True/\bh (tl (tl l)))/\1=1/\(true->True/\(c2=false->ni l=false/\true/\L=L))/\((true->c2)->(True/\c2)/\1=1/\(c3->c3->c3)/\(Dj true c3->c3)/\(true->True/\(c5=false->ni l=false/\true/\L=L))/\((true->c5)->(True/\c5)/\w6 1 1 0 1 1 0 ((f->1=1)/\(f->f->f)/\(f->1=1)/\(f->0=0)/\(f->1=1)/\(f->f->f)/\(f->1=1)/\(f->0=0)/\(f->f->f)/\(f->inR IntKind.i64 X)/\(f->f->f)/\(f->f->f)/\(Dj true f->f)/\(G->1=1)/\(G->G->G)/\(G->1=1)/\(G->0=0)/\(G->G->G)/\(Dj true G->G)/\(true->True/\(j=false->ni l=false/\true/\L=L))/\((true->j)->(True/\j)/\(true->Qd (hd (tl (tl l))) c10/\(c11=false->ni l=false/\true/\L=L))/\((true->c11)->(Qd (hd (tl (tl l))) c10/\c11)/\T4 1 1 1 0 (0<=c4/\(Ec 24*c4)<=281474976710656/\c4<=9223372036854775807/\Q3 1 1 0 (Dl A=h/\Q3 1 1 0 (Dl A=h/\(∃x,aD3 (at0 l 3) (at0 l 2) l x/\L4 1 0 0 1 0 0 1 0 0 (L4 (hd (tl (tl l))) c4 1 0 0 (hd l) 1 0 0 (L4 (hd (tl l)) 1 0 0 1 0 1 1 0 (L4 0 (hd (tl (tl l))) 1 0 0 c4 (hd (tl (tl l))) c3 c3 (L4 c5 1 0 0 (hd l) 1 0 1 (hd (tl l)) (L4 f f G G j 1 0 0 (hd (tl (tl l))) (L4 u 1 0 2 c4 h 1 0 3 (T6 1 0 3 h z (0=x/\bN c10 c16=NY (at0 l 3) (at0 l 2) l x/\z8 V6 V6 Z0 Z0 (hd l) (hd (tl l)) u h (A=oK (at0 l 3) (at0 l 2) c17 x/\T5 1))))))))))/\
  ∀(x:Int),let c20:=NY (at0 l 3) (at0 l 2) l x;let c21:=oM (hd (tl (tl l))) c20;let c22:=oK (at0 l 3) (at0 l 2) c17 x;let c23:=Dl c22;let c24:=x+1;aD3 (at0 l 3) (at0 l 2) l x->(Dn x z->Q3 1 1 0 (Qd (hd (tl (tl l))) c20/\(c21->Q3 1 1 0 ((Qd (hd (tl (tl l))) c20/\c21)/\1=1/\c23=h/\0<=x/\x<Ec c23/\c23=h/\inR .i64 c24/\∃y,aD3 (at0 l 3) (at0 l 2) l y/\(L4 1 0 0 1 0 0 1 0 0 (L4 (hd (tl (tl l))) c4 1 0 0 (hd l) 1 0 0 (L4 (hd (tl l)) 1 0 0 1 0 1 1 0 (L4 0 (hd (tl (tl l))) 1 0 0 c4 (hd (tl (tl l))) c3 c3 (L4 c5 1 0 0 (hd l) 1 0 1 (hd (tl l)) (L4 f f G G j 1 0 0 (hd (tl (tl l))) (L4 u 1 0 2 c4 h 1 0 3 (T6 1 0 3 h z (c24=y/\bN c20 c16=NY (at0 l 3) (at0 l 2) l y/\z8 V6 V6 Z0 Z0 (hd l) (hd (tl l)) u h (Ep c22 (Dc x) (nB (hd (tl (tl l))) c20)=oK (at0 l 3) (at0 l 2) c17 y/\T5 1))))))))))/\Dc (at0 l 3-y)<Dc (at0 l 3-x)))/\(c21=false->ni l=false/\true/\L=L)))/\(Dn x z=false->T4 1 0 1 0 (c23=h/\ni l/\L7 1 0 (hd l=(ai l).1/\hd (tl l)=c18.1/\u=c19.1/\c23=h/\c22=c19.2/\c20=bU l/\T5 1))))))))))))))))) ⟨rfl,λhp=>?_⟩
 have hl:l.length<=2000000000000000:=hp.2;have t1:tl l=bN l 1:=rfl;have t2:tl (tl l)=bN l 2:=by rw[t1,Bh (by decide)];rfl
 have t3:tl (tl (tl l))=bN l 3:=by rw[t2,Bh (by decide)];rfl
 have t4:tl (tl (tl (tl l)))=bN l 4:=by rw[t3,Bh (by decide)];rfl
 have h0:hd l=at0 l 0:=rfl;have h1:hd (tl l)=at0 l 1:=by rw[t1,wi];rfl
 have h2:hd (tl (tl l))=at0 l 2:=by rw[t2,wi];rfl
 have h3:hd (tl (tl (tl l)))=at0 l 3:=by rw[t3,wi];rfl
 have o0:bh l=decide (0<l.length):=rfl;have o1:bh (tl l)=decide (1<l.length):=by rw[t1,tt (by decide),qAp];omega
 have o2:bh (tl (tl l))=decide (2<l.length):=by rw[t2,tt (by decide),qAp];omega
 have o3:bh (tl (tl (tl l)))=decide (3<l.length):=by rw[t3,tt (by decide),qAp];omega
 have bd:∀k:Nat,0<=at0 l k/\at0 l k<=65519:=λk=>by
  unfold at0;by_cases hk:k<l.length;exact dI.1 hp.1 _ (aN hk);rw[qA,zG Z];exact⟨by decide,by decide⟩
 obtain⟨a0,a1⟩:=bd 0;obtain⟨b0,b1⟩:=bd 1;obtain⟨m0,m1⟩:=bd 2;obtain⟨q0,q1⟩:=bd 3;have epl:ni l=(decide (4<=l.length)&&uG l&&decide (4+at0 l 2*at0 l 2+at0 l 3*(at0 l 2*at0 l 2)<=l.length)):=rfl;have ehd:uG l=decide (at0 l 2<=12/\at0 l 3<=4/\at0 l 0<at0 l 1/\at0 l 1<=at0 l 0+60/\at0 l 1<=600):=rfl;have shrt:l.length<4->ni l=false:=λh=>by rw[epl,qV Z];rfl
 have noHd:uG l=false->ni l=false:=λh=>by rw[epl,h];simp
 have noLen:¬4+at0 l 2*at0 l 2+at0 l 3*(at0 l 2*at0 l 2)<=l.length->ni l=false:=λh=>by rw[epl,qV h];simp
 simp only[h0,h1,h2,h3,o0,o1,o2,o3,t4];have eq3:Int.ofNat (Dc (at0 l 3))=at0 l 3:=vX q0;simp only[eq3];refine Z9 ?_;obtain⟨j,f⟩:∃j,j=at0 l 2*at0 l 2:=⟨_,rfl⟩;have mm0:0<=j:=by rw[f];exact qAa m0 m0
 have eK:∀k,NY (at0 l 3) (at0 l 2) l k=bN l (4+j+k*j):=λk=>by unfold NY;rw[f]
 have X:∀k:Int,0<=k->(oM (at0 l 2) (bN l k)=true↔j<=((l.length-k.toNat:Nat):Int)):=λk hk=>by
  unfold oM;rw[qF,M7,f]
 have ePL:ni l=true↔4<=l.length/\uG l=true/\4+j+at0 l 3*j<=l.length:=by
  rw[epl,qC,qC,qF,qF,f,qAn]
 have u:(t8 (at0 l 3) (at0 l 2) (bN l (4+j))).length=(at0 l 3).toNat:=by unfold t8;simp
 have z:∀{x:Int},upto x (at0 l 3)->(oK (at0 l 3) (at0 l 2) (bN l (4+j)) x).length=(at0 l 3).toNat:=λ{x} ⟨h1,h2⟩=>by
  unfold oK;rw[qG,qM,yL,u];omega
 simp only[eK,<- f];refine⟨λh=>shrt Z,λl0=>⟨l0,λh=>shrt Z,λl1=>⟨l1,λh=>shrt Z,λl2=>⟨l2,λh=>shrt Z,λl3=>⟨l3,λh=>noHd ?_,λhA=>⟨hA,λh=>aA Z,λh=>noHd ?_,λhB=>⟨hB,?_⟩⟩⟩⟩⟩⟩⟩;rw[ehd,wJ];intro g;exact h g.1 g.2.1;rw[ehd,wJ];intro g;exact h ⟨g.2.2.1,g.2.2.2.1⟩ g.2.2.2.2;have hH:uG l=true:=by rw[ehd,qF];exact⟨hA.1,hA.2,hB.1.1,hB.1.2,hB.2⟩
 have tP:∀k,Qd (at0 l 2) (bN l k):=λk=>⟨m0,hA.1,fA hp k⟩;have mono:∀{k:Int},0<=k->k<=at0 l 3->k*j<=at0 l 3*j:=λh1 h2=>qBw h2 mm0;have kmm:∀{k:Int},0<=k->0<=k*j:=λh=>qAa h mm0;have bad:¬(4+j+at0 l 3*j<=l.length)->ni l=false:=λh=>by
  cases e:ni l with
  |false=>rfl|true=>exact absurd (ePL.1 e).2.2 h
 refine⟨⟨tP 4,λh=>bad ?_⟩,λhT=>⟨⟨tP 4,hT⟩,q0,Z,Z,by simp,by simp,⟨0,⟨⟨qL _,.inr rfl⟩,?_⟩,rfl,?_,?_⟩,λx hx=>⟨λhlt=>⟨tP _,λhT2=>?_,λhT2=>bad ?_⟩,λhge=>?_⟩⟩⟩;have:¬j<=((l.length-(4:Int).toNat:Nat):Int):=λg=>by rw[(X 4 (by decide)).2 g]at h;cases h
 have:=kmm q0;have e4:(4:Int).toNat=4:=rfl;omega;have:=(X 4 (by decide)).1 hT;have e4:(4:Int).toNat=4:=rfl;show(0+1)*(at0 l 2*at0 l 2)<=(l.length:Int)-4;rw[<- f];omega;rw[drop_drop (by decide) mm0,Int.zero_mul,Int.add_zero];unfold oK;simp;have h0:=hx.1.1;have hl2:=z hx.1;have h2':=hx.2;rw[<- f,iE]at h2';have hT3:=(X _ (by have:=kmm h0;omega)).1 hT2;have:=kmm h0;refine⟨⟨tP _,hT2⟩,hl2,h0,by rw[hl2];omega,hl2,aA Z,x+1,⟨⟨Z,.inl Z⟩,?_⟩,⟨rfl,?_,?_⟩,Z⟩;rw[<- f,iE,iE];omega;rw[drop_drop Z mm0];congr 1;rw[iE];omega;have e:(x+1).toNat=x.toNat+1:=by omega
 have:=CH (t8 (at0 l 3) (at0 l 2) (bN l (4+j))) [] (nB (at0 l 2) (bN l (4+j+x*j))) x.toNat (by
  unfold t8;rw[qQ,zH Z,yC,vX h0,drop_drop Z (by rw[<- f];exact kmm h0),<- f])
 rw[u]at this;unfold oK;rw[e];exact this;have h0:=hx.1.1;have hx0:=kmm h0;have hn:¬j<=((l.length-(4+j+x*j).toNat:Nat):Int):=λg=>by rw[(X _ Z).2 g]at hT2;cases hT2
 have:=mono (k:=x+1) Z Z;rw[iE]at this;omega;have hxe:x=at0 l 3:=by rcases hx.1 with⟨h1,h2⟩;omega
 subst hxe;have h2':=hx.2;rw[<- f,iE]at h2';refine⟨z hx.1,ePL.2 ⟨Z,hH,Z⟩,rfl,rfl,rfl,z hx.1,?_,?_⟩;unfold oK;rw[qO (by rw[u];exact qN _),qAk];show _++[]=_;rw[vZ,f];rfl;rw[f];rfl
theorem aGc:ay Tryz.prog fP aGJ:=ah (qy λ_ f=>(Yz f).1) aDD
theorem aDJ:bI Tryz.prog fP KP8:=lT (uY λ_ f=>(Yz f).2) Zx
abbrev Of:Ty:=.pair S (.pair I (.pair I (.pair I (.pair I (.pair I (.sl S))))))
abbrev Ln:Ty:=.pair S (.pair I (.pair I (.pair I (.pair I I))))
abbrev Kl:Ty:=.pair S (.pair I I)
abbrev N:Ty:=.pair (.sl C) (.pair (.sl S) (.pair (.sl S) (.pair (.sl Of) (.pair (.sl Ln) (.sl Kl)))))
abbrev Cal:=Int×List Bool×Li
abbrev Off:=ByteArray×Int×Int×Int×Int×Int×List ByteArray
abbrev Line:=ByteArray×Int×Int×Int×Int×Int
abbrev Cla:=ByteArray×Int×Int
abbrev Net:=List Cal×List ByteArray×List ByteArray×List Off×List Line×List Cla
def om(c:Cal):Bool:=fQ c.1 c.2.1 c.2.2
def lU(n:Net)(o:Off):Bool:=(btw o.2.2.1 0 ((n.1.length:Int)-1)&&btw o.2.2.2.2.1 1 1000)&&btw o.2.2.2.2.2.1 1 1000
def nW(n:Net)(x:Int):Bool:=btw x 0 ((n.2.2.2.1.length:Int)-1)
def lY(n:Net)(l:Line):Bool:=((nW n l.2.1&&nW n l.2.2.1)&&btw l.2.2.2.1 0 1439)&&btw l.2.2.2.2.1 1 100000
def mx(k:Cla):Bool:=btw k.2.1 0 1439&&btw k.2.2 0 1439
def usF(n:Net):Bool:=((n.1.all om&&n.2.2.2.1.all (lU n))&&n.2.2.2.2.1.all (lY n))&&n.2.2.2.2.2.all mx
abbrev Ab(n:Net):Prop:=((n.1.length<=2000000000000000/\n.2.2.2.1.length<=2000000000000000)/\n.2.2.2.2.1.length<=2000000000000000)/\n.2.2.2.2.2.length<=2000000000000000
def X3(n:Net)(k:Int):Prop:=0<=k/\k<=n.1.length/\(n.1.take k.toNat).all om=true
def WG(n:Net)(k:Int):Prop:=0<=k/\k<=n.2.2.2.1.length/\(n.2.2.2.1.take k.toNat).all (lU n)=true
def Xc(n:Net)(k:Int):Prop:=0<=k/\k<=n.2.2.2.2.1.length/\(n.2.2.2.2.1.take k.toNat).all (lY n)=true
def XX(n:Net)(k:Int):Prop:=0<=k/\k<=n.2.2.2.2.2.length/\(n.2.2.2.2.2.take k.toNat).all mx=true
def bm(n:Net)(l:Int):Line:=n.2.2.2.2.1.getD l.toNat (⟨#[]⟩,0,0,0,0,0)
def js(n:Net)(o l:Int):Bool:=decide (l=-1)||(decide (l<n.2.2.2.2.1.length)&&decide ((bm n l).2.1=o))
def nS(n:Net)(o:Int)(r:Li):Bool:=r.all (js n o)
def JJ(n:Net)(p:Plan):Bool:=(decide (p.2.2.1.length=n.2.2.2.1.length)&&decide (p.2.2.2.length=n.2.2.2.2.2.length))&&(List.range p.2.2.1.length).all λi=>nS n i (p.2.2.1.getD i [])
def WJ(p:Plan):Prop:=p.2.2.1.length<=2000000000000000/\∀r∈p.2.2.1,r.length<=2000000000000000/\∀x∈r,-1<=x
def aD4(n:Net)(p:Plan)(k:Int):Prop:=0<=k/\k<=p.2.2.1.length/\∀i:Nat,(i:Int)<k->nS n i (p.2.2.1.getD i [])=true
def WI(n:Net)(o:Int)(r:Li)(k:Int):Prop:=0<=k/\k<=r.length/\(r.take k.toNat).all (js n o)=true
def fH(c:Li×Int):Bool:=dq c.1 c.2&&ni c.1
def sQ(c:Li×Int):Int:=if dq c.1 c.2 then 190 else 180
def ye(c:Li×Int):Prop:=Ai c.1
def JW(args:List AV)(m:Mem):Option lA:=match args,m with|[.ifc t (.dat (.int .i64) e)],[]=>if t=38 then some ⟨True,.dat I e,[]⟩else none|_,_=>none
def aGj:Kt:=kOr 27 JW aGJ
def c9:Cfg:=Og aGj (λt=>t==12) KP8 (λf=>f==29||f==80)
abbrev LN:=az [.val I] (λ_=>True) λ(x,_)=>.dat .bool (btw x 0 1439)
abbrev LM:=az [.val I,.bp N] (λ(_,n,_)=>Ab n) λ(x,n,_)=>.dat .bool (nW n x)
def aDR:Kt:=kOr 81 LN <|
 kOr 83 LM aGj
def usA(n:Net):Ann:=⟨λf s=>match f with
 |4=>some {α:=Int,inv:=λk=>X3 n k,st:=λk=>put {fY s with mem:=[]} [(19,.dat I k),(6,.top)],μ:=λk=>Dc (Dk (Dh n.1) k)}
 |10=>some {α:=Int,inv:=λk=>WG n k,st:=λk=>put {fY s with mem:=[]} [(32,.dat I k),(8,.top)],μ:=λk=>Dc (Dk (Dh n.2.2.2.1) k)}
 |16=>some {α:=Int,inv:=λk=>Xc n k,st:=λk=>put {fY s with mem:=[]} [(64,.dat I k),(10,.top)],μ:=λk=>Dc (Dk (Dh n.2.2.2.2.1) k)}
 |22=>some {α:=Int,inv:=λk=>XX n k,st:=λk=>put {fY s with mem:=[]} [(99,.dat I k),(12,.top)],μ:=λk=>Dc (Dk (Dh n.2.2.2.2.2) k)}
 |_=>none,λ_ _=>none,λ_ _=>none⟩
def aG4(n:Net)(p:Plan):Ann:=⟨λf s=>match f with
 |4=>some {α:=Int,inv:=λk=>aD4 n p k,st:=λk=>put (fY s) [(38,.dat I k)],μ:=λk=>Dc (Dk (Dh p.2.2.1) k)}|7=>match s.sig.T 5,s.sig.T 6 with
  |.dat (.int .i64) o,.dat (.sl (.int .i64)) r=>some {α:=Int,inv:=λk=>WI n o r k,st:=λk=>put (fY s) [(45,.dat I k)],μ:=λk=>Dc (Dk (Dh r) k)}|_,_=>none
 |_=>none,λ_ _=>none,λ_ _=>none⟩
theorem OV:∀args m c,JW args m=some c->aj Tryz.prog fP 27 args m c:=by
 intro args m c h;unfold JW at h;split at h;split at h;rename_i e;subst e;cases h;exact aCi _;cases h;cases h
theorem Yp:ay Tryz.prog fP aGj:=ah OV aGc
theorem YA(s:Int)(l:Li):aj Tryz.prog fP 28 [.agg [.dat R l,.dat I s]] [] ⟨ye (l,s)/\fH (l,s)=true,.tup [.agg [.dat I (ai l).1,.dat I (ai l).2.1,.dat M (ai l).2.2.1,.dat (.sl M) (ai l).2.2.2],.ptr 1 1 0 0],[(1,.var [.dat R (bU l)])]⟩/\
  fm Tryz.prog fP 28 [.agg [.dat R l,.dat I s]] [] ⟨ye (l,s),fH (l,s),dO 38 (sQ (l,s))⟩:=by
 refine zM (c:=c9) (A:=aE) (q:=⟨ye (l,s),fH (l,s),dO 38 (sQ (l,s))⟩) Yp sJ hm aDJ (p:=let y:=(l,s);let u:=fH y;let G:=chainOf (Value.iface 38 (Value.int .i64 (sQ y)));let X:=(ai l).1;let z:=(ai l).2;let h:=z.1;let f:=z.2;let L:=f.1;let j:=f.2;true/\(ye y->Ai l/\(true->True/\(dq l s=false->u=false/\true/\chainOf (Value.iface 38 (Value.int .i64 (180:Int)))=G))/\((true->dq l s)->(True/\dq l s)/\(true->dz l/\(ni l=false->u=false/\true/\chainOf (Value.iface 38 (Value.int .i64 (190:Int)))=G))/\((true->ni l)->(dz l/\ni l)/\T7 1 1 0 1 0 1 0 (u/\L4 1 0 X h L j 1 0 0 (T5 (bU l))))))) ⟨rfl,λj=>?_⟩;refine Z9 ?_;refine⟨j,λh=>⟨?_,?_⟩,λh=>⟨h,⟨?_,λf=>⟨?_,?_⟩⟩,λf=>⟨⟨?_,f⟩,?_⟩⟩⟩;unfold fH;rw[h];rfl;unfold sQ;rw[h];rfl;exact⟨by unfold dq at h;rw[qC]at h;exact h.1,j⟩;unfold fH;rw[f];simp;unfold sQ;rw[h];rfl;exact⟨by unfold dq at h;rw[qC]at h;exact h.1,j⟩;unfold fH;rw[h,f];rfl
theorem aEG:eO 81 LN:=ae λ((x:Int),_)=>zE (A:=aE) (p:=let f:=btw x 0 1439;(True->True/\T5 f)) Yp λ_=>⟨trivial,rfl,trivial⟩
theorem aEF:eO 83 LM:=ae λ((x:Int),(n:Net),_)=>by
 refine zE (A:=aE) (p:=let f:=Dh n.2.2.2.1-1;(Ab n->inR .i64 f/\True/\btw x 0 f=nW n x/\True)) Yp λh=>⟨aA ?_,trivial,rfl,trivial⟩;have:=h.1.1.2;simp only[Dk,Dh];omega
theorem Ba:ay Tryz.prog fP aDR:=ah aEG<|ah aEF Yp
theorem qh{α:Type}{p:α->Bool}{l:List α}{k:Int}(d:α)(u:0<=k)(j:k<l.length)(h:(l.take k.toNat).all p=true)(f:p (l.getD k.toNat d)=true):(l.take (k+1).toNat).all p=true:=by
 rw[show(k+1).toNat=k.toNat+1 by omega,wW,gU,h];rw[qA,qB (by omega:k.toNat<l.length)]at f;rw[qB (by omega:k.toNat<l.length)];simpa using f
theorem It{α:Type}{p:α->Bool}{l:List α}{k:Int}(d:α)(j:0<=k)(h:k<l.length)(f:p (l.getD k.toNat d)=false):l.all p=false:=by
 cases e:l.all p with
 |false=>rfl|true=>rw[qU.1 e _ (aN (d:=d) Z)]at f;cases f
theorem xx{α:Type}{p:α->Bool}{l:List α}{k:Int}(f:(l.take k.toNat).all p=true)(h:¬k<l.length):l.all p=true:=by
 rwa [qO Z]at f
abbrev SE:=az [.ptr N] (λ(n,_)=>Ab n) λ(n,_)=>.dat .bool (usF n)
theorem aGR:eO 30 SE:=ae λ((n:Net),_)=>by
 refine zE (A:=(lvA [(4,[1,2,3,4,6,8,10,12,17,18,19,30,31,32,62,63,64,97,98,99]),(10,[1,2,3,4,8,10,12,30,31,32,62,63,64,97,98,99]),(16,[1,2,3,4,10,12,62,63,64,97,98,99]),(22,[2,3,12,97,98,99])] (usA n))) (p:=let c1:=n.2.2.2;let c2:=Dh n.1;let c5:=Dh c1.1;let h:=c2-1;let c10:=Dh c1.2.1;let c11:=((0:Int),(0:Int));let f:=Dh c1.2.2;(Ab n->(∃x,X3 n x/\T4 n n n.1 c2 (0=x/\True))/\∀(x:Int),let c16:=Dw n.1 (Dc x) ((0:Int),Du Bool,Du Int);let c18:=Di (fQ c16.1 c16.2.1 c16.2.2);let c19:=x+1;X3 n x->(Dn x c2->0<=x/\x<c2/\T4 1 0 1 0 (True/\(c18->false=usF n/\True)/\(c18=false->inR .i64 c19/\∃y,X3 n y/\(T4 n n n.1 c2 (c19=y/\True))/\Dc (c2-y)<Dc (c2-x))))/\(Dn x c2=false->(∃xa,WG n xa/\T4 n n c1.1 c5 (0=xa/\True))/\∀(xb:Int),let c20:=(Dw c1.1 (Dc xb) (ByteArray.mk #[],(0:Int),(0:Int),(0:Int),(0:Int),(0:Int),Du ByteArray)).2.2;let c21:=Di (btw c20.1 0 h);let c22:=Di c21;let c24:=Dz c21 true (Di (btw c20.2.2.1 1 1000));let c25:=Di c24;let c26:=Dz c24 true (Di (btw c20.2.2.2.1 1 1000));let c27:=xb+1;WG n xb->(Dn xb c5->0<=xb/\xb<c5/\T6 1 0 1 1 0 (inR .i64 h/\True/\(c22->1=1)/\L5 c22 ((c22->1=1)/\(c22->0=0)/\L5 c22 ((c22->True)/\L5 c22 ((Dj true c22->c22)/\(c25->1=1)/\L5 c25 ((c25->1=1)/\(c25->0=0)/\L5 c25 ((c25->True)/\L5 c25 ((Dj true c25->c25)/\(c26->false=usF n/\True)/\(c26=false->inR .i64 c27/\∃y,WG n y/\(T4 n n c1.1 c5 (c27=y/\True))/\Dc (c5-y)<Dc (c5-xb))))))))))/\(Dn xb c5=false->(∃xba,Xc n xba/\T4 n n c1.2.1 c10 (0=xba/\True))/\∀(xbb:Int),let c28:=(Dw c1.2.1 (Dc xbb) (ByteArray.mk #[],(0:Int),(0:Int),(0:Int),c11)).2;let c29:=Di (nW n c28.1);let c30:=Di c29;let c32:=Dz c29 true (Di (nW n c28.2.1));let c33:=Di c32;let c35:=Dz c32 true (Di (btw c28.2.2.1 0 1439));let X:=Di c35;
  let c37:=Dz c35 true (Di (btw c28.2.2.2.1 1 100000));let c38:=xbb+1;Xc n xbb->(Dn xbb c10->0<=xbb/\xbb<c10/\T6 1 0 1 1 0 (Ab n/\(c30->1=1)/\L5 c30 ((c30->1=1)/\(c30->0=0)/\Q2 c30 ((c30->Ab n)/\L5 c30 ((Dj true c30->c30)/\(c33->1=1)/\L5 c33 ((c33->1=1)/\(c33->0=0)/\Q2 c33 ((c33->True)/\L5 c33 ((Dj true c33->c33)/\(X->1=1)/\L5 X ((X->1=1)/\(X->0=0)/\L5 X ((X->True)/\L5 X ((Dj true X->X)/\(c37->false=usF n/\True)/\(c37=false->inR .i64 c38/\∃y,Xc n y/\(T4 n n c1.2.1 c10 (c38=y/\True))/\Dc (c10-y)<Dc (c10-xbb)))))))))))))/\(Dn xbb c10=false->(∃xbba,XX n xbba/\L7 c1.2.2 f (0=xbba/\True))/\∀(j:Int),let c39:=(Dw c1.2.2 (Dc j) (ByteArray.mk #[],c11)).2;let c40:=Di (btw c39.1 0 1439);let L:=Di c40;let c42:=Dz c40 true (Di (btw c39.2 0 1439));let c43:=j+1;XX n j->(Dn j f->0<=j/\j<f/\T6 1 0 1 1 0 (True/\(L->1=1)/\L5 L ((L->1=1)/\(L->0=0)/\Q2 L ((L->True)/\L5 L ((Dj true L->L)/\(c42->false=usF n/\True)/\(c42=false->inR .i64 c43/\∃y,XX n y/\(L7 c1.2.2 f (c43=y/\True))/\Dc (f-y)<Dc (f-j)))))))/\(Dn j f=false->true=usF n/\True)))))) Ba λhp=>?_
 obtain⟨⟨⟨l1,l2⟩,l3⟩,l4⟩:=id hp;obtain⟨cs,ns,os,fs,ls,ks⟩:=n;simp only at l1 l2 l3 l4;refine Z9 ?_;refine⟨⟨qL _,qR _,rfl⟩,λx hx=>?_⟩;have hx0:0<=x:=hx.1;have hx1:x<=cs.length:=hx.2.1;refine⟨λf=>⟨hx0,f,λG=>?_,λG=>⟨aA Z,x+1,⟨Z,by show x+1<=(cs.length:Int);omega,qh (0,[],[]) hx0 f hx.2.2 G⟩,rfl,Z⟩⟩,λhge=>?_⟩;unfold usF;rw[It (p:=om) (0,[],[]) hx0 f G];rfl;have e1:=xx hx.2.2 hge;refine⟨⟨qL _,qR _,rfl⟩,λy hy=>?_⟩;have hy0:0<=y:=hy.1;have hy1:y<=fs.length:=hy.2.1;refine⟨λf=>⟨hy0,f,aA Z,λG=>?_,λG=>⟨aA Z,y+1,⟨Z,by show y+1<=(fs.length:Int);omega,qh (⟨#[]⟩,0,0,0,0,0,[]) hy0 f hy.2.2 ?_⟩,rfl,Z⟩⟩,λhge=>?_⟩;have:lU (cs,ns,os,fs,ls,ks) (fs.getD y.toNat (⟨#[]⟩,0,0,0,0,0,[]))=false:=by
  unfold lU;rcases G with(h|h)|h<;>rw[h]<;>simp
 unfold usF;rw[It (p:=lU (cs,ns,os,fs,ls,ks)) (⟨#[]⟩,0,0,0,0,0,[]) hy0 f this];simp;unfold lU;rw[G.1.1,G.1.2,G.2];rfl;have e2:=xx hy.2.2 hge;refine⟨⟨qL _,qR _,rfl⟩,λz hz=>?_⟩;have hz0:0<=z:=hz.1;have hz1:z<=ls.length:=hz.2.1;refine⟨λf=>⟨hz0,f,hp,λ_=>hp,λG=>?_,λG=>⟨aA Z,z+1,⟨Z,by show z+1<=(ls.length:Int);omega,qh (⟨#[]⟩,0,0,0,0,0) hz0 f hz.2.2 ?_⟩,rfl,Z⟩⟩,λhge=>?_⟩;have:lY (cs,ns,os,fs,ls,ks) (ls.getD z.toNat (⟨#[]⟩,0,0,0,0,0))=false:=by
  unfold lY;rcases G with((h|h)|h)|h<;>rw[h]<;>simp
 unfold usF;rw[It (p:=lY (cs,ns,os,fs,ls,ks)) (⟨#[]⟩,0,0,0,0,0) hz0 f this];simp;unfold lY;rw[G.1.1.1,G.1.1.2,G.1.2,G.2];rfl;have e3:=xx hz.2.2 hge;refine⟨⟨qL _,qR _,rfl⟩,λu hu=>?_⟩;have hu0:0<=u:=hu.1;have hu1:u<=ks.length:=hu.2.1;refine⟨λf=>⟨hu0,f,λG=>?_,λG=>⟨aA Z,u+1,⟨Z,by show u+1<=(ks.length:Int);omega,qh (⟨#[]⟩,0,0) hu0 f hu.2.2 ?_⟩,rfl,Z⟩⟩,λhge=>?_⟩;have:mx (ks.getD u.toNat (⟨#[]⟩,0,0))=false:=by
  unfold mx;rcases G with h|h<;>rw[h]<;>simp
 unfold usF;rw[It (p:=mx) (⟨#[]⟩,0,0) hu0 f this];simp;unfold mx;rw[G.1,G.2];rfl;have e4:=xx hu.2.2 hge;unfold usF;rw[e1,e2,e3,e4];rfl
theorem aDa{n:Net}{p:Plan}{i:Nat}(f:i<p.2.2.1.length)(h:nS n i (p.2.2.1.getD i [])=false):JJ n p=false:=by
 cases e:JJ n p with
 |false=>rfl|true=>
  unfold JJ at e;rw[qC,qU]at e;rw[e.2 i (wG.2 f)]at h;cases h
abbrev MC:=az [.ptr N,.ptr Pl] (λ(n,p,_)=>Ab n/\WJ p) λ(n,p,_)=>.dat .bool (JJ n p)
theorem aE8:eO 31 MC:=ae λ((n:Net),(p:Plan),_)=>by
 refine zE (A:=(lvA [(4,[0,4,5,6,8,36,37,38,43,44,45]),(7,[0,4,5,6,8,36,37,38,43,44,45])] (aG4 n p))) (p:=let c2:=n.2.2.2;let X:=p.2.2.1;let z:=Dh X;let c5:=Ea z (Dh c2.1);let A:=Di c5;let c8:=Dz c5 true (Ea (Dh p.2.2.2) (Dh c2.2.2));let c10:=Dh c2.2.1;(Ab n/\WJ p->L5 A (Q4 A (Q4 A (Q4 A ((Dj true A->A)/\(c8->false=JJ n p/\True)/\(c8=false->(∃x,aD4 n p x/\Q3 n X z (0=x/\True))/\∀(x:Int),let j:=Dw X (Dc x) [];let u:=Dh j;let c13:=x+1;aD4 n p x->(Dn x z->0<=x/\x<z/\(∃f,WI n x j f/\z8 n x j X z x j u (0=f/\True))/\∀(f:Int),let G:=Dw j (Dc f) 0;let h:=Ea G (-1);let c16:=Eb G c10;let L:=Di c16;let c4:=Dj h L;let c17:=Dz h (Dz c16 true (Ea (Dw c2.2.1 (Dc G) (ByteArray.mk #[],(0:Int),(0:Int),(0:Int),(0:Int),(0:Int))).2.1 x)) false;let c18:=f+1;WI n x j f->(Dn f u->0<=f/\f<u/\L5 h (Q4 h (Q4 h (Q2 c4 (Q4 c4 ((Dj h L->0<=G)/\(Dj h L->G<c10)/\L5 c4 (Q4 c4 (L5 h ((h->Dj h L->Dj h L)/\(Dj true h->h)/\(c17->false=JJ n p/\True)/\(c17=false->inR IntKind.i64 c18/\∃y,WI n x j y/\(z8 n x j X z x j u (c18=y/\True))/\Dc (u-y)<Dc (u-f)))))))))))/\(Dn f u=false->inR .i64 c13/\∃y,aD4 n p y/\(Q3 n X z (c13=y/\True))/\Dc (z-y)<Dc (z-x)))/\(Dn x z=false->true=JJ n p/\True)))))))) Ba λ⟨hn,hp⟩=>?_;obtain⟨⟨⟨l1,l2⟩,l3⟩,l4⟩:=id hn;obtain⟨cs,ns,os,fs,ls,ks⟩:=n;obtain⟨p1,p2,nx,dy⟩:=p;simp only at l1 l2 l3 l4;refine Z9 ?_;obtain⟨q1,q2⟩:nx.length<=2000000000000000/\∀r∈nx,r.length<=2000000000000000/\∀x∈r,-1<=x:=hp;refine⟨λh=>?_,λ⟨h1,h2⟩=>⟨⟨qL _,qR _,λi hi=>Z⟩,λx hx=>?_⟩⟩;unfold JJ;rcases h with h|h
 rw[qV (p:=nx.length=fs.length) Z];simp;rw[qV (p:=dy.length=ks.length) Z];simp;have hx0:0<=x:=hx.1;have hx1:x<=nx.length:=hx.2.1;refine⟨λhlt=>⟨hx0,hlt,⟨qL _,qR _,rfl⟩,λy hy=>?_⟩,λhge=>?_⟩;obtain⟨r1,r2⟩:=q2 _ (aN (l:=nx) (i:=x.toNat) (d:=[]) Z);obtain⟨r,hr⟩:∃r,r=nx.getD x.toNat []:=⟨_,rfl⟩;rw[<- hr]at r1 r2 hy ⊢;have G:0<=y:=hy.1;have hy1:y<=r.length:=hy.2.1;refine⟨λu=>?_,λhge2=>?_⟩;have hv:=r2 _ (aN (l:=r) (i:=y.toNat) (d:=0) Z);obtain⟨v,L⟩:∃v,v=r.getD y.toNat 0:=⟨_,rfl⟩;rw[<- L]at hv ⊢;have cg:js (cs,ns,os,fs,ls,ks) x v=(decide (v=-1)||(decide (v<ls.length)&&decide ((ls.getD v.toNat (⟨#[]⟩,0,0,0,0,0)).2.1=x))):=rfl;refine⟨G,u,λh=>Z,λh=>Z,λh=>?_,λh=>⟨aA Z,y+1,⟨Z,Z,qh 0 G u hy.2.2 ?_⟩,rfl,Z⟩⟩;have:js (cs,ns,os,fs,ls,ks) x v=false:=by
  rw[cg,qV h.1];rcases h.2 with h3|h3;rw[qV Z];rfl;rw[qV h3];simp
 refine(aDa (i:=x.toNat) (by show x.toNat<nx.length;omega) ?_).symm;show nS _ _ (nx.getD x.toNat [])=false;rw[<- hr];unfold nS;rw[vX hx0];exact It 0 G u (by rw[<- L];exact this);rw[<- L,cg];by_cases hm:v=-1;rw[qP hm];rfl;obtain⟨g1,g2⟩:=h hm;rw[qP (p:=v<ls.length) Z,qP g2];simp;have e1:=xx hy.2.2 hge2;refine⟨aA Z,x+1,⟨Z,by show x+1<=(nx.length:Int);omega,λi hi=>?_⟩,rfl,Z⟩;by_cases e:(i:Int)<x;exact hx.2.2 i e;have:(i:Int)=x:=by omega
 rw[this];show nS _ _ (nx.getD i [])=true;have e2:i=x.toNat:=Z;rw[e2,<- hr];exact e1;unfold JJ;rw[qP (p:=nx.length=fs.length) Z,qP (p:=dy.length=ks.length) Z];symm;simp only[yM];exact qU.2 λi hi=>hx.2.2 i (by have:i<nx.length:=wG.1 hi;omega)
def bX(n:Net)(o:Int):Off:=n.2.2.2.1.getD o.toNat (⟨#[]⟩,0,0,0,0,0,[])
def ag(n:Net)(o:Int):Cal:=n.1.getD (bX n o).2.2.1.toNat (0,[],[])
def bz(n:Net)(k:Int):Cla:=n.2.2.2.2.2.getD k.toNat (⟨#[]⟩,0,0)
def usP(n:Net):Prop:=usF n=true/\Ab n
def hC(n:Net)(o:Int):Prop:=0<=o/\o<n.2.2.2.1.length
def O1(n:Net)(k:Int):Prop:=0<=k/\k<n.2.2.2.2.2.length
def tOk(t:Int):Prop:=-3000000000<=t/\t<=3000000000
def nT(n:Net)(o t:Int):Int:=t+(bX n o).2.2.2.2.1*(bX n o).2.2.2.2.2.1
def aBC(n:Net)(o t:Int):Prop:=usP n/\hC n o/\tOk t
def cellAt(p:Plan)(o d:Int):Int:=(p.2.2.1.getD o.toNat []).getD d.toNat 0
def jq(p:Plan)(k o d:Int):Int:=((p.2.2.2.getD k.toNat []).getD o.toNat []).getD d.toNat 0
def plP(n:Net)(p:Plan):Prop:=(0<=p.1/\p.1<=p.2.1/\p.2.1<=600)/\(p.2.2.1.length=n.2.2.2.1.length/\∀r∈p.2.2.1,r.length=n.2.2.2.1.length)/\(∀i j:Int,hC n i->hC n j->js n i (cellAt p i j)=true/\-1<=cellAt p i j)/\
 p.2.2.2.length=n.2.2.2.2.2.length/\∀t∈p.2.2.2,t.length=n.2.2.2.1.length/\∀r∈t,r.length=n.2.2.2.1.length
def fS(n:Net)(o l:Int)(p:Plan)(x t:Int):Bool:=wkF (ag n o).2.1 (ag n o).2.2 (x-2+p.1)&&decide (nX (ag n o).1 (x-2+p.1) (bm n l).2.2.2.1≥nT n o t)
def oG(n:Net)(p:Plan)(d:Int):Nat->Int->Int->Li->Bool×Int×Li
 |0,o,t,xs=>(decide (o=d),t,xs)|f+1,o,t,xs=>if o=d then(true,t,xs)else if cellAt p o d=-1 then(false,t,xs)else if bh xs=false then(false,t,xs)else
  if fS n o (cellAt p o d) p (hd xs) t=true then oG n p d f (bm n (cellAt p o d)).2.2.1 (nX (ag n o).1 (hd xs-2+p.1) (bm n (cellAt p o d)).2.2.2.1+(bm n (cellAt p o d)).2.2.2.2.1) (tl xs)else(false,t,tl xs)
def yj(n:Net)(p:Plan)(o d t:Int)(xs:Li):Bool:=(oG n p d 19 o t xs).1
def sx(n:Net)(p:Plan)(o d t:Int)(xs:Li):Int:=(oG n p d 19 o t xs).2.1
def PH(n:Net)(p:Plan)(o d t:Int)(xs:Li):Li:=(oG n p d 19 o t xs).2.2
def MY(n:Net)(p:Plan)(o d t:Int)(xs:Li):Prop:=((usP n/\plP n p)/\hC n o/\hC n d)/\tOk t/\dz xs
def Xx(n:Net)(p:Plan)(d j h:Int)(f:Li)(k o t:Int)(xs:Li):Prop:=(0<=k/\k<=19/\MY n p o d t xs)/\oG n p d (19-k).toNat o t xs=oG n p d 19 j h f
def Pj(c:Cal)(m t:Int):Int:=if m<dj c.1 t then bf c.1 t+1 else bf c.1 t
def Zd(c:Cal)(m t:Int):Option Int:=(fu c.2.1 c.2.2 (Pj c m t) (Pj c m t+59)).head?
def nk(c:Cal)(m t:Int):Bool:=(Zd c m t).isSome
def OQ(c:Cal)(m t:Int):Int:=(Zd c m t).getD 0
def XN(c:Cal)(t:Int):Prop:=om c=true/\big t
def B9(k:Nat):Prop:=k=0
def Pm(n:Net)(d f:Int):Int:=bf (ag n d).1 f
def GN(n:Net)(p:Plan)(k o d f:Int)(xs:Li):Int:=OQ (ag n d) (bz n k).2.2 (nT n d (sx n p o d f xs))
def RU(n:Net)(p:Plan)(k o d f:Int)(xs:Li):Li:=fu (ag n d).2.1 (ag n d).2.2 (Pm n d f+1) (GN n p k o d f xs)
def sO(n:Net)(p:Plan)(k o d f:Int)(xs:Li):Bool:=yj n p o d f xs&&(nk (ag n d) (bz n k).2.2 (nT n d (sx n p o d f xs))&&(decide (GN n p k o d f xs-Pm n d f<=2000)&&decide (((RU n p k o d f xs).length:Int)<=jq p k o d)))
def YQ(n:Net)(p:Plan)(k o d f:Int)(xs:Li):Prop:=MY n p o d f xs/\O1 n k
def TY(k:Nat):Prop:=k<=4000000000000
def sZ(p:Plan)(t:Int):Bool:=decide (1440*p.1<=t)&&decide (t<1440*p.2.1)
def Nb(n:Net)(p:Plan)(o:Int):Li:=fu (ag n o).2.1 (ag n o).2.2 (p.1-1) (p.2.1+1)
def OS(n:Net)(k o d:Int):Int:=nX (ag n o).1 d (bz n k).2.1
def jd(n:Net)(p:Plan)(k o:Int):Li:=((Nb n p o).map λd=>OS n k o d).filter (sZ p)
def PK(n:Net)(p:Plan)(k o:Int)(j:Nat):Nat:=((((Nb n p o).take j).map λd=>OS n k o d).filter (sZ p)).length
def aEf(n:Net)(p:Plan)(k o:Int):Prop:=(usP n/\plP n p)/\hC n o/\O1 n k
abbrev Au:=az [.pvf N Pl,.val I,.val I] (λ((n,_),o,t,_)=>aBC n o t) λ((n,_),o,t,_)=>.dat I (nT n o t)
abbrev sk:=az [.pvf N Pl,.val I] (λ((n,_),o,_)=>usP n/\hC n o) λ((n,_),o,_)=>.ip C (ag n o)
abbrev G6:=az [.pvf N Pl,.val I,.val I] (λ_=>True) λ((n,p),k,o,_)=>.fn 85 [.ipv (.ips [.ip N n,.ip Pl p,.top]),.ip I o,.ip I k]
def UL:Kt:=kOr 91 Au <|
 kOr 86 sk <|
 kOr 32 G6 aDR
def KI1:FuncId->List AV->Option iJ:=λf h=>if f=156 then match ofK [.ptr I,.ptr I,.bp C] h with
 |some (a,b,c,_)=>some ⟨wdP c.2.1 c.2.2 a b,I,fu c.2.1 c.2.2 a b⟩|none=>none
 else none
noncomputable def aAn(K:Kt)(j:FuncId->List AV->Option iJ)(h:KPt)(f:FuncId->Bool):Cfg:=⟨Tryz.prog,fP,K,λ_=>false,j,true,h,f⟩
def mki(K:Kt)(KI:FuncId->List AV->Option iJ):Cfg:={mkc K with KI:=KI}
def aG8(n:Net)(p:Plan)(k o:Int):Zz:=⟨aE,⟨λ_ _=>none,λ_ _=>none,λf=>f==6⟩,λs=>some (frz (allNames s) s),λj=>PK n p k o j⟩
def aG3(n:Net)(p:Plan)(d j h:Int)(f:Li):Ann:=Z8 2 (Int×Int×Int×Li) (λx=>Xx n p d j h f x.1 x.2.1 x.2.2.1 x.2.2.2) (λs x=>nU (put (fY s) [(9,.dat I x.1),(1,.dat I x.2.1),(3,.dat I x.2.2.1)]) 1 (.var [.dat R x.2.2.2])) λx=>Dc (Dk 19 x.1)
def aDQ:Kt:=kOr 154 (YV 1 R [.mp 1] (λ_ f=>True/\bh f=true) (λ_ f=>.dat I (hd f)) λ_ f=>tl f) UL
def c12:Cfg:=Og aDQ (λ_=>false) KP6 (λf=>f==29||f==154)
def aG7:Ann:=Z8 5 Nat B9 (λs _=>fY s) λk=>k
def aBu:Kt:=kOr 89 (YV 1 R [.pv 1 N Pl,.val I,.val I,.val I] (λ((n,p),o,d,t,_) f=>MY n p o d t f/\yj n p o d t f=true) (λ((n,p),o,d,t,_) f=>.dat I (sx n p o d t f)) λ((n,p),o,d,t,_) f=>PH n p o d t f) <|
 kOr 90 (az [.ptr C,.val I,.val I] (λ(c,m,t,_)=>XN c t/\nk c m t=true) λ(c,m,t,_)=>.dat I (OQ c m t)) UL
def aGI:KPt:=pOr 89 (aAo 1 R [.pv 1 N Pl,.val I,.val I,.val I] λ((n,p),o,d,t,_) f=>⟨MY n p o d t f,yj n p o d t f,dO 38 190⟩) <|
 pOr 90 (Ia [.ptr C,.val I,.val I] λ(c,m,t,_)=>⟨XN c t,nk c m t,dO 38 190⟩) KPr
def c13:Cfg:=aAn aBu KI1 aGI (λf=>f==29||f==89||f==90)
def aGV:Ann:=⟨λf s=>match f with
 |7=>match s.sig.T 15 with
  |.ptr nm _ _ _=>some {α:=Nat,inv:=λk=>TY k,st:=λk=>nU (fY s) nm (.var [.dat I (Ec k)]),μ:=λk=>k}|_=>none
 |_=>none,λ_ _=>none,λ_ _=>none⟩
theorem Kp{n:Net}(h:usP n):((∀c∈n.1,om c=true)/\(∀o∈n.2.2.2.1,lU n o=true))/\(∀l∈n.2.2.2.2.1,lY n l=true)/\∀k∈n.2.2.2.2.2,mx k=true:=by
 have:=h.1;unfold usF at this;simp only[qC,qU]at this;exact⟨⟨this.1.1.1,this.1.1.2⟩,this.1.2,this.2⟩
theorem P4{n:Net}{o:Int}(h:usP n)(f:hC n o):(0<=(bX n o).2.2.1/\(bX n o).2.2.1<n.1.length)/\(1<=(bX n o).2.2.2.2.1/\(bX n o).2.2.2.2.1<=1000)/\1<=(bX n o).2.2.2.2.2.1/\(bX n o).2.2.2.2.2.1<=1000:=by
 have:=(Kp h).1.2 (bX n o) (aN (by have:=f.1;have:=f.2;omega));unfold lU at this;simp only[qC,ou]at this;omega
theorem yz{n:Net}{o:Int}(h:usP n)(f:hC n o):om (ag n o)=true:=
 (Kp h).1.1 _ (aN (by have:=(P4 h f).1;omega))
theorem P5{n:Net}{l:Int}(h:usP n)(j:0<=l)(f:l<n.2.2.2.2.1.length):hC n (bm n l).2.1/\hC n (bm n l).2.2.1/\(0<=(bm n l).2.2.2.1/\(bm n l).2.2.2.1<=1439)/\1<=(bm n l).2.2.2.2.1/\(bm n l).2.2.2.2.1<=100000:=by
 have:=(Kp h).2.1 (bm n l) (aN Z);unfold lY nW at this;simp only[qC,ou]at this;unfold hC;omega
theorem P6{n:Net}{k:Int}(h:usP n)(f:O1 n k):(0<=(bz n k).2.1/\(bz n k).2.1<=1439)/\0<=(bz n k).2.2/\(bz n k).2.2<=1439:=by
 have:=(Kp h).2.2 (bz n k) (aN (by have:=f.1;have:=f.2;omega));unfold mx at this;simp only[qC,ou]at this;omega
theorem ki{c:Cal}(h:om c=true):(-720<=c.1/\c.1<=840)/\c.2.1.length=7/\srt c.2.2:=by
 have:=(jg.1 h).1;exact⟨⟨this.1,this.2.1⟩,this.2.2.1,P0 h⟩
theorem YN{n:Net}{o t:Int}(h:usP n)(f:hC n o):t+1<=nT n o t/\nT n o t<=t+1000000:=by
 obtain⟨_,⟨z,y⟩,u,j⟩:=P4 h f;unfold nT;have G:1*1<=(bX n o).2.2.2.2.1*(bX n o).2.2.2.2.2.1:=qAb z u (by decide) Z;have A:(bX n o).2.2.2.2.1*(bX n o).2.2.2.2.2.1<=1000*1000:=qAb y j Z (by decide);omega
theorem ZV:eO 91 Au:=ae λ(((n:Net),(p:Plan)),(o:Int),(t:Int),_)=>by
 refine zE (A:=aE) (p:=let u:=(Dw n.2.2.2.1 (Dc o) (ByteArray.mk #[],(0:Int),(0:Int),(0:Int),(0:Int),(0:Int),Du ByteArray)).2.2.2.2;let j:=u.1*u.2.1;let h:=t+j;(aBC n o t->0<=o/\o<Dh n.2.2.2.1/\inR .i64 j/\inR .i64 h/\h=nT n o t/\True)) Ba λ⟨y,f,z⟩=>?_;obtain⟨r1,X⟩:=YN (t:=t) y f;obtain⟨L,G⟩:=z;have e:nT n o t=t+(bX n o).2.2.2.2.1*(bX n o).2.2.2.2.2.1:=rfl;refine⟨f.1,f.2,aA ?_,aA ?_,rfl,trivial⟩;show _<=(bX n o).2.2.2.2.1*(bX n o).2.2.2.2.2.1/\(bX n o).2.2.2.2.1*(bX n o).2.2.2.2.2.1<=_;omega;show _<=t+(bX n o).2.2.2.2.1*(bX n o).2.2.2.2.2.1/\t+(bX n o).2.2.2.2.1*(bX n o).2.2.2.2.2.1<=_;omega
theorem QB:eO 86 sk:=ae λ(((n:Net),(p:Plan)),(o:Int),_)=>by
 refine zE (A:=aE) (p:=let h:=(Dw n.2.2.2.1 (Dc o) (ByteArray.mk #[],(0:Int),(0:Int),(0:Int),(0:Int),(0:Int),Du ByteArray)).2.2.1;(usP n/\hC n o->0<=o/\o<Dh n.2.2.2.1/\0<=h/\h<Dh n.1/\Dw n.1 (Dc h) ((0:Int),Du Bool,Du Int)=ag n o/\True)) Ba λ⟨j,f⟩=>?_;have:=(P4 j f).1;exact⟨f.1,f.2,this.1,this.2,rfl,trivial⟩
theorem aCf:eO 32 G6:=ae λ(((n:Net),(p:Plan)),(k:Int),(o:Int),_)=>zE (A:=aE) (p:=(True->k8 n p o k)) Ba λ_=>by simp
theorem NB:ay Tryz.prog fP UL:=ah ZV<|ah QB<|ah aCf Ba
theorem lI.args{P:Program}{G:List (Nat×AV)}{gf:FuncId}{xs u:List AV}{y:iJ}(h:lI P G gf u y)(j:∀(C:Ctx) f,AV.relL P C xs f->AV.relL P C u f):lI P G gf xs y:=
 λA l J JX JP w D f X L z=>h A l J JX JP w D f X L (j _ f z)
theorem aEs:aR Tryz.prog fP KI1:=by
 intro f j A h;unfold KI1 at h;split at h;rename_i e;subst e;split at h;rename_i a b c _ u;cases h;exact lI.args (aEE c.1 a b c.2.1 c.2.2) λC z y=>ie u y;cases h;cases h
theorem XP(n:Net)(p:Plan)(k o:Int):PK n p k o (Nb n p o).length=(jd n p k o).length:=by
 unfold PK jd;rw[qO (qN _)]
theorem TU{n:Net}{p:Plan}{k o:Int}{j:Nat}{y:Int}(h:oD (Nb n p o) j y):PK n p k o (j+1)=PK n p k o j+(if sZ p (OS n k o y)=true then 1 else 0):=by
 have h:(Nb n p o)[j]?=some y:=h;unfold PK;rw[wW,h,wV,yF,qG];congr 1;simp only[Option.toList,wR,qBv,yV,gQ];split<;>rfl
theorem aA1{n:Net}{p:Plan}{k o:Int}{j:Nat}{y:Int}(h:oD (Nb n p o) j y)(u:sZ p (OS n k o y)=true):oD (jd n p k o) (PK n p k o j) (OS n k o y):=by
 have h:(Nb n p o)[j]?=some y:=h;obtain⟨A,f⟩:=qE.1 h;have e:Nb n p o=(Nb n p o).take j++y::(Nb n p o).drop (j+1):=by rw[<- f,List.getElem_cons_drop,xU]
 have z:jd n p k o=(((Nb n p o).take j).map λd=>OS n k o d).filter (sZ p)++((y::(Nb n p o).drop (j+1)).map λd=>OS n k o d).filter (sZ p):=by
  unfold jd;conv=>lhs;rw[e]
  rw[wV,yF]
 unfold oD;rw[z];unfold PK;rw[qZ (qN _),qAk,wR,yV,if_pos u];rfl
theorem PU{w:List Bool}{h:Li}{a b x:Int}(f:x∈fu w h a b):a<=x/\x<=b/\wkF w h x=true:=by
 unfold fu at f;rw[xJ,vU]at f;obtain⟨⟨i,j,rfl⟩,u⟩:=f;have:=wG.1 j;exact⟨Z,Z,u⟩
theorem aCg(n:Net)(p:Plan)(k o:Int):lI Tryz.prog fP 85 [.ipv (.ips [.ip N n,.ip Pl p,.top]),.ip I o,.ip I k] ⟨aEf n p k o,I,jd n p k o⟩:=by
 refine zN (c:=mki UL KI1) (A:=(aG8 n p k o)) NB aEs hm (p:=let A:=ag n o;let c3:=(Ty.int .i64).pair (Ty.bool.sl.pair (Ty.int .i64).sl);let c1:=p.2.1;let c2:=1440*p.1;let c5:=1440*c1;let h:=p.1-1;let u:=c1+1;let c8:=A.2;let c11:=fu c8.1 c8.2 h u;let c12:=jd n p k o;let G:=Dl c12;let z:=A.1;let c16:=(Dw n.2.2.2.2.2 (Dc k) (ByteArray.mk #[],(0:Int),(0:Int))).2.1;true/\true/\true/\false=false/\∀(l:Nat),aEf n p k o->(usP n/\hC n o)/\L7 1 0 (inR .i64 c2/\inR .i64 c5/\w6 1 0 1 0 1 0 (inR IntKind.i64 h/\inR .i64 u/\True/\L4 l n p o k l 1 0 (AV.ip c3 A) (L4 1 0 c2 1 0 c5 n p o (L4 (ag n o) n p n p p p p p (L4 p.1 c2 n p n p p p p (L4 p.2 c1 c5 (ag n o) n p n p p (L4 p p p p.1 h n p n p (L4 p p p p.2 c1 u h u (ag n o) (wdP c8.1 c8.2 h u/\PK n p k o 0=0/\PK n p k o (Dl c11)=G/\∀(j:Nat),let X:=PK n p k o j;let c18:=X+1;let c19:=PK n p k o (j+1);∀(y:Int),let L:=Eb (nX z y c16) c2;let f:=Dz L (Dn (nX z y c16) c5) false;let c4:=Dj true f->f;let c22:=Dz f (Di false) false;oD c11 j y->true/\0<=k/\k<Dh n.2.2.2.2.2/\(big z/\big y/\big c16)/\Q2 L ((Dj true L->L)/\(f->(f->f)/\(f->f)/\l=l/\true/\oD c12 X (nX z y c16)/\∀(b:Bool),let c23:=Dz f (Di b) false;c4/\(c23->b->c18=G)/\(c23=false->b/\c18=c19))/\(f=false->L5 f (c4/\(c22->true->X=G)/\(c22=false->true/\X=c19)))))))))))))) ⟨rfl,rfl,rfl,rfl,λl ⟨⟨hu,hp⟩,ho,hk⟩=>?_⟩
 obtain⟨⟨p0,p1,p2⟩,_⟩:=hp;have hc:=yz hu ho;obtain⟨⟨z1,z2⟩,hw,hs⟩:=ki hc;have hcl:=P6 hu hk;simp only[qc.1,qBe,yG,wB];refine⟨⟨hu,ho⟩,aA Z,aA Z,aA Z,aA Z,⟨hw,hs,⟨Z,Z⟩,⟨Z,Z⟩⟩,rfl,XP n p k o,λj y hy=>?_⟩;have hy':oD (Nb n p o) j y:=hy;have hm2:=PU (qY hy');have z:=TU (k:=k) hy';have eM:nX (ag n o).1 y (bz n k).2.1=OS n k o y:=rfl;have eC:Dz (Eb (OS n k o y) (Em 1440 p.1)) (Dn (OS n k o y) (Em 1440 p.2.1)) false=sZ p (OS n k o y):=by
  rw[T8];rfl
 have two:∀{q:Prop},q->(q/\q):=λh=>⟨h,h⟩;refine⟨hk.1,hk.2,⟨⟨Z,Z⟩,⟨Z,Z⟩,⟨by show _<=(bz n k).2.1;omega,by show(bz n k).2.1<=_;omega⟩⟩,?_⟩;simp only[qBa,gB,yG,wB];refine⟨λh=>by simpa[Dj]using h,λu=>?_,λu=>?_⟩;have G:sZ p (OS n k o y)=true:=by rw[<- eC];exact u
 rw[if_pos G]at z;refine⟨aA1 hy' G,λb=>⟨λ_=>u,λh1 h2=>?_,λh1=>?_⟩⟩;rw[h2]at h1;rw[u]at h1;cases h1;rw[u]at h1;have:b=true:=by simpa[Dz,Di]using h1
 exact⟨this,z.symm⟩;have G:sZ p (OS n k o y)=false:=by rw[<- eC];exact u
 rw[if_neg (by rw[G];exact Bool.false_ne_true)]at z;refine⟨λh=>by simpa[Dj]using h,?_,?_⟩;intro h;rw[u]at h;cases h;intro _;exact z.symm
theorem aDI:ay Tryz.prog fP aDQ:=ah (qy λ_ f=>(IV f).1) NB
theorem KE(n:Net)(p:Plan)(o d t:Int)(xs:Li):aj Tryz.prog fP 89 [.ips [.ip N n,.ip Pl p,.ptr 1 1 0 0],.dat I o,.dat I d,.dat I t] [(1,.var [.dat R xs])] ⟨MY n p o d t xs/\yj n p o d t xs=true,.dat I (sx n p o d t xs),[(1,.var [.dat R (PH n p o d t xs)])]⟩/\
  fm Tryz.prog fP 89 [.ips [.ip N n,.ip Pl p,.ptr 1 1 0 0],.dat I o,.dat I d,.dat I t] [(1,.var [.dat R xs])] ⟨MY n p o d t xs,yj n p o d t xs,dO 38 190⟩:=by
 refine zM (c:=c12) (A:=(aG3 n p d o t xs)) (q:=⟨MY n p o d t xs,yj n p o d t xs,dO 38 190⟩) aDI sJ hm UI (p:=let c1:=p.2.2.1;let c2:=yj n p o d t xs;let c3:=chainOf (Value.iface 38 (Value.int .i64 (190:Int)));let c4:=n.2.2.2.2.1;let c5:=p.1;let L:=(ByteArray.mk #[],(0:Int),(0:Int),(0:Int),(0:Int),(0:Int));true/\(MY n p o d t xs->1=1/\(∃(x:Int×Int×Int×Li),let u:=x.1;let c8:=x.2;let z:=c8.1;let c10:=c8.2;let c11:=c10.1;let A:=c10.2;Xx n p d o t xs u z c11 A/\T6 n p 1 0 0 (o=z/\d=d/\t=c11/\(0:Int)=(0:Int)/\0=u/\xs=A/\T5 1))/\∀(x:Int×Int×Int×Li),let h:=x.1;let G:=x.2;let f:=G.1;let c16:=G.2;let c17:=c16.1;let c18:=c16.2;let c19:=Ea f d;let c20:=Dw c1 (Dc f) [];let X:=Dn h 19;let c22:=Dw c20 (Dc d) 0;let c23:=Dz X (Ea c22 (-1)) false;let c24:=bh c18;let c25:=hd c18-2;let c26:=c25+c5;let c27:=ag n f;let c28:=c27.1;let c29:=(Dw c4 (Dc c22) L).2.2;let c30:=c29.2;let c31:=c30.1;let c32:=c27.2;let c33:=c32.1;let c34:=c32.2;let j:=wkF c33 c34 c26;let c36:=nX c28 c26 c31;let c37:=Dz j (Eb c36 (nT n f c17)) false;let c38:=c36+c30.2.1;let c39:=h+1;
  Xx n p d o t xs h f c17 c18->(c19->0<=f/\f<Dh c1/\0<=d/\d<Dh c20/\(X->X->X)/\(Dj true X->X)/\(true->True/\(c23=false->c2=false/\true/\c3=c3))/\((true->c23)->(True/\c23)/\0<=c22/\c22<Dh c4/\(usP n/\hC n f)/\True/\(c24->(True/\c24)/\1=1/\inR .i64 c25/\inR .i64 c26/\(big c28/\big c26/\big c31)/\wkP c33 c34 c26/\(j->j->j)/\(j->j->j)/\(j->j->j)/\(j->aBC n f c17)/\(j->j->j)/\(j->j->j)/\(Dj true j->j)/\(true->True/\(c37=false->c2=false/\true/\c3=c3))/\((true->c37)->(True/\c37)/\inR .i64 c38/\inR .i64 c39/\∃(y:Int×Int×Int×Li),let c40:=y.1;let c41:=y.2;let c42:=c41.1;let c43:=c41.2;let c44:=c43.1;let c45:=c43.2;Xx n p d o t xs c40 c42 c44 c45/\(T6 n p 1 0 0 (c29.1=c42/\d=d/\c38=c44/\(0:Int)=(0:Int)/\c39=c40/\tl c18=c45/\T5 1))/\Dc (19-c40)<Dc (19-h)))/\(c24=false->c2=false/\true/\c3=c3)))/\(c19=false->c2/\c17=sx n p o d t xs/\c18=PH n p o d t xs/\T5 1))) ⟨rfl,λhp=>?_⟩
 refine Z9 ?_;refine⟨⟨(0,o,t,xs),⟨⟨qL _,show(0:Int)<=19 by decide,hp⟩,rfl⟩,rfl,rfl,rfl,rfl⟩,λ⟨k,z,L,u⟩ hi=>?_⟩;obtain⟨⟨k0,k1,hq⟩,he⟩:=hi;simp only at k0 k1 hq he;obtain⟨⟨⟨hu,hpl⟩,G,hd2⟩,ht2,hys⟩:=id hq;obtain⟨⟨p0,p1,p2⟩,⟨q1,q2⟩,q3,_⟩:=id hpl;obtain⟨c,ec⟩:∃c,c=cellAt p z d:=⟨_,rfl⟩;have eC:(p.2.2.1.getD z.toNat []).getD d.toNat 0=c:=ec.symm;obtain⟨ln,el⟩:∃ln,ln=bm n c:=⟨_,rfl⟩;have eL:n.2.2.2.2.1.getD c.toNat (⟨#[]⟩,0,0,0,0,0)=ln:=el.symm;simp only[eC,eL];obtain⟨g1,g2⟩:=q3 z d G hd2;rw[<- ec]at g1 g2;have eOk:yj n p o d t xs=(oG n p d (19-k).toNat z L u).1:=by rw[he];rfl
 have eT:sx n p o d t xs=(oG n p d (19-k).toNat z L u).2.1:=by rw[he];rfl
 have eR:PH n p o d t xs=(oG n p d (19-k).toNat z L u).2.2:=by rw[he];rfl
 have hf:k<19->(19-k).toNat=(19-(k+1)).toNat+1:=λh=>Z;have eS:∀f,oG n p d (f+1) z L u=if z=d then(true,L,u)else if c=-1 then(false,L,u)else if bh u=false then(false,L,u)else
   if fS n z c p (hd u) L=true then oG n p d f ln.2.2.1 (nX (ag n z).1 (hd u-2+p.1) ln.2.2.2.1+ln.2.2.2.2.1) (tl u)else(false,L,tl u):=λf=>by rw[el,ec];rfl
 have eD:fS n z c p (hd u) L=(wkF (ag n z).2.1 (ag n z).2.2 (hd u-2+p.1)&&decide (nX (ag n z).1 (hd u-2+p.1) ln.2.2.2.1≥nT n z L)):=by rw[el];rfl
 refine⟨λhne=>?_,λheq=>?_⟩;have hrow:=q2 _ (aN (l:=p.2.2.1) (i:=z.toNat) (d:=[]) (by have:=G.1;have:=G.2;omega));refine⟨G.1,by rw[q1];exact G.2,hd2.1,by rw[hrow];exact hd2.2,λh=>?_,λ⟨hk,hc⟩=>?_⟩;rw[eOk];by_cases hk:k<19;rw[hf hk,eS,if_neg hne,if_pos (h hk)];rw[show(19-k).toNat=0 by omega];exact qV hne;have hl:c<n.2.2.2.2.1.length:=by
  unfold js at g1;rw[qV hc,xO,qC,qF]at g1;exact g1.1
 obtain⟨_,lo,⟨m0,m1⟩,r0,r1⟩:=P5 hu (by omega:0<=c) hl;rw[<- el]at lo m0 m1 r0 r1;obtain⟨⟨z1,z2⟩,hw,hs⟩:=ki (yz hu G);refine⟨⟨hk,hc⟩,Z,hl,⟨hu,G⟩,λh1=>?_,λh1=>?_⟩;have hm1:0<=hd u/\hd u<=65519:=dI.1 hys.1 _ (aN (vJ h1));have hm2:-1000000<=nX (ag n z).1 (hd u-2+p.1) ln.2.2.2.1/\nX (ag n z).1 (hd u-2+p.1) ln.2.2.2.1<=100000000:=by unfold nX;omega
 refine⟨h1,aA Z,aA Z,⟨⟨Z,Z⟩,⟨Z,Z⟩,⟨Z,Z⟩⟩,⟨hw,hs,⟨Z,Z⟩⟩,λ_=>⟨hu,G,ht2⟩,λh=>?_,λh=>?_⟩;rw[eOk,hf hk,eS,if_neg hne,if_neg hc,if_neg (by rw[h1];exact Bool.noConfusion),if_neg];rw[eD];simpa using h;have hy:fS n z c p (hd u) L=true:=by rw[eD];simpa using h
 refine⟨h,aA Z,aA Z,⟨(k+1,ln.2.2.1,nX (ag n z).1 (hd u-2+p.1) ln.2.2.2.1+ln.2.2.2.2.1,tl u),⟨⟨by show 0<=k+1;omega,by show k+1<=19;omega,⟨⟨hu,hpl⟩,lo,hd2⟩,⟨by show -3000000000<=_+_;omega,by show _+_<=3000000000;omega⟩,fA hys 1⟩,?_⟩,⟨rfl,rfl,rfl,rfl⟩,by show(19-(k+1)).toNat<_;omega⟩⟩;rw[<- he,hf hk,eS,if_neg hne,if_neg hc,if_neg (by rw[h1];exact Bool.noConfusion),if_pos hy];rw[eOk,hf hk,eS,if_neg hne,if_neg hc,if_pos h1];have e:oG n p d (19-k).toNat z L u=(true,L,u):=by
  by_cases hk:k<19;rw[hf hk,eS,if_pos heq];rw[show(19-k).toNat=0 by omega];show(decide (z=d),L,u)=_;rw[qP heq]
 rw[eOk,eT,eR,e];exact⟨rfl,rfl,rfl⟩
theorem Qy(c:Cal)(m t:Int):aj Tryz.prog fP 90 [.ip C c,.dat I m,.dat I t] [] ⟨XN c t/\nk c m t=true,.dat I (OQ c m t),[]⟩/\
  fm Tryz.prog fP 90 [.ip C c,.dat I m,.dat I t] [] ⟨XN c t,nk c m t,dO 38 190⟩:=by
 obtain⟨z,w,h⟩:=c;refine zC (c:=aAn UL KI1 noP (λ_=>false)) (A:=aG7) (q:=⟨XN (z,w,h) t,nk (z,w,h) m t,dO 38 190⟩) NB aEs hm Aa (p:=let f:=(z,w,h);let X:=Dn m (dj z t);let u:=bf z t+1;let c4:=u+60;let G:=c4-1;let c6:=fu w h u G;let L:=nk f m t;let c8:=chainOf (Value.iface 38 (Value.int .i64 (190:Int)));let c12:=true->True/\(false=false->L=false/\true/\c8=c8);let A:=bf z t+60;let j:=A-1;let c11:=fu w h (bf z t) j;true/\(XN f t->(big z/\big t)/\(X->inR .i64 u/\inR .i64 c4/\inR .i64 G/\True/\wdP w h u G/\(∃x,B9 x/\x=0/\f=f/\m=m/\t=t/\1=1/\0=0/\0=0/\u=u/\dj z t=dj z t/\bf z t=bf z t/\dj z t=dj z t/\f=f/\t=t/\bf z t=bf z t/\dj z t=dj z t/\bf z t=bf z t/\dj z t=dj z t/\m=m/\dj z t=dj z t/\X=X/\bf z t=bf z t/\u=u/\f=f/\u=u/\u=u/\c4=c4/\G=G/\u=u/\G=G/\f=f/\(0:Int)=(0:Int)/\True)/\(∀(x:Nat) (y:Int),B9 x->oD c6 x y->L7 1 0 (L/\L7 1 0 (y=OQ f m t/\True)))/\∀(x:Nat),B9 x->x=Dl c6->c12/\True)/\(X=false->inR .i64 A/\inR .i64 j/\True/\wdP w h (bf z t) j/\(∃x,B9 x/\x=0/\f=f/\m=m/\t=t/\1=1/\0=0/\0=0/\bf z t=bf z t/\dj z t=dj z t/\bf z t=bf z t/\dj z t=dj z t/\f=f/\t=t/\bf z t=bf z t/\dj z t=dj z t/\bf z t=bf z t/\dj z t=dj z t/\m=m/\dj z t=dj z t/\X=X/\f=f/\bf z t=bf z t/\bf z t=bf z t/\A=A/\j=j/\bf z t=bf z t/\j=j/\f=f/\(0:Int)=(0:Int)/\True)/\(∀(x:Nat) (y:Int),B9 x->oD c11 x y->L7 1 0 (L/\L7 1 0 (y=OQ f m t/\True)))/\∀(x:Nat),B9 x->x=Dl c11->c12/\True))) ⟨rfl,λhp=>?_⟩
 refine Z9 ?_;obtain⟨hc,t1,t2⟩:=id hp;obtain⟨⟨z1,z2⟩,hw,hs⟩:=ki hc;simp only at z1 z2 hw hs;have hday:-1000000000<=bf z t/\bf z t<=1000000000:=by unfold bf;omega
 have key:∀b:Int,Pj (z,w,h) m t=b->(∀(x:Nat) (y:Int),B9 x->oD (fu w h b (b+60-1)) x y->nk (z,w,h) m t=true/\y=OQ (z,w,h) m t)/\∀x:Nat,B9 x->x=(fu w h b (b+60-1)).length->nk (z,w,h) m t=false:=λb hb=>by
  have e:Zd (z,w,h) m t=(fu w h b (b+60-1)).head?:=by
   unfold Zd;rw[hb,show b+60-1=b+59 by omega]
  refine⟨λx y L hy=>?_,λx L hy=>?_⟩;have L:x=0:=L;have hy:(fu w h b (b+60-1))[x]?=some y:=hy;rw[L,<- qBm,<- e]at hy;unfold nk OQ;rw[hy];exact⟨rfl,rfl⟩;have L:x=0:=L;have:fu w h b (b+60-1)=[]:=vI Z;unfold nk;rw[e,this];rfl
 refine⟨⟨⟨Z,Z⟩,t1,t2⟩,λhlt=>?_,λhge=>?_⟩;obtain⟨k1,k2⟩:=key (bf z t+1) (by unfold Pj;exact if_pos hlt);exact⟨aA Z,aA Z,aA Z,⟨hw,hs,⟨Z,Z⟩,⟨Z,Z⟩⟩,rfl,k1,k2⟩;obtain⟨k1,k2⟩:=key (bf z t) (by unfold Pj;exact if_neg hge);exact⟨aA Z,aA Z,⟨hw,hs,⟨Z,Z⟩,⟨Z,Z⟩⟩,rfl,k1,k2⟩
theorem Zu:ay Tryz.prog fP aBu:=ah (qy λ((n,p),o,d,t,_) f=>(KE n p o d t f).1)<|ah (ae λ(c,m,t,_)=>(Qy c m t).1) NB
theorem aBq:bI Tryz.prog fP aGI:=lT (uY λ((n,p),o,d,t,_) f=>(KE n p o d t f).2)<|lT (mX λ(c,m,t,_)=>(Qy c m t).2) NC
theorem Xw{n:Net}{p:Plan}{o d t:Int}{xs:Li}(hq:MY n p o d t xs)(hc:cellAt p o d≠-1)(h1:bh xs=true):(0<=cellAt p o d/\cellAt p o d<n.2.2.2.2.1.length)/\MY n p (bm n (cellAt p o d)).2.2.1 d (nX (ag n o).1 (hd xs-2+p.1) (bm n (cellAt p o d)).2.2.2.1+(bm n (cellAt p o d)).2.2.2.2.1) (tl xs):=by
 obtain⟨⟨⟨y,h⟩,j,u⟩,X,f⟩:=hq;obtain⟨⟨p0,p1,p2⟩,⟨q1,q2⟩,L,_⟩:=id h;obtain⟨z,g2⟩:=L o d j u;have A:cellAt p o d<n.2.2.2.2.1.length:=by
  unfold js at z;rw[qV hc,xO,qC,qF]at z;exact z.1
 have G:0<=cellAt p o d:=Z;obtain⟨_,lo,⟨m0,m1⟩,r0,r1⟩:=P5 y G A;obtain⟨⟨z1,z2⟩,hw,hs⟩:=ki (yz y j);have hm1:0<=hd xs/\hd xs<=65519:=dI.1 f.1 _ (aN (vJ h1));refine⟨⟨G,A⟩,⟨⟨y,h⟩,lo,u⟩,⟨?_,?_⟩,fA f 1⟩<;>unfold nX<;>omega
theorem JI{n:Net}{p:Plan}{d:Int}:∀(f:Nat) {o t:Int}{xs:Li},MY n p o d t xs->tOk (oG n p d f o t xs).2.1/\dz (oG n p d f o t xs).2.2
 |0,o,t,xs,h=>⟨h.2.1,h.2.2⟩|f+1,o,t,xs,h=>by
  unfold oG;by_cases z:o=d;rw[if_pos z];exact⟨h.2.1,h.2.2⟩;rw[if_neg z];by_cases u:cellAt p o d=-1;rw[if_pos u];exact⟨h.2.1,h.2.2⟩;rw[if_neg u];by_cases j:bh xs=false;rw[if_pos j];exact⟨h.2.1,h.2.2⟩;rw[if_neg j];by_cases y:fS n o (cellAt p o d) p (hd xs) t=true;rw[if_pos y];exact JI f (Xw h u (by simpa using j)).2;rw[if_neg y];exact⟨h.2.1,fA h.2.2 1⟩
theorem aAW{c:Cal}{m t:Int}(h:nk c m t=true):Pj c m t<=OQ c m t/\OQ c m t<=Pj c m t+59:=by
 unfold nk at h;unfold OQ;cases e:Zd c m t with
 |none=>rw[e]at h;cases h
 |some y=>
  unfold Zd at e;have:=PU (gK e);exact⟨this.1,this.2.1⟩
theorem aBP(w:List Bool)(h:Li)(a b:Int):(fu w h a b).length<=(b+1-a).toNat:=by
 unfold fu;refine vS (qBs _ _) ?_;rw[vT,yE];exact qN _
theorem Qo(n:Net)(p:Plan)(k o d f:Int)(xs:Li):aj Tryz.prog fP 33 [.ips [.ip N n,.ip Pl p,.ptr 1 1 0 0],.dat I k,.dat I o,.dat I d,.dat I f] [(1,.var [.dat R xs])] ⟨YQ n p k o d f xs/\sO n p k o d f xs=true,.tup [],[(1,.var [.dat R (PH n p o d f xs)])]⟩/\
  fm Tryz.prog fP 33 [.ips [.ip N n,.ip Pl p,.ptr 1 1 0 0],.dat I k,.dat I o,.dat I d,.dat I f] [(1,.var [.dat R xs])] ⟨YQ n p k o d f xs,sO n p k o d f xs,dO 38 190⟩:=by
 refine zM (c:=c13) (A:=aGV) (q:=⟨YQ n p k o d f xs,sO n p k o d f xs,dO 38 190⟩) Zu aEs hm aBq (p:=let c1:=yj n p o d f xs;let c2:=sO n p k o d f xs;let L:=chainOf (Value.iface 38 (Value.int .i64 (190:Int)));let c4:=n.2.2.2.2.2;let G:=sx n p o d f xs;let X:=nT n d G;let c7:=Dw c4 (Dc k) (ByteArray.mk #[],(0:Int),(0:Int));let c8:=c7.2.2;let c9:=nk (ag n d) c8 X;let c10:=(ag n d).1;let j:=OQ (ag n d) c8 X;let h:=bf c10 f;let c13:=j-h;let c14:=Eh c13 2000;let A:=h+1;let c16:=(ag n d).2;let c17:=c16.1;let c18:=c16.2;let u:=dj c10 f;let c20:=PH n p o d f xs;let c21:=fu c17 c18 A j;let c22:=p.2.2.2;let c23:=Dw c22 (Dc k) (Du (Li));let c24:=Dw c23 (Dc o) [];let c25:=Dw c24 (Dc d) 0;true/\(YQ n p k o d f xs->1=1/\(true->MY n p o d f xs/\(c1=false->c2=false/\true/\L=L))/\((true->c1)->(MY n p o d f xs/\c1)/\1=1/\(usP n/\hC n d)/\0<=k/\k<Dh c4/\aBC n d G/\XN (ag n d) X/\(c9->0<=k/\k<Dh c4/\aBC n d G/\(XN (ag n d) X/\c9)/\(big c10/\big f)/\inR .i64 c13/\(true->True/\(c14=false->c2=false/\true/\L=L))/\((true->c14)->(True/\c14)/\L7 1 0 (inR .i64 A/\True/\wdP c17 c18 A j/\(∃x,TY x/\x=0/\L4 n p 1 0 0 k o d f (L4 G (ag n d) j h u 1 0 0 n (L4 p 1 0 0 o d f G n (L4 p 1 0 0 d (ag n d) (ag n d) n p (L4 1 0 0 n p 1 0 0 n (L4 p 1 0 0 n n c4 c4 k (L4 c7 c8 c8 n p 1 0 0 d (L4 G X j h u (ag n d) f h u (L4 h u j h c13 c14 (ag n d) h A (T6 j A j (ag n d) c20 (0=Ec x/\T5 1)))))))))))/\(∀(x:Nat),let c26:=Ec x+1;
  ∀(y:Int),TY x->oD c21 x y->L7 1 0 (inR .i64 c26/\L7 1 0 (∃z,TY z/\z=x+1/\L4 n p 1 0 0 k o d f (L4 G (ag n d) j h u 1 0 0 n (L4 p 1 0 0 o d f G n (L4 p 1 0 0 d (ag n d) (ag n d) n p (L4 1 0 0 n p 1 0 0 n (L4 p 1 0 0 n n c4 c4 k (L4 c7 c8 c8 n p 1 0 0 d (L4 G X j h u (ag n d) f h u (L4 h u j h c13 c14 (ag n d) h A (T6 j A j (ag n d) c20 (c26=Ec z/\T5 1)))))))))))))/\∀(x:Nat),TY x->x=Dl c21->L7 1 0 (0<=k/\k<Dh c22/\0<=o/\o<Dh c23/\0<=d/\d<Dh c24/\True/\(Eh (Ec x) c25->L7 1 0 (0<=k/\k<Dh c22/\0<=o/\o<Dh c23/\0<=d/\d<Dh c24/\(True/\Eh (Ec x) c25)/\c2/\k7 c20 1))/\(Eh (Ec x) c25=false->c2=false/\true/\L=L)))))/\(c9=false->c2=false/\true/\L=L)))) ⟨rfl,λhp=>?_⟩
 refine Z9 ?_;obtain⟨hf,X⟩:=id hp;obtain⟨⟨⟨hu,hpl⟩,ho,hd⟩,ht,hys⟩:=id hf;obtain⟨⟨p0,p1,p2⟩,⟨q1,q2⟩,q3,q4,q5⟩:=id hpl;obtain⟨ft,_⟩:=JI 19 hf;have hcl:=P6 hu X;have hc:=yz hu hd;obtain⟨⟨z1,z2⟩,hw,hs⟩:=ki hc;have hr:=YN (t:=sx n p o d f xs) hu hd;have ft:-3000000000<=sx n p o d f xs/\sx n p o d f xs<=3000000000:=ft;have ht2:-3000000000<=f/\f<=3000000000:=ht;have eK:n.2.2.2.2.2.getD k.toNat (⟨#[]⟩,0,0)=bz n k:=rfl;have eL:OQ (ag n d) (bz n k).2.2 (nT n d (sx n p o d f xs))=GN n p k o d f xs:=rfl;have eB:bf (ag n d).1 f=Pm n d f:=rfl;have eN:fu (ag n d).2.1 (ag n d).2.2 (Pm n d f+1) (GN n p k o d f xs)=RU n p k o d f xs:=rfl;have eY:((p.2.2.2.getD k.toNat []).getD o.toNat []).getD d.toNat 0=jq p k o d:=rfl;have eP:sO n p k o d f xs=(yj n p o d f xs&&(nk (ag n d) (bz n k).2.2 (nT n d (sx n p o d f xs))&&(decide (GN n p k o d f xs-Pm n d f<=2000)&&decide (((RU n p k o d f xs).length:Int)<=jq p k o d)))):=rfl;simp only[eK,eL,eB,eN,eY];have hrp:aBC n d (sx n p o d f xs):=⟨hu,hd,ft⟩;have hdp:XN (ag n d) (nT n d (sx n p o d f xs)):=⟨hc,⟨Z,Z⟩⟩;have hB:-10000000<=Pm n d f/\Pm n d f<=10000000:=by unfold Pm bf;omega
 refine⟨⟨hf,λh=>by rw[eP,h];rfl⟩,λh1=>⟨⟨hf,h1⟩,⟨hu,hd⟩,X.1,X.2,hrp,hdp,λh2=>⟨X.1,X.2,hrp,⟨hdp,h2⟩,⟨⟨Z,Z⟩,⟨Z,Z⟩⟩,?_⟩,λh=>by rw[eP,h1,h];rfl⟩⟩;have hD:=aAW h2;rw[eL]at hD;have hbg:bf (ag n d).1 (nT n d (sx n p o d f xs))<=Pj (ag n d) (bz n k).2.2 (nT n d (sx n p o d f xs))/\Pj (ag n d) (bz n k).2.2 (nT n d (sx n p o d f xs))<=bf (ag n d).1 (nT n d (sx n p o d f xs))+1:=by unfold Pj;split<;>omega
 have hbd:-10000000<=bf (ag n d).1 (nT n d (sx n p o d f xs))/\bf (ag n d).1 (nT n d (sx n p o d f xs))<=10000000:=by unfold bf;omega
 refine⟨aA Z,λh=>by rw[eP,h1,h2,qV h];rfl,λh3=>⟨h3,aA Z,⟨hw,hs,⟨Z,Z⟩,⟨Z,Z⟩⟩,⟨0,wE _,rfl,rfl⟩,λx y hx hy=>?_,λx hx hlen=>?_⟩⟩;have hlt:x<(RU n p k o d f xs).length:=(qE.1 hy).1;have:=aBP (ag n d).2.1 (ag n d).2.2 (Pm n d f+1) (GN n p k o d f xs);rw[eN]at this;exact⟨aA Z,x+1,by show x+1<=4000000000000;omega,rfl,Z⟩;have hk':=X.1;have hk2:=X.2;have ho1:=ho.1;have ho2:=ho.2;have hd1:=hd.1;have hd2:=hd.2;obtain⟨w1,w2⟩:=q5 _ (aN (l:=p.2.2.2) (i:=k.toNat) (d:=[]) Z);have w3:=w2 _ (aN (l:=p.2.2.2.getD k.toNat []) (i:=o.toNat) (d:=[]) Z);refine⟨hk',Z,ho1,Z,hd1,Z,λh=>⟨hk',Z,ho1,Z,hd1,Z,h,?_⟩,λh=>?_⟩;rw[eP,h1,h2,qP h3,qP Z];rfl;rw[eP,h1,h2,qP h3,qV Z];rfl
def pq(c:Li×Int):Plan:=if fH c then ai c.1 else(0,0,[],[])
def FP(c:Li×Int):Int:=if fH c then 0 else sQ c
def cellsD(p:Plan)(k o:Int):Li:=(p.2.2.2.getD k.toNat []).getD o.toNat []
def dJ(p:Plan)(k:Int):Lj:=p.2.2.2.getD k.toNat []
def runN(f:Nat->Li->Option (Li)):Nat->Li->Option (Li)|0,x=>some x|m+1,x=>(runN f m x).bind (f m)
def uJ(n:Net)(p:Plan)(k o d:Int)(j:Nat)(xs:Li):Option (Li):=if sO n p k o d ((jd n p k o).getD j 0) xs=true then some (PH n p o d ((jd n p k o).getD j 0) xs)else none
def xf(n:Net)(p:Plan)(k o d:Int)(xs:Li):Option (Li):=if jq p k o d=-1 then some xs else runN (uJ n p k o d) (jd n p k o).length xs
def YI(n:Net)(p:Plan)(k o:Int)(xs:Li):Option (Li):=runN (λd=>xf n p k o (d:Int)) (cellsD p k o).length xs
def aBZ(n:Net)(p:Plan)(k:Int)(xs:Li):Option (Li):=runN (λo=>YI n p k (o:Int)) (dJ p k).length xs
def st1(n:Net)(p:Plan)(l:Li)(k:Int):Option (Li):=runN (λk=>aBZ n p (k:Int)) k.toNat l
def st2(n:Net)(p:Plan)(l:Li)(k o:Int):Option (Li):=(st1 n p l k).bind (runN (λo=>YI n p k (o:Int)) o.toNat)
def st3(n:Net)(p:Plan)(l:Li)(k o d:Int):Option (Li):=(st2 n p l k o).bind (runN (λd=>xf n p k o (d:Int)) d.toNat)
def st4(n:Net)(p:Plan)(l:Li)(k o d:Int)(j:Nat):Option (Li):=(st3 n p l k o d).bind (runN (uJ n p k o d) j)
def xy(n:Net)(p:Plan)(l:Li):Option (Li):=st1 n p l p.2.2.2.length
def to1(n:Net)(p:Plan)(l:Li)(k:Int)(xs:Li):Prop:=(0<=k/\k<=p.2.2.2.length)/\st1 n p l k=some xs/\dz xs
def to2(n:Net)(p:Plan)(l:Li)(k o:Int)(xs:Li):Prop:=((0<=k/\k<p.2.2.2.length)/\0<=o/\o<=(dJ p k).length)/\st2 n p l k o=some xs/\dz xs
def to3(n:Net)(p:Plan)(l:Li)(k o d:Int)(xs:Li):Prop:=((0<=k/\k<p.2.2.2.length)/\(0<=o/\o<(dJ p k).length)/\0<=d/\d<=(cellsD p k o).length)/\st3 n p l k o d=some xs/\dz xs
def to4(n:Net)(p:Plan)(l:Li)(k o d j:Int)(xs:Li):Prop:=0<=j/\st4 n p l k o d j.toNat=some xs/\dz xs
def EI(l:Li):Bool:=decide (l.length<=40000)
def mj(n:Net)(l:Li):Bool:=JJ n (ai l)&&EI l
def KQ(n:Net)(l:Li):Int:=if xy n (ai l) (bU l)=some []then 0 else 190
def iH(n:Net)(l:Li)(s:Int):Int:=if fH (l,s)=true then if usF n=true then if mj n l=true then KQ n l else 190 else 1 else sQ (l,s)
def aAj(args:List AV)(m:Mem):Option lA:=match args,m with|[.agg [.dat (.sl (.int .i64)) l,.dat (.int .i64) s]],[]=>some ⟨ye (l,s)/\fH (l,s)=true,.tup [.agg [.dat I (ai l).1,.dat I (ai l).2.1,.dat M (ai l).2.2.1,.dat (.sl M) (ai l).2.2.2],.ptr 1 1 0 0],[(1,.var [.dat R (bU l)])]⟩|_,_=>none
def Pz:Kt:=kOr 28 aAj <|
 kOr 30 SE <|
 kOr 31 MC <|
 kOr 33 (YV 1 R [.pv 1 N Pl,.val I,.val I,.val I,.val I] (λ((n,p),k,o,d,f,_) h=>YQ n p k o d f h/\sO n p k o d f h=true) (λ_ _=>.tup []) λ((n,p),k,o,d,f,_) h=>PH n p o d f h) aBu
def aGh:KPt:=pOr 28 (Ia [.row Ce] λ(c,_)=>⟨ye c,fH c,dO 38 (sQ c)⟩) <|
 pOr 33 (aAo 1 R [.pv 1 N Pl,.val I,.val I,.val I,.val I] λ((n,p),k,o,d,f,_) h=>⟨YQ n p k o d f h,sO n p k o d f h,dO 38 190⟩) KPr
def KI2:FuncId->List AV->Option iJ:=λf h=>if f=85 then match ofK [.pvb N Pl,.ptr I,.ptr I] h with
 |some ((n,p),o,k,_)=>some ⟨aEf n p k o,I,jd n p k o⟩|none=>none
 else KI1 f h
def c14:Cfg:=Og Pz (λ_=>false) aGh (λf=>f==29||f==28)
def c15:Cfg:=aAn Pz KI2 aGh (λf=>f==29||f==28||f==33)
def keep(s:St)(x:Li):St:={fY s with mem:=uX (s.mem.filter λb=>b.1<=2) 1 (.var [.dat R x])}
def aHa(n:Net)(l:Li):Ann:=⟨λf s=>match f with
 |7=>some {α:=Int×Li,inv:=λx=>to1 n (ai l) (bU l) x.1 x.2,st:=λx=>nU (put (fY s) [(37,.dat I x.1)]) 1 (.var [.dat R x.2]),μ:=λx=>Dc (Dk (Dh (ai l).2.2.2) x.1)}|10=>match s.sig.T 39 with
  |.dat (.int .i64) k=>some {α:=Int×Li,inv:=λx=>to2 n (ai l) (bU l) k x.1 x.2,st:=λx=>nU (put (fY s) [(44,.dat I x.1)]) 1 (.var [.dat R x.2]),μ:=λx=>Dc (Dk (Dh (dJ (ai l) k)) x.1)}|_=>none
 |13=>match s.sig.T 39,s.sig.T 46 with
  |.dat (.int .i64) k,.dat (.int .i64) o=>some {α:=Int×Li,inv:=λx=>to3 n (ai l) (bU l) k o x.1 x.2,st:=λx=>nU (put (fY s) [(51,.dat I x.1)]) 1 (.var [.dat R x.2]),μ:=λx=>Dc (Dk (Dh (cellsD (ai l) k o)) x.1)}|_,_=>none
 |17=>match s.sig.T 39,s.sig.T 46,s.sig.T 53 with
  |.dat (.int .i64) k,.dat (.int .i64) o,.dat (.int .i64) d=>some {α:=Int×Li,inv:=λx=>to4 n (ai l) (bU l) k o d x.1 x.2,st:=λx=>nU (fY s) 1 (.var [.dat R x.2]),μ:=λx=>Dc x.1}|_,_,_=>none
 |_=>none,λf s=>match f with
 |3=>some (put {s with mem:=s.mem.filter λb=>b.1 != 2} [(5,.ip Pl (ai l))])
 |_=>none,λ_ _=>none⟩
theorem Ww:∀args m c,aAj args m=some c->aj Tryz.prog fP 28 args m c:=by
 intro args m c h;unfold aAj at h;split at h;cases h;exact(YA _ _).1;cases h
theorem A8:ay Tryz.prog fP Pz:=ah Ww<|ah aGR<|ah aE8<|ah (qy λ((n,p),k,o,d,f,_) h=>(Qo n p k o d f h).1) Zu
theorem UJ:bI Tryz.prog fP aGh:=lT (mX λ(c,_)=>(YA c.2 c.1).2)<|lT (uY λ((n,p),k,o,d,f,_) h=>(Qo n p k o d f h).2) NC
theorem aHi:aR Tryz.prog fP KI2:=by
 intro f j u h;unfold KI2 at h;split at h;rename_i e;subst e;split at h;rename_i n p o k _ y;cases h;exact lI.args (aCg n p k o) λC A z=>ie y z;cases h;exact aEs f j u h
theorem aCj(s:Int)(l:Li):aj Tryz.prog fP 11 [.agg [.dat R l,.dat I s]] [] ⟨Ai l,.tup [.agg [.dat I (pq (l,s)).1,.dat I (pq (l,s)).2.1,.dat M (pq (l,s)).2.2.1,.dat (.sl M) (pq (l,s)).2.2.2],.dat I (FP (l,s))],[]⟩:=by
 refine zR (c:={c14 with rng:=true}) (Kz:=Pz) (A0:=aE) (A:=aE) (Ac:=aE) A8 A8 sJ hm UJ (p:=let j:=(l,s);let G:=fH j;let c3:=pq j;let z:=c3.1;let X:=c3.2;let h:=X.1;let L:=X.2;let y:=L.1;let A:=L.2;let f:=FP j;let u:=(ai l).2;let c12:=u.2;(true/\true)/\(Ai l->true/\(true->ye j/\(G=false->true/\true/\(Di false->True/\z8 1 0 1 0 1 0 1 0 (0=z/\0=h/\y=Du (Li)/\A=Du (List (List Int))/\sQ j=f/\True))/\(Di false=false->T4 1 0 1 0 (0=z/\0=h/\y=Du (Li)/\A=Du (Lj)/\0=f/\True))))/\((true->G)->(ye j/\G)/\z8 1 0 1 0 1 0 1 0 (true/\true/\(Di true->False)/\(Di true=false->T4 1 0 1 0 ((ai l).1=z/\u.1=h/\c12.1=y/\c12.2=A/\0=f/\True)))))) ⟨⟨rfl,rfl⟩,λL=>?_⟩;refine Z9 ?_;refine⟨⟨L,λh=>?_⟩,λh=>⟨⟨L,h⟩,?_⟩⟩;unfold pq FP;rw[h];exact⟨⟨rfl,rfl,rfl,rfl,rfl⟩,λh=>by cases h⟩;unfold pq FP;rw[h];exact⟨λh=>(by cases h),⟨rfl,rfl,rfl,rfl,rfl⟩⟩
end Go.Eng.In
set_option maxHeartbeats 4000000
namespace Go.Eng.In
open Go.Proofs
theorem mL{l:Li}(j:dz l)(h:ni l=true):(0<=l.getD 2 0/\l.getD 2 0<=12)/\(0<=l.getD 3 0/\l.getD 3 0<=4)/\0<=l.getD 0 0/\l.getD 0 0<l.getD 1 0/\l.getD 1 0<=600:=by
 have f:∀k:Nat,0<=l.getD k 0:=λk=>by
  by_cases u:k<l.length;exact(dI.1 j.1 _ (aN u)).1;rw[qA,zG Z];exact qL _
 unfold ni uG at h;simp only[qC,qF]at h;exact⟨⟨f 2,h.1.2.1⟩,⟨f 3,h.1.2.2.1⟩,f 0,h.1.2.2.2.1,h.1.2.2.2.2.2⟩
theorem qb(g:Int->Int->Int)(n:Int):(iT g n).length=n.toNat:=by unfold iT;simp
theorem mB{g:Int->Int->Int}{n:Int}{r:Li}(h:r∈iT g n):r.length=n.toNat/\∀x∈r,∃i j,x=g i j:=by
 unfold iT at h;obtain⟨i,_,rfl⟩:=vU.1 h;refine⟨by simp,λx f=>?_⟩;obtain⟨j,_,rfl⟩:=vU.1 f;exact⟨_,_,rfl⟩
theorem X7{g:Int->Int->Int}{n i j:Int}(h:0<=i/\i<n)(f:0<=j/\j<n):((iT g n).getD i.toNat []).getD j.toNat 0=g i j:=by
 unfold iT;have y:i.toNat<n.toNat:=Z;have u:j.toNat<n.toNat:=Z;have e:((List.range n.toNat).map λi:Nat=>(List.range n.toNat).map λj:Nat=>g i j).getD i.toNat []=(List.range n.toNat).map λj:Nat=>g (i.toNat:Nat) j:=by
  rw[qA,qQ,zH y];rfl
 rw[e,qA,qQ,zH u,vX h.1];show g i (j.toNat:Nat)=_;rw[vX f.1]
theorem aBW{l:Li}(f:dz l)(m i j:Int): -1<=tg l m i j:=by
 unfold tg;have:0<=l.getD (i*m+j).toNat 0:=by
  by_cases h:(i*m+j).toNat<l.length;exact(dI.1 f.1 _ (aN h)).1;rw[qA,zG Z];exact qL _
 omega
theorem Ku{q m:Int}{l:Li}{t:Lj}(h:t∈t8 q m l):∃k,t=nB m (bN l k):=by
 unfold t8 at h;obtain⟨i,_,rfl⟩:=vU.1 h;exact⟨_,rfl⟩
theorem Kv(q m:Int)(l:Li):(t8 q m l).length=q.toNat:=by unfold t8;simp
theorem aAf{l:Li}(f:dz l)(h:ni l=true):WJ (ai l):=by
 obtain⟨⟨G,A⟩,_⟩:=mL f h;refine⟨?_,λr y=>?_⟩;show(iT _ _).length<=_;rw[qb];omega;obtain⟨L,z⟩:=mB y;refine⟨Z,λx u=>?_⟩;obtain⟨i,j,rfl⟩:=z x u;exact aBW (fA f 4) _ _ _
theorem BH{n:Net}{l:Li}(G:dz l)(h:ni l=true)(z:JJ n (ai l)=true):plP n (ai l):=by
 obtain⟨⟨m0,m1⟩,⟨q0,q1⟩,a0,a1,a2⟩:=mL G h;unfold JJ at z;simp only[qC,qF,qU,wG]at z;obtain⟨⟨f1,f2⟩,f3⟩:=z;have e1:(ai l).2.2.1.length=(l.getD 2 0).toNat:=qb _ _;have e2:(ai l).2.2.2.length=(l.getD 3 0).toNat:=Kv _ _ _;refine⟨⟨a0,by show l.getD 0 0<=l.getD 1 0;omega,a2⟩,⟨f1,λr f=>?_⟩,λi j hi hj=>?_,f2,λt X=>?_⟩;have h1:=(mB f).1;omega;obtain⟨A,i1⟩:=hi;obtain⟨L,j1⟩:=hj;have y:i<l.getD 2 0:=Z;have u:j<l.getD 2 0:=Z;have ec:cellAt (ai l) i j=tg (bN l 4) (l.getD 2 0) i j:=X7 ⟨A,y⟩ ⟨L,u⟩;have:=f3 i.toNat Z;unfold nS at this;rw[qU,vX A]at this;have f:=(mB (g:=tg (bN l 4) (l.getD 2 0)) (n:=l.getD 2 0) (r:=(ai l).2.2.1.getD i.toNat []) (aN (by omega:i.toNat<(ai l).2.2.1.length))).1;refine⟨this _ (aN Z),?_⟩;rw[ec];exact aBW (fA G 4) _ _ _;obtain⟨k,rfl⟩:=Ku X;have e:(nB (l.getD 2 0) (bN (bN l (4+l.getD 2 0*l.getD 2 0)) k)).length=(l.getD 2 0).toNat:=qb _ _;refine⟨Z,λr f=>?_⟩;have:=(mB f).1;omega
theorem oY{f:Nat->Li->Option (Li)}{m:Nat}{x:Li}(h:runN f m x=none):∀{k:Nat},m<=k->runN f k x=none:=by
 intro k u;induction u with
 |refl=>exact h|step _ j=>rw[runN,j];rfl
theorem ng{α:Type}(x:Option α):(x.bind λy=>some y)=x:=by cases x<;>rfl
theorem bind_none{α:Type}{x:Option α}{f g:α->Option α}(h:x.bind f=none)(j:∀y,f y=none->g y=none):x.bind g=none:=by
 cases x with
 |none=>rfl|some y=>exact j y h
section
variable {n:Net}{p:Plan}{l:Li}{k o d:Int}
theorem VD:st2 n p l k 0=st1 n p l k:=ng _
theorem VA:st3 n p l k o 0=st2 n p l k o:=ng _
theorem Vx:st4 n p l k o d 0=st3 n p l k o d:=ng _
theorem KH(f:0<=k):st1 n p l (k+1)=st2 n p l k (dJ p k).length:=by
 unfold st2;rw[zJ];show runN _ (k+1).toNat l=_;rw[show(k+1).toNat=k.toNat+1 by omega,runN,vX f];rfl
theorem KG(f:0<=o):st2 n p l k (o+1)=st3 n p l k o (cellsD p k o).length:=by
 unfold st3 st2;rw[zJ,show(o+1).toNat=o.toNat+1 by omega,qCi];congr 1;funext x;rw[runN,vX f];rfl
theorem VB(j:0<=d)(h:jq p k o d=-1):st3 n p l k o (d+1)=st3 n p l k o d:=by
 unfold st3;rw[show(d+1).toNat=d.toNat+1 by omega];congr 1;funext x;rw[runN,vX j,show xf n p k o d=λf=>some f from funext λf=>if_pos h];exact ng _
theorem KF(j:0<=d)(h:jq p k o d≠-1):st3 n p l k o (d+1)=st4 n p l k o d (jd n p k o).length:=by
 unfold st4 st3;rw[show(d+1).toNat=d.toNat+1 by omega,qCi];congr 1;funext x;rw[runN,vX j,show xf n p k o d=λf=>runN (uJ n p k o d) (jd n p k o).length f from funext λf=>if_neg h]
theorem Vy(j:Nat):st4 n p l k o d (j+1)=(st4 n p l k o d j).bind (uJ n p k o d j):=by
 unfold st4;rw[qCi];rfl
theorem VF{f:Int}(h:st1 n p l k=none)(j:k<=f):st1 n p l f=none:=oY h Z
theorem VE{o':Int}(h:st2 n p l k o=none)(j:o<=o'):st2 n p l k o'=none:=bind_none h λy f=>oY f Z
theorem VC{d':Int}(h:st3 n p l k o d=none)(j:d<=d'):st3 n p l k o d'=none:=bind_none h λy f=>oY f Z
theorem Vz{j f:Nat}(h:st4 n p l k o d j=none)(z:j<=f):st4 n p l k o d f=none:=bind_none h λy u=>oY u z
theorem gH{j:Nat}(h:st4 n p l k o d j=none)(G:j<=(jd n p k o).length)(hd:jq p k o d≠-1)(L:0<=d)(d1:d<(cellsD p k o).length)(z:0<=o)(X:o<(dJ p k).length)(A:0<=k)(k1:k<p.2.2.2.length):xy n p l=none:=by
 have y:=Vz h G;rw[<- KF L hd]at y;have u:=VC y (d':=(cellsD p k o).length) Z;rw[<- KG z]at u;have f:=VE u (o':=(dJ p k).length) Z;rw[<- KH A]at f;exact VF f Z
end
theorem gF(s:Int)(l:Li)(cs:List Cal)(ns ps:List ByteArray)(os:List Off)(ls:List Line)(ks:List Cla):aj Tryz.prog fP 10 [.agg [.dat (.sl C) cs,.dat (.sl S) ns,.dat (.sl S) ps,.dat (.sl Of) os,.dat (.sl Ln) ls,.dat (.sl Kl) ks],.agg [.dat R l,.dat I s]] [] ⟨Ai l/\Ab (cs,ns,ps,os,ls,ks),.dat I (iH (cs,ns,ps,os,ls,ks) l s),[]⟩:=by
 refine zR (c:=c15) (Kz:=Pz) (A0:=aE) (A:=(aHa (cs,ns,ps,os,ls,ks) l)) (Ac:=aE) A8 A8 aHi hm UJ (p:=let L:=(cs,ns,ps,os,ls,ks);let c2:=(l,s);let c3:=fH c2;let c4:=iH L l s;let c5:=(ai l).1;let c6:=(ai l).2;let h:=c6.1;let c8:=c6.2;let j:=c8.1;let f:=c8.2;let c11:=usF L;let A:=JJ L (ai l);let c13:=Dz A (Eh (Dh l) 40000) false;let c14:=Dh f;(true/\true)/\(Ai l/\Ab L->true/\(true->ye c2/\(c3=false->true/\true/\(Di false->True/\T4 1 0 1 0 (sQ c2=c4/\True))/\(Di false=false->L7 1 0 (0=c4/\True))))/\((true->c3)->(ye c2/\c3)/\L4 1 0 cs ns ps os ls ks l (z8 s L c2 1 0 0 1 0 ((c5,h,j,f)=ai l/\L4 1 0 0 undef undef undef undef undef undef (L4 undef undef 1 0 0 c5 h j f (L4 1 0 0 l s c5 h j f (L4 1 0 0 c5 h j f 1 0 (L4 0 undef undef undef undef undef undef undef undef (L4 undef undef undef undef undef undef undef undef undef (L4 undef undef undef undef undef undef undef undef undef (L4 undef undef undef undef undef undef undef undef undef (L4 undef undef undef undef undef undef undef undef undef (L4 undef undef undef undef undef undef undef undef undef (L4 undef undef undef undef undef V6 (bU l) 1 0 (0=0/\Ab L/\(true->True/\(c11=false->true/\true/\(Di false->True/\T4 1 0 1 0 (1=c4/\True))/\(Di false=false->L7 1 0 (0=c4/\True))))/\((true->c11)->(True/\c11)/\(Ab L/\WJ (ai l))/\(A->A->A)/\(A->A->A)/\(A->A->A)/\(Dj true A->A)/\(true->True/\(c13=false->true/\true/\(Di false->True/\T4 1 0 1 0 (190=c4/\True))/\(Di false=false->L7 1 0 (0=c4/\True))))/\((true->c13)->(True/\c13)/\T4 1 1 1 0 ((∃(x:Int×Li),let c15:=x.1;let c16:=x.2;
  to1 L (ai l) (bU l) c15 c16/\L4 cs ns ps os ls ks l s L (L4 c2 1 0 0 (ai l) 1 0 0 1 (L4 0 0 1 0 0 c5 h j f (L4 1 0 0 l s c5 h j f (L4 1 0 0 c5 h j f 1 0 (L4 0 c11 A A c13 1 0 0 L (L4 (ai l) 1 0 0 L (ai l) 1 0 0 (Q3 f f c14 (0=c15/\(0:Int)=(0:Int)/\bU l=c16/\f8q L (ai l) 1 0 0 1 0 0)))))))))/\∀(x:Int×Li),let u:=x.1;let c18:=x.2;let c19:=Dn u c14;let X:=Dw f (Dc u) (Du (Li));let c21:=Dh X;let c22:=Dh (dJ (ai l) u);let c23:=u+1;let c24:=Ee (Dh c18) 0;to1 L (ai l) (bU l) u c18->(c19->0<=u/\u<c14/\L7 1 0 ((∃(xa:Int×Li),let c25:=xa.1;let c26:=xa.2;to2 L (ai l) (bU l) u c25 c26/\L4 cs ns ps os ls ks l s L (L4 c2 1 0 0 (ai l) 1 0 0 1 (L4 0 0 1 0 0 X 1 0 0 (L4 c5 h j f 1 0 0 l s (L4 c5 h j f 1 0 0 c5 h (L4 j f 1 0 0 c11 A A c13 (L4 1 0 0 L (ai l) 1 0 0 L (L4 (ai l) 1 0 0 f f c14 u c19 (T6 u X X X c21 (0=c25/\(0:Int)=(0:Int)/\c18=c26/\f9q L (ai l) 1 0 0 u 1 0 0))))))))))/\∀(xb:Int×Li),let G:=xb.1;let c28:=xb.2;let c29:=Dn G c21;let c30:=Dw X (Dc G) [];let c31:=Dh c30;let c32:=Dh (cellsD (ai l) u G);let c33:=jd L (ai l) u G;let c34:=G+1;to2 L (ai l) (bU l) u G c28->(c29->0<=G/\G<c21/\L7 1 0 ((∃(xba:Int×List Int),let c35:=xba.1;let c36:=xba.2;
  to3 L (ai l) (bU l) u G c35 c36/\L4 cs ns ps os ls ks l s L (L4 c2 1 0 0 (ai l) 1 0 0 1 (L4 0 0 1 0 0 X 1 0 0 (L4 c30 1 0 0 c5 h j f 1 (L4 0 0 l s c5 h j f 1 (L4 0 0 c5 h j f 1 0 0 (L4 c11 A A c13 1 0 0 L (ai l) (L4 1 0 0 L (ai l) 1 0 0 f (L4 f c14 u c19 u X X X c21 (T7 G c29 G c30 c30 c30 c31 (0=c35/\(0:Int)=(0:Int)/\c28=c36/\L4 L (ai l) 1 0 0 u G 1 0 (T5 0))))))))))))/\∀(xbb:Int×Li),let c37:=xbb.1;let c38:=xbb.2;let c39:=Dn c37 c31;let c40:=Dw c30 (Dc c37) 0;let c41:=Ee c40 (-1);let c42:=c37+1;to3 L (ai l) (bU l) u G c37 c38->(c39->0<=c37/\c37<c31/\L7 1 0 ((c41->inR .i64 c42/\∃(y:Int×Li),let c43:=y.1;let c44:=y.2;to3 L (ai l) (bU l) u G c43 c44/\(L4 cs ns ps os ls ks l s L (L4 c2 1 0 0 (ai l) 1 0 0 1 (L4 0 0 1 0 0 X 1 0 0 (L4 c30 1 0 0 c5 h j f 1 (L4 0 0 l s c5 h j f 1 (L4 0 0 c5 h j f 1 0 0 (L4 c11 A A c13 1 0 0 L (ai l) (L4 1 0 0 L (ai l) 1 0 0 f (L4 f c14 u c19 u X X X c21 (T7 G c29 G c30 c30 c30 c31 (c42=c43/\(0:Int)=(0:Int)/\c38=c44/\L4 L (ai l) 1 0 0 u G 1 0 (T5 0))))))))))))/\Dc (c32-c43)<Dc (c32-c37))/\(c41=false->w6 1 0 1 0 1 0 (True/\aEf L (ai l) u G/\(∃(xbba:Int×Li),let c45:=xbba.1;let c46:=xbba.2;
  to4 L (ai l) (bU l) u G c37 c45 c46/\Dc c45=0/\L4 cs ns ps os ls ks l s L (L4 c2 1 0 0 (ai l) 1 0 0 1 (L4 0 0 1 0 0 X 1 0 0 (L4 c30 1 0 0 c40 1 0 0 c5 (L4 h j f 1 0 0 l s c5 (L4 h j f 1 0 0 c5 h j (L4 f 1 0 0 c11 A A c13 1 (L4 0 0 L (ai l) 1 0 0 L (ai l) (L4 1 0 0 f f c14 u c19 u (L4 X X X c21 G c29 G c30 c30 (L4 c30 c31 c37 c39 c37 c40 c40 c40 c41 (L4 L (ai l) 1 0 0 u G L (ai l) (Q3 G u V6 (c38=c46/\L4 L (ai l) 1 0 0 u G c37 1 (k7 0 0)))))))))))))))/\(∀(xbbb:Int×Li),let c47:=xbbb.1;let c48:=xbbb.2;let c49:=Dc c47;∀(y:Int),let c50:=sO L (ai l) u G c37 y c48;to4 L (ai l) (bU l) u G c37 c47 c48->oD c33 c49 y->z8 1 0 1 0 1 0 1 0 ((true->YQ L (ai l) u G c37 y c48/\(c50=false->true/\true/\(Di false->True/\T4 1 0 1 0 (190=c4/\True))/\(Di false=false->L7 1 0 (0=c4/\True))))/\((true->c50)->(YQ L (ai l) u G c37 y c48/\c50)/\1=1/\∃(z:Int×Li),let c51:=z.1;let c52:=z.2;
  to4 L (ai l) (bU l) u G c37 c51 c52/\Dc c51=c49+1/\L4 cs ns ps os ls ks l s L (L4 c2 1 0 0 (ai l) 1 0 0 1 (L4 0 0 1 0 0 X 1 0 0 (L4 c30 1 0 0 c40 1 0 0 c5 (L4 h j f 1 0 0 l s c5 (L4 h j f 1 0 0 c5 h j (L4 f 1 0 0 c11 A A c13 1 (L4 0 0 L (ai l) 1 0 0 L (ai l) (L4 1 0 0 f f c14 u c19 u (L4 X X X c21 G c29 G c30 c30 (L4 c30 c31 c37 c39 c37 c40 c40 c40 c41 (L4 L (ai l) 1 0 0 u G L (ai l) (Q3 G u V6 (PH L (ai l) G c37 y c48=c52/\L4 L (ai l) 1 0 0 u G c37 1 (k7 0 0)))))))))))))))))/\∀(xbbc:Int×List Int),let c53:=xbbc.1;let c54:=xbbc.2;to4 L (ai l) (bU l) u G c37 c53 c54->Dc c53=Dl c33->inR .i64 c42/\∃(y:Int×Li),let c55:=y.1;let c56:=y.2;to3 L (ai l) (bU l) u G c55 c56/\(L4 cs ns ps os ls ks l s L (L4 c2 1 0 0 (ai l) 1 0 0 1 (L4 0 0 1 0 0 X 1 0 0 (L4 c30 1 0 0 c5 h j f 1 (L4 0 0 l s c5 h j f 1 (L4 0 0 c5 h j f 1 0 0 (L4 c11 A A c13 1 0 0 L (ai l) (L4 1 0 0 L (ai l) 1 0 0 f (L4 f c14 u c19 u X X X c21 (T7 G c29 G c30 c30 c30 c31 (c42=c55/\(0:Int)=(0:Int)/\c54=c56/\L4 L (ai l) 1 0 0 u G 1 0 (T5 0))))))))))))/\Dc (c32-c55)<Dc (c32-c37)))))/\(c39=false->inR .i64 c34/\∃(y:Int×Li),let c57:=y.1;let c58:=y.2;
  to2 L (ai l) (bU l) u c57 c58/\(L4 cs ns ps os ls ks l s L (L4 c2 1 0 0 (ai l) 1 0 0 1 (L4 0 0 1 0 0 X 1 0 0 (L4 c5 h j f 1 0 0 l s (L4 c5 h j f 1 0 0 c5 h (L4 j f 1 0 0 c11 A A c13 (L4 1 0 0 L (ai l) 1 0 0 L (L4 (ai l) 1 0 0 f f c14 u c19 (T6 u X X X c21 (c34=c57/\(0:Int)=(0:Int)/\c38=c58/\f9q L (ai l) 1 0 0 u 1 0 0))))))))))/\Dc (c22-c57)<Dc (c22-G))))/\(c29=false->inR .i64 c23/\∃(y:Int×Li),let c59:=y.1;let c60:=y.2;to1 L (ai l) (bU l) c59 c60/\(L4 cs ns ps os ls ks l s L (L4 c2 1 0 0 (ai l) 1 0 0 1 (L4 0 0 1 0 0 c5 h j f (L4 1 0 0 l s c5 h j f (L4 1 0 0 c5 h j f 1 0 (L4 0 c11 A A c13 1 0 0 L (L4 (ai l) 1 0 0 L (ai l) 1 0 0 (Q3 f f c14 (c23=c59/\(0:Int)=(0:Int)/\c28=c60/\f8q L (ai l) 1 0 0 1 0 0)))))))))/\Dc (c14-c59)<Dc (c14-u))))/\(c19=false->T4 1 1 1 0 ((true->True/\(c24=false->true/\true/\(Di false->True/\T4 1 0 1 0 (190=c4/\True))/\(Di false=false->L7 1 0 (0=c4/\True))))/\((true->c24)->(True/\c24)/\L7 1 0 (true/\true/\(Di true->False)/\(Di true=false->L7 1 0 (0=c4/\True))))))))))))))))))))))))) ⟨⟨rfl,rfl⟩,λhp=>?_⟩
 refine Z9 ?_;obtain⟨hl,hn⟩:=hp;generalize (cs,ns,ps,os,ls,ks)=n at hn ⊢;have two:∀{p q:Prop},p->(p/\(false=true->q)):=λh=>⟨h,λh=>by cases h⟩;have eF:iH n l s=if fH (l,s)=true then if usF n=true then if mj n l=true then KQ n l else 190 else 1 else sQ (l,s):=rfl;refine⟨⟨hl,λh=>two (by rw[eF,if_neg (by rw[h];exact Bool.noConfusion)])⟩,λh1=>⟨⟨hl,h1⟩,hn,λh=>two (by rw[eF,if_pos h1,if_neg (by rw[h];exact Bool.noConfusion)]),λh2=>?_⟩⟩;have hs:dq l s=true/\ni l=true:=by
  unfold fH at h1;rwa [qC]at h1
 have hnum:dz l:=⟨by have:=hs.1;unfold dq at this;rw[qC]at this;exact this.1,hl⟩;have hnx:=aAf hnum hs.2;refine⟨h2,⟨hn,hnx⟩,λh=>two ?_,λh3=>⟨h3,?_⟩⟩;have:mj n l=false:=by
  unfold mj EI;cases e:JJ n (ai l)with
  |false=>rfl|true=>rw[qV (by have:=h e;omega)];rfl
 rw[eF,if_pos h1,if_pos h2,if_neg (by rw[this];exact Bool.noConfusion)];have hfa:mj n l=true:=by
  unfold mj EI;rw[h3.1,qP (by have:=h3.2;omega)];rfl
 have hpl:=BH hnum hs.2 h3.1;have eC:iH n l s=if xy n (ai l) (bU l)=some []then 0 else 190:=by rw[eF,if_pos h1,if_pos h2,if_pos hfa];rfl
 have hrest:dz (bU l):=fA hnum _;obtain⟨p,ep⟩:∃p,p=ai l:=⟨_,rfl⟩;obtain⟨r,er⟩:∃r,r=bU l:=⟨_,rfl⟩;rw[<- ep]at hpl;rw[<- er]at hrest;rw[eC];rw[<- ep,<- er];clear eC eF hnx hfa h3 hs h1;obtain⟨⟨p0,p1,p2⟩,⟨q1,q2⟩,q3,q4,q5⟩:=id hpl;have eRow:∀k:Int,p.2.2.2.getD k.toNat []=dJ p k:=λ_=>rfl;have eCel:∀k o:Int,(dJ p k).getD o.toNat []=cellsD p k o:=λ_ _=>rfl;have eDay:∀k o d:Int,(cellsD p k o).getD d.toNat 0=jq p k o d:=λ_ _ _=>rfl;simp only[eRow,eCel,eDay];have hu:usP n:=⟨h2,hn⟩;have hno:n.2.2.2.1.length<=2000000000000000:=hn.1.1.2;have hnk:n.2.2.2.2.2.length<=2000000000000000:=hn.2;refine⟨⟨(0,r),⟨⟨qL _,qR _⟩,rfl,hrest⟩,rfl,rfl⟩,λ⟨k,xs⟩ ⟨⟨k0,k1⟩,kx,kn⟩=>⟨λhk=>?_,λhk=>?_⟩⟩;have hk:k<p.2.2.2.length:=hk;have hrw:(dJ p k).length=n.2.2.2.1.length/\∀r∈dJ p k,r.length=n.2.2.2.1.length:=q5 _ (aN Z);refine⟨k0,hk,⟨(0,xs),⟨⟨⟨k0,hk⟩,qL _,qR _⟩,by rw[VD];exact kx,kn⟩,rfl,rfl⟩,λ⟨o,ys⟩ ⟨⟨_,o0,o1⟩,ox,on⟩=>⟨λho=>?_,λho=>?_⟩⟩;have ho:o<(dJ p k).length:=ho;have hcl:(cellsD p k o).length=n.2.2.2.1.length:=hrw.2 _ (aN Z);refine⟨o0,ho,⟨(0,ys),⟨⟨⟨k0,hk⟩,⟨o0,ho⟩,qL _,qR _⟩,by rw[VA];exact ox,on⟩,rfl,rfl⟩,λ⟨d,zs⟩ ⟨⟨_,_,d0,d1⟩,dx,dn⟩=>⟨λhd=>?_,λhd=>?_⟩⟩;have hd:d<(cellsD p k o).length:=hd;have d0:0<=d:=d0;have offO:hC n o:=⟨o0,by show o<_;omega⟩;have offD:hC n d:=⟨d0,Z⟩;have cla:O1 n k:=⟨k0,by show k<_;omega⟩
 refine⟨d0,hd,λhm1=>⟨aA Z,⟨(d+1,zs),⟨⟨⟨k0,hk⟩,⟨o0,ho⟩,by show 0<=d+1;omega,by show d+1<=_;omega⟩,by rw[VB d0 hm1];exact dx,dn⟩,⟨rfl,rfl⟩,by show(_-(d+1)).toNat<_;omega⟩⟩,λhm1=>⟨⟨⟨hu,hpl⟩,offO,cla⟩,⟨(0,zs),⟨qL _,by show st4 n p r k o d 0=_;rw[Vx];exact dx,dn⟩,rfl,rfl⟩,λ⟨j,us⟩ y ⟨j0,jx,jn⟩ hy=>?_,λ⟨j,us⟩ ⟨j0,jx,jn⟩ hj=>?_⟩⟩;have hy:(jd n p k o)[j.toNat]?=some y:=hy;obtain⟨jl,_⟩:=qE.1 hy;have hyd:(jd n p k o).getD j.toNat 0=y:=by rw[qA,hy];rfl
 have hin:sZ p y=true:=by
  have:=qY hy;unfold jd at this;exact(xJ.1 this).2
 have hin2:1440*p.1<=y/\y<1440*p.2.1:=by
  unfold sZ at hin;rwa [qC,qF,qF]at hin
 have hf:MY n p o d y us:=⟨⟨⟨hu,hpl⟩,offO,offD⟩,⟨Z,Z⟩,jn⟩;have jx:st4 n p r k o d j.toNat=some us:=jx;have ju:st4 n p r k o d (j.toNat+1)=if sO n p k o d y us=true then some (PH n p o d y us)else none:=by
  rw[Vy,jx];show uJ n p k o d j.toNat us=_;unfold uJ;rw[hyd]
 refine⟨⟨⟨hf,cla⟩,λhno=>two ?_⟩,λhok=>⟨⟨⟨hf,cla⟩,hok⟩,⟨(j+1,PH n p o d y us),⟨by show 0<=j+1;have:0<=j:=j0;omega,by rw[show((j+1,PH n p o d y us).1).toNat=j.toNat+1 by show(j+1).toNat=_;have:0<=j:=j0;omega,ju,if_pos hok],(JI 19 hf).2⟩,by show(j+1).toNat=_;have:0<=j:=j0;omega,rfl⟩⟩⟩;rw[if_neg (by rw[hno];exact Bool.noConfusion)]at ju;rw[gH ju Z hm1 d0 hd o0 ho k0 hk];exact(if_neg (λh=>by cases h)).symm;have hj:j.toNat=(jd n p k o).length:=hj;have jx:st4 n p r k o d j.toNat=some us:=jx;refine⟨aA Z,⟨(d+1,us),⟨⟨⟨k0,hk⟩,⟨o0,ho⟩,by show 0<=d+1;omega,by show d+1<=_;omega⟩,by rw[KF d0 hm1,<- hj];exact jx,jn⟩,⟨rfl,rfl⟩,by show(_-(d+1)).toNat<_;omega⟩⟩;have d1:d<=(cellsD p k o).length:=d1;have hd:¬d<(cellsD p k o).length:=hd;have de:d=(cellsD p k o).length:=Z;have o0:0<=o:=o0;refine⟨aA Z,⟨(o+1,zs),⟨⟨⟨k0,hk⟩,by show 0<=o+1;omega,by show o+1<=_;omega⟩,by rw[KG o0,<- de];exact dx,dn⟩,⟨rfl,rfl⟩,by show(_-(o+1)).toNat<_;omega⟩⟩;have o1:o<=(dJ p k).length:=o1;have ho:¬o<(dJ p k).length:=ho;have oe:o=(dJ p k).length:=Z;have k0:0<=k:=k0;refine⟨aA Z,⟨(k+1,ys),⟨⟨by show 0<=k+1;omega,by show k+1<=_;omega⟩,by rw[KH k0,<- oe];exact ox,on⟩,⟨rfl,rfl⟩,by show(_-(k+1)).toNat<_;omega⟩⟩;have k1:k<=p.2.2.2.length:=k1;have hk:¬k<p.2.2.2.length:=hk;have ke:k=p.2.2.2.length:=Z;have ka:xy n p r=some xs:=by unfold xy;rw[<- ke];exact kx
 rw[ka];have xl:∀xs:Li,(some xs=some [])↔xs.length=0:=λxs=>by
  rw[vV,List.length_eq_zero_iff]
 refine⟨λh=>two ?_,λh=>⟨h,(λh=>by cases h),?_⟩⟩;have h:(xs.length:Int)≠0:=h;rw[if_neg (by rw[xl];omega)];have h:(xs.length:Int)=0:=h;rw[if_pos (by rw[xl];omega)]
end Go.Eng.In
namespace Go.Eng.In
open Go.Proofs
def iF(n:Net):Bool:=decide (n.1.length<=10/\n.2.1.length<=10/\n.2.2.1.length<=10/\n.2.2.2.1.length<=16/\n.2.2.2.2.1.length<=50/\n.2.2.2.2.2.length<=8)
def iz(w:List Bool)(h:Li):Bool:=decide (w.length<=20)&&decide (h.length<=60)
def km(h:List Cal)(f:List ByteArray):List ByteArray:=(List.range h.length).map λi=>f.getD i ⟨#[]⟩
def Oa(f:List Off):List ByteArray:=f.map (·.1)
def Oq(f:List Line):List ByteArray:=f.map (·.1)
def OZ(f:List Cla):List ByteArray:=f.map (·.1)
def RQ(l:List ByteArray)(i:Int):ByteArray:=l.getD i.toNat ⟨#[]⟩
def aB(n:Net)(k:Int):List ByteArray:=if k=1 then km n.1 n.2.1 else if k=2 then n.2.2.1 else if k=3 then Oa n.2.2.2.1 else if k=4 then Oq n.2.2.2.2.1 else if k=5 then OZ n.2.2.2.2.2 else[]
def jD(k n:Int):Prop:=0<=k/\k<=n
def aG(n:Net)(k i:Int):List ByteArray:=(aB n k).take i.toNat
def tQ(f:List (Int×List Bool×Li))(k:Int):Prop:=0<=k/\k<=f.length/\(f.take k.toNat).all (λc=>iz c.2.1 c.2.2)=true
def tw(f:List Off)(k:Int):Prop:=0<=k/\k<=f.length/\(f.take k.toNat).all (λo=>decide (o.2.2.2.2.2.2.length<=30))=true
def gw(l:List ByteArray):Bool:=l.all λs=>decide (s.size<=40)
def pP(n:Net)(k:Int):Prop:=1<=k/\k<=6/\∀j:Int,1<=j->j<k->gw (aB n j)=true
def BO(l:List ByteArray)(i:Int):Prop:=0<=i/\i<=l.length/\gw (l.take i.toNat)=true
def nJ(n:Net):Bool:=iF n&&(n.1.all λc=>iz c.2.1 c.2.2)&&(n.2.2.2.1.all λo=>decide (o.2.2.2.2.2.2.length<=30))&&gw (aB n 1)&&gw (aB n 2)&&gw (aB n 3)&&gw (aB n 4)&&gw (aB n 5)
def gZ(a b:Lj):Bool:=a==b
def oV(a b:Lj)(k:Int):Prop:=0<=k/\k<=a.length/\a.length=b.length/\a.length<=1000000/\a.take k.toNat=b.take k.toNat
def oW(a b:Lj)(i k:Int):Prop:=0<=k/\k<=(a.getD i.toNat []).length/\(a.getD i.toNat []).length=(b.getD i.toNat []).length/\(a.getD i.toNat []).length<=1000000/\(a.getD i.toNat []).take k.toNat=(b.getD i.toNat []).take k.toNat
def Ae(a:Lj):Prop:=a.length<=1000000/\∀r∈a,r.length<=1000000
def Bo(a b:List (Lj)):Bool:=a==b
def Bn(a b:List (Lj))(k:Int):Prop:=0<=k/\k<=a.length/\a.length=b.length/\a.take k.toNat=b.take k.toNat
def WW(a:List (Lj)):Prop:=a.length<=1000000/\∀t∈a,Ae t
def gT(p q:Plan):Bool:=decide (p=q)
def aCT(p:Plan):Prop:=Ae p.2.2.1/\WW p.2.2.2
def smF(n:Net)(nx:Lj):Bool:=(nJ n&&decide ((n.2.2.2.1.length:Int)<=6))&&(decide ((nx.length:Int)<=10)&&nx.all λr=>decide ((r.length:Int)<=10))
def aDX(nx:Lj)(k:Int):Prop:=0<=k/\k<=nx.length/\nx.length<=10/\∀i:Nat,(i:Int)<k->(nx.getD i []).length<=10
def sy(n:Net)(l:Li):Bool:=smF n []&&decide ((l.length:Int)<=3000)
abbrev vo:=az [.row C] (λ_=>True) λ((_,w,h),_)=>.dat .bool (iz w h)
def aDP:Kt:=kOr 149 vo Pz
def uR(n:Net)(k:Int)(f slot:Nat)(st:St)(xs:List ByteArray):Option Spec:=some {α:=Int,inv:=λi=>jD i (Dh (aB n k)),st:=λi=>nU (put st [(slot,.dat I i),(5,.buf 100 (Dl (aG n k i)))]) 100 (.buf 9 S (aG n k i) []),μ:=λi=>Dc (Dk (Dh (aB n k)) i)}
def WT(n:Net):Ann:=⟨λh f=>match h with
 |5=>uR n 1 5 6 f []|12=>uR n 2 12 7 f []|17=>uR n 3 17 8 f []|22=>uR n 4 22 9 f []|27=>uR n 5 27 10 f []|_=>none,λ_ _=>none,λ_ _=>none⟩
def VG(a b:Lj):Ann:=⟨λf st=>match f with
 |4=>some {α:=Int,inv:=λk=>oV a b k,st:=λk=>put st [(5,.dat I k)],μ:=λk=>Dc (Dk (Dh a) k)}|9=>match st.sig.T 5 with
  |.dat (.int .i64) i=>some {α:=Int,inv:=λk=>oW a b i k,st:=λk=>put st [(6,.dat I k)],μ:=λk=>Dc (Dk (Dh (Dw a (Dc i) [])) k)}|_=>none
 |_=>none,λ_ _=>none,λ_ _=>none⟩
abbrev sh:=az [.row N,.val I] (λ(n,_,_)=>iF n=true) λ(n,k,_)=>.dat (.sl S) (aB n k)
abbrev Aq:=az [.val M,.val M] (λ(a,_,_)=>Ae a) λ(a,b,_)=>.dat .bool (gZ a b)
def aDO:Kt:=kOr 150 sh <|
 kOr 64 Aq aDP
def aDc(n:Net):Ann:=⟨λf st=>match f with
 |4=>some {α:=Int,inv:=λk=>tQ n.1 k,st:=λk=>put st [(3,.dat I k)],μ:=λk=>Dc (Dk (Dh n.1) k)}|9=>some {α:=Int,inv:=λk=>tw n.2.2.2.1 k,st:=λk=>put st [(4,.dat I k)],μ:=λk=>Dc (Dk (Dh n.2.2.2.1) k)}|14=>some {α:=Int,inv:=λk=>pP n k,st:=λk=>put st [(5,.dat I k)],μ:=λk=>Dc (Dk 6 k)}|18=>match st.sig.T 5 with
  |.dat (.int .i64) k=>some {α:=Int,inv:=λi=>BO (aB n k) i,st:=λi=>put st [(7,.dat I i)],μ:=λi=>Dc (Dk (Dh (aB n k)) i)}|_=>none
 |_=>none,λ_ _=>none,λ_ _=>none⟩
def aCn(a b:List (Lj)):Ann:=Z8 4 Int (Bn a b) (λf k=>put f [(5,.dat I k)]) λk=>Dc (Dk (Dh a) k)
abbrev AB:=az [.row N] (λ_=>True) λ(n,_)=>.dat .bool (nJ n)
abbrev Ap:=az [.val (.sl M),.val (.sl M)] (λ(a,_,_)=>WW a) λ(a,b,_)=>.dat .bool (Bo a b)
def K17:Kt:=kOr 76 AB <|
 kOr 65 Ap aDO
def smA(nx:Lj):Ann:=Z8 4 Int (aDX nx) (λs k=>put s [(5,.dat I k)]) λk=>Dc (Dk (Dh nx) k)
abbrev Ar:=az [.row Pl,.row Pl] (λ(p,_,_)=>aCT p) λ(p,q,_)=>.dat .bool (gT p q)
def aGn:Kt:=kOr 19 Ar <|
 kOr 24 (az [.row N,.val M] (λ_=>True) λ(n,nx,_)=>.dat .bool (smF n nx)) K17
theorem mG{α:Type}{l:List α}{p:α->Bool}{d:α}{k:Nat}(h:(l.take k).all p=true)(j:k<l.length)(f:p (l.getD k d)=true):(l.take (k+1)).all p=true:=by
 rw[wW,qB j,gU,h];rw[qA,qB j]at f;simpa using f
theorem xw{α:Type}{l:List α}{p:α->Bool}{d:α}{k:Nat}(h:k<l.length)(f:p (l.getD k d)=false):l.all p=false:=by
 rw[qA,qB h]at f;rw[qBk];exact⟨l[k],wM h,by simpa using f⟩
theorem Af{α β:Type}(f:α->β)(l:List α)(i:Nat)(d:α)(d':β)(h:i<l.length):(l.map f).getD i d'=f (l.getD i d):=by
 rw[qA,qQ,qB h,qA,qB h];rfl
theorem C3{h:List (Int×List Bool×Li)}{f:List ByteArray}{i:Int}(u:0<=i)(j:i<h.length):RQ (km h f) i=f.getD i.toNat ⟨#[]⟩:=by
 unfold RQ km;rw[Af (λi=>f.getD i ⟨#[]⟩) _ _ 0 _ (by rw[yE];omega)];show f.getD ((List.range h.length).getD i.toNat 0) _=_;rw[show(List.range h.length).getD i.toNat 0=i.toNat by rw[qA,zH Z];rfl]
theorem Jk{α:Type}{f:α->ByteArray}{l:List α}{i:Int}(d:α)(j:0<=i)(h:i<l.length):RQ (l.map f) i=f (l.getD i.toNat d):=Af _ _ _ _ _ Z
theorem kj(f:List (Int×List Bool×Li))(h:List ByteArray):(km f h).length=f.length:=by simp[km]
theorem fJ{α β:Type}(f:α->β)(l:List α):(l.map f).length=l.length:=vT f
theorem Vk:eO 149 vo:=ae λ(((z:Int),(w:List Bool),(h:Li)),_)=>by
 refine zE (A:=aE) (p:=let f:=Eh (Dh w) 20;(True->Q4 f ((Dj true f->f)/\Dz f (Eh (Dh h) 60) false=iz w h/\True))) A8 λ_=>?_;simp only[qc,Dj,Et,Di,iz,Eh,Dh];congr 1<;>congr 1<;>exact qBx Z
theorem UH:ay Tryz.prog fP aDP:=ah Vk A8
theorem BM{n:Net}{k i:Int}(h:0<=i)(f:i<=(aB n k).length):(aG n k i).length=i.toNat:=by
 unfold aG;rw[qM];omega
theorem yg{n:Net}{k i:Int}(h:0<=i)(f:i<(aB n k).length):aG n k (i+1)=aG n k i++[(aB n k).getD i.toNat ⟨#[]⟩]:=by
 unfold aG;rw[show(i+1).toNat=i.toNat+1 by omega,wW,qA,qB (show i.toNat<(aB n k).length by omega)];rfl
theorem BN{n:Net}{k i:Int}(h:i<=(aB n k).length)(f:¬i<(aB n k).length):aG n k i=aB n k:=by
 unfold aG;exact qO Z
theorem px{n:Net}{k:Int}{m:Nat}{el:Int->ByteArray}(L:(aB n k).length=m)(hm:m<=100)(A:∀x,0<=x->x<(m:Int)->(aB n k).getD x.toNat ⟨#[]⟩=el x){R:List ByteArray}(G:R=aB n k):
  (∃x,jD x (aB n k).length/\(aG n k x).length=0/\aG n k x=[]/\0=x/\aG n k x=[])/\
   ∀(x:Int),jD x (aB n k).length->
    (x<(m:Int)->0<=x/\x<(m:Int)/\((aG n k x).length+[el x].length)*16<=140737488355328/\(aG n k x).length+[el x].length<=9223372036854775807/\inR .i64 (x+1)/\
     ∃y,jD y (aB n k).length/\((aG n k x).length+[el x].length=(aG n k y).length/\x+1=y/\aG n k x++[el x]=aG n k y)/\(((aB n k).length:Int)-y).toNat<(((aB n k).length:Int)-x).toNat)/\
    (¬x<(m:Int)->aG n k x=R):=by
 refine⟨⟨0,⟨qL _,qR _⟩,rfl,rfl,rfl,rfl⟩,λx ⟨h,u⟩=>⟨λf=>?_,λz=>by rw[G];exact BN u Z⟩⟩;have X:=BM h u;have j:=yg h (show x<((aB n k).length:Int) by omega);rw[A x h f]at j;refine⟨h,f,by simp only[qX];omega,by simp only[qX];omega,⟨Z,Z⟩,x+1,⟨Z,Z⟩,⟨by rw[j,qG],rfl,j.symm⟩,Z⟩
theorem ri(z:List Cal)(h f:List ByteArray)(y:List Off)(j:List Line)(u:List Cla)(A:iF (z,h,f,y,j,u)=true):z.length<=10/\h.length<=10/\f.length<=10/\y.length<=16/\j.length<=50/\u.length<=8:=vJ A
theorem Qw:eO 150 sh:=ae λ(((X,j,u,L,z,G):Net),(k:Int),_)=>by
 refine zE (A:=(lvA [(5,[2,4,5,6,7,8,9,10,11]),(12,[2,4,5,7,8,9,10,11]),(17,[2,4,5,8,9,10,11]),(22,[2,4,5,9,10,11]),(27,[2,4,5,10])] (WT (X,j,u,L,z,G)))) (p:=let c5:=ByteArray.mk #[];let f:=(X,j,u,L,z,G);let c2:=Ee k 1;let c3:=Dh (aB f 1);let c4:=[ByteArray.mk #[]];let A:=aB f k;let c7:=Ee k 2;let c8:=Dh (aB f 2);let c9:=Ee k 3;let c10:=Dh (aB f 3);let c11:=Dh L;let c13:=Ee k 4;let c14:=Dh (aB f 4);let c15:=Dh z;let c16:=((0:Int),(0:Int));let c18:=Ee k 5;let c19:=Dh (aB f 5);let c20:=Dh G;(iF f->(c2->(∃x,let c22:=aG f 1 x;jD x c3/\L7 f Z0 (Dl c22=0/\c22=Du ByteArray/\0=x/\k=k/\c22=Du ByteArray/\True))/\∀(x:Int),let c23:=Dn x (Dh X);let c24:=Dn x (Dh j);let c25:=aG f 1 x;let h:=Dl c25;let c27:=[Dw j (Dc x) c5];let c28:=h+Dl c27;let c29:=x+1;let c30:=h+(Dl c4);jD x c3->(c23->(c24->0<=x/\x<Dh j/\h=h/\(c28*16)<=140737488355328/\c28<=9223372036854775807/\inR .i64 c29/\∃y,let c31:=aG f 1 y;jD y c3/\(L7 f Z0 (c28=Dl c31/\c29=y/\k=k/\Ei c25 c27=c31/\True))/\Dc (c3-y)<Dc (c3-x))/\(c24=false->h=h/\(c30*16)<=140737488355328/\c30<=9223372036854775807/\inR .i64 c29/\∃y,let c32:=aG f 1 y;jD y c3/\(L7 f Z0 (c30=Dl c32/\c29=y/\k=k/\Ei c25 c4=c32/\True))/\Dc (c3-y)<Dc (c3-x)))/\(c23=false->h=h/\c25=A/\True))/\(c2=false->(c7->(∃x,let c33:=aG f 2 x;jD x c8/\L7 f Z0 (Dl c33=0/\c33=Du ByteArray/\0=x/\k=k/\c33=Du ByteArray/\True))/\∀(x:Int),let c34:=Dn x (Dh u);let c35:=aG f 2 x;let c36:=Dl c35;let c37:=[Dw u (Dc x) c5];let c38:=c36+Dl c37;let c39:=x+1;
  jD x c8->(c34->0<=x/\x<Dh u/\c36=c36/\(c38*16)<=140737488355328/\c38<=9223372036854775807/\inR .i64 c39/\∃y,let c40:=aG f 2 y;jD y c8/\(L7 f Z0 (c38=Dl c40/\c39=y/\k=k/\Ei c35 c37=c40/\True))/\Dc (c8-y)<Dc (c8-x))/\(c34=false->c36=c36/\c35=A/\True))/\(c7=false->(c9->(∃x,let c41:=aG f 3 x;jD x c10/\L7 f Z0 (Dl c41=0/\c41=Du ByteArray/\0=x/\k=k/\c41=Du ByteArray/\True))/\∀(x:Int),let c42:=aG f 3 x;let c43:=Dl c42;let c44:=[(Dw L (Dc x) (ByteArray.mk #[],(0:Int),(0:Int),(0:Int),(0:Int),(0:Int),Du ByteArray)).1];let c45:=c43+Dl c44;let c46:=x+1;jD x c10->(Dn x c11->0<=x/\x<c11/\c43=c43/\(c45*16)<=140737488355328/\c45<=9223372036854775807/\inR .i64 c46/\∃y,let c47:=aG f 3 y;jD y c10/\(L7 f Z0 (c45=Dl c47/\c46=y/\k=k/\Ei c42 c44=c47/\True))/\Dc (c10-y)<Dc (c10-x))/\(Dn x c11=false->c43=c43/\c42=A/\True))/\(c9=false->(c13->(∃x,let c48:=aG f 4 x;jD x c14/\L7 f Z0 (Dl c48=0/\c48=Du ByteArray/\0=x/\k=k/\c48=Du ByteArray/\True))/\∀(x:Int),let c49:=aG f 4 x;let c50:=Dl c49;let c51:=[(Dw z (Dc x) (ByteArray.mk #[],(0:Int),(0:Int),(0:Int),c16)).1];let c52:=c50+Dl c51;let c53:=x+1;jD x c14->(Dn x c15->0<=x/\x<c15/\c50=c50/\(c52*16)<=140737488355328/\c52<=9223372036854775807/\inR .i64 c53/\∃y,let c54:=aG f 4 y;jD y c14/\(L7 f Z0 (c52=Dl c54/\c53=y/\k=k/\Ei c49 c51=c54/\True))/\Dc (c14-y)<Dc (c14-x))/\(Dn x c15=false->c50=c50/\c49=A/\True))/\(c13=false->(c18->(∃x,let c55:=aG f 5 x;
  jD x c19/\L7 f Z0 (Dl c55=0/\c55=Du ByteArray/\0=x/\c55=Du ByteArray/\True))/\∀(x:Int),let c56:=aG f 5 x;let c57:=Dl c56;let c58:=[(Dw G (Dc x) (ByteArray.mk #[],c16)).1];let c59:=c57+Dl c58;let c60:=x+1;jD x c19->(Dn x c20->0<=x/\x<c20/\c57=c57/\(c59*16)<=140737488355328/\c59<=9223372036854775807/\inR .i64 c60/\∃y,let c61:=aG f 5 y;jD y c19/\(L7 f Z0 (c59=Dl c61/\c60=y/\Ei c56 c58=c61/\True))/\Dc (c19-y)<Dc (c19-x))/\(Dn x c20=false->c57=c57/\c56=A/\True))/\(c18=false->A=Du ByteArray/\True))))))) UH λhp=>?_
 obtain⟨l1,l2,l3,l4,l5,l6⟩:=ri X j u L z G hp;refine Z9 ?_;refine⟨λhk=>?_,λh1=>⟨λhk=>?_,λh2=>⟨λhk=>?_,λh3=>⟨λhk=>?_,λh4=>⟨λhk=>?_,λh5=>?_⟩⟩⟩⟩⟩;subst hk;have hl:(aB (X,j,u,L,z,G) 1).length=X.length:=kj X j;obtain⟨b1,b2⟩:=px (n:=(X,j,u,L,z,G)) (k:=1) (el:=λx=>j.getD x.toNat ⟨#[]⟩) (R:=aB (X,j,u,L,z,G) 1) hl Z (λx h0 h1=>C3 h0 h1) rfl;refine⟨b1,λx hx=>⟨λhlt=>⟨λhn=>⟨hx.1,hn,((b2 x hx).1 hlt).2.2⟩,λhn=>?_⟩,(b2 x hx).2⟩⟩;have e:j.getD x.toNat ⟨#[]⟩=⟨#[]⟩:=by rw[qA,zG (by have:=hx.1;omega)];rfl
 have:=((b2 x hx).1 hlt).2.2;simp only[e]at this;exact this;subst hk;exact px (n:=(X,j,u,L,z,G)) (k:=2) (m:=u.length) (el:=λx=>u.getD x.toNat ⟨#[]⟩) rfl Z (λx _ _=>rfl) rfl;subst hk;exact px (n:=(X,j,u,L,z,G)) (k:=3) (m:=L.length) (el:=λx=>(L.getD x.toNat (⟨#[]⟩,0,0,0,0,0,[])).1) (fJ _ L) Z (λx h0 h1=>Jk _ h0 h1) rfl;subst hk;exact px (n:=(X,j,u,L,z,G)) (k:=4) (m:=z.length) (el:=λx=>(z.getD x.toNat (⟨#[]⟩,0,0,0,0,0)).1) (fJ _ z) Z (λx h0 h1=>Jk _ h0 h1) rfl;subst hk;exact px (n:=(X,j,u,L,z,G)) (k:=5) (m:=G.length) (el:=λx=>(G.getD x.toNat (⟨#[]⟩,0,0)).1) (fJ _ G) Z (λx h0 h1=>Jk _ h0 h1) rfl;unfold aB;rw[if_neg h1,if_neg h2,if_neg h3,if_neg h4,if_neg h5]
theorem jt{α:Type}{a b:List α}{k:Nat}{d:α}(h:a.take k=b.take k)(y:k<a.length)(u:k<b.length)(j:a.getD k d=b.getD k d):a.take (k+1)=b.take (k+1):=by
 rw[qA,qA,qB y,qB u]at j;have f:a[k]=b[k]:=j;rw[wW,wW,qB y,qB u,h,f]
theorem qq{a b:Lj}(h:a≠b):false=gZ a b:=by unfold gZ;exact(kW.2 h).symm
theorem ZR:eO 64 Aq:=ae λ((a:Lj),(b:Lj),_)=>by
 refine zE (A:=(lvA [(4,[0,1,4,5,6]),(9,[0,1,4,5,6])] (VG a b))) (p:=let c1:=Ea (Dh a) (Dh b);(Ae a->(c1->false=gZ a b/\True)/\(c1=false->(∃x,oV a b x/\L7 a b (0=x/\True))/\∀(x:Int),let c2:=Dn x (Dh a);let c3:=Dw a (Dc x) [];let u:=Dh c3;let c5:=Dw b (Dc x) [];let h:=Dh c5;let j:=Ea u h;let c8:=x+1;oV a b x->(c2->0<=x/\x<Dh a/\0<=x/\x<Dh b/\(j->false=gZ a b/\True)/\(j=false->(∃f,oW a b x f/\Q3 a b x (0=f/\True))/\∀(f:Int),let z:=Ea (Dw c3 (Dc f) 0) (Dw c5 (Dc f) 0);let L:=f+1;oW a b x f->0<=x/\x<Dh a/\(Dn f u->0<=x/\x<Dh a/\0<=f/\f<u/\0<=x/\x<Dh b/\0<=f/\f<h/\(z->false=gZ a b/\True)/\(z=false->inR .i64 L/\∃y,oW a b x y/\(Q3 a b x (L=y/\True))/\Dc (u-y)<Dc (u-f)))/\(Dn f u=false->inR .i64 c8/\∃y,oV a b y/\(L7 a b (c8=y/\True))/\Dc (Dh a-y)<Dc (Dh a-x))))/\(c2=false->true=gZ a b/\True)))) UH λ⟨hp,X⟩=>?_;refine Z9 ?_;refine⟨λh=>qq λe=>h (by rw[e]),λh=>⟨⟨qL _,qR _,Z,hp,rfl⟩,λx ⟨G,g1,g2,g3,g4⟩=>⟨λj=>⟨G,j,G,Z,λhd=>qq λe=>hd (by rw[e]),λhd=>?_⟩,λhge=>?_⟩⟩⟩;have hm2:=X _ (aN (l:=a) (i:=x.toNat) (d:=[]) Z);refine⟨⟨qL _,qR _,Z,hm2,rfl⟩,λz ⟨f0,f1,f2,f3,f4⟩=>⟨G,j,λhz=>⟨G,j,f0,hz,G,Z,f0,Z,λhd=>qq λe=>hd (by rw[e]),λhe=>⟨⟨Z,Z⟩,z+1,⟨Z,Z,f2,f3,?_⟩,rfl,Z⟩⟩,λhz=>⟨⟨Z,Z⟩,x+1,⟨Z,Z,g2,g3,?_⟩,rfl,Z⟩⟩⟩;rw[show(z+1).toNat=z.toNat+1 by omega];exact jt f4 Z Z he;rw[show(x+1).toNat=x.toNat+1 by omega];refine jt (d:=[]) g4 Z Z ?_;rw[qO Z,qO Z]at f4;exact f4;rw[qO Z,qO Z]at g4;subst g4;unfold gZ;simp
theorem UG:ay Tryz.prog fP aDO:=ah Qw<|ah ZR UH
theorem aCO{n:Net}(q:iF n=true)(k:Int):(aB n k).length<=100:=by
 obtain⟨z,h,f,y,j,u⟩:=n;obtain⟨l1,l2,X,L,G,A⟩:=ri z h f y j u q;unfold aB;split;exact vS (yI (kj z h)) Z;split;show f.length<=100;omega;split;exact vS (yI (fJ _ y)) Z;split;exact vS (yI (fJ _ j)) Z;split;exact vS (yI (fJ _ u)) Z;exact wE _
theorem tJ{n:Net}(h:nJ n=true->False):false=nJ n:=by
 cases e:nJ n with
 |false=>rfl|true=>exact(h e).elim
theorem fL{n:Net}:nJ n=true↔iF n=true/\(n.1.all λc=>iz c.2.1 c.2.2)=true/\(n.2.2.2.1.all λo=>decide (o.2.2.2.2.2.2.length<=30))=true/\∀j:Int,1<=j->j<6->gw (aB n j)=true:=by
 unfold nJ;simp only[qC,qAn];constructor;rintro⟨y,u,h,f,h5,h6,X,L⟩;refine⟨y,u,h,λj G A=>?_⟩;have z:j=1\/j=2\/j=3\/j=4\/j=5:=Z;rcases z with rfl|rfl|rfl|rfl|rfl<;>assumption;rintro⟨y,u,h,f⟩;exact⟨y,u,h,f 1 (by decide) (by decide),f 2 (by decide) (by decide),f 3 (by decide) (by decide),f 4 (by decide) (by decide),f 5 (by decide) (by decide)⟩
theorem Z6:eO 76 AB:=ae λ(((L,ns,os,G,ls,ks):Net),_)=>by
 refine zE (A:=(lvA [(4,[1,2,3,4,5,6,7]),(9,[1,2,4,5,6,7]),(14,[1,2,5,6,7]),(18,[1,2,5,6,7])] (aDc (L,ns,os,G,ls,ks)))) (p:=let c1:=Dh L;let c2:=Ef c1 10;let c3:=Di c2;let c4:=Dz c2 true (Ef (Dh ns) 10);let c5:=Di c4;let X:=Dz c4 true (Ef (Dh os) 10);let z:=Di X;let c8:=Dh G;let c9:=Dz X true (Ef c8 16);let c10:=Di c9;let c11:=Dz c9 true (Ef (Dh ls) 50);let A:=Di c11;let c13:=Dz c11 true (Ef (Dh ks) 8);let h:=(L,ns,os,G,ls,ks);let j:=nJ h;(True->Q4 c3 ((Dj true c3->c3)/\Q4 c5 ((Dj true c5->c5)/\Q4 z ((Dj true z->z)/\Q4 c10 ((Dj true c10->c10)/\Q4 A ((Dj true A->A)/\(c13->false=j/\True)/\(c13=false->(∃x,tQ L x/\h=h/\0=x/\True)/\∀(x:Int),let c16:=(Dw L (Dc x) ((0:Int),Du Bool,Du Int)).2;let c17:=Di (iz c16.1 c16.2);let c18:=x+1;tQ L x->(Dn x c1->0<=x/\x<c1/\True/\(c17->false=j/\True)/\(c17=false->inR IntKind.i64 c18/\∃y,tQ L y/\(h=h/\c18=y/\True)/\Dc (c1-y)<Dc (c1-x)))/\(Dn x c1=false->(∃xa,tw G xa/\h=h/\0=xa/\True)/\∀(xb:Int),let c19:=Ef (Dh (Dw G (Dc xb) (ByteArray.mk #[],(0:Int),(0:Int),(0:Int),(0:Int),(0:Int),Du ByteArray)).2.2.2.2.2.2) 30;let c20:=xb+1;tw G xb->(Dn xb c8->0<=xb/\xb<c8/\(c19->false=j/\True)/\(c19=false->inR IntKind.i64 c20/\∃y,tw G y/\(h=h/\c20=y/\True)/\Dc (c8-y)<Dc (c8-xb)))/\(Dn xb c8=false->(∃xba,pP h xba/\h=h/\1=xba/\True)/\∀(f:Int),let c21:=Eh f 5;let c22:=Dh (aB h f);let c23:=f+1;pP h f->(c21->iF h/\(∃u,BO (aB h f) u/\Q3 h f (aB h f) (0=u/\True))/\∀(u:Int),let c24:=Ef (Ej (Dw (aB h f) (Dc u) (ByteArray.mk #[]))) 40;let c25:=u+1;
  BO (aB h f) u->(Dn u c22->0<=u/\u<c22/\(c24->false=j/\True)/\(c24=false->inR .i64 c25/\∃y,BO (aB h f) y/\(Q3 h f (aB h f) (c25=y/\True))/\Dc (c22-y)<Dc (c22-u)))/\(Dn u c22=false->inR .i64 c23/\∃y,pP h y/\(h=h/\c23=y/\True)/\Dc (6-y)<Dc (6-f)))/\(c21=false->true=j/\True))))))))))) UG λhp=>?_
 refine Z9 ?_;refine⟨λh=>tJ λg=>?_,λh=>?_⟩;obtain⟨l1,l2,l3,l4,l5,l6⟩:=ri L ns os G ls ks (fL.1 g).1;omega;have hl:iF (L,ns,os,G,ls,ks)=true:=qP (by show L.length<=10/\ns.length<=10/\os.length<=10/\G.length<=16/\ls.length<=50/\ks.length<=8;omega);refine⟨⟨qL _,qR _,by simp⟩,λx ⟨x0,x1,x2⟩=>⟨λX=>⟨x0,X,λhb=>tJ λg=>?_,λhg=>⟨⟨Z,Z⟩,x+1,⟨Z,Z,?_⟩,rfl,Z⟩⟩,λhge=>?_⟩⟩;have:=xw (l:=L) (p:=λc=>iz c.2.1 c.2.2) (d:=(0,[],[])) (k:=x.toNat) Z hb;rw[(fL.1 g).2.1]at this;cases this;rw[show(x+1).toNat=x.toNat+1 by omega];exact mG (d:=(0,[],[])) x2 Z hg;have hcs:(L.all λc=>iz c.2.1 c.2.2)=true:=by rwa [qO Z]at x2
 refine⟨⟨qL _,qR _,by simp⟩,λz ⟨z0,z1,z2⟩=>⟨λX=>⟨z0,X,λhb=>tJ λg=>?_,λhg=>⟨⟨Z,Z⟩,z+1,⟨Z,Z,?_⟩,rfl,Z⟩⟩,λhge=>?_⟩⟩;have:=xw (l:=G) (p:=λo=>decide (o.2.2.2.2.2.2.length<=30)) (d:=(⟨#[]⟩,0,0,0,0,0,[])) (k:=z.toNat) Z (qV Z);rw[(fL.1 g).2.2.1]at this;cases this;rw[show(z+1).toNat=z.toNat+1 by omega];exact mG (d:=(⟨#[]⟩,0,0,0,0,0,[])) z2 Z (qP Z);have hfs:(G.all λo=>decide (o.2.2.2.2.2.2.length<=30))=true:=by rwa [qO Z]at z2
 refine⟨⟨qL _,by decide,λj h1 h2=>Z⟩,λk ⟨k0,k1,k2⟩=>⟨λhk=>?_,λhk=>?_⟩⟩;have hlen:(aB (L,ns,os,G,ls,ks) k).length<=100:=aCO hl k;refine⟨hl,⟨qL _,qR _,by simp[gw]⟩,λi ⟨i0,i1,i2⟩=>⟨λX=>⟨i0,X,λhb=>tJ λg=>?_,λhg=>⟨⟨Z,Z⟩,i+1,⟨Z,Z,?_⟩,rfl,Z⟩⟩,λhge=>⟨⟨Z,Z⟩,k+1,⟨Z,Z,λj h1 h2=>?_⟩,rfl,Z⟩⟩⟩;have:=xw (l:=aB (L,ns,os,G,ls,ks) k) (p:=λs=>decide (s.size<=40)) (d:=⟨#[]⟩) (k:=i.toNat) Z (qV Z);have h2:=(fL.1 g).2.2.2 k k0 Z;unfold gw at h2;rw[h2]at this;cases this;rw[show(i+1).toNat=i.toNat+1 by omega];exact mG (d:=⟨#[]⟩) i2 Z (qP Z);by_cases e:j=k;subst e;rwa [qO Z]at i2;exact k2 j h1 Z;exact(fL.2 ⟨hl,hcs,hfs,λj h1 h2=>k2 j h1 Z⟩).symm
theorem KN{a b:List (Lj)}(h:a≠b):false=Bo a b:=by unfold Bo;exact(kW.2 h).symm
theorem EL{a b:Lj}:gZ a b=true↔a=b:=yJ
theorem ZQ:eO 65 Ap:=ae λ((a:List (Lj)),(b:List (Lj)),_)=>by
 refine zE (A:=(lvA [(4,[0,1,4,5])] (aCn a b))) (p:=let f:=Dh a;let c2:=Dh b;let c3:=Ea f c2;(WW a->(c3->false=Bo a b/\True)/\(c3=false->(∃x,Bn a b x/\L7 a b (0=x/\True))/\∀(x:Int),let X:=Dw a (Dc x) (Du (Li));let L:=Di (gZ X (Dw b (Dc x) (Du (Li))));let h:=x+1;Bn a b x->(Dn x f->0<=x/\x<f/\0<=x/\x<c2/\Ae X/\(L->false=Bo a b/\True)/\(L=false->inR .i64 h/\∃y,Bn a b y/\(L7 a b (h=y/\True))/\Dc (f-y)<Dc (f-x)))/\(Dn x f=false->true=Bo a b/\True)))) UG λhp=>?_;refine Z9 ?_;obtain⟨hp1,j⟩:=hp;refine⟨λh=>KN λe=>h (by rw[e]),λh=>⟨⟨qL _,qR _,Z,rfl⟩,λx ⟨G,g1,g2,z⟩=>⟨λu=>⟨G,u,G,Z,j _ (aN Z),λhd=>KN λe=>?_,λhd=>⟨aA Z,x+1,⟨Z,Z,g2,?_⟩,rfl,Z⟩⟩,λhge=>?_⟩⟩⟩;rw[e,EL.2 rfl]at hd;cases hd;rw[show(x+1).toNat=x.toNat+1 by omega];exact jt z Z Z (EL.1 hd);rw[qO Z,qO Z]at z;subst z;unfold Bo;simp
theorem aGf:ay Tryz.prog fP K17:=ah Z6<|ah ZQ UG
theorem ZS:eO 19 Ar:=ae λ((p:Plan),(q:Plan),_)=>by
 obtain⟨p1,p2,z,y⟩:=p;obtain⟨u,X,L,G⟩:=q;refine zE (A:=aE) (p:=let j:=Ee p1 u;let c1:=(p1,p2,z,y);let h:=Dz j (Ee p2 X) false;let f:=Dz h (gZ z L) false;(aCT c1->L5 j (Q4 j ((Dj true j->Ee p1 u)/\L5 h (Q4 h ((h->Ae z)/\(Dj true h->h)/\L5 f (Q4 f ((f->WW y)/\(Dj true f->f)/\Dz f (Bo y G) false=gT c1 (u,X,L,G)/\True)))))))) aGf λhp=>?_;refine Z9 ?_;refine⟨λ_=>hp.1,λ_=>hp.2,?_⟩;unfold gT gZ Bo;rw[qCx];simp[qAn]
theorem Qk(nx:Lj)(X:List Cal)(z u:List ByteArray)(j:List Off)(G:List Line)(L:List Cla):aj Tryz.prog fP 24 [.agg [.dat (.sl C) X,.dat (.sl S) z,.dat (.sl S) u,.dat (.sl Of) j,.dat (.sl Ln) G,.dat (.sl Kl) L],.dat M nx] [] ⟨True,.dat .bool (smF (X,z,u,j,G,L) nx),[]⟩:=by
 refine zE (A:=(lvA [(4,[1,4,5])] (smA nx))) (p:=let c1:=(X,z,u,j,G,L);let c2:=Di (nJ c1);let c3:=Di c2;let c4:=Dz c2 true (Ef (Dh j) 6);let c5:=Di c4;let h:=Dz c4 true (Ef (Dh nx) 10);let f:=smF c1 nx;(True->True/\Q4 c3 ((Dj true c3->c3)/\Q2 c5 ((Dj true c5->c5)/\(h->false=f/\True)/\(h=false->(∃x,aDX nx x/\nx=nx/\0=x/\True)/\∀(x:Int),let c8:=Dn x (Dh nx);let A:=Ef (Dh (Dw nx (Dc x) [])) 10;let c10:=x+1;aDX nx x->(c8->0<=x/\x<Dh nx/\(A->false=f/\True)/\(A=false->inR .i64 c10/\∃y,aDX nx y/\(nx=nx/\c10=y/\True)/\Dc (Dh nx-y)<Dc (Dh nx-x)))/\(c8=false->true=f/\True)))))) aGf λ_=>?_;refine Z9 ?_;have e:smF (X,z,u,j,G,L) nx=((nJ (X,z,u,j,G,L)&&decide ((j.length:Int)<=6))&&(decide ((nx.length:Int)<=10)&&nx.all λr=>decide ((r.length:Int)<=10))):=rfl;refine⟨λh=>?_,λ⟨⟨h1,h2⟩,h3⟩=>⟨⟨qL _,qR _,Z,λi h=>Z⟩,λx f=>⟨λhlt=>⟨f.1,hlt,λhb=>?_,λhb=>⟨aA (by have:=f.1;omega),x+1,⟨by have:=f.1;omega,Z,f.2.2.1,λi hi=>?_⟩,rfl,by have:=f.1;omega⟩⟩,λhge=>?_⟩⟩⟩;rw[e];rcases h with(h|h)|h;rw[h];rfl;rw[qV Z,kR];rfl;rw[qV (p:=(nx.length:Int)<=10) Z,qAc,kR];rw[e];have:(nx.all λr=>decide ((r.length:Int)<=10))=false:=by
  refine qBk.2 ⟨nx.getD x.toNat [],?_,by simp only[qF];omega⟩;rw[qA,qB (by have:=f.1;omega),vK];exact wM _
 rw[this,kR,kR];by_cases h:(i:Int)<x;exact f.2.2.2 i h;have:i=x.toNat:=by have:=f.1;omega
 rw[this];omega;rw[e,h1,qP Z,qP (p:=(nx.length:Int)<=10) Z];refine(qU.2 λr hr=>?_).symm;obtain⟨i,hi,rfl⟩:=yD.1 hr;have:=f.2.2.2 i Z;rw[qA,qB hi,vK]at this;simp only[qF];omega
theorem aHg:ay Tryz.prog fP aGn:=ah ZS<|ah (ae λ((z,h,f,y,j,u),nx,_)=>Qk nx z h f y j u) aGf
theorem Vu(s:Int)(l:Li)(G:List Cal)(j h:List ByteArray)(z:List Off)(u:List Line)(y:List Cla):aj Tryz.prog fP 8 [.agg [.dat (.sl C) G,.dat (.sl S) j,.dat (.sl S) h,.dat (.sl Of) z,.dat (.sl Ln) u,.dat (.sl Kl) y],.agg [.dat R l,.dat I s]] [] ⟨True,.dat .bool (sy (G,j,h,z,u,y) l),[]⟩:=by
 refine zE (A:=aE) (p:=let L:=(G,j,h,z,u,y);let f:=smF L (Du (Li));(True->True/\Q4 f ((Dj true f->f)/\Dz f (Eh (Dh l) 3000) false=sy L l/\True))) aHg λX=>?_;refine Z9 ?_;rfl
theorem R2{l:Li}(h:l.length<=2000000):Ai l:=by show l.length<=2000000000000000;omega
theorem xS{l:Li}(h:jm l=true):rl l=l:=by
 unfold rl;conv=>rhs;rw[<- List.map_id l]
 refine zS λx f=>?_;have:=dI.1 h x f;show x%65521=x;omega
theorem NP{l:Li}(h:jm l=true):jI l=zk l:=by unfold jI;rw[xS h]
theorem zj{l:Li}(h:jm l=true):dq l (jI l)=true:=by
 unfold dq;rw[h,NP h];simp
theorem QN{l:Li}{s:Int}(h:dq l s=true):jm l=true/\s=zk l:=by
 unfold dq at h;rwa [qC,qF]at h
structure Acc(n:Net)(l:Li):Prop where
 ins:jm l=true
 pl:ni l=true
 us:usF n=true
 fit:JJ n (ai l)=true
 len:l.length<=40000
 run:xy n (ai l) (bU l)=some []
theorem aBo{n:Net}{l:Li}:iH n l (jI l)=0↔Acc n l:=by
 constructor;intro h;unfold iH at h;split at h;case isFalse=>unfold sQ at h;split at h<;>omega
 rename_i j;split at h;case isFalse=>omega
 rename_i y;split at h;case isFalse=>omega
 rename_i f;unfold KQ at h;split at h;case isFalse=>omega
 rename_i u;unfold fH at j;rw[qC]at j;unfold mj EI at f;rw[qC,qF]at f;exact⟨(QN j.1).1,j.2,y,f.1,f.2,u⟩;rintro⟨j,y,f,u,A,z⟩;unfold iH;rw[if_pos (by unfold fH;rw[zj j];exact y),if_pos f,if_pos (by unfold mj EI;rw[u,qP A];rfl)];unfold KQ;rw[if_pos z]
theorem one_app{xs:Li}(z:Li)(h:bh xs=true):bh (xs++z)=true/\hd (xs++z)=hd xs/\tl (xs++z)=tl xs++z:=by
 have h:=vJ h;cases xs with
 |nil=>exact absurd h (by simp)|cons x r=>exact⟨by unfold bh;simp,rfl,rfl⟩
theorem Xy{n:Net}{p:Plan}{d:Int}(z:Li):∀(f:Nat) {o t:Int}{xs:Li},(oG n p d f o t xs).1=true->oG n p d f o t (xs++z)=(true,(oG n p d f o t xs).2.1,(oG n p d f o t xs).2.2++z)
 |0,o,t,xs,h=>by
  have h:decide (o=d)=true:=h;show(decide (o=d),t,xs++z)=_;rw[h];rfl
 |f+1,o,t,xs,h=>by
  have e:∀j:Li,oG n p d (f+1) o t j=if o=d then(true,t,j)else if cellAt p o d=-1 then(false,t,j)else if bh j=false then(false,t,j)else
   if fS n o (cellAt p o d) p (hd j) t=true then oG n p d f (bm n (cellAt p o d)).2.2.1 (nX (ag n o).1 (hd j-2+p.1) (bm n (cellAt p o d)).2.2.2.1+(bm n (cellAt p o d)).2.2.2.2.1) (tl j)else(false,t,tl j):=λj=>rfl
  rw[e]at h;rw[e,e];by_cases u:o=d;rw[if_pos u,if_pos u];rw[if_neg u]at h;rw[if_neg u,if_neg u];by_cases G:cellAt p o d=-1;rw[if_pos G]at h;cases h;rw[if_neg G]at h;rw[if_neg G,if_neg G];by_cases A:bh xs=false;rw[if_pos A]at h;cases h;rw[if_neg A]at h;obtain⟨a1,X,L⟩:=one_app z (by simpa using A);rw[if_neg A,if_neg (by rw[a1];exact Bool.noConfusion),X,L];by_cases y:fS n o (cellAt p o d) p (hd xs) t=true;rw[if_pos y]at h;rw[if_pos y,if_pos y];exact Xy z f h;rw[if_neg y]at h;cases h
theorem Q6{f g:Nat->Li->Option (Li)}(z:Li)(u:∀i xs j,f i xs=some j->g i (xs++z)=some (j++z)):∀(m:Nat) {xs j:Li},runN f m xs=some j->runN g m (xs++z)=some (j++z)
 |0,_,_,h=>by cases h;rfl
 |m+1,xs,j,h=>by
  rw[runN]at h ⊢;obtain⟨G,A,y⟩:=xK.1 h;rw[Q6 z u m A];exact u _ _ _ y
theorem Db{n:Net}{l:Li}(f:Ai l)(h:Acc n l):dz l:=⟨h.ins,f⟩
noncomputable def pos(m k o d:Int):Int:=4+m*m+k*(m*m)+(o*m+d)
theorem Tn{n:Net}{p h:Plan}(j:h.1=p.1)(u:h.2.2.1=p.2.2.1){d:Int}:∀(f:Nat) (o t:Int) (xs:Li),oG n h d f o t xs=oG n p d f o t xs
 |0,_,_,_=>rfl|f+1,o,t,xs=>by
  have e:∀p:Plan,oG n p d (f+1) o t xs=if o=d then(true,t,xs)else if cellAt p o d=-1 then(false,t,xs)else if bh xs=false then(false,t,xs)else
   if fS n o (cellAt p o d) p (hd xs) t=true then oG n p d f (bm n (cellAt p o d)).2.2.1 (nX (ag n o).1 (hd xs-2+p.1) (bm n (cellAt p o d)).2.2.2.1+(bm n (cellAt p o d)).2.2.2.2.1) (tl xs)else(false,t,tl xs):=λp=>rfl
  have z:cellAt h o d=cellAt p o d:=by unfold cellAt;rw[u]
  have y:∀c x,fS n o c h x t=fS n o c p x t:=λc x=>by unfold fS;rw[j]
  rw[e,e,z,y,j,Tn j u f]
theorem tE{f g:Nat->Li->Option (Li)}:∀(m:Nat) (j:∀i,i<m->∀xs u,f i xs=some u->g i xs=some u) {xs u:Li},runN f m xs=some u->runN g m xs=some u
 |0,_,_,_,h=>h|m+1,j,xs,u,h=>by
  rw[runN]at h ⊢;obtain⟨A,z,y⟩:=xK.1 h;rw[tE m (λi G=>j i Z) z];exact j _ Z _ _ y
theorem VS{f:Nat->Li->Option (Li)}(u:∀i xs j,f i xs=some j->j=xs):∀(m:Nat) {xs j:Li},runN f m xs=some j->j=xs
 |0,_,_,h=>by cases h;rfl
 |m+1,xs,j,h=>by
  rw[runN]at h;obtain⟨A,z,y⟩:=xK.1 h;rw[u _ _ _ y,VS u m z]
theorem Oe{w:List Bool}{h:Li}{d x:Int}(u:Sv.gR w h d=0)(G:d<=x)(z:wkF w h x=true):Sv.fO w h d<=x:=by
 by_cases A:d+60<=x;have:=(Sv.lW u).2.1;omega;have hm:x∈Sv.dK w h d 60:=by
  unfold Sv.dK;exact xJ.2 ⟨vU.2 ⟨(x-d).toNat,wG.2 Z,Z⟩,z⟩
 have f:(Sv.dK w h d 60).Pairwise (· < ·):=by
  unfold Sv.dK;exact List.Pairwise.filter _ (qBi.2 (List.pairwise_lt_range.imp λh=>Z))
 unfold Sv.fO Sv.jP;cases j:Sv.dK w h d 60 with
 |nil=>rw[j]at hm;cases hm
 |cons y tl=>
  rw[j]at hm f;show y<=x;rcases wY.1 hm with rfl|hm;exact qL _;exact Int.le_of_lt ((xY.1 f).1 x hm)
theorem HE{c:Cal}{m t D:Int}(y:m<=1439)(f:Sv.mT c m t=0)(h:wkF c.2.1 c.2.2 D=true)(j:t<=nX c.1 D m):Sv.fX c m t<=nX c.1 D m:=by
 have u:Sv.fX c m t=Sv.gY c.1 (Sv.fO c.2.1 c.2.2 (Sv.d0F c m t)) m:=if_pos f;have hd:Sv.d0F c m t<=D:=by
  unfold nX at j;unfold Sv.d0F Sv.jy Sv.Oi;split<;>omega
 have:=Oe f hd h;rw[u];unfold Sv.gY nX;omega
theorem PY{n:Net}{p:Plan}{d:Int}(hu:usP n)(L:plP n p)(X:hC n d):∀(f k:Nat) (o t h:Int) (xs:Li),hC n o->(oG n p d f o h xs).1=true->t<=h->(Sv.iV n p.2.2.1 d k o t).2=0->
  ∃s,(Sv.iV n p.2.2.1 d k o t).1.getLast?=some s/\s.2.1<=(oG n p d f o h xs).2.1
 |f,k,o,t,h,xs,ho,j,ht,y=>by
  by_cases G:o=d;rw[Sv.oI k G];refine⟨(o,t,-1,-1),rfl,?_⟩;cases f with
  |zero=>exact ht|succ f=>unfold oG;rw[if_pos G];exact ht
  cases f with
  |zero=>exact absurd (vJ j) G|succ f=>
   have e:oG n p d (f+1) o h xs=if o=d then(true,h,xs)else if cellAt p o d=-1 then(false,h,xs)else if bh xs=false then(false,h,xs)else
    if fS n o (cellAt p o d) p (hd xs) h=true then oG n p d f (bm n (cellAt p o d)).2.2.1 (nX (ag n o).1 (hd xs-2+p.1) (bm n (cellAt p o d)).2.2.2.1+(bm n (cellAt p o d)).2.2.2.2.1) (tl xs)else(false,h,tl xs):=rfl
   rw[e]at j ⊢;rw[if_neg G]at j ⊢;by_cases h3:cellAt p o d=-1;rw[if_pos h3]at j;cases j;rw[if_neg h3]at j ⊢;by_cases h4:bh xs=false;rw[if_pos h4]at j;cases j;rw[if_neg h4]at j ⊢;by_cases h5:fS n o (cellAt p o d) p (hd xs) h=true;case neg=>rw[if_neg h5]at j;cases j
   rw[if_pos h5]at j ⊢;obtain⟨g1,g2⟩:=L.2.2.1 o d ho X;have g3:cellAt p o d<n.2.2.2.2.1.length/\(bm n (cellAt p o d)).2.1=o:=by
    unfold js at g1;rw[qV h3,xO,qC,qF,qF]at g1;exact g1
   obtain⟨_,lo,⟨m0,m1⟩,_⟩:=P5 hu (by omega:0<=cellAt p o d) g3.1;have A:Sv.nxt p.2.2.1 o d≠-1:=h3;have en:Sv.nxt p.2.2.1 o d=cellAt p o d:=rfl;by_cases u:Sv.od n (Sv.nxt p.2.2.1 o d) (Sv.aO n o t)=0;case neg=>rw[Sv.lJ k G A u]at y;exact absurd y u
   cases k with
   |zero=>rw[Sv.jf G A u]at y;cases y
   |succ k=>
    rw[Sv.je k G A u]at y ⊢;generalize hr:Sv.iV n p.2.2.1 d k (Sv.tH n (Sv.nxt p.2.2.1 o d)) (Sv.mV n (Sv.nxt p.2.2.1 o d) (Sv.aO n o t)+Sv.eJ n (Sv.nxt p.2.2.1 o d))=r at y ⊢;unfold Sv.BD at y ⊢;by_cases h7:r.2=0;case neg=>rw[if_neg h7]at y;exact absurd y h7
    rw[if_pos h7];unfold fS at h5;rw[qC,qF]at h5;obtain⟨w1,w2⟩:=h5;have ok:Sv.bO (Sv.aO n o t)=true:=by
     cases hk:Sv.bO (Sv.aO n o t)with
     |true=>rfl|false=>unfold Sv.od at u;rw[hk]at u;cases u
    have eF:Sv.cE n (Sv.nxt p.2.2.1 o d)=o:=g3.2;have eE:Sv.od n (Sv.nxt p.2.2.1 o d) (Sv.aO n o t)=Sv.mT (ag n o) (bm n (cellAt p o d)).2.2.2.1 (Sv.aO n o t):=by
     unfold Sv.od;rw[if_pos ok,eF];rfl
    have eD:Sv.mV n (Sv.nxt p.2.2.1 o d) (Sv.aO n o t)=Sv.fX (ag n o) (bm n (cellAt p o d)).2.2.2.1 (Sv.aO n o t):=by
     unfold Sv.mV;rw[if_pos ok,eF];rfl
    rw[eE]at u;have hrd:Sv.aO n o t<=nT n o h:=by
     show t+_<=h+_;exact Int.add_le_add_right ht _
    have z:=HE m1 u w1 Z;rw[<- eD]at z;obtain⟨s,s1,s2⟩:=PY hu L X f k _ (Sv.mV n (Sv.nxt p.2.2.1 o d) (Sv.aO n o t)+Sv.eJ n (Sv.nxt p.2.2.1 o d)) _ (tl xs) lo j (by
     have e9:Sv.eJ n (Sv.nxt p.2.2.1 o d)=(bm n (cellAt p o d)).2.2.2.2.1:=rfl;rw[e9];exact Int.add_le_add_right z _) (by have e8:(bm n (cellAt p o d)).2.2.1=Sv.tH n (Sv.nxt p.2.2.1 o d):=rfl;rw[e8,hr];exact h7)
    have e8:(bm n (cellAt p o d)).2.2.1=Sv.tH n (Sv.nxt p.2.2.1 o d):=rfl;rw[e8,hr]at s1;refine⟨s,?_,s2⟩;show([_]++r.1).getLast?=_;rw[List.getLast?_append,s1];rfl
theorem U0{w:List Bool}{h:Li}{a b c:Int}(j:a<=b+1)(f:b<=c):fu w h a c=fu w h a b++fu w h (b+1) c:=by
 unfold fu;rw[show(c+1-a).toNat=(b+1-a).toNat+(c+1-(b+1)).toNat by omega,List.range_add,wV,yF,qBb];congr 2;refine zS λi _=>?_;show a+((_+i:Nat):Int)=_;omega
theorem ZE{w:List Bool}{h:Li}{a b x:Int}(u:a<=x)(j:x<=b)(f:wkF w h x=true):x∈fu w h a b:=by
 unfold fu;exact xJ.2 ⟨vU.2 ⟨(x-a).toNat,wG.2 Z,Z⟩,f⟩
theorem add_lt{w:List Bool}{h:Li}{D:Int}(j:wkF w h D=true):∀(k:Nat) {B e:Int},Sv.Iu w h k B=some e->e<D->k+1<=(fu w h (B+1) D).length
 |0,B,e,g,f=>by
  cases g;exact List.length_pos_of_mem (ZE Z (qL _) j)
 |k+1,B,e,g,f=>by
  unfold Sv.Iu at g;obtain⟨y,z,u⟩:=xK.1 g;have hm:y∈Sv.dK w h (B+1) 60:=gK (by unfold Sv.jP at z;rw[z];rfl);obtain⟨G,L,A⟩:=Sv.pE hm;have hb:=Sv.J6 k u;have X:=add_lt j k u f;rw[U0 (b:=y) Z Z,qG];have:=List.length_pos_of_mem (ZE (a:=B+1) (b:=y) G (qL _) A);omega
theorem ER{f:Nat->Li->Option (Li)}:∀(m:Nat) {xs j:Li},runN f m xs=some j->∀i,i<m->∃u v,f i u=some v
 |0,_,_,_,i,hi=>Z|m+1,xs,j,h,i,hi=>by
  rw[runN]at h;obtain⟨A,z,y⟩:=xK.1 h;rcases zO i m with g|g;exact ER m z i g;have:i=m:=by omega
  subst this;exact⟨_,_,y⟩
theorem aBm{n:Net}{l:Li}{k o d u:Int}(hn:Ab n)(hl:Ai l)(h:Acc n l)(hk:O1 n k)(ho:hC n o)(hd:hC n d)(G:jq (ai l) k o d≠-1)(hc:u∈jd n (ai l) k o):∃xs,sO n (ai l) k o d u xs=true:=by
 have A:=BH (Db hl h) h.pl h.fit;obtain⟨_,⟨q1,q2⟩,_,q4,q5⟩:=A;have f:=h.run;unfold xy st1 at f;rw[zJ]at f;have ek:((k.toNat:Nat):Int)=k:=vX hk.1;have eo:((o.toNat:Nat):Int)=o:=vX ho.1;have ed:((d.toNat:Nat):Int)=d:=vX hd.1;have hk1:=hk.2;have ho1:=ho.2;have hd1:=hd.2;obtain⟨u1,v1,r1⟩:=ER _ f k.toNat Z;rw[ek]at r1;have L:=q5 (dJ (ai l) k) (aN Z);obtain⟨u2,v2,X⟩:=ER _ r1 o.toNat Z;rw[eo]at X;have s2:=L.2 (cellsD (ai l) k o) (aN (by have:=L.1;show o.toNat<(dJ (ai l) k).length;omega));obtain⟨u3,v3,z⟩:=ER _ X d.toNat Z;rw[ed]at z;unfold xf at z;rw[if_neg G]at z;obtain⟨j,hj,ej⟩:=yD.1 hc;obtain⟨u4,v4,y⟩:=ER _ z j hj;unfold uJ at y;rw[qA,qB hj,vK,ej]at y;split at y;exact⟨_,by assumption⟩;cases y
theorem DV{n:Net}{l:Li}{k o d A:Int}{x1:ByteArray}(hn:Ab n)(hl:Ai l)(h:Acc n l)(G:Sv.UY n k o A=0)(h0:1440*(ai l).1<=Sv.PO n k o A)(h1:Sv.PO n k o A<1440*(ai l).2.1)
  (hw:Sv.NA n (ai l).2.2.1 o d A=0) (j:Sv.DK n (ai l).2.2.2 (x1,o,d,k,A)=0) {s:Sv.Stop} (hs:(Sv.xF n (ai l).2.2.1 o d A).getLast?=some s) (z:Sv.Ko n k d s.2.1=0):
  Sv.Yt n k d s.2.1<=Sv.PN n (ai l).2.2.2 (x1,o,d,k,A):=by
 have hpl:=BH (Db hl h) h.pl h.fit;have hu:usP n:=⟨h.us,hn⟩;have ha:Sv.oz n k o A=true:=by
  cases e:Sv.oz n k o A with
  |true=>rfl|false=>unfold Sv.UY at G;rw[e]at G;cases G
 have ha2:Sv.oz n k d s.2.1=true:=by
  cases e:Sv.oz n k d s.2.1 with
  |true=>rfl|false=>unfold Sv.Ko at z;rw[e]at z;cases z
 have hCE:Sv.mT (ag n o) (bz n k).2.1 A=0:=by unfold Sv.UY at G;rw[if_pos ha]at G;exact G
 have hCD:Sv.PO n k o A=Sv.fX (ag n o) (bz n k).2.1 A:=if_pos ha;have hLE:Sv.mT (ag n d) (bz n k).2.2 (nT n d s.2.1)=0:=by unfold Sv.Ko at z;rw[if_pos ha2]at z;exact z
 have hLD:Sv.Yt n k d s.2.1=Sv.fX (ag n d) (bz n k).2.2 (nT n d s.2.1):=if_pos ha2;unfold Sv.oz at ha ha2;simp only[qC]at ha ha2;have ik:O1 n k:=Sv.cC.1 ha.1.1.1;have io:hC n o:=Sv.cC.1 ha.1.1.2;have id':hC n d:=Sv.cC.1 ha2.1.1.2;have hA:0<=A/\A<=2000000:=Sv.Bj.1 ha.1.2;have hcl:=P6 hu ik;obtain⟨⟨z1,z2⟩,hw7,hsr⟩:=ki (yz hu io);obtain⟨f,u⟩:∃f,f=Sv.PO n k o A:=⟨_,rfl⟩;rw[<- u]at h0 h1;have eN:f=nX (ag n o).1 (Sv.fO (ag n o).2.1 (ag n o).2.2 (Sv.d0F (ag n o) (bz n k).2.1 A)) (bz n k).2.1:=by
  rw[u,hCD];exact if_pos hCE
 obtain⟨_,_,n3⟩:=Sv.lW (w:=(ag n o).2.1) (h:=(ag n o).2.2) (d:=Sv.d0F (ag n o) (bz n k).2.1 A) hCE;generalize Sv.fO (ag n o).2.1 (ag n o).2.2 (Sv.d0F (ag n o) (bz n k).2.1 A)=D0 at eN n3;have hD0:(ai l).1-1<=D0/\D0<=(ai l).2.1+1:=by
  unfold nX at eN;omega
 have hin:f∈jd n (ai l) k o:=by
  unfold jd;refine xJ.2 ⟨vU.2 ⟨D0,?_,?_⟩,?_⟩;unfold Nb;exact ZE hD0.1 hD0.2 n3;rw[eN];rfl;unfold sZ;rw[qP h0,qP h1];rfl
 have hAc:A<=f:=by
  have:=Sv.wm (c:=ag n o) (m:=(bz n k).2.1) (t:=A) (by have:=yz hu io;exact this) hCE hcl.1.1 hcl.1.2;rw[u,hCD];exact this.1
 have hdo:Sv.JR n (ai l).2.2.2 (x1,o,d,k,A)=true:=by
  cases e:Sv.JR n (ai l).2.2.2 (x1,o,d,k,A)with
  |true=>rfl|false=>unfold Sv.DK at j;rw[e]at j;cases j
 have hdC:Sv.CQ n (x1,o,d,k,A)=0:=hCE;have hdD:Sv.aBG n (x1,o,d,k,A)=f:=by rw[u,hCD];rfl
 have hnum:¬Sv.ON (ai l).2.2.2 (x1,o,d,k,A)<0:=λg=>by
  unfold Sv.DK at j;rw[if_pos hdo,if_pos hdC,if_pos g]at j;cases j
 have eNum:Sv.ON (ai l).2.2.2 (x1,o,d,k,A)=jq (ai l) k o d:=rfl;have hAE:Sv.UX (ag n d).2.1 (ag n d).2.2 (Pm n d f) (jq (ai l) k o d)=0:=by
  have hx:=j;unfold Sv.DK at hx;rw[if_pos hdo,if_pos hdC,if_neg hnum]at hx;unfold Sv.JS Sv.TJ at hx;rw[hdD]at hx;exact hx
 have hDD:Sv.PN n (ai l).2.2.2 (x1,o,d,k,A)=nX (ag n d).1 (Sv.UD (ag n d).2.1 (ag n d).2.2 (Pm n d f) (jq (ai l) k o d)) (bz n k).2.2:=by
  unfold Sv.PN;rw[if_pos j];unfold Sv.TI Sv.TJ;rw[hdD];rfl
 rw[eNum]at hnum;obtain⟨xs,X⟩:=aBm hn hl h ik io id' Z hin;unfold sO at X;simp only[qC,qF]at X;obtain⟨pf,pd,pb,pn⟩:=X;have hwo:Sv.lK n (ai l).2.2.1 o d A=true:=by
  cases e:Sv.lK n (ai l).2.2.1 o d A with
  |true=>rfl|false=>unfold Sv.NA at hw;rw[e]at hw;cases hw
 have hwE:(Sv.iV n (ai l).2.2.1 d 19 o A).2=0:=by unfold Sv.NA at hw;rw[if_pos hwo]at hw;exact hw
 have hwL:Sv.xF n (ai l).2.2.1 o d A=(Sv.iV n (ai l).2.2.1 d 19 o A).1:=if_pos hwo;obtain⟨s',s1,s2⟩:=PY hu hpl id' 19 19 o A f xs io pf hAc hwE;rw[hwL,s1]at hs;cases hs;have hT:s.2.1<=sx n (ai l) o d f xs:=s2;obtain⟨L,hL⟩:∃L,L=GN n (ai l) k o d f xs:=⟨_,rfl⟩;have hLm:L∈fu (ag n d).2.1 (ag n d).2.2 (Pj (ag n d) (bz n k).2.2 (nT n d (sx n (ai l) o d f xs))) (Pj (ag n d) (bz n k).2.2 (nT n d (sx n (ai l) o d f xs))+59):=by
  unfold nk at pd;rw[hL];unfold GN OQ;cases e:Zd (ag n d) (bz n k).2.2 (nT n d (sx n (ai l) o d f xs))with
  |none=>rw[e]at pd;cases pd
  |some y=>
   unfold Zd at e;exact gK e
 obtain⟨L1,_,L3⟩:=PU hLm;have hmom:nT n d s.2.1<=nX (ag n d).1 L (bz n k).2.2:=by
  have g1:nT n d s.2.1<=nT n d (sx n (ai l) o d f xs):=Int.add_le_add_right hT _;generalize nT n d (sx n (ai l) o d f xs)=R at L1 g1;unfold Pj bf dj at L1;unfold nX;split at L1<;>omega
 have hdel:=HE hcl.2.2 hLE L3 hmom;rw[hLD,hDD];refine Int.le_trans hdel ?_;have hle:L<=Sv.UD (ag n d).2.1 (ag n d).2.2 (Pm n d f) (jq (ai l) k o d):=by
  unfold Sv.UX at hAE;unfold Sv.UD;split at hAE;case isFalse=>omega
  rename_i h200;rw[if_pos h200];cases e:Sv.Iu (ag n d).2.1 (ag n d).2.2 (jq (ai l) k o d).toNat (Pm n d f)with
  |none=>rw[e]at hAE;simp at hAE|some y=>
   show L<=y;rcases qCu y L with g|g;have:=add_lt L3 _ e g;unfold RU at pn;rw[<- hL]at pn;omega;exact g
 unfold nX;omega
end Go.Eng.In
