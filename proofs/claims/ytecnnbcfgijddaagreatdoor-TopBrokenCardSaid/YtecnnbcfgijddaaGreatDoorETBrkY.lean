/- TrDp -/
import Derived.Test.YtecnnbcfgijddaaGreatDoorETBrkE
import Derived.Test.YtecnnbcfgijddaaGreatDoorETBrkW
import Derived.Test.YtecnnbcfgijddaaGreatDoorETBrkX
import Derived.Test.YtecnnbcfgijddaaGreatDoorChecked
set_option linter.unusedSimpArgs false
set_option linter.unusedVariables false
set_option maxRecDepth 100000
noncomputable section
namespace Go.Eng.Sv
open Go.Proofs
def IM(w:List Bool)(h:Li):Nat->Int->Option Int|0,d=>some d|n+1,d=>(jT w h (d+1)).bind (IM w h n)
def Um(w:List Bool)(h:Li)(d n:Int):Int:=if n<=200 then(IM w h n.toNat d).getD 0 else 0
def UH(w:List Bool)(h:Li)(d n:Int):Int:=if n<=200 then(if(IM w h n.toNat d).isSome then 0 else 20)else 1
abbrev aDc(z:Int)(w:List Bool)(h:Li)(d n:Int):Prop:=aW z w h=true/\dH d=true/\0<=n
def Ul(w:List Bool)(h:Li)(d n i e:Int):Prop:=0<=i/\i<=n/\-1000000<=e/\e<=1000000+100*i/\IM w h (n-i).toNat e=IM w h n.toNat d
def cX(n:Net)(k:Int):Cla:=n.2.2.2.2.2.getD k.toNat (⟨#[]⟩,0,0)
abbrev aDV(n:Net)(k:Int):Prop:=0<=k/\k<n.2.2.2.2.2.length
abbrev aFr(n:Net)(k o t:Int):Prop:=(tO n o/\aDV n k)/\bO t=true
def aDR(n:Net)(k o t:Int):Int:=gu (aN n o) (cX n k).2.2 (aJ n o t)
def aDQ(n:Net)(k o t:Int):Int:=nV (aN n o) (cX n k).2.2 (aJ n o t)
def oV(n:Net)(k o t:Int):Bool:=((cA k n.2.2.2.2.2.length&&cA o n.2.2.2.1.length)&&bO t)&&aZ n
def Ye(n:Net)(k o t:Int):Int:=if oV n k o t=true then aDR n k o t else 0
def Ky(n:Net)(k o t:Int):Int:=if oV n k o t=true then aDQ n k o t else 1
def PG(n:Net)(k o t:Int):Int:=if oV n k o t=true then gu (aN n o) (cX n k).2.1 t else 0
def UJ(n:Net)(k o t:Int):Int:=if oV n k o t=true then nV (aN n o) (cX n k).2.1 t else 1
def rU(m:Int)(t:Lj):Bool:=decide ((t.length:Int)=m)&&t.all λr=>decide ((r.length:Int)=m)
def C7(n:Net)(f:List (Lj)):Bool:=decide ((f.length:Int)=n.2.2.2.2.2.length)&&f.all (rU n.2.2.2.1.length)
abbrev fitsT(f:List (Lj)):Prop:=f.length<=1000000/\∀t∈f,jb t
def Nb(n:Net)(f:List (Lj))(k:Int):Prop:=0<=k/\k<=f.length/\(f.length:Int)=n.2.2.2.2.2.length/\(f.take k.toNat).all (rU n.2.2.2.1.length)=true
def C6(n:Net)(t:Lj)(k:Int):Prop:=0<=k/\k<=t.length/\(t.length:Int)=n.2.2.2.1.length/\(t.take k.toNat).all (λr=>decide ((r.length:Int)=n.2.2.2.1.length))=true
def J4(n:Net)(f:List (Lj))(x:ByteArray×Int×Int×Int×Int):Bool:=((C7 n f&&cA x.2.2.2.1 n.2.2.2.2.2.length)&&(cA x.2.1 n.2.2.2.1.length&&cA x.2.2.1 n.2.2.2.1.length))&&((decide (0<=x.2.2.2.2)&&decide (x.2.2.2.2<=1000000))&&aZ n)
def OL(f:List (Lj))(x:ByteArray×Int×Int×Int×Int):Int:=((f.getD x.2.2.2.1.toNat []).getD x.2.1.toNat []).getD x.2.2.1.toNat 0
def aBm(n:Net)(x:ByteArray×Int×Int×Int×Int):Int:=gu (aN n x.2.1) (cX n x.2.2.2.1).2.1 x.2.2.2.2
def CZ(n:Net)(x:ByteArray×Int×Int×Int×Int):Int:=nV (aN n x.2.1) (cX n x.2.2.2.1).2.1 x.2.2.2.2
def Tq(n:Net)(x:ByteArray×Int×Int×Int×Int):Int:=jD (aN n x.2.2.1).1 (aBm n x)
def J5(n:Net)(f:List (Lj))(x:ByteArray×Int×Int×Int×Int):Int:=UH (aN n x.2.2.1).2.1 (aN n x.2.2.1).2.2 (Tq n x) (OL f x)
def Tn(n:Net)(f:List (Lj))(x:ByteArray×Int×Int×Int×Int):Int:=Um (aN n x.2.2.1).2.1 (aN n x.2.2.1).2.2 (Tq n x) (OL f x)
def DV(n:Net)(f:List (Lj))(x:ByteArray×Int×Int×Int×Int):Int:=if J4 n f x=true then if CZ n x=0 then if OL f x<0 then 170 else J5 n f x else CZ n x else 1
def PE(n:Net)(f:List (Lj))(x:ByteArray×Int×Int×Int×Int):Int:=if DV n f x=0 then ij (aN n x.2.2.1).1 (Tn n f x) (cX n x.2.2.2.1).2.2 else 0
def aGH(w:List Bool)(h:Li)(d n:Int):Ann:=⟨λf s=>match f with
 |4=>some {α:=Int×Int,inv:=λx=>Ul w h d n (p1 x) (p2 x),st:=λx=>oG (put s [(27,.dat I (p1 x))]) 0 (.var [.dat I (p2 x)]),μ:=λx=>Dc (Dk n (p1 x))}|7=>some {α:=Nat,inv:=λk=>isZ k,st:=λ_=>flat s,μ:=λk=>k}|_=>none,λ_ _=>none,λ_ _=>none⟩
def cAdd:Cfg:={aFZ KR1 with mb:=λt=>t==4}
def aFt(n:Net)(f:List (Lj)):Ann:=⟨λh s=>match h with
 |4=>some {α:=Int,inv:=λk=>Nb n f k,st:=λk=>put s [(19,.dat I k)],μ:=λk=>Dc (Dk (Di f) k)}|9=>match s.sig.T 31 with
  |.dat (.sl (.sl (.int .i64))) t=>some {α:=Int,inv:=λk=>C6 n t k,st:=λk=>put s [(33,.dat I k)],μ:=λk=>Dc (Dk (Di t) k)}|_=>none
 |_=>none,λ_ _=>none,λ_ _=>none⟩
abbrev HE:=aA [.row C,.val I,.val I] (λ(c,d,n,_)=>aDc c.1 c.2.1 c.2.2 d n) λ(c,d,n,_)=>.tup [.dat I (Um c.2.1 c.2.2 d n),.dat I (UH c.2.1 c.2.2 d n)]
abbrev Hw:=aA [.ptr N,.val (.sl M)] (λ(_,f,_)=>fitsT f) λ(n,f,_)=>.dat .bool (C7 n f)
abbrev MJ:=aA [.ptr N,.val I,.val I,.val I] (λ(n,k,o,t,_)=>aFr n k o t) λ(n,k,o,t,_)=>.tup [.dat I (aDR n k o t),.dat I (aDQ n k o t)]
def KRD:Kt:=kOr 73 HE <|
 kOr 67 Hw <|
 kOr 110 MJ KR5
def aGG:Cfg:={mkp KRD (λ_=>false) KPw (λf=>f==68||f==46)with rng:=true}
theorem Wv(A:LC)(u j:LB)(z:Lo)(y:Ll)(f:Lk)(h:noF (A,u,j,z,y,f)=true):∀x∈f,lr x=true:=
 ((oK (by decide) (λl:Cla=>l.1) lr f).1 (nh A u j z y f h).2.2.2.2.2).2.2.2
theorem Iw(A:LC)(u j:LB)(z:Lo)(y:Ll)(f:Lk){k:Int}(h:noF (A,u,j,z,y,f)=true)(L:aDV (A,u,j,z,y,f) k):(0<=(cX (A,u,j,z,y,f) k).2.1/\(cX (A,u,j,z,y,f) k).2.1<=1439)/\0<=(cX (A,u,j,z,y,f) k).2.2/\(cX (A,u,j,z,y,f) k).2.2<=1439:=by
 obtain⟨X,G⟩:=L;have G:k<(f.length:Int):=G;have hm:cX (A,u,j,z,y,f) k∈f:=by
  show f.getD k.toNat _∈f;rw[qA,qB Z,vJ];exact wS _
 have:=Wv A u j z y f h _ hm;unfold lr cQ at this;simp only[qE,qF]at this;omega
theorem BA{t:Int}:bO t=true↔0<=t/\t<=2000000:=by unfold bO;rw[qF]
theorem uO(A:LC)(j f:LB)(z:Lo)(u:Ll)(y:Lk){o t:Int}(h:tO (A,j,f,z,u,y) o):t+1<=aJ (A,j,f,z,u,y) o t/\aJ (A,j,f,z,u,y) o t<=t+960:=by
 obtain⟨_,_,_,g1,X,L,G⟩:=jS A j f z u y h;unfold aJ;have h1:1*1<=(di (A,j,f,z,u,y) o).2.2.2.2.1*(di (A,j,f,z,u,y) o).2.2.2.2.2.1:=qAd g1 L (by decide) Z;have h2:(di (A,j,f,z,u,y) o).2.2.2.2.1*(di (A,j,f,z,u,y) o).2.2.2.2.2.1<=4*240:=qAd X G Z (by decide);omega
theorem Kv{w:List Bool}{h:Li}:∀(k:Nat) {d e:Int},IM w h k d=some e->d<=e/\e<=d+61*k
 |0,d,e,g=>by cases g;omega
 |k+1,d,e,g=>by
  unfold IM at g;obtain⟨y,f,j⟩:=xJ.1 g;have hm:y∈dM w h (d+1) 60:=gK (by unfold jT at f;rw[f];rfl);have:=pS hm;have:=Kv k j;omega
theorem aB9:eO 73 HE:=af λ(((z:Int),(w:List Bool),(h:Li)),(d:Int),(n:Int),_)=>by
 refine zF (c:=cAdd) (A:=(lvA [(4,[3,4,6,7,8,9,26,27,33])] (aGH w h d n))) aFI aA8 hm (p:=let c1:=Dj (aW z w h);let c2:=Dj c1;let c3:=Dy c1 true (Dj (dH d));let c4:=Dj c3;let c5:=Dy c3 true (Dn n 0);let X:=Dj c5;let c7:=Dy c5 true (Ee n 200);let c8:=Um w h d n;let A:=UH w h d n;let u:=(z,w,h);true/\(aDc z w h d n->True/\(c2->1=1)/\(c2->0=0)/\L5 c2 ((c2->True)/\L5 c2 ((Dh true c2->c2)/\L5 c4 ((Dh true c4->c4)/\L5 X ((Dh true X->X)/\(c7->0=c8/\1=A/\True)/\(c7=false->(∃x,Ul w h d n (p1 x) (p2 x)/\T6 u 1 0 0 n (0=p1 x/\d=p2 x/\True))/\∀(x:Int×Int),let j:=p2 x+1;let c12:=dM w h j 60;let L:=p1 x+1;Ul w h d n (p1 x) (p2 x)->(Dn (p1 x) n->T4 1 0 1 0 (inR .i64 j/\Dl w=7/\OP w h j 60/\(∃f,isZ f/\f=0/\u=u/\1=1/\0=0/\0=0/\1=1/\0=0/\0=0/\n=n/\p1 x=p1 x/\Dn (p1 x) n=Dn (p1 x) n/\z=z/\w=w/\h=h/\p2 x=p2 x/\j=j/\j=j/\(60:Int)=(60:Int)/\w=w/\u=u/\p2 x=p2 x/\false=false/\True)/\(∀(f:Nat) (y:Int),isZ f->oL c12 f y->w6 1 0 1 0 1 0 ((Dj true->0=c8/\20=A/\True)/\(Dj true=false->inR .i64 L/\∃G,Ul w h d n (p1 G) (p2 G)/\(T6 u 1 0 0 n (L=p1 G/\y=p2 G/\True))/\Dc (n-p1 G)<Dc (n-p1 x))))/\∀(f:Nat),isZ f->f=Dl c12->L7 1 0 ((Dj false->0=c8/\20=A/\True)/\(Dj false=false->inR .i64 L/\∃y,Ul w h d n (p1 y) (p2 y)/\(T6 u 1 0 0 n (L=p1 y/\p2 x=p2 y/\True))/\Dc (n-p1 y)<Dc (n-p1 x)))))/\(Dn (p1 x) n=false->L7 1 0 (p2 x=c8/\0=A/\True))))))))) ⟨rfl,λ⟨hv,hd,n1⟩=>?_⟩;have hc:=Ds hv;have hd':=okd hd;simp only[hv,hd];refine Z9 ?_;refine⟨λh=>?_,λ⟨_,h200⟩=>?_⟩;have:¬n<=200:=by
  rcases h with(h|h)|h;simp at h;omega;omega
 unfold Um UH;rw[if_neg this,if_neg this];exact⟨rfl,rfl⟩;have hle:n<=200:=Z;have eD:Um w h d n=(IM w h n.toNat d).getD 0:=if_pos hle;have eE:UH w h d n=if(IM w h n.toNat d).isSome then 0 else 20:=if_pos hle;refine⟨⟨(0,d),⟨qN _,n1,by simp only[p2];omega,by simp only[p1,p2];omega,by simp only[p1,p2,Int.sub_zero]⟩,rfl,rfl⟩,λx hx=>⟨λhlt=>?_,λhge=>?_⟩⟩;obtain⟨i,e⟩:=x;obtain⟨i0,i1,i2,i3,L⟩:=hx;simp only[p1,p2]at i0 i1 i2 i3 L hlt ⊢;have hsub:(n-i).toNat=(n-(i+1)).toNat+1:=Z;rw[hsub]at L;refine⟨⟨Z,Z⟩,hc.1,⟨hc,Z,Z,Z,Z⟩,rfl,λk y hk hy=>⟨λh=>by simp at h,?_⟩,λk hk hl=>⟨?_,λh=>by simp at h⟩⟩;have hk:k=0:=hk;subst hk;have hy:(dM w h (e+1) 60)[0]?=some y:=hy;obtain⟨m1,m2,m3⟩:=pS (qZ hy);have X:jT w h (e+1)=some y:=by
  unfold jT;rw[qBr];exact hy
 refine⟨⟨Z,Z⟩,(i+1,y),⟨by simp only[p1];omega,by simp only[p1];omega,by simp only[p2];omega,by simp only[p1,p2];omega,?_⟩,⟨rfl,rfl⟩,by simp only;omega⟩;simp only[p1,p2];rw[<- L];simp only[IM,X,Option.bind_some];have hk:k=0:=hk;subst hk;have X:jT w h (e+1)=none:=by
  unfold jT;rw[vK hl.symm];rfl
 have:IM w h n.toNat d=none:=by
  rw[<- L];simp only[IM,X,Option.bind_none]
 simp[eD,eE,this];obtain⟨i,e⟩:=x;obtain⟨i0,i1,i2,i3,L⟩:=hx;simp only[p1,p2]at i0 i1 i2 i3 L hge ⊢;rw[show(n-i).toNat=0 by omega]at L;have:IM w h n.toNat d=some e:=by rw[<- L];rfl
 simp[eD,eE,this]
theorem aBW:eO 67 Hw:=af λ(((cs,ns,os,X,ls,ks):Net),(j:List (Lj)),_)=>by
 refine zE (A:=(lvA [(4,[0,4,6,8,17,18,19,31,32,33]),(9,[0,4,6,8,17,18,19,31,32,33])] (aFt (cs,ns,os,X,ls,ks) j))) (p:=let z:=Di j;let c2:=Ea z (Di ks);let u:=(cs,ns,os,X,ls,ks);let c4:=C7 u j;let c5:=Di X;(fitsT j->(c2->false=c4/\True)/\(c2=false->(∃x,Nb u j x/\Q4 u j z (0=x/\True))/\∀(x:Int),let h:=Dw j (Dc x) (Du (Li));let A:=Di h;let c8:=Ea A c5;let G:=x+1;Nb u j x->(Dn x z->0<=x/\x<z/\(c8->false=c4/\True)/\(c8=false->(∃f,C6 u h f/\T7 u h j z x h A (0=f/\True))/\∀(f:Int),let c10:=Ea (Di (Dw h (Dc f) [])) c5;let c11:=f+1;C6 u h f->(Dn f A->0<=f/\f<A/\(c10->false=c4/\True)/\(c10=false->inR .i64 c11/\∃y,C6 u h y/\(T7 u h j z x h A (c11=y/\True))/\Dc (A-y)<Dc (A-f)))/\(Dn f A=false->inR .i64 G/\∃y,Nb u j y/\(Q4 u j z (G=y/\True))/\Dc (z-y)<Dc (z-x))))/\(Dn x z=false->true=c4/\True)))) aD2 λhp=>?_;refine Z9 ?_;obtain⟨f1,f2⟩:=hp;have ec:C7 (cs,ns,os,X,ls,ks) j=(decide ((j.length:Int)=ks.length)&&j.all (rU X.length)):=rfl;have two:∀{x:Int},0<=x->x<j.length->rU X.length (j.getD x.toNat [])=false->false=C7 (cs,ns,os,X,ls,ks) j:=λ{x} h0 h1 L=>by
  rw[ec,lH (l:=j) (d:=[]) (k:=x.toNat) Z L,kZ]
 refine⟨λh=>by rw[ec,qY h];rfl,λh=>⟨⟨qN _,qU _,h,rfl⟩,λx ⟨x0,x1,x2,x3⟩=>⟨λG=>⟨x0,G,λL=>two x0 G (by unfold rU;rw[qY L];rfl),λhr=>⟨⟨qN _,qU _,hr,rfl⟩,λy ⟨y0,y1,y2,y3⟩=>⟨λhly=>⟨y0,hly,λL=>two x0 G ?_,λL=>⟨?_,y+1,⟨Z,Z,y2,?_⟩,rfl,Z⟩⟩,λhgy=>⟨?_,x+1,⟨Z,Z,x2,?_⟩,rfl,Z⟩⟩⟩⟩,λhge=>?_⟩⟩⟩;unfold rU;rw[lH (l:=j.getD x.toNat []) (d:=[]) (k:=y.toNat) Z (qY L),kZ];have:=(f2 _ (getD_mem (l:=j) (i:=x.toNat) (d:=[]) Z)).1;exact qj Z;rw[show(y+1).toNat=y.toNat+1 by omega];exact eQ (d:=[]) y3 Z (qR L);exact qj Z;rw[show(x+1).toNat=x.toNat+1 by omega];refine eQ (d:=[]) x3 Z ?_;rw[qM Z]at y3;unfold rU;rw[qR hr,y3];rfl;rw[qM Z]at x3;rw[ec,qR h,x3];rfl
theorem aEK:eO 110 MJ:=af λ(((L,u,j,G,y,f):Net),(k:Int),(o:Int),(t:Int),_)=>by
 refine zE (A:=aG) (p:=let h:=(L,u,j,G,y,f);let c4:=(aN h o);let c5:=(Dw f (Dc k) (ByteArray.mk #[],(0:Int),(0:Int))).2.2;let z:=aJ h o t;(aFr h k o t->tO h o/\0<=k/\k<Di f/\Ab h o t/\MV c4 c5 z/\gu c4 c5 z=aDR h k o t/\nV c4 c5 z=aDQ h k o t/\True)) aD2 λhp=>?_;refine Z9 ?_;obtain⟨⟨z,X⟩,ht⟩:=hp;have ht:=BA.1 ht;have hr:=uO (t:=t) L u j G y f z;have hv:=(jS L u j G y f z).2.2.1;have hc:=(Iw L u j G y f z.1 X).2;exact⟨z,X.1,X.2,⟨z,Z,Z⟩,⟨hv,hc.1,by show(cX (L,u,j,G,y,f) k).2.2<1440;omega,Z,Z⟩,rfl,rfl⟩
theorem Ya:ay Tryz.prog G0 KRD:=ai aB9<|ai aBW<|ai aEK aD2
abbrev MM:=aA [.row N,.val I,.val I,.val I] (λ_=>True) λ(n,k,o,t,_)=>.tup [.dat I (Ye n k o t),.dat I (Ky n k o t)]
theorem aES:eO 43 MM:=af λ(((G,y,u,j,z,f):Net),(k:Int),(o:Int),(t:Int),_)=>by
 refine zE (A:=aG) (p:=let c1:=Dj (cA k (Di f));let L:=Dj c1;let c3:=Dy c1 true (Dj (cA o (Di j)));let X:=Dj c3;let c5:=Dy c3 true (Dj (bO t));let A:=Dj c5;let h:=(G,y,u,j,z,f);let c8:=Dy c5 true (Dj (aZ h));let c9:=Ye h k o t;let c10:=Ky h k o t;(True->True/\L5 L (Q3 L ((L->True)/\L5 L ((Dh true L->L)/\L5 X ((X->True)/\L5 X ((Dh true X->X)/\(A->True)/\L5 A ((Dh true A->A)/\(c8->0=c9/\1=c10/\True)/\(c8=false->aFr h k o t/\aDR h k o t=c9/\aDQ h k o t=c10/\True))))))))) Ya λhp=>?_;refine Z9 ?_;have ea:oV (G,y,u,j,z,f) k o t=(((cA k f.length&&cA o j.length)&&bO t)&&aZ (G,y,u,j,z,f)):=rfl;refine⟨λh=>?_,λ⟨⟨⟨h1,h2⟩,h3⟩,h4⟩=>?_⟩;have:oV (G,y,u,j,z,f) k o t=false:=by
  rw[ea];rcases h with((h|h)|h)|h<;>rw[h]<;>simp
 unfold Ye Ky;rw[this];exact⟨rfl,rfl⟩;have:oV (G,y,u,j,z,f) k o t=true:=by rw[ea,h1,h2,h3,h4];rfl
 have e1:=cE.1 h1;have e2:=cE.1 h2;unfold Ye Ky;rw[this];exact⟨⟨⟨⟨gZ G y u j z f h4,e2.1,e2.2⟩,e1⟩,h3⟩,rfl,rfl⟩
abbrev MN:=aA [.row N,.val I,.val I,.val I] (λ_=>True) λ(n,k,o,t,_)=>.tup [.dat I (PG n k o t),.dat I (UJ n k o t)]
theorem t_Cut:eO 42 MN:=af λ(((G,y,u,j,z,f):Net),(k:Int),(o:Int),(t:Int),_)=>by
 refine zE (A:=aG) (p:=let c1:=Di f;let c2:=Dj (cA k c1);let L:=Dj c2;let c4:=Dy c2 true (Dj (cA o (Di j)));let c5:=Dj c4;let c6:=Dy c4 true (Dj (bO t));let h:=Dj c6;let X:=(G,y,u,j,z,f);let c9:=Dy c6 true (Dj (aZ X));let c10:=PG X k o t;let c11:=UJ X k o t;let A:=(aN X o);let c15:=(Dw f (Dc k) (ByteArray.mk #[],(0:Int),(0:Int))).2.1;(True->True/\L5 L (Q3 L ((L->True)/\L5 L ((Dh true L->L)/\L5 c5 ((c5->True)/\L5 c5 ((Dh true c5->c5)/\(h->True)/\L5 h ((Dh true h->h)/\(c9->0=c10/\1=c11/\True)/\(c9=false->tO X o/\0<=k/\k<c1/\MV A c15 t/\gu A c15 t=c10/\nV A c15 t=c11/\True))))))))) Ya λhp=>?_;refine Z9 ?_;have ea:oV (G,y,u,j,z,f) k o t=(((cA k f.length&&cA o j.length)&&bO t)&&aZ (G,y,u,j,z,f)):=rfl;refine⟨λh=>?_,λ⟨⟨⟨h1,h2⟩,h3⟩,h4⟩=>?_⟩;have:oV (G,y,u,j,z,f) k o t=false:=by
  rw[ea];rcases h with((h|h)|h)|h<;>rw[h]<;>simp
 unfold PG UJ;rw[this];exact⟨rfl,rfl⟩;have:oV (G,y,u,j,z,f) k o t=true:=by rw[ea,h1,h2,h3,h4];rfl
 have e1:=cE.1 h1;have e2:=cE.1 h2;have ho:tO (G,y,u,j,z,f) o:=⟨gZ G y u j z f h4,e2.1,e2.2⟩;have ht:=BA.1 h3;have hv:=(jS G y u j z f ho).2.2.1;have hc:=(Iw G y u j z f ho.1 e1).1;unfold PG UJ;rw[this];exact⟨ho,e1.1,e1.2,⟨hv,hc.1,by show(cX (G,y,u,j,z,f) k).2.1<1440;omega,Z,Z⟩,rfl,rfl⟩
abbrev ML:=aA [.row N,.val (.sl M),.row Po] (λ(_,f,_)=>fitsT f) λ(n,f,x,_)=>.tup [.dat I (PE n f x),.dat I (DV n f x)]
theorem aER:eO 21 ML:=af λ(((G,y,u,j,z,f):Net),(L:List (Lj)),((x1:ByteArray),(x2:Int),(x3:Int),(X:Int),(x5:Int)),_)=>by
 refine zR (c:=aGG) (Kz:=Kcd) (A0:=aG) (A:=aG) (Ac:=aG) Za Ya tC hm Zc (p:=let c1:=(G,y,u,j,z,f);let c2:=C7 c1 L;let c3:=Di f;let c4:=Dy c2 (cA X c3) false;let c5:=(x1,x2,x3,X,x5);let A:=PE c1 L c5;let c7:=DV c1 L c5;let c8:=Di j;let h:=cA x2 c8;let c10:=Dy h (cA x3 c8) false;let c11:=Eb x5 0;let c12:=Dy c11 (Ef x5 1000000) false;let c13:=Dy c12 (aZ c1) false;let c14:=aN c1 x2;let c15:=c14.2;let c16:=(c14.1,c15.1,c15.2);let c17:=(Dw f (Dc X) (ByteArray.mk #[],(0:Int),(0:Int))).2;let c18:=c17.1;let c19:=nV c16 c18 x5;let c20:=isZero c19;let c21:=Dw L (Dc X) (Du (Li));let c22:=Dw c21 (Dc x2) [];let c23:=Dw c22 (Dc x3) 0;let c24:=Dn c23 0;let c25:=aN c1 x3;let c26:=c25.1;let c27:=c25.2;let c28:=c27.1;let c29:=c27.2;let c30:=gu c16 c18 x5;let c31:=jD c26 c30;let c32:=UH c28 c29 c31 c23;let c33:=isZero c32;let c34:=Um c28 c29 c31 c23;let c35:=c17.2;
  (true/\true)/\(fitsT L->true/\fitsT L/\(c2->c2->c2)/\(c2->c2->c2)/\(c2->c2->c2)/\(c2->c2->c2)/\(c2->c2->c2)/\(c2->True)/\(Dh true c2->c2)/\(true->True/\(c4=false->true/\true/\(Dj false->True/\z8 1 0 1 0 1 0 1 0 (0=A/\1=c7/\True))/\(Dj false=false->T4 1 0 1 0 (0=A/\0=c7/\True))))/\((true->c4)->(True/\c4)/\True/\(h->h->h)/\(h->h->h)/\(h->h->h)/\(h->h->h)/\(h->h->h)/\(h->True)/\(Dh true h->h)/\(true->True/\(c10=false->true/\true/\(Dj false->True/\z8 1 0 1 0 1 0 1 0 (0=A/\1=c7/\True))/\(Dj false=false->T4 1 0 1 0 (0=A/\0=c7/\True))))/\((true->c10)->(True/\c10)/\(c11->c11->c11)/\(c11->c11->c11)/\(Dh true c11->c11)/\(c12->True)/\(Dh true c12->c12)/\(true->True/\(c13=false->true/\true/\(Dj false->True/\z8 1 0 1 0 1 0 1 0 (0=A/\1=c7/\True))/\(Dj false=false->T4 1 0 1 0 (0=A/\0=c7/\True))))/\((true->c13)->(True/\c13)/\0<=X/\X<c3/\L7 1 0 (tO c1 x2/\Q4 1 1 0 (MV c16 c18 x5/\True/\(c20->tO c1 x2/\Q4 1 1 0 (MV c16 c18 x5/\(True/\c20)/\0<=X/\X<Di L/\0<=x2/\x2<Di c21/\0<=x3/\x3<Di c22/\(c24->(true->True/\(false=false->true/\true/\(Dj false->True/\z8 1 0 1 0 1 0 1 0 (0=A/\170=c7/\True))/\(Dj false=false->T4 1 0 1 0 (0=A/\0=c7/\True))))/\True)/\(c24=false->tO c1 x3/\T4 1 0 1 0 (ri c26 c28 c29 c30/\T4 1 0 1 0 (aDc c26 c28 c29 c31 c23/\Q4 1 1 0 (True/\(c33->T4 1 0 1 0 (aDc c26 c28 c29 c31 c23/\(True/\c33)/\Q4 1 1 0 (nT c26 c28 c29 c34 c35/\T4 1 0 1 0 (true/\true/\(Dj true->False)/\(Dj true=false->T4 1 0 1 0 (ij c26 c34 c35=A/\0=c7/\True))))))/\(c33=false->true/\true/\(Dj false->True/\z8 1 0 1 0 1 0 1 0 (0=A/\c32=c7/\True))/\(Dj false=false->T4 1 0 1 0 (0=A/\0=c7/\True)))))))))/\(c20=false->true/\true/\
  (Dj false->True/\z8 1 0 1 0 1 0 1 0 (0=A/\c19=c7/\True))/\(Dj false=false->T4 1 0 1 0 (0=A/\0=c7/\True)))))))))) ⟨⟨rfl,rfl⟩,λhp=>?_⟩
 refine Z9 ?_;have two:∀{p q:Prop},p->(p/\(false=true->q)):=λh=>⟨h,λh=>by cases h⟩;obtain⟨x,hx⟩:∃x:ByteArray×Int×Int×Int×Int,x=(x1,x2,x3,X,x5):=⟨_,rfl⟩;have eo:J4 (G,y,u,j,z,f) L x=((C7 (G,y,u,j,z,f) L&&cA X f.length)&&(cA x2 j.length&&cA x3 j.length)&&((decide (0<=x5)&&decide (x5<=1000000))&&aZ (G,y,u,j,z,f))):=by rw[hx];rfl
 have eC:gu ((aN (G,y,u,j,z,f) x2).1,(aN (G,y,u,j,z,f) x2).2.1,(aN (G,y,u,j,z,f) x2).2.2) (f.getD X.toNat (⟨#[]⟩,0,0)).2.1 x5=aBm (G,y,u,j,z,f) x:=by rw[hx];rfl
 have eE:nV ((aN (G,y,u,j,z,f) x2).1,(aN (G,y,u,j,z,f) x2).2.1,(aN (G,y,u,j,z,f) x2).2.2) (f.getD X.toNat (⟨#[]⟩,0,0)).2.1 x5=CZ (G,y,u,j,z,f) x:=by rw[hx];rfl
 have eN:((L.getD X.toNat []).getD x2.toNat []).getD x3.toNat 0=OL L x:=by rw[hx];rfl
 have eA:jD (aN (G,y,u,j,z,f) x3).1 (aBm (G,y,u,j,z,f) x)=Tq (G,y,u,j,z,f) x:=by rw[hx];rfl
 have eAE:UH (aN (G,y,u,j,z,f) x3).2.1 (aN (G,y,u,j,z,f) x3).2.2 (Tq (G,y,u,j,z,f) x) (OL L x)=J5 (G,y,u,j,z,f) L x:=by rw[hx];rfl
 have eAD:Um (aN (G,y,u,j,z,f) x3).2.1 (aN (G,y,u,j,z,f) x3).2.2 (Tq (G,y,u,j,z,f) x) (OL L x)=Tn (G,y,u,j,z,f) L x:=by rw[hx];rfl
 have eK:(f.getD X.toNat (⟨#[]⟩,0,0)).2.2=(cX (G,y,u,j,z,f) X).2.2:=rfl;have eDE:DV (G,y,u,j,z,f) L x=if J4 (G,y,u,j,z,f) L x=true then if CZ (G,y,u,j,z,f) x=0 then if OL L x<0 then 170 else J5 (G,y,u,j,z,f) L x else CZ (G,y,u,j,z,f) x else 1:=rfl;have eDD:PE (G,y,u,j,z,f) L x=if DV (G,y,u,j,z,f) L x=0 then ij (aN (G,y,u,j,z,f) x3).1 (Tn (G,y,u,j,z,f) L x) (cX (G,y,u,j,z,f) X).2.2 else 0:=by rw[hx];rfl
 rw[<- hx];simp only[eC,eE,eN,eA,eAE,eAD,eK];have bad:∀e,DV (G,y,u,j,z,f) L x=e->e≠0->0=PE (G,y,u,j,z,f) L x/\e=DV (G,y,u,j,z,f) L x:=λe he h0=>⟨by rw[eDD,if_neg (by rw[he];exact h0)],he.symm⟩;have arg:J4 (G,y,u,j,z,f) L x=false->0=PE (G,y,u,j,z,f) L x/\1=DV (G,y,u,j,z,f) L x:=λh=>bad 1 (by rw[eDE,h];rfl) (by decide);refine⟨hp,λh=>two (arg ?_),λh1=>⟨h1,λh=>two (arg ?_),λh2=>⟨h2,λh=>two (arg ?_),λh3=>⟨h3,?_⟩⟩⟩⟩;rw[eo];cases e1:C7 (G,y,u,j,z,f) L<;>cases e2:cA X f.length<;>simp;simp[h e1]at e2;rw[eo];cases e1:cA x2 j.length<;>cases e2:cA x3 j.length<;>simp;simp[h e1]at e2;rw[eo];by_cases e1:0<=x5<;>by_cases e2:x5<=1000000<;>simp[e1,e2];intros;exact h ⟨e1,e2⟩;obtain⟨a1,a2⟩:=h1;obtain⟨b1,b2⟩:=h2;obtain⟨⟨c1,c2⟩,c3⟩:=h3;have hok:J4 (G,y,u,j,z,f) L x=true:=by rw[eo,a1,a2,b1,b2,c3,qR (by omega:0<=x5),qR c2];rfl
 have hno:=gZ G y u j z f c3;have i4:=cE.1 a2;have i2:=cE.1 b1;have i3:=cE.1 b2;have o2:tO (G,y,u,j,z,f) x2:=⟨hno,i2.1,i2.2⟩;have o3:tO (G,y,u,j,z,f) x3:=⟨hno,i3.1,i3.2⟩;have v2:=(jS G y u j z f o2).2.2.1;have v3:=(jS G y u j z f o3).2.2.1;have hc:=Iw G y u j z f hno (k:=X) i4;have f2:MV ((aN (G,y,u,j,z,f) x2).1,(aN (G,y,u,j,z,f) x2).2.1,(aN (G,y,u,j,z,f) x2).2.2) (f.getD X.toNat (⟨#[]⟩,0,0)).2.1 x5:=⟨v2,hc.1.1,by show(cX (G,y,u,j,z,f) X).2.1<1440;omega,Z,Z⟩;unfold C7 rU at a1;simp only[qE,qF,qW]at a1;obtain⟨q1,q2⟩:=a1;have q1:(L.length:Int)=f.length:=q1;have r1:=q2 _ (getD_mem (l:=L) (i:=X.toNat) (d:=[]) Z);have r1a:((L.getD X.toNat []).length:Int)=j.length:=r1.1;have r2:(((L.getD X.toNat []).getD x2.toNat []).length:Int)=j.length:=r1.2 _ (getD_mem Z);have hE:DV (G,y,u,j,z,f) L x=if CZ (G,y,u,j,z,f) x=0 then if OL L x<0 then 170 else J5 (G,y,u,j,z,f) L x else CZ (G,y,u,j,z,f) x:=by rw[eDE,if_pos hok]
 refine⟨i4.1,i4.2,o2,f2,λhz=>?_,?_⟩;have hz0:=jY.1 hz;have hb:CZ (G,y,u,j,z,f) x=0->x5<=aBm (G,y,u,j,z,f) x/\aBm (G,y,u,j,z,f) x<=x5+90000:=λhz0=>by
  have:=w8 (c:=aN (G,y,u,j,z,f) x2) (m:=(cX (G,y,u,j,z,f) X).2.1) (t:=x5) v2 (by rw[hx]at hz0;exact hz0) hc.1.1 hc.1.2;rw[hx];exact this
 have hcb:=hb hz0;obtain⟨⟨z1,z2,_,_⟩,_⟩:=ez.1 v3;have hday:-1000<=Tq (G,y,u,j,z,f) x/\Tq (G,y,u,j,z,f) x<=10000:=by
  rw[<- eA];unfold jD;omega
 have hE2:DV (G,y,u,j,z,f) L x=if OL L x<0 then 170 else J5 (G,y,u,j,z,f) L x:=by rw[hE,if_pos hz0]
 refine⟨o2,f2,hz,i4.1,Z,i2.1,Z,i3.1,Z,λhneg=>two (bad 170 (by rw[hE2,if_pos hneg]) (by decide)),λhpos=>?_⟩;have hadd:aDc (aN (G,y,u,j,z,f) x3).1 (aN (G,y,u,j,z,f) x3).2.1 (aN (G,y,u,j,z,f) x3).2.2 (Tq (G,y,u,j,z,f) x) (OL L x):=⟨v3,jZ Z Z,Z⟩;have hE3:DV (G,y,u,j,z,f) L x=J5 (G,y,u,j,z,f) L x:=by rw[hE2,if_neg hpos]
 refine⟨o3,⟨v3,Z,Z⟩,hadd,λhz2=>?_,?_⟩;have hz3:=jY.1 hz2;have hb2:dH (Tn (G,y,u,j,z,f) L x)=true:=by
  rw[<- eAE]at hz3;rw[<- eAD];unfold UH at hz3;unfold Um;split at hz3;rename_i h200;rw[if_pos h200];cases ha:IM (aN (G,y,u,j,z,f) x3).2.1 (aN (G,y,u,j,z,f) x3).2.2 (OL L x).toNat (Tq (G,y,u,j,z,f) x)with
  |none=>rw[ha]at hz3;simp at hz3|some e=>
   have:=Kv _ ha;exact jZ (by show _<=e;omega) (by show e<=_;omega)
  omega
 exact⟨hadd,hz2,⟨v3,hb2,hc.2.1,Z⟩,(λh=>by simp at h),by rw[eDD,if_pos (by rw[hE3];exact hz3)],by rw[hE3];exact hz3.symm⟩;intro hz2;exact two (bad _ hE3 (jX.1 hz2));intro hz;exact two (bad _ (by rw[hE,if_neg (jX.1 hz)]) (jX.1 hz))
end Go.Eng.Sv
namespace Go.Eng.In
open Go.Proofs
abbrev I:Ty:=.int .i64
abbrev B:Ty:=.sl .bool
abbrev R:Ty:=.sl I
abbrev M:Ty:=.sl R
abbrev LC:Type:=List (Int×List Bool×Li)
abbrev LB:Type:=List ByteArray
abbrev C:Ty:=.pair I (.pair B R)
abbrev S:Ty:=.str
abbrev dP(t:TypeId)(e:Int):Value:=.iface t (.int .i64 e)
def big(x:Int):Prop:=-1000000000000<=x/\x<=1000000000000
def btw(x a b:Int):Bool:=decide (a<=x/\x<=b)
def bg(z t:Int):Int:=(t+z)/1440
def dr(z t:Int):Int:=(t+z)%1440
def oJ(z d m:Int):Int:=d*1440+m-z
def wkF(w:List Bool)(h:Li)(d:Int):Bool:=w.getD (d%7).toNat false&&!h.contains d
def XY(h:Li)(d:Int):Int:=((h.filter λx=>decide (x<d)).length:Int)
def srt(h:Li):Prop:=h.length<=1000000/\∀i j:Nat,i<j->j<h.length->h.getD i 0<h.getD j 0
def O2(h:Li)(d i j:Int):Prop:=0<=i/\i<=j/\j<=h.length/\(∀k:Nat,(k:Int)<i->h.getD k 0<d)/\∀k:Nat,j<=k->k<h.length->d<=h.getD k 0
def O3(h:Li)(d:Int):Bool:=h.contains d
def fV(z:Int)(w:List Bool)(h:Li):Bool:=decide (-720<=z/\z<=840/\w.length=7/\h.length<=40)&&(List.range (h.length-1)).all λi=>decide (h.getD i 0<h.getD (i+1) 0)
def CJ(h:Li)(k:Int):Prop:=1<=k/\(k<=h.length\/k=1)/\h.length<=40/\∀i:Nat,(i:Int)+1<k->h.getD i 0<h.getD (i+1) 0
def wkP(w:List Bool)(h:Li)(d:Int):Prop:=w.length=7/\srt h/\big d
def fy(w:List Bool)(h:Li)(a b:Int):Li:=((List.range (b+1-a).toNat).map λ(i:Nat)=>a+(i:Int)).filter λd=>wkF w h d
def gP(w:List Bool)(h:Li)(a d:Int):Nat:=(((List.range (d-a).toNat).map λ(i:Nat)=>a+(i:Int)).filter λd=>wkF w h d).length
def wdP(w:List Bool)(h:Li)(a b:Int):Prop:=w.length=7/\srt h/\big a/\big b
def aBe(a b d:Int):Prop:=a<=d/\(d<=b+1\/d=a)
def bm(xs:Li):Bool:=decide (0<xs.length)
def hd(xs:Li):Int:=xs.getD 0 0
def tl(xs:Li):Li:=xs.drop 1
def aGl:Kt:=λf args m=>none
def fU:List (Nat×AV):=[]
def KI0:FuncId->List AV->Option iD:=λ_ _=>none
noncomputable def mkc(K:Kt):Cfg:=⟨Tryz.prog,fU,K,λ_=>false,KI0,false,λ_ _ _=>none,λ_=>false⟩
noncomputable def Oe(K:Kt)(mb:Tmp->Bool)(h:KPt)(f:FuncId->Bool):Cfg:=⟨Tryz.prog,fU,K,mb,KI0,false,h,f⟩
def gk(s:St):St:={s with tm:=s.tm.map aBB}
def UO(h:Li):Ann:=Z8 4 Int (CJ h) (λs k=>put s [(3,.dat I k)]) λk=>Dc (Dk (Di h) k)
def bsA(h:Li)(d:Int):Ann:=Z8 3 (Int×Int) (λk=>O2 h d k.1 k.2) (λs k=>put s [(7,.dat I k.1),(8,.dat I k.2)]) λk=>Dc (Dk k.2 k.1)
abbrev MK:=aA [.val I,.val I,.val I] (λ_=>True) λ(x,a,b,_)=>.dat .bool (btw x a b)
abbrev Hk:=aA [.val I] (λ_=>True) λ_=>.dat .bool false
abbrev Hj:=aA [.val I] (λ_=>True) λ_=>.dat .bool false
def aGk:Kt:=kOr 82 MK <|
 kOr 259 Hk <|
 kOr 284 Hj aGl
abbrev Hm:=aA [.val I,.val I] (λ_=>True) λ(x,y,_)=>.dat .bool (Dn x y)
def aGj:Kt:=kOr 258 Hm aGk
abbrev R1:=aA [.val R,.val I] (λ(h,_,_)=>srt h) λ(h,d,_)=>.tup [.dat I (XY h d),.dat .bool (O3 h d)]
def aFU:Kt:=kOr 218 R1 aGj
def KPr:KPt:=pOr 29 (Ir [.val .bool,.val I] λ(b,e,_)=>⟨True,b,dP 38 e⟩) noP
abbrev Aw:=aA [.ptr C,.val I] (λ(c,d,_)=>wkP c.2.1 c.2.2 d) λ(c,d,_)=>.dat .bool (wkF c.2.1 c.2.2 d)
abbrev AL:=aA [.ptr C,.val I] (λ(c,t,_)=>big c.1/\big t) λ(c,t,_)=>.tup [.dat I (bg c.1 t),.dat I (dr c.1 t)]
abbrev MC:=aA [.ptr C,.val I,.val I] (λ(c,d,m,_)=>big c.1/\big d/\big m) λ(c,d,m,_)=>.dat I (oJ c.1 d m)
abbrev RY:=aA [.row C] (λ_=>True) λ(c,_)=>.dat .bool (fV c.1 c.2.1 c.2.2)
abbrev sq:=aA [.ptr C,.val I,.val I] (λ_=>True) λ(c,a,b,_)=>.fn 156 [.ip I a,.ip I b,.ipv (.ip C c)]
def aD6:Kt:=kOr 157 Aw <|
 kOr 92 AL <|
 kOr 88 MC <|
 kOr 84 RY <|
 kOr 87 sq <|
 kOr 29 (aA [.val .bool,.val I] (λ(b,_)=>True/\b=true) λ_=>.tup []) aFU
def wdA(w:List Bool)(h:Li)(a b:Int):IW:=⟨λf y=>match f with
 |1=>some {α:=Int,inv:=λd=>aBe a b d,st:=λd=>⟨put y.s [(5,.dat I d)],gP w h a d,true⟩,μ:=λd=>Dc (Dk (Dt b 1) d)}|_=>none,λ_ _=>none,λf=>f==3⟩
def cR:Cfg:=Oe aD6 (λ_=>false) KPr (λf=>f==29)
theorem aDU(x y:Bool):Dy x true y=(x||y):=by cases x<;>rfl
theorem TJ(x y:Bool):Dy x y false=(x&&y):=by cases x<;>rfl
theorem hm:Tryz.prog.follows .mixedOrders=true:=by kernel_rfl
theorem Yc:ay Tryz.prog fU aGl:=λf args m c h=>by cases h
theorem tC:aR Tryz.prog fU KI0:=λf args c h=>by cases h
theorem zE{K:Kt}{A:Ann}{f:FuncId}{args:List AV}{m:Mem}{r:lI}{p:Prop}(j:ay Tryz.prog fU K)(h:p)(e:evF (mkc K) A f args m r=(true=true/\p):=by kernel_rfl):aj Tryz.prog fU f args m r:=oy (c:=mkc K) j tC hm (by rw[e];exact⟨rfl,h⟩)
abbrev eO:=EO Tryz.prog fU
theorem oS{x a b:Int}:btw x a b=true↔a<=x/\x<=b:=by unfold btw;rw[qF]
theorem aO{α:Type}{l:List α}{i:Nat}{d:α}(h:i<l.length):l.getD i d∈l:=by
 rw[qA,qB h];exact wS h
theorem aEQ:eO 82 MK:=af λ((x:Int),(a:Int),(b:Int),_)=>by
 refine zE (A:=aG) (p:=let f:=Eb x a;(True->Q2 f ((Dh true f->Eb x a)/\Dy f (Ef x b) false=btw x a b/\True))) Yc λ_=>?_;refine Z9 ?_;unfold btw;simp
theorem aBM:eO 259 Hk:=af λ((x:Int),_)=>zE (A:=aG) (p:=(True->Ea x x=false/\True)) Yc λ_=>⟨by simp,trivial⟩
theorem aBL:eO 284 Hj:=af λ((x:Int),_)=>zE (A:=aG) (p:=(True->Ea x x=false/\True)) Yc λ_=>⟨by simp,trivial⟩
theorem aDk:ay Tryz.prog fU aGk:=ai aEQ<|ai aBM<|ai aBL Yc
theorem aBO:eO 258 Hm:=af λ((x:Int),(y:Int),_)=>by
 refine zE (A:=aG) (p:=let h:=Dy false (Dj false) false;let f:=Dj h;(True->True/\L5 false ((false->True)/\L5 false ((Dh true false->false)/\Q2 f ((Dh true f->f)/\Dy h true (Dn x y)=Dn x y/\True))))) aDk λ_=>?_;simp only[qc,Dh,Et,Dj,xH,Dy,cond_false,yV,wF,qDg]
theorem aDj:ay Tryz.prog fU aGj:=ai aBO aDk
theorem Qy{h:Li}(f:srt h){i j:Nat}(y:i<=j)(u:j<h.length):h.getD i 0<=h.getD j 0:=by
 rcases wW i j with g|g;exact Int.le_of_lt (f.2 i j g u);have:i=j:=by omega
 rw[this];exact qN _
theorem aC8{h:Li}{d i:Int}(A:srt h)(L:O2 h d i i):i=XY h d/\(O3 h d=true↔i<h.length/\h.getD i.toNat 0=d):=by
 obtain⟨h1,_,h3,z,y⟩:=L;constructor;unfold XY;have e:h=h.take i.toNat++h.drop i.toNat:=(xX _ _).symm;have l1:(h.take i.toNat).filter (λx=>decide (x<d))=h.take i.toNat:=List.filter_eq_self.2 λx u=>by
  obtain⟨k,f,rfl⟩:=yG.1 u;rw[qO]at f;have:=z k Z;rw[qA,qB Z]at this;rw[qCp];exact qR this
 have l2:(h.drop i.toNat).filter (λx=>decide (x<d))=[]:=qAp.2 λx u=>by
  obtain⟨k,f,rfl⟩:=yG.1 u;rw[vZ]at f;have:=y (i.toNat+k) Z Z;rw[qA,qB Z]at this;rw[List.getElem_drop];simpa using this
 rw[e,yJ,l1,l2,wH,qO];omega;unfold O3;rw[List.contains_iff_mem];constructor;intro hm;obtain⟨k,f,e⟩:=yG.1 hm;have e2:h.getD k 0=d:=by rw[qA,qB f];exact e
 have X:¬(k:Int)<i:=λg=>by have:=z k g;omega
 refine⟨Z,?_⟩;have:=Qy A (i:=i.toNat) (j:=k) Z f;have:=y i.toNat Z Z;omega;rintro⟨G,e⟩;rw[<- e];exact aO Z
theorem az{x:Int}(h:-4000000000000000<=x/\x<=4000000000000000):inR .i64 x:=⟨show(-9223372036854775808:Int)<=x by omega,show x<=9223372036854775807 by omega⟩
theorem aGo:eO 218 R1:=af λ((h:Li),(d:Int),_)=>by
 refine zE (A:=(lvA [(3,[0,1,4,5,6,7,8,9])] (bsA h d))) (p:=(srt h->(∃(x:Int×Int),O2 h d x.1 x.2/\T6 h d V6 false (Di h) (0=x.1/\Di h=x.2/\True))/\∀(x:Int×Int),let c1:=Dn x.1 x.2;let L:=x.1+x.2;let u:=Gl L 1;let c4:=Dn (Dw h (Dc u) 0) d;let X:=u+1;let j:=Dn x.1 (Di h);let z:=Ed (Dw h (Dc x.1) 0) d;let f:=Dh j (Dj z);O2 h d x.1 x.2->(c1->inR .i64 L/\inR IntKind.u64 L/\Dp 0 1/\Dc 1<=64/\inR .i64 u/\0<=u/\u<Di h/\True/\(c4->inR .i64 X/\∃(y:Int×Int),O2 h d y.1 y.2/\(T6 h d V6 false (Di h) (X=y.1/\x.2=y.2/\True))/\Dc (y.2-y.1)<Dc (x.2-x.1))/\(c4=false->∃(y:Int×Int),O2 h d y.1 y.2/\(T6 h d V6 false (Di h) (x.1=y.1/\u=y.2/\True))/\Dc (y.2-y.1)<Dc (x.2-x.1)))/\(c1=false->(j->j->j)/\(j->j->j)/\(j->0<=x.1)/\(j->x.1<Di h)/\(j->j->j)/\(j->j->j)/\(j->j->j)/\(j->j->j)/\(f->f->f)/\(f->f->f)/\(f->0<=x.1)/\(f->x.1<Di h)/\(f->f->f)/\(f->f->f)/\(f->True)/\(f->f->f)/\(Dh f false->Dh f false->Dh f false)/\(Dh f false->True)/\(f->f->f)/\(f->Dh f false->Dh f false)/\(j->j->j)/\(j->f->f)/\(Dh true j->j)/\x.1=XY h d/\Dy j (Dy z true (Dy false false false)) false=O3 h d/\True))) aDj λhs=>?_;have hl:=hs.1;refine⟨⟨(0,Di h),⟨qN _,qU _,qN _,λk g=>Z,λk g1 g2=>by simp only[Di]at g1;omega⟩,?_⟩,λ⟨i,j⟩=>?_⟩;simp;intro c1 L u c4 X c6 c7 f hi;have hi':=hi;obtain⟨h1,h2,h3,h4,h5⟩:=hi;have e3:u=(i+j)/2:=by
  show(i+j).fdiv (2 ^ (1:Int).toNat)=_;rw[qCm _ (by decide)];rfl
 have e2:L=i+j:=rfl;have e5:X=u+1:=rfl;have e1:c1=decide (i<j):=rfl;have e4:c4=decide (h.getD u.toNat 0<d):=rfl;have hiu:inR .u64 L:=by
  rw[e2];exact⟨show(0:Int)<=i+j by omega,show i+j<=18446744073709551615 by omega⟩
 clear_value c1 L u c4 X;constructor;intro G;rw[e1,qF]at G;refine⟨by rw[e2];exact az Z,hiu,by decide,by decide,az Z,by show(0:Int)<=u;omega,by show u<(h.length:Int);omega,trivial,λz=>?_,λz=>?_⟩;rw[e4,qF]at z;refine⟨by rw[e5];exact az Z,(X,j),⟨Z,Z,h3,λk hk=>?_,h5⟩,by simp,?_⟩;have:=Qy hs (i:=k) (j:=u.toNat) Z Z;omega;simp only[Dx,Dc,Dk];omega;rw[e4,wG]at z;refine⟨(i,u),⟨h1,Z,Z,h4,λk hk hk2=>?_⟩,by simp,?_⟩;have:=Qy hs (i:=u.toNat) (j:=k) Z Z;omega;simp only[Dx,Dc,Dk];omega
 .intro G;rw[e1,wG]at G;have:i=j:=Z;subst this;obtain⟨b1,b2⟩:=aC8 hs hi';have e6:c6=decide (i<h.length):=rfl;have e7:c7=decide (h.getD i.toNat 0=d):=rfl;have e8:f=(c6&&!c7):=rfl;clear_value c6 c7 f;have hlt:c6=true->i<(h.length:Int):=λg=>by rw[e6]at g;exact vO g
  have g8:f=true->c6=true:=λg=>by rw[e8,qE]at g;exact g.1
  simp only[qc,Dh,Et,Dj]
  and_intros
  all_goals first
   |exact λ_=>h1
   |exact hlt
   |exact λg=>hlt (g8 g)
   |exact b1
   |exact λg=>g8 g
   |skip
  rw[qDc,b2,e6,e7];simp
theorem IT:ay Tryz.prog fU aFU:=ai aGo aDj
theorem BP{a m:Int}(h:0<m):(a.tmod m+m).tmod m=a%m:=by
 have e:=qAx (a:=a) (b:=m);have z:=qAa a (show m≠0 by omega);have y:=kR a h;have u:(m.natAbs:Int)=m:=Z;have f:a.tmod m=a%m\/a.tmod m=a%m-m:=by
  rw[e];split;exact .inl Z;exact .inr Z
 have j:0<=a.tmod m+m:=Z;rw[qCk j];rcases f with f|f<;>rw[f];rw[Int.add_emod_right,Int.emod_emod_of_dvd _ (Int.dvd_refl _)];rw[Int.sub_add_cancel,Int.emod_emod_of_dvd _ (Int.dvd_refl _)]
theorem Zq:eO 157 Aw:=af λ(((z:Int),(w:List Bool),(h:Li)),(d:Int),_)=>by
 refine zE (A:=aG) (p:=let y:=Gg d 7+7;let j:=Gg y 7;let u:=Dj (Dw w (Dc j) false);(wkP w h d->Es 7 0/\inR .i64 y/\Es 7 0/\0<=j/\j<Di w/\(u->false=wkF w h d/\True)/\(u=false->srt h/\Dj (O3 h d)=wkF w h d/\True))) IT λ⟨L,X,hb⟩=>?_;have e:=BP (a:=d) (m:=7) (by decide);have G:=qAa d (show(7:Int)≠0 by decide);have n1:=kR d (show(0:Int)<7 by decide);have tb:-7<d.tmod 7/\d.tmod 7<7:=by
  have:=qAx (a:=d) (b:=7);split at this<;>omega
 simp only[Gg,Dt,e,Dj,Dw,Dc,Dp,Dq,Es,Di,L];refine⟨by decide,az Z,by decide,G,Z,λf=>⟨?_,trivial⟩,λf=>⟨X,?_,trivial⟩⟩;unfold wkF;rw[zB]at f;rw[f];rfl;unfold wkF O3;rw[kD]at f;rw[f];rfl
theorem ZH:eO 92 AL:=af λ(((z:Int),(w:List Bool),(h:Li)),(t:Int),_)=>by
 refine zE (A:=aG) (p:=let G:=Gg (t+z) 1440+1440;let y:=Gg G 1440;let u:=(t+z)-y;let j:=Gq u 1440;(big z/\big t->inR .i64 (t+z)/\Es 1440 0/\inR .i64 G/\Es 1440 0/\inR .i64 u/\Es 1440 0/\inR .i64 j/\j=bg z t/\y=dr z t/\True)) IT λ⟨L,X⟩=>?_;obtain⟨z1,z2⟩:=L;obtain⟨t1,t2⟩:=X;have e:=BP (a:=t+z) (m:=1440) (by decide);have n0:=qAa (t+z) (show(1440:Int)≠0 by decide);have n1:=kR (t+z) (show(0:Int)<1440 by decide);have tb:-1440<(t+z).tmod 1440/\(t+z).tmod 1440<1440:=by
  have:=qAx (a:=t+z) (b:=1440);split at this<;>omega
 have eq:(t+z-(t+z)%1440).tdiv 1440=(t+z)/1440:=by
  have:t+z-(t+z)%1440=1440*((t+z)/1440):=Z;rw[this,qCy _ (by decide)]
 have f:∀{x:Int},-4000000000000<=x->x<=4000000000000->inR .i64 x:=λ{x} h1 h2=>⟨show(-9223372036854775808:Int)<=x by omega,show x<=9223372036854775807 by omega⟩;simp only[Gg,Dt,Dk,Gq,e,eq];exact⟨f Z Z,by decide,f Z Z,by decide,f Z Z,by decide,f Z Z,rfl,rfl,trivial⟩
theorem aED:eO 88 MC:=af λ(((z:Int),(w:List Bool),(h:Li)),(d:Int),(m:Int),_)=>by
 refine zE (A:=aG) (p:=let y:=d*1440;let u:=y+m;let j:=u-z;(big z/\big d/\big m->inR .i64 y/\inR .i64 u/\inR .i64 j/\j=oJ z d m/\True)) IT λ⟨⟨L,G⟩,⟨d1,d2⟩,⟨m1,X⟩⟩=>?_;have f:∀{x:Int},-4000000000000000<=x->x<=4000000000000000->inR .i64 x:=λ{x} h1 h2=>⟨show(-9223372036854775808:Int)<=x by omega,show x<=9223372036854775807 by omega⟩;exact⟨f Z Z,f Z Z,f Z Z,rfl,trivial⟩
def DN(z:Int)(w:List Bool)(h:Li):Prop:=(-720<=z/\z<=840/\w.length=7/\h.length<=40)/\∀i:Nat,i+1<h.length->h.getD i 0<h.getD (i+1) 0
theorem jq{z:Int}{w:List Bool}{h:Li}:fV z w h=true↔DN z w h:=by
 unfold fV DN;rw[qE,qF,qW];refine and_congr_right λ_=>⟨λg i f=>?_,λg i f=>?_⟩;have:=g i (wJ.2 Z);simpa using this;have:=wJ.1 f;simpa using g i Z
theorem rM{z:Int}{w:List Bool}{h:Li}(j:¬DN z w h):false=fV z w h:=by
 cases f:fV z w h with
 |false=>rfl|true=>exact(j (jq.1 f)).elim
theorem PR{z:Int}{w:List Bool}{h:Li}(u:fV z w h=true):srt h:=by
 obtain⟨⟨_,_,_,L⟩,A⟩:=jq.1 u;refine⟨Z,λi j y G=>?_⟩;induction j with
 |zero=>omega|succ j f=>
  have:=A j Z;rcases wW i j with g|g;have:=f g Z;omega;have:i=j:=by omega
  rw[this];assumption
theorem aGm:eO 84 RY:=af λ(((z:Int),(w:List Bool),(h:Li)),_)=>by
 refine zE (A:=(lvA [(4,[1,2,3])] (UO h))) (p:=let c1:=Dj (btw z (-720) 840);let c2:=Dj c1;let c3:=Dy c1 true (Ea (Di w) 7);let c4:=Dj c3;let c5:=Dy c3 true (Ee (Di h) 40);let j:=(z,w,h);(True->True/\Q3 c2 ((Dh true c2->c2)/\Q3 c4 ((Dh true c4->c4)/\(c5->false=fV z w h/\True)/\(c5=false->(∃x,CJ h x/\j=j/\1=x/\True)/\∀(x:Int),let A:=Dn x (Di h);let u:=x-1;let G:=Ef (Dw h (Dc x) 0) (Dw h (Dc u) 0);let f:=x+1;CJ h x->(A->0<=x/\x<Di h/\inR .i64 u/\0<=u/\u<Di h/\(G->false=fV z w h/\True)/\(G=false->inR .i64 f/\∃y,CJ h y/\(j=j/\f=y/\True)/\Dc (Di h-y)<Dc (Di h-x)))/\(A=false->true=fV z w h/\True)))))) IT λ_=>?_;have eb:btw z (-720) 840=decide (-720<=z/\z<=840):=rfl;simp only[eb];refine Z9 ?_;refine⟨λhb=>rM λL=>?_,λ⟨⟨⟨h1,h2⟩,h3⟩,h4⟩=>⟨⟨qN _,.inr rfl,Z,λi hi=>Z⟩,λx j=>⟨λX=>?_,λhge=>(jq.2 ⟨⟨Z,Z,Z,Z⟩,λi hi=>j.2.2.2 i Z⟩).symm⟩⟩⟩;obtain⟨⟨g1,g2,g3,g4⟩,_⟩:=L;omega;have hx1:=j.1;have G:=j.2.2.1;refine⟨Z,X,az Z,Z,Z,λhle=>rM λL=>?_,λhn=>⟨az Z,x+1,⟨Z,Z,G,λi hi=>?_⟩,rfl,Z⟩⟩;have:=L.2 (x-1).toNat Z;rw[show(x-1).toNat+1=x.toNat by omega]at this;omega;by_cases e:(i:Int)+1<x;exact j.2.2.2 i e;have e1:(x-1).toNat=i:=by omega
 have e2:x.toNat=i+1:=Z;rw[e1,e2]at hn;omega
theorem P8:eO 87 sq:=af λ(((z:Int),(w:List Bool),(h:Li)),(a:Int),(b:Int),_)=>zE (A:=aG) (p:=let f:=(z,w,h);(True->u9 a b f)) IT λ_=>⟨rfl,rfl,rfl,trivial⟩
theorem aBJ(b:Bool)(e:Int):aj Tryz.prog fU 29 [.dat .bool b,.dat I e] [] ⟨True/\b=true,.tup [],[]⟩/\fq Tryz.prog fU 29 [.dat .bool b,.dat I e] [] ⟨True,b,dP 38 e⟩:=by
 refine zC (c:=mkc aFU) (A:=aG) (q:=⟨True,b,dP 38 e⟩) IT tC hm Aj (p:=let f:=chainOf (Value.iface 38 (Value.int .i64 e));true/\(True->(Dj b->(true->True/\(false=false->b=false/\true/\f=f))/\True)/\(Dj b=false->b/\True))) ⟨rfl,λ_=>⟨λh=>⟨λ_=>⟨trivial,λ_=>⟨?_,rfl,rfl⟩⟩,trivial⟩,λh=>⟨?_,trivial⟩⟩⟩;simpa using h;simpa using h
theorem aBX(e:Int):aj Tryz.prog fU 27 [.ifc 38 (.dat I e)] [] ⟨True,.dat I e,[]⟩:=
 zE (A:=aG) (p:=(True->(true->T5 e)/\(true=false->190=e/\True))) IT λ_=>⟨λ_=>⟨rfl,trivial⟩,λh=>by cases h⟩
theorem Uo:ay Tryz.prog fU aD6:=ai Zq<|ai ZH<|ai aED<|ai aGm<|ai P8<|ai (af λ(b,e,_)=>(aBJ b e).1) IT
theorem NB:bG Tryz.prog fU KPr:=mg (nA λ(b,e,_)=>(aBJ b e).2) Aj
theorem If{α:Type}{f:Nat->α}{p:α->Bool}{k:Nat}(u:p (f k)=true):∀N:Nat,k<N->(((List.range N).map f).filter p)[(((List.range k).map f).filter p).length]?=some (f k)
 |0,h=>Z|N+1,h=>by
  rw[yL,zS,yJ];rcases wW k N with y|y;have j:=If u N y;rw[vU (qC.1 j).1];exact j;have e:N=k:=by omega
  subst e;rw[qV (qL _),qAg];simp[u]
theorem Ub{w:List Bool}{h:Li}{a b x:Int}(y:a<=x)(u:x<=b)(j:wkF w h x=true):oL (fy w h a b) (gP w h a x) x:=by
 have e:a+((x-a).toNat:Int)=x:=Z;have:=If (f:=λ(i:Nat)=>a+(i:Int)) (p:=λd=>wkF w h d) (k:=(x-a).toNat) (by simp only[e];exact j) (b+1-a).toNat Z;simp only[e]at this;exact this
theorem A7{w:List Bool}{h:Li}{a x:Int}(f:a<=x):gP w h a (x+1)=gP w h a x+(if wkF w h x then 1 else 0):=by
 unfold gP;rw[show(x+1-a).toNat=(x-a).toNat+1 by omega,yL,zS,yJ,qG];have e:a+((x-a).toNat:Int)=x:=Z;congr 1;simp only[wV,qBf,e,yP,gU];split<;>simp_all
theorem OV(w:List Bool)(h:Li)(a:Int):gP w h a a=0:=by
 unfold gP;rw[show(a-a).toNat=0 by omega];rfl
theorem TG{w:List Bool}{h:Li}{a b x:Int}(f:aBe a b x)(j:¬x<=b):gP w h a x=(fy w h a b).length:=by
 unfold gP fy;have e:(x-a).toNat=(b+1-a).toNat:=by
  rcases f with⟨y,u|u⟩<;>omega
 rw[e]
theorem aEf(z a b:Int)(w:List Bool)(h:Li):lS Tryz.prog fU 156 [.ip I a,.ip I b,.ipv (.ip C (z,w,h))] ⟨wdP w h a b,I,fy w h a b⟩:=by
 refine zI (c:=mkc aD6) (A:=(wdA w h a b)) Uo tC hm (p:=let c1:=(z,w,h);let c2:=fy w h a b;let c3:=Dl c2;let c4:=b+1;true/\true/\true/\false=false/\∀(l:Nat),wdP w h a b->(∃x,aBe a b x/\(T4 l a b c1 (a=x/\T5 a))/\0=gP w h a x/\true)/\∀(x:Int),let X:=gP w h a x;let j:=X+1;let f:=x+1;let c8:=Dy (wkF w h x) (Dj false) false;aBe a b x->(Ef x b->wkP w h x/\(wkF w h x->(wkF w h x->wkF w h x)/\(wkF w h x->wkF w h x)/\l=l/\true/\oL c2 X x/\∀(u:Bool),let A:=Dy (wkF w h x) (Dj u) false;(Dh true (wkF w h x)->wkF w h x)/\(A->u->j=c3)/\(A=false->inR IntKind.i64 f/\∃y,aBe a b y/\((T4 l a b c1 (f=y/\T5 a))/\j=gP w h a y/\u)/\Dc (c4-y)<Dc (c4-x)))/\(wkF w h x=false->L5 (wkF w h x) ((Dh true (wkF w h x)->wkF w h x)/\(c8->true->X=c3)/\(c8=false->inR .i64 f/\∃y,aBe a b y/\((T4 l a b c1 (f=y/\T5 a))/\X=gP w h a y/\true)/\Dc (c4-y)<Dc (c4-x)))))/\(Ef x b=false->true->X=c3)) ⟨rfl,rfl,rfl,rfl,λl ⟨hw,hs,⟨a1,a2⟩,⟨b1,b2⟩⟩=>?_⟩;refine⟨⟨a,⟨qN _,.inr rfl⟩,⟨rfl,rfl,rfl,rfl,rfl,rfl,trivial⟩,(OV w h a).symm,rfl⟩,λx hx=>?_⟩;obtain⟨x1,x2⟩:=hx;refine⟨λj=>?_,λhge _=>TG ⟨x1,x2⟩ (by simpa using hge)⟩;have j:x<=b:=by simpa using j
 have hb:big x:=⟨Z,Z⟩;refine⟨⟨hw,hs,hb⟩,λf=>⟨λh=>h,λh=>h,rfl,rfl,Ub x1 j f,λbb=>⟨λ_=>f,λL hb1=>?_,λL=>?_⟩⟩,λf=>⟨λ_ h=>h,λ_=>?_,λh8 _=>?_,λh8=>?_⟩⟩;rw[f,hb1]at L;cases L;rw[f]at L;have:bb=true:=by simpa[Dy,Dj]using L
 refine⟨az Z,x+1,⟨Z,.inl Z⟩,⟨⟨rfl,rfl,rfl,rfl,rfl,rfl,trivial⟩,?_,this⟩,?_⟩;rw[A7 x1,f];rfl;simp only[Dx,Dc,Dk,Dt];omega;rename_i G;rw[f]at G;cases G;rw[f]at h8;cases h8;refine⟨az Z,x+1,⟨Z,.inl Z⟩,⟨⟨rfl,rfl,rfl,rfl,rfl,rfl,trivial⟩,?_,rfl⟩,?_⟩;rw[A7 x1,f];rfl;simp only[Dx,Dc,Dk,Dt];omega
theorem I7(xs:Li):aj Tryz.prog fU 154 [.ptr 1 1 0 0] [(1,.var [.dat R xs])] ⟨True/\bm xs=true,.dat I (hd xs),[(1,.var [.dat R (tl xs)])]⟩/\fq Tryz.prog fU 154 [.ptr 1 1 0 0] [(1,.var [.dat R xs])] ⟨True,bm xs,dP 38 190⟩:=by
 refine zM (c:=cR) (A:=aG) (q:=⟨True,bm xs,dP 38 190⟩) Uo tC hm NB (p:=let f:=Ee (Di xs) 0;let j:=chainOf (Value.iface 38 (Value.int .i64 (190:Int)));true/\(True->T6 1 1 1 1 0 ((true->True/\(f=false->bm xs=false/\true/\j=j))/\((true->f)->(True/\f)/\T4 1 1 1 0 (Dp 0 0/\0<Di xs/\T4 1 1 1 0 (Dp 0 1/\1<=Di xs/\T4 1 1 1 0 (bm xs/\Dw xs (Dc 0) 0=hd xs/\Fe xs 1=tl xs/\T5 1))))))) ⟨rfl,λ_=>?_⟩;have e:Ee (Di xs) 0=bm xs:=by unfold bm;simp
 simp only[e];refine Z9 ?_;refine λh=>?_;have u:0<xs.length:=by unfold bm at h;simpa using h
 exact⟨h,qN _,Z,by decide,Z,h,rfl,rfl⟩
abbrev Ce:Ty:=.pair R I
abbrev Pl:Ty:=.pair I (.pair I (.pair M (.sl M)))
abbrev Plan:=Int×Int×Lj×List (Lj)
abbrev Ar(l:Li):Prop:=l.length<=2000000000000000
abbrev aBk(l:Li):Prop:=l.length<=9223372036854775807
def sP(l:Li)(k:Int):Int:=(NR (1,0) (l.take k.toNat)).1
def sS(l:Li)(k:Int):Int:=(NR (1,0) (l.take k.toNat)).2
def rl(l:Li):Li:=l.map λx=>x%65521
def fR(l:Li):Int:=zu (rl l)
def jv(l:Li):Bool:=l.all λx=>btw x 0 65519
def du(l:Li)(s:Int):Bool:=jv l&&decide (s=zu l)
def aAp(l:Li)(k:Int):Prop:=0<=k/\k<=l.length/\jv (l.take k.toNat)=true
def Xd(l:Li)(k:Int):Prop:=0<=k/\k<=l.length
def jf(g:Int->Int->Int)(n:Int):Lj:=(List.range n.toNat).map λi:Nat=>(List.range n.toNat).map λj:Nat=>g i j
def pF(g:Int->Int->Int)(n i:Int):Lj:=(jf g n).take i.toNat++List.replicate (n.toNat-i.toNat) []
def Jh(g:Int->Int->Int)(n i j:Int):Li:=((List.range n.toNat).map λj:Nat=>g i j).take j.toNat++List.replicate (n.toNat-j.toNat) 0
def upto(k n:Int):Prop:=0<=k/\(k<=n\/k=0)
def tg(l:Li)(m i j:Int):Int:=l.getD (i*m+j).toNat 0-1
def nO(m:Int)(l:Li):Lj:=jf (tg l m) m
def bN(l:Li)(k:Int):Li:=l.drop k.toNat
def pi(m:Int)(l:Li):Bool:=decide (m*m<=l.length)
def dF(l:Li):Prop:=jv l=true/\Ar l
def P5(m:Int)(l:Li):Prop:=0<=m/\m<=12/\dF l
def UU(m:Int)(l:Li)(k:Int):Prop:=upto k m/\k*m<=l.length
def KO(m:Int)(l:Li)(i k:Int):Prop:=upto k m/\i*m+k<=l.length
def uj(q m:Int)(l:Li):List (Lj):=(List.range q.toNat).map λk:Nat=>nO m (bN l ((k:Int)*(m*m)))
def o9(q m:Int)(l:Li)(k:Int):List (Lj):=(uj q m l).take k.toNat++List.replicate (q.toNat-k.toNat) []
def aDK(q m:Int)(l:Li)(k:Int):Prop:=upto k q/\(k+1)*(m*m)<=l.length-4
def uR(l:Li):Bool:=decide (l.getD 2 0<=12/\l.getD 3 0<=4/\l.getD 0 0<l.getD 1 0/\l.getD 1 0<=l.getD 0 0+60/\l.getD 1 0<=600)
def nF(l:Li):Bool:=decide (4<=l.length)&&uR l&&decide (4+l.getD 2 0*l.getD 2 0+l.getD 3 0*(l.getD 2 0*l.getD 2 0)<=l.length)
def ah(l:Li):Plan:=(l.getD 0 0,l.getD 1 0,nO (l.getD 2 0) (bN l 4),uj (l.getD 3 0) (l.getD 2 0) (bN l (4+l.getD 2 0*l.getD 2 0)))
def bU(l:Li):Li:=bN l (4+l.getD 2 0*l.getD 2 0+l.getD 3 0*(l.getD 2 0*l.getD 2 0))
def at0(l:Li)(k:Nat):Int:=l.getD k 0
def NW(q m:Int)(l:Li)(k:Int):Li:=bN l (4+m*m+k*(m*m))
def aGv(l:Li):Ann:=Z8 3 Int (aAp l) (λs k=>put (gk s) [(10,.dat I k),(3,.dat I (sP l k)),(4,.dat I (sS l k))]) λk=>Dc (Dk (Di l) k)
def aBw(l:Li):Ann:=Z8 3 Int (Xd l) (λs k=>put (gk s) [(9,.dat I k),(3,.dat I (sP (rl l) k)),(4,.dat I (sS (rl l) k))]) λk=>Dc (Dk (Di l) k)
abbrev qb:=aA [.row Ce] (λ(c,_)=>Ar c.1) λ(c,_)=>.dat .bool (du c.1 c.2)
def aGi:Kt:=kOr 79 qb <|
 kOr 7 (aA [.val R] (λ(l,_)=>aBk l) λ(l,_)=>.dat I (fR l)) aD6
def aFT:Kt:=
 kOr 154 (YF 1 R [.mp 1] (λ_ f=>True/\bm f=true) (λ_ f=>.dat I (hd f)) λ_ f=>tl f) aGi
def KP6:KPt:=pOr 154 (oX 1 R [.mp 1] λ_ f=>⟨True,bm f,dP 38 190⟩) KPr
def c6:Cfg:=Oe aFT (λ_=>false) KP6 (λf=>f==29||f==154)
def aBE(m:Int)(l:Li):Ann:=⟨λf s=>match f with
 |3=>some {α:=Int,inv:=λk=>UU m l k,st:=λk=>oG (oG (put (gk s) [(12,.dat I k),(5,.buf 2 (Dc m))]) 2 (.buf 30 R (pF (tg l m) m k) [])) 1 (.var [.dat R (bN l (Ej k m))]),μ:=λk=>Dc (Dk m k)}|7=>match s.sig.T 6,s.sig.T 23 with
  |.dat (.int .i64) i,.buf nm _=>some {α:=Int,inv:=λk=>KO m l i k,st:=λk=>oG (oG (put (gk s) [(25,.dat I k)]) nm (.buf 3 I (Jh (tg l m) m i k) [])) 1 (.var [.dat R (bN l (Dt (Ej i m) k))]),μ:=λk=>Dc (Dk m k)}|_,_=>none
 |_=>none,λ_ _=>none,λ_ _=>none⟩
def aFS:Kt:=kOr 155 (YF 1 R [.mp 1,.val I] (λ(_,m,_) f=>P5 m f/\pi m f=true) (λ(_,m,_) f=>.dat M (nO m f)) λ(_,m,_) f=>bN f (Ej m m)) aFT
def KP7:KPt:=pOr 155 (oX 1 R [.mp 1,.val I] λ(_,m,_) f=>⟨P5 m f,pi m f,dP 38 190⟩) KP6
def c7:Cfg:=Oe aFS (λ_=>false) KP7 (λf=>f==29||f==154||f==155)
def aE2(l:Li):Ann:=Z8 9 Int (aDK (at0 l 3) (at0 l 2) l) (λs k=>oG (oG (put (gk s) [(53,.dat I k)]) 4 (.buf 40 M (o9 (at0 l 3) (at0 l 2) (bN l (Dt 4 (Ej (at0 l 2) (at0 l 2)))) k) [])) 1 (.var [.dat R (NW (at0 l 3) (at0 l 2) l k)])) λk=>Dc (Dk (at0 l 3) k)
def aGh:Kt:=kOr 80 (YF 1 R [.mp 1] (λ_ f=>dF f/\nF f=true) (λ_ f=>.agg [.dat I (ah f).1,.dat I (ah f).2.1,.dat M (ah f).2.2.1,.dat (.sl M) (ah f).2.2.2]) λ_ f=>bU f) aFS
def KP8:KPt:=pOr 80 (oX 1 R [.mp 1] λ_ f=>⟨dF f,nF f,dP 38 190⟩) KP7
theorem QN(l:Li):sP l 0=1:=rfl
theorem QL(l:Li):sS l 0=0:=rfl
theorem Ek{l:Li}{x:Int}(h:0<=x)(f:x<l.length):l.take (x+1).toNat=l.take x.toNat++[l.getD x.toNat 0]:=by
 rw[show(x+1).toNat=x.toNat+1 by omega,wY,qA,qB (by omega:x.toNat<l.length)];rfl
theorem KZ{l:Li}{x:Int}(h:0<=x)(f:x<l.length):sP l (x+1)=sP l x*3%65521/\sS l (x+1)=(sS l x+l.getD x.toNat 0*(sP l x*3%65521))%65521:=by
 unfold sP sS;rw[Ek h f,VC];exact⟨rfl,rfl⟩
theorem aDF(l:Li)(x:Int):(0<=sP l x/\sP l x<65521)/\0<=sS l x/\sS l x<65521:=QM (l.take x.toNat) (st:=(1,0)) ⟨⟨by decide,by decide⟩,⟨by decide,by decide⟩⟩
theorem aB7{l:Li}{x:Int}(h:(l.length:Int)<=x):sS l x=zu l:=by
 unfold sS zu;rw[qM Z]
theorem Yv(l:Li):(rl l).length=l.length:=by unfold rl;rw[vX]
theorem aEY{l:Li}{i:Nat}(h:i<l.length):(rl l).getD i 0=l.getD i 0%65521:=by
 unfold rl;rw[qA,qQ,qA,qB h];rfl
theorem dJ{l:Li}:jv l=true↔∀x∈l,0<=x/\x<=65519:=by
 unfold jv;rw[qW];exact⟨λh x f=>oS.1 (h x f),λh x f=>oS.2 (h x f)⟩
theorem SH{l:Li}{x:Int}(h:aAp l x)(j:x<l.length)(f:btw (l.getD x.toNat 0) 0 65519=true):aAp l (x+1):=by
 obtain⟨a,b,c⟩:=h;refine⟨Z,Z,?_⟩;rw[Ek a j];unfold jv at c ⊢;rw[gV,c];simpa using f
theorem Xc{l:Li}{x:Int}(h:aAp l x)(f:¬x<l.length):jv l=true:=by
 obtain⟨a,b,c⟩:=h;rwa [qM Z]at c
theorem SI{l:Li}{x:Int}(j:0<=x)(h:x<l.length)(f:btw (l.getD x.toNat 0) 0 65519=false):jv l=false:=by
 cases e:jv l with
 |false=>rfl|true=>
  have:=oS.2 (dJ.1 e _ (aO (l:=l) (i:=x.toNat) (d:=0) Z));rw[this]at f;cases f
theorem YE{a b:Int}(j:0<=a)(h:a<=65521)(b0:0<=b)(f:b<=65521):0<=a*b/\a*b<=65521*65521:=
 ⟨qAc j b0,qAd h f b0 Z⟩
theorem tme{a:Int}(h:0<=a):a.tmod 65521=a%65521:=qCk h
theorem NL:eO 79 qb:=af λ(((l:Li),(s:Int)),_)=>by
 refine zE (A:=(aGv l)) (p:=let G:=(l,s);(Ar l->(∃x,aAp l x/\Q4 l s G (1=sP l x/\0=sS l x/\Q4 G l (Di l) (0=x/\True)))/\∀(x:Int),let c2:=Dn x (Di l);let h:=Dw l (Dc x) 0;let z:=Dj (btw h 0 65519);let u:=sP l x*3;let f:=Gg u 65521;let A:=h*f;let j:=sS l x+A;let L:=x+1;aAp l x->(c2->0<=x/\x<Di l/\True/\(z->false=du l s/\True)/\(z=false->inR .i64 u/\Es 65521 0/\inR .i64 A/\inR .i64 j/\Es 65521 0/\inR .i64 L/\∃y,aAp l y/\(Q4 l s G (f=sP l y/\Gg j 65521=sS l y/\Q4 G l (Di l) (L=y/\True)))/\Dc (Di l-y)<Dc (Di l-x)))/\(c2=false->Ed s (sS l x)=du l s/\True))) Uo λhl=>?_;have hl:l.length<=2000000000000000:=hl;refine⟨⟨0,⟨qN _,qU _,rfl⟩,by simp[QN,QL]⟩,λx=>?_⟩;intro c2 h z u c6 c7 j c9 L;refine⟨λf=>?_,λf=>?_⟩;have f:x<(l.length:Int):=vO f;have h0:=L.1;obtain⟨⟨p0,p1⟩,s0,s1⟩:=aDF l x;obtain⟨n1,n2⟩:=KZ h0 f;refine⟨h0,f,trivial,λX=>⟨?_,trivial⟩,λX=>?_⟩;have:btw (l.getD x.toNat 0) 0 65519=false:=by simpa[z,h,Dj,Dw,Dc]using X
 unfold du;rw[SI h0 f this];rfl;have hb:btw (l.getD x.toNat 0) 0 65519=true:=by simpa[z,h,Dj,Dw,Dc]using X
 obtain⟨b0,b1⟩:=oS.1 hb;have e6:c6=sP l (x+1):=by rw[n1];exact tme (by show 0<=sP l x*3;omega)
 obtain⟨⟨q0,q1⟩,_,_⟩:=aDF l (x+1);have e3:h=l.getD x.toNat 0:=rfl;have e7:c7=h*c6:=rfl;have e8:j=sS l x+c7:=rfl;have e5:u=sP l x*3:=rfl;have e9:c9=x+1:=rfl;clear_value h u c6 c7 j c9;have hm:=YE (a:=h) (b:=c6) Z Z Z Z;refine⟨az Z,by decide,az Z,az Z,by decide,az Z,x+1,SH L f hb,⟨rfl,rfl,rfl,e6,?_,rfl,rfl,rfl,e9,trivial⟩,?_⟩;rw[n2,<- n1];show j.tmod 65521=_;rw[tme Z,e8,e7,e3,e6];simp only[Dx,Dc,Dk,Di];omega;have f:¬x<(l.length:Int):=qCg f;refine⟨?_,trivial⟩;unfold du;rw[Xc L f,aB7 Z,yC];show(s==_)=_;rw[qDc];simp
theorem P7(l:Li):aj Tryz.prog fU 7 [.dat R l] [] ⟨aBk l,.dat I (fR l),[]⟩:=by
 refine zE (A:=(aBw l)) (p:=(aBk l->(∃x,Xd l x/\L7 l V6 (1=sP (rl l) x/\0=sS (rl l) x/\L7 l (Di l) (0=x/\True)))/\∀(x:Int),let G:=Dn x (Di l);let z:=sP (rl l) x*3;let j:=Gg (Dw l (Dc x) 0) 65521+65521;let h:=Gg z 65521;let u:=Gg j 65521*h;let f:=sS (rl l) x+u;let A:=x+1;Xd l x->(G->0<=x/\x<Di l/\inR .i64 z/\Es 65521 0/\Es 65521 0/\inR .i64 j/\Es 65521 0/\inR .i64 u/\inR .i64 f/\Es 65521 0/\inR IntKind.i64 A/\∃y,Xd l y/\(L7 l V6 (h=sP (rl l) y/\Gg f 65521=sS (rl l) y/\L7 l (Di l) (A=y/\True)))/\Dc (Di l-y)<Dc (Di l-x))/\(G=false->sS (rl l) x=fR l/\True))) Uo λhl=>?_;have hl:l.length<=9223372036854775807:=hl;refine⟨⟨0,⟨qN _,qU _⟩,by simp[QN,QL]⟩,λx=>?_⟩;intro G z j h u c6 c7 hx;refine⟨λf=>?_,λf=>?_⟩;have f:x<(l.length:Int):=vO f;have h0:=hx.1;obtain⟨⟨p0,p1⟩,s0,s1⟩:=aDF (rl l) x;obtain⟨X,L⟩:=KZ (l:=rl l) h0 (by rw[Yv];exact f);rw[aEY Z]at L;have e4:h=sP (rl l) (x+1):=by rw[X];exact tme (by show 0<=sP (rl l) x*3;omega)
 obtain⟨⟨q0,q1⟩,_,_⟩:=aDF (rl l) (x+1);have em:Gg j 65521=l.getD x.toNat 0%65521:=BP (by decide);have m0:=qAa (l.getD x.toNat 0) (show(65521:Int)≠0 by decide);have m1:=kR (l.getD x.toNat 0) (show(0:Int)<65521 by decide);have e5:u=Gg j 65521*h:=rfl;have e6:c6=sS (rl l) x+u:=rfl;have e2:z=sP (rl l) x*3:=rfl;have e7:c7=x+1:=rfl;have e3:j=(l.getD x.toNat 0).tmod 65521+65521:=rfl;have tb:-65521<(l.getD x.toNat 0).tmod 65521/\(l.getD x.toNat 0).tmod 65521<65521:=by
  have:=qAx (a:=l.getD x.toNat 0) (b:=65521);split at this<;>omega
 rw[em]at e5;clear_value z j h u c6 c7;have hm:=YE (a:=l.getD x.toNat 0%65521) (b:=h) Z Z Z Z;refine⟨h0,f,az Z,by decide,by decide,az Z,by decide,az Z,az Z,by decide,⟨show(-9223372036854775808:Int)<=_ by omega,show _<=(9223372036854775807:Int) by omega⟩,x+1,⟨Z,Z⟩,⟨rfl,rfl,e4,?_,rfl,rfl,e7,trivial⟩,?_⟩;rw[L,<- X];show c6.tmod 65521=_;rw[tme Z,e6,e5,e4];simp only[Dx,Dc,Dk,Di];omega;have f:¬x<(l.length:Int):=qCg f;exact⟨aB7 (by rw[Yv];omega),trivial⟩
theorem aFK:ay Tryz.prog fU aGi:=ai NL<|ai (af λ(l,_)=>P7 l) Uo
theorem ZE:∀x f,aj Tryz.prog fU 154 (avK [.mp 1] x) [(1,.var [.dat R f])] ⟨True/\bm f=true,.dat I (hd f),[(1,.var [.dat R (tl f)])]⟩:=λ_ f=>(I7 f).1
theorem aDi:ay Tryz.prog fU aFT:=
 ai (rm ZE) aFK
theorem Us:bG Tryz.prog fU KP6:=mg (vq λ_ f=>(I7 f).2) NB
theorem CQ{α:Type}(xs:List α)(d v:α)(k:Nat)(f:xs[k]?=some v):(xs.take k++List.replicate (xs.length-k) d).set k v=xs.take (k+1)++List.replicate (xs.length-(k+1)) d:=by
 obtain⟨h,e⟩:=qC.1 f;have j:xs.length-k=(xs.length-(k+1))+1:=Z;rw[j,List.replicate_succ,qBu _ _ (by simp;omega)];simp[wY,f,kH (Nat.le_of_lt h)]
theorem lE(g:Int->Int->Int)(n:Int):(jf g n).length=n.toNat:=by simp[jf]
theorem FI(g:Int->Int->Int)(n x:Int)(h:upto x n):(pF g n x).length=n.toNat:=by
 have:=h.1;have:=h.2;simp only[pF,qG,qO,zU,lE];omega
theorem Le(g:Int->Int->Int)(n i x:Int)(h:upto x n):(Jh g n i x).length=n.toNat:=by
 have:=h.1;have:=h.2;simp only[Jh,qG,qO,zU,vX,yI];omega
theorem NT(g:Int->Int->Int)(n:Int):pF g n 0=List.replicate n.toNat []:=by simp[pF]
theorem QX(g:Int->Int->Int)(n i:Int):Jh g n i 0=List.replicate n.toNat 0:=by simp[Jh]
theorem QY(g:Int->Int->Int)(n i j:Int)(f:0<=j)(h:j<n):(Jh g n i j).set j.toNat (g i j)=Jh g n i (j+1):=by
 have e:(j+1).toNat=j.toNat+1:=Z;have:=CQ ((List.range n.toNat).map λj:Nat=>g i j) 0 (g i j) j.toNat (by
  rw[qQ,zH Z];simp[wC f])
 simp only[vX,yI]at this;unfold Jh;rw[e];exact this
theorem VO(g:Int->Int->Int)(n i j:Int)(h:upto j n)(f:¬j<n):Jh g n i j=(List.range n.toNat).map λj:Nat=>g i j:=by
 have:=h.1;have:=h.2;have e:j.toNat=n.toNat:=Z;unfold Jh;rw[e,qM (by simp)];simp
theorem NU(g:Int->Int->Int)(n i j:Int)(u:0<=i)(y:i<n)(h:upto j n)(f:¬j<n):(pF g n i).set i.toNat (Jh g n i j)=pF g n (i+1):=by
 have e:(i+1).toNat=i.toNat+1:=Z;rw[VO g n i j h f];have:=CQ (jf g n) [] ((List.range n.toNat).map λj:Nat=>g i j) i.toNat (by
  unfold jf;rw[qQ,zH Z];simp[wC u])
 rw[lE]at this;unfold pF;rw[e];exact this
theorem QU(g:Int->Int->Int)(n i:Int)(h:upto i n)(f:¬i<n):pF g n i=jf g n:=by
 have:=h.1;have:=h.2;have e:i.toNat=n.toNat:=Z;unfold pF;rw[e,qM (by rw[lE];exact qL _)];simp
theorem By{l:Li}{k:Int}(h:0<=k):tl (bN l k)=bN l (k+1):=by
 unfold tl bN;rw[yU];congr 1;omega
theorem wN(l:Li)(k:Int):hd (bN l k)=l.getD k.toNat 0:=by
 unfold hd bN;simp[qA,vF]
theorem tK{l:Li}{k:Int}(h:0<=k):bm (bN l k)=decide (k<l.length):=by
 unfold bm bN;rw[vZ,qAu];omega
theorem drop_drop{l:Li}{a b:Int}(h:0<=a)(f:0<=b):bN (bN l a) b=bN l (a+b):=by
 unfold bN;rw[yU];congr 1;omega
theorem M8(l:Li)(k:Int):(bN l k).length=l.length-k.toNat:=by unfold bN;rw[vZ]
theorem iL(i m:Int):(i+1)*m=i*m+m:=by rw[Int.add_mul,Int.one_mul]
theorem P9(m:Int)(l:Li):aj Tryz.prog fU 155 [.ptr 1 1 0 0,.dat I m] [(1,.var [.dat R l])] ⟨P5 m l/\pi m l=true,.dat M (nO m l),[(1,.var [.dat R (bN l (Ej m m))])]⟩/\
  fq Tryz.prog fU 155 [.ptr 1 1 0 0,.dat I m] [(1,.var [.dat R l])] ⟨P5 m l,pi m l,dP 38 190⟩:=by
 refine zM (c:=c6) (A:=(aBE m l)) (q:=⟨P5 m l,pi m l,dP 38 190⟩) aDi tC hm Us (p:=let c1:=Ey m (Du Int);let c2:=Ey m (0:Int);let c3:=chainOf (Value.iface 38 (Value.int .i64 (190:Int)));true/\(P5 m l->1=1/\0<=m/\(Ec 24*m)<=281474976710656/\m<=9223372036854775807/\Dl c1=Dc m/\(∃x,UU m l x/\L4 1 0 0 m Z0 (Dc m) m (Dc m) (Dc m) (Int.ofNat (Dc m)=Int.ofNat (Dc m)/\0=x/\l=bN l (x*m)/\c1=pF (tg l m) m x/\T5 1))/\∀(x:Int),let c4:=Dn x (Int.ofNat (Dc m));let c5:=pF (tg l m) m x;let h:=Dl c5;let A:=bN l (x*m);let c8:=x+1;UU m l x->(c4->0<=m/\(Ec 8*m)<=281474976710656/\m<=9223372036854775807/\h=Dc m/\0<=x/\x<Ec h/\h=Dc m/\Dl c2=Dc m/\h=Dc m/\0<=x/\x<Ec h/\h=Dc m/\Dc x=Dc x/\Dl c2=Dc m/\(∃f,KO m l x f/\L4 1 0 0 m Z0 (Dc m) x m (Dc m) (L4 (Dc m) (Int.ofNat (Dc m)) x c4 x (Dc m) x m (Dc m) (L4 (Dc m) (Dc x) 0 (Dc m) x (Dc m) (Dc x) 0 (Dc m) (Int.ofNat (Dc m)=Int.ofNat (Dc m)/\0=f/\A=bN l ((x*m)+f)/\Q4 c5 (Dc x) (Dc m) (c2=Jh (tg l m) m x f/\T5 1)))))/\∀(f:Int),let G:=Dn f (Int.ofNat (Dc m));let u:=bN l ((x*m)+f);let c11:=bm u;let L:=hd u-1;let z:=Jh (tg l m) m x f;let j:=Dl z;let X:=f+1;
  KO m l x f->(G->h=Dc m/\0<=x/\x<Ec h/\h=Dc m/\Dc x=Dc x/\True/\(c11->h=Dc m/\0<=x/\x<Ec h/\h=Dc m/\Dc x=Dc x/\(True/\c11)/\1=1/\inR .i64 L/\j=Dc m/\0<=f/\f<Ec j/\j=Dc m/\inR .i64 X/\∃y,KO m l x y/\(L4 1 0 0 m Z0 (Dc m) x m (Dc m) (L4 (Dc m) (Int.ofNat (Dc m)) x c4 x (Dc m) x m (Dc m) (L4 (Dc m) (Dc x) 0 (Dc m) x (Dc m) (Dc x) 0 (Dc m) (Int.ofNat (Dc m)=Int.ofNat (Dc m)/\X=y/\tl u=bN l ((x*m)+y)/\Q4 c5 (Dc x) (Dc m) (Ep z (Dc f) L=Jh (tg l m) m x y/\T5 1)))))/\Dc (m-y)<Dc (m-f))/\(c11=false->pi m l=false/\true/\c3=c3))/\(G=false->inR .i64 c8/\∃y,UU m l y/\(L4 1 0 0 m Z0 (Dc m) m (Dc m) (Dc m) (Int.ofNat (Dc m)=Int.ofNat (Dc m)/\c8=y/\u=bN l (y*m)/\j=Dc m/\Ep c5 (Dc x) z=pF (tg l m) m y/\T5 1))/\Dc (m-y)<Dc (m-x)))/\(c4=false->pi m l/\h=Dc m/\c5=nO m l/\A=bN l (m*m)/\T5 1))) ⟨rfl,λhp=>?_⟩
 obtain⟨m0,m1,⟨hin,hl⟩⟩:=hp;have hl:l.length<=2000000000000000:=hl;have em:(Int.ofNat (Dc m))=m:=wC m0;have bd:∀{k:Int},0<=k->k<l.length->0<=l.getD k.toNat 0/\l.getD k.toNat 0<=65519:=λ{k} X h1=>dJ.1 hin _ (aO Z);simp only[em];refine Z9 ?_;refine⟨m0,Z,Z,by simp,⟨0,⟨⟨qN _,.inr rfl⟩,by rw[Int.zero_mul];exact qU _⟩,rfl,by rw[Int.zero_mul];rfl,(NT _ _).symm⟩,λx G=>⟨λhlt=>?_,λhge=>?_⟩⟩;have X:=G.1.1;have h:=FI (tg l m) m x G.1;have xm0:0<=x*m:=qAc X m0;have top:(x+1)*m<=m*m:=qBz Z m0;rw[iL]at top;have em2:(m.toNat:Int)=m:=wC m0;have j:x<((pF (tg l m) m x).length:Int):=by rw[h];omega
 refine⟨m0,Z,Z,h,X,j,h,by simp,h,X,j,h,by simp,⟨0,⟨⟨qN _,.inr rfl⟩,by have:=G.2;omega⟩,rfl,by rw[Int.add_zero],(QX _ _ _).symm⟩,λy hy=>⟨λz=>?_,λz=>?_⟩⟩;have y0:=hy.1.1;have L:=Le (tg l m) m x y hy.1;have hly:y<((Jh (tg l m) m x y).length:Int):=by rw[L];omega
 have eo:=tK (l:=l) (k:=x*m+y) Z;refine⟨h,X,j,h,λho=>?_,λho=>?_⟩;have hlt2:x*m+y<l.length:=by rw[eo]at ho;exact vO ho
 obtain⟨b0,b1⟩:=bd (k:=x*m+y) Z hlt2;have eh:hd (bN l (x*m+y))-1=tg l m x y:=by rw[wN];rfl
 refine⟨h,X,j,h,ho,az (by rw[wN];omega),L,y0,hly,L,az Z,y+1,⟨⟨Z,.inl Z⟩,Z⟩,⟨rfl,?_,?_⟩,Z⟩;rw[By Z,Int.add_assoc];rw[eh];exact QY (tg l m) m x y y0 z;rw[eo,wG]at ho;unfold pi;rw[wG];omega;have hy2:y=m:=by rcases hy.1 with⟨y0,y1⟩;omega
 refine⟨az Z,x+1,⟨⟨Z,.inl Z⟩,by rw[iL];have:=hy.2;omega⟩,⟨rfl,by rw[iL,hy2],Le _ _ _ _ hy.1,NU (tg l m) m x y X hlt hy.1 z⟩,Z⟩;have hx2:x=m:=by rcases G.1 with⟨x0,x1⟩;omega
 have htab:pi m l=true:=by
  unfold pi;rw[qF];have:=G.2;rw[hx2]at this;exact this
 refine⟨htab,FI _ _ _ G.1,QU _ _ _ G.1 hge,?_⟩;rw[hx2]
theorem aDh:ay Tryz.prog fU aFS:=ai (rm λ(_,m,_) f=>(P9 m f).1) aDi
theorem Ze:bG Tryz.prog fU KP7:=mg (vq λ(_,m,_) f=>(P9 m f).2) Us
theorem fG{l:Li}(h:dF l)(k:Int):dF (bN l k):=
 ⟨dJ.2 λx f=>dJ.1 h.1 x (List.mem_of_mem_drop f),by show(bN l k).length<=_;rw[M8];have:l.length<=2000000000000000:=h.2;omega⟩
theorem Yl(l:Li):aj Tryz.prog fU 80 [.ptr 1 1 0 0] [(1,.var [.dat R l])] ⟨dF l/\nF l=true,.agg [.dat I (ah l).1,.dat I (ah l).2.1,.dat M (ah l).2.2.1,.dat (.sl M) (ah l).2.2.2],[(1,.var [.dat R (bU l)])]⟩/\
  fq Tryz.prog fU 80 [.ptr 1 1 0 0] [(1,.var [.dat R l])] ⟨dF l,nF l,dP 38 190⟩:=by
 refine zM (c:=c7) (A:=(aE2 l)) (q:=⟨dF l,nF l,dP 38 190⟩) aDh tC hm Ze (p:=let L:=chainOf (Value.iface 38 (Value.int .i64 (190:Int)));let c2:=bm (tl (tl (tl l)));let c3:=Ef (hd (tl (tl l))) 12;let c4:=hd (tl (tl (tl l)));let c5:=Dy c3 (Ef c4 4) false;let f:=Dn (hd l) (hd (tl l));let X:=hd l+60;let G:=Dy f (Ef (hd (tl l)) X) false;let j:=Dy G (Ef (hd (tl l)) 600) false;let c10:=tl (tl (tl (tl l)));let c11:=pi (hd (tl (tl l))) c10;let A:=Ey c4 (Du (Li));let h:=Dc c4;let u:=nO (hd (tl (tl l))) c10;let z:=Int.ofNat h;let c16:=hd (tl (tl l))*hd (tl (tl l));let c17:=bN l (4+(at0 l 2*at0 l 2));let c18:=(ah l).2;let c19:=c18.2;
  true/\(dF l->1=1/\(true->True/\(bm l=false->nF l=false/\true/\L=L))/\((true->bm l)->(True/\bm l)/\1=1/\(true->True/\(bm (tl l)=false->nF l=false/\true/\L=L))/\((true->bm (tl l))->(True/\bm (tl l))/\T7 1 1 1 0 1 1 0 ((true->True/\(bm (tl (tl l))=false->nF l=false/\true/\L=L))/\((true->bm (tl (tl l)))->(True/\bm (tl (tl l)))/\1=1/\(true->True/\(c2=false->nF l=false/\true/\L=L))/\((true->c2)->(True/\c2)/\1=1/\(c3->c3->c3)/\(Dh true c3->c3)/\(true->True/\(c5=false->nF l=false/\true/\L=L))/\((true->c5)->(True/\c5)/\w6 1 1 0 1 1 0 ((f->1=1)/\(f->f->f)/\(f->1=1)/\(f->0=0)/\(f->1=1)/\(f->f->f)/\(f->1=1)/\(f->0=0)/\(f->f->f)/\(f->inR IntKind.i64 X)/\(f->f->f)/\(f->f->f)/\(Dh true f->f)/\(G->1=1)/\(G->G->G)/\(G->1=1)/\(G->0=0)/\(G->G->G)/\(Dh true G->G)/\(true->True/\(j=false->nF l=false/\true/\L=L))/\((true->j)->(True/\j)/\(true->P5 (hd (tl (tl l))) c10/\(c11=false->nF l=false/\true/\L=L))/\((true->c11)->(P5 (hd (tl (tl l))) c10/\c11)/\T4 1 1 1 0 (0<=c4/\(Ec 24*c4)<=281474976710656/\c4<=9223372036854775807/\Q4 1 1 0 (Dl A=h/\Q4 1 1 0 (Dl A=h/\(∃x,aDK (at0 l 3) (at0 l 2) l x/\L4 1 0 0 1 0 0 1 0 0 (L4 (hd (tl (tl l))) c4 1 0 0 (hd l) 1 0 0 (L4 (hd (tl l)) 1 0 0 1 0 1 1 0 (L4 0 (hd (tl (tl l))) 1 0 0 c4 (hd (tl (tl l))) c3 c3 (L4 c5 1 0 0 (hd l) 1 0 1 (hd (tl l)) (L4 f f G G j 1 0 0 (hd (tl (tl l))) (L4 u 1 0 2 c4 h 1 0 3 (T6 1 0 3 h z (0=x/\bN c10 c16=NW (at0 l 3) (at0 l 2) l x/\z8 V6 V6 Z0 Z0 (hd l) (hd (tl l)) u h (A=o9 (at0 l 3) (at0 l 2) c17 x/\T5 1))))))))))/\
  ∀(x:Int),let c20:=NW (at0 l 3) (at0 l 2) l x;let c21:=pi (hd (tl (tl l))) c20;let c22:=o9 (at0 l 3) (at0 l 2) c17 x;let c23:=Dl c22;let c24:=x+1;aDK (at0 l 3) (at0 l 2) l x->(Dn x z->Q4 1 1 0 (P5 (hd (tl (tl l))) c20/\(c21->Q4 1 1 0 ((P5 (hd (tl (tl l))) c20/\c21)/\1=1/\c23=h/\0<=x/\x<Ec c23/\c23=h/\inR .i64 c24/\∃y,aDK (at0 l 3) (at0 l 2) l y/\(L4 1 0 0 1 0 0 1 0 0 (L4 (hd (tl (tl l))) c4 1 0 0 (hd l) 1 0 0 (L4 (hd (tl l)) 1 0 0 1 0 1 1 0 (L4 0 (hd (tl (tl l))) 1 0 0 c4 (hd (tl (tl l))) c3 c3 (L4 c5 1 0 0 (hd l) 1 0 1 (hd (tl l)) (L4 f f G G j 1 0 0 (hd (tl (tl l))) (L4 u 1 0 2 c4 h 1 0 3 (T6 1 0 3 h z (c24=y/\bN c20 c16=NW (at0 l 3) (at0 l 2) l y/\z8 V6 V6 Z0 Z0 (hd l) (hd (tl l)) u h (Ep c22 (Dc x) (nO (hd (tl (tl l))) c20)=o9 (at0 l 3) (at0 l 2) c17 y/\T5 1))))))))))/\Dc (at0 l 3-y)<Dc (at0 l 3-x)))/\(c21=false->nF l=false/\true/\L=L)))/\(Dn x z=false->T4 1 0 1 0 (c23=h/\nF l/\L7 1 0 (hd l=(ah l).1/\hd (tl l)=c18.1/\u=c19.1/\c23=h/\c22=c19.2/\c20=bU l/\T5 1))))))))))))))))) ⟨rfl,λhp=>?_⟩
 have hl:l.length<=2000000000000000:=hp.2;have t1:tl l=bN l 1:=rfl;have t2:tl (tl l)=bN l 2:=by rw[t1,By (by decide)];rfl
 have t3:tl (tl (tl l))=bN l 3:=by rw[t2,By (by decide)];rfl
 have t4:tl (tl (tl (tl l)))=bN l 4:=by rw[t3,By (by decide)];rfl
 have h0:hd l=at0 l 0:=rfl;have h1:hd (tl l)=at0 l 1:=by rw[t1,wN];rfl
 have h2:hd (tl (tl l))=at0 l 2:=by rw[t2,wN];rfl
 have h3:hd (tl (tl (tl l)))=at0 l 3:=by rw[t3,wN];rfl
 have o0:bm l=decide (0<l.length):=rfl;have o1:bm (tl l)=decide (1<l.length):=by rw[t1,tK (by decide),qAu];omega
 have o2:bm (tl (tl l))=decide (2<l.length):=by rw[t2,tK (by decide),qAu];omega
 have o3:bm (tl (tl (tl l)))=decide (3<l.length):=by rw[t3,tK (by decide),qAu];omega
 have bd:∀k:Nat,0<=at0 l k/\at0 l k<=65519:=λk=>by
  unfold at0;by_cases hk:k<l.length;exact dJ.1 hp.1 _ (aO hk);rw[qA,wZ Z];exact⟨by decide,by decide⟩
 obtain⟨a0,a1⟩:=bd 0;obtain⟨b0,b1⟩:=bd 1;obtain⟨m0,m1⟩:=bd 2;obtain⟨q0,q1⟩:=bd 3;have epl:nF l=(decide (4<=l.length)&&uR l&&decide (4+at0 l 2*at0 l 2+at0 l 3*(at0 l 2*at0 l 2)<=l.length)):=rfl;have ehd:uR l=decide (at0 l 2<=12/\at0 l 3<=4/\at0 l 0<at0 l 1/\at0 l 1<=at0 l 0+60/\at0 l 1<=600):=rfl;have shrt:l.length<4->nF l=false:=λh=>by rw[epl,qY Z];rfl
 have noHd:uR l=false->nF l=false:=λh=>by rw[epl,h];simp
 have noLen:¬4+at0 l 2*at0 l 2+at0 l 3*(at0 l 2*at0 l 2)<=l.length->nF l=false:=λh=>by rw[epl,qY h];simp
 simp only[h0,h1,h2,h3,o0,o1,o2,o3,t4];have eq3:Int.ofNat (Dc (at0 l 3))=at0 l 3:=wC q0;simp only[eq3];refine Z9 ?_;obtain⟨j,f⟩:∃j,j=at0 l 2*at0 l 2:=⟨_,rfl⟩;have mm0:0<=j:=by rw[f];exact qAc m0 m0
 have eK:∀k,NW (at0 l 3) (at0 l 2) l k=bN l (4+j+k*j):=λk=>by unfold NW;rw[f]
 have X:∀k:Int,0<=k->(pi (at0 l 2) (bN l k)=true↔j<=((l.length-k.toNat:Nat):Int)):=λk hk=>by
  unfold pi;rw[qF,M8,f]
 have ePL:nF l=true↔4<=l.length/\uR l=true/\4+j+at0 l 3*j<=l.length:=by
  rw[epl,qE,qE,qF,qF,f,qAt]
 have u:(uj (at0 l 3) (at0 l 2) (bN l (4+j))).length=(at0 l 3).toNat:=by unfold uj;simp
 have z:∀{x:Int},upto x (at0 l 3)->(o9 (at0 l 3) (at0 l 2) (bN l (4+j)) x).length=(at0 l 3).toNat:=λ{x} ⟨h1,h2⟩=>by
  unfold o9;rw[qG,qO,zU,u];omega
 simp only[eK,<- f];refine⟨λh=>shrt Z,λl0=>⟨l0,λh=>shrt Z,λl1=>⟨l1,λh=>shrt Z,λl2=>⟨l2,λh=>shrt Z,λl3=>⟨l3,λh=>noHd ?_,λhA=>⟨hA,λh=>az Z,λh=>noHd ?_,λhB=>⟨hB,?_⟩⟩⟩⟩⟩⟩⟩;rw[ehd,wG];intro g;exact h g.1 g.2.1;rw[ehd,wG];intro g;exact h ⟨g.2.2.1,g.2.2.2.1⟩ g.2.2.2.2;have hH:uR l=true:=by rw[ehd,qF];exact⟨hA.1,hA.2,hB.1.1,hB.1.2,hB.2⟩
 have tP:∀k,P5 (at0 l 2) (bN l k):=λk=>⟨m0,hA.1,fG hp k⟩;have mono:∀{k:Int},0<=k->k<=at0 l 3->k*j<=at0 l 3*j:=λh1 h2=>qBz h2 mm0;have kmm:∀{k:Int},0<=k->0<=k*j:=λh=>qAc h mm0;have bad:¬(4+j+at0 l 3*j<=l.length)->nF l=false:=λh=>by
  cases e:nF l with
  |false=>rfl|true=>exact absurd (ePL.1 e).2.2 h
 refine⟨⟨tP 4,λh=>bad ?_⟩,λhT=>⟨⟨tP 4,hT⟩,q0,Z,Z,by simp,by simp,⟨0,⟨⟨qN _,.inr rfl⟩,?_⟩,rfl,?_,?_⟩,λx hx=>⟨λhlt=>⟨tP _,λhT2=>?_,λhT2=>bad ?_⟩,λhge=>?_⟩⟩⟩;have:¬j<=((l.length-(4:Int).toNat:Nat):Int):=λg=>by rw[(X 4 (by decide)).2 g]at h;cases h
 have:=kmm q0;have e4:(4:Int).toNat=4:=rfl;omega;have:=(X 4 (by decide)).1 hT;have e4:(4:Int).toNat=4:=rfl;show(0+1)*(at0 l 2*at0 l 2)<=(l.length:Int)-4;rw[<- f];omega;rw[drop_drop (by decide) mm0,Int.zero_mul,Int.add_zero];unfold o9;simp;have h0:=hx.1.1;have hl2:=z hx.1;have h2':=hx.2;rw[<- f,iL]at h2';have hT3:=(X _ (by have:=kmm h0;omega)).1 hT2;have:=kmm h0;refine⟨⟨tP _,hT2⟩,hl2,h0,by rw[hl2];omega,hl2,az Z,x+1,⟨⟨Z,.inl Z⟩,?_⟩,⟨rfl,?_,?_⟩,Z⟩;rw[<- f,iL,iL];omega;rw[drop_drop Z mm0];congr 1;rw[iL];omega;have e:(x+1).toNat=x.toNat+1:=by omega
 have:=CQ (uj (at0 l 3) (at0 l 2) (bN l (4+j))) [] (nO (at0 l 2) (bN l (4+j+x*j))) x.toNat (by
  unfold uj;rw[qQ,zH Z,zZ,wC h0,drop_drop Z (by rw[<- f];exact kmm h0),<- f])
 rw[u]at this;unfold o9;rw[e];exact this;have h0:=hx.1.1;have hx0:=kmm h0;have hn:¬j<=((l.length-(4+j+x*j).toNat:Nat):Int):=λg=>by rw[(X _ Z).2 g]at hT2;cases hT2
 have:=mono (k:=x+1) Z Z;rw[iL]at this;omega;have hxe:x=at0 l 3:=by rcases hx.1 with⟨h1,h2⟩;omega
 subst hxe;have h2':=hx.2;rw[<- f,iL]at h2';refine⟨z hx.1,ePL.2 ⟨Z,hH,Z⟩,rfl,rfl,rfl,z hx.1,?_,?_⟩;unfold o9;rw[qM (by rw[u];exact qL _),qAg];show _++[]=_;rw[wH,f];rfl;rw[f];rfl
theorem aFJ:ay Tryz.prog fU aGh:=ai (rm λ_ f=>(Yl f).1) aDh
theorem aDn:bG Tryz.prog fU KP8:=mg (vq λ_ f=>(Yl f).2) Ze
abbrev Of:Ty:=.pair S (.pair I (.pair I (.pair I (.pair I (.pair I (.sl S))))))
abbrev Ln:Ty:=.pair S (.pair I (.pair I (.pair I (.pair I I))))
abbrev Kl:Ty:=.pair S (.pair I I)
abbrev N:Ty:=.pair (.sl C) (.pair (.sl S) (.pair (.sl S) (.pair (.sl Of) (.pair (.sl Ln) (.sl Kl)))))
abbrev Cal:=Int×List Bool×Li
abbrev Off:=ByteArray×Int×Int×Int×Int×Int×List ByteArray
abbrev Line:=ByteArray×Int×Int×Int×Int×Int
abbrev Cla:=ByteArray×Int×Int
abbrev Net:=List Cal×List ByteArray×List ByteArray×List Off×List Line×List Cla
def oQ(c:Cal):Bool:=fV c.1 c.2.1 c.2.2
def mh(n:Net)(o:Off):Bool:=(btw o.2.2.1 0 ((n.1.length:Int)-1)&&btw o.2.2.2.2.1 1 1000)&&btw o.2.2.2.2.2.1 1 1000
def oI(n:Net)(x:Int):Bool:=btw x 0 ((n.2.2.2.1.length:Int)-1)
def mx(n:Net)(l:Line):Bool:=((oI n l.2.1&&oI n l.2.2.1)&&btw l.2.2.2.1 0 1439)&&btw l.2.2.2.2.1 1 100000
def mM(k:Cla):Bool:=btw k.2.1 0 1439&&btw k.2.2 0 1439
def usF(n:Net):Bool:=((n.1.all oQ&&n.2.2.2.1.all (mh n))&&n.2.2.2.2.1.all (mx n))&&n.2.2.2.2.2.all mM
abbrev Ak(n:Net):Prop:=((n.1.length<=2000000000000000/\n.2.2.2.1.length<=2000000000000000)/\n.2.2.2.2.1.length<=2000000000000000)/\n.2.2.2.2.2.length<=2000000000000000
def XT(n:Net)(k:Int):Prop:=0<=k/\k<=n.1.length/\(n.1.take k.toNat).all oQ=true
def Wj(n:Net)(k:Int):Prop:=0<=k/\k<=n.2.2.2.1.length/\(n.2.2.2.1.take k.toNat).all (mh n)=true
def WR(n:Net)(k:Int):Prop:=0<=k/\k<=n.2.2.2.2.1.length/\(n.2.2.2.2.1.take k.toNat).all (mx n)=true
def XN(n:Net)(k:Int):Prop:=0<=k/\k<=n.2.2.2.2.2.length/\(n.2.2.2.2.2.take k.toNat).all mM=true
def bu(n:Net)(l:Int):Line:=n.2.2.2.2.1.getD l.toNat (⟨#[]⟩,0,0,0,0,0)
def jA(n:Net)(o l:Int):Bool:=decide (l=-1)||(decide (l<n.2.2.2.2.1.length)&&decide ((bu n l).2.1=o))
def oC(n:Net)(o:Int)(r:Li):Bool:=r.all (jA n o)
def JY(n:Net)(p:Plan):Bool:=(decide (p.2.2.1.length=n.2.2.2.1.length)&&decide (p.2.2.2.length=n.2.2.2.2.2.length))&&(List.range p.2.2.1.length).all λi=>oC n i (p.2.2.1.getD i [])
def Wp(p:Plan):Prop:=p.2.2.1.length<=2000000000000000/\∀r∈p.2.2.1,r.length<=2000000000000000/\∀x∈r,-1<=x
def aDL(n:Net)(p:Plan)(k:Int):Prop:=0<=k/\k<=p.2.2.1.length/\∀i:Nat,(i:Int)<k->oC n i (p.2.2.1.getD i [])=true
def Wm(n:Net)(o:Int)(r:Li)(k:Int):Prop:=0<=k/\k<=r.length/\(r.take k.toNat).all (jA n o)=true
def fL(c:Li×Int):Bool:=du c.1 c.2&&nF c.1
def ti(c:Li×Int):Int:=if du c.1 c.2 then 190 else 180
def yk(c:Li×Int):Prop:=Ar c.1
def J8(args:List AV)(m:Mem):Option lI:=match args,m with|[.ifc t (.dat (.int .i64) e)],[]=>if t=38 then some ⟨True,.dat I e,[]⟩else none|_,_=>none
def aFR:Kt:=kOr 27 J8 aGh
def c9:Cfg:=Oe aFR (λt=>t==12) KP8 (λf=>f==29||f==80)
abbrev LS:=aA [.val I] (λ_=>True) λ(x,_)=>.dat .bool (btw x 0 1439)
abbrev LR:=aA [.val I,.bp N] (λ(_,n,_)=>Ak n) λ(x,n,_)=>.dat .bool (oI n x)
def aDw:Kt:=kOr 81 LS <|
 kOr 83 LR aFR
def usA(n:Net):Ann:=⟨λf s=>match f with
 |4=>some {α:=Int,inv:=λk=>XT n k,st:=λk=>put {gk s with mem:=[]} [(19,.dat I k),(6,.top)],μ:=λk=>Dc (Dk (Di n.1) k)}
 |10=>some {α:=Int,inv:=λk=>Wj n k,st:=λk=>put {gk s with mem:=[]} [(32,.dat I k),(8,.top)],μ:=λk=>Dc (Dk (Di n.2.2.2.1) k)}
 |16=>some {α:=Int,inv:=λk=>WR n k,st:=λk=>put {gk s with mem:=[]} [(64,.dat I k),(10,.top)],μ:=λk=>Dc (Dk (Di n.2.2.2.2.1) k)}
 |22=>some {α:=Int,inv:=λk=>XN n k,st:=λk=>put {gk s with mem:=[]} [(99,.dat I k),(12,.top)],μ:=λk=>Dc (Dk (Di n.2.2.2.2.2) k)}
 |_=>none,λ_ _=>none,λ_ _=>none⟩
def aGz(n:Net)(p:Plan):Ann:=⟨λf s=>match f with
 |4=>some {α:=Int,inv:=λk=>aDL n p k,st:=λk=>put (gk s) [(38,.dat I k)],μ:=λk=>Dc (Dk (Di p.2.2.1) k)}|7=>match s.sig.T 5,s.sig.T 6 with
  |.dat (.int .i64) o,.dat (.sl (.int .i64)) r=>some {α:=Int,inv:=λk=>Wm n o r k,st:=λk=>put (gk s) [(45,.dat I k)],μ:=λk=>Dc (Dk (Di r) k)}|_,_=>none
 |_=>none,λ_ _=>none,λ_ _=>none⟩
theorem OT:∀args m c,J8 args m=some c->aj Tryz.prog fU 27 args m c:=by
 intro args m c h;unfold J8 at h;split at h;split at h;rename_i e;subst e;cases h;exact aBX _;cases h;cases h
theorem Yb:ay Tryz.prog fU aFR:=ai OT aFJ
theorem Ym(s:Int)(l:Li):aj Tryz.prog fU 28 [.agg [.dat R l,.dat I s]] [] ⟨yk (l,s)/\fL (l,s)=true,.tup [.agg [.dat I (ah l).1,.dat I (ah l).2.1,.dat M (ah l).2.2.1,.dat (.sl M) (ah l).2.2.2],.ptr 1 1 0 0],[(1,.var [.dat R (bU l)])]⟩/\
  fq Tryz.prog fU 28 [.agg [.dat R l,.dat I s]] [] ⟨yk (l,s),fL (l,s),dP 38 (ti (l,s))⟩:=by
 refine zM (c:=c9) (A:=aG) (q:=⟨yk (l,s),fL (l,s),dP 38 (ti (l,s))⟩) Yb tC hm aDn (p:=let y:=(l,s);let u:=fL y;let G:=chainOf (Value.iface 38 (Value.int .i64 (ti y)));let X:=(ah l).1;let z:=(ah l).2;let h:=z.1;let f:=z.2;let L:=f.1;let j:=f.2;true/\(yk y->Ar l/\(true->True/\(du l s=false->u=false/\true/\chainOf (Value.iface 38 (Value.int .i64 (180:Int)))=G))/\((true->du l s)->(True/\du l s)/\(true->dF l/\(nF l=false->u=false/\true/\chainOf (Value.iface 38 (Value.int .i64 (190:Int)))=G))/\((true->nF l)->(dF l/\nF l)/\T7 1 1 0 1 0 1 0 (u/\L4 1 0 X h L j 1 0 0 (T5 (bU l))))))) ⟨rfl,λj=>?_⟩;refine Z9 ?_;refine⟨j,λh=>⟨?_,?_⟩,λh=>⟨h,⟨?_,λf=>⟨?_,?_⟩⟩,λf=>⟨⟨?_,f⟩,?_⟩⟩⟩;unfold fL;rw[h];rfl;unfold ti;rw[h];rfl;exact⟨by unfold du at h;rw[qE]at h;exact h.1,j⟩;unfold fL;rw[f];simp;unfold ti;rw[h];rfl;exact⟨by unfold du at h;rw[qE]at h;exact h.1,j⟩;unfold fL;rw[h,f];rfl
theorem aEh:eO 81 LS:=af λ((x:Int),_)=>zE (A:=aG) (p:=let f:=btw x 0 1439;(True->True/\T5 f)) Yb λ_=>⟨trivial,rfl,trivial⟩
theorem aEg:eO 83 LR:=af λ((x:Int),(n:Net),_)=>by
 refine zE (A:=aG) (p:=let f:=Di n.2.2.2.1-1;(Ak n->inR .i64 f/\True/\btw x 0 f=oI n x/\True)) Yb λh=>⟨az ?_,trivial,rfl,trivial⟩;have:=h.1.1.2;simp only[Dk,Di];omega
theorem Bl:ay Tryz.prog fU aDw:=ai aEh<|ai aEg Yb
theorem qx{α:Type}{p:α->Bool}{l:List α}{k:Int}(d:α)(u:0<=k)(j:k<l.length)(h:(l.take k.toNat).all p=true)(f:p (l.getD k.toNat d)=true):(l.take (k+1).toNat).all p=true:=by
 rw[show(k+1).toNat=k.toNat+1 by omega,wY,gV,h];rw[qA,qB (by omega:k.toNat<l.length)]at f;rw[qB (by omega:k.toNat<l.length)];simpa using f
theorem IL{α:Type}{p:α->Bool}{l:List α}{k:Int}(d:α)(j:0<=k)(h:k<l.length)(f:p (l.getD k.toNat d)=false):l.all p=false:=by
 cases e:l.all p with
 |false=>rfl|true=>rw[qW.1 e _ (aO (d:=d) Z)]at f;cases f
theorem yd{α:Type}{p:α->Bool}{l:List α}{k:Int}(f:(l.take k.toNat).all p=true)(h:¬k<l.length):l.all p=true:=by
 rwa [qM Z]at f
abbrev RZ:=aA [.ptr N] (λ(n,_)=>Ak n) λ(n,_)=>.dat .bool (usF n)
theorem aGn:eO 30 RZ:=af λ((n:Net),_)=>by
 refine zE (A:=(lvA [(4,[1,2,3,4,6,8,10,12,17,18,19,30,31,32,62,63,64,97,98,99]),(10,[1,2,3,4,8,10,12,30,31,32,62,63,64,97,98,99]),(16,[1,2,3,4,10,12,62,63,64,97,98,99]),(22,[2,3,12,97,98,99])] (usA n))) (p:=let c1:=n.2.2.2;let c2:=Di n.1;let c5:=Di c1.1;let h:=c2-1;let c10:=Di c1.2.1;let c11:=((0:Int),(0:Int));let f:=Di c1.2.2;(Ak n->(∃x,XT n x/\T4 n n n.1 c2 (0=x/\True))/\∀(x:Int),let c16:=Dw n.1 (Dc x) ((0:Int),Du Bool,Du Int);let c18:=Dj (fV c16.1 c16.2.1 c16.2.2);let c19:=x+1;XT n x->(Dn x c2->0<=x/\x<c2/\T4 1 0 1 0 (True/\(c18->false=usF n/\True)/\(c18=false->inR .i64 c19/\∃y,XT n y/\(T4 n n n.1 c2 (c19=y/\True))/\Dc (c2-y)<Dc (c2-x))))/\(Dn x c2=false->(∃xa,Wj n xa/\T4 n n c1.1 c5 (0=xa/\True))/\∀(xb:Int),let c20:=(Dw c1.1 (Dc xb) (ByteArray.mk #[],(0:Int),(0:Int),(0:Int),(0:Int),(0:Int),Du ByteArray)).2.2;let c21:=Dj (btw c20.1 0 h);let c22:=Dj c21;let c24:=Dy c21 true (Dj (btw c20.2.2.1 1 1000));let c25:=Dj c24;let c26:=Dy c24 true (Dj (btw c20.2.2.2.1 1 1000));let c27:=xb+1;Wj n xb->(Dn xb c5->0<=xb/\xb<c5/\T6 1 0 1 1 0 (inR .i64 h/\True/\(c22->1=1)/\L5 c22 ((c22->1=1)/\(c22->0=0)/\L5 c22 ((c22->True)/\L5 c22 ((Dh true c22->c22)/\(c25->1=1)/\L5 c25 ((c25->1=1)/\(c25->0=0)/\L5 c25 ((c25->True)/\L5 c25 ((Dh true c25->c25)/\(c26->false=usF n/\True)/\(c26=false->inR .i64 c27/\∃y,Wj n y/\(T4 n n c1.1 c5 (c27=y/\True))/\Dc (c5-y)<Dc (c5-xb))))))))))/\(Dn xb c5=false->(∃xba,WR n xba/\T4 n n c1.2.1 c10 (0=xba/\True))/\∀(xbb:Int),let c28:=(Dw c1.2.1 (Dc xbb) (ByteArray.mk #[],(0:Int),(0:Int),(0:Int),c11)).2;let c29:=Dj (oI n c28.1);let c30:=Dj c29;let c32:=Dy c29 true (Dj (oI n c28.2.1));let c33:=Dj c32;let c35:=Dy c32 true (Dj (btw c28.2.2.1 0 1439));let X:=Dj c35;
  let c37:=Dy c35 true (Dj (btw c28.2.2.2.1 1 100000));let c38:=xbb+1;WR n xbb->(Dn xbb c10->0<=xbb/\xbb<c10/\T6 1 0 1 1 0 (Ak n/\(c30->1=1)/\L5 c30 ((c30->1=1)/\(c30->0=0)/\Q2 c30 ((c30->Ak n)/\L5 c30 ((Dh true c30->c30)/\(c33->1=1)/\L5 c33 ((c33->1=1)/\(c33->0=0)/\Q2 c33 ((c33->True)/\L5 c33 ((Dh true c33->c33)/\(X->1=1)/\L5 X ((X->1=1)/\(X->0=0)/\L5 X ((X->True)/\L5 X ((Dh true X->X)/\(c37->false=usF n/\True)/\(c37=false->inR .i64 c38/\∃y,WR n y/\(T4 n n c1.2.1 c10 (c38=y/\True))/\Dc (c10-y)<Dc (c10-xbb)))))))))))))/\(Dn xbb c10=false->(∃xbba,XN n xbba/\L7 c1.2.2 f (0=xbba/\True))/\∀(j:Int),let c39:=(Dw c1.2.2 (Dc j) (ByteArray.mk #[],c11)).2;let c40:=Dj (btw c39.1 0 1439);let L:=Dj c40;let c42:=Dy c40 true (Dj (btw c39.2 0 1439));let c43:=j+1;XN n j->(Dn j f->0<=j/\j<f/\T6 1 0 1 1 0 (True/\(L->1=1)/\L5 L ((L->1=1)/\(L->0=0)/\Q2 L ((L->True)/\L5 L ((Dh true L->L)/\(c42->false=usF n/\True)/\(c42=false->inR .i64 c43/\∃y,XN n y/\(L7 c1.2.2 f (c43=y/\True))/\Dc (f-y)<Dc (f-j)))))))/\(Dn j f=false->true=usF n/\True)))))) Bl λhp=>?_
 obtain⟨⟨⟨l1,l2⟩,l3⟩,l4⟩:=id hp;obtain⟨cs,ns,os,fs,ls,ks⟩:=n;simp only at l1 l2 l3 l4;refine Z9 ?_;refine⟨⟨qN _,qU _,rfl⟩,λx hx=>?_⟩;have hx0:0<=x:=hx.1;have hx1:x<=cs.length:=hx.2.1;refine⟨λf=>⟨hx0,f,λG=>?_,λG=>⟨az Z,x+1,⟨Z,by show x+1<=(cs.length:Int);omega,qx (0,[],[]) hx0 f hx.2.2 G⟩,rfl,Z⟩⟩,λhge=>?_⟩;unfold usF;rw[IL (p:=oQ) (0,[],[]) hx0 f G];rfl;have e1:=yd hx.2.2 hge;refine⟨⟨qN _,qU _,rfl⟩,λy hy=>?_⟩;have hy0:0<=y:=hy.1;have hy1:y<=fs.length:=hy.2.1;refine⟨λf=>⟨hy0,f,az Z,λG=>?_,λG=>⟨az Z,y+1,⟨Z,by show y+1<=(fs.length:Int);omega,qx (⟨#[]⟩,0,0,0,0,0,[]) hy0 f hy.2.2 ?_⟩,rfl,Z⟩⟩,λhge=>?_⟩;have:mh (cs,ns,os,fs,ls,ks) (fs.getD y.toNat (⟨#[]⟩,0,0,0,0,0,[]))=false:=by
  unfold mh;rcases G with(h|h)|h<;>rw[h]<;>simp
 unfold usF;rw[IL (p:=mh (cs,ns,os,fs,ls,ks)) (⟨#[]⟩,0,0,0,0,0,[]) hy0 f this];simp;unfold mh;rw[G.1.1,G.1.2,G.2];rfl;have e2:=yd hy.2.2 hge;refine⟨⟨qN _,qU _,rfl⟩,λz hz=>?_⟩;have hz0:0<=z:=hz.1;have hz1:z<=ls.length:=hz.2.1;refine⟨λf=>⟨hz0,f,hp,λ_=>hp,λG=>?_,λG=>⟨az Z,z+1,⟨Z,by show z+1<=(ls.length:Int);omega,qx (⟨#[]⟩,0,0,0,0,0) hz0 f hz.2.2 ?_⟩,rfl,Z⟩⟩,λhge=>?_⟩;have:mx (cs,ns,os,fs,ls,ks) (ls.getD z.toNat (⟨#[]⟩,0,0,0,0,0))=false:=by
  unfold mx;rcases G with((h|h)|h)|h<;>rw[h]<;>simp
 unfold usF;rw[IL (p:=mx (cs,ns,os,fs,ls,ks)) (⟨#[]⟩,0,0,0,0,0) hz0 f this];simp;unfold mx;rw[G.1.1.1,G.1.1.2,G.1.2,G.2];rfl;have e3:=yd hz.2.2 hge;refine⟨⟨qN _,qU _,rfl⟩,λu hu=>?_⟩;have hu0:0<=u:=hu.1;have hu1:u<=ks.length:=hu.2.1;refine⟨λf=>⟨hu0,f,λG=>?_,λG=>⟨az Z,u+1,⟨Z,by show u+1<=(ks.length:Int);omega,qx (⟨#[]⟩,0,0) hu0 f hu.2.2 ?_⟩,rfl,Z⟩⟩,λhge=>?_⟩;have:mM (ks.getD u.toNat (⟨#[]⟩,0,0))=false:=by
  unfold mM;rcases G with h|h<;>rw[h]<;>simp
 unfold usF;rw[IL (p:=mM) (⟨#[]⟩,0,0) hu0 f this];simp;unfold mM;rw[G.1,G.2];rfl;have e4:=yd hu.2.2 hge;unfold usF;rw[e1,e2,e3,e4];rfl
theorem aCP{n:Net}{p:Plan}{i:Nat}(f:i<p.2.2.1.length)(h:oC n i (p.2.2.1.getD i [])=false):JY n p=false:=by
 cases e:JY n p with
 |false=>rfl|true=>
  unfold JY at e;rw[qE,qW]at e;rw[e.2 i (wJ.2 f)]at h;cases h
abbrev MH:=aA [.ptr N,.ptr Pl] (λ(n,p,_)=>Ak n/\Wp p) λ(n,p,_)=>.dat .bool (JY n p)
theorem aEI:eO 31 MH:=af λ((n:Net),(p:Plan),_)=>by
 refine zE (A:=(lvA [(4,[0,4,5,6,8,36,37,38,43,44,45]),(7,[0,4,5,6,8,36,37,38,43,44,45])] (aGz n p))) (p:=let c2:=n.2.2.2;let X:=p.2.2.1;let z:=Di X;let c5:=Ea z (Di c2.1);let A:=Dj c5;let c8:=Dy c5 true (Ea (Di p.2.2.2) (Di c2.2.2));let c10:=Di c2.2.1;(Ak n/\Wp p->L5 A (Q3 A (Q3 A (Q3 A ((Dh true A->A)/\(c8->false=JY n p/\True)/\(c8=false->(∃x,aDL n p x/\Q4 n X z (0=x/\True))/\∀(x:Int),let j:=Dw X (Dc x) [];let u:=Di j;let c13:=x+1;aDL n p x->(Dn x z->0<=x/\x<z/\(∃f,Wm n x j f/\z8 n x j X z x j u (0=f/\True))/\∀(f:Int),let G:=Dw j (Dc f) 0;let h:=Ea G (-1);let c16:=Eb G c10;let L:=Dj c16;let c4:=Dh h L;let c17:=Dy h (Dy c16 true (Ea (Dw c2.2.1 (Dc G) (ByteArray.mk #[],(0:Int),(0:Int),(0:Int),(0:Int),(0:Int))).2.1 x)) false;let c18:=f+1;Wm n x j f->(Dn f u->0<=f/\f<u/\L5 h (Q3 h (Q3 h (Q2 c4 (Q3 c4 ((Dh h L->0<=G)/\(Dh h L->G<c10)/\L5 c4 (Q3 c4 (L5 h ((h->Dh h L->Dh h L)/\(Dh true h->h)/\(c17->false=JY n p/\True)/\(c17=false->inR IntKind.i64 c18/\∃y,Wm n x j y/\(z8 n x j X z x j u (c18=y/\True))/\Dc (u-y)<Dc (u-f)))))))))))/\(Dn f u=false->inR .i64 c13/\∃y,aDL n p y/\(Q4 n X z (c13=y/\True))/\Dc (z-y)<Dc (z-x)))/\(Dn x z=false->true=JY n p/\True)))))))) Bl λ⟨hn,hp⟩=>?_;obtain⟨⟨⟨l1,l2⟩,l3⟩,l4⟩:=id hn;obtain⟨cs,ns,os,fs,ls,ks⟩:=n;obtain⟨p1,p2,nx,dy⟩:=p;simp only at l1 l2 l3 l4;refine Z9 ?_;obtain⟨q1,q2⟩:nx.length<=2000000000000000/\∀r∈nx,r.length<=2000000000000000/\∀x∈r,-1<=x:=hp;refine⟨λh=>?_,λ⟨h1,h2⟩=>⟨⟨qN _,qU _,λi hi=>Z⟩,λx hx=>?_⟩⟩;unfold JY;rcases h with h|h
 rw[qY (p:=nx.length=fs.length) Z];simp;rw[qY (p:=dy.length=ks.length) Z];simp;have hx0:0<=x:=hx.1;have hx1:x<=nx.length:=hx.2.1;refine⟨λhlt=>⟨hx0,hlt,⟨qN _,qU _,rfl⟩,λy hy=>?_⟩,λhge=>?_⟩;obtain⟨r1,r2⟩:=q2 _ (aO (l:=nx) (i:=x.toNat) (d:=[]) Z);obtain⟨r,hr⟩:∃r,r=nx.getD x.toNat []:=⟨_,rfl⟩;rw[<- hr]at r1 r2 hy ⊢;have G:0<=y:=hy.1;have hy1:y<=r.length:=hy.2.1;refine⟨λu=>?_,λhge2=>?_⟩;have hv:=r2 _ (aO (l:=r) (i:=y.toNat) (d:=0) Z);obtain⟨v,L⟩:∃v,v=r.getD y.toNat 0:=⟨_,rfl⟩;rw[<- L]at hv ⊢;have cg:jA (cs,ns,os,fs,ls,ks) x v=(decide (v=-1)||(decide (v<ls.length)&&decide ((ls.getD v.toNat (⟨#[]⟩,0,0,0,0,0)).2.1=x))):=rfl;refine⟨G,u,λh=>Z,λh=>Z,λh=>?_,λh=>⟨az Z,y+1,⟨Z,Z,qx 0 G u hy.2.2 ?_⟩,rfl,Z⟩⟩;have:jA (cs,ns,os,fs,ls,ks) x v=false:=by
  rw[cg,qY h.1];rcases h.2 with h3|h3;rw[qY Z];rfl;rw[qY h3];simp
 refine(aCP (i:=x.toNat) (by show x.toNat<nx.length;omega) ?_).symm;show oC _ _ (nx.getD x.toNat [])=false;rw[<- hr];unfold oC;rw[wC hx0];exact IL 0 G u (by rw[<- L];exact this);rw[<- L,cg];by_cases hm:v=-1;rw[qR hm];rfl;obtain⟨g1,g2⟩:=h hm;rw[qR (p:=v<ls.length) Z,qR g2];simp;have e1:=yd hy.2.2 hge2;refine⟨az Z,x+1,⟨Z,by show x+1<=(nx.length:Int);omega,λi hi=>?_⟩,rfl,Z⟩;by_cases e:(i:Int)<x;exact hx.2.2 i e;have:(i:Int)=x:=by omega
 rw[this];show oC _ _ (nx.getD i [])=true;have e2:i=x.toNat:=Z;rw[e2,<- hr];exact e1;unfold JY;rw[qR (p:=nx.length=fs.length) Z,qR (p:=dy.length=ks.length) Z];symm;simp only[yC];exact qW.2 λi hi=>hx.2.2 i (by have:i<nx.length:=wJ.1 hi;omega)
def bY(n:Net)(o:Int):Off:=n.2.2.2.1.getD o.toNat (⟨#[]⟩,0,0,0,0,0,[])
def ag(n:Net)(o:Int):Cal:=n.1.getD (bY n o).2.2.1.toNat (0,[],[])
def bz(n:Net)(k:Int):Cla:=n.2.2.2.2.2.getD k.toNat (⟨#[]⟩,0,0)
def usP(n:Net):Prop:=usF n=true/\Ak n
def iu(n:Net)(o:Int):Prop:=0<=o/\o<n.2.2.2.1.length
def OY(n:Net)(k:Int):Prop:=0<=k/\k<n.2.2.2.2.2.length
def tOk(t:Int):Prop:=-3000000000<=t/\t<=3000000000
def oD(n:Net)(o t:Int):Int:=t+(bY n o).2.2.2.2.1*(bY n o).2.2.2.2.2.1
def aBh(n:Net)(o t:Int):Prop:=usP n/\iu n o/\tOk t
def cellAt(p:Plan)(o d:Int):Int:=(p.2.2.1.getD o.toNat []).getD d.toNat 0
def jy(p:Plan)(k o d:Int):Int:=((p.2.2.2.getD k.toNat []).getD o.toNat []).getD d.toNat 0
def plP(n:Net)(p:Plan):Prop:=(0<=p.1/\p.1<=p.2.1/\p.2.1<=600)/\(p.2.2.1.length=n.2.2.2.1.length/\∀r∈p.2.2.1,r.length=n.2.2.2.1.length)/\(∀i j:Int,iu n i->iu n j->jA n i (cellAt p i j)=true/\-1<=cellAt p i j)/\
 p.2.2.2.length=n.2.2.2.2.2.length/\∀t∈p.2.2.2,t.length=n.2.2.2.1.length/\∀r∈t,r.length=n.2.2.2.1.length
def fY(n:Net)(o l:Int)(p:Plan)(x t:Int):Bool:=wkF (ag n o).2.1 (ag n o).2.2 (x-2+p.1)&&decide (oJ (ag n o).1 (x-2+p.1) (bu n l).2.2.2.1≥oD n o t)
def oY(n:Net)(p:Plan)(d:Int):Nat->Int->Int->Li->Bool×Int×Li
 |0,o,t,xs=>(decide (o=d),t,xs)|f+1,o,t,xs=>if o=d then(true,t,xs)else if cellAt p o d=-1 then(false,t,xs)else if bm xs=false then(false,t,xs)else
  if fY n o (cellAt p o d) p (hd xs) t=true then oY n p d f (bu n (cellAt p o d)).2.2.1 (oJ (ag n o).1 (hd xs-2+p.1) (bu n (cellAt p o d)).2.2.2.1+(bu n (cellAt p o d)).2.2.2.2.1) (tl xs)else(false,t,tl xs)
def yu(n:Net)(p:Plan)(o d t:Int)(xs:Li):Bool:=(oY n p d 19 o t xs).1
def sN(n:Net)(p:Plan)(o d t:Int)(xs:Li):Int:=(oY n p d 19 o t xs).2.1
def Px(n:Net)(p:Plan)(o d t:Int)(xs:Li):Li:=(oY n p d 19 o t xs).2.2
def MZ(n:Net)(p:Plan)(o d t:Int)(xs:Li):Prop:=((usP n/\plP n p)/\iu n o/\iu n d)/\tOk t/\dF xs
def Xi(n:Net)(p:Plan)(d j h:Int)(f:Li)(k o t:Int)(xs:Li):Prop:=(0<=k/\k<=19/\MZ n p o d t xs)/\oY n p d (19-k).toNat o t xs=oY n p d 19 j h f
def Pe(c:Cal)(m t:Int):Int:=if m<dr c.1 t then bg c.1 t+1 else bg c.1 t
def YR(c:Cal)(m t:Int):Option Int:=(fy c.2.1 c.2.2 (Pe c m t) (Pe c m t+59)).head?
def nI(c:Cal)(m t:Int):Bool:=(YR c m t).isSome
def OO(c:Cal)(m t:Int):Int:=(YR c m t).getD 0
def XD(c:Cal)(t:Int):Prop:=oQ c=true/\big t
def CB(k:Nat):Prop:=k=0
def Pg(n:Net)(d f:Int):Int:=bg (ag n d).1 f
def Ha(n:Net)(p:Plan)(k o d f:Int)(xs:Li):Int:=OO (ag n d) (bz n k).2.2 (oD n d (sN n p o d f xs))
def RD(n:Net)(p:Plan)(k o d f:Int)(xs:Li):Li:=fy (ag n d).2.1 (ag n d).2.2 (Pg n d f+1) (Ha n p k o d f xs)
def tf(n:Net)(p:Plan)(k o d f:Int)(xs:Li):Bool:=yu n p o d f xs&&(nI (ag n d) (bz n k).2.2 (oD n d (sN n p o d f xs))&&(decide (Ha n p k o d f xs-Pg n d f<=2000)&&decide (((RD n p k o d f xs).length:Int)<=jy p k o d)))
def YA(n:Net)(p:Plan)(k o d f:Int)(xs:Li):Prop:=MZ n p o d f xs/\OY n k
def TI(k:Nat):Prop:=k<=4000000000000
def tA(p:Plan)(t:Int):Bool:=decide (1440*p.1<=t)&&decide (t<1440*p.2.1)
def Na(n:Net)(p:Plan)(o:Int):Li:=fy (ag n o).2.1 (ag n o).2.2 (p.1-1) (p.2.1+1)
def OQ(n:Net)(k o d:Int):Int:=oJ (ag n o).1 d (bz n k).2.1
def jk(n:Net)(p:Plan)(k o:Int):Li:=((Na n p o).map λd=>OQ n k o d).filter (tA p)
def Pz(n:Net)(p:Plan)(k o:Int)(j:Nat):Nat:=((((Na n p o).take j).map λd=>OQ n k o d).filter (tA p)).length
def aDT(n:Net)(p:Plan)(k o:Int):Prop:=(usP n/\plP n p)/\iu n o/\OY n k
abbrev AG:=aA [.pvf N Pl,.val I,.val I] (λ((n,_),o,t,_)=>aBh n o t) λ((n,_),o,t,_)=>.dat I (oD n o t)
abbrev sF:=aA [.pvf N Pl,.val I] (λ((n,_),o,_)=>usP n/\iu n o) λ((n,_),o,_)=>.ip C (ag n o)
abbrev Hu:=aA [.pvf N Pl,.val I,.val I] (λ_=>True) λ((n,p),k,o,_)=>.fn 85 [.ipv (.ips [.ip N n,.ip Pl p,.top]),.ip I o,.ip I k]
def Uu:Kt:=kOr 91 AG <|
 kOr 86 sF <|
 kOr 32 Hu aDw
def KI1:FuncId->List AV->Option iD:=λf h=>if f=156 then match ofK [.ptr I,.ptr I,.bp C] h with
 |some (a,b,c,_)=>some ⟨wdP c.2.1 c.2.2 a b,I,fy c.2.1 c.2.2 a b⟩|none=>none
 else none
noncomputable def oT(K:Kt)(j:FuncId->List AV->Option iD)(h:KPt)(f:FuncId->Bool):Cfg:=⟨Tryz.prog,fU,K,λ_=>false,j,true,h,f⟩
def mki(K:Kt)(KI:FuncId->List AV->Option iD):Cfg:={mkc K with KI:=KI}
def aGD(n:Net)(p:Plan)(k o:Int):Zg:=⟨aG,⟨λ_ _=>none,λ_ _=>none,λf=>f==6⟩,λs=>some (frz (allNames s) s),λj=>Pz n p k o j⟩
def aGy(n:Net)(p:Plan)(d j h:Int)(f:Li):Ann:=Z8 2 (Int×Int×Int×Li) (λx=>Xi n p d j h f x.1 x.2.1 x.2.2.1 x.2.2.2) (λs x=>oG (put (gk s) [(9,.dat I x.1),(1,.dat I x.2.1),(3,.dat I x.2.2.1)]) 1 (.var [.dat R x.2.2.2])) λx=>Dc (Dk 19 x.1)
def aDv:Kt:=kOr 154 (YF 1 R [.mp 1] (λ_ f=>True/\bm f=true) (λ_ f=>.dat I (hd f)) λ_ f=>tl f) Uu
def c12:Cfg:=Oe aDv (λ_=>false) KP6 (λf=>f==29||f==154)
def aGC:Ann:=Z8 5 Nat CB (λs _=>gk s) λk=>k
def aA9:Kt:=kOr 89 (YF 1 R [.pv 1 N Pl,.val I,.val I,.val I] (λ((n,p),o,d,t,_) f=>MZ n p o d t f/\yu n p o d t f=true) (λ((n,p),o,d,t,_) f=>.dat I (sN n p o d t f)) λ((n,p),o,d,t,_) f=>Px n p o d t f) <|
 kOr 90 (aA [.ptr C,.val I,.val I] (λ(c,m,t,_)=>XD c t/\nI c m t=true) λ(c,m,t,_)=>.dat I (OO c m t)) Uu
def aGg:KPt:=pOr 89 (oX 1 R [.pv 1 N Pl,.val I,.val I,.val I] λ((n,p),o,d,t,_) f=>⟨MZ n p o d t f,yu n p o d t f,dP 38 190⟩) <|
 pOr 90 (Ir [.ptr C,.val I,.val I] λ(c,m,t,_)=>⟨XD c t,nI c m t,dP 38 190⟩) KPr
def c13:Cfg:=oT aA9 KI1 aGg (λf=>f==29||f==89||f==90)
def aGq:Ann:=⟨λf s=>match f with
 |7=>match s.sig.T 15 with
  |.ptr nm _ _ _=>some {α:=Nat,inv:=λk=>TI k,st:=λk=>oG (gk s) nm (.var [.dat I (Ec k)]),μ:=λk=>k}|_=>none
 |_=>none,λ_ _=>none,λ_ _=>none⟩
theorem KA{n:Net}(h:usP n):((∀c∈n.1,oQ c=true)/\(∀o∈n.2.2.2.1,mh n o=true))/\(∀l∈n.2.2.2.2.1,mx n l=true)/\∀k∈n.2.2.2.2.2,mM k=true:=by
 have:=h.1;unfold usF at this;simp only[qE,qW]at this;exact⟨⟨this.1.1.1,this.1.1.2⟩,this.1.2,this.2⟩
theorem PS{n:Net}{o:Int}(h:usP n)(f:iu n o):(0<=(bY n o).2.2.1/\(bY n o).2.2.1<n.1.length)/\(1<=(bY n o).2.2.2.2.1/\(bY n o).2.2.2.2.1<=1000)/\1<=(bY n o).2.2.2.2.2.1/\(bY n o).2.2.2.2.2.1<=1000:=by
 have:=(KA h).1.2 (bY n o) (aO (by have:=f.1;have:=f.2;omega));unfold mh at this;simp only[qE,oS]at this;omega
theorem zg{n:Net}{o:Int}(h:usP n)(f:iu n o):oQ (ag n o)=true:=
 (KA h).1.1 _ (aO (by have:=(PS h f).1;omega))
theorem PT{n:Net}{l:Int}(h:usP n)(j:0<=l)(f:l<n.2.2.2.2.1.length):iu n (bu n l).2.1/\iu n (bu n l).2.2.1/\(0<=(bu n l).2.2.2.1/\(bu n l).2.2.2.1<=1439)/\1<=(bu n l).2.2.2.2.1/\(bu n l).2.2.2.2.1<=100000:=by
 have:=(KA h).2.1 (bu n l) (aO Z);unfold mx oI at this;simp only[qE,oS]at this;unfold iu;omega
theorem PU{n:Net}{k:Int}(h:usP n)(f:OY n k):(0<=(bz n k).2.1/\(bz n k).2.1<=1439)/\0<=(bz n k).2.2/\(bz n k).2.2<=1439:=by
 have:=(KA h).2.2 (bz n k) (aO (by have:=f.1;have:=f.2;omega));unfold mM at this;simp only[qE,oS]at this;omega
theorem ko{c:Cal}(h:oQ c=true):(-720<=c.1/\c.1<=840)/\c.2.1.length=7/\srt c.2.2:=by
 have:=(jq.1 h).1;exact⟨⟨this.1,this.2.1⟩,this.2.2.1,PR h⟩
theorem Yx{n:Net}{o t:Int}(h:usP n)(f:iu n o):t+1<=oD n o t/\oD n o t<=t+1000000:=by
 obtain⟨_,⟨z,y⟩,u,j⟩:=PS h f;unfold oD;have G:1*1<=(bY n o).2.2.2.2.1*(bY n o).2.2.2.2.2.1:=qAd z u (by decide) Z;have A:(bY n o).2.2.2.2.1*(bY n o).2.2.2.2.2.1<=1000*1000:=qAd y j Z (by decide);omega
theorem ZA:eO 91 AG:=af λ(((n:Net),(p:Plan)),(o:Int),(t:Int),_)=>by
 refine zE (A:=aG) (p:=let u:=(Dw n.2.2.2.1 (Dc o) (ByteArray.mk #[],(0:Int),(0:Int),(0:Int),(0:Int),(0:Int),Du ByteArray)).2.2.2.2;let j:=u.1*u.2.1;let h:=t+j;(aBh n o t->0<=o/\o<Di n.2.2.2.1/\inR .i64 j/\inR .i64 h/\h=oD n o t/\True)) Bl λ⟨y,f,z⟩=>?_;obtain⟨r1,X⟩:=Yx (t:=t) y f;obtain⟨L,G⟩:=z;have e:oD n o t=t+(bY n o).2.2.2.2.1*(bY n o).2.2.2.2.2.1:=rfl;refine⟨f.1,f.2,az ?_,az ?_,rfl,trivial⟩;show _<=(bY n o).2.2.2.2.1*(bY n o).2.2.2.2.2.1/\(bY n o).2.2.2.2.1*(bY n o).2.2.2.2.2.1<=_;omega;show _<=t+(bY n o).2.2.2.2.1*(bY n o).2.2.2.2.2.1/\t+(bY n o).2.2.2.2.1*(bY n o).2.2.2.2.2.1<=_;omega
theorem Qs:eO 86 sF:=af λ(((n:Net),(p:Plan)),(o:Int),_)=>by
 refine zE (A:=aG) (p:=let h:=(Dw n.2.2.2.1 (Dc o) (ByteArray.mk #[],(0:Int),(0:Int),(0:Int),(0:Int),(0:Int),Du ByteArray)).2.2.1;(usP n/\iu n o->0<=o/\o<Di n.2.2.2.1/\0<=h/\h<Di n.1/\Dw n.1 (Dc h) ((0:Int),Du Bool,Du Int)=ag n o/\True)) Bl λ⟨j,f⟩=>?_;have:=(PS j f).1;exact⟨f.1,f.2,this.1,this.2,rfl,trivial⟩
theorem aBU:eO 32 Hu:=af λ(((n:Net),(p:Plan)),(k:Int),(o:Int),_)=>zE (A:=aG) (p:=(True->k8 n p o k)) Bl λ_=>by simp
theorem NA:ay Tryz.prog fU Uu:=ai ZA<|ai Qs<|ai aBU Bl
theorem lS.args{P:Program}{G:List (Nat×AV)}{gf:FuncId}{xs u:List AV}{y:iD}(h:lS P G gf u y)(j:∀(C:Ctx) f,AV.relL P C xs f->AV.relL P C u f):lS P G gf xs y:=
 λA l J JX JP w D f X L z=>h A l J JX JP w D f X L (j _ f z)
theorem aD5:aR Tryz.prog fU KI1:=by
 intro f j A h;unfold KI1 at h;split at h;rename_i e;subst e;split at h;rename_i a b c _ u;cases h;exact lS.args (aEf c.1 a b c.2.1 c.2.2) λC z y=>iW u y;cases h;cases h
theorem XF(n:Net)(p:Plan)(k o:Int):Pz n p k o (Na n p o).length=(jk n p k o).length:=by
 unfold Pz jk;rw[qM (qL _)]
theorem TD{n:Net}{p:Plan}{k o:Int}{j:Nat}{y:Int}(h:oL (Na n p o) j y):Pz n p k o (j+1)=Pz n p k o j+(if tA p (OQ n k o y)=true then 1 else 0):=by
 have h:(Na n p o)[j]?=some y:=h;unfold Pz;rw[wY,h,zS,yJ,qG];congr 1;simp only[Option.toList,wV,qBf,yP,gU];split<;>rfl
theorem aAI{n:Net}{p:Plan}{k o:Int}{j:Nat}{y:Int}(h:oL (Na n p o) j y)(u:tA p (OQ n k o y)=true):oL (jk n p k o) (Pz n p k o j) (OQ n k o y):=by
 have h:(Na n p o)[j]?=some y:=h;obtain⟨A,f⟩:=qC.1 h;have e:Na n p o=(Na n p o).take j++y::(Na n p o).drop (j+1):=by rw[<- f,List.getElem_cons_drop,xX]
 have z:jk n p k o=(((Na n p o).take j).map λd=>OQ n k o d).filter (tA p)++((y::(Na n p o).drop (j+1)).map λd=>OQ n k o d).filter (tA p):=by
  unfold jk;conv=>lhs;rw[e]
  rw[zS,yJ]
 unfold oL;rw[z];unfold Pz;rw[qV (qL _),qAg,wV,yP,if_pos u];rfl
theorem PK{w:List Bool}{h:Li}{a b x:Int}(f:x∈fy w h a b):a<=x/\x<=b/\wkF w h x=true:=by
 unfold fy at f;rw[yY,vW]at f;obtain⟨⟨i,j,rfl⟩,u⟩:=f;have:=wJ.1 j;exact⟨Z,Z,u⟩
theorem aBV(n:Net)(p:Plan)(k o:Int):lS Tryz.prog fU 85 [.ipv (.ips [.ip N n,.ip Pl p,.top]),.ip I o,.ip I k] ⟨aDT n p k o,I,jk n p k o⟩:=by
 refine zN (c:=mki Uu KI1) (A:=(aGD n p k o)) NA aD5 hm (p:=let A:=ag n o;let c3:=(Ty.int .i64).pair (Ty.bool.sl.pair (Ty.int .i64).sl);let c1:=p.2.1;let c2:=1440*p.1;let c5:=1440*c1;let h:=p.1-1;let z:=c1+1;let c8:=A.2;let c11:=fy c8.1 c8.2 h z;let c12:=jk n p k o;let L:=Dl c12;let G:=A.1;let c16:=(Dw n.2.2.2.2.2 (Dc k) (ByteArray.mk #[],(0:Int),(0:Int))).2.1;true/\true/\true/\false=false/\∀(l:Nat),aDT n p k o->(usP n/\iu n o)/\1=1/\0=0/\inR .i64 c2/\inR .i64 c5/\1=1/\0=0/\1=1/\0=0/\1=1/\0=0/\inR IntKind.i64 h/\inR .i64 z/\True/\l=l/\n=n/\p=p/\o=o/\k=k/\l=l/\1=1/\0=0/\AV.ip c3 A=AV.ip c3 A/\1=1/\0=0/\c2=c2/\1=1/\0=0/\c5=c5/\n=n/\p=p/\o=o/\ag n o=ag n o/\n=n/\p=p/\n=n/\p=p/\p=p/\p=p/\p=p/\p=p/\p.1=p.1/\c2=c2/\n=n/\p=p/\n=n/\p=p/\p=p/\p=p/\p=p/\p.2=p.2/\c1=c1/\c5=c5/\ag n o=ag n o/\n=n/\p=p/\n=n/\p=p/\p=p/\p=p/\p=p/\p=p/\p.1=p.1/\h=h/\n=n/\p=p/\n=n/\p=p/\p=p/\p=p/\p=p/\p.2=p.2/\c1=c1/\z=z/\h=h/\z=z/\ag n o=ag n o/\wdP c8.1 c8.2 h z/\Pz n p k o 0=0/\Pz n p k o (Dl c11)=L/\∀(j:Nat),let X:=Pz n p k o j;let c18:=X+1;let c19:=Pz n p k o (j+1);∀(y:Int),let u:=Eb (oJ G y c16) c2;let f:=Dy u (Dn (oJ G y c16) c5) false;let c4:=Dh true f->f;let c22:=Dy f (Dj false) false;oL c11 j y->true/\0<=k/\k<Di n.2.2.2.2.2/\(big G/\big y/\big c16)/\(u->u->u)/\(u->u->u)/\(Dh true u->u)/\(f->(f->f)/\(f->f)/\l=l/\true/\oL c12 X (oJ G y c16)/\∀(b:Bool),let c23:=Dy f (Dj b) false;c4/\(c23->b->c18=L)/\(c23=false->b/\c18=c19))/\(f=false->(f->f->f)/\c4/\(c22->true->X=L)/\(c22=false->true/\X=c19))) ⟨rfl,rfl,rfl,rfl,λl ⟨⟨hu,hp⟩,ho,hk⟩=>?_⟩
 obtain⟨⟨p0,p1,p2⟩,_⟩:=hp;have hc:=zg hu ho;obtain⟨⟨z1,z2⟩,hw,hs⟩:=ko hc;have hcl:=PU hu hk;simp only[qBi,yE,vY];refine⟨⟨hu,ho⟩,az (by omega),az (by omega),az (by omega),az (by omega),⟨hw,hs,⟨by omega,by omega⟩,⟨by omega,by omega⟩⟩,rfl,XF n p k o,λj y hy=>?_⟩;have hy':oL (Na n p o) j y:=hy;have hm2:=PK (qZ hy');have G:=TD (k:=k) hy';have eM:oJ (ag n o).1 y (bz n k).2.1=OQ n k o y:=rfl;have eC:Dy (Eb (OQ n k o y) (Ej 1440 p.1)) (Dn (OQ n k o y) (Ej 1440 p.2.1)) false=tA p (OQ n k o y):=by
  rw[TJ];rfl
 have two:∀{q:Prop},q->(q/\q):=λh=>⟨h,h⟩;refine⟨hk.1,hk.2,⟨⟨by omega,by omega⟩,⟨by omega,by omega⟩,⟨by show _<=(bz n k).2.1;omega,by show(bz n k).2.1<=_;omega⟩⟩,?_⟩;simp only[qBd,gG,yE,vY];refine⟨λh=>by simpa[Dh]using h,λz=>?_,λz=>?_⟩;have L:tA p (OQ n k o y)=true:=by rw[<- eC];exact z
 rw[if_pos L]at G;refine⟨aAI hy' L,λb=>⟨λ_=>z,λh1 h2=>?_,λh1=>?_⟩⟩;rw[h2]at h1;rw[z]at h1;cases h1;rw[z]at h1;have:b=true:=by simpa[Dy,Dj]using h1
 exact⟨this,G.symm⟩;have L:tA p (OQ n k o y)=false:=by rw[<- eC];exact z
 rw[if_neg (by rw[L];exact Bool.false_ne_true)]at G;refine⟨λh=>by simpa[Dh]using h,?_,?_⟩;intro h;rw[z]at h;cases h;intro _;exact G.symm
theorem aDm:ay Tryz.prog fU aDv:=ai (rm λ_ f=>(I7 f).1) NA
theorem KR(n:Net)(p:Plan)(o d t:Int)(xs:Li):aj Tryz.prog fU 89 [.ips [.ip N n,.ip Pl p,.ptr 1 1 0 0],.dat I o,.dat I d,.dat I t] [(1,.var [.dat R xs])] ⟨MZ n p o d t xs/\yu n p o d t xs=true,.dat I (sN n p o d t xs),[(1,.var [.dat R (Px n p o d t xs)])]⟩/\
  fq Tryz.prog fU 89 [.ips [.ip N n,.ip Pl p,.ptr 1 1 0 0],.dat I o,.dat I d,.dat I t] [(1,.var [.dat R xs])] ⟨MZ n p o d t xs,yu n p o d t xs,dP 38 190⟩:=by
 refine zM (c:=c12) (A:=(aGy n p d o t xs)) (q:=⟨MZ n p o d t xs,yu n p o d t xs,dP 38 190⟩) aDm tC hm Us (p:=let c1:=p.2.2.1;let c2:=yu n p o d t xs;let c3:=chainOf (Value.iface 38 (Value.int .i64 (190:Int)));let c4:=n.2.2.2.2.1;let c5:=p.1;let L:=(ByteArray.mk #[],(0:Int),(0:Int),(0:Int),(0:Int),(0:Int));true/\(MZ n p o d t xs->1=1/\(∃(x:Int×Int×Int×Li),let u:=x.1;let c8:=x.2;let z:=c8.1;let c10:=c8.2;let c11:=c10.1;let A:=c10.2;Xi n p d o t xs u z c11 A/\T6 n p 1 0 0 (o=z/\d=d/\t=c11/\(0:Int)=(0:Int)/\0=u/\xs=A/\T5 1))/\∀(x:Int×Int×Int×Li),let h:=x.1;let G:=x.2;let f:=G.1;let c16:=G.2;let c17:=c16.1;let c18:=c16.2;let c19:=Ea f d;let c20:=Dw c1 (Dc f) [];let X:=Dn h 19;let c22:=Dw c20 (Dc d) 0;let c23:=Dy X (Ea c22 (-1)) false;let c24:=bm c18;let c25:=hd c18-2;let c26:=c25+c5;let c27:=ag n f;let c28:=c27.1;let c29:=(Dw c4 (Dc c22) L).2.2;let c30:=c29.2;let c31:=c30.1;let c32:=c27.2;let c33:=c32.1;let c34:=c32.2;let j:=wkF c33 c34 c26;let c36:=oJ c28 c26 c31;let c37:=Dy j (Eb c36 (oD n f c17)) false;let c38:=c36+c30.2.1;let c39:=h+1;
  Xi n p d o t xs h f c17 c18->(c19->0<=f/\f<Di c1/\0<=d/\d<Di c20/\(X->X->X)/\(Dh true X->X)/\(true->True/\(c23=false->c2=false/\true/\c3=c3))/\((true->c23)->(True/\c23)/\0<=c22/\c22<Di c4/\(usP n/\iu n f)/\True/\(c24->(True/\c24)/\1=1/\inR .i64 c25/\inR .i64 c26/\(big c28/\big c26/\big c31)/\wkP c33 c34 c26/\(j->j->j)/\(j->j->j)/\(j->j->j)/\(j->aBh n f c17)/\(j->j->j)/\(j->j->j)/\(Dh true j->j)/\(true->True/\(c37=false->c2=false/\true/\c3=c3))/\((true->c37)->(True/\c37)/\inR .i64 c38/\inR .i64 c39/\∃(y:Int×Int×Int×Li),let c40:=y.1;let c41:=y.2;let c42:=c41.1;let c43:=c41.2;let c44:=c43.1;let c45:=c43.2;Xi n p d o t xs c40 c42 c44 c45/\(T6 n p 1 0 0 (c29.1=c42/\d=d/\c38=c44/\(0:Int)=(0:Int)/\c39=c40/\tl c18=c45/\T5 1))/\Dc (19-c40)<Dc (19-h)))/\(c24=false->c2=false/\true/\c3=c3)))/\(c19=false->c2/\c17=sN n p o d t xs/\c18=Px n p o d t xs/\T5 1))) ⟨rfl,λhp=>?_⟩
 refine Z9 ?_;refine⟨⟨(0,o,t,xs),⟨⟨qN _,show(0:Int)<=19 by decide,hp⟩,rfl⟩,rfl,rfl,rfl,rfl⟩,λ⟨k,z,L,u⟩ hi=>?_⟩;obtain⟨⟨k0,k1,hq⟩,he⟩:=hi;simp only at k0 k1 hq he;obtain⟨⟨⟨hu,hpl⟩,G,hd2⟩,ht2,hys⟩:=id hq;obtain⟨⟨p0,p1,p2⟩,⟨q1,q2⟩,q3,_⟩:=id hpl;obtain⟨c,ec⟩:∃c,c=cellAt p z d:=⟨_,rfl⟩;have eC:(p.2.2.1.getD z.toNat []).getD d.toNat 0=c:=ec.symm;obtain⟨ln,el⟩:∃ln,ln=bu n c:=⟨_,rfl⟩;have eL:n.2.2.2.2.1.getD c.toNat (⟨#[]⟩,0,0,0,0,0)=ln:=el.symm;simp only[eC,eL];obtain⟨g1,g2⟩:=q3 z d G hd2;rw[<- ec]at g1 g2;have eOk:yu n p o d t xs=(oY n p d (19-k).toNat z L u).1:=by rw[he];rfl
 have eT:sN n p o d t xs=(oY n p d (19-k).toNat z L u).2.1:=by rw[he];rfl
 have eR:Px n p o d t xs=(oY n p d (19-k).toNat z L u).2.2:=by rw[he];rfl
 have hf:k<19->(19-k).toNat=(19-(k+1)).toNat+1:=λh=>Z;have eS:∀f,oY n p d (f+1) z L u=if z=d then(true,L,u)else if c=-1 then(false,L,u)else if bm u=false then(false,L,u)else
   if fY n z c p (hd u) L=true then oY n p d f ln.2.2.1 (oJ (ag n z).1 (hd u-2+p.1) ln.2.2.2.1+ln.2.2.2.2.1) (tl u)else(false,L,tl u):=λf=>by rw[el,ec];rfl
 have eD:fY n z c p (hd u) L=(wkF (ag n z).2.1 (ag n z).2.2 (hd u-2+p.1)&&decide (oJ (ag n z).1 (hd u-2+p.1) ln.2.2.2.1≥oD n z L)):=by rw[el];rfl
 refine⟨λhne=>?_,λheq=>?_⟩;have hrow:=q2 _ (aO (l:=p.2.2.1) (i:=z.toNat) (d:=[]) (by have:=G.1;have:=G.2;omega));refine⟨G.1,by rw[q1];exact G.2,hd2.1,by rw[hrow];exact hd2.2,λh=>?_,λ⟨hk,hc⟩=>?_⟩;rw[eOk];by_cases hk:k<19;rw[hf hk,eS,if_neg hne,if_pos (h hk)];rw[show(19-k).toNat=0 by omega];exact qY hne;have hl:c<n.2.2.2.2.1.length:=by
  unfold jA at g1;rw[qY hc,xQ,qE,qF]at g1;exact g1.1
 obtain⟨_,lo,⟨m0,m1⟩,r0,r1⟩:=PT hu (by omega:0<=c) hl;rw[<- el]at lo m0 m1 r0 r1;obtain⟨⟨z1,z2⟩,hw,hs⟩:=ko (zg hu G);refine⟨⟨hk,hc⟩,Z,hl,⟨hu,G⟩,λh1=>?_,λh1=>?_⟩;have hm1:0<=hd u/\hd u<=65519:=dJ.1 hys.1 _ (aO (vO h1));have hm2:-1000000<=oJ (ag n z).1 (hd u-2+p.1) ln.2.2.2.1/\oJ (ag n z).1 (hd u-2+p.1) ln.2.2.2.1<=100000000:=by unfold oJ;omega
 refine⟨h1,az Z,az Z,⟨⟨Z,Z⟩,⟨Z,Z⟩,⟨Z,Z⟩⟩,⟨hw,hs,⟨Z,Z⟩⟩,λ_=>⟨hu,G,ht2⟩,λh=>?_,λh=>?_⟩;rw[eOk,hf hk,eS,if_neg hne,if_neg hc,if_neg (by rw[h1];exact Bool.noConfusion),if_neg];rw[eD];simpa using h;have hy:fY n z c p (hd u) L=true:=by rw[eD];simpa using h
 refine⟨h,az Z,az Z,⟨(k+1,ln.2.2.1,oJ (ag n z).1 (hd u-2+p.1) ln.2.2.2.1+ln.2.2.2.2.1,tl u),⟨⟨by show 0<=k+1;omega,by show k+1<=19;omega,⟨⟨hu,hpl⟩,lo,hd2⟩,⟨by show -3000000000<=_+_;omega,by show _+_<=3000000000;omega⟩,fG hys 1⟩,?_⟩,⟨rfl,rfl,rfl,rfl⟩,by show(19-(k+1)).toNat<_;omega⟩⟩;rw[<- he,hf hk,eS,if_neg hne,if_neg hc,if_neg (by rw[h1];exact Bool.noConfusion),if_pos hy];rw[eOk,hf hk,eS,if_neg hne,if_neg hc,if_pos h1];have e:oY n p d (19-k).toNat z L u=(true,L,u):=by
  by_cases hk:k<19;rw[hf hk,eS,if_pos heq];rw[show(19-k).toNat=0 by omega];show(decide (z=d),L,u)=_;rw[qR heq]
 rw[eOk,eT,eR,e];exact⟨rfl,rfl,rfl⟩
theorem Qp(c:Cal)(m t:Int):aj Tryz.prog fU 90 [.ip C c,.dat I m,.dat I t] [] ⟨XD c t/\nI c m t=true,.dat I (OO c m t),[]⟩/\
  fq Tryz.prog fU 90 [.ip C c,.dat I m,.dat I t] [] ⟨XD c t,nI c m t,dP 38 190⟩:=by
 obtain⟨z,w,h⟩:=c;refine zC (c:=oT Uu KI1 noP (λ_=>false)) (A:=aGC) (q:=⟨XD (z,w,h) t,nI (z,w,h) m t,dP 38 190⟩) NA aD5 hm Aj (p:=let f:=(z,w,h);let X:=Dn m (dr z t);let u:=bg z t+1;let c4:=u+60;let G:=c4-1;let c6:=fy w h u G;let L:=nI f m t;let c8:=chainOf (Value.iface 38 (Value.int .i64 (190:Int)));let c12:=true->True/\(false=false->L=false/\true/\c8=c8);let A:=bg z t+60;let j:=A-1;let c11:=fy w h (bg z t) j;true/\(XD f t->(big z/\big t)/\(X->inR .i64 u/\inR .i64 c4/\inR .i64 G/\True/\wdP w h u G/\(∃x,CB x/\x=0/\f=f/\m=m/\t=t/\1=1/\0=0/\0=0/\u=u/\dr z t=dr z t/\bg z t=bg z t/\dr z t=dr z t/\f=f/\t=t/\bg z t=bg z t/\dr z t=dr z t/\bg z t=bg z t/\dr z t=dr z t/\m=m/\dr z t=dr z t/\X=X/\bg z t=bg z t/\u=u/\f=f/\u=u/\u=u/\c4=c4/\G=G/\u=u/\G=G/\f=f/\(0:Int)=(0:Int)/\True)/\(∀(x:Nat) (y:Int),CB x->oL c6 x y->L7 1 0 (L/\L7 1 0 (y=OO f m t/\True)))/\∀(x:Nat),CB x->x=Dl c6->c12/\True)/\(X=false->inR .i64 A/\inR .i64 j/\True/\wdP w h (bg z t) j/\(∃x,CB x/\x=0/\f=f/\m=m/\t=t/\1=1/\0=0/\0=0/\bg z t=bg z t/\dr z t=dr z t/\bg z t=bg z t/\dr z t=dr z t/\f=f/\t=t/\bg z t=bg z t/\dr z t=dr z t/\bg z t=bg z t/\dr z t=dr z t/\m=m/\dr z t=dr z t/\X=X/\f=f/\bg z t=bg z t/\bg z t=bg z t/\A=A/\j=j/\bg z t=bg z t/\j=j/\f=f/\(0:Int)=(0:Int)/\True)/\(∀(x:Nat) (y:Int),CB x->oL c11 x y->L7 1 0 (L/\L7 1 0 (y=OO f m t/\True)))/\∀(x:Nat),CB x->x=Dl c11->c12/\True))) ⟨rfl,λhp=>?_⟩
 refine Z9 ?_;obtain⟨hc,t1,t2⟩:=id hp;obtain⟨⟨z1,z2⟩,hw,hs⟩:=ko hc;simp only at z1 z2 hw hs;have hday:-1000000000<=bg z t/\bg z t<=1000000000:=by unfold bg;omega
 have key:∀b:Int,Pe (z,w,h) m t=b->(∀(x:Nat) (y:Int),CB x->oL (fy w h b (b+60-1)) x y->nI (z,w,h) m t=true/\y=OO (z,w,h) m t)/\∀x:Nat,CB x->x=(fy w h b (b+60-1)).length->nI (z,w,h) m t=false:=λb hb=>by
  have e:YR (z,w,h) m t=(fy w h b (b+60-1)).head?:=by
   unfold YR;rw[hb,show b+60-1=b+59 by omega]
  refine⟨λx y L hy=>?_,λx L hy=>?_⟩;have L:x=0:=L;have hy:(fy w h b (b+60-1))[x]?=some y:=hy;rw[L,<- qBr,<- e]at hy;unfold nI OO;rw[hy];exact⟨rfl,rfl⟩;have L:x=0:=L;have:fy w h b (b+60-1)=[]:=vK Z;unfold nI;rw[e,this];rfl
 refine⟨⟨⟨Z,Z⟩,t1,t2⟩,λhlt=>?_,λhge=>?_⟩;obtain⟨k1,k2⟩:=key (bg z t+1) (by unfold Pe;exact if_pos hlt);exact⟨az Z,az Z,az Z,⟨hw,hs,⟨Z,Z⟩,⟨Z,Z⟩⟩,rfl,k1,k2⟩;obtain⟨k1,k2⟩:=key (bg z t) (by unfold Pe;exact if_neg hge);exact⟨az Z,az Z,⟨hw,hs,⟨Z,Z⟩,⟨Z,Z⟩⟩,rfl,k1,k2⟩
theorem Zb:ay Tryz.prog fU aA9:=ai (rm λ((n,p),o,d,t,_) f=>(KR n p o d t f).1)<|ai (af λ(c,m,t,_)=>(Qp c m t).1) NA
theorem aA6:bG Tryz.prog fU aGg:=mg (vq λ((n,p),o,d,t,_) f=>(KR n p o d t f).2)<|mg (nA λ(c,m,t,_)=>(Qp c m t).2) NB
theorem Xh{n:Net}{p:Plan}{o d t:Int}{xs:Li}(hq:MZ n p o d t xs)(hc:cellAt p o d≠-1)(h1:bm xs=true):(0<=cellAt p o d/\cellAt p o d<n.2.2.2.2.1.length)/\MZ n p (bu n (cellAt p o d)).2.2.1 d (oJ (ag n o).1 (hd xs-2+p.1) (bu n (cellAt p o d)).2.2.2.1+(bu n (cellAt p o d)).2.2.2.2.1) (tl xs):=by
 obtain⟨⟨⟨y,h⟩,j,u⟩,X,f⟩:=hq;obtain⟨⟨p0,p1,p2⟩,⟨q1,q2⟩,L,_⟩:=id h;obtain⟨z,g2⟩:=L o d j u;have A:cellAt p o d<n.2.2.2.2.1.length:=by
  unfold jA at z;rw[qY hc,xQ,qE,qF]at z;exact z.1
 have G:0<=cellAt p o d:=Z;obtain⟨_,lo,⟨m0,m1⟩,r0,r1⟩:=PT y G A;obtain⟨⟨z1,z2⟩,hw,hs⟩:=ko (zg y j);have hm1:0<=hd xs/\hd xs<=65519:=dJ.1 f.1 _ (aO (vO h1));refine⟨⟨G,A⟩,⟨⟨y,h⟩,lo,u⟩,⟨?_,?_⟩,fG f 1⟩<;>unfold oJ<;>omega
theorem JW{n:Net}{p:Plan}{d:Int}:∀(f:Nat) {o t:Int}{xs:Li},MZ n p o d t xs->tOk (oY n p d f o t xs).2.1/\dF (oY n p d f o t xs).2.2
 |0,o,t,xs,h=>⟨h.2.1,h.2.2⟩|f+1,o,t,xs,h=>by
  unfold oY;by_cases z:o=d;rw[if_pos z];exact⟨h.2.1,h.2.2⟩;rw[if_neg z];by_cases u:cellAt p o d=-1;rw[if_pos u];exact⟨h.2.1,h.2.2⟩;rw[if_neg u];by_cases j:bm xs=false;rw[if_pos j];exact⟨h.2.1,h.2.2⟩;rw[if_neg j];by_cases y:fY n o (cellAt p o d) p (hd xs) t=true;rw[if_pos y];exact JW f (Xh h u (by simpa using j)).2;rw[if_neg y];exact⟨h.2.1,fG h.2.2 1⟩
theorem aAD{c:Cal}{m t:Int}(h:nI c m t=true):Pe c m t<=OO c m t/\OO c m t<=Pe c m t+59:=by
 unfold nI at h;unfold OO;cases e:YR c m t with
 |none=>rw[e]at h;cases h
 |some y=>
  unfold YR at e;have:=PK (gK e);exact⟨this.1,this.2.1⟩
theorem aBu(w:List Bool)(h:Li)(a b:Int):(fy w h a b).length<=(b+1-a).toNat:=by
 unfold fy;refine vP (gQ _ _) ?_;rw[vX,yI];exact qL _
theorem Qf(n:Net)(p:Plan)(k o d f:Int)(xs:Li):aj Tryz.prog fU 33 [.ips [.ip N n,.ip Pl p,.ptr 1 1 0 0],.dat I k,.dat I o,.dat I d,.dat I f] [(1,.var [.dat R xs])] ⟨YA n p k o d f xs/\tf n p k o d f xs=true,.tup [],[(1,.var [.dat R (Px n p o d f xs)])]⟩/\
  fq Tryz.prog fU 33 [.ips [.ip N n,.ip Pl p,.ptr 1 1 0 0],.dat I k,.dat I o,.dat I d,.dat I f] [(1,.var [.dat R xs])] ⟨YA n p k o d f xs,tf n p k o d f xs,dP 38 190⟩:=by
 refine zM (c:=c13) (A:=aGq) (q:=⟨YA n p k o d f xs,tf n p k o d f xs,dP 38 190⟩) Zb aD5 hm aA6 (p:=let c1:=yu n p o d f xs;let c2:=tf n p k o d f xs;let L:=chainOf (Value.iface 38 (Value.int .i64 (190:Int)));let c4:=n.2.2.2.2.2;let G:=sN n p o d f xs;let X:=oD n d G;let c7:=Dw c4 (Dc k) (ByteArray.mk #[],(0:Int),(0:Int));let c8:=c7.2.2;let c9:=nI (ag n d) c8 X;let c10:=(ag n d).1;let j:=OO (ag n d) c8 X;let h:=bg c10 f;let c13:=j-h;let c14:=Ef c13 2000;let A:=h+1;let c16:=(ag n d).2;let c17:=c16.1;let c18:=c16.2;let u:=dr c10 f;let c20:=Px n p o d f xs;let c21:=fy c17 c18 A j;let c22:=p.2.2.2;let c23:=Dw c22 (Dc k) (Du (Li));let c24:=Dw c23 (Dc o) [];let c25:=Dw c24 (Dc d) 0;true/\(YA n p k o d f xs->1=1/\(true->MZ n p o d f xs/\(c1=false->c2=false/\true/\L=L))/\((true->c1)->(MZ n p o d f xs/\c1)/\1=1/\(usP n/\iu n d)/\0<=k/\k<Di c4/\aBh n d G/\XD (ag n d) X/\(c9->0<=k/\k<Di c4/\aBh n d G/\(XD (ag n d) X/\c9)/\(big c10/\big f)/\inR .i64 c13/\(true->True/\(c14=false->c2=false/\true/\L=L))/\((true->c14)->(True/\c14)/\L7 1 0 (inR .i64 A/\True/\wdP c17 c18 A j/\(∃x,TI x/\x=0/\L4 n p 1 0 0 k o d f (L4 G (ag n d) j h u 1 0 0 n (L4 p 1 0 0 o d f G n (L4 p 1 0 0 d (ag n d) (ag n d) n p (L4 1 0 0 n p 1 0 0 n (L4 p 1 0 0 n n c4 c4 k (L4 c7 c8 c8 n p 1 0 0 d (L4 G X j h u (ag n d) f h u (L4 h u j h c13 c14 (ag n d) h A (T6 j A j (ag n d) c20 (0=Ec x/\T5 1)))))))))))/\(∀(x:Nat),let c26:=Ec x+1;
  ∀(y:Int),TI x->oL c21 x y->L7 1 0 (inR .i64 c26/\L7 1 0 (∃z,TI z/\z=x+1/\L4 n p 1 0 0 k o d f (L4 G (ag n d) j h u 1 0 0 n (L4 p 1 0 0 o d f G n (L4 p 1 0 0 d (ag n d) (ag n d) n p (L4 1 0 0 n p 1 0 0 n (L4 p 1 0 0 n n c4 c4 k (L4 c7 c8 c8 n p 1 0 0 d (L4 G X j h u (ag n d) f h u (L4 h u j h c13 c14 (ag n d) h A (T6 j A j (ag n d) c20 (c26=Ec z/\T5 1)))))))))))))/\∀(x:Nat),TI x->x=Dl c21->L7 1 0 (0<=k/\k<Di c22/\0<=o/\o<Di c23/\0<=d/\d<Di c24/\True/\(Ef (Ec x) c25->L7 1 0 (0<=k/\k<Di c22/\0<=o/\o<Di c23/\0<=d/\d<Di c24/\(True/\Ef (Ec x) c25)/\c2/\k7 c20 1))/\(Ef (Ec x) c25=false->c2=false/\true/\L=L)))))/\(c9=false->c2=false/\true/\L=L)))) ⟨rfl,λhp=>?_⟩
 refine Z9 ?_;obtain⟨hf,X⟩:=id hp;obtain⟨⟨⟨hu,hpl⟩,ho,hd⟩,ht,hys⟩:=id hf;obtain⟨⟨p0,p1,p2⟩,⟨q1,q2⟩,q3,q4,q5⟩:=id hpl;obtain⟨ft,_⟩:=JW 19 hf;have hcl:=PU hu X;have hc:=zg hu hd;obtain⟨⟨z1,z2⟩,hw,hs⟩:=ko hc;have hr:=Yx (t:=sN n p o d f xs) hu hd;have ft:-3000000000<=sN n p o d f xs/\sN n p o d f xs<=3000000000:=ft;have ht2:-3000000000<=f/\f<=3000000000:=ht;have eK:n.2.2.2.2.2.getD k.toNat (⟨#[]⟩,0,0)=bz n k:=rfl;have eL:OO (ag n d) (bz n k).2.2 (oD n d (sN n p o d f xs))=Ha n p k o d f xs:=rfl;have eB:bg (ag n d).1 f=Pg n d f:=rfl;have eN:fy (ag n d).2.1 (ag n d).2.2 (Pg n d f+1) (Ha n p k o d f xs)=RD n p k o d f xs:=rfl;have eY:((p.2.2.2.getD k.toNat []).getD o.toNat []).getD d.toNat 0=jy p k o d:=rfl;have eP:tf n p k o d f xs=(yu n p o d f xs&&(nI (ag n d) (bz n k).2.2 (oD n d (sN n p o d f xs))&&(decide (Ha n p k o d f xs-Pg n d f<=2000)&&decide (((RD n p k o d f xs).length:Int)<=jy p k o d)))):=rfl;simp only[eK,eL,eB,eN,eY];have hrp:aBh n d (sN n p o d f xs):=⟨hu,hd,ft⟩;have hdp:XD (ag n d) (oD n d (sN n p o d f xs)):=⟨hc,⟨Z,Z⟩⟩;have hB:-10000000<=Pg n d f/\Pg n d f<=10000000:=by unfold Pg bg;omega
 refine⟨⟨hf,λh=>by rw[eP,h];rfl⟩,λh1=>⟨⟨hf,h1⟩,⟨hu,hd⟩,X.1,X.2,hrp,hdp,λh2=>⟨X.1,X.2,hrp,⟨hdp,h2⟩,⟨⟨Z,Z⟩,⟨Z,Z⟩⟩,?_⟩,λh=>by rw[eP,h1,h];rfl⟩⟩;have hD:=aAD h2;rw[eL]at hD;have hbg:bg (ag n d).1 (oD n d (sN n p o d f xs))<=Pe (ag n d) (bz n k).2.2 (oD n d (sN n p o d f xs))/\Pe (ag n d) (bz n k).2.2 (oD n d (sN n p o d f xs))<=bg (ag n d).1 (oD n d (sN n p o d f xs))+1:=by unfold Pe;split<;>omega
 have hbd:-10000000<=bg (ag n d).1 (oD n d (sN n p o d f xs))/\bg (ag n d).1 (oD n d (sN n p o d f xs))<=10000000:=by unfold bg;omega
 refine⟨az Z,λh=>by rw[eP,h1,h2,qY h];rfl,λh3=>⟨h3,az Z,⟨hw,hs,⟨Z,Z⟩,⟨Z,Z⟩⟩,⟨0,wK _,rfl,rfl⟩,λx y hx hy=>?_,λx hx hlen=>?_⟩⟩;have hlt:x<(RD n p k o d f xs).length:=(qC.1 hy).1;have:=aBu (ag n d).2.1 (ag n d).2.2 (Pg n d f+1) (Ha n p k o d f xs);rw[eN]at this;exact⟨az Z,x+1,by show x+1<=4000000000000;omega,rfl,Z⟩;have hk':=X.1;have hk2:=X.2;have ho1:=ho.1;have ho2:=ho.2;have hd1:=hd.1;have hd2:=hd.2;obtain⟨w1,w2⟩:=q5 _ (aO (l:=p.2.2.2) (i:=k.toNat) (d:=[]) Z);have w3:=w2 _ (aO (l:=p.2.2.2.getD k.toNat []) (i:=o.toNat) (d:=[]) Z);refine⟨hk',Z,ho1,Z,hd1,Z,λh=>⟨hk',Z,ho1,Z,hd1,Z,h,?_⟩,λh=>?_⟩;rw[eP,h1,h2,qR h3,qR Z];rfl;rw[eP,h1,h2,qR h3,qY Z];rfl
def pK(c:Li×Int):Plan:=if fL c then ah c.1 else(0,0,[],[])
def Gx(c:Li×Int):Int:=if fL c then 0 else ti c
def cellsD(p:Plan)(k o:Int):Li:=(p.2.2.2.getD k.toNat []).getD o.toNat []
def dK(p:Plan)(k:Int):Lj:=p.2.2.2.getD k.toNat []
def runN(f:Nat->Li->Option (Li)):Nat->Li->Option (Li)|0,x=>some x|m+1,x=>(runN f m x).bind (f m)
def uU(n:Net)(p:Plan)(k o d:Int)(j:Nat)(xs:Li):Option (Li):=if tf n p k o d ((jk n p k o).getD j 0) xs=true then some (Px n p o d ((jk n p k o).getD j 0) xs)else none
def xq(n:Net)(p:Plan)(k o d:Int)(xs:Li):Option (Li):=if jy p k o d=-1 then some xs else runN (uU n p k o d) (jk n p k o).length xs
def Ys(n:Net)(p:Plan)(k o:Int)(xs:Li):Option (Li):=runN (λd=>xq n p k o (d:Int)) (cellsD p k o).length xs
def aBH(n:Net)(p:Plan)(k:Int)(xs:Li):Option (Li):=runN (λo=>Ys n p k (o:Int)) (dK p k).length xs
def st1(n:Net)(p:Plan)(l:Li)(k:Int):Option (Li):=runN (λk=>aBH n p (k:Int)) k.toNat l
def st2(n:Net)(p:Plan)(l:Li)(k o:Int):Option (Li):=(st1 n p l k).bind (runN (λo=>Ys n p k (o:Int)) o.toNat)
def st3(n:Net)(p:Plan)(l:Li)(k o d:Int):Option (Li):=(st2 n p l k o).bind (runN (λd=>xq n p k o (d:Int)) d.toNat)
def st4(n:Net)(p:Plan)(l:Li)(k o d:Int)(j:Nat):Option (Li):=(st3 n p l k o d).bind (runN (uU n p k o d) j)
def ye(n:Net)(p:Plan)(l:Li):Option (Li):=st1 n p l p.2.2.2.length
def to1(n:Net)(p:Plan)(l:Li)(k:Int)(xs:Li):Prop:=(0<=k/\k<=p.2.2.2.length)/\st1 n p l k=some xs/\dF xs
def to2(n:Net)(p:Plan)(l:Li)(k o:Int)(xs:Li):Prop:=((0<=k/\k<p.2.2.2.length)/\0<=o/\o<=(dK p k).length)/\st2 n p l k o=some xs/\dF xs
def to3(n:Net)(p:Plan)(l:Li)(k o d:Int)(xs:Li):Prop:=((0<=k/\k<p.2.2.2.length)/\(0<=o/\o<(dK p k).length)/\0<=d/\d<=(cellsD p k o).length)/\st3 n p l k o d=some xs/\dF xs
def to4(n:Net)(p:Plan)(l:Li)(k o d j:Int)(xs:Li):Prop:=0<=j/\st4 n p l k o d j.toNat=some xs/\dF xs
def EV(l:Li):Bool:=decide (l.length<=40000)
def mG(n:Net)(l:Li):Bool:=JY n (ah l)&&EV l
def La(n:Net)(l:Li):Int:=if ye n (ah l) (bU l)=some []then 0 else 190
def iP(n:Net)(l:Li)(s:Int):Int:=if fL (l,s)=true then if usF n=true then if mG n l=true then La n l else 190 else 1 else ti (l,s)
def kI(args:List AV)(m:Mem):Option lI:=match args,m with|[.agg [.dat (.sl (.int .i64)) l,.dat (.int .i64) s]],[]=>some ⟨yk (l,s)/\fL (l,s)=true,.tup [.agg [.dat I (ah l).1,.dat I (ah l).2.1,.dat M (ah l).2.2.1,.dat (.sl M) (ah l).2.2.2],.ptr 1 1 0 0],[(1,.var [.dat R (bU l)])]⟩|_,_=>none
def Pq:Kt:=kOr 28 kI <|
 kOr 30 RZ <|
 kOr 31 MH <|
 kOr 33 (YF 1 R [.pv 1 N Pl,.val I,.val I,.val I,.val I] (λ((n,p),k,o,d,f,_) h=>YA n p k o d f h/\tf n p k o d f h=true) (λ_ _=>.tup []) λ((n,p),k,o,d,f,_) h=>Px n p o d f h) aA9
def aFO:KPt:=pOr 28 (Ir [.row Ce] λ(c,_)=>⟨yk c,fL c,dP 38 (ti c)⟩) <|
 pOr 33 (oX 1 R [.pv 1 N Pl,.val I,.val I,.val I,.val I] λ((n,p),k,o,d,f,_) h=>⟨YA n p k o d f h,tf n p k o d f h,dP 38 190⟩) KPr
def KI2:FuncId->List AV->Option iD:=λf h=>if f=85 then match ofK [.pvb N Pl,.ptr I,.ptr I] h with
 |some ((n,p),o,k,_)=>some ⟨aDT n p k o,I,jk n p k o⟩|none=>none
 else KI1 f h
def c14:Cfg:=Oe Pq (λ_=>false) aFO (λf=>f==29||f==28)
def c15:Cfg:=oT Pq KI2 aFO (λf=>f==29||f==28||f==33)
def keep(s:St)(x:Li):St:={gk s with mem:=vo (s.mem.filter λb=>b.1<=2) 1 (.var [.dat R x])}
def aGF(n:Net)(l:Li):Ann:=⟨λf s=>match f with
 |7=>some {α:=Int×Li,inv:=λx=>to1 n (ah l) (bU l) x.1 x.2,st:=λx=>oG (put (gk s) [(37,.dat I x.1)]) 1 (.var [.dat R x.2]),μ:=λx=>Dc (Dk (Di (ah l).2.2.2) x.1)}|10=>match s.sig.T 39 with
  |.dat (.int .i64) k=>some {α:=Int×Li,inv:=λx=>to2 n (ah l) (bU l) k x.1 x.2,st:=λx=>oG (put (gk s) [(44,.dat I x.1)]) 1 (.var [.dat R x.2]),μ:=λx=>Dc (Dk (Di (dK (ah l) k)) x.1)}|_=>none
 |13=>match s.sig.T 39,s.sig.T 46 with
  |.dat (.int .i64) k,.dat (.int .i64) o=>some {α:=Int×Li,inv:=λx=>to3 n (ah l) (bU l) k o x.1 x.2,st:=λx=>oG (put (gk s) [(51,.dat I x.1)]) 1 (.var [.dat R x.2]),μ:=λx=>Dc (Dk (Di (cellsD (ah l) k o)) x.1)}|_,_=>none
 |17=>match s.sig.T 39,s.sig.T 46,s.sig.T 53 with
  |.dat (.int .i64) k,.dat (.int .i64) o,.dat (.int .i64) d=>some {α:=Int×Li,inv:=λx=>to4 n (ah l) (bU l) k o d x.1 x.2,st:=λx=>oG (gk s) 1 (.var [.dat R x.2]),μ:=λx=>Dc x.1}|_,_,_=>none
 |_=>none,λf s=>match f with
 |3=>some (put {s with mem:=s.mem.filter λb=>b.1 != 2} [(5,.ip Pl (ah l))])
 |_=>none,λ_ _=>none⟩
theorem Wc:∀args m c,kI args m=some c->aj Tryz.prog fU 28 args m c:=by
 intro args m c h;unfold kI at h;split at h;cases h;exact(Ym _ _).1;cases h
theorem Bj:ay Tryz.prog fU Pq:=ai Wc<|ai aGn<|ai aEI<|ai (rm λ((n,p),k,o,d,f,_) h=>(Qf n p k o d f h).1) Zb
theorem Ut:bG Tryz.prog fU aFO:=mg (nA λ(c,_)=>(Ym c.2 c.1).2)<|mg (vq λ((n,p),k,o,d,f,_) h=>(Qf n p k o d f h).2) NB
theorem aGL:aR Tryz.prog fU KI2:=by
 intro f j u h;unfold KI2 at h;split at h;rename_i e;subst e;split at h;rename_i n p o k _ y;cases h;exact lS.args (aBV n p k o) λC A z=>iW y z;cases h;exact aD5 f j u h
theorem aBY(s:Int)(l:Li):aj Tryz.prog fU 11 [.agg [.dat R l,.dat I s]] [] ⟨Ar l,.tup [.agg [.dat I (pK (l,s)).1,.dat I (pK (l,s)).2.1,.dat M (pK (l,s)).2.2.1,.dat (.sl M) (pK (l,s)).2.2.2],.dat I (Gx (l,s))],[]⟩:=by
 refine zR (c:={c14 with rng:=true}) (Kz:=Pq) (A0:=aG) (A:=aG) (Ac:=aG) Bj Bj tC hm Ut (p:=let j:=(l,s);let G:=fL j;let c3:=pK j;let z:=c3.1;let X:=c3.2;let h:=X.1;let L:=X.2;let y:=L.1;let A:=L.2;let f:=Gx j;let u:=(ah l).2;let c12:=u.2;(true/\true)/\(Ar l->true/\(true->yk j/\(G=false->true/\true/\(Dj false->True/\z8 1 0 1 0 1 0 1 0 (0=z/\0=h/\y=Du (Li)/\A=Du (List (List Int))/\ti j=f/\True))/\(Dj false=false->T4 1 0 1 0 (0=z/\0=h/\y=Du (Li)/\A=Du (Lj)/\0=f/\True))))/\((true->G)->(yk j/\G)/\z8 1 0 1 0 1 0 1 0 (true/\true/\(Dj true->False)/\(Dj true=false->T4 1 0 1 0 ((ah l).1=z/\u.1=h/\c12.1=y/\c12.2=A/\0=f/\True)))))) ⟨⟨rfl,rfl⟩,λL=>?_⟩;refine Z9 ?_;refine⟨⟨L,λh=>?_⟩,λh=>⟨⟨L,h⟩,?_⟩⟩;unfold pK Gx;rw[h];exact⟨⟨rfl,rfl,rfl,rfl,rfl⟩,λh=>by cases h⟩;unfold pK Gx;rw[h];exact⟨λh=>(by cases h),⟨rfl,rfl,rfl,rfl,rfl⟩⟩
end Go.Eng.In
set_option maxHeartbeats 4000000
namespace Go.Eng.In
open Go.Proofs
theorem na{l:Li}(j:dF l)(h:nF l=true):(0<=l.getD 2 0/\l.getD 2 0<=12)/\(0<=l.getD 3 0/\l.getD 3 0<=4)/\0<=l.getD 0 0/\l.getD 0 0<l.getD 1 0/\l.getD 1 0<=600:=by
 have f:∀k:Nat,0<=l.getD k 0:=λk=>by
  by_cases u:k<l.length;exact(dJ.1 j.1 _ (aO u)).1;rw[qA,wZ Z];exact qN _
 unfold nF uR at h;simp only[qE,qF]at h;exact⟨⟨f 2,h.1.2.1⟩,⟨f 3,h.1.2.2.1⟩,f 0,h.1.2.2.2.1,h.1.2.2.2.2.2⟩
theorem qt(g:Int->Int->Int)(n:Int):(jf g n).length=n.toNat:=by unfold jf;simp
theorem mP{g:Int->Int->Int}{n:Int}{r:Li}(h:r∈jf g n):r.length=n.toNat/\∀x∈r,∃i j,x=g i j:=by
 unfold jf at h;obtain⟨i,_,rfl⟩:=vW.1 h;refine⟨by simp,λx f=>?_⟩;obtain⟨j,_,rfl⟩:=vW.1 f;exact⟨_,_,rfl⟩
theorem XX{g:Int->Int->Int}{n i j:Int}(h:0<=i/\i<n)(f:0<=j/\j<n):((jf g n).getD i.toNat []).getD j.toNat 0=g i j:=by
 unfold jf;have y:i.toNat<n.toNat:=Z;have u:j.toNat<n.toNat:=Z;have e:((List.range n.toNat).map λi:Nat=>(List.range n.toNat).map λj:Nat=>g i j).getD i.toNat []=(List.range n.toNat).map λj:Nat=>g (i.toNat:Nat) j:=by
  rw[qA,qQ,zH y];rfl
 rw[e,qA,qQ,zH u,wC h.1];show g i (j.toNat:Nat)=_;rw[wC f.1]
theorem aBD{l:Li}(f:dF l)(m i j:Int): -1<=tg l m i j:=by
 unfold tg;have:0<=l.getD (i*m+j).toNat 0:=by
  by_cases h:(i*m+j).toNat<l.length;exact(dJ.1 f.1 _ (aO h)).1;rw[qA,wZ Z];exact qN _
 omega
theorem KJ{q m:Int}{l:Li}{t:Lj}(h:t∈uj q m l):∃k,t=nO m (bN l k):=by
 unfold uj at h;obtain⟨i,_,rfl⟩:=vW.1 h;exact⟨_,rfl⟩
theorem KL(q m:Int)(l:Li):(uj q m l).length=q.toNat:=by unfold uj;simp
theorem gT{l:Li}(f:dF l)(h:nF l=true):Wp (ah l):=by
 obtain⟨⟨G,A⟩,_⟩:=na f h;refine⟨?_,λr y=>?_⟩;show(jf _ _).length<=_;rw[qt];omega;obtain⟨L,z⟩:=mP y;refine⟨Z,λx u=>?_⟩;obtain⟨i,j,rfl⟩:=z x u;exact aBD (fG f 4) _ _ _
theorem BO{n:Net}{l:Li}(G:dF l)(h:nF l=true)(z:JY n (ah l)=true):plP n (ah l):=by
 obtain⟨⟨m0,m1⟩,⟨q0,q1⟩,a0,a1,a2⟩:=na G h;unfold JY at z;simp only[qE,qF,qW,wJ]at z;obtain⟨⟨f1,f2⟩,f3⟩:=z;have e1:(ah l).2.2.1.length=(l.getD 2 0).toNat:=qt _ _;have e2:(ah l).2.2.2.length=(l.getD 3 0).toNat:=KL _ _ _;refine⟨⟨a0,by show l.getD 0 0<=l.getD 1 0;omega,a2⟩,⟨f1,λr f=>?_⟩,λi j hi hj=>?_,f2,λt X=>?_⟩;have h1:=(mP f).1;omega;obtain⟨A,i1⟩:=hi;obtain⟨L,j1⟩:=hj;have y:i<l.getD 2 0:=Z;have u:j<l.getD 2 0:=Z;have ec:cellAt (ah l) i j=tg (bN l 4) (l.getD 2 0) i j:=XX ⟨A,y⟩ ⟨L,u⟩;have:=f3 i.toNat Z;unfold oC at this;rw[qW,wC A]at this;have f:=(mP (g:=tg (bN l 4) (l.getD 2 0)) (n:=l.getD 2 0) (r:=(ah l).2.2.1.getD i.toNat []) (aO (by omega:i.toNat<(ah l).2.2.1.length))).1;refine⟨this _ (aO Z),?_⟩;rw[ec];exact aBD (fG G 4) _ _ _;obtain⟨k,rfl⟩:=KJ X;have e:(nO (l.getD 2 0) (bN (bN l (4+l.getD 2 0*l.getD 2 0)) k)).length=(l.getD 2 0).toNat:=qt _ _;refine⟨Z,λr f=>?_⟩;have:=(mP f).1;omega
theorem pz{f:Nat->Li->Option (Li)}{m:Nat}{x:Li}(h:runN f m x=none):∀{k:Nat},m<=k->runN f k x=none:=by
 intro k u;induction u with
 |refl=>exact h|step _ j=>rw[runN,j];rfl
theorem nD{α:Type}(x:Option α):(x.bind λy=>some y)=x:=by cases x<;>rfl
theorem bind_none{α:Type}{x:Option α}{f g:α->Option α}(h:x.bind f=none)(j:∀y,f y=none->g y=none):x.bind g=none:=by
 cases x with
 |none=>rfl|some y=>exact j y h
section
variable {n:Net}{p:Plan}{l:Li}{k o d:Int}
theorem Vo:st2 n p l k 0=st1 n p l k:=nD _
theorem Vl:st3 n p l k o 0=st2 n p l k o:=nD _
theorem Vi:st4 n p l k o d 0=st3 n p l k o d:=nD _
theorem KV(f:0<=k):st1 n p l (k+1)=st2 n p l k (dK p k).length:=by
 unfold st2;rw[zQ];show runN _ (k+1).toNat l=_;rw[show(k+1).toNat=k.toNat+1 by omega,runN,wC f];rfl
theorem KU(f:0<=o):st2 n p l k (o+1)=st3 n p l k o (cellsD p k o).length:=by
 unfold st3 st2;rw[zQ,show(o+1).toNat=o.toNat+1 by omega,qCn];congr 1;funext x;rw[runN,wC f];rfl
theorem Vm(j:0<=d)(h:jy p k o d=-1):st3 n p l k o (d+1)=st3 n p l k o d:=by
 unfold st3;rw[show(d+1).toNat=d.toNat+1 by omega];congr 1;funext x;rw[runN,wC j,show xq n p k o d=λf=>some f from funext λf=>if_pos h];exact nD _
theorem KT(j:0<=d)(h:jy p k o d≠-1):st3 n p l k o (d+1)=st4 n p l k o d (jk n p k o).length:=by
 unfold st4 st3;rw[show(d+1).toNat=d.toNat+1 by omega,qCn];congr 1;funext x;rw[runN,wC j,show xq n p k o d=λf=>runN (uU n p k o d) (jk n p k o).length f from funext λf=>if_neg h]
theorem Vj(j:Nat):st4 n p l k o d (j+1)=(st4 n p l k o d j).bind (uU n p k o d j):=by
 unfold st4;rw[qCn];rfl
theorem Vq{f:Int}(h:st1 n p l k=none)(j:k<=f):st1 n p l f=none:=pz h Z
theorem Vp{o':Int}(h:st2 n p l k o=none)(j:o<=o'):st2 n p l k o'=none:=bind_none h λy f=>pz f Z
theorem Vn{d':Int}(h:st3 n p l k o d=none)(j:d<=d'):st3 n p l k o d'=none:=bind_none h λy f=>pz f Z
theorem Vk{j f:Nat}(h:st4 n p l k o d j=none)(z:j<=f):st4 n p l k o d f=none:=bind_none h λy u=>pz u z
theorem ZQ{j:Nat}(h:st4 n p l k o d j=none)(G:j<=(jk n p k o).length)(hd:jy p k o d≠-1)(L:0<=d)(d1:d<(cellsD p k o).length)(z:0<=o)(X:o<(dK p k).length)(A:0<=k)(k1:k<p.2.2.2.length):ye n p l=none:=by
 have y:=Vk h G;rw[<- KT L hd]at y;have u:=Vn y (d':=(cellsD p k o).length) Z;rw[<- KU z]at u;have f:=Vp u (o':=(dK p k).length) Z;rw[<- KV A]at f;exact Vq f Z
end
theorem ZP(s:Int)(l:Li)(cs:List Cal)(ns ps:List ByteArray)(os:List Off)(ls:List Line)(ks:List Cla):aj Tryz.prog fU 10 [.agg [.dat (.sl C) cs,.dat (.sl S) ns,.dat (.sl S) ps,.dat (.sl Of) os,.dat (.sl Ln) ls,.dat (.sl Kl) ks],.agg [.dat R l,.dat I s]] [] ⟨Ar l/\Ak (cs,ns,ps,os,ls,ks),.dat I (iP (cs,ns,ps,os,ls,ks) l s),[]⟩:=by
 refine zR (c:=c15) (Kz:=Pq) (A0:=aG) (A:=(aGF (cs,ns,ps,os,ls,ks) l)) (Ac:=aG) Bj Bj aGL hm Ut (p:=let L:=(cs,ns,ps,os,ls,ks);let c2:=(l,s);let c3:=fL c2;let c4:=iP L l s;let c5:=(ah l).1;let c6:=(ah l).2;let h:=c6.1;let c8:=c6.2;let j:=c8.1;let f:=c8.2;let c11:=usF L;let A:=JY L (ah l);let c13:=Dy A (Ef (Di l) 40000) false;let c14:=Di f;(true/\true)/\(Ar l/\Ak L->true/\(true->yk c2/\(c3=false->true/\true/\(Dj false->True/\T4 1 0 1 0 (ti c2=c4/\True))/\(Dj false=false->L7 1 0 (0=c4/\True))))/\((true->c3)->(yk c2/\c3)/\L4 1 0 cs ns ps os ls ks l (z8 s L c2 1 0 0 1 0 ((c5,h,j,f)=ah l/\L4 1 0 0 undef undef undef undef undef undef (L4 undef undef 1 0 0 c5 h j f (L4 1 0 0 l s c5 h j f (L4 1 0 0 c5 h j f 1 0 (L4 0 undef undef undef undef undef undef undef undef (L4 undef undef undef undef undef undef undef undef undef (L4 undef undef undef undef undef undef undef undef undef (L4 undef undef undef undef undef undef undef undef undef (L4 undef undef undef undef undef undef undef undef undef (L4 undef undef undef undef undef undef undef undef undef (L4 undef undef undef undef undef V6 (bU l) 1 0 (0=0/\Ak L/\(true->True/\(c11=false->true/\true/\(Dj false->True/\T4 1 0 1 0 (1=c4/\True))/\(Dj false=false->L7 1 0 (0=c4/\True))))/\((true->c11)->(True/\c11)/\(Ak L/\Wp (ah l))/\(A->A->A)/\(A->A->A)/\(A->A->A)/\(Dh true A->A)/\(true->True/\(c13=false->true/\true/\(Dj false->True/\T4 1 0 1 0 (190=c4/\True))/\(Dj false=false->L7 1 0 (0=c4/\True))))/\((true->c13)->(True/\c13)/\T4 1 1 1 0 ((∃(x:Int×Li),let c15:=x.1;let c16:=x.2;
  to1 L (ah l) (bU l) c15 c16/\L4 cs ns ps os ls ks l s L (L4 c2 1 0 0 (ah l) 1 0 0 1 (L4 0 0 1 0 0 c5 h j f (L4 1 0 0 l s c5 h j f (L4 1 0 0 c5 h j f 1 0 (L4 0 c11 A A c13 1 0 0 L (L4 (ah l) 1 0 0 L (ah l) 1 0 0 (Q4 f f c14 (0=c15/\(0:Int)=(0:Int)/\bU l=c16/\f8q L (ah l) 1 0 0 1 0 0)))))))))/\∀(x:Int×Li),let u:=x.1;let c18:=x.2;let c19:=Dn u c14;let X:=Dw f (Dc u) (Du (Li));let c21:=Di X;let c22:=Di (dK (ah l) u);let c23:=u+1;let c24:=Ed (Di c18) 0;to1 L (ah l) (bU l) u c18->(c19->0<=u/\u<c14/\L7 1 0 ((∃(xa:Int×Li),let c25:=xa.1;let c26:=xa.2;to2 L (ah l) (bU l) u c25 c26/\L4 cs ns ps os ls ks l s L (L4 c2 1 0 0 (ah l) 1 0 0 1 (L4 0 0 1 0 0 X 1 0 0 (L4 c5 h j f 1 0 0 l s (L4 c5 h j f 1 0 0 c5 h (L4 j f 1 0 0 c11 A A c13 (L4 1 0 0 L (ah l) 1 0 0 L (L4 (ah l) 1 0 0 f f c14 u c19 (T6 u X X X c21 (0=c25/\(0:Int)=(0:Int)/\c18=c26/\f9q L (ah l) 1 0 0 u 1 0 0))))))))))/\∀(xb:Int×Li),let G:=xb.1;let c28:=xb.2;let c29:=Dn G c21;let c30:=Dw X (Dc G) [];let c31:=Di c30;let c32:=Di (cellsD (ah l) u G);let c33:=jk L (ah l) u G;let c34:=G+1;to2 L (ah l) (bU l) u G c28->(c29->0<=G/\G<c21/\L7 1 0 ((∃(xba:Int×List Int),let c35:=xba.1;let c36:=xba.2;
  to3 L (ah l) (bU l) u G c35 c36/\L4 cs ns ps os ls ks l s L (L4 c2 1 0 0 (ah l) 1 0 0 1 (L4 0 0 1 0 0 X 1 0 0 (L4 c30 1 0 0 c5 h j f 1 (L4 0 0 l s c5 h j f 1 (L4 0 0 c5 h j f 1 0 0 (L4 c11 A A c13 1 0 0 L (ah l) (L4 1 0 0 L (ah l) 1 0 0 f (L4 f c14 u c19 u X X X c21 (T7 G c29 G c30 c30 c30 c31 (0=c35/\(0:Int)=(0:Int)/\c28=c36/\L4 L (ah l) 1 0 0 u G 1 0 (T5 0))))))))))))/\∀(xbb:Int×Li),let c37:=xbb.1;let c38:=xbb.2;let c39:=Dn c37 c31;let c40:=Dw c30 (Dc c37) 0;let c41:=Ed c40 (-1);let c42:=c37+1;to3 L (ah l) (bU l) u G c37 c38->(c39->0<=c37/\c37<c31/\L7 1 0 ((c41->inR .i64 c42/\∃(y:Int×Li),let c43:=y.1;let c44:=y.2;to3 L (ah l) (bU l) u G c43 c44/\(L4 cs ns ps os ls ks l s L (L4 c2 1 0 0 (ah l) 1 0 0 1 (L4 0 0 1 0 0 X 1 0 0 (L4 c30 1 0 0 c5 h j f 1 (L4 0 0 l s c5 h j f 1 (L4 0 0 c5 h j f 1 0 0 (L4 c11 A A c13 1 0 0 L (ah l) (L4 1 0 0 L (ah l) 1 0 0 f (L4 f c14 u c19 u X X X c21 (T7 G c29 G c30 c30 c30 c31 (c42=c43/\(0:Int)=(0:Int)/\c38=c44/\L4 L (ah l) 1 0 0 u G 1 0 (T5 0))))))))))))/\Dc (c32-c43)<Dc (c32-c37))/\(c41=false->w6 1 0 1 0 1 0 (True/\aDT L (ah l) u G/\(∃(xbba:Int×Li),let c45:=xbba.1;let c46:=xbba.2;
  to4 L (ah l) (bU l) u G c37 c45 c46/\Dc c45=0/\L4 cs ns ps os ls ks l s L (L4 c2 1 0 0 (ah l) 1 0 0 1 (L4 0 0 1 0 0 X 1 0 0 (L4 c30 1 0 0 c40 1 0 0 c5 (L4 h j f 1 0 0 l s c5 (L4 h j f 1 0 0 c5 h j (L4 f 1 0 0 c11 A A c13 1 (L4 0 0 L (ah l) 1 0 0 L (ah l) (L4 1 0 0 f f c14 u c19 u (L4 X X X c21 G c29 G c30 c30 (L4 c30 c31 c37 c39 c37 c40 c40 c40 c41 (L4 L (ah l) 1 0 0 u G L (ah l) (Q4 G u V6 (c38=c46/\L4 L (ah l) 1 0 0 u G c37 1 (k7 0 0)))))))))))))))/\(∀(xbbb:Int×Li),let c47:=xbbb.1;let c48:=xbbb.2;let c49:=Dc c47;∀(y:Int),let c50:=tf L (ah l) u G c37 y c48;to4 L (ah l) (bU l) u G c37 c47 c48->oL c33 c49 y->z8 1 0 1 0 1 0 1 0 ((true->YA L (ah l) u G c37 y c48/\(c50=false->true/\true/\(Dj false->True/\T4 1 0 1 0 (190=c4/\True))/\(Dj false=false->L7 1 0 (0=c4/\True))))/\((true->c50)->(YA L (ah l) u G c37 y c48/\c50)/\1=1/\∃(z:Int×Li),let c51:=z.1;let c52:=z.2;
  to4 L (ah l) (bU l) u G c37 c51 c52/\Dc c51=c49+1/\L4 cs ns ps os ls ks l s L (L4 c2 1 0 0 (ah l) 1 0 0 1 (L4 0 0 1 0 0 X 1 0 0 (L4 c30 1 0 0 c40 1 0 0 c5 (L4 h j f 1 0 0 l s c5 (L4 h j f 1 0 0 c5 h j (L4 f 1 0 0 c11 A A c13 1 (L4 0 0 L (ah l) 1 0 0 L (ah l) (L4 1 0 0 f f c14 u c19 u (L4 X X X c21 G c29 G c30 c30 (L4 c30 c31 c37 c39 c37 c40 c40 c40 c41 (L4 L (ah l) 1 0 0 u G L (ah l) (Q4 G u V6 (Px L (ah l) G c37 y c48=c52/\L4 L (ah l) 1 0 0 u G c37 1 (k7 0 0)))))))))))))))))/\∀(xbbc:Int×List Int),let c53:=xbbc.1;let c54:=xbbc.2;to4 L (ah l) (bU l) u G c37 c53 c54->Dc c53=Dl c33->inR .i64 c42/\∃(y:Int×Li),let c55:=y.1;let c56:=y.2;to3 L (ah l) (bU l) u G c55 c56/\(L4 cs ns ps os ls ks l s L (L4 c2 1 0 0 (ah l) 1 0 0 1 (L4 0 0 1 0 0 X 1 0 0 (L4 c30 1 0 0 c5 h j f 1 (L4 0 0 l s c5 h j f 1 (L4 0 0 c5 h j f 1 0 0 (L4 c11 A A c13 1 0 0 L (ah l) (L4 1 0 0 L (ah l) 1 0 0 f (L4 f c14 u c19 u X X X c21 (T7 G c29 G c30 c30 c30 c31 (c42=c55/\(0:Int)=(0:Int)/\c54=c56/\L4 L (ah l) 1 0 0 u G 1 0 (T5 0))))))))))))/\Dc (c32-c55)<Dc (c32-c37)))))/\(c39=false->inR .i64 c34/\∃(y:Int×Li),let c57:=y.1;let c58:=y.2;
  to2 L (ah l) (bU l) u c57 c58/\(L4 cs ns ps os ls ks l s L (L4 c2 1 0 0 (ah l) 1 0 0 1 (L4 0 0 1 0 0 X 1 0 0 (L4 c5 h j f 1 0 0 l s (L4 c5 h j f 1 0 0 c5 h (L4 j f 1 0 0 c11 A A c13 (L4 1 0 0 L (ah l) 1 0 0 L (L4 (ah l) 1 0 0 f f c14 u c19 (T6 u X X X c21 (c34=c57/\(0:Int)=(0:Int)/\c38=c58/\f9q L (ah l) 1 0 0 u 1 0 0))))))))))/\Dc (c22-c57)<Dc (c22-G))))/\(c29=false->inR .i64 c23/\∃(y:Int×Li),let c59:=y.1;let c60:=y.2;to1 L (ah l) (bU l) c59 c60/\(L4 cs ns ps os ls ks l s L (L4 c2 1 0 0 (ah l) 1 0 0 1 (L4 0 0 1 0 0 c5 h j f (L4 1 0 0 l s c5 h j f (L4 1 0 0 c5 h j f 1 0 (L4 0 c11 A A c13 1 0 0 L (L4 (ah l) 1 0 0 L (ah l) 1 0 0 (Q4 f f c14 (c23=c59/\(0:Int)=(0:Int)/\c28=c60/\f8q L (ah l) 1 0 0 1 0 0)))))))))/\Dc (c14-c59)<Dc (c14-u))))/\(c19=false->T4 1 1 1 0 ((true->True/\(c24=false->true/\true/\(Dj false->True/\T4 1 0 1 0 (190=c4/\True))/\(Dj false=false->L7 1 0 (0=c4/\True))))/\((true->c24)->(True/\c24)/\L7 1 0 (true/\true/\(Dj true->False)/\(Dj true=false->L7 1 0 (0=c4/\True))))))))))))))))))))))))) ⟨⟨rfl,rfl⟩,λhp=>?_⟩
 refine Z9 ?_;obtain⟨hl,hn⟩:=hp;generalize (cs,ns,ps,os,ls,ks)=n at hn ⊢;have two:∀{p q:Prop},p->(p/\(false=true->q)):=λh=>⟨h,λh=>by cases h⟩;have eF:iP n l s=if fL (l,s)=true then if usF n=true then if mG n l=true then La n l else 190 else 1 else ti (l,s):=rfl;refine⟨⟨hl,λh=>two (by rw[eF,if_neg (by rw[h];exact Bool.noConfusion)])⟩,λh1=>⟨⟨hl,h1⟩,hn,λh=>two (by rw[eF,if_pos h1,if_neg (by rw[h];exact Bool.noConfusion)]),λh2=>?_⟩⟩;have hs:du l s=true/\nF l=true:=by
  unfold fL at h1;rwa [qE]at h1
 have hnum:dF l:=⟨by have:=hs.1;unfold du at this;rw[qE]at this;exact this.1,hl⟩;have hnx:=gT hnum hs.2;refine⟨h2,⟨hn,hnx⟩,λh=>two ?_,λh3=>⟨h3,?_⟩⟩;have:mG n l=false:=by
  unfold mG EV;cases e:JY n (ah l)with
  |false=>rfl|true=>rw[qY (by have:=h e;omega)];rfl
 rw[eF,if_pos h1,if_pos h2,if_neg (by rw[this];exact Bool.noConfusion)];have hfa:mG n l=true:=by
  unfold mG EV;rw[h3.1,qR (by have:=h3.2;omega)];rfl
 have hpl:=BO hnum hs.2 h3.1;have eC:iP n l s=if ye n (ah l) (bU l)=some []then 0 else 190:=by rw[eF,if_pos h1,if_pos h2,if_pos hfa];rfl
 have hrest:dF (bU l):=fG hnum _;obtain⟨p,ep⟩:∃p,p=ah l:=⟨_,rfl⟩;obtain⟨r,er⟩:∃r,r=bU l:=⟨_,rfl⟩;rw[<- ep]at hpl;rw[<- er]at hrest;rw[eC];rw[<- ep,<- er];clear eC eF hnx hfa h3 hs h1;obtain⟨⟨p0,p1,p2⟩,⟨q1,q2⟩,q3,q4,q5⟩:=id hpl;have eRow:∀k:Int,p.2.2.2.getD k.toNat []=dK p k:=λ_=>rfl;have eCel:∀k o:Int,(dK p k).getD o.toNat []=cellsD p k o:=λ_ _=>rfl;have eDay:∀k o d:Int,(cellsD p k o).getD d.toNat 0=jy p k o d:=λ_ _ _=>rfl;simp only[eRow,eCel,eDay];have hu:usP n:=⟨h2,hn⟩;have hno:n.2.2.2.1.length<=2000000000000000:=hn.1.1.2;have hnk:n.2.2.2.2.2.length<=2000000000000000:=hn.2;refine⟨⟨(0,r),⟨⟨qN _,qU _⟩,rfl,hrest⟩,rfl,rfl⟩,λ⟨k,xs⟩ ⟨⟨k0,k1⟩,kx,kn⟩=>⟨λhk=>?_,λhk=>?_⟩⟩;have hk:k<p.2.2.2.length:=hk;have hrw:(dK p k).length=n.2.2.2.1.length/\∀r∈dK p k,r.length=n.2.2.2.1.length:=q5 _ (aO Z);refine⟨k0,hk,⟨(0,xs),⟨⟨⟨k0,hk⟩,qN _,qU _⟩,by rw[Vo];exact kx,kn⟩,rfl,rfl⟩,λ⟨o,ys⟩ ⟨⟨_,o0,o1⟩,ox,on⟩=>⟨λho=>?_,λho=>?_⟩⟩;have ho:o<(dK p k).length:=ho;have hcl:(cellsD p k o).length=n.2.2.2.1.length:=hrw.2 _ (aO Z);refine⟨o0,ho,⟨(0,ys),⟨⟨⟨k0,hk⟩,⟨o0,ho⟩,qN _,qU _⟩,by rw[Vl];exact ox,on⟩,rfl,rfl⟩,λ⟨d,zs⟩ ⟨⟨_,_,d0,d1⟩,dx,dn⟩=>⟨λhd=>?_,λhd=>?_⟩⟩;have hd:d<(cellsD p k o).length:=hd;have d0:0<=d:=d0;have offO:iu n o:=⟨o0,by show o<_;omega⟩;have offD:iu n d:=⟨d0,Z⟩;have cla:OY n k:=⟨k0,by show k<_;omega⟩
 refine⟨d0,hd,λhm1=>⟨az Z,⟨(d+1,zs),⟨⟨⟨k0,hk⟩,⟨o0,ho⟩,by show 0<=d+1;omega,by show d+1<=_;omega⟩,by rw[Vm d0 hm1];exact dx,dn⟩,⟨rfl,rfl⟩,by show(_-(d+1)).toNat<_;omega⟩⟩,λhm1=>⟨⟨⟨hu,hpl⟩,offO,cla⟩,⟨(0,zs),⟨qN _,by show st4 n p r k o d 0=_;rw[Vi];exact dx,dn⟩,rfl,rfl⟩,λ⟨j,us⟩ y ⟨j0,jx,jn⟩ hy=>?_,λ⟨j,us⟩ ⟨j0,jx,jn⟩ hj=>?_⟩⟩;have hy:(jk n p k o)[j.toNat]?=some y:=hy;obtain⟨jl,_⟩:=qC.1 hy;have hyd:(jk n p k o).getD j.toNat 0=y:=by rw[qA,hy];rfl
 have hin:tA p y=true:=by
  have:=qZ hy;unfold jk at this;exact(yY.1 this).2
 have hin2:1440*p.1<=y/\y<1440*p.2.1:=by
  unfold tA at hin;rwa [qE,qF,qF]at hin
 have hf:MZ n p o d y us:=⟨⟨⟨hu,hpl⟩,offO,offD⟩,⟨Z,Z⟩,jn⟩;have jx:st4 n p r k o d j.toNat=some us:=jx;have ju:st4 n p r k o d (j.toNat+1)=if tf n p k o d y us=true then some (Px n p o d y us)else none:=by
  rw[Vj,jx];show uU n p k o d j.toNat us=_;unfold uU;rw[hyd]
 refine⟨⟨⟨hf,cla⟩,λhno=>two ?_⟩,λhok=>⟨⟨⟨hf,cla⟩,hok⟩,⟨(j+1,Px n p o d y us),⟨by show 0<=j+1;have:0<=j:=j0;omega,by rw[show((j+1,Px n p o d y us).1).toNat=j.toNat+1 by show(j+1).toNat=_;have:0<=j:=j0;omega,ju,if_pos hok],(JW 19 hf).2⟩,by show(j+1).toNat=_;have:0<=j:=j0;omega,rfl⟩⟩⟩;rw[if_neg (by rw[hno];exact Bool.noConfusion)]at ju;rw[ZQ ju Z hm1 d0 hd o0 ho k0 hk];exact(if_neg (λh=>by cases h)).symm;have hj:j.toNat=(jk n p k o).length:=hj;have jx:st4 n p r k o d j.toNat=some us:=jx;refine⟨az Z,⟨(d+1,us),⟨⟨⟨k0,hk⟩,⟨o0,ho⟩,by show 0<=d+1;omega,by show d+1<=_;omega⟩,by rw[KT d0 hm1,<- hj];exact jx,jn⟩,⟨rfl,rfl⟩,by show(_-(d+1)).toNat<_;omega⟩⟩;have d1:d<=(cellsD p k o).length:=d1;have hd:¬d<(cellsD p k o).length:=hd;have de:d=(cellsD p k o).length:=Z;have o0:0<=o:=o0;refine⟨az Z,⟨(o+1,zs),⟨⟨⟨k0,hk⟩,by show 0<=o+1;omega,by show o+1<=_;omega⟩,by rw[KU o0,<- de];exact dx,dn⟩,⟨rfl,rfl⟩,by show(_-(o+1)).toNat<_;omega⟩⟩;have o1:o<=(dK p k).length:=o1;have ho:¬o<(dK p k).length:=ho;have oe:o=(dK p k).length:=Z;have k0:0<=k:=k0;refine⟨az Z,⟨(k+1,ys),⟨⟨by show 0<=k+1;omega,by show k+1<=_;omega⟩,by rw[KV k0,<- oe];exact ox,on⟩,⟨rfl,rfl⟩,by show(_-(k+1)).toNat<_;omega⟩⟩;have k1:k<=p.2.2.2.length:=k1;have hk:¬k<p.2.2.2.length:=hk;have ke:k=p.2.2.2.length:=Z;have ka:ye n p r=some xs:=by unfold ye;rw[<- ke];exact kx
 rw[ka];have xl:∀xs:Li,(some xs=some [])↔xs.length=0:=λxs=>by
  rw[vT,List.length_eq_zero_iff]
 refine⟨λh=>two ?_,λh=>⟨h,(λh=>by cases h),?_⟩⟩;have h:(xs.length:Int)≠0:=h;rw[if_neg (by rw[xl];omega)];have h:(xs.length:Int)=0:=h;rw[if_pos (by rw[xl];omega)]
end Go.Eng.In
namespace Go.Eng.In
open Go.Proofs
def iM(n:Net):Bool:=decide (n.1.length<=10/\n.2.1.length<=10/\n.2.2.1.length<=10/\n.2.2.2.1.length<=16/\n.2.2.2.2.1.length<=50/\n.2.2.2.2.2.length<=8)
def iI(w:List Bool)(h:Li):Bool:=decide (w.length<=20)&&decide (h.length<=60)
def kr(h:List Cal)(f:List ByteArray):List ByteArray:=(List.range h.length).map λi=>f.getD i ⟨#[]⟩
def N9(f:List Off):List ByteArray:=f.map (·.1)
def Oo(f:List Line):List ByteArray:=f.map (·.1)
def OX(f:List Cla):List ByteArray:=f.map (·.1)
def Rz(l:List ByteArray)(i:Int):ByteArray:=l.getD i.toNat ⟨#[]⟩
def aB(n:Net)(k:Int):List ByteArray:=if k=1 then kr n.1 n.2.1 else if k=2 then n.2.2.1 else if k=3 then N9 n.2.2.2.1 else if k=4 then Oo n.2.2.2.2.1 else if k=5 then OX n.2.2.2.2.2 else[]
def jI(k n:Int):Prop:=0<=k/\k<=n
def aF(n:Net)(k i:Int):List ByteArray:=(aB n k).take i.toNat
def t8(f:List (Int×List Bool×Li))(k:Int):Prop:=0<=k/\k<=f.length/\(f.take k.toNat).all (λc=>iI c.2.1 c.2.2)=true
def tL(f:List Off)(k:Int):Prop:=0<=k/\k<=f.length/\(f.take k.toNat).all (λo=>decide (o.2.2.2.2.2.2.length<=30))=true
def gR(l:List ByteArray):Bool:=l.all λs=>decide (s.size<=40)
def qf(n:Net)(k:Int):Prop:=1<=k/\k<=6/\∀j:Int,1<=j->j<k->gR (aB n j)=true
def BX(l:List ByteArray)(i:Int):Prop:=0<=i/\i<=l.length/\gR (l.take i.toNat)=true
def nX(n:Net):Bool:=iM n&&(n.1.all λc=>iI c.2.1 c.2.2)&&(n.2.2.2.1.all λo=>decide (o.2.2.2.2.2.2.length<=30))&&gR (aB n 1)&&gR (aB n 2)&&gR (aB n 3)&&gR (aB n 4)&&gR (aB n 5)
def iq(a b:Lj):Bool:=a==b
def px(a b:Lj)(k:Int):Prop:=0<=k/\k<=a.length/\a.length=b.length/\a.length<=1000000/\a.take k.toNat=b.take k.toNat
def py(a b:Lj)(i k:Int):Prop:=0<=k/\k<=(a.getD i.toNat []).length/\(a.getD i.toNat []).length=(b.getD i.toNat []).length/\(a.getD i.toNat []).length<=1000000/\(a.getD i.toNat []).take k.toNat=(b.getD i.toNat []).take k.toNat
def An(a:Lj):Prop:=a.length<=1000000/\∀r∈a,r.length<=1000000
def BG(a b:List (Lj)):Bool:=a==b
def BE(a b:List (Lj))(k:Int):Prop:=0<=k/\k<=a.length/\a.length=b.length/\a.take k.toNat=b.take k.toNat
def WJ(a:List (Lj)):Prop:=a.length<=1000000/\∀t∈a,An t
def ZV(p q:Plan):Bool:=decide (p=q)
def aCA(p:Plan):Prop:=An p.2.2.1/\WJ p.2.2.2
def smF(n:Net)(nx:Lj):Bool:=(nX n&&decide ((n.2.2.2.1.length:Int)<=6))&&(decide ((nx.length:Int)<=10)&&nx.all λr=>decide ((r.length:Int)<=10))
def aDE(nx:Lj)(k:Int):Prop:=0<=k/\k<=nx.length/\nx.length<=10/\∀i:Nat,(i:Int)<k->(nx.getD i []).length<=10
def sO(n:Net)(l:Li):Bool:=smF n []&&decide ((l.length:Int)<=3000)
abbrev vL:=aA [.row C] (λ_=>True) λ((_,w,h),_)=>.dat .bool (iI w h)
def aDu:Kt:=kOr 149 vL Pq
def vf(n:Net)(k:Int)(f slot:Nat)(st:St)(xs:List ByteArray):Option Spec:=some {α:=Int,inv:=λi=>jI i (Di (aB n k)),st:=λi=>oG (put st [(slot,.dat I i),(5,.buf 100 (Dl (aF n k i)))]) 100 (.buf 9 S (aF n k i) []),μ:=λi=>Dc (Dk (Di (aB n k)) i)}
def WG(n:Net):Ann:=⟨λh f=>match h with
 |5=>vf n 1 5 6 f []|12=>vf n 2 12 7 f []|17=>vf n 3 17 8 f []|22=>vf n 4 22 9 f []|27=>vf n 5 27 10 f []|_=>none,λ_ _=>none,λ_ _=>none⟩
def Vs(a b:Lj):Ann:=⟨λf st=>match f with
 |4=>some {α:=Int,inv:=λk=>px a b k,st:=λk=>put st [(5,.dat I k)],μ:=λk=>Dc (Dk (Di a) k)}|9=>match st.sig.T 5 with
  |.dat (.int .i64) i=>some {α:=Int,inv:=λk=>py a b i k,st:=λk=>put st [(6,.dat I k)],μ:=λk=>Dc (Dk (Di (Dw a (Dc i) [])) k)}|_=>none
 |_=>none,λ_ _=>none,λ_ _=>none⟩
abbrev sD:=aA [.row N,.val I] (λ(n,_,_)=>iM n=true) λ(n,k,_)=>.dat (.sl S) (aB n k)
abbrev AA:=aA [.val M,.val M] (λ(a,_,_)=>An a) λ(a,b,_)=>.dat .bool (iq a b)
def aDt:Kt:=kOr 150 sD <|
 kOr 64 AA aDu
def aCR(n:Net):Ann:=⟨λf st=>match f with
 |4=>some {α:=Int,inv:=λk=>t8 n.1 k,st:=λk=>put st [(3,.dat I k)],μ:=λk=>Dc (Dk (Di n.1) k)}|9=>some {α:=Int,inv:=λk=>tL n.2.2.2.1 k,st:=λk=>put st [(4,.dat I k)],μ:=λk=>Dc (Dk (Di n.2.2.2.1) k)}|14=>some {α:=Int,inv:=λk=>qf n k,st:=λk=>put st [(5,.dat I k)],μ:=λk=>Dc (Dk 6 k)}|18=>match st.sig.T 5 with
  |.dat (.int .i64) k=>some {α:=Int,inv:=λi=>BX (aB n k) i,st:=λi=>put st [(7,.dat I i)],μ:=λi=>Dc (Dk (Di (aB n k)) i)}|_=>none
 |_=>none,λ_ _=>none,λ_ _=>none⟩
def aB2(a b:List (Lj)):Ann:=Z8 4 Int (BE a b) (λf k=>put f [(5,.dat I k)]) λk=>Dc (Dk (Di a) k)
abbrev AP:=aA [.row N] (λ_=>True) λ(n,_)=>.dat .bool (nX n)
abbrev Az:=aA [.val (.sl M),.val (.sl M)] (λ(a,_,_)=>WJ a) λ(a,b,_)=>.dat .bool (BG a b)
def K17:Kt:=kOr 76 AP <|
 kOr 65 Az aDt
def smA(nx:Lj):Ann:=Z8 4 Int (aDE nx) (λs k=>put s [(5,.dat I k)]) λk=>Dc (Dk (Di nx) k)
abbrev AB:=aA [.row Pl,.row Pl] (λ(p,_,_)=>aCA p) λ(p,q,_)=>.dat .bool (ZV p q)
def aFV:Kt:=kOr 19 AB <|
 kOr 24 (aA [.row N,.val M] (λ_=>True) λ(n,nx,_)=>.dat .bool (smF n nx)) K17
theorem mU{α:Type}{l:List α}{p:α->Bool}{d:α}{k:Nat}(h:(l.take k).all p=true)(j:k<l.length)(f:p (l.getD k d)=true):(l.take (k+1)).all p=true:=by
 rw[wY,qB j,gV,h];rw[qA,qB j]at f;simpa using f
theorem yc{α:Type}{l:List α}{p:α->Bool}{d:α}{k:Nat}(h:k<l.length)(f:p (l.getD k d)=false):l.all p=false:=by
 rw[qA,qB h]at f;rw[qBq];exact⟨l[k],wS h,by simpa using f⟩
theorem Ao{α β:Type}(f:α->β)(l:List α)(i:Nat)(d:α)(d':β)(h:i<l.length):(l.map f).getD i d'=f (l.getD i d):=by
 rw[qA,qQ,qB h,qA,qB h];rfl
theorem DC{h:List (Int×List Bool×Li)}{f:List ByteArray}{i:Int}(u:0<=i)(j:i<h.length):Rz (kr h f) i=f.getD i.toNat ⟨#[]⟩:=by
 unfold Rz kr;rw[Ao (λi=>f.getD i ⟨#[]⟩) _ _ 0 _ (by rw[yI];omega)];show f.getD ((List.range h.length).getD i.toNat 0) _=_;rw[show(List.range h.length).getD i.toNat 0=i.toNat by rw[qA,zH Z];rfl]
theorem Ju{α:Type}{f:α->ByteArray}{l:List α}{i:Int}(d:α)(j:0<=i)(h:i<l.length):Rz (l.map f) i=f (l.getD i.toNat d):=Ao _ _ _ _ _ Z
theorem kq(f:List (Int×List Bool×Li))(h:List ByteArray):(kr f h).length=f.length:=by simp[kr]
theorem fN{α β:Type}(f:α->β)(l:List α):(l.map f).length=l.length:=vX f
theorem UZ:eO 149 vL:=af λ(((z:Int),(w:List Bool),(h:Li)),_)=>by
 refine zE (A:=aG) (p:=let f:=Ef (Di w) 20;(True->Q3 f ((Dh true f->f)/\Dy f (Ef (Di h) 60) false=iI w h/\True))) Bj λ_=>?_;simp only[qc,Dh,Et,Dj,iI,Ef,Di];congr 1<;>congr 1<;>exact qCa Z
theorem Ur:ay Tryz.prog fU aDu:=ai UZ Bj
theorem BU{n:Net}{k i:Int}(h:0<=i)(f:i<=(aB n k).length):(aF n k i).length=i.toNat:=by
 unfold aF;rw[qO];omega
theorem yn{n:Net}{k i:Int}(h:0<=i)(f:i<(aB n k).length):aF n k (i+1)=aF n k i++[(aB n k).getD i.toNat ⟨#[]⟩]:=by
 unfold aF;rw[show(i+1).toNat=i.toNat+1 by omega,wY,qA,qB (show i.toNat<(aB n k).length by omega)];rfl
theorem BV{n:Net}{k i:Int}(h:i<=(aB n k).length)(f:¬i<(aB n k).length):aF n k i=aB n k:=by
 unfold aF;exact qM Z
theorem pN{n:Net}{k:Int}{m:Nat}{el:Int->ByteArray}(L:(aB n k).length=m)(hm:m<=100)(A:∀x,0<=x->x<(m:Int)->(aB n k).getD x.toNat ⟨#[]⟩=el x){R:List ByteArray}(G:R=aB n k):
  (∃x,jI x (aB n k).length/\(aF n k x).length=0/\aF n k x=[]/\0=x/\aF n k x=[])/\
   ∀(x:Int),jI x (aB n k).length->
    (x<(m:Int)->0<=x/\x<(m:Int)/\((aF n k x).length+[el x].length)*16<=140737488355328/\(aF n k x).length+[el x].length<=9223372036854775807/\inR .i64 (x+1)/\
     ∃y,jI y (aB n k).length/\((aF n k x).length+[el x].length=(aF n k y).length/\x+1=y/\aF n k x++[el x]=aF n k y)/\(((aB n k).length:Int)-y).toNat<(((aB n k).length:Int)-x).toNat)/\
    (¬x<(m:Int)->aF n k x=R):=by
 refine⟨⟨0,⟨qN _,qU _⟩,rfl,rfl,rfl,rfl⟩,λx ⟨h,u⟩=>⟨λf=>?_,λz=>by rw[G];exact BV u Z⟩⟩;have X:=BU h u;have j:=yn h (show x<((aB n k).length:Int) by omega);rw[A x h f]at j;refine⟨h,f,by simp only[vC];omega,by simp only[vC];omega,⟨Z,Z⟩,x+1,⟨Z,Z⟩,⟨by rw[j,qG],rfl,j.symm⟩,Z⟩
theorem rF(z:List Cal)(h f:List ByteArray)(y:List Off)(j:List Line)(u:List Cla)(A:iM (z,h,f,y,j,u)=true):z.length<=10/\h.length<=10/\f.length<=10/\y.length<=16/\j.length<=50/\u.length<=8:=vO A
theorem Qn:eO 150 sD:=af λ(((X,j,u,L,z,G):Net),(k:Int),_)=>by
 refine zE (A:=(lvA [(5,[2,4,5,6,7,8,9,10,11]),(12,[2,4,5,7,8,9,10,11]),(17,[2,4,5,8,9,10,11]),(22,[2,4,5,9,10,11]),(27,[2,4,5,10])] (WG (X,j,u,L,z,G)))) (p:=let c5:=ByteArray.mk #[];let f:=(X,j,u,L,z,G);let c2:=Ed k 1;let c3:=Di (aB f 1);let c4:=[ByteArray.mk #[]];let A:=aB f k;let c7:=Ed k 2;let c8:=Di (aB f 2);let c9:=Ed k 3;let c10:=Di (aB f 3);let c11:=Di L;let c13:=Ed k 4;let c14:=Di (aB f 4);let c15:=Di z;let c16:=((0:Int),(0:Int));let c18:=Ed k 5;let c19:=Di (aB f 5);let c20:=Di G;(iM f->(c2->(∃x,let c22:=aF f 1 x;jI x c3/\L7 f Z0 (Dl c22=0/\c22=Du ByteArray/\0=x/\k=k/\c22=Du ByteArray/\True))/\∀(x:Int),let c23:=Dn x (Di X);let c24:=Dn x (Di j);let c25:=aF f 1 x;let h:=Dl c25;let c27:=[Dw j (Dc x) c5];let c28:=h+Dl c27;let c29:=x+1;let c30:=h+(Dl c4);jI x c3->(c23->(c24->0<=x/\x<Di j/\h=h/\(c28*16)<=140737488355328/\c28<=9223372036854775807/\inR .i64 c29/\∃y,let c31:=aF f 1 y;jI y c3/\(L7 f Z0 (c28=Dl c31/\c29=y/\k=k/\En c25 c27=c31/\True))/\Dc (c3-y)<Dc (c3-x))/\(c24=false->h=h/\(c30*16)<=140737488355328/\c30<=9223372036854775807/\inR .i64 c29/\∃y,let c32:=aF f 1 y;jI y c3/\(L7 f Z0 (c30=Dl c32/\c29=y/\k=k/\En c25 c4=c32/\True))/\Dc (c3-y)<Dc (c3-x)))/\(c23=false->h=h/\c25=A/\True))/\(c2=false->(c7->(∃x,let c33:=aF f 2 x;jI x c8/\L7 f Z0 (Dl c33=0/\c33=Du ByteArray/\0=x/\k=k/\c33=Du ByteArray/\True))/\∀(x:Int),let c34:=Dn x (Di u);let c35:=aF f 2 x;let c36:=Dl c35;let c37:=[Dw u (Dc x) c5];let c38:=c36+Dl c37;let c39:=x+1;
  jI x c8->(c34->0<=x/\x<Di u/\c36=c36/\(c38*16)<=140737488355328/\c38<=9223372036854775807/\inR .i64 c39/\∃y,let c40:=aF f 2 y;jI y c8/\(L7 f Z0 (c38=Dl c40/\c39=y/\k=k/\En c35 c37=c40/\True))/\Dc (c8-y)<Dc (c8-x))/\(c34=false->c36=c36/\c35=A/\True))/\(c7=false->(c9->(∃x,let c41:=aF f 3 x;jI x c10/\L7 f Z0 (Dl c41=0/\c41=Du ByteArray/\0=x/\k=k/\c41=Du ByteArray/\True))/\∀(x:Int),let c42:=aF f 3 x;let c43:=Dl c42;let c44:=[(Dw L (Dc x) (ByteArray.mk #[],(0:Int),(0:Int),(0:Int),(0:Int),(0:Int),Du ByteArray)).1];let c45:=c43+Dl c44;let c46:=x+1;jI x c10->(Dn x c11->0<=x/\x<c11/\c43=c43/\(c45*16)<=140737488355328/\c45<=9223372036854775807/\inR .i64 c46/\∃y,let c47:=aF f 3 y;jI y c10/\(L7 f Z0 (c45=Dl c47/\c46=y/\k=k/\En c42 c44=c47/\True))/\Dc (c10-y)<Dc (c10-x))/\(Dn x c11=false->c43=c43/\c42=A/\True))/\(c9=false->(c13->(∃x,let c48:=aF f 4 x;jI x c14/\L7 f Z0 (Dl c48=0/\c48=Du ByteArray/\0=x/\k=k/\c48=Du ByteArray/\True))/\∀(x:Int),let c49:=aF f 4 x;let c50:=Dl c49;let c51:=[(Dw z (Dc x) (ByteArray.mk #[],(0:Int),(0:Int),(0:Int),c16)).1];let c52:=c50+Dl c51;let c53:=x+1;jI x c14->(Dn x c15->0<=x/\x<c15/\c50=c50/\(c52*16)<=140737488355328/\c52<=9223372036854775807/\inR .i64 c53/\∃y,let c54:=aF f 4 y;jI y c14/\(L7 f Z0 (c52=Dl c54/\c53=y/\k=k/\En c49 c51=c54/\True))/\Dc (c14-y)<Dc (c14-x))/\(Dn x c15=false->c50=c50/\c49=A/\True))/\(c13=false->(c18->(∃x,let c55:=aF f 5 x;
  jI x c19/\L7 f Z0 (Dl c55=0/\c55=Du ByteArray/\0=x/\c55=Du ByteArray/\True))/\∀(x:Int),let c56:=aF f 5 x;let c57:=Dl c56;let c58:=[(Dw G (Dc x) (ByteArray.mk #[],c16)).1];let c59:=c57+Dl c58;let c60:=x+1;jI x c19->(Dn x c20->0<=x/\x<c20/\c57=c57/\(c59*16)<=140737488355328/\c59<=9223372036854775807/\inR .i64 c60/\∃y,let c61:=aF f 5 y;jI y c19/\(L7 f Z0 (c59=Dl c61/\c60=y/\En c56 c58=c61/\True))/\Dc (c19-y)<Dc (c19-x))/\(Dn x c20=false->c57=c57/\c56=A/\True))/\(c18=false->A=Du ByteArray/\True))))))) Ur λhp=>?_
 obtain⟨l1,l2,l3,l4,l5,l6⟩:=rF X j u L z G hp;refine Z9 ?_;refine⟨λhk=>?_,λh1=>⟨λhk=>?_,λh2=>⟨λhk=>?_,λh3=>⟨λhk=>?_,λh4=>⟨λhk=>?_,λh5=>?_⟩⟩⟩⟩⟩;subst hk;have hl:(aB (X,j,u,L,z,G) 1).length=X.length:=kq X j;obtain⟨b1,b2⟩:=pN (n:=(X,j,u,L,z,G)) (k:=1) (el:=λx=>j.getD x.toNat ⟨#[]⟩) (R:=aB (X,j,u,L,z,G) 1) hl Z (λx h0 h1=>DC h0 h1) rfl;refine⟨b1,λx hx=>⟨λhlt=>⟨λhn=>⟨hx.1,hn,((b2 x hx).1 hlt).2.2⟩,λhn=>?_⟩,(b2 x hx).2⟩⟩;have e:j.getD x.toNat ⟨#[]⟩=⟨#[]⟩:=by rw[qA,wZ (by have:=hx.1;omega)];rfl
 have:=((b2 x hx).1 hlt).2.2;simp only[e]at this;exact this;subst hk;exact pN (n:=(X,j,u,L,z,G)) (k:=2) (m:=u.length) (el:=λx=>u.getD x.toNat ⟨#[]⟩) rfl Z (λx _ _=>rfl) rfl;subst hk;exact pN (n:=(X,j,u,L,z,G)) (k:=3) (m:=L.length) (el:=λx=>(L.getD x.toNat (⟨#[]⟩,0,0,0,0,0,[])).1) (fN _ L) Z (λx h0 h1=>Ju _ h0 h1) rfl;subst hk;exact pN (n:=(X,j,u,L,z,G)) (k:=4) (m:=z.length) (el:=λx=>(z.getD x.toNat (⟨#[]⟩,0,0,0,0,0)).1) (fN _ z) Z (λx h0 h1=>Ju _ h0 h1) rfl;subst hk;exact pN (n:=(X,j,u,L,z,G)) (k:=5) (m:=G.length) (el:=λx=>(G.getD x.toNat (⟨#[]⟩,0,0)).1) (fN _ G) Z (λx h0 h1=>Ju _ h0 h1) rfl;unfold aB;rw[if_neg h1,if_neg h2,if_neg h3,if_neg h4,if_neg h5]
theorem jB{α:Type}{a b:List α}{k:Nat}{d:α}(h:a.take k=b.take k)(y:k<a.length)(u:k<b.length)(j:a.getD k d=b.getD k d):a.take (k+1)=b.take (k+1):=by
 rw[qA,qA,qB y,qB u]at j;have f:a[k]=b[k]:=j;rw[wY,wY,qB y,qB u,h,f]
theorem q9{a b:Lj}(h:a≠b):false=iq a b:=by unfold iq;exact(qAj.2 h).symm
theorem Zw:eO 64 AA:=af λ((a:Lj),(b:Lj),_)=>by
 refine zE (A:=(lvA [(4,[0,1,4,5,6]),(9,[0,1,4,5,6])] (Vs a b))) (p:=let c1:=Ea (Di a) (Di b);(An a->(c1->false=iq a b/\True)/\(c1=false->(∃x,px a b x/\L7 a b (0=x/\True))/\∀(x:Int),let c2:=Dn x (Di a);let c3:=Dw a (Dc x) [];let u:=Di c3;let c5:=Dw b (Dc x) [];let h:=Di c5;let j:=Ea u h;let c8:=x+1;px a b x->(c2->0<=x/\x<Di a/\0<=x/\x<Di b/\(j->false=iq a b/\True)/\(j=false->(∃f,py a b x f/\Q4 a b x (0=f/\True))/\∀(f:Int),let z:=Ea (Dw c3 (Dc f) 0) (Dw c5 (Dc f) 0);let L:=f+1;py a b x f->0<=x/\x<Di a/\(Dn f u->0<=x/\x<Di a/\0<=f/\f<u/\0<=x/\x<Di b/\0<=f/\f<h/\(z->false=iq a b/\True)/\(z=false->inR .i64 L/\∃y,py a b x y/\(Q4 a b x (L=y/\True))/\Dc (u-y)<Dc (u-f)))/\(Dn f u=false->inR .i64 c8/\∃y,px a b y/\(L7 a b (c8=y/\True))/\Dc (Di a-y)<Dc (Di a-x))))/\(c2=false->true=iq a b/\True)))) Ur λ⟨hp,X⟩=>?_;refine Z9 ?_;refine⟨λh=>q9 λe=>h (by rw[e]),λh=>⟨⟨qN _,qU _,Z,hp,rfl⟩,λx ⟨G,g1,g2,g3,g4⟩=>⟨λj=>⟨G,j,G,Z,λhd=>q9 λe=>hd (by rw[e]),λhd=>?_⟩,λhge=>?_⟩⟩⟩;have hm2:=X _ (aO (l:=a) (i:=x.toNat) (d:=[]) Z);refine⟨⟨qN _,qU _,Z,hm2,rfl⟩,λz ⟨f0,f1,f2,f3,f4⟩=>⟨G,j,λhz=>⟨G,j,f0,hz,G,Z,f0,Z,λhd=>q9 λe=>hd (by rw[e]),λhe=>⟨⟨Z,Z⟩,z+1,⟨Z,Z,f2,f3,?_⟩,rfl,Z⟩⟩,λhz=>⟨⟨Z,Z⟩,x+1,⟨Z,Z,g2,g3,?_⟩,rfl,Z⟩⟩⟩;rw[show(z+1).toNat=z.toNat+1 by omega];exact jB f4 Z Z he;rw[show(x+1).toNat=x.toNat+1 by omega];refine jB (d:=[]) g4 Z Z ?_;rw[qM Z,qM Z]at f4;exact f4;rw[qM Z,qM Z]at g4;subst g4;unfold iq;simp
theorem Up:ay Tryz.prog fU aDt:=ai Qn<|ai Zw Ur
theorem aCv{n:Net}(q:iM n=true)(k:Int):(aB n k).length<=100:=by
 obtain⟨z,h,f,y,j,u⟩:=n;obtain⟨l1,l2,X,L,G,A⟩:=rF z h f y j u q;unfold aB;split;exact vP (yK (kq z h)) Z;split;show f.length<=100;omega;split;exact vP (yK (fN _ y)) Z;split;exact vP (yK (fN _ j)) Z;split;exact vP (yK (fN _ u)) Z;exact wK _
theorem tW{n:Net}(h:nX n=true->False):false=nX n:=by
 cases e:nX n with
 |false=>rfl|true=>exact(h e).elim
theorem fP{n:Net}:nX n=true↔iM n=true/\(n.1.all λc=>iI c.2.1 c.2.2)=true/\(n.2.2.2.1.all λo=>decide (o.2.2.2.2.2.2.length<=30))=true/\∀j:Int,1<=j->j<6->gR (aB n j)=true:=by
 unfold nX;simp only[qE,qAt];constructor;rintro⟨y,u,h,f,h5,h6,X,L⟩;refine⟨y,u,h,λj G A=>?_⟩;have z:j=1\/j=2\/j=3\/j=4\/j=5:=Z;rcases z with rfl|rfl|rfl|rfl|rfl<;>assumption;rintro⟨y,u,h,f⟩;exact⟨y,u,h,f 1 (by decide) (by decide),f 2 (by decide) (by decide),f 3 (by decide) (by decide),f 4 (by decide) (by decide),f 5 (by decide) (by decide)⟩
theorem ZK:eO 76 AP:=af λ(((L,ns,os,G,ls,ks):Net),_)=>by
 refine zE (A:=(lvA [(4,[1,2,3,4,5,6,7]),(9,[1,2,4,5,6,7]),(14,[1,2,5,6,7]),(18,[1,2,5,6,7])] (aCR (L,ns,os,G,ls,ks)))) (p:=let c1:=Di L;let c2:=Ee c1 10;let c3:=Dj c2;let c4:=Dy c2 true (Ee (Di ns) 10);let c5:=Dj c4;let X:=Dy c4 true (Ee (Di os) 10);let z:=Dj X;let c8:=Di G;let c9:=Dy X true (Ee c8 16);let c10:=Dj c9;let c11:=Dy c9 true (Ee (Di ls) 50);let A:=Dj c11;let c13:=Dy c11 true (Ee (Di ks) 8);let h:=(L,ns,os,G,ls,ks);let j:=nX h;(True->Q3 c3 ((Dh true c3->c3)/\Q3 c5 ((Dh true c5->c5)/\Q3 z ((Dh true z->z)/\Q3 c10 ((Dh true c10->c10)/\Q3 A ((Dh true A->A)/\(c13->false=j/\True)/\(c13=false->(∃x,t8 L x/\h=h/\0=x/\True)/\∀(x:Int),let c16:=(Dw L (Dc x) ((0:Int),Du Bool,Du Int)).2;let c17:=Dj (iI c16.1 c16.2);let c18:=x+1;t8 L x->(Dn x c1->0<=x/\x<c1/\True/\(c17->false=j/\True)/\(c17=false->inR IntKind.i64 c18/\∃y,t8 L y/\(h=h/\c18=y/\True)/\Dc (c1-y)<Dc (c1-x)))/\(Dn x c1=false->(∃xa,tL G xa/\h=h/\0=xa/\True)/\∀(xb:Int),let c19:=Ee (Di (Dw G (Dc xb) (ByteArray.mk #[],(0:Int),(0:Int),(0:Int),(0:Int),(0:Int),Du ByteArray)).2.2.2.2.2.2) 30;let c20:=xb+1;tL G xb->(Dn xb c8->0<=xb/\xb<c8/\(c19->false=j/\True)/\(c19=false->inR IntKind.i64 c20/\∃y,tL G y/\(h=h/\c20=y/\True)/\Dc (c8-y)<Dc (c8-xb)))/\(Dn xb c8=false->(∃xba,qf h xba/\h=h/\1=xba/\True)/\∀(f:Int),let c21:=Ef f 5;let c22:=Di (aB h f);let c23:=f+1;qf h f->(c21->iM h/\(∃u,BX (aB h f) u/\Q4 h f (aB h f) (0=u/\True))/\∀(u:Int),let c24:=Ee (Ei (Dw (aB h f) (Dc u) (ByteArray.mk #[]))) 40;let c25:=u+1;
  BX (aB h f) u->(Dn u c22->0<=u/\u<c22/\(c24->false=j/\True)/\(c24=false->inR .i64 c25/\∃y,BX (aB h f) y/\(Q4 h f (aB h f) (c25=y/\True))/\Dc (c22-y)<Dc (c22-u)))/\(Dn u c22=false->inR .i64 c23/\∃y,qf h y/\(h=h/\c23=y/\True)/\Dc (6-y)<Dc (6-f)))/\(c21=false->true=j/\True))))))))))) Up λhp=>?_
 refine Z9 ?_;refine⟨λh=>tW λg=>?_,λh=>?_⟩;obtain⟨l1,l2,l3,l4,l5,l6⟩:=rF L ns os G ls ks (fP.1 g).1;omega;have hl:iM (L,ns,os,G,ls,ks)=true:=qR (by show L.length<=10/\ns.length<=10/\os.length<=10/\G.length<=16/\ls.length<=50/\ks.length<=8;omega);refine⟨⟨qN _,qU _,by simp⟩,λx ⟨x0,x1,x2⟩=>⟨λX=>⟨x0,X,λhb=>tW λg=>?_,λhg=>⟨⟨Z,Z⟩,x+1,⟨Z,Z,?_⟩,rfl,Z⟩⟩,λhge=>?_⟩⟩;have:=yc (l:=L) (p:=λc=>iI c.2.1 c.2.2) (d:=(0,[],[])) (k:=x.toNat) Z hb;rw[(fP.1 g).2.1]at this;cases this;rw[show(x+1).toNat=x.toNat+1 by omega];exact mU (d:=(0,[],[])) x2 Z hg;have hcs:(L.all λc=>iI c.2.1 c.2.2)=true:=by rwa [qM Z]at x2
 refine⟨⟨qN _,qU _,by simp⟩,λz ⟨z0,z1,z2⟩=>⟨λX=>⟨z0,X,λhb=>tW λg=>?_,λhg=>⟨⟨Z,Z⟩,z+1,⟨Z,Z,?_⟩,rfl,Z⟩⟩,λhge=>?_⟩⟩;have:=yc (l:=G) (p:=λo=>decide (o.2.2.2.2.2.2.length<=30)) (d:=(⟨#[]⟩,0,0,0,0,0,[])) (k:=z.toNat) Z (qY Z);rw[(fP.1 g).2.2.1]at this;cases this;rw[show(z+1).toNat=z.toNat+1 by omega];exact mU (d:=(⟨#[]⟩,0,0,0,0,0,[])) z2 Z (qR Z);have hfs:(G.all λo=>decide (o.2.2.2.2.2.2.length<=30))=true:=by rwa [qM Z]at z2
 refine⟨⟨qN _,by decide,λj h1 h2=>Z⟩,λk ⟨k0,k1,k2⟩=>⟨λhk=>?_,λhk=>?_⟩⟩;have hlen:(aB (L,ns,os,G,ls,ks) k).length<=100:=aCv hl k;refine⟨hl,⟨qN _,qU _,by simp[gR]⟩,λi ⟨i0,i1,i2⟩=>⟨λX=>⟨i0,X,λhb=>tW λg=>?_,λhg=>⟨⟨Z,Z⟩,i+1,⟨Z,Z,?_⟩,rfl,Z⟩⟩,λhge=>⟨⟨Z,Z⟩,k+1,⟨Z,Z,λj h1 h2=>?_⟩,rfl,Z⟩⟩⟩;have:=yc (l:=aB (L,ns,os,G,ls,ks) k) (p:=λs=>decide (s.size<=40)) (d:=⟨#[]⟩) (k:=i.toNat) Z (qY Z);have h2:=(fP.1 g).2.2.2 k k0 Z;unfold gR at h2;rw[h2]at this;cases this;rw[show(i+1).toNat=i.toNat+1 by omega];exact mU (d:=⟨#[]⟩) i2 Z (qR Z);by_cases e:j=k;subst e;rwa [qM Z]at i2;exact k2 j h1 Z;exact(fP.2 ⟨hl,hcs,hfs,λj h1 h2=>k2 j h1 Z⟩).symm
theorem KY{a b:List (Lj)}(h:a≠b):false=BG a b:=by unfold BG;exact(qAj.2 h).symm
theorem EZ{a b:Lj}:iq a b=true↔a=b:=yX
theorem Zv:eO 65 Az:=af λ((a:List (Lj)),(b:List (Lj)),_)=>by
 refine zE (A:=(lvA [(4,[0,1,4,5])] (aB2 a b))) (p:=let f:=Di a;let c2:=Di b;let c3:=Ea f c2;(WJ a->(c3->false=BG a b/\True)/\(c3=false->(∃x,BE a b x/\L7 a b (0=x/\True))/\∀(x:Int),let X:=Dw a (Dc x) (Du (Li));let L:=Dj (iq X (Dw b (Dc x) (Du (Li))));let h:=x+1;BE a b x->(Dn x f->0<=x/\x<f/\0<=x/\x<c2/\An X/\(L->false=BG a b/\True)/\(L=false->inR .i64 h/\∃y,BE a b y/\(L7 a b (h=y/\True))/\Dc (f-y)<Dc (f-x)))/\(Dn x f=false->true=BG a b/\True)))) Up λhp=>?_;refine Z9 ?_;obtain⟨hp1,j⟩:=hp;refine⟨λh=>KY λe=>h (by rw[e]),λh=>⟨⟨qN _,qU _,Z,rfl⟩,λx ⟨G,g1,g2,z⟩=>⟨λu=>⟨G,u,G,Z,j _ (aO Z),λhd=>KY λe=>?_,λhd=>⟨az Z,x+1,⟨Z,Z,g2,?_⟩,rfl,Z⟩⟩,λhge=>?_⟩⟩⟩;rw[e,EZ.2 rfl]at hd;cases hd;rw[show(x+1).toNat=x.toNat+1 by omega];exact jB z Z Z (EZ.1 hd);rw[qM Z,qM Z]at z;subst z;unfold BG;simp
theorem aFM:ay Tryz.prog fU K17:=ai ZK<|ai Zv Up
theorem Zx:eO 19 AB:=af λ((p:Plan),(q:Plan),_)=>by
 obtain⟨p1,p2,z,y⟩:=p;obtain⟨u,X,L,G⟩:=q;refine zE (A:=aG) (p:=let j:=Ed p1 u;let c1:=(p1,p2,z,y);let h:=Dy j (Ed p2 X) false;let f:=Dy h (iq z L) false;(aCA c1->L5 j (Q3 j ((Dh true j->Ed p1 u)/\L5 h (Q3 h ((h->An z)/\(Dh true h->h)/\L5 f (Q3 f ((f->WJ y)/\(Dh true f->f)/\Dy f (BG y G) false=ZV c1 (u,X,L,G)/\True)))))))) aFM λhp=>?_;refine Z9 ?_;refine⟨λ_=>hp.1,λ_=>hp.2,?_⟩;unfold ZV iq BG;rw[qDc];simp[qAt]
theorem Qb(nx:Lj)(X:List Cal)(z u:List ByteArray)(j:List Off)(G:List Line)(L:List Cla):aj Tryz.prog fU 24 [.agg [.dat (.sl C) X,.dat (.sl S) z,.dat (.sl S) u,.dat (.sl Of) j,.dat (.sl Ln) G,.dat (.sl Kl) L],.dat M nx] [] ⟨True,.dat .bool (smF (X,z,u,j,G,L) nx),[]⟩:=by
 refine zE (A:=(lvA [(4,[1,4,5])] (smA nx))) (p:=let c1:=(X,z,u,j,G,L);let c2:=Dj (nX c1);let c3:=Dj c2;let c4:=Dy c2 true (Ee (Di j) 6);let c5:=Dj c4;let h:=Dy c4 true (Ee (Di nx) 10);let f:=smF c1 nx;(True->True/\Q3 c3 ((Dh true c3->c3)/\Q2 c5 ((Dh true c5->c5)/\(h->false=f/\True)/\(h=false->(∃x,aDE nx x/\nx=nx/\0=x/\True)/\∀(x:Int),let c8:=Dn x (Di nx);let A:=Ee (Di (Dw nx (Dc x) [])) 10;let c10:=x+1;aDE nx x->(c8->0<=x/\x<Di nx/\(A->false=f/\True)/\(A=false->inR .i64 c10/\∃y,aDE nx y/\(nx=nx/\c10=y/\True)/\Dc (Di nx-y)<Dc (Di nx-x)))/\(c8=false->true=f/\True)))))) aFM λ_=>?_;refine Z9 ?_;have e:smF (X,z,u,j,G,L) nx=((nX (X,z,u,j,G,L)&&decide ((j.length:Int)<=6))&&(decide ((nx.length:Int)<=10)&&nx.all λr=>decide ((r.length:Int)<=10))):=rfl;refine⟨λh=>?_,λ⟨⟨h1,h2⟩,h3⟩=>⟨⟨qN _,qU _,Z,λi h=>Z⟩,λx f=>⟨λhlt=>⟨f.1,hlt,λhb=>?_,λhb=>⟨az (by have:=f.1;omega),x+1,⟨by have:=f.1;omega,Z,f.2.2.1,λi hi=>?_⟩,rfl,by have:=f.1;omega⟩⟩,λhge=>?_⟩⟩⟩;rw[e];rcases h with(h|h)|h;rw[h];rfl;rw[qY Z,kZ];rfl;rw[qY (p:=(nx.length:Int)<=10) Z,qAe,kZ];rw[e];have:(nx.all λr=>decide ((r.length:Int)<=10))=false:=by
  refine qBq.2 ⟨nx.getD x.toNat [],?_,by simp only[qF];omega⟩;rw[qA,qB (by have:=f.1;omega),vJ];exact wS _
 rw[this,kZ,kZ];by_cases h:(i:Int)<x;exact f.2.2.2 i h;have:i=x.toNat:=by have:=f.1;omega
 rw[this];omega;rw[e,h1,qR Z,qR (p:=(nx.length:Int)<=10) Z];refine(qW.2 λr hr=>?_).symm;obtain⟨i,hi,rfl⟩:=yG.1 hr;have:=f.2.2.2 i Z;rw[qA,qB hi,vJ]at this;simp only[qF];omega
theorem aGJ:ay Tryz.prog fU aFV:=ai Zx<|ai (af λ((z,h,f,y,j,u),nx,_)=>Qb nx z h f y j u) aFM
theorem Ve(s:Int)(l:Li)(G:List Cal)(j h:List ByteArray)(z:List Off)(u:List Line)(y:List Cla):aj Tryz.prog fU 8 [.agg [.dat (.sl C) G,.dat (.sl S) j,.dat (.sl S) h,.dat (.sl Of) z,.dat (.sl Ln) u,.dat (.sl Kl) y],.agg [.dat R l,.dat I s]] [] ⟨True,.dat .bool (sO (G,j,h,z,u,y) l),[]⟩:=by
 refine zE (A:=aG) (p:=let L:=(G,j,h,z,u,y);let f:=smF L (Du (Li));(True->True/\Q3 f ((Dh true f->f)/\Dy f (Ef (Di l) 3000) false=sO L l/\True))) aGJ λX=>?_;refine Z9 ?_;rfl
theorem RI{l:Li}(h:l.length<=2000000):Ar l:=by show l.length<=2000000000000000;omega
theorem gF{l:Li}(h:jv l=true):rl l=l:=by
 unfold rl;conv=>rhs;rw[<- List.map_id l]
 refine zY λx f=>?_;have:=dJ.1 h x f;show x%65521=x;omega
theorem NN{l:Li}(h:jv l=true):fR l=zu l:=by unfold fR;rw[gF h]
theorem zt{l:Li}(h:jv l=true):du l (fR l)=true:=by
 unfold du;rw[h,NN h];simp
theorem QE{l:Li}{s:Int}(h:du l s=true):jv l=true/\s=zu l:=by
 unfold du at h;rwa [qE,qF]at h
structure Acc(n:Net)(l:Li):Prop where
 ins:jv l=true
 pl:nF l=true
 us:usF n=true
 fit:JY n (ah l)=true
 len:l.length<=40000
 run:ye n (ah l) (bU l)=some []
theorem aA3{n:Net}{l:Li}:iP n l (fR l)=0↔Acc n l:=by
 constructor;intro h;unfold iP at h;split at h;case isFalse=>unfold ti at h;split at h<;>omega
 rename_i j;split at h;case isFalse=>omega
 rename_i y;split at h;case isFalse=>omega
 rename_i f;unfold La at h;split at h;case isFalse=>omega
 rename_i u;unfold fL at j;rw[qE]at j;unfold mG EV at f;rw[qE,qF]at f;exact⟨(QE j.1).1,j.2,y,f.1,f.2,u⟩;rintro⟨j,y,f,u,A,z⟩;unfold iP;rw[if_pos (by unfold fL;rw[zt j];exact y),if_pos f,if_pos (by unfold mG EV;rw[u,qR A];rfl)];unfold La;rw[if_pos z]
theorem one_app{xs:Li}(z:Li)(h:bm xs=true):bm (xs++z)=true/\hd (xs++z)=hd xs/\tl (xs++z)=tl xs++z:=by
 have h:=vO h;cases xs with
 |nil=>exact absurd h (by simp)|cons x r=>exact⟨by unfold bm;simp,rfl,rfl⟩
theorem Xj{n:Net}{p:Plan}{d:Int}(z:Li):∀(f:Nat) {o t:Int}{xs:Li},(oY n p d f o t xs).1=true->oY n p d f o t (xs++z)=(true,(oY n p d f o t xs).2.1,(oY n p d f o t xs).2.2++z)
 |0,o,t,xs,h=>by
  have h:decide (o=d)=true:=h;show(decide (o=d),t,xs++z)=_;rw[h];rfl
 |f+1,o,t,xs,h=>by
  have e:∀j:Li,oY n p d (f+1) o t j=if o=d then(true,t,j)else if cellAt p o d=-1 then(false,t,j)else if bm j=false then(false,t,j)else
   if fY n o (cellAt p o d) p (hd j) t=true then oY n p d f (bu n (cellAt p o d)).2.2.1 (oJ (ag n o).1 (hd j-2+p.1) (bu n (cellAt p o d)).2.2.2.1+(bu n (cellAt p o d)).2.2.2.2.1) (tl j)else(false,t,tl j):=λj=>rfl
  rw[e]at h;rw[e,e];by_cases u:o=d;rw[if_pos u,if_pos u];rw[if_neg u]at h;rw[if_neg u,if_neg u];by_cases G:cellAt p o d=-1;rw[if_pos G]at h;cases h;rw[if_neg G]at h;rw[if_neg G,if_neg G];by_cases A:bm xs=false;rw[if_pos A]at h;cases h;rw[if_neg A]at h;obtain⟨a1,X,L⟩:=one_app z (by simpa using A);rw[if_neg A,if_neg (by rw[a1];exact Bool.noConfusion),X,L];by_cases y:fY n o (cellAt p o d) p (hd xs) t=true;rw[if_pos y]at h;rw[if_pos y,if_pos y];exact Xj z f h;rw[if_neg y]at h;cases h
theorem QR{f g:Nat->Li->Option (Li)}(z:Li)(u:∀i xs j,f i xs=some j->g i (xs++z)=some (j++z)):∀(m:Nat) {xs j:Li},runN f m xs=some j->runN g m (xs++z)=some (j++z)
 |0,_,_,h=>by cases h;rfl
 |m+1,xs,j,h=>by
  rw[runN]at h ⊢;obtain⟨G,A,y⟩:=xJ.1 h;rw[QR z u m A];exact u _ _ _ y
theorem DL{n:Net}{l:Li}(f:Ar l)(h:Acc n l):dF l:=⟨h.ins,f⟩
noncomputable def pos(m k o d:Int):Int:=4+m*m+k*(m*m)+(o*m+d)
theorem SY{n:Net}{p h:Plan}(j:h.1=p.1)(u:h.2.2.1=p.2.2.1){d:Int}:∀(f:Nat) (o t:Int) (xs:Li),oY n h d f o t xs=oY n p d f o t xs
 |0,_,_,_=>rfl|f+1,o,t,xs=>by
  have e:∀p:Plan,oY n p d (f+1) o t xs=if o=d then(true,t,xs)else if cellAt p o d=-1 then(false,t,xs)else if bm xs=false then(false,t,xs)else
   if fY n o (cellAt p o d) p (hd xs) t=true then oY n p d f (bu n (cellAt p o d)).2.2.1 (oJ (ag n o).1 (hd xs-2+p.1) (bu n (cellAt p o d)).2.2.2.1+(bu n (cellAt p o d)).2.2.2.2.1) (tl xs)else(false,t,tl xs):=λp=>rfl
  have z:cellAt h o d=cellAt p o d:=by unfold cellAt;rw[u]
  have y:∀c x,fY n o c h x t=fY n o c p x t:=λc x=>by unfold fY;rw[j]
  rw[e,e,z,y,j,SY j u f]
theorem Z7{f g:Nat->Li->Option (Li)}:∀(m:Nat) (j:∀i,i<m->∀xs u,f i xs=some u->g i xs=some u) {xs u:Li},runN f m xs=some u->runN g m xs=some u
 |0,_,_,_,h=>h|m+1,j,xs,u,h=>by
  rw[runN]at h ⊢;obtain⟨A,z,y⟩:=xJ.1 h;rw[Z7 m (λi G=>j i Z) z];exact j _ Z _ _ y
theorem VE{f:Nat->Li->Option (Li)}(u:∀i xs j,f i xs=some j->j=xs):∀(m:Nat) {xs j:Li},runN f m xs=some j->j=xs
 |0,_,_,h=>by cases h;rfl
 |m+1,xs,j,h=>by
  rw[runN]at h;obtain⟨A,z,y⟩:=xJ.1 h;rw[u _ _ _ y,VE u m z]
theorem Oc{w:List Bool}{h:Li}{d x:Int}(u:Sv.ie w h d=0)(G:d<=x)(z:wkF w h x=true):Sv.fS w h d<=x:=by
 by_cases A:d+60<=x;have:=(Sv.mo u).2.1;omega;have hm:x∈Sv.dM w h d 60:=by
  unfold Sv.dM;exact yY.2 ⟨vW.2 ⟨(x-d).toNat,wJ.2 Z,Z⟩,z⟩
 have f:(Sv.dM w h d 60).Pairwise (· < ·):=by
  unfold Sv.dM;exact List.Pairwise.filter _ (qBn.2 (List.pairwise_lt_range.imp λh=>Z))
 unfold Sv.fS Sv.jT;cases j:Sv.dM w h d 60 with
 |nil=>rw[j]at hm;cases hm
 |cons y tl=>
  rw[j]at hm f;show y<=x;rcases zK.1 hm with rfl|hm;exact qN _;exact Int.le_of_lt ((kC.1 f).1 x hm)
theorem Ia{c:Cal}{m t D:Int}(y:m<=1439)(f:Sv.nV c m t=0)(h:wkF c.2.1 c.2.2 D=true)(j:t<=oJ c.1 D m):Sv.gu c m t<=oJ c.1 D m:=by
 have u:Sv.gu c m t=Sv.ij c.1 (Sv.fS c.2.1 c.2.2 (Sv.d0F c m t)) m:=if_pos f;have hd:Sv.d0F c m t<=D:=by
  unfold oJ at j;unfold Sv.d0F Sv.jD Sv.Oh;split<;>omega
 have:=Oc f hd h;rw[u];unfold Sv.ij oJ;omega
theorem PN {n : Net} {p : Plan} {d : Int} (hu : usP n) (hpl : plP n p) (hdd : iu n d) : ∀ (f k : Nat) (o t t' : Int) (xs : Li), iu n o → (oY n p d f o t' xs).1 = true → t ≤ t' → (Sv.iR n p.2.2.1 d k o t).2 = 0 →
    ∃ s, (Sv.iR n p.2.2.1 d k o t).1.getLast? = some s ∧ s.2.1 ≤ (oY n p d f o t' xs).2.1
  | f, k, o, t, t', xs, ho, h1, ht, h2 => by
    by_cases h0 : o = d
    · rw [Sv.nK k h0]
      refine ⟨(o, t, -1, -1), rfl, ?_⟩
      cases f with
      | zero => exact ht
      | succ f => unfold oY; rw [if_pos h0]; exact ht
    cases f with
    | zero => exact absurd (vO h1) h0
    | succ f =>
      have e : oY n p d (f + 1) o t' xs = if o = d then (true, t', xs) else if cellAt p o d = -1 then (false, t', xs) else if bm xs = false then (false, t', xs) else
        if fY n o (cellAt p o d) p (hd xs) t' = true then oY n p d f (bu n (cellAt p o d)).2.2.1 (oJ (ag n o).1 (hd xs - 2 + p.1) (bu n (cellAt p o d)).2.2.2.1 + (bu n (cellAt p o d)).2.2.2.2.1) (tl xs) else (false, t', tl xs) := rfl
      rw [e] at h1 ⊢
      rw [if_neg h0] at h1 ⊢
      by_cases h3 : cellAt p o d = -1
      · rw [if_pos h3] at h1; cases h1
      rw [if_neg h3] at h1 ⊢
      by_cases h4 : bm xs = false
      · rw [if_pos h4] at h1; cases h1
      rw [if_neg h4] at h1 ⊢
      by_cases h5 : fY n o (cellAt p o d) p (hd xs) t' = true
      case neg => rw [if_neg h5] at h1; cases h1
      rw [if_pos h5] at h1 ⊢
      obtain ⟨g1, g2⟩ := hpl.2.2.1 o d ho hdd
      have g3 : cellAt p o d < n.2.2.2.2.1.length ∧ (bu n (cellAt p o d)).2.1 = o := by
        unfold jA at g1
        rw [qY h3, xQ, qE, qF, qF] at g1
        exact g1
      obtain ⟨_, lo, ⟨m0, m1⟩, _⟩ := PT hu (by omega : 0 ≤ cellAt p o d) g3.1
      have h3' : Sv.nxt p.2.2.1 o d ≠ -1 := h3
      have en : Sv.nxt p.2.2.1 o d = cellAt p o d := rfl
      by_cases h6 : Sv.od n (Sv.nxt p.2.2.1 o d) (Sv.aJ n o t) = 0
      case neg => rw [Sv.kz k h0 h3' h6] at h2; exact absurd h2 h6
      cases k with
      | zero => rw [Sv.iG h0 h3' h6] at h2; cases h2
      | succ k =>
        rw [Sv.iF k h0 h3' h6] at h2 ⊢
        generalize hr : Sv.iR n p.2.2.1 d k (Sv.lT n (Sv.nxt p.2.2.1 o d)) (Sv.lB n (Sv.nxt p.2.2.1 o d) (Sv.aJ n o t) + Sv.cz n (Sv.nxt p.2.2.1 o d)) = r at h2 ⊢
        unfold Sv.Ae at h2 ⊢
        by_cases h7 : r.2 = 0
        case neg => rw [if_neg h7] at h2; exact absurd h2 h7
        rw [if_pos h7]
        unfold fY at h5
        rw [qE, qF] at h5
        obtain ⟨w1, w2⟩ := h5
        have ok : Sv.bO (Sv.aJ n o t) = true := by
          cases hk : Sv.bO (Sv.aJ n o t) with
          | true => rfl
          | false => unfold Sv.od at h6; rw [hk] at h6; cases h6
        have eF : Sv.cF n (Sv.nxt p.2.2.1 o d) = o := g3.2
        have eE : Sv.od n (Sv.nxt p.2.2.1 o d) (Sv.aJ n o t) = Sv.nV (ag n o) (bu n (cellAt p o d)).2.2.2.1 (Sv.aJ n o t) := by
          unfold Sv.od
          rw [if_pos ok, eF]; rfl
        have eD : Sv.lB n (Sv.nxt p.2.2.1 o d) (Sv.aJ n o t) = Sv.gu (ag n o) (bu n (cellAt p o d)).2.2.2.1 (Sv.aJ n o t) := by
          unfold Sv.lB
          rw [if_pos ok, eF]; rfl
        rw [eE] at h6
        have hrd : Sv.aJ n o t ≤ oD n o t' := by
          show t + _ ≤ t' + _
          exact Int.add_le_add_right ht _
        have hdep := Ia m1 h6 w1 (by omega)
        rw [← eD] at hdep
        obtain ⟨s, s1, s2⟩ := PN hu hpl hdd f k _ (Sv.lB n (Sv.nxt p.2.2.1 o d) (Sv.aJ n o t) + Sv.cz n (Sv.nxt p.2.2.1 o d)) _ (tl xs) lo h1 (by
          have e9 : Sv.cz n (Sv.nxt p.2.2.1 o d) = (bu n (cellAt p o d)).2.2.2.2.1 := rfl
          rw [e9]
          exact Int.add_le_add_right hdep _) (by
          have e8 : (bu n (cellAt p o d)).2.2.1 = Sv.lT n (Sv.nxt p.2.2.1 o d) := rfl
          rw [e8, hr]; exact h7)
        have e8 : (bu n (cellAt p o d)).2.2.1 = Sv.lT n (Sv.nxt p.2.2.1 o d) := rfl
        rw [e8, hr] at s1
        refine ⟨s, ?_, s2⟩
        show ([_] ++ r.1).getLast? = _
        rw [List.getLast?_append, s1]; rfl
theorem UL{w:List Bool}{h:Li}{a b c:Int}(j:a<=b+1)(f:b<=c):fy w h a c=fy w h a b++fy w h (b+1) c:=by
 unfold fy;rw[show(c+1-a).toNat=(b+1-a).toNat+(c+1-(b+1)).toNat by omega,List.range_add,zS,yJ,qBx];congr 2;refine zY λi _=>?_;show a+((_+i:Nat):Int)=_;omega
theorem Zj{w:List Bool}{h:Li}{a b x:Int}(u:a<=x)(j:x<=b)(f:wkF w h x=true):x∈fy w h a b:=by
 unfold fy;exact yY.2 ⟨vW.2 ⟨(x-a).toNat,wJ.2 Z,Z⟩,f⟩
theorem add_lt{w:List Bool}{h:Li}{D:Int}(j:wkF w h D=true):∀(k:Nat) {B e:Int},Sv.IM w h k B=some e->e<D->k+1<=(fy w h (B+1) D).length
 |0,B,e,g,f=>by
  cases g;exact List.length_pos_of_mem (Zj Z (qN _) j)
 |k+1,B,e,g,f=>by
  unfold Sv.IM at g;obtain⟨y,z,u⟩:=xJ.1 g;have hm:y∈Sv.dM w h (B+1) 60:=gK (by unfold Sv.jT at z;rw[z];rfl);obtain⟨G,L,A⟩:=Sv.pS hm;have hb:=Sv.Kv k u;have X:=add_lt j k u f;rw[UL (b:=y) Z Z,qG];have:=List.length_pos_of_mem (Zj (a:=B+1) (b:=y) G (qN _) A);omega
theorem Fo{f:Nat->Li->Option (Li)}:∀(m:Nat) {xs j:Li},runN f m xs=some j->∀i,i<m->∃u v,f i u=some v
 |0,_,_,_,i,hi=>Z|m+1,xs,j,h,i,hi=>by
  rw[runN]at h;obtain⟨A,z,y⟩:=xJ.1 h;rcases wW i m with g|g;exact Fo m z i g;have:i=m:=by omega
  subst this;exact⟨_,_,y⟩
theorem aA1{n:Net}{l:Li}{k o d u:Int}(hn:Ak n)(hl:Ar l)(h:Acc n l)(hk:OY n k)(ho:iu n o)(hd:iu n d)(G:jy (ah l) k o d≠-1)(hc:u∈jk n (ah l) k o):∃xs,tf n (ah l) k o d u xs=true:=by
 have A:=BO (DL hl h) h.pl h.fit;obtain⟨_,⟨q1,q2⟩,_,q4,q5⟩:=A;have f:=h.run;unfold ye st1 at f;rw[zQ]at f;have ek:((k.toNat:Nat):Int)=k:=wC hk.1;have eo:((o.toNat:Nat):Int)=o:=wC ho.1;have ed:((d.toNat:Nat):Int)=d:=wC hd.1;have hk1:=hk.2;have ho1:=ho.2;have hd1:=hd.2;obtain⟨u1,v1,r1⟩:=Fo _ f k.toNat Z;rw[ek]at r1;have L:=q5 (dK (ah l) k) (aO Z);obtain⟨u2,v2,X⟩:=Fo _ r1 o.toNat Z;rw[eo]at X;have s2:=L.2 (cellsD (ah l) k o) (aO (by have:=L.1;show o.toNat<(dK (ah l) k).length;omega));obtain⟨u3,v3,z⟩:=Fo _ X d.toNat Z;rw[ed]at z;unfold xq at z;rw[if_neg G]at z;obtain⟨j,hj,ej⟩:=yG.1 hc;obtain⟨u4,v4,y⟩:=Fo _ z j hj;unfold uU at y;rw[qA,qB hj,vJ,ej]at y;split at y;exact⟨_,by assumption⟩;cases y
theorem D9{n:Net}{l:Li}{k o d A:Int}{x1:ByteArray}(hn:Ak n)(hl:Ar l)(h:Acc n l)(G:Sv.UJ n k o A=0)(h0:1440*(ah l).1<=Sv.PG n k o A)(h1:Sv.PG n k o A<1440*(ah l).2.1)
  (hw:Sv.DU n (ah l).2.2.1 o d A=0) (j:Sv.DV n (ah l).2.2.2 (x1,o,d,k,A)=0) {s:Sv.Stop} (hs:(Sv.rL n (ah l).2.2.1 o d A).getLast?=some s) (z:Sv.Ky n k d s.2.1=0):
  Sv.Ye n k d s.2.1<=Sv.PE n (ah l).2.2.2 (x1,o,d,k,A):=by
 have hpl:=BO (DL hl h) h.pl h.fit;have hu:usP n:=⟨h.us,hn⟩;have ha:Sv.oV n k o A=true:=by
  cases e:Sv.oV n k o A with
  |true=>rfl|false=>unfold Sv.UJ at G;rw[e]at G;cases G
 have ha2:Sv.oV n k d s.2.1=true:=by
  cases e:Sv.oV n k d s.2.1 with
  |true=>rfl|false=>unfold Sv.Ky at z;rw[e]at z;cases z
 have hCE:Sv.nV (ag n o) (bz n k).2.1 A=0:=by unfold Sv.UJ at G;rw[if_pos ha]at G;exact G
 have hCD:Sv.PG n k o A=Sv.gu (ag n o) (bz n k).2.1 A:=if_pos ha;have hLE:Sv.nV (ag n d) (bz n k).2.2 (oD n d s.2.1)=0:=by unfold Sv.Ky at z;rw[if_pos ha2]at z;exact z
 have hLD:Sv.Ye n k d s.2.1=Sv.gu (ag n d) (bz n k).2.2 (oD n d s.2.1):=if_pos ha2;unfold Sv.oV at ha ha2;simp only[qE]at ha ha2;have ik:OY n k:=Sv.cE.1 ha.1.1.1;have io:iu n o:=Sv.cE.1 ha.1.1.2;have id':iu n d:=Sv.cE.1 ha2.1.1.2;have hA:0<=A/\A<=2000000:=Sv.BA.1 ha.1.2;have hcl:=PU hu ik;obtain⟨⟨z1,z2⟩,hw7,hsr⟩:=ko (zg hu io);obtain⟨f,u⟩:∃f,f=Sv.PG n k o A:=⟨_,rfl⟩;rw[<- u]at h0 h1;have eN:f=oJ (ag n o).1 (Sv.fS (ag n o).2.1 (ag n o).2.2 (Sv.d0F (ag n o) (bz n k).2.1 A)) (bz n k).2.1:=by
  rw[u,hCD];exact if_pos hCE
 obtain⟨_,_,n3⟩:=Sv.mo (w:=(ag n o).2.1) (h:=(ag n o).2.2) (d:=Sv.d0F (ag n o) (bz n k).2.1 A) hCE;generalize Sv.fS (ag n o).2.1 (ag n o).2.2 (Sv.d0F (ag n o) (bz n k).2.1 A)=D0 at eN n3;have hD0:(ah l).1-1<=D0/\D0<=(ah l).2.1+1:=by
  unfold oJ at eN;omega
 have hin:f∈jk n (ah l) k o:=by
  unfold jk;refine yY.2 ⟨vW.2 ⟨D0,?_,?_⟩,?_⟩;unfold Na;exact Zj hD0.1 hD0.2 n3;rw[eN];rfl;unfold tA;rw[qR h0,qR h1];rfl
 have hAc:A<=f:=by
  have:=Sv.w8 (c:=ag n o) (m:=(bz n k).2.1) (t:=A) (by have:=zg hu io;exact this) hCE hcl.1.1 hcl.1.2;rw[u,hCD];exact this.1
 have hdo:Sv.J4 n (ah l).2.2.2 (x1,o,d,k,A)=true:=by
  cases e:Sv.J4 n (ah l).2.2.2 (x1,o,d,k,A)with
  |true=>rfl|false=>unfold Sv.DV at j;rw[e]at j;cases j
 have hdC:Sv.CZ n (x1,o,d,k,A)=0:=hCE;have hdD:Sv.aBm n (x1,o,d,k,A)=f:=by rw[u,hCD];rfl
 have hnum:¬Sv.OL (ah l).2.2.2 (x1,o,d,k,A)<0:=λg=>by
  unfold Sv.DV at j;rw[if_pos hdo,if_pos hdC,if_pos g]at j;cases j
 have eNum:Sv.OL (ah l).2.2.2 (x1,o,d,k,A)=jy (ah l) k o d:=rfl;have hAE:Sv.UH (ag n d).2.1 (ag n d).2.2 (Pg n d f) (jy (ah l) k o d)=0:=by
  have hx:=j;unfold Sv.DV at hx;rw[if_pos hdo,if_pos hdC,if_neg hnum]at hx;unfold Sv.J5 Sv.Tq at hx;rw[hdD]at hx;exact hx
 have hDD:Sv.PE n (ah l).2.2.2 (x1,o,d,k,A)=oJ (ag n d).1 (Sv.Um (ag n d).2.1 (ag n d).2.2 (Pg n d f) (jy (ah l) k o d)) (bz n k).2.2:=by
  unfold Sv.PE;rw[if_pos j];unfold Sv.Tn Sv.Tq;rw[hdD];rfl
 rw[eNum]at hnum;obtain⟨xs,X⟩:=aA1 hn hl h ik io id' Z hin;unfold tf at X;simp only[qE,qF]at X;obtain⟨pf,pd,pb,pn⟩:=X;have hwo:Sv.kA n (ah l).2.2.1 o d A=true:=by
  cases e:Sv.kA n (ah l).2.2.1 o d A with
  |true=>rfl|false=>unfold Sv.DU at hw;rw[e]at hw;cases hw
 have hwE:(Sv.iR n (ah l).2.2.1 d 19 o A).2=0:=by unfold Sv.DU at hw;rw[if_pos hwo]at hw;exact hw
 have hwL:Sv.rL n (ah l).2.2.1 o d A=(Sv.iR n (ah l).2.2.1 d 19 o A).1:=if_pos hwo;obtain⟨s',s1,s2⟩:=PN hu hpl id' 19 19 o A f xs io pf hAc hwE;rw[hwL,s1]at hs;cases hs;have hT:s.2.1<=sN n (ah l) o d f xs:=s2;obtain⟨L,hL⟩:∃L,L=Ha n (ah l) k o d f xs:=⟨_,rfl⟩;have hLm:L∈fy (ag n d).2.1 (ag n d).2.2 (Pe (ag n d) (bz n k).2.2 (oD n d (sN n (ah l) o d f xs))) (Pe (ag n d) (bz n k).2.2 (oD n d (sN n (ah l) o d f xs))+59):=by
  unfold nI at pd;rw[hL];unfold Ha OO;cases e:YR (ag n d) (bz n k).2.2 (oD n d (sN n (ah l) o d f xs))with
  |none=>rw[e]at pd;cases pd
  |some y=>
   unfold YR at e;exact gK e
 obtain⟨L1,_,L3⟩:=PK hLm;have hmom:oD n d s.2.1<=oJ (ag n d).1 L (bz n k).2.2:=by
  have g1:oD n d s.2.1<=oD n d (sN n (ah l) o d f xs):=Int.add_le_add_right hT _;generalize oD n d (sN n (ah l) o d f xs)=R at L1 g1;unfold Pe bg dr at L1;unfold oJ;split at L1<;>omega
 have hdel:=Ia hcl.2.2 hLE L3 hmom;rw[hLD,hDD];refine Int.le_trans hdel ?_;have hle:L<=Sv.Um (ag n d).2.1 (ag n d).2.2 (Pg n d f) (jy (ah l) k o d):=by
  unfold Sv.UH at hAE;unfold Sv.Um;split at hAE;case isFalse=>omega
  rename_i h200;rw[if_pos h200];cases e:Sv.IM (ag n d).2.1 (ag n d).2.2 (jy (ah l) k o d).toNat (Pg n d f)with
  |none=>rw[e]at hAE;simp at hAE|some y=>
   show L<=y;rcases qCz y L with g|g;have:=add_lt L3 _ e g;unfold RD at pn;rw[<- hL]at pn;omega;exact g
 unfold oJ;omega
end Go.Eng.In
