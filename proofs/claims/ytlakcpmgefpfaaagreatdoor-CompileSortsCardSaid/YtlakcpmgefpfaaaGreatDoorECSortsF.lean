/- PeWa3n PeWa4n PeWa5n PeWa6n PeCo1n PeCo2n PeCo3n PeCo4n PeCo5n PeCoL2n PeIn3n PeIn4n PeIn5n PeIn5bn PeCo6n -/
import Derived.Test.YtlakcpmgefpfaaaGreatDoorECSortsA
import Derived.Test.YtlakcpmgefpfaaaGreatDoorECSortsB
import Derived.Test.YtlakcpmgefpfaaaGreatDoorECSortsC
import Derived.Test.YtlakcpmgefpfaaaGreatDoorECSortsD
import Derived.Test.YtlakcpmgefpfaaaGreatDoorECSortsE
set_option linter.unusedSimpArgs false
set_option linter.unusedVariables false
set_option maxRecDepth 100000
noncomputable section
namespace Go.Eng.Sv
open Go.Proofs
def aFc(n:Net)(f:Int)(s:Stop): Int:=gQ (aB n s.1).1 s.2.2.1+(2-f)
def o9(n:Net)(f:Int)(l:List Stop): Li:=l.map (aFc n f)
def Iq(n:Net)(p:Plan)(o d t:Int): Li:=o9 n p.1 (uq n p.2.2.1 o d t).dropLast
def uo(n:Net)(p:Plan)(o d t:Int): Int:=((uq n p.2.2.1 o d t).getLastD (0,0,0,0)).2.1
def wN(n:Net)(p:Plan)(o d t:Int)(k:Nat)(xs:Li): Prop:=Gw n p.2.2.1 o d t/\(0<=p.1/\p.1<=600)/\xs.length=k/\xs.length<=950000000000
def aC6(n:Net)(p:Plan)(o0 d t0:Int)(xs:Li): Ann:=⟨λid s=>match id with
 | 2=>some {α:=List Stop×Int×Int,inv:=λx=>Ve n p.2.2.1 o0 d t0 x,st:=λx=>{put (flat s) [(1,.dat I x.2.1),(3,.dat I x.2.2),(9,.dat I (Dq (Df x.1) 1))]with mem:=mo n p (Dz (Dk xs) (Dk (o9 n p.1 x.1))) (Ef xs (o9 n p.1 x.1))},μ:=λx=>Dc (Dh 20 (Df x.1))}
 | _=>none,λ_ _=>none,λ_ _=>none⟩
def cWw: Cfg:=mkp KW3 (λ_=>false) aEY (λf=>f==137)
theorem Wm(o d t:Int)(k:Nat)(xs:Li)(n:Net)(p:Plan)(hvc:
 let c1:=Iq n p o d t;let c2:=Ef xs c1;let c3:=p.2;let c4:=c3.2;let c5:=c4.1;let c6:=n.1;let c7:=n.2;let A:=c7.1;let c9:=c7.2;let f:=c9.1;let c11:=c9.2;let c12:=c11.1;let c13:=c11.2;let c14:=c13.1;let c15:=c13.2;let b:=p.1;let h:=c3.1;let g:=c4.2;let c19:=i9 n c5 o d t;let i:=isZero c19;let z:=chainOf (Value.iface 39 (Value.int .i64 c19));let v:=(c6,A,f,c12,c14,c15);let c23:=(ByteArray.mk #[],(0:Int),(0:Int),(0:Int),(0:Int),(0:Int));let c24:=2-b;true/\(wN n p o d t k xs->1=1/\Dk xs<=Dk c2/\(∃(x:List Stop×Int×Int),let c25:=x.2;let c26:=x.1;let c27:=o9 n b c26;Ve n c5 o d t x/\1=1/\0=0/\0=0/\o=c25.1/\d=d/\t=c25.2/\(0:Int)=(0:Int)/\1=Df c26+1/\c6=c6/\A=A/\f=f/\c12=c12/\c14=c14/\c15=c15/\b=b/\h=h/\c5=c5/\g=g/\k=Dk xs+Dk c27/\xs=Ef xs c27/\1=1/\Dk xs=Dk xs/\True)/\∀(x:List (Int×Int×Int×Int)×Int×Int),let c28:=x.2;let e:=c28.1;let c30:=Ec e d;let c31:=Du c5 (Dc e) [];let u:=Du c31 (Dc d) 0;let c33:=Eb u (-1);let c34:=c28.2;let r:=aG v e c34;let c36:=Eh r 2000000;let c37:=aB v e;let Z:=c37.1;let c39:=c37.2;let c40:=c39.1;let c41:=c39.2;let X:=(Z,c40,c41);let c43:=(Du c14 (Dc u) c23).2.2;let c44:=c43.2;let V:=c44.1;let c46:=my X V r;let T:=isZero c46;let c48:=x.1;let c49:=Df c48;let c50:=c49+1;let c51:=Eb c50 20;let O:=ik X V r;let L:=[gQ Z O];let c54:=o9 n b c48;let j:=Ef xs c54;let G:=Dk xs+Dk c54;let c57:=upR L c24 (Df L);let c58:=Ef j c57;let c59:=O+c44.2.1;let c60:=c50+1;
 Ve n c5 o d t x->(c30->1=1/\1=1/\1=1/\1=1/\0=0/\0<=e/\e<Df c5/\0<=d/\d<Df c31/\(c33->(true->True/\(false=false->i=false/\true/\chainOf (Value.iface 39 (Value.int IntKind.i64 (170:Int)))=z))/\True)/\(c33=false->fk v e c34/\(c36->(true->True/\(false=false->i=false/\true/\chainOf (Value.iface 39 (Value.int .i64 (1:Int)))=z))/\True)/\(c36=false->1=1/\1=1/\1=1/\1=1/\0=0/\0<=u/\u<Df c14/\1=1/\0=0/\mx v e/\1=1/\0=0/\1=1/\0=0/\1=1/\1=1/\0=0/\zy X V r/\(true->True/\(T=false->i=false/\true/\chainOf (Value.iface 39 (Value.int .i64 c46))=z))/\((true->T)->(True/\T)/\(c51->(true->True/\(false=false->i=false/\true/\chainOf (Value.iface 39 (Value.int .i64 (170:Int)))=z))/\True)/\(c51=false->1=1/\0=0/\fW Z c40 c41 O/\1=1/\1=1/\1=1/\1=1/\0=0/\inR .i64 c24/\rsP c24 L j G/\1=1/\Dk j<=Dk c58/\1=1/\1=1/\0=0/\1=1/\1=1/\0=0/\inR .i64 c59/\inR .i64 c60/\∃(y:List Stop×Int×Int),let c61:=y.2;let c62:=y.1;let c63:=Df c62;let c64:=o9 n b c62;Ve n c5 o d t y/\(1=1/\0=0/\0=0/\c43.1=c61.1/\d=d/\c59=c61.2/\(0:Int)=(0:Int)/\c60=c63+1/\c6=c6/\A=A/\f=f/\c12=c12/\c14=c14/\c15=c15/\b=b/\h=h/\c5=c5/\g=g/\G+Dk c57=Dk xs+Dk c64/\c58=Ef xs c64/\1=1/\Dk xs=Dk xs/\True)/\Dc (20-c63)<Dc (20-c49))))))/\(c30=false->i/\c34=uo n p o d t/\c6=c6/\A=A/\f=f/\c12=c12/\c14=c14/\c15=c15/\b=b/\h=h/\c5=c5/\g=g/\G=k+Dk c1/\j=c2/\1=1/\Dk xs=Dk xs/\True))):
  evM cWw (aC6 n p o d t xs) 135 [.ptr 2 1 0 0,.dat I o,.dat I d,.dat I t] (mo n p k xs) (.dat I (uo n p o d t)) (mo n p (Dz k (Dk (Iq n p o d t))) (Ef xs (Iq n p o d t))) ⟨wN n p o d t k xs,isZero (i9 n p.2.2.1 o d t),um 39 (i9 n p.2.2.1 o d t)⟩:=oE hvc
theorem Vj(o d t:Int)(k:Nat)(xs:Li)(n:Net)(p:Plan): af Tryz.prog G0 135 [.ptr 2 1 0 0,.dat I o,.dat I d,.dat I t] (mo n p k xs) ⟨wN n p o d t k xs/\isZero (i9 n p.2.2.1 o d t)=true,.dat I (uo n p o d t),mo n p (Dz k (Dk (Iq n p o d t))) (Ef xs (Iq n p o d t))⟩/\
  cL Tryz.prog G0 135 [.ptr 2 1 0 0,.dat I o,.dat I d,.dat I t] (mo n p k xs) ⟨wN n p o d t k xs,isZero (i9 n p.2.2.1 o d t),um 39 (i9 n p.2.2.1 o d t)⟩:=by
 refine b9 (c:=cWw) ZT aK hm PH (Wm o d t k xs n p ⟨rfl,λhp=>?_⟩);obtain⟨hp,hp1,hk,hxl⟩:=hp;have eN:(n.1,n.2.1,n.2.2.1,n.2.2.2.1,n.2.2.2.2.1,n.2.2.2.2.2)=n:=rfl;have eC:∀c:Int×List Bool×Li,(c.1,c.2.1,c.2.2)=c:=λ_=>rfl
 have eX:∀l:Int,n.2.2.2.2.1.getD l.toNat (⟨#[]⟩,0,0,0,0,0)=o8 n l:=λ_=>rfl
 have eM:∀u:Int,(p.2.2.1.getD u.toNat []).getD d.toNat 0=nxt p.2.2.1 u d:=λ_=>rfl
 have eU:∀x b:Int,upR [x] b (([x]:Li).length:Int)=[x+b]:=λ_ _=>rfl
 simp only[qc,Dj,Es,Di,qd,Dt,Eb,Ec,Dp,Eh,Ei,Ed,Ey,Df,Et,Dl,Dn,Eo,Dy,Dw,Dh,Dq,Ee,Fh,Dc,Dx,Dk,Dz,Ej,Du,Eu,Ez,En,Ef,Fe,Fj,Fg,Ep,Em,Ew,Fb,eN,eC,eX,eM,eU];refine⟨by rw[qF];omega,⟨([],o,t),⟨hp,by simp,(Hj 19 o t).symm⟩,rfl,rfl,rfl,by rw[hk];rfl,(wH _).symm⟩,?_⟩;rintro⟨l,u,v⟩ hx;simp only;generalize f:nxt p.2.2.1 u d=g at *;obtain⟨⟨hs,ht,u0,V,Z,X,v0,v1⟩,hd,hw⟩:=hx;simp only at u0 V Z X v0 v1 hd hw
 have L:noF n=true:=bD n.1 n.2.1 n.2.2.1 n.2.2.2.1 n.2.2.2.2.1 n.2.2.2.2.2 hs;obtain⟨c1,c2,c3⟩:(p.2.2.1.length:Int)=n.2.2.2.1.length/\((p.2.2.1.getD u.toNat []).length:Int)=n.2.2.2.1.length/\(nxt p.2.2.1 u d≠-1->(0<=nxt p.2.2.1 u d/\nxt p.2.2.1 u d<n.2.2.2.2.1.length)/\cV n (nxt p.2.2.1 u d)=u):=gm n.1 n.2.1 n.2.2.1 n.2.2.2.1 n.2.2.2.2.1 n.2.2.2.2.2 ht u0 V Z X;rw[f]at c3;have r:mx n u:=⟨L,u0,V⟩
 have hr:fk n u v:=⟨r,by omega,by omega⟩;obtain⟨_,_,r1,r2⟩:inR .i64 ((bR n u).2.2.2.2.1*(bR n u).2.2.2.2.2.1)/\inR .i64 (aG n u v)/\v<=aG n u v/\aG n u v<=v+960:=sB n.1 n.2.1 n.2.2.1 n.2.2.2.1 n.2.2.2.2.1 n.2.2.2.2.2 hr;have hE:i9 n p.2.2.1 o d t=(A2 l (kt n p.2.2.1 d (19-l.length) u v)).2:=by unfold i9;rw[hw]
 have hL:uq n p.2.2.1 o d t=(A2 l (kt n p.2.2.1 d (19-l.length) u v)).1:=by unfold uq;rw[hw]
 have j:∀e:Int,e≠0->kt n p.2.2.1 d (19-l.length) u v=([],e)->i9 n p.2.2.1 o d t=e:=λe he h=>by rw[hE,h];unfold A2;rw[if_neg he]
 refine⟨λy=>⟨u0,by rw[c1];exact V,Z,by rw[c2];exact X,λhm=>?_,λhm=>⟨hr,λhgt=>?_,λhle=>?_⟩⟩,λhe=>?_⟩
 .rw[j 170 (by decide) (nu _ y (f.trans hm))];exact⟨rfl,rfl⟩
 .have e1:rz n g (aG n u v)=1:=if_neg (by unfold db;rw[qE];omega);rw[j 1 (by decide) ((rH _ y (by rw[f];exact hm) (by rw[f,e1];decide)).trans (by rw[f,e1]))];exact⟨rfl,rfl⟩
 .obtain⟨⟨l0,l1⟩,lf⟩:=c3 hm;have O:NP n g:=⟨L,l0,l1⟩;obtain⟨g1,g2,g3,g4,g5,g6,g7,g8⟩:0<=cV n g/\cV n g<n.2.2.2.1.length/\0<=HC n g/\HC n g<n.2.2.2.1.length/\0<=Jn n g/\Jn n g<=1439/\1<=iM n g/\iM n g<=5000:=BA n.1 n.2.1 n.2.2.1 n.2.2.2.1 n.2.2.2.2.1 n.2.2.2.2.2 O;have A:db (aG n u v)=true:=by unfold db;rw[qE];omega
  have eE:rz n g (aG n u v)=my (aB n u) (o8 n g).2.2.2.1 (aG n u v):=by unfold rz;rw[if_pos A,lf];rfl
  have eD:tO n g (aG n u v)=ik (aB n u) (o8 n g).2.2.2.1 (aG n u v):=by unfold tO;rw[if_pos A,lf];rfl
  have hv:ax (aB n u).1 (aB n u).2.1 (aB n u).2.2=true:=(gb n.1 n.2.1 n.2.2.1 n.2.2.2.1 n.2.2.2.2.1 n.2.2.2.2.2 r).2.2.1;have g5':0<=(o8 n g).2.2.2.1:=g5;have g6':(o8 n g).2.2.2.1<=1439:=g6;have g7':1<=(o8 n g).2.2.2.2.1:=g7;have g8':(o8 n g).2.2.2.2.1<=5000:=g8;refine⟨l0,l1,r,⟨hv,by omega,by omega,by omega,by omega⟩,λz=>?_,λz=>⟨z,λh20=>?_,λh20=>?_⟩⟩
  .have i:=eW.1 z;rw[j _ i ((rH _ y (by rw[f];exact hm) (by rw[f,eE];exact i)).trans (by rw[f,eE]))];exact⟨z,rfl⟩
  .have i:=cN.1 z;rw[j 170 (by decide) (by rw[show 19-l.length=0 by omega];exact ri y (by rw[f];exact hm) (by rw[f,eE];exact i))];exact⟨rfl,rfl⟩
  .have i:=cN.1 z;obtain⟨b1,b2⟩:=lF hv i g5' g6';have G:=rh (n:=n) (nx:=p.2.2.1) (to:=d) (o:=u) (t:=v) (19-(l.length+1)) y (by rw[f];exact hm) (by rw[f,eE];exact i);rw[show 19-(l.length+1)+1=19-l.length by omega,f,eD]at G;have lD:(o9 n p.1 l).length=l.length:=by unfold o9;rw[vG]
   generalize hq:ik (aB n u) (o8 n g).2.2.2.1 (aG n u v)=q at *;have lA:o9 n p.1 (l++[(u,v,q,g)])=o9 n p.1 l++[gQ (aB n u).1 q+(2-p.1)]:=by unfold o9 aFc;rw[yU];rfl
   have dq:-1000000<=gQ (aB n u).1 q/\gQ (aB n u).1 q<=1000000:=by
    obtain⟨⟨z1,z2,_,_⟩,_⟩:=cA.1 hv;unfold gQ;omega
   refine⟨⟨hv,by omega,by omega⟩,aL (by omega),⟨⟨by rw[qF],by rw[qF,lD];show _+1<=_;omega⟩,by omega,by omega,λx hx=>by rw[vH]at hx;omega⟩,by simp only[qF];omega,aL (by omega),aL (by omega),
    (l++[(u,v,q,g)],HC n g,q+iM n g),⟨⟨hs,ht,g3,g4,Z,X,by simp only;omega,by simp only;omega⟩,by simp;omega,?_⟩,⟨rfl,rfl,by simp,by rw[lA];simp;omega,by rw[lA,wM]⟩,by simp;omega⟩
   show kt n p.2.2.1 d 19 o t=_;rw[hw,G,x9];simp
 .rw[Gv _ he]at hE hL;have T:uq n p.2.2.1 o d t=l++[(u,v,-1,-1)]:=hL;have eG:Iq n p o d t=o9 n p.1 l:=by unfold Iq;rw[T,List.dropLast_concat]
  have eT:uo n p o d t=v:=by unfold uo;rw[T];simp
  have hE':i9 n p.2.2.1 o d t=0:=hE;rw[hE',eG,eT];exact⟨rfl,rfl,by omega,rfl⟩
def VU(c:Int×List Bool×Li)(m till:Int): Nat->Int->Li
 | 0,_=>[]
 | f+1,t=>if my c m t=0 then if ik c m t<till then ik c m t::VU c m till f (ik c m t+1)else[]else[]
def VT(p:Plan): Nat:=(1440*(p.2.1-p.1)).toNat+1
def P2(n:Net)(p:Plan)(c o:Int)(f:Nat)(t:Int): Li:=VU (aB n o) (bE n c).2.1 (1440*p.2.1) f t
def ku(n:Net)(p:Plan)(c o:Int): Li:=P2 n p c o (VT p) (1440*p.1)
def tR(n:Net)(p:Plan)(c o:Int): Prop:=mx n o/\C5 n c/\mF p=true
def wm(n:Net)(p:Plan)(c o:Int)(x:Nat×Int): Prop:=(1440*p.1+x.1<=x.2/\x.2<=1440*p.2.1)/\x.1<=(ku n p c o).length/\(ku n p c o).drop x.1=P2 n p c o (VT p-x.1) x.2
def aEn: AV->AV
 | .pin u a=>.pin u a
 | .yld l=>.yld l
 | _=>.top
def ZZ(n:Net)(p:Plan)(c o:Int): Gu:=⟨λid y=>match id with
 | 1=>some {α:=Nat×Int,inv:=λx=>wm n p c o x,st:=λx=>⟨put {y.s with tm:=y.s.tm.map aEn} [(5,.dat I x.2)],x.1,true⟩,μ:=λx=>Dc (Dh (Dq (Ee 1440 p.2.1) 1) x.2)}
 | _=>none,λ_ _=>none,λid=>id==2⟩
theorem Qm(c o:Int)(n:Net)(p:Plan)(V:
 let c6:=n.2.1;let c5:=p.2.1;let c4:=n.2.2.1;let c3:=p.2.2;let c1:=n.2.2.2;let c2:=1440*p.1;let G:=(aB n o);let A:=(Du c1.2.2 (Dc c) (ByteArray.mk #[],(0:Int),(0:Int))).2.1;let z:=1440*c5;let T:=ku n p c o;let v:=Dk T;let f:=z+1;true/\true/\false=false/\∀(l:Nat) (u:Nat->Value),tR n p c o->inR .i64 c2/\(∃(x:Nat×Int),wm n p c o x/\(l=l/\u 0=u 0/\n.1=n.1/\c6=c6/\c4=c4/\c1.1=c1.1/\c1.2.1=c1.2.1/\c1.2.2=c1.2.2/\p.1=p.1/\c5=c5/\c3.1=c3.1/\c3.2=c3.2/\u 1=u 1/\o=o/\u 2=u 2/\c=c/\c2=x.2/\True)/\0=x.1/\true)/\∀(x:Nat×Int),let O:=Ec (my G A x.2) 0;let e:=Di O;let c7:=e->e->e;let r:=ik G A x.2;let j:=Ea O true (Ed r z);let b:=Di j;let X:=Dj true b->b;let L:=Ea j true (Di true);let i:=x.1+1;let g:=r+1;let h:=Ea j true (Di false);
 wm n p c o x->mx n o/\0<=c/\c<Df c1.2.2/\zy G A x.2/\c7/\c7/\c7/\c7/\c7/\(e->inR .i64 z)/\c7/\c7/\(Dj true e->e)/\(b->(b->b)/\(b->b)/\u 0=u 0/\u 1=u 1/\u 2=u 2/\l=l/\true/\lC T x.1 r/\(X/\(L->true->i=v)/\(L=false->inR .i64 g/\∃(y:Nat×Int),wm n p c o y/\((l=l/\u 0=u 0/\n.1=n.1/\c6=c6/\c4=c4/\c1.1=c1.1/\c1.2.1=c1.2.1/\c1.2.2=c1.2.2/\p.1=p.1/\c5=c5/\c3.1=c3.1/\c3.2=c3.2/\u 1=u 1/\o=o/\u 2=u 2/\c=c/\g=y.2/\True)/\i=y.1/\true)/\Dc (f-y.2)<Dc (f-x.2)))/\X/\(h->false->i=v)/\(h=false->inR .i64 g/\∃(y:Nat×Int),wm n p c o y/\(False/\i=y.1/\false)/\Dc (f-y.2)<Dc (f-x.2)))/\(b=false->(b->b->b)/\X/\(h->true->x.1=v)/\(h=false->inR .i64 g/\∃(y:Nat×Int),wm n p c o y/\((l=l/\u 0=u 0/\n.1=n.1/\c6=c6/\c4=c4/\c1.1=c1.1/\c1.2.1=c1.2.1/\c1.2.2=c1.2.2/\p.1=p.1/\c5=c5/\c3.1=c3.1/\c3.2=c3.2/\u 1=u 1/\o=o/\u 2=u 2/\c=c/\g=y.2/\True)/\x.1=y.1/\true)/\Dc (f-y.2)<Dc (f-x.2)))):
  evL (mkc KW3) (ZZ n p c o) 206 [.ipv (.ips (wHd n p .top)),.ip I o,.ip I c] ⟨tR n p c o,I,ku n p c o⟩:=oE V
theorem Xl (c o : Int) (n : Net) (p : Plan) : Gs Tryz.prog G0 206 [.ipv (.ips (wHd n p .top)), .ip I o, .ip I c] ⟨tR n p c o, I, ku n p c o⟩ := by
  refine E0 (c := mkc KW3) (A := ZZ n p c o) ZT aK hm (Qm c o n p ⟨rfl, rfl, rfl, fun l u ⟨hoff, hcl, hR⟩ => ?_⟩)
  have eN : (n.1, n.2.1, n.2.2.1, n.2.2.2.1, n.2.2.2.2.1, n.2.2.2.2.2) = n := rfl
  have eC : ∀ c : Int × List Bool × Li, (c.1, c.2.1, c.2.2) = c := fun _ => rfl
  have eK : n.2.2.2.2.2.getD c.toNat (⟨#[]⟩, 0, 0) = bE n c := rfl
  have hR' : 0 ≤ p.1 ∧ p.1 < p.2.1 ∧ p.2.1 ≤ 600 ∧ p.2.1 - p.1 ≤ 60 := vO hR
  have hv : ax (aB n o).1 (aB n o).2.1 (aB n o).2.2 = true := (gb n.1 n.2.1 n.2.2.1 n.2.2.2.1 n.2.2.2.2.1 n.2.2.2.2.2 hoff).2.2.1
  obtain ⟨⟨m0, m1⟩, _⟩ := tY n.1 n.2.1 n.2.2.1 n.2.2.2.1 n.2.2.2.2.1 n.2.2.2.2.2 hoff.1 hcl
  have m0 : 0 ≤ (bE n c).2.1 := m0
  have m1 : (bE n c).2.1 ≤ 1439 := m1
  simp only [qc, Dj, Es, Di, qd, Dt, Eb, Ec, Dp, Eh, Ei, Ed, Ey, Df, Et, Dl, Dn, Eo, Dy, Dw, Dh, Dq, Ee, Fh, Dc, Dx, Dk, Dz, Ej, Du, Eu, Ez, En, Ef, Fe, Fj, Fg, Ep, Em, Ew, Fb, eN, eC, eK, yA, yD, vX, xH, false_and, and_false, exists_false, imp_false, qCm, reduceCtorEq]
  obtain ⟨q, hq⟩ : ∃ q, q = 1440 * p.1 := ⟨_, rfl⟩
  obtain ⟨r, hr⟩ : ∃ r, r = 1440 * p.2.1 := ⟨_, rfl⟩
  refine ⟨aL (by omega), ⟨(0, 1440 * p.1), ⟨⟨by simp only; omega, by simp only; omega⟩, wZ _, rfl⟩, rfl, rfl⟩, ?_⟩
  rintro ⟨k, t⟩ ⟨⟨t0, t1⟩, k1, hk⟩
  simp only at t0 t1 k1 hk ⊢
  have hU : VT p - k = (VT p - (k + 1)) + 1 := by unfold VT; omega
  have hst : P2 n p c o (VT p - k) t = if my (aB n o) (bE n c).2.1 t = 0 then if ik (aB n o) (bE n c).2.1 t < 1440 * p.2.1 then ik (aB n o) (bE n c).2.1 t :: P2 n p c o (VT p - (k + 1)) (ik (aB n o) (bE n c).2.1 t + 1) else [] else [] := by rw [hU]; rfl
  rw [hst] at hk
  have hlen : ∀ {l : Li}, (ku n p c o).drop k = l → (ku n p c o).length = k + l.length := fun h => by
    have := yB List.length h; rw [wC] at this; omega
  refine ⟨hoff, hcl.1, hcl.2, ⟨hv, m0, by omega, by omega, by omega⟩, fun _ => aL (by omega), fun ⟨h1, h2⟩ => ?_, fun h _ => ?_⟩
  · have h2' : ik (aB n o) (bE n c).2.1 t < 1440 * p.2.1 := by omega
    obtain ⟨b1, b2⟩ := lF hv h1 m0 m1
    rw [if_pos h1, if_pos h2'] at hk
    have hl := hlen hk
    rw [vU] at hl
    refine ⟨?_, fun h => absurd h (by omega), fun _ => ⟨aL (by omega), (k + 1, ik (aB n o) (bE n c).2.1 t + 1), ⟨⟨by simp only; omega, by simp only; omega⟩, by simp only; omega, ?_⟩, ⟨rfl, rfl⟩, by simp only; omega⟩⟩
    · show (ku n p c o)[k]? = some _
      have := yB (fun l => l[0]?) hk
      simpa [qY] using this
    · show (ku n p c o).drop (k + 1) = _
      have := yB (List.drop 1) hk
      rwa [yK] at this
  · have : (ku n p c o).drop k = [] := by
      rw [hk]
      by_cases h1 : my (aB n o) (bE n c).2.1 t = 0
      · rw [if_pos h1, if_neg (by omega)]
      · rw [if_neg h1]
    have hl := hlen this
    rw [yL] at hl
    omega
theorem OM{n:Net}{p:Plan}{c o:Int}(h:tR n p c o): (ku n p c o).length<=86401:=by
 have g:0<=p.1/\p.1<p.2.1/\p.2.1<=600/\p.2.1-p.1<=60:=vO h.2.2;have:∀(f:Nat) (t:Int),(P2 n p c o f t).length<=f:=λf=>by
  induction f with
  | zero=>intro t;exact qJ _
  | succ f b=>
   intro t;have e:P2 n p c o (f+1) t=if my (aB n o) (bE n c).2.1 t=0 then if ik (aB n o) (bE n c).2.1 t<1440*p.2.1 then ik (aB n o) (bE n c).2.1 t::P2 n p c o f (ik (aB n o) (bE n c).2.1 t+1)else[]else[]:=rfl
   rw[e];split
   .split
    .rw[vU];exact qBz (b _)
    .exact wZ _
   .exact wZ _
 refine wL (this _ _) ?_;unfold VT;omega
theorem OL{n:Net}{p:Plan}{c o x:Int}(h:tR n p c o)(j:x∈ku n p c o): 1440*p.1<=x/\x<1440*p.2.1:=by
 have r:ax (aB n o).1 (aB n o).2.1 (aB n o).2.2=true:=(gb n.1 n.2.1 n.2.2.1 n.2.2.2.1 n.2.2.2.2.1 n.2.2.2.2.2 h.1).2.2.1;obtain⟨⟨g,b⟩,_⟩:=tY n.1 n.2.1 n.2.2.1 n.2.2.2.1 n.2.2.2.2.1 n.2.2.2.2.2 h.1.1 h.2.1;have g:0<=(bE n c).2.1:=g;have b:(bE n c).2.1<=1439:=b;have:∀(f:Nat) (t:Int),x∈P2 n p c o f t->t<=x/\x<1440*p.2.1:=λf=>by
  induction f with
  | zero=>intro t h;cases h
  | succ f i=>
   intro t h;have e:P2 n p c o (f+1) t=if my (aB n o) (bE n c).2.1 t=0 then if ik (aB n o) (bE n c).2.1 t<1440*p.2.1 then ik (aB n o) (bE n c).2.1 t::P2 n p c o f (ik (aB n o) (bE n c).2.1 t+1)else[]else[]:=rfl
   rw[e]at h;split at h
   .rename_i u;obtain⟨v,y⟩:=lF r u g b;split at h
    .rcases zM.1 h with rfl | h
     .exact⟨v,by assumption⟩
     .have:=i _ h;omega
    .cases h
   .cases h
 exact this _ _ j
def lJ(p:Plan)(k o d:Int): Int:=((p.2.2.2.getD k.toNat []).getD o.toNat []).getD d.toNat 0
def aFa(n:Net)(p:Plan)(o d cut:Int): Int:=aG n d (uo n p o d cut)
def aFg(n:Net)(p:Plan)(c o d cut:Int): Int:=ik (aB n d) (bE n c).2.2 (aFa n p o d cut)
def FP(n:Net)(p:Plan)(c o d cut:Int): Int:=my (aB n d) (bE n c).2.2 (aFa n p o d cut)
def VV(n:Net)(p:Plan)(c o d cut:Int): Int:=oo (aB n d).2.1 (aB n d).2.2 (gQ (aB n d).1 cut) (gQ (aB n d).1 (aFg n p c o d cut))
def C4(n:Net)(p:Plan)(c o d cut:Int): Int:=if i9 n p.2.2.1 o d cut≠0 then i9 n p.2.2.1 o d cut else if FP n p c o d cut≠0 then FP n p c o d cut else if VV n p c o d cut>lJ p c o d then 190 else 0
def HQ(l:Li): Int:=(l.find? λe=>decide (e≠0)).getD 0
def iE(n:Net)(p:Plan)(c o d:Int): Int:=HQ ((ku n p c o).map (C4 n p c o d))
def mZ(n:Net)(p:Plan)(c o d:Int)(j:Nat): Li:=((ku n p c o).take j).flatMap (Iq n p o d)
def keepA(n:Net)(p:Plan)(c o d:Int): Li:=mZ n p c o d (ku n p c o).length
def qw(n:Net)(p:Plan): Prop:=bg n=true/\fw n p=true
def mI(n:Net)(p:Plan)(c o d:Int)(k:Nat)(xs:Li): Prop:=(qw n p/\C5 n c/\mx n o/\mx n d)/\xs.length=k/\xs.length<=900000000000
def pZ(n:Net)(p:Plan)(c o d:Int)(k:Nat)(xs:Li)(j:Nat): Prop:=mI n p c o d k xs/\j<=(ku n p c o).length/\∀i:Nat,i<j->C4 n p c o d ((ku n p c o).getD i 0)=0
def KIW: FuncId->List AV->Option iV:=λf caps=>if f=206+uC then match caps with
  | [.ipv x,.ip (.int .i64) o,.ip (.int .i64) c]=>match asI x with
   | some (n,p)=>some ⟨tR n p c o,I,ku n p c o⟩
   | none=>none
  | _=>none
 else none
def KW6: Kt:=kOr 135 (wK [.mp 2,.val I,.val I,.val I] (λ(_,o,d,t,_) n p k xs=>wN n p o d t k xs/\isZero (i9 n p.2.2.1 o d t)=true) (λ(_,o,d,t,_) n p=>.dat I (uo n p o d t)) λ(_,o,d,t,_) n p=>Iq n p o d t) KW4
def aEX: KPt:=pOr 135 (wP [.mp 2,.val I,.val I,.val I] λ(_,o,d,t,_) n p k xs=>⟨wN n p o d t k xs,isZero (i9 n p.2.2.1 o d t),um 39 (i9 n p.2.2.1 o d t)⟩) aEY
noncomputable def aB5: Cfg:=⟨Tryz.prog,G0,KW6,λ_=>false,KIW,true,aEX,λf=>f==137||f==135⟩
def ZX(n:Net)(p:Plan)(c o d:Int)(k:Nat)(xs:Li): Ann:=⟨λid s=>match id with
 | 2=>some {α:=Nat,inv:=λj=>pZ n p c o d k xs j,st:=λj=>{flat s with mem:=mo n p (Dz (Dk xs) (Dk (mZ n p c o d j))) (Ef xs (mZ n p c o d j))},μ:=λj=>j}
 | _=>none,λ_ _=>none,λ_ _=>none⟩
theorem Qj(c o d:Int)(k:Nat)(xs:Li)(n:Net)(p:Plan)(hvc:
 let c10:=Ty.int IntKind.i64;let c9:=Ty.int .i64;let c7:=n.2.1;let c6:=p.2.1;let c5:=n.2.2.1;let c4:=p.2.2;let c3:=n.2.2.2;let c8:=AV.ips [AV.dat (c9.pair (Ty.bool.sl.pair c9.sl)).sl n.1,AV.dat Ty.str.sl c7,AV.dat Ty.str.sl c5,AV.dat (Ty.str.pair (c9.pair (c9.pair (c9.pair (c9.pair (c10.pair Ty.str.sl)))))).sl c3.1,AV.dat (Ty.str.pair (c9.pair (c9.pair (c9.pair (c10.pair c9))))).sl c3.2.1,AV.dat (Ty.str.pair (c9.pair c9)).sl c3.2.2,AV.dat c9 p.1,AV.dat c9 c6,AV.dat c9.sl.sl c4.1,AV.dat c9.sl.sl.sl c4.2,AV.top];let c1:=keepA n p c o d;let c2:=Ef xs c1;let c21:=ku n p c o;let c22:=iE n p c o d;let h:=isZero c22;let v:=chainOf (Value.iface 39 (Value.int .i64 c22));let b:=aB n d;let g:=(Du c3.2.2 (Dc c) (ByteArray.mk #[],(0:Int),(0:Int))).2.2;let c32:=Du c4.2 (Dc c) (Dt (Li));let c33:=Du c32 (Dc o) [];true/\(mI n p c o d k xs->1=1/\Dk xs<=Dk c2/\True/\true/\(∀(x:Nat),pZ n p c o d k xs x->some [c8.ipv,AV.ip c9 o,AV.ip c9 c]=some [c8.ipv,AV.ip c9 o,AV.ip c9 c])/\tR n p c o/\(∃x,let c34:=mZ n p c o d x;pZ n p c o d k xs x/\x=0/\1=1/\0=0/\0=0/\c=c/\o=o/\d=d/\1=1/\0=0/\0=0/\c=c/\o=o/\d=d/\1=1/\0=0/\0=0/\c=c/\o=o/\1=1/\0=0/\0=0/\o=o/\c=c/\n.1=n.1/\c7=c7/\c5=c5/\c3.1=c3.1/\c3.2.1=c3.2.1/\c3.2.2=c3.2.2/\p.1=p.1/\c6=c6/\c4.1=c4.1/\c4.2=c4.2/\k=Dk xs+Dk c34/\xs=Ef xs c34/\1=1/\Dk xs=Dk xs/\True)/\(∀(x:Nat),let c35:=mZ n p c o d x;let u:=Dk xs+Dk c35;let f:=Ef xs c35;∀(y:Int),let c38:=i9 n c4.1 o d y;let r:=isZero c38;let Z:=Iq n p o d y;let X:=Ef f Z;let j:=uo n p o d y;let e:=aG n d j;let V:=my b g e;
 let i:=isZero V;let T:=ik b g e;let O:=gQ b.1 T;let L:=Eh (oo b.2.1 b.2.2 (gQ b.1 y) O) (Du c33 (Dc d) 0);pZ n p c o d k xs x->lC c21 x y->(true->wN n p o d y u f/\(r=false->h=false/\true/\chainOf (Value.iface 39 (Value.int .i64 c38))=v))/\((true->r)->(wN n p o d y u f/\r)/\1=1/\Dk f<=Dk X/\mx n d/\1=1/\0=0/\1=1/\0=0/\1=1/\1=1/\1=1/\1=1/\0=0/\0<=c/\c<Df c3.2.2/\fk n d j/\zy b g e/\True/\(i->1=1/\0=0/\1=1/\1=1/\1=1/\1=1/\0=0/\0<=c/\c<Df c3.2.2/\fk n d j/\zy b g e/\(True/\i)/\1=1/\0=0/\fW b.1 b.2.1 b.2.2 y/\1=1/\0=0/\fW b.1 b.2.1 b.2.2 T/\1=1/\0=0/\countP b.1 b.2.1 b.2.2 (gQ b.1 y) O/\1=1/\1=1/\1=1/\1=1/\0=0/\0<=c/\c<Df c4.2/\0<=o/\o<Df c32/\0<=d/\d<Df c33/\(L->(true->True/\(false=false->h=false/\true/\chainOf (Value.iface 39 (Value.int .i64 (190:Int)))=v))/\True)/\(L=false->∃z,let G:=mZ n p c o d z;pZ n p c o d k xs z/\z=x+1/\1=1/\0=0/\0=0/\c=c/\o=o/\d=d/\1=1/\0=0/\0=0/\c=c/\o=o/\d=d/\1=1/\0=0/\0=0/\c=c/\o=o/\1=1/\0=0/\0=0/\o=o/\c=c/\n.1=n.1/\c7=c7/\c5=c5/\c3.1=c3.1/\c3.2.1=c3.2.1/\c3.2.2=c3.2.2/\p.1=p.1/\c6=c6/\c4.1=c4.1/\c4.2=c4.2/\u+Dk Z=Dk xs+Dk G/\X=Ef xs G/\1=1/\Dk xs=Dk xs/\True))/\(i=false->h=false/\true/\chainOf (Value.iface 39 (Value.int .i64 V))=v)))/\∀(x:Nat),let A:=mZ n p c o d x;pZ n p c o d k xs x->x=Dk c21->h/\n.1=n.1/\c7=c7/\c5=c5/\c3.1=c3.1/\c3.2.1=c3.2.1/\c3.2.2=c3.2.2/\p.1=p.1/\c6=c6/\c4.1=c4.1/\c4.2=c4.2/\Dk xs+Dk A=k+Dk c1/\Ef xs A=c2/\1=1/\Dk xs=Dk xs/\True)):
  evM aB5 (ZX n p c o d k xs) 68 [.ptr 2 1 0 0,.dat I c,.dat I o,.dat I d] (mo n p k xs) (.tup []) (mo n p (Dz k (Dk (keepA n p c o d))) (Ef xs (keepA n p c o d))) ⟨mI n p c o d k xs,isZero (iE n p c o d),um 39 (iE n p c o d)⟩:=oE hvc
theorem yz{l:Li}{j:Nat}(b:j<l.length)(f:∀i:Nat,i<j->l.getD i 0=0)(e:l.getD j 0≠0): HQ l=l.getD j 0:=by
 induction l generalizing j with
 | nil=>simp at b
 | cons x l g=>
  unfold HQ;rw[qBj];cases j with
  | zero=>
   have:x≠0:=e;rw[qW this];rfl
  | succ j=>
   have h:x=0:=f 0 (by omega);rw[vV (by rw[h];decide)];exact g (by simpa using b) (λi hi=>by simpa using f (i+1) (by omega)) (by simpa using e)
theorem tJ{l:Li}(h:∀i:Nat,i<l.length->l.getD i 0=0): HQ l=0:=by
 unfold HQ;have:l.find? (λe=>decide (e≠0))=none:=by
  rw[qCk];intro x b;obtain⟨i,hi,rfl⟩:=wY.1 b;have:=h i hi;rw[qA,qB hi,qP]at this;simp[this]
 rw[this];rfl
theorem me{l:Li}(h:HQ l=0): ∀x∈l,x=0:=by
 intro x r;obtain⟨i,hi,rfl⟩:=wY.1 r;induction i using Nat.strongRecOn with
 | ind i g=>
  have e:∀j (f:j<l.length),l.getD j 0=l[j]:=λj f=>by rw[qA,qB f,qP]
  rw[<- e i hi];refine Decidable.byContradiction λb=>?_
  have:=yz hi (λj f=>by rw[e j (by omega)];exact g j f (by omega) (wE _)) b;exact b (this.symm.trans h)
theorem gP{n:Net}{p:Plan}(h:fw n p=true): mF p=true/\mO n p.2.2.1=true/\pz n p=true:=by
 unfold fw at h;simpa only[qC]using h
theorem OI{n:Net}{p:Plan}(h:pz n p=true){c o d:Int}(g:C5 n c)(x:0<=o)(v:o<n.2.2.2.1.length)(A:0<=d)(z:d<n.2.2.2.1.length):
  (c<p.2.2.2.length/\o<(p.2.2.2.getD c.toNat []).length/\d<((p.2.2.2.getD c.toNat []).getD o.toNat []).length)/\-1<=lJ p c o d/\lJ p c o d<=65518:=by
 obtain⟨c0,c1⟩:=g;unfold pz at h;simp only[qC,qE,qN]at h;obtain⟨y,u⟩:=h;have e:=u _ (getD_mem (l:=p.2.2.2) (i:=c.toNat) (d:=[]) (by omega));have r:((p.2.2.2.getD c.toNat []).length:Int)=n.2.2.2.1.length:=by
  unfold sgF at e;simp only[qC,qE]at e;exact e.1
 have b:=(AA r).1 e o.toNat (by omega);have j:(((p.2.2.2.getD c.toNat []).getD o.toNat []).length:Int)=n.2.2.2.1.length:=by
  unfold sgR at b;simp only[qC,qE]at b;exact b.1
 have f:fY ((o.toNat:Nat):Int) (lJ p c o d)=true:=(DL j).1 b d.toNat (by omega);unfold fY tQ at f;rw[qE]at f;exact⟨⟨by omega,by omega,by omega⟩,f⟩
theorem C9{n:Net}{nx:Lj}{to:Int}: ∀(k:Nat) (o t:Int),Gw n nx o to t->(kt n nx to k o t).2=0->
  (kt n nx to k o t).1.length<=k+1/\(kt n nx to k o t).1≠[]/\t<=((kt n nx to k o t).1.getLastD (0,0,0,0)).2.1/\((kt n nx to k o t).1.getLastD (0,0,0,0)).2.1<=2200000
 | k,o,t,T,h=>by
  obtain⟨A,z,u0,r,v,u,Z,G⟩:=id T;by_cases f:o=to
  .rw[Gv k f];exact⟨by simp,by simp,qL _,G⟩
  by_cases hm:nxt nx o to=-1
  .rw[nu k f hm]at h;cases h
  by_cases g:rz n (nxt nx o to) (aG n o t)=0
  case neg=>rw[rH k f hm g]at h;exact absurd h g
  cases k with
  | zero=>rw[ri f hm g]at h;cases h
  | succ k=>
   have e:noF n=true:=bD n.1 n.2.1 n.2.2.1 n.2.2.2.1 n.2.2.2.2.1 n.2.2.2.2.2 A;obtain⟨_,_,c3⟩:(nx.length:Int)=n.2.2.2.1.length/\((nx.getD o.toNat []).length:Int)=n.2.2.2.1.length/\(nxt nx o to≠-1->(0<=nxt nx o to/\nxt nx o to<n.2.2.2.2.1.length)/\cV n (nxt nx o to)=o):=gm n.1 n.2.1 n.2.2.1 n.2.2.2.1 n.2.2.2.2.1 n.2.2.2.2.2 z u0 r v u;obtain⟨⟨O,L⟩,lf⟩:=c3 hm;have b:NP n (nxt nx o to):=⟨e,O,L⟩
   obtain⟨g1,g2,X,V,g5,g6,g7,g8⟩:0<=cV n (nxt nx o to)/\cV n (nxt nx o to)<n.2.2.2.1.length/\0<=HC n (nxt nx o to)/\HC n (nxt nx o to)<n.2.2.2.1.length/\0<=Jn n (nxt nx o to)/\Jn n (nxt nx o to)<=1439/\1<=iM n (nxt nx o to)/\iM n (nxt nx o to)<=5000:=BA n.1 n.2.1 n.2.2.1 n.2.2.2.1 n.2.2.2.2.1 n.2.2.2.2.2 b
   obtain⟨b1,b2,b3,b4⟩:0<=aG n o t/\aG n o t<=2000000/\aG n o t<=tO n (nxt nx o to) (aG n o t)/\tO n (nxt nx o to) (aG n o t)<=aG n o t+90000:=wi n.1 n.2.1 n.2.2.1 n.2.2.2.1 n.2.2.2.2.1 n.2.2.2.2.2 b g
   obtain⟨_,_,r1,r2⟩:inR .i64 ((bR n o).2.2.2.2.1*(bR n o).2.2.2.2.2.1)/\inR .i64 (aG n o t)/\t<=aG n o t/\aG n o t<=t+960:=sB n.1 n.2.1 n.2.2.1 n.2.2.2.1 n.2.2.2.2.1 n.2.2.2.2.2 ⟨⟨e,u0,r⟩,by omega,by omega⟩;rw[rh k f hm g]at h ⊢;by_cases j:(kt n nx to k (HC n (nxt nx o to)) (tO n (nxt nx o to) (aG n o t)+iM n (nxt nx o to))).2=0
   case neg=>rw[Hk j]at h;exact absurd h j
   obtain⟨i1,i,y,x⟩:=C9 k _ _ ⟨A,z,X,V,v,u,by omega,by omega⟩ j;rw[Yl j];refine⟨by simp;omega,by simp,?_,?_⟩
   .show t<=(([_]++(kt n nx to k _ _).1).getLastD (0,0,0,0)).2.1;rw[List.singleton_append,List.getLastD_cons,kH,kR i];rw[kH,kR i]at y;simp only[qP]at y ⊢;omega
   .show(([_]++(kt n nx to k _ _).1).getLastD (0,0,0,0)).2.1<=_;rw[List.singleton_append,List.getLastD_cons,kH,kR i];rw[kH,kR i]at x;exact x
theorem Gx{n:Net}{p:Plan}{o d t:Int}(b:Gw n p.2.2.1 o d t)(h:i9 n p.2.2.1 o d t=0): (Iq n p o d t).length<=19/\t<=uo n p o d t/\uo n p o d t<=2200000:=by
 obtain⟨g,_,f,e⟩:=C9 19 o t b h;refine⟨?_,f,e⟩;unfold Iq o9;rw[vG,List.length_dropLast];show(kt n p.2.2.1 d 19 o t).1.length-1<=19;omega
theorem OJ{n:Net}{p:Plan}{c o d x:Int}(e:qw n p)(b:tR n p c o)(hd:mx n d)(f:x∈ku n p c o): Gw n p.2.2.1 o d x:=by
 obtain⟨i,h⟩:=OL b f;have g:0<=p.1/\p.1<p.2.1/\p.2.1<=600/\p.2.1-p.1<=60:=vO b.2.2;exact⟨e.1,(gP e.2).2.1,b.1.2.1,b.1.2.2,hd.2.1,hd.2.2,by omega,by omega⟩
theorem Uw{n:Net}{p:Plan}{c o d x:Int}(h:C4 n p c o d x=0): i9 n p.2.2.1 o d x=0/\FP n p c o d x=0/\VV n p c o d x<=lJ p c o d:=by
 unfold C4 at h;by_cases e:i9 n p.2.2.1 o d x=0
 .rw[if_neg (λg=>g e)]at h;by_cases b:FP n p c o d x=0
  .rw[if_neg (λg=>g b)]at h;split at h
   .cases h
   .exact⟨e,b,by omega⟩
  .rw[if_pos b]at h;exact absurd h b
 .rw[if_pos e]at h;exact absurd h e
theorem tn{n:Net}{p:Plan}{c o d:Int}{k:Nat}{xs:Li}: ∀{j:Nat},pZ n p c o d k xs j->(mZ n p c o d j).length<=19*j
 | 0,_=>by unfold mZ;simp
 | j+1,⟨b,h,e⟩=>by
  have f:=tn (j:=j) ⟨b,by omega,λi hi=>e i (by omega)⟩;have g:tR n p c o:=⟨b.1.2.2.1,b.1.2.1,(gP b.1.1.2).1⟩;have hm:(ku n p c o).getD j 0∈ku n p c o:=getD_mem (by omega);have:=(Gx (OJ b.1.1 g b.1.2.2.2 hm) (Uw (e j (by omega))).1).1;unfold mZ at f ⊢;rw[wO,kT,qF,qB (show j<(ku n p c o).length by omega)];rw[qA,qB (show j<(ku n p c o).length by omega),qP]at this;simp only[qBn,kP,qBc,wH];omega
theorem aF8: aj Tryz.prog G0 KW6:=ai (Qb λ(_,o,d,t,_) n p k xs=>(Vj o d t k xs n p).1) aCY
theorem PG: bH Tryz.prog G0 aEX:=hC (Z3 λ(_,o,d,t,_) n p k xs=>(Vj o d t k xs n p).2) PH
theorem ZC{P:Program}{G:List (Nat×AV)}{g N:Nat}{caps:List AV}{it:iV}(h:Gs P G g caps it): if g+N<N then mA P G (g+N) caps it else Gs P G (g+N-N) caps it:=by
 rw[if_neg (by omega),Nat.add_sub_cancel];exact h
theorem aCr: bm Tryz.prog G0 KIW:=by
 unfold bm KIW;generalize uC=N;intro f caps it h;split at h
 case isFalse=>cases h
 rename_i e;split at h
 case h_2=>cases h
 rename_i x o c;split at h
 case h_2=>cases h
 rename_i n p b;cases h;subst e;rw[V1 b];exact ZC (Xl c o n p)
theorem LN(c o d:Int)(k:Nat)(xs:Li)(n:Net)(p:Plan): af Tryz.prog G0 68 [.ptr 2 1 0 0,.dat I c,.dat I o,.dat I d] (mo n p k xs) ⟨mI n p c o d k xs/\isZero (iE n p c o d)=true,.tup [],mo n p (Dz k (Dk (keepA n p c o d))) (Ef xs (keepA n p c o d))⟩/\
  cL Tryz.prog G0 68 [.ptr 2 1 0 0,.dat I c,.dat I o,.dat I d] (mo n p k xs) ⟨mI n p c o d k xs,isZero (iE n p c o d),um 39 (iE n p c o d)⟩:=by
 refine b9 (c:=aB5) aF8 aCr hm PG (Qj c o d k xs n p ⟨rfl,λhp=>?_⟩);have eN:(n.1,n.2.1,n.2.2.1,n.2.2.2.1,n.2.2.2.2.1,n.2.2.2.2.2)=n:=rfl;have eP:(p.1,p.2.1,p.2.2.1,p.2.2.2)=p:=rfl;have eC:∀c:Int×List Bool×Li,(c.1,c.2.1,c.2.2)=c:=λ_=>rfl
 have eK:n.2.2.2.2.2.getD c.toNat (⟨#[]⟩,0,0)=bE n c:=rfl;have eA:((p.2.2.2.getD c.toNat []).getD o.toNat []).getD d.toNat 0=lJ p c o d:=rfl;simp only[qc,Dj,Es,Di,qd,Dt,Eb,Ec,Dp,Eh,Ei,Ed,Ey,Df,Et,Dl,Dn,Eo,Dy,Dw,Dh,Dq,Ee,Fh,Dc,Dx,Dk,Dz,Ej,Du,Eu,Ez,En,Ef,Fe,Fj,Fg,Ep,Em,Ew,Fb,eN,eP,eC,eK,eA];obtain⟨⟨T,b,ho,hd⟩,hk,hxl⟩:=id hp;obtain⟨hR,hT,hDy⟩:=gP T.2;have hc:tR n p c o:=⟨ho,b,hR⟩
 have hR':0<=p.1/\p.1<p.2.1/\p.2.1<=600/\p.2.1-p.1<=60:=vO hR;have hlen:=OM hc;have A:ax (aB n d).1 (aB n d).2.1 (aB n d).2.2=true:=(gb n.1 n.2.1 n.2.2.1 n.2.2.2.1 n.2.2.2.2.1 n.2.2.2.2.2 hd).2.2.1;obtain⟨⟨z1,z2,_,_⟩,_⟩:=cA.1 A;obtain⟨_,⟨Z,m1⟩⟩:=tY n.1 n.2.1 n.2.2.1 n.2.2.2.1 n.2.2.2.2.1 n.2.2.2.2.2 hd.1 b;have Z:0<=(bE n c).2.2:=Z;have m1:(bE n c).2.2<=1439:=m1
 obtain⟨⟨q1,q2,q3⟩,q4⟩:=OI hDy b ho.2.1 ho.2.2 hd.2.1 hd.2.2;have v:∀(x:Nat),pZ n p c o d k xs x->x<(ku n p c o).length->C4 n p c o d ((ku n p c o).getD x 0)≠0->iE n p c o d=C4 n p c o d ((ku n p c o).getD x 0):=λx u V hne=>by
  have eg:∀i:Nat,i<(ku n p c o).length->((ku n p c o).map (C4 n p c o d)).getD i 0=C4 n p c o d ((ku n p c o).getD i 0):=λi hi=>by
   rw[qA,qO,qA,qB hi];rfl
  unfold iE;rw[yz (j:=x) (by rw[vG];exact V) (λi hi=>by rw[eg i (by omega)];exact u.2.2 i hi) (by rw[eg x V];exact hne),eg x V]
 refine⟨by rw[qF];omega,hc,⟨0,⟨hp,wZ _,λi hi=>by omega⟩,rfl,by rw[hk];rfl,(wH _).symm⟩,λx y u z=>?_,λx u V=>?_⟩
 .have z:(ku n p c o)[x]?=some y:=z;have r:x<(ku n p c o).length:=(qG.1 z).1;have ey:(ku n p c o).getD x 0=y:=by rw[qA,z];rfl
  have L:y∈ku n p c o:=zI z;have v:=v x u r;rw[ey]at v;obtain⟨y0,y1⟩:=OL hc L;have hgl:=tn u;have O:=OJ T hc hd L;have hW:wN n p o d y (xs.length+(mZ n p c o d x).length) (xs++mZ n p c o d x):=⟨O,⟨by omega,by omega⟩,by rw[qF],by rw[qF];omega⟩;refine⟨⟨hW,λG=>?_⟩,λG=>?_⟩
  .have f:=eW.1 G;have e:C4 n p c o d y=i9 n p.2.2.1 o d y:=if_pos f;rw[v (by rw[e];exact f),e];exact⟨G,rfl⟩
  .have f:=cN.1 G;obtain⟨_,w1,w2⟩:=Gx O f;have hr:fk n d (uo n p o d y):=⟨hd,by omega,by omega⟩;obtain⟨_,_,r1,r2⟩:inR .i64 ((bR n d).2.2.2.2.1*(bR n d).2.2.2.2.2.1)/\inR .i64 (aG n d (uo n p o d y))/\uo n p o d y<=aG n d (uo n p o d y)/\aG n d (uo n p o d y)<=uo n p o d y+960:=sB n.1 n.2.1 n.2.2.1 n.2.2.2.1 n.2.2.2.2.1 n.2.2.2.2.2 hr
   have hf:zy (aB n d) (bE n c).2.2 (aG n d (uo n p o d y)):=⟨A,Z,by omega,by omega,by omega⟩;refine⟨⟨hW,G⟩,by simp only[qF];omega,hd,b.1,b.2,hr,hf,λX=>?_,λX=>?_⟩
   .have h:=cN.1 X;obtain⟨b1,b2⟩:=lF A h Z m1;have dB:∀t:Int,0<=t->t<=3000000->bT (gQ (aB n d).1 t)=true:=λt t0 t1=>js (by unfold gQ;omega) (by unfold gQ;omega)
    refine⟨b.1,b.2,hr,hf,X,⟨A,by omega,by omega⟩,⟨A,by omega,by omega⟩,⟨A,dB _ (by omega) (by omega),dB _ (by omega) (by omega)⟩,b.1,q1,ho.2.1,q2,hd.2.1,q3,λhgt=>?_,λhle=>?_⟩
    .have e:C4 n p c o d y=190:=by
      unfold C4;rw[if_neg (λg=>g f),if_neg (λg=>g (show FP n p c o d y=0 from h)),if_pos (show VV n p c o d y>lJ p c o d from hgt)]
     rw[v (by rw[e];decide),e];exact⟨rfl,rfl⟩
    .have e:C4 n p c o d y=0:=by
      unfold C4;rw[if_neg (λg=>g f),if_neg (λg=>g (show FP n p c o d y=0 from h)),if_neg (show ¬VV n p c o d y>lJ p c o d from hle)]
     have eG:mZ n p c o d (x+1)=mZ n p c o d x++Iq n p o d y:=by
      unfold mZ;rw[wO,z,kT];simp
     refine⟨x+1,⟨hp,r,λi hi=>?_⟩,rfl,by rw[eG,qF];omega,by rw[eG,wM]⟩;by_cases h3:i<x
     .exact u.2.2 i h3
     .have:i=x:=by omega
      rw[this,ey];exact e
   .have h:=eW.1 X;have e:C4 n p c o d y=FP n p c o d y:=by
     unfold C4;rw[if_neg (λg=>g f),if_pos (show FP n p c o d y≠0 from h)]
    rw[v (by rw[e];exact h),e];exact⟨X,rfl⟩
 .have e:iE n p c o d=0:=by
   unfold iE;refine tJ λi hi=>?_
   rw[vG]at hi;rw[qA,qO,qB hi];have:=u.2.2 i (by omega);rw[qA,qB hi]at this;exact this
  rw[e,V];exact⟨rfl,by rw[hk];rfl,rfl⟩
def up1(r:Li): Li:=upR r 1 (r.length:Int)
def h4N(n:Net)(p:Plan): Li:=[p.1,p.2.1,n.2.2.2.1.length,n.2.2.2.2.2.length]
def h1N(n:Net)(p:Plan)(j:Int): Li:=h4N n p++(p.2.2.1.take j.toNat).flatMap up1
def h2N(n:Net)(p:Plan)(i:Int): Li:=h1N n p p.2.2.1.length++(p.2.2.2.take i.toNat).flatMap λt=>t.flatMap up1
def h3N(n:Net)(p:Plan)(i j:Int): Li:=h2N n p i++((p.2.2.2.getD i.toNat []).take j.toNat).flatMap up1
def hdN(n:Net)(p:Plan): Li:=h2N n p p.2.2.2.length
def zk(n:Net)(p:Plan)(c o d:Int): Li:=if lJ p c o d=-1 then[]else keepA n p c o d
def Vt(n:Net)(p:Plan)(c o:Int)(k:Nat): Li:=(List.range k).flatMap λd:Nat=>zk n p c o (d:Int)
def Vi(n:Net)(p:Plan)(c:Int)(k:Nat): Li:=(List.range k).flatMap λo:Nat=>Vt n p c (o:Int) ((p.2.2.2.getD c.toNat []).getD o []).length
def Zp(n:Net)(p:Plan)(k:Nat): Li:=(List.range k).flatMap λc:Nat=>Vi n p (c:Int) (p.2.2.2.getD c []).length
def FZ(n:Net)(p:Plan)(c o d:Int): Int:=if lJ p c o d=-1 then 0 else iE n p c o d
def ZK(n:Net)(p:Plan)(c o:Int)(k:Nat): Int:=HQ ((List.range k).map λd:Nat=>FZ n p c o (d:Int))
def Xg(n:Net)(p:Plan)(c:Int)(k:Nat): Int:=HQ ((List.range k).map λo:Nat=>ZK n p c (o:Int) ((p.2.2.2.getD c.toNat []).getD o []).length)
def P7(n:Net)(p:Plan)(k:Nat): Int:=HQ ((List.range k).map λc:Nat=>Xg n p (c:Int) (p.2.2.2.getD c []).length)
def EE(n:Net)(p:Plan): Li:=hdN n p++Zp n p p.2.2.2.length
def k1N(n:Net)(p:Plan)(c:Int): Li:=hdN n p++Zp n p c.toNat
def k2N(n:Net)(p:Plan)(c o:Int): Li:=k1N n p c++Vi n p c o.toNat
def k3N(n:Net)(p:Plan)(c o d:Int): Li:=k2N n p c o++Vt n p c o d.toNat
def wrE(n:Net)(p:Plan): Int:=if bg n=true/\fw n p=true then if P7 n p p.2.2.2.length≠0 then P7 n p p.2.2.2.length else if(EE n p).length>40000 then 2 else 0 else 1
def wrN(n:Net)(p:Plan): Li:=if wrE n p=0 then EE n p else[]
def wrS(n:Net)(p:Plan): Int:=if wrE n p=0 then Go.Eng.In.mR (EE n p)else 0
def tA(n:Net)(p:Plan)(k:Int): Prop:=qw n p/\0<=k/\k<=p.2.2.1.length
def tB(n:Net)(p:Plan)(i:Int): Prop:=qw n p/\0<=i/\i<=p.2.2.2.length
def tC(n:Net)(p:Plan)(i j:Int): Prop:=(qw n p/\0<=i/\i<p.2.2.2.length)/\0<=j/\j<=(p.2.2.2.getD i.toNat []).length
def t1(n:Net)(p:Plan)(c:Int): Prop:=tB n p c/\P7 n p c.toNat=0
def t2(n:Net)(p:Plan)(c o:Int): Prop:=tC n p c o/\P7 n p c.toNat=0/\Xg n p c o.toNat=0
def t3(n:Net)(p:Plan)(c o d:Int): Prop:=((tC n p c o/\o<(p.2.2.2.getD c.toNat []).length)/\0<=d/\d<=((p.2.2.2.getD c.toNat []).getD o.toNat []).length)/\P7 n p c.toNat=0/\Xg n p c o.toNat=0/\ZK n p c o d.toNat=0
def aBu(l:List Nat)(s:St): St:={s with tm:=(List.range s.tm.length).map λi=>if l.contains i then aAp (s.tm.getD i .top)else .top}
def ZN(s:St)(l:List Nat)(n:Net)(p:Plan)(sl:List (Tmp×AV))(xs:Li): St:=gC (gC (put (aBu ([2,3,4,5,6]++l) s) sl) 2 (.var (wHd n p (.buf 3 (Dk xs))))) 3 (.buf 3 I xs [])
def wrA(n:Net)(p:Plan): Ann:=⟨λid s=>match id with
 | 7=>some {α:=Int,inv:=λj=>tA n p j,st:=λj=>ZN s [53,54] n p [(55,.dat I j)] (h1N n p j),μ:=λj=>Dc (Dh (Df p.2.2.1) j)}
 | 12=>some {α:=Int,inv:=λj=>tB n p j,st:=λj=>ZN s [64,65] n p [(66,.dat I j)] (h2N n p j),μ:=λj=>Dc (Dh (Df p.2.2.2) j)}
 | 15=>match s.sig.T 66,s.sig.T 70 with
  | .dat (.int .i64) i,.dat (.sl (.sl (.int .i64))) t=>some {α:=Int,inv:=λj=>tC n p i j,st:=λj=>ZN s [64,65,66,70,71] n p [(72,.dat I j)] (h3N n p i j),μ:=λj=>Dc (Dh (Df t) j)}
  | _,_=>none
 | 21=>some {α:=Int,inv:=λj=>t1 n p j,st:=λj=>ZN s [82,83] n p [(84,.dat I j)] (k1N n p j),μ:=λj=>Dc (Dh (Df p.2.2.2) j)}
 | 24=>match s.sig.T 84,s.sig.T 89 with
  | .dat (.int .i64) c,.dat (.sl (.sl (.int .i64))) t=>some {α:=Int,inv:=λj=>t2 n p c j,st:=λj=>ZN s [82,83,84,13,89,90] n p [(91,.dat I j)] (k2N n p c j),μ:=λj=>Dc (Dh (Df t) j)}
  | _,_=>none
 | 27=>match s.sig.T 84,s.sig.T 91,s.sig.T 96 with
  | .dat (.int .i64) c,.dat (.int .i64) o,.dat (.sl (.int .i64)) t=>some {α:=Int,inv:=λj=>t3 n p c o j,st:=λj=>ZN s [82,83,84,13,89,90,91,15,96,97] n p [(98,.dat I j)] (k3N n p c o j),μ:=λj=>Dc (Dh (Df t) j)}
  | _,_,_=>none
 | _=>none,λid s=>match id with
 | 5=>some (gC (gC (aBu [2,3,4,5,6] s) 2 (.var (wHd n p (.buf 3 0)))) 3 (.buf 3 I [] []))
 | 36=>some (frz [3] s)
 | _=>none,λ_ _=>none⟩
def KW7: Kt:=kOr 68 (wK [.mp 2,.val I,.val I,.val I] (λ(_,c,o,d,_) n p k xs=>mI n p c o d k xs/\isZero (iE n p c o d)=true) (λ_ _ _=>.tup []) λ(_,c,o,d,_) n p=>keepA n p c o d) <|
 kOr 65 (aw [.ptr N,.ptr Pl] (λ(_,p,_)=>fb p) λ(n,p,_)=>.dat .bool (fw n p)) <|
 kOr 63 JW <|
 kOr 36 (aw [.val R] (λ(l,_)=>Go.Eng.In.PY l) λ(l,_)=>.dat I (Go.Eng.In.mR l)) KW5
def aFG: KPt:=pOr 68 (wP [.mp 2,.val I,.val I,.val I] λ(_,c,o,d,_) n p k xs=>⟨mI n p c o d k xs,isZero (iE n p c o d),um 39 (iE n p c o d)⟩) aEX
def cWr: Cfg:=mkp KW7 (λt=>t==32) aFG (λf=>f==68)
set_option maxHeartbeats 4000000 in
theorem Qe(cs:LC)(ns os:LB)(j:Lo)(ls:Ll)(i:Lk)(p1 p2:Int)(nx:Lj)(f:List (Lj))(hvc:
 let c1:=(p1,p2,nx,f);let c2:=(cs,ns,os,j,ls,i);let c3:=Eh (Df (fa c2)) 0;let c4:=Di c3;let c5:=Ea c3 true (Di (fw c2 c1));let c6:=wrN c2 c1;let c7:=wrS c2 c1;let c8:=wrE c2 c1;let c9:=[p1,p2,Df j,Df i];let c10:=Ef (Dt Int) c9;let e:=Df f;(false=false/\true)/\(fb c1->true/\True/\(c4->fb c1)/\(c4->c4->c4)/\(Dj true c4->c4)/\(c5->(true->True/\(false=false->true/\true/\(Di false->True/\1=1/\0=0/\1=1/\0=0/\1=1/\0=0/\1=1/\0=0/\c6=Dt Int/\0=c7/\1=c8/\True)/\(Di false=false->1=1/\0=0/\1=1/\0=0/\c6=Dt Int/\0=c7/\0=c8/\True)))/\True)/\(c5=false->c2=c2/\c1=c1/\1=1/\0=0/\0=0/\1=1/\0=0/\0=0/\1=1/\0=0/\0=0/\Value.slice none 0 0=Value.slice none 0 0/\(0:Int)=(0:Int)/\(0:Int)=(0:Int)/\cs=cs/\ns=ns/\os=os/\j=j/\ls=ls/\i=i/\p1=p1/\p2=p2/\nx=nx/\f=f/\0=0/\Dt Int=Dt Int/\Dt Int=Dt Int/\1=1/\0=0/\0=0/\1=1/\0=0/\0=0/\1=1/\1=1/\1=1/\1=1/\0=0/\1=1/\1=1/\1=1/\1=1/\0=0/\(ZI [] 0/\Ir [] c9)/\1=1/\Dk (Dt Int)<=Dk c10/\(∃x,tA c2 c1 x/\c1=c1/\1=1/\0=0/\0=0/\1=1/\0=0/\0=0/\1=1/\0=0/\0=0/\nx=nx/\Df nx=Df nx/\0=x/\Value.slice none 0 0=Value.slice none 0 0/\(0:Int)=(0:Int)/\(0:Int)=(0:Int)/\cs=cs/\ns=ns/\os=os/\j=j/\ls=ls/\i=i/\p1=p1/\p2=p2/\nx=nx/\f=f/\0+Dk c9=Dk (h1N c2 c1 x)/\c10=h1N c2 c1 x/\1=1/\0=0/\0=0/\1=1/\0=0/\0=0/\True)/\∀(x:Int),let c12:=Dp x (Df nx);let c13:=Du nx (Dc x) [];let c14:=Dk (h1N c2 c1 x);let c15:=upR c13 1 (Df c13);let c16:=Ef (h1N c2 c1 x) c15;let c17:=x+1;
 tA c2 c1 x->(c12->0<=x/\x<Df nx/\rsP 1 c13 (h1N c2 c1 x) c14/\1=1/\c14<=Dk c16/\inR .i64 c17/\∃y,tA c2 c1 y/\(c1=c1/\1=1/\0=0/\0=0/\1=1/\0=0/\0=0/\1=1/\0=0/\0=0/\nx=nx/\Df nx=Df nx/\c17=y/\Value.slice none 0 0=Value.slice none 0 0/\(0:Int)=(0:Int)/\(0:Int)=(0:Int)/\cs=cs/\ns=ns/\os=os/\j=j/\ls=ls/\i=i/\p1=p1/\p2=p2/\nx=nx/\f=f/\c14+Dk c15=Dk (h1N c2 c1 y)/\c16=h1N c2 c1 y/\1=1/\0=0/\0=0/\1=1/\0=0/\0=0/\True)/\Dc (Df nx-y)<Dc (Df nx-x))/\(c12=false->(∃V,tB c2 c1 V/\c1=c1/\1=1/\0=0/\0=0/\1=1/\0=0/\0=0/\1=1/\0=0/\0=0/\f=f/\e=e/\0=V/\Value.slice none 0 0=Value.slice none 0 0/\(0:Int)=(0:Int)/\(0:Int)=(0:Int)/\cs=cs/\ns=ns/\os=os/\j=j/\ls=ls/\i=i/\p1=p1/\p2=p2/\nx=nx/\f=f/\c14=Dk (h2N c2 c1 V)/\h1N c2 c1 x=h2N c2 c1 V/\1=1/\0=0/\0=0/\1=1/\0=0/\0=0/\True)/\∀(x:Int),let T:=Du f (Dc x) (Dt (Li));let z:=Df T;let c20:=Dk (h2N c2 c1 x);let c21:=x+1;tB c2 c1 x->(Dp x e->0<=x/\x<e/\(∃h,let c22:=h3N c2 c1 x h;tC c2 c1 x h/\c1=c1/\1=1/\0=0/\0=0/\1=1/\0=0/\0=0/\1=1/\0=0/\0=0/\f=f/\e=e/\x=x/\T=T/\z=z/\0=h/\Value.slice none 0 0=Value.slice none 0 0/\(0:Int)=(0:Int)/\(0:Int)=(0:Int)/\cs=cs/\ns=ns/\os=os/\j=j/\ls=ls/\i=i/\p1=p1/\p2=p2/\nx=nx/\f=f/\c20=Dk c22/\h2N c2 c1 x=c22/\1=1/\0=0/\0=0/\1=1/\0=0/\0=0/\True)/\∀(h:Int),let c23:=Du T (Dc h) [];let c24:=h3N c2 c1 x h;let c25:=Dk c24;let c26:=upR c23 1 (Df c23);let c27:=Ef c24 c26;let c28:=h+1;tC c2 c1 x h->(Dp h z->0<=h/\h<z/\rsP 1 c23 c24 c25/\1=1/\c25<=Dk c27/\inR .i64 c28/\∃y,let c29:=h3N c2 c1 x y;
 tC c2 c1 x y/\(c1=c1/\1=1/\0=0/\0=0/\1=1/\0=0/\0=0/\1=1/\0=0/\0=0/\f=f/\e=e/\x=x/\T=T/\z=z/\c28=y/\Value.slice none 0 0=Value.slice none 0 0/\(0:Int)=(0:Int)/\(0:Int)=(0:Int)/\cs=cs/\ns=ns/\os=os/\j=j/\ls=ls/\i=i/\p1=p1/\p2=p2/\nx=nx/\f=f/\c25+Dk c26=Dk c29/\c27=c29/\1=1/\0=0/\0=0/\1=1/\0=0/\0=0/\True)/\Dc (z-y)<Dc (z-h))/\(Dp h z=false->inR .i64 c21/\∃y,tB c2 c1 y/\(c1=c1/\1=1/\0=0/\0=0/\1=1/\0=0/\0=0/\1=1/\0=0/\0=0/\f=f/\e=e/\c21=y/\Value.slice none 0 0=Value.slice none 0 0/\(0:Int)=(0:Int)/\(0:Int)=(0:Int)/\cs=cs/\ns=ns/\os=os/\j=j/\ls=ls/\i=i/\p1=p1/\p2=p2/\nx=nx/\f=f/\c25=Dk (h2N c2 c1 y)/\c24=h2N c2 c1 y/\1=1/\0=0/\0=0/\1=1/\0=0/\0=0/\True)/\Dc (e-y)<Dc (e-x)))/\(Dp x e=false->(∃h,t1 c2 c1 h/\1=1/\0=0/\0=0/\1=1/\0=0/\0=0/\1=1/\0=0/\0=0/\f=f/\e=e/\0=h/\Value.slice none 0 0=Value.slice none 0 0/\(0:Int)=(0:Int)/\(0:Int)=(0:Int)/\cs=cs/\ns=ns/\os=os/\j=j/\ls=ls/\i=i/\p1=p1/\p2=p2/\nx=nx/\f=f/\c20=Dk (k1N c2 c1 h)/\h2N c2 c1 x=k1N c2 c1 h/\1=1/\0=0/\0=0/\1=1/\0=0/\0=0/\True)/\∀(x:Int),let v:=Du f (Dc x) (Dt (Li));let r:=Df v;let G:=Dk (k1N c2 c1 x);let c33:=x+1;let c34:=Int.ofNat G;let Z:=Eh c34 40000;t1 c2 c1 x->(Dp x e->0<=x/\x<e/\(∃b,let c36:=k2N c2 c1 x b;t2 c2 c1 x b/\1=1/\0=0/\0=0/\1=1/\0=0/\0=0/\1=1/\0=0/\0=0/\x=x/\f=f/\e=e/\x=x/\v=v/\r=r/\0=b/\Value.slice none 0 0=Value.slice none 0 0/\(0:Int)=(0:Int)/\(0:Int)=(0:Int)/\cs=cs/\ns=ns/\os=os/\j=j/\ls=ls/\i=i/\p1=p1/\p2=p2/\nx=nx/\f=f/\G=Dk c36/\k1N c2 c1 x=c36/\1=1/\0=0/\0=0/\1=1/\0=0/\0=0/\True)/\∀(b:Int),let A:=Du v (Dc b) [];let u:=Df A;
 let c39:=k2N c2 c1 x b;let c40:=Dk c39;let c41:=b+1;t2 c2 c1 x b->(Dp b r->0<=b/\b<r/\(∃g,let c42:=k3N c2 c1 x b g;t3 c2 c1 x b g/\1=1/\0=0/\0=0/\1=1/\0=0/\0=0/\1=1/\0=0/\0=0/\x=x/\b=b/\f=f/\e=e/\x=x/\v=v/\r=r/\b=b/\A=A/\u=u/\0=g/\Value.slice none 0 0=Value.slice none 0 0/\(0:Int)=(0:Int)/\(0:Int)=(0:Int)/\cs=cs/\ns=ns/\os=os/\j=j/\ls=ls/\i=i/\p1=p1/\p2=p2/\nx=nx/\f=f/\c40=Dk c42/\c39=c42/\1=1/\0=0/\0=0/\1=1/\0=0/\0=0/\True)/\∀(g:Int),let c43:=Ec (Du A (Dc g) 0) (-1);let O:=k3N c2 c1 x b g;let L:=Dk O;let c46:=iE c2 c1 x b g;let c47:=isZero c46;let c48:=keepA c2 c1 x b g;let c49:=Ef O c48;let X:=g+1;t3 c2 c1 x b g->(Dp g u->0<=g/\g<u/\(c43->(true->mI c2 c1 x b g L O/\(c47=false->true/\true/\(Di false->True/\1=1/\0=0/\1=1/\0=0/\1=1/\0=0/\1=1/\0=0/\c6=Dt Int/\0=c7/\c46=c8/\True)/\(Di false=false->1=1/\0=0/\1=1/\0=0/\c6=Dt Int/\0=c7/\0=c8/\True)))/\((true->c47)->(mI c2 c1 x b g L O/\c47)/\1=1/\L<=Dk c49/\inR .i64 X/\∃y,let c51:=k3N c2 c1 x b y;t3 c2 c1 x b y/\(1=1/\0=0/\0=0/\1=1/\0=0/\0=0/\1=1/\0=0/\0=0/\x=x/\b=b/\f=f/\e=e/\x=x/\v=v/\r=r/\b=b/\A=A/\u=u/\X=y/\Value.slice none 0 0=Value.slice none 0 0/\(0:Int)=(0:Int)/\(0:Int)=(0:Int)/\cs=cs/\ns=ns/\os=os/\j=j/\ls=ls/\i=i/\p1=p1/\p2=p2/\nx=nx/\f=f/\L+Dk c48=Dk c51/\c49=c51/\1=1/\0=0/\0=0/\1=1/\0=0/\0=0/\True)/\Dc (u-y)<Dc (u-g)))/\(c43=false->inR IntKind.i64 X/\∃y,let c52:=k3N c2 c1 x b y;
 t3 c2 c1 x b y/\(1=1/\0=0/\0=0/\1=1/\0=0/\0=0/\1=1/\0=0/\0=0/\x=x/\b=b/\f=f/\e=e/\x=x/\v=v/\r=r/\b=b/\A=A/\u=u/\X=y/\Value.slice none 0 0=Value.slice none 0 0/\(0:Int)=(0:Int)/\(0:Int)=(0:Int)/\cs=cs/\ns=ns/\os=os/\j=j/\ls=ls/\i=i/\p1=p1/\p2=p2/\nx=nx/\f=f/\L=Dk c52/\O=c52/\1=1/\0=0/\0=0/\1=1/\0=0/\0=0/\True)/\Dc (u-y)<Dc (u-g)))/\(Dp g u=false->inR .i64 c41/\∃y,let c53:=k2N c2 c1 x y;
 t2 c2 c1 x y/\(1=1/\0=0/\0=0/\1=1/\0=0/\0=0/\1=1/\0=0/\0=0/\x=x/\f=f/\e=e/\x=x/\v=v/\r=r/\c41=y/\Value.slice none 0 0=Value.slice none 0 0/\(0:Int)=(0:Int)/\(0:Int)=(0:Int)/\cs=cs/\ns=ns/\os=os/\j=j/\ls=ls/\i=i/\p1=p1/\p2=p2/\nx=nx/\f=f/\L=Dk c53/\O=c53/\1=1/\0=0/\0=0/\1=1/\0=0/\0=0/\True)/\Dc (r-y)<Dc (r-b)))/\(Dp b r=false->inR .i64 c33/\∃y,t1 c2 c1 y/\(1=1/\0=0/\0=0/\1=1/\0=0/\0=0/\1=1/\0=0/\0=0/\f=f/\e=e/\c33=y/\Value.slice none 0 0=Value.slice none 0 0/\(0:Int)=(0:Int)/\(0:Int)=(0:Int)/\cs=cs/\ns=ns/\os=os/\j=j/\ls=ls/\i=i/\p1=p1/\p2=p2/\nx=nx/\f=f/\c40=Dk (k1N c2 c1 y)/\c39=k1N c2 c1 y/\1=1/\0=0/\0=0/\1=1/\0=0/\0=0/\True)/\Dc (e-y)<Dc (e-x)))/\(Dp x e=false->1=1/\1=1/\1=1/\0=0/\G=G/\(Z->(true->True/\(false=false->true/\true/\(Di false->True/\1=1/\0=0/\1=1/\0=0/\1=1/\0=0/\1=1/\0=0/\c6=Dt Int/\0=c7/\2=c8/\True)/\(Di false=false->1=1/\0=0/\1=1/\0=0/\c6=Dt Int/\0=c7/\0=c8/\True)))/\True)/\(Z=false->1=1/\0=0/\0=0/\1=1/\0=0/\0=0/\1=1/\0=0/\0=0/\f=f/\e=e/\x=x/\Dp x e=Dp x e/\1=1/\0=0/\0=0/\1=1/\0=0/\0=0/\1=1/\0=0/\10=10/\G=G/\k1N c2 c1 x=k1N c2 c1 x/\c34=c34/\Z=Z/\Value.slice none 0 0=Value.slice none 0 0/\(0:Int)=(0:Int)/\(0:Int)=(0:Int)/\cs=cs/\ns=ns/\os=os/\j=j/\ls=ls/\i=i/\p1=p1/\p2=p2/\nx=nx/\f=f/\G=G/\k1N c2 c1 x=k1N c2 c1 x/\1=1/\0=0/\0=0/\1=1/\0=0/\0=0/\1=1/\1=1/\1=1/\0=0/\1=1/\1=1/\1=1/\0=0/\In.PY (k1N c2 c1 x)/\1=1/\0=0/\1=1/\0=0/\true/\true/\(Di true->False)/\(Di true=false->1=1/\0=0/\1=1/\0=0/\k1N c2 c1 x=c6/\In.mR (k1N c2 c1 x)=c7/\0=c8/\True)))))))):
  evG cWr (lvA [(7,[3,4,5,6,8,10,12,13,14,15,16,17,18,53,54,55,64,65,66,70,71,72,82,83,84,89,90,91,96,97,98]),(12,[3,4,5,6,10,12,13,14,15,16,17,18,64,65,66,70,71,72,82,83,84,89,90,91,96,97,98]),(15,[3,4,5,6,10,12,13,14,15,16,17,18,64,65,66,70,71,72,82,83,84,89,90,91,96,97,98]),(21,[4,5,6,13,14,15,16,17,18,82,83,84,89,90,91,96,97,98]),(24,[4,5,6,13,14,15,16,17,18,82,83,84,89,90,91,96,97,98]),(27,[4,5,6,13,14,15,16,17,18,82,83,84,89,90,91,96,97,98])] (wrA (cs,ns,os,j,ls,i) (p1,p2,nx,f))) az 20 [net cs ns os j ls i,.agg [.dat I p1,.dat I p2,.dat M nx,.dat (.sl M) f]] ⟨fb (p1,p2,nx,f),.tup [.agg [.dat R (wrN (cs,ns,os,j,ls,i) (p1,p2,nx,f)),.dat I (wrS (cs,ns,os,j,ls,i) (p1,p2,nx,f))],.dat I (wrE (cs,ns,os,j,ls,i) (p1,p2,nx,f))],[]⟩:=oE hvc
theorem OS: ∀args m c,JW args m=some c->af Tryz.prog G0 63 args m c:=by
 intro args m c h;unfold JW at h;split at h
 .split at h
  .rename_i e;subst e;cases h;exact Xm _
  .cases h
 .cases h
theorem YR{P:Program}{G:List (Nat×AV)}{f:FuncId}{args:List AV}{m:Mem}{c:ja}(h:af P [] f args m c): af P G f args m c:=
 λb w D E us i _ e g=>h b w D E us i (λp b=>by cases b) e g
theorem aF7: aj Tryz.prog G0 KW7:=ai (Qb λ(_,c,o,d,_) n p k xs=>(LN c o d k xs n p).1)<|ai (ag λ(n,p,_)=>Xj n p)<|ai OS<|ai (ag λ(l,_)=>YR (Go.Eng.In.DI l)) aFm
theorem Zy: bH Tryz.prog G0 aFG:=hC (Z3 λ(_,c,o,d,_) n p k xs=>(LN c o d k xs n p).2) PG
theorem rM{α:Type}{l:List α}{f:α->Li}{x:Int}(d:α)(e:0<=x)(b:x<l.length): (l.take (x+1).toNat).flatMap f=(l.take x.toNat).flatMap f++f (l.getD x.toNat d):=by
 rw[show(x+1).toNat=x.toNat+1 by omega,wO,kT,qA,qB (show x.toNat<l.length by omega)];simp
theorem oU{f:Nat->Li}{x:Int}(b:0<=x): (List.range (x+1).toNat).flatMap f=(List.range x.toNat).flatMap f++f x.toNat:=by
 rw[show(x+1).toNat=x.toNat+1 by omega,zU,kT];simp
theorem tK{f:Nat->Int}{x:Int}(g:0<=x)(h:HQ ((List.range x.toNat).map f)=0)(b:f x.toNat=0): HQ ((List.range (x+1).toNat).map f)=0:=by
 refine tJ λi hi=>?_
 rw[vG,vI]at hi;rw[qA,qO,vT hi];show f i=0;by_cases e:i<x.toNat
 .exact me h _ (wS.2 ⟨i,vF.2 e,rfl⟩)
 .have:i=x.toNat:=by omega
  rw[this];exact b
theorem yy{f:Nat->Int}{k N:Nat}(b:k<N)(h:HQ ((List.range k).map f)=0)(g:f k≠0): HQ ((List.range N).map f)=f k:=by
 have e:∀i,i<N->((List.range N).map f).getD i 0=f i:=λi hi=>by
  rw[qA,qO,vT hi];rfl
 rw[yz (j:=k) (by simpa using b) (λi hi=>by rw[e i (by omega)];exact me h _ (wS.2 ⟨i,vF.2 hi,rfl⟩)) (by rw[e k b];exact g),e k b]
theorem mf{α:Type}{f:α->Li}{B:Nat}: ∀{l:List α},(∀x∈l,(f x).length<=B)->(l.flatMap f).length<=l.length*B
 | [],_=>by simp
 | a::l,h=>by
  have:=mf (l:=l) λx b=>h x (zF _ b)
  have:=h a (wU ..);rw[kP,qF,vU,Nat.succ_mul];omega
theorem Xd(r:Li): (up1 r).length=r.length:=by unfold up1 upR;simp
structure aCV (n:Net) (p:Plan):Prop where
 m:n.2.2.2.1.length<=12
 q:n.2.2.2.2.2.length<=4
 nl:p.2.2.1.length=n.2.2.2.1.length
 nr:∀r∈p.2.2.1,r.length=n.2.2.2.1.length/\∀x∈r,-1<=x/\x<=40
 dl:p.2.2.2.length=n.2.2.2.2.2.length
 dr:∀t∈p.2.2.2,t.length=n.2.2.2.1.length/\∀r∈t,r.length=n.2.2.2.1.length/\∀x∈r,-1<=x/\x<=65518
theorem D7{n:Net}{p:Plan}(h:qw n p): aCV n p:=by
 obtain⟨O,V⟩:=h;obtain⟨_,f,y⟩:=gP V;have e:noF n=true:=bD n.1 n.2.1 n.2.2.1 n.2.2.2.1 n.2.2.2.2.1 n.2.2.2.2.2 O;have A:(n.2.2.2.1.length:Int)<=12:=(gw n.1 n.2.1 n.2.2.1 n.2.2.2.1 n.2.2.2.2.1 n.2.2.2.2.2 e).1;have G:(n.2.2.2.2.1.length:Int)<=40:=(lu n.1 n.2.1 n.2.2.1 n.2.2.2.1 n.2.2.2.2.1 n.2.2.2.2.2 e).1
 have c4:(n.2.2.2.2.2.length:Int)<=4:=((jS (by decide) (λl:Cla=>l.1) ij n.2.2.2.2.2).1 (iL n.1 n.2.1 n.2.2.1 n.2.2.2.1 n.2.2.2.2.1 n.2.2.2.2.2 e).2.2.2.2.2).1;have T:(p.2.2.1.length:Int)=n.2.2.2.1.length:=by
  unfold mO at f;simp only[qC,qE]at f;exact f.1
 unfold pz at y;simp only[qC,qE,qN]at y;refine⟨by omega,by omega,by omega,λr v=>?_,by omega,λt L=>?_⟩
 .obtain⟨i,hi,rfl⟩:=wY.1 v;have b:=(rN (n:=n) T).1 f i (by omega);rw[qA,qB hi,qP]at b;unfold rowOk at b;simp only[qC,qE,qN]at b;refine⟨by omega,λx u=>?_⟩;have j:=b.2 x u;unfold aS dF at j;simp only[yE,qC,qE]at j;omega
 .have b:=y.2 t L;have j:(t.length:Int)=n.2.2.2.1.length:=by
   unfold sgF at b;simp only[qC,qE]at b;exact b.1
  refine⟨by omega,λr v=>?_⟩;obtain⟨i,hi,rfl⟩:=wY.1 v;have g:=(AA j).1 b i (by omega);rw[qA,qB hi,qP]at g;unfold sgR at g;simp only[qC,qE,qN]at g;refine⟨by omega,λx u=>?_⟩;have z:=g.2 x u;unfold fY tQ at z;rw[qE]at z;exact z
theorem xy{m:Nat}(hm:m<=12){l:Lj}(e:l.length<=12)(h:∀r∈l,r.length=m): (l.flatMap up1).length<=144:=by
 have g:=mf (l:=l) (f:=up1) (B:=12) λr b=>by rw[Xd,h r b];exact hm
 have:=wB 12 e;omega
theorem VN{n:Net}{p:Plan}(h:aCV n p)(j:Int): (h1N n p j).length<=148:=by
 have:=xy h.m (l:=p.2.2.1.take j.toNat) (by rw[qI,h.nl];have:=h.m;omega) λr b=>(h.nr r (qAa b)).1
 unfold h1N h4N;rw[qF];simp only[vU,yL];omega
theorem VM{n:Net}{p:Plan}(h:aCV n p)(i:Int): (h2N n p i).length<=724:=by
 have x:=VN h p.2.2.1.length;have v:=mf (l:=p.2.2.2.take i.toNat) (f:=λt:Lj=>t.flatMap up1) (B:=144) λt g=>by
  obtain⟨e,b⟩:=h.dr t (qAa g);exact xy h.m (by rw[e];exact h.m) λr j=>(b r j).1
 have u:(p.2.2.2.take i.toNat).length<=4:=by rw[qI,h.dl];have:=h.q;omega
 have:=wB 144 u;unfold h2N;rw[qF];omega
theorem aBJ{n:Net}{p:Plan}(h:aCV n p){i:Int}(j:Int)(v:0<=i)(u:i<p.2.2.2.length): (h3N n p i j).length<=868:=by
 have g:=VM h i;obtain⟨e,b⟩:=h.dr _ (getD_mem (l:=p.2.2.2) (i:=i.toNat) (d:=[]) (by omega));have:=xy h.m (l:=(p.2.2.2.getD i.toNat []).take j.toNat) (by rw[qI,e];have:=h.m;omega) λr f=>(b r (qAa f)).1
 unfold h3N;rw[qF];omega
theorem NW{n:Net}{p:Plan}{c o d:Int}(h:iE n p c o d=0): ∀x∈ku n p c o,C4 n p c o d x=0:=λx b=>me h _ (wS.2 ⟨x,b,rfl⟩)
theorem UM{n:Net}{p:Plan}{c o d:Int}(e:qw n p)(u:C5 n c)(r:0<=o/\o<n.2.2.2.1.length)(hd:0<=d/\d<n.2.2.2.1.length)(h:FZ n p c o d=0): (zk n p c o d).length<=1641619:=by
 unfold FZ at h;unfold zk;split
 .exact wZ _
 .rename_i f;rw[if_neg f]at h;have b:noF n=true:=bD n.1 n.2.1 n.2.2.1 n.2.2.2.1 n.2.2.2.2.1 n.2.2.2.2.2 e.1;have g:tR n p c o:=⟨⟨b,r⟩,u,(gP e.2).1⟩;have:=tn (n:=n) (p:=p) (c:=c) (o:=o) (d:=d) (k:=0) (xs:=[]) (j:=(ku n p c o).length) ⟨⟨⟨e,u,⟨b,r⟩,⟨b,hd⟩⟩,rfl,wZ _⟩,qJ _,λi hi=>NW h _ (getD_mem hi)⟩;have v:=OM g;unfold keepA;omega
theorem M7{n:Net}{p:Plan}{c o:Int}{k:Nat}(b:qw n p)(g:C5 n c)(e:0<=o/\o<n.2.2.2.1.length)(r:k<=n.2.2.2.1.length)(h:ZK n p c o k=0): (Vt n p c o k).length<=19699428:=by
 have j:=(D7 b).m;have i:=mf (l:=List.range k) (f:=λd:Nat=>zk n p c o (d:Int)) (B:=1641619) λd hd=>by
  have hd:=vF.1 hd;exact UM b g e ⟨by omega,by omega⟩ (me h _ (wS.2 ⟨d,vF.2 hd,rfl⟩))
 rw[vI]at i;have:=wB 1641619 (show k<=12 by omega);unfold Vt;omega
theorem aDj{n:Net}{p:Plan}(g:qw n p){c o:Int}(h:C5 n c)(j:0<=o/\o<n.2.2.2.1.length): (p.2.2.2.getD c.toNat []).length=n.2.2.2.1.length/\((p.2.2.2.getD c.toNat []).getD o.toNat []).length=n.2.2.2.1.length:=by
 have b:=D7 g;obtain⟨c0,c1⟩:=h;have dl:=b.dl;obtain⟨f,e⟩:=b.dr _ (getD_mem (l:=p.2.2.2) (i:=c.toNat) (d:=[]) (by omega));exact⟨f,(e _ (getD_mem (by omega))).1⟩
theorem LJ{n:Net}{p:Plan}{c:Int}{k:Nat}(b:qw n p)(i:C5 n c)(u:k<=n.2.2.2.1.length)(h:Xg n p c k=0): (Vi n p c k).length<=236393136:=by
 have r:=(D7 b).m;have j:=mf (l:=List.range k) (f:=λo:Nat=>Vt n p c (o:Int) ((p.2.2.2.getD c.toNat []).getD o []).length) (B:=19699428) λo g=>by
  have g:=vF.1 g;have e:=(aDj b i (o:=(o:Int)) ⟨by omega,by omega⟩).2;rw[qZ]at e;exact M7 b i ⟨by omega,by omega⟩ (by omega) (me h _ (wS.2 ⟨o,vF.2 g,rfl⟩))
 rw[vI]at j;have:=wB 19699428 (show k<=12 by omega);unfold Vi;omega
theorem Px{n:Net}{p:Plan}{k:Nat}(b:qw n p)(v:k<=n.2.2.2.2.2.length)(h:P7 n p k=0): (Zp n p k).length<=945572544:=by
 have u:=(D7 b).q;have j:=mf (l:=List.range k) (f:=λc:Nat=>Vi n p (c:Int) (p.2.2.2.getD c []).length) (B:=236393136) λc g=>by
  have g:=vF.1 g;have e:C5 n (c:Int):=⟨by omega,by omega⟩;have dl:=(D7 b).dl;have r:=((D7 b).dr _ (getD_mem (l:=p.2.2.2) (i:=c) (d:=[]) (by omega))).1;exact LJ b e (by omega) (me h _ (wS.2 ⟨c,vF.2 g,rfl⟩))
 rw[vI]at j;have:=wB 236393136 (show k<=4 by omega);unfold Zp;omega
theorem Xh(cs:LC)(ns os:LB)(fs:Lo)(ls:Ll)(ks:Lk)(p1 p2:Int)(nx:Lj)(dy:List (Lj)): af Tryz.prog G0 20 [net cs ns os fs ls ks,.agg [.dat I p1,.dat I p2,.dat M nx,.dat (.sl M) dy]] [] ⟨fb (p1,p2,nx,dy),.tup [.agg [.dat R (wrN (cs,ns,os,fs,ls,ks) (p1,p2,nx,dy)),.dat I (wrS (cs,ns,os,fs,ls,ks) (p1,p2,nx,dy))],.dat I (wrE (cs,ns,os,fs,ls,ks) (p1,p2,nx,dy))],[]⟩:=by
 refine Au (c:=cWr) aF7 aK hm Zy (Qe cs ns os fs ls ks p1 p2 nx dy ⟨⟨rfl,rfl⟩,λhp=>?_⟩);simp only[qc,Dj,Es,Di,qd,Dt,Eb,Ec,Dp,Eh,Ei,Ed,Ey,Df,Et,Dl,Dn,Eo,Dy,Dw,Dh,Dq,Ee,Fh,Dc,Dx,Dk,Dz,Ej,Du,Eu,Ez,En,Ef,Fe,Fj,Fg,Ep,Em,Ew,Fb,yD,yA,vX,xH,qCm,xM,kJ];obtain⟨n,hn⟩:∃n:Net,n=(cs,ns,os,fs,ls,ks):=⟨_,rfl⟩;obtain⟨p,v⟩:∃p:Plan,p=(p1,p2,nx,dy):=⟨_,rfl⟩;have e1:fs=n.2.2.2.1:=by rw[hn]
 have e2:ks=n.2.2.2.2.2:=by rw[hn]
 have e3:nx=p.2.2.1:=by rw[v]
 have e4:dy=p.2.2.2:=by rw[v]
 have e5:p1=p.1:=by rw[v]
 have e6:p2=p.2.1:=by rw[v]
 rw[<- hn,<- v]at *;clear hn v;subst e1 e2 e3 e4 e5 e6;have eS:bg n=decide (((fa n).length:Int)=0):=uW;have hbad:¬(bg n=true/\fw n p=true)->wrE n p=1:=λh=>if_neg h
 have hne:wrE n p≠0->wrN n p=[]/\(0:Int)=wrS n p:=λh=>⟨if_neg h,(if_neg h).symm⟩
 refine⟨λ_=>hp,λh=>?_,λ⟨h1,h2⟩=>?_⟩
 .have:wrE n p=1:=hbad λ⟨g1,g2⟩=>by
   rw[eS,qE]at g1;rcases h with h | h
   .omega
   .rw[h]at g2;cases g2
  obtain⟨Z,V⟩:=hne (by rw[this];decide);exact⟨Z,V,this.symm⟩
 have b:qw n p:=⟨by rw[eS,qE];omega,h2⟩;have f:=D7 b;have hW:wrE n p=if P7 n p p.2.2.2.length≠0 then P7 n p p.2.2.2.length else if(EE n p).length>40000 then 2 else 0:=if_pos b
 have hno:noF n=true:=bD n.1 n.2.1 n.2.2.1 n.2.2.2.1 n.2.2.2.2.1 n.2.2.2.2.2 b.1;have rs:∀(r:Li) (xs:Li),(∀x∈r,-1<=x/\x<=65518)->r.length<=12->xs.length<=10000->rsP 1 r xs xs.length:=λr xs Z V q3=>⟨⟨rfl,by omega⟩,by decide,by decide,λx j=>by have:=Z x j;omega⟩
 have m12:=f.m;have q04:=f.q;have nl:=f.nl;have dl:=f.dl;refine⟨⟨rfl,by show 0+4<=1000000000000;decide⟩,by simp,⟨0,⟨b,qL _,by omega⟩,rfl,rfl,rfl⟩,λx ⟨_,u,x1⟩=>⟨λj=>?_,λj=>⟨⟨0,⟨b,qL _,by omega⟩,rfl,?_,?_⟩,?_⟩⟩⟩
 .obtain⟨Z,V⟩:=f.nr _ (getD_mem (l:=p.2.2.1) (i:=x.toNat) (d:=[]) (by omega));have e:h1N n p (x+1)=h1N n p x++up1 (p.2.2.1.getD x.toNat []):=by unfold h1N;rw[rM [] u j,wM]
  refine⟨u,j,rs _ _ (λy X=>by have:=V y X;omega) (by omega) (by have:=VN f x;omega),by rw[qF];omega,aL (by omega),x+1,⟨b,by omega,by omega⟩,⟨rfl,by rw[e,qF];rfl,e.symm⟩,by omega⟩
 .have:x=p.2.2.1.length:=by omega
  rw[this];simp[h2N]
 .have:x=p.2.2.1.length:=by omega
  rw[this];simp[h2N]
 rintro x ⟨_,u,x1⟩;refine⟨λj=>⟨u,j,⟨0,⟨⟨b,u,j⟩,qL _,by omega⟩,rfl,by simp[h3N],by simp[h3N]⟩,λy ⟨_,A,y1⟩=>⟨λX=>?_,λX=>?_⟩⟩,λj=>⟨⟨0,⟨⟨b,qL _,by omega⟩,rfl⟩,rfl,?_,?_⟩,?_⟩⟩
 .obtain⟨Z,V⟩:=f.dr _ (getD_mem (l:=p.2.2.2) (i:=x.toNat) (d:=[]) (by omega));obtain⟨q3,q4⟩:=V _ (getD_mem (l:=p.2.2.2.getD x.toNat []) (i:=y.toNat) (d:=[]) (by omega));have e:h3N n p x (y+1)=h3N n p x y++up1 ((p.2.2.2.getD x.toNat []).getD y.toNat []):=by unfold h3N;rw[rM [] A X,wM]
  refine⟨A,X,rs _ _ q4 (by omega) (by have:=aBJ f y u j;omega),by rw[qF];omega,aL (by omega),y+1,⟨⟨b,u,j⟩,by omega,by omega⟩,⟨rfl,by rw[e,qF];rfl,e.symm⟩,by omega⟩
 .have ey:y=(p.2.2.2.getD x.toNat []).length:=by omega
  have e:h2N n p (x+1)=h3N n p x y:=by
   unfold h3N;rw[ey,qZ,xG];unfold h2N;rw[rM [] u j,wM]
  exact⟨aL (by omega),x+1,⟨b,by omega,by omega⟩,⟨rfl,by rw[e],e.symm⟩,by omega⟩
 .have:x=p.2.2.2.length:=by omega
  rw[this];simp[k1N,hdN,Zp]
 .have:x=p.2.2.2.length:=by omega
  rw[this];simp[k1N,hdN,Zp]
 rintro x ⟨⟨_,u,x1⟩,T⟩;have hd2:=VM f p.2.2.2.length;refine⟨λj=>?_,λj=>?_⟩
 .have O:C5 n x:=⟨u,by omega⟩;have xt:((x.toNat:Nat):Int)=x:=by omega
  have tl:=(aDj b O (o:=0));obtain⟨tr1,_⟩:=f.dr _ (getD_mem (l:=p.2.2.2) (i:=x.toNat) (d:=[]) (by omega));refine⟨u,j,⟨0,⟨⟨⟨b,u,j⟩,qL _,by omega⟩,T,rfl⟩,rfl,by simp[k2N,Vi],by simp[k2N,Vi]⟩,λy ⟨⟨_,A,y1⟩,_,ya⟩=>⟨λX=>?_,λX=>?_⟩⟩
  .have yt:((y.toNat:Nat):Int)=y:=by omega
   obtain⟨_,tr2⟩:=aDj b O (o:=y) ⟨A,by omega⟩;refine⟨A,X,⟨0,⟨⟨⟨⟨⟨b,u,j⟩,A,by omega⟩,X⟩,qL _,by omega⟩,T,ya,rfl⟩,rfl,by simp[k3N,Vt],by simp[k3N,Vt]⟩,λz ⟨⟨_,z0,z1⟩,_,_,za⟩=>⟨λhz=>?_,λhz=>?_⟩⟩
   .have zt:((z.toNat:Nat):Int)=z:=by omega
    have eD:((p.2.2.2.getD x.toNat []).getD y.toNat []).getD z.toNat 0=lJ p x y z:=rfl;rw[eD];have hkl:(k3N n p x y z).length<=900000000000:=by
     have l1:=Px b (k:=x.toNat) (by omega) T;have l2:=LJ b O (k:=y.toNat) (by omega) ya;have l3:=M7 b O (o:=y) (k:=z.toNat) ⟨A,by omega⟩ (by omega) za;unfold k3N k2N k1N hdN;simp only[qF];omega
    have hK:mI n p x y z (k3N n p x y z).length (k3N n p x y z):=⟨⟨b,O,⟨hno,A,by omega⟩,⟨hno,z0,by omega⟩⟩,rfl,hkl⟩
    have step:FZ n p x y z=0->(∃w,t3 n p x y w/\(z+1=w/\(k3N n p x y z).length+(zk n p x y z).length=(k3N n p x y w).length/\k3N n p x y z++zk n p x y z=k3N n p x y w)/\(((p.2.2.2.getD x.toNat []).getD y.toNat []).length-w).toNat<(((p.2.2.2.getD x.toNat []).getD y.toNat []).length-z).toNat):=λh0=>by
     have e:k3N n p x y (z+1)=k3N n p x y z++zk n p x y z:=by
      unfold k3N Vt;rw[oU z0,zt,wM]
     exact⟨z+1,⟨⟨⟨⟨⟨b,u,j⟩,A,by omega⟩,X⟩,by omega,by omega⟩,T,ya,tK z0 za (by rw[zt];exact h0)⟩,⟨rfl,by rw[e,qF],e.symm⟩,by omega⟩
    refine⟨z0,hz,λL=>⟨⟨hK,λhz0=>?_⟩,λhz0=>⟨⟨hK,hz0⟩,by rw[qF];omega,aL (by omega),?_⟩⟩,λh1=>⟨aL (by omega),?_⟩⟩
    .have G:=eW.1 hz0;have c1:FZ n p x y z=iE n p x y z:=if_neg L;have r1:ZK n p x y ((p.2.2.2.getD x.toNat []).getD y.toNat []).length=iE n p x y z:=by
      unfold ZK;rw[yy (k:=z.toNat) (by omega) za (by rw[zt,c1];exact G),zt,c1]
     have r2:Xg n p x (p.2.2.2.getD x.toNat []).length=iE n p x y z:=by
      unfold Xg;rw[yy (k:=y.toNat) (by omega) ya (by rw[yt,r1];exact G),yt,r1]
     have r3:P7 n p p.2.2.2.length=iE n p x y z:=by
      unfold P7;rw[yy (k:=x.toNat) (by omega) T (by rw[xt,r2];exact G),xt,r2]
     have r4:wrE n p=iE n p x y z:=by rw[hW,r3,if_pos G]
     obtain⟨Z,V⟩:=hne (by rw[r4];exact G);exact⟨Z,V,r4.symm⟩
    .have c1:FZ n p x y z=iE n p x y z:=if_neg L;have c2:zk n p x y z=keepA n p x y z:=if_neg L;have:=step (by rw[c1];exact cN.1 hz0);rw[c2]at this;exact this
    .have c1:FZ n p x y z=0:=if_pos h1;have c2:zk n p x y z=[]:=if_pos h1;have:=step c1;rw[c2]at this;simpa using this
   .have ez:z=((p.2.2.2.getD x.toNat []).getD y.toNat []).length:=by omega
    have e:k2N n p x (y+1)=k3N n p x y z:=by
     unfold k3N;rw[ez,qZ];unfold k2N Vi;rw[oU A,yt,wM]
    have za':ZK n p x y ((p.2.2.2.getD x.toNat []).getD y.toNat []).length=0:=by rw[ez,qZ]at za;exact za
    exact⟨aL (by omega),y+1,⟨⟨⟨b,u,j⟩,by omega,by omega⟩,T,tK A ya (by rw[yt];exact za')⟩,⟨rfl,by rw[e],e.symm⟩,by omega⟩
  .have ey:y=(p.2.2.2.getD x.toNat []).length:=by omega
   have e:k1N n p (x+1)=k2N n p x y:=by
    unfold k2N;rw[ey,qZ];unfold k1N Zp;rw[oU u,xt,wM]
   have ya':Xg n p x (p.2.2.2.getD x.toNat []).length=0:=by rw[ey,qZ]at ya;exact ya
   exact⟨aL (by omega),x+1,⟨⟨b,by omega,by omega⟩,tK u T (by rw[xt];exact ya')⟩,⟨rfl,by rw[e],e.symm⟩,by omega⟩
 .have ex:x=p.2.2.2.length:=by omega
  have eN:k1N n p x=EE n p:=by unfold k1N EE;rw[ex,qZ]
  rw[ex,qZ]at T;have hl:=Px b (k:=p.2.2.2.length) (by omega) T;rw[eN];rw[T,if_neg (λg=>g rfl)]at hW;refine⟨λhgt=>?_,λhle=>?_⟩
  .rw[if_pos (by omega)]at hW;obtain⟨Z,V⟩:=hne (by rw[hW];decide);exact⟨Z,V,hW.symm⟩
  .rw[if_neg (by omega)]at hW;refine⟨?_,(if_pos hW).symm,(if_pos hW).symm,hW.symm⟩;show(EE n p).length<=9223372036854775807;omega
def pN(nx:Lj): Plan:=(0,0,nx,[])
def aBS(n:Net)(k o t:Int): Prop:=(mx n o/\C5 n k)/\0<=t/\t<=2200000
def FR(n:Net)(k o a b:Int): Li:=VU (aB n o) (bE n k).2.1 b ((b-a).toNat+1) a
def FQ(n:Net)(k o a b:Int): Prop:=mx n o/\C5 n k/\0<=a/\a<b/\b<=1000000
def B7(n:Net)(k o a b:Int)(x:Nat×Int): Prop:=(a+x.1<=x.2/\x.2<=b)/\x.1<=(FR n k o a b).length/\(FR n k o a b).drop x.1=VU (aB n o) (bE n k).2.1 b ((b-a).toNat+1-x.1) x.2
def wj(n:Net)(nx:Lj)(k o d cut:Int): Int:=if i9 n nx o d cut≠0 then i9 n nx o d cut else if FP n (pN nx) k o d cut≠0 then FP n (pN nx) k o d cut else if VV n (pN nx) k o d cut<0 then 1 else 0
def Y5(n:Net)(nx:Lj)(k o d cut:Int): Int:=VV n (pN nx) k o d cut
def zg(n:Net)(nx:Lj)(k o d cut:Int): Prop:=Gw n nx o d cut/\C5 n k
def aDi(n:Net)(nx:Lj)(a b:Int): Prop:=bg n=true/\mO n nx=true/\0<=a/\a<b/\b<=600/\b-a<=60
def aEi(n:Net)(o:Int): Prop:=0<=o/\o<n.2.2.2.1.length
def cellP(n:Net)(nx:Lj)(k o d a b:Int): Prop:=aDi n nx a b/\C5 n k/\aEi n o/\aEi n d
def JM(n:Net)(k o a b:Int): Li:=FR n k o (1440*a) (1440*b)
def PU(n:Net)(nx:Lj)(k o d a b:Int)(j:Nat): Int:=(((JM n k o a b).take j).map (Y5 n nx k o d)).foldl max (-1)
def NH(n:Net)(nx:Lj)(k o d a b:Int): Int:=HQ ((JM n k o a b).map (wj n nx k o d))
def sY(n:Net)(nx:Lj)(k o d a b:Int): Int:=if NH n nx k o d a b=0 then PU n nx k o d a b (JM n k o a b).length else -1
def Bo(n:Net)(nx:Lj)(k o d a b:Int)(j:Nat): Prop:=cellP n nx k o d a b/\j<=(JM n k o a b).length/\∀i:Nat,i<j->wj n nx k o d ((JM n k o a b).getD i 0)=0
theorem WH(k o t:Int)(cs:LC)(ns os:LB)(e:Lo)(ls:Ll)(b:Lk)(f:
 let c1:=(cs,ns,os,e,ls,b);let c4:=(aB c1 o);let c5:=(Du b (Dc k) (ByteArray.mk #[],(0:Int),(0:Int))).2.2;let c6:=aG c1 o t;true/\(aBS c1 k o t->mx c1 o/\0<=k/\k<Df b/\fk c1 o t/\zy c4 c5 c6/\ik c4 c5 c6=Uo c1 k o t/\my c4 c5 c6=ZQ c1 k o t/\True)):
  evF (mkc KR5) az 103 [.ip N (cs,ns,os,e,ls,b),.dat I k,.dat I o,.dat I t] [] ⟨aBS (cs,ns,os,e,ls,b) k o t,.tup [.dat I (Uo (cs,ns,os,e,ls,b) k o t),.dat I (ZQ (cs,ns,os,e,ls,b) k o t)],[]⟩:=oE f
theorem QG(k o a b:Int)(n:Net)(e:
 true/\(True->a=a/\n=n/\o=o/\k=k/\b=b/\True)):
  evF (mkc KR2) az 116 [.ip N n,.dat I k,.dat I o,.dat I a,.dat I b] [] ⟨True,.fn 173 [.ip I a,.ipv (.ip N n),.ip I o,.ip I k,.ip I b],[]⟩:=oE e
def aBq(n:Net)(k o a b:Int): Gu:=⟨λid y=>match id with
 | 1=>some {α:=Nat×Int,inv:=λx=>B7 n k o a b x,st:=λx=>⟨put y.s [(7,.dat I x.2)],x.1,true⟩,μ:=λx=>Dc (Dh (Dq b 1) x.2)}
 | _=>none,λ_ _=>none,λid=>id==2⟩
theorem QH(k o a b:Int)(n:Net)(i:
 let c2:=(aB n o).2;let c3:=((aB n o).1,c2.1,c2.2);let c4:=(Du n.2.2.2.2.2 (Dc k) (ByteArray.mk #[],(0:Int),(0:Int))).2.1;let c5:=FR n k o a b;let c6:=Dk c5;let c7:=b+1;true/\true/\true/\false=false/\∀(l:Nat),FQ n k o a b->(∃(x:Nat×Int),B7 n k o a b x/\(l=l/\a=a/\n=n/\o=o/\k=k/\b=b/\a=x.2/\a=a/\True)/\0=x.1/\true)/\∀(x:Nat×Int),let j:=Ec (my c3 c4 x.2) 0;let c9:=Di j;let f:=ik c3 c4 x.2;let e:=Ea j true (Ed f b);let c12:=Di e;let c1:=Dj true c12->c12;let c13:=x.1+1;let c14:=f+1;let c15:=Ea e true (Di false);B7 n k o a b x->mx n o/\0<=k/\k<Df n.2.2.2.2.2/\zy c3 c4 x.2/\(c9->c9->c9)/\(c9->c9->c9)/\(Dj true c9->c9)/\(c12->(c12->c12)/\(c12->c12)/\l=l/\true/\lC c5 x.1 f/\∀(g:Bool),let h:=Ea e true (Di g);c1/\(h->g->c13=c6)/\(h=false->inR .i64 c14/\∃(y:Nat×Int),B7 n k o a b y/\((l=l/\a=a/\n=n/\o=o/\k=k/\b=b/\c14=y.2/\a=a/\True)/\c13=y.1/\g)/\Dc (c7-y.2)<Dc (c7-x.2)))/\(c12=false->(c12->c12->c12)/\c1/\(c15->true->x.1=c6)/\(c15=false->inR .i64 c14/\∃(y:Nat×Int),B7 n k o a b y/\((l=l/\a=a/\n=n/\o=o/\k=k/\b=b/\c14=y.2/\a=a/\True)/\x.1=y.1/\true)/\Dc (c7-y.2)<Dc (c7-x.2)))):
  evI (mkc KR3) (aBq n k o a b) 173 [.ip I a,.ipv (.ip N n),.ip I o,.ip I k,.ip I b] ⟨FQ n k o a b,I,FR n k o a b⟩:=oE i
def KC0: Kt:=kOr 140 (aw [.row C,.val I,.val I] (λ(c,a,b,_)=>countP c.1 c.2.1 c.2.2 a b) λ(c,a,b,_)=>.dat I (oo c.2.1 c.2.2 a b)) <|
 kOr 103 (aw [.ptr N,.val I,.val I,.val I] (λ(n,k,o,t,_)=>aBS n k o t) λ(n,k,o,t,_)=>.tup [.dat I (Uo n k o t),.dat I (ZQ n k o t)]) <|
 kOr 116 (aw [.ptr N,.val I,.val I,.val I,.val I] (λ_=>True) λ(n,k,o,a,b,_)=>.fn 173 [.ip I a,.ipv (.ip N n),.ip I o,.ip I k,.ip I b]) KR5
def aB6: Cfg:=mkp KC0 (λ_=>false) KPw (λf=>f==97||f==95||f==102)
theorem QF(k o d cut:Int)(nx:Lj)(cs:LC)(ns os:LB)(g:Lo)(ls:Ll)(f:Lk)(v:
 let c1:=(cs,ns,os,g,ls,f);let c2:=i9 c1 nx o d cut;let c3:=isZero c2;let c4:=wj c1 nx k o d cut;let c5:=isZero c4;let c6:=chainOf (Value.iface 39 (Value.int .i64 c4));let c7:=uq c1 nx o d cut;let x:=Df c7;let c9:=x-1;let e:=(Du c7 (Dc c9) ((0:Int),(0:Int),(0:Int),(0:Int))).2.1;let u:=ZQ c1 k d e;let c12:=isZero u;let c13:=aB c1 d;let r:=Uo c1 k d e;let j:=gQ c13.1 cut;let i:=gQ c13.1 r;let h:=oo c13.2.1 c13.2.2 j i;let b:=Ed h 0;true/\(zg c1 nx k o d cut->(true->Gw c1 nx o d cut/\(c3=false->c5=false/\true/\chainOf (Value.iface 39 (Value.int .i64 c2))=c6))/\((true->c3)->(Gw c1 nx o d cut/\c3)/\inR .i64 c9/\0<=c9/\c9<x/\aBS c1 k d e/\(true->True/\(c12=false->c5=false/\true/\chainOf (Value.iface 39 (Value.int .i64 u))=c6))/\((true->c12)->(True/\c12)/\mx c1 d/\1=1/\0=0/\1=1/\0=0/\fW c13.1 c13.2.1 c13.2.2 cut/\1=1/\0=0/\fW c13.1 c13.2.1 c13.2.2 r/\1=1/\0=0/\countP c13.1 c13.2.1 c13.2.2 j i/\(true->True/\(b=false->c5=false/\true/\chainOf (Value.iface 39 (Value.int IntKind.i64 (1:Int)))=c6))/\((true->b)->(True/\b)/\c5/\h=Y5 c1 nx k o d cut/\True))))):
  evC aB6 az 117 [.ip N (cs,ns,os,g,ls,f),.dat M nx,.dat I k,.dat I o,.dat I d,.dat I cut] (.dat I (Y5 (cs,ns,os,g,ls,f) nx k o d cut)) ⟨zg (cs,ns,os,g,ls,f) nx k o d cut,isZero (wj (cs,ns,os,g,ls,f) nx k o d cut),um 39 (wj (cs,ns,os,g,ls,f) nx k o d cut)⟩:=oE v
def KC1: Kt:=kOr 117 (aw [.ptr N,.val M,.val I,.val I,.val I,.val I] (λ(n,nx,k,o,d,c,_)=>zg n nx k o d c/\isZero (wj n nx k o d c)=true) λ(n,nx,k,o,d,c,_)=>.dat I (Y5 n nx k o d c)) KC0
def aFH: KPt:=pOr 117 (uG [.ptr N,.val M,.val I,.val I,.val I,.val I] λ(n,nx,k,o,d,c,_)=>⟨zg n nx k o d c,isZero (wj n nx k o d c),um 39 (wj n nx k o d c)⟩) KPw
def KIC: FuncId->List AV->Option iV:=λf caps=>if f=173 then match ofK [.ptr I,.bp N,.ptr I,.ptr I,.ptr I] caps with
 | some (a,n,o,k,b,_)=>some ⟨FQ n k o a b,I,FR n k o a b⟩
 | none=>none
 else none
noncomputable def aB4: Cfg:=⟨Tryz.prog,G0,KC1,λ_=>false,KIC,true,aFH,λf=>f==117⟩
def aEk(n:Net)(nx:Lj)(k o d a b:Int): Ann:=⟨λid s=>match id with
 | 4=>some {α:=Nat,inv:=λj=>Bo n nx k o d a b j,st:=λj=>gC (flat s) 0 (.var [.dat I (PU n nx k o d a b j)]),μ:=λj=>j}
 | _=>none,λ_ _=>none,λ_ _=>none⟩
theorem QE(k o d a b:Int)(nx:Lj)(n:Net)(e:
 let c1:=1440*a;let c2:=1440*b;let c3:=FR n k o c1 c2;let c4:=sY n nx k o d a b;(true/\true)/\(cellP n nx k o d a b->true/\1=1/\0=0/\inR .i64 c1/\inR .i64 c2/\True/\FQ n k o c1 c2/\(∃x,Bo n nx k o d a b x/\x=0/\n=n/\nx=nx/\k=k/\o=o/\d=d/\a=a/\b=b/\n=n/\nx=nx/\k=k/\o=o/\d=d/\1=1/\0=0/\0=0/\1=1/\0=0/\0=0/\n=n/\k=k/\o=o/\a=a/\c1=c1/\b=b/\c2=c2/\c1=c1/\n=n/\o=o/\k=k/\c2=c2/\(-1:Int)=PU n nx k o d a b x/\1=1/\0=0/\0=0/\True)/\(∀(x:Nat),let c5:=PU n nx k o d a b x;∀(y:Int),let c6:=isZero (wj n nx k o d y);Bo n nx k o d a b x->lC c3 x y->1=1/\0=0/\zg n nx k o d y/\(c6->1=1/\0=0/\(zg n nx k o d y/\c6)/\1=1/\0=0/\∃z,Bo n nx k o d a b z/\z=x+1/\n=n/\nx=nx/\k=k/\o=o/\d=d/\a=a/\b=b/\n=n/\nx=nx/\k=k/\o=o/\d=d/\1=1/\0=0/\0=0/\1=1/\0=0/\0=0/\n=n/\k=k/\o=o/\a=a/\c1=c1/\b=b/\c2=c2/\c1=c1/\n=n/\o=o/\k=k/\c2=c2/\Ez c5 (Y5 n nx k o d y)=PU n nx k o d a b z/\1=1/\0=0/\0=0/\True)/\(c6=false->true/\true/\(Di false->1=1/\0=0/\1=1/\0=0/\(-1:Int)=c4/\True)/\(Di false=false->1=1/\0=0/\c5=c4/\True)))/\∀(x:Nat),Bo n nx k o d a b x->x=Dk c3->1=1/\0=0/\1=1/\0=0/\true/\true/\(Di true->1=1/\0=0/\1=1/\0=0/\(-1:Int)=c4/\True)/\(Di true=false->1=1/\0=0/\PU n nx k o d a b x=c4/\True))):
  evR aB4 (λ_ _ _=>none) az (aEk n nx k o d a b) az 55 [.ip N n,.dat M nx,.dat I k,.dat I o,.dat I d,.dat I a,.dat I b] ⟨cellP n nx k o d a b,.dat I (sY n nx k o d a b),[]⟩:=oE e
theorem Xw(k o t:Int)(cs:LC)(ns os:LB)(e:Lo)(ls:Ll)(b:Lk): af Tryz.prog G0 103 [.ip N (cs,ns,os,e,ls,b),.dat I k,.dat I o,.dat I t] [] ⟨aBS (cs,ns,os,e,ls,b) k o t,.tup [.dat I (Uo (cs,ns,os,e,ls,b) k o t),.dat I (ZQ (cs,ns,os,e,ls,b) k o t)],[]⟩:=by
 refine ae (c:=mkc KR5) aFs aK hm (WH k o t cs ns os e ls b ⟨rfl,λi=>?_⟩);simp only[qc,Dj,Es,Di,qd,Dt,Eb,Ec,Dp,Eh,Ei,Ed,Ey,Df,Et,Dl,Dn,Eo,Dy,Dw,Dh,Dq,Ee,Fh,Dc,Dx,Dk,Dz,Ej,Du,Eu,Ez,En,Ef,Fe,Fj,Fg,Ep,Em,Ew,Fb];obtain⟨⟨f,g⟩,r,t1⟩:=i;have u:=Nh (t:=t) cs ns os e ls b f;have h:=(gb cs ns os e ls b f).2.2.1;have j:=(tY cs ns os e ls b f.1 g).2
 exact⟨f,g.1,g.2,⟨f,by omega,by omega⟩,⟨h,j.1,by show(bE (cs,ns,os,e,ls,b) k).2.2<1440;omega,by omega,by omega⟩,rfl,rfl⟩
theorem Xx(k o a b:Int)(n:Net): af Tryz.prog G0 116 [.ip N n,.dat I k,.dat I o,.dat I a,.dat I b] [] ⟨True,.fn 173 [.ip I a,.ipv (.ip N n),.ip I o,.ip I k,.ip I b],[]⟩:=
 ae (c:=mkc KR2) uL aK hm (QG k o a b n ⟨rfl,λ_=>⟨rfl,rfl,rfl,rfl,rfl,trivial⟩⟩)
theorem Xy (k o a b : Int) (n : Net) : mA Tryz.prog G0 173 [.ip I a, .ipv (.ip N n), .ip I o, .ip I k, .ip I b] ⟨FQ n k o a b, I, FR n k o a b⟩ := by
  refine jr (c := mkc KR3) (A := aBq n k o a b) aCZ aK hm (QH k o a b n ⟨rfl, rfl, rfl, rfl, fun l ⟨hoff, hcl, a0, hab, b1⟩ => ?_⟩)
  have eN : (n.1, n.2.1, n.2.2.1, n.2.2.2.1, n.2.2.2.2.1, n.2.2.2.2.2) = n := rfl
  have eC : ∀ c : Int × List Bool × Li, (c.1, c.2.1, c.2.2) = c := fun _ => rfl
  have eK : n.2.2.2.2.2.getD k.toNat (⟨#[]⟩, 0, 0) = bE n k := rfl
  have hv : ax (aB n o).1 (aB n o).2.1 (aB n o).2.2 = true := (gb n.1 n.2.1 n.2.2.1 n.2.2.2.1 n.2.2.2.2.1 n.2.2.2.2.2 hoff).2.2.1
  obtain ⟨⟨m0, m1⟩, _⟩ := tY n.1 n.2.1 n.2.2.1 n.2.2.2.1 n.2.2.2.2.1 n.2.2.2.2.2 hoff.1 hcl
  have m0 : 0 ≤ (bE n k).2.1 := m0
  have m1 : (bE n k).2.1 ≤ 1439 := m1
  simp only [qc, Dj, Es, Di, qd, Dt, Eb, Ec, Dp, Eh, Ei, Ed, Ey, Df, Et, Dl, Dn, Eo, Dy, Dw, Dh, Dq, Ee, Fh, Dc, Dx, Dk, Dz, Ej, Du, Eu, Ez, En, Ef, Fe, Fj, Fg, Ep, Em, Ew, Fb, eN, eC, eK, yA, yD, vX, xH, false_and, and_false, exists_false, imp_false, qCm, reduceCtorEq]
  refine ⟨⟨(0, a), ⟨⟨by simp only; omega, by simp only; omega⟩, wZ _, rfl⟩, rfl, rfl⟩, ?_⟩
  rintro ⟨j, t⟩ ⟨⟨t0, t1⟩, k1, hk⟩
  simp only at t0 t1 k1 hk ⊢
  have hU : (b - a).toNat + 1 - j = ((b - a).toNat + 1 - (j + 1)) + 1 := by omega
  have hst : VU (aB n o) (bE n k).2.1 b ((b - a).toNat + 1 - j) t = if my (aB n o) (bE n k).2.1 t = 0 then if ik (aB n o) (bE n k).2.1 t < b then ik (aB n o) (bE n k).2.1 t :: VU (aB n o) (bE n k).2.1 b ((b - a).toNat + 1 - (j + 1)) (ik (aB n o) (bE n k).2.1 t + 1) else [] else [] := by rw [hU]; rfl
  rw [hst] at hk
  have hlen : ∀ {l : Li}, (FR n k o a b).drop j = l → (FR n k o a b).length = j + l.length := fun h => by
    have := yB List.length h; rw [wC] at this; omega
  refine ⟨hoff, hcl.1, hcl.2, ⟨hv, m0, by omega, by omega, by omega⟩, fun ⟨h1, h2⟩ => ?_, fun h => ?_⟩
  · have h2' : ik (aB n o) (bE n k).2.1 t < b := by omega
    obtain ⟨b1, b2⟩ := lF hv h1 m0 m1
    rw [if_pos h1, if_pos h2'] at hk
    have hl := hlen hk
    rw [vU] at hl
    refine ⟨?_, fun bb => ⟨fun h hb => ?_, fun ⟨_, hb⟩ => ⟨aL (by omega), (j + 1, ik (aB n o) (bE n k).2.1 t + 1), ⟨⟨by simp only; omega, by simp only; omega⟩, by simp only; omega, ?_⟩, ⟨rfl, rfl, hb⟩, by simp only; omega⟩⟩⟩
    · show (FR n k o a b)[j]? = some _
      have := yB (fun l => l[0]?) hk
      simpa [qY] using this
    · rcases h with (h | h) | h
      · exact absurd h1 h
      · omega
      · rw [h] at hb; cases hb
    · show (FR n k o a b).drop (j + 1) = _
      have := yB (List.drop 1) hk
      rwa [yK] at this
  · have : (FR n k o a b).drop j = [] := by
      rw [hk]
      by_cases h1 : my (aB n o) (bE n k).2.1 t = 0
      · rw [if_pos h1, if_neg (by omega)]
      · rw [if_neg h1]
    have hl := hlen this
    rw [yL] at hl
    omega
theorem aFC: aj Tryz.prog G0 KC0:=ai (ag λ((z,w,h),a,b,_)=>MO z w h a b)<|ai (ag λ((cs,ns,os,f,ls,e),k,o,t,_)=>Xw k o t cs ns os f ls e)<|ai (ag λ(n,k,o,a,b,_)=>Xx k o a b n) aFs
theorem KD{n:Net}{nx:Lj}{o d t:Int}(h:uq n nx o d t≠[]): ((uq n nx o d t).getD ((uq n nx o d t).length-1) (0,0,0,0)).2.1=uo n (pN nx) o d t:=by
 show _=((uq n nx o d t).getLastD (0,0,0,0)).2.1;rw[kH,List.getLast?_eq_getElem?,qA]
theorem Ur{n:Net}{nx:Lj}{k o d cut:Int}(h:i9 n nx o d cut≠0): wj n nx k o d cut=i9 n nx o d cut:=if_pos h
theorem Us{n:Net}{nx:Lj}{k o d cut:Int}(h:i9 n nx o d cut=0)(b:FP n (pN nx) k o d cut≠0): wj n nx k o d cut=FP n (pN nx) k o d cut:=by
 unfold wj;rw[if_neg (λg=>g h),if_pos b]
theorem H3{n:Net}{nx:Lj}{k o d cut:Int}(h:i9 n nx o d cut=0)(b:FP n (pN nx) k o d cut=0): wj n nx k o d cut=if VV n (pN nx) k o d cut<0 then 1 else 0:=by
 unfold wj;rw[if_neg (λg=>g h),if_neg (λg=>g b)]
theorem L0(k o d cut:Int)(nx:Lj)(cs:LC)(ns os:LB)(g:Lo)(ls:Ll)(f:Lk): af Tryz.prog G0 117 [.ip N (cs,ns,os,g,ls,f),.dat M nx,.dat I k,.dat I o,.dat I d,.dat I cut] [] ⟨zg (cs,ns,os,g,ls,f) nx k o d cut/\isZero (wj (cs,ns,os,g,ls,f) nx k o d cut)=true,.dat I (Y5 (cs,ns,os,g,ls,f) nx k o d cut),[]⟩/\cL Tryz.prog G0 117 [.ip N (cs,ns,os,g,ls,f),.dat M nx,.dat I k,.dat I o,.dat I d,.dat I cut] [] ⟨zg (cs,ns,os,g,ls,f) nx k o d cut,isZero (wj (cs,ns,os,g,ls,f) nx k o d cut),um 39 (wj (cs,ns,os,g,ls,f) nx k o d cut)⟩:=by
 refine dc (c:=aB6) aFC aK hm V8 (QF k o d cut nx cs ns os g ls f ⟨rfl,λX=>?_⟩);obtain⟨n,hn⟩:∃n:Net,n=(cs,ns,os,g,ls,f):=⟨_,rfl⟩;rw[<- hn]at X ⊢;obtain⟨v,u⟩:=id X;obtain⟨hs,ht,u0,u1,o0,o1,v0,v1⟩:=id v;have r:noF n=true:=bD n.1 n.2.1 n.2.2.1 n.2.2.2.1 n.2.2.2.2.1 n.2.2.2.2.2 hs;have hd:mx n d:=⟨r,o0,o1⟩
 have j:ax (aB n d).1 (aB n d).2.1 (aB n d).2.2=true:=(gb n.1 n.2.1 n.2.2.1 n.2.2.2.1 n.2.2.2.2.1 n.2.2.2.2.2 hd).2.2.1;obtain⟨⟨z1,z2,_,_⟩,_⟩:=cA.1 j;obtain⟨_,⟨z,y⟩⟩:=tY n.1 n.2.1 n.2.2.1 n.2.2.2.1 n.2.2.2.2.1 n.2.2.2.2.2 r u;have z:0<=(bE n k).2.2:=z;have y:(bE n k).2.2<=1439:=y
 simp only[qc,Dj,Es,Di,qd,Dt,Eb,Ec,Dp,Eh,Ei,Ed,Ey,Df,Et,Dl,Dn,Eo,Dy,Dw,Dh,Dq,Ee,Fh,Dc,Dx,Dk,Dz,Ej,Du,Eu,Ez,En,Ef,Fe,Fj,Fg,Ep,Em,Ew,Fb];refine⟨⟨v,λi=>?_⟩,λi=>⟨⟨v,i⟩,?_⟩⟩
 .have b:=eW.1 i;rw[Ur b];exact⟨i,rfl⟩
 have b:=cN.1 i;obtain⟨w1,V,w3,O⟩:(uq n nx o d cut).length<=20/\uq n nx o d cut≠[]/\cut<=uo n (pN nx) o d cut/\uo n (pN nx) o d cut<=2200000:=C9 19 o cut v b;have Z:0<(uq n nx o d cut).length:=List.length_pos_iff.2 V;have eI:((uq n nx o d cut).length-1:Int).toNat=(uq n nx o d cut).length-1:=by omega
 rw[eI,KD V];obtain⟨T,G⟩:∃T,T=uo n (pN nx) o d cut:=⟨_,rfl⟩;rw[<- G]at w3 O ⊢;have eE:ZQ n k d T=FP n (pN nx) k o d cut:=by rw[G];rfl
 have eD:Uo n k d T=aFg n (pN nx) k o d cut:=by rw[G];rfl
 refine⟨aL (by omega),by omega,by omega,⟨⟨hd,u⟩,by omega,O⟩,λh=>?_,λh=>⟨h,hd,?_⟩⟩
 .have e:=eW.1 h;rw[eE]at e h ⊢;rw[Us b e];exact⟨h,rfl⟩
 have e:=cN.1 h;have A:my (aB n d) (bE n k).2.2 (aG n d T)=0:=e;obtain⟨b1,b2⟩:=lF j A z y;have hr:fk n d T:=⟨hd,by omega,by omega⟩;obtain⟨_,_,r1,r2⟩:inR .i64 ((bR n d).2.2.2.2.1*(bR n d).2.2.2.2.2.1)/\inR .i64 (aG n d T)/\T<=aG n d T/\aG n d T<=T+960:=sB n.1 n.2.1 n.2.2.1 n.2.2.2.1 n.2.2.2.2.1 n.2.2.2.2.2 hr;have b1:aG n d T<=Uo n k d T:=b1;have b2:Uo n k d T<=aG n d T+90000:=b2
 have dB:∀t:Int,0<=t->t<=3000000->bT (gQ (aB n d).1 t)=true:=λt t0 t1=>js (by unfold gQ;omega) (by unfold gQ;omega)
 have L:oo (aB n d).2.1 (aB n d).2.2 (gQ (aB n d).1 cut) (gQ (aB n d).1 (Uo n k d T))=VV n (pN nx) k o d cut:=by rw[eD];rfl
 have eR:FP n (pN nx) k o d cut=0:=eE▸e;refine⟨⟨j,by omega,by omega⟩,⟨j,by omega,by omega⟩,⟨j,dB _ (by omega) (by omega),dB _ (by omega) (by omega)⟩,λx=>?_,λx=>⟨x,?_,L⟩⟩
 .rw[L]at x;rw[H3 b eR,if_pos (by omega)];exact⟨rfl,rfl⟩
 .rw[L]at x;rw[H3 b eR,if_neg (by omega)];rfl
theorem aCk: aj Tryz.prog G0 KC1:=ai (ag λ((cs,ns,os,e,ls,b),nx,k,o,d,c,_)=>(L0 k o d c nx cs ns os e ls b).1) aFC
theorem Zz: bH Tryz.prog G0 aFH:=hC (iT λ((cs,ns,os,e,ls,b),nx,k,o,d,c,_)=>(L0 k o d c nx cs ns os e ls b).2) V8
theorem aCv: bm Tryz.prog G0 KIC:=by
 intro f caps it h;unfold KIC at h;split at h
 case isFalse=>cases h
 rename_i j;subst j;split at h
 case h_2=>cases h
 rename_i a n o k b _ e;cases h;exact λi l J JX JP w D us u r g=>Xy k o a b n i l J JX JP w D us u r (dZ e g)
theorem Ut{n:Net}{k o a b x:Int}(h:FQ n k o a b)(j:x∈FR n k o a b): a<=x/\x<b:=by
 have r:ax (aB n o).1 (aB n o).2.1 (aB n o).2.2=true:=(gb n.1 n.2.1 n.2.2.1 n.2.2.2.1 n.2.2.2.2.1 n.2.2.2.2.2 h.1).2.2.1;obtain⟨⟨g,e⟩,_⟩:=tY n.1 n.2.1 n.2.2.1 n.2.2.2.1 n.2.2.2.2.1 n.2.2.2.2.2 h.1.1 h.2.1;have g:0<=(bE n k).2.1:=g;have e:(bE n k).2.1<=1439:=e;have:∀(f:Nat) (t:Int),x∈VU (aB n o) (bE n k).2.1 b f t->t<=x/\x<b:=λf=>by
  induction f with
  | zero=>intro t h;cases h
  | succ f i=>
   intro t h;rw[VU]at h;split at h
   .rename_i u;obtain⟨v,y⟩:=lF r u g e;split at h
    .rcases zM.1 h with rfl | h
     .exact⟨v,by assumption⟩
     .have:=i _ h;omega
    .cases h
   .cases h
 exact this _ _ j
theorem Yx{n:Net}{nx:Lj}{k o d a b y:Int}{j:Nat}(h:(JM n k o a b)[j]?=some y): PU n nx k o d a b (j+1)=max (PU n nx k o d a b j) (Y5 n nx k o d y):=by
 unfold PU;rw[wO,h,qBn,yU,qAp];rfl
theorem Xv(k o d a b:Int)(nx:Lj)(n:Net): af Tryz.prog G0 55 [.ip N n,.dat M nx,.dat I k,.dat I o,.dat I d,.dat I a,.dat I b] [] ⟨cellP n nx k o d a b,.dat I (sY n nx k o d a b),[]⟩:=by
 refine pK (c:=aB4) (λ_ _ _ _ h=>by cases h) aCk aCv hm Zz (QE k o d a b nx n ⟨⟨rfl,rfl⟩,λA=>?_⟩);simp only[qc,Dj,Es,Di,qd,Dt,Eb,Ec,Dp,Eh,Ei,Ed,Ey,Df,Et,Dl,Dn,Eo,Dy,Dw,Dh,Dq,Ee,Fh,Dc,Dx,Dk,Dz,Ej,Du,Eu,Ez,En,Ef,Fe,Fj,Fg,Ep,Em,Ew,Fb];obtain⟨⟨X,ht,a0,ab,b6,b60⟩,r,z,hd⟩:=id A;have G:noF n=true:=bD n.1 n.2.1 n.2.2.1 n.2.2.2.1 n.2.2.2.2.1 n.2.2.2.2.2 X
 have hX:FQ n k o (1440*a) (1440*b):=⟨⟨G,z.1,z.2⟩,r,by omega,by omega,by omega⟩;have hcB:FR n k o (1440*a) (1440*b)=JM n k o a b:=rfl;refine⟨aL (by omega),aL (by omega),hX,⟨0,⟨A,wZ _,λi hi=>by omega⟩,rfl,rfl⟩,λx y v f=>?_,λx v Z=>?_⟩
 .have f:(JM n k o a b)[x]?=some y:=f;have e:x<(JM n k o a b).length:=(qG.1 f).1;have T:(JM n k o a b).getD x 0=y:=by rw[qA,f];rfl
  obtain⟨y0,y1⟩:=Ut hX (zI f);have hD:zg n nx k o d y:=⟨⟨X,ht,z.1,z.2,hd.1,hd.2,by omega,by omega⟩,r⟩;refine⟨hD,λu=>⟨⟨hD,u⟩,x+1,⟨A,e,λi hi=>?_⟩,rfl,(Yx f).symm⟩,λu=>?_⟩
  .by_cases h3:i<x
   .exact v.2.2 i h3
   .have:i=x:=by omega
    rw[this,T];exact cN.1 u
  .have g:=eW.1 u;have V:∀i:Nat,i<(JM n k o a b).length->((JM n k o a b).map (wj n nx k o d)).getD i 0=wj n nx k o d ((JM n k o a b).getD i 0):=λi hi=>by
    rw[qA,qO,qA,qB hi];rfl
   have O:NH n nx k o d a b=wj n nx k o d y:=by
    unfold NH;rw[yz (j:=x) (by rw[vG];exact e) (λi hi=>by rw[V i (by omega)];exact v.2.2 i hi) (by rw[V x e,T];exact g),V x e,T]
   have L:sY n nx k o d a b=-1:=by
    unfold sY;rw[if_neg (by rw[O];exact g)]
   rw[L];simp
 .have O:NH n nx k o d a b=0:=by
   unfold NH;refine tJ λi hi=>?_
   rw[vG]at hi;rw[qA,qO,qB hi];have:=v.2.2 i (by rw[Z];exact hi);rw[qA,qB hi]at this;exact this
  have L:sY n nx k o d a b=PU n nx k o d a b x:=by
   unfold sY;rw[if_pos O,Z];rfl
  rw[L];simp
def aCE(n:Net)(nx:Lj)(k o a b:Int): Li:=(List.range n.2.2.2.1.length).map λd:Nat=>sY n nx k o d a b
def aCB(n:Net)(nx:Lj)(k a b:Int): Lj:=(List.range n.2.2.2.1.length).map λo:Nat=>aCE n nx k o a b
def Rx(n:Net)(nx:Lj)(a b:Int): Bool:=decide (0<=a/\a<b/\b<=600/\b-a<=60)&&(bg n&&mO n nx)
def Kv(n:Net)(nx:Lj)(a b:Int): List (Lj):=if Rx n nx a b=true then(List.range n.2.2.2.2.2.length).map λk:Nat=>aCB n nx k a b else[]
def upF{α:Type}(g:Int->α)(z:α)(l k:Int): List α:=((List.range k.toNat).map λi:Nat=>g i)++List.replicate (l-k).toNat z
def upI(g:Int->Int)(l k:Int): Li:=upF g 0 l k
def Ku(g:Int->Li)(l k:Int): Lj:=upF g [] l k
def upM(g:Int->Lj)(l k:Int): List (Lj):=upF g [] l k
def mT(l:Int)(p:Int->Prop): Prop:=(0<=l/\l<=1000000)/\∀i,0<=i->i<l->p i
def toI(l k:Int): Prop:=0<=k/\k<=l
def NF(n:Net)(nx:Lj)(k o a b d:Int): Prop:=cellP n nx k o d a b
def NG(n:Net)(nx:Lj)(k o a b d:Int): Int:=sY n nx k o d a b
def M9(n:Net)(nx:Lj)(k a b o:Int): Prop:=aDi n nx a b/\C5 n k/\aEi n o
def I8(n:Net)(nx:Lj)(k a b o:Int): Li:=aCE n nx k o a b
def LK(n:Net)(nx:Lj)(a b k:Int): Prop:=aDi n nx a b/\C5 n k
def DG(n:Net)(nx:Lj)(a b k:Int): Lj:=aCB n nx k a b
def aBj(l:Int)(g:Int->Int): Ann:=⟨λid s=>match id with
 | 3=>match s.sig.T 5 with
  | .buf nm _=>some {α:=Int,inv:=λk=>toI l k,st:=λk=>gC (put s [(11,.dat I k)]) nm (.buf 3 I (upI g l k) []),μ:=λk=>Dc (Dh l k)}
  | _=>none
 | _=>none,λ_ _=>none,λ_ _=>none⟩
def aBh(l:Int)(g:Int->Li): Ann:=⟨λid s=>match id with
 | 3=>match s.sig.T 5 with
  | .buf nm _=>some {α:=Int,inv:=λk=>toI l k,st:=λk=>gC (put s [(11,.dat I k)]) nm (.buf 36 R (Ku g l k) []),μ:=λk=>Dc (Dh l k)}
  | _=>none
 | _=>none,λ_ _=>none,λ_ _=>none⟩
def aBi(l:Int)(g:Int->Lj): Ann:=⟨λid s=>match id with
 | 3=>match s.sig.T 5 with
  | .buf nm _=>some {α:=Int,inv:=λk=>toI l k,st:=λk=>gC (put s [(11,.dat I k)]) nm (.buf 32 M (upM g l k) []),μ:=λk=>Dc (Dh l k)}
  | _=>none
 | _=>none,λ_ _=>none,λ_ _=>none⟩
theorem Qx(l:Int)(p:Int->Prop)(g:Int->Int)(b:
 let c6:=Dc l;let c5:=Ty.int .i64;let c1:=Ep l (0:Int);true/\(mT l p->0<=l/\(Dx 8*l)<=281474976710656/\l<=9223372036854775807/\Dk c1=Dc l/\(∃x,toI l x/\AV.clo1 c5 c5 p g=AV.clo1 c5 c5 p g/\Value.slice none 0 0=Value.slice none 0 0/\Dc l=Dc l/\Int.ofNat c6=Int.ofNat c6/\0=x/\c1=upI g l x/\True)/\∀(x:Int),let c2:=Dp x (Int.ofNat c6);let c3:=Dk (upI g l x);let c4:=x+1;toI l x->(c2->p x/\c3=Dc l/\0<=x/\x<Dx c3/\c3=Dc l/\inR .i64 c4/\∃y,toI l y/\(AV.clo1 c5 c5 p g=AV.clo1 c5 c5 p g/\Value.slice none 0 0=Value.slice none 0 0/\Dc l=Dc l/\Int.ofNat c6=Int.ofNat c6/\c4=y/\En (upI g l x) (Dc x) (g x)=upI g l y/\True)/\Dc (l-y)<Dc (l-x))/\(c2=false->c3=Dc l/\upI g l x=upI g l l/\True))):
  evF (mkc KC1) (lvA [(3,[1,4,5,6,10,11])] (aBj l g)) 53 [.dat I l,.clo1 I I p g] [] ⟨mT l p,.dat R (upI g l l),[]⟩:=oE b
theorem Qv(l:Int)(p:Int->Prop)(g:Int->Li)(b:
 let c6:=Dc l;let c5:=Ty.int .i64;let c1:=Ep l (Dt Int);true/\(mT l p->0<=l/\(Dx 24*l)<=281474976710656/\l<=9223372036854775807/\Dk c1=Dc l/\(∃x,toI l x/\AV.clo1 c5 c5.sl p g=AV.clo1 c5 c5.sl p g/\Value.slice none 0 0=Value.slice none 0 0/\Dc l=Dc l/\Int.ofNat c6=Int.ofNat c6/\0=x/\c1=Ku g l x/\True)/\∀(x:Int),let c2:=Dp x (Int.ofNat c6);let c3:=Dk (Ku g l x);let c4:=x+1;toI l x->(c2->p x/\c3=Dc l/\0<=x/\x<Dx c3/\c3=Dc l/\inR .i64 c4/\∃y,toI l y/\(AV.clo1 c5 c5.sl p g=AV.clo1 c5 c5.sl p g/\Value.slice none 0 0=Value.slice none 0 0/\Dc l=Dc l/\Int.ofNat c6=Int.ofNat c6/\c4=y/\En (Ku g l x) (Dc x) (g x)=Ku g l y/\True)/\Dc (l-y)<Dc (l-x))/\(c2=false->c3=Dc l/\Ku g l x=Ku g l l/\True))):
  evF (mkc KC1) (lvA [(3,[1,4,5,6,10,11])] (aBh l g)) 51 [.dat I l,.clo1 I R p g] [] ⟨mT l p,.dat M (Ku g l l),[]⟩:=oE b
theorem Qw(l:Int)(p:Int->Prop)(g:Int->Lj)(b:
 let c6:=Dc l;let c5:=Ty.int .i64;let c1:=Ep l (Dt (Li));true/\(mT l p->0<=l/\(Dx 24*l)<=281474976710656/\l<=9223372036854775807/\Dk c1=Dc l/\(∃x,toI l x/\AV.clo1 c5 c5.sl.sl p g=AV.clo1 c5 c5.sl.sl p g/\Value.slice none 0 0=Value.slice none 0 0/\Dc l=Dc l/\Int.ofNat c6=Int.ofNat c6/\0=x/\c1=upM g l x/\True)/\∀(x:Int),let c2:=Dp x (Int.ofNat c6);let c3:=Dk (upM g l x);let c4:=x+1;toI l x->(c2->p x/\c3=Dc l/\0<=x/\x<Dx c3/\c3=Dc l/\inR .i64 c4/\∃y,toI l y/\(AV.clo1 c5 c5.sl.sl p g=AV.clo1 c5 c5.sl.sl p g/\Value.slice none 0 0=Value.slice none 0 0/\Dc l=Dc l/\Int.ofNat c6=Int.ofNat c6/\c4=y/\En (upM g l x) (Dc x) (g x)=upM g l y/\True)/\Dc (l-y)<Dc (l-x))/\(c2=false->c3=Dc l/\upM g l x=upM g l l/\True))):
  evF (mkc KC1) (lvA [(3,[1,4,5,6,10,11])] (aBi l g)) 49 [.dat I l,.clo1 I M p g] [] ⟨mT l p,.dat (.sl M) (upM g l l),[]⟩:=oE b
def KC2: Kt:=kOr 55 (aw [.ptr N,.val M,.val I,.val I,.val I,.val I,.val I] (λ(n,nx,k,o,d,a,b,_)=>cellP n nx k o d a b) λ(n,nx,k,o,d,a,b,_)=>.dat I (sY n nx k o d a b)) KC1
theorem Wv(d k o a b:Int)(nx:Lj)(n:Net)(e:
 true/\(NF n nx k o a b d->cellP n nx k o d a b/\sY n nx k o d a b=NG n nx k o a b d/\True)):
  evF (mkc KC2) az 54 [.dat I d,.ip N n,.ip M nx,.ip I k,.ip I o,.ip I a,.ip I b] [] ⟨NF n nx k o a b d,.dat I (NG n nx k o a b d),[]⟩:=oE e
def M5(args:List AV)(m:Mem): Option ja:=match m,args with
 | [],[.dat (.int .i64) l,.fn f caps]=>if f=54 then match ofK [.ptr N,.ptr M,.ptr I,.ptr I,.ptr I,.ptr I] caps with
  | some (n,nx,k,o,a,b,_)=>some ⟨mT l (NF n nx k o a b),.dat R (upI (NG n nx k o a b) l l),[]⟩
  | none=>none
  else none
 | _,_=>none
def KC3: Kt:=kOr 53 M5 KC2
theorem Ww(o k a b:Int)(nx:Lj)(n:Net)(e:
 let c1:=Df n.2.2.2.1;true/\(M9 n nx k a b o->mT c1 (NF n nx k o a b)/\upI (NG n nx k o a b) c1 c1=I8 n nx k a b o/\True)):
  evF (mkc KC3) az 52 [.dat I o,.ip N n,.ip M nx,.ip I k,.ip I a,.ip I b] [] ⟨M9 n nx k a b o,.dat R (I8 n nx k a b o),[]⟩:=oE e
def MZ(args:List AV)(m:Mem): Option ja:=match m,args with
 | [],[.dat (.int .i64) l,.fn f caps]=>if f=52 then match ofK [.ptr N,.ptr M,.ptr I,.ptr I,.ptr I] caps with
  | some (n,nx,k,a,b,_)=>some ⟨mT l (M9 n nx k a b),.dat M (Ku (I8 n nx k a b) l l),[]⟩
  | none=>none
  else none
 | _,_=>none
def KC4: Kt:=kOr 51 MZ KC3
theorem Wx(k a b:Int)(nx:Lj)(n:Net)(e:
 let c1:=Df n.2.2.2.1;true/\(LK n nx a b k->mT c1 (M9 n nx k a b)/\Ku (I8 n nx k a b) c1 c1=DG n nx a b k/\True)):
  evF (mkc KC4) az 50 [.dat I k,.ip N n,.ip M nx,.ip I a,.ip I b] [] ⟨LK n nx a b k,.dat M (DG n nx a b k),[]⟩:=oE e
def M3(args:List AV)(m:Mem): Option ja:=match m,args with
 | [],[.dat (.int .i64) l,.fn f caps]=>if f=50 then match ofK [.ptr N,.ptr M,.ptr I,.ptr I] caps with
  | some (n,nx,a,b,_)=>some ⟨mT l (LK n nx a b),.dat (.sl M) (upM (DG n nx a b) l l),[]⟩
  | none=>none
  else none
 | _,_=>none
def KC5: Kt:=kOr 49 M3 KC4
theorem KR(nx:Lj)(a b:Int)(cs:LC)(ns os:LB)(j:Lo)(ls:Ll)(h:Lk)(i:
 let c1:=Dp a 0;let c2:=Di c1;let c3:=Ea c1 true (Ei b a);let c4:=Di c3;let c5:=Ea c3 true (Eh b 600);let c6:=Di c5;let c14:=c6->c6->c6;let c7:=Ea c5 true (Eh (b-a) 60);let f:=(cs,ns,os,j,ls,h);let c9:=Kv f nx a b;let g:=Di (bg f);let e:=Di g;let c12:=Ea g true (Di (mO f nx));let c13:=Df h;true/\(cn nx->(c2->c2->c2)/\(c2->c2->c2)/\(Dj true c2->c2)/\(c4->c4->c4)/\(Dj true c4->c4)/\c14/\c14/\(c6->inR .i64 (b-a))/\c14/\(Dj true c6->c6)/\(c7->c9=Dt (Lj)/\True)/\(c7=false->True/\(e->e->e)/\(e->cn nx)/\(e->e->e)/\(Dj true e->e)/\(c12->c9=Dt (Lj)/\True)/\(c12=false->mT c13 (LK f nx a b)/\upM (DG f nx a b) c13 c13=c9/\True)))):
  evF (mkc KC5) az 13 [net cs ns os j ls h,.dat M nx,.dat I a,.dat I b] [] ⟨cn nx,.dat (.sl M) (Kv (cs,ns,os,j,ls,h) nx a b),[]⟩:=oE i
theorem rJ{α:Type}{g:Int->α}{z:α}{l k:Int}(h:toI l k): (upF g z l k).length=l.toNat:=by
 obtain⟨e,b⟩:=h;unfold upF;rw[qF,vG,vI,wG];omega
theorem nz{α:Type}{g:Int->α}{z:α}{l:Int}: List.replicate l.toNat z=upF g z l 0:=by
 unfold upF;simp
theorem oP{α:Type}{g:Int->α}{z:α}{l:Int}: upF g z l l=(List.range l.toNat).map λi:Nat=>g i:=by
 unfold upF;simp
theorem xb{α:Type}{g:Int->α}{z:α}{l k:Int}(i:0<=k)(h:k<l): (upF g z l k).set k.toNat (g k)=upF g z l (k+1):=by
 unfold upF;have e:(k+1).toNat=k.toNat+1:=by omega
 have f:(l-k).toNat=(l-(k+1)).toNat+1:=by omega
 rw[e,f,zU,yU,qBi,List.set_append,if_neg (by simp)];rw[vG,vI,qCc,List.set_cons_zero,List.map_singleton,wM];have b:((k.toNat:Nat):Int)=k:=by omega
 rw[b];rfl
theorem rows_ok{α:Type}{g:Int->α}{z:α}{l:Int}{p:Int->Prop}(h:0<=l)(j:l<=1000000)(u:∀i,0<=i->i<l->p i){q:Int->Prop}{m:Int}(hm:m<=100)(L:0<=m)(r:∀x,0<=x/\x<=1000001->q x):
  0<=l/\m*l<=281474976710656/\l<=9223372036854775807/\(List.replicate l.toNat z).length=l.toNat/\(∃x,toI l x/\0=x/\List.replicate l.toNat z=upF g z l x)/\
  ∀x,toI l x->(x<((l.toNat:Nat):Int)->p x/\(upF g z l x).length=l.toNat/\0<=x/\x<((upF g z l x).length:Int)/\(upF g z l x).length=l.toNat/\q (x+1)/\∃y,toI l y/\(x+1=y/\(upF g z l x).set x.toNat (g x)=upF g z l y)/\(l-y).toNat<(l-x).toNat)/\
   (¬x<((l.toNat:Nat):Int)->(upF g z l x).length=l.toNat/\upF g z l x=upF g z l l):=by
 have v:m*l<=100*1000000:=xJ hm j h (by omega);refine⟨h,by omega,by omega,by simp,⟨0,⟨by omega,h⟩,rfl,nz⟩,λx b=>⟨λA=>?_,λG=>?_⟩⟩
 .have e:=rJ (g:=g) (z:=z) b;have f:=b.1;exact⟨u x f (by omega),e,f,by omega,e,r _ (by omega),x+1,⟨by omega,by omega⟩,⟨rfl,xb f (by omega)⟩,by omega⟩
 .have e:=rJ (g:=g) (z:=z) b;obtain⟨f,O⟩:=b;exact⟨e,by rw[show x=l by omega]⟩
theorem Xq(l:Int)(p:Int->Prop)(g:Int->Int): af Tryz.prog G0 53 [.dat I l,.clo1 I I p g] [] ⟨mT l p,.dat R (upI g l l),[]⟩:=by
 refine ae (c:=mkc KC1) aCk aK hm (Qx l p g ⟨rfl,λb=>?_⟩);obtain⟨⟨f,e⟩,b⟩:=b;simp only[qc,Dj,Es,Di,qd,Dt,Eb,Ec,Dp,Eh,Ei,Ed,Ey,Df,Et,Dl,Dn,Eo,Dy,Dw,Dh,Dq,Ee,Fh,Dc,Dx,Dk,Dz,Ej,Du,Eu,Ez,En,Ef,Fe,Fj,Fg,Ep,Em,Ew,Fb];exact rows_ok f e b (by omega) (by omega) (λx h=>aL (by omega))
theorem Xo(l:Int)(p:Int->Prop)(g:Int->Li): af Tryz.prog G0 51 [.dat I l,.clo1 I R p g] [] ⟨mT l p,.dat M (Ku g l l),[]⟩:=by
 refine ae (c:=mkc KC1) aCk aK hm (Qv l p g ⟨rfl,λb=>?_⟩);obtain⟨⟨f,e⟩,b⟩:=b;simp only[qc,Dj,Es,Di,qd,Dt,Eb,Ec,Dp,Eh,Ei,Ed,Ey,Df,Et,Dl,Dn,Eo,Dy,Dw,Dh,Dq,Ee,Fh,Dc,Dx,Dk,Dz,Ej,Du,Eu,Ez,En,Ef,Fe,Fj,Fg,Ep,Em,Ew,Fb];exact rows_ok f e b (by omega) (by omega) (λx h=>aL (by omega))
theorem Xp(l:Int)(p:Int->Prop)(g:Int->Lj): af Tryz.prog G0 49 [.dat I l,.clo1 I M p g] [] ⟨mT l p,.dat (.sl M) (upM g l l),[]⟩:=by
 refine ae (c:=mkc KC1) aCk aK hm (Qw l p g ⟨rfl,λb=>?_⟩);obtain⟨⟨f,e⟩,b⟩:=b;simp only[qc,Dj,Es,Di,qd,Dt,Eb,Ec,Dp,Eh,Ei,Ed,Ey,Df,Et,Dl,Dn,Eo,Dy,Dw,Dh,Dq,Ee,Fh,Dc,Dx,Dk,Dz,Ej,Du,Eu,Ez,En,Ef,Fe,Fj,Fg,Ep,Em,Ew,Fb];exact rows_ok f e b (by omega) (by omega) (λx h=>aL (by omega))
theorem aFB: aj Tryz.prog G0 KC2:=ai (ag λ(n,nx,k,o,d,a,b,_)=>Xv k o d a b nx n) aCk
theorem aAy(d k o a b:Int)(nx:Lj)(n:Net): af Tryz.prog G0 54 [.dat I d,.ip N n,.ip M nx,.ip I k,.ip I o,.ip I a,.ip I b] [] ⟨NF n nx k o a b d,.dat I (NG n nx k o a b d),[]⟩:=
 ae (c:=mkc KC2) aFB aK hm (Wv d k o a b nx n ⟨rfl,λe=>⟨e,rfl,trivial⟩⟩)
theorem pq{P:Program}{C:Ctx}{f:FuncId}{l:List AK}{caps:List AV}{x:AKs l}{v:Value}(h:ofK l caps=some x)(b:(AV.fn f caps).rel P C v): (AV.fn f (avK l x)).rel P C v:=by
 obtain⟨us,rfl,e⟩:=b;exact⟨us,rfl,dZ h e⟩
theorem M4: ∀args m c,M5 args m=some c->af Tryz.prog G0 53 args m c:=by
 intro args m c e;unfold M5 at e;split at e
 case h_2=>cases e
 rename_i l f caps;split at e
 case isFalse=>cases e
 rename_i j;subst j;split at e
 case h_2=>cases e
 rename_i n nx k o a b _ g;cases e;exact(Xq _ _ _).args λC us r i=>fF i λv h=>jB (by kernel_rfl) rfl (λx=>aAy x k o a b nx n) r (pq g h)
theorem aFA: aj Tryz.prog G0 KC3:=ai M4 aFB
theorem Ze(cs:LC)(ns os:LB)(e:Lo)(ls:Ll)(b:Lk)(h:noF (cs,ns,os,e,ls,b)=true): (b.length:Int)<=4:=by
 have:=((ru (by decide)).1 (iL cs ns os e ls b h).2.2.2.2.2).1;simpa[aE]using this
theorem lq(cs:LC)(ns os:LB)(f:Lo)(ls:Ll)(b:Lk)(h:bg (cs,ns,os,f,ls,b)=true): (f.length:Int)<=12/\(b.length:Int)<=1000000:=by
 have e:=bD cs ns os f ls b h;exact⟨(gw cs ns os f ls b e).1,by have:=Ze cs ns os f ls b e;omega⟩
theorem aAz(o k a b:Int)(nx:Lj)(n:Net): af Tryz.prog G0 52 [.dat I o,.ip N n,.ip M nx,.ip I k,.ip I a,.ip I b] [] ⟨M9 n nx k a b o,.dat R (I8 n nx k a b o),[]⟩:=by
 refine ae (c:=mkc KC3) aFA aK hm (Ww o k a b nx n ⟨rfl,λ⟨f,h,g⟩=>?_⟩);simp only[qc,Dj,Es,Di,qd,Dt,Eb,Ec,Dp,Eh,Ei,Ed,Ey,Df,Et,Dl,Dn,Eo,Dy,Dw,Dh,Dq,Ee,Fh,Dc,Dx,Dk,Dz,Ej,Du,Eu,Ez,En,Ef,Fe,Fj,Fg,Ep,Em,Ew,Fb];obtain⟨e,r⟩:=lq n.1 n.2.1 n.2.2.1 n.2.2.2.1 n.2.2.2.2.1 n.2.2.2.2.2 f.1;have e:(n.2.2.2.1.length:Int)<=12:=e;refine⟨⟨⟨by omega,by omega⟩,λd j i=>⟨f,h,g,j,i⟩⟩,?_⟩;unfold upI I8 aCE;rw[oP,qZ];rfl
theorem MY: ∀args m c,MZ args m=some c->af Tryz.prog G0 51 args m c:=by
 intro args m c e;unfold MZ at e;split at e
 case h_2=>cases e
 rename_i l f caps;split at e
 case isFalse=>cases e
 rename_i j;subst j;split at e
 case h_2=>cases e
 rename_i n nx k a b _ g;cases e;exact(Xo _ _ _).args λC us r i=>fF i λv h=>jB (by kernel_rfl) rfl (λx=>aAz x k a b nx n) r (pq g h)
theorem aFz: aj Tryz.prog G0 KC4:=ai MY aFA
theorem aAA(k a b:Int)(nx:Lj)(n:Net): af Tryz.prog G0 50 [.dat I k,.ip N n,.ip M nx,.ip I a,.ip I b] [] ⟨LK n nx a b k,.dat M (DG n nx a b k),[]⟩:=by
 refine ae (c:=mkc KC4) aFz aK hm (Wx k a b nx n ⟨rfl,λ⟨f,i⟩=>?_⟩);simp only[qc,Dj,Es,Di,qd,Dt,Eb,Ec,Dp,Eh,Ei,Ed,Ey,Df,Et,Dl,Dn,Eo,Dy,Dw,Dh,Dq,Ee,Fh,Dc,Dx,Dk,Dz,Ej,Du,Eu,Ez,En,Ef,Fe,Fj,Fg,Ep,Em,Ew,Fb];obtain⟨e,j⟩:=lq n.1 n.2.1 n.2.2.1 n.2.2.2.1 n.2.2.2.2.1 n.2.2.2.2.2 f.1;have e:(n.2.2.2.1.length:Int)<=12:=e;refine⟨⟨⟨by omega,by omega⟩,λo h g=>⟨f,i,h,g⟩⟩,?_⟩;unfold Ku DG aCB;rw[oP,qZ];rfl
theorem M1: ∀args m c,M3 args m=some c->af Tryz.prog G0 49 args m c:=by
 intro args m c e;unfold M3 at e;split at e
 case h_2=>cases e
 rename_i l f caps;split at e
 case isFalse=>cases e
 rename_i j;subst j;split at e
 case h_2=>cases e
 rename_i n nx a b _ g;cases e;exact(Xp _ _ _).args λC us r i=>fF i λv h=>jB (by kernel_rfl) rfl (λx=>aAA x a b nx n) r (pq g h)
theorem aGe: aj Tryz.prog G0 KC5:=ai M1 aFz
theorem RH(nx:Lj)(a b:Int)(cs:LC)(ns os:LB)(f:Lo)(ls:Ll)(e:Lk): af Tryz.prog G0 13 [net cs ns os f ls e,.dat M nx,.dat I a,.dat I b] [] ⟨cn nx,.dat (.sl M) (Kv (cs,ns,os,f,ls,e) nx a b),[]⟩:=by
 refine ae (c:=mkc KC5) aGe aK hm (KR nx a b cs ns os f ls e ⟨rfl,λv=>?_⟩);simp only[qc,Dj,Es,Di,qd,Dt,Eb,Ec,Dp,Eh,Ei,Ed,Ey,Df,Et,Dl,Dn,Eo,Dy,Dw,Dh,Dq,Ee,Fh,Dc,Dx,Dk,Dz,Ej,Du,Eu,Ez,En,Ef,Fe,Fj,Fg,Ep,Em,Ew,Fb];have no:¬Rx (cs,ns,os,f,ls,e) nx a b=true->Kv (cs,ns,os,f,ls,e) nx a b=[]:=λh=>if_neg h
 have iff:Rx (cs,ns,os,f,ls,e) nx a b=true↔(0<=a/\a<b/\b<=600/\b-a<=60)/\bg (cs,ns,os,f,ls,e)=true/\mO (cs,ns,os,f,ls,e) nx=true:=by
  unfold Rx;rw[qC,qC,qE]
 refine⟨λh=>aL (by omega),λh=>no (λg=>by have:=(iff.1 g).1;omega),λh=>⟨λ_=>v,λg=>no (λq=>?_),λ⟨i,j⟩=>?_⟩⟩
 .have:=(iff.1 q).2;rcases g with g | g<;>simp[g]at this
 .obtain⟨y,x⟩:=lq cs ns os f ls e i;refine⟨⟨⟨by omega,by omega⟩,λk u r=>⟨⟨i,j,by omega,by omega,by omega,by omega⟩,u,r⟩⟩,?_⟩;unfold Kv;rw[if_pos (iff.2 ⟨by omega,i,j⟩)];unfold upM DG;rw[oP,qZ]
open Go.Eng.Mp (aJ ca pM upto at2 od)
def fH(p:Int): Bool:=decide (2<=p)&&decide (p<=64)
def oJ(b e:Int): Int:=b ^ e.toNat
def Ym(b e:Int): Prop:=0<=b/\b<=64/\e<=4
def S3(b e k:Int): Prop:=Ym b e/\0<=k/\(k<=e\/k=0)
def I0(p q n:Int): Bool:=(((fH p&&decide (1<=q))&&decide (q<=4))&&decide (0<=n))&&decide (n<=2000)
def ux(p q n:Int): Int:=if I0 p q n=true then if oJ p q<n then 140 else 0 else 1
def Vq(p k d:Int): Int:=Int.tmod (Int.tdiv d (oJ p k)) p
def fN(p q n:Int): Lj:=if ux p q n=0 then(List.range q.toNat).map λk:Nat=>(List.range n.toNat).map λd:Nat=>Vq p k d else[]
def X1(p q n k:Int): Lj:=((List.range k.toNat).map λj:Nat=>(List.range n.toNat).map λd:Nat=>Vq p j d)++List.replicate (q-k).toNat []
def ZJ(p n j k:Int): Li:=upF (Vq p j) 0 n k
def MI(p q n k:Int): Prop:=ux p q n=0/\0<=k/\k<=q
def SB(p q n j k:Int): Prop:=MI p q n j/\j<q/\0<=k/\k<=n
def km(a b:Int): Bool:=((decide (0<=a)&&decide (a<b))&&decide (b<=600))&&decide (b-a<=60)
def KC6: Kt:=kOr 20 (aw [.row N,.row Pl] (λ(_,p,_)=>fb p) λ(n,p,_)=>.tup [.agg [.dat R (wrN n p),.dat I (wrS n p)],.dat I (wrE n p)]) <|
 kOr 13 (aw [.row N,.val M,.val I,.val I] (λ(_,nx,_,_,_)=>cn nx) λ(n,nx,a,b,_)=>.dat (.sl M) (Kv n nx a b)) <|
 kOr 23 (aw [.row N,.val I,.val I] (λ_=>True) λ(n,a,b,_)=>.dat M (lh n a b)) KQ3
theorem WN(p:Int)(b:
 let c1:=Ed p 2;true/\(True->(c1->c1->c1)/\(Dj true c1->c1)/\Ea c1 (Ei p 64) false=fH p/\True)):
  evF (mkc KC6) az 84 [.dat I p] [] ⟨True,.dat .bool (fH p),[]⟩:=oE b
def aFS(b e:Int): Ann:=⟨λid s=>match id with
 | 3=>some {α:=Int,inv:=λk=>S3 b e k,st:=λk=>put s [(7,.dat I k),(5,.dat I (oJ b k))],μ:=λk=>Dc (Dh e k)}
 | _=>none,λ_ _=>none,λ_ _=>none⟩
theorem oT(b e:Int)(f:
 true/\(Ym b e->(∃x,S3 b e x/\b=b/\(0:Int)=(0:Int)/\1=oJ b x/\e=e/\0=x/\True)/\∀(x:Int),let c1:=oJ b x*b;let c2:=x+1;S3 b e x->(Dp x e->inR .i64 c1/\inR .i64 c2/\∃y,S3 b e y/\(b=b/\(0:Int)=(0:Int)/\c1=oJ b y/\e=e/\c2=y/\True)/\Dc (e-y)<Dc (e-x))/\(Dp x e=false->oJ b x=oJ b e/\True))):
  evF (mkc KC6) (lvA [(3,[0,4,5,6,7])] (aFS b e)) 85 [.dat I b,.dat I e] [] ⟨Ym b e,.dat I (oJ b e),[]⟩:=oE f
def KC7: Kt:=kOr 84 (aw [.val I] (λ_=>True) λ(p,_)=>.dat .bool (fH p)) <|
 kOr 85 (aw [.val I,.val I] (λ(b,e,_)=>Ym b e) λ(b,e,_)=>.dat I (oJ b e)) KC6
def aFP(p q n:Int): Ann:=⟨λid s=>match id with
 | 7=>match s.sig.T 8 with
  | .buf nm _=>some {α:=Int,inv:=λk=>MI p q n k,st:=λk=>gC (put s [(38,.dat I k)]) nm (.mat 36 3 I (X1 p q n k) []),μ:=λk=>Dc (Dh q k)}
  | _=>none
 | 11=>match s.sig.T 9,s.sig.T 8,s.sig.T 44 with
  | .dat (.int .i64) j,.buf nm _,.buf nm2 n2=>some {α:=Int,inv:=λk=>SB p q n j k,st:=λk=>gC (gC (put s [(47,.dat I k)]) nm (.mat 36 3 I (X1 p q n j) [(Dc j,.buf nm2 n2)])) nm2 (.buf 3 I (ZJ p n j k) []),μ:=λk=>Dc (Dh n k)}
  | _,_,_=>none
 | _=>none,λ_ _=>none,λ_ _=>none⟩
theorem Z9(p q n:Int)(j:
 let f:=Di (fH p);let c1:=Ea f true (Dp q 1);let c2:=Di c1;let c3:=Ea c1 true (Eh q 4);let c4:=Di c3;let c5:=Ea c3 true (Dp n 0);let c6:=Di c5;let c7:=Ea c5 true (Eh n 2000);let r:=Dp (oJ p q) n;let c9:=Ep n (0:Int);true/\(True->True/\(Di f->Di f->Di f)/\(Dj true (Di f)->Di f)/\(c2->c2->c2)/\(Dj true c2->c2)/\(c4->c4->c4)/\(Dj true c4->c4)/\(c6->c6->c6)/\(Dj true c6->c6)/\(c7->fN p q n=Dt (Li)/\1=ux p q n/\True)/\(c7=false->Ym p q/\(r->fN p q n=Dt (Li)/\140=ux p q n/\True)/\(r=false->0<=q/\(Dx 24*q)<=281474976710656/\q<=9223372036854775807/\(∃x,let i:=X1 p q n x;MI p q n x/\p=p/\n=n/\Value.slice none 0 0=Value.slice none 0 0/\(0:Int)=(0:Int)/\Dc q=Dc q/\q=q/\0=x/\Ep q (Dt Int)=i/\Fb i/\True)/\∀(x:Int),let e:=X1 p q n x;let c12:=Dk e;let c13:=x+1;MI p q n x->(Dp x q->0<=n/\(Dx 8*n)<=281474976710656/\n<=9223372036854775807/\c12=Dc q/\0<=x/\x<Dx c12/\c12=Dc q/\Dk c9=Dc n/\(∃b,SB p q n x b/\p=p/\n=n/\Value.slice none 0 0=Value.slice none 0 0/\(0:Int)=(0:Int)/\Dc q=Dc q/\x=x/\q=q/\x=x/\n=n/\0=b/\e=e/\Dc x=Dc x/\Dc n=Dc n/\c9=ZJ p n x b/\True)/\∀(b:Int),let c14:=Gg b (oJ p x);let c15:=ZJ p n x b;let g:=Dk c15;let h:=b+1;
 SB p q n x b->(Dp b n->c12=Dc q/\0<=x/\x<Dx c12/\c12=Dc q/\Dc x=Dc x/\Ym p x/\oJ p x≠0/\inR .i64 c14/\p≠0/\g=Dc n/\0<=b/\b<Dx g/\g=Dc n/\inR .i64 h/\∃y,SB p q n x y/\(p=p/\n=n/\Value.slice none 0 0=Value.slice none 0 0/\(0:Int)=(0:Int)/\Dc q=Dc q/\x=x/\q=q/\x=x/\n=n/\h=y/\e=e/\Dc x=Dc x/\Dc n=Dc n/\En c15 (Dc b) (Fq c14 p)=ZJ p n x y/\True)/\Dc (n-y)<Dc (n-b))/\(Dp b n=false->inR .i64 c13/\∃y,MI p q n y/\(p=p/\n=n/\Value.slice none 0 0=Value.slice none 0 0/\(0:Int)=(0:Int)/\Dc q=Dc q/\q=q/\c13=y/\Dk c15=Dc n/\En e (Dc x) c15=X1 p q n y/\True)/\Dc (q-y)<Dc (q-x)))/\(Dp x q=false->Dk e=Dc q/\e=fN p q n/\0=ux p q n/\True))))):
  evF (mkc KC7) (lvA [(7,[0,2,6,7,8,9,10,37,38,46,47]),(11,[0,2,6,7,8,9,10,37,38,46,47])] (aFP p q n)) 28 [.dat I p,.dat I q,.dat I n] [] ⟨True,.tup [.dat M (fN p q n),.dat I (ux p q n)],[]⟩:=oE j
theorem Q8(a b:Int)(e:
 let c1:=Ed a 0;let c2:=Ea c1 (Eh b a) false;let c3:=Ea c2 (Ei b 600) false;let c4:=c3->c3->c3;true/\(True->(c1->c1->c1)/\(c1->c1->c1)/\(Dj true c1->c1)/\(c2->c2->c2)/\(Dj true c2->c2)/\c4/\c4/\(c3->inR .i64 (b-a))/\c4/\(Dj true c3->c3)/\Ea c3 (Ei (b-a) 60) false=km a b/\True)):
  evF (mkc KC7) az 105 [.dat I a,.dat I b] [] ⟨True,.dat .bool (km a b),[]⟩:=oE e
theorem Lp(cs:LC)(ns os:LB)(f:Lo)(ls:Ll)(b:Lk)(e:
 let c1:=(cs,ns,os,f,ls,b);true/\(True->True/\Eb (Df (fa c1)) 0=bg c1/\True)):
  evF (mkc KC7) az 43 [net cs ns os f ls b] [] ⟨True,.dat .bool (bg (cs,ns,os,f,ls,b)),[]⟩:=oE e
theorem aEQ: aj Tryz.prog G0 KC6:=ai (ag λ((cs,ns,os,f,ls,e),(p1,p2,nx,g),_)=>Xh cs ns os f ls e p1 p2 nx g)<|ai (ag λ((cs,ns,os,f,ls,e),nx,a,b,_)=>RH nx a b cs ns os f ls e)<|ai (ag λ((cs,ns,os,f,ls,e),a,b,_)=>Xr a b cs ns os f ls e) aFu
theorem aAH(p:Int): af Tryz.prog G0 84 [.dat I p] [] ⟨True,.dat .bool (fH p),[]⟩:=by
 refine ae (c:=mkc KC6) aEQ aK hm (WN p ⟨rfl,λ_=>?_⟩);refine⟨λh _=>h,λh=>h,?_,trivial⟩;unfold fH;cases e:decide (2<=p)<;>simp[Ea,Ed,Ei,e]<;>simpa using e
theorem D4{b:Int}(e:0<=b)(h:b<=64): ∀k:Nat,0<=b ^ k/\b ^ k<=64 ^ k
 | 0=>by simp
 | k+1=>by
  obtain⟨g,f⟩:=D4 e h k;rw[Int.pow_succ,Int.pow_succ];exact⟨qAb g e,xJ f h e (Int.le_trans g f)⟩
theorem aBo{b e:Int}(j:0<=b)(i:b<=64)(r:e<=4): 0<=oJ b e/\oJ b e<=16777216:=by
 unfold oJ;obtain⟨g,f⟩:=D4 j i e.toNat;have:e.toNat<=4:=by omega
 refine⟨g,Int.le_trans f ?_⟩;rcases(by omega:e.toNat=0\/e.toNat=1\/e.toNat=2\/e.toNat=3\/e.toNat=4)with h | h | h | h | h<;>rw[h]<;>decide
theorem Hl{b k:Int}(h:0<=k): oJ b (k+1)=oJ b k*b:=by
 unfold oJ;rw[show(k+1).toNat=k.toNat+1 by omega,Int.pow_succ]
theorem aDH(b e:Int): af Tryz.prog G0 85 [.dat I b,.dat I e] [] ⟨Ym b e,.dat I (oJ b e),[]⟩:=by
 refine ae (c:=mkc KC6) aEQ aK hm (oT b e ⟨rfl,λf=>?_⟩);simp only[qc,Dj,Es,Di,qd,Dt,Eb,Ec,Dp,Eh,Ei,Ed,Ey,Df,Et,Dl,Dn,Eo,Dy,Dw,Dh,Dq,Ee,Fh,Dc,Dx,Dk,Dz,Ej,Du,Eu,Ez,En,Ef,Fe,Fj,Fg,Ep,Em,Ew,Fb];obtain⟨v,u,y⟩:=id f;refine⟨⟨0,⟨f,by omega,.inr rfl⟩,by unfold oJ;simp,rfl⟩,λx ⟨_,g,x1⟩=>⟨λj=>?_,λr=>?_⟩⟩
 .obtain⟨i,h⟩:=aBo v u (e:=x+1) (by omega);rw[Hl g]at i h;exact⟨aL (by omega),aL (by omega),x+1,⟨f,by omega,by omega⟩,⟨(Hl g).symm,rfl⟩,by omega⟩
 .unfold oJ;rw[show x.toNat=e.toNat by omega]
theorem Zw: aj Tryz.prog G0 KC7:=ai (ag λ(p,_)=>aAH p)<|ai (ag λ(b,e,_)=>aDH b e) aEQ
def aE8(p n j:Int): Li:=(List.range n.toNat).map λd:Nat=>Vq p j d
theorem rZ(p q n k:Int): X1 p q n k=upF (aE8 p n) [] q k:=rfl
theorem SA(p n j:Int): ZJ p n j n=aE8 p n j:=oP
theorem aDp(p q n:Int): af Tryz.prog G0 28 [.dat I p,.dat I q,.dat I n] [] ⟨True,.tup [.dat M (fN p q n),.dat I (ux p q n)],[]⟩:=by
 refine ae (c:=mkc KC7) Zw aK hm (Z9 p q n ⟨rfl,λ_=>?_⟩);simp only[qc,Dj,Es,Di,qd,Dt,Eb,Ec,Dp,Eh,Ei,Ed,Ey,Df,Et,Dl,Dn,Eo,Dy,Dw,Dh,Dq,Ee,Fh,Dc,Dx,Dk,Dz,Ej,Du,Eu,Ez,En,Ef,Fe,Fj,Fg,Ep,Em,Ew,Fb];have no:ux p q n≠0->fN p q n=[]:=λh=>if_neg h
 have X:fH p=true↔2<=p/\p<=64:=by unfold fH;rw[qC,qE,qE]
 have eO:I0 p q n=true↔((((2<=p/\p<=64)/\1<=q)/\q<=4)/\0<=n)/\n<=2000:=by
  unfold I0;simp only[qC,qE,X]
 refine⟨λh=>?_,λ⟨⟨⟨⟨h1,h2⟩,h3⟩,h4⟩,h5⟩=>?_⟩
 .have V:¬I0 p q n=true:=λg=>by
   have g:=eO.1 g;rcases h with(((h | h) | h) | h) | h
   .rw[X.2 ⟨by omega,by omega⟩]at h;cases h
   all_goals omega
  have:ux p q n=1:=if_neg V;exact⟨no (by rw[this];decide),this.symm⟩
 obtain⟨m0,m1⟩:=X.1 h1;have V:I0 p q n=true:=eO.2 (by omega);have G:ux p q n=if oJ p q<n then 140 else 0:=if_pos V
 refine⟨⟨by omega,by omega,by omega⟩,λh=>?_,λh=>?_⟩
 .have:ux p q n=140:=by rw[G,if_pos h]
  exact⟨no (by rw[this];decide),this.symm⟩
 have v:ux p q n=0:=by rw[G,if_neg h]
 have l1:∀{x:Int},0<=x->x<=q->(X1 p q n x).length=q.toNat:=λa b=>by rw[rZ];exact rJ ⟨a,b⟩
 have l2:∀{j x:Int},0<=x->x<=n->(ZJ p n j x).length=n.toNat:=λa b=>rJ ⟨a,b⟩
 refine⟨by omega,by omega,by omega,⟨0,⟨v,by omega,by omega⟩,rfl,by rw[rZ,<- nz],?_⟩,λx ⟨_,f,x1⟩=>⟨λi=>?_,λT=>?_⟩⟩
 .rw[rZ,<- nz];exact λr hr=>kM hr
 .have L:=l1 f x1;refine⟨by omega,by omega,by omega,L,f,by omega,L,by simp,⟨0,⟨⟨v,f,x1⟩,i,by omega,by omega⟩,rfl,nz⟩,λy ⟨_,_,u,Z⟩=>⟨λz=>?_,λT=>?_⟩⟩
  .have A:=l2 (j:=x) u Z;obtain⟨w0,w1⟩:=D4 (b:=p) (by omega) (by omega) x.toNat;have O:oJ p x≠0:=λe=>by
    have:p ^ x.toNat≠0:=Int.pow_ne_zero (by omega);exact this e
   have hq:0<=Gg y (oJ p x)/\Gg y (oJ p x)<=y:=⟨Int.tdiv_nonneg u w0,Int.tdiv_le_self _ u⟩;exact⟨L,f,by omega,L,⟨by omega,by omega,by omega⟩,O,aL (by omega),by omega,A,u,by omega,A,aL (by omega),y+1,⟨⟨v,f,x1⟩,i,by omega,by omega⟩,⟨rfl,xb u z⟩,by omega⟩
  .have hy:y=n:=by omega
   subst hy;exact⟨aL (by omega),x+1,⟨v,by omega,by omega⟩,⟨rfl,l2 u Z,by rw[SA,rZ];exact xb f i⟩,by omega⟩
 .have hx:x=q:=by omega
  subst hx;refine⟨l1 f x1,?_,v.symm⟩;unfold fN;rw[if_pos v,rZ,oP];rfl
theorem XR(a b:Int): af Tryz.prog G0 105 [.dat I a,.dat I b] [] ⟨True,.dat .bool (km a b),[]⟩:=by
 refine ae (c:=mkc KC7) Zw aK hm (Q8 a b ⟨rfl,λ_=>?_⟩);simp only[qc,Dj,Es,Di,qd,Dt,Eb,Ec,Dp,Eh,Ei,Ed,Ey,Df,Et,Dl,Dn,Eo,Dy,Dw,Dh,Dq,Ee,Fh,Dc,Dx,Dk,Dz,Ej,Du,Eu,Ez,En,Ef,Fe,Fj,Fg,Ep,Em,Ew,Fb];exact⟨λh=>aL (by omega),rfl⟩
theorem RU(cs:LC)(ns os:LB)(e:Lo)(ls:Ll)(b:Lk): af Tryz.prog G0 43 [net cs ns os e ls b] [] ⟨True,.dat .bool (bg (cs,ns,os,e,ls,b)),[]⟩:=by
 refine ae (c:=mkc KC7) Zw aK hm (Lp cs ns os e ls b ⟨rfl,λ_=>⟨trivial,?_,trivial⟩⟩);rw[Av];rfl
def Ia(n:Net)(p:Plan): Int:=if(km p.1 p.2.1&&bg n)=true then 0 else 1
def Y8(n:Net)(p:Plan): Plan:=(p.1,p.2.1,lh n (1440*p.1) (1440*p.2.1),p.2.2.2)
def Y9(n:Net)(p:Plan): Plan:=(p.1,p.2.1,p.2.2.1,Kv n p.2.2.1 p.1 p.2.1)
def aBW(p:Plan): Prop:=0<=p.1/\p.1<=1000/\0<=p.2.1/\p.2.1<=1000
abbrev i7:=Li×Int
def O0(n:Net)(p:Plan)(c:i7): List AV:=[.dat (.sl C) n.1,.dat (.sl S) n.2.1,.dat (.sl S) n.2.2.1,.dat (.sl Of) n.2.2.2.1,.dat (.sl Ln) n.2.2.2.2.1,.dat (.sl Kl) n.2.2.2.2.2,.dat I p.1,.dat I p.2.1,.dat M p.2.2.1,.dat (.sl M) p.2.2.2,.dat R c.1,.dat I c.2]
def rD(n:Net)(p:Plan)(c:i7): Mem:=[(2,.var (O0 n p c))]
def asC: Mem->Option (Net×Plan×i7)
 | [(2,.var [a1,a2,a3,a4,a5,a6,a7,a8,a9,a10,a11,a12])]=>match fZ (.sl C) a1,fZ (.sl S) a2,fZ (.sl S) a3,fZ (.sl Of) a4,fZ (.sl Ln) a5,fZ (.sl Kl) a6,fZ I a7,fZ I a8,fZ M a9,fZ (.sl M) a10,fZ R a11,fZ I a12 with
  | some cs,some ns,some os,some fs,some ls,some ks,some p1,some p2,some p3,some p4,some c1,some c2=>some ((cs,ns,os,fs,ls,ks),(p1,p2,p3,p4),(c1,c2))
  | _,_,_,_,_,_,_,_,_,_,_,_=>none
 | _=>none
def cK(pre:Net->Plan->Prop)(ret:Net->Plan->Int)(nxt:Net->Plan->i7->Plan×i7)(args:List AV)(m:Mem): Option ja:=match asC m,args with
 | some (n,p,c),[.ptr 2 1 0 0]=>some ⟨pre n p,.dat I (ret n p),rD n (nxt n p c).1 (nxt n p c).2⟩
 | _,_=>none
def KC8: Kt:=kOr 105 (aw [.val I,.val I] (λ_=>True) λ(a,b,_)=>.dat .bool (km a b)) <|
 kOr 43 (aw [.row N] (λ_=>True) λ(n,_)=>.dat .bool (bg n)) <|
 kOr 28 (aw [.val I,.val I,.val I] (λ_=>True) λ(p,q,n,_)=>.tup [.dat M (fN p q n),.dat I (ux p q n)]) KC7
theorem Lr(n:Net)(p:Plan)(c:i7)(e:
 let c6:=p.2.1;let c3:=n.2.2.1;let c2:=p.2.2;let c1:=n.2.2.2;let c4:=Di (km p.1 c6);let c5:=Di c4;let f:=c5->1=1;let c7:=c5->c5->c5;let b:=Ea c4 true (Di (bg n));true/\(True->1=1/\1=1/\1=1/\1=1/\1=1/\0=0/\1=1/\1=1/\1=1/\1=1/\0=0/\True/\c7/\f/\c7/\f/\c7/\f/\(c5->0=0)/\c7/\(c5->True)/\c7/\(Dj true c5->c5)/\(b->1=Ia n p/\n.1=n.1/\n.2.1=n.2.1/\c3=c3/\c1.1=c1.1/\c1.2.1=c1.2.1/\c1.2.2=c1.2.2/\p.1=p.1/\c6=c6/\c2.1=c2.1/\c2.2=c2.2/\c.1=c.1/\c.2=c.2/\1=1/\True)/\(b=false->0=Ia n p/\n.1=n.1/\n.2.1=n.2.1/\c3=c3/\c1.1=c1.1/\c1.2.1=c1.2.1/\c1.2.2=c1.2.2/\p.1=p.1/\c6=c6/\c2.1=c2.1/\c2.2=c2.2/\c.1=c.1/\c.2=c.2/\1=1/\True))):
  evF (mkc KC8) az 38 [.ptr 2 1 0 0] (rD n p c) ⟨True,.dat I (Ia n p),rD n p c⟩:=oE e
theorem Lq(n:Net)(p:Plan)(c:i7)(e:
 let c1:=n.2.2.2;let c2:=1440*p.1;let c5:=1440*p.2.1;let b:=(Y8 n p).2;true/\(aBW p->1=1/\1=1/\1=1/\1=1/\0=0/\1=1/\1=1/\1=1/\1=1/\0=0/\inR .i64 c2/\1=1/\1=1/\1=1/\1=1/\0=0/\inR .i64 c5/\True/\1=1/\1=1/\1=1/\1=1/\0=0/\(0:Int)=(0:Int)/\n.1=n.1/\n.2.1=n.2.1/\n.2.2.1=n.2.2.1/\c1.1=c1.1/\c1.2.1=c1.2.1/\c1.2.2=c1.2.2/\p.1=(Y8 n p).1/\p.2.1=b.1/\lh n c2 c5=b.2.1/\p.2.2.2=b.2.2/\c.1=c.1/\c.2=c.2/\1=1/\True)):
  evF (mkc KC7) az 39 [.ptr 2 1 0 0] (rD n p c) ⟨aBW p,.dat I 0,rD n (Y8 n p) c⟩:=oE e
theorem QZ(n:Net)(p:Plan)(c:i7)(b:
 let c2:=p.2.2.1;let c1:=n.2.2.2;let c15:=(Y9 n p).2;true/\(cn c2->1=1/\1=1/\1=1/\1=1/\0=0/\1=1/\1=1/\1=1/\1=1/\0=0/\1=1/\1=1/\1=1/\1=1/\0=0/\1=1/\1=1/\1=1/\1=1/\0=0/\cn c2/\1=1/\1=1/\1=1/\1=1/\0=0/\(0:Int)=(0:Int)/\n.1=n.1/\n.2.1=n.2.1/\n.2.2.1=n.2.2.1/\c1.1=c1.1/\c1.2.1=c1.2.1/\c1.2.2=c1.2.2/\p.1=(Y9 n p).1/\p.2.1=c15.1/\c2=c15.2.1/\Kv n c2 p.1 p.2.1=c15.2.2/\c.1=c.1/\c.2=c.2/\1=1/\True)):
  evF (mkc KC7) az 41 [.ptr 2 1 0 0] (rD n p c) ⟨cn p.2.2.1,.dat I 0,rD n (Y9 n p) c⟩:=oE b
theorem Q9(n:Net)(p:Plan)(c:i7)(b:
 let c1:=n.2.2.2;true/\(fb p->1=1/\1=1/\1=1/\1=1/\0=0/\1=1/\1=1/\1=1/\0=0/\fb p/\1=1/\1=1/\1=1/\0=0/\wrE n p=wrE n p/\n.1=n.1/\n.2.1=n.2.1/\n.2.2.1=n.2.2.1/\c1.1=c1.1/\c1.2.1=c1.2.1/\c1.2.2=c1.2.2/\p.1=p.1/\p.2.1=p.2.1/\p.2.2.1=p.2.2.1/\p.2.2.2=p.2.2.2/\wrN n p=wrN n p/\wrS n p=wrS n p/\1=1/\True)):
  evF (mkc KC7) az 42 [.ptr 2 1 0 0] (rD n p c) ⟨fb p,.dat I (wrE n p),rD n p (wrN n p,wrS n p)⟩:=oE b
theorem KC: aj Tryz.prog G0 KC8:=ai (ag λ(a,b,_)=>XR a b)<|ai (ag λ((cs,ns,os,f,ls,e),_)=>RU cs ns os f ls e)<|ai (ag λ(p,q,n,_)=>aDp p q n) Zw
theorem aCd{m:Mem}{n:Net}{p:Plan}{c:i7}(h:asC m=some (n,p,c)): m=rD n p c:=by
 unfold asC at h;split at h
 case h_2=>cases h
 split at h
 case h_2=>cases h
 rename_i z y x v u r j i g f e b;cases h;rw[bv z,bv y,bv x,bv v,bv u,bv r,bv j,bv i,bv g,bv f,bv e,bv b];rfl
theorem OZ{f:FuncId}{pre:Net->Plan->Prop}{ret:Net->Plan->Int}{nxt:Net->Plan->i7->Plan×i7}
  (h:∀n p c,af Tryz.prog G0 f [.ptr 2 1 0 0] (rD n p c) ⟨pre n p,.dat I (ret n p),rD n (nxt n p c).1 (nxt n p c).2⟩):∀args m c,cK pre ret nxt args m=some c->af Tryz.prog G0 f args m c:=by
 intro args m c b;unfold cK at b;split at b
 case h_2=>cases b
 rename_i n p c e;cases b;rw[aCd e];exact h n p c
theorem RY(n:Net)(p:Plan)(c:i7): af Tryz.prog G0 38 [.ptr 2 1 0 0] (rD n p c) ⟨True,.dat I (Ia n p),rD n p c⟩:=by
 refine ae (c:=mkc KC8) KC aK hm (Lr n p c ⟨rfl,λ_=>?_⟩);have f:(n.1,n.2.1,n.2.2.1,n.2.2.2.1,n.2.2.2.2.1,n.2.2.2.2.2)=n:=rfl;simp only[qc,Dj,Es,Di,qd,Dt,Eb,Ec,Dp,Eh,Ei,Ed,Ey,Df,Et,Dl,Dn,Eo,Dy,Dw,Dh,Dq,Ee,Fh,Dc,Dx,Dk,Dz,Ej,Du,Eu,Ez,En,Ef,Fe,Fj,Fg,Ep,Em,Ew,Fb,f];refine⟨λh=>?_,λ⟨e,b⟩=>?_⟩
 .have:¬(km p.1 p.2.1&&bg n)=true:=λg=>by
   rw[qC]at g;rcases h with h | h
   .rw[g.1]at h;cases h
   .rw[g.2]at h;cases h
  exact(if_neg this).symm
 .exact(if_pos (by rw[e,b];rfl)).symm
theorem RX(n:Net)(p:Plan)(c:i7): af Tryz.prog G0 39 [.ptr 2 1 0 0] (rD n p c) ⟨aBW p,.dat I 0,rD n (Y8 n p) c⟩:=by
 refine ae (c:=mkc KC7) Zw aK hm (Lq n p c ⟨rfl,λ⟨g,f,e,b⟩=>?_⟩);simp only[qc,Dj,Es,Di,qd,Dt,Eb,Ec,Dp,Eh,Ei,Ed,Ey,Df,Et,Dl,Dn,Eo,Dy,Dw,Dh,Dq,Ee,Fh,Dc,Dx,Dk,Dz,Ej,Du,Eu,Ez,En,Ef,Fe,Fj,Fg,Ep,Em,Ew,Fb];exact⟨aL (by omega),aL (by omega),rfl,rfl,rfl,rfl⟩
theorem XN(n:Net)(p:Plan)(c:i7): af Tryz.prog G0 41 [.ptr 2 1 0 0] (rD n p c) ⟨cn p.2.2.1,.dat I 0,rD n (Y9 n p) c⟩:=by
 refine ae (c:=mkc KC7) Zw aK hm (QZ n p c ⟨rfl,λh=>?_⟩);simp only[qc,Dj,Es,Di,qd,Dt,Eb,Ec,Dp,Eh,Ei,Ed,Ey,Df,Et,Dl,Dn,Eo,Dy,Dw,Dh,Dq,Ee,Fh,Dc,Dx,Dk,Dz,Ej,Du,Eu,Ez,En,Ef,Fe,Fj,Fg,Ep,Em,Ew,Fb];exact⟨h,rfl,rfl,rfl,rfl⟩
theorem XS(n:Net)(p:Plan)(c:i7): af Tryz.prog G0 42 [.ptr 2 1 0 0] (rD n p c) ⟨fb p,.dat I (wrE n p),rD n p (wrN n p,wrS n p)⟩:=by
 refine ae (c:=mkc KC7) Zw aK hm (Q9 n p c ⟨rfl,λh=>?_⟩);simp only[qc,Dj,Es,Di,qd,Dt,Eb,Ec,Dp,Eh,Ei,Ed,Ey,Df,Et,Dl,Dn,Eo,Dy,Dw,Dh,Dq,Ee,Fh,Dc,Dx,Dk,Dz,Ej,Du,Eu,Ez,En,Ef,Fe,Fj,Fg,Ep,Em,Ew,Fb];exact h
def s8(n:Net): List (Int×Off):=(List.range n.2.2.2.1.length).map λi:Nat=>((i:Int),bR n i)
def Bt(n:Net)(k:Int): Prop:=0<=k/\k<=n.2.2.2.1.length
def rV(n:Net): Prop:=(n.2.2.2.1.length:Int)<=1000000
def dQ(p:Plan)(o:Int): Li:=p.2.2.1.getD o.toNat []
def Rn(p:Plan)(o:Int): Li:=((List.range (dQ p o).length).filter λd:Nat=>decide ((d:Int)≠o)).map λd=>(dQ p o).getD d 0
def wfR(l:Li): Prop:=∀j:Nat,-1<=l.getD j 0/\l.getD j 0<=1000000
def Rm(p:Plan)(o:Int): Prop:=0<=o/\o<p.2.2.1.length/\((dQ p o).length:Int)<=1000000/\wfR (dQ p o)
def Jz(x:Int): Li->Li
 | []=>[x]
 | a::l=>if x<a then x::a::l else if x=a then a::l else a::Jz x l
def fO(p:Plan)(o:Int): Li:=((Rn p o).filter λl=>decide (l≠-1)).foldr Jz []
def Sz(n:Net)(p:Plan)(o:Int): Int:=ux (bR n o).2.2.2.1 (bR n o).2.2.2.2.1 (1+(fO p o).length)
def mQ(n:Net)(p:Plan): Int:=if(List.range n.2.2.2.1.length).all (λo:Nat=>decide (Sz n p o=0))then 0 else 140
def uX(n:Net)(p:Plan): Prop:=bg n=true/\mO n p.2.2.1=true
def Aw(n:Net)(p:Plan)(j:Nat): Prop:=uX n p/\j<=(s8 n).length/\∀i:Nat,i<j->Sz n p i=0
theorem QL(n:Net)(b:
 true/\(True->n=n/\True)):
  evF (mkc KC8) az 106 [.agg [.dat (.sl C) n.1,.dat (.sl S) n.2.1,.dat (.sl S) n.2.2.1,.dat (.sl Of) n.2.2.2.1,.dat (.sl Ln) n.2.2.2.2.1,.dat (.sl Kl) n.2.2.2.2.2]] [] ⟨True,.fn 169 [.ip N n],[]⟩:=oE b
def aBC(n:Net): Gu:=⟨λid y=>match id with
 | 1=>some {α:=Int,inv:=λk=>Bt n k,st:=λk=>⟨put y.s [(8,.dat I k)],Dc k,true⟩,μ:=λk=>Dc (Dh (Df n.2.2.2.1) k)}
 | _=>none,λid s=>match id,s.sig.T 8 with
 | 3,.dat (.int .i64) k=>some (put {s with mem:=[]} [(4,.ip Of (bR n k))])
 | _,_=>none,λid=>id==3⟩
theorem QK(n:Net)(g:
 let c1:=n.2.2.2;let c3:=Df c1.1;let c4:=Dk (s8 n);true/\true/\true/\false=false/\∀(l:Nat),rV n->(∃x,Bt n x/\(l=l/\n=n/\c1=c1/\c1.1=c1.1/\c3=c3/\0=x/\True)/\0=Dc x/\true)/\∀(x:Int),let c5:=Du c1.1 (Dc x) (ByteArray.mk #[],(0:Int),(0:Int),(0:Int),(0:Int),(0:Int),Dt ByteArray);let e:=(bR n x).2;let f:=x+1;Bt n x->(Dp x c3->0<=x/\x<c3/\1=1/\0=0/\l=l/\n=n/\x=x/\1=1/\0=0/\c5=bR n x/\c1=c1/\c1.1=c1.1/\c3=c3/\x=x/\Dp x c3=Dp x c3/\x=x/\c5=c5/\c5.1=c5.1/\c5.2.1=c5.2.1/\c5.2.2.1=c5.2.2.1/\c5.2.2.2.1=c5.2.2.2.1/\c5.2.2.2.2.1=c5.2.2.2.2.1/\c5.2.2.2.2.2.1=c5.2.2.2.2.2.1/\c5.2.2.2.2.2.2=c5.2.2.2.2.2.2/\(true->l=l/\true/\lC (s8 n) (Dc x) (x,(bR n x).1,e.1,e.2.1,e.2.2.1,e.2.2.2.1,e.2.2.2.2.1,e.2.2.2.2.2)/\∀(b:Bool),(Di b->b->Dc x+1=c4)/\(Di b=false->inR .i64 f/\∃y,Bt n y/\((l=l/\n=n/\c1=c1/\c1.1=c1.1/\c3=c3/\f=y/\True)/\Dc x+1=Dc y/\b)/\Dc (c3-y)<Dc (c3-x)))/\(true=false->(true->true)/\(Di false->true->Dc x=c4)/\(Di false=false->inR .i64 f/\∃y,Bt n y/\((l=l/\n=n/\c1=c1/\c1.1=c1.1/\c3=c3/\f=y/\True)/\Dc x=Dc y/\true)/\Dc (c3-y)<Dc (c3-x))))/\(Dp x c3=false->true->Dc x=c4)):
  evI (mkc KC8) (aBC n) 169 [.ip N n] ⟨rV n,.pair I Of,s8 n⟩:=oE g
def KC9: Kt:=kOr 45 (aw [.row Pl,.val I] (λ(p,o,_)=>Rm p o) λ(p,o,_)=>.dat R (fO p o)) <|
 kOr 106 (aw [.row N] (λ_=>True) λ(n,_)=>.fn 169 [.ip N n]) KC8
def KIM: FuncId->List AV->Option iV:=λf caps=>if f=169 then match ofK [.ptr N] caps with
 | some (n,_)=>some ⟨rV n,.pair I Of,s8 n⟩
 | none=>none
 else none
noncomputable def cSort: Cfg:=⟨Tryz.prog,G0,KC9,λ_=>false,KIM,true,Go.Eng.noP,λ_=>false⟩
def sortA(n:Net)(p:Plan)(c:i7): Ann:=⟨λid s=>match id with
 | 2=>some {α:=Nat,inv:=λj=>Aw n p j,st:=λj=>gC (gC (flat s) 2 (.var (O0 n p c))) 3 (.var [.dat I 0]),μ:=λj=>j}
 | _=>none,λ_ _=>none,λ_ _=>none⟩
theorem QY(n:Net)(p:Plan)(c:i7)(g:
 let c5:=p.2.1;let c4:=n.2.1;let c3:=p.2.2;let c2:=n.2.2.1;let c1:=n.2.2.2;let f:=s8 n;true/\(uX n p->1=1/\1=1/\1=1/\1=1/\0=0/\True/\rV n/\(∃x,Aw n p x/\x=0/\1=1/\0=0/\0=0/\1=1/\0=0/\0=0/\1=1/\0=0/\0=0/\1=1/\0=0/\0=0/\1=1/\0=0/\0=0/\1=1/\0=0/\0=0/\n.1=n.1/\c4=c4/\c2=c2/\c1.1=c1.1/\c1.2.1=c1.2.1/\c1.2.2=c1.2.2/\n=n/\n.1=n.1/\c4=c4/\c2=c2/\c1.1=c1.1/\c1.2.1=c1.2.1/\c1.2.2=c1.2.2/\p.1=p.1/\c5=c5/\c3.1=c3.1/\c3.2=c3.2/\c.1=c.1/\c.2=c.2/\(0:Int)=(0:Int)/\1=1/\True)/\(∀(x:Nat) (y:Int×ByteArray×Int×Int×Int×Int×Int×List ByteArray),let e:=1+Df (fO p y.1);let b:=Ec (ux y.2.2.2.2.1 y.2.2.2.2.2.1 e) 0;Aw n p x->lC f x y->1=1/\0=0/\1=1/\1=1/\1=1/\0=0/\Rm p y.1/\inR IntKind.i64 e/\1=1/\1=1/\0=0/\1=1/\1=1/\0=0/\True/\(b->1=1/\0=0/\1=1/\0=0/\140=mQ n p/\n.1=n.1/\c4=c4/\c2=c2/\c1.1=c1.1/\c1.2.1=c1.2.1/\c1.2.2=c1.2.2/\p.1=p.1/\c5=c5/\c3.1=c3.1/\c3.2=c3.2/\c.1=c.1/\c.2=c.2/\1=1/\True)/\(b=false->∃z,Aw n p z/\z=x+1/\1=1/\0=0/\0=0/\1=1/\0=0/\0=0/\1=1/\0=0/\0=0/\1=1/\0=0/\0=0/\1=1/\0=0/\0=0/\1=1/\0=0/\0=0/\n.1=n.1/\c4=c4/\c2=c2/\c1.1=c1.1/\c1.2.1=c1.2.1/\c1.2.2=c1.2.2/\n=n/\n.1=n.1/\c4=c4/\c2=c2/\c1.1=c1.1/\c1.2.1=c1.2.1/\c1.2.2=c1.2.2/\p.1=p.1/\c5=c5/\c3.1=c3.1/\c3.2=c3.2/\c.1=c.1/\c.2=c.2/\(0:Int)=(0:Int)/\1=1/\True))/\∀(x:Nat),Aw n p x->x=Dk f->1=1/\0=0/\1=1/\0=0/\0=mQ n p/\n.1=n.1/\c4=c4/\c2=c2/\c1.1=c1.1/\c1.2.1=c1.2.1/\c1.2.2=c1.2.2/\p.1=p.1/\c5=c5/\c3.1=c3.1/\c3.2=c3.2/\c.1=c.1/\c.2=c.2/\1=1/\True)):
  evF cSort (sortA n p c) 40 [.ptr 2 1 0 0] (rD n p c) ⟨uX n p,.dat I (mQ n p),rD n p c⟩:=oE g
theorem XD(n:Net): af Tryz.prog G0 106 [.agg [.dat (.sl C) n.1,.dat (.sl S) n.2.1,.dat (.sl S) n.2.2.1,.dat (.sl Of) n.2.2.2.1,.dat (.sl Ln) n.2.2.2.2.1,.dat (.sl Kl) n.2.2.2.2.2]] [] ⟨True,.fn 169 [.ip N n],[]⟩:=
 ae (c:=mkc KC8) KC aK hm (QL n ⟨rfl,λ_=>⟨rfl,trivial⟩⟩)
theorem YA{n:Net}{x:Int}(f:0<=x)(b:x<n.2.2.2.1.length): lC (s8 n) x.toNat (x,bR n x):=by
 show((List.range n.2.2.2.1.length).map λi:Nat=>((i:Int),bR n i))[x.toNat]?=_;have e:((x.toNat:Nat):Int)=x:=by omega
 rw[qO,vT (by omega),zC,e]
theorem yf(n:Net): (s8 n).length=n.2.2.2.1.length:=by unfold s8;simp
theorem XC(n:Net): mA Tryz.prog G0 169 [.ip N n] ⟨rV n,.pair I Of,s8 n⟩:=by
 refine jr (c:=mkc KC8) (A:=aBC n) KC aK hm (QK n ⟨rfl,rfl,rfl,rfl,λl i=>?_⟩);have v:∀x:Int,n.2.2.2.1.getD x.toNat (⟨#[]⟩,0,0,0,0,0,[])=bR n x:=λ_=>rfl
 have u:∀q:Off,(q.1,q.2.1,q.2.2.1,q.2.2.2.1,q.2.2.2.2.1,q.2.2.2.2.2.1,q.2.2.2.2.2.2)=q:=λ_=>rfl
 simp only[qc,Dj,Es,Di,qd,Dt,Eb,Ec,Dp,Eh,Ei,Ed,Ey,Df,Et,Dl,Dn,Eo,Dy,Dw,Dh,Dq,Ee,Fh,Dc,Dx,Dk,Dz,Ej,Du,Eu,Ez,En,Ef,Fe,Fj,Fg,Ep,Em,Ew,Fb,yf];unfold rV at i;refine⟨⟨0,⟨by omega,by omega⟩,rfl,rfl⟩,λx ⟨f,x1⟩=>⟨λe=>⟨f,e,rfl,⟨YA f e,λb=>⟨λr g=>(by rw[r]at g;cases g),λhb=>⟨aL (by omega),x+1,⟨by omega,by omega⟩,⟨rfl,by omega,hb⟩,by omega⟩⟩⟩,λh=>(by cases h)⟩,λj=>(by omega)⟩⟩
def mW: Prop:=∀(p:Plan) (o:Int),af Tryz.prog G0 45 [.agg [.dat I p.1,.dat I p.2.1,.dat M p.2.2.1,.dat (.sl M) p.2.2.2],.dat I o] [] ⟨Rm p o,.dat R (fO p o),[]⟩
theorem aFy(h:mW): aj Tryz.prog G0 KC9:=ai (ag λ(p,o,_)=>h p o)<|ai (ag λ(n,_)=>XD n) KC
theorem aCu: bm Tryz.prog G0 KIM:=by
 intro f caps it h;unfold KIM at h;split at h
 case isFalse=>cases h
 rename_i i;subst i;split at h
 case h_2=>cases h
 rename_i n _ b;cases h;exact λg l J JX JP w D us r j e=>XC n g l J JX JP w D us r j (dZ b e)
theorem E9{x y:Int}: ∀{l:Li},y∈Jz x l↔y=x\/y∈l
 | []=>by simp[Jz]
 | a::l=>by
  unfold Jz;split
  .simp
  .split
   .rename_i h;subst h;simp
   .rw[zM,E9 (l:=l),zM];constructor
    .rintro(h | h | h)
     .exact .inr (.inl h)
     .exact .inl h
     .exact .inr (.inr h)
    .rintro(h | h | h)
     .exact .inr (.inl h)
     .exact .inl h
     .exact .inr (.inr h)
theorem v7{x:Int}: ∀{l:Li},l.Pairwise (· < ·)->(Jz x l).Pairwise (· < ·)
 | [],_=>qAf _ _
 | a::l,h=>by
  obtain⟨e,g⟩:=kX.1 h;unfold Jz;split
  .rename_i f;refine kX.2 ⟨λb hb=>?_,h⟩;rcases zM.1 hb with rfl | hb
   .exact f
   .have:=e b hb;omega
  .split
   .exact h
   .refine kX.2 ⟨λb hb=>?_,v7 g⟩;rcases E9.1 hb with rfl | hb
    .omega
    .exact e b hb
theorem N7{x:Int}: ∀{l:Li},(Jz x l).length<=l.length+1
 | []=>qJ _
 | a::l=>by
  have:=N7 (x:=x) (l:=l);unfold Jz;split
  .simp
  .split
   .simp
   .simp only[vU];omega
theorem yW{y:Int}: ∀{l:Li},y∈l.foldr Jz []↔y∈l
 | []=>by simp
 | a::l=>by rw[qDg,E9,yW,zM]
theorem m4: ∀(l:Li),(l.foldr Jz []).Pairwise (· < ·)
 | []=>yQ
 | _::l=>v7 (m4 l)
theorem HS: ∀(l:Li),(l.foldr Jz []).length<=l.length
 | []=>qJ _
 | a::l=>by
  have:=HS l;have:=N7 (x:=a) (l:=l.foldr Jz []);rw[qDg,vU];omega
theorem FD(p:Plan)(o:Int): (fO p o).length<=(dQ p o).length:=by
 unfold fO;refine wL (HS _) (wL (yR _ _) ?_);unfold Rn;rw[vG];exact wL (yR _ _) (by rw[vI];exact qJ _)
theorem Vh(cs:LC)(ns os:LB)(b:Lo)(ls:Ll)(f:Lk){nx:Lj}(u:bg (cs,ns,os,b,ls,f)=true)(r:mO (cs,ns,os,b,ls,f) nx=true){o:Int}(i:0<=o)(g:o<b.length): wfR (nx.getD o.toNat []):=λj=>by
 have y:=(lu cs ns os b ls f (bD cs ns os b ls f u)).1;by_cases x:(j:Int)<b.length
 .obtain⟨_,_,h⟩:=gm cs ns os b ls f r i g (d:=j) (by omega) x;have e:nxt nx o j=(nx.getD o.toNat []).getD j 0:=by unfold nxt;rw[qZ]
  rw[<- e];by_cases v:nxt nx o j=-1
  .omega
  .have:=(h v).1;omega
 .obtain⟨_,h,_⟩:=gm cs ns os b ls f r i g i g;rw[qA,wV (by omega)];exact⟨by decide,by decide⟩
theorem XM(h:mW)(n:Net)(p:Plan)(c:i7): af Tryz.prog G0 40 [.ptr 2 1 0 0] (rD n p c) ⟨uX n p,.dat I (mQ n p),rD n p c⟩:=by
 refine ae (c:=cSort) (aFy h) aCu hm (QY n p c ⟨rfl,λf=>?_⟩);have eN:(n.1,n.2.1,n.2.2.1,n.2.2.2.1,n.2.2.2.2.1,n.2.2.2.2.2)=n:=rfl;have eP:(p.1,p.2.1,p.2.2.1,p.2.2.2)=p:=rfl;simp only[qc,Dj,Es,Di,qd,Dt,Eb,Ec,Dp,Eh,Ei,Ed,Ey,Df,Et,Dl,Dn,Eo,Dy,Dw,Dh,Dq,Ee,Fh,Dc,Dx,Dk,Dz,Ej,Du,Eu,Ez,En,Ef,Fe,Fj,Fg,Ep,Em,Ew,Fb,eN,eP];obtain⟨A,z⟩:=id f;obtain⟨r,_⟩:=lq n.1 n.2.1 n.2.2.1 n.2.2.2.1 n.2.2.2.2.1 n.2.2.2.2.2 A
 have r:(n.2.2.2.1.length:Int)<=12:=r;have row:∀o:Int,0<=o->o<n.2.2.2.1.length->(p.2.2.1.length:Int)=n.2.2.2.1.length/\((dQ p o).length:Int)=n.2.2.2.1.length:=λo v u=>by
  obtain⟨Z,X,_⟩:=gm n.1 n.2.1 n.2.2.1 n.2.2.2.1 n.2.2.2.2.1 n.2.2.2.2.2 z v u v u;exact⟨Z,X⟩
 have at_:∀{x:Nat} {y:Int×Off},lC (s8 n) x y->x<n.2.2.2.1.length/\y=((x:Int),bR n x):=λ{x y} h=>by
  have h:((List.range n.2.2.2.1.length).map λi:Nat=>((i:Int),bR n i))[x]?=some y:=h;rw[qO]at h;by_cases b:x<n.2.2.2.1.length
  .rw[vT b]at h;exact⟨b,(wX h).symm⟩
  .rw[wV (by rw[vI];omega)]at h;cases h
 have fail:∀o:Nat,o<n.2.2.2.1.length->Sz n p o≠0->mQ n p=140:=λo g j=>by
  unfold mQ;rw[if_neg];intro h;have:=qN.1 h o (vF.2 g);exact j (vO this)
 refine⟨by unfold rV;omega,⟨f,wZ _,λi hi=>by omega⟩,λx y b T=>?_,λx b G=>?_⟩
 .obtain⟨e,rfl⟩:=at_ T;obtain⟨O,r2⟩:=row x (by omega) (by omega);have gl:=FD p x;have L:(p.2.2.1.length:Int)=n.2.2.2.1.length:=O
  refine⟨⟨by show(0:Int)<=(x:Int);omega,by show(x:Int)<_;omega,by show((dQ p (x:Int)).length:Int)<=1000000;omega,Vh n.1 n.2.1 n.2.2.1 n.2.2.2.1 n.2.2.2.2.1 n.2.2.2.2.2 A z (by omega) (by omega)⟩,aL (by simp only;omega),λh=>(fail x e h).symm,λh=>⟨f,by rw[yf];omega,λi hi=>?_⟩⟩;by_cases V:i<x
  .exact b.2.2 i V
  .have:i=x:=by omega
   rw[this];exact h
 .rw[yf]at G;unfold mQ;rw[if_pos];rw[qN];intro o g;exact qW (b.2.2 o (by rw[G];exact vF.1 g))
open Go.RowKit
theorem Qa{x:Int}(h:-1<=x/\x<=1000000): (Lit.int .i64 x).wf=true:=by
 have e:IntKind.min .i64=-9223372036854775808:=by decide
 have b:IntKind.max .i64=9223372036854775807:=by decide
 simp only[Lit.wf,e,b,qC,qE];omega
theorem vz: mW:=by
 rintro p o ⟨o0,o1,o2,o3⟩ w D E us Z hG L hH;obtain⟨u1,us,rfl,⟨ps,rfl,hps⟩,u2,us,rfl,h2,rfl⟩:=L;obtain⟨v1,_,rfl,_,v2,_,rfl,_,v3,_,rfl,h3,v4,_,rfl,_,rfl⟩:=hps;have h2:[u2]=[Value.int .i64 o]:=h2;cases h2;obtain⟨ao,cap,e3,_,_,hsp,r⟩:=h3;cases e3;have at_:(p.2.2.1)[o.toNat]?=some (dQ p o):=by
  unfold dQ;rw[qA,qB (by omega),qP]
 obtain⟨a,ue,rfl,ha,hca,bo,cp2,rfl,_,_,T,V⟩:=r o.toNat (dQ p o) at_;have sp:=hsp a rfl (by omega);have hw:∀j:Nat,(Lit.int .i64 ((dQ p o)[j]?.getD 0)).wf=true:=λj=>by
  have:=o3 j;rw[qA]at this;exact Qa this
 have eo:((o.toNat:Nat):Int)=o:=by omega
 have mem:∀y,y∈fO p o↔y≠-1/\y∈(mM (dQ p o) hw o.toNat (dQ p o).length).map Subtype.val:=λy=>by
  unfold fO Rn mM;rw[yW,zV,qE,and_comm,List.map_map];have e:((List.range (dQ p o).length).filter λd:Nat=>decide ((d:Int)≠o))=(List.range (dQ p o).length).filter λd=>decide (d≠o.toNat):=by
   congr 1;funext d
   rw[qAw];omega
  rw[e];have f:(λd:Nat=>(dQ p o).getD d 0)=Subtype.val∘aB1 (dQ p o) hw:=by
   funext d
   exact qA
  rw[f]
 have hc:=UG #[v1,v2,.slice (some a) p.2.2.1.length cap,v4] o.toNat (dQ p o) hw (by omega) (fO p o) (m4 _) mem w λw1 x=>by
  have hB:Go.RowKit.Below w.heap.size w w1:=by rw[x];exact((Go.RowKit.Below.refl _ w).alloc (qJ _) _).alloc (by simp) _
  have s1:w1.heap.size=w.heap.size+1+1:=by rw[x];simp
  have c1:w1.heap[w.heap.size]?=some (.cells #[v1,v2,.slice (some a) p.2.2.1.length cap,v4] 35 (0,0)):=by
   rw[x];exact(Go.RowKit.Below.heap_alloc _ _ _ (by simp)).trans (World.alloc_heap_new w _)
  have c2:w1.heap[w.heap.size+1]?=some (.cells #[.int .i64 o] 3 (0,0)):=by
   have:=World.alloc_heap_new (w.alloc (.cells #[v1,v2,.slice (some a) p.2.2.1.length cap,v4] 35)) (.cells #[.int .i64 ((o.toNat:Nat):Int)] 3);rw[zO,eo]at this;rw[x,eo];exact this
  refine⟨by omega,by omega,by rw[eo];simp[World.cell?,c2],a.block,a.off,p.2.2.1.length,cap,bo,cp2,?_,by omega,by have:=Z _ ha;omega,?_,?_⟩
  .obtain⟨b,f,s⟩:=a;have sp:s=none:=sp;subst sp;simp[World.cell?,c1]
  .have:=hca 0 _ rfl;exact(hB.cell (p:=⟨a.block,a.off+o.toNat*1+0,none⟩) (Z _ ha)).trans this |> λh=>by
    rw[show a.off+o.toNat*1+0=a.off+o.toNat by omega]at h;exact h
  .by_cases hz:(dQ p o).length=0
   .exact .inl hz
   .have at0:(dQ p o)[0]?=some ((dQ p o).getD 0 0):=by
     rw[qA,qB (by omega),qP]
    obtain⟨z,_,e2,hb2,_⟩:=V 0 _ at0;subst e2;have A:=T z rfl (by omega);refine .inr ⟨z.block,z.off,?_,by have:=Z _ hb2;omega,λj O=>?_⟩
    .obtain⟨b,f,s⟩:=z;have A:s=none:=A;subst A;rfl
    .have atj:(dQ p o)[j]?=some ((dQ p o)[j]?.getD 0):=by
      rw[qB O,qP]
     obtain⟨a3,ue3,e3,hb3,hc3,G⟩:=V j _ atj;cases e3;have G:ue3=[Value.int .i64 ((dQ p o)[j]?.getD 0)]:=G;subst G;have:=hc3 0 _ rfl;have h:=(hB.cell (p:=⟨z.block,z.off+j*1+0,none⟩) (Z _ hb3)).trans this;rw[show z.off+j*1+0=z.off+j by omega]at h;exact h
 rw[eo]at hc;refine hc.mono ?_;rintro e w' ⟨v,rfl,r,hnil,hB⟩;refine⟨v,λb=>D b\/fD w w' b,E,rfl,⟨(Chg.refl _ _).below hB,λ_ h=>.inl h,λb h=>h.imp id λh=>.inl h.1,λb h=>h.elim (λh=>qM (Z b h) hB.size) λh=>h.2,Held.none _ _ _ _,λnm b b' g=>(by cases g),λnm b b' g=>(by cases g),λnm b _ g=>(by cases g),λnm i b g=>(gZ g).elim⟩,?_⟩;show ∃(ao:Option Addr) (cap:Nat),[v]=[.slice ao (fO p o).length cap]/\_
 obtain⟨_,⟨rfl,h0⟩ | ⟨g,cap,cur,rfl,hg,hb,X,_,hsz,htk⟩⟩:=r
 .have h0:fO p o=[]:=vP h0;rw[h0];exact⟨none,0,rfl,qJ _,λ_=>rfl,λ_ h=>(by cases h),λi y h=>(by cases h)⟩
 .refine⟨_,cap,rfl,X,λh=>(by cases h),λa h _=>(by cases h;rfl),λi y hy=>⟨_,[Value.int .i64 y],rfl,.inr ⟨hg,(vJ.1 hb).1⟩,λj u O=>?_,rfl⟩⟩;cases j with
  | succ j=>cases O
  | zero=>
   have O:some (Value.int .i64 y)=some u:=O;cases O;show w'.cell? ⟨g,0+i*1+0,none⟩=_;have hi:i<(fO p o).length:=(qG.1 hy).1;have e:(cur.toList.take ((fO p o).length*1))[i]?=some (Value.int .i64 y):=by
    rw[htk,qO,hy];rfl
   rw[List.getElem?_take_of_lt (by omega),zT]at e;have hi2:0+i*1+0<cur.size:=by omega
   rw[show 0+i*1+0=i by omega]at hi2 ⊢;simp[World.cell?,hb,e]
end Go.Eng.Sv
namespace Go.Eng.In
open Go.Proofs
abbrev Of: Ty:=.pair S (.pair I (.pair I (.pair I (.pair I (.pair I (.sl S))))))
abbrev Ln: Ty:=.pair S (.pair I (.pair I (.pair I (.pair I I))))
abbrev Kl: Ty:=.pair S (.pair I I)
abbrev N: Ty:=.pair (.sl C) (.pair (.sl S) (.pair (.sl S) (.pair (.sl Of) (.pair (.sl Ln) (.sl Kl)))))
abbrev Cal:=Int×List Bool×Li
abbrev Off:=ByteArray×Int×Int×Int×Int×Int×List ByteArray
abbrev Line:=ByteArray×Int×Int×Int×Int×Int
abbrev Cla:=ByteArray×Int×Int
abbrev Net:=List Cal×List ByteArray×List ByteArray×List Off×List Line×List Cla
def nh(c:Cal): Bool:=dG c.1 c.2.1 c.2.2
def lr(n:Net)(o:Off): Bool:=(btw o.2.2.1 0 ((n.1.length:Int)-1)&&btw o.2.2.2.2.1 1 1000)&&btw o.2.2.2.2.2.1 1 1000
def jP(n:Net)(x:Int): Bool:=btw x 0 ((n.2.2.2.1.length:Int)-1)
def lx(n:Net)(l:Line): Bool:=((jP n l.2.1&&jP n l.2.2.1)&&btw l.2.2.2.1 0 1439)&&btw l.2.2.2.2.1 1 100000
def lK(k:Cla): Bool:=btw k.2.1 0 1439&&btw k.2.2 0 1439
def usF(n:Net): Bool:=((n.1.all nh&&n.2.2.2.1.all (lr n))&&n.2.2.2.2.1.all (lx n))&&n.2.2.2.2.2.all lK
def qy(n:Net): Prop:=((n.1.length<=2000000000000000/\n.2.2.2.1.length<=2000000000000000)/\n.2.2.2.2.1.length<=2000000000000000)/\n.2.2.2.2.2.length<=2000000000000000
def UP(n:Net)(k:Int): Prop:=0<=k/\k<=n.1.length/\(n.1.take k.toNat).all nh=true
def Tv(n:Net)(k:Int): Prop:=0<=k/\k<=n.2.2.2.1.length/\(n.2.2.2.1.take k.toNat).all (lr n)=true
def TQ(n:Net)(k:Int): Prop:=0<=k/\k<=n.2.2.2.2.1.length/\(n.2.2.2.2.1.take k.toNat).all (lx n)=true
def UJ(n:Net)(k:Int): Prop:=0<=k/\k<=n.2.2.2.2.2.length/\(n.2.2.2.2.2.take k.toNat).all lK=true
def dO(n:Net)(l:Int): Line:=n.2.2.2.2.1.getD l.toNat (⟨#[]⟩,0,0,0,0,0)
def jY(n:Net)(o l:Int): Bool:=decide (l=-1)||(decide (l<n.2.2.2.2.1.length)&&decide ((dO n l).2.1=o))
def mU(n:Net)(o:Int)(r:Li): Bool:=r.all (jY n o)
def C3(n:Net)(p:Plan): Bool:=(decide (p.2.2.1.length=n.2.2.2.1.length)&&decide (p.2.2.2.length=n.2.2.2.2.2.length))&&(List.range p.2.2.1.length).all λi=>mU n i (p.2.2.1.getD i [])
def nxP(p:Plan): Prop:=p.2.2.1.length<=2000000000000000/\∀r∈p.2.2.1,r.length<=2000000000000000/\∀x∈r,-1<=x
def aCJ(n:Net)(p:Plan)(k:Int): Prop:=0<=k/\k<=p.2.2.1.length/\∀i:Nat,(i:Int)<k->mU n i (p.2.2.1.getD i [])=true
def TA(n:Net)(o:Int)(r:Li)(k:Int): Prop:=0<=k/\k<=r.length/\(r.take k.toNat).all (jY n o)=true
def jk(c:Li×Int): Bool:=dM c.1 c.2&&nt c.1
def yc(c:Li×Int): Int:=if dM c.1 c.2 then 190 else 180
def Ba(c:Li×Int): Prop:=HD c.1
def FW(args:List AV)(m:Mem): Option ja:=match args,m with
 | [.ifc t (.dat (.int .i64) e)],[]=>if t=39 then some ⟨True,.dat I e,[]⟩else none
 | _,_=>none
def ZD: Kt:=kOr 70 FW aFK
def c9: Cfg:=Jk ZD (λt=>t==12) KP8 (λf=>f==79||f==142)
theorem WI(s:Int)(l:Li)(b:
 let c1:=(l,s);let c2:=jk c1;let c3:=chainOf (Value.iface 39 (Value.int .i64 (yc c1)));let c4:=(au l).1;let c5:=(au l).2;let aN:=c5.1;let c7:=c5.2;let e:=c7.1;let c9:=c7.2;true/\(Ba c1->HD l/\(true->True/\(dM l s=false->c2=false/\true/\chainOf (Value.iface 39 (Value.int .i64 (180:Int)))=c3))/\((true->dM l s)->(True/\dM l s)/\(true->dj l/\(nt l=false->c2=false/\true/\chainOf (Value.iface 39 (Value.int .i64 (190:Int)))=c3))/\((true->nt l)->(dj l/\nt l)/\1=1/\1=1/\0=0/\1=1/\0=0/\1=1/\0=0/\c2/\1=1/\0=0/\c4=c4/\aN=aN/\e=e/\c9=c9/\1=1/\0=0/\0=0/\bI l=bI l/\True)))):
  evM c9 az 71 [.agg [.dat R l,.dat I s]] [] (.tup [.agg [.dat I (au l).1,.dat I (au l).2.1,.dat M (au l).2.2.1,.dat (.sl M) (au l).2.2.2],.ptr 1 1 0 0]) [(1,.var [.dat R (bI l)])] ⟨Ba (l,s),jk (l,s),cY 39 (yc (l,s))⟩:=oE b
theorem Z6(x:Int)(b:
 let c1:=btw x 0 1439;true/\(True->True/\c1=c1/\True)):
  evF (mkc ZD) az 147 [.dat I x] [] ⟨True,.dat .bool (btw x 0 1439),[]⟩:=oE b
theorem Z5(x:Int)(n:Net)(b:
 let c1:=Df n.2.2.2.1-1;true/\(qy n->inR .i64 c1/\True/\btw x 0 c1=jP n x/\True)):
  evF (mkc ZD) az 149 [.dat I x,.ipv (.ip N n)] [] ⟨qy n,.dat .bool (jP n x),[]⟩:=oE b
def rf: Kt:=kOr 147 (aw [.val I] (λ_=>True) λ(x,_)=>.dat .bool (btw x 0 1439))<|kOr 149 (aw [.val I,.bp N] (λ(_,n,_)=>qy n) λ(x,n,_)=>.dat .bool (jP n x)) ZD
def usA(n:Net): Ann:=⟨λid s=>match id with
 | 4=>some {α:=Int,inv:=λk=>UP n k,st:=λk=>put {fx s with mem:=[]} [(19,.dat I k),(6,.top)],μ:=λk=>Dc (Dh (Df n.1) k)}
 | 10=>some {α:=Int,inv:=λk=>Tv n k,st:=λk=>put {fx s with mem:=[]} [(32,.dat I k),(8,.top)],μ:=λk=>Dc (Dh (Df n.2.2.2.1) k)}
 | 16=>some {α:=Int,inv:=λk=>TQ n k,st:=λk=>put {fx s with mem:=[]} [(64,.dat I k),(10,.top)],μ:=λk=>Dc (Dh (Df n.2.2.2.2.1) k)}
 | 22=>some {α:=Int,inv:=λk=>UJ n k,st:=λk=>put {fx s with mem:=[]} [(99,.dat I k),(12,.top)],μ:=λk=>Dc (Dh (Df n.2.2.2.2.2) k)}
 | _=>none,λ_ _=>none,λ_ _=>none⟩
theorem aDe(n:Net)(hvc:
 let c1:=n.2.2.2;let c2:=Df n.1;let c5:=Df c1.1;let aN:=c2-1;let j:=Df c1.2.1;let c11:=((0:Int),(0:Int));let c14:=Df c1.2.2;true/\(qy n->(∃x,UP n x/\n=n/\n=n/\n.1=n.1/\c2=c2/\0=x/\True)/\∀(x:Int),let v:=Du n.1 (Dc x) ((0:Int),Dt Bool,Dt Int);let c18:=Di (dG v.1 v.2.1 v.2.2);let c19:=x+1;UP n x->(Dp x c2->0<=x/\x<c2/\1=1/\0=0/\1=1/\0=0/\True/\(c18->false=usF n/\True)/\(c18=false->inR .i64 c19/\∃y,UP n y/\(n=n/\n=n/\n.1=n.1/\c2=c2/\c19=y/\True)/\Dc (c2-y)<Dc (c2-x)))/\(Dp x c2=false->(∃x,Tv n x/\n=n/\n=n/\c1.1=c1.1/\c5=c5/\0=x/\True)/\∀(x:Int),let u:=(Du c1.1 (Dc x) (ByteArray.mk #[],(0:Int),(0:Int),(0:Int),(0:Int),(0:Int),Dt ByteArray)).2.2;let c21:=Di (btw u.1 0 aN);let i:=Di c21;let c7:=i->i->i;let c24:=Ea c21 true (Di (btw u.2.2.1 1 1000));let h:=Di c24;let c8:=h->h->h;let c26:=Ea c24 true (Di (btw u.2.2.2.1 1 1000));let c27:=x+1;Tv n x->(Dp x c5->0<=x/\x<c5/\1=1/\0=0/\1=1/\1=1/\0=0/\inR .i64 aN/\True/\(i->1=1)/\c7/\(i->1=1)/\(i->0=0)/\c7/\(i->True)/\c7/\(Dj true i->i)/\(h->1=1)/\c8/\(h->1=1)/\(h->0=0)/\c8/\(h->True)/\c8/\(Dj true h->h)/\(c26->false=usF n/\True)/\(c26=false->inR .i64 c27/\∃y,Tv n y/\(n=n/\n=n/\c1.1=c1.1/\c5=c5/\c27=y/\True)/\Dc (c5-y)<Dc (c5-x)))/\(Dp x c5=false->(∃x,TQ n x/\n=n/\n=n/\c1.2.1=c1.2.1/\j=j/\0=x/\True)/\∀(x:Int),let r:=(Du c1.2.1 (Dc x) (ByteArray.mk #[],(0:Int),(0:Int),(0:Int),c11)).2;let Z:=Di (jP n r.1);let g:=Di Z;let c3:=g->g->g;let X:=Ea Z true (Di (jP n r.2.1));let f:=Di X;let c4:=f->f->f;let V:=Ea X true (Di (btw r.2.2.1 0 1439));
 let e:=Di V;let c9:=e->e->e;let T:=Ea V true (Di (btw r.2.2.2.1 1 100000));let O:=x+1;TQ n x->(Dp x j->0<=x/\x<j/\1=1/\0=0/\1=1/\1=1/\0=0/\qy n/\(g->1=1)/\c3/\(g->1=1)/\(g->0=0)/\c3/\c3/\(g->qy n)/\c3/\(Dj true g->g)/\(f->1=1)/\c4/\(f->1=1)/\(f->0=0)/\c4/\c4/\(f->True)/\c4/\(Dj true f->f)/\(e->1=1)/\c9/\(e->1=1)/\(e->0=0)/\c9/\(e->True)/\c9/\(Dj true e->e)/\(T->false=usF n/\True)/\(T=false->inR .i64 O/\∃y,TQ n y/\(n=n/\n=n/\c1.2.1=c1.2.1/\j=j/\O=y/\True)/\Dc (j-y)<Dc (j-x)))/\(Dp x j=false->(∃x,UJ n x/\c1.2.2=c1.2.2/\c14=c14/\0=x/\True)/\∀(x:Int),let L:=(Du c1.2.2 (Dc x) (ByteArray.mk #[],c11)).2;let G:=Di (btw L.1 0 1439);let b:=Di G;let c6:=b->b->b;let A:=Ea G true (Di (btw L.2 0 1439));let z:=x+1;UJ n x->(Dp x c14->0<=x/\x<c14/\1=1/\0=0/\1=1/\1=1/\0=0/\True/\(b->1=1)/\c6/\(b->1=1)/\(b->0=0)/\c6/\c6/\(b->True)/\c6/\(Dj true b->b)/\(A->false=usF n/\True)/\(A=false->inR .i64 z/\∃y,UJ n y/\(c1.2.2=c1.2.2/\c14=c14/\z=y/\True)/\Dc (c14-y)<Dc (c14-x)))/\(Dp x c14=false->true=usF n/\True)))))):
  evF (mkc rf) (lvA [(4,[1,2,3,4,6,8,10,12,17,18,19,30,31,32,62,63,64,97,98,99]),(10,[1,2,3,4,8,10,12,30,31,32,62,63,64,97,98,99]),(16,[1,2,3,4,10,12,62,63,64,97,98,99]),(22,[2,3,12,97,98,99])] (usA n)) 80 [.ip N n] [] ⟨qy n,.dat .bool (usF n),[]⟩:=oE hvc
def aF0(n:Net)(p:Plan): Ann:=⟨λid s=>match id with
 | 4=>some {α:=Int,inv:=λk=>aCJ n p k,st:=λk=>put (fx s) [(38,.dat I k)],μ:=λk=>Dc (Dh (Df p.2.2.1) k)}
 | 7=>match s.sig.T 5,s.sig.T 6 with
  | .dat (.int .i64) o,.dat (.sl (.int .i64)) r=>some {α:=Int,inv:=λk=>TA n o r k,st:=λk=>put (fx s) [(45,.dat I k)],μ:=λk=>Dc (Dh (Df r) k)}
  | _,_=>none
 | _=>none,λ_ _=>none,λ_ _=>none⟩
theorem aAh(n:Net)(p:Plan)(j:
 let c2:=n.2.2.2;let c1:=p.2.2.1;let c3:=Df c1;let c5:=Ec c3 (Df c2.1);let aN:=Di c5;let c6:=aN->aN->aN;let r:=Ea c5 true (Ec (Df p.2.2.2) (Df c2.2.2));let i:=Df c2.2.1;true/\(qy n/\nxP p->c6/\c6/\c6/\c6/\c6/\c6/\c6/\c6/\c6/\c6/\(Dj true aN->aN)/\(r->false=C3 n p/\True)/\(r=false->(∃x,aCJ n p x/\n=n/\c1=c1/\c3=c3/\0=x/\True)/\∀(x:Int),let b:=Du c1 (Dc x) [];let c12:=Df b;let c13:=x+1;aCJ n p x->(Dp x c3->0<=x/\x<c3/\(∃e,TA n x b e/\n=n/\x=x/\b=b/\c1=c1/\c3=c3/\x=x/\b=b/\c12=c12/\0=e/\True)/\∀(e:Int),let c14:=Du b (Dc e) 0;let c15:=Ec c14 (-1);let c7:=c15->c15->c15;let h:=Ed c14 i;let c9:=Di h;let c4:=Dj c15 c9->Dj c15 c9->Dj c15 c9;let g:=Ea c15 (Ea h true (Ec (Du c2.2.1 (Dc c14) (ByteArray.mk #[],(0:Int),(0:Int),(0:Int),(0:Int),(0:Int))).2.1 x)) false;let f:=e+1;TA n x b e->(Dp e c12->0<=e/\e<c12/\c7/\c7/\c7/\c7/\c7/\c7/\c7/\c4/\c4/\c4/\c4/\c4/\(Dj c15 c9->0<=c14)/\(Dj c15 c9->c14<i)/\c4/\c4/\c4/\c4/\c7/\(c15->Dj c15 c9->Dj c15 c9)/\(Dj true c15->c15)/\(g->false=C3 n p/\True)/\(g=false->inR IntKind.i64 f/\∃y,TA n x b y/\(n=n/\x=x/\b=b/\c1=c1/\c3=c3/\x=x/\b=b/\c12=c12/\f=y/\True)/\Dc (c12-y)<Dc (c12-e)))/\(Dp e c12=false->inR .i64 c13/\∃y,aCJ n p y/\(n=n/\c1=c1/\c3=c3/\c13=y/\True)/\Dc (c3-y)<Dc (c3-x)))/\(Dp x c3=false->true=C3 n p/\True)))):
  evF (mkc rf) (lvA [(4,[0,4,5,6,8,36,37,38,43,44,45]),(7,[0,4,5,6,8,36,37,38,43,44,45])] (aF0 n p)) 81 [.ip N n,.ip Pl p] [] ⟨qy n/\nxP p,.dat .bool (C3 n p),[]⟩:=oE j
theorem JV: ∀args m c,FW args m=some c->af Tryz.prog dK 70 args m c:=by
 intro args m c h;unfold FW at h;split at h
 .split at h
  .rename_i e;subst e;cases h;exact aAT _
  .cases h
 .cases h
theorem KS9: aj Tryz.prog dK ZD:=ai JV aET
theorem Vl(s:Int)(l:Li): af Tryz.prog dK 71 [.agg [.dat R l,.dat I s]] [] ⟨Ba (l,s)/\jk (l,s)=true,.tup [.agg [.dat I (au l).1,.dat I (au l).2.1,.dat M (au l).2.2.1,.dat (.sl M) (au l).2.2.2],.ptr 1 1 0 0],[(1,.var [.dat R (bI l)])]⟩/\
  cL Tryz.prog dK 71 [.agg [.dat R l,.dat I s]] [] ⟨Ba (l,s),jk (l,s),cY 39 (yc (l,s))⟩:=by
 refine b9 (c:=c9) KS9 aK hm aCq (WI s l ⟨rfl,λe=>?_⟩);simp only[qc,Dj,Es,Di,qd,Dt,Eb,Ec,Dp,Eh,Ei,Ed,Ey,Df,Et,Dl,Dn,Eo,Dy,Dw,Dh,Dq,Ee,Fh,Dc,Dx,Dk,Dz,Ej,Du,Eu,Ez,En,Ef,Fe,Fj,Fg,Ep,Em,Ew,Fb];refine⟨e,λh=>⟨?_,?_⟩,λh=>⟨h,⟨?_,λb=>⟨?_,?_⟩⟩,λb=>⟨⟨?_,b⟩,?_⟩⟩⟩
 .unfold jk;rw[h];rfl
 .unfold yc;rw[h];rfl
 .exact⟨by unfold dM at h;rw[qC]at h;exact h.1,e⟩
 .unfold jk;rw[b];simp
 .unfold yc;rw[h];rfl
 .exact⟨by unfold dM at h;rw[qC]at h;exact h.1,e⟩
 .unfold jk;rw[h,b];rfl
theorem aDm(x:Int): af Tryz.prog dK 147 [.dat I x] [] ⟨True,.dat .bool (btw x 0 1439),[]⟩:=
 ae (c:=mkc ZD) KS9 aK hm (Z6 x ⟨rfl,λ_=>⟨trivial,rfl,trivial⟩⟩)
theorem aDl(x:Int)(n:Net): af Tryz.prog dK 149 [.dat I x,.ipv (.ip N n)] [] ⟨qy n,.dat .bool (jP n x),[]⟩:=by
 refine ae (c:=mkc ZD) KS9 aK hm (Z5 x n ⟨rfl,λb=>⟨ay ?_,trivial,rfl,trivial⟩⟩);have:=b.1.1.2;simp only[Dh,Df];omega
theorem ZU: aj Tryz.prog dK rf:=ai (ag λ(x,_)=>aDm x)<|ai (ag λ(x,n,_)=>aDl x n) KS9
theorem jF{α:Type}{p:α->Bool}{l:List α}{k:Int}(d:α)(g:0<=k)(f:k<l.length)(e:(l.take k.toNat).all p=true)(b:p (l.getD k.toNat d)=true): (l.take (k+1).toNat).all p=true:=by
 rw[show(k+1).toNat=k.toNat+1 by omega,wO,kN,e];rw[qA,qB (by omega:k.toNat<l.length)]at b;rw[qB (by omega:k.toNat<l.length)];simpa using b
theorem CS{α:Type}{p:α->Bool}{l:List α}{k:Int}(d:α)(g:0<=k)(f:k<l.length)(b:p (l.getD k.toNat d)=false): l.all p=false:=by
 cases e:l.all p with
 | false=>rfl
 | true=>rw[qN.1 e _ (aR (d:=d) (by omega))]at b;cases b
theorem ui{α:Type}{p:α->Bool}{l:List α}{k:Int}(b:(l.take k.toNat).all p=true)(e:¬k<l.length): l.all p=true:=by
 rwa [qQ (by omega)]at b
theorem aFN(n:Net): af Tryz.prog dK 80 [.ip N n] [] ⟨qy n,.dat .bool (usF n),[]⟩:=by
 refine ae (c:=mkc rf) ZU aK hm (aDe n ⟨rfl,λT=>?_⟩);obtain⟨⟨⟨l1,Z⟩,X⟩,V⟩:=id T;obtain⟨cs,ns,os,v,ls,f⟩:=n;simp only at l1 Z X V;simp only[qc,Dj,Es,Di,qd,Dt,Eb,Ec,Dp,Eh,Ei,Ed,Ey,Df,Et,Dl,Dn,Eo,Dy,Dw,Dh,Dq,Ee,Fh,Dc,Dx,Dk,Dz,Ej,Du,Eu,Ez,En,Ef,Fe,Fj,Fg,Ep,Em,Ew,Fb];refine⟨⟨qL _,qV _,rfl⟩,λx L=>?_⟩;have j:0<=x:=L.1;have hx1:x<=cs.length:=L.2.1
 refine⟨λb=>⟨j,b,λhb=>?_,λhb=>⟨ay (by omega),x+1,⟨by omega,by show x+1<=(cs.length:Int);omega,jF (0,[],[]) j b L.2.2 hb⟩,rfl,by omega⟩⟩,λe=>?_⟩
 .unfold usF;rw[CS (p:=nh) (0,[],[]) j b hb];rfl
 have e1:=ui L.2.2 e;refine⟨⟨qL _,qV _,rfl⟩,λy G=>?_⟩;have i:0<=y:=G.1;have hy1:y<=v.length:=G.2.1;refine⟨λb=>⟨i,b,ay (by omega),λhb=>?_,λhb=>⟨ay (by omega),y+1,⟨by omega,by show y+1<=(v.length:Int);omega,jF (⟨#[]⟩,0,0,0,0,0,[]) i b G.2.2 ?_⟩,rfl,by omega⟩⟩,λe=>?_⟩
 .have:lr (cs,ns,os,v,ls,f) (v.getD y.toNat (⟨#[]⟩,0,0,0,0,0,[]))=false:=by
   unfold lr;rcases hb with(h | h) | h<;>rw[h]<;>simp
  unfold usF;rw[CS (p:=lr (cs,ns,os,v,ls,f)) (⟨#[]⟩,0,0,0,0,0,[]) i b this];simp
 .unfold lr;rw[hb.1.1,hb.1.2,hb.2];rfl
 have e2:=ui G.2.2 e;refine⟨⟨qL _,qV _,rfl⟩,λz A=>?_⟩;have g:0<=z:=A.1;have hz1:z<=ls.length:=A.2.1;refine⟨λb=>⟨g,b,T,λ_=>T,λhb=>?_,λhb=>⟨ay (by omega),z+1,⟨by omega,by show z+1<=(ls.length:Int);omega,jF (⟨#[]⟩,0,0,0,0,0) g b A.2.2 ?_⟩,rfl,by omega⟩⟩,λe=>?_⟩
 .have:lx (cs,ns,os,v,ls,f) (ls.getD z.toNat (⟨#[]⟩,0,0,0,0,0))=false:=by
   unfold lx;rcases hb with((h | h) | h) | h<;>rw[h]<;>simp
  unfold usF;rw[CS (p:=lx (cs,ns,os,v,ls,f)) (⟨#[]⟩,0,0,0,0,0) g b this];simp
 .unfold lx;rw[hb.1.1.1,hb.1.1.2,hb.1.2,hb.2];rfl
 have e3:=ui A.2.2 e;refine⟨⟨qL _,qV _,rfl⟩,λu O=>?_⟩;have r:0<=u:=O.1;have hu1:u<=f.length:=O.2.1;refine⟨λb=>⟨r,b,λhb=>?_,λhb=>⟨ay (by omega),u+1,⟨by omega,by show u+1<=(f.length:Int);omega,jF (⟨#[]⟩,0,0) r b O.2.2 ?_⟩,rfl,by omega⟩⟩,λe=>?_⟩
 .have:lK (f.getD u.toNat (⟨#[]⟩,0,0))=false:=by
   unfold lK;rcases hb with h | h<;>rw[h]<;>simp
  unfold usF;rw[CS (p:=lK) (⟨#[]⟩,0,0) r b this];simp
 .unfold lK;rw[hb.1,hb.2];rfl
 have e4:=ui O.2.2 e;unfold usF;rw[e1,e2,e3,e4];rfl
theorem aBP{n:Net}{p:Plan}{i:Nat}(hi:i<p.2.2.1.length)(h:mU n i (p.2.2.1.getD i [])=false): C3 n p=false:=by
 cases e:C3 n p with
 | false=>rfl
 | true=>
  unfold C3 at e;rw[qC,qN]at e;rw[e.2 i (vF.2 hi)]at h;cases h
theorem aDY(n:Net)(p:Plan): af Tryz.prog dK 81 [.ip N n,.ip Pl p] [] ⟨qy n/\nxP p,.dat .bool (C3 n p),[]⟩:=by
 refine ae (c:=mkc rf) ZU aK hm (aAh n p ⟨rfl,λ⟨hn,hp⟩=>?_⟩);obtain⟨⟨⟨l1,l2⟩,l3⟩,l4⟩:=id hn;obtain⟨cs,ns,os,L,ls,A⟩:=n;obtain⟨p1,p2,nx,Z⟩:=p;simp only at l1 l2 l3 l4;simp only[qc,Dj,Es,Di,qd,Dt,Eb,Ec,Dp,Eh,Ei,Ed,Ey,Df,Et,Dl,Dn,Eo,Dy,Dw,Dh,Dq,Ee,Fh,Dc,Dx,Dk,Dz,Ej,Du,Eu,Ez,En,Ef,Fe,Fj,Fg,Ep,Em,Ew,Fb];obtain⟨q1,q2⟩:nx.length<=2000000000000000/\∀r∈nx,r.length<=2000000000000000/\∀x∈r,-1<=x:=hp
 refine⟨λh=>?_,λ⟨h1,h2⟩=>⟨⟨qL _,qV _,λi hi=>by omega⟩,λx G=>?_⟩⟩
 .unfold C3;rcases h with h | h
  .rw[vV (p:=nx.length=L.length) (by omega)];simp
  .rw[vV (p:=Z.length=A.length) (by omega)];simp
 have u:0<=x:=G.1;have hx1:x<=nx.length:=G.2.1;refine⟨λT=>⟨u,T,⟨qL _,qV _,rfl⟩,λy j=>?_⟩,λhge=>?_⟩
 .obtain⟨r1,V⟩:=q2 _ (aR (l:=nx) (i:=x.toNat) (d:=[]) (by omega));obtain⟨r,O⟩:∃r,r=nx.getD x.toNat []:=⟨_,rfl⟩;rw[<- O]at r1 V j ⊢;have f:0<=y:=j.1;have hy1:y<=r.length:=j.2.1;refine⟨λb=>?_,λz=>?_⟩
  .have hv:=V _ (aR (l:=r) (i:=y.toNat) (d:=0) (by omega));obtain⟨v,g⟩:∃v,v=r.getD y.toNat 0:=⟨_,rfl⟩;rw[<- g]at hv ⊢;have cg:jY (cs,ns,os,L,ls,A) x v=(decide (v=-1)||(decide (v<ls.length)&&decide ((ls.getD v.toNat (⟨#[]⟩,0,0,0,0,0)).2.1=x))):=rfl;refine⟨f,b,λh=>by omega,λh=>by omega,λh=>?_,λh=>⟨ay (by omega),y+1,⟨by omega,by omega,jF 0 f b j.2.2 ?_⟩,rfl,by omega⟩⟩
   .have:jY (cs,ns,os,L,ls,A) x v=false:=by
     rw[cg,vV h.1];rcases h.2 with X | X
     .rw[vV (by omega)];rfl
     .rw[vV X];simp
    refine(aBP (i:=x.toNat) (by show x.toNat<nx.length;omega) ?_).symm;show mU _ _ (nx.getD x.toNat [])=false;rw[<- O];unfold mU;rw[qR u];exact CS 0 f b (by rw[<- g];exact this)
   .rw[<- g,cg];by_cases hm:v=-1
    .rw[qW hm];rfl
    .obtain⟨g1,g2⟩:=h hm;rw[qW (p:=v<ls.length) (by omega),qW g2];simp
  .have e1:=ui j.2.2 z;refine⟨ay (by omega),x+1,⟨by omega,by show x+1<=(nx.length:Int);omega,λi hi=>?_⟩,rfl,by omega⟩;by_cases e:(i:Int)<x
   .exact G.2.2 i e
   .have:(i:Int)=x:=by omega
    rw[this];show mU _ _ (nx.getD i [])=true;have e2:i=x.toNat:=by omega
    rw[e2,<- O];exact e1
 .unfold C3;rw[qW (p:=nx.length=L.length) (by omega),qW (p:=Z.length=A.length) (by omega)]
  symm
  simp only[zQ];exact qN.2 λi hi=>G.2.2 i (by have:i<nx.length:=vF.1 hi;omega)
def bQ(n:Net)(o:Int): Off:=n.2.2.2.1.getD o.toNat (⟨#[]⟩,0,0,0,0,0,[])
def al(n:Net)(o:Int): Cal:=n.1.getD (bQ n o).2.2.1.toNat (0,[],[])
def dP(n:Net)(k:Int): Cla:=n.2.2.2.2.2.getD k.toNat (⟨#[]⟩,0,0)
def usP(n:Net): Prop:=usF n=true/\qy n
def iY(n:Net)(o:Int): Prop:=0<=o/\o<n.2.2.2.1.length
def UK(n:Net)(k:Int): Prop:=0<=k/\k<n.2.2.2.2.2.length
def tOk(t:Int): Prop:=-3000000000<=t/\t<=3000000000
def sD(n:Net)(o t:Int): Int:=t+(bQ n o).2.2.2.2.1*(bQ n o).2.2.2.2.2.1
def Vy(n:Net)(o t:Int): Prop:=usP n/\iY n o/\tOk t
def cellAt(p:Plan)(o d:Int): Int:=(p.2.2.1.getD o.toNat []).getD d.toNat 0
def iS(p:Plan)(k o d:Int): Int:=((p.2.2.2.getD k.toNat []).getD o.toNat []).getD d.toNat 0
def plP(n:Net)(p:Plan): Prop:=(0<=p.1/\p.1<=p.2.1/\p.2.1<=600)/\(p.2.2.1.length=n.2.2.2.1.length/\∀r∈p.2.2.1,r.length=n.2.2.2.1.length)/\(∀i j:Int,iY n i->iY n j->jY n i (cellAt p i j)=true/\-1<=cellAt p i j)/\
 p.2.2.2.length=n.2.2.2.2.2.length/\∀t∈p.2.2.2,t.length=n.2.2.2.1.length/\∀r∈t,r.length=n.2.2.2.1.length
def sO(n:Net)(o l:Int)(p:Plan)(x t:Int): Bool:=wkF (al n o).2.1 (al n o).2.2 (x-2+p.1)&&decide (vw (al n o).1 (x-2+p.1) (dO n l).2.2.2.1≥sD n o t)
def FK(n:Net)(p:Plan)(d:Int): Nat->Int->Int->Li->Bool×Int×Li
 | 0,o,t,xs=>(decide (o=d),t,xs)
 | f+1,o,t,xs=>if o=d then(true,t,xs)else if cellAt p o d=-1 then(false,t,xs)else if bJ xs=false then(false,t,xs)else
  if sO n o (cellAt p o d) p (hd xs) t=true then FK n p d f (dO n (cellAt p o d)).2.2.1 (vw (al n o).1 (hd xs-2+p.1) (dO n (cellAt p o d)).2.2.2.1+(dO n (cellAt p o d)).2.2.2.2.1) (tl xs)else(false,t,tl xs)
def uF(n:Net)(p:Plan)(o d t:Int)(xs:Li): Bool:=(FK n p d 19 o t xs).1
def uE(n:Net)(p:Plan)(o d t:Int)(xs:Li): Int:=(FK n p d 19 o t xs).2.1
def HT(n:Net)(p:Plan)(o d t:Int)(xs:Li): Li:=(FK n p d 19 o t xs).2.2
def HU(n:Net)(p:Plan)(o d t:Int)(xs:Li): Prop:=((usP n/\plP n p)/\iY n o/\iY n d)/\tOk t/\dj xs
def Ui(n:Net)(p:Plan)(d o0 t0:Int)(xs0:Li)(k o t:Int)(xs:Li): Prop:=(0<=k/\k<=19/\HU n p o d t xs)/\FK n p d (19-k).toNat o t xs=FK n p d 19 o0 t0 xs0
def P4(c:Cal)(m t:Int): Int:=if m<cD c.1 t then aX c.1 t+1 else aX c.1 t
def ZR(c:Cal)(m t:Int): Option Int:=(gk c.2.1 c.2.2 (P4 c m t) (P4 c m t+59)).head?
def nb(c:Cal)(m t:Int): Bool:=(ZR c m t).isSome
def JH(c:Cal)(m t:Int): Int:=(ZR c m t).getD 0
def Up(c:Cal)(t:Int): Prop:=nh c=true/\big t
def yn(k:Nat): Prop:=k=0
def UU(n:Net)(d cut:Int): Int:=aX (al n d).1 cut
def Jw(n:Net)(p:Plan)(k o d cut:Int)(xs:Li): Int:=JH (al n d) (dP n k).2.2 (sD n d (uE n p o d cut xs))
def TE(n:Net)(p:Plan)(k o d cut:Int)(xs:Li): Li:=gk (al n d).2.1 (al n d).2.2 (UU n d cut+1) (Jw n p k o d cut xs)
def uy(n:Net)(p:Plan)(k o d cut:Int)(xs:Li): Bool:=uF n p o d cut xs&&(nb (al n d) (dP n k).2.2 (sD n d (uE n p o d cut xs))&&(decide (Jw n p k o d cut xs-UU n d cut<=2000)&&decide (((TE n p k o d cut xs).length:Int)<=iS p k o d)))
def VA(n:Net)(p:Plan)(k o d cut:Int)(xs:Li): Prop:=HU n p o d cut xs/\UK n k
def OV(k:Nat): Prop:=k<=4000000000000
def tU(p:Plan)(t:Int): Bool:=decide (1440*p.1<=t)&&decide (t<1440*p.2.1)
def JL(n:Net)(p:Plan)(o:Int): Li:=gk (al n o).2.1 (al n o).2.2 (p.1-1) (p.2.1+1)
def JK(n:Net)(k o d:Int): Int:=vw (al n o).1 d (dP n k).2.1
def jy(n:Net)(p:Plan)(k o:Int): Li:=((JL n p o).map λd=>JK n k o d).filter (tU p)
def KB(n:Net)(p:Plan)(k o:Int)(j:Nat): Nat:=((((JL n p o).take j).map λd=>JK n k o d).filter (tU p)).length
def aBV(n:Net)(p:Plan)(k o:Int): Prop:=(usP n/\plP n p)/\iY n o/\UK n k
theorem QA(n:Net)(p:Plan)(o t:Int)(b:
 let c2:=(Du n.2.2.2.1 (Dc o) (ByteArray.mk #[],(0:Int),(0:Int),(0:Int),(0:Int),(0:Int),Dt ByteArray)).2.2.2.2;let c3:=c2.1*c2.2.1;let c4:=t+c3;true/\(Vy n o t->0<=o/\o<Df n.2.2.2.1/\inR .i64 c3/\inR .i64 c4/\c4=sD n o t/\True)):
  evF (mkc rf) az 157 [.ips [.ip N n,.ip Pl p,.top],.dat I o,.dat I t] [] ⟨Vy n o t,.dat I (sD n o t),[]⟩:=oE b
theorem IK(n:Net)(p:Plan)(o:Int)(b:
 let c2:=(Du n.2.2.2.1 (Dc o) (ByteArray.mk #[],(0:Int),(0:Int),(0:Int),(0:Int),(0:Int),Dt ByteArray)).2.2.1;true/\(usP n/\iY n o->0<=o/\o<Df n.2.2.2.1/\0<=c2/\c2<Df n.1/\Du n.1 (Dc c2) ((0:Int),Dt Bool,Dt Int)=al n o/\True)):
  evF (mkc rf) az 152 [.ips [.ip N n,.ip Pl p,.top],.dat I o] [] ⟨usP n/\iY n o,.ip C (al n o),[]⟩:=oE b
theorem W0(n:Net)(p:Plan)(k o:Int)(b:
 true/\(True->n=n/\p=p/\o=o/\k=k/\True)):
  evF (mkc rf) az 82 [.ips [.ip N n,.ip Pl p,.top],.dat I k,.dat I o] [] ⟨True,.fn 151 [.ipv (.ips [.ip N n,.ip Pl p,.top]),.ip I o,.ip I k],[]⟩:=oE b
def Gq: Kt:=kOr 157 (aw [.pvf N Pl,.val I,.val I] (λ((n,_),o,t,_)=>Vy n o t) λ((n,_),o,t,_)=>.dat I (sD n o t)) <|
 kOr 152 (aw [.pvf N Pl,.val I] (λ((n,_),o,_)=>usP n/\iY n o) λ((n,_),o,_)=>.ip C (al n o)) <|
 kOr 82 (aw [.pvf N Pl,.val I,.val I] (λ_=>True) λ((n,p),k,o,_)=>.fn 151 [.ipv (.ips [.ip N n,.ip Pl p,.top]),.ip I o,.ip I k]) rf
def KI1: FuncId->List AV->Option iV:=λf caps=>if f=219 then match ofK [.ptr I,.ptr I,.bp C] caps with
 | some (a,b,c,_)=>some ⟨wdP c.2.1 c.2.2 a b,I,gk c.2.1 c.2.2 a b⟩
 | none=>none
 else none
noncomputable def TK(K:Kt)(KI:FuncId->List AV->Option iV)(KP:KPt)(pf:FuncId->Bool): Cfg:=⟨Tryz.prog,dK,K,λ_=>false,KI,true,KP,pf⟩
def mki(K:Kt)(KI:FuncId->List AV->Option iV): Cfg:={mkc K with KI:=KI}
def aF4(n:Net)(p:Plan)(k o:Int): ZG:=⟨az,⟨λ_ _=>none,λ_ _=>none,λid=>id==6⟩,λs=>some (frz (allNames s) s),λj=>KB n p k o j⟩
theorem W4(n:Net)(p:Plan)(k o:Int)(A:
 let c6:=al n o;let c3:=(Ty.int .i64).pair (Ty.bool.sl.pair (Ty.int .i64).sl);let c1:=p.2.1;let c2:=1440*p.1;let c5:=1440*c1;let aN:=p.1-1;let c7:=c1+1;let z:=c6.2;let x:=gk z.1 z.2 aN c7;let c12:=jy n p k o;let c13:=Dk c12;let c15:=c6.1;let h:=(Du n.2.2.2.2.2 (Dc k) (ByteArray.mk #[],(0:Int),(0:Int))).2.1;true/\true/\true/\false=false/\∀(l:Nat),aBV n p k o->(usP n/\iY n o)/\1=1/\0=0/\inR .i64 c2/\inR .i64 c5/\1=1/\0=0/\1=1/\0=0/\1=1/\0=0/\inR IntKind.i64 aN/\inR .i64 c7/\True/\l=l/\n=n/\p=p/\o=o/\k=k/\l=l/\1=1/\0=0/\AV.ip c3 c6=AV.ip c3 c6/\1=1/\0=0/\c2=c2/\1=1/\0=0/\c5=c5/\n=n/\p=p/\o=o/\al n o=al n o/\n=n/\p=p/\n=n/\p=p/\p=p/\p=p/\p=p/\p=p/\p.1=p.1/\c2=c2/\n=n/\p=p/\n=n/\p=p/\p=p/\p=p/\p=p/\p.2=p.2/\c1=c1/\c5=c5/\al n o=al n o/\n=n/\p=p/\n=n/\p=p/\p=p/\p=p/\p=p/\p=p/\p.1=p.1/\aN=aN/\n=n/\p=p/\n=n/\p=p/\p=p/\p=p/\p=p/\p.2=p.2/\c1=c1/\c7=c7/\aN=aN/\c7=c7/\al n o=al n o/\wdP z.1 z.2 aN c7/\KB n p k o 0=0/\KB n p k o (Dk x)=c13/\∀(j:Nat),let g:=KB n p k o j;let v:=g+1;let u:=KB n p k o (j+1);∀(y:Int),let f:=Ed (vw c15 y h) c2;let c9:=f->f->f;let e:=Ea f (Dp (vw c15 y h) c5) false;let c4:=Dj true e->e;let r:=Ea e (Di false) false;lC x j y->true/\0<=k/\k<Df n.2.2.2.2.2/\(big c15/\big y/\big h)/\c9/\c9/\(Dj true f->f)/\(e->(e->e)/\(e->e)/\l=l/\true/\lC c12 g (vw c15 y h)/\∀(b:Bool),let i:=Ea e (Di b) false;c4/\(i->b->v=c13)/\(i=false->b/\v=u))/\(e=false->(e->e->e)/\c4/\(r->true->g=c13)/\(r=false->true/\g=u))):
  aEv (mki Gq KI1) (aF4 n p k o) 151 [.ipv (.ips [.ip N n,.ip Pl p,.top]),.ip I o,.ip I k] ⟨aBV n p k o,I,jy n p k o⟩:=oE A
def aFZ(n:Net)(p:Plan)(d o0 t0:Int)(xs0:Li): Ann:=⟨λid s=>match id with
 | 2=>some {α:=Int×Int×Int×Li,inv:=λx=>Ui n p d o0 t0 xs0 x.1 x.2.1 x.2.2.1 x.2.2.2,st:=λx=>gC (put (fx s) [(9,.dat I x.1),(1,.dat I x.2.1),(3,.dat I x.2.2.1)]) 1 (.var [.dat R x.2.2.2]),μ:=λx=>Dc (Dh 19 x.1)}
 | _=>none,λ_ _=>none,λ_ _=>none⟩
def aCw: Kt:=kOr 207 (VF 1 R [.mp 1] (λ_ xs=>True/\bJ xs=true) (λ_ xs=>.dat I (hd xs)) λ_ xs=>tl xs) Gq
def c12: Cfg:=Jk aCw (λ_=>false) KP6 (λf=>f==79||f==207)
theorem Le(n:Net)(p:Plan)(o d t:Int)(xs:Li)(hvc:
 let c1:=p.2.2.1;let c2:=uF n p o d t xs;let c3:=chainOf (Value.iface 39 (Value.int .i64 (190:Int)));let c4:=n.2.2.2.2.1;let c5:=p.1;let aN:=(ByteArray.mk #[],(0:Int),(0:Int),(0:Int),(0:Int),(0:Int));true/\(HU n p o d t xs->1=1/\(∃(x:Int×Int×Int×Li),let c7:=x.1;let c8:=x.2;let c9:=c8.1;let c10:=c8.2;let c11:=c10.1;let c12:=c10.2;Ui n p d o t xs c7 c9 c11 c12/\n=n/\p=p/\1=1/\0=0/\0=0/\o=c9/\d=d/\t=c11/\(0:Int)=(0:Int)/\0=c7/\xs=c12/\1=1/\True)/\∀(x:Int×Int×Int×Li),let c13:=x.1;let c14:=x.2;let c15:=c14.1;let c16:=c14.2;let i:=c16.1;let g:=c16.2;let c19:=Ec c15 d;let c20:=Du c1 (Dc c15) [];let e:=Dp c13 19;let h:=Du c20 (Dc d) 0;let v:=Ea e (Ec h (-1)) false;let u:=bJ g;let c25:=hd g-2;let f:=c25+c5;let c27:=al n c15;let c28:=c27.1;let c29:=(Du c4 (Dc h) aN).2.2;let c30:=c29.2;let c31:=c30.1;let c32:=c27.2;let c33:=c32.1;let Z:=c32.2;let b:=wkF c33 Z f;let X:=vw c28 f c31;let r:=Ea b (Ed X (sD n c15 i)) false;let V:=X+c30.2.1;let T:=c13+1;
 Ui n p d o t xs c13 c15 i g->(c19->0<=c15/\c15<Df c1/\0<=d/\d<Df c20/\(e->e->e)/\(Dj true e->e)/\(true->True/\(v=false->c2=false/\true/\c3=c3))/\((true->v)->(True/\v)/\0<=h/\h<Df c4/\(usP n/\iY n c15)/\True/\(u->(True/\u)/\1=1/\inR .i64 c25/\inR .i64 f/\(big c28/\big f/\big c31)/\wkP c33 Z f/\(b->b->b)/\(b->b->b)/\(b->b->b)/\(b->Vy n c15 i)/\(b->b->b)/\(b->b->b)/\(Dj true b->b)/\(true->True/\(r=false->c2=false/\true/\c3=c3))/\((true->r)->(True/\r)/\inR .i64 V/\inR .i64 T/\∃(y:Int×Int×Int×Li),let j:=y.1;let O:=y.2;let L:=O.1;let G:=O.2;let A:=G.1;let z:=G.2;Ui n p d o t xs j L A z/\(n=n/\p=p/\1=1/\0=0/\0=0/\c29.1=L/\d=d/\V=A/\(0:Int)=(0:Int)/\T=j/\tl g=z/\1=1/\True)/\Dc (19-j)<Dc (19-c13)))/\(u=false->c2=false/\true/\c3=c3)))/\(c19=false->c2/\i=uE n p o d t xs/\g=HT n p o d t xs/\1=1/\True))):
  evM c12 (aFZ n p d o t xs) 155 [.ips [.ip N n,.ip Pl p,.ptr 1 1 0 0],.dat I o,.dat I d,.dat I t] [(1,.var [.dat R xs])] (.dat I (uE n p o d t xs)) [(1,.var [.dat R (HT n p o d t xs)])] ⟨HU n p o d t xs,uF n p o d t xs,cY 39 190⟩:=oE hvc
def aF3: Ann:=⟨λid s=>match id with
 | 5=>some {α:=Nat,inv:=λk=>yn k,st:=λ_=>fx s,μ:=λk=>k}
 | _=>none,λ_ _=>none,λ_ _=>none⟩
theorem QX(z m t:Int)(w:List Bool)(h:Li)(f:
 let c1:=(z,w,h);let c2:=Dp m (cD z t);let c3:=aX z t+1;let c4:=c3+60;let c5:=c4-1;let aN:=gk w h c3 c5;let c7:=nb c1 m t;let g:=chainOf (Value.iface 39 (Value.int .i64 (190:Int)));let c6:=true->True/\(false=false->c7=false/\true/\g=g);let c9:=aX z t+60;let b:=c9-1;let e:=gk w h (aX z t) b;true/\(Up c1 t->(big z/\big t)/\(c2->inR .i64 c3/\inR .i64 c4/\inR .i64 c5/\True/\wdP w h c3 c5/\(∃x,yn x/\x=0/\c1=c1/\m=m/\t=t/\1=1/\0=0/\0=0/\c3=c3/\cD z t=cD z t/\aX z t=aX z t/\cD z t=cD z t/\c1=c1/\t=t/\aX z t=aX z t/\cD z t=cD z t/\aX z t=aX z t/\cD z t=cD z t/\m=m/\cD z t=cD z t/\c2=c2/\aX z t=aX z t/\c3=c3/\c1=c1/\c3=c3/\c3=c3/\c4=c4/\c5=c5/\c3=c3/\c5=c5/\c1=c1/\(0:Int)=(0:Int)/\True)/\(∀(x:Nat) (y:Int),yn x->lC aN x y->1=1/\0=0/\c7/\1=1/\0=0/\y=JH c1 m t/\True)/\∀(x:Nat),yn x->x=Dk aN->c6/\True)/\(c2=false->inR .i64 c9/\inR .i64 b/\True/\wdP w h (aX z t) b/\(∃x,yn x/\x=0/\c1=c1/\m=m/\t=t/\1=1/\0=0/\0=0/\aX z t=aX z t/\cD z t=cD z t/\aX z t=aX z t/\cD z t=cD z t/\c1=c1/\t=t/\aX z t=aX z t/\cD z t=cD z t/\aX z t=aX z t/\cD z t=cD z t/\m=m/\cD z t=cD z t/\c2=c2/\c1=c1/\aX z t=aX z t/\aX z t=aX z t/\c9=c9/\b=b/\aX z t=aX z t/\b=b/\c1=c1/\(0:Int)=(0:Int)/\True)/\(∀(x:Nat) (y:Int),yn x->lC e x y->1=1/\0=0/\c7/\1=1/\0=0/\y=JH c1 m t/\True)/\∀(x:Nat),yn x->x=Dk e->c6/\True))):
  evC (TK Gq KI1 Go.Eng.noP (λ_=>false)) aF3 156 [.ip C (z,w,h),.dat I m,.dat I t] (.dat I (JH (z,w,h) m t)) ⟨Up (z,w,h) t,nb (z,w,h) m t,cY 39 190⟩:=oE f
def ZE: Kt:=kOr 155 (VF 1 R [.pv 1 N Pl,.val I,.val I,.val I] (λ((n,p),o,d,t,_) xs=>HU n p o d t xs/\uF n p o d t xs=true) (λ((n,p),o,d,t,_) xs=>.dat I (uE n p o d t xs)) λ((n,p),o,d,t,_) xs=>HT n p o d t xs) <|
 kOr 156 (aw [.ptr C,.val I,.val I] (λ(c,m,t,_)=>Up c t/\nb c m t=true) λ(c,m,t,_)=>.dat I (JH c m t)) Gq
def aFI: KPt:=pOr 155 (Yy 1 R [.pv 1 N Pl,.val I,.val I,.val I] λ((n,p),o,d,t,_) xs=>⟨HU n p o d t xs,uF n p o d t xs,cY 39 190⟩) <|
 pOr 156 (uG [.ptr C,.val I,.val I] λ(c,m,t,_)=>⟨Up c t,nb c m t,cY 39 190⟩) KPr
def c13: Cfg:=TK ZE KI1 aFI (λf=>f==79||f==155||f==156)
def aFR: Ann:=⟨λid s=>match id with
 | 7=>match s.sig.T 15 with
  | .ptr nm _ _ _=>some {α:=Nat,inv:=λk=>OV k,st:=λk=>gC (fx s) nm (.var [.dat I (Dx k)]),μ:=λk=>k}
  | _=>none
 | _=>none,λ_ _=>none,λ_ _=>none⟩
theorem QC(n:Net)(p:Plan)(k o d cut:Int)(xs:Li)(T:
 let c1:=uF n p o d cut xs;let c2:=uy n p k o d cut xs;let c3:=chainOf (Value.iface 39 (Value.int .i64 (190:Int)));let c4:=n.2.2.2.2.2;let c5:=uE n p o d cut xs;let aN:=sD n d c5;let c7:=Du c4 (Dc k) (ByteArray.mk #[],(0:Int),(0:Int));let g:=c7.2.2;let c9:=nb (al n d) g aN;let u:=(al n d).1;let b:=JH (al n d) g aN;let c12:=aX u cut;let c13:=b-c12;let c14:=Ei c13 2000;let c15:=c12+1;let O:=(al n d).2;let L:=O.1;let G:=O.2;let e:=cD u cut;let f:=HT n p o d cut xs;let A:=gk L G c15 b;let r:=p.2.2.2;let j:=Du r (Dc k) (Dt (Li));let i:=Du j (Dc o) [];let h:=Du i (Dc d) 0;
 true/\(VA n p k o d cut xs->1=1/\(true->HU n p o d cut xs/\(c1=false->c2=false/\true/\c3=c3))/\((true->c1)->(HU n p o d cut xs/\c1)/\1=1/\(usP n/\iY n d)/\0<=k/\k<Df c4/\Vy n d c5/\Up (al n d) aN/\(c9->0<=k/\k<Df c4/\Vy n d c5/\(Up (al n d) aN/\c9)/\(big u/\big cut)/\inR .i64 c13/\(true->True/\(c14=false->c2=false/\true/\c3=c3))/\((true->c14)->(True/\c14)/\1=1/\0=0/\inR .i64 c15/\True/\wdP L G c15 b/\(∃x,OV x/\x=0/\n=n/\p=p/\1=1/\0=0/\0=0/\k=k/\o=o/\d=d/\cut=cut/\c5=c5/\al n d=al n d/\b=b/\c12=c12/\e=e/\1=1/\0=0/\0=0/\n=n/\p=p/\1=1/\0=0/\0=0/\o=o/\d=d/\cut=cut/\c5=c5/\n=n/\p=p/\1=1/\0=0/\0=0/\d=d/\al n d=al n d/\al n d=al n d/\n=n/\p=p/\1=1/\0=0/\0=0/\n=n/\p=p/\1=1/\0=0/\0=0/\n=n/\p=p/\1=1/\0=0/\0=0/\n=n/\n=n/\c4=c4/\c4=c4/\k=k/\c7=c7/\g=g/\g=g/\n=n/\p=p/\1=1/\0=0/\0=0/\d=d/\c5=c5/\aN=aN/\b=b/\c12=c12/\e=e/\al n d=al n d/\cut=cut/\c12=c12/\e=e/\c12=c12/\e=e/\b=b/\c12=c12/\c13=c13/\c14=c14/\al n d=al n d/\c12=c12/\c15=c15/\b=b/\c15=c15/\b=b/\al n d=al n d/\f=f/\0=Dx x/\1=1/\True)/\(∀(x:Nat),let v:=Dx x+1;
 ∀(y:Int),OV x->lC A x y->1=1/\0=0/\inR .i64 v/\1=1/\0=0/\∃z,OV z/\z=x+1/\n=n/\p=p/\1=1/\0=0/\0=0/\k=k/\o=o/\d=d/\cut=cut/\c5=c5/\al n d=al n d/\b=b/\c12=c12/\e=e/\1=1/\0=0/\0=0/\n=n/\p=p/\1=1/\0=0/\0=0/\o=o/\d=d/\cut=cut/\c5=c5/\n=n/\p=p/\1=1/\0=0/\0=0/\d=d/\al n d=al n d/\al n d=al n d/\n=n/\p=p/\1=1/\0=0/\0=0/\n=n/\p=p/\1=1/\0=0/\0=0/\n=n/\p=p/\1=1/\0=0/\0=0/\n=n/\n=n/\c4=c4/\c4=c4/\k=k/\c7=c7/\g=g/\g=g/\n=n/\p=p/\1=1/\0=0/\0=0/\d=d/\c5=c5/\aN=aN/\b=b/\c12=c12/\e=e/\al n d=al n d/\cut=cut/\c12=c12/\e=e/\c12=c12/\e=e/\b=b/\c12=c12/\c13=c13/\c14=c14/\al n d=al n d/\c12=c12/\c15=c15/\b=b/\c15=c15/\b=b/\al n d=al n d/\f=f/\v=Dx z/\1=1/\True)/\∀(x:Nat),OV x->x=Dk A->1=1/\0=0/\0<=k/\k<Df r/\0<=o/\o<Df j/\0<=d/\d<Df i/\True/\(Ei (Dx x) h->1=1/\0=0/\0<=k/\k<Df r/\0<=o/\o<Df j/\0<=d/\d<Df i/\(True/\Ei (Dx x) h)/\c2/\f=f/\1=1/\True)/\(Ei (Dx x) h=false->c2=false/\true/\c3=c3)))/\(c9=false->c2=false/\true/\c3=c3)))):
  evM c13 aFR 83 [.ips [.ip N n,.ip Pl p,.ptr 1 1 0 0],.dat I k,.dat I o,.dat I d,.dat I cut] [(1,.var [.dat R xs])] (.tup []) [(1,.var [.dat R (HT n p o d cut xs)])] ⟨VA n p k o d cut xs,uy n p k o d cut xs,cY 39 190⟩:=oE T
theorem GH{n:Net}(h:usP n): ((∀c∈n.1,nh c=true)/\(∀o∈n.2.2.2.1,lr n o=true))/\(∀l∈n.2.2.2.2.1,lx n l=true)/\∀k∈n.2.2.2.2.2,lK k=true:=by
 have:=h.1;unfold usF at this;simp only[qC,qN]at this;exact⟨⟨this.1.1.1,this.1.1.2⟩,this.1.2,this.2⟩
theorem Lt{n:Net}{o:Int}(h:usP n)(b:iY n o): (0<=(bQ n o).2.2.1/\(bQ n o).2.2.1<n.1.length)/\(1<=(bQ n o).2.2.2.2.1/\(bQ n o).2.2.2.2.1<=1000)/\1<=(bQ n o).2.2.2.2.2.1/\(bQ n o).2.2.2.2.2.1<=1000:=by
 have:=(GH h).1.2 (bQ n o) (aR (by have:=b.1;have:=b.2;omega));unfold lr at this;simp only[qC,np]at this;omega
theorem GG{n:Net}{o:Int}(h:usP n)(b:iY n o): nh (al n o)=true:=
 (GH h).1.1 _ (aR (by have:=(Lt h b).1;omega))
theorem Vf{n:Net}{l:Int}(h:usP n)(e:0<=l)(b:l<n.2.2.2.2.1.length): iY n (dO n l).2.1/\iY n (dO n l).2.2.1/\(0<=(dO n l).2.2.2.1/\(dO n l).2.2.2.1<=1439)/\1<=(dO n l).2.2.2.2.1/\(dO n l).2.2.2.2.1<=100000:=by
 have:=(GH h).2.1 (dO n l) (aR (by omega));unfold lx jP at this;simp only[qC,np]at this;unfold iY;omega
theorem Vg{n:Net}{k:Int}(h:usP n)(b:UK n k): (0<=(dP n k).2.1/\(dP n k).2.1<=1439)/\0<=(dP n k).2.2/\(dP n k).2.2<=1439:=by
 have:=(GH h).2.2 (dP n k) (aR (by have:=b.1;have:=b.2;omega));unfold lK at this;simp only[qC,np]at this;omega
theorem lL{c:Cal}(h:nh c=true): (-720<=c.1/\c.1<=840)/\c.2.1.length=7/\srt c.2.2:=by
 have:=(iF.1 h).1;exact⟨⟨this.1,this.2.1⟩,this.2.2.1,Ls h⟩
theorem Vx{n:Net}{o t:Int}(h:usP n)(b:iY n o): t+1<=sD n o t/\sD n o t<=t+1000000:=by
 obtain⟨_,⟨i,g⟩,f,e⟩:=Lt h b;unfold sD;have r:1*1<=(bQ n o).2.2.2.2.1*(bQ n o).2.2.2.2.2.1:=xJ i f (by decide) (by omega);have j:(bQ n o).2.2.2.2.1*(bQ n o).2.2.2.2.2.1<=1000*1000:=xJ g e (by omega) (by decide);omega
theorem Xu(n:Net)(p:Plan)(o t:Int): af Tryz.prog dK 157 [.ips [.ip N n,.ip Pl p,.top],.dat I o,.dat I t] [] ⟨Vy n o t,.dat I (sD n o t),[]⟩:=by
 refine ae (c:=mkc rf) ZU aK hm (QA n p o t ⟨rfl,λ⟨f,b,g⟩=>?_⟩);obtain⟨i,h⟩:=Vx (t:=t) f b;obtain⟨t1,t2⟩:=g;have e:sD n o t=t+(bQ n o).2.2.2.2.1*(bQ n o).2.2.2.2.2.1:=rfl;refine⟨b.1,b.2,ay ?_,ay ?_,rfl,trivial⟩
 .show _<=(bQ n o).2.2.2.2.1*(bQ n o).2.2.2.2.2.1/\(bQ n o).2.2.2.2.1*(bQ n o).2.2.2.2.2.1<=_;omega
 .show _<=t+(bQ n o).2.2.2.2.1*(bQ n o).2.2.2.2.2.1/\t+(bQ n o).2.2.2.2.1*(bQ n o).2.2.2.2.2.1<=_;omega
theorem L8(n:Net)(p:Plan)(o:Int): af Tryz.prog dK 152 [.ips [.ip N n,.ip Pl p,.top],.dat I o] [] ⟨usP n/\iY n o,.ip C (al n o),[]⟩:=by
 refine ae (c:=mkc rf) ZU aK hm (IK n p o ⟨rfl,λ⟨e,b⟩=>?_⟩);have:=(Lt e b).1;exact⟨b.1,b.2,this.1,this.2,rfl,trivial⟩
theorem aAP(n:Net)(p:Plan)(k o:Int): af Tryz.prog dK 82 [.ips [.ip N n,.ip Pl p,.top],.dat I k,.dat I o] [] ⟨True,.fn 151 [.ipv (.ips [.ip N n,.ip Pl p,.top]),.ip I o,.ip I k],[]⟩:=
 ae (c:=mkc rf) ZU aK hm (W0 n p k o ⟨rfl,λ_=>by simp⟩)
theorem aC1: aj Tryz.prog dK Gq:=ai (ag λ((n,p),o,t,_)=>Xu n p o t)<|ai (ag λ((n,p),o,_)=>L8 n p o)<|ai (ag λ((n,p),k,o,_)=>aAP n p k o) ZU
theorem mA.args {P:Program} {G:List (Nat×AV)} {gf:FuncId} {xs ys:List AV} {it:iV} (h:mA P G gf ys it) (b:∀(C:Ctx) us,AV.relL P C xs us->AV.relL P C ys us):mA P G gf xs it:=
 λf l J JX JP w D us i g e=>h f l J JX JP w D us i g (b _ us e)
theorem aC2: bm Tryz.prog dK KI1:=by
 intro f caps it h;unfold KI1 at h;split at h
 .rename_i e;subst e;split at h
  .rename_i a b c _ g;cases h;exact mA.args (aDk c.1 a b c.2.1 c.2.2) λC us i=>dZ g i
  .cases h
 .cases h
theorem Uu(n:Net)(p:Plan)(k o:Int): KB n p k o (JL n p o).length=(jy n p k o).length:=by
 unfold KB jy;rw[qQ (qJ _)]
theorem ON{n:Net}{p:Plan}{k o:Int}{j:Nat}{y:Int}(h:lC (JL n p o) j y): KB n p k o (j+1)=KB n p k o j+(if tU p (JK n k o y)=true then 1 else 0):=by
 have h:(JL n p o)[j]?=some y:=h;unfold KB;rw[wO,h,yU,yV,qF]
 congr 1
 simp only[Option.toList,zH,qCd,yG,qBk];split<;>rfl
theorem Y6{n:Net}{p:Plan}{k o:Int}{j:Nat}{y:Int}(h:lC (JL n p o) j y)(f:tU p (JK n k o y)=true): lC (jy n p k o) (KB n p k o j) (JK n k o y):=by
 have h:(JL n p o)[j]?=some y:=h;obtain⟨i,b⟩:=qG.1 h;have e:JL n p o=(JL n p o).take j++y::(JL n p o).drop (j+1):=by rw[<- b,List.getElem_cons_drop,xE]
 have g:jy n p k o=(((JL n p o).take j).map λd=>JK n k o d).filter (tU p)++((y::(JL n p o).drop (j+1)).map λd=>JK n k o d).filter (tU p):=by
  unfold jy
  conv=>lhs;rw[e]
  rw[yU,yV]
 unfold lC;rw[g];unfold KB;rw[qX (qJ _),qCc,zH,yG,if_pos f];rfl
theorem Vd{w:List Bool}{h:Li}{a b x:Int}(e:x∈gk w h a b): a<=x/\x<=b/\wkF w h x=true:=by
 unfold gk at e;rw[zV,wS]at e;obtain⟨⟨i,hi,rfl⟩,f⟩:=e;have:=vF.1 hi;exact⟨by omega,by omega,f⟩
theorem aAQ(n:Net)(p:Plan)(k o:Int): mA Tryz.prog dK 151 [.ipv (.ips [.ip N n,.ip Pl p,.top]),.ip I o,.ip I k] ⟨aBV n p k o,I,jy n p k o⟩:=by
 refine EZ (c:=mki Gq KI1) aC1 aC2 hm (W4 n p k o ⟨rfl,rfl,rfl,rfl,λl ⟨⟨u,L⟩,x,v⟩=>?_⟩);obtain⟨⟨p0,p1,p2⟩,_⟩:=L;have V:=GG u x;obtain⟨⟨z1,Z⟩,hw,G⟩:=lL V;have T:=Vg u v;simp only[qAr,zS,vS];refine⟨⟨u,x⟩,ay (by omega),ay (by omega),ay (by omega),ay (by omega),⟨hw,G,⟨by omega,by omega⟩,⟨by omega,by omega⟩⟩,rfl,Uu n p k o,λj y A=>?_⟩;have i:lC (JL n p o) j y:=A;have O:=Vd (zI i);have f:=ON (k:=k) i
 have eM:vw (al n o).1 y (dP n k).2.1=JK n k o y:=rfl;have z:Ea (Ed (JK n k o y) (Ee 1440 p.1)) (Dp (JK n k o y) (Ee 1440 p.2.1)) false=tU p (JK n k o y):=by
  rw[OW];rfl
 have two:∀{q:Prop},q->(q/\q):=λh=>⟨h,h⟩
 refine⟨v.1,v.2,⟨⟨by omega,by omega⟩,⟨by omega,by omega⟩,⟨by show _<=(dP n k).2.1;omega,by show(dP n k).2.1<=_;omega⟩⟩,?_⟩;simp only[qBm,kW,zS,vS];refine⟨λh=>by simpa[Dj]using h,λe=>?_,λe=>?_⟩
 .have g:tU p (JK n k o y)=true:=by rw[<- z];exact e
  rw[if_pos g]at f;refine⟨Y6 i g,λb=>⟨λ_=>e,λr X=>?_,λr=>?_⟩⟩
  .rw[X]at r;rw[e]at r;cases r
  .rw[e]at r;have:b=true:=by simpa[Ea,Di]using r
   exact⟨this,f.symm⟩
 .have g:tU p (JK n k o y)=false:=by rw[<- z];exact e
  rw[if_neg (by rw[g];exact Bool.false_ne_true)]at f;refine⟨λh=>by simpa[Dj]using h,?_,?_⟩
  .intro h;rw[e]at h;cases h
  .intro _;exact f.symm
theorem aCp: aj Tryz.prog dK aCw:=ai (oZ λ_ xs=>(rO xs).1) aC1
theorem GN(n:Net)(p:Plan)(o d t:Int)(xs:Li): af Tryz.prog dK 155 [.ips [.ip N n,.ip Pl p,.ptr 1 1 0 0],.dat I o,.dat I d,.dat I t] [(1,.var [.dat R xs])] ⟨HU n p o d t xs/\uF n p o d t xs=true,.dat I (uE n p o d t xs),[(1,.var [.dat R (HT n p o d t xs)])]⟩/\
  cL Tryz.prog dK 155 [.ips [.ip N n,.ip Pl p,.ptr 1 1 0 0],.dat I o,.dat I d,.dat I t] [(1,.var [.dat R xs])] ⟨HU n p o d t xs,uF n p o d t xs,cY 39 190⟩:=by
 refine b9 (c:=c12) aCp aK hm PI (Le n p o d t xs ⟨rfl,λhp=>?_⟩);simp only[qc,Dj,Es,Di,qd,Dt,Eb,Ec,Dp,Eh,Ei,Ed,Ey,Df,Et,Dl,Dn,Eo,Dy,Dw,Dh,Dq,Ee,Fh,Dc,Dx,Dk,Dz,Ej,Du,Eu,Ez,En,Ef,Fe,Fj,Fg,Ep,Em,Ew,Fb];refine⟨⟨(0,o,t,xs),⟨⟨qL _,show(0:Int)<=19 by decide,hp⟩,rfl⟩,rfl,rfl,rfl,rfl⟩,λ⟨k,b,t2,ys⟩ hi=>?_⟩;obtain⟨⟨k0,k1,hq⟩,T⟩:=hi;simp only at k0 k1 hq T;obtain⟨⟨⟨A,L⟩,g,v⟩,ht2,z⟩:=id hq
 obtain⟨⟨p0,p1,p2⟩,⟨q1,q2⟩,q3,_⟩:=id L;obtain⟨c,ec⟩:∃c,c=cellAt p b d:=⟨_,rfl⟩;have eC:(p.2.2.1.getD b.toNat []).getD d.toNat 0=c:=ec.symm;obtain⟨j,el⟩:∃j,j=dO n c:=⟨_,rfl⟩;have eL:n.2.2.2.2.1.getD c.toNat (⟨#[]⟩,0,0,0,0,0)=j:=el.symm;simp only[eC,eL];obtain⟨Z,g2⟩:=q3 b d g v;rw[<- ec]at Z g2;have x:uF n p o d t xs=(FK n p d (19-k).toNat b t2 ys).1:=by rw[T];rfl
 have eT:uE n p o d t xs=(FK n p d (19-k).toNat b t2 ys).2.1:=by rw[T];rfl
 have eR:HT n p o d t xs=(FK n p d (19-k).toNat b t2 ys).2.2:=by rw[T];rfl
 have O:k<19->(19-k).toNat=(19-(k+1)).toNat+1:=λh=>by omega
 have X:∀f,FK n p d (f+1) b t2 ys=if b=d then(true,t2,ys)else if c=-1 then(false,t2,ys)else if bJ ys=false then(false,t2,ys)else
   if sO n b c p (hd ys) t2=true then FK n p d f j.2.2.1 (vw (al n b).1 (hd ys-2+p.1) j.2.2.2.1+j.2.2.2.2.1) (tl ys)else(false,t2,tl ys):=λf=>by rw[el,ec];rfl
 have eD:sO n b c p (hd ys) t2=(wkF (al n b).2.1 (al n b).2.2 (hd ys-2+p.1)&&decide (vw (al n b).1 (hd ys-2+p.1) j.2.2.2.1≥sD n b t2)):=by rw[el];rfl
 refine⟨λr=>?_,λheq=>?_⟩
 .have G:=q2 _ (aR (l:=p.2.2.1) (i:=b.toNat) (d:=[]) (by have:=g.1;have:=g.2;omega));refine⟨g.1,by rw[q1];exact g.2,v.1,by rw[G];exact v.2,λh=>?_,λ⟨u,V⟩=>?_⟩
  .rw[x];by_cases u:k<19
   .rw[O u,X,if_neg r,if_pos (h u)]
   .rw[show(19-k).toNat=0 by omega];exact vV r
  .have hl:c<n.2.2.2.2.1.length:=by
    unfold jY at Z;rw[vV V,xU,qC,qE]at Z;exact Z.1
   obtain⟨_,lo,⟨m0,m1⟩,r0,r1⟩:=Vf A (by omega:0<=c) hl;rw[<- el]at lo m0 m1 r0 r1;obtain⟨⟨z1,z2⟩,hw,hs⟩:=lL (GG A g);refine⟨⟨u,V⟩,by omega,hl,⟨A,g⟩,λy=>?_,λy=>?_⟩
   .have hm1:0<=hd ys/\hd ys<=65519:=dH.1 z.1 _ (aR (vO y));have hm2:-1000000<=vw (al n b).1 (hd ys-2+p.1) j.2.2.2.1/\vw (al n b).1 (hd ys-2+p.1) j.2.2.2.1<=100000000:=by unfold vw;omega
    refine⟨y,ay (by omega),ay (by omega),⟨⟨by omega,by omega⟩,⟨by omega,by omega⟩,⟨by omega,by omega⟩⟩,⟨hw,hs,⟨by omega,by omega⟩⟩,λ_=>⟨A,g,ht2⟩,λh=>?_,λh=>?_⟩
    .rw[x,O u,X,if_neg r,if_neg V,if_neg (by rw[y];exact Bool.noConfusion),if_neg];rw[eD];simpa using h
    .have hy:sO n b c p (hd ys) t2=true:=by rw[eD];simpa using h
     refine⟨h,ay (by omega),ay (by omega),⟨(k+1,j.2.2.1,vw (al n b).1 (hd ys-2+p.1) j.2.2.2.1+j.2.2.2.2.1,tl ys),⟨⟨by show 0<=k+1;omega,by show k+1<=19;omega,⟨⟨A,L⟩,lo,v⟩,⟨by show -3000000000<=_+_;omega,by show _+_<=3000000000;omega⟩,d5 z 1⟩,?_⟩,⟨rfl,rfl,rfl,rfl⟩,by show(19-(k+1)).toNat<_;omega⟩⟩;rw[<- T,O u,X,if_neg r,if_neg V,if_neg (by rw[y];exact Bool.noConfusion),if_pos hy]
   .rw[x,O u,X,if_neg r,if_neg V,if_pos y]
 .have e:FK n p d (19-k).toNat b t2 ys=(true,t2,ys):=by
   by_cases u:k<19
   .rw[O u,X,if_pos heq]
   .rw[show(19-k).toNat=0 by omega];show(decide (b=d),t2,ys)=_;rw[qW heq]
  rw[x,eT,eR,e];exact⟨rfl,rfl,rfl⟩
theorem L2(c:Cal)(m t:Int): af Tryz.prog dK 156 [.ip C c,.dat I m,.dat I t] [] ⟨Up c t/\nb c m t=true,.dat I (JH c m t),[]⟩/\
  cL Tryz.prog dK 156 [.ip C c,.dat I m,.dat I t] [] ⟨Up c t,nb c m t,cY 39 190⟩:=by
 obtain⟨z,w,h⟩:=c;refine dc (c:=TK Gq KI1 noP (λ_=>false)) aC1 aC2 hm pU (QX z m t w h ⟨rfl,λO=>?_⟩);simp only[qc,Dj,Es,Di,qd,Dt,Eb,Ec,Dp,Eh,Ei,Ed,Ey,Df,Et,Dl,Dn,Eo,Dy,Dw,Dh,Dq,Ee,Fh,Dc,Dx,Dk,Dz,Ej,Du,Eu,Ez,En,Ef,Fe,Fj,Fg,Ep,Em,Ew,Fb];obtain⟨T,t1,t2⟩:=id O;obtain⟨⟨L,G⟩,hw,r⟩:=lL T;simp only at L G hw r;have A:-1000000000<=aX z t/\aX z t<=1000000000:=by unfold aX;omega
 have key:∀b:Int,P4 (z,w,h) m t=b->(∀(x:Nat) (y:Int),yn x->lC (gk w h b (b+60-1)) x y->nb (z,w,h) m t=true/\y=JH (z,w,h) m t)/\∀x:Nat,yn x->x=(gk w h b (b+60-1)).length->nb (z,w,h) m t=false:=λb hb=>by
  have e:ZR (z,w,h) m t=(gk w h b (b+60-1)).head?:=by
   unfold ZR;rw[hb,show b+60-1=b+59 by omega]
  refine⟨λx y f g=>?_,λx f g=>?_⟩
  .have f:x=0:=f;have g:(gk w h b (b+60-1))[x]?=some y:=g;rw[f,<- List.head?_eq_getElem?,<- e]at g;unfold nb JH;rw[g];exact⟨rfl,rfl⟩
  .have f:x=0:=f;have:gk w h b (b+60-1)=[]:=vP (by omega);unfold nb;rw[e,this];rfl
 refine⟨⟨⟨by omega,by omega⟩,t1,t2⟩,λu=>?_,λv=>?_⟩
 .obtain⟨j,i⟩:=key (aX z t+1) (by unfold P4;exact if_pos u);exact⟨ay (by omega),ay (by omega),ay (by omega),⟨hw,r,⟨by omega,by omega⟩,⟨by omega,by omega⟩⟩,rfl,j,i⟩
 .obtain⟨j,i⟩:=key (aX z t) (by unfold P4;exact if_neg v);exact⟨ay (by omega),ay (by omega),⟨hw,r,⟨by omega,by omega⟩,⟨by omega,by omega⟩⟩,rfl,j,i⟩
theorem V7: aj Tryz.prog dK ZE:=ai (oZ λ((n,p),o,d,t,_) xs=>(GN n p o d t xs).1)<|ai (ag λ(c,m,t,_)=>(L2 c m t).1) aC1
theorem ZB: bH Tryz.prog dK aFI:=hC (s6 λ((n,p),o,d,t,_) xs=>(GN n p o d t xs).2)<|hC (iT λ(c,m,t,_)=>(L2 c m t).2) Il
theorem Uh{n:Net}{p:Plan}{o d t:Int}{xs:Li}(x:HU n p o d t xs)(z:cellAt p o d≠-1)(A:bJ xs=true): (0<=cellAt p o d/\cellAt p o d<n.2.2.2.2.1.length)/\HU n p (dO n (cellAt p o d)).2.2.1 d (vw (al n o).1 (hd xs-2+p.1) (dO n (cellAt p o d)).2.2.2.1+(dO n (cellAt p o d)).2.2.2.2.1) (tl xs):=by
 obtain⟨⟨⟨h,e⟩,f,g⟩,v,b⟩:=x;obtain⟨⟨Z,p1,p2⟩,⟨X,V⟩,u,_⟩:=id e;obtain⟨i,g2⟩:=u o d f g;have j:cellAt p o d<n.2.2.2.2.1.length:=by
  unfold jY at i;rw[vV z,xU,qC,qE]at i;exact i.1
 have r:0<=cellAt p o d:=by omega
 obtain⟨_,lo,⟨m0,m1⟩,T,O⟩:=Vf h r j;obtain⟨⟨L,G⟩,hw,hs⟩:=lL (GG h f);have y:0<=hd xs/\hd xs<=65519:=dH.1 b.1 _ (aR (vO A));refine⟨⟨r,j⟩,⟨⟨h,e⟩,lo,g⟩,⟨?_,?_⟩,d5 b 1⟩<;>unfold vw<;>omega
theorem FI{n:Net}{p:Plan}{d:Int}: ∀(f:Nat) {o t:Int} {xs:Li},HU n p o d t xs->tOk (FK n p d f o t xs).2.1/\dj (FK n p d f o t xs).2.2
 | 0,o,t,xs,h=>⟨h.2.1,h.2.2⟩
 | f+1,o,t,xs,h=>by
  unfold FK;by_cases i:o=d
  .rw[if_pos i];exact⟨h.2.1,h.2.2⟩
  rw[if_neg i];by_cases e:cellAt p o d=-1
  .rw[if_pos e];exact⟨h.2.1,h.2.2⟩
  rw[if_neg e];by_cases b:bJ xs=false
  .rw[if_pos b];exact⟨h.2.1,h.2.2⟩
  rw[if_neg b];by_cases g:sO n o (cellAt p o d) p (hd xs) t=true
  .rw[if_pos g];exact FI f (Uh h e (by simpa using b)).2
  .rw[if_neg g];exact⟨h.2.1,d5 h.2.2 1⟩
theorem Y4{c:Cal}{m t:Int}(h:nb c m t=true): P4 c m t<=JH c m t/\JH c m t<=P4 c m t+59:=by
 unfold nb at h;unfold JH;cases e:ZR c m t with
 | none=>rw[e]at h;cases h
 | some y=>
  unfold ZR at e;have:=Vd (qCb e);exact⟨this.1,this.2.1⟩
theorem ZY(w:List Bool)(h:Li)(a b:Int): (gk w h a b).length<=(b+1-a).toNat:=by
 unfold gk;refine wL (yR _ _) ?_;rw[vG,vI];exact qJ _
theorem LV(n:Net)(p:Plan)(k o d cut:Int)(xs:Li): af Tryz.prog dK 83 [.ips [.ip N n,.ip Pl p,.ptr 1 1 0 0],.dat I k,.dat I o,.dat I d,.dat I cut] [(1,.var [.dat R xs])] ⟨VA n p k o d cut xs/\uy n p k o d cut xs=true,.tup [],[(1,.var [.dat R (HT n p o d cut xs)])]⟩/\
  cL Tryz.prog dK 83 [.ips [.ip N n,.ip Pl p,.ptr 1 1 0 0],.dat I k,.dat I o,.dat I d,.dat I cut] [(1,.var [.dat R xs])] ⟨VA n p k o d cut xs,uy n p k o d cut xs,cY 39 190⟩:=by
 refine b9 (c:=c13) V7 aC2 hm ZB (QC n p k o d cut xs ⟨rfl,λhp=>?_⟩);simp only[qc,Dj,Es,Di,qd,Dt,Eb,Ec,Dp,Eh,Ei,Ed,Ey,Df,Et,Dl,Dn,Eo,Dy,Dw,Dh,Dq,Ee,Fh,Dc,Dx,Dk,Dz,Ej,Du,Eu,Ez,En,Ef,Fe,Fj,Fg,Ep,Em,Ew,Fb];obtain⟨G,b⟩:=id hp;obtain⟨⟨⟨e,L⟩,V,hd⟩,ht,hys⟩:=id G;obtain⟨⟨p0,p1,p2⟩,⟨q1,q2⟩,q3,q4,q5⟩:=id L;obtain⟨T,_⟩:=FI 19 G;have hcl:=Vg e b;have Z:=GG e hd;obtain⟨⟨z1,z2⟩,hw,hs⟩:=lL Z
 have hr:=Vx (t:=uE n p o d cut xs) e hd;have T:-3000000000<=uE n p o d cut xs/\uE n p o d cut xs<=3000000000:=T;have ht2:-3000000000<=cut/\cut<=3000000000:=ht;have eK:n.2.2.2.2.2.getD k.toNat (⟨#[]⟩,0,0)=dP n k:=rfl;have eL:JH (al n d) (dP n k).2.2 (sD n d (uE n p o d cut xs))=Jw n p k o d cut xs:=rfl;have eB:aX (al n d).1 cut=UU n d cut:=rfl
 have eN:gk (al n d).2.1 (al n d).2.2 (UU n d cut+1) (Jw n p k o d cut xs)=TE n p k o d cut xs:=rfl;have eY:((p.2.2.2.getD k.toNat []).getD o.toNat []).getD d.toNat 0=iS p k o d:=rfl;have A:uy n p k o d cut xs=(uF n p o d cut xs&&(nb (al n d) (dP n k).2.2 (sD n d (uE n p o d cut xs))&&(decide (Jw n p k o d cut xs-UU n d cut<=2000)&&decide (((TE n p k o d cut xs).length:Int)<=iS p k o d)))):=rfl
 simp only[eK,eL,eB,eN,eY];have f:Vy n d (uE n p o d cut xs):=⟨e,hd,T⟩;have r:Up (al n d) (sD n d (uE n p o d cut xs)):=⟨Z,⟨by omega,by omega⟩⟩;have hB:-10000000<=UU n d cut/\UU n d cut<=10000000:=by unfold UU aX;omega
 refine⟨⟨G,λh=>by rw[A,h];rfl⟩,λz=>⟨⟨G,z⟩,⟨e,hd⟩,b.1,b.2,f,r,λv=>⟨b.1,b.2,f,⟨r,v⟩,⟨⟨by omega,by omega⟩,⟨by omega,by omega⟩⟩,?_⟩,λh=>by rw[A,z,h];rfl⟩⟩;have hD:=Y4 v;rw[eL]at hD
 have hbg:aX (al n d).1 (sD n d (uE n p o d cut xs))<=P4 (al n d) (dP n k).2.2 (sD n d (uE n p o d cut xs))/\P4 (al n d) (dP n k).2.2 (sD n d (uE n p o d cut xs))<=aX (al n d).1 (sD n d (uE n p o d cut xs))+1:=by unfold P4;split<;>omega
 have hbd:-10000000<=aX (al n d).1 (sD n d (uE n p o d cut xs))/\aX (al n d).1 (sD n d (uE n p o d cut xs))<=10000000:=by unfold aX;omega
 refine⟨ay (by omega),λh=>by rw[A,z,v,vV h];rfl,λO=>⟨O,ay (by omega),⟨hw,hs,⟨by omega,by omega⟩,⟨by omega,by omega⟩⟩,⟨0,wZ _,rfl,rfl⟩,λx y hx hy=>?_,λx hx X=>?_⟩⟩
 .have hlt:x<(TE n p k o d cut xs).length:=(qG.1 hy).1;have:=ZY (al n d).2.1 (al n d).2.2 (UU n d cut+1) (Jw n p k o d cut xs);rw[eN]at this;exact⟨ay (by omega),x+1,by show x+1<=4000000000000;omega,rfl,by omega⟩
 .have j:=b.1;have hk2:=b.2;have g:=V.1;have ho2:=V.2;have u:=hd.1;have hd2:=hd.2;obtain⟨w1,w2⟩:=q5 _ (aR (l:=p.2.2.2) (i:=k.toNat) (d:=[]) (by omega));have w3:=w2 _ (aR (l:=p.2.2.2.getD k.toNat []) (i:=o.toNat) (d:=[]) (by omega));refine⟨j,by omega,g,by omega,u,by omega,λh=>⟨j,by omega,g,by omega,u,by omega,h,?_⟩,λh=>?_⟩
  .rw[A,z,v,qW O,qW (by omega)];rfl
  .rw[A,z,v,qW O,vV (by omega)];rfl
def cellsD(p:Plan)(k o:Int): Li:=(p.2.2.2.getD k.toNat []).getD o.toNat []
def dN(p:Plan)(k:Int): Lj:=p.2.2.2.getD k.toNat []
def runN(f:Nat->Li->Option (Li)): Nat->Li->Option (Li)
 | 0,x=>some x
 | m+1,x=>(runN f m x).bind (f m)
def vt(n:Net)(p:Plan)(k o d:Int)(j:Nat)(xs:Li): Option (Li):=if uy n p k o d ((jy n p k o).getD j 0) xs=true then some (HT n p o d ((jy n p k o).getD j 0) xs)else none
def zj(n:Net)(p:Plan)(k o d:Int)(xs:Li): Option (Li):=if iS p k o d=-1 then some xs else runN (vt n p k o d) (jy n p k o).length xs
def Vs(n:Net)(p:Plan)(k o:Int)(xs:Li): Option (Li):=runN (λd=>zj n p k o (d:Int)) (cellsD p k o).length xs
def aAt(n:Net)(p:Plan)(k:Int)(xs:Li): Option (Li):=runN (λo=>Vs n p k (o:Int)) (dN p k).length xs
def st1(n:Net)(p:Plan)(l:Li)(k:Int): Option (Li):=runN (λk=>aAt n p (k:Int)) k.toNat l
def st2(n:Net)(p:Plan)(l:Li)(k o:Int): Option (Li):=(st1 n p l k).bind (runN (λo=>Vs n p k (o:Int)) o.toNat)
def st3(n:Net)(p:Plan)(l:Li)(k o d:Int): Option (Li):=(st2 n p l k o).bind (runN (λd=>zj n p k o (d:Int)) d.toNat)
def st4(n:Net)(p:Plan)(l:Li)(k o d:Int)(j:Nat): Option (Li):=(st3 n p l k o d).bind (runN (vt n p k o d) j)
def CU(n:Net)(p:Plan)(l:Li): Option (Li):=st1 n p l p.2.2.2.length
def Rw(n:Net)(p:Plan)(l:Li)(k:Int)(xs:Li): Prop:=(0<=k/\k<=p.2.2.2.length)/\st1 n p l k=some xs/\dj xs
def to2(n:Net)(p:Plan)(l:Li)(k o:Int)(xs:Li): Prop:=((0<=k/\k<p.2.2.2.length)/\0<=o/\o<=(dN p k).length)/\st2 n p l k o=some xs/\dj xs
def to3(n:Net)(p:Plan)(l:Li)(k o d:Int)(xs:Li): Prop:=((0<=k/\k<p.2.2.2.length)/\(0<=o/\o<(dN p k).length)/\0<=d/\d<=(cellsD p k o).length)/\st3 n p l k o d=some xs/\dj xs
def to4(n:Net)(p:Plan)(l:Li)(k o d j:Int)(xs:Li): Prop:=0<=j/\st4 n p l k o d j.toNat=some xs/\dj xs
def MF(l:Li): Bool:=decide (l.length<=40000)
def pu(n:Net)(l:Li): Bool:=C3 n (au l)&&MF l
def Vr(n:Net)(l:Li): Int:=if CU n (au l) (bI l)=some []then 0 else 190
def fP(n:Net)(l:Li)(s:Int): Int:=if jk (l,s)=true then if usF n=true then if pu n l=true then Vr n l else 190 else 1 else yc (l,s)
def Yt(args:List AV)(m:Mem): Option ja:=match args,m with
 | [.agg [.dat (.sl (.int .i64)) l,.dat (.int .i64) s]],[]=>some ⟨Ba (l,s)/\jk (l,s)=true,.tup [.agg [.dat I (au l).1,.dat I (au l).2.1,.dat M (au l).2.2.1,.dat (.sl M) (au l).2.2.2],.ptr 1 1 0 0],[(1,.var [.dat R (bI l)])]⟩
 | _,_=>none
def U9: Kt:=kOr 71 Yt <|
 kOr 80 (aw [.ptr N] (λ(n,_)=>qy n) λ(n,_)=>.dat .bool (usF n)) <|
 kOr 81 (aw [.ptr N,.ptr Pl] (λ(n,p,_)=>qy n/\nxP p) λ(n,p,_)=>.dat .bool (C3 n p)) <|
 kOr 83 (VF 1 R [.pv 1 N Pl,.val I,.val I,.val I,.val I] (λ((n,p),k,o,d,cut,_) xs=>VA n p k o d cut xs/\uy n p k o d cut xs=true) (λ_ _=>.tup []) λ((n,p),k,o,d,cut,_) xs=>HT n p o d cut xs) ZE
def aEZ: KPt:=pOr 71 (uG [.row Ce] λ(c,_)=>⟨Ba c,jk c,cY 39 (yc c)⟩) <|
 pOr 83 (Yy 1 R [.pv 1 N Pl,.val I,.val I,.val I,.val I] λ((n,p),k,o,d,cut,_) xs=>⟨VA n p k o d cut xs,uy n p k o d cut xs,cY 39 190⟩) KPr
def KI2: FuncId->List AV->Option iV:=λf caps=>if f=151 then match ofK [.pvb N Pl,.ptr I,.ptr I] caps with
 | some ((n,p),o,k,_)=>some ⟨aBV n p k o,I,jy n p k o⟩
 | none=>none
 else KI1 f caps
def c14: Cfg:=Jk U9 (λ_=>false) aEZ (λf=>f==79||f==71)
def c15: Cfg:=TK U9 KI2 aEZ (λf=>f==79||f==71||f==83)
def keep(s:St)(x:Li): St:={fx s with mem:=s5 (s.mem.filter λb=>b.1<=2) 1 (.var [.dat R x])}
def aF5(n:Net)(l:Li): Ann:=⟨λid s=>match id with
 | 7=>some {α:=Int×Li,inv:=λx=>Rw n (au l) (bI l) x.1 x.2,st:=λx=>gC (put (fx s) [(37,.dat I x.1)]) 1 (.var [.dat R x.2]),μ:=λx=>Dc (Dh (Df (au l).2.2.2) x.1)}
 | 10=>match s.sig.T 39 with
  | .dat (.int .i64) k=>some {α:=Int×Li,inv:=λx=>to2 n (au l) (bI l) k x.1 x.2,st:=λx=>gC (put (fx s) [(44,.dat I x.1)]) 1 (.var [.dat R x.2]),μ:=λx=>Dc (Dh (Df (dN (au l) k)) x.1)}
  | _=>none
 | 13=>match s.sig.T 39,s.sig.T 46 with
  | .dat (.int .i64) k,.dat (.int .i64) o=>some {α:=Int×Li,inv:=λx=>to3 n (au l) (bI l) k o x.1 x.2,st:=λx=>gC (put (fx s) [(51,.dat I x.1)]) 1 (.var [.dat R x.2]),μ:=λx=>Dc (Dh (Df (cellsD (au l) k o)) x.1)}
  | _,_=>none
 | 17=>match s.sig.T 39,s.sig.T 46,s.sig.T 53 with
  | .dat (.int .i64) k,.dat (.int .i64) o,.dat (.int .i64) d=>some {α:=Int×Li,inv:=λx=>to4 n (au l) (bI l) k o d x.1 x.2,st:=λx=>gC (fx s) 1 (.var [.dat R x.2]),μ:=λx=>Dc x.1}
  | _,_,_=>none
 | _=>none,λid s=>match id with
 | 3=>some (put {s with mem:=s.mem.filter λb=>b.1 != 2} [(5,.ip Pl (au l))])
 | _=>none,λ_ _=>none⟩
set_option maxHeartbeats 4000000 in
theorem Ri(s:Int)(l:Li)(cs:List Cal)(ns A:List ByteArray)(os:List Off)(ls:List Line)(G:List Cla)(hvc:
 let c1:=(cs,ns,A,os,ls,G);let c2:=(l,s);let c3:=jk c2;let c4:=fP c1 l s;let c5:=(au l).1;let aN:=(au l).2;let c7:=aN.1;let c8:=aN.2;let c9:=c8.1;let b:=c8.2;let j:=usF c1;let c12:=C3 c1 (au l);let c13:=Ea c12 (Ei (Df l) 40000) false;let c14:=Df b;
 (true/\true)/\(HD l/\qy c1->true/\(true->Ba c2/\(c3=false->true/\true/\(Di false->True/\1=1/\0=0/\1=1/\0=0/\yc c2=c4/\True)/\(Di false=false->1=1/\0=0/\0=c4/\True)))/\((true->c3)->(Ba c2/\c3)/\1=1/\0=0/\cs=cs/\ns=ns/\A=A/\os=os/\ls=ls/\G=G/\l=l/\s=s/\c1=c1/\c2=c2/\1=1/\0=0/\0=0/\1=1/\0=0/\(c5,c7,c9,b)=au l/\1=1/\0=0/\0=0/\undef=undef/\undef=undef/\undef=undef/\undef=undef/\undef=undef/\undef=undef/\undef=undef/\undef=undef/\1=1/\0=0/\0=0/\c5=c5/\c7=c7/\c9=c9/\b=b/\1=1/\0=0/\0=0/\l=l/\s=s/\c5=c5/\c7=c7/\c9=c9/\b=b/\1=1/\0=0/\0=0/\c5=c5/\c7=c7/\c9=c9/\b=b/\1=1/\0=0/\0=0/\undef=undef/\undef=undef/\undef=undef/\undef=undef/\undef=undef/\undef=undef/\undef=undef/\undef=undef/\undef=undef/\undef=undef/\undef=undef/\undef=undef/\undef=undef/\undef=undef/\undef=undef/\undef=undef/\undef=undef/\undef=undef/\undef=undef/\undef=undef/\undef=undef/\undef=undef/\undef=undef/\undef=undef/\undef=undef/\undef=undef/\undef=undef/\undef=undef/\undef=undef/\undef=undef/\undef=undef/\undef=undef/\undef=undef/\undef=undef/\undef=undef/\undef=undef/\undef=undef/\undef=undef/\undef=undef/\undef=undef/\undef=undef/\undef=undef/\undef=undef/\undef=undef/\undef=undef/\undef=undef/\undef=undef/\undef=undef/\undef=undef/\undef=undef/\undef=undef/\undef=undef/\undef=undef/\undef=undef/\undef=undef/\undef=undef/\undef=undef/\undef=undef/\(0:Int)=(0:Int)/\bI l=bI l/\1=1/\0=0/\0=0/\qy c1/\(true->True/\(j=false->true/\true/\(Di false->True/\1=1/\0=0/\1=1/\0=0/\1=c4/\True)/\(Di false=false->1=1/\0=0/\0=c4/\True)))/\((true->j)->(True/\j)/\(qy c1/\nxP (au l))/\(c12->c12->c12)/\(c12->c12->c12)/\(c12->c12->c12)/\(Dj true c12->c12)/\(true->True/\(c13=false->true/\true/\
 (Di false->True/\1=1/\0=0/\1=1/\0=0/\190=c4/\True)/\(Di false=false->1=1/\0=0/\0=c4/\True)))/\((true->c13)->(True/\c13)/\1=1/\1=1/\1=1/\0=0/\(∃(x:Int×Li),let c15:=x.1;let c16:=x.2;Rw c1 (au l) (bI l) c15 c16/\cs=cs/\ns=ns/\A=A/\os=os/\ls=ls/\G=G/\l=l/\s=s/\c1=c1/\c2=c2/\1=1/\0=0/\0=0/\au l=au l/\1=1/\0=0/\0=0/\1=1/\0=0/\0=0/\1=1/\0=0/\0=0/\c5=c5/\c7=c7/\c9=c9/\b=b/\1=1/\0=0/\0=0/\l=l/\s=s/\c5=c5/\c7=c7/\c9=c9/\b=b/\1=1/\0=0/\0=0/\c5=c5/\c7=c7/\c9=c9/\b=b/\1=1/\0=0/\0=0/\j=j/\c12=c12/\c12=c12/\c13=c13/\1=1/\0=0/\0=0/\c1=c1/\au l=au l/\1=1/\0=0/\0=0/\c1=c1/\au l=au l/\1=1/\0=0/\0=0/\b=b/\b=b/\c14=c14/\0=c15/\(0:Int)=(0:Int)/\bI l=c16/\c1=c1/\au l=au l/\1=1/\0=0/\0=0/\1=1/\0=0/\0=0/\True)/\∀(x:Int×Li),let e:=x.1;let c18:=x.2;let v:=Dp e c14;let g:=Du b (Dc e) (Dt (Li));let u:=Df g;let c22:=Df (dN (au l) e);let c23:=e+1;let c24:=Eb (Df c18) 0;Rw c1 (au l) (bI l) e c18->(v->0<=e/\e<c14/\1=1/\0=0/\(∃(x:Int×Li),let c25:=x.1;let c26:=x.2;to2 c1 (au l) (bI l) e c25 c26/\cs=cs/\ns=ns/\A=A/\os=os/\ls=ls/\G=G/\l=l/\s=s/\c1=c1/\c2=c2/\1=1/\0=0/\0=0/\au l=au l/\1=1/\0=0/\0=0/\1=1/\0=0/\0=0/\1=1/\0=0/\0=0/\g=g/\1=1/\0=0/\0=0/\c5=c5/\c7=c7/\c9=c9/\b=b/\1=1/\0=0/\0=0/\l=l/\s=s/\c5=c5/\c7=c7/\c9=c9/\b=b/\1=1/\0=0/\0=0/\c5=c5/\c7=c7/\c9=c9/\b=b/\1=1/\0=0/\0=0/\j=j/\c12=c12/\c12=c12/\c13=c13/\1=1/\0=0/\0=0/\c1=c1/\au l=au l/\1=1/\0=0/\0=0/\c1=c1/\au l=au l/\1=1/\0=0/\0=0/\b=b/\b=b/\c14=c14/\e=e/\v=v/\e=e/\g=g/\g=g/\g=g/\u=u/\0=c25/\(0:Int)=(0:Int)/\c18=c26/\c1=c1/\au l=au l/\1=1/\0=0/\0=0/\e=e/\1=1/\0=0/\0=0/\True)/\∀(x:Int×Li),let f:=x.1;let c28:=x.2;
 let O:=Dp f u;let h:=Du g (Dc f) [];let L:=Df h;let c32:=Df (cellsD (au l) e f);let c33:=jy c1 (au l) e f;let c34:=f+1;to2 c1 (au l) (bI l) e f c28->(O->0<=f/\f<u/\1=1/\0=0/\(∃(x:Int×List Int),let c35:=x.1;let c36:=x.2;to3 c1 (au l) (bI l) e f c35 c36/\cs=cs/\ns=ns/\A=A/\os=os/\ls=ls/\G=G/\l=l/\s=s/\c1=c1/\c2=c2/\1=1/\0=0/\0=0/\au l=au l/\1=1/\0=0/\0=0/\1=1/\0=0/\0=0/\1=1/\0=0/\0=0/\g=g/\1=1/\0=0/\0=0/\h=h/\1=1/\0=0/\0=0/\c5=c5/\c7=c7/\c9=c9/\b=b/\1=1/\0=0/\0=0/\l=l/\s=s/\c5=c5/\c7=c7/\c9=c9/\b=b/\1=1/\0=0/\0=0/\c5=c5/\c7=c7/\c9=c9/\b=b/\1=1/\0=0/\0=0/\j=j/\c12=c12/\c12=c12/\c13=c13/\1=1/\0=0/\0=0/\c1=c1/\au l=au l/\1=1/\0=0/\0=0/\c1=c1/\au l=au l/\1=1/\0=0/\0=0/\b=b/\b=b/\c14=c14/\e=e/\v=v/\e=e/\g=g/\g=g/\g=g/\u=u/\f=f/\O=O/\f=f/\h=h/\h=h/\h=h/\L=L/\0=c35/\(0:Int)=(0:Int)/\c28=c36/\c1=c1/\au l=au l/\1=1/\0=0/\0=0/\e=e/\f=f/\1=1/\0=0/\0=0/\True)/\∀(x:Int×Li),let i:=x.1;let c38:=x.2;let V:=Dp i L;let r:=Du h (Dc i) 0;let T:=Eb r (-1);let Z:=i+1;to3 c1 (au l) (bI l) e f i c38->(V->0<=i/\i<L/\1=1/\0=0/\(T->inR .i64 Z/\∃(y:Int×Li),let c43:=y.1;let c44:=y.2;
 to3 c1 (au l) (bI l) e f c43 c44/\(cs=cs/\ns=ns/\A=A/\os=os/\ls=ls/\G=G/\l=l/\s=s/\c1=c1/\c2=c2/\1=1/\0=0/\0=0/\au l=au l/\1=1/\0=0/\0=0/\1=1/\0=0/\0=0/\1=1/\0=0/\0=0/\g=g/\1=1/\0=0/\0=0/\h=h/\1=1/\0=0/\0=0/\c5=c5/\c7=c7/\c9=c9/\b=b/\1=1/\0=0/\0=0/\l=l/\s=s/\c5=c5/\c7=c7/\c9=c9/\b=b/\1=1/\0=0/\0=0/\c5=c5/\c7=c7/\c9=c9/\b=b/\1=1/\0=0/\0=0/\j=j/\c12=c12/\c12=c12/\c13=c13/\1=1/\0=0/\0=0/\c1=c1/\au l=au l/\1=1/\0=0/\0=0/\c1=c1/\au l=au l/\1=1/\0=0/\0=0/\b=b/\b=b/\c14=c14/\e=e/\v=v/\e=e/\g=g/\g=g/\g=g/\u=u/\f=f/\O=O/\f=f/\h=h/\h=h/\h=h/\L=L/\Z=c43/\(0:Int)=(0:Int)/\c38=c44/\c1=c1/\au l=au l/\1=1/\0=0/\0=0/\e=e/\f=f/\1=1/\0=0/\0=0/\True)/\Dc (c32-c43)<Dc (c32-i))/\(T=false->1=1/\0=0/\1=1/\0=0/\1=1/\0=0/\True/\aBV c1 (au l) e f/\(∃(x:Int×Li),let c45:=x.1;let c46:=x.2;
 to4 c1 (au l) (bI l) e f i c45 c46/\Dc c45=0/\cs=cs/\ns=ns/\A=A/\os=os/\ls=ls/\G=G/\l=l/\s=s/\c1=c1/\c2=c2/\1=1/\0=0/\0=0/\au l=au l/\1=1/\0=0/\0=0/\1=1/\0=0/\0=0/\1=1/\0=0/\0=0/\g=g/\1=1/\0=0/\0=0/\h=h/\1=1/\0=0/\0=0/\r=r/\1=1/\0=0/\0=0/\c5=c5/\c7=c7/\c9=c9/\b=b/\1=1/\0=0/\0=0/\l=l/\s=s/\c5=c5/\c7=c7/\c9=c9/\b=b/\1=1/\0=0/\0=0/\c5=c5/\c7=c7/\c9=c9/\b=b/\1=1/\0=0/\0=0/\j=j/\c12=c12/\c12=c12/\c13=c13/\1=1/\0=0/\0=0/\c1=c1/\au l=au l/\1=1/\0=0/\0=0/\c1=c1/\au l=au l/\1=1/\0=0/\0=0/\b=b/\b=b/\c14=c14/\e=e/\v=v/\e=e/\g=g/\g=g/\g=g/\u=u/\f=f/\O=O/\f=f/\h=h/\h=h/\h=h/\L=L/\i=i/\V=V/\i=i/\r=r/\r=r/\r=r/\T=T/\c1=c1/\au l=au l/\1=1/\0=0/\0=0/\e=e/\f=f/\c1=c1/\au l=au l/\f=f/\e=e/\(0:Int)=(0:Int)/\c38=c46/\c1=c1/\au l=au l/\1=1/\0=0/\0=0/\e=e/\f=f/\i=i/\1=1/\0=0/\0=0/\True)/\(∀(x:Int×Li),let c47:=x.1;let X:=x.2;let c49:=Dc c47;∀(y:Int),let c50:=uy c1 (au l) e f i y X;to4 c1 (au l) (bI l) e f i c47 X->lC c33 c49 y->1=1/\0=0/\1=1/\0=0/\1=1/\0=0/\1=1/\0=0/\(true->VA c1 (au l) e f i y X/\(c50=false->true/\true/\(Di false->True/\1=1/\0=0/\1=1/\0=0/\190=c4/\True)/\(Di false=false->1=1/\0=0/\0=c4/\True)))/\((true->c50)->(VA c1 (au l) e f i y X/\c50)/\1=1/\∃(z:Int×Li),let c51:=z.1;let c52:=z.2;
 to4 c1 (au l) (bI l) e f i c51 c52/\Dc c51=c49+1/\cs=cs/\ns=ns/\A=A/\os=os/\ls=ls/\G=G/\l=l/\s=s/\c1=c1/\c2=c2/\1=1/\0=0/\0=0/\au l=au l/\1=1/\0=0/\0=0/\1=1/\0=0/\0=0/\1=1/\0=0/\0=0/\g=g/\1=1/\0=0/\0=0/\h=h/\1=1/\0=0/\0=0/\r=r/\1=1/\0=0/\0=0/\c5=c5/\c7=c7/\c9=c9/\b=b/\1=1/\0=0/\0=0/\l=l/\s=s/\c5=c5/\c7=c7/\c9=c9/\b=b/\1=1/\0=0/\0=0/\c5=c5/\c7=c7/\c9=c9/\b=b/\1=1/\0=0/\0=0/\j=j/\c12=c12/\c12=c12/\c13=c13/\1=1/\0=0/\0=0/\c1=c1/\au l=au l/\1=1/\0=0/\0=0/\c1=c1/\au l=au l/\1=1/\0=0/\0=0/\b=b/\b=b/\c14=c14/\e=e/\v=v/\e=e/\g=g/\g=g/\g=g/\u=u/\f=f/\O=O/\f=f/\h=h/\h=h/\h=h/\L=L/\i=i/\V=V/\i=i/\r=r/\r=r/\r=r/\T=T/\c1=c1/\au l=au l/\1=1/\0=0/\0=0/\e=e/\f=f/\c1=c1/\au l=au l/\f=f/\e=e/\(0:Int)=(0:Int)/\HT c1 (au l) f i y X=c52/\c1=c1/\au l=au l/\1=1/\0=0/\0=0/\e=e/\f=f/\i=i/\1=1/\0=0/\0=0/\True))/\∀(x:Int×List Int),let c53:=x.1;let c54:=x.2;to4 c1 (au l) (bI l) e f i c53 c54->Dc c53=Dk c33->inR .i64 Z/\∃(y:Int×Li),let c55:=y.1;let c56:=y.2;
 to3 c1 (au l) (bI l) e f c55 c56/\(cs=cs/\ns=ns/\A=A/\os=os/\ls=ls/\G=G/\l=l/\s=s/\c1=c1/\c2=c2/\1=1/\0=0/\0=0/\au l=au l/\1=1/\0=0/\0=0/\1=1/\0=0/\0=0/\1=1/\0=0/\0=0/\g=g/\1=1/\0=0/\0=0/\h=h/\1=1/\0=0/\0=0/\c5=c5/\c7=c7/\c9=c9/\b=b/\1=1/\0=0/\0=0/\l=l/\s=s/\c5=c5/\c7=c7/\c9=c9/\b=b/\1=1/\0=0/\0=0/\c5=c5/\c7=c7/\c9=c9/\b=b/\1=1/\0=0/\0=0/\j=j/\c12=c12/\c12=c12/\c13=c13/\1=1/\0=0/\0=0/\c1=c1/\au l=au l/\1=1/\0=0/\0=0/\c1=c1/\au l=au l/\1=1/\0=0/\0=0/\b=b/\b=b/\c14=c14/\e=e/\v=v/\e=e/\g=g/\g=g/\g=g/\u=u/\f=f/\O=O/\f=f/\h=h/\h=h/\h=h/\L=L/\Z=c55/\(0:Int)=(0:Int)/\c54=c56/\c1=c1/\au l=au l/\1=1/\0=0/\0=0/\e=e/\f=f/\1=1/\0=0/\0=0/\True)/\Dc (c32-c55)<Dc (c32-i)))/\(V=false->inR .i64 c34/\∃(y:Int×Li),let c57:=y.1;let c58:=y.2;to2 c1 (au l) (bI l) e c57 c58/\(cs=cs/\ns=ns/\A=A/\os=os/\ls=ls/\G=G/\l=l/\s=s/\c1=c1/\c2=c2/\1=1/\0=0/\0=0/\au l=au l/\1=1/\0=0/\0=0/\1=1/\0=0/\0=0/\1=1/\0=0/\0=0/\g=g/\1=1/\0=0/\0=0/\c5=c5/\c7=c7/\c9=c9/\b=b/\1=1/\0=0/\0=0/\l=l/\s=s/\c5=c5/\c7=c7/\c9=c9/\b=b/\1=1/\0=0/\0=0/\c5=c5/\c7=c7/\c9=c9/\b=b/\1=1/\0=0/\0=0/\j=j/\c12=c12/\c12=c12/\c13=c13/\1=1/\0=0/\0=0/\c1=c1/\au l=au l/\1=1/\0=0/\0=0/\c1=c1/\au l=au l/\1=1/\0=0/\0=0/\b=b/\b=b/\c14=c14/\e=e/\v=v/\e=e/\g=g/\g=g/\g=g/\u=u/\c34=c57/\(0:Int)=(0:Int)/\c38=c58/\c1=c1/\au l=au l/\1=1/\0=0/\0=0/\e=e/\1=1/\0=0/\0=0/\True)/\Dc (c22-c57)<Dc (c22-f)))/\(O=false->inR .i64 c23/\∃(y:Int×Li),let c59:=y.1;let c60:=y.2;
 Rw c1 (au l) (bI l) c59 c60/\(cs=cs/\ns=ns/\A=A/\os=os/\ls=ls/\G=G/\l=l/\s=s/\c1=c1/\c2=c2/\1=1/\0=0/\0=0/\au l=au l/\1=1/\0=0/\0=0/\1=1/\0=0/\0=0/\1=1/\0=0/\0=0/\c5=c5/\c7=c7/\c9=c9/\b=b/\1=1/\0=0/\0=0/\l=l/\s=s/\c5=c5/\c7=c7/\c9=c9/\b=b/\1=1/\0=0/\0=0/\c5=c5/\c7=c7/\c9=c9/\b=b/\1=1/\0=0/\0=0/\j=j/\c12=c12/\c12=c12/\c13=c13/\1=1/\0=0/\0=0/\c1=c1/\au l=au l/\1=1/\0=0/\0=0/\c1=c1/\au l=au l/\1=1/\0=0/\0=0/\b=b/\b=b/\c14=c14/\c23=c59/\(0:Int)=(0:Int)/\c28=c60/\c1=c1/\au l=au l/\1=1/\0=0/\0=0/\1=1/\0=0/\0=0/\True)/\Dc (c14-c59)<Dc (c14-e)))/\(v=false->1=1/\1=1/\1=1/\0=0/\(true->True/\(c24=false->true/\true/\(Di false->True/\1=1/\0=0/\1=1/\0=0/\190=c4/\True)/\(Di false=false->1=1/\0=0/\0=c4/\True)))/\((true->c24)->(True/\c24)/\1=1/\0=0/\true/\true/\(Di true->False)/\(Di true=false->1=1/\0=0/\0=c4/\True)))))))):
  evR c15 U9 az (aF5 (cs,ns,A,os,ls,G) l) az 26 [.agg [.dat (.sl C) cs,.dat (.sl S) ns,.dat (.sl S) A,.dat (.sl Of) os,.dat (.sl Ln) ls,.dat (.sl Kl) G],.agg [.dat R l,.dat I s]] ⟨HD l/\qy (cs,ns,A,os,ls,G),.dat I (fP (cs,ns,A,os,ls,G) l s),[]⟩:=oE hvc
theorem Tn: ∀args m c,Yt args m=some c->af Tryz.prog dK 71 args m c:=by
 intro args m c h;unfold Yt at h;split at h
 .cases h;exact(Vl _ _).1
 .cases h
theorem V6: aj Tryz.prog dK U9:=ai Tn<|ai (ag λ(n,_)=>aFN n)<|ai (ag λ(n,p,_)=>aDY n p)<|ai (oZ λ((n,p),k,o,d,cut,_) xs=>(LV n p k o d cut xs).1) V7
theorem ZA: bH Tryz.prog dK aEZ:=hC (iT λ(c,_)=>(Vl c.2 c.1).2)<|hC (s6 λ((n,p),k,o,d,cut,_) xs=>(LV n p k o d cut xs).2) Il
theorem aGh: bm Tryz.prog dK KI2:=by
 intro f caps it h;unfold KI2 at h;split at h
 .rename_i e;subst e;split at h
  .rename_i n p o k _ b;cases h;exact mA.args (aAQ n p k o) λC us g=>dZ b g
  .cases h
 .exact aC2 f caps it h
theorem vk{l:Li}(b:dj l)(h:nt l=true): (0<=l.getD 2 0/\l.getD 2 0<=12)/\(0<=l.getD 3 0/\l.getD 3 0<=4)/\0<=l.getD 0 0/\l.getD 0 0<l.getD 1 0/\l.getD 1 0<=600:=by
 have bd:∀k:Nat,0<=l.getD k 0:=λk=>by
  by_cases e:k<l.length
  .exact(dH.1 b.1 _ (aR e)).1
  .rw[qA,wV (by omega)];exact qL _
 unfold nt sE at h;simp only[qC,qE]at h;exact⟨⟨bd 2,h.1.2.1⟩,⟨bd 3,h.1.2.2.1⟩,bd 0,h.1.2.2.2.1,h.1.2.2.2.2.2⟩
theorem t6(g:Int->Int->Int)(n:Int): (cZ g n).length=n.toNat:=by unfold cZ;simp
theorem oC{g:Int->Int->Int}{n:Int}{r:Li}(h:r∈cZ g n): r.length=n.toNat/\∀x∈r,∃i j,x=g i j:=by
 unfold cZ at h;obtain⟨i,_,rfl⟩:=wS.1 h;refine⟨by simp,λx b=>?_⟩;obtain⟨j,_,rfl⟩:=wS.1 b;exact⟨_,_,rfl⟩
theorem UR{g:Int->Int->Int}{n i j:Int}(hi:0<=i/\i<n)(b:0<=j/\j<n): ((cZ g n).getD i.toNat []).getD j.toNat 0=g i j:=by
 unfold cZ;have h:i.toNat<n.toNat:=by omega
 have f:j.toNat<n.toNat:=by omega
 have e:((List.range n.toNat).map λi:Nat=>(List.range n.toNat).map λj:Nat=>g i j).getD i.toNat []=(List.range n.toNat).map λj:Nat=>g (i.toNat:Nat) j:=by
  rw[qA,qO,vT h];rfl
 rw[e,qA,qO,vT f,qR hi.1];show g i (j.toNat:Nat)=_;rw[qR b.1]
theorem aAq{l:Li}(b:dj l)(m i j:Int): -1<=tg l m i j:=by
 unfold tg;have:0<=l.getD (i*m+j).toNat 0:=by
  by_cases e:(i*m+j).toNat<l.length
  .exact(dH.1 b.1 _ (aR e)).1
  .rw[qA,wV (by omega)];exact qL _
 omega
theorem Ry{q m:Int}{l:Li}{t:Lj}(h:t∈uw q m l): ∃k,t=kB m (bG l k):=by
 unfold uw at h;obtain⟨i,_,rfl⟩:=wS.1 h;exact⟨_,rfl⟩
theorem Rz(q m:Int)(l:Li): (uw q m l).length=q.toNat:=by unfold uw;simp
theorem Yn{l:Li}(b:dj l)(h:nt l=true): nxP (au l):=by
 obtain⟨⟨v,u⟩,_⟩:=vk b h;refine⟨?_,λr f=>?_⟩
 .show(cZ _ _).length<=_;rw[t6];omega
 .obtain⟨y,g⟩:=oC f;refine⟨by omega,λx e=>?_⟩;obtain⟨i,j,rfl⟩:=g x e;exact aAq (d5 b 4) _ _ _
theorem S7{n:Net}{l:Li}(y:dj l)(h:nt l=true)(v:C3 n (au l)=true): plP n (au l):=by
 obtain⟨⟨m0,m1⟩,⟨Z,X⟩,a0,a1,V⟩:=vk y h;unfold C3 at v;simp only[qC,qE,qN,vF]at v;obtain⟨⟨f1,O⟩,L⟩:=v;have e1:(au l).2.2.1.length=(l.getD 2 0).toNat:=t6 _ _;have e2:(au l).2.2.2.length=(l.getD 3 0).toNat:=Rz _ _ _;refine⟨⟨a0,by show l.getD 0 0<=l.getD 1 0;omega,V⟩,⟨f1,λr b=>?_⟩,λi j hi G=>?_,O,λt A=>?_⟩
 .have h1:=(oC b).1;omega
 .obtain⟨x,i1⟩:=hi;obtain⟨z,j1⟩:=G;have u:i<l.getD 2 0:=by omega
  have f:j<l.getD 2 0:=by omega
  have T:cellAt (au l) i j=tg (bG l 4) (l.getD 2 0) i j:=UR ⟨x,u⟩ ⟨z,f⟩;have:=L i.toNat (by omega);unfold mU at this;rw[qN,qR x]at this;have b:=(oC (g:=tg (bG l 4) (l.getD 2 0)) (n:=l.getD 2 0) (r:=(au l).2.2.1.getD i.toNat []) (aR (by omega:i.toNat<(au l).2.2.1.length))).1;refine⟨this _ (aR (by omega)),?_⟩;rw[T];exact aAq (d5 y 4) _ _ _
 .obtain⟨k,rfl⟩:=Ry A;have e:(kB (l.getD 2 0) (bG (bG l (4+l.getD 2 0*l.getD 2 0)) k)).length=(l.getD 2 0).toNat:=t6 _ _;refine⟨by omega,λr b=>?_⟩;have:=(oC b).1;omega
theorem nJ{f:Nat->Li->Option (Li)}{m:Nat}{x:Li}(h:runN f m x=none): ∀{k:Nat},m<=k->runN f k x=none:=by
 intro k e;induction e with
 | refl=>exact h
 | step _ b=>rw[runN,b];rfl
theorem mj{α:Type}(x:Option α): (x.bind λy=>some y)=x:=by cases x<;>rfl
theorem bind_none{α:Type}{x:Option α}{f g:α->Option α}(h:x.bind f=none)(b:∀y,f y=none->g y=none): x.bind g=none:=by
 cases x with
 | none=>rfl
 | some y=>exact b y h
section
variable {n:Net} {p:Plan} {l:Li} {k o d:Int}
theorem Sl: st2 n p l k 0=st1 n p l k:=mj _
theorem R9: st3 n p l k o 0=st2 n p l k o:=mj _
theorem R1: st4 n p l k o d 0=st3 n p l k o d:=mj _
theorem GX(b:0<=k): st1 n p l (k+1)=st2 n p l k (dN p k).length:=by
 unfold st2;rw[qZ];show runN _ (k+1).toNat l=_;rw[show(k+1).toNat=k.toNat+1 by omega,runN,qR b];rfl
theorem GV(b:0<=o): st2 n p l k (o+1)=st3 n p l k o (cellsD p k o).length:=by
 unfold st3 st2;rw[qZ,show(o+1).toNat=o.toNat+1 by omega,qCq]
 congr 1
 funext x
 rw[runN,qR b];rfl
theorem Si(b:0<=d)(h:iS p k o d=-1): st3 n p l k o (d+1)=st3 n p l k o d:=by
 unfold st3;rw[show(d+1).toNat=d.toNat+1 by omega]
 congr 1
 funext x
 rw[runN,qR b,show zj n p k o d=λxs=>some xs from funext λxs=>if_pos h];exact mj _
theorem GU(b:0<=d)(h:iS p k o d≠-1): st3 n p l k o (d+1)=st4 n p l k o d (jy n p k o).length:=by
 unfold st4 st3;rw[show(d+1).toNat=d.toNat+1 by omega,qCq]
 congr 1
 funext x
 rw[runN,qR b,show zj n p k o d=λxs=>runN (vt n p k o d) (jy n p k o).length xs from funext λxs=>if_neg h]
theorem R2(j:Nat): st4 n p l k o d (j+1)=(st4 n p l k o d j).bind (vt n p k o d j):=by
 unfold st4;rw[qCq];rfl
theorem Ss{k':Int}(h:st1 n p l k=none)(b:k<=k'): st1 n p l k'=none:=nJ h (by omega)
theorem Sm{o':Int}(h:st2 n p l k o=none)(e:o<=o'): st2 n p l k o'=none:=bind_none h λy b=>nJ b (by omega)
theorem Sj{d':Int}(h:st3 n p l k o d=none)(e:d<=d'): st3 n p l k o d'=none:=bind_none h λy b=>nJ b (by omega)
theorem R7{j b:Nat}(h:st4 n p l k o d j=none)(f:j<=b): st4 n p l k o d b=none:=bind_none h λy e=>nJ e f
theorem XW{j:Nat}(h:st4 n p l k o d j=none)(r:j<=(jy n p k o).length)(hd:iS p k o d≠-1)(u:0<=d)(y:d<(cellsD p k o).length)(g:0<=o)(v:o<(dN p k).length)(i:0<=k)(x:k<p.2.2.2.length): CU n p l=none:=by
 have f:=R7 h r;rw[<- GU u hd]at f;have e:=Sj f (d':=(cellsD p k o).length) (by omega);rw[<- GV g]at e;have b:=Sm e (o':=(dN p k).length) (by omega);rw[<- GX i]at b;exact Ss b (by omega)
end
theorem XV(s:Int)(l:Li)(cs:List Cal)(ns X:List ByteArray)(os:List Off)(ls:List Line)(ks:List Cla): af Tryz.prog dK 26 [.agg [.dat (.sl C) cs,.dat (.sl S) ns,.dat (.sl S) X,.dat (.sl Of) os,.dat (.sl Ln) ls,.dat (.sl Kl) ks],.agg [.dat R l,.dat I s]] [] ⟨HD l/\qy (cs,ns,X,os,ls,ks),.dat I (fP (cs,ns,X,os,ls,ks) l s),[]⟩:=by
 refine pK (c:=c15) V6 V6 aGh hm ZA (Ri s l cs ns X os ls ks ⟨⟨rfl,rfl⟩,λhp=>?_⟩);simp only[qc,Dj,Es,Di,qd,Dt,Eb,Ec,Dp,Eh,Ei,Ed,Ey,Df,Et,Dl,Dn,Eo,Dy,Dw,Dh,Dq,Ee,Fh,Dc,Dx,Dk,Dz,Ej,Du,Eu,Ez,En,Ef,Fe,Fj,Fg,Ep,Em,Ew,Fb];obtain⟨hl,V⟩:=hp;generalize (cs,ns,X,os,ls,ks)=n at V ⊢;have two:∀{p q:Prop},p->(p/\(false=true->q)):=λh=>⟨h,λh=>by cases h⟩
 have eF:fP n l s=if jk (l,s)=true then if usF n=true then if pu n l=true then Vr n l else 190 else 1 else yc (l,s):=rfl
 refine⟨⟨hl,λh=>two (by rw[eF,if_neg (by rw[h];exact Bool.noConfusion)])⟩,λL=>⟨⟨hl,L⟩,V,λh=>two (by rw[eF,if_pos L,if_neg (by rw[h];exact Bool.noConfusion)]),λh2=>?_⟩⟩;have hs:dM l s=true/\nt l=true:=by
  unfold jk at L
  rwa [qC]at L
 have i:dj l:=⟨by have:=hs.1;unfold dM at this;rw[qC]at this;exact this.1,hl⟩;have hnx:=Yn i hs.2;refine⟨h2,⟨V,hnx⟩,λh=>two ?_,λh3=>⟨h3,?_⟩⟩
 .have:pu n l=false:=by
   unfold pu MF;cases e:C3 n (au l)with
   | false=>rfl
   | true=>rw[vV (by have:=h e;omega)];rfl
  rw[eF,if_pos L,if_pos h2,if_neg (by rw[this];exact Bool.noConfusion)]
 have hfa:pu n l=true:=by
  unfold pu MF;rw[h3.1,qW (by have:=h3.2;omega)];rfl
 have x:=S7 i hs.2 h3.1;have eC:fP n l s=if CU n (au l) (bI l)=some []then 0 else 190:=by rw[eF,if_pos L,if_pos h2,if_pos hfa];rfl
 have g:dj (bI l):=d5 i _;obtain⟨p,ep⟩:∃p,p=au l:=⟨_,rfl⟩;obtain⟨r,er⟩:∃r,r=bI l:=⟨_,rfl⟩;rw[<- ep]at x;rw[<- er]at g;rw[eC];rw[<- ep,<- er];clear eC eF hnx hfa h3 hs L;obtain⟨⟨p0,p1,p2⟩,⟨q1,q2⟩,q3,q4,q5⟩:=id x;have eRow:∀k:Int,p.2.2.2.getD k.toNat []=dN p k:=λ_=>rfl
 have eCel:∀k o:Int,(dN p k).getD o.toNat []=cellsD p k o:=λ_ _=>rfl
 have eDay:∀k o d:Int,(cellsD p k o).getD d.toNat 0=iS p k o d:=λ_ _ _=>rfl
 simp only[eRow,eCel,eDay];have hu:usP n:=⟨h2,V⟩;have hno:n.2.2.2.1.length<=2000000000000000:=V.1.1.2;have hnk:n.2.2.2.2.2.length<=2000000000000000:=V.2;refine⟨⟨(0,r),⟨⟨qL _,qV _⟩,rfl,g⟩,rfl,rfl⟩,λ⟨k,xs⟩ ⟨⟨f,k1⟩,kx,kn⟩=>⟨λb=>?_,λb=>?_⟩⟩
 .have b:k<p.2.2.2.length:=b;have hrw:(dN p k).length=n.2.2.2.1.length/\∀r∈dN p k,r.length=n.2.2.2.1.length:=q5 _ (aR (by omega));refine⟨f,b,⟨(0,xs),⟨⟨⟨f,b⟩,qL _,qV _⟩,by rw[Sl];exact kx,kn⟩,rfl,rfl⟩,λ⟨o,ys⟩ ⟨⟨_,v,o1⟩,ox,on⟩=>⟨λu=>?_,λu=>?_⟩⟩
  .have u:o<(dN p k).length:=u;have hcl:(cellsD p k o).length=n.2.2.2.1.length:=hrw.2 _ (aR (by omega));refine⟨v,u,⟨(0,ys),⟨⟨⟨f,b⟩,⟨v,u⟩,qL _,qV _⟩,by rw[R9];exact ox,on⟩,rfl,rfl⟩,λ⟨d,zs⟩ ⟨⟨_,_,O,d1⟩,dx,dn⟩=>⟨λhd=>?_,λhd=>?_⟩⟩
   .have hd:d<(cellsD p k o).length:=hd;have O:0<=d:=O;have A:iY n o:=⟨v,by show o<_;omega⟩;have Z:iY n d:=⟨O,by omega⟩;have T:UK n k:=⟨f,by show k<_;omega⟩
    refine⟨O,hd,λz=>⟨ay (by omega),⟨(d+1,zs),⟨⟨⟨f,b⟩,⟨v,u⟩,by show 0<=d+1;omega,by show d+1<=_;omega⟩,by rw[Si O z];exact dx,dn⟩,⟨rfl,rfl⟩,by show(_-(d+1)).toNat<_;omega⟩⟩,λz=>⟨⟨⟨hu,x⟩,A,T⟩,⟨(0,zs),⟨qL _,by show st4 n p r k o d 0=_;rw[R1];exact dx,dn⟩,rfl,rfl⟩,λ⟨j,us⟩ y ⟨j0,G,jn⟩ hy=>?_,λ⟨j,us⟩ ⟨j0,G,jn⟩ hj=>?_⟩⟩
    .have hy:(jy n p k o)[j.toNat]?=some y:=hy;obtain⟨jl,_⟩:=qG.1 hy;have hyd:(jy n p k o).getD j.toNat 0=y:=by rw[qA,hy];rfl
     have hin:tU p y=true:=by
      have:=zI hy;unfold jy at this;exact(zV.1 this).2
     have hin2:1440*p.1<=y/\y<1440*p.2.1:=by
      unfold tU at hin
      rwa [qC,qE,qE]at hin
     have hf:HU n p o d y us:=⟨⟨⟨hu,x⟩,A,Z⟩,⟨by omega,by omega⟩,jn⟩;have G:st4 n p r k o d j.toNat=some us:=G;have ju:st4 n p r k o d (j.toNat+1)=if uy n p k o d y us=true then some (HT n p o d y us)else none:=by
      rw[R2,G];show vt n p k o d j.toNat us=_;unfold vt;rw[hyd]
     refine⟨⟨⟨hf,T⟩,λhno=>two ?_⟩,λhok=>⟨⟨⟨hf,T⟩,hok⟩,⟨(j+1,HT n p o d y us),⟨by show 0<=j+1;have:0<=j:=j0;omega,by rw[show((j+1,HT n p o d y us).1).toNat=j.toNat+1 by show(j+1).toNat=_;have:0<=j:=j0;omega,ju,if_pos hok],(FI 19 hf).2⟩,by show(j+1).toNat=_;have:0<=j:=j0;omega,rfl⟩⟩⟩;rw[if_neg (by rw[hno];exact Bool.noConfusion)]at ju;rw[XW ju (by omega) z O hd v u f b]
     exact(if_neg (λh=>by cases h)).symm
    .have hj:j.toNat=(jy n p k o).length:=hj;have G:st4 n p r k o d j.toNat=some us:=G;refine⟨ay (by omega),⟨(d+1,us),⟨⟨⟨f,b⟩,⟨v,u⟩,by show 0<=d+1;omega,by show d+1<=_;omega⟩,by rw[GU O z,<- hj];exact G,jn⟩,⟨rfl,rfl⟩,by show(_-(d+1)).toNat<_;omega⟩⟩
   .have d1:d<=(cellsD p k o).length:=d1;have hd:¬d<(cellsD p k o).length:=hd;have de:d=(cellsD p k o).length:=by omega
    have v:0<=o:=v;refine⟨ay (by omega),⟨(o+1,zs),⟨⟨⟨f,b⟩,by show 0<=o+1;omega,by show o+1<=_;omega⟩,by rw[GV v,<- de];exact dx,dn⟩,⟨rfl,rfl⟩,by show(_-(o+1)).toNat<_;omega⟩⟩
  .have o1:o<=(dN p k).length:=o1;have u:¬o<(dN p k).length:=u;have oe:o=(dN p k).length:=by omega
   have f:0<=k:=f;refine⟨ay (by omega),⟨(k+1,ys),⟨⟨by show 0<=k+1;omega,by show k+1<=_;omega⟩,by rw[GX f,<- oe];exact ox,on⟩,⟨rfl,rfl⟩,by show(_-(k+1)).toNat<_;omega⟩⟩
 .have k1:k<=p.2.2.2.length:=k1;have b:¬k<p.2.2.2.length:=b;have ke:k=p.2.2.2.length:=by omega
  have ka:CU n p r=some xs:=by unfold CU;rw[<- ke];exact kx
  rw[ka];have xl:∀xs:Li,(some xs=some [])↔xs.length=0:=λxs=>by
   rw[wF,qDd]
  refine⟨λh=>two ?_,λh=>⟨h,(λh=>by cases h),?_⟩⟩
  .have h:(xs.length:Int)≠0:=h;rw[if_neg (by rw[xl];omega)]
  .have h:(xs.length:Int)=0:=h;rw[if_pos (by rw[xl];omega)]
end Go.Eng.In
namespace Go.Eng.Sv
open Go.Proofs
def p0F(a b:Int): Plan:=(a,b,[],[])
def p1F(n:Net)(a b:Int): Plan:=Y8 n (p0F a b)
def p2F(n:Net)(a b:Int): Plan:=Y9 n (p1F n a b)
def JQ(n:Net)(a b:Int): Nat->Plan
 | 0=>p0F a b
 | 1=>p0F a b
 | 2=>p1F n a b
 | 3=>p1F n a b
 | _=>p2F n a b
def J0(n:Net)(a b:Int): Nat->i7
 | 5=>(wrN n (p2F n a b),wrS n (p2F n a b))
 | _=>([],0)
def rc(n:Net)(a b:Int): Int:=if Ia n (p0F a b)≠0 then Ia n (p0F a b)else if mQ n (p1F n a b)≠0 then mQ n (p1F n a b)else wrE n (p2F n a b)
def iz(n:Net)(a b:Int): Plan:=if rc n a b=0 then p2F n a b else(0,0,[],[])
def H8(n:Net)(a b:Int): i7:=if rc n a b=0 then(wrN n (p2F n a b),wrS n (p2F n a b))else([],0)
def ot(n:Net)(a b:Int)(j:Nat): Prop:=j<=5/\(1<=j->Ia n (p0F a b)=0)/\(3<=j->mQ n (p1F n a b)=0)/\(5<=j->wrE n (p2F n a b)=0)
def aE3: Kt:=kOr 38 (cK (λ_ _=>True) Ia λ_ p c=>(p,c)) <|
 kOr 39 (cK (λ_ p=>aBW p) (λ_ _=>0) λn p c=>(Y8 n p,c)) <|
 kOr 40 (cK uX mQ λ_ p c=>(p,c)) <|
 kOr 41 (cK (λ_ p=>cn p.2.2.1) (λ_ _=>0) λn p c=>(Y9 n p,c)) <|
 kOr 42 (cK (λ_ p=>fb p) wrE λn p _=>(p,(wrN n p,wrS n p))) KC9
def cComp: Cfg:=mkp aE3 (λt=>t==19) Go.Eng.noP (λ_=>false)
def aBZ(n:Net)(a b:Int): Ann:=⟨λid s=>match id with
 | 4=>some {α:=Nat,inv:=λj=>ot n a b j,st:=λj=>gC (put s [(28,.dat I (Int.ofNat j))]) 2 (.var (O0 n (JQ n a b j) (J0 n a b j))),μ:=λj=>Dc (Dh 5 (Int.ofNat j)),fin:=[0,1,2,3,4,5]}
 | _=>none,λ_ _=>none,λ_ _=>none⟩
set_option maxHeartbeats 4000000 in
theorem IJ(a b:Int)(cs:LC)(ns os:LB)(h:Lo)(ls:Ll)(g:Lk)(hvc:
 let c1:=(cs,ns,os,h,ls,g);let c2:=Dp 0 5;let c3:=JQ c1 a b 0;let c10:=Ia c1 c3;let c11:=Ec c10 0;let c12:=iz c1 a b;let e:=H8 c1 a b;let j:=rc c1 a b;let c23:=Dq 0 1;let c24:=J0 c1 a b 0;let c27:=Dp 1 5;let G:=JQ c1 a b 1;let c36:=Ec 0 0;let c4:=c36->1=1/\0=0/\1=1/\0=0/\1=1/\0=0/\1=1/\0=0/\0=c12.1/\0=c12.2.1/\c12.2.2.1=Dt (Li)/\c12.2.2.2=Dt (Lj)/\e.1=Dt Int/\0=e.2/\0=j/\True;let c37:=Dq 1 1;let c38:=Y8 c1 G;let c41:=J0 c1 a b 1;let c44:=Dp 2 5;let i:=JQ c1 a b 2;let c53:=mQ c1 i;let c54:=Ec c53 0;let c55:=Dq 2 1;let Z:=J0 c1 a b 2;let c59:=Dp 3 5;let A:=JQ c1 a b 3;let c64:=Dq 3 1;let X:=Y9 c1 A;let V:=J0 c1 a b 3;let c74:=Dp 4 5;let f:=JQ c1 a b 4;let c83:=wrE c1 f;let c84:=Ec c83 0;let c85:=Dq 4 1;let c86:=J0 c1 a b 4;let c87:=Dp 5 5;let T:=JQ c1 a b 5;let c91:=J0 c1 a b 5;true/\(True->(∃x,let O:=JQ c1 a b x;let c95:=J0 c1 a b x;
 ot c1 a b x/\1=1/\0=0/\0=0/\1=1/\0=0/\0=0/\1=1/\0=0/\0=0/\(5:Int)=(5:Int)/\0=Int.ofNat x/\(0:Int)=(0:Int)/\(0:Int)=(0:Int)/\Value.slice none 0 0=Value.slice none 0 0/\Value.slice none 0 0=Value.slice none 0 0/\Value.slice none 0 0=Value.slice none 0 0/\(0:Int)=(0:Int)/\cs=cs/\ns=ns/\os=os/\h=h/\ls=ls/\g=g/\a=O.1/\b=O.2.1/\O.2.2.1=Dt (Li)/\O.2.2.2=Dt (Lj)/\c95.1=Dt Int/\0=c95.2/\True)/\(∀(x:Nat),ot c1 a b x->x∈[0,1,2,3,4,5])/\(ot c1 a b 0->(c2->Dl 0 0/\0<Dx 5/\1=1/\0=0/\1=1/\1=1/\0=0/\True/\1=1/\(c11->1=1/\0=0/\1=1/\0=0/\1=1/\0=0/\1=1/\0=0/\0=c12.1/\0=c12.2.1/\c12.2.2.1=Dt (Li)/\c12.2.2.2=Dt (Lj)/\e.1=Dt Int/\0=e.2/\c10=j/\True)/\(c11=false->inR .i64 c23/\∃y,let L:=JQ c1 a b y;let c99:=J0 c1 a b y;ot c1 a b y/\(1=1/\0=0/\0=0/\1=1/\0=0/\0=0/\1=1/\0=0/\0=0/\(5:Int)=(5:Int)/\c23=Int.ofNat y/\(0:Int)=(0:Int)/\(0:Int)=(0:Int)/\Value.slice none 0 0=Value.slice none 0 0/\Value.slice none 0 0=Value.slice none 0 0/\Value.slice none 0 0=Value.slice none 0 0/\(0:Int)=(0:Int)/\cs=cs/\ns=ns/\os=os/\h=h/\ls=ls/\g=g/\c3.1=L.1/\c3.2.1=L.2.1/\c3.2.2.1=L.2.2.1/\c3.2.2.2=L.2.2.2/\c24.1=c99.1/\c24.2=c99.2/\True)/\Dc (5-Int.ofNat y)<Dc (Dh 5 0)))/\(c2=false->1=1/\1=1/\1=1/\0=0/\1=1/\1=1/\1=1/\0=0/\1=1/\0=0/\1=1/\0=0/\1=1/\0=0/\1=1/\0=0/\c3.1=c12.1/\c3.2.1=c12.2.1/\c3.2.2.1=c12.2.2.1/\c3.2.2.2=c12.2.2.2/\c24.1=e.1/\c24.2=e.2/\0=j/\True))/\(ot c1 a b 1->(c27->Dl 0 1/\1<Dx 5/\1=1/\0=0/\1=1/\1=1/\0=0/\aBW G/\1=1/\c4/\(c36=false->inR .i64 c37/\∃y,let z:=JQ c1 a b y;let c103:=J0 c1 a b y;
 ot c1 a b y/\(1=1/\0=0/\0=0/\1=1/\0=0/\0=0/\1=1/\0=0/\0=0/\(5:Int)=(5:Int)/\c37=Int.ofNat y/\(0:Int)=(0:Int)/\(0:Int)=(0:Int)/\Value.slice none 0 0=Value.slice none 0 0/\Value.slice none 0 0=Value.slice none 0 0/\Value.slice none 0 0=Value.slice none 0 0/\(0:Int)=(0:Int)/\cs=cs/\ns=ns/\os=os/\h=h/\ls=ls/\g=g/\c38.1=z.1/\c38.2.1=z.2.1/\c38.2.2.1=z.2.2.1/\c38.2.2.2=z.2.2.2/\c41.1=c103.1/\c41.2=c103.2/\True)/\Dc (5-Int.ofNat y)<Dc (Dh 5 1)))/\(c27=false->1=1/\1=1/\1=1/\0=0/\1=1/\1=1/\1=1/\0=0/\1=1/\0=0/\1=1/\0=0/\1=1/\0=0/\1=1/\0=0/\G.1=c12.1/\G.2.1=c12.2.1/\G.2.2.1=c12.2.2.1/\G.2.2.2=c12.2.2.2/\c41.1=e.1/\c41.2=e.2/\0=j/\True))/\(ot c1 a b 2->(c44->Dl 0 2/\2<Dx 5/\1=1/\0=0/\1=1/\1=1/\0=0/\uX c1 i/\1=1/\(c54->1=1/\0=0/\1=1/\0=0/\1=1/\0=0/\1=1/\0=0/\0=c12.1/\0=c12.2.1/\c12.2.2.1=Dt (Li)/\c12.2.2.2=Dt (Lj)/\e.1=Dt Int/\0=e.2/\c53=j/\True)/\(c54=false->inR .i64 c55/\∃y,let v:=JQ c1 a b y;let c107:=J0 c1 a b y;
 ot c1 a b y/\(1=1/\0=0/\0=0/\1=1/\0=0/\0=0/\1=1/\0=0/\0=0/\(5:Int)=(5:Int)/\c55=Int.ofNat y/\(0:Int)=(0:Int)/\(0:Int)=(0:Int)/\Value.slice none 0 0=Value.slice none 0 0/\Value.slice none 0 0=Value.slice none 0 0/\Value.slice none 0 0=Value.slice none 0 0/\(0:Int)=(0:Int)/\cs=cs/\ns=ns/\os=os/\h=h/\ls=ls/\g=g/\i.1=v.1/\i.2.1=v.2.1/\i.2.2.1=v.2.2.1/\i.2.2.2=v.2.2.2/\Z.1=c107.1/\Z.2=c107.2/\True)/\Dc (5-Int.ofNat y)<Dc (Dh 5 2)))/\(c44=false->1=1/\1=1/\1=1/\0=0/\1=1/\1=1/\1=1/\0=0/\1=1/\0=0/\1=1/\0=0/\1=1/\0=0/\1=1/\0=0/\i.1=c12.1/\i.2.1=c12.2.1/\i.2.2.1=c12.2.2.1/\i.2.2.2=c12.2.2.2/\Z.1=e.1/\Z.2=e.2/\0=j/\True))/\(ot c1 a b 3->(c59->Dl 0 3/\3<Dx 5/\1=1/\0=0/\1=1/\1=1/\0=0/\cn A.2.2.1/\1=1/\c4/\(c36=false->inR .i64 c64/\∃y,let u:=JQ c1 a b y;let c111:=J0 c1 a b y;
 ot c1 a b y/\(1=1/\0=0/\0=0/\1=1/\0=0/\0=0/\1=1/\0=0/\0=0/\(5:Int)=(5:Int)/\c64=Int.ofNat y/\(0:Int)=(0:Int)/\(0:Int)=(0:Int)/\Value.slice none 0 0=Value.slice none 0 0/\Value.slice none 0 0=Value.slice none 0 0/\Value.slice none 0 0=Value.slice none 0 0/\(0:Int)=(0:Int)/\cs=cs/\ns=ns/\os=os/\h=h/\ls=ls/\g=g/\X.1=u.1/\X.2.1=u.2.1/\X.2.2.1=u.2.2.1/\X.2.2.2=u.2.2.2/\V.1=c111.1/\V.2=c111.2/\True)/\Dc (5-Int.ofNat y)<Dc (Dh 5 3)))/\(c59=false->1=1/\1=1/\1=1/\0=0/\1=1/\1=1/\1=1/\0=0/\1=1/\0=0/\1=1/\0=0/\1=1/\0=0/\1=1/\0=0/\A.1=c12.1/\A.2.1=c12.2.1/\A.2.2.1=c12.2.2.1/\A.2.2.2=c12.2.2.2/\V.1=e.1/\V.2=e.2/\0=j/\True))/\(ot c1 a b 4->(c74->Dl 0 4/\4<Dx 5/\1=1/\0=0/\1=1/\1=1/\0=0/\fb f/\1=1/\(c84->1=1/\0=0/\1=1/\0=0/\1=1/\0=0/\1=1/\0=0/\0=c12.1/\0=c12.2.1/\c12.2.2.1=Dt (Li)/\c12.2.2.2=Dt (Lj)/\e.1=Dt Int/\0=e.2/\c83=j/\True)/\(c84=false->inR .i64 c85/\∃y,let r:=JQ c1 a b y;let c115:=J0 c1 a b y;
 ot c1 a b y/\(1=1/\0=0/\0=0/\1=1/\0=0/\0=0/\1=1/\0=0/\0=0/\(5:Int)=(5:Int)/\c85=Int.ofNat y/\(0:Int)=(0:Int)/\(0:Int)=(0:Int)/\Value.slice none 0 0=Value.slice none 0 0/\Value.slice none 0 0=Value.slice none 0 0/\Value.slice none 0 0=Value.slice none 0 0/\(0:Int)=(0:Int)/\cs=cs/\ns=ns/\os=os/\h=h/\ls=ls/\g=g/\f.1=r.1/\f.2.1=r.2.1/\f.2.2.1=r.2.2.1/\f.2.2.2=r.2.2.2/\wrN c1 f=c115.1/\wrS c1 f=c115.2/\True)/\Dc (5-Int.ofNat y)<Dc (Dh 5 4)))/\(c74=false->1=1/\1=1/\1=1/\0=0/\1=1/\1=1/\1=1/\0=0/\1=1/\0=0/\1=1/\0=0/\1=1/\0=0/\1=1/\0=0/\f.1=c12.1/\f.2.1=c12.2.1/\f.2.2.1=c12.2.2.1/\f.2.2.2=c12.2.2.2/\c86.1=e.1/\c86.2=e.2/\0=j/\True))/\(ot c1 a b 5->(c87->False)/\(c87=false->1=1/\1=1/\1=1/\0=0/\1=1/\1=1/\1=1/\0=0/\1=1/\0=0/\1=1/\0=0/\1=1/\0=0/\1=1/\0=0/\T.1=c12.1/\T.2.1=c12.2.1/\T.2.2.1=c12.2.2.1/\T.2.2.2=c12.2.2.2/\c91.1=e.1/\c91.2=e.2/\0=j/\True))/\True)):
  evF cComp (lvA [(4,[6,7,8,9,12,13,26,27,28])] (aBZ (cs,ns,os,h,ls,g) a b)) 11 [net cs ns os h ls g,.dat I a,.dat I b] [] ⟨True,.tup [.agg [.dat I (iz (cs,ns,os,h,ls,g) a b).1,.dat I (iz (cs,ns,os,h,ls,g) a b).2.1,.dat M (iz (cs,ns,os,h,ls,g) a b).2.2.1,.dat (.sl M) (iz (cs,ns,os,h,ls,g) a b).2.2.2],.agg [.dat R (H8 (cs,ns,os,h,ls,g) a b).1,.dat I (H8 (cs,ns,os,h,ls,g) a b).2],.dat I (rc (cs,ns,os,h,ls,g) a b)],[]⟩:=oE hvc
theorem aCj(h:mW): aj Tryz.prog G0 aE3:=ai (OZ λn p c=>RY n p c)<|ai (OZ λn p c=>RX n p c)<|ai (OZ λn p c=>XM h n p c)<|ai (OZ λn p c=>XN n p c)<|ai (OZ λn p c=>XS n p c) (aFy h)
theorem O8{n:Net}{c:Li}{bd:Lj}{o d:Int}: aS n o (uK n c bd o d)=true:=by
 unfold uK aS;split
 .rename_i i h;have hm:=vF.1 (List.mem_of_find?_eq_some h);have hb:=List.find?_some h;unfold qb at hb;simp only[qC,qE]at hb;rw[yE,qC];refine .inr ⟨?_,qW hb.1.1.1⟩;unfold dF;exact qW ⟨by omega,by omega⟩
 .rfl
theorem Na{n:Net}{a b:Int}(f:gX n a b=true): mO n (lh n a b)=true:=by
 have e:lh n a b=Go.Eng.Mp.aJ (sX n (fy n a b) (iw n (fy n a b))) n.2.2.2.1.length:=by
  unfold lh Yw;rw[if_pos f]
 rw[e];generalize j:sX n (fy n a b) (iw n (fy n a b))=g;have r:∀o d:Int,aS n o (g o d)=true:=λo d=>by
  rw[<- j];unfold sX;split
  .rfl
  .exact O8
 unfold mO Go.Eng.Mp.aJ;rw[qC];refine⟨qW (by simp),qN.2 λi hi=>?_⟩;have hi:i<n.2.2.2.1.length:=by simpa using hi
 rw[qA,qO,vT (by simpa using hi)];unfold rowOk;rw[qC];refine⟨qW (by simp),qN.2 λl h=>?_⟩;obtain⟨d,_,rfl⟩:=wS.1 h;exact r _ _
theorem xg{n:Net}{nx:Lj}(f:bg n=true)(b:mO n nx=true): cn nx:=by
 obtain⟨e,_⟩:=lq n.1 n.2.1 n.2.2.1 n.2.2.2.1 n.2.2.2.2.1 n.2.2.2.2.2 f;have e:(n.2.2.2.1.length:Int)<=12:=e;unfold mO at b;rw[qC,qE]at b;refine⟨by have:=b.1;omega,λr g=>?_⟩;obtain⟨i,hi,rfl⟩:=wY.1 g;have:=qN.1 b.2 i (vF.2 hi);unfold rowOk at this;rw[qC,qE,qA,qB hi,qP]at this;have:=this.1;omega
theorem GL{n:Net}{nx:Lj}{a b:Int}(h:bg n=true): (Kv n nx a b).length<=1000000/\∀t∈Kv n nx a b,cn t:=by
 obtain⟨g,f⟩:=lq n.1 n.2.1 n.2.2.1 n.2.2.2.1 n.2.2.2.2.1 n.2.2.2.2.2 h;have g:(n.2.2.2.1.length:Int)<=12:=g;have f:(n.2.2.2.2.2.length:Int)<=1000000:=f;unfold Kv;split
 .refine⟨by rw[vG,vI];omega,λt e=>?_⟩;obtain⟨k,_,rfl⟩:=wS.1 e;unfold aCB;refine⟨by rw[vG,vI];omega,λr i=>?_⟩;obtain⟨o,_,rfl⟩:=wS.1 i;unfold aCE;rw[vG,vI];omega
 .exact⟨wZ _,λt e=>by cases e⟩
theorem aB2{n:Net}{p:Plan}: Ia n p=0↔(0<=p.1/\p.1<p.2.1/\p.2.1<=600/\p.2.1-p.1<=60)/\bg n=true:=by
 unfold Ia km;simp only[qC,qE];split
 .rename_i h;exact⟨λ_=>⟨by omega,h.2⟩,λ_=>rfl⟩
 .rename_i h;constructor
  .intro g;cases g
  .intro g;exact absurd ⟨by omega,g.2⟩ h
theorem Cf{n:Net}{a b:Int}(h:Ia n (p0F a b)=0): (0<=a/\a<b/\b<=600/\b-a<=60)/\bg n=true/\gX n (1440*a) (1440*b)=true/\mO n (p1F n a b).2.2.1=true:=by
 obtain⟨e,g⟩:=aB2.1 h;have e:0<=a/\a<b/\b<=600/\b-a<=60:=e;have f:gX n (1440*a) (1440*b)=true:=by
  unfold gX;rw[qC];exact⟨sn.2 (by omega),g⟩
 exact⟨e,g,f,Na f⟩
theorem L6(h:mW)(a b:Int)(cs:LC)(ns os:LB)(j:Lo)(ls:Ll)(i:Lk): af Tryz.prog G0 11 [net cs ns os j ls i,.dat I a,.dat I b] [] ⟨True,.tup [.agg [.dat I (iz (cs,ns,os,j,ls,i) a b).1,.dat I (iz (cs,ns,os,j,ls,i) a b).2.1,.dat M (iz (cs,ns,os,j,ls,i) a b).2.2.1,.dat (.sl M) (iz (cs,ns,os,j,ls,i) a b).2.2.2],.agg [.dat R (H8 (cs,ns,os,j,ls,i) a b).1,.dat I (H8 (cs,ns,os,j,ls,i) a b).2],.dat I (rc (cs,ns,os,j,ls,i) a b)],[]⟩:=by
 refine ae (c:=cComp) (aCj h) aK hm (IJ a b cs ns os j ls i ⟨rfl,λ_=>?_⟩);obtain⟨n,X⟩:∃n:Net,n=(cs,ns,os,j,ls,i):=⟨_,rfl⟩;simp only[<- X];have eP:∀p:Plan,(p.1,p.2.1,p.2.2.1,p.2.2.2)=p:=λ_=>rfl
 simp only[qc,Dj,Es,Di,qd,Dt,Eb,Ec,Dp,Eh,Ei,Ed,Ey,Df,Et,Dl,Dn,Eo,Dy,Dw,Dh,Dq,Ee,Fh,Dc,Dx,Dk,Dz,Ej,Du,Eu,Ez,En,Ef,Fe,Fj,Fg,Ep,Em,Ew,Fb,eP];have bad:∀e:Int,e≠0->e=rc n a b->0=(iz n a b).1/\0=(iz n a b).2.1/\(iz n a b).2.2.1=[]/\(iz n a b).2.2.2=[]/\(H8 n a b).1=[]/\0=(H8 n a b).2/\e=rc n a b:=λe Z h=>by
  have y:¬rc n a b=0:=by rw[<- h];exact Z
  unfold iz H8;rw[if_neg y,if_neg y];exact⟨rfl,rfl,rfl,rfl,rfl,rfl,h⟩
 refine⟨⟨0,⟨by omega,λh=>by omega,λh=>by omega,λh=>by omega⟩,rfl,rfl,rfl,rfl,rfl,rfl,rfl⟩,λx V=>?_,λ_=>?_,λh1=>?_,λh2=>?_,λT=>?_,λO=>?_,λL=>?_⟩
 .have:=V.1;rcases(by omega:x=0\/x=1\/x=2\/x=3\/x=4\/x=5)with rfl | rfl | rfl | rfl | rfl | rfl<;>simp
 .refine⟨λ_=>⟨by omega,by omega,λg=>bad _ g ?_,λg=>⟨aL (by omega),1,⟨by omega,λ_=>g,λh=>by omega,λh=>by omega⟩,⟨rfl,rfl,rfl,rfl,rfl,rfl,rfl⟩,by decide⟩⟩,λh=>absurd (by decide) h⟩;unfold rc;rw[if_pos (show Ia n (p0F a b)≠0 from g)];rfl
 .have f:=h1.2.1 (by omega);obtain⟨A,u,z,v⟩:=Cf f;exact⟨λ_=>⟨by omega,by omega,⟨by show 0<=a;omega,by show a<=1000;omega,by show 0<=b;omega,by show b<=1000;omega⟩,λh=>absurd rfl h,aL (by omega),2,⟨by omega,λ_=>f,λh=>by omega,λh=>by omega⟩,⟨rfl,rfl,rfl,rfl,rfl,rfl,rfl⟩,by decide⟩,λh=>absurd (by decide) h⟩
 .have f:=h2.2.1 (by omega);obtain⟨A,u,z,v⟩:=Cf f;refine⟨λ_=>⟨by omega,by omega,⟨u,v⟩,λg=>bad _ g ?_,λg=>⟨aL (by omega),3,⟨by omega,λ_=>f,λ_=>g,λh=>by omega⟩,⟨rfl,rfl,rfl,rfl,rfl,rfl,rfl⟩,by decide⟩⟩,λh=>absurd (by decide) h⟩;unfold rc;rw[if_neg (λh=>h f),if_pos (show mQ n (p1F n a b)≠0 from g)];rfl
 .have f:=T.2.1 (by omega);obtain⟨A,u,z,v⟩:=Cf f;exact⟨λ_=>⟨by omega,by omega,xg u v,λh=>absurd rfl h,aL (by omega),4,⟨by omega,λ_=>f,λ_=>T.2.2.1 (by omega),λh=>by omega⟩,⟨rfl,rfl,rfl,rfl,rfl,rfl,rfl⟩,by decide⟩,λh=>absurd (by decide) h⟩
 .have f:=O.2.1 (by omega);have r:=O.2.2.1 (by omega);obtain⟨A,u,z,v⟩:=Cf f;obtain⟨t1,t2⟩:=GL (nx:=(p1F n a b).2.2.1) (a:=(p1F n a b).1) (b:=(p1F n a b).2.1) u;refine⟨λ_=>⟨by omega,by omega,⟨xg u v,t1,t2⟩,λg=>bad _ g ?_,λg=>⟨aL (by omega),5,⟨by omega,λ_=>f,λ_=>r,λ_=>g⟩,⟨rfl,rfl,rfl,rfl,rfl,rfl,rfl⟩,by decide⟩⟩,λh=>absurd (by decide) h⟩;unfold rc;rw[if_neg (λh=>h f),if_neg (λh=>h r)];rfl
 .have f:=L.2.1 (by omega);have r:=L.2.2.1 (by omega);have hw:=L.2.2.2 (by omega);have G:rc n a b=0:=by
   unfold rc;rw[if_neg (λh=>h f),if_neg (λh=>h r)];exact hw
  unfold iz H8;rw[if_pos G,if_pos G,G];exact⟨λh=>absurd h (by decide),λ_=>⟨rfl,rfl,rfl,rfl,rfl,rfl,rfl⟩⟩
end Go.Eng.Sv
