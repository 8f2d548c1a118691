/- PeWa2n PeWa3n PeWa4n PeWa5n PeWa6n PeCo1n PeCo2n PeCo3n PeCo4n PeCo5n PeCoL2n PeIn3n PeIn4n PeIn5n -/
import Derived.Test.YtlakcpmgefpfaaaGreatDoorECGroupsA
import Derived.Test.YtlakcpmgefpfaaaGreatDoorECGroupsB
import Derived.Test.YtlakcpmgefpfaaaGreatDoorECGroupsC
import Derived.Test.YtlakcpmgefpfaaaGreatDoorECGroupsD
import Derived.Test.YtlakcpmgefpfaaaGreatDoorECGroupsE
set_option linter.unusedSimpArgs false
set_option linter.unusedVariables false
set_option maxRecDepth 100000
noncomputable section
namespace Go.Eng.Sv
open Go.Proofs
def ot(w:List Bool)(h:Li)(a b:Int): Int:=if b<=a+2000 then((iG w h (a+1) (b-a)).length:Int)else -1
def countP(z:Int)(w:List Bool)(h:Li)(a b:Int): Prop:=aw z w h=true/\bX a=true/\bX b=true
def KX(k:Nat)(l:Li): Prop:=k<=l.length/\l.length<=100000
def tO(x:Int): Bool:=decide (-1<=x/\x<=65518)
def gj(_o x:Int): Bool:=tO x
def sgR(g:Int->Int->Bool)(m o:Int)(row:Li): Bool:=decide ((row.length:Int)=m)&&row.all (g o)
def sgF(g:Int->Int->Bool)(t:Lj)(m:Int): Bool:=decide ((t.length:Int)=m)&&(List.range t.length).all λi=>sgR g m i (t.getD i [])
def CS(g:Int->Int->Bool)(t:Lj)(m k:Int): Prop:=0<=k/\k<=t.length/\(t.length:Int)=m/\∀i:Nat,(i:Int)<k->sgR g m i (t.getD i [])=true
def mx(g:Int->Int->Bool)(row:Li)(m o k:Int): Prop:=0<=k/\k<=row.length/\(row.length:Int)=m/\∀i:Nat,(i:Int)<k->g o (row.getD i 0)=true
def fe(p:Plan): Prop:=cC p.2.2.1/\p.2.2.2.length<=1000000/\∀t∈p.2.2.2,cC t
def mH(p:Plan): Bool:=decide (0<=p.1/\p.1<p.2.1/\p.2.1<=600/\p.2.1-p.1<=60)
def pw(n:Net)(p:Plan): Bool:=decide ((p.2.2.2.length:Int)=n.2.2.2.2.2.length)&&p.2.2.2.all λt=>sgF gj t n.2.2.2.1.length
def fG(n:Net)(p:Plan): Bool:=mH p&&(mQ n p.2.2.1&&pw n p)
def qg(n:Net)(p:Plan)(k:Int): Prop:=0<=k/\k<=p.2.2.2.length/\mH p=true/\mQ n p.2.2.1=true/\(p.2.2.2.length:Int)=n.2.2.2.2.2.length/\∀i:Nat,(i:Int)<k->sgF gj (p.2.2.2.getD i []) n.2.2.2.1.length=true
def aBf(w:List Bool)(h:Li)(a b:Int): Ann:=⟨λid s=>match id with
 | 5=>some {α:=Nat,inv:=λk=>KX k (iG w h (Dq a 1) (Dj b a)),st:=λk=>ie (flat s) 0 (.var [.dat I (Dx k)]),μ:=λk=>k}
 | _=>none,λ_ _=>none,λ_ _=>none⟩
theorem QE(z:Int)(w:List Bool)(h:Li)(a b:Int)(hvc:
 let c1:=Di (aw z w h);let c2:=Di c1;let c3:=Ea c1 true (Di (bX a));let c4:=Di c3;let c5:=Ea c3 true (Di (bX b));let c6:=Di c5;let c14:=c6->c6->c6;let c7:=a+2000;let c8:=Ea c5 true (Ei b c7);let c9:=ot w h a b;let c10:=a+1;let c11:=iG w h c10 (b-a);let c12:=(z,w,h);true/\(countP z w h a b->True/\(c2->c2->c2)/\(c2->True)/\(c2->c2->c2)/\(Dh true c2->c2)/\(c4->c4->c4)/\(c4->True)/\(c4->c4->c4)/\(Dh true c4->c4)/\c14/\(c6->inR .i64 c7)/\c14/\c14/\(Dh true c6->c6)/\(c8->(-1:Int)=c9/\True)/\(c8=false->1=1/\0=0/\inR .i64 c10/\inR .i64 (b-a)/\Dk w=7/\Js w h c10 (b-a)/\(∃x,KX x c11/\x=0/\z=z/\w=w/\h=h/\a=a/\b=b/\c12=c12/\(0:Int)=(0:Int)/\1=1/\0=0/\0=0/\z=z/\w=w/\h=h/\aw z w h=aw z w h/\c1=c1/\c1=c1/\c3=c3/\c3=c3/\c5=c5/\c5=c5/\c8=c8/\z=z/\w=w/\h=h/\a=a/\c10=c10/\b=b/\a=a/\b-a=b-a/\c10=c10/\b-a=b-a/\w=w/\c12=c12/\0=Dx x/\True)/\(∀(x:Nat),let c13:=Dx x+1;∀(y:Int),KX x c11->lF c11 x y->1=1/\0=0/\inR .i64 c13/\1=1/\0=0/\∃z_1,KX z_1 c11/\z_1=x+(1)/\z=z/\w=w/\h=h/\a=a/\b=b/\c12=c12/\(0:Int)=(0:Int)/\1=1/\0=0/\0=0/\z=z/\w=w/\h=h/\aw z w h=aw z w h/\c1=c1/\c1=c1/\c3=c3/\c3=c3/\c5=c5/\c5=c5/\c8=c8/\z=z/\w=w/\h=h/\a=a/\c10=c10/\b=b/\a=a/\b-a=b-a/\c10=c10/\b-a=b-a/\w=w/\c12=c12/\c13=Dx z_1/\True)/\∀(x:Nat),KX x c11->x=Dk c11->1=1/\0=0/\Dx x=c9/\True))):
  evF (aB3 KR1) (aBf w h a b) 140 [cal z w h,.dat I a,.dat I b] [] ⟨countP z w h a b,.dat I (ot w h a b),[]⟩:=oE hvc
theorem Wl(o x:Int)(hvc:
 let c1:=Ed x (-1);true/\(True->(c1->c1->c1)/\(Dh true c1->c1)/\Ea c1 (Eh x 65518) false=gj o x/\True)):
  evF (mkc KW3) az 133 [.dat I o,.dat I x] [] ⟨True,.dat .bool (gj o x),[]⟩:=oE hvc
theorem Qs(n:Net)(hvc:
 true/\(True->n=n/\True)):
  evF (mkc KW3) az 132 [.ip N n] [] ⟨True,.fn 204 [.ipv (.ip N n)],[]⟩:=oE hvc
theorem Qu(o x:Int)(cs:LC)(ns os:LB)(fs:Lo)(ls:Ll)(ks:Lk)(hvc:
 let c1:=Eb x (-1);let c2:=Di c1;let c6:=c2->c2->c2;let c3:=Df ls;let c4:=dM x c3;let c5:=Dh c2 c4->Dh c2 c4->Dh c2 c4;true/\(True->c6/\c6/\c6/\c6/\c6/\c6/\(c2->True)/\c6/\c5/\c5/\c5/\c5/\c5/\(Dh c2 c4->0<=x)/\(Dh c2 c4->x<c3)/\c5/\c5/\c5/\c5/\c6/\(c2->Dh c2 c4->Dh c2 c4)/\(Dh true c2->c2)/\Ea c1 true (Ea c4 (Eb (Du ls (Dc x) (ByteArray.mk #[],(0:Int),(0:Int),(0:Int),(0:Int),(0:Int))).2.1 o) false)=aT (cs,ns,os,fs,ls,ks) o x/\True)):
  evF (mkc KW3) az 204 [.dat I o,.dat I x,.ipv (.ip N (cs,ns,os,fs,ls,ks))] [] ⟨True,.dat .bool (aT (cs,ns,os,fs,ls,ks) o x),[]⟩:=oE hvc
def KW4: Kt:=kOr 133 (ax [.val I,.val I] (λ_=>True) λ(o,x,_)=>.dat .bool (gj o x)) <|
 kOr 132 (ax [.ptr N] (λ_=>True) λ(n,_)=>.fn 204 [.ipv (.ip N n)]) <|
 kOr 204 (ax [.val I,.val I,.bp N] (λ_=>True) λ(o,x,n,_)=>.dat .bool (aT n o x)) <|
 kOr 140 (ax [.row C,.val I,.val I] (λ(c,a,b,_)=>countP c.1 c.2.1 c.2.2 a b) λ(c,a,b,_)=>.dat I (ot c.2.1 c.2.2 a b)) KW3
def sgA(g:Int->Int->Bool)(t:Lj)(m:Int): Ann:=⟨λid s=>match id with
 | 4=>some {α:=Int,inv:=λk=>CS g t m k,st:=λk=>put s [(17,.dat I k)],μ:=λk=>Dc (Dj (Df t) k)}
 | 9=>match s.sig.T 17,s.sig.T 26 with
  | .dat (.int .i64) o,.dat (.sl (.int .i64)) row=>some {α:=Int,inv:=λk=>mx g row m o k,st:=λk=>put s [(28,.dat I k)],μ:=λk=>Dc (Dj (Df row) k)}
  | _,_=>none
 | _=>none,λ_ _=>none,λ_ _=>none⟩
theorem Zv(t:Lj)(m:Int)(n:Net)(hvc:
 let c1:=Dy (Df t) m;let c2:=sgF (aT n) t m;true/\(cC t->(c1->false=c2/\True)/\(c1=false->(∃x,CS (aT n) t m x/\m=m/\n=n/\t=t/\Df t=Df t/\0=x/\True)/\∀(x:Int),let c3:=Dp x (Df t);let c4:=Du t (Dc x) [];let c5:=Df c4;let c6:=Dy c5 m;let c7:=x+1;CS (aT n) t m x->(c3->0<=x/\x<Df t/\(c6->false=c2/\True)/\(c6=false->(∃x_4,mx (aT n) c4 m x x_4/\m=m/\n=n/\x=x/\c4=c4/\t=t/\Df t=Df t/\x=x/\c4=c4/\c5=c5/\0=x_4/\True)/\∀(x_4:Int),let c8:=Di (aT n x (Du c4 (Dc x_4) 0));let c9:=x_4+1;mx (aT n) c4 m x x_4->(Dp x_4 c5->0<=x_4/\x_4<c5/\True/\(c8->false=c2/\True)/\(c8=false->inR .i64 c9/\∃y,mx (aT n) c4 m x y/\(m=m/\n=n/\x=x/\c4=c4/\t=t/\Df t=Df t/\x=x/\c4=c4/\c5=c5/\c9=y/\True)/\Dc (c5-y)<Dc (c5-x_4)))/\(Dp x_4 c5=false->inR .i64 c7/\∃y,CS (aT n) t m y/\(m=m/\n=n/\t=t/\Df t=Df t/\c7=y/\True)/\Dc (Df t-y)<Dc (Df t-x))))/\(c3=false->true=c2/\True)))):
  evF (mkc KW4) (lvA [(4,[1,2,6,7,8,10,15,16,17,26,27,28]),(9,[1,2,6,7,8,10,15,16,17,26,27,28])] (sgA (aT n) t m)) 131 [.dat M t,.dat I m,.fn 204 [.ipv (.ip N n)]] [] ⟨cC t,.dat .bool (sgF (aT n) t m),[]⟩:=oE hvc
theorem Zw(t:Lj)(m:Int)(hvc:
 let c1:=Dy (Df t) m;true/\(cC t->(c1->false=sgF gj t m/\True)/\(c1=false->(∃x,CS gj t m x/\m=m/\t=t/\Df t=Df t/\0=x/\True)/\∀(x:Int),let c2:=Dp x (Df t);let c3:=Du t (Dc x) [];let c4:=Df c3;let c5:=Dy c4 m;let c6:=x+1;CS gj t m x->(c2->0<=x/\x<Df t/\(c5->false=sgF gj t m/\True)/\(c5=false->(∃x_4,mx gj c3 m x x_4/\m=m/\x=x/\c3=c3/\t=t/\Df t=Df t/\x=x/\c3=c3/\c4=c4/\0=x_4/\True)/\∀(x_4:Int),let c7:=Di (gj x (Du c3 (Dc x_4) 0));let c8:=x_4+1;mx gj c3 m x x_4->(Dp x_4 c4->0<=x_4/\x_4<c4/\True/\(c7->false=sgF gj t m/\True)/\(c7=false->inR .i64 c8/\∃y,mx gj c3 m x y/\(m=m/\x=x/\c3=c3/\t=t/\Df t=Df t/\x=x/\c3=c3/\c4=c4/\c8=y/\True)/\Dc (c4-y)<Dc (c4-x_4)))/\(Dp x_4 c4=false->inR .i64 c6/\∃y,CS gj t m y/\(m=m/\t=t/\Df t=Df t/\c6=y/\True)/\Dc (Df t-y)<Dc (Df t-x))))/\(c2=false->true=sgF gj t m/\True)))):
  evF (mkc KW4) (lvA [(4,[1,2,6,7,8,10,15,16,17,26,27,28]),(9,[1,2,6,7,8,10,15,16,17,26,27,28])] (sgA gj t m)) 131 [.dat M t,.dat I m,.fn 133 []] [] ⟨cC t,.dat .bool (sgF gj t m),[]⟩:=oE hvc
def KW5: Kt:=kOr 131 (aB4 (ax [.val M,.val I,.fnb 204 N] (λ(t,_,_,_)=>cC t) λ(t,m,n,_)=>.dat .bool (sgF (aT n) t m)) (ax [.val M,.val I,.fn0 133] (λ(t,_,_)=>cC t) λ(t,m,_)=>.dat .bool (sgF gj t m))) KW4
def aDI(n:Net)(p:Plan): Ann:=⟨λid s=>match id with
 | 7=>some {α:=Int,inv:=λk=>qg n p k,st:=λk=>put s [(74,.dat I k)],μ:=λk=>Dc (Dj (Df p.2.2.2) k)}
 | _=>none,λ_ _=>none,λ_ _=>none⟩
theorem PX(n:Net)(p:Plan)(hvc:
 let c1:=p.2.2.2;let c2:=Dp p.1 0;let c3:=Di c2;let c12:=c3->c3->c3;let c6:=Ea c2 true (Eh p.2.1 p.1);let c7:=Di c6;let c13:=c7->c7->c7;let c8:=Ea c6 true (Ei p.2.1 600);let c9:=Di c8;let c5:=c9->c9->c9;let c10:=p.2.1-p.1;let c11:=Ea c8 true (Ei c10 60);let c14:=Df c1;let c16:=Dy c14 (Df n.2.2.2.2.2);let c17:=Di c16;let c4:=c17->c17->c17;let c19:=Df n.2.2.2.1;let c20:=Ea c16 true (Di (sgF (aT n) p.2.2.1 c19));true/\(fe p->c12/\c12/\c12/\c12/\c12/\c12/\c12/\c12/\(Dh true c3->c3)/\c13/\c13/\c13/\c13/\(Dh true c7->c7)/\c5/\c5/\c5/\c5/\c5/\c5/\c5/\c5/\(c9->inR .i64 c10)/\c5/\(Dh true c9->c9)/\(c11->false=fG n p/\True)/\(c11=false->c4/\c4/\c4/\c4/\c4/\c4/\c4/\c4/\(c17->True)/\c4/\c4/\c4/\(c17->cC p.2.2.1)/\c4/\(Dh true c17->c17)/\(c20->false=fG n p/\True)/\(c20=false->(∃x,qg n p x/\n=n/\c1=c1/\c14=c14/\0=x/\True)/\∀(x:Int),let c21:=Du c1 (Dc x) (Dt (Li));let c22:=Di (sgF gj c21 c19);let c23:=x+1;qg n p x->(Dp x c14->0<=x/\x<c14/\cC c21/\(c22->false=fG n p/\True)/\(c22=false->inR .i64 c23/\∃y,qg n p y/\(n=n/\c1=c1/\c14=c14/\c23=y/\True)/\Dc (c14-y)<Dc (c14-x)))/\(Dp x c14=false->true=fG n p/\True))))):
  evF (mkc KW5) (lvA [(7,[0,4,5,7,72,73,74])] (aDI n p)) 65 [.ip N n,.ip Pl p] [] ⟨fe p,.dat .bool (fG n p),[]⟩:=oE hvc
theorem L9(z:Int)(w:List Bool)(h:Li)(a b:Int): af Tryz.prog G0 140 [cal z w h,.dat I a,.dat I b] [] ⟨countP z w h a b,.dat I (ot w h a b),[]⟩:=by
 refine ae (c:=aB3 KR1) aD0 aBK hm (QE z w h a b ⟨rfl,λ⟨hv,ha,hb⟩=>?_⟩)
 have hc:=zi hv;have ha':=okd ha;have hb':=okd hb;have hl:(iG w h (a+1) (b-a)).length<=(b-a).toNat:=by
  unfold iG;exact wF (xA _ _) (by simp)
 simp only[hv,ha,hb,qc,Dh,Es,Di,qd,Dt,Eb,Dy,Dp,Ei,Eh,Ed,Ew,Df,Et,Dl,Dn,Eo,Dz,Dw,Dj,Dq,Ee,Fe,Dc,Dx,Dk,Ec,Em,Du,Eu,Ez,En,Ef,Fg,Fj,Fh,Ep,Ej,Ey,Fb,zZ,yC,qAv,qAm,kT,vT,xG,reduceCtorEq,qAj,kH,qAq]
 refine⟨⟨by omega,by omega⟩,λhgt=>(if_neg (by omega)).symm,λhab=>⟨⟨by omega,by omega⟩,⟨by omega,by omega⟩,hc.1,⟨hc,by omega,by omega,by omega,by omega⟩,⟨0,⟨by omega,by omega⟩,rfl,rfl⟩,λk y hk hy=>?_,λk hk hlen=>?_⟩⟩
 .have hy:(iG w h (a+1) (b-a))[k]?=some y:=hy;have:=(qF.1 hy).1;obtain⟨k1,k2⟩:=hk;refine⟨⟨by omega,by omega⟩,k+1,⟨by omega,k2⟩,rfl,by omega⟩
 .rw[hlen];exact(if_pos (by omega)).symm
theorem aAb(o x:Int): af Tryz.prog G0 133 [.dat I o,.dat I x] [] ⟨True,.dat .bool (gj o x),[]⟩:=by
 refine ae (c:=mkc KW3) Zi aL hm (Wl o x ⟨rfl,λ_=>⟨λh _=>h,λh=>by simpa[Dh]using h,?_,trivial⟩⟩)
 unfold gj tO;simp only[Ea,Ed,Eh,kN];by_cases h:-1<=x<;>simp[h]
theorem Xc(n:Net): af Tryz.prog G0 132 [.ip N n] [] ⟨True,.fn 204 [.ipv (.ip N n)],[]⟩:=
 ae (c:=mkc KW3) Zi aL hm (Qs n ⟨rfl,λ_=>⟨rfl,trivial⟩⟩)
theorem Xd(o x:Int)(cs:LC)(ns os:LB)(fs:Lo)(ls:Ll)(ks:Lk): af Tryz.prog G0 204 [.dat I o,.dat I x,.ipv (.ip N (cs,ns,os,fs,ls,ks))] [] ⟨True,.dat .bool (aT (cs,ns,os,fs,ls,ks) o x),[]⟩:=by
 refine ae (c:=mkc KW3) Zi aL hm (Qu o x cs ns os fs ls ks ⟨rfl,λ_=>?_⟩)
 have e:Ea (Eb x (-1)) true (Ea (dM x (Df ls)) (Eb (Du ls (Dc x) (ByteArray.mk (Dt UInt8).toArray,(0:Int),(0:Int),(0:Int),(0:Int),(0:Int))).snd.fst o) false)=aT (cs,ns,os,fs,ls,ks) o x:=by
  unfold aT;rw[ql,jb]
  congr 1
 rw[e];simp only[qc,Dh,Es,Di,qd,Dt,Eb,Dy,Dp,Ei,Eh,Ed,Ew,Df,Et,Dl,Dn,Eo,Dz,Dw,Dj,Dq,Ee,Fe,Dc,Dx,Dk,Ec,Em,Du,Eu,Ez,En,Ef,Fg,Fj,Fh,Ep,Ej,Ey,Fb];unfold dM;simp only[qE];exact⟨λh=>h.2.1,λh=>h.2.2⟩
theorem aCh: aj Tryz.prog G0 KW4:=ai (ag λ(o,x,_)=>aAb o x)<|ai (ag λ(n,_)=>Xc n)<|ai (ag λ(o,x,(cs,ns,os,fs,ls,ks),_)=>Xd o x cs ns os fs ls ks) <|
 ai (ag λ((z,w,h),a,b,_)=>L9 z w h a b) Zi
theorem Av{g:Int->Int->Bool}{t:Lj}{m:Int}(hl:(t.length:Int)=m): sgF g t m=true↔∀i:Nat,(i:Int)<t.length->sgR g m i (t.getD i [])=true:=by
 unfold sgF;simp only[qC,qE,qN,qX];exact⟨λh i hi=>h.2 i (by omega),λh=>⟨hl,λi hi=>h i (by omega)⟩⟩
theorem DC{g:Int->Int->Bool}{m o:Int}{row:Li}(hl:(row.length:Int)=m): sgR g m o row=true↔∀i:Nat,(i:Int)<row.length->g o (row.getD i 0)=true:=by
 unfold sgR;simp only[qC,qE,qN];refine⟨λh i hi=>h.2 _ ?_,λh=>⟨hl,λx hx=>?_⟩⟩
 .rw[qA,qB (by omega),qQ];exact wQ _
 .obtain⟨i,hi,rfl⟩:=wY.1 hx;have:=h i (by omega)
  rw[qA,qB hi,qQ]at this;exact this
theorem xf(g:Int->Int->Bool){t:Lj}{m:Int}(hf:cC t): ((t.length:Int)≠m->false=sgF g t m)/\((t.length:Int)=m->CS g t m 0/\∀x:Int,CS g t m x->
  (x<t.length->0<=x/\x<t.length/\(((t.getD x.toNat []).length:Int)≠m->false=sgF g t m)/\(((t.getD x.toNat []).length:Int)=m->mx g (t.getD x.toNat []) m x 0/\∀y:Int,mx g (t.getD x.toNat []) m x y->
   (y<(t.getD x.toNat []).length->0<=y/\y<(t.getD x.toNat []).length/\(g x ((t.getD x.toNat []).getD y.toNat 0)=false->false=sgF g t m)/\
    (g x ((t.getD x.toNat []).getD y.toNat 0)=true->inR .i64 (y+1)/\∃z,mx g (t.getD x.toNat []) m x z/\y+1=z/\(((t.getD x.toNat []).length:Int)-z).toNat<(((t.getD x.toNat []).length:Int)-y).toNat))/\
   (¬y<(t.getD x.toNat []).length->inR .i64 (x+1)/\∃z,CS g t m z/\x+1=z/\((t.length:Int)-z).toNat<((t.length:Int)-x).toNat)))/\(¬x<t.length->true=sgF g t m)):=by
 have hct:∀x:Int,0<=x->((x.toNat:Nat):Int)=x:=λx h=>by omega
 refine⟨λh=>?_,λhe=>⟨⟨qL _,by omega,he,λi h=>by omega⟩,λx ⟨x0,x1,_,x3⟩=>⟨λhx=>?_,λhx=>?_⟩⟩⟩
 .unfold sgF;rw[vK h];rfl
 .have hr:=hf.2 _ (getD_mem (l:=t) (i:=x.toNat) (d:=[]) (by omega))
  have hfl:=hf.1;refine⟨x0,hx,λh=>?_,λhm=>⟨⟨qL _,by omega,hm,λi h=>by omega⟩,λy ⟨y0,y1,_,y3⟩=>⟨λhy=>⟨y0,hy,λh=>?_,λh=>?_⟩,λhy=>?_⟩⟩⟩
  .refine(kM.2 λht=>h ?_).symm
   have h2:=(Av he).1 ht x.toNat (by omega)
   unfold sgR at h2;simp only[qC,qE]at h2;exact h2.1
  .refine(kM.2 λht=>?_).symm
   have h2:=(DC hm).1 ((Av he).1 ht x.toNat (by omega)) y.toNat (by omega)
   rw[hct x x0,h]at h2;cases h2
  .refine⟨aM (by omega),y+1,⟨by omega,by omega,hm,λi hi=>?_⟩,rfl,by omega⟩
   by_cases h3:(i:Int)<y
   .exact y3 i h3
   .have:i=y.toNat:=by omega
    subst this;exact h
  .refine⟨aM (by omega),x+1,⟨by omega,by omega,he,λi hi=>?_⟩,rfl,by omega⟩
   by_cases h3:(i:Int)<x
   .exact x3 i h3
   .have:i=x.toNat:=by omega
    subst this;exact(DC hm).2 λj hj=>by rw[hct x x0];exact y3 j (by omega)
 .exact((Av he).2 λi hi=>x3 i (by omega)).symm
theorem aCH(t:Lj)(m:Int): af Tryz.prog G0 131 [.dat M t,.dat I m,.fn 133 []] [] ⟨cC t,.dat .bool (sgF gj t m),[]⟩:=by
 refine ae (c:=mkc KW4) aCh aL hm (Zw t m ⟨rfl,λhf=>?_⟩)
 simp only[qc,Dh,Es,Di,qd,Dt,Eb,Dy,Dp,Ei,Eh,Ed,Ew,Df,Et,Dl,Dn,Eo,Dz,Dw,Dj,Dq,Ee,Fe,Dc,Dx,Dk,Ec,Em,Du,Eu,Ez,En,Ef,Fg,Fj,Fh,Ep,Ej,Ey,Fb];exact xf gj hf
theorem aCG(t:Lj)(m:Int)(n:Net): af Tryz.prog G0 131 [.dat M t,.dat I m,.fn 204 [.ipv (.ip N n)]] [] ⟨cC t,.dat .bool (sgF (aT n) t m),[]⟩:=by
 refine ae (c:=mkc KW4) aCh aL hm (Zv t m n ⟨rfl,λhf=>?_⟩)
 simp only[qc,Dh,Es,Di,qd,Dt,Eb,Dy,Dp,Ei,Eh,Ed,Ew,Df,Et,Dl,Dn,Eo,Dz,Dw,Dj,Dq,Ee,Fe,Dc,Dx,Dk,Ec,Em,Du,Eu,Ez,En,Ef,Fg,Fj,Fh,Ep,Ej,Ey,Fb];exact xf (aT n) hf
theorem aEA: aj Tryz.prog G0 KW5:=ai (NF (ag λ(t,m,n,_)=>aCG t m n) (ag λ(t,m,_)=>aCH t m)) aCh
theorem WL(n:Net)(p:Plan): af Tryz.prog G0 65 [.ip N n,.ip Pl p] [] ⟨fe p,.dat .bool (fG n p),[]⟩:=by
 refine ae (c:=mkc KW5) aEA aL hm (PX n p ⟨rfl,λ⟨a3,a4,a5⟩=>?_⟩)
 simp only[qc,Dh,Es,Di,qd,Dt,Eb,Dy,Dp,Ei,Eh,Ed,Ew,Df,Et,Dl,Dn,Eo,Dz,Dw,Dj,Dq,Ee,Fe,Dc,Dx,Dk,Ec,Em,Du,Eu,Ez,En,Ef,Fg,Fj,Fh,Ep,Ej,Ey,Fb];have eT:sgF (aT n) p.2.2.1 n.2.2.2.1.length=mQ n p.2.2.1:=rfl;rw[eT];have e1:∀i:Nat,(i:Int)<p.2.2.2.length->p.2.2.2.getD i []∈p.2.2.2:=λi hi=>getD_mem (by omega)
 have eD:(p.2.2.2.length:Int)=n.2.2.2.2.2.length->(pw n p=true↔∀i:Nat,(i:Int)<p.2.2.2.length->sgF gj (p.2.2.2.getD i []) n.2.2.2.1.length=true):=λhl=>by
  unfold pw;simp only[qC,qE,qN];refine⟨λh i hi=>h.2 _ (e1 i hi),λh=>⟨hl,λx hx=>?_⟩⟩
  obtain⟨i,hi,rfl⟩:=wY.1 hx;have:=h i (by omega)
  rw[qA,qB hi,qQ]at this;exact this
 refine⟨λh=>aM (by omega),λh=>?_,λh=>⟨λ_=>a3,λh2=>?_,λ⟨h2,h3⟩=>?_⟩⟩
 .unfold fG mH;rw[vK (by omega)];rfl
 .unfold fG pw;rcases h2 with h2 | h2
  .rw[vK h2];simp
  .rw[h2];simp
 .have hR:mH p=true:=by unfold mH;exact vF (by omega)
  refine⟨⟨qL _,by omega,hR,h3,h2,λi hi=>by omega⟩,λx ⟨x0,x1,_,_,_,x5⟩=>⟨λhx=>⟨x0,hx,a5 _ (getD_mem (by omega)),λh4=>?_,λh4=>?_⟩,λhx=>?_⟩⟩
  .refine(kM.2 λht=>?_).symm
   unfold fG at ht;simp only[qC]at ht;have:=(eD h2).1 ht.2.2 x.toNat (by omega)
   rw[h4]at this;cases this
  .refine⟨aM (by omega),x+1,⟨by omega,by omega,hR,h3,h2,λi hi=>?_⟩,rfl,by omega⟩
   by_cases h5:(i:Int)<x
   .exact x5 i h5
   .have:i=x.toNat:=by omega
    subst this;exact h4
  .unfold fG;rw[hR,h3,(eD h2).2 λi hi=>x5 i (by omega)];rfl
end Go.Eng.Sv
set_option maxRecDepth 100000
noncomputable section
namespace Go.Eng.Sv
open Go.Proofs
def aEq(n:Net)(f:Int)(s:Stop): Int:=gY (aB n s.1).1 s.2.2.1+(2-f)
def o9(n:Net)(f:Int)(l:List Stop): Li:=l.map (aEq n f)
def Ia(n:Net)(p:Plan)(o d t:Int): Li:=o9 n p.1 (uq n p.2.2.1 o d t).dropLast
def uo(n:Net)(p:Plan)(o d t:Int): Int:=((uq n p.2.2.1 o d t).getLastD (0,0,0,0)).2.1
def wu(n:Net)(p:Plan)(o d t:Int)(k:Nat)(xs:Li): Prop:=Gk n p.2.2.1 o d t/\(0<=p.1/\p.1<=600)/\xs.length=k/\xs.length<=950000000000
def aCp(n:Net)(p:Plan)(o0 d t0:Int)(xs:Li): Ann:=⟨λid s=>match id with
 | 2=>some {α:=List Stop×Int×Int,inv:=λx=>UG n p.2.2.1 o0 d t0 x,st:=λx=>{put (flat s) [(1,.dat I x.2.1),(3,.dat I x.2.2),(9,.dat I (Dq (Df x.1) 1))]with mem:=mr n p (Ec (Dk xs) (Dk (o9 n p.1 x.1))) (Ef xs (o9 n p.1 x.1))},μ:=λx=>Dc (Dj 20 (Df x.1))}
 | _=>none,λ_ _=>none,λ_ _=>none⟩
def cWw: Cfg:=mkp KW3 (λ_=>false) aEc (λf=>f==137)
theorem VK(o d t:Int)(k:Nat)(xs:Li)(n:Net)(p:Plan)(hvc:
 let c1:=Ia n p o d t;let c2:=Ef xs c1;let c3:=p.2;let c4:=c3.2;let c5:=c4.1;let c6:=n.1;let c7:=n.2;let c8:=c7.1;let c9:=c7.2;let c10:=c9.1;let c11:=c9.2;let c12:=c11.1;let c13:=c11.2;let c14:=c13.1;let c15:=c13.2;let c16:=p.1;let c17:=c3.1;let c18:=c4.2;let c19:=je n c5 o d t;let c20:=isZero c19;let c21:=chainOf (Value.iface (39) (Value.int IntKind.i64 c19));let c22:=(c6,c8,c10,c12,c14,c15);let c23:=(ByteArray.mk #[],(0:Int),(0:Int),(0:Int),(0:Int),(0:Int));let c24:=2-c16;true/\(wu n p o d t k xs->1=1/\Dk xs<=Dk c2/\(∃(x:List Stop×Int×Int),let c25:=x.2;let c26:=x.1;let c27:=o9 n c16 c26;UG n c5 o d t x/\1=1/\0=0/\0=0/\o=c25.1/\d=d/\t=c25.2/\(0:Int)=(0:Int)/\1=Df c26+1/\c6=c6/\c8=c8/\c10=c10/\c12=c12/\c14=c14/\c15=c15/\c16=c16/\c17=c17/\c5=c5/\c18=c18/\k=Dk xs+Dk c27/\xs=Ef xs c27/\1=1/\Dk xs=Dk xs/\True)/\∀(x:List (Int×Int×Int×Int)×Int×Int),let c28:=x.2;let c29:=c28.1;let c30:=Dy c29 d;let c31:=Du c5 (Dc c29) [];let c32:=Du c31 (Dc d) 0;let c33:=Eb c32 (-1);let c34:=c28.2;let c35:=aH c22 c29 c34;let c36:=Ei c35 2000000;let c37:=aB c22 c29;let c38:=c37.1;let c39:=c37.2;let c40:=c39.1;let c41:=c39.2;let c42:=(c38,c40,c41);let c43:=(Du c14 (Dc c32) c23).2.2;let c44:=c43.2;let c45:=c44.1;let c46:=mB c42 c45 c35;let c47:=isZero c46;let c48:=x.1;let c49:=Df c48;let c50:=c49+1;let c51:=Eb c50 20;let c52:=iz c42 c45 c35;let c53:=[gY c38 c52];let c54:=o9 n c16 c48;let c55:=Ef xs c54;let c56:=Dk xs+Dk c54;let c57:=upR c53 c24 (Df c53);let c58:=Ef c55 c57;let c59:=c52+c44.2.1;let c60:=c50+1;
 UG n c5 o d t x->(c30->1=1/\1=1/\1=1/\1=1/\0=0/\0<=c29/\c29<Df c5/\0<=d/\d<Df c31/\(c33->(true->True/\(false=false->c20=false/\true/\chainOf (Value.iface (39) (Value.int IntKind.i64 (170:Int)))=c21))/\True)/\(c33=false->fB c22 c29 c34/\(c36->(true->True/\(false=false->c20=false/\true/\chainOf (Value.iface (39) (Value.int IntKind.i64 (1:Int)))=c21))/\True)/\(c36=false->1=1/\1=1/\1=1/\1=1/\0=0/\0<=c32/\c32<Df c14/\1=1/\0=0/\my c22 c29/\1=1/\0=0/\1=1/\0=0/\1=1/\1=1/\0=0/\zu c42 c45 c35/\(true->True/\(c47=false->c20=false/\true/\chainOf (Value.iface (39) (Value.int IntKind.i64 c46))=c21))/\((true->c47)->(True/\c47)/\(c51->(true->True/\(false=false->c20=false/\true/\chainOf (Value.iface (39) (Value.int IntKind.i64 (170:Int)))=c21))/\True)/\(c51=false->1=1/\0=0/\ga c38 c40 c41 c52/\1=1/\1=1/\1=1/\1=1/\0=0/\inR .i64 c24/\rsP c24 c53 c55 c56/\1=1/\Dk c55<=Dk c58/\1=1/\1=1/\0=0/\1=1/\1=1/\0=0/\inR .i64 c59/\inR .i64 c60/\∃(y:List Stop×Int×Int),let c61:=y.2;let c62:=y.1;let c63:=Df c62;let c64:=o9 n c16 c62;UG n c5 o d t y/\(1=1/\0=0/\0=0/\c43.1=c61.1/\d=d/\c59=c61.2/\(0:Int)=(0:Int)/\c60=c63+1/\c6=c6/\c8=c8/\c10=c10/\c12=c12/\c14=c14/\c15=c15/\c16=c16/\c17=c17/\c5=c5/\c18=c18/\c56+Dk c57=Dk xs+Dk c64/\c58=Ef xs c64/\1=1/\Dk xs=Dk xs/\True)/\Dc (20-c63)<Dc (20-c49))))))/\(c30=false->c20/\c34=uo n p o d t/\c6=c6/\c8=c8/\c10=c10/\c12=c12/\c14=c14/\c15=c15/\c16=c16/\c17=c17/\c5=c5/\c18=c18/\c56=k+Dk c1/\c55=c2/\1=1/\Dk xs=Dk xs/\True))):
  evM cWw (aCp n p o d t xs) 135 [.ptr 2 1 0 0,.dat I o,.dat I d,.dat I t] (mr n p k xs) (.dat I (uo n p o d t)) (mr n p (Ec k (Dk (Ia n p o d t))) (Ef xs (Ia n p o d t))) ⟨wu n p o d t k xs,isZero (je n p.2.2.1 o d t),um 39 (je n p.2.2.1 o d t)⟩:=oE hvc
theorem UN(o d t:Int)(k:Nat)(xs:Li)(n:Net)(p:Plan): af Tryz.prog G0 135 [.ptr 2 1 0 0,.dat I o,.dat I d,.dat I t] (mr n p k xs) ⟨wu n p o d t k xs/\isZero (je n p.2.2.1 o d t)=true,.dat I (uo n p o d t),mr n p (Ec k (Dk (Ia n p o d t))) (Ef xs (Ia n p o d t))⟩/\
  cU Tryz.prog G0 135 [.ptr 2 1 0 0,.dat I o,.dat I d,.dat I t] (mr n p k xs) ⟨wu n p o d t k xs,isZero (je n p.2.2.1 o d t),um 39 (je n p.2.2.1 o d t)⟩:=by
 refine cq (c:=cWw) Zi aL hm O5 (VK o d t k xs n p ⟨rfl,λhp=>?_⟩)
 obtain⟨hp,hp1,hk,hxl⟩:=hp;have eN:(n.1,n.2.1,n.2.2.1,n.2.2.2.1,n.2.2.2.2.1,n.2.2.2.2.2)=n:=rfl;have eC:∀c:Int×List Bool×Li,(c.1,c.2.1,c.2.2)=c:=λ_=>rfl
 have eX:∀l:Int,n.2.2.2.2.1.getD l.toNat (⟨#[]⟩,0,0,0,0,0)=o8 n l:=λ_=>rfl
 have eM:∀u:Int,(p.2.2.1.getD u.toNat []).getD d.toNat 0=nxt p.2.2.1 u d:=λ_=>rfl
 have eU:∀x b:Int,upR [x] b (([x]:Li).length:Int)=[x+b]:=λ_ _=>rfl
 simp only[qc,Dh,Es,Di,qd,Dt,Eb,Dy,Dp,Ei,Eh,Ed,Ew,Df,Et,Dl,Dn,Eo,Dz,Dw,Dj,Dq,Ee,Fe,Dc,Dx,Dk,Ec,Em,Du,Eu,Ez,En,Ef,Fg,Fj,Fh,Ep,Ej,Ey,Fb,eN,eC,eX,eM,eU];refine⟨by rw[qG];omega,⟨([],o,t),⟨hp,by simp,(G3 19 o t).symm⟩,rfl,rfl,rfl,by rw[hk];rfl,(wM _).symm⟩,?_⟩
 rintro⟨l,u,v⟩ hx;simp only;generalize hln:nxt p.2.2.1 u d=ln at *;obtain⟨⟨hs,ht,u0,u1,o0,o1,v0,v1⟩,hd,hw⟩:=hx;simp only at u0 u1 o0 o1 v0 v1 hd hw;have hno:noF n=true:=bu n.1 n.2.1 n.2.2.1 n.2.2.2.1 n.2.2.2.2.1 n.2.2.2.2.2 hs
 obtain⟨c1,c2,c3⟩:(p.2.2.1.length:Int)=n.2.2.2.1.length/\((p.2.2.1.getD u.toNat []).length:Int)=n.2.2.2.1.length/\(nxt p.2.2.1 u d≠-1->(0<=nxt p.2.2.1 u d/\nxt p.2.2.1 u d<n.2.2.2.2.1.length)/\cN n (nxt p.2.2.1 u d)=u):=fV n.1 n.2.1 n.2.2.1 n.2.2.2.1 n.2.2.2.2.1 n.2.2.2.2.2 ht u0 u1 o0 o1;rw[hln]at c3;have hoff:my n u:=⟨hno,u0,u1⟩;have hr:fB n u v:=⟨hoff,by omega,by omega⟩
 obtain⟨_,_,r1,r2⟩:inR .i64 ((b7 n u).2.2.2.2.1*(b7 n u).2.2.2.2.2.1)/\inR .i64 (aH n u v)/\v<=aH n u v/\aH n u v<=v+960:=sx n.1 n.2.1 n.2.2.1 n.2.2.2.1 n.2.2.2.2.1 n.2.2.2.2.2 hr;have hE:je n p.2.2.1 o d t=(AU l (kr n p.2.2.1 d (19-l.length) u v)).2:=by unfold je;rw[hw]
 have hL:uq n p.2.2.1 o d t=(AU l (kr n p.2.2.1 d (19-l.length) u v)).1:=by unfold uq;rw[hw]
 have herr:∀e:Int,e≠0->kr n p.2.2.1 d (19-l.length) u v=([],e)->je n p.2.2.1 o d t=e:=λe he h=>by rw[hE,h];unfold AU;rw[if_neg he]
 refine⟨λhne=>⟨u0,by rw[c1];exact u1,o0,by rw[c2];exact o1,λhm=>?_,λhm=>⟨hr,λhgt=>?_,λhle=>?_⟩⟩,λhe=>?_⟩
 .rw[herr 170 (by decide) (nu _ hne (hln.trans hm))]
  exact⟨rfl,rfl⟩
 .have e1:ry n ln (aH n u v)=1:=if_neg (by unfold dw;rw[qE];omega)
  rw[herr 1 (by decide) ((rG _ hne (by rw[hln];exact hm) (by rw[hln,e1];decide)).trans (by rw[hln,e1]))]
  exact⟨rfl,rfl⟩
 .obtain⟨⟨l0,l1⟩,lf⟩:=c3 hm;have hlin:Nu n ln:=⟨hno,l0,l1⟩;obtain⟨g1,g2,g3,g4,g5,g6,g7,g8⟩:0<=cN n ln/\cN n ln<n.2.2.2.1.length/\0<=Hl n ln/\Hl n ln<n.2.2.2.1.length/\0<=I8 n ln/\I8 n ln<=1439/\1<=iP n ln/\iP n ln<=5000:=Bq n.1 n.2.1 n.2.2.1 n.2.2.2.1 n.2.2.2.2.1 n.2.2.2.2.2 hlin;have htm:dw (aH n u v)=true:=by unfold dw;rw[qE];omega
  have eE:ry n ln (aH n u v)=mB (aB n u) (o8 n ln).2.2.2.1 (aH n u v):=by unfold ry;rw[if_pos htm,lf];rfl
  have eD:tN n ln (aH n u v)=iz (aB n u) (o8 n ln).2.2.2.1 (aH n u v):=by unfold tN;rw[if_pos htm,lf];rfl
  have hv:aw (aB n u).1 (aB n u).2.1 (aB n u).2.2=true:=(gq n.1 n.2.1 n.2.2.1 n.2.2.2.1 n.2.2.2.2.1 n.2.2.2.2.2 hoff).2.2.1;have g5':0<=(o8 n ln).2.2.2.1:=g5;have g6':(o8 n ln).2.2.2.1<=1439:=g6;have g7':1<=(o8 n ln).2.2.2.2.1:=g7;have g8':(o8 n ln).2.2.2.2.1<=5000:=g8;refine⟨l0,l1,hoff,⟨hv,by omega,by omega,by omega,by omega⟩,λhz=>?_,λhz=>⟨hz,λh20=>?_,λh20=>?_⟩⟩
  .have hz0:=fk.1 hz;rw[herr _ hz0 ((rG _ hne (by rw[hln];exact hm) (by rw[hln,eE];exact hz0)).trans (by rw[hln,eE]))]
   exact⟨hz,rfl⟩
  .have hz0:=cX.1 hz;rw[herr 170 (by decide) (by rw[show 19-l.length=0 by omega];exact rh hne (by rw[hln];exact hm) (by rw[hln,eE];exact hz0))]
   exact⟨rfl,rfl⟩
  .have hz0:=cX.1 hz;obtain⟨b1,b2⟩:=lH hv hz0 g5' g6';have hnx:=rf (n:=n) (nx:=p.2.2.1) (to:=d) (o:=u) (t:=v) (19-(l.length+1)) hne (by rw[hln];exact hm) (by rw[hln,eE];exact hz0)
   rw[show 19-(l.length+1)+1=19-l.length by omega,hln,eD]at hnx
   have lD:(o9 n p.1 l).length=l.length:=by unfold o9;rw[vV]
   generalize hq:iz (aB n u) (o8 n ln).2.2.2.1 (aH n u v)=q at *;have lA:o9 n p.1 (l++[(u,v,q,ln)])=o9 n p.1 l++[gY (aB n u).1 q+(2-p.1)]:=by unfold o9 aEq;rw[yY];rfl
   have dq:-1000000<=gY (aB n u).1 q/\gY (aB n u).1 q<=1000000:=by
    obtain⟨⟨z1,z2,_,_⟩,_⟩:=cF.1 hv;unfold gY;omega
   refine⟨⟨hv,by omega,by omega⟩,aM (by omega),⟨⟨by rw[qG],by rw[qG,lD];show _+1<=_;omega⟩,by omega,by omega,λx hx=>by rw[vG]at hx;omega⟩,by simp only[qG];omega,aM (by omega),aM (by omega),
    (l++[(u,v,q,ln)],Hl n ln,q+iP n ln),⟨⟨hs,ht,g3,g4,o0,o1,by simp only;omega,by simp only;omega⟩,by simp;omega,?_⟩,⟨rfl,rfl,by simp,by rw[lA];simp;omega,by rw[lA,wL]⟩,by simp;omega⟩
   show kr n p.2.2.1 d 19 o t=_;rw[hw,hnx,xF];simp
 .rw[Ge _ he]at hE hL;have hL':uq n p.2.2.1 o d t=l++[(u,v,-1,-1)]:=hL;have eG:Ia n p o d t=o9 n p.1 l:=by unfold Ia;rw[hL',List.dropLast_concat]
  have eT:uo n p o d t=v:=by unfold uo;rw[hL'];simp
  have hE':je n p.2.2.1 o d t=0:=hE;rw[hE',eG,eT];exact⟨rfl,rfl,by omega,rfl⟩
end Go.Eng.Sv
set_option maxRecDepth 100000
noncomputable section
namespace Go.Eng.Sv
open Go.Proofs
def Vp(c:Int×List Bool×Li)(m till:Int): Nat->Int->Li
 | 0,_=>[]
 | f+1,t=>if mB c m t=0 then if iz c m t<till then iz c m t::Vp c m till f (iz c m t+1)else[]else[]
def Vo(p:Plan): Nat:=(1440*(p.2.1-p.1)).toNat+1
def Pv(n:Net)(p:Plan)(c o:Int)(f:Nat)(t:Int): Li:=Vp (aB n o) (bI n c).2.1 (1440*p.2.1) f t
def kt(n:Net)(p:Plan)(c o:Int): Li:=Pv n p c o (Vo p) (1440*p.1)
def tQ(n:Net)(p:Plan)(c o:Int): Prop:=my n o/\CW n c/\mH p=true
def wc(n:Net)(p:Plan)(c o:Int)(x:Nat×Int): Prop:=(1440*p.1+x.1<=x.2/\x.2<=1440*p.2.1)/\x.1<=(kt n p c o).length/\(kt n p c o).drop x.1=Pv n p c o (Vo p-x.1) x.2
def aDC: AV->AV
 | .pin u a=>.pin u a
 | .yld l=>.yld l
 | _=>.top
def Zo(n:Net)(p:Plan)(c o:Int): F8:=⟨λid y=>match id with
 | 1=>some {α:=Nat×Int,inv:=λx=>wc n p c o x,st:=λx=>⟨put {y.s with tm:=y.s.tm.map aDC} [(5,.dat I x.2)],x.1,true⟩,μ:=λx=>Dc (Dj (Dq (Ee 1440 p.2.1) 1) x.2)}
 | _=>none,λ_ _=>none,λid=>id==2⟩
theorem PZ(c o:Int)(n:Net)(p:Plan)(hvc:
 let c6:=n.2.1;let c5:=p.2.1;let c4:=n.2.2.1;let c3:=p.2.2;let c1:=n.2.2.2;let c2:=1440*p.1;let c21:=(aB n o);let c22:=(Du c1.2.2 (Dc c) (ByteArray.mk #[],(0:Int),(0:Int))).2.1;let c23:=1440*c5;let c24:=kt n p c o;let c25:=Dk c24;let c26:=c23+1;true/\true/\false=false/\∀(l:Nat) (u:Nat->Value),tQ n p c o->inR .i64 c2/\(∃(x:Nat×Int),wc n p c o x/\(l=l/\u (0)=u (0)/\n.1=n.1/\c6=c6/\c4=c4/\c1.1=c1.1/\c1.2.1=c1.2.1/\c1.2.2=c1.2.2/\p.1=p.1/\c5=c5/\c3.1=c3.1/\c3.2=c3.2/\u (1)=u (1)/\o=o/\u (2)=u (2)/\c=c/\c2=x.2/\True)/\0=x.1/\true)/\∀(x:Nat×Int),let c27:=Dy (mB c21 c22 x.2) 0;let c28:=Di c27;let c7:=c28->c28->c28;let c29:=iz c21 c22 x.2;let c30:=Ea c27 true (Ed c29 c23);let c31:=Di c30;let c8:=Dh true c31->c31;let c32:=Ea c30 true (Di true);let c33:=x.1+(1);let c34:=c29+1;let c35:=Ea c30 true (Di false);
 wc n p c o x->my n o/\0<=c/\c<Df c1.2.2/\zu c21 c22 x.2/\c7/\c7/\c7/\c7/\c7/\(c28->inR .i64 c23)/\c7/\c7/\(Dh true c28->c28)/\(c31->(c31->c31)/\(c31->c31)/\u (0)=u (0)/\u (1)=u (1)/\u (2)=u (2)/\l=l/\true/\lF c24 x.1 c29/\(c8/\(c32->true->c33=c25)/\(c32=false->inR .i64 c34/\∃(y:Nat×Int),wc n p c o y/\((l=l/\u (0)=u (0)/\n.1=n.1/\c6=c6/\c4=c4/\c1.1=c1.1/\c1.2.1=c1.2.1/\c1.2.2=c1.2.2/\p.1=p.1/\c5=c5/\c3.1=c3.1/\c3.2=c3.2/\u (1)=u (1)/\o=o/\u (2)=u (2)/\c=c/\c34=y.2/\True)/\c33=y.1/\true)/\Dc (c26-y.2)<Dc (c26-x.2)))/\c8/\(c35->false->c33=c25)/\(c35=false->inR .i64 c34/\∃(y:Nat×Int),wc n p c o y/\(False/\c33=y.1/\false)/\Dc (c26-y.2)<Dc (c26-x.2)))/\(c31=false->(c31->c31->c31)/\c8/\(c35->true->x.1=c25)/\(c35=false->inR .i64 c34/\∃(y:Nat×Int),wc n p c o y/\((l=l/\u (0)=u (0)/\n.1=n.1/\c6=c6/\c4=c4/\c1.1=c1.1/\c1.2.1=c1.2.1/\c1.2.2=c1.2.2/\p.1=p.1/\c5=c5/\c3.1=c3.1/\c3.2=c3.2/\u (1)=u (1)/\o=o/\u (2)=u (2)/\c=c/\c34=y.2/\True)/\x.1=y.1/\true)/\Dc (c26-y.2)<Dc (c26-x.2)))):
  evL (mkc KW3) (Zo n p c o) 206 [.ipv (.ips (wHd n p .top)),.ip I o,.ip I c] ⟨tQ n p c o,I,kt n p c o⟩:=oE hvc
theorem WN(c o:Int)(n:Net)(p:Plan): F4 Tryz.prog G0 206 [.ipv (.ips (wHd n p .top)),.ip I o,.ip I c] ⟨tQ n p c o,I,kt n p c o⟩:=by
 refine ET (c:=mkc KW3) (A:=Zo n p c o) Zi aL hm (PZ c o n p ⟨rfl,rfl,rfl,λl u ⟨hoff,hcl,hR⟩=>?_⟩)
 have eN:(n.1,n.2.1,n.2.2.1,n.2.2.2.1,n.2.2.2.2.1,n.2.2.2.2.2)=n:=rfl;have eC:∀c:Int×List Bool×Li,(c.1,c.2.1,c.2.2)=c:=λ_=>rfl
 have eK:n.2.2.2.2.2.getD c.toNat (⟨#[]⟩,0,0)=bI n c:=rfl;have hR':0<=p.1/\p.1<p.2.1/\p.2.1<=600/\p.2.1-p.1<=60:=wJ hR;have hv:aw (aB n o).1 (aB n o).2.1 (aB n o).2.2=true:=(gq n.1 n.2.1 n.2.2.1 n.2.2.2.1 n.2.2.2.2.1 n.2.2.2.2.2 hoff).2.2.1;obtain⟨⟨m0,m1⟩,_⟩:=tY n.1 n.2.1 n.2.2.1 n.2.2.2.1 n.2.2.2.2.1 n.2.2.2.2.2 hoff.1 hcl;have m0:0<=(bI n c).2.1:=m0;have m1:(bI n c).2.1<=1439:=m1
 simp only[qc,Dh,Es,Di,qd,Dt,Eb,Dy,Dp,Ei,Eh,Ed,Ew,Df,Et,Dl,Dn,Eo,Dz,Dw,Dj,Dq,Ee,Fe,Dc,Dx,Dk,Ec,Em,Du,Eu,Ez,En,Ef,Fg,Fj,Fh,Ep,Ej,Ey,Fb,eN,eC,eK,zZ,yC,vT,xG,false_and,and_false,exists_false,imp_false,qCj,reduceCtorEq];obtain⟨q,hq⟩:∃q,q=1440*p.1:=⟨_,rfl⟩;obtain⟨r,hr⟩:∃r,r=1440*p.2.1:=⟨_,rfl⟩;refine⟨aM (by omega),⟨(0,1440*p.1),⟨⟨by simp only;omega,by simp only;omega⟩,wW _,rfl⟩,rfl,rfl⟩,?_⟩
 rintro⟨k,t⟩ ⟨⟨t0,t1⟩,k1,hk⟩;simp only at t0 t1 k1 hk ⊢;have hU:Vo p-k=(Vo p-(k+1))+1:=by unfold Vo;omega
 have hst:Pv n p c o (Vo p-k) t=if mB (aB n o) (bI n c).2.1 t=0 then if iz (aB n o) (bI n c).2.1 t<1440*p.2.1 then iz (aB n o) (bI n c).2.1 t::Pv n p c o (Vo p-(k+1)) (iz (aB n o) (bI n c).2.1 t+1)else[]else[]:=by rw[hU];rfl
 rw[hst]at hk;have hlen:∀{l:Li},(kt n p c o).drop k=l->(kt n p c o).length=k+l.length:=λh=>by
  have:=yA List.length h;rw[vZ]at this;omega
 refine⟨hoff,hcl.1,hcl.2,⟨hv,m0,by omega,by omega,by omega⟩,λ_=>aM (by omega),λ⟨h1,h2⟩=>?_,λh _=>?_⟩
 .have h2':iz (aB n o) (bI n c).2.1 t<1440*p.2.1:=by omega
  obtain⟨b1,b2⟩:=lH hv h1 m0 m1;rw[if_pos h1,if_pos h2']at hk;have hl:=hlen hk;rw[vW]at hl;refine⟨?_,λh=>absurd h (by omega),λ_=>⟨aM (by omega),(k+1,iz (aB n o) (bI n c).2.1 t+1),⟨⟨by simp only;omega,by simp only;omega⟩,by simp only;omega,?_⟩,⟨rfl,rfl⟩,by simp only;omega⟩⟩
  .show(kt n p c o)[k]?=some _;have:=yA (λl=>l[0]?) hk
   simpa[qY]using this
  .show(kt n p c o).drop (k+1)=_;have:=yA (List.drop 1) hk
   rwa [yH]at this
 .have:(kt n p c o).drop k=[]:=by
   rw[hk];by_cases h1:mB (aB n o) (bI n c).2.1 t=0
   .rw[if_pos h1,if_neg (by omega)]
   .rw[if_neg h1]
  have hl:=hlen this;rw[yP]at hl;omega
theorem On{n:Net}{p:Plan}{c o:Int}(h:tQ n p c o): (kt n p c o).length<=86401:=by
 have hR:0<=p.1/\p.1<p.2.1/\p.2.1<=600/\p.2.1-p.1<=60:=wJ h.2.2;have:∀(f:Nat) (t:Int),(Pv n p c o f t).length<=f:=λf=>by
  induction f with
  | zero=>intro t;exact qJ _
  | succ f ih=>
   intro t;have e:Pv n p c o (f+1) t=if mB (aB n o) (bI n c).2.1 t=0 then if iz (aB n o) (bI n c).2.1 t<1440*p.2.1 then iz (aB n o) (bI n c).2.1 t::Pv n p c o f (iz (aB n o) (bI n c).2.1 t+1)else[]else[]:=rfl
   rw[e];split
   .split
    .rw[vW];exact qBy (ih _)
    .exact wW _
   .exact wW _
 refine wF (this _ _) ?_;unfold Vo;omega
theorem Om{n:Net}{p:Plan}{c o x:Int}(h:tQ n p c o)(hx:x∈kt n p c o): 1440*p.1<=x/\x<1440*p.2.1:=by
 have hv:aw (aB n o).1 (aB n o).2.1 (aB n o).2.2=true:=(gq n.1 n.2.1 n.2.2.1 n.2.2.2.1 n.2.2.2.2.1 n.2.2.2.2.2 h.1).2.2.1;obtain⟨⟨m0,m1⟩,_⟩:=tY n.1 n.2.1 n.2.2.1 n.2.2.2.1 n.2.2.2.2.1 n.2.2.2.2.2 h.1.1 h.2.1;have m0:0<=(bI n c).2.1:=m0;have m1:(bI n c).2.1<=1439:=m1;have:∀(f:Nat) (t:Int),x∈Pv n p c o f t->t<=x/\x<1440*p.2.1:=λf=>by
  induction f with
  | zero=>intro t h;cases h
  | succ f ih=>
   intro t h;have e:Pv n p c o (f+1) t=if mB (aB n o) (bI n c).2.1 t=0 then if iz (aB n o) (bI n c).2.1 t<1440*p.2.1 then iz (aB n o) (bI n c).2.1 t::Pv n p c o f (iz (aB n o) (bI n c).2.1 t+1)else[]else[]:=rfl
   rw[e]at h;split at h
   .rename_i he;obtain⟨b1,b2⟩:=lH hv he m0 m1;split at h
    .rcases zL.1 h with rfl | h
     .exact⟨b1,by assumption⟩
     .have:=ih _ h;omega
    .cases h
   .cases h
 exact this _ _ hx
end Go.Eng.Sv
set_option maxRecDepth 100000
noncomputable section
namespace Go.Eng.Sv
open Go.Proofs
def lL(p:Plan)(k o d:Int): Int:=((p.2.2.2.getD k.toNat []).getD o.toNat []).getD d.toNat 0
def aEo(n:Net)(p:Plan)(o d cut:Int): Int:=aH n d (uo n p o d cut)
def aEu(n:Net)(p:Plan)(c o d cut:Int): Int:=iz (aB n d) (bI n c).2.2 (aEo n p o d cut)
def FD(n:Net)(p:Plan)(c o d cut:Int): Int:=mB (aB n d) (bI n c).2.2 (aEo n p o d cut)
def Vq(n:Net)(p:Plan)(c o d cut:Int): Int:=ot (aB n d).2.1 (aB n d).2.2 (gY (aB n d).1 cut) (gY (aB n d).1 (aEu n p c o d cut))
def CV(n:Net)(p:Plan)(c o d cut:Int): Int:=if je n p.2.2.1 o d cut≠0 then je n p.2.2.1 o d cut else if FD n p c o d cut≠0 then FD n p c o d cut else if Vq n p c o d cut>lL p c o d then 190 else 0
def HB(l:Li): Int:=(l.find? λe=>decide (e≠0)).getD 0
def iH(n:Net)(p:Plan)(c o d:Int): Int:=HB ((kt n p c o).map (CV n p c o d))
def m3(n:Net)(p:Plan)(c o d:Int)(j:Nat): Li:=((kt n p c o).take j).flatMap (Ia n p o d)
def keepA(n:Net)(p:Plan)(c o d:Int): Li:=m3 n p c o d (kt n p c o).length
def qw(n:Net)(p:Plan): Prop:=bj n=true/\fG n p=true
def mK(n:Net)(p:Plan)(c o d:Int)(k:Nat)(xs:Li): Prop:=(qw n p/\CW n c/\my n o/\my n d)/\xs.length=k/\xs.length<=900000000000
def qa(n:Net)(p:Plan)(c o d:Int)(k:Nat)(xs:Li)(j:Nat): Prop:=mK n p c o d k xs/\j<=(kt n p c o).length/\∀i:Nat,i<j->CV n p c o d ((kt n p c o).getD i 0)=0
def KIW: FuncId->List AV->Option i9:=λf caps=>if f=206+uB then match caps with
  | [.ipv x,.ip (.int .i64) o,.ip (.int .i64) c]=>match asI x with
   | some (n,p)=>some ⟨tQ n p c o,I,kt n p c o⟩
   | none=>none
  | _=>none
 else none
def KW6: Kt:=kOr 135 (wK [.mp 2,.val I,.val I,.val I] (λ(_,o,d,t,_) n p k xs=>wu n p o d t k xs/\isZero (je n p.2.2.1 o d t)=true) (λ(_,o,d,t,_) n p=>.dat I (uo n p o d t)) λ(_,o,d,t,_) n p=>Ia n p o d t) KW4
def aEb: KPt:=pOr 135 (wP [.mp 2,.val I,.val I,.val I] λ(_,o,d,t,_) n p k xs=>⟨wu n p o d t k xs,isZero (je n p.2.2.1 o d t),um 39 (je n p.2.2.1 o d t)⟩) aEc
noncomputable def aBn: Cfg:=⟨Tryz.prog,G0,KW6,λ_=>false,KIW,true,aEb,λf=>f==137||f==135⟩
def Zm(n:Net)(p:Plan)(c o d:Int)(k:Nat)(xs:Li): Ann:=⟨λid s=>match id with
 | 2=>some {α:=Nat,inv:=λj=>qa n p c o d k xs j,st:=λj=>{flat s with mem:=mr n p (Ec (Dk xs) (Dk (m3 n p c o d j))) (Ef xs (m3 n p c o d j))},μ:=λj=>j}
 | _=>none,λ_ _=>none,λ_ _=>none⟩
theorem PU (c o d : Int) (k : Nat) (xs : Li) (n : Net) (p : Plan) (hvc :
 let c1 := keepA n p c o d;
 let c2 := Ef xs c1;
 let c3 := n.fst;
 let c4 := n.snd;
 let c5 := c4.fst;
 let c6 := c4.snd;
 let c7 := c6.fst;
 let c8 := c6.snd;
 let c9 := c8.fst;
 let c10 := c8.snd;
 let c11 := c10.fst;
 let c12 := c10.snd;
 let c13 := p.fst;
 let c14 := p.snd;
 let c15 := c14.fst;
 let c16 := c14.snd;
 let c17 := c16.fst;
 let c18 := c16.snd;
 let c19 := (c3, c5, c7, c9, c11, c12);
 let c20 := (c13, c15, c17, c18);
 let c21 := kt c19 c20 c o;
 let c22 := iH n p c o d;
 let c23 := isZero c22;
 let c24 := chainOf (Value.iface (39) (Value.int IntKind.i64 c22));
 let c25 := aB c19 d;
 let c26 := c25.fst;
 let c27 := c25.snd;
 let c28 := c27.fst;
 let c29 := c27.snd;
 let c30 := (c26, c28, c29);
 let c31 := (Du c12 (Dc c) (ByteArray.mk (Dt UInt8).toArray, (0 : Int), (0 : Int))).snd.snd;
 let c32 := Du c18 (Dc c) (Dt (Li));
 let c33 := Du c32 (Dc o) (Dt Int); true = true ∧ (mK n p c o d k xs → 1 = 1 ∧ Dz (Dk xs) (Dk c2) ∧ True ∧ true = true ∧ (∀ (x : Nat),
  qa n p c o d k xs x → some [(AV.ips [AV.dat ((Ty.int IntKind.i64).pair (Ty.bool.sl.pair (Ty.int IntKind.i64).sl)).sl c3, AV.dat Ty.str.sl c5, AV.dat
  Ty.str.sl c7, AV.dat (Ty.str.pair ((Ty.int IntKind.i64).pair ((Ty.int IntKind.i64).pair ((Ty.int IntKind.i64).pair ((Ty.int IntKind.i64).pair ((Ty.int
  IntKind.i64).pair Ty.str.sl)))))).sl c9, AV.dat (Ty.str.pair ((Ty.int IntKind.i64).pair ((Ty.int IntKind.i64).pair ((Ty.int IntKind.i64).pair ((Ty.int
  IntKind.i64).pair (Ty.int IntKind.i64)))))).sl c11, AV.dat (Ty.str.pair ((Ty.int IntKind.i64).pair (Ty.int IntKind.i64))).sl c12, AV.dat (Ty.int IntKind.i64)
  c13, AV.dat (Ty.int IntKind.i64) c15, AV.dat (Ty.int IntKind.i64).sl.sl c17, AV.dat (Ty.int IntKind.i64).sl.sl.sl c18, AV.top]).ipv, AV.ip (Ty.int IntKind.i64)
  o, AV.ip (Ty.int IntKind.i64) c] = some [(AV.ips [AV.dat ((Ty.int IntKind.i64).pair (Ty.bool.sl.pair (Ty.int IntKind.i64).sl)).sl c3, AV.dat Ty.str.sl c5,
  AV.dat Ty.str.sl c7, AV.dat (Ty.str.pair ((Ty.int IntKind.i64).pair ((Ty.int IntKind.i64).pair ((Ty.int IntKind.i64).pair ((Ty.int IntKind.i64).pair ((Ty.int
  IntKind.i64).pair Ty.str.sl)))))).sl c9, AV.dat (Ty.str.pair ((Ty.int IntKind.i64).pair ((Ty.int IntKind.i64).pair ((Ty.int IntKind.i64).pair ((Ty.int
  IntKind.i64).pair (Ty.int IntKind.i64)))))).sl c11, AV.dat (Ty.str.pair ((Ty.int IntKind.i64).pair (Ty.int IntKind.i64))).sl c12, AV.dat (Ty.int IntKind.i64)
  c13, AV.dat (Ty.int IntKind.i64) c15, AV.dat (Ty.int IntKind.i64).sl.sl c17, AV.dat (Ty.int IntKind.i64).sl.sl.sl c18, AV.top]).ipv, AV.ip (Ty.int IntKind.i64)
  o, AV.ip (Ty.int IntKind.i64) c]) ∧ tQ c19 c20 c o ∧ (∃ x,
 let c34 := m3 n p c o d x; qa n p c o d k xs x ∧ x = 0 ∧ 1 = 1 ∧ 0 = 0 ∧ 0 = 0 ∧ c = c ∧ o = o ∧ d = d ∧ 1 = 1 ∧ 0 = 0 ∧ 0 = 0 ∧ c = c ∧ o = o ∧ d = d ∧
  1 = 1 ∧ 0 = 0 ∧ 0 = 0 ∧ c = c ∧ o = o ∧ 1 = 1 ∧ 0 = 0 ∧ 0 = 0 ∧ o = o ∧ c = c ∧ c3 = c3 ∧ c5 = c5 ∧ c7 = c7 ∧ c9 = c9 ∧ c11 = c11 ∧ c12 = c12 ∧ c13 = c13 ∧ c15
  = c15 ∧ c17 = c17 ∧ c18 = c18 ∧ k = Ec (Dk xs) (Dk c34) ∧ xs = Ef xs c34 ∧ 1 = 1 ∧ Dk xs = Dk xs ∧ True) ∧ (∀ (x : Nat),
 let c35 := m3 n p c o d x;
 let c36 := Ec (Dk xs) (Dk c35);
 let c37 := Ef xs c35; ∀ (y : Int),
 let c38 := je c19 c17 o d y;
 let c39 := isZero c38;
 let c40 := Ia c19 c20 o d y;
 let c41 := Ef c37 c40;
 let c42 := uo c19 c20 o d y;
 let c43 := aH c19 d c42;
 let c44 := mB c30 c31 c43;
 let c45 := isZero c44;
 let c46 := iz c30 c31 c43;
 let c47 := gY c26 c46;
 let c48 := Ei (ot c28 c29 (gY c26 y) c47) (Du c33 (Dc d) (0 : Int)); qa n p c o d k xs x → lF c21 x y → (true = true → wu c19 c20 o d y
  c36 c37 ∧ (c39 = false → c23 = false ∧ true = true ∧ chainOf (Value.iface (39) (Value.int IntKind.i64 c38)) = c24)) ∧ ((true = true → c39 = true) → (wu c19
  c20 o d y c36 c37 ∧ c39 = true) ∧ 1 = 1 ∧ Dz (Dk c37) (Dk c41) ∧ my c19 d ∧ 1 = 1 ∧ 0 = 0 ∧ 1 = 1 ∧ 0 = 0 ∧ 1 = 1 ∧ 1 = 1 ∧ 1 = 1 ∧ 1 = 1 ∧ 0 = 0 ∧
  Dl (0 : Int) c ∧ Dn c (Df c12) ∧ fB c19 d c42 ∧ zu c30 c31 c43 ∧ True ∧ (c45 = true → 1 = 1 ∧ 0 = 0 ∧ 1 = 1 ∧ 1 = 1 ∧ 1 = 1 ∧ 1 = 1 ∧ 0 = 0 ∧
  Dl (0 : Int) c ∧ Dn c (Df c12) ∧ fB c19 d c42 ∧ zu c30 c31 c43 ∧ (True ∧ c45 = true) ∧ 1 = 1 ∧ 0 = 0 ∧ ga c26 c28 c29 y ∧ 1 = 1 ∧ 0 = 0 ∧
  ga c26 c28 c29 c46 ∧ 1 = 1 ∧ 0 = 0 ∧ countP c26 c28 c29 (gY c26 y) c47 ∧ 1 = 1 ∧ 1 = 1 ∧ 1 = 1 ∧ 1 = 1 ∧ 0 = 0 ∧ Dl (0 : Int) c ∧ Dn c (Df
  c18) ∧ Dl (0 : Int) o ∧ Dn o (Df c32) ∧ Dl (0 : Int) d ∧ Dn d (Df c33) ∧ (c48 = true → (true = true → True ∧ (false = false → c23 = false ∧
  true = true ∧ chainOf (Value.iface (39) (Value.int IntKind.i64 (190 : Int))) = c24)) ∧ True) ∧ (c48 = false → ∃ z,
 let c49 := m3 n p c o d z; qa n p c o d k xs z ∧ z = Ec x (1) ∧ 1 = 1 ∧ 0 = 0 ∧ 0 = 0 ∧ c = c ∧ o = o ∧ d = d ∧ 1 = 1 ∧ 0 = 0 ∧ 0 = 0 ∧ c = c ∧ o = o
  ∧ d = d ∧ 1 = 1 ∧ 0 = 0 ∧ 0 = 0 ∧ c = c ∧ o = o ∧ 1 = 1 ∧ 0 = 0 ∧ 0 = 0 ∧ o = o ∧ c = c ∧ c3 = c3 ∧ c5 = c5 ∧ c7 = c7 ∧ c9 = c9 ∧ c11 = c11 ∧ c12 = c12 ∧ c13 =
  c13 ∧ c15 = c15 ∧ c17 = c17 ∧ c18 = c18 ∧ Ec c36 (Dk c40) = Ec (Dk xs) (Dk c49) ∧ c41 = Ef xs c49 ∧ 1 = 1 ∧ Dk xs = Dk xs ∧ True)) ∧
  (c45 = false → c23 = false ∧ true = true ∧ chainOf (Value.iface (39) (Value.int IntKind.i64 c44)) = c24))) ∧ ∀ (x : Nat),
 let c50 := m3 n p c o d x; qa n p c o d k xs x → x = Dk c21 → c23 = true ∧ c3 = c3 ∧ c5 = c5 ∧ c7 = c7 ∧ c9 = c9 ∧ c11 = c11 ∧ c12 = c12 ∧ c13 = c13 ∧
  c15 = c15 ∧ c17 = c17 ∧ c18 = c18 ∧ Ec (Dk xs) (Dk c50) = Ec k (Dk c1) ∧ Ef xs c50 = c2 ∧ 1 = 1 ∧ Dk xs = Dk xs ∧ True)) :
    evM aBn (Zm n p c o d k xs) 68 [.ptr 2 1 0 0, .dat I c, .dat I o, .dat I d] (mr n p k xs) (.tup []) (mr n p (Ec k (Dk (keepA n p c o d))) (Ef xs (keepA n p c o d))) ⟨mK n p c o d k xs, isZero (iH n p c o d), um 39 (iH n p c o d)⟩ := oE hvc
theorem yp{l:Li}{j:Nat}(hj:j<l.length)(h0:∀i:Nat,i<j->l.getD i 0=0)(h1:l.getD j 0≠0): HB l=l.getD j 0:=by
 induction l generalizing j with
 | nil=>simp at hj
 | cons x l ih=>
  unfold HB;rw[qBg];cases j with
  | zero=>
   have:x≠0:=h1;rw[vF this];rfl
  | succ j=>
   have hx:x=0:=h0 0 (by omega)
   rw[vK (by rw[hx];decide)]
   exact ih (by simpa using hj) (λi hi=>by simpa using h0 (i+1) (by omega)) (by simpa using h1)
theorem tH{l:Li}(h:∀i:Nat,i<l.length->l.getD i 0=0): HB l=0:=by
 unfold HB;have:l.find? (λe=>decide (e≠0))=none:=by
  rw[qBn];intro x hx;obtain⟨i,hi,rfl⟩:=wY.1 hx;have:=h i hi;rw[qA,qB hi,qQ]at this;simp[this]
 rw[this];rfl
theorem mg{l:Li}(h:HB l=0): ∀x∈l,x=0:=by
 intro x hx;obtain⟨i,hi,rfl⟩:=wY.1 hx;induction i using Nat.strongRecOn with
 | ind i ih=>
  have e:∀j (hj:j<l.length),l.getD j 0=l[j]:=λj hj=>by rw[qA,qB hj,qQ]
  rw[<- e i hi];refine Decidable.byContradiction λhne=>?_
  have:=yp hi (λj hj=>by rw[e j (by omega)];exact ih j hj (by omega) (wQ _)) hne
  exact hne (this.symm.trans h)
theorem gX{n:Net}{p:Plan}(h:fG n p=true): mH p=true/\mQ n p.2.2.1=true/\pw n p=true:=by
 unfold fG at h;simpa only[qC]using h
theorem Oj{n:Net}{p:Plan}(h:pw n p=true){c o d:Int}(hc:CW n c)(o0:0<=o)(o1:o<n.2.2.2.1.length)(d0:0<=d)(d1:d<n.2.2.2.1.length):
  (c<p.2.2.2.length/\o<(p.2.2.2.getD c.toNat []).length/\d<((p.2.2.2.getD c.toNat []).getD o.toNat []).length)/\-1<=lL p c o d/\lL p c o d<=65518:=by
 obtain⟨c0,c1⟩:=hc;unfold pw at h;simp only[qC,qE,qN]at h;obtain⟨h1,h2⟩:=h;have h3:=h2 _ (getD_mem (l:=p.2.2.2) (i:=c.toNat) (d:=[]) (by omega))
 have h4:((p.2.2.2.getD c.toNat []).length:Int)=n.2.2.2.1.length:=by
  unfold sgF at h3;simp only[qC,qE]at h3;exact h3.1
 have h5:=(Av h4).1 h3 o.toNat (by omega)
 have h6:(((p.2.2.2.getD c.toNat []).getD o.toNat []).length:Int)=n.2.2.2.1.length:=by
  unfold sgR at h5;simp only[qC,qE]at h5;exact h5.1
 have h7:gj ((o.toNat:Nat):Int) (lL p c o d)=true:=(DC h6).1 h5 d.toNat (by omega)
 unfold gj tO at h7;rw[qE]at h7;exact⟨⟨by omega,by omega,by omega⟩,h7⟩
theorem CZ{n:Net}{nx:Lj}{to:Int}: ∀(k:Nat) (o t:Int),Gk n nx o to t->(kr n nx to k o t).2=0->
  (kr n nx to k o t).1.length<=k+1/\(kr n nx to k o t).1≠[]/\t<=((kr n nx to k o t).1.getLastD (0,0,0,0)).2.1/\((kr n nx to k o t).1.getLastD (0,0,0,0)).2.1<=2200000
 | k,o,t,hp,h=>by
  obtain⟨hs,ht,u0,u1,o0,o1,v0,v1⟩:=id hp;by_cases he:o=to
  .rw[Ge k he];exact⟨by simp,by simp,qL _,v1⟩
  by_cases hm:nxt nx o to=-1
  .rw[nu k he hm]at h;cases h
  by_cases h6:ry n (nxt nx o to) (aH n o t)=0
  case neg=>rw[rG k he hm h6]at h;exact absurd h h6
  cases k with
  | zero=>rw[rh he hm h6]at h;cases h
  | succ k=>
   have hno:noF n=true:=bu n.1 n.2.1 n.2.2.1 n.2.2.2.1 n.2.2.2.2.1 n.2.2.2.2.2 hs;obtain⟨_,_,c3⟩:(nx.length:Int)=n.2.2.2.1.length/\((nx.getD o.toNat []).length:Int)=n.2.2.2.1.length/\(nxt nx o to≠-1->(0<=nxt nx o to/\nxt nx o to<n.2.2.2.2.1.length)/\cN n (nxt nx o to)=o):=fV n.1 n.2.1 n.2.2.1 n.2.2.2.1 n.2.2.2.2.1 n.2.2.2.2.2 ht u0 u1 o0 o1;obtain⟨⟨l0,l1⟩,lf⟩:=c3 hm
   have hlin:Nu n (nxt nx o to):=⟨hno,l0,l1⟩;obtain⟨g1,g2,g3,g4,g5,g6,g7,g8⟩:0<=cN n (nxt nx o to)/\cN n (nxt nx o to)<n.2.2.2.1.length/\0<=Hl n (nxt nx o to)/\Hl n (nxt nx o to)<n.2.2.2.1.length/\0<=I8 n (nxt nx o to)/\I8 n (nxt nx o to)<=1439/\1<=iP n (nxt nx o to)/\iP n (nxt nx o to)<=5000:=Bq n.1 n.2.1 n.2.2.1 n.2.2.2.1 n.2.2.2.2.1 n.2.2.2.2.2 hlin
   obtain⟨b1,b2,b3,b4⟩:0<=aH n o t/\aH n o t<=2000000/\aH n o t<=tN n (nxt nx o to) (aH n o t)/\tN n (nxt nx o to) (aH n o t)<=aH n o t+90000:=v8 n.1 n.2.1 n.2.2.1 n.2.2.2.1 n.2.2.2.2.1 n.2.2.2.2.2 hlin h6
   obtain⟨_,_,r1,r2⟩:inR .i64 ((b7 n o).2.2.2.2.1*(b7 n o).2.2.2.2.2.1)/\inR .i64 (aH n o t)/\t<=aH n o t/\aH n o t<=t+960:=sx n.1 n.2.1 n.2.2.1 n.2.2.2.1 n.2.2.2.2.1 n.2.2.2.2.2 ⟨⟨hno,u0,u1⟩,by omega,by omega⟩
   rw[rf k he hm h6]at h ⊢;by_cases h7:(kr n nx to k (Hl n (nxt nx o to)) (tN n (nxt nx o to) (aH n o t)+iP n (nxt nx o to))).2=0
   case neg=>rw[G4 h7]at h;exact absurd h h7
   obtain⟨i1,i2,i3,i4⟩:=CZ k _ _ ⟨hs,ht,g3,g4,o0,o1,by omega,by omega⟩ h7
   rw[XT h7];refine⟨by simp;omega,by simp,?_,?_⟩
   .show t<=(([_]++(kr n nx to k _ _).1).getLastD (0,0,0,0)).2.1;rw[List.singleton_append,List.getLastD_cons,kF,kQ i2];rw[kF,kQ i2]at i3;simp only[qQ]at i3 ⊢;omega
   .show(([_]++(kr n nx to k _ _).1).getLastD (0,0,0,0)).2.1<=_;rw[List.singleton_append,List.getLastD_cons,kF,kQ i2];rw[kF,kQ i2]at i4;exact i4
theorem Gq{n:Net}{p:Plan}{o d t:Int}(hp:Gk n p.2.2.1 o d t)(h:je n p.2.2.1 o d t=0): (Ia n p o d t).length<=19/\t<=uo n p o d t/\uo n p o d t<=2200000:=by
 obtain⟨h1,_,h3,h4⟩:=CZ 19 o t hp h;refine⟨?_,h3,h4⟩;unfold Ia o9;rw[vV,List.length_dropLast];show(kr n p.2.2.1 d 19 o t).1.length-1<=19;omega
theorem Ol{n:Net}{p:Plan}{c o d x:Int}(hp:qw n p)(hc:tQ n p c o)(hd:my n d)(hx:x∈kt n p c o): Gk n p.2.2.1 o d x:=by
 obtain⟨b1,b2⟩:=Om hc hx;have hR:0<=p.1/\p.1<p.2.1/\p.2.1<=600/\p.2.1-p.1<=60:=wJ hc.2.2;exact⟨hp.1,(gX hp.2).2.1,hc.1.2.1,hc.1.2.2,hd.2.1,hd.2.2,by omega,by omega⟩
theorem TR{n:Net}{p:Plan}{c o d x:Int}(h:CV n p c o d x=0): je n p.2.2.1 o d x=0/\FD n p c o d x=0/\Vq n p c o d x<=lL p c o d:=by
 unfold CV at h;by_cases h1:je n p.2.2.1 o d x=0
 .rw[if_neg (λg=>g h1)]at h
  by_cases h2:FD n p c o d x=0
  .rw[if_neg (λg=>g h2)]at h
   split at h
   .cases h
   .exact⟨h1,h2,by omega⟩
  .rw[if_pos h2]at h;exact absurd h h2
 .rw[if_pos h1]at h;exact absurd h h1
theorem tj{n:Net}{p:Plan}{c o d:Int}{k:Nat}{xs:Li}: ∀{j:Nat},qa n p c o d k xs j->(m3 n p c o d j).length<=19*j
 | 0,_=>by unfold m3;simp
 | j+1,⟨hp,hj,h0⟩=>by
  have ih:=tj (j:=j) ⟨hp,by omega,λi hi=>h0 i (by omega)⟩
  have hc:tQ n p c o:=⟨hp.1.2.2.1,hp.1.2.1,(gX hp.1.1.2).1⟩;have hm:(kt n p c o).getD j 0∈kt n p c o:=getD_mem (by omega)
  have:=(Gq (Ol hp.1.1 hc hp.1.2.2.2 hm) (TR (h0 j (by omega))).1).1
  unfold m3 at ih ⊢;rw[wX,qAg,qG,qB (show j<(kt n p c o).length by omega)]
  rw[qA,qB (show j<(kt n p c o).length by omega),qQ]at this
  simp only[qBk,qAa,qCz,wM];omega
theorem aFj: aj Tryz.prog G0 KW6:=ai (PK λ(_,o,d,t,_) n p k xs=>(UN o d t k xs n p).1) aCh
theorem O4: bL Tryz.prog G0 aEb:=ik (Zr λ(_,o,d,t,_) n p k xs=>(UN o d t k xs n p).2) O5
theorem YZ{P:Program}{G:List (Nat×AV)}{g N:Nat}{caps:List AV}{it:i9}(h:F4 P G g caps it): if g+N<N then mC P G (g+N) caps it else F4 P G (g+N-N) caps it:=by
 rw[if_neg (by omega),Nat.add_sub_cancel];exact h
theorem aBI: br Tryz.prog G0 KIW:=by
 unfold br KIW;generalize uB=N;intro f caps it h;split at h
 case isFalse=>cases h
 rename_i hf;split at h
 case h_2=>cases h
 rename_i x o c;split at h
 case h_2=>cases h
 rename_i n p hx;cases h;subst hf;rw[Vv hx];exact YZ (WN c o n p)
theorem Lm (c o d : Int) (k : Nat) (xs : Li) (n : Net) (p : Plan) : af Tryz.prog G0 68 [.ptr 2 1 0 0, .dat I c, .dat I o, .dat I d] (mr n p k xs) ⟨mK n p c o d k xs ∧ isZero (iH n p c o d) = true, .tup [], mr n p (Ec k (Dk (keepA n p c o d))) (Ef xs (keepA n p c o d))⟩ ∧
    cU Tryz.prog G0 68 [.ptr 2 1 0 0, .dat I c, .dat I o, .dat I d] (mr n p k xs) ⟨mK n p c o d k xs, isZero (iH n p c o d), um 39 (iH n p c o d)⟩ := by
  refine cq (c := aBn) aFj aBI hm O4 (PU c o d k xs n p ⟨rfl, fun hp => ?_⟩)
  have eN : (n.1, n.2.1, n.2.2.1, n.2.2.2.1, n.2.2.2.2.1, n.2.2.2.2.2) = n := rfl
  have eP : (p.1, p.2.1, p.2.2.1, p.2.2.2) = p := rfl
  have eC : ∀ c : Int × List Bool × Li, (c.1, c.2.1, c.2.2) = c := fun _ => rfl
  have eK : n.2.2.2.2.2.getD c.toNat (⟨#[]⟩, 0, 0) = bI n c := rfl
  have eA : ((p.2.2.2.getD c.toNat []).getD o.toNat []).getD d.toNat 0 = lL p c o d := rfl
  simp only [qc, Dh, Es, Di, qd, Dt, Eb, Dy, Dp, Ei, Eh, Ed, Ew, Df, Et, Dl, Dn, Eo, Dz, Dw, Dj, Dq, Ee, Fe, Dc, Dx, Dk, Ec, Em, Du, Eu, Ez, En, Ef, Fg, Fj, Fh, Ep, Ej, Ey, Fb, eN, eP, eC, eK, eA]
  obtain ⟨⟨hpl, hcl, ho, hd⟩, hk, hxl⟩ := id hp
  obtain ⟨hR, hT, hDy⟩ := gX hpl.2
  have hc : tQ n p c o := ⟨ho, hcl, hR⟩
  have hR' : 0 ≤ p.1 ∧ p.1 < p.2.1 ∧ p.2.1 ≤ 600 ∧ p.2.1 - p.1 ≤ 60 := wJ hR
  have hlen := On hc
  have hv : aw (aB n d).1 (aB n d).2.1 (aB n d).2.2 = true := (gq n.1 n.2.1 n.2.2.1 n.2.2.2.1 n.2.2.2.2.1 n.2.2.2.2.2 hd).2.2.1
  obtain ⟨⟨z1, z2, _, _⟩, _⟩ := cF.1 hv
  obtain ⟨_, ⟨m0, m1⟩⟩ := tY n.1 n.2.1 n.2.2.1 n.2.2.2.1 n.2.2.2.2.1 n.2.2.2.2.2 hd.1 hcl
  have m0 : 0 ≤ (bI n c).2.2 := m0
  have m1 : (bI n c).2.2 ≤ 1439 := m1
  obtain ⟨⟨q1, q2, q3⟩, q4⟩ := Oj hDy hcl ho.2.1 ho.2.2 hd.2.1 hd.2.2
  have kE : ∀ (x : Nat), qa n p c o d k xs x → x < (kt n p c o).length → CV n p c o d ((kt n p c o).getD x 0) ≠ 0 → iH n p c o d = CV n p c o d ((kt n p c o).getD x 0) := fun x hx hl hne => by
    have eg : ∀ i : Nat, i < (kt n p c o).length → ((kt n p c o).map (CV n p c o d)).getD i 0 = CV n p c o d ((kt n p c o).getD i 0) := fun i hi => by
      rw [qA, qP, qA, qB hi]; rfl
    unfold iH
    rw [yp (j := x) (by rw [vV]; exact hl) (fun i hi => by rw [eg i (by omega)]; exact hx.2.2 i hi) (by rw [eg x hl]; exact hne), eg x hl]
  refine ⟨by rw [qG]; omega, hc, ⟨0, ⟨hp, wW _, fun i hi => by omega⟩, rfl, by rw [hk]; rfl, (wM _).symm⟩, fun x y hx hy => ?_, fun x hx hl => ?_⟩
  · have hy : (kt n p c o)[x]? = some y := hy
    have hxl2 : x < (kt n p c o).length := (qF.1 hy).1
    have ey : (kt n p c o).getD x 0 = y := by rw [qA, hy]; rfl
    have hym : y ∈ kt n p c o := zH hy
    have kE := kE x hx hxl2
    rw [ey] at kE
    obtain ⟨y0, y1⟩ := Om hc hym
    have hgl := tj hx
    have hwP := Ol hpl hc hd hym
    have hW : wu n p o d y (xs.length + (m3 n p c o d x).length) (xs ++ m3 n p c o d x) := ⟨hwP, ⟨by omega, by omega⟩, by rw [qG], by rw [qG]; omega⟩
    refine ⟨⟨hW, fun hz => ?_⟩, fun hz => ?_⟩
    · have hz0 := fk.1 hz
      have e : CV n p c o d y = je n p.2.2.1 o d y := if_pos hz0
      rw [kE (by rw [e]; exact hz0), e]
      exact ⟨hz, rfl⟩
    · have hz0 := cX.1 hz
      obtain ⟨_, w1, w2⟩ := Gq hwP hz0
      have hr : fB n d (uo n p o d y) := ⟨hd, by omega, by omega⟩
      obtain ⟨_, _, r1, r2⟩ : inR .i64 ((b7 n d).2.2.2.2.1 * (b7 n d).2.2.2.2.2.1) ∧ inR .i64 (aH n d (uo n p o d y)) ∧ uo n p o d y ≤ aH n d (uo n p o d y) ∧ aH n d (uo n p o d y) ≤ uo n p o d y + 960 := sx n.1 n.2.1 n.2.2.1 n.2.2.2.1 n.2.2.2.2.1 n.2.2.2.2.2 hr
      have hf : zu (aB n d) (bI n c).2.2 (aH n d (uo n p o d y)) := ⟨hv, m0, by omega, by omega, by omega⟩
      refine ⟨⟨hW, hz⟩, by simp only [qG]; omega, hd, hcl.1, hcl.2, hr, hf, fun h0 => ?_, fun h0 => ?_⟩
      · have h00 := cX.1 h0
        obtain ⟨b1, b2⟩ := lH hv h00 m0 m1
        have dB : ∀ t : Int, 0 ≤ t → t ≤ 3000000 → bX (gY (aB n d).1 t) = true := fun t t0 t1 => jr (by unfold gY; omega) (by unfold gY; omega)
        refine ⟨hcl.1, hcl.2, hr, hf, h0, ⟨hv, by omega, by omega⟩, ⟨hv, by omega, by omega⟩, ⟨hv, dB _ (by omega) (by omega), dB _ (by omega) (by omega)⟩, hcl.1, q1, ho.2.1, q2, hd.2.1, q3, fun hgt => ?_, fun hle => ?_⟩
        · have e : CV n p c o d y = 190 := by
            unfold CV
            rw [if_neg (fun g => g hz0), if_neg (fun g => g (show FD n p c o d y = 0 from h00)), if_pos (show Vq n p c o d y > lL p c o d from hgt)]
          rw [kE (by rw [e]; decide), e]
          exact ⟨rfl, rfl⟩
        · have e : CV n p c o d y = 0 := by
            unfold CV
            rw [if_neg (fun g => g hz0), if_neg (fun g => g (show FD n p c o d y = 0 from h00)), if_neg (show ¬ Vq n p c o d y > lL p c o d from hle)]
          have eG : m3 n p c o d (x + 1) = m3 n p c o d x ++ Ia n p o d y := by
            unfold m3
            rw [wX, hy, qAg]
            simp
          refine ⟨x + 1, ⟨hp, hxl2, fun i hi => ?_⟩, rfl, by rw [eG, qG]; omega, by rw [eG, wL]⟩
          by_cases h3 : i < x
          · exact hx.2.2 i h3
          · have : i = x := by omega
            rw [this, ey]; exact e
      · have h00 := fk.1 h0
        have e : CV n p c o d y = FD n p c o d y := by
          unfold CV
          rw [if_neg (fun g => g hz0), if_pos (show FD n p c o d y ≠ 0 from h00)]
        rw [kE (by rw [e]; exact h00), e]
        exact ⟨h0, rfl⟩
  · have e : iH n p c o d = 0 := by
      unfold iH
      refine tH fun i hi => ?_
      rw [vV] at hi
      rw [qA, qP, qB hi]
      have := hx.2.2 i (by omega)
      rw [qA, qB hi] at this
      exact this
    rw [e, hl]
    exact ⟨rfl, by rw [hk]; rfl, rfl⟩
end Go.Eng.Sv
set_option maxRecDepth 100000
noncomputable section
namespace Go.Eng.Sv
open Go.Proofs
def up1(r:Li): Li:=upR r 1 (r.length:Int)
def h4N(n:Net)(p:Plan): Li:=[p.1,p.2.1,n.2.2.2.1.length,n.2.2.2.2.2.length]
def h1N(n:Net)(p:Plan)(j:Int): Li:=h4N n p++(p.2.2.1.take j.toNat).flatMap up1
def h2N(n:Net)(p:Plan)(i:Int): Li:=h1N n p p.2.2.1.length++(p.2.2.2.take i.toNat).flatMap λt=>t.flatMap up1
def h3N(n:Net)(p:Plan)(i j:Int): Li:=h2N n p i++((p.2.2.2.getD i.toNat []).take j.toNat).flatMap up1
def hdN(n:Net)(p:Plan): Li:=h2N n p p.2.2.2.length
def zg(n:Net)(p:Plan)(c o d:Int): Li:=if lL p c o d=-1 then[]else keepA n p c o d
def UY(n:Net)(p:Plan)(c o:Int)(k:Nat): Li:=(List.range k).flatMap λd:Nat=>zg n p c o (d:Int)
def UM(n:Net)(p:Plan)(c:Int)(k:Nat): Li:=(List.range k).flatMap λo:Nat=>UY n p c (o:Int) ((p.2.2.2.getD c.toNat []).getD o []).length
def YO(n:Net)(p:Plan)(k:Nat): Li:=(List.range k).flatMap λc:Nat=>UM n p (c:Int) (p.2.2.2.getD c []).length
def FQ(n:Net)(p:Plan)(c o d:Int): Int:=if lL p c o d=-1 then 0 else iH n p c o d
def Y7(n:Net)(p:Plan)(c o:Int)(k:Nat): Int:=HB ((List.range k).map λd:Nat=>FQ n p c o (d:Int))
def WH(n:Net)(p:Plan)(c:Int)(k:Nat): Int:=HB ((List.range k).map λo:Nat=>Y7 n p c (o:Int) ((p.2.2.2.getD c.toNat []).getD o []).length)
def PD(n:Net)(p:Plan)(k:Nat): Int:=HB ((List.range k).map λc:Nat=>WH n p (c:Int) (p.2.2.2.getD c []).length)
def D7(n:Net)(p:Plan): Li:=hdN n p++YO n p p.2.2.2.length
def k1N(n:Net)(p:Plan)(c:Int): Li:=hdN n p++YO n p c.toNat
def k2N(n:Net)(p:Plan)(c o:Int): Li:=k1N n p c++UM n p c o.toNat
def k3N(n:Net)(p:Plan)(c o d:Int): Li:=k2N n p c o++UY n p c o d.toNat
def wrE(n:Net)(p:Plan): Int:=if bj n=true/\fG n p=true then if PD n p p.2.2.2.length≠0 then PD n p p.2.2.2.length else if(D7 n p).length>40000 then 2 else 0 else 1
def wrN(n:Net)(p:Plan): Li:=if wrE n p=0 then D7 n p else[]
def wrS(n:Net)(p:Plan): Int:=if wrE n p=0 then Go.Eng.In.mS (D7 n p)else 0
def tA(n:Net)(p:Plan)(k:Int): Prop:=qw n p/\0<=k/\k<=p.2.2.1.length
def tB(n:Net)(p:Plan)(i:Int): Prop:=qw n p/\0<=i/\i<=p.2.2.2.length
def tC(n:Net)(p:Plan)(i j:Int): Prop:=(qw n p/\0<=i/\i<p.2.2.2.length)/\0<=j/\j<=(p.2.2.2.getD i.toNat []).length
def t1(n:Net)(p:Plan)(c:Int): Prop:=tB n p c/\PD n p c.toNat=0
def t2(n:Net)(p:Plan)(c o:Int): Prop:=tC n p c o/\PD n p c.toNat=0/\WH n p c o.toNat=0
def t3(n:Net)(p:Plan)(c o d:Int): Prop:=((tC n p c o/\o<(p.2.2.2.getD c.toNat []).length)/\0<=d/\d<=((p.2.2.2.getD c.toNat []).getD o.toNat []).length)/\PD n p c.toNat=0/\WH n p c o.toNat=0/\Y7 n p c o d.toNat=0
def aAN(l:List Nat)(s:St): St:={s with tm:=(List.range s.tm.length).map λi=>if l.contains i then gN (s.tm.getD i .top)else .top}
def Za(s:St)(l:List Nat)(n:Net)(p:Plan)(sl:List (Tmp×AV))(xs:Li): St:=ie (ie (put (aAN ([2,3,4,5,6]++l) s) sl) 2 (.var (wHd n p (.buf 3 (Dk xs))))) 3 (.buf 3 I xs [])
def wrA(n:Net)(p:Plan): Ann:=⟨λid s=>match id with
 | 7=>some {α:=Int,inv:=λj=>tA n p j,st:=λj=>Za s [53,54] n p [(55,.dat I j)] (h1N n p j),μ:=λj=>Dc (Dj (Df p.2.2.1) j)}
 | 12=>some {α:=Int,inv:=λj=>tB n p j,st:=λj=>Za s [64,65] n p [(66,.dat I j)] (h2N n p j),μ:=λj=>Dc (Dj (Df p.2.2.2) j)}
 | 15=>match s.sig.T 66,s.sig.T 70 with
  | .dat (.int .i64) i,.dat (.sl (.sl (.int .i64))) t=>some {α:=Int,inv:=λj=>tC n p i j,st:=λj=>Za s [64,65,66,70,71] n p [(72,.dat I j)] (h3N n p i j),μ:=λj=>Dc (Dj (Df t) j)}
  | _,_=>none
 | 21=>some {α:=Int,inv:=λj=>t1 n p j,st:=λj=>Za s [82,83] n p [(84,.dat I j)] (k1N n p j),μ:=λj=>Dc (Dj (Df p.2.2.2) j)}
 | 24=>match s.sig.T 84,s.sig.T 89 with
  | .dat (.int .i64) c,.dat (.sl (.sl (.int .i64))) t=>some {α:=Int,inv:=λj=>t2 n p c j,st:=λj=>Za s [82,83,84,13,89,90] n p [(91,.dat I j)] (k2N n p c j),μ:=λj=>Dc (Dj (Df t) j)}
  | _,_=>none
 | 27=>match s.sig.T 84,s.sig.T 91,s.sig.T 96 with
  | .dat (.int .i64) c,.dat (.int .i64) o,.dat (.sl (.int .i64)) t=>some {α:=Int,inv:=λj=>t3 n p c o j,st:=λj=>Za s [82,83,84,13,89,90,91,15,96,97] n p [(98,.dat I j)] (k3N n p c o j),μ:=λj=>Dc (Dj (Df t) j)}
  | _,_,_=>none
 | _=>none,λid s=>match id with
 | 5=>some (ie (ie (aAN [2,3,4,5,6] s) 2 (.var (wHd n p (.buf 3 0)))) 3 (.buf 3 I [] []))
 | 36=>some (frz [3] s)
 | _=>none,λ_ _=>none⟩
def KW7: Kt:=kOr 68 (wK [.mp 2,.val I,.val I,.val I] (λ(_,c,o,d,_) n p k xs=>mK n p c o d k xs/\isZero (iH n p c o d)=true) (λ_ _ _=>.tup []) λ(_,c,o,d,_) n p=>keepA n p c o d) <|
 kOr 65 (ax [.ptr N,.ptr Pl] (λ(_,p,_)=>fe p) λ(n,p,_)=>.dat .bool (fG n p)) <|
 kOr 63 JD <|
 kOr 36 (ax [.val R] (λ(l,_)=>Go.Eng.In.Pm l) λ(l,_)=>.dat I (Go.Eng.In.mS l)) KW5
def aET: KPt:=pOr 68 (wP [.mp 2,.val I,.val I,.val I] λ(_,c,o,d,_) n p k xs=>⟨mK n p c o d k xs,isZero (iH n p c o d),um 39 (iH n p c o d)⟩) aEb
def cWr: Cfg:=mkp KW7 (λt=>t==32) aET (λf=>f==68)
set_option maxHeartbeats 4000000 in
theorem PO(cs:LC)(ns os:LB)(fs:Lo)(ls:Ll)(ks:Lk)(p1 p2:Int)(nx:Lj)(dy:List (Lj))(hvc:
 let c1:=(p1,p2,nx,dy);let c2:=(cs,ns,os,fs,ls,ks);let c3:=Ei (Df (fq c2)) 0;let c4:=Di c3;let c5:=Ea c3 true (Di (fG c2 c1));let c6:=wrN c2 c1;let c7:=wrS c2 c1;let c8:=wrE c2 c1;let c9:=[p1,p2,Df fs,Df ks];let c10:=Ef (Dt Int) c9;let c11:=Df dy;(false=false/\true)/\(fe c1->true/\True/\(c4->fe c1)/\(c4->c4->c4)/\(Dh true c4->c4)/\(c5->(true->True/\(false=false->true/\true/\(Di false->True/\1=1/\0=0/\1=1/\0=0/\1=1/\0=0/\1=1/\0=0/\c6=Dt Int/\0=c7/\1=c8/\True)/\(Di false=false->1=1/\0=0/\1=1/\0=0/\c6=Dt Int/\0=c7/\0=c8/\True)))/\True)/\(c5=false->c2=c2/\c1=c1/\1=1/\0=0/\0=0/\1=1/\0=0/\0=0/\1=1/\0=0/\0=0/\Value.slice none (0) (0)=Value.slice none (0) (0)/\(0:Int)=(0:Int)/\(0:Int)=(0:Int)/\cs=cs/\ns=ns/\os=os/\fs=fs/\ls=ls/\ks=ks/\p1=p1/\p2=p2/\nx=nx/\dy=dy/\0=0/\Dt Int=Dt Int/\Dt Int=Dt Int/\1=1/\0=0/\0=0/\1=1/\0=0/\0=0/\1=1/\1=1/\1=1/\1=1/\0=0/\1=1/\1=1/\1=1/\1=1/\0=0/\(Y5 [] (0)/\Ib [] c9)/\1=1/\Dk (Dt Int)<=Dk c10/\(∃x,tA c2 c1 x/\c1=c1/\1=1/\0=0/\0=0/\1=1/\0=0/\0=0/\1=1/\0=0/\0=0/\nx=nx/\Df nx=Df nx/\0=x/\Value.slice none (0) (0)=Value.slice none (0) (0)/\(0:Int)=(0:Int)/\(0:Int)=(0:Int)/\cs=cs/\ns=ns/\os=os/\fs=fs/\ls=ls/\ks=ks/\p1=p1/\p2=p2/\nx=nx/\dy=dy/\(0)+Dk c9=Dk (h1N c2 c1 x)/\c10=h1N c2 c1 x/\1=1/\0=0/\0=0/\1=1/\0=0/\0=0/\True)/\∀(x:Int),let c12:=Dp x (Df nx);let c13:=Du nx (Dc x) [];let c14:=Dk (h1N c2 c1 x);let c15:=upR c13 1 (Df c13);let c16:=Ef (h1N c2 c1 x) c15;let c17:=x+1;
 tA c2 c1 x->(c12->0<=x/\x<Df nx/\rsP 1 c13 (h1N c2 c1 x) c14/\1=1/\c14<=Dk c16/\inR .i64 c17/\∃y,tA c2 c1 y/\(c1=c1/\1=1/\0=0/\0=0/\1=1/\0=0/\0=0/\1=1/\0=0/\0=0/\nx=nx/\Df nx=Df nx/\c17=y/\Value.slice none (0) (0)=Value.slice none (0) (0)/\(0:Int)=(0:Int)/\(0:Int)=(0:Int)/\cs=cs/\ns=ns/\os=os/\fs=fs/\ls=ls/\ks=ks/\p1=p1/\p2=p2/\nx=nx/\dy=dy/\c14+Dk c15=Dk (h1N c2 c1 y)/\c16=h1N c2 c1 y/\1=1/\0=0/\0=0/\1=1/\0=0/\0=0/\True)/\Dc (Df nx-y)<Dc (Df nx-x))/\(c12=false->(∃x_3,tB c2 c1 x_3/\c1=c1/\1=1/\0=0/\0=0/\1=1/\0=0/\0=0/\1=1/\0=0/\0=0/\dy=dy/\c11=c11/\0=x_3/\Value.slice none (0) (0)=Value.slice none (0) (0)/\(0:Int)=(0:Int)/\(0:Int)=(0:Int)/\cs=cs/\ns=ns/\os=os/\fs=fs/\ls=ls/\ks=ks/\p1=p1/\p2=p2/\nx=nx/\dy=dy/\c14=Dk (h2N c2 c1 x_3)/\h1N c2 c1 x=h2N c2 c1 x_3/\1=1/\0=0/\0=0/\1=1/\0=0/\0=0/\True)/\∀(x:Int),let c18:=Du dy (Dc x) (Dt (Li));let c19:=Df c18;let c20:=Dk (h2N c2 c1 x);let c21:=x+1;tB c2 c1 x->(Dp x c11->0<=x/\x<c11/\(∃x_5,let c22:=h3N c2 c1 x x_5;tC c2 c1 x x_5/\c1=c1/\1=1/\0=0/\0=0/\1=1/\0=0/\0=0/\1=1/\0=0/\0=0/\dy=dy/\c11=c11/\x=x/\c18=c18/\c19=c19/\0=x_5/\Value.slice none (0) (0)=Value.slice none (0) (0)/\(0:Int)=(0:Int)/\(0:Int)=(0:Int)/\cs=cs/\ns=ns/\os=os/\fs=fs/\ls=ls/\ks=ks/\p1=p1/\p2=p2/\nx=nx/\dy=dy/\c20=Dk c22/\h2N c2 c1 x=c22/\1=1/\0=0/\0=0/\1=1/\0=0/\0=0/\True)/\∀(x_5:Int),let c23:=Du c18 (Dc x_5) [];let c24:=h3N c2 c1 x x_5;let c25:=Dk c24;let c26:=upR c23 1 (Df c23);let c27:=Ef c24 c26;let c28:=x_5+1;tC c2 c1 x x_5->(Dp x_5 c19->0<=x_5/\x_5<c19/\rsP 1 c23 c24 c25/\1=1/\c25<=Dk c27/\inR .i64 c28/\∃y,let c29:=h3N c2 c1 x y;
 tC c2 c1 x y/\(c1=c1/\1=1/\0=0/\0=0/\1=1/\0=0/\0=0/\1=1/\0=0/\0=0/\dy=dy/\c11=c11/\x=x/\c18=c18/\c19=c19/\c28=y/\Value.slice none (0) (0)=Value.slice none (0) (0)/\(0:Int)=(0:Int)/\(0:Int)=(0:Int)/\cs=cs/\ns=ns/\os=os/\fs=fs/\ls=ls/\ks=ks/\p1=p1/\p2=p2/\nx=nx/\dy=dy/\c25+Dk c26=Dk c29/\c27=c29/\1=1/\0=0/\0=0/\1=1/\0=0/\0=0/\True)/\Dc (c19-y)<Dc (c19-x_5))/\(Dp x_5 c19=false->inR .i64 c21/\∃y,tB c2 c1 y/\(c1=c1/\1=1/\0=0/\0=0/\1=1/\0=0/\0=0/\1=1/\0=0/\0=0/\dy=dy/\c11=c11/\c21=y/\Value.slice none (0) (0)=Value.slice none (0) (0)/\(0:Int)=(0:Int)/\(0:Int)=(0:Int)/\cs=cs/\ns=ns/\os=os/\fs=fs/\ls=ls/\ks=ks/\p1=p1/\p2=p2/\nx=nx/\dy=dy/\c25=Dk (h2N c2 c1 y)/\c24=h2N c2 c1 y/\1=1/\0=0/\0=0/\1=1/\0=0/\0=0/\True)/\Dc (c11-y)<Dc (c11-x)))/\(Dp x c11=false->(∃x_5,t1 c2 c1 x_5/\1=1/\0=0/\0=0/\1=1/\0=0/\0=0/\1=1/\0=0/\0=0/\dy=dy/\c11=c11/\0=x_5/\Value.slice none (0) (0)=Value.slice none (0) (0)/\(0:Int)=(0:Int)/\(0:Int)=(0:Int)/\cs=cs/\ns=ns/\os=os/\fs=fs/\ls=ls/\ks=ks/\p1=p1/\p2=p2/\nx=nx/\dy=dy/\c20=Dk (k1N c2 c1 x_5)/\h2N c2 c1 x=k1N c2 c1 x_5/\1=1/\0=0/\0=0/\1=1/\0=0/\0=0/\True)/\∀(x:Int),let c30:=Du dy (Dc x) (Dt (Li));let c31:=Df c30;let c32:=Dk (k1N c2 c1 x);let c33:=x+1;let c34:=Int.ofNat c32;let c35:=Ei c34 40000;t1 c2 c1 x->(Dp x c11->0<=x/\x<c11/\(∃x_7,let c36:=k2N c2 c1 x x_7;
 t2 c2 c1 x x_7/\1=1/\0=0/\0=0/\1=1/\0=0/\0=0/\1=1/\0=0/\0=0/\x=x/\dy=dy/\c11=c11/\x=x/\c30=c30/\c31=c31/\0=x_7/\Value.slice none (0) (0)=Value.slice none (0) (0)/\(0:Int)=(0:Int)/\(0:Int)=(0:Int)/\cs=cs/\ns=ns/\os=os/\fs=fs/\ls=ls/\ks=ks/\p1=p1/\p2=p2/\nx=nx/\dy=dy/\c32=Dk c36/\k1N c2 c1 x=c36/\1=1/\0=0/\0=0/\1=1/\0=0/\0=0/\True)/\∀(x_7:Int),let c37:=Du c30 (Dc x_7) [];let c38:=Df c37;let c39:=k2N c2 c1 x x_7;let c40:=Dk c39;let c41:=x_7+1;t2 c2 c1 x x_7->(Dp x_7 c31->0<=x_7/\x_7<c31/\(∃x_10,let c42:=k3N c2 c1 x x_7 x_10;t3 c2 c1 x x_7 x_10/\1=1/\0=0/\0=0/\1=1/\0=0/\0=0/\1=1/\0=0/\0=0/\x=x/\x_7=x_7/\dy=dy/\c11=c11/\x=x/\c30=c30/\c31=c31/\x_7=x_7/\c37=c37/\c38=c38/\0=x_10/\Value.slice none (0) (0)=Value.slice none (0) (0)/\(0:Int)=(0:Int)/\(0:Int)=(0:Int)/\cs=cs/\ns=ns/\os=os/\fs=fs/\ls=ls/\ks=ks/\p1=p1/\p2=p2/\nx=nx/\dy=dy/\c40=Dk c42/\c39=c42/\1=1/\0=0/\0=0/\1=1/\0=0/\0=0/\True)/\∀(x_10:Int),let c43:=Dy (Du c37 (Dc x_10) 0) (-1);let c44:=k3N c2 c1 x x_7 x_10;let c45:=Dk c44;let c46:=iH c2 c1 x x_7 x_10;let c47:=isZero c46;let c48:=keepA c2 c1 x x_7 x_10;let c49:=Ef c44 c48;let c50:=x_10+1;t3 c2 c1 x x_7 x_10->(Dp x_10 c38->0<=x_10/\x_10<c38/\(c43->(true->mK c2 c1 x x_7 x_10 c45 c44/\(c47=false->true/\true/\(Di false->True/\1=1/\0=0/\1=1/\0=0/\1=1/\0=0/\1=1/\0=0/\c6=Dt Int/\0=c7/\c46=c8/\True)/\(Di false=false->1=1/\0=0/\1=1/\0=0/\c6=Dt Int/\0=c7/\0=c8/\True)))/\((true->c47)->(mK c2 c1 x x_7 x_10 c45 c44/\c47)/\1=1/\c45<=Dk c49/\inR .i64 c50/\∃y,let c51:=k3N c2 c1 x x_7 y;
 t3 c2 c1 x x_7 y/\(1=1/\0=0/\0=0/\1=1/\0=0/\0=0/\1=1/\0=0/\0=0/\x=x/\x_7=x_7/\dy=dy/\c11=c11/\x=x/\c30=c30/\c31=c31/\x_7=x_7/\c37=c37/\c38=c38/\c50=y/\Value.slice none (0) (0)=Value.slice none (0) (0)/\(0:Int)=(0:Int)/\(0:Int)=(0:Int)/\cs=cs/\ns=ns/\os=os/\fs=fs/\ls=ls/\ks=ks/\p1=p1/\p2=p2/\nx=nx/\dy=dy/\c45+Dk c48=Dk c51/\c49=c51/\1=1/\0=0/\0=0/\1=1/\0=0/\0=0/\True)/\Dc (c38-y)<Dc (c38-x_10)))/\(c43=false->inR IntKind.i64 c50/\∃y,let c52:=k3N c2 c1 x x_7 y;t3 c2 c1 x x_7 y/\(1=1/\0=0/\0=0/\1=1/\0=0/\0=0/\1=1/\0=0/\0=0/\x=x/\x_7=x_7/\dy=dy/\c11=c11/\x=x/\c30=c30/\c31=c31/\x_7=x_7/\c37=c37/\c38=c38/\c50=y/\Value.slice none (0) (0)=Value.slice none (0) (0)/\(0:Int)=(0:Int)/\(0:Int)=(0:Int)/\cs=cs/\ns=ns/\os=os/\fs=fs/\ls=ls/\ks=ks/\p1=p1/\p2=p2/\nx=nx/\dy=dy/\c45=Dk c52/\c44=c52/\1=1/\0=0/\0=0/\1=1/\0=0/\0=0/\True)/\Dc (c38-y)<Dc (c38-x_10)))/\(Dp x_10 c38=false->inR .i64 c41/\∃y,let c53:=k2N c2 c1 x y;
 t2 c2 c1 x y/\(1=1/\0=0/\0=0/\1=1/\0=0/\0=0/\1=1/\0=0/\0=0/\x=x/\dy=dy/\c11=c11/\x=x/\c30=c30/\c31=c31/\c41=y/\Value.slice none (0) (0)=Value.slice none (0) (0)/\(0:Int)=(0:Int)/\(0:Int)=(0:Int)/\cs=cs/\ns=ns/\os=os/\fs=fs/\ls=ls/\ks=ks/\p1=p1/\p2=p2/\nx=nx/\dy=dy/\c45=Dk c53/\c44=c53/\1=1/\0=0/\0=0/\1=1/\0=0/\0=0/\True)/\Dc (c31-y)<Dc (c31-x_7)))/\(Dp x_7 c31=false->inR .i64 c33/\∃y,t1 c2 c1 y/\(1=1/\0=0/\0=0/\1=1/\0=0/\0=0/\1=1/\0=0/\0=0/\dy=dy/\c11=c11/\c33=y/\Value.slice none (0) (0)=Value.slice none (0) (0)/\(0:Int)=(0:Int)/\(0:Int)=(0:Int)/\cs=cs/\ns=ns/\os=os/\fs=fs/\ls=ls/\ks=ks/\p1=p1/\p2=p2/\nx=nx/\dy=dy/\c40=Dk (k1N c2 c1 y)/\c39=k1N c2 c1 y/\1=1/\0=0/\0=0/\1=1/\0=0/\0=0/\True)/\Dc (c11-y)<Dc (c11-x)))/\(Dp x c11=false->1=1/\1=1/\1=1/\0=0/\c32=c32/\(c35->(true->True/\(false=false->true/\true/\(Di false->True/\1=1/\0=0/\1=1/\0=0/\1=1/\0=0/\1=1/\0=0/\c6=Dt Int/\0=c7/\2=c8/\True)/\(Di false=false->1=1/\0=0/\1=1/\0=0/\c6=Dt Int/\0=c7/\0=c8/\True)))/\True)/\(c35=false->1=1/\0=0/\0=0/\1=1/\0=0/\0=0/\1=1/\0=0/\0=0/\dy=dy/\c11=c11/\x=x/\Dp x c11=Dp x c11/\1=1/\0=0/\0=0/\1=1/\0=0/\0=0/\1=1/\0=0/\10=10/\c32=c32/\k1N c2 c1 x=k1N c2 c1 x/\c34=c34/\c35=c35/\Value.slice none (0) (0)=Value.slice none (0) (0)/\(0:Int)=(0:Int)/\(0:Int)=(0:Int)/\cs=cs/\ns=ns/\os=os/\fs=fs/\ls=ls/\ks=ks/\p1=p1/\p2=p2/\nx=nx/\dy=dy/\c32=c32/\k1N c2 c1 x=k1N c2 c1 x/\1=1/\0=0/\0=0/\1=1/\0=0/\0=0/\1=1/\1=1/\1=1/\0=0/\1=1/\1=1/\1=1/\0=0/\In.Pm (k1N c2 c1 x)/\1=1/\0=0/\1=1/\0=0/\true/\true/\(Di true->False)/\(Di true=false->1=1/\0=0/\1=1/\0=0/\k1N c2 c1 x=c6/\In.mS (k1N c2 c1 x)=c7/\0=c8/\True)))))))):
  evG cWr (lvA [(7,[3,4,5,6,8,10,12,13,14,15,16,17,18,53,54,55,64,65,66,70,71,72,82,83,84,89,90,91,96,97,98]),(12,[3,4,5,6,10,12,13,14,15,16,17,18,64,65,66,70,71,72,82,83,84,89,90,91,96,97,98]),(15,[3,4,5,6,10,12,13,14,15,16,17,18,64,65,66,70,71,72,82,83,84,89,90,91,96,97,98]),(21,[4,5,6,13,14,15,16,17,18,82,83,84,89,90,91,96,97,98]),(24,[4,5,6,13,14,15,16,17,18,82,83,84,89,90,91,96,97,98]),(27,[4,5,6,13,14,15,16,17,18,82,83,84,89,90,91,96,97,98])] (wrA (cs,ns,os,fs,ls,ks) (p1,p2,nx,dy))) az 20 [net cs ns os fs ls ks,.agg [.dat I p1,.dat I p2,.dat M nx,.dat (.sl M) dy]] ⟨fe (p1,p2,nx,dy),.tup [.agg [.dat R (wrN (cs,ns,os,fs,ls,ks) (p1,p2,nx,dy)),.dat I (wrS (cs,ns,os,fs,ls,ks) (p1,p2,nx,dy))],.dat I (wrE (cs,ns,os,fs,ls,ks) (p1,p2,nx,dy))],[]⟩:=oE hvc
theorem Ov: ∀args m c,JD args m=some c->af Tryz.prog G0 63 args m c:=by
 intro args m c h;unfold JD at h;split at h
 .split at h
  .rename_i e;subst e;cases h;exact WO _
  .cases h
 .cases h
theorem Yi{P:Program}{G:List (Nat×AV)}{f:FuncId}{args:List AV}{m:Mem}{c:jD}(h:af P [] f args m c): af P G f args m c:=
 λhp w D E us hD _ ha hH=>h hp w D E us hD (λp hp=>by cases hp) ha hH
theorem aFi: aj Tryz.prog G0 KW7:=ai (PK λ(_,c,o,d,_) n p k xs=>(Lm c o d k xs n p).1)<|ai (ag λ(n,p,_)=>WL n p)<|ai Ov<|ai (ag λ(l,_)=>Yi (Go.Eng.In.Da l)) aEA
theorem YV: bL Tryz.prog G0 aET:=ik (Zr λ(_,c,o,d,_) n p k xs=>(Lm c o d k xs n p).2) O4
theorem rL{α:Type}{l:List α}{f:α->Li}{x:Int}(d:α)(h0:0<=x)(h1:x<l.length): (l.take (x+1).toNat).flatMap f=(l.take x.toNat).flatMap f++f (l.getD x.toNat d):=by
 rw[show(x+1).toNat=x.toNat+1 by omega,wX,qAg,qA,qB (show x.toNat<l.length by omega)]
 simp
theorem oU{f:Nat->Li}{x:Int}(h0:0<=x): (List.range (x+1).toNat).flatMap f=(List.range x.toNat).flatMap f++f x.toNat:=by
 rw[show(x+1).toNat=x.toNat+1 by omega,zT,qAg]
 simp
theorem tI{f:Nat->Int}{x:Int}(h0:0<=x)(h:HB ((List.range x.toNat).map f)=0)(h1:f x.toNat=0): HB ((List.range (x+1).toNat).map f)=0:=by
 refine tH λi hi=>?_
 rw[vV,vX]at hi;rw[qA,qP,vY hi];show f i=0;by_cases e:i<x.toNat
 .exact mg h _ (zA.2 ⟨i,qX.2 e,rfl⟩)
 .have:i=x.toNat:=by omega
  rw[this];exact h1
theorem yo{f:Nat->Int}{k N:Nat}(hk:k<N)(h:HB ((List.range k).map f)=0)(h1:f k≠0): HB ((List.range N).map f)=f k:=by
 have eg:∀i,i<N->((List.range N).map f).getD i 0=f i:=λi hi=>by
  rw[qA,qP,vY hi];rfl
 rw[yp (j:=k) (by simpa using hk) (λi hi=>by rw[eg i (by omega)];exact mg h _ (zA.2 ⟨i,qX.2 hi,rfl⟩)) (by rw[eg k hk];exact h1),eg k hk]
theorem mh{α:Type}{f:α->Li}{B:Nat}: ∀{l:List α},(∀x∈l,(f x).length<=B)->(l.flatMap f).length<=l.length*B
 | [],_=>by simp
 | a::l,h=>by
  have:=mh (l:=l) λx hx=>h x (zD _ hx)
  have:=h a (wS ..);rw[qAa,qG,vW,Nat.succ_mul];omega
theorem WC(r:Li): (up1 r).length=r.length:=by unfold up1 upR;simp
structure aCe (n:Net) (p:Plan):Prop where
 m:n.2.2.2.1.length<=12
 q:n.2.2.2.2.2.length<=4
 nl:p.2.2.1.length=n.2.2.2.1.length
 nr:∀r∈p.2.2.1,r.length=n.2.2.2.1.length/\∀x∈r,-1<=x/\x<=40
 dl:p.2.2.2.length=n.2.2.2.2.2.length
 dr:∀t∈p.2.2.2,t.length=n.2.2.2.1.length/\∀r∈t,r.length=n.2.2.2.1.length/\∀x∈r,-1<=x/\x<=65518
theorem DV{n:Net}{p:Plan}(h:qw n p): aCe n p:=by
 obtain⟨hs,hf⟩:=h;obtain⟨_,hT,hD⟩:=gX hf;have hno:noF n=true:=bu n.1 n.2.1 n.2.2.1 n.2.2.2.1 n.2.2.2.2.1 n.2.2.2.2.2 hs;have o12:(n.2.2.2.1.length:Int)<=12:=(fD n.1 n.2.1 n.2.2.1 n.2.2.2.1 n.2.2.2.2.1 n.2.2.2.2.2 hno).1;have l40:(n.2.2.2.2.1.length:Int)<=40:=(lw n.1 n.2.1 n.2.2.1 n.2.2.2.1 n.2.2.2.2.1 n.2.2.2.2.2 hno).1
 have c4:(n.2.2.2.2.2.length:Int)<=4:=((jQ (by decide) (λl:Cla=>l.1) iy n.2.2.2.2.2).1 (iO n.1 n.2.1 n.2.2.1 n.2.2.2.1 n.2.2.2.2.1 n.2.2.2.2.2 hno).2.2.2.2.2).1
 have hl:(p.2.2.1.length:Int)=n.2.2.2.1.length:=by
  unfold mQ at hT;simp only[qC,qE]at hT;exact hT.1
 unfold pw at hD;simp only[qC,qE,qN]at hD;refine⟨by omega,by omega,by omega,λr hr=>?_,by omega,λt ht=>?_⟩
 .obtain⟨i,hi,rfl⟩:=wY.1 hr;have h1:=(rM (n:=n) hl).1 hT i (by omega)
  rw[qA,qB hi,qQ]at h1;unfold rowOk at h1;simp only[qC,qE,qN]at h1;refine⟨by omega,λx hx=>?_⟩
  have h2:=h1.2 x hx;unfold aT dM at h2;simp only[yD,qC,qE]at h2;omega
 .have h1:=hD.2 t ht;have h2:(t.length:Int)=n.2.2.2.1.length:=by
   unfold sgF at h1;simp only[qC,qE]at h1;exact h1.1
  refine⟨by omega,λr hr=>?_⟩
  obtain⟨i,hi,rfl⟩:=wY.1 hr;have h3:=(Av h2).1 h1 i (by omega)
  rw[qA,qB hi,qQ]at h3;unfold sgR at h3;simp only[qC,qE,qN]at h3;refine⟨by omega,λx hx=>?_⟩
  have h4:=h3.2 x hx;unfold gj tO at h4;rw[qE]at h4;exact h4
theorem xq{m:Nat}(hm:m<=12){l:Lj}(hl:l.length<=12)(h:∀r∈l,r.length=m): (l.flatMap up1).length<=144:=by
 have h1:=mh (l:=l) (f:=up1) (B:=12) λr hr=>by rw[WC,h r hr];exact hm
 have:=vU 12 hl;omega
theorem Vi{n:Net}{p:Plan}(h:aCe n p)(j:Int): (h1N n p j).length<=148:=by
 have:=xq h.m (l:=p.2.2.1.take j.toNat) (by rw[qI,h.nl];have:=h.m;omega) λr hr=>(h.nr r (qAz hr)).1
 unfold h1N h4N;rw[qG];simp only[vW,yP];omega
theorem Vh{n:Net}{p:Plan}(h:aCe n p)(i:Int): (h2N n p i).length<=724:=by
 have h0:=Vi h p.2.2.1.length;have h1:=mh (l:=p.2.2.2.take i.toNat) (f:=λt:Lj=>t.flatMap up1) (B:=144) λt ht=>by
  obtain⟨q1,q2⟩:=h.dr t (qAz ht);exact xq h.m (by rw[q1];exact h.m) λr hr=>(q2 r hr).1
 have h2:(p.2.2.2.take i.toNat).length<=4:=by rw[qI,h.dl];have:=h.q;omega
 have:=vU 144 h2;unfold h2N;rw[qG];omega
theorem aA1{n:Net}{p:Plan}(h:aCe n p){i:Int}(j:Int)(h0:0<=i)(h1:i<p.2.2.2.length): (h3N n p i j).length<=868:=by
 have h2:=Vh h i;obtain⟨q1,q2⟩:=h.dr _ (getD_mem (l:=p.2.2.2) (i:=i.toNat) (d:=[]) (by omega))
 have:=xq h.m (l:=(p.2.2.2.getD i.toNat []).take j.toNat) (by rw[qI,q1];have:=h.m;omega) λr hr=>(q2 r (qAz hr)).1
 unfold h3N;rw[qG];omega
theorem NB{n:Net}{p:Plan}{c o d:Int}(h:iH n p c o d=0): ∀x∈kt n p c o,CV n p c o d x=0:=λx hx=>mg h _ (zA.2 ⟨x,hx,rfl⟩)
theorem Uh{n:Net}{p:Plan}{c o d:Int}(hp:qw n p)(hc:CW n c)(ho:0<=o/\o<n.2.2.2.1.length)(hd:0<=d/\d<n.2.2.2.1.length)(h:FQ n p c o d=0): (zg n p c o d).length<=1641619:=by
 unfold FQ at h;unfold zg;split
 .exact wW _
 .rename_i hne;rw[if_neg hne]at h;have hno:noF n=true:=bu n.1 n.2.1 n.2.2.1 n.2.2.2.1 n.2.2.2.2.1 n.2.2.2.2.2 hp.1;have hcp:tQ n p c o:=⟨⟨hno,ho⟩,hc,(gX hp.2).1⟩;have:=tj (n:=n) (p:=p) (c:=c) (o:=o) (d:=d) (k:=0) (xs:=[]) (j:=(kt n p c o).length) ⟨⟨⟨hp,hc,⟨hno,ho⟩,⟨hno,hd⟩⟩,rfl,wW _⟩,qJ _,λi hi=>NB h _ (getD_mem hi)⟩
  have h2:=On hcp;unfold keepA;omega
theorem MM{n:Net}{p:Plan}{c o:Int}{k:Nat}(hp:qw n p)(hc:CW n c)(ho:0<=o/\o<n.2.2.2.1.length)(hk:k<=n.2.2.2.1.length)(h:Y7 n p c o k=0): (UY n p c o k).length<=19699428:=by
 have hs:=(DV hp).m;have h1:=mh (l:=List.range k) (f:=λd:Nat=>zg n p c o (d:Int)) (B:=1641619) λd hd=>by
  have hd:=qX.1 hd;exact Uh hp hc ho ⟨by omega,by omega⟩ (mg h _ (zA.2 ⟨d,qX.2 hd,rfl⟩))
 rw[vX]at h1;have:=vU 1641619 (show k<=12 by omega)
 unfold UY;omega
theorem aCC{n:Net}{p:Plan}(hp:qw n p){c o:Int}(hc:CW n c)(ho:0<=o/\o<n.2.2.2.1.length): (p.2.2.2.getD c.toNat []).length=n.2.2.2.1.length/\((p.2.2.2.getD c.toNat []).getD o.toNat []).length=n.2.2.2.1.length:=by
 have hs:=DV hp;obtain⟨c0,c1⟩:=hc;have dl:=hs.dl;obtain⟨q1,q2⟩:=hs.dr _ (getD_mem (l:=p.2.2.2) (i:=c.toNat) (d:=[]) (by omega))
 exact⟨q1,(q2 _ (getD_mem (by omega))).1⟩
theorem Lc{n:Net}{p:Plan}{c:Int}{k:Nat}(hp:qw n p)(hc:CW n c)(hk:k<=n.2.2.2.1.length)(h:WH n p c k=0): (UM n p c k).length<=236393136:=by
 have hs:=(DV hp).m;have h1:=mh (l:=List.range k) (f:=λo:Nat=>UY n p c (o:Int) ((p.2.2.2.getD c.toNat []).getD o []).length) (B:=19699428) λo ho=>by
  have ho:=qX.1 ho;have e:=(aCC hp hc (o:=(o:Int)) ⟨by omega,by omega⟩).2
  rw[qW]at e;exact MM hp hc ⟨by omega,by omega⟩ (by omega) (mg h _ (zA.2 ⟨o,qX.2 ho,rfl⟩))
 rw[vX]at h1;have:=vU 19699428 (show k<=12 by omega)
 unfold UM;omega
theorem O0{n:Net}{p:Plan}{k:Nat}(hp:qw n p)(hk:k<=n.2.2.2.2.2.length)(h:PD n p k=0): (YO n p k).length<=945572544:=by
 have hs:=(DV hp).q;have h1:=mh (l:=List.range k) (f:=λc:Nat=>UM n p (c:Int) (p.2.2.2.getD c []).length) (B:=236393136) λc hc=>by
  have hc:=qX.1 hc;have hcl:CW n (c:Int):=⟨by omega,by omega⟩
  have dl:=(DV hp).dl;have q1:=((DV hp).dr _ (getD_mem (l:=p.2.2.2) (i:=c) (d:=[]) (by omega))).1
  exact Lc hp hcl (by omega) (mg h _ (zA.2 ⟨c,qX.2 hc,rfl⟩))
 rw[vX]at h1;have:=vU 236393136 (show k<=4 by omega)
 unfold YO;omega
theorem WI(cs:LC)(ns os:LB)(fs:Lo)(ls:Ll)(ks:Lk)(p1 p2:Int)(nx:Lj)(dy:List (Lj)): af Tryz.prog G0 20 [net cs ns os fs ls ks,.agg [.dat I p1,.dat I p2,.dat M nx,.dat (.sl M) dy]] [] ⟨fe (p1,p2,nx,dy),.tup [.agg [.dat R (wrN (cs,ns,os,fs,ls,ks) (p1,p2,nx,dy)),.dat I (wrS (cs,ns,os,fs,ls,ks) (p1,p2,nx,dy))],.dat I (wrE (cs,ns,os,fs,ls,ks) (p1,p2,nx,dy))],[]⟩:=by
 refine Ap (c:=cWr) aFi aL hm YV (PO cs ns os fs ls ks p1 p2 nx dy ⟨⟨rfl,rfl⟩,λhp=>?_⟩)
 simp only[qc,Dh,Es,Di,qd,Dt,Eb,Dy,Dp,Ei,Eh,Ed,Ew,Df,Et,Dl,Dn,Eo,Dz,Dw,Dj,Dq,Ee,Fe,Dc,Dx,Dk,Ec,Em,Du,Eu,Ez,En,Ef,Fg,Fj,Fh,Ep,Ej,Ey,Fb,yC,zZ,vT,xG,qCj,xJ,kG];obtain⟨n,hn⟩:∃n:Net,n=(cs,ns,os,fs,ls,ks):=⟨_,rfl⟩;obtain⟨p,hpe⟩:∃p:Plan,p=(p1,p2,nx,dy):=⟨_,rfl⟩;have e1:fs=n.2.2.2.1:=by rw[hn]
 have e2:ks=n.2.2.2.2.2:=by rw[hn]
 have e3:nx=p.2.2.1:=by rw[hpe]
 have e4:dy=p.2.2.2:=by rw[hpe]
 have e5:p1=p.1:=by rw[hpe]
 have e6:p2=p.2.1:=by rw[hpe]
 rw[<- hn,<- hpe]at *;clear hn hpe;subst e1 e2 e3 e4 e5 e6;have eS:bj n=decide (((fq n).length:Int)=0):=uV;have hbad:¬(bj n=true/\fG n p=true)->wrE n p=1:=λh=>if_neg h
 have hne:wrE n p≠0->wrN n p=[]/\(0:Int)=wrS n p:=λh=>⟨if_neg h,(if_neg h).symm⟩
 refine⟨λ_=>hp,λh=>?_,λ⟨h1,h2⟩=>?_⟩
 .have:wrE n p=1:=hbad λ⟨g1,g2⟩=>by
   rw[eS,qE]at g1;rcases h with h | h
   .omega
   .rw[h]at g2;cases g2
  obtain⟨q1,q2⟩:=hne (by rw[this];decide)
  exact⟨q1,q2,this.symm⟩
 have hpl:qw n p:=⟨by rw[eS,qE];omega,h2⟩
 have hsh:=DV hpl;have hW:wrE n p=if PD n p p.2.2.2.length≠0 then PD n p p.2.2.2.length else if(D7 n p).length>40000 then 2 else 0:=if_pos hpl
 have hno:noF n=true:=bu n.1 n.2.1 n.2.2.1 n.2.2.2.1 n.2.2.2.2.1 n.2.2.2.2.2 hpl.1;have rs:∀(r:Li) (xs:Li),(∀x∈r,-1<=x/\x<=65518)->r.length<=12->xs.length<=10000->rsP 1 r xs xs.length:=λr xs q1 q2 q3=>⟨⟨rfl,by omega⟩,by decide,by decide,λx hx=>by have:=q1 x hx;omega⟩
 have m12:=hsh.m;have q04:=hsh.q;have nl:=hsh.nl;have dl:=hsh.dl;refine⟨⟨rfl,by show 0+4<=1000000000000;decide⟩,by simp,⟨0,⟨hpl,qL _,by omega⟩,rfl,rfl,rfl⟩,λx ⟨_,x0,x1⟩=>⟨λhx=>?_,λhx=>⟨⟨0,⟨hpl,qL _,by omega⟩,rfl,?_,?_⟩,?_⟩⟩⟩
 .obtain⟨q1,q2⟩:=hsh.nr _ (getD_mem (l:=p.2.2.1) (i:=x.toNat) (d:=[]) (by omega))
  have e:h1N n p (x+1)=h1N n p x++up1 (p.2.2.1.getD x.toNat []):=by unfold h1N;rw[rL [] x0 hx,wL]
  refine⟨x0,hx,rs _ _ (λy hy=>by have:=q2 y hy;omega) (by omega) (by have:=Vi hsh x;omega),by rw[qG];omega,aM (by omega),x+1,⟨hpl,by omega,by omega⟩,⟨rfl,by rw[e,qG];rfl,e.symm⟩,by omega⟩
 .have:x=p.2.2.1.length:=by omega
  rw[this];simp[h2N]
 .have:x=p.2.2.1.length:=by omega
  rw[this];simp[h2N]
 rintro x ⟨_,x0,x1⟩;refine⟨λhx=>⟨x0,hx,⟨0,⟨⟨hpl,x0,hx⟩,qL _,by omega⟩,rfl,by simp[h3N],by simp[h3N]⟩,λy ⟨_,y0,y1⟩=>⟨λhy=>?_,λhy=>?_⟩⟩,λhx=>⟨⟨0,⟨⟨hpl,qL _,by omega⟩,rfl⟩,rfl,?_,?_⟩,?_⟩⟩
 .obtain⟨q1,q2⟩:=hsh.dr _ (getD_mem (l:=p.2.2.2) (i:=x.toNat) (d:=[]) (by omega))
  obtain⟨q3,q4⟩:=q2 _ (getD_mem (l:=p.2.2.2.getD x.toNat []) (i:=y.toNat) (d:=[]) (by omega))
  have e:h3N n p x (y+1)=h3N n p x y++up1 ((p.2.2.2.getD x.toNat []).getD y.toNat []):=by unfold h3N;rw[rL [] y0 hy,wL]
  refine⟨y0,hy,rs _ _ q4 (by omega) (by have:=aA1 hsh y x0 hx;omega),by rw[qG];omega,aM (by omega),y+1,⟨⟨hpl,x0,hx⟩,by omega,by omega⟩,⟨rfl,by rw[e,qG];rfl,e.symm⟩,by omega⟩
 .have ey:y=(p.2.2.2.getD x.toNat []).length:=by omega
  have e:h2N n p (x+1)=h3N n p x y:=by
   unfold h3N;rw[ey,qW,xW];unfold h2N;rw[rL [] x0 hx,wL]
  exact⟨aM (by omega),x+1,⟨hpl,by omega,by omega⟩,⟨rfl,by rw[e],e.symm⟩,by omega⟩
 .have:x=p.2.2.2.length:=by omega
  rw[this];simp[k1N,hdN,YO]
 .have:x=p.2.2.2.length:=by omega
  rw[this];simp[k1N,hdN,YO]
 rintro x ⟨⟨_,x0,x1⟩,xa⟩;have hd2:=Vh hsh p.2.2.2.length;refine⟨λhx=>?_,λhx=>?_⟩
 .have hcl:CW n x:=⟨x0,by omega⟩
  have xt:((x.toNat:Nat):Int)=x:=by omega
  have tl:=(aCC hpl hcl (o:=0));obtain⟨tr1,_⟩:=hsh.dr _ (getD_mem (l:=p.2.2.2) (i:=x.toNat) (d:=[]) (by omega))
  refine⟨x0,hx,⟨0,⟨⟨⟨hpl,x0,hx⟩,qL _,by omega⟩,xa,rfl⟩,rfl,by simp[k2N,UM],by simp[k2N,UM]⟩,λy ⟨⟨_,y0,y1⟩,_,ya⟩=>⟨λhy=>?_,λhy=>?_⟩⟩
  .have yt:((y.toNat:Nat):Int)=y:=by omega
   obtain⟨_,tr2⟩:=aCC hpl hcl (o:=y) ⟨y0,by omega⟩
   refine⟨y0,hy,⟨0,⟨⟨⟨⟨⟨hpl,x0,hx⟩,y0,by omega⟩,hy⟩,qL _,by omega⟩,xa,ya,rfl⟩,rfl,by simp[k3N,UY],by simp[k3N,UY]⟩,λz ⟨⟨_,z0,z1⟩,_,_,za⟩=>⟨λhz=>?_,λhz=>?_⟩⟩
   .have zt:((z.toNat:Nat):Int)=z:=by omega
    have eD:((p.2.2.2.getD x.toNat []).getD y.toNat []).getD z.toNat 0=lL p x y z:=rfl;rw[eD];have hkl:(k3N n p x y z).length<=900000000000:=by
     have l1:=O0 hpl (k:=x.toNat) (by omega) xa
     have l2:=Lc hpl hcl (k:=y.toNat) (by omega) ya
     have l3:=MM hpl hcl (o:=y) (k:=z.toNat) ⟨y0,by omega⟩ (by omega) za
     unfold k3N k2N k1N hdN;simp only[qG];omega
    have hK:mK n p x y z (k3N n p x y z).length (k3N n p x y z):=⟨⟨hpl,hcl,⟨hno,y0,by omega⟩,⟨hno,z0,by omega⟩⟩,rfl,hkl⟩
    have step:FQ n p x y z=0->(∃w,t3 n p x y w/\(z+1=w/\(k3N n p x y z).length+(zg n p x y z).length=(k3N n p x y w).length/\k3N n p x y z++zg n p x y z=k3N n p x y w)/\(((p.2.2.2.getD x.toNat []).getD y.toNat []).length-w).toNat<(((p.2.2.2.getD x.toNat []).getD y.toNat []).length-z).toNat):=λh0=>by
     have e:k3N n p x y (z+1)=k3N n p x y z++zg n p x y z:=by
      unfold k3N UY;rw[oU z0,zt,wL]
     exact⟨z+1,⟨⟨⟨⟨⟨hpl,x0,hx⟩,y0,by omega⟩,hy⟩,by omega,by omega⟩,xa,ya,tI z0 za (by rw[zt];exact h0)⟩,⟨rfl,by rw[e,qG],e.symm⟩,by omega⟩
    refine⟨z0,hz,λhne1=>⟨⟨hK,λhz0=>?_⟩,λhz0=>⟨⟨hK,hz0⟩,by rw[qG];omega,aM (by omega),?_⟩⟩,λh1=>⟨aM (by omega),?_⟩⟩
    .have hz1:=fk.1 hz0;have c1:FQ n p x y z=iH n p x y z:=if_neg hne1;have r1:Y7 n p x y ((p.2.2.2.getD x.toNat []).getD y.toNat []).length=iH n p x y z:=by
      unfold Y7;rw[yo (k:=z.toNat) (by omega) za (by rw[zt,c1];exact hz1),zt,c1]
     have r2:WH n p x (p.2.2.2.getD x.toNat []).length=iH n p x y z:=by
      unfold WH;rw[yo (k:=y.toNat) (by omega) ya (by rw[yt,r1];exact hz1),yt,r1]
     have r3:PD n p p.2.2.2.length=iH n p x y z:=by
      unfold PD;rw[yo (k:=x.toNat) (by omega) xa (by rw[xt,r2];exact hz1),xt,r2]
     have r4:wrE n p=iH n p x y z:=by rw[hW,r3,if_pos hz1]
     obtain⟨q1,q2⟩:=hne (by rw[r4];exact hz1)
     exact⟨q1,q2,r4.symm⟩
    .have c1:FQ n p x y z=iH n p x y z:=if_neg hne1;have c2:zg n p x y z=keepA n p x y z:=if_neg hne1;have:=step (by rw[c1];exact cX.1 hz0)
     rw[c2]at this;exact this
    .have c1:FQ n p x y z=0:=if_pos h1;have c2:zg n p x y z=[]:=if_pos h1;have:=step c1;rw[c2]at this;simpa using this
   .have ez:z=((p.2.2.2.getD x.toNat []).getD y.toNat []).length:=by omega
    have e:k2N n p x (y+1)=k3N n p x y z:=by
     unfold k3N;rw[ez,qW];unfold k2N UM;rw[oU y0,yt,wL]
    have za':Y7 n p x y ((p.2.2.2.getD x.toNat []).getD y.toNat []).length=0:=by rw[ez,qW]at za;exact za
    exact⟨aM (by omega),y+1,⟨⟨⟨hpl,x0,hx⟩,by omega,by omega⟩,xa,tI y0 ya (by rw[yt];exact za')⟩,⟨rfl,by rw[e],e.symm⟩,by omega⟩
  .have ey:y=(p.2.2.2.getD x.toNat []).length:=by omega
   have e:k1N n p (x+1)=k2N n p x y:=by
    unfold k2N;rw[ey,qW];unfold k1N YO;rw[oU x0,xt,wL]
   have ya':WH n p x (p.2.2.2.getD x.toNat []).length=0:=by rw[ey,qW]at ya;exact ya
   exact⟨aM (by omega),x+1,⟨⟨hpl,by omega,by omega⟩,tI x0 xa (by rw[xt];exact ya')⟩,⟨rfl,by rw[e],e.symm⟩,by omega⟩
 .have ex:x=p.2.2.2.length:=by omega
  have eN:k1N n p x=D7 n p:=by unfold k1N D7;rw[ex,qW]
  rw[ex,qW]at xa;have hl:=O0 hpl (k:=p.2.2.2.length) (by omega) xa
  rw[eN];rw[xa,if_neg (λg=>g rfl)]at hW
  refine⟨λhgt=>?_,λhle=>?_⟩
  .rw[if_pos (by omega)]at hW
   obtain⟨q1,q2⟩:=hne (by rw[hW];decide)
   exact⟨q1,q2,hW.symm⟩
  .rw[if_neg (by omega)]at hW
   refine⟨?_,(if_pos hW).symm,(if_pos hW).symm,hW.symm⟩;show(D7 n p).length<=9223372036854775807;omega
end Go.Eng.Sv
set_option maxRecDepth 100000
noncomputable section
namespace Go.Eng.Sv
open Go.Proofs
def pN(nx:Lj): Plan:=(0,0,nx,[])
def aA9(n:Net)(k o t:Int): Prop:=(my n o/\CW n k)/\0<=t/\t<=2200000
def FH(n:Net)(k o a b:Int): Li:=Vp (aB n o) (bI n k).2.1 b ((b-a).toNat+1) a
def FG(n:Net)(k o a b:Int): Prop:=my n o/\CW n k/\0<=a/\a<b/\b<=1000000
def BV(n:Net)(k o a b:Int)(x:Nat×Int): Prop:=(a+x.1<=x.2/\x.2<=b)/\x.1<=(FH n k o a b).length/\(FH n k o a b).drop x.1=Vp (aB n o) (bI n k).2.1 b ((b-a).toNat+1-x.1) x.2
def wa(n:Net)(nx:Lj)(k o d cut:Int): Int:=if je n nx o d cut≠0 then je n nx o d cut else if FD n (pN nx) k o d cut≠0 then FD n (pN nx) k o d cut else if Vq n (pN nx) k o d cut<0 then 1 else 0
def Yv(n:Net)(nx:Lj)(k o d cut:Int): Int:=Vq n (pN nx) k o d cut
def zb(n:Net)(nx:Lj)(k o d cut:Int): Prop:=Gk n nx o d cut/\CW n k
def aCB(n:Net)(nx:Lj)(a b:Int): Prop:=bj n=true/\mQ n nx=true/\0<=a/\a<b/\b<=600/\b-a<=60
def aDx(n:Net)(o:Int): Prop:=0<=o/\o<n.2.2.2.1.length
def cellP(n:Net)(nx:Lj)(k o d a b:Int): Prop:=aCB n nx a b/\CW n k/\aDx n o/\aDx n d
def Jv(n:Net)(k o a b:Int): Li:=FH n k o (1440*a) (1440*b)
def Ph(n:Net)(nx:Lj)(k o d a b:Int)(j:Nat): Int:=(((Jv n k o a b).take j).map (Yv n nx k o d)).foldl max (-1)
def Nk(n:Net)(nx:Lj)(k o d a b:Int): Int:=HB ((Jv n k o a b).map (wa n nx k o d))
def sV(n:Net)(nx:Lj)(k o d a b:Int): Int:=if Nk n nx k o d a b=0 then Ph n nx k o d a b (Jv n k o a b).length else -1
def Bh(n:Net)(nx:Lj)(k o d a b:Int)(j:Nat): Prop:=cellP n nx k o d a b/\j<=(Jv n k o a b).length/\∀i:Nat,i<j->wa n nx k o d ((Jv n k o a b).getD i 0)=0
theorem VX(k o t:Int)(cs:LC)(ns os:LB)(fs:Lo)(ls:Ll)(ks:Lk)(hvc:
 let c1:=(cs,ns,os,fs,ls,ks);let c4:=(aB c1 o);let c5:=(Du ks (Dc k) (ByteArray.mk #[],(0:Int),(0:Int))).2.2;let c6:=aH c1 o t;true/\(aA9 c1 k o t->my c1 o/\0<=k/\k<Df ks/\fB c1 o t/\zu c4 c5 c6/\iz c4 c5 c6=TK c1 k o t/\mB c4 c5 c6=Zf c1 k o t/\True)):
  evF (mkc KR5) az 103 [.ip N (cs,ns,os,fs,ls,ks),.dat I k,.dat I o,.dat I t] [] ⟨aA9 (cs,ns,os,fs,ls,ks) k o t,.tup [.dat I (TK (cs,ns,os,fs,ls,ks) k o t),.dat I (Zf (cs,ns,os,fs,ls,ks) k o t)],[]⟩:=oE hvc
theorem Qj(k o a b:Int)(n:Net)(hvc:
 true/\(True->a=a/\n=n/\o=o/\k=k/\b=b/\True)):
  evF (mkc KR2) az 116 [.ip N n,.dat I k,.dat I o,.dat I a,.dat I b] [] ⟨True,.fn 173 [.ip I a,.ipv (.ip N n),.ip I o,.ip I k,.ip I b],[]⟩:=oE hvc
def aAL(n:Net)(k o a b:Int): F8:=⟨λid y=>match id with
 | 1=>some {α:=Nat×Int,inv:=λx=>BV n k o a b x,st:=λx=>⟨put y.s [(7,.dat I x.2)],x.1,true⟩,μ:=λx=>Dc (Dj (Dq b 1) x.2)}
 | _=>none,λ_ _=>none,λid=>id==2⟩
theorem Qk(k o a b:Int)(n:Net)(hvc:
 let c2:=(aB n o).2;let c3:=((aB n o).1,c2.1,c2.2);let c4:=(Du n.2.2.2.2.2 (Dc k) (ByteArray.mk #[],(0:Int),(0:Int))).2.1;let c5:=FH n k o a b;let c6:=Dk c5;let c7:=b+1;true/\true/\true/\false=false/\∀(l:Nat),FG n k o a b->(∃(x:Nat×Int),BV n k o a b x/\(l=l/\a=a/\n=n/\o=o/\k=k/\b=b/\a=x.2/\a=a/\True)/\0=x.1/\true)/\∀(x:Nat×Int),let c8:=Dy (mB c3 c4 x.2) 0;let c9:=Di c8;let c10:=iz c3 c4 x.2;let c11:=Ea c8 true (Ed c10 b);let c12:=Di c11;let c1:=Dh true c12->c12;let c13:=x.1+(1);let c14:=c10+1;let c15:=Ea c11 true (Di false);BV n k o a b x->my n o/\0<=k/\k<Df n.2.2.2.2.2/\zu c3 c4 x.2/\(c9->c9->c9)/\(c9->c9->c9)/\(Dh true c9->c9)/\(c12->(c12->c12)/\(c12->c12)/\l=l/\true/\lF c5 x.1 c10/\∀(b_1:Bool),let c16:=Ea c11 true (Di b_1);c1/\(c16->b_1->c13=c6)/\(c16=false->inR .i64 c14/\∃(y:Nat×Int),BV n k o a b y/\((l=l/\a=a/\n=n/\o=o/\k=k/\b=b/\c14=y.2/\a=a/\True)/\c13=y.1/\b_1)/\Dc (c7-y.2)<Dc (c7-x.2)))/\(c12=false->(c12->c12->c12)/\c1/\(c15->true->x.1=c6)/\(c15=false->inR .i64 c14/\∃(y:Nat×Int),BV n k o a b y/\((l=l/\a=a/\n=n/\o=o/\k=k/\b=b/\c14=y.2/\a=a/\True)/\x.1=y.1/\true)/\Dc (c7-y.2)<Dc (c7-x.2)))):
  evI (mkc KR3) (aAL n k o a b) 173 [.ip I a,.ipv (.ip N n),.ip I o,.ip I k,.ip I b] ⟨FG n k o a b,I,FH n k o a b⟩:=oE hvc
def KC0: Kt:=kOr 140 (ax [.row C,.val I,.val I] (λ(c,a,b,_)=>countP c.1 c.2.1 c.2.2 a b) λ(c,a,b,_)=>.dat I (ot c.2.1 c.2.2 a b)) <|
 kOr 103 (ax [.ptr N,.val I,.val I,.val I] (λ(n,k,o,t,_)=>aA9 n k o t) λ(n,k,o,t,_)=>.tup [.dat I (TK n k o t),.dat I (Zf n k o t)]) <|
 kOr 116 (ax [.ptr N,.val I,.val I,.val I,.val I] (λ_=>True) λ(n,k,o,a,b,_)=>.fn 173 [.ip I a,.ipv (.ip N n),.ip I o,.ip I k,.ip I b]) KR5
def aBo: Cfg:=mkp KC0 (λ_=>false) KPw (λf=>f==97||f==95||f==102)
theorem Qi(k o d cut:Int)(nx:Lj)(cs:LC)(ns os:LB)(fs:Lo)(ls:Ll)(ks:Lk)(hvc:
 let c1:=(cs,ns,os,fs,ls,ks);let c2:=je c1 nx o d cut;let c3:=isZero c2;let c4:=wa c1 nx k o d cut;let c5:=isZero c4;let c6:=chainOf (Value.iface (39) (Value.int IntKind.i64 c4));let c7:=uq c1 nx o d cut;let c8:=Df c7;let c9:=c8-1;let c10:=(Du c7 (Dc c9) ((0:Int),(0:Int),(0:Int),(0:Int))).2.1;let c11:=Zf c1 k d c10;let c12:=isZero c11;let c13:=aB c1 d;let c18:=TK c1 k d c10;let c19:=gY c13.1 cut;let c20:=gY c13.1 c18;let c21:=ot c13.2.1 c13.2.2 c19 c20;let c22:=Ed c21 0;true/\(zb c1 nx k o d cut->(true->Gk c1 nx o d cut/\(c3=false->c5=false/\true/\chainOf (Value.iface (39) (Value.int IntKind.i64 c2))=c6))/\((true->c3)->(Gk c1 nx o d cut/\c3)/\inR .i64 c9/\0<=c9/\c9<c8/\aA9 c1 k d c10/\(true->True/\(c12=false->c5=false/\true/\chainOf (Value.iface (39) (Value.int IntKind.i64 c11))=c6))/\((true->c12)->(True/\c12)/\my c1 d/\1=1/\0=0/\1=1/\0=0/\ga c13.1 c13.2.1 c13.2.2 cut/\1=1/\0=0/\ga c13.1 c13.2.1 c13.2.2 c18/\1=1/\0=0/\countP c13.1 c13.2.1 c13.2.2 c19 c20/\(true->True/\(c22=false->c5=false/\true/\chainOf (Value.iface (39) (Value.int IntKind.i64 (1:Int)))=c6))/\((true->c22)->(True/\c22)/\c5/\c21=Yv c1 nx k o d cut/\True))))):
  evC aBo az 117 [.ip N (cs,ns,os,fs,ls,ks),.dat M nx,.dat I k,.dat I o,.dat I d,.dat I cut] (.dat I (Yv (cs,ns,os,fs,ls,ks) nx k o d cut)) ⟨zb (cs,ns,os,fs,ls,ks) nx k o d cut,isZero (wa (cs,ns,os,fs,ls,ks) nx k o d cut),um 39 (wa (cs,ns,os,fs,ls,ks) nx k o d cut)⟩:=oE hvc
def KC1: Kt:=kOr 117 (ax [.ptr N,.val M,.val I,.val I,.val I,.val I] (λ(n,nx,k,o,d,c,_)=>zb n nx k o d c/\isZero (wa n nx k o d c)=true) λ(n,nx,k,o,d,c,_)=>.dat I (Yv n nx k o d c)) KC0
def aEU: KPt:=pOr 117 (uG [.ptr N,.val M,.val I,.val I,.val I,.val I] λ(n,nx,k,o,d,c,_)=>⟨zb n nx k o d c,isZero (wa n nx k o d c),um 39 (wa n nx k o d c)⟩) KPw
def KIC: FuncId->List AV->Option i9:=λf caps=>if f=173 then match ofK [.ptr I,.bp N,.ptr I,.ptr I,.ptr I] caps with
 | some (a,n,o,k,b,_)=>some ⟨FG n k o a b,I,FH n k o a b⟩
 | none=>none
 else none
noncomputable def aBm: Cfg:=⟨Tryz.prog,G0,KC1,λ_=>false,KIC,true,aEU,λf=>f==117⟩
def aDz(n:Net)(nx:Lj)(k o d a b:Int): Ann:=⟨λid s=>match id with
 | 4=>some {α:=Nat,inv:=λj=>Bh n nx k o d a b j,st:=λj=>ie (flat s) 0 (.var [.dat I (Ph n nx k o d a b j)]),μ:=λj=>j}
 | _=>none,λ_ _=>none,λ_ _=>none⟩
theorem Qh(k o d a b:Int)(nx:Lj)(n:Net)(hvc:
 let c1:=1440*a;let c2:=1440*b;let c3:=FH n k o c1 c2;let c4:=sV n nx k o d a b;(true/\true)/\(cellP n nx k o d a b->true/\1=1/\0=0/\inR .i64 c1/\inR .i64 c2/\True/\FG n k o c1 c2/\(∃x,Bh n nx k o d a b x/\x=0/\n=n/\nx=nx/\k=k/\o=o/\d=d/\a=a/\b=b/\n=n/\nx=nx/\k=k/\o=o/\d=d/\1=1/\0=0/\0=0/\1=1/\0=0/\0=0/\n=n/\k=k/\o=o/\a=a/\c1=c1/\b=b/\c2=c2/\c1=c1/\n=n/\o=o/\k=k/\c2=c2/\(-1:Int)=Ph n nx k o d a b x/\1=1/\0=0/\0=0/\True)/\(∀(x:Nat),let c5:=Ph n nx k o d a b x;∀(y:Int),let c6:=isZero (wa n nx k o d y);Bh n nx k o d a b x->lF c3 x y->1=1/\0=0/\zb n nx k o d y/\(c6->1=1/\0=0/\(zb n nx k o d y/\c6)/\1=1/\0=0/\∃z,Bh n nx k o d a b z/\z=x+(1)/\n=n/\nx=nx/\k=k/\o=o/\d=d/\a=a/\b=b/\n=n/\nx=nx/\k=k/\o=o/\d=d/\1=1/\0=0/\0=0/\1=1/\0=0/\0=0/\n=n/\k=k/\o=o/\a=a/\c1=c1/\b=b/\c2=c2/\c1=c1/\n=n/\o=o/\k=k/\c2=c2/\Ez c5 (Yv n nx k o d y)=Ph n nx k o d a b z/\1=1/\0=0/\0=0/\True)/\(c6=false->true/\true/\(Di false->1=1/\0=0/\1=1/\0=0/\(-1:Int)=c4/\True)/\(Di false=false->1=1/\0=0/\c5=c4/\True)))/\∀(x:Nat),Bh n nx k o d a b x->x=Dk c3->1=1/\0=0/\1=1/\0=0/\true/\true/\(Di true->1=1/\0=0/\1=1/\0=0/\(-1:Int)=c4/\True)/\(Di true=false->1=1/\0=0/\Ph n nx k o d a b x=c4/\True))):
  evR aBm (λ_ _ _=>none) az (aDz n nx k o d a b) az 55 [.ip N n,.dat M nx,.dat I k,.dat I o,.dat I d,.dat I a,.dat I b] ⟨cellP n nx k o d a b,.dat I (sV n nx k o d a b),[]⟩:=oE hvc
theorem WY(k o t:Int)(cs:LC)(ns os:LB)(fs:Lo)(ls:Ll)(ks:Lk): af Tryz.prog G0 103 [.ip N (cs,ns,os,fs,ls,ks),.dat I k,.dat I o,.dat I t] [] ⟨aA9 (cs,ns,os,fs,ls,ks) k o t,.tup [.dat I (TK (cs,ns,os,fs,ls,ks) k o t),.dat I (Zf (cs,ns,os,fs,ls,ks) k o t)],[]⟩:=by
 refine ae (c:=mkc KR5) aEF aL hm (VX k o t cs ns os fs ls ks ⟨rfl,λhp=>?_⟩)
 simp only[qc,Dh,Es,Di,qd,Dt,Eb,Dy,Dp,Ei,Eh,Ed,Ew,Df,Et,Dl,Dn,Eo,Dz,Dw,Dj,Dq,Ee,Fe,Dc,Dx,Dk,Ec,Em,Du,Eu,Ez,En,Ef,Fg,Fj,Fh,Ep,Ej,Ey,Fb];obtain⟨⟨ho,hk⟩,t0,t1⟩:=hp;have hr:=MS (t:=t) cs ns os fs ls ks ho;have hv:=(gq cs ns os fs ls ks ho).2.2.1;have hc:=(tY cs ns os fs ls ks ho.1 hk).2
 exact⟨ho,hk.1,hk.2,⟨ho,by omega,by omega⟩,⟨hv,hc.1,by show(bI (cs,ns,os,fs,ls,ks) k).2.2<1440;omega,by omega,by omega⟩,rfl,rfl⟩
theorem WZ(k o a b:Int)(n:Net): af Tryz.prog G0 116 [.ip N n,.dat I k,.dat I o,.dat I a,.dat I b] [] ⟨True,.fn 173 [.ip I a,.ipv (.ip N n),.ip I o,.ip I k,.ip I b],[]⟩:=
 ae (c:=mkc KR2) uK aL hm (Qj k o a b n ⟨rfl,λ_=>⟨rfl,rfl,rfl,rfl,rfl,trivial⟩⟩)
theorem W0(k o a b:Int)(n:Net): mC Tryz.prog G0 173 [.ip I a,.ipv (.ip N n),.ip I o,.ip I k,.ip I b] ⟨FG n k o a b,I,FH n k o a b⟩:=by
 refine jq (c:=mkc KR3) (A:=aAL n k o a b) aCi aL hm (Qk k o a b n ⟨rfl,rfl,rfl,rfl,λl ⟨hoff,hcl,a0,hab,b1⟩=>?_⟩)
 have eN:(n.1,n.2.1,n.2.2.1,n.2.2.2.1,n.2.2.2.2.1,n.2.2.2.2.2)=n:=rfl;have eC:∀c:Int×List Bool×Li,(c.1,c.2.1,c.2.2)=c:=λ_=>rfl
 have eK:n.2.2.2.2.2.getD k.toNat (⟨#[]⟩,0,0)=bI n k:=rfl;have hv:aw (aB n o).1 (aB n o).2.1 (aB n o).2.2=true:=(gq n.1 n.2.1 n.2.2.1 n.2.2.2.1 n.2.2.2.2.1 n.2.2.2.2.2 hoff).2.2.1;obtain⟨⟨m0,m1⟩,_⟩:=tY n.1 n.2.1 n.2.2.1 n.2.2.2.1 n.2.2.2.2.1 n.2.2.2.2.2 hoff.1 hcl;have m0:0<=(bI n k).2.1:=m0;have m1:(bI n k).2.1<=1439:=m1
 simp only[qc,Dh,Es,Di,qd,Dt,Eb,Dy,Dp,Ei,Eh,Ed,Ew,Df,Et,Dl,Dn,Eo,Dz,Dw,Dj,Dq,Ee,Fe,Dc,Dx,Dk,Ec,Em,Du,Eu,Ez,En,Ef,Fg,Fj,Fh,Ep,Ej,Ey,Fb,eN,eC,eK,zZ,yC,vT,xG,false_and,and_false,exists_false,imp_false,qCj,reduceCtorEq];refine⟨⟨(0,a),⟨⟨by simp only;omega,by simp only;omega⟩,wW _,rfl⟩,rfl,rfl⟩,?_⟩
 rintro⟨j,t⟩ ⟨⟨t0,t1⟩,k1,hk⟩;simp only at t0 t1 k1 hk ⊢;have hU:(b-a).toNat+1-j=((b-a).toNat+1-(j+1))+1:=by omega
 have hst:Vp (aB n o) (bI n k).2.1 b ((b-a).toNat+1-j) t=if mB (aB n o) (bI n k).2.1 t=0 then if iz (aB n o) (bI n k).2.1 t<b then iz (aB n o) (bI n k).2.1 t::Vp (aB n o) (bI n k).2.1 b ((b-a).toNat+1-(j+1)) (iz (aB n o) (bI n k).2.1 t+1)else[]else[]:=by rw[hU];rfl
 rw[hst]at hk;have hlen:∀{l:Li},(FH n k o a b).drop j=l->(FH n k o a b).length=j+l.length:=λh=>by
  have:=yA List.length h;rw[vZ]at this;omega
 refine⟨hoff,hcl.1,hcl.2,⟨hv,m0,by omega,by omega,by omega⟩,λ⟨h1,h2⟩=>?_,λh=>?_⟩
 .have h2':iz (aB n o) (bI n k).2.1 t<b:=by omega
  obtain⟨b1,b2⟩:=lH hv h1 m0 m1;rw[if_pos h1,if_pos h2']at hk;have hl:=hlen hk;rw[vW]at hl;refine⟨?_,λbb=>⟨λh hb=>?_,λ⟨_,hb⟩=>⟨aM (by omega),(j+1,iz (aB n o) (bI n k).2.1 t+1),⟨⟨by simp only;omega,by simp only;omega⟩,by simp only;omega,?_⟩,⟨rfl,rfl,hb⟩,by simp only;omega⟩⟩⟩
  .show(FH n k o a b)[j]?=some _;have:=yA (λl=>l[0]?) hk
   simpa[qY]using this
  .rcases h with(h | h) | h
   .exact absurd h1 h
   .omega
   .rw[h]at hb;cases hb
  .show(FH n k o a b).drop (j+1)=_;have:=yA (List.drop 1) hk
   rwa [yH]at this
 .have:(FH n k o a b).drop j=[]:=by
   rw[hk];by_cases h1:mB (aB n o) (bI n k).2.1 t=0
   .rw[if_pos h1,if_neg (by omega)]
   .rw[if_neg h1]
  have hl:=hlen this;rw[yP]at hl;omega
theorem aEP: aj Tryz.prog G0 KC0:=ai (ag λ((z,w,h),a,b,_)=>L9 z w h a b)<|ai (ag λ((cs,ns,os,fs,ls,ks),k,o,t,_)=>WY k o t cs ns os fs ls ks)<|ai (ag λ(n,k,o,a,b,_)=>WZ k o a b n) aEF
theorem J5{n:Net}{nx:Lj}{o d t:Int}(h:uq n nx o d t≠[]): ((uq n nx o d t).getD ((uq n nx o d t).length-1) (0,0,0,0)).2.1=uo n (pN nx) o d t:=by
 show _=((uq n nx o d t).getLastD (0,0,0,0)).2.1;rw[kF,List.getLast?_eq_getElem?,qA]
theorem TM{n:Net}{nx:Lj}{k o d cut:Int}(h:je n nx o d cut≠0): wa n nx k o d cut=je n nx o d cut:=if_pos h
theorem TN{n:Net}{nx:Lj}{k o d cut:Int}(h:je n nx o d cut=0)(h2:FD n (pN nx) k o d cut≠0): wa n nx k o d cut=FD n (pN nx) k o d cut:=by
 unfold wa;rw[if_neg (λg=>g h),if_pos h2]
theorem HL{n:Net}{nx:Lj}{k o d cut:Int}(h:je n nx o d cut=0)(h2:FD n (pN nx) k o d cut=0): wa n nx k o d cut=if Vq n (pN nx) k o d cut<0 then 1 else 0:=by
 unfold wa;rw[if_neg (λg=>g h),if_neg (λg=>g h2)]
theorem LH(k o d cut:Int)(nx:Lj)(cs:LC)(ns os:LB)(fs:Lo)(ls:Ll)(ks:Lk): af Tryz.prog G0 117 [.ip N (cs,ns,os,fs,ls,ks),.dat M nx,.dat I k,.dat I o,.dat I d,.dat I cut] [] ⟨zb (cs,ns,os,fs,ls,ks) nx k o d cut/\isZero (wa (cs,ns,os,fs,ls,ks) nx k o d cut)=true,.dat I (Yv (cs,ns,os,fs,ls,ks) nx k o d cut),[]⟩/\cU Tryz.prog G0 117 [.ip N (cs,ns,os,fs,ls,ks),.dat M nx,.dat I k,.dat I o,.dat I d,.dat I cut] [] ⟨zb (cs,ns,os,fs,ls,ks) nx k o d cut,isZero (wa (cs,ns,os,fs,ls,ks) nx k o d cut),um 39 (wa (cs,ns,os,fs,ls,ks) nx k o d cut)⟩:=by
 refine dz (c:=aBo) aEP aL hm VB (Qi k o d cut nx cs ns os fs ls ks ⟨rfl,λhp=>?_⟩)
 obtain⟨n,hn⟩:∃n:Net,n=(cs,ns,os,fs,ls,ks):=⟨_,rfl⟩;rw[<- hn]at hp ⊢;obtain⟨hW,hcl⟩:=id hp;obtain⟨hs,ht,u0,u1,o0,o1,v0,v1⟩:=id hW;have hno:noF n=true:=bu n.1 n.2.1 n.2.2.1 n.2.2.2.1 n.2.2.2.2.1 n.2.2.2.2.2 hs;have hd:my n d:=⟨hno,o0,o1⟩;have hv:aw (aB n d).1 (aB n d).2.1 (aB n d).2.2=true:=(gq n.1 n.2.1 n.2.2.1 n.2.2.2.1 n.2.2.2.2.1 n.2.2.2.2.2 hd).2.2.1;obtain⟨⟨z1,z2,_,_⟩,_⟩:=cF.1 hv
 obtain⟨_,⟨m0,m1⟩⟩:=tY n.1 n.2.1 n.2.2.1 n.2.2.2.1 n.2.2.2.2.1 n.2.2.2.2.2 hno hcl;have m0:0<=(bI n k).2.2:=m0;have m1:(bI n k).2.2<=1439:=m1;simp only[qc,Dh,Es,Di,qd,Dt,Eb,Dy,Dp,Ei,Eh,Ed,Ew,Df,Et,Dl,Dn,Eo,Dz,Dw,Dj,Dq,Ee,Fe,Dc,Dx,Dk,Ec,Em,Du,Eu,Ez,En,Ef,Fg,Fj,Fh,Ep,Ej,Ey,Fb];refine⟨⟨hW,λhz=>?_⟩,λhz=>⟨⟨hW,hz⟩,?_⟩⟩
 .have hz0:=fk.1 hz;rw[TM hz0];exact⟨hz,rfl⟩
 have hz0:=cX.1 hz;obtain⟨w1,w2,w3,w4⟩:(uq n nx o d cut).length<=20/\uq n nx o d cut≠[]/\cut<=uo n (pN nx) o d cut/\uo n (pN nx) o d cut<=2200000:=CZ 19 o cut hW hz0;have hlen:0<(uq n nx o d cut).length:=List.length_pos_iff.2 w2;have eI:((uq n nx o d cut).length-1:Int).toNat=(uq n nx o d cut).length-1:=by omega
 rw[eI,J5 w2];obtain⟨T,hT⟩:∃T,T=uo n (pN nx) o d cut:=⟨_,rfl⟩;rw[<- hT]at w3 w4 ⊢;have eE:Zf n k d T=FD n (pN nx) k o d cut:=by rw[hT];rfl
 have eD:TK n k d T=aEu n (pN nx) k o d cut:=by rw[hT];rfl
 refine⟨aM (by omega),by omega,by omega,⟨⟨hd,hcl⟩,by omega,w4⟩,λh0=>?_,λh0=>⟨h0,hd,?_⟩⟩
 .have h00:=fk.1 h0;rw[eE]at h00 h0 ⊢;rw[TN hz0 h00];exact⟨h0,rfl⟩
 have h00:=cX.1 h0;have hf0:mB (aB n d) (bI n k).2.2 (aH n d T)=0:=h00;obtain⟨b1,b2⟩:=lH hv hf0 m0 m1;have hr:fB n d T:=⟨hd,by omega,by omega⟩
 obtain⟨_,_,r1,r2⟩:inR .i64 ((b7 n d).2.2.2.2.1*(b7 n d).2.2.2.2.2.1)/\inR .i64 (aH n d T)/\T<=aH n d T/\aH n d T<=T+960:=sx n.1 n.2.1 n.2.2.1 n.2.2.2.1 n.2.2.2.2.1 n.2.2.2.2.2 hr;have b1:aH n d T<=TK n k d T:=b1;have b2:TK n k d T<=aH n d T+90000:=b2;have dB:∀t:Int,0<=t->t<=3000000->bX (gY (aB n d).1 t)=true:=λt t0 t1=>jr (by unfold gY;omega) (by unfold gY;omega)
 have eV:ot (aB n d).2.1 (aB n d).2.2 (gY (aB n d).1 cut) (gY (aB n d).1 (TK n k d T))=Vq n (pN nx) k o d cut:=by rw[eD];rfl
 have eR:FD n (pN nx) k o d cut=0:=eE▸h00;refine⟨⟨hv,by omega,by omega⟩,⟨hv,by omega,by omega⟩,⟨hv,dB _ (by omega) (by omega),dB _ (by omega) (by omega)⟩,λh1=>?_,λh1=>⟨h1,?_,eV⟩⟩
 .rw[eV]at h1;rw[HL hz0 eR,if_pos (by omega)];exact⟨rfl,rfl⟩
 .rw[eV]at h1;rw[HL hz0 eR,if_neg (by omega)];rfl
theorem aBB: aj Tryz.prog G0 KC1:=ai (ag λ((cs,ns,os,fs,ls,ks),nx,k,o,d,c,_)=>(LH k o d c nx cs ns os fs ls ks).1) aEP
theorem YW: bL Tryz.prog G0 aEU:=ik (iZ λ((cs,ns,os,fs,ls,ks),nx,k,o,d,c,_)=>(LH k o d c nx cs ns os fs ls ks).2) VB
theorem aBM: br Tryz.prog G0 KIC:=by
 intro f caps it h;unfold KIC at h;split at h
 case isFalse=>cases h
 rename_i hf;subst hf;split at h
 case h_2=>cases h
 rename_i a n o k b _ hx;cases h;exact λhp l J JX JP w D us hD hG hu=>W0 k o a b n hp l J JX JP w D us hD hG (eZ hx hu)
theorem TP{n:Net}{k o a b x:Int}(h:FG n k o a b)(hx:x∈FH n k o a b): a<=x/\x<b:=by
 have hv:aw (aB n o).1 (aB n o).2.1 (aB n o).2.2=true:=(gq n.1 n.2.1 n.2.2.1 n.2.2.2.1 n.2.2.2.2.1 n.2.2.2.2.2 h.1).2.2.1;obtain⟨⟨m0,m1⟩,_⟩:=tY n.1 n.2.1 n.2.2.1 n.2.2.2.1 n.2.2.2.2.1 n.2.2.2.2.2 h.1.1 h.2.1;have m0:0<=(bI n k).2.1:=m0;have m1:(bI n k).2.1<=1439:=m1;have:∀(f:Nat) (t:Int),x∈Vp (aB n o) (bI n k).2.1 b f t->t<=x/\x<b:=λf=>by
  induction f with
  | zero=>intro t h;cases h
  | succ f ih=>
   intro t h;rw[Vp]at h;split at h
   .rename_i he;obtain⟨b1,b2⟩:=lH hv he m0 m1;split at h
    .rcases zL.1 h with rfl | h
     .exact⟨b1,by assumption⟩
     .have:=ih _ h;omega
    .cases h
   .cases h
 exact this _ _ hx
theorem X0{n:Net}{nx:Lj}{k o d a b y:Int}{j:Nat}(h:(Jv n k o a b)[j]?=some y): Ph n nx k o d a b (j+1)=max (Ph n nx k o d a b j) (Yv n nx k o d y):=by
 unfold Ph;rw[wX,h,qBk,yY,qBr];rfl
theorem WX(k o d a b:Int)(nx:Lj)(n:Net): af Tryz.prog G0 55 [.ip N n,.dat M nx,.dat I k,.dat I o,.dat I d,.dat I a,.dat I b] [] ⟨cellP n nx k o d a b,.dat I (sV n nx k o d a b),[]⟩:=by
 refine pK (c:=aBm) (λ_ _ _ _ h=>by cases h) aBB aBM hm YW (Qh k o d a b nx n ⟨⟨rfl,rfl⟩,λhp=>?_⟩)
 simp only[qc,Dh,Es,Di,qd,Dt,Eb,Dy,Dp,Ei,Eh,Ed,Ew,Df,Et,Dl,Dn,Eo,Dz,Dw,Dj,Dq,Ee,Fe,Dc,Dx,Dk,Ec,Em,Du,Eu,Ez,En,Ef,Fg,Fj,Fh,Ep,Ej,Ey,Fb];obtain⟨⟨hs,ht,a0,ab,b6,b60⟩,hcl,ho,hd⟩:=id hp;have hno:noF n=true:=bu n.1 n.2.1 n.2.2.1 n.2.2.2.1 n.2.2.2.2.1 n.2.2.2.2.2 hs;have hX:FG n k o (1440*a) (1440*b):=⟨⟨hno,ho.1,ho.2⟩,hcl,by omega,by omega,by omega⟩
 have hcB:FH n k o (1440*a) (1440*b)=Jv n k o a b:=rfl;refine⟨aM (by omega),aM (by omega),hX,⟨0,⟨hp,wW _,λi hi=>by omega⟩,rfl,rfl⟩,λx y hx hy=>?_,λx hx hl=>?_⟩
 .have hy:(Jv n k o a b)[x]?=some y:=hy;have hxl:x<(Jv n k o a b).length:=(qF.1 hy).1;have ey:(Jv n k o a b).getD x 0=y:=by rw[qA,hy];rfl
  obtain⟨y0,y1⟩:=TP hX (zH hy);have hD:zb n nx k o d y:=⟨⟨hs,ht,ho.1,ho.2,hd.1,hd.2,by omega,by omega⟩,hcl⟩
  refine⟨hD,λhz=>⟨⟨hD,hz⟩,x+1,⟨hp,hxl,λi hi=>?_⟩,rfl,(X0 hy).symm⟩,λhz=>?_⟩
  .by_cases h3:i<x
   .exact hx.2.2 i h3
   .have:i=x:=by omega
    rw[this,ey];exact cX.1 hz
  .have hz0:=fk.1 hz;have eg:∀i:Nat,i<(Jv n k o a b).length->((Jv n k o a b).map (wa n nx k o d)).getD i 0=wa n nx k o d ((Jv n k o a b).getD i 0):=λi hi=>by
    rw[qA,qP,qA,qB hi];rfl
   have hE:Nk n nx k o d a b=wa n nx k o d y:=by
    unfold Nk;rw[yp (j:=x) (by rw[vV];exact hxl) (λi hi=>by rw[eg i (by omega)];exact hx.2.2 i hi) (by rw[eg x hxl,ey];exact hz0),eg x hxl,ey]
   have hF:sV n nx k o d a b=-1:=by
    unfold sV;rw[if_neg (by rw[hE];exact hz0)]
   rw[hF];simp
 .have hE:Nk n nx k o d a b=0:=by
   unfold Nk;refine tH λi hi=>?_
   rw[vV]at hi;rw[qA,qP,qB hi];have:=hx.2.2 i (by rw[hl];exact hi)
   rw[qA,qB hi]at this;exact this
  have hF:sV n nx k o d a b=Ph n nx k o d a b x:=by
   unfold sV;rw[if_pos hE,hl];rfl
  rw[hF];simp
end Go.Eng.Sv
set_option maxRecDepth 100000
noncomputable section
namespace Go.Eng.Sv
open Go.Proofs
def aBX(n:Net)(nx:Lj)(k o a b:Int): Li:=(List.range n.2.2.2.1.length).map λd:Nat=>sV n nx k o d a b
def aBT(n:Net)(nx:Lj)(k a b:Int): Lj:=(List.range n.2.2.2.1.length).map λo:Nat=>aBX n nx k o a b
def QZ(n:Net)(nx:Lj)(a b:Int): Bool:=decide (0<=a/\a<b/\b<=600/\b-a<=60)&&(bj n&&mQ n nx)
def JY(n:Net)(nx:Lj)(a b:Int): List (Lj):=if QZ n nx a b=true then(List.range n.2.2.2.2.2.length).map λk:Nat=>aBT n nx k a b else[]
def upF{α:Type}(g:Int->α)(z:α)(l k:Int): List α:=((List.range k.toNat).map λi:Nat=>g i)++List.replicate (l-k).toNat z
def upI(g:Int->Int)(l k:Int): Li:=upF g 0 l k
def JW(g:Int->Li)(l k:Int): Lj:=upF g [] l k
def upM(g:Int->Lj)(l k:Int): List (Lj):=upF g [] l k
def mU(l:Int)(p:Int->Prop): Prop:=(0<=l/\l<=1000000)/\∀i,0<=i->i<l->p i
def toI(l k:Int): Prop:=0<=k/\k<=l
def Ni(n:Net)(nx:Lj)(k o a b d:Int): Prop:=cellP n nx k o d a b
def Nj(n:Net)(nx:Lj)(k o a b d:Int): Int:=sV n nx k o d a b
def MO(n:Net)(nx:Lj)(k a b o:Int): Prop:=aCB n nx a b/\CW n k/\aDx n o
def IT(n:Net)(nx:Lj)(k a b o:Int): Li:=aBX n nx k o a b
def Ld(n:Net)(nx:Lj)(a b k:Int): Prop:=aCB n nx a b/\CW n k
def C9(n:Net)(nx:Lj)(a b k:Int): Lj:=aBT n nx k a b
def aAE(l:Int)(g:Int->Int): Ann:=⟨λid s=>match id with
 | 3=>match s.sig.T 5 with
  | .buf nm _=>some {α:=Int,inv:=λk=>toI l k,st:=λk=>ie (put s [(11,.dat I k)]) nm (.buf 3 I (upI g l k) []),μ:=λk=>Dc (Dj l k)}
  | _=>none
 | _=>none,λ_ _=>none,λ_ _=>none⟩
def aAC(l:Int)(g:Int->Li): Ann:=⟨λid s=>match id with
 | 3=>match s.sig.T 5 with
  | .buf nm _=>some {α:=Int,inv:=λk=>toI l k,st:=λk=>ie (put s [(11,.dat I k)]) nm (.buf 36 R (JW g l k) []),μ:=λk=>Dc (Dj l k)}
  | _=>none
 | _=>none,λ_ _=>none,λ_ _=>none⟩
def aAD(l:Int)(g:Int->Lj): Ann:=⟨λid s=>match id with
 | 3=>match s.sig.T 5 with
  | .buf nm _=>some {α:=Int,inv:=λk=>toI l k,st:=λk=>ie (put s [(11,.dat I k)]) nm (.buf 32 M (upM g l k) []),μ:=λk=>Dc (Dj l k)}
  | _=>none
 | _=>none,λ_ _=>none,λ_ _=>none⟩
theorem P9(l:Int)(p:Int->Prop)(g:Int->Int)(hvc:
 let c6:=Dc l;let c5:=Ty.int IntKind.i64;let c1:=Ep l (0:Int);true/\(mU l p->0<=l/\(Dx (8)*l)<=281474976710656/\l<=9223372036854775807/\Dk c1=Dc l/\(∃x,toI l x/\AV.clo1 c5 c5 p g=AV.clo1 c5 c5 p g/\Value.slice none (0) (0)=Value.slice none (0) (0)/\Dc l=Dc l/\Int.ofNat c6=Int.ofNat c6/\0=x/\c1=upI g l x/\True)/\∀(x:Int),let c2:=Dp x (Int.ofNat c6);let c3:=Dk (upI g l x);let c4:=x+1;toI l x->(c2->p x/\c3=Dc l/\0<=x/\x<Dx c3/\c3=Dc l/\inR .i64 c4/\∃y,toI l y/\(AV.clo1 c5 c5 p g=AV.clo1 c5 c5 p g/\Value.slice none (0) (0)=Value.slice none (0) (0)/\Dc l=Dc l/\Int.ofNat c6=Int.ofNat c6/\c4=y/\En (upI g l x) (Dc x) (g x)=upI g l y/\True)/\Dc (l-y)<Dc (l-x))/\(c2=false->c3=Dc l/\upI g l x=upI g l l/\True))):
  evF (mkc KC1) (lvA [(3,[1,4,5,6,10,11])] (aAE l g)) 53 [.dat I l,.clo1 I I p g] [] ⟨mU l p,.dat R (upI g l l),[]⟩:=oE hvc
theorem P7 (l : Int) (p : Int → Prop) (g : Int → Li) (hvc :
 let c1 := Ep l (Dt Int); true = true ∧ (mU l p → Dl (0 : Int) l ∧ Dl (Ee (Dx (24)) l) (281474976710656 : Int) ∧ Dl l
  (9223372036854775807 : Int) ∧ Dk c1 = Dc l ∧ (∃ x, toI l x ∧ AV.clo1 (Ty.int IntKind.i64) (Ty.int IntKind.i64).sl p g = AV.clo1 (Ty.int IntKind.i64)
  (Ty.int IntKind.i64).sl p g ∧ Value.slice none (0) (0) = Value.slice none (0) (0) ∧ Dc l = Dc l ∧ Int.ofNat (Dc l) = Int.ofNat (Dc l) ∧ (0 : Int) =
  x ∧ c1 = JW g l x ∧ True) ∧ ∀ (x : Int),
 let c2 := Dp x (Int.ofNat (Dc l));
 let c3 := Dk (JW g l x);
 let c4 := Dq x (1 : Int); toI l x → (c2 = true → p x ∧ c3 = Dc l ∧ Dl (0 : Int) x ∧ Dn x (Dx c3) ∧ c3 = Dc l ∧ inR .i64 c4 ∧ ∃ y, toI l
  y ∧ (AV.clo1 (Ty.int IntKind.i64) (Ty.int IntKind.i64).sl p g = AV.clo1 (Ty.int IntKind.i64) (Ty.int IntKind.i64).sl p g ∧ Value.slice none (0) (0) =
  Value.slice none (0) (0) ∧ Dc l = Dc l ∧ Int.ofNat (Dc l) = Int.ofNat (Dc l) ∧ c4 = y ∧ En (JW g l x) (Dc x) (g x) = JW g l y ∧ True) ∧
  Dw (Dc (Dj l y)) (Dc (Dj l x))) ∧ (c2 = false → c3 = Dc l ∧ JW g l x = JW g l l ∧ True))) :
    evF (mkc KC1) (lvA [(3, [1, 4, 5, 6, 10, 11])] (aAC l g)) 51 [.dat I l, .clo1 I R p g] [] ⟨mU l p, .dat M (JW g l l), []⟩ := oE hvc
theorem P8 (l : Int) (p : Int → Prop) (g : Int → Lj) (hvc :
 let c1 := Ep l (Dt (Li)); true = true ∧ (mU l p → Dl (0 : Int) l ∧ Dl (Ee (Dx (24)) l) (281474976710656 : Int) ∧ Dl l
  (9223372036854775807 : Int) ∧ Dk c1 = Dc l ∧ (∃ x, toI l x ∧ AV.clo1 (Ty.int IntKind.i64) (Ty.int IntKind.i64).sl.sl p g = AV.clo1 (Ty.int IntKind.i64)
  (Ty.int IntKind.i64).sl.sl p g ∧ Value.slice none (0) (0) = Value.slice none (0) (0) ∧ Dc l = Dc l ∧ Int.ofNat (Dc l) = Int.ofNat (Dc l) ∧ (0 :
  Int) = x ∧ c1 = upM g l x ∧ True) ∧ ∀ (x : Int),
 let c2 := Dp x (Int.ofNat (Dc l));
 let c3 := Dk (upM g l x);
 let c4 := Dq x (1 : Int); toI l x → (c2 = true → p x ∧ c3 = Dc l ∧ Dl (0 : Int) x ∧ Dn x (Dx c3) ∧ c3 = Dc l ∧ inR .i64 c4 ∧ ∃ y, toI l
  y ∧ (AV.clo1 (Ty.int IntKind.i64) (Ty.int IntKind.i64).sl.sl p g = AV.clo1 (Ty.int IntKind.i64) (Ty.int IntKind.i64).sl.sl p g ∧ Value.slice none (0) (0) =
  Value.slice none (0) (0) ∧ Dc l = Dc l ∧ Int.ofNat (Dc l) = Int.ofNat (Dc l) ∧ c4 = y ∧ En (upM g l x) (Dc x) (g x) = upM g l y ∧ True) ∧
  Dw (Dc (Dj l y)) (Dc (Dj l x))) ∧ (c2 = false → c3 = Dc l ∧ upM g l x = upM g l l ∧ True))) :
    evF (mkc KC1) (lvA [(3, [1, 4, 5, 6, 10, 11])] (aAD l g)) 49 [.dat I l, .clo1 I M p g] [] ⟨mU l p, .dat (.sl M) (upM g l l), []⟩ := oE hvc
def KC2: Kt:=kOr 55 (ax [.ptr N,.val M,.val I,.val I,.val I,.val I,.val I] (λ(n,nx,k,o,d,a,b,_)=>cellP n nx k o d a b) λ(n,nx,k,o,d,a,b,_)=>.dat I (sV n nx k o d a b)) KC1
theorem VQ(d k o a b:Int)(nx:Lj)(n:Net)(hvc:
 true/\(Ni n nx k o a b d->cellP n nx k o d a b/\sV n nx k o d a b=Nj n nx k o a b d/\True)):
  evF (mkc KC2) az 54 [.dat I d,.ip N n,.ip M nx,.ip I k,.ip I o,.ip I a,.ip I b] [] ⟨Ni n nx k o a b d,.dat I (Nj n nx k o a b d),[]⟩:=oE hvc
def MK(args:List AV)(m:Mem): Option jD:=match m,args with
 | [],[.dat (.int .i64) l,.fn f caps]=>if f=54 then match ofK [.ptr N,.ptr M,.ptr I,.ptr I,.ptr I,.ptr I] caps with
  | some (n,nx,k,o,a,b,_)=>some ⟨mU l (Ni n nx k o a b),.dat R (upI (Nj n nx k o a b) l l),[]⟩
  | none=>none
  else none
 | _,_=>none
def KC3: Kt:=kOr 53 MK KC2
theorem VR(o k a b:Int)(nx:Lj)(n:Net)(hvc:
 let c1:=Df n.2.2.2.1;true/\(MO n nx k a b o->mU c1 (Ni n nx k o a b)/\upI (Nj n nx k o a b) c1 c1=IT n nx k a b o/\True)):
  evF (mkc KC3) az 52 [.dat I o,.ip N n,.ip M nx,.ip I k,.ip I a,.ip I b] [] ⟨MO n nx k a b o,.dat R (IT n nx k a b o),[]⟩:=oE hvc
def MG(args:List AV)(m:Mem): Option jD:=match m,args with
 | [],[.dat (.int .i64) l,.fn f caps]=>if f=52 then match ofK [.ptr N,.ptr M,.ptr I,.ptr I,.ptr I] caps with
  | some (n,nx,k,a,b,_)=>some ⟨mU l (MO n nx k a b),.dat M (JW (IT n nx k a b) l l),[]⟩
  | none=>none
  else none
 | _,_=>none
def KC4: Kt:=kOr 51 MG KC3
theorem VS(k a b:Int)(nx:Lj)(n:Net)(hvc:
 let c1:=Df n.2.2.2.1;true/\(Ld n nx a b k->mU c1 (MO n nx k a b)/\JW (IT n nx k a b) c1 c1=C9 n nx a b k/\True)):
  evF (mkc KC4) az 50 [.dat I k,.ip N n,.ip M nx,.ip I a,.ip I b] [] ⟨Ld n nx a b k,.dat M (C9 n nx a b k),[]⟩:=oE hvc
def MI(args:List AV)(m:Mem): Option jD:=match m,args with
 | [],[.dat (.int .i64) l,.fn f caps]=>if f=50 then match ofK [.ptr N,.ptr M,.ptr I,.ptr I] caps with
  | some (n,nx,a,b,_)=>some ⟨mU l (Ld n nx a b),.dat (.sl M) (upM (C9 n nx a b) l l),[]⟩
  | none=>none
  else none
 | _,_=>none
def KC5: Kt:=kOr 49 MI KC4
theorem Ku(nx:Lj)(a b:Int)(cs:LC)(ns os:LB)(fs:Lo)(ls:Ll)(ks:Lk)(hvc:
 let c1:=Dp a 0;let c2:=Di c1;let c3:=Ea c1 true (Eh b a);let c4:=Di c3;let c5:=Ea c3 true (Ei b 600);let c6:=Di c5;let c14:=c6->c6->c6;let c7:=Ea c5 true (Ei (b-a) 60);let c8:=(cs,ns,os,fs,ls,ks);let c9:=JY c8 nx a b;let c10:=Di (bj c8);let c11:=Di c10;let c12:=Ea c10 true (Di (mQ c8 nx));let c13:=Df ks;true/\(cC nx->(c2->c2->c2)/\(c2->c2->c2)/\(Dh true c2->c2)/\(c4->c4->c4)/\(Dh true c4->c4)/\c14/\c14/\(c6->inR .i64 (b-a))/\c14/\(Dh true c6->c6)/\(c7->c9=Dt (Lj)/\True)/\(c7=false->True/\(c11->c11->c11)/\(c11->cC nx)/\(c11->c11->c11)/\(Dh true c11->c11)/\(c12->c9=Dt (Lj)/\True)/\(c12=false->mU c13 (Ld c8 nx a b)/\upM (C9 c8 nx a b) c13 c13=c9/\True)))):
  evF (mkc KC5) az 13 [net cs ns os fs ls ks,.dat M nx,.dat I a,.dat I b] [] ⟨cC nx,.dat (.sl M) (JY (cs,ns,os,fs,ls,ks) nx a b),[]⟩:=oE hvc
theorem rI{α:Type}{g:Int->α}{z:α}{l k:Int}(h:toI l k): (upF g z l k).length=l.toNat:=by
 obtain⟨h1,h2⟩:=h;unfold upF;rw[qG,vV,vX,wG];omega
theorem nz{α:Type}{g:Int->α}{z:α}{l:Int}: List.replicate l.toNat z=upF g z l 0:=by
 unfold upF;simp
theorem oQ{α:Type}{g:Int->α}{z:α}{l:Int}: upF g z l l=(List.range l.toNat).map λi:Nat=>g i:=by
 unfold upF;simp
theorem wy{α:Type}{g:Int->α}{z:α}{l k:Int}(k0:0<=k)(k1:k<l): (upF g z l k).set k.toNat (g k)=upF g z l (k+1):=by
 unfold upF;have e:(k+1).toNat=k.toNat+1:=by omega
 have e2:(l-k).toNat=(l-(k+1)).toNat+1:=by omega
 rw[e,e2,zT,yY,qBf,List.set_append,if_neg (by simp)]
 rw[vV,vX,qCc,List.set_cons_zero,List.map_singleton,wL];have e3:((k.toNat:Nat):Int)=k:=by omega
 rw[e3];rfl
theorem rows_ok{α:Type}{g:Int->α}{z:α}{l:Int}{p:Int->Prop}(l0:0<=l)(l1:l<=1000000)(hp:∀i,0<=i->i<l->p i){q:Int->Prop}{m:Int}(hm:m<=100)(m0:0<=m)(hq:∀x,0<=x/\x<=1000001->q x):
  0<=l/\m*l<=281474976710656/\l<=9223372036854775807/\(List.replicate l.toNat z).length=l.toNat/\(∃x,toI l x/\0=x/\List.replicate l.toNat z=upF g z l x)/\
  ∀x,toI l x->(x<((l.toNat:Nat):Int)->p x/\(upF g z l x).length=l.toNat/\0<=x/\x<((upF g z l x).length:Int)/\(upF g z l x).length=l.toNat/\q (x+1)/\∃y,toI l y/\(x+1=y/\(upF g z l x).set x.toNat (g x)=upF g z l y)/\(l-y).toNat<(l-x).toNat)/\
   (¬x<((l.toNat:Nat):Int)->(upF g z l x).length=l.toNat/\upF g z l x=upF g z l l):=by
 have hml:m*l<=100*1000000:=xI hm l1 l0 (by omega)
 refine⟨l0,by omega,by omega,by simp,⟨0,⟨by omega,l0⟩,rfl,nz⟩,λx hx=>⟨λhlt=>?_,λhge=>?_⟩⟩
 .have hl:=rI (g:=g) (z:=z) hx;have h0:=hx.1;exact⟨hp x h0 (by omega),hl,h0,by omega,hl,hq _ (by omega),x+1,⟨by omega,by omega⟩,⟨rfl,wy h0 (by omega)⟩,by omega⟩
 .have hl:=rI (g:=g) (z:=z) hx;obtain⟨h0,h1⟩:=hx;exact⟨hl,by rw[show x=l by omega]⟩
theorem WT(l:Int)(p:Int->Prop)(g:Int->Int): af Tryz.prog G0 53 [.dat I l,.clo1 I I p g] [] ⟨mU l p,.dat R (upI g l l),[]⟩:=by
 refine ae (c:=mkc KC1) aBB aL hm (P9 l p g ⟨rfl,λhp=>?_⟩)
 obtain⟨⟨l0,l1⟩,hp⟩:=hp;simp only[qc,Dh,Es,Di,qd,Dt,Eb,Dy,Dp,Ei,Eh,Ed,Ew,Df,Et,Dl,Dn,Eo,Dz,Dw,Dj,Dq,Ee,Fe,Dc,Dx,Dk,Ec,Em,Du,Eu,Ez,En,Ef,Fg,Fj,Fh,Ep,Ej,Ey,Fb];exact rows_ok l0 l1 hp (by omega) (by omega) (λx hx=>aM (by omega))
theorem WR (l : Int) (p : Int → Prop) (g : Int → Li) : af Tryz.prog G0 51 [.dat I l, .clo1 I R p g] [] ⟨mU l p, .dat M (JW g l l), []⟩ := by
  refine ae (c := mkc KC1) aBB aL hm (P7 l p g ⟨rfl, fun hp => ?_⟩)
  obtain ⟨⟨l0, l1⟩, hp⟩ := hp
  simp only [qc, Dh, Es, Di, qd, Dt, Eb, Dy, Dp, Ei, Eh, Ed, Ew, Df, Et, Dl, Dn, Eo, Dz, Dw, Dj, Dq, Ee, Fe, Dc, Dx, Dk, Ec, Em, Du, Eu, Ez, En, Ef, Fg, Fj, Fh, Ep, Ej, Ey, Fb]
  exact rows_ok l0 l1 hp (by omega) (by omega) (fun x hx => aM (by omega))
theorem WS (l : Int) (p : Int → Prop) (g : Int → Lj) : af Tryz.prog G0 49 [.dat I l, .clo1 I M p g] [] ⟨mU l p, .dat (.sl M) (upM g l l), []⟩ := by
  refine ae (c := mkc KC1) aBB aL hm (P8 l p g ⟨rfl, fun hp => ?_⟩)
  obtain ⟨⟨l0, l1⟩, hp⟩ := hp
  simp only [qc, Dh, Es, Di, qd, Dt, Eb, Dy, Dp, Ei, Eh, Ed, Ew, Df, Et, Dl, Dn, Eo, Dz, Dw, Dj, Dq, Ee, Fe, Dc, Dx, Dk, Ec, Em, Du, Eu, Ez, En, Ef, Fg, Fj, Fh, Ep, Ej, Ey, Fb]
  exact rows_ok l0 l1 hp (by omega) (by omega) (fun x hx => aM (by omega))
theorem aEO: aj Tryz.prog G0 KC2:=ai (ag λ(n,nx,k,o,d,a,b,_)=>WX k o d a b nx n) aBB
theorem oB(d k o a b:Int)(nx:Lj)(n:Net): af Tryz.prog G0 54 [.dat I d,.ip N n,.ip M nx,.ip I k,.ip I o,.ip I a,.ip I b] [] ⟨Ni n nx k o a b d,.dat I (Nj n nx k o a b d),[]⟩:=
 ae (c:=mkc KC2) aEO aL hm (VQ d k o a b nx n ⟨rfl,λhp=>⟨hp,rfl,trivial⟩⟩)
theorem tL{P:Program}{C:Ctx}{f:FuncId}{l:List AK}{caps:List AV}{x:AKs l}{v:Value}(h:ofK l caps=some x)(hv:(AV.fn f caps).rel P C v): (AV.fn f (avK l x)).rel P C v:=by
 obtain⟨us,rfl,hc⟩:=hv;exact⟨us,rfl,eZ h hc⟩
theorem MJ: ∀args m c,MK args m=some c->af Tryz.prog G0 53 args m c:=by
 intro args m c hc;unfold MK at hc;split at hc
 case h_2=>cases hc
 rename_i l f caps;split at hc
 case isFalse=>cases hc
 rename_i hf;subst hf;split at hc
 case h_2=>cases hc
 rename_i n nx k o a b _ hx;cases hc;exact(WT _ _ _).args λC us hG hu=>fQ hu λv hv=>jA (by kernel_rfl) rfl (λx=>oB x k o a b nx n) hG (tL hx hv)
theorem aEN: aj Tryz.prog G0 KC3:=ai MJ aEO
theorem YE(cs:LC)(ns os:LB)(fs:Lo)(ls:Ll)(ks:Lk)(h:noF (cs,ns,os,fs,ls,ks)=true): (ks.length:Int)<=4:=by
 have:=((rp (by decide)).1 (iO cs ns os fs ls ks h).2.2.2.2.2).1
 simpa[aE]using this
theorem lu(cs:LC)(ns os:LB)(fs:Lo)(ls:Ll)(ks:Lk)(h:bj (cs,ns,os,fs,ls,ks)=true): (fs.length:Int)<=12/\(ks.length:Int)<=1000000:=by
 have hno:=bu cs ns os fs ls ks h;exact⟨(fD cs ns os fs ls ks hno).1,by have:=YE cs ns os fs ls ks hno;omega⟩
theorem oF(o k a b:Int)(nx:Lj)(n:Net): af Tryz.prog G0 52 [.dat I o,.ip N n,.ip M nx,.ip I k,.ip I a,.ip I b] [] ⟨MO n nx k a b o,.dat R (IT n nx k a b o),[]⟩:=by
 refine ae (c:=mkc KC3) aEN aL hm (VR o k a b nx n ⟨rfl,λ⟨ht,hk,ho⟩=>?_⟩)
 simp only[qc,Dh,Es,Di,qd,Dt,Eb,Dy,Dp,Ei,Eh,Ed,Ew,Df,Et,Dl,Dn,Eo,Dz,Dw,Dj,Dq,Ee,Fe,Dc,Dx,Dk,Ec,Em,Du,Eu,Ez,En,Ef,Fg,Fj,Fh,Ep,Ej,Ey,Fb];obtain⟨q1,q2⟩:=lu n.1 n.2.1 n.2.2.1 n.2.2.2.1 n.2.2.2.2.1 n.2.2.2.2.2 ht.1;have q1:(n.2.2.2.1.length:Int)<=12:=q1;refine⟨⟨⟨by omega,by omega⟩,λd d0 d1=>⟨ht,hk,ho,d0,d1⟩⟩,?_⟩
 unfold upI IT aBX;rw[oQ,qW];rfl
theorem MF: ∀args m c,MG args m=some c->af Tryz.prog G0 51 args m c:=by
 intro args m c hc;unfold MG at hc;split at hc
 case h_2=>cases hc
 rename_i l f caps;split at hc
 case isFalse=>cases hc
 rename_i hf;subst hf;split at hc
 case h_2=>cases hc
 rename_i n nx k a b _ hx;cases hc;exact(WR _ _ _).args λC us hG hu=>fQ hu λv hv=>jA (by kernel_rfl) rfl (λx=>oF x k a b nx n) hG (tL hx hv)
theorem aEM: aj Tryz.prog G0 KC4:=ai MF aEN
theorem oT(k a b:Int)(nx:Lj)(n:Net): af Tryz.prog G0 50 [.dat I k,.ip N n,.ip M nx,.ip I a,.ip I b] [] ⟨Ld n nx a b k,.dat M (C9 n nx a b k),[]⟩:=by
 refine ae (c:=mkc KC4) aEM aL hm (VS k a b nx n ⟨rfl,λ⟨ht,hk⟩=>?_⟩)
 simp only[qc,Dh,Es,Di,qd,Dt,Eb,Dy,Dp,Ei,Eh,Ed,Ew,Df,Et,Dl,Dn,Eo,Dz,Dw,Dj,Dq,Ee,Fe,Dc,Dx,Dk,Ec,Em,Du,Eu,Ez,En,Ef,Fg,Fj,Fh,Ep,Ej,Ey,Fb];obtain⟨q1,q2⟩:=lu n.1 n.2.1 n.2.2.1 n.2.2.2.1 n.2.2.2.2.1 n.2.2.2.2.2 ht.1;have q1:(n.2.2.2.1.length:Int)<=12:=q1;refine⟨⟨⟨by omega,by omega⟩,λo o0 o1=>⟨ht,hk,o0,o1⟩⟩,?_⟩
 unfold JW C9 aBT;rw[oQ,qW];rfl
theorem MH: ∀args m c,MI args m=some c->af Tryz.prog G0 49 args m c:=by
 intro args m c hc;unfold MI at hc;split at hc
 case h_2=>cases hc
 rename_i l f caps;split at hc
 case isFalse=>cases hc
 rename_i hf;subst hf;split at hc
 case h_2=>cases hc
 rename_i n nx a b _ hx;cases hc;exact(WS _ _ _).args λC us hG hu=>fQ hu λv hv=>jA (by kernel_rfl) rfl (λx=>oT x a b nx n) hG (tL hx hv)
theorem aFo: aj Tryz.prog G0 KC5:=ai MH aEM
theorem Rf(nx:Lj)(a b:Int)(cs:LC)(ns os:LB)(fs:Lo)(ls:Ll)(ks:Lk): af Tryz.prog G0 13 [net cs ns os fs ls ks,.dat M nx,.dat I a,.dat I b] [] ⟨cC nx,.dat (.sl M) (JY (cs,ns,os,fs,ls,ks) nx a b),[]⟩:=by
 refine ae (c:=mkc KC5) aFo aL hm (Ku nx a b cs ns os fs ls ks ⟨rfl,λhp=>?_⟩)
 simp only[qc,Dh,Es,Di,qd,Dt,Eb,Dy,Dp,Ei,Eh,Ed,Ew,Df,Et,Dl,Dn,Eo,Dz,Dw,Dj,Dq,Ee,Fe,Dc,Dx,Dk,Ec,Em,Du,Eu,Ez,En,Ef,Fg,Fj,Fh,Ep,Ej,Ey,Fb];have no:¬QZ (cs,ns,os,fs,ls,ks) nx a b=true->JY (cs,ns,os,fs,ls,ks) nx a b=[]:=λh=>if_neg h
 have iff:QZ (cs,ns,os,fs,ls,ks) nx a b=true↔(0<=a/\a<b/\b<=600/\b-a<=60)/\bj (cs,ns,os,fs,ls,ks)=true/\mQ (cs,ns,os,fs,ls,ks) nx=true:=by
  unfold QZ;rw[qC,qC,qE]
 refine⟨λh=>aM (by omega),λh=>no (λg=>by have:=(iff.1 g).1;omega),λh=>⟨λ_=>hp,λg=>no (λq=>?_),λ⟨g1,g2⟩=>?_⟩⟩
 .have:=(iff.1 q).2;rcases g with g | g<;>simp[g]at this
 .obtain⟨q1,q2⟩:=lu cs ns os fs ls ks g1;refine⟨⟨⟨by omega,by omega⟩,λk k0 k1=>⟨⟨g1,g2,by omega,by omega,by omega,by omega⟩,k0,k1⟩⟩,?_⟩
  unfold JY;rw[if_pos (iff.2 ⟨by omega,g1,g2⟩)]
  unfold upM C9;rw[oQ,qW]
end Go.Eng.Sv
set_option maxRecDepth 100000
noncomputable section
namespace Go.Eng.Sv
open Go.Proofs
open Go.Eng.Mp (aK ct pM upto at2 oi)
def nU(p:Int): Bool:=decide (2<=p)&&decide (p<=64)
def pS(b e:Int): Int:=b ^ e.toNat
def XU(b e:Int): Prop:=0<=b/\b<=64/\e<=4
def Sm(b e k:Int): Prop:=XU b e/\0<=k/\(k<=e\/k=0)
def LZ(p q n:Int): Bool:=(((nU p&&decide (1<=q))&&decide (q<=4))&&decide (0<=n))&&decide (n<=2000)
def DF(p q n:Int): Int:=if LZ p q n=true then if pS p q<n then 140 else 0 else 1
def aBV(p k d:Int): Int:=Int.tmod (Int.tdiv d (pS p k)) p
def UU(p q n:Int): Lj:=if DF p q n=0 then(List.range q.toNat).map λk:Nat=>(List.range n.toNat).map λd:Nat=>aBV p k d else[]
def Xz(p q n k:Int): Lj:=((List.range k.toNat).map λj:Nat=>(List.range n.toNat).map λd:Nat=>aBV p j d)++List.replicate (q-k).toNat []
def Y6(p n j k:Int): Li:=upF (aBV p j) 0 n k
def LY(p q n k:Int): Prop:=DF p q n=0/\0<=k/\k<=q
def RH(p q n j k:Int): Prop:=LY p q n j/\j<q/\0<=k/\k<=n
def kj(a b:Int): Bool:=((decide (0<=a)&&decide (a<b))&&decide (b<=600))&&decide (b-a<=60)
def KC6: Kt:=kOr 20 (ax [.row N,.row Pl] (λ(_,p,_)=>fe p) λ(n,p,_)=>.tup [.agg [.dat R (wrN n p),.dat I (wrS n p)],.dat I (wrE n p)]) <|
 kOr 13 (ax [.row N,.val M,.val I,.val I] (λ(_,nx,_,_,_)=>cC nx) λ(n,nx,a,b,_)=>.dat (.sl M) (JY n nx a b)) <|
 kOr 23 (ax [.row N,.val I,.val I] (λ_=>True) λ(n,a,b,_)=>.dat M (lj n a b)) KQ3
theorem V5(p:Int)(hvc:
 let c1:=Ed p 2;true/\(True->(c1->c1->c1)/\(Dh true c1->c1)/\Ea c1 (Eh p 64) false=nU p/\True)):
  evF (mkc KC6) az 84 [.dat I p] [] ⟨True,.dat .bool (nU p),[]⟩:=oE hvc
def aE4(b e:Int): Ann:=⟨λid s=>match id with
 | 3=>some {α:=Int,inv:=λk=>Sm b e k,st:=λk=>put s [(7,.dat I k),(5,.dat I (pS b k))],μ:=λk=>Dc (Dj e k)}
 | _=>none,λ_ _=>none,λ_ _=>none⟩
theorem ZQ(b e:Int)(hvc:
 true/\(XU b e->(∃x,Sm b e x/\b=b/\(0:Int)=(0:Int)/\1=pS b x/\e=e/\0=x/\True)/\∀(x:Int),let c1:=pS b x*b;let c2:=x+1;Sm b e x->(Dp x e->inR .i64 c1/\inR .i64 c2/\∃y,Sm b e y/\(b=b/\(0:Int)=(0:Int)/\c1=pS b y/\e=e/\c2=y/\True)/\Dc (e-y)<Dc (e-x))/\(Dp x e=false->pS b x=pS b e/\True))):
  evF (mkc KC6) (lvA [(3,[0,4,5,6,7])] (aE4 b e)) 85 [.dat I b,.dat I e] [] ⟨XU b e,.dat I (pS b e),[]⟩:=oE hvc
def KC7: Kt:=kOr 84 (ax [.val I] (λ_=>True) λ(p,_)=>.dat .bool (nU p)) <|
 kOr 85 (ax [.val I,.val I] (λ(b,e,_)=>XU b e) λ(b,e,_)=>.dat I (pS b e)) KC6
def aE2(p q n:Int): Ann:=⟨λid s=>match id with
 | 7=>match s.sig.T 8 with
  | .buf nm _=>some {α:=Int,inv:=λk=>LY p q n k,st:=λk=>ie (put s [(38,.dat I k)]) nm (.mat 36 3 I (Xz p q n k) []),μ:=λk=>Dc (Dj q k)}
  | _=>none
 | 11=>match s.sig.T 9,s.sig.T 8,s.sig.T 44 with
  | .dat (.int .i64) j,.buf nm _,.buf nm2 n2=>some {α:=Int,inv:=λk=>RH p q n j k,st:=λk=>ie (ie (put s [(47,.dat I k)]) nm (.mat 36 3 I (Xz p q n j) [(Dc j,.buf nm2 n2)])) nm2 (.buf 3 I (Y6 p n j k) []),μ:=λk=>Dc (Dj n k)}
  | _,_,_=>none
 | _=>none,λ_ _=>none,λ_ _=>none⟩
theorem Zx(p q n:Int)(hvc:
 let c18:=Di (nU p);let c1:=Ea c18 true (Dp q 1);let c2:=Di c1;let c3:=Ea c1 true (Ei q 4);let c4:=Di c3;let c5:=Ea c3 true (Dp n 0);let c6:=Di c5;let c7:=Ea c5 true (Ei n 2000);let c8:=Dp (pS p q) n;let c9:=Ep n (0:Int);true/\(True->True/\(Di c18->Di c18->Di c18)/\(Dh true (Di c18)->Di c18)/\(c2->c2->c2)/\(Dh true c2->c2)/\(c4->c4->c4)/\(Dh true c4->c4)/\(c6->c6->c6)/\(Dh true c6->c6)/\(c7->UU p q n=Dt (Li)/\1=DF p q n/\True)/\(c7=false->XU p q/\(c8->UU p q n=Dt (Li)/\140=DF p q n/\True)/\(c8=false->0<=q/\(Dx (24)*q)<=281474976710656/\q<=9223372036854775807/\(∃x,let c10:=Xz p q n x;LY p q n x/\p=p/\n=n/\Value.slice none (0) (0)=Value.slice none (0) (0)/\(0:Int)=(0:Int)/\Dc q=Dc q/\q=q/\0=x/\Ep q (Dt Int)=c10/\Fb c10/\True)/\∀(x:Int),let c11:=Xz p q n x;let c12:=Dk c11;let c13:=x+1;LY p q n x->(Dp x q->0<=n/\(Dx (8)*n)<=281474976710656/\n<=9223372036854775807/\c12=Dc q/\0<=x/\x<Dx c12/\c12=Dc q/\Dk c9=Dc n/\(∃x_3,RH p q n x x_3/\p=p/\n=n/\Value.slice none (0) (0)=Value.slice none (0) (0)/\(0:Int)=(0:Int)/\Dc q=Dc q/\x=x/\q=q/\x=x/\n=n/\0=x_3/\c11=c11/\Dc x=Dc x/\Dc n=Dc n/\c9=Y6 p n x x_3/\True)/\∀(x_3:Int),let c14:=Gg x_3 (pS p x);let c15:=Y6 p n x x_3;let c16:=Dk c15;let c17:=x_3+1;
 RH p q n x x_3->(Dp x_3 n->c12=Dc q/\0<=x/\x<Dx c12/\c12=Dc q/\Dc x=Dc x/\XU p x/\pS p x≠0/\inR .i64 c14/\p≠0/\c16=Dc n/\0<=x_3/\x_3<Dx c16/\c16=Dc n/\inR .i64 c17/\∃y,RH p q n x y/\(p=p/\n=n/\Value.slice none (0) (0)=Value.slice none (0) (0)/\(0:Int)=(0:Int)/\Dc q=Dc q/\x=x/\q=q/\x=x/\n=n/\c17=y/\c11=c11/\Dc x=Dc x/\Dc n=Dc n/\En c15 (Dc x_3) (Fq c14 p)=Y6 p n x y/\True)/\Dc (n-y)<Dc (n-x_3))/\(Dp x_3 n=false->inR .i64 c13/\∃y,LY p q n y/\(p=p/\n=n/\Value.slice none (0) (0)=Value.slice none (0) (0)/\(0:Int)=(0:Int)/\Dc q=Dc q/\q=q/\c13=y/\Dk c15=Dc n/\En c11 (Dc x) c15=Xz p q n y/\True)/\Dc (q-y)<Dc (q-x)))/\(Dp x q=false->Dk c11=Dc q/\c11=UU p q n/\0=DF p q n/\True))))):
  evF (mkc KC7) (lvA [(7,[0,2,6,7,8,9,10,37,38,46,47]),(11,[0,2,6,7,8,9,10,37,38,46,47])] (aE2 p q n)) 28 [.dat I p,.dat I q,.dat I n] [] ⟨True,.tup [.dat M (UU p q n),.dat I (DF p q n)],[]⟩:=oE hvc
theorem QI(a b:Int)(hvc:
 let c1:=Ed a 0;let c2:=Ea c1 (Ei b a) false;let c3:=Ea c2 (Eh b 600) false;let c4:=c3->c3->c3;true/\(True->(c1->c1->c1)/\(c1->c1->c1)/\(Dh true c1->c1)/\(c2->c2->c2)/\(Dh true c2->c2)/\c4/\c4/\(c3->inR .i64 (b-a))/\c4/\(Dh true c3->c3)/\Ea c3 (Eh (b-a) 60) false=kj a b/\True)):
  evF (mkc KC7) az 105 [.dat I a,.dat I b] [] ⟨True,.dat .bool (kj a b),[]⟩:=oE hvc
theorem KN(cs:LC)(ns os:LB)(fs:Lo)(ls:Ll)(ks:Lk)(hvc:
 let c1:=(cs,ns,os,fs,ls,ks);true/\(True->True/\Eb (Df (fq c1)) 0=bj c1/\True)):
  evF (mkc KC7) az 43 [net cs ns os fs ls ks] [] ⟨True,.dat .bool (bj (cs,ns,os,fs,ls,ks)),[]⟩:=oE hvc
theorem aD4: aj Tryz.prog G0 KC6:=ai (ag λ((cs,ns,os,fs,ls,ks),(p1,p2,nx,dy),_)=>WI cs ns os fs ls ks p1 p2 nx dy)<|ai (ag λ((cs,ns,os,fs,ls,ks),nx,a,b,_)=>Rf nx a b cs ns os fs ls ks)<|ai (ag λ((cs,ns,os,fs,ls,ks),a,b,_)=>WU a b cs ns os fs ls ks) aEH
theorem tS(p:Int): af Tryz.prog G0 84 [.dat I p] [] ⟨True,.dat .bool (nU p),[]⟩:=by
 refine ae (c:=mkc KC6) aD4 aL hm (V5 p ⟨rfl,λ_=>?_⟩)
 refine⟨λh _=>h,λh=>h,?_,trivial⟩
 unfold nU;cases e:decide (2<=p)<;>simp[Ea,Ed,Eh,e]<;>simpa using e
theorem DU{b:Int}(h0:0<=b)(h1:b<=64): ∀k:Nat,0<=b ^ k/\b ^ k<=64 ^ k
 | 0=>by simp
 | k+1=>by
  obtain⟨i0,i1⟩:=DU h0 h1 k;rw[Int.pow_succ,Int.pow_succ];exact⟨qAc i0 h0,xI i1 h1 h0 (Int.le_trans i0 i1)⟩
theorem aAJ{b e:Int}(h0:0<=b)(h1:b<=64)(he:e<=4): 0<=pS b e/\pS b e<=16777216:=by
 unfold pS;obtain⟨i0,i1⟩:=DU h0 h1 e.toNat;have:e.toNat<=4:=by omega
 refine⟨i0,Int.le_trans i1 ?_⟩;rcases(by omega:e.toNat=0\/e.toNat=1\/e.toNat=2\/e.toNat=3\/e.toNat=4)with h | h | h | h | h<;>rw[h]<;>decide
theorem G5{b k:Int}(h:0<=k): pS b (k+1)=pS b k*b:=by
 unfold pS;rw[show(k+1).toNat=k.toNat+1 by omega,Int.pow_succ]
theorem aCZ(b e:Int): af Tryz.prog G0 85 [.dat I b,.dat I e] [] ⟨XU b e,.dat I (pS b e),[]⟩:=by
 refine ae (c:=mkc KC6) aD4 aL hm (ZQ b e ⟨rfl,λhp=>?_⟩)
 simp only[qc,Dh,Es,Di,qd,Dt,Eb,Dy,Dp,Ei,Eh,Ed,Ew,Df,Et,Dl,Dn,Eo,Dz,Dw,Dj,Dq,Ee,Fe,Dc,Dx,Dk,Ec,Em,Du,Eu,Ez,En,Ef,Fg,Fj,Fh,Ep,Ej,Ey,Fb];obtain⟨b0,b1,e1⟩:=id hp;refine⟨⟨0,⟨hp,by omega,.inr rfl⟩,by unfold pS;simp,rfl⟩,λx ⟨_,x0,x1⟩=>⟨λhlt=>?_,λhge=>?_⟩⟩
 .obtain⟨q0,q1⟩:=aAJ b0 b1 (e:=x+1) (by omega)
  rw[G5 x0]at q0 q1;exact⟨aM (by omega),aM (by omega),x+1,⟨hp,by omega,by omega⟩,⟨(G5 x0).symm,rfl⟩,by omega⟩
 .unfold pS;rw[show x.toNat=e.toNat by omega]
theorem YT: aj Tryz.prog G0 KC7:=ai (ag λ(p,_)=>tS p)<|ai (ag λ(b,e,_)=>aCZ b e) aD4
def aEm(p n j:Int): Li:=(List.range n.toNat).map λd:Nat=>aBV p j d
theorem rX(p q n k:Int): Xz p q n k=upF (aEm p n) [] q k:=rfl
theorem RG(p n j:Int): Y6 p n j n=aEm p n j:=oQ
theorem aCI(p q n:Int): af Tryz.prog G0 28 [.dat I p,.dat I q,.dat I n] [] ⟨True,.tup [.dat M (UU p q n),.dat I (DF p q n)],[]⟩:=by
 refine ae (c:=mkc KC7) YT aL hm (Zx p q n ⟨rfl,λ_=>?_⟩)
 simp only[qc,Dh,Es,Di,qd,Dt,Eb,Dy,Dp,Ei,Eh,Ed,Ew,Df,Et,Dl,Dn,Eo,Dz,Dw,Dj,Dq,Ee,Fe,Dc,Dx,Dk,Ec,Em,Du,Eu,Ez,En,Ef,Fg,Fj,Fh,Ep,Ej,Ey,Fb];have no:DF p q n≠0->UU p q n=[]:=λh=>if_neg h
 have hM:nU p=true↔2<=p/\p<=64:=by unfold nU;rw[qC,qE,qE]
 have eO:LZ p q n=true↔((((2<=p/\p<=64)/\1<=q)/\q<=4)/\0<=n)/\n<=2000:=by
  unfold LZ;simp only[qC,qE,hM]
 refine⟨λh=>?_,λ⟨⟨⟨⟨h1,h2⟩,h3⟩,h4⟩,h5⟩=>?_⟩
 .have hO:¬LZ p q n=true:=λg=>by
   have g:=eO.1 g;rcases h with(((h | h) | h) | h) | h
   .rw[hM.2 ⟨by omega,by omega⟩]at h;cases h
   all_goals omega
  have:DF p q n=1:=if_neg hO;exact⟨no (by rw[this];decide),this.symm⟩
 obtain⟨m0,m1⟩:=hM.1 h1;have hO:LZ p q n=true:=eO.2 (by omega)
 have hEd:DF p q n=if pS p q<n then 140 else 0:=if_pos hO
 refine⟨⟨by omega,by omega,by omega⟩,λh=>?_,λh=>?_⟩
 .have:DF p q n=140:=by rw[hEd,if_pos h]
  exact⟨no (by rw[this];decide),this.symm⟩
 have hE:DF p q n=0:=by rw[hEd,if_neg h]
 have l1:∀{x:Int},0<=x->x<=q->(Xz p q n x).length=q.toNat:=λa b=>by rw[rX];exact rI ⟨a,b⟩
 have l2:∀{j x:Int},0<=x->x<=n->(Y6 p n j x).length=n.toNat:=λa b=>rI ⟨a,b⟩
 refine⟨by omega,by omega,by omega,⟨0,⟨hE,by omega,by omega⟩,rfl,by rw[rX,<- nz],?_⟩,λx ⟨_,x0,x1⟩=>⟨λhlt=>?_,λhge=>?_⟩⟩
 .rw[rX,<- nz];exact λr hr=>kK hr
 .have hl:=l1 x0 x1;refine⟨by omega,by omega,by omega,hl,x0,by omega,hl,by simp,⟨0,⟨⟨hE,x0,x1⟩,hlt,by omega,by omega⟩,rfl,nz⟩,λy ⟨_,_,y0,y1⟩=>⟨λhlt2=>?_,λhge=>?_⟩⟩
  .have hl2:=l2 (j:=x) y0 y1;obtain⟨w0,w1⟩:=DU (b:=p) (by omega) (by omega) x.toNat
   have wne:pS p x≠0:=λe=>by
    have:p ^ x.toNat≠0:=Int.pow_ne_zero (by omega)
    exact this e
   have hq:0<=Gg y (pS p x)/\Gg y (pS p x)<=y:=⟨Int.tdiv_nonneg y0 w0,Int.tdiv_le_self _ y0⟩;exact⟨hl,x0,by omega,hl,⟨by omega,by omega,by omega⟩,wne,aM (by omega),by omega,hl2,y0,by omega,hl2,aM (by omega),y+1,⟨⟨hE,x0,x1⟩,hlt,by omega,by omega⟩,⟨rfl,wy y0 hlt2⟩,by omega⟩
  .have hy:y=n:=by omega
   subst hy;exact⟨aM (by omega),x+1,⟨hE,by omega,by omega⟩,⟨rfl,l2 y0 y1,by rw[RG,rX];exact wy x0 hlt⟩,by omega⟩
 .have hx:x=q:=by omega
  subst hx;refine⟨l1 x0 x1,?_,hE.symm⟩;unfold UU;rw[if_pos hE,rX,oQ];rfl
theorem Xm(a b:Int): af Tryz.prog G0 105 [.dat I a,.dat I b] [] ⟨True,.dat .bool (kj a b),[]⟩:=by
 refine ae (c:=mkc KC7) YT aL hm (QI a b ⟨rfl,λ_=>?_⟩)
 simp only[qc,Dh,Es,Di,qd,Dt,Eb,Dy,Dp,Ei,Eh,Ed,Ew,Df,Et,Dl,Dn,Eo,Dz,Dw,Dj,Dq,Ee,Fe,Dc,Dx,Dk,Ec,Em,Du,Eu,Ez,En,Ef,Fg,Fj,Fh,Ep,Ej,Ey,Fb];exact⟨λh=>aM (by omega),rfl⟩
theorem Rq(cs:LC)(ns os:LB)(fs:Lo)(ls:Ll)(ks:Lk): af Tryz.prog G0 43 [net cs ns os fs ls ks] [] ⟨True,.dat .bool (bj (cs,ns,os,fs,ls,ks)),[]⟩:=by
 refine ae (c:=mkc KC7) YT aL hm (KN cs ns os fs ls ks ⟨rfl,λ_=>⟨trivial,?_,trivial⟩⟩)
 rw[Aq];rfl
end Go.Eng.Sv
set_option maxRecDepth 100000
noncomputable section
namespace Go.Eng.Sv
open Go.Proofs
def HW(n:Net)(p:Plan): Int:=if(kj p.1 p.2.1&&bj n)=true then 0 else 1
def Yy(n:Net)(p:Plan): Plan:=(p.1,p.2.1,lj n (1440*p.1) (1440*p.2.1),p.2.2.2)
def Yz(n:Net)(p:Plan): Plan:=(p.1,p.2.1,p.2.2.1,JY n p.2.2.1 p.1 p.2.1)
def aBe(p:Plan): Prop:=0<=p.1/\p.1<=1000/\0<=p.2.1/\p.2.1<=1000
abbrev jd:=Li×Int
def OE(n:Net)(p:Plan)(c:jd): List AV:=[.dat (.sl C) n.1,.dat (.sl S) n.2.1,.dat (.sl S) n.2.2.1,.dat (.sl Of) n.2.2.2.1,.dat (.sl Ln) n.2.2.2.2.1,.dat (.sl Kl) n.2.2.2.2.2,.dat I p.1,.dat I p.2.1,.dat M p.2.2.1,.dat (.sl M) p.2.2.2,.dat R c.1,.dat I c.2]
def rC(n:Net)(p:Plan)(c:jd): Mem:=[(2,.var (OE n p c))]
def asC: Mem->Option (Net×Plan×jd)
 | [(2,.var [a1,a2,a3,a4,a5,a6,a7,a8,a9,a10,a11,a12])]=>match gk (.sl C) a1,gk (.sl S) a2,gk (.sl S) a3,gk (.sl Of) a4,gk (.sl Ln) a5,gk (.sl Kl) a6,gk I a7,gk I a8,gk M a9,gk (.sl M) a10,gk R a11,gk I a12 with
  | some cs,some ns,some os,some fs,some ls,some ks,some p1,some p2,some p3,some p4,some c1,some c2=>some ((cs,ns,os,fs,ls,ks),(p1,p2,p3,p4),(c1,c2))
  | _,_,_,_,_,_,_,_,_,_,_,_=>none
 | _=>none
def cK(pre:Net->Plan->Prop)(ret:Net->Plan->Int)(nxt:Net->Plan->jd->Plan×jd)(args:List AV)(m:Mem): Option jD:=match asC m,args with
 | some (n,p,c),[.ptr 2 1 0 0]=>some ⟨pre n p,.dat I (ret n p),rC n (nxt n p c).1 (nxt n p c).2⟩
 | _,_=>none
def KC8: Kt:=kOr 105 (ax [.val I,.val I] (λ_=>True) λ(a,b,_)=>.dat .bool (kj a b)) <|
 kOr 43 (ax [.row N] (λ_=>True) λ(n,_)=>.dat .bool (bj n)) <|
 kOr 28 (ax [.val I,.val I,.val I] (λ_=>True) λ(p,q,n,_)=>.tup [.dat M (UU p q n),.dat I (DF p q n)]) KC7
theorem KQ(n:Net)(p:Plan)(c:jd)(hvc:
 let c6:=p.2.1;let c3:=n.2.2.1;let c2:=p.2.2;let c1:=n.2.2.2;let c4:=Di (kj p.1 c6);let c5:=Di c4;let c8:=c5->1=1;let c7:=c5->c5->c5;let c16:=Ea c4 true (Di (bj n));true/\(True->1=1/\1=1/\1=1/\1=1/\1=1/\0=0/\1=1/\1=1/\1=1/\1=1/\0=0/\True/\c7/\c8/\c7/\c8/\c7/\c8/\(c5->0=0)/\c7/\(c5->True)/\c7/\(Dh true c5->c5)/\(c16->1=HW n p/\n.1=n.1/\n.2.1=n.2.1/\c3=c3/\c1.1=c1.1/\c1.2.1=c1.2.1/\c1.2.2=c1.2.2/\p.1=p.1/\c6=c6/\c2.1=c2.1/\c2.2=c2.2/\c.1=c.1/\c.2=c.2/\1=1/\True)/\(c16=false->0=HW n p/\n.1=n.1/\n.2.1=n.2.1/\c3=c3/\c1.1=c1.1/\c1.2.1=c1.2.1/\c1.2.2=c1.2.2/\p.1=p.1/\c6=c6/\c2.1=c2.1/\c2.2=c2.2/\c.1=c.1/\c.2=c.2/\1=1/\True))):
  evF (mkc KC8) az 38 [.ptr 2 1 0 0] (rC n p c) ⟨True,.dat I (HW n p),rC n p c⟩:=oE hvc
theorem KO(n:Net)(p:Plan)(c:jd)(hvc:
 let c1:=n.2.2.2;let c2:=1440*p.1;let c5:=1440*p.2.1;let c16:=(Yy n p).2;true/\(aBe p->1=1/\1=1/\1=1/\1=1/\0=0/\1=1/\1=1/\1=1/\1=1/\0=0/\inR .i64 c2/\1=1/\1=1/\1=1/\1=1/\0=0/\inR .i64 c5/\True/\1=1/\1=1/\1=1/\1=1/\0=0/\(0:Int)=(0:Int)/\n.1=n.1/\n.2.1=n.2.1/\n.2.2.1=n.2.2.1/\c1.1=c1.1/\c1.2.1=c1.2.1/\c1.2.2=c1.2.2/\p.1=(Yy n p).1/\p.2.1=c16.1/\lj n c2 c5=c16.2.1/\p.2.2.2=c16.2.2/\c.1=c.1/\c.2=c.2/\1=1/\True)):
  evF (mkc KC7) az 39 [.ptr 2 1 0 0] (rC n p c) ⟨aBe p,.dat I 0,rC n (Yy n p) c⟩:=oE hvc
theorem QD(n:Net)(p:Plan)(c:jd)(hvc:
 let c2:=p.2.2.1;let c1:=n.2.2.2;let c15:=(Yz n p).2;true/\(cC c2->1=1/\1=1/\1=1/\1=1/\0=0/\1=1/\1=1/\1=1/\1=1/\0=0/\1=1/\1=1/\1=1/\1=1/\0=0/\1=1/\1=1/\1=1/\1=1/\0=0/\cC c2/\1=1/\1=1/\1=1/\1=1/\0=0/\(0:Int)=(0:Int)/\n.1=n.1/\n.2.1=n.2.1/\n.2.2.1=n.2.2.1/\c1.1=c1.1/\c1.2.1=c1.2.1/\c1.2.2=c1.2.2/\p.1=(Yz n p).1/\p.2.1=c15.1/\c2=c15.2.1/\JY n c2 p.1 p.2.1=c15.2.2/\c.1=c.1/\c.2=c.2/\1=1/\True)):
  evF (mkc KC7) az 41 [.ptr 2 1 0 0] (rC n p c) ⟨cC p.2.2.1,.dat I 0,rC n (Yz n p) c⟩:=oE hvc
theorem QJ(n:Net)(p:Plan)(c:jd)(hvc:
 let c1:=n.2.2.2;true/\(fe p->1=1/\1=1/\1=1/\1=1/\0=0/\1=1/\1=1/\1=1/\0=0/\fe p/\1=1/\1=1/\1=1/\0=0/\wrE n p=wrE n p/\n.1=n.1/\n.2.1=n.2.1/\n.2.2.1=n.2.2.1/\c1.1=c1.1/\c1.2.1=c1.2.1/\c1.2.2=c1.2.2/\p.1=p.1/\p.2.1=p.2.1/\p.2.2.1=p.2.2.1/\p.2.2.2=p.2.2.2/\wrN n p=wrN n p/\wrS n p=wrS n p/\1=1/\True)):
  evF (mkc KC7) az 42 [.ptr 2 1 0 0] (rC n p c) ⟨fe p,.dat I (wrE n p),rC n p (wrN n p,wrS n p)⟩:=oE hvc
theorem PE: aj Tryz.prog G0 KC8:=ai (ag λ(a,b,_)=>Xm a b)<|ai (ag λ((cs,ns,os,fs,ls,ks),_)=>Rq cs ns os fs ls ks)<|ai (ag λ(p,q,n,_)=>aCI p q n) YT
theorem aBv{m:Mem}{n:Net}{p:Plan}{c:jd}(h:asC m=some (n,p,c)): m=rC n p c:=by
 unfold asC at h;split at h
 case h_2=>cases h
 split at h
 case h_2=>cases h
 rename_i h1 h2 h3 h4 h5 h6 h7 h8 h9 h10 h11 h12;cases h;rw[bC h1,bC h2,bC h3,bC h4,bC h5,bC h6,bC h7,bC h8,bC h9,bC h10,bC h11,bC h12];rfl
theorem OD{f:FuncId}{pre:Net->Plan->Prop}{ret:Net->Plan->Int}{nxt:Net->Plan->jd->Plan×jd}
  (h:∀n p c,af Tryz.prog G0 f [.ptr 2 1 0 0] (rC n p c) ⟨pre n p,.dat I (ret n p),rC n (nxt n p c).1 (nxt n p c).2⟩):∀args m c,cK pre ret nxt args m=some c->af Tryz.prog G0 f args m c:=by
 intro args m c hc;unfold cK at hc;split at hc
 case h_2=>cases hc
 rename_i n p c h1;cases hc;rw[aBv h1];exact h n p c
theorem Rt(n:Net)(p:Plan)(c:jd): af Tryz.prog G0 38 [.ptr 2 1 0 0] (rC n p c) ⟨True,.dat I (HW n p),rC n p c⟩:=by
 refine ae (c:=mkc KC8) PE aL hm (KQ n p c ⟨rfl,λ_=>?_⟩)
 have eN:(n.1,n.2.1,n.2.2.1,n.2.2.2.1,n.2.2.2.2.1,n.2.2.2.2.2)=n:=rfl;simp only[qc,Dh,Es,Di,qd,Dt,Eb,Dy,Dp,Ei,Eh,Ed,Ew,Df,Et,Dl,Dn,Eo,Dz,Dw,Dj,Dq,Ee,Fe,Dc,Dx,Dk,Ec,Em,Du,Eu,Ez,En,Ef,Fg,Fj,Fh,Ep,Ej,Ey,Fb,eN];refine⟨λh=>?_,λ⟨h1,h2⟩=>?_⟩
 .have:¬(kj p.1 p.2.1&&bj n)=true:=λg=>by
   rw[qC]at g;rcases h with h | h
   .rw[g.1]at h;cases h
   .rw[g.2]at h;cases h
  exact(if_neg this).symm
 .exact(if_pos (by rw[h1,h2];rfl)).symm
theorem Rr(n:Net)(p:Plan)(c:jd): af Tryz.prog G0 39 [.ptr 2 1 0 0] (rC n p c) ⟨aBe p,.dat I 0,rC n (Yy n p) c⟩:=by
 refine ae (c:=mkc KC7) YT aL hm (KO n p c ⟨rfl,λ⟨h1,h2,h3,h4⟩=>?_⟩)
 simp only[qc,Dh,Es,Di,qd,Dt,Eb,Dy,Dp,Ei,Eh,Ed,Ew,Df,Et,Dl,Dn,Eo,Dz,Dw,Dj,Dq,Ee,Fe,Dc,Dx,Dk,Ec,Em,Du,Eu,Ez,En,Ef,Fg,Fj,Fh,Ep,Ej,Ey,Fb];exact⟨aM (by omega),aM (by omega),rfl,rfl,rfl,rfl⟩
theorem Xi(n:Net)(p:Plan)(c:jd): af Tryz.prog G0 41 [.ptr 2 1 0 0] (rC n p c) ⟨cC p.2.2.1,.dat I 0,rC n (Yz n p) c⟩:=by
 refine ae (c:=mkc KC7) YT aL hm (QD n p c ⟨rfl,λh=>?_⟩)
 simp only[qc,Dh,Es,Di,qd,Dt,Eb,Dy,Dp,Ei,Eh,Ed,Ew,Df,Et,Dl,Dn,Eo,Dz,Dw,Dj,Dq,Ee,Fe,Dc,Dx,Dk,Ec,Em,Du,Eu,Ez,En,Ef,Fg,Fj,Fh,Ep,Ej,Ey,Fb];exact⟨h,rfl,rfl,rfl,rfl⟩
theorem Xn(n:Net)(p:Plan)(c:jd): af Tryz.prog G0 42 [.ptr 2 1 0 0] (rC n p c) ⟨fe p,.dat I (wrE n p),rC n p (wrN n p,wrS n p)⟩:=by
 refine ae (c:=mkc KC7) YT aL hm (QJ n p c ⟨rfl,λh=>?_⟩)
 simp only[qc,Dh,Es,Di,qd,Dt,Eb,Dy,Dp,Ei,Eh,Ed,Ew,Df,Et,Dl,Dn,Eo,Dz,Dw,Dj,Dq,Ee,Fe,Dc,Dx,Dk,Ec,Em,Du,Eu,Ez,En,Ef,Fg,Fj,Fh,Ep,Ej,Ey,Fb];exact h
end Go.Eng.Sv
set_option maxRecDepth 100000
noncomputable section
namespace Go.Eng.Sv
open Go.Proofs
def s5(n:Net): List (Int×Off):=(List.range n.2.2.2.1.length).map λi:Nat=>((i:Int),b7 n i)
def Bl(n:Net)(k:Int): Prop:=0<=k/\k<=n.2.2.2.1.length
def rU(n:Net): Prop:=(n.2.2.2.1.length:Int)<=1000000
def dY(p:Plan)(o:Int): Li:=p.2.2.1.getD o.toNat []
def QS(p:Plan)(o:Int): Li:=((List.range (dY p o).length).filter λd:Nat=>decide ((d:Int)≠o)).map λd=>(dY p o).getD d 0
def wfR(l:Li): Prop:=∀j:Nat,-1<=l.getD j 0/\l.getD j 0<=1000000
def QR(p:Plan)(o:Int): Prop:=0<=o/\o<p.2.2.1.length/\((dY p o).length:Int)<=1000000/\wfR (dY p o)
def Jj(x:Int): Li->Li
 | []=>[x]
 | a::l=>if x<a then x::a::l else if x=a then a::l else a::Jj x l
def gi(p:Plan)(o:Int): Li:=((QS p o).filter λl=>decide (l≠-1)).foldr Jj []
def Xv(n:Net)(p:Plan)(o:Int): Int:=DF (b7 n o).2.2.2.1 (b7 n o).2.2.2.2.1 (1+(gi p o).length)
def nH(n:Net)(p:Plan): Int:=if(List.range n.2.2.2.1.length).all (λo:Nat=>decide (Xv n p o=0))then 0 else 140
def uW(n:Net)(p:Plan): Prop:=bj n=true/\mQ n p.2.2.1=true
def Ar(n:Net)(p:Plan)(j:Nat): Prop:=uW n p/\j<=(s5 n).length/\∀i:Nat,i<j->Xv n p i=0
theorem Qo(n:Net)(hvc:
 true/\(True->n=n/\True)):
  evF (mkc KC8) az 106 [.agg [.dat (.sl C) n.1,.dat (.sl S) n.2.1,.dat (.sl S) n.2.2.1,.dat (.sl Of) n.2.2.2.1,.dat (.sl Ln) n.2.2.2.2.1,.dat (.sl Kl) n.2.2.2.2.2]] [] ⟨True,.fn 169 [.ip N n],[]⟩:=oE hvc
def aAV(n:Net): F8:=⟨λid y=>match id with
 | 1=>some {α:=Int,inv:=λk=>Bl n k,st:=λk=>⟨put y.s [(8,.dat I k)],Dc k,true⟩,μ:=λk=>Dc (Dj (Df n.2.2.2.1) k)}
 | _=>none,λid s=>match id,s.sig.T 8 with
 | 3,.dat (.int .i64) k=>some (put {s with mem:=[]} [(4,.ip Of (b7 n k))])
 | _,_=>none,λid=>id==3⟩
theorem Qn(n:Net)(hvc:
 let c1:=n.2.2.2;let c3:=Df c1.1;let c4:=Dk (s5 n);true/\true/\true/\false=false/\∀(l:Nat),rU n->(∃x,Bl n x/\(l=l/\n=n/\c1=c1/\c1.1=c1.1/\c3=c3/\0=x/\True)/\0=Dc x/\true)/\∀(x:Int),let c5:=Du c1.1 (Dc x) (ByteArray.mk #[],(0:Int),(0:Int),(0:Int),(0:Int),(0:Int),Dt ByteArray);let c18:=(b7 n x).2;let c23:=x+1;Bl n x->(Dp x c3->0<=x/\x<c3/\1=1/\0=0/\l=l/\n=n/\x=x/\1=1/\0=0/\c5=b7 n x/\c1=c1/\c1.1=c1.1/\c3=c3/\x=x/\Dp x c3=Dp x c3/\x=x/\c5=c5/\c5.1=c5.1/\c5.2.1=c5.2.1/\c5.2.2.1=c5.2.2.1/\c5.2.2.2.1=c5.2.2.2.1/\c5.2.2.2.2.1=c5.2.2.2.2.1/\c5.2.2.2.2.2.1=c5.2.2.2.2.2.1/\c5.2.2.2.2.2.2=c5.2.2.2.2.2.2/\(true->l=l/\true/\lF (s5 n) (Dc x) (x,(b7 n x).1,c18.1,c18.2.1,c18.2.2.1,c18.2.2.2.1,c18.2.2.2.2.1,c18.2.2.2.2.2)/\∀(b:Bool),(Di b->b->Dc x+(1)=c4)/\(Di b=false->inR .i64 c23/\∃y,Bl n y/\((l=l/\n=n/\c1=c1/\c1.1=c1.1/\c3=c3/\c23=y/\True)/\Dc x+(1)=Dc y/\b)/\Dc (c3-y)<Dc (c3-x)))/\(true=false->(true->true)/\(Di false->true->Dc x=c4)/\(Di false=false->inR .i64 c23/\∃y,Bl n y/\((l=l/\n=n/\c1=c1/\c1.1=c1.1/\c3=c3/\c23=y/\True)/\Dc x=Dc y/\true)/\Dc (c3-y)<Dc (c3-x))))/\(Dp x c3=false->true->Dc x=c4)):
  evI (mkc KC8) (aAV n) 169 [.ip N n] ⟨rU n,.pair I Of,s5 n⟩:=oE hvc
def KC9: Kt:=kOr 45 (ax [.row Pl,.val I] (λ(p,o,_)=>QR p o) λ(p,o,_)=>.dat R (gi p o)) <|
 kOr 106 (ax [.row N] (λ_=>True) λ(n,_)=>.fn 169 [.ip N n]) KC8
def KIM: FuncId->List AV->Option i9:=λf caps=>if f=169 then match ofK [.ptr N] caps with
 | some (n,_)=>some ⟨rU n,.pair I Of,s5 n⟩
 | none=>none
 else none
noncomputable def cSort: Cfg:=⟨Tryz.prog,G0,KC9,λ_=>false,KIM,true,Go.Eng.noP,λ_=>false⟩
def sortA(n:Net)(p:Plan)(c:jd): Ann:=⟨λid s=>match id with
 | 2=>some {α:=Nat,inv:=λj=>Ar n p j,st:=λj=>ie (ie (flat s) 2 (.var (OE n p c))) 3 (.var [.dat I 0]),μ:=λj=>j}
 | _=>none,λ_ _=>none,λ_ _=>none⟩
theorem QC(n:Net)(p:Plan)(c:jd)(hvc:
 let c5:=p.2.1;let c4:=n.2.1;let c3:=p.2.2;let c2:=n.2.2.1;let c1:=n.2.2.2;let c20:=s5 n;true/\(uW n p->1=1/\1=1/\1=1/\1=1/\0=0/\True/\rU n/\(∃x,Ar n p x/\x=0/\1=1/\0=0/\0=0/\1=1/\0=0/\0=0/\1=1/\0=0/\0=0/\1=1/\0=0/\0=0/\1=1/\0=0/\0=0/\1=1/\0=0/\0=0/\n.1=n.1/\c4=c4/\c2=c2/\c1.1=c1.1/\c1.2.1=c1.2.1/\c1.2.2=c1.2.2/\n=n/\n.1=n.1/\c4=c4/\c2=c2/\c1.1=c1.1/\c1.2.1=c1.2.1/\c1.2.2=c1.2.2/\p.1=p.1/\c5=c5/\c3.1=c3.1/\c3.2=c3.2/\c.1=c.1/\c.2=c.2/\(0:Int)=(0:Int)/\1=1/\True)/\(∀(x:Nat) (y:Int×ByteArray×Int×Int×Int×Int×Int×List ByteArray),let c23:=1+Df (gi p y.1);let c25:=Dy (DF y.2.2.2.2.1 y.2.2.2.2.2.1 c23) 0;Ar n p x->lF c20 x y->1=1/\0=0/\1=1/\1=1/\1=1/\0=0/\QR p y.1/\inR IntKind.i64 c23/\1=1/\1=1/\0=0/\1=1/\1=1/\0=0/\True/\(c25->1=1/\0=0/\1=1/\0=0/\140=nH n p/\n.1=n.1/\c4=c4/\c2=c2/\c1.1=c1.1/\c1.2.1=c1.2.1/\c1.2.2=c1.2.2/\p.1=p.1/\c5=c5/\c3.1=c3.1/\c3.2=c3.2/\c.1=c.1/\c.2=c.2/\1=1/\True)/\(c25=false->∃z,Ar n p z/\z=x+(1)/\1=1/\0=0/\0=0/\1=1/\0=0/\0=0/\1=1/\0=0/\0=0/\1=1/\0=0/\0=0/\1=1/\0=0/\0=0/\1=1/\0=0/\0=0/\n.1=n.1/\c4=c4/\c2=c2/\c1.1=c1.1/\c1.2.1=c1.2.1/\c1.2.2=c1.2.2/\n=n/\n.1=n.1/\c4=c4/\c2=c2/\c1.1=c1.1/\c1.2.1=c1.2.1/\c1.2.2=c1.2.2/\p.1=p.1/\c5=c5/\c3.1=c3.1/\c3.2=c3.2/\c.1=c.1/\c.2=c.2/\(0:Int)=(0:Int)/\1=1/\True))/\∀(x:Nat),Ar n p x->x=Dk c20->1=1/\0=0/\1=1/\0=0/\0=nH n p/\n.1=n.1/\c4=c4/\c2=c2/\c1.1=c1.1/\c1.2.1=c1.2.1/\c1.2.2=c1.2.2/\p.1=p.1/\c5=c5/\c3.1=c3.1/\c3.2=c3.2/\c.1=c.1/\c.2=c.2/\1=1/\True)):
  evF cSort (sortA n p c) 40 [.ptr 2 1 0 0] (rC n p c) ⟨uW n p,.dat I (nH n p),rC n p c⟩:=oE hvc
theorem W8(n:Net): af Tryz.prog G0 106 [.agg [.dat (.sl C) n.1,.dat (.sl S) n.2.1,.dat (.sl S) n.2.2.1,.dat (.sl Of) n.2.2.2.1,.dat (.sl Ln) n.2.2.2.2.1,.dat (.sl Kl) n.2.2.2.2.2]] [] ⟨True,.fn 169 [.ip N n],[]⟩:=
 ae (c:=mkc KC8) PE aL hm (Qo n ⟨rfl,λ_=>⟨rfl,trivial⟩⟩)
theorem X3{n:Net}{x:Int}(h0:0<=x)(h1:x<n.2.2.2.1.length): lF (s5 n) x.toNat (x,b7 n x):=by
 show((List.range n.2.2.2.1.length).map λi:Nat=>((i:Int),b7 n i))[x.toNat]?=_
 have e:((x.toNat:Nat):Int)=x:=by omega
 rw[qP,vY (by omega),zO,e]
theorem x9(n:Net): (s5 n).length=n.2.2.2.1.length:=by unfold s5;simp
theorem W7(n:Net): mC Tryz.prog G0 169 [.ip N n] ⟨rU n,.pair I Of,s5 n⟩:=by
 refine jq (c:=mkc KC8) (A:=aAV n) PE aL hm (Qn n ⟨rfl,rfl,rfl,rfl,λl hs=>?_⟩)
 have eO:∀x:Int,n.2.2.2.1.getD x.toNat (⟨#[]⟩,0,0,0,0,0,[])=b7 n x:=λ_=>rfl
 have eP:∀q:Off,(q.1,q.2.1,q.2.2.1,q.2.2.2.1,q.2.2.2.2.1,q.2.2.2.2.2.1,q.2.2.2.2.2.2)=q:=λ_=>rfl
 simp only[qc,Dh,Es,Di,qd,Dt,Eb,Dy,Dp,Ei,Eh,Ed,Ew,Df,Et,Dl,Dn,Eo,Dz,Dw,Dj,Dq,Ee,Fe,Dc,Dx,Dk,Ec,Em,Du,Eu,Ez,En,Ef,Fg,Fj,Fh,Ep,Ej,Ey,Fb,x9];unfold rU at hs;refine⟨⟨0,⟨by omega,by omega⟩,rfl,rfl⟩,λx ⟨x0,x1⟩=>⟨λhlt=>⟨x0,hlt,rfl,⟨X3 x0 hlt,λb=>⟨λh1 h2=>(by rw[h1]at h2;cases h2),λhb=>⟨aM (by omega),x+1,⟨by omega,by omega⟩,⟨rfl,by omega,hb⟩,by omega⟩⟩⟩,λh=>(by cases h)⟩,λhge=>(by omega)⟩⟩
def mX: Prop:=∀(p:Plan) (o:Int),af Tryz.prog G0 45 [.agg [.dat I p.1,.dat I p.2.1,.dat M p.2.2.1,.dat (.sl M) p.2.2.2],.dat I o] [] ⟨QR p o,.dat R (gi p o),[]⟩
theorem aEL(h:mX): aj Tryz.prog G0 KC9:=ai (ag λ(p,o,_)=>h p o)<|ai (ag λ(n,_)=>W8 n) PE
theorem aBL: br Tryz.prog G0 KIM:=by
 intro f caps it h;unfold KIM at h;split at h
 case isFalse=>cases h
 rename_i hf;subst hf;split at h
 case h_2=>cases h
 rename_i n _ hx;cases h;exact λhp l J JX JP w D us hD hG hu=>W7 n hp l J JX JP w D us hD hG (eZ hx hu)
theorem EV{x y:Int}: ∀{l:Li},y∈Jj x l↔y=x\/y∈l
 | []=>by simp[Jj]
 | a::l=>by
  unfold Jj;split
  .simp
  .split
   .rename_i h;subst h;simp
   .rw[zL,EV (l:=l),zL];constructor
    .rintro(h | h | h)
     .exact .inr (.inl h)
     .exact .inl h
     .exact .inr (.inr h)
    .rintro(h | h | h)
     .exact .inr (.inl h)
     .exact .inl h
     .exact .inr (.inr h)
theorem vE{x:Int}: ∀{l:Li},l.Pairwise (· < ·)->(Jj x l).Pairwise (· < ·)
 | [],_=>qAh _ _
 | a::l,h=>by
  obtain⟨h1,h2⟩:=kW.1 h;unfold Jj;split
  .rename_i hx;refine kW.2 ⟨λb hb=>?_,h⟩
   rcases zL.1 hb with rfl | hb
   .exact hx
   .have:=h1 b hb;omega
  .split
   .exact h
   .refine kW.2 ⟨λb hb=>?_,vE h2⟩
    rcases EV.1 hb with rfl | hb
    .omega
    .exact h1 b hb
theorem NJ{x:Int}: ∀{l:Li},(Jj x l).length<=l.length+1
 | []=>qJ _
 | a::l=>by
  have:=NJ (x:=x) (l:=l);unfold Jj;split
  .simp
  .split
   .simp
   .simp only[vW];omega
theorem yq{y:Int}: ∀{l:Li},y∈l.foldr Jj []↔y∈l
 | []=>by simp
 | a::l=>by rw[qDg,EV,yq,zL]
theorem m5: ∀(l:Li),(l.foldr Jj []).Pairwise (· < ·)
 | []=>yN
 | _::l=>vE (m5 l)
theorem HC: ∀(l:Li),(l.foldr Jj []).length<=l.length
 | []=>qJ _
 | a::l=>by
  have:=HC l;have:=NJ (x:=a) (l:=l.foldr Jj []);rw[qDg,vW];omega
theorem E7(p:Plan)(o:Int): (gi p o).length<=(dY p o).length:=by
 unfold gi;refine wF (HC _) (wF (xA _ _) ?_);unfold QS;rw[vV];exact wF (xA _ _) (by rw[vX];exact qJ _)
theorem UL(cs:LC)(ns os:LB)(fs:Lo)(ls:Ll)(ks:Lk){nx:Lj}(hs:bj (cs,ns,os,fs,ls,ks)=true)(ht:mQ (cs,ns,os,fs,ls,ks) nx=true){o:Int}(o0:0<=o)(o1:o<fs.length): wfR (nx.getD o.toNat []):=λj=>by
 have h1:=(lw cs ns os fs ls ks (bu cs ns os fs ls ks hs)).1;by_cases hj:(j:Int)<fs.length
 .obtain⟨_,_,h⟩:=fV cs ns os fs ls ks ht o0 o1 (d:=j) (by omega) hj
  have e:nxt nx o j=(nx.getD o.toNat []).getD j 0:=by unfold nxt;rw[qW]
  rw[<- e];by_cases hn:nxt nx o j=-1
  .omega
  .have:=(h hn).1;omega
 .obtain⟨_,h,_⟩:=fV cs ns os fs ls ks ht o0 o1 o0 o1;rw[qA,wH (by omega)]
  exact⟨by decide,by decide⟩
theorem Xh(h:mX)(n:Net)(p:Plan)(c:jd): af Tryz.prog G0 40 [.ptr 2 1 0 0] (rC n p c) ⟨uW n p,.dat I (nH n p),rC n p c⟩:=by
 refine ae (c:=cSort) (aEL h) aBL hm (QC n p c ⟨rfl,λhp=>?_⟩)
 have eN:(n.1,n.2.1,n.2.2.1,n.2.2.2.1,n.2.2.2.2.1,n.2.2.2.2.2)=n:=rfl;have eP:(p.1,p.2.1,p.2.2.1,p.2.2.2)=p:=rfl;simp only[qc,Dh,Es,Di,qd,Dt,Eb,Dy,Dp,Ei,Eh,Ed,Ew,Df,Et,Dl,Dn,Eo,Dz,Dw,Dj,Dq,Ee,Fe,Dc,Dx,Dk,Ec,Em,Du,Eu,Ez,En,Ef,Fg,Fj,Fh,Ep,Ej,Ey,Fb,eN,eP];obtain⟨hs,ht⟩:=id hp;obtain⟨q1,_⟩:=lu n.1 n.2.1 n.2.2.1 n.2.2.2.1 n.2.2.2.2.1 n.2.2.2.2.2 hs;have q1:(n.2.2.2.1.length:Int)<=12:=q1
 have row:∀o:Int,0<=o->o<n.2.2.2.1.length->(p.2.2.1.length:Int)=n.2.2.2.1.length/\((dY p o).length:Int)=n.2.2.2.1.length:=λo o0 o1=>by
  obtain⟨g1,g2,_⟩:=fV n.1 n.2.1 n.2.2.1 n.2.2.2.1 n.2.2.2.2.1 n.2.2.2.2.2 ht o0 o1 o0 o1;exact⟨g1,g2⟩
 have at_:∀{x:Nat} {y:Int×Off},lF (s5 n) x y->x<n.2.2.2.1.length/\y=((x:Int),b7 n x):=λ{x y} h=>by
  have h:((List.range n.2.2.2.1.length).map λi:Nat=>((i:Int),b7 n i))[x]?=some y:=h
  rw[qP]at h;by_cases hx:x<n.2.2.2.1.length
  .rw[vY hx]at h;exact⟨hx,(wV h).symm⟩
  .rw[wH (by rw[vX];omega)]at h;cases h
 have fail:∀o:Nat,o<n.2.2.2.1.length->Xv n p o≠0->nH n p=140:=λo ho hne=>by
  unfold nH;rw[if_neg];intro h;have:=qN.1 h o (qX.2 ho);exact hne (wJ this)
 refine⟨by unfold rU;omega,⟨hp,wW _,λi hi=>by omega⟩,λx y hx hy=>?_,λx hx hl=>?_⟩
 .obtain⟨hxl,rfl⟩:=at_ hy;obtain⟨r1,r2⟩:=row x (by omega) (by omega)
  have gl:=E7 p x;have r1':(p.2.2.1.length:Int)=n.2.2.2.1.length:=r1;refine⟨⟨by show(0:Int)<=(x:Int);omega,by show(x:Int)<_;omega,by show((dY p (x:Int)).length:Int)<=1000000;omega,UL n.1 n.2.1 n.2.2.1 n.2.2.2.1 n.2.2.2.2.1 n.2.2.2.2.2 hs ht (by omega) (by omega)⟩,aM (by simp only;omega),λh=>(fail x hxl h).symm,λh=>⟨hp,by rw[x9];omega,λi hi=>?_⟩⟩
  by_cases h3:i<x
  .exact hx.2.2 i h3
  .have:i=x:=by omega
   rw[this];exact h
 .rw[x9]at hl;unfold nH;rw[if_pos];rw[qN];intro o ho;exact vF (hx.2.2 o (by rw[hl];exact qX.1 ho))
end Go.Eng.Sv
set_option maxRecDepth 100000
namespace Go.Eng.Sv
open Go.Proofs
open Go.RowKit
theorem PI{x:Int}(h:-1<=x/\x<=1000000): (Lit.int .i64 x).wf=true:=by
 have e1:IntKind.min .i64=-9223372036854775808:=by decide
 have e2:IntKind.max .i64=9223372036854775807:=by decide
 simp only[Lit.wf,e1,e2,qC,qE];omega
theorem vw: mX:=by
 rintro p o ⟨o0,o1,o2,o3⟩ w D E us hD hG hargs hH;obtain⟨u1,us,rfl,⟨ps,rfl,hps⟩,u2,us,rfl,h2,rfl⟩:=hargs;obtain⟨v1,_,rfl,_,v2,_,rfl,_,v3,_,rfl,h3,v4,_,rfl,_,rfl⟩:=hps;have h2:[u2]=[Value.int .i64 o]:=h2;cases h2;obtain⟨ao,cap,e3,_,_,hsp,hrow⟩:=h3;cases e3;have at_:(p.2.2.1)[o.toNat]?=some (dY p o):=by
  unfold dY;rw[qA,qB (by omega),qQ]
 obtain⟨a,ue,rfl,ha,hca,bo,cp2,rfl,_,_,hsp2,hin⟩:=hrow o.toNat (dY p o) at_;have sp:=hsp a rfl (by omega)
 have hw:∀j:Nat,(Lit.int .i64 ((dY p o)[j]?.getD 0)).wf=true:=λj=>by
  have:=o3 j;rw[qA]at this;exact PI this
 have eo:((o.toNat:Nat):Int)=o:=by omega
 have mem:∀y,y∈gi p o↔y≠-1/\y∈(mO (dY p o) hw o.toNat (dY p o).length).map Subtype.val:=λy=>by
  unfold gi QS mO;rw[yq,xK,qE,and_comm,List.map_map];have e:((List.range (dY p o).length).filter λd:Nat=>decide ((d:Int)≠o))=(List.range (dY p o).length).filter λd=>decide (d≠o.toNat):=by
   congr 1;funext d
   rw[qAw];omega
  rw[e];have f:(λd:Nat=>(dY p o).getD d 0)=Subtype.val∘aBj (dY p o) hw:=by
   funext d
   exact qA
  rw[f]
 have hc:=Ua #[v1,v2,.slice (some a) p.2.2.1.length cap,v4] o.toNat (dY p o) hw (by omega) (gi p o) (m5 _) mem w λw1 hw1=>by
  have hB:Go.RowKit.Below w.heap.size w w1:=by rw[hw1];exact((Go.RowKit.Below.refl _ w).alloc (qJ _) _).alloc (by simp) _
  have s1:w1.heap.size=w.heap.size+1+1:=by rw[hw1];simp
  have c1:w1.heap[w.heap.size]?=some (.cells #[v1,v2,.slice (some a) p.2.2.1.length cap,v4] 35 (0,0)):=by
   rw[hw1];exact(Go.RowKit.Below.heap_alloc _ _ _ (by simp)).trans (World.alloc_heap_new w _)
  have c2:w1.heap[w.heap.size+1]?=some (.cells #[.int .i64 o] 3 (0,0)):=by
   have:=World.alloc_heap_new (w.alloc (.cells #[v1,v2,.slice (some a) p.2.2.1.length cap,v4] 35)) (.cells #[.int .i64 ((o.toNat:Nat):Int)] 3);rw[zN,eo]at this;rw[hw1,eo];exact this
  refine⟨by omega,by omega,by rw[eo];simp[World.cell?,c2],a.block,a.off,p.2.2.1.length,cap,bo,cp2,?_,by omega,by have:=hD _ ha;omega,?_,?_⟩
  .obtain⟨b,f,s⟩:=a;have sp:s=none:=sp;subst sp;simp[World.cell?,c1]
  .have:=hca 0 _ rfl;exact(hB.cell (p:=⟨a.block,a.off+o.toNat*1+0,none⟩) (hD _ ha)).trans this |> λh=>by
    rw[show a.off+o.toNat*1+0=a.off+o.toNat by omega]at h;exact h
  .by_cases hz:(dY p o).length=0
   .exact .inl hz
   .have at0:(dY p o)[0]?=some ((dY p o).getD 0 0):=by
     rw[qA,qB (by omega),qQ]
    obtain⟨a2,_,e2,hb2,_⟩:=hin 0 _ at0;subst e2;have sp2:=hsp2 a2 rfl (by omega)
    refine .inr ⟨a2.block,a2.off,?_,by have:=hD _ hb2;omega,λj hj=>?_⟩
    .obtain⟨b,f,s⟩:=a2;have sp2:s=none:=sp2;subst sp2;rfl
    .have atj:(dY p o)[j]?=some ((dY p o)[j]?.getD 0):=by
      rw[qB hj,qQ]
     obtain⟨a3,ue3,e3,hb3,hc3,hr3⟩:=hin j _ atj;cases e3;have hr3:ue3=[Value.int .i64 ((dY p o)[j]?.getD 0)]:=hr3;subst hr3;have:=hc3 0 _ rfl;have h:=(hB.cell (p:=⟨a2.block,a2.off+j*1+0,none⟩) (hD _ hb3)).trans this;rw[show a2.off+j*1+0=a2.off+j by omega]at h;exact h
 rw[eo]at hc;refine hc.mono ?_;rintro e w' ⟨v,rfl,hrow,hnil,hB⟩;refine⟨v,λb=>D b\/fU w w' b,E,rfl,⟨(Chg.refl _ _).below hB,λ_ h=>.inl h,λb h=>h.imp id λh=>.inl h.1,λb h=>h.elim (λh=>qM (hD b h) hB.size) λh=>h.2,Held.none _ _ _ _,λnm b b' g=>(by cases g),λnm b b' g=>(by cases g),λnm b _ g=>(by cases g),λnm i b g=>(jL g).elim⟩,?_⟩
 show ∃(ao:Option Addr) (cap:Nat),[v]=[.slice ao (gi p o).length cap]/\_;obtain⟨_,⟨rfl,h0⟩ | ⟨g,cap,cur,rfl,hg,hb,hcap,_,hsz,htk⟩⟩:=hrow
 .have h0:gi p o=[]:=vS h0;rw[h0];exact⟨none,0,rfl,qJ _,λ_=>rfl,λ_ h=>(by cases h),λi y h=>(by cases h)⟩
 .refine⟨_,cap,rfl,hcap,λh=>(by cases h),λa h _=>(by cases h;rfl),λi y hy=>⟨_,[Value.int .i64 y],rfl,.inr ⟨hg,(vJ.1 hb).1⟩,λj u hj=>?_,rfl⟩⟩
  cases j with
  | succ j=>cases hj
  | zero=>
   have hj:some (Value.int .i64 y)=some u:=hj;cases hj;show w'.cell? ⟨g,0+i*1+0,none⟩=_;have hi:i<(gi p o).length:=(qF.1 hy).1;have e:(cur.toList.take ((gi p o).length*1))[i]?=some (Value.int .i64 y):=by
    rw[htk,qP,hy];rfl
   rw[List.getElem?_take_of_lt (by omega),zY]at e
   have hi2:0+i*1+0<cur.size:=by omega
   rw[show 0+i*1+0=i by omega]at hi2 ⊢
   simp[World.cell?,hb,e]
end Go.Eng.Sv
set_option maxRecDepth 100000
noncomputable section
namespace Go.Eng.In
open Go.Proofs
abbrev Of: Ty:=.pair S (.pair I (.pair I (.pair I (.pair I (.pair I (.sl S))))))
abbrev Ln: Ty:=.pair S (.pair I (.pair I (.pair I (.pair I I))))
abbrev Kl: Ty:=.pair S (.pair I I)
abbrev N: Ty:=.pair (.sl C) (.pair (.sl S) (.pair (.sl S) (.pair (.sl Of) (.pair (.sl Ln) (.sl Kl)))))
abbrev Cal:=Int×List Bool×Li
abbrev Off:=ByteArray×Int×Int×Int×Int×Int×List ByteArray
abbrev Line:=ByteArray×Int×Int×Int×Int×Int
abbrev Cla:=ByteArray×Int×Int
abbrev Net:=List Cal×List ByteArray×List ByteArray×List Off×List Line×List Cla
def ni(c:Cal): Bool:=dN c.1 c.2.1 c.2.2
def lv(n:Net)(o:Off): Bool:=(btw o.2.2.1 0 ((n.1.length:Int)-1)&&btw o.2.2.2.2.1 1 1000)&&btw o.2.2.2.2.2.1 1 1000
def jN(n:Net)(x:Int): Bool:=btw x 0 ((n.2.2.2.1.length:Int)-1)
def lz(n:Net)(l:Line): Bool:=((jN n l.2.1&&jN n l.2.2.1)&&btw l.2.2.2.1 0 1439)&&btw l.2.2.2.2.1 1 100000
def lM(k:Cla): Bool:=btw k.2.1 0 1439&&btw k.2.2 0 1439
def ko(n:Net): Bool:=((n.1.all ni&&n.2.2.2.1.all (lv n))&&n.2.2.2.2.1.all (lz n))&&n.2.2.2.2.2.all lM
def qx(n:Net): Prop:=((n.1.length<=2000000000000000/\n.2.2.2.1.length<=2000000000000000)/\n.2.2.2.2.1.length<=2000000000000000)/\n.2.2.2.2.2.length<=2000000000000000
def Uk(n:Net)(k:Int): Prop:=0<=k/\k<=n.1.length/\(n.1.take k.toNat).all ni=true
def SK(n:Net)(k:Int): Prop:=0<=k/\k<=n.2.2.2.1.length/\(n.2.2.2.1.take k.toNat).all (lv n)=true
def S8(n:Net)(k:Int): Prop:=0<=k/\k<=n.2.2.2.2.1.length/\(n.2.2.2.2.1.take k.toNat).all (lz n)=true
def Ue(n:Net)(k:Int): Prop:=0<=k/\k<=n.2.2.2.2.2.length/\(n.2.2.2.2.2.take k.toNat).all lM=true
def dW(n:Net)(l:Int): Line:=n.2.2.2.2.1.getD l.toNat (⟨#[]⟩,0,0,0,0,0)
def jW(n:Net)(o l:Int): Bool:=decide (l=-1)||(decide (l<n.2.2.2.2.1.length)&&decide ((dW n l).2.1=o))
def mV(n:Net)(o:Int)(r:Li): Bool:=r.all (jW n o)
def CU(n:Net)(p:Plan): Bool:=(decide (p.2.2.1.length=n.2.2.2.1.length)&&decide (p.2.2.2.length=n.2.2.2.2.2.length))&&(List.range p.2.2.1.length).all λi=>mV n i (p.2.2.1.getD i [])
def nxP(p:Plan): Prop:=p.2.2.1.length<=2000000000000000/\∀r∈p.2.2.1,r.length<=2000000000000000/\∀x∈r,-1<=x
def aB2(n:Net)(p:Plan)(k:Int): Prop:=0<=k/\k<=p.2.2.1.length/\∀i:Nat,(i:Int)<k->mV n i (p.2.2.1.getD i [])=true
def SN(n:Net)(o:Int)(r:Li)(k:Int): Prop:=0<=k/\k<=r.length/\(r.take k.toNat).all (jW n o)=true
def jk(c:Li×Int): Bool:=dU c.1 c.2&&nt c.1
def x6(c:Li×Int): Int:=if dU c.1 c.2 then 190 else 180
def A3(c:Li×Int): Prop:=Hm c.1
def FN(args:List AV)(m:Mem): Option jD:=match args,m with
 | [.ifc t (.dat (.int .i64) e)],[]=>if t=39 then some ⟨True,.dat I e,[]⟩else none
 | _,_=>none
def Y0: Kt:=kOr 70 FN aEX
def c9: Cfg:=I5 Y0 (λt=>t==12) KP8 (λf=>f==79||f==142)
theorem VY(s:Int)(l:Li)(hvc:
 let c1:=(l,s);let c2:=jk c1;let c3:=chainOf (Value.iface (39) (Value.int IntKind.i64 (x6 c1)));let c4:=(au l).1;let c5:=(au l).2;let aO:=c5.1;let c7:=c5.2;let c8:=c7.1;let c9:=c7.2;true/\(A3 c1->Hm l/\(true->True/\(dU l s=false->c2=false/\true/\chainOf (Value.iface (39) (Value.int IntKind.i64 (180:Int)))=c3))/\((true->dU l s)->(True/\dU l s)/\(true->dE l/\(nt l=false->c2=false/\true/\chainOf (Value.iface (39) (Value.int IntKind.i64 (190:Int)))=c3))/\((true->nt l)->(dE l/\nt l)/\1=1/\1=1/\0=0/\1=1/\0=0/\1=1/\0=0/\c2/\1=1/\0=0/\c4=c4/\aO=aO/\c8=c8/\c9=c9/\1=1/\0=0/\0=0/\bM l=bM l/\True)))):
  evM c9 az 71 [.agg [.dat R l,.dat I s]] [] (.tup [.agg [.dat I (au l).1,.dat I (au l).2.1,.dat M (au l).2.2.1,.dat (.sl M) (au l).2.2.2],.ptr 1 1 0 0]) [(1,.var [.dat R (bM l)])] ⟨A3 (l,s),jk (l,s),dj 39 (x6 (l,s))⟩:=oE hvc
theorem Zu(x:Int)(hvc:
 let c1:=btw x 0 1439;true/\(True->True/\c1=c1/\True)):
  evF (mkc Y0) az 147 [.dat I x] [] ⟨True,.dat .bool (btw x 0 1439),[]⟩:=oE hvc
theorem Zt(x:Int)(n:Net)(hvc:
 let c1:=Df n.2.2.2.1-1;true/\(qx n->inR .i64 c1/\True/\btw x 0 c1=jN n x/\True)):
  evF (mkc Y0) az 149 [.dat I x,.ipv (.ip N n)] [] ⟨qx n,.dat .bool (jN n x),[]⟩:=oE hvc
def rc: Kt:=kOr 147 (ax [.val I] (λ_=>True) λ(x,_)=>.dat .bool (btw x 0 1439))<|kOr 149 (ax [.val I,.bp N] (λ(_,n,_)=>qx n) λ(x,n,_)=>.dat .bool (jN n x)) Y0
def usA(n:Net): Ann:=⟨λid s=>match id with
 | 4=>some {α:=Int,inv:=λk=>Uk n k,st:=λk=>put {fH s with mem:=[]} [(19,.dat I k),(6,.top)],μ:=λk=>Dc (Dj (Df n.1) k)}
 | 10=>some {α:=Int,inv:=λk=>SK n k,st:=λk=>put {fH s with mem:=[]} [(32,.dat I k),(8,.top)],μ:=λk=>Dc (Dj (Df n.2.2.2.1) k)}
 | 16=>some {α:=Int,inv:=λk=>S8 n k,st:=λk=>put {fH s with mem:=[]} [(64,.dat I k),(10,.top)],μ:=λk=>Dc (Dj (Df n.2.2.2.2.1) k)}
 | 22=>some {α:=Int,inv:=λk=>Ue n k,st:=λk=>put {fH s with mem:=[]} [(99,.dat I k),(12,.top)],μ:=λk=>Dc (Dj (Df n.2.2.2.2.2) k)}
 | _=>none,λ_ _=>none,λ_ _=>none⟩
theorem aCx(n:Net)(hvc:
 let c1:=n.2.2.2;let c2:=Df n.1;let c5:=Df c1.1;let aO:=c2-1;let c10:=Df c1.2.1;let c11:=((0:Int),(0:Int));let c14:=Df c1.2.2;true/\(qx n->(∃x,Uk n x/\n=n/\n=n/\n.1=n.1/\c2=c2/\0=x/\True)/\∀(x:Int),let c16:=Du n.1 (Dc x) ((0:Int),Dt Bool,Dt Int);let c18:=Di (dN c16.1 c16.2.1 c16.2.2);let c19:=x+1;Uk n x->(Dp x c2->0<=x/\x<c2/\1=1/\0=0/\1=1/\0=0/\True/\(c18->false=ko n/\True)/\(c18=false->inR .i64 c19/\∃y,Uk n y/\(n=n/\n=n/\n.1=n.1/\c2=c2/\c19=y/\True)/\Dc (c2-y)<Dc (c2-x)))/\(Dp x c2=false->(∃x,SK n x/\n=n/\n=n/\c1.1=c1.1/\c5=c5/\0=x/\True)/\∀(x:Int),let c20:=(Du c1.1 (Dc x) (ByteArray.mk #[],(0:Int),(0:Int),(0:Int),(0:Int),(0:Int),Dt ByteArray)).2.2;let c21:=Di (btw c20.1 0 aO);let c22:=Di c21;let c7:=c22->c22->c22;let c24:=Ea c21 true (Di (btw c20.2.2.1 1 1000));let c25:=Di c24;let c8:=c25->c25->c25;let c26:=Ea c24 true (Di (btw c20.2.2.2.1 1 1000));let c27:=x+1;SK n x->(Dp x c5->0<=x/\x<c5/\1=1/\0=0/\1=1/\1=1/\0=0/\inR .i64 aO/\True/\(c22->1=1)/\c7/\(c22->1=1)/\(c22->0=0)/\c7/\(c22->True)/\c7/\(Dh true c22->c22)/\(c25->1=1)/\c8/\(c25->1=1)/\(c25->0=0)/\c8/\(c25->True)/\c8/\(Dh true c25->c25)/\(c26->false=ko n/\True)/\(c26=false->inR .i64 c27/\∃y,SK n y/\(n=n/\n=n/\c1.1=c1.1/\c5=c5/\c27=y/\True)/\Dc (c5-y)<Dc (c5-x)))/\(Dp x c5=false->(∃x,S8 n x/\n=n/\n=n/\c1.2.1=c1.2.1/\c10=c10/\0=x/\True)/\∀(x:Int),let c28:=(Du c1.2.1 (Dc x) (ByteArray.mk #[],(0:Int),(0:Int),(0:Int),c11)).2;let c29:=Di (jN n c28.1);let c30:=Di c29;let c3:=c30->c30->c30;let c32:=Ea c29 true (Di (jN n c28.2.1));let c33:=Di c32;let c4:=c33->c33->c33;let c35:=Ea c32 true (Di (btw c28.2.2.1 0 1439));
 let c36:=Di c35;let c9:=c36->c36->c36;let c37:=Ea c35 true (Di (btw c28.2.2.2.1 1 100000));let c38:=x+1;S8 n x->(Dp x c10->0<=x/\x<c10/\1=1/\0=0/\1=1/\1=1/\0=0/\qx n/\(c30->1=1)/\c3/\(c30->1=1)/\(c30->0=0)/\c3/\c3/\(c30->qx n)/\c3/\(Dh true c30->c30)/\(c33->1=1)/\c4/\(c33->1=1)/\(c33->0=0)/\c4/\c4/\(c33->True)/\c4/\(Dh true c33->c33)/\(c36->1=1)/\c9/\(c36->1=1)/\(c36->0=0)/\c9/\(c36->True)/\c9/\(Dh true c36->c36)/\(c37->false=ko n/\True)/\(c37=false->inR .i64 c38/\∃y,S8 n y/\(n=n/\n=n/\c1.2.1=c1.2.1/\c10=c10/\c38=y/\True)/\Dc (c10-y)<Dc (c10-x)))/\(Dp x c10=false->(∃x,Ue n x/\c1.2.2=c1.2.2/\c14=c14/\0=x/\True)/\∀(x:Int),let c39:=(Du c1.2.2 (Dc x) (ByteArray.mk #[],c11)).2;let c40:=Di (btw c39.1 0 1439);let c41:=Di c40;let c6:=c41->c41->c41;let c42:=Ea c40 true (Di (btw c39.2 0 1439));let c43:=x+1;Ue n x->(Dp x c14->0<=x/\x<c14/\1=1/\0=0/\1=1/\1=1/\0=0/\True/\(c41->1=1)/\c6/\(c41->1=1)/\(c41->0=0)/\c6/\c6/\(c41->True)/\c6/\(Dh true c41->c41)/\(c42->false=ko n/\True)/\(c42=false->inR .i64 c43/\∃y,Ue n y/\(c1.2.2=c1.2.2/\c14=c14/\c43=y/\True)/\Dc (c14-y)<Dc (c14-x)))/\(Dp x c14=false->true=ko n/\True)))))):
  evF (mkc rc) (lvA [(4,[1,2,3,4,6,8,10,12,17,18,19,30,31,32,62,63,64,97,98,99]),(10,[1,2,3,4,8,10,12,30,31,32,62,63,64,97,98,99]),(16,[1,2,3,4,10,12,62,63,64,97,98,99]),(22,[2,3,12,97,98,99])] (usA n)) 80 [.ip N n] [] ⟨qx n,.dat .bool (ko n),[]⟩:=oE hvc
def aFc(n:Net)(p:Plan): Ann:=⟨λid s=>match id with
 | 4=>some {α:=Int,inv:=λk=>aB2 n p k,st:=λk=>put (fH s) [(38,.dat I k)],μ:=λk=>Dc (Dj (Df p.2.2.1) k)}
 | 7=>match s.sig.T 5,s.sig.T 6 with
  | .dat (.int .i64) o,.dat (.sl (.int .i64)) r=>some {α:=Int,inv:=λk=>SN n o r k,st:=λk=>put (fH s) [(45,.dat I k)],μ:=λk=>Dc (Dj (Df r) k)}
  | _,_=>none
 | _=>none,λ_ _=>none,λ_ _=>none⟩
theorem Z9(n:Net)(p:Plan)(hvc:
 let c2:=n.2.2.2;let c1:=p.2.2.1;let c3:=Df c1;let c5:=Dy c3 (Df c2.1);let aO:=Di c5;let c6:=aO->aO->aO;let c8:=Ea c5 true (Dy (Df p.2.2.2) (Df c2.2.2));let c10:=Df c2.2.1;true/\(qx n/\nxP p->c6/\c6/\c6/\c6/\c6/\c6/\c6/\c6/\c6/\c6/\(Dh true aO->aO)/\(c8->false=CU n p/\True)/\(c8=false->(∃x,aB2 n p x/\n=n/\c1=c1/\c3=c3/\0=x/\True)/\∀(x:Int),let c11:=Du c1 (Dc x) [];let c12:=Df c11;let c13:=x+1;aB2 n p x->(Dp x c3->0<=x/\x<c3/\(∃x_3,SN n x c11 x_3/\n=n/\x=x/\c11=c11/\c1=c1/\c3=c3/\x=x/\c11=c11/\c12=c12/\0=x_3/\True)/\∀(x_3:Int),let c14:=Du c11 (Dc x_3) 0;let c15:=Dy c14 (-1);let c7:=c15->c15->c15;let c16:=Ed c14 c10;let c9:=Di c16;let c4:=Dh c15 c9->Dh c15 c9->Dh c15 c9;let c17:=Ea c15 (Ea c16 true (Dy (Du c2.2.1 (Dc c14) (ByteArray.mk #[],(0:Int),(0:Int),(0:Int),(0:Int),(0:Int))).2.1 x)) false;let c18:=x_3+1;SN n x c11 x_3->(Dp x_3 c12->0<=x_3/\x_3<c12/\c7/\c7/\c7/\c7/\c7/\c7/\c7/\c4/\c4/\c4/\c4/\c4/\(Dh c15 c9->0<=c14)/\(Dh c15 c9->c14<c10)/\c4/\c4/\c4/\c4/\c7/\(c15->Dh c15 c9->Dh c15 c9)/\(Dh true c15->c15)/\(c17->false=CU n p/\True)/\(c17=false->inR IntKind.i64 c18/\∃y,SN n x c11 y/\(n=n/\x=x/\c11=c11/\c1=c1/\c3=c3/\x=x/\c11=c11/\c12=c12/\c18=y/\True)/\Dc (c12-y)<Dc (c12-x_3)))/\(Dp x_3 c12=false->inR .i64 c13/\∃y,aB2 n p y/\(n=n/\c1=c1/\c3=c3/\c13=y/\True)/\Dc (c3-y)<Dc (c3-x)))/\(Dp x c3=false->true=CU n p/\True)))):
  evF (mkc rc) (lvA [(4,[0,4,5,6,8,36,37,38,43,44,45]),(7,[0,4,5,6,8,36,37,38,43,44,45])] (aFc n p)) 81 [.ip N n,.ip Pl p] [] ⟨qx n/\nxP p,.dat .bool (CU n p),[]⟩:=oE hvc
theorem JC: ∀args m c,FN args m=some c->af Tryz.prog dS 70 args m c:=by
 intro args m c h;unfold FN at h;split at h
 .split at h
  .rename_i e;subst e;cases h;exact aAg _
  .cases h
 .cases h
theorem KS9: aj Tryz.prog dS Y0:=ai JC aD7
theorem UP(s:Int)(l:Li): af Tryz.prog dS 71 [.agg [.dat R l,.dat I s]] [] ⟨A3 (l,s)/\jk (l,s)=true,.tup [.agg [.dat I (au l).1,.dat I (au l).2.1,.dat M (au l).2.2.1,.dat (.sl M) (au l).2.2.2],.ptr 1 1 0 0],[(1,.var [.dat R (bM l)])]⟩/\
  cU Tryz.prog dS 71 [.agg [.dat R l,.dat I s]] [] ⟨A3 (l,s),jk (l,s),dj 39 (x6 (l,s))⟩:=by
 refine cq (c:=c9) KS9 aL hm aBH (VY s l ⟨rfl,λhp=>?_⟩)
 simp only[qc,Dh,Es,Di,qd,Dt,Eb,Dy,Dp,Ei,Eh,Ed,Ew,Df,Et,Dl,Dn,Eo,Dz,Dw,Dj,Dq,Ee,Fe,Dc,Dx,Dk,Ec,Em,Du,Eu,Ez,En,Ef,Fg,Fj,Fh,Ep,Ej,Ey,Fb];refine⟨hp,λh=>⟨?_,?_⟩,λh=>⟨h,⟨?_,λh2=>⟨?_,?_⟩⟩,λh2=>⟨⟨?_,h2⟩,?_⟩⟩⟩
 .unfold jk;rw[h];rfl
 .unfold x6;rw[h];rfl
 .exact⟨by unfold dU at h;rw[qC]at h;exact h.1,hp⟩
 .unfold jk;rw[h2];simp
 .unfold x6;rw[h];rfl
 .exact⟨by unfold dU at h;rw[qC]at h;exact h.1,hp⟩
 .unfold jk;rw[h,h2];rfl
theorem aCF(x:Int): af Tryz.prog dS 147 [.dat I x] [] ⟨True,.dat .bool (btw x 0 1439),[]⟩:=
 ae (c:=mkc Y0) KS9 aL hm (Zu x ⟨rfl,λ_=>⟨trivial,rfl,trivial⟩⟩)
theorem aCE(x:Int)(n:Net): af Tryz.prog dS 149 [.dat I x,.ipv (.ip N n)] [] ⟨qx n,.dat .bool (jN n x),[]⟩:=by
 refine ae (c:=mkc Y0) KS9 aL hm (Zt x n ⟨rfl,λhp=>⟨ay ?_,trivial,rfl,trivial⟩⟩)
 have:=hp.1.1.2;simp only[Dj,Df];omega
theorem Zj: aj Tryz.prog dS rc:=ai (ag λ(x,_)=>aCF x)<|ai (ag λ(x,n,_)=>aCE x n) KS9
theorem oL{α:Type}{p:α->Bool}{l:List α}{k:Int}(d:α)(h0:0<=k)(hk:k<l.length)(ha:(l.take k.toNat).all p=true)(hp:p (l.getD k.toNat d)=true): (l.take (k+1).toNat).all p=true:=by
 rw[show(k+1).toNat=k.toNat+1 by omega,wX,kY,ha]
 rw[qA,qB (by omega:k.toNat<l.length)]at hp
 rw[qB (by omega:k.toNat<l.length)]
 simpa using hp
theorem CJ{α:Type}{p:α->Bool}{l:List α}{k:Int}(d:α)(h0:0<=k)(hk:k<l.length)(hp:p (l.getD k.toNat d)=false): l.all p=false:=by
 cases e:l.all p with
 | false=>rfl
 | true=>rw[qN.1 e _ (aS (d:=d) (by omega))]at hp;cases hp
theorem ui{α:Type}{p:α->Bool}{l:List α}{k:Int}(ha:(l.take k.toNat).all p=true)(hk:¬k<l.length): l.all p=true:=by
 rwa [qO (by omega)]at ha
theorem aE0(n:Net): af Tryz.prog dS 80 [.ip N n] [] ⟨qx n,.dat .bool (ko n),[]⟩:=by
 refine ae (c:=mkc rc) Zj aL hm (aCx n ⟨rfl,λhp=>?_⟩)
 obtain⟨⟨⟨l1,l2⟩,l3⟩,l4⟩:=id hp;obtain⟨cs,ns,os,fs,ls,ks⟩:=n;simp only at l1 l2 l3 l4;simp only[qc,Dh,Es,Di,qd,Dt,Eb,Dy,Dp,Ei,Eh,Ed,Ew,Df,Et,Dl,Dn,Eo,Dz,Dw,Dj,Dq,Ee,Fe,Dc,Dx,Dk,Ec,Em,Du,Eu,Ez,En,Ef,Fg,Fj,Fh,Ep,Ej,Ey,Fb];refine⟨⟨qL _,vC _,rfl⟩,λx hx=>?_⟩
 have hx0:0<=x:=hx.1;have hx1:x<=cs.length:=hx.2.1;refine⟨λhlt=>⟨hx0,hlt,λhb=>?_,λhb=>⟨ay (by omega),x+1,⟨by omega,by show x+1<=(cs.length:Int);omega,oL (0,[],[]) hx0 hlt hx.2.2 hb⟩,rfl,by omega⟩⟩,λhge=>?_⟩
 .unfold ko;rw[CJ (p:=ni) (0,[],[]) hx0 hlt hb];rfl
 have e1:=ui hx.2.2 hge;refine⟨⟨qL _,vC _,rfl⟩,λy hy=>?_⟩
 have hy0:0<=y:=hy.1;have hy1:y<=fs.length:=hy.2.1;refine⟨λhlt=>⟨hy0,hlt,ay (by omega),λhb=>?_,λhb=>⟨ay (by omega),y+1,⟨by omega,by show y+1<=(fs.length:Int);omega,oL (⟨#[]⟩,0,0,0,0,0,[]) hy0 hlt hy.2.2 ?_⟩,rfl,by omega⟩⟩,λhge=>?_⟩
 .have:lv (cs,ns,os,fs,ls,ks) (fs.getD y.toNat (⟨#[]⟩,0,0,0,0,0,[]))=false:=by
   unfold lv;rcases hb with(h | h) | h<;>rw[h]<;>simp
  unfold ko;rw[CJ (p:=lv (cs,ns,os,fs,ls,ks)) (⟨#[]⟩,0,0,0,0,0,[]) hy0 hlt this];simp
 .unfold lv;rw[hb.1.1,hb.1.2,hb.2];rfl
 have e2:=ui hy.2.2 hge;refine⟨⟨qL _,vC _,rfl⟩,λz hz=>?_⟩
 have hz0:0<=z:=hz.1;have hz1:z<=ls.length:=hz.2.1;refine⟨λhlt=>⟨hz0,hlt,hp,λ_=>hp,λhb=>?_,λhb=>⟨ay (by omega),z+1,⟨by omega,by show z+1<=(ls.length:Int);omega,oL (⟨#[]⟩,0,0,0,0,0) hz0 hlt hz.2.2 ?_⟩,rfl,by omega⟩⟩,λhge=>?_⟩
 .have:lz (cs,ns,os,fs,ls,ks) (ls.getD z.toNat (⟨#[]⟩,0,0,0,0,0))=false:=by
   unfold lz;rcases hb with((h | h) | h) | h<;>rw[h]<;>simp
  unfold ko;rw[CJ (p:=lz (cs,ns,os,fs,ls,ks)) (⟨#[]⟩,0,0,0,0,0) hz0 hlt this];simp
 .unfold lz;rw[hb.1.1.1,hb.1.1.2,hb.1.2,hb.2];rfl
 have e3:=ui hz.2.2 hge;refine⟨⟨qL _,vC _,rfl⟩,λu hu=>?_⟩
 have hu0:0<=u:=hu.1;have hu1:u<=ks.length:=hu.2.1;refine⟨λhlt=>⟨hu0,hlt,λhb=>?_,λhb=>⟨ay (by omega),u+1,⟨by omega,by show u+1<=(ks.length:Int);omega,oL (⟨#[]⟩,0,0) hu0 hlt hu.2.2 ?_⟩,rfl,by omega⟩⟩,λhge=>?_⟩
 .have:lM (ks.getD u.toNat (⟨#[]⟩,0,0))=false:=by
   unfold lM;rcases hb with h | h<;>rw[h]<;>simp
  unfold ko;rw[CJ (p:=lM) (⟨#[]⟩,0,0) hu0 hlt this];simp
 .unfold lM;rw[hb.1,hb.2];rfl
 have e4:=ui hu.2.2 hge;unfold ko;rw[e1,e2,e3,e4];rfl
theorem aA6{n:Net}{p:Plan}{i:Nat}(hi:i<p.2.2.1.length)(h:mV n i (p.2.2.1.getD i [])=false): CU n p=false:=by
 cases e:CU n p with
 | false=>rfl
 | true=>
  unfold CU at e;rw[qC,qN]at e;rw[e.2 i (qX.2 hi)]at h;cases h
theorem aDg(n:Net)(p:Plan): af Tryz.prog dS 81 [.ip N n,.ip Pl p] [] ⟨qx n/\nxP p,.dat .bool (CU n p),[]⟩:=by
 refine ae (c:=mkc rc) Zj aL hm (Z9 n p ⟨rfl,λ⟨hn,hp⟩=>?_⟩)
 obtain⟨⟨⟨l1,l2⟩,l3⟩,l4⟩:=id hn;obtain⟨cs,ns,os,fs,ls,ks⟩:=n;obtain⟨p1,p2,nx,dy⟩:=p;simp only at l1 l2 l3 l4;simp only[qc,Dh,Es,Di,qd,Dt,Eb,Dy,Dp,Ei,Eh,Ed,Ew,Df,Et,Dl,Dn,Eo,Dz,Dw,Dj,Dq,Ee,Fe,Dc,Dx,Dk,Ec,Em,Du,Eu,Ez,En,Ef,Fg,Fj,Fh,Ep,Ej,Ey,Fb];obtain⟨q1,q2⟩:nx.length<=2000000000000000/\∀r∈nx,r.length<=2000000000000000/\∀x∈r,-1<=x:=hp;refine⟨λh=>?_,λ⟨h1,h2⟩=>⟨⟨qL _,vC _,λi hi=>by omega⟩,λx hx=>?_⟩⟩
 .unfold CU;rcases h with h | h
  .rw[vK (p:=nx.length=fs.length) (by omega)];simp
  .rw[vK (p:=dy.length=ks.length) (by omega)];simp
 have hx0:0<=x:=hx.1;have hx1:x<=nx.length:=hx.2.1;refine⟨λhlt=>⟨hx0,hlt,⟨qL _,vC _,rfl⟩,λy hy=>?_⟩,λhge=>?_⟩
 .obtain⟨r1,r2⟩:=q2 _ (aS (l:=nx) (i:=x.toNat) (d:=[]) (by omega))
  obtain⟨r,hr⟩:∃r,r=nx.getD x.toNat []:=⟨_,rfl⟩;rw[<- hr]at r1 r2 hy ⊢;have hy0:0<=y:=hy.1;have hy1:y<=r.length:=hy.2.1;refine⟨λhlt2=>?_,λhge2=>?_⟩
  .have hv:=r2 _ (aS (l:=r) (i:=y.toNat) (d:=0) (by omega))
   obtain⟨v,hv2⟩:∃v,v=r.getD y.toNat 0:=⟨_,rfl⟩;rw[<- hv2]at hv ⊢;have cg:jW (cs,ns,os,fs,ls,ks) x v=(decide (v=-1)||(decide (v<ls.length)&&decide ((ls.getD v.toNat (⟨#[]⟩,0,0,0,0,0)).2.1=x))):=rfl
   refine⟨hy0,hlt2,λh=>by omega,λh=>by omega,λh=>?_,λh=>⟨ay (by omega),y+1,⟨by omega,by omega,oL 0 hy0 hlt2 hy.2.2 ?_⟩,rfl,by omega⟩⟩
   .have:jW (cs,ns,os,fs,ls,ks) x v=false:=by
     rw[cg,vK h.1];rcases h.2 with h3 | h3
     .rw[vK (by omega)];rfl
     .rw[vK h3];simp
    refine(aA6 (i:=x.toNat) (by show x.toNat<nx.length;omega) ?_).symm
    show mV _ _ (nx.getD x.toNat [])=false;rw[<- hr];unfold mV;rw[qR hx0];exact CJ 0 hy0 hlt2 (by rw[<- hv2];exact this)
   .rw[<- hv2,cg];by_cases hm:v=-1
    .rw[vF hm];rfl
    .obtain⟨g1,g2⟩:=h hm;rw[vF (p:=v<ls.length) (by omega),vF g2];simp
  .have e1:=ui hy.2.2 hge2;refine⟨ay (by omega),x+1,⟨by omega,by show x+1<=(nx.length:Int);omega,λi hi=>?_⟩,rfl,by omega⟩
   by_cases e:(i:Int)<x
   .exact hx.2.2 i e
   .have:(i:Int)=x:=by omega
    rw[this];show mV _ _ (nx.getD i [])=true;have e2:i=x.toNat:=by omega
    rw[e2,<- hr];exact e1
 .unfold CU;rw[vF (p:=nx.length=fs.length) (by omega),vF (p:=dy.length=ks.length) (by omega)]
  symm
  simp only[zQ];exact qN.2 λi hi=>hx.2.2 i (by have:i<nx.length:=qX.1 hi;omega)
end Go.Eng.In
set_option maxRecDepth 100000
noncomputable section
namespace Go.Eng.In
open Go.Proofs
def bV(n:Net)(o:Int): Off:=n.2.2.2.1.getD o.toNat (⟨#[]⟩,0,0,0,0,0,[])
def al(n:Net)(o:Int): Cal:=n.1.getD (bV n o).2.2.1.toNat (0,[],[])
def dX(n:Net)(k:Int): Cla:=n.2.2.2.2.2.getD k.toNat (⟨#[]⟩,0,0)
def usP(n:Net): Prop:=ko n=true/\qx n
def ja(n:Net)(o:Int): Prop:=0<=o/\o<n.2.2.2.1.length
def Uf(n:Net)(k:Int): Prop:=0<=k/\k<n.2.2.2.2.2.length
def tOk(t:Int): Prop:=-3000000000<=t/\t<=3000000000
def sy(n:Net)(o t:Int): Int:=t+(bV n o).2.2.2.2.1*(bV n o).2.2.2.2.2.1
def U3(n:Net)(o t:Int): Prop:=usP n/\ja n o/\tOk t
def cellAt(p:Plan)(o d:Int): Int:=(p.2.2.1.getD o.toNat []).getD d.toNat 0
def iY(p:Plan)(k o d:Int): Int:=((p.2.2.2.getD k.toNat []).getD o.toNat []).getD d.toNat 0
def plP(n:Net)(p:Plan): Prop:=(0<=p.1/\p.1<=p.2.1/\p.2.1<=600)/\(p.2.2.1.length=n.2.2.2.1.length/\∀r∈p.2.2.1,r.length=n.2.2.2.1.length)/\(∀i j:Int,ja n i->ja n j->jW n i (cellAt p i j)=true/\-1<=cellAt p i j)/\
 p.2.2.2.length=n.2.2.2.2.2.length/\∀t∈p.2.2.2,t.length=n.2.2.2.1.length/\∀r∈t,r.length=n.2.2.2.1.length
def sJ(n:Net)(o l:Int)(p:Plan)(x t:Int): Bool:=wkF (al n o).2.1 (al n o).2.2 (x-2+p.1)&&decide (vt (al n o).1 (x-2+p.1) (dW n l).2.2.2.1≥sy n o t)
def Fo(n:Net)(p:Plan)(d:Int): Nat->Int->Int->Li->Bool×Int×Li
 | 0,o,t,xs=>(decide (o=d),t,xs)
 | f+1,o,t,xs=>if o=d then(true,t,xs)else if cellAt p o d=-1 then(false,t,xs)else if bN xs=false then(false,t,xs)else
  if sJ n o (cellAt p o d) p (hd xs) t=true then Fo n p d f (dW n (cellAt p o d)).2.2.1 (vt (al n o).1 (hd xs-2+p.1) (dW n (cellAt p o d)).2.2.2.1+(dW n (cellAt p o d)).2.2.2.2.1) (tl xs)else(false,t,tl xs)
def uF(n:Net)(p:Plan)(o d t:Int)(xs:Li): Bool:=(Fo n p d 19 o t xs).1
def uE(n:Net)(p:Plan)(o d t:Int)(xs:Li): Int:=(Fo n p d 19 o t xs).2.1
def HD(n:Net)(p:Plan)(o d t:Int)(xs:Li): Li:=(Fo n p d 19 o t xs).2.2
def HE(n:Net)(p:Plan)(o d t:Int)(xs:Li): Prop:=((usP n/\plP n p)/\ja n o/\ja n d)/\tOk t/\dE xs
def TD(n:Net)(p:Plan)(d o0 t0:Int)(xs0:Li)(k o t:Int)(xs:Li): Prop:=(0<=k/\k<=19/\HE n p o d t xs)/\Fo n p d (19-k).toNat o t xs=Fo n p d 19 o0 t0 xs0
def Px(c:Cal)(m t:Int): Int:=if m<cI c.1 t then aZ c.1 t+1 else aZ c.1 t
def Zg(c:Cal)(m t:Int): Option Int:=(gw c.2.1 c.2.2 (Px c m t) (Px c m t+59)).head?
def ng(c:Cal)(m t:Int): Bool:=(Zg c m t).isSome
def Jr(c:Cal)(m t:Int): Int:=(Zg c m t).getD 0
def TL(c:Cal)(t:Int): Prop:=ni c=true/\big t
def yi(k:Nat): Prop:=k=0
def Uo(n:Net)(d cut:Int): Int:=aZ (al n d).1 cut
def Jh(n:Net)(p:Plan)(k o d cut:Int)(xs:Li): Int:=Jr (al n d) (dX n k).2.2 (sy n d (uE n p o d cut xs))
def SU(n:Net)(p:Plan)(k o d cut:Int)(xs:Li): Li:=gw (al n d).2.1 (al n d).2.2 (Uo n d cut+1) (Jh n p k o d cut xs)
def ux(n:Net)(p:Plan)(k o d cut:Int)(xs:Li): Bool:=uF n p o d cut xs&&(ng (al n d) (dX n k).2.2 (sy n d (uE n p o d cut xs))&&(decide (Jh n p k o d cut xs-Uo n d cut<=2000)&&decide (((SU n p k o d cut xs).length:Int)<=iY p k o d)))
def U5(n:Net)(p:Plan)(k o d cut:Int)(xs:Li): Prop:=HE n p o d cut xs/\Uf n k
def Oz(k:Nat): Prop:=k<=4000000000000
def tR(p:Plan)(t:Int): Bool:=decide (1440*p.1<=t)&&decide (t<1440*p.2.1)
def Ju(n:Net)(p:Plan)(o:Int): Li:=gw (al n o).2.1 (al n o).2.2 (p.1-1) (p.2.1+1)
def Jt(n:Net)(k o d:Int): Int:=vt (al n o).1 d (dX n k).2.1
def jw(n:Net)(p:Plan)(k o:Int): Li:=((Ju n p o).map λd=>Jt n k o d).filter (tR p)
def J3(n:Net)(p:Plan)(k o:Int)(j:Nat): Nat:=((((Ju n p o).take j).map λd=>Jt n k o d).filter (tR p)).length
def aBd(n:Net)(p:Plan)(k o:Int): Prop:=(usP n/\plP n p)/\ja n o/\Uf n k
theorem Qc(n:Net)(p:Plan)(o t:Int)(hvc:
 let c2:=(Du n.2.2.2.1 (Dc o) (ByteArray.mk #[],(0:Int),(0:Int),(0:Int),(0:Int),(0:Int),Dt ByteArray)).2.2.2.2;let c3:=c2.1*c2.2.1;let c4:=t+c3;true/\(U3 n o t->0<=o/\o<Df n.2.2.2.1/\inR .i64 c3/\inR .i64 c4/\c4=sy n o t/\True)):
  evF (mkc rc) az 157 [.ips [.ip N n,.ip Pl p,.top],.dat I o,.dat I t] [] ⟨U3 n o t,.dat I (sy n o t),[]⟩:=oE hvc
theorem Iu(n:Net)(p:Plan)(o:Int)(hvc:
 let c2:=(Du n.2.2.2.1 (Dc o) (ByteArray.mk #[],(0:Int),(0:Int),(0:Int),(0:Int),(0:Int),Dt ByteArray)).2.2.1;true/\(usP n/\ja n o->0<=o/\o<Df n.2.2.2.1/\0<=c2/\c2<Df n.1/\Du n.1 (Dc c2) ((0:Int),Dt Bool,Dt Int)=al n o/\True)):
  evF (mkc rc) az 152 [.ips [.ip N n,.ip Pl p,.top],.dat I o] [] ⟨usP n/\ja n o,.ip C (al n o),[]⟩:=oE hvc
theorem Wm(n:Net)(p:Plan)(k o:Int)(hvc:
 true/\(True->n=n/\p=p/\o=o/\k=k/\True)):
  evF (mkc rc) az 82 [.ips [.ip N n,.ip Pl p,.top],.dat I k,.dat I o] [] ⟨True,.fn 151 [.ipv (.ips [.ip N n,.ip Pl p,.top]),.ip I o,.ip I k],[]⟩:=oE hvc
def F3: Kt:=kOr 157 (ax [.pvf N Pl,.val I,.val I] (λ((n,_),o,t,_)=>U3 n o t) λ((n,_),o,t,_)=>.dat I (sy n o t)) <|
 kOr 152 (ax [.pvf N Pl,.val I] (λ((n,_),o,_)=>usP n/\ja n o) λ((n,_),o,_)=>.ip C (al n o)) <|
 kOr 82 (ax [.pvf N Pl,.val I,.val I] (λ_=>True) λ((n,p),k,o,_)=>.fn 151 [.ipv (.ips [.ip N n,.ip Pl p,.top]),.ip I o,.ip I k]) rc
def KI1: FuncId->List AV->Option i9:=λf caps=>if f=219 then match ofK [.ptr I,.ptr I,.bp C] caps with
 | some (a,b,c,_)=>some ⟨wdP c.2.1 c.2.2 a b,I,gw c.2.1 c.2.2 a b⟩
 | none=>none
 else none
noncomputable def S0(K:Kt)(KI:FuncId->List AV->Option i9)(KP:KPt)(pf:FuncId->Bool): Cfg:=⟨Tryz.prog,dS,K,λ_=>false,KI,true,KP,pf⟩
def mki(K:Kt)(KI:FuncId->List AV->Option i9): Cfg:={mkc K with KI:=KI}
def aFg(n:Net)(p:Plan)(k o:Int): Y3:=⟨az,⟨λ_ _=>none,λ_ _=>none,λid=>id==6⟩,λs=>some (frz (allNames s) s),λj=>J3 n p k o j⟩
theorem Wn (n : Net) (p : Plan) (k o : Int) (hvc :
 let c1 := p.fst;
 let c2 := Ee (1440 : Int) c1;
 let c3 := p.snd;
 let c4 := c3.fst;
 let c5 := Ee (1440 : Int) c4;
 let aO := Dj c1 (1 : Int);
 let c7 := Dq c4 (1 : Int);
 let c8 := (al n o).snd;
 let c9 := c8.fst;
 let c10 := c8.snd;
 let c11 := gw c9 c10 aO c7;
 let c12 := jw n p k o;
 let c13 := Dk c12;
 let c14 := n.snd.snd.snd.snd.snd;
 let c15 := (al n o).fst;
 let c16 := (Du c14 (Dc k) (ByteArray.mk (Dt UInt8).toArray, (0 : Int), (0 : Int))).snd.fst; true = true ∧ true = true ∧ true = true ∧ false = false ∧ ∀
  (l : Nat), aBd n p k o → (usP n ∧ ja n o) ∧ 1 = 1 ∧ 0 = 0 ∧ inR .i64 c2 ∧ inR .i64 c5 ∧ 1 = 1 ∧ 0 = 0 ∧ 1 = 1 ∧ 0 = 0 ∧ 1 = 1 ∧ 0 = 0 ∧ inR
  IntKind.i64 aO ∧ inR .i64 c7 ∧ True ∧ l = l ∧ n = n ∧ p = p ∧ o = o ∧ k = k ∧ l = l ∧ 1 = 1 ∧ 0 = 0 ∧ AV.ip ((Ty.int IntKind.i64).pair (Ty.bool.sl.pair
  (Ty.int IntKind.i64).sl)) (al n o) = AV.ip ((Ty.int IntKind.i64).pair (Ty.bool.sl.pair (Ty.int IntKind.i64).sl)) (al n o) ∧ 1 = 1 ∧ 0 = 0 ∧ c2 = c2 ∧ 1 =
  1 ∧ 0 = 0 ∧ c5 = c5 ∧ n = n ∧ p = p ∧ o = o ∧ al n o = al n o ∧ n = n ∧ p = p ∧ n = n ∧ p = p ∧ p = p ∧ p = p ∧ p = p ∧ p = p ∧ c1 = c1 ∧ c2 = c2 ∧ n = n
  ∧ p = p ∧ n = n ∧ p = p ∧ p = p ∧ p = p ∧ p = p ∧ c3 = c3 ∧ c4 = c4 ∧ c5 = c5 ∧ al n o = al n o ∧ n = n ∧ p = p ∧ n = n ∧ p = p ∧ p = p ∧ p = p ∧ p = p ∧
  p = p ∧ c1 = c1 ∧ aO = aO ∧ n = n ∧ p = p ∧ n = n ∧ p = p ∧ p = p ∧ p = p ∧ p = p ∧ c3 = c3 ∧ c4 = c4 ∧ c7 = c7 ∧ aO = aO ∧ c7 = c7 ∧ al n o = al n o ∧
  wdP c9 c10 aO c7 ∧ J3 n p k o (0) = 0 ∧ J3 n p k o (Dk c11) = c13 ∧ ∀ (j : Nat),
 let c17 := J3 n p k o j;
 let c18 := Ec c17 (1);
 let c19 := J3 n p k o (Ec j (1)); ∀ (y : Int),
 let c20 := Ed (vt c15 y c16) c2;
 let c21 := Ea c20 (Dp (vt c15 y c16) c5) false;
 let c22 := Ea c21 (Di false) false; lF c11 j y → true = true ∧ Dl (0 : Int) k ∧ Dn k (Df c14) ∧ (big c15 ∧ big y ∧ big c16) ∧ (c20 = true →
  c20 = true → c20 = true) ∧ (c20 = true → c20 = true → c20 = true) ∧ (Dh true c20 = true → c20 = true) ∧ (c21 = true → (c21 = true → c21 = true) ∧ (c21 =
  true → c21 = true) ∧ l = l ∧ true = true ∧ lF c12 c17 (vt c15 y c16) ∧ ∀ (b : Bool),
 let c23 := Ea c21 (Di b) false; (Dh true c21 = true → c21 = true) ∧ (c23 = true → b = true → c18 = c13) ∧ (c23 = false → b = true ∧ c18 = c19)) ∧ (c21
  = false → (c21 = true → c21 = true → c21 = true) ∧ (Dh true c21 = true → c21 = true) ∧ (c22 = true → true = true → c17 = c13) ∧ (c22 = false → true = true ∧
  c17 = c19))) :
    aDK (mki F3 KI1) (aFg n p k o) 151 [.ipv (.ips [.ip N n, .ip Pl p, .top]), .ip I o, .ip I k] ⟨aBd n p k o, I, jw n p k o⟩ := oE hvc
def aFb(n:Net)(p:Plan)(d o0 t0:Int)(xs0:Li): Ann:=⟨λid s=>match id with
 | 2=>some {α:=Int×Int×Int×Li,inv:=λx=>TD n p d o0 t0 xs0 x.1 x.2.1 x.2.2.1 x.2.2.2,st:=λx=>ie (put (fH s) [(9,.dat I x.1),(1,.dat I x.2.1),(3,.dat I x.2.2.1)]) 1 (.var [.dat R x.2.2.2]),μ:=λx=>Dc (Dj 19 x.1)}
 | _=>none,λ_ _=>none,λ_ _=>none⟩
def aBN: Kt:=kOr 207 (U9 1 R [.mp 1] (λ_ xs=>True/\bN xs=true) (λ_ xs=>.dat I (hd xs)) λ_ xs=>tl xs) F3
def c12: Cfg:=I5 aBN (λ_=>false) KP6 (λf=>f==79||f==207)
theorem KH(n:Net)(p:Plan)(o d t:Int)(xs:Li)(hvc:
 let c1:=p.2.2.1;let c2:=uF n p o d t xs;let c3:=chainOf (Value.iface (39) (Value.int IntKind.i64 (190:Int)));let c4:=n.2.2.2.2.1;let c5:=p.1;let aO:=(ByteArray.mk #[],(0:Int),(0:Int),(0:Int),(0:Int),(0:Int));true/\(HE n p o d t xs->1=1/\(∃(x:Int×Int×Int×Li),let c7:=x.1;let c8:=x.2;let c9:=c8.1;let c10:=c8.2;let c11:=c10.1;let c12:=c10.2;TD n p d o t xs c7 c9 c11 c12/\n=n/\p=p/\1=1/\0=0/\0=0/\o=c9/\d=d/\t=c11/\(0:Int)=(0:Int)/\0=c7/\xs=c12/\1=1/\True)/\∀(x:Int×Int×Int×Li),let c13:=x.1;let c14:=x.2;let c15:=c14.1;let c16:=c14.2;let c17:=c16.1;let c18:=c16.2;let c19:=Dy c15 d;let c20:=Du c1 (Dc c15) [];let c21:=Dp c13 19;let c22:=Du c20 (Dc d) 0;let c23:=Ea c21 (Dy c22 (-1)) false;let c24:=bN c18;let c25:=hd c18-2;let c26:=c25+c5;let c27:=al n c15;let c28:=c27.1;let c29:=(Du c4 (Dc c22) aO).2.2;let c30:=c29.2;let c31:=c30.1;let c32:=c27.2;let c33:=c32.1;let c34:=c32.2;let c35:=wkF c33 c34 c26;let c36:=vt c28 c26 c31;let c37:=Ea c35 (Ed c36 (sy n c15 c17)) false;let c38:=c36+c30.2.1;let c39:=c13+1;
 TD n p d o t xs c13 c15 c17 c18->(c19->0<=c15/\c15<Df c1/\0<=d/\d<Df c20/\(c21->c21->c21)/\(Dh true c21->c21)/\(true->True/\(c23=false->c2=false/\true/\c3=c3))/\((true->c23)->(True/\c23)/\0<=c22/\c22<Df c4/\(usP n/\ja n c15)/\True/\(c24->(True/\c24)/\1=1/\inR .i64 c25/\inR .i64 c26/\(big c28/\big c26/\big c31)/\wkP c33 c34 c26/\(c35->c35->c35)/\(c35->c35->c35)/\(c35->c35->c35)/\(c35->U3 n c15 c17)/\(c35->c35->c35)/\(c35->c35->c35)/\(Dh true c35->c35)/\(true->True/\(c37=false->c2=false/\true/\c3=c3))/\((true->c37)->(True/\c37)/\inR .i64 c38/\inR .i64 c39/\∃(y:Int×Int×Int×Li),let c40:=y.1;let c41:=y.2;let c42:=c41.1;let c43:=c41.2;let c44:=c43.1;let c45:=c43.2;TD n p d o t xs c40 c42 c44 c45/\(n=n/\p=p/\1=1/\0=0/\0=0/\c29.1=c42/\d=d/\c38=c44/\(0:Int)=(0:Int)/\c39=c40/\tl c18=c45/\1=1/\True)/\Dc (19-c40)<Dc (19-c13)))/\(c24=false->c2=false/\true/\c3=c3)))/\(c19=false->c2/\c17=uE n p o d t xs/\c18=HD n p o d t xs/\1=1/\True))):
  evM c12 (aFb n p d o t xs) 155 [.ips [.ip N n,.ip Pl p,.ptr 1 1 0 0],.dat I o,.dat I d,.dat I t] [(1,.var [.dat R xs])] (.dat I (uE n p o d t xs)) [(1,.var [.dat R (HD n p o d t xs)])] ⟨HE n p o d t xs,uF n p o d t xs,dj 39 190⟩:=oE hvc
def aFf: Ann:=⟨λid s=>match id with
 | 5=>some {α:=Nat,inv:=λk=>yi k,st:=λ_=>fH s,μ:=λk=>k}
 | _=>none,λ_ _=>none,λ_ _=>none⟩
theorem QB(z m t:Int)(w:List Bool)(h:Li)(hvc:
 let c1:=(z,w,h);let c2:=Dp m (cI z t);let c3:=aZ z t+1;let c4:=c3+60;let c5:=c4-1;let aO:=gw w h c3 c5;let c7:=ng c1 m t;let c8:=chainOf (Value.iface (39) (Value.int IntKind.i64 (190:Int)));let c6:=true->True/\(false=false->c7=false/\true/\c8=c8);let c9:=aZ z t+60;let c10:=c9-1;let c11:=gw w h (aZ z t) c10;true/\(TL c1 t->(big z/\big t)/\(c2->inR .i64 c3/\inR .i64 c4/\inR .i64 c5/\True/\wdP w h c3 c5/\(∃x,yi x/\x=0/\c1=c1/\m=m/\t=t/\1=1/\0=0/\0=0/\c3=c3/\cI z t=cI z t/\aZ z t=aZ z t/\cI z t=cI z t/\c1=c1/\t=t/\aZ z t=aZ z t/\cI z t=cI z t/\aZ z t=aZ z t/\cI z t=cI z t/\m=m/\cI z t=cI z t/\c2=c2/\aZ z t=aZ z t/\c3=c3/\c1=c1/\c3=c3/\c3=c3/\c4=c4/\c5=c5/\c3=c3/\c5=c5/\c1=c1/\(0:Int)=(0:Int)/\True)/\(∀(x:Nat) (y:Int),yi x->lF aO x y->1=1/\0=0/\c7/\1=1/\0=0/\y=Jr c1 m t/\True)/\∀(x:Nat),yi x->x=Dk aO->c6/\True)/\(c2=false->inR .i64 c9/\inR .i64 c10/\True/\wdP w h (aZ z t) c10/\(∃x,yi x/\x=0/\c1=c1/\m=m/\t=t/\1=1/\0=0/\0=0/\aZ z t=aZ z t/\cI z t=cI z t/\aZ z t=aZ z t/\cI z t=cI z t/\c1=c1/\t=t/\aZ z t=aZ z t/\cI z t=cI z t/\aZ z t=aZ z t/\cI z t=cI z t/\m=m/\cI z t=cI z t/\c2=c2/\c1=c1/\aZ z t=aZ z t/\aZ z t=aZ z t/\c9=c9/\c10=c10/\aZ z t=aZ z t/\c10=c10/\c1=c1/\(0:Int)=(0:Int)/\True)/\(∀(x:Nat) (y:Int),yi x->lF c11 x y->1=1/\0=0/\c7/\1=1/\0=0/\y=Jr c1 m t/\True)/\∀(x:Nat),yi x->x=Dk c11->c6/\True))):
  evC (S0 F3 KI1 Go.Eng.noP (λ_=>false)) aFf 156 [.ip C (z,w,h),.dat I m,.dat I t] (.dat I (Jr (z,w,h) m t)) ⟨TL (z,w,h) t,ng (z,w,h) m t,dj 39 190⟩:=oE hvc
def Y1: Kt:=kOr 155 (U9 1 R [.pv 1 N Pl,.val I,.val I,.val I] (λ((n,p),o,d,t,_) xs=>HE n p o d t xs/\uF n p o d t xs=true) (λ((n,p),o,d,t,_) xs=>.dat I (uE n p o d t xs)) λ((n,p),o,d,t,_) xs=>HD n p o d t xs) <|
 kOr 156 (ax [.ptr C,.val I,.val I] (λ(c,m,t,_)=>TL c t/\ng c m t=true) λ(c,m,t,_)=>.dat I (Jr c m t)) F3
def aEV: KPt:=pOr 155 (X1 1 R [.pv 1 N Pl,.val I,.val I,.val I] λ((n,p),o,d,t,_) xs=>⟨HE n p o d t xs,uF n p o d t xs,dj 39 190⟩) <|
 pOr 156 (uG [.ptr C,.val I,.val I] λ(c,m,t,_)=>⟨TL c t,ng c m t,dj 39 190⟩) KPr
def c13: Cfg:=S0 Y1 KI1 aEV (λf=>f==79||f==155||f==156)
def aE3: Ann:=⟨λid s=>match id with
 | 7=>match s.sig.T 15 with
  | .ptr nm _ _ _=>some {α:=Nat,inv:=λk=>Oz k,st:=λk=>ie (fH s) nm (.var [.dat I (Dx k)]),μ:=λk=>k}
  | _=>none
 | _=>none,λ_ _=>none,λ_ _=>none⟩
theorem Qe(n:Net)(p:Plan)(k o d cut:Int)(xs:Li)(hvc:
 let c1:=uF n p o d cut xs;let c2:=ux n p k o d cut xs;let c3:=chainOf (Value.iface (39) (Value.int IntKind.i64 (190:Int)));let c4:=n.2.2.2.2.2;let c5:=uE n p o d cut xs;let aO:=sy n d c5;let c7:=Du c4 (Dc k) (ByteArray.mk #[],(0:Int),(0:Int));let c8:=c7.2.2;let c9:=ng (al n d) c8 aO;let c10:=(al n d).1;let c11:=Jr (al n d) c8 aO;let c12:=aZ c10 cut;let c13:=c11-c12;let c14:=Eh c13 2000;let c15:=c12+1;let c16:=(al n d).2;let c17:=c16.1;let c18:=c16.2;let c19:=cI c10 cut;let c20:=HD n p o d cut xs;let c21:=gw c17 c18 c15 c11;let c22:=p.2.2.2;let c23:=Du c22 (Dc k) (Dt (Li));let c24:=Du c23 (Dc o) [];let c25:=Du c24 (Dc d) 0;
 true/\(U5 n p k o d cut xs->1=1/\(true->HE n p o d cut xs/\(c1=false->c2=false/\true/\c3=c3))/\((true->c1)->(HE n p o d cut xs/\c1)/\1=1/\(usP n/\ja n d)/\0<=k/\k<Df c4/\U3 n d c5/\TL (al n d) aO/\(c9->0<=k/\k<Df c4/\U3 n d c5/\(TL (al n d) aO/\c9)/\(big c10/\big cut)/\inR .i64 c13/\(true->True/\(c14=false->c2=false/\true/\c3=c3))/\((true->c14)->(True/\c14)/\1=1/\0=0/\inR .i64 c15/\True/\wdP c17 c18 c15 c11/\(∃x,Oz x/\x=0/\n=n/\p=p/\1=1/\0=0/\0=0/\k=k/\o=o/\d=d/\cut=cut/\c5=c5/\al n d=al n d/\c11=c11/\c12=c12/\c19=c19/\1=1/\0=0/\0=0/\n=n/\p=p/\1=1/\0=0/\0=0/\o=o/\d=d/\cut=cut/\c5=c5/\n=n/\p=p/\1=1/\0=0/\0=0/\d=d/\al n d=al n d/\al n d=al n d/\n=n/\p=p/\1=1/\0=0/\0=0/\n=n/\p=p/\1=1/\0=0/\0=0/\n=n/\p=p/\1=1/\0=0/\0=0/\n=n/\n=n/\c4=c4/\c4=c4/\k=k/\c7=c7/\c8=c8/\c8=c8/\n=n/\p=p/\1=1/\0=0/\0=0/\d=d/\c5=c5/\aO=aO/\c11=c11/\c12=c12/\c19=c19/\al n d=al n d/\cut=cut/\c12=c12/\c19=c19/\c12=c12/\c19=c19/\c11=c11/\c12=c12/\c13=c13/\c14=c14/\al n d=al n d/\c12=c12/\c15=c15/\c11=c11/\c15=c15/\c11=c11/\al n d=al n d/\c20=c20/\0=Dx x/\1=1/\True)/\(∀(x:Nat),let c26:=Dx x+1;
 ∀(y:Int),Oz x->lF c21 x y->1=1/\0=0/\inR .i64 c26/\1=1/\0=0/\∃z,Oz z/\z=x+(1)/\n=n/\p=p/\1=1/\0=0/\0=0/\k=k/\o=o/\d=d/\cut=cut/\c5=c5/\al n d=al n d/\c11=c11/\c12=c12/\c19=c19/\1=1/\0=0/\0=0/\n=n/\p=p/\1=1/\0=0/\0=0/\o=o/\d=d/\cut=cut/\c5=c5/\n=n/\p=p/\1=1/\0=0/\0=0/\d=d/\al n d=al n d/\al n d=al n d/\n=n/\p=p/\1=1/\0=0/\0=0/\n=n/\p=p/\1=1/\0=0/\0=0/\n=n/\p=p/\1=1/\0=0/\0=0/\n=n/\n=n/\c4=c4/\c4=c4/\k=k/\c7=c7/\c8=c8/\c8=c8/\n=n/\p=p/\1=1/\0=0/\0=0/\d=d/\c5=c5/\aO=aO/\c11=c11/\c12=c12/\c19=c19/\al n d=al n d/\cut=cut/\c12=c12/\c19=c19/\c12=c12/\c19=c19/\c11=c11/\c12=c12/\c13=c13/\c14=c14/\al n d=al n d/\c12=c12/\c15=c15/\c11=c11/\c15=c15/\c11=c11/\al n d=al n d/\c20=c20/\c26=Dx z/\1=1/\True)/\∀(x:Nat),Oz x->x=Dk c21->1=1/\0=0/\0<=k/\k<Df c22/\0<=o/\o<Df c23/\0<=d/\d<Df c24/\True/\(Eh (Dx x) c25->1=1/\0=0/\0<=k/\k<Df c22/\0<=o/\o<Df c23/\0<=d/\d<Df c24/\(True/\Eh (Dx x) c25)/\c2/\c20=c20/\1=1/\True)/\(Eh (Dx x) c25=false->c2=false/\true/\c3=c3)))/\(c9=false->c2=false/\true/\c3=c3)))):
  evM c13 aE3 83 [.ips [.ip N n,.ip Pl p,.ptr 1 1 0 0],.dat I k,.dat I o,.dat I d,.dat I cut] [(1,.var [.dat R xs])] (.tup []) [(1,.var [.dat R (HD n p o d cut xs)])] ⟨U5 n p k o d cut xs,ux n p k o d cut xs,dj 39 190⟩:=oE hvc
theorem ri{n:Net}(h:usP n): ((∀c∈n.1,ni c=true)/\(∀o∈n.2.2.2.1,lv n o=true))/\(∀l∈n.2.2.2.2.1,lz n l=true)/\∀k∈n.2.2.2.2.2,lM k=true:=by
 have:=h.1;unfold ko at this;simp only[qC,qN]at this;exact⟨⟨this.1.1.1,this.1.1.2⟩,this.1.2,this.2⟩
theorem KT{n:Net}{o:Int}(h:usP n)(ho:ja n o): (0<=(bV n o).2.2.1/\(bV n o).2.2.1<n.1.length)/\(1<=(bV n o).2.2.2.2.1/\(bV n o).2.2.2.2.1<=1000)/\1<=(bV n o).2.2.2.2.2.1/\(bV n o).2.2.2.2.2.1<=1000:=by
 have:=(ri h).1.2 (bV n o) (aS (by have:=ho.1;have:=ho.2;omega))
 unfold lv at this;simp only[qC,np]at this;omega
theorem Gv{n:Net}{o:Int}(h:usP n)(ho:ja n o): ni (al n o)=true:=
 (ri h).1.1 _ (aS (by have:=(KT h ho).1;omega))
theorem UH{n:Net}{l:Int}(h:usP n)(h0:0<=l)(h1:l<n.2.2.2.2.1.length): ja n (dW n l).2.1/\ja n (dW n l).2.2.1/\(0<=(dW n l).2.2.2.1/\(dW n l).2.2.2.1<=1439)/\1<=(dW n l).2.2.2.2.1/\(dW n l).2.2.2.2.1<=100000:=by
 have:=(ri h).2.1 (dW n l) (aS (by omega))
 unfold lz jN at this;simp only[qC,np]at this;unfold ja;omega
theorem UI{n:Net}{k:Int}(h:usP n)(hk:Uf n k): (0<=(dX n k).2.1/\(dX n k).2.1<=1439)/\0<=(dX n k).2.2/\(dX n k).2.2<=1439:=by
 have:=(ri h).2.2 (dX n k) (aS (by have:=hk.1;have:=hk.2;omega))
 unfold lM at this;simp only[qC,np]at this;omega
theorem lN{c:Cal}(h:ni c=true): (-720<=c.1/\c.1<=840)/\c.2.1.length=7/\srt c.2.2:=by
 have:=(iI.1 h).1;exact⟨⟨this.1,this.2.1⟩,this.2.2.1,KR h⟩
theorem U2{n:Net}{o t:Int}(h:usP n)(ho:ja n o): t+1<=sy n o t/\sy n o t<=t+1000000:=by
 obtain⟨_,⟨a1,a2⟩,b1,b2⟩:=KT h ho;unfold sy;have h1:1*1<=(bV n o).2.2.2.2.1*(bV n o).2.2.2.2.2.1:=xI a1 b1 (by decide) (by omega)
 have h2:(bV n o).2.2.2.2.1*(bV n o).2.2.2.2.2.1<=1000*1000:=xI a2 b2 (by omega) (by decide)
 omega
theorem WW(n:Net)(p:Plan)(o t:Int): af Tryz.prog dS 157 [.ips [.ip N n,.ip Pl p,.top],.dat I o,.dat I t] [] ⟨U3 n o t,.dat I (sy n o t),[]⟩:=by
 refine ae (c:=mkc rc) Zj aL hm (Qc n p o t ⟨rfl,λ⟨hu,ho,ht⟩=>?_⟩)
 obtain⟨r1,r2⟩:=U2 (t:=t) hu ho;obtain⟨t1,t2⟩:=ht;have e:sy n o t=t+(bV n o).2.2.2.2.1*(bV n o).2.2.2.2.2.1:=rfl;refine⟨ho.1,ho.2,ay ?_,ay ?_,rfl,trivial⟩
 .show _<=(bV n o).2.2.2.2.1*(bV n o).2.2.2.2.2.1/\(bV n o).2.2.2.2.1*(bV n o).2.2.2.2.2.1<=_;omega
 .show _<=t+(bV n o).2.2.2.2.1*(bV n o).2.2.2.2.2.1/\t+(bV n o).2.2.2.2.1*(bV n o).2.2.2.2.2.1<=_;omega
theorem LL(n:Net)(p:Plan)(o:Int): af Tryz.prog dS 152 [.ips [.ip N n,.ip Pl p,.top],.dat I o] [] ⟨usP n/\ja n o,.ip C (al n o),[]⟩:=by
 refine ae (c:=mkc rc) Zj aL hm (Iu n p o ⟨rfl,λ⟨hu,ho⟩=>?_⟩)
 have:=(KT hu ho).1;exact⟨ho.1,ho.2,this.1,this.2,rfl,trivial⟩
theorem aAc(n:Net)(p:Plan)(k o:Int): af Tryz.prog dS 82 [.ips [.ip N n,.ip Pl p,.top],.dat I k,.dat I o] [] ⟨True,.fn 151 [.ipv (.ips [.ip N n,.ip Pl p,.top]),.ip I o,.ip I k],[]⟩:=
 ae (c:=mkc rc) Zj aL hm (Wm n p k o ⟨rfl,λ_=>by simp⟩)
theorem aCk: aj Tryz.prog dS F3:=ai (ag λ((n,p),o,t,_)=>WW n p o t)<|ai (ag λ((n,p),o,_)=>LL n p o)<|ai (ag λ((n,p),k,o,_)=>aAc n p k o) Zj
theorem mC.args {P:Program} {G:List (Nat×AV)} {gf:FuncId} {xs ys:List AV} {it:i9} (h:mC P G gf ys it) (hab:∀(C:Ctx) us,AV.relL P C xs us->AV.relL P C ys us):mC P G gf xs it:=
 λhp l J JX JP w D us hD hG hu=>h hp l J JX JP w D us hD hG (hab _ us hu)
theorem aCl: br Tryz.prog dS KI1:=by
 intro f caps it h;unfold KI1 at h;split at h
 .rename_i e;subst e;split at h
  .rename_i a b c _ hx;cases h;exact mC.args (aCD c.1 a b c.2.1 c.2.2) λC us hu=>eZ hx hu
  .cases h
 .cases h
theorem TQ(n:Net)(p:Plan)(k o:Int): J3 n p k o (Ju n p o).length=(jw n p k o).length:=by
 unfold J3 jw;rw[qO (qJ _)]
theorem Oo{n:Net}{p:Plan}{k o:Int}{j:Nat}{y:Int}(h:lF (Ju n p o) j y): J3 n p k o (j+1)=J3 n p k o j+(if tR p (Jt n k o y)=true then 1 else 0):=by
 have h:(Ju n p o)[j]?=some y:=h;unfold J3;rw[wX,h,yY,xC,qG]
 congr 1
 simp only[Option.toList,zG,qCd,xB,qBh];split<;>rfl
theorem Yw{n:Net}{p:Plan}{k o:Int}{j:Nat}{y:Int}(h:lF (Ju n p o) j y)(hc:tR p (Jt n k o y)=true): lF (jw n p k o) (J3 n p k o j) (Jt n k o y):=by
 have h:(Ju n p o)[j]?=some y:=h;obtain⟨hj,hy⟩:=qF.1 h;have e:Ju n p o=(Ju n p o).take j++y::(Ju n p o).drop (j+1):=by rw[<- hy,List.getElem_cons_drop,yZ]
 have e2:jw n p k o=(((Ju n p o).take j).map λd=>Jt n k o d).filter (tR p)++((y::(Ju n p o).drop (j+1)).map λd=>Jt n k o d).filter (tR p):=by
  unfold jw
  conv=>lhs;rw[e]
  rw[yY,xC]
 unfold lF;rw[e2];unfold J3;rw[qV (qJ _),qCc,zG,xB,if_pos hc];rfl
theorem UF{w:List Bool}{h:Li}{a b x:Int}(hx:x∈gw w h a b): a<=x/\x<=b/\wkF w h x=true:=by
 unfold gw at hx;rw[xK,zA]at hx;obtain⟨⟨i,hi,rfl⟩,h2⟩:=hx;have:=qX.1 hi;exact⟨by omega,by omega,h2⟩
theorem aAd (n : Net) (p : Plan) (k o : Int) : mC Tryz.prog dS 151 [.ipv (.ips [.ip N n, .ip Pl p, .top]), .ip I o, .ip I k] ⟨aBd n p k o, I, jw n p k o⟩ := by
  refine ES (c := mki F3 KI1) aCk aCl hm (Wn n p k o ⟨rfl, rfl, rfl, rfl, fun l ⟨⟨hu, hp⟩, ho, hk⟩ => ?_⟩)
  obtain ⟨⟨p0, p1, p2⟩, _⟩ := hp
  have hc := Gv hu ho
  obtain ⟨⟨z1, z2⟩, hw, hs⟩ := lN hc
  have hcl := UI hu hk
  simp only [qAs, zS, vO]
  refine ⟨⟨hu, ho⟩, ay (by simp only [Ee]; omega), ay (by simp only [Ee]; omega), ay (by simp only [Dj]; omega), ay (by simp only [Dq]; omega), ⟨hw, hs, ⟨by simp only [Dj]; omega, by simp only [Dj]; omega⟩, ⟨by simp only [Dq]; omega, by simp only [Dq]; omega⟩⟩, rfl, TQ n p k o, fun j y hy => ?_⟩
  have hy' : lF (Ju n p o) j y := hy
  have hm2 := UF (zH hy')
  have hk2 := Oo (k := k) hy'
  have eM : vt (al n o).1 y (dX n k).2.1 = Jt n k o y := rfl
  have eC : Ea (Ed (Jt n k o y) (Ee 1440 p.1)) (Dp (Jt n k o y) (Ee 1440 p.2.1)) false = tR p (Jt n k o y) := by
    rw [OA]; rfl
  have two : ∀ {q : Prop}, q → (q ∧ q) := fun h => ⟨h, h⟩
  refine ⟨hk.1, hk.2, ⟨⟨by omega, by omega⟩, ⟨by omega, by omega⟩, ⟨by show _ ≤ (dX n k).2.1; omega, by show (dX n k).2.1 ≤ _; omega⟩⟩, ?_⟩
  simp only [qBj, kV, zS, vO]
  refine ⟨fun h => by simpa [Dh] using h, fun hc1 => ?_, fun hc1 => ?_⟩
  · have hin : tR p (Jt n k o y) = true := by rw [← eC]; exact hc1
    rw [if_pos hin] at hk2
    refine ⟨Yw hy' hin, fun b => ⟨fun _ => hc1, fun h1 h2 => ?_, fun h1 => ?_⟩⟩
    · rw [h2] at h1
      rw [hc1] at h1; cases h1
    · rw [hc1] at h1
      have : b = true := by simpa [Ea, Di] using h1
      exact ⟨this, hk2.symm⟩
  · have hin : tR p (Jt n k o y) = false := by rw [← eC]; exact hc1
    rw [if_neg (by rw [hin]; exact Bool.false_ne_true)] at hk2
    refine ⟨fun h => by simpa [Dh] using h, ?_, ?_⟩
    · intro h
      rw [hc1] at h; cases h
    · intro _
      exact hk2.symm
theorem aBG: aj Tryz.prog dS aBN:=ai (oZ λ_ xs=>(rN xs).1) aCk
theorem GF(n:Net)(p:Plan)(o d t:Int)(xs:Li): af Tryz.prog dS 155 [.ips [.ip N n,.ip Pl p,.ptr 1 1 0 0],.dat I o,.dat I d,.dat I t] [(1,.var [.dat R xs])] ⟨HE n p o d t xs/\uF n p o d t xs=true,.dat I (uE n p o d t xs),[(1,.var [.dat R (HD n p o d t xs)])]⟩/\
  cU Tryz.prog dS 155 [.ips [.ip N n,.ip Pl p,.ptr 1 1 0 0],.dat I o,.dat I d,.dat I t] [(1,.var [.dat R xs])] ⟨HE n p o d t xs,uF n p o d t xs,dj 39 190⟩:=by
 refine cq (c:=c12) aBG aL hm O6 (KH n p o d t xs ⟨rfl,λhp=>?_⟩)
 simp only[qc,Dh,Es,Di,qd,Dt,Eb,Dy,Dp,Ei,Eh,Ed,Ew,Df,Et,Dl,Dn,Eo,Dz,Dw,Dj,Dq,Ee,Fe,Dc,Dx,Dk,Ec,Em,Du,Eu,Ez,En,Ef,Fg,Fj,Fh,Ep,Ej,Ey,Fb];refine⟨⟨(0,o,t,xs),⟨⟨qL _,show(0:Int)<=19 by decide,hp⟩,rfl⟩,rfl,rfl,rfl,rfl⟩,λ⟨k,o2,t2,ys⟩ hi=>?_⟩
 obtain⟨⟨k0,k1,hq⟩,he⟩:=hi;simp only at k0 k1 hq he;obtain⟨⟨⟨hu,hpl⟩,ho2,hd2⟩,ht2,hys⟩:=id hq;obtain⟨⟨p0,p1,p2⟩,⟨q1,q2⟩,q3,_⟩:=id hpl;obtain⟨c,ec⟩:∃c,c=cellAt p o2 d:=⟨_,rfl⟩;have eC:(p.2.2.1.getD o2.toNat []).getD d.toNat 0=c:=ec.symm;obtain⟨ln,el⟩:∃ln,ln=dW n c:=⟨_,rfl⟩;have eL:n.2.2.2.2.1.getD c.toNat (⟨#[]⟩,0,0,0,0,0)=ln:=el.symm;simp only[eC,eL];obtain⟨g1,g2⟩:=q3 o2 d ho2 hd2
 rw[<- ec]at g1 g2;have eOk:uF n p o d t xs=(Fo n p d (19-k).toNat o2 t2 ys).1:=by rw[he];rfl
 have eT:uE n p o d t xs=(Fo n p d (19-k).toNat o2 t2 ys).2.1:=by rw[he];rfl
 have eR:HD n p o d t xs=(Fo n p d (19-k).toNat o2 t2 ys).2.2:=by rw[he];rfl
 have hf:k<19->(19-k).toNat=(19-(k+1)).toNat+1:=λh=>by omega
 have eS:∀f,Fo n p d (f+1) o2 t2 ys=if o2=d then(true,t2,ys)else if c=-1 then(false,t2,ys)else if bN ys=false then(false,t2,ys)else
   if sJ n o2 c p (hd ys) t2=true then Fo n p d f ln.2.2.1 (vt (al n o2).1 (hd ys-2+p.1) ln.2.2.2.1+ln.2.2.2.2.1) (tl ys)else(false,t2,tl ys):=λf=>by rw[el,ec];rfl
 have eD:sJ n o2 c p (hd ys) t2=(wkF (al n o2).2.1 (al n o2).2.2 (hd ys-2+p.1)&&decide (vt (al n o2).1 (hd ys-2+p.1) ln.2.2.2.1≥sy n o2 t2)):=by rw[el];rfl
 refine⟨λhne=>?_,λheq=>?_⟩
 .have hrow:=q2 _ (aS (l:=p.2.2.1) (i:=o2.toNat) (d:=[]) (by have:=ho2.1;have:=ho2.2;omega))
  refine⟨ho2.1,by rw[q1];exact ho2.2,hd2.1,by rw[hrow];exact hd2.2,λh=>?_,λ⟨hk,hc⟩=>?_⟩
  .rw[eOk];by_cases hk:k<19
   .rw[hf hk,eS,if_neg hne,if_pos (h hk)]
   .rw[show(19-k).toNat=0 by omega]
    exact vK hne
  .have hl:c<n.2.2.2.2.1.length:=by
    unfold jW at g1;rw[vK hc,xR,qC,qE]at g1;exact g1.1
   obtain⟨_,lo,⟨m0,m1⟩,r0,r1⟩:=UH hu (by omega:0<=c) hl
   rw[<- el]at lo m0 m1 r0 r1;obtain⟨⟨z1,z2⟩,hw,hs⟩:=lN (Gv hu ho2);refine⟨⟨hk,hc⟩,by omega,hl,⟨hu,ho2⟩,λh1=>?_,λh1=>?_⟩
   .have hm1:0<=hd ys/\hd ys<=65519:=dP.1 hys.1 _ (aS (wJ h1));have hm2:-1000000<=vt (al n o2).1 (hd ys-2+p.1) ln.2.2.2.1/\vt (al n o2).1 (hd ys-2+p.1) ln.2.2.2.1<=100000000:=by unfold vt;omega
    refine⟨h1,ay (by omega),ay (by omega),⟨⟨by omega,by omega⟩,⟨by omega,by omega⟩,⟨by omega,by omega⟩⟩,⟨hw,hs,⟨by omega,by omega⟩⟩,λ_=>⟨hu,ho2,ht2⟩,λh=>?_,λh=>?_⟩
    .rw[eOk,hf hk,eS,if_neg hne,if_neg hc,if_neg (by rw[h1];exact Bool.noConfusion),if_neg]
     rw[eD];simpa using h
    .have hy:sJ n o2 c p (hd ys) t2=true:=by rw[eD];simpa using h
     refine⟨h,ay (by omega),ay (by omega),⟨(k+1,ln.2.2.1,vt (al n o2).1 (hd ys-2+p.1) ln.2.2.2.1+ln.2.2.2.2.1,tl ys),⟨⟨by show 0<=k+1;omega,by show k+1<=19;omega,⟨⟨hu,hpl⟩,lo,hd2⟩,⟨by show -3000000000<=_+_;omega,by show _+_<=3000000000;omega⟩,fa hys 1⟩,?_⟩,⟨rfl,rfl,rfl,rfl⟩,by show(19-(k+1)).toNat<_;omega⟩⟩
     rw[<- he,hf hk,eS,if_neg hne,if_neg hc,if_neg (by rw[h1];exact Bool.noConfusion),if_pos hy]
   .rw[eOk,hf hk,eS,if_neg hne,if_neg hc,if_pos h1]
 .have e:Fo n p d (19-k).toNat o2 t2 ys=(true,t2,ys):=by
   by_cases hk:k<19
   .rw[hf hk,eS,if_pos heq]
   .rw[show(19-k).toNat=0 by omega]
    show(decide (o2=d),t2,ys)=_;rw[vF heq]
  rw[eOk,eT,eR,e];exact⟨rfl,rfl,rfl⟩
theorem LJ(c:Cal)(m t:Int): af Tryz.prog dS 156 [.ip C c,.dat I m,.dat I t] [] ⟨TL c t/\ng c m t=true,.dat I (Jr c m t),[]⟩/\
  cU Tryz.prog dS 156 [.ip C c,.dat I m,.dat I t] [] ⟨TL c t,ng c m t,dj 39 190⟩:=by
 obtain⟨z,w,h⟩:=c;refine dz (c:=S0 F3 KI1 noP (λ_=>false)) aCk aCl hm pW (QB z m t w h ⟨rfl,λhp=>?_⟩)
 simp only[qc,Dh,Es,Di,qd,Dt,Eb,Dy,Dp,Ei,Eh,Ed,Ew,Df,Et,Dl,Dn,Eo,Dz,Dw,Dj,Dq,Ee,Fe,Dc,Dx,Dk,Ec,Em,Du,Eu,Ez,En,Ef,Fg,Fj,Fh,Ep,Ej,Ey,Fb];obtain⟨hc,t1,t2⟩:=id hp;obtain⟨⟨z1,z2⟩,hw,hs⟩:=lN hc;simp only at z1 z2 hw hs;have hday:-1000000000<=aZ z t/\aZ z t<=1000000000:=by unfold aZ;omega
 have key:∀b:Int,Px (z,w,h) m t=b->(∀(x:Nat) (y:Int),yi x->lF (gw w h b (b+60-1)) x y->ng (z,w,h) m t=true/\y=Jr (z,w,h) m t)/\∀x:Nat,yi x->x=(gw w h b (b+60-1)).length->ng (z,w,h) m t=false:=λb hb=>by
  have e:Zg (z,w,h) m t=(gw w h b (b+60-1)).head?:=by
   unfold Zg;rw[hb,show b+60-1=b+59 by omega]
  refine⟨λx y hx hy=>?_,λx hx hy=>?_⟩
  .have hx:x=0:=hx;have hy:(gw w h b (b+60-1))[x]?=some y:=hy;rw[hx,<- List.head?_eq_getElem?,<- e]at hy;unfold ng Jr;rw[hy];exact⟨rfl,rfl⟩
  .have hx:x=0:=hx;have:gw w h b (b+60-1)=[]:=vS (by omega)
   unfold ng;rw[e,this];rfl
 refine⟨⟨⟨by omega,by omega⟩,t1,t2⟩,λhlt=>?_,λhge=>?_⟩
 .obtain⟨k1,k2⟩:=key (aZ z t+1) (by unfold Px;exact if_pos hlt)
  exact⟨ay (by omega),ay (by omega),ay (by omega),⟨hw,hs,⟨by omega,by omega⟩,⟨by omega,by omega⟩⟩,rfl,k1,k2⟩
 .obtain⟨k1,k2⟩:=key (aZ z t) (by unfold Px;exact if_neg hge)
  exact⟨ay (by omega),ay (by omega),⟨hw,hs,⟨by omega,by omega⟩,⟨by omega,by omega⟩⟩,rfl,k1,k2⟩
theorem VA: aj Tryz.prog dS Y1:=ai (oZ λ((n,p),o,d,t,_) xs=>(GF n p o d t xs).1)<|ai (ag λ(c,m,t,_)=>(LJ c m t).1) aCk
theorem YY: bL Tryz.prog dS aEV:=ik (sY λ((n,p),o,d,t,_) xs=>(GF n p o d t xs).2)<|ik (iZ λ(c,m,t,_)=>(LJ c m t).2) H6
theorem TC{n:Net}{p:Plan}{o d t:Int}{xs:Li}(hq:HE n p o d t xs)(hc:cellAt p o d≠-1)(h1:bN xs=true): (0<=cellAt p o d/\cellAt p o d<n.2.2.2.2.1.length)/\HE n p (dW n (cellAt p o d)).2.2.1 d (vt (al n o).1 (hd xs-2+p.1) (dW n (cellAt p o d)).2.2.2.1+(dW n (cellAt p o d)).2.2.2.2.1) (tl xs):=by
 obtain⟨⟨⟨hu,hpl⟩,ho2,hd2⟩,ht2,hys⟩:=hq;obtain⟨⟨p0,p1,p2⟩,⟨q1,q2⟩,q3,_⟩:=id hpl;obtain⟨g1,g2⟩:=q3 o d ho2 hd2;have hl:cellAt p o d<n.2.2.2.2.1.length:=by
  unfold jW at g1;rw[vK hc,xR,qC,qE]at g1;exact g1.1
 have h0:0<=cellAt p o d:=by omega
 obtain⟨_,lo,⟨m0,m1⟩,r0,r1⟩:=UH hu h0 hl;obtain⟨⟨z1,z2⟩,hw,hs⟩:=lN (Gv hu ho2);have hm1:0<=hd xs/\hd xs<=65519:=dP.1 hys.1 _ (aS (wJ h1));refine⟨⟨h0,hl⟩,⟨⟨hu,hpl⟩,lo,hd2⟩,⟨?_,?_⟩,fa hys 1⟩<;>unfold vt<;>omega
theorem Ff{n:Net}{p:Plan}{d:Int}: ∀(f:Nat) {o t:Int} {xs:Li},HE n p o d t xs->tOk (Fo n p d f o t xs).2.1/\dE (Fo n p d f o t xs).2.2
 | 0,o,t,xs,h=>⟨h.2.1,h.2.2⟩
 | f+1,o,t,xs,h=>by
  unfold Fo;by_cases h1:o=d
  .rw[if_pos h1];exact⟨h.2.1,h.2.2⟩
  rw[if_neg h1];by_cases h2:cellAt p o d=-1
  .rw[if_pos h2];exact⟨h.2.1,h.2.2⟩
  rw[if_neg h2];by_cases h3:bN xs=false
  .rw[if_pos h3];exact⟨h.2.1,h.2.2⟩
  rw[if_neg h3];by_cases h4:sJ n o (cellAt p o d) p (hd xs) t=true
  .rw[if_pos h4];exact Ff f (TC h h2 (by simpa using h3)).2
  .rw[if_neg h4];exact⟨h.2.1,fa h.2.2 1⟩
theorem Yu{c:Cal}{m t:Int}(h:ng c m t=true): Px c m t<=Jr c m t/\Jr c m t<=Px c m t+59:=by
 unfold ng at h;unfold Jr;cases e:Zg c m t with
 | none=>rw[e]at h;cases h
 | some y=>
  unfold Zg at e;have:=UF (qCa e);exact⟨this.1,this.2.1⟩
theorem Zn(w:List Bool)(h:Li)(a b:Int): (gw w h a b).length<=(b+1-a).toNat:=by
 unfold gw;refine wF (xA _ _) ?_;rw[vV,vX];exact qJ _
theorem Lx(n:Net)(p:Plan)(k o d cut:Int)(xs:Li): af Tryz.prog dS 83 [.ips [.ip N n,.ip Pl p,.ptr 1 1 0 0],.dat I k,.dat I o,.dat I d,.dat I cut] [(1,.var [.dat R xs])] ⟨U5 n p k o d cut xs/\ux n p k o d cut xs=true,.tup [],[(1,.var [.dat R (HD n p o d cut xs)])]⟩/\
  cU Tryz.prog dS 83 [.ips [.ip N n,.ip Pl p,.ptr 1 1 0 0],.dat I k,.dat I o,.dat I d,.dat I cut] [(1,.var [.dat R xs])] ⟨U5 n p k o d cut xs,ux n p k o d cut xs,dj 39 190⟩:=by
 refine cq (c:=c13) VA aCl hm YY (Qe n p k o d cut xs ⟨rfl,λhp=>?_⟩)
 simp only[qc,Dh,Es,Di,qd,Dt,Eb,Dy,Dp,Ei,Eh,Ed,Ew,Df,Et,Dl,Dn,Eo,Dz,Dw,Dj,Dq,Ee,Fe,Dc,Dx,Dk,Ec,Em,Du,Eu,Ez,En,Ef,Fg,Fj,Fh,Ep,Ej,Ey,Fb];obtain⟨hf,hk⟩:=id hp;obtain⟨⟨⟨hu,hpl⟩,ho,hd⟩,ht,hys⟩:=id hf;obtain⟨⟨p0,p1,p2⟩,⟨q1,q2⟩,q3,q4,q5⟩:=id hpl;obtain⟨ft,_⟩:=Ff 19 hf;have hcl:=UI hu hk;have hc:=Gv hu hd;obtain⟨⟨z1,z2⟩,hw,hs⟩:=lN hc;have hr:=U2 (t:=uE n p o d cut xs) hu hd
 have ft:-3000000000<=uE n p o d cut xs/\uE n p o d cut xs<=3000000000:=ft;have ht2:-3000000000<=cut/\cut<=3000000000:=ht;have eK:n.2.2.2.2.2.getD k.toNat (⟨#[]⟩,0,0)=dX n k:=rfl;have eL:Jr (al n d) (dX n k).2.2 (sy n d (uE n p o d cut xs))=Jh n p k o d cut xs:=rfl;have eB:aZ (al n d).1 cut=Uo n d cut:=rfl
 have eN:gw (al n d).2.1 (al n d).2.2 (Uo n d cut+1) (Jh n p k o d cut xs)=SU n p k o d cut xs:=rfl;have eY:((p.2.2.2.getD k.toNat []).getD o.toNat []).getD d.toNat 0=iY p k o d:=rfl;have eP:ux n p k o d cut xs=(uF n p o d cut xs&&(ng (al n d) (dX n k).2.2 (sy n d (uE n p o d cut xs))&&(decide (Jh n p k o d cut xs-Uo n d cut<=2000)&&decide (((SU n p k o d cut xs).length:Int)<=iY p k o d)))):=rfl
 simp only[eK,eL,eB,eN,eY];have hrp:U3 n d (uE n p o d cut xs):=⟨hu,hd,ft⟩;have hdp:TL (al n d) (sy n d (uE n p o d cut xs)):=⟨hc,⟨by omega,by omega⟩⟩
 have hB:-10000000<=Uo n d cut/\Uo n d cut<=10000000:=by unfold Uo aZ;omega
 refine⟨⟨hf,λh=>by rw[eP,h];rfl⟩,λh1=>⟨⟨hf,h1⟩,⟨hu,hd⟩,hk.1,hk.2,hrp,hdp,λh2=>⟨hk.1,hk.2,hrp,⟨hdp,h2⟩,⟨⟨by omega,by omega⟩,⟨by omega,by omega⟩⟩,?_⟩,λh=>by rw[eP,h1,h];rfl⟩⟩
 have hD:=Yu h2;rw[eL]at hD;have hbg:aZ (al n d).1 (sy n d (uE n p o d cut xs))<=Px (al n d) (dX n k).2.2 (sy n d (uE n p o d cut xs))/\Px (al n d) (dX n k).2.2 (sy n d (uE n p o d cut xs))<=aZ (al n d).1 (sy n d (uE n p o d cut xs))+1:=by unfold Px;split<;>omega
 have hbd:-10000000<=aZ (al n d).1 (sy n d (uE n p o d cut xs))/\aZ (al n d).1 (sy n d (uE n p o d cut xs))<=10000000:=by unfold aZ;omega
 refine⟨ay (by omega),λh=>by rw[eP,h1,h2,vK h];rfl,λh3=>⟨h3,ay (by omega),⟨hw,hs,⟨by omega,by omega⟩,⟨by omega,by omega⟩⟩,⟨0,wW _,rfl,rfl⟩,λx y hx hy=>?_,λx hx hlen=>?_⟩⟩
 .have hlt:x<(SU n p k o d cut xs).length:=(qF.1 hy).1;have:=Zn (al n d).2.1 (al n d).2.2 (Uo n d cut+1) (Jh n p k o d cut xs);rw[eN]at this;exact⟨ay (by omega),x+1,by show x+1<=4000000000000;omega,rfl,by omega⟩
 .have hk':=hk.1;have hk2:=hk.2;have ho1:=ho.1;have ho2:=ho.2;have hd1:=hd.1;have hd2:=hd.2;obtain⟨w1,w2⟩:=q5 _ (aS (l:=p.2.2.2) (i:=k.toNat) (d:=[]) (by omega))
  have w3:=w2 _ (aS (l:=p.2.2.2.getD k.toNat []) (i:=o.toNat) (d:=[]) (by omega))
  refine⟨hk',by omega,ho1,by omega,hd1,by omega,λh=>⟨hk',by omega,ho1,by omega,hd1,by omega,h,?_⟩,λh=>?_⟩
  .rw[eP,h1,h2,vF h3,vF (by omega)];rfl
  .rw[eP,h1,h2,vF h3,vK (by omega)];rfl
end Go.Eng.In
set_option maxRecDepth 100000
noncomputable section
namespace Go.Eng.In
open Go.Proofs
def cellsD(p:Plan)(k o:Int): Li:=(p.2.2.2.getD k.toNat []).getD o.toNat []
def dV(p:Plan)(k:Int): Lj:=p.2.2.2.getD k.toNat []
def runN(f:Nat->Li->Option (Li)): Nat->Li->Option (Li)
 | 0,x=>some x
 | m+1,x=>(runN f m x).bind (f m)
def vq(n:Net)(p:Plan)(k o d:Int)(j:Nat)(xs:Li): Option (Li):=if ux n p k o d ((jw n p k o).getD j 0) xs=true then some (HD n p o d ((jw n p k o).getD j 0) xs)else none
def zf(n:Net)(p:Plan)(k o d:Int)(xs:Li): Option (Li):=if iY p k o d=-1 then some xs else runN (vq n p k o d) (jw n p k o).length xs
def UX(n:Net)(p:Plan)(k o:Int)(xs:Li): Option (Li):=runN (λd=>zf n p k o (d:Int)) (cellsD p k o).length xs
def iA(n:Net)(p:Plan)(k:Int)(xs:Li): Option (Li):=runN (λo=>UX n p k (o:Int)) (dV p k).length xs
def st1(n:Net)(p:Plan)(l:Li)(k:Int): Option (Li):=runN (λk=>iA n p (k:Int)) k.toNat l
def st2(n:Net)(p:Plan)(l:Li)(k o:Int): Option (Li):=(st1 n p l k).bind (runN (λo=>UX n p k (o:Int)) o.toNat)
def st3(n:Net)(p:Plan)(l:Li)(k o d:Int): Option (Li):=(st2 n p l k o).bind (runN (λd=>zf n p k o (d:Int)) d.toNat)
def st4(n:Net)(p:Plan)(l:Li)(k o d:Int)(j:Nat): Option (Li):=(st3 n p l k o d).bind (runN (vq n p k o d) j)
def CL(n:Net)(p:Plan)(l:Li): Option (Li):=st1 n p l p.2.2.2.length
def QY(n:Net)(p:Plan)(l:Li)(k:Int)(xs:Li): Prop:=(0<=k/\k<=p.2.2.2.length)/\st1 n p l k=some xs/\dE xs
def to2(n:Net)(p:Plan)(l:Li)(k o:Int)(xs:Li): Prop:=((0<=k/\k<p.2.2.2.length)/\0<=o/\o<=(dV p k).length)/\st2 n p l k o=some xs/\dE xs
def to3(n:Net)(p:Plan)(l:Li)(k o d:Int)(xs:Li): Prop:=((0<=k/\k<p.2.2.2.length)/\(0<=o/\o<(dV p k).length)/\0<=d/\d<=(cellsD p k o).length)/\st3 n p l k o d=some xs/\dE xs
def to4(n:Net)(p:Plan)(l:Li)(k o d j:Int)(xs:Li): Prop:=0<=j/\st4 n p l k o d j.toNat=some xs/\dE xs
def LV(l:Li): Bool:=decide (l.length<=40000)
def pn(n:Net)(l:Li): Bool:=CU n (au l)&&LV l
def aEl(n:Net)(l:Li): Int:=if CL n (au l) (bM l)=some []then 0 else 190
def fW(n:Net)(l:Li)(s:Int): Int:=if jk (l,s)=true then if ko n=true then if pn n l=true then aEl n l else 190 else 1 else x6 (l,s)
def XX(args:List AV)(m:Mem): Option jD:=match args,m with
 | [.agg [.dat (.sl (.int .i64)) l,.dat (.int .i64) s]],[]=>some ⟨A3 (l,s)/\jk (l,s)=true,.tup [.agg [.dat I (au l).1,.dat I (au l).2.1,.dat M (au l).2.2.1,.dat (.sl M) (au l).2.2.2],.ptr 1 1 0 0],[(1,.var [.dat R (bM l)])]⟩
 | _,_=>none
def UC: Kt:=kOr 71 XX <|
 kOr 80 (ax [.ptr N] (λ(n,_)=>qx n) λ(n,_)=>.dat .bool (ko n)) <|
 kOr 81 (ax [.ptr N,.ptr Pl] (λ(n,p,_)=>qx n/\nxP p) λ(n,p,_)=>.dat .bool (CU n p)) <|
 kOr 83 (U9 1 R [.pv 1 N Pl,.val I,.val I,.val I,.val I] (λ((n,p),k,o,d,cut,_) xs=>U5 n p k o d cut xs/\ux n p k o d cut xs=true) (λ_ _=>.tup []) λ((n,p),k,o,d,cut,_) xs=>HD n p o d cut xs) Y1
def aEd: KPt:=pOr 71 (uG [.row Ce] λ(c,_)=>⟨A3 c,jk c,dj 39 (x6 c)⟩) <|
 pOr 83 (X1 1 R [.pv 1 N Pl,.val I,.val I,.val I,.val I] λ((n,p),k,o,d,cut,_) xs=>⟨U5 n p k o d cut xs,ux n p k o d cut xs,dj 39 190⟩) KPr
def KI2: FuncId->List AV->Option i9:=λf caps=>if f=151 then match ofK [.pvb N Pl,.ptr I,.ptr I] caps with
 | some ((n,p),o,k,_)=>some ⟨aBd n p k o,I,jw n p k o⟩
 | none=>none
 else KI1 f caps
def c14: Cfg:=I5 UC (λ_=>false) aEd (λf=>f==79||f==71)
def c15: Cfg:=S0 UC KI2 aEd (λf=>f==79||f==71||f==83)
def keep(s:St)(x:Li): St:={fH s with mem:=sX (s.mem.filter λb=>b.1<=2) 1 (.var [.dat R x])}
def aFh(n:Net)(l:Li): Ann:=⟨λid s=>match id with
 | 7=>some {α:=Int×Li,inv:=λx=>QY n (au l) (bM l) x.1 x.2,st:=λx=>ie (put (fH s) [(37,.dat I x.1)]) 1 (.var [.dat R x.2]),μ:=λx=>Dc (Dj (Df (au l).2.2.2) x.1)}
 | 10=>match s.sig.T 39 with
  | .dat (.int .i64) k=>some {α:=Int×Li,inv:=λx=>to2 n (au l) (bM l) k x.1 x.2,st:=λx=>ie (put (fH s) [(44,.dat I x.1)]) 1 (.var [.dat R x.2]),μ:=λx=>Dc (Dj (Df (dV (au l) k)) x.1)}
  | _=>none
 | 13=>match s.sig.T 39,s.sig.T 46 with
  | .dat (.int .i64) k,.dat (.int .i64) o=>some {α:=Int×Li,inv:=λx=>to3 n (au l) (bM l) k o x.1 x.2,st:=λx=>ie (put (fH s) [(51,.dat I x.1)]) 1 (.var [.dat R x.2]),μ:=λx=>Dc (Dj (Df (cellsD (au l) k o)) x.1)}
  | _,_=>none
 | 17=>match s.sig.T 39,s.sig.T 46,s.sig.T 53 with
  | .dat (.int .i64) k,.dat (.int .i64) o,.dat (.int .i64) d=>some {α:=Int×Li,inv:=λx=>to4 n (au l) (bM l) k o d x.1 x.2,st:=λx=>ie (fH s) 1 (.var [.dat R x.2]),μ:=λx=>Dc x.1}
  | _,_,_=>none
 | _=>none,λid s=>match id with
 | 3=>some (put {s with mem:=s.mem.filter λb=>b.1 != 2} [(5,.ip Pl (au l))])
 | _=>none,λ_ _=>none⟩
set_option maxHeartbeats 4000000 in
theorem QN(s:Int)(l:Li)(cs:List Cal)(ns ps:List ByteArray)(os:List Off)(ls:List Line)(ks:List Cla)(hvc:
 let c1:=(cs,ns,ps,os,ls,ks);let c2:=(l,s);let c3:=jk c2;let c4:=fW c1 l s;let c5:=(au l).1;let aO:=(au l).2;let c7:=aO.1;let c8:=aO.2;let c9:=c8.1;let c10:=c8.2;let c11:=ko c1;let c12:=CU c1 (au l);let c13:=Ea c12 (Eh (Df l) 40000) false;let c14:=Df c10;
 (true/\true)/\(Hm l/\qx c1->true/\(true->A3 c2/\(c3=false->true/\true/\(Di false->True/\1=1/\0=0/\1=1/\0=0/\x6 c2=c4/\True)/\(Di false=false->1=1/\0=0/\0=c4/\True)))/\((true->c3)->(A3 c2/\c3)/\1=1/\0=0/\cs=cs/\ns=ns/\ps=ps/\os=os/\ls=ls/\ks=ks/\l=l/\s=s/\c1=c1/\c2=c2/\1=1/\0=0/\0=0/\1=1/\0=0/\(c5,c7,c9,c10)=au l/\1=1/\0=0/\0=0/\undef=undef/\undef=undef/\undef=undef/\undef=undef/\undef=undef/\undef=undef/\undef=undef/\undef=undef/\1=1/\0=0/\0=0/\c5=c5/\c7=c7/\c9=c9/\c10=c10/\1=1/\0=0/\0=0/\l=l/\s=s/\c5=c5/\c7=c7/\c9=c9/\c10=c10/\1=1/\0=0/\0=0/\c5=c5/\c7=c7/\c9=c9/\c10=c10/\1=1/\0=0/\0=0/\undef=undef/\undef=undef/\undef=undef/\undef=undef/\undef=undef/\undef=undef/\undef=undef/\undef=undef/\undef=undef/\undef=undef/\undef=undef/\undef=undef/\undef=undef/\undef=undef/\undef=undef/\undef=undef/\undef=undef/\undef=undef/\undef=undef/\undef=undef/\undef=undef/\undef=undef/\undef=undef/\undef=undef/\undef=undef/\undef=undef/\undef=undef/\undef=undef/\undef=undef/\undef=undef/\undef=undef/\undef=undef/\undef=undef/\undef=undef/\undef=undef/\undef=undef/\undef=undef/\undef=undef/\undef=undef/\undef=undef/\undef=undef/\undef=undef/\undef=undef/\undef=undef/\undef=undef/\undef=undef/\undef=undef/\undef=undef/\undef=undef/\undef=undef/\undef=undef/\undef=undef/\undef=undef/\undef=undef/\undef=undef/\undef=undef/\undef=undef/\undef=undef/\(0:Int)=(0:Int)/\bM l=bM l/\1=1/\0=0/\0=0/\qx c1/\(true->True/\(c11=false->true/\true/\(Di false->True/\1=1/\0=0/\1=1/\0=0/\1=c4/\True)/\(Di false=false->1=1/\0=0/\0=c4/\True)))/\((true->c11)->(True/\c11)/\(qx c1/\nxP (au l))/\(c12->c12->c12)/\(c12->c12->c12)/\(c12->c12->c12)/\(Dh true c12->c12)/\(true->True/\(c13=false->true/\true/\
 (Di false->True/\1=1/\0=0/\1=1/\0=0/\190=c4/\True)/\(Di false=false->1=1/\0=0/\0=c4/\True)))/\((true->c13)->(True/\c13)/\1=1/\1=1/\1=1/\0=0/\(∃(x:Int×Li),let c15:=x.1;let c16:=x.2;QY c1 (au l) (bM l) c15 c16/\cs=cs/\ns=ns/\ps=ps/\os=os/\ls=ls/\ks=ks/\l=l/\s=s/\c1=c1/\c2=c2/\1=1/\0=0/\0=0/\au l=au l/\1=1/\0=0/\0=0/\1=1/\0=0/\0=0/\1=1/\0=0/\0=0/\c5=c5/\c7=c7/\c9=c9/\c10=c10/\1=1/\0=0/\0=0/\l=l/\s=s/\c5=c5/\c7=c7/\c9=c9/\c10=c10/\1=1/\0=0/\0=0/\c5=c5/\c7=c7/\c9=c9/\c10=c10/\1=1/\0=0/\0=0/\c11=c11/\c12=c12/\c12=c12/\c13=c13/\1=1/\0=0/\0=0/\c1=c1/\au l=au l/\1=1/\0=0/\0=0/\c1=c1/\au l=au l/\1=1/\0=0/\0=0/\c10=c10/\c10=c10/\c14=c14/\0=c15/\(0:Int)=(0:Int)/\bM l=c16/\c1=c1/\au l=au l/\1=1/\0=0/\0=0/\1=1/\0=0/\0=0/\True)/\∀(x:Int×Li),let c17:=x.1;let c18:=x.2;let c19:=Dp c17 c14;let c20:=Du c10 (Dc c17) (Dt (Li));let c21:=Df c20;let c22:=Df (dV (au l) c17);let c23:=c17+1;let c24:=Eb (Df c18) 0;QY c1 (au l) (bM l) c17 c18->(c19->0<=c17/\c17<c14/\1=1/\0=0/\(∃(x:Int×Li),let c25:=x.1;let c26:=x.2;to2 c1 (au l) (bM l) c17 c25 c26/\cs=cs/\ns=ns/\ps=ps/\os=os/\ls=ls/\ks=ks/\l=l/\s=s/\c1=c1/\c2=c2/\1=1/\0=0/\0=0/\au l=au l/\1=1/\0=0/\0=0/\1=1/\0=0/\0=0/\1=1/\0=0/\0=0/\c20=c20/\1=1/\0=0/\0=0/\c5=c5/\c7=c7/\c9=c9/\c10=c10/\1=1/\0=0/\0=0/\l=l/\s=s/\c5=c5/\c7=c7/\c9=c9/\c10=c10/\1=1/\0=0/\0=0/\c5=c5/\c7=c7/\c9=c9/\c10=c10/\1=1/\0=0/\0=0/\c11=c11/\c12=c12/\c12=c12/\c13=c13/\1=1/\0=0/\0=0/\c1=c1/\au l=au l/\1=1/\0=0/\0=0/\c1=c1/\au l=au l/\1=1/\0=0/\0=0/\c10=c10/\c10=c10/\c14=c14/\c17=c17/\c19=c19/\c17=c17/\c20=c20/\c20=c20/\c20=c20/\c21=c21/\0=c25/\(0:Int)=(0:Int)/\c18=c26/\c1=c1/\au l=au l/\1=1/\0=0/\0=0/\c17=c17/\1=1/\0=0/\0=0/\True)/\∀(x:Int×Li),let c27:=x.1;let c28:=x.2;
 let c29:=Dp c27 c21;let c30:=Du c20 (Dc c27) [];let c31:=Df c30;let c32:=Df (cellsD (au l) c17 c27);let c33:=jw c1 (au l) c17 c27;let c34:=c27+1;to2 c1 (au l) (bM l) c17 c27 c28->(c29->0<=c27/\c27<c21/\1=1/\0=0/\(∃(x:Int×List Int),let c35:=x.1;let c36:=x.2;to3 c1 (au l) (bM l) c17 c27 c35 c36/\cs=cs/\ns=ns/\ps=ps/\os=os/\ls=ls/\ks=ks/\l=l/\s=s/\c1=c1/\c2=c2/\1=1/\0=0/\0=0/\au l=au l/\1=1/\0=0/\0=0/\1=1/\0=0/\0=0/\1=1/\0=0/\0=0/\c20=c20/\1=1/\0=0/\0=0/\c30=c30/\1=1/\0=0/\0=0/\c5=c5/\c7=c7/\c9=c9/\c10=c10/\1=1/\0=0/\0=0/\l=l/\s=s/\c5=c5/\c7=c7/\c9=c9/\c10=c10/\1=1/\0=0/\0=0/\c5=c5/\c7=c7/\c9=c9/\c10=c10/\1=1/\0=0/\0=0/\c11=c11/\c12=c12/\c12=c12/\c13=c13/\1=1/\0=0/\0=0/\c1=c1/\au l=au l/\1=1/\0=0/\0=0/\c1=c1/\au l=au l/\1=1/\0=0/\0=0/\c10=c10/\c10=c10/\c14=c14/\c17=c17/\c19=c19/\c17=c17/\c20=c20/\c20=c20/\c20=c20/\c21=c21/\c27=c27/\c29=c29/\c27=c27/\c30=c30/\c30=c30/\c30=c30/\c31=c31/\0=c35/\(0:Int)=(0:Int)/\c28=c36/\c1=c1/\au l=au l/\1=1/\0=0/\0=0/\c17=c17/\c27=c27/\1=1/\0=0/\0=0/\True)/\∀(x:Int×Li),let c37:=x.1;let c38:=x.2;let c39:=Dp c37 c31;let c40:=Du c30 (Dc c37) 0;let c41:=Eb c40 (-1);let c42:=c37+1;to3 c1 (au l) (bM l) c17 c27 c37 c38->(c39->0<=c37/\c37<c31/\1=1/\0=0/\(c41->inR .i64 c42/\∃(y:Int×Li),let c43:=y.1;let c44:=y.2;
 to3 c1 (au l) (bM l) c17 c27 c43 c44/\(cs=cs/\ns=ns/\ps=ps/\os=os/\ls=ls/\ks=ks/\l=l/\s=s/\c1=c1/\c2=c2/\1=1/\0=0/\0=0/\au l=au l/\1=1/\0=0/\0=0/\1=1/\0=0/\0=0/\1=1/\0=0/\0=0/\c20=c20/\1=1/\0=0/\0=0/\c30=c30/\1=1/\0=0/\0=0/\c5=c5/\c7=c7/\c9=c9/\c10=c10/\1=1/\0=0/\0=0/\l=l/\s=s/\c5=c5/\c7=c7/\c9=c9/\c10=c10/\1=1/\0=0/\0=0/\c5=c5/\c7=c7/\c9=c9/\c10=c10/\1=1/\0=0/\0=0/\c11=c11/\c12=c12/\c12=c12/\c13=c13/\1=1/\0=0/\0=0/\c1=c1/\au l=au l/\1=1/\0=0/\0=0/\c1=c1/\au l=au l/\1=1/\0=0/\0=0/\c10=c10/\c10=c10/\c14=c14/\c17=c17/\c19=c19/\c17=c17/\c20=c20/\c20=c20/\c20=c20/\c21=c21/\c27=c27/\c29=c29/\c27=c27/\c30=c30/\c30=c30/\c30=c30/\c31=c31/\c42=c43/\(0:Int)=(0:Int)/\c38=c44/\c1=c1/\au l=au l/\1=1/\0=0/\0=0/\c17=c17/\c27=c27/\1=1/\0=0/\0=0/\True)/\Dc (c32-c43)<Dc (c32-c37))/\(c41=false->1=1/\0=0/\1=1/\0=0/\1=1/\0=0/\True/\aBd c1 (au l) c17 c27/\(∃(x:Int×Li),let c45:=x.1;let c46:=x.2;
 to4 c1 (au l) (bM l) c17 c27 c37 c45 c46/\Dc c45=0/\cs=cs/\ns=ns/\ps=ps/\os=os/\ls=ls/\ks=ks/\l=l/\s=s/\c1=c1/\c2=c2/\1=1/\0=0/\0=0/\au l=au l/\1=1/\0=0/\0=0/\1=1/\0=0/\0=0/\1=1/\0=0/\0=0/\c20=c20/\1=1/\0=0/\0=0/\c30=c30/\1=1/\0=0/\0=0/\c40=c40/\1=1/\0=0/\0=0/\c5=c5/\c7=c7/\c9=c9/\c10=c10/\1=1/\0=0/\0=0/\l=l/\s=s/\c5=c5/\c7=c7/\c9=c9/\c10=c10/\1=1/\0=0/\0=0/\c5=c5/\c7=c7/\c9=c9/\c10=c10/\1=1/\0=0/\0=0/\c11=c11/\c12=c12/\c12=c12/\c13=c13/\1=1/\0=0/\0=0/\c1=c1/\au l=au l/\1=1/\0=0/\0=0/\c1=c1/\au l=au l/\1=1/\0=0/\0=0/\c10=c10/\c10=c10/\c14=c14/\c17=c17/\c19=c19/\c17=c17/\c20=c20/\c20=c20/\c20=c20/\c21=c21/\c27=c27/\c29=c29/\c27=c27/\c30=c30/\c30=c30/\c30=c30/\c31=c31/\c37=c37/\c39=c39/\c37=c37/\c40=c40/\c40=c40/\c40=c40/\c41=c41/\c1=c1/\au l=au l/\1=1/\0=0/\0=0/\c17=c17/\c27=c27/\c1=c1/\au l=au l/\c27=c27/\c17=c17/\(0:Int)=(0:Int)/\c38=c46/\c1=c1/\au l=au l/\1=1/\0=0/\0=0/\c17=c17/\c27=c27/\c37=c37/\1=1/\0=0/\0=0/\True)/\(∀(x:Int×Li),let c47:=x.1;let c48:=x.2;let c49:=Dc c47;∀(y:Int),let c50:=ux c1 (au l) c17 c27 c37 y c48;to4 c1 (au l) (bM l) c17 c27 c37 c47 c48->lF c33 c49 y->1=1/\0=0/\1=1/\0=0/\1=1/\0=0/\1=1/\0=0/\(true->U5 c1 (au l) c17 c27 c37 y c48/\(c50=false->true/\true/\(Di false->True/\1=1/\0=0/\1=1/\0=0/\190=c4/\True)/\(Di false=false->1=1/\0=0/\0=c4/\True)))/\((true->c50)->(U5 c1 (au l) c17 c27 c37 y c48/\c50)/\1=1/\∃(z:Int×Li),let c51:=z.1;let c52:=z.2;
 to4 c1 (au l) (bM l) c17 c27 c37 c51 c52/\Dc c51=c49+(1)/\cs=cs/\ns=ns/\ps=ps/\os=os/\ls=ls/\ks=ks/\l=l/\s=s/\c1=c1/\c2=c2/\1=1/\0=0/\0=0/\au l=au l/\1=1/\0=0/\0=0/\1=1/\0=0/\0=0/\1=1/\0=0/\0=0/\c20=c20/\1=1/\0=0/\0=0/\c30=c30/\1=1/\0=0/\0=0/\c40=c40/\1=1/\0=0/\0=0/\c5=c5/\c7=c7/\c9=c9/\c10=c10/\1=1/\0=0/\0=0/\l=l/\s=s/\c5=c5/\c7=c7/\c9=c9/\c10=c10/\1=1/\0=0/\0=0/\c5=c5/\c7=c7/\c9=c9/\c10=c10/\1=1/\0=0/\0=0/\c11=c11/\c12=c12/\c12=c12/\c13=c13/\1=1/\0=0/\0=0/\c1=c1/\au l=au l/\1=1/\0=0/\0=0/\c1=c1/\au l=au l/\1=1/\0=0/\0=0/\c10=c10/\c10=c10/\c14=c14/\c17=c17/\c19=c19/\c17=c17/\c20=c20/\c20=c20/\c20=c20/\c21=c21/\c27=c27/\c29=c29/\c27=c27/\c30=c30/\c30=c30/\c30=c30/\c31=c31/\c37=c37/\c39=c39/\c37=c37/\c40=c40/\c40=c40/\c40=c40/\c41=c41/\c1=c1/\au l=au l/\1=1/\0=0/\0=0/\c17=c17/\c27=c27/\c1=c1/\au l=au l/\c27=c27/\c17=c17/\(0:Int)=(0:Int)/\HD c1 (au l) c27 c37 y c48=c52/\c1=c1/\au l=au l/\1=1/\0=0/\0=0/\c17=c17/\c27=c27/\c37=c37/\1=1/\0=0/\0=0/\True))/\∀(x:Int×List Int),let c53:=x.1;let c54:=x.2;to4 c1 (au l) (bM l) c17 c27 c37 c53 c54->Dc c53=Dk c33->inR .i64 c42/\∃(y:Int×Li),let c55:=y.1;let c56:=y.2;
 to3 c1 (au l) (bM l) c17 c27 c55 c56/\(cs=cs/\ns=ns/\ps=ps/\os=os/\ls=ls/\ks=ks/\l=l/\s=s/\c1=c1/\c2=c2/\1=1/\0=0/\0=0/\au l=au l/\1=1/\0=0/\0=0/\1=1/\0=0/\0=0/\1=1/\0=0/\0=0/\c20=c20/\1=1/\0=0/\0=0/\c30=c30/\1=1/\0=0/\0=0/\c5=c5/\c7=c7/\c9=c9/\c10=c10/\1=1/\0=0/\0=0/\l=l/\s=s/\c5=c5/\c7=c7/\c9=c9/\c10=c10/\1=1/\0=0/\0=0/\c5=c5/\c7=c7/\c9=c9/\c10=c10/\1=1/\0=0/\0=0/\c11=c11/\c12=c12/\c12=c12/\c13=c13/\1=1/\0=0/\0=0/\c1=c1/\au l=au l/\1=1/\0=0/\0=0/\c1=c1/\au l=au l/\1=1/\0=0/\0=0/\c10=c10/\c10=c10/\c14=c14/\c17=c17/\c19=c19/\c17=c17/\c20=c20/\c20=c20/\c20=c20/\c21=c21/\c27=c27/\c29=c29/\c27=c27/\c30=c30/\c30=c30/\c30=c30/\c31=c31/\c42=c55/\(0:Int)=(0:Int)/\c54=c56/\c1=c1/\au l=au l/\1=1/\0=0/\0=0/\c17=c17/\c27=c27/\1=1/\0=0/\0=0/\True)/\Dc (c32-c55)<Dc (c32-c37)))/\(c39=false->inR .i64 c34/\∃(y:Int×Li),let c57:=y.1;let c58:=y.2;to2 c1 (au l) (bM l) c17 c57 c58/\(cs=cs/\ns=ns/\ps=ps/\os=os/\ls=ls/\ks=ks/\l=l/\s=s/\c1=c1/\c2=c2/\1=1/\0=0/\0=0/\au l=au l/\1=1/\0=0/\0=0/\1=1/\0=0/\0=0/\1=1/\0=0/\0=0/\c20=c20/\1=1/\0=0/\0=0/\c5=c5/\c7=c7/\c9=c9/\c10=c10/\1=1/\0=0/\0=0/\l=l/\s=s/\c5=c5/\c7=c7/\c9=c9/\c10=c10/\1=1/\0=0/\0=0/\c5=c5/\c7=c7/\c9=c9/\c10=c10/\1=1/\0=0/\0=0/\c11=c11/\c12=c12/\c12=c12/\c13=c13/\1=1/\0=0/\0=0/\c1=c1/\au l=au l/\1=1/\0=0/\0=0/\c1=c1/\au l=au l/\1=1/\0=0/\0=0/\c10=c10/\c10=c10/\c14=c14/\c17=c17/\c19=c19/\c17=c17/\c20=c20/\c20=c20/\c20=c20/\c21=c21/\c34=c57/\(0:Int)=(0:Int)/\c38=c58/\c1=c1/\au l=au l/\1=1/\0=0/\0=0/\c17=c17/\1=1/\0=0/\0=0/\True)/\Dc (c22-c57)<Dc (c22-c27)))/\(c29=false->inR .i64 c23/\∃(y:Int×Li),let c59:=y.1;let c60:=y.2;
 QY c1 (au l) (bM l) c59 c60/\(cs=cs/\ns=ns/\ps=ps/\os=os/\ls=ls/\ks=ks/\l=l/\s=s/\c1=c1/\c2=c2/\1=1/\0=0/\0=0/\au l=au l/\1=1/\0=0/\0=0/\1=1/\0=0/\0=0/\1=1/\0=0/\0=0/\c5=c5/\c7=c7/\c9=c9/\c10=c10/\1=1/\0=0/\0=0/\l=l/\s=s/\c5=c5/\c7=c7/\c9=c9/\c10=c10/\1=1/\0=0/\0=0/\c5=c5/\c7=c7/\c9=c9/\c10=c10/\1=1/\0=0/\0=0/\c11=c11/\c12=c12/\c12=c12/\c13=c13/\1=1/\0=0/\0=0/\c1=c1/\au l=au l/\1=1/\0=0/\0=0/\c1=c1/\au l=au l/\1=1/\0=0/\0=0/\c10=c10/\c10=c10/\c14=c14/\c23=c59/\(0:Int)=(0:Int)/\c28=c60/\c1=c1/\au l=au l/\1=1/\0=0/\0=0/\1=1/\0=0/\0=0/\True)/\Dc (c14-c59)<Dc (c14-c17)))/\(c19=false->1=1/\1=1/\1=1/\0=0/\(true->True/\(c24=false->true/\true/\(Di false->True/\1=1/\0=0/\1=1/\0=0/\190=c4/\True)/\(Di false=false->1=1/\0=0/\0=c4/\True)))/\((true->c24)->(True/\c24)/\1=1/\0=0/\true/\true/\(Di true->False)/\(Di true=false->1=1/\0=0/\0=c4/\True)))))))):
  evR c15 UC az (aFh (cs,ns,ps,os,ls,ks) l) az 26 [.agg [.dat (.sl C) cs,.dat (.sl S) ns,.dat (.sl S) ps,.dat (.sl Of) os,.dat (.sl Ln) ls,.dat (.sl Kl) ks],.agg [.dat R l,.dat I s]] ⟨Hm l/\qx (cs,ns,ps,os,ls,ks),.dat I (fW (cs,ns,ps,os,ls,ks) l s),[]⟩:=oE hvc
theorem SH: ∀args m c,XX args m=some c->af Tryz.prog dS 71 args m c:=by
 intro args m c h;unfold XX at h;split at h
 .cases h;exact(UP _ _).1
 .cases h
theorem Vz: aj Tryz.prog dS UC:=ai SH<|ai (ag λ(n,_)=>aE0 n)<|ai (ag λ(n,p,_)=>aDg n p)<|ai (oZ λ((n,p),k,o,d,cut,_) xs=>(Lx n p k o d cut xs).1) VA
theorem YX: bL Tryz.prog dS aEd:=ik (iZ λ(c,_)=>(UP c.2 c.1).2)<|ik (sY λ((n,p),k,o,d,cut,_) xs=>(Lx n p k o d cut xs).2) H6
theorem aFr: br Tryz.prog dS KI2:=by
 intro f caps it h;unfold KI2 at h;split at h
 .rename_i e;subst e;split at h
  .rename_i n p o k _ hx;cases h;exact mC.args (aAd n p k o) λC us hu=>eZ hx hu
  .cases h
 .exact aCl f caps it h
end Go.Eng.In
