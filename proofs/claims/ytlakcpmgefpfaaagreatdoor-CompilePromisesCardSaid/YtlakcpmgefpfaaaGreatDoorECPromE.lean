/- PeTrDn PeMxn PeMxSn PeTt3n PeTt4n PeTt7n PeRo2n PeRo5n PeCoL0 PeCoL1 PeIn1n PeInS -/
import Derived.Test.YtlakcpmgefpfaaaGreatDoorECPromA
import Derived.Test.YtlakcpmgefpfaaaGreatDoorECPromB
import Derived.Test.YtlakcpmgefpfaaaGreatDoorECPromC
import Derived.Test.YtlakcpmgefpfaaaGreatDoorECPromD
import Derived.Shelf.SlGeneric
import Derived.Shelf.SlIterI.Nil
import Derived.Shelf.SortM.Plain
import Derived.Shelf.SortM.SortNone
import Derived.Ground.GgzProg
import Derived.Ground.SlgmProg
import Derived.Test.YtlakcpmgefpfaaaGreatDoorProg
import Derived.RangeFuncNested
import Derived.RangeFuncBound
import Derived.RangeFuncCalls
import Derived.RangeFuncLeaves
import Derived.RangeFuncWrites
import Derived.Shelf.Abstract
import Derived.Shelf.RegionOpen
import Derived.WalkKit
import Derived.OwnWalkIn
import Derived.TacticsInMore
import Derived.LoopNIn
import Derived.LoopIn
import Derived.Maps.OwnIn
import Derived.Test.YtlakcpmgefpfaaaGreatDoorChecked
set_option linter.unusedSimpArgs false
set_option linter.unusedVariables false
set_option maxRecDepth 100000
noncomputable section
namespace Go.Eng.Sv
open Go.Proofs
def C4(w:List Bool)(h:Li): Nat->Int->Option Int
 | 0,d=>some d
 | n+1,d=>(mP w h (d+1)).bind (C4 w h n)
def KA(w:List Bool)(h:Li)(d n:Int): Int:=if n<=200 then(C4 w h n.toNat d).getD 0 else 0
def KQ(w:List Bool)(h:Li)(d n:Int): Int:=if n<=200 then(if(C4 w h n.toNat d).isSome then 0 else 20)else 1
def Zx(z:Int)(w:List Bool)(h:Li)(d n:Int): Prop:=ax z w h=true/\bM d=true/\0<=n
def P0(w:List Bool)(h:Li)(d n i e:Int): Prop:=0<=i/\i<=n/\-1000000<=e/\e<=1000000+100*i/\C4 w h (n-i).toNat e=C4 w h n.toNat d
def aN(n:Net)(k:Int): Cla:=n.2.2.2.2.2.getD k.toNat (⟨#[]⟩,0,0)
def zv(n:Net)(k:Int): Prop:=0<=k/\k<n.2.2.2.2.2.length
def aB6(n:Net)(k o t:Int): Prop:=(iT n o/\zv n k)/\bw t=true
def F2(n:Net)(k o t:Int): Int:=dV (aj n o) (aN n k).2.2 (ay n o t)
def KH(n:Net)(k o t:Int): Int:=ic (aj n o) (aN n k).2.2 (ay n o t)
def pi(n:Net)(k o t:Int): Bool:=((bP k n.2.2.2.2.2.length&&bP o n.2.2.2.1.length)&&bw t)&&aO n
def Ws(n:Net)(k o t:Int): Int:=if pi n k o t=true then F2 n k o t else 0
def Wq(n:Net)(k o t:Int): Int:=if pi n k o t=true then KH n k o t else 1
def Ww(n:Net)(k o t:Int): Int:=if pi n k o t=true then dV (aj n o) (aN n k).2.1 t else 0
def Wv(n:Net)(k o t:Int): Int:=if pi n k o t=true then ic (aj n o) (aN n k).2.1 t else 1
def qi(m:Int)(t:Lj): Bool:=decide ((t.length:Int)=m)&&t.all λr=>decide ((r.length:Int)=m)
def uk(n:Net)(dy:List (Lj)): Bool:=decide ((dy.length:Int)=n.2.2.2.2.2.length)&&dy.all (qi n.2.2.2.1.length)
def fitsT(dy:List (Lj)): Prop:=dy.length<=1000000/\∀t∈dy,bZ t
def If(n:Net)(dy:List (Lj))(k:Int): Prop:=0<=k/\k<=dy.length/\(dy.length:Int)=n.2.2.2.2.2.length/\(dy.take k.toNat).all (qi n.2.2.2.1.length)=true
def zu(n:Net)(t:Lj)(k:Int): Prop:=0<=k/\k<=t.length/\(t.length:Int)=n.2.2.2.1.length/\(t.take k.toNat).all (λr=>decide ((r.length:Int)=n.2.2.2.1.length))=true
def FY(n:Net)(dy:List (Lj))(x:ByteArray×Int×Int×Int×Int): Bool:=((uk n dy&&bP x.2.2.2.1 n.2.2.2.2.2.length)&&(bP x.2.1 n.2.2.2.1.length&&bP x.2.2.1 n.2.2.2.1.length))&&((decide (0<=x.2.2.2.2)&&decide (x.2.2.2.2<=1000000))&&aO n)
def JQ(dy:List (Lj))(x:ByteArray×Int×Int×Int×Int): Int:=((dy.getD x.2.2.2.1.toNat []).getD x.2.1.toNat []).getD x.2.2.1.toNat 0
def ZY(n:Net)(x:ByteArray×Int×Int×Int×Int): Int:=dV (aj n x.2.1) (aN n x.2.2.2.1).2.1 x.2.2.2.2
def zk(n:Net)(x:ByteArray×Int×Int×Int×Int): Int:=ic (aj n x.2.1) (aN n x.2.2.2.1).2.1 x.2.2.2.2
def OW(n:Net)(x:ByteArray×Int×Int×Int×Int): Int:=fC (aj n x.2.2.1).1 (ZY n x)
def FZ(n:Net)(dy:List (Lj))(x:ByteArray×Int×Int×Int×Int): Int:=KQ (aj n x.2.2.1).2.1 (aj n x.2.2.1).2.2 (OW n x) (JQ dy x)
def OV(n:Net)(dy:List (Lj))(x:ByteArray×Int×Int×Int×Int): Int:=KA (aj n x.2.2.1).2.1 (aj n x.2.2.1).2.2 (OW n x) (JQ dy x)
def Db(n:Net)(dy:List (Lj))(x:ByteArray×Int×Int×Int×Int): Int:=if FY n dy x=true then if zk n x=0 then if JQ dy x<0 then 170 else FZ n dy x else zk n x else 1
def Qp(n:Net)(dy:List (Lj))(x:ByteArray×Int×Int×Int×Int): Int:=if Db n dy x=0 then cL (aj n x.2.2.1).1 (OV n dy x) (aN n x.2.2.2.1).2.2 else 0
def aGh(w:List Bool)(h:Li)(d n:Int): Ann:=⟨λid s=>match id with
 | 4=>some {α:=Int×Int,inv:=λx=>P0 w h d n (p1 x) (p2 x),st:=λx=>iE (put s [(27,.dat I (p1 x))]) 0 (.var [.dat I (p2 x)]),μ:=λx=>Dc (Dh n (p1 x))}
 | 7=>some {α:=Nat,inv:=λk=>isZ k,st:=λ_=>flat s,μ:=λk=>k}
 | _=>none,λ_ _=>none,λ_ _=>none⟩
def cAdd: Cfg:={aBP KR1 with mb:=λt=>t==4}
theorem Xn(z:Int)(w:List Bool)(h:Li)(d n:Int)(hvc:
 let c1:=Di (ax z w h);let c2:=Di c1;let c3:=Dz c1 true (Di (bM d));let c4:=Di c3;let c5:=Dz c3 true (Dp n 0);let c6:=Di c5;let c7:=Dz c5 true (Ei n 200);let c8:=KA w h d n;let c9:=KQ w h d n;let c10:=(z,w,h);true/\(Zx z w h d n->True/\(c2->1=1)/\(c2->0=0)/\(c2->c2->c2)/\(c2->True)/\(c2->c2->c2)/\(Dk true c2->c2)/\(c4->c4->c4)/\(Dk true c4->c4)/\(c6->c6->c6)/\(Dk true c6->c6)/\(c7->0=c8/\1=c9/\True)/\(c7=false->(∃x,P0 w h d n (p1 x) (p2 x)/\c10=c10/\1=1/\0=0/\0=0/\n=n/\0=p1 x/\d=p2 x/\True)/\∀(x:Int×Int),let c11:=p2 x+1;let c12:=di w h c11 60;let c13:=p1 x+1;P0 w h d n (p1 x) (p2 x)->(Dp (p1 x) n->1=1/\0=0/\1=1/\0=0/\inR .i64 c11/\Dj w=7/\F3 w h c11 60/\(∃x_3,isZ x_3/\x_3=0/\c10=c10/\1=1/\0=0/\0=0/\1=1/\0=0/\0=0/\n=n/\p1 x=p1 x/\Dp (p1 x) n=Dp (p1 x) n/\z=z/\w=w/\h=h/\p2 x=p2 x/\c11=c11/\c11=c11/\(60:Int)=(60:Int)/\w=w/\c10=c10/\p2 x=p2 x/\false=false/\True)/\(∀(x_3:Nat) (y:Int),isZ x_3->lu c12 x_3 y->1=1/\0=0/\1=1/\0=0/\1=1/\0=0/\(Di true->0=c8/\20=c9/\True)/\(Di true=false->inR .i64 c13/\∃y_1,P0 w h d n (p1 y_1) (p2 y_1)/\(c10=c10/\1=1/\0=0/\0=0/\n=n/\c13=p1 y_1/\y=p2 y_1/\True)/\Dc (n-p1 y_1)<Dc (n-p1 x)))/\∀(x_3:Nat),isZ x_3->x_3=Dj c12->1=1/\0=0/\(Di false->0=c8/\20=c9/\True)/\(Di false=false->inR .i64 c13/\∃y,P0 w h d n (p1 y) (p2 y)/\(c10=c10/\1=1/\0=0/\0=0/\n=n/\c13=p1 y/\p2 x=p2 y/\True)/\Dc (n-p1 y)<Dc (n-p1 x)))/\(Dp (p1 x) n=false->1=1/\0=0/\p2 x=c8/\0=c9/\True)))):
  evF cAdd (lvA [(4,[3,4,6,7,8,9,26,27,33])] (aGh w h d n)) 100 [cal z w h,.dat I d,.dat I n] [] ⟨Zx z w h d n,.tup [.dat I (KA w h d n),.dat I (KQ w h d n)],[]⟩:=oE hvc
def aEO(n:Net)(dy:List (Lj)): Ann:=⟨λid s=>match id with
 | 4=>some {α:=Int,inv:=λk=>If n dy k,st:=λk=>put s [(19,.dat I k)],μ:=λk=>Dc (Dh (Df dy) k)}
 | 9=>match s.sig.T 31 with
  | .dat (.sl (.sl (.int .i64))) t=>some {α:=Int,inv:=λk=>zu n t k,st:=λk=>put s [(33,.dat I k)],μ:=λk=>Dc (Dh (Df t) k)}
  | _=>none
 | _=>none,λ_ _=>none,λ_ _=>none⟩
theorem Xj(dy:List (Lj))(cs:LC)(ns os:LB)(fs:Lo)(ls:Ll)(ks:Lk)(hvc:
 let c1:=Df dy;let c2:=Ec c1 (Df ks);let c3:=(cs,ns,os,fs,ls,ks);let c4:=uk c3 dy;let c5:=Df fs;true/\(fitsT dy->(c2->false=c4/\True)/\(c2=false->(∃x,If c3 dy x/\c3=c3/\dy=dy/\c1=c1/\0=x/\True)/\∀(x:Int),let c6:=Du dy (Dc x) (Dt (Li));let c7:=Df c6;let c8:=Ec c7 c5;let c9:=x+1;If c3 dy x->(Dp x c1->0<=x/\x<c1/\(c8->false=c4/\True)/\(c8=false->(∃x_4,zu c3 c6 x_4/\c3=c3/\c6=c6/\dy=dy/\c1=c1/\x=x/\c6=c6/\c7=c7/\0=x_4/\True)/\∀(x_4:Int),let c10:=Ec (Df (Du c6 (Dc x_4) [])) c5;let c11:=x_4+1;zu c3 c6 x_4->(Dp x_4 c7->0<=x_4/\x_4<c7/\(c10->false=c4/\True)/\(c10=false->inR .i64 c11/\∃y,zu c3 c6 y/\(c3=c3/\c6=c6/\dy=dy/\c1=c1/\x=x/\c6=c6/\c7=c7/\c11=y/\True)/\Dc (c7-y)<Dc (c7-x_4)))/\(Dp x_4 c7=false->inR .i64 c9/\∃y,If c3 dy y/\(c3=c3/\dy=dy/\c1=c1/\c9=y/\True)/\Dc (c1-y)<Dc (c1-x))))/\(Dp x c1=false->true=c4/\True)))):
  evF (mkc KR5) (lvA [(4,[0,4,6,8,17,18,19,31,32,33]),(9,[0,4,6,8,17,18,19,31,32,33])] (aEO (cs,ns,os,fs,ls,ks) dy)) 96 [.ip N (cs,ns,os,fs,ls,ks),.dat (.sl M) dy] [] ⟨fitsT dy,.dat .bool (uk (cs,ns,os,fs,ls,ks) dy),[]⟩:=oE hvc
theorem aAt(k o t:Int)(cs:LC)(ns os:LB)(fs:Lo)(ls:Ll)(ks:Lk)(hvc:
 let c1:=(cs,ns,os,fs,ls,ks);let c4:=(aj c1 o);let c5:=(Du ks (Dc k) (ByteArray.mk #[],(0:Int),(0:Int))).2.2;let c6:=ay c1 o t;true/\(aB6 c1 k o t->iT c1 o/\0<=k/\k<Df ks/\fx c1 o t/\tZ c4 c5 c6/\dV c4 c5 c6=F2 c1 k o t/\ic c4 c5 c6=KH c1 k o t/\True)):
  evF (mkc KR5) aA 103 [.ip N (cs,ns,os,fs,ls,ks),.dat I k,.dat I o,.dat I t] [] ⟨aB6 (cs,ns,os,fs,ls,ks) k o t,.tup [.dat I (F2 (cs,ns,os,fs,ls,ks) k o t),.dat I (KH (cs,ns,os,fs,ls,ks) k o t)],[]⟩:=oE hvc
def KRD: Kt:=kOr 100 (az [.row C,.val I,.val I] (λ(c,d,n,_)=>Zx c.1 c.2.1 c.2.2 d n) λ(c,d,n,_)=>.tup [.dat I (KA c.2.1 c.2.2 d n),.dat I (KQ c.2.1 c.2.2 d n)]) <|
 kOr 96 (az [.ptr N,.val (.sl M)] (λ(_,dy,_)=>fitsT dy) λ(n,dy,_)=>.dat .bool (uk n dy)) <|
 kOr 103 (az [.ptr N,.val I,.val I,.val I] (λ(n,k,o,t,_)=>aB6 n k o t) λ(n,k,o,t,_)=>.tup [.dat I (F2 n k o t),.dat I (KH n k o t)]) KR5
theorem aAC(k o t:Int)(cs:LC)(ns os:LB)(fs:Lo)(ls:Ll)(ks:Lk)(hvc:
 let c1:=Di (bP k (Df ks));let c2:=Di c1;let c11:=c2->c2->c2;let c3:=Dz c1 true (Di (bP o (Df fs)));let c4:=Di c3;let c5:=Dz c3 true (Di (bw t));let c6:=Di c5;let c7:=(cs,ns,os,fs,ls,ks);let c8:=Dz c5 true (Di (aO c7));let c9:=Ws c7 k o t;let c10:=Wq c7 k o t;true/\(True->True/\c11/\c11/\c11/\c11/\(c2->True)/\c11/\(Dk true c2->c2)/\(c4->c4->c4)/\(c4->True)/\(c4->c4->c4)/\(Dk true c4->c4)/\(c6->True)/\(c6->c6->c6)/\(Dk true c6->c6)/\(c8->0=c9/\1=c10/\True)/\(c8=false->aB6 c7 k o t/\F2 c7 k o t=c9/\KH c7 k o t=c10/\True))):
  evF (mkc KRD) aA 33 [net cs ns os fs ls ks,.dat I k,.dat I o,.dat I t] [] ⟨True,.tup [.dat I (Ws (cs,ns,os,fs,ls,ks) k o t),.dat I (Wq (cs,ns,os,fs,ls,ks) k o t)],[]⟩:=oE hvc
theorem aAD(k o t:Int)(cs:LC)(ns os:LB)(fs:Lo)(ls:Ll)(ks:Lk)(hvc:
 let c1:=Df ks;let c2:=Di (bP k c1);let c3:=Di c2;let c12:=c3->c3->c3;let c4:=Dz c2 true (Di (bP o (Df fs)));let c5:=Di c4;let c6:=Dz c4 true (Di (bw t));let c7:=Di c6;let c8:=(cs,ns,os,fs,ls,ks);let c9:=Dz c6 true (Di (aO c8));let c10:=Ww c8 k o t;let c11:=Wv c8 k o t;let c14:=(aj c8 o);let c15:=(Du ks (Dc k) (ByteArray.mk #[],(0:Int),(0:Int))).2.1;true/\(True->True/\c12/\c12/\c12/\c12/\(c3->True)/\c12/\(Dk true c3->c3)/\(c5->c5->c5)/\(c5->True)/\(c5->c5->c5)/\(Dk true c5->c5)/\(c7->True)/\(c7->c7->c7)/\(Dk true c7->c7)/\(c9->0=c10/\1=c11/\True)/\(c9=false->iT c8 o/\0<=k/\k<c1/\tZ c14 c15 t/\dV c14 c15 t=c10/\ic c14 c15 t=c11/\True))):
  evF (mkc KRD) aA 30 [net cs ns os fs ls ks,.dat I k,.dat I o,.dat I t] [] ⟨True,.tup [.dat I (Ww (cs,ns,os,fs,ls,ks) k o t),.dat I (Wv (cs,ns,os,fs,ls,ks) k o t)],[]⟩:=oE hvc
def aFv: Cfg:=mkp KRD (λ_=>false) KPw (λf=>f==97||f==95)
theorem aAB(dy:List (Lj))(x1:ByteArray)(x2 x3 x4 x5:Int)(cs:LC)(ns os:LB)(fs:Lo)(ls:Ll)(ks:Lk)(hvc:
 let c1:=(cs,ns,os,fs,ls,ks);let c2:=uk c1 dy;let c3:=Df ks;let c4:=Dz c2 (bP x4 c3) false;let c5:=(x1,x2,x3,x4,x5);let c6:=Qp c1 dy c5;let c7:=Db c1 dy c5;let c8:=Df fs;let c9:=bP x2 c8;let c10:=Dz c9 (bP x3 c8) false;let c11:=Ed x5 0;let c12:=Dz c11 (Eh x5 1000000) false;let c13:=Dz c12 (aO c1) false;let c14:=aj c1 x2;let c15:=c14.2;let c16:=(c14.1,c15.1,c15.2);let c17:=(Du ks (Dc x4) (ByteArray.mk #[],(0:Int),(0:Int))).2;let c18:=c17.1;let c19:=ic c16 c18 x5;let c20:=isZero c19;let c21:=Du dy (Dc x4) (Dt (Li));let c22:=Du c21 (Dc x2) [];let c23:=Du c22 (Dc x3) 0;let c24:=Dp c23 0;let c25:=aj c1 x3;let c26:=c25.1;let c27:=c25.2;let c28:=c27.1;let c29:=c27.2;let c30:=dV c16 c18 x5;let c31:=fC c26 c30;let c32:=KQ c28 c29 c31 c23;let c33:=isZero c32;let c34:=KA c28 c29 c31 c23;let c35:=c17.2;
 (false=false/\true)/\(fitsT dy->true/\fitsT dy/\(c2->c2->c2)/\(c2->c2->c2)/\(c2->c2->c2)/\(c2->c2->c2)/\(c2->c2->c2)/\(c2->True)/\(Dk true c2->c2)/\(true->True/\(c4=false->true/\true/\(Di false->True/\1=1/\0=0/\1=1/\0=0/\1=1/\0=0/\1=1/\0=0/\0=c6/\1=c7/\True)/\(Di false=false->1=1/\0=0/\1=1/\0=0/\0=c6/\0=c7/\True)))/\((true->c4)->(True/\c4)/\True/\(c9->c9->c9)/\(c9->c9->c9)/\(c9->c9->c9)/\(c9->c9->c9)/\(c9->c9->c9)/\(c9->True)/\(Dk true c9->c9)/\(true->True/\(c10=false->true/\true/\(Di false->True/\1=1/\0=0/\1=1/\0=0/\1=1/\0=0/\1=1/\0=0/\0=c6/\1=c7/\True)/\(Di false=false->1=1/\0=0/\1=1/\0=0/\0=c6/\0=c7/\True)))/\((true->c10)->(True/\c10)/\(c11->c11->c11)/\(c11->c11->c11)/\(Dk true c11->c11)/\(c12->True)/\(Dk true c12->c12)/\(true->True/\(c13=false->true/\true/\(Di false->True/\1=1/\0=0/\1=1/\0=0/\1=1/\0=0/\1=1/\0=0/\0=c6/\1=c7/\True)/\(Di false=false->1=1/\0=0/\1=1/\0=0/\0=c6/\0=c7/\True)))/\((true->c13)->(True/\c13)/\0<=x4/\x4<c3/\1=1/\0=0/\iT c1 x2/\1=1/\1=1/\0=0/\tZ c16 c18 x5/\True/\(c20->iT c1 x2/\1=1/\1=1/\0=0/\tZ c16 c18 x5/\(True/\c20)/\0<=x4/\x4<Df dy/\0<=x2/\x2<Df c21/\0<=x3/\x3<Df c22/\(c24->(true->True/\(false=false->true/\true/\(Di false->True/\1=1/\0=0/\1=1/\0=0/\1=1/\0=0/\1=1/\0=0/\0=c6/\170=c7/\True)/\(Di false=false->1=1/\0=0/\1=1/\0=0/\0=c6/\0=c7/\True)))/\True)/\(c24=false->iT c1 x3/\1=1/\0=0/\1=1/\0=0/\ga c26 c28 c29 c30/\1=1/\0=0/\1=1/\0=0/\Zx c26 c28 c29 c31 c23/\1=1/\1=1/\0=0/\True/\(c33->1=1/\0=0/\1=1/\0=0/\Zx c26 c28 c29 c31 c23/\(True/\c33)/\1=1/\1=1/\0=0/\k7 c26 c28 c29 c34 c35/\1=1/\0=0/\1=1/\0=0/\true/\true/\(Di true->False)/\(Di true=false->1=1/\0=0/\1=1/\0=0/\cL c26 c34 c35=c6/\0=c7/\True))/\(c33=false->true/\true/\(Di false->True/\1=1/\0=0/\1=1/\0=0/\1=1/\0=0/\1=1/\0=0/\0=c6/\c32=c7/\True)/\
 (Di false=false->1=1/\0=0/\1=1/\0=0/\0=c6/\0=c7/\True))))/\(c20=false->true/\true/\(Di false->True/\1=1/\0=0/\1=1/\0=0/\1=1/\0=0/\1=1/\0=0/\0=c6/\c19=c7/\True)/\(Di false=false->1=1/\0=0/\1=1/\0=0/\0=c6/\0=c7/\True))))))):
  evG aFv aA aA 31 [net cs ns os fs ls ks,.dat (.sl M) dy,.agg [.dat S x1,.dat I x2,.dat I x3,.dat I x4,.dat I x5]] ⟨fitsT dy,.tup [.dat I (Qp (cs,ns,os,fs,ls,ks) dy (x1,x2,x3,x4,x5)),.dat I (Db (cs,ns,os,fs,ls,ks) dy (x1,x2,x3,x4,x5))],[]⟩:=oE hvc
theorem TP(cs:LC)(ns os:LB)(fs:Lo)(ls:Ll)(ks:Lk)(h:noF (cs,ns,os,fs,ls,ks)=true): ∀x∈ks,iM x=true:=
 ((kj (by decide) (λl:Cla=>l.1) iM ks).1 (je cs ns os fs ls ks h).2.2.2.2.2).2.2.2
theorem lg(cs:LC)(ns os:LB)(fs:Lo)(ls:Ll)(ks:Lk){k:Int}(h:noF (cs,ns,os,fs,ls,ks)=true)(hk:zv (cs,ns,os,fs,ls,ks) k): (0<=(aN (cs,ns,os,fs,ls,ks) k).2.1/\(aN (cs,ns,os,fs,ls,ks) k).2.1<=1439)/\0<=(aN (cs,ns,os,fs,ls,ks) k).2.2/\(aN (cs,ns,os,fs,ls,ks) k).2.2<=1439:=by
 obtain⟨k0,k1⟩:=hk;have k1:k<(ks.length:Int):=k1;have hm:aN (cs,ns,os,fs,ls,ks) k∈ks:=by
  show ks.getD k.toNat _∈ks;rw[qA,qB (by omega),qQ];exact wM _
 have:=TP cs ns os fs ls ks h _ hm;unfold iM dW at this;simp only[qC,qE]at this;omega
theorem mg{t:Int}: bw t=true↔0<=t/\t<=2000000:=by unfold bw;rw[qE]
theorem sW(cs:LC)(ns os:LB)(fs:Lo)(ls:Ll)(ks:Lk){o t:Int}(h:iT (cs,ns,os,fs,ls,ks) o): t+1<=ay (cs,ns,os,fs,ls,ks) o t/\ay (cs,ns,os,fs,ls,ks) o t<=t+960:=by
 obtain⟨_,_,_,g1,g2,g3,g4⟩:=dZ cs ns os fs ls ks h;unfold ay;have h1:1*1<=(cj (cs,ns,os,fs,ls,ks) o).2.2.2.2.1*(cj (cs,ns,os,fs,ls,ks) o).2.2.2.2.2.1:=xI g1 g3 (by decide) (by omega);have h2:(cj (cs,ns,os,fs,ls,ks) o).2.2.2.2.1*(cj (cs,ns,os,fs,ls,ks) o).2.2.2.2.2.1<=4*240:=xI g2 g4 (by omega) (by decide);omega
theorem GG{w:List Bool}{h:Li}: ∀(k:Nat) {d e:Int},C4 w h k d=some e->d<=e/\e<=d+61*k
 | 0,d,e,g=>by cases g;omega
 | k+1,d,e,g=>by
  unfold C4 at g;obtain⟨y,h1,h2⟩:=qBs.1 g;have hm:y∈di w h (d+1) 60:=qAt (by unfold mP at h1;rw[h1];rfl);have:=oz hm;have:=GG k h2;omega
theorem aBv(z:Int)(w:List Bool)(h:Li)(d n:Int): af Tryz.prog G0 100 [cal z w h,.dat I d,.dat I n] [] ⟨Zx z w h d n,.tup [.dat I (KA w h d n),.dat I (KQ w h d n)],[]⟩:=by
 refine ae (c:=cAdd) aDd ZI hm (Xn z w h d n ⟨rfl,λ⟨hv,hd,n1⟩=>?_⟩);have hc:=rS hv;have hd':=okd hd;simp only[hv,hd];simp only[qc,Dk,Di,qd,Dp,Ei,Dc,Dj];refine⟨λh=>?_,λ⟨_,h200⟩=>?_⟩
 .have:¬n<=200:=by
   rcases h with(h | h) | h
   .simp at h
   .omega
   .omega
  unfold KA KQ;rw[if_neg this,if_neg this];exact⟨rfl,rfl⟩
 have hle:n<=200:=by omega
 have eD:KA w h d n=(C4 w h n.toNat d).getD 0:=if_pos hle;have eE:KQ w h d n=if(C4 w h n.toNat d).isSome then 0 else 20:=if_pos hle
 refine⟨⟨(0,d),⟨qL _,n1,by simp only[p2];omega,by simp only[p1,p2];omega,by simp only[p1,p2,Int.sub_zero]⟩,rfl,rfl⟩,λx hx=>⟨λhlt=>?_,λhge=>?_⟩⟩
 .obtain⟨i,e⟩:=x;obtain⟨i0,i1,i2,i3,i4⟩:=hx;simp only[p1,p2]at i0 i1 i2 i3 i4 hlt ⊢;have hsub:(n-i).toNat=(n-(i+1)).toNat+1:=by omega
  rw[hsub]at i4;refine⟨⟨by omega,by omega⟩,hc.1,⟨hc,by omega,by omega,by omega,by omega⟩,rfl,λk y hk hy=>⟨λh=>by simp at h,?_⟩,λk hk hl=>⟨?_,λh=>by simp at h⟩⟩
  .have hk:k=0:=hk;subst hk;have hy:(di w h (e+1) 60)[0]?=some y:=hy;obtain⟨m1,m2,m3⟩:=oz (zD hy);have hno:mP w h (e+1)=some y:=by
    unfold mP;rw[qBx];exact hy
   refine⟨⟨by omega,by omega⟩,(i+1,y),⟨by simp only[];omega,by simp only[];omega,by simp only[];omega,by simp only[];omega,?_⟩,⟨rfl,rfl⟩,by simp only;omega⟩;simp only[];rw[<- i4];simp only[C4,hno,Option.bind_some]
  .have hk:k=0:=hk;subst hk;have hno:mP w h (e+1)=none:=by
    unfold mP;rw[vO hl.symm];rfl
   have:C4 w h n.toNat d=none:=by
    rw[<- i4];simp only[C4,hno,Option.bind_none]
   simp[eD,eE,this]
 .obtain⟨i,e⟩:=x;obtain⟨i0,i1,i2,i3,i4⟩:=hx;simp only[p1,p2]at i0 i1 i2 i3 i4 hge ⊢;rw[show(n-i).toNat=0 by omega]at i4;have:C4 w h n.toNat d=some e:=by rw[<- i4];rfl
  simp[eD,eE,this]
theorem aA9(dy:List (Lj))(cs:LC)(ns os:LB)(fs:Lo)(ls:Ll)(ks:Lk): af Tryz.prog G0 96 [.ip N (cs,ns,os,fs,ls,ks),.dat (.sl M) dy] [] ⟨fitsT dy,.dat .bool (uk (cs,ns,os,fs,ls,ks) dy),[]⟩:=by
 refine ae (c:=mkc KR5) Z4 aJ hm (Xj dy cs ns os fs ls ks ⟨rfl,λhp=>?_⟩);simp only[qc,qd,Dt,Ec,Dp,Df,Dc,Du];obtain⟨f1,f2⟩:=hp;have ec:uk (cs,ns,os,fs,ls,ks) dy=(decide ((dy.length:Int)=ks.length)&&dy.all (qi fs.length)):=rfl
 have two:∀{x:Int},0<=x->x<dy.length->qi fs.length (dy.getD x.toNat [])=false->false=uk (cs,ns,os,fs,ls,ks) dy:=λ{x} h0 h1 hb=>by
  rw[ec,me (l:=dy) (d:=[]) (k:=x.toNat) (by omega) hb,xJ]
 refine⟨λh=>by rw[ec,vH h];rfl,λh=>⟨⟨qL _,qZ _,h,rfl⟩,λx ⟨x0,x1,x2,x3⟩=>⟨λhlt=>⟨x0,hlt,λhb=>two x0 hlt (by unfold qi;rw[vH hb];rfl),λhr=>⟨⟨qL _,qZ _,hr,rfl⟩,λy ⟨y0,y1,y2,y3⟩=>⟨λhly=>⟨y0,hly,λhb=>two x0 hlt ?_,λhb=>⟨?_,y+1,⟨by omega,by omega,y2,?_⟩,rfl,by omega⟩⟩,λhgy=>⟨?_,x+1,⟨by omega,by omega,x2,?_⟩,rfl,by omega⟩⟩⟩⟩,λhge=>?_⟩⟩⟩
 .unfold qi;rw[me (l:=dy.getD x.toNat []) (d:=[]) (k:=y.toNat) (by omega) (vH hb),xJ]
 .have:=(f2 _ (getD_mem (l:=dy) (i:=x.toNat) (d:=[]) (by omega))).1;exact aM (by omega)
 .rw[show(y+1).toNat=y.toNat+1 by omega];exact fB (d:=[]) y3 (by omega) (qV hb)
 .exact aM (by omega)
 .rw[show(x+1).toNat=x.toNat+1 by omega];refine fB (d:=[]) x3 (by omega) ?_;rw[qO (by omega)]at y3;unfold qi;rw[qV hr,y3];rfl
 .rw[qO (by omega)]at x3;rw[ec,qV h,x3];rfl
theorem aEc(k o t:Int)(cs:LC)(ns os:LB)(fs:Lo)(ls:Ll)(ks:Lk): af Tryz.prog G0 103 [.ip N (cs,ns,os,fs,ls,ks),.dat I k,.dat I o,.dat I t] [] ⟨aB6 (cs,ns,os,fs,ls,ks) k o t,.tup [.dat I (F2 (cs,ns,os,fs,ls,ks) k o t),.dat I (KH (cs,ns,os,fs,ls,ks) k o t)],[]⟩:=by
 refine ae (c:=mkc KR5) Z4 aJ hm (aAt k o t cs ns os fs ls ks ⟨rfl,λhp=>?_⟩);simp only[qc,Df,Dc,Du];obtain⟨⟨ho,hk⟩,ht⟩:=hp;have ht:=mg.1 ht;have hr:=sW (t:=t) cs ns os fs ls ks ho;have hv:=(dZ cs ns os fs ls ks ho).2.2.1;have hc:=(lg cs ns os fs ls ks ho.1 hk).2
 exact⟨ho,hk.1,hk.2,⟨ho,by omega,by omega⟩,⟨hv,hc.1,by show(aN (cs,ns,os,fs,ls,ks) k).2.2<1440;omega,by omega,by omega⟩,rfl,rfl⟩
theorem aE1: ak Tryz.prog G0 KRD:=ai (ag λ((z,w,h),d,n,_)=>aBv z w h d n)<|ai (ag λ((cs,ns,os,fs,ls,ks),dy,_)=>aA9 dy cs ns os fs ls ks)<|ai (ag λ((cs,ns,os,fs,ls,ks),k,o,t,_)=>aEc k o t cs ns os fs ls ks) Z4
theorem aEk(k o t:Int)(cs:LC)(ns os:LB)(fs:Lo)(ls:Ll)(ks:Lk): af Tryz.prog G0 33 [net cs ns os fs ls ks,.dat I k,.dat I o,.dat I t] [] ⟨True,.tup [.dat I (Ws (cs,ns,os,fs,ls,ks) k o t),.dat I (Wq (cs,ns,os,fs,ls,ks) k o t)],[]⟩:=by
 refine ae (c:=mkc KRD) aE1 aJ hm (aAC k o t cs ns os fs ls ks ⟨rfl,λhp=>?_⟩);simp only[qc,Dk,Di,Df];have ea:pi (cs,ns,os,fs,ls,ks) k o t=(((bP k ks.length&&bP o fs.length)&&bw t)&&aO (cs,ns,os,fs,ls,ks)):=rfl;refine⟨λh=>?_,λ⟨⟨⟨h1,h2⟩,h3⟩,h4⟩=>?_⟩
 .have:pi (cs,ns,os,fs,ls,ks) k o t=false:=by
   rw[ea];rcases h with((h | h) | h) | h<;>rw[h]<;>simp
  unfold Ws Wq;rw[this];exact⟨rfl,rfl⟩
 .have:pi (cs,ns,os,fs,ls,ks) k o t=true:=by rw[ea,h1,h2,h3,h4];rfl
  have e1:=fN.1 h1;have e2:=fN.1 h2;unfold Ws Wq;rw[this];exact⟨⟨⟨⟨aX cs ns os fs ls ks h4,e2.1,e2.2⟩,e1⟩,h3⟩,rfl,rfl⟩
theorem t_Cut(k o t:Int)(cs:LC)(ns os:LB)(fs:Lo)(ls:Ll)(ks:Lk): af Tryz.prog G0 30 [net cs ns os fs ls ks,.dat I k,.dat I o,.dat I t] [] ⟨True,.tup [.dat I (Ww (cs,ns,os,fs,ls,ks) k o t),.dat I (Wv (cs,ns,os,fs,ls,ks) k o t)],[]⟩:=by
 refine ae (c:=mkc KRD) aE1 aJ hm (aAD k o t cs ns os fs ls ks ⟨rfl,λhp=>?_⟩);simp only[qc,Dk,Di,Df,Dc,Du];have ea:pi (cs,ns,os,fs,ls,ks) k o t=(((bP k ks.length&&bP o fs.length)&&bw t)&&aO (cs,ns,os,fs,ls,ks)):=rfl;refine⟨λh=>?_,λ⟨⟨⟨h1,h2⟩,h3⟩,h4⟩=>?_⟩
 .have:pi (cs,ns,os,fs,ls,ks) k o t=false:=by
   rw[ea];rcases h with((h | h) | h) | h<;>rw[h]<;>simp
  unfold Ww Wv;rw[this];exact⟨rfl,rfl⟩
 .have:pi (cs,ns,os,fs,ls,ks) k o t=true:=by rw[ea,h1,h2,h3,h4];rfl
  have e1:=fN.1 h1;have e2:=fN.1 h2;have ho:iT (cs,ns,os,fs,ls,ks) o:=⟨aX cs ns os fs ls ks h4,e2.1,e2.2⟩;have ht:=mg.1 h3;have hv:=(dZ cs ns os fs ls ks ho).2.2.1;have hc:=(lg cs ns os fs ls ks ho.1 e1).1;unfold Ww Wv;rw[this];exact⟨ho,e1.1,e1.2,⟨hv,hc.1,by show(aN (cs,ns,os,fs,ls,ks) k).2.1<1440;omega,by omega,by omega⟩,rfl,rfl⟩
theorem aEj(dy:List (Lj))(x1:ByteArray)(x2 x3 x4 x5:Int)(cs:LC)(ns os:LB)(fs:Lo)(ls:Ll)(ks:Lk): af Tryz.prog G0 31 [net cs ns os fs ls ks,.dat (.sl M) dy,.agg [.dat S x1,.dat I x2,.dat I x3,.dat I x4,.dat I x5]] [] ⟨fitsT dy,.tup [.dat I (Qp (cs,ns,os,fs,ls,ks) dy (x1,x2,x3,x4,x5)),.dat I (Db (cs,ns,os,fs,ls,ks) dy (x1,x2,x3,x4,x5))],[]⟩:=by
 refine lF (c:=aFv) aE1 aJ hm Iu (aAB dy x1 x2 x3 x4 x5 cs ns os fs ls ks ⟨⟨rfl,rfl⟩,λhp=>?_⟩);simp only[qc,Dk,Di,qd,Dt,Dp,Eh,Ed,Df,Dc,Du];have two:∀{p q:Prop},p->(p/\(false=true->q)):=λh=>⟨h,λh=>by cases h⟩
 obtain⟨x,hx⟩:∃x:ByteArray×Int×Int×Int×Int,x=(x1,x2,x3,x4,x5):=⟨_,rfl⟩;have eo:FY (cs,ns,os,fs,ls,ks) dy x=((uk (cs,ns,os,fs,ls,ks) dy&&bP x4 ks.length)&&(bP x2 fs.length&&bP x3 fs.length)&&((decide (0<=x5)&&decide (x5<=1000000))&&aO (cs,ns,os,fs,ls,ks))):=by rw[hx];rfl
 have eC:dV ((aj (cs,ns,os,fs,ls,ks) x2).1,(aj (cs,ns,os,fs,ls,ks) x2).2.1,(aj (cs,ns,os,fs,ls,ks) x2).2.2) (ks.getD x4.toNat (⟨#[]⟩,0,0)).2.1 x5=ZY (cs,ns,os,fs,ls,ks) x:=by rw[hx];rfl
 have eE:ic ((aj (cs,ns,os,fs,ls,ks) x2).1,(aj (cs,ns,os,fs,ls,ks) x2).2.1,(aj (cs,ns,os,fs,ls,ks) x2).2.2) (ks.getD x4.toNat (⟨#[]⟩,0,0)).2.1 x5=zk (cs,ns,os,fs,ls,ks) x:=by rw[hx];rfl
 have eN:((dy.getD x4.toNat []).getD x2.toNat []).getD x3.toNat 0=JQ dy x:=by rw[hx];rfl
 have eA:fC (aj (cs,ns,os,fs,ls,ks) x3).1 (ZY (cs,ns,os,fs,ls,ks) x)=OW (cs,ns,os,fs,ls,ks) x:=by rw[hx];rfl
 have eAE:KQ (aj (cs,ns,os,fs,ls,ks) x3).2.1 (aj (cs,ns,os,fs,ls,ks) x3).2.2 (OW (cs,ns,os,fs,ls,ks) x) (JQ dy x)=FZ (cs,ns,os,fs,ls,ks) dy x:=by rw[hx];rfl
 have eAD:KA (aj (cs,ns,os,fs,ls,ks) x3).2.1 (aj (cs,ns,os,fs,ls,ks) x3).2.2 (OW (cs,ns,os,fs,ls,ks) x) (JQ dy x)=OV (cs,ns,os,fs,ls,ks) dy x:=by rw[hx];rfl
 have eK:(ks.getD x4.toNat (⟨#[]⟩,0,0)).2.2=(aN (cs,ns,os,fs,ls,ks) x4).2.2:=rfl;have eDE:Db (cs,ns,os,fs,ls,ks) dy x=if FY (cs,ns,os,fs,ls,ks) dy x=true then if zk (cs,ns,os,fs,ls,ks) x=0 then if JQ dy x<0 then 170 else FZ (cs,ns,os,fs,ls,ks) dy x else zk (cs,ns,os,fs,ls,ks) x else 1:=rfl
 have eDD:Qp (cs,ns,os,fs,ls,ks) dy x=if Db (cs,ns,os,fs,ls,ks) dy x=0 then cL (aj (cs,ns,os,fs,ls,ks) x3).1 (OV (cs,ns,os,fs,ls,ks) dy x) (aN (cs,ns,os,fs,ls,ks) x4).2.2 else 0:=by rw[hx];rfl
 rw[<- hx];simp only[eC,eE,eN,eA,eAE,eAD,eK];have bad:∀e,Db (cs,ns,os,fs,ls,ks) dy x=e->e≠0->0=Qp (cs,ns,os,fs,ls,ks) dy x/\e=Db (cs,ns,os,fs,ls,ks) dy x:=λe he h0=>⟨by rw[eDD,if_neg (by rw[he];exact h0)],he.symm⟩
 have arg:FY (cs,ns,os,fs,ls,ks) dy x=false->0=Qp (cs,ns,os,fs,ls,ks) dy x/\1=Db (cs,ns,os,fs,ls,ks) dy x:=λh=>bad 1 (by rw[eDE,h];rfl) (by decide)
 refine⟨hp,λh=>two (arg ?_),λh1=>⟨h1,λh=>two (arg ?_),λh2=>⟨h2,λh=>two (arg ?_),λh3=>⟨h3,?_⟩⟩⟩⟩
 .rw[eo];cases e1:uk (cs,ns,os,fs,ls,ks) dy<;>cases e2:bP x4 ks.length<;>simp;simp[h e1]at e2
 .rw[eo];cases e1:bP x2 fs.length<;>cases e2:bP x3 fs.length<;>simp;simp[h e1]at e2
 .rw[eo];by_cases e1:0<=x5<;>by_cases e2:x5<=1000000<;>simp[e1,e2]
  intros
  exact h ⟨e1,e2⟩
 .obtain⟨a1,a2⟩:=h1;obtain⟨b1,b2⟩:=h2;obtain⟨⟨c1,c2⟩,c3⟩:=h3;have hok:FY (cs,ns,os,fs,ls,ks) dy x=true:=by rw[eo,a1,a2,b1,b2,c3,qV (by omega:0<=x5),qV c2];rfl
  have hno:=aX cs ns os fs ls ks c3;have i4:=fN.1 a2;have i2:=fN.1 b1;have i3:=fN.1 b2;have o2:iT (cs,ns,os,fs,ls,ks) x2:=⟨hno,i2.1,i2.2⟩;have o3:iT (cs,ns,os,fs,ls,ks) x3:=⟨hno,i3.1,i3.2⟩;have v2:=(dZ cs ns os fs ls ks o2).2.2.1;have v3:=(dZ cs ns os fs ls ks o3).2.2.1;have hc:=lg cs ns os fs ls ks hno (k:=x4) i4
  have f2:tZ ((aj (cs,ns,os,fs,ls,ks) x2).1,(aj (cs,ns,os,fs,ls,ks) x2).2.1,(aj (cs,ns,os,fs,ls,ks) x2).2.2) (ks.getD x4.toNat (⟨#[]⟩,0,0)).2.1 x5:=⟨v2,hc.1.1,by show(aN (cs,ns,os,fs,ls,ks) x4).2.1<1440;omega,by omega,by omega⟩;unfold uk qi at a1;simp only[qC,qE,qM]at a1;obtain⟨q1,q2⟩:=a1;have q1:(dy.length:Int)=ks.length:=q1;have r1:=q2 _ (getD_mem (l:=dy) (i:=x4.toNat) (d:=[]) (by omega))
  have r1a:((dy.getD x4.toNat []).length:Int)=fs.length:=r1.1;have r2:(((dy.getD x4.toNat []).getD x2.toNat []).length:Int)=fs.length:=r1.2 _ (getD_mem (by omega));have hE:Db (cs,ns,os,fs,ls,ks) dy x=if zk (cs,ns,os,fs,ls,ks) x=0 then if JQ dy x<0 then 170 else FZ (cs,ns,os,fs,ls,ks) dy x else zk (cs,ns,os,fs,ls,ks) x:=by rw[eDE,if_pos hok]
  refine⟨i4.1,i4.2,o2,f2,λhz=>?_,?_⟩
  .have hz0:=b9.1 hz;have hb:zk (cs,ns,os,fs,ls,ks) x=0->x5<=ZY (cs,ns,os,fs,ls,ks) x/\ZY (cs,ns,os,fs,ls,ks) x<=x5+90000:=λhz0=>by
    have:=gK (c:=aj (cs,ns,os,fs,ls,ks) x2) (m:=(aN (cs,ns,os,fs,ls,ks) x4).2.1) (t:=x5) v2 (by rw[hx]at hz0;exact hz0) hc.1.1 hc.1.2;rw[hx];exact this
   have hcb:=hb hz0;obtain⟨⟨z1,z2,_,_⟩,_⟩:=cA.1 v3;have hday:-1000<=OW (cs,ns,os,fs,ls,ks) x/\OW (cs,ns,os,fs,ls,ks) x<=10000:=by
    rw[<- eA];unfold fC;omega
   have hE2:Db (cs,ns,os,fs,ls,ks) dy x=if JQ dy x<0 then 170 else FZ (cs,ns,os,fs,ls,ks) dy x:=by rw[hE,if_pos hz0]
   refine⟨o2,f2,hz,i4.1,by omega,i2.1,by omega,i3.1,by omega,λhneg=>two (bad 170 (by rw[hE2,if_pos hneg]) (by decide)),λhpos=>?_⟩;have hadd:Zx (aj (cs,ns,os,fs,ls,ks) x3).1 (aj (cs,ns,os,fs,ls,ks) x3).2.1 (aj (cs,ns,os,fs,ls,ks) x3).2.2 (OW (cs,ns,os,fs,ls,ks) x) (JQ dy x):=⟨v3,gv (by omega) (by omega),by omega⟩
   have hE3:Db (cs,ns,os,fs,ls,ks) dy x=FZ (cs,ns,os,fs,ls,ks) dy x:=by rw[hE2,if_neg hpos]
   refine⟨o3,⟨v3,by omega,by omega⟩,hadd,λhz2=>?_,?_⟩
   .have hz3:=b9.1 hz2;have hb2:bM (OV (cs,ns,os,fs,ls,ks) dy x)=true:=by
     rw[<- eAE]at hz3;rw[<- eAD];unfold KQ at hz3;unfold KA;split at hz3
     .rename_i h200;rw[if_pos h200];cases ha:C4 (aj (cs,ns,os,fs,ls,ks) x3).2.1 (aj (cs,ns,os,fs,ls,ks) x3).2.2 (JQ dy x).toNat (OW (cs,ns,os,fs,ls,ks) x)with
      | none=>rw[ha]at hz3;simp at hz3
      | some e=>
       have:=GG _ ha;exact gv (by show _<=e;omega) (by show e<=_;omega)
     .omega
    exact⟨hadd,hz2,⟨v3,hb2,hc.2.1,by omega⟩,(λh=>by simp at h),by rw[eDD,if_pos (by rw[hE3];exact hz3)],by rw[hE3];exact hz3.symm⟩
   .intro hz2;exact two (bad _ hE3 (cB.1 hz2))
  .intro hz;exact two (bad _ (by rw[hE,if_neg (cB.1 hz)]) (cB.1 hz))
end Go.Eng.Sv
set_option maxRecDepth 100000
noncomputable section
namespace Go.Eng.Mp
open Go.Proofs
open Go.Eng.Sv (I R M G0 KI0)
open Go.Eng.Sv (aJ hm)
def cZ(x:Int): Bool:=decide (x<=-549755813888)
def pP(x:Int): Bool:=cZ x||(decide (x≥-1000000000)&&decide (x<=1000000000))
def iF(x y:Int): Int:=bif cZ x&&cZ y then -1099511627776 else max x y
def iY(x y:Int): Int:=bif cZ x||cZ y then -1099511627776 else x+y
def r7(x y:Int): Prop:=cZ x=false->cZ y=false->inR .i64 (x+y)
def dO(x y:Bool): Bool:=x||y
def nB{α:Type}(op:α->α->α)(g:Int->α)(z:α): Nat->α
 | 0=>z
 | k+1=>op (nB op g z k) (g k)
def iN(op:Bool->Bool->Bool)(g:Int->Bool)(z:Bool)(n:Int): Bool:=nB op g z n.toNat
def hC(n:Int)(preP:Bool->Bool->Prop)(preT:Int->Prop)(g:Int->Bool): Prop:=n<=9223372036854775807/\∀k,0<=k->k<n->preT k/\∀x,preP x (g k)
def upto(k n:Int): Prop:=0<=k/\(k<=n\/k=0)
def idx(k:Int)(row:Li): Prop:=0<=k/\k<(row.length:Int)
def at1(row:Li)(k:Int): Int:=row.getD k.toNat 0
def ki(row:Li)(k:Int): Bool:=!(pP (at1 row k))
def mS(row:Li): Bool:=iN dO (ki row) false row.length
def N8(row:Li): Prop:=(row.length:Int)<=9223372036854775807
def K0: Kt:=λ_ _ _=>none
def c0: Cfg:=Sv.mkc K0
theorem aAn(x:Int)(hvc:
 true/\(True->Eh x (-549755813888)=cZ x/\True)):
  evF c0 aA 260 [.dat I x] [] ⟨True,.dat .bool (cZ x),[]⟩:=oE hvc
theorem KS0: ak Tryz.prog G0 K0:=λf args m c h=>by cases h
theorem aEo(x:Int): af Tryz.prog G0 260 [.dat I x] [] ⟨True,.dat .bool (cZ x),[]⟩:=
 ae (c:=c0) KS0 aJ hm (aAn x ⟨rfl,λ_=>⟨rfl,trivial⟩⟩)
theorem LH(x y:Bool)(hvc:
 true/\(True->(Dk true (Di x)->Di x)/\Dz x true y=dO x y/\True)):
  evF c0 aA 262 [.dat .bool x,.dat .bool y] [] ⟨True,.dat .bool (dO x y),[]⟩:=oE hvc
theorem Hj(x y:Bool): af Tryz.prog G0 262 [.dat .bool x,.dat .bool y] [] ⟨True,.dat .bool (dO x y),[]⟩:=
 ae (c:=c0) KS0 aJ hm (LH x y (by cases x<;>cases y<;>simp[dO]))
def aB1(n:Int)(z:Bool)(op:Bool->Bool->Bool)(g:Int->Bool): Ann:=⟨λid s=>match id with
 | 3=>some {α:=Int,inv:=λk=>upto k n,st:=λk=>put s [(13,.dat I k),(9,.dat .bool (iN op g z k))],μ:=λk=>Dc (Dh n k)}
 | _=>none,λ_ _=>none,λ_ _=>none⟩
theorem Rj(n:Int)(z:Bool)(preP:Bool->Bool->Prop)(op:Bool->Bool->Bool)(preT:Int->Prop)(g:Int->Bool)(hvc:
 true/\(hC n preP preT g->(∃x,upto x n/\AV.clo2 Ty.bool Ty.bool Ty.bool preP op=AV.clo2 Ty.bool Ty.bool Ty.bool preP op/\AV.clo1 (Ty.int .i64) Ty.bool preT g=AV.clo1 (Ty.int .i64) Ty.bool preT g/\false=false/\z=iN op g z x/\n=n/\0=x/\True)/\∀(x:Int),let c1:=iN op g z x;let c2:=x+1;upto x n->(Dp x n->preT x/\preP c1 (g x)/\inR .i64 c2/\∃y,upto y n/\(AV.clo2 Ty.bool Ty.bool Ty.bool preP op=AV.clo2 Ty.bool Ty.bool Ty.bool preP op/\AV.clo1 (Ty.int .i64) Ty.bool preT g=AV.clo1 (Ty.int .i64) Ty.bool preT g/\false=false/\op c1 (g x)=iN op g z y/\n=n/\c2=y/\True)/\Dc (n-y)<Dc (n-x))/\(Dp x n=false->c1=iN op g z n/\True))):
  evF c0 (lvA [(3,[2,3,8,9,10,12,13])] (aB1 n z op g)) 261 [.dat I n,.dat .bool z,.clo2 .bool .bool .bool preP op,.clo1 I .bool preT g] [] ⟨hC n preP preT g,.dat .bool (iN op g z n),[]⟩:=oE hvc
theorem JK(op:Bool->Bool->Bool)(g:Int->Bool)(z:Bool): iN op g z 0=z:=rfl
theorem JL(op:Bool->Bool->Bool)(g:Int->Bool)(z:Bool)(k:Int)(h:0<=k): iN op g z (k+1)=op (iN op g z k) (g k):=by
 unfold iN;have e:(k+1).toNat=k.toNat+1:=by omega
 rw[e];show op _ (g (k.toNat:Int))=_;rw[qU h]
theorem OI(op:Bool->Bool->Bool)(g:Int->Bool)(z:Bool)(k n:Int)(h:upto k n)(h2:¬k<n): iN op g z k=iN op g z n:=by
 unfold iN;unfold upto at h;have e:k.toNat=n.toNat:=by omega
 rw[e]
theorem Yt(n:Int)(z:Bool)(preP:Bool->Bool->Prop)(op:Bool->Bool->Bool)(preT:Int->Prop)(g:Int->Bool):
  af Tryz.prog G0 261 [.dat I n,.dat .bool z,.clo2 .bool .bool .bool preP op,.clo1 I .bool preT g] [] ⟨hC n preP preT g,.dat .bool (iN op g z n),[]⟩:=by
 refine ae (c:=c0) KS0 aJ hm (Rj n z preP op preT g ⟨rfl,λhp=>⟨⟨0,⟨by omega,.inr rfl⟩,?_⟩,λx hx=>⟨λhlt=>?_,λhge=>?_⟩⟩⟩)
 .simp[JK]
 .have hlt:x<n:=by simpa using hlt
  have h0:=hx.1;obtain⟨p1,p2⟩:=hp.2 x h0 hlt;refine⟨p1,p2 _,?_,x+1,⟨by omega,.inl (by omega)⟩,?_,?_⟩
  .have:=hp.1;simp only[inR];omega
  .simp[JL op g z x h0]
  .simp only[Dc];omega
 .have hge:¬x<n:=by simpa using hge
  exact⟨OI op g z x n hx hge,trivial⟩
def K1: Kt:=λf args m=>match f,args,m with
 | 260,[.dat (.int .i64) x],[]=>some ⟨True,.dat .bool (cZ x),[]⟩
 | 262,[.dat .bool x,.dat .bool y],[]=>some ⟨True,.dat .bool (dO x y),[]⟩
 | _,_,_=>none
def c1: Cfg:=Sv.mkc K1
theorem Xb(x:Int)(hvc:
 let c1:=Ed x (-1000000000);true/\(True->True/\(Di (cZ x)->Di (cZ x)->Di (cZ x))/\(Di (cZ x)->Di (cZ x)->Di (cZ x))/\(Dk (Di (cZ x)) c1->Dk (Di (cZ x)) c1->Dk (Di (cZ x)) c1)/\(Di (cZ x)->Di (cZ x)->Di (cZ x))/\(Di (cZ x)->Dk (Di (cZ x)) c1->Dk (Di (cZ x)) c1)/\(Dk true (Di (cZ x))->Di (cZ x))/\Dz (cZ x) true (Dz c1 (Eh x 1000000000) false)=pP x/\True)):
  evF c1 aA 289 [.dat I x] [] ⟨True,.dat .bool (pP x),[]⟩:=oE hvc
theorem KS1: ak Tryz.prog G0 K1:=by
 intro f args m c h;unfold K1 at h;split at h
 .cases h;exact aEo _
 .cases h;exact Hj _ _
 .cases h
theorem aBs(x:Int): af Tryz.prog G0 289 [.dat I x] [] ⟨True,.dat .bool (pP x),[]⟩:=
 ae (c:=c1) KS1 aJ hm (Xb x (by cases h:cZ x<;>simp[pP,h,Bool.cond_eq_ite]))
theorem WT(x y:Int)(hvc:
 let c1:=Dz (cZ x) (cZ y) false;true/\(True->True/\(cZ x->cZ x->cZ x)/\(cZ x->True)/\(Dk true (cZ x)->cZ x)/\(c1->(-1099511627776:Int)=iF x y/\True)/\(c1=false->Ez x y=iF x y/\True))):
  evF c1 aA 215 [.dat I x,.dat I y] [] ⟨True,.dat I (iF x y),[]⟩:=oE hvc
theorem aBn(x y:Int): af Tryz.prog G0 215 [.dat I x,.dat I y] [] ⟨True,.dat I (iF x y),[]⟩:=
 ae (c:=c1) KS1 aJ hm (WT x y (by cases h:cZ x<;>cases h2:cZ y<;>simp[iF,h,h2]))
theorem QG(x y:Int)(hvc:
 let c1:=Dz (cZ x) true (cZ y);true/\(r7 x y->True/\(Di (cZ x)->Di (cZ x)->Di (cZ x))/\(Di (cZ x)->True)/\(Dk true (Di (cZ x))->Di (cZ x))/\(c1->(-1099511627776:Int)=iY x y/\True)/\(c1=false->inR .i64 (x+y)/\x+y=iY x y/\True))):
  evF c1 aA 218 [.dat I x,.dat I y] [] ⟨r7 x y,.dat I (iY x y),[]⟩:=oE hvc
theorem Yn(x y:Int): af Tryz.prog G0 218 [.dat I x,.dat I y] [] ⟨r7 x y,.dat I (iY x y),[]⟩:=
 ae (c:=c1) KS1 aJ hm (QG x y (by cases h:cZ x<;>cases h2:cZ y<;>simp[iY,r7,h,h2]))
def K2: Kt:=λf args m=>match f,args,m with
 | 289,[.dat (.int .i64) x],[]=>some ⟨True,.dat .bool (pP x),[]⟩
 | 215,[.dat (.int .i64) x,.dat (.int .i64) y],[]=>some ⟨True,.dat I (iF x y),[]⟩
 | 218,[.dat (.int .i64) x,.dat (.int .i64) y],[]=>some ⟨r7 x y,.dat I (iY x y),[]⟩
 | _,_,_=>K1 f args m
def c2: Cfg:=Sv.mkc K2
theorem KX(k:Int)(row:Li)(hvc:
 true/\(idx k row->0<=k/\k<Df row/\True/\Di (pP (Du row (Dc k) 0))=ki row k/\True)):
  evF c2 aA 288 [.dat I k,.ip R row] [] ⟨idx k row,.dat .bool (ki row k),[]⟩:=oE hvc
theorem KS2: ak Tryz.prog G0 K2:=by
 intro f args m c h;unfold K2 at h;split at h
 .cases h;exact aBs _
 .cases h;exact aBn _ _
 .cases h;exact Yn _ _
 .exact KS1 _ _ _ _ h
theorem SS(k:Int)(row:Li): af Tryz.prog G0 288 [.dat I k,.ip R row] [] ⟨idx k row,.dat .bool (ki row k),[]⟩:=
 ae (c:=c2) KS2 aJ hm (KX k row ⟨rfl,λh=>⟨h.1,h.2,trivial,rfl,trivial⟩⟩)
theorem Nw{P:Program}{C:Ctx}{a b x y x' y':AV}{us:Lv}(h:AV.relL P C [a,b,x,y] us)(hx:∀v,x.rel P C v->x'.rel P C v)(hy:∀v,y.rel P C v->y'.rel P C v): AV.relL P C [a,b,x',y'] us:=by
 obtain⟨u,us,rfl,h1,u2,us,rfl,h2,u3,us,rfl,h3,u4,us,rfl,h4,h5⟩:=h;exact⟨_,_,rfl,h1,_,_,rfl,h2,_,_,rfl,hx _ h3,_,_,rfl,hy _ h4,h5⟩
theorem JO{C:Ctx}(hG:jX Tryz.prog C G0){v:Value}(h:(AV.fn 262 []).rel Tryz.prog C v): (AV.clo2 .bool .bool .bool (λ_ _=>True) dO).rel Tryz.prog C v:=
 jL (by kernel_rfl) rfl (λx y=>Hj x y) hG h
theorem vn(n:Int)(z:Bool){f:FuncId}{caps:List AV}(preT:Int->Prop)(g:Int->Bool)(hg:goes Tryz.prog f=true)(hn:AV.namesL caps=[])(h:∀k,af Tryz.prog G0 f (.dat I k::caps) [] ⟨preT k,.dat .bool (g k),[]⟩):
  af Tryz.prog G0 261 [.dat I n,.dat .bool z,.fn 262 [],.fn f caps] [] ⟨hC n (λ_ _=>True) preT g,.dat .bool (iN dO g z n),[]⟩:=
 (Yt n z _ dO preT g).args λ_ _ hG hu=>Nw hu (λ_ h=>JO hG h) (λ_ hv=>jM hg hn h hG hv)
def K3: Kt:=λf args m=>match f,args,m with
 | 261,[.dat (.int .i64) n,.dat .bool z,.fn 262 [],.fn 288 [.ip (.sl (.int .i64)) row]],[]=>some ⟨hC n (λ_ _=>True) (λk=>idx k row) (ki row),.dat .bool (iN dO (ki row) z n),[]⟩
 | _,_,_=>K2 f args m
def c3: Cfg:=Sv.mkc K3
theorem Qv(row:Li)(hvc:
 true/\(N8 row->hC (Df row) (λx x_1↦True) (λk↦idx k row) (ki row)/\iN dO (ki row) false (Df row)=mS row/\True)):
  evF c3 aA 259 [.dat R row] [] ⟨N8 row,.dat .bool (mS row),[]⟩:=oE hvc
theorem KS3: ak Tryz.prog G0 K3:=by
 intro f args m c h;unfold K3 at h;split at h
 .cases h;exact vn _ _ _ _ (by kernel_rfl) rfl (λk=>SS k _)
 .exact KS2 _ _ _ _ h
theorem Yl(row:Li): af Tryz.prog G0 259 [.dat R row] [] ⟨N8 row,.dat .bool (mS row),[]⟩:=
 ae (c:=c3) KS3 aJ hm (Qv row ⟨rfl,λh=>⟨⟨h,λk h0 h1=>⟨⟨h0,h1⟩,λ_=>trivial⟩⟩,rfl,trivial⟩⟩)
def aL(g:Int->Int->Int)(n:Int): Lj:=(List.range n.toNat).map λi:Nat=>(List.range n.toNat).map λj:Nat=>g i j
def cD(g:Int->Int->Int)(n i:Int): Lj:=(aL g n).take i.toNat++List.replicate (n.toNat-i.toNat) []
def qj(g:Int->Int->Int)(n i j:Int): Li:=((List.range n.toNat).map λj:Nat=>g i j).take j.toNat++List.replicate (n.toNat-j.toNat) 0
def bC(n:Int)(preT:Int->Int->Prop): Prop:=0<=n/\n<=1000000/\∀i j,0<=i->i<n->0<=j->j<n->preT i j
def aCm(n:Int)(g:Int->Int->Int): Ann:=⟨λid s=>match id with
 | 3=>some {α:=Int,inv:=λk=>upto k n,st:=λk=>iE (put s [(11,.dat I k),(5,.buf 0 (Dc n))]) 0 (.buf 36 R (cD g n k) []),μ:=λk=>Dc (Dh n k)}
 | 7=>match s.sig.T 6 with
  | .dat (.int .i64) i=>some {α:=Int,inv:=λk=>upto k n,st:=λk=>iE (put s [(20,.dat I k)]) 1 (.buf 3 I (qj g n i k) []),μ:=λk=>Dc (Dh n k)}
  | _=>none
 | _=>none,λ_ _=>none,λ_ _=>none⟩
theorem Ry(n:Int)(preT:Int->Int->Prop)(g:Int->Int->Int)(hvc:
 let c1:=Ep n (0:Int);true/\(bC n preT->0<=n/\(Dx 24*n)<=281474976710656/\n<=9223372036854775807/\(∃x,upto x n/\n=n/\AV.clo2 (Ty.int .i64) (Ty.int .i64) (Ty.int .i64) preT g=AV.clo2 (Ty.int IntKind.i64) (Ty.int .i64) (Ty.int .i64) preT g/\Value.slice none 0 0=Value.slice none 0 0/\Dc n=Dc n/\n=n/\0=x/\Ep n (Dt Int)=cD g n x/\True)/\∀(x:Int),let c2:=Dj (cD g n x);let c3:=x+1;upto x n->(Dp x n->0<=n/\(Dx 8*n)<=281474976710656/\n<=9223372036854775807/\c2=Dc n/\0<=x/\x<Dx c2/\c2=Dc n/\Dj c1=Dc n/\(∃x_3,upto x_3 n/\n=n/\AV.clo2 (Ty.int .i64) (Ty.int .i64) (Ty.int .i64) preT g=AV.clo2 (Ty.int .i64) (Ty.int .i64) (Ty.int .i64) preT g/\Value.slice none 0 0=Value.slice none 0 0/\Dc n=Dc n/\x=x/\n=n/\x=x/\n=n/\0=x_3/\cD g n x=cD g n x/\Dc x=Dc x/\Dc n=Dc n/\c1=qj g n x x_3/\True)/\∀(x_3:Int),let c4:=qj g n x x_3;let c5:=Dj c4;let c6:=x_3+1;
 upto x_3 n->(Dp x_3 n->c2=Dc n/\0<=x/\x<Dx c2/\c2=Dc n/\Dc x=Dc x/\preT x x_3/\c5=Dc n/\0<=x_3/\x_3<Dx c5/\c5=Dc n/\inR .i64 c6/\∃y,upto y n/\(n=n/\AV.clo2 (Ty.int .i64) (Ty.int .i64) (Ty.int .i64) preT g=AV.clo2 (Ty.int .i64) (Ty.int .i64) (Ty.int .i64) preT g/\Value.slice none 0 0=Value.slice none 0 0/\Dc n=Dc n/\x=x/\n=n/\x=x/\n=n/\c6=y/\cD g n x=cD g n x/\Dc x=Dc x/\Dc n=Dc n/\En c4 (Dc x_3) (g x x_3)=qj g n x y/\True)/\Dc (n-y)<Dc (n-x_3))/\(Dp x_3 n=false->inR .i64 c3/\∃y,upto y n/\(n=n/\AV.clo2 (Ty.int .i64) (Ty.int .i64) (Ty.int .i64) preT g=AV.clo2 (Ty.int .i64) (Ty.int .i64) (Ty.int IntKind.i64) preT g/\Value.slice none 0 0=Value.slice none 0 0/\Dc n=Dc n/\n=n/\c3=y/\c5=Dc n/\En (cD g n x) (Dc x) c4=cD g n y/\True)/\Dc (n-y)<Dc (n-x)))/\(Dp x n=false->c2=Dc n/\cD g n x=aL g n/\True))):
  evF c0 (lvA [(3,[0,1,4,5,6,7,10,11,19,20]),(7,[0,1,4,5,6,7,10,11,19,20])] (aCm n g)) 213 [.dat I n,.clo2 I I I preT g] [] ⟨bC n preT,.dat M (aL g n),[]⟩:=oE hvc
theorem ze{α:Type}(xs:List α)(d v:α)(k:Nat)(hk:xs[k]?=some v): (xs.take k++List.replicate (xs.length-k) d).set k v=xs.take (k+1)++List.replicate (xs.length-(k+1)) d:=by
 obtain⟨h,e⟩:=qF.1 hk;have e2:xs.length-k=(xs.length-(k+1))+1:=by omega
 rw[e2,qBh,List.set_append_right _ _ (by simp;omega)];simp[wW,hk,yY (Nat.le_of_lt h)]
theorem fS(g:Int->Int->Int)(n:Int): (aL g n).length=n.toNat:=by simp[aL]
theorem lH(g:Int->Int->Int)(n x:Int)(h:upto x n): (cD g n x).length=n.toNat:=by
 have:=h.1;have:=h.2;simp only[cD,qG,qI,wJ,fS];omega
theorem mx(g:Int->Int->Int)(n i x:Int)(h:upto x n): (qj g n i x).length=n.toNat:=by
 have:=h.1;have:=h.2;simp only[qj,qG,qI,wJ,vW,wC];omega
theorem mr(g:Int->Int->Int)(n:Int): cD g n 0=List.replicate n.toNat []:=by simp[cD]
theorem sF(g:Int->Int->Int)(n i:Int): qj g n i 0=List.replicate n.toNat 0:=by simp[qj]
theorem sG(g:Int->Int->Int)(n i j:Int)(h0:0<=j)(h1:j<n): (qj g n i j).set j.toNat (g i j)=qj g n i (j+1):=by
 have e:(j+1).toNat=j.toNat+1:=by omega
 have:=ze ((List.range n.toNat).map λj:Nat=>g i j) 0 (g i j) j.toNat (by
  rw[qP,vV (by omega)];simp[qU h0])
 simp only[vW,wC]at this;unfold qj;rw[e];exact this
theorem Ti(g:Int->Int->Int)(n i j:Int)(h:upto j n)(h1:¬j<n): qj g n i j=(List.range n.toNat).map λj:Nat=>g i j:=by
 have:=h.1;have:=h.2;have e:j.toNat=n.toNat:=by omega
 unfold qj;rw[e,qO (by simp)];simp
theorem py(g:Int->Int->Int)(n i j:Int)(h0:0<=i)(h1:i<n)(h:upto j n)(h2:¬j<n): (cD g n i).set i.toNat (qj g n i j)=cD g n (i+1):=by
 have e:(i+1).toNat=i.toNat+1:=by omega
 rw[Ti g n i j h h2];have:=ze (aL g n) [] ((List.range n.toNat).map λj:Nat=>g i j) i.toNat (by
  unfold aL;rw[qP,vV (by omega)];simp[qU h0])
 rw[fS]at this;unfold cD;rw[e];exact this
theorem sE(g:Int->Int->Int)(n i:Int)(h:upto i n)(h1:¬i<n): cD g n i=aL g n:=by
 have:=h.1;have:=h.2;have e:i.toNat=n.toNat:=by omega
 unfold cD;rw[e,qO (by rw[fS];exact qJ _)];simp
theorem Yu(n:Int)(preT:Int->Int->Prop)(g:Int->Int->Int): af Tryz.prog G0 213 [.dat I n,.clo2 I I I preT g] [] ⟨bC n preT,.dat M (aL g n),[]⟩:=by
 refine ae (c:=c0) KS0 aJ hm (Ry n preT g ⟨rfl,λhp=>?_⟩);obtain⟨p1,p2,p3⟩:=hp;refine⟨p1,by simp only[Dx];omega,by omega,⟨0,⟨by omega,.inr rfl⟩,?_⟩,λx hx=>⟨λhlt=>?_,λhge=>?_⟩⟩
 .simp[mr]
 .have hlt:x<n:=by simpa using hlt
  have h0:=hx.1;have hl:=lH g n x hx;refine⟨p1,by simp only[Dx];omega,by omega,hl,h0,by simp only[Dx,Dj];omega,hl,by simp,⟨0,⟨by omega,.inr rfl⟩,?_⟩,λy hy=>⟨λhlt2=>?_,λhge=>?_⟩⟩
  .simp[sF]
  .have hlt2:y<n:=by simpa using hlt2
   have h2:=hy.1;have hl2:=mx g n x y hy;refine⟨hl,h0,by simp only[Dx,Dj];omega,hl,rfl,p3 x y h0 hlt h2 hlt2,hl2,h2,by simp only[Dx,Dj];omega,hl2,by simp only[inR];omega,y+1,⟨by omega,.inl (by omega)⟩,?_,?_⟩
   .simp[sG g n x y h2 hlt2]
   .simp only[Dc];omega
  .have hge:¬y<n:=by simpa using hge
   refine⟨by simp only[inR];omega,x+1,⟨by omega,.inl (by omega)⟩,?_,?_⟩
   .simp[py g n x y h0 hlt hy hge,mx g n x y hy]
   .simp only[Dc];omega
 .have hge:¬x<n:=by simpa using hge
  exact⟨lH g n x hx,sE g n x hx hge,trivial⟩
def mV(m:Lj)(row:Li): Bool:=decide ((row.length:Int)≠m.length)||mS row
def ax(m:Lj): Bool:=!decide ((m.length:Int)>40)&&!m.any (mV m)
def Qa(m:Lj)(k:Int): Prop:=0<=k/\k<=m.length/\m.length<=40/\(m.take k.toNat).any (mV m)=false
def oM(i j:Int)(a:Lj): Prop:=0<=i/\i<(a.length:Int)/\idx j (a.getD i.toNat [])
def at2(a:Lj)(i j:Int): Int:=(a.getD i.toNat []).getD j.toNat 0
def diag(m:Lj)(k:Int): Bool:=decide (at2 m k k>0)
def fq(m:Lj): Bool:=iN dO (diag m) false m.length
def V4(m:Lj): Prop:=hC m.length (λ_ _=>True) (λk=>oM k k m) (diag m)
def lC(m:Lj)(i j:Int): Int:=bif decide (i=j)then iF 0 (at2 m i j)else iF (-1099511627776) (at2 m i j)
def ng(m:Lj)(k i j:Int): Int:=iF (at2 m i j) (iY (at2 m i k) (at2 m k j))
def AG(m:Lj)(k i j:Int): Prop:=oM i j m/\oM i k m/\oM k j m/\r7 (at2 m i k) (at2 m k j)
def K4: Kt:=λf args m=>match f,args,m with
 | 259,[.dat (.sl (.int .i64)) row],[]=>some ⟨N8 row,.dat .bool (mS row),[]⟩
 | _,_,_=>K3 f args m
def c4: Cfg:=Sv.mkc K4
def GX(m:Lj): Ann:=⟨λid s=>match id with
 | 4=>some {α:=Int,inv:=λk=>Qa m k,st:=λk=>put s [(10,.dat I k)],μ:=λk=>Dc (Dh (Df m) k)}
 | _=>none,λ_ _=>none,λ_ _=>none⟩
theorem xd(m:Lj)(hvc:
 let c1:=Ei (Df m) 40;true/\(True->(c1->false=ax m/\True)/\(c1=false->(∃x,Qa m x/\m=m/\m=m/\Df m=Df m/\0=x/\True)/\∀(x:Int),let c2:=Dp x (Df m);let c3:=Du m (Dc x) [];let c4:=Ec (Df c3) (Df m);let c5:=Di c4;let c6:=Dz c4 true (mS c3);let c7:=x+1;Qa m x->(c2->0<=x/\x<Df m/\(c5->c5->c5)/\(c5->N8 c3)/\(Dk true c5->c5)/\(c6->false=ax m/\True)/\(c6=false->inR .i64 c7/\∃y,Qa m y/\(m=m/\m=m/\Df m=Df m/\c7=y/\True)/\Dc (Df m-y)<Dc (Df m-x)))/\(c2=false->true=ax m/\True)))):
  evF c4 (lvA [(4,[0,2,4,8,9,10])] (GX m)) 212 [.dat M m] [] ⟨True,.dat .bool (ax m),[]⟩:=oE hvc
theorem Xc(k:Int)(m:Lj)(hvc:
 let c1:=Du m (Dc k) [];true/\(oM k k m->0<=k/\k<Df m/\0<=k/\k<Df c1/\Ei (Du c1 (Dc k) 0) 0=diag m k/\True)):
  evF c4 aA 263 [.dat I k,.ip M m] [] ⟨oM k k m,.dat .bool (diag m k),[]⟩:=oE hvc
theorem QJ(i j:Int)(m:Lj)(hvc:
 let c1:=Du m (Dc i) [];let c2:=Du c1 (Dc j) 0;true/\(oM i j m->(Ea i j->0<=i/\i<Df m/\0<=j/\j<Df c1/\True/\iF 0 c2=lC m i j/\True)/\(Ea i j=false->0<=i/\i<Df m/\0<=j/\j<Df c1/\True/\iF (-1099511627776) c2=lC m i j/\True))):
  evF c4 aA 214 [.dat I i,.dat I j,.ip M m] [] ⟨oM i j m,.dat I (lC m i j),[]⟩:=oE hvc
theorem QI(k i j:Int)(m:Lj)(hvc:
 let c1:=Du m (Dc i) [];let c2:=Df c1;let c3:=Du m (Dc k) [];let c4:=Du c1 (Dc k) 0;let c5:=Du c3 (Dc j) 0;true/\(AG m k i j->0<=i/\i<Df m/\0<=j/\j<c2/\0<=i/\i<Df m/\0<=k/\k<c2/\0<=k/\k<Df m/\0<=j/\j<Df c3/\r7 c4 c5/\True/\iF (Du c1 (Dc j) 0) (iY c4 c5)=ng m k i j/\True)):
  evF c4 aA 217 [.dat I i,.dat I j,.ip M m,.ip I k] [] ⟨AG m k i j,.dat I (ng m k i j),[]⟩:=oE hvc
theorem KS4: ak Tryz.prog G0 K4:=by
 intro f args m c h;unfold K4 at h;split at h
 .cases h;exact Yl _
 .exact KS3 _ _ _ _ h
theorem NJ{m:Lj}(h:¬(m.length:Int)>40): Qa m 0:=⟨by omega,by omega,by omega,by simp⟩
theorem HC{m:Lj}{k:Int}(h:Qa m k)(hk:k<m.length): m.getD k.toNat []∈m/\m.take (k+1).toNat=m.take k.toNat++[m.getD k.toNat []]:=by
 have h0:=h.1;have hlt:k.toNat<m.length:=by omega
 have e:(k+1).toNat=k.toNat+1:=by omega
 rw[qA,qB hlt,e];exact⟨wM hlt,by rw[wW,qB hlt];rfl⟩
theorem NK{m:Lj}{k:Int}(h:Qa m k)(hk:k<m.length)(hr:mV m (m.getD k.toNat [])=false): Qa m (k+1):=by
 obtain⟨h0,h1,h2,h3⟩:=h;refine⟨by omega,by omega,h2,?_⟩;rw[(HC ⟨h0,h1,h2,h3⟩ hk).2,List.any_append,h3,qDv,hr];rfl
theorem I1{m:Lj}{k:Int}(h:Qa m k)(hk:k<m.length)(hr:mV m (m.getD k.toNat [])=true): ax m=false:=by
 unfold ax;have:m.any (mV m)=true:=xZ.2 ⟨_,(HC h hk).1,hr⟩;rw[this];simp
theorem I0{m:Lj}{k:Int}(h:Qa m k)(hk:¬k<m.length): ax m=true:=by
 obtain⟨h0,h1,h2,h3⟩:=h;unfold ax;have e:k.toNat=m.length:=by omega
 rw[e,xC]at h3;rw[h3];have:¬((m.length:Int)>40):=by omega
 simp only[this,kL];rfl
theorem wv(m:Lj)(r:Li): Dz (Ec (Df r) (Df m)) true (mS r)=mV m r:=by
 unfold mV Dz Ec Df;by_cases h:(r.length:Int)=m.length<;>simp[h]
theorem D9(m:Lj): af Tryz.prog G0 212 [.dat M m] [] ⟨True,.dat .bool (ax m),[]⟩:=by
 refine ae (c:=c4) KS4 aJ hm (xd m ⟨rfl,λ_=>⟨λh=>⟨?_,trivial⟩,λh=>⟨⟨0,NJ (by simpa using h),by simp⟩,λx hx=>⟨λhlt=>?_,λhge=>?_⟩⟩⟩⟩)
 .have:(m.length:Int)>40:=by simpa using h
  unfold ax;simp only[this,qAp];rfl
 .have hlt:x<m.length:=by simpa using hlt
  refine⟨hx.1,hlt,λ_ h=>h,λhne=>?_,λh=>?_,λhb=>⟨?_,trivial⟩,λhb=>⟨?_,x+1,?_,by simp,?_⟩⟩
  .have:((m.getD x.toNat []).length:Int)=m.length:=by simpa using hne
   have:=hx.2.2.1;show((m.getD x.toNat []).length:Int)<=_;omega
  .simpa using h
  .rw[wv m]at hb;exact(I1 hx hlt hb).symm
  .have:=hx.2.2.1;have:=hx.1;simp only[inR];omega
  .rw[wv m]at hb;exact NK hx hlt hb
  .have:=hx.1;simp only[Dc,Df];omega
 .have hge:¬x<m.length:=by simpa using hge
  exact⟨(I0 hx hge).symm,trivial⟩
theorem aBt(k:Int)(m:Lj): af Tryz.prog G0 263 [.dat I k,.ip M m] [] ⟨oM k k m,.dat .bool (diag m k),[]⟩:=
 ae (c:=c4) KS4 aJ hm (Xc k m ⟨rfl,λh1=>⟨h1.1,h1.2.1,h1.2.2.1,h1.2.2.2,rfl,trivial⟩⟩)
theorem Yp(i j:Int)(m:Lj): af Tryz.prog G0 214 [.dat I i,.dat I j,.ip M m] [] ⟨oM i j m,.dat I (lC m i j),[]⟩:=
 ae (c:=c4) KS4 aJ hm (QJ i j m ⟨rfl,λh1=>⟨λe=>⟨h1.1,h1.2.1,h1.2.2.1,h1.2.2.2,trivial,by
   have e:i=j:=by simpa using e
   simp[lC,e,at2],trivial⟩,
  λe=>⟨h1.1,h1.2.1,h1.2.2.1,h1.2.2.2,trivial,by
   have e:¬i=j:=by simpa using e
   simp[lC,e,at2],trivial⟩⟩⟩)
theorem Yo(k i j:Int)(m:Lj): af Tryz.prog G0 217 [.dat I i,.dat I j,.ip M m,.ip I k] [] ⟨AG m k i j,.dat I (ng m k i j),[]⟩:=
 ae (c:=c4) KS4 aJ hm (QI k i j m ⟨rfl,λ⟨h1,h2,h3,h4⟩=>⟨h1.1,h1.2.1,h1.2.2.1,h1.2.2.2,h2.1,h2.2.1,h2.2.2.1,h2.2.2.2,h3.1,h3.2.1,h3.2.2.1,h3.2.2.2,h4,trivial,rfl,trivial⟩⟩)
theorem vo(n:Int){f:FuncId}{caps:List AV}(preT:Int->Int->Prop)(g:Int->Int->Int)(hg:goes Tryz.prog f=true)(hn:AV.namesL caps=[])(h:∀i j,af Tryz.prog G0 f (.dat I i::.dat I j::caps) [] ⟨preT i j,.dat I (g i j),[]⟩):
  af Tryz.prog G0 213 [.dat I n,.fn f caps] [] ⟨bC n preT,.dat M (aL g n),[]⟩:=
 (Yu n preT g).args λ_ _ hG ⟨_,_,e1,h1,_,_,e2,h2,h3⟩=>⟨_,_,e1,h1,_,_,e2,jL hg hn h hG h2,h3⟩
def K5: Kt:=λf args m=>match f,args,m with
 | 212,[.dat (.sl (.sl (.int .i64))) m],[]=>some ⟨True,.dat .bool (ax m),[]⟩
 | 261,[.dat (.int .i64) n,.dat .bool z,.fn 262 [],.fn 263 [.ip (.sl (.sl (.int .i64))) m]],[]=>some ⟨hC n (λ_ _=>True) (λk=>oM k k m) (diag m),.dat .bool (iN dO (diag m) z n),[]⟩
 | 213,[.dat (.int .i64) n,.fn 214 [.ip (.sl (.sl (.int .i64))) m]],[]=>some ⟨bC n (λi j=>oM i j m),.dat M (aL (lC m) n),[]⟩
 | 213,[.dat (.int .i64) n,.fn 217 [.ip (.sl (.sl (.int .i64))) m,.ip (.int .i64) k]],[]=>some ⟨bC n (AG m k),.dat M (aL (ng m k) n),[]⟩
 | _,_,_=>K4 f args m
def c5: Cfg:=Sv.mkc K5
theorem LI(m:Lj)(hvc:
 true/\(V4 m->hC (Df m) (λx x_1↦True) (λk↦oM k k m) (diag m)/\iN dO (diag m) false (Df m)=fq m/\True)):
  evF c5 aA 216 [.dat M m] [] ⟨V4 m,.dat .bool (fq m),[]⟩:=oE hvc
theorem KS5: ak Tryz.prog G0 K5:=by
 intro f args m c h;unfold K5 at h;split at h
 .cases h;exact D9 _
 .cases h;exact vn _ _ _ _ (by kernel_rfl) rfl (λk=>aBt k _)
 .cases h;exact vo _ _ _ (by kernel_rfl) rfl (λi j=>Yp i j _)
 .cases h;exact vo _ _ _ (by kernel_rfl) rfl (λi j=>Yo _ i j _)
 .exact KS4 _ _ _ _ h
theorem S3(m:Lj): af Tryz.prog G0 216 [.dat M m] [] ⟨V4 m,.dat .bool (fq m),[]⟩:=
 ae (c:=c5) KS5 aJ hm (LI m ⟨rfl,λh=>⟨h,rfl,trivial⟩⟩)
def bT(m:Lj): Nat->Lj
 | 0=>aL (lC m) m.length
 | k+1=>aL (ng (bT m k) k) m.length
def nV(m:Lj)(k:Int): Lj:=bT m k.toNat
def lB(m:Lj): Bool:=(List.range (m.length+1)).any λk=>fq (bT m k)
def AE(m:Lj): Lj×Int:=bif ax m then bif lB m then([],120)else(bT m m.length,0)else([],1)
def dS(m:Lj): Lj:=(AE m).1
def gY(m:Lj): Int:=(AE m).2
def xm(m:Lj): Prop:=m.length<=20
def G6(m:Lj)(k:Int): Prop:=0<=k/\k<=m.length/\ax m=true/\∀j:Nat,(j:Int)<=k->fq (bT m j)=false
def K6: Kt:=λf args m=>match f,args,m with
 | 216,[.dat (.sl (.sl (.int .i64))) m],[]=>some ⟨V4 m,.dat .bool (fq m),[]⟩
 | _,_,_=>K5 f args m
def c6: Cfg:=Sv.mkc K6
def aEm(m:Lj): Ann:=⟨λid s=>match id with
 | 8=>some {α:=Int,inv:=λk=>G6 m k,st:=λk=>put s [(19,.dat I k),(5,.dat M (nV m k))],μ:=λk=>Dc (Dh (Df m) k)}
 | _=>none,λid s=>match id with
 | 11=>some (frz [0,1] s)
 | _=>none,λ_ _=>none⟩
theorem WQ(m:Lj)(hvc:
 let c1:=aL (lC m) (Df m);let c2:=fq c1;true/\(xm m->True/\(Di (ax m)->dS m=Dt (Li)/\1=gY m/\True)/\(Di (ax m)=false->(bC (Df m) λi j↦oM i j m)/\V4 c1/\(c2->dS m=Dt (Li)/\120=gY m/\True)/\(c2=false->(∃x,G6 m x/\Df m=Df m/\c1=nV m x/\Df m=Df m/\0=x/\True)/\∀(x:Int),let c3:=Dp x (Df m);let c4:=aL (ng (nV m x) x) (Df m);let c5:=fq c4;let c6:=x+1;G6 m x->(c3->1=1/\0=0/\1=1/\0=0/\Df m=Df m/\nV m x=nV m x/\1=1/\0=0/\x=x/\1=1/\0=0/\nV m x=nV m x/\Df m=Df m/\x=x/\c3=c3/\x=x/\nV m x=nV m x/\bC (Df m) (AG (nV m x) x)/\V4 c4/\(c5->dS m=Dt (Li)/\120=gY m/\True)/\(c5=false->inR .i64 c6/\∃y,G6 m y/\(Df m=Df m/\c4=nV m y/\Df m=Df m/\c6=y/\True)/\Dc (Df m-y)<Dc (Df m-x)))/\(c3=false->nV m x=dS m/\0=gY m/\True))))):
  evF c6 (lvA [(8,[2,3,4,5,6,7,18,19])] (aEm m)) 145 [.dat M m] [] ⟨xm m,.tup [.dat M (dS m),.dat I (gY m)],[]⟩:=oE hvc
theorem B8{g:Int->Bool}(n:Nat): nB dO g false n=false↔∀k:Nat,k<n->g k=false:=by
 induction n with
 | zero=>simp[nB]
 | succ n ih=>
  simp only[nB,dO,qBe,ih];constructor
  .rintro⟨h1,h2⟩ k hk;by_cases e:k=n
   .subst e;exact h2
   .exact h1 k (by omega)
  .exact λh=>⟨λk hk=>h k (by omega),h n (by omega)⟩
theorem rf{g:Int->Bool}{n:Int}: iN dO g false n=false↔∀k:Int,0<=k->k<n->g k=false:=by
 unfold iN;rw[B8];constructor
 .intro h k h0 h1;have:=h k.toNat (by omega)
  rwa [qU h0]at this
 .exact λh k hk=>h k (by omega) (by omega)
theorem pY{row:Li}: mS row=false↔∀k:Int,0<=k->k<row.length->pP (at1 row k)=true:=by
 unfold mS;rw[rf];simp[ki]
structure Sq (n:Nat) (m:Lj):Prop where
 len:m.length=n
 row:∀i:Int,0<=i->i<n->(m.getD i.toNat []).length=n
theorem Sq.oM {n:Nat} {m:Lj} (h:Sq n m) {i j:Int} (h0:0<=i) (h1:i<n) (h2:0<=j) (h3:j<n):oM i j m:=
 ⟨h0,by rw[h.len];exact h1,h2,by rw[h.row i h0 h1];exact h3⟩
theorem GV{m:Lj}(h:ax m=true): Sq m.length m/\m.length<=40/\∀i j:Int,0<=i->i<m.length->0<=j->j<m.length->pP (at2 m i j)=true:=by
 unfold ax at h;simp only[qC,zK,vN]at h;obtain⟨h1,h2⟩:=h;have hrow:∀i:Int,0<=i->i<m.length->mV m (m.getD i.toNat [])=false:=by
  intro i h0 hi;have hlt:i.toNat<m.length:=by omega
  rw[qAa]at h2;rw[qA,qB hlt];simpa using h2 _ (wM hlt)
 have hr2:∀i:Int,0<=i->i<m.length->(m.getD i.toNat []).length=m.length/\mS (m.getD i.toNat [])=false:=by
  intro i h0 hi;have:=hrow i h0 hi;unfold mV at this;simp only[qBe,vN,ne_eq,qBv]at this;exact⟨by have:=this.1;omega,this.2⟩
 refine⟨⟨rfl,λi h0 hi=>(hr2 i h0 hi).1⟩,by omega,λi j h0 hi h3 hj=>?_⟩;obtain⟨g1,g2⟩:=hr2 i h0 hi;exact pY.1 g2 j h3 (by rw[g1];exact hj)
theorem pV(g:Int->Int->Int)(n:Nat)(i:Int)(h0:0<=i)(hi:i<n): (aL g n).getD i.toNat []=(List.range n).map λj:Nat=>g i j:=by
 unfold aL;simp only[vC];rw[qA,qP,vV (by omega)];simp[qU h0]
theorem uw(g:Int->Int->Int)(n:Nat): Sq n (aL g n):=⟨by simp[aL],λi h0 hi=>by rw[pV g n i h0 hi];simp⟩
theorem fU(g:Int->Int->Int)(n:Nat)(i j:Int)(h0:0<=i)(hi:i<n)(h1:0<=j)(hj:j<n): at2 (aL g n) i j=g i j:=by
 unfold at2;rw[pV g n i h0 hi,qA,qP,vV (by omega)];simp[qU h1]
theorem KS6: ak Tryz.prog G0 K6:=by
 intro f args m c h;unfold K6 at h;split at h
 .cases h;exact S3 _
 .exact KS5 _ _ _ _ h
theorem ja(m:Lj)(k:Nat): Sq m.length (bT m k):=by
 cases k<;>exact uw _ _
def bd(k:Nat): Int:=((1099511627776*2 ^ k:Nat):Int)
theorem aCq(k:Nat): 1099511627776<=bd k:=by
 unfold bd;have:1<=2 ^ k:=Nat.one_le_two_pow;omega
theorem Zq(k:Nat): bd (k+1)=2*bd k:=by
 unfold bd;rw[Nat.pow_succ];omega
theorem Wa{k:Nat}(h:k<=20): bd k<=1152921504606846976:=by
 unfold bd;have:=Nat.pow_le_pow_right (n:=2) (by omega) h;omega
theorem Tq{x y b:Int}(hb:1099511627776<=b)(hx:-b<=x/\x<=b)(hy:-b<=y/\y<=b): -b<=iF x y/\iF x y<=b:=by
 unfold iF;cases cZ x&&cZ y
 .simp only[qAn];omega
 .simp only[qAm];omega
theorem LU{x y b:Int}(hb:1099511627776<=b)(hx:-b<=x/\x<=b)(hy:-b<=y/\y<=b): -(2*b)<=iY x y/\iY x y<=2*b:=by
 unfold iY;cases cZ x||cZ y
 .simp only[qAn];omega
 .simp only[qAm];omega
theorem Hv{c x:Int}(hc:-1099511627776<=c/\c<=0)(hx:pP x=true): -1099511627776<=iF c x/\iF c x<=1099511627776:=by
 unfold iF;cases h:cZ x
 .simp only[pP,h,xX,qC,qE]at hx;simp only[xJ,qAn];omega
 .simp only[cZ,qE]at h;cases cZ c&&true
  .simp only[qAn];omega
  .simp only[qAm];omega
theorem mh{m:Lj}(h:ax m=true): ∀(k:Nat),k<=m.length->∀i j:Int,0<=i->i<m.length->0<=j->j<m.length->-(bd k)<=at2 (bT m k) i j/\at2 (bT m k) i j<=bd k
 | 0,_,i,j,h0,hi,h1,hj=>by
  have e:=(GV h).2.2 i j h0 hi h1 hj;show -(bd 0)<=at2 (aL (lC m) m.length) i j/\at2 (aL (lC m) m.length) i j<=bd 0;rw[fU _ _ _ _ h0 hi h1 hj];have e0:bd 0=1099511627776:=rfl;rw[e0];unfold lC;cases decide (i=j)
  .exact Hv (c:=-1099511627776) (by omega) e
  .exact Hv (c:=0) (by omega) e
 | k+1,hk,i,j,h0,hi,h1,hj=>by
  show -(bd (k+1))<=at2 (aL (ng (bT m k) k) m.length) i j/\at2 (aL (ng (bT m k) k) m.length) i j<=bd (k+1);rw[fU _ _ _ _ h0 hi h1 hj,Zq];have hb:=aCq k;have g1:=mh h k (by omega) i j h0 hi h1 hj;have g2:=mh h k (by omega) i k h0 hi (by omega) (by omega);have g3:=mh h k (by omega) k j (by omega) (by omega) h1 hj;exact Tq (by omega) (by omega) (LU hb g2 g3)
theorem aB9{n:Nat}{m:Lj}(h:Sq n m)(hn:n<=20): V4 m:=
 ⟨by rw[h.len];omega,λk h0 hk=>⟨h.oM h0 (by rw[<- h.len];exact hk) h0 (by rw[<- h.len];exact hk),λ_=>trivial⟩⟩
theorem I8{m:Lj}(k:Nat)(hk:k<=m.length)(h:fq (bT m k)=true): lB m=true:=
 xZ.2 ⟨k,qX.2 (by omega),h⟩
theorem aBm(m:Lj): af Tryz.prog G0 145 [.dat M m] [] ⟨xm m,.tup [.dat M (dS m),.dat I (gY m)],[]⟩:=by
 refine ae (c:=c6) KS6 aJ hm (WQ m ⟨rfl,λhp=>⟨trivial,λh=>?_,λh=>?_⟩⟩)
 .have h:ax m=false:=by simpa using h
  simp[dS,gY,AE,h]
 .have h:ax m=true:=by simpa using h
  unfold xm at hp;obtain⟨sq,_,el⟩:=GV h;have sK:∀k:Nat,V4 (bT m k):=λk=>aB9 (ja m k) hp
  have bad:∀k:Nat,k<=m.length->fq (bT m k)=true->dS m=[]/\(120:Int)=gY m/\True:=λk hk hc=>by
   have:=I8 k hk hc;simp[dS,gY,AE,h,this]
  refine⟨⟨by simp only[Df];omega,by simp only[Df];omega,λi j h0 hi h1 hj=>sq.oM h0 hi h1 hj⟩,sK 0,bad 0 (by omega),λh0=>⟨⟨0,⟨by omega,by omega,h,λj hj=>?_⟩,?_⟩,λx hx=>⟨λhlt=>?_,λhge=>?_⟩⟩⟩
  .have:j=0:=by omega
   subst this;exact h0
  .simp only[zS,vP];rfl
  .have hlt:x<m.length:=by simpa using hlt
   obtain⟨g0,g1,g2,g3⟩:=hx;have ex:nV m x=bT m x.toNat:=rfl;have es:aL (ng (nV m x) x) (Df m)=bT m (x.toNat+1):=by
    rw[ex];show aL (ng (bT m x.toNat) x) m.length=aL (ng (bT m x.toNat) (x.toNat:Int)) m.length;rw[qU g0]
   rw[es];simp only[zS,vP];refine⟨⟨by simp only[Df];omega,by simp only[Df];omega,λi j h0 hi h1 hj=>?_⟩,sK _,λhc=>by simpa using bad (x.toNat+1) (by omega) hc,λhc=>⟨by simp only[inR];omega,x+1,⟨by omega,by omega,h,λj hj=>?_⟩,⟨?_,rfl⟩,?_⟩⟩
   .rw[ex];have sN:=ja m x.toNat;refine⟨sN.oM h0 hi h1 hj,sN.oM h0 hi g0 hlt,sN.oM g0 hlt h1 hj,λ_ _=>?_⟩;have b1:=mh h x.toNat (by omega) i x h0 hi g0 hlt;have b2:=mh h x.toNat (by omega) x j g0 hlt h1 hj;have b3:=Wa (k:=x.toNat) (by omega);simp only[inR];omega
   .by_cases e:(j:Int)<=x
    .exact g3 j e
    .have:j=x.toNat+1:=by omega
     rw[this];exact hc
   .show bT m (x.toNat+1)=bT m (x+1).toNat;rw[show(x+1).toNat=x.toNat+1 by omega]
   .simp only[Dc,Df];omega
  .have hge:¬x<m.length:=by simpa using hge
   obtain⟨g0,g1,g2,g3⟩:=hx;have hb:lB m=false:=by
    unfold lB;rw[qAa];intro k hk;have:=g3 k (by have:=qX.1 hk;omega);simp[this]
   have e:x.toNat=m.length:=by omega
   have:AE m=(bT m m.length,0):=by simp[AE,h,hb]
   refine⟨?_,?_,trivial⟩
   .unfold dS;rw[this];show bT m x.toNat=_;rw[e]
   .unfold gY;rw[this]
end Go.Eng.Mp
namespace Go.Eng.Mp
def le(z x:Int): Prop:=cZ x=false/\z<=x
def Il(x:Int): Prop:=x=-1099511627776\/cZ x=false
theorem iq{x:Int}: cZ x=false↔-549755813888<x:=by
 simp only[cZ,vN];omega
theorem le_iff{z x:Int}: le z x↔-549755813888<x/\z<=x:=by unfold le;rw[iq]
theorem Ob{y z x:Int}(h:y<=z)(hz:le z x): le y x:=⟨hz.1,by have:=hz.2;omega⟩
theorem yx{x:Int}(h:cZ x=false): le x x:=⟨h,by omega⟩
theorem lR{z x y:Int}: le z (iF x y)↔le z x\/le z y:=by
 simp only[le_iff,iF,cZ,Bool.cond_eq_ite,qC,qE];split<;>omega
theorem pT(x y:Int): Il (iF x y):=by
 simp only[Il,iq];simp only[iF,cZ,Bool.cond_eq_ite,qC,qE];split<;>omega
theorem HL{z x y:Int}(h:cZ x=false->cZ y=false->-549755813888<x+y): le z (iY x y)↔∃u v,le u x/\le v y/\z<=u+v:=by
 constructor
 .intro hz;simp only[iq]at h;simp only[le_iff,iY,cZ,Bool.cond_eq_ite,yE,qE]at hz;split at hz
  .omega
  .exact⟨x,y,le_iff.2 ⟨by omega,by omega⟩,le_iff.2 ⟨by omega,by omega⟩,hz.2⟩
 .rintro⟨u,v,hu,hv,hz⟩;have:=h hu.1 hv.1;simp only[le_iff]at hu hv;simp only[le_iff,iY,cZ,Bool.cond_eq_ite,yE,qE];split<;>omega
theorem Ud{g:Int->Int}{z:Int}: ∀n:Nat,le z (nB iF g (-1099511627776) n)↔∃k:Nat,k<n/\le z (g k)
 | 0=>by simp[nB,le,cZ]
 | n+1=>by
  simp only[nB,lR,Ud n];constructor
  .rintro(⟨k,hk,h⟩ | h)
   .exact⟨k,by omega,h⟩
   .exact⟨n,by omega,h⟩
  .rintro⟨k,hk,h⟩;by_cases e:k=n
   .subst e;exact .inr h
   .exact .inl ⟨k,by omega,h⟩
structure Bd (n:Nat) (L:Int) (m:Lj):Prop where
 sq:Sq n m
 le:n<=40
 el:∀i j:Int,0<=i->i<n->0<=j->j<n->cZ (at2 m i j)=false->-L<=at2 m i j/\at2 m i j<=L
theorem Bd.up {n:Nat} {L L':Int} {m:Lj} (h:Bd n L m) (hl:L<=L'):Bd n L' m:=
 ⟨h.sq,h.le,λi j h0 hi h1 hj hf=>by have:=h.el i j h0 hi h1 hj hf;omega⟩
abbrev In(n:Nat)(i:Int): Prop:=0<=i/\i<(n:Int)
def PW(m:Lj)(p:Nat->Int): Nat->Int->Prop
 | 0,z=>z<=0
 | k+1,z=>∃u v,PW m p k u/\le v (at2 m (p k) (p (k+1)))/\z<=u+v
section
variable {m:Lj} {p q:Nat->Int}
theorem PW.down:∀{k:Nat} {y z:Int},PW m p k z->y<=z->PW m p k y
 | 0,_,_,h,hy=>qAv hy h
 | _+1,_,_,⟨u,v,h1,h2,h3⟩,hy=>⟨u,v,h1,h2,by omega⟩
theorem PW.congr:∀{k:Nat} {z:Int},(∀t,t<=k->p t=q t)->PW m p k z->PW m q k z
 | 0,_,_,h=>h
 | k+1,_,e,⟨u,v,h1,h2,h3⟩=>⟨u,v,PW.congr (λt ht=>e t (by omega)) h1,by rw[<- e k (by omega),<- e (k+1) (by omega)];exact h2,h3⟩
theorem PW.split (a:Nat):∀(b:Nat) {z:Int},PW m p (a+b) z->∃u v,PW m p a u/\PW m (λt=>p (a+t)) b v/\z<=u+v
 | 0,z,h=>⟨z,0,h,qL _,by omega⟩
 | b+1,z,⟨u,v,h1,h2,h3⟩=>by
  obtain⟨u',v',g1,g2,g3⟩:=PW.split a b h1;exact⟨u',v'+v,g1,⟨v',v,g2,h2,qL _⟩,by omega⟩
def glue(p q:Nat->Int)(a:Nat): Nat->Int:=λt=>if t<=a then p t else q (t-a)
theorem lU{a t:Nat}(h:t<=a): glue p q a t=p t:=if_pos h
theorem jj{a b:Nat}(e:p a=q 0): glue p q a (a+b)=q b:=by
 unfold glue;split
 .have:b=0:=by omega
  subst this;simpa using e
 .congr 1;omega
theorem PW.join {a:Nat} {u:Int} (h:PW m p a u) (e:p a=q 0):∀(b:Nat) {v:Int},PW m q b v->PW m (glue p q a) (a+b) (u+v)
 | 0,v,hv=>by
  have hv:v<=0:=hv;exact(h.congr (λt ht=>(lU ht).symm)).down (by omega)
 | b+1,v,⟨x,y,h1,h2,h3⟩=>by
  refine⟨u+x,y,PW.join h e b h1,?_,by omega⟩;show le y (at2 m (glue p q a (a+b)) (glue p q a (a+(b+1))));rw[jj e,jj e];exact h2
def W(m:Lj)(n:Nat)(t:Int)(k:Nat)(i j z:Int): Prop:=
 ∃p:Nat->Int,p 0=i/\p k=j/\(∀s,s<=k->In n (p s))/\(∀s,0<s->s<k->p s<t)/\PW m p k z
variable {n:Nat} {t:Int}
theorem W.ins {k:Nat} {i j z:Int} (h:W m n t k i j z):In n i/\In n j:=by
 obtain⟨p,rfl,rfl,h,_⟩:=h;exact⟨h 0 (by omega),h k (by omega)⟩
theorem W.zero {i z:Int} (hi:In n i) (hz:z<=0):W m n t 0 i i z:=⟨λ_=>i,rfl,rfl,λ_ _=>hi,λs h1 h2=>by omega,hz⟩
theorem W.one {i j z:Int} (hi:In n i) (hj:In n j) (h:le z (at2 m i j)):W m n t 1 i j z:=
 ⟨λs=>if s=0 then i else j,rfl,rfl,λs _=>by show In n (if s=0 then i else j);split<;>assumption,λs h1 h2=>by omega,0,z,qL _,h,by omega⟩
theorem W.down {k:Nat} {i j y z:Int} (h:W m n t k i j z) (hy:y<=z):W m n t k i j y:=by
 obtain⟨p,h1,h2,h3,h4,h5⟩:=h;exact⟨p,h1,h2,h3,h4,h5.down hy⟩
theorem W.mono {t':Int} {k:Nat} {i j z:Int} (h:W m n t k i j z) (ht:t<=t'):W m n t' k i j z:=by
 obtain⟨p,h1,h2,h3,h4,h5⟩:=h;exact⟨p,h1,h2,h3,λs s1 s2=>by have:=h4 s s1 s2;omega,h5⟩
theorem W.all {k:Nat} {i j z:Int} (h:W m n t k i j z):W m n n k i j z:=by
 obtain⟨p,h1,h2,h3,h4,h5⟩:=h;exact⟨p,h1,h2,h3,λs s1 s2=>(h3 s (by omega)).2,h5⟩
theorem W.trans {a b:Nat} {i l j u v:Int} (h:W m n t a i l u) (h':W m n t b l j v) (hl:l<t):W m n t (a+b) i j (u+v):=by
 obtain⟨p,h1,h2,h3,h4,h5⟩:=h;obtain⟨q,g1,g2,g3,g4,g5⟩:=h';have e:p a=q 0:=by rw[h2,g1]
 refine⟨glue p q a,by rw[lU (by omega)];exact h1,by rw[jj e];exact g2,λs hs=>?_,λs s1 s2=>?_,h5.join e b g5⟩
 .by_cases h:s<=a
  .rw[lU h];exact h3 s h
  .rw[show s=a+(s-a) by omega,jj e];exact g3 _ (by omega)
 .by_cases h:s<a
  .rw[lU (by omega)];exact h4 s s1 h
  .by_cases h':s=a
   .subst h';rw[lU (by omega),h2];exact hl
   .rw[show s=a+(s-a) by omega,jj e];exact g4 _ (by omega) (by omega)
theorem W.trans' {a b:Nat} {i l j u v:Int} (h:W m n n a i l u) (h':W m n n b l j v):W m n n (a+b) i j (u+v):=h.trans h' h.ins.2.2
theorem VJ: ∀(n:Nat) (f:Nat->Nat),(∀i,i<=n->f i<n)->∃a b,a<b/\b<=n/\f a=f b
 | 0,f,h=>by have:=h 0 (by omega);omega
 | n+1,f,h=>by
  by_cases he:∃i,i<=n/\f i=f (n+1)
  .obtain⟨i,hi,e⟩:=he;exact⟨i,n+1,by omega,by omega,e⟩
  .have hne:∀i,i<=n->f i≠f (n+1):=λi hi e=>he ⟨i,hi,e⟩
   have hl:=h (n+1) (by omega);obtain⟨a,b,h1,h2,h3⟩:=VJ n (λi=>if f i=n then f (n+1)else f i) (λi hi=>by
    have h1:=h i (by omega);have h2:=hne i hi;show(if f i=n then f (n+1)else f i)<n;split<;>omega)
   have ha:=hne a (by omega);have hb:=hne b (by omega);refine⟨a,b,h1,by omega,?_⟩;have h3:(if f a=n then f (n+1)else f a)=(if f b=n then f (n+1)else f b):=h3;split at h3<;>split at h3<;>omega
theorem W.short:∀(k:Nat) {i j z:Int},W m n t k i j z->∃k' z',k'<n/\W m n t k' i j z'/\((∀k x u,W m n t k x x u->u<=0)->z<=z')
 | k,i,j,z,h=>by
  by_cases hk:k<n
  .exact⟨k,z,hk,h,λ_=>qL _⟩
  .obtain⟨p,h1,h2,h3,h4,h5⟩:=h;obtain⟨a,b,hab,hbn,e⟩:=VJ n (λs=>(p s).toNat) (λs hs=>by have:=h3 s (by omega);omega);have e:(p a).toNat=(p b).toNat:=e;have e:p a=p b:=by have:=h3 a (by omega);have:=h3 b (by omega);omega
   have h5':PW m p (a+(k-a)) z:=by rw[show a+(k-a)=k by omega];exact h5
   obtain⟨u1,w,q1,q2,q3⟩:=PW.split a (k-a) h5';have q2':PW m (λt=>p (a+t)) ((b-a)+(k-b)) w:=by rw[show(b-a)+(k-b)=k-a by omega];exact q2
   obtain⟨u2,u3,r1,r2,r3⟩:=PW.split (b-a) (k-b) q2';have r2:PW m (λt=>p (b+t)) (k-b) u3:=r2.congr (λt _=>by show p (a+(b-a+t))=p (b+t);congr 1;omega);have closed:W m n t (b-a) (p a) (p a) u2:=
    ⟨λt=>p (a+t),rfl,by show p (a+(b-a))=p a;rw[show a+(b-a)=b by omega,e],λs hs=>h3 _ (by omega),λs s1 s2=>h4 _ (by omega) (by omega),r1⟩
   have ej:p a=(λt=>p (b+t)) 0:=by show p a=p (b+0);rw[yU];exact e
   have hw:W m n t (a+(k-b)) i j (u1+u3):=by
    refine⟨glue p (λt=>p (b+t)) a,by rw[lU (by omega)];exact h1,?_,λs hs=>?_,λs s1 s2=>?_,q1.join ej _ r2⟩
    .rw[jj ej];show p (b+(k-b))=j;rw[show b+(k-b)=k by omega];exact h2
    .by_cases h:s<=a
     .rw[lU h];exact h3 s (by omega)
     .rw[show s=a+(s-a) by omega,jj ej];exact h3 _ (by omega)
    .by_cases h:s<=a
     .rw[lU h];exact h4 s s1 (by omega)
     .rw[show s=a+(s-a) by omega,jj ej];exact h4 _ (by omega) (by omega)
   obtain⟨k',z',w1,w2,w3⟩:=W.short (a+(k-b)) hw;refine⟨k',z',w1,w2,λhc=>?_⟩;have:=w3 hc;have:=hc _ _ _ closed;omega
termination_by k=>k
decreasing_by omega
theorem H6(P:Nat->Prop): ∀k:Nat,P k->∃a,a<=k/\P a/\∀b,b<a->¬P b
 | k,h=>by
  by_cases he:∃b,b<k/\P b
  .obtain⟨b,hb,hp⟩:=he;obtain⟨a,h1,h2,h3⟩:=H6 P b hp;exact⟨a,by omega,h2,h3⟩
  .exact⟨k,by omega,h,λb hb hp=>he ⟨b,hb,hp⟩⟩
termination_by k=>k
decreasing_by omega
theorem W.cut {k:Nat} {i j z:Int} (h:W m n (t+1) k i j z):W m n t k i j z\/∃a b u v,b<k/\W m n t a i t u/\W m n (t+1) b t j v/\z<=u+v:=by
 obtain⟨p,h1,h2,h3,h4,h5⟩:=h;by_cases he:∃s,0<s/\s<k/\p s=t
 .obtain⟨s,s0,s1,s2⟩:=he;obtain⟨a,a1,⟨a2,a3⟩,a4⟩:=H6 (λs=>0<s/\p s=t) s ⟨s0,s2⟩;have h5':PW m p (a+(k-a)) z:=by rw[show a+(k-a)=k by omega];exact h5
  obtain⟨u,v,q1,q2,q3⟩:=PW.split a (k-a) h5';refine .inr ⟨a,k-a,u,v,by omega,⟨p,h1,a3,λs hs=>h3 s (by omega),λs s1 s2=>?_,q1⟩,⟨λs=>p (a+s),a3,?_,λs hs=>h3 _ (by omega),λs s1 s2=>h4 _ (by omega) (by omega),q2⟩,q3⟩
  .have:=h4 s s1 (by omega);have:=a4 s s2;have:p s≠t:=λe=>this ⟨s1,e⟩
   omega
  .show p (a+(k-a))=j;rw[show a+(k-a)=k by omega];exact h2
 .refine .inl ⟨p,h1,h2,h3,λs s1 s2=>?_,h5⟩;have:=h4 s s1 s2;have:p s≠t:=λe=>he ⟨s,s1,s2,e⟩
  omega
theorem PW.low {L:Int} (hm:Bd n L m):∀{k:Nat} {z:Int},(∀s,s<=k->In n (p s))->PW m p k z->PW m p k (-((k:Int)*L))
 | 0,_,_,_=>by show -(((0:Nat):Int)*L)<=0;simp
 | k+1,_,hp,⟨u,v,h1,h2,h3⟩=>by
  have a:=hp k (by omega);have b:=hp (k+1) (by omega);have:=hm.el _ _ a.1 a.2 b.1 b.2 h2.1;refine⟨-((k:Int)*L),-L,PW.low hm (λs hs=>hp s (by omega)) h1,⟨h2.1,by omega⟩,?_⟩;have:((k+1:Nat):Int)*L=(k:Int)*L+L:=by
   rw[Int.natCast_add,Int.add_mul];simp
  omega
theorem W.low {L:Int} (hm:Bd n L m) {k:Nat} {i j z:Int} (h:W m n t k i j z):W m n t k i j (-((k:Int)*L)):=by
 obtain⟨p,h1,h2,h3,h4,h5⟩:=h;exact⟨p,h1,h2,h3,h4,h5.low hm h3⟩
theorem PW.high {L:Int} (hm:Bd n L m):∀{k:Nat} {z:Int},(∀s,s<=k->In n (p s))->PW m p k z->z<=(k:Int)*L
 | 0,z,_,h=>by have h:z<=0:=h;simpa using h
 | k+1,z,hp,⟨u,v,h1,h2,h3⟩=>by
  have a:=hp k (by omega);have b:=hp (k+1) (by omega);have:=hm.el _ _ a.1 a.2 b.1 b.2 h2.1;have:=PW.high hm (λs hs=>hp s (by omega)) h1;have:=h2.2;have:((k+1:Nat):Int)*L=(k:Int)*L+L:=by
   rw[Int.natCast_add,Int.add_mul];simp
  omega
theorem W.high {L:Int} (hm:Bd n L m) {k:Nat} {i j z:Int} (h:W m n t k i j z):z<=(k:Int)*L:=by
 obtain⟨p,h1,h2,h3,h4,h5⟩:=h;exact h5.high hm h3
theorem si(hl:m.length=n){i j:Int}(hi:In n i)(hj:In n j): at2 (bT m 0) i j=lC m i j:=by
 show at2 (aL (lC m) m.length) i j=_;rw[hl];exact fU _ _ _ _ hi.1 hi.2 hj.1 hj.2
theorem xn(hl:m.length=n)(t:Nat){i j:Int}(hi:In n i)(hj:In n j): at2 (bT m (t+1)) i j=ng (bT m t) t i j:=by
 show at2 (aL (ng (bT m t) t) m.length) i j=_;rw[hl];exact fU _ _ _ _ hi.1 hi.2 hj.1 hj.2
structure Fw (m:Lj) (n:Nat) (B:Int) (t:Nat):Prop where
 s:∀i j z,In n i->In n j->le z (at2 (bT m t) i j)->∃k,W m n t k i j z
 c:∀k i j z,W m n t k i j z->le z (at2 (bT m t) i j)
 lb:∀i j,In n i->In n j->cZ (at2 (bT m t) i j)=false->-B<=at2 (bT m t) i j
theorem aBZ{L:Int}(hm:Bd n L m)(hL:0<=L)(t:Nat)(s:∀i j z,In n i->In n j->le z (at2 (bT m t) i j)->∃k,W m n t k i j z)
  (c:∀k i j z,W m n t k i j z->le z (at2 (bT m t) i j)):Fw m n (n*L) t:=
 ⟨s,c,λi j hi hj hf=>by
  obtain⟨k,hw⟩:=s i j _ hi hj (yx hf);obtain⟨k',z',h1,h2,_⟩:=hw.short;have:=(c _ _ _ _ (h2.low hm)).2;have h4:(k':Int)*L<=n*L:=kN (by omega) hL;omega⟩
theorem fw0{L:Int}(hm:Bd n L m)(hL:0<=L): Fw m n (n*L) 0:=by
 refine aBZ hm hL 0 (λi j z hi hj h=>?_) (λk i j z h=>?_)
 .rw[si hm.sq.len hi hj]at h;unfold lC at h;by_cases e:i=j
  .subst e;simp only[qAp,qAm,lR]at h;rcases h with h | h
   .exact⟨0,W.zero hi h.2⟩
   .exact⟨1,W.one hi hj h⟩
  .simp only[e,kL,qAn,lR]at h;rcases h with h | h
   .simp[le,cZ]at h
   .exact⟨1,W.one hi hj h⟩
 .obtain⟨hi,hj⟩:=h.ins;rw[si hm.sq.len hi hj];obtain⟨p,h1,h2,h3,h4,h5⟩:=h;unfold lC
  match k,h2,h3,h4,h5 with
  | 0,h2,_,_,h5=>
   have e:i=j:=by rw[<- h1,<- h2]
   have h5:z<=0:=h5;simp only[e,qAp,qAm,lR];exact .inl ⟨by decide,h5⟩
  | 1,h2,_,_,h5=>
   obtain⟨u,v,g1,g2,g3⟩:=h5;have g1:u<=0:=g1;simp only[wY,h1,h2]at g2;have g4:le z (at2 m i j):=Ob (by omega) g2;cases decide (i=j)
   .simp only[qAn,lR];exact .inr g4
   .simp only[qAm,lR];exact .inr g4
  | k+2,_,h3,h4,_=>
   have:=h4 1 (by omega) (by omega);have:=(h3 1 (by omega)).1;simp only[Int.natCast_zero]at *;omega
theorem Y2{L:Int}(hm:Bd n L m)(hL:0<=L)(hB:n*L<=100000000000){t:Nat}(ht:t<n)(h:Fw m n (n*L) t)(hd:at2 (bT m t) t t<=0\/cZ (at2 (bT m t) t t)=true): Fw m n (n*L) (t+1):=by
 have hit:In n t:=⟨by omega,by omega⟩;have no:∀{i j:Int},In n i->In n j->cZ (at2 (bT m t) i t)=false->cZ (at2 (bT m t) t j)=false->-549755813888<at2 (bT m t) i t+at2 (bT m t) t j:=λhi hj e1 e2=>by
  have:=h.lb _ _ hi hit e1;have:=h.lb _ _ hit hj e2;omega
 have ret:∀(k:Nat) (j z:Int),W m n ((t:Int)+1) k t j z->le z (at2 (bT m t) t j):=by
  intro k;induction k using Nat.strongRecOn with
  | ind k ih=>
   intro j z hw;rcases hw.cut with hw | ⟨a,b,u,v,hb,w1,w2,hz⟩
   .exact h.c _ _ _ _ hw
   .have h1:=h.c _ _ _ _ w1;have h2:=ih b hb j v w2;have:u<=0:=by
     rcases hd with hd | hd
     .have:=h1.2;omega
     .rw[h1.1]at hd;cases hd
    exact Ob (by omega) h2
 refine aBZ hm hL (t+1) (λi j z hi hj hz=>?_) (λk i j z hw=>?_)
 .rw[xn hm.sq.len t hi hj]at hz;unfold ng at hz;rw[lR]at hz;rcases hz with hz | hz
  .obtain⟨k,hk⟩:=h.s _ _ _ hi hj hz;exact⟨k,hk.mono (by omega)⟩
  .obtain⟨u,v,hu,hv,hz⟩:=(HL (no hi hj)).1 hz;obtain⟨k,hk⟩:=h.s _ _ _ hi hit hu;obtain⟨k',hk'⟩:=h.s _ _ _ hit hj hv;exact⟨k+k',((hk.mono (t':=((t+1:Nat):Int)) (by omega)).trans (hk'.mono (by omega)) (by omega)).down hz⟩
 .obtain⟨hi,hj⟩:=hw.ins;rw[xn hm.sq.len t hi hj];unfold ng;rw[lR];have hw':W m n ((t:Int)+1) k i j z:=by simpa using hw
  rcases hw'.cut with hw | ⟨a,b,u,v,_,w1,w2,hz⟩
  .exact .inl (h.c _ _ _ _ hw)
  .exact .inr ((HL (no hi hj)).2 ⟨u,v,h.c _ _ _ _ w1,ret _ _ _ w2,hz⟩)
def uF(m:Lj)(n:Nat): Prop:=∀k x u,W m n n k x x u->u<=0
theorem pS{s:Lj}(hs:s.length=n): fq s=false↔∀i,In n i->at2 s i i<=0:=by
 unfold fq;rw[rf,hs];constructor
 .intro h i hi;have:=h i hi.1 hi.2;simp only[diag,vN]at this;omega
 .intro h k h0 hk;have:=h k ⟨h0,hk⟩;simp only[diag,vN];omega
theorem HV{L:Int}(hm:Bd n L m)(hL:0<=L)(hB:n*L<=100000000000): ∀t,t<=n->(∀s,s<t->fq (bT m s)=false)->Fw m n (n*L) t
 | 0,_,_=>fw0 hm hL
 | t+1,ht,h=>by
  refine Y2 hm hL hB (by omega) (HV hm hL hB t (by omega) (λs hs=>h s (by omega))) (.inl ?_);have hl:(bT m t).length=n:=by rw[(ja m t).len,hm.sq.len]
  exact(pS hl).1 (h t (by omega)) t ⟨by omega,by omega⟩
theorem TM{L:Int}(hm:Bd n L m)(hL:0<=L)(hB:n*L<=100000000000)(h:∀s,s<=n->fq (bT m s)=false): uF m n:=by
 intro k x u hw;have fw:=HV hm hL hB n (qJ _) (λs hs=>h s (by omega));have hl:(bT m n).length=n:=by rw[(ja m n).len,hm.sq.len]
 have:=(fw.c _ _ _ _ hw).2;have:=(pS hl).1 (h n (qJ _)) x hw.ins.1;omega
theorem qt{L:Int}(hm:Bd n L m)(hL:0<=L)(hB:n*L<=100000000000)(h:uF m n): ∀s,s<=n->fq (bT m s)=false:=by
 intro s;induction s using Nat.strongRecOn with
 | ind s ih=>
  intro hs;have fw:=HV hm hL hB s hs (λr hr=>ih r hr (by omega));have hl:(bT m s).length=n:=by rw[(ja m s).len,hm.sq.len]
  refine(pS hl).2 λi hi=>?_
  by_cases hp:at2 (bT m s) i i<=0
  .exact hp
  .obtain⟨k,hk⟩:=fw.s i i 1 hi hi (le_iff.2 ⟨by omega,by omega⟩);have:=h k i 1 hk.all;omega
theorem DY{L:Int}(hm:Bd n L m)(hL:0<=L)(hB:n*L<=100000000000): lB m=false↔uF m n:=by
 have hl:=hm.sq.len;constructor
 .intro h;refine TM hm hL hB λs hs=>?_
  unfold lB at h;rw[qAa]at h;simpa using h s (qX.2 (by omega))
 .intro h;unfold lB;rw[qAa];intro s hs;have:=qt hm hL hB h s (by have:=qX.1 hs;omega);simp[this]
theorem Yb{L:Int}(hm:Bd n L m)(hv:ax m=true)(hL:0<=L)(hB:n*L<=100000000000)(h:uF m n): gY m=0/\dS m=bT m n:=by
 have:=(DY hm hL hB).2 h;simp[gY,dS,AE,hv,this,hm.sq.len]
theorem DX(hl:m.length=n): ∀(t:Nat) {i j:Int},In n i->In n j->Il (at2 (bT m t) i j)
 | 0,i,j,hi,hj=>by
  rw[si hl hi hj];unfold lC;cases decide (i=j)
  .simp only[qAn];exact pT _ _
  .simp only[qAm];exact pT _ _
 | t+1,_,_,hi,hj=>by rw[xn hl t hi hj];exact pT _ _
theorem FD{L:Int}(hm:Bd n L m)(hL:0<=L)(hB:n*L<=100000000000)(h:uF m n){i j z:Int}(hi:In n i)(hj:In n j): le z (at2 (bT m n) i j)↔∃k,W m n n k i j z:=by
 have fw:=HV hm hL hB n (qJ _) (λs hs=>qt hm hL hB h s (by omega));exact⟨fw.s i j z hi hj,λ⟨k,hk⟩=>fw.c k i j z hk⟩
theorem uF.short (h:uF m n) {k:Nat} {i j z:Int} (hw:W m n n k i j z):∃k',k'<n/\W m n n k' i j z:=by
 obtain⟨k',z',h1,h2,h3⟩:=hw.short;exact⟨k',h1,h2.down (h3 h)⟩
theorem Yc{L:Int}(hm:Bd n L m)(hL:0<=L)(hB:n*L<=100000000000)(h:uF m n): Bd n (n*L) (bT m n):=
 ⟨by rw[<- hm.sq.len];exact ja m _,hm.le,λi j h0 hi h1 hj hf=>by
  have hz:=(FD hm hL hB h ⟨h0,hi⟩ ⟨h1,hj⟩).1 (yx hf);obtain⟨k,hk⟩:=hz;obtain⟨k',g1,g2⟩:=h.short hk;have h4:(k':Int)*L<=n*L:=kN (by omega) hL;have:=g2.high hm;have:=((FD hm hL hB h ⟨h0,hi⟩ ⟨h1,hj⟩).2 ⟨k',g2.low hm⟩).2;omega⟩
end
end Go.Eng.Mp
set_option maxRecDepth 100000
noncomputable section
namespace Go.Eng.Sv
open Go.Proofs
def Ak(z:Int)(w:List Bool)(h:Li)(a b:Int): Prop:=ax z w h=true/\bM a=true/\bM b=true
def pZ(w:List Bool)(h:Li)(a b:Int): Li:=di w h a (b-a+1)
def BL(n:Net)(line:Int): Prop:=noF n=true/\0<=line/\line<n.2.2.2.2.1.length
def aK(n:Net)(line:Int): Line:=n.2.2.2.2.1.getD line.toNat (⟨#[]⟩,0,0,0,0,0)
def zE(n:Net)(line:Int): Int×List Bool×Li:=n.1.getD (n.2.2.2.1.getD (aK n line).2.1.toNat (⟨#[]⟩,0,0,0,0,0,[])).2.2.1.toNat (0,[],[])
def fE(n:Net)(line:Int)(ts:Li): Bool:=bP line n.2.2.2.2.1.length&&ts.all bw&&aO n
def xi(ts:Li)(k:Int): Prop:=0<=k/\k<=ts.length/\(ts.take k.toNat).all bw=true
def JM(ts:Li): Prop:=ts.length<=1000000
def rh(n:Net)(line time:Int): Prop:=BL n line/\0<=time/\time<=2000000
def gV(n:Net)(line d:Int): Int:=cL (zE n line).1 d (aK n line).2.2.2.1
def va(n:Net)(line time:Int): Li:=pZ (zE n line).2.1 (zE n line).2.2 (fC (zE n line).1 time) (fC (zE n line).1 time+60)
def gw(n:Net)(line time:Int): Option Int:=(((va n line time).map (gV n line)).find? λt=>decide (time<=t)).bind λt=>if t<time+86400 then some t else none
def m4(n:Net)(line time:Int): Int:=(gw n line time).getD 0
def m5(n:Net)(line time:Int): Bool:=(gw n line time).isSome
def firstTo(n:Net)(line time:Int)(k:Nat): Prop:=k<=(va n line time).length/\((va n line time).take k).all (λd=>decide (gV n line d<time))=true
def KT5: Kt:=kOr 286 (az [.row C,.val I] (λ(c,d,_)=>ax c.1 c.2.1 c.2.2=true/\bM d=true) λ(c,d,_)=>.dat .bool (bF c.2.1 c.2.2 d)) KT4
def Xr(ts:Li): Ann:=⟨λid s=>match id with
 | 4=>some {α:=Int,inv:=λk=>xi ts k,st:=λk=>put s [(20,.dat I k)],μ:=λk=>Dc (Dh (Df ts) k)}
 | _=>none,λ_ _=>none,λ_ _=>none⟩
theorem K9(line:Int)(ts:Li)(cs:LC)(ns os:LB)(fs:Lo)(ls:Ll)(ks:Lk)(hvc:
 let c1:=Dp line 0;let c2:=Di c1;let c12:=c2->c2->c2;let c3:=Dz c1 true (Ed line (Df ls));let c4:=(cs,ns,os,fs,ls,ks);let c5:=fE c4 line ts;true/\(JM ts->c12/\c12/\c12/\c12/\(Dk true c2->c2)/\(c3->false=c5/\True)/\(c3=false->(∃x,xi ts x/\c4=c4/\ts=ts/\Df ts=Df ts/\0=x/\True)/\∀(x:Int),let c6:=Dp x (Df ts);let c7:=Du ts (Dc x) 0;let c8:=Dp c7 0;let c9:=Di c8;let c10:=Dz c8 true (Ei c7 2000000);let c11:=x+1;xi ts x->(c6->0<=x/\x<Df ts/\(c9->c9->c9)/\(Dk true c9->c9)/\(c10->false=c5/\True)/\(c10=false->inR .i64 c11/\∃y,xi ts y/\(c4=c4/\ts=ts/\Df ts=Df ts/\c11=y/\True)/\Dc (Df ts-y)<Dc (Df ts-x)))/\(c6=false->True/\Ea (Df (fA c4)) 0=c5/\True)))):
  evF (mkc KT5) (lvA [(4,[3,6,8,18,19,20])] (Xr ts)) 209 [net cs ns os fs ls ks,.dat I line,.dat R ts] [] ⟨JM ts,.dat .bool (fE (cs,ns,os,fs,ls,ks) line ts),[]⟩:=oE hvc
theorem Rx(line:Int)(cs:LC)(ns os:LB)(fs:Lo)(ls:Ll)(ks:Lk)(hvc:
 let c1:=(cs,ns,os,fs,ls,ks);let c2:=(Du ls (Dc line) (ByteArray.mk #[],(0:Int),(0:Int),(0:Int),(0:Int),(0:Int))).2.1;let c3:=(Du fs (Dc c2) (ByteArray.mk #[],(0:Int),(0:Int),(0:Int),(0:Int),(0:Int),Dt ByteArray)).2.2.1;let c4:=Du cs (Dc c3) ((0:Int),Dt Bool,Dt Int);let c5:=zE c1 line;true/\(BL c1 line->0<=line/\line<Df ls/\0<=c2/\c2<Df fs/\0<=c3/\c3<Df cs/\1=1/\0=0/\1=1/\0=0/\c4.1=c5.1/\c4.2.1=c5.2.1/\c4.2.2=c5.2.2/\True)):
  evF (mkc KT5) aA 256 [net cs ns os fs ls ks,.dat I line] [] ⟨BL (cs,ns,os,fs,ls,ks) line,cal (zE (cs,ns,os,fs,ls,ks) line).1 (zE (cs,ns,os,fs,ls,ks) line).2.1 (zE (cs,ns,os,fs,ls,ks) line).2.2,[]⟩:=oE hvc
theorem DJ(z a b:Int)(w:List Bool)(h:Li)(hvc:
 let c1:=(z,w,h);true/\(True->a=a/\b=b/\c1=c1/\True)):
  evF (mkc KT5) aA 257 [cal z w h,.dat I a,.dat I b] [] ⟨True,.fn 285 [.ip I a,.ip I b,.ip C (z,w,h)],[]⟩:=oE hvc
def Vj(w:List Bool)(h:Li)(a b:Int): GQ:=⟨λid y=>match id with
 | 1=>some {α:=Int,inv:=λd=>lX a (Dq (Dh b a) 1) d,st:=λd=>⟨put y.s [(5,.dat I d)],lq w h a d,true⟩,μ:=λd=>Dc (Dh (Dq b 1) d)}
 | _=>none,λ_ _=>none,λid=>id==3⟩
theorem QC(z a b:Int)(w:List Bool)(h:Li)(hvc:
 let c1:=(z,w,h);let c2:=pZ w h a b;let c3:=Dj c2;let c4:=b+1;true/\true/\true/\false=false/\∀(l:Nat),Ak z w h a b->(∃x,lX a ((b-a)+1) x/\(l=l/\a=a/\b=b/\c1=c1/\a=x/\a=a/\True)/\0=lq w h a x/\true)/\∀(x:Int),let c5:=(b-a)+1;let c6:=lq w h a x;let c7:=c6+1;let c8:=x+1;let c9:=Dz (bF w h x) (Di false) false;lX a c5 x->(Eh x b->(ax z w h/\bM x)/\(bF w h x->(bF w h x->bF w h x)/\(bF w h x->bF w h x)/\l=l/\true/\lu c2 c6 x/\∀(b_1:Bool),let c10:=Dz (bF w h x) (Di b_1) false;(Dk true (bF w h x)->bF w h x)/\(c10->b_1->c7=c3)/\(c10=false->inR .i64 c8/\∃y,lX a c5 y/\((l=l/\a=a/\b=b/\c1=c1/\c8=y/\a=a/\True)/\c7=lq w h a y/\b_1)/\Dc (c4-y)<Dc (c4-x)))/\(bF w h x=false->(bF w h x->bF w h x->bF w h x)/\(Dk true (bF w h x)->bF w h x)/\(c9->true->c6=c3)/\(c9=false->inR .i64 c8/\∃y,lX a c5 y/\((l=l/\a=a/\b=b/\c1=c1/\c8=y/\a=a/\True)/\c6=lq w h a y/\true)/\Dc (c4-y)<Dc (c4-x))))/\(Eh x b=false->true->c6=c3)):
  evI (mkc KT5) (Vj w h a b) 285 [.ip I a,.ip I b,.ip C (z,w,h)] ⟨Ak z w h a b,I,pZ w h a b⟩:=oE hvc
def KT6: Kt:=kOr 256 (az [.row N,.val I] (λ(n,l,_)=>BL n l) λ(n,l,_)=>cal (zE n l).1 (zE n l).2.1 (zE n l).2.2) <|
 kOr 257 (az [.row C,.val I,.val I] (λ_=>True) λ(c,a,b,_)=>.fn 285 [.ip I a,.ip I b,.ip C (c.1,c.2.1,c.2.2)]) <|
 kOr 209 (az [.row N,.val I,.val R] (λ(_,_,ts,_)=>JM ts) λ(n,l,ts,_)=>.dat .bool (fE n l ts)) KT5
def aFf: FuncId->List AV->Option jr:=λf caps=>match f,caps with
 | 285,[.ip (.int .i64) a,.ip (.int .i64) b,.ip (.pair (.int .i64) (.pair (.sl .bool) (.sl (.int .i64)))) c]=>some ⟨Ak c.1 c.2.1 c.2.2 a b,I,pZ c.2.1 c.2.2 a b⟩
 | _,_=>none
noncomputable def mkr(K:Kt)(mb:Tmp->Bool): Cfg:=⟨Tryz.prog,G0,K,mb,aFf,true,λ_ _ _=>none,λ_=>false⟩
def aB3(n:Net)(line time:Int): Ann:=⟨λid s=>match id with
 | 4=>some {α:=Nat,inv:=λk=>firstTo n line time k,st:=λ_=>flat s,μ:=λk=>k}
 | _=>none,λ_ _=>none,λ_ _=>none⟩
theorem Rk(line time:Int)(cs:LC)(ns os:LB)(fs:Lo)(ls:Ll)(ks:Lk)(hvc:
 let c1:=(cs,ns,os,fs,ls,ks);let c2:=zE c1 line;let c3:=c2.1;let c4:=c2.2;let c5:=c4.1;let c6:=c4.2;let c7:=fC c3 time;let c8:=c7+60;let c9:=KC c3 time;let c10:=(c3,c5,c6);let c11:=pZ c5 c6 c7 c8;let c12:=(Du ls (Dc line) (ByteArray.mk #[],(0:Int),(0:Int),(0:Int),(0:Int),(0:Int))).2.2.2.1;let c13:=time+86400;let c14:=m4 c1 line time;let c15:=m5 c1 line time;true/\(rh c1 line time->BL c1 line/\1=1/\0=0/\1=1/\0=0/\ga c3 c5 c6 time/\1=1/\0=0/\inR IntKind.i64 c8/\True/\Ak c3 c5 c6 c7 c8/\(∃x,firstTo c1 line time x/\x=0/\cs=cs/\ns=ns/\os=os/\fs=fs/\ls=ls/\ks=ks/\line=line/\time=time/\c1=c1/\line=line/\time=time/\1=1/\0=0/\0=0/\1=1/\0=0/\0=0/\1=1/\0=0/\0=0/\c7=c7/\c9=c9/\cs=cs/\ns=ns/\os=os/\fs=fs/\ls=ls/\ks=ks/\line=line/\c3=c3/\c5=c5/\c6=c6/\c7=c7/\c9=c9/\c3=c3/\c5=c5/\c6=c6/\time=time/\c7=c7/\c9=c9/\c7=c7/\c9=c9/\c3=c3/\c5=c5/\c6=c6/\c7=c7/\c7=c7/\c8=c8/\c7=c7/\c8=c8/\c10=c10/\(0:Int)=(0:Int)/\false=false/\c3=c3/\c5=c5/\c6=c6/\True)/\(∀(x:Nat) (y:Int),let c16:=Dp (cL c3 y c12) time;let c17:=Ed (cL c3 y c12) c13;
 firstTo c1 line time x->lu c11 x y->1=1/\0=0/\0<=line/\line<Df ls/\k7 c3 c5 c6 y c12/\(c16->∃z,firstTo c1 line time z/\z=x+1/\cs=cs/\ns=ns/\os=os/\fs=fs/\ls=ls/\ks=ks/\line=line/\time=time/\c1=c1/\line=line/\time=time/\1=1/\0=0/\0=0/\1=1/\0=0/\0=0/\1=1/\0=0/\0=0/\c7=c7/\c9=c9/\cs=cs/\ns=ns/\os=os/\fs=fs/\ls=ls/\ks=ks/\line=line/\c3=c3/\c5=c5/\c6=c6/\c7=c7/\c9=c9/\c3=c3/\c5=c5/\c6=c6/\time=time/\c7=c7/\c9=c9/\c7=c7/\c9=c9/\c3=c3/\c5=c5/\c6=c6/\c7=c7/\c7=c7/\c8=c8/\c7=c7/\c8=c8/\c10=c10/\(0:Int)=(0:Int)/\false=false/\c3=c3/\c5=c5/\c6=c6/\True)/\(c16=false->inR .i64 c13/\(c17->1=1/\0=0/\1=1/\0=0/\1=1/\0=0/\1=1/\0=0/\0=c14/\false=c15/\True)/\(c17=false->1=1/\0=0/\1=1/\0=0/\1=1/\0=0/\1=1/\0=0/\cL c3 y c12=c14/\true=c15/\True)))/\∀(x:Nat),firstTo c1 line time x->x=Dj c11->1=1/\0=0/\1=1/\0=0/\1=1/\0=0/\1=1/\0=0/\0=c14/\false=c15/\True)):
  evF (mkr KT6 λ_=>false) (aB3 (cs,ns,os,fs,ls,ks) line time) 210 [net cs ns os fs ls ks,.dat I line,.dat I time] [] ⟨rh (cs,ns,os,fs,ls,ks) line time,.tup [.dat I (m4 (cs,ns,os,fs,ls,ks) line time),.dat .bool (m5 (cs,ns,os,fs,ls,ks) line time)],[]⟩:=oE hvc
def KT7: Kt:=kOr 210 (az [.row N,.val I,.val I] (λ(n,l,t,_)=>rh n l t) λ(n,l,t,_)=>.tup [.dat I (m4 n l t),.dat .bool (m5 n l t)]) KT6
theorem aCt: ak Tryz.prog G0 KT5:=ai (ag λ((z,w,h),d,_)=>aBw z w h d) aCu
theorem Pj(cs:LC)(ns os:LB)(fs:Lo)(ls:Ll)(ks:Lk){line:Int}(h:BL (cs,ns,os,fs,ls,ks) line): ax (zE (cs,ns,os,fs,ls,ks) line).1 (zE (cs,ns,os,fs,ls,ks) line).2.1 (zE (cs,ns,os,fs,ls,ks) line).2.2=true/\0<=(aK (cs,ns,os,fs,ls,ks) line).2.1/\(aK (cs,ns,os,fs,ls,ks) line).2.1<fs.length/\
  0<=(fs.getD (aK (cs,ns,os,fs,ls,ks) line).2.1.toNat (⟨#[]⟩,0,0,0,0,0,[])).2.2.1/\(fs.getD (aK (cs,ns,os,fs,ls,ks) line).2.1.toNat (⟨#[]⟩,0,0,0,0,0,[])).2.2.1<cs.length/\0<=(aK (cs,ns,os,fs,ls,ks) line).2.2.2.1/\(aK (cs,ns,os,fs,ls,ks) line).2.2.2.1<=1439:=by
 obtain⟨hno,l0,l1⟩:=h;have l1:line<ls.length:=l1;have hl:aK (cs,ns,os,fs,ls,ks) line∈ls:=by
  unfold aK;show ls.getD line.toNat _∈ls;rw[qA,qB (by omega),qQ];exact wM _
 obtain⟨g1,g2,g3,g4,g5,g6,_⟩:=ji ((lN cs ns os fs ls ks hno).2.2.2 _ hl);have f0:0<=(aK (cs,ns,os,fs,ls,ks) line).2.1:=g1;have f1:(aK (cs,ns,os,fs,ls,ks) line).2.1<fs.length:=g2;have ho:fs.getD (aK (cs,ns,os,fs,ls,ks) line).2.1.toNat (⟨#[]⟩,0,0,0,0,0,[])∈fs:=by
  rw[qA,qB (by omega),qQ];exact wM _
 have gc:=(fK cs ns os fs ls ks hno).2.2.2 _ ho;unfold dt bP at gc;simp only[qC,qE]at gc;have gc:0<=(fs.getD (aK (cs,ns,os,fs,ls,ks) line).2.1.toNat (⟨#[]⟩,0,0,0,0,0,[])).2.2.1/\(fs.getD (aK (cs,ns,os,fs,ls,ks) line).2.1.toNat (⟨#[]⟩,0,0,0,0,0,[])).2.2.1<(cs.length:Int):=gc.1.1.1.1.1.2;have hc:=((rL (by decide)).1 (je cs ns os fs ls ks hno).2.1).2.2.2
 have hcl:(aC cs ns).length=cs.length:=by unfold aC;simp
 have:=hc (fs.getD (aK (cs,ns,os,fs,ls,ks) line).2.1.toNat (⟨#[]⟩,0,0,0,0,0,[])).2.2.1.toNat (by omega);unfold br at this;rw[mB (λc:Int×List Bool×Li=>ax c.1 c.2.1 c.2.2) cs _ (0,[],[]) false (by omega)]at this;exact⟨this,f0,f1,gc.1,gc.2,g6.1,g6.2⟩
theorem X9(line:Int)(cs:LC)(ns os:LB)(fs:Lo)(ls:Ll)(ks:Lk): af Tryz.prog G0 256 [net cs ns os fs ls ks,.dat I line] [] ⟨BL (cs,ns,os,fs,ls,ks) line,cal (zE (cs,ns,os,fs,ls,ks) line).1 (zE (cs,ns,os,fs,ls,ks) line).2.1 (zE (cs,ns,os,fs,ls,ks) line).2.2,[]⟩:=by
 refine ae (c:=mkc KT5) aCt aJ hm (Rx line cs ns os fs ls ks ⟨rfl,λhp=>?_⟩);obtain⟨_,h1,h2,h3,h4,_⟩:=Pj cs ns os fs ls ks hp;exact⟨hp.2.1,hp.2.2,h1,h2,h3,h4,rfl,rfl,rfl,rfl,rfl,rfl,rfl,trivial⟩
theorem I4(z a b:Int)(w:List Bool)(h:Li): af Tryz.prog G0 257 [cal z w h,.dat I a,.dat I b] [] ⟨True,.fn 285 [.ip I a,.ip I b,.ip C (z,w,h)],[]⟩:=
 ae (c:=mkc KT5) aCt aJ hm (DJ z a b w h ⟨rfl,λ_=>⟨rfl,rfl,rfl,trivial⟩⟩)
theorem vb{t:Int}: bw t=true↔¬t<0/\¬t>2000000:=by unfold bw;rw[qE];omega
theorem RX(line:Int)(ts:Li)(cs:LC)(ns os:LB)(fs:Lo)(ls:Ll)(ks:Lk): af Tryz.prog G0 209 [net cs ns os fs ls ks,.dat I line,.dat R ts] [] ⟨JM ts,.dat .bool (fE (cs,ns,os,fs,ls,ks) line ts),[]⟩:=by
 refine ae (c:=mkc KT5) aCt aJ hm (K9 line ts cs ns os fs ls ks ⟨rfl,λhp=>?_⟩);simp only[qc,Dk,Di,qd,Ea,Dp,Ei,Ed,Df,Dc,Du];have hp':ts.length<=1000000:=hp;refine⟨λh=>?_,λ⟨h1,h2⟩=>⟨⟨qL _,qZ _,rfl⟩,λk ⟨k0,k1,k2⟩=>⟨λhk=>?_,λhk=>?_⟩⟩⟩
 .unfold fE;have:bP line (ls.length:Nat)=false:=by unfold bP;exact vH (by omega)
  show false=(bP line (ls.length:Nat)&&_&&_);rw[this];rfl
 .have hg:ts.getD k.toNat 0=ts[k.toNat]:=by rw[qA,qB (by omega),qQ]
  refine⟨k0,hk,λh=>?_,λh=>⟨bD (by omega),k+1,⟨by omega,by omega,?_⟩,rfl,by omega⟩⟩
  .have hn:ts.all bw=false:=by
    rw[qCx];refine⟨ts[k.toNat],wM _,λg=>?_⟩;rw[<- hg,vb]at g;omega
   unfold fE;rw[hn,xJ];rfl
  .rw[show(k+1).toNat=k.toNat+1 by omega,wW,qB (by omega),qBm,kX,k2,<- hg];show(true&&(bw _&&true))=true;rw[vb.2 h];rfl
 .have e1:bP line (ls.length:Nat)=true:=by unfold bP;exact qV (by omega)
  have e2:ts.all bw=true:=by
   rw[qO (by omega)]at k2;exact k2
  unfold fE aO;show _=(bP line (ls.length:Nat)&&ts.all bw&&_);rw[e1,e2];cases fA (cs,ns,os,fs,ls,ks)with
  | nil=>rfl
  | cons a l=>
   show decide _=false;rw[vN];show ¬((((a::l).length:Nat):Int)=0);rw[wV];omega
theorem iu{d:Int}: bM d=true↔-1000000<=d/\d<=1000000:=by unfold bM;rw[qE]
theorem XB(a b:Int)(c:C.den): mR Tryz.prog G0 285 [.ip I a,.ip I b,.ip C c] ⟨Ak c.1 c.2.1 c.2.2 a b,I,pZ c.2.1 c.2.2 a b⟩:=by
 obtain⟨z,w,h⟩:=c;refine jF (c:=mkc KT5) (A:=Vj w h a b) aCt aJ hm ?_;refine QC z a b w h ⟨rfl,rfl,rfl,rfl,λl ⟨hv,ha,hb⟩=>?_⟩;simp only[qc,Dk,Di,qd,Eh,Dc,Dj];have ha':=iu.1 ha;have hb':=iu.1 hb;refine⟨⟨a,⟨qL _,.inr rfl⟩,rfl,(Ij w h a).symm⟩,λx hx=>?_⟩;have hx1:=hx.1;have hx2:=hx.2
 refine⟨λhle=>⟨⟨hv,iu.2 (by omega)⟩,λhw=>⟨PL hx1 (by omega) hw,λs=>⟨λg1 g2=>(by rw[g1.2]at g2;cases g2),λg=>⟨bD (by omega),x+1,⟨by omega,.inl (by omega)⟩,⟨rfl,?_,g hw⟩,by omega⟩⟩⟩,λhw=>⟨λg=>(by rw[hw]at g;cases g),λ_=>⟨bD (by omega),x+1,⟨by omega,.inl (by omega)⟩,⟨rfl,?_⟩,by omega⟩⟩⟩,λhge=>?_⟩
 .rw[rO hx1,hw];rfl
 .rw[rO hx1,hw];rfl
 .exact cnt_end (n:=b-a+1) hx (by omega)
theorem aFE: ak Tryz.prog G0 KT6:=ai (ag λ((cs,ns,os,fs,ls,ks),l,_)=>X9 l cs ns os fs ls ks)<|ai (ag λ((z,w,h),a,b,_)=>I4 z a b w h)<|ai (ag λ((cs,ns,os,fs,ls,ks),l,ts,_)=>RX l ts cs ns os fs ls ks) aCt
theorem aCG: bv Tryz.prog G0 aFf:=by
 intro f caps c h;unfold aFf at h;split at h
 .cases h;exact XB _ _ _
 .cases h
theorem FV{f:Int->Int}{time y:Int}(hy:¬f y<time): ∀{L:Li} {x:Nat},L[x]?=some y->(L.take x).all (λd=>decide (f d<time))=true->(L.map f).find? (λt=>decide (time<=t))=some (f y)
 | [],x,h,_=>by simp at h
 | a::L,0,h,_=>by
  have:a=y:=by simpa using h
  subst this;rw[zH,qBi,qV (show time<=f a by omega)]
 | a::L,x+1,h,g=>by
  rw[List.take_succ_cons,qAj,qC,qE]at g;rw[zH,qBi,vH (show ¬time<=f a by omega)];exact FV hy (by simpa using h) g.2
theorem OL{f:Int->Int}{time:Int}: ∀{L:Li},L.all (λd=>decide (f d<time))=true->(L.map f).find? (λt=>decide (time<=t))=none
 | [],_=>rfl
 | a::L,g=>by
  rw[qAj,qC,qE]at g;rw[zH,qBi,vH (show ¬time<=f a by omega)];exact OL g.2
theorem Iz{w:List Bool}{h:Li}{a b y:Int}(hy:y∈pZ w h a b): a<=y/\y<=b/\bF w h y=true:=by
 unfold pZ di at hy;rw[xO]at hy;obtain⟨hy,hw⟩:=hy;obtain⟨i,hi,rfl⟩:=wZ.1 hy;have:=qX.1 hi;exact⟨by omega,by omega,hw⟩
theorem RL{z:Int}{w:List Bool}{h:Li}{t:Int}(hv:ax z w h=true)(t0:0<=t)(t1:t<=2000000): -2<=fC z t/\fC z t<=2000:=by
 obtain⟨⟨v1,v2,_⟩,_⟩:=cA.1 hv;unfold fC;omega
theorem X1(line time:Int)(cs:LC)(ns os:LB)(fs:Lo)(ls:Ll)(ks:Lk): af Tryz.prog G0 210 [net cs ns os fs ls ks,.dat I line,.dat I time] [] ⟨rh (cs,ns,os,fs,ls,ks) line time,.tup [.dat I (m4 (cs,ns,os,fs,ls,ks) line time),.dat .bool (m5 (cs,ns,os,fs,ls,ks) line time)],[]⟩:=by
 refine ae (c:=mkr KT6 λ_=>false) aFE aCG hm (Rk line time cs ns os fs ls ks ⟨rfl,λhp=>?_⟩);simp only[qc,qd,Dp,Ed,Df,Dc,Dj,Du];obtain⟨hl,t0,t1⟩:=hp;obtain⟨hv,_,_,_,_,m0,m1⟩:=Pj cs ns os fs ls ks hl;obtain⟨d0,d1⟩:=RL hv t0 t1
 refine⟨hl,⟨hv,by omega,by omega⟩,bD (by omega),⟨hv,iu.2 (by omega),iu.2 (by omega)⟩,⟨wU _,rfl⟩,λx y hx hy=>?_,λx hx hl=>?_⟩
 .have hy':(va (cs,ns,os,fs,ls,ks) line time)[x]?=some y:=hy;obtain⟨y0,y1,yw⟩:=Iz (zD hy);obtain⟨x1,x2⟩:=hx;refine⟨hl.2.1,hl.2.2,⟨hv,iu.2 (by omega),m0,(by show(aK (cs,ns,os,fs,ls,ks) line).2.2.2.1<1440;omega)⟩,λhlt=>⟨(qF.1 hy').1,?_⟩,λhge=>⟨bD (by omega),λhfar=>?_,λhnear=>?_⟩⟩
  .rw[wW,hy',qBm,kX,x2];show(true&&(decide (gV (cs,ns,os,fs,ls,ks) line y<time)&&true))=true;rw[qV (show gV (cs,ns,os,fs,ls,ks) line y<time from hlt)];rfl
  .have hf:gw (cs,ns,os,fs,ls,ks) line time=none:=by
    unfold gw;rw[FV (f:=gV (cs,ns,os,fs,ls,ks) line) hge hy' x2];show(if gV (cs,ns,os,fs,ls,ks) line y<time+86400 then some (gV (cs,ns,os,fs,ls,ks) line y)else none)=none;rw[if_neg (show ¬gV (cs,ns,os,fs,ls,ks) line y<time+86400 from by have:gV (cs,ns,os,fs,ls,ks) line y≥time+86400:=hfar;omega)]
   unfold m4 m5;rw[hf];exact⟨rfl,rfl⟩
  .have hf:gw (cs,ns,os,fs,ls,ks) line time=some (gV (cs,ns,os,fs,ls,ks) line y):=by
    unfold gw;rw[FV (f:=gV (cs,ns,os,fs,ls,ks) line) hge hy' x2];show(if gV (cs,ns,os,fs,ls,ks) line y<time+86400 then some (gV (cs,ns,os,fs,ls,ks) line y)else none)=_;rw[if_pos (show gV (cs,ns,os,fs,ls,ks) line y<time+86400 from by have:¬gV (cs,ns,os,fs,ls,ks) line y≥time+86400:=hnear;omega)]
   unfold m4 m5;rw[hf];exact⟨rfl,rfl⟩
 .obtain⟨x1,x2⟩:=hx;have hx':x=(va (cs,ns,os,fs,ls,ks) line time).length:=hl;rw[hx',xC]at x2;have hf:gw (cs,ns,os,fs,ls,ks) line time=none:=by
   unfold gw;rw[OL x2];rfl
  unfold m4 m5;rw[hf];exact⟨rfl,rfl⟩
theorem aGl: ak Tryz.prog G0 KT7:=ai (ag λ((cs,ns,os,fs,ls,ks),l,t,_)=>X1 l t cs ns os fs ls ks) aFE
end Go.Eng.Sv
set_option maxRecDepth 100000
noncomputable section
namespace Go.Eng.Sv
open Go.Proofs
def rJ(a b:Int): Int:=if a<b then b else a
def KT8: Kt:=KT7
theorem aAg(x:Int)(hvc:
 true/\(True->Ec x x=false/\True)):
  evF (mkc KT8) aA 287 [.dat I x] [] ⟨True,.dat .bool false,[]⟩:=oE hvc
def KT9: Kt:=kOr 287 (az [.val I] (λ_=>True) λ_=>.dat .bool false) KT8
theorem W6(x y:Int)(hvc:
 let c3:=false->false->false;let c1:=Dz false (Di false) false;let c2:=Di c1;true/\(True->True/\c3/\(false->True)/\c3/\(Dk true false->false)/\(c2->c2->c2)/\(c2->c2->c2)/\(Dk true c2->c2)/\Dz c1 true (Dp x y)=Dp x y/\True)):
  evF (mkc KT9) aA 258 [.dat I x,.dat I y] [] ⟨True,.dat .bool (Dp x y),[]⟩:=oE hvc
def aDa: Kt:=kOr 258 (az [.val I,.val I] (λ_=>True) λ(x,y,_)=>.dat .bool (Dp x y)) KT9
theorem IU(x y:Int)(hvc:
 true/\(True->True/\(Dp x y->y=rJ x y/\True)/\(Dp x y=false->x=rJ x y/\True))):
  evF (mkc aDa) aA 211 [.dat I x,.dat I y] [] ⟨True,.dat I (rJ x y),[]⟩:=oE hvc
def aFz: Kt:=kOr 211 (az [.val I,.val I] (λ_=>True) λ(x,y,_)=>.dat I (rJ x y)) aDa
theorem lw(cs:LC)(ns os:LB)(fs:Lo)(ls:Ll)(ks:Lk){line time:Int}{ts:Li}(h:fE (cs,ns,os,fs,ls,ks) line ts=true)(ht:time∈ts): rh (cs,ns,os,fs,ls,ks) line time:=by
 unfold fE at h;rw[qC,qC]at h;obtain⟨⟨h1,h2⟩,h3⟩:=h;have h1:=wF h1;have hs:=((wx cs ns os fs ls ks).1 (wO.1 h3)).1;have ht':=wF (qM.1 h2 time ht);exact⟨⟨hs,h1.1,h1.2⟩,ht'.1,ht'.2⟩
theorem aFD: ak Tryz.prog G0 KT8:=aGl
theorem aD0(x:Int): af Tryz.prog G0 287 [.dat I x] [] ⟨True,.dat .bool false,[]⟩:=
 ae (c:=mkc KT8) aFD aJ hm (aAg x ⟨rfl,λ_=>⟨by simp[Ec],trivial⟩⟩)
theorem aFC: ak Tryz.prog G0 KT9:=ai (ag λ(x,_)=>aD0 x) aFD
theorem aA0(x y:Int): af Tryz.prog G0 258 [.dat I x,.dat I y] [] ⟨True,.dat .bool (Dp x y),[]⟩:=by
 refine ae (c:=mkc KT9) aFC aJ hm (W6 x y ⟨rfl,λ_=>?_⟩);exact⟨trivial,λh=>(by cases h),λ_=>trivial,λh=>(by cases h),λh=>(by cases h),λh _=>h,λh _=>h,λh=>h,rfl,trivial⟩
theorem aCw: ak Tryz.prog G0 aDa:=ai (ag λ(x,y,_)=>aA0 x y) aFC
theorem MG(x y:Int): af Tryz.prog G0 211 [.dat I x,.dat I y] [] ⟨True,.dat I (rJ x y),[]⟩:=by
 refine ae (c:=mkc aDa) aCw aJ hm (IU x y ⟨rfl,λ_=>⟨trivial,λh=>⟨?_,trivial⟩,λh=>⟨?_,trivial⟩⟩⟩)
 .unfold rJ;rw[if_pos (wF h)]
 .unfold rJ;rw[if_neg (qCq h)]
theorem aEZ: ak Tryz.prog G0 aFz:=ai (ag λ(x,y,_)=>MG x y) aCw
end Go.Eng.Sv
set_option maxRecDepth 100000
noncomputable section
namespace Go.Eng.Sv
open Go.Proofs
def waitGo(n:Net)(line till:Int): Nat->Int->Int->Option Int
 | 0,_,m=>some m
 | k+1,t,m=>if t<till then(gw n line t).bind λu=>waitGo n line till k (u+1) (rJ m (u-t))else some m
def An(n:Net)(line a b:Int): Option Int:=waitGo n line b (b-a).toNat a 0
def nM(n:Net)(line a b:Int): Bool:=fE n line [a,b]&&decide (a<b)&&decide (b<=a+86400)
def po(n:Net)(line a b:Int): Int:=if nM n line a b then(An n line a b).getD 0 else 0
def rz(n:Net)(line a b:Int): Int:=if nM n line a b then(if(An n line a b).isSome then 0 else 20)else 1
def GU(n:Net)(line a b m t:Int): Prop:=nM n line a b=true/\a<=t/\t<=b+86400/\0<=m/\m<=86400/\waitGo n line b (b-t).toNat t m=An n line a b
def aC9: Kt:=aFz
def aDn(n:Net)(line a b:Int): Ann:=⟨λid s=>match id with
 | 5=>some {α:=Int×Int,inv:=λx=>GU n line a b x.1 x.2,st:=λx=>put s [(10,.dat I x.1),(11,.dat I x.2)],μ:=λx=>Dc (Dh b x.2)}
 | _=>none,λ_ _=>none,λ_ _=>none⟩
theorem WJ(line a b:Int)(cs:LC)(ns os:LB)(fs:Lo)(ls:Ll)(ks:Lk)(hvc:
 let c1:=[a,b];let c2:=(cs,ns,os,fs,ls,ks);let c3:=Di (fE c2 line c1);let c4:=Di c3;let c5:=Dz c3 true (Eh b a);let c6:=Di c5;let c16:=c6->c6->c6;let c7:=a+86400;let c8:=Dz c5 true (Ei b c7);let c9:=po c2 line a b;let c10:=rz c2 line a b;true/\(True->JM c1/\(c4->c4->c4)/\(c4->c4->c4)/\(Dk true c4->c4)/\c16/\(c6->inR .i64 c7)/\c16/\c16/\(Dk true c6->c6)/\(c8->0=c9/\1=c10/\True)/\(c8=false->(∃(x:Int×Int),GU c2 line a b x.1 x.2/\line=line/\b=b/\c2=c2/\0=x.1/\a=x.2/\True)/\∀(x:Int×Int),let c11:=Dp x.2 b;let c12:=Di (m5 c2 line x.2);let c13:=m4 c2 line x.2;let c14:=c13-x.2;let c15:=c13+1;GU c2 line a b x.1 x.2->(c11->rh c2 line x.2/\(c12->0=c9/\20=c10/\True)/\(c12=false->inR .i64 c14/\True/\inR .i64 c15/\∃(y:Int×Int),GU c2 line a b y.1 y.2/\(line=line/\b=b/\c2=c2/\rJ x.1 c14=y.1/\c15=y.2/\True)/\Dc (b-y.2)<Dc (b-x.2)))/\(c11=false->x.1=c9/\0=c10/\True)))):
  evF (mkr aC9 λ_=>false) (lvA [(5,[1,3,4,8,9,10,11,12,13])] (aDn (cs,ns,os,fs,ls,ks) line a b)) 143 [net cs ns os fs ls ks,.dat I line,.dat I a,.dat I b] [] ⟨True,.tup [.dat I (po (cs,ns,os,fs,ls,ks) line a b),.dat I (rz (cs,ns,os,fs,ls,ks) line a b)],[]⟩:=oE hvc
def aFy: Kt:=kOr 143 (az [.row N,.val I,.val I,.val I] (λ_=>True) λ(n,l,a,b,_)=>.tup [.dat I (po n l a b),.dat I (rz n l a b)]) aC9
theorem aCv: ak Tryz.prog G0 aC9:=aEZ
theorem uY(cs:LC)(ns os:LB)(fs:Lo)(ls:Ll)(ks:Lk){line a b:Int}(h:fE (cs,ns,os,fs,ls,ks) line [a,b]=true): rh (cs,ns,os,fs,ls,ks) line a/\rh (cs,ns,os,fs,ls,ks) line b:=
 ⟨lw cs ns os fs ls ks h (by simp),lw cs ns os fs ls ks h (by simp)⟩
theorem lV{n:Net}{l t u:Int}(h:gw n l t=some u): t<=u/\u<t+86400:=by
 unfold gw at h;cases e:((va n l t).map (gV n l)).find? (λv=>decide (t<=v))with
 | none=>rw[e]at h;cases h
 | some v=>
  rw[e]at h;have h1:=wF (qDm (p:=λv=>decide (t<=v)) e);have h:(if v<t+86400 then some v else none)=some u:=h;split at h
  .cases h;exact⟨h1,by assumption⟩
  .cases h
theorem rY{n:Net}{l b:Int}: ∀(k j:Nat) (t m:Int),(b-t).toNat<=k->(b-t).toNat<=j->waitGo n l b k t m=waitGo n l b j t m
 | 0,0,_,_,_,_=>rfl
 | 0,j+1,t,m,h,_=>by rw[waitGo,waitGo,if_neg (by omega)]
 | k+1,0,t,m,_,h=>by rw[waitGo,waitGo,if_neg (by omega)]
 | k+1,j+1,t,m,h1,h2=>by
  rw[waitGo,waitGo];by_cases g:t<b
  .rw[if_pos g,if_pos g];cases e:gw n l t with
   | none=>rfl
   | some u=>
    have:=lV e;exact rY k j (u+1) _ (by omega) (by omega)
  .rw[if_neg g,if_neg g]
theorem aAO(line a b:Int)(cs:LC)(ns os:LB)(fs:Lo)(ls:Ll)(ks:Lk): af Tryz.prog G0 143 [net cs ns os fs ls ks,.dat I line,.dat I a,.dat I b] [] ⟨True,.tup [.dat I (po (cs,ns,os,fs,ls,ks) line a b),.dat I (rz (cs,ns,os,fs,ls,ks) line a b)],[]⟩:=by
 refine ae (c:=mkr aC9 λ_=>false) aCv aCG hm (WJ line a b cs ns os fs ls ks ⟨rfl,λ_=>?_⟩);simp only[qc,Dk,Di,qd,Dp,Ei,Eh,Dc];have h2:JM [a,b]:=(by show(2:Nat)<=1000000;decide);refine⟨h2,λ⟨hu,_⟩=>?_,λh=>?_,λ⟨⟨hu,hab⟩,hb⟩=>?_⟩
 .obtain⟨⟨_,a0,a1⟩,_⟩:=uY cs ns os fs ls ks hu;exact bD (by omega)
 .have hn:nM (cs,ns,os,fs,ls,ks) line a b=false:=by
   unfold nM;rcases h with(h | h) | h
   .rw[h];rfl
   .rw[vH (show ¬a<b by omega),xJ];rfl
   .rw[vH (show ¬b<=a+86400 by omega),xJ]
  unfold po rz;rw[hn];exact⟨rfl,rfl⟩
 .obtain⟨⟨hl,a0,a1⟩,_,b0,b1⟩:=uY cs ns os fs ls ks hu;have hok:nM (cs,ns,os,fs,ls,ks) line a b=true:=by
   unfold nM;rw[hu,qV (show a<b by omega),qV (show b<=a+86400 by omega)];rfl
  refine⟨⟨(0,a),⟨hok,qL _,(by show a<=b+86400;omega),qL _,(by show(0:Int)<=86400;omega),rfl⟩,rfl,rfl⟩,λx=>?_⟩;obtain⟨m,t⟩:=x;simp only;rintro⟨_,t0,t1,m0,m1,hw⟩;refine⟨λht=>?_,λht=>?_⟩
  .have hk:(b-t).toNat=(b-t).toNat-1+1:=by omega
   rw[hk,waitGo,if_pos ht]at hw;refine⟨⟨hl,by omega,by omega⟩,λhf=>?_,λhf=>?_⟩
   .have e:gw (cs,ns,os,fs,ls,ks) line t=none:=by
     unfold m5 at hf;cases e:gw (cs,ns,os,fs,ls,ks) line t with
     | none=>rfl
     | some u=>rw[e]at hf;cases hf
    rw[e]at hw;have hw:An (cs,ns,os,fs,ls,ks) line a b=none:=hw.symm;unfold po rz;rw[hok,hw];exact⟨rfl,rfl⟩
   .obtain⟨u,e⟩:∃u,gw (cs,ns,os,fs,ls,ks) line t=some u:=by
     unfold m5 at hf;cases e:gw (cs,ns,os,fs,ls,ks) line t with
     | none=>rw[e]at hf;cases hf
     | some u=>exact⟨u,rfl⟩
    obtain⟨u0,u1⟩:=lV e;have hd:m4 (cs,ns,os,fs,ls,ks) line t=u:=by unfold m4;rw[e];rfl
    rw[e]at hw;have hw:waitGo (cs,ns,os,fs,ls,ks) line b ((b-t).toNat-1) (u+1) (rJ m (u-t))=An (cs,ns,os,fs,ls,ks) line a b:=hw;have hmx:0<=rJ m (u-t)/\rJ m (u-t)<=86400:=by unfold rJ;split<;>omega
    rw[hd];refine⟨bD (by omega),bD (by omega),(rJ m (u-t),u+1),⟨hok,(by show a<=u+1;omega),(by show u+1<=b+86400;omega),hmx.1,hmx.2,?_⟩,⟨rfl,rfl⟩,(by show(b-(u+1)).toNat<_;omega)⟩;rw[<- hw];exact rY _ _ _ _ (qJ _) (by show(b-(u+1)).toNat<=_;omega)
  .have hk:(b-t).toNat=0:=by omega
   rw[hk,waitGo]at hw;unfold po rz;rw[hok,<- hw];exact⟨rfl,rfl⟩
theorem aEY: ak Tryz.prog G0 aFy:=ai (ag λ((cs,ns,os,fs,ls,ks),l,a,b,_)=>aAO l a b cs ns os fs ls ks) aCv
end Go.Eng.Sv
set_option maxRecDepth 100000
noncomputable section
namespace Go.Eng.Sv
open Go.Proofs
open Go.Eng.Mp (aL cD qj bC upto at2 oM dS gY xm)
def dd: Int:=-1099511627776
def aCR(a b:Int): Bool:=decide (0<=a)&&decide (a<b)&&decide (b<=2000000)&&decide (b<=a+86400)
def gA(n:Net)(a b:Int): Bool:=aCR a b&&aO n
def Na(n:Net)(a b:Int): Prop:=gA n a b=true
def tf(n:Net)(o:Int): Off:=n.2.2.2.1.getD o.toNat (⟨#[]⟩,0,0,0,0,0,[])
def zr(n:Net)(a b i:Int): Int:=if rz n i a b=0 then po n i a b+(aK n i).2.2.2.2.1+(tf n (aK n i).2.2.1).2.2.2.2.1*(tf n (aK n i).2.2.1).2.2.2.2.2.1 else dd
def bq(n:Net)(a b:Int): Li:=(List.range n.2.2.2.2.1.length).map λi:Nat=>zr n a b i
def gR(n:Net)(a b k:Int): Li:=(bq n a b).take k.toNat++List.replicate (n.2.2.2.2.1.length-k.toNat) 0
def Cm(n:Net)(a b k:Int): Prop:=gA n a b=true/\0<=k/\k<=n.2.2.2.2.1.length
def dw(n:Net)(c:Li): Prop:=aO n=true/\c.length=n.2.2.2.2.1.length/\∀i:Int,0<=i->i<c.length->c.getD i.toNat 0=dd\/(0<c.getD i.toNat 0/\c.getD i.toNat 0<=1000000)
def ER(_ _:Int): Int:=dd
def aBM(_ _:Int): Prop:=True
def eZ(ls:Ll)(c:Li): Nat->Int->Int->Int
 | 0,_,_=>dd
 | k+1,o,d=>if c.getD k 0≠dd/\(ls.getD k (⟨#[]⟩,0,0,0,0,0)).2.1=o/\(ls.getD k (⟨#[]⟩,0,0,0,0,0)).2.2.1=d then max (eZ ls c k o d) (-(c.getD k 0))else eZ ls c k o d
def aY(n:Net)(c:Li)(k:Int): Lj:=aL (eZ n.2.2.2.2.1 c k.toNat) n.2.2.2.1.length
def bu(n:Net)(c:Li): Lj:=aY n c n.2.2.2.2.1.length
def NZ(n:Net)(c:Li)(k:Int): Prop:=dw n c/\0<=k/\k<=n.2.2.2.2.1.length
def KO(e:Int)(s:Lj)(o d:Int): Int:=if e=0 then(if at2 s o d=dd then -1 else -(at2 s o d))else -1
def Gx(e:Int)(s:Lj)(o d:Int): Prop:=e=0->oM o d s/\(at2 s o d=dd\/(-1152921504606846976<=at2 s o d/\at2 s o d<=1152921504606846976))
def aP(n:Net)(c:Li): Lj:=aL (KO (gY (bu n c)) (dS (bu n c))) n.2.2.2.1.length
def k9(n:Net)(c:Li)(b:Lj)(o d i:Int): Bool:=decide ((aK n i).2.1=o)&&decide (c.getD i.toNat 0≠dd)&&decide (0<=at2 b (aK n i).2.2.1 d)&&decide (c.getD i.toNat 0+at2 b (aK n i).2.2.1 d=at2 b o d)
def rF(n:Net)(c:Li)(b:Lj)(o d:Int): Int:=match(List.range n.2.2.2.2.1.length).find? λi:Nat=>k9 n c b o d i with
 | some i=>i
 | none=>-1
def Pz(n:Net)(b:Lj): Prop:=∀o d:Int,0<=o->o<n.2.2.2.1.length->0<=d->d<n.2.2.2.1.length->oM o d b/\-1152921504606846976<=at2 b o d/\at2 b o d<=1152921504606846976
def uz(n:Net)(c:Li)(b:Lj)(o d:Int): Prop:=dw n c/\Pz n b/\0<=o/\o<n.2.2.2.1.length/\0<=d/\d<n.2.2.2.1.length
def uy(n:Net)(c:Li)(b:Lj)(o d k:Int): Prop:=uz n c b o d/\0<=k/\k<=n.2.2.2.2.1.length/\(List.range k.toNat).all (λi:Nat=>!k9 n c b o d i)=true
def mQ(n:Net)(c:Li)(b:Lj)(o d:Int): Int:=if o=d\/at2 b o d<0 then -1 else rF n c b o d
def BB(n:Net)(c:Li): Lj:=aL (mQ n c (aP n c)) n.2.2.2.1.length
def lJ(n:Net)(a b:Int): Lj:=if gA n a b then BB n (bq n a b)else[]
def KQ0: Kt:=kOr 145 (az [.val M] (λ(m,_)=>xm m) λ(m,_)=>.tup [.dat M (dS m),.dat I (gY m)]) aFy
theorem WR(a b:Int)(cs:LC)(ns os:LB)(fs:Lo)(ls:Ll)(ks:Lk)(hvc:
 let c1:=Dp a 0;let c2:=Di c1;let c3:=Dz c1 true (Eh b a);let c4:=Di c3;let c5:=Dz c3 true (Ei b 2000000);let c6:=Di c5;let c10:=c6->c6->c6;let c7:=Dz c5 true (Ei (b-a) 86400);let c8:=(cs,ns,os,fs,ls,ks);let c9:=gA c8 a b;true/\(True->(c2->c2->c2)/\(c2->c2->c2)/\(Dk true c2->c2)/\(c4->c4->c4)/\(Dk true c4->c4)/\c10/\c10/\(c6->inR .i64 (b-a))/\c10/\(Dk true c6->c6)/\(c7->false=c9/\True)/\(c7=false->True/\Ea (Df (fA c8)) 0=c9/\True))):
  evF (mkc KQ0) aA 72 [net cs ns os fs ls ks,.dat I a,.dat I b] [] ⟨True,.dat .bool (gA (cs,ns,os,fs,ls,ks) a b),[]⟩:=oE hvc
def aCd(n:Net)(a b:Int): Ann:=⟨λid s=>match id with
 | 3=>match s.sig.T 16 with
  | .buf nm _=>some {α:=Int,inv:=λk=>Cm n a b k,st:=λk=>iE (put s [(20,.dat I k)]) nm (.buf 3 I (gR n a b k) []),μ:=λk=>Dc (Dh (Df n.2.2.2.2.1) k)}
  | _=>none
 | _=>none,λ_ _=>none,λ_ _=>none⟩
theorem Rq(a b:Int)(cs:LC)(ns os:LB)(fs:Lo)(ls:Ll)(ks:Lk)(hvc:
 let c1:=(cs,ns,os,fs,ls,ks);let c2:=Df ls;let c3:=Dc c2;true/\(Na c1 a b->0<=c2/\(Dx 8*c2)<=281474976710656/\c2<=9223372036854775807/\(∃x,Cm c1 a b x/\a=a/\b=b/\c1=c1/\Value.slice none 0 0=Value.slice none 0 0/\c3=c3/\ls=ls/\c2=c2/\0=x/\Ep c2 (0:Int)=gR c1 a b x/\True)/\∀(x:Int),let c6:=Ec (rz c1 x a b) 0;let c7:=gR c1 a b x;let c8:=Dj c7;let c9:=x+1;let c10:=(Du ls (Dc x) (ByteArray.mk #[],(0:Int),(0:Int),(0:Int),(0:Int),(0:Int))).2.2;let c12:=po c1 x a b+c10.2.2.1;let c13:=(Du fs (Dc c10.1) (ByteArray.mk #[],(0:Int),(0:Int),(0:Int),(0:Int),(0:Int),Dt ByteArray)).2.2.2.2;let c14:=c13.1*c13.2.1;let c15:=c12+c14;Cm c1 a b x->(Dp x c2->0<=x/\x<c2/\1=1/\0=0/\True/\(c6->c8=c3/\0<=x/\x<Dx c8/\c8=c3/\inR .i64 c9/\∃y,Cm c1 a b y/\(a=a/\b=b/\c1=c1/\Value.slice none 0 0=Value.slice none 0 0/\c3=c3/\ls=ls/\c2=c2/\c9=y/\En c7 (Dc x) (-1099511627776)=gR c1 a b y/\True)/\Dc (c2-y)<Dc (c2-x))/\(c6=false->1=1/\1=1/\0=0/\0<=c10.1/\c10.1<Df fs/\1=1/\0=0/\1=1/\1=1/\0=0/\inR .i64 c12/\1=1/\1=1/\0=0/\1=1/\1=1/\0=0/\inR .i64 c14/\inR .i64 c15/\c8=c3/\0<=x/\x<Dx c8/\c8=c3/\inR .i64 c9/\∃y,Cm c1 a b y/\(a=a/\b=b/\c1=c1/\Value.slice none 0 0=Value.slice none 0 0/\c3=c3/\ls=ls/\c2=c2/\c9=y/\En c7 (Dc x) c15=gR c1 a b y/\True)/\Dc (c2-y)<Dc (c2-x)))/\(Dp x c2=false->c8=c3/\c7=bq c1 a b/\True))):
  evF (mkc KQ0) (lvA [(3,[1,2,3,6,7,8,9,10,11,12,18,19,20])] (aCd (cs,ns,os,fs,ls,ks) a b)) 73 [net cs ns os fs ls ks,.dat I a,.dat I b] [] ⟨Na (cs,ns,os,fs,ls,ks) a b,.dat R (bq (cs,ns,os,fs,ls,ks) a b),[]⟩:=oE hvc
def aAJ(n:Int)(g:Int->Int->Int): Ann:=⟨λid s=>match id with
 | 3=>match s.sig.T 11 with
  | .buf nm _=>some {α:=Int,inv:=λk=>upto k n,st:=λk=>iE (put s [(14,.dat I k),(5,.buf nm (Dc n))]) nm (.buf 36 R (cD g n k) []),μ:=λk=>Dc (Dh n k)}
  | _=>none
 | 7=>match s.sig.T 6,s.sig.T 22 with
  | .dat (.int .i64) i,.buf nm _=>some {α:=Int,inv:=λk=>upto k n,st:=λk=>iE (put s [(29,.dat I k)]) nm (.buf 3 I (qj g n i k) []),μ:=λk=>Dc (Dh n k)}
  | _,_=>none
 | _=>none,λ_ _=>none,λ_ _=>none⟩
theorem QH(preT:Int->Int->Prop)(g:Int->Int->Int)(cs:LC)(ns os:LB)(fs:Lo)(ls:Ll)(ks:Lk)(hvc:
 let c12:=Ty.int .i64;let c1:=Df fs;let c2:=Ep c1 (Dt Int);let c3:=Dc c1;let c4:=(cs,ns,os,fs,ls,ks);let c5:=Int.ofNat c3;let c6:=Ep c1 (0:Int);true/\(bC c1 preT->0<=c1/\(Dx 24*c1)<=281474976710656/\c1<=9223372036854775807/\Dj c2=c3/\(∃x,upto x c1/\AV.clo2 c12 c12 c12 preT g=AV.clo2 (Ty.int IntKind.i64) c12 c12 preT g/\c4=c4/\Value.slice none 0 0=Value.slice none 0 0/\c3=c3/\c5=c5/\0=x/\c2=cD g c1 x/\True)/\∀(x:Int),let c7:=Dj (cD g c1 x);let c8:=x+1;upto x c1->(Dp x c5->0<=c1/\(Dx 8*c1)<=281474976710656/\c1<=9223372036854775807/\c7=c3/\0<=x/\x<Dx c7/\c7=c3/\Dj c6=c3/\c7=c3/\0<=x/\x<Dx c7/\c7=c3/\Dc x=Dc x/\Dj c6=c3/\(∃x_3,upto x_3 c1/\AV.clo2 c12 c12 c12 preT g=AV.clo2 c12 c12 c12 preT g/\c4=c4/\Value.slice none 0 0=Value.slice none 0 0/\c3=c3/\x=x/\c5=c5/\x=x/\c5=c5/\0=x_3/\cD g c1 x=cD g c1 x/\Dc x=Dc x/\c3=c3/\c6=qj g c1 x x_3/\True)/\∀(x_3:Int),let c9:=qj g c1 x x_3;let c10:=Dj c9;let c11:=x_3+1;
 upto x_3 c1->(Dp x_3 c5->c7=c3/\0<=x/\x<Dx c7/\c7=c3/\Dc x=Dc x/\preT x x_3/\c10=c3/\0<=x_3/\x_3<Dx c10/\c10=c3/\inR .i64 c11/\∃y,upto y c1/\(AV.clo2 c12 c12 c12 preT g=AV.clo2 c12 c12 c12 preT g/\c4=c4/\Value.slice none 0 0=Value.slice none 0 0/\c3=c3/\x=x/\c5=c5/\x=x/\c5=c5/\c11=y/\cD g c1 x=cD g c1 x/\Dc x=Dc x/\c3=c3/\En c9 (Dc x_3) (g x x_3)=qj g c1 x y/\True)/\Dc (c1-y)<Dc (c1-x_3))/\(Dp x_3 c5=false->inR .i64 c8/\∃y,upto y c1/\(AV.clo2 c12 c12 c12 preT g=AV.clo2 c12 c12 c12 preT g/\c4=c4/\Value.slice none 0 0=Value.slice none 0 0/\c3=c3/\c5=c5/\c8=y/\c10=c3/\En (cD g c1 x) (Dc x) c9=cD g c1 y/\True)/\Dc (c1-y)<Dc (c1-x)))/\(Dp x c5=false->c7=c3/\cD g c1 x=aL g c1/\True))):
  evF (mkc KQ0) (lvA [(3,[1,2,4,5,6,7,13,14,28,29]),(7,[1,2,4,5,6,7,13,14,28,29])] (aAJ (Df fs) g)) 75 [net cs ns os fs ls ks,.clo2 I I I preT g] [] ⟨bC (Df fs) preT,.dat M (aL g (Df fs)),[]⟩:=oE hvc
def aAI(n:Int)(g:Int->Int->Int): Ann:=⟨λid s=>match id with
 | 3=>match s.sig.T 11 with
  | .buf nm _=>some {α:=Int,inv:=λk=>upto k n,st:=λk=>iE (put s [(14,.dat I k),(5,.buf nm (Dc n))]) nm (.mat 36 3 I (cD g n k) []),μ:=λk=>Dc (Dh n k)}
  | _=>none
 | 7=>match s.sig.T 6,s.sig.T 22 with
  | .dat (.int .i64) i,.buf nm _=>some {α:=Int,inv:=λk=>upto k n,st:=λk=>iE (put s [(29,.dat I k)]) nm (.buf 3 I (qj g n i k) []),μ:=λk=>Dc (Dh n k)}
  | _,_=>none
 | _=>none,λ_ _=>none,λ_ _=>none⟩
theorem La(preT:Int->Int->Prop)(g:Int->Int->Int)(cs:LC)(ns os:LB)(fs:Lo)(ls:Ll)(ks:Lk)(hvc:
 let c13:=Ty.int .i64;let c1:=Df fs;let c2:=Ep c1 (Dt Int);let c3:=Dc c1;let c4:=(cs,ns,os,fs,ls,ks);let c5:=Int.ofNat c3;let c6:=Ep c1 (0:Int);let c7:=aL g c1;true/\(bC c1 preT->0<=c1/\(Dx 24*c1)<=281474976710656/\c1<=9223372036854775807/\Dj c2=c3/\(∃x,upto x c1/\AV.clo2 c13 c13 c13 preT g=AV.clo2 (Ty.int IntKind.i64) c13 c13 preT g/\c4=c4/\Value.slice none 0 0=Value.slice none 0 0/\c3=c3/\c5=c5/\0=x/\c2=cD g c1 x/\Fb (cD g c1 x)/\True)/\∀(x:Int),let c8:=Dj (cD g c1 x);let c9:=x+1;upto x c1->(Dp x c5->0<=c1/\(Dx 8*c1)<=281474976710656/\c1<=9223372036854775807/\c8=c3/\0<=x/\x<Dx c8/\c8=c3/\Dj c6=c3/\c8=c3/\0<=x/\x<Dx c8/\c8=c3/\Dc x=Dc x/\Dj c6=c3/\(∃x_3,upto x_3 c1/\AV.clo2 c13 c13 c13 preT g=AV.clo2 c13 c13 c13 preT g/\c4=c4/\Value.slice none 0 0=Value.slice none 0 0/\c3=c3/\x=x/\c5=c5/\x=x/\c5=c5/\0=x_3/\cD g c1 x=cD g c1 x/\Dc x=Dc x/\c3=c3/\c6=qj g c1 x x_3/\True)/\∀(x_3:Int),let c10:=qj g c1 x x_3;let c11:=Dj c10;let c12:=x_3+1;
 upto x_3 c1->(Dp x_3 c5->c8=c3/\0<=x/\x<Dx c8/\c8=c3/\Dc x=Dc x/\preT x x_3/\c11=c3/\0<=x_3/\x_3<Dx c11/\c11=c3/\inR .i64 c12/\∃y,upto y c1/\(AV.clo2 c13 c13 c13 preT g=AV.clo2 c13 c13 c13 preT g/\c4=c4/\Value.slice none 0 0=Value.slice none 0 0/\c3=c3/\x=x/\c5=c5/\x=x/\c5=c5/\c12=y/\cD g c1 x=cD g c1 x/\Dc x=Dc x/\c3=c3/\En c10 (Dc x_3) (g x x_3)=qj g c1 x y/\True)/\Dc (c1-y)<Dc (c1-x_3))/\(Dp x_3 c5=false->inR .i64 c9/\∃y,upto y c1/\(AV.clo2 c13 c13 c13 preT g=AV.clo2 c13 c13 c13 preT g/\c4=c4/\Value.slice none 0 0=Value.slice none 0 0/\c3=c3/\c5=c5/\c9=y/\Dj c10=c3/\En (cD g c1 x) (Dc x) c10=cD g c1 y/\True)/\Dc (c1-y)<Dc (c1-x)))/\(Dp x c5=false->c3=Dj c7/\cD g c1 x=c7/\True))):
  evF (mkc KQ0) (lvA [(3,[1,2,4,5,6,7,13,14,28,29]),(7,[1,2,4,5,6,7,13,14,28,29])] (aAI (Df fs) g)) 75 [net cs ns os fs ls ks,.clo2 I I I preT g] [] ⟨bC (Df fs) preT,.buf 0 (Dj (aL g (Df fs))),[(0,.mat 36 3 I (aL g (Df fs)) [])]⟩:=oE hvc
theorem IY(o d:Int)(hvc:
 true/\(aBM o d->(-1099511627776:Int)=ER o d/\True)):
  evF (mkc KQ0) aA 144 [.dat I o,.dat I d] [] ⟨aBM o d,.dat I (ER o d),[]⟩:=oE hvc
theorem IX(e:Int)(s:Lj)(o d:Int)(hvc:
 let c1:=Ec e 0;let c2:=Di c1;let c8:=c2->c2->c2;let c3:=Du s (Dc o) [];let c4:=Du c3 (Dc d) 0;let c5:=Dz c1 true (Ea c4 (-1099511627776));let c6:=KO e s o d;let c7:=Fg c4;true/\(Gx e s o d->c8/\c8/\(c2->0<=o)/\(c2->o<Df s)/\c8/\c8/\c8/\(c2->0<=d)/\(c2->d<Df c3)/\c8/\c8/\(Dk true c2->c2)/\(c5->(-1:Int)=c6/\True)/\(c5=false->0<=o/\o<Df s/\0<=d/\d<Df c3/\inR IntKind.i64 c7/\c7=c6/\True))):
  evF (mkc KQ0) aA 146 [.dat I o,.dat I d,.ip I e,.ip M s] [] ⟨Gx e s o d,.dat I (KO e s o d),[]⟩:=oE hvc
def LX(args:List AV)(m:Mem): Option jP:=match m,args with
 | [],[.agg [.dat (.sl (.pair (.int .i64) (.pair (.sl .bool) (.sl (.int .i64))))) cs,.dat (.sl .str) ns,.dat (.sl .str) os,.dat (.sl (.pair .str (.pair (.int .i64) (.pair (.int .i64) (.pair (.int .i64) (.pair (.int .i64) (.pair (.int .i64) (.sl .str)))))))) fs,.dat (.sl (.pair .str (.pair (.int .i64) (.pair (.int .i64) (.pair (.int .i64) (.pair (.int .i64) (.int .i64))))))) ls,.dat (.sl (.pair .str (.pair (.int .i64) (.int .i64)))) ks],.fn 144 []]=>some ⟨bC (Df fs) aBM,.buf 0 (Dj (aL ER (Df fs))),[(0,.mat 36 3 I (aL ER (Df fs)) [])]⟩
 | [],[.agg [.dat (.sl (.pair (.int .i64) (.pair (.sl .bool) (.sl (.int .i64))))) cs,.dat (.sl .str) ns,.dat (.sl .str) os,.dat (.sl (.pair .str (.pair (.int .i64) (.pair (.int .i64) (.pair (.int .i64) (.pair (.int .i64) (.pair (.int .i64) (.sl .str)))))))) fs,.dat (.sl (.pair .str (.pair (.int .i64) (.pair (.int .i64) (.pair (.int .i64) (.pair (.int .i64) (.int .i64))))))) ls,.dat (.sl (.pair .str (.pair (.int .i64) (.int .i64)))) ks],.fn 146 [.ip (.int .i64) e,.ip (.sl (.sl (.int .i64))) s]]=>some ⟨bC (Df fs) (Gx e s),.dat M (aL (KO e s) (Df fs)),[]⟩
 | _,_=>none
def KQ1: Kt:=kOr 75 LX <|
 kOr 72 (az [.row N,.val I,.val I] (λ_=>True) λ(n,a,b,_)=>.dat .bool (gA n a b)) <|
 kOr 73 (az [.row N,.val I,.val I] (λ(n,a,b,_)=>Na n a b) λ(n,a,b,_)=>.dat R (bq n a b)) KQ0
def TY(s:St): List Nat:=s.mem.filterMap λp=>match p.2 with
 | .mat _ _ _ _ _=>some p.1
 | _=>none
def Zp(n:Net)(c:Li): Ann:=⟨λid s=>match id with
 | 3=>match s.sig.T 11 with
  | .buf nm _=>some {α:=Int,inv:=λk=>NZ n c k,st:=λk=>iE (put s [(15,.dat I k)]) nm (.mat 36 3 I (aY n c k) []),μ:=λk=>Dc (Dh (Df n.2.2.2.2.1) k)}
  | _=>none
 | _=>none,λid s=>match id with
 | 8=>some (frz (TY s) s)
 | 9=>some (frz (allNames s) s)
 | _=>none,λ_ _=>none⟩
theorem IH(c:Li)(cs:LC)(ns os:LB)(fs:Lo)(ls:Ll)(ks:Lk)(hvc:
 let c1:=(cs,ns,os,fs,ls,ks);let c2:=Df fs;let c3:=aL ER c2;let c4:=Dj c3;let c5:=Df ls;true/\(dw c1 c->bC c2 aBM/\(∃x,NZ c1 c x/\c=c/\c1=c1/\Value.slice none 0 0=Value.slice none 0 0/\c4=c4/\ls=ls/\c5=c5/\0=x/\c3=aY c1 c x/\True)/\∀(x:Int),let c7:=Du c (Dc x) 0;let c8:=Ec c7 (-1099511627776);let c9:=Dj (aY c1 c x);let c10:=(Du ls (Dc x) (ByteArray.mk #[],(0:Int),(0:Int),(0:Int),(0:Int),(0:Int))).2;let c13:=Dc c10.1;let c14:=Du (aY c1 c x) c13 [];let c15:=Dj c14;let c16:=Fg c7;let c17:=x+1;let c18:=Dc c10.2.1;let c19:=dS (aY c1 c x);let c20:=gY (aY c1 c x);
 NZ c1 c x->(Dp x c5->0<=x/\x<c5/\1=1/\0=0/\0<=x/\x<Df c/\(c8->1=1/\1=1/\0=0/\c9=c4/\0<=c10.1/\c10.1<Dx c9/\c9=c4/\1=1/\1=1/\0=0/\1=1/\1=1/\0=0/\c9=c4/\0<=c10.1/\c10.1<Dx c9/\c9=c4/\1=1/\1=1/\0=0/\c9=c4/\0<=c10.2.1/\c10.2.1<Dx c15/\c9=c4/\c15=c15/\0<=x/\x<Df c/\inR .i64 c16/\c9=c4/\0<=c10.2.1/\c10.2.1<Dx c15/\c9=c4/\c15=c15/\inR .i64 c17/\∃y,NZ c1 c y/\(c=c/\c1=c1/\Value.slice none 0 0=Value.slice none 0 0/\c4=c4/\ls=ls/\c5=c5/\c17=y/\En (aY c1 c x) c13 (En c14 c18 (Ez (Du c14 c18 0) c16))=aY c1 c y/\True)/\Dc (c5-y)<Dc (c5-x))/\(c8=false->inR IntKind.i64 c17/\∃y,NZ c1 c y/\(c=c/\c1=c1/\Value.slice none 0 0=Value.slice none 0 0/\c4=c4/\ls=ls/\c5=c5/\c17=y/\aY c1 c x=aY c1 c y/\True)/\Dc (c5-y)<Dc (c5-x)))/\(Dp x c5=false->c=c/\c1=c1/\Value.slice none 0 0=Value.slice none 0 0/\Dj (aY c1 c x)=c4/\aY c1 c x=aY c1 c x/\ls=ls/\c5=c5/\x=x/\Dp x c5=Dp x c5/\xm (aY c1 c x)/\1=1/\0=0/\1=1/\0=0/\c=c/\c1=c1/\Value.slice none 0 0=Value.slice none 0 0/\aY c1 c x=aY c1 c x/\1=1/\0=0/\c19=c19/\1=1/\0=0/\c20=c20/\ls=ls/\c5=c5/\x=x/\Dp x c5=Dp x c5/\c19=c19/\c20=c20/\aY c1 c x=aY c1 c x/\c19=c19/\c20=c20/\c19=c19/\c20=c20/\bC c2 (Gx c20 c19)/\aL (KO c20 c19) c2=aP c1 c/\True))):
  evF (mkc KQ1) (lvA [(3,[1,2,4,5,6,7,8,9,13,14,15])] (Zp (cs,ns,os,fs,ls,ks) c)) 74 [net cs ns os fs ls ks,.dat R c] [] ⟨dw (cs,ns,os,fs,ls,ks) c,.dat M (aP (cs,ns,os,fs,ls,ks) c),[]⟩:=oE hvc
def aER(n:Net)(c:Li)(b:Lj)(o d:Int): Ann:=⟨λid s=>match id with
 | 3=>some {α:=Int,inv:=λk=>uy n c b o d k,st:=λk=>put s [(17,.dat I k),(11,.dat I (-1))],μ:=λk=>Dc (Dh (Df n.2.2.2.2.1) k)}
 | _=>none,λ_ _=>none,λ_ _=>none⟩
theorem Xo(c:Li)(b:Lj)(o d:Int)(cs:LC)(ns os:LB)(fs:Lo)(ls:Ll)(ks:Lk)(hvc:
 let c1:=(cs,ns,os,fs,ls,ks);let c2:=Df ls;let c4:=Du b (Dc o) [];let c5:=rF c1 c b o d;true/\(uz c1 c b o d->(∃x,uy c1 c b o d x/\c=c/\b=b/\o=o/\d=d/\(0:Int)=(0:Int)/\(-1:Int)=(-1:Int)/\ls=ls/\c2=c2/\0=x/\True)/\∀(x:Int),let c6:=(Du ls (Dc x) (ByteArray.mk #[],(0:Int),(0:Int),(0:Int),(0:Int),(0:Int))).2;let c7:=Ec c6.1 o;let c8:=Di c7;let c12:=c8->c8->c8;let c9:=Du c (Dc x) 0;let c10:=Dz c7 true (Ea c9 (-1099511627776));let c11:=Di c10;let c3:=c11->c11->c11;let c13:=Du b (Dc c6.2.1) [];let c14:=Du c13 (Dc d) 0;let c15:=Dz c10 true (Dp c14 0);let c16:=x+1;let c17:=c9+c14;let c18:=Ea c17 (Du c4 (Dc d) 0);uy c1 c b o d x->(Dp x c2->0<=x/\x<c2/\1=1/\0=0/\1=1/\1=1/\0=0/\c12/\c12/\(c8->0<=x)/\(c8->x<Df c)/\c12/\c12/\(Dk true c8->c8)/\(c11->1=1)/\c3/\(c11->1=1)/\(c11->0=0)/\c3/\c3/\(c11->0<=c6.2.1)/\(c11->c6.2.1<Df b)/\c3/\c3/\c3/\(c11->0<=d)/\(c11->d<Df c13)/\c3/\c3/\(Dk true c11->c11)/\(c15->inR .i64 c16/\∃y,uy c1 c b o d y/\(c=c/\b=b/\o=o/\d=d/\(0:Int)=(0:Int)/\(-1:Int)=(-1:Int)/\ls=ls/\c2=c2/\c16=y/\True)/\Dc (c2-y)<Dc (c2-x))/\(c15=false->0<=x/\x<Df c/\1=1/\1=1/\0=0/\0<=c6.2.1/\c6.2.1<Df b/\0<=d/\d<Df c13/\inR IntKind.i64 c17/\0<=o/\o<Df b/\0<=d/\d<Df c4/\(c18->x=c5/\True)/\(c18=false->inR IntKind.i64 c16/\∃y,uy c1 c b o d y/\(c=c/\b=b/\o=o/\d=d/\(0:Int)=(0:Int)/\(-1:Int)=(-1:Int)/\ls=ls/\c2=c2/\c16=y/\True)/\Dc (c2-y)<Dc (c2-x))))/\(Dp x c2=false->(-1:Int)=c5/\True))):
  evF (mkc KQ1) (lvA [(3,[1,2,3,4,10,11,12,13,15,16,17])] (aER (cs,ns,os,fs,ls,ks) c b o d)) 77 [net cs ns os fs ls ks,.dat R c,.dat M b,.dat I o,.dat I d] [] ⟨uz (cs,ns,os,fs,ls,ks) c b o d,.dat I (rF (cs,ns,os,fs,ls,ks) c b o d),[]⟩:=oE hvc
def KQ2: Kt:=kOr 74 (az [.row N,.val R] (λ(n,c,_)=>dw n c) λ(n,c,_)=>.dat M (aP n c)) <|
 kOr 77 (az [.row N,.val R,.val M,.val I,.val I] (λ(n,c,b,o,d,_)=>uz n c b o d) λ(n,c,b,o,d,_)=>.dat I (rF n c b o d)) KQ1
theorem QZ(b:Lj)(c:Li)(o d:Int)(cs:LC)(ns os:LB)(fs:Lo)(ls:Ll)(ks:Lk)(hvc:
 let c6:=Ea o d;let c5:=Di c6->Di c6->Di c6;let c1:=(cs,ns,os,fs,ls,ks);let c2:=Du b (Dc o) [];let c3:=Dz c6 true (Dp (Du c2 (Dc d) 0) 0);let c4:=mQ c1 c b o d;true/\(uz c1 c b o d->c5/\c5/\(Di c6->0<=o)/\(Di c6->o<Df b)/\c5/\c5/\c5/\(Di c6->0<=d)/\(Di c6->d<Df c2)/\c5/\c5/\(Dk true (Di c6)->Di c6)/\(c3->(-1:Int)=c4/\True)/\(c3=false->uz c1 c b o d/\rF c1 c b o d=c4/\True))):
  evF (mkc KQ2) aA 76 [.dat I o,.dat I d,.ip M b,.ip N (cs,ns,os,fs,ls,ks),.ip R c] [] ⟨uz (cs,ns,os,fs,ls,ks) c b o d,.dat I (mQ (cs,ns,os,fs,ls,ks) c b o d),[]⟩:=oE hvc
def KQ3: Kt:=kOr 75 (λargs m=>match m,args with
 | [],[.agg [.dat (.sl (.pair (.int .i64) (.pair (.sl .bool) (.sl (.int .i64))))) cs,.dat (.sl .str) ns,.dat (.sl .str) os,.dat (.sl (.pair .str (.pair (.int .i64) (.pair (.int .i64) (.pair (.int .i64) (.pair (.int .i64) (.pair (.int .i64) (.sl .str)))))))) fs,.dat (.sl (.pair .str (.pair (.int .i64) (.pair (.int .i64) (.pair (.int .i64) (.pair (.int .i64) (.int .i64))))))) ls,.dat (.sl (.pair .str (.pair (.int .i64) (.int .i64)))) ks],.fn 76 [.ip (.sl (.sl (.int .i64))) b,.ip (.pair (.sl (.pair (.int .i64) (.pair (.sl .bool) (.sl (.int .i64))))) (.pair (.sl .str) (.pair (.sl .str) (.pair (.sl (.pair .str (.pair (.int .i64) (.pair (.int .i64) (.pair (.int .i64) (.pair (.int .i64) (.pair (.int .i64) (.sl .str)))))))) (.pair (.sl (.pair .str (.pair (.int .i64) (.pair (.int .i64) (.pair (.int .i64) (.pair (.int .i64) (.int .i64))))))) (.sl (.pair .str (.pair (.int .i64) (.int .i64))))))))) n,.ip (.sl (.int .i64)) c]]=>some ⟨bC (Df fs) (uz n c b),.dat M (aL (mQ n c b) (Df fs)),[]⟩
 | _,_=>none) KQ2
def aBC: Ann:=⟨λ_ _=>none,λid s=>match id with
 | 5=>some (frz (allNames s) s)
 | _=>none,λ_ _=>none⟩
theorem QO(a b:Int)(cs:LC)(ns os:LB)(fs:Lo)(ls:Ll)(ks:Lk)(hvc:
 let c1:=(cs,ns,os,fs,ls,ks);let c2:=gA c1 a b;let c3:=Di c2;let c4:=lJ c1 a b;let c5:=bq c1 a b;let c6:=aP c1 c5;let c7:=Df fs;true/\(True->True/\(c3->c4=Dt (Li)/\True)/\(c3=false->Na c1 a b/\1=1/\0=0/\1=1/\0=0/\dw c1 c5/\1=1/\0=0/\cs=cs/\ns=ns/\os=os/\fs=fs/\ls=ls/\ks=ks/\a=a/\b=b/\c1=c1/\Value.slice none 0 0=Value.slice none 0 0/\1=1/\0=0/\c5=c5/\1=1/\0=0/\c6=c6/\cs=cs/\ns=ns/\os=os/\fs=fs/\ls=ls/\ks=ks/\a=a/\b=b/\c2=c2/\c3=c3/\cs=cs/\ns=ns/\os=os/\fs=fs/\ls=ls/\ks=ks/\a=a/\b=b/\c5=c5/\cs=cs/\ns=ns/\os=os/\fs=fs/\ls=ls/\ks=ks/\c5=c5/\c6=c6/\bC c7 (uz c1 c5 c6)/\aL (mQ c1 c5 c6) c7=c4/\True))):
  evF (mkc KQ3) aBC 23 [net cs ns os fs ls ks,.dat I a,.dat I b] [] ⟨True,.dat M (lJ (cs,ns,os,fs,ls,ks) a b),[]⟩:=oE hvc
theorem nw(cs:LC)(ns os:LB)(fs:Lo)(ls:Ll)(ks:Lk)(line:Int): ls.getD line.toNat (⟨#[]⟩,0,0,0,0,0)=aK (cs,ns,os,fs,ls,ks) line:=rfl
def atOk(n:Net)(l:Int): Prop:=0<=(aK n l).2.2.2.1/\(aK n l).2.2.2.1<=1439
theorem YP(cs:LC)(ns os:LB)(fs:Lo)(ls:Ll)(ks:Lk){line:Int}(h:BL (cs,ns,os,fs,ls,ks) line): atOk (cs,ns,os,fs,ls,ks) line:=by
 obtain⟨_,_,_,_,_,m0,m1⟩:=Pj cs ns os fs ls ks h;exact⟨m0,m1⟩
theorem uX{n:Net}{l b:Int}: ∀(k:Nat) (t m w:Int),0<=m->m<=86400->waitGo n l b k t m=some w->0<=w/\w<=86400
 | 0,t,m,w,h0,h1,h=>by rw[waitGo]at h;cases h;exact⟨h0,h1⟩
 | k+1,t,m,w,h0,h1,h=>by
  rw[waitGo]at h;split at h
  .cases e:gw n l t with
   | none=>rw[e]at h;cases h
   | some u=>
    rw[e]at h;have:=lV e;exact uX k (u+1) (rJ m (u-t)) w (by unfold rJ;split<;>omega) (by unfold rJ;split<;>omega) h
  .cases h;exact⟨h0,h1⟩
theorem ZA: ak Tryz.prog G0 KQ0:=ai (ag λ(m,_)=>Mp.aBm m) aEY
theorem sJ{a b:Int}: aCR a b=true↔0<=a/\a<b/\b<=2000000/\b<=a+86400:=by
 unfold aCR;simp only[qC,qE,qDi]
theorem AO{n:Net}: aO n=decide (((fA n).length:Int)=0):=by
 unfold aO;cases fA n with
 | nil=>rfl
 | cons a l=>
  symm
  show decide _=false;rw[vN,wV];omega
theorem nZ{n:Net}{a b:Int}: gA n a b=true↔(0<=a/\a<b/\b<=2000000/\b<=a+86400)/\aO n=true:=by
 unfold gA;rw[qC,sJ]
theorem aAS(a b:Int)(cs:LC)(ns os:LB)(fs:Lo)(ls:Ll)(ks:Lk): af Tryz.prog G0 72 [net cs ns os fs ls ks,.dat I a,.dat I b] [] ⟨True,.dat .bool (gA (cs,ns,os,fs,ls,ks) a b),[]⟩:=by
 refine ae (c:=mkc KQ0) ZA aJ hm (WR a b cs ns os fs ls ks ⟨rfl,λ_=>?_⟩);simp only[qc,Dk,Di,qd,Ea,Dp,Ei,Eh,Df];refine⟨λh=>bD (by omega),λh=>?_,λh=>?_⟩
 .unfold gA;have:aCR a b=false:=by
   rw[<- kT,sJ];omega
  rw[this];rfl
 .unfold gA;rw[sJ.2 (by omega),zQ,AO];rfl
theorem ij(cs:LC)(ns os:LB)(fs:Lo)(ls:Ll)(ks:Lk){i:Int}(h:aO (cs,ns,os,fs,ls,ks)=true)(i0:0<=i)(i1:i<ls.length): 0<=(aK (cs,ns,os,fs,ls,ks) i).2.1/\(aK (cs,ns,os,fs,ls,ks) i).2.1<fs.length/\0<=(aK (cs,ns,os,fs,ls,ks) i).2.2.1/\(aK (cs,ns,os,fs,ls,ks) i).2.2.1<fs.length/\(aK (cs,ns,os,fs,ls,ks) i).2.1≠(aK (cs,ns,os,fs,ls,ks) i).2.2.1/\1<=(aK (cs,ns,os,fs,ls,ks) i).2.2.2.2.1/\(aK (cs,ns,os,fs,ls,ks) i).2.2.2.2.1<=5000:=by
 have hno:=aX cs ns os fs ls ks h;have hl:aK (cs,ns,os,fs,ls,ks) i∈ls:=by
  unfold aK;show ls.getD i.toNat _∈ls;rw[qA,qB (by omega),qQ];exact wM _
 obtain⟨g1,g2,g3,g4,g5,g6,g7,g8⟩:=ji ((lN cs ns os fs ls ks hno).2.2.2 _ hl);exact⟨g1,g2,g3,g4,g5,g7,g8⟩
theorem AL(cs:LC)(ns os:LB)(fs:Lo)(ls:Ll)(ks:Lk){o:Int}(h:aO (cs,ns,os,fs,ls,ks)=true)(o0:0<=o)(o1:o<fs.length): 0<(tf (cs,ns,os,fs,ls,ks) o).2.2.2.2.1*(tf (cs,ns,os,fs,ls,ks) o).2.2.2.2.2.1/\(tf (cs,ns,os,fs,ls,ks) o).2.2.2.2.1*(tf (cs,ns,os,fs,ls,ks) o).2.2.2.2.2.1<=960:=by
 have hno:=aX cs ns os fs ls ks h;have ho:tf (cs,ns,os,fs,ls,ks) o∈fs:=by
  unfold tf;show fs.getD o.toNat _∈fs;rw[qA,qB (by omega),qQ];exact wM _
 have gc:=(fK cs ns os fs ls ks hno).2.2.2 _ ho;unfold dt bP dW at gc;simp only[qC,qE]at gc;obtain⟨⟨_,p0,p1⟩,q0,q1⟩:=gc;generalize (tf (cs,ns,os,fs,ls,ks) o).2.2.2.2.1=p at *;generalize (tf (cs,ns,os,fs,ls,ks) o).2.2.2.2.2.1=q at *;refine⟨Int.mul_pos (by omega) (by omega),?_⟩;have:=xI (a:=p) (b:=q) (c:=4) (d:=240) p1 q1 (by omega) (by omega);omega
theorem KW(cs:LC)(ns os:LB)(fs:Lo)(ls:Ll)(ks:Lk){i a b:Int}(h:gA (cs,ns,os,fs,ls,ks) a b=true)(i0:0<=i)(i1:i<ls.length): (rz (cs,ns,os,fs,ls,ks) i a b=0/\An (cs,ns,os,fs,ls,ks) i a b=some (po (cs,ns,os,fs,ls,ks) i a b)/\0<=po (cs,ns,os,fs,ls,ks) i a b/\po (cs,ns,os,fs,ls,ks) i a b<=86400)\/(rz (cs,ns,os,fs,ls,ks) i a b=20/\An (cs,ns,os,fs,ls,ks) i a b=none):=by
 obtain⟨⟨a0,ab,b1,hb⟩,hs⟩:=nZ.1 h;have hu:fE (cs,ns,os,fs,ls,ks) i [a,b]=true:=by
  unfold fE bP;rw[hs,gB,qC];exact⟨qV ⟨i0,i1⟩,by simp[bw];omega⟩
 have hok:nM (cs,ns,os,fs,ls,ks) i a b=true:=by
  unfold nM;rw[hu,qV ab,qV hb];rfl
 have ha:=YP cs ns os fs ls ks (lw cs ns os fs ls ks hu (wL)).1;unfold rz po;rw[if_pos hok,if_pos hok];cases e:An (cs,ns,os,fs,ls,ks) i a b with
 | none=>exact .inr ⟨rfl,rfl⟩
 | some w=>
  have:=uX _ _ _ _ (by omega) (by omega) e;exact .inl ⟨rfl,rfl,this.1,this.2⟩
theorem JY(cs:LC)(ns os:LB)(fs:Lo)(ls:Ll)(ks:Lk){i a b:Int}(h:gA (cs,ns,os,fs,ls,ks) a b=true)(i0:0<=i)(i1:i<ls.length): zr (cs,ns,os,fs,ls,ks) a b i=dd\/(0<zr (cs,ns,os,fs,ls,ks) a b i/\zr (cs,ns,os,fs,ls,ks) a b i<=100000):=by
 obtain⟨_,hs⟩:=nZ.1 h;obtain⟨l0,l1,l2,l3,l4,l5,l6⟩:=ij cs ns os fs ls ks hs i0 i1;obtain⟨o0,o1⟩:=AL cs ns os fs ls ks hs l2 l3;unfold zr;rcases KW cs ns os fs ls ks h i0 i1 with⟨e,_,w0,w1⟩ | ⟨e,_⟩
 .rw[if_pos e];right;omega
 .rw[if_neg (by omega)];exact .inl rfl
theorem jK(n:Net)(a b:Int): (bq n a b).length=n.2.2.2.2.1.length:=by simp[bq]
theorem O4(cs:LC)(ns os:LB)(fs:Lo)(ls:Ll)(ks:Lk)(a b:Int){i:Int}(i0:0<=i)(i1:i<ls.length): (bq (cs,ns,os,fs,ls,ks) a b).getD i.toNat 0=zr (cs,ns,os,fs,ls,ks) a b i:=by
 unfold bq;rw[qA,qP,vV (by show i.toNat<ls.length;omega)];simp[qU i0]
theorem Ie(cs:LC)(ns os:LB)(fs:Lo)(ls:Ll)(ks:Lk){a b:Int}(h:gA (cs,ns,os,fs,ls,ks) a b=true): dw (cs,ns,os,fs,ls,ks) (bq (cs,ns,os,fs,ls,ks) a b):=by
 refine⟨(nZ.1 h).2,jK _ _ _,λi i0 i1=>?_⟩;have i1:i<ls.length:=by rw[jK]at i1;exact i1
 rw[O4 cs ns os fs ls ks a b i0 i1];rcases JY cs ns os fs ls ks h i0 i1 with g | g
 .exact .inl g
 .right;omega
theorem uj(cs:LC)(ns os:LB)(fs:Lo)(ls:Ll)(ks:Lk){a b k:Int}(h:0<=k/\k<=ls.length): (gR (cs,ns,os,fs,ls,ks) a b k).length=ls.length:=by
 unfold gR;rw[qG,qI,wJ,jK];show min k.toNat ls.length+(ls.length-k.toNat)=ls.length;omega
theorem rj(cs:LC)(ns os:LB)(fs:Lo)(ls:Ll)(ks:Lk){a b k v:Int}(k0:0<=k)(k1:k<ls.length)(hv:v=zr (cs,ns,os,fs,ls,ks) a b k): (gR (cs,ns,os,fs,ls,ks) a b k).set k.toNat v=gR (cs,ns,os,fs,ls,ks) a b (k+1):=by
 have e:(k+1).toNat=k.toNat+1:=by omega
 have:=Mp.ze (bq (cs,ns,os,fs,ls,ks) a b) 0 v k.toNat (by
  unfold bq;rw[qP,vV (by show k.toNat<ls.length;omega),hv];simp[qU k0])
 rw[jK]at this;unfold gR;rw[e];exact this
theorem X4(a b:Int)(cs:LC)(ns os:LB)(fs:Lo)(ls:Ll)(ks:Lk): af Tryz.prog G0 73 [net cs ns os fs ls ks,.dat I a,.dat I b] [] ⟨Na (cs,ns,os,fs,ls,ks) a b,.dat R (bq (cs,ns,os,fs,ls,ks) a b),[]⟩:=by
 refine ae (c:=mkc KQ0) ZA aJ hm (Rq a b cs ns os fs ls ks ⟨rfl,λhp=>?_⟩);have hp:gA (cs,ns,os,fs,ls,ks) a b=true:=hp;obtain⟨_,hs⟩:=nZ.1 hp;have l40:=(oC cs ns os fs ls ks (aX cs ns os fs ls ks hs)).2;simp only[qc,qd,Dt,Ec,Dp,Df,Dc,Dx,Dj,Du,En,Ep,nw cs ns os fs ls ks]
 have lf:∀x:Int,fs.getD (aK (cs,ns,os,fs,ls,ks) x).2.2.1.toNat (⟨#[]⟩,0,0,0,0,0,[])=tf (cs,ns,os,fs,ls,ks) (aK (cs,ns,os,fs,ls,ks) x).2.2.1:=λ_=>rfl
 refine⟨by omega,by omega,by omega,⟨0,⟨hp,by omega,by omega⟩,rfl,by simp[gR]⟩,λx hx=>⟨λhlt=>?_,λhge=>?_⟩⟩
 .obtain⟨_,x0,x1⟩:=hx;have hl:=uj cs ns os fs ls ks (a:=a) (b:=b) ⟨x0,x1⟩;obtain⟨l0,l1,l2,l3,l4,l5,l6⟩:=ij cs ns os fs ls ks hs x0 hlt;obtain⟨o0,o1⟩:=AL cs ns os fs ls ks hs l2 l3;refine⟨x0,hlt,λhw=>?_,λhw=>?_⟩
  .refine⟨hl,x0,by omega,hl,bD (by omega),x+1,⟨hp,by omega,(by show x+1<=(ls.length:Int);omega)⟩,⟨rfl,rj cs ns os fs ls ks x0 hlt ?_⟩,by omega⟩;unfold zr;rw[if_neg hw];rfl
  .rcases KW cs ns os fs ls ks hp x0 hlt with⟨e,_,w0,w1⟩ | ⟨e,_⟩
   .refine⟨l2,l3,bD (by omega),bD (by rw[lf];omega),bD (by rw[lf];omega),hl,x0,by omega,hl,bD (by omega),x+1,⟨hp,by omega,(by show x+1<=(ls.length:Int);omega)⟩,⟨rfl,rj cs ns os fs ls ks x0 hlt ?_⟩,by omega⟩;unfold zr;rw[if_pos e];rfl
   .exfalso;omega
 .obtain⟨_,x0,x1⟩:=hx;have x1:x<=ls.length:=x1;have e:x.toNat=ls.length:=by omega
  refine⟨uj cs ns os fs ls ks ⟨x0,x1⟩,?_⟩;unfold gR;rw[e,qO (by rw[jK];exact qJ _)];show _++List.replicate (ls.length-ls.length) 0=_;simp
theorem L9(preT:Int->Int->Prop)(g:Int->Int->Int)(cs:LC)(ns os:LB)(fs:Lo)(ls:Ll)(ks:Lk): af Tryz.prog G0 75 [net cs ns os fs ls ks,.clo2 I I I preT g] [] ⟨bC (Df fs) preT,.dat M (aL g (Df fs)),[]⟩:=by
 refine ae (c:=mkc KQ0) ZA aJ hm (QH preT g cs ns os fs ls ks ⟨rfl,λhp=>?_⟩);obtain⟨p1,p2,p3⟩:=hp;simp only[qc,qd,Dt,Dp,Df,Dc,Dx,Dj,En,Ep]at p1 p2 p3 ⊢;have en:(fs.length:Int).toNat=fs.length:=vC _
 refine⟨by omega,by omega,by omega,by simp,⟨0,⟨by omega,.inr rfl⟩,by simp,by rw[Mp.mr];simp⟩,λx hx=>⟨λhlt=>?_,λhge=>?_⟩⟩
 .have h0:=hx.1;have hl:=Mp.lH g fs.length x hx;rw[en]at hl;refine⟨by omega,by omega,by omega,hl,h0,by omega,hl,by simp,hl,h0,by omega,hl,by simp,⟨0,⟨by omega,.inr rfl⟩,by simp,by rw[Mp.sF];simp⟩,λy hy=>⟨λhlt2=>?_,λhge=>?_⟩⟩
  .have h2:=hy.1;have hl2:=Mp.mx g fs.length x y hy;rw[en]at hl2;refine⟨hl,h0,by omega,hl,p3 x y h0 hlt h2 hlt2,hl2,h2,by omega,hl2,bD (by omega),y+1,⟨by omega,.inl (by omega)⟩,⟨rfl,?_⟩,by omega⟩;exact Mp.sG g fs.length x y h2 hlt2
  .have hl2:=Mp.mx g fs.length x y hy;rw[en]at hl2;refine⟨bD (by omega),x+1,⟨by omega,.inl (by omega)⟩,⟨rfl,hl2,?_⟩,by omega⟩;exact Mp.py g fs.length x y h0 hlt hy hge
 .have hl:=Mp.lH g fs.length x hx;rw[en]at hl;exact⟨hl,Mp.sE g fs.length x hx hge⟩
theorem RY(preT:Int->Int->Prop)(g:Int->Int->Int)(cs:LC)(ns os:LB)(fs:Lo)(ls:Ll)(ks:Lk): af Tryz.prog G0 75 [net cs ns os fs ls ks,.clo2 I I I preT g] [] ⟨bC (Df fs) preT,.buf 0 (Dj (aL g (Df fs))),[(0,.mat 36 3 I (aL g (Df fs)) [])]⟩:=by
 refine ae (c:=mkc KQ0) ZA aJ hm (La preT g cs ns os fs ls ks ⟨rfl,λhp=>?_⟩);obtain⟨p1,p2,p3⟩:=hp;simp only[qc,qd,Dt,Dp,Df,Dc,Dx,Dj,En,Ep,Fb]at p1 p2 p3 ⊢;have en:(fs.length:Int).toNat=fs.length:=vC _
 refine⟨by omega,by omega,by omega,by simp,⟨0,⟨by omega,.inr rfl⟩,by simp,by rw[Mp.mr];simp,?_⟩,λx hx=>⟨λhlt=>?_,λhge=>?_⟩⟩
 .rw[Mp.mr];intro r hr;exact kM hr
 .have h0:=hx.1;have hl:=Mp.lH g fs.length x hx;rw[en]at hl;refine⟨by omega,by omega,by omega,hl,h0,by omega,hl,by simp,hl,h0,by omega,hl,by simp,⟨0,⟨by omega,.inr rfl⟩,by simp,by rw[Mp.sF];simp⟩,λy hy=>⟨λhlt2=>?_,λhge=>?_⟩⟩
  .have h2:=hy.1;have hl2:=Mp.mx g fs.length x y hy;rw[en]at hl2;refine⟨hl,h0,by omega,hl,p3 x y h0 hlt h2 hlt2,hl2,h2,by omega,hl2,bD (by omega),y+1,⟨by omega,.inl (by omega)⟩,⟨rfl,?_⟩,by omega⟩;exact Mp.sG g fs.length x y h2 hlt2
  .have hl2:=Mp.mx g fs.length x y hy;rw[en]at hl2;refine⟨bD (by omega),x+1,⟨by omega,.inl (by omega)⟩,⟨rfl,hl2,?_⟩,by omega⟩;exact Mp.py g fs.length x y h0 hlt hy hge
 .have e:=Mp.sE g fs.length x hx hge;refine⟨?_,e⟩;rw[Mp.fS,en]
theorem ML(o d:Int): af Tryz.prog G0 144 [.dat I o,.dat I d] [] ⟨aBM o d,.dat I (ER o d),[]⟩:=
 ae (c:=mkc KQ0) ZA aJ hm (IY o d ⟨rfl,λ_=>⟨rfl,trivial⟩⟩)
theorem MK(e:Int)(s:Lj)(o d:Int): af Tryz.prog G0 146 [.dat I o,.dat I d,.ip I e,.ip M s] [] ⟨Gx e s o d,.dat I (KO e s o d),[]⟩:=by
 refine ae (c:=mkc KQ0) ZA aJ hm (IX e s o d ⟨rfl,λhp=>?_⟩);have hat:(s.getD o.toNat []).getD d.toNat 0=at2 s o d:=rfl;simp only[qc,Dk,Di,qd,Ea,Ec,Df,Fg,Dc,Du,hat];refine⟨λh=>(hp h).1.1,λh=>(hp h).1.2.1,λh=>(hp h).1.2.2.1,λh=>(hp h).1.2.2.2,λh=>?_,λh=>?_⟩
 .unfold KO;rcases h with h | h
  .rw[if_neg h]
  .split
   .exact(if_pos h).symm
   .rfl
 .obtain⟨⟨q1,q2,q3,q4⟩,q5⟩:=hp h.1;refine⟨q1,q2,q3,q4,?_,?_⟩
  .rcases q5 with q5 | q5
   .exact(h.2 q5).elim
   .unfold inR;simp only;omega
  .unfold KO;rw[if_pos h.1];exact(if_neg h.2).symm
theorem f9{P:Program}{C:Ctx}{a x x':AV}{us:Lv}(h:AV.relL P C [a,x] us)(hx:∀v,x.rel P C v->x'.rel P C v): AV.relL P C [a,x'] us:=by
 obtain⟨u,us,rfl,h1,u2,us,rfl,h2,h3⟩:=h;exact⟨_,_,rfl,h1,_,_,rfl,hx _ h2,h3⟩
theorem LW: ∀args m c,LX args m=some c->af Tryz.prog G0 75 args m c:=by
 intro args m c hc;unfold LX at hc;split at hc
 .rename_i cs ns os fs ls ks;cases hc;exact(RY _ _ cs ns os fs ls ks).args λC us hG hu=>f9 hu λv hv=>jL (by kernel_rfl) rfl (λx y=>ML x y) hG hv
 .rename_i cs ns os fs ls ks e s;cases hc;exact(L9 _ _ cs ns os fs ls ks).args λC us hG hu=>f9 hu λv hv=>jL (by kernel_rfl) rfl (λx y=>MK e s x y) hG hv
 .cases hc
theorem rn{g g':Int->Int->Int}{m:Nat}(h:∀i j:Int,0<=i->i<m->0<=j->j<m->g i j=g' i j): aL g m=aL g' m:=by
 unfold aL;simp only[vC];refine zY λi hi=>zY λj hj=>?_
 have:=qX.1 hi;have:=qX.1 hj;exact h _ _ (by omega) (by omega) (by omega) (by omega)
theorem Ko{g:Int->Int->Int}{m:Nat}{a b v:Int}(a0:0<=a)(a1:a<m)(b0:0<=b)(b1:b<m):
  (aL g m).set a.toNat (((aL g m).getD a.toNat []).set b.toNat v)=aL (λo d=>if o=a/\d=b then v else g o d) m:=by
 rw[Mp.pV g m a a0 a1];unfold aL;simp only[vC];refine qDf (by simp) λi h1 h2=>?_
 rw[vW,wC]at h2;rw[List.getElem_set];by_cases e:a.toNat=i
 .rw[if_pos e];rw[qBb,qBn];refine qDf (by simp) λj h3 h4=>?_
  rw[vW,wC]at h4;rw[List.getElem_set,qBb,qBn,qBb,qBn];have ei:(i:Int)=a:=by omega
  by_cases e2:b.toNat=j
  .rw[if_pos e2,if_pos ⟨ei,by omega⟩]
  .rw[if_neg e2,if_neg (λq=>e2 (by omega)),ei]
 .rw[if_neg e];rw[qBb,qBb,qBn];refine zY λj hj=>?_
  rw[if_neg (λq=>e (by omega))]
theorem RB{m:Lj}(sq:Mp.Sq m.length m)(hl:m.length<=40)(h:∀i j:Int,0<=i->i<m.length->0<=j->j<m.length->Mp.pP (at2 m i j)=true): Mp.ax m=true:=by
 unfold Mp.ax;rw[qC,zK,zK,vN,qAa];refine⟨by omega,λr hr=>?_⟩;obtain⟨i,hi,rfl⟩:=List.getElem_of_mem hr;have e:m[i]=m.getD (i:Int).toNat []:=by rw[vC,qA,qB hi,qQ]
 have hrow:=sq.row i (by omega) (by omega);rw[e];unfold Mp.mV;rw[kT,qBe,vN,Mp.pY];refine⟨by omega,λk k0 k1=>?_⟩;rw[hrow]at k1;exact h i k (by omega) (by omega) k0 k1
theorem iL(ls:Ll)(c:Li)(k:Nat)(o d:Int): eZ ls c (k+1) o d=if c.getD k 0≠dd/\(ls.getD k (⟨#[]⟩,0,0,0,0,0)).2.1=o/\(ls.getD k (⟨#[]⟩,0,0,0,0,0)).2.2.1=d then max (eZ ls c k o d) (-(c.getD k 0))else eZ ls c k o d:=rfl
theorem jg{n:Net}{c:Li}(h:dw n c)(ls:Ll)(o d:Int): ∀k:Nat,k<=c.length->eZ ls c k o d=dd\/(-1000000<=eZ ls c k o d/\eZ ls c k o d<=-1)
 | 0,_=>.inl rfl
 | k+1,hk=>by
  have ih:=jg h ls o d k (by omega);have hc:=h.2.2 k (by omega) (by omega);rw[vC]at hc;rw[iL];split
  .rename_i g;rcases hc with hc | hc
   .exact(g.1 hc).elim
   .right
    rcases ih with ih | ih
    .rw[ih];unfold dd;omega
    .omega
  .exact ih
theorem mC(cs:LC)(ns os:LB)(fs:Lo)(ls:Ll)(ks:Lk)(c:Li)(k:Int): Mp.Sq fs.length (aY (cs,ns,os,fs,ls,ks) c k):=Mp.uw _ _
theorem ik(cs:LC)(ns os:LB)(fs:Lo)(ls:Ll)(ks:Lk)(c:Li)(k:Int){o d:Int}(o0:0<=o)(o1:o<fs.length)(d0:0<=d)(d1:d<fs.length): at2 (aY (cs,ns,os,fs,ls,ks) c k) o d=eZ ls c k.toNat o d:=Mp.fU _ _ o d o0 o1 d0 d1
theorem oI(cs:LC)(ns os:LB)(fs:Lo)(ls:Ll)(ks:Lk){c:Li}{k:Int}(h:dw (cs,ns,os,fs,ls,ks) c)(k0:0<=k)(k1:k<=ls.length): Mp.ax (aY (cs,ns,os,fs,ls,ks) c k)=true:=by
 have sq:=mC cs ns os fs ls ks c k;have l12:=(fK cs ns os fs ls ks (aX cs ns os fs ls ks h.1)).1;have hcl:c.length=ls.length:=h.2.1;refine RB (by rw[sq.len];exact sq) (by rw[sq.len];omega) λi j i0 i1 j0 j1=>?_
 rw[sq.len]at i1 j1;rw[ik cs ns os fs ls ks c k i0 i1 j0 j1];unfold Mp.pP Mp.cZ;rcases jg h ls i j k.toNat (by omega)with g | g
 .rw[g];rfl
 .simp only[yE,qC,qE];right;omega
theorem aBg{m:Lj}(h:Mp.ax m=true)(he:gY m=0): dS m=Mp.bT m m.length:=by
 unfold gY dS Mp.AE at *;rw[h]at he ⊢;simp only[qAm]at he ⊢;cases hb:Mp.lB m with
 | true=>rw[hb]at he;simp only[qAm]at he;omega
 | false=>rfl
theorem Oa(cs:LC)(ns os:LB)(fs:Lo)(ls:Ll)(ks:Lk){c:Li}(h:dw (cs,ns,os,fs,ls,ks) c){o d:Int}(o0:0<=o)(o1:o<fs.length)(d0:0<=d)(d1:d<fs.length): Gx (gY (bu (cs,ns,os,fs,ls,ks) c)) (dS (bu (cs,ns,os,fs,ls,ks) c)) o d:=by
 intro he;have hv:Mp.ax (bu (cs,ns,os,fs,ls,ks) c)=true:=oI cs ns os fs ls ks h (by omega) (qL _);have sq:Mp.Sq fs.length (bu (cs,ns,os,fs,ls,ks) c):=mC cs ns os fs ls ks c _;have l12:=(fK cs ns os fs ls ks (aX cs ns os fs ls ks h.1)).1;rw[aBg hv he];have sN:=Mp.ja (bu (cs,ns,os,fs,ls,ks) c) (bu (cs,ns,os,fs,ls,ks) c).length
 have b1:=Mp.mh hv (bu (cs,ns,os,fs,ls,ks) c).length (qJ _) o d o0 (by rw[sq.len];exact o1) d0 (by rw[sq.len];exact d1);have b3:=Mp.Wa (k:=(bu (cs,ns,os,fs,ls,ks) c).length) (by rw[sq.len];omega);refine⟨sN.oM o0 (by rw[sq.len];exact o1) d0 (by rw[sq.len];exact d1),.inr ?_⟩;omega
theorem JD(cs:LC)(ns os:LB)(fs:Lo)(ls:Ll)(ks:Lk){c:Li}{k:Int}(h:dw (cs,ns,os,fs,ls,ks) c)(k0:0<=k)(k1:k<ls.length)(hc:c.getD k.toNat 0≠dd):
  (aY (cs,ns,os,fs,ls,ks) c k).set (aK (cs,ns,os,fs,ls,ks) k).2.1.toNat (((aY (cs,ns,os,fs,ls,ks) c k).getD (aK (cs,ns,os,fs,ls,ks) k).2.1.toNat []).set (aK (cs,ns,os,fs,ls,ks) k).2.2.1.toNat (max (((aY (cs,ns,os,fs,ls,ks) c k).getD (aK (cs,ns,os,fs,ls,ks) k).2.1.toNat []).getD (aK (cs,ns,os,fs,ls,ks) k).2.2.1.toNat 0) (-(c.getD k.toNat 0))))=aY (cs,ns,os,fs,ls,ks) c (k+1):=by
 obtain⟨l0,l1,l2,l3,_⟩:=ij cs ns os fs ls ks h.1 k0 k1;have e1:(k+1).toNat=k.toNat+1:=by omega
 have ha:=ik cs ns os fs ls ks c k l0 l1 l2 l3;have ha':((aY (cs,ns,os,fs,ls,ks) c k).getD (aK (cs,ns,os,fs,ls,ks) k).2.1.toNat []).getD (aK (cs,ns,os,fs,ls,ks) k).2.2.1.toNat 0=eZ ls c k.toNat (aK (cs,ns,os,fs,ls,ks) k).2.1 (aK (cs,ns,os,fs,ls,ks) k).2.2.1:=ha;rw[ha'];unfold aY;rw[e1];show(aL _ (fs.length:Int)).set _ (((aL _ (fs.length:Int)).getD _ _).set _ _)=aL _ (fs.length:Int)
 rw[Ko l0 l1 l2 l3];refine rn λi j i0 i1 j0 j1=>?_
 show _=eZ ls c (k.toNat+1) i j;rw[iL];by_cases g:i=(aK (cs,ns,os,fs,ls,ks) k).2.1/\j=(aK (cs,ns,os,fs,ls,ks) k).2.2.1
 .rw[if_pos g,if_pos ⟨hc,g.1.symm,g.2.symm⟩,g.1,g.2]
 .rw[if_neg g,if_neg (λq=>g ⟨q.2.1.symm,q.2.2.symm⟩)]
theorem JC(cs:LC)(ns os:LB)(fs:Lo)(ls:Ll)(ks:Lk){c:Li}{k:Int}(k0:0<=k)(hc:c.getD k.toNat 0=dd): aY (cs,ns,os,fs,ls,ks) c k=aY (cs,ns,os,fs,ls,ks) c (k+1):=by
 have e1:(k+1).toNat=k.toNat+1:=by omega
 unfold aY;rw[e1];refine rn λi j i0 i1 j0 j1=>?_
 show _=eZ ls c (k.toNat+1) i j;rw[iL,if_neg (λq=>q.1 hc)]
theorem aE2: ak Tryz.prog G0 KQ1:=ai LW<|ai (ag λ((cs,ns,os,fs,ls,ks),a,b,_)=>aAS a b cs ns os fs ls ks)<|ai (ag λ((cs,ns,os,fs,ls,ks),a,b,_)=>X4 a b cs ns os fs ls ks) ZA
theorem Md(c:Li)(cs:LC)(ns os:LB)(fs:Lo)(ls:Ll)(ks:Lk): af Tryz.prog G0 74 [net cs ns os fs ls ks,.dat R c] [] ⟨dw (cs,ns,os,fs,ls,ks) c,.dat M (aP (cs,ns,os,fs,ls,ks) c),[]⟩:=by
 refine ae (c:=mkc KQ1) aE2 aJ hm (IH c cs ns os fs ls ks ⟨rfl,λhp=>?_⟩);have hno:=aX cs ns os fs ls ks hp.1;have l40:=(oC cs ns os fs ls ks hno).2;have l12:=(fK cs ns os fs ls ks hno).1;have hcl:c.length=ls.length:=hp.2.1;simp only[qc,qd,Ec,Dp,Df,Fg,Dc,Dx,Dj,Du,Ez,En,nw cs ns os fs ls ks]
 have en:(fs.length:Int).toNat=fs.length:=vC _;have bl:∀g:Int->Int->Int,(aL g fs.length).length=fs.length:=λg=>by rw[Mp.fS,en]
 have ll:∀x,(aY (cs,ns,os,fs,ls,ks) c x).length=fs.length:=λx=>bl _
 refine⟨⟨by omega,by omega,λ_ _ _ _ _ _=>trivial⟩,⟨0,⟨hp,by omega,by omega⟩,rfl,rfl⟩,λx hx=>⟨λhlt=>?_,λhge=>?_⟩⟩
 .obtain⟨_,x0,x1⟩:=hx;obtain⟨l0,l1,l2,l3,_⟩:=ij cs ns os fs ls ks hp.1 x0 hlt;have hrow:=(mC cs ns os fs ls ks c x).row _ l0 l1;have hc:=hp.2.2 x x0 (by omega);have hx1:x+1<=(((cs,ns,os,fs,ls,ks):Net).2.2.2.2.1.length:Int):=(by show x+1<=(ls.length:Int);omega);refine⟨x0,hlt,x0,by omega,λhn=>?_,λhn=>?_⟩
  .have hl:(aY (cs,ns,os,fs,ls,ks) c x).length=(aL ER fs.length).length:=by rw[ll,bl]
   have hb:(aK (cs,ns,os,fs,ls,ks) x).2.1<((aY (cs,ns,os,fs,ls,ks) c x).length:Int):=by rw[ll];exact l1
   have hr:(aK (cs,ns,os,fs,ls,ks) x).2.2.1<(((aY (cs,ns,os,fs,ls,ks) c x).getD (aK (cs,ns,os,fs,ls,ks) x).2.1.toNat []).length:Int):=by rw[hrow];exact l3
   refine⟨hl,l0,hb,hl,hl,l0,hb,hl,hl,l2,hr,hl,x0,by omega,?_,hl,l2,hr,hl,bD (by omega),x+1,⟨hp,by omega,hx1⟩,⟨rfl,JD cs ns os fs ls ks hp x0 hlt hn⟩,by omega⟩;rcases hc with hc | hc
   .exact(hn hc).elim
   .exact bD (by omega)
  .exact⟨bD (by omega),x+1,⟨hp,by omega,hx1⟩,⟨rfl,JC cs ns os fs ls ks x0 hn⟩,by omega⟩
 .obtain⟨_,x0,x1⟩:=hx;have x1:x<=ls.length:=x1;have e:x=ls.length:=by omega
  have el:aY (cs,ns,os,fs,ls,ks) c x=bu (cs,ns,os,fs,ls,ks) c:=by rw[e];rfl
  rw[el];refine⟨?_,?_,?_,?_⟩
  all_goals first
   | (rw[<- el,ll,bl])
   | (show List.length _<=20;rw[<- el,ll];omega)
   | exact⟨by omega,by omega,λi j i0 i1 j0 j1=>Oa cs ns os fs ls ks hp i0 i1 j0 j1⟩
   | rfl
theorem find_range{m:Nat}{p:Nat->Bool}{i:Nat}(hi:i<m)(hp:p i=true)(h:(List.range i).all (λj=>!p j)=true): (List.range m).find? p=some i:=by
 have e:m=i+(m-i-1+1):=by omega
 rw[e,List.range_add,List.find?_append];have:(List.range i).find? p=none:=by
  rw[qBp];intro x hx;have:=qM.1 h x hx;simpa using this
 rw[this,List.range_succ_eq_map,zH,qBi];simp[hp]
theorem zd{m:Nat}{p:Nat->Bool}(h:(List.range m).all (λj=>!p j)=true): (List.range m).find? p=none:=by
 rw[qBp];intro x hx;have:=qM.1 h x hx;simpa using this
theorem ux{n:Net}{c:Li}{b:Lj}{o d x:Int}(hx:uy n c b o d x)(x1:x<n.2.2.2.2.1.length)(h:k9 n c b o d x=false): uy n c b o d (x+1):=by
 obtain⟨hp,x0,_,ha⟩:=hx;refine⟨hp,by omega,by omega,?_⟩;rw[show(x+1).toNat=x.toNat+1 by omega,zW,kX,ha,qAj,qU x0,h];rfl
theorem mF{n:Net}{c:Li}{b:Lj}{o d i:Int}: k9 n c b o d i=true↔(aK n i).2.1=o/\c.getD i.toNat 0≠dd/\0<=at2 b (aK n i).2.2.1 d/\c.getD i.toNat 0+at2 b (aK n i).2.2.1 d=at2 b o d:=by
 unfold k9;simp only[qC,qE,qDi]
theorem BU{n:Net}{c:Li}{b:Lj}{o d i:Int}(h:¬((aK n i).2.1=o/\c.getD i.toNat 0≠dd/\0<=at2 b (aK n i).2.2.1 d/\c.getD i.toNat 0+at2 b (aK n i).2.2.1 d=at2 b o d)): k9 n c b o d i=false:=by
 rw[<- kT,mF];exact h
theorem aBe(c:Li)(b:Lj)(o d:Int)(cs:LC)(ns os:LB)(fs:Lo)(ls:Ll)(ks:Lk): af Tryz.prog G0 77 [net cs ns os fs ls ks,.dat R c,.dat M b,.dat I o,.dat I d] [] ⟨uz (cs,ns,os,fs,ls,ks) c b o d,.dat I (rF (cs,ns,os,fs,ls,ks) c b o d),[]⟩:=by
 refine ae (c:=mkc KQ1) aE2 aJ hm (Xo c b o d cs ns os fs ls ks ⟨rfl,λhp=>?_⟩);obtain⟨hc,hb,o0,o1,d0,d1⟩:=hp;have hno:=aX cs ns os fs ls ks hc.1;have l40:=(oC cs ns os fs ls ks hno).2;have hcl:c.length=ls.length:=hc.2.1;have hat:∀i j:Int,(b.getD i.toNat []).getD j.toNat 0=at2 b i j:=λ_ _=>rfl
 simp only[qc,Dk,Di,qd,Ea,Ec,Dp,Df,Dc,Du,nw cs ns os fs ls ks,hat];refine⟨⟨⟨hc,hb,o0,o1,d0,d1⟩,by omega,by omega,rfl⟩,λx hx=>⟨λhlt=>?_,λhge=>?_⟩⟩
 .obtain⟨hp,x0,x1,ha⟩:=id hx;obtain⟨l0,l1,l2,l3,_⟩:=ij cs ns os fs ls ks hc.1 x0 hlt;obtain⟨⟨i1,i2,i3,i4⟩,i5,i6⟩:=hb _ _ l2 l3 d0 d1;obtain⟨⟨j1,j2,j3,j4⟩,j5,j6⟩:=hb _ _ o0 o1 d0 d1;have hcx:=hc.2.2 x x0 (by omega);have hx1:x+1<=(((cs,ns,os,fs,ls,ks):Net).2.2.2.2.1.length:Int):=(by show x+1<=(ls.length:Int);omega)
  refine⟨x0,hlt,λ_=>x0,λ_=>by omega,λ_=>l2,λ_=>i2,λ_=>d0,λ_=>i4,λh=>⟨bD (by omega),x+1,ux hx hlt (BU λq=>?_),rfl,by omega⟩,λh=>⟨x0,by omega,l2,i2,d0,i4,?_,o0,j2,d0,j4,λh2=>?_,λh2=>⟨bD (by omega),x+1,ux hx hlt (BU λq=>h2 q.2.2.2),rfl,by omega⟩⟩⟩
  .rcases h with(h | h) | h
   .exact h q.1
   .exact q.2.1 h
   .omega
  .rcases hcx with hcx | hcx
   .exact(h.1.2 hcx).elim
   .unfold inR;simp only;omega
  .have hbst:k9 (cs,ns,os,fs,ls,ks) c b o d x=true:=mF.2 ⟨by first | exact h.1.1 | exact qBv.1 h.1.1,h.1.2,by omega,h2⟩;unfold rF;rw[find_range (i:=x.toNat) (by show x.toNat<ls.length;omega) (by rw[qU x0];exact hbst) ha];show x=((x.toNat:Nat):Int);omega
 .obtain⟨hp,x0,x1,ha⟩:=hx;have x1:x<=ls.length:=x1;have e:x.toNat=ls.length:=by omega
  rw[e]at ha;unfold rF;rw[zd (show(List.range ((cs,ns,os,fs,ls,ks):Net).2.2.2.2.1.length).all _=true from ha)]
theorem aFH: ak Tryz.prog G0 KQ2:=ai (ag λ((cs,ns,os,fs,ls,ks),c,_)=>Md c cs ns os fs ls ks)<|ai (ag λ((cs,ns,os,fs,ls,ks),c,b,o,d,_)=>aBe c b o d cs ns os fs ls ks) aE2
theorem XR(b:Lj)(c:Li)(o d:Int)(cs:LC)(ns os:LB)(fs:Lo)(ls:Ll)(ks:Lk): af Tryz.prog G0 76 [.dat I o,.dat I d,.ip M b,.ip N (cs,ns,os,fs,ls,ks),.ip R c] [] ⟨uz (cs,ns,os,fs,ls,ks) c b o d,.dat I (mQ (cs,ns,os,fs,ls,ks) c b o d),[]⟩:=by
 refine ae (c:=mkc KQ2) aFH aJ hm (QZ b c o d cs ns os fs ls ks ⟨rfl,λhp=>?_⟩);obtain⟨⟨j1,j2,j3,j4⟩,j5,j6⟩:=hp.2.1 o d hp.2.2.1 hp.2.2.2.1 hp.2.2.2.2.1 hp.2.2.2.2.2;have hat:∀i j:Int,(b.getD i.toNat []).getD j.toNat 0=at2 b i j:=λ_ _=>rfl
 simp only[qc,Dk,Di,qd,Ea,Dp,Df,Dc,Du,hat];refine⟨λ_=>j1,λ_=>j2,λ_=>j3,λ_=>j4,λh=>?_,λh=>⟨hp,?_⟩⟩
 .unfold mQ;exact(if_pos h).symm
 .unfold mQ;exact(if_neg (by omega)).symm
theorem aFG: ak Tryz.prog G0 KQ3:=ai (λargs m c hc=>by
 split at hc
 .rename_i cs ns os fs ls ks b n c;cases hc;exact(L9 _ _ cs ns os fs ls ks).args λC us hG hu=>f9 hu λv hv=>jL (by kernel_rfl) rfl (λx y=>by obtain⟨a1,a2,a3,a4,a5,a6⟩:=n;exact XR b c x y a1 a2 a3 a4 a5 a6) hG hv
 .cases hc) aFH
theorem aCo(cs:LC)(ns os:LB)(fs:Lo)(ls:Ll)(ks:Lk){c:Li}(h:dw (cs,ns,os,fs,ls,ks) c): Pz (cs,ns,os,fs,ls,ks) (aP (cs,ns,os,fs,ls,ks) c):=by
 intro o d o0 o1 d0 d1;have sq:Mp.Sq fs.length (aP (cs,ns,os,fs,ls,ks) c):=Mp.uw _ _;refine⟨sq.oM o0 o1 d0 d1,?_⟩;have ha:at2 (aP (cs,ns,os,fs,ls,ks) c) o d=KO (gY (bu (cs,ns,os,fs,ls,ks) c)) (dS (bu (cs,ns,os,fs,ls,ks) c)) o d:=Mp.fU _ _ o d o0 o1 d0 d1;have hp:=Oa cs ns os fs ls ks h o0 o1 d0 d1;rw[ha];unfold Gx at hp;unfold KO;split
 .rename_i he;obtain⟨_,hp⟩:=hp he;split
  .omega
  .rcases hp with hp | hp
   .contradiction
   .omega
 .omega
theorem XI(a b:Int)(cs:LC)(ns os:LB)(fs:Lo)(ls:Ll)(ks:Lk): af Tryz.prog G0 23 [net cs ns os fs ls ks,.dat I a,.dat I b] [] ⟨True,.dat M (lJ (cs,ns,os,fs,ls,ks) a b),[]⟩:=by
 refine ae (c:=mkc KQ3) aFG aJ hm (QO a b cs ns os fs ls ks ⟨rfl,λ_=>?_⟩);simp only[qc,Di,Dt,Df];refine⟨λh=>?_,λh=>?_⟩
 .unfold lJ;rw[h];rfl
 .have hc:=Ie cs ns os fs ls ks h;have l12:=(fK cs ns os fs ls ks (aX cs ns os fs ls ks hc.1)).1;refine⟨h,hc,⟨by omega,by omega,λi j i0 i1 j0 j1=>⟨hc,aCo cs ns os fs ls ks hc,i0,i1,j0,j1⟩⟩,?_⟩;unfold lJ;rw[h];rfl
end Go.Eng.Sv
set_option maxRecDepth 100000
namespace Go.Eng.Sv
open Go.Proofs
open Go.Eng.Mp (aL cD qj bC upto at2 oM dS gY xm)
open Go.Eng.Mp (W PW uF)
structure GN (q:Nat) (ls:Ll) (c:Li) (B:Int->Int->Int):Prop where
 lo:∀o d:Int,0<=o->o<q->0<=d->d<q->-1<=B o d
 same:∀o:Int,0<=o->o<q->B o o=0
 step:∀(k:Nat) (l:Line),ls[k]?=some l->c.getD k 0≠dd->∀d:Int,0<=d->d<q->0<=B (lTo l) d->0<=B (bg l) d/\B (bg l) d<=c.getD k 0+B (lTo l) d
 from_:∀o d:Int,0<=o->o<q->0<=d->d<q->o≠d->0<=B o d->∃(k:Nat) (l:Line),ls[k]?=some l/\c.getD k 0≠dd/\bg l=o/\0<=B (lTo l) d/\B o d=c.getD k 0+B (lTo l) d
structure GM (q:Nat) (ls:Ll) (c:Li):Prop where
 pos:∀(k:Nat) (l:Line),ls[k]?=some l->c.getD k 0≠dd->0<c.getD k 0
 ends:∀(k:Nat) (l:Line),ls[k]?=some l->(0<=bg l/\bg l<q)/\0<=lTo l/\lTo l<q
theorem GN.mono {q:Nat} {ls ls':Ll} {c c':Li} {B B':Int->Int->Int} (h:GN q ls c B) (hc:GM q ls c) (h':GN q ls' c' B')
  (hl:∀(k:Nat) (l:Line),ls[k]?=some l->c.getD k 0≠dd->∃(k':Nat) (l':Line),ls'[k']?=some l'/\c'.getD k' 0≠dd/\bg l'=bg l/\lTo l'=lTo l/\c'.getD k' 0<=c.getD k 0):
  ∀(f:Nat) (o d:Int),0<=o->o<q->0<=d->d<q->0<=B o d->(B o d).toNat<=f->0<=B' o d/\B' o d<=B o d
 | f,o,d,o0,o1,d0,d1,hB,hf=>by
  by_cases e:o=d
  .subst e;rw[h.same o o0 o1,h'.same o o0 o1];omega
  .obtain⟨k,l,k1,k2,k3,k4,k5⟩:=h.from_ o d o0 o1 d0 d1 e hB;have hp:=hc.pos k l k1 k2;obtain⟨_,t0,t1⟩:=hc.ends k l k1
   match f,hf with
   | 0,hf=>omega
   | f+1,hf=>
    obtain⟨i1,i2⟩:=h.mono hc h' hl f (lTo l) d t0 t1 d0 d1 k4 (by omega);obtain⟨k',l',g1,g2,g3,g4,g5⟩:=hl k l k1 k2;obtain⟨s1,s2⟩:=h'.step k' l' g1 g2 d d0 d1 (by rw[g4];exact i1);rw[g3,k3,g4]at s2;rw[g3,k3]at s1;exact⟨s1,by omega⟩
theorem GN.le {q:Nat} {ls ls':Ll} {c c':Li} {B B':Int->Int->Int} (h:GN q ls c B) (hc:GM q ls c) (h':GN q ls' c' B')
  (hl:∀(k:Nat) (l:Line),ls[k]?=some l->c.getD k 0≠dd->∃(k':Nat) (l':Line),ls'[k']?=some l'/\c'.getD k' 0≠dd/\bg l'=bg l/\lTo l'=lTo l/\c'.getD k' 0<=c.getD k 0)
  {o d:Int} (o0:0<=o) (o1:o<q) (d0:0<=d) (d1:d<q) (hB:0<=B o d):0<=B' o d/\B' o d<=B o d:=h.mono hc h' hl _ o d o0 o1 d0 d1 hB (qJ _)
theorem BP{ls:Ll}{c:Li}{l:Line}: ∀(m k:Nat),k<m->ls[k]?=some l->c.getD k 0≠dd->-(c.getD k 0)<=eZ ls c m (bg l) (lTo l)
 | m+1,k,hk,hl,hc=>by
  rw[iL];by_cases e:k=m
  .subst e;rw[if_pos ⟨hc,by rw[qA,hl];rfl,by rw[qA,hl];rfl⟩];omega
  .have ih:=BP m k (by omega) hl hc;split<;>omega
theorem tK{ls:Ll}{c:Li}{o d:Int}: ∀m:Nat,m<=ls.length->eZ ls c m o d=dd\/∃(k:Nat) (l:Line),ls[k]?=some l/\c.getD k 0≠dd/\bg l=o/\lTo l=d/\eZ ls c m o d=-(c.getD k 0)
 | 0,_=>.inl rfl
 | m+1,hm=>by
  rw[iL];have hg:ls[m]?=some (ls[m]'(by omega)):=qB _;have ed:ls.getD m (⟨#[]⟩,0,0,0,0,0)=ls[m]'(by omega):=by rw[qA,hg];rfl
  split
  .rename_i g;rw[ed]at g;rcases tK (ls:=ls) (c:=c) (o:=o) (d:=d) m (by omega)with h | ⟨k,l,h1,h2,h3,h4,h5⟩
   .by_cases q:dd<=-(c.getD m 0)
    .exact .inr ⟨m,_,hg,g.1,g.2.1,g.2.2,by rw[h];omega⟩
    .left;rw[h];omega
   .by_cases q:eZ ls c m o d<=-(c.getD m 0)
    .exact .inr ⟨m,_,hg,g.1,g.2.1,g.2.2,by omega⟩
    .exact .inr ⟨k,l,h1,h2,h3,h4,by omega⟩
  .exact tK m (by omega)
theorem UG(cs:LC)(ns os:LB)(fs:Lo)(ls:Ll)(ks:Lk){c:Li}(h:dw (cs,ns,os,fs,ls,ks) c): GM fs.length ls c:=by
 have hcl:c.length=ls.length:=h.2.1;refine⟨λk l hk hc=>?_,λk l hk=>?_⟩
 .have hlt:k<ls.length:=(qF.1 hk).1;have:=h.2.2 k (by omega) (by omega);rw[vC]at this;rcases this with g | g
  .exact(hc g).elim
  .exact g.1
 .have hlt:k<ls.length:=(qF.1 hk).1;obtain⟨l0,l1,l2,l3,_⟩:=ij cs ns os fs ls ks h.1 (i:=k) (by omega) (by omega);have e:aK (cs,ns,os,fs,ls,ks) k=l:=by
   unfold aK;show ls.getD (k:Int).toNat _=l;rw[vC,qA,hk];rfl
  rw[e]at l0 l1 l2 l3;exact⟨⟨l0,l1⟩,l2,l3⟩
theorem Uc(cs:LC)(ns os:LB)(fs:Lo)(ls:Ll)(ks:Lk){c:Li}(h:dw (cs,ns,os,fs,ls,ks) c): Mp.Bd fs.length 1000000 (bu (cs,ns,os,fs,ls,ks) c):=by
 have l12:=(fK cs ns os fs ls ks (aX cs ns os fs ls ks h.1)).1;have hcl:c.length=ls.length:=h.2.1;refine⟨mC cs ns os fs ls ks c _,by omega,λi j i0 i1 j0 j1 hf=>?_⟩;have e:at2 (bu (cs,ns,os,fs,ls,ks) c) i j=eZ ls c (ls.length:Int).toNat i j:=ik cs ns os fs ls ks c _ i0 i1 j0 j1;rw[e]at hf ⊢;rcases jg h ls i j (ls.length:Int).toNat (by omega)with g | g
 .rw[g]at hf;cases hf
 .omega
theorem N9(cs:LC)(ns os:LB)(fs:Lo)(ls:Ll)(ks:Lk){c:Li}(h:dw (cs,ns,os,fs,ls,ks) c){i j:Int}(i0:0<=i)(i1:i<fs.length)(j0:0<=j)(j1:j<fs.length): at2 (bu (cs,ns,os,fs,ls,ks) c) i j<=-1:=by
 have hcl:c.length=ls.length:=h.2.1;have e:at2 (bu (cs,ns,os,fs,ls,ks) c) i j=eZ ls c (ls.length:Int).toNat i j:=ik cs ns os fs ls ks c _ i0 i1 j0 j1;rw[e];rcases jg h ls i j (ls.length:Int).toNat (by omega)with g | g
 .rw[g];unfold dd;omega
 .omega
theorem Wh{m:Lj}{p:Nat->Int}{q:Nat}(hm:∀i j:Int,0<=i->i<q->0<=j->j<q->at2 m i j<=-1): ∀(k:Nat) (z:Int),(∀s,s<=k->Mp.In q (p s))->PW m p k z->z<=-(k:Int)
 | 0,z,_,h=>by have h:z<=0:=h;omega
 | k+1,z,hp,⟨u,v,h1,h2,h3⟩=>by
  have ih:=Wh hm k u (λs hs=>hp s (by omega)) h1;have a:=hp k (by omega);have b:=hp (k+1) (by omega);have:=hm _ _ a.1 a.2 b.1 b.2;have:=h2.2;omega
theorem tJ(cs:LC)(ns os:LB)(fs:Lo)(ls:Ll)(ks:Lk){c:Li}(h:dw (cs,ns,os,fs,ls,ks) c){t:Int}{k:Nat}{i j z:Int}(hw:W (bu (cs,ns,os,fs,ls,ks) c) fs.length t k i j z): z<=0:=by
 obtain⟨p,h1,h2,h3,h4,h5⟩:=hw;have:=Wh (λi j i0 i1 j0 j1=>N9 cs ns os fs ls ks h i0 i1 j0 j1) k z h3 h5;omega
theorem Py(cs:LC)(ns os:LB)(fs:Lo)(ls:Ll)(ks:Lk){c:Li}(h:dw (cs,ns,os,fs,ls,ks) c): GN fs.length ls c (λo d=>at2 (aP (cs,ns,os,fs,ls,ks) c) o d)/\gY (bu (cs,ns,os,fs,ls,ks) c)=0/\
  (∀o d:Int,0<=o->o<fs.length->0<=d->d<fs.length->at2 (dS (bu (cs,ns,os,fs,ls,ks) c)) o d=if at2 (aP (cs,ns,os,fs,ls,ks) c) o d<0 then dd else -(at2 (aP (cs,ns,os,fs,ls,ks) c) o d))/\Mp.Sq fs.length (dS (bu (cs,ns,os,fs,ls,ks) c)):=by
 have l12:=(fK cs ns os fs ls ks (aX cs ns os fs ls ks h.1)).1;have hcl:c.length=ls.length:=h.2.1;have hm:=Uc cs ns os fs ls ks h;have hB:(fs.length:Int)*1000000<=100000000000:=by omega
 have hv:Mp.ax (bu (cs,ns,os,fs,ls,ks) c)=true:=oI cs ns os fs ls ks h (by omega) (qL _);have hN:uF (bu (cs,ns,os,fs,ls,ks) c) fs.length:=λk x u hw=>tJ cs ns os fs ls ks h hw
 obtain⟨e1,e2⟩:=Mp.Yb hm hv (by omega) hB hN;have hle:∀{i j z:Int},Mp.In fs.length i->Mp.In fs.length j->(Mp.le z (at2 (dS (bu (cs,ns,os,fs,ls,ks) c)) i j)↔∃k,W (bu (cs,ns,os,fs,ls,ks) c) fs.length fs.length k i j z):=λhi hj=>by
  rw[e2];exact Mp.FD hm (by omega) hB hN hi hj
 have hcl2:∀{i j:Int},Mp.In fs.length i->Mp.In fs.length j->Mp.Il (at2 (dS (bu (cs,ns,os,fs,ls,ks) c)) i j):=λhi hj=>by
  rw[e2];exact Mp.DX hm.sq.len _ hi hj
 have hat:∀o d:Int,0<=o->o<fs.length->0<=d->d<fs.length->at2 (aP (cs,ns,os,fs,ls,ks) c) o d=if at2 (dS (bu (cs,ns,os,fs,ls,ks) c)) o d=dd then -1 else -(at2 (dS (bu (cs,ns,os,fs,ls,ks) c)) o d):=λo d o0 o1 d0 d1=>by
  have:at2 (aP (cs,ns,os,fs,ls,ks) c) o d=KO (gY (bu (cs,ns,os,fs,ls,ks) c)) (dS (bu (cs,ns,os,fs,ls,ks) c)) o d:=Mp.fU _ _ o d o0 o1 d0 d1;rw[this];unfold KO;rw[if_pos e1]
 have hsg:∀o d:Int,0<=o->o<fs.length->0<=d->d<fs.length->(at2 (dS (bu (cs,ns,os,fs,ls,ks) c)) o d=dd/\at2 (aP (cs,ns,os,fs,ls,ks) c) o d=-1)\/(Mp.cZ (at2 (dS (bu (cs,ns,os,fs,ls,ks) c)) o d)=false/\at2 (dS (bu (cs,ns,os,fs,ls,ks) c)) o d<=0/\at2 (aP (cs,ns,os,fs,ls,ks) c) o d=-(at2 (dS (bu (cs,ns,os,fs,ls,ks) c)) o d)):=λo d o0 o1 d0 d1=>by
  have ha:=hat o d o0 o1 d0 d1;rcases hcl2 (i:=o) (j:=d) ⟨o0,o1⟩ ⟨d0,d1⟩with g | g
  .left;rw[if_pos (show _=dd from g)]at ha;exact⟨g,ha⟩
  .right
   obtain⟨k,hw⟩:=(hle ⟨o0,o1⟩ ⟨d0,d1⟩).1 (Mp.yx g);have g':=Mp.iq.1 g;rw[if_neg (show ¬_=dd by unfold dd;omega)]at ha;exact⟨g,tJ cs ns os fs ls ks h hw,ha⟩
 have hge:∀{o d:Int},0<=o->o<fs.length->0<=d->d<fs.length->∀{k:Nat} {z:Int},-549755813888<z->W (bu (cs,ns,os,fs,ls,ks) c) fs.length fs.length k o d z->0<=at2 (aP (cs,ns,os,fs,ls,ks) c) o d/\at2 (aP (cs,ns,os,fs,ls,ks) c) o d<=-z:=λ{o d} o0 o1 d0 d1 {k z} _ hw=>by
  have:=(hle ⟨o0,o1⟩ ⟨d0,d1⟩).2 ⟨k,hw⟩;rcases hsg o d o0 o1 d0 d1 with⟨g1,g2⟩ | ⟨g1,g2,g3⟩
  .rw[g1]at this;cases this.1
  .have:=this.2;omega
 have hW:∀{o d:Int},0<=o->o<fs.length->0<=d->d<fs.length->0<=at2 (aP (cs,ns,os,fs,ls,ks) c) o d->∃k,W (bu (cs,ns,os,fs,ls,ks) c) fs.length fs.length k o d (-(at2 (aP (cs,ns,os,fs,ls,ks) c) o d))/\-549755813888 < -(at2 (aP (cs,ns,os,fs,ls,ks) c) o d):=λ{o d} o0 o1 d0 d1 hb=>by
  rcases hsg o d o0 o1 d0 d1 with⟨g1,g2⟩ | ⟨g1,g2,g3⟩
  .omega
  .have e:-(at2 (aP (cs,ns,os,fs,ls,ks) c) o d)=at2 (dS (bu (cs,ns,os,fs,ls,ks) c)) o d:=by omega
   rw[e];obtain⟨k,hw⟩:=(hle ⟨o0,o1⟩ ⟨d0,d1⟩).1 (Mp.yx g1);exact⟨k,hw,Mp.iq.1 g1⟩
 have cp:=UG cs ns os fs ls ks h;have hstep:∀(k:Nat) (l:Line),ls[k]?=some l->c.getD k 0≠dd->∀d:Int,0<=d->d<fs.length->0<=at2 (aP (cs,ns,os,fs,ls,ks) c) (lTo l) d->0<=at2 (aP (cs,ns,os,fs,ls,ks) c) (bg l) d/\at2 (aP (cs,ns,os,fs,ls,ks) c) (bg l) d<=c.getD k 0+at2 (aP (cs,ns,os,fs,ls,ks) c) (lTo l) d:=λk l hk hc d d0 d1 hb=>by
  obtain⟨⟨f0,f1⟩,t0,t1⟩:=cp.ends k l hk;have hlt:k<ls.length:=(qF.1 hk).1;have hcb:=h.2.2 k (by omega) (by omega);rw[vC]at hcb;have hcb:0<c.getD k 0/\c.getD k 0<=1000000:=by
   rcases hcb with g | g
   .exact(hc g).elim
   .exact g
  obtain⟨k',hw,hz⟩:=hW t0 t1 d0 d1 hb;have ea:at2 (bu (cs,ns,os,fs,ls,ks) c) (bg l) (lTo l)=eZ ls c (ls.length:Int).toNat (bg l) (lTo l):=ik cs ns os fs ls ks c _ f0 f1 t0 t1;have hge1:=BP (ls:=ls) (c:=c) (l:=l) (ls.length:Int).toNat k (by omega) hk hc
  have h1:W (bu (cs,ns,os,fs,ls,ks) c) fs.length fs.length 1 (bg l) (lTo l) (-(c.getD k 0)):=W.one ⟨f0,f1⟩ ⟨t0,t1⟩ (Mp.le_iff.2 ⟨by rw[ea];omega,by rw[ea];exact hge1⟩);have h2:=h1.trans' hw;have hfin:-549755813888 < -(c.getD k 0)+-(at2 (aP (cs,ns,os,fs,ls,ks) c) (lTo l) d):=by
   obtain⟨k2,q1,q2⟩:=hw.short;have:=q2.2;obtain⟨q3,q4⟩:=q2;have hlow:=(Mp.Yc hm (by omega) hB hN).el (lTo l) d t0 t1 d0 d1 (by
    rcases hsg (lTo l) d t0 t1 d0 d1 with⟨g1,g2⟩ | ⟨g1,_⟩
    .omega
    .rw[<- e2];exact g1)
   rcases hsg (lTo l) d t0 t1 d0 d1 with⟨g1,g2⟩ | ⟨g1,g2,g3⟩
   .omega
   .rw[<- e2]at hlow;omega
  obtain⟨r1,r2⟩:=hge f0 f1 d0 d1 hfin h2;exact⟨r1,by omega⟩
 refine⟨⟨λo d o0 o1 d0 d1=>?_,λo o0 o1=>?_,hstep,λo d o0 o1 d0 d1 hne hb=>?_⟩,e1,λo d o0 o1 d0 d1=>?_,by rw[e2,<- hm.sq.len];exact Mp.ja _ _⟩
 .show -1<=at2 (aP (cs,ns,os,fs,ls,ks) c) o d;rcases hsg o d o0 o1 d0 d1 with⟨g1,g2⟩ | ⟨g1,g2,g3⟩<;>omega
 .show at2 (aP (cs,ns,os,fs,ls,ks) c) o o=0;have:=hge o0 o1 o0 o1 (by omega) (W.zero (m:=bu (cs,ns,os,fs,ls,ks) c) (n:=fs.length) (t:=fs.length) ⟨o0,o1⟩ (qL 0));omega
 .have hb:0<=at2 (aP (cs,ns,os,fs,ls,ks) c) o d:=hb;obtain⟨k,hw,hz⟩:=hW o0 o1 d0 d1 hb;obtain⟨p,p1,p2,p3,p4,p5⟩:=hw
  match k,p2,p3,p4,p5 with
  | 0,p2,_,_,_=>exact(hne (by rw[<- p1,<- p2])).elim
  | k+1,p2,p3,p4,p5=>
   rw[show k+1=1+k by omega]at p5;obtain⟨u,v,q1,q2,q3⟩:=PW.split 1 k p5;obtain⟨u',v',q4,q5,q6⟩:=q1;have q4:u'<=0:=q4;have q5:Mp.le v' (at2 (bu (cs,ns,os,fs,ls,ks) c) (p 0) (p 1)):=q5;rw[p1]at q5;obtain⟨x0,x1⟩:=p3 1 (by omega);have ea:at2 (bu (cs,ns,os,fs,ls,ks) c) o (p 1)=eZ ls c (ls.length:Int).toNat o (p 1):=ik cs ns os fs ls ks c _ o0 o1 x0 x1;rw[ea]at q5;have hfin:=Mp.iq.1 q5.1
   rcases tK (ls:=ls) (c:=c) (o:=o) (d:=p 1) (ls.length:Int).toNat (by omega)with g | ⟨k',l,g1,g2,g3,g4,g5⟩
   .rw[g]at hfin;unfold dd at hfin;omega
   .have hw2:W (bu (cs,ns,os,fs,ls,ks) c) fs.length fs.length k (p 1) d v:=⟨λt=>p (1+t),rfl,by show p (1+k)=d;rw[show 1+k=k+1 by omega];exact p2,λs hs=>p3 _ (by omega),λs s1 s2=>(p3 _ (by omega)).2,q2⟩;have q8:=q5.2;have cpos:=cp.pos k' l g1 g2;obtain⟨r1,r2⟩:=hge x0 x1 d0 d1 (by omega) hw2;refine⟨k',l,g1,g2,g3,?_,?_⟩
    .show 0<=at2 (aP (cs,ns,os,fs,ls,ks) c) (lTo l) d;rw[g4];exact r1
    .obtain⟨s1,s2⟩:=hstep k' l g1 g2 d d0 d1 (by rw[g4];exact r1);rw[g3]at s2;show at2 (aP (cs,ns,os,fs,ls,ks) c) o d=_;rw[g4]at s2 ⊢;omega
 .rcases hsg o d o0 o1 d0 d1 with⟨g1,g2⟩ | ⟨g1,g2,g3⟩
  .rw[if_pos (by omega)];exact g1
  .rw[if_neg (by omega)];omega
end Go.Eng.Sv
namespace Go.Proofs
open Go.Shelf
def Tryz.keysA_ren:Go.Shelf.Ren:=⟨fun | 7=>112 | 10=>172 | n=>n,fun | 23=>165 | 26=>3 | 3=>4 | 28=>138 | 0=>0 | 27=>137 | 33=>143 | 4=>4 | n=>n,fun | n=>n⟩
theorem Tryz.keysA:Go.Proofs.SlLaysZI.n7 Tryz.prog Tryz.keysA_ren:={
 mixed:=by kernel_rfl
 f7:=⟨Tryz.f112.name,by decide,Tryz.func112.trans (congrArg some (by kernel_rfl))⟩
 f10:=⟨Tryz.f172.name,by decide,Tryz.func172.trans (congrArg some (by kernel_rfl))⟩
 t0:=Tryz.underlying0
 a0:=Tryz.isAgg0
 z0:=Tryz.sizeOf0
 v0:=Tryz.zeroValue0
 t4:=Tryz.underlying4
 a4:=Tryz.isAgg4
 z4:=Tryz.sizeOf4
 v4:=Tryz.zeroValue4
 t23:=Tryz.underlying165
 a23:=Tryz.isAgg165
 z23:=Tryz.sizeOf165
 v23:=Tryz.zeroValue165
 t26:=Tryz.underlying3
 a26:=Tryz.isAgg3
 z26:=Tryz.sizeOf3
 v26:=Tryz.zeroValue3
 t27:=Tryz.underlying137
 a27:=Tryz.isAgg137
 z27:=Tryz.sizeOf137
 v27:=Tryz.zeroValue137
 t28:=Tryz.underlying138
 a28:=Tryz.isAgg138
 z28:=Tryz.sizeOf138
 v28:=Tryz.zeroValue138
 t33:=Tryz.underlying143
 a33:=Tryz.isAgg143
 z33:=Tryz.sizeOf143
 v33:=Tryz.zeroValue143}
def Tryz.sortedA_ren:Go.Shelf.Ren:=⟨fun | 6=>111 | 8=>170 | 9=>171 | 11=>223 | 13=>225 | 12=>224 | 23=>276 | 24=>277 | 14=>268 | 15=>269 | 16=>270 | 17=>271 | 18=>272 | 19=>273 | 20=>258 | 21=>274 | 22=>275 | 25=>291 | 26=>292 | 27=>293 | 28=>294 | 29=>295 | 30=>287 | 31=>302 | n=>n,fun | 26=>3 | 28=>138 | 24=>36 | 0=>0 | 3=>3 | 37=>228 | 48=>255 | 50=>257 | 4=>4 | 40=>249 | 39=>248 | 45=>217 | 5=>5 | 9=>9 | 51=>260 | 55=>264 | 57=>266 | 58=>153 | 33=>143 | n=>n,fun | n=>n⟩
theorem Tryz.sortedA:Go.Proofs.SlLaysZI.n6 Tryz.prog Tryz.sortedA_ren:={
 mixed:=by kernel_rfl
 f6:=⟨Tryz.f111.name,by decide,Tryz.func111.trans (congrArg some (by kernel_rfl))⟩
 f8:=⟨Tryz.f170.name,by decide,Tryz.func170.trans (congrArg some (by kernel_rfl))⟩
 f11:=⟨Tryz.f223.name,by decide,Tryz.func223.trans (congrArg some (by kernel_rfl))⟩
 t0:=Tryz.underlying0
 a0:=Tryz.isAgg0
 z0:=Tryz.sizeOf0
 v0:=Tryz.zeroValue0
 t24:=Tryz.underlying36
 a24:=Tryz.isAgg36
 z24:=Tryz.sizeOf36
 v24:=Tryz.zeroValue36
 t26:=Tryz.underlying3
 a26:=Tryz.isAgg3
 z26:=Tryz.sizeOf3
 v26:=Tryz.zeroValue3
 t28:=Tryz.underlying138
 a28:=Tryz.isAgg138
 z28:=Tryz.sizeOf138
 v28:=Tryz.zeroValue138
 i26:=by kernel_rfl}
def Tryz.sortA_ren:Go.Shelf.Ren:=⟨fun | 5=>171 | 8=>225 | 7=>224 | 19=>276 | 20=>277 | 10=>268 | 11=>269 | 12=>270 | 13=>271 | 14=>272 | 15=>273 | 16=>258 | 17=>274 | 18=>275 | 30=>291 | 31=>292 | 32=>293 | 33=>294 | 34=>295 | 35=>287 | 40=>302 | n=>n,fun | 23=>36 | 25=>3 | 3=>3 | 32=>228 | 22=>36 | 0=>0 | 44=>255 | 46=>257 | 4=>4 | 36=>249 | 35=>248 | 41=>217 | 5=>5 | 9=>9 | 53=>260 | 57=>264 | 63=>266 | 64=>153 | n=>n,fun | n=>n⟩
theorem Tryz.sortA:Go.Proofs.SlLaysM.n5 Tryz.prog Tryz.sortA_ren:={
 mixed:=by kernel_rfl
 f5:=⟨Tryz.f171.name,by decide,Tryz.func171.trans (congrArg some (by kernel_rfl))⟩
 f7:=⟨Tryz.f224.name,by decide,Tryz.func224.trans (congrArg some (by kernel_rfl))⟩
 f8:=Tryz.func225.trans (congrArg some (by kernel_rfl))
 f10:=⟨Tryz.f268.name,by decide,Tryz.func268.trans (congrArg some (by kernel_rfl))⟩
 f11:=⟨Tryz.f269.name,by decide,Tryz.func269.trans (congrArg some (by kernel_rfl))⟩
 f12:=⟨Tryz.f270.name,by decide,Tryz.func270.trans (congrArg some (by kernel_rfl))⟩
 f13:=⟨Tryz.f271.name,by decide,Tryz.func271.trans (congrArg some (by kernel_rfl))⟩
 f14:=⟨Tryz.f272.name,by decide,Tryz.func272.trans (congrArg some (by kernel_rfl))⟩
 f15:=⟨Tryz.f273.name,by decide,Tryz.func273.trans (congrArg some (by kernel_rfl))⟩
 f16:=⟨Tryz.f258.name,by decide,Tryz.func258.trans (congrArg some (by kernel_rfl))⟩
 f17:=⟨Tryz.f274.name,by decide,Tryz.func274.trans (congrArg some (by kernel_rfl))⟩
 f18:=⟨Tryz.f275.name,by decide,Tryz.func275.trans (congrArg some (by kernel_rfl))⟩
 f19:=Tryz.func276.trans (congrArg some (by kernel_rfl))
 f20:=Tryz.func277.trans (congrArg some (by kernel_rfl))
 f30:=⟨Tryz.f291.name,by decide,Tryz.func291.trans (congrArg some (by kernel_rfl))⟩
 f31:=Tryz.func292.trans (congrArg some (by kernel_rfl))
 f32:=Tryz.func293.trans (congrArg some (by kernel_rfl))
 f33:=⟨Tryz.f294.name,by decide,Tryz.func294.trans (congrArg some (by kernel_rfl))⟩
 f34:=⟨Tryz.f295.name,by decide,Tryz.func295.trans (congrArg some (by kernel_rfl))⟩
 f35:=⟨Tryz.f287.name,by decide,Tryz.func287.trans (congrArg some (by kernel_rfl))⟩
 f40:=⟨Tryz.f302.name,by decide,Tryz.func302.trans (congrArg some (by kernel_rfl))⟩
 t0:=Tryz.underlying0
 a0:=Tryz.isAgg0
 z0:=Tryz.sizeOf0
 v0:=Tryz.zeroValue0
 t3:=Tryz.underlying3
 a3:=Tryz.isAgg3
 z3:=Tryz.sizeOf3
 v3:=Tryz.zeroValue3
 t4:=Tryz.underlying4
 a4:=Tryz.isAgg4
 z4:=Tryz.sizeOf4
 v4:=Tryz.zeroValue4
 t5:=Tryz.underlying5
 a5:=Tryz.isAgg5
 z5:=Tryz.sizeOf5
 v5:=Tryz.zeroValue5
 t9:=Tryz.underlying9
 a9:=Tryz.isAgg9
 z9:=Tryz.sizeOf9
 v9:=Tryz.zeroValue9
 t22:=Tryz.underlying36
 a22:=Tryz.isAgg36
 z22:=Tryz.sizeOf36
 v22:=Tryz.zeroValue36
 t23:=Tryz.underlying36
 a23:=Tryz.isAgg36
 z23:=Tryz.sizeOf36
 v23:=Tryz.zeroValue36
 t25:=Tryz.underlying3
 a25:=Tryz.isAgg3
 z25:=Tryz.sizeOf3
 v25:=Tryz.zeroValue3
 t32:=Tryz.underlying228
 a32:=Tryz.isAgg228
 z32:=Tryz.sizeOf228
 v32:=Tryz.zeroValue228
 t35:=Tryz.underlying248
 a35:=Tryz.isAgg248
 z35:=Tryz.sizeOf248
 v35:=Tryz.zeroValue248
 t36:=Tryz.underlying249
 a36:=Tryz.isAgg249
 z36:=Tryz.sizeOf249
 v36:=Tryz.zeroValue249
 t41:=Tryz.underlying217
 a41:=Tryz.isAgg217
 z41:=Tryz.sizeOf217
 v41:=Tryz.zeroValue217
 t44:=Tryz.underlying255
 a44:=Tryz.isAgg255
 z44:=Tryz.sizeOf255
 v44:=Tryz.zeroValue255
 t46:=Tryz.underlying257
 a46:=Tryz.isAgg257
 z46:=Tryz.sizeOf257
 v46:=Tryz.zeroValue257
 t53:=Tryz.underlying260
 a53:=Tryz.isAgg260
 z53:=Tryz.sizeOf260
 v53:=Tryz.zeroValue260
 t57:=Tryz.underlying264
 a57:=Tryz.isAgg264
 z57:=Tryz.sizeOf264
 v57:=Tryz.zeroValue264
 t63:=Tryz.underlying266
 a63:=Tryz.isAgg266
 z63:=Tryz.sizeOf266
 v63:=Tryz.zeroValue266
 t64:=Tryz.underlying153
 a64:=Tryz.isAgg153
 z64:=Tryz.sizeOf153
 v64:=Tryz.zeroValue153}
end Go.Proofs
namespace Go.Proofs
open Go.RowKit Go.Maps Go.Sort Go.Shelf
attribute [local go_sem] Oper.semAt_some
abbrev CoI:={x:Int // (Lit.int .i64 x).wf=true}
def aCg(zs:List Int)(hw:∀j:Nat,(Lit.int .i64 (zs[j]?.getD 0)).wf=true)(j:Nat): CoI:=⟨zs[j]?.getD 0,hw j⟩
def na(zs:List Int)(hw:∀j:Nat,(Lit.int .i64 (zs[j]?.getD 0)).wf=true)(o k:Nat): List CoI:=((List.range k).filter λj=>decide (j≠o)).map (aCg zs hw)
theorem Ig(zs:List Int)(hw:∀j:Nat,(Lit.int .i64 (zs[j]?.getD 0)).wf=true)(o k:Nat): (na zs hw o k).length<=k:=by
 unfold na;rw[List.length_map];exact Nat.le_trans (List.length_filter_le _ _) (by rw[List.length_range];exact Nat.le_refl _)
theorem Ih{zs:List Int}{hw:∀j:Nat,(Lit.int .i64 (zs[j]?.getD 0)).wf=true}{o k:Nat}(h:k≠o): na zs hw o (k+1)=na zs hw o k++[aCg zs hw k]:=by
 unfold na;rw[List.range_succ,List.filter_append,List.map_append,List.filter_cons,if_pos (by simp[h])];rfl
theorem O8{zs:List Int}{hw:∀j:Nat,(Lit.int .i64 (zs[j]?.getD 0)).wf=true}{o k:Nat}(h:k=o): na zs hw o (k+1)=na zs hw o k:=by
 unfold na;rw[List.range_succ,List.filter_append,List.map_append,List.filter_cons,if_neg (by simp[h])];exact List.append_nil _
theorem Zl{zs:List Int}{hw:∀j:Nat,(Lit.int .i64 (zs[j]?.getD 0)).wf=true}{o k:Nat}(h:k<zs.length)(ho:k≠o): (na zs hw o k).length<(na zs hw o zs.length).length:=by
 have e:zs.length=k+1+(zs.length-(k+1)):=by omega
 have:na zs hw o (k+1) <+: na zs hw o zs.length:=by
  have g:∀m:Nat,na zs hw o (k+1) <+: na zs hw o (k+1+m):=λm=>by
   unfold na;rw[List.range_add (n:=k+1),List.filter_append,List.map_append];exact List.prefix_append _ _
  rw[e];exact g _
 have:=this.length_le;rw[Ih ho,List.length_append]at this;simp at this;omega
def uW(n₀:Nat)(W:World)(B1 B2 o:Nat)(zs:List Int): Prop:=
 B1<n₀/\B2<n₀/\W.cell? ⟨B2,0,none⟩=some (.int .i64 o)/\∃(b1 o1 n1 c1:Nat) (a2:Option Addr) (c2:Nat),W.cell? ⟨B1,2,none⟩=some (.slice (some ⟨b1,o1,none⟩) n1 c1)/\o<n1/\b1<n₀/\
  W.cell? ⟨b1,o1+o,none⟩=some (.slice a2 zs.length c2)/\(zs.length=0\/∃b2 o2,a2=some ⟨b2,o2,none⟩/\b2<n₀/\∀j,j<zs.length->W.cell? ⟨b2,o2+j,none⟩=some (.int .i64 (zs[j]?.getD 0)))
theorem uW.below {n₀:Nat} {A B:World} (h:Below n₀ A B) {B1 B2 o:Nat} {zs:List Int}:uW n₀ A B1 B2 o zs->uW n₀ B B1 B2 o zs:=by
 rintro⟨h1,h2,h3,b1,o1,n1,c1,a2,c2,h4,h5,h6,h7,h8⟩;refine⟨h1,h2,(h.cell (p:=⟨B2,0,none⟩) h2).trans h3,b1,o1,n1,c1,a2,c2,(h.cell (p:=⟨B1,2,none⟩) h1).trans h4,h5,h6,(h.cell (p:=⟨b1,o1+o,none⟩) h6).trans h7,?_⟩;rcases h8 with h8 | ⟨b2,o2,h8,h9,h10⟩
 .exact .inl h8
 .exact .inr ⟨b2,o2,h8,h9,λj hj=>(h.cell (p:=⟨b2,o2+j,none⟩) h9).trans (h10 j hj)⟩
theorem uW.mono {n₀ n₁:Nat} (h:n₀<=n₁) {W:World} {B1 B2 o:Nat} {zs:List Int}:uW n₀ W B1 B2 o zs->uW n₁ W B1 B2 o zs:=by
 rintro⟨h1,h2,h3,b1,o1,n1,c1,a2,c2,h4,h5,h6,h7,h8⟩;refine⟨by omega,by omega,h3,b1,o1,n1,c1,a2,c2,h4,h5,by omega,h7,?_⟩;rcases h8 with h8 | ⟨b2,o2,h8,h9,h10⟩
 .exact .inl h8
 .exact .inr ⟨b2,o2,h8,by omega,h10⟩
set_option maxRecDepth 100000 in
set_option maxHeartbeats 4000000 in
theorem UO(n:Nat)(hn:1<=n)(l B1 B2 o n₀:Nat)(zs:List Int)(hw:∀j:Nat,(Lit.int .i64 (zs[j]?.getD 0)).wf=true)(hreach:zs.length<=1000000)(J Jx:List CoI->World->Prop)
  (hY:∀pre x W,J pre W->pre.length<(na zs hw o zs.length).length->YieldAt Fence.wide (n-1) Tryz.prog l #[.int .i64 x.1] W λe W' =>
   (e=.returned (.bool true)/\J (pre++[x]) W'/\Below n₀ W W')\/(e=.returned (.bool false)/\Jx (pre++[x]) W'))
  (W:World) (hR:uW n₀ W B1 B2 o zs) (h0:J [] W):
  CallsIn Fence.wide n Tryz.prog 110 #[.func (.yield l) #[] #[],.pointer (some ⟨B1,0,none⟩),.pointer (some ⟨B2,0,none⟩)] W λe W'=>(∃v,e=.returned v)/\
   ((∃ys,ys=na zs hw o zs.length/\J ys W')\/(∃pre,True/\Jx pre W')):=by
 obtain⟨h1,h2,hO,b1,o1,n1,c1,a2,c2,hN,hon,hb1,hS,hZ⟩:=hR;refine callsIn_of_wp Tryz.func110 rfl trivial ?_ rfl;simp only[Tryz.ntmps110,List.size_toArray,List.length_cons,List.length_nil,Nat.reduceAdd,Nat.reduceSub,Array.replicate_succ,Array.replicate_zero,List.push_toArray,List.append_toArray,List.nil_append,List.cons_append];have ho63:(o:Int)<n1:=by omega
 gi_wp2
 gi_loopw [12] (λi wr=>∃k:Nat,k<=zs.length/\i=.int .i64 k/\J (na zs hw o k) wr/\Below n₀ W wr)
  (λi _=>zs.length-(intOf i).toNat)
 case atStart=>exact⟨0,Nat.zero_le _,rfl,h0,Below.refl _ _⟩
 case round=>
  obtain⟨k,hk,rfl,hJs,hnx⟩:=hrel;by_cases hlt:k<zs.length
  .rcases hZ with hZ | ⟨b2,o2,rfl,hb2,hZ⟩
   .omega
   have hcx':wr.cell? ⟨b2,o2+k,none⟩=some (.int .i64 (zs[k]?.getD 0)):=(hnx.cell (p:=⟨b2,o2+k,none⟩) hb2).trans (hZ k hlt);have hO':wr.cell? ⟨B2,0,none⟩=some (.int .i64 o):=(hnx.cell (p:=⟨B2,0,none⟩) h2).trans hO;by_cases hko:k=o
   .subst hko
    gi_wp2
    refine⟨λ_ h=>(by cases h),?_⟩
    gi_wp2
    go_roundw
    case rel=>exact⟨k+1,by omega,by simp,by rw[O8 rfl];exact hJs,hnx⟩
    case measure=>simp[intOf];omega
   .obtain⟨fn,tmps,assign,body,hy,hR⟩:=hY _ (aCg zs hw k) wr hJs (Zl hlt hko);dsimp only[aCg]at hy;generalize hx:zs[k]?.getD 0=x at hcx' hy;have hne:((k:Int) != (o:Int))=true:=by rw[bne_iff_ne];omega
    gi_wp2
    refine hR.mono ?_;rintro e W3 (⟨rfl,hJ3,hk3⟩ | ⟨rfl,hJx3⟩)
    .gi_wp2
     go_roundw
     case rel=>exact⟨k+1,by omega,by simp,by rw[Ih hko];exact hJ3,hnx.trans hk3⟩
     case measure=>simp[intOf];omega
    .gi_wp2
     refine bodyPost_ret (results_none rfl _ _ _) rfl ?_;exact⟨⟨_,rfl⟩,.inr ⟨_,trivial,hJx3⟩⟩
  .obtain rfl:k=zs.length:=by omega
   gi_wp2
   go_end0
   exact⟨⟨_,rfl⟩,.inl ⟨_,rfl,hJs⟩⟩
theorem UN(n:Nat)(hn:1<=n)(B1 B2 o n₀:Nat)(zs:List Int)(hw:∀j:Nat,(Lit.int .i64 (zs[j]?.getD 0)).wf=true)(hreach:zs.length<=1000000)(w:World)(hn₀:n₀<=w.heap.size)(hR:uW n₀ w B1 B2 o zs):
  SeqStopsK Fence.wide n Tryz.prog 110 #[.pointer (some ⟨B1,0,none⟩),.pointer (some ⟨B2,0,none⟩)] (λx:CoI=>#[Value.int .i64 x.1]) (Below n₀) (λys=>ys=na zs hw o zs.length) (λ_=>True) (na zs hw o zs.length).length w:=λl J Jx W hW _ _ hY h0=>
 UO n hn l B1 B2 o n₀ zs hw hreach J Jx hY W (hR.below (hW.mono hn₀)) h0
set_option maxHeartbeats 1000000 in
theorem Zk(n:Nat)(x:Int)(w:World): CallsIn Fence.wide n Tryz.prog 114 #[.int .i64 x] w λe w'=>e=.returned (.bool (x != -1))/\w'=w:=by
 refine callsIn_of_wp Tryz.func114 rfl trivial ?_ rfl;simp only[Tryz.ntmps114,List.size_toArray,List.length_cons,List.length_nil,Nat.reduceAdd,Nat.reduceSub,Array.replicate_succ,Array.replicate_zero,List.push_toArray,List.append_toArray,List.nil_append,List.cons_append]
 gi_wp2
 go_ret
 exact⟨rfl,rfl⟩
theorem cell_of_box_c{W:World}{B:Nat}{v:Value}{t:TypeId}(h:W.heap[B]?=some (.cells #[v] t (0,0))): W.cell? ⟨B,0,none⟩=some v/\W.frozen? ⟨B,0,none⟩=false:=by
 constructor<;>simp[World.cell?,World.frozen?,h]
theorem cell_new_c(W:World)(v:Value)(t:TypeId): (W.alloc (.cells #[v] t)).cell? ⟨W.heap.size,0,none⟩=some v/\(W.alloc (.cells #[v] t)).frozen? ⟨W.heap.size,0,none⟩=false:=
 cell_of_box_c (World.alloc_heap_new W _)
theorem cell_alloc_c{W:World}{a:Addr}{v:Value}(o:Obj)(h:W.cell? a=some v): (W.alloc o).cell? a=some v:=cell_kept h (World.grownBy_alloc W o none) (λr e=>by cases e)
def coD(xs:List CoI): DataW Unit:=xs.foldl (λD x=>if x.1=-1 then D else D.put (.int .i64 x.1) (.lit (.bool true))) (.map [])
theorem Ii(pre:List CoI)(x:CoI): coD (pre++[x])=if x.1=-1 then coD pre else(coD pre).put (.int .i64 x.1) (.lit (.bool true)):=by simp[coD]
set_option maxRecDepth 100000 in
set_option maxHeartbeats 4000000 in
theorem J4(n:Nat)(hn:3<=n)(B1 B2 o:Nat)(zs:List Int)(hw:∀j:Nat,(Lit.int .i64 (zs[j]?.getD 0)).wf=true)(hreach:zs.length<=1000000)(w:World)(hR:uW w.heap.size w B1 B2 o zs):
  CallsIn Fence.wide n Tryz.prog 113 #[.func (.func 110) #[] #[.pointer (some ⟨B1,0,none⟩),.pointer (some ⟨B2,0,none⟩)],.func (.func 114) #[] #[]] w λe W'=>e=.returned (.map (some (w.heap.size+1)))/\
   W'.ownsMap Tryz.prog 3 (plainElem (H:=Unit) Tryz.prog 4) (w.heap.size+1) (na zs hw o zs.length).length (coD (na zs hw o zs.length))/\Below w.heap.size w W':=by
 have h1:1<=n:=by omega
 have hmm:=@run_makeMap Tryz.prog;refine callsIn_of_wp_marks Tryz.func113 rfl trivial ?_ rfl;simp only[Tryz.ntmps113,List.size_toArray,List.length_cons,List.length_nil,Nat.reduceAdd,Nat.reduceSub,Array.replicate_succ,Array.replicate_zero,List.push_toArray,List.append_toArray,List.nil_append,List.cons_append]
 gi_wp2
 have cG:=cell_new_c w (.func (.func 114) #[] #[]) 143;have hm0:=World.ownsMap_made (w.alloc (.cells #[.func (.func 114) #[] #[]] 143)) Tryz.prog 3 (plainElem (H:=Unit) Tryz.prog 4);have cS:=cell_new_c ((w.alloc (.cells #[.func (.func 114) #[] #[]] 143)).alloc (.map #[] 0)) (.map (some (w.heap.size+1))) 165;simp only[World.size_alloc]at cS hm0
 have hB0:Below w.heap.size w (((w.alloc (.cells #[.func (.func 114) #[] #[]] 143)).alloc (.map #[] 0)).alloc (.cells #[.map (some (w.heap.size+1))] 165)):=(((Below.refl _ w).alloc (Nat.le_refl _) _).alloc (by simp) _).alloc (by simp;omega) _
 refine wpIn_rangeFunc_ownG rfl h1 (gf:=110) (lb:=#[.pointer (some ⟨B1,0,none⟩),.pointer (some ⟨B2,0,none⟩)]) rfl trivial (enters_of Tryz.func110 (by kernel_rfl) rfl)
  (UN (n-1) (by omega) B1 B2 o w.heap.size zs hw hreach _ (by simp;omega) (hR.below hB0)) belowK_t (belowK_b (by simp;omega)) (Below.refl _ _) (λ_=>rfl)
  (λpre W=>(W.cell? ⟨w.heap.size,0,none⟩=some (.func (.func 114) #[] #[])/\W.cell? ⟨w.heap.size+1+1,0,none⟩=some (.map (some (w.heap.size+1)))/\W.ownsMap Tryz.prog 3 (plainElem (H:=Unit) Tryz.prog 4) (w.heap.size+1) pre.length (coD pre))/\Below w.heap.size w W)
  (λ_ _ _=>False)
  (OwnFrom.and (λs A B row hs hg hr=>⟨cell_kept hs.1 hg (λr e=>(hr r e).2),cell_kept hs.2.1 hg (λr e=>(hr r e).2),hs.2.2.kept hg (λe=>by have:=(hr _ e.symm).1;simp at this;omega)⟩) (ownFrom_below (Nat.le_refl _) (by simp;omega)))
  (λ_ _ _ _ _ hs _ _=>hs)
  ⟨⟨cell_alloc_c _ (cell_alloc_c _ cG.1),cS.1,hm0.alloc _⟩,hB0⟩
  (λx=>{tmps:=#[.func (.func 110) #[] #[.pointer (some ⟨B1,0,none⟩),.pointer (some ⟨B2,0,none⟩)],.func (.func 114) #[] #[],undef,.pointer (some ⟨w.heap.size,0,none⟩),.map none,.pointer (some ⟨w.heap.size+1+1,0,none⟩),.int .i64 x.1,.map (some (w.heap.size+1)),.func (.func 110) #[] #[.pointer (some ⟨B1,0,none⟩),.pointer (some ⟨B2,0,none⟩)],.int .i64 x.1,undef,undef,undef,undef,undef,undef],defers:=[]}) ?assign ?body ?done ?stop
 case assign=>
  intro l x W K hK
  gi_wp2
  exact hK
 case body=>
  rintro l pre x W ⟨⟨hg,hc,hown⟩,hB⟩ hlt;have hlen:=Ig zs hw o zs.length;have hmax:pre.length<maxLen:=by unfold maxLen;omega
  gi_wp2
  refine⟨trivial,λ_=>by omega,(CallsIn.inRound l (Zk _ x.1 _)).mono ?_⟩;rintro e w' ⟨rfl,rfl⟩
  gi_wp2_with (gi_at_mapUpdate;refine wpListIn_mapUpdate_own _ rfl _ _ _ 165 rfl 3 4 (Maps.int_keyed Tryz.underlying3) Tryz.underlying165 _ (w.heap.size+1) pre.length _ rfl hown hmax _ _ _ rfl rfl (Maps.keyOf_int_mk Tryz.underlying3 x.2) _ [] (plainElem_bool Tryz.underlying4 true) ?_;intro w1 hown1 hgrow1)
  .have hx:x.1≠-1:=by rename_i h;simpa using h
   obtain⟨es,ck,hh,_⟩:=hown;refine⟨KeepsFrom.of_grownBy hgrow1 (λj e=>by cases e;simp),(Below.refl _ _).grown hgrow1 hB.size (λk e=>by cases e;omega),
    ⟨cell_kept hg hgrow1 (λr e=>by cases e;exact⟨_,hh,rfl⟩),cell_kept hc hgrow1 (λr e=>by cases e;exact⟨_,hh,rfl⟩),by rw[Ii,if_neg hx,List.length_append];exact hown1⟩,hB.grown hgrow1 hB.size (λk e=>by cases e;omega)⟩
  .have hx:x.1=-1:=by rename_i h;simpa using h
   exact⟨KeepsFrom.refl _ _,Below.refl _ _,⟨hg,hc,by rw[Ii,if_pos hx,List.length_append];exact hown.mono (Nat.le_add_right _ _)⟩,hB⟩
 case done=>
  rintro D ys W hD rfl ⟨⟨hg,hc,hown⟩,hB⟩ hK
  gi_wp2
  refine⟨by simp,.inl ⟨_,_,rfl,run_takeDeferred hK,?_⟩⟩;exact⟨_,results_tmp rfl _ _ _,rfl,hown.kept (grownBy_putObj' _ D _) (λe=>by cases e;simp at hD;omega),hB.trans (belowK_b (w:=w) (Nat.le_refl _) W D _ _ (by simp at hD;omega) hK rfl rfl)⟩
 case stop=>
  rintro D c pre W _ _ h _;exact h.elim
theorem Tryz.sortsA (m:Nat):AnyZI.SortsIn Tryz.prog Tryz.sortedA_ren Fence.wide m:=
 ⟨λblk off cap ss W hH hblk hsz=>callsIn_wide.2 (AnyM.slices_Sort_int Tryz.sortA blk off cap ss W hH hblk hsz),
  λp cap W=>callsIn_wide.2 (AnyM.slices_Sort_int_none Tryz.sortA p cap W)⟩
theorem Gq{y:Int}: ∀(xs:List CoI) (D:DataW Unit),IsMap D->(has (xs.foldl (λD x=>if x.1=-1 then D else D.put (.int .i64 x.1) (.lit (.bool true))) D) (.int .i64 y)=true↔has D (.int .i64 y)=true\/(y≠-1/\y∈xs.map Subtype.val))
 | [],D,_=>by simp
 | x::xs,D,hD=>by
  rw[List.foldl_cons];by_cases hx:x.1=-1
  .rw[if_pos hx,Gq xs D hD,List.map_cons,List.mem_cons,hx];constructor
   .rintro(h | ⟨h,g⟩)
    .exact .inl h
    .exact .inr ⟨h,.inr g⟩
   .rintro(h | ⟨h,g | g⟩)
    .exact .inl h
    .exact absurd g h
    .exact .inr ⟨h,g⟩
  .rw[if_neg hx,Gq xs _ (hD.put _ _),List.map_cons,List.mem_cons];by_cases hy:y=x.1
   .subst hy;rw[has_put_same hD (by simp[WideAt.IsKeyLit])];exact⟨λ_=>.inr ⟨hx,.inl rfl⟩,λ_=>.inl rfl⟩
   .rw[has_put_other (by simpa using hy)];constructor
    .rintro(h | ⟨h,g⟩)
     .exact .inl h
     .exact .inr ⟨h,.inr g⟩
    .rintro(h | ⟨h,g | g⟩)
     .exact .inl h
     .exact absurd g hy
     .exact .inr ⟨h,g⟩
set_option maxRecDepth 100000 in
set_option maxHeartbeats 4000000 in
theorem UP(cs:Array Value)(o:Nat)(zs:List Int)(hw:∀j:Nat,(Lit.int .i64 (zs[j]?.getD 0)).wf=true)(hreach:zs.length<=1000000)(gs:List Int)(hgs:gs.Pairwise (· < ·))(hmem:∀y,y∈gs↔y≠-1/\y∈(na zs hw o zs.length).map Subtype.val)(w:World)
  (hR:∀w1,w1=(w.alloc (.cells cs 35)).alloc (.cells #[.int .i64 o] 3)->uW w1.heap.size w1 w.heap.size (w.heap.size+1) o zs):
  Calls Tryz.prog 45 #[.agg cs,.int .i64 o] w λe w'=>∃(v:Value),e=.returned v/\
   w'.ownsRow w.heap.size 3 1 v gs.length (gs.map encZ)/\(v=.slice none 0 0↔gs=[])/\Below w.heap.size w w':=by
 refine(callsIn_wide (n:=6)).1 ?_;refine callsIn_of_wp Tryz.func45 rfl trivial ?_ rfl;simp only[Tryz.ntmps45,List.size_toArray,List.length_cons,List.length_nil,Nat.reduceAdd,Nat.reduceSub,Array.replicate_succ,Array.replicate_zero,List.push_toArray,List.append_toArray,List.nil_append,List.cons_append]
 gi_wp2
 obtain⟨w1,hw1⟩:∃w1,(w.alloc (.cells cs 35)).alloc (.cells #[.int .i64 o] 3)=w1:=⟨_,rfl⟩;have hR:=hR w1 hw1.symm;have hs1:w1.heap.size=w.heap.size+1+1:=by rw[<- hw1];simp
 have hB1:Below w.heap.size w w1:=by rw[<- hw1];exact((Below.refl _ w).alloc (Nat.le_refl _) _).alloc (by simp) _
 rw[hw1];refine⟨trivial,(J4 5 (by omega) w.heap.size (w.heap.size+1) o zs hw hreach w1 hR).mono ?_⟩;rintro e w2 ⟨rfl,hown,hB2⟩;rw[hs1]at hB2 hown;have hcl:=Ig zs hw o zs.length;have hmax:Maps.size (coD (na zs hw o zs.length))<=maxLen:=Nat.le_trans hown.size_le (by unfold maxLen;omega)
 have hbytes:Maps.size (coD (na zs hw o zs.length))*8<=140737488355328:=Nat.le_trans (Nat.mul_le_mul_right 8 hown.size_le) (by omega);have hbl:=hown.lt;have hseq:SeqGives Fence.wide 2 Tryz.prog 172 #[.pointer (some ⟨w2.heap.size,0,none⟩)] encZ (λss=>ss.Perm (intKeys (coD (na zs hw o zs.length)))) (Maps.size (coD (na zs hw o zs.length))) (w2.alloc (.cells #[.map (some (w.heap.size+1+1+1))] 165)):=
  AnyZI.keys_gives (ρ:=Tryz.keysA_ren) {Tryz.keysA with} Fence.wide _ trivial rfl (by omega) w2.heap.size (w.heap.size+1+1+1) (na zs hw o zs.length).length (coD (na zs hw o zs.length)) _ (by simp) (by simp) (by
   obtain⟨es,clock,hb,Ft,hs,hD⟩:=hown;exact⟨es,clock,(Below.heap_alloc _ _ _ hbl).trans hb,Ft,hs,hD⟩)
 have cK:∀mb W,CallsIn Fence.wide 5 Tryz.prog 112 #[.map mb] W λe w'=>e=.returned (.func (.func 172) #[] #[.pointer (some ⟨W.heap.size,0,none⟩)])/\w'=W.alloc (.cells #[.map mb] 165):=λmb W=>AnyZI.keys_in Tryz.keysA Fence.wide 5 trivial rfl mb W
 have cS:=AnyZI.sorted_in Tryz.sortedA Fence.wide 5 trivial trivial trivial trivial rfl (by omega) (Tryz.sortsA _) (enters_of Tryz.func171 (by kernel_rfl) rfl) 172 #[.pointer (some ⟨w2.heap.size,0,none⟩)] trivial (enters_of Tryz.func172 (by kernel_rfl) rfl) _ _ hmax hbytes _ hseq
 change CallsIn _ _ Tryz.prog 111 _ _ _ at cS
 have hfK:Fence.wide.fn 112:=trivial;have hfS:Fence.wide.fn 111:=trivial
 gi_wp2_with (first
  | (gi_at_call 112;refine(cK _ _).mono ?_;rintro e w' ⟨rfl,rfl⟩)
  | (gi_at_call 111;refine cS.mono ?_;rintro e w' ⟨v,ss,rfl,hS,hrow,hnil,hb⟩))
 go_ret
 have hP:gs.Perm (intKeys (coD (na zs hw o zs.length))):=CollectedI.perm (left:=λ_=>false) ⟨hgs.imp (λh=>Int.ne_of_lt h),λx=>by
  rw[hmem x];unfold coD;rw[Gq _ _ isMap_empty];exact⟨λh=>⟨.inr h,rfl⟩,λ⟨h,_⟩=>h.resolve_left (by simp[has_eq])⟩⟩ hown (Maps.int_keyed Tryz.underlying3) Tryz.underlying3 (λ_=>rfl)
 have hP:gs.Perm ss:=hP.trans hS.symm;have hM:ss.mergeSort (λx y=>decide (x<=y))=gs:=(mergeSort_of_perm_i hP.symm).trans (List.mergeSort_of_pairwise (hgs.imp (λh=>decide_eq_true (Int.le_of_lt h))));rw[hM]at hrow;have hl:=hP.length_eq;rw[<- hl]at hrow;have hB3:Below w.heap.size w w2:=hB1.trans (hB2.mono (by omega));have hs2:=hB3.size
 refine⟨v,rfl,ownsRow_base_a hrow (by simp;omega),hnil.trans ⟨λh=>(by subst h;exact hP.eq_nil),λh=>(by subst h;exact hP.symm.eq_nil)⟩,(hB3.alloc (by omega) _).trans (hb.mono (by simp;omega))⟩
end Go.Proofs
set_option maxRecDepth 100000
noncomputable section
namespace Go.Eng.In
open Go.Proofs
abbrev I: Ty:=.int .i64
abbrev B: Ty:=.sl .bool
abbrev R: Ty:=.sl I
abbrev M: Ty:=.sl R
abbrev LC: Type:=List (Int×List Bool×Li)
abbrev LB: Type:=List ByteArray
abbrev C: Ty:=.pair I (.pair B R)
abbrev S: Ty:=.str
abbrev dA(t:TypeId)(e:Int): Value:=.iface t (.int .i64 e)
def big(x:Int): Prop:=-1000000000000<=x/\x<=1000000000000
def btw(x a b:Int): Bool:=decide (a<=x/\x<=b)
def bh(z t:Int): Int:=(t+z)/1440
def cP(z t:Int): Int:=(t+z)%1440
def vR(z d m:Int): Int:=d*1440+m-z
def wkF(w:List Bool)(h:Li)(d:Int): Bool:=w.getD (d%7).toNat false&&!h.contains d
def Kp(h:Li)(d:Int): Int:=((h.filter λx=>decide (x<d)).length:Int)
def srt(h:Li): Prop:=h.length<=1000000/\∀i j:Nat,i<j->j<h.length->h.getD i 0<h.getD j 0
def Kq(h:Li)(d i j:Int): Prop:=0<=i/\i<=j/\j<=h.length/\(∀k:Nat,(k:Int)<i->h.getD k 0<d)/\∀k:Nat,j<=k->k<h.length->d<=h.getD k 0
def CQ(h:Li)(d:Int): Bool:=h.contains d
def dR(z:Int)(w:List Bool)(h:Li): Bool:=decide (-720<=z/\z<=840/\w.length=7/\h.length<=40)&&(List.range (h.length-1)).all λi=>decide (h.getD i 0<h.getD (i+1) 0)
def y6(h:Li)(k:Int): Prop:=1<=k/\(k<=h.length\/k=1)/\h.length<=40/\∀i:Nat,(i:Int)+1<k->h.getD i 0<h.getD (i+1) 0
def wkP(w:List Bool)(h:Li)(d:Int): Prop:=w.length=7/\srt h/\big d
def gX(w:List Bool)(h:Li)(a b:Int): Li:=((List.range (b+1-a).toNat).map λ(i:Nat)=>a+(i:Int)).filter λd=>wkF w h d
def gj(w:List Bool)(h:Li)(a d:Int): Nat:=(((List.range (d-a).toNat).map λ(i:Nat)=>a+(i:Int)).filter λd=>wkF w h d).length
def wdP(w:List Bool)(h:Li)(a b:Int): Prop:=w.length=7/\srt h/\big a/\big b
def ZN(a b d:Int): Prop:=a<=d/\(d<=b+1\/d=a)
def bR(xs:Li): Bool:=decide (0<xs.length)
def hd(xs:Li): Int:=xs.getD 0 0
def tl(xs:Li): Li:=xs.drop 1
def Wp: Kt:=λf args m=>none
def dY: List (Nat×AV):=[]
def KI0: FuncId->List AV->Option jr:=λ_ _=>none
noncomputable def mkc(K:Kt): Cfg:=⟨Tryz.prog,dY,K,λ_=>false,KI0,false,λ_ _ _=>none,λ_=>false⟩
noncomputable def Jr(K:Kt)(mb:Tmp->Bool)(KP:KPt)(pf:FuncId->Bool): Cfg:=⟨Tryz.prog,dY,K,mb,KI0,false,KP,pf⟩
def fP(s:St): St:={s with tm:=s.tm.map aAF}
def RD(h:Li): Ann:=⟨λid s=>match id with
 | 4=>some {α:=Int,inv:=λk=>y6 h k,st:=λk=>put s [(3,.dat I k)],μ:=λk=>Dc (Dh (Df h) k)}
 | _=>none,λ_ _=>none,λ_ _=>none⟩
def bsA(h:Li)(d:Int): Ann:=⟨λid s=>match id with
 | 3=>some {α:=Int×Int,inv:=λk=>Kq h d k.1 k.2,st:=λk=>put s [(7,.dat I k.1),(8,.dat I k.2)],μ:=λk=>Dc (Dh k.2 k.1)}
 | _=>none,λ_ _=>none,λ_ _=>none⟩
theorem aAz(x a b:Int)(hvc:
 let c1:=Ed x a->Ed x a->Ed x a;true/\(True->c1/\c1/\(Dk true (Ed x a)->Ed x a)/\Dz (Ed x a) (Eh x b) false=btw x a b/\True)):
  evF (mkc Wp) aA 148 [.dat I x,.dat I a,.dat I b] [] ⟨True,.dat .bool (btw x a b),[]⟩:=oE hvc
theorem WZ(x:Int)(hvc:
 true/\(True->Ec x x=false/\True)):
  evF (mkc Wp) aA 290 [.dat I x] [] ⟨True,.dat .bool false,[]⟩:=oE hvc
theorem WY(x:Int)(hvc:
 true/\(True->Ec x x=false/\True)):
  evF (mkc Wp) aA 287 [.dat I x] [] ⟨True,.dat .bool false,[]⟩:=oE hvc
def aDi: Kt:=kOr 148 (az [.val I,.val I,.val I] (λ_=>True) λ(x,a,b,_)=>.dat .bool (btw x a b)) <|
 kOr 290 (az [.val I] (λ_=>True) λ_=>.dat .bool false) <|
 kOr 287 (az [.val I] (λ_=>True) λ_=>.dat .bool false) Wp
theorem Ls(x y:Int)(hvc:
 let c3:=false->false->false;let c1:=Dz false (Di false) false;let c2:=Di c1;true/\(True->True/\c3/\(false->True)/\c3/\(Dk true false->false)/\(c2->c2->c2)/\(c2->c2->c2)/\(Dk true c2->c2)/\Dz c1 true (Dp x y)=Dp x y/\True)):
  evF (mkc aDi) aA 258 [.dat I x,.dat I y] [] ⟨True,.dat .bool (Dp x y),[]⟩:=oE hvc
def aDh: Kt:=kOr 258 (az [.val I,.val I] (λ_=>True) λ(x,y,_)=>.dat .bool (Dp x y)) aDi
theorem aDu(h:Li)(d:Int)(hvc:
 true/\(srt h->(∃(x:Int×Int),Kq h d x.1 x.2/\h=h/\d=d/\(0:Int)=(0:Int)/\false=false/\Df h=Df h/\0=x.1/\Df h=x.2/\True)/\∀(x:Int×Int),let c1:=Dp x.1 x.2;let c2:=x.1+x.2;let c3:=Gi c2 1;let c4:=Dp (Du h (Dc c3) 0) d;let c5:=c3+1;let aQ:=Dp x.1 (Df h);let c7:=Ea (Du h (Dc x.1) 0) d;let c8:=Dk aQ (Di c7);Kq h d x.1 x.2->(c1->inR .i64 c2/\inR IntKind.u64 c2/\Dl 0 1/\Dc 1<=64/\inR .i64 c3/\0<=c3/\c3<Df h/\True/\(c4->inR .i64 c5/\∃(y:Int×Int),Kq h d y.1 y.2/\(h=h/\d=d/\(0:Int)=(0:Int)/\false=false/\Df h=Df h/\c5=y.1/\x.2=y.2/\True)/\Dc (y.2-y.1)<Dc (x.2-x.1))/\(c4=false->∃(y:Int×Int),Kq h d y.1 y.2/\(h=h/\d=d/\(0:Int)=(0:Int)/\false=false/\Df h=Df h/\x.1=y.1/\c3=y.2/\True)/\Dc (y.2-y.1)<Dc (x.2-x.1)))/\(c1=false->(aQ->aQ->aQ)/\(aQ->aQ->aQ)/\(aQ->0<=x.1)/\(aQ->x.1<Df h)/\(aQ->aQ->aQ)/\(aQ->aQ->aQ)/\(aQ->aQ->aQ)/\(aQ->aQ->aQ)/\(c8->c8->c8)/\(c8->c8->c8)/\(c8->0<=x.1)/\(c8->x.1<Df h)/\(c8->c8->c8)/\(c8->c8->c8)/\(c8->True)/\(c8->c8->c8)/\(Dk c8 false->Dk c8 false->Dk c8 false)/\(Dk c8 false->True)/\(c8->c8->c8)/\(c8->Dk c8 false->Dk c8 false)/\(aQ->aQ->aQ)/\(aQ->c8->c8)/\(Dk true aQ->aQ)/\x.1=Kp h d/\Dz aQ (Dz c7 true (Dz false false false)) false=CQ h d/\True))):
  evF (mkc aDh) (lvA [(3,[0,1,4,5,6,7,8,9])] (bsA h d)) 264 [.dat R h,.dat I d] [] ⟨srt h,.tup [.dat I (Kp h d),.dat .bool (CQ h d)],[]⟩:=oE hvc
def DF: Kt:=kOr 264 (az [.val R,.val I] (λ(h,_,_)=>srt h) λ(h,d,_)=>.tup [.dat I (Kp h d),.dat .bool (CQ h d)]) aDh
theorem Qx(z d:Int)(w:List Bool)(h:Li)(hvc:
 let c1:=Fp d 7+7;let c2:=Fp c1 7;let c3:=Di (Du w (Dc c2) false);true/\(wkP w h d->Eo 7 0/\inR .i64 c1/\Eo 7 0/\0<=c2/\c2<Df w/\(c3->false=wkF w h d/\True)/\(c3=false->srt h/\Di (CQ h d)=wkF w h d/\True))):
  evF (mkc DF) aA 220 [.ip C (z,w,h),.dat I d] [] ⟨wkP w h d,.dat .bool (wkF w h d),[]⟩:=oE hvc
theorem IN(z t:Int)(w:List Bool)(h:Li)(hvc:
 let c1:=Fp (t+z) 1440+1440;let c2:=Fp c1 1440;let c3:=(t+z)-c2;let c4:=Gg c3 1440;true/\(big z/\big t->inR .i64 (t+z)/\Eo 1440 0/\inR .i64 c1/\Eo 1440 0/\inR .i64 c3/\Eo 1440 0/\inR .i64 c4/\c4=bh z t/\c2=cP z t/\True)):
  evF (mkc DF) aA 158 [.ip C (z,w,h),.dat I t] [] ⟨big z/\big t,.tup [.dat I (bh z t),.dat I (cP z t)],[]⟩:=oE hvc
theorem aAh(z d m:Int)(w:List Bool)(h:Li)(hvc:
 let c1:=d*1440;let c2:=c1+m;let c3:=c2-z;true/\(big z/\big d/\big m->inR .i64 c1/\inR .i64 c2/\inR .i64 c3/\c3=vR z d m/\True)):
  evF (mkc DF) aA 154 [.ip C (z,w,h),.dat I d,.dat I m] [] ⟨big z/\big d/\big m,.dat I (vR z d m),[]⟩:=oE hvc
theorem aDr(z:Int)(w:List Bool)(h:Li)(hvc:
 let c1:=Di (btw z (-720) 840);let c2:=Di c1;let c6:=c2->c2->c2;let c3:=Dz c1 true (Ec (Df w) 7);let c4:=Di c3;let c11:=c4->c4->c4;let c5:=Dz c3 true (Ei (Df h) 40);let aQ:=(z,w,h);true/\(True->True/\c6/\c6/\c6/\(Dk true c2->c2)/\c11/\c11/\c11/\(Dk true c4->c4)/\(c5->false=dR z w h/\True)/\(c5=false->(∃x,y6 h x/\aQ=aQ/\1=x/\True)/\∀(x:Int),let c7:=Dp x (Df h);let c8:=x-1;let c9:=Eh (Du h (Dc x) 0) (Du h (Dc c8) 0);let c10:=x+1;y6 h x->(c7->0<=x/\x<Df h/\inR .i64 c8/\0<=c8/\c8<Df h/\(c9->false=dR z w h/\True)/\(c9=false->inR .i64 c10/\∃y,y6 h y/\(aQ=aQ/\c10=y/\True)/\Dc (Df h-y)<Dc (Df h-x)))/\(c7=false->true=dR z w h/\True)))):
  evF (mkc DF) (lvA [(4,[1,2,3])] (RD h)) 150 [.agg [.dat I z,.dat B w,.dat R h]] [] ⟨True,.dat .bool (dR z w h),[]⟩:=oE hvc
theorem ID(z a b:Int)(w:List Bool)(h:Li)(hvc:
 let c1:=(z,w,h);true/\(True->a=a/\b=b/\c1=c1/\True)):
  evF (mkc DF) aA 153 [.ip C (z,w,h),.dat I a,.dat I b] [] ⟨True,.fn 219 [.ip I a,.ip I b,.ipv (.ip C (z,w,h))],[]⟩:=oE hvc
theorem gS(b:Bool)(e:Int)(hvc:
 let c1:=chainOf (Value.iface 39 (Value.int .i64 e));true/\(True->(Di b->(true->True/\(false=false->b=false/\true/\c1=c1))/\True)/\(Di b=false->b/\True))):
  evC (mkc DF) aA 79 [.dat .bool b,.dat I e] (.tup []) ⟨True,b,dA 39 e⟩:=oE hvc
theorem Xk(e:Int)(hvc:
 true/\(True->(true->e=e/\True)/\(true=false->190=e/\True))):
  evF (mkc DF) aA 70 [.ifc 39 (.dat I e)] [] ⟨True,.dat I e,[]⟩:=oE hvc
def KPr: KPt:=pOr 79 (uR [.val .bool,.val I] λ(b,e,_)=>⟨True,b,dA 39 e⟩) noP
def Vg: Kt:=kOr 220 (az [.ptr C,.val I] (λ(c,d,_)=>wkP c.2.1 c.2.2 d) λ(c,d,_)=>.dat .bool (wkF c.2.1 c.2.2 d)) <|
 kOr 158 (az [.ptr C,.val I] (λ(c,t,_)=>big c.1/\big t) λ(c,t,_)=>.tup [.dat I (bh c.1 t),.dat I (cP c.1 t)]) <|
 kOr 154 (az [.ptr C,.val I,.val I] (λ(c,d,m,_)=>big c.1/\big d/\big m) λ(c,d,m,_)=>.dat I (vR c.1 d m)) <|
 kOr 150 (az [.row C] (λ_=>True) λ(c,_)=>.dat .bool (dR c.1 c.2.1 c.2.2)) <|
 kOr 153 (az [.ptr C,.val I,.val I] (λ_=>True) λ(c,a,b,_)=>.fn 219 [.ip I a,.ip I b,.ipv (.ip C c)]) <|
 kOr 79 (az [.val .bool,.val I] (λ(b,_)=>True/\b=true) λ_=>.tup []) DF
def wdA(w:List Bool)(h:Li)(a b:Int): GQ:=⟨λid y=>match id with
 | 1=>some {α:=Int,inv:=λd=>ZN a b d,st:=λd=>⟨put y.s [(5,.dat I d)],gj w h a d,true⟩,μ:=λd=>Dc (Dh (Dq b 1) d)}
 | _=>none,λ_ _=>none,λid=>id==3⟩
theorem gF(z a b:Int)(w:List Bool)(h:Li)(hvc:
 let c1:=(z,w,h);let c2:=gX w h a b;let c3:=Dj c2;let c4:=b+1;true/\true/\true/\false=false/\∀(l:Nat),wdP w h a b->(∃x,ZN a b x/\(l=l/\a=a/\b=b/\c1=c1/\a=x/\a=a/\True)/\0=gj w h a x/\true)/\∀(x:Int),let c5:=gj w h a x;let aQ:=c5+1;let c7:=x+1;let c8:=Dz (wkF w h x) (Di false) false;ZN a b x->(Eh x b->wkP w h x/\(wkF w h x->(wkF w h x->wkF w h x)/\(wkF w h x->wkF w h x)/\l=l/\true/\lu c2 c5 x/\∀(b_1:Bool),let c9:=Dz (wkF w h x) (Di b_1) false;(Dk true (wkF w h x)->wkF w h x)/\(c9->b_1->aQ=c3)/\(c9=false->inR IntKind.i64 c7/\∃y,ZN a b y/\((l=l/\a=a/\b=b/\c1=c1/\c7=y/\a=a/\True)/\aQ=gj w h a y/\b_1)/\Dc (c4-y)<Dc (c4-x)))/\(wkF w h x=false->(wkF w h x->wkF w h x->wkF w h x)/\(Dk true (wkF w h x)->wkF w h x)/\(c8->true->c5=c3)/\(c8=false->inR .i64 c7/\∃y,ZN a b y/\((l=l/\a=a/\b=b/\c1=c1/\c7=y/\a=a/\True)/\c5=gj w h a y/\true)/\Dc (c4-y)<Dc (c4-x))))/\(Eh x b=false->true->c5=c3)):
  evI (mkc Vg) (wdA w h a b) 219 [.ip I a,.ip I b,.ipv (.ip C (z,w,h))] ⟨wdP w h a b,I,gX w h a b⟩:=oE hvc
def cR: Cfg:=Jr Vg (λ_=>false) KPr (λf=>f==79)
theorem IM(xs:Li)(hvc:
 let c1:=Ei (Df xs) 0;let c2:=chainOf (Value.iface 39 (Value.int .i64 (190:Int)));true/\(True->1=1/\1=1/\1=1/\1=1/\0=0/\(true->True/\(c1=false->bR xs=false/\true/\c2=c2))/\((true->c1)->(True/\c1)/\1=1/\1=1/\1=1/\0=0/\Dl 0 0/\0<Df xs/\1=1/\1=1/\1=1/\0=0/\Dl 0 1/\1<=Df xs/\1=1/\1=1/\1=1/\0=0/\bR xs/\Du xs (Dc 0) 0=hd xs/\Fe xs 1=tl xs/\1=1/\True))):
  evM cR aA 207 [.ptr 1 1 0 0] [(1,.var [.dat R xs])] (.dat I (hd xs)) [(1,.var [.dat R (tl xs)])] ⟨True,bR xs,dA 39 190⟩:=oE hvc
theorem aC1(x y:Bool): Dz x true y=(x||y):=by cases x<;>rfl
theorem Pg(x y:Bool): Dz x y false=(x&&y):=by cases x<;>rfl
theorem hm: Tryz.prog.follows .mixedOrders=true:=by kernel_rfl
theorem Vf: ak Tryz.prog dY Wp:=λf args m c h=>by cases h
theorem aJ: bv Tryz.prog dY KI0:=λf args c h=>by cases h
theorem nI{x a b:Int}: btw x a b=true↔a<=x/\x<=b:=by unfold btw;rw[qE]
theorem aU{α:Type}{l:List α}{i:Nat}{d:α}(h:i<l.length): l.getD i d∈l:=by
 rw[qA,qB h];exact wM h
theorem aEi(x a b:Int): af Tryz.prog dY 148 [.dat I x,.dat I a,.dat I b] [] ⟨True,.dat .bool (btw x a b),[]⟩:=by
 refine ae (c:=mkc Wp) Vf aJ hm (aAz x a b ⟨rfl,λ_=>?_⟩);simp only[qc,Dk,qd,Eh,Ed];unfold btw;simp
theorem aAW(x:Int): af Tryz.prog dY 290 [.dat I x] [] ⟨True,.dat .bool false,[]⟩:=
 ae (c:=mkc Wp) Vf aJ hm (WZ x ⟨rfl,λ_=>⟨by simp,trivial⟩⟩)
theorem aAV(x:Int): af Tryz.prog dY 287 [.dat I x] [] ⟨True,.dat .bool false,[]⟩:=
 ae (c:=mkc Wp) Vf aJ hm (WY x ⟨rfl,λ_=>⟨by simp,trivial⟩⟩)
theorem aCC: ak Tryz.prog dY aDi:=ai (ag λ(x,a,b,_)=>aEi x a b) <|
 ai (ag λ(x,_)=>aAW x)<|ai (ag λ(x,_)=>aAV x) Vf
theorem Sj(x y:Int): af Tryz.prog dY 258 [.dat I x,.dat I y] [] ⟨True,.dat .bool (Dp x y),[]⟩:=by
 refine ae (c:=mkc aDi) aCC aJ hm (Ls x y ⟨rfl,λ_=>?_⟩);simp only[qc,Dk,Di,yC,Dz,qAn,vT]
theorem aCB: ak Tryz.prog dY aDh:=ai (ag λ(x,y,_)=>Sj x y) aCC
theorem MQ{h:Li}(hs:srt h){i j:Nat}(hij:i<=j)(hj:j<h.length): h.getD i 0<=h.getD j 0:=by
 rcases zC i j with g | g
 .exact Int.le_of_lt (hs.2 i j g hj)
 .have:i=j:=by omega
  rw[this];exact qL _
theorem aCn{h:Li}{d i:Int}(hs:srt h)(hi:Kq h d i i): i=Kp h d/\(CQ h d=true↔i<h.length/\h.getD i.toNat 0=d):=by
 obtain⟨h1,_,h3,h4,h5⟩:=hi;constructor
 .unfold Kp;have e:h=h.take i.toNat++h.drop i.toNat:=(xA _ _).symm;have l1:(h.take i.toNat).filter (λx=>decide (x<d))=h.take i.toNat:=List.filter_eq_self.2 λx hx=>by
   obtain⟨k,hk,rfl⟩:=wX.1 hx;rw[qI]at hk;have:=h4 k (by omega);rw[qA,qB (by omega)]at this;rw[qCw];exact qV this
  have l2:(h.drop i.toNat).filter (λx=>decide (x<d))=[]:=qBz.2 λx hx=>by
   obtain⟨k,hk,rfl⟩:=wX.1 hx;rw[vY]at hk;have:=h5 (i.toNat+k) (by omega) (by omega);rw[qA,qB (by omega)]at this;rw[List.getElem_drop];simpa using this
  rw[e,yP,l1,l2,wH,qI];omega
 .unfold CQ;rw[List.contains_iff_mem];constructor
  .intro hm;obtain⟨k,hk,e⟩:=wX.1 hm;have e2:h.getD k 0=d:=by rw[qA,qB hk];exact e
   have k1:¬(k:Int)<i:=λg=>by have:=h4 k g;omega
   refine⟨by omega,?_⟩;have:=MQ hs (i:=i.toNat) (j:=k) (by omega) hk;have:=h5 i.toNat (by omega) (by omega);omega
  .rintro⟨hlt,e⟩;rw[<- e];exact aU (by omega)
theorem aB{x:Int}(h:-4000000000000000<=x/\x<=4000000000000000): inR .i64 x:=⟨show(-9223372036854775808:Int)<=x by omega,show x<=9223372036854775807 by omega⟩
theorem aF0(h:Li)(d:Int): af Tryz.prog dY 264 [.dat R h,.dat I d] [] ⟨srt h,.tup [.dat I (Kp h d),.dat .bool (CQ h d)],[]⟩:=by
 refine ae (c:=mkc aDh) aCB aJ hm (aDu h d ⟨rfl,λhs=>?_⟩);have hl:=hs.1;refine⟨⟨(0,Df h),⟨qL _,qZ _,qL _,λk g=>by omega,λk g1 g2=>by simp only[Df]at g1;omega⟩,?_⟩,λ⟨i,j⟩=>?_⟩
 .simp
 intro c1 c2 c3 c4 c5 aQ c7 c8 hi;have hi':=hi;obtain⟨h1,h2,h3,h4,h5⟩:=hi;have e3:c3=(i+j)/2:=by
  show(i+j).fdiv (2 ^ (1:Int).toNat)=_;rw[qCt _ (by decide)];rfl
 have e2:c2=i+j:=rfl;have e5:c5=c3+1:=rfl;have e1:c1=decide (i<j):=rfl;have e4:c4=decide (h.getD c3.toNat 0<d):=rfl;have hiu:inR .u64 c2:=by
  rw[e2];exact⟨show(0:Int)<=i+j by omega,show i+j<=18446744073709551615 by omega⟩
 clear_value c1 c2 c3 c4 c5;constructor
 .intro hc1;rw[e1,qE]at hc1;refine⟨by rw[e2];exact aB (by omega),hiu,by decide,by decide,aB (by omega),by show(0:Int)<=c3;omega,by show c3<(h.length:Int);omega,trivial,λhc4=>?_,λhc4=>?_⟩
  .rw[e4,qE]at hc4;refine⟨by rw[e5];exact aB (by omega),(c5,j),⟨by omega,by omega,h3,λk hk=>?_,h5⟩,by simp,?_⟩
   .have:=MQ hs (i:=k) (j:=c3.toNat) (by omega) (by omega);omega
   .simp only[Dc];omega
  .rw[e4,vN]at hc4;refine⟨(i,c3),⟨h1,by omega,by omega,h4,λk hk hk2=>?_⟩,by simp,?_⟩
   .have:=MQ hs (i:=c3.toNat) (j:=k) (by omega) (by omega);omega
   .simp only[Dc];omega
 .intro hc1;rw[e1,vN]at hc1;have:i=j:=by omega
  subst this;obtain⟨b1,b2⟩:=aCn hs hi';have e6:aQ=decide (i<h.length):=rfl;have e7:c7=decide (h.getD i.toNat 0=d):=rfl;have e8:c8=(aQ&&!c7):=rfl;clear_value aQ c7 c8;have hlt:aQ=true->i<(h.length:Int):=λg=>by rw[e6]at g;exact wF g
  have g8:c8=true->aQ=true:=λg=>by rw[e8,qC]at g;exact g.1
  simp only[qc,Dk]
  and_intros
  all_goals first
   | exact λ_=>h1
   | exact hlt
   | exact λg=>hlt (g8 g)
   | exact b1
   | exact λg=>g8 g
   | skip
  rw[qCh,b2,e6,e7];simp
theorem C9: ak Tryz.prog dY DF:=ai (ag λ(h,d,_)=>aF0 h d) aCB
theorem yj{a m:Int}(h:0<m): (a.tmod m+m).tmod m=a%m:=by
 have e:=qBd (a:=a) (b:=m);have n0:=kY a (show m≠0 by omega);have n1:=kH a h;have hna:(m.natAbs:Int)=m:=by omega
 have e2:a.tmod m=a%m\/a.tmod m=a%m-m:=by
  rw[e];split
  .exact .inl (by omega)
  .exact .inr (by omega)
 have nn:0<=a.tmod m+m:=by omega
 rw[qCs nn];rcases e2 with e2 | e2<;>rw[e2]
 .rw[Int.add_emod_right,Int.emod_emod_of_dvd _ (Int.dvd_refl _)]
 .rw[Int.sub_add_cancel,Int.emod_emod_of_dvd _ (Int.dvd_refl _)]
theorem Xz(z d:Int)(w:List Bool)(h:Li): af Tryz.prog dY 220 [.ip C (z,w,h),.dat I d] [] ⟨wkP w h d,.dat .bool (wkF w h d),[]⟩:=by
 refine ae (c:=mkc DF) C9 aJ hm (Qx z d w h ⟨rfl,λ⟨hw,hs,hb⟩=>?_⟩);have e:=yj (a:=d) (m:=7) (by decide);have n0:=kY d (show(7:Int)≠0 by decide);have n1:=kH d (show(0:Int)<7 by decide);have tb:-7<d.tmod 7/\d.tmod 7<7:=by
  have:=qBd (a:=d) (b:=7);split at this<;>omega
 simp only[Fp,e,Di,Du,Dc,Eo,Df,hw];refine⟨by decide,aB (by omega),by decide,n0,by omega,λh1=>⟨?_,trivial⟩,λh1=>⟨hs,?_,trivial⟩⟩
 .unfold wkF;rw[zK]at h1;rw[h1];rfl
 .unfold wkF CQ;rw[kJ]at h1;rw[h1];rfl
theorem XW(z t:Int)(w:List Bool)(h:Li): af Tryz.prog dY 158 [.ip C (z,w,h),.dat I t] [] ⟨big z/\big t,.tup [.dat I (bh z t),.dat I (cP z t)],[]⟩:=by
 refine ae (c:=mkc DF) C9 aJ hm (IN z t w h ⟨rfl,λ⟨hz,ht⟩=>?_⟩);obtain⟨z1,z2⟩:=hz;obtain⟨t1,t2⟩:=ht;have e:=yj (a:=t+z) (m:=1440) (by decide);have n0:=kY (t+z) (show(1440:Int)≠0 by decide);have n1:=kH (t+z) (show(0:Int)<1440 by decide);have tb:-1440<(t+z).tmod 1440/\(t+z).tmod 1440<1440:=by
  have:=qBd (a:=t+z) (b:=1440);split at this<;>omega
 have eq:(t+z-(t+z)%1440).tdiv 1440=(t+z)/1440:=by
  have:t+z-(t+z)%1440=1440*((t+z)/1440):=by omega
  rw[this,qDh _ (by decide)]
 have big2:∀{x:Int},-4000000000000<=x->x<=4000000000000->inR .i64 x:=λ{x} h1 h2=>⟨show(-9223372036854775808:Int)<=x by omega,show x<=9223372036854775807 by omega⟩
 simp only[Fp,Gg,e,eq];exact⟨big2 (by omega) (by omega),by decide,big2 (by omega) (by omega),by decide,big2 (by omega) (by omega),by decide,big2 (by omega) (by omega),rfl,rfl,trivial⟩
theorem aD1(z d m:Int)(w:List Bool)(h:Li): af Tryz.prog dY 154 [.ip C (z,w,h),.dat I d,.dat I m] [] ⟨big z/\big d/\big m,.dat I (vR z d m),[]⟩:=by
 refine ae (c:=mkc DF) C9 aJ hm (aAh z d m w h ⟨rfl,λ⟨⟨z1,z2⟩,⟨d1,d2⟩,⟨m1,m2⟩⟩=>?_⟩);have big2:∀{x:Int},-4000000000000000<=x->x<=4000000000000000->inR .i64 x:=λ{x} h1 h2=>⟨show(-9223372036854775808:Int)<=x by omega,show x<=9223372036854775807 by omega⟩
 exact⟨big2 (by omega) (by omega),big2 (by omega) (by omega),big2 (by omega) (by omega),rfl,trivial⟩
def Af(z:Int)(w:List Bool)(h:Li): Prop:=(-720<=z/\z<=840/\w.length=7/\h.length<=40)/\∀i:Nat,i+1<h.length->h.getD i 0<h.getD (i+1) 0
theorem iW{z:Int}{w:List Bool}{h:Li}: dR z w h=true↔Af z w h:=by
 unfold dR Af;rw[qC,qE,qM];refine and_congr_right λ_=>⟨λg i hi=>?_,λg i hi=>?_⟩
 .have:=g i (qX.2 (by omega));simpa using this
 .have:=qX.1 hi;simpa using g i (by omega)
theorem qb{z:Int}{w:List Bool}{h:Li}(hn:¬Af z w h): false=dR z w h:=by
 cases hv:dR z w h with
 | false=>rfl
 | true=>exact(hn (iW.1 hv)).elim
theorem LM{z:Int}{w:List Bool}{h:Li}(hv:dR z w h=true): srt h:=by
 obtain⟨⟨_,_,_,h4⟩,h5⟩:=iW.1 hv;refine⟨by omega,λi j hij hj=>?_⟩;induction j with
 | zero=>omega
 | succ j ih=>
  have:=h5 j (by omega);rcases zC i j with g | g
  .have:=ih g (by omega);omega
  .have:i=j:=by omega
   rw[this];assumption
theorem aFY(z:Int)(w:List Bool)(h:Li): af Tryz.prog dY 150 [.agg [.dat I z,.dat B w,.dat R h]] [] ⟨True,.dat .bool (dR z w h),[]⟩:=by
 refine ae (c:=mkc DF) C9 aJ hm (aDr z w h ⟨rfl,λ_=>?_⟩);have eb:btw z (-720) 840=decide (-720<=z/\z<=840):=rfl;simp only[eb];simp only[qc,Dk,Di,qd,Ec,Dp,Ei,Eh,Df,Dc,Du]
 refine⟨λhb=>qb λhv=>?_,λ⟨⟨⟨h1,h2⟩,h3⟩,h4⟩=>⟨⟨qL _,.inr rfl,by omega,λi hi=>by omega⟩,λx hx=>⟨λhlt=>?_,λhge=>(iW.2 ⟨⟨by omega,by omega,by omega,by omega⟩,λi hi=>hx.2.2.2 i (by omega)⟩).symm⟩⟩⟩
 .obtain⟨⟨g1,g2,g3,g4⟩,_⟩:=hv;omega
 .have hx1:=hx.1;have hx3:=hx.2.2.1;refine⟨by omega,hlt,aB (by omega),by omega,by omega,λhle=>qb λhv=>?_,λhn=>⟨aB (by omega),x+1,⟨by omega,by omega,hx3,λi hi=>?_⟩,rfl,by omega⟩⟩
  .have:=hv.2 (x-1).toNat (by omega);rw[show(x-1).toNat+1=x.toNat by omega]at this;omega
  .by_cases e:(i:Int)+1<x
   .exact hx.2.2.2 i e
   .have e1:(x-1).toNat=i:=by omega
    have e2:x.toNat=i+1:=by omega
    rw[e1,e2]at hn;omega
theorem L8(z a b:Int)(w:List Bool)(h:Li): af Tryz.prog dY 153 [.ip C (z,w,h),.dat I a,.dat I b] [] ⟨True,.fn 219 [.ip I a,.ip I b,.ipv (.ip C (z,w,h))],[]⟩:=
 ae (c:=mkc DF) C9 aJ hm (ID z a b w h ⟨rfl,λ_=>⟨rfl,rfl,rfl,trivial⟩⟩)
theorem aAT(b:Bool)(e:Int): af Tryz.prog dY 79 [.dat .bool b,.dat I e] [] ⟨True/\b=true,.tup [],[]⟩/\da Tryz.prog dY 79 [.dat .bool b,.dat I e] [] ⟨True,b,dA 39 e⟩:=by
 refine dF (c:=mkc DF) C9 aJ hm qu (gS b e ⟨rfl,λ_=>⟨λh=>⟨λ_=>⟨trivial,λ_=>⟨?_,rfl,rfl⟩⟩,trivial⟩,λh=>⟨?_,trivial⟩⟩⟩)
 .simpa using h
 .simpa using h
theorem aBa(e:Int): af Tryz.prog dY 70 [.ifc 39 (.dat I e)] [] ⟨True,.dat I e,[]⟩:=
 ae (c:=mkc DF) C9 aJ hm (Xk e ⟨rfl,λ_=>⟨λ_=>⟨rfl,trivial⟩,λh=>by cases h⟩⟩)
theorem P2: ak Tryz.prog dY Vg:=ai (ag λ((z,w,h),d,_)=>Xz z d w h)<|ai (ag λ((z,w,h),t,_)=>XW z t w h)<|ai (ag λ((z,w,h),d,m,_)=>aD1 z d m w h) <|
 ai (ag λ((z,w,h),_)=>aFY z w h)<|ai (ag λ((z,w,h),a,b,_)=>L8 z a b w h)<|ai (ag λ(b,e,_)=>(aAT b e).1) C9
theorem Iw: bO Tryz.prog dY KPr:=iH (jo λ(b,e,_)=>(aAT b e).2) qu
theorem B9{α:Type}{f:Nat->α}{p:α->Bool}{k:Nat}(hp:p (f k)=true): ∀N:Nat,k<N->(((List.range N).map f).filter p)[(((List.range k).map f).filter p).length]?=some (f k)
 | 0,h=>by omega
 | N+1,h=>by
  rw[zW,yN,yP];rcases zC k N with hk | hk
  .have ih:=B9 hp N hk;rw[vJ (qF.1 ih).1];exact ih
  .have e:N=k:=by omega
   subst e;rw[qW (qJ _),qCe];simp[hp]
theorem PK{w:List Bool}{h:Li}{a b x:Int}(h1:a<=x)(h2:x<=b)(hw:wkF w h x=true): lu (gX w h a b) (gj w h a x) x:=by
 have e:a+((x-a).toNat:Int)=x:=by omega
 have:=B9 (f:=λ(i:Nat)=>a+(i:Int)) (p:=λd=>wkF w h d) (k:=(x-a).toNat) (by simp only[e];exact hw) (b+1-a).toNat (by omega);simp only[e]at this;exact this
theorem wu{w:List Bool}{h:Li}{a x:Int}(h1:a<=x): gj w h a (x+1)=gj w h a x+(if wkF w h x then 1 else 0):=by
 unfold gj;rw[show(x+1-a).toNat=(x-a).toNat+1 by omega,zW,yN,yP,qG];have e:a+((x-a).toNat:Int)=x:=by omega
 congr 1
 simp only[zH,qCf,e,xE,qBj];split<;>simp_all
theorem J5(w:List Bool)(h:Li)(a:Int): gj w h a a=0:=by
 unfold gj;rw[show(a-a).toNat=0 by omega];rfl
theorem O9{w:List Bool}{h:Li}{a b x:Int}(hx:ZN a b x)(hge:¬x<=b): gj w h a x=(gX w h a b).length:=by
 unfold gj gX;have e:(x-a).toNat=(b+1-a).toNat:=by
  rcases hx with⟨h1,h2 | h2⟩<;>omega
 rw[e]
theorem aDy(z a b:Int)(w:List Bool)(h:Li): mR Tryz.prog dY 219 [.ip I a,.ip I b,.ipv (.ip C (z,w,h))] ⟨wdP w h a b,I,gX w h a b⟩:=by
 refine jF (c:=mkc Vg) P2 aJ hm (gF z a b w h ⟨rfl,rfl,rfl,rfl,λl ⟨hw,hs,⟨a1,a2⟩,⟨b1,b2⟩⟩=>?_⟩);refine⟨⟨a,⟨qL _,.inr rfl⟩,⟨rfl,rfl,rfl,rfl,rfl,rfl,trivial⟩,(J5 w h a).symm,rfl⟩,λx hx=>?_⟩;obtain⟨x1,x2⟩:=hx;refine⟨λhlt=>?_,λhge _=>O9 ⟨x1,x2⟩ (by simpa using hge)⟩;have hlt:x<=b:=by simpa using hlt
 have hb:big x:=⟨by omega,by omega⟩;refine⟨⟨hw,hs,hb⟩,λhk=>⟨λh=>h,λh=>h,rfl,rfl,PK x1 hlt hk,λbb=>⟨λ_=>hk,λh9 hb1=>?_,λh9=>?_⟩⟩,λhk=>⟨λ_ h=>h,λ_=>?_,λh8 _=>?_,λh8=>?_⟩⟩
 .rw[hk,hb1]at h9;cases h9
 .rw[hk]at h9;have:bb=true:=by simpa[Dz,Di]using h9
  refine⟨aB (by omega),x+1,⟨by omega,.inl (by omega)⟩,⟨⟨rfl,rfl,rfl,rfl,rfl,rfl,trivial⟩,?_,this⟩,?_⟩
  .rw[wu x1,hk];rfl
  .simp only[Dc];omega
 .rename_i hk2;rw[hk]at hk2;cases hk2
 .rw[hk]at h8;cases h8
 .refine⟨aB (by omega),x+1,⟨by omega,.inl (by omega)⟩,⟨⟨rfl,rfl,rfl,rfl,rfl,rfl,trivial⟩,?_,rfl⟩,?_⟩
  .rw[wu x1,hk];rfl
  .simp only[Dc];omega
theorem sc(xs:Li): af Tryz.prog dY 207 [.ptr 1 1 0 0] [(1,.var [.dat R xs])] ⟨True/\bR xs=true,.dat I (hd xs),[(1,.var [.dat R (tl xs)])]⟩/\da Tryz.prog dY 207 [.ptr 1 1 0 0] [(1,.var [.dat R xs])] ⟨True,bR xs,dA 39 190⟩:=by
 refine cC (c:=cR) P2 aJ hm Iw (IM xs ⟨rfl,λ_=>?_⟩);have e:Ei (Df xs) 0=bR xs:=by unfold bR;simp
 simp only[e];simp only[qc,Df,Dl,Dc,Du,Fe];refine λh=>?_
 have hl:0<xs.length:=by unfold bR at h;simpa using h
 exact⟨h,qL _,by omega,by decide,by omega,h,rfl,rfl⟩
end Go.Eng.In
namespace Go.Eng.In
def S7(st:Int×Int)(x:Int): Int×Int:=(st.1*3%65521,(st.2+x*(st.1*3%65521))%65521)
def Jb(st:Int×Int)(l:List Int): Int×Int:=l.foldl S7 st
def He(l:List Int): Int:=(Jb (1,0) l).2
theorem AZ(st:Int×Int)(x:Int)(l:List Int): Jb st (x::l)=Jb (S7 st x) l:=rfl
theorem S8(st:Int×Int)(a b:List Int): Jb st (a++b)=Jb (Jb st a) b:=by
 unfold Jb;exact List.foldl_append
def aEw(st:Int×Int): Prop:=(0<=st.1/\st.1<65521)/\(0<=st.2/\st.2<65521)
theorem S4(st:Int×Int)(x:Int): aEw (S7 st x):=
 ⟨⟨Int.emod_nonneg _ (by decide),Int.emod_lt_of_pos _ (by decide)⟩,⟨Int.emod_nonneg _ (by decide),Int.emod_lt_of_pos _ (by decide)⟩⟩
theorem M8: ∀(l:List Int) {st:Int×Int},aEw st->aEw (Jb st l)
 | [],_,h=>h
 | x::l,st,_=>M8 l (S4 st x)
def inv(p:Int): Prop:=∃q:Int,p*q%65521=1
theorem Uj{p:Int}(h:inv p): inv (p*3%65521):=by
 obtain⟨q,hq⟩:=h;refine⟨q*43681,?_⟩;rw[Int.mul_emod,Int.emod_emod_of_dvd _ (Int.dvd_refl _),<- Int.mul_emod];have e:p*3*(q*43681)=p*q*131043:=by
  rw[Int.mul_assoc,Int.mul_left_comm 3 q 43681,<- Int.mul_assoc];rfl
 rw[e,Int.mul_emod,hq];rfl
theorem YY: ∀(l:List Int) {st:Int×Int},inv st.1->inv (Jb st l).1
 | [],_,h=>h
 | _::l,_,h=>YY l (Uj h)
theorem Yw: ∀(l:List Int) {p s t:Int},0<=s->s<65521->0<=t->t<65521->s≠t->(Jb (p,s) l).2≠(Jb (p,t) l).2
 | [],_,_,_,_,_,_,_,h=>h
 | x::l,p,s,t,s0,s1,t0,t1,h=>by
  rw[AZ,AZ];have e:∀y:Int,S7 (p,y) x=(p*3%65521,(y+x*(p*3%65521))%65521):=λ_=>rfl
  rw[e,e];generalize x*(p*3%65521)=z;exact Yw l (Int.emod_nonneg _ (by decide)) (Int.emod_lt_of_pos _ (by decide)) (Int.emod_nonneg _ (by decide)) (Int.emod_lt_of_pos _ (by decide)) (by omega)
end Go.Eng.In
