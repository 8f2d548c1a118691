/- PeTr2n PeTr3n PeTr4n PeTt3n PeTt4n PeTt7n PeRo2n PeRo5n PeCoL0 PeCoL1 PeIn1n PeInS PeIn2n PeTr5n PeTrDn PeWa1n PeWa2n -/
import Derived.Test.YtlakcpmgefpfaaaGreatDoorECSortsA
import Derived.Test.YtlakcpmgefpfaaaGreatDoorECSortsB
import Derived.Test.YtlakcpmgefpfaaaGreatDoorECSortsC
import Derived.Test.YtlakcpmgefpfaaaGreatDoorECSortsD
import Derived.Shelf.SlGeneric
import Derived.Shelf.SlIterI.Nil
import Derived.Shelf.SortM.Plain
import Derived.Shelf.SortM.SortNone
import Derived.Ground.GgzProg
import Derived.Ground.SlgmProg
import Derived.Test.YtlakcpmgefpfaaaGreatDoorProg
import Derived.RangeFuncNested
import Derived.RangeFuncBound
import Derived.RangeFuncCalls
import Derived.RangeFuncLeaves
import Derived.RangeFuncWrites
import Derived.Shelf.Abstract
import Derived.Shelf.RegionOpen
import Derived.WalkKit
import Derived.OwnWalkIn
import Derived.TacticsInMore
import Derived.LoopNIn
import Derived.LoopIn
import Derived.Maps.OwnIn
import Derived.Test.YtlakcpmgefpfaaaGreatDoorChecked
set_option linter.unusedSimpArgs false
set_option linter.unusedVariables false
set_option maxRecDepth 100000
noncomputable section
namespace Go.Eng.Sv
open Go.Proofs
abbrev um(t:TypeId)(e:Int): Value:=.iface t (.int .i64 e)
abbrev Stp: Ty:=.pair I (.pair I (.pair I I))
abbrev Stop:=Int×Int×Int×Int
abbrev Pl: Ty:=.pair I (.pair I (.pair M (.sl M)))
abbrev Plan:=Int×Int×Lj×List (Lj)
def db(t:Int): Bool:=decide (0<=t/\t<=2000000)
def bR(n:Net)(o:Int): Off:=n.2.2.2.1.getD o.toNat (⟨#[]⟩,0,0,0,0,0,[])
def o8(n:Net)(l:Int): Line:=n.2.2.2.2.1.getD l.toNat (⟨#[]⟩,0,0,0,0,0)
def aB(n:Net)(o:Int): Int×List Bool×Li:=n.1.getD (bR n o).2.2.1.toNat (0,[],[])
def cV(n:Net)(l:Int): Int:=(o8 n l).2.1
def HC(n:Net)(l:Int): Int:=(o8 n l).2.2.1
def Jn(n:Net)(l:Int): Int:=(o8 n l).2.2.2.1
def iM(n:Net)(l:Int): Int:=(o8 n l).2.2.2.2.1
def mx(n:Net)(o:Int): Prop:=noF n=true/\0<=o/\o<n.2.2.2.1.length
def NP(n:Net)(l:Int): Prop:=noF n=true/\0<=l/\l<n.2.2.2.2.1.length
def aS(n:Net)(o l:Int): Bool:=decide (l=-1)||(dF l n.2.2.2.2.1.length&&decide (cV n l=o))
def rowOk(n:Net)(o:Int)(row:Li): Bool:=decide ((row.length:Int)=n.2.2.2.1.length)&&row.all (aS n o)
def mO(n:Net)(nx:Lj): Bool:=decide ((nx.length:Int)=n.2.2.2.1.length)&&(List.range nx.length).all λi=>rowOk n i (nx.getD i [])
def cn(nx:Lj): Prop:=nx.length<=1000000/\∀r∈nx,r.length<=1000000
def Ha(n:Net)(nx:Lj)(k:Int): Prop:=0<=k/\k<=nx.length/\(nx.length:Int)=n.2.2.2.1.length/\∀i:Nat,(i:Int)<k->rowOk n i (nx.getD i [])=true
def SX(n:Net)(o:Int)(row:Li)(k:Int): Prop:=0<=k/\k<=row.length/\(row.length:Int)=n.2.2.2.1.length/\∀i:Nat,(i:Int)<k->aS n o (row.getD i 0)=true
def d0F(c:Int×List Bool×Li)(m t:Int): Int:=if m<PX c.1 t then gQ c.1 t+1 else gQ c.1 t
def ik(c:Int×List Bool×Li)(m t:Int): Int:=if ib c.2.1 c.2.2 (d0F c m t)=0 then jI c.1 (ic c.2.1 c.2.2 (d0F c m t)) m else 0
def my(c:Int×List Bool×Li)(m t:Int): Int:=ib c.2.1 c.2.2 (d0F c m t)
def zy(c:Int×List Bool×Li)(m t:Int): Prop:=ax c.1 c.2.1 c.2.2=true/\0<=m/\m<1440/\-1000000<=t/\t<=100000000
def aG(n:Net)(o t:Int): Int:=t+(bR n o).2.2.2.2.1*(bR n o).2.2.2.2.2.1
def fk(n:Net)(o t:Int): Prop:=mx n o/\-1000000000<=t/\t<=1000000000
def tO(n:Net)(l t:Int): Int:=if db t=true then ik (aB n (cV n l)) (Jn n l) t else 0
def rz(n:Net)(l t:Int): Int:=if db t=true then my (aB n (cV n l)) (Jn n l) t else 1
def isZero(e:Int): Bool:=decide (e=0)
def KR2: Kt:=kOr 160 (aw [.row C,.val I] (λ(c,d,_)=>P6 c.1 c.2.1 c.2.2 d) λ(c,d,_)=>.tup [.dat I (ic c.2.1 c.2.2 d),.dat I (ib c.2.1 c.2.2 d)]) KR1
theorem Iy(i l:Int)(b:
 let c1:=Ed i 0;true/\(True->(c1->c1->c1)/\(c1->c1->c1)/\(Dj true c1->c1)/\Ea c1 (Dp i l) false=dF i l/\True)):
  evF (mkc KR2) az 89 [.dat I i,.dat I l] [] ⟨True,.dat .bool (dF i l),[]⟩:=oE b
theorem Db(t:Int)(b:
 let c1:=Ed t 0;true/\(True->(c1->c1->c1)/\(Dj true c1->c1)/\Ea c1 (Ei t 2000000) false=db t/\True)):
  evF (mkc KR2) az 90 [.dat I t] [] ⟨True,.dat .bool (db t),[]⟩:=oE b
theorem QD(v e:Int)(b:
 let c1:=Ec e 0;let c2:=chainOf (Value.iface 39 (Value.int .i64 e));true/\(True->(c1->(true->True/\(false=false->isZero e=false/\true/\c2=c2))/\True)/\(c1=false->isZero e/\v=v/\True))):
  evC (mkc KR2) az 97 [.dat I v,.dat I e] (.dat I v) ⟨True,isZero e,um 39 e⟩:=oE b
theorem IB(b:Bool)(e:
 let c1:=chainOf (Value.iface 39 (Value.int .i64 (1:Int)));true/\(True->(Di b->(true->True/\(false=false->b=false/\true/\c1=c1))/\True)/\(Di b=false->b/\True))):
  evC (mkc KR2) az 95 [.dat .bool b] (.tup []) ⟨True,b,um 39 1⟩:=oE e
theorem QI(e:Int)(b:
 true/\(True->(true->e=e/\True)/\(true=false->1=e/\True))):
  evF (mkc KR2) az 94 [.ifc 39 (.dat I e)] [] ⟨True,.dat I e,[]⟩:=oE b
theorem KT(cs:LC)(ns os:LB)(f:Lo)(ls:Ll)(b:Lk)(e:
 let c1:=(cs,ns,os,f,ls,b);true/\(True->True/\Eb (Df (fa c1)) 0=bg c1/\True)):
  evF (mkc KR2) az 47 [.ip N (cs,ns,os,f,ls,b)] [] ⟨True,.dat .bool (bg (cs,ns,os,f,ls,b)),[]⟩:=oE e
theorem KW(o:Int)(cs:LC)(ns os:LB)(b:Lo)(ls:Ll)(e:Lk)(f:
 let c1:=(cs,ns,os,b,ls,e);let c2:=(Du b (Dc o) (ByteArray.mk #[],(0:Int),(0:Int),(0:Int),(0:Int),(0:Int),Dt ByteArray)).2.2.1;let c3:=Du cs (Dc c2) ((0:Int),Dt Bool,Dt Int);let c4:=aB c1 o;true/\(mx c1 o->0<=o/\o<Df b/\0<=c2/\c2<Df cs/\1=1/\0=0/\1=1/\0=0/\c3.1=c4.1/\c3.2.1=c4.2.1/\c3.2.2=c4.2.2/\True)):
  evF (mkc KR2) az 92 [.ip N (cs,ns,os,b,ls,e),.dat I o] [] ⟨mx (cs,ns,os,b,ls,e) o,cal (aB (cs,ns,os,b,ls,e) o).1 (aB (cs,ns,os,b,ls,e) o).2.1 (aB (cs,ns,os,b,ls,e) o).2.2,[]⟩:=oE f
theorem KV(z m t:Int)(w:List Bool)(h:Li)(f:
 let c1:=(z,w,h);let c2:=Dp m (PX z t);let c3:=gQ z t+1;let c4:=ib w h c3;let c5:=Ec c4 0;let c6:=ik c1 m t;let c7:=my c1 m t;let g:=ic w h c3;let c9:=ib w h (gQ z t);let e:=Ec c9 0;let b:=ic w h (gQ z t);true/\(zy c1 m t->fW z w h t/\(c2->inR .i64 c3/\P6 z w h c3/\(c5->0=c6/\c4=c7/\True)/\(c5=false->lk z w h g m/\jI z g m=c6/\0=c7/\True))/\(c2=false->P6 z w h (gQ z t)/\(e->0=c6/\c9=c7/\True)/\(e=false->lk z w h b m/\jI z b m=c6/\0=c7/\True)))):
  evF (mkc KR2) az 91 [cal z w h,.dat I m,.dat I t] [] ⟨zy (z,w,h) m t,.tup [.dat I (ik (z,w,h) m t),.dat I (my (z,w,h) m t)],[]⟩:=oE f
theorem KU(o t:Int)(cs:LC)(ns os:LB)(b:Lo)(ls:Ll)(e:Lk)(f:
 let c1:=(cs,ns,os,b,ls,e);let c2:=(Du b (Dc o) (ByteArray.mk #[],(0:Int),(0:Int),(0:Int),(0:Int),(0:Int),Dt ByteArray)).2.2.2.2;let c3:=c2.1*c2.2.1;let c4:=t+c3;true/\(fk c1 o t->0<=o/\o<Df b/\0<=o/\o<Df b/\inR .i64 c3/\inR .i64 c4/\c4=aG c1 o t/\True)):
  evF (mkc KR2) az 166 [.ip N (cs,ns,os,b,ls,e),.dat I o,.dat I t] [] ⟨fk (cs,ns,os,b,ls,e) o t,.dat I (aG (cs,ns,os,b,ls,e) o t),[]⟩:=oE f
def YX(n:Net)(nx:Lj): Ann:=⟨λid s=>match id with
 | 4=>some {α:=Int,inv:=λk=>Ha n nx k,st:=λk=>put s [(19,.dat I k)],μ:=λk=>Dc (Dh (Df nx) k)}
 | 9=>match s.sig.T 19,s.sig.T 32 with
  | .dat (.int .i64) o,.dat (.sl (.int .i64)) row=>some {α:=Int,inv:=λk=>SX n o row k,st:=λk=>put s [(34,.dat I k)],μ:=λk=>Dc (Dh (Df row) k)}
  | _,_=>none
 | _=>none,λ_ _=>none,λ_ _=>none⟩
def KR3: Kt:=kOr 89 (aw [.val I,.val I] (λ_=>True) λ(i,l,_)=>.dat .bool (dF i l)) <|
 kOr 90 (aw [.val I] (λ_=>True) λ(t,_)=>.dat .bool (db t)) <|
 kOr 47 (aw [.ptr N] (λ_=>True) λ(n,_)=>.dat .bool (bg n)) <|
 kOr 92 (aw [.ptr N,.val I] (λ(n,o,_)=>mx n o) λ(n,o,_)=>cal (aB n o).1 (aB n o).2.1 (aB n o).2.2) <|
 kOr 91 (aw [.row C,.val I,.val I] (λ(c,m,t,_)=>zy c m t) λ(c,m,t,_)=>.tup [.dat I (ik c m t),.dat I (my c m t)]) <|
 kOr 166 (aw [.ptr N,.val I,.val I] (λ(n,o,t,_)=>fk n o t) λ(n,o,t,_)=>.dat I (aG n o t)) <|
 kOr 97 (aw [.val I,.val I] (λ(_,e,_)=>True/\isZero e=true) λ(v,_,_)=>.dat I v) <|
 kOr 95 (aw [.val .bool] (λ(b,_)=>True/\b=true) λ_=>.tup []) KR2
theorem Iz(nx:Lj)(cs:LC)(ns os:LB)(j:Lo)(ls:Ll)(u:Lk)(v:
 let c1:=Df j;let c2:=Ec (Df nx) c1;let c3:=(cs,ns,os,j,ls,u);let c4:=mO c3 nx;let c5:=Df ls;true/\(cn nx->(c2->false=c4/\True)/\(c2=false->(∃x,Ha c3 nx x/\c3=c3/\nx=nx/\Df nx=Df nx/\0=x/\True)/\∀(x:Int),let c6:=Dp x (Df nx);let c7:=Du nx (Dc x) [];let i:=Df c7;let c9:=Ec i c1;let r:=x+1;Ha c3 nx x->(c6->0<=x/\x<Df nx/\(c9->false=c4/\True)/\(c9=false->(∃b,SX c3 x c7 b/\c3=c3/\x=x/\c7=c7/\nx=nx/\Df nx=Df nx/\x=x/\c7=c7/\i=i/\0=b/\True)/\∀(b:Int),let h:=Du c7 (Dc b) 0;let c12:=Ec h (-1);let e:=c12->c12->c12;let c13:=Di (dF h c5);let g:=Di c13;let f:=Dj c12 g->Dj c12 g->Dj c12 g;let c14:=Ea c12 (Ea c13 true (Ec (Du ls (Dc h) (ByteArray.mk #[],(0:Int),(0:Int),(0:Int),(0:Int),(0:Int))).2.1 x)) false;let c15:=b+1;SX c3 x c7 b->(Dp b i->0<=b/\b<i/\e/\e/\e/\e/\e/\e/\(c12->True)/\e/\e/\f/\f/\f/\f/\f/\(Dj c12 g->0<=h)/\(Dj c12 g->h<c5)/\f/\f/\f/\f/\e/\(c12->Dj c12 g->Dj c12 g)/\(Dj true c12->c12)/\(c14->false=c4/\True)/\(c14=false->inR .i64 c15/\∃y,SX c3 x c7 y/\(c3=c3/\x=x/\c7=c7/\nx=nx/\Df nx=Df nx/\x=x/\c7=c7/\i=i/\c15=y/\True)/\Dc (i-y)<Dc (i-b)))/\(Dp b i=false->inR .i64 r/\∃y,Ha c3 nx y/\(c3=c3/\nx=nx/\Df nx=Df nx/\r=y/\True)/\Dc (Df nx-y)<Dc (Df nx-x))))/\(c6=false->true=c4/\True)))):
  evF (mkc KR3) (lvA [(4,[0,4,5,6,8,17,18,19,32,33,34]),(9,[0,4,5,6,8,17,18,19,32,33,34])] (YX (cs,ns,os,j,ls,u) nx)) 48 [.ip N (cs,ns,os,j,ls,u),.dat M nx] [] ⟨cn nx,.dat .bool (mO (cs,ns,os,j,ls,u) nx),[]⟩:=oE v
theorem IA(l t:Int)(cs:LC)(ns os:LB)(e:Lo)(ls:Ll)(b:Lk)(f:
 let c1:=(cs,ns,os,e,ls,b);let c2:=tO c1 l t;let c3:=rz c1 l t;let c4:=(Du ls (Dc l) (ByteArray.mk #[],(0:Int),(0:Int),(0:Int),(0:Int),(0:Int))).2;let g:=(aB c1 c4.1);true/\(NP c1 l->True/\(Di (db t)->0=c2/\1=c3/\True)/\(Di (db t)=false->0<=l/\l<Df ls/\mx c1 c4.1/\0<=l/\l<Df ls/\zy g c4.2.2.1 t/\ik g c4.2.2.1 t=c2/\my g c4.2.2.1 t=c3/\True))):
  evF (mkc KR3) az 165 [.ip N (cs,ns,os,e,ls,b),.dat I l,.dat I t] [] ⟨NP (cs,ns,os,e,ls,b) l,.tup [.dat I (tO (cs,ns,os,e,ls,b) l t),.dat I (rz (cs,ns,os,e,ls,b) l t)],[]⟩:=oE f
theorem uL: aj Tryz.prog G0 KR2:=ai (ag λ((z,w,h),d,_)=>aA8 z w h d) aEL
theorem gb(cs:LC)(ns os:LB)(b:Lo)(ls:Ll)(e:Lk){o:Int}(h:mx (cs,ns,os,b,ls,e) o): 0<=(bR (cs,ns,os,b,ls,e) o).2.2.1/\(bR (cs,ns,os,b,ls,e) o).2.2.1<cs.length/\ax (aB (cs,ns,os,b,ls,e) o).1 (aB (cs,ns,os,b,ls,e) o).2.1 (aB (cs,ns,os,b,ls,e) o).2.2=true/\1<=(bR (cs,ns,os,b,ls,e) o).2.2.2.2.1/\(bR (cs,ns,os,b,ls,e) o).2.2.2.2.1<=4/\1<=(bR (cs,ns,os,b,ls,e) o).2.2.2.2.2.1/\(bR (cs,ns,os,b,ls,e) o).2.2.2.2.2.1<=240:=by
 obtain⟨f,y,i⟩:=h;have i:o<b.length:=i;have u:bR (cs,ns,os,b,ls,e) o∈b:=by
  show b.getD o.toNat _∈b;rw[qA,qB (by omega),qP];exact wE _
 have gc:=(gw cs ns os b ls e f).2.2.2 _ u;unfold cQ dF dI at gc;simp only[qC,qE]at gc;obtain⟨⟨⟨⟨⟨⟨_,g⟩,_⟩,_⟩,_⟩,r⟩,j⟩:=gc;have g:0<=(bR (cs,ns,os,b,ls,e) o).2.2.1/\(bR (cs,ns,os,b,ls,e) o).2.2.1<(cs.length:Int):=g;have x:=((ru (by decide)).1 (iL cs ns os b ls e f).2.1).2.2.2;have v:(aA cs ns).length=cs.length:=by unfold aA;simp
 have:=x (bR (cs,ns,os,b,ls,e) o).2.2.1.toNat (by omega);unfold bh at this;rw[lZ (λc:Int×List Bool×Li=>ax c.1 c.2.1 c.2.2) cs _ (0,[],[]) false (by omega)]at this;exact⟨g.1,g.2,this,r.1,r.2,j.1,j.2⟩
theorem BA(cs:LC)(ns os:LB)(b:Lo)(ls:Ll)(e:Lk){l:Int}(h:NP (cs,ns,os,b,ls,e) l): 0<=cV (cs,ns,os,b,ls,e) l/\cV (cs,ns,os,b,ls,e) l<b.length/\0<=HC (cs,ns,os,b,ls,e) l/\HC (cs,ns,os,b,ls,e) l<b.length/\0<=Jn (cs,ns,os,b,ls,e) l/\Jn (cs,ns,os,b,ls,e) l<=1439/\1<=iM (cs,ns,os,b,ls,e) l/\iM (cs,ns,os,b,ls,e) l<=5000:=by
 obtain⟨f,A,g⟩:=h;have g:l<ls.length:=g;have j:o8 (cs,ns,os,b,ls,e) l∈ls:=by
  show ls.getD l.toNat _∈ls;rw[qA,qB (by omega),qP];exact wE _
 obtain⟨z,y,x,v,G,i,u,r⟩:=iP ((lu cs ns os b ls e f).2.2.2 _ j);exact⟨z,y,x,v,i.1,i.2,u,r⟩
theorem sW{w:List Bool}{h:Li}{d:Int}(e:ib w h d=0): d<=ic w h d/\ic w h d<d+60/\bL w h (ic w h d)=true:=by
 unfold ib at e;unfold ic;cases b:uB w h d with
 | none=>rw[b]at e;simp at e
 | some y=>
  have:y∈iD w h d 60:=qCb (by unfold uB at b;rw[b];rfl);exact By this
theorem VR{c:Int×List Bool×Li}{m t:Int}(e:zy c m t): -1000<=d0F c m t/\d0F c m t<=100000:=by
 obtain⟨b,r,j,i,h⟩:=e;obtain⟨⟨g,f,_,_⟩,_⟩:=cA.1 b;unfold d0F gQ;split<;>omega
theorem js{d:Int}(e:-1000000<=d)(b:d<=1000000): bT d=true:=by
 unfold bT;exact qW ⟨e,b⟩
theorem LX(i l:Int): af Tryz.prog G0 89 [.dat I i,.dat I l] [] ⟨True,.dat .bool (dF i l),[]⟩:=by
 refine ae (c:=mkc KR2) uL aK hm (Iy i l ⟨rfl,λ_=>⟨λh _=>h,λh _=>h,λh=>by simpa[Dj]using h,?_,trivial⟩⟩);unfold dF;simp only[Ea,Ed,Dp,kQ];by_cases h:0<=i<;>simp[h]
theorem IW(t:Int): af Tryz.prog G0 90 [.dat I t] [] ⟨True,.dat .bool (db t),[]⟩:=by
 refine ae (c:=mkc KR2) uL aK hm (Db t ⟨rfl,λ_=>⟨λh _=>h,λh=>by simpa[Dj]using h,?_,trivial⟩⟩);unfold db;simp only[Ea,Ed,Ei,kQ];by_cases h:0<=t<;>simp[h]
theorem LW(v e:Int): af Tryz.prog G0 97 [.dat I v,.dat I e] [] ⟨True/\isZero e=true,.dat I v,[]⟩/\cL Tryz.prog G0 97 [.dat I v,.dat I e] [] ⟨True,isZero e,um 39 e⟩:=by
 refine dc (c:=mkc KR2) uL aK hm pU (QD v e ⟨rfl,λ_=>⟨λh=>⟨λ_=>⟨trivial,λ_=>⟨?_,rfl,rfl⟩⟩,trivial⟩,λh=>⟨?_,rfl,trivial⟩⟩⟩)
 .unfold isZero;simpa[Ec]using h
 .unfold isZero;simpa[Ec]using h
theorem Ae(b:Bool): af Tryz.prog G0 95 [.dat .bool b] [] ⟨True/\b=true,.tup [],[]⟩/\cL Tryz.prog G0 95 [.dat .bool b] [] ⟨True,b,um 39 1⟩:=by
 refine dc (c:=mkc KR2) uL aK hm pU (IB b ⟨rfl,λ_=>⟨λh=>⟨λ_=>⟨trivial,λ_=>⟨?_,rfl,rfl⟩⟩,trivial⟩,λh=>⟨?_,trivial⟩⟩⟩)
 .simpa[Di]using h
 .simpa[Di]using h
theorem Xz(e:Int): af Tryz.prog G0 94 [.ifc 39 (.dat I e)] [] ⟨True,.dat I e,[]⟩:=
 ae (c:=mkc KR2) uL aK hm (QI e ⟨rfl,λ_=>⟨λ_=>⟨rfl,trivial⟩,λh=>by cases h⟩⟩)
theorem uW{n:Net}: bg n=decide (((fa n).length:Int)=0):=by
 unfold bg;cases fa n with
 | nil=>rfl
 | cons a l=>simp;omega
theorem RI(cs:LC)(ns os:LB)(e:Lo)(ls:Ll)(b:Lk): af Tryz.prog G0 47 [.ip N (cs,ns,os,e,ls,b)] [] ⟨True,.dat .bool (bg (cs,ns,os,e,ls,b)),[]⟩:=
 ae (c:=mkc KR2) uL aK hm (KT cs ns os e ls b ⟨rfl,λ_=>⟨trivial,by rw[uW];rfl,trivial⟩⟩)
theorem RN(o:Int)(cs:LC)(ns os:LB)(e:Lo)(ls:Ll)(b:Lk): af Tryz.prog G0 92 [.ip N (cs,ns,os,e,ls,b),.dat I o] [] ⟨mx (cs,ns,os,e,ls,b) o,cal (aB (cs,ns,os,e,ls,b) o).1 (aB (cs,ns,os,e,ls,b) o).2.1 (aB (cs,ns,os,e,ls,b) o).2.2,[]⟩:=by
 refine ae (c:=mkc KR2) uL aK hm (KW o cs ns os e ls b ⟨rfl,λf=>?_⟩);obtain⟨h,g,_⟩:=gb cs ns os e ls b f;exact⟨f.2.1,f.2.2,h,g,rfl,rfl,rfl,rfl,rfl,rfl,rfl,trivial⟩
theorem RL(m t:Int)(c:C.den): af Tryz.prog G0 91 [cal c.1 c.2.1 c.2.2,.dat I m,.dat I t] [] ⟨zy c m t,.tup [.dat I (ik c m t),.dat I (my c m t)],[]⟩:=by
 obtain⟨z,w,h⟩:=c;refine ae (c:=mkc KR2) uL aK hm (KV z m t w h ⟨rfl,λv=>?_⟩);obtain⟨O,L⟩:=VR v;obtain⟨f,y,x,G,A⟩:=id v;simp only[qc,Dj,Es,Di,qd,Dt,Eb,Ec,Dp,Eh,Ei,Ed,Ey,Df,Et,Dl,Dn,Eo,Dy,Dw,Dh,Dq,Ee,Fh,Dc,Dx,Dk,Dz,Ej,Du,Eu,Ez,En,Ef,Fe,Fj,Fg,Ep,Em,Ew,Fb]
 have key:∀d,d=d0F (z,w,h) m t->P6 z w h d/\(¬ib w h d=0->(0:Int)=ik (z,w,h) m t/\ib w h d=my (z,w,h) m t)/\(ib w h d=0->lk z w h (ic w h d) m/\jI z (ic w h d) m=ik (z,w,h) m t/\(0:Int)=my (z,w,h) m t):=by
  rintro d rfl;refine⟨⟨f,js (by omega) (by omega)⟩,λb=>⟨(if_neg b).symm,rfl⟩,λb=>?_⟩;obtain⟨u,r,j⟩:=sW b;exact⟨⟨f,js (by omega) (by omega),y,x⟩,(if_pos b).symm,b.symm⟩
 refine⟨⟨f,by omega,by omega⟩,λg=>?_,λi=>?_⟩
 .have e:gQ z t+1=d0F (z,w,h) m t:=(if_pos g).symm;obtain⟨u,r,j⟩:=key _ e;exact⟨by unfold inR;simp only;omega,u,r,j⟩
 .have e:gQ z t=d0F (z,w,h) m t:=(if_neg i).symm;exact key _ e
theorem RJ(o t:Int)(cs:LC)(ns os:LB)(f:Lo)(ls:Ll)(b:Lk): af Tryz.prog G0 166 [.ip N (cs,ns,os,f,ls,b),.dat I o,.dat I t] [] ⟨fk (cs,ns,os,f,ls,b) o t,.dat I (aG (cs,ns,os,f,ls,b) o t),[]⟩:=by
 refine ae (c:=mkc KR2) uL aK hm (KU o t cs ns os f ls b ⟨rfl,λu=>?_⟩);obtain⟨g,O,L⟩:=u;obtain⟨_,_,_,z,r,v,j⟩:=gb cs ns os f ls b g;obtain⟨x,i⟩:∃x,x=(bR (cs,ns,os,f,ls,b) o).2.2.2.2.1:=⟨_,rfl⟩;obtain⟨y,h⟩:∃y,y=(bR (cs,ns,os,f,ls,b) o).2.2.2.2.2.1:=⟨_,rfl⟩;rw[<- i]at z r;rw[<- h]at v j;have G:0<=x*y:=qAb (by omega) (by omega);have A:x*y<=4*240:=xJ r j (by omega) (by omega)
 have e:aG (cs,ns,os,f,ls,b) o t=t+x*y:=by rw[i,h];rfl
 refine⟨g.2.1,g.2.2,g.2.1,g.2.2,?_,?_,rfl,trivial⟩
 .show inR .i64 ((bR (cs,ns,os,f,ls,b) o).2.2.2.2.1*(bR (cs,ns,os,f,ls,b) o).2.2.2.2.2.1);rw[<- i,<- h];unfold inR;simp only;omega
 .show inR .i64 (t+(bR (cs,ns,os,f,ls,b) o).2.2.2.2.1*(bR (cs,ns,os,f,ls,b) o).2.2.2.2.2.1);rw[<- i,<- h];unfold inR;simp only;omega
theorem aCZ: aj Tryz.prog G0 KR3:=ai (ag λ(i,l,_)=>LX i l)<|ai (ag λ(t,_)=>IW t)<|ai (ag λ((cs,ns,os,g,ls,f),_)=>RI cs ns os g ls f) <|
 ai (ag λ((cs,ns,os,g,ls,f),o,_)=>RN o cs ns os g ls f)<|ai (ag λ(c,m,t,_)=>RL m t c)<|ai (ag λ((cs,ns,os,g,ls,f),o,t,_)=>RJ o t cs ns os g ls f) <|
 ai (ag λ(v,e,_)=>(LW v e).1)<|ai (ag λ(b,_)=>(Ae b).1) uL
theorem rN{n:Net}{nx:Lj}(b:(nx.length:Int)=n.2.2.2.1.length): mO n nx=true↔∀i:Nat,(i:Int)<nx.length->rowOk n i (nx.getD i [])=true:=by
 unfold mO;simp only[qC,qE,qN,vF];exact⟨λh i hi=>h.2 i (by omega),λh=>⟨b,λi hi=>h i (by omega)⟩⟩
theorem xF{n:Net}{o:Int}{row:Li}(e:(row.length:Int)=n.2.2.2.1.length): rowOk n o row=true↔∀i:Nat,(i:Int)<row.length->aS n o (row.getD i 0)=true:=by
 unfold rowOk;simp only[qC,qE,qN];refine⟨λh i hi=>h.2 _ ?_,λh=>⟨e,λx b=>?_⟩⟩
 .rw[qA,qB (by omega),qP];exact wE _
 .obtain⟨i,hi,rfl⟩:=wY.1 b;have:=h i (by omega);rw[qA,qB hi,qP]at this;exact this
theorem UN(n:Net)(o l:Int): Ea (Ec l (-1)) (Ea (Di (dF l (Df n.2.2.2.2.1))) true (Ec (cV n l) o)) false=!aS n o l:=by
 unfold aS;simp only[Ea,Ec,Di,Df];by_cases h:l=-1
 .simp[h]
 .have hb:(l != -1)=true:=by simpa using h
  rw[hb];cases hi:dF l n.2.2.2.2.1.length
  .simp[h]
  .by_cases b:cV n l=o<;>simp[h,b]
theorem LY(nx:Lj)(cs:LC)(ns os:LB)(r:Lo)(ls:Ll)(f:Lk): af Tryz.prog G0 48 [.ip N (cs,ns,os,r,ls,f),.dat M nx] [] ⟨cn nx,.dat .bool (mO (cs,ns,os,r,ls,f) nx),[]⟩:=by
 refine ae (c:=mkc KR3) aCZ aK hm (Iz nx cs ns os r ls f ⟨rfl,λhf=>?_⟩);have ec:∀l x:Int,Ea (Ec l (-1)) (Ea (Di (dF l (Df ls))) true (Ec (Du ls (Dc l) (ByteArray.mk (Dt UInt8).toArray,(0:Int),(0:Int),(0:Int),(0:Int),(0:Int))).snd.fst x)) false=!aS (cs,ns,os,r,ls,f) x l:=λl x=>UN (cs,ns,os,r,ls,f) x l
 simp only[ec];simp only[qc,Dj,Es,Di,qd,Dt,Eb,Ec,Dp,Eh,Ei,Ed,Ey,Df,Et,Dl,Dn,Eo,Dy,Dw,Dh,Dq,Ee,Fh,Dc,Dx,Dk,Dz,Ej,Du,Eu,Ez,En,Ef,Fe,Fj,Fg,Ep,Em,Ew,Fb];obtain⟨hf1,T⟩:=hf;have V:∀x l:Int,¬l=-1/\dF l ls.length=true->0<=l/\l<ls.length:=λx l h=>by
  have:=h.2;unfold dF at this;simpa using this
 have Z:∀x:Int,0<=x->x<nx.length->(nx.getD x.toNat []).length<=1000000:=λx h0 h1=>T _ (by
  rw[qA,qB (by omega),qP];exact wE _)
 have A:∀x:Int,0<=x->((x.toNat:Nat):Int)=x:=λx h=>by omega
 refine⟨λO=>?_,λz=>⟨⟨qL _,by omega,z,λi h=>by omega⟩,λx e=>⟨λv=>⟨e.1,v,λb=>?_,λb=>⟨⟨qL _,by omega,b,λi h=>by omega⟩,λy g=>⟨λu=>⟨g.1,u,λh=>(V x _ h).1,λh=>(V x _ h).2,λG=>?_,λG=>?_⟩,λX=>?_⟩⟩⟩,λhge=>?_⟩⟩⟩
 .unfold mO;rw[vV O];rfl
 .refine(xK.2 λL=>b ?_).symm;have h:=(rN z).1 L x.toNat (by have:=e.1;omega);unfold rowOk at h;simp only[qC,qE]at h;exact h.1
 .refine(xK.2 λL=>?_).symm;have h:=(rN z).1 L x.toNat (by have:=e.1;omega);rw[A x e.1]at h;have h2:=(xF (n:=(cs,ns,os,r,ls,f)) b).1 h y.toNat (by have:=g.1;omega);rw[h2]at G;cases G
 .have h1:=Z x e.1 v;refine⟨by unfold inR;simp only;have:=g.1;omega,y+1,⟨by have:=g.1;omega,by omega,b,λi hi=>?_⟩,rfl,by have:=g.1;omega⟩;by_cases h:(i:Int)<y
  .exact g.2.2.2 i h
  .have:i=y.toNat:=by omega
   rw[this];exact G
 .refine⟨by unfold inR;simp only;have:=e.1;omega,x+1,⟨by have:=e.1;omega,by omega,z,λi hi=>?_⟩,rfl,by have:=e.1;omega⟩;by_cases h:(i:Int)<x
  .exact e.2.2.2 i h
  .have:i=x.toNat:=by have:=e.1;omega
   rw[this,A x e.1];exact(xF (n:=(cs,ns,os,r,ls,f)) b).2 λj hj=>g.2.2.2 j (by omega)
 .exact((rN z).2 λi hi=>e.2.2.2 i (by omega)).symm
theorem LZ(l t:Int)(cs:LC)(ns os:LB)(e:Lo)(ls:Ll)(b:Lk): af Tryz.prog G0 165 [.ip N (cs,ns,os,e,ls,b),.dat I l,.dat I t] [] ⟨NP (cs,ns,os,e,ls,b) l,.tup [.dat I (tO (cs,ns,os,e,ls,b) l t),.dat I (rz (cs,ns,os,e,ls,b) l t)],[]⟩:=by
 refine ae (c:=mkc KR3) aCZ aK hm (IA l t cs ns os e ls b ⟨rfl,λf=>?_⟩);simp only[qc,Dj,Es,Di,qd,Dt,Eb,Ec,Dp,Eh,Ei,Ed,Ey,Df,Et,Dl,Dn,Eo,Dy,Dw,Dh,Dq,Ee,Fh,Dc,Dx,Dk,Dz,Ej,Du,Eu,Ez,En,Ef,Fe,Fj,Fg,Ep,Em,Ew,Fb];refine⟨λh=>?_,λh=>?_⟩
 .unfold tO rz;rw[h];exact⟨rfl,rfl⟩
 .obtain⟨v,u,T,O,r,L,G,A⟩:=BA cs ns os e ls b f;have g:mx (cs,ns,os,e,ls,b) (cV (cs,ns,os,e,ls,b) l):=⟨f.1,v,u⟩;have i:=(gb cs ns os e ls b g).2.2.1;have z:0<=t/\t<=2000000:=vO h;have j:zy (aB (cs,ns,os,e,ls,b) (cV (cs,ns,os,e,ls,b) l)) (Jn (cs,ns,os,e,ls,b) l) t:=⟨i,r,by omega,by omega,by omega⟩
  have y:tO (cs,ns,os,e,ls,b) l t=ik (aB (cs,ns,os,e,ls,b) (cV (cs,ns,os,e,ls,b) l)) (Jn (cs,ns,os,e,ls,b) l) t:=if_pos h;have x:rz (cs,ns,os,e,ls,b) l t=my (aB (cs,ns,os,e,ls,b) (cV (cs,ns,os,e,ls,b) l)) (Jn (cs,ns,os,e,ls,b) l) t:=if_pos h;exact⟨f.2.1,f.2.2,g,f.2.1,f.2.2,j,y.symm,x.symm⟩
def nxt(nx:Lj)(o d:Int): Int:=(nx.getD o.toNat []).getD d.toNat 0
def kt(n:Net)(nx:Lj)(to:Int): Nat->Int->Int->List Stop×Int
 | 0,o,t=>if o=to then([(o,t,-1,-1)],0)else if nxt nx o to=-1 then([],170)else if rz n (nxt nx o to) (aG n o t)=0 then([],170)else([],rz n (nxt nx o to) (aG n o t))
 | k+1,o,t=>if o=to then([(o,t,-1,-1)],0)else if nxt nx o to=-1 then([],170)else if rz n (nxt nx o to) (aG n o t)=0 then
   if(kt n nx to k (HC n (nxt nx o to)) (tO n (nxt nx o to) (aG n o t)+iM n (nxt nx o to))).2=0 then
    ((o,t,tO n (nxt nx o to) (aG n o t),nxt nx o to)::(kt n nx to k (HC n (nxt nx o to)) (tO n (nxt nx o to) (aG n o t)+iM n (nxt nx o to))).1,0)
   else([],(kt n nx to k (HC n (nxt nx o to)) (tO n (nxt nx o to) (aG n o t)+iM n (nxt nx o to))).2)
  else([],rz n (nxt nx o to) (aG n o t))
def uq(n:Net)(nx:Lj)(o to t:Int): List Stop:=(kt n nx to 19 o t).1
def i9(n:Net)(nx:Lj)(o to t:Int): Int:=(kt n nx to 19 o t).2
def Gw(n:Net)(nx:Lj)(o to t:Int): Prop:=bg n=true/\mO n nx=true/\0<=o/\o<n.2.2.2.1.length/\0<=to/\to<n.2.2.2.1.length/\0<=t/\t<=2200000
def A2(d:List Stop)(r:List Stop×Int): List Stop×Int:=if r.2=0 then(d++r.1,0)else([],r.2)
def Ve(n:Net)(nx:Lj)(o0 to t0:Int)(x:List Stop×Int×Int): Prop:=Gw n nx x.2.1 to x.2.2/\x.1.length<=19/\kt n nx to 19 o0 t0=A2 x.1 (kt n nx to (19-x.1.length) x.2.1 x.2.2)
def wSt(x:List Stop×Int×Int): List Stop:=x.1++[(x.2.1,x.2.2,-1,-1)]
def aC8(n:Net)(nx:Lj)(o0 to t0:Int): Ann:=⟨λid s=>match id with
 | 3=>match s.sig.T 19 with
  | .buf nm _=>some {α:=List Stop×Int×Int,inv:=λx=>Ve n nx o0 to t0 x,st:=λx=>gC (put (flat s) [(11,.buf nm (Dk (wSt x))),(12,.dat I (Df x.1))]) nm (.buf 81 Stp (wSt x) []),μ:=λx=>Dc (Dh 20 (Df x.1))}
  | _=>none
 | _=>none,λ_ _=>none,λ_ _=>none⟩
def KR4: Kt:=kOr 48 (aw [.ptr N,.val M] (λ(_,nx,_)=>cn nx) λ(n,nx,_)=>.dat .bool (mO n nx)) <|
 kOr 165 (aw [.ptr N,.val I,.val I] (λ(n,l,_)=>NP n l) λ(n,l,t,_)=>.tup [.dat I (tO n l t),.dat I (rz n l t)]) KR3
def KPm: KPt:=pOr 97 (uG [.val I,.val I] λ(_,e,_)=>⟨True,isZero e,um 39 e⟩) Go.Eng.noP
noncomputable def mkp(K:Kt)(mb:Tmp->Bool)(KP:KPt)(pf:FuncId->Bool): Cfg:=⟨Tryz.prog,G0,K,mb,KI0,false,KP,pf⟩
def cW: Cfg:=mkp KR4 (λt=>t==19) KPm (λf=>f==97)
theorem QB(nx:Lj)(o to t:Int)(cs:LC)(ns os:LB)(r:Lo)(ls:Ll)(j:Lk)(hvc:
 let c1:=(cs,ns,os,r,ls,j);let c2:=((-1:Int),(-1:Int));let c3:=((0:Int),(0:Int),(0:Int),(0:Int));let c4:=i9 c1 nx o to t;let c5:=isZero c4;let c6:=chainOf (Value.iface 39 (Value.int .i64 c4));let c7:=(ByteArray.mk #[],(0:Int),c3);true/\(Gw c1 nx o to t->(∃(x:List Stop×Int×Int),Ve c1 nx o to t x/\c1=c1/\nx=nx/\o=o/\to=to/\t=t/\Value.slice none 0 0=Value.slice none 0 0/\1=Dk (wSt x)/\0=Df x.1/\o=o/\t=t/\o=o/\t=t/\(-1:Int)=(-1:Int)/\(-1:Int)=(-1:Int)/\1=1/\[(o,t,c2)]=wSt x/\True)/\∀(x:List (Int×Int×Int×Int)×Int×Int),let b:=Dk (wSt x);let c9:=Df x.1;let g:=Dc c9;let c11:=Du (wSt x) g c3;let c12:=c11.1;let c13:=Ec c12 to;let c14:=Du nx (Dc c12) [];let c15:=Du c14 (Dc to) 0;let c16:=Eb c15 (-1);let c17:=c11.2;let e:=En (wSt x) g (c12,c17.1,c17.2.1,c15);let c19:=Du e g c3;let i:=c19.1;let Z:=c19.2;let h:=Z.1;let X:=aG c1 i h;let V:=rz c1 c15 X;let v:=isZero V;let f:=En e g (i,h,tO c1 c15 X,Z.2.2);let T:=Eb (Int.ofNat b) 20;let O:=(Du ls (Dc c15) c7).2.2;let L:=(Du f g c3).2.2.1+O.2.2.1;let G:=[(O.1,L,c2)];let u:=b+Dk G;let A:=c9+1;
 Ve c1 nx o to t x->b=b/\0<=c9/\c9<Dx b/\b=b/\b=b/\(c13->b=b/\0<=c9/\c9<Dx b/\b=b/\b=b/\b=b/\0<=c12/\c12<Df nx/\0<=to/\to<Df c14/\(c16->(true->True/\(false=false->c5=false/\true/\chainOf (Value.iface 39 (Value.int .i64 (170:Int)))=c6))/\True)/\(c16=false->b=b/\b=b/\b=b/\Dk e=b/\Dk e=b/\Dk e=b/\Dk e=b/\Dk e=b/\Dk e=b/\fk c1 i h/\NP c1 c15/\True/\(v->Dk e=b/\Dk e=b/\Dk e=b/\Dk e=b/\Dk e=b/\Dk e=b/\fk c1 i h/\NP c1 c15/\(True/\v)/\Dk e=b/\Dk e=b/\Dk e=b/\Dk f=b/\(T->(true->True/\(false=false->c5=false/\true/\chainOf (Value.iface 39 (Value.int .i64 (170:Int)))=c6))/\True)/\(T=false->0<=c15/\c15<Df ls/\1=1/\0=0/\1=1/\1=1/\0=0/\Dk f=b/\Dk f=b/\Dk f=b/\1=1/\1=1/\0=0/\inR .i64 L/\Dk f=b/\(u*32)<=140737488355328/\u<=9223372036854775807/\inR .i64 A/\∃(y:List Stop×Int×Int),let z:=Df y.1;Ve c1 nx o to t y/\(c1=c1/\nx=nx/\o=o/\to=to/\t=t/\Value.slice none 0 0=Value.slice none 0 0/\u=Dk (wSt y)/\A=z/\o=o/\t=t/\o=o/\t=t/\(-1:Int)=(-1:Int)/\(-1:Int)=(-1:Int)/\1=1/\Ef f G=wSt y/\True)/\Dc (20-z)<Dc (20-c9)))/\(v=false->c5=false/\true/\chainOf (Value.iface 39 (Value.int .i64 V))=c6)))/\(c13=false->c5/\b=b/\wSt x=uq c1 nx o to t/\True))):
  evC cW (aC8 (cs,ns,os,r,ls,j) nx o to t) 102 [.ip N (cs,ns,os,r,ls,j),.dat M nx,.dat I o,.dat I to,.dat I t] (.dat (.sl Stp) (uq (cs,ns,os,r,ls,j) nx o to t)) ⟨Gw (cs,ns,os,r,ls,j) nx o to t,isZero (i9 (cs,ns,os,r,ls,j) nx o to t),um 39 (i9 (cs,ns,os,r,ls,j) nx o to t)⟩:=oE hvc
theorem aFt: aj Tryz.prog G0 KR4:=ai (ag λ((cs,ns,os,e,ls,b),nx,_)=>LY nx cs ns os e ls b)<|ai (ag λ((cs,ns,os,e,ls,b),l,t,_)=>LZ l t cs ns os e ls b) aCZ
theorem V9: bH Tryz.prog G0 KPm:=hC (iT λ(v,e,_)=>(LW v e).2) pU
theorem aDb(d:List Stop)(o t:Int)(z:Stop): (wSt (d,o,t)).getD d.length z=(o,t,-1,-1):=by simp[wSt,qA]
theorem aDa(d:List Stop)(o t:Int)(v:Stop): (wSt (d,o,t)).set d.length v=d++[v]:=by simp[wSt]
theorem aEE(d:List Stop)(v z:Stop): (d++[v]).getD d.length z=v:=by simp[qA]
theorem aED(d:List Stop)(v w:Stop): (d++[v]).set d.length w=d++[w]:=by simp
theorem Z1(d:List Stop)(o t:Int): (wSt (d,o,t)).length=d.length+1:=by simp[wSt]
theorem cN{e:Int}: isZero e=true↔e=0:=by simp[isZero]
theorem eW{e:Int}: isZero e=false↔e≠0:=by simp[isZero]
theorem bD(cs:LC)(ns os:LB)(e:Lo)(ls:Ll)(b:Lk)(h:bg (cs,ns,os,e,ls,b)=true): noF (cs,ns,os,e,ls,b)=true:=((wt cs ns os e ls b).1 (wW.1 h)).1
theorem lF{c:Int×List Bool×Li}{m t:Int}(r:ax c.1 c.2.1 c.2.2=true)(v:my c m t=0)(A:0<=m)(y:m<=1439): t<=ik c m t/\ik c m t<=t+90000:=by
 obtain⟨z,w,h⟩:=c;obtain⟨⟨j,i,_,_⟩,_⟩:=cA.1 r;have b:ib w h (d0F (z,w,h) m t)=0:=v;obtain⟨g,f,_⟩:=sW b;have e:ik (z,w,h) m t=jI z (ic w h (d0F (z,w,h) m t)) m:=if_pos b;rw[e];unfold jI;generalize ic w h (d0F (z,w,h) m t)=x at *;have hd:d0F (z,w,h) m t=if m<(t+z)%1440 then(t+z)/1440+1 else(t+z)/1440:=rfl
 rw[hd]at g f;simp only at j i;split at g<;>rename_i u<;>simp only[u,xQ,yX]at f<;>omega
theorem wi(cs:LC)(ns os:LB)(e:Lo)(ls:Ll)(b:Lk){l t:Int}(j:NP (cs,ns,os,e,ls,b) l)(f:rz (cs,ns,os,e,ls,b) l t=0): 0<=t/\t<=2000000/\t<=tO (cs,ns,os,e,ls,b) l t/\tO (cs,ns,os,e,ls,b) l t<=t+90000:=by
 obtain⟨z,y,V,T,x,v,O,L⟩:=BA cs ns os e ls b j;have u:mx (cs,ns,os,e,ls,b) (cV (cs,ns,os,e,ls,b) l):=⟨j.1,z,y⟩;have r:=(gb cs ns os e ls b u).2.2.1;have g:db t=true:=by
  cases h:db t with
  | true=>rfl
  | false=>unfold rz at f;rw[h]at f;cases f
 have i:0<=t/\t<=2000000:=vO g;have G:tO (cs,ns,os,e,ls,b) l t=ik (aB (cs,ns,os,e,ls,b) (cV (cs,ns,os,e,ls,b) l)) (Jn (cs,ns,os,e,ls,b) l) t:=if_pos g;have A:rz (cs,ns,os,e,ls,b) l t=my (aB (cs,ns,os,e,ls,b) (cV (cs,ns,os,e,ls,b) l)) (Jn (cs,ns,os,e,ls,b) l) t:=if_pos g;rw[A]at f;rw[G];exact⟨i.1,i.2,lF r f x v⟩
theorem Gv{n:Net}{nx:Lj}{to o t:Int}(k:Nat)(h:o=to): kt n nx to k o t=([(o,t,-1,-1)],0):=by cases k<;>exact if_pos h
theorem nu{n:Net}{nx:Lj}{to o t:Int}(k:Nat)(h:o≠to)(b:nxt nx o to=-1): kt n nx to k o t=([],170):=by cases k<;>(unfold kt;rw[if_neg h,if_pos b])
theorem rH{n:Net}{nx:Lj}{to o t:Int}(k:Nat)(h:o≠to)(e:nxt nx o to≠-1)(b:rz n (nxt nx o to) (aG n o t)≠0): kt n nx to k o t=([],rz n (nxt nx o to) (aG n o t)):=by cases k<;>(unfold kt;rw[if_neg h,if_neg e,if_neg b])
theorem ri{n:Net}{nx:Lj}{to o t:Int}(h:o≠to)(e:nxt nx o to≠-1)(b:rz n (nxt nx o to) (aG n o t)=0): kt n nx to 0 o t=([],170):=by unfold kt;rw[if_neg h,if_neg e,if_pos b]
theorem rh{n:Net}{nx:Lj}{to o t:Int}(k:Nat)(h:o≠to)(e:nxt nx o to≠-1)(b:rz n (nxt nx o to) (aG n o t)=0):
  kt n nx to (k+1) o t=A2 [(o,t,tO n (nxt nx o to) (aG n o t),nxt nx o to)] (kt n nx to k (HC n (nxt nx o to)) (tO n (nxt nx o to) (aG n o t)+iM n (nxt nx o to))):=by
 rw[kt,if_neg h,if_neg e,if_pos b];rfl
theorem Hk{d:List Stop}{r:List Stop×Int}(h:r.2≠0): (A2 d r).2=r.2:=by unfold A2;rw[if_neg h]
theorem Yl{d:List Stop}{r:List Stop×Int}(h:r.2=0): A2 d r=(d++r.1,0):=by unfold A2;rw[if_pos h]
theorem x9(d e:List Stop)(r:List Stop×Int): A2 d (A2 e r)=A2 (d++e) r:=by
 unfold A2;by_cases h:r.2=0
 .simp[h]
 .simp[h]
theorem Hj{n:Net}{nx:Lj}{to:Int}: ∀(k:Nat) (o t:Int),A2 [] (kt n nx to k o t)=kt n nx to k o t:=λk o t=>by
 by_cases h:o=to
 .rw[Gv k h];rfl
 .by_cases e:nxt nx o to=-1
  .rw[nu k h e];rfl
  .by_cases b:rz n (nxt nx o to) (aG n o t)=0
   .cases k with
    | zero=>rw[ri h e b];rfl
    | succ k=>rw[rh k h e b,x9];rfl
   .rw[rH k h e b];unfold A2;rw[if_neg b]
theorem gm(cs:LC)(ns os:LB)(b:Lo)(ls:Ll)(f:Lk){nx:Lj}(g:mO (cs,ns,os,b,ls,f) nx=true){o d:Int}(x:0<=o)(v:o<b.length)(z:0<=d)(y:d<b.length): (nx.length:Int)=b.length/\((nx.getD o.toNat []).length:Int)=b.length/\(nxt nx o d≠-1->(0<=nxt nx o d/\nxt nx o d<ls.length)/\cV (cs,ns,os,b,ls,f) (nxt nx o d)=o):=by
 have r:(nx.length:Int)=b.length:=by
  unfold mO at g;simp only[qC,qE]at g;exact g.1
 have h:=(rN (n:=(cs,ns,os,b,ls,f)) r).1 g o.toNat (by omega);have j:((nx.getD o.toNat []).length:Int)=b.length:=by
  unfold rowOk at h;simp only[qC,qE]at h;exact h.1
 refine⟨r,j,λi=>?_⟩;have e:=(xF (n:=(cs,ns,os,b,ls,f)) j).1 h d.toNat (by omega);unfold aS dF at e;simp only[yE,qC,qE]at e;rcases e with e | ⟨e,u⟩
 .exact absurd e i
 .exact⟨e,u.trans (by omega)⟩
theorem aL{x:Int}(h:-1000000000000<=x/\x<=1000000000000): inR .i64 x:=by unfold inR;simp only;omega
theorem LU(nx:Lj)(o to t:Int)(cs:LC)(ns os:LB)(e:Lo)(ls:Ll)(b:Lk): af Tryz.prog G0 102 [.ip N (cs,ns,os,e,ls,b),.dat M nx,.dat I o,.dat I to,.dat I t] [] ⟨Gw (cs,ns,os,e,ls,b) nx o to t/\isZero (i9 (cs,ns,os,e,ls,b) nx o to t)=true,.dat (.sl Stp) (uq (cs,ns,os,e,ls,b) nx o to t),[]⟩/\cL Tryz.prog G0 102 [.ip N (cs,ns,os,e,ls,b),.dat M nx,.dat I o,.dat I to,.dat I t] [] ⟨Gw (cs,ns,os,e,ls,b) nx o to t,isZero (i9 (cs,ns,os,e,ls,b) nx o to t),um 39 (i9 (cs,ns,os,e,ls,b) nx o to t)⟩:=by
 refine dc (c:=cW) aFt aK hm V9 (QB nx o to t cs ns os e ls b ⟨rfl,λhp=>?_⟩);simp only[qc,Dj,Es,Di,qd,Dt,Eb,Ec,Dp,Eh,Ei,Ed,Ey,Df,Et,Dl,Dn,Eo,Dy,Dw,Dh,Dq,Ee,Fh,Dc,Dx,Dk,Dz,Ej,Du,Eu,Ez,En,Ef,Fe,Fj,Fg,Ep,Em,Ew,Fb];refine⟨?_,?_⟩
 .exact⟨([],o,t),⟨hp,by simp,(Hj 19 o t).symm⟩,rfl,rfl,rfl⟩
 rintro⟨d,u,v⟩ hx;simp only[aDb,aDa,aEE,aED,Z1,qF,vZ,zS];obtain⟨⟨hs,ht,u0,O,V,T,v0,v1⟩,hd,hw⟩:=hx;simp only at u0 O V T v0 v1 hd hw;have L:=bD cs ns os e ls b hs;obtain⟨c1,c2,c3⟩:=gm cs ns os e ls b ht u0 O V T;have ec:(nx.getD u.toNat []).getD to.toNat 0=nxt nx u to:=rfl;rw[ec];generalize f:nxt nx u to=r at *;have A:mx (cs,ns,os,e,ls,b) u:=⟨L,u0,O⟩
 have X:i9 (cs,ns,os,e,ls,b) nx o to t=(A2 d (kt (cs,ns,os,e,ls,b) nx to (19-d.length) u v)).2:=by unfold i9;rw[hw]
 have hL:uq (cs,ns,os,e,ls,b) nx o to t=(A2 d (kt (cs,ns,os,e,ls,b) nx to (19-d.length) u v)).1:=by unfold uq;rw[hw]
 have g:u≠to->kt (cs,ns,os,e,ls,b) nx to (19-d.length) u v=([],170)->isZero (i9 (cs,ns,os,e,ls,b) nx o to t)=false/\chainOf (Value.iface 39 (Value.int .i64 170))=chainOf (um 39 (i9 (cs,ns,os,e,ls,b) nx o to t)):=λ_ h=>by
  have:i9 (cs,ns,os,e,ls,b) nx o to t=170:=by rw[X,h];rfl
  rw[this];exact⟨rfl,rfl⟩
 refine⟨by omega,by omega,λj=>⟨by omega,by omega,u0,by rw[c1];exact O,V,by rw[c2];exact T,λhm=>g j (nu _ j (f.trans hm)),λhm=>?_⟩,λhe=>?_⟩
 .have y:nxt nx u to≠-1:=by rw[f];exact hm
  obtain⟨⟨l0,l1⟩,lf⟩:=c3 hm;have i:NP (cs,ns,os,e,ls,b) r:=⟨L,l0,l1⟩;have hr:fk (cs,ns,os,e,ls,b) u v:=⟨A,by omega,by omega⟩;refine⟨hr,i,λz=>⟨hr,i,z,λZ=>g j ?_,λZ=>?_⟩,λz=>?_⟩
  .rw[show 19-d.length=0 by omega];exact ri j y (by rw[f];exact cN.1 z)
  .have x:=cN.1 z;obtain⟨b1,b2,b3,b4⟩:=wi cs ns os e ls b i x;obtain⟨g1,g2,g3,g4,g5,g6,g7,g8⟩:=BA cs ns os e ls b i;have et:(ls.getD r.toNat (⟨#[]⟩,0,0,0,0,0)).2.2.2.2.1=iM (cs,ns,os,e,ls,b) r:=rfl;have eo:(ls.getD r.toNat (⟨#[]⟩,0,0,0,0,0)).2.2.1=HC (cs,ns,os,e,ls,b) r:=rfl;rw[et,eo];have G:=rh (n:=(cs,ns,os,e,ls,b)) (nx:=nx) (to:=to) (o:=u) (t:=v) (19-(d.length+1)) j y (by rw[f];exact x)
   rw[show 19-(d.length+1)+1=19-d.length by omega,f]at G;refine⟨l0,l1,aL (by omega),by omega,by omega,aL (by omega),(d++[(u,v,tO (cs,ns,os,e,ls,b) r (aG (cs,ns,os,e,ls,b) u v),r)],HC (cs,ns,os,e,ls,b) r,tO (cs,ns,os,e,ls,b) r (aG (cs,ns,os,e,ls,b) u v)+iM (cs,ns,os,e,ls,b) r),⟨⟨hs,ht,g3,g4,V,T,by simp only;omega,by simp only;omega⟩,by simp;omega,?_⟩,⟨by rw[Z1];simp,by simp,rfl⟩,by simp;omega⟩
   show kt (cs,ns,os,e,ls,b) nx to 19 o t=_;rw[hw,G,x9];simp
  .have x:=eW.1 z;have:=rH (n:=(cs,ns,os,e,ls,b)) (nx:=nx) (to:=to) (o:=u) (t:=v) (19-d.length) j y (by rw[f];exact x);rw[f]at this;have:i9 (cs,ns,os,e,ls,b) nx o to t=rz (cs,ns,os,e,ls,b) r (aG (cs,ns,os,e,ls,b) u v):=by rw[X,this];exact Hk x
   rw[this];exact⟨z,rfl⟩
 .have:=Gv (n:=(cs,ns,os,e,ls,b)) (nx:=nx) (to:=to) (o:=u) (t:=v) (19-d.length) he;rw[X,hL,this];exact⟨rfl,rfl⟩
def zE(z:Int)(w:List Bool)(h:Li)(a b:Int): Prop:=ax z w h=true/\bT a=true/\bT b=true
def pG(w:List Bool)(h:Li)(a b:Int): Li:=iD w h a (b-a+1)
def Bz(n:Net)(line:Int): Prop:=noF n=true/\0<=line/\line<n.2.2.2.2.1.length
def aM(n:Net)(line:Int): Line:=n.2.2.2.2.1.getD line.toNat (⟨#[]⟩,0,0,0,0,0)
def zn(n:Net)(line:Int): Int×List Bool×Li:=n.1.getD (n.2.2.2.1.getD (aM n line).2.1.toNat (⟨#[]⟩,0,0,0,0,0,[])).2.2.1.toNat (0,[],[])
def ff(n:Net)(line:Int)(ts:Li): Bool:=dF line n.2.2.2.2.1.length&&ts.all db&&bg n
def xf(ts:Li)(k:Int): Prop:=0<=k/\k<=ts.length/\(ts.take k.toNat).all db=true
def JF(ts:Li): Prop:=ts.length<=1000000
def qi(n:Net)(line time:Int): Prop:=Bz n line/\0<=time/\time<=2000000
def gi(n:Net)(line d:Int): Int:=jI (zn n line).1 d (aM n line).2.2.2.1
def uT(n:Net)(line time:Int): Li:=pG (zn n line).2.1 (zn n line).2.2 (gQ (zn n line).1 time) (gQ (zn n line).1 time+60)
def fU(n:Net)(line time:Int): Option Int:=(((uT n line time).map (gi n line)).find? λt=>decide (time<=t)).bind λt=>if t<time+86400 then some t else none
def mJ(n:Net)(line time:Int): Int:=(fU n line time).getD 0
def mK(n:Net)(line time:Int): Bool:=(fU n line time).isSome
def firstTo(n:Net)(line time:Int)(k:Nat): Prop:=k<=(uT n line time).length/\((uT n line time).take k).all (λd=>decide (gi n line d<time))=true
def KT5: Kt:=kOr 286 (aw [.row C,.val I] (λ(c,d,_)=>ax c.1 c.2.1 c.2.2=true/\bT d=true) λ(c,d,_)=>.dat .bool (bL c.2.1 c.2.2 d)) KT4
def Xc(ts:Li): Ann:=⟨λid s=>match id with
 | 4=>some {α:=Int,inv:=λk=>xf ts k,st:=λk=>put s [(20,.dat I k)],μ:=λk=>Dc (Dh (Df ts) k)}
 | _=>none,λ_ _=>none,λ_ _=>none⟩
theorem KJ(line:Int)(ts:Li)(cs:LC)(ns os:LB)(h:Lo)(ls:Ll)(f:Lk)(g:
 let c1:=Dp line 0;let c2:=Di c1;let c12:=c2->c2->c2;let c3:=Ea c1 true (Ed line (Df ls));let c4:=(cs,ns,os,h,ls,f);let c5:=ff c4 line ts;true/\(JF ts->c12/\c12/\c12/\c12/\(Dj true c2->c2)/\(c3->false=c5/\True)/\(c3=false->(∃x,xf ts x/\c4=c4/\ts=ts/\Df ts=Df ts/\0=x/\True)/\∀(x:Int),let c6:=Dp x (Df ts);let c7:=Du ts (Dc x) 0;let i:=Dp c7 0;let c9:=Di i;let e:=Ea i true (Eh c7 2000000);let b:=x+1;xf ts x->(c6->0<=x/\x<Df ts/\(c9->c9->c9)/\(Dj true c9->c9)/\(e->false=c5/\True)/\(e=false->inR .i64 b/\∃y,xf ts y/\(c4=c4/\ts=ts/\Df ts=Df ts/\b=y/\True)/\Dc (Df ts-y)<Dc (Df ts-x)))/\(c6=false->True/\Eb (Df (fa c4)) 0=c5/\True)))):
  evF (mkc KT5) (lvA [(4,[3,6,8,18,19,20])] (Xc ts)) 209 [net cs ns os h ls f,.dat I line,.dat R ts] [] ⟨JF ts,.dat .bool (ff (cs,ns,os,h,ls,f) line ts),[]⟩:=oE g
theorem Rb(line:Int)(cs:LC)(ns os:LB)(b:Lo)(ls:Ll)(e:Lk)(f:
 let c1:=(cs,ns,os,b,ls,e);let c2:=(Du ls (Dc line) (ByteArray.mk #[],(0:Int),(0:Int),(0:Int),(0:Int),(0:Int))).2.1;let c3:=(Du b (Dc c2) (ByteArray.mk #[],(0:Int),(0:Int),(0:Int),(0:Int),(0:Int),Dt ByteArray)).2.2.1;let c4:=Du cs (Dc c3) ((0:Int),Dt Bool,Dt Int);let c5:=zn c1 line;true/\(Bz c1 line->0<=line/\line<Df ls/\0<=c2/\c2<Df b/\0<=c3/\c3<Df cs/\1=1/\0=0/\1=1/\0=0/\c4.1=c5.1/\c4.2.1=c5.2.1/\c4.2.2=c5.2.2/\True)):
  evF (mkc KT5) az 256 [net cs ns os b ls e,.dat I line] [] ⟨Bz (cs,ns,os,b,ls,e) line,cal (zn (cs,ns,os,b,ls,e) line).1 (zn (cs,ns,os,b,ls,e) line).2.1 (zn (cs,ns,os,b,ls,e) line).2.2,[]⟩:=oE f
theorem Da(z a b:Int)(w:List Bool)(h:Li)(e:
 let c1:=(z,w,h);true/\(True->a=a/\b=b/\c1=c1/\True)):
  evF (mkc KT5) az 257 [cal z w h,.dat I a,.dat I b] [] ⟨True,.fn 285 [.ip I a,.ip I b,.ip C (z,w,h)],[]⟩:=oE e
def Vb(w:List Bool)(h:Li)(a b:Int): Gu:=⟨λid y=>match id with
 | 1=>some {α:=Int,inv:=λd=>lI a (Dq (Dh b a) 1) d,st:=λd=>⟨put y.s [(5,.dat I d)],kr w h a d,true⟩,μ:=λd=>Dc (Dh (Dq b 1) d)}
 | _=>none,λ_ _=>none,λid=>id==3⟩
theorem Ql(z a b:Int)(w:List Bool)(h:Li)(i:
 let c1:=(z,w,h);let c2:=pG w h a b;let c3:=Dk c2;let c4:=b+1;true/\true/\true/\false=false/\∀(l:Nat),zE z w h a b->(∃x,lI a ((b-a)+1) x/\(l=l/\a=a/\b=b/\c1=c1/\a=x/\a=a/\True)/\0=kr w h a x/\true)/\∀(x:Int),let c5:=(b-a)+1;let c6:=kr w h a x;let c7:=c6+1;let g:=x+1;let c9:=Ea (bL w h x) (Di false) false;lI a c5 x->(Ei x b->(ax z w h/\bT x)/\(bL w h x->(bL w h x->bL w h x)/\(bL w h x->bL w h x)/\l=l/\true/\lC c2 c6 x/\∀(e:Bool),let f:=Ea (bL w h x) (Di e) false;(Dj true (bL w h x)->bL w h x)/\(f->e->c7=c3)/\(f=false->inR .i64 g/\∃y,lI a c5 y/\((l=l/\a=a/\b=b/\c1=c1/\g=y/\a=a/\True)/\c7=kr w h a y/\e)/\Dc (c4-y)<Dc (c4-x)))/\(bL w h x=false->(bL w h x->bL w h x->bL w h x)/\(Dj true (bL w h x)->bL w h x)/\(c9->true->c6=c3)/\(c9=false->inR .i64 g/\∃y,lI a c5 y/\((l=l/\a=a/\b=b/\c1=c1/\g=y/\a=a/\True)/\c6=kr w h a y/\true)/\Dc (c4-y)<Dc (c4-x))))/\(Ei x b=false->true->c6=c3)):
  evI (mkc KT5) (Vb w h a b) 285 [.ip I a,.ip I b,.ip C (z,w,h)] ⟨zE z w h a b,I,pG w h a b⟩:=oE i
def KT6: Kt:=kOr 256 (aw [.row N,.val I] (λ(n,l,_)=>Bz n l) λ(n,l,_)=>cal (zn n l).1 (zn n l).2.1 (zn n l).2.2) <|
 kOr 257 (aw [.row C,.val I,.val I] (λ_=>True) λ(c,a,b,_)=>.fn 285 [.ip I a,.ip I b,.ip C (c.1,c.2.1,c.2.2)]) <|
 kOr 209 (aw [.row N,.val I,.val R] (λ(_,_,ts,_)=>JF ts) λ(n,l,ts,_)=>.dat .bool (ff n l ts)) KT5
def aE0: FuncId->List AV->Option iV:=λf caps=>match f,caps with
 | 285,[.ip (.int .i64) a,.ip (.int .i64) b,.ip (.pair (.int .i64) (.pair (.sl .bool) (.sl (.int .i64)))) c]=>some ⟨zE c.1 c.2.1 c.2.2 a b,I,pG c.2.1 c.2.2 a b⟩
 | _,_=>none
noncomputable def mkr(K:Kt)(mb:Tmp->Bool): Cfg:=⟨Tryz.prog,G0,K,mb,aE0,true,λ_ _ _=>none,λ_=>false⟩
def aBQ(n:Net)(line time:Int): Ann:=⟨λid s=>match id with
 | 4=>some {α:=Nat,inv:=λk=>firstTo n line time k,st:=λ_=>flat s,μ:=λk=>k}
 | _=>none,λ_ _=>none,λ_ _=>none⟩
theorem QW(line time:Int)(cs:LC)(ns os:LB)(e:Lo)(ls:Ll)(b:Lk)(r:
 let c1:=(cs,ns,os,e,ls,b);let c2:=zn c1 line;let c3:=c2.1;let c4:=c2.2;let c5:=c4.1;let c6:=c4.2;let c7:=gQ c3 time;let f:=c7+60;let c9:=PX c3 time;let g:=(c3,c5,c6);let j:=pG c5 c6 c7 f;let c12:=(Du ls (Dc line) (ByteArray.mk #[],(0:Int),(0:Int),(0:Int),(0:Int),(0:Int))).2.2.2.1;let c13:=time+86400;let c14:=mJ c1 line time;let c15:=mK c1 line time;true/\(qi c1 line time->Bz c1 line/\1=1/\0=0/\1=1/\0=0/\fW c3 c5 c6 time/\1=1/\0=0/\inR IntKind.i64 f/\True/\zE c3 c5 c6 c7 f/\(∃x,firstTo c1 line time x/\x=0/\cs=cs/\ns=ns/\os=os/\e=e/\ls=ls/\b=b/\line=line/\time=time/\c1=c1/\line=line/\time=time/\1=1/\0=0/\0=0/\1=1/\0=0/\0=0/\1=1/\0=0/\0=0/\c7=c7/\c9=c9/\cs=cs/\ns=ns/\os=os/\e=e/\ls=ls/\b=b/\line=line/\c3=c3/\c5=c5/\c6=c6/\c7=c7/\c9=c9/\c3=c3/\c5=c5/\c6=c6/\time=time/\c7=c7/\c9=c9/\c7=c7/\c9=c9/\c3=c3/\c5=c5/\c6=c6/\c7=c7/\c7=c7/\f=f/\c7=c7/\f=f/\g=g/\(0:Int)=(0:Int)/\false=false/\c3=c3/\c5=c5/\c6=c6/\True)/\(∀(x:Nat) (y:Int),let i:=Dp (jI c3 y c12) time;let h:=Ed (jI c3 y c12) c13;
 firstTo c1 line time x->lC j x y->1=1/\0=0/\0<=line/\line<Df ls/\lk c3 c5 c6 y c12/\(i->∃z,firstTo c1 line time z/\z=x+1/\cs=cs/\ns=ns/\os=os/\e=e/\ls=ls/\b=b/\line=line/\time=time/\c1=c1/\line=line/\time=time/\1=1/\0=0/\0=0/\1=1/\0=0/\0=0/\1=1/\0=0/\0=0/\c7=c7/\c9=c9/\cs=cs/\ns=ns/\os=os/\e=e/\ls=ls/\b=b/\line=line/\c3=c3/\c5=c5/\c6=c6/\c7=c7/\c9=c9/\c3=c3/\c5=c5/\c6=c6/\time=time/\c7=c7/\c9=c9/\c7=c7/\c9=c9/\c3=c3/\c5=c5/\c6=c6/\c7=c7/\c7=c7/\f=f/\c7=c7/\f=f/\g=g/\(0:Int)=(0:Int)/\false=false/\c3=c3/\c5=c5/\c6=c6/\True)/\(i=false->inR .i64 c13/\(h->1=1/\0=0/\1=1/\0=0/\1=1/\0=0/\1=1/\0=0/\0=c14/\false=c15/\True)/\(h=false->1=1/\0=0/\1=1/\0=0/\1=1/\0=0/\1=1/\0=0/\jI c3 y c12=c14/\true=c15/\True)))/\∀(x:Nat),firstTo c1 line time x->x=Dk j->1=1/\0=0/\1=1/\0=0/\1=1/\0=0/\1=1/\0=0/\0=c14/\false=c15/\True)):
  evF (mkr KT6 λ_=>false) (aBQ (cs,ns,os,e,ls,b) line time) 210 [net cs ns os e ls b,.dat I line,.dat I time] [] ⟨qi (cs,ns,os,e,ls,b) line time,.tup [.dat I (mJ (cs,ns,os,e,ls,b) line time),.dat .bool (mK (cs,ns,os,e,ls,b) line time)],[]⟩:=oE r
def KT7: Kt:=kOr 210 (aw [.row N,.val I,.val I] (λ(n,l,t,_)=>qi n l t) λ(n,l,t,_)=>.tup [.dat I (mJ n l t),.dat .bool (mK n l t)]) KT6
theorem aCf: aj Tryz.prog G0 KT5:=ai (ag λ((z,w,h),d,_)=>aBg z w h d) aCg
theorem OY(cs:LC)(ns os:LB)(b:Lo)(ls:Ll)(e:Lk){line:Int}(h:Bz (cs,ns,os,b,ls,e) line): ax (zn (cs,ns,os,b,ls,e) line).1 (zn (cs,ns,os,b,ls,e) line).2.1 (zn (cs,ns,os,b,ls,e) line).2.2=true/\0<=(aM (cs,ns,os,b,ls,e) line).2.1/\(aM (cs,ns,os,b,ls,e) line).2.1<b.length/\
  0<=(b.getD (aM (cs,ns,os,b,ls,e) line).2.1.toNat (⟨#[]⟩,0,0,0,0,0,[])).2.2.1/\(b.getD (aM (cs,ns,os,b,ls,e) line).2.1.toNat (⟨#[]⟩,0,0,0,0,0,[])).2.2.1<cs.length/\0<=(aM (cs,ns,os,b,ls,e) line).2.2.2.1/\(aM (cs,ns,os,b,ls,e) line).2.2.2.1<=1439:=by
 obtain⟨f,A,g⟩:=h;have g:line<ls.length:=g;have r:aM (cs,ns,os,b,ls,e) line∈ls:=by
  unfold aM;show ls.getD line.toNat _∈ls;rw[qA,qB (by omega),qP];exact wE _
 obtain⟨y,x,O,L,G,i,_⟩:=iP ((lu cs ns os b ls e f).2.2.2 _ r);have z:0<=(aM (cs,ns,os,b,ls,e) line).2.1:=y;have f1:(aM (cs,ns,os,b,ls,e) line).2.1<b.length:=x;have j:b.getD (aM (cs,ns,os,b,ls,e) line).2.1.toNat (⟨#[]⟩,0,0,0,0,0,[])∈b:=by
  rw[qA,qB (by omega),qP];exact wE _
 have gc:=(gw cs ns os b ls e f).2.2.2 _ j;unfold cQ dF at gc;simp only[qC,qE]at gc;have gc:0<=(b.getD (aM (cs,ns,os,b,ls,e) line).2.1.toNat (⟨#[]⟩,0,0,0,0,0,[])).2.2.1/\(b.getD (aM (cs,ns,os,b,ls,e) line).2.1.toNat (⟨#[]⟩,0,0,0,0,0,[])).2.2.1<(cs.length:Int):=gc.1.1.1.1.1.2;have v:=((ru (by decide)).1 (iL cs ns os b ls e f).2.1).2.2.2;have u:(aA cs ns).length=cs.length:=by unfold aA;simp
 have:=v (b.getD (aM (cs,ns,os,b,ls,e) line).2.1.toNat (⟨#[]⟩,0,0,0,0,0,[])).2.2.1.toNat (by omega);unfold bh at this;rw[lZ (λc:Int×List Bool×Li=>ax c.1 c.2.1 c.2.2) cs _ (0,[],[]) false (by omega)]at this;exact⟨this,z,f1,gc.1,gc.2,i.1,i.2⟩
theorem XT(line:Int)(cs:LC)(ns os:LB)(e:Lo)(ls:Ll)(b:Lk): af Tryz.prog G0 256 [net cs ns os e ls b,.dat I line] [] ⟨Bz (cs,ns,os,e,ls,b) line,cal (zn (cs,ns,os,e,ls,b) line).1 (zn (cs,ns,os,e,ls,b) line).2.1 (zn (cs,ns,os,e,ls,b) line).2.2,[]⟩:=by
 refine ae (c:=mkc KT5) aCf aK hm (Rb line cs ns os e ls b ⟨rfl,λf=>?_⟩);obtain⟨_,j,i,h,g,_⟩:=OY cs ns os e ls b f;exact⟨f.2.1,f.2.2,j,i,h,g,rfl,rfl,rfl,rfl,rfl,rfl,rfl,trivial⟩
theorem IV(z a b:Int)(w:List Bool)(h:Li): af Tryz.prog G0 257 [cal z w h,.dat I a,.dat I b] [] ⟨True,.fn 285 [.ip I a,.ip I b,.ip C (z,w,h)],[]⟩:=
 ae (c:=mkc KT5) aCf aK hm (Da z a b w h ⟨rfl,λ_=>⟨rfl,rfl,rfl,trivial⟩⟩)
theorem uU{t:Int}: db t=true↔¬t<0/\¬t>2000000:=by unfold db;rw[qE];omega
theorem RE(line:Int)(ts:Li)(cs:LC)(ns os:LB)(e:Lo)(ls:Ll)(b:Lk): af Tryz.prog G0 209 [net cs ns os e ls b,.dat I line,.dat R ts] [] ⟨JF ts,.dat .bool (ff (cs,ns,os,e,ls,b) line ts),[]⟩:=by
 refine ae (c:=mkc KT5) aCf aK hm (KJ line ts cs ns os e ls b ⟨rfl,λv=>?_⟩);simp only[qc,Dj,Es,Di,qd,Dt,Eb,Ec,Dp,Eh,Ei,Ed,Ey,Df,Et,Dl,Dn,Eo,Dy,Dw,Dh,Dq,Ee,Fh,Dc,Dx,Dk,Dz,Ej,Du,Eu,Ez,En,Ef,Fe,Fj,Fg,Ep,Em,Ew,Fb];have u:ts.length<=1000000:=v;refine⟨λh=>?_,λ⟨L,G⟩=>⟨⟨qL _,qV _,rfl⟩,λk ⟨r,A,f⟩=>⟨λi=>?_,λi=>?_⟩⟩⟩
 .unfold ff;have:dF line (ls.length:Nat)=false:=by unfold dF;exact vV (by omega)
  show false=(dF line (ls.length:Nat)&&_&&_);rw[this];rfl
 .have j:ts.getD k.toNat 0=ts[k.toNat]:=by rw[qA,qB (by omega),qP]
  refine⟨r,i,λh=>?_,λh=>⟨bu (by omega),k+1,⟨by omega,by omega,?_⟩,rfl,by omega⟩⟩
  .have x:ts.all db=false:=by
    rw[qBt];refine⟨ts[k.toNat],wE _,λg=>?_⟩;rw[<- j,uU]at g;omega
   unfold ff;rw[x,kG];rfl
  .rw[show(k+1).toNat=k.toNat+1 by omega,wO,qB (by omega),qBn,kN,f,<- j];show(true&&(db _&&true))=true;rw[uU.2 h];rfl
 .have z:dF line (ls.length:Nat)=true:=by unfold dF;exact qW (by omega)
  have y:ts.all db=true:=by
   rw[qQ (by omega)]at f;exact f
  unfold ff bg;show _=(dF line (ls.length:Nat)&&ts.all db&&_);rw[z,y];cases fa (cs,ns,os,e,ls,b)with
  | nil=>rfl
  | cons a l=>
   show decide _=false;rw[vY];show ¬((((a::l).length:Nat):Int)=0);rw[vU];omega
theorem gK{d:Int}: bT d=true↔-1000000<=d/\d<=1000000:=by unfold bT;rw[qE]
theorem Xk(a b:Int)(c:C.den): mA Tryz.prog G0 285 [.ip I a,.ip I b,.ip C c] ⟨zE c.1 c.2.1 c.2.2 a b,I,pG c.2.1 c.2.2 a b⟩:=by
 obtain⟨z,w,h⟩:=c;refine jr (c:=mkc KT5) (A:=Vb w h a b) aCf aK hm ?_;refine Ql z a b w h ⟨rfl,rfl,rfl,rfl,λl ⟨r,L,hb⟩=>?_⟩;simp only[qc,Dj,Es,Di,qd,Dt,Eb,Ec,Dp,Eh,Ei,Ed,Ey,Df,Et,Dl,Dn,Eo,Dy,Dw,Dh,Dq,Ee,Fh,Dc,Dx,Dk,Dz,Ej,Du,Eu,Ez,En,Ef,Fe,Fj,Fg,Ep,Em,Ew,Fb];have G:=gK.1 L;have y:=gK.1 hb;refine⟨⟨a,⟨qL _,.inr rfl⟩,rfl,(H7 w h a).symm⟩,λx f=>?_⟩;have e:=f.1;have j:=f.2
 refine⟨λu=>⟨⟨r,gK.2 (by omega)⟩,λhw=>⟨Pg e (by omega) hw,λs=>⟨λO i=>(by rw[O.2]at i;cases i),λg=>⟨bu (by omega),x+1,⟨by omega,.inl (by omega)⟩,⟨rfl,?_,g hw⟩,by omega⟩⟩⟩,λhw=>⟨λg=>(by rw[hw]at g;cases g),λ_=>⟨bu (by omega),x+1,⟨by omega,.inl (by omega)⟩,⟨rfl,?_⟩,by omega⟩⟩⟩,λv=>?_⟩
 .rw[rA e,hw];rfl
 .rw[rA e,hw];rfl
 .exact cnt_end (n:=b-a+1) f (by omega)
theorem aFr: aj Tryz.prog G0 KT6:=ai (ag λ((cs,ns,os,f,ls,e),l,_)=>XT l cs ns os f ls e)<|ai (ag λ((z,w,h),a,b,_)=>IV z a b w h)<|ai (ag λ((cs,ns,os,f,ls,e),l,ts,_)=>RE l ts cs ns os f ls e) aCf
theorem aCs: bm Tryz.prog G0 aE0:=by
 intro f caps c h;unfold aE0 at h;split at h
 .cases h;exact Xk _ _ _
 .cases h
theorem FM{f:Int->Int}{time y:Int}(b:¬f y<time): ∀{L:Li} {x:Nat},L[x]?=some y->(L.take x).all (λd=>decide (f d<time))=true->(L.map f).find? (λt=>decide (time<=t))=some (f y)
 | [],x,h,_=>by simp at h
 | a::L,0,h,_=>by
  have:a=y:=by simpa using h
  subst this;rw[zH,qBj,qW (show time<=f a by omega)]
 | a::L,x+1,h,g=>by
  rw[List.take_succ_cons,qAi,qC,qE]at g;rw[zH,qBj,vV (show ¬time<=f a by omega)];exact FM b (by simpa using h) g.2
theorem Ox{f:Int->Int}{time:Int}: ∀{L:Li},L.all (λd=>decide (f d<time))=true->(L.map f).find? (λt=>decide (time<=t))=none
 | [],_=>rfl
 | a::L,g=>by
  rw[qAi,qC,qE]at g;rw[zH,qBj,vV (show ¬time<=f a by omega)];exact Ox g.2
theorem Ip{w:List Bool}{h:Li}{a b y:Int}(e:y∈pG w h a b): a<=y/\y<=b/\bL w h y=true:=by
 unfold pG iD at e;rw[zV]at e;obtain⟨e,hw⟩:=e;obtain⟨i,hi,rfl⟩:=wS.1 e;have:=vF.1 hi;exact⟨by omega,by omega,hw⟩
theorem Ru{z:Int}{w:List Bool}{h:Li}{t:Int}(b:ax z w h=true)(g:0<=t)(t1:t<=2000000): -2<=gQ z t/\gQ z t<=2000:=by
 obtain⟨⟨f,e,_⟩,_⟩:=cA.1 b;unfold gQ;omega
theorem XL(line time:Int)(cs:LC)(ns os:LB)(e:Lo)(ls:Ll)(b:Lk): af Tryz.prog G0 210 [net cs ns os e ls b,.dat I line,.dat I time] [] ⟨qi (cs,ns,os,e,ls,b) line time,.tup [.dat I (mJ (cs,ns,os,e,ls,b) line time),.dat .bool (mK (cs,ns,os,e,ls,b) line time)],[]⟩:=by
 refine ae (c:=mkr KT6 λ_=>false) aFr aCs hm (QW line time cs ns os e ls b ⟨rfl,λV=>?_⟩);simp only[qc,Dj,Es,Di,qd,Dt,Eb,Ec,Dp,Eh,Ei,Ed,Ey,Df,Et,Dl,Dn,Eo,Dy,Dw,Dh,Dq,Ee,Fh,Dc,Dx,Dk,Dz,Ej,Du,Eu,Ez,En,Ef,Fe,Fj,Fg,Ep,Em,Ew,Fb];obtain⟨i,O,t1⟩:=V;obtain⟨v,_,_,_,_,T,m1⟩:=OY cs ns os e ls b i;obtain⟨d0,d1⟩:=Ru v O t1
 refine⟨i,⟨v,by omega,by omega⟩,bu (by omega),⟨v,gK.2 (by omega),gK.2 (by omega)⟩,⟨wZ _,rfl⟩,λx y A L=>?_,λx A i=>?_⟩
 .have g:(uT (cs,ns,os,e,ls,b) line time)[x]?=some y:=L;obtain⟨y0,Z,X⟩:=Ip (zI L);obtain⟨x1,x2⟩:=A;refine⟨i.2.1,i.2.2,⟨v,gK.2 (by omega),T,(by show(aM (cs,ns,os,e,ls,b) line).2.2.2.1<1440;omega)⟩,λG=>⟨(qG.1 g).1,?_⟩,λj=>⟨bu (by omega),λr=>?_,λh=>?_⟩⟩
  .rw[wO,g,qBn,kN,x2];show(true&&(decide (gi (cs,ns,os,e,ls,b) line y<time)&&true))=true;rw[qW (show gi (cs,ns,os,e,ls,b) line y<time from G)];rfl
  .have u:fU (cs,ns,os,e,ls,b) line time=none:=by
    unfold fU;rw[FM (f:=gi (cs,ns,os,e,ls,b) line) j g x2];show(if gi (cs,ns,os,e,ls,b) line y<time+86400 then some (gi (cs,ns,os,e,ls,b) line y)else none)=none;rw[if_neg (show ¬gi (cs,ns,os,e,ls,b) line y<time+86400 from by have:gi (cs,ns,os,e,ls,b) line y≥time+86400:=r;omega)]
   unfold mJ mK;rw[u];exact⟨rfl,rfl⟩
  .have u:fU (cs,ns,os,e,ls,b) line time=some (gi (cs,ns,os,e,ls,b) line y):=by
    unfold fU;rw[FM (f:=gi (cs,ns,os,e,ls,b) line) j g x2];show(if gi (cs,ns,os,e,ls,b) line y<time+86400 then some (gi (cs,ns,os,e,ls,b) line y)else none)=_;rw[if_pos (show gi (cs,ns,os,e,ls,b) line y<time+86400 from by have:¬gi (cs,ns,os,e,ls,b) line y≥time+86400:=h;omega)]
   unfold mJ mK;rw[u];exact⟨rfl,rfl⟩
 .obtain⟨x1,x2⟩:=A;have z:x=(uT (cs,ns,os,e,ls,b) line time).length:=i;rw[z,xG]at x2;have u:fU (cs,ns,os,e,ls,b) line time=none:=by
   unfold fU;rw[Ox x2];rfl
  unfold mJ mK;rw[u];exact⟨rfl,rfl⟩
theorem aGa: aj Tryz.prog G0 KT7:=ai (ag λ((cs,ns,os,e,ls,b),l,t,_)=>XL l t cs ns os e ls b) aFr
def rn(a b:Int): Int:=if a<b then b else a
def KT8: Kt:=KT7
theorem tT(x:Int)(b:
 true/\(True->Ec x x=false/\True)):
  evF (mkc KT8) az 287 [.dat I x] [] ⟨True,.dat .bool false,[]⟩:=oE b
def KT9: Kt:=kOr 287 (aw [.val I] (λ_=>True) λ_=>.dat .bool false) KT8
theorem WR(x y:Int)(b:
 let c3:=false->false->false;let c1:=Ea false (Di false) false;let c2:=Di c1;true/\(True->True/\c3/\(false->True)/\c3/\(Dj true false->false)/\(c2->c2->c2)/\(c2->c2->c2)/\(Dj true c2->c2)/\Ea c1 true (Dp x y)=Dp x y/\True)):
  evF (mkc KT9) az 258 [.dat I x,.dat I y] [] ⟨True,.dat .bool (Dp x y),[]⟩:=oE b
def aCX: Kt:=kOr 258 (aw [.val I,.val I] (λ_=>True) λ(x,y,_)=>.dat .bool (Dp x y)) KT9
theorem II(x y:Int)(b:
 true/\(True->True/\(Dp x y->y=rn x y/\True)/\(Dp x y=false->x=rn x y/\True))):
  evF (mkc aCX) az 211 [.dat I x,.dat I y] [] ⟨True,.dat I (rn x y),[]⟩:=oE b
def aFl: Kt:=kOr 211 (aw [.val I,.val I] (λ_=>True) λ(x,y,_)=>.dat I (rn x y)) aCX
theorem ky(cs:LC)(ns os:LB)(g:Lo)(ls:Ll)(f:Lk){line time:Int}{ts:Li}(h:ff (cs,ns,os,g,ls,f) line ts=true)(i:time∈ts): qi (cs,ns,os,g,ls,f) line time:=by
 unfold ff at h;rw[qC,qC]at h;obtain⟨⟨e,u⟩,r⟩:=h;have e:=vO e;have j:=((wt cs ns os g ls f).1 (wW.1 r)).1;have b:=vO (qN.1 u time i);exact⟨⟨j,e.1,e.2⟩,b.1,b.2⟩
theorem aFq: aj Tryz.prog G0 KT8:=aGa
theorem aDN(x:Int): af Tryz.prog G0 287 [.dat I x] [] ⟨True,.dat .bool false,[]⟩:=
 ae (c:=mkc KT8) aFq aK hm (tT x ⟨rfl,λ_=>⟨by simp[Ec],trivial⟩⟩)
theorem aFp: aj Tryz.prog G0 KT9:=ai (ag λ(x,_)=>aDN x) aFq
theorem aAK(x y:Int): af Tryz.prog G0 258 [.dat I x,.dat I y] [] ⟨True,.dat .bool (Dp x y),[]⟩:=by
 refine ae (c:=mkc KT9) aFp aK hm (WR x y ⟨rfl,λ_=>?_⟩);exact⟨trivial,λh=>(by cases h),λ_=>trivial,λh=>(by cases h),λh=>(by cases h),λh _=>h,λh _=>h,λh=>h,rfl,trivial⟩
theorem aCi: aj Tryz.prog G0 aCX:=ai (ag λ(x,y,_)=>aAK x y) aFp
theorem L1(x y:Int): af Tryz.prog G0 211 [.dat I x,.dat I y] [] ⟨True,.dat I (rn x y),[]⟩:=by
 refine ae (c:=mkc aCX) aCi aK hm (II x y ⟨rfl,λ_=>⟨trivial,λh=>⟨?_,trivial⟩,λh=>⟨?_,trivial⟩⟩⟩)
 .unfold rn;rw[if_pos (vO h)]
 .unfold rn;rw[if_neg (qCj h)]
theorem aEJ: aj Tryz.prog G0 aFl:=ai (ag λ(x,y,_)=>L1 x y) aCi
def waitGo(n:Net)(line till:Int): Nat->Int->Int->Option Int
 | 0,_,m=>some m
 | k+1,t,m=>if t<till then(fU n line t).bind λu=>waitGo n line till k (u+1) (rn m (u-t))else some m
def zP(n:Net)(line a b:Int): Option Int:=waitGo n line b (b-a).toNat a 0
def nw(n:Net)(line a b:Int): Bool:=ff n line [a,b]&&decide (a<b)&&decide (b<=a+86400)
def oL(n:Net)(line a b:Int): Int:=if nw n line a b then(zP n line a b).getD 0 else 0
def qu(n:Net)(line a b:Int): Int:=if nw n line a b then(if(zP n line a b).isSome then 0 else 20)else 1
def Gy(n:Net)(line a b m t:Int): Prop:=nw n line a b=true/\a<=t/\t<=b+86400/\0<=m/\m<=86400/\waitGo n line b (b-t).toNat t m=zP n line a b
def aCW: Kt:=aFl
def aC9(n:Net)(line a b:Int): Ann:=⟨λid s=>match id with
 | 5=>some {α:=Int×Int,inv:=λx=>Gy n line a b x.1 x.2,st:=λx=>put s [(10,.dat I x.1),(11,.dat I x.2)],μ:=λx=>Dc (Dh b x.2)}
 | _=>none,λ_ _=>none,λ_ _=>none⟩
theorem Ws(line a b:Int)(cs:LC)(ns os:LB)(h:Lo)(ls:Ll)(g:Lk)(j:
 let c1:=[a,b];let c2:=(cs,ns,os,h,ls,g);let c3:=Di (ff c2 line c1);let c4:=Di c3;let c5:=Ea c3 true (Ei b a);let c6:=Di c5;let e:=c6->c6->c6;let c7:=a+86400;let r:=Ea c5 true (Eh b c7);let c9:=oL c2 line a b;let f:=qu c2 line a b;true/\(True->JF c1/\(c4->c4->c4)/\(c4->c4->c4)/\(Dj true c4->c4)/\e/\(c6->inR .i64 c7)/\e/\e/\(Dj true c6->c6)/\(r->0=c9/\1=f/\True)/\(r=false->(∃(x:Int×Int),Gy c2 line a b x.1 x.2/\line=line/\b=b/\c2=c2/\0=x.1/\a=x.2/\True)/\∀(x:Int×Int),let i:=Dp x.2 b;let c12:=Di (mK c2 line x.2);let c13:=mJ c2 line x.2;let c14:=c13-x.2;let c15:=c13+1;Gy c2 line a b x.1 x.2->(i->qi c2 line x.2/\(c12->0=c9/\20=f/\True)/\(c12=false->inR .i64 c14/\True/\inR .i64 c15/\∃(y:Int×Int),Gy c2 line a b y.1 y.2/\(line=line/\b=b/\c2=c2/\rn x.1 c14=y.1/\c15=y.2/\True)/\Dc (b-y.2)<Dc (b-x.2)))/\(i=false->x.1=c9/\0=f/\True)))):
  evF (mkr aCW λ_=>false) (lvA [(5,[1,3,4,8,9,10,11,12,13])] (aC9 (cs,ns,os,h,ls,g) line a b)) 143 [net cs ns os h ls g,.dat I line,.dat I a,.dat I b] [] ⟨True,.tup [.dat I (oL (cs,ns,os,h,ls,g) line a b),.dat I (qu (cs,ns,os,h,ls,g) line a b)],[]⟩:=oE j
def aFk: Kt:=kOr 143 (aw [.row N,.val I,.val I,.val I] (λ_=>True) λ(n,l,a,b,_)=>.tup [.dat I (oL n l a b),.dat I (qu n l a b)]) aCW
theorem aCh: aj Tryz.prog G0 aCW:=aEJ
theorem uO(cs:LC)(ns os:LB)(f:Lo)(ls:Ll)(e:Lk){line a b:Int}(h:ff (cs,ns,os,f,ls,e) line [a,b]=true): qi (cs,ns,os,f,ls,e) line a/\qi (cs,ns,os,f,ls,e) line b:=
 ⟨ky cs ns os f ls e h (by simp),ky cs ns os f ls e h (by simp)⟩
theorem lG{n:Net}{l t u:Int}(h:fU n l t=some u): t<=u/\u<t+86400:=by
 unfold fU at h;cases e:((uT n l t).map (gi n l)).find? (λv=>decide (t<=v))with
 | none=>rw[e]at h;cases h
 | some v=>
  rw[e]at h;have b:=vO (List.find?_some (p:=λv=>decide (t<=v)) e);have h:(if v<t+86400 then some v else none)=some u:=h;split at h
  .cases h;exact⟨b,by assumption⟩
  .cases h
theorem rI{n:Net}{l b:Int}: ∀(k j:Nat) (t m:Int),(b-t).toNat<=k->(b-t).toNat<=j->waitGo n l b k t m=waitGo n l b j t m
 | 0,0,_,_,_,_=>rfl
 | 0,j+1,t,m,h,_=>by rw[waitGo,waitGo,if_neg (by omega)]
 | k+1,0,t,m,_,h=>by rw[waitGo,waitGo,if_neg (by omega)]
 | k+1,j+1,t,m,i,f=>by
  rw[waitGo,waitGo];by_cases g:t<b
  .rw[if_pos g,if_pos g];cases e:fU n l t with
   | none=>rfl
   | some u=>
    have:=lG e;exact rI k j (u+1) _ (by omega) (by omega)
  .rw[if_neg g,if_neg g]
theorem aAx(line a b:Int)(cs:LC)(ns os:LB)(g:Lo)(ls:Ll)(f:Lk): af Tryz.prog G0 143 [net cs ns os g ls f,.dat I line,.dat I a,.dat I b] [] ⟨True,.tup [.dat I (oL (cs,ns,os,g,ls,f) line a b),.dat I (qu (cs,ns,os,g,ls,f) line a b)],[]⟩:=by
 refine ae (c:=mkr aCW λ_=>false) aCh aCs hm (Ws line a b cs ns os g ls f ⟨rfl,λ_=>?_⟩);simp only[qc,Dj,Es,Di,qd,Dt,Eb,Ec,Dp,Eh,Ei,Ed,Ey,Df,Et,Dl,Dn,Eo,Dy,Dw,Dh,Dq,Ee,Fh,Dc,Dx,Dk,Dz,Ej,Du,Eu,Ez,En,Ef,Fe,Fj,Fg,Ep,Em,Ew,Fb];have O:JF [a,b]:=(by show(2:Nat)<=1000000;decide);refine⟨O,λ⟨v,_⟩=>?_,λh=>?_,λ⟨⟨v,L⟩,hb⟩=>?_⟩
 .obtain⟨⟨_,a0,T⟩,_⟩:=uO cs ns os g ls f v;exact bu (by omega)
 .have A:nw (cs,ns,os,g,ls,f) line a b=false:=by
   unfold nw;rcases h with(h | h) | h
   .rw[h];rfl
   .rw[vV (show ¬a<b by omega),kG];rfl
   .rw[vV (show ¬b<=a+86400 by omega),kG]
  unfold oL qu;rw[A];exact⟨rfl,rfl⟩
 .obtain⟨⟨G,a0,T⟩,_,b0,b1⟩:=uO cs ns os g ls f v;have i:nw (cs,ns,os,g,ls,f) line a b=true:=by
   unfold nw;rw[v,qW (show a<b by omega),qW (show b<=a+86400 by omega)];rfl
  refine⟨⟨(0,a),⟨i,qL _,(by show a<=b+86400;omega),qL _,(by show(0:Int)<=86400;omega),rfl⟩,rfl,rfl⟩,λx=>?_⟩;obtain⟨m,t⟩:=x;simp only;rintro⟨_,X,t1,m0,Z,hw⟩;refine⟨λz=>?_,λz=>?_⟩
  .have y:(b-t).toNat=(b-t).toNat-1+1:=by omega
   rw[y,waitGo,if_pos z]at hw;refine⟨⟨G,by omega,by omega⟩,λj=>?_,λj=>?_⟩
   .have e:fU (cs,ns,os,g,ls,f) line t=none:=by
     unfold mK at j;cases e:fU (cs,ns,os,g,ls,f) line t with
     | none=>rfl
     | some u=>rw[e]at j;cases j
    rw[e]at hw;have hw:zP (cs,ns,os,g,ls,f) line a b=none:=hw.symm;unfold oL qu;rw[i,hw];exact⟨rfl,rfl⟩
   .obtain⟨u,e⟩:∃u,fU (cs,ns,os,g,ls,f) line t=some u:=by
     unfold mK at j;cases e:fU (cs,ns,os,g,ls,f) line t with
     | none=>rw[e]at j;cases j
     | some u=>exact⟨u,rfl⟩
    obtain⟨u0,V⟩:=lG e;have hd:mJ (cs,ns,os,g,ls,f) line t=u:=by unfold mJ;rw[e];rfl
    rw[e]at hw;have hw:waitGo (cs,ns,os,g,ls,f) line b ((b-t).toNat-1) (u+1) (rn m (u-t))=zP (cs,ns,os,g,ls,f) line a b:=hw;have r:0<=rn m (u-t)/\rn m (u-t)<=86400:=by unfold rn;split<;>omega
    rw[hd];refine⟨bu (by omega),bu (by omega),(rn m (u-t),u+1),⟨i,(by show a<=u+1;omega),(by show u+1<=b+86400;omega),r.1,r.2,?_⟩,⟨rfl,rfl⟩,(by show(b-(u+1)).toNat<_;omega)⟩;rw[<- hw];exact rI _ _ _ _ (qJ _) (by show(b-(u+1)).toNat<=_;omega)
  .have y:(b-t).toNat=0:=by omega
   rw[y,waitGo]at hw;unfold oL qu;rw[i,<- hw];exact⟨rfl,rfl⟩
theorem aEI: aj Tryz.prog G0 aFk:=ai (ag λ((cs,ns,os,f,ls,e),l,a,b,_)=>aAx l a b cs ns os f ls e) aCh
open Go.Eng.Mp (aJ ca pM br upto at2 od jf jg xi)
def fG: Int:=-1099511627776
def aCF(a b:Int): Bool:=decide (0<=a)&&decide (a<b)&&decide (b<=2000000)&&decide (b<=a+86400)
def gX(n:Net)(a b:Int): Bool:=aCF a b&&bg n
def MU(n:Net)(a b:Int): Prop:=gX n a b=true
def sQ(n:Net)(o:Int): Off:=n.2.2.2.1.getD o.toNat (⟨#[]⟩,0,0,0,0,0,[])
def zh(n:Net)(a b i:Int): Int:=if qu n i a b=0 then oL n i a b+(aM n i).2.2.2.2.1+(sQ n (aM n i).2.2.1).2.2.2.2.1*(sQ n (aM n i).2.2.1).2.2.2.2.2.1 else fG
def fy(n:Net)(a b:Int): Li:=(List.range n.2.2.2.2.1.length).map λi:Nat=>zh n a b i
def f9(n:Net)(a b k:Int): Li:=(fy n a b).take k.toNat++List.replicate (n.2.2.2.2.1.length-k.toNat) 0
def B8(n:Net)(a b k:Int): Prop:=gX n a b=true/\0<=k/\k<=n.2.2.2.2.1.length
def fL(n:Net)(c:Li): Prop:=bg n=true/\c.length=n.2.2.2.2.1.length/\∀i:Int,0<=i->i<c.length->c.getD i.toNat 0=fG\/(0<c.getD i.toNat 0/\c.getD i.toNat 0<=1000000)
def EG(_ _:Int): Int:=fG
def aBx(_ _:Int): Prop:=True
def fR(ls:Ll)(c:Li): Nat->Int->Int->Int
 | 0,_,_=>fG
 | k+1,o,d=>if c.getD k 0≠fG/\(ls.getD k (⟨#[]⟩,0,0,0,0,0)).2.1=o/\(ls.getD k (⟨#[]⟩,0,0,0,0,0)).2.2.1=d then max (fR ls c k o d) (-(c.getD k 0))else fR ls c k o d
def aU(n:Net)(c:Li)(k:Int): Lj:=aJ (fR n.2.2.2.2.1 c k.toNat) n.2.2.2.1.length
def jo(n:Net)(c:Li): Lj:=aU n c n.2.2.2.2.1.length
def NK(n:Net)(c:Li)(k:Int): Prop:=fL n c/\0<=k/\k<=n.2.2.2.2.1.length
def P3(e:Int)(s:Lj)(o d:Int): Int:=if e=0 then(if at2 s o d=fG then -1 else -(at2 s o d))else -1
def F6(e:Int)(s:Lj)(o d:Int): Prop:=e=0->od o d s/\(at2 s o d=fG\/(-1152921504606846976<=at2 s o d/\at2 s o d<=1152921504606846976))
def iw(n:Net)(c:Li): Lj:=aJ (P3 (jg (jo n c)) (jf (jo n c))) n.2.2.2.1.length
def qb(n:Net)(c:Li)(b:Lj)(o d i:Int): Bool:=decide ((aM n i).2.1=o)&&decide (c.getD i.toNat 0≠fG)&&decide (0<=at2 b (aM n i).2.2.1 d)&&decide (c.getD i.toNat 0+at2 b (aM n i).2.2.1 d=at2 b o d)
def uK(n:Net)(c:Li)(b:Lj)(o d:Int): Int:=match(List.range n.2.2.2.2.1.length).find? λi:Nat=>qb n c b o d i with
 | some i=>i
 | none=>-1
def O5(n:Net)(b:Lj): Prop:=∀o d:Int,0<=o->o<n.2.2.2.1.length->0<=d->d<n.2.2.2.1.length->od o d b/\-1152921504606846976<=at2 b o d/\at2 b o d<=1152921504606846976
def ub(n:Net)(c:Li)(b:Lj)(o d:Int): Prop:=fL n c/\O5 n b/\0<=o/\o<n.2.2.2.1.length/\0<=d/\d<n.2.2.2.1.length
def ua(n:Net)(c:Li)(b:Lj)(o d k:Int): Prop:=ub n c b o d/\0<=k/\k<=n.2.2.2.2.1.length/\(List.range k.toNat).all (λi:Nat=>!qb n c b o d i)=true
def sX(n:Net)(c:Li)(b:Lj)(o d:Int): Int:=if o=d\/at2 b o d<0 then -1 else uK n c b o d
def Yw(n:Net)(c:Li): Lj:=aJ (sX n c (iw n c)) n.2.2.2.1.length
def lh(n:Net)(a b:Int): Lj:=if gX n a b then Yw n (fy n a b)else[]
def KQ0: Kt:=kOr 145 (aw [.val M] (λ(m,_)=>xi m) λ(m,_)=>.tup [.dat M (jf m),.dat I (jg m)]) aFk
theorem WA(a b:Int)(cs:LC)(ns os:LB)(h:Lo)(ls:Ll)(f:Lk)(g:
 let c1:=Dp a 0;let c2:=Di c1;let c3:=Ea c1 true (Ei b a);let c4:=Di c3;let c5:=Ea c3 true (Eh b 2000000);let c6:=Di c5;let e:=c6->c6->c6;let c7:=Ea c5 true (Eh (b-a) 86400);let i:=(cs,ns,os,h,ls,f);let c9:=gX i a b;true/\(True->(c2->c2->c2)/\(c2->c2->c2)/\(Dj true c2->c2)/\(c4->c4->c4)/\(Dj true c4->c4)/\e/\e/\(c6->inR .i64 (b-a))/\e/\(Dj true c6->c6)/\(c7->false=c9/\True)/\(c7=false->True/\Eb (Df (fa i)) 0=c9/\True))):
  evF (mkc KQ0) az 72 [net cs ns os h ls f,.dat I a,.dat I b] [] ⟨True,.dat .bool (gX (cs,ns,os,h,ls,f) a b),[]⟩:=oE g
def aBY(n:Net)(a b:Int): Ann:=⟨λid s=>match id with
 | 3=>match s.sig.T 16 with
  | .buf nm _=>some {α:=Int,inv:=λk=>B8 n a b k,st:=λk=>gC (put s [(20,.dat I k)]) nm (.buf 3 I (f9 n a b k) []),μ:=λk=>Dc (Dh (Df n.2.2.2.2.1) k)}
  | _=>none
 | _=>none,λ_ _=>none,λ_ _=>none⟩
theorem Q5(a b:Int)(cs:LC)(ns os:LB)(f:Lo)(ls:Ll)(h:Lk)(i:
 let c1:=(cs,ns,os,f,ls,h);let c2:=Df ls;let c3:=Dc c2;true/\(MU c1 a b->0<=c2/\(Dx 8*c2)<=281474976710656/\c2<=9223372036854775807/\(∃x,B8 c1 a b x/\a=a/\b=b/\c1=c1/\Value.slice none 0 0=Value.slice none 0 0/\c3=c3/\ls=ls/\c2=c2/\0=x/\Ep c2 (0:Int)=f9 c1 a b x/\True)/\∀(x:Int),let c6:=Ec (qu c1 x a b) 0;let c7:=f9 c1 a b x;let g:=Dk c7;let c9:=x+1;let e:=(Du ls (Dc x) (ByteArray.mk #[],(0:Int),(0:Int),(0:Int),(0:Int),(0:Int))).2.2;let c12:=oL c1 x a b+e.2.2.1;let c13:=(Du f (Dc e.1) (ByteArray.mk #[],(0:Int),(0:Int),(0:Int),(0:Int),(0:Int),Dt ByteArray)).2.2.2.2;let c14:=c13.1*c13.2.1;let c15:=c12+c14;B8 c1 a b x->(Dp x c2->0<=x/\x<c2/\1=1/\0=0/\True/\(c6->g=c3/\0<=x/\x<Dx g/\g=c3/\inR .i64 c9/\∃y,B8 c1 a b y/\(a=a/\b=b/\c1=c1/\Value.slice none 0 0=Value.slice none 0 0/\c3=c3/\ls=ls/\c2=c2/\c9=y/\En c7 (Dc x) (-1099511627776)=f9 c1 a b y/\True)/\Dc (c2-y)<Dc (c2-x))/\(c6=false->1=1/\1=1/\0=0/\0<=e.1/\e.1<Df f/\1=1/\0=0/\1=1/\1=1/\0=0/\inR .i64 c12/\1=1/\1=1/\0=0/\1=1/\1=1/\0=0/\inR .i64 c14/\inR .i64 c15/\g=c3/\0<=x/\x<Dx g/\g=c3/\inR .i64 c9/\∃y,B8 c1 a b y/\(a=a/\b=b/\c1=c1/\Value.slice none 0 0=Value.slice none 0 0/\c3=c3/\ls=ls/\c2=c2/\c9=y/\En c7 (Dc x) c15=f9 c1 a b y/\True)/\Dc (c2-y)<Dc (c2-x)))/\(Dp x c2=false->g=c3/\c7=fy c1 a b/\True))):
  evF (mkc KQ0) (lvA [(3,[1,2,3,6,7,8,9,10,11,12,18,19,20])] (aBY (cs,ns,os,f,ls,h) a b)) 73 [net cs ns os f ls h,.dat I a,.dat I b] [] ⟨MU (cs,ns,os,f,ls,h) a b,.dat R (fy (cs,ns,os,f,ls,h) a b),[]⟩:=oE i
def aAs(n:Int)(g:Int->Int->Int): Ann:=⟨λid s=>match id with
 | 3=>match s.sig.T 11 with
  | .buf nm _=>some {α:=Int,inv:=λk=>upto k n,st:=λk=>gC (put s [(14,.dat I k),(5,.buf nm (Dc n))]) nm (.buf 36 R (ca g n k) []),μ:=λk=>Dc (Dh n k)}
  | _=>none
 | 7=>match s.sig.T 6,s.sig.T 22 with
  | .dat (.int .i64) i,.buf nm _=>some {α:=Int,inv:=λk=>upto k n,st:=λk=>gC (put s [(29,.dat I k)]) nm (.buf 3 I (pM g n i k) []),μ:=λk=>Dc (Dh n k)}
  | _,_=>none
 | _=>none,λ_ _=>none,λ_ _=>none⟩
theorem Qq(b:Int->Int->Prop)(g:Int->Int->Int)(cs:LC)(ns os:LB)(h:Lo)(ls:Ll)(r:Lk)(j:
 let c12:=Ty.int .i64;let c1:=Df h;let c2:=Ep c1 (Dt Int);let c3:=Dc c1;let c4:=(cs,ns,os,h,ls,r);let c5:=Int.ofNat c3;let c6:=Ep c1 (0:Int);true/\(br c1 b->0<=c1/\(Dx 24*c1)<=281474976710656/\c1<=9223372036854775807/\Dk c2=c3/\(∃x,upto x c1/\AV.clo2 c12 c12 c12 b g=AV.clo2 (Ty.int IntKind.i64) c12 c12 b g/\c4=c4/\Value.slice none 0 0=Value.slice none 0 0/\c3=c3/\c5=c5/\0=x/\c2=ca g c1 x/\True)/\∀(x:Int),let c7:=Dk (ca g c1 x);let u:=x+1;upto x c1->(Dp x c5->0<=c1/\(Dx 8*c1)<=281474976710656/\c1<=9223372036854775807/\c7=c3/\0<=x/\x<Dx c7/\c7=c3/\Dk c6=c3/\c7=c3/\0<=x/\x<Dx c7/\c7=c3/\Dc x=Dc x/\Dk c6=c3/\(∃e,upto e c1/\AV.clo2 c12 c12 c12 b g=AV.clo2 c12 c12 c12 b g/\c4=c4/\Value.slice none 0 0=Value.slice none 0 0/\c3=c3/\x=x/\c5=c5/\x=x/\c5=c5/\0=e/\ca g c1 x=ca g c1 x/\Dc x=Dc x/\c3=c3/\c6=pM g c1 x e/\True)/\∀(e:Int),let c9:=pM g c1 x e;let f:=Dk c9;let i:=e+1;
 upto e c1->(Dp e c5->c7=c3/\0<=x/\x<Dx c7/\c7=c3/\Dc x=Dc x/\b x e/\f=c3/\0<=e/\e<Dx f/\f=c3/\inR .i64 i/\∃y,upto y c1/\(AV.clo2 c12 c12 c12 b g=AV.clo2 c12 c12 c12 b g/\c4=c4/\Value.slice none 0 0=Value.slice none 0 0/\c3=c3/\x=x/\c5=c5/\x=x/\c5=c5/\i=y/\ca g c1 x=ca g c1 x/\Dc x=Dc x/\c3=c3/\En c9 (Dc e) (g x e)=pM g c1 x y/\True)/\Dc (c1-y)<Dc (c1-e))/\(Dp e c5=false->inR .i64 u/\∃y,upto y c1/\(AV.clo2 c12 c12 c12 b g=AV.clo2 c12 c12 c12 b g/\c4=c4/\Value.slice none 0 0=Value.slice none 0 0/\c3=c3/\c5=c5/\u=y/\f=c3/\En (ca g c1 x) (Dc x) c9=ca g c1 y/\True)/\Dc (c1-y)<Dc (c1-x)))/\(Dp x c5=false->c7=c3/\ca g c1 x=aJ g c1/\True))):
  evF (mkc KQ0) (lvA [(3,[1,2,4,5,6,7,13,14,28,29]),(7,[1,2,4,5,6,7,13,14,28,29])] (aAs (Df h) g)) 75 [net cs ns os h ls r,.clo2 I I I b g] [] ⟨br (Df h) b,.dat M (aJ g (Df h)),[]⟩:=oE j
def aAr(n:Int)(g:Int->Int->Int): Ann:=⟨λid s=>match id with
 | 3=>match s.sig.T 11 with
  | .buf nm _=>some {α:=Int,inv:=λk=>upto k n,st:=λk=>gC (put s [(14,.dat I k),(5,.buf nm (Dc n))]) nm (.mat 36 3 I (ca g n k) []),μ:=λk=>Dc (Dh n k)}
  | _=>none
 | 7=>match s.sig.T 6,s.sig.T 22 with
  | .dat (.int .i64) i,.buf nm _=>some {α:=Int,inv:=λk=>upto k n,st:=λk=>gC (put s [(29,.dat I k)]) nm (.buf 3 I (pM g n i k) []),μ:=λk=>Dc (Dh n k)}
  | _,_=>none
 | _=>none,λ_ _=>none,λ_ _=>none⟩
theorem KL(b:Int->Int->Prop)(g:Int->Int->Int)(cs:LC)(ns os:LB)(i:Lo)(ls:Ll)(u:Lk)(r:
 let c13:=Ty.int .i64;let c1:=Df i;let c2:=Ep c1 (Dt Int);let c3:=Dc c1;let c4:=(cs,ns,os,i,ls,u);let c5:=Int.ofNat c3;let c6:=Ep c1 (0:Int);let c7:=aJ g c1;true/\(br c1 b->0<=c1/\(Dx 24*c1)<=281474976710656/\c1<=9223372036854775807/\Dk c2=c3/\(∃x,upto x c1/\AV.clo2 c13 c13 c13 b g=AV.clo2 (Ty.int IntKind.i64) c13 c13 b g/\c4=c4/\Value.slice none 0 0=Value.slice none 0 0/\c3=c3/\c5=c5/\0=x/\c2=ca g c1 x/\Fb (ca g c1 x)/\True)/\∀(x:Int),let f:=Dk (ca g c1 x);let c9:=x+1;upto x c1->(Dp x c5->0<=c1/\(Dx 8*c1)<=281474976710656/\c1<=9223372036854775807/\f=c3/\0<=x/\x<Dx f/\f=c3/\Dk c6=c3/\f=c3/\0<=x/\x<Dx f/\f=c3/\Dc x=Dc x/\Dk c6=c3/\(∃e,upto e c1/\AV.clo2 c13 c13 c13 b g=AV.clo2 c13 c13 c13 b g/\c4=c4/\Value.slice none 0 0=Value.slice none 0 0/\c3=c3/\x=x/\c5=c5/\x=x/\c5=c5/\0=e/\ca g c1 x=ca g c1 x/\Dc x=Dc x/\c3=c3/\c6=pM g c1 x e/\True)/\∀(e:Int),let h:=pM g c1 x e;let j:=Dk h;let c12:=e+1;
 upto e c1->(Dp e c5->f=c3/\0<=x/\x<Dx f/\f=c3/\Dc x=Dc x/\b x e/\j=c3/\0<=e/\e<Dx j/\j=c3/\inR .i64 c12/\∃y,upto y c1/\(AV.clo2 c13 c13 c13 b g=AV.clo2 c13 c13 c13 b g/\c4=c4/\Value.slice none 0 0=Value.slice none 0 0/\c3=c3/\x=x/\c5=c5/\x=x/\c5=c5/\c12=y/\ca g c1 x=ca g c1 x/\Dc x=Dc x/\c3=c3/\En h (Dc e) (g x e)=pM g c1 x y/\True)/\Dc (c1-y)<Dc (c1-e))/\(Dp e c5=false->inR .i64 c9/\∃y,upto y c1/\(AV.clo2 c13 c13 c13 b g=AV.clo2 c13 c13 c13 b g/\c4=c4/\Value.slice none 0 0=Value.slice none 0 0/\c3=c3/\c5=c5/\c9=y/\Dk h=c3/\En (ca g c1 x) (Dc x) h=ca g c1 y/\True)/\Dc (c1-y)<Dc (c1-x)))/\(Dp x c5=false->c3=Dk c7/\ca g c1 x=c7/\True))):
  evF (mkc KQ0) (lvA [(3,[1,2,4,5,6,7,13,14,28,29]),(7,[1,2,4,5,6,7,13,14,28,29])] (aAr (Df i) g)) 75 [net cs ns os i ls u,.clo2 I I I b g] [] ⟨br (Df i) b,.buf 0 (Dk (aJ g (Df i))),[(0,.mat 36 3 I (aJ g (Df i)) [])]⟩:=oE r
theorem IM(o d:Int)(b:
 true/\(aBx o d->(-1099511627776:Int)=EG o d/\True)):
  evF (mkc KQ0) az 144 [.dat I o,.dat I d] [] ⟨aBx o d,.dat I (EG o d),[]⟩:=oE b
theorem IL(e:Int)(s:Lj)(o d:Int)(f:
 let c1:=Ec e 0;let c2:=Di c1;let b:=c2->c2->c2;let c3:=Du s (Dc o) [];let c4:=Du c3 (Dc d) 0;let c5:=Ea c1 true (Eb c4 (-1099511627776));let c6:=P3 e s o d;let c7:=Fh c4;true/\(F6 e s o d->b/\b/\(c2->0<=o)/\(c2->o<Df s)/\b/\b/\b/\(c2->0<=d)/\(c2->d<Df c3)/\b/\b/\(Dj true c2->c2)/\(c5->(-1:Int)=c6/\True)/\(c5=false->0<=o/\o<Df s/\0<=d/\d<Df c3/\inR IntKind.i64 c7/\c7=c6/\True))):
  evF (mkc KQ0) az 146 [.dat I o,.dat I d,.ip I e,.ip M s] [] ⟨F6 e s o d,.dat I (P3 e s o d),[]⟩:=oE f
def LI(args:List AV)(m:Mem): Option ja:=match m,args with
 | [],[.agg [.dat (.sl (.pair (.int .i64) (.pair (.sl .bool) (.sl (.int .i64))))) cs,.dat (.sl .str) ns,.dat (.sl .str) os,.dat (.sl (.pair .str (.pair (.int .i64) (.pair (.int .i64) (.pair (.int .i64) (.pair (.int .i64) (.pair (.int .i64) (.sl .str)))))))) fs,.dat (.sl (.pair .str (.pair (.int .i64) (.pair (.int .i64) (.pair (.int .i64) (.pair (.int .i64) (.int .i64))))))) ls,.dat (.sl (.pair .str (.pair (.int .i64) (.int .i64)))) ks],.fn 144 []]=>some ⟨br (Df fs) aBx,.buf 0 (Dk (aJ EG (Df fs))),[(0,.mat 36 3 I (aJ EG (Df fs)) [])]⟩
 | [],[.agg [.dat (.sl (.pair (.int .i64) (.pair (.sl .bool) (.sl (.int .i64))))) cs,.dat (.sl .str) ns,.dat (.sl .str) os,.dat (.sl (.pair .str (.pair (.int .i64) (.pair (.int .i64) (.pair (.int .i64) (.pair (.int .i64) (.pair (.int .i64) (.sl .str)))))))) fs,.dat (.sl (.pair .str (.pair (.int .i64) (.pair (.int .i64) (.pair (.int .i64) (.pair (.int .i64) (.int .i64))))))) ls,.dat (.sl (.pair .str (.pair (.int .i64) (.int .i64)))) ks],.fn 146 [.ip (.int .i64) e,.ip (.sl (.sl (.int .i64))) s]]=>some ⟨br (Df fs) (F6 e s),.dat M (aJ (P3 e s) (Df fs)),[]⟩
 | _,_=>none
def KQ1: Kt:=kOr 75 LI <|
 kOr 72 (aw [.row N,.val I,.val I] (λ_=>True) λ(n,a,b,_)=>.dat .bool (gX n a b)) <|
 kOr 73 (aw [.row N,.val I,.val I] (λ(n,a,b,_)=>MU n a b) λ(n,a,b,_)=>.dat R (fy n a b)) KQ0
def TL(s:St): List Nat:=s.mem.filterMap λp=>match p.2 with
 | .mat _ _ _ _ _=>some p.1
 | _=>none
def Zh(n:Net)(c:Li): Ann:=⟨λid s=>match id with
 | 3=>match s.sig.T 11 with
  | .buf nm _=>some {α:=Int,inv:=λk=>NK n c k,st:=λk=>gC (put s [(15,.dat I k)]) nm (.mat 36 3 I (aU n c k) []),μ:=λk=>Dc (Dh (Df n.2.2.2.2.1) k)}
  | _=>none
 | _=>none,λid s=>match id with
 | 8=>some (frz (TL s) s)
 | 9=>some (frz (allNames s) s)
 | _=>none,λ_ _=>none⟩
theorem Ix(c:Li)(cs:LC)(ns os:LB)(h:Lo)(ls:Ll)(i:Lk)(u:
 let c1:=(cs,ns,os,h,ls,i);let c2:=Df h;let c3:=aJ EG c2;let c4:=Dk c3;let c5:=Df ls;true/\(fL c1 c->br c2 aBx/\(∃x,NK c1 c x/\c=c/\c1=c1/\Value.slice none 0 0=Value.slice none 0 0/\c4=c4/\ls=ls/\c5=c5/\0=x/\c3=aU c1 c x/\True)/\∀(x:Int),let c7:=Du c (Dc x) 0;let v:=Ec c7 (-1099511627776);let c9:=Dk (aU c1 c x);let f:=(Du ls (Dc x) (ByteArray.mk #[],(0:Int),(0:Int),(0:Int),(0:Int),(0:Int))).2;let c13:=Dc f.1;let c14:=Du (aU c1 c x) c13 [];let c15:=Dk c14;let r:=Fh c7;let g:=x+1;let j:=Dc f.2.1;let e:=jf (aU c1 c x);let b:=jg (aU c1 c x);
 NK c1 c x->(Dp x c5->0<=x/\x<c5/\1=1/\0=0/\0<=x/\x<Df c/\(v->1=1/\1=1/\0=0/\c9=c4/\0<=f.1/\f.1<Dx c9/\c9=c4/\1=1/\1=1/\0=0/\1=1/\1=1/\0=0/\c9=c4/\0<=f.1/\f.1<Dx c9/\c9=c4/\1=1/\1=1/\0=0/\c9=c4/\0<=f.2.1/\f.2.1<Dx c15/\c9=c4/\c15=c15/\0<=x/\x<Df c/\inR .i64 r/\c9=c4/\0<=f.2.1/\f.2.1<Dx c15/\c9=c4/\c15=c15/\inR .i64 g/\∃y,NK c1 c y/\(c=c/\c1=c1/\Value.slice none 0 0=Value.slice none 0 0/\c4=c4/\ls=ls/\c5=c5/\g=y/\En (aU c1 c x) c13 (En c14 j (Ez (Du c14 j 0) r))=aU c1 c y/\True)/\Dc (c5-y)<Dc (c5-x))/\(v=false->inR IntKind.i64 g/\∃y,NK c1 c y/\(c=c/\c1=c1/\Value.slice none 0 0=Value.slice none 0 0/\c4=c4/\ls=ls/\c5=c5/\g=y/\aU c1 c x=aU c1 c y/\True)/\Dc (c5-y)<Dc (c5-x)))/\(Dp x c5=false->c=c/\c1=c1/\Value.slice none 0 0=Value.slice none 0 0/\Dk (aU c1 c x)=c4/\aU c1 c x=aU c1 c x/\ls=ls/\c5=c5/\x=x/\Dp x c5=Dp x c5/\xi (aU c1 c x)/\1=1/\0=0/\1=1/\0=0/\c=c/\c1=c1/\Value.slice none 0 0=Value.slice none 0 0/\aU c1 c x=aU c1 c x/\1=1/\0=0/\e=e/\1=1/\0=0/\b=b/\ls=ls/\c5=c5/\x=x/\Dp x c5=Dp x c5/\e=e/\b=b/\aU c1 c x=aU c1 c x/\e=e/\b=b/\e=e/\b=b/\br c2 (F6 b e)/\aJ (P3 b e) c2=iw c1 c/\True))):
  evF (mkc KQ1) (lvA [(3,[1,2,4,5,6,7,8,9,13,14,15])] (Zh (cs,ns,os,h,ls,i) c)) 74 [net cs ns os h ls i,.dat R c] [] ⟨fL (cs,ns,os,h,ls,i) c,.dat M (iw (cs,ns,os,h,ls,i) c),[]⟩:=oE u
def aEA(n:Net)(c:Li)(b:Lj)(o d:Int): Ann:=⟨λid s=>match id with
 | 3=>some {α:=Int,inv:=λk=>ua n c b o d k,st:=λk=>put s [(17,.dat I k),(11,.dat I (-1))],μ:=λk=>Dc (Dh (Df n.2.2.2.2.1) k)}
 | _=>none,λ_ _=>none,λ_ _=>none⟩
theorem Xa(c:Li)(b:Lj)(o d:Int)(cs:LC)(ns os:LB)(i:Lo)(ls:Ll)(h:Lk)(v:
 let c1:=(cs,ns,os,i,ls,h);let c2:=Df ls;let c4:=Du b (Dc o) [];let c5:=uK c1 c b o d;true/\(ub c1 c b o d->(∃x,ua c1 c b o d x/\c=c/\b=b/\o=o/\d=d/\(0:Int)=(0:Int)/\(-1:Int)=(-1:Int)/\ls=ls/\c2=c2/\0=x/\True)/\∀(x:Int),let c6:=(Du ls (Dc x) (ByteArray.mk #[],(0:Int),(0:Int),(0:Int),(0:Int),(0:Int))).2;let c7:=Ec c6.1 o;let g:=Di c7;let c12:=g->g->g;let c9:=Du c (Dc x) 0;let u:=Ea c7 true (Eb c9 (-1099511627776));let e:=Di u;let c3:=e->e->e;let c13:=Du b (Dc c6.2.1) [];let c14:=Du c13 (Dc d) 0;let c15:=Ea u true (Dp c14 0);let f:=x+1;let r:=c9+c14;let j:=Eb r (Du c4 (Dc d) 0);ua c1 c b o d x->(Dp x c2->0<=x/\x<c2/\1=1/\0=0/\1=1/\1=1/\0=0/\c12/\c12/\(g->0<=x)/\(g->x<Df c)/\c12/\c12/\(Dj true g->g)/\(e->1=1)/\c3/\(e->1=1)/\(e->0=0)/\c3/\c3/\(e->0<=c6.2.1)/\(e->c6.2.1<Df b)/\c3/\c3/\c3/\(e->0<=d)/\(e->d<Df c13)/\c3/\c3/\(Dj true e->e)/\(c15->inR .i64 f/\∃y,ua c1 c b o d y/\(c=c/\b=b/\o=o/\d=d/\(0:Int)=(0:Int)/\(-1:Int)=(-1:Int)/\ls=ls/\c2=c2/\f=y/\True)/\Dc (c2-y)<Dc (c2-x))/\(c15=false->0<=x/\x<Df c/\1=1/\1=1/\0=0/\0<=c6.2.1/\c6.2.1<Df b/\0<=d/\d<Df c13/\inR IntKind.i64 r/\0<=o/\o<Df b/\0<=d/\d<Df c4/\(j->x=c5/\True)/\(j=false->inR IntKind.i64 f/\∃y,ua c1 c b o d y/\(c=c/\b=b/\o=o/\d=d/\(0:Int)=(0:Int)/\(-1:Int)=(-1:Int)/\ls=ls/\c2=c2/\f=y/\True)/\Dc (c2-y)<Dc (c2-x))))/\(Dp x c2=false->(-1:Int)=c5/\True))):
  evF (mkc KQ1) (lvA [(3,[1,2,3,4,10,11,12,13,15,16,17])] (aEA (cs,ns,os,i,ls,h) c b o d)) 77 [net cs ns os i ls h,.dat R c,.dat M b,.dat I o,.dat I d] [] ⟨ub (cs,ns,os,i,ls,h) c b o d,.dat I (uK (cs,ns,os,i,ls,h) c b o d),[]⟩:=oE v
def KQ2: Kt:=kOr 74 (aw [.row N,.val R] (λ(n,c,_)=>fL n c) λ(n,c,_)=>.dat M (iw n c)) <|
 kOr 77 (aw [.row N,.val R,.val M,.val I,.val I] (λ(n,c,b,o,d,_)=>ub n c b o d) λ(n,c,b,o,d,_)=>.dat I (uK n c b o d)) KQ1
theorem QJ(b:Lj)(c:Li)(o d:Int)(cs:LC)(ns os:LB)(f:Lo)(ls:Ll)(e:Lk)(g:
 let c6:=Eb o d;let c5:=Di c6->Di c6->Di c6;let c1:=(cs,ns,os,f,ls,e);let c2:=Du b (Dc o) [];let c3:=Ea c6 true (Dp (Du c2 (Dc d) 0) 0);let c4:=sX c1 c b o d;true/\(ub c1 c b o d->c5/\c5/\(Di c6->0<=o)/\(Di c6->o<Df b)/\c5/\c5/\c5/\(Di c6->0<=d)/\(Di c6->d<Df c2)/\c5/\c5/\(Dj true (Di c6)->Di c6)/\(c3->(-1:Int)=c4/\True)/\(c3=false->ub c1 c b o d/\uK c1 c b o d=c4/\True))):
  evF (mkc KQ2) az 76 [.dat I o,.dat I d,.ip M b,.ip N (cs,ns,os,f,ls,e),.ip R c] [] ⟨ub (cs,ns,os,f,ls,e) c b o d,.dat I (sX (cs,ns,os,f,ls,e) c b o d),[]⟩:=oE g
def KQ3: Kt:=kOr 75 (λargs m=>match m,args with
 | [],[.agg [.dat (.sl (.pair (.int .i64) (.pair (.sl .bool) (.sl (.int .i64))))) cs,.dat (.sl .str) ns,.dat (.sl .str) os,.dat (.sl (.pair .str (.pair (.int .i64) (.pair (.int .i64) (.pair (.int .i64) (.pair (.int .i64) (.pair (.int .i64) (.sl .str)))))))) fs,.dat (.sl (.pair .str (.pair (.int .i64) (.pair (.int .i64) (.pair (.int .i64) (.pair (.int .i64) (.int .i64))))))) ls,.dat (.sl (.pair .str (.pair (.int .i64) (.int .i64)))) ks],.fn 76 [.ip (.sl (.sl (.int .i64))) b,.ip (.pair (.sl (.pair (.int .i64) (.pair (.sl .bool) (.sl (.int .i64))))) (.pair (.sl .str) (.pair (.sl .str) (.pair (.sl (.pair .str (.pair (.int .i64) (.pair (.int .i64) (.pair (.int .i64) (.pair (.int .i64) (.pair (.int .i64) (.sl .str)))))))) (.pair (.sl (.pair .str (.pair (.int .i64) (.pair (.int .i64) (.pair (.int .i64) (.pair (.int .i64) (.int .i64))))))) (.sl (.pair .str (.pair (.int .i64) (.int .i64))))))))) n,.ip (.sl (.int .i64)) c]]=>some ⟨br (Df fs) (ub n c b),.dat M (aJ (sX n c b) (Df fs)),[]⟩
 | _,_=>none) KQ2
def aBl: Ann:=⟨λ_ _=>none,λid s=>match id with
 | 5=>some (frz (allNames s) s)
 | _=>none,λ_ _=>none⟩
theorem Qy(a b:Int)(cs:LC)(ns os:LB)(e:Lo)(ls:Ll)(f:Lk)(g:
 let c1:=(cs,ns,os,e,ls,f);let c2:=gX c1 a b;let c3:=Di c2;let c4:=lh c1 a b;let c5:=fy c1 a b;let c6:=iw c1 c5;let c7:=Df e;true/\(True->True/\(c3->c4=Dt (Li)/\True)/\(c3=false->MU c1 a b/\1=1/\0=0/\1=1/\0=0/\fL c1 c5/\1=1/\0=0/\cs=cs/\ns=ns/\os=os/\e=e/\ls=ls/\f=f/\a=a/\b=b/\c1=c1/\Value.slice none 0 0=Value.slice none 0 0/\1=1/\0=0/\c5=c5/\1=1/\0=0/\c6=c6/\cs=cs/\ns=ns/\os=os/\e=e/\ls=ls/\f=f/\a=a/\b=b/\c2=c2/\c3=c3/\cs=cs/\ns=ns/\os=os/\e=e/\ls=ls/\f=f/\a=a/\b=b/\c5=c5/\cs=cs/\ns=ns/\os=os/\e=e/\ls=ls/\f=f/\c5=c5/\c6=c6/\br c7 (ub c1 c5 c6)/\aJ (sX c1 c5 c6) c7=c4/\True))):
  evF (mkc KQ3) aBl 23 [net cs ns os e ls f,.dat I a,.dat I b] [] ⟨True,.dat M (lh (cs,ns,os,e,ls,f) a b),[]⟩:=oE g
theorem mX(cs:LC)(ns os:LB)(e:Lo)(ls:Ll)(b:Lk)(line:Int): ls.getD line.toNat (⟨#[]⟩,0,0,0,0,0)=aM (cs,ns,os,e,ls,b) line:=rfl
def atOk(n:Net)(l:Int): Prop:=0<=(aM n l).2.2.2.1/\(aM n l).2.2.2.1<=1439
theorem YC(cs:LC)(ns os:LB)(e:Lo)(ls:Ll)(b:Lk){line:Int}(h:Bz (cs,ns,os,e,ls,b) line): atOk (cs,ns,os,e,ls,b) line:=by
 obtain⟨_,_,_,_,_,g,f⟩:=OY cs ns os e ls b h;exact⟨g,f⟩
theorem uN{n:Net}{l b:Int}: ∀(k:Nat) (t m w:Int),0<=m->m<=86400->waitGo n l b k t m=some w->0<=w/\w<=86400
 | 0,t,m,w,g,f,h=>by rw[waitGo]at h;cases h;exact⟨g,f⟩
 | k+1,t,m,w,g,f,h=>by
  rw[waitGo]at h;split at h
  .cases e:fU n l t with
   | none=>rw[e]at h;cases h
   | some u=>
    rw[e]at h;have:=lG e;exact uN k (u+1) (rn m (u-t)) w (by unfold rn;split<;>omega) (by unfold rn;split<;>omega) h
  .cases h;exact⟨g,f⟩
theorem Zv : aj Tryz.prog G0 KQ0 := ai (ag fun (m, _) => Mp.aA6 m) aEI
theorem sn{a b:Int}: aCF a b=true↔0<=a/\a<b/\b<=2000000/\b<=a+86400:=by
 unfold aCF;simp only[qC,qE,qDe]
theorem Av{n:Net}: bg n=decide (((fa n).length:Int)=0):=by
 unfold bg;cases fa n with
 | nil=>rfl
 | cons a l=>
  symm
  show decide _=false;rw[vY,vU];omega
theorem rk{n:Net}{a b:Int}: gX n a b=true↔(0<=a/\a<b/\b<=2000000/\b<=a+86400)/\bg n=true:=by
 unfold gX;rw[qC,sn]
theorem aAB(a b:Int)(cs:LC)(ns os:LB)(f:Lo)(ls:Ll)(e:Lk): af Tryz.prog G0 72 [net cs ns os f ls e,.dat I a,.dat I b] [] ⟨True,.dat .bool (gX (cs,ns,os,f,ls,e) a b),[]⟩:=by
 refine ae (c:=mkc KQ0) Zv aK hm (WA a b cs ns os f ls e ⟨rfl,λ_=>?_⟩);simp only[qc,Dj,Es,Di,qd,Dt,Eb,Ec,Dp,Eh,Ei,Ed,Ey,Df,Et,Dl,Dn,Eo,Dy,Dw,Dh,Dq,Ee,Fh,Dc,Dx,Dk,Dz,Ej,Du,Eu,Ez,En,Ef,Fe,Fj,Fg,Ep,Em,Ew,Fb];refine⟨λh=>bu (by omega),λh=>?_,λh=>?_⟩
 .unfold gX;have:aCF a b=false:=by
   rw[<- kU,sn];omega
  rw[this];rfl
 .unfold gX;rw[sn.2 (by omega),zQ,Av];rfl
theorem jh(cs:LC)(ns os:LB)(b:Lo)(ls:Ll)(e:Lk){i:Int}(h:bg (cs,ns,os,b,ls,e)=true)(G:0<=i)(A:i<ls.length): 0<=(aM (cs,ns,os,b,ls,e) i).2.1/\(aM (cs,ns,os,b,ls,e) i).2.1<b.length/\0<=(aM (cs,ns,os,b,ls,e) i).2.2.1/\(aM (cs,ns,os,b,ls,e) i).2.2.1<b.length/\(aM (cs,ns,os,b,ls,e) i).2.1≠(aM (cs,ns,os,b,ls,e) i).2.2.1/\1<=(aM (cs,ns,os,b,ls,e) i).2.2.2.2.1/\(aM (cs,ns,os,b,ls,e) i).2.2.2.2.1<=5000:=by
 have f:=bD cs ns os b ls e h;have g:aM (cs,ns,os,b,ls,e) i∈ls:=by
  unfold aM;show ls.getD i.toNat _∈ls;rw[qA,qB (by omega),qP];exact wE _
 obtain⟨z,y,x,v,u,L,r,j⟩:=iP ((lu cs ns os b ls e f).2.2.2 _ g);exact⟨z,y,x,v,u,r,j⟩
theorem Ar(cs:LC)(ns os:LB)(e:Lo)(ls:Ll)(f:Lk){o:Int}(h:bg (cs,ns,os,e,ls,f)=true)(x:0<=o)(v:o<e.length): 0<(sQ (cs,ns,os,e,ls,f) o).2.2.2.2.1*(sQ (cs,ns,os,e,ls,f) o).2.2.2.2.2.1/\(sQ (cs,ns,os,e,ls,f) o).2.2.2.2.1*(sQ (cs,ns,os,e,ls,f) o).2.2.2.2.2.1<=960:=by
 have g:=bD cs ns os e ls f h;have j:sQ (cs,ns,os,e,ls,f) o∈e:=by
  unfold sQ;show e.getD o.toNat _∈e;rw[qA,qB (by omega),qP];exact wE _
 have gc:=(gw cs ns os e ls f g).2.2.2 _ j;unfold cQ dF dI at gc;simp only[qC,qE]at gc;obtain⟨⟨_,u,p1⟩,r,i⟩:=gc;generalize (sQ (cs,ns,os,e,ls,f) o).2.2.2.2.1=p at *;generalize (sQ (cs,ns,os,e,ls,f) o).2.2.2.2.2.1=q at *;refine⟨Int.mul_pos (by omega) (by omega),?_⟩;have:=xJ (a:=p) (b:=q) (c:=4) (d:=240) p1 i (by omega) (by omega);omega
theorem KE(cs:LC)(ns os:LB)(g:Lo)(ls:Ll)(f:Lk){i a b:Int}(h:gX (cs,ns,os,g,ls,f) a b=true)(v:0<=i)(u:i<ls.length): (qu (cs,ns,os,g,ls,f) i a b=0/\zP (cs,ns,os,g,ls,f) i a b=some (oL (cs,ns,os,g,ls,f) i a b)/\0<=oL (cs,ns,os,g,ls,f) i a b/\oL (cs,ns,os,g,ls,f) i a b<=86400)\/(qu (cs,ns,os,g,ls,f) i a b=20/\zP (cs,ns,os,g,ls,f) i a b=none):=by
 obtain⟨⟨a0,ab,z,hb⟩,x⟩:=rk.1 h;have r:ff (cs,ns,os,g,ls,f) i [a,b]=true:=by
  unfold ff dF;rw[x,gG,qC];exact⟨qW ⟨v,u⟩,by simp[db];omega⟩
 have j:nw (cs,ns,os,g,ls,f) i a b=true:=by
  unfold nw;rw[r,qW ab,qW hb];rfl
 have y:=YC cs ns os g ls f (ky cs ns os g ls f r (wU)).1;unfold qu oL;rw[if_pos j,if_pos j];cases e:zP (cs,ns,os,g,ls,f) i a b with
 | none=>exact .inr ⟨rfl,rfl⟩
 | some w=>
  have:=uN _ _ _ _ (by omega) (by omega) e;exact .inl ⟨rfl,rfl,this.1,this.2⟩
theorem JR(cs:LC)(ns os:LB)(g:Lo)(ls:Ll)(f:Lk){i a b:Int}(h:gX (cs,ns,os,g,ls,f) a b=true)(r:0<=i)(j:i<ls.length): zh (cs,ns,os,g,ls,f) a b i=fG\/(0<zh (cs,ns,os,g,ls,f) a b i/\zh (cs,ns,os,g,ls,f) a b i<=100000):=by
 obtain⟨_,u⟩:=rk.1 h;obtain⟨V,T,x,v,O,L,G⟩:=jh cs ns os g ls f u r j;obtain⟨A,z⟩:=Ar cs ns os g ls f u x v;unfold zh;rcases KE cs ns os g ls f h r j with⟨e,_,w0,y⟩ | ⟨e,_⟩
 .rw[if_pos e];right;omega
 .rw[if_neg (by omega)];exact .inl rfl
theorem jz(n:Net)(a b:Int): (fy n a b).length=n.2.2.2.2.1.length:=by simp[fy]
theorem OP(cs:LC)(ns os:LB)(f:Lo)(ls:Ll)(e:Lk)(a b:Int){i:Int}(g:0<=i)(h:i<ls.length): (fy (cs,ns,os,f,ls,e) a b).getD i.toNat 0=zh (cs,ns,os,f,ls,e) a b i:=by
 unfold fy;rw[qA,qO,vT (by show i.toNat<ls.length;omega)];simp[qR g]
theorem Ux(cs:LC)(ns os:LB)(j:Lo)(ls:Ll)(e:Lk){a b:Int}(h:gX (cs,ns,os,j,ls,e) a b=true): fL (cs,ns,os,j,ls,e) (fy (cs,ns,os,j,ls,e) a b):=by
 refine⟨(rk.1 h).2,jz _ _ _,λi r f=>?_⟩;have f:i<ls.length:=by rw[jz]at f;exact f
 rw[OP cs ns os j ls e a b r f];rcases JR cs ns os j ls e h r f with g | g
 .exact .inl g
 .right;omega
theorem tV(cs:LC)(ns os:LB)(f:Lo)(ls:Ll)(e:Lk){a b k:Int}(h:0<=k/\k<=ls.length): (f9 (cs,ns,os,f,ls,e) a b k).length=ls.length:=by
 unfold f9;rw[qF,qI,wG,jz];show min k.toNat ls.length+(ls.length-k.toNat)=ls.length;omega
theorem qk (cs : LC) (ns os : LB) (fs : Lo) (ls : Ll) (ks : Lk) {a b k v : Int} (k0 : 0 ≤ k) (k1 : k < ls.length) (hv : v = zh (cs, ns, os, fs, ls, ks) a b k) : (f9 (cs, ns, os, fs, ls, ks) a b k).set k.toNat v = f9 (cs, ns, os, fs, ls, ks) a b (k + 1) := by
  have e : (k + 1).toNat = k.toNat + 1 := by omega
  have := Mp.y6 (fy (cs, ns, os, fs, ls, ks) a b) 0 v k.toNat (by
    unfold fy
    rw [qO, vT (by show k.toNat < ls.length; omega), hv]; simp [qR k0])
  rw [jz] at this
  unfold f9; rw [e]; exact this
theorem XO(a b:Int)(cs:LC)(ns os:LB)(f:Lo)(ls:Ll)(g:Lk): af Tryz.prog G0 73 [net cs ns os f ls g,.dat I a,.dat I b] [] ⟨MU (cs,ns,os,f,ls,g) a b,.dat R (fy (cs,ns,os,f,ls,g) a b),[]⟩:=by
 refine ae (c:=mkc KQ0) Zv aK hm (Q5 a b cs ns os f ls g ⟨rfl,λj=>?_⟩);have j:gX (cs,ns,os,f,ls,g) a b=true:=j;obtain⟨_,u⟩:=rk.1 j;have G:=(nT cs ns os f ls g (bD cs ns os f ls g u)).2;simp only[qc,Dj,Es,Di,qd,Dt,Eb,Ec,Dp,Eh,Ei,Ed,Ey,Df,Et,Dl,Dn,Eo,Dy,Dw,Dh,Dq,Ee,Fh,Dc,Dx,Dk,Dz,Ej,Du,Eu,Ez,En,Ef,Fe,Fj,Fg,Ep,Em,Ew,Fb,mX cs ns os f ls g]
 have v:∀x:Int,f.getD (aM (cs,ns,os,f,ls,g) x).2.2.1.toNat (⟨#[]⟩,0,0,0,0,0,[])=sQ (cs,ns,os,f,ls,g) (aM (cs,ns,os,f,ls,g) x).2.2.1:=λ_=>rfl
 refine⟨by omega,by omega,by omega,⟨0,⟨j,by omega,by omega⟩,rfl,by simp[f9]⟩,λx A=>⟨λh=>?_,λL=>?_⟩⟩
 .obtain⟨_,i,x1⟩:=A;have r:=tV cs ns os f ls g (a:=a) (b:=b) ⟨i,x1⟩;obtain⟨l0,l1,z,y,l4,Z,X⟩:=jh cs ns os f ls g u i h;obtain⟨V,T⟩:=Ar cs ns os f ls g u z y;refine⟨i,h,λhw=>?_,λhw=>?_⟩
  .refine⟨r,i,by omega,r,bu (by omega),x+1,⟨j,by omega,(by show x+1<=(ls.length:Int);omega)⟩,⟨rfl,qk cs ns os f ls g i h ?_⟩,by omega⟩;unfold zh;rw[if_neg hw];rfl
  .rcases KE cs ns os f ls g j i h with⟨e,_,w0,O⟩ | ⟨e,_⟩
   .refine⟨z,y,bu (by omega),bu (by rw[v];omega),bu (by rw[v];omega),r,i,by omega,r,bu (by omega),x+1,⟨j,by omega,(by show x+1<=(ls.length:Int);omega)⟩,⟨rfl,qk cs ns os f ls g i h ?_⟩,by omega⟩;unfold zh;rw[if_pos e];rfl
   .exfalso;omega
 .obtain⟨_,i,x1⟩:=A;have x1:x<=ls.length:=x1;have e:x.toNat=ls.length:=by omega
  refine⟨tV cs ns os f ls g ⟨i,x1⟩,?_⟩;unfold f9;rw[e,qQ (by rw[jz];exact qJ _)];show _++List.replicate (ls.length-ls.length) 0=_;simp
theorem LQ (preT : Int → Int → Prop) (g : Int → Int → Int) (cs : LC) (ns os : LB) (fs : Lo) (ls : Ll) (ks : Lk) : af Tryz.prog G0 75 [net cs ns os fs ls ks, .clo2 I I I preT g] [] ⟨br (Df fs) preT, .dat M (aJ g (Df fs)), []⟩ := by
  refine ae (c := mkc KQ0) Zv aK hm (Qq preT g cs ns os fs ls ks ⟨rfl, fun hp => ?_⟩)
  obtain ⟨p1, p2, p3⟩ := hp
  simp only [qc, Dj, Es, Di, qd, Dt, Eb, Ec, Dp, Eh, Ei, Ed, Ey, Df, Et, Dl, Dn, Eo, Dy, Dw, Dh, Dq, Ee, Fh, Dc, Dx, Dk, Dz, Ej, Du, Eu, Ez, En, Ef, Fe, Fj, Fg, Ep, Em, Ew, Fb] at p1 p2 p3 ⊢
  have en : (fs.length : Int).toNat = fs.length := qZ _
  refine ⟨by omega, by omega, by omega, by simp, ⟨0, ⟨by omega, .inr rfl⟩, by simp, by rw [Mp.lV]; simp⟩, fun x hx => ⟨fun hlt => ?_, fun hge => ?_⟩⟩
  · have h0 := hx.1
    have hl := Mp.k9 g fs.length x hx
    rw [en] at hl
    refine ⟨by omega, by omega, by omega, hl, h0, by omega, hl, by simp, hl, h0, by omega, hl, by simp, ⟨0, ⟨by omega, .inr rfl⟩, by simp, by rw [Mp.si]; simp⟩, fun y hy => ⟨fun hlt2 => ?_, fun hge => ?_⟩⟩
    · have h2 := hy.1
      have hl2 := Mp.lW g fs.length x y hy
      rw [en] at hl2
      refine ⟨hl, h0, by omega, hl, p3 x y h0 hlt h2 hlt2, hl2, h2, by omega, hl2, bu (by omega), y + 1, ⟨by omega, .inl (by omega)⟩, ⟨rfl, ?_⟩, by omega⟩
      exact Mp.sj g fs.length x y h2 hlt2
    · have hl2 := Mp.lW g fs.length x y hy
      rw [en] at hl2
      refine ⟨bu (by omega), x + 1, ⟨by omega, .inl (by omega)⟩, ⟨rfl, hl2, ?_⟩, by omega⟩
      exact Mp.oQ g fs.length x y h0 hlt hy hge
  · have hl := Mp.k9 g fs.length x hx
    rw [en] at hl
    exact ⟨hl, Mp.sh g fs.length x hx hge⟩
theorem RF (preT : Int → Int → Prop) (g : Int → Int → Int) (cs : LC) (ns os : LB) (fs : Lo) (ls : Ll) (ks : Lk) : af Tryz.prog G0 75 [net cs ns os fs ls ks, .clo2 I I I preT g] [] ⟨br (Df fs) preT, .buf 0 (Dk (aJ g (Df fs))), [(0, .mat 36 3 I (aJ g (Df fs)) [])]⟩ := by
  refine ae (c := mkc KQ0) Zv aK hm (KL preT g cs ns os fs ls ks ⟨rfl, fun hp => ?_⟩)
  obtain ⟨p1, p2, p3⟩ := hp
  simp only [qc, Dj, Es, Di, qd, Dt, Eb, Ec, Dp, Eh, Ei, Ed, Ey, Df, Et, Dl, Dn, Eo, Dy, Dw, Dh, Dq, Ee, Fh, Dc, Dx, Dk, Dz, Ej, Du, Eu, Ez, En, Ef, Fe, Fj, Fg, Ep, Em, Ew, Fb] at p1 p2 p3 ⊢
  have en : (fs.length : Int).toNat = fs.length := qZ _
  refine ⟨by omega, by omega, by omega, by simp, ⟨0, ⟨by omega, .inr rfl⟩, by simp, by rw [Mp.lV]; simp, ?_⟩, fun x hx => ⟨fun hlt => ?_, fun hge => ?_⟩⟩
  · rw [Mp.lV]
    intro r hr
    exact kM hr
  · have h0 := hx.1
    have hl := Mp.k9 g fs.length x hx
    rw [en] at hl
    refine ⟨by omega, by omega, by omega, hl, h0, by omega, hl, by simp, hl, h0, by omega, hl, by simp, ⟨0, ⟨by omega, .inr rfl⟩, by simp, by rw [Mp.si]; simp⟩, fun y hy => ⟨fun hlt2 => ?_, fun hge => ?_⟩⟩
    · have h2 := hy.1
      have hl2 := Mp.lW g fs.length x y hy
      rw [en] at hl2
      refine ⟨hl, h0, by omega, hl, p3 x y h0 hlt h2 hlt2, hl2, h2, by omega, hl2, bu (by omega), y + 1, ⟨by omega, .inl (by omega)⟩, ⟨rfl, ?_⟩, by omega⟩
      exact Mp.sj g fs.length x y h2 hlt2
    · have hl2 := Mp.lW g fs.length x y hy
      rw [en] at hl2
      refine ⟨bu (by omega), x + 1, ⟨by omega, .inl (by omega)⟩, ⟨rfl, hl2, ?_⟩, by omega⟩
      exact Mp.oQ g fs.length x y h0 hlt hy hge
  · have e := Mp.sh g fs.length x hx hge
    refine ⟨?_, e⟩
    rw [Mp.fA, en]
theorem Mc(o d:Int): af Tryz.prog G0 144 [.dat I o,.dat I d] [] ⟨aBx o d,.dat I (EG o d),[]⟩:=
 ae (c:=mkc KQ0) Zv aK hm (IM o d ⟨rfl,λ_=>⟨rfl,trivial⟩⟩)
theorem L9(e:Int)(s:Lj)(o d:Int): af Tryz.prog G0 146 [.dat I o,.dat I d,.ip I e,.ip M s] [] ⟨F6 e s o d,.dat I (P3 e s o d),[]⟩:=by
 refine ae (c:=mkc KQ0) Zv aK hm (IL e s o d ⟨rfl,λb=>?_⟩);have g:(s.getD o.toNat []).getD d.toNat 0=at2 s o d:=rfl;simp only[qc,Dj,Es,Di,qd,Dt,Eb,Ec,Dp,Eh,Ei,Ed,Ey,Df,Et,Dl,Dn,Eo,Dy,Dw,Dh,Dq,Ee,Fh,Dc,Dx,Dk,Dz,Ej,Du,Eu,Ez,En,Ef,Fe,Fj,Fg,Ep,Em,Ew,Fb,g];refine⟨λh=>(b h).1.1,λh=>(b h).1.2.1,λh=>(b h).1.2.2.1,λh=>(b h).1.2.2.2,λh=>?_,λh=>?_⟩
 .unfold P3;rcases h with h | h
  .rw[if_neg h]
  .split
   .exact(if_pos h).symm
   .rfl
 .obtain⟨⟨u,r,j,i⟩,f⟩:=b h.1;refine⟨u,r,j,i,?_,?_⟩
  .rcases f with f | f
   .exact(h.2 f).elim
   .unfold inR;simp only;omega
  .unfold P3;rw[if_pos h.1];exact(if_neg h.2).symm
theorem fF{P:Program}{C:Ctx}{a x b:AV}{us:Lv}(h:AV.relL P C [a,x] us)(e:∀v,x.rel P C v->b.rel P C v): AV.relL P C [a,b] us:=by
 obtain⟨u,us,rfl,i,j,us,rfl,g,f⟩:=h;exact⟨_,_,rfl,i,_,_,rfl,e _ g,f⟩
theorem LH: ∀args m c,LI args m=some c->af Tryz.prog G0 75 args m c:=by
 intro args m c b;unfold LI at b;split at b
 .rename_i cs ns os j ls f;cases b;exact(RF _ _ cs ns os j ls f).args λC us i h=>fF h λv g=>jA (by kernel_rfl) rfl (λx y=>Mc x y) i g
 .rename_i cs ns os j ls f e s;cases b;exact(LQ _ _ cs ns os j ls f).args λC us i h=>fF h λv g=>jA (by kernel_rfl) rfl (λx y=>L9 e s x y) i g
 .cases b
theorem qn{g b:Int->Int->Int}{m:Nat}(h:∀i j:Int,0<=i->i<m->0<=j->j<m->g i j=b i j): aJ g m=aJ b m:=by
 unfold aJ;simp only[qZ];refine yI λi hi=>yI λj e=>?_
 have:=vF.1 hi;have:=vF.1 e;exact h _ _ (by omega) (by omega) (by omega) (by omega)
theorem J4 {g : Int → Int → Int} {m : Nat} {a b v : Int} (a0 : 0 ≤ a) (a1 : a < m) (b0 : 0 ≤ b) (b1 : b < m) :
    (aJ g m).set a.toNat (((aJ g m).getD a.toNat []).set b.toNat v) = aJ (fun o d => if o = a ∧ d = b then v else g o d) m := by
  rw [Mp.pB g m a a0 a1]
  unfold aJ
  simp only [qZ]
  refine qCz (by simp) fun i h1 h2 => ?_
  rw [vG, vI] at h2
  rw [List.getElem_set]
  by_cases e : a.toNat = i
  · rw [if_pos e]
    rw [qBa, qBp]
    refine qCz (by simp) fun j h3 h4 => ?_
    rw [vG, vI] at h4
    rw [List.getElem_set, qBa, qBp, qBa, qBp]
    have ei : (i : Int) = a := by omega
    by_cases e2 : b.toNat = j
    · rw [if_pos e2, if_pos ⟨ei, by omega⟩]
    · rw [if_neg e2, if_neg (fun q => e2 (by omega)), ei]
  · rw [if_neg e]
    rw [qBa, qBa, qBp]
    refine yI fun j hj => ?_
    rw [if_neg (fun q => e (by omega))]
theorem Rj {m : Lj} (sq : Mp.Sq m.length m) (hl : m.length ≤ 40) (h : ∀ i j : Int, 0 ≤ i → i < m.length → 0 ≤ j → j < m.length → Mp.py (at2 m i j) = true) : Mp.ax m = true := by
  unfold Mp.ax
  rw [qC, zK, zK, vY, qBs]
  refine ⟨by omega, fun r hr => ?_⟩
  obtain ⟨i, hi, rfl⟩ := List.getElem_of_mem hr
  have e : m[i] = m.getD (i : Int).toNat [] := by rw [qZ, qA, qB hi, qP]
  have hrow := sq.row i (by omega) (by omega)
  rw [e]
  unfold Mp.mE
  rw [kU, qBe, vY, Mp.pF]
  refine ⟨by omega, fun k k0 k1 => ?_⟩
  rw [hrow] at k1
  exact h i k (by omega) (by omega) k0 k1
theorem ig(ls:Ll)(c:Li)(k:Nat)(o d:Int): fR ls c (k+1) o d=if c.getD k 0≠fG/\(ls.getD k (⟨#[]⟩,0,0,0,0,0)).2.1=o/\(ls.getD k (⟨#[]⟩,0,0,0,0,0)).2.2.1=d then max (fR ls c k o d) (-(c.getD k 0))else fR ls c k o d:=rfl
theorem pY{n:Net}{c:Li}(h:fL n c)(ls:Ll)(o d:Int): ∀k:Nat,k<=c.length->fR ls c k o d=fG\/(-1000000<=fR ls c k o d/\fR ls c k o d<=-1)
 | 0,_=>.inl rfl
 | k+1,f=>by
  have b:=pY h ls o d k (by omega);have e:=h.2.2 k (by omega) (by omega);rw[qZ]at e;rw[ig];split
  .rename_i g;rcases e with e | e
   .exact(g.1 e).elim
   .right
    rcases b with b | b
    .rw[b];unfold fG;omega
    .omega
  .exact b
theorem pd (cs : LC) (ns os : LB) (fs : Lo) (ls : Ll) (ks : Lk) (c : Li) (k : Int) : Mp.Sq fs.length (aU (cs, ns, os, fs, ls, ks) c k) := Mp.t7 _ _
theorem vB (cs : LC) (ns os : LB) (fs : Lo) (ls : Ll) (ks : Lk) (c : Li) (k : Int) {o d : Int} (o0 : 0 ≤ o) (o1 : o < fs.length) (d0 : 0 ≤ d) (d1 : d < fs.length) : at2 (aU (cs, ns, os, fs, ls, ks) c k) o d = fR ls c k.toNat o d := Mp.jD _ _ o d o0 o1 d0 d1
theorem yk (cs : LC) (ns os : LB) (fs : Lo) (ls : Ll) (ks : Lk) {c : Li} {k : Int} (h : fL (cs, ns, os, fs, ls, ks) c) (k0 : 0 ≤ k) (k1 : k ≤ ls.length) : Mp.ax (aU (cs, ns, os, fs, ls, ks) c k) = true := by
  have sq := pd cs ns os fs ls ks c k
  have l12 := (gw cs ns os fs ls ks (bD cs ns os fs ls ks h.1)).1
  have hcl : c.length = ls.length := h.2.1
  refine Rj (by rw [sq.len]; exact sq) (by rw [sq.len]; omega) fun i j i0 i1 j0 j1 => ?_
  rw [sq.len] at i1 j1
  rw [vB cs ns os fs ls ks c k i0 i1 j0 j1]
  unfold Mp.py Mp.cX
  rcases pY h ls i j k.toNat (by omega) with g | g
  · rw [g]; rfl
  · simp only [yE, qC, qE]; right; omega
theorem aAY {m : Lj} (h : Mp.ax m = true) (he : jg m = 0) : jf m = Mp.cC m m.length := by
  unfold jg jf Mp.DJ at *
  rw [h] at he ⊢
  simp only [qAv] at he ⊢
  cases hb : Mp.rT m with
  | true => rw [hb] at he; simp only [qAv] at he; omega
  | false => rfl
theorem NT (cs : LC) (ns os : LB) (fs : Lo) (ls : Ll) (ks : Lk) {c : Li} (h : fL (cs, ns, os, fs, ls, ks) c) {o d : Int} (o0 : 0 ≤ o) (o1 : o < fs.length) (d0 : 0 ≤ d) (d1 : d < fs.length) : F6 (jg (jo (cs, ns, os, fs, ls, ks) c)) (jf (jo (cs, ns, os, fs, ls, ks) c)) o d := by
  intro he
  have hv : Mp.ax (jo (cs, ns, os, fs, ls, ks) c) = true := yk cs ns os fs ls ks h (by omega) (qL _)
  have sq : Mp.Sq fs.length (jo (cs, ns, os, fs, ls, ks) c) := pd cs ns os fs ls ks c _
  have l12 := (gw cs ns os fs ls ks (bD cs ns os fs ls ks h.1)).1
  rw [aAY hv he]
  have sN := Mp.rj (jo (cs, ns, os, fs, ls, ks) c) (jo (cs, ns, os, fs, ls, ks) c).length
  have b1 := Mp.lQ hv (jo (cs, ns, os, fs, ls, ks) c).length (qJ _) o d o0 (by rw [sq.len]; exact o1) d0 (by rw [sq.len]; exact d1)
  have b3 := Mp.VZ (k := (jo (cs, ns, os, fs, ls, ks) c).length) (by rw [sq.len]; omega)
  refine ⟨sN.od o0 (by rw [sq.len]; exact o1) d0 (by rw [sq.len]; exact d1), .inr ?_⟩
  omega
theorem Jv(cs:LC)(ns os:LB)(b:Lo)(ls:Ll)(e:Lk){c:Li}{k:Int}(h:fL (cs,ns,os,b,ls,e) c)(z:0<=k)(y:k<ls.length)(A:c.getD k.toNat 0≠fG):
  (aU (cs,ns,os,b,ls,e) c k).set (aM (cs,ns,os,b,ls,e) k).2.1.toNat (((aU (cs,ns,os,b,ls,e) c k).getD (aM (cs,ns,os,b,ls,e) k).2.1.toNat []).set (aM (cs,ns,os,b,ls,e) k).2.2.1.toNat (max (((aU (cs,ns,os,b,ls,e) c k).getD (aM (cs,ns,os,b,ls,e) k).2.1.toNat []).getD (aM (cs,ns,os,b,ls,e) k).2.2.1.toNat 0) (-(c.getD k.toNat 0))))=aU (cs,ns,os,b,ls,e) c (k+1):=by
 obtain⟨x,v,u,r,_⟩:=jh cs ns os b ls e h.1 z y;have L:(k+1).toNat=k.toNat+1:=by omega
 have G:=vB cs ns os b ls e c k x v u r;have f:((aU (cs,ns,os,b,ls,e) c k).getD (aM (cs,ns,os,b,ls,e) k).2.1.toNat []).getD (aM (cs,ns,os,b,ls,e) k).2.2.1.toNat 0=fR ls c k.toNat (aM (cs,ns,os,b,ls,e) k).2.1 (aM (cs,ns,os,b,ls,e) k).2.2.1:=G;rw[f];unfold aU;rw[L];show(aJ _ (b.length:Int)).set _ (((aJ _ (b.length:Int)).getD _ _).set _ _)=aJ _ (b.length:Int);rw[J4 x v u r]
 refine qn λi j V T O j1=>?_
 show _=fR ls c (k.toNat+1) i j;rw[ig];by_cases g:i=(aM (cs,ns,os,b,ls,e) k).2.1/\j=(aM (cs,ns,os,b,ls,e) k).2.2.1
 .rw[if_pos g,if_pos ⟨A,g.1.symm,g.2.symm⟩,g.1,g.2]
 .rw[if_neg g,if_neg (λq=>g ⟨q.2.1.symm,q.2.2.symm⟩)]
theorem Ju(cs:LC)(ns os:LB)(e:Lo)(ls:Ll)(b:Lk){c:Li}{k:Int}(h:0<=k)(f:c.getD k.toNat 0=fG): aU (cs,ns,os,e,ls,b) c k=aU (cs,ns,os,e,ls,b) c (k+1):=by
 have g:(k+1).toNat=k.toNat+1:=by omega
 unfold aU;rw[g];refine qn λi j v u r j1=>?_
 show _=fR ls c (k.toNat+1) i j;rw[ig,if_neg (λq=>q.1 f)]
theorem aEM: aj Tryz.prog G0 KQ1:=ai LH<|ai (ag λ((cs,ns,os,f,ls,e),a,b,_)=>aAB a b cs ns os f ls e)<|ai (ag λ((cs,ns,os,f,ls,e),a,b,_)=>XO a b cs ns os f ls e) Zv
theorem LS (c : Li) (cs : LC) (ns os : LB) (fs : Lo) (ls : Ll) (ks : Lk) : af Tryz.prog G0 74 [net cs ns os fs ls ks, .dat R c] [] ⟨fL (cs, ns, os, fs, ls, ks) c, .dat M (iw (cs, ns, os, fs, ls, ks) c), []⟩ := by
  refine ae (c := mkc KQ1) aEM aK hm (Ix c cs ns os fs ls ks ⟨rfl, fun hp => ?_⟩)
  have hno := bD cs ns os fs ls ks hp.1
  have l40 := (nT cs ns os fs ls ks hno).2
  have l12 := (gw cs ns os fs ls ks hno).1
  have hcl : c.length = ls.length := hp.2.1
  simp only [qc, Dj, Es, Di, qd, Dt, Eb, Ec, Dp, Eh, Ei, Ed, Ey, Df, Et, Dl, Dn, Eo, Dy, Dw, Dh, Dq, Ee, Fh, Dc, Dx, Dk, Dz, Ej, Du, Eu, Ez, En, Ef, Fe, Fj, Fg, Ep, Em, Ew, Fb, mX cs ns os fs ls ks]
  have en : (fs.length : Int).toNat = fs.length := qZ _
  have bl : ∀ g : Int → Int → Int, (aJ g fs.length).length = fs.length := fun g => by rw [Mp.fA, en]
  have ll : ∀ x, (aU (cs, ns, os, fs, ls, ks) c x).length = fs.length := fun x => bl _
  refine ⟨⟨by omega, by omega, fun _ _ _ _ _ _ => trivial⟩, ⟨0, ⟨hp, by omega, by omega⟩, rfl, rfl⟩, fun x hx => ⟨fun hlt => ?_, fun hge => ?_⟩⟩
  · obtain ⟨_, x0, x1⟩ := hx
    obtain ⟨l0, l1, l2, l3, _⟩ := jh cs ns os fs ls ks hp.1 x0 hlt
    have hrow := (pd cs ns os fs ls ks c x).row _ l0 l1
    have hc := hp.2.2 x x0 (by omega)
    have hx1 : x + 1 ≤ (((cs, ns, os, fs, ls, ks) : Net).2.2.2.2.1.length : Int) := (by show x + 1 ≤ (ls.length : Int); omega)
    refine ⟨x0, hlt, x0, by omega, fun hn => ?_, fun hn => ?_⟩
    · have hl : (aU (cs, ns, os, fs, ls, ks) c x).length = (aJ EG fs.length).length := by rw [ll, bl]
      have hb : (aM (cs, ns, os, fs, ls, ks) x).2.1 < ((aU (cs, ns, os, fs, ls, ks) c x).length : Int) := by rw [ll]; exact l1
      have hr : (aM (cs, ns, os, fs, ls, ks) x).2.2.1 < (((aU (cs, ns, os, fs, ls, ks) c x).getD (aM (cs, ns, os, fs, ls, ks) x).2.1.toNat []).length : Int) := by rw [hrow]; exact l3
      refine ⟨hl, l0, hb, hl, hl, l0, hb, hl, hl, l2, hr, hl, x0, by omega, ?_, hl, l2, hr, hl, bu (by omega), x + 1, ⟨hp, by omega, hx1⟩, ⟨rfl, Jv cs ns os fs ls ks hp x0 hlt hn⟩, by omega⟩
      rcases hc with hc | hc
      · exact (hn hc).elim
      · exact bu (by omega)
    · exact ⟨bu (by omega), x + 1, ⟨hp, by omega, hx1⟩, ⟨rfl, Ju cs ns os fs ls ks x0 hn⟩, by omega⟩
  · obtain ⟨_, x0, x1⟩ := hx
    have x1 : x ≤ ls.length := x1
    have e : x = ls.length := by omega
    have el : aU (cs, ns, os, fs, ls, ks) c x = jo (cs, ns, os, fs, ls, ks) c := by rw [e]; rfl
    rw [el]
    refine ⟨?_, ?_, ?_, ?_⟩
    all_goals first
      | (rw [← el, ll, bl])
      | (show List.length _ ≤ 20; rw [← el, ll]; omega)
      | exact ⟨by omega, by omega, fun i j i0 i1 j0 j1 => NT cs ns os fs ls ks hp i0 i1 j0 j1⟩
      | rfl
theorem find_range{m:Nat}{p:Nat->Bool}{i:Nat}(hi:i<m)(f:p i=true)(h:(List.range i).all (λj=>!p j)=true): (List.range m).find? p=some i:=by
 have e:m=i+(m-i-1+1):=by omega
 rw[e,List.range_add,List.find?_append];have:(List.range i).find? p=none:=by
  rw[qCk];intro x b;have:=qN.1 h x b;simpa using this
 rw[this,List.range_succ_eq_map,zH,qBj];simp[f]
theorem y5{m:Nat}{p:Nat->Bool}(h:(List.range m).all (λj=>!p j)=true): (List.range m).find? p=none:=by
 rw[qCk];intro x b;have:=qN.1 h x b;simpa using this
theorem t8{n:Net}{c:Li}{b:Lj}{o d x:Int}(f:ua n c b o d x)(x1:x<n.2.2.2.2.1.length)(h:qb n c b o d x=false): ua n c b o d (x+1):=by
 obtain⟨g,e,_,i⟩:=f;refine⟨g,by omega,by omega,?_⟩;rw[show(x+1).toNat=x.toNat+1 by omega,zU,kN,i,qAi,qR e,h];rfl
theorem vR{n:Net}{c:Li}{b:Lj}{o d i:Int}: qb n c b o d i=true↔(aM n i).2.1=o/\c.getD i.toNat 0≠fG/\0<=at2 b (aM n i).2.2.1 d/\c.getD i.toNat 0+at2 b (aM n i).2.2.1 d=at2 b o d:=by
 unfold qb;simp only[qC,qE,qDe]
theorem BK{n:Net}{c:Li}{b:Lj}{o d i:Int}(h:¬((aM n i).2.1=o/\c.getD i.toNat 0≠fG/\0<=at2 b (aM n i).2.2.1 d/\c.getD i.toNat 0+at2 b (aM n i).2.2.1 d=at2 b o d)): qb n c b o d i=false:=by
 rw[<- kU,vR];exact h
theorem aAW(c:Li)(b:Lj)(o d:Int)(cs:LC)(ns os:LB)(g:Lo)(ls:Ll)(f:Lk): af Tryz.prog G0 77 [net cs ns os g ls f,.dat R c,.dat M b,.dat I o,.dat I d] [] ⟨ub (cs,ns,os,g,ls,f) c b o d,.dat I (uK (cs,ns,os,g,ls,f) c b o d),[]⟩:=by
 refine ae (c:=mkc KQ1) aEM aK hm (Xa c b o d cs ns os g ls f ⟨rfl,λV=>?_⟩);obtain⟨z,hb,O,o1,y,d1⟩:=V;have X:=bD cs ns os g ls f z.1;have l40:=(nT cs ns os g ls f X).2;have hcl:c.length=ls.length:=z.2.1;have Z:∀i j:Int,(b.getD i.toNat []).getD j.toNat 0=at2 b i j:=λ_ _=>rfl
 simp only[qc,Dj,Es,Di,qd,Dt,Eb,Ec,Dp,Eh,Ei,Ed,Ey,Df,Et,Dl,Dn,Eo,Dy,Dw,Dh,Dq,Ee,Fh,Dc,Dx,Dk,Dz,Ej,Du,Eu,Ez,En,Ef,Fe,Fj,Fg,Ep,Em,Ew,Fb,mX cs ns os g ls f,Z];refine⟨⟨⟨z,hb,O,o1,y,d1⟩,by omega,by omega,rfl⟩,λx G=>⟨λr=>?_,λhge=>?_⟩⟩
 .obtain⟨V,v,x1,L⟩:=id G;obtain⟨l0,l1,T,l3,_⟩:=jh cs ns os g ls f z.1 v r;obtain⟨⟨i1,i2,i3,i4⟩,i5,i6⟩:=hb _ _ T l3 y d1;obtain⟨⟨j1,j2,j3,j4⟩,j5,j6⟩:=hb _ _ O o1 y d1;have u:=z.2.2 x v (by omega);have hx1:x+1<=(((cs,ns,os,g,ls,f):Net).2.2.2.2.1.length:Int):=(by show x+1<=(ls.length:Int);omega)
  refine⟨v,r,λ_=>v,λ_=>by omega,λ_=>T,λ_=>i2,λ_=>y,λ_=>i4,λh=>⟨bu (by omega),x+1,t8 G r (BK λq=>?_),rfl,by omega⟩,λh=>⟨v,by omega,T,i2,y,i4,?_,O,j2,y,j4,λh2=>?_,λh2=>⟨bu (by omega),x+1,t8 G r (BK λq=>h2 q.2.2.2),rfl,by omega⟩⟩⟩
  .rcases h with(h | h) | h
   .exact h q.1
   .exact q.2.1 h
   .omega
  .rcases u with u | u
   .exact(h.1.2 u).elim
   .unfold inR;simp only;omega
  .have A:qb (cs,ns,os,g,ls,f) c b o d x=true:=vR.2 ⟨by first | exact h.1.1 | exact qBu.1 h.1.1,h.1.2,by omega,h2⟩;unfold uK;rw[find_range (i:=x.toNat) (by show x.toNat<ls.length;omega) (by rw[qR v];exact A) L];show x=((x.toNat:Nat):Int);omega
 .obtain⟨V,v,x1,L⟩:=G;have x1:x<=ls.length:=x1;have e:x.toNat=ls.length:=by omega
  rw[e]at L;unfold uK;rw[y5 (show(List.range ((cs,ns,os,g,ls,f):Net).2.2.2.2.1.length).all _=true from L)]
theorem aFv: aj Tryz.prog G0 KQ2:=ai (ag λ((cs,ns,os,f,ls,e),c,_)=>LS c cs ns os f ls e)<|ai (ag λ((cs,ns,os,f,ls,e),c,b,o,d,_)=>aAW c b o d cs ns os f ls e) aEM
theorem XB(b:Lj)(c:Li)(o d:Int)(cs:LC)(ns os:LB)(g:Lo)(ls:Ll)(f:Lk): af Tryz.prog G0 76 [.dat I o,.dat I d,.ip M b,.ip N (cs,ns,os,g,ls,f),.ip R c] [] ⟨ub (cs,ns,os,g,ls,f) c b o d,.dat I (sX (cs,ns,os,g,ls,f) c b o d),[]⟩:=by
 refine ae (c:=mkc KQ2) aFv aK hm (QJ b c o d cs ns os g ls f ⟨rfl,λe=>?_⟩);obtain⟨⟨j1,j2,v,u⟩,y,x⟩:=e.2.1 o d e.2.2.1 e.2.2.2.1 e.2.2.2.2.1 e.2.2.2.2.2;have r:∀i j:Int,(b.getD i.toNat []).getD j.toNat 0=at2 b i j:=λ_ _=>rfl
 simp only[qc,Dj,Es,Di,qd,Dt,Eb,Ec,Dp,Eh,Ei,Ed,Ey,Df,Et,Dl,Dn,Eo,Dy,Dw,Dh,Dq,Ee,Fh,Dc,Dx,Dk,Dz,Ej,Du,Eu,Ez,En,Ef,Fe,Fj,Fg,Ep,Em,Ew,Fb,r];refine⟨λ_=>j1,λ_=>j2,λ_=>v,λ_=>u,λh=>?_,λh=>⟨e,?_⟩⟩
 .unfold sX;exact(if_pos h).symm
 .unfold sX;exact(if_neg (by omega)).symm
theorem aFu: aj Tryz.prog G0 KQ3:=ai (λargs m c e=>by
 split at e
 .rename_i cs ns os j ls f b n c;cases e;exact(LQ _ _ cs ns os j ls f).args λC us i h=>fF h λv g=>jA (by kernel_rfl) rfl (λx y=>by obtain⟨L,G,A,z,u,r⟩:=n;exact XB b c x y L G A z u r) i g
 .cases e) aFv
theorem aB9 (cs : LC) (ns os : LB) (fs : Lo) (ls : Ll) (ks : Lk) {c : Li} (h : fL (cs, ns, os, fs, ls, ks) c) : O5 (cs, ns, os, fs, ls, ks) (iw (cs, ns, os, fs, ls, ks) c) := by
  intro o d o0 o1 d0 d1
  have sq : Mp.Sq fs.length (iw (cs, ns, os, fs, ls, ks) c) := Mp.t7 _ _
  refine ⟨sq.od o0 o1 d0 d1, ?_⟩
  have ha : at2 (iw (cs, ns, os, fs, ls, ks) c) o d = P3 (jg (jo (cs, ns, os, fs, ls, ks) c)) (jf (jo (cs, ns, os, fs, ls, ks) c)) o d := Mp.jD _ _ o d o0 o1 d0 d1
  have hp := NT cs ns os fs ls ks h o0 o1 d0 d1
  rw [ha]
  unfold F6 at hp
  unfold P3
  split
  · rename_i he
    obtain ⟨_, hp⟩ := hp he
    split
    · omega
    · rcases hp with hp | hp
      · contradiction
      · omega
  · omega
theorem Xr(a b:Int)(cs:LC)(ns os:LB)(f:Lo)(ls:Ll)(e:Lk): af Tryz.prog G0 23 [net cs ns os f ls e,.dat I a,.dat I b] [] ⟨True,.dat M (lh (cs,ns,os,f,ls,e) a b),[]⟩:=by
 refine ae (c:=mkc KQ3) aFu aK hm (Qy a b cs ns os f ls e ⟨rfl,λ_=>?_⟩);simp only[qc,Dj,Es,Di,qd,Dt,Eb,Ec,Dp,Eh,Ei,Ed,Ey,Df,Et,Dl,Dn,Eo,Dy,Dw,Dh,Dq,Ee,Fh,Dc,Dx,Dk,Dz,Ej,Du,Eu,Ez,En,Ef,Fe,Fj,Fg,Ep,Em,Ew,Fb];refine⟨λh=>?_,λh=>?_⟩
 .unfold lh;rw[h];rfl
 .have g:=Ux cs ns os f ls e h;have r:=(gw cs ns os f ls e (bD cs ns os f ls e g.1)).1;refine⟨h,g,⟨by omega,by omega,λi j x v u j1=>⟨g,aB9 cs ns os f ls e g,x,v,u,j1⟩⟩,?_⟩;unfold lh;rw[h];rfl
open Go.Eng.Mp (W PW U5)
structure Ks (q:Nat) (ls:Ll) (c:Li) (B:Int->Int->Int):Prop where
 lo:∀o d:Int,0<=o->o<q->0<=d->d<q->-1<=B o d
 same:∀o:Int,0<=o->o<q->B o o=0
 step:∀(k:Nat) (l:Line),ls[k]?=some l->c.getD k 0≠fG->∀d:Int,0<=d->d<q->0<=B (lTo l) d->0<=B (bj l) d/\B (bj l) d<=c.getD k 0+B (lTo l) d
 from_:∀o d:Int,0<=o->o<q->0<=d->d<q->o≠d->0<=B o d->∃(k:Nat) (l:Line),ls[k]?=some l/\c.getD k 0≠fG/\bj l=o/\0<=B (lTo l) d/\B o d=c.getD k 0+B (lTo l) d
structure PL (q:Nat) (ls:Ll) (c:Li):Prop where
 pos:∀(k:Nat) (l:Line),ls[k]?=some l->c.getD k 0≠fG->0<c.getD k 0
 ends:∀(k:Nat) (l:Line),ls[k]?=some l->(0<=bj l/\bj l<q)/\0<=lTo l/\lTo l<q
theorem Ks.mono {q:Nat} {ls b:Ll} {c A:Li} {B G:Int->Int->Int} (h:Ks q ls c B) (v:PL q ls c) (x:Ks q b A G)
  (V:∀(k:Nat) (l:Line),ls[k]?=some l->c.getD k 0≠fG->∃(k':Nat) (g:Line),b[k']?=some g/\A.getD k' 0≠fG/\bj g=bj l/\lTo g=lTo l/\A.getD k' 0<=c.getD k 0):
  ∀(f:Nat) (o d:Int),0<=o->o<q->0<=d->d<q->0<=B o d->(B o d).toNat<=f->0<=G o d/\G o d<=B o d
 | f,o,d,j,i,z,y,hB,u=>by
  by_cases e:o=d
  .subst e;rw[h.same o j i,x.same o j i];omega
  .obtain⟨k,l,r,T,O,k4,k5⟩:=h.from_ o d j i z y e hB;have hp:=v.pos k l r T;obtain⟨_,t0,t1⟩:=v.ends k l r
   match f,u with
   | 0,u=>omega
   | f+1,u=>
    obtain⟨i1,i2⟩:=h.mono v x V f (lTo l) d t0 t1 z y k4 (by omega);obtain⟨k',g,g1,g2,Z,X,g5⟩:=V k l r T;obtain⟨L,s2⟩:=x.step k' g g1 g2 d z y (by rw[X];exact i1);rw[Z,O,X]at s2;rw[Z,O]at L;exact⟨L,by omega⟩
theorem Ks.le {q:Nat} {ls b:Ll} {c f:Li} {B g:Int->Int->Int} (h:Ks q ls c B) (u:PL q ls c) (x:Ks q b f g)
  (r:∀(k:Nat) (l:Line),ls[k]?=some l->c.getD k 0≠fG->∃(k':Nat) (e:Line),b[k']?=some e/\f.getD k' 0≠fG/\bj e=bj l/\lTo e=lTo l/\f.getD k' 0<=c.getD k 0)
  {o d:Int} (j:0<=o) (i:o<q) (z:0<=d) (y:d<q) (v:0<=B o d):0<=g o d/\g o d<=B o d:=h.mono u x r _ o d j i z y v (qJ _)
theorem NU{ls:Ll}{c:Li}{l:Line}: ∀(m k:Nat),k<m->ls[k]?=some l->c.getD k 0≠fG->-(c.getD k 0)<=fR ls c m (bj l) (lTo l)
 | m+1,k,h,b,f=>by
  rw[ig];by_cases e:k=m
  .subst e;rw[if_pos ⟨f,by rw[qA,b];rfl,by rw[qA,b];rfl⟩];omega
  .have g:=NU m k (by omega) b f;split<;>omega
theorem BF{ls:Ll}{c:Li}{o d:Int}: ∀m:Nat,m<=ls.length->fR ls c m o d=fG\/∃(k:Nat) (l:Line),ls[k]?=some l/\c.getD k 0≠fG/\bj l=o/\lTo l=d/\fR ls c m o d=-(c.getD k 0)
 | 0,_=>.inl rfl
 | m+1,hm=>by
  rw[ig];have b:ls[m]?=some (ls[m]'(by omega)):=qB _;have r:ls.getD m (⟨#[]⟩,0,0,0,0,0)=ls[m]'(by omega):=by rw[qA,b];rfl
  split
  .rename_i g;rw[r]at g;rcases BF (ls:=ls) (c:=c) (o:=o) (d:=d) m (by omega)with h | ⟨k,l,j,i,f,e,u⟩
   .by_cases q:fG<=-(c.getD m 0)
    .exact .inr ⟨m,_,b,g.1,g.2.1,g.2.2,by rw[h];omega⟩
    .left;rw[h];omega
   .by_cases q:fR ls c m o d<=-(c.getD m 0)
    .exact .inr ⟨m,_,b,g.1,g.2.1,g.2.2,by omega⟩
    .exact .inr ⟨k,l,j,i,f,e,by omega⟩
  .exact BF m (by omega)
theorem aCe {m : Lj} {p : Nat → Int} {q : Nat} (hm : ∀ i j : Int, 0 ≤ i → i < q → 0 ≤ j → j < q → at2 m i j ≤ -1) : ∀ (k : Nat) (z : Int), (∀ s, s ≤ k → Mp.In q (p s)) → PW m p k z → z ≤ -(k : Int)
  | 0, z, _, h => by have h : z ≤ 0 := h; omega
  | k + 1, z, hp, ⟨u, v, h1, h2, h3⟩ => by
    have ih := aCe hm k u (fun s hs => hp s (by omega)) h1
    have a := hp k (by omega)
    have b := hp (k + 1) (by omega)
    have := hm _ _ a.1 a.2 b.1 b.2
    have := h2.2
    omega
end Go.Eng.Sv
namespace Go.Proofs
open Go.Shelf
def Tryz.keysA_ren:Go.Shelf.Ren:=⟨fun | 7=>112 | 10=>172 | n=>n,fun | 23=>165 | 26=>3 | 3=>4 | 28=>138 | 0=>0 | 27=>137 | 33=>143 | 4=>4 | n=>n,fun | n=>n⟩
theorem Tryz.keysA:Go.Proofs.SlLaysZI.n7 Tryz.prog Tryz.keysA_ren:={
 mixed:=by kernel_rfl
 f7:=⟨Tryz.f112.name,by decide,Tryz.func112.trans (congrArg some (by kernel_rfl))⟩
 f10:=⟨Tryz.f172.name,by decide,Tryz.func172.trans (congrArg some (by kernel_rfl))⟩
 t0:=Tryz.underlying0
 a0:=Tryz.isAgg0
 z0:=Tryz.sizeOf0
 v0:=Tryz.zeroValue0
 t4:=Tryz.underlying4
 a4:=Tryz.isAgg4
 z4:=Tryz.sizeOf4
 v4:=Tryz.zeroValue4
 t23:=Tryz.underlying165
 a23:=Tryz.isAgg165
 z23:=Tryz.sizeOf165
 v23:=Tryz.zeroValue165
 t26:=Tryz.underlying3
 a26:=Tryz.isAgg3
 z26:=Tryz.sizeOf3
 v26:=Tryz.zeroValue3
 t27:=Tryz.underlying137
 a27:=Tryz.isAgg137
 z27:=Tryz.sizeOf137
 v27:=Tryz.zeroValue137
 t28:=Tryz.underlying138
 a28:=Tryz.isAgg138
 z28:=Tryz.sizeOf138
 v28:=Tryz.zeroValue138
 t33:=Tryz.underlying143
 a33:=Tryz.isAgg143
 z33:=Tryz.sizeOf143
 v33:=Tryz.zeroValue143}
def Tryz.sortedA_ren:Go.Shelf.Ren:=⟨fun | 6=>111 | 8=>170 | 9=>171 | 11=>223 | 13=>225 | 12=>224 | 23=>276 | 24=>277 | 14=>268 | 15=>269 | 16=>270 | 17=>271 | 18=>272 | 19=>273 | 20=>258 | 21=>274 | 22=>275 | 25=>291 | 26=>292 | 27=>293 | 28=>294 | 29=>295 | 30=>287 | 31=>302 | n=>n,fun | 26=>3 | 28=>138 | 24=>36 | 0=>0 | 3=>3 | 37=>228 | 48=>255 | 50=>257 | 4=>4 | 40=>249 | 39=>248 | 45=>217 | 5=>5 | 9=>9 | 51=>260 | 55=>264 | 57=>266 | 58=>153 | 33=>143 | n=>n,fun | n=>n⟩
theorem Tryz.sortedA:Go.Proofs.SlLaysZI.n6 Tryz.prog Tryz.sortedA_ren:={
 mixed:=by kernel_rfl
 f6:=⟨Tryz.f111.name,by decide,Tryz.func111.trans (congrArg some (by kernel_rfl))⟩
 f8:=⟨Tryz.f170.name,by decide,Tryz.func170.trans (congrArg some (by kernel_rfl))⟩
 f11:=⟨Tryz.f223.name,by decide,Tryz.func223.trans (congrArg some (by kernel_rfl))⟩
 t0:=Tryz.underlying0
 a0:=Tryz.isAgg0
 z0:=Tryz.sizeOf0
 v0:=Tryz.zeroValue0
 t24:=Tryz.underlying36
 a24:=Tryz.isAgg36
 z24:=Tryz.sizeOf36
 v24:=Tryz.zeroValue36
 t26:=Tryz.underlying3
 a26:=Tryz.isAgg3
 z26:=Tryz.sizeOf3
 v26:=Tryz.zeroValue3
 t28:=Tryz.underlying138
 a28:=Tryz.isAgg138
 z28:=Tryz.sizeOf138
 v28:=Tryz.zeroValue138
 i26:=by kernel_rfl}
def Tryz.sortA_ren:Go.Shelf.Ren:=⟨fun | 5=>171 | 8=>225 | 7=>224 | 19=>276 | 20=>277 | 10=>268 | 11=>269 | 12=>270 | 13=>271 | 14=>272 | 15=>273 | 16=>258 | 17=>274 | 18=>275 | 30=>291 | 31=>292 | 32=>293 | 33=>294 | 34=>295 | 35=>287 | 40=>302 | n=>n,fun | 23=>36 | 25=>3 | 3=>3 | 32=>228 | 22=>36 | 0=>0 | 44=>255 | 46=>257 | 4=>4 | 36=>249 | 35=>248 | 41=>217 | 5=>5 | 9=>9 | 53=>260 | 57=>264 | 63=>266 | 64=>153 | n=>n,fun | n=>n⟩
theorem Tryz.sortA:Go.Proofs.SlLaysM.n5 Tryz.prog Tryz.sortA_ren:={
 mixed:=by kernel_rfl
 f5:=⟨Tryz.f171.name,by decide,Tryz.func171.trans (congrArg some (by kernel_rfl))⟩
 f7:=⟨Tryz.f224.name,by decide,Tryz.func224.trans (congrArg some (by kernel_rfl))⟩
 f8:=Tryz.func225.trans (congrArg some (by kernel_rfl))
 f10:=⟨Tryz.f268.name,by decide,Tryz.func268.trans (congrArg some (by kernel_rfl))⟩
 f11:=⟨Tryz.f269.name,by decide,Tryz.func269.trans (congrArg some (by kernel_rfl))⟩
 f12:=⟨Tryz.f270.name,by decide,Tryz.func270.trans (congrArg some (by kernel_rfl))⟩
 f13:=⟨Tryz.f271.name,by decide,Tryz.func271.trans (congrArg some (by kernel_rfl))⟩
 f14:=⟨Tryz.f272.name,by decide,Tryz.func272.trans (congrArg some (by kernel_rfl))⟩
 f15:=⟨Tryz.f273.name,by decide,Tryz.func273.trans (congrArg some (by kernel_rfl))⟩
 f16:=⟨Tryz.f258.name,by decide,Tryz.func258.trans (congrArg some (by kernel_rfl))⟩
 f17:=⟨Tryz.f274.name,by decide,Tryz.func274.trans (congrArg some (by kernel_rfl))⟩
 f18:=⟨Tryz.f275.name,by decide,Tryz.func275.trans (congrArg some (by kernel_rfl))⟩
 f19:=Tryz.func276.trans (congrArg some (by kernel_rfl))
 f20:=Tryz.func277.trans (congrArg some (by kernel_rfl))
 f30:=⟨Tryz.f291.name,by decide,Tryz.func291.trans (congrArg some (by kernel_rfl))⟩
 f31:=Tryz.func292.trans (congrArg some (by kernel_rfl))
 f32:=Tryz.func293.trans (congrArg some (by kernel_rfl))
 f33:=⟨Tryz.f294.name,by decide,Tryz.func294.trans (congrArg some (by kernel_rfl))⟩
 f34:=⟨Tryz.f295.name,by decide,Tryz.func295.trans (congrArg some (by kernel_rfl))⟩
 f35:=⟨Tryz.f287.name,by decide,Tryz.func287.trans (congrArg some (by kernel_rfl))⟩
 f40:=⟨Tryz.f302.name,by decide,Tryz.func302.trans (congrArg some (by kernel_rfl))⟩
 t0:=Tryz.underlying0
 a0:=Tryz.isAgg0
 z0:=Tryz.sizeOf0
 v0:=Tryz.zeroValue0
 t3:=Tryz.underlying3
 a3:=Tryz.isAgg3
 z3:=Tryz.sizeOf3
 v3:=Tryz.zeroValue3
 t4:=Tryz.underlying4
 a4:=Tryz.isAgg4
 z4:=Tryz.sizeOf4
 v4:=Tryz.zeroValue4
 t5:=Tryz.underlying5
 a5:=Tryz.isAgg5
 z5:=Tryz.sizeOf5
 v5:=Tryz.zeroValue5
 t9:=Tryz.underlying9
 a9:=Tryz.isAgg9
 z9:=Tryz.sizeOf9
 v9:=Tryz.zeroValue9
 t22:=Tryz.underlying36
 a22:=Tryz.isAgg36
 z22:=Tryz.sizeOf36
 v22:=Tryz.zeroValue36
 t23:=Tryz.underlying36
 a23:=Tryz.isAgg36
 z23:=Tryz.sizeOf36
 v23:=Tryz.zeroValue36
 t25:=Tryz.underlying3
 a25:=Tryz.isAgg3
 z25:=Tryz.sizeOf3
 v25:=Tryz.zeroValue3
 t32:=Tryz.underlying228
 a32:=Tryz.isAgg228
 z32:=Tryz.sizeOf228
 v32:=Tryz.zeroValue228
 t35:=Tryz.underlying248
 a35:=Tryz.isAgg248
 z35:=Tryz.sizeOf248
 v35:=Tryz.zeroValue248
 t36:=Tryz.underlying249
 a36:=Tryz.isAgg249
 z36:=Tryz.sizeOf249
 v36:=Tryz.zeroValue249
 t41:=Tryz.underlying217
 a41:=Tryz.isAgg217
 z41:=Tryz.sizeOf217
 v41:=Tryz.zeroValue217
 t44:=Tryz.underlying255
 a44:=Tryz.isAgg255
 z44:=Tryz.sizeOf255
 v44:=Tryz.zeroValue255
 t46:=Tryz.underlying257
 a46:=Tryz.isAgg257
 z46:=Tryz.sizeOf257
 v46:=Tryz.zeroValue257
 t53:=Tryz.underlying260
 a53:=Tryz.isAgg260
 z53:=Tryz.sizeOf260
 v53:=Tryz.zeroValue260
 t57:=Tryz.underlying264
 a57:=Tryz.isAgg264
 z57:=Tryz.sizeOf264
 v57:=Tryz.zeroValue264
 t63:=Tryz.underlying266
 a63:=Tryz.isAgg266
 z63:=Tryz.sizeOf266
 v63:=Tryz.zeroValue266
 t64:=Tryz.underlying153
 a64:=Tryz.isAgg153
 z64:=Tryz.sizeOf153
 v64:=Tryz.zeroValue153}
open Go.RowKit Go.Maps Go.Sort Go.Shelf
attribute [local go_sem] Oper.semAt_some
abbrev CoI:={x:Int // (Lit.int .i64 x).wf=true}
def aB1(zs:List Int)(hw:∀j:Nat,(Lit.int .i64 (zs[j]?.getD 0)).wf=true)(j:Nat): CoI:=⟨zs[j]?.getD 0,hw j⟩
def mM(zs:List Int)(hw:∀j:Nat,(Lit.int .i64 (zs[j]?.getD 0)).wf=true)(o k:Nat): List CoI:=((List.range k).filter λj=>decide (j≠o)).map (aB1 zs hw)
theorem H4(zs:List Int)(hw:∀j:Nat,(Lit.int .i64 (zs[j]?.getD 0)).wf=true)(o k:Nat): (mM zs hw o k).length<=k:=by
 unfold mM;rw[List.length_map];exact Nat.le_trans (List.length_filter_le _ _) (by rw[List.length_range];exact Nat.le_refl _)
theorem H5{zs:List Int}{hw:∀j:Nat,(Lit.int .i64 (zs[j]?.getD 0)).wf=true}{o k:Nat}(h:k≠o): mM zs hw o (k+1)=mM zs hw o k++[aB1 zs hw k]:=by
 unfold mM;rw[List.range_succ,List.filter_append,List.map_append,List.filter_cons,if_pos (by simp[h])];rfl
theorem OT{zs:List Int}{hw:∀j:Nat,(Lit.int .i64 (zs[j]?.getD 0)).wf=true}{o k:Nat}(h:k=o): mM zs hw o (k+1)=mM zs hw o k:=by
 unfold mM;rw[List.range_succ,List.filter_append,List.map_append,List.filter_cons,if_neg (by simp[h])];exact List.append_nil _
theorem Zd{zs:List Int}{hw:∀j:Nat,(Lit.int .i64 (zs[j]?.getD 0)).wf=true}{o k:Nat}(h:k<zs.length)(ho:k≠o): (mM zs hw o k).length<(mM zs hw o zs.length).length:=by
 have e:zs.length=k+1+(zs.length-(k+1)):=by omega
 have:mM zs hw o (k+1) <+: mM zs hw o zs.length:=by
  have g:∀m:Nat,mM zs hw o (k+1) <+: mM zs hw o (k+1+m):=λm=>by
   unfold mM;rw[List.range_add (n:=k+1),List.filter_append,List.map_append];exact List.prefix_append _ _
  rw[e];exact g _
 have:=this.length_le;rw[H5 ho,List.length_append]at this;simp at this;omega
def uM(n₀:Nat)(W:World)(B1 B2 o:Nat)(zs:List Int): Prop:=
 B1<n₀/\B2<n₀/\W.cell? ⟨B2,0,none⟩=some (.int .i64 o)/\∃(b1 o1 n1 c1:Nat) (a2:Option Addr) (c2:Nat),W.cell? ⟨B1,2,none⟩=some (.slice (some ⟨b1,o1,none⟩) n1 c1)/\o<n1/\b1<n₀/\
  W.cell? ⟨b1,o1+o,none⟩=some (.slice a2 zs.length c2)/\(zs.length=0\/∃b2 o2,a2=some ⟨b2,o2,none⟩/\b2<n₀/\∀j,j<zs.length->W.cell? ⟨b2,o2+j,none⟩=some (.int .i64 (zs[j]?.getD 0)))
theorem uM.below {n₀:Nat} {A B:World} (h:Below n₀ A B) {B1 B2 o:Nat} {zs:List Int}:uM n₀ A B1 B2 o zs->uM n₀ B B1 B2 o zs:=by
 rintro⟨h1,h2,h3,b1,o1,n1,c1,a2,c2,h4,h5,h6,h7,h8⟩;refine⟨h1,h2,(h.cell (p:=⟨B2,0,none⟩) h2).trans h3,b1,o1,n1,c1,a2,c2,(h.cell (p:=⟨B1,2,none⟩) h1).trans h4,h5,h6,(h.cell (p:=⟨b1,o1+o,none⟩) h6).trans h7,?_⟩;rcases h8 with h8 | ⟨b2,o2,h8,h9,h10⟩
 .exact .inl h8
 .exact .inr ⟨b2,o2,h8,h9,λj hj=>(h.cell (p:=⟨b2,o2+j,none⟩) h9).trans (h10 j hj)⟩
theorem uM.mono {n₀ n₁:Nat} (h:n₀<=n₁) {W:World} {B1 B2 o:Nat} {zs:List Int}:uM n₀ W B1 B2 o zs->uM n₁ W B1 B2 o zs:=by
 rintro⟨h1,h2,h3,b1,o1,n1,c1,a2,c2,h4,h5,h6,h7,h8⟩;refine⟨by omega,by omega,h3,b1,o1,n1,c1,a2,c2,h4,h5,by omega,h7,?_⟩;rcases h8 with h8 | ⟨b2,o2,h8,h9,h10⟩
 .exact .inl h8
 .exact .inr ⟨b2,o2,h8,by omega,h10⟩
set_option maxRecDepth 100000 in
set_option maxHeartbeats 4000000 in
theorem UF(n:Nat)(hn:1<=n)(l B1 B2 o n₀:Nat)(zs:List Int)(hw:∀j:Nat,(Lit.int .i64 (zs[j]?.getD 0)).wf=true)(hreach:zs.length<=1000000)(J Jx:List CoI->World->Prop)
  (hY:∀pre x W,J pre W->pre.length<(mM zs hw o zs.length).length->YieldAt Fence.wide (n-1) Tryz.prog l #[.int .i64 x.1] W λe W' =>
   (e=.returned (.bool true)/\J (pre++[x]) W'/\Below n₀ W W')\/(e=.returned (.bool false)/\Jx (pre++[x]) W'))
  (W:World) (hR:uM n₀ W B1 B2 o zs) (h0:J [] W):
  CallsIn Fence.wide n Tryz.prog 110 #[.func (.yield l) #[] #[],.pointer (some ⟨B1,0,none⟩),.pointer (some ⟨B2,0,none⟩)] W λe W'=>(∃v,e=.returned v)/\
   ((∃ys,ys=mM zs hw o zs.length/\J ys W')\/(∃pre,True/\Jx pre W')):=by
 obtain⟨h1,h2,hO,b1,o1,n1,c1,a2,c2,hN,hon,hb1,hS,hZ⟩:=hR;refine callsIn_of_wp Tryz.func110 rfl trivial ?_ rfl;simp only[Tryz.ntmps110,List.size_toArray,List.length_cons,List.length_nil,Nat.reduceAdd,Nat.reduceSub,Array.replicate_succ,Array.replicate_zero,List.push_toArray,List.append_toArray,List.nil_append,List.cons_append];have ho63:(o:Int)<n1:=by omega
 gi_wp2
 gi_loopw [12] (λi wr=>∃k:Nat,k<=zs.length/\i=.int .i64 k/\J (mM zs hw o k) wr/\Below n₀ W wr)
  (λi _=>zs.length-(intOf i).toNat)
 case atStart=>exact⟨0,Nat.zero_le _,rfl,h0,Below.refl _ _⟩
 case round=>
  obtain⟨k,hk,rfl,hJs,hnx⟩:=hrel;by_cases hlt:k<zs.length
  .rcases hZ with hZ | ⟨b2,o2,rfl,hb2,hZ⟩
   .omega
   have hcx':wr.cell? ⟨b2,o2+k,none⟩=some (.int .i64 (zs[k]?.getD 0)):=(hnx.cell (p:=⟨b2,o2+k,none⟩) hb2).trans (hZ k hlt);have hO':wr.cell? ⟨B2,0,none⟩=some (.int .i64 o):=(hnx.cell (p:=⟨B2,0,none⟩) h2).trans hO;by_cases hko:k=o
   .subst hko
    gi_wp2
    refine⟨λ_ h=>(by cases h),?_⟩
    gi_wp2
    go_roundw
    case rel=>exact⟨k+1,by omega,by simp,by rw[OT rfl];exact hJs,hnx⟩
    case measure=>simp[intOf];omega
   .obtain⟨fn,tmps,assign,body,hy,hR⟩:=hY _ (aB1 zs hw k) wr hJs (Zd hlt hko);dsimp only[aB1]at hy;generalize hx:zs[k]?.getD 0=x at hcx' hy;have hne:((k:Int) != (o:Int))=true:=by rw[bne_iff_ne];omega
    gi_wp2
    refine hR.mono ?_;rintro e W3 (⟨rfl,hJ3,hk3⟩ | ⟨rfl,hJx3⟩)
    .gi_wp2
     go_roundw
     case rel=>exact⟨k+1,by omega,by simp,by rw[H5 hko];exact hJ3,hnx.trans hk3⟩
     case measure=>simp[intOf];omega
    .gi_wp2
     refine bodyPost_ret (results_none rfl _ _ _) rfl ?_;exact⟨⟨_,rfl⟩,.inr ⟨_,trivial,hJx3⟩⟩
  .obtain rfl:k=zs.length:=by omega
   gi_wp2
   go_end0
   exact⟨⟨_,rfl⟩,.inl ⟨_,rfl,hJs⟩⟩
theorem UE(n:Nat)(hn:1<=n)(B1 B2 o n₀:Nat)(zs:List Int)(hw:∀j:Nat,(Lit.int .i64 (zs[j]?.getD 0)).wf=true)(hreach:zs.length<=1000000)(w:World)(hn₀:n₀<=w.heap.size)(hR:uM n₀ w B1 B2 o zs):
  SeqStopsK Fence.wide n Tryz.prog 110 #[.pointer (some ⟨B1,0,none⟩),.pointer (some ⟨B2,0,none⟩)] (λx:CoI=>#[Value.int .i64 x.1]) (Below n₀) (λys=>ys=mM zs hw o zs.length) (λ_=>True) (mM zs hw o zs.length).length w:=λl J Jx W hW _ _ hY h0=>
 UF n hn l B1 B2 o n₀ zs hw hreach J Jx hY W (hR.below (hW.mono hn₀)) h0
set_option maxHeartbeats 1000000 in
theorem Zc(n:Nat)(x:Int)(w:World): CallsIn Fence.wide n Tryz.prog 114 #[.int .i64 x] w λe w'=>e=.returned (.bool (x != -1))/\w'=w:=by
 refine callsIn_of_wp Tryz.func114 rfl trivial ?_ rfl;simp only[Tryz.ntmps114,List.size_toArray,List.length_cons,List.length_nil,Nat.reduceAdd,Nat.reduceSub,Array.replicate_succ,Array.replicate_zero,List.push_toArray,List.append_toArray,List.nil_append,List.cons_append]
 gi_wp2
 go_ret
 exact⟨rfl,rfl⟩
theorem cell_of_box_c{W:World}{B:Nat}{v:Value}{t:TypeId}(h:W.heap[B]?=some (.cells #[v] t (0,0))): W.cell? ⟨B,0,none⟩=some v/\W.frozen? ⟨B,0,none⟩=false:=by
 constructor<;>simp[World.cell?,World.frozen?,h]
theorem cell_new_c(W:World)(v:Value)(t:TypeId): (W.alloc (.cells #[v] t)).cell? ⟨W.heap.size,0,none⟩=some v/\(W.alloc (.cells #[v] t)).frozen? ⟨W.heap.size,0,none⟩=false:=
 cell_of_box_c (World.alloc_heap_new W _)
theorem cell_alloc_c{W:World}{a:Addr}{v:Value}(o:Obj)(h:W.cell? a=some v): (W.alloc o).cell? a=some v:=cell_kept h (World.grownBy_alloc W o none) (λr e=>by cases e)
def coD(xs:List CoI): DataW Unit:=xs.foldl (λD x=>if x.1=-1 then D else D.put (.int .i64 x.1) (.lit (.bool true))) (.map [])
theorem H6(pre:List CoI)(x:CoI): coD (pre++[x])=if x.1=-1 then coD pre else(coD pre).put (.int .i64 x.1) (.lit (.bool true)):=by simp[coD]
set_option maxRecDepth 100000 in
set_option maxHeartbeats 4000000 in
theorem JY(n:Nat)(hn:3<=n)(B1 B2 o:Nat)(zs:List Int)(hw:∀j:Nat,(Lit.int .i64 (zs[j]?.getD 0)).wf=true)(hreach:zs.length<=1000000)(w:World)(hR:uM w.heap.size w B1 B2 o zs):
  CallsIn Fence.wide n Tryz.prog 113 #[.func (.func 110) #[] #[.pointer (some ⟨B1,0,none⟩),.pointer (some ⟨B2,0,none⟩)],.func (.func 114) #[] #[]] w λe W'=>e=.returned (.map (some (w.heap.size+1)))/\
   W'.ownsMap Tryz.prog 3 (plainElem (H:=Unit) Tryz.prog 4) (w.heap.size+1) (mM zs hw o zs.length).length (coD (mM zs hw o zs.length))/\Below w.heap.size w W':=by
 have h1:1<=n:=by omega
 have hmm:=@run_makeMap Tryz.prog;refine callsIn_of_wp_marks Tryz.func113 rfl trivial ?_ rfl;simp only[Tryz.ntmps113,List.size_toArray,List.length_cons,List.length_nil,Nat.reduceAdd,Nat.reduceSub,Array.replicate_succ,Array.replicate_zero,List.push_toArray,List.append_toArray,List.nil_append,List.cons_append]
 gi_wp2
 have cG:=cell_new_c w (.func (.func 114) #[] #[]) 143;have hm0:=World.ownsMap_made (w.alloc (.cells #[.func (.func 114) #[] #[]] 143)) Tryz.prog 3 (plainElem (H:=Unit) Tryz.prog 4);have cS:=cell_new_c ((w.alloc (.cells #[.func (.func 114) #[] #[]] 143)).alloc (.map #[] 0)) (.map (some (w.heap.size+1))) 165;simp only[World.size_alloc]at cS hm0
 have hB0:Below w.heap.size w (((w.alloc (.cells #[.func (.func 114) #[] #[]] 143)).alloc (.map #[] 0)).alloc (.cells #[.map (some (w.heap.size+1))] 165)):=(((Below.refl _ w).alloc (Nat.le_refl _) _).alloc (by simp) _).alloc (by simp;omega) _
 refine wpIn_rangeFunc_ownG rfl h1 (gf:=110) (lb:=#[.pointer (some ⟨B1,0,none⟩),.pointer (some ⟨B2,0,none⟩)]) rfl trivial (enters_of Tryz.func110 (by kernel_rfl) rfl)
  (UE (n-1) (by omega) B1 B2 o w.heap.size zs hw hreach _ (by simp;omega) (hR.below hB0)) belowK_t (belowK_b (by simp;omega)) (Below.refl _ _) (λ_=>rfl)
  (λpre W=>(W.cell? ⟨w.heap.size,0,none⟩=some (.func (.func 114) #[] #[])/\W.cell? ⟨w.heap.size+1+1,0,none⟩=some (.map (some (w.heap.size+1)))/\W.ownsMap Tryz.prog 3 (plainElem (H:=Unit) Tryz.prog 4) (w.heap.size+1) pre.length (coD pre))/\Below w.heap.size w W)
  (λ_ _ _=>False)
  (OwnFrom.and (λs A B row hs hg hr=>⟨cell_kept hs.1 hg (λr e=>(hr r e).2),cell_kept hs.2.1 hg (λr e=>(hr r e).2),hs.2.2.kept hg (λe=>by have:=(hr _ e.symm).1;simp at this;omega)⟩) (ownFrom_below (Nat.le_refl _) (by simp;omega)))
  (λ_ _ _ _ _ hs _ _=>hs)
  ⟨⟨cell_alloc_c _ (cell_alloc_c _ cG.1),cS.1,hm0.alloc _⟩,hB0⟩
  (λx=>{tmps:=#[.func (.func 110) #[] #[.pointer (some ⟨B1,0,none⟩),.pointer (some ⟨B2,0,none⟩)],.func (.func 114) #[] #[],undef,.pointer (some ⟨w.heap.size,0,none⟩),.map none,.pointer (some ⟨w.heap.size+1+1,0,none⟩),.int .i64 x.1,.map (some (w.heap.size+1)),.func (.func 110) #[] #[.pointer (some ⟨B1,0,none⟩),.pointer (some ⟨B2,0,none⟩)],.int .i64 x.1,undef,undef,undef,undef,undef,undef],defers:=[]}) ?assign ?body ?done ?stop
 case assign=>
  intro l x W K hK
  gi_wp2
  exact hK
 case body=>
  rintro l pre x W ⟨⟨hg,hc,hown⟩,hB⟩ hlt;have hlen:=H4 zs hw o zs.length;have hmax:pre.length<maxLen:=by unfold maxLen;omega
  gi_wp2
  refine⟨trivial,λ_=>by omega,(CallsIn.inRound l (Zc _ x.1 _)).mono ?_⟩;rintro e w' ⟨rfl,rfl⟩
  gi_wp2_with (gi_at_mapUpdate;refine wpListIn_mapUpdate_own _ rfl _ _ _ 165 rfl 3 4 (Maps.int_keyed Tryz.underlying3) Tryz.underlying165 _ (w.heap.size+1) pre.length _ rfl hown hmax _ _ _ rfl rfl (Maps.keyOf_int_mk Tryz.underlying3 x.2) _ [] (plainElem_bool Tryz.underlying4 true) ?_;intro w1 hown1 hgrow1)
  .have hx:x.1≠-1:=by rename_i h;simpa using h
   obtain⟨es,ck,hh,_⟩:=hown;refine⟨KeepsFrom.of_grownBy hgrow1 (λj e=>by cases e;simp),(Below.refl _ _).grown hgrow1 hB.size (λk e=>by cases e;omega),
    ⟨cell_kept hg hgrow1 (λr e=>by cases e;exact⟨_,hh,rfl⟩),cell_kept hc hgrow1 (λr e=>by cases e;exact⟨_,hh,rfl⟩),by rw[H6,if_neg hx,List.length_append];exact hown1⟩,hB.grown hgrow1 hB.size (λk e=>by cases e;omega)⟩
  .have hx:x.1=-1:=by rename_i h;simpa using h
   exact⟨KeepsFrom.refl _ _,Below.refl _ _,⟨hg,hc,by rw[H6,if_pos hx,List.length_append];exact hown.mono (Nat.le_add_right _ _)⟩,hB⟩
 case done=>
  rintro D ys W hD rfl ⟨⟨hg,hc,hown⟩,hB⟩ hK
  gi_wp2
  refine⟨by simp,.inl ⟨_,_,rfl,run_takeDeferred hK,?_⟩⟩;exact⟨_,results_tmp rfl _ _ _,rfl,hown.kept (grownBy_putObj' _ D _) (λe=>by cases e;simp at hD;omega),hB.trans (belowK_b (w:=w) (Nat.le_refl _) W D _ _ (by simp at hD;omega) hK rfl rfl)⟩
 case stop=>
  rintro D c pre W _ _ h _;exact h.elim
theorem Tryz.sortsA (m:Nat):AnyZI.SortsIn Tryz.prog Tryz.sortedA_ren Fence.wide m:=
 ⟨λblk off cap ss W hH hblk hsz=>callsIn_wide.2 (AnyM.slices_Sort_int Tryz.sortA blk off cap ss W hH hblk hsz),
  λp cap W=>callsIn_wide.2 (AnyM.slices_Sort_int_none Tryz.sortA p cap W)⟩
theorem FY{y:Int}: ∀(xs:List CoI) (D:DataW Unit),IsMap D->(has (xs.foldl (λD x=>if x.1=-1 then D else D.put (.int .i64 x.1) (.lit (.bool true))) D) (.int .i64 y)=true↔has D (.int .i64 y)=true\/(y≠-1/\y∈xs.map Subtype.val))
 | [],D,_=>by simp
 | x::xs,D,hD=>by
  rw[List.foldl_cons];by_cases hx:x.1=-1
  .rw[if_pos hx,FY xs D hD,List.map_cons,List.mem_cons,hx];constructor
   .rintro(h | ⟨h,g⟩)
    .exact .inl h
    .exact .inr ⟨h,.inr g⟩
   .rintro(h | ⟨h,g | g⟩)
    .exact .inl h
    .exact absurd g h
    .exact .inr ⟨h,g⟩
  .rw[if_neg hx,FY xs _ (hD.put _ _),List.map_cons,List.mem_cons];by_cases hy:y=x.1
   .subst hy;rw[has_put_same hD (by simp[WideAt.IsKeyLit])];exact⟨λ_=>.inr ⟨hx,.inl rfl⟩,λ_=>.inl rfl⟩
   .rw[has_put_other (by simpa using hy)];constructor
    .rintro(h | ⟨h,g⟩)
     .exact .inl h
     .exact .inr ⟨h,.inr g⟩
    .rintro(h | ⟨h,g | g⟩)
     .exact .inl h
     .exact absurd g hy
     .exact .inr ⟨h,g⟩
set_option maxRecDepth 100000 in
set_option maxHeartbeats 4000000 in
theorem UG(cs:Array Value)(o:Nat)(zs:List Int)(hw:∀j:Nat,(Lit.int .i64 (zs[j]?.getD 0)).wf=true)(hreach:zs.length<=1000000)(gs:List Int)(hgs:gs.Pairwise (· < ·))(hmem:∀y,y∈gs↔y≠-1/\y∈(mM zs hw o zs.length).map Subtype.val)(w:World)
  (hR:∀w1,w1=(w.alloc (.cells cs 35)).alloc (.cells #[.int .i64 o] 3)->uM w1.heap.size w1 w.heap.size (w.heap.size+1) o zs):
  Calls Tryz.prog 45 #[.agg cs,.int .i64 o] w λe w'=>∃(v:Value),e=.returned v/\
   w'.ownsRow w.heap.size 3 1 v gs.length (gs.map encZ)/\(v=.slice none 0 0↔gs=[])/\Below w.heap.size w w':=by
 refine(callsIn_wide (n:=6)).1 ?_;refine callsIn_of_wp Tryz.func45 rfl trivial ?_ rfl;simp only[Tryz.ntmps45,List.size_toArray,List.length_cons,List.length_nil,Nat.reduceAdd,Nat.reduceSub,Array.replicate_succ,Array.replicate_zero,List.push_toArray,List.append_toArray,List.nil_append,List.cons_append]
 gi_wp2
 obtain⟨w1,hw1⟩:∃w1,(w.alloc (.cells cs 35)).alloc (.cells #[.int .i64 o] 3)=w1:=⟨_,rfl⟩;have hR:=hR w1 hw1.symm;have hs1:w1.heap.size=w.heap.size+1+1:=by rw[<- hw1];simp
 have hB1:Below w.heap.size w w1:=by rw[<- hw1];exact((Below.refl _ w).alloc (Nat.le_refl _) _).alloc (by simp) _
 rw[hw1];refine⟨trivial,(JY 5 (by omega) w.heap.size (w.heap.size+1) o zs hw hreach w1 hR).mono ?_⟩;rintro e w2 ⟨rfl,hown,hB2⟩;rw[hs1]at hB2 hown;have hcl:=H4 zs hw o zs.length;have hmax:Maps.size (coD (mM zs hw o zs.length))<=maxLen:=Nat.le_trans hown.size_le (by unfold maxLen;omega)
 have hbytes:Maps.size (coD (mM zs hw o zs.length))*8<=140737488355328:=Nat.le_trans (Nat.mul_le_mul_right 8 hown.size_le) (by omega);have hbl:=hown.lt;have hseq:SeqGives Fence.wide 2 Tryz.prog 172 #[.pointer (some ⟨w2.heap.size,0,none⟩)] encZ (λss=>ss.Perm (intKeys (coD (mM zs hw o zs.length)))) (Maps.size (coD (mM zs hw o zs.length))) (w2.alloc (.cells #[.map (some (w.heap.size+1+1+1))] 165)):=
  AnyZI.keys_gives (ρ:=Tryz.keysA_ren) {Tryz.keysA with} Fence.wide _ trivial rfl (by omega) w2.heap.size (w.heap.size+1+1+1) (mM zs hw o zs.length).length (coD (mM zs hw o zs.length)) _ (by simp) (by simp) (by
   obtain⟨es,clock,hb,Ft,hs,hD⟩:=hown;exact⟨es,clock,(Below.heap_alloc _ _ _ hbl).trans hb,Ft,hs,hD⟩)
 have cK:∀mb W,CallsIn Fence.wide 5 Tryz.prog 112 #[.map mb] W λe w'=>e=.returned (.func (.func 172) #[] #[.pointer (some ⟨W.heap.size,0,none⟩)])/\w'=W.alloc (.cells #[.map mb] 165):=λmb W=>AnyZI.keys_in Tryz.keysA Fence.wide 5 trivial rfl mb W
 have cS:=AnyZI.sorted_in Tryz.sortedA Fence.wide 5 trivial trivial trivial trivial rfl (by omega) (Tryz.sortsA _) (enters_of Tryz.func171 (by kernel_rfl) rfl) 172 #[.pointer (some ⟨w2.heap.size,0,none⟩)] trivial (enters_of Tryz.func172 (by kernel_rfl) rfl) _ _ hmax hbytes _ hseq
 change CallsIn _ _ Tryz.prog 111 _ _ _ at cS
 have hfK:Fence.wide.fn 112:=trivial;have hfS:Fence.wide.fn 111:=trivial
 gi_wp2_with (first
  | (gi_at_call 112;refine(cK _ _).mono ?_;rintro e w' ⟨rfl,rfl⟩)
  | (gi_at_call 111;refine cS.mono ?_;rintro e w' ⟨v,ss,rfl,hS,hrow,hnil,hb⟩))
 go_ret
 have hP:gs.Perm (intKeys (coD (mM zs hw o zs.length))):=CollectedI.perm (left:=λ_=>false) ⟨hgs.imp (λh=>Int.ne_of_lt h),λx=>by
  rw[hmem x];unfold coD;rw[FY _ _ isMap_empty];exact⟨λh=>⟨.inr h,rfl⟩,λ⟨h,_⟩=>h.resolve_left (by simp[has_eq])⟩⟩ hown (Maps.int_keyed Tryz.underlying3) Tryz.underlying3 (λ_=>rfl)
 have hP:gs.Perm ss:=hP.trans hS.symm;have hM:ss.mergeSort (λx y=>decide (x<=y))=gs:=(mergeSort_of_perm_i hP.symm).trans (List.mergeSort_of_pairwise (hgs.imp (λh=>decide_eq_true (Int.le_of_lt h))));rw[hM]at hrow;have hl:=hP.length_eq;rw[<- hl]at hrow;have hB3:Below w.heap.size w w2:=hB1.trans (hB2.mono (by omega));have hs2:=hB3.size
 refine⟨v,rfl,ownsRow_base_a hrow (by simp;omega),hnil.trans ⟨λh=>(by subst h;exact hP.eq_nil),λh=>(by subst h;exact hP.symm.eq_nil)⟩,(hB3.alloc (by omega) _).trans (hb.mono (by simp;omega))⟩
end Go.Proofs
namespace Go.Eng.In
open Go.Proofs
abbrev I: Ty:=.int .i64
abbrev B: Ty:=.sl .bool
abbrev R: Ty:=.sl I
abbrev M: Ty:=.sl R
abbrev LC: Type:=List (Int×List Bool×Li)
abbrev LB: Type:=List ByteArray
abbrev C: Ty:=.pair I (.pair B R)
abbrev S: Ty:=.str
abbrev cY(t:TypeId)(e:Int): Value:=.iface t (.int .i64 e)
def big(x:Int): Prop:=-1000000000000<=x/\x<=1000000000000
def btw(x a b:Int): Bool:=decide (a<=x/\x<=b)
def aX(z t:Int): Int:=(t+z)/1440
def cD(z t:Int): Int:=(t+z)%1440
def vw(z d m:Int): Int:=d*1440+m-z
def wkF(w:List Bool)(h:Li)(d:Int): Bool:=w.getD (d%7).toNat false&&!h.contains d
def J5(h:Li)(d:Int): Int:=((h.filter λx=>decide (x<d)).length:Int)
def srt(h:Li): Prop:=h.length<=1000000/\∀i j:Nat,i<j->j<h.length->h.getD i 0<h.getD j 0
def J6(h:Li)(d i j:Int): Prop:=0<=i/\i<=j/\j<=h.length/\(∀k:Nat,(k:Int)<i->h.getD k 0<d)/\∀k:Nat,j<=k->k<h.length->d<=h.getD k 0
def CG(h:Li)(d:Int): Bool:=h.contains d
def dG(z:Int)(w:List Bool)(h:Li): Bool:=decide (-720<=z/\z<=840/\w.length=7/\h.length<=40)&&(List.range (h.length-1)).all λi=>decide (h.getD i 0<h.getD (i+1) 0)
def yq(h:Li)(k:Int): Prop:=1<=k/\(k<=h.length\/k=1)/\h.length<=40/\∀i:Nat,(i:Int)+1<k->h.getD i 0<h.getD (i+1) 0
def wkP(w:List Bool)(h:Li)(d:Int): Prop:=w.length=7/\srt h/\big d
def gk(w:List Bool)(h:Li)(a b:Int): Li:=((List.range (b+1-a).toNat).map λ(i:Nat)=>a+(i:Int)).filter λd=>wkF w h d
def fM(w:List Bool)(h:Li)(a d:Int): Nat:=(((List.range (d-a).toNat).map λ(i:Nat)=>a+(i:Int)).filter λd=>wkF w h d).length
def wdP(w:List Bool)(h:Li)(a b:Int): Prop:=w.length=7/\srt h/\big a/\big b
def ZH(a b d:Int): Prop:=a<=d/\(d<=b+1\/d=a)
def bJ(xs:Li): Bool:=decide (0<xs.length)
def hd(xs:Li): Int:=xs.getD 0 0
def tl(xs:Li): Li:=xs.drop 1
def Wc: Kt:=λf args m=>none
def dK: List (Nat×AV):=[]
def KI0: FuncId->List AV->Option iV:=λ_ _=>none
noncomputable def mkc(K:Kt): Cfg:=⟨Tryz.prog,dK,K,λ_=>false,KI0,false,λ_ _ _=>none,λ_=>false⟩
noncomputable def Jk(K:Kt)(mb:Tmp->Bool)(KP:KPt)(pf:FuncId->Bool): Cfg:=⟨Tryz.prog,dK,K,mb,KI0,false,KP,pf⟩
def fx(s:St): St:={s with tm:=s.tm.map aAp}
def Rk(h:Li): Ann:=⟨λid s=>match id with
 | 4=>some {α:=Int,inv:=λk=>yq h k,st:=λk=>put s [(3,.dat I k)],μ:=λk=>Dc (Dh (Df h) k)}
 | _=>none,λ_ _=>none,λ_ _=>none⟩
def bsA(h:Li)(d:Int): Ann:=⟨λid s=>match id with
 | 3=>some {α:=Int×Int,inv:=λk=>J6 h d k.1 k.2,st:=λk=>put s [(7,.dat I k.1),(8,.dat I k.2)],μ:=λk=>Dc (Dh k.2 k.1)}
 | _=>none,λ_ _=>none,λ_ _=>none⟩
theorem aAn(x a b:Int)(e:
 let c1:=Ed x a->Ed x a->Ed x a;true/\(True->c1/\c1/\(Dj true (Ed x a)->Ed x a)/\Ea (Ed x a) (Ei x b) false=btw x a b/\True)):
  evF (mkc Wc) az 148 [.dat I x,.dat I a,.dat I b] [] ⟨True,.dat .bool (btw x a b),[]⟩:=oE e
theorem WM(x:Int)(b:
 true/\(True->Ec x x=false/\True)):
  evF (mkc Wc) az 290 [.dat I x] [] ⟨True,.dat .bool false,[]⟩:=oE b
theorem WL(x:Int)(b:
 true/\(True->Ec x x=false/\True)):
  evF (mkc Wc) az 287 [.dat I x] [] ⟨True,.dat .bool false,[]⟩:=oE b
def aC4: Kt:=kOr 148 (aw [.val I,.val I,.val I] (λ_=>True) λ(x,a,b,_)=>.dat .bool (btw x a b)) <|
 kOr 290 (aw [.val I] (λ_=>True) λ_=>.dat .bool false) <|
 kOr 287 (aw [.val I] (λ_=>True) λ_=>.dat .bool false) Wc
theorem KX(x y:Int)(b:
 let c3:=false->false->false;let c1:=Ea false (Di false) false;let c2:=Di c1;true/\(True->True/\c3/\(false->True)/\c3/\(Dj true false->false)/\(c2->c2->c2)/\(c2->c2->c2)/\(Dj true c2->c2)/\Ea c1 true (Dp x y)=Dp x y/\True)):
  evF (mkc aC4) az 258 [.dat I x,.dat I y] [] ⟨True,.dat .bool (Dp x y),[]⟩:=oE b
def aC3: Kt:=kOr 258 (aw [.val I,.val I] (λ_=>True) λ(x,y,_)=>.dat .bool (Dp x y)) aC4
theorem aDg(h:Li)(d:Int)(e:
 true/\(srt h->(∃(x:Int×Int),J6 h d x.1 x.2/\h=h/\d=d/\(0:Int)=(0:Int)/\false=false/\Df h=Df h/\0=x.1/\Df h=x.2/\True)/\∀(x:Int×Int),let c1:=Dp x.1 x.2;let c2:=x.1+x.2;let c3:=Gi c2 1;let c4:=Dp (Du h (Dc c3) 0) d;let c5:=c3+1;let aN:=Dp x.1 (Df h);let c7:=Eb (Du h (Dc x.1) 0) d;let b:=Dj aN (Di c7);J6 h d x.1 x.2->(c1->inR .i64 c2/\inR IntKind.u64 c2/\Dl 0 1/\Dc 1<=64/\inR .i64 c3/\0<=c3/\c3<Df h/\True/\(c4->inR .i64 c5/\∃(y:Int×Int),J6 h d y.1 y.2/\(h=h/\d=d/\(0:Int)=(0:Int)/\false=false/\Df h=Df h/\c5=y.1/\x.2=y.2/\True)/\Dc (y.2-y.1)<Dc (x.2-x.1))/\(c4=false->∃(y:Int×Int),J6 h d y.1 y.2/\(h=h/\d=d/\(0:Int)=(0:Int)/\false=false/\Df h=Df h/\x.1=y.1/\c3=y.2/\True)/\Dc (y.2-y.1)<Dc (x.2-x.1)))/\(c1=false->(aN->aN->aN)/\(aN->aN->aN)/\(aN->0<=x.1)/\(aN->x.1<Df h)/\(aN->aN->aN)/\(aN->aN->aN)/\(aN->aN->aN)/\(aN->aN->aN)/\(b->b->b)/\(b->b->b)/\(b->0<=x.1)/\(b->x.1<Df h)/\(b->b->b)/\(b->b->b)/\(b->True)/\(b->b->b)/\(Dj b false->Dj b false->Dj b false)/\(Dj b false->True)/\(b->b->b)/\(b->Dj b false->Dj b false)/\(aN->aN->aN)/\(aN->b->b)/\(Dj true aN->aN)/\x.1=J5 h d/\Ea aN (Ea c7 true (Ea false false false)) false=CG h d/\True))):
  evF (mkc aC3) (lvA [(3,[0,1,4,5,6,7,8,9])] (bsA h d)) 264 [.dat R h,.dat I d] [] ⟨srt h,.tup [.dat I (J5 h d),.dat .bool (CG h d)],[]⟩:=oE e
def C6: Kt:=kOr 264 (aw [.val R,.val I] (λ(h,_,_)=>srt h) λ(h,d,_)=>.tup [.dat I (J5 h d),.dat .bool (CG h d)]) aC3
theorem Qf(z d:Int)(w:List Bool)(h:Li)(b:
 let c1:=Fq d 7+7;let c2:=Fq c1 7;let c3:=Di (Du w (Dc c2) false);true/\(wkP w h d->Eo 7 0/\inR .i64 c1/\Eo 7 0/\0<=c2/\c2<Df w/\(c3->false=wkF w h d/\True)/\(c3=false->srt h/\Di (CG h d)=wkF w h d/\True))):
  evF (mkc C6) az 220 [.ip C (z,w,h),.dat I d] [] ⟨wkP w h d,.dat .bool (wkF w h d),[]⟩:=oE b
theorem ID(z t:Int)(w:List Bool)(h:Li)(b:
 let c1:=Fq (t+z) 1440+1440;let c2:=Fq c1 1440;let c3:=(t+z)-c2;let c4:=Gg c3 1440;true/\(big z/\big t->inR .i64 (t+z)/\Eo 1440 0/\inR .i64 c1/\Eo 1440 0/\inR .i64 c3/\Eo 1440 0/\inR .i64 c4/\c4=aX z t/\c2=cD z t/\True)):
  evF (mkc C6) az 158 [.ip C (z,w,h),.dat I t] [] ⟨big z/\big t,.tup [.dat I (aX z t),.dat I (cD z t)],[]⟩:=oE b
theorem wD(z d m:Int)(w:List Bool)(h:Li)(b:
 let c1:=d*1440;let c2:=c1+m;let c3:=c2-z;true/\(big z/\big d/\big m->inR .i64 c1/\inR .i64 c2/\inR .i64 c3/\c3=vw z d m/\True)):
  evF (mkc C6) az 154 [.ip C (z,w,h),.dat I d,.dat I m] [] ⟨big z/\big d/\big m,.dat I (vw z d m),[]⟩:=oE b
theorem aDd(z:Int)(w:List Bool)(h:Li)(g:
 let c1:=Di (btw z (-720) 840);let c2:=Di c1;let c6:=c2->c2->c2;let c3:=Ea c1 true (Ec (Df w) 7);let c4:=Di c3;let b:=c4->c4->c4;let c5:=Ea c3 true (Eh (Df h) 40);let aN:=(z,w,h);true/\(True->True/\c6/\c6/\c6/\(Dj true c2->c2)/\b/\b/\b/\(Dj true c4->c4)/\(c5->false=dG z w h/\True)/\(c5=false->(∃x,yq h x/\aN=aN/\1=x/\True)/\∀(x:Int),let c7:=Dp x (Df h);let f:=x-1;let c9:=Ei (Du h (Dc x) 0) (Du h (Dc f) 0);let e:=x+1;yq h x->(c7->0<=x/\x<Df h/\inR .i64 f/\0<=f/\f<Df h/\(c9->false=dG z w h/\True)/\(c9=false->inR .i64 e/\∃y,yq h y/\(aN=aN/\e=y/\True)/\Dc (Df h-y)<Dc (Df h-x)))/\(c7=false->true=dG z w h/\True)))):
  evF (mkc C6) (lvA [(4,[1,2,3])] (Rk h)) 150 [.agg [.dat I z,.dat B w,.dat R h]] [] ⟨True,.dat .bool (dG z w h),[]⟩:=oE g
theorem It(z a b:Int)(w:List Bool)(h:Li)(e:
 let c1:=(z,w,h);true/\(True->a=a/\b=b/\c1=c1/\True)):
  evF (mkc C6) az 153 [.ip C (z,w,h),.dat I a,.dat I b] [] ⟨True,.fn 219 [.ip I a,.ip I b,.ipv (.ip C (z,w,h))],[]⟩:=oE e
theorem fT(b:Bool)(e:Int)(f:
 let c1:=chainOf (Value.iface 39 (Value.int .i64 e));true/\(True->(Di b->(true->True/\(false=false->b=false/\true/\c1=c1))/\True)/\(Di b=false->b/\True))):
  evC (mkc C6) az 79 [.dat .bool b,.dat I e] (.tup []) ⟨True,b,cY 39 e⟩:=oE f
theorem W7(e:Int)(b:
 true/\(True->(true->e=e/\True)/\(true=false->190=e/\True))):
  evF (mkc C6) az 70 [.ifc 39 (.dat I e)] [] ⟨True,.dat I e,[]⟩:=oE b
def KPr: KPt:=pOr 79 (uG [.val .bool,.val I] λ(b,e,_)=>⟨True,b,cY 39 e⟩) noP
def U7: Kt:=kOr 220 (aw [.ptr C,.val I] (λ(c,d,_)=>wkP c.2.1 c.2.2 d) λ(c,d,_)=>.dat .bool (wkF c.2.1 c.2.2 d)) <|
 kOr 158 (aw [.ptr C,.val I] (λ(c,t,_)=>big c.1/\big t) λ(c,t,_)=>.tup [.dat I (aX c.1 t),.dat I (cD c.1 t)]) <|
 kOr 154 (aw [.ptr C,.val I,.val I] (λ(c,d,m,_)=>big c.1/\big d/\big m) λ(c,d,m,_)=>.dat I (vw c.1 d m)) <|
 kOr 150 (aw [.row C] (λ_=>True) λ(c,_)=>.dat .bool (dG c.1 c.2.1 c.2.2)) <|
 kOr 153 (aw [.ptr C,.val I,.val I] (λ_=>True) λ(c,a,b,_)=>.fn 219 [.ip I a,.ip I b,.ipv (.ip C c)]) <|
 kOr 79 (aw [.val .bool,.val I] (λ(b,_)=>True/\b=true) λ_=>.tup []) C6
def wdA(w:List Bool)(h:Li)(a b:Int): Gu:=⟨λid y=>match id with
 | 1=>some {α:=Int,inv:=λd=>ZH a b d,st:=λd=>⟨put y.s [(5,.dat I d)],fM w h a d,true⟩,μ:=λd=>Dc (Dh (Dq b 1) d)}
 | _=>none,λ_ _=>none,λid=>id==3⟩
theorem Z4(z a b:Int)(w:List Bool)(h:Li)(f:
 let c1:=(z,w,h);let c2:=gk w h a b;let c3:=Dk c2;let c4:=b+1;true/\true/\true/\false=false/\∀(l:Nat),wdP w h a b->(∃x,ZH a b x/\(l=l/\a=a/\b=b/\c1=c1/\a=x/\a=a/\True)/\0=fM w h a x/\true)/\∀(x:Int),let c5:=fM w h a x;let aN:=c5+1;let c7:=x+1;let g:=Ea (wkF w h x) (Di false) false;ZH a b x->(Ei x b->wkP w h x/\(wkF w h x->(wkF w h x->wkF w h x)/\(wkF w h x->wkF w h x)/\l=l/\true/\lC c2 c5 x/\∀(e:Bool),let c9:=Ea (wkF w h x) (Di e) false;(Dj true (wkF w h x)->wkF w h x)/\(c9->e->aN=c3)/\(c9=false->inR IntKind.i64 c7/\∃y,ZH a b y/\((l=l/\a=a/\b=b/\c1=c1/\c7=y/\a=a/\True)/\aN=fM w h a y/\e)/\Dc (c4-y)<Dc (c4-x)))/\(wkF w h x=false->(wkF w h x->wkF w h x->wkF w h x)/\(Dj true (wkF w h x)->wkF w h x)/\(g->true->c5=c3)/\(g=false->inR .i64 c7/\∃y,ZH a b y/\((l=l/\a=a/\b=b/\c1=c1/\c7=y/\a=a/\True)/\c5=fM w h a y/\true)/\Dc (c4-y)<Dc (c4-x))))/\(Ei x b=false->true->c5=c3)):
  evI (mkc U7) (wdA w h a b) 219 [.ip I a,.ip I b,.ipv (.ip C (z,w,h))] ⟨wdP w h a b,I,gk w h a b⟩:=oE f
def cR: Cfg:=Jk U7 (λ_=>false) KPr (λf=>f==79)
theorem IC(xs:Li)(b:
 let c1:=Eh (Df xs) 0;let c2:=chainOf (Value.iface 39 (Value.int .i64 (190:Int)));true/\(True->1=1/\1=1/\1=1/\1=1/\0=0/\(true->True/\(c1=false->bJ xs=false/\true/\c2=c2))/\((true->c1)->(True/\c1)/\1=1/\1=1/\1=1/\0=0/\Dl 0 0/\0<Df xs/\1=1/\1=1/\1=1/\0=0/\Dl 0 1/\1<=Df xs/\1=1/\1=1/\1=1/\0=0/\bJ xs/\Du xs (Dc 0) 0=hd xs/\Fe xs 1=tl xs/\1=1/\True))):
  evM cR az 207 [.ptr 1 1 0 0] [(1,.var [.dat R xs])] (.dat I (hd xs)) [(1,.var [.dat R (tl xs)])] ⟨True,bJ xs,cY 39 190⟩:=oE b
theorem aCP(x y:Bool): Ea x true y=(x||y):=by cases x<;>rfl
theorem OW(x y:Bool): Ea x y false=(x&&y):=by cases x<;>rfl
theorem hm: Tryz.prog.follows .mixedOrders=true:=by kernel_rfl
theorem U6: aj Tryz.prog dK Wc:=λf args m c h=>by cases h
theorem aK: bm Tryz.prog dK KI0:=λf args c h=>by cases h
theorem np{x a b:Int}: btw x a b=true↔a<=x/\x<=b:=by unfold btw;rw[qE]
theorem aR{α:Type}{l:List α}{i:Nat}{d:α}(h:i<l.length): l.getD i d∈l:=by
 rw[qA,qB h];exact wE h
theorem aD4(x a b:Int): af Tryz.prog dK 148 [.dat I x,.dat I a,.dat I b] [] ⟨True,.dat .bool (btw x a b),[]⟩:=by
 refine ae (c:=mkc Wc) U6 aK hm (aAn x a b ⟨rfl,λ_=>?_⟩);simp only[qc,Dj,Es,Di,qd,Dt,Eb,Ec,Dp,Eh,Ei,Ed,Ey,Df,Et,Dl,Dn,Eo,Dy,Dw,Dh,Dq,Ee,Fh,Dc,Dx,Dk,Dz,Ej,Du,Eu,Ez,En,Ef,Fe,Fj,Fg,Ep,Em,Ew,Fb];unfold btw;simp
theorem aAG(x:Int): af Tryz.prog dK 290 [.dat I x] [] ⟨True,.dat .bool false,[]⟩:=
 ae (c:=mkc Wc) U6 aK hm (WM x ⟨rfl,λ_=>⟨by simp,trivial⟩⟩)
theorem aAF(x:Int): af Tryz.prog dK 287 [.dat I x] [] ⟨True,.dat .bool false,[]⟩:=
 ae (c:=mkc Wc) U6 aK hm (WL x ⟨rfl,λ_=>⟨by simp,trivial⟩⟩)
theorem aCo: aj Tryz.prog dK aC4:=ai (ag λ(x,a,b,_)=>aD4 x a b) <|
 ai (ag λ(x,_)=>aAG x)<|ai (ag λ(x,_)=>aAF x) U6
theorem RO(x y:Int): af Tryz.prog dK 258 [.dat I x,.dat I y] [] ⟨True,.dat .bool (Dp x y),[]⟩:=by
 refine ae (c:=mkc aC4) aCo aK hm (KX x y ⟨rfl,λ_=>?_⟩);simp only[qc,Dj,Es,Di,yD,Ea,qAx,yA,vX,qCm]
theorem aCn: aj Tryz.prog dK aC3:=ai (ag λ(x,y,_)=>RO x y) aCo
theorem MC{h:Li}(b:srt h){i j:Nat}(f:i<=j)(e:j<h.length): h.getD i 0<=h.getD j 0:=by
 rcases zD i j with g | g
 .exact Int.le_of_lt (b.2 i j g e)
 .have:i=j:=by omega
  rw[this];exact qL _
theorem aB8{h:Li}{d i:Int}(z:srt h)(hi:J6 h d i i): i=J5 h d/\(CG h d=true↔i<h.length/\h.getD i.toNat 0=d):=by
 obtain⟨O,_,L,u,r⟩:=hi;constructor
 .unfold J5;have e:h=h.take i.toNat++h.drop i.toNat:=(xE _ _).symm;have y:(h.take i.toNat).filter (λx=>decide (x<d))=h.take i.toNat:=List.filter_eq_self.2 λx f=>by
   obtain⟨k,b,rfl⟩:=wY.1 f;rw[qI]at b;have:=u k (by omega);rw[qA,qB (by omega)]at this;rw[qCs];exact qW this
  have v:(h.drop i.toNat).filter (λx=>decide (x<d))=[]:=qAn.2 λx f=>by
   obtain⟨k,b,rfl⟩:=wY.1 f;rw[wC]at b;have:=r (i.toNat+k) (by omega) (by omega);rw[qA,qB (by omega)]at this;rw[List.getElem_drop];simpa using this
  rw[e,yV,y,v,wH,qI];omega
 .unfold CG;rw[List.contains_iff_mem];constructor
  .intro hm;obtain⟨k,b,e⟩:=wY.1 hm;have T:h.getD k 0=d:=by rw[qA,qB b];exact e
   have G:¬(k:Int)<i:=λg=>by have:=u k g;omega
   refine⟨by omega,?_⟩;have:=MC z (i:=i.toNat) (j:=k) (by omega) b;have:=r i.toNat (by omega) (by omega);omega
  .rintro⟨A,e⟩;rw[<- e];exact aR (by omega)
theorem ay{x:Int}(h:-4000000000000000<=x/\x<=4000000000000000): inR .i64 x:=⟨show(-9223372036854775808:Int)<=x by omega,show x<=9223372036854775807 by omega⟩
theorem aFO(h:Li)(d:Int): af Tryz.prog dK 264 [.dat R h,.dat I d] [] ⟨srt h,.tup [.dat I (J5 h d),.dat .bool (CG h d)],[]⟩:=by
 refine ae (c:=mkc aC3) aCn aK hm (aDg h d ⟨rfl,λr=>?_⟩);have hl:=r.1;refine⟨⟨(0,Df h),⟨qL _,qV _,qL _,λk g=>by omega,λk g1 g2=>by simp only[Df]at g1;omega⟩,?_⟩,λ⟨i,j⟩=>?_⟩
 .simp
 intro c1 c2 c3 c4 c5 aN c7 x hi;have v:=hi;obtain⟨y,h2,h3,Z,X⟩:=hi;have e3:c3=(i+j)/2:=by
  show(i+j).fdiv (2 ^ (1:Int).toNat)=_;rw[qCn _ (by decide)];rfl
 have L:c2=i+j:=rfl;have e5:c5=c3+1:=rfl;have O:c1=decide (i<j):=rfl;have G:c4=decide (h.getD c3.toNat 0<d):=rfl;have u:inR .u64 c2:=by
  rw[L];exact⟨show(0:Int)<=i+j by omega,show i+j<=18446744073709551615 by omega⟩
 clear_value c1 c2 c3 c4 c5;constructor
 .intro e;rw[O,qE]at e;refine⟨by rw[L];exact ay (by omega),u,by decide,by decide,ay (by omega),by show(0:Int)<=c3;omega,by show c3<(h.length:Int);omega,trivial,λb=>?_,λb=>?_⟩
  .rw[G,qE]at b;refine⟨by rw[e5];exact ay (by omega),(c5,j),⟨by omega,by omega,h3,λk V=>?_,X⟩,by simp,?_⟩
   .have:=MC r (i:=k) (j:=c3.toNat) (by omega) (by omega);omega
   .simp only[Dw,Dc,Dh];omega
  .rw[G,vY]at b;refine⟨(i,c3),⟨y,by omega,by omega,Z,λk V T=>?_⟩,by simp,?_⟩
   .have:=MC r (i:=c3.toNat) (j:=k) (by omega) (by omega);omega
   .simp only[Dw,Dc,Dh];omega
 .intro e;rw[O,vY]at e;have:i=j:=by omega
  subst this;obtain⟨b1,b2⟩:=aB8 r v;have A:aN=decide (i<h.length):=rfl;have e7:c7=decide (h.getD i.toNat 0=d):=rfl;have e8:x=(aN&&!c7):=rfl;clear_value aN c7 x;have f:aN=true->i<(h.length:Int):=λg=>by rw[A]at g;exact vO g
  have z:x=true->aN=true:=λg=>by rw[e8,qC]at g;exact g.1
  simp only[qc,Dj,Es,Di]
  and_intros
  all_goals first
   | exact λ_=>y
   | exact f
   | exact λg=>f (z g)
   | exact b1
   | exact λg=>z g
   | skip
  rw[qCe,b2,A,e7];simp
theorem CZ: aj Tryz.prog dK C6:=ai (ag λ(h,d,_)=>aFO h d) aCn
theorem yd{a m:Int}(h:0<m): (a.tmod m+m).tmod m=a%m:=by
 have e:=qBd (a:=a) (b:=m);have r:=kZ a (show m≠0 by omega);have j:=kD a h;have i:(m.natAbs:Int)=m:=by omega
 have f:a.tmod m=a%m\/a.tmod m=a%m-m:=by
  rw[e];split
  .exact .inl (by omega)
  .exact .inr (by omega)
 have g:0<=a.tmod m+m:=by omega
 rw[qBg g];rcases f with f | f<;>rw[f]
 .rw[Int.add_emod_right,Int.emod_emod_of_dvd _ (Int.dvd_refl _)]
 .rw[Int.sub_add_cancel,Int.emod_emod_of_dvd _ (Int.dvd_refl _)]
theorem Xi(z d:Int)(w:List Bool)(h:Li): af Tryz.prog dK 220 [.ip C (z,w,h),.dat I d] [] ⟨wkP w h d,.dat .bool (wkF w h d),[]⟩:=by
 refine ae (c:=mkc C6) CZ aK hm (Qf z d w h ⟨rfl,λ⟨hw,i,hb⟩=>?_⟩);have e:=yd (a:=d) (m:=7) (by decide);have g:=kZ d (show(7:Int)≠0 by decide);have r:=kD d (show(0:Int)<7 by decide);have j:-7<d.tmod 7/\d.tmod 7<7:=by
  have:=qBd (a:=d) (b:=7);split at this<;>omega
 simp only[Fq,Dq,e,Di,Du,Dc,Dl,Dn,Eo,Df,hw];refine⟨by decide,ay (by omega),by decide,g,by omega,λf=>⟨?_,trivial⟩,λf=>⟨i,?_,trivial⟩⟩
 .unfold wkF;rw[zK]at f;rw[f];rfl
 .unfold wkF CG;rw[kF]at f;rw[f];rfl
theorem XG(z t:Int)(w:List Bool)(h:Li): af Tryz.prog dK 158 [.ip C (z,w,h),.dat I t] [] ⟨big z/\big t,.tup [.dat I (aX z t),.dat I (cD z t)],[]⟩:=by
 refine ae (c:=mkc C6) CZ aK hm (ID z t w h ⟨rfl,λ⟨g,i⟩=>?_⟩);obtain⟨r,j⟩:=g;obtain⟨t1,t2⟩:=i;have e:=yd (a:=t+z) (m:=1440) (by decide);have y:=kZ (t+z) (show(1440:Int)≠0 by decide);have v:=kD (t+z) (show(0:Int)<1440 by decide);have u:-1440<(t+z).tmod 1440/\(t+z).tmod 1440<1440:=by
  have:=qBd (a:=t+z) (b:=1440);split at this<;>omega
 have eq:(t+z-(t+z)%1440).tdiv 1440=(t+z)/1440:=by
  have:t+z-(t+z)%1440=1440*((t+z)/1440):=by omega
  rw[this,qDb _ (by decide)]
 have f:∀{x:Int},-4000000000000<=x->x<=4000000000000->inR .i64 x:=λ{x} G A=>⟨show(-9223372036854775808:Int)<=x by omega,show x<=9223372036854775807 by omega⟩
 simp only[Fq,Dq,Dh,Gg,e,eq];exact⟨f (by omega) (by omega),by decide,f (by omega) (by omega),by decide,f (by omega) (by omega),by decide,f (by omega) (by omega),rfl,rfl,trivial⟩
theorem aDO(z d m:Int)(w:List Bool)(h:Li): af Tryz.prog dK 154 [.ip C (z,w,h),.dat I d,.dat I m] [] ⟨big z/\big d/\big m,.dat I (vw z d m),[]⟩:=by
 refine ae (c:=mkc C6) CZ aK hm (wD z d m w h ⟨rfl,λ⟨⟨f,e⟩,⟨v,u⟩,⟨i,g⟩⟩=>?_⟩);have b:∀{x:Int},-4000000000000000<=x->x<=4000000000000000->inR .i64 x:=λ{x} r j=>⟨show(-9223372036854775808:Int)<=x by omega,show x<=9223372036854775807 by omega⟩
 exact⟨b (by omega) (by omega),b (by omega) (by omega),b (by omega) (by omega),rfl,trivial⟩
def zw(z:Int)(w:List Bool)(h:Li): Prop:=(-720<=z/\z<=840/\w.length=7/\h.length<=40)/\∀i:Nat,i+1<h.length->h.getD i 0<h.getD (i+1) 0
theorem iF{z:Int}{w:List Bool}{h:Li}: dG z w h=true↔zw z w h:=by
 unfold dG zw;rw[qC,qE,qN];refine and_congr_right λ_=>⟨λg i hi=>?_,λg i hi=>?_⟩
 .have:=g i (vF.2 (by omega));simpa using this
 .have:=vF.1 hi;simpa using g i (by omega)
theorem pH{z:Int}{w:List Bool}{h:Li}(e:¬zw z w h): false=dG z w h:=by
 cases b:dG z w h with
 | false=>rfl
 | true=>exact(e (iF.1 b)).elim
theorem Ls{z:Int}{w:List Bool}{h:Li}(e:dG z w h=true): srt h:=by
 obtain⟨⟨_,_,_,v⟩,r⟩:=iF.1 e;refine⟨by omega,λi j f u=>?_⟩;induction j with
 | zero=>omega
 | succ j b=>
  have:=r j (by omega);rcases zD i j with g | g
  .have:=b g (by omega);omega
  .have:i=j:=by omega
   rw[this];assumption
theorem aFM(z:Int)(w:List Bool)(h:Li): af Tryz.prog dK 150 [.agg [.dat I z,.dat B w,.dat R h]] [] ⟨True,.dat .bool (dG z w h),[]⟩:=by
 refine ae (c:=mkc C6) CZ aK hm (aDd z w h ⟨rfl,λ_=>?_⟩);have A:btw z (-720) 840=decide (-720<=z/\z<=840):=rfl;simp only[A];simp only[qc,Dj,Es,Di,qd,Dt,Eb,Ec,Dp,Eh,Ei,Ed,Ey,Df,Et,Dl,Dn,Eo,Dy,Dw,Dh,Dq,Ee,Fh,Dc,Dx,Dk,Dz,Ej,Du,Eu,Ez,En,Ef,Fe,Fj,Fg,Ep,Em,Ew,Fb]
 refine⟨λhb=>pH λg=>?_,λ⟨⟨⟨X,V⟩,T⟩,O⟩=>⟨⟨qL _,.inr rfl,by omega,λi hi=>by omega⟩,λx b=>⟨λj=>?_,λy=>(iF.2 ⟨⟨by omega,by omega,by omega,by omega⟩,λi hi=>b.2.2.2 i (by omega)⟩).symm⟩⟩⟩
 .obtain⟨⟨g1,g2,g3,Z⟩,_⟩:=g;omega
 .have r:=b.1;have f:=b.2.2.1;refine⟨by omega,j,ay (by omega),by omega,by omega,λv=>pH λg=>?_,λu=>⟨ay (by omega),x+1,⟨by omega,by omega,f,λi hi=>?_⟩,rfl,by omega⟩⟩
  .have:=g.2 (x-1).toNat (by omega);rw[show(x-1).toNat+1=x.toNat by omega]at this;omega
  .by_cases e:(i:Int)+1<x
   .exact b.2.2.2 i e
   .have L:(x-1).toNat=i:=by omega
    have G:x.toNat=i+1:=by omega
    rw[L,G]at u;omega
theorem LP(z a b:Int)(w:List Bool)(h:Li): af Tryz.prog dK 153 [.ip C (z,w,h),.dat I a,.dat I b] [] ⟨True,.fn 219 [.ip I a,.ip I b,.ipv (.ip C (z,w,h))],[]⟩:=
 ae (c:=mkc C6) CZ aK hm (It z a b w h ⟨rfl,λ_=>⟨rfl,rfl,rfl,trivial⟩⟩)
theorem aAE(b:Bool)(e:Int): af Tryz.prog dK 79 [.dat .bool b,.dat I e] [] ⟨True/\b=true,.tup [],[]⟩/\cL Tryz.prog dK 79 [.dat .bool b,.dat I e] [] ⟨True,b,cY 39 e⟩:=by
 refine dc (c:=mkc C6) CZ aK hm pU (fT b e ⟨rfl,λ_=>⟨λh=>⟨λ_=>⟨trivial,λ_=>⟨?_,rfl,rfl⟩⟩,trivial⟩,λh=>⟨?_,trivial⟩⟩⟩)
 .simpa using h
 .simpa using h
theorem aAT(e:Int): af Tryz.prog dK 70 [.ifc 39 (.dat I e)] [] ⟨True,.dat I e,[]⟩:=
 ae (c:=mkc C6) CZ aK hm (W7 e ⟨rfl,λ_=>⟨λ_=>⟨rfl,trivial⟩,λh=>by cases h⟩⟩)
theorem PE: aj Tryz.prog dK U7:=ai (ag λ((z,w,h),d,_)=>Xi z d w h)<|ai (ag λ((z,w,h),t,_)=>XG z t w h)<|ai (ag λ((z,w,h),d,m,_)=>aDO z d m w h) <|
 ai (ag λ((z,w,h),_)=>aFM z w h)<|ai (ag λ((z,w,h),a,b,_)=>LP z a b w h)<|ai (ag λ(b,e,_)=>(aAE b e).1) CZ
theorem Il: bH Tryz.prog dK KPr:=hC (iT λ(b,e,_)=>(aAE b e).2) pU
theorem BX{α:Type}{f:Nat->α}{p:α->Bool}{k:Nat}(g:p (f k)=true): ∀N:Nat,k<N->(((List.range N).map f).filter p)[(((List.range k).map f).filter p).length]?=some (f k)
 | 0,h=>by omega
 | N+1,h=>by
  rw[zU,yU,yV];rcases zD k N with i | i
  .have b:=BX g N i;rw[vM (qG.1 b).1];exact b
  .have e:N=k:=by omega
   subst e;rw[qX (qJ _),qCc];simp[g]
theorem Pe{w:List Bool}{h:Li}{a b x:Int}(j:a<=x)(g:x<=b)(hw:wkF w h x=true): lC (gk w h a b) (fM w h a x) x:=by
 have e:a+((x-a).toNat:Int)=x:=by omega
 have:=BX (f:=λ(i:Nat)=>a+(i:Int)) (p:=λd=>wkF w h d) (k:=(x-a).toNat) (by simp only[e];exact hw) (b+1-a).toNat (by omega);simp only[e]at this;exact this
theorem wn{w:List Bool}{h:Li}{a x:Int}(b:a<=x): fM w h a (x+1)=fM w h a x+(if wkF w h x then 1 else 0):=by
 unfold fM;rw[show(x+1-a).toNat=(x-a).toNat+1 by omega,zU,yU,yV,qF];have e:a+((x-a).toNat:Int)=x:=by omega
 congr 1
 simp only[zH,qCd,e,yG,qBk];split<;>simp_all
theorem JZ(w:List Bool)(h:Li)(a:Int): fM w h a a=0:=by
 unfold fM;rw[show(a-a).toNat=0 by omega];rfl
theorem OU{w:List Bool}{h:Li}{a b x:Int}(f:ZH a b x)(g:¬x<=b): fM w h a x=(gk w h a b).length:=by
 unfold fM gk;have e:(x-a).toNat=(b+1-a).toNat:=by
  rcases f with⟨j,i | i⟩<;>omega
 rw[e]
theorem aDk(z a b:Int)(w:List Bool)(h:Li): mA Tryz.prog dK 219 [.ip I a,.ip I b,.ipv (.ip C (z,w,h))] ⟨wdP w h a b,I,gk w h a b⟩:=by
 refine jr (c:=mkc U7) PE aK hm (Z4 z a b w h ⟨rfl,rfl,rfl,rfl,λl ⟨hw,y,⟨T,O⟩,⟨L,G⟩⟩=>?_⟩);refine⟨⟨a,⟨qL _,.inr rfl⟩,⟨rfl,rfl,rfl,rfl,rfl,rfl,trivial⟩,(JZ w h a).symm,rfl⟩,λx v=>?_⟩;obtain⟨x1,x2⟩:=v;refine⟨λf=>?_,λj _=>OU ⟨x1,x2⟩ (by simpa using j)⟩;have f:x<=b:=by simpa using f
 have hb:big x:=⟨by omega,by omega⟩;refine⟨⟨hw,y,hb⟩,λe=>⟨λh=>h,λh=>h,rfl,rfl,Pe x1 f e,λA=>⟨λ_=>e,λi r=>?_,λi=>?_⟩⟩,λe=>⟨λ_ h=>h,λ_=>?_,λu _=>?_,λu=>?_⟩⟩
 .rw[e,r]at i;cases i
 .rw[e]at i;have:A=true:=by simpa[Ea,Di]using i
  refine⟨ay (by omega),x+1,⟨by omega,.inl (by omega)⟩,⟨⟨rfl,rfl,rfl,rfl,rfl,rfl,trivial⟩,?_,this⟩,?_⟩
  .rw[wn x1,e];rfl
  .simp only[Dw,Dc,Dh,Dq];omega
 .rename_i g;rw[e]at g;cases g
 .rw[e]at u;cases u
 .refine⟨ay (by omega),x+1,⟨by omega,.inl (by omega)⟩,⟨⟨rfl,rfl,rfl,rfl,rfl,rfl,trivial⟩,?_,rfl⟩,?_⟩
  .rw[wn x1,e];rfl
  .simp only[Dw,Dc,Dh,Dq];omega
theorem rO(xs:Li): af Tryz.prog dK 207 [.ptr 1 1 0 0] [(1,.var [.dat R xs])] ⟨True/\bJ xs=true,.dat I (hd xs),[(1,.var [.dat R (tl xs)])]⟩/\cL Tryz.prog dK 207 [.ptr 1 1 0 0] [(1,.var [.dat R xs])] ⟨True,bJ xs,cY 39 190⟩:=by
 refine b9 (c:=cR) PE aK hm Il (IC xs ⟨rfl,λ_=>?_⟩);have e:Eh (Df xs) 0=bJ xs:=by unfold bJ;simp
 simp only[e];simp only[qc,Dj,Es,Di,qd,Dt,Eb,Ec,Dp,Eh,Ei,Ed,Ey,Df,Et,Dl,Dn,Eo,Dy,Dw,Dh,Dq,Ee,Fh,Dc,Dx,Dk,Dz,Ej,Du,Eu,Ez,En,Ef,Fe,Fj,Fg,Ep,Em,Ew,Fb];refine λh=>?_
 have b:0<xs.length:=by unfold bJ at h;simpa using h
 exact⟨h,qL _,by omega,by decide,by omega,h,rfl,rfl⟩
def SO(st:Int×Int)(x:Int): Int×Int:=(st.1*3%65521,(st.2+x*(st.1*3%65521))%65521)
def I3(st:Int×Int)(l:List Int): Int×Int:=l.foldl SO st
def GZ(l:List Int): Int:=(I3 (1,0) l).2
theorem AH(st:Int×Int)(x:Int)(l:List Int): I3 st (x::l)=I3 (SO st x) l:=rfl
theorem SQ(st:Int×Int)(a b:List Int): I3 st (a++b)=I3 (I3 st a) b:=by
 unfold I3;exact List.foldl_append
def aEh(st:Int×Int): Prop:=(0<=st.1/\st.1<65521)/\(0<=st.2/\st.2<65521)
theorem SN(st:Int×Int)(x:Int): aEh (SO st x):=
 ⟨⟨Int.emod_nonneg _ (by decide),Int.emod_lt_of_pos _ (by decide)⟩,⟨Int.emod_nonneg _ (by decide),Int.emod_lt_of_pos _ (by decide)⟩⟩
theorem MR: ∀(l:List Int) {st:Int×Int},aEh st->aEh (I3 st l)
 | [],_,h=>h
 | x::l,st,_=>MR l (SN st x)
def inv(p:Int): Prop:=∃q:Int,p*q%65521=1
theorem Ub{p:Int}(h:inv p): inv (p*3%65521):=by
 obtain⟨q,b⟩:=h;refine⟨q*43681,?_⟩;rw[Int.mul_emod,Int.emod_emod_of_dvd _ (Int.dvd_refl _),<- Int.mul_emod];have e:p*3*(q*43681)=p*q*131043:=by
  rw[Int.mul_assoc,Int.mul_left_comm 3 q 43681,<- Int.mul_assoc];rfl
 rw[e,Int.mul_emod,b];rfl
theorem YM: ∀(l:List Int) {st:Int×Int},inv st.1->inv (I3 st l).1
 | [],_,h=>h
 | _::l,_,h=>YM l (Ub h)
theorem Ye: ∀(l:List Int) {p s t:Int},0<=s->s<65521->0<=t->t<65521->s≠t->(I3 (p,s) l).2≠(I3 (p,t) l).2
 | [],_,_,_,_,_,_,_,h=>h
 | x::l,p,s,t,s0,f,b,t1,h=>by
  rw[AH,AH];have e:∀y:Int,SO (p,y) x=(p*3%65521,(y+x*(p*3%65521))%65521):=λ_=>rfl
  rw[e,e];generalize x*(p*3%65521)=z;exact Ye l (Int.emod_nonneg _ (by decide)) (Int.emod_lt_of_pos _ (by decide)) (Int.emod_nonneg _ (by decide)) (Int.emod_lt_of_pos _ (by decide)) (by omega)
abbrev Ce: Ty:=.pair R I
abbrev Pl: Ty:=.pair I (.pair I (.pair M (.sl M)))
abbrev Plan:=Int×Int×Lj×List (Lj)
def HD(l:Li): Prop:=l.length<=2000000000000000
def PY(l:Li): Prop:=l.length<=9223372036854775807
def sP(l:Li)(k:Int): Int:=(I3 (1,0) (l.take k.toNat)).1
def sS(l:Li)(k:Int): Int:=(I3 (1,0) (l.take k.toNat)).2
def rl(l:Li): Li:=l.map λx=>x%65521
def mR(l:Li): Int:=GZ (rl l)
def nZ(l:Li): Bool:=l.all λx=>btw x 0 65519
def dM(l:Li)(s:Int): Bool:=nZ l&&decide (s=GZ l)
def YN(l:Li)(k:Int): Prop:=0<=k/\k<=l.length/\nZ (l.take k.toNat)=true
def yu(l:Li)(k:Int): Prop:=0<=k/\k<=l.length
def cZ(g:Int->Int->Int)(n:Int): Lj:=(List.range n.toNat).map λi:Nat=>(List.range n.toNat).map λj:Nat=>g i j
def fi(g:Int->Int->Int)(n i:Int): Lj:=(cZ g n).take i.toNat++List.replicate (n.toNat-i.toNat) []
def gY(g:Int->Int->Int)(n i j:Int): Li:=((List.range n.toNat).map λj:Nat=>g i j).take j.toNat++List.replicate (n.toNat-j.toNat) 0
def ny(k n:Int): Prop:=0<=k/\(k<=n\/k=0)
def tg(l:Li)(m i j:Int): Int:=l.getD (i*m+j).toNat 0-1
def kB(m:Int)(l:Li): Lj:=cZ (tg l m) m
def bG(l:Li)(k:Int): Li:=l.drop k.toNat
def nD(m:Int)(l:Li): Bool:=decide (m*m<=l.length)
def dj(l:Li): Prop:=nZ l=true/\HD l
def LL(m:Int)(l:Li): Prop:=0<=m/\m<=12/\dj l
def RB(m:Int)(l:Li)(k:Int): Prop:=ny k m/\k*m<=l.length
def GM(m:Int)(l:Li)(i k:Int): Prop:=ny k m/\i*m+k<=l.length
def uw(q m:Int)(l:Li): List (Lj):=(List.range q.toNat).map λk:Nat=>kB m (bG l ((k:Int)*(m*m)))
def nC(q m:Int)(l:Li)(k:Int): List (Lj):=(uw q m l).take k.toNat++List.replicate (q.toNat-k.toNat) []
def aCI(q m:Int)(l:Li)(k:Int): Prop:=ny k q/\(k+1)*(m*m)<=l.length-4
def sE(l:Li): Bool:=decide (l.getD 2 0<=12/\l.getD 3 0<=4/\l.getD 0 0<l.getD 1 0/\l.getD 1 0<=l.getD 0 0+60/\l.getD 1 0<=600)
def nt(l:Li): Bool:=decide (4<=l.length)&&sE l&&decide (4+l.getD 2 0*l.getD 2 0+l.getD 3 0*(l.getD 2 0*l.getD 2 0)<=l.length)
def au(l:Li): Plan:=(l.getD 0 0,l.getD 1 0,kB (l.getD 2 0) (bG l 4),uw (l.getD 3 0) (l.getD 2 0) (bG l (4+l.getD 2 0*l.getD 2 0)))
def bI(l:Li): Li:=bG l (4+l.getD 2 0*l.getD 2 0+l.getD 3 0*(l.getD 2 0*l.getD 2 0))
def at0(l:Li)(k:Nat): Int:=l.getD k 0
def Ja(q m:Int)(l:Li)(k:Int): Li:=bG l (4+m*m+k*(m*m))
def aFU(l:Li): Ann:=⟨λid s=>match id with
 | 3=>some {α:=Int,inv:=λk=>YN l k,st:=λk=>put (fx s) [(10,.dat I k),(3,.dat I (sP l k)),(4,.dat I (sS l k))],μ:=λk=>Dc (Dh (Df l) k)}
 | _=>none,λ_ _=>none,λ_ _=>none⟩
def Z2(l:Li): Ann:=⟨λid s=>match id with
 | 3=>some {α:=Int,inv:=λk=>yu l k,st:=λk=>put (fx s) [(9,.dat I k),(3,.dat I (sP (rl l) k)),(4,.dat I (sS (rl l) k))],μ:=λk=>Dc (Dh (Df l) k)}
 | _=>none,λ_ _=>none,λ_ _=>none⟩
theorem Ds(s:Int)(l:Li)(b:
 let c1:=(l,s);true/\(HD l->(∃x,YN l x/\l=l/\s=s/\c1=c1/\1=sP l x/\0=sS l x/\c1=c1/\l=l/\Df l=Df l/\0=x/\True)/\∀(x:Int),let c2:=Dp x (Df l);let c3:=Du l (Dc x) 0;let c4:=Di (btw c3 0 65519);let c5:=sP l x*3;let aN:=Fq c5 65521;let c7:=c3*aN;let e:=sS l x+c7;let c9:=x+1;YN l x->(c2->0<=x/\x<Df l/\True/\(c4->false=dM l s/\True)/\(c4=false->inR .i64 c5/\Eo 65521 0/\inR .i64 c7/\inR .i64 e/\Eo 65521 0/\inR .i64 c9/\∃y,YN l y/\(l=l/\s=s/\c1=c1/\aN=sP l y/\Fq e 65521=sS l y/\c1=c1/\l=l/\Df l=Df l/\c9=y/\True)/\Dc (Df l-y)<Dc (Df l-x)))/\(c2=false->Eb s (sS l x)=dM l s/\True))):
  evF (mkc U7) (aFU l) 141 [.agg [.dat R l,.dat I s]] [] ⟨HD l,.dat .bool (dM l s),[]⟩:=oE b
theorem Qc(l:Li)(b:
 true/\(PY l->(∃x,yu l x/\l=l/\(0:Int)=(0:Int)/\1=sP (rl l) x/\0=sS (rl l) x/\l=l/\Df l=Df l/\0=x/\True)/\∀(x:Int),let c1:=Dp x (Df l);let c2:=sP (rl l) x*3;let c3:=Fq (Du l (Dc x) 0) 65521+65521;let c4:=Fq c2 65521;let c5:=Fq c3 65521*c4;let aN:=sS (rl l) x+c5;let c7:=x+1;yu l x->(c1->0<=x/\x<Df l/\inR .i64 c2/\Eo 65521 0/\Eo 65521 0/\inR .i64 c3/\Eo 65521 0/\inR .i64 c5/\inR .i64 aN/\Eo 65521 0/\inR IntKind.i64 c7/\∃y,yu l y/\(l=l/\(0:Int)=(0:Int)/\c4=sP (rl l) y/\Fq aN 65521=sS (rl l) y/\l=l/\Df l=Df l/\c7=y/\True)/\Dc (Df l-y)<Dc (Df l-x))/\(c1=false->sS (rl l) x=mR l/\True))):
  evF (mkc U7) (Z2 l) 36 [.dat R l] [] ⟨PY l,.dat I (mR l),[]⟩:=oE b
def aFL: Kt:=kOr 141 (aw [.row Ce] (λ(c,_)=>HD c.1) λ(c,_)=>.dat .bool (dM c.1 c.2)) <|
 kOr 36 (aw [.val R] (λ(l,_)=>PY l) λ(l,_)=>.dat I (mR l)) <|
 U7
def aE5: Kt:=
 kOr 207 (VF 1 R [.mp 1] (λ_ xs=>True/\bJ xs=true) (λ_ xs=>.dat I (hd xs)) λ_ xs=>tl xs) aFL
def KP6: KPt:=pOr 207 (Yy 1 R [.mp 1] λ_ xs=>⟨True,bJ xs,cY 39 190⟩) KPr
def aN: Cfg:=Jk aE5 (λ_=>false) KP6 (λf=>f==79||f==207)
def RA(m:Int)(l:Li): Ann:=⟨λid s=>match id with
 | 3=>some {α:=Int,inv:=λk=>RB m l k,st:=λk=>gC (gC (put (fx s) [(12,.dat I k),(5,.buf 2 (Dc m))]) 2 (.buf 36 R (fi (tg l m) m k) [])) 1 (.var [.dat R (bG l (Ee k m))]),μ:=λk=>Dc (Dh m k)}
 | 7=>match s.sig.T 6,s.sig.T 23 with
  | .dat (.int .i64) i,.buf nm _=>some {α:=Int,inv:=λk=>GM m l i k,st:=λk=>gC (gC (put (fx s) [(25,.dat I k)]) nm (.buf 3 I (gY (tg l m) m i k) [])) 1 (.var [.dat R (bG l (Dq (Ee i m) k))]),μ:=λk=>Dc (Dh m k)}
  | _,_=>none
 | _=>none,λ_ _=>none,λ_ _=>none⟩
theorem Iu(m:Int)(l:Li)(h:
 let e:=tg l m;let c6:=Dc m;let c1:=Ep m (Dt Int);let c2:=Ep m (0:Int);let c3:=chainOf (Value.iface 39 (Value.int .i64 (190:Int)));true/\(LL m l->1=1/\0<=m/\(Dx 24*m)<=281474976710656/\m<=9223372036854775807/\Dk c1=Dc m/\(∃x,RB m l x/\1=1/\0=0/\0=0/\m=m/\Value.slice none 0 0=Value.slice none 0 0/\Dc m=Dc m/\m=m/\Dc m=Dc m/\Dc m=Dc m/\Int.ofNat c6=Int.ofNat c6/\0=x/\l=bG l (x*m)/\c1=fi e m x/\1=1/\True)/\∀(x:Int),let c4:=Dp x (Int.ofNat c6);let c5:=fi e m x;let aN:=Dk c5;let c7:=bG l (x*m);let i:=x+1;RB m l x->(c4->0<=m/\(Dx 8*m)<=281474976710656/\m<=9223372036854775807/\aN=Dc m/\0<=x/\x<Dx aN/\aN=Dc m/\Dk c2=Dc m/\aN=Dc m/\0<=x/\x<Dx aN/\aN=Dc m/\Dc x=Dc x/\Dk c2=Dc m/\(∃b,GM m l x b/\1=1/\0=0/\0=0/\m=m/\Value.slice none 0 0=Value.slice none 0 0/\Dc m=Dc m/\x=x/\m=m/\Dc m=Dc m/\Dc m=Dc m/\Int.ofNat c6=Int.ofNat c6/\x=x/\c4=c4/\x=x/\Dc m=Dc m/\x=x/\m=m/\Dc m=Dc m/\Dc m=Dc m/\Dc x=Dc x/\0=0/\Dc m=Dc m/\x=x/\Dc m=Dc m/\Dc x=Dc x/\0=0/\Dc m=Dc m/\Int.ofNat c6=Int.ofNat c6/\0=b/\c7=bG l ((x*m)+b)/\c5=c5/\Dc x=Dc x/\Dc m=Dc m/\c2=gY e m x b/\1=1/\True)/\∀(b:Int),let c9:=Dp b (Int.ofNat c6);let f:=bG l ((x*m)+b);let g:=bJ f;let c12:=hd f-1;let c13:=gY e m x b;let c14:=Dk c13;let c15:=b+1;
 GM m l x b->(c9->aN=Dc m/\0<=x/\x<Dx aN/\aN=Dc m/\Dc x=Dc x/\True/\(g->aN=Dc m/\0<=x/\x<Dx aN/\aN=Dc m/\Dc x=Dc x/\(True/\g)/\1=1/\inR .i64 c12/\c14=Dc m/\0<=b/\b<Dx c14/\c14=Dc m/\inR .i64 c15/\∃y,GM m l x y/\(1=1/\0=0/\0=0/\m=m/\Value.slice none 0 0=Value.slice none 0 0/\Dc m=Dc m/\x=x/\m=m/\Dc m=Dc m/\Dc m=Dc m/\Int.ofNat c6=Int.ofNat c6/\x=x/\c4=c4/\x=x/\Dc m=Dc m/\x=x/\m=m/\Dc m=Dc m/\Dc m=Dc m/\Dc x=Dc x/\0=0/\Dc m=Dc m/\x=x/\Dc m=Dc m/\Dc x=Dc x/\0=0/\Dc m=Dc m/\Int.ofNat c6=Int.ofNat c6/\c15=y/\tl f=bG l ((x*m)+y)/\c5=c5/\Dc x=Dc x/\Dc m=Dc m/\En c13 (Dc b) c12=gY e m x y/\1=1/\True)/\Dc (m-y)<Dc (m-b))/\(g=false->nD m l=false/\true/\c3=c3))/\(c9=false->inR .i64 i/\∃y,RB m l y/\(1=1/\0=0/\0=0/\m=m/\Value.slice none 0 0=Value.slice none 0 0/\Dc m=Dc m/\m=m/\Dc m=Dc m/\Dc m=Dc m/\Int.ofNat c6=Int.ofNat c6/\i=y/\f=bG l (y*m)/\c14=Dc m/\En c5 (Dc x) c13=fi e m y/\1=1/\True)/\Dc (m-y)<Dc (m-x)))/\(c4=false->nD m l/\aN=Dc m/\c5=kB m l/\c7=bG l (m*m)/\1=1/\True))):
  evM aN (RA m l) 208 [.ptr 1 1 0 0,.dat I m] [(1,.var [.dat R l])] (.dat M (kB m l)) [(1,.var [.dat R (bG l (Ee m m))])] ⟨LL m l,nD m l,cY 39 190⟩:=oE h
def aE4: Kt:=kOr 208 (VF 1 R [.mp 1,.val I] (λ(_,m,_) xs=>LL m xs/\nD m xs=true) (λ(_,m,_) xs=>.dat M (kB m xs)) λ(_,m,_) xs=>bG xs (Ee m m)) aE5
def KP7: KPt:=pOr 208 (Yy 1 R [.mp 1,.val I] λ(_,m,_) xs=>⟨LL m xs,nD m xs,cY 39 190⟩) KP6
def c7: Cfg:=Jk aE4 (λ_=>false) KP7 (λf=>f==79||f==207||f==208)
def aEg(l:Li): Ann:=⟨λid s=>match id with
 | 9=>some {α:=Int,inv:=λk=>aCI (at0 l 3) (at0 l 2) l k,st:=λk=>gC (gC (put (fx s) [(53,.dat I k)]) 4 (.buf 32 M (nC (at0 l 3) (at0 l 2) (bG l (Dq 4 (Ee (at0 l 2) (at0 l 2)))) k) [])) 1 (.var [.dat R (Ja (at0 l 3) (at0 l 2) l k)]),μ:=λk=>Dc (Dh (at0 l 3) k)}
 | _=>none,λ_ _=>none,λ_ _=>none⟩
theorem WG(l:Li)(G:
 let c1:=chainOf (Value.iface 39 (Value.int .i64 (190:Int)));let c2:=bJ (tl (tl (tl l)));let c3:=Ei (hd (tl (tl l))) 12;let c4:=hd (tl (tl (tl l)));let c5:=Ea c3 (Ei c4 4) false;let aN:=Dp (hd l) (hd (tl l));let c7:=hd l+60;let b:=Ea aN (Ei (hd (tl l)) c7) false;let c9:=Ea b (Ei (hd (tl l)) 600) false;let g:=tl (tl (tl (tl l)));let r:=nD (hd (tl (tl l))) g;let c12:=Ep c4 (Dt (Li));let c13:=Dc c4;let c14:=kB (hd (tl (tl l))) g;let c15:=Int.ofNat c13;let A:=hd (tl (tl l))*hd (tl (tl l));let j:=bG l (4+(at0 l 2*at0 l 2));let z:=(au l).2;let v:=z.2;
 true/\(dj l->1=1/\(true->True/\(bJ l=false->nt l=false/\true/\c1=c1))/\((true->bJ l)->(True/\bJ l)/\1=1/\(true->True/\(bJ (tl l)=false->nt l=false/\true/\c1=c1))/\((true->bJ (tl l))->(True/\bJ (tl l))/\1=1/\1=1/\1=1/\0=0/\1=1/\1=1/\0=0/\(true->True/\(bJ (tl (tl l))=false->nt l=false/\true/\c1=c1))/\((true->bJ (tl (tl l)))->(True/\bJ (tl (tl l)))/\1=1/\(true->True/\(c2=false->nt l=false/\true/\c1=c1))/\((true->c2)->(True/\c2)/\1=1/\(c3->c3->c3)/\(Dj true c3->c3)/\(true->True/\(c5=false->nt l=false/\true/\c1=c1))/\((true->c5)->(True/\c5)/\1=1/\1=1/\0=0/\1=1/\1=1/\0=0/\(aN->1=1)/\(aN->aN->aN)/\(aN->1=1)/\(aN->0=0)/\(aN->1=1)/\(aN->aN->aN)/\(aN->1=1)/\(aN->0=0)/\(aN->aN->aN)/\(aN->inR IntKind.i64 c7)/\(aN->aN->aN)/\(aN->aN->aN)/\(Dj true aN->aN)/\(b->1=1)/\(b->b->b)/\(b->1=1)/\(b->0=0)/\(b->b->b)/\(Dj true b->b)/\(true->True/\(c9=false->nt l=false/\true/\c1=c1))/\((true->c9)->(True/\c9)/\(true->LL (hd (tl (tl l))) g/\(r=false->nt l=false/\true/\c1=c1))/\((true->r)->(LL (hd (tl (tl l))) g/\r)/\1=1/\1=1/\1=1/\0=0/\0<=c4/\(Dx 24*c4)<=281474976710656/\c4<=9223372036854775807/\1=1/\1=1/\0=0/\Dk c12=c13/\1=1/\1=1/\0=0/\Dk c12=c13/\(∃x,aCI (at0 l 3) (at0 l 2) l x/\1=1/\0=0/\0=0/\1=1/\0=0/\0=0/\1=1/\0=0/\0=0/\hd (tl (tl l))=hd (tl (tl l))/\c4=c4/\1=1/\0=0/\0=0/\hd l=hd l/\1=1/\0=0/\0=0/\hd (tl l)=hd (tl l)/\1=1/\0=0/\0=0/\1=1/\0=0/\1=1/\1=1/\0=0/\0=0/\hd (tl (tl l))=hd (tl (tl l))/\1=1/\0=0/\0=0/\c4=c4/\hd (tl (tl l))=hd (tl (tl l))/\c3=c3/\c3=c3/\c5=c5/\1=1/\0=0/\0=0/\hd l=hd l/\1=1/\0=0/\1=1/\hd (tl l)=hd (tl l)/\aN=aN/\aN=aN/\b=b/\b=b/\c9=c9/\1=1/\0=0/\0=0/\hd (tl (tl l))=hd (tl (tl l))/\c14=c14/\1=1/\0=0/\2=2/\c4=c4/\c13=c13/\1=1/\0=0/\3=3/\1=1/\0=0/\3=3/\c13=c13/\c15=c15/\0=x/\
 bG g A=Ja (at0 l 3) (at0 l 2) l x/\(0:Int)=(0:Int)/\(0:Int)=(0:Int)/\Value.slice none 0 0=Value.slice none 0 0/\Value.slice none 0 0=Value.slice none 0 0/\hd l=hd l/\hd (tl l)=hd (tl l)/\c14=c14/\c13=c13/\c12=nC (at0 l 3) (at0 l 2) j x/\1=1/\True)/\∀(x:Int),let e:=Ja (at0 l 3) (at0 l 2) l x;let i:=nD (hd (tl (tl l))) e;let h:=nC (at0 l 3) (at0 l 2) j x;let f:=Dk h;let u:=x+1;
 aCI (at0 l 3) (at0 l 2) l x->(Dp x c15->1=1/\1=1/\0=0/\LL (hd (tl (tl l))) e/\(i->1=1/\1=1/\0=0/\(LL (hd (tl (tl l))) e/\i)/\1=1/\f=c13/\0<=x/\x<Dx f/\f=c13/\inR .i64 u/\∃y,aCI (at0 l 3) (at0 l 2) l y/\(1=1/\0=0/\0=0/\1=1/\0=0/\0=0/\1=1/\0=0/\0=0/\hd (tl (tl l))=hd (tl (tl l))/\c4=c4/\1=1/\0=0/\0=0/\hd l=hd l/\1=1/\0=0/\0=0/\hd (tl l)=hd (tl l)/\1=1/\0=0/\0=0/\1=1/\0=0/\1=1/\1=1/\0=0/\0=0/\hd (tl (tl l))=hd (tl (tl l))/\1=1/\0=0/\0=0/\c4=c4/\hd (tl (tl l))=hd (tl (tl l))/\c3=c3/\c3=c3/\c5=c5/\1=1/\0=0/\0=0/\hd l=hd l/\1=1/\0=0/\1=1/\hd (tl l)=hd (tl l)/\aN=aN/\aN=aN/\b=b/\b=b/\c9=c9/\1=1/\0=0/\0=0/\hd (tl (tl l))=hd (tl (tl l))/\c14=c14/\1=1/\0=0/\2=2/\c4=c4/\c13=c13/\1=1/\0=0/\3=3/\1=1/\0=0/\3=3/\c13=c13/\c15=c15/\u=y/\bG e A=Ja (at0 l 3) (at0 l 2) l y/\(0:Int)=(0:Int)/\(0:Int)=(0:Int)/\Value.slice none 0 0=Value.slice none 0 0/\Value.slice none 0 0=Value.slice none 0 0/\hd l=hd l/\hd (tl l)=hd (tl l)/\c14=c14/\c13=c13/\En h (Dc x) (kB (hd (tl (tl l))) e)=nC (at0 l 3) (at0 l 2) j y/\1=1/\True)/\Dc (at0 l 3-y)<Dc (at0 l 3-x))/\(i=false->nt l=false/\true/\c1=c1))/\(Dp x c15=false->1=1/\0=0/\1=1/\0=0/\f=c13/\nt l/\1=1/\0=0/\hd l=(au l).1/\hd (tl l)=z.1/\c14=v.1/\f=c13/\h=v.2/\e=bI l/\1=1/\True)))))))))):
  evM c7 (aEg l) 142 [.ptr 1 1 0 0] [(1,.var [.dat R l])] (.agg [.dat I (au l).1,.dat I (au l).2.1,.dat M (au l).2.2.1,.dat (.sl M) (au l).2.2.2]) [(1,.var [.dat R (bI l)])] ⟨dj l,nt l,cY 39 190⟩:=oE G
def aFK: Kt:=kOr 142 (VF 1 R [.mp 1] (λ_ xs=>dj xs/\nt xs=true) (λ_ xs=>.agg [.dat I (au xs).1,.dat I (au xs).2.1,.dat M (au xs).2.2.1,.dat (.sl M) (au xs).2.2.2]) λ_ xs=>bI xs) aE4
def KP8: KPt:=pOr 142 (Yy 1 R [.mp 1] λ_ xs=>⟨dj xs,nt xs,cY 39 190⟩) KP7
theorem MS(l:Li): sP l 0=1:=rfl
theorem MQ(l:Li): sS l 0=0:=rfl
theorem Ab{l:Li}{x:Int}(e:0<=x)(b:x<l.length): l.take (x+1).toNat=l.take x.toNat++[l.getD x.toNat 0]:=by
 rw[show(x+1).toNat=x.toNat+1 by omega,wO,qA,qB (by omega:x.toNat<l.length)];rfl
theorem G3{l:Li}{x:Int}(e:0<=x)(b:x<l.length): sP l (x+1)=sP l x*3%65521/\sS l (x+1)=(sS l x+l.getD x.toNat 0*(sP l x*3%65521))%65521:=by
 unfold sP sS;rw[Ab e b,SQ];exact⟨rfl,rfl⟩
theorem aCD(l:Li)(x:Int): (0<=sP l x/\sP l x<65521)/\0<=sS l x/\sS l x<65521:=MR (l.take x.toNat) (st:=(1,0)) ⟨⟨by decide,by decide⟩,⟨by decide,by decide⟩⟩
theorem aBb{l:Li}{x:Int}(h:(l.length:Int)<=x): sS l x=GZ l:=by
 unfold sS GZ;rw[qQ (by omega)]
theorem Vv(l:Li): (rl l).length=l.length:=by unfold rl;rw[vG]
theorem aEe{l:Li}{i:Nat}(h:i<l.length): (rl l).getD i 0=l.getD i 0%65521:=by
 unfold rl;rw[qA,qO,qA,qB h];rfl
theorem dH{l:Li}: nZ l=true↔∀x∈l,0<=x/\x<=65519:=by
 unfold nZ;rw[qN];exact⟨λh x b=>np.1 (h x b),λh x b=>np.2 (h x b)⟩
theorem Oc{l:Li}{x:Int}(h:YN l x)(f:x<l.length)(e:btw (l.getD x.toNat 0) 0 65519=true): YN l (x+1):=by
 obtain⟨a,b,c⟩:=h;refine⟨by omega,by omega,?_⟩;rw[Ab a f];unfold nZ at c ⊢;rw[kN,c];simpa using e
theorem Ud{l:Li}{x:Int}(h:YN l x)(e:¬x<l.length): nZ l=true:=by
 obtain⟨a,b,c⟩:=h
 rwa [qQ (by omega)]at c
theorem Oe{l:Li}{x:Int}(g:0<=x)(f:x<l.length)(b:btw (l.getD x.toNat 0) 0 65519=false): nZ l=false:=by
 cases e:nZ l with
 | false=>rfl
 | true=>
  have:=np.2 (dH.1 e _ (aR (l:=l) (i:=x.toNat) (d:=0) (by omega)));rw[this]at b;cases b
theorem VE{a b:Int}(a0:0<=a)(g:a<=65521)(e:0<=b)(f:b<=65521): 0<=a*b/\a*b<=65521*65521:=
 ⟨qAb a0 e,xJ g f e (by omega)⟩
theorem tme{a:Int}(h:0<=a): a.tmod 65521=a%65521:=qBg h
theorem IX(s:Int)(l:Li): af Tryz.prog dK 141 [.agg [.dat R l,.dat I s]] [] ⟨HD l,.dat .bool (dM l s),[]⟩:=by
 refine ae (c:=mkc U7) PE aK hm (Ds s l ⟨rfl,λr=>?_⟩);have r:l.length<=2000000000000000:=r;refine⟨⟨0,⟨qL _,qV _,rfl⟩,by simp[MS,MQ]⟩,λx=>?_⟩;intro c2 c3 c4 c5 aN c7 i c9 f;refine⟨λe=>?_,λe=>?_⟩
 .have e:x<(l.length:Int):=vO e;have h:=f.1;obtain⟨⟨V,p1⟩,s0,L⟩:=aCD l x;obtain⟨j,v⟩:=G3 h e;refine⟨h,e,trivial,λg=>⟨?_,trivial⟩,λg=>?_⟩
  .have:btw (l.getD x.toNat 0) 0 65519=false:=by simpa[c4,c3,Di,Du,Dc]using g
   unfold dM;rw[Oe h e this];rfl
  .have hb:btw (l.getD x.toNat 0) 0 65519=true:=by simpa[c4,c3,Di,Du,Dc]using g
   obtain⟨b0,Z⟩:=np.1 hb;have u:aN=sP l (x+1):=by rw[j];exact tme (by show 0<=sP l x*3;omega)
   obtain⟨⟨T,O⟩,_,_⟩:=aCD l (x+1);have G:c3=l.getD x.toNat 0:=rfl;have A:c7=c3*aN:=rfl;have z:i=sS l x+c7:=rfl;have X:c5=sP l x*3:=rfl;have y:c9=x+1:=rfl;clear_value c3 c5 aN c7 i c9;have hm:=VE (a:=c3) (b:=aN) (by omega) (by omega) (by omega) (by omega);refine⟨ay (by omega),by decide,ay (by omega),ay (by omega),by decide,ay (by omega),x+1,Oc f e hb,⟨rfl,rfl,rfl,u,?_,rfl,rfl,rfl,y,trivial⟩,?_⟩
   .rw[v,<- j];show i.tmod 65521=_;rw[tme (by omega),z,A,G,u]
   .simp only[Dw,Dc,Dh,Df];omega
 .have e:¬x<(l.length:Int):=qCj e;refine⟨?_,trivial⟩;unfold dM;rw[Ud f e,aBb (by omega),zQ];show(s==_)=_;rw[qCe];simp
theorem DI(l:Li): af Tryz.prog dK 36 [.dat R l] [] ⟨PY l,.dat I (mR l),[]⟩:=by
 refine ae (c:=mkc U7) PE aK hm (Qc l ⟨rfl,λh=>?_⟩);have h:l.length<=9223372036854775807:=h;refine⟨⟨0,⟨qL _,qV _⟩,by simp[MS,MQ]⟩,λx=>?_⟩;intro c1 c2 c3 c4 c5 aN c7 u;refine⟨λe=>?_,λe=>?_⟩
 .have e:x<(l.length:Int):=vO e;have i:=u.1;obtain⟨⟨O,p1⟩,s0,A⟩:=aCD (rl l) x;obtain⟨g,f⟩:=G3 (l:=rl l) i (by rw[Vv];exact e);rw[aEe (by omega)]at f;have r:c4=sP (rl l) (x+1):=by rw[g];exact tme (by show 0<=sP (rl l) x*3;omega)
  obtain⟨⟨L,G⟩,_,_⟩:=aCD (rl l) (x+1);have em:Fq c3 65521=l.getD x.toNat 0%65521:=yd (by decide);have V:=kZ (l.getD x.toNat 0) (show(65521:Int)≠0 by decide);have T:=kD (l.getD x.toNat 0) (show(0:Int)<65521 by decide);have j:c5=Fq c3 65521*c4:=rfl;have y:aN=sS (rl l) x+c5:=rfl;have Z:c2=sP (rl l) x*3:=rfl;have v:c7=x+1:=rfl;have X:c3=(l.getD x.toNat 0).tmod 65521+65521:=rfl
  have z:-65521<(l.getD x.toNat 0).tmod 65521/\(l.getD x.toNat 0).tmod 65521<65521:=by
   have:=qBd (a:=l.getD x.toNat 0) (b:=65521);split at this<;>omega
  rw[em]at j;clear_value c2 c3 c4 c5 aN c7;have hm:=VE (a:=l.getD x.toNat 0%65521) (b:=c4) (by omega) (by omega) (by omega) (by omega);refine⟨i,e,ay (by omega),by decide,by decide,ay (by omega),by decide,ay (by omega),ay (by omega),by decide,⟨show(-9223372036854775808:Int)<=_ by omega,show _<=(9223372036854775807:Int) by omega⟩,x+1,⟨by omega,by omega⟩,⟨rfl,rfl,r,?_,rfl,rfl,v,trivial⟩,?_⟩
  .rw[f,<- g];show aN.tmod 65521=_;rw[tme (by omega),y,j,r]
  .simp only[Dw,Dc,Dh,Df];omega
 .have e:¬x<(l.length:Int):=qCj e;exact⟨aBb (by rw[Vv];omega),trivial⟩
theorem aEU: aj Tryz.prog dK aFL:=ai (ag λ((l,s),_)=>IX s l)<|ai (ag λ(l,_)=>DI l) <|
 PE
theorem XA: ∀x xs,af Tryz.prog dK 207 (avK [.mp 1] x) [(1,.var [.dat R xs])] ⟨True/\bJ xs=true,.dat I (hd xs),[(1,.var [.dat R (tl xs)])]⟩:=λ_ xs=>(rO xs).1
theorem aCm: aj Tryz.prog dK aE5:=
 ai (oZ XA) aEU
theorem PI: bH Tryz.prog dK KP6:=hC (s6 λ_ xs=>(rO xs).2) Il
theorem pw{α:Type}(xs:List α)(d v:α)(k:Nat)(b:xs[k]?=some v): (xs.take k++List.replicate (xs.length-k) d).set k v=xs.take (k+1)++List.replicate (xs.length-(k+1)) d:=by
 obtain⟨h,e⟩:=qG.1 b;have f:xs.length-k=(xs.length-(k+1))+1:=by omega
 rw[f,qBi,List.set_append_right _ _ (by simp;omega)];simp[wO,b,xC (Nat.le_of_lt h)]
theorem iu(g:Int->Int->Int)(n:Int): (cZ g n).length=n.toNat:=by simp[cZ]
theorem sg(g:Int->Int->Int)(n x:Int)(h:ny x n): (fi g n x).length=n.toNat:=by
 have:=h.1;have:=h.2;simp only[fi,qF,qI,wG,iu];omega
theorem vf(g:Int->Int->Int)(n i x:Int)(h:ny x n): (gY g n i x).length=n.toNat:=by
 have:=h.1;have:=h.2;simp only[gY,qF,qI,wG,vG,vI];omega
theorem AN(g:Int->Int->Int)(n:Int): fi g n 0=List.replicate n.toNat []:=by simp[fi]
theorem DU(g:Int->Int->Int)(n i:Int): gY g n i 0=List.replicate n.toNat 0:=by simp[gY]
theorem DV(g:Int->Int->Int)(n i j:Int)(b:0<=j)(f:j<n): (gY g n i j).set j.toNat (g i j)=gY g n i (j+1):=by
 have e:(j+1).toNat=j.toNat+1:=by omega
 have:=pw ((List.range n.toNat).map λj:Nat=>g i j) 0 (g i j) j.toNat (by
  rw[qO,vT (by omega)];simp[qR b])
 simp only[vG,vI]at this;unfold gY;rw[e];exact this
theorem I9(g:Int->Int->Int)(n i j:Int)(h:ny j n)(b:¬j<n): gY g n i j=(List.range n.toNat).map λj:Nat=>g i j:=by
 have:=h.1;have:=h.2;have e:j.toNat=n.toNat:=by omega
 unfold gY;rw[e,qQ (by simp)];simp
theorem AO(g:Int->Int->Int)(n i j:Int)(f:0<=i)(r:i<n)(h:ny j n)(b:¬j<n): (fi g n i).set i.toNat (gY g n i j)=fi g n (i+1):=by
 have e:(i+1).toNat=i.toNat+1:=by omega
 rw[I9 g n i j h b];have:=pw (cZ g n) [] ((List.range n.toNat).map λj:Nat=>g i j) i.toNat (by
  unfold cZ;rw[qO,vT (by omega)];simp[qR f])
 rw[iu]at this;unfold fi;rw[e];exact this
theorem DT(g:Int->Int->Int)(n i:Int)(h:ny i n)(b:¬i<n): fi g n i=cZ g n:=by
 have:=h.1;have:=h.2;have e:i.toNat=n.toNat:=by omega
 unfold fi;rw[e,qQ (by rw[iu];exact qJ _)];simp
theorem xe{l:Li}{k:Int}(h:0<=k): tl (bG l k)=bG l (k+1):=by
 unfold tl bG;rw[yK];congr 1;omega
theorem tH(l:Li)(k:Int): hd (bG l k)=l.getD k.toNat 0:=by
 unfold hd bG;simp[qA,qY]
theorem rm{l:Li}{k:Int}(h:0<=k): bJ (bG l k)=decide (k<l.length):=by
 unfold bJ bG;rw[wC,qAw];omega
theorem drop_drop{l:Li}{a b:Int}(e:0<=a)(hb:0<=b): bG (bG l a) b=bG l (a+b):=by
 unfold bG;rw[yK];congr 1;omega
theorem H2(l:Li)(k:Int): (bG l k).length=l.length-k.toNat:=by unfold bG;rw[wC]
theorem gy(i m:Int): (i+1)*m=i*m+m:=by rw[Int.add_mul,Int.one_mul]
theorem Ad(m:Int)(l:Li): af Tryz.prog dK 208 [.ptr 1 1 0 0,.dat I m] [(1,.var [.dat R l])] ⟨LL m l/\nD m l=true,.dat M (kB m l),[(1,.var [.dat R (bG l (Ee m m))])]⟩/\
  cL Tryz.prog dK 208 [.ptr 1 1 0 0,.dat I m] [(1,.var [.dat R l])] ⟨LL m l,nD m l,cY 39 190⟩:=by
 refine b9 (c:=aN) aCm aK hm PI (Iu m l ⟨rfl,λhp=>?_⟩);obtain⟨j,m1,⟨V,Z⟩⟩:=hp;have Z:l.length<=2000000000000000:=Z;have em:(Int.ofNat (Dc m))=m:=qR j;have bd:∀{k:Int},0<=k->k<l.length->0<=l.getD k.toNat 0/\l.getD k.toNat 0<=65519:=λ{k} i h1=>dH.1 V _ (aR (by omega))
 simp only[em];simp only[qc,Dj,Es,Di,qd,Dt,Eb,Ec,Dp,Eh,Ei,Ed,Ey,Df,Et,Dl,Dn,Eo,Dy,Dw,Dh,Dq,Ee,Fh,Dc,Dx,Dk,Dz,Ej,Du,Eu,Ez,En,Ef,Fe,Fj,Fg,Ep,Em,Ew,Fb];refine⟨j,by omega,by omega,by simp,⟨0,⟨⟨qL _,.inr rfl⟩,by rw[Int.zero_mul];exact qV _⟩,rfl,by rw[Int.zero_mul];rfl,(AN _ _).symm⟩,λx g=>⟨λT=>?_,λX=>?_⟩⟩
 .have i:=g.1.1;have b:=sg (tg l m) m x g.1;have xm0:0<=x*m:=qAb i j;have top:(x+1)*m<=m*m:=qAk (by omega) j;rw[gy]at top;have em2:(m.toNat:Int)=m:=qR j;have e:x<((fi (tg l m) m x).length:Int):=by rw[b];omega
  refine⟨j,by omega,by omega,b,i,e,b,by simp,b,i,e,b,by simp,⟨0,⟨⟨qL _,.inr rfl⟩,by have:=g.2;omega⟩,rfl,by rw[Int.add_zero],(DU _ _ _).symm⟩,λy r=>⟨λf=>?_,λf=>?_⟩⟩
  .have G:=r.1.1;have h:=vf (tg l m) m x y r.1;have O:y<((gY (tg l m) m x y).length:Int):=by rw[h];omega
   have eo:=rm (l:=l) (k:=x*m+y) (by omega);refine⟨b,i,e,b,λz=>?_,λz=>?_⟩
   .have A:x*m+y<l.length:=by rw[eo]at z;exact vO z
    obtain⟨b0,b1⟩:=bd (k:=x*m+y) (by omega) A;have eh:hd (bG l (x*m+y))-1=tg l m x y:=by rw[tH];rfl
    refine⟨b,i,e,b,z,ay (by rw[tH];omega),h,G,O,h,ay (by omega),y+1,⟨⟨by omega,.inl (by omega)⟩,by omega⟩,⟨rfl,?_,?_⟩,by omega⟩
    .rw[xe (by omega),Int.add_assoc]
    .rw[eh];exact DV (tg l m) m x y G f
   .rw[eo,vY]at z;unfold nD;rw[vY];omega
  .have L:y=m:=by rcases r.1 with⟨G,y1⟩;omega
   refine⟨ay (by omega),x+1,⟨⟨by omega,.inl (by omega)⟩,by rw[gy];have:=r.2;omega⟩,⟨rfl,by rw[gy,L],vf _ _ _ _ r.1,AO (tg l m) m x y i T r.1 f⟩,by omega⟩
 .have u:x=m:=by rcases g.1 with⟨x0,x1⟩;omega
  have v:nD m l=true:=by
   unfold nD;rw[qE];have:=g.2;rw[u]at this;exact this
  refine⟨v,sg _ _ _ g.1,DT _ _ _ g.1 X,?_⟩;rw[u]
theorem aCl: aj Tryz.prog dK aE4:=ai (oZ λ(_,m,_) xs=>(Ad m xs).1) aCm
theorem Wa: bH Tryz.prog dK KP7:=hC (s6 λ(_,m,_) xs=>(Ad m xs).2) PI
theorem d5{l:Li}(h:dj l)(k:Int): dj (bG l k):=
 ⟨dH.2 λx b=>dH.1 h.1 x (List.mem_of_mem_drop b),by show(bG l k).length<=_;rw[H2];have:l.length<=2000000000000000:=h.2;omega⟩
theorem Vk(l:Li): af Tryz.prog dK 142 [.ptr 1 1 0 0] [(1,.var [.dat R l])] ⟨dj l/\nt l=true,.agg [.dat I (au l).1,.dat I (au l).2.1,.dat M (au l).2.2.1,.dat (.sl M) (au l).2.2.2],[(1,.var [.dat R (bI l)])]⟩/\
  cL Tryz.prog dK 142 [.ptr 1 1 0 0] [(1,.var [.dat R l])] ⟨dj l,nt l,cY 39 190⟩:=by
 refine b9 (c:=c7) aCl aK hm Wa (WG l ⟨rfl,λhp=>?_⟩);have hl:l.length<=2000000000000000:=hp.2;have t1:tl l=bG l 1:=rfl;have t2:tl (tl l)=bG l 2:=by rw[t1,xe (by decide)];rfl
 have t3:tl (tl (tl l))=bG l 3:=by rw[t2,xe (by decide)];rfl
 have t4:tl (tl (tl (tl l)))=bG l 4:=by rw[t3,xe (by decide)];rfl
 have A:hd l=at0 l 0:=rfl;have h1:hd (tl l)=at0 l 1:=by rw[t1,tH];rfl
 have Z:hd (tl (tl l))=at0 l 2:=by rw[t2,tH];rfl
 have h3:hd (tl (tl (tl l)))=at0 l 3:=by rw[t3,tH];rfl
 have o0:bJ l=decide (0<l.length):=rfl;have o1:bJ (tl l)=decide (1<l.length):=by rw[t1,rm (by decide),qAw];omega
 have o2:bJ (tl (tl l))=decide (2<l.length):=by rw[t2,rm (by decide),qAw];omega
 have o3:bJ (tl (tl (tl l)))=decide (3<l.length):=by rw[t3,rm (by decide),qAw];omega
 have bd:∀k:Nat,0<=at0 l k/\at0 l k<=65519:=λk=>by
  unfold at0;by_cases hk:k<l.length
  .exact dH.1 hp.1 _ (aR hk)
  .rw[qA,wV (by omega)];exact⟨by decide,by decide⟩
 obtain⟨a0,a1⟩:=bd 0;obtain⟨b0,b1⟩:=bd 1;obtain⟨m0,m1⟩:=bd 2;obtain⟨q0,q1⟩:=bd 3;have G:nt l=(decide (4<=l.length)&&sE l&&decide (4+at0 l 2*at0 l 2+at0 l 3*(at0 l 2*at0 l 2)<=l.length)):=rfl;have X:sE l=decide (at0 l 2<=12/\at0 l 3<=4/\at0 l 0<at0 l 1/\at0 l 1<=at0 l 0+60/\at0 l 1<=600):=rfl;have u:l.length<4->nt l=false:=λh=>by rw[G,vV (by omega)];rfl
 have L:sE l=false->nt l=false:=λh=>by rw[G,h];simp
 have noLen:¬4+at0 l 2*at0 l 2+at0 l 3*(at0 l 2*at0 l 2)<=l.length->nt l=false:=λh=>by rw[G,vV h];simp
 simp only[A,h1,Z,h3,o0,o1,o2,o3,t4];have eq3:Int.ofNat (Dc (at0 l 3))=at0 l 3:=qR q0;simp only[eq3];simp only[qc,Dj,Es,Di,qd,Dt,Eb,Ec,Dp,Eh,Ei,Ed,Ey,Df,Et,Dl,Dn,Eo,Dy,Dw,Dh,Dq,Ee,Fh,Dc,Dx,Dk,Dz,Ej,Du,Eu,Ez,En,Ef,Fe,Fj,Fg,Ep,Em,Ew,Fb];obtain⟨f,b⟩:∃f,f=at0 l 2*at0 l 2:=⟨_,rfl⟩;have z:0<=f:=by rw[b];exact qAb m0 m0
 have eK:∀k,Ja (at0 l 3) (at0 l 2) l k=bG l (4+f+k*f):=λk=>by unfold Ja;rw[b]
 have r:∀k:Int,0<=k->(nD (at0 l 2) (bG l k)=true↔f<=((l.length-k.toNat:Nat):Int)):=λk hk=>by
  unfold nD;rw[qE,H2,b]
 have ePL:nt l=true↔4<=l.length/\sE l=true/\4+f+at0 l 3*f<=l.length:=by
  rw[G,qC,qC,qE,qE,b,qDe]
 have i:(uw (at0 l 3) (at0 l 2) (bG l (4+f))).length=(at0 l 3).toNat:=by unfold uw;simp
 have j:∀{x:Int},ny x (at0 l 3)->(nC (at0 l 3) (at0 l 2) (bG l (4+f)) x).length=(at0 l 3).toNat:=λ{x} ⟨h1,Z⟩=>by
  unfold nC;rw[qF,qI,wG,i];omega
 simp only[eK,<- b];refine⟨λh=>u (by omega),λl0=>⟨l0,λh=>u (by omega),λl1=>⟨l1,λh=>u (by omega),λl2=>⟨l2,λh=>u (by omega),λl3=>⟨l3,λh=>L ?_,λhA=>⟨hA,λh=>ay (by omega),λh=>L ?_,λhB=>⟨hB,?_⟩⟩⟩⟩⟩⟩⟩
 .rw[X,vY];intro g;exact h g.1 g.2.1
 .rw[X,vY];intro g;exact h ⟨g.2.2.1,g.2.2.2.1⟩ g.2.2.2.2
 have hH:sE l=true:=by rw[X,qE];exact⟨hA.1,hA.2,hB.1.1,hB.1.2,hB.2⟩
 have tP:∀k,LL (at0 l 2) (bG l k):=λk=>⟨m0,hA.1,d5 hp k⟩
 have mono:∀{k:Int},0<=k->k<=at0 l 3->k*f<=at0 l 3*f:=λh1 Z=>qAk Z z
 have v:∀{k:Int},0<=k->0<=k*f:=λh=>qAb h z
 have bad:¬(4+f+at0 l 3*f<=l.length)->nt l=false:=λh=>by
  cases e:nt l with
  | false=>rfl
  | true=>exact absurd (ePL.1 e).2.2 h
 refine⟨⟨tP 4,λh=>bad ?_⟩,λhT=>⟨⟨tP 4,hT⟩,q0,by omega,by omega,by simp,by simp,⟨0,⟨⟨qL _,.inr rfl⟩,?_⟩,rfl,?_,?_⟩,λx O=>⟨λhlt=>⟨tP _,λy=>?_,λy=>bad ?_⟩,λhge=>?_⟩⟩⟩
 .have:¬f<=((l.length-(4:Int).toNat:Nat):Int):=λg=>by rw[(r 4 (by decide)).2 g]at h;cases h
  have:=v q0;have e4:(4:Int).toNat=4:=rfl;omega
 .have:=(r 4 (by decide)).1 hT;have e4:(4:Int).toNat=4:=rfl;show(0+1)*(at0 l 2*at0 l 2)<=(l.length:Int)-4;rw[<- b];omega
 .rw[drop_drop (by decide) z,Int.zero_mul,Int.add_zero]
 .unfold nC;simp
 .have A:=O.1.1;have T:=j O.1;have V:=O.2;rw[<- b,gy]at V;have hT3:=(r _ (by have:=v A;omega)).1 y;have:=v A;refine⟨⟨tP _,y⟩,T,A,by rw[T];omega,T,ay (by omega),x+1,⟨⟨by omega,.inl (by omega)⟩,?_⟩,⟨rfl,?_,?_⟩,by omega⟩
  .rw[<- b,gy,gy];omega
  .rw[drop_drop (by omega) z];congr 1;rw[gy];omega
  .have e:(x+1).toNat=x.toNat+1:=by omega
   have:=pw (uw (at0 l 3) (at0 l 2) (bG l (4+f))) [] (kB (at0 l 2) (bG l (4+f+x*f))) x.toNat (by
    unfold uw;rw[qO,vT (by omega),zC,qR A,drop_drop (by omega) (by rw[<- b];exact v A),<- b])
   rw[i]at this;unfold nC;rw[e];exact this
 .have A:=O.1.1;have hx0:=v A;have hn:¬f<=((l.length-(4+f+x*f).toNat:Nat):Int):=λg=>by rw[(r _ (by omega)).2 g]at y;cases y
  have:=mono (k:=x+1) (by omega) (by omega);rw[gy]at this;omega
 .have hxe:x=at0 l 3:=by rcases O.1 with⟨h1,Z⟩;omega
  subst hxe;have V:=O.2;rw[<- b,gy]at V;refine⟨j O.1,ePL.2 ⟨by omega,hH,by omega⟩,rfl,rfl,rfl,j O.1,?_,?_⟩
  .unfold nC;rw[qQ (by rw[i];exact qJ _),qCc];show _++[]=_;rw[wH,b];rfl
  .rw[b];rfl
theorem aET: aj Tryz.prog dK aFK:=ai (oZ λ_ xs=>(Vk xs).1) aCl
theorem aCq: bH Tryz.prog dK KP8:=hC (s6 λ_ xs=>(Vk xs).2) Wa
end Go.Eng.In
namespace Go.Eng.Sv
open Go.Proofs
noncomputable def JW(args:List AV)(m:Mem): Option ja:=match args,m with
 | [.ifc t (.dat (.int .i64) e)],[]=>if t=39 then some ⟨True,.dat I e,[]⟩else none
 | _,_=>none
noncomputable def KR5: Kt:=kOr 94 JW <|
 kOr 102 (aw [.ptr N,.val M,.val I,.val I,.val I] (λ(n,nx,o,to,t,_)=>Gw n nx o to t/\isZero (i9 n nx o to t)=true) λ(n,nx,o,to,t,_)=>.dat (.sl Stp) (uq n nx o to t)) KR4
noncomputable def KPw: KPt:=pOr 102 (uG [.ptr N,.val M,.val I,.val I,.val I] λ(n,nx,o,to,t,_)=>⟨Gw n nx o to t,isZero (i9 n nx o to t),um 39 (i9 n nx o to t)⟩) <|
 pOr 95 (uG [.val .bool] λ(b,_)=>⟨True,b,um 39 1⟩) KPm
theorem UC: ∀args m c,JW args m=some c->af Tryz.prog G0 94 args m c:=by
 intro args m c h;unfold JW at h;split at h
 .split at h
  .rename_i e;subst e;cases h;exact Xz _
  .cases h
 .cases h
theorem aFs: aj Tryz.prog G0 KR5:=ai UC<|ai (ag λ((cs,ns,os,e,ls,b),nx,o,to,t,_)=>(LU nx o to t cs ns os e ls b).1) aFt
theorem V8: bH Tryz.prog G0 KPw:=hC (iT λ((cs,ns,os,f,ls,e),nx,o,to,t,_)=>(LU nx o to t cs ns os f ls e).2)<|hC (iT λ(b,_)=>(Ae b).2) V9
def aEC(w:List Bool)(h:Li): Nat->Int->Option Int
 | 0,d=>some d
 | n+1,d=>(uB w h (d+1)).bind (aEC w h n)
def bE(n:Net)(k:Int): Cla:=n.2.2.2.2.2.getD k.toNat (⟨#[]⟩,0,0)
def C5(n:Net)(k:Int): Prop:=0<=k/\k<n.2.2.2.2.2.length
def Uo(n:Net)(k o t:Int): Int:=ik (aB n o) (bE n k).2.2 (aG n o t)
def ZQ(n:Net)(k o t:Int): Int:=my (aB n o) (bE n k).2.2 (aG n o t)
theorem TD(cs:LC)(ns os:LB)(e:Lo)(ls:Ll)(b:Lk)(h:noF (cs,ns,os,e,ls,b)=true): ∀x∈b,ij x=true:=
 ((jS (by decide) (λl:Cla=>l.1) ij b).1 (iL cs ns os e ls b h).2.2.2.2.2).2.2.2
theorem tY(cs:LC)(ns os:LB)(e:Lo)(ls:Ll)(b:Lk){k:Int}(h:noF (cs,ns,os,e,ls,b)=true)(g:C5 (cs,ns,os,e,ls,b) k): (0<=(bE (cs,ns,os,e,ls,b) k).2.1/\(bE (cs,ns,os,e,ls,b) k).2.1<=1439)/\0<=(bE (cs,ns,os,e,ls,b) k).2.2/\(bE (cs,ns,os,e,ls,b) k).2.2<=1439:=by
 obtain⟨i,f⟩:=g;have f:k<(b.length:Int):=f;have hm:bE (cs,ns,os,e,ls,b) k∈b:=by
  show b.getD k.toNat _∈b;rw[qA,qB (by omega),qP];exact wE _
 have:=TD cs ns os e ls b h _ hm;unfold ij dI at this;simp only[qC,qE]at this;omega
theorem Nh(cs:LC)(ns os:LB)(e:Lo)(ls:Ll)(b:Lk){o t:Int}(h:mx (cs,ns,os,e,ls,b) o): t+1<=aG (cs,ns,os,e,ls,b) o t/\aG (cs,ns,os,e,ls,b) o t<=t+960:=by
 obtain⟨_,_,_,j,i,g,f⟩:=gb cs ns os e ls b h;unfold aG;have u:1*1<=(bR (cs,ns,os,e,ls,b) o).2.2.2.2.1*(bR (cs,ns,os,e,ls,b) o).2.2.2.2.2.1:=xJ j g (by decide) (by omega);have r:(bR (cs,ns,os,e,ls,b) o).2.2.2.2.1*(bR (cs,ns,os,e,ls,b) o).2.2.2.2.2.1<=4*240:=xJ i f (by omega) (by decide);omega
theorem Zq{w:List Bool}{h:Li}: ∀(k:Nat) {d e:Int},aEC w h k d=some e->d<=e/\e<=d+61*k
 | 0,d,e,g=>by cases g;omega
 | k+1,d,e,g=>by
  unfold aEC at g;obtain⟨y,b,f⟩:=qDc.1 g;have hm:y∈iD w h (d+1) 60:=qCb (by unfold uB at b;rw[b];rfl);have:=By hm;have:=Zq k f;omega
def ZI(xs:Li)(k:Nat): Prop:=xs.length=k
def Ir(xs ys:Li): Prop:=xs.length+ys.length<=1000000000000
def upR(l:Li)(b k:Int): Li:=(l.take k.toNat).map λx=>x+b
def upTo(l:Li)(k:Int): Prop:=0<=k/\k<=l.length
def rsP(b:Int)(l xs:Li)(k:Nat): Prop:=(xs.length=k/\xs.length+l.length<=1000000000000)/\-1000000<=b/\b<=1000000/\∀x∈l,-1000000000<=x/\x<=1000000000
def wHd(n:Net)(p:Plan)(a:AV): List AV:=[.dat (.sl C) n.1,.dat (.sl S) n.2.1,.dat (.sl S) n.2.2.1,.dat (.sl (.pair S (.pair I (.pair I (.pair I (.pair I (.pair I (.sl S)))))))) n.2.2.2.1,.dat (.sl (.pair S (.pair I (.pair I (.pair I (.pair I I)))))) n.2.2.2.2.1,.dat (.sl (.pair S (.pair I I))) n.2.2.2.2.2,.dat I p.1,.dat I p.2.1,.dat M p.2.2.1,.dat (.sl M) p.2.2.2,a]
def mo(n:Net)(p:Plan)(k:Nat)(xs:Li): Mem:=[(2,.var (wHd n p (.buf 3 k))),(3,.buf 3 I xs [])]
def fZ(t:Ty): AV->Option t.den
 | .dat t' x=>if h:t'=t then some (h▸x)else none
 | _=>none
def aCS: List AV->Option (Net×Plan×AV)
 | [a1,a2,a3,a4,a5,a6,a7,a8,a9,a10,a]=>match fZ (.sl C) a1,fZ (.sl S) a2,fZ (.sl S) a3,fZ (.sl Of) a4,fZ (.sl Ln) a5,fZ (.sl Kl) a6,fZ I a7,fZ I a8,fZ M a9,fZ (.sl M) a10 with
  | some cs,some ns,some os,some fs,some ls,some ks,some p1,some p2,some p3,some p4=>some ((cs,ns,os,fs,ls,ks),(p1,p2,p3,p4),a)
  | _,_,_,_,_,_,_,_,_,_=>none
 | _=>none
def asW(m:Mem): Option (Net×Plan×Nat×Li):=match m with
 | [(2,.var cells),(3,.buf el tx xs [])]=>match aCS cells,fZ R (.dat (.sl tx) xs)with
  | some (n,p,.buf 3 k),some ys=>if el=3 then some (n,p,k,ys)else none
  | _,_=>none
 | _=>none
def aCL(a b:List AV->Mem->Option ja): List AV->Mem->Option ja:=λargs m=>match a args m with
 | some c=>some c
 | none=>b args m
def wK(l:List AK)(pre:AKs l->Net->Plan->Nat->Li->Prop)(ret:AKs l->Net->Plan->AV)(add:AKs l->Net->Plan->Li)(args:List AV)(m:Mem): Option ja:=match asW m,ofK l args with
 | some (n,p,k,xs),some x=>some ⟨pre x n p k xs,ret x n p,mo n p (Dz k (Dk (add x n p))) (Ef xs (add x n p))⟩
 | _,_=>none
def wR(l:List AK)(pre:AKs l->Net->Plan->Nat->Li->Prop)(ret:AKs l->Net->Plan->AV)(args:List AV)(m:Mem): Option ja:=match asW m,ofK l args with
 | some (n,p,k,xs),some x=>some ⟨pre x n p k xs,ret x n p,[]⟩
 | _,_=>none
def wP(l:List AK)(q:AKs l->Net->Plan->Nat->Li->wA)(args:List AV)(m:Mem): Option wA:=match asW m,ofK l args with
 | some (n,p,k,xs),some x=>some (q x n p k xs)
 | _,_=>none
def asI: AV->Option (Net×Plan)
 | .ips cells=>match aCS cells with
  | some (n,p,.top)=>some (n,p)
  | _=>none
 | _=>none
def wI(l:List AK)(pre:AKs l->Net->Plan->Prop)(ret:AKs l->Net->Plan->AV)(args:List AV)(m:Mem): Option ja:=match m,args with
 | [],a::ar=>match asI a,ofK l ar with
  | some (n,p),some x=>some ⟨pre x n p,ret x n p,[]⟩
  | _,_=>none
 | _,_=>none
theorem oF(k:Nat)(xs ys:Li)(n:Net)(p:Plan)(b:
 let c3:=n.2.2.2;let c1:=Dk (Ef xs ys);let c2:=k+Dk ys;true/\(ZI xs k/\Ir xs ys->1=1/\Dk xs<=c1/\1=1/\1=1/\1=1/\0=0/\Dk xs=k/\(c2*8)<=140737488355328/\c2<=9223372036854775807/\1=1/\1=1/\1=1/\0=0/\c1=c2/\n.1=n.1/\n.2.1=n.2.1/\n.2.2.1=n.2.2.1/\c3.1=c3.1/\c3.2.1=c3.2.1/\c3.2.2=c3.2.2/\p.1=p.1/\p.2.1=p.2.1/\p.2.2.1=p.2.2.1/\p.2.2.2=p.2.2.2/\c2=c2/\Ef xs ys=Ef xs ys/\1=1/\Dk xs=Dk xs/\True)):
  evF (mkc KR2) az 66 [.ptr 2 1 0 0,.dat R ys] (mo n p k xs) ⟨ZI xs k/\Ir xs ys,.tup [],mo n p (Dz k (Dk ys)) (Ef xs ys)⟩:=oE b
def KW1: Kt:=kOr 66 (wK [.mp 2,.val R] (λ(_,ys,_) _ _ k xs=>ZI xs k/\Ir xs ys) (λ_ _ _=>.tup []) λ(_,ys,_) _ _=>ys) KR2
def rsA(b:Int)(l xs:Li)(n:Net)(p:Plan): Ann:=⟨λid s=>match id with
 | 1=>some {α:=Int,inv:=λj=>upTo l j,st:=λj=>{put (flat s) [(10,.dat I j)]with mem:=mo n p (Dz (Dk xs) (Dk (upR l b j))) (Ef xs (upR l b j))},μ:=λj=>Dc (Dh (Df l) j)}
 | _=>none,λ_ _=>none,λ_ _=>none⟩
theorem KQ(b:Int)(k:Nat)(l xs:Li)(n:Net)(p:Plan)(u:
 let c7:=n.2.1;let c6:=p.2.1;let c5:=n.2.2.1;let c4:=p.2.2;let c3:=n.2.2.2;let c1:=upR l b (Df l);let c2:=Ef xs c1;true/\(rsP b l xs k->1=1/\Dk xs<=Dk c2/\(∃x,upTo l x/\1=1/\0=0/\0=0/\b=b/\l=l/\Df l=Df l/\0=x/\n.1=n.1/\c7=c7/\c5=c5/\c3.1=c3.1/\c3.2.1=c3.2.1/\c3.2.2=c3.2.2/\p.1=p.1/\c6=c6/\c4.1=c4.1/\c4.2=c4.2/\k=Dk xs+Dk (upR l b x)/\xs=Ef xs (upR l b x)/\1=1/\Dk xs=Dk xs/\True)/\∀(x:Int),let r:=Dp x (Df l);let j:=Du l (Dc x) 0+b;let e:=Ef xs (upR l b x);let g:=Dk xs+Dk (upR l b x);let f:=[j];let i:=Ef e f;let h:=x+1;upTo l x->(r->0<=x/\x<Df l/\inR .i64 j/\(ZI e g/\Ir e f)/\1=1/\Dk e<=Dk i/\inR .i64 h/\∃y,upTo l y/\(1=1/\0=0/\0=0/\b=b/\l=l/\Df l=Df l/\h=y/\n.1=n.1/\c7=c7/\c5=c5/\c3.1=c3.1/\c3.2.1=c3.2.1/\c3.2.2=c3.2.2/\p.1=p.1/\c6=c6/\c4.1=c4.1/\c4.2=c4.2/\g+Dk f=Dk xs+Dk (upR l b y)/\i=Ef xs (upR l b y)/\1=1/\Dk xs=Dk xs/\True)/\Dc (Df l-y)<Dc (Df l-x))/\(r=false->n.1=n.1/\c7=c7/\c5=c5/\c3.1=c3.1/\c3.2.1=c3.2.1/\c3.2.2=c3.2.2/\p.1=p.1/\c6=c6/\c4.1=c4.1/\c4.2=c4.2/\g=k+Dk c1/\e=c2/\1=1/\Dk xs=Dk xs/\True))):
  evF (mkc KW1) (lvA [(1,[0,1,7,8,9,10])] (rsA b l xs n p)) 67 [.ptr 2 1 0 0,.dat I b,.dat R l] (mo n p k xs) ⟨rsP b l xs k,.tup [],mo n p (Dz k (Dk (upR l b (Df l)))) (Ef xs (upR l b (Df l)))⟩:=oE u
def KW2: Kt:=kOr 67 (wK [.mp 2,.val I,.val R] (λ(_,b,l,_) _ _ k xs=>rsP b l xs k) (λ_ _ _=>.tup []) λ(_,b,l,_) _ _=>upR l b (Df l)) KW1
theorem Wq(o:Int)(k:Nat)(xs:Li)(n:Net)(p:Plan)(b:
 let c1:=n.2.2.2;let c5:=(Du c1.1 (Dc o) (ByteArray.mk #[],(0:Int),(0:Int),(0:Int),(0:Int),(0:Int),Dt ByteArray)).2.2.1;let c7:=Du n.1 (Dc c5) ((0:Int),Dt Bool,Dt Int);let c9:=(aB n o).2;true/\(mx n o->1=1/\1=1/\1=1/\1=1/\0=0/\1=1/\1=1/\1=1/\1=1/\0=0/\0<=o/\o<Df c1.1/\0<=c5/\c5<Df n.1/\1=1/\0=0/\1=1/\0=0/\c7.1=(aB n o).1/\c7.2.1=c9.1/\c7.2.2=c9.2/\n.1=n.1/\n.2.1=n.2.1/\n.2.2.1=n.2.2.1/\c1.1=c1.1/\c1.2.1=c1.2.1/\c1.2.2=c1.2.2/\p.1=p.1/\p.2.1=p.2.1/\p.2.2.1=p.2.2.1/\p.2.2.2=p.2.2.2/\k=k/\xs=xs/\1=1/\Dk xs=Dk xs/\True)):
  evF (mkc KR2) az 136 [.ptr 2 1 0 0,.dat I o] (mo n p k xs) ⟨mx n o,cal (aB n o).1 (aB n o).2.1 (aB n o).2.2,[]⟩:=oE b
theorem Qo(o:Int)(n:Net)(p:Plan)(b:
 let c2:=(Du n.2.2.2.1 (Dc o) (ByteArray.mk #[],(0:Int),(0:Int),(0:Int),(0:Int),(0:Int),Dt ByteArray)).2.2.1;let c4:=Du n.1 (Dc c2) ((0:Int),Dt Bool,Dt Int);let c6:=(aB n o).2;true/\(mx n o->0<=o/\o<Df n.2.2.2.1/\0<=c2/\c2<Df n.1/\1=1/\0=0/\1=1/\0=0/\c4.1=(aB n o).1/\c4.2.1=c6.1/\c4.2.2=c6.2/\True)):
  evF (mkc KR2) az 136 [.ips (wHd n p .top),.dat I o] [] ⟨mx n o,cal (aB n o).1 (aB n o).2.1 (aB n o).2.2,[]⟩:=oE b
theorem Wn(o t:Int)(k:Nat)(xs:Li)(n:Net)(p:Plan)(b:
 let c1:=n.2.2.2;let c5:=(Du c1.1 (Dc o) (ByteArray.mk #[],(0:Int),(0:Int),(0:Int),(0:Int),(0:Int),Dt ByteArray)).2.2.2.2;let c6:=c5.1*c5.2.1;let c7:=t+c6;true/\(fk n o t->1=1/\1=1/\1=1/\1=1/\0=0/\0<=o/\o<Df c1.1/\1=1/\1=1/\1=1/\1=1/\0=0/\0<=o/\o<Df c1.1/\inR .i64 c6/\inR .i64 c7/\c7=aG n o t/\n.1=n.1/\n.2.1=n.2.1/\n.2.2.1=n.2.2.1/\c1.1=c1.1/\c1.2.1=c1.2.1/\c1.2.2=c1.2.2/\p.1=p.1/\p.2.1=p.2.1/\p.2.2.1=p.2.2.1/\p.2.2.2=p.2.2.2/\k=k/\xs=xs/\1=1/\Dk xs=Dk xs/\True)):
  evF (mkc KR2) az 139 [.ptr 2 1 0 0,.dat I o,.dat I t] (mo n p k xs) ⟨fk n o t,.dat I (aG n o t),[]⟩:=oE b
theorem KH(z m t:Int)(w:List Bool)(h:Li)(f:
 let c1:=(z,w,h);let c2:=Dp m (PX z t);let c3:=gQ z t+1;let c4:=ib w h c3;let c5:=Ec c4 0;let c6:=ik c1 m t;let c7:=my c1 m t;let g:=ic w h c3;let c9:=ib w h (gQ z t);let e:=Ec c9 0;let b:=ic w h (gQ z t);true/\(zy c1 m t->fW z w h t/\(c2->inR .i64 c3/\P6 z w h c3/\(c5->0=c6/\c4=c7/\True)/\(c5=false->lk z w h g m/\jI z g m=c6/\0=c7/\True))/\(c2=false->P6 z w h (gQ z t)/\(e->0=c6/\c9=c7/\True)/\(e=false->lk z w h b m/\jI z b m=c6/\0=c7/\True)))):
  evF (mkc KR2) az 138 [cal z w h,.dat I m,.dat I t] [] ⟨zy (z,w,h) m t,.tup [.dat I (ik (z,w,h) m t),.dat I (my (z,w,h) m t)],[]⟩:=oE f
theorem Qi(v e:Int)(b:
 let c1:=Ec e 0;let c2:=chainOf (Value.iface 39 (Value.int .i64 e));true/\(True->(c1->(true->True/\(false=false->isZero e=false/\true/\c2=c2))/\True)/\(c1=false->isZero e/\v=v/\True))):
  evC (mkc KR2) az 137 [.dat I v,.dat I e] (.dat I v) ⟨True,isZero e,um 39 e⟩:=oE b
theorem Qn(e:Int)(b:
 true/\(True->(true->e=e/\True)/\(true=false->1=e/\True))):
  evF (mkc KR2) az 63 [.ifc 39 (.dat I e)] [] ⟨True,.dat I e,[]⟩:=oE b
theorem Is(i l:Int)(b:
 let c1:=Ed i 0;true/\(True->(c1->c1->c1)/\(c1->c1->c1)/\(Dj true c1->c1)/\Ea c1 (Dp i l) false=dF i l/\True)):
  evF (mkc KR2) az 205 [.dat I i,.dat I l] [] ⟨True,.dat .bool (dF i l),[]⟩:=oE b
theorem Wp(c o:Int)(k:Nat)(xs:Li)(n:Net)(p:Plan)(b:
 let c1:=n.2.2.2;true/\(True->1=1/\0=0/\0=0/\o=o/\c=c/\n.1=n.1/\n.2.1=n.2.1/\n.2.2.1=n.2.2.1/\c1.1=c1.1/\c1.2.1=c1.2.1/\c1.2.2=c1.2.2/\p.1=p.1/\p.2.1=p.2.1/\p.2.2.1=p.2.2.1/\p.2.2.2=p.2.2.2/\k=k/\xs=xs/\1=1/\Dk xs=Dk xs/\True)):
  evF (mkc KR2) az 134 [.ptr 2 1 0 0,.dat I c,.dat I o] (mo n p k xs) ⟨True,.fn 206 [.ipv (.ptr 2 1 0 0),.ip I o,.ip I c],[]⟩:=oE b
def KW3: Kt:=kOr 136 (aCL (wR [.mp 2,.val I] (λ(_,o,_) n _ _ _=>mx n o) λ(_,o,_) n _=>cal (aB n o).1 (aB n o).2.1 (aB n o).2.2) (wI [.val I] (λ(o,_) n _=>mx n o) λ(o,_) n _=>cal (aB n o).1 (aB n o).2.1 (aB n o).2.2)) <|
 kOr 139 (wR [.mp 2,.val I,.val I] (λ(_,o,t,_) n _ _ _=>fk n o t) λ(_,o,t,_) n _=>.dat I (aG n o t)) <|
 kOr 138 (aw [.row C,.val I,.val I] (λ(c,m,t,_)=>zy c m t) λ(c,m,t,_)=>.tup [.dat I (ik c m t),.dat I (my c m t)]) <|
 kOr 137 (aw [.val I,.val I] (λ(_,e,_)=>True/\isZero e=true) λ(v,_,_)=>.dat I v) <|
 kOr 205 (aw [.val I,.val I] (λ_=>True) λ(i,l,_)=>.dat .bool (dF i l)) <|
 kOr 134 (wR [.mp 2,.val I,.val I] (λ_ _ _ _ _=>True) λ(_,c,o,_) _ _=>.fn 206 [.ipv (.ptr 2 1 0 0),.ip I o,.ip I c]) KW2
def aEY: KPt:=pOr 137 (uG [.val I,.val I] λ(_,e,_)=>⟨True,isZero e,um 39 e⟩) Go.Eng.noP
theorem N2{P:Program}{G:List (Nat×AV)}{f:FuncId}{a b:List AV->Mem->Option ja}(e:∀args m c,a args m=some c->af P G f args m c)(hb:∀args m c,b args m=some c->af P G f args m c): ∀args m c,aCL a b args m=some c->af P G f args m c:=by
 intro args m c h;unfold aCL at h;split at h
 .rename_i g;cases h;exact e _ _ _ g
 .exact hb _ _ _ h
theorem bv{t:Ty}{a:AV}{x:t.den}(h:fZ t a=some x): a=.dat t x:=by
 unfold fZ at h;split at h
 .split at h
  .rename_i e;subst e;cases h;rfl
  .cases h
 .cases h
theorem Pn{l:List AV}{n:Net}{p:Plan}{a:AV}(h:aCS l=some (n,p,a)): l=wHd n p a:=by
 unfold aCS at h;split at h
 .split at h
  .rename_i x v u r j i g f e b;cases h;rw[bv x,bv v,bv u,bv r,bv j,bv i,bv g,bv f,bv e,bv b];rfl
  .cases h
 .cases h
theorem Pj{m:Mem}{n:Net}{p:Plan}{k:Nat}{xs:Li}(h:asW m=some (n,p,k,xs)): m=mo n p k xs:=by
 unfold asW at h;split at h
 .split at h
  .rename_i f b;split at h
   .rename_i e;cases h;rw[Pn f,e];have:=bv b;cases this;rfl
   .cases h
  .cases h
 .cases h
theorem V1{a:AV}{n:Net}{p:Plan}(h:asI a=some (n,p)): a=.ips (wHd n p .top):=by
 unfold asI at h;split at h
 .split at h
  .rename_i b;cases h;rw[Pn b]
  .cases h
 .cases h
theorem Qb{P:Program}{G:List (Nat×AV)}{f:FuncId}{l:List AK}{pre:AKs l->Net->Plan->Nat->Li->Prop}{ret:AKs l->Net->Plan->AV}{add:AKs l->Net->Plan->Li}
  (h:∀x n p k xs,af P G f (avK l x) (mo n p k xs) ⟨pre x n p k xs,ret x n p,mo n p (Dz k (Dk (add x n p))) (Ef xs (add x n p))⟩):∀args m c,wK l pre ret add args m=some c->af P G f args m c:=by
 intro args m c b;unfold wK at b;split at b
 .rename_i n p k xs x i g;cases b;rw[Pj i];exact(h x n p k xs).args λC us _ e=>dZ g e
 .cases b
theorem Wl{P:Program}{G:List (Nat×AV)}{f:FuncId}{l:List AK}{pre:AKs l->Net->Plan->Nat->Li->Prop}{ret:AKs l->Net->Plan->AV}
  (h:∀x n p k xs,af P G f (avK l x) (mo n p k xs) ⟨pre x n p k xs,ret x n p,[]⟩):∀args m c,wR l pre ret args m=some c->af P G f args m c:=by
 intro args m c b;unfold wR at b;split at b
 .rename_i n p k xs x i g;cases b;rw[Pj i];exact(h x n p k xs).args λC us _ e=>dZ g e
 .cases b
theorem Z3{P:Program}{G:List (Nat×AV)}{f:FuncId}{l:List AK}{q:AKs l->Net->Plan->Nat->Li->wA}(h:∀x n p k xs,cL P G f (avK l x) (mo n p k xs) (q x n p k xs)): ∀args m r,wP l q args m=some r->cL P G f args m r:=by
 intro args m r b;unfold wP at b;split at b
 .rename_i n p k xs x z y;cases b;rw[Pj z];exact λg i w D E us v u e j=>h x n p k xs g i w D E us v u (dZ y e) j
 .cases b
theorem aDc{P:Program}{G:List (Nat×AV)}{f:FuncId}{l:List AK}{pre:AKs l->Net->Plan->Prop}{ret:AKs l->Net->Plan->AV}
  (h:∀x n p,af P G f (.ips (wHd n p .top)::avK l x) [] ⟨pre x n p,ret x n p,[]⟩):∀args m c,wI l pre ret args m=some c->af P G f args m c:=by
 intro args m c b;unfold wI at b;split at b
 .split at b
  .rename_i n p x r j;cases b;rw[V1 r];refine(h x n p).args λC us _ i=>?_
   obtain⟨u,g,e,y,v⟩:=i;exact⟨u,g,e,y,dZ j v⟩
  .cases b
 .cases b
theorem aDG(k:Nat)(xs ys:Li)(n:Net)(p:Plan): af Tryz.prog G0 66 [.ptr 2 1 0 0,.dat R ys] (mo n p k xs) ⟨ZI xs k/\Ir xs ys,.tup [],mo n p (Dz k (Dk ys)) (Ef xs ys)⟩:=by
 refine ae (c:=mkc KR2) uL aK hm (oF k xs ys n p ⟨rfl,λ⟨b,e⟩=>?_⟩);have b:xs.length=k:=b;have e:xs.length+ys.length<=1000000000000:=e;simp only[qc,Dj,Es,Di,qd,Dt,Eb,Ec,Dp,Eh,Ei,Ed,Ey,Df,Et,Dl,Dn,Eo,Dy,Dw,Dh,Dq,Ee,Fh,Dc,Dx,Dk,Dz,Ej,Du,Eu,Ez,En,Ef,Fe,Fj,Fg,Ep,Em,Ew,Fb,qF];exact⟨by omega,b,by omega,by omega,by omega⟩
theorem aFo: aj Tryz.prog G0 KW1:=ai (Qb λ(_,ys,_) n p k xs=>aDG k xs ys n p) uL
theorem Lu{l:Li}{b k:Int}(h:upTo l k): (upR l b k).length=k.toNat:=by
 unfold upR;rw[vG,qI];have:=h.1;have:=h.2;omega
theorem Rq{l:Li}{b k:Int}(f:0<=k)(e:k<l.length): upR l b (k+1)=upR l b k++[l.getD k.toNat 0+b]:=by
 unfold upR;rw[show(k+1).toNat=k.toNat+1 by omega,wO,qA,qB (show k.toNat<l.length by omega),yU];rfl
theorem RG(b:Int)(k:Nat)(l xs:Li)(n:Net)(p:Plan): af Tryz.prog G0 67 [.ptr 2 1 0 0,.dat I b,.dat R l] (mo n p k xs) ⟨rsP b l xs k,.tup [],mo n p (Dz k (Dk (upR l b (Df l)))) (Ef xs (upR l b (Df l)))⟩:=by
 refine ae (c:=mkc KW1) aFo aK hm (KQ b k l xs n p ⟨rfl,λr=>?_⟩);simp only[qc,Dj,Es,Di,qd,Dt,Eb,Ec,Dp,Eh,Ei,Ed,Ey,Df,Et,Dl,Dn,Eo,Dy,Dw,Dh,Dq,Ee,Fh,Dc,Dx,Dk,Dz,Ej,Du,Eu,Ez,En,Ef,Fe,Fj,Fg,Ep,Em,Ew,Fb,qF];obtain⟨⟨G,A⟩,T,O,u⟩:=r;have y:upTo l l.length:=⟨qV _,qL _⟩;refine⟨by omega,⟨0,⟨qL _,qV _⟩,rfl,by show k=xs.length+0;omega,(wH _).symm⟩,λx f=>⟨λe=>?_,λv=>?_⟩⟩
 .have g:=f.1;have L:=Lu (b:=b) f;have h:=Rq (b:=b) g e;have z:=u _ (getD_mem (l:=l) (i:=x.toNat) (d:=0) (by omega));refine⟨g,e,aL (by omega),⟨by show(xs++upR l b x).length=_;rw[qF],by show(xs++upR l b x).length+_<=1000000000000;rw[qF,vZ];omega⟩,by omega,aL (by omega),x+1,⟨by omega,by omega⟩,⟨rfl,by rw[h,qF];rfl,by rw[h,wM]⟩,by omega⟩
 .have j:=f.2;have:x=l.length:=by omega
  rw[this,Lu y];exact⟨by omega,rfl⟩
theorem aF9: aj Tryz.prog G0 KW2:=ai (Qb λ(_,b,l,_) n p k xs=>RG b k l xs n p) aFo
theorem aAw(o:Int)(k:Nat)(xs:Li)(n:Net)(p:Plan): af Tryz.prog G0 136 [.ptr 2 1 0 0,.dat I o] (mo n p k xs) ⟨mx n o,cal (aB n o).1 (aB n o).2.1 (aB n o).2.2,[]⟩:=by
 refine ae (c:=mkc KR2) uL aK hm (Wq o k xs n p ⟨rfl,λb=>?_⟩);obtain⟨cs,ns,os,h,ls,e⟩:=n;obtain⟨g,f,_⟩:=gb cs ns os h ls e b;simp only[qc,Dj,Es,Di,qd,Dt,Eb,Ec,Dp,Eh,Ei,Ed,Ey,Df,Et,Dl,Dn,Eo,Dy,Dw,Dh,Dq,Ee,Fh,Dc,Dx,Dk,Dz,Ej,Du,Eu,Ez,En,Ef,Fe,Fj,Fg,Ep,Em,Ew,Fb];exact⟨b.2.1,b.2.2,g,f,rfl,rfl,rfl⟩
theorem Xn(o:Int)(n:Net)(p:Plan): af Tryz.prog G0 136 [.ips (wHd n p .top),.dat I o] [] ⟨mx n o,cal (aB n o).1 (aB n o).2.1 (aB n o).2.2,[]⟩:=by
 refine ae (c:=mkc KR2) uL aK hm (Qo o n p ⟨rfl,λb=>?_⟩);obtain⟨cs,ns,os,h,ls,e⟩:=n;obtain⟨g,f,_⟩:=gb cs ns os h ls e b;simp only[qc,Dj,Es,Di,qd,Dt,Eb,Ec,Dp,Eh,Ei,Ed,Ey,Df,Et,Dl,Dn,Eo,Dy,Dw,Dh,Dq,Ee,Fh,Dc,Dx,Dk,Dz,Ej,Du,Eu,Ez,En,Ef,Fe,Fj,Fg,Ep,Em,Ew,Fb];exact⟨b.2.1,b.2.2,g,f,rfl,rfl,rfl⟩
theorem sB(cs:LC)(ns os:LB)(e:Lo)(ls:Ll)(b:Lk){o t:Int}(f:fk (cs,ns,os,e,ls,b) o t): inR .i64 ((bR (cs,ns,os,e,ls,b) o).2.2.2.2.1*(bR (cs,ns,os,e,ls,b) o).2.2.2.2.2.1)/\inR .i64 (aG (cs,ns,os,e,ls,b) o t)/\t<=aG (cs,ns,os,e,ls,b) o t/\aG (cs,ns,os,e,ls,b) o t<=t+960:=by
 obtain⟨g,A,z⟩:=f;obtain⟨_,_,_,v,i,u,h⟩:=gb cs ns os e ls b g;unfold aG;generalize (bR (cs,ns,os,e,ls,b) o).2.2.2.2.1=x at *;generalize (bR (cs,ns,os,e,ls,b) o).2.2.2.2.2.1=y at *;have r:0<=x*y:=qAb (by omega) (by omega);have j:x*y<=4*240:=xJ i h (by omega) (by omega);exact⟨aL (by omega),aL (by omega),by omega,by omega⟩
theorem aAu(o t:Int)(k:Nat)(xs:Li)(n:Net)(p:Plan): af Tryz.prog G0 139 [.ptr 2 1 0 0,.dat I o,.dat I t] (mo n p k xs) ⟨fk n o t,.dat I (aG n o t),[]⟩:=by
 refine ae (c:=mkc KR2) uL aK hm (Wn o t k xs n p ⟨rfl,λb=>?_⟩);obtain⟨cs,ns,os,h,ls,g⟩:=n;obtain⟨f,e,_⟩:=sB cs ns os h ls g b;simp only[qc,Dj,Es,Di,qd,Dt,Eb,Ec,Dp,Eh,Ei,Ed,Ey,Df,Et,Dl,Dn,Eo,Dy,Dw,Dh,Dq,Ee,Fh,Dc,Dx,Dk,Dz,Ej,Du,Eu,Ez,En,Ef,Fe,Fj,Fg,Ep,Em,Ew,Fb];exact⟨b.1.2.1,b.1.2.2,b.1.2.1,b.1.2.2,f,e,rfl⟩
theorem RD(m t:Int)(c:C.den): af Tryz.prog G0 138 [cal c.1 c.2.1 c.2.2,.dat I m,.dat I t] [] ⟨zy c m t,.tup [.dat I (ik c m t),.dat I (my c m t)],[]⟩:=by
 obtain⟨z,w,h⟩:=c;refine ae (c:=mkc KR2) uL aK hm (KH z m t w h ⟨rfl,λv=>?_⟩);obtain⟨O,L⟩:=VR v;obtain⟨f,y,x,G,A⟩:=id v;simp only[qc,Dj,Es,Di,qd,Dt,Eb,Ec,Dp,Eh,Ei,Ed,Ey,Df,Et,Dl,Dn,Eo,Dy,Dw,Dh,Dq,Ee,Fh,Dc,Dx,Dk,Dz,Ej,Du,Eu,Ez,En,Ef,Fe,Fj,Fg,Ep,Em,Ew,Fb]
 have key:∀d,d=d0F (z,w,h) m t->P6 z w h d/\(¬ib w h d=0->(0:Int)=ik (z,w,h) m t/\ib w h d=my (z,w,h) m t)/\(ib w h d=0->lk z w h (ic w h d) m/\jI z (ic w h d) m=ik (z,w,h) m t/\(0:Int)=my (z,w,h) m t):=by
  rintro d rfl;refine⟨⟨f,js (by omega) (by omega)⟩,λb=>⟨(if_neg b).symm,rfl⟩,λb=>?_⟩;obtain⟨u,r,j⟩:=sW b;exact⟨⟨f,js (by omega) (by omega),y,x⟩,(if_pos b).symm,b.symm⟩
 refine⟨⟨f,by omega,by omega⟩,λg=>?_,λi=>?_⟩
 .have e:gQ z t+1=d0F (z,w,h) m t:=(if_pos g).symm;obtain⟨u,r,j⟩:=key _ e;exact⟨by unfold inR;simp only;omega,u,r,j⟩
 .have e:gQ z t=d0F (z,w,h) m t:=(if_neg i).symm;exact key _ e
theorem LM(v e:Int): af Tryz.prog G0 137 [.dat I v,.dat I e] [] ⟨True/\isZero e=true,.dat I v,[]⟩/\cL Tryz.prog G0 137 [.dat I v,.dat I e] [] ⟨True,isZero e,um 39 e⟩:=by
 refine dc (c:=mkc KR2) uL aK hm pU (Qi v e ⟨rfl,λ_=>⟨λh=>⟨λ_=>⟨trivial,λ_=>⟨?_,rfl,rfl⟩⟩,trivial⟩,λh=>⟨?_,rfl,trivial⟩⟩⟩)
 .unfold isZero;simpa[Ec]using h
 .unfold isZero;simpa[Ec]using h
theorem Xm(e:Int): af Tryz.prog G0 63 [.ifc 39 (.dat I e)] [] ⟨True,.dat I e,[]⟩:=
 ae (c:=mkc KR2) uL aK hm (Qn e ⟨rfl,λ_=>⟨λ_=>⟨rfl,trivial⟩,λh=>by cases h⟩⟩)
theorem LO(i l:Int): af Tryz.prog G0 205 [.dat I i,.dat I l] [] ⟨True,.dat .bool (dF i l),[]⟩:=by
 refine ae (c:=mkc KR2) uL aK hm (Is i l ⟨rfl,λ_=>⟨λh _=>h,λh _=>h,λh=>by simpa[Dj]using h,?_,trivial⟩⟩);unfold dF;simp only[Ea,Ed,Dp,kQ];by_cases h:0<=i<;>simp[h]
theorem aAv(c o:Int)(k:Nat)(xs:Li)(n:Net)(p:Plan): af Tryz.prog G0 134 [.ptr 2 1 0 0,.dat I c,.dat I o] (mo n p k xs) ⟨True,.fn 206 [.ipv (.ptr 2 1 0 0),.ip I o,.ip I c],[]⟩:=by
 refine ae (c:=mkc KR2) uL aK hm (Wp c o k xs n p ⟨rfl,λ_=>?_⟩);simp only[qc,Dj,Es,Di,qd,Dt,Eb,Ec,Dp,Eh,Ei,Ed,Ey,Df,Et,Dl,Dn,Eo,Dy,Dw,Dh,Dq,Ee,Fh,Dc,Dx,Dk,Dz,Ej,Du,Eu,Ez,En,Ef,Fe,Fj,Fg,Ep,Em,Ew,Fb]
theorem ZT: aj Tryz.prog G0 KW3:=ai (N2 (Wl λ(_,o,_) n p k xs=>aAw o k xs n p) (aDc λ(o,_) n p=>Xn o n p)) <|
 ai (Wl λ(_,o,t,_) n p k xs=>aAu o t k xs n p)<|ai (ag λ(c,m,t,_)=>RD m t c)<|ai (ag λ(v,e,_)=>(LM v e).1) <|
 ai (ag λ(i,l,_)=>LO i l)<|ai (Wl λ(_,c,o,_) n p k xs=>aAv c o k xs n p) aF9
theorem PH: bH Tryz.prog G0 aEY:=hC (iT λ(v,e,_)=>(LM v e).2) pU
def oo(w:List Bool)(h:Li)(a b:Int): Int:=if b<=a+2000 then((iD w h (a+1) (b-a)).length:Int)else -1
def countP(z:Int)(w:List Bool)(h:Li)(a b:Int): Prop:=ax z w h=true/\bT a=true/\bT b=true
def LA(k:Nat)(l:Li): Prop:=k<=l.length/\l.length<=100000
def tQ(x:Int): Bool:=decide (-1<=x/\x<=65518)
def fY(_o x:Int): Bool:=tQ x
def sgR(g:Int->Int->Bool)(m o:Int)(row:Li): Bool:=decide ((row.length:Int)=m)&&row.all (g o)
def sgF(g:Int->Int->Bool)(t:Lj)(m:Int): Bool:=decide ((t.length:Int)=m)&&(List.range t.length).all λi=>sgR g m i (t.getD i [])
def C2(g:Int->Int->Bool)(t:Lj)(m k:Int): Prop:=0<=k/\k<=t.length/\(t.length:Int)=m/\∀i:Nat,(i:Int)<k->sgR g m i (t.getD i [])=true
def mr(g:Int->Int->Bool)(row:Li)(m o k:Int): Prop:=0<=k/\k<=row.length/\(row.length:Int)=m/\∀i:Nat,(i:Int)<k->g o (row.getD i 0)=true
def fb(p:Plan): Prop:=cn p.2.2.1/\p.2.2.2.length<=1000000/\∀t∈p.2.2.2,cn t
def mF(p:Plan): Bool:=decide (0<=p.1/\p.1<p.2.1/\p.2.1<=600/\p.2.1-p.1<=60)
def pz(n:Net)(p:Plan): Bool:=decide ((p.2.2.2.length:Int)=n.2.2.2.2.2.length)&&p.2.2.2.all λt=>sgF fY t n.2.2.2.1.length
def fw(n:Net)(p:Plan): Bool:=mF p&&(mO n p.2.2.1&&pz n p)
def qg(n:Net)(p:Plan)(k:Int): Prop:=0<=k/\k<=p.2.2.2.length/\mF p=true/\mO n p.2.2.1=true/\(p.2.2.2.length:Int)=n.2.2.2.2.2.length/\∀i:Nat,(i:Int)<k->sgF fY (p.2.2.2.getD i []) n.2.2.2.1.length=true
def aBX(w:List Bool)(h:Li)(a b:Int): Ann:=⟨λid s=>match id with
 | 5=>some {α:=Nat,inv:=λk=>LA k (iD w h (Dq a 1) (Dh b a)),st:=λk=>gC (flat s) 0 (.var [.dat I (Dx k)]),μ:=λk=>k}
 | _=>none,λ_ _=>none,λ_ _=>none⟩
theorem Q0(z:Int)(w:List Bool)(h:Li)(a b:Int)(j:
 let c1:=Di (ax z w h);let c2:=Di c1;let c3:=Ea c1 true (Di (bT a));let c4:=Di c3;let c5:=Ea c3 true (Di (bT b));let c6:=Di c5;let c14:=c6->c6->c6;let c7:=a+2000;let i:=Ea c5 true (Eh b c7);let c9:=oo w h a b;let e:=a+1;let f:=iD w h e (b-a);let c12:=(z,w,h);true/\(countP z w h a b->True/\(c2->c2->c2)/\(c2->True)/\(c2->c2->c2)/\(Dj true c2->c2)/\(c4->c4->c4)/\(c4->True)/\(c4->c4->c4)/\(Dj true c4->c4)/\c14/\(c6->inR .i64 c7)/\c14/\c14/\(Dj true c6->c6)/\(i->(-1:Int)=c9/\True)/\(i=false->1=1/\0=0/\inR .i64 e/\inR .i64 (b-a)/\Dk w=7/\JI w h e (b-a)/\(∃x,LA x f/\x=0/\z=z/\w=w/\h=h/\a=a/\b=b/\c12=c12/\(0:Int)=(0:Int)/\1=1/\0=0/\0=0/\z=z/\w=w/\h=h/\ax z w h=ax z w h/\c1=c1/\c1=c1/\c3=c3/\c3=c3/\c5=c5/\c5=c5/\i=i/\z=z/\w=w/\h=h/\a=a/\e=e/\b=b/\a=a/\b-a=b-a/\e=e/\b-a=b-a/\w=w/\c12=c12/\0=Dx x/\True)/\(∀(x:Nat),let c13:=Dx x+1;∀(y:Int),LA x f->lC f x y->1=1/\0=0/\inR .i64 c13/\1=1/\0=0/\∃g,LA g f/\g=x+1/\z=z/\w=w/\h=h/\a=a/\b=b/\c12=c12/\(0:Int)=(0:Int)/\1=1/\0=0/\0=0/\z=z/\w=w/\h=h/\ax z w h=ax z w h/\c1=c1/\c1=c1/\c3=c3/\c3=c3/\c5=c5/\c5=c5/\i=i/\z=z/\w=w/\h=h/\a=a/\e=e/\b=b/\a=a/\b-a=b-a/\e=e/\b-a=b-a/\w=w/\c12=c12/\c13=Dx g/\True)/\∀(x:Nat),LA x f->x=Dk f->1=1/\0=0/\Dx x=c9/\True))):
  evF (aCK KR1) (aBX w h a b) 140 [cal z w h,.dat I a,.dat I b] [] ⟨countP z w h a b,.dat I (oo w h a b),[]⟩:=oE j
theorem WZ(o x:Int)(b:
 let c1:=Ed x (-1);true/\(True->(c1->c1->c1)/\(Dj true c1->c1)/\Ea c1 (Ei x 65518) false=fY o x/\True)):
  evF (mkc KW3) az 133 [.dat I o,.dat I x] [] ⟨True,.dat .bool (fY o x),[]⟩:=oE b
theorem QP(n:Net)(b:
 true/\(True->n=n/\True)):
  evF (mkc KW3) az 132 [.ip N n] [] ⟨True,.fn 204 [.ipv (.ip N n)],[]⟩:=oE b
theorem QQ(o x:Int)(cs:LC)(ns os:LB)(f:Lo)(ls:Ll)(b:Lk)(e:
 let c1:=Eb x (-1);let c2:=Di c1;let c6:=c2->c2->c2;let c3:=Df ls;let c4:=dF x c3;let c5:=Dj c2 c4->Dj c2 c4->Dj c2 c4;true/\(True->c6/\c6/\c6/\c6/\c6/\c6/\(c2->True)/\c6/\c5/\c5/\c5/\c5/\c5/\(Dj c2 c4->0<=x)/\(Dj c2 c4->x<c3)/\c5/\c5/\c5/\c5/\c6/\(c2->Dj c2 c4->Dj c2 c4)/\(Dj true c2->c2)/\Ea c1 true (Ea c4 (Eb (Du ls (Dc x) (ByteArray.mk #[],(0:Int),(0:Int),(0:Int),(0:Int),(0:Int))).2.1 o) false)=aS (cs,ns,os,f,ls,b) o x/\True)):
  evF (mkc KW3) az 204 [.dat I o,.dat I x,.ipv (.ip N (cs,ns,os,f,ls,b))] [] ⟨True,.dat .bool (aS (cs,ns,os,f,ls,b) o x),[]⟩:=oE e
def KW4: Kt:=kOr 133 (aw [.val I,.val I] (λ_=>True) λ(o,x,_)=>.dat .bool (fY o x)) <|
 kOr 132 (aw [.ptr N] (λ_=>True) λ(n,_)=>.fn 204 [.ipv (.ip N n)]) <|
 kOr 204 (aw [.val I,.val I,.bp N] (λ_=>True) λ(o,x,n,_)=>.dat .bool (aS n o x)) <|
 kOr 140 (aw [.row C,.val I,.val I] (λ(c,a,b,_)=>countP c.1 c.2.1 c.2.2 a b) λ(c,a,b,_)=>.dat I (oo c.2.1 c.2.2 a b)) KW3
def sgA(g:Int->Int->Bool)(t:Lj)(m:Int): Ann:=⟨λid s=>match id with
 | 4=>some {α:=Int,inv:=λk=>C2 g t m k,st:=λk=>put s [(17,.dat I k)],μ:=λk=>Dc (Dh (Df t) k)}
 | 9=>match s.sig.T 17,s.sig.T 26 with
  | .dat (.int .i64) o,.dat (.sl (.int .i64)) row=>some {α:=Int,inv:=λk=>mr g row m o k,st:=λk=>put s [(28,.dat I k)],μ:=λk=>Dc (Dh (Df row) k)}
  | _,_=>none
 | _=>none,λ_ _=>none,λ_ _=>none⟩
theorem Z7(t:Lj)(m:Int)(n:Net)(e:
 let c1:=Ec (Df t) m;let c2:=sgF (aS n) t m;true/\(cn t->(c1->false=c2/\True)/\(c1=false->(∃x,C2 (aS n) t m x/\m=m/\n=n/\t=t/\Df t=Df t/\0=x/\True)/\∀(x:Int),let c3:=Dp x (Df t);let c4:=Du t (Dc x) [];let c5:=Df c4;let c6:=Ec c5 m;let c7:=x+1;C2 (aS n) t m x->(c3->0<=x/\x<Df t/\(c6->false=c2/\True)/\(c6=false->(∃b,mr (aS n) c4 m x b/\m=m/\n=n/\x=x/\c4=c4/\t=t/\Df t=Df t/\x=x/\c4=c4/\c5=c5/\0=b/\True)/\∀(b:Int),let f:=Di (aS n x (Du c4 (Dc b) 0));let c9:=b+1;mr (aS n) c4 m x b->(Dp b c5->0<=b/\b<c5/\True/\(f->false=c2/\True)/\(f=false->inR .i64 c9/\∃y,mr (aS n) c4 m x y/\(m=m/\n=n/\x=x/\c4=c4/\t=t/\Df t=Df t/\x=x/\c4=c4/\c5=c5/\c9=y/\True)/\Dc (c5-y)<Dc (c5-b)))/\(Dp b c5=false->inR .i64 c7/\∃y,C2 (aS n) t m y/\(m=m/\n=n/\t=t/\Df t=Df t/\c7=y/\True)/\Dc (Df t-y)<Dc (Df t-x))))/\(c3=false->true=c2/\True)))):
  evF (mkc KW4) (lvA [(4,[1,2,6,7,8,10,15,16,17,26,27,28]),(9,[1,2,6,7,8,10,15,16,17,26,27,28])] (sgA (aS n) t m)) 131 [.dat M t,.dat I m,.fn 204 [.ipv (.ip N n)]] [] ⟨cn t,.dat .bool (sgF (aS n) t m),[]⟩:=oE e
theorem Z8(t:Lj)(m:Int)(e:
 let c1:=Ec (Df t) m;true/\(cn t->(c1->false=sgF fY t m/\True)/\(c1=false->(∃x,C2 fY t m x/\m=m/\t=t/\Df t=Df t/\0=x/\True)/\∀(x:Int),let c2:=Dp x (Df t);let c3:=Du t (Dc x) [];let c4:=Df c3;let c5:=Ec c4 m;let c6:=x+1;C2 fY t m x->(c2->0<=x/\x<Df t/\(c5->false=sgF fY t m/\True)/\(c5=false->(∃b,mr fY c3 m x b/\m=m/\x=x/\c3=c3/\t=t/\Df t=Df t/\x=x/\c3=c3/\c4=c4/\0=b/\True)/\∀(b:Int),let c7:=Di (fY x (Du c3 (Dc b) 0));let f:=b+1;mr fY c3 m x b->(Dp b c4->0<=b/\b<c4/\True/\(c7->false=sgF fY t m/\True)/\(c7=false->inR .i64 f/\∃y,mr fY c3 m x y/\(m=m/\x=x/\c3=c3/\t=t/\Df t=Df t/\x=x/\c3=c3/\c4=c4/\f=y/\True)/\Dc (c4-y)<Dc (c4-b)))/\(Dp b c4=false->inR .i64 c6/\∃y,C2 fY t m y/\(m=m/\t=t/\Df t=Df t/\c6=y/\True)/\Dc (Df t-y)<Dc (Df t-x))))/\(c2=false->true=sgF fY t m/\True)))):
  evF (mkc KW4) (lvA [(4,[1,2,6,7,8,10,15,16,17,26,27,28]),(9,[1,2,6,7,8,10,15,16,17,26,27,28])] (sgA fY t m)) 131 [.dat M t,.dat I m,.fn 133 []] [] ⟨cn t,.dat .bool (sgF fY t m),[]⟩:=oE e
def KW5: Kt:=kOr 131 (aCL (aw [.val M,.val I,.fnb 204 N] (λ(t,_,_,_)=>cn t) λ(t,m,n,_)=>.dat .bool (sgF (aS n) t m)) (aw [.val M,.val I,.fn0 133] (λ(t,_,_)=>cn t) λ(t,m,_)=>.dat .bool (sgF fY t m))) KW4
def aEt(n:Net)(p:Plan): Ann:=⟨λid s=>match id with
 | 7=>some {α:=Int,inv:=λk=>qg n p k,st:=λk=>put s [(74,.dat I k)],μ:=λk=>Dc (Dh (Df p.2.2.2) k)}
 | _=>none,λ_ _=>none,λ_ _=>none⟩
theorem Qk(n:Net)(p:Plan)(v:
 let c1:=p.2.2.2;let c2:=Dp p.1 0;let c3:=Di c2;let c12:=c3->c3->c3;let c6:=Ea c2 true (Ei p.2.1 p.1);let c7:=Di c6;let c13:=c7->c7->c7;let z:=Ea c6 true (Eh p.2.1 600);let c9:=Di z;let c5:=c9->c9->c9;let u:=p.2.1-p.1;let r:=Ea z true (Eh u 60);let c14:=Df c1;let j:=Ec c14 (Df n.2.2.2.2.2);let b:=Di j;let c4:=b->b->b;let i:=Df n.2.2.2.1;let h:=Ea j true (Di (sgF (aS n) p.2.2.1 i));true/\(fb p->c12/\c12/\c12/\c12/\c12/\c12/\c12/\c12/\(Dj true c3->c3)/\c13/\c13/\c13/\c13/\(Dj true c7->c7)/\c5/\c5/\c5/\c5/\c5/\c5/\c5/\c5/\(c9->inR .i64 u)/\c5/\(Dj true c9->c9)/\(r->false=fw n p/\True)/\(r=false->c4/\c4/\c4/\c4/\c4/\c4/\c4/\c4/\(b->True)/\c4/\c4/\c4/\(b->cn p.2.2.1)/\c4/\(Dj true b->b)/\(h->false=fw n p/\True)/\(h=false->(∃x,qg n p x/\n=n/\c1=c1/\c14=c14/\0=x/\True)/\∀(x:Int),let g:=Du c1 (Dc x) (Dt (Li));let f:=Di (sgF fY g i);let e:=x+1;qg n p x->(Dp x c14->0<=x/\x<c14/\cn g/\(f->false=fw n p/\True)/\(f=false->inR .i64 e/\∃y,qg n p y/\(n=n/\c1=c1/\c14=c14/\e=y/\True)/\Dc (c14-y)<Dc (c14-x)))/\(Dp x c14=false->true=fw n p/\True))))):
  evF (mkc KW5) (lvA [(7,[0,4,5,7,72,73,74])] (aEt n p)) 65 [.ip N n,.ip Pl p] [] ⟨fb p,.dat .bool (fw n p),[]⟩:=oE v
theorem MO (z : Int) (w : List Bool) (h : Li) (a b : Int) : af Tryz.prog G0 140 [cal z w h, .dat I a, .dat I b] [] ⟨countP z w h a b, .dat I (oo w h a b), []⟩ := by
  refine ae (c := aCK KR1) aEL aCt hm (Q0 z w h a b ⟨rfl, fun ⟨hv, ha, hb⟩ => ?_⟩)
  have hc := zm hv
  have ha' := okd ha
  have hb' := okd hb
  have hl : (iD w h (a + 1) (b - a)).length ≤ (b - a).toNat := by
    unfold iD
    exact wL (yR _ _) (by simp)
  simp only [hv, ha, hb, qc, Dj, Es, Di, qd, Dt, Eb, Ec, Dp, Eh, Ei, Ed, Ey, Df, Et, Dl, Dn, Eo, Dy, Dw, Dh, Dq, Ee, Fh, Dc, Dx, Dk, Dz, Ej, Du, Eu, Ez, En, Ef, Fe, Fj, Fg, Ep, Em, Ew, Fb, yA, yD, qAu, qAj, kV, vX, xH, reduceCtorEq, qAh, kK, qAm]
  refine ⟨⟨by omega, by omega⟩, fun hgt => (if_neg (by omega)).symm, fun hab => ⟨⟨by omega, by omega⟩, ⟨by omega, by omega⟩, hc.1, ⟨hc, by omega, by omega, by omega, by omega⟩, ⟨0, ⟨by omega, by omega⟩, rfl, rfl⟩, fun k y hk hy => ?_, fun k hk hlen => ?_⟩⟩
  · have hy : (iD w h (a + 1) (b - a))[k]? = some y := hy
    have := (qG.1 hy).1
    obtain ⟨k1, k2⟩ := hk
    refine ⟨⟨by omega, by omega⟩, k + 1, ⟨by omega, k2⟩, rfl, by omega⟩
  · rw [hlen]; exact (if_pos (by omega)).symm
theorem aAO(o x:Int): af Tryz.prog G0 133 [.dat I o,.dat I x] [] ⟨True,.dat .bool (fY o x),[]⟩:=by
 refine ae (c:=mkc KW3) ZT aK hm (WZ o x ⟨rfl,λ_=>⟨λh _=>h,λh=>by simpa[Dj]using h,?_,trivial⟩⟩);unfold fY tQ;simp only[Ea,Ed,Ei,kQ];by_cases h:-1<=x<;>simp[h]
theorem XH(n:Net): af Tryz.prog G0 132 [.ip N n] [] ⟨True,.fn 204 [.ipv (.ip N n)],[]⟩:=
 ae (c:=mkc KW3) ZT aK hm (QP n ⟨rfl,λ_=>⟨rfl,trivial⟩⟩)
theorem XI(o x:Int)(cs:LC)(ns os:LB)(f:Lo)(ls:Ll)(b:Lk): af Tryz.prog G0 204 [.dat I o,.dat I x,.ipv (.ip N (cs,ns,os,f,ls,b))] [] ⟨True,.dat .bool (aS (cs,ns,os,f,ls,b) o x),[]⟩:=by
 refine ae (c:=mkc KW3) ZT aK hm (QQ o x cs ns os f ls b ⟨rfl,λ_=>?_⟩);have e:Ea (Eb x (-1)) true (Ea (dF x (Df ls)) (Eb (Du ls (Dc x) (ByteArray.mk (Dt UInt8).toArray,(0:Int),(0:Int),(0:Int),(0:Int),(0:Int))).snd.fst o) false)=aS (cs,ns,os,f,ls,b) o x:=by
  unfold aS;rw[ql,iZ]
  congr 1
 rw[e];simp only[qc,Dj,Es,Di,qd,Dt,Eb,Ec,Dp,Eh,Ei,Ed,Ey,Df,Et,Dl,Dn,Eo,Dy,Dw,Dh,Dq,Ee,Fh,Dc,Dx,Dk,Dz,Ej,Du,Eu,Ez,En,Ef,Fe,Fj,Fg,Ep,Em,Ew,Fb];unfold dF;simp only[qE];exact⟨λh=>h.2.1,λh=>h.2.2⟩
theorem aCY: aj Tryz.prog G0 KW4:=ai (ag λ(o,x,_)=>aAO o x)<|ai (ag λ(n,_)=>XH n)<|ai (ag λ(o,x,(cs,ns,os,f,ls,e),_)=>XI o x cs ns os f ls e) <|
 ai (ag λ((z,w,h),a,b,_)=>MO z w h a b) ZT
theorem AA{g:Int->Int->Bool}{t:Lj}{m:Int}(b:(t.length:Int)=m): sgF g t m=true↔∀i:Nat,(i:Int)<t.length->sgR g m i (t.getD i [])=true:=by
 unfold sgF;simp only[qC,qE,qN,vF];exact⟨λh i hi=>h.2 i (by omega),λh=>⟨b,λi hi=>h i (by omega)⟩⟩
theorem DL{g:Int->Int->Bool}{m o:Int}{row:Li}(e:(row.length:Int)=m): sgR g m o row=true↔∀i:Nat,(i:Int)<row.length->g o (row.getD i 0)=true:=by
 unfold sgR;simp only[qC,qE,qN];refine⟨λh i hi=>h.2 _ ?_,λh=>⟨e,λx b=>?_⟩⟩
 .rw[qA,qB (by omega),qP];exact wE _
 .obtain⟨i,hi,rfl⟩:=wY.1 b;have:=h i (by omega);rw[qA,qB hi,qP]at this;exact this
theorem xk(g:Int->Int->Bool){t:Lj}{m:Int}(T:cn t): ((t.length:Int)≠m->false=sgF g t m)/\((t.length:Int)=m->C2 g t m 0/\∀x:Int,C2 g t m x->
  (x<t.length->0<=x/\x<t.length/\(((t.getD x.toNat []).length:Int)≠m->false=sgF g t m)/\(((t.getD x.toNat []).length:Int)=m->mr g (t.getD x.toNat []) m x 0/\∀y:Int,mr g (t.getD x.toNat []) m x y->
   (y<(t.getD x.toNat []).length->0<=y/\y<(t.getD x.toNat []).length/\(g x ((t.getD x.toNat []).getD y.toNat 0)=false->false=sgF g t m)/\
    (g x ((t.getD x.toNat []).getD y.toNat 0)=true->inR .i64 (y+1)/\∃z,mr g (t.getD x.toNat []) m x z/\y+1=z/\(((t.getD x.toNat []).length:Int)-z).toNat<(((t.getD x.toNat []).length:Int)-y).toNat))/\
   (¬y<(t.getD x.toNat []).length->inR .i64 (x+1)/\∃z,C2 g t m z/\x+1=z/\((t.length:Int)-z).toNat<((t.length:Int)-x).toNat)))/\(¬x<t.length->true=sgF g t m)):=by
 have f:∀x:Int,0<=x->((x.toNat:Nat):Int)=x:=λx h=>by omega
 refine⟨λh=>?_,λe=>⟨⟨qL _,by omega,e,λi h=>by omega⟩,λx ⟨r,x1,_,G⟩=>⟨λO=>?_,λO=>?_⟩⟩⟩
 .unfold sgF;rw[vV h];rfl
 .have hr:=T.2 _ (getD_mem (l:=t) (i:=x.toNat) (d:=[]) (by omega));have X:=T.1;refine⟨r,O,λh=>?_,λhm=>⟨⟨qL _,by omega,hm,λi h=>by omega⟩,λy ⟨V,Z,_,A⟩=>⟨λL=>⟨V,L,λh=>?_,λh=>?_⟩,λL=>?_⟩⟩⟩
  .refine(xK.2 λu=>h ?_).symm;have b:=(AA e).1 u x.toNat (by omega);unfold sgR at b;simp only[qC,qE]at b;exact b.1
  .refine(xK.2 λu=>?_).symm;have b:=(DL hm).1 ((AA e).1 u x.toNat (by omega)) y.toNat (by omega);rw[f x r,h]at b;cases b
  .refine⟨aL (by omega),y+1,⟨by omega,by omega,hm,λi hi=>?_⟩,rfl,by omega⟩;by_cases v:(i:Int)<y
   .exact A i v
   .have:i=y.toNat:=by omega
    subst this;exact h
  .refine⟨aL (by omega),x+1,⟨by omega,by omega,e,λi hi=>?_⟩,rfl,by omega⟩;by_cases v:(i:Int)<x
   .exact G i v
   .have:i=x.toNat:=by omega
    subst this;exact(DL hm).2 λj hj=>by rw[f x r];exact A j (by omega)
 .exact((AA e).2 λi hi=>G i (by omega)).symm
theorem aDo(t:Lj)(m:Int): af Tryz.prog G0 131 [.dat M t,.dat I m,.fn 133 []] [] ⟨cn t,.dat .bool (sgF fY t m),[]⟩:=by
 refine ae (c:=mkc KW4) aCY aK hm (Z8 t m ⟨rfl,λb=>?_⟩);simp only[qc,Dj,Es,Di,qd,Dt,Eb,Ec,Dp,Eh,Ei,Ed,Ey,Df,Et,Dl,Dn,Eo,Dy,Dw,Dh,Dq,Ee,Fh,Dc,Dx,Dk,Dz,Ej,Du,Eu,Ez,En,Ef,Fe,Fj,Fg,Ep,Em,Ew,Fb];exact xk fY b
theorem aDn(t:Lj)(m:Int)(n:Net): af Tryz.prog G0 131 [.dat M t,.dat I m,.fn 204 [.ipv (.ip N n)]] [] ⟨cn t,.dat .bool (sgF (aS n) t m),[]⟩:=by
 refine ae (c:=mkc KW4) aCY aK hm (Z7 t m n ⟨rfl,λb=>?_⟩);simp only[qc,Dj,Es,Di,qd,Dt,Eb,Ec,Dp,Eh,Ei,Ed,Ey,Df,Et,Dl,Dn,Eo,Dy,Dw,Dh,Dq,Ee,Fh,Dc,Dx,Dk,Dz,Ej,Du,Eu,Ez,En,Ef,Fe,Fj,Fg,Ep,Em,Ew,Fb];exact xk (aS n) b
theorem aFm: aj Tryz.prog G0 KW5:=ai (N2 (ag λ(t,m,n,_)=>aDn t m n) (ag λ(t,m,_)=>aDo t m)) aCY
theorem Xj(n:Net)(p:Plan): af Tryz.prog G0 65 [.ip N n,.ip Pl p] [] ⟨fb p,.dat .bool (fw n p),[]⟩:=by
 refine ae (c:=mkc KW5) aFm aK hm (Qk n p ⟨rfl,λ⟨T,V,O⟩=>?_⟩);simp only[qc,Dj,Es,Di,qd,Dt,Eb,Ec,Dp,Eh,Ei,Ed,Ey,Df,Et,Dl,Dn,Eo,Dy,Dw,Dh,Dq,Ee,Fh,Dc,Dx,Dk,Dz,Ej,Du,Eu,Ez,En,Ef,Fe,Fj,Fg,Ep,Em,Ew,Fb];have G:sgF (aS n) p.2.2.1 n.2.2.2.1.length=mO n p.2.2.1:=rfl;rw[G];have L:∀i:Nat,(i:Int)<p.2.2.2.length->p.2.2.2.getD i []∈p.2.2.2:=λi hi=>getD_mem (by omega)
 have v:(p.2.2.2.length:Int)=n.2.2.2.2.2.length->(pz n p=true↔∀i:Nat,(i:Int)<p.2.2.2.length->sgF fY (p.2.2.2.getD i []) n.2.2.2.1.length=true):=λz=>by
  unfold pz;simp only[qC,qE,qN];refine⟨λh i hi=>h.2 _ (L i hi),λh=>⟨z,λx e=>?_⟩⟩;obtain⟨i,hi,rfl⟩:=wY.1 e;have:=h i (by omega);rw[qA,qB hi,qP]at this;exact this
 refine⟨λh=>aL (by omega),λh=>?_,λh=>⟨λ_=>T,λb=>?_,λ⟨b,r⟩=>?_⟩⟩
 .unfold fw mF;rw[vV (by omega)];rfl
 .unfold fw pz;rcases b with b | b
  .rw[vV b];simp
  .rw[b];simp
 .have g:mF p=true:=by unfold mF;exact qW (by omega)
  refine⟨⟨qL _,by omega,g,r,b,λi hi=>by omega⟩,λx ⟨y,x1,_,_,_,u⟩=>⟨λe=>⟨y,e,O _ (getD_mem (by omega)),λj=>?_,λj=>?_⟩,λe=>?_⟩⟩
  .refine(xK.2 λf=>?_).symm;unfold fw at f;simp only[qC]at f;have:=(v b).1 f.2.2 x.toNat (by omega);rw[j]at this;cases this
  .refine⟨aL (by omega),x+1,⟨by omega,by omega,g,r,b,λi hi=>?_⟩,rfl,by omega⟩;by_cases A:(i:Int)<x
   .exact u i A
   .have:i=x.toNat:=by omega
    subst this;exact j
  .unfold fw;rw[g,r,(v b).2 λi hi=>u i (by omega)];rfl
end Go.Eng.Sv
