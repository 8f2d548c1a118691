/- PeTr2n PeTr3n PeTr4n PeTt3n PeTt4n PeTt7n PeRo2n PeRo5n PeCoL0 PeCoL1 PeIn1n PeInS PeIn2n PeTr5n PeTrDn PeWa1n -/
import Derived.Test.YtlakcpmgefpfaaaGreatDoorECGroupsA
import Derived.Test.YtlakcpmgefpfaaaGreatDoorECGroupsB
import Derived.Test.YtlakcpmgefpfaaaGreatDoorECGroupsC
import Derived.Test.YtlakcpmgefpfaaaGreatDoorECGroupsD
import Derived.Shelf.SlGeneric
import Derived.Shelf.SlIterI.Nil
import Derived.Shelf.SortM.Plain
import Derived.Shelf.SortM.SortNone
import Derived.Ground.GgzProg
import Derived.Ground.SlgmProg
import Derived.Test.YtlakcpmgefpfaaaGreatDoorProg
import Derived.RangeFuncNested
import Derived.RangeFuncBound
import Derived.RangeFuncCalls
import Derived.RangeFuncLeaves
import Derived.RangeFuncWrites
import Derived.Shelf.Abstract
import Derived.Shelf.RegionOpen
import Derived.WalkKit
import Derived.OwnWalkIn
import Derived.TacticsInMore
import Derived.LoopNIn
import Derived.LoopIn
import Derived.Maps.OwnIn
import Derived.Test.YtlakcpmgefpfaaaGreatDoorChecked
set_option linter.unusedSimpArgs false
set_option linter.unusedVariables false
set_option maxRecDepth 100000
noncomputable section
namespace Go.Eng.Sv
open Go.Proofs
abbrev um(t:TypeId)(e:Int): Value:=.iface t (.int .i64 e)
abbrev Stp: Ty:=.pair I (.pair I (.pair I I))
abbrev Stop:=Int×Int×Int×Int
abbrev Pl: Ty:=.pair I (.pair I (.pair M (.sl M)))
abbrev Plan:=Int×Int×Lj×List (Lj)
def dw(t:Int): Bool:=decide (0<=t/\t<=2000000)
def b7(n:Net)(o:Int): Off:=n.2.2.2.1.getD o.toNat (⟨#[]⟩,0,0,0,0,0,[])
def o8(n:Net)(l:Int): Line:=n.2.2.2.2.1.getD l.toNat (⟨#[]⟩,0,0,0,0,0)
def aB(n:Net)(o:Int): Int×List Bool×Li:=n.1.getD (b7 n o).2.2.1.toNat (0,[],[])
def cN(n:Net)(l:Int): Int:=(o8 n l).2.1
def Hl(n:Net)(l:Int): Int:=(o8 n l).2.2.1
def I8(n:Net)(l:Int): Int:=(o8 n l).2.2.2.1
def iP(n:Net)(l:Int): Int:=(o8 n l).2.2.2.2.1
def my(n:Net)(o:Int): Prop:=noF n=true/\0<=o/\o<n.2.2.2.1.length
def Nu(n:Net)(l:Int): Prop:=noF n=true/\0<=l/\l<n.2.2.2.2.1.length
def aT(n:Net)(o l:Int): Bool:=decide (l=-1)||(dM l n.2.2.2.2.1.length&&decide (cN n l=o))
def rowOk(n:Net)(o:Int)(row:Li): Bool:=decide ((row.length:Int)=n.2.2.2.1.length)&&row.all (aT n o)
def mQ(n:Net)(nx:Lj): Bool:=decide ((nx.length:Int)=n.2.2.2.1.length)&&(List.range nx.length).all λi=>rowOk n i (nx.getD i [])
def cC(nx:Lj): Prop:=nx.length<=1000000/\∀r∈nx,r.length<=1000000
def GX(n:Net)(nx:Lj)(k:Int): Prop:=0<=k/\k<=nx.length/\(nx.length:Int)=n.2.2.2.1.length/\∀i:Nat,(i:Int)<k->rowOk n i (nx.getD i [])=true
def R9(n:Net)(o:Int)(row:Li)(k:Int): Prop:=0<=k/\k<=row.length/\(row.length:Int)=n.2.2.2.1.length/\∀i:Nat,(i:Int)<k->aT n o (row.getD i 0)=true
def d0F(c:Int×List Bool×Li)(m t:Int): Int:=if m<Pj c.1 t then gY c.1 t+1 else gY c.1 t
def iz(c:Int×List Bool×Li)(m t:Int): Int:=if iq c.2.1 c.2.2 (d0F c m t)=0 then jF c.1 (iu c.2.1 c.2.2 (d0F c m t)) m else 0
def mB(c:Int×List Bool×Li)(m t:Int): Int:=iq c.2.1 c.2.2 (d0F c m t)
def zu(c:Int×List Bool×Li)(m t:Int): Prop:=aw c.1 c.2.1 c.2.2=true/\0<=m/\m<1440/\-1000000<=t/\t<=100000000
def aH(n:Net)(o t:Int): Int:=t+(b7 n o).2.2.2.2.1*(b7 n o).2.2.2.2.2.1
def fB(n:Net)(o t:Int): Prop:=my n o/\-1000000000<=t/\t<=1000000000
def tN(n:Net)(l t:Int): Int:=if dw t=true then iz (aB n (cN n l)) (I8 n l) t else 0
def ry(n:Net)(l t:Int): Int:=if dw t=true then mB (aB n (cN n l)) (I8 n l) t else 1
def isZero(e:Int): Bool:=decide (e=0)
def KR2: Kt:=kOr 160 (ax [.row C,.val I] (λ(c,d,_)=>Pz c.1 c.2.1 c.2.2 d) λ(c,d,_)=>.tup [.dat I (iu c.2.1 c.2.2 d),.dat I (iq c.2.1 c.2.2 d)]) KR1
theorem Ii(i l:Int)(hvc:
 let c1:=Ed i 0;true/\(True->(c1->c1->c1)/\(c1->c1->c1)/\(Dh true c1->c1)/\Ea c1 (Dp i l) false=dM i l/\True)):
  evF (mkc KR2) az 89 [.dat I i,.dat I l] [] ⟨True,.dat .bool (dM i l),[]⟩:=oE hvc
theorem C2(t:Int)(hvc:
 let c1:=Ed t 0;true/\(True->(c1->c1->c1)/\(Dh true c1->c1)/\Ea c1 (Eh t 2000000) false=dw t/\True)):
  evF (mkc KR2) az 90 [.dat I t] [] ⟨True,.dat .bool (dw t),[]⟩:=oE hvc
theorem Qf(v e:Int)(hvc:
 let c1:=Dy e 0;let c2:=chainOf (Value.iface (39) (Value.int IntKind.i64 e));true/\(True->(c1->(true->True/\(false=false->isZero e=false/\true/\c2=c2))/\True)/\(c1=false->isZero e/\v=v/\True))):
  evC (mkc KR2) az 97 [.dat I v,.dat I e] (.dat I v) ⟨True,isZero e,um 39 e⟩:=oE hvc
theorem Il(b:Bool)(hvc:
 let c1:=chainOf (Value.iface (39) (Value.int IntKind.i64 (1:Int)));true/\(True->(Di b->(true->True/\(false=false->b=false/\true/\c1=c1))/\True)/\(Di b=false->b/\True))):
  evC (mkc KR2) az 95 [.dat .bool b] (.tup []) ⟨True,b,um 39 1⟩:=oE hvc
theorem Ql(e:Int)(hvc:
 true/\(True->(true->e=e/\True)/\(true=false->1=e/\True))):
  evF (mkc KR2) az 94 [.ifc 39 (.dat I e)] [] ⟨True,.dat I e,[]⟩:=oE hvc
theorem Kv(cs:LC)(ns os:LB)(fs:Lo)(ls:Ll)(ks:Lk)(hvc:
 let c1:=(cs,ns,os,fs,ls,ks);true/\(True->True/\Eb (Df (fq c1)) 0=bj c1/\True)):
  evF (mkc KR2) az 47 [.ip N (cs,ns,os,fs,ls,ks)] [] ⟨True,.dat .bool (bj (cs,ns,os,fs,ls,ks)),[]⟩:=oE hvc
theorem Ky(o:Int)(cs:LC)(ns os:LB)(fs:Lo)(ls:Ll)(ks:Lk)(hvc:
 let c1:=(cs,ns,os,fs,ls,ks);let c2:=(Du fs (Dc o) (ByteArray.mk #[],(0:Int),(0:Int),(0:Int),(0:Int),(0:Int),Dt ByteArray)).2.2.1;let c3:=Du cs (Dc c2) ((0:Int),Dt Bool,Dt Int);let c4:=aB c1 o;true/\(my c1 o->0<=o/\o<Df fs/\0<=c2/\c2<Df cs/\1=1/\0=0/\1=1/\0=0/\c3.1=c4.1/\c3.2.1=c4.2.1/\c3.2.2=c4.2.2/\True)):
  evF (mkc KR2) az 92 [.ip N (cs,ns,os,fs,ls,ks),.dat I o] [] ⟨my (cs,ns,os,fs,ls,ks) o,cal (aB (cs,ns,os,fs,ls,ks) o).1 (aB (cs,ns,os,fs,ls,ks) o).2.1 (aB (cs,ns,os,fs,ls,ks) o).2.2,[]⟩:=oE hvc
theorem Kx(z m t:Int)(w:List Bool)(h:Li)(hvc:
 let c1:=(z,w,h);let c2:=Dp m (Pj z t);let c3:=gY z t+1;let c4:=iq w h c3;let c5:=Dy c4 0;let c6:=iz c1 m t;let c7:=mB c1 m t;let c8:=iu w h c3;let c9:=iq w h (gY z t);let c10:=Dy c9 0;let c11:=iu w h (gY z t);true/\(zu c1 m t->ga z w h t/\(c2->inR .i64 c3/\Pz z w h c3/\(c5->0=c6/\c4=c7/\True)/\(c5=false->lr z w h c8 m/\jF z c8 m=c6/\0=c7/\True))/\(c2=false->Pz z w h (gY z t)/\(c10->0=c6/\c9=c7/\True)/\(c10=false->lr z w h c11 m/\jF z c11 m=c6/\0=c7/\True)))):
  evF (mkc KR2) az 91 [cal z w h,.dat I m,.dat I t] [] ⟨zu (z,w,h) m t,.tup [.dat I (iz (z,w,h) m t),.dat I (mB (z,w,h) m t)],[]⟩:=oE hvc
theorem Kw(o t:Int)(cs:LC)(ns os:LB)(fs:Lo)(ls:Ll)(ks:Lk)(hvc:
 let c1:=(cs,ns,os,fs,ls,ks);let c2:=(Du fs (Dc o) (ByteArray.mk #[],(0:Int),(0:Int),(0:Int),(0:Int),(0:Int),Dt ByteArray)).2.2.2.2;let c3:=c2.1*c2.2.1;let c4:=t+c3;true/\(fB c1 o t->0<=o/\o<Df fs/\0<=o/\o<Df fs/\inR .i64 c3/\inR .i64 c4/\c4=aH c1 o t/\True)):
  evF (mkc KR2) az 166 [.ip N (cs,ns,os,fs,ls,ks),.dat I o,.dat I t] [] ⟨fB (cs,ns,os,fs,ls,ks) o t,.dat I (aH (cs,ns,os,fs,ls,ks) o t),[]⟩:=oE hvc
def Yo(n:Net)(nx:Lj): Ann:=⟨λid s=>match id with
 | 4=>some {α:=Int,inv:=λk=>GX n nx k,st:=λk=>put s [(19,.dat I k)],μ:=λk=>Dc (Dj (Df nx) k)}
 | 9=>match s.sig.T 19,s.sig.T 32 with
  | .dat (.int .i64) o,.dat (.sl (.int .i64)) row=>some {α:=Int,inv:=λk=>R9 n o row k,st:=λk=>put s [(34,.dat I k)],μ:=λk=>Dc (Dj (Df row) k)}
  | _,_=>none
 | _=>none,λ_ _=>none,λ_ _=>none⟩
def KR3: Kt:=kOr 89 (ax [.val I,.val I] (λ_=>True) λ(i,l,_)=>.dat .bool (dM i l)) <|
 kOr 90 (ax [.val I] (λ_=>True) λ(t,_)=>.dat .bool (dw t)) <|
 kOr 47 (ax [.ptr N] (λ_=>True) λ(n,_)=>.dat .bool (bj n)) <|
 kOr 92 (ax [.ptr N,.val I] (λ(n,o,_)=>my n o) λ(n,o,_)=>cal (aB n o).1 (aB n o).2.1 (aB n o).2.2) <|
 kOr 91 (ax [.row C,.val I,.val I] (λ(c,m,t,_)=>zu c m t) λ(c,m,t,_)=>.tup [.dat I (iz c m t),.dat I (mB c m t)]) <|
 kOr 166 (ax [.ptr N,.val I,.val I] (λ(n,o,t,_)=>fB n o t) λ(n,o,t,_)=>.dat I (aH n o t)) <|
 kOr 97 (ax [.val I,.val I] (λ(_,e,_)=>True/\isZero e=true) λ(v,_,_)=>.dat I v) <|
 kOr 95 (ax [.val .bool] (λ(b,_)=>True/\b=true) λ_=>.tup []) KR2
theorem Ij(nx:Lj)(cs:LC)(ns os:LB)(fs:Lo)(ls:Ll)(ks:Lk)(hvc:
 let c1:=Df fs;let c2:=Dy (Df nx) c1;let c3:=(cs,ns,os,fs,ls,ks);let c4:=mQ c3 nx;let c5:=Df ls;true/\(cC nx->(c2->false=c4/\True)/\(c2=false->(∃x,GX c3 nx x/\c3=c3/\nx=nx/\Df nx=Df nx/\0=x/\True)/\∀(x:Int),let c6:=Dp x (Df nx);let c7:=Du nx (Dc x) [];let c8:=Df c7;let c9:=Dy c8 c1;let c10:=x+1;GX c3 nx x->(c6->0<=x/\x<Df nx/\(c9->false=c4/\True)/\(c9=false->(∃x_4,R9 c3 x c7 x_4/\c3=c3/\x=x/\c7=c7/\nx=nx/\Df nx=Df nx/\x=x/\c7=c7/\c8=c8/\0=x_4/\True)/\∀(x_4:Int),let c11:=Du c7 (Dc x_4) 0;let c12:=Dy c11 (-1);let c17:=c12->c12->c12;let c13:=Di (dM c11 c5);let c18:=Di c13;let c16:=Dh c12 c18->Dh c12 c18->Dh c12 c18;let c14:=Ea c12 (Ea c13 true (Dy (Du ls (Dc c11) (ByteArray.mk #[],(0:Int),(0:Int),(0:Int),(0:Int),(0:Int))).2.1 x)) false;let c15:=x_4+1;R9 c3 x c7 x_4->(Dp x_4 c8->0<=x_4/\x_4<c8/\c17/\c17/\c17/\c17/\c17/\c17/\(c12->True)/\c17/\c17/\c16/\c16/\c16/\c16/\c16/\(Dh c12 c18->0<=c11)/\(Dh c12 c18->c11<c5)/\c16/\c16/\c16/\c16/\c17/\(c12->Dh c12 c18->Dh c12 c18)/\(Dh true c12->c12)/\(c14->false=c4/\True)/\(c14=false->inR .i64 c15/\∃y,R9 c3 x c7 y/\(c3=c3/\x=x/\c7=c7/\nx=nx/\Df nx=Df nx/\x=x/\c7=c7/\c8=c8/\c15=y/\True)/\Dc (c8-y)<Dc (c8-x_4)))/\(Dp x_4 c8=false->inR .i64 c10/\∃y,GX c3 nx y/\(c3=c3/\nx=nx/\Df nx=Df nx/\c10=y/\True)/\Dc (Df nx-y)<Dc (Df nx-x))))/\(c6=false->true=c4/\True)))):
  evF (mkc KR3) (lvA [(4,[0,4,5,6,8,17,18,19,32,33,34]),(9,[0,4,5,6,8,17,18,19,32,33,34])] (Yo (cs,ns,os,fs,ls,ks) nx)) 48 [.ip N (cs,ns,os,fs,ls,ks),.dat M nx] [] ⟨cC nx,.dat .bool (mQ (cs,ns,os,fs,ls,ks) nx),[]⟩:=oE hvc
theorem Ik(l t:Int)(cs:LC)(ns os:LB)(fs:Lo)(ls:Ll)(ks:Lk)(hvc:
 let c1:=(cs,ns,os,fs,ls,ks);let c2:=tN c1 l t;let c3:=ry c1 l t;let c4:=(Du ls (Dc l) (ByteArray.mk #[],(0:Int),(0:Int),(0:Int),(0:Int),(0:Int))).2;let c8:=(aB c1 c4.1);true/\(Nu c1 l->True/\(Di (dw t)->0=c2/\1=c3/\True)/\(Di (dw t)=false->0<=l/\l<Df ls/\my c1 c4.1/\0<=l/\l<Df ls/\zu c8 c4.2.2.1 t/\iz c8 c4.2.2.1 t=c2/\mB c8 c4.2.2.1 t=c3/\True))):
  evF (mkc KR3) az 165 [.ip N (cs,ns,os,fs,ls,ks),.dat I l,.dat I t] [] ⟨Nu (cs,ns,os,fs,ls,ks) l,.tup [.dat I (tN (cs,ns,os,fs,ls,ks) l t),.dat I (ry (cs,ns,os,fs,ls,ks) l t)],[]⟩:=oE hvc
theorem uK: aj Tryz.prog G0 KR2:=ai (ag λ((z,w,h),d,_)=>aAu z w h d) aD0
theorem gq(cs:LC)(ns os:LB)(fs:Lo)(ls:Ll)(ks:Lk){o:Int}(h:my (cs,ns,os,fs,ls,ks) o): 0<=(b7 (cs,ns,os,fs,ls,ks) o).2.2.1/\(b7 (cs,ns,os,fs,ls,ks) o).2.2.1<cs.length/\aw (aB (cs,ns,os,fs,ls,ks) o).1 (aB (cs,ns,os,fs,ls,ks) o).2.1 (aB (cs,ns,os,fs,ls,ks) o).2.2=true/\1<=(b7 (cs,ns,os,fs,ls,ks) o).2.2.2.2.1/\(b7 (cs,ns,os,fs,ls,ks) o).2.2.2.2.1<=4/\1<=(b7 (cs,ns,os,fs,ls,ks) o).2.2.2.2.2.1/\(b7 (cs,ns,os,fs,ls,ks) o).2.2.2.2.2.1<=240:=by
 obtain⟨hno,l0,l1⟩:=h;have l1:o<fs.length:=l1;have ho:b7 (cs,ns,os,fs,ls,ks) o∈fs:=by
  show fs.getD o.toNat _∈fs;rw[qA,qB (by omega),qQ]
  exact wQ _
 have gc:=(fD cs ns os fs ls ks hno).2.2.2 _ ho;unfold db dM dQ at gc;simp only[qC,qE]at gc;obtain⟨⟨⟨⟨⟨⟨_,g1⟩,_⟩,_⟩,_⟩,g2⟩,g3⟩:=gc;have g1:0<=(b7 (cs,ns,os,fs,ls,ks) o).2.2.1/\(b7 (cs,ns,os,fs,ls,ks) o).2.2.1<(cs.length:Int):=g1;have hc:=((rp (by decide)).1 (iO cs ns os fs ls ks hno).2.1).2.2.2
 have hcl:(aA cs ns).length=cs.length:=by unfold aA;simp
 have:=hc (b7 (cs,ns,os,fs,ls,ks) o).2.2.1.toNat (by omega)
 unfold bn at this;rw[l7 (λc:Int×List Bool×Li=>aw c.1 c.2.1 c.2.2) cs _ (0,[],[]) false (by omega)]at this
 exact⟨g1.1,g1.2,this,g2.1,g2.2,g3.1,g3.2⟩
theorem Bq(cs:LC)(ns os:LB)(fs:Lo)(ls:Ll)(ks:Lk){l:Int}(h:Nu (cs,ns,os,fs,ls,ks) l): 0<=cN (cs,ns,os,fs,ls,ks) l/\cN (cs,ns,os,fs,ls,ks) l<fs.length/\0<=Hl (cs,ns,os,fs,ls,ks) l/\Hl (cs,ns,os,fs,ls,ks) l<fs.length/\0<=I8 (cs,ns,os,fs,ls,ks) l/\I8 (cs,ns,os,fs,ls,ks) l<=1439/\1<=iP (cs,ns,os,fs,ls,ks) l/\iP (cs,ns,os,fs,ls,ks) l<=5000:=by
 obtain⟨hno,l0,l1⟩:=h;have l1:l<ls.length:=l1;have hl:o8 (cs,ns,os,fs,ls,ks) l∈ls:=by
  show ls.getD l.toNat _∈ls;rw[qA,qB (by omega),qQ]
  exact wQ _
 obtain⟨g1,g2,g3,g4,g5,g6,g7,g8⟩:=iU ((lw cs ns os fs ls ks hno).2.2.2 _ hl);exact⟨g1,g2,g3,g4,g6.1,g6.2,g7,g8⟩
theorem sU{w:List Bool}{h:Li}{d:Int}(he:iq w h d=0): d<=iu w h d/\iu w h d<d+60/\bP w h (iu w h d)=true:=by
 unfold iq at he;unfold iu;cases hn:uA w h d with
 | none=>rw[hn]at he;simp at he
 | some y=>
  have:y∈iG w h d 60:=qCa (by unfold uA at hn;rw[hn];rfl)
  exact Bn this
theorem Vm{c:Int×List Bool×Li}{m t:Int}(hp:zu c m t): -1000<=d0F c m t/\d0F c m t<=100000:=by
 obtain⟨hv,h1,h2,h3,h4⟩:=hp;obtain⟨⟨v1,v2,_,_⟩,_⟩:=cF.1 hv;unfold d0F gY;split<;>omega
theorem jr{d:Int}(h1:-1000000<=d)(h2:d<=1000000): bX d=true:=by
 unfold bX;exact vF ⟨h1,h2⟩
theorem LA(i l:Int): af Tryz.prog G0 89 [.dat I i,.dat I l] [] ⟨True,.dat .bool (dM i l),[]⟩:=by
 refine ae (c:=mkc KR2) uK aL hm (Ii i l ⟨rfl,λ_=>⟨λh _=>h,λh _=>h,λh=>by simpa[Dh]using h,?_,trivial⟩⟩)
 unfold dM;simp only[Ea,Ed,Dp,kN];by_cases h:0<=i<;>simp[h]
theorem IG(t:Int): af Tryz.prog G0 90 [.dat I t] [] ⟨True,.dat .bool (dw t),[]⟩:=by
 refine ae (c:=mkc KR2) uK aL hm (C2 t ⟨rfl,λ_=>⟨λh _=>h,λh=>by simpa[Dh]using h,?_,trivial⟩⟩)
 unfold dw;simp only[Ea,Ed,Eh,kN];by_cases h:0<=t<;>simp[h]
theorem Ly(v e:Int): af Tryz.prog G0 97 [.dat I v,.dat I e] [] ⟨True/\isZero e=true,.dat I v,[]⟩/\cU Tryz.prog G0 97 [.dat I v,.dat I e] [] ⟨True,isZero e,um 39 e⟩:=by
 refine dz (c:=mkc KR2) uK aL hm pW (Qf v e ⟨rfl,λ_=>⟨λh=>⟨λ_=>⟨trivial,λ_=>⟨?_,rfl,rfl⟩⟩,trivial⟩,λh=>⟨?_,rfl,trivial⟩⟩⟩)
 .unfold isZero;simpa[Dy]using h
 .unfold isZero;simpa[Dy]using h
theorem zR(b:Bool): af Tryz.prog G0 95 [.dat .bool b] [] ⟨True/\b=true,.tup [],[]⟩/\cU Tryz.prog G0 95 [.dat .bool b] [] ⟨True,b,um 39 1⟩:=by
 refine dz (c:=mkc KR2) uK aL hm pW (Il b ⟨rfl,λ_=>⟨λh=>⟨λ_=>⟨trivial,λ_=>⟨?_,rfl,rfl⟩⟩,trivial⟩,λh=>⟨?_,trivial⟩⟩⟩)
 .simpa[Di]using h
 .simpa[Di]using h
theorem W4(e:Int): af Tryz.prog G0 94 [.ifc 39 (.dat I e)] [] ⟨True,.dat I e,[]⟩:=
 ae (c:=mkc KR2) uK aL hm (Ql e ⟨rfl,λ_=>⟨λ_=>⟨rfl,trivial⟩,λh=>by cases h⟩⟩)
theorem uV{n:Net}: bj n=decide (((fq n).length:Int)=0):=by
 unfold bj;cases fq n with
 | nil=>rfl
 | cons a l=>simp;omega
theorem Rh(cs:LC)(ns os:LB)(fs:Lo)(ls:Ll)(ks:Lk): af Tryz.prog G0 47 [.ip N (cs,ns,os,fs,ls,ks)] [] ⟨True,.dat .bool (bj (cs,ns,os,fs,ls,ks)),[]⟩:=
 ae (c:=mkc KR2) uK aL hm (Kv cs ns os fs ls ks ⟨rfl,λ_=>⟨trivial,by rw[uV];rfl,trivial⟩⟩)
theorem Rk(o:Int)(cs:LC)(ns os:LB)(fs:Lo)(ls:Ll)(ks:Lk): af Tryz.prog G0 92 [.ip N (cs,ns,os,fs,ls,ks),.dat I o] [] ⟨my (cs,ns,os,fs,ls,ks) o,cal (aB (cs,ns,os,fs,ls,ks) o).1 (aB (cs,ns,os,fs,ls,ks) o).2.1 (aB (cs,ns,os,fs,ls,ks) o).2.2,[]⟩:=by
 refine ae (c:=mkc KR2) uK aL hm (Ky o cs ns os fs ls ks ⟨rfl,λhp=>?_⟩)
 obtain⟨g1,g2,_⟩:=gq cs ns os fs ls ks hp;exact⟨hp.2.1,hp.2.2,g1,g2,rfl,rfl,rfl,rfl,rfl,rfl,rfl,trivial⟩
theorem Rj(m t:Int)(c:C.den): af Tryz.prog G0 91 [cal c.1 c.2.1 c.2.2,.dat I m,.dat I t] [] ⟨zu c m t,.tup [.dat I (iz c m t),.dat I (mB c m t)],[]⟩:=by
 obtain⟨z,w,h⟩:=c;refine ae (c:=mkc KR2) uK aL hm (Kx z m t w h ⟨rfl,λhp=>?_⟩)
 obtain⟨b1,b2⟩:=Vm hp;obtain⟨hv,h1,h2,h3,h4⟩:=id hp;simp only[qc,Dh,Es,Di,qd,Dt,Eb,Dy,Dp,Ei,Eh,Ed,Ew,Df,Et,Dl,Dn,Eo,Dz,Dw,Dj,Dq,Ee,Fe,Dc,Dx,Dk,Ec,Em,Du,Eu,Ez,En,Ef,Fg,Fj,Fh,Ep,Ej,Ey,Fb];have key:∀d,d=d0F (z,w,h) m t->Pz z w h d/\(¬iq w h d=0->(0:Int)=iz (z,w,h) m t/\iq w h d=mB (z,w,h) m t)/\(iq w h d=0->lr z w h (iu w h d) m/\jF z (iu w h d) m=iz (z,w,h) m t/\(0:Int)=mB (z,w,h) m t):=by
  rintro d rfl;refine⟨⟨hv,jr (by omega) (by omega)⟩,λh0=>⟨(if_neg h0).symm,rfl⟩,λh0=>?_⟩
  obtain⟨q1,q2,q3⟩:=sU h0;exact⟨⟨hv,jr (by omega) (by omega),h1,h2⟩,(if_pos h0).symm,h0.symm⟩
 refine⟨⟨hv,by omega,by omega⟩,λhlt=>?_,λhge=>?_⟩
 .have e:gY z t+1=d0F (z,w,h) m t:=(if_pos hlt).symm;obtain⟨q1,q2,q3⟩:=key _ e;exact⟨by unfold inR;simp only;omega,q1,q2,q3⟩
 .have e:gY z t=d0F (z,w,h) m t:=(if_neg hge).symm;exact key _ e
theorem Ri(o t:Int)(cs:LC)(ns os:LB)(fs:Lo)(ls:Ll)(ks:Lk): af Tryz.prog G0 166 [.ip N (cs,ns,os,fs,ls,ks),.dat I o,.dat I t] [] ⟨fB (cs,ns,os,fs,ls,ks) o t,.dat I (aH (cs,ns,os,fs,ls,ks) o t),[]⟩:=by
 refine ae (c:=mkc KR2) uK aL hm (Kw o t cs ns os fs ls ks ⟨rfl,λhp=>?_⟩)
 obtain⟨ho,b1,b2⟩:=hp;obtain⟨_,_,_,g1,g2,g3,g4⟩:=gq cs ns os fs ls ks ho;obtain⟨x,hx⟩:∃x,x=(b7 (cs,ns,os,fs,ls,ks) o).2.2.2.2.1:=⟨_,rfl⟩;obtain⟨y,hy⟩:∃y,y=(b7 (cs,ns,os,fs,ls,ks) o).2.2.2.2.2.1:=⟨_,rfl⟩;rw[<- hx]at g1 g2;rw[<- hy]at g3 g4;have m1:0<=x*y:=qAc (by omega) (by omega)
 have m2:x*y<=4*240:=xI g2 g4 (by omega) (by omega)
 have e:aH (cs,ns,os,fs,ls,ks) o t=t+x*y:=by rw[hx,hy];rfl
 refine⟨ho.2.1,ho.2.2,ho.2.1,ho.2.2,?_,?_,rfl,trivial⟩
 .show inR .i64 ((b7 (cs,ns,os,fs,ls,ks) o).2.2.2.2.1*(b7 (cs,ns,os,fs,ls,ks) o).2.2.2.2.2.1);rw[<- hx,<- hy];unfold inR;simp only;omega
 .show inR .i64 (t+(b7 (cs,ns,os,fs,ls,ks) o).2.2.2.2.1*(b7 (cs,ns,os,fs,ls,ks) o).2.2.2.2.2.1);rw[<- hx,<- hy];unfold inR;simp only;omega
end Go.Eng.Sv
set_option maxRecDepth 100000
namespace Go.Eng.Sv
open Go.Proofs
theorem aCi: aj Tryz.prog G0 KR3:=ai (ag λ(i,l,_)=>LA i l)<|ai (ag λ(t,_)=>IG t)<|ai (ag λ((cs,ns,os,fs,ls,ks),_)=>Rh cs ns os fs ls ks) <|
 ai (ag λ((cs,ns,os,fs,ls,ks),o,_)=>Rk o cs ns os fs ls ks)<|ai (ag λ(c,m,t,_)=>Rj m t c)<|ai (ag λ((cs,ns,os,fs,ls,ks),o,t,_)=>Ri o t cs ns os fs ls ks) <|
 ai (ag λ(v,e,_)=>(Ly v e).1)<|ai (ag λ(b,_)=>(zR b).1) uK
theorem rM{n:Net}{nx:Lj}(hl:(nx.length:Int)=n.2.2.2.1.length): mQ n nx=true↔∀i:Nat,(i:Int)<nx.length->rowOk n i (nx.getD i [])=true:=by
 unfold mQ;simp only[qC,qE,qN,qX];exact⟨λh i hi=>h.2 i (by omega),λh=>⟨hl,λi hi=>h i (by omega)⟩⟩
theorem xr{n:Net}{o:Int}{row:Li}(hl:(row.length:Int)=n.2.2.2.1.length): rowOk n o row=true↔∀i:Nat,(i:Int)<row.length->aT n o (row.getD i 0)=true:=by
 unfold rowOk;simp only[qC,qE,qN];refine⟨λh i hi=>h.2 _ ?_,λh=>⟨hl,λx hx=>?_⟩⟩
 .rw[qA,qB (by omega),qQ];exact wQ _
 .obtain⟨i,hi,rfl⟩:=wY.1 hx;have:=h i (by omega)
  rw[qA,qB hi,qQ]at this;exact this
theorem Ui(n:Net)(o l:Int): Ea (Dy l (-1)) (Ea (Di (dM l (Df n.2.2.2.2.1))) true (Dy (cN n l) o)) false=!aT n o l:=by
 unfold aT;simp only[Ea,Dy,Di,Df];by_cases h:l=-1
 .simp[h]
 .have hb:(l != -1)=true:=by simpa using h
  rw[hb];cases hi:dM l n.2.2.2.2.1.length
  .simp[h]
  .by_cases hf:cN n l=o<;>simp[h,hf]
theorem LD(nx:Lj)(cs:LC)(ns os:LB)(fs:Lo)(ls:Ll)(ks:Lk): af Tryz.prog G0 48 [.ip N (cs,ns,os,fs,ls,ks),.dat M nx] [] ⟨cC nx,.dat .bool (mQ (cs,ns,os,fs,ls,ks) nx),[]⟩:=by
 refine ae (c:=mkc KR3) aCi aL hm (Ij nx cs ns os fs ls ks ⟨rfl,λhf=>?_⟩)
 have ec:∀l x:Int,Ea (Dy l (-1)) (Ea (Di (dM l (Df ls))) true (Dy (Du ls (Dc l) (ByteArray.mk (Dt UInt8).toArray,(0:Int),(0:Int),(0:Int),(0:Int),(0:Int))).snd.fst x)) false=!aT (cs,ns,os,fs,ls,ks) x l:=λl x=>Ui (cs,ns,os,fs,ls,ks) x l
 simp only[ec];simp only[qc,Dh,Es,Di,qd,Dt,Eb,Dy,Dp,Ei,Eh,Ed,Ew,Df,Et,Dl,Dn,Eo,Dz,Dw,Dj,Dq,Ee,Fe,Dc,Dx,Dk,Ec,Em,Du,Eu,Ez,En,Ef,Fg,Fj,Fh,Ep,Ej,Ey,Fb];obtain⟨hf1,hf2⟩:=hf;have hz:∀x l:Int,¬l=-1/\dM l ls.length=true->0<=l/\l<ls.length:=λx l h=>by
  have:=h.2;unfold dM at this;simpa using this
 have hr:∀x:Int,0<=x->x<nx.length->(nx.getD x.toNat []).length<=1000000:=λx h0 h1=>hf2 _ (by
  rw[qA,qB (by omega),qQ];exact wQ _)
 have hct:∀x:Int,0<=x->((x.toNat:Nat):Int)=x:=λx h=>by omega
 refine⟨λhne=>?_,λhe=>⟨⟨qL _,by omega,he,λi h=>by omega⟩,λx hx=>⟨λhlt=>⟨hx.1,hlt,λhr'=>?_,λhr'=>⟨⟨qL _,by omega,hr',λi h=>by omega⟩,λy hy=>⟨λhlty=>⟨hy.1,hlty,λh=>(hz x _ h).1,λh=>(hz x _ h).2,λhc=>?_,λhc=>?_⟩,λhgey=>?_⟩⟩⟩,λhge=>?_⟩⟩⟩
 .unfold mQ;rw[vK hne];rfl
 .refine(kM.2 λht=>hr' ?_).symm
  have h:=(rM he).1 ht x.toNat (by have:=hx.1;omega)
  unfold rowOk at h;simp only[qC,qE]at h;exact h.1
 .refine(kM.2 λht=>?_).symm
  have h:=(rM he).1 ht x.toNat (by have:=hx.1;omega)
  rw[hct x hx.1]at h;have h2:=(xr (n:=(cs,ns,os,fs,ls,ks)) hr').1 h y.toNat (by have:=hy.1;omega)
  rw[h2]at hc;cases hc
 .have h1:=hr x hx.1 hlt;refine⟨by unfold inR;simp only;have:=hy.1;omega,y+1,⟨by have:=hy.1;omega,by omega,hr',λi hi=>?_⟩,rfl,by have:=hy.1;omega⟩
  by_cases h:(i:Int)<y
  .exact hy.2.2.2 i h
  .have:i=y.toNat:=by omega
   rw[this];exact hc
 .refine⟨by unfold inR;simp only;have:=hx.1;omega,x+1,⟨by have:=hx.1;omega,by omega,he,λi hi=>?_⟩,rfl,by have:=hx.1;omega⟩
  by_cases h:(i:Int)<x
  .exact hx.2.2.2 i h
  .have:i=x.toNat:=by have:=hx.1;omega
   rw[this,hct x hx.1];exact(xr (n:=(cs,ns,os,fs,ls,ks)) hr').2 λj hj=>hy.2.2.2 j (by omega)
 .exact((rM he).2 λi hi=>hx.2.2.2 i (by omega)).symm
theorem LG(l t:Int)(cs:LC)(ns os:LB)(fs:Lo)(ls:Ll)(ks:Lk): af Tryz.prog G0 165 [.ip N (cs,ns,os,fs,ls,ks),.dat I l,.dat I t] [] ⟨Nu (cs,ns,os,fs,ls,ks) l,.tup [.dat I (tN (cs,ns,os,fs,ls,ks) l t),.dat I (ry (cs,ns,os,fs,ls,ks) l t)],[]⟩:=by
 refine ae (c:=mkc KR3) aCi aL hm (Ik l t cs ns os fs ls ks ⟨rfl,λhp=>?_⟩)
 simp only[qc,Dh,Es,Di,qd,Dt,Eb,Dy,Dp,Ei,Eh,Ed,Ew,Df,Et,Dl,Dn,Eo,Dz,Dw,Dj,Dq,Ee,Fe,Dc,Dx,Dk,Ec,Em,Du,Eu,Ez,En,Ef,Fg,Fj,Fh,Ep,Ej,Ey,Fb];refine⟨λh=>?_,λh=>?_⟩
 .unfold tN ry;rw[h];exact⟨rfl,rfl⟩
 .obtain⟨g1,g2,g3,g4,g5,g6,g7,g8⟩:=Bq cs ns os fs ls ks hp;have ho:my (cs,ns,os,fs,ls,ks) (cN (cs,ns,os,fs,ls,ks) l):=⟨hp.1,g1,g2⟩;have hv:=(gq cs ns os fs ls ks ho).2.2.1;have ht:0<=t/\t<=2000000:=wJ h;have hf:zu (aB (cs,ns,os,fs,ls,ks) (cN (cs,ns,os,fs,ls,ks) l)) (I8 (cs,ns,os,fs,ls,ks) l) t:=⟨hv,g5,by omega,by omega,by omega⟩
  have e1:tN (cs,ns,os,fs,ls,ks) l t=iz (aB (cs,ns,os,fs,ls,ks) (cN (cs,ns,os,fs,ls,ks) l)) (I8 (cs,ns,os,fs,ls,ks) l) t:=if_pos h;have e2:ry (cs,ns,os,fs,ls,ks) l t=mB (aB (cs,ns,os,fs,ls,ks) (cN (cs,ns,os,fs,ls,ks) l)) (I8 (cs,ns,os,fs,ls,ks) l) t:=if_pos h;exact⟨hp.2.1,hp.2.2,ho,hp.2.1,hp.2.2,hf,e1.symm,e2.symm⟩
end Go.Eng.Sv
set_option maxRecDepth 100000
noncomputable section
namespace Go.Eng.Sv
open Go.Proofs
def nxt(nx:Lj)(o d:Int): Int:=(nx.getD o.toNat []).getD d.toNat 0
def kr(n:Net)(nx:Lj)(to:Int): Nat->Int->Int->List Stop×Int
 | 0,o,t=>if o=to then([(o,t,-1,-1)],0)else if nxt nx o to=-1 then([],170)else if ry n (nxt nx o to) (aH n o t)=0 then([],170)else([],ry n (nxt nx o to) (aH n o t))
 | k+1,o,t=>if o=to then([(o,t,-1,-1)],0)else if nxt nx o to=-1 then([],170)else if ry n (nxt nx o to) (aH n o t)=0 then
   if(kr n nx to k (Hl n (nxt nx o to)) (tN n (nxt nx o to) (aH n o t)+iP n (nxt nx o to))).2=0 then
    ((o,t,tN n (nxt nx o to) (aH n o t),nxt nx o to)::(kr n nx to k (Hl n (nxt nx o to)) (tN n (nxt nx o to) (aH n o t)+iP n (nxt nx o to))).1,0)
   else([],(kr n nx to k (Hl n (nxt nx o to)) (tN n (nxt nx o to) (aH n o t)+iP n (nxt nx o to))).2)
  else([],ry n (nxt nx o to) (aH n o t))
def uq(n:Net)(nx:Lj)(o to t:Int): List Stop:=(kr n nx to 19 o t).1
def je(n:Net)(nx:Lj)(o to t:Int): Int:=(kr n nx to 19 o t).2
def Gk(n:Net)(nx:Lj)(o to t:Int): Prop:=bj n=true/\mQ n nx=true/\0<=o/\o<n.2.2.2.1.length/\0<=to/\to<n.2.2.2.1.length/\0<=t/\t<=2200000
def AU(d:List Stop)(r:List Stop×Int): List Stop×Int:=if r.2=0 then(d++r.1,0)else([],r.2)
def UG(n:Net)(nx:Lj)(o0 to t0:Int)(x:List Stop×Int×Int): Prop:=Gk n nx x.2.1 to x.2.2/\x.1.length<=19/\kr n nx to 19 o0 t0=AU x.1 (kr n nx to (19-x.1.length) x.2.1 x.2.2)
def wSt(x:List Stop×Int×Int): List Stop:=x.1++[(x.2.1,x.2.2,-1,-1)]
def aCr(n:Net)(nx:Lj)(o0 to t0:Int): Ann:=⟨λid s=>match id with
 | 3=>match s.sig.T 19 with
  | .buf nm _=>some {α:=List Stop×Int×Int,inv:=λx=>UG n nx o0 to t0 x,st:=λx=>ie (put (flat s) [(11,.buf nm (Dk (wSt x))),(12,.dat I (Df x.1))]) nm (.buf 81 Stp (wSt x) []),μ:=λx=>Dc (Dj 20 (Df x.1))}
  | _=>none
 | _=>none,λ_ _=>none,λ_ _=>none⟩
def KR4: Kt:=kOr 48 (ax [.ptr N,.val M] (λ(_,nx,_)=>cC nx) λ(n,nx,_)=>.dat .bool (mQ n nx)) <|
 kOr 165 (ax [.ptr N,.val I,.val I] (λ(n,l,_)=>Nu n l) λ(n,l,t,_)=>.tup [.dat I (tN n l t),.dat I (ry n l t)]) KR3
def KPm: KPt:=pOr 97 (uG [.val I,.val I] λ(_,e,_)=>⟨True,isZero e,um 39 e⟩) Go.Eng.noP
noncomputable def mkp(K:Kt)(mb:Tmp->Bool)(KP:KPt)(pf:FuncId->Bool): Cfg:=⟨Tryz.prog,G0,K,mb,KI0,false,KP,pf⟩
def cW: Cfg:=mkp KR4 (λt=>t==19) KPm (λf=>f==97)
theorem Qd(nx:Lj)(o to t:Int)(cs:LC)(ns os:LB)(fs:Lo)(ls:Ll)(ks:Lk)(hvc:
 let c1:=(cs,ns,os,fs,ls,ks);let c2:=((-1:Int),(-1:Int));let c3:=((0:Int),(0:Int),(0:Int),(0:Int));let c4:=je c1 nx o to t;let c5:=isZero c4;let c6:=chainOf (Value.iface (39) (Value.int IntKind.i64 c4));let c7:=(ByteArray.mk #[],(0:Int),c3);true/\(Gk c1 nx o to t->(∃(x:List Stop×Int×Int),UG c1 nx o to t x/\c1=c1/\nx=nx/\o=o/\to=to/\t=t/\Value.slice none (0) (0)=Value.slice none (0) (0)/\1=Dk (wSt x)/\0=Df x.1/\o=o/\t=t/\o=o/\t=t/\(-1:Int)=(-1:Int)/\(-1:Int)=(-1:Int)/\1=1/\[(o,t,c2)]=wSt x/\True)/\∀(x:List (Int×Int×Int×Int)×Int×Int),let c8:=Dk (wSt x);let c9:=Df x.1;let c10:=Dc c9;let c11:=Du (wSt x) c10 c3;let c12:=c11.1;let c13:=Dy c12 to;let c14:=Du nx (Dc c12) [];let c15:=Du c14 (Dc to) 0;let c16:=Eb c15 (-1);let c17:=c11.2;let c18:=En (wSt x) c10 (c12,c17.1,c17.2.1,c15);let c19:=Du c18 c10 c3;let c20:=c19.1;let c21:=c19.2;let c22:=c21.1;let c23:=aH c1 c20 c22;let c24:=ry c1 c15 c23;let c25:=isZero c24;let c26:=En c18 c10 (c20,c22,tN c1 c15 c23,c21.2.2);let c27:=Eb (Int.ofNat c8) 20;let c28:=(Du ls (Dc c15) c7).2.2;let c29:=(Du c26 c10 c3).2.2.1+c28.2.2.1;let c30:=[(c28.1,c29,c2)];let c31:=c8+Dk c30;let c32:=c9+1;
 UG c1 nx o to t x->c8=c8/\0<=c9/\c9<Dx c8/\c8=c8/\c8=c8/\(c13->c8=c8/\0<=c9/\c9<Dx c8/\c8=c8/\c8=c8/\c8=c8/\0<=c12/\c12<Df nx/\0<=to/\to<Df c14/\(c16->(true->True/\(false=false->c5=false/\true/\chainOf (Value.iface (39) (Value.int IntKind.i64 (170:Int)))=c6))/\True)/\(c16=false->c8=c8/\c8=c8/\c8=c8/\Dk c18=c8/\Dk c18=c8/\Dk c18=c8/\Dk c18=c8/\Dk c18=c8/\Dk c18=c8/\fB c1 c20 c22/\Nu c1 c15/\True/\(c25->Dk c18=c8/\Dk c18=c8/\Dk c18=c8/\Dk c18=c8/\Dk c18=c8/\Dk c18=c8/\fB c1 c20 c22/\Nu c1 c15/\(True/\c25)/\Dk c18=c8/\Dk c18=c8/\Dk c18=c8/\Dk c26=c8/\(c27->(true->True/\(false=false->c5=false/\true/\chainOf (Value.iface (39) (Value.int IntKind.i64 (170:Int)))=c6))/\True)/\(c27=false->0<=c15/\c15<Df ls/\1=1/\0=0/\1=1/\1=1/\0=0/\Dk c26=c8/\Dk c26=c8/\Dk c26=c8/\1=1/\1=1/\0=0/\inR .i64 c29/\Dk c26=c8/\(c31*(32))<=(140737488355328)/\c31<=(9223372036854775807)/\inR .i64 c32/\∃(y:List Stop×Int×Int),let c33:=Df y.1;UG c1 nx o to t y/\(c1=c1/\nx=nx/\o=o/\to=to/\t=t/\Value.slice none (0) (0)=Value.slice none (0) (0)/\c31=Dk (wSt y)/\c32=c33/\o=o/\t=t/\o=o/\t=t/\(-1:Int)=(-1:Int)/\(-1:Int)=(-1:Int)/\1=1/\Ef c26 c30=wSt y/\True)/\Dc (20-c33)<Dc (20-c9)))/\(c25=false->c5=false/\true/\chainOf (Value.iface (39) (Value.int IntKind.i64 c24))=c6)))/\(c13=false->c5/\c8=c8/\wSt x=uq c1 nx o to t/\True))):
  evC cW (aCr (cs,ns,os,fs,ls,ks) nx o to t) 102 [.ip N (cs,ns,os,fs,ls,ks),.dat M nx,.dat I o,.dat I to,.dat I t] (.dat (.sl Stp) (uq (cs,ns,os,fs,ls,ks) nx o to t)) ⟨Gk (cs,ns,os,fs,ls,ks) nx o to t,isZero (je (cs,ns,os,fs,ls,ks) nx o to t),um 39 (je (cs,ns,os,fs,ls,ks) nx o to t)⟩:=oE hvc
theorem aEG: aj Tryz.prog G0 KR4:=ai (ag λ((cs,ns,os,fs,ls,ks),nx,_)=>LD nx cs ns os fs ls ks)<|ai (ag λ((cs,ns,os,fs,ls,ks),l,t,_)=>LG l t cs ns os fs ls ks) aCi
theorem VC: bL Tryz.prog G0 KPm:=ik (iZ λ(v,e,_)=>(Ly v e).2) pW
theorem aCu(d:List Stop)(o t:Int)(z:Stop): (wSt (d,o,t)).getD d.length z=(o,t,-1,-1):=by simp[wSt,qA]
theorem aCt(d:List Stop)(o t:Int)(v:Stop): (wSt (d,o,t)).set d.length v=d++[v]:=by simp[wSt]
theorem aDT(d:List Stop)(v z:Stop): (d++[v]).getD d.length z=v:=by simp[qA]
theorem aDS(d:List Stop)(v w:Stop): (d++[v]).set d.length w=d++[w]:=by simp
theorem Zp(d:List Stop)(o t:Int): (wSt (d,o,t)).length=d.length+1:=by simp[wSt]
theorem cX{e:Int}: isZero e=true↔e=0:=by simp[isZero]
theorem fk{e:Int}: isZero e=false↔e≠0:=by simp[isZero]
theorem bu(cs:LC)(ns os:LB)(fs:Lo)(ls:Ll)(ks:Lk)(h:bj (cs,ns,os,fs,ls,ks)=true): noF (cs,ns,os,fs,ls,ks)=true:=((wi cs ns os fs ls ks).1 (wU.1 h)).1
theorem lH{c:Int×List Bool×Li}{m t:Int}(hv:aw c.1 c.2.1 c.2.2=true)(he:mB c m t=0)(m0:0<=m)(m1:m<=1439): t<=iz c m t/\iz c m t<=t+90000:=by
 obtain⟨z,w,h⟩:=c;obtain⟨⟨v1,v2,_,_⟩,_⟩:=cF.1 hv;have he':iq w h (d0F (z,w,h) m t)=0:=he;obtain⟨q1,q2,_⟩:=sU he';have e:iz (z,w,h) m t=jF z (iu w h (d0F (z,w,h) m t)) m:=if_pos he';rw[e];unfold jF;generalize iu w h (d0F (z,w,h) m t)=nd at *;have hd:d0F (z,w,h) m t=if m<(t+z)%1440 then(t+z)/1440+1 else(t+z)/1440:=rfl
 rw[hd]at q1 q2;simp only at v1 v2;split at q1<;>rename_i hs<;>simp only[hs,xO,yQ]at q2<;>omega
theorem v8(cs:LC)(ns os:LB)(fs:Lo)(ls:Ll)(ks:Lk){l t:Int}(hl:Nu (cs,ns,os,fs,ls,ks) l)(he:ry (cs,ns,os,fs,ls,ks) l t=0): 0<=t/\t<=2000000/\t<=tN (cs,ns,os,fs,ls,ks) l t/\tN (cs,ns,os,fs,ls,ks) l t<=t+90000:=by
 obtain⟨g1,g2,g3,g4,g5,g6,g7,g8⟩:=Bq cs ns os fs ls ks hl;have ho:my (cs,ns,os,fs,ls,ks) (cN (cs,ns,os,fs,ls,ks) l):=⟨hl.1,g1,g2⟩;have hv:=(gq cs ns os fs ls ks ho).2.2.1;have hk:dw t=true:=by
  cases h:dw t with
  | true=>rfl
  | false=>unfold ry at he;rw[h]at he;cases he
 have ht:0<=t/\t<=2000000:=wJ hk;have e1:tN (cs,ns,os,fs,ls,ks) l t=iz (aB (cs,ns,os,fs,ls,ks) (cN (cs,ns,os,fs,ls,ks) l)) (I8 (cs,ns,os,fs,ls,ks) l) t:=if_pos hk;have e2:ry (cs,ns,os,fs,ls,ks) l t=mB (aB (cs,ns,os,fs,ls,ks) (cN (cs,ns,os,fs,ls,ks) l)) (I8 (cs,ns,os,fs,ls,ks) l) t:=if_pos hk;rw[e2]at he;rw[e1];exact⟨ht.1,ht.2,lH hv he g5 g6⟩
theorem Ge{n:Net}{nx:Lj}{to o t:Int}(k:Nat)(h:o=to): kr n nx to k o t=([(o,t,-1,-1)],0):=by cases k<;>exact if_pos h
theorem nu{n:Net}{nx:Lj}{to o t:Int}(k:Nat)(h:o≠to)(h1:nxt nx o to=-1): kr n nx to k o t=([],170):=by cases k<;>(unfold kr;rw[if_neg h,if_pos h1])
theorem rG{n:Net}{nx:Lj}{to o t:Int}(k:Nat)(h:o≠to)(h1:nxt nx o to≠-1)(h2:ry n (nxt nx o to) (aH n o t)≠0): kr n nx to k o t=([],ry n (nxt nx o to) (aH n o t)):=by cases k<;>(unfold kr;rw[if_neg h,if_neg h1,if_neg h2])
theorem rh{n:Net}{nx:Lj}{to o t:Int}(h:o≠to)(h1:nxt nx o to≠-1)(h2:ry n (nxt nx o to) (aH n o t)=0): kr n nx to 0 o t=([],170):=by unfold kr;rw[if_neg h,if_neg h1,if_pos h2]
theorem rf{n:Net}{nx:Lj}{to o t:Int}(k:Nat)(h:o≠to)(h1:nxt nx o to≠-1)(h2:ry n (nxt nx o to) (aH n o t)=0):
  kr n nx to (k+1) o t=AU [(o,t,tN n (nxt nx o to) (aH n o t),nxt nx o to)] (kr n nx to k (Hl n (nxt nx o to)) (tN n (nxt nx o to) (aH n o t)+iP n (nxt nx o to))):=by
 rw[kr,if_neg h,if_neg h1,if_pos h2];rfl
theorem G4{d:List Stop}{r:List Stop×Int}(h:r.2≠0): (AU d r).2=r.2:=by unfold AU;rw[if_neg h]
theorem XT{d:List Stop}{r:List Stop×Int}(h:r.2=0): AU d r=(d++r.1,0):=by unfold AU;rw[if_pos h]
theorem xF(d e:List Stop)(r:List Stop×Int): AU d (AU e r)=AU (d++e) r:=by
 unfold AU;by_cases h:r.2=0
 .simp[h]
 .simp[h]
theorem G3{n:Net}{nx:Lj}{to:Int}: ∀(k:Nat) (o t:Int),AU [] (kr n nx to k o t)=kr n nx to k o t:=λk o t=>by
 by_cases h:o=to
 .rw[Ge k h];rfl
 .by_cases h1:nxt nx o to=-1
  .rw[nu k h h1];rfl
  .by_cases h2:ry n (nxt nx o to) (aH n o t)=0
   .cases k with
    | zero=>rw[rh h h1 h2];rfl
    | succ k=>rw[rf k h h1 h2,xF];rfl
   .rw[rG k h h1 h2];unfold AU;rw[if_neg h2]
theorem fV(cs:LC)(ns os:LB)(fs:Lo)(ls:Ll)(ks:Lk){nx:Lj}(ht:mQ (cs,ns,os,fs,ls,ks) nx=true){o d:Int}(o0:0<=o)(o1:o<fs.length)(d0:0<=d)(d1:d<fs.length): (nx.length:Int)=fs.length/\((nx.getD o.toNat []).length:Int)=fs.length/\(nxt nx o d≠-1->(0<=nxt nx o d/\nxt nx o d<ls.length)/\cN (cs,ns,os,fs,ls,ks) (nxt nx o d)=o):=by
 have hl:(nx.length:Int)=fs.length:=by
  unfold mQ at ht;simp only[qC,qE]at ht;exact ht.1
 have h:=(rM (n:=(cs,ns,os,fs,ls,ks)) hl).1 ht o.toNat (by omega)
 have hr:((nx.getD o.toNat []).length:Int)=fs.length:=by
  unfold rowOk at h;simp only[qC,qE]at h;exact h.1
 refine⟨hl,hr,λhne=>?_⟩
 have h2:=(xr (n:=(cs,ns,os,fs,ls,ks)) hr).1 h d.toNat (by omega)
 unfold aT dM at h2;simp only[yD,qC,qE]at h2;rcases h2 with h2 | ⟨h2,h3⟩
 .exact absurd h2 hne
 .exact⟨h2,h3.trans (by omega)⟩
theorem aM{x:Int}(h:-1000000000000<=x/\x<=1000000000000): inR .i64 x:=by unfold inR;simp only;omega
theorem Lu(nx:Lj)(o to t:Int)(cs:LC)(ns os:LB)(fs:Lo)(ls:Ll)(ks:Lk): af Tryz.prog G0 102 [.ip N (cs,ns,os,fs,ls,ks),.dat M nx,.dat I o,.dat I to,.dat I t] [] ⟨Gk (cs,ns,os,fs,ls,ks) nx o to t/\isZero (je (cs,ns,os,fs,ls,ks) nx o to t)=true,.dat (.sl Stp) (uq (cs,ns,os,fs,ls,ks) nx o to t),[]⟩/\cU Tryz.prog G0 102 [.ip N (cs,ns,os,fs,ls,ks),.dat M nx,.dat I o,.dat I to,.dat I t] [] ⟨Gk (cs,ns,os,fs,ls,ks) nx o to t,isZero (je (cs,ns,os,fs,ls,ks) nx o to t),um 39 (je (cs,ns,os,fs,ls,ks) nx o to t)⟩:=by
 refine dz (c:=cW) aEG aL hm VC (Qd nx o to t cs ns os fs ls ks ⟨rfl,λhp=>?_⟩)
 simp only[qc,Dh,Es,Di,qd,Dt,Eb,Dy,Dp,Ei,Eh,Ed,Ew,Df,Et,Dl,Dn,Eo,Dz,Dw,Dj,Dq,Ee,Fe,Dc,Dx,Dk,Ec,Em,Du,Eu,Ez,En,Ef,Fg,Fj,Fh,Ep,Ej,Ey,Fb];refine⟨?_,?_⟩
 .exact⟨([],o,t),⟨hp,by simp,(G3 19 o t).symm⟩,rfl,rfl,rfl⟩
 rintro⟨d,u,v⟩ hx;simp only[aCu,aCt,aDT,aDS,Zp,qG,wC,zS];obtain⟨⟨hs,ht,u0,u1,o0,o1,v0,v1⟩,hd,hw⟩:=hx;simp only at u0 u1 o0 o1 v0 v1 hd hw;have hno:=bu cs ns os fs ls ks hs;obtain⟨c1,c2,c3⟩:=fV cs ns os fs ls ks ht u0 u1 o0 o1;have ec:(nx.getD u.toNat []).getD to.toNat 0=nxt nx u to:=rfl;rw[ec];generalize hln:nxt nx u to=ln at *;have hoff:my (cs,ns,os,fs,ls,ks) u:=⟨hno,u0,u1⟩
 have hW:je (cs,ns,os,fs,ls,ks) nx o to t=(AU d (kr (cs,ns,os,fs,ls,ks) nx to (19-d.length) u v)).2:=by unfold je;rw[hw]
 have hL:uq (cs,ns,os,fs,ls,ks) nx o to t=(AU d (kr (cs,ns,os,fs,ls,ks) nx to (19-d.length) u v)).1:=by unfold uq;rw[hw]
 have hroute:u≠to->kr (cs,ns,os,fs,ls,ks) nx to (19-d.length) u v=([],170)->isZero (je (cs,ns,os,fs,ls,ks) nx o to t)=false/\chainOf (Value.iface 39 (Value.int IntKind.i64 170))=chainOf (um 39 (je (cs,ns,os,fs,ls,ks) nx o to t)):=λ_ h=>by
  have:je (cs,ns,os,fs,ls,ks) nx o to t=170:=by rw[hW,h];rfl
  rw[this];exact⟨rfl,rfl⟩
 refine⟨by omega,by omega,λhne=>⟨by omega,by omega,u0,by rw[c1];exact u1,o0,by rw[c2];exact o1,λhm=>hroute hne (nu _ hne (hln.trans hm)),λhm=>?_⟩,λhe=>?_⟩
 .have hm':nxt nx u to≠-1:=by rw[hln];exact hm
  obtain⟨⟨l0,l1⟩,lf⟩:=c3 hm;have hlin:Nu (cs,ns,os,fs,ls,ks) ln:=⟨hno,l0,l1⟩;have hr:fB (cs,ns,os,fs,ls,ks) u v:=⟨hoff,by omega,by omega⟩
  refine⟨hr,hlin,λhz=>⟨hr,hlin,hz,λh20=>hroute hne ?_,λh20=>?_⟩,λhz=>?_⟩
  .rw[show 19-d.length=0 by omega]
   exact rh hne hm' (by rw[hln];exact cX.1 hz)
  .have hz0:=cX.1 hz;obtain⟨b1,b2,b3,b4⟩:=v8 cs ns os fs ls ks hlin hz0;obtain⟨g1,g2,g3,g4,g5,g6,g7,g8⟩:=Bq cs ns os fs ls ks hlin;have et:(ls.getD ln.toNat (⟨#[]⟩,0,0,0,0,0)).2.2.2.2.1=iP (cs,ns,os,fs,ls,ks) ln:=rfl;have eo:(ls.getD ln.toNat (⟨#[]⟩,0,0,0,0,0)).2.2.1=Hl (cs,ns,os,fs,ls,ks) ln:=rfl;rw[et,eo]
   have hnx:=rf (n:=(cs,ns,os,fs,ls,ks)) (nx:=nx) (to:=to) (o:=u) (t:=v) (19-(d.length+1)) hne hm' (by rw[hln];exact hz0)
   rw[show 19-(d.length+1)+1=19-d.length by omega,hln]at hnx
   refine⟨l0,l1,aM (by omega),by omega,by omega,aM (by omega),(d++[(u,v,tN (cs,ns,os,fs,ls,ks) ln (aH (cs,ns,os,fs,ls,ks) u v),ln)],Hl (cs,ns,os,fs,ls,ks) ln,tN (cs,ns,os,fs,ls,ks) ln (aH (cs,ns,os,fs,ls,ks) u v)+iP (cs,ns,os,fs,ls,ks) ln),⟨⟨hs,ht,g3,g4,o0,o1,by simp only;omega,by simp only;omega⟩,by simp;omega,?_⟩,⟨by rw[Zp];simp,by simp,rfl⟩,by simp;omega⟩
   show kr (cs,ns,os,fs,ls,ks) nx to 19 o t=_;rw[hw,hnx,xF];simp
  .have hz0:=fk.1 hz;have:=rG (n:=(cs,ns,os,fs,ls,ks)) (nx:=nx) (to:=to) (o:=u) (t:=v) (19-d.length) hne hm' (by rw[hln];exact hz0)
   rw[hln]at this;have:je (cs,ns,os,fs,ls,ks) nx o to t=ry (cs,ns,os,fs,ls,ks) ln (aH (cs,ns,os,fs,ls,ks) u v):=by rw[hW,this];exact G4 hz0
   rw[this];exact⟨hz,rfl⟩
 .have:=Ge (n:=(cs,ns,os,fs,ls,ks)) (nx:=nx) (to:=to) (o:=u) (t:=v) (19-d.length) he;rw[hW,hL,this];exact⟨rfl,rfl⟩
end Go.Eng.Sv
set_option maxRecDepth 100000
noncomputable section
namespace Go.Eng.Sv
open Go.Proofs
def zw(z:Int)(w:List Bool)(h:Li)(a b:Int): Prop:=aw z w h=true/\bX a=true/\bX b=true
def pF(w:List Bool)(h:Li)(a b:Int): Li:=iG w h a (b-a+1)
def Bo(n:Net)(line:Int): Prop:=noF n=true/\0<=line/\line<n.2.2.2.2.1.length
def aG(n:Net)(line:Int): Line:=n.2.2.2.2.1.getD line.toNat (⟨#[]⟩,0,0,0,0,0)
def zj(n:Net)(line:Int): Int×List Bool×Li:=n.1.getD (n.2.2.2.1.getD (aG n line).2.1.toNat (⟨#[]⟩,0,0,0,0,0,[])).2.2.1.toNat (0,[],[])
def fx(n:Net)(line:Int)(ts:Li): Bool:=dM line n.2.2.2.2.1.length&&ts.all dw&&bj n
def wN(ts:Li)(k:Int): Prop:=0<=k/\k<=ts.length/\(ts.take k.toNat).all dw=true
def Jp(ts:Li): Prop:=ts.length<=1000000
def qi(n:Net)(line time:Int): Prop:=Bo n line/\0<=time/\time<=2000000
def gu(n:Net)(line d:Int): Int:=jF (zj n line).1 d (aG n line).2.2.2.1
def uS(n:Net)(line time:Int): Li:=pF (zj n line).2.1 (zj n line).2.2 (gY (zj n line).1 time) (gY (zj n line).1 time+60)
def fZ(n:Net)(line time:Int): Option Int:=(((uS n line time).map (gu n line)).find? λt=>decide (time<=t)).bind λt=>if t<time+86400 then some t else none
def mL(n:Net)(line time:Int): Int:=(fZ n line time).getD 0
def mM(n:Net)(line time:Int): Bool:=(fZ n line time).isSome
def firstTo(n:Net)(line time:Int)(k:Nat): Prop:=k<=(uS n line time).length/\((uS n line time).take k).all (λd=>decide (gu n line d<time))=true
def KT5: Kt:=kOr 286 (ax [.row C,.val I] (λ(c,d,_)=>aw c.1 c.2.1 c.2.2=true/\bX d=true) λ(c,d,_)=>.dat .bool (bP c.2.1 c.2.2 d)) KT4
def Wy(ts:Li): Ann:=⟨λid s=>match id with
 | 4=>some {α:=Int,inv:=λk=>wN ts k,st:=λk=>put s [(20,.dat I k)],μ:=λk=>Dc (Dj (Df ts) k)}
 | _=>none,λ_ _=>none,λ_ _=>none⟩
theorem Ko(line:Int)(ts:Li)(cs:LC)(ns os:LB)(fs:Lo)(ls:Ll)(ks:Lk)(hvc:
 let c1:=Dp line 0;let c2:=Di c1;let c12:=c2->c2->c2;let c3:=Ea c1 true (Ed line (Df ls));let c4:=(cs,ns,os,fs,ls,ks);let c5:=fx c4 line ts;true/\(Jp ts->c12/\c12/\c12/\c12/\(Dh true c2->c2)/\(c3->false=c5/\True)/\(c3=false->(∃x,wN ts x/\c4=c4/\ts=ts/\Df ts=Df ts/\0=x/\True)/\∀(x:Int),let c6:=Dp x (Df ts);let c7:=Du ts (Dc x) 0;let c8:=Dp c7 0;let c9:=Di c8;let c10:=Ea c8 true (Ei c7 2000000);let c11:=x+1;wN ts x->(c6->0<=x/\x<Df ts/\(c9->c9->c9)/\(Dh true c9->c9)/\(c10->false=c5/\True)/\(c10=false->inR .i64 c11/\∃y,wN ts y/\(c4=c4/\ts=ts/\Df ts=Df ts/\c11=y/\True)/\Dc (Df ts-y)<Dc (Df ts-x)))/\(c6=false->True/\Eb (Df (fq c4)) 0=c5/\True)))):
  evF (mkc KT5) (lvA [(4,[3,6,8,18,19,20])] (Wy ts)) 209 [net cs ns os fs ls ks,.dat I line,.dat R ts] [] ⟨Jp ts,.dat .bool (fx (cs,ns,os,fs,ls,ks) line ts),[]⟩:=oE hvc
theorem QK(line:Int)(cs:LC)(ns os:LB)(fs:Lo)(ls:Ll)(ks:Lk)(hvc:
 let c1:=(cs,ns,os,fs,ls,ks);let c2:=(Du ls (Dc line) (ByteArray.mk #[],(0:Int),(0:Int),(0:Int),(0:Int),(0:Int))).2.1;let c3:=(Du fs (Dc c2) (ByteArray.mk #[],(0:Int),(0:Int),(0:Int),(0:Int),(0:Int),Dt ByteArray)).2.2.1;let c4:=Du cs (Dc c3) ((0:Int),Dt Bool,Dt Int);let c5:=zj c1 line;true/\(Bo c1 line->0<=line/\line<Df ls/\0<=c2/\c2<Df fs/\0<=c3/\c3<Df cs/\1=1/\0=0/\1=1/\0=0/\c4.1=c5.1/\c4.2.1=c5.2.1/\c4.2.2=c5.2.2/\True)):
  evF (mkc KT5) az 256 [net cs ns os fs ls ks,.dat I line] [] ⟨Bo (cs,ns,os,fs,ls,ks) line,cal (zj (cs,ns,os,fs,ls,ks) line).1 (zj (cs,ns,os,fs,ls,ks) line).2.1 (zj (cs,ns,os,fs,ls,ks) line).2.2,[]⟩:=oE hvc
theorem C0(z a b:Int)(w:List Bool)(h:Li)(hvc:
 let c1:=(z,w,h);true/\(True->a=a/\b=b/\c1=c1/\True)):
  evF (mkc KT5) az 257 [cal z w h,.dat I a,.dat I b] [] ⟨True,.fn 285 [.ip I a,.ip I b,.ip C (z,w,h)],[]⟩:=oE hvc
def UE(w:List Bool)(h:Li)(a b:Int): F8:=⟨λid y=>match id with
 | 1=>some {α:=Int,inv:=λd=>lK a (Dq (Dj b a) 1) d,st:=λd=>⟨put y.s [(5,.dat I d)],kq w h a d,true⟩,μ:=λd=>Dc (Dj (Dq b 1) d)}
 | _=>none,λ_ _=>none,λid=>id==3⟩
theorem PY(z a b:Int)(w:List Bool)(h:Li)(hvc:
 let c1:=(z,w,h);let c2:=pF w h a b;let c3:=Dk c2;let c4:=b+1;true/\true/\true/\false=false/\∀(l:Nat),zw z w h a b->(∃x,lK a ((b-a)+1) x/\(l=l/\a=a/\b=b/\c1=c1/\a=x/\a=a/\True)/\0=kq w h a x/\true)/\∀(x:Int),let c5:=(b-a)+1;let c6:=kq w h a x;let c7:=c6+(1);let c8:=x+1;let c9:=Ea (bP w h x) (Di false) false;lK a c5 x->(Eh x b->(aw z w h/\bX x)/\(bP w h x->(bP w h x->bP w h x)/\(bP w h x->bP w h x)/\l=l/\true/\lF c2 c6 x/\∀(b_1:Bool),let c10:=Ea (bP w h x) (Di b_1) false;(Dh true (bP w h x)->bP w h x)/\(c10->b_1->c7=c3)/\(c10=false->inR .i64 c8/\∃y,lK a c5 y/\((l=l/\a=a/\b=b/\c1=c1/\c8=y/\a=a/\True)/\c7=kq w h a y/\b_1)/\Dc (c4-y)<Dc (c4-x)))/\(bP w h x=false->(bP w h x->bP w h x->bP w h x)/\(Dh true (bP w h x)->bP w h x)/\(c9->true->c6=c3)/\(c9=false->inR .i64 c8/\∃y,lK a c5 y/\((l=l/\a=a/\b=b/\c1=c1/\c8=y/\a=a/\True)/\c6=kq w h a y/\true)/\Dc (c4-y)<Dc (c4-x))))/\(Eh x b=false->true->c6=c3)):
  evI (mkc KT5) (UE w h a b) 285 [.ip I a,.ip I b,.ip C (z,w,h)] ⟨zw z w h a b,I,pF w h a b⟩:=oE hvc
def KT6: Kt:=kOr 256 (ax [.row N,.val I] (λ(n,l,_)=>Bo n l) λ(n,l,_)=>cal (zj n l).1 (zj n l).2.1 (zj n l).2.2) <|
 kOr 257 (ax [.row C,.val I,.val I] (λ_=>True) λ(c,a,b,_)=>.fn 285 [.ip I a,.ip I b,.ip C (c.1,c.2.1,c.2.2)]) <|
 kOr 209 (ax [.row N,.val I,.val R] (λ(_,_,ts,_)=>Jp ts) λ(n,l,ts,_)=>.dat .bool (fx n l ts)) KT5
def aEe: FuncId->List AV->Option i9:=λf caps=>match f,caps with
 | 285,[.ip (.int .i64) a,.ip (.int .i64) b,.ip (.pair (.int .i64) (.pair (.sl .bool) (.sl (.int .i64)))) c]=>some ⟨zw c.1 c.2.1 c.2.2 a b,I,pF c.2.1 c.2.2 a b⟩
 | _,_=>none
noncomputable def mkr(K:Kt)(mb:Tmp->Bool): Cfg:=⟨Tryz.prog,G0,K,mb,aEe,true,λ_ _ _=>none,λ_=>false⟩
def aA7(n:Net)(line time:Int): Ann:=⟨λid s=>match id with
 | 4=>some {α:=Nat,inv:=λk=>firstTo n line time k,st:=λ_=>flat s,μ:=λk=>k}
 | _=>none,λ_ _=>none,λ_ _=>none⟩
theorem QA(line time:Int)(cs:LC)(ns os:LB)(fs:Lo)(ls:Ll)(ks:Lk)(hvc:
 let c1:=(cs,ns,os,fs,ls,ks);let c2:=zj c1 line;let c3:=c2.1;let c4:=c2.2;let c5:=c4.1;let c6:=c4.2;let c7:=gY c3 time;let c8:=c7+60;let c9:=Pj c3 time;let c10:=(c3,c5,c6);let c11:=pF c5 c6 c7 c8;let c12:=(Du ls (Dc line) (ByteArray.mk #[],(0:Int),(0:Int),(0:Int),(0:Int),(0:Int))).2.2.2.1;let c13:=time+86400;let c14:=mL c1 line time;let c15:=mM c1 line time;true/\(qi c1 line time->Bo c1 line/\1=1/\0=0/\1=1/\0=0/\ga c3 c5 c6 time/\1=1/\0=0/\inR IntKind.i64 c8/\True/\zw c3 c5 c6 c7 c8/\(∃x,firstTo c1 line time x/\x=0/\cs=cs/\ns=ns/\os=os/\fs=fs/\ls=ls/\ks=ks/\line=line/\time=time/\c1=c1/\line=line/\time=time/\1=1/\0=0/\0=0/\1=1/\0=0/\0=0/\1=1/\0=0/\0=0/\c7=c7/\c9=c9/\cs=cs/\ns=ns/\os=os/\fs=fs/\ls=ls/\ks=ks/\line=line/\c3=c3/\c5=c5/\c6=c6/\c7=c7/\c9=c9/\c3=c3/\c5=c5/\c6=c6/\time=time/\c7=c7/\c9=c9/\c7=c7/\c9=c9/\c3=c3/\c5=c5/\c6=c6/\c7=c7/\c7=c7/\c8=c8/\c7=c7/\c8=c8/\c10=c10/\(0:Int)=(0:Int)/\false=false/\c3=c3/\c5=c5/\c6=c6/\True)/\(∀(x:Nat) (y:Int),let c16:=Dp (jF c3 y c12) time;let c17:=Ed (jF c3 y c12) c13;
 firstTo c1 line time x->lF c11 x y->1=1/\0=0/\0<=line/\line<Df ls/\lr c3 c5 c6 y c12/\(c16->∃z,firstTo c1 line time z/\z=x+(1)/\cs=cs/\ns=ns/\os=os/\fs=fs/\ls=ls/\ks=ks/\line=line/\time=time/\c1=c1/\line=line/\time=time/\1=1/\0=0/\0=0/\1=1/\0=0/\0=0/\1=1/\0=0/\0=0/\c7=c7/\c9=c9/\cs=cs/\ns=ns/\os=os/\fs=fs/\ls=ls/\ks=ks/\line=line/\c3=c3/\c5=c5/\c6=c6/\c7=c7/\c9=c9/\c3=c3/\c5=c5/\c6=c6/\time=time/\c7=c7/\c9=c9/\c7=c7/\c9=c9/\c3=c3/\c5=c5/\c6=c6/\c7=c7/\c7=c7/\c8=c8/\c7=c7/\c8=c8/\c10=c10/\(0:Int)=(0:Int)/\false=false/\c3=c3/\c5=c5/\c6=c6/\True)/\(c16=false->inR .i64 c13/\(c17->1=1/\0=0/\1=1/\0=0/\1=1/\0=0/\1=1/\0=0/\0=c14/\false=c15/\True)/\(c17=false->1=1/\0=0/\1=1/\0=0/\1=1/\0=0/\1=1/\0=0/\jF c3 y c12=c14/\true=c15/\True)))/\∀(x:Nat),firstTo c1 line time x->x=Dk c11->1=1/\0=0/\1=1/\0=0/\1=1/\0=0/\1=1/\0=0/\0=c14/\false=c15/\True)):
  evF (mkr KT6 λ_=>false) (aA7 (cs,ns,os,fs,ls,ks) line time) 210 [net cs ns os fs ls ks,.dat I line,.dat I time] [] ⟨qi (cs,ns,os,fs,ls,ks) line time,.tup [.dat I (mL (cs,ns,os,fs,ls,ks) line time),.dat .bool (mM (cs,ns,os,fs,ls,ks) line time)],[]⟩:=oE hvc
def KT7: Kt:=kOr 210 (ax [.row N,.val I,.val I] (λ(n,l,t,_)=>qi n l t) λ(n,l,t,_)=>.tup [.dat I (mL n l t),.dat .bool (mM n l t)]) KT6
theorem aBw: aj Tryz.prog G0 KT5:=ai (ag λ((z,w,h),d,_)=>aAB z w h d) aBx
theorem OC(cs:LC)(ns os:LB)(fs:Lo)(ls:Ll)(ks:Lk){line:Int}(h:Bo (cs,ns,os,fs,ls,ks) line): aw (zj (cs,ns,os,fs,ls,ks) line).1 (zj (cs,ns,os,fs,ls,ks) line).2.1 (zj (cs,ns,os,fs,ls,ks) line).2.2=true/\0<=(aG (cs,ns,os,fs,ls,ks) line).2.1/\(aG (cs,ns,os,fs,ls,ks) line).2.1<fs.length/\
  0<=(fs.getD (aG (cs,ns,os,fs,ls,ks) line).2.1.toNat (⟨#[]⟩,0,0,0,0,0,[])).2.2.1/\(fs.getD (aG (cs,ns,os,fs,ls,ks) line).2.1.toNat (⟨#[]⟩,0,0,0,0,0,[])).2.2.1<cs.length/\0<=(aG (cs,ns,os,fs,ls,ks) line).2.2.2.1/\(aG (cs,ns,os,fs,ls,ks) line).2.2.2.1<=1439:=by
 obtain⟨hno,l0,l1⟩:=h;have l1:line<ls.length:=l1;have hl:aG (cs,ns,os,fs,ls,ks) line∈ls:=by
  unfold aG;show ls.getD line.toNat _∈ls;rw[qA,qB (by omega),qQ]
  exact wQ _
 obtain⟨g1,g2,g3,g4,g5,g6,_⟩:=iU ((lw cs ns os fs ls ks hno).2.2.2 _ hl);have f0:0<=(aG (cs,ns,os,fs,ls,ks) line).2.1:=g1;have f1:(aG (cs,ns,os,fs,ls,ks) line).2.1<fs.length:=g2;have ho:fs.getD (aG (cs,ns,os,fs,ls,ks) line).2.1.toNat (⟨#[]⟩,0,0,0,0,0,[])∈fs:=by
  rw[qA,qB (by omega),qQ]
  exact wQ _
 have gc:=(fD cs ns os fs ls ks hno).2.2.2 _ ho;unfold db dM at gc;simp only[qC,qE]at gc;have gc:0<=(fs.getD (aG (cs,ns,os,fs,ls,ks) line).2.1.toNat (⟨#[]⟩,0,0,0,0,0,[])).2.2.1/\(fs.getD (aG (cs,ns,os,fs,ls,ks) line).2.1.toNat (⟨#[]⟩,0,0,0,0,0,[])).2.2.1<(cs.length:Int):=gc.1.1.1.1.1.2;have hc:=((rp (by decide)).1 (iO cs ns os fs ls ks hno).2.1).2.2.2
 have hcl:(aA cs ns).length=cs.length:=by unfold aA;simp
 have:=hc (fs.getD (aG (cs,ns,os,fs,ls,ks) line).2.1.toNat (⟨#[]⟩,0,0,0,0,0,[])).2.2.1.toNat (by omega)
 unfold bn at this;rw[l7 (λc:Int×List Bool×Li=>aw c.1 c.2.1 c.2.2) cs _ (0,[],[]) false (by omega)]at this
 exact⟨this,f0,f1,gc.1,gc.2,g6.1,g6.2⟩
theorem Xo(line:Int)(cs:LC)(ns os:LB)(fs:Lo)(ls:Ll)(ks:Lk): af Tryz.prog G0 256 [net cs ns os fs ls ks,.dat I line] [] ⟨Bo (cs,ns,os,fs,ls,ks) line,cal (zj (cs,ns,os,fs,ls,ks) line).1 (zj (cs,ns,os,fs,ls,ks) line).2.1 (zj (cs,ns,os,fs,ls,ks) line).2.2,[]⟩:=by
 refine ae (c:=mkc KT5) aBw aL hm (QK line cs ns os fs ls ks ⟨rfl,λhp=>?_⟩)
 obtain⟨_,h1,h2,h3,h4,_⟩:=OC cs ns os fs ls ks hp;exact⟨hp.2.1,hp.2.2,h1,h2,h3,h4,rfl,rfl,rfl,rfl,rfl,rfl,rfl,trivial⟩
theorem IE(z a b:Int)(w:List Bool)(h:Li): af Tryz.prog G0 257 [cal z w h,.dat I a,.dat I b] [] ⟨True,.fn 285 [.ip I a,.ip I b,.ip C (z,w,h)],[]⟩:=
 ae (c:=mkc KT5) aBw aL hm (C0 z a b w h ⟨rfl,λ_=>⟨rfl,rfl,rfl,trivial⟩⟩)
theorem uT{t:Int}: dw t=true↔¬t<0/\¬t>2000000:=by unfold dw;rw[qE];omega
theorem Q9(line:Int)(ts:Li)(cs:LC)(ns os:LB)(fs:Lo)(ls:Ll)(ks:Lk): af Tryz.prog G0 209 [net cs ns os fs ls ks,.dat I line,.dat R ts] [] ⟨Jp ts,.dat .bool (fx (cs,ns,os,fs,ls,ks) line ts),[]⟩:=by
 refine ae (c:=mkc KT5) aBw aL hm (Ko line ts cs ns os fs ls ks ⟨rfl,λhp=>?_⟩)
 simp only[qc,Dh,Es,Di,qd,Dt,Eb,Dy,Dp,Ei,Eh,Ed,Ew,Df,Et,Dl,Dn,Eo,Dz,Dw,Dj,Dq,Ee,Fe,Dc,Dx,Dk,Ec,Em,Du,Eu,Ez,En,Ef,Fg,Fj,Fh,Ep,Ej,Ey,Fb];have hp':ts.length<=1000000:=hp;refine⟨λh=>?_,λ⟨h1,h2⟩=>⟨⟨qL _,vC _,rfl⟩,λk ⟨k0,k1,k2⟩=>⟨λhk=>?_,λhk=>?_⟩⟩⟩
 .unfold fx;have:dM line (ls.length:Nat)=false:=by unfold dM;exact vK (by omega)
  show false=(dM line (ls.length:Nat)&&_&&_);rw[this];rfl
 .have hg:ts.getD k.toNat 0=ts[k.toNat]:=by rw[qA,qB (by omega),qQ]
  refine⟨k0,hk,λh=>?_,λh=>⟨bA (by omega),k+1,⟨by omega,by omega,?_⟩,rfl,by omega⟩⟩
  .have hn:ts.all dw=false:=by
    rw[qCt];refine⟨ts[k.toNat],wQ _,λg=>?_⟩
    rw[<- hg,uT]at g;omega
   unfold fx;rw[hn,kU];rfl
  .rw[show(k+1).toNat=k.toNat+1 by omega,wX,qB (by omega),qBk,kY,k2,<- hg]
   show(true&&(dw _&&true))=true;rw[uT.2 h];rfl
 .have e1:dM line (ls.length:Nat)=true:=by unfold dM;exact vF (by omega)
  have e2:ts.all dw=true:=by
   rw[qO (by omega)]at k2;exact k2
  unfold fx bj;show _=(dM line (ls.length:Nat)&&ts.all dw&&_);rw[e1,e2];cases fq (cs,ns,os,fs,ls,ks)with
  | nil=>rfl
  | cons a l=>
   show decide _=false;rw[vN];show ¬((((a::l).length:Nat):Int)=0);rw[vW];omega
theorem gW{d:Int}: bX d=true↔-1000000<=d/\d<=1000000:=by unfold bX;rw[qE]
theorem WM(a b:Int)(c:C.den): mC Tryz.prog G0 285 [.ip I a,.ip I b,.ip C c] ⟨zw c.1 c.2.1 c.2.2 a b,I,pF c.2.1 c.2.2 a b⟩:=by
 obtain⟨z,w,h⟩:=c;refine jq (c:=mkc KT5) (A:=UE w h a b) aBw aL hm ?_;refine PY z a b w h ⟨rfl,rfl,rfl,rfl,λl ⟨hv,ha,hb⟩=>?_⟩
 simp only[qc,Dh,Es,Di,qd,Dt,Eb,Dy,Dp,Ei,Eh,Ed,Ew,Df,Et,Dl,Dn,Eo,Dz,Dw,Dj,Dq,Ee,Fe,Dc,Dx,Dk,Ec,Em,Du,Eu,Ez,En,Ef,Fg,Fj,Fh,Ep,Ej,Ey,Fb];have ha':=gW.1 ha;have hb':=gW.1 hb;refine⟨⟨a,⟨qL _,.inr rfl⟩,rfl,(HS w h a).symm⟩,λx hx=>?_⟩
 have hx1:=hx.1;have hx2:=hx.2;refine⟨λhle=>⟨⟨hv,gW.2 (by omega)⟩,λhw=>⟨OS hx1 (by omega) hw,λs=>⟨λg1 g2=>(by rw[g1.2]at g2;cases g2),λg=>⟨bA (by omega),x+1,⟨by omega,.inl (by omega)⟩,⟨rfl,?_,g hw⟩,by omega⟩⟩⟩,λhw=>⟨λg=>(by rw[hw]at g;cases g),λ_=>⟨bA (by omega),x+1,⟨by omega,.inl (by omega)⟩,⟨rfl,?_⟩,by omega⟩⟩⟩,λhge=>?_⟩
 .rw[rz hx1,hw];rfl
 .rw[rz hx1,hw];rfl
 .exact cnt_end (n:=b-a+1) hx (by omega)
theorem aEE: aj Tryz.prog G0 KT6:=ai (ag λ((cs,ns,os,fs,ls,ks),l,_)=>Xo l cs ns os fs ls ks)<|ai (ag λ((z,w,h),a,b,_)=>IE z a b w h)<|ai (ag λ((cs,ns,os,fs,ls,ks),l,ts,_)=>Q9 l ts cs ns os fs ls ks) aBw
theorem aBJ: br Tryz.prog G0 aEe:=by
 intro f caps c h;unfold aEe at h;split at h
 .cases h;exact WM _ _ _
 .cases h
theorem FA{f:Int->Int}{time y:Int}(hy:¬f y<time): ∀{L:Li} {x:Nat},L[x]?=some y->(L.take x).all (λd=>decide (f d<time))=true->(L.map f).find? (λt=>decide (time<=t))=some (f y)
 | [],x,h,_=>by simp at h
 | a::L,0,h,_=>by
  have:a=y:=by simpa using h
  subst this;rw[zG,qBg,vF (show time<=f a by omega)]
 | a::L,x+1,h,g=>by
  rw[List.take_succ_cons,qAk,qC,qE]at g;rw[zG,qBg,vK (show ¬time<=f a by omega)]
  exact FA hy (by simpa using h) g.2
theorem N7{f:Int->Int}{time:Int}: ∀{L:Li},L.all (λd=>decide (f d<time))=true->(L.map f).find? (λt=>decide (time<=t))=none
 | [],_=>rfl
 | a::L,g=>by
  rw[qAk,qC,qE]at g;rw[zG,qBg,vK (show ¬time<=f a by omega)]
  exact N7 g.2
theorem H9{w:List Bool}{h:Li}{a b y:Int}(hy:y∈pF w h a b): a<=y/\y<=b/\bP w h y=true:=by
 unfold pF iG at hy;rw[xK]at hy;obtain⟨hy,hw⟩:=hy;obtain⟨i,hi,rfl⟩:=zA.1 hy;have:=qX.1 hi;exact⟨by omega,by omega,hw⟩
theorem QX{z:Int}{w:List Bool}{h:Li}{t:Int}(hv:aw z w h=true)(t0:0<=t)(t1:t<=2000000): -2<=gY z t/\gY z t<=2000:=by
 obtain⟨⟨v1,v2,_⟩,_⟩:=cF.1 hv;unfold gY;omega
theorem Xg(line time:Int)(cs:LC)(ns os:LB)(fs:Lo)(ls:Ll)(ks:Lk): af Tryz.prog G0 210 [net cs ns os fs ls ks,.dat I line,.dat I time] [] ⟨qi (cs,ns,os,fs,ls,ks) line time,.tup [.dat I (mL (cs,ns,os,fs,ls,ks) line time),.dat .bool (mM (cs,ns,os,fs,ls,ks) line time)],[]⟩:=by
 refine ae (c:=mkr KT6 λ_=>false) aEE aBJ hm (QA line time cs ns os fs ls ks ⟨rfl,λhp=>?_⟩)
 simp only[qc,Dh,Es,Di,qd,Dt,Eb,Dy,Dp,Ei,Eh,Ed,Ew,Df,Et,Dl,Dn,Eo,Dz,Dw,Dj,Dq,Ee,Fe,Dc,Dx,Dk,Ec,Em,Du,Eu,Ez,En,Ef,Fg,Fj,Fh,Ep,Ej,Ey,Fb];obtain⟨hl,t0,t1⟩:=hp;obtain⟨hv,_,_,_,_,m0,m1⟩:=OC cs ns os fs ls ks hl;obtain⟨d0,d1⟩:=QX hv t0 t1;refine⟨hl,⟨hv,by omega,by omega⟩,bA (by omega),⟨hv,gW.2 (by omega),gW.2 (by omega)⟩,⟨wW _,rfl⟩,λx y hx hy=>?_,λx hx hl=>?_⟩
 .have hy':(uS (cs,ns,os,fs,ls,ks) line time)[x]?=some y:=hy;obtain⟨y0,y1,yw⟩:=H9 (zH hy);obtain⟨x1,x2⟩:=hx;refine⟨hl.2.1,hl.2.2,⟨hv,gW.2 (by omega),m0,(by show(aG (cs,ns,os,fs,ls,ks) line).2.2.2.1<1440;omega)⟩,λhlt=>⟨(qF.1 hy').1,?_⟩,λhge=>⟨bA (by omega),λhfar=>?_,λhnear=>?_⟩⟩
  .rw[wX,hy',qBk,kY,x2];show(true&&(decide (gu (cs,ns,os,fs,ls,ks) line y<time)&&true))=true;rw[vF (show gu (cs,ns,os,fs,ls,ks) line y<time from hlt)];rfl
  .have hf:fZ (cs,ns,os,fs,ls,ks) line time=none:=by
    unfold fZ;rw[FA (f:=gu (cs,ns,os,fs,ls,ks) line) hge hy' x2];show(if gu (cs,ns,os,fs,ls,ks) line y<time+86400 then some (gu (cs,ns,os,fs,ls,ks) line y)else none)=none
    rw[if_neg (show ¬gu (cs,ns,os,fs,ls,ks) line y<time+86400 from by have:gu (cs,ns,os,fs,ls,ks) line y≥time+86400:=hfar;omega)]
   unfold mL mM;rw[hf];exact⟨rfl,rfl⟩
  .have hf:fZ (cs,ns,os,fs,ls,ks) line time=some (gu (cs,ns,os,fs,ls,ks) line y):=by
    unfold fZ;rw[FA (f:=gu (cs,ns,os,fs,ls,ks) line) hge hy' x2];show(if gu (cs,ns,os,fs,ls,ks) line y<time+86400 then some (gu (cs,ns,os,fs,ls,ks) line y)else none)=_
    rw[if_pos (show gu (cs,ns,os,fs,ls,ks) line y<time+86400 from by have:¬gu (cs,ns,os,fs,ls,ks) line y≥time+86400:=hnear;omega)]
   unfold mL mM;rw[hf];exact⟨rfl,rfl⟩
 .obtain⟨x1,x2⟩:=hx;have hx':x=(uS (cs,ns,os,fs,ls,ks) line time).length:=hl;rw[hx',xW]at x2;have hf:fZ (cs,ns,os,fs,ls,ks) line time=none:=by
   unfold fZ;rw[N7 x2];rfl
  unfold mL mM;rw[hf];exact⟨rfl,rfl⟩
theorem aFl: aj Tryz.prog G0 KT7:=ai (ag λ((cs,ns,os,fs,ls,ks),l,t,_)=>Xg l t cs ns os fs ls ks) aEE
end Go.Eng.Sv
set_option maxRecDepth 100000
noncomputable section
namespace Go.Eng.Sv
open Go.Proofs
def rm(a b:Int): Int:=if a<b then b else a
def KT8: Kt:=KT7
theorem ZW(x:Int)(hvc:
 true/\(True->Dy x x=false/\True)):
  evF (mkc KT8) az 287 [.dat I x] [] ⟨True,.dat .bool false,[]⟩:=oE hvc
def KT9: Kt:=kOr 287 (ax [.val I] (λ_=>True) λ_=>.dat .bool false) KT8
theorem V8(x y:Int)(hvc:
 let c3:=false->false->false;let c1:=Ea false (Di false) false;let c2:=Di c1;true/\(True->True/\c3/\(false->True)/\c3/\(Dh true false->false)/\(c2->c2->c2)/\(c2->c2->c2)/\(Dh true c2->c2)/\Ea c1 true (Dp x y)=Dp x y/\True)):
  evF (mkc KT9) az 258 [.dat I x,.dat I y] [] ⟨True,.dat .bool (Dp x y),[]⟩:=oE hvc
def aCg: Kt:=kOr 258 (ax [.val I,.val I] (λ_=>True) λ(x,y,_)=>.dat .bool (Dp x y)) KT9
theorem Is(x y:Int)(hvc:
 true/\(True->True/\(Dp x y->y=rm x y/\True)/\(Dp x y=false->x=rm x y/\True))):
  evF (mkc aCg) az 211 [.dat I x,.dat I y] [] ⟨True,.dat I (rm x y),[]⟩:=oE hvc
def aEz: Kt:=kOr 211 (ax [.val I,.val I] (λ_=>True) λ(x,y,_)=>.dat I (rm x y)) aCg
theorem ku(cs:LC)(ns os:LB)(fs:Lo)(ls:Ll)(ks:Lk){line time:Int}{ts:Li}(h:fx (cs,ns,os,fs,ls,ks) line ts=true)(ht:time∈ts): qi (cs,ns,os,fs,ls,ks) line time:=by
 unfold fx at h;rw[qC,qC]at h;obtain⟨⟨h1,h2⟩,h3⟩:=h;have h1:=wJ h1;have hs:=((wi cs ns os fs ls ks).1 (wU.1 h3)).1;have ht':=wJ (qN.1 h2 time ht);exact⟨⟨hs,h1.1,h1.2⟩,ht'.1,ht'.2⟩
theorem aED: aj Tryz.prog G0 KT8:=aFl
theorem aC5(x:Int): af Tryz.prog G0 287 [.dat I x] [] ⟨True,.dat .bool false,[]⟩:=
 ae (c:=mkc KT8) aED aL hm (ZW x ⟨rfl,λ_=>⟨by simp[Dy],trivial⟩⟩)
theorem aEC: aj Tryz.prog G0 KT9:=ai (ag λ(x,_)=>aC5 x) aED
theorem xD(x y:Int): af Tryz.prog G0 258 [.dat I x,.dat I y] [] ⟨True,.dat .bool (Dp x y),[]⟩:=by
 refine ae (c:=mkc KT9) aEC aL hm (V8 x y ⟨rfl,λ_=>?_⟩)
 exact⟨trivial,λh=>(by cases h),λ_=>trivial,λh=>(by cases h),λh=>(by cases h),λh _=>h,λh _=>h,λh=>h,rfl,trivial⟩
theorem aBz: aj Tryz.prog G0 aCg:=ai (ag λ(x,y,_)=>xD x y) aEC
theorem LI(x y:Int): af Tryz.prog G0 211 [.dat I x,.dat I y] [] ⟨True,.dat I (rm x y),[]⟩:=by
 refine ae (c:=mkc aCg) aBz aL hm (Is x y ⟨rfl,λ_=>⟨trivial,λh=>⟨?_,trivial⟩,λh=>⟨?_,trivial⟩⟩⟩)
 .unfold rm;rw[if_pos (wJ h)]
 .unfold rm;rw[if_neg (qCi h)]
theorem aDY: aj Tryz.prog G0 aEz:=ai (ag λ(x,y,_)=>LI x y) aBz
end Go.Eng.Sv
set_option maxRecDepth 100000
noncomputable section
namespace Go.Eng.Sv
open Go.Proofs
def waitGo(n:Net)(line till:Int): Nat->Int->Int->Option Int
 | 0,_,m=>some m
 | k+1,t,m=>if t<till then(fZ n line t).bind λu=>waitGo n line till k (u+1) (rm m (u-t))else some m
def zx(n:Net)(line a b:Int): Option Int:=waitGo n line b (b-a).toNat a 0
def nw(n:Net)(line a b:Int): Bool:=fx n line [a,b]&&decide (a<b)&&decide (b<=a+86400)
def oM(n:Net)(line a b:Int): Int:=if nw n line a b then(zx n line a b).getD 0 else 0
def qu(n:Net)(line a b:Int): Int:=if nw n line a b then(if(zx n line a b).isSome then 0 else 20)else 1
def Gs(n:Net)(line a b m t:Int): Prop:=nw n line a b=true/\a<=t/\t<=b+86400/\0<=m/\m<=86400/\waitGo n line b (b-t).toNat t m=zx n line a b
def aCf: Kt:=aEz
def aCs(n:Net)(line a b:Int): Ann:=⟨λid s=>match id with
 | 5=>some {α:=Int×Int,inv:=λx=>Gs n line a b x.1 x.2,st:=λx=>put s [(10,.dat I x.1),(11,.dat I x.2)],μ:=λx=>Dc (Dj b x.2)}
 | _=>none,λ_ _=>none,λ_ _=>none⟩
theorem VO(line a b:Int)(cs:LC)(ns os:LB)(fs:Lo)(ls:Ll)(ks:Lk)(hvc:
 let c1:=[a,b];let c2:=(cs,ns,os,fs,ls,ks);let c3:=Di (fx c2 line c1);let c4:=Di c3;let c5:=Ea c3 true (Eh b a);let c6:=Di c5;let c16:=c6->c6->c6;let c7:=a+86400;let c8:=Ea c5 true (Ei b c7);let c9:=oM c2 line a b;let c10:=qu c2 line a b;true/\(True->Jp c1/\(c4->c4->c4)/\(c4->c4->c4)/\(Dh true c4->c4)/\c16/\(c6->inR .i64 c7)/\c16/\c16/\(Dh true c6->c6)/\(c8->0=c9/\1=c10/\True)/\(c8=false->(∃(x:Int×Int),Gs c2 line a b x.1 x.2/\line=line/\b=b/\c2=c2/\0=x.1/\a=x.2/\True)/\∀(x:Int×Int),let c11:=Dp x.2 b;let c12:=Di (mM c2 line x.2);let c13:=mL c2 line x.2;let c14:=c13-x.2;let c15:=c13+1;Gs c2 line a b x.1 x.2->(c11->qi c2 line x.2/\(c12->0=c9/\20=c10/\True)/\(c12=false->inR .i64 c14/\True/\inR .i64 c15/\∃(y:Int×Int),Gs c2 line a b y.1 y.2/\(line=line/\b=b/\c2=c2/\rm x.1 c14=y.1/\c15=y.2/\True)/\Dc (b-y.2)<Dc (b-x.2)))/\(c11=false->x.1=c9/\0=c10/\True)))):
  evF (mkr aCf λ_=>false) (lvA [(5,[1,3,4,8,9,10,11,12,13])] (aCs (cs,ns,os,fs,ls,ks) line a b)) 143 [net cs ns os fs ls ks,.dat I line,.dat I a,.dat I b] [] ⟨True,.tup [.dat I (oM (cs,ns,os,fs,ls,ks) line a b),.dat I (qu (cs,ns,os,fs,ls,ks) line a b)],[]⟩:=oE hvc
def aEy: Kt:=kOr 143 (ax [.row N,.val I,.val I,.val I] (λ_=>True) λ(n,l,a,b,_)=>.tup [.dat I (oM n l a b),.dat I (qu n l a b)]) aCf
theorem aBy: aj Tryz.prog G0 aCf:=aDY
theorem uN(cs:LC)(ns os:LB)(fs:Lo)(ls:Ll)(ks:Lk){line a b:Int}(h:fx (cs,ns,os,fs,ls,ks) line [a,b]=true): qi (cs,ns,os,fs,ls,ks) line a/\qi (cs,ns,os,fs,ls,ks) line b:=
 ⟨ku cs ns os fs ls ks h (by simp),ku cs ns os fs ls ks h (by simp)⟩
theorem lI{n:Net}{l t u:Int}(h:fZ n l t=some u): t<=u/\u<t+86400:=by
 unfold fZ at h;cases e:((uS n l t).map (gu n l)).find? (λv=>decide (t<=v))with
 | none=>rw[e]at h;cases h
 | some v=>
  rw[e]at h;have h1:=wJ (qDh (p:=λv=>decide (t<=v)) e)
  have h:(if v<t+86400 then some v else none)=some u:=h
  split at h
  .cases h;exact⟨h1,by assumption⟩
  .cases h
theorem rH{n:Net}{l b:Int}: ∀(k j:Nat) (t m:Int),(b-t).toNat<=k->(b-t).toNat<=j->waitGo n l b k t m=waitGo n l b j t m
 | 0,0,_,_,_,_=>rfl
 | 0,j+1,t,m,h,_=>by rw[waitGo,waitGo,if_neg (by omega)]
 | k+1,0,t,m,_,h=>by rw[waitGo,waitGo,if_neg (by omega)]
 | k+1,j+1,t,m,h1,h2=>by
  rw[waitGo,waitGo];by_cases g:t<b
  .rw[if_pos g,if_pos g];cases e:fZ n l t with
   | none=>rfl
   | some u=>
    have:=lI e;exact rH k j (u+1) _ (by omega) (by omega)
  .rw[if_neg g,if_neg g]
theorem oA(line a b:Int)(cs:LC)(ns os:LB)(fs:Lo)(ls:Ll)(ks:Lk): af Tryz.prog G0 143 [net cs ns os fs ls ks,.dat I line,.dat I a,.dat I b] [] ⟨True,.tup [.dat I (oM (cs,ns,os,fs,ls,ks) line a b),.dat I (qu (cs,ns,os,fs,ls,ks) line a b)],[]⟩:=by
 refine ae (c:=mkr aCf λ_=>false) aBy aBJ hm (VO line a b cs ns os fs ls ks ⟨rfl,λ_=>?_⟩)
 simp only[qc,Dh,Es,Di,qd,Dt,Eb,Dy,Dp,Ei,Eh,Ed,Ew,Df,Et,Dl,Dn,Eo,Dz,Dw,Dj,Dq,Ee,Fe,Dc,Dx,Dk,Ec,Em,Du,Eu,Ez,En,Ef,Fg,Fj,Fh,Ep,Ej,Ey,Fb];have h2:Jp [a,b]:=(by show(2:Nat)<=1000000;decide)
 refine⟨h2,λ⟨hu,_⟩=>?_,λh=>?_,λ⟨⟨hu,hab⟩,hb⟩=>?_⟩
 .obtain⟨⟨_,a0,a1⟩,_⟩:=uN cs ns os fs ls ks hu;exact bA (by omega)
 .have hn:nw (cs,ns,os,fs,ls,ks) line a b=false:=by
   unfold nw;rcases h with(h | h) | h
   .rw[h];rfl
   .rw[vK (show ¬a<b by omega),kU];rfl
   .rw[vK (show ¬b<=a+86400 by omega),kU]
  unfold oM qu;rw[hn];exact⟨rfl,rfl⟩
 .obtain⟨⟨hl,a0,a1⟩,_,b0,b1⟩:=uN cs ns os fs ls ks hu;have hok:nw (cs,ns,os,fs,ls,ks) line a b=true:=by
   unfold nw;rw[hu,vF (show a<b by omega),vF (show b<=a+86400 by omega)];rfl
  refine⟨⟨(0,a),⟨hok,qL _,(by show a<=b+86400;omega),qL _,(by show(0:Int)<=86400;omega),rfl⟩,rfl,rfl⟩,λx=>?_⟩
  obtain⟨m,t⟩:=x;simp only;rintro⟨_,t0,t1,m0,m1,hw⟩;refine⟨λht=>?_,λht=>?_⟩
  .have hk:(b-t).toNat=(b-t).toNat-1+1:=by omega
   rw[hk,waitGo,if_pos ht]at hw;refine⟨⟨hl,by omega,by omega⟩,λhf=>?_,λhf=>?_⟩
   .have e:fZ (cs,ns,os,fs,ls,ks) line t=none:=by
     unfold mM at hf;cases e:fZ (cs,ns,os,fs,ls,ks) line t with
     | none=>rfl
     | some u=>rw[e]at hf;cases hf
    rw[e]at hw;have hw:zx (cs,ns,os,fs,ls,ks) line a b=none:=hw.symm;unfold oM qu;rw[hok,hw];exact⟨rfl,rfl⟩
   .obtain⟨u,e⟩:∃u,fZ (cs,ns,os,fs,ls,ks) line t=some u:=by
     unfold mM at hf;cases e:fZ (cs,ns,os,fs,ls,ks) line t with
     | none=>rw[e]at hf;cases hf
     | some u=>exact⟨u,rfl⟩
    obtain⟨u0,u1⟩:=lI e;have hd:mL (cs,ns,os,fs,ls,ks) line t=u:=by unfold mL;rw[e];rfl
    rw[e]at hw;have hw:waitGo (cs,ns,os,fs,ls,ks) line b ((b-t).toNat-1) (u+1) (rm m (u-t))=zx (cs,ns,os,fs,ls,ks) line a b:=hw;have hmx:0<=rm m (u-t)/\rm m (u-t)<=86400:=by unfold rm;split<;>omega
    rw[hd];refine⟨bA (by omega),bA (by omega),(rm m (u-t),u+1),⟨hok,(by show a<=u+1;omega),(by show u+1<=b+86400;omega),hmx.1,hmx.2,?_⟩,⟨rfl,rfl⟩,(by show(b-(u+1)).toNat<_;omega)⟩
    rw[<- hw];exact rH _ _ _ _ (qJ _) (by show(b-(u+1)).toNat<=_;omega)
  .have hk:(b-t).toNat=0:=by omega
   rw[hk,waitGo]at hw;unfold oM qu;rw[hok,<- hw];exact⟨rfl,rfl⟩
theorem aDX: aj Tryz.prog G0 aEy:=ai (ag λ((cs,ns,os,fs,ls,ks),l,a,b,_)=>oA l a b cs ns os fs ls ks) aBy
end Go.Eng.Sv
set_option maxRecDepth 100000
noncomputable section
namespace Go.Eng.Sv
open Go.Proofs
open Go.Eng.Mp (aK ct pM bz upto at2 oi dO gy xb)
def cZ: Int:=-1099511627776
def aBY(a b:Int): Bool:=decide (0<=a)&&decide (a<b)&&decide (b<=2000000)&&decide (b<=a+86400)
def gA(n:Net)(a b:Int): Bool:=aBY a b&&bj n
def MB(n:Net)(a b:Int): Prop:=gA n a b=true
def sM(n:Net)(o:Int): Off:=n.2.2.2.1.getD o.toNat (⟨#[]⟩,0,0,0,0,0,[])
def zd(n:Net)(a b i:Int): Int:=if qu n i a b=0 then oM n i a b+(aG n i).2.2.2.2.1+(sM n (aG n i).2.2.1).2.2.2.2.1*(sM n (aG n i).2.2.1).2.2.2.2.2.1 else cZ
def bm(n:Net)(a b:Int): Li:=(List.range n.2.2.2.2.1.length).map λi:Nat=>zd n a b i
def gm(n:Net)(a b k:Int): Li:=(bm n a b).take k.toNat++List.replicate (n.2.2.2.2.1.length-k.toNat) 0
def BW(n:Net)(a b k:Int): Prop:=gA n a b=true/\0<=k/\k<=n.2.2.2.2.1.length
def dd(n:Net)(c:Li): Prop:=bj n=true/\c.length=n.2.2.2.2.1.length/\∀i:Int,0<=i->i<c.length->c.getD i.toNat 0=cZ\/(0<c.getD i.toNat 0/\c.getD i.toNat 0<=1000000)
def D9(_ _:Int): Int:=cZ
def aAQ(_ _:Int): Prop:=True
def d6(ls:Ll)(c:Li): Nat->Int->Int->Int
 | 0,_,_=>cZ
 | k+1,o,d=>if c.getD k 0≠cZ/\(ls.getD k (⟨#[]⟩,0,0,0,0,0)).2.1=o/\(ls.getD k (⟨#[]⟩,0,0,0,0,0)).2.2.1=d then max (d6 ls c k o d) (-(c.getD k 0))else d6 ls c k o d
def aV(n:Net)(c:Li)(k:Int): Lj:=aK (d6 n.2.2.2.2.1 c k.toNat) n.2.2.2.1.length
def bq(n:Net)(c:Li): Lj:=aV n c n.2.2.2.2.1.length
def Np(n:Net)(c:Li)(k:Int): Prop:=dd n c/\0<=k/\k<=n.2.2.2.2.1.length
def J4(e:Int)(s:Lj)(o d:Int): Int:=if e=0 then(if at2 s o d=cZ then -1 else -(at2 s o d))else -1
def FW(e:Int)(s:Lj)(o d:Int): Prop:=e=0->oi o d s/\(at2 s o d=cZ\/(-1152921504606846976<=at2 s o d/\at2 s o d<=1152921504606846976))
def aN(n:Net)(c:Li): Lj:=aK (J4 (gy (bq n c)) (dO (bq n c))) n.2.2.2.1.length
def ki(n:Net)(c:Li)(b:Lj)(o d i:Int): Bool:=decide ((aG n i).2.1=o)&&decide (c.getD i.toNat 0≠cZ)&&decide (0<=at2 b (aG n i).2.2.1 d)&&decide (c.getD i.toNat 0+at2 b (aG n i).2.2.1 d=at2 b o d)
def qT(n:Net)(c:Li)(b:Lj)(o d:Int): Int:=match(List.range n.2.2.2.2.1.length).find? λi:Nat=>ki n c b o d i with
 | some i=>i
 | none=>-1
def OL(n:Net)(b:Lj): Prop:=∀o d:Int,0<=o->o<n.2.2.2.1.length->0<=d->d<n.2.2.2.1.length->oi o d b/\-1152921504606846976<=at2 b o d/\at2 b o d<=1152921504606846976
def ub(n:Net)(c:Li)(b:Lj)(o d:Int): Prop:=dd n c/\OL n b/\0<=o/\o<n.2.2.2.1.length/\0<=d/\d<n.2.2.2.1.length
def ua(n:Net)(c:Li)(b:Lj)(o d k:Int): Prop:=ub n c b o d/\0<=k/\k<=n.2.2.2.2.1.length/\(List.range k.toNat).all (λi:Nat=>!ki n c b o d i)=true
def mA(n:Net)(c:Li)(b:Lj)(o d:Int): Int:=if o=d\/at2 b o d<0 then -1 else qT n c b o d
def Eg(n:Net)(c:Li): Lj:=aK (mA n c (aN n c)) n.2.2.2.1.length
def lj(n:Net)(a b:Int): Lj:=if gA n a b then Eg n (bm n a b)else[]
def KQ0: Kt:=kOr 145 (ax [.val M] (λ(m,_)=>xb m) λ(m,_)=>.tup [.dat M (dO m),.dat I (gy m)]) aEy
theorem VU(a b:Int)(cs:LC)(ns os:LB)(fs:Lo)(ls:Ll)(ks:Lk)(hvc:
 let c1:=Dp a 0;let c2:=Di c1;let c3:=Ea c1 true (Eh b a);let c4:=Di c3;let c5:=Ea c3 true (Ei b 2000000);let c6:=Di c5;let c10:=c6->c6->c6;let c7:=Ea c5 true (Ei (b-a) 86400);let c8:=(cs,ns,os,fs,ls,ks);let c9:=gA c8 a b;true/\(True->(c2->c2->c2)/\(c2->c2->c2)/\(Dh true c2->c2)/\(c4->c4->c4)/\(Dh true c4->c4)/\c10/\c10/\(c6->inR .i64 (b-a))/\c10/\(Dh true c6->c6)/\(c7->false=c9/\True)/\(c7=false->True/\Eb (Df (fq c8)) 0=c9/\True))):
  evF (mkc KQ0) az 72 [net cs ns os fs ls ks,.dat I a,.dat I b] [] ⟨True,.dat .bool (gA (cs,ns,os,fs,ls,ks) a b),[]⟩:=oE hvc
def aBg(n:Net)(a b:Int): Ann:=⟨λid s=>match id with
 | 3=>match s.sig.T 16 with
  | .buf nm _=>some {α:=Int,inv:=λk=>BW n a b k,st:=λk=>ie (put s [(20,.dat I k)]) nm (.buf 3 I (gm n a b k) []),μ:=λk=>Dc (Dj (Df n.2.2.2.2.1) k)}
  | _=>none
 | _=>none,λ_ _=>none,λ_ _=>none⟩
theorem QF(a b:Int)(cs:LC)(ns os:LB)(fs:Lo)(ls:Ll)(ks:Lk)(hvc:
 let c1:=(cs,ns,os,fs,ls,ks);let c2:=Df ls;let c3:=Dc c2;true/\(MB c1 a b->0<=c2/\(Dx (8)*c2)<=281474976710656/\c2<=9223372036854775807/\(∃x,BW c1 a b x/\a=a/\b=b/\c1=c1/\Value.slice none (0) (0)=Value.slice none (0) (0)/\c3=c3/\ls=ls/\c2=c2/\0=x/\Ep c2 (0:Int)=gm c1 a b x/\True)/\∀(x:Int),let c6:=Dy (qu c1 x a b) 0;let c7:=gm c1 a b x;let c8:=Dk c7;let c9:=x+1;let c10:=(Du ls (Dc x) (ByteArray.mk #[],(0:Int),(0:Int),(0:Int),(0:Int),(0:Int))).2.2;let c12:=oM c1 x a b+c10.2.2.1;let c13:=(Du fs (Dc c10.1) (ByteArray.mk #[],(0:Int),(0:Int),(0:Int),(0:Int),(0:Int),Dt ByteArray)).2.2.2.2;let c14:=c13.1*c13.2.1;let c15:=c12+c14;BW c1 a b x->(Dp x c2->0<=x/\x<c2/\1=1/\0=0/\True/\(c6->c8=c3/\0<=x/\x<Dx c8/\c8=c3/\inR .i64 c9/\∃y,BW c1 a b y/\(a=a/\b=b/\c1=c1/\Value.slice none (0) (0)=Value.slice none (0) (0)/\c3=c3/\ls=ls/\c2=c2/\c9=y/\En c7 (Dc x) (-1099511627776)=gm c1 a b y/\True)/\Dc (c2-y)<Dc (c2-x))/\(c6=false->1=1/\1=1/\0=0/\0<=c10.1/\c10.1<Df fs/\1=1/\0=0/\1=1/\1=1/\0=0/\inR .i64 c12/\1=1/\1=1/\0=0/\1=1/\1=1/\0=0/\inR .i64 c14/\inR .i64 c15/\c8=c3/\0<=x/\x<Dx c8/\c8=c3/\inR .i64 c9/\∃y,BW c1 a b y/\(a=a/\b=b/\c1=c1/\Value.slice none (0) (0)=Value.slice none (0) (0)/\c3=c3/\ls=ls/\c2=c2/\c9=y/\En c7 (Dc x) c15=gm c1 a b y/\True)/\Dc (c2-y)<Dc (c2-x)))/\(Dp x c2=false->c8=c3/\c7=bm c1 a b/\True))):
  evF (mkc KQ0) (lvA [(3,[1,2,3,6,7,8,9,10,11,12,18,19,20])] (aBg (cs,ns,os,fs,ls,ks) a b)) 73 [net cs ns os fs ls ks,.dat I a,.dat I b] [] ⟨MB (cs,ns,os,fs,ls,ks) a b,.dat R (bm (cs,ns,os,fs,ls,ks) a b),[]⟩:=oE hvc
def gT(n:Int)(g:Int->Int->Int): Ann:=⟨λid s=>match id with
 | 3=>match s.sig.T 11 with
  | .buf nm _=>some {α:=Int,inv:=λk=>upto k n,st:=λk=>ie (put s [(14,.dat I k),(5,.buf nm (Dc n))]) nm (.buf 36 R (ct g n k) []),μ:=λk=>Dc (Dj n k)}
  | _=>none
 | 7=>match s.sig.T 6,s.sig.T 22 with
  | .dat (.int .i64) i,.buf nm _=>some {α:=Int,inv:=λk=>upto k n,st:=λk=>ie (put s [(29,.dat I k)]) nm (.buf 3 I (pM g n i k) []),μ:=λk=>Dc (Dj n k)}
  | _,_=>none
 | _=>none,λ_ _=>none,λ_ _=>none⟩
theorem P3(preT:Int->Int->Prop)(g:Int->Int->Int)(cs:LC)(ns os:LB)(fs:Lo)(ls:Ll)(ks:Lk)(hvc:
 let c12:=Ty.int IntKind.i64;let c1:=Df fs;let c2:=Ep c1 (Dt Int);let c3:=Dc c1;let c4:=(cs,ns,os,fs,ls,ks);let c5:=Int.ofNat c3;let c6:=Ep c1 (0:Int);true/\(bz c1 preT->0<=c1/\(Dx (24)*c1)<=281474976710656/\c1<=9223372036854775807/\Dk c2=c3/\(∃x,upto x c1/\AV.clo2 c12 c12 c12 preT g=AV.clo2 c12 c12 c12 preT g/\c4=c4/\Value.slice none (0) (0)=Value.slice none (0) (0)/\c3=c3/\c5=c5/\0=x/\c2=ct g c1 x/\True)/\∀(x:Int),let c7:=Dk (ct g c1 x);let c8:=x+1;upto x c1->(Dp x c5->0<=c1/\(Dx (8)*c1)<=281474976710656/\c1<=9223372036854775807/\c7=c3/\0<=x/\x<Dx c7/\c7=c3/\Dk c6=c3/\c7=c3/\0<=x/\x<Dx c7/\c7=c3/\Dc x=Dc x/\Dk c6=c3/\(∃x_3,upto x_3 c1/\AV.clo2 c12 c12 c12 preT g=AV.clo2 c12 c12 c12 preT g/\c4=c4/\Value.slice none (0) (0)=Value.slice none (0) (0)/\c3=c3/\x=x/\c5=c5/\x=x/\c5=c5/\0=x_3/\ct g c1 x=ct g c1 x/\Dc x=Dc x/\c3=c3/\c6=pM g c1 x x_3/\True)/\∀(x_3:Int),let c9:=pM g c1 x x_3;let c10:=Dk c9;let c11:=x_3+1;
 upto x_3 c1->(Dp x_3 c5->c7=c3/\0<=x/\x<Dx c7/\c7=c3/\Dc x=Dc x/\preT x x_3/\c10=c3/\0<=x_3/\x_3<Dx c10/\c10=c3/\inR .i64 c11/\∃y,upto y c1/\(AV.clo2 c12 c12 c12 preT g=AV.clo2 c12 c12 c12 preT g/\c4=c4/\Value.slice none (0) (0)=Value.slice none (0) (0)/\c3=c3/\x=x/\c5=c5/\x=x/\c5=c5/\c11=y/\ct g c1 x=ct g c1 x/\Dc x=Dc x/\c3=c3/\En c9 (Dc x_3) (g x x_3)=pM g c1 x y/\True)/\Dc (c1-y)<Dc (c1-x_3))/\(Dp x_3 c5=false->inR .i64 c8/\∃y,upto y c1/\(AV.clo2 c12 c12 c12 preT g=AV.clo2 c12 c12 c12 preT g/\c4=c4/\Value.slice none (0) (0)=Value.slice none (0) (0)/\c3=c3/\c5=c5/\c8=y/\c10=c3/\En (ct g c1 x) (Dc x) c9=ct g c1 y/\True)/\Dc (c1-y)<Dc (c1-x)))/\(Dp x c5=false->c7=c3/\ct g c1 x=aK g c1/\True))):
  evF (mkc KQ0) (lvA [(3,[1,2,4,5,6,7,13,14,28,29]),(7,[1,2,4,5,6,7,13,14,28,29])] (gT (Df fs) g)) 75 [net cs ns os fs ls ks,.clo2 I I I preT g] [] ⟨bz (Df fs) preT,.dat M (aK g (Df fs)),[]⟩:=oE hvc
def gS(n:Int)(g:Int->Int->Int): Ann:=⟨λid s=>match id with
 | 3=>match s.sig.T 11 with
  | .buf nm _=>some {α:=Int,inv:=λk=>upto k n,st:=λk=>ie (put s [(14,.dat I k),(5,.buf nm (Dc n))]) nm (.mat 36 3 I (ct g n k) []),μ:=λk=>Dc (Dj n k)}
  | _=>none
 | 7=>match s.sig.T 6,s.sig.T 22 with
  | .dat (.int .i64) i,.buf nm _=>some {α:=Int,inv:=λk=>upto k n,st:=λk=>ie (put s [(29,.dat I k)]) nm (.buf 3 I (pM g n i k) []),μ:=λk=>Dc (Dj n k)}
  | _,_=>none
 | _=>none,λ_ _=>none,λ_ _=>none⟩
theorem Kp(preT:Int->Int->Prop)(g:Int->Int->Int)(cs:LC)(ns os:LB)(fs:Lo)(ls:Ll)(ks:Lk)(hvc:
 let c13:=Ty.int IntKind.i64;let c1:=Df fs;let c2:=Ep c1 (Dt Int);let c3:=Dc c1;let c4:=(cs,ns,os,fs,ls,ks);let c5:=Int.ofNat c3;let c6:=Ep c1 (0:Int);let c7:=aK g c1;true/\(bz c1 preT->0<=c1/\(Dx (24)*c1)<=281474976710656/\c1<=9223372036854775807/\Dk c2=c3/\(∃x,upto x c1/\AV.clo2 c13 c13 c13 preT g=AV.clo2 c13 c13 c13 preT g/\c4=c4/\Value.slice none (0) (0)=Value.slice none (0) (0)/\c3=c3/\c5=c5/\0=x/\c2=ct g c1 x/\Fb (ct g c1 x)/\True)/\∀(x:Int),let c8:=Dk (ct g c1 x);let c9:=x+1;upto x c1->(Dp x c5->0<=c1/\(Dx (8)*c1)<=281474976710656/\c1<=9223372036854775807/\c8=c3/\0<=x/\x<Dx c8/\c8=c3/\Dk c6=c3/\c8=c3/\0<=x/\x<Dx c8/\c8=c3/\Dc x=Dc x/\Dk c6=c3/\(∃x_3,upto x_3 c1/\AV.clo2 c13 c13 c13 preT g=AV.clo2 c13 c13 c13 preT g/\c4=c4/\Value.slice none (0) (0)=Value.slice none (0) (0)/\c3=c3/\x=x/\c5=c5/\x=x/\c5=c5/\0=x_3/\ct g c1 x=ct g c1 x/\Dc x=Dc x/\c3=c3/\c6=pM g c1 x x_3/\True)/\∀(x_3:Int),let c10:=pM g c1 x x_3;let c11:=Dk c10;let c12:=x_3+1;
 upto x_3 c1->(Dp x_3 c5->c8=c3/\0<=x/\x<Dx c8/\c8=c3/\Dc x=Dc x/\preT x x_3/\c11=c3/\0<=x_3/\x_3<Dx c11/\c11=c3/\inR .i64 c12/\∃y,upto y c1/\(AV.clo2 c13 c13 c13 preT g=AV.clo2 c13 c13 c13 preT g/\c4=c4/\Value.slice none (0) (0)=Value.slice none (0) (0)/\c3=c3/\x=x/\c5=c5/\x=x/\c5=c5/\c12=y/\ct g c1 x=ct g c1 x/\Dc x=Dc x/\c3=c3/\En c10 (Dc x_3) (g x x_3)=pM g c1 x y/\True)/\Dc (c1-y)<Dc (c1-x_3))/\(Dp x_3 c5=false->inR .i64 c9/\∃y,upto y c1/\(AV.clo2 c13 c13 c13 preT g=AV.clo2 c13 c13 c13 preT g/\c4=c4/\Value.slice none (0) (0)=Value.slice none (0) (0)/\c3=c3/\c5=c5/\c9=y/\Dk c10=c3/\En (ct g c1 x) (Dc x) c10=ct g c1 y/\True)/\Dc (c1-y)<Dc (c1-x)))/\(Dp x c5=false->c3=Dk c7/\ct g c1 x=c7/\True))):
  evF (mkc KQ0) (lvA [(3,[1,2,4,5,6,7,13,14,28,29]),(7,[1,2,4,5,6,7,13,14,28,29])] (gS (Df fs) g)) 75 [net cs ns os fs ls ks,.clo2 I I I preT g] [] ⟨bz (Df fs) preT,.buf 0 (Dk (aK g (Df fs))),[(0,.mat 36 3 I (aK g (Df fs)) [])]⟩:=oE hvc
theorem Ix(o d:Int)(hvc:
 true/\(aAQ o d->(-1099511627776:Int)=D9 o d/\True)):
  evF (mkc KQ0) az 144 [.dat I o,.dat I d] [] ⟨aAQ o d,.dat I (D9 o d),[]⟩:=oE hvc
theorem Iw(e:Int)(s:Lj)(o d:Int)(hvc:
 let c1:=Dy e 0;let c2:=Di c1;let c8:=c2->c2->c2;let c3:=Du s (Dc o) [];let c4:=Du c3 (Dc d) 0;let c5:=Ea c1 true (Eb c4 (-1099511627776));let c6:=J4 e s o d;let c7:=Fe c4;true/\(FW e s o d->c8/\c8/\(c2->0<=o)/\(c2->o<Df s)/\c8/\c8/\c8/\(c2->0<=d)/\(c2->d<Df c3)/\c8/\c8/\(Dh true c2->c2)/\(c5->(-1:Int)=c6/\True)/\(c5=false->0<=o/\o<Df s/\0<=d/\d<Df c3/\inR IntKind.i64 c7/\c7=c6/\True))):
  evF (mkc KQ0) az 146 [.dat I o,.dat I d,.ip I e,.ip M s] [] ⟨FW e s o d,.dat I (J4 e s o d),[]⟩:=oE hvc
def La(args:List AV)(m:Mem): Option jD:=match m,args with
 | [],[.agg [.dat (.sl (.pair (.int .i64) (.pair (.sl .bool) (.sl (.int .i64))))) cs,.dat (.sl .str) ns,.dat (.sl .str) os,.dat (.sl (.pair .str (.pair (.int .i64) (.pair (.int .i64) (.pair (.int .i64) (.pair (.int .i64) (.pair (.int .i64) (.sl .str)))))))) fs,.dat (.sl (.pair .str (.pair (.int .i64) (.pair (.int .i64) (.pair (.int .i64) (.pair (.int .i64) (.int .i64))))))) ls,.dat (.sl (.pair .str (.pair (.int .i64) (.int .i64)))) ks],.fn 144 []]=>some ⟨bz (Df fs) aAQ,.buf 0 (Dk (aK D9 (Df fs))),[(0,.mat 36 3 I (aK D9 (Df fs)) [])]⟩
 | [],[.agg [.dat (.sl (.pair (.int .i64) (.pair (.sl .bool) (.sl (.int .i64))))) cs,.dat (.sl .str) ns,.dat (.sl .str) os,.dat (.sl (.pair .str (.pair (.int .i64) (.pair (.int .i64) (.pair (.int .i64) (.pair (.int .i64) (.pair (.int .i64) (.sl .str)))))))) fs,.dat (.sl (.pair .str (.pair (.int .i64) (.pair (.int .i64) (.pair (.int .i64) (.pair (.int .i64) (.int .i64))))))) ls,.dat (.sl (.pair .str (.pair (.int .i64) (.int .i64)))) ks],.fn 146 [.ip (.int .i64) e,.ip (.sl (.sl (.int .i64))) s]]=>some ⟨bz (Df fs) (FW e s),.dat M (aK (J4 e s) (Df fs)),[]⟩
 | _,_=>none
def KQ1: Kt:=kOr 75 La <|
 kOr 72 (ax [.row N,.val I,.val I] (λ_=>True) λ(n,a,b,_)=>.dat .bool (gA n a b)) <|
 kOr 73 (ax [.row N,.val I,.val I] (λ(n,a,b,_)=>MB n a b) λ(n,a,b,_)=>.dat R (bm n a b)) KQ0
def S3(s:St): List Nat:=s.mem.filterMap λp=>match p.2 with
 | .mat _ _ _ _ _=>some p.1
 | _=>none
def YH(n:Net)(c:Li): Ann:=⟨λid s=>match id with
 | 3=>match s.sig.T 11 with
  | .buf nm _=>some {α:=Int,inv:=λk=>Np n c k,st:=λk=>ie (put s [(15,.dat I k)]) nm (.mat 36 3 I (aV n c k) []),μ:=λk=>Dc (Dj (Df n.2.2.2.2.1) k)}
  | _=>none
 | _=>none,λid s=>match id with
 | 8=>some (frz (S3 s) s)
 | 9=>some (frz (allNames s) s)
 | _=>none,λ_ _=>none⟩
theorem Ih(c:Li)(cs:LC)(ns os:LB)(fs:Lo)(ls:Ll)(ks:Lk)(hvc:
 let c1:=(cs,ns,os,fs,ls,ks);let c2:=Df fs;let c3:=aK D9 c2;let c4:=Dk c3;let c5:=Df ls;true/\(dd c1 c->bz c2 aAQ/\(∃x,Np c1 c x/\c=c/\c1=c1/\Value.slice none (0) (0)=Value.slice none (0) (0)/\c4=c4/\ls=ls/\c5=c5/\0=x/\c3=aV c1 c x/\True)/\∀(x:Int),let c7:=Du c (Dc x) 0;let c8:=Dy c7 (-1099511627776);let c9:=Dk (aV c1 c x);let c10:=(Du ls (Dc x) (ByteArray.mk #[],(0:Int),(0:Int),(0:Int),(0:Int),(0:Int))).2;let c13:=Dc c10.1;let c14:=Du (aV c1 c x) c13 [];let c15:=Dk c14;let c16:=Fe c7;let c17:=x+1;let c18:=Dc c10.2.1;let c19:=dO (aV c1 c x);let c20:=gy (aV c1 c x);
 Np c1 c x->(Dp x c5->0<=x/\x<c5/\1=1/\0=0/\0<=x/\x<Df c/\(c8->1=1/\1=1/\0=0/\c9=c4/\0<=c10.1/\c10.1<Dx c9/\c9=c4/\1=1/\1=1/\0=0/\1=1/\1=1/\0=0/\c9=c4/\0<=c10.1/\c10.1<Dx c9/\c9=c4/\1=1/\1=1/\0=0/\c9=c4/\0<=c10.2.1/\c10.2.1<Dx c15/\c9=c4/\c15=c15/\0<=x/\x<Df c/\inR .i64 c16/\c9=c4/\0<=c10.2.1/\c10.2.1<Dx c15/\c9=c4/\c15=c15/\inR .i64 c17/\∃y,Np c1 c y/\(c=c/\c1=c1/\Value.slice none (0) (0)=Value.slice none (0) (0)/\c4=c4/\ls=ls/\c5=c5/\c17=y/\En (aV c1 c x) c13 (En c14 c18 (Ez (Du c14 c18 0) c16))=aV c1 c y/\True)/\Dc (c5-y)<Dc (c5-x))/\(c8=false->inR IntKind.i64 c17/\∃y,Np c1 c y/\(c=c/\c1=c1/\Value.slice none (0) (0)=Value.slice none (0) (0)/\c4=c4/\ls=ls/\c5=c5/\c17=y/\aV c1 c x=aV c1 c y/\True)/\Dc (c5-y)<Dc (c5-x)))/\(Dp x c5=false->c=c/\c1=c1/\Value.slice none (0) (0)=Value.slice none (0) (0)/\Dk (aV c1 c x)=c4/\aV c1 c x=aV c1 c x/\ls=ls/\c5=c5/\x=x/\Dp x c5=Dp x c5/\xb (aV c1 c x)/\1=1/\0=0/\1=1/\0=0/\c=c/\c1=c1/\Value.slice none (0) (0)=Value.slice none (0) (0)/\aV c1 c x=aV c1 c x/\1=1/\0=0/\c19=c19/\1=1/\0=0/\c20=c20/\ls=ls/\c5=c5/\x=x/\Dp x c5=Dp x c5/\c19=c19/\c20=c20/\aV c1 c x=aV c1 c x/\c19=c19/\c20=c20/\c19=c19/\c20=c20/\bz c2 (FW c20 c19)/\aK (J4 c20 c19) c2=aN c1 c/\True))):
  evF (mkc KQ1) (lvA [(3,[1,2,4,5,6,7,8,9,13,14,15])] (YH (cs,ns,os,fs,ls,ks) c)) 74 [net cs ns os fs ls ks,.dat R c] [] ⟨dd (cs,ns,os,fs,ls,ks) c,.dat M (aN (cs,ns,os,fs,ls,ks) c),[]⟩:=oE hvc
def aDP(n:Net)(c:Li)(b:Lj)(o d:Int): Ann:=⟨λid s=>match id with
 | 3=>some {α:=Int,inv:=λk=>ua n c b o d k,st:=λk=>put s [(17,.dat I k),(11,.dat I (-1))],μ:=λk=>Dc (Dj (Df n.2.2.2.2.1) k)}
 | _=>none,λ_ _=>none,λ_ _=>none⟩
theorem Ww(c:Li)(b:Lj)(o d:Int)(cs:LC)(ns os:LB)(fs:Lo)(ls:Ll)(ks:Lk)(hvc:
 let c1:=(cs,ns,os,fs,ls,ks);let c2:=Df ls;let c4:=Du b (Dc o) [];let c5:=qT c1 c b o d;true/\(ub c1 c b o d->(∃x,ua c1 c b o d x/\c=c/\b=b/\o=o/\d=d/\(0:Int)=(0:Int)/\(-1:Int)=(-1:Int)/\ls=ls/\c2=c2/\0=x/\True)/\∀(x:Int),let c6:=(Du ls (Dc x) (ByteArray.mk #[],(0:Int),(0:Int),(0:Int),(0:Int),(0:Int))).2;let c7:=Dy c6.1 o;let c8:=Di c7;let c12:=c8->c8->c8;let c9:=Du c (Dc x) 0;let c10:=Ea c7 true (Eb c9 (-1099511627776));let c11:=Di c10;let c3:=c11->c11->c11;let c13:=Du b (Dc c6.2.1) [];let c14:=Du c13 (Dc d) 0;let c15:=Ea c10 true (Dp c14 0);let c16:=x+1;let c17:=c9+c14;let c18:=Eb c17 (Du c4 (Dc d) 0);ua c1 c b o d x->(Dp x c2->0<=x/\x<c2/\1=1/\0=0/\1=1/\1=1/\0=0/\c12/\c12/\(c8->0<=x)/\(c8->x<Df c)/\c12/\c12/\(Dh true c8->c8)/\(c11->1=1)/\c3/\(c11->1=1)/\(c11->0=0)/\c3/\c3/\(c11->0<=c6.2.1)/\(c11->c6.2.1<Df b)/\c3/\c3/\c3/\(c11->0<=d)/\(c11->d<Df c13)/\c3/\c3/\(Dh true c11->c11)/\(c15->inR .i64 c16/\∃y,ua c1 c b o d y/\(c=c/\b=b/\o=o/\d=d/\(0:Int)=(0:Int)/\(-1:Int)=(-1:Int)/\ls=ls/\c2=c2/\c16=y/\True)/\Dc (c2-y)<Dc (c2-x))/\(c15=false->0<=x/\x<Df c/\1=1/\1=1/\0=0/\0<=c6.2.1/\c6.2.1<Df b/\0<=d/\d<Df c13/\inR IntKind.i64 c17/\0<=o/\o<Df b/\0<=d/\d<Df c4/\(c18->x=c5/\True)/\(c18=false->inR IntKind.i64 c16/\∃y,ua c1 c b o d y/\(c=c/\b=b/\o=o/\d=d/\(0:Int)=(0:Int)/\(-1:Int)=(-1:Int)/\ls=ls/\c2=c2/\c16=y/\True)/\Dc (c2-y)<Dc (c2-x))))/\(Dp x c2=false->(-1:Int)=c5/\True))):
  evF (mkc KQ1) (lvA [(3,[1,2,3,4,10,11,12,13,15,16,17])] (aDP (cs,ns,os,fs,ls,ks) c b o d)) 77 [net cs ns os fs ls ks,.dat R c,.dat M b,.dat I o,.dat I d] [] ⟨ub (cs,ns,os,fs,ls,ks) c b o d,.dat I (qT (cs,ns,os,fs,ls,ks) c b o d),[]⟩:=oE hvc
def KQ2: Kt:=kOr 74 (ax [.row N,.val R] (λ(n,c,_)=>dd n c) λ(n,c,_)=>.dat M (aN n c)) <|
 kOr 77 (ax [.row N,.val R,.val M,.val I,.val I] (λ(n,c,b,o,d,_)=>ub n c b o d) λ(n,c,b,o,d,_)=>.dat I (qT n c b o d)) KQ1
theorem Qm(b:Lj)(c:Li)(o d:Int)(cs:LC)(ns os:LB)(fs:Lo)(ls:Ll)(ks:Lk)(hvc:
 let c6:=Eb o d;let c5:=Di c6->Di c6->Di c6;let c1:=(cs,ns,os,fs,ls,ks);let c2:=Du b (Dc o) [];let c3:=Ea c6 true (Dp (Du c2 (Dc d) 0) 0);let c4:=mA c1 c b o d;true/\(ub c1 c b o d->c5/\c5/\(Di c6->0<=o)/\(Di c6->o<Df b)/\c5/\c5/\c5/\(Di c6->0<=d)/\(Di c6->d<Df c2)/\c5/\c5/\(Dh true (Di c6)->Di c6)/\(c3->(-1:Int)=c4/\True)/\(c3=false->ub c1 c b o d/\qT c1 c b o d=c4/\True))):
  evF (mkc KQ2) az 76 [.dat I o,.dat I d,.ip M b,.ip N (cs,ns,os,fs,ls,ks),.ip R c] [] ⟨ub (cs,ns,os,fs,ls,ks) c b o d,.dat I (mA (cs,ns,os,fs,ls,ks) c b o d),[]⟩:=oE hvc
def KQ3: Kt:=kOr 75 (λargs m=>match m,args with
 | [],[.agg [.dat (.sl (.pair (.int .i64) (.pair (.sl .bool) (.sl (.int .i64))))) cs,.dat (.sl .str) ns,.dat (.sl .str) os,.dat (.sl (.pair .str (.pair (.int .i64) (.pair (.int .i64) (.pair (.int .i64) (.pair (.int .i64) (.pair (.int .i64) (.sl .str)))))))) fs,.dat (.sl (.pair .str (.pair (.int .i64) (.pair (.int .i64) (.pair (.int .i64) (.pair (.int .i64) (.int .i64))))))) ls,.dat (.sl (.pair .str (.pair (.int .i64) (.int .i64)))) ks],.fn 76 [.ip (.sl (.sl (.int .i64))) b,.ip (.pair (.sl (.pair (.int .i64) (.pair (.sl .bool) (.sl (.int .i64))))) (.pair (.sl .str) (.pair (.sl .str) (.pair (.sl (.pair .str (.pair (.int .i64) (.pair (.int .i64) (.pair (.int .i64) (.pair (.int .i64) (.pair (.int .i64) (.sl .str)))))))) (.pair (.sl (.pair .str (.pair (.int .i64) (.pair (.int .i64) (.pair (.int .i64) (.pair (.int .i64) (.int .i64))))))) (.sl (.pair .str (.pair (.int .i64) (.int .i64))))))))) n,.ip (.sl (.int .i64)) c]]=>some ⟨bz (Df fs) (ub n c b),.dat M (aK (mA n c b) (Df fs)),[]⟩
 | _,_=>none) KQ2
def aAG: Ann:=⟨λ_ _=>none,λid s=>match id with
 | 5=>some (frz (allNames s) s)
 | _=>none,λ_ _=>none⟩
theorem Qa(a b:Int)(cs:LC)(ns os:LB)(fs:Lo)(ls:Ll)(ks:Lk)(hvc:
 let c1:=(cs,ns,os,fs,ls,ks);let c2:=gA c1 a b;let c3:=Di c2;let c4:=lj c1 a b;let c5:=bm c1 a b;let c6:=aN c1 c5;let c7:=Df fs;true/\(True->True/\(c3->c4=Dt (Li)/\True)/\(c3=false->MB c1 a b/\1=1/\0=0/\1=1/\0=0/\dd c1 c5/\1=1/\0=0/\cs=cs/\ns=ns/\os=os/\fs=fs/\ls=ls/\ks=ks/\a=a/\b=b/\c1=c1/\Value.slice none (0) (0)=Value.slice none (0) (0)/\1=1/\0=0/\c5=c5/\1=1/\0=0/\c6=c6/\cs=cs/\ns=ns/\os=os/\fs=fs/\ls=ls/\ks=ks/\a=a/\b=b/\c2=c2/\c3=c3/\cs=cs/\ns=ns/\os=os/\fs=fs/\ls=ls/\ks=ks/\a=a/\b=b/\c5=c5/\cs=cs/\ns=ns/\os=os/\fs=fs/\ls=ls/\ks=ks/\c5=c5/\c6=c6/\bz c7 (ub c1 c5 c6)/\aK (mA c1 c5 c6) c7=c4/\True))):
  evF (mkc KQ3) aAG 23 [net cs ns os fs ls ks,.dat I a,.dat I b] [] ⟨True,.dat M (lj (cs,ns,os,fs,ls,ks) a b),[]⟩:=oE hvc
theorem mY(cs:LC)(ns os:LB)(fs:Lo)(ls:Ll)(ks:Lk)(line:Int): ls.getD line.toNat (⟨#[]⟩,0,0,0,0,0)=aG (cs,ns,os,fs,ls,ks) line:=rfl
def atOk(n:Net)(l:Int): Prop:=0<=(aG n l).2.2.2.1/\(aG n l).2.2.2.1<=1439
theorem X5(cs:LC)(ns os:LB)(fs:Lo)(ls:Ll)(ks:Lk){line:Int}(h:Bo (cs,ns,os,fs,ls,ks) line): atOk (cs,ns,os,fs,ls,ks) line:=by
 obtain⟨_,_,_,_,_,m0,m1⟩:=OC cs ns os fs ls ks h;exact⟨m0,m1⟩
theorem uM{n:Net}{l b:Int}: ∀(k:Nat) (t m w:Int),0<=m->m<=86400->waitGo n l b k t m=some w->0<=w/\w<=86400
 | 0,t,m,w,h0,h1,h=>by rw[waitGo]at h;cases h;exact⟨h0,h1⟩
 | k+1,t,m,w,h0,h1,h=>by
  rw[waitGo]at h;split at h
  .cases e:fZ n l t with
   | none=>rw[e]at h;cases h
   | some u=>
    rw[e]at h;have:=lI e;exact uM k (u+1) (rm m (u-t)) w (by unfold rm;split<;>omega) (by unfold rm;split<;>omega) h
  .cases h;exact⟨h0,h1⟩
theorem YS: aj Tryz.prog G0 KQ0:=ai (ag λ(m,_)=>Mp.aAs m) aDX
theorem si{a b:Int}: aBY a b=true↔0<=a/\a<b/\b<=2000000/\b<=a+86400:=by
 unfold aBY;simp only[qC,qE,qDe]
theorem Aq{n:Net}: bj n=decide (((fq n).length:Int)=0):=by
 unfold bj;cases fq n with
 | nil=>rfl
 | cons a l=>
  symm
  show decide _=false;rw[vN,vW];omega
theorem rj{n:Net}{a b:Int}: gA n a b=true↔(0<=a/\a<b/\b<=2000000/\b<=a+86400)/\bj n=true:=by
 unfold gA;rw[qC,si]
theorem oX(a b:Int)(cs:LC)(ns os:LB)(fs:Lo)(ls:Ll)(ks:Lk): af Tryz.prog G0 72 [net cs ns os fs ls ks,.dat I a,.dat I b] [] ⟨True,.dat .bool (gA (cs,ns,os,fs,ls,ks) a b),[]⟩:=by
 refine ae (c:=mkc KQ0) YS aL hm (VU a b cs ns os fs ls ks ⟨rfl,λ_=>?_⟩)
 simp only[qc,Dh,Es,Di,qd,Dt,Eb,Dy,Dp,Ei,Eh,Ed,Ew,Df,Et,Dl,Dn,Eo,Dz,Dw,Dj,Dq,Ee,Fe,Dc,Dx,Dk,Ec,Em,Du,Eu,Ez,En,Ef,Fg,Fj,Fh,Ep,Ej,Ey,Fb];refine⟨λh=>bA (by omega),λh=>?_,λh=>?_⟩
 .unfold gA;have:aBY a b=false:=by
   rw[<- kS,si];omega
  rw[this];rfl
 .unfold gA;rw[si.2 (by omega),zQ,Aq];rfl
theorem fO(cs:LC)(ns os:LB)(fs:Lo)(ls:Ll)(ks:Lk){i:Int}(h:bj (cs,ns,os,fs,ls,ks)=true)(i0:0<=i)(i1:i<ls.length): 0<=(aG (cs,ns,os,fs,ls,ks) i).2.1/\(aG (cs,ns,os,fs,ls,ks) i).2.1<fs.length/\0<=(aG (cs,ns,os,fs,ls,ks) i).2.2.1/\(aG (cs,ns,os,fs,ls,ks) i).2.2.1<fs.length/\(aG (cs,ns,os,fs,ls,ks) i).2.1≠(aG (cs,ns,os,fs,ls,ks) i).2.2.1/\1<=(aG (cs,ns,os,fs,ls,ks) i).2.2.2.2.1/\(aG (cs,ns,os,fs,ls,ks) i).2.2.2.2.1<=5000:=by
 have hno:=bu cs ns os fs ls ks h;have hl:aG (cs,ns,os,fs,ls,ks) i∈ls:=by
  unfold aG;show ls.getD i.toNat _∈ls;rw[qA,qB (by omega),qQ]
  exact wQ _
 obtain⟨g1,g2,g3,g4,g5,g6,g7,g8⟩:=iU ((lw cs ns os fs ls ks hno).2.2.2 _ hl);exact⟨g1,g2,g3,g4,g5,g7,g8⟩
theorem An(cs:LC)(ns os:LB)(fs:Lo)(ls:Ll)(ks:Lk){o:Int}(h:bj (cs,ns,os,fs,ls,ks)=true)(o0:0<=o)(o1:o<fs.length): 0<(sM (cs,ns,os,fs,ls,ks) o).2.2.2.2.1*(sM (cs,ns,os,fs,ls,ks) o).2.2.2.2.2.1/\(sM (cs,ns,os,fs,ls,ks) o).2.2.2.2.1*(sM (cs,ns,os,fs,ls,ks) o).2.2.2.2.2.1<=960:=by
 have hno:=bu cs ns os fs ls ks h;have ho:sM (cs,ns,os,fs,ls,ks) o∈fs:=by
  unfold sM;show fs.getD o.toNat _∈fs;rw[qA,qB (by omega),qQ]
  exact wQ _
 have gc:=(fD cs ns os fs ls ks hno).2.2.2 _ ho;unfold db dM dQ at gc;simp only[qC,qE]at gc;obtain⟨⟨_,p0,p1⟩,q0,q1⟩:=gc;generalize (sM (cs,ns,os,fs,ls,ks) o).2.2.2.2.1=p at *;generalize (sM (cs,ns,os,fs,ls,ks) o).2.2.2.2.2.1=q at *;refine⟨Int.mul_pos (by omega) (by omega),?_⟩
 have:=xI (a:=p) (b:=q) (c:=4) (d:=240) p1 q1 (by omega) (by omega)
 omega
theorem J6(cs:LC)(ns os:LB)(fs:Lo)(ls:Ll)(ks:Lk){i a b:Int}(h:gA (cs,ns,os,fs,ls,ks) a b=true)(i0:0<=i)(i1:i<ls.length): (qu (cs,ns,os,fs,ls,ks) i a b=0/\zx (cs,ns,os,fs,ls,ks) i a b=some (oM (cs,ns,os,fs,ls,ks) i a b)/\0<=oM (cs,ns,os,fs,ls,ks) i a b/\oM (cs,ns,os,fs,ls,ks) i a b<=86400)\/(qu (cs,ns,os,fs,ls,ks) i a b=20/\zx (cs,ns,os,fs,ls,ks) i a b=none):=by
 obtain⟨⟨a0,ab,b1,hb⟩,hs⟩:=rj.1 h;have hu:fx (cs,ns,os,fs,ls,ks) i [a,b]=true:=by
  unfold fx dM;rw[hs,gG,qC];exact⟨vF ⟨i0,i1⟩,by simp[dw];omega⟩
 have hok:nw (cs,ns,os,fs,ls,ks) i a b=true:=by
  unfold nw;rw[hu,vF ab,vF hb];rfl
 have ha:=X5 cs ns os fs ls ks (ku cs ns os fs ls ks hu (wS)).1;unfold qu oM;rw[if_pos hok,if_pos hok];cases e:zx (cs,ns,os,fs,ls,ks) i a b with
 | none=>exact .inr ⟨rfl,rfl⟩
 | some w=>
  have:=uM _ _ _ _ (by omega) (by omega) e
  exact .inl ⟨rfl,rfl,this.1,this.2⟩
theorem Jz(cs:LC)(ns os:LB)(fs:Lo)(ls:Ll)(ks:Lk){i a b:Int}(h:gA (cs,ns,os,fs,ls,ks) a b=true)(i0:0<=i)(i1:i<ls.length): zd (cs,ns,os,fs,ls,ks) a b i=cZ\/(0<zd (cs,ns,os,fs,ls,ks) a b i/\zd (cs,ns,os,fs,ls,ks) a b i<=100000):=by
 obtain⟨_,hs⟩:=rj.1 h;obtain⟨l0,l1,l2,l3,l4,l5,l6⟩:=fO cs ns os fs ls ks hs i0 i1;obtain⟨o0,o1⟩:=An cs ns os fs ls ks hs l2 l3;unfold zd;rcases J6 cs ns os fs ls ks h i0 i1 with⟨e,_,w0,w1⟩ | ⟨e,_⟩
 .rw[if_pos e];right;omega
 .rw[if_neg (by omega)];exact .inl rfl
theorem jy(n:Net)(a b:Int): (bm n a b).length=n.2.2.2.2.1.length:=by simp[bm]
theorem Oq(cs:LC)(ns os:LB)(fs:Lo)(ls:Ll)(ks:Lk)(a b:Int){i:Int}(i0:0<=i)(i1:i<ls.length): (bm (cs,ns,os,fs,ls,ks) a b).getD i.toNat 0=zd (cs,ns,os,fs,ls,ks) a b i:=by
 unfold bm;rw[qA,qP,vY (by show i.toNat<ls.length;omega)]
 simp[qR i0]
theorem zc(cs:LC)(ns os:LB)(fs:Lo)(ls:Ll)(ks:Lk){a b:Int}(h:gA (cs,ns,os,fs,ls,ks) a b=true): dd (cs,ns,os,fs,ls,ks) (bm (cs,ns,os,fs,ls,ks) a b):=by
 refine⟨(rj.1 h).2,jy _ _ _,λi i0 i1=>?_⟩
 have i1:i<ls.length:=by rw[jy]at i1;exact i1
 rw[Oq cs ns os fs ls ks a b i0 i1];rcases Jz cs ns os fs ls ks h i0 i1 with g | g
 .exact .inl g
 .right;omega
theorem tV(cs:LC)(ns os:LB)(fs:Lo)(ls:Ll)(ks:Lk){a b k:Int}(h:0<=k/\k<=ls.length): (gm (cs,ns,os,fs,ls,ks) a b k).length=ls.length:=by
 unfold gm;rw[qG,qI,wG,jy];show min k.toNat ls.length+(ls.length-k.toNat)=ls.length;omega
theorem qk(cs:LC)(ns os:LB)(fs:Lo)(ls:Ll)(ks:Lk){a b k v:Int}(k0:0<=k)(k1:k<ls.length)(hv:v=zd (cs,ns,os,fs,ls,ks) a b k): (gm (cs,ns,os,fs,ls,ks) a b k).set k.toNat v=gm (cs,ns,os,fs,ls,ks) a b (k+1):=by
 have e:(k+1).toNat=k.toNat+1:=by omega
 have:=Mp.yy (bm (cs,ns,os,fs,ls,ks) a b) 0 v k.toNat (by
  unfold bm;rw[qP,vY (by show k.toNat<ls.length;omega),hv];simp[qR k0])
 rw[jy]at this;unfold gm;rw[e];exact this
theorem Xj(a b:Int)(cs:LC)(ns os:LB)(fs:Lo)(ls:Ll)(ks:Lk): af Tryz.prog G0 73 [net cs ns os fs ls ks,.dat I a,.dat I b] [] ⟨MB (cs,ns,os,fs,ls,ks) a b,.dat R (bm (cs,ns,os,fs,ls,ks) a b),[]⟩:=by
 refine ae (c:=mkc KQ0) YS aL hm (QF a b cs ns os fs ls ks ⟨rfl,λhp=>?_⟩)
 have hp:gA (cs,ns,os,fs,ls,ks) a b=true:=hp;obtain⟨_,hs⟩:=rj.1 hp;have l40:=(nV cs ns os fs ls ks (bu cs ns os fs ls ks hs)).2;simp only[qc,Dh,Es,Di,qd,Dt,Eb,Dy,Dp,Ei,Eh,Ed,Ew,Df,Et,Dl,Dn,Eo,Dz,Dw,Dj,Dq,Ee,Fe,Dc,Dx,Dk,Ec,Em,Du,Eu,Ez,En,Ef,Fg,Fj,Fh,Ep,Ej,Ey,Fb,mY cs ns os fs ls ks]
 have lf:∀x:Int,fs.getD (aG (cs,ns,os,fs,ls,ks) x).2.2.1.toNat (⟨#[]⟩,0,0,0,0,0,[])=sM (cs,ns,os,fs,ls,ks) (aG (cs,ns,os,fs,ls,ks) x).2.2.1:=λ_=>rfl
 refine⟨by omega,by omega,by omega,⟨0,⟨hp,by omega,by omega⟩,rfl,by simp[gm]⟩,λx hx=>⟨λhlt=>?_,λhge=>?_⟩⟩
 .obtain⟨_,x0,x1⟩:=hx;have hl:=tV cs ns os fs ls ks (a:=a) (b:=b) ⟨x0,x1⟩;obtain⟨l0,l1,l2,l3,l4,l5,l6⟩:=fO cs ns os fs ls ks hs x0 hlt;obtain⟨o0,o1⟩:=An cs ns os fs ls ks hs l2 l3;refine⟨x0,hlt,λhw=>?_,λhw=>?_⟩
  .refine⟨hl,x0,by omega,hl,bA (by omega),x+1,⟨hp,by omega,(by show x+1<=(ls.length:Int);omega)⟩,⟨rfl,qk cs ns os fs ls ks x0 hlt ?_⟩,by omega⟩
   unfold zd;rw[if_neg hw];rfl
  .rcases J6 cs ns os fs ls ks hp x0 hlt with⟨e,_,w0,w1⟩ | ⟨e,_⟩
   .refine⟨l2,l3,bA (by omega),bA (by rw[lf];omega),bA (by rw[lf];omega),hl,x0,by omega,hl,bA (by omega),x+1,⟨hp,by omega,(by show x+1<=(ls.length:Int);omega)⟩,⟨rfl,qk cs ns os fs ls ks x0 hlt ?_⟩,by omega⟩
    unfold zd;rw[if_pos e];rfl
   .exfalso;omega
 .obtain⟨_,x0,x1⟩:=hx;have x1:x<=ls.length:=x1;have e:x.toNat=ls.length:=by omega
  refine⟨tV cs ns os fs ls ks ⟨x0,x1⟩,?_⟩;unfold gm;rw[e,qO (by rw[jy];exact qJ _)]
  show _++List.replicate (ls.length-ls.length) 0=_;simp
theorem Lr(preT:Int->Int->Prop)(g:Int->Int->Int)(cs:LC)(ns os:LB)(fs:Lo)(ls:Ll)(ks:Lk): af Tryz.prog G0 75 [net cs ns os fs ls ks,.clo2 I I I preT g] [] ⟨bz (Df fs) preT,.dat M (aK g (Df fs)),[]⟩:=by
 refine ae (c:=mkc KQ0) YS aL hm (P3 preT g cs ns os fs ls ks ⟨rfl,λhp=>?_⟩)
 obtain⟨p1,p2,p3⟩:=hp;simp only[qc,Dh,Es,Di,qd,Dt,Eb,Dy,Dp,Ei,Eh,Ed,Ew,Df,Et,Dl,Dn,Eo,Dz,Dw,Dj,Dq,Ee,Fe,Dc,Dx,Dk,Ec,Em,Du,Eu,Ez,En,Ef,Fg,Fj,Fh,Ep,Ej,Ey,Fb]at p1 p2 p3 ⊢;have en:(fs.length:Int).toNat=fs.length:=qW _;refine⟨by omega,by omega,by omega,by simp,⟨0,⟨by omega,.inr rfl⟩,by simp,by rw[Mp.lW];simp⟩,λx hx=>⟨λhlt=>?_,λhge=>?_⟩⟩
 .have h0:=hx.1;have hl:=Mp.lh g fs.length x hx;rw[en]at hl;refine⟨by omega,by omega,by omega,hl,h0,by omega,hl,by simp,hl,h0,by omega,hl,by simp,⟨0,⟨by omega,.inr rfl⟩,by simp,by rw[Mp.sf];simp⟩,λy hy=>⟨λhlt2=>?_,λhge=>?_⟩⟩
  .have h2:=hy.1;have hl2:=Mp.lX g fs.length x y hy;rw[en]at hl2;refine⟨hl,h0,by omega,hl,p3 x y h0 hlt h2 hlt2,hl2,h2,by omega,hl2,bA (by omega),y+1,⟨by omega,.inl (by omega)⟩,⟨rfl,?_⟩,by omega⟩
   exact Mp.sg g fs.length x y h2 hlt2
  .have hl2:=Mp.lX g fs.length x y hy;rw[en]at hl2;refine⟨bA (by omega),x+1,⟨by omega,.inl (by omega)⟩,⟨rfl,hl2,?_⟩,by omega⟩
   exact Mp.oR g fs.length x y h0 hlt hy hge
 .have hl:=Mp.lh g fs.length x hx;rw[en]at hl;exact⟨hl,Mp.sd g fs.length x hx hge⟩
theorem Rb(preT:Int->Int->Prop)(g:Int->Int->Int)(cs:LC)(ns os:LB)(fs:Lo)(ls:Ll)(ks:Lk): af Tryz.prog G0 75 [net cs ns os fs ls ks,.clo2 I I I preT g] [] ⟨bz (Df fs) preT,.buf 0 (Dk (aK g (Df fs))),[(0,.mat 36 3 I (aK g (Df fs)) [])]⟩:=by
 refine ae (c:=mkc KQ0) YS aL hm (Kp preT g cs ns os fs ls ks ⟨rfl,λhp=>?_⟩)
 obtain⟨p1,p2,p3⟩:=hp;simp only[qc,Dh,Es,Di,qd,Dt,Eb,Dy,Dp,Ei,Eh,Ed,Ew,Df,Et,Dl,Dn,Eo,Dz,Dw,Dj,Dq,Ee,Fe,Dc,Dx,Dk,Ec,Em,Du,Eu,Ez,En,Ef,Fg,Fj,Fh,Ep,Ej,Ey,Fb]at p1 p2 p3 ⊢;have en:(fs.length:Int).toNat=fs.length:=qW _;refine⟨by omega,by omega,by omega,by simp,⟨0,⟨by omega,.inr rfl⟩,by simp,by rw[Mp.lW];simp,?_⟩,λx hx=>⟨λhlt=>?_,λhge=>?_⟩⟩
 .rw[Mp.lW];intro r hr;exact kK hr
 .have h0:=hx.1;have hl:=Mp.lh g fs.length x hx;rw[en]at hl;refine⟨by omega,by omega,by omega,hl,h0,by omega,hl,by simp,hl,h0,by omega,hl,by simp,⟨0,⟨by omega,.inr rfl⟩,by simp,by rw[Mp.sf];simp⟩,λy hy=>⟨λhlt2=>?_,λhge=>?_⟩⟩
  .have h2:=hy.1;have hl2:=Mp.lX g fs.length x y hy;rw[en]at hl2;refine⟨hl,h0,by omega,hl,p3 x y h0 hlt h2 hlt2,hl2,h2,by omega,hl2,bA (by omega),y+1,⟨by omega,.inl (by omega)⟩,⟨rfl,?_⟩,by omega⟩
   exact Mp.sg g fs.length x y h2 hlt2
  .have hl2:=Mp.lX g fs.length x y hy;rw[en]at hl2;refine⟨bA (by omega),x+1,⟨by omega,.inl (by omega)⟩,⟨rfl,hl2,?_⟩,by omega⟩
   exact Mp.oR g fs.length x y h0 hlt hy hge
 .have e:=Mp.sd g fs.length x hx hge;refine⟨?_,e⟩;rw[Mp.fK,en]
theorem LN(o d:Int): af Tryz.prog G0 144 [.dat I o,.dat I d] [] ⟨aAQ o d,.dat I (D9 o d),[]⟩:=
 ae (c:=mkc KQ0) YS aL hm (Ix o d ⟨rfl,λ_=>⟨rfl,trivial⟩⟩)
theorem LM(e:Int)(s:Lj)(o d:Int): af Tryz.prog G0 146 [.dat I o,.dat I d,.ip I e,.ip M s] [] ⟨FW e s o d,.dat I (J4 e s o d),[]⟩:=by
 refine ae (c:=mkc KQ0) YS aL hm (Iw e s o d ⟨rfl,λhp=>?_⟩)
 have hat:(s.getD o.toNat []).getD d.toNat 0=at2 s o d:=rfl;simp only[qc,Dh,Es,Di,qd,Dt,Eb,Dy,Dp,Ei,Eh,Ed,Ew,Df,Et,Dl,Dn,Eo,Dz,Dw,Dj,Dq,Ee,Fe,Dc,Dx,Dk,Ec,Em,Du,Eu,Ez,En,Ef,Fg,Fj,Fh,Ep,Ej,Ey,Fb,hat];refine⟨λh=>(hp h).1.1,λh=>(hp h).1.2.1,λh=>(hp h).1.2.2.1,λh=>(hp h).1.2.2.2,λh=>?_,λh=>?_⟩
 .unfold J4;rcases h with h | h
  .rw[if_neg h]
  .split
   .exact(if_pos h).symm
   .rfl
 .obtain⟨⟨q1,q2,q3,q4⟩,q5⟩:=hp h.1;refine⟨q1,q2,q3,q4,?_,?_⟩
  .rcases q5 with q5 | q5
   .exact(h.2 q5).elim
   .unfold inR;simp only;omega
  .unfold J4;rw[if_pos h.1];exact(if_neg h.2).symm
theorem fQ{P:Program}{C:Ctx}{a x x':AV}{us:Lv}(h:AV.relL P C [a,x] us)(hx:∀v,x.rel P C v->x'.rel P C v): AV.relL P C [a,x'] us:=by
 obtain⟨u,us,rfl,h1,u2,us,rfl,h2,h3⟩:=h;exact⟨_,_,rfl,h1,_,_,rfl,hx _ h2,h3⟩
theorem K9: ∀args m c,La args m=some c->af Tryz.prog G0 75 args m c:=by
 intro args m c hc;unfold La at hc;split at hc
 .rename_i cs ns os fs ls ks;cases hc;exact(Rb _ _ cs ns os fs ls ks).args λC us hG hu=>fQ hu λv hv=>jz (by kernel_rfl) rfl (λx y=>LN x y) hG hv
 .rename_i cs ns os fs ls ks e s;cases hc;exact(Lr _ _ cs ns os fs ls ks).args λC us hG hu=>fQ hu λv hv=>jz (by kernel_rfl) rfl (λx y=>LM e s x y) hG hv
 .cases hc
theorem qn{g g':Int->Int->Int}{m:Nat}(h:∀i j:Int,0<=i->i<m->0<=j->j<m->g i j=g' i j): aK g m=aK g' m:=by
 unfold aK;simp only[qW];refine yF λi hi=>yF λj hj=>?_
 have:=qX.1 hi;have:=qX.1 hj;exact h _ _ (by omega) (by omega) (by omega) (by omega)
theorem JJ{g:Int->Int->Int}{m:Nat}{a b v:Int}(a0:0<=a)(a1:a<m)(b0:0<=b)(b1:b<m):
  (aK g m).set a.toNat (((aK g m).getD a.toNat []).set b.toNat v)=aK (λo d=>if o=a/\d=b then v else g o d) m:=by
 rw[Mp.pA g m a a0 a1];unfold aK;simp only[qW];refine qDa (by simp) λi h1 h2=>?_
 rw[vV,vX]at h2;rw[List.getElem_set];by_cases e:a.toNat=i
 .rw[if_pos e];rw[qBa,qBm];refine qDa (by simp) λj h3 h4=>?_
  rw[vV,vX]at h4;rw[List.getElem_set,qBa,qBm,qBa,qBm];have ei:(i:Int)=a:=by omega
  by_cases e2:b.toNat=j
  .rw[if_pos e2,if_pos ⟨ei,by omega⟩]
  .rw[if_neg e2,if_neg (λq=>e2 (by omega)),ei]
 .rw[if_neg e];rw[qBa,qBa,qBm];refine yF λj hj=>?_
  rw[if_neg (λq=>e (by omega))]
theorem QO{m:Lj}(sq:Mp.Sq m.length m)(hl:m.length<=40)(h:∀i j:Int,0<=i->i<m.length->0<=j->j<m.length->Mp.pu (at2 m i j)=true): Mp.aw m=true:=by
 unfold Mp.aw;rw[qC,zJ,zJ,vN,qAb];refine⟨by omega,λr hr=>?_⟩
 obtain⟨i,hi,rfl⟩:=List.getElem_of_mem hr;have e:m[i]=m.getD (i:Int).toNat []:=by rw[qW,qA,qB hi,qQ]
 have hrow:=sq.row i (by omega) (by omega)
 rw[e];unfold Mp.mG;rw[kS,qBd,vN,Mp.pE];refine⟨by omega,λk k0 k1=>?_⟩
 rw[hrow]at k1;exact h i k (by omega) (by omega) k0 k1
theorem ix(ls:Ll)(c:Li)(k:Nat)(o d:Int): d6 ls c (k+1) o d=if c.getD k 0≠cZ/\(ls.getD k (⟨#[]⟩,0,0,0,0,0)).2.1=o/\(ls.getD k (⟨#[]⟩,0,0,0,0,0)).2.2.1=d then max (d6 ls c k o d) (-(c.getD k 0))else d6 ls c k o d:=rfl
theorem iR{n:Net}{c:Li}(h:dd n c)(ls:Ll)(o d:Int): ∀k:Nat,k<=c.length->d6 ls c k o d=cZ\/(-1000000<=d6 ls c k o d/\d6 ls c k o d<=-1)
 | 0,_=>.inl rfl
 | k+1,hk=>by
  have ih:=iR h ls o d k (by omega)
  have hc:=h.2.2 k (by omega) (by omega)
  rw[qW]at hc;rw[ix];split
  .rename_i g;rcases hc with hc | hc
   .exact(g.1 hc).elim
   .right
    rcases ih with ih | ih
    .rw[ih];unfold cZ;omega
    .omega
  .exact ih
theorem l8(cs:LC)(ns os:LB)(fs:Lo)(ls:Ll)(ks:Lk)(c:Li)(k:Int): Mp.Sq fs.length (aV (cs,ns,os,fs,ls,ks) c k):=Mp.t7 _ _
theorem gU(cs:LC)(ns os:LB)(fs:Lo)(ls:Ll)(ks:Lk)(c:Li)(k:Int){o d:Int}(o0:0<=o)(o1:o<fs.length)(d0:0<=d)(d1:d<fs.length): at2 (aV (cs,ns,os,fs,ls,ks) c k) o d=d6 ls c k.toNat o d:=Mp.fL _ _ o d o0 o1 d0 d1
theorem nZ(cs:LC)(ns os:LB)(fs:Lo)(ls:Ll)(ks:Lk){c:Li}{k:Int}(h:dd (cs,ns,os,fs,ls,ks) c)(k0:0<=k)(k1:k<=ls.length): Mp.aw (aV (cs,ns,os,fs,ls,ks) c k)=true:=by
 have sq:=l8 cs ns os fs ls ks c k;have l12:=(fD cs ns os fs ls ks (bu cs ns os fs ls ks h.1)).1;have hcl:c.length=ls.length:=h.2.1;refine QO (by rw[sq.len];exact sq) (by rw[sq.len];omega) λi j i0 i1 j0 j1=>?_
 rw[sq.len]at i1 j1;rw[gU cs ns os fs ls ks c k i0 i1 j0 j1];unfold Mp.pu Mp.cT;rcases iR h ls i j k.toNat (by omega)with g | g
 .rw[g];rfl
 .simp only[yD,qC,qE];right;omega
theorem aAl{m:Lj}(h:Mp.aw m=true)(he:gy m=0): dO m=Mp.bQ m m.length:=by
 unfold gy dO Mp.Ai at *;rw[h]at he ⊢;simp only[qAn]at he ⊢;cases hb:Mp.kB m with
 | true=>rw[hb]at he;simp only[qAn]at he;omega
 | false=>rfl
theorem Nz(cs:LC)(ns os:LB)(fs:Lo)(ls:Ll)(ks:Lk){c:Li}(h:dd (cs,ns,os,fs,ls,ks) c){o d:Int}(o0:0<=o)(o1:o<fs.length)(d0:0<=d)(d1:d<fs.length): FW (gy (bq (cs,ns,os,fs,ls,ks) c)) (dO (bq (cs,ns,os,fs,ls,ks) c)) o d:=by
 intro he;have hv:Mp.aw (bq (cs,ns,os,fs,ls,ks) c)=true:=nZ cs ns os fs ls ks h (by omega) (qL _)
 have sq:Mp.Sq fs.length (bq (cs,ns,os,fs,ls,ks) c):=l8 cs ns os fs ls ks c _;have l12:=(fD cs ns os fs ls ks (bu cs ns os fs ls ks h.1)).1;rw[aAl hv he];have sN:=Mp.iL (bq (cs,ns,os,fs,ls,ks) c) (bq (cs,ns,os,fs,ls,ks) c).length;have b1:=Mp.lS hv (bq (cs,ns,os,fs,ls,ks) c).length (qJ _) o d o0 (by rw[sq.len];exact o1) d0 (by rw[sq.len];exact d1)
 have b3:=Mp.Vu (k:=(bq (cs,ns,os,fs,ls,ks) c).length) (by rw[sq.len];omega)
 refine⟨sN.oi o0 (by rw[sq.len];exact o1) d0 (by rw[sq.len];exact d1),.inr ?_⟩
 omega
theorem Jg(cs:LC)(ns os:LB)(fs:Lo)(ls:Ll)(ks:Lk){c:Li}{k:Int}(h:dd (cs,ns,os,fs,ls,ks) c)(k0:0<=k)(k1:k<ls.length)(hc:c.getD k.toNat 0≠cZ):
  (aV (cs,ns,os,fs,ls,ks) c k).set (aG (cs,ns,os,fs,ls,ks) k).2.1.toNat (((aV (cs,ns,os,fs,ls,ks) c k).getD (aG (cs,ns,os,fs,ls,ks) k).2.1.toNat []).set (aG (cs,ns,os,fs,ls,ks) k).2.2.1.toNat (max (((aV (cs,ns,os,fs,ls,ks) c k).getD (aG (cs,ns,os,fs,ls,ks) k).2.1.toNat []).getD (aG (cs,ns,os,fs,ls,ks) k).2.2.1.toNat 0) (-(c.getD k.toNat 0))))=aV (cs,ns,os,fs,ls,ks) c (k+1):=by
 obtain⟨l0,l1,l2,l3,_⟩:=fO cs ns os fs ls ks h.1 k0 k1;have e1:(k+1).toNat=k.toNat+1:=by omega
 have ha:=gU cs ns os fs ls ks c k l0 l1 l2 l3;have ha':((aV (cs,ns,os,fs,ls,ks) c k).getD (aG (cs,ns,os,fs,ls,ks) k).2.1.toNat []).getD (aG (cs,ns,os,fs,ls,ks) k).2.2.1.toNat 0=d6 ls c k.toNat (aG (cs,ns,os,fs,ls,ks) k).2.1 (aG (cs,ns,os,fs,ls,ks) k).2.2.1:=ha;rw[ha'];unfold aV;rw[e1];show(aK _ (fs.length:Int)).set _ (((aK _ (fs.length:Int)).getD _ _).set _ _)=aK _ (fs.length:Int)
 rw[JJ l0 l1 l2 l3];refine qn λi j i0 i1 j0 j1=>?_
 show _=d6 ls c (k.toNat+1) i j;rw[ix];by_cases g:i=(aG (cs,ns,os,fs,ls,ks) k).2.1/\j=(aG (cs,ns,os,fs,ls,ks) k).2.2.1
 .rw[if_pos g,if_pos ⟨hc,g.1.symm,g.2.symm⟩,g.1,g.2]
 .rw[if_neg g,if_neg (λq=>g ⟨q.2.1.symm,q.2.2.symm⟩)]
theorem Jf(cs:LC)(ns os:LB)(fs:Lo)(ls:Ll)(ks:Lk){c:Li}{k:Int}(k0:0<=k)(hc:c.getD k.toNat 0=cZ): aV (cs,ns,os,fs,ls,ks) c k=aV (cs,ns,os,fs,ls,ks) c (k+1):=by
 have e1:(k+1).toNat=k.toNat+1:=by omega
 unfold aV;rw[e1];refine qn λi j i0 i1 j0 j1=>?_
 show _=d6 ls c (k.toNat+1) i j;rw[ix,if_neg (λq=>q.1 hc)]
theorem aD1: aj Tryz.prog G0 KQ1:=ai K9<|ai (ag λ((cs,ns,os,fs,ls,ks),a,b,_)=>oX a b cs ns os fs ls ks)<|ai (ag λ((cs,ns,os,fs,ls,ks),a,b,_)=>Xj a b cs ns os fs ls ks) YS
theorem Lt(c:Li)(cs:LC)(ns os:LB)(fs:Lo)(ls:Ll)(ks:Lk): af Tryz.prog G0 74 [net cs ns os fs ls ks,.dat R c] [] ⟨dd (cs,ns,os,fs,ls,ks) c,.dat M (aN (cs,ns,os,fs,ls,ks) c),[]⟩:=by
 refine ae (c:=mkc KQ1) aD1 aL hm (Ih c cs ns os fs ls ks ⟨rfl,λhp=>?_⟩)
 have hno:=bu cs ns os fs ls ks hp.1;have l40:=(nV cs ns os fs ls ks hno).2;have l12:=(fD cs ns os fs ls ks hno).1;have hcl:c.length=ls.length:=hp.2.1;simp only[qc,Dh,Es,Di,qd,Dt,Eb,Dy,Dp,Ei,Eh,Ed,Ew,Df,Et,Dl,Dn,Eo,Dz,Dw,Dj,Dq,Ee,Fe,Dc,Dx,Dk,Ec,Em,Du,Eu,Ez,En,Ef,Fg,Fj,Fh,Ep,Ej,Ey,Fb,mY cs ns os fs ls ks];have en:(fs.length:Int).toNat=fs.length:=qW _
 have bl:∀g:Int->Int->Int,(aK g fs.length).length=fs.length:=λg=>by rw[Mp.fK,en]
 have ll:∀x,(aV (cs,ns,os,fs,ls,ks) c x).length=fs.length:=λx=>bl _
 refine⟨⟨by omega,by omega,λ_ _ _ _ _ _=>trivial⟩,⟨0,⟨hp,by omega,by omega⟩,rfl,rfl⟩,λx hx=>⟨λhlt=>?_,λhge=>?_⟩⟩
 .obtain⟨_,x0,x1⟩:=hx;obtain⟨l0,l1,l2,l3,_⟩:=fO cs ns os fs ls ks hp.1 x0 hlt;have hrow:=(l8 cs ns os fs ls ks c x).row _ l0 l1;have hc:=hp.2.2 x x0 (by omega)
  have hx1:x+1<=(((cs,ns,os,fs,ls,ks):Net).2.2.2.2.1.length:Int):=(by show x+1<=(ls.length:Int);omega)
  refine⟨x0,hlt,x0,by omega,λhn=>?_,λhn=>?_⟩
  .have hl:(aV (cs,ns,os,fs,ls,ks) c x).length=(aK D9 fs.length).length:=by rw[ll,bl]
   have hb:(aG (cs,ns,os,fs,ls,ks) x).2.1<((aV (cs,ns,os,fs,ls,ks) c x).length:Int):=by rw[ll];exact l1
   have hr:(aG (cs,ns,os,fs,ls,ks) x).2.2.1<(((aV (cs,ns,os,fs,ls,ks) c x).getD (aG (cs,ns,os,fs,ls,ks) x).2.1.toNat []).length:Int):=by rw[hrow];exact l3
   refine⟨hl,l0,hb,hl,hl,l0,hb,hl,hl,l2,hr,hl,x0,by omega,?_,hl,l2,hr,hl,bA (by omega),x+1,⟨hp,by omega,hx1⟩,⟨rfl,Jg cs ns os fs ls ks hp x0 hlt hn⟩,by omega⟩
   rcases hc with hc | hc
   .exact(hn hc).elim
   .exact bA (by omega)
  .exact⟨bA (by omega),x+1,⟨hp,by omega,hx1⟩,⟨rfl,Jf cs ns os fs ls ks x0 hn⟩,by omega⟩
 .obtain⟨_,x0,x1⟩:=hx;have x1:x<=ls.length:=x1;have e:x=ls.length:=by omega
  have el:aV (cs,ns,os,fs,ls,ks) c x=bq (cs,ns,os,fs,ls,ks) c:=by rw[e];rfl
  rw[el];refine⟨?_,?_,?_,?_⟩
  all_goals first
   | (rw[<- el,ll,bl])
   | (show List.length _<=20;rw[<- el,ll];omega)
   | exact⟨by omega,by omega,λi j i0 i1 j0 j1=>Nz cs ns os fs ls ks hp i0 i1 j0 j1⟩
   | rfl
theorem find_range{m:Nat}{p:Nat->Bool}{i:Nat}(hi:i<m)(hp:p i=true)(h:(List.range i).all (λj=>!p j)=true): (List.range m).find? p=some i:=by
 have e:m=i+(m-i-1+1):=by omega
 rw[e,List.range_add,List.find?_append];have:(List.range i).find? p=none:=by
  rw[qBn];intro x hx;have:=qN.1 h x hx;simpa using this
 rw[this,List.range_succ_eq_map,zG,qBg];simp[hp]
theorem yx{m:Nat}{p:Nat->Bool}(h:(List.range m).all (λj=>!p j)=true): (List.range m).find? p=none:=by
 rw[qBn];intro x hx;have:=qN.1 h x hx;simpa using this
theorem t8{n:Net}{c:Li}{b:Lj}{o d x:Int}(hx:ua n c b o d x)(x1:x<n.2.2.2.2.1.length)(h:ki n c b o d x=false): ua n c b o d (x+1):=by
 obtain⟨hp,x0,_,ha⟩:=hx;refine⟨hp,by omega,by omega,?_⟩
 rw[show(x+1).toNat=x.toNat+1 by omega,zT,kY,ha,qAk,qR x0,h];rfl
theorem md{n:Net}{c:Li}{b:Lj}{o d i:Int}: ki n c b o d i=true↔(aG n i).2.1=o/\c.getD i.toNat 0≠cZ/\0<=at2 b (aG n i).2.2.1 d/\c.getD i.toNat 0+at2 b (aG n i).2.2.1 d=at2 b o d:=by
 unfold ki;simp only[qC,qE,qDe]
theorem BD{n:Net}{c:Li}{b:Lj}{o d i:Int}(h:¬((aG n i).2.1=o/\c.getD i.toNat 0≠cZ/\0<=at2 b (aG n i).2.2.1 d/\c.getD i.toNat 0+at2 b (aG n i).2.2.1 d=at2 b o d)): ki n c b o d i=false:=by
 rw[<- kS,md];exact h
theorem aAj(c:Li)(b:Lj)(o d:Int)(cs:LC)(ns os:LB)(fs:Lo)(ls:Ll)(ks:Lk): af Tryz.prog G0 77 [net cs ns os fs ls ks,.dat R c,.dat M b,.dat I o,.dat I d] [] ⟨ub (cs,ns,os,fs,ls,ks) c b o d,.dat I (qT (cs,ns,os,fs,ls,ks) c b o d),[]⟩:=by
 refine ae (c:=mkc KQ1) aD1 aL hm (Ww c b o d cs ns os fs ls ks ⟨rfl,λhp=>?_⟩)
 obtain⟨hc,hb,o0,o1,d0,d1⟩:=hp;have hno:=bu cs ns os fs ls ks hc.1;have l40:=(nV cs ns os fs ls ks hno).2;have hcl:c.length=ls.length:=hc.2.1;have hat:∀i j:Int,(b.getD i.toNat []).getD j.toNat 0=at2 b i j:=λ_ _=>rfl
 simp only[qc,Dh,Es,Di,qd,Dt,Eb,Dy,Dp,Ei,Eh,Ed,Ew,Df,Et,Dl,Dn,Eo,Dz,Dw,Dj,Dq,Ee,Fe,Dc,Dx,Dk,Ec,Em,Du,Eu,Ez,En,Ef,Fg,Fj,Fh,Ep,Ej,Ey,Fb,mY cs ns os fs ls ks,hat];refine⟨⟨⟨hc,hb,o0,o1,d0,d1⟩,by omega,by omega,rfl⟩,λx hx=>⟨λhlt=>?_,λhge=>?_⟩⟩
 .obtain⟨hp,x0,x1,ha⟩:=id hx;obtain⟨l0,l1,l2,l3,_⟩:=fO cs ns os fs ls ks hc.1 x0 hlt;obtain⟨⟨i1,i2,i3,i4⟩,i5,i6⟩:=hb _ _ l2 l3 d0 d1;obtain⟨⟨j1,j2,j3,j4⟩,j5,j6⟩:=hb _ _ o0 o1 d0 d1;have hcx:=hc.2.2 x x0 (by omega)
  have hx1:x+1<=(((cs,ns,os,fs,ls,ks):Net).2.2.2.2.1.length:Int):=(by show x+1<=(ls.length:Int);omega)
  refine⟨x0,hlt,λ_=>x0,λ_=>by omega,λ_=>l2,λ_=>i2,λ_=>d0,λ_=>i4,λh=>⟨bA (by omega),x+1,t8 hx hlt (BD λq=>?_),rfl,by omega⟩,λh=>⟨x0,by omega,l2,i2,d0,i4,?_,o0,j2,d0,j4,λh2=>?_,λh2=>⟨bA (by omega),x+1,t8 hx hlt (BD λq=>h2 q.2.2.2),rfl,by omega⟩⟩⟩
  .rcases h with(h | h) | h
   .exact h q.1
   .exact q.2.1 h
   .omega
  .rcases hcx with hcx | hcx
   .exact(h.1.2 hcx).elim
   .unfold inR;simp only;omega
  .have hbst:ki (cs,ns,os,fs,ls,ks) c b o d x=true:=md.2 ⟨by first | exact h.1.1 | exact qBs.1 h.1.1,h.1.2,by omega,h2⟩
   unfold qT;rw[find_range (i:=x.toNat) (by show x.toNat<ls.length;omega) (by rw[qR x0];exact hbst) ha]
   show x=((x.toNat:Nat):Int);omega
 .obtain⟨hp,x0,x1,ha⟩:=hx;have x1:x<=ls.length:=x1;have e:x.toNat=ls.length:=by omega
  rw[e]at ha;unfold qT;rw[yx (show(List.range ((cs,ns,os,fs,ls,ks):Net).2.2.2.2.1.length).all _=true from ha)]
theorem aEI: aj Tryz.prog G0 KQ2:=ai (ag λ((cs,ns,os,fs,ls,ks),c,_)=>Lt c cs ns os fs ls ks)<|ai (ag λ((cs,ns,os,fs,ls,ks),c,b,o,d,_)=>aAj c b o d cs ns os fs ls ks) aD1
theorem W6(b:Lj)(c:Li)(o d:Int)(cs:LC)(ns os:LB)(fs:Lo)(ls:Ll)(ks:Lk): af Tryz.prog G0 76 [.dat I o,.dat I d,.ip M b,.ip N (cs,ns,os,fs,ls,ks),.ip R c] [] ⟨ub (cs,ns,os,fs,ls,ks) c b o d,.dat I (mA (cs,ns,os,fs,ls,ks) c b o d),[]⟩:=by
 refine ae (c:=mkc KQ2) aEI aL hm (Qm b c o d cs ns os fs ls ks ⟨rfl,λhp=>?_⟩)
 obtain⟨⟨j1,j2,j3,j4⟩,j5,j6⟩:=hp.2.1 o d hp.2.2.1 hp.2.2.2.1 hp.2.2.2.2.1 hp.2.2.2.2.2;have hat:∀i j:Int,(b.getD i.toNat []).getD j.toNat 0=at2 b i j:=λ_ _=>rfl
 simp only[qc,Dh,Es,Di,qd,Dt,Eb,Dy,Dp,Ei,Eh,Ed,Ew,Df,Et,Dl,Dn,Eo,Dz,Dw,Dj,Dq,Ee,Fe,Dc,Dx,Dk,Ec,Em,Du,Eu,Ez,En,Ef,Fg,Fj,Fh,Ep,Ej,Ey,Fb,hat];refine⟨λ_=>j1,λ_=>j2,λ_=>j3,λ_=>j4,λh=>?_,λh=>⟨hp,?_⟩⟩
 .unfold mA;exact(if_pos h).symm
 .unfold mA;exact(if_neg (by omega)).symm
theorem aEH: aj Tryz.prog G0 KQ3:=ai (λargs m c hc=>by
 split at hc
 .rename_i cs ns os fs ls ks b n c;cases hc;exact(Lr _ _ cs ns os fs ls ks).args λC us hG hu=>fQ hu λv hv=>jz (by kernel_rfl) rfl (λx y=>by obtain⟨a1,a2,a3,a4,a5,a6⟩:=n;exact W6 b c x y a1 a2 a3 a4 a5 a6) hG hv
 .cases hc) aEI
theorem aBr(cs:LC)(ns os:LB)(fs:Lo)(ls:Ll)(ks:Lk){c:Li}(h:dd (cs,ns,os,fs,ls,ks) c): OL (cs,ns,os,fs,ls,ks) (aN (cs,ns,os,fs,ls,ks) c):=by
 intro o d o0 o1 d0 d1;have sq:Mp.Sq fs.length (aN (cs,ns,os,fs,ls,ks) c):=Mp.t7 _ _;refine⟨sq.oi o0 o1 d0 d1,?_⟩;have ha:at2 (aN (cs,ns,os,fs,ls,ks) c) o d=J4 (gy (bq (cs,ns,os,fs,ls,ks) c)) (dO (bq (cs,ns,os,fs,ls,ks) c)) o d:=Mp.fL _ _ o d o0 o1 d0 d1;have hp:=Nz cs ns os fs ls ks h o0 o1 d0 d1;rw[ha];unfold FW at hp;unfold J4;split
 .rename_i he;obtain⟨_,hp⟩:=hp he;split
  .omega
  .rcases hp with hp | hp
   .contradiction
   .omega
 .omega
theorem WU(a b:Int)(cs:LC)(ns os:LB)(fs:Lo)(ls:Ll)(ks:Lk): af Tryz.prog G0 23 [net cs ns os fs ls ks,.dat I a,.dat I b] [] ⟨True,.dat M (lj (cs,ns,os,fs,ls,ks) a b),[]⟩:=by
 refine ae (c:=mkc KQ3) aEH aL hm (Qa a b cs ns os fs ls ks ⟨rfl,λ_=>?_⟩)
 simp only[qc,Dh,Es,Di,qd,Dt,Eb,Dy,Dp,Ei,Eh,Ed,Ew,Df,Et,Dl,Dn,Eo,Dz,Dw,Dj,Dq,Ee,Fe,Dc,Dx,Dk,Ec,Em,Du,Eu,Ez,En,Ef,Fg,Fj,Fh,Ep,Ej,Ey,Fb];refine⟨λh=>?_,λh=>?_⟩
 .unfold lj;rw[h];rfl
 .have hc:=zc cs ns os fs ls ks h;have l12:=(fD cs ns os fs ls ks (bu cs ns os fs ls ks hc.1)).1;refine⟨h,hc,⟨by omega,by omega,λi j i0 i1 j0 j1=>⟨hc,aBr cs ns os fs ls ks hc,i0,i1,j0,j1⟩⟩,?_⟩
  unfold lj;rw[h];rfl
end Go.Eng.Sv
set_option maxRecDepth 100000
namespace Go.Eng.Sv
open Go.Proofs
open Go.Eng.Mp (aK ct pM bz upto at2 oi dO gy xb)
open Go.Eng.Mp (W PW uj)
structure F7 (q:Nat) (ls:Ll) (c:Li) (B:Int->Int->Int):Prop where
 lo:∀o d:Int,0<=o->o<q->0<=d->d<q->-1<=B o d
 same:∀o:Int,0<=o->o<q->B o o=0
 step:∀(k:Nat) (l:Line),ls[k]?=some l->c.getD k 0≠cZ->∀d:Int,0<=d->d<q->0<=B (lTo l) d->0<=B (aY l) d/\B (aY l) d<=c.getD k 0+B (lTo l) d
 from_:∀o d:Int,0<=o->o<q->0<=d->d<q->o≠d->0<=B o d->∃(k:Nat) (l:Line),ls[k]?=some l/\c.getD k 0≠cZ/\aY l=o/\0<=B (lTo l) d/\B o d=c.getD k 0+B (lTo l) d
structure F6 (q:Nat) (ls:Ll) (c:Li):Prop where
 pos:∀(k:Nat) (l:Line),ls[k]?=some l->c.getD k 0≠cZ->0<c.getD k 0
 ends:∀(k:Nat) (l:Line),ls[k]?=some l->(0<=aY l/\aY l<q)/\0<=lTo l/\lTo l<q
theorem F7.mono {q:Nat} {ls ls':Ll} {c c':Li} {B B':Int->Int->Int} (h:F7 q ls c B) (hc:F6 q ls c) (h':F7 q ls' c' B')
  (hl:∀(k:Nat) (l:Line),ls[k]?=some l->c.getD k 0≠cZ->∃(k':Nat) (l':Line),ls'[k']?=some l'/\c'.getD k' 0≠cZ/\aY l'=aY l/\lTo l'=lTo l/\c'.getD k' 0<=c.getD k 0):
  ∀(f:Nat) (o d:Int),0<=o->o<q->0<=d->d<q->0<=B o d->(B o d).toNat<=f->0<=B' o d/\B' o d<=B o d
 | f,o,d,o0,o1,d0,d1,hB,hf=>by
  by_cases e:o=d
  .subst e;rw[h.same o o0 o1,h'.same o o0 o1];omega
  .obtain⟨k,l,k1,k2,k3,k4,k5⟩:=h.from_ o d o0 o1 d0 d1 e hB;have hp:=hc.pos k l k1 k2;obtain⟨_,t0,t1⟩:=hc.ends k l k1
   match f,hf with
   | 0,hf=>omega
   | f+1,hf=>
    obtain⟨i1,i2⟩:=h.mono hc h' hl f (lTo l) d t0 t1 d0 d1 k4 (by omega)
    obtain⟨k',l',g1,g2,g3,g4,g5⟩:=hl k l k1 k2;obtain⟨s1,s2⟩:=h'.step k' l' g1 g2 d d0 d1 (by rw[g4];exact i1)
    rw[g3,k3,g4]at s2;rw[g3,k3]at s1;exact⟨s1,by omega⟩
theorem F7.le {q:Nat} {ls ls':Ll} {c c':Li} {B B':Int->Int->Int} (h:F7 q ls c B) (hc:F6 q ls c) (h':F7 q ls' c' B')
  (hl:∀(k:Nat) (l:Line),ls[k]?=some l->c.getD k 0≠cZ->∃(k':Nat) (l':Line),ls'[k']?=some l'/\c'.getD k' 0≠cZ/\aY l'=aY l/\lTo l'=lTo l/\c'.getD k' 0<=c.getD k 0)
  {o d:Int} (o0:0<=o) (o1:o<q) (d0:0<=d) (d1:d<q) (hB:0<=B o d):0<=B' o d/\B' o d<=B o d:=h.mono hc h' hl _ o d o0 o1 d0 d1 hB (qJ _)
theorem By{ls:Ll}{c:Li}{l:Line}: ∀(m k:Nat),k<m->ls[k]?=some l->c.getD k 0≠cZ->-(c.getD k 0)<=d6 ls c m (aY l) (lTo l)
 | m+1,k,hk,hl,hc=>by
  rw[ix];by_cases e:k=m
  .subst e;rw[if_pos ⟨hc,by rw[qA,hl];rfl,by rw[qA,hl];rfl⟩]
   omega
  .have ih:=By m k (by omega) hl hc
   split<;>omega
theorem td{ls:Ll}{c:Li}{o d:Int}: ∀m:Nat,m<=ls.length->d6 ls c m o d=cZ\/∃(k:Nat) (l:Line),ls[k]?=some l/\c.getD k 0≠cZ/\aY l=o/\lTo l=d/\d6 ls c m o d=-(c.getD k 0)
 | 0,_=>.inl rfl
 | m+1,hm=>by
  rw[ix];have hg:ls[m]?=some (ls[m]'(by omega)):=qB _
  have ed:ls.getD m (⟨#[]⟩,0,0,0,0,0)=ls[m]'(by omega):=by rw[qA,hg];rfl
  split
  .rename_i g;rw[ed]at g;rcases td (ls:=ls) (c:=c) (o:=o) (d:=d) m (by omega)with h | ⟨k,l,h1,h2,h3,h4,h5⟩
   .by_cases q:cZ<=-(c.getD m 0)
    .exact .inr ⟨m,_,hg,g.1,g.2.1,g.2.2,by rw[h];omega⟩
    .left;rw[h];omega
   .by_cases q:d6 ls c m o d<=-(c.getD m 0)
    .exact .inr ⟨m,_,hg,g.1,g.2.1,g.2.2,by omega⟩
    .exact .inr ⟨k,l,h1,h2,h3,h4,by omega⟩
  .exact td m (by omega)
theorem TS(cs:LC)(ns os:LB)(fs:Lo)(ls:Ll)(ks:Lk){c:Li}(h:dd (cs,ns,os,fs,ls,ks) c): F6 fs.length ls c:=by
 have hcl:c.length=ls.length:=h.2.1;refine⟨λk l hk hc=>?_,λk l hk=>?_⟩
 .have hlt:k<ls.length:=(qF.1 hk).1;have:=h.2.2 k (by omega) (by omega)
  rw[qW]at this;rcases this with g | g
  .exact(hc g).elim
  .exact g.1
 .have hlt:k<ls.length:=(qF.1 hk).1;obtain⟨l0,l1,l2,l3,_⟩:=fO cs ns os fs ls ks h.1 (i:=k) (by omega) (by omega)
  have e:aG (cs,ns,os,fs,ls,ks) k=l:=by
   unfold aG;show ls.getD (k:Int).toNat _=l;rw[qW,qA,hk];rfl
  rw[e]at l0 l1 l2 l3;exact⟨⟨l0,l1⟩,l2,l3⟩
theorem Tc(cs:LC)(ns os:LB)(fs:Lo)(ls:Ll)(ks:Lk){c:Li}(h:dd (cs,ns,os,fs,ls,ks) c): Mp.Bd fs.length 1000000 (bq (cs,ns,os,fs,ls,ks) c):=by
 have l12:=(fD cs ns os fs ls ks (bu cs ns os fs ls ks h.1)).1;have hcl:c.length=ls.length:=h.2.1;refine⟨l8 cs ns os fs ls ks c _,by omega,λi j i0 i1 j0 j1 hf=>?_⟩
 have e:at2 (bq (cs,ns,os,fs,ls,ks) c) i j=d6 ls c (ls.length:Int).toNat i j:=gU cs ns os fs ls ks c _ i0 i1 j0 j1;rw[e]at hf ⊢;rcases iR h ls i j (ls.length:Int).toNat (by omega)with g | g
 .rw[g]at hf;cases hf
 .omega
theorem Ny(cs:LC)(ns os:LB)(fs:Lo)(ls:Ll)(ks:Lk){c:Li}(h:dd (cs,ns,os,fs,ls,ks) c){i j:Int}(i0:0<=i)(i1:i<fs.length)(j0:0<=j)(j1:j<fs.length): at2 (bq (cs,ns,os,fs,ls,ks) c) i j<=-1:=by
 have hcl:c.length=ls.length:=h.2.1;have e:at2 (bq (cs,ns,os,fs,ls,ks) c) i j=d6 ls c (ls.length:Int).toNat i j:=gU cs ns os fs ls ks c _ i0 i1 j0 j1;rw[e];rcases iR h ls i j (ls.length:Int).toNat (by omega)with g | g
 .rw[g];unfold cZ;omega
 .omega
theorem Vx{m:Lj}{p:Nat->Int}{q:Nat}(hm:∀i j:Int,0<=i->i<q->0<=j->j<q->at2 m i j<=-1): ∀(k:Nat) (z:Int),(∀s,s<=k->Mp.In q (p s))->PW m p k z->z<=-(k:Int)
 | 0,z,_,h=>by have h:z<=0:=h;omega
 | k+1,z,hp,⟨u,v,h1,h2,h3⟩=>by
  have ih:=Vx hm k u (λs hs=>hp s (by omega)) h1
  have a:=hp k (by omega)
  have b:=hp (k+1) (by omega)
  have:=hm _ _ a.1 a.2 b.1 b.2;have:=h2.2;omega
theorem tc(cs:LC)(ns os:LB)(fs:Lo)(ls:Ll)(ks:Lk){c:Li}(h:dd (cs,ns,os,fs,ls,ks) c){t:Int}{k:Nat}{i j z:Int}(hw:W (bq (cs,ns,os,fs,ls,ks) c) fs.length t k i j z): z<=0:=by
 obtain⟨p,h1,h2,h3,h4,h5⟩:=hw;have:=Vx (λi j i0 i1 j0 j1=>Ny cs ns os fs ls ks h i0 i1 j0 j1) k z h3 h5
 omega
theorem Cc(cs:LC)(ns os:LB)(fs:Lo)(ls:Ll)(ks:Lk){c:Li}(h:dd (cs,ns,os,fs,ls,ks) c): F7 fs.length ls c (λo d=>at2 (aN (cs,ns,os,fs,ls,ks) c) o d)/\gy (bq (cs,ns,os,fs,ls,ks) c)=0/\
  (∀o d:Int,0<=o->o<fs.length->0<=d->d<fs.length->at2 (dO (bq (cs,ns,os,fs,ls,ks) c)) o d=if at2 (aN (cs,ns,os,fs,ls,ks) c) o d<0 then cZ else -(at2 (aN (cs,ns,os,fs,ls,ks) c) o d))/\Mp.Sq fs.length (dO (bq (cs,ns,os,fs,ls,ks) c)):=by
 have l12:=(fD cs ns os fs ls ks (bu cs ns os fs ls ks h.1)).1;have hcl:c.length=ls.length:=h.2.1;have hm:=Tc cs ns os fs ls ks h;have hB:(fs.length:Int)*1000000<=100000000000:=by omega
 have hv:Mp.aw (bq (cs,ns,os,fs,ls,ks) c)=true:=nZ cs ns os fs ls ks h (by omega) (qL _)
 have hN:uj (bq (cs,ns,os,fs,ls,ks) c) fs.length:=λk x u hw=>tc cs ns os fs ls ks h hw
 obtain⟨e1,e2⟩:=Mp.Xq hm hv (by omega) hB hN
 have hle:∀{i j z:Int},Mp.In fs.length i->Mp.In fs.length j->(Mp.le z (at2 (dO (bq (cs,ns,os,fs,ls,ks) c)) i j)↔∃k,W (bq (cs,ns,os,fs,ls,ks) c) fs.length fs.length k i j z):=λhi hj=>by
  rw[e2];exact Mp.ER hm (by omega) hB hN hi hj
 have hcl2:∀{i j:Int},Mp.In fs.length i->Mp.In fs.length j->Mp.HV (at2 (dO (bq (cs,ns,os,fs,ls,ks) c)) i j):=λhi hj=>by
  rw[e2];exact Mp.Db hm.sq.len _ hi hj
 have hat:∀o d:Int,0<=o->o<fs.length->0<=d->d<fs.length->at2 (aN (cs,ns,os,fs,ls,ks) c) o d=if at2 (dO (bq (cs,ns,os,fs,ls,ks) c)) o d=cZ then -1 else -(at2 (dO (bq (cs,ns,os,fs,ls,ks) c)) o d):=λo d o0 o1 d0 d1=>by
  have:at2 (aN (cs,ns,os,fs,ls,ks) c) o d=J4 (gy (bq (cs,ns,os,fs,ls,ks) c)) (dO (bq (cs,ns,os,fs,ls,ks) c)) o d:=Mp.fL _ _ o d o0 o1 d0 d1;rw[this];unfold J4;rw[if_pos e1]
 have hsg:∀o d:Int,0<=o->o<fs.length->0<=d->d<fs.length->(at2 (dO (bq (cs,ns,os,fs,ls,ks) c)) o d=cZ/\at2 (aN (cs,ns,os,fs,ls,ks) c) o d=-1)\/(Mp.cT (at2 (dO (bq (cs,ns,os,fs,ls,ks) c)) o d)=false/\at2 (dO (bq (cs,ns,os,fs,ls,ks) c)) o d<=0/\at2 (aN (cs,ns,os,fs,ls,ks) c) o d=-(at2 (dO (bq (cs,ns,os,fs,ls,ks) c)) o d)):=λo d o0 o1 d0 d1=>by
  have ha:=hat o d o0 o1 d0 d1;rcases hcl2 (i:=o) (j:=d) ⟨o0,o1⟩ ⟨d0,d1⟩with g | g
  .left;rw[if_pos (show _=cZ from g)]at ha;exact⟨g,ha⟩
  .right
   obtain⟨k,hw⟩:=(hle ⟨o0,o1⟩ ⟨d0,d1⟩).1 (Mp.yf g);have g':=Mp.gV.1 g;rw[if_neg (show ¬_=cZ by unfold cZ;omega)]at ha
   exact⟨g,tc cs ns os fs ls ks h hw,ha⟩
 have hge:∀{o d:Int},0<=o->o<fs.length->0<=d->d<fs.length->∀{k:Nat} {z:Int},-549755813888<z->W (bq (cs,ns,os,fs,ls,ks) c) fs.length fs.length k o d z->0<=at2 (aN (cs,ns,os,fs,ls,ks) c) o d/\at2 (aN (cs,ns,os,fs,ls,ks) c) o d<=-z:=λ{o d} o0 o1 d0 d1 {k z} _ hw=>by
  have:=(hle ⟨o0,o1⟩ ⟨d0,d1⟩).2 ⟨k,hw⟩;rcases hsg o d o0 o1 d0 d1 with⟨g1,g2⟩ | ⟨g1,g2,g3⟩
  .rw[g1]at this;cases this.1
  .have:=this.2;omega
 have hW:∀{o d:Int},0<=o->o<fs.length->0<=d->d<fs.length->0<=at2 (aN (cs,ns,os,fs,ls,ks) c) o d->∃k,W (bq (cs,ns,os,fs,ls,ks) c) fs.length fs.length k o d (-(at2 (aN (cs,ns,os,fs,ls,ks) c) o d))/\-549755813888 < -(at2 (aN (cs,ns,os,fs,ls,ks) c) o d):=λ{o d} o0 o1 d0 d1 hb=>by
  rcases hsg o d o0 o1 d0 d1 with⟨g1,g2⟩ | ⟨g1,g2,g3⟩
  .omega
  .have e:-(at2 (aN (cs,ns,os,fs,ls,ks) c) o d)=at2 (dO (bq (cs,ns,os,fs,ls,ks) c)) o d:=by omega
   rw[e];obtain⟨k,hw⟩:=(hle ⟨o0,o1⟩ ⟨d0,d1⟩).1 (Mp.yf g1);exact⟨k,hw,Mp.gV.1 g1⟩
 have cp:=TS cs ns os fs ls ks h;have hstep:∀(k:Nat) (l:Line),ls[k]?=some l->c.getD k 0≠cZ->∀d:Int,0<=d->d<fs.length->0<=at2 (aN (cs,ns,os,fs,ls,ks) c) (lTo l) d->0<=at2 (aN (cs,ns,os,fs,ls,ks) c) (aY l) d/\at2 (aN (cs,ns,os,fs,ls,ks) c) (aY l) d<=c.getD k 0+at2 (aN (cs,ns,os,fs,ls,ks) c) (lTo l) d:=λk l hk hc d d0 d1 hb=>by
  obtain⟨⟨f0,f1⟩,t0,t1⟩:=cp.ends k l hk;have hlt:k<ls.length:=(qF.1 hk).1;have hcb:=h.2.2 k (by omega) (by omega)
  rw[qW]at hcb;have hcb:0<c.getD k 0/\c.getD k 0<=1000000:=by
   rcases hcb with g | g
   .exact(hc g).elim
   .exact g
  obtain⟨k',hw,hz⟩:=hW t0 t1 d0 d1 hb;have ea:at2 (bq (cs,ns,os,fs,ls,ks) c) (aY l) (lTo l)=d6 ls c (ls.length:Int).toNat (aY l) (lTo l):=gU cs ns os fs ls ks c _ f0 f1 t0 t1;have hge1:=By (ls:=ls) (c:=c) (l:=l) (ls.length:Int).toNat k (by omega) hk hc
  have h1:W (bq (cs,ns,os,fs,ls,ks) c) fs.length fs.length 1 (aY l) (lTo l) (-(c.getD k 0)):=W.one ⟨f0,f1⟩ ⟨t0,t1⟩ (Mp.le_iff.2 ⟨by rw[ea];omega,by rw[ea];exact hge1⟩)
  have h2:=h1.trans' hw;have hfin:-549755813888 < -(c.getD k 0)+-(at2 (aN (cs,ns,os,fs,ls,ks) c) (lTo l) d):=by
   obtain⟨k2,q1,q2⟩:=hw.short;have:=q2.2;obtain⟨q3,q4⟩:=q2;have hlow:=(Mp.Xr hm (by omega) hB hN).el (lTo l) d t0 t1 d0 d1 (by
    rcases hsg (lTo l) d t0 t1 d0 d1 with⟨g1,g2⟩ | ⟨g1,_⟩
    .omega
    .rw[<- e2];exact g1)
   rcases hsg (lTo l) d t0 t1 d0 d1 with⟨g1,g2⟩ | ⟨g1,g2,g3⟩
   .omega
   .rw[<- e2]at hlow;omega
  obtain⟨r1,r2⟩:=hge f0 f1 d0 d1 hfin h2;exact⟨r1,by omega⟩
 refine⟨⟨λo d o0 o1 d0 d1=>?_,λo o0 o1=>?_,hstep,λo d o0 o1 d0 d1 hne hb=>?_⟩,e1,λo d o0 o1 d0 d1=>?_,by rw[e2,<- hm.sq.len];exact Mp.iL _ _⟩
 .show -1<=at2 (aN (cs,ns,os,fs,ls,ks) c) o d;rcases hsg o d o0 o1 d0 d1 with⟨g1,g2⟩ | ⟨g1,g2,g3⟩<;>omega
 .show at2 (aN (cs,ns,os,fs,ls,ks) c) o o=0;have:=hge o0 o1 o0 o1 (by omega) (W.zero (m:=bq (cs,ns,os,fs,ls,ks) c) (n:=fs.length) (t:=fs.length) ⟨o0,o1⟩ (qL 0))
  omega
 .have hb:0<=at2 (aN (cs,ns,os,fs,ls,ks) c) o d:=hb;obtain⟨k,hw,hz⟩:=hW o0 o1 d0 d1 hb;obtain⟨p,p1,p2,p3,p4,p5⟩:=hw
  match k,p2,p3,p4,p5 with
  | 0,p2,_,_,_=>exact(hne (by rw[<- p1,<- p2])).elim
  | k+1,p2,p3,p4,p5=>
   rw[show k+1=1+k by omega]at p5
   obtain⟨u,v,q1,q2,q3⟩:=PW.split 1 k p5;obtain⟨u',v',q4,q5,q6⟩:=q1;have q4:u'<=0:=q4;have q5:Mp.le v' (at2 (bq (cs,ns,os,fs,ls,ks) c) (p 0) (p 1)):=q5;rw[p1]at q5;obtain⟨x0,x1⟩:=p3 1 (by omega)
   have ea:at2 (bq (cs,ns,os,fs,ls,ks) c) o (p 1)=d6 ls c (ls.length:Int).toNat o (p 1):=gU cs ns os fs ls ks c _ o0 o1 x0 x1;rw[ea]at q5;have hfin:=Mp.gV.1 q5.1;rcases td (ls:=ls) (c:=c) (o:=o) (d:=p 1) (ls.length:Int).toNat (by omega)with g | ⟨k',l,g1,g2,g3,g4,g5⟩
   .rw[g]at hfin;unfold cZ at hfin;omega
   .have hw2:W (bq (cs,ns,os,fs,ls,ks) c) fs.length fs.length k (p 1) d v:=⟨λt=>p (1+t),rfl,by show p (1+k)=d;rw[show 1+k=k+1 by omega];exact p2,λs hs=>p3 _ (by omega),λs s1 s2=>(p3 _ (by omega)).2,q2⟩
    have q8:=q5.2;have cpos:=cp.pos k' l g1 g2;obtain⟨r1,r2⟩:=hge x0 x1 d0 d1 (by omega) hw2
    refine⟨k',l,g1,g2,g3,?_,?_⟩
    .show 0<=at2 (aN (cs,ns,os,fs,ls,ks) c) (lTo l) d;rw[g4];exact r1
    .obtain⟨s1,s2⟩:=hstep k' l g1 g2 d d0 d1 (by rw[g4];exact r1)
     rw[g3]at s2;show at2 (aN (cs,ns,os,fs,ls,ks) c) o d=_;rw[g4]at s2 ⊢;omega
 .rcases hsg o d o0 o1 d0 d1 with⟨g1,g2⟩ | ⟨g1,g2,g3⟩
  .rw[if_pos (by omega)];exact g1
  .rw[if_neg (by omega)];omega
end Go.Eng.Sv
/-
 DERIVED: THE SHELF's CONTRACTS AT THIS DUMP,IN PLAIN WORDS (tools/lay-plain.mjs out of 'TryzLines.lean',which tools/lay-shelf.mjs wrote): THE SAME DECLARATIONS UNDER THE SAME NAMES: 'import','namespace','open','def','theorem' AND NOTHING ELSE: no command of the shelf's: FOR A HAND-IN. Each laying: the table of numbers ('.._ren') and one theorem,a field a fact of the dump's own or the kernel's comparison;each contract: ONE APPLICATION.
-/
namespace Go.Proofs
open Go.Shelf
def Tryz.keysA_ren:Go.Shelf.Ren:=⟨fun | 7=>112 | 10=>172 | n=>n,fun | 23=>165 | 26=>3 | 3=>4 | 28=>138 | 0=>0 | 27=>137 | 33=>143 | 4=>4 | n=>n,fun | n=>n⟩
theorem Tryz.keysA:Go.Proofs.SlLaysZI.n7 Tryz.prog Tryz.keysA_ren:={
 mixed:=by kernel_rfl
 f7:=⟨Tryz.f112.name,by decide,Tryz.func112.trans (congrArg some (by kernel_rfl))⟩
 f10:=⟨Tryz.f172.name,by decide,Tryz.func172.trans (congrArg some (by kernel_rfl))⟩
 t0:=Tryz.underlying0
 a0:=Tryz.isAgg0
 z0:=Tryz.sizeOf0
 v0:=Tryz.zeroValue0
 t4:=Tryz.underlying4
 a4:=Tryz.isAgg4
 z4:=Tryz.sizeOf4
 v4:=Tryz.zeroValue4
 t23:=Tryz.underlying165
 a23:=Tryz.isAgg165
 z23:=Tryz.sizeOf165
 v23:=Tryz.zeroValue165
 t26:=Tryz.underlying3
 a26:=Tryz.isAgg3
 z26:=Tryz.sizeOf3
 v26:=Tryz.zeroValue3
 t27:=Tryz.underlying137
 a27:=Tryz.isAgg137
 z27:=Tryz.sizeOf137
 v27:=Tryz.zeroValue137
 t28:=Tryz.underlying138
 a28:=Tryz.isAgg138
 z28:=Tryz.sizeOf138
 v28:=Tryz.zeroValue138
 t33:=Tryz.underlying143
 a33:=Tryz.isAgg143
 z33:=Tryz.sizeOf143
 v33:=Tryz.zeroValue143}
def Tryz.sortedA_ren:Go.Shelf.Ren:=⟨fun | 6=>111 | 8=>170 | 9=>171 | 11=>223 | 13=>225 | 12=>224 | 23=>276 | 24=>277 | 14=>268 | 15=>269 | 16=>270 | 17=>271 | 18=>272 | 19=>273 | 20=>258 | 21=>274 | 22=>275 | 25=>291 | 26=>292 | 27=>293 | 28=>294 | 29=>295 | 30=>287 | 31=>302 | n=>n,fun | 26=>3 | 28=>138 | 24=>36 | 0=>0 | 3=>3 | 37=>228 | 48=>255 | 50=>257 | 4=>4 | 40=>249 | 39=>248 | 45=>217 | 5=>5 | 9=>9 | 51=>260 | 55=>264 | 57=>266 | 58=>153 | 33=>143 | n=>n,fun | n=>n⟩
theorem Tryz.sortedA:Go.Proofs.SlLaysZI.n6 Tryz.prog Tryz.sortedA_ren:={
 mixed:=by kernel_rfl
 f6:=⟨Tryz.f111.name,by decide,Tryz.func111.trans (congrArg some (by kernel_rfl))⟩
 f8:=⟨Tryz.f170.name,by decide,Tryz.func170.trans (congrArg some (by kernel_rfl))⟩
 f11:=⟨Tryz.f223.name,by decide,Tryz.func223.trans (congrArg some (by kernel_rfl))⟩
 t0:=Tryz.underlying0
 a0:=Tryz.isAgg0
 z0:=Tryz.sizeOf0
 v0:=Tryz.zeroValue0
 t24:=Tryz.underlying36
 a24:=Tryz.isAgg36
 z24:=Tryz.sizeOf36
 v24:=Tryz.zeroValue36
 t26:=Tryz.underlying3
 a26:=Tryz.isAgg3
 z26:=Tryz.sizeOf3
 v26:=Tryz.zeroValue3
 t28:=Tryz.underlying138
 a28:=Tryz.isAgg138
 z28:=Tryz.sizeOf138
 v28:=Tryz.zeroValue138
 i26:=by kernel_rfl}
def Tryz.sortA_ren:Go.Shelf.Ren:=⟨fun | 5=>171 | 8=>225 | 7=>224 | 19=>276 | 20=>277 | 10=>268 | 11=>269 | 12=>270 | 13=>271 | 14=>272 | 15=>273 | 16=>258 | 17=>274 | 18=>275 | 30=>291 | 31=>292 | 32=>293 | 33=>294 | 34=>295 | 35=>287 | 40=>302 | n=>n,fun | 23=>36 | 25=>3 | 3=>3 | 32=>228 | 22=>36 | 0=>0 | 44=>255 | 46=>257 | 4=>4 | 36=>249 | 35=>248 | 41=>217 | 5=>5 | 9=>9 | 53=>260 | 57=>264 | 63=>266 | 64=>153 | n=>n,fun | n=>n⟩
theorem Tryz.sortA:Go.Proofs.SlLaysM.n5 Tryz.prog Tryz.sortA_ren:={
 mixed:=by kernel_rfl
 f5:=⟨Tryz.f171.name,by decide,Tryz.func171.trans (congrArg some (by kernel_rfl))⟩
 f7:=⟨Tryz.f224.name,by decide,Tryz.func224.trans (congrArg some (by kernel_rfl))⟩
 f8:=Tryz.func225.trans (congrArg some (by kernel_rfl))
 f10:=⟨Tryz.f268.name,by decide,Tryz.func268.trans (congrArg some (by kernel_rfl))⟩
 f11:=⟨Tryz.f269.name,by decide,Tryz.func269.trans (congrArg some (by kernel_rfl))⟩
 f12:=⟨Tryz.f270.name,by decide,Tryz.func270.trans (congrArg some (by kernel_rfl))⟩
 f13:=⟨Tryz.f271.name,by decide,Tryz.func271.trans (congrArg some (by kernel_rfl))⟩
 f14:=⟨Tryz.f272.name,by decide,Tryz.func272.trans (congrArg some (by kernel_rfl))⟩
 f15:=⟨Tryz.f273.name,by decide,Tryz.func273.trans (congrArg some (by kernel_rfl))⟩
 f16:=⟨Tryz.f258.name,by decide,Tryz.func258.trans (congrArg some (by kernel_rfl))⟩
 f17:=⟨Tryz.f274.name,by decide,Tryz.func274.trans (congrArg some (by kernel_rfl))⟩
 f18:=⟨Tryz.f275.name,by decide,Tryz.func275.trans (congrArg some (by kernel_rfl))⟩
 f19:=Tryz.func276.trans (congrArg some (by kernel_rfl))
 f20:=Tryz.func277.trans (congrArg some (by kernel_rfl))
 f30:=⟨Tryz.f291.name,by decide,Tryz.func291.trans (congrArg some (by kernel_rfl))⟩
 f31:=Tryz.func292.trans (congrArg some (by kernel_rfl))
 f32:=Tryz.func293.trans (congrArg some (by kernel_rfl))
 f33:=⟨Tryz.f294.name,by decide,Tryz.func294.trans (congrArg some (by kernel_rfl))⟩
 f34:=⟨Tryz.f295.name,by decide,Tryz.func295.trans (congrArg some (by kernel_rfl))⟩
 f35:=⟨Tryz.f287.name,by decide,Tryz.func287.trans (congrArg some (by kernel_rfl))⟩
 f40:=⟨Tryz.f302.name,by decide,Tryz.func302.trans (congrArg some (by kernel_rfl))⟩
 t0:=Tryz.underlying0
 a0:=Tryz.isAgg0
 z0:=Tryz.sizeOf0
 v0:=Tryz.zeroValue0
 t3:=Tryz.underlying3
 a3:=Tryz.isAgg3
 z3:=Tryz.sizeOf3
 v3:=Tryz.zeroValue3
 t4:=Tryz.underlying4
 a4:=Tryz.isAgg4
 z4:=Tryz.sizeOf4
 v4:=Tryz.zeroValue4
 t5:=Tryz.underlying5
 a5:=Tryz.isAgg5
 z5:=Tryz.sizeOf5
 v5:=Tryz.zeroValue5
 t9:=Tryz.underlying9
 a9:=Tryz.isAgg9
 z9:=Tryz.sizeOf9
 v9:=Tryz.zeroValue9
 t22:=Tryz.underlying36
 a22:=Tryz.isAgg36
 z22:=Tryz.sizeOf36
 v22:=Tryz.zeroValue36
 t23:=Tryz.underlying36
 a23:=Tryz.isAgg36
 z23:=Tryz.sizeOf36
 v23:=Tryz.zeroValue36
 t25:=Tryz.underlying3
 a25:=Tryz.isAgg3
 z25:=Tryz.sizeOf3
 v25:=Tryz.zeroValue3
 t32:=Tryz.underlying228
 a32:=Tryz.isAgg228
 z32:=Tryz.sizeOf228
 v32:=Tryz.zeroValue228
 t35:=Tryz.underlying248
 a35:=Tryz.isAgg248
 z35:=Tryz.sizeOf248
 v35:=Tryz.zeroValue248
 t36:=Tryz.underlying249
 a36:=Tryz.isAgg249
 z36:=Tryz.sizeOf249
 v36:=Tryz.zeroValue249
 t41:=Tryz.underlying217
 a41:=Tryz.isAgg217
 z41:=Tryz.sizeOf217
 v41:=Tryz.zeroValue217
 t44:=Tryz.underlying255
 a44:=Tryz.isAgg255
 z44:=Tryz.sizeOf255
 v44:=Tryz.zeroValue255
 t46:=Tryz.underlying257
 a46:=Tryz.isAgg257
 z46:=Tryz.sizeOf257
 v46:=Tryz.zeroValue257
 t53:=Tryz.underlying260
 a53:=Tryz.isAgg260
 z53:=Tryz.sizeOf260
 v53:=Tryz.zeroValue260
 t57:=Tryz.underlying264
 a57:=Tryz.isAgg264
 z57:=Tryz.sizeOf264
 v57:=Tryz.zeroValue264
 t63:=Tryz.underlying266
 a63:=Tryz.isAgg266
 z63:=Tryz.sizeOf266
 v63:=Tryz.zeroValue266
 t64:=Tryz.underlying153
 a64:=Tryz.isAgg153
 z64:=Tryz.sizeOf153
 v64:=Tryz.zeroValue153}
end Go.Proofs
namespace Go.Proofs
open Go.RowKit Go.Maps Go.Sort Go.Shelf
attribute [local go_sem] Oper.semAt_some
abbrev CoI:={x:Int // (Lit.int .i64 x).wf=true}
def aBj(zs:List Int)(hw:∀j:Nat,(Lit.int .i64 (zs[j]?.getD 0)).wf=true)(j:Nat): CoI:=⟨zs[j]?.getD 0,hw j⟩
def mO(zs:List Int)(hw:∀j:Nat,(Lit.int .i64 (zs[j]?.getD 0)).wf=true)(o k:Nat): List CoI:=((List.range k).filter λj=>decide (j≠o)).map (aBj zs hw)
theorem HM(zs:List Int)(hw:∀j:Nat,(Lit.int .i64 (zs[j]?.getD 0)).wf=true)(o k:Nat): (mO zs hw o k).length<=k:=by
 unfold mO;rw[List.length_map];exact Nat.le_trans (List.length_filter_le _ _) (by rw[List.length_range];exact Nat.le_refl _)
theorem HN{zs:List Int}{hw:∀j:Nat,(Lit.int .i64 (zs[j]?.getD 0)).wf=true}{o k:Nat}(h:k≠o): mO zs hw o (k+1)=mO zs hw o k++[aBj zs hw k]:=by
 unfold mO;rw[List.range_succ,List.filter_append,List.map_append,List.filter_cons,if_pos (by simp[h])]
 rfl
theorem Ox{zs:List Int}{hw:∀j:Nat,(Lit.int .i64 (zs[j]?.getD 0)).wf=true}{o k:Nat}(h:k=o): mO zs hw o (k+1)=mO zs hw o k:=by
 unfold mO;rw[List.range_succ,List.filter_append,List.map_append,List.filter_cons,if_neg (by simp[h])]
 exact List.append_nil _
theorem YD{zs:List Int}{hw:∀j:Nat,(Lit.int .i64 (zs[j]?.getD 0)).wf=true}{o k:Nat}(h:k<zs.length)(ho:k≠o): (mO zs hw o k).length<(mO zs hw o zs.length).length:=by
 have e:zs.length=k+1+(zs.length-(k+1)):=by omega
 have:mO zs hw o (k+1) <+: mO zs hw o zs.length:=by
  have g:∀m:Nat,mO zs hw o (k+1) <+: mO zs hw o (k+1+m):=λm=>by
   unfold mO;rw[List.range_add (n:=k+1),List.filter_append,List.map_append];exact List.prefix_append _ _
  rw[e];exact g _
 have:=this.length_le;rw[HN ho,List.length_append]at this;simp at this;omega
def uL(n₀:Nat)(W:World)(B1 B2 o:Nat)(zs:List Int): Prop:=
 B1<n₀/\B2<n₀/\W.cell? ⟨B2,0,none⟩=some (.int .i64 o)/\∃(b1 o1 n1 c1:Nat) (a2:Option Addr) (c2:Nat),W.cell? ⟨B1,2,none⟩=some (.slice (some ⟨b1,o1,none⟩) n1 c1)/\o<n1/\b1<n₀/\
  W.cell? ⟨b1,o1+o,none⟩=some (.slice a2 zs.length c2)/\(zs.length=0\/∃b2 o2,a2=some ⟨b2,o2,none⟩/\b2<n₀/\∀j,j<zs.length->W.cell? ⟨b2,o2+j,none⟩=some (.int .i64 (zs[j]?.getD 0)))
theorem uL.below {n₀:Nat} {A B:World} (h:Below n₀ A B) {B1 B2 o:Nat} {zs:List Int}:uL n₀ A B1 B2 o zs->uL n₀ B B1 B2 o zs:=by
 rintro⟨h1,h2,h3,b1,o1,n1,c1,a2,c2,h4,h5,h6,h7,h8⟩;refine⟨h1,h2,(h.cell (p:=⟨B2,0,none⟩) h2).trans h3,b1,o1,n1,c1,a2,c2,(h.cell (p:=⟨B1,2,none⟩) h1).trans h4,h5,h6,(h.cell (p:=⟨b1,o1+o,none⟩) h6).trans h7,?_⟩;rcases h8 with h8 | ⟨b2,o2,h8,h9,h10⟩
 .exact .inl h8
 .exact .inr ⟨b2,o2,h8,h9,λj hj=>(h.cell (p:=⟨b2,o2+j,none⟩) h9).trans (h10 j hj)⟩
theorem uL.mono {n₀ n₁:Nat} (h:n₀<=n₁) {W:World} {B1 B2 o:Nat} {zs:List Int}:uL n₀ W B1 B2 o zs->uL n₁ W B1 B2 o zs:=by
 rintro⟨h1,h2,h3,b1,o1,n1,c1,a2,c2,h4,h5,h6,h7,h8⟩;refine⟨by omega,by omega,h3,b1,o1,n1,c1,a2,c2,h4,h5,by omega,h7,?_⟩
 rcases h8 with h8 | ⟨b2,o2,h8,h9,h10⟩
 .exact .inl h8
 .exact .inr ⟨b2,o2,h8,by omega,h10⟩
set_option maxRecDepth 100000 in
set_option maxHeartbeats 4000000 in
theorem T9(n:Nat)(hn:1<=n)(l B1 B2 o n₀:Nat)(zs:List Int)(hw:∀j:Nat,(Lit.int .i64 (zs[j]?.getD 0)).wf=true)(hreach:zs.length<=1000000)(J Jx:List CoI->World->Prop)
  (hY:∀pre x W,J pre W->pre.length<(mO zs hw o zs.length).length->YieldAt Fence.wide (n-1) Tryz.prog l #[.int .i64 x.1] W λe W' =>
   (e=.returned (.bool true)/\J (pre++[x]) W'/\Below n₀ W W')\/(e=.returned (.bool false)/\Jx (pre++[x]) W'))
  (W:World) (hR:uL n₀ W B1 B2 o zs) (h0:J [] W):
  CallsIn Fence.wide n Tryz.prog 110 #[.func (.yield l) #[] #[],.pointer (some ⟨B1,0,none⟩),.pointer (some ⟨B2,0,none⟩)] W λe W'=>(∃v,e=.returned v)/\
   ((∃ys,ys=mO zs hw o zs.length/\J ys W')\/(∃pre,True/\Jx pre W')):=by
 obtain⟨h1,h2,hO,b1,o1,n1,c1,a2,c2,hN,hon,hb1,hS,hZ⟩:=hR;refine callsIn_of_wp Tryz.func110 rfl trivial ?_ rfl;simp only[Tryz.ntmps110,List.size_toArray,List.length_cons,List.length_nil,Nat.reduceAdd,Nat.reduceSub,Array.replicate_succ,Array.replicate_zero,List.push_toArray,List.append_toArray,List.nil_append,List.cons_append];have ho63:(o:Int)<n1:=by omega
 gi_wp2
 gi_loopw [12] (λi wr=>∃k:Nat,k<=zs.length/\i=.int .i64 k/\J (mO zs hw o k) wr/\Below n₀ W wr)
  (λi _=>zs.length-(intOf i).toNat)
 case atStart=>exact⟨0,Nat.zero_le _,rfl,h0,Below.refl _ _⟩
 case round=>
  obtain⟨k,hk,rfl,hJs,hnx⟩:=hrel;by_cases hlt:k<zs.length
  .rcases hZ with hZ | ⟨b2,o2,rfl,hb2,hZ⟩
   .omega
   have hcx':wr.cell? ⟨b2,o2+k,none⟩=some (.int .i64 (zs[k]?.getD 0)):=(hnx.cell (p:=⟨b2,o2+k,none⟩) hb2).trans (hZ k hlt);have hO':wr.cell? ⟨B2,0,none⟩=some (.int .i64 o):=(hnx.cell (p:=⟨B2,0,none⟩) h2).trans hO;by_cases hko:k=o
   .subst hko
    gi_wp2
    refine⟨λ_ h=>(by cases h),?_⟩
    gi_wp2
    go_roundw
    case rel=>exact⟨k+1,by omega,by simp,by rw[Ox rfl];exact hJs,hnx⟩
    case measure=>simp[intOf];omega
   .obtain⟨fn,tmps,assign,body,hy,hR⟩:=hY _ (aBj zs hw k) wr hJs (YD hlt hko);dsimp only[aBj]at hy;generalize hx:zs[k]?.getD 0=x at hcx' hy;have hne:((k:Int) != (o:Int))=true:=by rw[bne_iff_ne];omega
    gi_wp2
    refine hR.mono ?_;rintro e W3 (⟨rfl,hJ3,hk3⟩ | ⟨rfl,hJx3⟩)
    .gi_wp2
     go_roundw
     case rel=>exact⟨k+1,by omega,by simp,by rw[HN hko];exact hJ3,hnx.trans hk3⟩
     case measure=>simp[intOf];omega
    .gi_wp2
     refine bodyPost_ret (results_none rfl _ _ _) rfl ?_;exact⟨⟨_,rfl⟩,.inr ⟨_,trivial,hJx3⟩⟩
  .obtain rfl:k=zs.length:=by omega
   gi_wp2
   go_end0
   exact⟨⟨_,rfl⟩,.inl ⟨_,rfl,hJs⟩⟩
theorem T8(n:Nat)(hn:1<=n)(B1 B2 o n₀:Nat)(zs:List Int)(hw:∀j:Nat,(Lit.int .i64 (zs[j]?.getD 0)).wf=true)(hreach:zs.length<=1000000)(w:World)(hn₀:n₀<=w.heap.size)(hR:uL n₀ w B1 B2 o zs):
  SeqStopsK Fence.wide n Tryz.prog 110 #[.pointer (some ⟨B1,0,none⟩),.pointer (some ⟨B2,0,none⟩)] (λx:CoI=>#[Value.int .i64 x.1]) (Below n₀) (λys=>ys=mO zs hw o zs.length) (λ_=>True) (mO zs hw o zs.length).length w:=λl J Jx W hW _ _ hY h0=>
 T9 n hn l B1 B2 o n₀ zs hw hreach J Jx hY W (hR.below (hW.mono hn₀)) h0
set_option maxHeartbeats 1000000 in
theorem YC(n:Nat)(x:Int)(w:World): CallsIn Fence.wide n Tryz.prog 114 #[.int .i64 x] w λe w'=>e=.returned (.bool (x != -1))/\w'=w:=by
 refine callsIn_of_wp Tryz.func114 rfl trivial ?_ rfl;simp only[Tryz.ntmps114,List.size_toArray,List.length_cons,List.length_nil,Nat.reduceAdd,Nat.reduceSub,Array.replicate_succ,Array.replicate_zero,List.push_toArray,List.append_toArray,List.nil_append,List.cons_append]
 gi_wp2
 go_ret
 exact⟨rfl,rfl⟩
theorem cell_of_box_c{W:World}{B:Nat}{v:Value}{t:TypeId}(h:W.heap[B]?=some (.cells #[v] t (0,0))): W.cell? ⟨B,0,none⟩=some v/\W.frozen? ⟨B,0,none⟩=false:=by
 constructor<;>simp[World.cell?,World.frozen?,h]
theorem cell_new_c(W:World)(v:Value)(t:TypeId): (W.alloc (.cells #[v] t)).cell? ⟨W.heap.size,0,none⟩=some v/\(W.alloc (.cells #[v] t)).frozen? ⟨W.heap.size,0,none⟩=false:=
 cell_of_box_c (World.alloc_heap_new W _)
theorem cell_alloc_c{W:World}{a:Addr}{v:Value}(o:Obj)(h:W.cell? a=some v): (W.alloc o).cell? a=some v:=cell_kept h (World.grownBy_alloc W o none) (λr e=>by cases e)
def coD(xs:List CoI): DataW Unit:=xs.foldl (λD x=>if x.1=-1 then D else D.put (.int .i64 x.1) (.lit (.bool true))) (.map [])
theorem HQ(pre:List CoI)(x:CoI): coD (pre++[x])=if x.1=-1 then coD pre else(coD pre).put (.int .i64 x.1) (.lit (.bool true)):=by simp[coD]
set_option maxRecDepth 100000 in
set_option maxHeartbeats 4000000 in
theorem JE(n:Nat)(hn:3<=n)(B1 B2 o:Nat)(zs:List Int)(hw:∀j:Nat,(Lit.int .i64 (zs[j]?.getD 0)).wf=true)(hreach:zs.length<=1000000)(w:World)(hR:uL w.heap.size w B1 B2 o zs):
  CallsIn Fence.wide n Tryz.prog 113 #[.func (.func 110) #[] #[.pointer (some ⟨B1,0,none⟩),.pointer (some ⟨B2,0,none⟩)],.func (.func 114) #[] #[]] w λe W'=>e=.returned (.map (some (w.heap.size+1)))/\
   W'.ownsMap Tryz.prog 3 (plainElem (H:=Unit) Tryz.prog 4) (w.heap.size+1) (mO zs hw o zs.length).length (coD (mO zs hw o zs.length))/\Below w.heap.size w W':=by
 have h1:1<=n:=by omega
 have hmm:=@run_makeMap Tryz.prog;refine callsIn_of_wp_marks Tryz.func113 rfl trivial ?_ rfl;simp only[Tryz.ntmps113,List.size_toArray,List.length_cons,List.length_nil,Nat.reduceAdd,Nat.reduceSub,Array.replicate_succ,Array.replicate_zero,List.push_toArray,List.append_toArray,List.nil_append,List.cons_append]
 gi_wp2
 have cG:=cell_new_c w (.func (.func 114) #[] #[]) 143;have hm0:=World.ownsMap_made (w.alloc (.cells #[.func (.func 114) #[] #[]] 143)) Tryz.prog 3 (plainElem (H:=Unit) Tryz.prog 4);have cS:=cell_new_c ((w.alloc (.cells #[.func (.func 114) #[] #[]] 143)).alloc (.map #[] 0)) (.map (some (w.heap.size+1))) 165;simp only[World.size_alloc]at cS hm0
 have hB0:Below w.heap.size w (((w.alloc (.cells #[.func (.func 114) #[] #[]] 143)).alloc (.map #[] 0)).alloc (.cells #[.map (some (w.heap.size+1))] 165)):=(((Below.refl _ w).alloc (Nat.le_refl _) _).alloc (by simp) _).alloc (by simp;omega) _
 refine wpIn_rangeFunc_ownG rfl h1 (gf:=110) (lb:=#[.pointer (some ⟨B1,0,none⟩),.pointer (some ⟨B2,0,none⟩)]) rfl trivial (enters_of Tryz.func110 (by kernel_rfl) rfl)
  (T8 (n-1) (by omega) B1 B2 o w.heap.size zs hw hreach _ (by simp;omega) (hR.below hB0)) belowK_t (belowK_b (by simp;omega)) (Below.refl _ _) (λ_=>rfl)
  (λpre W=>(W.cell? ⟨w.heap.size,0,none⟩=some (.func (.func 114) #[] #[])/\W.cell? ⟨w.heap.size+1+1,0,none⟩=some (.map (some (w.heap.size+1)))/\W.ownsMap Tryz.prog 3 (plainElem (H:=Unit) Tryz.prog 4) (w.heap.size+1) pre.length (coD pre))/\Below w.heap.size w W)
  (λ_ _ _=>False)
  (OwnFrom.and (λs A B row hs hg hr=>⟨cell_kept hs.1 hg (λr e=>(hr r e).2),cell_kept hs.2.1 hg (λr e=>(hr r e).2),hs.2.2.kept hg (λe=>by have:=(hr _ e.symm).1;simp at this;omega)⟩) (ownFrom_below (Nat.le_refl _) (by simp;omega)))
  (λ_ _ _ _ _ hs _ _=>hs)
  ⟨⟨cell_alloc_c _ (cell_alloc_c _ cG.1),cS.1,hm0.alloc _⟩,hB0⟩
  (λx=>{tmps:=#[.func (.func 110) #[] #[.pointer (some ⟨B1,0,none⟩),.pointer (some ⟨B2,0,none⟩)],.func (.func 114) #[] #[],undef,.pointer (some ⟨w.heap.size,0,none⟩),.map none,.pointer (some ⟨w.heap.size+1+1,0,none⟩),.int .i64 x.1,.map (some (w.heap.size+1)),.func (.func 110) #[] #[.pointer (some ⟨B1,0,none⟩),.pointer (some ⟨B2,0,none⟩)],.int .i64 x.1,undef,undef,undef,undef,undef,undef],defers:=[]}) ?assign ?body ?done ?stop
 case assign=>
  intro l x W K hK
  gi_wp2
  exact hK
 case body=>
  rintro l pre x W ⟨⟨hg,hc,hown⟩,hB⟩ hlt;have hlen:=HM zs hw o zs.length;have hmax:pre.length<maxLen:=by unfold maxLen;omega
  gi_wp2
  refine⟨trivial,λ_=>by omega,(CallsIn.inRound l (YC _ x.1 _)).mono ?_⟩
  rintro e w' ⟨rfl,rfl⟩
  gi_wp2_with (gi_at_mapUpdate;refine wpListIn_mapUpdate_own _ rfl _ _ _ 165 rfl 3 4 (Maps.int_keyed Tryz.underlying3) Tryz.underlying165 _ (w.heap.size+1) pre.length _ rfl hown hmax _ _ _ rfl rfl (Maps.keyOf_int_mk Tryz.underlying3 x.2) _ [] (plainElem_bool Tryz.underlying4 true) ?_;intro w1 hown1 hgrow1)
  .have hx:x.1≠-1:=by rename_i h;simpa using h
   obtain⟨es,ck,hh,_⟩:=hown;refine⟨KeepsFrom.of_grownBy hgrow1 (λj e=>by cases e;simp),(Below.refl _ _).grown hgrow1 hB.size (λk e=>by cases e;omega),
    ⟨cell_kept hg hgrow1 (λr e=>by cases e;exact⟨_,hh,rfl⟩),cell_kept hc hgrow1 (λr e=>by cases e;exact⟨_,hh,rfl⟩),by rw[HQ,if_neg hx,List.length_append];exact hown1⟩,hB.grown hgrow1 hB.size (λk e=>by cases e;omega)⟩
  .have hx:x.1=-1:=by rename_i h;simpa using h
   exact⟨KeepsFrom.refl _ _,Below.refl _ _,⟨hg,hc,by rw[HQ,if_pos hx,List.length_append];exact hown.mono (Nat.le_add_right _ _)⟩,hB⟩
 case done=>
  rintro D ys W hD rfl ⟨⟨hg,hc,hown⟩,hB⟩ hK
  gi_wp2
  refine⟨by simp,.inl ⟨_,_,rfl,run_takeDeferred hK,?_⟩⟩
  exact⟨_,results_tmp rfl _ _ _,rfl,hown.kept (grownBy_putObj' _ D _) (λe=>by cases e;simp at hD;omega),hB.trans (belowK_b (w:=w) (Nat.le_refl _) W D _ _ (by simp at hD;omega) hK rfl rfl)⟩
 case stop=>
  rintro D c pre W _ _ h _;exact h.elim
theorem Tryz.sortsA (m:Nat):AnyZI.SortsIn Tryz.prog Tryz.sortedA_ren Fence.wide m:=
 ⟨λblk off cap ss W hH hblk hsz=>callsIn_wide.2 (AnyM.slices_Sort_int Tryz.sortA blk off cap ss W hH hblk hsz),
  λp cap W=>callsIn_wide.2 (AnyM.slices_Sort_int_none Tryz.sortA p cap W)⟩
theorem FP{y:Int}: ∀(xs:List CoI) (D:DataW Unit),IsMap D->(has (xs.foldl (λD x=>if x.1=-1 then D else D.put (.int .i64 x.1) (.lit (.bool true))) D) (.int .i64 y)=true↔has D (.int .i64 y)=true\/(y≠-1/\y∈xs.map Subtype.val))
 | [],D,_=>by simp
 | x::xs,D,hD=>by
  rw[List.foldl_cons];by_cases hx:x.1=-1
  .rw[if_pos hx,FP xs D hD,List.map_cons,List.mem_cons,hx];constructor
   .rintro(h | ⟨h,g⟩)
    .exact .inl h
    .exact .inr ⟨h,.inr g⟩
   .rintro(h | ⟨h,g | g⟩)
    .exact .inl h
    .exact absurd g h
    .exact .inr ⟨h,g⟩
  .rw[if_neg hx,FP xs _ (hD.put _ _),List.map_cons,List.mem_cons];by_cases hy:y=x.1
   .subst hy;rw[has_put_same hD (by simp[WideAt.IsKeyLit])]
    exact⟨λ_=>.inr ⟨hx,.inl rfl⟩,λ_=>.inl rfl⟩
   .rw[has_put_other (by simpa using hy)]
    constructor
    .rintro(h | ⟨h,g⟩)
     .exact .inl h
     .exact .inr ⟨h,.inr g⟩
    .rintro(h | ⟨h,g | g⟩)
     .exact .inl h
     .exact absurd g hy
     .exact .inr ⟨h,g⟩
set_option maxRecDepth 100000 in
set_option maxHeartbeats 4000000 in
theorem Ua(cs:Array Value)(o:Nat)(zs:List Int)(hw:∀j:Nat,(Lit.int .i64 (zs[j]?.getD 0)).wf=true)(hreach:zs.length<=1000000)(gs:List Int)(hgs:gs.Pairwise (· < ·))(hmem:∀y,y∈gs↔y≠-1/\y∈(mO zs hw o zs.length).map Subtype.val)(w:World)
  (hR:∀w1,w1=(w.alloc (.cells cs 35)).alloc (.cells #[.int .i64 o] 3)->uL w1.heap.size w1 w.heap.size (w.heap.size+1) o zs):
  Calls Tryz.prog 45 #[.agg cs,.int .i64 o] w λe w'=>∃(v:Value),e=.returned v/\
   w'.ownsRow w.heap.size 3 1 v gs.length (gs.map encZ)/\(v=.slice none 0 0↔gs=[])/\Below w.heap.size w w':=by
 refine(callsIn_wide (n:=6)).1 ?_;refine callsIn_of_wp Tryz.func45 rfl trivial ?_ rfl;simp only[Tryz.ntmps45,List.size_toArray,List.length_cons,List.length_nil,Nat.reduceAdd,Nat.reduceSub,Array.replicate_succ,Array.replicate_zero,List.push_toArray,List.append_toArray,List.nil_append,List.cons_append]
 gi_wp2
 obtain⟨w1,hw1⟩:∃w1,(w.alloc (.cells cs 35)).alloc (.cells #[.int .i64 o] 3)=w1:=⟨_,rfl⟩;have hR:=hR w1 hw1.symm;have hs1:w1.heap.size=w.heap.size+1+1:=by rw[<- hw1];simp
 have hB1:Below w.heap.size w w1:=by rw[<- hw1];exact((Below.refl _ w).alloc (Nat.le_refl _) _).alloc (by simp) _
 rw[hw1];refine⟨trivial,(JE 5 (by omega) w.heap.size (w.heap.size+1) o zs hw hreach w1 hR).mono ?_⟩
 rintro e w2 ⟨rfl,hown,hB2⟩;rw[hs1]at hB2 hown;have hcl:=HM zs hw o zs.length;have hmax:Maps.size (coD (mO zs hw o zs.length))<=maxLen:=Nat.le_trans hown.size_le (by unfold maxLen;omega)
 have hbytes:Maps.size (coD (mO zs hw o zs.length))*8<=140737488355328:=Nat.le_trans (Nat.mul_le_mul_right 8 hown.size_le) (by omega)
 have hbl:=hown.lt;have hseq:SeqGives Fence.wide 2 Tryz.prog 172 #[.pointer (some ⟨w2.heap.size,0,none⟩)] encZ (λss=>ss.Perm (intKeys (coD (mO zs hw o zs.length)))) (Maps.size (coD (mO zs hw o zs.length))) (w2.alloc (.cells #[.map (some (w.heap.size+1+1+1))] 165)):=
  AnyZI.keys_gives (ρ:=Tryz.keysA_ren) {Tryz.keysA with} Fence.wide _ trivial rfl (by omega) w2.heap.size (w.heap.size+1+1+1) (mO zs hw o zs.length).length (coD (mO zs hw o zs.length)) _ (by simp) (by simp) (by
   obtain⟨es,clock,hb,Ft,hs,hD⟩:=hown;exact⟨es,clock,(Below.heap_alloc _ _ _ hbl).trans hb,Ft,hs,hD⟩)
 have cK:∀mb W,CallsIn Fence.wide 5 Tryz.prog 112 #[.map mb] W λe w'=>e=.returned (.func (.func 172) #[] #[.pointer (some ⟨W.heap.size,0,none⟩)])/\w'=W.alloc (.cells #[.map mb] 165):=λmb W=>AnyZI.keys_in Tryz.keysA Fence.wide 5 trivial rfl mb W
 have cS:=AnyZI.sorted_in Tryz.sortedA Fence.wide 5 trivial trivial trivial trivial rfl (by omega) (Tryz.sortsA _) (enters_of Tryz.func171 (by kernel_rfl) rfl) 172 #[.pointer (some ⟨w2.heap.size,0,none⟩)] trivial (enters_of Tryz.func172 (by kernel_rfl) rfl) _ _ hmax hbytes _ hseq
 change CallsIn _ _ Tryz.prog 111 _ _ _ at cS
 have hfK:Fence.wide.fn 112:=trivial;have hfS:Fence.wide.fn 111:=trivial
 gi_wp2_with (first
  | (gi_at_call 112;refine(cK _ _).mono ?_;rintro e w' ⟨rfl,rfl⟩)
  | (gi_at_call 111;refine cS.mono ?_;rintro e w' ⟨v,ss,rfl,hS,hrow,hnil,hb⟩))
 go_ret
 have hP:gs.Perm (intKeys (coD (mO zs hw o zs.length))):=CollectedI.perm (left:=λ_=>false) ⟨hgs.imp (λh=>Int.ne_of_lt h),λx=>by
  rw[hmem x];unfold coD;rw[FP _ _ isMap_empty];exact⟨λh=>⟨.inr h,rfl⟩,λ⟨h,_⟩=>h.resolve_left (by simp[has_eq])⟩⟩ hown (Maps.int_keyed Tryz.underlying3) Tryz.underlying3 (λ_=>rfl)
 have hP:gs.Perm ss:=hP.trans hS.symm;have hM:ss.mergeSort (λx y=>decide (x<=y))=gs:=(mergeSort_of_perm_i hP.symm).trans (List.mergeSort_of_pairwise (hgs.imp (λh=>decide_eq_true (Int.le_of_lt h))))
 rw[hM]at hrow;have hl:=hP.length_eq;rw[<- hl]at hrow;have hB3:Below w.heap.size w w2:=hB1.trans (hB2.mono (by omega))
 have hs2:=hB3.size;refine⟨v,rfl,ownsRow_base_a hrow (by simp;omega),hnil.trans ⟨λh=>(by subst h;exact hP.eq_nil),λh=>(by subst h;exact hP.symm.eq_nil)⟩,(hB3.alloc (by omega) _).trans (hb.mono (by simp;omega))⟩
end Go.Proofs
set_option maxRecDepth 100000
noncomputable section
namespace Go.Eng.In
open Go.Proofs
abbrev I: Ty:=.int .i64
abbrev B: Ty:=.sl .bool
abbrev R: Ty:=.sl I
abbrev M: Ty:=.sl R
abbrev LC: Type:=List (Int×List Bool×Li)
abbrev LB: Type:=List ByteArray
abbrev C: Ty:=.pair I (.pair B R)
abbrev S: Ty:=.str
abbrev dj(t:TypeId)(e:Int): Value:=.iface t (.int .i64 e)
def big(x:Int): Prop:=-1000000000000<=x/\x<=1000000000000
def btw(x a b:Int): Bool:=decide (a<=x/\x<=b)
def aZ(z t:Int): Int:=(t+z)/1440
def cI(z t:Int): Int:=(t+z)%1440
def vt(z d m:Int): Int:=d*1440+m-z
def wkF(w:List Bool)(h:Li)(d:Int): Bool:=w.getD (d%7).toNat false&&!h.contains d
def JK(h:Li)(d:Int): Int:=((h.filter λx=>decide (x<d)).length:Int)
def srt(h:Li): Prop:=h.length<=1000000/\∀i j:Nat,i<j->j<h.length->h.getD i 0<h.getD j 0
def JL(h:Li)(d i j:Int): Prop:=0<=i/\i<=j/\j<=h.length/\(∀k:Nat,(k:Int)<i->h.getD k 0<d)/\∀k:Nat,j<=k->k<h.length->d<=h.getD k 0
def Cb(h:Li)(d:Int): Bool:=h.contains d
def dN(z:Int)(w:List Bool)(h:Li): Bool:=decide (-720<=z/\z<=840/\w.length=7/\h.length<=40)&&(List.range (h.length-1)).all λi=>decide (h.getD i 0<h.getD (i+1) 0)
def yl(h:Li)(k:Int): Prop:=1<=k/\(k<=h.length\/k=1)/\h.length<=40/\∀i:Nat,(i:Int)+1<k->h.getD i 0<h.getD (i+1) 0
def wkP(w:List Bool)(h:Li)(d:Int): Prop:=w.length=7/\srt h/\big d
def gw(w:List Bool)(h:Li)(a b:Int): Li:=((List.range (b+1-a).toNat).map λ(i:Nat)=>a+(i:Int)).filter λd=>wkF w h d
def fS(w:List Bool)(h:Li)(a d:Int): Nat:=(((List.range (d-a).toNat).map λ(i:Nat)=>a+(i:Int)).filter λd=>wkF w h d).length
def wdP(w:List Bool)(h:Li)(a b:Int): Prop:=w.length=7/\srt h/\big a/\big b
def Y4(a b d:Int): Prop:=a<=d/\(d<=b+1\/d=a)
def bN(xs:Li): Bool:=decide (0<xs.length)
def hd(xs:Li): Int:=xs.getD 0 0
def tl(xs:Li): Li:=xs.drop 1
def VE: Kt:=λf args m=>none
def dS: List (Nat×AV):=[]
def KI0: FuncId->List AV->Option i9:=λ_ _=>none
noncomputable def mkc(K:Kt): Cfg:=⟨Tryz.prog,dS,K,λ_=>false,KI0,false,λ_ _ _=>none,λ_=>false⟩
noncomputable def I5(K:Kt)(mb:Tmp->Bool)(KP:KPt)(pf:FuncId->Bool): Cfg:=⟨Tryz.prog,dS,K,mb,KI0,false,KP,pf⟩
def fH(s:St): St:={s with tm:=s.tm.map gN}
def QP(h:Li): Ann:=⟨λid s=>match id with
 | 4=>some {α:=Int,inv:=λk=>yl h k,st:=λk=>put s [(3,.dat I k)],μ:=λk=>Dc (Dj (Df h) k)}
 | _=>none,λ_ _=>none,λ_ _=>none⟩
def bsA(h:Li)(d:Int): Ann:=⟨λid s=>match id with
 | 3=>some {α:=Int×Int,inv:=λk=>JL h d k.1 k.2,st:=λk=>put s [(7,.dat I k.1),(8,.dat I k.2)],μ:=λk=>Dc (Dj k.2 k.1)}
 | _=>none,λ_ _=>none,λ_ _=>none⟩
theorem gH(x a b:Int)(hvc:
 let c1:=Ed x a->Ed x a->Ed x a;true/\(True->c1/\c1/\(Dh true (Ed x a)->Ed x a)/\Ea (Ed x a) (Eh x b) false=btw x a b/\True)):
  evF (mkc VE) az 148 [.dat I x,.dat I a,.dat I b] [] ⟨True,.dat .bool (btw x a b),[]⟩:=oE hvc
theorem V4(x:Int)(hvc:
 true/\(True->Dy x x=false/\True)):
  evF (mkc VE) az 290 [.dat I x] [] ⟨True,.dat .bool false,[]⟩:=oE hvc
theorem V1(x:Int)(hvc:
 true/\(True->Dy x x=false/\True)):
  evF (mkc VE) az 287 [.dat I x] [] ⟨True,.dat .bool false,[]⟩:=oE hvc
def aCn: Kt:=kOr 148 (ax [.val I,.val I,.val I] (λ_=>True) λ(x,a,b,_)=>.dat .bool (btw x a b)) <|
 kOr 290 (ax [.val I] (λ_=>True) λ_=>.dat .bool false) <|
 kOr 287 (ax [.val I] (λ_=>True) λ_=>.dat .bool false) VE
theorem KA(x y:Int)(hvc:
 let c3:=false->false->false;let c1:=Ea false (Di false) false;let c2:=Di c1;true/\(True->True/\c3/\(false->True)/\c3/\(Dh true false->false)/\(c2->c2->c2)/\(c2->c2->c2)/\(Dh true c2->c2)/\Ea c1 true (Dp x y)=Dp x y/\True)):
  evF (mkc aCn) az 258 [.dat I x,.dat I y] [] ⟨True,.dat .bool (Dp x y),[]⟩:=oE hvc
def aCm: Kt:=kOr 258 (ax [.val I,.val I] (λ_=>True) λ(x,y,_)=>.dat .bool (Dp x y)) aCn
theorem aCz(h:Li)(d:Int)(hvc:
 true/\(srt h->(∃(x:Int×Int),JL h d x.1 x.2/\h=h/\d=d/\(0:Int)=(0:Int)/\false=false/\Df h=Df h/\0=x.1/\Df h=x.2/\True)/\∀(x:Int×Int),let c1:=Dp x.1 x.2;let c2:=x.1+x.2;let c3:=Gi c2 1;let c4:=Dp (Du h (Dc c3) 0) d;let c5:=c3+1;let aO:=Dp x.1 (Df h);let c7:=Eb (Du h (Dc x.1) 0) d;let c8:=Dh aO (Di c7);JL h d x.1 x.2->(c1->inR .i64 c2/\inR IntKind.u64 c2/\Dl 0 1/\Dc 1<=(64)/\inR .i64 c3/\0<=c3/\c3<Df h/\True/\(c4->inR .i64 c5/\∃(y:Int×Int),JL h d y.1 y.2/\(h=h/\d=d/\(0:Int)=(0:Int)/\false=false/\Df h=Df h/\c5=y.1/\x.2=y.2/\True)/\Dc (y.2-y.1)<Dc (x.2-x.1))/\(c4=false->∃(y:Int×Int),JL h d y.1 y.2/\(h=h/\d=d/\(0:Int)=(0:Int)/\false=false/\Df h=Df h/\x.1=y.1/\c3=y.2/\True)/\Dc (y.2-y.1)<Dc (x.2-x.1)))/\(c1=false->(aO->aO->aO)/\(aO->aO->aO)/\(aO->0<=x.1)/\(aO->x.1<Df h)/\(aO->aO->aO)/\(aO->aO->aO)/\(aO->aO->aO)/\(aO->aO->aO)/\(c8->c8->c8)/\(c8->c8->c8)/\(c8->0<=x.1)/\(c8->x.1<Df h)/\(c8->c8->c8)/\(c8->c8->c8)/\(c8->True)/\(c8->c8->c8)/\(Dh c8 false->Dh c8 false->Dh c8 false)/\(Dh c8 false->True)/\(c8->c8->c8)/\(c8->Dh c8 false->Dh c8 false)/\(aO->aO->aO)/\(aO->c8->c8)/\(Dh true aO->aO)/\x.1=JK h d/\Ea aO (Ea c7 true (Ea false false false)) false=Cb h d/\True))):
  evF (mkc aCm) (lvA [(3,[0,1,4,5,6,7,8,9])] (bsA h d)) 264 [.dat R h,.dat I d] [] ⟨srt h,.tup [.dat I (JK h d),.dat .bool (Cb h d)],[]⟩:=oE hvc
def CX: Kt:=kOr 264 (ax [.val R,.val I] (λ(h,_,_)=>srt h) λ(h,d,_)=>.tup [.dat I (JK h d),.dat .bool (Cb h d)]) aCm
theorem PR(z d:Int)(w:List Bool)(h:Li)(hvc:
 let c1:=Fq d 7+7;let c2:=Fq c1 7;let c3:=Di (Du w (Dc c2) false);true/\(wkP w h d->Eo 7 0/\inR .i64 c1/\Eo 7 0/\0<=c2/\c2<Df w/\(c3->false=wkF w h d/\True)/\(c3=false->srt h/\Di (Cb h d)=wkF w h d/\True))):
  evF (mkc CX) az 220 [.ip C (z,w,h),.dat I d] [] ⟨wkP w h d,.dat .bool (wkF w h d),[]⟩:=oE hvc
theorem Io(z t:Int)(w:List Bool)(h:Li)(hvc:
 let c1:=Fq (t+z) 1440+1440;let c2:=Fq c1 1440;let c3:=(t+z)-c2;let c4:=Gg c3 1440;true/\(big z/\big t->inR .i64 (t+z)/\Eo 1440 0/\inR .i64 c1/\Eo 1440 0/\inR .i64 c3/\Eo 1440 0/\inR .i64 c4/\c4=aZ z t/\c2=cI z t/\True)):
  evF (mkc CX) az 158 [.ip C (z,w,h),.dat I t] [] ⟨big z/\big t,.tup [.dat I (aZ z t),.dat I (cI z t)],[]⟩:=oE hvc
theorem ZX (z d m : Int) (w : List Bool) (h : Li) (hvc :
 let c1 := Ee d (1440 : Int);
 let c2 := Dq c1 m;
 let c3 := Dj c2 z; true = true ∧ (big z ∧ big d ∧ big m → inR .i64 c1 ∧ inR .i64 c2 ∧ inR .i64 c3 ∧ c3 = vt z d m ∧ True)) :
    evF (mkc CX) az 154 [.ip C (z, w, h), .dat I d, .dat I m] [] ⟨big z ∧ big d ∧ big m, .dat I (vt z d m), []⟩ := oE hvc
theorem aCw(z:Int)(w:List Bool)(h:Li)(hvc:
 let c1:=Di (btw z (-720) 840);let c2:=Di c1;let c6:=c2->c2->c2;let c3:=Ea c1 true (Dy (Df w) 7);let c4:=Di c3;let c11:=c4->c4->c4;let c5:=Ea c3 true (Ei (Df h) 40);let aO:=(z,w,h);true/\(True->True/\c6/\c6/\c6/\(Dh true c2->c2)/\c11/\c11/\c11/\(Dh true c4->c4)/\(c5->false=dN z w h/\True)/\(c5=false->(∃x,yl h x/\aO=aO/\1=x/\True)/\∀(x:Int),let c7:=Dp x (Df h);let c8:=x-1;let c9:=Eh (Du h (Dc x) 0) (Du h (Dc c8) 0);let c10:=x+1;yl h x->(c7->0<=x/\x<Df h/\inR .i64 c8/\0<=c8/\c8<Df h/\(c9->false=dN z w h/\True)/\(c9=false->inR .i64 c10/\∃y,yl h y/\(aO=aO/\c10=y/\True)/\Dc (Df h-y)<Dc (Df h-x)))/\(c7=false->true=dN z w h/\True)))):
  evF (mkc CX) (lvA [(4,[1,2,3])] (QP h)) 150 [.agg [.dat I z,.dat B w,.dat R h]] [] ⟨True,.dat .bool (dN z w h),[]⟩:=oE hvc
theorem Ie(z a b:Int)(w:List Bool)(h:Li)(hvc:
 let c1:=(z,w,h);true/\(True->a=a/\b=b/\c1=c1/\True)):
  evF (mkc CX) az 153 [.ip C (z,w,h),.dat I a,.dat I b] [] ⟨True,.fn 219 [.ip I a,.ip I b,.ipv (.ip C (z,w,h))],[]⟩:=oE hvc
theorem Zy(b:Bool)(e:Int)(hvc:
 let c1:=chainOf (Value.iface (39) (Value.int IntKind.i64 e));true/\(True->(Di b->(true->True/\(false=false->b=false/\true/\c1=c1))/\True)/\(Di b=false->b/\True))):
  evC (mkc CX) az 79 [.dat .bool b,.dat I e] (.tup []) ⟨True,b,dj 39 e⟩:=oE hvc
theorem Ws(e:Int)(hvc:
 true/\(True->(true->e=e/\True)/\(true=false->190=e/\True))):
  evF (mkc CX) az 70 [.ifc 39 (.dat I e)] [] ⟨True,.dat I e,[]⟩:=oE hvc
def KPr: KPt:=pOr 79 (uG [.val .bool,.val I] λ(b,e,_)=>⟨True,b,dj 39 e⟩) noP
def UB: Kt:=kOr 220 (ax [.ptr C,.val I] (λ(c,d,_)=>wkP c.2.1 c.2.2 d) λ(c,d,_)=>.dat .bool (wkF c.2.1 c.2.2 d)) <|
 kOr 158 (ax [.ptr C,.val I] (λ(c,t,_)=>big c.1/\big t) λ(c,t,_)=>.tup [.dat I (aZ c.1 t),.dat I (cI c.1 t)]) <|
 kOr 154 (ax [.ptr C,.val I,.val I] (λ(c,d,m,_)=>big c.1/\big d/\big m) λ(c,d,m,_)=>.dat I (vt c.1 d m)) <|
 kOr 150 (ax [.row C] (λ_=>True) λ(c,_)=>.dat .bool (dN c.1 c.2.1 c.2.2)) <|
 kOr 153 (ax [.ptr C,.val I,.val I] (λ_=>True) λ(c,a,b,_)=>.fn 219 [.ip I a,.ip I b,.ipv (.ip C c)]) <|
 kOr 79 (ax [.val .bool,.val I] (λ(b,_)=>True/\b=true) λ_=>.tup []) CX
def wdA(w:List Bool)(h:Li)(a b:Int): F8:=⟨λid y=>match id with
 | 1=>some {α:=Int,inv:=λd=>Y4 a b d,st:=λd=>⟨put y.s [(5,.dat I d)],fS w h a d,true⟩,μ:=λd=>Dc (Dj (Dq b 1) d)}
 | _=>none,λ_ _=>none,λid=>id==3⟩
theorem Zs (z a b : Int) (w : List Bool) (h : Li) (hvc :
 let c1 := (z, w, h);
 let c2 := gw w h a b;
 let c3 := Dk c2;
 let c4 := Dq b (1 : Int); true = true ∧ true = true ∧ true = true ∧ false = false ∧ ∀ (l : Nat), wdP w h a b → (∃ x, Y4 a b x ∧ (l = l ∧ a = a ∧ b = b ∧ c1
  = c1 ∧ a = x ∧ a = a ∧ True) ∧ 0 = fS w h a x ∧ true = true) ∧ ∀ (x : Int),
 let c5 := fS w h a x;
 let aO := Ec c5 (1);
 let c7 := Dq x (1 : Int);
 let c8 := Ea (wkF w h x) (Di false) false; Y4 a b x → (Eh x b = true → wkP w h x ∧ (wkF w h x = true → (wkF w h x = true → wkF w h x = true) ∧ (wkF w
  h x = true → wkF w h x = true) ∧ l = l ∧ true = true ∧ lF c2 c5 x ∧ ∀ (b_1 : Bool),
 let c9 := Ea (wkF w h x) (Di b_1) false; (Dh true (wkF w h x) = true → wkF w h x = true) ∧ (c9 = true → b_1 = true → aO = c3) ∧ (c9 = false → inR
  IntKind.i64 c7 ∧ ∃ y, Y4 a b y ∧ ((l = l ∧ a = a ∧ b = b ∧ c1 = c1 ∧ c7 = y ∧ a = a ∧ True) ∧ aO = fS w h a y ∧ b_1 = true) ∧ Dw (Dc (Dj c4 y))
  (Dc (Dj c4 x)))) ∧ (wkF w h x = false → (wkF w h x = true → wkF w h x = true → wkF w h x = true) ∧ (Dh true (wkF w h x) = true → wkF w h x = true) ∧
  (c8 = true → true = true → c5 = c3) ∧ (c8 = false → inR .i64 c7 ∧ ∃ y, Y4 a b y ∧ ((l = l ∧ a = a ∧ b = b ∧ c1 = c1 ∧ c7 = y ∧ a = a ∧ True) ∧ c5 =
  fS w h a y ∧ true = true) ∧ Dw (Dc (Dj c4 y)) (Dc (Dj c4 x))))) ∧ (Eh x b = false → true = true → c5 = c3)) :
    evI (mkc UB) (wdA w h a b) 219 [.ip I a, .ip I b, .ipv (.ip C (z, w, h))] ⟨wdP w h a b, I, gw w h a b⟩ := oE hvc
def cR: Cfg:=I5 UB (λ_=>false) KPr (λf=>f==79)
theorem Im(xs:Li)(hvc:
 let c1:=Ei (Df xs) 0;let c2:=chainOf (Value.iface (39) (Value.int IntKind.i64 (190:Int)));true/\(True->1=1/\1=1/\1=1/\1=1/\0=0/\(true->True/\(c1=false->bN xs=false/\true/\c2=c2))/\((true->c1)->(True/\c1)/\1=1/\1=1/\1=1/\0=0/\Dl 0 0/\0<Df xs/\1=1/\1=1/\1=1/\0=0/\Dl 0 1/\1<=Df xs/\1=1/\1=1/\1=1/\0=0/\bN xs/\Du xs (Dc 0) 0=hd xs/\Fg xs 1=tl xs/\1=1/\True))):
  evM cR az 207 [.ptr 1 1 0 0] [(1,.var [.dat R xs])] (.dat I (hd xs)) [(1,.var [.dat R (tl xs)])] ⟨True,bN xs,dj 39 190⟩:=oE hvc
theorem aB8(x y:Bool): Ea x true y=(x||y):=by cases x<;>rfl
theorem OA(x y:Bool): Ea x y false=(x&&y):=by cases x<;>rfl
theorem hm: Tryz.prog.follows .mixedOrders=true:=by kernel_rfl
theorem UA: aj Tryz.prog dS VE:=λf args m c h=>by cases h
theorem aL: br Tryz.prog dS KI0:=λf args c h=>by cases h
theorem np{x a b:Int}: btw x a b=true↔a<=x/\x<=b:=by unfold btw;rw[qE]
theorem aS{α:Type}{l:List α}{i:Nat}{d:α}(h:i<l.length): l.getD i d∈l:=by
 rw[qA,qB h];exact wQ h
theorem aDm(x a b:Int): af Tryz.prog dS 148 [.dat I x,.dat I a,.dat I b] [] ⟨True,.dat .bool (btw x a b),[]⟩:=by
 refine ae (c:=mkc VE) UA aL hm (gH x a b ⟨rfl,λ_=>?_⟩)
 simp only[qc,Dh,Es,Di,qd,Dt,Eb,Dy,Dp,Ei,Eh,Ed,Ew,Df,Et,Dl,Dn,Eo,Dz,Dw,Dj,Dq,Ee,Fe,Dc,Dx,Dk,Ec,Em,Du,Eu,Ez,En,Ef,Fg,Fj,Fh,Ep,Ej,Ey,Fb];unfold btw;simp
theorem tF(x:Int): af Tryz.prog dS 290 [.dat I x] [] ⟨True,.dat .bool false,[]⟩:=
 ae (c:=mkc VE) UA aL hm (V4 x ⟨rfl,λ_=>⟨by simp,trivial⟩⟩)
theorem tE(x:Int): af Tryz.prog dS 287 [.dat I x] [] ⟨True,.dat .bool false,[]⟩:=
 ae (c:=mkc VE) UA aL hm (V1 x ⟨rfl,λ_=>⟨by simp,trivial⟩⟩)
theorem aBF: aj Tryz.prog dS aCn:=ai (ag λ(x,a,b,_)=>aDm x a b) <|
 ai (ag λ(x,_)=>tF x)<|ai (ag λ(x,_)=>tE x) UA
theorem Rl(x y:Int): af Tryz.prog dS 258 [.dat I x,.dat I y] [] ⟨True,.dat .bool (Dp x y),[]⟩:=by
 refine ae (c:=mkc aCn) aBF aL hm (KA x y ⟨rfl,λ_=>?_⟩)
 simp only[qc,Dh,Es,Di,yC,Ea,qAp,zZ,vT,qCj]
theorem aBE: aj Tryz.prog dS aCm:=ai (ag λ(x,y,_)=>Rl x y) aBF
theorem LS{h:Li}(hs:srt h){i j:Nat}(hij:i<=j)(hj:j<h.length): h.getD i 0<=h.getD j 0:=by
 rcases zC i j with g | g
 .exact Int.le_of_lt (hs.2 i j g hj)
 .have:i=j:=by omega
  rw[this];exact qL _
theorem aBq{h:Li}{d i:Int}(hs:srt h)(hi:JL h d i i): i=JK h d/\(Cb h d=true↔i<h.length/\h.getD i.toNat 0=d):=by
 obtain⟨h1,_,h3,h4,h5⟩:=hi;constructor
 .unfold JK;have e:h=h.take i.toNat++h.drop i.toNat:=(yZ _ _).symm;have l1:(h.take i.toNat).filter (λx=>decide (x<d))=h.take i.toNat:=List.filter_eq_self.2 λx hx=>by
   obtain⟨k,hk,rfl⟩:=wY.1 hx;rw[qI]at hk;have:=h4 k (by omega)
   rw[qA,qB (by omega)]at this
   rw[qCs];exact vF this
  have l2:(h.drop i.toNat).filter (λx=>decide (x<d))=[]:=qBv.2 λx hx=>by
   obtain⟨k,hk,rfl⟩:=wY.1 hx;rw[vZ]at hk;have:=h5 (i.toNat+k) (by omega) (by omega)
   rw[qA,qB (by omega)]at this
   rw[List.getElem_drop];simpa using this
  rw[e,xC,l1,l2,wM,qI];omega
 .unfold Cb;rw[List.contains_iff_mem];constructor
  .intro hm;obtain⟨k,hk,e⟩:=wY.1 hm;have e2:h.getD k 0=d:=by rw[qA,qB hk];exact e
   have k1:¬(k:Int)<i:=λg=>by have:=h4 k g;omega
   refine⟨by omega,?_⟩
   have:=LS hs (i:=i.toNat) (j:=k) (by omega) hk
   have:=h5 i.toNat (by omega) (by omega)
   omega
  .rintro⟨hlt,e⟩;rw[<- e];exact aS (by omega)
theorem ay{x:Int}(h:-4000000000000000<=x/\x<=4000000000000000): inR .i64 x:=⟨show(-9223372036854775808:Int)<=x by omega,show x<=9223372036854775807 by omega⟩
theorem aE1(h:Li)(d:Int): af Tryz.prog dS 264 [.dat R h,.dat I d] [] ⟨srt h,.tup [.dat I (JK h d),.dat .bool (Cb h d)],[]⟩:=by
 refine ae (c:=mkc aCm) aBE aL hm (aCz h d ⟨rfl,λhs=>?_⟩)
 have hl:=hs.1;refine⟨⟨(0,Df h),⟨qL _,vC _,qL _,λk g=>by omega,λk g1 g2=>by simp only[Df]at g1;omega⟩,?_⟩,λ⟨i,j⟩=>?_⟩
 .simp
 intro c1 c2 c3 c4 c5 aO c7 c8 hi;have hi':=hi;obtain⟨h1,h2,h3,h4,h5⟩:=hi;have e3:c3=(i+j)/2:=by
  show(i+j).fdiv (2 ^ (1:Int).toNat)=_;rw[qCn _ (by decide)];rfl
 have e2:c2=i+j:=rfl;have e5:c5=c3+1:=rfl;have e1:c1=decide (i<j):=rfl;have e4:c4=decide (h.getD c3.toNat 0<d):=rfl;have hiu:inR .u64 c2:=by
  rw[e2];exact⟨show(0:Int)<=i+j by omega,show i+j<=18446744073709551615 by omega⟩
 clear_value c1 c2 c3 c4 c5;constructor
 .intro hc1;rw[e1,qE]at hc1;refine⟨by rw[e2];exact ay (by omega),hiu,by decide,by decide,ay (by omega),by show(0:Int)<=c3;omega,by show c3<(h.length:Int);omega,trivial,λhc4=>?_,λhc4=>?_⟩
  .rw[e4,qE]at hc4;refine⟨by rw[e5];exact ay (by omega),(c5,j),⟨by omega,by omega,h3,λk hk=>?_,h5⟩,by simp,?_⟩
   .have:=LS hs (i:=k) (j:=c3.toNat) (by omega) (by omega)
    omega
   .simp only[Dw,Dc,Dj];omega
  .rw[e4,vN]at hc4;refine⟨(i,c3),⟨h1,by omega,by omega,h4,λk hk hk2=>?_⟩,by simp,?_⟩
   .have:=LS hs (i:=c3.toNat) (j:=k) (by omega) (by omega)
    omega
   .simp only[Dw,Dc,Dj];omega
 .intro hc1;rw[e1,vN]at hc1;have:i=j:=by omega
  subst this;obtain⟨b1,b2⟩:=aBq hs hi';have e6:aO=decide (i<h.length):=rfl;have e7:c7=decide (h.getD i.toNat 0=d):=rfl;have e8:c8=(aO&&!c7):=rfl;clear_value aO c7 c8;have hlt:aO=true->i<(h.length:Int):=λg=>by rw[e6]at g;exact wJ g
  have g8:c8=true->aO=true:=λg=>by rw[e8,qC]at g;exact g.1
  simp only[qc,Dh,Es,Di]
  and_intros
  all_goals first
   | exact λ_=>h1
   | exact hlt
   | exact λg=>hlt (g8 g)
   | exact b1
   | exact λg=>g8 g
   | skip
  rw[qBi,b2,e6,e7];simp
theorem CP: aj Tryz.prog dS CX:=ai (ag λ(h,d,_)=>aE1 h d) aBE
theorem x7{a m:Int}(h:0<m): (a.tmod m+m).tmod m=a%m:=by
 have e:=qBc (a:=a) (b:=m);have n0:=kZ a (show m≠0 by omega)
 have n1:=kC a h;have hna:(m.natAbs:Int)=m:=by omega
 have e2:a.tmod m=a%m\/a.tmod m=a%m-m:=by
  rw[e];split
  .exact .inl (by omega)
  .exact .inr (by omega)
 have nn:0<=a.tmod m+m:=by omega
 rw[qCm nn];rcases e2 with e2 | e2<;>rw[e2]
 .rw[Int.add_emod_right,Int.emod_emod_of_dvd _ (Int.dvd_refl _)]
 .rw[Int.sub_add_cancel,Int.emod_emod_of_dvd _ (Int.dvd_refl _)]
theorem WJ(z d:Int)(w:List Bool)(h:Li): af Tryz.prog dS 220 [.ip C (z,w,h),.dat I d] [] ⟨wkP w h d,.dat .bool (wkF w h d),[]⟩:=by
 refine ae (c:=mkc CX) CP aL hm (PR z d w h ⟨rfl,λ⟨hw,hs,hb⟩=>?_⟩)
 have e:=x7 (a:=d) (m:=7) (by decide)
 have n0:=kZ d (show(7:Int)≠0 by decide)
 have n1:=kC d (show(0:Int)<7 by decide)
 have tb:-7<d.tmod 7/\d.tmod 7<7:=by
  have:=qBc (a:=d) (b:=7);split at this<;>omega
 simp only[Fq,Dq,e,Di,Du,Dc,Dl,Dn,Eo,Df,hw];refine⟨by decide,ay (by omega),by decide,n0,by omega,λh1=>⟨?_,trivial⟩,λh1=>⟨hs,?_,trivial⟩⟩
 .unfold wkF;rw[zJ]at h1;rw[h1];rfl
 .unfold wkF Cb;rw[kD]at h1;rw[h1];rfl
theorem Xb(z t:Int)(w:List Bool)(h:Li): af Tryz.prog dS 158 [.ip C (z,w,h),.dat I t] [] ⟨big z/\big t,.tup [.dat I (aZ z t),.dat I (cI z t)],[]⟩:=by
 refine ae (c:=mkc CX) CP aL hm (Io z t w h ⟨rfl,λ⟨hz,ht⟩=>?_⟩)
 obtain⟨z1,z2⟩:=hz;obtain⟨t1,t2⟩:=ht;have e:=x7 (a:=t+z) (m:=1440) (by decide)
 have n0:=kZ (t+z) (show(1440:Int)≠0 by decide)
 have n1:=kC (t+z) (show(0:Int)<1440 by decide)
 have tb:-1440<(t+z).tmod 1440/\(t+z).tmod 1440<1440:=by
  have:=qBc (a:=t+z) (b:=1440);split at this<;>omega
 have eq:(t+z-(t+z)%1440).tdiv 1440=(t+z)/1440:=by
  have:t+z-(t+z)%1440=1440*((t+z)/1440):=by omega
  rw[this,qDc _ (by decide)]
 have big2:∀{x:Int},-4000000000000<=x->x<=4000000000000->inR .i64 x:=λ{x} h1 h2=>⟨show(-9223372036854775808:Int)<=x by omega,show x<=9223372036854775807 by omega⟩
 simp only[Fq,Dq,Dj,Gg,e,eq];exact⟨big2 (by omega) (by omega),by decide,big2 (by omega) (by omega),by decide,big2 (by omega) (by omega),by decide,big2 (by omega) (by omega),rfl,rfl,trivial⟩
theorem aC6 (z d m : Int) (w : List Bool) (h : Li) : af Tryz.prog dS 154 [.ip C (z, w, h), .dat I d, .dat I m] [] ⟨big z ∧ big d ∧ big m, .dat I (vt z d m), []⟩ := by
  refine ae (c := mkc CX) CP aL hm (ZX z d m w h ⟨rfl, fun ⟨⟨z1, z2⟩, ⟨d1, d2⟩, ⟨m1, m2⟩⟩ => ?_⟩)
  have big2 : ∀ {x : Int}, -4000000000000000 ≤ x → x ≤ 4000000000000000 → inR .i64 x := fun {x} h1 h2 => ⟨show (-9223372036854775808 : Int) ≤ x by omega, show x ≤ 9223372036854775807 by omega⟩
  exact ⟨big2 (by simp only [Ee]; omega) (by simp only [Ee]; omega), big2 (by simp only [Ee, Dq]; omega) (by simp only [Ee, Dq]; omega), big2 (by simp only [Ee, Dq, Dj]; omega) (by simp only [Ee, Dq, Dj]; omega), rfl, trivial⟩
def zq(z:Int)(w:List Bool)(h:Li): Prop:=(-720<=z/\z<=840/\w.length=7/\h.length<=40)/\∀i:Nat,i+1<h.length->h.getD i 0<h.getD (i+1) 0
theorem iI{z:Int}{w:List Bool}{h:Li}: dN z w h=true↔zq z w h:=by
 unfold dN zq;rw[qC,qE,qN];refine and_congr_right λ_=>⟨λg i hi=>?_,λg i hi=>?_⟩
 .have:=g i (qX.2 (by omega))
  simpa using this
 .have:=qX.1 hi;simpa using g i (by omega)
theorem pG{z:Int}{w:List Bool}{h:Li}(hn:¬zq z w h): false=dN z w h:=by
 cases hv:dN z w h with
 | false=>rfl
 | true=>exact(hn (iI.1 hv)).elim
theorem KR{z:Int}{w:List Bool}{h:Li}(hv:dN z w h=true): srt h:=by
 obtain⟨⟨_,_,_,h4⟩,h5⟩:=iI.1 hv;refine⟨by omega,λi j hij hj=>?_⟩
 induction j with
 | zero=>omega
 | succ j ih=>
  have:=h5 j (by omega)
  rcases zC i j with g | g
  .have:=ih g (by omega);omega
  .have:i=j:=by omega
   rw[this];assumption
theorem aEZ(z:Int)(w:List Bool)(h:Li): af Tryz.prog dS 150 [.agg [.dat I z,.dat B w,.dat R h]] [] ⟨True,.dat .bool (dN z w h),[]⟩:=by
 refine ae (c:=mkc CX) CP aL hm (aCw z w h ⟨rfl,λ_=>?_⟩)
 have eb:btw z (-720) 840=decide (-720<=z/\z<=840):=rfl;simp only[eb];simp only[qc,Dh,Es,Di,qd,Dt,Eb,Dy,Dp,Ei,Eh,Ed,Ew,Df,Et,Dl,Dn,Eo,Dz,Dw,Dj,Dq,Ee,Fe,Dc,Dx,Dk,Ec,Em,Du,Eu,Ez,En,Ef,Fg,Fj,Fh,Ep,Ej,Ey,Fb];refine⟨λhb=>pG λhv=>?_,λ⟨⟨⟨h1,h2⟩,h3⟩,h4⟩=>⟨⟨qL _,.inr rfl,by omega,λi hi=>by omega⟩,λx hx=>⟨λhlt=>?_,λhge=>(iI.2 ⟨⟨by omega,by omega,by omega,by omega⟩,λi hi=>hx.2.2.2 i (by omega)⟩).symm⟩⟩⟩
 .obtain⟨⟨g1,g2,g3,g4⟩,_⟩:=hv;omega
 .have hx1:=hx.1;have hx3:=hx.2.2.1;refine⟨by omega,hlt,ay (by omega),by omega,by omega,λhle=>pG λhv=>?_,λhn=>⟨ay (by omega),x+1,⟨by omega,by omega,hx3,λi hi=>?_⟩,rfl,by omega⟩⟩
  .have:=hv.2 (x-1).toNat (by omega)
   rw[show(x-1).toNat+1=x.toNat by omega]at this
   omega
  .by_cases e:(i:Int)+1<x
   .exact hx.2.2.2 i e
   .have e1:(x-1).toNat=i:=by omega
    have e2:x.toNat=i+1:=by omega
    rw[e1,e2]at hn;omega
theorem Lq(z a b:Int)(w:List Bool)(h:Li): af Tryz.prog dS 153 [.ip C (z,w,h),.dat I a,.dat I b] [] ⟨True,.fn 219 [.ip I a,.ip I b,.ipv (.ip C (z,w,h))],[]⟩:=
 ae (c:=mkc CX) CP aL hm (Ie z a b w h ⟨rfl,λ_=>⟨rfl,rfl,rfl,trivial⟩⟩)
theorem sI(b:Bool)(e:Int): af Tryz.prog dS 79 [.dat .bool b,.dat I e] [] ⟨True/\b=true,.tup [],[]⟩/\cU Tryz.prog dS 79 [.dat .bool b,.dat I e] [] ⟨True,b,dj 39 e⟩:=by
 refine dz (c:=mkc CX) CP aL hm pW (Zy b e ⟨rfl,λ_=>⟨λh=>⟨λ_=>⟨trivial,λ_=>⟨?_,rfl,rfl⟩⟩,trivial⟩,λh=>⟨?_,trivial⟩⟩⟩)
 .simpa using h
 .simpa using h
theorem aAg(e:Int): af Tryz.prog dS 70 [.ifc 39 (.dat I e)] [] ⟨True,.dat I e,[]⟩:=
 ae (c:=mkc CX) CP aL hm (Ws e ⟨rfl,λ_=>⟨λ_=>⟨rfl,trivial⟩,λh=>by cases h⟩⟩)
theorem O3: aj Tryz.prog dS UB:=ai (ag λ((z,w,h),d,_)=>WJ z d w h)<|ai (ag λ((z,w,h),t,_)=>Xb z t w h)<|ai (ag λ((z,w,h),d,m,_)=>aC6 z d m w h) <|
 ai (ag λ((z,w,h),_)=>aEZ z w h)<|ai (ag λ((z,w,h),a,b,_)=>Lq z a b w h)<|ai (ag λ(b,e,_)=>(sI b e).1) CP
theorem H6: bL Tryz.prog dS KPr:=ik (iZ λ(b,e,_)=>(sI b e).2) pW
theorem BO{α:Type}{f:Nat->α}{p:α->Bool}{k:Nat}(hp:p (f k)=true): ∀N:Nat,k<N->(((List.range N).map f).filter p)[(((List.range k).map f).filter p).length]?=some (f k)
 | 0,h=>by omega
 | N+1,h=>by
  rw[zT,yY,xC];rcases zC k N with hk | hk
  .have ih:=BO hp N hk;rw[vI (qF.1 ih).1];exact ih
  .have e:N=k:=by omega
   subst e;rw[qV (qJ _),qCc];simp[hp]
theorem OR{w:List Bool}{h:Li}{a b x:Int}(h1:a<=x)(h2:x<=b)(hw:wkF w h x=true): lF (gw w h a b) (fS w h a x) x:=by
 have e:a+((x-a).toNat:Int)=x:=by omega
 have:=BO (f:=λ(i:Nat)=>a+(i:Int)) (p:=λd=>wkF w h d) (k:=(x-a).toNat) (by simp only[e];exact hw) (b+1-a).toNat (by omega)
 simp only[e]at this;exact this
theorem wd{w:List Bool}{h:Li}{a x:Int}(h1:a<=x): fS w h a (x+1)=fS w h a x+(if wkF w h x then 1 else 0):=by
 unfold fS;rw[show(x+1-a).toNat=(x-a).toNat+1 by omega,zT,yY,xC,qG]
 have e:a+((x-a).toNat:Int)=x:=by omega
 congr 1
 simp only[zG,qCd,e,xB,qBh];split<;>simp_all
theorem JF(w:List Bool)(h:Li)(a:Int): fS w h a a=0:=by
 unfold fS;rw[show(a-a).toNat=0 by omega];rfl
theorem Oy{w:List Bool}{h:Li}{a b x:Int}(hx:Y4 a b x)(hge:¬x<=b): fS w h a x=(gw w h a b).length:=by
 unfold fS gw;have e:(x-a).toNat=(b+1-a).toNat:=by
  rcases hx with⟨h1,h2 | h2⟩<;>omega
 rw[e]
theorem aCD (z a b : Int) (w : List Bool) (h : Li) : mC Tryz.prog dS 219 [.ip I a, .ip I b, .ipv (.ip C (z, w, h))] ⟨wdP w h a b, I, gw w h a b⟩ := by
  refine jq (c := mkc UB) O3 aL hm (Zs z a b w h ⟨rfl, rfl, rfl, rfl, fun l ⟨hw, hs, ⟨a1, a2⟩, ⟨b1, b2⟩⟩ => ?_⟩)
  refine ⟨⟨a, ⟨qL _, .inr rfl⟩, ⟨rfl, rfl, rfl, rfl, rfl, rfl, trivial⟩, (JF w h a).symm, rfl⟩, fun x hx => ?_⟩
  obtain ⟨x1, x2⟩ := hx
  refine ⟨fun hlt => ?_, fun hge _ => Oy ⟨x1, x2⟩ (by simpa using hge)⟩
  have hlt : x ≤ b := by simpa using hlt
  have hb : big x := ⟨by omega, by omega⟩
  refine ⟨⟨hw, hs, hb⟩, fun hk => ⟨fun h => h, fun h => h, rfl, rfl, OR x1 hlt hk, fun bb => ⟨fun _ => hk, fun h9 hb1 => ?_, fun h9 => ?_⟩⟩, fun hk => ⟨fun _ h => h, fun _ => ?_, fun h8 _ => ?_, fun h8 => ?_⟩⟩
  · rw [hk, hb1] at h9; cases h9
  · rw [hk] at h9
    have : bb = true := by simpa [Ea, Di] using h9
    refine ⟨ay (by simp only [Dq]; omega), x + 1, ⟨by omega, .inl (by omega)⟩, ⟨⟨rfl, rfl, rfl, rfl, rfl, rfl, trivial⟩, ?_, this⟩, ?_⟩
    · rw [wd x1, hk]; rfl
    · simp only [Dw, Dc, Dj, Dq]; omega
  · rename_i hk2; rw [hk] at hk2; cases hk2
  · rw [hk] at h8; cases h8
  · refine ⟨ay (by simp only [Dq]; omega), x + 1, ⟨by omega, .inl (by omega)⟩, ⟨⟨rfl, rfl, rfl, rfl, rfl, rfl, trivial⟩, ?_, rfl⟩, ?_⟩
    · rw [wd x1, hk]; rfl
    · simp only [Dw, Dc, Dj, Dq]; omega
theorem rN(xs:Li): af Tryz.prog dS 207 [.ptr 1 1 0 0] [(1,.var [.dat R xs])] ⟨True/\bN xs=true,.dat I (hd xs),[(1,.var [.dat R (tl xs)])]⟩/\cU Tryz.prog dS 207 [.ptr 1 1 0 0] [(1,.var [.dat R xs])] ⟨True,bN xs,dj 39 190⟩:=by
 refine cq (c:=cR) O3 aL hm H6 (Im xs ⟨rfl,λ_=>?_⟩)
 have e:Ei (Df xs) 0=bN xs:=by unfold bN;simp
 simp only[e];simp only[qc,Dh,Es,Di,qd,Dt,Eb,Dy,Dp,Ei,Eh,Ed,Ew,Df,Et,Dl,Dn,Eo,Dz,Dw,Dj,Dq,Ee,Fe,Dc,Dx,Dk,Ec,Em,Du,Eu,Ez,En,Ef,Fg,Fj,Fh,Ep,Ej,Ey,Fb];refine λh=>?_
 have hl:0<xs.length:=by unfold bN at h;simpa using h
 exact⟨h,qL _,by omega,by decide,by omega,h,rfl,rfl⟩
end Go.Eng.In
namespace Go.Eng.In
def RX(st:Int×Int)(x:Int): Int×Int:=(st.1*3%65521,(st.2+x*(st.1*3%65521))%65521)
def IM(st:Int×Int)(l:List Int): Int×Int:=l.foldl RX st
def GM(l:List Int): Int:=(IM (1,0) l).2
theorem Az(st:Int×Int)(x:Int)(l:List Int): IM st (x::l)=IM (RX st x) l:=rfl
theorem RY(st:Int×Int)(a b:List Int): IM st (a++b)=IM (IM st a) b:=by
 unfold IM;exact List.foldl_append
def aDw(st:Int×Int): Prop:=(0<=st.1/\st.1<65521)/\(0<=st.2/\st.2<65521)
theorem RU(st:Int×Int)(x:Int): aDw (RX st x):=
 ⟨⟨Int.emod_nonneg _ (by decide),Int.emod_lt_of_pos _ (by decide)⟩,⟨Int.emod_nonneg _ (by decide),Int.emod_lt_of_pos _ (by decide)⟩⟩
theorem Me: ∀(l:List Int) {st:Int×Int},aDw st->aDw (IM st l)
 | [],_,h=>h
 | x::l,st,_=>Me l (RU st x)
def inv(p:Int): Prop:=∃q:Int,p*q%65521=1
theorem Tq{p:Int}(h:inv p): inv (p*3%65521):=by
 obtain⟨q,hq⟩:=h;refine⟨q*43681,?_⟩;rw[Int.mul_emod,Int.emod_emod_of_dvd _ (Int.dvd_refl _),<- Int.mul_emod];have e:p*3*(q*43681)=p*q*131043:=by
  rw[Int.mul_assoc,Int.mul_left_comm 3 q 43681,<- Int.mul_assoc];rfl
 rw[e,Int.mul_emod,hq];rfl
theorem Ye: ∀(l:List Int) {st:Int×Int},inv st.1->inv (IM st l).1
 | [],_,h=>h
 | _::l,_,h=>Ye l (Tq h)
theorem XM: ∀(l:List Int) {p s t:Int},0<=s->s<65521->0<=t->t<65521->s≠t->(IM (p,s) l).2≠(IM (p,t) l).2
 | [],_,_,_,_,_,_,_,h=>h
 | x::l,p,s,t,s0,s1,t0,t1,h=>by
  rw[Az,Az];have e:∀y:Int,RX (p,y) x=(p*3%65521,(y+x*(p*3%65521))%65521):=λ_=>rfl
  rw[e,e];generalize x*(p*3%65521)=z;exact XM l (Int.emod_nonneg _ (by decide)) (Int.emod_lt_of_pos _ (by decide)) (Int.emod_nonneg _ (by decide)) (Int.emod_lt_of_pos _ (by decide)) (by omega)
end Go.Eng.In
set_option maxRecDepth 100000
noncomputable section
namespace Go.Eng.In
open Go.Proofs
abbrev Ce: Ty:=.pair R I
abbrev Pl: Ty:=.pair I (.pair I (.pair M (.sl M)))
abbrev Plan:=Int×Int×Lj×List (Lj)
def Hm(l:Li): Prop:=l.length<=2000000000000000
def Pm(l:Li): Prop:=l.length<=9223372036854775807
def sP(l:Li)(k:Int): Int:=(IM (1,0) (l.take k.toNat)).1
def sS(l:Li)(k:Int): Int:=(IM (1,0) (l.take k.toNat)).2
def rl(l:Li): Li:=l.map λx=>x%65521
def mS(l:Li): Int:=GM (rl l)
def oh(l:Li): Bool:=l.all λx=>btw x 0 65519
def dU(l:Li)(s:Int): Bool:=oh l&&decide (s=GM l)
def Yf(l:Li)(k:Int): Prop:=0<=k/\k<=l.length/\oh (l.take k.toNat)=true
def ym(l:Li)(k:Int): Prop:=0<=k/\k<=l.length
def dt(g:Int->Int->Int)(n:Int): Lj:=(List.range n.toNat).map λi:Nat=>(List.range n.toNat).map λj:Nat=>g i j
def fz(g:Int->Int->Int)(n i:Int): Lj:=(dt g n).take i.toNat++List.replicate (n.toNat-i.toNat) []
def ic(g:Int->Int->Int)(n i j:Int): Li:=((List.range n.toNat).map λj:Nat=>g i j).take j.toNat++List.replicate (n.toNat-j.toNat) 0
def ny(k n:Int): Prop:=0<=k/\(k<=n\/k=0)
def tg(l:Li)(m i j:Int): Int:=l.getD (i*m+j).toNat 0-1
def kA(m:Int)(l:Li): Lj:=dt (tg l m) m
def bK(l:Li)(k:Int): Li:=l.drop k.toNat
def nD(m:Int)(l:Li): Bool:=decide (m*m<=l.length)
def dE(l:Li): Prop:=oh l=true/\Hm l
def Le(m:Int)(l:Li): Prop:=0<=m/\m<=12/\dE l
def Q7(m:Int)(l:Li)(k:Int): Prop:=ny k m/\k*m<=l.length
def Gz(m:Int)(l:Li)(i k:Int): Prop:=ny k m/\i*m+k<=l.length
def uw(q m:Int)(l:Li): List (Lj):=(List.range q.toNat).map λk:Nat=>kA m (bK l ((k:Int)*(m*m)))
def nC(q m:Int)(l:Li)(k:Int): List (Lj):=(uw q m l).take k.toNat++List.replicate (q.toNat-k.toNat) []
def aB1(q m:Int)(l:Li)(k:Int): Prop:=ny k q/\(k+1)*(m*m)<=l.length-4
def sA(l:Li): Bool:=decide (l.getD 2 0<=12/\l.getD 3 0<=4/\l.getD 0 0<l.getD 1 0/\l.getD 1 0<=l.getD 0 0+60/\l.getD 1 0<=600)
def nt(l:Li): Bool:=decide (4<=l.length)&&sA l&&decide (4+l.getD 2 0*l.getD 2 0+l.getD 3 0*(l.getD 2 0*l.getD 2 0)<=l.length)
def au(l:Li): Plan:=(l.getD 0 0,l.getD 1 0,kA (l.getD 2 0) (bK l 4),uw (l.getD 3 0) (l.getD 2 0) (bK l (4+l.getD 2 0*l.getD 2 0)))
def bM(l:Li): Li:=bK l (4+l.getD 2 0*l.getD 2 0+l.getD 3 0*(l.getD 2 0*l.getD 2 0))
def at0(l:Li)(k:Nat): Int:=l.getD k 0
def IV(q m:Int)(l:Li)(k:Int): Li:=bK l (4+m*m+k*(m*m))
def aE6(l:Li): Ann:=⟨λid s=>match id with
 | 3=>some {α:=Int,inv:=λk=>Yf l k,st:=λk=>put (fH s) [(10,.dat I k),(3,.dat I (sP l k)),(4,.dat I (sS l k))],μ:=λk=>Dc (Dj (Df l) k)}
 | _=>none,λ_ _=>none,λ_ _=>none⟩
def Zq(l:Li): Ann:=⟨λid s=>match id with
 | 3=>some {α:=Int,inv:=λk=>ym l k,st:=λk=>put (fH s) [(9,.dat I k),(3,.dat I (sP (rl l) k)),(4,.dat I (sS (rl l) k))],μ:=λk=>Dc (Dj (Df l) k)}
 | _=>none,λ_ _=>none,λ_ _=>none⟩
theorem C4(s:Int)(l:Li)(hvc:
 let c1:=(l,s);true/\(Hm l->(∃x,Yf l x/\l=l/\s=s/\c1=c1/\1=sP l x/\0=sS l x/\c1=c1/\l=l/\Df l=Df l/\0=x/\True)/\∀(x:Int),let c2:=Dp x (Df l);let c3:=Du l (Dc x) 0;let c4:=Di (btw c3 0 65519);let c5:=sP l x*3;let aO:=Fq c5 65521;let c7:=c3*aO;let c8:=sS l x+c7;let c9:=x+1;Yf l x->(c2->0<=x/\x<Df l/\True/\(c4->false=dU l s/\True)/\(c4=false->inR .i64 c5/\Eo 65521 0/\inR .i64 c7/\inR .i64 c8/\Eo 65521 0/\inR .i64 c9/\∃y,Yf l y/\(l=l/\s=s/\c1=c1/\aO=sP l y/\Fq c8 65521=sS l y/\c1=c1/\l=l/\Df l=Df l/\c9=y/\True)/\Dc (Df l-y)<Dc (Df l-x)))/\(c2=false->Eb s (sS l x)=dU l s/\True))):
  evF (mkc UB) (aE6 l) 141 [.agg [.dat R l,.dat I s]] [] ⟨Hm l,.dat .bool (dU l s),[]⟩:=oE hvc
theorem PL(l:Li)(hvc:
 true/\(Pm l->(∃x,ym l x/\l=l/\(0:Int)=(0:Int)/\1=sP (rl l) x/\0=sS (rl l) x/\l=l/\Df l=Df l/\0=x/\True)/\∀(x:Int),let c1:=Dp x (Df l);let c2:=sP (rl l) x*3;let c3:=Fq (Du l (Dc x) 0) 65521+65521;let c4:=Fq c2 65521;let c5:=Fq c3 65521*c4;let aO:=sS (rl l) x+c5;let c7:=x+1;ym l x->(c1->0<=x/\x<Df l/\inR .i64 c2/\Eo 65521 0/\Eo 65521 0/\inR .i64 c3/\Eo 65521 0/\inR .i64 c5/\inR .i64 aO/\Eo 65521 0/\inR IntKind.i64 c7/\∃y,ym l y/\(l=l/\(0:Int)=(0:Int)/\c4=sP (rl l) y/\Fq aO 65521=sS (rl l) y/\l=l/\Df l=Df l/\c7=y/\True)/\Dc (Df l-y)<Dc (Df l-x))/\(c1=false->sS (rl l) x=mS l/\True))):
  evF (mkc UB) (Zq l) 36 [.dat R l] [] ⟨Pm l,.dat I (mS l),[]⟩:=oE hvc
def aEY: Kt:=kOr 141 (ax [.row Ce] (λ(c,_)=>Hm c.1) λ(c,_)=>.dat .bool (dU c.1 c.2)) <|
 kOr 36 (ax [.val R] (λ(l,_)=>Pm l) λ(l,_)=>.dat I (mS l)) <|
 UB
def aEj: Kt:=
 kOr 207 (U9 1 R [.mp 1] (λ_ xs=>True/\bN xs=true) (λ_ xs=>.dat I (hd xs)) λ_ xs=>tl xs) aEY
def KP6: KPt:=pOr 207 (X1 1 R [.mp 1] λ_ xs=>⟨True,bN xs,dj 39 190⟩) KPr
def aO: Cfg:=I5 aEj (λ_=>false) KP6 (λf=>f==79||f==207)
def Q6(m:Int)(l:Li): Ann:=⟨λid s=>match id with
 | 3=>some {α:=Int,inv:=λk=>Q7 m l k,st:=λk=>ie (ie (put (fH s) [(12,.dat I k),(5,.buf 2 (Dc m))]) 2 (.buf 36 R (fz (tg l m) m k) [])) 1 (.var [.dat R (bK l (Ee k m))]),μ:=λk=>Dc (Dj m k)}
 | 7=>match s.sig.T 6,s.sig.T 23 with
  | .dat (.int .i64) i,.buf nm _=>some {α:=Int,inv:=λk=>Gz m l i k,st:=λk=>ie (ie (put (fH s) [(25,.dat I k)]) nm (.buf 3 I (ic (tg l m) m i k) [])) 1 (.var [.dat R (bK l (Dq (Ee i m) k))]),μ:=λk=>Dc (Dj m k)}
  | _,_=>none
 | _=>none,λ_ _=>none,λ_ _=>none⟩
theorem If(m:Int)(l:Li)(hvc:
 let c16:=tg l m;let c6:=Dc m;let c1:=Ep m (Dt Int);let c2:=Ep m (0:Int);let c3:=chainOf (Value.iface (39) (Value.int IntKind.i64 (190:Int)));true/\(Le m l->1=1/\0<=m/\(Dx (24)*m)<=281474976710656/\m<=9223372036854775807/\Dk c1=Dc m/\(∃x,Q7 m l x/\1=1/\0=0/\0=0/\m=m/\Value.slice none (0) (0)=Value.slice none (0) (0)/\Dc m=Dc m/\m=m/\Dc m=Dc m/\Dc m=Dc m/\Int.ofNat c6=Int.ofNat c6/\0=x/\l=bK l (x*m)/\c1=fz c16 m x/\1=1/\True)/\∀(x:Int),let c4:=Dp x (Int.ofNat c6);let c5:=fz c16 m x;let aO:=Dk c5;let c7:=bK l (x*m);let c8:=x+1;Q7 m l x->(c4->0<=m/\(Dx (8)*m)<=281474976710656/\m<=9223372036854775807/\aO=Dc m/\0<=x/\x<Dx aO/\aO=Dc m/\Dk c2=Dc m/\aO=Dc m/\0<=x/\x<Dx aO/\aO=Dc m/\Dc x=Dc x/\Dk c2=Dc m/\(∃x_3,Gz m l x x_3/\1=1/\0=0/\0=0/\m=m/\Value.slice none (0) (0)=Value.slice none (0) (0)/\Dc m=Dc m/\x=x/\m=m/\Dc m=Dc m/\Dc m=Dc m/\Int.ofNat c6=Int.ofNat c6/\x=x/\c4=c4/\x=x/\Dc m=Dc m/\x=x/\m=m/\Dc m=Dc m/\Dc m=Dc m/\Dc x=Dc x/\0=0/\Dc m=Dc m/\x=x/\Dc m=Dc m/\Dc x=Dc x/\0=0/\Dc m=Dc m/\Int.ofNat c6=Int.ofNat c6/\0=x_3/\c7=bK l ((x*m)+x_3)/\c5=c5/\Dc x=Dc x/\Dc m=Dc m/\c2=ic c16 m x x_3/\1=1/\True)/\∀(x_3:Int),let c9:=Dp x_3 (Int.ofNat c6);let c10:=bK l ((x*m)+x_3);let c11:=bN c10;let c12:=hd c10-1;let c13:=ic c16 m x x_3;let c14:=Dk c13;let c15:=x_3+1;
 Gz m l x x_3->(c9->aO=Dc m/\0<=x/\x<Dx aO/\aO=Dc m/\Dc x=Dc x/\True/\(c11->aO=Dc m/\0<=x/\x<Dx aO/\aO=Dc m/\Dc x=Dc x/\(True/\c11)/\1=1/\inR .i64 c12/\c14=Dc m/\0<=x_3/\x_3<Dx c14/\c14=Dc m/\inR .i64 c15/\∃y,Gz m l x y/\(1=1/\0=0/\0=0/\m=m/\Value.slice none (0) (0)=Value.slice none (0) (0)/\Dc m=Dc m/\x=x/\m=m/\Dc m=Dc m/\Dc m=Dc m/\Int.ofNat c6=Int.ofNat c6/\x=x/\c4=c4/\x=x/\Dc m=Dc m/\x=x/\m=m/\Dc m=Dc m/\Dc m=Dc m/\Dc x=Dc x/\0=0/\Dc m=Dc m/\x=x/\Dc m=Dc m/\Dc x=Dc x/\0=0/\Dc m=Dc m/\Int.ofNat c6=Int.ofNat c6/\c15=y/\tl c10=bK l ((x*m)+y)/\c5=c5/\Dc x=Dc x/\Dc m=Dc m/\En c13 (Dc x_3) c12=ic c16 m x y/\1=1/\True)/\Dc (m-y)<Dc (m-x_3))/\(c11=false->nD m l=false/\true/\c3=c3))/\(c9=false->inR .i64 c8/\∃y,Q7 m l y/\(1=1/\0=0/\0=0/\m=m/\Value.slice none (0) (0)=Value.slice none (0) (0)/\Dc m=Dc m/\m=m/\Dc m=Dc m/\Dc m=Dc m/\Int.ofNat c6=Int.ofNat c6/\c8=y/\c10=bK l (y*m)/\c14=Dc m/\En c5 (Dc x) c13=fz c16 m y/\1=1/\True)/\Dc (m-y)<Dc (m-x)))/\(c4=false->nD m l/\aO=Dc m/\c5=kA m l/\c7=bK l (m*m)/\1=1/\True))):
  evM aO (Q6 m l) 208 [.ptr 1 1 0 0,.dat I m] [(1,.var [.dat R l])] (.dat M (kA m l)) [(1,.var [.dat R (bK l (Ee m m))])] ⟨Le m l,nD m l,dj 39 190⟩:=oE hvc
def aEi: Kt:=kOr 208 (U9 1 R [.mp 1,.val I] (λ(_,m,_) xs=>Le m xs/\nD m xs=true) (λ(_,m,_) xs=>.dat M (kA m xs)) λ(_,m,_) xs=>bK xs (Ee m m)) aEj
def KP7: KPt:=pOr 208 (X1 1 R [.mp 1,.val I] λ(_,m,_) xs=>⟨Le m xs,nD m xs,dj 39 190⟩) KP6
def c7: Cfg:=I5 aEi (λ_=>false) KP7 (λf=>f==79||f==207||f==208)
def aDv(l:Li): Ann:=⟨λid s=>match id with
 | 9=>some {α:=Int,inv:=λk=>aB1 (at0 l 3) (at0 l 2) l k,st:=λk=>ie (ie (put (fH s) [(53,.dat I k)]) 4 (.buf 32 M (nC (at0 l 3) (at0 l 2) (bK l (Dq 4 (Ee (at0 l 2) (at0 l 2)))) k) [])) 1 (.var [.dat R (IV (at0 l 3) (at0 l 2) l k)]),μ:=λk=>Dc (Dj (at0 l 3) k)}
 | _=>none,λ_ _=>none,λ_ _=>none⟩
theorem VW(l:Li)(hvc:
 let c1:=chainOf (Value.iface (39) (Value.int IntKind.i64 (190:Int)));let c2:=bN (tl (tl (tl l)));let c3:=Eh (hd (tl (tl l))) 12;let c4:=hd (tl (tl (tl l)));let c5:=Ea c3 (Eh c4 4) false;let aO:=Dp (hd l) (hd (tl l));let c7:=hd l+60;let c8:=Ea aO (Eh (hd (tl l)) c7) false;let c9:=Ea c8 (Eh (hd (tl l)) 600) false;let c10:=tl (tl (tl (tl l)));let c11:=nD (hd (tl (tl l))) c10;let c12:=Ep c4 (Dt (Li));let c13:=Dc c4;let c14:=kA (hd (tl (tl l))) c10;let c15:=Int.ofNat c13;let c16:=hd (tl (tl l))*hd (tl (tl l));let c17:=bK l (4+(at0 l (2)*at0 l (2)));let c18:=(au l).2;let c19:=c18.2;
 true/\(dE l->1=1/\(true->True/\(bN l=false->nt l=false/\true/\c1=c1))/\((true->bN l)->(True/\bN l)/\1=1/\(true->True/\(bN (tl l)=false->nt l=false/\true/\c1=c1))/\((true->bN (tl l))->(True/\bN (tl l))/\1=1/\1=1/\1=1/\0=0/\1=1/\1=1/\0=0/\(true->True/\(bN (tl (tl l))=false->nt l=false/\true/\c1=c1))/\((true->bN (tl (tl l)))->(True/\bN (tl (tl l)))/\1=1/\(true->True/\(c2=false->nt l=false/\true/\c1=c1))/\((true->c2)->(True/\c2)/\1=1/\(c3->c3->c3)/\(Dh true c3->c3)/\(true->True/\(c5=false->nt l=false/\true/\c1=c1))/\((true->c5)->(True/\c5)/\1=1/\1=1/\0=0/\1=1/\1=1/\0=0/\(aO->1=1)/\(aO->aO->aO)/\(aO->1=1)/\(aO->0=0)/\(aO->1=1)/\(aO->aO->aO)/\(aO->1=1)/\(aO->0=0)/\(aO->aO->aO)/\(aO->inR IntKind.i64 c7)/\(aO->aO->aO)/\(aO->aO->aO)/\(Dh true aO->aO)/\(c8->1=1)/\(c8->c8->c8)/\(c8->1=1)/\(c8->0=0)/\(c8->c8->c8)/\(Dh true c8->c8)/\(true->True/\(c9=false->nt l=false/\true/\c1=c1))/\((true->c9)->(True/\c9)/\(true->Le (hd (tl (tl l))) c10/\(c11=false->nt l=false/\true/\c1=c1))/\((true->c11)->(Le (hd (tl (tl l))) c10/\c11)/\1=1/\1=1/\1=1/\0=0/\0<=c4/\(Dx (24)*c4)<=281474976710656/\c4<=9223372036854775807/\1=1/\1=1/\0=0/\Dk c12=c13/\1=1/\1=1/\0=0/\Dk c12=c13/\(∃x,aB1 (at0 l (3)) (at0 l (2)) l x/\1=1/\0=0/\0=0/\1=1/\0=0/\0=0/\1=1/\0=0/\0=0/\hd (tl (tl l))=hd (tl (tl l))/\c4=c4/\1=1/\0=0/\0=0/\hd l=hd l/\1=1/\0=0/\0=0/\hd (tl l)=hd (tl l)/\1=1/\0=0/\0=0/\1=1/\0=0/\1=1/\1=1/\0=0/\0=0/\hd (tl (tl l))=hd (tl (tl l))/\1=1/\0=0/\0=0/\c4=c4/\hd (tl (tl l))=hd (tl (tl l))/\c3=c3/\c3=c3/\c5=c5/\1=1/\0=0/\0=0/\hd l=hd l/\1=1/\0=0/\1=1/\hd (tl l)=hd (tl l)/\aO=aO/\aO=aO/\c8=c8/\c8=c8/\c9=c9/\1=1/\0=0/\0=0/\hd (tl (tl l))=hd (tl (tl l))/\c14=c14/\1=1/\0=0/\2=2/\c4=c4/\c13=c13/\1=1/\0=0/\3=3/\1=1/\0=0/\3=3/\c13=c13/\c15=c15/\
 0=x/\bK c10 c16=IV (at0 l (3)) (at0 l (2)) l x/\(0:Int)=(0:Int)/\(0:Int)=(0:Int)/\Value.slice none (0) (0)=Value.slice none (0) (0)/\Value.slice none (0) (0)=Value.slice none (0) (0)/\hd l=hd l/\hd (tl l)=hd (tl l)/\c14=c14/\c13=c13/\c12=nC (at0 l (3)) (at0 l (2)) c17 x/\1=1/\True)/\∀(x:Int),let c20:=IV (at0 l (3)) (at0 l (2)) l x;let c21:=nD (hd (tl (tl l))) c20;let c22:=nC (at0 l (3)) (at0 l (2)) c17 x;let c23:=Dk c22;let c24:=x+1;
 aB1 (at0 l (3)) (at0 l (2)) l x->(Dp x c15->1=1/\1=1/\0=0/\Le (hd (tl (tl l))) c20/\(c21->1=1/\1=1/\0=0/\(Le (hd (tl (tl l))) c20/\c21)/\1=1/\c23=c13/\0<=x/\x<Dx c23/\c23=c13/\inR .i64 c24/\∃y,aB1 (at0 l (3)) (at0 l (2)) l y/\(1=1/\0=0/\0=0/\1=1/\0=0/\0=0/\1=1/\0=0/\0=0/\hd (tl (tl l))=hd (tl (tl l))/\c4=c4/\1=1/\0=0/\0=0/\hd l=hd l/\1=1/\0=0/\0=0/\hd (tl l)=hd (tl l)/\1=1/\0=0/\0=0/\1=1/\0=0/\1=1/\1=1/\0=0/\0=0/\hd (tl (tl l))=hd (tl (tl l))/\1=1/\0=0/\0=0/\c4=c4/\hd (tl (tl l))=hd (tl (tl l))/\c3=c3/\c3=c3/\c5=c5/\1=1/\0=0/\0=0/\hd l=hd l/\1=1/\0=0/\1=1/\hd (tl l)=hd (tl l)/\aO=aO/\aO=aO/\c8=c8/\c8=c8/\c9=c9/\1=1/\0=0/\0=0/\hd (tl (tl l))=hd (tl (tl l))/\c14=c14/\1=1/\0=0/\2=2/\c4=c4/\c13=c13/\1=1/\0=0/\3=3/\1=1/\0=0/\3=3/\c13=c13/\c15=c15/\c24=y/\bK c20 c16=IV (at0 l (3)) (at0 l (2)) l y/\(0:Int)=(0:Int)/\(0:Int)=(0:Int)/\Value.slice none (0) (0)=Value.slice none (0) (0)/\Value.slice none (0) (0)=Value.slice none (0) (0)/\hd l=hd l/\hd (tl l)=hd (tl l)/\c14=c14/\c13=c13/\En c22 (Dc x) (kA (hd (tl (tl l))) c20)=nC (at0 l (3)) (at0 l (2)) c17 y/\1=1/\True)/\Dc (at0 l (3)-y)<Dc (at0 l (3)-x))/\(c21=false->nt l=false/\true/\c1=c1))/\(Dp x c15=false->1=1/\0=0/\1=1/\0=0/\c23=c13/\nt l/\1=1/\0=0/\hd l=(au l).1/\hd (tl l)=c18.1/\c14=c19.1/\c23=c13/\c22=c19.2/\c20=bM l/\1=1/\True)))))))))):
  evM c7 (aDv l) 142 [.ptr 1 1 0 0] [(1,.var [.dat R l])] (.agg [.dat I (au l).1,.dat I (au l).2.1,.dat M (au l).2.2.1,.dat (.sl M) (au l).2.2.2]) [(1,.var [.dat R (bM l)])] ⟨dE l,nt l,dj 39 190⟩:=oE hvc
def aEX: Kt:=kOr 142 (U9 1 R [.mp 1] (λ_ xs=>dE xs/\nt xs=true) (λ_ xs=>.agg [.dat I (au xs).1,.dat I (au xs).2.1,.dat M (au xs).2.2.1,.dat (.sl M) (au xs).2.2.2]) λ_ xs=>bM xs) aEi
def KP8: KPt:=pOr 142 (X1 1 R [.mp 1] λ_ xs=>⟨dE xs,nt xs,dj 39 190⟩) KP7
theorem MA(l:Li): sP l 0=1:=rfl
theorem Md(l:Li): sS l 0=0:=rfl
theorem zE{l:Li}{x:Int}(h0:0<=x)(h1:x<l.length): l.take (x+1).toNat=l.take x.toNat++[l.getD x.toNat 0]:=by
 rw[show(x+1).toNat=x.toNat+1 by omega,wX,qA,qB (by omega:x.toNat<l.length)];rfl
theorem GR{l:Li}{x:Int}(h0:0<=x)(h1:x<l.length): sP l (x+1)=sP l x*3%65521/\sS l (x+1)=(sS l x+l.getD x.toNat 0*(sP l x*3%65521))%65521:=by
 unfold sP sS;rw[zE h0 h1,RY];exact⟨rfl,rfl⟩
theorem aBW(l:Li)(x:Int): (0<=sP l x/\sP l x<65521)/\0<=sS l x/\sS l x<65521:=Me (l.take x.toNat) (st:=(1,0)) ⟨⟨by decide,by decide⟩,⟨by decide,by decide⟩⟩
theorem aAx{l:Li}{x:Int}(h:(l.length:Int)<=x): sS l x=GM l:=by
 unfold sS GM;rw[qO (by omega)]
theorem U0(l:Li): (rl l).length=l.length:=by unfold rl;rw[vV]
theorem aDt{l:Li}{i:Nat}(h:i<l.length): (rl l).getD i 0=l.getD i 0%65521:=by
 unfold rl;rw[qA,qP,qA,qB h];rfl
theorem dP{l:Li}: oh l=true↔∀x∈l,0<=x/\x<=65519:=by
 unfold oh;rw[qN];exact⟨λh x hx=>np.1 (h x hx),λh x hx=>np.2 (h x hx)⟩
theorem NP{l:Li}{x:Int}(h:Yf l x)(h1:x<l.length)(h2:btw (l.getD x.toNat 0) 0 65519=true): Yf l (x+1):=by
 obtain⟨a,b,c⟩:=h;refine⟨by omega,by omega,?_⟩
 rw[zE a h1];unfold oh at c ⊢;rw[kY,c];simpa using h2
theorem Tv{l:Li}{x:Int}(h:Yf l x)(h1:¬x<l.length): oh l=true:=by
 obtain⟨a,b,c⟩:=h
 rwa [qO (by omega)]at c
theorem NQ{l:Li}{x:Int}(h0:0<=x)(h1:x<l.length)(h2:btw (l.getD x.toNat 0) 0 65519=false): oh l=false:=by
 cases e:oh l with
 | false=>rfl
 | true=>
  have:=np.2 (dP.1 e _ (aS (l:=l) (i:=x.toNat) (d:=0) (by omega)))
  rw[this]at h2;cases h2
theorem U8{a b:Int}(a0:0<=a)(a1:a<=65521)(b0:0<=b)(b1:b<=65521): 0<=a*b/\a*b<=65521*65521:=
 ⟨qAc a0 b0,xI a1 b1 b0 (by omega)⟩
theorem tme{a:Int}(h:0<=a): a.tmod 65521=a%65521:=qCm h
theorem IH(s:Int)(l:Li): af Tryz.prog dS 141 [.agg [.dat R l,.dat I s]] [] ⟨Hm l,.dat .bool (dU l s),[]⟩:=by
 refine ae (c:=mkc UB) O3 aL hm (C4 s l ⟨rfl,λhl=>?_⟩)
 have hl:l.length<=2000000000000000:=hl;refine⟨⟨0,⟨qL _,vC _,rfl⟩,by simp[MA,Md]⟩,λx=>?_⟩
 intro c2 c3 c4 c5 aO c7 c8 c9 hx;refine⟨λh2=>?_,λh2=>?_⟩
 .have h2:x<(l.length:Int):=wJ h2;have h0:=hx.1;obtain⟨⟨p0,p1⟩,s0,s1⟩:=aBW l x;obtain⟨n1,n2⟩:=GR h0 h2;refine⟨h0,h2,trivial,λh4=>⟨?_,trivial⟩,λh4=>?_⟩
  .have:btw (l.getD x.toNat 0) 0 65519=false:=by simpa[c4,c3,Di,Du,Dc]using h4
   unfold dU;rw[NQ h0 h2 this];rfl
  .have hb:btw (l.getD x.toNat 0) 0 65519=true:=by simpa[c4,c3,Di,Du,Dc]using h4
   obtain⟨b0,b1⟩:=np.1 hb;have e6:aO=sP l (x+1):=by rw[n1];exact tme (by show 0<=sP l x*3;omega)
   obtain⟨⟨q0,q1⟩,_,_⟩:=aBW l (x+1);have e3:c3=l.getD x.toNat 0:=rfl;have e7:c7=c3*aO:=rfl;have e8:c8=sS l x+c7:=rfl;have e5:c5=sP l x*3:=rfl;have e9:c9=x+1:=rfl;clear_value c3 c5 aO c7 c8 c9;have hm:=U8 (a:=c3) (b:=aO) (by omega) (by omega) (by omega) (by omega)
   refine⟨ay (by omega),by decide,ay (by omega),ay (by omega),by decide,ay (by omega),x+1,NP hx h2 hb,⟨rfl,rfl,rfl,e6,?_,rfl,rfl,rfl,e9,trivial⟩,?_⟩
   .rw[n2,<- n1];show c8.tmod 65521=_;rw[tme (by omega),e8,e7,e3,e6]
   .simp only[Dw,Dc,Dj,Df];omega
 .have h2:¬x<(l.length:Int):=qCi h2;refine⟨?_,trivial⟩;unfold dU;rw[Tv hx h2,aAx (by omega),zQ]
  show(s==_)=_;rw[qBi];simp
theorem Da(l:Li): af Tryz.prog dS 36 [.dat R l] [] ⟨Pm l,.dat I (mS l),[]⟩:=by
 refine ae (c:=mkc UB) O3 aL hm (PL l ⟨rfl,λhl=>?_⟩)
 have hl:l.length<=9223372036854775807:=hl;refine⟨⟨0,⟨qL _,vC _⟩,by simp[MA,Md]⟩,λx=>?_⟩
 intro c1 c2 c3 c4 c5 aO c7 hx;refine⟨λh2=>?_,λh2=>?_⟩
 .have h2:x<(l.length:Int):=wJ h2;have h0:=hx.1;obtain⟨⟨p0,p1⟩,s0,s1⟩:=aBW (rl l) x;obtain⟨n1,n2⟩:=GR (l:=rl l) h0 (by rw[U0];exact h2)
  rw[aDt (by omega)]at n2
  have e4:c4=sP (rl l) (x+1):=by rw[n1];exact tme (by show 0<=sP (rl l) x*3;omega)
  obtain⟨⟨q0,q1⟩,_,_⟩:=aBW (rl l) (x+1);have em:Fq c3 65521=l.getD x.toNat 0%65521:=x7 (by decide)
  have m0:=kZ (l.getD x.toNat 0) (show(65521:Int)≠0 by decide)
  have m1:=kC (l.getD x.toNat 0) (show(0:Int)<65521 by decide)
  have e5:c5=Fq c3 65521*c4:=rfl;have e6:aO=sS (rl l) x+c5:=rfl;have e2:c2=sP (rl l) x*3:=rfl;have e7:c7=x+1:=rfl;have e3:c3=(l.getD x.toNat 0).tmod 65521+65521:=rfl;have tb:-65521<(l.getD x.toNat 0).tmod 65521/\(l.getD x.toNat 0).tmod 65521<65521:=by
   have:=qBc (a:=l.getD x.toNat 0) (b:=65521);split at this<;>omega
  rw[em]at e5;clear_value c2 c3 c4 c5 aO c7;have hm:=U8 (a:=l.getD x.toNat 0%65521) (b:=c4) (by omega) (by omega) (by omega) (by omega)
  refine⟨h0,h2,ay (by omega),by decide,by decide,ay (by omega),by decide,ay (by omega),ay (by omega),by decide,⟨show(-9223372036854775808:Int)<=_ by omega,show _<=(9223372036854775807:Int) by omega⟩,x+1,⟨by omega,by omega⟩,⟨rfl,rfl,e4,?_,rfl,rfl,e7,trivial⟩,?_⟩
  .rw[n2,<- n1];show aO.tmod 65521=_;rw[tme (by omega),e6,e5,e4]
  .simp only[Dw,Dc,Dj,Df];omega
 .have h2:¬x<(l.length:Int):=qCi h2;exact⟨aAx (by rw[U0];omega),trivial⟩
theorem aD8: aj Tryz.prog dS aEY:=ai (ag λ((l,s),_)=>IH s l)<|ai (ag λ(l,_)=>Da l) <|
 O3
theorem W5: ∀x xs,af Tryz.prog dS 207 (avK [.mp 1] x) [(1,.var [.dat R xs])] ⟨True/\bN xs=true,.dat I (hd xs),[(1,.var [.dat R (tl xs)])]⟩:=λ_ xs=>(rN xs).1
theorem aBD: aj Tryz.prog dS aEj:=
 ai (oZ W5) aD8
theorem O6: bL Tryz.prog dS KP6:=ik (sY λ_ xs=>(rN xs).2) H6
theorem po{α:Type}(xs:List α)(d v:α)(k:Nat)(hk:xs[k]?=some v): (xs.take k++List.replicate (xs.length-k) d).set k v=xs.take (k+1)++List.replicate (xs.length-(k+1)) d:=by
 obtain⟨h,e⟩:=qF.1 hk;have e2:xs.length-k=(xs.length-(k+1))+1:=by omega
 rw[e2,qBf,List.set_append_right _ _ (by simp;omega)]
 simp[wX,hk,yX (Nat.le_of_lt h)]
theorem iD(g:Int->Int->Int)(n:Int): (dt g n).length=n.toNat:=by simp[dt]
theorem sb(g:Int->Int->Int)(n x:Int)(h:ny x n): (fz g n x).length=n.toNat:=by
 have:=h.1;have:=h.2;simp only[fz,qG,qI,wG,iD];omega
theorem ve(g:Int->Int->Int)(n i x:Int)(h:ny x n): (ic g n i x).length=n.toNat:=by
 have:=h.1;have:=h.2;simp only[ic,qG,qI,wG,vV,vX];omega
theorem AE(g:Int->Int->Int)(n:Int): fz g n 0=List.replicate n.toNat []:=by simp[fz]
theorem DK(g:Int->Int->Int)(n i:Int): ic g n i 0=List.replicate n.toNat 0:=by simp[ic]
theorem DL(g:Int->Int->Int)(n i j:Int)(h0:0<=j)(h1:j<n): (ic g n i j).set j.toNat (g i j)=ic g n i (j+1):=by
 have e:(j+1).toNat=j.toNat+1:=by omega
 have:=po ((List.range n.toNat).map λj:Nat=>g i j) 0 (g i j) j.toNat (by
  rw[qP,vY (by omega)];simp[qR h0])
 simp only[vV,vX]at this;unfold ic;rw[e];exact this
theorem IU(g:Int->Int->Int)(n i j:Int)(h:ny j n)(h1:¬j<n): ic g n i j=(List.range n.toNat).map λj:Nat=>g i j:=by
 have:=h.1;have:=h.2;have e:j.toNat=n.toNat:=by omega
 unfold ic;rw[e,qO (by simp)];simp
theorem AG(g:Int->Int->Int)(n i j:Int)(h0:0<=i)(h1:i<n)(h:ny j n)(h2:¬j<n): (fz g n i).set i.toNat (ic g n i j)=fz g n (i+1):=by
 have e:(i+1).toNat=i.toNat+1:=by omega
 rw[IU g n i j h h2];have:=po (dt g n) [] ((List.range n.toNat).map λj:Nat=>g i j) i.toNat (by
  unfold dt;rw[qP,vY (by omega)];simp[qR h0])
 rw[iD]at this;unfold fz;rw[e];exact this
theorem DJ(g:Int->Int->Int)(n i:Int)(h:ny i n)(h1:¬i<n): fz g n i=dt g n:=by
 have:=h.1;have:=h.2;have e:i.toNat=n.toNat:=by omega
 unfold fz;rw[e,qO (by rw[iD];exact qJ _)];simp
theorem wA{l:Li}{k:Int}(h:0<=k): tl (bK l k)=bK l (k+1):=by
 unfold tl bK;rw[yH];congr 1;omega
theorem tD(l:Li)(k:Int): hd (bK l k)=l.getD k.toNat 0:=by
 unfold hd bK;simp[qA,qY]
theorem rk{l:Li}{k:Int}(h:0<=k): bN (bK l k)=decide (k<l.length):=by
 unfold bN bK;rw[vZ,qAw];omega
theorem drop_drop{l:Li}{a b:Int}(ha:0<=a)(hb:0<=b): bK (bK l a) b=bK l (a+b):=by
 unfold bK;rw[yH];congr 1;omega
theorem HK(l:Li)(k:Int): (bK l k).length=l.length-k.toNat:=by unfold bK;rw[vZ]
theorem gQ(i m:Int): (i+1)*m=i*m+m:=by rw[Int.add_mul,Int.one_mul]
theorem zP(m:Int)(l:Li): af Tryz.prog dS 208 [.ptr 1 1 0 0,.dat I m] [(1,.var [.dat R l])] ⟨Le m l/\nD m l=true,.dat M (kA m l),[(1,.var [.dat R (bK l (Ee m m))])]⟩/\
  cU Tryz.prog dS 208 [.ptr 1 1 0 0,.dat I m] [(1,.var [.dat R l])] ⟨Le m l,nD m l,dj 39 190⟩:=by
 refine cq (c:=aO) aBD aL hm O6 (If m l ⟨rfl,λhp=>?_⟩)
 obtain⟨m0,m1,⟨hin,hl⟩⟩:=hp;have hl:l.length<=2000000000000000:=hl;have em:(Int.ofNat (Dc m))=m:=qR m0;have bd:∀{k:Int},0<=k->k<l.length->0<=l.getD k.toNat 0/\l.getD k.toNat 0<=65519:=λ{k} h0 h1=>dP.1 hin _ (aS (by omega))
 simp only[em];simp only[qc,Dh,Es,Di,qd,Dt,Eb,Dy,Dp,Ei,Eh,Ed,Ew,Df,Et,Dl,Dn,Eo,Dz,Dw,Dj,Dq,Ee,Fe,Dc,Dx,Dk,Ec,Em,Du,Eu,Ez,En,Ef,Fg,Fj,Fh,Ep,Ej,Ey,Fb];refine⟨m0,by omega,by omega,by simp,⟨0,⟨⟨qL _,.inr rfl⟩,by rw[Int.zero_mul];exact vC _⟩,rfl,by rw[Int.zero_mul];rfl,(AE _ _).symm⟩,λx hx=>⟨λhlt=>?_,λhge=>?_⟩⟩
 .have h0:=hx.1.1;have hln:=sb (tg l m) m x hx.1;have xm0:0<=x*m:=qAc h0 m0;have top:(x+1)*m<=m*m:=kL (by omega) m0
  rw[gQ]at top;have em2:(m.toNat:Int)=m:=qR m0;have hlx:x<((fz (tg l m) m x).length:Int):=by rw[hln];omega
  refine⟨m0,by omega,by omega,hln,h0,hlx,hln,by simp,hln,h0,hlx,hln,by simp,⟨0,⟨⟨qL _,.inr rfl⟩,by have:=hx.2;omega⟩,rfl,by rw[Int.add_zero],(DK _ _ _).symm⟩,λy hy=>⟨λhy1=>?_,λhy1=>?_⟩⟩
  .have y0:=hy.1.1;have hrl:=ve (tg l m) m x y hy.1;have hly:y<((ic (tg l m) m x y).length:Int):=by rw[hrl];omega
   have eo:=rk (l:=l) (k:=x*m+y) (by omega)
   refine⟨hln,h0,hlx,hln,λho=>?_,λho=>?_⟩
   .have hlt2:x*m+y<l.length:=by rw[eo]at ho;exact wJ ho
    obtain⟨b0,b1⟩:=bd (k:=x*m+y) (by omega) hlt2
    have eh:hd (bK l (x*m+y))-1=tg l m x y:=by rw[tD];rfl
    refine⟨hln,h0,hlx,hln,ho,ay (by rw[tD];omega),hrl,y0,hly,hrl,ay (by omega),y+1,⟨⟨by omega,.inl (by omega)⟩,by omega⟩,⟨rfl,?_,?_⟩,by omega⟩
    .rw[wA (by omega),Int.add_assoc]
    .rw[eh];exact DL (tg l m) m x y y0 hy1
   .rw[eo,vN]at ho;unfold nD;rw[vN];omega
  .have hy2:y=m:=by rcases hy.1 with⟨y0,y1⟩;omega
   refine⟨ay (by omega),x+1,⟨⟨by omega,.inl (by omega)⟩,by rw[gQ];have:=hy.2;omega⟩,⟨rfl,by rw[gQ,hy2],ve _ _ _ _ hy.1,AG (tg l m) m x y h0 hlt hy.1 hy1⟩,by omega⟩
 .have hx2:x=m:=by rcases hx.1 with⟨x0,x1⟩;omega
  have htab:nD m l=true:=by
   unfold nD;rw[qE];have:=hx.2;rw[hx2]at this;exact this
  refine⟨htab,sb _ _ _ hx.1,DJ _ _ _ hx.1 hge,?_⟩;rw[hx2]
theorem aBC: aj Tryz.prog dS aEi:=ai (oZ λ(_,m,_) xs=>(zP m xs).1) aBD
theorem VD: bL Tryz.prog dS KP7:=ik (sY λ(_,m,_) xs=>(zP m xs).2) O6
theorem fa{l:Li}(h:dE l)(k:Int): dE (bK l k):=
 ⟨dP.2 λx hx=>dP.1 h.1 x (List.mem_of_mem_drop hx),by show(bK l k).length<=_;rw[HK];have:l.length<=2000000000000000:=h.2;omega⟩
theorem UO(l:Li): af Tryz.prog dS 142 [.ptr 1 1 0 0] [(1,.var [.dat R l])] ⟨dE l/\nt l=true,.agg [.dat I (au l).1,.dat I (au l).2.1,.dat M (au l).2.2.1,.dat (.sl M) (au l).2.2.2],[(1,.var [.dat R (bM l)])]⟩/\
  cU Tryz.prog dS 142 [.ptr 1 1 0 0] [(1,.var [.dat R l])] ⟨dE l,nt l,dj 39 190⟩:=by
 refine cq (c:=c7) aBC aL hm VD (VW l ⟨rfl,λhp=>?_⟩)
 have hl:l.length<=2000000000000000:=hp.2;have t1:tl l=bK l 1:=rfl;have t2:tl (tl l)=bK l 2:=by rw[t1,wA (by decide)];rfl
 have t3:tl (tl (tl l))=bK l 3:=by rw[t2,wA (by decide)];rfl
 have t4:tl (tl (tl (tl l)))=bK l 4:=by rw[t3,wA (by decide)];rfl
 have h0:hd l=at0 l 0:=rfl;have h1:hd (tl l)=at0 l 1:=by rw[t1,tD];rfl
 have h2:hd (tl (tl l))=at0 l 2:=by rw[t2,tD];rfl
 have h3:hd (tl (tl (tl l)))=at0 l 3:=by rw[t3,tD];rfl
 have o0:bN l=decide (0<l.length):=rfl;have o1:bN (tl l)=decide (1<l.length):=by rw[t1,rk (by decide),qAw];omega
 have o2:bN (tl (tl l))=decide (2<l.length):=by rw[t2,rk (by decide),qAw];omega
 have o3:bN (tl (tl (tl l)))=decide (3<l.length):=by rw[t3,rk (by decide),qAw];omega
 have bd:∀k:Nat,0<=at0 l k/\at0 l k<=65519:=λk=>by
  unfold at0;by_cases hk:k<l.length
  .exact dP.1 hp.1 _ (aS hk)
  .rw[qA,wH (by omega)];exact⟨by decide,by decide⟩
 obtain⟨a0,a1⟩:=bd 0;obtain⟨b0,b1⟩:=bd 1;obtain⟨m0,m1⟩:=bd 2;obtain⟨q0,q1⟩:=bd 3;have epl:nt l=(decide (4<=l.length)&&sA l&&decide (4+at0 l 2*at0 l 2+at0 l 3*(at0 l 2*at0 l 2)<=l.length)):=rfl;have ehd:sA l=decide (at0 l 2<=12/\at0 l 3<=4/\at0 l 0<at0 l 1/\at0 l 1<=at0 l 0+60/\at0 l 1<=600):=rfl;have shrt:l.length<4->nt l=false:=λh=>by rw[epl,vK (by omega)];rfl
 have noHd:sA l=false->nt l=false:=λh=>by rw[epl,h];simp
 have noLen:¬4+at0 l 2*at0 l 2+at0 l 3*(at0 l 2*at0 l 2)<=l.length->nt l=false:=λh=>by rw[epl,vK h];simp
 simp only[h0,h1,h2,h3,o0,o1,o2,o3,t4];have eq3:Int.ofNat (Dc (at0 l 3))=at0 l 3:=qR q0;simp only[eq3];simp only[qc,Dh,Es,Di,qd,Dt,Eb,Dy,Dp,Ei,Eh,Ed,Ew,Df,Et,Dl,Dn,Eo,Dz,Dw,Dj,Dq,Ee,Fe,Dc,Dx,Dk,Ec,Em,Du,Eu,Ez,En,Ef,Fg,Fj,Fh,Ep,Ej,Ey,Fb];obtain⟨mm,hmm⟩:∃mm,mm=at0 l 2*at0 l 2:=⟨_,rfl⟩;have mm0:0<=mm:=by rw[hmm];exact qAc m0 m0
 have eK:∀k,IV (at0 l 3) (at0 l 2) l k=bK l (4+mm+k*mm):=λk=>by unfold IV;rw[hmm]
 have tabA:∀k:Int,0<=k->(nD (at0 l 2) (bK l k)=true↔mm<=((l.length-k.toNat:Nat):Int)):=λk hk=>by
  unfold nD;rw[qE,HK,hmm]
 have ePL:nt l=true↔4<=l.length/\sA l=true/\4+mm+at0 l 3*mm<=l.length:=by
  rw[epl,qC,qC,qE,qE,hmm,qDe]
 have tl_len:(uw (at0 l 3) (at0 l 2) (bK l (4+mm))).length=(at0 l 3).toNat:=by unfold uw;simp
 have tT_len:∀{x:Int},ny x (at0 l 3)->(nC (at0 l 3) (at0 l 2) (bK l (4+mm)) x).length=(at0 l 3).toNat:=λ{x} ⟨h1,h2⟩=>by
  unfold nC;rw[qG,qI,wG,tl_len];omega
 simp only[eK,<- hmm];refine⟨λh=>shrt (by omega),λl0=>⟨l0,λh=>shrt (by omega),λl1=>⟨l1,λh=>shrt (by omega),λl2=>⟨l2,λh=>shrt (by omega),λl3=>⟨l3,λh=>noHd ?_,λhA=>⟨hA,λh=>ay (by omega),λh=>noHd ?_,λhB=>⟨hB,?_⟩⟩⟩⟩⟩⟩⟩
 .rw[ehd,vN];intro g;exact h g.1 g.2.1
 .rw[ehd,vN];intro g;exact h ⟨g.2.2.1,g.2.2.2.1⟩ g.2.2.2.2
 have hH:sA l=true:=by rw[ehd,qE];exact⟨hA.1,hA.2,hB.1.1,hB.1.2,hB.2⟩
 have tP:∀k,Le (at0 l 2) (bK l k):=λk=>⟨m0,hA.1,fa hp k⟩
 have mono:∀{k:Int},0<=k->k<=at0 l 3->k*mm<=at0 l 3*mm:=λh1 h2=>kL h2 mm0
 have kmm:∀{k:Int},0<=k->0<=k*mm:=λh=>qAc h mm0
 have bad:¬(4+mm+at0 l 3*mm<=l.length)->nt l=false:=λh=>by
  cases e:nt l with
  | false=>rfl
  | true=>exact absurd (ePL.1 e).2.2 h
 refine⟨⟨tP 4,λh=>bad ?_⟩,λhT=>⟨⟨tP 4,hT⟩,q0,by omega,by omega,by simp,by simp,⟨0,⟨⟨qL _,.inr rfl⟩,?_⟩,rfl,?_,?_⟩,λx hx=>⟨λhlt=>⟨tP _,λhT2=>?_,λhT2=>bad ?_⟩,λhge=>?_⟩⟩⟩
 .have:¬mm<=((l.length-(4:Int).toNat:Nat):Int):=λg=>by rw[(tabA 4 (by decide)).2 g]at h;cases h
  have:=kmm q0;have e4:(4:Int).toNat=4:=rfl;omega
 .have:=(tabA 4 (by decide)).1 hT
  have e4:(4:Int).toNat=4:=rfl;show(0+1)*(at0 l 2*at0 l 2)<=(l.length:Int)-4;rw[<- hmm];omega
 .rw[drop_drop (by decide) mm0,Int.zero_mul,Int.add_zero]
 .unfold nC;simp
 .have h0:=hx.1.1;have hl2:=tT_len hx.1;have h2':=hx.2;rw[<- hmm,gQ]at h2';have hT3:=(tabA _ (by have:=kmm h0;omega)).1 hT2
  have:=kmm h0;refine⟨⟨tP _,hT2⟩,hl2,h0,by rw[hl2];omega,hl2,ay (by omega),x+1,⟨⟨by omega,.inl (by omega)⟩,?_⟩,⟨rfl,?_,?_⟩,by omega⟩
  .rw[<- hmm,gQ,gQ];omega
  .rw[drop_drop (by omega) mm0];congr 1;rw[gQ];omega
  .have e:(x+1).toNat=x.toNat+1:=by omega
   have:=po (uw (at0 l 3) (at0 l 2) (bK l (4+mm))) [] (kA (at0 l 2) (bK l (4+mm+x*mm))) x.toNat (by
    unfold uw;rw[qP,vY (by omega),zO,qR h0,drop_drop (by omega) (by rw[<- hmm];exact kmm h0),<- hmm])
   rw[tl_len]at this;unfold nC;rw[e];exact this
 .have h0:=hx.1.1;have hx0:=kmm h0;have hn:¬mm<=((l.length-(4+mm+x*mm).toNat:Nat):Int):=λg=>by rw[(tabA _ (by omega)).2 g]at hT2;cases hT2
  have:=mono (k:=x+1) (by omega) (by omega)
  rw[gQ]at this;omega
 .have hxe:x=at0 l 3:=by rcases hx.1 with⟨h1,h2⟩;omega
  subst hxe;have h2':=hx.2;rw[<- hmm,gQ]at h2';refine⟨tT_len hx.1,ePL.2 ⟨by omega,hH,by omega⟩,rfl,rfl,rfl,tT_len hx.1,?_,?_⟩
  .unfold nC;rw[qO (by rw[tl_len];exact qJ _),qCc]
   show _++[]=_;rw[wM,hmm];rfl
  .rw[hmm];rfl
theorem aD7: aj Tryz.prog dS aEX:=ai (oZ λ_ xs=>(UO xs).1) aBC
theorem aBH: bL Tryz.prog dS KP8:=ik (sY λ_ xs=>(UO xs).2) VD
end Go.Eng.In
set_option maxRecDepth 100000
namespace Go.Eng.Sv
open Go.Proofs
noncomputable def JD(args:List AV)(m:Mem): Option jD:=match args,m with
 | [.ifc t (.dat (.int .i64) e)],[]=>if t=39 then some ⟨True,.dat I e,[]⟩else none
 | _,_=>none
noncomputable def KR5: Kt:=kOr 94 JD <|
 kOr 102 (ax [.ptr N,.val M,.val I,.val I,.val I] (λ(n,nx,o,to,t,_)=>Gk n nx o to t/\isZero (je n nx o to t)=true) λ(n,nx,o,to,t,_)=>.dat (.sl Stp) (uq n nx o to t)) KR4
noncomputable def KPw: KPt:=pOr 102 (uG [.ptr N,.val M,.val I,.val I,.val I] λ(n,nx,o,to,t,_)=>⟨Gk n nx o to t,isZero (je n nx o to t),um 39 (je n nx o to t)⟩) <|
 pOr 95 (uG [.val .bool] λ(b,_)=>⟨True,b,um 39 1⟩) KPm
theorem TY: ∀args m c,JD args m=some c->af Tryz.prog G0 94 args m c:=by
 intro args m c h;unfold JD at h;split at h
 .split at h
  .rename_i e;subst e;cases h;exact W4 _
  .cases h
 .cases h
theorem aEF: aj Tryz.prog G0 KR5:=ai TY<|ai (ag λ((cs,ns,os,fs,ls,ks),nx,o,to,t,_)=>(Lu nx o to t cs ns os fs ls ks).1) aEG
theorem VB: bL Tryz.prog G0 KPw:=ik (iZ λ((cs,ns,os,fs,ls,ks),nx,o,to,t,_)=>(Lu nx o to t cs ns os fs ls ks).2)<|ik (iZ λ(b,_)=>(zR b).2) VC
end Go.Eng.Sv
set_option maxRecDepth 100000
noncomputable section
namespace Go.Eng.Sv
open Go.Proofs
def aDR(w:List Bool)(h:Li): Nat->Int->Option Int
 | 0,d=>some d
 | n+1,d=>(uA w h (d+1)).bind (aDR w h n)
def bI(n:Net)(k:Int): Cla:=n.2.2.2.2.2.getD k.toNat (⟨#[]⟩,0,0)
def CW(n:Net)(k:Int): Prop:=0<=k/\k<n.2.2.2.2.2.length
def TK(n:Net)(k o t:Int): Int:=iz (aB n o) (bI n k).2.2 (aH n o t)
def Zf(n:Net)(k o t:Int): Int:=mB (aB n o) (bI n k).2.2 (aH n o t)
theorem SS(cs:LC)(ns os:LB)(fs:Lo)(ls:Ll)(ks:Lk)(h:noF (cs,ns,os,fs,ls,ks)=true): ∀x∈ks,iy x=true:=
 ((jQ (by decide) (λl:Cla=>l.1) iy ks).1 (iO cs ns os fs ls ks h).2.2.2.2.2).2.2.2
theorem tY(cs:LC)(ns os:LB)(fs:Lo)(ls:Ll)(ks:Lk){k:Int}(h:noF (cs,ns,os,fs,ls,ks)=true)(hk:CW (cs,ns,os,fs,ls,ks) k): (0<=(bI (cs,ns,os,fs,ls,ks) k).2.1/\(bI (cs,ns,os,fs,ls,ks) k).2.1<=1439)/\0<=(bI (cs,ns,os,fs,ls,ks) k).2.2/\(bI (cs,ns,os,fs,ls,ks) k).2.2<=1439:=by
 obtain⟨k0,k1⟩:=hk;have k1:k<(ks.length:Int):=k1;have hm:bI (cs,ns,os,fs,ls,ks) k∈ks:=by
  show ks.getD k.toNat _∈ks;rw[qA,qB (by omega),qQ]
  exact wQ _
 have:=SS cs ns os fs ls ks h _ hm;unfold iy dQ at this;simp only[qC,qE]at this;omega
theorem MS(cs:LC)(ns os:LB)(fs:Lo)(ls:Ll)(ks:Lk){o t:Int}(h:my (cs,ns,os,fs,ls,ks) o): t+1<=aH (cs,ns,os,fs,ls,ks) o t/\aH (cs,ns,os,fs,ls,ks) o t<=t+960:=by
 obtain⟨_,_,_,g1,g2,g3,g4⟩:=gq cs ns os fs ls ks h;unfold aH;have h1:1*1<=(b7 (cs,ns,os,fs,ls,ks) o).2.2.2.2.1*(b7 (cs,ns,os,fs,ls,ks) o).2.2.2.2.2.1:=xI g1 g3 (by decide) (by omega)
 have h2:(b7 (cs,ns,os,fs,ls,ks) o).2.2.2.2.1*(b7 (cs,ns,os,fs,ls,ks) o).2.2.2.2.2.1<=4*240:=xI g2 g4 (by omega) (by decide)
 omega
theorem YP{w:List Bool}{h:Li}: ∀(k:Nat) {d e:Int},aDR w h k d=some e->d<=e/\e<=d+61*k
 | 0,d,e,g=>by cases g;omega
 | k+1,d,e,g=>by
  unfold aDR at g;obtain⟨y,h1,h2⟩:=qDd.1 g;have hm:y∈iG w h (d+1) 60:=qCa (by unfold uA at h1;rw[h1];rfl)
  have:=Bn hm;have:=YP k h2;omega
end Go.Eng.Sv
set_option maxRecDepth 100000
noncomputable section
namespace Go.Eng.Sv
open Go.Proofs
def Y5(xs:Li)(k:Nat): Prop:=xs.length=k
def Ib(xs ys:Li): Prop:=xs.length+ys.length<=1000000000000
def upR(l:Li)(b k:Int): Li:=(l.take k.toNat).map λx=>x+b
def upTo(l:Li)(k:Int): Prop:=0<=k/\k<=l.length
def rsP(b:Int)(l xs:Li)(k:Nat): Prop:=(xs.length=k/\xs.length+l.length<=1000000000000)/\-1000000<=b/\b<=1000000/\∀x∈l,-1000000000<=x/\x<=1000000000
def wHd(n:Net)(p:Plan)(a:AV): List AV:=[.dat (.sl C) n.1,.dat (.sl S) n.2.1,.dat (.sl S) n.2.2.1,.dat (.sl (.pair S (.pair I (.pair I (.pair I (.pair I (.pair I (.sl S)))))))) n.2.2.2.1,.dat (.sl (.pair S (.pair I (.pair I (.pair I (.pair I I)))))) n.2.2.2.2.1,.dat (.sl (.pair S (.pair I I))) n.2.2.2.2.2,.dat I p.1,.dat I p.2.1,.dat M p.2.2.1,.dat (.sl M) p.2.2.2,a]
def mr(n:Net)(p:Plan)(k:Nat)(xs:Li): Mem:=[(2,.var (wHd n p (.buf 3 k))),(3,.buf 3 I xs [])]
def gk(t:Ty): AV->Option t.den
 | .dat t' x=>if h:t'=t then some (h▸x)else none
 | _=>none
def aCb: List AV->Option (Net×Plan×AV)
 | [a1,a2,a3,a4,a5,a6,a7,a8,a9,a10,a]=>match gk (.sl C) a1,gk (.sl S) a2,gk (.sl S) a3,gk (.sl Of) a4,gk (.sl Ln) a5,gk (.sl Kl) a6,gk I a7,gk I a8,gk M a9,gk (.sl M) a10 with
  | some cs,some ns,some os,some fs,some ls,some ks,some p1,some p2,some p3,some p4=>some ((cs,ns,os,fs,ls,ks),(p1,p2,p3,p4),a)
  | _,_,_,_,_,_,_,_,_,_=>none
 | _=>none
def asW(m:Mem): Option (Net×Plan×Nat×Li):=match m with
 | [(2,.var cells),(3,.buf el tx xs [])]=>match aCb cells,gk R (.dat (.sl tx) xs)with
  | some (n,p,.buf 3 k),some ys=>if el=3 then some (n,p,k,ys)else none
  | _,_=>none
 | _=>none
def aB4(a b:List AV->Mem->Option jD): List AV->Mem->Option jD:=λargs m=>match a args m with
 | some c=>some c
 | none=>b args m
def wK(l:List AK)(pre:AKs l->Net->Plan->Nat->Li->Prop)(ret:AKs l->Net->Plan->AV)(add:AKs l->Net->Plan->Li)(args:List AV)(m:Mem): Option jD:=match asW m,ofK l args with
 | some (n,p,k,xs),some x=>some ⟨pre x n p k xs,ret x n p,mr n p (Ec k (Dk (add x n p))) (Ef xs (add x n p))⟩
 | _,_=>none
def wR(l:List AK)(pre:AKs l->Net->Plan->Nat->Li->Prop)(ret:AKs l->Net->Plan->AV)(args:List AV)(m:Mem): Option jD:=match asW m,ofK l args with
 | some (n,p,k,xs),some x=>some ⟨pre x n p k xs,ret x n p,[]⟩
 | _,_=>none
def wP(l:List AK)(q:AKs l->Net->Plan->Nat->Li->wt)(args:List AV)(m:Mem): Option wt:=match asW m,ofK l args with
 | some (n,p,k,xs),some x=>some (q x n p k xs)
 | _,_=>none
def asI: AV->Option (Net×Plan)
 | .ips cells=>match aCb cells with
  | some (n,p,.top)=>some (n,p)
  | _=>none
 | _=>none
def wI(l:List AK)(pre:AKs l->Net->Plan->Prop)(ret:AKs l->Net->Plan->AV)(args:List AV)(m:Mem): Option jD:=match m,args with
 | [],a::ar=>match asI a,ofK l ar with
  | some (n,p),some x=>some ⟨pre x n p,ret x n p,[]⟩
  | _,_=>none
 | _,_=>none
theorem ZP(k:Nat)(xs ys:Li)(n:Net)(p:Plan)(hvc:
 let c3:=n.2.2.2;let c1:=Dk (Ef xs ys);let c2:=k+Dk ys;true/\(Y5 xs k/\Ib xs ys->1=1/\Dk xs<=c1/\1=1/\1=1/\1=1/\0=0/\Dk xs=k/\(c2*(8))<=(140737488355328)/\c2<=(9223372036854775807)/\1=1/\1=1/\1=1/\0=0/\c1=c2/\n.1=n.1/\n.2.1=n.2.1/\n.2.2.1=n.2.2.1/\c3.1=c3.1/\c3.2.1=c3.2.1/\c3.2.2=c3.2.2/\p.1=p.1/\p.2.1=p.2.1/\p.2.2.1=p.2.2.1/\p.2.2.2=p.2.2.2/\c2=c2/\Ef xs ys=Ef xs ys/\1=1/\Dk xs=Dk xs/\True)):
  evF (mkc KR2) az 66 [.ptr 2 1 0 0,.dat R ys] (mr n p k xs) ⟨Y5 xs k/\Ib xs ys,.tup [],mr n p (Ec k (Dk ys)) (Ef xs ys)⟩:=oE hvc
def KW1: Kt:=kOr 66 (wK [.mp 2,.val R] (λ(_,ys,_) _ _ k xs=>Y5 xs k/\Ib xs ys) (λ_ _ _=>.tup []) λ(_,ys,_) _ _=>ys) KR2
def rsA(b:Int)(l xs:Li)(n:Net)(p:Plan): Ann:=⟨λid s=>match id with
 | 1=>some {α:=Int,inv:=λj=>upTo l j,st:=λj=>{put (flat s) [(10,.dat I j)]with mem:=mr n p (Ec (Dk xs) (Dk (upR l b j))) (Ef xs (upR l b j))},μ:=λj=>Dc (Dj (Df l) j)}
 | _=>none,λ_ _=>none,λ_ _=>none⟩
theorem Ks(b:Int)(k:Nat)(l xs:Li)(n:Net)(p:Plan)(hvc:
 let c7:=n.2.1;let c6:=p.2.1;let c5:=n.2.2.1;let c4:=p.2.2;let c3:=n.2.2.2;let c1:=upR l b (Df l);let c2:=Ef xs c1;true/\(rsP b l xs k->1=1/\Dk xs<=Dk c2/\(∃x,upTo l x/\1=1/\0=0/\0=0/\b=b/\l=l/\Df l=Df l/\0=x/\n.1=n.1/\c7=c7/\c5=c5/\c3.1=c3.1/\c3.2.1=c3.2.1/\c3.2.2=c3.2.2/\p.1=p.1/\c6=c6/\c4.1=c4.1/\c4.2=c4.2/\k=Dk xs+Dk (upR l b x)/\xs=Ef xs (upR l b x)/\1=1/\Dk xs=Dk xs/\True)/\∀(x:Int),let c19:=Dp x (Df l);let c20:=Du l (Dc x) 0+b;let c21:=Ef xs (upR l b x);let c22:=Dk xs+Dk (upR l b x);let c23:=[c20];let c24:=Ef c21 c23;let c25:=x+1;upTo l x->(c19->0<=x/\x<Df l/\inR .i64 c20/\(Y5 c21 c22/\Ib c21 c23)/\1=1/\Dk c21<=Dk c24/\inR .i64 c25/\∃y,upTo l y/\(1=1/\0=0/\0=0/\b=b/\l=l/\Df l=Df l/\c25=y/\n.1=n.1/\c7=c7/\c5=c5/\c3.1=c3.1/\c3.2.1=c3.2.1/\c3.2.2=c3.2.2/\p.1=p.1/\c6=c6/\c4.1=c4.1/\c4.2=c4.2/\c22+Dk c23=Dk xs+Dk (upR l b y)/\c24=Ef xs (upR l b y)/\1=1/\Dk xs=Dk xs/\True)/\Dc (Df l-y)<Dc (Df l-x))/\(c19=false->n.1=n.1/\c7=c7/\c5=c5/\c3.1=c3.1/\c3.2.1=c3.2.1/\c3.2.2=c3.2.2/\p.1=p.1/\c6=c6/\c4.1=c4.1/\c4.2=c4.2/\c22=k+Dk c1/\c21=c2/\1=1/\Dk xs=Dk xs/\True))):
  evF (mkc KW1) (lvA [(1,[0,1,7,8,9,10])] (rsA b l xs n p)) 67 [.ptr 2 1 0 0,.dat I b,.dat R l] (mr n p k xs) ⟨rsP b l xs k,.tup [],mr n p (Ec k (Dk (upR l b (Df l)))) (Ef xs (upR l b (Df l)))⟩:=oE hvc
def KW2: Kt:=kOr 67 (wK [.mp 2,.val I,.val R] (λ(_,b,l,_) _ _ k xs=>rsP b l xs k) (λ_ _ _=>.tup []) λ(_,b,l,_) _ _=>upR l b (Df l)) KW1
theorem VN(o:Int)(k:Nat)(xs:Li)(n:Net)(p:Plan)(hvc:
 let c1:=n.2.2.2;let c5:=(Du c1.1 (Dc o) (ByteArray.mk #[],(0:Int),(0:Int),(0:Int),(0:Int),(0:Int),Dt ByteArray)).2.2.1;let c7:=Du n.1 (Dc c5) ((0:Int),Dt Bool,Dt Int);let c9:=(aB n o).2;true/\(my n o->1=1/\1=1/\1=1/\1=1/\0=0/\1=1/\1=1/\1=1/\1=1/\0=0/\0<=o/\o<Df c1.1/\0<=c5/\c5<Df n.1/\1=1/\0=0/\1=1/\0=0/\c7.1=(aB n o).1/\c7.2.1=c9.1/\c7.2.2=c9.2/\n.1=n.1/\n.2.1=n.2.1/\n.2.2.1=n.2.2.1/\c1.1=c1.1/\c1.2.1=c1.2.1/\c1.2.2=c1.2.2/\p.1=p.1/\p.2.1=p.2.1/\p.2.2.1=p.2.2.1/\p.2.2.2=p.2.2.2/\k=k/\xs=xs/\1=1/\Dk xs=Dk xs/\True)):
  evF (mkc KR2) az 136 [.ptr 2 1 0 0,.dat I o] (mr n p k xs) ⟨my n o,cal (aB n o).1 (aB n o).2.1 (aB n o).2.2,[]⟩:=oE hvc
theorem P1(o:Int)(n:Net)(p:Plan)(hvc:
 let c2:=(Du n.2.2.2.1 (Dc o) (ByteArray.mk #[],(0:Int),(0:Int),(0:Int),(0:Int),(0:Int),Dt ByteArray)).2.2.1;let c4:=Du n.1 (Dc c2) ((0:Int),Dt Bool,Dt Int);let c6:=(aB n o).2;true/\(my n o->0<=o/\o<Df n.2.2.2.1/\0<=c2/\c2<Df n.1/\1=1/\0=0/\1=1/\0=0/\c4.1=(aB n o).1/\c4.2.1=c6.1/\c4.2.2=c6.2/\True)):
  evF (mkc KR2) az 136 [.ips (wHd n p .top),.dat I o] [] ⟨my n o,cal (aB n o).1 (aB n o).2.1 (aB n o).2.2,[]⟩:=oE hvc
theorem VL(o t:Int)(k:Nat)(xs:Li)(n:Net)(p:Plan)(hvc:
 let c1:=n.2.2.2;let c5:=(Du c1.1 (Dc o) (ByteArray.mk #[],(0:Int),(0:Int),(0:Int),(0:Int),(0:Int),Dt ByteArray)).2.2.2.2;let c6:=c5.1*c5.2.1;let c7:=t+c6;true/\(fB n o t->1=1/\1=1/\1=1/\1=1/\0=0/\0<=o/\o<Df c1.1/\1=1/\1=1/\1=1/\1=1/\0=0/\0<=o/\o<Df c1.1/\inR .i64 c6/\inR .i64 c7/\c7=aH n o t/\n.1=n.1/\n.2.1=n.2.1/\n.2.2.1=n.2.2.1/\c1.1=c1.1/\c1.2.1=c1.2.1/\c1.2.2=c1.2.2/\p.1=p.1/\p.2.1=p.2.1/\p.2.2.1=p.2.2.1/\p.2.2.2=p.2.2.2/\k=k/\xs=xs/\1=1/\Dk xs=Dk xs/\True)):
  evF (mkc KR2) az 139 [.ptr 2 1 0 0,.dat I o,.dat I t] (mr n p k xs) ⟨fB n o t,.dat I (aH n o t),[]⟩:=oE hvc
theorem J9(z m t:Int)(w:List Bool)(h:Li)(hvc:
 let c1:=(z,w,h);let c2:=Dp m (Pj z t);let c3:=gY z t+1;let c4:=iq w h c3;let c5:=Dy c4 0;let c6:=iz c1 m t;let c7:=mB c1 m t;let c8:=iu w h c3;let c9:=iq w h (gY z t);let c10:=Dy c9 0;let c11:=iu w h (gY z t);true/\(zu c1 m t->ga z w h t/\(c2->inR .i64 c3/\Pz z w h c3/\(c5->0=c6/\c4=c7/\True)/\(c5=false->lr z w h c8 m/\jF z c8 m=c6/\0=c7/\True))/\(c2=false->Pz z w h (gY z t)/\(c10->0=c6/\c9=c7/\True)/\(c10=false->lr z w h c11 m/\jF z c11 m=c6/\0=c7/\True)))):
  evF (mkc KR2) az 138 [cal z w h,.dat I m,.dat I t] [] ⟨zu (z,w,h) m t,.tup [.dat I (iz (z,w,h) m t),.dat I (mB (z,w,h) m t)],[]⟩:=oE hvc
theorem PT(v e:Int)(hvc:
 let c1:=Dy e 0;let c2:=chainOf (Value.iface (39) (Value.int IntKind.i64 e));true/\(True->(c1->(true->True/\(false=false->isZero e=false/\true/\c2=c2))/\True)/\(c1=false->isZero e/\v=v/\True))):
  evC (mkc KR2) az 137 [.dat I v,.dat I e] (.dat I v) ⟨True,isZero e,um 39 e⟩:=oE hvc
theorem P0(e:Int)(hvc:
 true/\(True->(true->e=e/\True)/\(true=false->1=e/\True))):
  evF (mkc KR2) az 63 [.ifc 39 (.dat I e)] [] ⟨True,.dat I e,[]⟩:=oE hvc
theorem Ic(i l:Int)(hvc:
 let c1:=Ed i 0;true/\(True->(c1->c1->c1)/\(c1->c1->c1)/\(Dh true c1->c1)/\Ea c1 (Dp i l) false=dM i l/\True)):
  evF (mkc KR2) az 205 [.dat I i,.dat I l] [] ⟨True,.dat .bool (dM i l),[]⟩:=oE hvc
theorem VM(c o:Int)(k:Nat)(xs:Li)(n:Net)(p:Plan)(hvc:
 let c1:=n.2.2.2;true/\(True->1=1/\0=0/\0=0/\o=o/\c=c/\n.1=n.1/\n.2.1=n.2.1/\n.2.2.1=n.2.2.1/\c1.1=c1.1/\c1.2.1=c1.2.1/\c1.2.2=c1.2.2/\p.1=p.1/\p.2.1=p.2.1/\p.2.2.1=p.2.2.1/\p.2.2.2=p.2.2.2/\k=k/\xs=xs/\1=1/\Dk xs=Dk xs/\True)):
  evF (mkc KR2) az 134 [.ptr 2 1 0 0,.dat I c,.dat I o] (mr n p k xs) ⟨True,.fn 206 [.ipv (.ptr 2 1 0 0),.ip I o,.ip I c],[]⟩:=oE hvc
def KW3: Kt:=kOr 136 (aB4 (wR [.mp 2,.val I] (λ(_,o,_) n _ _ _=>my n o) λ(_,o,_) n _=>cal (aB n o).1 (aB n o).2.1 (aB n o).2.2) (wI [.val I] (λ(o,_) n _=>my n o) λ(o,_) n _=>cal (aB n o).1 (aB n o).2.1 (aB n o).2.2)) <|
 kOr 139 (wR [.mp 2,.val I,.val I] (λ(_,o,t,_) n _ _ _=>fB n o t) λ(_,o,t,_) n _=>.dat I (aH n o t)) <|
 kOr 138 (ax [.row C,.val I,.val I] (λ(c,m,t,_)=>zu c m t) λ(c,m,t,_)=>.tup [.dat I (iz c m t),.dat I (mB c m t)]) <|
 kOr 137 (ax [.val I,.val I] (λ(_,e,_)=>True/\isZero e=true) λ(v,_,_)=>.dat I v) <|
 kOr 205 (ax [.val I,.val I] (λ_=>True) λ(i,l,_)=>.dat .bool (dM i l)) <|
 kOr 134 (wR [.mp 2,.val I,.val I] (λ_ _ _ _ _=>True) λ(_,c,o,_) _ _=>.fn 206 [.ipv (.ptr 2 1 0 0),.ip I o,.ip I c]) KW2
def aEc: KPt:=pOr 137 (uG [.val I,.val I] λ(_,e,_)=>⟨True,isZero e,um 39 e⟩) Go.Eng.noP
theorem NF{P:Program}{G:List (Nat×AV)}{f:FuncId}{a b:List AV->Mem->Option jD}(ha:∀args m c,a args m=some c->af P G f args m c)(hb:∀args m c,b args m=some c->af P G f args m c): ∀args m c,aB4 a b args m=some c->af P G f args m c:=by
 intro args m c h;unfold aB4 at h;split at h
 .rename_i h1;cases h;exact ha _ _ _ h1
 .exact hb _ _ _ h
theorem bC{t:Ty}{a:AV}{x:t.den}(h:gk t a=some x): a=.dat t x:=by
 unfold gk at h;split at h
 .split at h
  .rename_i e;subst e;cases h;rfl
  .cases h
 .cases h
theorem OW{l:List AV}{n:Net}{p:Plan}{a:AV}(h:aCb l=some (n,p,a)): l=wHd n p a:=by
 unfold aCb at h;split at h
 .split at h
  .rename_i h1 h2 h3 h4 h5 h6 h7 h8 h9 h10;cases h;rw[bC h1,bC h2,bC h3,bC h4,bC h5,bC h6,bC h7,bC h8,bC h9,bC h10];rfl
  .cases h
 .cases h
theorem OU{m:Mem}{n:Net}{p:Plan}{k:Nat}{xs:Li}(h:asW m=some (n,p,k,xs)): m=mr n p k xs:=by
 unfold asW at h;split at h
 .split at h
  .rename_i h1 h2;split at h
   .rename_i e;cases h;rw[OW h1,e];have:=bC h2;cases this;rfl
   .cases h
  .cases h
 .cases h
theorem Vv{a:AV}{n:Net}{p:Plan}(h:asI a=some (n,p)): a=.ips (wHd n p .top):=by
 unfold asI at h;split at h
 .split at h
  .rename_i h1;cases h;rw[OW h1]
  .cases h
 .cases h
theorem PK{P:Program}{G:List (Nat×AV)}{f:FuncId}{l:List AK}{pre:AKs l->Net->Plan->Nat->Li->Prop}{ret:AKs l->Net->Plan->AV}{add:AKs l->Net->Plan->Li}
  (h:∀x n p k xs,af P G f (avK l x) (mr n p k xs) ⟨pre x n p k xs,ret x n p,mr n p (Ec k (Dk (add x n p))) (Ef xs (add x n p))⟩):∀args m c,wK l pre ret add args m=some c->af P G f args m c:=by
 intro args m c hc;unfold wK at hc;split at hc
 .rename_i n p k xs x h1 h2;cases hc;rw[OU h1];exact(h x n p k xs).args λC us _ hu=>eZ h2 hu
 .cases hc
theorem VJ{P:Program}{G:List (Nat×AV)}{f:FuncId}{l:List AK}{pre:AKs l->Net->Plan->Nat->Li->Prop}{ret:AKs l->Net->Plan->AV}
  (h:∀x n p k xs,af P G f (avK l x) (mr n p k xs) ⟨pre x n p k xs,ret x n p,[]⟩):∀args m c,wR l pre ret args m=some c->af P G f args m c:=by
 intro args m c hc;unfold wR at hc;split at hc
 .rename_i n p k xs x h1 h2;cases hc;rw[OU h1];exact(h x n p k xs).args λC us _ hu=>eZ h2 hu
 .cases hc
theorem Zr{P:Program}{G:List (Nat×AV)}{f:FuncId}{l:List AK}{q:AKs l->Net->Plan->Nat->Li->wt}(h:∀x n p k xs,cU P G f (avK l x) (mr n p k xs) (q x n p k xs)): ∀args m r,wP l q args m=some r->cU P G f args m r:=by
 intro args m r hc;unfold wP at hc;split at hc
 .rename_i n p k xs x h1 h2;cases hc;rw[OU h1];exact λhp hk w D E us hD hG hu hH=>h x n p k xs hp hk w D E us hD hG (eZ h2 hu) hH
 .cases hc
theorem aCv{P:Program}{G:List (Nat×AV)}{f:FuncId}{l:List AK}{pre:AKs l->Net->Plan->Prop}{ret:AKs l->Net->Plan->AV}
  (h:∀x n p,af P G f (.ips (wHd n p .top)::avK l x) [] ⟨pre x n p,ret x n p,[]⟩):∀args m c,wI l pre ret args m=some c->af P G f args m c:=by
 intro args m c hc;unfold wI at hc;split at hc
 .split at hc
  .rename_i n p x h1 h2;cases hc;rw[Vv h1];refine(h x n p).args λC us _ hu=>?_
   obtain⟨u,us',e,g1,g2⟩:=hu;exact⟨u,us',e,g1,eZ h2 g2⟩
  .cases hc
 .cases hc
theorem aCY(k:Nat)(xs ys:Li)(n:Net)(p:Plan): af Tryz.prog G0 66 [.ptr 2 1 0 0,.dat R ys] (mr n p k xs) ⟨Y5 xs k/\Ib xs ys,.tup [],mr n p (Ec k (Dk ys)) (Ef xs ys)⟩:=by
 refine ae (c:=mkc KR2) uK aL hm (ZP k xs ys n p ⟨rfl,λ⟨hk,hr⟩=>?_⟩)
 have hk:xs.length=k:=hk;have hr:xs.length+ys.length<=1000000000000:=hr;simp only[qc,Dh,Es,Di,qd,Dt,Eb,Dy,Dp,Ei,Eh,Ed,Ew,Df,Et,Dl,Dn,Eo,Dz,Dw,Dj,Dq,Ee,Fe,Dc,Dx,Dk,Ec,Em,Du,Eu,Ez,En,Ef,Fg,Fj,Fh,Ep,Ej,Ey,Fb,qG];exact⟨by omega,hk,by omega,by omega,by omega⟩
theorem aEB: aj Tryz.prog G0 KW1:=ai (PK λ(_,ys,_) n p k xs=>aCY k xs ys n p) uK
theorem KU{l:Li}{b k:Int}(h:upTo l k): (upR l b k).length=k.toNat:=by
 unfold upR;rw[vV,qI];have:=h.1;have:=h.2;omega
theorem QU{l:Li}{b k:Int}(h0:0<=k)(h1:k<l.length): upR l b (k+1)=upR l b k++[l.getD k.toNat 0+b]:=by
 unfold upR;rw[show(k+1).toNat=k.toNat+1 by omega,wX,qA,qB (show k.toNat<l.length by omega),yY]
 rfl
theorem Re(b:Int)(k:Nat)(l xs:Li)(n:Net)(p:Plan): af Tryz.prog G0 67 [.ptr 2 1 0 0,.dat I b,.dat R l] (mr n p k xs) ⟨rsP b l xs k,.tup [],mr n p (Ec k (Dk (upR l b (Df l)))) (Ef xs (upR l b (Df l)))⟩:=by
 refine ae (c:=mkc KW1) aEB aL hm (Ks b k l xs n p ⟨rfl,λhp=>?_⟩)
 simp only[qc,Dh,Es,Di,qd,Dt,Eb,Dy,Dp,Ei,Eh,Ed,Ew,Df,Et,Dl,Dn,Eo,Dz,Dw,Dj,Dq,Ee,Fe,Dc,Dx,Dk,Ec,Em,Du,Eu,Ez,En,Ef,Fg,Fj,Fh,Ep,Ej,Ey,Fb,qG];obtain⟨⟨hk,hr⟩,b0,b1,hl⟩:=hp;have eN:upTo l l.length:=⟨vC _,qL _⟩;refine⟨by omega,⟨0,⟨qL _,vC _⟩,rfl,by show k=xs.length+0;omega,(wM _).symm⟩,λx hx=>⟨λhlt=>?_,λhge=>?_⟩⟩
 .have h0:=hx.1;have e1:=KU (b:=b) hx;have e2:=QU (b:=b) h0 hlt;have hv:=hl _ (getD_mem (l:=l) (i:=x.toNat) (d:=0) (by omega))
  refine⟨h0,hlt,aM (by omega),⟨by show(xs++upR l b x).length=_;rw[qG],by show(xs++upR l b x).length+_<=1000000000000;rw[qG,wC];omega⟩,by omega,aM (by omega),x+1,⟨by omega,by omega⟩,⟨rfl,by rw[e2,qG];rfl,by rw[e2,wL]⟩,by omega⟩
 .have hx1:=hx.2;have:x=l.length:=by omega
  rw[this,KU eN];exact⟨by omega,rfl⟩
theorem aFk: aj Tryz.prog G0 KW2:=ai (PK λ(_,b,l,_) n p k xs=>Re b k l xs n p) aEB
theorem kI(o:Int)(k:Nat)(xs:Li)(n:Net)(p:Plan): af Tryz.prog G0 136 [.ptr 2 1 0 0,.dat I o] (mr n p k xs) ⟨my n o,cal (aB n o).1 (aB n o).2.1 (aB n o).2.2,[]⟩:=by
 refine ae (c:=mkc KR2) uK aL hm (VN o k xs n p ⟨rfl,λhp=>?_⟩)
 obtain⟨cs,ns,os,fs,ls,ks⟩:=n;obtain⟨g1,g2,_⟩:=gq cs ns os fs ls ks hp;simp only[qc,Dh,Es,Di,qd,Dt,Eb,Dy,Dp,Ei,Eh,Ed,Ew,Df,Et,Dl,Dn,Eo,Dz,Dw,Dj,Dq,Ee,Fe,Dc,Dx,Dk,Ec,Em,Du,Eu,Ez,En,Ef,Fg,Fj,Fh,Ep,Ej,Ey,Fb];exact⟨hp.2.1,hp.2.2,g1,g2,rfl,rfl,rfl⟩
theorem WQ(o:Int)(n:Net)(p:Plan): af Tryz.prog G0 136 [.ips (wHd n p .top),.dat I o] [] ⟨my n o,cal (aB n o).1 (aB n o).2.1 (aB n o).2.2,[]⟩:=by
 refine ae (c:=mkc KR2) uK aL hm (P1 o n p ⟨rfl,λhp=>?_⟩)
 obtain⟨cs,ns,os,fs,ls,ks⟩:=n;obtain⟨g1,g2,_⟩:=gq cs ns os fs ls ks hp;simp only[qc,Dh,Es,Di,qd,Dt,Eb,Dy,Dp,Ei,Eh,Ed,Ew,Df,Et,Dl,Dn,Eo,Dz,Dw,Dj,Dq,Ee,Fe,Dc,Dx,Dk,Ec,Em,Du,Eu,Ez,En,Ef,Fg,Fj,Fh,Ep,Ej,Ey,Fb];exact⟨hp.2.1,hp.2.2,g1,g2,rfl,rfl,rfl⟩
theorem sx(cs:LC)(ns os:LB)(fs:Lo)(ls:Ll)(ks:Lk){o t:Int}(hp:fB (cs,ns,os,fs,ls,ks) o t): inR .i64 ((b7 (cs,ns,os,fs,ls,ks) o).2.2.2.2.1*(b7 (cs,ns,os,fs,ls,ks) o).2.2.2.2.2.1)/\inR .i64 (aH (cs,ns,os,fs,ls,ks) o t)/\t<=aH (cs,ns,os,fs,ls,ks) o t/\aH (cs,ns,os,fs,ls,ks) o t<=t+960:=by
 obtain⟨ho,b1,b2⟩:=hp;obtain⟨_,_,_,g1,g2,g3,g4⟩:=gq cs ns os fs ls ks ho;unfold aH;generalize (b7 (cs,ns,os,fs,ls,ks) o).2.2.2.2.1=x at *;generalize (b7 (cs,ns,os,fs,ls,ks) o).2.2.2.2.2.1=y at *;have m1:0<=x*y:=qAc (by omega) (by omega)
 have m2:x*y<=4*240:=xI g2 g4 (by omega) (by omega)
 exact⟨aM (by omega),aM (by omega),by omega,by omega⟩
theorem iB(o t:Int)(k:Nat)(xs:Li)(n:Net)(p:Plan): af Tryz.prog G0 139 [.ptr 2 1 0 0,.dat I o,.dat I t] (mr n p k xs) ⟨fB n o t,.dat I (aH n o t),[]⟩:=by
 refine ae (c:=mkc KR2) uK aL hm (VL o t k xs n p ⟨rfl,λhp=>?_⟩)
 obtain⟨cs,ns,os,fs,ls,ks⟩:=n;obtain⟨r1,r2,_⟩:=sx cs ns os fs ls ks hp;simp only[qc,Dh,Es,Di,qd,Dt,Eb,Dy,Dp,Ei,Eh,Ed,Ew,Df,Et,Dl,Dn,Eo,Dz,Dw,Dj,Dq,Ee,Fe,Dc,Dx,Dk,Ec,Em,Du,Eu,Ez,En,Ef,Fg,Fj,Fh,Ep,Ej,Ey,Fb];exact⟨hp.1.2.1,hp.1.2.2,hp.1.2.1,hp.1.2.2,r1,r2,rfl⟩
theorem Q8(m t:Int)(c:C.den): af Tryz.prog G0 138 [cal c.1 c.2.1 c.2.2,.dat I m,.dat I t] [] ⟨zu c m t,.tup [.dat I (iz c m t),.dat I (mB c m t)],[]⟩:=by
 obtain⟨z,w,h⟩:=c;refine ae (c:=mkc KR2) uK aL hm (J9 z m t w h ⟨rfl,λhp=>?_⟩)
 obtain⟨b1,b2⟩:=Vm hp;obtain⟨hv,h1,h2,h3,h4⟩:=id hp;simp only[qc,Dh,Es,Di,qd,Dt,Eb,Dy,Dp,Ei,Eh,Ed,Ew,Df,Et,Dl,Dn,Eo,Dz,Dw,Dj,Dq,Ee,Fe,Dc,Dx,Dk,Ec,Em,Du,Eu,Ez,En,Ef,Fg,Fj,Fh,Ep,Ej,Ey,Fb];have key:∀d,d=d0F (z,w,h) m t->Pz z w h d/\(¬iq w h d=0->(0:Int)=iz (z,w,h) m t/\iq w h d=mB (z,w,h) m t)/\(iq w h d=0->lr z w h (iu w h d) m/\jF z (iu w h d) m=iz (z,w,h) m t/\(0:Int)=mB (z,w,h) m t):=by
  rintro d rfl;refine⟨⟨hv,jr (by omega) (by omega)⟩,λh0=>⟨(if_neg h0).symm,rfl⟩,λh0=>?_⟩
  obtain⟨q1,q2,q3⟩:=sU h0;exact⟨⟨hv,jr (by omega) (by omega),h1,h2⟩,(if_pos h0).symm,h0.symm⟩
 refine⟨⟨hv,by omega,by omega⟩,λhlt=>?_,λhge=>?_⟩
 .have e:gY z t+1=d0F (z,w,h) m t:=(if_pos hlt).symm;obtain⟨q1,q2,q3⟩:=key _ e;exact⟨by unfold inR;simp only;omega,q1,q2,q3⟩
 .have e:gY z t=d0F (z,w,h) m t:=(if_neg hge).symm;exact key _ e
theorem Lh(v e:Int): af Tryz.prog G0 137 [.dat I v,.dat I e] [] ⟨True/\isZero e=true,.dat I v,[]⟩/\cU Tryz.prog G0 137 [.dat I v,.dat I e] [] ⟨True,isZero e,um 39 e⟩:=by
 refine dz (c:=mkc KR2) uK aL hm pW (PT v e ⟨rfl,λ_=>⟨λh=>⟨λ_=>⟨trivial,λ_=>⟨?_,rfl,rfl⟩⟩,trivial⟩,λh=>⟨?_,rfl,trivial⟩⟩⟩)
 .unfold isZero;simpa[Dy]using h
 .unfold isZero;simpa[Dy]using h
theorem WO(e:Int): af Tryz.prog G0 63 [.ifc 39 (.dat I e)] [] ⟨True,.dat I e,[]⟩:=
 ae (c:=mkc KR2) uK aL hm (P0 e ⟨rfl,λ_=>⟨λ_=>⟨rfl,trivial⟩,λh=>by cases h⟩⟩)
theorem Lp(i l:Int): af Tryz.prog G0 205 [.dat I i,.dat I l] [] ⟨True,.dat .bool (dM i l),[]⟩:=by
 refine ae (c:=mkc KR2) uK aL hm (Ic i l ⟨rfl,λ_=>⟨λh _=>h,λh _=>h,λh=>by simpa[Dh]using h,?_,trivial⟩⟩)
 unfold dM;simp only[Ea,Ed,Dp,kN];by_cases h:0<=i<;>simp[h]
theorem iX(c o:Int)(k:Nat)(xs:Li)(n:Net)(p:Plan): af Tryz.prog G0 134 [.ptr 2 1 0 0,.dat I c,.dat I o] (mr n p k xs) ⟨True,.fn 206 [.ipv (.ptr 2 1 0 0),.ip I o,.ip I c],[]⟩:=by
 refine ae (c:=mkc KR2) uK aL hm (VM c o k xs n p ⟨rfl,λ_=>?_⟩)
 simp only[qc,Dh,Es,Di,qd,Dt,Eb,Dy,Dp,Ei,Eh,Ed,Ew,Df,Et,Dl,Dn,Eo,Dz,Dw,Dj,Dq,Ee,Fe,Dc,Dx,Dk,Ec,Em,Du,Eu,Ez,En,Ef,Fg,Fj,Fh,Ep,Ej,Ey,Fb]
theorem Zi: aj Tryz.prog G0 KW3:=ai (NF (VJ λ(_,o,_) n p k xs=>kI o k xs n p) (aCv λ(o,_) n p=>WQ o n p)) <|
 ai (VJ λ(_,o,t,_) n p k xs=>iB o t k xs n p)<|ai (ag λ(c,m,t,_)=>Q8 m t c)<|ai (ag λ(v,e,_)=>(Lh v e).1) <|
 ai (ag λ(i,l,_)=>Lp i l)<|ai (VJ λ(_,c,o,_) n p k xs=>iX c o k xs n p) aFk
theorem O5: bL Tryz.prog G0 aEc:=ik (iZ λ(v,e,_)=>(Lh v e).2) pW
end Go.Eng.Sv
