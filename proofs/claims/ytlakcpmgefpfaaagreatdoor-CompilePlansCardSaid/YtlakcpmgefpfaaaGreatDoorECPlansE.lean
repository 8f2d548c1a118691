/- PeTr2n PeTr3n PeTr4n PeTr5n PeTrDn PeWa1n PeWa2n PeWa3n PeWa4n PeWa5n PeWa6n PeIn3n PeIn4n PeIn5n PeIn5bn PeInLn PeInTn -/
import Derived.Test.YtlakcpmgefpfaaaGreatDoorECPlansA
import Derived.Test.YtlakcpmgefpfaaaGreatDoorECPlansB
import Derived.Test.YtlakcpmgefpfaaaGreatDoorECPlansC
import Derived.Test.YtlakcpmgefpfaaaGreatDoorECPlansD
set_option linter.unusedSimpArgs false
set_option linter.unusedVariables false
set_option maxRecDepth 100000
noncomputable section
namespace Go.Eng.Sv
open Go.Proofs
abbrev uJ(t:TypeId)(e:Int): Value:=.iface t (.int .i64 e)
abbrev Stp: Ty:=.pair I (.pair I (.pair I I))
abbrev Stop:=Int×Int×Int×Int
abbrev Pl: Ty:=.pair I (.pair I (.pair M (.sl M)))
abbrev Plan:=Int×Int×Lj×List (Lj)
def cH(t:Int): Bool:=decide (0<=t/\t<=2000000)
def bO(n:Net)(o:Int): Off:=n.2.2.2.1.getD o.toNat (⟨#[]⟩,0,0,0,0,0,[])
def pD(n:Net)(l:Int): Line:=n.2.2.2.2.1.getD l.toNat (⟨#[]⟩,0,0,0,0,0)
def aC(n:Net)(o:Int): Int×List Bool×Li:=n.1.getD (bO n o).2.2.1.toNat (0,[],[])
def b9(n:Net)(l:Int): Int:=(pD n l).2.1
def pC(n:Net)(l:Int): Int:=(pD n l).2.2.1
def BM(n:Net)(l:Int): Int:=(pD n l).2.2.2.1
def cM(n:Net)(l:Int): Int:=(pD n l).2.2.2.2.1
def lO(n:Net)(o:Int): Prop:=noF n=true/\0<=o/\o<n.2.2.2.1.length
def Jl(n:Net)(l:Int): Prop:=noF n=true/\0<=l/\l<n.2.2.2.2.1.length
def aT(n:Net)(o l:Int): Bool:=decide (l=-1)||(dO l n.2.2.2.2.1.length&&decide (b9 n l=o))
def rowOk(n:Net)(o:Int)(row:Li): Bool:=decide ((row.length:Int)=n.2.2.2.1.length)&&row.all (aT n o)
def nN(n:Net)(nx:Lj): Bool:=decide ((nx.length:Int)=n.2.2.2.1.length)&&(List.range nx.length).all λi=>rowOk n i (nx.getD i [])
def cz(nx:Lj): Prop:=nx.length<=1000000/\∀r∈nx,r.length<=1000000
def G8(n:Net)(nx:Lj)(k:Int): Prop:=0<=k/\k<=nx.length/\(nx.length:Int)=n.2.2.2.1.length/\∀i:Nat,(i:Int)<k->rowOk n i (nx.getD i [])=true
def SO(n:Net)(o:Int)(row:Li)(k:Int): Prop:=0<=k/\k<=row.length/\(row.length:Int)=n.2.2.2.1.length/\∀i:Nat,(i:Int)<k->aT n o (row.getD i 0)=true
def d0F(c:Int×List Bool×Li)(m t:Int): Int:=if m<J9 c.1 t then fu c.1 t+1 else fu c.1 t
def fM(c:Int×List Bool×Li)(m t:Int): Int:=if fU c.2.1 c.2.2 (d0F c m t)=0 then jb c.1 (fV c.2.1 c.2.2 (d0F c m t)) m else 0
def jF(c:Int×List Bool×Li)(m t:Int): Int:=fU c.2.1 c.2.2 (d0F c m t)
def An(c:Int×List Bool×Li)(m t:Int): Prop:=ax c.1 c.2.1 c.2.2=true/\0<=m/\m<1440/\-1000000<=t/\t<=100000000
def ak(n:Net)(o t:Int): Int:=t+(bO n o).2.2.2.2.1*(bO n o).2.2.2.2.2.1
def fB(n:Net)(o t:Int): Prop:=lO n o/\-1000000000<=t/\t<=1000000000
def iN(n:Net)(l t:Int): Int:=if cH t=true then fM (aC n (b9 n l)) (BM n l) t else 0
def ni(n:Net)(l t:Int): Int:=if cH t=true then jF (aC n (b9 n l)) (BM n l) t else 1
def isZero(e:Int): Bool:=decide (e=0)
def KR2: Kt:=kOr 160 (ay [.row C,.val I] (λ(c,d,_)=>P1 c.1 c.2.1 c.2.2 d) λ(c,d,_)=>.tup [.dat I (fV c.2.1 c.2.2 d),.dat I (fU c.2.1 c.2.2 d)]) KR1
theorem Ir(i l:Int)(hvc:
 let c1:=Ed i 0;true/\(True->(c1->c1->c1)/\(c1->c1->c1)/\(Dk true c1->c1)/\Eb c1 (Dp i l) false=dO i l/\True)):
  evF (mkc KR2) aA 89 [.dat I i,.dat I l] [] ⟨True,.dat .bool (dO i l),[]⟩:=oE hvc
theorem DT(t:Int)(hvc:
 let c1:=Ed t 0;true/\(True->(c1->c1->c1)/\(Dk true c1->c1)/\Eb c1 (Eh t 2000000) false=cH t/\True)):
  evF (mkc KR2) aA 90 [.dat I t] [] ⟨True,.dat .bool (cH t),[]⟩:=oE hvc
theorem Qz(v e:Int)(hvc:
 let c1:=Ea e 0;let c2:=chainOf (Value.iface (39) (Value.int IntKind.i64 e));true/\(True->(c1->(true->True/\(false=false->isZero e=false/\true/\c2=c2))/\True)/\(c1=false->isZero e/\v=v/\True))):
  evC (mkc KR2) aA 97 [.dat I v,.dat I e] (.dat I v) ⟨True,isZero e,uJ 39 e⟩:=oE hvc
theorem Iu(b:Bool)(hvc:
 let c1:=chainOf (Value.iface (39) (Value.int IntKind.i64 (1:Int)));true/\(True->(Di b->(true->True/\(false=false->b=false/\true/\c1=c1))/\True)/\(Di b=false->b/\True))):
  evC (mkc KR2) aA 95 [.dat .bool b] (.tup []) ⟨True,b,uJ 39 1⟩:=oE hvc
theorem QE(e:Int)(hvc:
 true/\(True->(true->e=e/\True)/\(true=false->1=e/\True))):
  evF (mkc KR2) aA 94 [.ifc 39 (.dat I e)] [] ⟨True,.dat I e,[]⟩:=oE hvc
theorem KH(cs:LC)(ns os:LB)(fs:Lo)(ls:Ll)(ks:Lk)(hvc:
 let c1:=(cs,ns,os,fs,ls,ks);true/\(True->True/\Dy (Df (fm c1)) 0=bn c1/\True)):
  evF (mkc KR2) aA 47 [.ip N (cs,ns,os,fs,ls,ks)] [] ⟨True,.dat .bool (bn (cs,ns,os,fs,ls,ks)),[]⟩:=oE hvc
theorem KN(o:Int)(cs:LC)(ns os:LB)(fs:Lo)(ls:Ll)(ks:Lk)(hvc:
 let c1:=(cs,ns,os,fs,ls,ks);let c2:=(Du fs (Dc o) (ByteArray.mk #[],(0:Int),(0:Int),(0:Int),(0:Int),(0:Int),Dt ByteArray)).2.2.1;let c3:=Du cs (Dc c2) ((0:Int),Dt Bool,Dt Int);let c4:=aC c1 o;true/\(lO c1 o->0<=o/\o<Df fs/\0<=c2/\c2<Df cs/\1=1/\0=0/\1=1/\0=0/\c3.1=c4.1/\c3.2.1=c4.2.1/\c3.2.2=c4.2.2/\True)):
  evF (mkc KR2) aA 92 [.ip N (cs,ns,os,fs,ls,ks),.dat I o] [] ⟨lO (cs,ns,os,fs,ls,ks) o,cal (aC (cs,ns,os,fs,ls,ks) o).1 (aC (cs,ns,os,fs,ls,ks) o).2.1 (aC (cs,ns,os,fs,ls,ks) o).2.2,[]⟩:=oE hvc
theorem KL(z m t:Int)(w:List Bool)(h:Li)(hvc:
 let c1:=(z,w,h);let c2:=Dp m (J9 z t);let c3:=fu z t+1;let c4:=fU w h c3;let c5:=Ea c4 0;let c6:=fM c1 m t;let c7:=jF c1 m t;let c8:=fV w h c3;let c9:=fU w h (fu z t);let c10:=Ea c9 0;let c11:=fV w h (fu z t);true/\(An c1 m t->gw z w h t/\(c2->inR .i64 c3/\P1 z w h c3/\(c5->0=c6/\c4=c7/\True)/\(c5=false->lN z w h c8 m/\jb z c8 m=c6/\0=c7/\True))/\(c2=false->P1 z w h (fu z t)/\(c10->0=c6/\c9=c7/\True)/\(c10=false->lN z w h c11 m/\jb z c11 m=c6/\0=c7/\True)))):
  evF (mkc KR2) aA 91 [cal z w h,.dat I m,.dat I t] [] ⟨An (z,w,h) m t,.tup [.dat I (fM (z,w,h) m t),.dat I (jF (z,w,h) m t)],[]⟩:=oE hvc
theorem KJ(o t:Int)(cs:LC)(ns os:LB)(fs:Lo)(ls:Ll)(ks:Lk)(hvc:
 let c1:=(cs,ns,os,fs,ls,ks);let c2:=(Du fs (Dc o) (ByteArray.mk #[],(0:Int),(0:Int),(0:Int),(0:Int),(0:Int),Dt ByteArray)).2.2.2.2;let c3:=c2.1*c2.2.1;let c4:=t+c3;true/\(fB c1 o t->0<=o/\o<Df fs/\0<=o/\o<Df fs/\inR .i64 c3/\inR .i64 c4/\c4=ak c1 o t/\True)):
  evF (mkc KR2) aA 166 [.ip N (cs,ns,os,fs,ls,ks),.dat I o,.dat I t] [] ⟨fB (cs,ns,os,fs,ls,ks) o t,.dat I (ak (cs,ns,os,fs,ls,ks) o t),[]⟩:=oE hvc
def YG(n:Net)(nx:Lj): Ann:=⟨λid s=>match id with
 | 4=>some {α:=Int,inv:=λk=>G8 n nx k,st:=λk=>put s [(19,.dat I k)],μ:=λk=>Dc (Dh (Df nx) k)}
 | 9=>match s.sig.T 19,s.sig.T 32 with
  | .dat (.int .i64) o,.dat (.sl (.int .i64)) row=>some {α:=Int,inv:=λk=>SO n o row k,st:=λk=>put s [(34,.dat I k)],μ:=λk=>Dc (Dh (Df row) k)}
  | _,_=>none
 | _=>none,λ_ _=>none,λ_ _=>none⟩
def KR3: Kt:=kOr 89 (ay [.val I,.val I] (λ_=>True) λ(i,l,_)=>.dat .bool (dO i l)) <|
 kOr 90 (ay [.val I] (λ_=>True) λ(t,_)=>.dat .bool (cH t)) <|
 kOr 47 (ay [.ptr N] (λ_=>True) λ(n,_)=>.dat .bool (bn n)) <|
 kOr 92 (ay [.ptr N,.val I] (λ(n,o,_)=>lO n o) λ(n,o,_)=>cal (aC n o).1 (aC n o).2.1 (aC n o).2.2) <|
 kOr 91 (ay [.row C,.val I,.val I] (λ(c,m,t,_)=>An c m t) λ(c,m,t,_)=>.tup [.dat I (fM c m t),.dat I (jF c m t)]) <|
 kOr 166 (ay [.ptr N,.val I,.val I] (λ(n,o,t,_)=>fB n o t) λ(n,o,t,_)=>.dat I (ak n o t)) <|
 kOr 97 (ay [.val I,.val I] (λ(_,e,_)=>True/\isZero e=true) λ(v,_,_)=>.dat I v) <|
 kOr 95 (ay [.val .bool] (λ(b,_)=>True/\b=true) λ_=>.tup []) KR2
theorem Is(nx:Lj)(cs:LC)(ns os:LB)(fs:Lo)(ls:Ll)(ks:Lk)(hvc:
 let c1:=Df fs;let c2:=Ea (Df nx) c1;let c3:=(cs,ns,os,fs,ls,ks);let c4:=nN c3 nx;let c5:=Df ls;true/\(cz nx->(c2->false=c4/\True)/\(c2=false->(∃x,G8 c3 nx x/\c3=c3/\nx=nx/\Df nx=Df nx/\0=x/\True)/\∀(x:Int),let c6:=Dp x (Df nx);let c7:=Du nx (Dc x) [];let c8:=Df c7;let c9:=Ea c8 c1;let c10:=x+1;G8 c3 nx x->(c6->0<=x/\x<Df nx/\(c9->false=c4/\True)/\(c9=false->(∃x_4,SO c3 x c7 x_4/\c3=c3/\x=x/\c7=c7/\nx=nx/\Df nx=Df nx/\x=x/\c7=c7/\c8=c8/\0=x_4/\True)/\∀(x_4:Int),let c11:=Du c7 (Dc x_4) 0;let c12:=Ea c11 (-1);let c17:=c12->c12->c12;let c13:=Di (dO c11 c5);let c18:=Di c13;let c16:=Dk c12 c18->Dk c12 c18->Dk c12 c18;let c14:=Eb c12 (Eb c13 true (Ea (Du ls (Dc c11) (ByteArray.mk #[],(0:Int),(0:Int),(0:Int),(0:Int),(0:Int))).2.1 x)) false;let c15:=x_4+1;SO c3 x c7 x_4->(Dp x_4 c8->0<=x_4/\x_4<c8/\c17/\c17/\c17/\c17/\c17/\c17/\(c12->True)/\c17/\c17/\c16/\c16/\c16/\c16/\c16/\(Dk c12 c18->0<=c11)/\(Dk c12 c18->c11<c5)/\c16/\c16/\c16/\c16/\c17/\(c12->Dk c12 c18->Dk c12 c18)/\(Dk true c12->c12)/\(c14->false=c4/\True)/\(c14=false->inR .i64 c15/\∃y,SO c3 x c7 y/\(c3=c3/\x=x/\c7=c7/\nx=nx/\Df nx=Df nx/\x=x/\c7=c7/\c8=c8/\c15=y/\True)/\Dc (c8-y)<Dc (c8-x_4)))/\(Dp x_4 c8=false->inR .i64 c10/\∃y,G8 c3 nx y/\(c3=c3/\nx=nx/\Df nx=Df nx/\c10=y/\True)/\Dc (Df nx-y)<Dc (Df nx-x))))/\(c6=false->true=c4/\True)))):
  evF (mkc KR3) (lvA [(4,[0,4,5,6,8,17,18,19,32,33,34]),(9,[0,4,5,6,8,17,18,19,32,33,34])] (YG (cs,ns,os,fs,ls,ks) nx)) 48 [.ip N (cs,ns,os,fs,ls,ks),.dat M nx] [] ⟨cz nx,.dat .bool (nN (cs,ns,os,fs,ls,ks) nx),[]⟩:=oE hvc
theorem It(l t:Int)(cs:LC)(ns os:LB)(fs:Lo)(ls:Ll)(ks:Lk)(hvc:
 let c1:=(cs,ns,os,fs,ls,ks);let c2:=iN c1 l t;let c3:=ni c1 l t;let c4:=(Du ls (Dc l) (ByteArray.mk #[],(0:Int),(0:Int),(0:Int),(0:Int),(0:Int))).2;let c8:=(aC c1 c4.1);true/\(Jl c1 l->True/\(Di (cH t)->0=c2/\1=c3/\True)/\(Di (cH t)=false->0<=l/\l<Df ls/\lO c1 c4.1/\0<=l/\l<Df ls/\An c8 c4.2.2.1 t/\fM c8 c4.2.2.1 t=c2/\jF c8 c4.2.2.1 t=c3/\True))):
  evF (mkc KR3) aA 165 [.ip N (cs,ns,os,fs,ls,ks),.dat I l,.dat I t] [] ⟨Jl (cs,ns,os,fs,ls,ks) l,.tup [.dat I (iN (cs,ns,os,fs,ls,ks) l t),.dat I (ni (cs,ns,os,fs,ls,ks) l t)],[]⟩:=oE hvc
theorem uX: al Tryz.prog G0 KR2:=aj (ag λ((z,w,h),d,_)=>aAJ z w h d) aEl
theorem dZ(cs:LC)(ns os:LB)(fs:Lo)(ls:Ll)(ks:Lk){o:Int}(h:lO (cs,ns,os,fs,ls,ks) o): 0<=(bO (cs,ns,os,fs,ls,ks) o).2.2.1/\(bO (cs,ns,os,fs,ls,ks) o).2.2.1<cs.length/\ax (aC (cs,ns,os,fs,ls,ks) o).1 (aC (cs,ns,os,fs,ls,ks) o).2.1 (aC (cs,ns,os,fs,ls,ks) o).2.2=true/\1<=(bO (cs,ns,os,fs,ls,ks) o).2.2.2.2.1/\(bO (cs,ns,os,fs,ls,ks) o).2.2.2.2.1<=4/\1<=(bO (cs,ns,os,fs,ls,ks) o).2.2.2.2.2.1/\(bO (cs,ns,os,fs,ls,ks) o).2.2.2.2.2.1<=240:=by
 obtain⟨hno,l0,l1⟩:=h;have l1:o<fs.length:=l1;have ho:bO (cs,ns,os,fs,ls,ks) o∈fs:=by
  show fs.getD o.toNat _∈fs;rw[qA,qB (by omega),qR]
  exact wO _
 have gc:=(gb cs ns os fs ls ks hno).2.2.2 _ ho;unfold cT dO dD at gc;simp only[qC,qE]at gc;obtain⟨⟨⟨⟨⟨⟨_,g1⟩,_⟩,_⟩,_⟩,g2⟩,g3⟩:=gc;have g1:0<=(bO (cs,ns,os,fs,ls,ks) o).2.2.1/\(bO (cs,ns,os,fs,ls,ks) o).2.2.1<(cs.length:Int):=g1;have hc:=((oI (by decide)).1 (hC cs ns os fs ls ks hno).2.1).2.2.2
 have hcl:(az cs ns).length=cs.length:=by unfold az;simp
 have:=hc (bO (cs,ns,os,fs,ls,ks) o).2.2.1.toNat (by omega)
 unfold bh at this;rw[km (λc:Int×List Bool×Li=>ax c.1 c.2.1 c.2.2) cs _ (0,[],[]) false (by omega)]at this
 exact⟨g1.1,g1.2,this,g2.1,g2.2,g3.1,g3.2⟩
theorem tK(cs:LC)(ns os:LB)(fs:Lo)(ls:Ll)(ks:Lk){l:Int}(h:Jl (cs,ns,os,fs,ls,ks) l): 0<=b9 (cs,ns,os,fs,ls,ks) l/\b9 (cs,ns,os,fs,ls,ks) l<fs.length/\0<=pC (cs,ns,os,fs,ls,ks) l/\pC (cs,ns,os,fs,ls,ks) l<fs.length/\0<=BM (cs,ns,os,fs,ls,ks) l/\BM (cs,ns,os,fs,ls,ks) l<=1439/\1<=cM (cs,ns,os,fs,ls,ks) l/\cM (cs,ns,os,fs,ls,ks) l<=5000:=by
 obtain⟨hno,l0,l1⟩:=h;have l1:l<ls.length:=l1;have hl:pD (cs,ns,os,fs,ls,ks) l∈ls:=by
  show ls.getD l.toNat _∈ls;rw[qA,qB (by omega),qR]
  exact wO _
 obtain⟨g1,g2,g3,g4,g5,g6,g7,g8⟩:=gn ((jy cs ns os fs ls ks hno).2.2.2 _ hl);exact⟨g1,g2,g3,g4,g6.1,g6.2,g7,g8⟩
theorem lP{w:List Bool}{h:Li}{d:Int}(he:fU w h d=0): d<=fV w h d/\fV w h d<d+60/\bP w h (fV w h d)=true:=by
 unfold fU at he;unfold fV;cases hn:lQ w h d with
 | none=>rw[hn]at he;simp at he
 | some y=>
  have:y∈dN w h d 60:=qAz (by unfold lQ at hn;rw[hn];rfl)
  exact tI this
theorem VG{c:Int×List Bool×Li}{m t:Int}(hp:An c m t): -1000<=d0F c m t/\d0F c m t<=100000:=by
 obtain⟨hv,h1,h2,h3,h4⟩:=hp;obtain⟨⟨v1,v2,_,_⟩,_⟩:=bM.1 hv;unfold d0F fu;split<;>omega
theorem jD{d:Int}(h1:-1000000<=d)(h2:d<=1000000): bW d=true:=by
 unfold bW;exact qW ⟨h1,h2⟩
theorem LR(i l:Int): af Tryz.prog G0 89 [.dat I i,.dat I l] [] ⟨True,.dat .bool (dO i l),[]⟩:=by
 refine ae (c:=mkc KR2) uX aL hm (Ir i l ⟨rfl,λ_=>⟨λh _=>h,λh _=>h,λh=>by simpa[Dk]using h,?_,trivial⟩⟩)
 unfold dO;simp only[Eb,Ed,Dp,kV];by_cases h:0<=i<;>simp[h]
theorem IQ(t:Int): af Tryz.prog G0 90 [.dat I t] [] ⟨True,.dat .bool (cH t),[]⟩:=by
 refine ae (c:=mkc KR2) uX aL hm (DT t ⟨rfl,λ_=>⟨λh _=>h,λh=>by simpa[Dk]using h,?_,trivial⟩⟩)
 unfold cH;simp only[Eb,Ed,Eh,kV];by_cases h:0<=t<;>simp[h]
theorem LQ(v e:Int): af Tryz.prog G0 97 [.dat I v,.dat I e] [] ⟨True/\isZero e=true,.dat I v,[]⟩/\cX Tryz.prog G0 97 [.dat I v,.dat I e] [] ⟨True,isZero e,uJ 39 e⟩:=by
 refine dE (c:=mkc KR2) uX aL hm qo (Qz v e ⟨rfl,λ_=>⟨λh=>⟨λ_=>⟨trivial,λ_=>⟨?_,rfl,rfl⟩⟩,trivial⟩,λh=>⟨?_,rfl,trivial⟩⟩⟩)
 .unfold isZero;simpa[Ea]using h
 .unfold isZero;simpa[Ea]using h
theorem Az(b:Bool): af Tryz.prog G0 95 [.dat .bool b] [] ⟨True/\b=true,.tup [],[]⟩/\cX Tryz.prog G0 95 [.dat .bool b] [] ⟨True,b,uJ 39 1⟩:=by
 refine dE (c:=mkc KR2) uX aL hm qo (Iu b ⟨rfl,λ_=>⟨λh=>⟨λ_=>⟨trivial,λ_=>⟨?_,rfl,rfl⟩⟩,trivial⟩,λh=>⟨?_,trivial⟩⟩⟩)
 .simpa[Di]using h
 .simpa[Di]using h
theorem Xk(e:Int): af Tryz.prog G0 94 [.ifc 39 (.dat I e)] [] ⟨True,.dat I e,[]⟩:=
 ae (c:=mkc KR2) uX aL hm (QE e ⟨rfl,λ_=>⟨λ_=>⟨rfl,trivial⟩,λh=>by cases h⟩⟩)
theorem vk{n:Net}: bn n=decide (((fm n).length:Int)=0):=by
 unfold bn;cases fm n with
 | nil=>rfl
 | cons a l=>simp;omega
theorem RD(cs:LC)(ns os:LB)(fs:Lo)(ls:Ll)(ks:Lk): af Tryz.prog G0 47 [.ip N (cs,ns,os,fs,ls,ks)] [] ⟨True,.dat .bool (bn (cs,ns,os,fs,ls,ks)),[]⟩:=
 ae (c:=mkc KR2) uX aL hm (KH cs ns os fs ls ks ⟨rfl,λ_=>⟨trivial,by rw[vk];rfl,trivial⟩⟩)
theorem RG(o:Int)(cs:LC)(ns os:LB)(fs:Lo)(ls:Ll)(ks:Lk): af Tryz.prog G0 92 [.ip N (cs,ns,os,fs,ls,ks),.dat I o] [] ⟨lO (cs,ns,os,fs,ls,ks) o,cal (aC (cs,ns,os,fs,ls,ks) o).1 (aC (cs,ns,os,fs,ls,ks) o).2.1 (aC (cs,ns,os,fs,ls,ks) o).2.2,[]⟩:=by
 refine ae (c:=mkc KR2) uX aL hm (KN o cs ns os fs ls ks ⟨rfl,λhp=>?_⟩)
 obtain⟨g1,g2,_⟩:=dZ cs ns os fs ls ks hp;exact⟨hp.2.1,hp.2.2,g1,g2,rfl,rfl,rfl,rfl,rfl,rfl,rfl,trivial⟩
theorem RF(m t:Int)(c:C.den): af Tryz.prog G0 91 [cal c.1 c.2.1 c.2.2,.dat I m,.dat I t] [] ⟨An c m t,.tup [.dat I (fM c m t),.dat I (jF c m t)],[]⟩:=by
 obtain⟨z,w,h⟩:=c;refine ae (c:=mkc KR2) uX aL hm (KL z m t w h ⟨rfl,λhp=>?_⟩)
 obtain⟨b1,b2⟩:=VG hp;obtain⟨hv,h1,h2,h3,h4⟩:=id hp;simp only[qc,qd,Ea,Dp];have key:∀d,d=d0F (z,w,h) m t->P1 z w h d/\(¬fU w h d=0->(0:Int)=fM (z,w,h) m t/\fU w h d=jF (z,w,h) m t)/\(fU w h d=0->lN z w h (fV w h d) m/\jb z (fV w h d) m=fM (z,w,h) m t/\(0:Int)=jF (z,w,h) m t):=by
  rintro d rfl;refine⟨⟨hv,jD (by omega) (by omega)⟩,λh0=>⟨(if_neg h0).symm,rfl⟩,λh0=>?_⟩
  obtain⟨q1,q2,q3⟩:=lP h0;exact⟨⟨hv,jD (by omega) (by omega),h1,h2⟩,(if_pos h0).symm,h0.symm⟩
 refine⟨⟨hv,by omega,by omega⟩,λhlt=>?_,λhge=>?_⟩
 .have e:fu z t+1=d0F (z,w,h) m t:=(if_pos hlt).symm;obtain⟨q1,q2,q3⟩:=key _ e;exact⟨by unfold inR;simp only;omega,q1,q2,q3⟩
 .have e:fu z t=d0F (z,w,h) m t:=(if_neg hge).symm;exact key _ e
theorem RE(o t:Int)(cs:LC)(ns os:LB)(fs:Lo)(ls:Ll)(ks:Lk): af Tryz.prog G0 166 [.ip N (cs,ns,os,fs,ls,ks),.dat I o,.dat I t] [] ⟨fB (cs,ns,os,fs,ls,ks) o t,.dat I (ak (cs,ns,os,fs,ls,ks) o t),[]⟩:=by
 refine ae (c:=mkc KR2) uX aL hm (KJ o t cs ns os fs ls ks ⟨rfl,λhp=>?_⟩)
 obtain⟨ho,b1,b2⟩:=hp;obtain⟨_,_,_,g1,g2,g3,g4⟩:=dZ cs ns os fs ls ks ho;obtain⟨x,hx⟩:∃x,x=(bO (cs,ns,os,fs,ls,ks) o).2.2.2.2.1:=⟨_,rfl⟩;obtain⟨y,hy⟩:∃y,y=(bO (cs,ns,os,fs,ls,ks) o).2.2.2.2.2.1:=⟨_,rfl⟩;rw[<- hx]at g1 g2;rw[<- hy]at g3 g4;have m1:0<=x*y:=qAh (by omega) (by omega)
 have m2:x*y<=4*240:=xW g2 g4 (by omega) (by omega)
 have e:ak (cs,ns,os,fs,ls,ks) o t=t+x*y:=by rw[hx,hy];rfl
 refine⟨ho.2.1,ho.2.2,ho.2.1,ho.2.2,?_,?_,rfl,trivial⟩
 .show inR .i64 ((bO (cs,ns,os,fs,ls,ks) o).2.2.2.2.1*(bO (cs,ns,os,fs,ls,ks) o).2.2.2.2.2.1);rw[<- hx,<- hy];unfold inR;simp only;omega
 .show inR .i64 (t+(bO (cs,ns,os,fs,ls,ks) o).2.2.2.2.1*(bO (cs,ns,os,fs,ls,ks) o).2.2.2.2.2.1);rw[<- hx,<- hy];unfold inR;simp only;omega
end Go.Eng.Sv
set_option maxRecDepth 100000
namespace Go.Eng.Sv
open Go.Proofs
theorem aCB: al Tryz.prog G0 KR3:=aj (ag λ(i,l,_)=>LR i l)<|aj (ag λ(t,_)=>IQ t)<|aj (ag λ((cs,ns,os,fs,ls,ks),_)=>RD cs ns os fs ls ks) <|
 aj (ag λ((cs,ns,os,fs,ls,ks),o,_)=>RG o cs ns os fs ls ks)<|aj (ag λ(c,m,t,_)=>RF m t c)<|aj (ag λ((cs,ns,os,fs,ls,ks),o,t,_)=>RE o t cs ns os fs ls ks) <|
 aj (ag λ(v,e,_)=>(LQ v e).1)<|aj (ag λ(b,_)=>(Az b).1) uX
theorem pq{n:Net}{nx:Lj}(hl:(nx.length:Int)=n.2.2.2.1.length): nN n nx=true↔∀i:Nat,(i:Int)<nx.length->rowOk n i (nx.getD i [])=true:=by
 unfold nN;simp only[qC,qE,qL,qU];exact⟨λh i hi=>h.2 i (by omega),λh=>⟨hl,λi hi=>h i (by omega)⟩⟩
theorem yf{n:Net}{o:Int}{row:Li}(hl:(row.length:Int)=n.2.2.2.1.length): rowOk n o row=true↔∀i:Nat,(i:Int)<row.length->aT n o (row.getD i 0)=true:=by
 unfold rowOk;simp only[qC,qE,qL];refine⟨λh i hi=>h.2 _ ?_,λh=>⟨hl,λx hx=>?_⟩⟩
 .rw[qA,qB (by omega),qR];exact wO _
 .obtain⟨i,hi,rfl⟩:=wX.1 hx;have:=h i (by omega)
  rw[qA,qB hi,qR]at this;exact this
theorem UE(n:Net)(o l:Int): Eb (Ea l (-1)) (Eb (Di (dO l (Df n.2.2.2.2.1))) true (Ea (b9 n l) o)) false=!aT n o l:=by
 unfold aT;simp only[Eb,Ea,Di,Df];by_cases h:l=-1
 .simp[h]
 .have hb:(l != -1)=true:=by simpa using h
  rw[hb];cases hi:dO l n.2.2.2.2.1.length
  .simp[h]
  .by_cases hf:b9 n l=o<;>simp[h,hf]
theorem LS(nx:Lj)(cs:LC)(ns os:LB)(fs:Lo)(ls:Ll)(ks:Lk): af Tryz.prog G0 48 [.ip N (cs,ns,os,fs,ls,ks),.dat M nx] [] ⟨cz nx,.dat .bool (nN (cs,ns,os,fs,ls,ks) nx),[]⟩:=by
 refine ae (c:=mkc KR3) aCB aL hm (Is nx cs ns os fs ls ks ⟨rfl,λhf=>?_⟩)
 have ec:∀l x:Int,Eb (Ea l (-1)) (Eb (Di (dO l (Df ls))) true (Ea (Du ls (Dc l) (ByteArray.mk (Dt UInt8).toArray,(0:Int),(0:Int),(0:Int),(0:Int),(0:Int))).snd.fst x)) false=!aT (cs,ns,os,fs,ls,ks) x l:=λl x=>UE (cs,ns,os,fs,ls,ks) x l
 simp only[ec];simp only[qc,Dk,Di,qd,Ea,Dp,Df,Dc,Du];obtain⟨hf1,hf2⟩:=hf;have hz:∀x l:Int,¬l=-1/\dO l ls.length=true->0<=l/\l<ls.length:=λx l h=>by
  have:=h.2;unfold dO at this;simpa using this
 have hr:∀x:Int,0<=x->x<nx.length->(nx.getD x.toNat []).length<=1000000:=λx h0 h1=>hf2 _ (by
  rw[qA,qB (by omega),qR];exact wO _)
 have hct:∀x:Int,0<=x->((x.toNat:Nat):Int)=x:=λx h=>by omega
 refine⟨λhne=>?_,λhe=>⟨⟨qM _,by omega,he,λi h=>by omega⟩,λx hx=>⟨λhlt=>⟨hx.1,hlt,λhr'=>?_,λhr'=>⟨⟨qM _,by omega,hr',λi h=>by omega⟩,λy hy=>⟨λhlty=>⟨hy.1,hlty,λh=>(hz x _ h).1,λh=>(hz x _ h).2,λhc=>?_,λhc=>?_⟩,λhgey=>?_⟩⟩⟩,λhge=>?_⟩⟩⟩
 .unfold nN;rw[vK hne];rfl
 .refine(kU.2 λht=>hr' ?_).symm
  have h:=(pq he).1 ht x.toNat (by have:=hx.1;omega)
  unfold rowOk at h;simp only[qC,qE]at h;exact h.1
 .refine(kU.2 λht=>?_).symm
  have h:=(pq he).1 ht x.toNat (by have:=hx.1;omega)
  rw[hct x hx.1]at h;have h2:=(yf (n:=(cs,ns,os,fs,ls,ks)) hr').1 h y.toNat (by have:=hy.1;omega)
  rw[h2]at hc;cases hc
 .have h1:=hr x hx.1 hlt;refine⟨by unfold inR;simp only;have:=hy.1;omega,y+1,⟨by have:=hy.1;omega,by omega,hr',λi hi=>?_⟩,rfl,by have:=hy.1;omega⟩
  by_cases h:(i:Int)<y
  .exact hy.2.2.2 i h
  .have:i=y.toNat:=by omega
   rw[this];exact hc
 .refine⟨by unfold inR;simp only;have:=hx.1;omega,x+1,⟨by have:=hx.1;omega,by omega,he,λi hi=>?_⟩,rfl,by have:=hx.1;omega⟩
  by_cases h:(i:Int)<x
  .exact hx.2.2.2 i h
  .have:i=x.toNat:=by have:=hx.1;omega
   rw[this,hct x hx.1];exact(yf (n:=(cs,ns,os,fs,ls,ks)) hr').2 λj hj=>hy.2.2.2 j (by omega)
 .exact((pq he).2 λi hi=>hx.2.2.2 i (by omega)).symm
theorem LU(l t:Int)(cs:LC)(ns os:LB)(fs:Lo)(ls:Ll)(ks:Lk): af Tryz.prog G0 165 [.ip N (cs,ns,os,fs,ls,ks),.dat I l,.dat I t] [] ⟨Jl (cs,ns,os,fs,ls,ks) l,.tup [.dat I (iN (cs,ns,os,fs,ls,ks) l t),.dat I (ni (cs,ns,os,fs,ls,ks) l t)],[]⟩:=by
 refine ae (c:=mkc KR3) aCB aL hm (It l t cs ns os fs ls ks ⟨rfl,λhp=>?_⟩)
 simp only[qc,Di,Df,Dc,Du];refine⟨λh=>?_,λh=>?_⟩
 .unfold iN ni;rw[h];exact⟨rfl,rfl⟩
 .obtain⟨g1,g2,g3,g4,g5,g6,g7,g8⟩:=tK cs ns os fs ls ks hp;have ho:lO (cs,ns,os,fs,ls,ks) (b9 (cs,ns,os,fs,ls,ks) l):=⟨hp.1,g1,g2⟩;have hv:=(dZ cs ns os fs ls ks ho).2.2.1;have ht:0<=t/\t<=2000000:=vO h;have hf:An (aC (cs,ns,os,fs,ls,ks) (b9 (cs,ns,os,fs,ls,ks) l)) (BM (cs,ns,os,fs,ls,ks) l) t:=⟨hv,g5,by omega,by omega,by omega⟩
  have e1:iN (cs,ns,os,fs,ls,ks) l t=fM (aC (cs,ns,os,fs,ls,ks) (b9 (cs,ns,os,fs,ls,ks) l)) (BM (cs,ns,os,fs,ls,ks) l) t:=if_pos h;have e2:ni (cs,ns,os,fs,ls,ks) l t=jF (aC (cs,ns,os,fs,ls,ks) (b9 (cs,ns,os,fs,ls,ks) l)) (BM (cs,ns,os,fs,ls,ks) l) t:=if_pos h;exact⟨hp.2.1,hp.2.2,ho,hp.2.1,hp.2.2,hf,e1.symm,e2.symm⟩
end Go.Eng.Sv
set_option maxRecDepth 100000
noncomputable section
namespace Go.Eng.Sv
open Go.Proofs
def nxt(nx:Lj)(o d:Int): Int:=(nx.getD o.toNat []).getD d.toNat 0
def ig(n:Net)(nx:Lj)(to:Int): Nat->Int->Int->List Stop×Int
 | 0,o,t=>if o=to then([(o,t,-1,-1)],0)else if nxt nx o to=-1 then([],170)else if ni n (nxt nx o to) (ak n o t)=0 then([],170)else([],ni n (nxt nx o to) (ak n o t))
 | k+1,o,t=>if o=to then([(o,t,-1,-1)],0)else if nxt nx o to=-1 then([],170)else if ni n (nxt nx o to) (ak n o t)=0 then
   if(ig n nx to k (pC n (nxt nx o to)) (iN n (nxt nx o to) (ak n o t)+cM n (nxt nx o to))).2=0 then
    ((o,t,iN n (nxt nx o to) (ak n o t),nxt nx o to)::(ig n nx to k (pC n (nxt nx o to)) (iN n (nxt nx o to) (ak n o t)+cM n (nxt nx o to))).1,0)
   else([],(ig n nx to k (pC n (nxt nx o to)) (iN n (nxt nx o to) (ak n o t)+cM n (nxt nx o to))).2)
  else([],ni n (nxt nx o to) (ak n o t))
def uK(n:Net)(nx:Lj)(o to t:Int): List Stop:=(ig n nx to 19 o t).1
def jh(n:Net)(nx:Lj)(o to t:Int): Int:=(ig n nx to 19 o t).2
def Aj(n:Net)(nx:Lj)(o to t:Int): Prop:=bn n=true/\nN n nx=true/\0<=o/\o<n.2.2.2.1.length/\0<=to/\to<n.2.2.2.1.length/\0<=t/\t<=2200000
def Ak(d:List Stop)(r:List Stop×Int): List Stop×Int:=if r.2=0 then(d++r.1,0)else([],r.2)
def U1(n:Net)(nx:Lj)(o0 to t0:Int)(x:List Stop×Int×Int): Prop:=Aj n nx x.2.1 to x.2.2/\x.1.length<=19/\ig n nx to 19 o0 t0=Ak x.1 (ig n nx to (19-x.1.length) x.2.1 x.2.2)
def wSt(x:List Stop×Int×Int): List Stop:=x.1++[(x.2.1,x.2.2,-1,-1)]
def aCK(n:Net)(nx:Lj)(o0 to t0:Int): Ann:=⟨λid s=>match id with
 | 3=>match s.sig.T 19 with
  | .buf nm _=>some {α:=List Stop×Int×Int,inv:=λx=>U1 n nx o0 to t0 x,st:=λx=>iM (put (flat s) [(11,.buf nm (Dj (wSt x))),(12,.dat I (Df x.1))]) nm (.buf 81 Stp (wSt x) []),μ:=λx=>Dc (Dh 20 (Df x.1))}
  | _=>none
 | _=>none,λ_ _=>none,λ_ _=>none⟩
def KR4: Kt:=kOr 48 (ay [.ptr N,.val M] (λ(_,nx,_)=>cz nx) λ(n,nx,_)=>.dat .bool (nN n nx)) <|
 kOr 165 (ay [.ptr N,.val I,.val I] (λ(n,l,_)=>Jl n l) λ(n,l,t,_)=>.tup [.dat I (iN n l t),.dat I (ni n l t)]) KR3
def KPm: KPt:=pOr 97 (uS [.val I,.val I] λ(_,e,_)=>⟨True,isZero e,uJ 39 e⟩) Go.Eng.noP
noncomputable def mkp(K:Kt)(mb:Tmp->Bool)(KP:KPt)(pf:FuncId->Bool): Cfg:=⟨Tryz.prog,G0,K,mb,KI0,false,KP,pf⟩
def cW: Cfg:=mkp KR4 (λt=>t==19) KPm (λf=>f==97)
theorem Qx(nx:Lj)(o to t:Int)(cs:LC)(ns os:LB)(fs:Lo)(ls:Ll)(ks:Lk)(hvc:
 let c1:=(cs,ns,os,fs,ls,ks);let c2:=((-1:Int),(-1:Int));let c3:=((0:Int),(0:Int),(0:Int),(0:Int));let c4:=jh c1 nx o to t;let c5:=isZero c4;let c6:=chainOf (Value.iface (39) (Value.int IntKind.i64 c4));let c7:=(ByteArray.mk #[],(0:Int),c3);true/\(Aj c1 nx o to t->(∃(x:List Stop×Int×Int),U1 c1 nx o to t x/\c1=c1/\nx=nx/\o=o/\to=to/\t=t/\Value.slice none (0) (0)=Value.slice none (0) (0)/\1=Dj (wSt x)/\0=Df x.1/\o=o/\t=t/\o=o/\t=t/\(-1:Int)=(-1:Int)/\(-1:Int)=(-1:Int)/\1=1/\[(o,t,c2)]=wSt x/\True)/\∀(x:List (Int×Int×Int×Int)×Int×Int),let c8:=Dj (wSt x);let c9:=Df x.1;let c10:=Dc c9;let c11:=Du (wSt x) c10 c3;let c12:=c11.1;let c13:=Ea c12 to;let c14:=Du nx (Dc c12) [];let c15:=Du c14 (Dc to) 0;let c16:=Dy c15 (-1);let c17:=c11.2;let c18:=En (wSt x) c10 (c12,c17.1,c17.2.1,c15);let c19:=Du c18 c10 c3;let c20:=c19.1;let c21:=c19.2;let c22:=c21.1;let c23:=ak c1 c20 c22;let c24:=ni c1 c15 c23;let c25:=isZero c24;let c26:=En c18 c10 (c20,c22,iN c1 c15 c23,c21.2.2);let c27:=Dy (Int.ofNat c8) 20;let c28:=(Du ls (Dc c15) c7).2.2;let c29:=(Du c26 c10 c3).2.2.1+c28.2.2.1;let c30:=[(c28.1,c29,c2)];let c31:=c8+Dj c30;let c32:=c9+1;
 U1 c1 nx o to t x->c8=c8/\0<=c9/\c9<Dx c8/\c8=c8/\c8=c8/\(c13->c8=c8/\0<=c9/\c9<Dx c8/\c8=c8/\c8=c8/\c8=c8/\0<=c12/\c12<Df nx/\0<=to/\to<Df c14/\(c16->(true->True/\(false=false->c5=false/\true/\chainOf (Value.iface (39) (Value.int IntKind.i64 (170:Int)))=c6))/\True)/\(c16=false->c8=c8/\c8=c8/\c8=c8/\Dj c18=c8/\Dj c18=c8/\Dj c18=c8/\Dj c18=c8/\Dj c18=c8/\Dj c18=c8/\fB c1 c20 c22/\Jl c1 c15/\True/\(c25->Dj c18=c8/\Dj c18=c8/\Dj c18=c8/\Dj c18=c8/\Dj c18=c8/\Dj c18=c8/\fB c1 c20 c22/\Jl c1 c15/\(True/\c25)/\Dj c18=c8/\Dj c18=c8/\Dj c18=c8/\Dj c26=c8/\(c27->(true->True/\(false=false->c5=false/\true/\chainOf (Value.iface (39) (Value.int IntKind.i64 (170:Int)))=c6))/\True)/\(c27=false->0<=c15/\c15<Df ls/\1=1/\0=0/\1=1/\1=1/\0=0/\Dj c26=c8/\Dj c26=c8/\Dj c26=c8/\1=1/\1=1/\0=0/\inR .i64 c29/\Dj c26=c8/\(c31*(32))<=(140737488355328)/\c31<=(9223372036854775807)/\inR .i64 c32/\∃(y:List Stop×Int×Int),let c33:=Df y.1;U1 c1 nx o to t y/\(c1=c1/\nx=nx/\o=o/\to=to/\t=t/\Value.slice none (0) (0)=Value.slice none (0) (0)/\c31=Dj (wSt y)/\c32=c33/\o=o/\t=t/\o=o/\t=t/\(-1:Int)=(-1:Int)/\(-1:Int)=(-1:Int)/\1=1/\Ef c26 c30=wSt y/\True)/\Dc (20-c33)<Dc (20-c9)))/\(c25=false->c5=false/\true/\chainOf (Value.iface (39) (Value.int IntKind.i64 c24))=c6)))/\(c13=false->c5/\c8=c8/\wSt x=uK c1 nx o to t/\True))):
  evC cW (aCK (cs,ns,os,fs,ls,ks) nx o to t) 102 [.ip N (cs,ns,os,fs,ls,ks),.dat M nx,.dat I o,.dat I to,.dat I t] (.dat (.sl Stp) (uK (cs,ns,os,fs,ls,ks) nx o to t)) ⟨Aj (cs,ns,os,fs,ls,ks) nx o to t,isZero (jh (cs,ns,os,fs,ls,ks) nx o to t),uJ 39 (jh (cs,ns,os,fs,ls,ks) nx o to t)⟩:=oE hvc
theorem aEY: al Tryz.prog G0 KR4:=aj (ag λ((cs,ns,os,fs,ls,ks),nx,_)=>LS nx cs ns os fs ls ks)<|aj (ag λ((cs,ns,os,fs,ls,ks),l,t,_)=>LU l t cs ns os fs ls ks) aCB
theorem VS: bL Tryz.prog G0 KPm:=iC (i7 λ(v,e,_)=>(LQ v e).2) qo
theorem aCN(d:List Stop)(o t:Int)(z:Stop): (wSt (d,o,t)).getD d.length z=(o,t,-1,-1):=by simp[wSt]
theorem aCM(d:List Stop)(o t:Int)(v:Stop): (wSt (d,o,t)).set d.length v=d++[v]:=by simp[wSt]
theorem aEe(d:List Stop)(v z:Stop): (d++[v]).getD d.length z=v:=by simp[]
theorem aEd(d:List Stop)(v w:Stop): (d++[v]).set d.length w=d++[w]:=by simp
theorem ZF(d:List Stop)(o t:Int): (wSt (d,o,t)).length=d.length+1:=by simp[wSt]
theorem cZ{e:Int}: isZero e=true↔e=0:=by simp[isZero]
theorem fj{e:Int}: isZero e=false↔e≠0:=by simp[isZero]
theorem bm(cs:LC)(ns os:LB)(fs:Lo)(ls:Ll)(ks:Lk)(h:bn (cs,ns,os,fs,ls,ks)=true): noF (cs,ns,os,fs,ls,ks)=true:=((xb cs ns os fs ls ks).1 (wU.1 h)).1
theorem iG{c:Int×List Bool×Li}{m t:Int}(hv:ax c.1 c.2.1 c.2.2=true)(he:jF c m t=0)(m0:0<=m)(m1:m<=1439): t<=fM c m t/\fM c m t<=t+90000:=by
 obtain⟨z,w,h⟩:=c;obtain⟨⟨v1,v2,_,_⟩,_⟩:=bM.1 hv;have he':fU w h (d0F (z,w,h) m t)=0:=he;obtain⟨q1,q2,_⟩:=lP he';have e:fM (z,w,h) m t=jb z (fV w h (d0F (z,w,h) m t)) m:=if_pos he';rw[e];unfold jb;generalize fV w h (d0F (z,w,h) m t)=nd at *;have hd:d0F (z,w,h) m t=if m<(t+z)%1440 then(t+z)/1440+1 else(t+z)/1440:=rfl
 rw[hd]at q1 q2;simp only at v1 v2;split at q1<;>rename_i hs<;>simp only[hs,kC,yY]at q2<;>omega
theorem mM(cs:LC)(ns os:LB)(fs:Lo)(ls:Ll)(ks:Lk){l t:Int}(hl:Jl (cs,ns,os,fs,ls,ks) l)(he:ni (cs,ns,os,fs,ls,ks) l t=0): 0<=t/\t<=2000000/\t<=iN (cs,ns,os,fs,ls,ks) l t/\iN (cs,ns,os,fs,ls,ks) l t<=t+90000:=by
 obtain⟨g1,g2,g3,g4,g5,g6,g7,g8⟩:=tK cs ns os fs ls ks hl;have ho:lO (cs,ns,os,fs,ls,ks) (b9 (cs,ns,os,fs,ls,ks) l):=⟨hl.1,g1,g2⟩;have hv:=(dZ cs ns os fs ls ks ho).2.2.1;have hk:cH t=true:=by
  cases h:cH t with
  | true=>rfl
  | false=>unfold ni at he;rw[h]at he;cases he
 have ht:0<=t/\t<=2000000:=vO hk;have e1:iN (cs,ns,os,fs,ls,ks) l t=fM (aC (cs,ns,os,fs,ls,ks) (b9 (cs,ns,os,fs,ls,ks) l)) (BM (cs,ns,os,fs,ls,ks) l) t:=if_pos hk;have e2:ni (cs,ns,os,fs,ls,ks) l t=jF (aC (cs,ns,os,fs,ls,ks) (b9 (cs,ns,os,fs,ls,ks) l)) (BM (cs,ns,os,fs,ls,ks) l) t:=if_pos hk;rw[e2]at he;rw[e1];exact⟨ht.1,ht.2,iG hv he g5 g6⟩
theorem rY{n:Net}{nx:Lj}{to o t:Int}(k:Nat)(h:o=to): ig n nx to k o t=([(o,t,-1,-1)],0):=by cases k<;>exact if_pos h
theorem ji{n:Net}{nx:Lj}{to o t:Int}(k:Nat)(h:o≠to)(h1:nxt nx o to=-1): ig n nx to k o t=([],170):=by cases k<;>(unfold ig;rw[if_neg h,if_pos h1])
theorem lz{n:Net}{nx:Lj}{to o t:Int}(k:Nat)(h:o≠to)(h1:nxt nx o to≠-1)(h2:ni n (nxt nx o to) (ak n o t)≠0): ig n nx to k o t=([],ni n (nxt nx o to) (ak n o t)):=by cases k<;>(unfold ig;rw[if_neg h,if_neg h1,if_neg h2])
theorem jS{n:Net}{nx:Lj}{to o t:Int}(h:o≠to)(h1:nxt nx o to≠-1)(h2:ni n (nxt nx o to) (ak n o t)=0): ig n nx to 0 o t=([],170):=by unfold ig;rw[if_neg h,if_neg h1,if_pos h2]
theorem jR{n:Net}{nx:Lj}{to o t:Int}(k:Nat)(h:o≠to)(h1:nxt nx o to≠-1)(h2:ni n (nxt nx o to) (ak n o t)=0):
  ig n nx to (k+1) o t=Ak [(o,t,iN n (nxt nx o to) (ak n o t),nxt nx o to)] (ig n nx to k (pC n (nxt nx o to)) (iN n (nxt nx o to) (ak n o t)+cM n (nxt nx o to))):=by
 rw[ig,if_neg h,if_neg h1,if_pos h2];rfl
theorem rL{d:List Stop}{r:List Stop×Int}(h:r.2≠0): (Ak d r).2=r.2:=by unfold Ak;rw[if_neg h]
theorem EJ{d:List Stop}{r:List Stop×Int}(h:r.2=0): Ak d r=(d++r.1,0):=by unfold Ak;rw[if_pos h]
theorem yk(d e:List Stop)(r:List Stop×Int): Ak d (Ak e r)=Ak (d++e) r:=by
 unfold Ak;by_cases h:r.2=0
 .simp[h]
 .simp[h]
theorem Hg{n:Net}{nx:Lj}{to:Int}: ∀(k:Nat) (o t:Int),Ak [] (ig n nx to k o t)=ig n nx to k o t:=λk o t=>by
 by_cases h:o=to
 .rw[rY k h];rfl
 .by_cases h1:nxt nx o to=-1
  .rw[ji k h h1];rfl
  .by_cases h2:ni n (nxt nx o to) (ak n o t)=0
   .cases k with
    | zero=>rw[jS h h1 h2];rfl
    | succ k=>rw[jR k h h1 h2,yk];rfl
   .rw[lz k h h1 h2];unfold Ak;rw[if_neg h2]
theorem gW(cs:LC)(ns os:LB)(fs:Lo)(ls:Ll)(ks:Lk){nx:Lj}(ht:nN (cs,ns,os,fs,ls,ks) nx=true){o d:Int}(o0:0<=o)(o1:o<fs.length)(d0:0<=d)(d1:d<fs.length): (nx.length:Int)=fs.length/\((nx.getD o.toNat []).length:Int)=fs.length/\(nxt nx o d≠-1->(0<=nxt nx o d/\nxt nx o d<ls.length)/\b9 (cs,ns,os,fs,ls,ks) (nxt nx o d)=o):=by
 have hl:(nx.length:Int)=fs.length:=by
  unfold nN at ht;simp only[qC,qE]at ht;exact ht.1
 have h:=(pq (n:=(cs,ns,os,fs,ls,ks)) hl).1 ht o.toNat (by omega)
 have hr:((nx.getD o.toNat []).length:Int)=fs.length:=by
  unfold rowOk at h;simp only[qC,qE]at h;exact h.1
 refine⟨hl,hr,λhne=>?_⟩
 have h2:=(yf (n:=(cs,ns,os,fs,ls,ks)) hr).1 h d.toNat (by omega)
 unfold aT dO at h2;simp only[zW,qC,qE]at h2;rcases h2 with h2 | ⟨h2,h3⟩
 .exact absurd h2 hne
 .exact⟨h2,h3.trans (by omega)⟩
theorem aO{x:Int}(h:-1000000000000<=x/\x<=1000000000000): inR .i64 x:=by unfold inR;simp only;omega
theorem LO(nx:Lj)(o to t:Int)(cs:LC)(ns os:LB)(fs:Lo)(ls:Ll)(ks:Lk): af Tryz.prog G0 102 [.ip N (cs,ns,os,fs,ls,ks),.dat M nx,.dat I o,.dat I to,.dat I t] [] ⟨Aj (cs,ns,os,fs,ls,ks) nx o to t/\isZero (jh (cs,ns,os,fs,ls,ks) nx o to t)=true,.dat (.sl Stp) (uK (cs,ns,os,fs,ls,ks) nx o to t),[]⟩/\cX Tryz.prog G0 102 [.ip N (cs,ns,os,fs,ls,ks),.dat M nx,.dat I o,.dat I to,.dat I t] [] ⟨Aj (cs,ns,os,fs,ls,ks) nx o to t,isZero (jh (cs,ns,os,fs,ls,ks) nx o to t),uJ 39 (jh (cs,ns,os,fs,ls,ks) nx o to t)⟩:=by
 refine dE (c:=cW) aEY aL hm VS (Qx nx o to t cs ns os fs ls ks ⟨rfl,λhp=>?_⟩)
 simp only[qc,qd,Dy,Ea,Df,Dc,Dx,Dj,Du,En,Ef];refine⟨?_,?_⟩
 .exact⟨([],o,t),⟨hp,by simp,(Hg 19 o t).symm⟩,rfl,rfl,rfl⟩
 rintro⟨d,u,v⟩ hx;simp only[aCN,aCM,aEe,aEd,ZF,qF,wE,zS];obtain⟨⟨hs,ht,u0,u1,o0,o1,v0,v1⟩,hd,hw⟩:=hx;simp only at u0 u1 o0 o1 v0 v1 hd hw;have hno:=bm cs ns os fs ls ks hs;obtain⟨c1,c2,c3⟩:=gW cs ns os fs ls ks ht u0 u1 o0 o1;have ec:(nx.getD u.toNat []).getD to.toNat 0=nxt nx u to:=rfl;rw[ec];generalize hln:nxt nx u to=ln at *;have hoff:lO (cs,ns,os,fs,ls,ks) u:=⟨hno,u0,u1⟩
 have hW:jh (cs,ns,os,fs,ls,ks) nx o to t=(Ak d (ig (cs,ns,os,fs,ls,ks) nx to (19-d.length) u v)).2:=by unfold jh;rw[hw]
 have hL:uK (cs,ns,os,fs,ls,ks) nx o to t=(Ak d (ig (cs,ns,os,fs,ls,ks) nx to (19-d.length) u v)).1:=by unfold uK;rw[hw]
 have hroute:u≠to->ig (cs,ns,os,fs,ls,ks) nx to (19-d.length) u v=([],170)->isZero (jh (cs,ns,os,fs,ls,ks) nx o to t)=false/\chainOf (Value.iface 39 (Value.int IntKind.i64 170))=chainOf (uJ 39 (jh (cs,ns,os,fs,ls,ks) nx o to t)):=λ_ h=>by
  have:jh (cs,ns,os,fs,ls,ks) nx o to t=170:=by rw[hW,h];rfl
  rw[this];exact⟨rfl,rfl⟩
 refine⟨by omega,by omega,λhne=>⟨by omega,by omega,u0,by rw[c1];exact u1,o0,by rw[c2];exact o1,λhm=>hroute hne (ji _ hne (hln.trans hm)),λhm=>?_⟩,λhe=>?_⟩
 .have hm':nxt nx u to≠-1:=by rw[hln];exact hm
  obtain⟨⟨l0,l1⟩,lf⟩:=c3 hm;have hlin:Jl (cs,ns,os,fs,ls,ks) ln:=⟨hno,l0,l1⟩;have hr:fB (cs,ns,os,fs,ls,ks) u v:=⟨hoff,by omega,by omega⟩
  refine⟨hr,hlin,λhz=>⟨hr,hlin,hz,λh20=>hroute hne ?_,λh20=>?_⟩,λhz=>?_⟩
  .rw[show 19-d.length=0 by omega]
   exact jS hne hm' (by rw[hln];exact cZ.1 hz)
  .have hz0:=cZ.1 hz;obtain⟨b1,b2,b3,b4⟩:=mM cs ns os fs ls ks hlin hz0;obtain⟨g1,g2,g3,g4,g5,g6,g7,g8⟩:=tK cs ns os fs ls ks hlin;have et:(ls.getD ln.toNat (⟨#[]⟩,0,0,0,0,0)).2.2.2.2.1=cM (cs,ns,os,fs,ls,ks) ln:=rfl;have eo:(ls.getD ln.toNat (⟨#[]⟩,0,0,0,0,0)).2.2.1=pC (cs,ns,os,fs,ls,ks) ln:=rfl;rw[et,eo]
   have hnx:=jR (n:=(cs,ns,os,fs,ls,ks)) (nx:=nx) (to:=to) (o:=u) (t:=v) (19-(d.length+1)) hne hm' (by rw[hln];exact hz0)
   rw[show 19-(d.length+1)+1=19-d.length by omega,hln]at hnx
   refine⟨l0,l1,aO (by omega),by omega,by omega,aO (by omega),(d++[(u,v,iN (cs,ns,os,fs,ls,ks) ln (ak (cs,ns,os,fs,ls,ks) u v),ln)],pC (cs,ns,os,fs,ls,ks) ln,iN (cs,ns,os,fs,ls,ks) ln (ak (cs,ns,os,fs,ls,ks) u v)+cM (cs,ns,os,fs,ls,ks) ln),⟨⟨hs,ht,g3,g4,o0,o1,by simp only;omega,by simp only;omega⟩,by simp;omega,?_⟩,⟨by rw[ZF];simp,by simp,rfl⟩,by simp;omega⟩
   show ig (cs,ns,os,fs,ls,ks) nx to 19 o t=_;rw[hw,hnx,yk];simp
  .have hz0:=fj.1 hz;have:=lz (n:=(cs,ns,os,fs,ls,ks)) (nx:=nx) (to:=to) (o:=u) (t:=v) (19-d.length) hne hm' (by rw[hln];exact hz0)
   rw[hln]at this;have:jh (cs,ns,os,fs,ls,ks) nx o to t=ni (cs,ns,os,fs,ls,ks) ln (ak (cs,ns,os,fs,ls,ks) u v):=by rw[hW,this];exact rL hz0
   rw[this];exact⟨hz,rfl⟩
 .have:=rY (n:=(cs,ns,os,fs,ls,ks)) (nx:=nx) (to:=to) (o:=u) (t:=v) (19-d.length) he;rw[hW,hL,this];exact⟨rfl,rfl⟩
end Go.Eng.Sv
set_option maxRecDepth 100000
namespace Go.Eng.Sv
open Go.Proofs
noncomputable def JM(args:List AV)(m:Mem): Option jO:=match args,m with
 | [.ifc t (.dat (.int .i64) e)],[]=>if t=39 then some ⟨True,.dat I e,[]⟩else none
 | _,_=>none
noncomputable def KR5: Kt:=kOr 94 JM <|
 kOr 102 (ay [.ptr N,.val M,.val I,.val I,.val I] (λ(n,nx,o,to,t,_)=>Aj n nx o to t/\isZero (jh n nx o to t)=true) λ(n,nx,o,to,t,_)=>.dat (.sl Stp) (uK n nx o to t)) KR4
noncomputable def KPw: KPt:=pOr 102 (uS [.ptr N,.val M,.val I,.val I,.val I] λ(n,nx,o,to,t,_)=>⟨Aj n nx o to t,isZero (jh n nx o to t),uJ 39 (jh n nx o to t)⟩) <|
 pOr 95 (uS [.val .bool] λ(b,_)=>⟨True,b,uJ 39 1⟩) KPm
theorem Up: ∀args m c,JM args m=some c->af Tryz.prog G0 94 args m c:=by
 intro args m c h;unfold JM at h;split at h
 .split at h
  .rename_i e;subst e;cases h;exact Xk _
  .cases h
 .cases h
theorem aEX: al Tryz.prog G0 KR5:=aj Up<|aj (ag λ((cs,ns,os,fs,ls,ks),nx,o,to,t,_)=>(LO nx o to t cs ns os fs ls ks).1) aEY
theorem VR: bL Tryz.prog G0 KPw:=iC (i7 λ((cs,ns,os,fs,ls,ks),nx,o,to,t,_)=>(LO nx o to t cs ns os fs ls ks).2)<|iC (i7 λ(b,_)=>(Az b).2) VS
end Go.Eng.Sv
set_option maxRecDepth 100000
noncomputable section
namespace Go.Eng.Sv
open Go.Proofs
def aBN(w:List Bool)(h:Li): Nat->Int->Option Int
 | 0,d=>some d
 | n+1,d=>(lQ w h (d+1)).bind (aBN w h n)
def bI(n:Net)(k:Int): Cla:=n.2.2.2.2.2.getD k.toNat (⟨#[]⟩,0,0)
def Ao(n:Net)(k:Int): Prop:=0<=k/\k<n.2.2.2.2.2.length
def Ud(n:Net)(k o t:Int): Int:=fM (aC n o) (bI n k).2.2 (ak n o t)
def Zv(n:Net)(k o t:Int): Int:=jF (aC n o) (bI n k).2.2 (ak n o t)
theorem Hu(cs:LC)(ns os:LB)(fs:Lo)(ls:Ll)(ks:Lk)(h:noF (cs,ns,os,fs,ls,ks)=true): ∀x∈ks,gA x=true:=
 ((kp (by decide) (λl:Cla=>l.1) gA ks).1 (hC cs ns os fs ls ks h).2.2.2.2.2).2.2.2
theorem me(cs:LC)(ns os:LB)(fs:Lo)(ls:Ll)(ks:Lk){k:Int}(h:noF (cs,ns,os,fs,ls,ks)=true)(hk:Ao (cs,ns,os,fs,ls,ks) k): (0<=(bI (cs,ns,os,fs,ls,ks) k).2.1/\(bI (cs,ns,os,fs,ls,ks) k).2.1<=1439)/\0<=(bI (cs,ns,os,fs,ls,ks) k).2.2/\(bI (cs,ns,os,fs,ls,ks) k).2.2<=1439:=by
 obtain⟨k0,k1⟩:=hk;have k1:k<(ks.length:Int):=k1;have hm:bI (cs,ns,os,fs,ls,ks) k∈ks:=by
  show ks.getD k.toNat _∈ks;rw[qA,qB (by omega),qR]
  exact wO _
 have:=Hu cs ns os fs ls ks h _ hm;unfold gA dD at this;simp only[qC,qE]at this;omega
theorem Na(cs:LC)(ns os:LB)(fs:Lo)(ls:Ll)(ks:Lk){o t:Int}(h:lO (cs,ns,os,fs,ls,ks) o): t+1<=ak (cs,ns,os,fs,ls,ks) o t/\ak (cs,ns,os,fs,ls,ks) o t<=t+960:=by
 obtain⟨_,_,_,g1,g2,g3,g4⟩:=dZ cs ns os fs ls ks h;unfold ak;have h1:1*1<=(bO (cs,ns,os,fs,ls,ks) o).2.2.2.2.1*(bO (cs,ns,os,fs,ls,ks) o).2.2.2.2.2.1:=xW g1 g3 (by decide) (by omega)
 have h2:(bO (cs,ns,os,fs,ls,ks) o).2.2.2.2.1*(bO (cs,ns,os,fs,ls,ks) o).2.2.2.2.2.1<=4*240:=xW g2 g4 (by omega) (by decide)
 omega
theorem Pq{w:List Bool}{h:Li}: ∀(k:Nat) {d e:Int},aBN w h k d=some e->d<=e/\e<=d+61*k
 | 0,d,e,g=>by cases g;omega
 | k+1,d,e,g=>by
  unfold aBN at g;obtain⟨y,h1,h2⟩:=yX.1 g;have hm:y∈dN w h (d+1) 60:=qAz (by unfold lQ at h1;rw[h1];rfl)
  have:=tI hm;have:=Pq k h2;omega
end Go.Eng.Sv
set_option maxRecDepth 100000
noncomputable section
namespace Go.Eng.Sv
open Go.Proofs
def Zn(xs:Li)(k:Nat): Prop:=xs.length=k
def Ik(xs ys:Li): Prop:=xs.length+ys.length<=1000000000000
def upR(l:Li)(b k:Int): Li:=(l.take k.toNat).map λx=>x+b
def upTo(l:Li)(k:Int): Prop:=0<=k/\k<=l.length
def rsP(b:Int)(l xs:Li)(k:Nat): Prop:=(xs.length=k/\xs.length+l.length<=1000000000000)/\-1000000<=b/\b<=1000000/\∀x∈l,-1000000000<=x/\x<=1000000000
def wHd(n:Net)(p:Plan)(a:AV): List AV:=[.dat (.sl C) n.1,.dat (.sl S) n.2.1,.dat (.sl S) n.2.2.1,.dat (.sl (.pair S (.pair I (.pair I (.pair I (.pair I (.pair I (.sl S)))))))) n.2.2.2.1,.dat (.sl (.pair S (.pair I (.pair I (.pair I (.pair I I)))))) n.2.2.2.2.1,.dat (.sl (.pair S (.pair I I))) n.2.2.2.2.2,.dat I p.1,.dat I p.2.1,.dat M p.2.2.1,.dat (.sl M) p.2.2.2,a]
def mQ(n:Net)(p:Plan)(k:Nat)(xs:Li): Mem:=[(2,.var (wHd n p (.buf 3 k))),(3,.buf 3 I xs [])]
def gK(t:Ty): AV->Option t.den
 | .dat t' x=>if h:t'=t then some (h▸x)else none
 | _=>none
def aCu: List AV->Option (Net×Plan×AV)
 | [a1,a2,a3,a4,a5,a6,a7,a8,a9,a10,a]=>match gK (.sl C) a1,gK (.sl S) a2,gK (.sl S) a3,gK (.sl Of) a4,gK (.sl Ln) a5,gK (.sl Kl) a6,gK I a7,gK I a8,gK M a9,gK (.sl M) a10 with
  | some cs,some ns,some os,some fs,some ls,some ks,some p1,some p2,some p3,some p4=>some ((cs,ns,os,fs,ls,ks),(p1,p2,p3,p4),a)
  | _,_,_,_,_,_,_,_,_,_=>none
 | _=>none
def asW(m:Mem): Option (Net×Plan×Nat×Li):=match m with
 | [(2,.var cells),(3,.buf el tx xs [])]=>match aCu cells,gK R (.dat (.sl tx) xs)with
  | some (n,p,.buf 3 k),some ys=>if el=3 then some (n,p,k,ys)else none
  | _,_=>none
 | _=>none
def aCn(a b:List AV->Mem->Option jO): List AV->Mem->Option jO:=λargs m=>match a args m with
 | some c=>some c
 | none=>b args m
def wK(l:List AK)(pre:AKs l->Net->Plan->Nat->Li->Prop)(ret:AKs l->Net->Plan->AV)(add:AKs l->Net->Plan->Li)(args:List AV)(m:Mem): Option jO:=match asW m,ofK l args with
 | some (n,p,k,xs),some x=>some ⟨pre x n p k xs,ret x n p,mQ n p (Ec k (Dj (add x n p))) (Ef xs (add x n p))⟩
 | _,_=>none
def wR(l:List AK)(pre:AKs l->Net->Plan->Nat->Li->Prop)(ret:AKs l->Net->Plan->AV)(args:List AV)(m:Mem): Option jO:=match asW m,ofK l args with
 | some (n,p,k,xs),some x=>some ⟨pre x n p k xs,ret x n p,[]⟩
 | _,_=>none
def wP(l:List AK)(q:AKs l->Net->Plan->Nat->Li->xi)(args:List AV)(m:Mem): Option xi:=match asW m,ofK l args with
 | some (n,p,k,xs),some x=>some (q x n p k xs)
 | _,_=>none
def asI: AV->Option (Net×Plan)
 | .ips cells=>match aCu cells with
  | some (n,p,.top)=>some (n,p)
  | _=>none
 | _=>none
def wI(l:List AK)(pre:AKs l->Net->Plan->Prop)(ret:AKs l->Net->Plan->AV)(args:List AV)(m:Mem): Option jO:=match m,args with
 | [],a::ar=>match asI a,ofK l ar with
  | some (n,p),some x=>some ⟨pre x n p,ret x n p,[]⟩
  | _,_=>none
 | _,_=>none
theorem Z6(k:Nat)(xs ys:Li)(n:Net)(p:Plan)(hvc:
 let c3:=n.2.2.2;let c1:=Dj (Ef xs ys);let c2:=k+Dj ys;true/\(Zn xs k/\Ik xs ys->1=1/\Dj xs<=c1/\1=1/\1=1/\1=1/\0=0/\Dj xs=k/\(c2*(8))<=(140737488355328)/\c2<=(9223372036854775807)/\1=1/\1=1/\1=1/\0=0/\c1=c2/\n.1=n.1/\n.2.1=n.2.1/\n.2.2.1=n.2.2.1/\c3.1=c3.1/\c3.2.1=c3.2.1/\c3.2.2=c3.2.2/\p.1=p.1/\p.2.1=p.2.1/\p.2.2.1=p.2.2.1/\p.2.2.2=p.2.2.2/\c2=c2/\Ef xs ys=Ef xs ys/\1=1/\Dj xs=Dj xs/\True)):
  evF (mkc KR2) aA 66 [.ptr 2 1 0 0,.dat R ys] (mQ n p k xs) ⟨Zn xs k/\Ik xs ys,.tup [],mQ n p (Ec k (Dj ys)) (Ef xs ys)⟩:=oE hvc
def KW1: Kt:=kOr 66 (wK [.mp 2,.val R] (λ(_,ys,_) _ _ k xs=>Zn xs k/\Ik xs ys) (λ_ _ _=>.tup []) λ(_,ys,_) _ _=>ys) KR2
def rsA(b:Int)(l xs:Li)(n:Net)(p:Plan): Ann:=⟨λid s=>match id with
 | 1=>some {α:=Int,inv:=λj=>upTo l j,st:=λj=>{put (flat s) [(10,.dat I j)]with mem:=mQ n p (Ec (Dj xs) (Dj (upR l b j))) (Ef xs (upR l b j))},μ:=λj=>Dc (Dh (Df l) j)}
 | _=>none,λ_ _=>none,λ_ _=>none⟩
theorem KF(b:Int)(k:Nat)(l xs:Li)(n:Net)(p:Plan)(hvc:
 let c7:=n.2.1;let c6:=p.2.1;let c5:=n.2.2.1;let c4:=p.2.2;let c3:=n.2.2.2;let c1:=upR l b (Df l);let c2:=Ef xs c1;true/\(rsP b l xs k->1=1/\Dj xs<=Dj c2/\(∃x,upTo l x/\1=1/\0=0/\0=0/\b=b/\l=l/\Df l=Df l/\0=x/\n.1=n.1/\c7=c7/\c5=c5/\c3.1=c3.1/\c3.2.1=c3.2.1/\c3.2.2=c3.2.2/\p.1=p.1/\c6=c6/\c4.1=c4.1/\c4.2=c4.2/\k=Dj xs+Dj (upR l b x)/\xs=Ef xs (upR l b x)/\1=1/\Dj xs=Dj xs/\True)/\∀(x:Int),let c19:=Dp x (Df l);let c20:=Du l (Dc x) 0+b;let c21:=Ef xs (upR l b x);let c22:=Dj xs+Dj (upR l b x);let c23:=[c20];let c24:=Ef c21 c23;let c25:=x+1;upTo l x->(c19->0<=x/\x<Df l/\inR .i64 c20/\(Zn c21 c22/\Ik c21 c23)/\1=1/\Dj c21<=Dj c24/\inR .i64 c25/\∃y,upTo l y/\(1=1/\0=0/\0=0/\b=b/\l=l/\Df l=Df l/\c25=y/\n.1=n.1/\c7=c7/\c5=c5/\c3.1=c3.1/\c3.2.1=c3.2.1/\c3.2.2=c3.2.2/\p.1=p.1/\c6=c6/\c4.1=c4.1/\c4.2=c4.2/\c22+Dj c23=Dj xs+Dj (upR l b y)/\c24=Ef xs (upR l b y)/\1=1/\Dj xs=Dj xs/\True)/\Dc (Df l-y)<Dc (Df l-x))/\(c19=false->n.1=n.1/\c7=c7/\c5=c5/\c3.1=c3.1/\c3.2.1=c3.2.1/\c3.2.2=c3.2.2/\p.1=p.1/\c6=c6/\c4.1=c4.1/\c4.2=c4.2/\c22=k+Dj c1/\c21=c2/\1=1/\Dj xs=Dj xs/\True))):
  evF (mkc KW1) (lvA [(1,[0,1,7,8,9,10])] (rsA b l xs n p)) 67 [.ptr 2 1 0 0,.dat I b,.dat R l] (mQ n p k xs) ⟨rsP b l xs k,.tup [],mQ n p (Ec k (Dj (upR l b (Df l)))) (Ef xs (upR l b (Df l)))⟩:=oE hvc
def KW2: Kt:=kOr 67 (wK [.mp 2,.val I,.val R] (λ(_,b,l,_) _ _ k xs=>rsP b l xs k) (λ_ _ _=>.tup []) λ(_,b,l,_) _ _=>upR l b (Df l)) KW1
theorem V8(o:Int)(k:Nat)(xs:Li)(n:Net)(p:Plan)(hvc:
 let c1:=n.2.2.2;let c5:=(Du c1.1 (Dc o) (ByteArray.mk #[],(0:Int),(0:Int),(0:Int),(0:Int),(0:Int),Dt ByteArray)).2.2.1;let c7:=Du n.1 (Dc c5) ((0:Int),Dt Bool,Dt Int);let c9:=(aC n o).2;true/\(lO n o->1=1/\1=1/\1=1/\1=1/\0=0/\1=1/\1=1/\1=1/\1=1/\0=0/\0<=o/\o<Df c1.1/\0<=c5/\c5<Df n.1/\1=1/\0=0/\1=1/\0=0/\c7.1=(aC n o).1/\c7.2.1=c9.1/\c7.2.2=c9.2/\n.1=n.1/\n.2.1=n.2.1/\n.2.2.1=n.2.2.1/\c1.1=c1.1/\c1.2.1=c1.2.1/\c1.2.2=c1.2.2/\p.1=p.1/\p.2.1=p.2.1/\p.2.2.1=p.2.2.1/\p.2.2.2=p.2.2.2/\k=k/\xs=xs/\1=1/\Dj xs=Dj xs/\True)):
  evF (mkc KR2) aA 136 [.ptr 2 1 0 0,.dat I o] (mQ n p k xs) ⟨lO n o,cal (aC n o).1 (aC n o).2.1 (aC n o).2.2,[]⟩:=oE hvc
theorem Qk(o:Int)(n:Net)(p:Plan)(hvc:
 let c2:=(Du n.2.2.2.1 (Dc o) (ByteArray.mk #[],(0:Int),(0:Int),(0:Int),(0:Int),(0:Int),Dt ByteArray)).2.2.1;let c4:=Du n.1 (Dc c2) ((0:Int),Dt Bool,Dt Int);let c6:=(aC n o).2;true/\(lO n o->0<=o/\o<Df n.2.2.2.1/\0<=c2/\c2<Df n.1/\1=1/\0=0/\1=1/\0=0/\c4.1=(aC n o).1/\c4.2.1=c6.1/\c4.2.2=c6.2/\True)):
  evF (mkc KR2) aA 136 [.ips (wHd n p .top),.dat I o] [] ⟨lO n o,cal (aC n o).1 (aC n o).2.1 (aC n o).2.2,[]⟩:=oE hvc
theorem V6(o t:Int)(k:Nat)(xs:Li)(n:Net)(p:Plan)(hvc:
 let c1:=n.2.2.2;let c5:=(Du c1.1 (Dc o) (ByteArray.mk #[],(0:Int),(0:Int),(0:Int),(0:Int),(0:Int),Dt ByteArray)).2.2.2.2;let c6:=c5.1*c5.2.1;let c7:=t+c6;true/\(fB n o t->1=1/\1=1/\1=1/\1=1/\0=0/\0<=o/\o<Df c1.1/\1=1/\1=1/\1=1/\1=1/\0=0/\0<=o/\o<Df c1.1/\inR .i64 c6/\inR .i64 c7/\c7=ak n o t/\n.1=n.1/\n.2.1=n.2.1/\n.2.2.1=n.2.2.1/\c1.1=c1.1/\c1.2.1=c1.2.1/\c1.2.2=c1.2.2/\p.1=p.1/\p.2.1=p.2.1/\p.2.2.1=p.2.2.1/\p.2.2.2=p.2.2.2/\k=k/\xs=xs/\1=1/\Dj xs=Dj xs/\True)):
  evF (mkc KR2) aA 139 [.ptr 2 1 0 0,.dat I o,.dat I t] (mQ n p k xs) ⟨fB n o t,.dat I (ak n o t),[]⟩:=oE hvc
theorem KA(z m t:Int)(w:List Bool)(h:Li)(hvc:
 let c1:=(z,w,h);let c2:=Dp m (J9 z t);let c3:=fu z t+1;let c4:=fU w h c3;let c5:=Ea c4 0;let c6:=fM c1 m t;let c7:=jF c1 m t;let c8:=fV w h c3;let c9:=fU w h (fu z t);let c10:=Ea c9 0;let c11:=fV w h (fu z t);true/\(An c1 m t->gw z w h t/\(c2->inR .i64 c3/\P1 z w h c3/\(c5->0=c6/\c4=c7/\True)/\(c5=false->lN z w h c8 m/\jb z c8 m=c6/\0=c7/\True))/\(c2=false->P1 z w h (fu z t)/\(c10->0=c6/\c9=c7/\True)/\(c10=false->lN z w h c11 m/\jb z c11 m=c6/\0=c7/\True)))):
  evF (mkc KR2) aA 138 [cal z w h,.dat I m,.dat I t] [] ⟨An (z,w,h) m t,.tup [.dat I (fM (z,w,h) m t),.dat I (jF (z,w,h) m t)],[]⟩:=oE hvc
theorem Qd(v e:Int)(hvc:
 let c1:=Ea e 0;let c2:=chainOf (Value.iface (39) (Value.int IntKind.i64 e));true/\(True->(c1->(true->True/\(false=false->isZero e=false/\true/\c2=c2))/\True)/\(c1=false->isZero e/\v=v/\True))):
  evC (mkc KR2) aA 137 [.dat I v,.dat I e] (.dat I v) ⟨True,isZero e,uJ 39 e⟩:=oE hvc
theorem Qj(e:Int)(hvc:
 true/\(True->(true->e=e/\True)/\(true=false->1=e/\True))):
  evF (mkc KR2) aA 63 [.ifc 39 (.dat I e)] [] ⟨True,.dat I e,[]⟩:=oE hvc
theorem Il(i l:Int)(hvc:
 let c1:=Ed i 0;true/\(True->(c1->c1->c1)/\(c1->c1->c1)/\(Dk true c1->c1)/\Eb c1 (Dp i l) false=dO i l/\True)):
  evF (mkc KR2) aA 205 [.dat I i,.dat I l] [] ⟨True,.dat .bool (dO i l),[]⟩:=oE hvc
theorem V7(c o:Int)(k:Nat)(xs:Li)(n:Net)(p:Plan)(hvc:
 let c1:=n.2.2.2;true/\(True->1=1/\0=0/\0=0/\o=o/\c=c/\n.1=n.1/\n.2.1=n.2.1/\n.2.2.1=n.2.2.1/\c1.1=c1.1/\c1.2.1=c1.2.1/\c1.2.2=c1.2.2/\p.1=p.1/\p.2.1=p.2.1/\p.2.2.1=p.2.2.1/\p.2.2.2=p.2.2.2/\k=k/\xs=xs/\1=1/\Dj xs=Dj xs/\True)):
  evF (mkc KR2) aA 134 [.ptr 2 1 0 0,.dat I c,.dat I o] (mQ n p k xs) ⟨True,.fn 206 [.ipv (.ptr 2 1 0 0),.ip I o,.ip I c],[]⟩:=oE hvc
def KW3: Kt:=kOr 136 (aCn (wR [.mp 2,.val I] (λ(_,o,_) n _ _ _=>lO n o) λ(_,o,_) n _=>cal (aC n o).1 (aC n o).2.1 (aC n o).2.2) (wI [.val I] (λ(o,_) n _=>lO n o) λ(o,_) n _=>cal (aC n o).1 (aC n o).2.1 (aC n o).2.2)) <|
 kOr 139 (wR [.mp 2,.val I,.val I] (λ(_,o,t,_) n _ _ _=>fB n o t) λ(_,o,t,_) n _=>.dat I (ak n o t)) <|
 kOr 138 (ay [.row C,.val I,.val I] (λ(c,m,t,_)=>An c m t) λ(c,m,t,_)=>.tup [.dat I (fM c m t),.dat I (jF c m t)]) <|
 kOr 137 (ay [.val I,.val I] (λ(_,e,_)=>True/\isZero e=true) λ(v,_,_)=>.dat I v) <|
 kOr 205 (ay [.val I,.val I] (λ_=>True) λ(i,l,_)=>.dat .bool (dO i l)) <|
 kOr 134 (wR [.mp 2,.val I,.val I] (λ_ _ _ _ _=>True) λ(_,c,o,_) _ _=>.fn 206 [.ipv (.ptr 2 1 0 0),.ip I o,.ip I c]) KW2
def aEy: KPt:=pOr 137 (uS [.val I,.val I] λ(_,e,_)=>⟨True,isZero e,uJ 39 e⟩) Go.Eng.noP
theorem NU{P:Program}{G:List (Nat×AV)}{f:FuncId}{a b:List AV->Mem->Option jO}(ha:∀args m c,a args m=some c->af P G f args m c)(hb:∀args m c,b args m=some c->af P G f args m c): ∀args m c,aCn a b args m=some c->af P G f args m c:=by
 intro args m c h;unfold aCn at h;split at h
 .rename_i h1;cases h;exact ha _ _ _ h1
 .exact hb _ _ _ h
theorem bC{t:Ty}{a:AV}{x:t.den}(h:gK t a=some x): a=.dat t x:=by
 unfold gK at h;split at h
 .split at h
  .rename_i e;subst e;cases h;rfl
  .cases h
 .cases h
theorem Pg{l:List AV}{n:Net}{p:Plan}{a:AV}(h:aCu l=some (n,p,a)): l=wHd n p a:=by
 unfold aCu at h;split at h
 .split at h
  .rename_i h1 h2 h3 h4 h5 h6 h7 h8 h9 h10;cases h;rw[bC h1,bC h2,bC h3,bC h4,bC h5,bC h6,bC h7,bC h8,bC h9,bC h10];rfl
  .cases h
 .cases h
theorem O9{m:Mem}{n:Net}{p:Plan}{k:Nat}{xs:Li}(h:asW m=some (n,p,k,xs)): m=mQ n p k xs:=by
 unfold asW at h;split at h
 .split at h
  .rename_i h1 h2;split at h
   .rename_i e;cases h;rw[Pg h1,e];have:=bC h2;cases this;rfl
   .cases h
  .cases h
 .cases h
theorem VN{a:AV}{n:Net}{p:Plan}(h:asI a=some (n,p)): a=.ips (wHd n p .top):=by
 unfold asI at h;split at h
 .split at h
  .rename_i h1;cases h;rw[Pg h1]
  .cases h
 .cases h
theorem P7{P:Program}{G:List (Nat×AV)}{f:FuncId}{l:List AK}{pre:AKs l->Net->Plan->Nat->Li->Prop}{ret:AKs l->Net->Plan->AV}{add:AKs l->Net->Plan->Li}
  (h:∀x n p k xs,af P G f (avK l x) (mQ n p k xs) ⟨pre x n p k xs,ret x n p,mQ n p (Ec k (Dj (add x n p))) (Ef xs (add x n p))⟩):∀args m c,wK l pre ret add args m=some c->af P G f args m c:=by
 intro args m c hc;unfold wK at hc;split at hc
 .rename_i n p k xs x h1 h2;cases hc;rw[O9 h1];exact(h x n p k xs).args λC us _ hu=>eZ h2 hu
 .cases hc
theorem V4{P:Program}{G:List (Nat×AV)}{f:FuncId}{l:List AK}{pre:AKs l->Net->Plan->Nat->Li->Prop}{ret:AKs l->Net->Plan->AV}
  (h:∀x n p k xs,af P G f (avK l x) (mQ n p k xs) ⟨pre x n p k xs,ret x n p,[]⟩):∀args m c,wR l pre ret args m=some c->af P G f args m c:=by
 intro args m c hc;unfold wR at hc;split at hc
 .rename_i n p k xs x h1 h2;cases hc;rw[O9 h1];exact(h x n p k xs).args λC us _ hu=>eZ h2 hu
 .cases hc
theorem ZH{P:Program}{G:List (Nat×AV)}{f:FuncId}{l:List AK}{q:AKs l->Net->Plan->Nat->Li->xi}(h:∀x n p k xs,cX P G f (avK l x) (mQ n p k xs) (q x n p k xs)): ∀args m r,wP l q args m=some r->cX P G f args m r:=by
 intro args m r hc;unfold wP at hc;split at hc
 .rename_i n p k xs x h1 h2;cases hc;rw[O9 h1];exact λhp hk w D E us hD hG hu hH=>h x n p k xs hp hk w D E us hD hG (eZ h2 hu) hH
 .cases hc
theorem aCO{P:Program}{G:List (Nat×AV)}{f:FuncId}{l:List AK}{pre:AKs l->Net->Plan->Prop}{ret:AKs l->Net->Plan->AV}
  (h:∀x n p,af P G f (.ips (wHd n p .top)::avK l x) [] ⟨pre x n p,ret x n p,[]⟩):∀args m c,wI l pre ret args m=some c->af P G f args m c:=by
 intro args m c hc;unfold wI at hc;split at hc
 .split at hc
  .rename_i n p x h1 h2;cases hc;rw[VN h1];refine(h x n p).args λC us _ hu=>?_
   obtain⟨u,us',e,g1,g2⟩:=hu;exact⟨u,us',e,g1,eZ h2 g2⟩
  .cases hc
 .cases hc
theorem aDh(k:Nat)(xs ys:Li)(n:Net)(p:Plan): af Tryz.prog G0 66 [.ptr 2 1 0 0,.dat R ys] (mQ n p k xs) ⟨Zn xs k/\Ik xs ys,.tup [],mQ n p (Ec k (Dj ys)) (Ef xs ys)⟩:=by
 refine ae (c:=mkc KR2) uX aL hm (Z6 k xs ys n p ⟨rfl,λ⟨hk,hr⟩=>?_⟩)
 have hk:xs.length=k:=hk;have hr:xs.length+ys.length<=1000000000000:=hr;simp only[qc,Dj,Ef,qF];exact⟨by omega,hk,by omega,by omega,by omega⟩
theorem aET: al Tryz.prog G0 KW1:=aj (P7 λ(_,ys,_) n p k xs=>aDh k xs ys n p) uX
theorem Lm{l:Li}{b k:Int}(h:upTo l k): (upR l b k).length=k.toNat:=by
 unfold upR;rw[vY,qI];have:=h.1;have:=h.2;omega
theorem Rj{l:Li}{b k:Int}(h0:0<=k)(h1:k<l.length): upR l b (k+1)=upR l b k++[l.getD k.toNat 0+b]:=by
 unfold upR;rw[show(k+1).toNat=k.toNat+1 by omega,wZ,qA,qB (show k.toNat<l.length by omega),yS]
 rfl
theorem RA(b:Int)(k:Nat)(l xs:Li)(n:Net)(p:Plan): af Tryz.prog G0 67 [.ptr 2 1 0 0,.dat I b,.dat R l] (mQ n p k xs) ⟨rsP b l xs k,.tup [],mQ n p (Ec k (Dj (upR l b (Df l)))) (Ef xs (upR l b (Df l)))⟩:=by
 refine ae (c:=mkc KW1) aET aL hm (KF b k l xs n p ⟨rfl,λhp=>?_⟩)
 simp only[qc,qd,Dp,Df,Dc,Dj,Du,Ef,qF];obtain⟨⟨hk,hr⟩,b0,b1,hl⟩:=hp;have eN:upTo l l.length:=⟨vC _,qM _⟩;refine⟨by omega,⟨0,⟨qM _,vC _⟩,rfl,by show k=xs.length+0;omega,(wL _).symm⟩,λx hx=>⟨λhlt=>?_,λhge=>?_⟩⟩
 .have h0:=hx.1;have e1:=Lm (b:=b) hx;have e2:=Rj (b:=b) h0 hlt;have hv:=hl _ (getD_mem (l:=l) (i:=x.toNat) (d:=0) (by omega))
  refine⟨h0,hlt,aO (by omega),⟨by show(xs++upR l b x).length=_;rw[qF],by show(xs++upR l b x).length+_<=1000000000000;rw[qF,wE];omega⟩,by omega,aO (by omega),x+1,⟨by omega,by omega⟩,⟨rfl,by rw[e2,qF];rfl,by rw[e2,vU]⟩,by omega⟩
 .have hx1:=hx.2;have:x=l.length:=by omega
  rw[this,Lm eN];exact⟨by omega,rfl⟩
theorem aFD: al Tryz.prog G0 KW2:=aj (P7 λ(_,b,l,_) n p k xs=>RA b k l xs n p) aET
theorem aAb(o:Int)(k:Nat)(xs:Li)(n:Net)(p:Plan): af Tryz.prog G0 136 [.ptr 2 1 0 0,.dat I o] (mQ n p k xs) ⟨lO n o,cal (aC n o).1 (aC n o).2.1 (aC n o).2.2,[]⟩:=by
 refine ae (c:=mkc KR2) uX aL hm (V8 o k xs n p ⟨rfl,λhp=>?_⟩)
 obtain⟨cs,ns,os,fs,ls,ks⟩:=n;obtain⟨g1,g2,_⟩:=dZ cs ns os fs ls ks hp;simp only[qc,Dt,Df,Dc,Dj,Du];exact⟨hp.2.1,hp.2.2,g1,g2,rfl,rfl,rfl⟩
theorem W9(o:Int)(n:Net)(p:Plan): af Tryz.prog G0 136 [.ips (wHd n p .top),.dat I o] [] ⟨lO n o,cal (aC n o).1 (aC n o).2.1 (aC n o).2.2,[]⟩:=by
 refine ae (c:=mkc KR2) uX aL hm (Qk o n p ⟨rfl,λhp=>?_⟩)
 obtain⟨cs,ns,os,fs,ls,ks⟩:=n;obtain⟨g1,g2,_⟩:=dZ cs ns os fs ls ks hp;simp only[qc,Dt,Df,Dc,Du];exact⟨hp.2.1,hp.2.2,g1,g2,rfl,rfl,rfl⟩
theorem ny(cs:LC)(ns os:LB)(fs:Lo)(ls:Ll)(ks:Lk){o t:Int}(hp:fB (cs,ns,os,fs,ls,ks) o t): inR .i64 ((bO (cs,ns,os,fs,ls,ks) o).2.2.2.2.1*(bO (cs,ns,os,fs,ls,ks) o).2.2.2.2.2.1)/\inR .i64 (ak (cs,ns,os,fs,ls,ks) o t)/\t<=ak (cs,ns,os,fs,ls,ks) o t/\ak (cs,ns,os,fs,ls,ks) o t<=t+960:=by
 obtain⟨ho,b1,b2⟩:=hp;obtain⟨_,_,_,g1,g2,g3,g4⟩:=dZ cs ns os fs ls ks ho;unfold ak;generalize (bO (cs,ns,os,fs,ls,ks) o).2.2.2.2.1=x at *;generalize (bO (cs,ns,os,fs,ls,ks) o).2.2.2.2.2.1=y at *;have m1:0<=x*y:=qAh (by omega) (by omega)
 have m2:x*y<=4*240:=xW g2 g4 (by omega) (by omega)
 exact⟨aO (by omega),aO (by omega),by omega,by omega⟩
theorem xV(o t:Int)(k:Nat)(xs:Li)(n:Net)(p:Plan): af Tryz.prog G0 139 [.ptr 2 1 0 0,.dat I o,.dat I t] (mQ n p k xs) ⟨fB n o t,.dat I (ak n o t),[]⟩:=by
 refine ae (c:=mkc KR2) uX aL hm (V6 o t k xs n p ⟨rfl,λhp=>?_⟩)
 obtain⟨cs,ns,os,fs,ls,ks⟩:=n;obtain⟨r1,r2,_⟩:=ny cs ns os fs ls ks hp;simp only[qc,Dt,Df,Dc,Dj,Du];exact⟨hp.1.2.1,hp.1.2.2,hp.1.2.1,hp.1.2.2,r1,r2,rfl⟩
theorem Rx(m t:Int)(c:C.den): af Tryz.prog G0 138 [cal c.1 c.2.1 c.2.2,.dat I m,.dat I t] [] ⟨An c m t,.tup [.dat I (fM c m t),.dat I (jF c m t)],[]⟩:=by
 obtain⟨z,w,h⟩:=c;refine ae (c:=mkc KR2) uX aL hm (KA z m t w h ⟨rfl,λhp=>?_⟩)
 obtain⟨b1,b2⟩:=VG hp;obtain⟨hv,h1,h2,h3,h4⟩:=id hp;simp only[qc,qd,Ea,Dp];have key:∀d,d=d0F (z,w,h) m t->P1 z w h d/\(¬fU w h d=0->(0:Int)=fM (z,w,h) m t/\fU w h d=jF (z,w,h) m t)/\(fU w h d=0->lN z w h (fV w h d) m/\jb z (fV w h d) m=fM (z,w,h) m t/\(0:Int)=jF (z,w,h) m t):=by
  rintro d rfl;refine⟨⟨hv,jD (by omega) (by omega)⟩,λh0=>⟨(if_neg h0).symm,rfl⟩,λh0=>?_⟩
  obtain⟨q1,q2,q3⟩:=lP h0;exact⟨⟨hv,jD (by omega) (by omega),h1,h2⟩,(if_pos h0).symm,h0.symm⟩
 refine⟨⟨hv,by omega,by omega⟩,λhlt=>?_,λhge=>?_⟩
 .have e:fu z t+1=d0F (z,w,h) m t:=(if_pos hlt).symm;obtain⟨q1,q2,q3⟩:=key _ e;exact⟨by unfold inR;simp only;omega,q1,q2,q3⟩
 .have e:fu z t=d0F (z,w,h) m t:=(if_neg hge).symm;exact key _ e
theorem LH(v e:Int): af Tryz.prog G0 137 [.dat I v,.dat I e] [] ⟨True/\isZero e=true,.dat I v,[]⟩/\cX Tryz.prog G0 137 [.dat I v,.dat I e] [] ⟨True,isZero e,uJ 39 e⟩:=by
 refine dE (c:=mkc KR2) uX aL hm qo (Qd v e ⟨rfl,λ_=>⟨λh=>⟨λ_=>⟨trivial,λ_=>⟨?_,rfl,rfl⟩⟩,trivial⟩,λh=>⟨?_,rfl,trivial⟩⟩⟩)
 .unfold isZero;simpa[Ea]using h
 .unfold isZero;simpa[Ea]using h
theorem W8(e:Int): af Tryz.prog G0 63 [.ifc 39 (.dat I e)] [] ⟨True,.dat I e,[]⟩:=
 ae (c:=mkc KR2) uX aL hm (Qj e ⟨rfl,λ_=>⟨λ_=>⟨rfl,trivial⟩,λh=>by cases h⟩⟩)
theorem LJ(i l:Int): af Tryz.prog G0 205 [.dat I i,.dat I l] [] ⟨True,.dat .bool (dO i l),[]⟩:=by
 refine ae (c:=mkc KR2) uX aL hm (Il i l ⟨rfl,λ_=>⟨λh _=>h,λh _=>h,λh=>by simpa[Dk]using h,?_,trivial⟩⟩)
 unfold dO;simp only[Eb,Ed,Dp,kV];by_cases h:0<=i<;>simp[h]
theorem aAa(c o:Int)(k:Nat)(xs:Li)(n:Net)(p:Plan): af Tryz.prog G0 134 [.ptr 2 1 0 0,.dat I c,.dat I o] (mQ n p k xs) ⟨True,.fn 206 [.ipv (.ptr 2 1 0 0),.ip I o,.ip I c],[]⟩:=by
 refine ae (c:=mkc KR2) uX aL hm (V7 c o k xs n p ⟨rfl,λ_=>?_⟩)
 simp only[qc,Dj]
theorem Zx: al Tryz.prog G0 KW3:=aj (NU (V4 λ(_,o,_) n p k xs=>aAb o k xs n p) (aCO λ(o,_) n p=>W9 o n p)) <|
 aj (V4 λ(_,o,t,_) n p k xs=>xV o t k xs n p)<|aj (ag λ(c,m,t,_)=>Rx m t c)<|aj (ag λ(v,e,_)=>(LH v e).1) <|
 aj (ag λ(i,l,_)=>LJ i l)<|aj (V4 λ(_,c,o,_) n p k xs=>aAa c o k xs n p) aFD
theorem PE: bL Tryz.prog G0 aEy:=iC (i7 λ(v,e,_)=>(LH v e).2) qo
end Go.Eng.Sv
set_option maxRecDepth 100000
noncomputable section
namespace Go.Eng.Sv
open Go.Proofs
def nj(w:List Bool)(h:Li)(a b:Int): Int:=if b<=a+2000 then((dN w h (a+1) (b-a)).length:Int)else -1
def countP(z:Int)(w:List Bool)(h:Li)(a b:Int): Prop:=ax z w h=true/\bW a=true/\bW b=true
def Lr(k:Nat)(l:Li): Prop:=k<=l.length/\l.length<=100000
def uk(x:Int): Bool:=decide (-1<=x/\x<=65518)
def gC(_o x:Int): Bool:=uk x
def sgR(g:Int->Int->Bool)(m o:Int)(row:Li): Bool:=decide ((row.length:Int)=m)&&row.all (g o)
def sgF(g:Int->Int->Bool)(t:Lj)(m:Int): Bool:=decide ((t.length:Int)=m)&&(List.range t.length).all λi=>sgR g m i (t.getD i [])
def DI(g:Int->Int->Bool)(t:Lj)(m k:Int): Prop:=0<=k/\k<=t.length/\(t.length:Int)=m/\∀i:Nat,(i:Int)<k->sgR g m i (t.getD i [])=true
def mS(g:Int->Int->Bool)(row:Li)(m o k:Int): Prop:=0<=k/\k<=row.length/\(row.length:Int)=m/\∀i:Nat,(i:Int)<k->g o (row.getD i 0)=true
def fq(p:Plan): Prop:=cz p.2.2.1/\p.2.2.2.length<=1000000/\∀t∈p.2.2.2,cz t
def m5(p:Plan): Bool:=decide (0<=p.1/\p.1<p.2.1/\p.2.1<=600/\p.2.1-p.1<=60)
def pM(n:Net)(p:Plan): Bool:=decide ((p.2.2.2.length:Int)=n.2.2.2.2.2.length)&&p.2.2.2.all λt=>sgF gC t n.2.2.2.1.length
def fW(n:Net)(p:Plan): Bool:=m5 p&&(nN n p.2.2.1&&pM n p)
def qS(n:Net)(p:Plan)(k:Int): Prop:=0<=k/\k<=p.2.2.2.length/\m5 p=true/\nN n p.2.2.1=true/\(p.2.2.2.length:Int)=n.2.2.2.2.2.length/\∀i:Nat,(i:Int)<k->sgF gC (p.2.2.2.getD i []) n.2.2.2.1.length=true
def aBw(w:List Bool)(h:Li)(a b:Int): Ann:=⟨λid s=>match id with
 | 5=>some {α:=Nat,inv:=λk=>Lr k (dN w h (Dq a 1) (Dh b a)),st:=λk=>iM (flat s) 0 (.var [.dat I (Dx k)]),μ:=λk=>k}
 | _=>none,λ_ _=>none,λ_ _=>none⟩
theorem QW(z:Int)(w:List Bool)(h:Li)(a b:Int)(hvc:
 let c1:=Di (ax z w h);let c2:=Di c1;let c3:=Eb c1 true (Di (bW a));let c4:=Di c3;let c5:=Eb c3 true (Di (bW b));let c6:=Di c5;let c14:=c6->c6->c6;let c7:=a+2000;let c8:=Eb c5 true (Ei b c7);let c9:=nj w h a b;let c10:=a+1;let c11:=dN w h c10 (b-a);let c12:=(z,w,h);true/\(countP z w h a b->True/\(c2->c2->c2)/\(c2->True)/\(c2->c2->c2)/\(Dk true c2->c2)/\(c4->c4->c4)/\(c4->True)/\(c4->c4->c4)/\(Dk true c4->c4)/\c14/\(c6->inR .i64 c7)/\c14/\c14/\(Dk true c6->c6)/\(c8->(-1:Int)=c9/\True)/\(c8=false->1=1/\0=0/\inR .i64 c10/\inR .i64 (b-a)/\Dj w=7/\JD w h c10 (b-a)/\(∃x,Lr x c11/\x=0/\z=z/\w=w/\h=h/\a=a/\b=b/\c12=c12/\(0:Int)=(0:Int)/\1=1/\0=0/\0=0/\z=z/\w=w/\h=h/\ax z w h=ax z w h/\c1=c1/\c1=c1/\c3=c3/\c3=c3/\c5=c5/\c5=c5/\c8=c8/\z=z/\w=w/\h=h/\a=a/\c10=c10/\b=b/\a=a/\b-a=b-a/\c10=c10/\b-a=b-a/\w=w/\c12=c12/\0=Dx x/\True)/\(∀(x:Nat),let c13:=Dx x+1;∀(y:Int),Lr x c11->lX c11 x y->1=1/\0=0/\inR .i64 c13/\1=1/\0=0/\∃z_1,Lr z_1 c11/\z_1=x+(1)/\z=z/\w=w/\h=h/\a=a/\b=b/\c12=c12/\(0:Int)=(0:Int)/\1=1/\0=0/\0=0/\z=z/\w=w/\h=h/\ax z w h=ax z w h/\c1=c1/\c1=c1/\c3=c3/\c3=c3/\c5=c5/\c5=c5/\c8=c8/\z=z/\w=w/\h=h/\a=a/\c10=c10/\b=b/\a=a/\b-a=b-a/\c10=c10/\b-a=b-a/\w=w/\c12=c12/\c13=Dx z_1/\True)/\∀(x:Nat),Lr x c11->x=Dj c11->1=1/\0=0/\Dx x=c9/\True))):
  evF (aCm KR1) (aBw w h a b) 140 [cal z w h,.dat I a,.dat I b] [] ⟨countP z w h a b,.dat I (nj w h a b),[]⟩:=oE hvc
theorem WJ(o x:Int)(hvc:
 let c1:=Ed x (-1);true/\(True->(c1->c1->c1)/\(Dk true c1->c1)/\Eb c1 (Eh x 65518) false=gC o x/\True)):
  evF (mkc KW3) aA 133 [.dat I o,.dat I x] [] ⟨True,.dat .bool (gC o x),[]⟩:=oE hvc
theorem QL(n:Net)(hvc:
 true/\(True->n=n/\True)):
  evF (mkc KW3) aA 132 [.ip N n] [] ⟨True,.fn 204 [.ipv (.ip N n)],[]⟩:=oE hvc
theorem QM(o x:Int)(cs:LC)(ns os:LB)(fs:Lo)(ls:Ll)(ks:Lk)(hvc:
 let c1:=Dy x (-1);let c2:=Di c1;let c6:=c2->c2->c2;let c3:=Df ls;let c4:=dO x c3;let c5:=Dk c2 c4->Dk c2 c4->Dk c2 c4;true/\(True->c6/\c6/\c6/\c6/\c6/\c6/\(c2->True)/\c6/\c5/\c5/\c5/\c5/\c5/\(Dk c2 c4->0<=x)/\(Dk c2 c4->x<c3)/\c5/\c5/\c5/\c5/\c6/\(c2->Dk c2 c4->Dk c2 c4)/\(Dk true c2->c2)/\Eb c1 true (Eb c4 (Dy (Du ls (Dc x) (ByteArray.mk #[],(0:Int),(0:Int),(0:Int),(0:Int),(0:Int))).2.1 o) false)=aT (cs,ns,os,fs,ls,ks) o x/\True)):
  evF (mkc KW3) aA 204 [.dat I o,.dat I x,.ipv (.ip N (cs,ns,os,fs,ls,ks))] [] ⟨True,.dat .bool (aT (cs,ns,os,fs,ls,ks) o x),[]⟩:=oE hvc
def KW4: Kt:=kOr 133 (ay [.val I,.val I] (λ_=>True) λ(o,x,_)=>.dat .bool (gC o x)) <|
 kOr 132 (ay [.ptr N] (λ_=>True) λ(n,_)=>.fn 204 [.ipv (.ip N n)]) <|
 kOr 204 (ay [.val I,.val I,.bp N] (λ_=>True) λ(o,x,n,_)=>.dat .bool (aT n o x)) <|
 kOr 140 (ay [.row C,.val I,.val I] (λ(c,a,b,_)=>countP c.1 c.2.1 c.2.2 a b) λ(c,a,b,_)=>.dat I (nj c.2.1 c.2.2 a b)) KW3
def sgA(g:Int->Int->Bool)(t:Lj)(m:Int): Ann:=⟨λid s=>match id with
 | 4=>some {α:=Int,inv:=λk=>DI g t m k,st:=λk=>put s [(17,.dat I k)],μ:=λk=>Dc (Dh (Df t) k)}
 | 9=>match s.sig.T 17,s.sig.T 26 with
  | .dat (.int .i64) o,.dat (.sl (.int .i64)) row=>some {α:=Int,inv:=λk=>mS g row m o k,st:=λk=>put s [(28,.dat I k)],μ:=λk=>Dc (Dh (Df row) k)}
  | _,_=>none
 | _=>none,λ_ _=>none,λ_ _=>none⟩
theorem ZL(t:Lj)(m:Int)(n:Net)(hvc:
 let c1:=Ea (Df t) m;let c2:=sgF (aT n) t m;true/\(cz t->(c1->false=c2/\True)/\(c1=false->(∃x,DI (aT n) t m x/\m=m/\n=n/\t=t/\Df t=Df t/\0=x/\True)/\∀(x:Int),let c3:=Dp x (Df t);let c4:=Du t (Dc x) [];let c5:=Df c4;let c6:=Ea c5 m;let c7:=x+1;DI (aT n) t m x->(c3->0<=x/\x<Df t/\(c6->false=c2/\True)/\(c6=false->(∃x_4,mS (aT n) c4 m x x_4/\m=m/\n=n/\x=x/\c4=c4/\t=t/\Df t=Df t/\x=x/\c4=c4/\c5=c5/\0=x_4/\True)/\∀(x_4:Int),let c8:=Di (aT n x (Du c4 (Dc x_4) 0));let c9:=x_4+1;mS (aT n) c4 m x x_4->(Dp x_4 c5->0<=x_4/\x_4<c5/\True/\(c8->false=c2/\True)/\(c8=false->inR .i64 c9/\∃y,mS (aT n) c4 m x y/\(m=m/\n=n/\x=x/\c4=c4/\t=t/\Df t=Df t/\x=x/\c4=c4/\c5=c5/\c9=y/\True)/\Dc (c5-y)<Dc (c5-x_4)))/\(Dp x_4 c5=false->inR .i64 c7/\∃y,DI (aT n) t m y/\(m=m/\n=n/\t=t/\Df t=Df t/\c7=y/\True)/\Dc (Df t-y)<Dc (Df t-x))))/\(c3=false->true=c2/\True)))):
  evF (mkc KW4) (lvA [(4,[1,2,6,7,8,10,15,16,17,26,27,28]),(9,[1,2,6,7,8,10,15,16,17,26,27,28])] (sgA (aT n) t m)) 131 [.dat M t,.dat I m,.fn 204 [.ipv (.ip N n)]] [] ⟨cz t,.dat .bool (sgF (aT n) t m),[]⟩:=oE hvc
theorem ZM(t:Lj)(m:Int)(hvc:
 let c1:=Ea (Df t) m;true/\(cz t->(c1->false=sgF gC t m/\True)/\(c1=false->(∃x,DI gC t m x/\m=m/\t=t/\Df t=Df t/\0=x/\True)/\∀(x:Int),let c2:=Dp x (Df t);let c3:=Du t (Dc x) [];let c4:=Df c3;let c5:=Ea c4 m;let c6:=x+1;DI gC t m x->(c2->0<=x/\x<Df t/\(c5->false=sgF gC t m/\True)/\(c5=false->(∃x_4,mS gC c3 m x x_4/\m=m/\x=x/\c3=c3/\t=t/\Df t=Df t/\x=x/\c3=c3/\c4=c4/\0=x_4/\True)/\∀(x_4:Int),let c7:=Di (gC x (Du c3 (Dc x_4) 0));let c8:=x_4+1;mS gC c3 m x x_4->(Dp x_4 c4->0<=x_4/\x_4<c4/\True/\(c7->false=sgF gC t m/\True)/\(c7=false->inR .i64 c8/\∃y,mS gC c3 m x y/\(m=m/\x=x/\c3=c3/\t=t/\Df t=Df t/\x=x/\c3=c3/\c4=c4/\c8=y/\True)/\Dc (c4-y)<Dc (c4-x_4)))/\(Dp x_4 c4=false->inR .i64 c6/\∃y,DI gC t m y/\(m=m/\t=t/\Df t=Df t/\c6=y/\True)/\Dc (Df t-y)<Dc (Df t-x))))/\(c2=false->true=sgF gC t m/\True)))):
  evF (mkc KW4) (lvA [(4,[1,2,6,7,8,10,15,16,17,26,27,28]),(9,[1,2,6,7,8,10,15,16,17,26,27,28])] (sgA gC t m)) 131 [.dat M t,.dat I m,.fn 133 []] [] ⟨cz t,.dat .bool (sgF gC t m),[]⟩:=oE hvc
def KW5: Kt:=kOr 131 (aCn (ay [.val M,.val I,.fnb 204 N] (λ(t,_,_,_)=>cz t) λ(t,m,n,_)=>.dat .bool (sgF (aT n) t m)) (ay [.val M,.val I,.fn0 133] (λ(t,_,_)=>cz t) λ(t,m,_)=>.dat .bool (sgF gC t m))) KW4
def aD4(n:Net)(p:Plan): Ann:=⟨λid s=>match id with
 | 7=>some {α:=Int,inv:=λk=>qS n p k,st:=λk=>put s [(74,.dat I k)],μ:=λk=>Dc (Dh (Df p.2.2.2) k)}
 | _=>none,λ_ _=>none,λ_ _=>none⟩
theorem Qf(n:Net)(p:Plan)(hvc:
 let c1:=p.2.2.2;let c2:=Dp p.1 0;let c3:=Di c2;let c12:=c3->c3->c3;let c6:=Eb c2 true (Eh p.2.1 p.1);let c7:=Di c6;let c13:=c7->c7->c7;let c8:=Eb c6 true (Ei p.2.1 600);let c9:=Di c8;let c5:=c9->c9->c9;let c10:=p.2.1-p.1;let c11:=Eb c8 true (Ei c10 60);let c14:=Df c1;let c16:=Ea c14 (Df n.2.2.2.2.2);let c17:=Di c16;let c4:=c17->c17->c17;let c19:=Df n.2.2.2.1;let c20:=Eb c16 true (Di (sgF (aT n) p.2.2.1 c19));true/\(fq p->c12/\c12/\c12/\c12/\c12/\c12/\c12/\c12/\(Dk true c3->c3)/\c13/\c13/\c13/\c13/\(Dk true c7->c7)/\c5/\c5/\c5/\c5/\c5/\c5/\c5/\c5/\(c9->inR .i64 c10)/\c5/\(Dk true c9->c9)/\(c11->false=fW n p/\True)/\(c11=false->c4/\c4/\c4/\c4/\c4/\c4/\c4/\c4/\(c17->True)/\c4/\c4/\c4/\(c17->cz p.2.2.1)/\c4/\(Dk true c17->c17)/\(c20->false=fW n p/\True)/\(c20=false->(∃x,qS n p x/\n=n/\c1=c1/\c14=c14/\0=x/\True)/\∀(x:Int),let c21:=Du c1 (Dc x) (Dt (Li));let c22:=Di (sgF gC c21 c19);let c23:=x+1;qS n p x->(Dp x c14->0<=x/\x<c14/\cz c21/\(c22->false=fW n p/\True)/\(c22=false->inR .i64 c23/\∃y,qS n p y/\(n=n/\c1=c1/\c14=c14/\c23=y/\True)/\Dc (c14-y)<Dc (c14-x)))/\(Dp x c14=false->true=fW n p/\True))))):
  evF (mkc KW5) (lvA [(7,[0,4,5,7,72,73,74])] (aD4 n p)) 65 [.ip N n,.ip Pl p] [] ⟨fq p,.dat .bool (fW n p),[]⟩:=oE hvc
theorem MJ(z:Int)(w:List Bool)(h:Li)(a b:Int): af Tryz.prog G0 140 [cal z w h,.dat I a,.dat I b] [] ⟨countP z w h a b,.dat I (nj w h a b),[]⟩:=by
 refine ae (c:=aCm KR1) aEl aB3 hm (QW z w h a b ⟨rfl,λ⟨hv,ha,hb⟩=>?_⟩)
 have hc:=zP hv;have ha':=okd ha;have hb':=okd hb;have hl:(dN w h (a+1) (b-a)).length<=(b-a).toNat:=by
  unfold dN;exact wH (xJ _ _) (by simp)
 simp only[hv,ha,hb,qc,Dk,Di,qd,Ei,Dx,Dj,yC,yF,qAs]
 refine⟨⟨by omega,by omega⟩,λhgt=>(if_neg (by omega)).symm,λhab=>⟨⟨by omega,by omega⟩,⟨by omega,by omega⟩,hc.1,⟨hc,by omega,by omega,by omega,by omega⟩,⟨0,⟨by omega,by omega⟩,rfl,rfl⟩,λk y hk hy=>?_,λk hk hlen=>?_⟩⟩
 .have hy:(dN w h (a+1) (b-a))[k]?=some y:=hy;have:=(qG.1 hy).1;obtain⟨k1,k2⟩:=hk;refine⟨⟨by omega,by omega⟩,k+1,⟨by omega,k2⟩,rfl,by omega⟩
 .rw[hlen];exact(if_pos (by omega)).symm
theorem aAr(o x:Int): af Tryz.prog G0 133 [.dat I o,.dat I x] [] ⟨True,.dat .bool (gC o x),[]⟩:=by
 refine ae (c:=mkc KW3) Zx aL hm (WJ o x ⟨rfl,λ_=>⟨λh _=>h,λh=>by simpa[Dk]using h,?_,trivial⟩⟩)
 unfold gC uk;simp only[Eb,Ed,Eh,kV];by_cases h:-1<=x<;>simp[h]
theorem Xt(n:Net): af Tryz.prog G0 132 [.ip N n] [] ⟨True,.fn 204 [.ipv (.ip N n)],[]⟩:=
 ae (c:=mkc KW3) Zx aL hm (QL n ⟨rfl,λ_=>⟨rfl,trivial⟩⟩)
theorem Xu(o x:Int)(cs:LC)(ns os:LB)(fs:Lo)(ls:Ll)(ks:Lk): af Tryz.prog G0 204 [.dat I o,.dat I x,.ipv (.ip N (cs,ns,os,fs,ls,ks))] [] ⟨True,.dat .bool (aT (cs,ns,os,fs,ls,ks) o x),[]⟩:=by
 refine ae (c:=mkc KW3) Zx aL hm (QM o x cs ns os fs ls ks ⟨rfl,λ_=>?_⟩)
 have e:Eb (Dy x (-1)) true (Eb (dO x (Df ls)) (Dy (Du ls (Dc x) (ByteArray.mk (Dt UInt8).toArray,(0:Int),(0:Int),(0:Int),(0:Int),(0:Int))).snd.fst o) false)=aT (cs,ns,os,fs,ls,ks) o x:=by
  unfold aT;rw[ri,jf]
  congr 1
 rw[e];simp only[qc,Dk,Di,qd,Dy,Df];unfold dO;simp only[qE];exact⟨λh=>h.2.1,λh=>h.2.2⟩
theorem aCA: al Tryz.prog G0 KW4:=aj (ag λ(o,x,_)=>aAr o x)<|aj (ag λ(n,_)=>Xt n)<|aj (ag λ(o,x,(cs,ns,os,fs,ls,ks),_)=>Xu o x cs ns os fs ls ks) <|
 aj (ag λ((z,w,h),a,b,_)=>MJ z w h a b) Zx
theorem A3{g:Int->Int->Bool}{t:Lj}{m:Int}(hl:(t.length:Int)=m): sgF g t m=true↔∀i:Nat,(i:Int)<t.length->sgR g m i (t.getD i [])=true:=by
 unfold sgF;simp only[qC,qE,qL,qU];exact⟨λh i hi=>h.2 i (by omega),λh=>⟨hl,λi hi=>h i (by omega)⟩⟩
theorem D9{g:Int->Int->Bool}{m o:Int}{row:Li}(hl:(row.length:Int)=m): sgR g m o row=true↔∀i:Nat,(i:Int)<row.length->g o (row.getD i 0)=true:=by
 unfold sgR;simp only[qC,qE,qL];refine⟨λh i hi=>h.2 _ ?_,λh=>⟨hl,λx hx=>?_⟩⟩
 .rw[qA,qB (by omega),qR];exact wO _
 .obtain⟨i,hi,rfl⟩:=wX.1 hx;have:=h i (by omega)
  rw[qA,qB hi,qR]at this;exact this
theorem xF(g:Int->Int->Bool){t:Lj}{m:Int}(hf:cz t): ((t.length:Int)≠m->false=sgF g t m)/\((t.length:Int)=m->DI g t m 0/\∀x:Int,DI g t m x->
  (x<t.length->0<=x/\x<t.length/\(((t.getD x.toNat []).length:Int)≠m->false=sgF g t m)/\(((t.getD x.toNat []).length:Int)=m->mS g (t.getD x.toNat []) m x 0/\∀y:Int,mS g (t.getD x.toNat []) m x y->
   (y<(t.getD x.toNat []).length->0<=y/\y<(t.getD x.toNat []).length/\(g x ((t.getD x.toNat []).getD y.toNat 0)=false->false=sgF g t m)/\
    (g x ((t.getD x.toNat []).getD y.toNat 0)=true->inR .i64 (y+1)/\∃z,mS g (t.getD x.toNat []) m x z/\y+1=z/\(((t.getD x.toNat []).length:Int)-z).toNat<(((t.getD x.toNat []).length:Int)-y).toNat))/\
   (¬y<(t.getD x.toNat []).length->inR .i64 (x+1)/\∃z,DI g t m z/\x+1=z/\((t.length:Int)-z).toNat<((t.length:Int)-x).toNat)))/\(¬x<t.length->true=sgF g t m)):=by
 have hct:∀x:Int,0<=x->((x.toNat:Nat):Int)=x:=λx h=>by omega
 refine⟨λh=>?_,λhe=>⟨⟨qM _,by omega,he,λi h=>by omega⟩,λx ⟨x0,x1,_,x3⟩=>⟨λhx=>?_,λhx=>?_⟩⟩⟩
 .unfold sgF;rw[vK h];rfl
 .have hr:=hf.2 _ (getD_mem (l:=t) (i:=x.toNat) (d:=[]) (by omega))
  have hfl:=hf.1;refine⟨x0,hx,λh=>?_,λhm=>⟨⟨qM _,by omega,hm,λi h=>by omega⟩,λy ⟨y0,y1,_,y3⟩=>⟨λhy=>⟨y0,hy,λh=>?_,λh=>?_⟩,λhy=>?_⟩⟩⟩
  .refine(kU.2 λht=>h ?_).symm
   have h2:=(A3 he).1 ht x.toNat (by omega)
   unfold sgR at h2;simp only[qC,qE]at h2;exact h2.1
  .refine(kU.2 λht=>?_).symm
   have h2:=(D9 hm).1 ((A3 he).1 ht x.toNat (by omega)) y.toNat (by omega)
   rw[hct x x0,h]at h2;cases h2
  .refine⟨aO (by omega),y+1,⟨by omega,by omega,hm,λi hi=>?_⟩,rfl,by omega⟩
   by_cases h3:(i:Int)<y
   .exact y3 i h3
   .have:i=y.toNat:=by omega
    subst this;exact h
  .refine⟨aO (by omega),x+1,⟨by omega,by omega,he,λi hi=>?_⟩,rfl,by omega⟩
   by_cases h3:(i:Int)<x
   .exact x3 i h3
   .have:i=x.toNat:=by omega
    subst this;exact(D9 hm).2 λj hj=>by rw[hct x x0];exact y3 j (by omega)
 .exact((A3 he).2 λi hi=>x3 i (by omega)).symm
theorem aC0(t:Lj)(m:Int): af Tryz.prog G0 131 [.dat M t,.dat I m,.fn 133 []] [] ⟨cz t,.dat .bool (sgF gC t m),[]⟩:=by
 refine ae (c:=mkc KW4) aCA aL hm (ZM t m ⟨rfl,λhf=>?_⟩)
 simp only[qc,Di,qd,Ea,Dp,Df,Dc,Du];exact xF gC hf
theorem aCZ(t:Lj)(m:Int)(n:Net): af Tryz.prog G0 131 [.dat M t,.dat I m,.fn 204 [.ipv (.ip N n)]] [] ⟨cz t,.dat .bool (sgF (aT n) t m),[]⟩:=by
 refine ae (c:=mkc KW4) aCA aL hm (ZL t m n ⟨rfl,λhf=>?_⟩)
 simp only[qc,Di,qd,Ea,Dp,Df,Dc,Du];exact xF (aT n) hf
theorem aES: al Tryz.prog G0 KW5:=aj (NU (ag λ(t,m,n,_)=>aCZ t m n) (ag λ(t,m,_)=>aC0 t m)) aCA
theorem W5(n:Net)(p:Plan): af Tryz.prog G0 65 [.ip N n,.ip Pl p] [] ⟨fq p,.dat .bool (fW n p),[]⟩:=by
 refine ae (c:=mkc KW5) aES aL hm (Qf n p ⟨rfl,λ⟨a3,a4,a5⟩=>?_⟩)
 simp only[qc,Dk,Di,qd,Dt,Ea,Dp,Ei,Eh,Df,Dc,Du];have eT:sgF (aT n) p.2.2.1 n.2.2.2.1.length=nN n p.2.2.1:=rfl;rw[eT];have e1:∀i:Nat,(i:Int)<p.2.2.2.length->p.2.2.2.getD i []∈p.2.2.2:=λi hi=>getD_mem (by omega)
 have eD:(p.2.2.2.length:Int)=n.2.2.2.2.2.length->(pM n p=true↔∀i:Nat,(i:Int)<p.2.2.2.length->sgF gC (p.2.2.2.getD i []) n.2.2.2.1.length=true):=λhl=>by
  unfold pM;simp only[qC,qE,qL];refine⟨λh i hi=>h.2 _ (e1 i hi),λh=>⟨hl,λx hx=>?_⟩⟩
  obtain⟨i,hi,rfl⟩:=wX.1 hx;have:=h i (by omega)
  rw[qA,qB hi,qR]at this;exact this
 refine⟨λh=>aO (by omega),λh=>?_,λh=>⟨λ_=>a3,λh2=>?_,λ⟨h2,h3⟩=>?_⟩⟩
 .unfold fW m5;rw[vK (by omega)];rfl
 .unfold fW pM;rcases h2 with h2 | h2
  .rw[vK h2];simp
  .rw[h2];simp
 .have hR:m5 p=true:=by unfold m5;exact qW (by omega)
  refine⟨⟨qM _,by omega,hR,h3,h2,λi hi=>by omega⟩,λx ⟨x0,x1,_,_,_,x5⟩=>⟨λhx=>⟨x0,hx,a5 _ (getD_mem (by omega)),λh4=>?_,λh4=>?_⟩,λhx=>?_⟩⟩
  .refine(kU.2 λht=>?_).symm
   unfold fW at ht;simp only[qC]at ht;have:=(eD h2).1 ht.2.2 x.toNat (by omega)
   rw[h4]at this;cases this
  .refine⟨aO (by omega),x+1,⟨by omega,by omega,hR,h3,h2,λi hi=>?_⟩,rfl,by omega⟩
   by_cases h5:(i:Int)<x
   .exact x5 i h5
   .have:i=x.toNat:=by omega
    subst this;exact h4
  .unfold fW;rw[hR,h3,(eD h2).2 λi hi=>x5 i (by omega)];rfl
end Go.Eng.Sv
set_option maxRecDepth 100000
noncomputable section
namespace Go.Eng.Sv
open Go.Proofs
def aDX(n:Net)(f:Int)(s:Stop): Int:=fu (aC n s.1).1 s.2.2.1+(2-f)
def iO(n:Net)(f:Int)(l:List Stop): Li:=l.map (aDX n f)
def uZ(n:Net)(p:Plan)(o d t:Int): Li:=iO n p.1 (uK n p.2.2.1 o d t).dropLast
def k9(n:Net)(p:Plan)(o d t:Int): Int:=((uK n p.2.2.1 o d t).getLastD (0,0,0,0)).2.1
def xj(n:Net)(p:Plan)(o d t:Int)(k:Nat)(xs:Li): Prop:=Aj n p.2.2.1 o d t/\(0<=p.1/\p.1<=600)/\xs.length=k/\xs.length<=950000000000
def aCI(n:Net)(p:Plan)(o0 d t0:Int)(xs:Li): Ann:=⟨λid s=>match id with
 | 2=>some {α:=List Stop×Int×Int,inv:=λx=>U1 n p.2.2.1 o0 d t0 x,st:=λx=>{put (flat s) [(1,.dat I x.2.1),(3,.dat I x.2.2),(9,.dat I (Dq (Df x.1) 1))]with mem:=mQ n p (Ec (Dj xs) (Dj (iO n p.1 x.1))) (Ef xs (iO n p.1 x.1))},μ:=λx=>Dc (Dh 20 (Df x.1))}
 | _=>none,λ_ _=>none,λ_ _=>none⟩
def cWw: Cfg:=mkp KW3 (λ_=>false) aEy (λf=>f==137)
theorem V5(o d t:Int)(k:Nat)(xs:Li)(n:Net)(p:Plan)(hvc:
 let c1:=uZ n p o d t;let c2:=Ef xs c1;let c3:=p.2;let c4:=c3.2;let c5:=c4.1;let c6:=n.1;let c7:=n.2;let c8:=c7.1;let c9:=c7.2;let c10:=c9.1;let c11:=c9.2;let c12:=c11.1;let c13:=c11.2;let c14:=c13.1;let c15:=c13.2;let c16:=p.1;let c17:=c3.1;let c18:=c4.2;let c19:=jh n c5 o d t;let c20:=isZero c19;let c21:=chainOf (Value.iface (39) (Value.int IntKind.i64 c19));let c22:=(c6,c8,c10,c12,c14,c15);let c23:=(ByteArray.mk #[],(0:Int),(0:Int),(0:Int),(0:Int),(0:Int));let c24:=2-c16;true/\(xj n p o d t k xs->1=1/\Dj xs<=Dj c2/\(∃(x:List Stop×Int×Int),let c25:=x.2;let c26:=x.1;let c27:=iO n c16 c26;U1 n c5 o d t x/\1=1/\0=0/\0=0/\o=c25.1/\d=d/\t=c25.2/\(0:Int)=(0:Int)/\1=Df c26+1/\c6=c6/\c8=c8/\c10=c10/\c12=c12/\c14=c14/\c15=c15/\c16=c16/\c17=c17/\c5=c5/\c18=c18/\k=Dj xs+Dj c27/\xs=Ef xs c27/\1=1/\Dj xs=Dj xs/\True)/\∀(x:List (Int×Int×Int×Int)×Int×Int),let c28:=x.2;let c29:=c28.1;let c30:=Ea c29 d;let c31:=Du c5 (Dc c29) [];let c32:=Du c31 (Dc d) 0;let c33:=Dy c32 (-1);let c34:=c28.2;let c35:=ak c22 c29 c34;let c36:=Ei c35 2000000;let c37:=aC c22 c29;let c38:=c37.1;let c39:=c37.2;let c40:=c39.1;let c41:=c39.2;let c42:=(c38,c40,c41);let c43:=(Du c14 (Dc c32) c23).2.2;let c44:=c43.2;let c45:=c44.1;let c46:=jF c42 c45 c35;let c47:=isZero c46;let c48:=x.1;let c49:=Df c48;let c50:=c49+1;let c51:=Dy c50 20;let c52:=fM c42 c45 c35;let c53:=[fu c38 c52];let c54:=iO n c16 c48;let c55:=Ef xs c54;let c56:=Dj xs+Dj c54;let c57:=upR c53 c24 (Df c53);let c58:=Ef c55 c57;let c59:=c52+c44.2.1;let c60:=c50+1;
 U1 n c5 o d t x->(c30->1=1/\1=1/\1=1/\1=1/\0=0/\0<=c29/\c29<Df c5/\0<=d/\d<Df c31/\(c33->(true->True/\(false=false->c20=false/\true/\chainOf (Value.iface (39) (Value.int IntKind.i64 (170:Int)))=c21))/\True)/\(c33=false->fB c22 c29 c34/\(c36->(true->True/\(false=false->c20=false/\true/\chainOf (Value.iface (39) (Value.int IntKind.i64 (1:Int)))=c21))/\True)/\(c36=false->1=1/\1=1/\1=1/\1=1/\0=0/\0<=c32/\c32<Df c14/\1=1/\0=0/\lO c22 c29/\1=1/\0=0/\1=1/\0=0/\1=1/\1=1/\0=0/\An c42 c45 c35/\(true->True/\(c47=false->c20=false/\true/\chainOf (Value.iface (39) (Value.int IntKind.i64 c46))=c21))/\((true->c47)->(True/\c47)/\(c51->(true->True/\(false=false->c20=false/\true/\chainOf (Value.iface (39) (Value.int IntKind.i64 (170:Int)))=c21))/\True)/\(c51=false->1=1/\0=0/\gw c38 c40 c41 c52/\1=1/\1=1/\1=1/\1=1/\0=0/\inR .i64 c24/\rsP c24 c53 c55 c56/\1=1/\Dj c55<=Dj c58/\1=1/\1=1/\0=0/\1=1/\1=1/\0=0/\inR .i64 c59/\inR .i64 c60/\∃(y:List Stop×Int×Int),let c61:=y.2;let c62:=y.1;let c63:=Df c62;let c64:=iO n c16 c62;U1 n c5 o d t y/\(1=1/\0=0/\0=0/\c43.1=c61.1/\d=d/\c59=c61.2/\(0:Int)=(0:Int)/\c60=c63+1/\c6=c6/\c8=c8/\c10=c10/\c12=c12/\c14=c14/\c15=c15/\c16=c16/\c17=c17/\c5=c5/\c18=c18/\c56+Dj c57=Dj xs+Dj c64/\c58=Ef xs c64/\1=1/\Dj xs=Dj xs/\True)/\Dc (20-c63)<Dc (20-c49))))))/\(c30=false->c20/\c34=k9 n p o d t/\c6=c6/\c8=c8/\c10=c10/\c12=c12/\c14=c14/\c15=c15/\c16=c16/\c17=c17/\c5=c5/\c18=c18/\c56=k+Dj c1/\c55=c2/\1=1/\Dj xs=Dj xs/\True))):
  evM cWw (aCI n p o d t xs) 135 [.ptr 2 1 0 0,.dat I o,.dat I d,.dat I t] (mQ n p k xs) (.dat I (k9 n p o d t)) (mQ n p (Ec k (Dj (uZ n p o d t))) (Ef xs (uZ n p o d t))) ⟨xj n p o d t k xs,isZero (jh n p.2.2.1 o d t),uJ 39 (jh n p.2.2.1 o d t)⟩:=oE hvc
theorem U6(o d t:Int)(k:Nat)(xs:Li)(n:Net)(p:Plan): af Tryz.prog G0 135 [.ptr 2 1 0 0,.dat I o,.dat I d,.dat I t] (mQ n p k xs) ⟨xj n p o d t k xs/\isZero (jh n p.2.2.1 o d t)=true,.dat I (k9 n p o d t),mQ n p (Ec k (Dj (uZ n p o d t))) (Ef xs (uZ n p o d t))⟩/\
  cX Tryz.prog G0 135 [.ptr 2 1 0 0,.dat I o,.dat I d,.dat I t] (mQ n p k xs) ⟨xj n p o d t k xs,isZero (jh n p.2.2.1 o d t),uJ 39 (jh n p.2.2.1 o d t)⟩:=by
 refine cn (c:=cWw) Zx aL hm PE (V5 o d t k xs n p ⟨rfl,λhp=>?_⟩)
 obtain⟨hp,hp1,hk,hxl⟩:=hp;have eN:(n.1,n.2.1,n.2.2.1,n.2.2.2.1,n.2.2.2.2.1,n.2.2.2.2.2)=n:=rfl;have eC:∀c:Int×List Bool×Li,(c.1,c.2.1,c.2.2)=c:=λ_=>rfl
 have eX:∀l:Int,n.2.2.2.2.1.getD l.toNat (⟨#[]⟩,0,0,0,0,0)=pD n l:=λ_=>rfl
 have eM:∀u:Int,(p.2.2.1.getD u.toNat []).getD d.toNat 0=nxt p.2.2.1 u d:=λ_=>rfl
 have eU:∀x b:Int,upR [x] b (([x]:Li).length:Int)=[x+b]:=λ_ _=>rfl
 simp only[qc,qd,Dy,Ea,Ei,Df,Dc,Dj,Du,Ef,eN,eC,eX,eM,eU];refine⟨by rw[qF];omega,⟨([],o,t),⟨hp,by simp,(Hg 19 o t).symm⟩,rfl,rfl,rfl,by rw[hk];rfl,(wL _).symm⟩,?_⟩
 rintro⟨l,u,v⟩ hx;simp only;generalize hln:nxt p.2.2.1 u d=ln at *;obtain⟨⟨hs,ht,u0,u1,o0,o1,v0,v1⟩,hd,hw⟩:=hx;simp only at u0 u1 o0 o1 v0 v1 hd hw;have hno:noF n=true:=bm n.1 n.2.1 n.2.2.1 n.2.2.2.1 n.2.2.2.2.1 n.2.2.2.2.2 hs
 obtain⟨c1,c2,c3⟩:(p.2.2.1.length:Int)=n.2.2.2.1.length/\((p.2.2.1.getD u.toNat []).length:Int)=n.2.2.2.1.length/\(nxt p.2.2.1 u d≠-1->(0<=nxt p.2.2.1 u d/\nxt p.2.2.1 u d<n.2.2.2.2.1.length)/\b9 n (nxt p.2.2.1 u d)=u):=gW n.1 n.2.1 n.2.2.1 n.2.2.2.1 n.2.2.2.2.1 n.2.2.2.2.2 ht u0 u1 o0 o1;rw[hln]at c3;have hoff:lO n u:=⟨hno,u0,u1⟩;have hr:fB n u v:=⟨hoff,by omega,by omega⟩
 obtain⟨_,_,r1,r2⟩:inR .i64 ((bO n u).2.2.2.2.1*(bO n u).2.2.2.2.2.1)/\inR .i64 (ak n u v)/\v<=ak n u v/\ak n u v<=v+960:=ny n.1 n.2.1 n.2.2.1 n.2.2.2.1 n.2.2.2.2.1 n.2.2.2.2.2 hr;have hE:jh n p.2.2.1 o d t=(Ak l (ig n p.2.2.1 d (19-l.length) u v)).2:=by unfold jh;rw[hw]
 have hL:uK n p.2.2.1 o d t=(Ak l (ig n p.2.2.1 d (19-l.length) u v)).1:=by unfold uK;rw[hw]
 have herr:∀e:Int,e≠0->ig n p.2.2.1 d (19-l.length) u v=([],e)->jh n p.2.2.1 o d t=e:=λe he h=>by rw[hE,h];unfold Ak;rw[if_neg he]
 refine⟨λhne=>⟨u0,by rw[c1];exact u1,o0,by rw[c2];exact o1,λhm=>?_,λhm=>⟨hr,λhgt=>?_,λhle=>?_⟩⟩,λhe=>?_⟩
 .rw[herr 170 (by decide) (ji _ hne (hln.trans hm))]
  exact⟨rfl,rfl⟩
 .have e1:ni n ln (ak n u v)=1:=if_neg (by unfold cH;rw[qE];omega)
  rw[herr 1 (by decide) ((lz _ hne (by rw[hln];exact hm) (by rw[hln,e1];decide)).trans (by rw[hln,e1]))]
  exact⟨rfl,rfl⟩
 .obtain⟨⟨l0,l1⟩,lf⟩:=c3 hm;have hlin:Jl n ln:=⟨hno,l0,l1⟩;obtain⟨g1,g2,g3,g4,g5,g6,g7,g8⟩:0<=b9 n ln/\b9 n ln<n.2.2.2.1.length/\0<=pC n ln/\pC n ln<n.2.2.2.1.length/\0<=BM n ln/\BM n ln<=1439/\1<=cM n ln/\cM n ln<=5000:=tK n.1 n.2.1 n.2.2.1 n.2.2.2.1 n.2.2.2.2.1 n.2.2.2.2.2 hlin;have htm:cH (ak n u v)=true:=by unfold cH;rw[qE];omega
  have eE:ni n ln (ak n u v)=jF (aC n u) (pD n ln).2.2.2.1 (ak n u v):=by unfold ni;rw[if_pos htm,lf];rfl
  have eD:iN n ln (ak n u v)=fM (aC n u) (pD n ln).2.2.2.1 (ak n u v):=by unfold iN;rw[if_pos htm,lf];rfl
  have hv:ax (aC n u).1 (aC n u).2.1 (aC n u).2.2=true:=(dZ n.1 n.2.1 n.2.2.1 n.2.2.2.1 n.2.2.2.2.1 n.2.2.2.2.2 hoff).2.2.1;have g5':0<=(pD n ln).2.2.2.1:=g5;have g6':(pD n ln).2.2.2.1<=1439:=g6;have g7':1<=(pD n ln).2.2.2.2.1:=g7;have g8':(pD n ln).2.2.2.2.1<=5000:=g8;refine⟨l0,l1,hoff,⟨hv,by omega,by omega,by omega,by omega⟩,λhz=>?_,λhz=>⟨hz,λh20=>?_,λh20=>?_⟩⟩
  .have hz0:=fj.1 hz;rw[herr _ hz0 ((lz _ hne (by rw[hln];exact hm) (by rw[hln,eE];exact hz0)).trans (by rw[hln,eE]))]
   exact⟨hz,rfl⟩
  .have hz0:=cZ.1 hz;rw[herr 170 (by decide) (by rw[show 19-l.length=0 by omega];exact jS hne (by rw[hln];exact hm) (by rw[hln,eE];exact hz0))]
   exact⟨rfl,rfl⟩
  .have hz0:=cZ.1 hz;obtain⟨b1,b2⟩:=iG hv hz0 g5' g6';have hnx:=jR (n:=n) (nx:=p.2.2.1) (to:=d) (o:=u) (t:=v) (19-(l.length+1)) hne (by rw[hln];exact hm) (by rw[hln,eE];exact hz0)
   rw[show 19-(l.length+1)+1=19-l.length by omega,hln,eD]at hnx
   have lD:(iO n p.1 l).length=l.length:=by unfold iO;rw[vY]
   generalize hq:fM (aC n u) (pD n ln).2.2.2.1 (ak n u v)=q at *;have lA:iO n p.1 (l++[(u,v,q,ln)])=iO n p.1 l++[fu (aC n u).1 q+(2-p.1)]:=by unfold iO aDX;rw[yS];rfl
   have dq:-1000000<=fu (aC n u).1 q/\fu (aC n u).1 q<=1000000:=by
    obtain⟨⟨z1,z2,_,_⟩,_⟩:=bM.1 hv;unfold fu;omega
   refine⟨⟨hv,by omega,by omega⟩,aO (by omega),⟨⟨by rw[qF],by rw[qF,lD];show _+1<=_;omega⟩,by omega,by omega,λx hx=>by rw[vG]at hx;omega⟩,by simp only[qF];omega,aO (by omega),aO (by omega),
    (l++[(u,v,q,ln)],pC n ln,q+cM n ln),⟨⟨hs,ht,g3,g4,o0,o1,by simp only;omega,by simp only;omega⟩,by simp;omega,?_⟩,⟨rfl,rfl,by simp,by rw[lA];simp;omega,by rw[lA,vU]⟩,by simp;omega⟩
   show ig n p.2.2.1 d 19 o t=_;rw[hw,hnx,yk];simp
 .rw[rY _ he]at hE hL;have hL':uK n p.2.2.1 o d t=l++[(u,v,-1,-1)]:=hL;have eG:uZ n p o d t=iO n p.1 l:=by unfold uZ;rw[hL',List.dropLast_concat]
  have eT:k9 n p o d t=v:=by unfold k9;rw[hL'];simp
  have hE':jh n p.2.2.1 o d t=0:=hE;rw[hE',eG,eT];exact⟨rfl,rfl,by omega,rfl⟩
end Go.Eng.Sv
set_option maxRecDepth 100000
noncomputable section
namespace Go.Eng.Sv
open Go.Proofs
def VI(c:Int×List Bool×Li)(m till:Int): Nat->Int->Li
 | 0,_=>[]
 | f+1,t=>if jF c m t=0 then if fM c m t<till then fM c m t::VI c m till f (fM c m t+1)else[]else[]
def Ui(p:Plan): Nat:=(1440*(p.2.1-p.1)).toNat+1
def FZ(n:Net)(p:Plan)(c o:Int)(f:Nat)(t:Int): Li:=VI (aC n o) (bI n c).2.1 (1440*p.2.1) f t
def jP(n:Net)(p:Plan)(c o:Int): Li:=FZ n p c o (Ui p) (1440*p.1)
def md(n:Net)(p:Plan)(c o:Int): Prop:=lO n o/\Ao n c/\m5 p=true
def wN(n:Net)(p:Plan)(c o:Int)(x:Nat×Int): Prop:=(1440*p.1+x.1<=x.2/\x.2<=1440*p.2.1)/\x.1<=(jP n p c o).length/\(jP n p c o).drop x.1=FZ n p c o (Ui p-x.1) x.2
def aDY: AV->AV
 | .pin u a=>.pin u a
 | .yld l=>.yld l
 | _=>.top
def ZE(n:Net)(p:Plan)(c o:Int): GG:=⟨λid y=>match id with
 | 1=>some {α:=Nat×Int,inv:=λx=>wN n p c o x,st:=λx=>⟨put {y.s with tm:=y.s.tm.map aDY} [(5,.dat I x.2)],x.1,true⟩,μ:=λx=>Dc (Dh (Dq (Ee 1440 p.2.1) 1) x.2)}
 | _=>none,λ_ _=>none,λid=>id==2⟩
theorem Qi(c o:Int)(n:Net)(p:Plan)(hvc:
 let c6:=n.2.1;let c5:=p.2.1;let c4:=n.2.2.1;let c3:=p.2.2;let c1:=n.2.2.2;let c2:=1440*p.1;let c21:=(aC n o);let c22:=(Du c1.2.2 (Dc c) (ByteArray.mk #[],(0:Int),(0:Int))).2.1;let c23:=1440*c5;let c24:=jP n p c o;let c25:=Dj c24;let c26:=c23+1;true/\true/\false=false/\∀(l:Nat) (u:Nat->Value),md n p c o->inR .i64 c2/\(∃(x:Nat×Int),wN n p c o x/\(l=l/\u (0)=u (0)/\n.1=n.1/\c6=c6/\c4=c4/\c1.1=c1.1/\c1.2.1=c1.2.1/\c1.2.2=c1.2.2/\p.1=p.1/\c5=c5/\c3.1=c3.1/\c3.2=c3.2/\u (1)=u (1)/\o=o/\u (2)=u (2)/\c=c/\c2=x.2/\True)/\0=x.1/\true)/\∀(x:Nat×Int),let c27:=Ea (jF c21 c22 x.2) 0;let c28:=Di c27;let c7:=c28->c28->c28;let c29:=fM c21 c22 x.2;let c30:=Eb c27 true (Ed c29 c23);let c31:=Di c30;let c8:=Dk true c31->c31;let c32:=Eb c30 true (Di true);let c33:=x.1+(1);let c34:=c29+1;let c35:=Eb c30 true (Di false);
 wN n p c o x->lO n o/\0<=c/\c<Df c1.2.2/\An c21 c22 x.2/\c7/\c7/\c7/\c7/\c7/\(c28->inR .i64 c23)/\c7/\c7/\(Dk true c28->c28)/\(c31->(c31->c31)/\(c31->c31)/\u (0)=u (0)/\u (1)=u (1)/\u (2)=u (2)/\l=l/\true/\lX c24 x.1 c29/\(c8/\(c32->true->c33=c25)/\(c32=false->inR .i64 c34/\∃(y:Nat×Int),wN n p c o y/\((l=l/\u (0)=u (0)/\n.1=n.1/\c6=c6/\c4=c4/\c1.1=c1.1/\c1.2.1=c1.2.1/\c1.2.2=c1.2.2/\p.1=p.1/\c5=c5/\c3.1=c3.1/\c3.2=c3.2/\u (1)=u (1)/\o=o/\u (2)=u (2)/\c=c/\c34=y.2/\True)/\c33=y.1/\true)/\Dc (c26-y.2)<Dc (c26-x.2)))/\c8/\(c35->false->c33=c25)/\(c35=false->inR .i64 c34/\∃(y:Nat×Int),wN n p c o y/\(False/\c33=y.1/\false)/\Dc (c26-y.2)<Dc (c26-x.2)))/\(c31=false->(c31->c31->c31)/\c8/\(c35->true->x.1=c25)/\(c35=false->inR .i64 c34/\∃(y:Nat×Int),wN n p c o y/\((l=l/\u (0)=u (0)/\n.1=n.1/\c6=c6/\c4=c4/\c1.1=c1.1/\c1.2.1=c1.2.1/\c1.2.2=c1.2.2/\p.1=p.1/\c5=c5/\c3.1=c3.1/\c3.2=c3.2/\u (1)=u (1)/\o=o/\u (2)=u (2)/\c=c/\c34=y.2/\True)/\x.1=y.1/\true)/\Dc (c26-y.2)<Dc (c26-x.2)))):
  evL (mkc KW3) (ZE n p c o) 206 [.ipv (.ips (wHd n p .top)),.ip I o,.ip I c] ⟨md n p c o,I,jP n p c o⟩:=oE hvc
theorem W7(c o:Int)(n:Net)(p:Plan): Gz Tryz.prog G0 206 [.ipv (.ips (wHd n p .top)),.ip I o,.ip I c] ⟨md n p c o,I,jP n p c o⟩:=by
 refine FG (c:=mkc KW3) (A:=ZE n p c o) Zx aL hm (Qi c o n p ⟨rfl,rfl,rfl,λl u ⟨hoff,hcl,hR⟩=>?_⟩)
 have eN:(n.1,n.2.1,n.2.2.1,n.2.2.2.1,n.2.2.2.2.1,n.2.2.2.2.2)=n:=rfl;have eC:∀c:Int×List Bool×Li,(c.1,c.2.1,c.2.2)=c:=λ_=>rfl
 have eK:n.2.2.2.2.2.getD c.toNat (⟨#[]⟩,0,0)=bI n c:=rfl;have hR':0<=p.1/\p.1<p.2.1/\p.2.1<=600/\p.2.1-p.1<=60:=vO hR;have hv:ax (aC n o).1 (aC n o).2.1 (aC n o).2.2=true:=(dZ n.1 n.2.1 n.2.2.1 n.2.2.2.1 n.2.2.2.2.1 n.2.2.2.2.2 hoff).2.2.1;obtain⟨⟨m0,m1⟩,_⟩:=me n.1 n.2.1 n.2.2.1 n.2.2.2.1 n.2.2.2.2.1 n.2.2.2.2.2 hoff.1 hcl;have m0:0<=(bI n c).2.1:=m0;have m1:(bI n c).2.1<=1439:=m1
 simp only[qc,Dk,Di,qd,Ea,Ed,Df,Dc,Dj,Du,eK,yC,yF,vV,xQ,false_and,and_false,exists_false,qCr];obtain⟨q,hq⟩:∃q,q=1440*p.1:=⟨_,rfl⟩;obtain⟨r,hr⟩:∃r,r=1440*p.2.1:=⟨_,rfl⟩;refine⟨aO (by omega),⟨(0,1440*p.1),⟨⟨by simp only;omega,by simp only;omega⟩,wY _,rfl⟩,rfl,rfl⟩,?_⟩
 rintro⟨k,t⟩ ⟨⟨t0,t1⟩,k1,hk⟩;simp only at t0 t1 k1 hk ⊢;have hU:Ui p-k=(Ui p-(k+1))+1:=by unfold Ui;omega
 have hst:FZ n p c o (Ui p-k) t=if jF (aC n o) (bI n c).2.1 t=0 then if fM (aC n o) (bI n c).2.1 t<1440*p.2.1 then fM (aC n o) (bI n c).2.1 t::FZ n p c o (Ui p-(k+1)) (fM (aC n o) (bI n c).2.1 t+1)else[]else[]:=by rw[hU];rfl
 rw[hst]at hk;have hlen:∀{l:Li},(jP n p c o).drop k=l->(jP n p c o).length=k+l.length:=λh=>by
  have:=yD List.length h;rw[wB]at this;omega
 refine⟨hoff,hcl.1,hcl.2,⟨hv,m0,by omega,by omega,by omega⟩,λ_=>aO (by omega),λ⟨h1,h2⟩=>?_,λh _=>?_⟩
 .have h2':fM (aC n o) (bI n c).2.1 t<1440*p.2.1:=by omega
  obtain⟨b1,b2⟩:=iG hv h1 m0 m1;rw[if_pos h1,if_pos h2']at hk;have hl:=hlen hk;rw[wS]at hl;refine⟨?_,λh=>absurd h (by omega),λ_=>⟨aO (by omega),(k+1,fM (aC n o) (bI n c).2.1 t+1),⟨⟨by simp only;omega,by simp only;omega⟩,by simp only;omega,?_⟩,⟨rfl,rfl⟩,by simp only;omega⟩⟩
  .show(jP n p c o)[k]?=some _;have:=yD (λl=>l[0]?) hk
   simpa[qY]using this
  .show(jP n p c o).drop (k+1)=_;have:=yD (List.drop 1) hk
   rwa [yK]at this
 .have:(jP n p c o).drop k=[]:=by
   rw[hk];by_cases h1:jF (aC n o) (bI n c).2.1 t=0
   .rw[if_pos h1,if_neg (by omega)]
   .rw[if_neg h1]
  have hl:=hlen this;rw[yU]at hl;omega
theorem OH{n:Net}{p:Plan}{c o:Int}(h:md n p c o): (jP n p c o).length<=86401:=by
 have hR:0<=p.1/\p.1<p.2.1/\p.2.1<=600/\p.2.1-p.1<=60:=vO h.2.2;have:∀(f:Nat) (t:Int),(FZ n p c o f t).length<=f:=λf=>by
  induction f with
  | zero=>intro t;exact qK _
  | succ f ih=>
   intro t;have e:FZ n p c o (f+1) t=if jF (aC n o) (bI n c).2.1 t=0 then if fM (aC n o) (bI n c).2.1 t<1440*p.2.1 then fM (aC n o) (bI n c).2.1 t::FZ n p c o f (fM (aC n o) (bI n c).2.1 t+1)else[]else[]:=rfl
   rw[e];split
   .split
    .rw[wS];exact qCe (ih _)
    .exact wY _
   .exact wY _
 refine wH (this _ _) ?_;unfold Ui;omega
theorem zv{n:Net}{p:Plan}{c o x:Int}(h:md n p c o)(hx:x∈jP n p c o): 1440*p.1<=x/\x<1440*p.2.1:=by
 have hv:ax (aC n o).1 (aC n o).2.1 (aC n o).2.2=true:=(dZ n.1 n.2.1 n.2.2.1 n.2.2.2.1 n.2.2.2.2.1 n.2.2.2.2.2 h.1).2.2.1;obtain⟨⟨m0,m1⟩,_⟩:=me n.1 n.2.1 n.2.2.1 n.2.2.2.1 n.2.2.2.2.1 n.2.2.2.2.2 h.1.1 h.2.1;have m0:0<=(bI n c).2.1:=m0;have m1:(bI n c).2.1<=1439:=m1;have:∀(f:Nat) (t:Int),x∈FZ n p c o f t->t<=x/\x<1440*p.2.1:=λf=>by
  induction f with
  | zero=>intro t h;cases h
  | succ f ih=>
   intro t h;have e:FZ n p c o (f+1) t=if jF (aC n o) (bI n c).2.1 t=0 then if fM (aC n o) (bI n c).2.1 t<1440*p.2.1 then fM (aC n o) (bI n c).2.1 t::FZ n p c o f (fM (aC n o) (bI n c).2.1 t+1)else[]else[]:=rfl
   rw[e]at h;split at h
   .rename_i he;obtain⟨b1,b2⟩:=iG hv he m0 m1;split at h
    .rcases zA.1 h with rfl | h
     .exact⟨b1,by assumption⟩
     .have:=ih _ h;omega
    .cases h
   .cases h
 exact this _ _ hx
end Go.Eng.Sv
set_option maxRecDepth 100000
noncomputable section
namespace Go.Eng.Sv
open Go.Proofs
def li(p:Plan)(k o d:Int): Int:=((p.2.2.2.getD k.toNat []).getD o.toNat []).getD d.toNat 0
def aEI(n:Net)(p:Plan)(o d cut:Int): Int:=ak n d (k9 n p o d cut)
def aBp(n:Net)(p:Plan)(c o d cut:Int): Int:=fM (aC n d) (bI n c).2.2 (aEI n p o d cut)
def FW(n:Net)(p:Plan)(c o d cut:Int): Int:=jF (aC n d) (bI n c).2.2 (aEI n p o d cut)
def Uw(n:Net)(p:Plan)(c o d cut:Int): Int:=nj (aC n d).2.1 (aC n d).2.2 (fu (aC n d).1 cut) (fu (aC n d).1 (aBp n p c o d cut))
def CN(n:Net)(p:Plan)(c o d cut:Int): Int:=if jh n p.2.2.1 o d cut≠0 then jh n p.2.2.1 o d cut else if FW n p c o d cut≠0 then FW n p c o d cut else if Uw n p c o d cut>li p c o d then 190 else 0
def HK(l:Li): Int:=(l.find? λe=>decide (e≠0)).getD 0
def iP(n:Net)(p:Plan)(c o d:Int): Int:=HK ((jP n p c o).map (CN n p c o d))
def mU(n:Net)(p:Plan)(c o d:Int)(j:Nat): Li:=((jP n p c o).take j).flatMap (uZ n p o d)
def keepA(n:Net)(p:Plan)(c o d:Int): Li:=mU n p c o d (jP n p c o).length
def lu(n:Net)(p:Plan): Prop:=bn n=true/\fW n p=true
def nb(n:Net)(p:Plan)(c o d:Int)(k:Nat)(xs:Li): Prop:=(lu n p/\Ao n c/\lO n o/\lO n d)/\xs.length=k/\xs.length<=900000000000
def qw(n:Net)(p:Plan)(c o d:Int)(k:Nat)(xs:Li)(j:Nat): Prop:=nb n p c o d k xs/\j<=(jP n p c o).length/\∀i:Nat,i<j->CN n p c o d ((jP n p c o).getD i 0)=0
def KIW: FuncId->List AV->Option ja:=λf caps=>if f=206+uQ then match caps with
  | [.ipv x,.ip (.int .i64) o,.ip (.int .i64) c]=>match asI x with
   | some (n,p)=>some ⟨md n p c o,I,jP n p c o⟩
   | none=>none
  | _=>none
 else none
def KW6: Kt:=kOr 135 (wK [.mp 2,.val I,.val I,.val I] (λ(_,o,d,t,_) n p k xs=>xj n p o d t k xs/\isZero (jh n p.2.2.1 o d t)=true) (λ(_,o,d,t,_) n p=>.dat I (k9 n p o d t)) λ(_,o,d,t,_) n p=>uZ n p o d t) KW4
def aEx: KPt:=pOr 135 (wP [.mp 2,.val I,.val I,.val I] λ(_,o,d,t,_) n p k xs=>⟨xj n p o d t k xs,isZero (jh n p.2.2.1 o d t),uJ 39 (jh n p.2.2.1 o d t)⟩) aEy
noncomputable def aBE: Cfg:=⟨Tryz.prog,G0,KW6,λ_=>false,KIW,true,aEx,λf=>f==137||f==135⟩
def ZC(n:Net)(p:Plan)(c o d:Int)(k:Nat)(xs:Li): Ann:=⟨λid s=>match id with
 | 2=>some {α:=Nat,inv:=λj=>qw n p c o d k xs j,st:=λj=>{flat s with mem:=mQ n p (Ec (Dj xs) (Dj (mU n p c o d j))) (Ef xs (mU n p c o d j))},μ:=λj=>j}
 | _=>none,λ_ _=>none,λ_ _=>none⟩
theorem Qe (c o d : Int) (k : Nat) (xs : Li) (n : Net) (p : Plan) (hvc :
 let c1 := keepA n p c o d;
 let c2 := Ef xs c1;
 let c3 := n.fst;
 let c4 := n.snd;
 let c5 := c4.fst;
 let c6 := c4.snd;
 let c7 := c6.fst;
 let c8 := c6.snd;
 let c9 := c8.fst;
 let c10 := c8.snd;
 let c11 := c10.fst;
 let c12 := c10.snd;
 let c13 := p.fst;
 let c14 := p.snd;
 let c15 := c14.fst;
 let c16 := c14.snd;
 let c17 := c16.fst;
 let c18 := c16.snd;
 let c19 := (c3, c5, c7, c9, c11, c12);
 let c20 := (c13, c15, c17, c18);
 let c21 := jP c19 c20 c o;
 let c22 := iP n p c o d;
 let c23 := isZero c22;
 let c24 := chainOf (Value.iface (39) (Value.int IntKind.i64 c22));
 let c25 := aC c19 d;
 let c26 := c25.fst;
 let c27 := c25.snd;
 let c28 := c27.fst;
 let c29 := c27.snd;
 let c30 := (c26, c28, c29);
 let c31 := (Du c12 (Dc c) (ByteArray.mk (Dt UInt8).toArray, (0 : Int), (0 : Int))).snd.snd;
 let c32 := Du c18 (Dc c) (Dt (Li));
 let c33 := Du c32 (Dc o) (Dt Int); true = true ∧ (nb n p c o d k xs → 1 = 1 ∧ Dz (Dj xs) (Dj c2) ∧ True ∧ true = true ∧ (∀ (x : Nat),
  qw n p c o d k xs x → some [(AV.ips [AV.dat ((Ty.int IntKind.i64).pair (Ty.bool.sl.pair (Ty.int IntKind.i64).sl)).sl c3, AV.dat Ty.str.sl c5, AV.dat
  Ty.str.sl c7, AV.dat (Ty.str.pair ((Ty.int IntKind.i64).pair ((Ty.int IntKind.i64).pair ((Ty.int IntKind.i64).pair ((Ty.int IntKind.i64).pair ((Ty.int
  IntKind.i64).pair Ty.str.sl)))))).sl c9, AV.dat (Ty.str.pair ((Ty.int IntKind.i64).pair ((Ty.int IntKind.i64).pair ((Ty.int IntKind.i64).pair ((Ty.int
  IntKind.i64).pair (Ty.int IntKind.i64)))))).sl c11, AV.dat (Ty.str.pair ((Ty.int IntKind.i64).pair (Ty.int IntKind.i64))).sl c12, AV.dat (Ty.int IntKind.i64)
  c13, AV.dat (Ty.int IntKind.i64) c15, AV.dat (Ty.int IntKind.i64).sl.sl c17, AV.dat (Ty.int IntKind.i64).sl.sl.sl c18, AV.top]).ipv, AV.ip (Ty.int IntKind.i64)
  o, AV.ip (Ty.int IntKind.i64) c] = some [(AV.ips [AV.dat ((Ty.int IntKind.i64).pair (Ty.bool.sl.pair (Ty.int IntKind.i64).sl)).sl c3, AV.dat Ty.str.sl c5,
  AV.dat Ty.str.sl c7, AV.dat (Ty.str.pair ((Ty.int IntKind.i64).pair ((Ty.int IntKind.i64).pair ((Ty.int IntKind.i64).pair ((Ty.int IntKind.i64).pair ((Ty.int
  IntKind.i64).pair Ty.str.sl)))))).sl c9, AV.dat (Ty.str.pair ((Ty.int IntKind.i64).pair ((Ty.int IntKind.i64).pair ((Ty.int IntKind.i64).pair ((Ty.int
  IntKind.i64).pair (Ty.int IntKind.i64)))))).sl c11, AV.dat (Ty.str.pair ((Ty.int IntKind.i64).pair (Ty.int IntKind.i64))).sl c12, AV.dat (Ty.int IntKind.i64)
  c13, AV.dat (Ty.int IntKind.i64) c15, AV.dat (Ty.int IntKind.i64).sl.sl c17, AV.dat (Ty.int IntKind.i64).sl.sl.sl c18, AV.top]).ipv, AV.ip (Ty.int IntKind.i64)
  o, AV.ip (Ty.int IntKind.i64) c]) ∧ md c19 c20 c o ∧ (∃ x,
 let c34 := mU n p c o d x; qw n p c o d k xs x ∧ x = 0 ∧ 1 = 1 ∧ 0 = 0 ∧ 0 = 0 ∧ c = c ∧ o = o ∧ d = d ∧ 1 = 1 ∧ 0 = 0 ∧ 0 = 0 ∧ c = c ∧ o = o ∧ d = d ∧
  1 = 1 ∧ 0 = 0 ∧ 0 = 0 ∧ c = c ∧ o = o ∧ 1 = 1 ∧ 0 = 0 ∧ 0 = 0 ∧ o = o ∧ c = c ∧ c3 = c3 ∧ c5 = c5 ∧ c7 = c7 ∧ c9 = c9 ∧ c11 = c11 ∧ c12 = c12 ∧ c13 = c13 ∧ c15
  = c15 ∧ c17 = c17 ∧ c18 = c18 ∧ k = Ec (Dj xs) (Dj c34) ∧ xs = Ef xs c34 ∧ 1 = 1 ∧ Dj xs = Dj xs ∧ True) ∧ (∀ (x : Nat),
 let c35 := mU n p c o d x;
 let c36 := Ec (Dj xs) (Dj c35);
 let c37 := Ef xs c35; ∀ (y : Int),
 let c38 := jh c19 c17 o d y;
 let c39 := isZero c38;
 let c40 := uZ c19 c20 o d y;
 let c41 := Ef c37 c40;
 let c42 := k9 c19 c20 o d y;
 let c43 := ak c19 d c42;
 let c44 := jF c30 c31 c43;
 let c45 := isZero c44;
 let c46 := fM c30 c31 c43;
 let c47 := fu c26 c46;
 let c48 := Ei (nj c28 c29 (fu c26 y) c47) (Du c33 (Dc d) (0 : Int)); qw n p c o d k xs x → lX c21 x y → (true = true → xj c19 c20 o d y
  c36 c37 ∧ (c39 = false → c23 = false ∧ true = true ∧ chainOf (Value.iface (39) (Value.int IntKind.i64 c38)) = c24)) ∧ ((true = true → c39 = true) → (xj c19
  c20 o d y c36 c37 ∧ c39 = true) ∧ 1 = 1 ∧ Dz (Dj c37) (Dj c41) ∧ lO c19 d ∧ 1 = 1 ∧ 0 = 0 ∧ 1 = 1 ∧ 0 = 0 ∧ 1 = 1 ∧ 1 = 1 ∧ 1 = 1 ∧ 1 = 1 ∧ 0 = 0 ∧
  Dl (0 : Int) c ∧ Dn c (Df c12) ∧ fB c19 d c42 ∧ An c30 c31 c43 ∧ True ∧ (c45 = true → 1 = 1 ∧ 0 = 0 ∧ 1 = 1 ∧ 1 = 1 ∧ 1 = 1 ∧ 1 = 1 ∧ 0 = 0 ∧
  Dl (0 : Int) c ∧ Dn c (Df c12) ∧ fB c19 d c42 ∧ An c30 c31 c43 ∧ (True ∧ c45 = true) ∧ 1 = 1 ∧ 0 = 0 ∧ gw c26 c28 c29 y ∧ 1 = 1 ∧ 0 = 0 ∧
  gw c26 c28 c29 c46 ∧ 1 = 1 ∧ 0 = 0 ∧ countP c26 c28 c29 (fu c26 y) c47 ∧ 1 = 1 ∧ 1 = 1 ∧ 1 = 1 ∧ 1 = 1 ∧ 0 = 0 ∧ Dl (0 : Int) c ∧ Dn c (Df
  c18) ∧ Dl (0 : Int) o ∧ Dn o (Df c32) ∧ Dl (0 : Int) d ∧ Dn d (Df c33) ∧ (c48 = true → (true = true → True ∧ (false = false → c23 = false ∧
  true = true ∧ chainOf (Value.iface (39) (Value.int IntKind.i64 (190 : Int))) = c24)) ∧ True) ∧ (c48 = false → ∃ z,
 let c49 := mU n p c o d z; qw n p c o d k xs z ∧ z = Ec x (1) ∧ 1 = 1 ∧ 0 = 0 ∧ 0 = 0 ∧ c = c ∧ o = o ∧ d = d ∧ 1 = 1 ∧ 0 = 0 ∧ 0 = 0 ∧ c = c ∧ o = o
  ∧ d = d ∧ 1 = 1 ∧ 0 = 0 ∧ 0 = 0 ∧ c = c ∧ o = o ∧ 1 = 1 ∧ 0 = 0 ∧ 0 = 0 ∧ o = o ∧ c = c ∧ c3 = c3 ∧ c5 = c5 ∧ c7 = c7 ∧ c9 = c9 ∧ c11 = c11 ∧ c12 = c12 ∧ c13 =
  c13 ∧ c15 = c15 ∧ c17 = c17 ∧ c18 = c18 ∧ Ec c36 (Dj c40) = Ec (Dj xs) (Dj c49) ∧ c41 = Ef xs c49 ∧ 1 = 1 ∧ Dj xs = Dj xs ∧ True)) ∧
  (c45 = false → c23 = false ∧ true = true ∧ chainOf (Value.iface (39) (Value.int IntKind.i64 c44)) = c24))) ∧ ∀ (x : Nat),
 let c50 := mU n p c o d x; qw n p c o d k xs x → x = Dj c21 → c23 = true ∧ c3 = c3 ∧ c5 = c5 ∧ c7 = c7 ∧ c9 = c9 ∧ c11 = c11 ∧ c12 = c12 ∧ c13 = c13 ∧
  c15 = c15 ∧ c17 = c17 ∧ c18 = c18 ∧ Ec (Dj xs) (Dj c50) = Ec k (Dj c1) ∧ Ef xs c50 = c2 ∧ 1 = 1 ∧ Dj xs = Dj xs ∧ True)) :
    evM aBE (ZC n p c o d k xs) 68 [.ptr 2 1 0 0, .dat I c, .dat I o, .dat I d] (mQ n p k xs) (.tup []) (mQ n p (Ec k (Dj (keepA n p c o d))) (Ef xs (keepA n p c o d))) ⟨nb n p c o d k xs, isZero (iP n p c o d), uJ 39 (iP n p c o d)⟩ := oE hvc
theorem ze{l:Li}{j:Nat}(hj:j<l.length)(h0:∀i:Nat,i<j->l.getD i 0=0)(h1:l.getD j 0≠0): HK l=l.getD j 0:=by
 induction l generalizing j with
 | nil=>simp at hj
 | cons x l ih=>
  unfold HK;rw[qBp];cases j with
  | zero=>
   have:x≠0:=h1;rw[qW this];rfl
  | succ j=>
   have hx:x=0:=h0 0 (by omega)
   rw[vK (by rw[hx];decide)]
   exact ih (by simpa using hj) (λi hi=>by simpa using h0 (i+1) (by omega)) (by simpa using h1)
theorem t7{l:Li}(h:∀i:Nat,i<l.length->l.getD i 0=0): HK l=0:=by
 unfold HK;have:l.find? (λe=>decide (e≠0))=none:=by
  rw[qCq];intro x hx;obtain⟨i,hi,rfl⟩:=wX.1 hx;have:=h i hi;rw[qA,qB hi,qR]at this;simp[this]
 rw[this];rfl
theorem ew{l:Li}(h:HK l=0): ∀x∈l,x=0:=by
 intro x hx;obtain⟨i,hi,rfl⟩:=wX.1 hx;induction i using Nat.strongRecOn with
 | ind i ih=>
  have e:∀j (hj:j<l.length),l.getD j 0=l[j]:=λj hj=>by rw[qA,qB hj,qR]
  rw[<- e i hi];refine Decidable.byContradiction λhne=>?_
  have:=ze hi (λj hj=>by rw[e j (by omega)];exact ih j hj (by omega) (wO _)) hne
  exact hne (this.symm.trans h)
theorem da{n:Net}{p:Plan}(h:fW n p=true): m5 p=true/\nN n p.2.2.1=true/\pM n p=true:=by
 unfold fW at h;simpa only[qC]using h
theorem OD{n:Net}{p:Plan}(h:pM n p=true){c o d:Int}(hc:Ao n c)(o0:0<=o)(o1:o<n.2.2.2.1.length)(d0:0<=d)(d1:d<n.2.2.2.1.length):
  (c<p.2.2.2.length/\o<(p.2.2.2.getD c.toNat []).length/\d<((p.2.2.2.getD c.toNat []).getD o.toNat []).length)/\-1<=li p c o d/\li p c o d<=65518:=by
 obtain⟨c0,c1⟩:=hc;unfold pM at h;simp only[qC,qE,qL]at h;obtain⟨h1,h2⟩:=h;have h3:=h2 _ (getD_mem (l:=p.2.2.2) (i:=c.toNat) (d:=[]) (by omega))
 have h4:((p.2.2.2.getD c.toNat []).length:Int)=n.2.2.2.1.length:=by
  unfold sgF at h3;simp only[qC,qE]at h3;exact h3.1
 have h5:=(A3 h4).1 h3 o.toNat (by omega)
 have h6:(((p.2.2.2.getD c.toNat []).getD o.toNat []).length:Int)=n.2.2.2.1.length:=by
  unfold sgR at h5;simp only[qC,qE]at h5;exact h5.1
 have h7:gC ((o.toNat:Nat):Int) (li p c o d)=true:=(D9 h6).1 h5 d.toNat (by omega)
 unfold gC uk at h7;rw[qE]at h7;exact⟨⟨by omega,by omega,by omega⟩,h7⟩
theorem rZ{n:Net}{nx:Lj}{to:Int}: ∀(k:Nat) (o t:Int),Aj n nx o to t->(ig n nx to k o t).2=0->
  (ig n nx to k o t).1.length<=k+1/\(ig n nx to k o t).1≠[]/\t<=((ig n nx to k o t).1.getLastD (0,0,0,0)).2.1/\((ig n nx to k o t).1.getLastD (0,0,0,0)).2.1<=2200000
 | k,o,t,hp,h=>by
  obtain⟨hs,ht,u0,u1,o0,o1,v0,v1⟩:=id hp;by_cases he:o=to
  .rw[rY k he];exact⟨by simp,by simp,qM _,v1⟩
  by_cases hm:nxt nx o to=-1
  .rw[ji k he hm]at h;cases h
  by_cases h6:ni n (nxt nx o to) (ak n o t)=0
  case neg=>rw[lz k he hm h6]at h;exact absurd h h6
  cases k with
  | zero=>rw[jS he hm h6]at h;cases h
  | succ k=>
   have hno:noF n=true:=bm n.1 n.2.1 n.2.2.1 n.2.2.2.1 n.2.2.2.2.1 n.2.2.2.2.2 hs;obtain⟨_,_,c3⟩:(nx.length:Int)=n.2.2.2.1.length/\((nx.getD o.toNat []).length:Int)=n.2.2.2.1.length/\(nxt nx o to≠-1->(0<=nxt nx o to/\nxt nx o to<n.2.2.2.2.1.length)/\b9 n (nxt nx o to)=o):=gW n.1 n.2.1 n.2.2.1 n.2.2.2.1 n.2.2.2.2.1 n.2.2.2.2.2 ht u0 u1 o0 o1;obtain⟨⟨l0,l1⟩,lf⟩:=c3 hm
   have hlin:Jl n (nxt nx o to):=⟨hno,l0,l1⟩;obtain⟨g1,g2,g3,g4,g5,g6,g7,g8⟩:0<=b9 n (nxt nx o to)/\b9 n (nxt nx o to)<n.2.2.2.1.length/\0<=pC n (nxt nx o to)/\pC n (nxt nx o to)<n.2.2.2.1.length/\0<=BM n (nxt nx o to)/\BM n (nxt nx o to)<=1439/\1<=cM n (nxt nx o to)/\cM n (nxt nx o to)<=5000:=tK n.1 n.2.1 n.2.2.1 n.2.2.2.1 n.2.2.2.2.1 n.2.2.2.2.2 hlin
   obtain⟨b1,b2,b3,b4⟩:0<=ak n o t/\ak n o t<=2000000/\ak n o t<=iN n (nxt nx o to) (ak n o t)/\iN n (nxt nx o to) (ak n o t)<=ak n o t+90000:=mM n.1 n.2.1 n.2.2.1 n.2.2.2.1 n.2.2.2.2.1 n.2.2.2.2.2 hlin h6
   obtain⟨_,_,r1,r2⟩:inR .i64 ((bO n o).2.2.2.2.1*(bO n o).2.2.2.2.2.1)/\inR .i64 (ak n o t)/\t<=ak n o t/\ak n o t<=t+960:=ny n.1 n.2.1 n.2.2.1 n.2.2.2.1 n.2.2.2.2.1 n.2.2.2.2.2 ⟨⟨hno,u0,u1⟩,by omega,by omega⟩
   rw[jR k he hm h6]at h ⊢;by_cases h7:(ig n nx to k (pC n (nxt nx o to)) (iN n (nxt nx o to) (ak n o t)+cM n (nxt nx o to))).2=0
   case neg=>rw[rL h7]at h;exact absurd h h7
   obtain⟨i1,i2,i3,i4⟩:=rZ k _ _ ⟨hs,ht,g3,g4,o0,o1,by omega,by omega⟩ h7
   rw[EJ h7];refine⟨by simp;omega,by simp,?_,?_⟩
   .show t<=(([_]++(ig n nx to k _ _).1).getLastD (0,0,0,0)).2.1;rw[gJ,qCp,yO,xK i2];rw[yO,xK i2]at i3;simp only[qR]at i3 ⊢;omega
   .show(([_]++(ig n nx to k _ _).1).getLastD (0,0,0,0)).2.1<=_;rw[gJ,qCp,yO,xK i2];rw[yO,xK i2]at i4;exact i4
theorem xk{n:Net}{p:Plan}{o d t:Int}(hp:Aj n p.2.2.1 o d t)(h:jh n p.2.2.1 o d t=0): (uZ n p o d t).length<=19/\t<=k9 n p o d t/\k9 n p o d t<=2200000:=by
 obtain⟨h1,_,h3,h4⟩:=rZ 19 o t hp h;refine⟨?_,h3,h4⟩;unfold uZ iO;rw[vY,List.length_dropLast];show(ig n p.2.2.1 d 19 o t).1.length-1<=19;omega
theorem zu{n:Net}{p:Plan}{c o d x:Int}(hp:lu n p)(hc:md n p c o)(hd:lO n d)(hx:x∈jP n p c o): Aj n p.2.2.1 o d x:=by
 obtain⟨b1,b2⟩:=zv hc hx;have hR:0<=p.1/\p.1<p.2.1/\p.2.1<=600/\p.2.1-p.1<=60:=vO hc.2.2;exact⟨hp.1,(da hp.2).2.1,hc.1.2.1,hc.1.2.2,hd.2.1,hd.2.2,by omega,by omega⟩
theorem zx{n:Net}{p:Plan}{c o d x:Int}(h:CN n p c o d x=0): jh n p.2.2.1 o d x=0/\FW n p c o d x=0/\Uw n p c o d x<=li p c o d:=by
 unfold CN at h;by_cases h1:jh n p.2.2.1 o d x=0
 .rw[if_neg (λg=>g h1)]at h
  by_cases h2:FW n p c o d x=0
  .rw[if_neg (λg=>g h2)]at h
   split at h
   .cases h
   .exact⟨h1,h2,by omega⟩
  .rw[if_pos h2]at h;exact absurd h h2
 .rw[if_pos h1]at h;exact absurd h h1
theorem tQ{n:Net}{p:Plan}{c o d:Int}{k:Nat}{xs:Li}: ∀{j:Nat},qw n p c o d k xs j->(mU n p c o d j).length<=19*j
 | 0,_=>by unfold mU;simp
 | j+1,⟨hp,hj,h0⟩=>by
  have ih:=tQ (j:=j) ⟨hp,by omega,λi hi=>h0 i (by omega)⟩
  have hc:md n p c o:=⟨hp.1.2.2.1,hp.1.2.1,(da hp.1.1.2).1⟩;have hm:(jP n p c o).getD j 0∈jP n p c o:=getD_mem (by omega)
  have:=(xk (zu hp.1.1 hc hp.1.2.2.2 hm) (zx (h0 j (by omega))).1).1
  unfold mU at ih ⊢;rw[wZ,kX,qF,qB (show j<(jP n p c o).length by omega)]
  rw[qA,qB (show j<(jP n p c o).length by omega),qR]at this
  simp only[qBs,yQ,qDe,wL];omega
theorem aFC: al Tryz.prog G0 KW6:=aj (P7 λ(_,o,d,t,_) n p k xs=>(U6 o d t k xs n p).1) aCA
theorem PD: bL Tryz.prog G0 aEx:=iC (ZH λ(_,o,d,t,_) n p k xs=>(U6 o d t k xs n p).2) PE
theorem Zh{P:Program}{G:List (Nat×AV)}{g N:Nat}{caps:List AV}{it:ja}(h:Gz P G g caps it): if g+N<N then mW P G (g+N) caps it else Gz P G (g+N-N) caps it:=by
 rw[if_neg (by omega),Nat.add_sub_cancel];exact h
theorem aB1: bu Tryz.prog G0 KIW:=by
 unfold bu KIW;generalize uQ=N;intro f caps it h;split at h
 case isFalse=>cases h
 rename_i hf;split at h
 case h_2=>cases h
 rename_i x o c;split at h
 case h_2=>cases h
 rename_i n p hx;cases h;subst hf;rw[VN hx];exact Zh (W7 c o n p)
theorem LI (c o d : Int) (k : Nat) (xs : Li) (n : Net) (p : Plan) : af Tryz.prog G0 68 [.ptr 2 1 0 0, .dat I c, .dat I o, .dat I d] (mQ n p k xs) ⟨nb n p c o d k xs ∧ isZero (iP n p c o d) = true, .tup [], mQ n p (Ec k (Dj (keepA n p c o d))) (Ef xs (keepA n p c o d))⟩ ∧
    cX Tryz.prog G0 68 [.ptr 2 1 0 0, .dat I c, .dat I o, .dat I d] (mQ n p k xs) ⟨nb n p c o d k xs, isZero (iP n p c o d), uJ 39 (iP n p c o d)⟩ := by
  refine cn (c := aBE) aFC aB1 hm PD (Qe c o d k xs n p ⟨rfl, fun hp => ?_⟩)
  have eN : (n.1, n.2.1, n.2.2.1, n.2.2.2.1, n.2.2.2.2.1, n.2.2.2.2.2) = n := rfl
  have eP : (p.1, p.2.1, p.2.2.1, p.2.2.2) = p := rfl
  have eC : ∀ c : Int × List Bool × Li, (c.1, c.2.1, c.2.2) = c := fun _ => rfl
  have eK : n.2.2.2.2.2.getD c.toNat (⟨#[]⟩, 0, 0) = bI n c := rfl
  have eA : ((p.2.2.2.getD c.toNat []).getD o.toNat []).getD d.toNat 0 = li p c o d := rfl
  simp only [qc, qd, Dt, Ei, Df, Dl, Dn, Dz, Dc, Dj, Ec, Du, Ef, eN, eP, eC, eK, eA]
  obtain ⟨⟨hpl, hcl, ho, hd⟩, hk, hxl⟩ := id hp
  obtain ⟨hR, hT, hDy⟩ := da hpl.2
  have hc : md n p c o := ⟨ho, hcl, hR⟩
  have hR' : 0 ≤ p.1 ∧ p.1 < p.2.1 ∧ p.2.1 ≤ 600 ∧ p.2.1 - p.1 ≤ 60 := vO hR
  have hlen := OH hc
  have hv : ax (aC n d).1 (aC n d).2.1 (aC n d).2.2 = true := (dZ n.1 n.2.1 n.2.2.1 n.2.2.2.1 n.2.2.2.2.1 n.2.2.2.2.2 hd).2.2.1
  obtain ⟨⟨z1, z2, _, _⟩, _⟩ := bM.1 hv
  obtain ⟨_, ⟨m0, m1⟩⟩ := me n.1 n.2.1 n.2.2.1 n.2.2.2.1 n.2.2.2.2.1 n.2.2.2.2.2 hd.1 hcl
  have m0 : 0 ≤ (bI n c).2.2 := m0
  have m1 : (bI n c).2.2 ≤ 1439 := m1
  obtain ⟨⟨q1, q2, q3⟩, q4⟩ := OD hDy hcl ho.2.1 ho.2.2 hd.2.1 hd.2.2
  have kE : ∀ (x : Nat), qw n p c o d k xs x → x < (jP n p c o).length → CN n p c o d ((jP n p c o).getD x 0) ≠ 0 → iP n p c o d = CN n p c o d ((jP n p c o).getD x 0) := fun x hx hl hne => by
    have eg : ∀ i : Nat, i < (jP n p c o).length → ((jP n p c o).map (CN n p c o d)).getD i 0 = CN n p c o d ((jP n p c o).getD i 0) := fun i hi => by
      rw [qA, qP, qA, qB hi]; rfl
    unfold iP
    rw [ze (j := x) (by rw [vY]; exact hl) (fun i hi => by rw [eg i (by omega)]; exact hx.2.2 i hi) (by rw [eg x hl]; exact hne), eg x hl]
  refine ⟨by rw [qF]; omega, hc, ⟨0, ⟨hp, wY _, fun i hi => by omega⟩, rfl, by rw [hk]; rfl, (wL _).symm⟩, fun x y hx hy => ?_, fun x hx hl => ?_⟩
  · have hy : (jP n p c o)[x]? = some y := hy
    have hxl2 : x < (jP n p c o).length := (qG.1 hy).1
    have ey : (jP n p c o).getD x 0 = y := by rw [qA, hy]; rfl
    have hym : y ∈ jP n p c o := zJ hy
    have kE := kE x hx hxl2
    rw [ey] at kE
    obtain ⟨y0, y1⟩ := zv hc hym
    have hgl := tQ hx
    have hwP := zu hpl hc hd hym
    have hW : xj n p o d y (xs.length + (mU n p c o d x).length) (xs ++ mU n p c o d x) := ⟨hwP, ⟨by omega, by omega⟩, by rw [qF], by rw [qF]; omega⟩
    refine ⟨⟨hW, fun hz => ?_⟩, fun hz => ?_⟩
    · have hz0 := fj.1 hz
      have e : CN n p c o d y = jh n p.2.2.1 o d y := if_pos hz0
      rw [kE (by rw [e]; exact hz0), e]
      exact ⟨hz, rfl⟩
    · have hz0 := cZ.1 hz
      obtain ⟨_, w1, w2⟩ := xk hwP hz0
      have hr : fB n d (k9 n p o d y) := ⟨hd, by omega, by omega⟩
      obtain ⟨_, _, r1, r2⟩ : inR .i64 ((bO n d).2.2.2.2.1 * (bO n d).2.2.2.2.2.1) ∧ inR .i64 (ak n d (k9 n p o d y)) ∧ k9 n p o d y ≤ ak n d (k9 n p o d y) ∧ ak n d (k9 n p o d y) ≤ k9 n p o d y + 960 := ny n.1 n.2.1 n.2.2.1 n.2.2.2.1 n.2.2.2.2.1 n.2.2.2.2.2 hr
      have hf : An (aC n d) (bI n c).2.2 (ak n d (k9 n p o d y)) := ⟨hv, m0, by omega, by omega, by omega⟩
      refine ⟨⟨hW, hz⟩, by simp only [qF]; omega, hd, hcl.1, hcl.2, hr, hf, fun h0 => ?_, fun h0 => ?_⟩
      · have h00 := cZ.1 h0
        obtain ⟨b1, b2⟩ := iG hv h00 m0 m1
        have dB : ∀ t : Int, 0 ≤ t → t ≤ 3000000 → bW (fu (aC n d).1 t) = true := fun t t0 t1 => jD (by unfold fu; omega) (by unfold fu; omega)
        refine ⟨hcl.1, hcl.2, hr, hf, h0, ⟨hv, by omega, by omega⟩, ⟨hv, by omega, by omega⟩, ⟨hv, dB _ (by omega) (by omega), dB _ (by omega) (by omega)⟩, hcl.1, q1, ho.2.1, q2, hd.2.1, q3, fun hgt => ?_, fun hle => ?_⟩
        · have e : CN n p c o d y = 190 := by
            unfold CN
            rw [if_neg (fun g => g hz0), if_neg (fun g => g (show FW n p c o d y = 0 from h00)), if_pos (show Uw n p c o d y > li p c o d from hgt)]
          rw [kE (by rw [e]; decide), e]
          exact ⟨rfl, rfl⟩
        · have e : CN n p c o d y = 0 := by
            unfold CN
            rw [if_neg (fun g => g hz0), if_neg (fun g => g (show FW n p c o d y = 0 from h00)), if_neg (show ¬ Uw n p c o d y > li p c o d from hle)]
          have eG : mU n p c o d (x + 1) = mU n p c o d x ++ uZ n p o d y := by
            unfold mU
            rw [wZ, hy, kX]
            simp
          refine ⟨x + 1, ⟨hp, hxl2, fun i hi => ?_⟩, rfl, by rw [eG, qF]; omega, by rw [eG, vU]⟩
          by_cases h3 : i < x
          · exact hx.2.2 i h3
          · have : i = x := by omega
            rw [this, ey]; exact e
      · have h00 := fj.1 h0
        have e : CN n p c o d y = FW n p c o d y := by
          unfold CN
          rw [if_neg (fun g => g hz0), if_pos (show FW n p c o d y ≠ 0 from h00)]
        rw [kE (by rw [e]; exact h00), e]
        exact ⟨h0, rfl⟩
  · have e : iP n p c o d = 0 := by
      unfold iP
      refine t7 fun i hi => ?_
      rw [vY] at hi
      rw [qA, qP, qB hi]
      have := hx.2.2 i (by omega)
      rw [qA, qB hi] at this
      exact this
    rw [e, hl]
    exact ⟨rfl, by rw [hk]; rfl, rfl⟩
end Go.Eng.Sv
set_option maxRecDepth 100000
noncomputable section
namespace Go.Eng.Sv
open Go.Proofs
def up1(r:Li): Li:=upR r 1 (r.length:Int)
def h4N(n:Net)(p:Plan): Li:=[p.1,p.2.1,n.2.2.2.1.length,n.2.2.2.2.2.length]
def h1N(n:Net)(p:Plan)(j:Int): Li:=h4N n p++(p.2.2.1.take j.toNat).flatMap up1
def h2N(n:Net)(p:Plan)(i:Int): Li:=h1N n p p.2.2.1.length++(p.2.2.2.take i.toNat).flatMap λt=>t.flatMap up1
def h3N(n:Net)(p:Plan)(i j:Int): Li:=h2N n p i++((p.2.2.2.getD i.toNat []).take j.toNat).flatMap up1
def hdN(n:Net)(p:Plan): Li:=h2N n p p.2.2.2.length
def rF(n:Net)(p:Plan)(c o d:Int): Li:=if li p c o d=-1 then[]else keepA n p c o d
def Vh(n:Net)(p:Plan)(c o:Int)(k:Nat): Li:=(List.range k).flatMap λd:Nat=>rF n p c o (d:Int)
def U5(n:Net)(p:Plan)(c:Int)(k:Nat): Li:=(List.range k).flatMap λo:Nat=>Vh n p c (o:Int) ((p.2.2.2.getD c.toNat []).getD o []).length
def Ku(n:Net)(p:Plan)(k:Nat): Li:=(List.range k).flatMap λc:Nat=>U5 n p (c:Int) (p.2.2.2.getD c []).length
def rG(n:Net)(p:Plan)(c o d:Int): Int:=if li p c o d=-1 then 0 else iP n p c o d
def Vi(n:Net)(p:Plan)(c o:Int)(k:Nat): Int:=HK ((List.range k).map λd:Nat=>rG n p c o (d:Int))
def Rw(n:Net)(p:Plan)(c:Int)(k:Nat): Int:=HK ((List.range k).map λo:Nat=>Vi n p c (o:Int) ((p.2.2.2.getD c.toNat []).getD o []).length)
def If(n:Net)(p:Plan)(k:Nat): Int:=HK ((List.range k).map λc:Nat=>Rw n p (c:Int) (p.2.2.2.getD c []).length)
def g9(n:Net)(p:Plan): Li:=hdN n p++Ku n p p.2.2.2.length
def k1N(n:Net)(p:Plan)(c:Int): Li:=hdN n p++Ku n p c.toNat
def k2N(n:Net)(p:Plan)(c o:Int): Li:=k1N n p c++U5 n p c o.toNat
def k3N(n:Net)(p:Plan)(c o d:Int): Li:=k2N n p c o++Vh n p c o d.toNat
def wrE(n:Net)(p:Plan): Int:=if bn n=true/\fW n p=true then if If n p p.2.2.2.length≠0 then If n p p.2.2.2.length else if(g9 n p).length>40000 then 2 else 0 else 1
def wrN(n:Net)(p:Plan): Li:=if wrE n p=0 then g9 n p else[]
def wrS(n:Net)(p:Plan): Int:=if wrE n p=0 then Go.Eng.In.fO (g9 n p)else 0
def tA(n:Net)(p:Plan)(k:Int): Prop:=lu n p/\0<=k/\k<=p.2.2.1.length
def tB(n:Net)(p:Plan)(i:Int): Prop:=lu n p/\0<=i/\i<=p.2.2.2.length
def tC(n:Net)(p:Plan)(i j:Int): Prop:=(lu n p/\0<=i/\i<p.2.2.2.length)/\0<=j/\j<=(p.2.2.2.getD i.toNat []).length
def t1(n:Net)(p:Plan)(c:Int): Prop:=tB n p c/\If n p c.toNat=0
def t2(n:Net)(p:Plan)(c o:Int): Prop:=tC n p c o/\If n p c.toNat=0/\Rw n p c o.toNat=0
def t3(n:Net)(p:Plan)(c o d:Int): Prop:=((tC n p c o/\o<(p.2.2.2.getD c.toNat []).length)/\0<=d/\d<=((p.2.2.2.getD c.toNat []).getD o.toNat []).length)/\If n p c.toNat=0/\Rw n p c o.toNat=0/\Vi n p c o d.toNat=0
def aA3(l:List Nat)(s:St): St:={s with tm:=(List.range s.tm.length).map λi=>if l.contains i then tT (s.tm.getD i .top)else .top}
def Zs(s:St)(l:List Nat)(n:Net)(p:Plan)(sl:List (Tmp×AV))(xs:Li): St:=iM (iM (put (aA3 ([2,3,4,5,6]++l) s) sl) 2 (.var (wHd n p (.buf 3 (Dj xs))))) 3 (.buf 3 I xs [])
def wrA(n:Net)(p:Plan): Ann:=⟨λid s=>match id with
 | 7=>some {α:=Int,inv:=λj=>tA n p j,st:=λj=>Zs s [53,54] n p [(55,.dat I j)] (h1N n p j),μ:=λj=>Dc (Dh (Df p.2.2.1) j)}
 | 12=>some {α:=Int,inv:=λj=>tB n p j,st:=λj=>Zs s [64,65] n p [(66,.dat I j)] (h2N n p j),μ:=λj=>Dc (Dh (Df p.2.2.2) j)}
 | 15=>match s.sig.T 66,s.sig.T 70 with
  | .dat (.int .i64) i,.dat (.sl (.sl (.int .i64))) t=>some {α:=Int,inv:=λj=>tC n p i j,st:=λj=>Zs s [64,65,66,70,71] n p [(72,.dat I j)] (h3N n p i j),μ:=λj=>Dc (Dh (Df t) j)}
  | _,_=>none
 | 21=>some {α:=Int,inv:=λj=>t1 n p j,st:=λj=>Zs s [82,83] n p [(84,.dat I j)] (k1N n p j),μ:=λj=>Dc (Dh (Df p.2.2.2) j)}
 | 24=>match s.sig.T 84,s.sig.T 89 with
  | .dat (.int .i64) c,.dat (.sl (.sl (.int .i64))) t=>some {α:=Int,inv:=λj=>t2 n p c j,st:=λj=>Zs s [82,83,84,13,89,90] n p [(91,.dat I j)] (k2N n p c j),μ:=λj=>Dc (Dh (Df t) j)}
  | _,_=>none
 | 27=>match s.sig.T 84,s.sig.T 91,s.sig.T 96 with
  | .dat (.int .i64) c,.dat (.int .i64) o,.dat (.sl (.int .i64)) t=>some {α:=Int,inv:=λj=>t3 n p c o j,st:=λj=>Zs s [82,83,84,13,89,90,91,15,96,97] n p [(98,.dat I j)] (k3N n p c o j),μ:=λj=>Dc (Dh (Df t) j)}
  | _,_,_=>none
 | _=>none,λid s=>match id with
 | 5=>some (iM (iM (aA3 [2,3,4,5,6] s) 2 (.var (wHd n p (.buf 3 0)))) 3 (.buf 3 I [] []))
 | 36=>some (frz [3] s)
 | _=>none,λ_ _=>none⟩
def KW7: Kt:=kOr 68 (wK [.mp 2,.val I,.val I,.val I] (λ(_,c,o,d,_) n p k xs=>nb n p c o d k xs/\isZero (iP n p c o d)=true) (λ_ _ _=>.tup []) λ(_,c,o,d,_) n p=>keepA n p c o d) <|
 kOr 65 (ay [.ptr N,.ptr Pl] (λ(_,p,_)=>fq p) λ(n,p,_)=>.dat .bool (fW n p)) <|
 kOr 63 JM <|
 kOr 36 (ay [.val R] (λ(l,_)=>Go.Eng.In.PT l) λ(l,_)=>.dat I (Go.Eng.In.fO l)) KW5
def aFb: KPt:=pOr 68 (wP [.mp 2,.val I,.val I,.val I] λ(_,c,o,d,_) n p k xs=>⟨nb n p c o d k xs,isZero (iP n p c o d),uJ 39 (iP n p c o d)⟩) aEx
def cWr: Cfg:=mkp KW7 (λt=>t==32) aFb (λf=>f==68)
set_option maxHeartbeats 4000000 in
theorem Qa(cs:LC)(ns os:LB)(fs:Lo)(ls:Ll)(ks:Lk)(p1 p2:Int)(nx:Lj)(dy:List (Lj))(hvc:
 let c1:=(p1,p2,nx,dy);let c2:=(cs,ns,os,fs,ls,ks);let c3:=Ei (Df (fm c2)) 0;let c4:=Di c3;let c5:=Eb c3 true (Di (fW c2 c1));let c6:=wrN c2 c1;let c7:=wrS c2 c1;let c8:=wrE c2 c1;let c9:=[p1,p2,Df fs,Df ks];let c10:=Ef (Dt Int) c9;let c11:=Df dy;(false=false/\true)/\(fq c1->true/\True/\(c4->fq c1)/\(c4->c4->c4)/\(Dk true c4->c4)/\(c5->(true->True/\(false=false->true/\true/\(Di false->True/\1=1/\0=0/\1=1/\0=0/\1=1/\0=0/\1=1/\0=0/\c6=Dt Int/\0=c7/\1=c8/\True)/\(Di false=false->1=1/\0=0/\1=1/\0=0/\c6=Dt Int/\0=c7/\0=c8/\True)))/\True)/\(c5=false->c2=c2/\c1=c1/\1=1/\0=0/\0=0/\1=1/\0=0/\0=0/\1=1/\0=0/\0=0/\Value.slice none (0) (0)=Value.slice none (0) (0)/\(0:Int)=(0:Int)/\(0:Int)=(0:Int)/\cs=cs/\ns=ns/\os=os/\fs=fs/\ls=ls/\ks=ks/\p1=p1/\p2=p2/\nx=nx/\dy=dy/\0=0/\Dt Int=Dt Int/\Dt Int=Dt Int/\1=1/\0=0/\0=0/\1=1/\0=0/\0=0/\1=1/\1=1/\1=1/\1=1/\0=0/\1=1/\1=1/\1=1/\1=1/\0=0/\(Zn [] (0)/\Ik [] c9)/\1=1/\Dj (Dt Int)<=Dj c10/\(∃x,tA c2 c1 x/\c1=c1/\1=1/\0=0/\0=0/\1=1/\0=0/\0=0/\1=1/\0=0/\0=0/\nx=nx/\Df nx=Df nx/\0=x/\Value.slice none (0) (0)=Value.slice none (0) (0)/\(0:Int)=(0:Int)/\(0:Int)=(0:Int)/\cs=cs/\ns=ns/\os=os/\fs=fs/\ls=ls/\ks=ks/\p1=p1/\p2=p2/\nx=nx/\dy=dy/\(0)+Dj c9=Dj (h1N c2 c1 x)/\c10=h1N c2 c1 x/\1=1/\0=0/\0=0/\1=1/\0=0/\0=0/\True)/\∀(x:Int),let c12:=Dp x (Df nx);let c13:=Du nx (Dc x) [];let c14:=Dj (h1N c2 c1 x);let c15:=upR c13 1 (Df c13);let c16:=Ef (h1N c2 c1 x) c15;let c17:=x+1;
 tA c2 c1 x->(c12->0<=x/\x<Df nx/\rsP 1 c13 (h1N c2 c1 x) c14/\1=1/\c14<=Dj c16/\inR .i64 c17/\∃y,tA c2 c1 y/\(c1=c1/\1=1/\0=0/\0=0/\1=1/\0=0/\0=0/\1=1/\0=0/\0=0/\nx=nx/\Df nx=Df nx/\c17=y/\Value.slice none (0) (0)=Value.slice none (0) (0)/\(0:Int)=(0:Int)/\(0:Int)=(0:Int)/\cs=cs/\ns=ns/\os=os/\fs=fs/\ls=ls/\ks=ks/\p1=p1/\p2=p2/\nx=nx/\dy=dy/\c14+Dj c15=Dj (h1N c2 c1 y)/\c16=h1N c2 c1 y/\1=1/\0=0/\0=0/\1=1/\0=0/\0=0/\True)/\Dc (Df nx-y)<Dc (Df nx-x))/\(c12=false->(∃x_3,tB c2 c1 x_3/\c1=c1/\1=1/\0=0/\0=0/\1=1/\0=0/\0=0/\1=1/\0=0/\0=0/\dy=dy/\c11=c11/\0=x_3/\Value.slice none (0) (0)=Value.slice none (0) (0)/\(0:Int)=(0:Int)/\(0:Int)=(0:Int)/\cs=cs/\ns=ns/\os=os/\fs=fs/\ls=ls/\ks=ks/\p1=p1/\p2=p2/\nx=nx/\dy=dy/\c14=Dj (h2N c2 c1 x_3)/\h1N c2 c1 x=h2N c2 c1 x_3/\1=1/\0=0/\0=0/\1=1/\0=0/\0=0/\True)/\∀(x:Int),let c18:=Du dy (Dc x) (Dt (Li));let c19:=Df c18;let c20:=Dj (h2N c2 c1 x);let c21:=x+1;tB c2 c1 x->(Dp x c11->0<=x/\x<c11/\(∃x_5,let c22:=h3N c2 c1 x x_5;tC c2 c1 x x_5/\c1=c1/\1=1/\0=0/\0=0/\1=1/\0=0/\0=0/\1=1/\0=0/\0=0/\dy=dy/\c11=c11/\x=x/\c18=c18/\c19=c19/\0=x_5/\Value.slice none (0) (0)=Value.slice none (0) (0)/\(0:Int)=(0:Int)/\(0:Int)=(0:Int)/\cs=cs/\ns=ns/\os=os/\fs=fs/\ls=ls/\ks=ks/\p1=p1/\p2=p2/\nx=nx/\dy=dy/\c20=Dj c22/\h2N c2 c1 x=c22/\1=1/\0=0/\0=0/\1=1/\0=0/\0=0/\True)/\∀(x_5:Int),let c23:=Du c18 (Dc x_5) [];let c24:=h3N c2 c1 x x_5;let c25:=Dj c24;let c26:=upR c23 1 (Df c23);let c27:=Ef c24 c26;let c28:=x_5+1;tC c2 c1 x x_5->(Dp x_5 c19->0<=x_5/\x_5<c19/\rsP 1 c23 c24 c25/\1=1/\c25<=Dj c27/\inR .i64 c28/\∃y,let c29:=h3N c2 c1 x y;
 tC c2 c1 x y/\(c1=c1/\1=1/\0=0/\0=0/\1=1/\0=0/\0=0/\1=1/\0=0/\0=0/\dy=dy/\c11=c11/\x=x/\c18=c18/\c19=c19/\c28=y/\Value.slice none (0) (0)=Value.slice none (0) (0)/\(0:Int)=(0:Int)/\(0:Int)=(0:Int)/\cs=cs/\ns=ns/\os=os/\fs=fs/\ls=ls/\ks=ks/\p1=p1/\p2=p2/\nx=nx/\dy=dy/\c25+Dj c26=Dj c29/\c27=c29/\1=1/\0=0/\0=0/\1=1/\0=0/\0=0/\True)/\Dc (c19-y)<Dc (c19-x_5))/\(Dp x_5 c19=false->inR .i64 c21/\∃y,tB c2 c1 y/\(c1=c1/\1=1/\0=0/\0=0/\1=1/\0=0/\0=0/\1=1/\0=0/\0=0/\dy=dy/\c11=c11/\c21=y/\Value.slice none (0) (0)=Value.slice none (0) (0)/\(0:Int)=(0:Int)/\(0:Int)=(0:Int)/\cs=cs/\ns=ns/\os=os/\fs=fs/\ls=ls/\ks=ks/\p1=p1/\p2=p2/\nx=nx/\dy=dy/\c25=Dj (h2N c2 c1 y)/\c24=h2N c2 c1 y/\1=1/\0=0/\0=0/\1=1/\0=0/\0=0/\True)/\Dc (c11-y)<Dc (c11-x)))/\(Dp x c11=false->(∃x_5,t1 c2 c1 x_5/\1=1/\0=0/\0=0/\1=1/\0=0/\0=0/\1=1/\0=0/\0=0/\dy=dy/\c11=c11/\0=x_5/\Value.slice none (0) (0)=Value.slice none (0) (0)/\(0:Int)=(0:Int)/\(0:Int)=(0:Int)/\cs=cs/\ns=ns/\os=os/\fs=fs/\ls=ls/\ks=ks/\p1=p1/\p2=p2/\nx=nx/\dy=dy/\c20=Dj (k1N c2 c1 x_5)/\h2N c2 c1 x=k1N c2 c1 x_5/\1=1/\0=0/\0=0/\1=1/\0=0/\0=0/\True)/\∀(x:Int),let c30:=Du dy (Dc x) (Dt (Li));let c31:=Df c30;let c32:=Dj (k1N c2 c1 x);let c33:=x+1;let c34:=Int.ofNat c32;let c35:=Ei c34 40000;t1 c2 c1 x->(Dp x c11->0<=x/\x<c11/\(∃x_7,let c36:=k2N c2 c1 x x_7;
 t2 c2 c1 x x_7/\1=1/\0=0/\0=0/\1=1/\0=0/\0=0/\1=1/\0=0/\0=0/\x=x/\dy=dy/\c11=c11/\x=x/\c30=c30/\c31=c31/\0=x_7/\Value.slice none (0) (0)=Value.slice none (0) (0)/\(0:Int)=(0:Int)/\(0:Int)=(0:Int)/\cs=cs/\ns=ns/\os=os/\fs=fs/\ls=ls/\ks=ks/\p1=p1/\p2=p2/\nx=nx/\dy=dy/\c32=Dj c36/\k1N c2 c1 x=c36/\1=1/\0=0/\0=0/\1=1/\0=0/\0=0/\True)/\∀(x_7:Int),let c37:=Du c30 (Dc x_7) [];let c38:=Df c37;let c39:=k2N c2 c1 x x_7;let c40:=Dj c39;let c41:=x_7+1;t2 c2 c1 x x_7->(Dp x_7 c31->0<=x_7/\x_7<c31/\(∃x_10,let c42:=k3N c2 c1 x x_7 x_10;t3 c2 c1 x x_7 x_10/\1=1/\0=0/\0=0/\1=1/\0=0/\0=0/\1=1/\0=0/\0=0/\x=x/\x_7=x_7/\dy=dy/\c11=c11/\x=x/\c30=c30/\c31=c31/\x_7=x_7/\c37=c37/\c38=c38/\0=x_10/\Value.slice none (0) (0)=Value.slice none (0) (0)/\(0:Int)=(0:Int)/\(0:Int)=(0:Int)/\cs=cs/\ns=ns/\os=os/\fs=fs/\ls=ls/\ks=ks/\p1=p1/\p2=p2/\nx=nx/\dy=dy/\c40=Dj c42/\c39=c42/\1=1/\0=0/\0=0/\1=1/\0=0/\0=0/\True)/\∀(x_10:Int),let c43:=Ea (Du c37 (Dc x_10) 0) (-1);let c44:=k3N c2 c1 x x_7 x_10;let c45:=Dj c44;let c46:=iP c2 c1 x x_7 x_10;let c47:=isZero c46;let c48:=keepA c2 c1 x x_7 x_10;let c49:=Ef c44 c48;let c50:=x_10+1;t3 c2 c1 x x_7 x_10->(Dp x_10 c38->0<=x_10/\x_10<c38/\(c43->(true->nb c2 c1 x x_7 x_10 c45 c44/\(c47=false->true/\true/\(Di false->True/\1=1/\0=0/\1=1/\0=0/\1=1/\0=0/\1=1/\0=0/\c6=Dt Int/\0=c7/\c46=c8/\True)/\(Di false=false->1=1/\0=0/\1=1/\0=0/\c6=Dt Int/\0=c7/\0=c8/\True)))/\((true->c47)->(nb c2 c1 x x_7 x_10 c45 c44/\c47)/\1=1/\c45<=Dj c49/\inR .i64 c50/\∃y,let c51:=k3N c2 c1 x x_7 y;
 t3 c2 c1 x x_7 y/\(1=1/\0=0/\0=0/\1=1/\0=0/\0=0/\1=1/\0=0/\0=0/\x=x/\x_7=x_7/\dy=dy/\c11=c11/\x=x/\c30=c30/\c31=c31/\x_7=x_7/\c37=c37/\c38=c38/\c50=y/\Value.slice none (0) (0)=Value.slice none (0) (0)/\(0:Int)=(0:Int)/\(0:Int)=(0:Int)/\cs=cs/\ns=ns/\os=os/\fs=fs/\ls=ls/\ks=ks/\p1=p1/\p2=p2/\nx=nx/\dy=dy/\c45+Dj c48=Dj c51/\c49=c51/\1=1/\0=0/\0=0/\1=1/\0=0/\0=0/\True)/\Dc (c38-y)<Dc (c38-x_10)))/\(c43=false->inR IntKind.i64 c50/\∃y,let c52:=k3N c2 c1 x x_7 y;t3 c2 c1 x x_7 y/\(1=1/\0=0/\0=0/\1=1/\0=0/\0=0/\1=1/\0=0/\0=0/\x=x/\x_7=x_7/\dy=dy/\c11=c11/\x=x/\c30=c30/\c31=c31/\x_7=x_7/\c37=c37/\c38=c38/\c50=y/\Value.slice none (0) (0)=Value.slice none (0) (0)/\(0:Int)=(0:Int)/\(0:Int)=(0:Int)/\cs=cs/\ns=ns/\os=os/\fs=fs/\ls=ls/\ks=ks/\p1=p1/\p2=p2/\nx=nx/\dy=dy/\c45=Dj c52/\c44=c52/\1=1/\0=0/\0=0/\1=1/\0=0/\0=0/\True)/\Dc (c38-y)<Dc (c38-x_10)))/\(Dp x_10 c38=false->inR .i64 c41/\∃y,let c53:=k2N c2 c1 x y;
 t2 c2 c1 x y/\(1=1/\0=0/\0=0/\1=1/\0=0/\0=0/\1=1/\0=0/\0=0/\x=x/\dy=dy/\c11=c11/\x=x/\c30=c30/\c31=c31/\c41=y/\Value.slice none (0) (0)=Value.slice none (0) (0)/\(0:Int)=(0:Int)/\(0:Int)=(0:Int)/\cs=cs/\ns=ns/\os=os/\fs=fs/\ls=ls/\ks=ks/\p1=p1/\p2=p2/\nx=nx/\dy=dy/\c45=Dj c53/\c44=c53/\1=1/\0=0/\0=0/\1=1/\0=0/\0=0/\True)/\Dc (c31-y)<Dc (c31-x_7)))/\(Dp x_7 c31=false->inR .i64 c33/\∃y,t1 c2 c1 y/\(1=1/\0=0/\0=0/\1=1/\0=0/\0=0/\1=1/\0=0/\0=0/\dy=dy/\c11=c11/\c33=y/\Value.slice none (0) (0)=Value.slice none (0) (0)/\(0:Int)=(0:Int)/\(0:Int)=(0:Int)/\cs=cs/\ns=ns/\os=os/\fs=fs/\ls=ls/\ks=ks/\p1=p1/\p2=p2/\nx=nx/\dy=dy/\c40=Dj (k1N c2 c1 y)/\c39=k1N c2 c1 y/\1=1/\0=0/\0=0/\1=1/\0=0/\0=0/\True)/\Dc (c11-y)<Dc (c11-x)))/\(Dp x c11=false->1=1/\1=1/\1=1/\0=0/\c32=c32/\(c35->(true->True/\(false=false->true/\true/\(Di false->True/\1=1/\0=0/\1=1/\0=0/\1=1/\0=0/\1=1/\0=0/\c6=Dt Int/\0=c7/\2=c8/\True)/\(Di false=false->1=1/\0=0/\1=1/\0=0/\c6=Dt Int/\0=c7/\0=c8/\True)))/\True)/\(c35=false->1=1/\0=0/\0=0/\1=1/\0=0/\0=0/\1=1/\0=0/\0=0/\dy=dy/\c11=c11/\x=x/\Dp x c11=Dp x c11/\1=1/\0=0/\0=0/\1=1/\0=0/\0=0/\1=1/\0=0/\10=10/\c32=c32/\k1N c2 c1 x=k1N c2 c1 x/\c34=c34/\c35=c35/\Value.slice none (0) (0)=Value.slice none (0) (0)/\(0:Int)=(0:Int)/\(0:Int)=(0:Int)/\cs=cs/\ns=ns/\os=os/\fs=fs/\ls=ls/\ks=ks/\p1=p1/\p2=p2/\nx=nx/\dy=dy/\c32=c32/\k1N c2 c1 x=k1N c2 c1 x/\1=1/\0=0/\0=0/\1=1/\0=0/\0=0/\1=1/\1=1/\1=1/\0=0/\1=1/\1=1/\1=1/\0=0/\In.PT (k1N c2 c1 x)/\1=1/\0=0/\1=1/\0=0/\true/\true/\(Di true->False)/\(Di true=false->1=1/\0=0/\1=1/\0=0/\k1N c2 c1 x=c6/\In.fO (k1N c2 c1 x)=c7/\0=c8/\True)))))))):
  evG cWr (lvA [(7,[3,4,5,6,8,10,12,13,14,15,16,17,18,53,54,55,64,65,66,70,71,72,82,83,84,89,90,91,96,97,98]),(12,[3,4,5,6,10,12,13,14,15,16,17,18,64,65,66,70,71,72,82,83,84,89,90,91,96,97,98]),(15,[3,4,5,6,10,12,13,14,15,16,17,18,64,65,66,70,71,72,82,83,84,89,90,91,96,97,98]),(21,[4,5,6,13,14,15,16,17,18,82,83,84,89,90,91,96,97,98]),(24,[4,5,6,13,14,15,16,17,18,82,83,84,89,90,91,96,97,98]),(27,[4,5,6,13,14,15,16,17,18,82,83,84,89,90,91,96,97,98])] (wrA (cs,ns,os,fs,ls,ks) (p1,p2,nx,dy))) aA 20 [net cs ns os fs ls ks,.agg [.dat I p1,.dat I p2,.dat M nx,.dat (.sl M) dy]] ⟨fq (p1,p2,nx,dy),.tup [.agg [.dat R (wrN (cs,ns,os,fs,ls,ks) (p1,p2,nx,dy)),.dat I (wrS (cs,ns,os,fs,ls,ks) (p1,p2,nx,dy))],.dat I (wrE (cs,ns,os,fs,ls,ks) (p1,p2,nx,dy))],[]⟩:=oE hvc
theorem OO: ∀args m c,JM args m=some c->af Tryz.prog G0 63 args m c:=by
 intro args m c h;unfold JM at h;split at h
 .split at h
  .rename_i e;subst e;cases h;exact W8 _
  .cases h
 .cases h
theorem TV{P:Program}{G:List (Nat×AV)}{f:FuncId}{args:List AV}{m:Mem}{c:jO}(h:af P [] f args m c): af P G f args m c:=
 λhp w D E us hD _ ha hH=>h hp w D E us hD (λp hp=>by cases hp) ha hH
theorem aFB: al Tryz.prog G0 KW7:=aj (P7 λ(_,c,o,d,_) n p k xs=>(LI c o d k xs n p).1)<|aj (ag λ(n,p,_)=>W5 n p)<|aj OO<|aj (ag λ(l,_)=>TV (Go.Eng.In.D4 l)) aES
theorem Ze: bL Tryz.prog G0 aFb:=iC (ZH λ(_,c,o,d,_) n p k xs=>(LI c o d k xs n p).2) PD
theorem sd{α:Type}{l:List α}{f:α->Li}{x:Int}(d:α)(h0:0<=x)(h1:x<l.length): (l.take (x+1).toNat).flatMap f=(l.take x.toNat).flatMap f++f (l.getD x.toNat d):=by
 rw[show(x+1).toNat=x.toNat+1 by omega,wZ,kX,qA,qB (show x.toNat<l.length by omega)]
 simp
theorem px{f:Nat->Li}{x:Int}(h0:0<=x): (List.range (x+1).toNat).flatMap f=(List.range x.toNat).flatMap f++f x.toNat:=by
 rw[show(x+1).toNat=x.toNat+1 by omega,zV,kX]
 simp
theorem t8{f:Nat->Int}{x:Int}(h0:0<=x)(h:HK ((List.range x.toNat).map f)=0)(h1:f x.toNat=0): HK ((List.range (x+1).toNat).map f)=0:=by
 refine t7 λi hi=>?_
 rw[vY,wG]at hi;rw[qA,qP,wJ hi];show f i=0;by_cases e:i<x.toNat
 .exact ew h _ (vZ.2 ⟨i,qU.2 e,rfl⟩)
 .have:i=x.toNat:=by omega
  rw[this];exact h1
theorem zd{f:Nat->Int}{k N:Nat}(hk:k<N)(h:HK ((List.range k).map f)=0)(h1:f k≠0): HK ((List.range N).map f)=f k:=by
 have eg:∀i,i<N->((List.range N).map f).getD i 0=f i:=λi hi=>by
  rw[qA,qP,wJ hi];rfl
 rw[ze (j:=k) (by simpa using hk) (λi hi=>by rw[eg i (by omega)];exact ew h _ (vZ.2 ⟨i,qU.2 hi,rfl⟩)) (by rw[eg k hk];exact h1),eg k hk]
theorem mK{α:Type}{f:α->Li}{B:Nat}: ∀{l:List α},(∀x∈l,(f x).length<=B)->(l.flatMap f).length<=l.length*B
 | [],_=>by simp
 | a::l,h=>by
  have:=mK (l:=l) λx hx=>h x (wM _ hx)
  have:=h a (vS ..);rw[yQ,qF,wS,Nat.succ_mul];omega
theorem sa(r:Li): (up1 r).length=r.length:=by unfold up1 upR;simp
structure aCx (n:Net) (p:Plan):Prop where
 m:n.2.2.2.1.length<=12
 q:n.2.2.2.2.2.length<=4
 nl:p.2.2.1.length=n.2.2.2.1.length
 nr:∀r∈p.2.2.1,r.length=n.2.2.2.1.length/\∀x∈r,-1<=x/\x<=40
 dl:p.2.2.2.length=n.2.2.2.2.2.length
 dr:∀t∈p.2.2.2,t.length=n.2.2.2.1.length/\∀r∈t,r.length=n.2.2.2.1.length/\∀x∈r,-1<=x/\x<=65518
theorem sZ{n:Net}{p:Plan}(h:lu n p): aCx n p:=by
 obtain⟨hs,hf⟩:=h;obtain⟨_,hT,hD⟩:=da hf;have hno:noF n=true:=bm n.1 n.2.1 n.2.2.1 n.2.2.2.1 n.2.2.2.2.1 n.2.2.2.2.2 hs;have o12:(n.2.2.2.1.length:Int)<=12:=(gb n.1 n.2.1 n.2.2.1 n.2.2.2.1 n.2.2.2.2.1 n.2.2.2.2.2 hno).1;have l40:(n.2.2.2.2.1.length:Int)<=40:=(jy n.1 n.2.1 n.2.2.1 n.2.2.2.1 n.2.2.2.2.1 n.2.2.2.2.2 hno).1
 have c4:(n.2.2.2.2.2.length:Int)<=4:=((kp (by decide) (λl:Cla=>l.1) gA n.2.2.2.2.2).1 (hC n.1 n.2.1 n.2.2.1 n.2.2.2.1 n.2.2.2.2.1 n.2.2.2.2.2 hno).2.2.2.2.2).1
 have hl:(p.2.2.1.length:Int)=n.2.2.2.1.length:=by
  unfold nN at hT;simp only[qC,qE]at hT;exact hT.1
 unfold pM at hD;simp only[qC,qE,qL]at hD;refine⟨by omega,by omega,by omega,λr hr=>?_,by omega,λt ht=>?_⟩
 .obtain⟨i,hi,rfl⟩:=wX.1 hr;have h1:=(pq (n:=n) hl).1 hT i (by omega)
  rw[qA,qB hi,qR]at h1;unfold rowOk at h1;simp only[qC,qE,qL]at h1;refine⟨by omega,λx hx=>?_⟩
  have h2:=h1.2 x hx;unfold aT dO at h2;simp only[zW,qC,qE]at h2;omega
 .have h1:=hD.2 t ht;have h2:(t.length:Int)=n.2.2.2.1.length:=by
   unfold sgF at h1;simp only[qC,qE]at h1;exact h1.1
  refine⟨by omega,λr hr=>?_⟩
  obtain⟨i,hi,rfl⟩:=wX.1 hr;have h3:=(A3 h2).1 h1 i (by omega)
  rw[qA,qB hi,qR]at h3;unfold sgR at h3;simp only[qC,qE,qL]at h3;refine⟨by omega,λx hx=>?_⟩
  have h4:=h3.2 x hx;unfold gC uk at h4;rw[qE]at h4;exact h4
theorem ye{m:Nat}(hm:m<=12){l:Lj}(hl:l.length<=12)(h:∀r∈l,r.length=m): (l.flatMap up1).length<=144:=by
 have h1:=mK (l:=l) (f:=up1) (B:=12) λr hr=>by rw[sa,h r hr];exact hm
 have:=vX 12 hl;omega
theorem VB{n:Net}{p:Plan}(h:aCx n p)(j:Int): (h1N n p j).length<=148:=by
 have:=ye h.m (l:=p.2.2.1.take j.toNat) (by rw[qI,h.nl];have:=h.m;omega) λr hr=>(h.nr r (kR hr)).1
 unfold h1N h4N;rw[qF];simp only[wS,yU];omega
theorem VA{n:Net}{p:Plan}(h:aCx n p)(i:Int): (h2N n p i).length<=724:=by
 have h0:=VB h p.2.2.1.length;have h1:=mK (l:=p.2.2.2.take i.toNat) (f:=λt:Lj=>t.flatMap up1) (B:=144) λt ht=>by
  obtain⟨q1,q2⟩:=h.dr t (kR ht);exact ye h.m (by rw[q1];exact h.m) λr hr=>(q2 r hr).1
 have h2:(p.2.2.2.take i.toNat).length<=4:=by rw[qI,h.dl];have:=h.q;omega
 have:=vX 144 h2;unfold h2N;rw[qF];omega
theorem aBi{n:Net}{p:Plan}(h:aCx n p){i:Int}(j:Int)(h0:0<=i)(h1:i<p.2.2.2.length): (h3N n p i j).length<=868:=by
 have h2:=VA h i;obtain⟨q1,q2⟩:=h.dr _ (getD_mem (l:=p.2.2.2) (i:=i.toNat) (d:=[]) (by omega))
 have:=ye h.m (l:=(p.2.2.2.getD i.toNat []).take j.toNat) (by rw[qI,q1];have:=h.m;omega) λr hr=>(q2 r (kR hr)).1
 unfold h3N;rw[qF];omega
theorem tO{n:Net}{p:Plan}{c o d:Int}(h:iP n p c o d=0): ∀x∈jP n p c o,CN n p c o d x=0:=λx hx=>ew h _ (vZ.2 ⟨x,hx,rfl⟩)
theorem UD{n:Net}{p:Plan}{c o d:Int}(hp:lu n p)(hc:Ao n c)(ho:0<=o/\o<n.2.2.2.1.length)(hd:0<=d/\d<n.2.2.2.1.length)(h:rG n p c o d=0): (rF n p c o d).length<=1641619:=by
 unfold rG at h;unfold rF;split
 .exact wY _
 .rename_i hne;rw[if_neg hne]at h;have hno:noF n=true:=bm n.1 n.2.1 n.2.2.1 n.2.2.2.1 n.2.2.2.2.1 n.2.2.2.2.2 hp.1;have hcp:md n p c o:=⟨⟨hno,ho⟩,hc,(da hp.2).1⟩;have:=tQ (n:=n) (p:=p) (c:=c) (o:=o) (d:=d) (k:=0) (xs:=[]) (j:=(jP n p c o).length) ⟨⟨⟨hp,hc,⟨hno,ho⟩,⟨hno,hd⟩⟩,rfl,wY _⟩,qK _,λi hi=>tO h _ (getD_mem hi)⟩
  have h2:=OH hcp;unfold keepA;omega
theorem M3{n:Net}{p:Plan}{c o:Int}{k:Nat}(hp:lu n p)(hc:Ao n c)(ho:0<=o/\o<n.2.2.2.1.length)(hk:k<=n.2.2.2.1.length)(h:Vi n p c o k=0): (Vh n p c o k).length<=19699428:=by
 have hs:=(sZ hp).m;have h1:=mK (l:=List.range k) (f:=λd:Nat=>rF n p c o (d:Int)) (B:=1641619) λd hd=>by
  have hd:=qU.1 hd;exact UD hp hc ho ⟨by omega,by omega⟩ (ew h _ (vZ.2 ⟨d,qU.2 hd,rfl⟩))
 rw[wG]at h1;have:=vX 1641619 (show k<=12 by omega)
 unfold Vh;omega
theorem aCV{n:Net}{p:Plan}(hp:lu n p){c o:Int}(hc:Ao n c)(ho:0<=o/\o<n.2.2.2.1.length): (p.2.2.2.getD c.toNat []).length=n.2.2.2.1.length/\((p.2.2.2.getD c.toNat []).getD o.toNat []).length=n.2.2.2.1.length:=by
 have hs:=sZ hp;obtain⟨c0,c1⟩:=hc;have dl:=hs.dl;obtain⟨q1,q2⟩:=hs.dr _ (getD_mem (l:=p.2.2.2) (i:=c.toNat) (d:=[]) (by omega))
 exact⟨q1,(q2 _ (getD_mem (by omega))).1⟩
theorem Ly{n:Net}{p:Plan}{c:Int}{k:Nat}(hp:lu n p)(hc:Ao n c)(hk:k<=n.2.2.2.1.length)(h:Rw n p c k=0): (U5 n p c k).length<=236393136:=by
 have hs:=(sZ hp).m;have h1:=mK (l:=List.range k) (f:=λo:Nat=>Vh n p c (o:Int) ((p.2.2.2.getD c.toNat []).getD o []).length) (B:=19699428) λo ho=>by
  have ho:=qU.1 ho;have e:=(aCV hp hc (o:=(o:Int)) ⟨by omega,by omega⟩).2
  rw[qQ]at e;exact M3 hp hc ⟨by omega,by omega⟩ (by omega) (ew h _ (vZ.2 ⟨o,qU.2 ho,rfl⟩))
 rw[wG]at h1;have:=vX 19699428 (show k<=12 by omega)
 unfold U5;omega
theorem Pn{n:Net}{p:Plan}{k:Nat}(hp:lu n p)(hk:k<=n.2.2.2.2.2.length)(h:If n p k=0): (Ku n p k).length<=945572544:=by
 have hs:=(sZ hp).q;have h1:=mK (l:=List.range k) (f:=λc:Nat=>U5 n p (c:Int) (p.2.2.2.getD c []).length) (B:=236393136) λc hc=>by
  have hc:=qU.1 hc;have hcl:Ao n (c:Int):=⟨by omega,by omega⟩
  have dl:=(sZ hp).dl;have q1:=((sZ hp).dr _ (getD_mem (l:=p.2.2.2) (i:=c) (d:=[]) (by omega))).1
  exact Ly hp hcl (by omega) (ew h _ (vZ.2 ⟨c,qU.2 hc,rfl⟩))
 rw[wG]at h1;have:=vX 236393136 (show k<=4 by omega)
 unfold Ku;omega
theorem W0(cs:LC)(ns os:LB)(fs:Lo)(ls:Ll)(ks:Lk)(p1 p2:Int)(nx:Lj)(dy:List (Lj)): af Tryz.prog G0 20 [net cs ns os fs ls ks,.agg [.dat I p1,.dat I p2,.dat M nx,.dat (.sl M) dy]] [] ⟨fq (p1,p2,nx,dy),.tup [.agg [.dat R (wrN (cs,ns,os,fs,ls,ks) (p1,p2,nx,dy)),.dat I (wrS (cs,ns,os,fs,ls,ks) (p1,p2,nx,dy))],.dat I (wrE (cs,ns,os,fs,ls,ks) (p1,p2,nx,dy))],[]⟩:=by
 refine qb (c:=cWr) aFB aL hm Ze (Qa cs ns os fs ls ks p1 p2 nx dy ⟨⟨rfl,rfl⟩,λhp=>?_⟩)
 simp only[qc,Dk,Di,qd,Dt,Ea,Dp,Ei,Df,Dc,Dj,Du,Ef,yF,yC,vV,xQ,qCr,xH];obtain⟨n,hn⟩:∃n:Net,n=(cs,ns,os,fs,ls,ks):=⟨_,rfl⟩;obtain⟨p,hpe⟩:∃p:Plan,p=(p1,p2,nx,dy):=⟨_,rfl⟩;have e1:fs=n.2.2.2.1:=by rw[hn]
 have e2:ks=n.2.2.2.2.2:=by rw[hn]
 have e3:nx=p.2.2.1:=by rw[hpe]
 have e4:dy=p.2.2.2:=by rw[hpe]
 have e5:p1=p.1:=by rw[hpe]
 have e6:p2=p.2.1:=by rw[hpe]
 rw[<- hn,<- hpe]at *;clear hn hpe;subst e1 e2 e3 e4 e5 e6;have eS:bn n=decide (((fm n).length:Int)=0):=vk;have hbad:¬(bn n=true/\fW n p=true)->wrE n p=1:=λh=>if_neg h
 have hne:wrE n p≠0->wrN n p=[]/\(0:Int)=wrS n p:=λh=>⟨if_neg h,(if_neg h).symm⟩
 refine⟨λ_=>hp,λh=>?_,λ⟨h1,h2⟩=>?_⟩
 .have:wrE n p=1:=hbad λ⟨g1,g2⟩=>by
   rw[eS,qE]at g1;rcases h with h | h
   .omega
   .rw[h]at g2;cases g2
  obtain⟨q1,q2⟩:=hne (by rw[this];decide)
  exact⟨q1,q2,this.symm⟩
 have hpl:lu n p:=⟨by rw[eS,qE];omega,h2⟩
 have hsh:=sZ hpl;have hW:wrE n p=if If n p p.2.2.2.length≠0 then If n p p.2.2.2.length else if(g9 n p).length>40000 then 2 else 0:=if_pos hpl
 have hno:noF n=true:=bm n.1 n.2.1 n.2.2.1 n.2.2.2.1 n.2.2.2.2.1 n.2.2.2.2.2 hpl.1;have rs:∀(r:Li) (xs:Li),(∀x∈r,-1<=x/\x<=65518)->r.length<=12->xs.length<=10000->rsP 1 r xs xs.length:=λr xs q1 q2 q3=>⟨⟨rfl,by omega⟩,by decide,by decide,λx hx=>by have:=q1 x hx;omega⟩
 have m12:=hsh.m;have q04:=hsh.q;have nl:=hsh.nl;have dl:=hsh.dl;refine⟨⟨rfl,by show 0+4<=1000000000000;decide⟩,by simp,⟨0,⟨hpl,qM _,by omega⟩,rfl,rfl,rfl⟩,λx ⟨_,x0,x1⟩=>⟨λhx=>?_,λhx=>⟨⟨0,⟨hpl,qM _,by omega⟩,rfl,?_,?_⟩,?_⟩⟩⟩
 .obtain⟨q1,q2⟩:=hsh.nr _ (getD_mem (l:=p.2.2.1) (i:=x.toNat) (d:=[]) (by omega))
  have e:h1N n p (x+1)=h1N n p x++up1 (p.2.2.1.getD x.toNat []):=by unfold h1N;rw[sd [] x0 hx,vU]
  refine⟨x0,hx,rs _ _ (λy hy=>by have:=q2 y hy;omega) (by omega) (by have:=VB hsh x;omega),by rw[qF];omega,aO (by omega),x+1,⟨hpl,by omega,by omega⟩,⟨rfl,by rw[e,qF];rfl,e.symm⟩,by omega⟩
 .have:x=p.2.2.1.length:=by omega
  rw[this];simp[h2N]
 .have:x=p.2.2.1.length:=by omega
  rw[this];simp[h2N]
 rintro x ⟨_,x0,x1⟩;refine⟨λhx=>⟨x0,hx,⟨0,⟨⟨hpl,x0,hx⟩,qM _,by omega⟩,rfl,by simp[h3N],by simp[h3N]⟩,λy ⟨_,y0,y1⟩=>⟨λhy=>?_,λhy=>?_⟩⟩,λhx=>⟨⟨0,⟨⟨hpl,qM _,by omega⟩,rfl⟩,rfl,?_,?_⟩,?_⟩⟩
 .obtain⟨q1,q2⟩:=hsh.dr _ (getD_mem (l:=p.2.2.2) (i:=x.toNat) (d:=[]) (by omega))
  obtain⟨q3,q4⟩:=q2 _ (getD_mem (l:=p.2.2.2.getD x.toNat []) (i:=y.toNat) (d:=[]) (by omega))
  have e:h3N n p x (y+1)=h3N n p x y++up1 ((p.2.2.2.getD x.toNat []).getD y.toNat []):=by unfold h3N;rw[sd [] y0 hy,vU]
  refine⟨y0,hy,rs _ _ q4 (by omega) (by have:=aBi hsh y x0 hx;omega),by rw[qF];omega,aO (by omega),y+1,⟨⟨hpl,x0,hx⟩,by omega,by omega⟩,⟨rfl,by rw[e,qF];rfl,e.symm⟩,by omega⟩
 .have ey:y=(p.2.2.2.getD x.toNat []).length:=by omega
  have e:h2N n p (x+1)=h3N n p x y:=by
   unfold h3N;rw[ey,qQ,yI];unfold h2N;rw[sd [] x0 hx,vU]
  exact⟨aO (by omega),x+1,⟨hpl,by omega,by omega⟩,⟨rfl,by rw[e],e.symm⟩,by omega⟩
 .have:x=p.2.2.2.length:=by omega
  rw[this];simp[k1N,hdN,Ku]
 .have:x=p.2.2.2.length:=by omega
  rw[this];simp[k1N,hdN,Ku]
 rintro x ⟨⟨_,x0,x1⟩,xa⟩;have hd2:=VA hsh p.2.2.2.length;refine⟨λhx=>?_,λhx=>?_⟩
 .have hcl:Ao n x:=⟨x0,by omega⟩
  have xt:((x.toNat:Nat):Int)=x:=by omega
  have tl:=(aCV hpl hcl (o:=0));obtain⟨tr1,_⟩:=hsh.dr _ (getD_mem (l:=p.2.2.2) (i:=x.toNat) (d:=[]) (by omega))
  refine⟨x0,hx,⟨0,⟨⟨⟨hpl,x0,hx⟩,qM _,by omega⟩,xa,rfl⟩,rfl,by simp[k2N,U5],by simp[k2N,U5]⟩,λy ⟨⟨_,y0,y1⟩,_,ya⟩=>⟨λhy=>?_,λhy=>?_⟩⟩
  .have yt:((y.toNat:Nat):Int)=y:=by omega
   obtain⟨_,tr2⟩:=aCV hpl hcl (o:=y) ⟨y0,by omega⟩
   refine⟨y0,hy,⟨0,⟨⟨⟨⟨⟨hpl,x0,hx⟩,y0,by omega⟩,hy⟩,qM _,by omega⟩,xa,ya,rfl⟩,rfl,by simp[k3N,Vh],by simp[k3N,Vh]⟩,λz ⟨⟨_,z0,z1⟩,_,_,za⟩=>⟨λhz=>?_,λhz=>?_⟩⟩
   .have zt:((z.toNat:Nat):Int)=z:=by omega
    have eD:((p.2.2.2.getD x.toNat []).getD y.toNat []).getD z.toNat 0=li p x y z:=rfl;rw[eD];have hkl:(k3N n p x y z).length<=900000000000:=by
     have l1:=Pn hpl (k:=x.toNat) (by omega) xa
     have l2:=Ly hpl hcl (k:=y.toNat) (by omega) ya
     have l3:=M3 hpl hcl (o:=y) (k:=z.toNat) ⟨y0,by omega⟩ (by omega) za
     unfold k3N k2N k1N hdN;simp only[qF];omega
    have hK:nb n p x y z (k3N n p x y z).length (k3N n p x y z):=⟨⟨hpl,hcl,⟨hno,y0,by omega⟩,⟨hno,z0,by omega⟩⟩,rfl,hkl⟩
    have step:rG n p x y z=0->(∃w,t3 n p x y w/\(z+1=w/\(k3N n p x y z).length+(rF n p x y z).length=(k3N n p x y w).length/\k3N n p x y z++rF n p x y z=k3N n p x y w)/\(((p.2.2.2.getD x.toNat []).getD y.toNat []).length-w).toNat<(((p.2.2.2.getD x.toNat []).getD y.toNat []).length-z).toNat):=λh0=>by
     have e:k3N n p x y (z+1)=k3N n p x y z++rF n p x y z:=by
      unfold k3N Vh;rw[px z0,zt,vU]
     exact⟨z+1,⟨⟨⟨⟨⟨hpl,x0,hx⟩,y0,by omega⟩,hy⟩,by omega,by omega⟩,xa,ya,t8 z0 za (by rw[zt];exact h0)⟩,⟨rfl,by rw[e,qF],e.symm⟩,by omega⟩
    refine⟨z0,hz,λhne1=>⟨⟨hK,λhz0=>?_⟩,λhz0=>⟨⟨hK,hz0⟩,by rw[qF];omega,aO (by omega),?_⟩⟩,λh1=>⟨aO (by omega),?_⟩⟩
    .have hz1:=fj.1 hz0;have c1:rG n p x y z=iP n p x y z:=if_neg hne1;have r1:Vi n p x y ((p.2.2.2.getD x.toNat []).getD y.toNat []).length=iP n p x y z:=by
      unfold Vi;rw[zd (k:=z.toNat) (by omega) za (by rw[zt,c1];exact hz1),zt,c1]
     have r2:Rw n p x (p.2.2.2.getD x.toNat []).length=iP n p x y z:=by
      unfold Rw;rw[zd (k:=y.toNat) (by omega) ya (by rw[yt,r1];exact hz1),yt,r1]
     have r3:If n p p.2.2.2.length=iP n p x y z:=by
      unfold If;rw[zd (k:=x.toNat) (by omega) xa (by rw[xt,r2];exact hz1),xt,r2]
     have r4:wrE n p=iP n p x y z:=by rw[hW,r3,if_pos hz1]
     obtain⟨q1,q2⟩:=hne (by rw[r4];exact hz1)
     exact⟨q1,q2,r4.symm⟩
    .have c1:rG n p x y z=iP n p x y z:=if_neg hne1;have c2:rF n p x y z=keepA n p x y z:=if_neg hne1;have:=step (by rw[c1];exact cZ.1 hz0)
     rw[c2]at this;exact this
    .have c1:rG n p x y z=0:=if_pos h1;have c2:rF n p x y z=[]:=if_pos h1;have:=step c1;rw[c2]at this;simpa using this
   .have ez:z=((p.2.2.2.getD x.toNat []).getD y.toNat []).length:=by omega
    have e:k2N n p x (y+1)=k3N n p x y z:=by
     unfold k3N;rw[ez,qQ];unfold k2N U5;rw[px y0,yt,vU]
    have za':Vi n p x y ((p.2.2.2.getD x.toNat []).getD y.toNat []).length=0:=by rw[ez,qQ]at za;exact za
    exact⟨aO (by omega),y+1,⟨⟨⟨hpl,x0,hx⟩,by omega,by omega⟩,xa,t8 y0 ya (by rw[yt];exact za')⟩,⟨rfl,by rw[e],e.symm⟩,by omega⟩
  .have ey:y=(p.2.2.2.getD x.toNat []).length:=by omega
   have e:k1N n p (x+1)=k2N n p x y:=by
    unfold k2N;rw[ey,qQ];unfold k1N Ku;rw[px x0,xt,vU]
   have ya':Rw n p x (p.2.2.2.getD x.toNat []).length=0:=by rw[ey,qQ]at ya;exact ya
   exact⟨aO (by omega),x+1,⟨⟨hpl,by omega,by omega⟩,t8 x0 xa (by rw[xt];exact ya')⟩,⟨rfl,by rw[e],e.symm⟩,by omega⟩
 .have ex:x=p.2.2.2.length:=by omega
  have eN:k1N n p x=g9 n p:=by unfold k1N g9;rw[ex,qQ]
  rw[ex,qQ]at xa;have hl:=Pn hpl (k:=p.2.2.2.length) (by omega) xa
  rw[eN];rw[xa,if_neg (λg=>g rfl)]at hW
  refine⟨λhgt=>?_,λhle=>?_⟩
  .rw[if_pos (by omega)]at hW
   obtain⟨q1,q2⟩:=hne (by rw[hW];decide)
   exact⟨q1,q2,hW.symm⟩
  .rw[if_neg (by omega)]at hW
   refine⟨?_,(if_pos hW).symm,(if_pos hW).symm,hW.symm⟩;show(g9 n p).length<=9223372036854775807;omega
end Go.Eng.Sv
set_option maxRecDepth 100000
noncomputable section
namespace Go.Eng.In
open Go.Proofs
abbrev Of: Ty:=.pair S (.pair I (.pair I (.pair I (.pair I (.pair I (.sl S))))))
abbrev Ln: Ty:=.pair S (.pair I (.pair I (.pair I (.pair I I))))
abbrev Kl: Ty:=.pair S (.pair I I)
abbrev N: Ty:=.pair (.sl C) (.pair (.sl S) (.pair (.sl S) (.pair (.sl Of) (.pair (.sl Ln) (.sl Kl)))))
abbrev Cal:=Int×List Bool×Li
abbrev Off:=ByteArray×Int×Int×Int×Int×Int×List ByteArray
abbrev Line:=ByteArray×Int×Int×Int×Int×Int
abbrev Cla:=ByteArray×Int×Int
abbrev Net:=List Cal×List ByteArray×List ByteArray×List Off×List Line×List Cla
def nJ(c:Cal): Bool:=dV c.1 c.2.1 c.2.2
def kb(n:Net)(o:Off): Bool:=(btw o.2.2.1 0 ((n.1.length:Int)-1)&&btw o.2.2.2.2.1 1 1000)&&btw o.2.2.2.2.2.1 1 1000
def je(n:Net)(x:Int): Bool:=btw x 0 ((n.2.2.2.1.length:Int)-1)
def ko(n:Net)(l:Line): Bool:=((je n l.2.1&&je n l.2.2.1)&&btw l.2.2.2.1 0 1439)&&btw l.2.2.2.2.1 1 100000
def kz(k:Cla): Bool:=btw k.2.1 0 1439&&btw k.2.2 0 1439
def usF(n:Net): Bool:=((n.1.all nJ&&n.2.2.2.1.all (kb n))&&n.2.2.2.2.1.all (ko n))&&n.2.2.2.2.2.all kz
def pA(n:Net): Prop:=((n.1.length<=2000000000000000/\n.2.2.2.1.length<=2000000000000000)/\n.2.2.2.2.1.length<=2000000000000000)/\n.2.2.2.2.2.length<=2000000000000000
def UG(n:Net)(k:Int): Prop:=0<=k/\k<=n.1.length/\(n.1.take k.toNat).all nJ=true
def Tc(n:Net)(k:Int): Prop:=0<=k/\k<=n.2.2.2.1.length/\(n.2.2.2.1.take k.toNat).all (kb n)=true
def TC(n:Net)(k:Int): Prop:=0<=k/\k<=n.2.2.2.2.1.length/\(n.2.2.2.2.1.take k.toNat).all (ko n)=true
def Uz(n:Net)(k:Int): Prop:=0<=k/\k<=n.2.2.2.2.2.length/\(n.2.2.2.2.2.take k.toNat).all kz=true
def aU(n:Net)(l:Int): Line:=n.2.2.2.2.1.getD l.toNat (⟨#[]⟩,0,0,0,0,0)
def ie(n:Net)(o l:Int): Bool:=decide (l=-1)||(decide (l<n.2.2.2.2.1.length)&&decide ((aU n l).2.1=o))
def lJ(n:Net)(o:Int)(r:Li): Bool:=r.all (ie n o)
def zg(n:Net)(p:Plan): Bool:=(decide (p.2.2.1.length=n.2.2.2.1.length)&&decide (p.2.2.2.length=n.2.2.2.2.2.length))&&(List.range p.2.2.1.length).all λi=>lJ n i (p.2.2.1.getD i [])
def nxP(p:Plan): Prop:=p.2.2.1.length<=2000000000000000/\∀r∈p.2.2.1,r.length<=2000000000000000/\∀x∈r,-1<=x
def aCl(n:Net)(p:Plan)(k:Int): Prop:=0<=k/\k<=p.2.2.1.length/\∀i:Nat,(i:Int)<k->lJ n i (p.2.2.1.getD i [])=true
def Tf(n:Net)(o:Int)(r:Li)(k:Int): Prop:=0<=k/\k<=r.length/\(r.take k.toNat).all (ie n o)=true
def fi(c:Li×Int): Bool:=cw c.1 c.2&&mD c.1
def rB(c:Li×Int): Int:=if cw c.1 c.2 then 190 else 180
def uN(c:Li×Int): Prop:=uH c.1
def F6(args:List AV)(m:Mem): Option jO:=match args,m with
 | [.ifc t (.dat (.int .i64) e)],[]=>if t=39 then some ⟨True,.dat I e,[]⟩else none
 | _,_=>none
def Zi: Kt:=kOr 70 F6 aFf
def c9: Cfg:=Jg Zi (λt=>t==12) KP8 (λf=>f==79||f==142)
theorem Wp(s:Int)(l:Li)(hvc:
 let c1:=(l,s);let c2:=fi c1;let c3:=chainOf (Value.iface (39) (Value.int IntKind.i64 (rB c1)));let c4:=(aw l).1;let c5:=(aw l).2;let aP:=c5.1;let c7:=c5.2;let c8:=c7.1;let c9:=c7.2;true/\(uN c1->uH l/\(true->True/\(cw l s=false->c2=false/\true/\chainOf (Value.iface (39) (Value.int IntKind.i64 (180:Int)))=c3))/\((true->cw l s)->(True/\cw l s)/\(true->dJ l/\(mD l=false->c2=false/\true/\chainOf (Value.iface (39) (Value.int IntKind.i64 (190:Int)))=c3))/\((true->mD l)->(dJ l/\mD l)/\1=1/\1=1/\0=0/\1=1/\0=0/\1=1/\0=0/\c2/\1=1/\0=0/\c4=c4/\aP=aP/\c8=c8/\c9=c9/\1=1/\0=0/\0=0/\bK l=bK l/\True)))):
  evM c9 aA 71 [.agg [.dat R l,.dat I s]] [] (.tup [.agg [.dat I (aw l).1,.dat I (aw l).2.1,.dat M (aw l).2.2.1,.dat (.sl M) (aw l).2.2.2],.ptr 1 1 0 0]) [(1,.var [.dat R (bK l)])] ⟨uN (l,s),fi (l,s),du 39 (rB (l,s))⟩:=oE hvc
theorem ZK(x:Int)(hvc:
 let c1:=btw x 0 1439;true/\(True->True/\c1=c1/\True)):
  evF (mkc Zi) aA 147 [.dat I x] [] ⟨True,.dat .bool (btw x 0 1439),[]⟩:=oE hvc
theorem ZJ(x:Int)(n:Net)(hvc:
 let c1:=Df n.2.2.2.1-1;true/\(pA n->inR .i64 c1/\True/\btw x 0 c1=je n x/\True)):
  evF (mkc Zi) aA 149 [.dat I x,.ipv (.ip N n)] [] ⟨pA n,.dat .bool (je n x),[]⟩:=oE hvc
def rH: Kt:=kOr 147 (ay [.val I] (λ_=>True) λ(x,_)=>.dat .bool (btw x 0 1439))<|kOr 149 (ay [.val I,.bp N] (λ(_,n,_)=>pA n) λ(x,n,_)=>.dat .bool (je n x)) Zi
def usA(n:Net): Ann:=⟨λid s=>match id with
 | 4=>some {α:=Int,inv:=λk=>UG n k,st:=λk=>put {fF s with mem:=[]} [(19,.dat I k),(6,.top)],μ:=λk=>Dc (Dh (Df n.1) k)}
 | 10=>some {α:=Int,inv:=λk=>Tc n k,st:=λk=>put {fF s with mem:=[]} [(32,.dat I k),(8,.top)],μ:=λk=>Dc (Dh (Df n.2.2.2.1) k)}
 | 16=>some {α:=Int,inv:=λk=>TC n k,st:=λk=>put {fF s with mem:=[]} [(64,.dat I k),(10,.top)],μ:=λk=>Dc (Dh (Df n.2.2.2.2.1) k)}
 | 22=>some {α:=Int,inv:=λk=>Uz n k,st:=λk=>put {fF s with mem:=[]} [(99,.dat I k),(12,.top)],μ:=λk=>Dc (Dh (Df n.2.2.2.2.2) k)}
 | _=>none,λ_ _=>none,λ_ _=>none⟩
theorem aCQ(n:Net)(hvc:
 let c1:=n.2.2.2;let c2:=Df n.1;let c5:=Df c1.1;let aP:=c2-1;let c10:=Df c1.2.1;let c11:=((0:Int),(0:Int));let c14:=Df c1.2.2;true/\(pA n->(∃x,UG n x/\n=n/\n=n/\n.1=n.1/\c2=c2/\0=x/\True)/\∀(x:Int),let c16:=Du n.1 (Dc x) ((0:Int),Dt Bool,Dt Int);let c18:=Di (dV c16.1 c16.2.1 c16.2.2);let c19:=x+1;UG n x->(Dp x c2->0<=x/\x<c2/\1=1/\0=0/\1=1/\0=0/\True/\(c18->false=usF n/\True)/\(c18=false->inR .i64 c19/\∃y,UG n y/\(n=n/\n=n/\n.1=n.1/\c2=c2/\c19=y/\True)/\Dc (c2-y)<Dc (c2-x)))/\(Dp x c2=false->(∃x,Tc n x/\n=n/\n=n/\c1.1=c1.1/\c5=c5/\0=x/\True)/\∀(x:Int),let c20:=(Du c1.1 (Dc x) (ByteArray.mk #[],(0:Int),(0:Int),(0:Int),(0:Int),(0:Int),Dt ByteArray)).2.2;let c21:=Di (btw c20.1 0 aP);let c22:=Di c21;let c7:=c22->c22->c22;let c24:=Eb c21 true (Di (btw c20.2.2.1 1 1000));let c25:=Di c24;let c8:=c25->c25->c25;let c26:=Eb c24 true (Di (btw c20.2.2.2.1 1 1000));let c27:=x+1;Tc n x->(Dp x c5->0<=x/\x<c5/\1=1/\0=0/\1=1/\1=1/\0=0/\inR .i64 aP/\True/\(c22->1=1)/\c7/\(c22->1=1)/\(c22->0=0)/\c7/\(c22->True)/\c7/\(Dk true c22->c22)/\(c25->1=1)/\c8/\(c25->1=1)/\(c25->0=0)/\c8/\(c25->True)/\c8/\(Dk true c25->c25)/\(c26->false=usF n/\True)/\(c26=false->inR .i64 c27/\∃y,Tc n y/\(n=n/\n=n/\c1.1=c1.1/\c5=c5/\c27=y/\True)/\Dc (c5-y)<Dc (c5-x)))/\(Dp x c5=false->(∃x,TC n x/\n=n/\n=n/\c1.2.1=c1.2.1/\c10=c10/\0=x/\True)/\∀(x:Int),let c28:=(Du c1.2.1 (Dc x) (ByteArray.mk #[],(0:Int),(0:Int),(0:Int),c11)).2;let c29:=Di (je n c28.1);let c30:=Di c29;let c3:=c30->c30->c30;let c32:=Eb c29 true (Di (je n c28.2.1));let c33:=Di c32;let c4:=c33->c33->c33;let c35:=Eb c32 true (Di (btw c28.2.2.1 0 1439));
 let c36:=Di c35;let c9:=c36->c36->c36;let c37:=Eb c35 true (Di (btw c28.2.2.2.1 1 100000));let c38:=x+1;TC n x->(Dp x c10->0<=x/\x<c10/\1=1/\0=0/\1=1/\1=1/\0=0/\pA n/\(c30->1=1)/\c3/\(c30->1=1)/\(c30->0=0)/\c3/\c3/\(c30->pA n)/\c3/\(Dk true c30->c30)/\(c33->1=1)/\c4/\(c33->1=1)/\(c33->0=0)/\c4/\c4/\(c33->True)/\c4/\(Dk true c33->c33)/\(c36->1=1)/\c9/\(c36->1=1)/\(c36->0=0)/\c9/\(c36->True)/\c9/\(Dk true c36->c36)/\(c37->false=usF n/\True)/\(c37=false->inR .i64 c38/\∃y,TC n y/\(n=n/\n=n/\c1.2.1=c1.2.1/\c10=c10/\c38=y/\True)/\Dc (c10-y)<Dc (c10-x)))/\(Dp x c10=false->(∃x,Uz n x/\c1.2.2=c1.2.2/\c14=c14/\0=x/\True)/\∀(x:Int),let c39:=(Du c1.2.2 (Dc x) (ByteArray.mk #[],c11)).2;let c40:=Di (btw c39.1 0 1439);let c41:=Di c40;let c6:=c41->c41->c41;let c42:=Eb c40 true (Di (btw c39.2 0 1439));let c43:=x+1;Uz n x->(Dp x c14->0<=x/\x<c14/\1=1/\0=0/\1=1/\1=1/\0=0/\True/\(c41->1=1)/\c6/\(c41->1=1)/\(c41->0=0)/\c6/\c6/\(c41->True)/\c6/\(Dk true c41->c41)/\(c42->false=usF n/\True)/\(c42=false->inR .i64 c43/\∃y,Uz n y/\(c1.2.2=c1.2.2/\c14=c14/\c43=y/\True)/\Dc (c14-y)<Dc (c14-x)))/\(Dp x c14=false->true=usF n/\True)))))):
  evF (mkc rH) (lvA [(4,[1,2,3,4,6,8,10,12,17,18,19,30,31,32,62,63,64,97,98,99]),(10,[1,2,3,4,8,10,12,30,31,32,62,63,64,97,98,99]),(16,[1,2,3,4,10,12,62,63,64,97,98,99]),(22,[2,3,12,97,98,99])] (usA n)) 80 [.ip N n] [] ⟨pA n,.dat .bool (usF n),[]⟩:=oE hvc
def aFv(n:Net)(p:Plan): Ann:=⟨λid s=>match id with
 | 4=>some {α:=Int,inv:=λk=>aCl n p k,st:=λk=>put (fF s) [(38,.dat I k)],μ:=λk=>Dc (Dh (Df p.2.2.1) k)}
 | 7=>match s.sig.T 5,s.sig.T 6 with
  | .dat (.int .i64) o,.dat (.sl (.int .i64)) r=>some {α:=Int,inv:=λk=>Tf n o r k,st:=λk=>put (fF s) [(45,.dat I k)],μ:=λk=>Dc (Dh (Df r) k)}
  | _,_=>none
 | _=>none,λ_ _=>none,λ_ _=>none⟩
theorem oB(n:Net)(p:Plan)(hvc:
 let c2:=n.2.2.2;let c1:=p.2.2.1;let c3:=Df c1;let c5:=Ea c3 (Df c2.1);let aP:=Di c5;let c6:=aP->aP->aP;let c8:=Eb c5 true (Ea (Df p.2.2.2) (Df c2.2.2));let c10:=Df c2.2.1;true/\(pA n/\nxP p->c6/\c6/\c6/\c6/\c6/\c6/\c6/\c6/\c6/\c6/\(Dk true aP->aP)/\(c8->false=zg n p/\True)/\(c8=false->(∃x,aCl n p x/\n=n/\c1=c1/\c3=c3/\0=x/\True)/\∀(x:Int),let c11:=Du c1 (Dc x) [];let c12:=Df c11;let c13:=x+1;aCl n p x->(Dp x c3->0<=x/\x<c3/\(∃x_3,Tf n x c11 x_3/\n=n/\x=x/\c11=c11/\c1=c1/\c3=c3/\x=x/\c11=c11/\c12=c12/\0=x_3/\True)/\∀(x_3:Int),let c14:=Du c11 (Dc x_3) 0;let c15:=Ea c14 (-1);let c7:=c15->c15->c15;let c16:=Ed c14 c10;let c9:=Di c16;let c4:=Dk c15 c9->Dk c15 c9->Dk c15 c9;let c17:=Eb c15 (Eb c16 true (Ea (Du c2.2.1 (Dc c14) (ByteArray.mk #[],(0:Int),(0:Int),(0:Int),(0:Int),(0:Int))).2.1 x)) false;let c18:=x_3+1;Tf n x c11 x_3->(Dp x_3 c12->0<=x_3/\x_3<c12/\c7/\c7/\c7/\c7/\c7/\c7/\c7/\c4/\c4/\c4/\c4/\c4/\(Dk c15 c9->0<=c14)/\(Dk c15 c9->c14<c10)/\c4/\c4/\c4/\c4/\c7/\(c15->Dk c15 c9->Dk c15 c9)/\(Dk true c15->c15)/\(c17->false=zg n p/\True)/\(c17=false->inR IntKind.i64 c18/\∃y,Tf n x c11 y/\(n=n/\x=x/\c11=c11/\c1=c1/\c3=c3/\x=x/\c11=c11/\c12=c12/\c18=y/\True)/\Dc (c12-y)<Dc (c12-x_3)))/\(Dp x_3 c12=false->inR .i64 c13/\∃y,aCl n p y/\(n=n/\c1=c1/\c3=c3/\c13=y/\True)/\Dc (c3-y)<Dc (c3-x)))/\(Dp x c3=false->true=zg n p/\True)))):
  evF (mkc rH) (lvA [(4,[0,4,5,6,8,36,37,38,43,44,45]),(7,[0,4,5,6,8,36,37,38,43,44,45])] (aFv n p)) 81 [.ip N n,.ip Pl p] [] ⟨pA n/\nxP p,.dat .bool (zg n p),[]⟩:=oE hvc
theorem JL: ∀args m c,F6 args m=some c->af Tryz.prog dU 70 args m c:=by
 intro args m c h;unfold F6 at h;split at h
 .split at h
  .rename_i e;subst e;cases h;exact aAw _
  .cases h
 .cases h
theorem KS9: al Tryz.prog dU Zi:=aj JL aEt
theorem U8(s:Int)(l:Li): af Tryz.prog dU 71 [.agg [.dat R l,.dat I s]] [] ⟨uN (l,s)/\fi (l,s)=true,.tup [.agg [.dat I (aw l).1,.dat I (aw l).2.1,.dat M (aw l).2.2.1,.dat (.sl M) (aw l).2.2.2],.ptr 1 1 0 0],[(1,.var [.dat R (bK l)])]⟩/\
  cX Tryz.prog dU 71 [.agg [.dat R l,.dat I s]] [] ⟨uN (l,s),fi (l,s),du 39 (rB (l,s))⟩:=by
 refine cn (c:=c9) KS9 aL hm aB0 (Wp s l ⟨rfl,λhp=>?_⟩)
 simp only[qc];refine⟨hp,λh=>⟨?_,?_⟩,λh=>⟨h,⟨?_,λh2=>⟨?_,?_⟩⟩,λh2=>⟨⟨?_,h2⟩,?_⟩⟩⟩
 .unfold fi;rw[h];rfl
 .unfold rB;rw[h];rfl
 .exact⟨by unfold cw at h;rw[qC]at h;exact h.1,hp⟩
 .unfold fi;rw[h2];simp
 .unfold rB;rw[h];rfl
 .exact⟨by unfold cw at h;rw[qC]at h;exact h.1,hp⟩
 .unfold fi;rw[h,h2];rfl
theorem aCY(x:Int): af Tryz.prog dU 147 [.dat I x] [] ⟨True,.dat .bool (btw x 0 1439),[]⟩:=
 ae (c:=mkc Zi) KS9 aL hm (ZK x ⟨rfl,λ_=>⟨trivial,rfl,trivial⟩⟩)
theorem aCX(x:Int)(n:Net): af Tryz.prog dU 149 [.dat I x,.ipv (.ip N n)] [] ⟨pA n,.dat .bool (je n x),[]⟩:=by
 refine ae (c:=mkc Zi) KS9 aL hm (ZJ x n ⟨rfl,λhp=>⟨aB ?_,trivial,rfl,trivial⟩⟩)
 have:=hp.1.1.2;simp only[Df];omega
theorem Zy: al Tryz.prog dU rH:=aj (ag λ(x,_)=>aCY x)<|aj (ag λ(x,n,_)=>aCX x n) KS9
theorem pd{α:Type}{p:α->Bool}{l:List α}{k:Int}(d:α)(h0:0<=k)(hk:k<l.length)(ha:(l.take k.toNat).all p=true)(hp:p (l.getD k.toNat d)=true): (l.take (k+1).toNat).all p=true:=by
 rw[show(k+1).toNat=k.toNat+1 by omega,wZ,qAa,ha]
 rw[qA,qB (by omega:k.toNat<l.length)]at hp
 rw[qB (by omega:k.toNat<l.length)]
 simpa using hp
theorem Dm{α:Type}{p:α->Bool}{l:List α}{k:Int}(d:α)(h0:0<=k)(hk:k<l.length)(hp:p (l.getD k.toNat d)=false): l.all p=false:=by
 cases e:l.all p with
 | false=>rfl
 | true=>rw[qL.1 e _ (aJ (d:=d) (by omega))]at hp;cases hp
theorem uG{α:Type}{p:α->Bool}{l:List α}{k:Int}(ha:(l.take k.toNat).all p=true)(hk:¬k<l.length): l.all p=true:=by
 rwa [qO (by omega)]at ha
theorem aFi(n:Net): af Tryz.prog dU 80 [.ip N n] [] ⟨pA n,.dat .bool (usF n),[]⟩:=by
 refine ae (c:=mkc rH) Zy aL hm (aCQ n ⟨rfl,λhp=>?_⟩)
 obtain⟨⟨⟨l1,l2⟩,l3⟩,l4⟩:=id hp;obtain⟨cs,ns,os,fs,ls,ks⟩:=n;simp only at l1 l2 l3 l4;simp only[qc,Dk,Di,qd,Dt,Dp,Df,Dc,Du];refine⟨⟨qM _,vC _,rfl⟩,λx hx=>?_⟩
 have hx0:0<=x:=hx.1;have hx1:x<=cs.length:=hx.2.1;refine⟨λhlt=>⟨hx0,hlt,λhb=>?_,λhb=>⟨aB (by omega),x+1,⟨by omega,by show x+1<=(cs.length:Int);omega,pd (0,[],[]) hx0 hlt hx.2.2 hb⟩,rfl,by omega⟩⟩,λhge=>?_⟩
 .unfold usF;rw[Dm (p:=nJ) (0,[],[]) hx0 hlt hb];rfl
 have e1:=uG hx.2.2 hge;refine⟨⟨qM _,vC _,rfl⟩,λy hy=>?_⟩
 have hy0:0<=y:=hy.1;have hy1:y<=fs.length:=hy.2.1;refine⟨λhlt=>⟨hy0,hlt,aB (by omega),λhb=>?_,λhb=>⟨aB (by omega),y+1,⟨by omega,by show y+1<=(fs.length:Int);omega,pd (⟨#[]⟩,0,0,0,0,0,[]) hy0 hlt hy.2.2 ?_⟩,rfl,by omega⟩⟩,λhge=>?_⟩
 .have:kb (cs,ns,os,fs,ls,ks) (fs.getD y.toNat (⟨#[]⟩,0,0,0,0,0,[]))=false:=by
   unfold kb;rcases hb with(h | h) | h<;>rw[h]<;>simp
  unfold usF;rw[Dm (p:=kb (cs,ns,os,fs,ls,ks)) (⟨#[]⟩,0,0,0,0,0,[]) hy0 hlt this];simp
 .unfold kb;rw[hb.1.1,hb.1.2,hb.2];rfl
 have e2:=uG hy.2.2 hge;refine⟨⟨qM _,vC _,rfl⟩,λz hz=>?_⟩
 have hz0:0<=z:=hz.1;have hz1:z<=ls.length:=hz.2.1;refine⟨λhlt=>⟨hz0,hlt,hp,λ_=>hp,λhb=>?_,λhb=>⟨aB (by omega),z+1,⟨by omega,by show z+1<=(ls.length:Int);omega,pd (⟨#[]⟩,0,0,0,0,0) hz0 hlt hz.2.2 ?_⟩,rfl,by omega⟩⟩,λhge=>?_⟩
 .have:ko (cs,ns,os,fs,ls,ks) (ls.getD z.toNat (⟨#[]⟩,0,0,0,0,0))=false:=by
   unfold ko;rcases hb with((h | h) | h) | h<;>rw[h]<;>simp
  unfold usF;rw[Dm (p:=ko (cs,ns,os,fs,ls,ks)) (⟨#[]⟩,0,0,0,0,0) hz0 hlt this];simp
 .unfold ko;rw[hb.1.1.1,hb.1.1.2,hb.1.2,hb.2];rfl
 have e3:=uG hz.2.2 hge;refine⟨⟨qM _,vC _,rfl⟩,λu hu=>?_⟩
 have hu0:0<=u:=hu.1;have hu1:u<=ks.length:=hu.2.1;refine⟨λhlt=>⟨hu0,hlt,λhb=>?_,λhb=>⟨aB (by omega),u+1,⟨by omega,by show u+1<=(ks.length:Int);omega,pd (⟨#[]⟩,0,0) hu0 hlt hu.2.2 ?_⟩,rfl,by omega⟩⟩,λhge=>?_⟩
 .have:kz (ks.getD u.toNat (⟨#[]⟩,0,0))=false:=by
   unfold kz;rcases hb with h | h<;>rw[h]<;>simp
  unfold usF;rw[Dm (p:=kz) (⟨#[]⟩,0,0) hu0 hlt this];simp
 .unfold kz;rw[hb.1,hb.2];rfl
 have e4:=uG hu.2.2 hge;unfold usF;rw[e1,e2,e3,e4];rfl
theorem aBn{n:Net}{p:Plan}{i:Nat}(hi:i<p.2.2.1.length)(h:lJ n i (p.2.2.1.getD i [])=false): zg n p=false:=by
 cases e:zg n p with
 | false=>rfl
 | true=>
  unfold zg at e;rw[qC,qL]at e;rw[e.2 i (qU.2 hi)]at h;cases h
theorem aDB(n:Net)(p:Plan): af Tryz.prog dU 81 [.ip N n,.ip Pl p] [] ⟨pA n/\nxP p,.dat .bool (zg n p),[]⟩:=by
 refine ae (c:=mkc rH) Zy aL hm (oB n p ⟨rfl,λ⟨hn,hp⟩=>?_⟩)
 obtain⟨⟨⟨l1,l2⟩,l3⟩,l4⟩:=id hn;obtain⟨cs,ns,os,fs,ls,ks⟩:=n;obtain⟨p1,p2,nx,dy⟩:=p;simp only at l1 l2 l3 l4;simp only[qc,Dk,Di,qd,Ea,Dp,Ed,Df,Dc,Du];obtain⟨q1,q2⟩:nx.length<=2000000000000000/\∀r∈nx,r.length<=2000000000000000/\∀x∈r,-1<=x:=hp;refine⟨λh=>?_,λ⟨h1,h2⟩=>⟨⟨qM _,vC _,λi hi=>by omega⟩,λx hx=>?_⟩⟩
 .unfold zg;rcases h with h | h
  .rw[vK (p:=nx.length=fs.length) (by omega)];simp
  .rw[vK (p:=dy.length=ks.length) (by omega)];simp
 have hx0:0<=x:=hx.1;have hx1:x<=nx.length:=hx.2.1;refine⟨λhlt=>⟨hx0,hlt,⟨qM _,vC _,rfl⟩,λy hy=>?_⟩,λhge=>?_⟩
 .obtain⟨r1,r2⟩:=q2 _ (aJ (l:=nx) (i:=x.toNat) (d:=[]) (by omega))
  obtain⟨r,hr⟩:∃r,r=nx.getD x.toNat []:=⟨_,rfl⟩;rw[<- hr]at r1 r2 hy ⊢;have hy0:0<=y:=hy.1;have hy1:y<=r.length:=hy.2.1;refine⟨λhlt2=>?_,λhge2=>?_⟩
  .have hv:=r2 _ (aJ (l:=r) (i:=y.toNat) (d:=0) (by omega))
   obtain⟨v,hv2⟩:∃v,v=r.getD y.toNat 0:=⟨_,rfl⟩;rw[<- hv2]at hv ⊢;have cg:ie (cs,ns,os,fs,ls,ks) x v=(decide (v=-1)||(decide (v<ls.length)&&decide ((ls.getD v.toNat (⟨#[]⟩,0,0,0,0,0)).2.1=x))):=rfl
   refine⟨hy0,hlt2,λh=>by omega,λh=>by omega,λh=>?_,λh=>⟨aB (by omega),y+1,⟨by omega,by omega,pd 0 hy0 hlt2 hy.2.2 ?_⟩,rfl,by omega⟩⟩
   .have:ie (cs,ns,os,fs,ls,ks) x v=false:=by
     rw[cg,vK h.1];rcases h.2 with h3 | h3
     .rw[vK (by omega)];rfl
     .rw[vK h3];simp
    refine(aBn (i:=x.toNat) (by show x.toNat<nx.length;omega) ?_).symm
    show lJ _ _ (nx.getD x.toNat [])=false;rw[<- hr];unfold lJ;rw[vF hx0];exact Dm 0 hy0 hlt2 (by rw[<- hv2];exact this)
   .rw[<- hv2,cg];by_cases hm:v=-1
    .rw[qW hm];rfl
    .obtain⟨g1,g2⟩:=h hm;rw[qW (p:=v<ls.length) (by omega),qW g2];simp
  .have e1:=uG hy.2.2 hge2;refine⟨aB (by omega),x+1,⟨by omega,by show x+1<=(nx.length:Int);omega,λi hi=>?_⟩,rfl,by omega⟩
   by_cases e:(i:Int)<x
   .exact hx.2.2 i e
   .have:(i:Int)=x:=by omega
    rw[this];show lJ _ _ (nx.getD i [])=true;have e2:i=x.toNat:=by omega
    rw[e2,<- hr];exact e1
 .unfold zg;rw[qW (p:=nx.length=fs.length) (by omega),qW (p:=dy.length=ks.length) (by omega)]
  symm
  simp only[zQ];exact qL.2 λi hi=>hx.2.2 i (by have:i<nx.length:=qU.1 hi;omega)
end Go.Eng.In
set_option maxRecDepth 100000
noncomputable section
namespace Go.Eng.In
open Go.Proofs
def bU(n:Net)(o:Int): Off:=n.2.2.2.1.getD o.toNat (⟨#[]⟩,0,0,0,0,0,[])
def ah(n:Net)(o:Int): Cal:=n.1.getD (bU n o).2.2.1.toNat (0,[],[])
def aM(n:Net)(k:Int): Cla:=n.2.2.2.2.2.getD k.toNat (⟨#[]⟩,0,0)
def usP(n:Net): Prop:=usF n=true/\pA n
def iD(n:Net)(o:Int): Prop:=0<=o/\o<n.2.2.2.1.length
def UA(n:Net)(k:Int): Prop:=0<=k/\k<n.2.2.2.2.2.length
def tOk(t:Int): Prop:=-3000000000<=t/\t<=3000000000
def mC(n:Net)(o t:Int): Int:=t+(bU n o).2.2.2.2.1*(bU n o).2.2.2.2.2.1
def Vn(n:Net)(o t:Int): Prop:=usP n/\iD n o/\tOk t
def cellAt(p:Plan)(o d:Int): Int:=(p.2.2.1.getD o.toNat []).getD d.toNat 0
def fG(p:Plan)(k o d:Int): Int:=((p.2.2.2.getD k.toNat []).getD o.toNat []).getD d.toNat 0
def plP(n:Net)(p:Plan): Prop:=(0<=p.1/\p.1<=p.2.1/\p.2.1<=600)/\(p.2.2.1.length=n.2.2.2.1.length/\∀r∈p.2.2.1,r.length=n.2.2.2.1.length)/\(∀i j:Int,iD n i->iD n j->ie n i (cellAt p i j)=true/\-1<=cellAt p i j)/\
 p.2.2.2.length=n.2.2.2.2.2.length/\∀t∈p.2.2.2,t.length=n.2.2.2.1.length/\∀r∈t,r.length=n.2.2.2.1.length
def dI(n:Net)(o l:Int)(p:Plan)(x t:Int): Bool:=wkF (ah n o).2.1 (ah n o).2.2 (x-2+p.1)&&decide (lh (ah n o).1 (x-2+p.1) (aU n l).2.2.2.1≥mC n o t)
def lx(n:Net)(p:Plan)(d:Int): Nat->Int->Int->Li->Bool×Int×Li
 | 0,o,t,xs=>(decide (o=d),t,xs)
 | f+1,o,t,xs=>if o=d then(true,t,xs)else if cellAt p o d=-1 then(false,t,xs)else if bq xs=false then(false,t,xs)else
  if dI n o (cellAt p o d) p (hd xs) t=true then lx n p d f (aU n (cellAt p o d)).2.2.1 (lh (ah n o).1 (hd xs-2+p.1) (aU n (cellAt p o d)).2.2.2.1+(aU n (cellAt p o d)).2.2.2.2.1) (tl xs)else(false,t,tl xs)
def uf(n:Net)(p:Plan)(o d t:Int)(xs:Li): Bool:=(lx n p d 19 o t xs).1
def ud(n:Net)(p:Plan)(o d t:Int)(xs:Li): Int:=(lx n p d 19 o t xs).2.1
def DK(n:Net)(p:Plan)(o d t:Int)(xs:Li): Li:=(lx n p d 19 o t xs).2.2
def HN(n:Net)(p:Plan)(o d t:Int)(xs:Li): Prop:=((usP n/\plP n p)/\iD n o/\iD n d)/\tOk t/\dJ xs
def TX(n:Net)(p:Plan)(d o0 t0:Int)(xs0:Li)(k o t:Int)(xs:Li): Prop:=(0<=k/\k<=19/\HN n p o d t xs)/\lx n p d (19-k).toNat o t xs=lx n p d 19 o0 t0 xs0
def Ks(c:Cal)(m t:Int): Int:=if m<cJ c.1 t then aZ c.1 t+1 else aZ c.1 t
def VE(c:Cal)(m t:Int): Option Int:=(dc c.2.1 c.2.2 (Ks c m t) (Ks c m t+59)).head?
def mV(c:Cal)(m t:Int): Bool:=(VE c m t).isSome
def HW(c:Cal)(m t:Int): Int:=(VE c m t).getD 0
def Ue(c:Cal)(t:Int): Prop:=nJ c=true/\big t
def y5(k:Nat): Prop:=k=0
def C7(n:Net)(d cut:Int): Int:=aZ (ah n d).1 cut
def BU(n:Net)(p:Plan)(k o d cut:Int)(xs:Li): Int:=HW (ah n d) (aM n k).2.2 (mC n d (ud n p o d cut xs))
def Je(n:Net)(p:Plan)(k o d cut:Int)(xs:Li): Li:=dc (ah n d).2.1 (ah n d).2.2 (C7 n d cut+1) (BU n p k o d cut xs)
def rA(n:Net)(p:Plan)(k o d cut:Int)(xs:Li): Bool:=uf n p o d cut xs&&(mV (ah n d) (aM n k).2.2 (mC n d (ud n p o d cut xs))&&(decide (BU n p k o d cut xs-C7 n d cut<=2000)&&decide (((Je n p k o d cut xs).length:Int)<=fG p k o d)))
def Vp(n:Net)(p:Plan)(k o d cut:Int)(xs:Li): Prop:=HN n p o d cut xs/\UA n k
def OR(k:Nat): Prop:=k<=4000000000000
def pO(p:Plan)(t:Int): Bool:=decide (1440*p.1<=t)&&decide (t<1440*p.2.1)
def F2(n:Net)(p:Plan)(o:Int): Li:=dc (ah n o).2.1 (ah n o).2.2 (p.1-1) (p.2.1+1)
def um(n:Net)(k o d:Int): Int:=lh (ah n o).1 d (aM n k).2.1
def gP(n:Net)(p:Plan)(k o:Int): Li:=((F2 n p o).map λd=>um n k o d).filter (pO p)
def Kr(n:Net)(p:Plan)(k o:Int)(j:Nat): Nat:=((((F2 n p o).take j).map λd=>um n k o d).filter (pO p)).length
def aBu(n:Net)(p:Plan)(k o:Int): Prop:=(usP n/\plP n p)/\iD n o/\UA n k
theorem Qw(n:Net)(p:Plan)(o t:Int)(hvc:
 let c2:=(Du n.2.2.2.1 (Dc o) (ByteArray.mk #[],(0:Int),(0:Int),(0:Int),(0:Int),(0:Int),Dt ByteArray)).2.2.2.2;let c3:=c2.1*c2.2.1;let c4:=t+c3;true/\(Vn n o t->0<=o/\o<Df n.2.2.2.1/\inR .i64 c3/\inR .i64 c4/\c4=mC n o t/\True)):
  evF (mkc rH) aA 157 [.ips [.ip N n,.ip Pl p,.top],.dat I o,.dat I t] [] ⟨Vn n o t,.dat I (mC n o t),[]⟩:=oE hvc
theorem ID(n:Net)(p:Plan)(o:Int)(hvc:
 let c2:=(Du n.2.2.2.1 (Dc o) (ByteArray.mk #[],(0:Int),(0:Int),(0:Int),(0:Int),(0:Int),Dt ByteArray)).2.2.1;true/\(usP n/\iD n o->0<=o/\o<Df n.2.2.2.1/\0<=c2/\c2<Df n.1/\Du n.1 (Dc c2) ((0:Int),Dt Bool,Dt Int)=ah n o/\True)):
  evF (mkc rH) aA 152 [.ips [.ip N n,.ip Pl p,.top],.dat I o] [] ⟨usP n/\iD n o,.ip C (ah n o),[]⟩:=oE hvc
theorem WL(n:Net)(p:Plan)(k o:Int)(hvc:
 true/\(True->n=n/\p=p/\o=o/\k=k/\True)):
  evF (mkc rH) aA 82 [.ips [.ip N n,.ip Pl p,.top],.dat I k,.dat I o] [] ⟨True,.fn 151 [.ipv (.ips [.ip N n,.ip Pl p,.top]),.ip I o,.ip I k],[]⟩:=oE hvc
def Gy: Kt:=kOr 157 (ay [.pvf N Pl,.val I,.val I] (λ((n,_),o,t,_)=>Vn n o t) λ((n,_),o,t,_)=>.dat I (mC n o t)) <|
 kOr 152 (ay [.pvf N Pl,.val I] (λ((n,_),o,_)=>usP n/\iD n o) λ((n,_),o,_)=>.ip C (ah n o)) <|
 kOr 82 (ay [.pvf N Pl,.val I,.val I] (λ_=>True) λ((n,p),k,o,_)=>.fn 151 [.ipv (.ips [.ip N n,.ip Pl p,.top]),.ip I o,.ip I k]) rH
def KI1: FuncId->List AV->Option ja:=λf caps=>if f=219 then match ofK [.ptr I,.ptr I,.bp C] caps with
 | some (a,b,c,_)=>some ⟨wdP c.2.1 c.2.2 a b,I,dc c.2.1 c.2.2 a b⟩
 | none=>none
 else none
noncomputable def Tv(K:Kt)(KI:FuncId->List AV->Option ja)(KP:KPt)(pf:FuncId->Bool): Cfg:=⟨Tryz.prog,dU,K,λ_=>false,KI,true,KP,pf⟩
def mki(K:Kt)(KI:FuncId->List AV->Option ja): Cfg:={mkc K with KI:=KI}
def aFz(n:Net)(p:Plan)(k o:Int): Zl:=⟨aA,⟨λ_ _=>none,λ_ _=>none,λid=>id==6⟩,λs=>some (frz (allNames s) s),λj=>Kr n p k o j⟩
theorem WM (n : Net) (p : Plan) (k o : Int) (hvc :
 let c1 := p.fst;
 let c2 := Ee (1440 : Int) c1;
 let c3 := p.snd;
 let c4 := c3.fst;
 let c5 := Ee (1440 : Int) c4;
 let aP := Dh c1 (1 : Int);
 let c7 := Dq c4 (1 : Int);
 let c8 := (ah n o).snd;
 let c9 := c8.fst;
 let c10 := c8.snd;
 let c11 := dc c9 c10 aP c7;
 let c12 := gP n p k o;
 let c13 := Dj c12;
 let c14 := n.snd.snd.snd.snd.snd;
 let c15 := (ah n o).fst;
 let c16 := (Du c14 (Dc k) (ByteArray.mk (Dt UInt8).toArray, (0 : Int), (0 : Int))).snd.fst; true = true ∧ true = true ∧ true = true ∧ false = false ∧ ∀
  (l : Nat), aBu n p k o → (usP n ∧ iD n o) ∧ 1 = 1 ∧ 0 = 0 ∧ inR .i64 c2 ∧ inR .i64 c5 ∧ 1 = 1 ∧ 0 = 0 ∧ 1 = 1 ∧ 0 = 0 ∧ 1 = 1 ∧ 0 = 0 ∧ inR
  IntKind.i64 aP ∧ inR .i64 c7 ∧ True ∧ l = l ∧ n = n ∧ p = p ∧ o = o ∧ k = k ∧ l = l ∧ 1 = 1 ∧ 0 = 0 ∧ AV.ip ((Ty.int IntKind.i64).pair (Ty.bool.sl.pair
  (Ty.int IntKind.i64).sl)) (ah n o) = AV.ip ((Ty.int IntKind.i64).pair (Ty.bool.sl.pair (Ty.int IntKind.i64).sl)) (ah n o) ∧ 1 = 1 ∧ 0 = 0 ∧ c2 = c2 ∧ 1 =
  1 ∧ 0 = 0 ∧ c5 = c5 ∧ n = n ∧ p = p ∧ o = o ∧ ah n o = ah n o ∧ n = n ∧ p = p ∧ n = n ∧ p = p ∧ p = p ∧ p = p ∧ p = p ∧ p = p ∧ c1 = c1 ∧ c2 = c2 ∧ n = n
  ∧ p = p ∧ n = n ∧ p = p ∧ p = p ∧ p = p ∧ p = p ∧ c3 = c3 ∧ c4 = c4 ∧ c5 = c5 ∧ ah n o = ah n o ∧ n = n ∧ p = p ∧ n = n ∧ p = p ∧ p = p ∧ p = p ∧ p = p ∧
  p = p ∧ c1 = c1 ∧ aP = aP ∧ n = n ∧ p = p ∧ n = n ∧ p = p ∧ p = p ∧ p = p ∧ p = p ∧ c3 = c3 ∧ c4 = c4 ∧ c7 = c7 ∧ aP = aP ∧ c7 = c7 ∧ ah n o = ah n o ∧
  wdP c9 c10 aP c7 ∧ Kr n p k o (0) = 0 ∧ Kr n p k o (Dj c11) = c13 ∧ ∀ (j : Nat),
 let c17 := Kr n p k o j;
 let c18 := Ec c17 (1);
 let c19 := Kr n p k o (Ec j (1)); ∀ (y : Int),
 let c20 := Ed (lh c15 y c16) c2;
 let c21 := Eb c20 (Dp (lh c15 y c16) c5) false;
 let c22 := Eb c21 (Di false) false; lX c11 j y → true = true ∧ Dl (0 : Int) k ∧ Dn k (Df c14) ∧ (big c15 ∧ big y ∧ big c16) ∧ (c20 = true →
  c20 = true → c20 = true) ∧ (c20 = true → c20 = true → c20 = true) ∧ (Dk true c20 = true → c20 = true) ∧ (c21 = true → (c21 = true → c21 = true) ∧ (c21 =
  true → c21 = true) ∧ l = l ∧ true = true ∧ lX c12 c17 (lh c15 y c16) ∧ ∀ (b : Bool),
 let c23 := Eb c21 (Di b) false; (Dk true c21 = true → c21 = true) ∧ (c23 = true → b = true → c18 = c13) ∧ (c23 = false → b = true ∧ c18 = c19)) ∧ (c21
  = false → (c21 = true → c21 = true → c21 = true) ∧ (Dk true c21 = true → c21 = true) ∧ (c22 = true → true = true → c17 = c13) ∧ (c22 = false → true = true ∧
  c17 = c19))) :
    aD6 (mki Gy KI1) (aFz n p k o) 151 [.ipv (.ips [.ip N n, .ip Pl p, .top]), .ip I o, .ip I k] ⟨aBu n p k o, I, gP n p k o⟩ := oE hvc
def aFu(n:Net)(p:Plan)(d o0 t0:Int)(xs0:Li): Ann:=⟨λid s=>match id with
 | 2=>some {α:=Int×Int×Int×Li,inv:=λx=>TX n p d o0 t0 xs0 x.1 x.2.1 x.2.2.1 x.2.2.2,st:=λx=>iM (put (fF s) [(9,.dat I x.1),(1,.dat I x.2.1),(3,.dat I x.2.2.1)]) 1 (.var [.dat R x.2.2.2]),μ:=λx=>Dc (Dh 19 x.1)}
 | _=>none,λ_ _=>none,λ_ _=>none⟩
def aB6: Kt:=kOr 207 (Vt 1 R [.mp 1] (λ_ xs=>True/\bq xs=true) (λ_ xs=>.dat I (hd xs)) λ_ xs=>tl xs) Gy
def c12: Cfg:=Jg aB6 (λ_=>false) KP6 (λf=>f==79||f==207)
theorem KX(n:Net)(p:Plan)(o d t:Int)(xs:Li)(hvc:
 let c1:=p.2.2.1;let c2:=uf n p o d t xs;let c3:=chainOf (Value.iface (39) (Value.int IntKind.i64 (190:Int)));let c4:=n.2.2.2.2.1;let c5:=p.1;let aP:=(ByteArray.mk #[],(0:Int),(0:Int),(0:Int),(0:Int),(0:Int));true/\(HN n p o d t xs->1=1/\(∃(x:Int×Int×Int×Li),let c7:=x.1;let c8:=x.2;let c9:=c8.1;let c10:=c8.2;let c11:=c10.1;let c12:=c10.2;TX n p d o t xs c7 c9 c11 c12/\n=n/\p=p/\1=1/\0=0/\0=0/\o=c9/\d=d/\t=c11/\(0:Int)=(0:Int)/\0=c7/\xs=c12/\1=1/\True)/\∀(x:Int×Int×Int×Li),let c13:=x.1;let c14:=x.2;let c15:=c14.1;let c16:=c14.2;let c17:=c16.1;let c18:=c16.2;let c19:=Ea c15 d;let c20:=Du c1 (Dc c15) [];let c21:=Dp c13 19;let c22:=Du c20 (Dc d) 0;let c23:=Eb c21 (Ea c22 (-1)) false;let c24:=bq c18;let c25:=hd c18-2;let c26:=c25+c5;let c27:=ah n c15;let c28:=c27.1;let c29:=(Du c4 (Dc c22) aP).2.2;let c30:=c29.2;let c31:=c30.1;let c32:=c27.2;let c33:=c32.1;let c34:=c32.2;let c35:=wkF c33 c34 c26;let c36:=lh c28 c26 c31;let c37:=Eb c35 (Ed c36 (mC n c15 c17)) false;let c38:=c36+c30.2.1;let c39:=c13+1;
 TX n p d o t xs c13 c15 c17 c18->(c19->0<=c15/\c15<Df c1/\0<=d/\d<Df c20/\(c21->c21->c21)/\(Dk true c21->c21)/\(true->True/\(c23=false->c2=false/\true/\c3=c3))/\((true->c23)->(True/\c23)/\0<=c22/\c22<Df c4/\(usP n/\iD n c15)/\True/\(c24->(True/\c24)/\1=1/\inR .i64 c25/\inR .i64 c26/\(big c28/\big c26/\big c31)/\wkP c33 c34 c26/\(c35->c35->c35)/\(c35->c35->c35)/\(c35->c35->c35)/\(c35->Vn n c15 c17)/\(c35->c35->c35)/\(c35->c35->c35)/\(Dk true c35->c35)/\(true->True/\(c37=false->c2=false/\true/\c3=c3))/\((true->c37)->(True/\c37)/\inR .i64 c38/\inR .i64 c39/\∃(y:Int×Int×Int×Li),let c40:=y.1;let c41:=y.2;let c42:=c41.1;let c43:=c41.2;let c44:=c43.1;let c45:=c43.2;TX n p d o t xs c40 c42 c44 c45/\(n=n/\p=p/\1=1/\0=0/\0=0/\c29.1=c42/\d=d/\c38=c44/\(0:Int)=(0:Int)/\c39=c40/\tl c18=c45/\1=1/\True)/\Dc (19-c40)<Dc (19-c13)))/\(c24=false->c2=false/\true/\c3=c3)))/\(c19=false->c2/\c17=ud n p o d t xs/\c18=DK n p o d t xs/\1=1/\True))):
  evM c12 (aFu n p d o t xs) 155 [.ips [.ip N n,.ip Pl p,.ptr 1 1 0 0],.dat I o,.dat I d,.dat I t] [(1,.var [.dat R xs])] (.dat I (ud n p o d t xs)) [(1,.var [.dat R (DK n p o d t xs)])] ⟨HN n p o d t xs,uf n p o d t xs,du 39 190⟩:=oE hvc
def aFy: Ann:=⟨λid s=>match id with
 | 5=>some {α:=Nat,inv:=λk=>y5 k,st:=λ_=>fF s,μ:=λk=>k}
 | _=>none,λ_ _=>none,λ_ _=>none⟩
theorem QT(z m t:Int)(w:List Bool)(h:Li)(hvc:
 let c1:=(z,w,h);let c2:=Dp m (cJ z t);let c3:=aZ z t+1;let c4:=c3+60;let c5:=c4-1;let aP:=dc w h c3 c5;let c7:=mV c1 m t;let c8:=chainOf (Value.iface (39) (Value.int IntKind.i64 (190:Int)));let c6:=true->True/\(false=false->c7=false/\true/\c8=c8);let c9:=aZ z t+60;let c10:=c9-1;let c11:=dc w h (aZ z t) c10;true/\(Ue c1 t->(big z/\big t)/\(c2->inR .i64 c3/\inR .i64 c4/\inR .i64 c5/\True/\wdP w h c3 c5/\(∃x,y5 x/\x=0/\c1=c1/\m=m/\t=t/\1=1/\0=0/\0=0/\c3=c3/\cJ z t=cJ z t/\aZ z t=aZ z t/\cJ z t=cJ z t/\c1=c1/\t=t/\aZ z t=aZ z t/\cJ z t=cJ z t/\aZ z t=aZ z t/\cJ z t=cJ z t/\m=m/\cJ z t=cJ z t/\c2=c2/\aZ z t=aZ z t/\c3=c3/\c1=c1/\c3=c3/\c3=c3/\c4=c4/\c5=c5/\c3=c3/\c5=c5/\c1=c1/\(0:Int)=(0:Int)/\True)/\(∀(x:Nat) (y:Int),y5 x->lX aP x y->1=1/\0=0/\c7/\1=1/\0=0/\y=HW c1 m t/\True)/\∀(x:Nat),y5 x->x=Dj aP->c6/\True)/\(c2=false->inR .i64 c9/\inR .i64 c10/\True/\wdP w h (aZ z t) c10/\(∃x,y5 x/\x=0/\c1=c1/\m=m/\t=t/\1=1/\0=0/\0=0/\aZ z t=aZ z t/\cJ z t=cJ z t/\aZ z t=aZ z t/\cJ z t=cJ z t/\c1=c1/\t=t/\aZ z t=aZ z t/\cJ z t=cJ z t/\aZ z t=aZ z t/\cJ z t=cJ z t/\m=m/\cJ z t=cJ z t/\c2=c2/\c1=c1/\aZ z t=aZ z t/\aZ z t=aZ z t/\c9=c9/\c10=c10/\aZ z t=aZ z t/\c10=c10/\c1=c1/\(0:Int)=(0:Int)/\True)/\(∀(x:Nat) (y:Int),y5 x->lX c11 x y->1=1/\0=0/\c7/\1=1/\0=0/\y=HW c1 m t/\True)/\∀(x:Nat),y5 x->x=Dj c11->c6/\True))):
  evC (Tv Gy KI1 Go.Eng.noP (λ_=>false)) aFy 156 [.ip C (z,w,h),.dat I m,.dat I t] (.dat I (HW (z,w,h) m t)) ⟨Ue (z,w,h) t,mV (z,w,h) m t,du 39 190⟩:=oE hvc
def Zj: Kt:=kOr 155 (Vt 1 R [.pv 1 N Pl,.val I,.val I,.val I] (λ((n,p),o,d,t,_) xs=>HN n p o d t xs/\uf n p o d t xs=true) (λ((n,p),o,d,t,_) xs=>.dat I (ud n p o d t xs)) λ((n,p),o,d,t,_) xs=>DK n p o d t xs) <|
 kOr 156 (ay [.ptr C,.val I,.val I] (λ(c,m,t,_)=>Ue c t/\mV c m t=true) λ(c,m,t,_)=>.dat I (HW c m t)) Gy
def aFd: KPt:=pOr 155 (Yj 1 R [.pv 1 N Pl,.val I,.val I,.val I] λ((n,p),o,d,t,_) xs=>⟨HN n p o d t xs,uf n p o d t xs,du 39 190⟩) <|
 pOr 156 (uS [.ptr C,.val I,.val I] λ(c,m,t,_)=>⟨Ue c t,mV c m t,du 39 190⟩) KPr
def c13: Cfg:=Tv Zj KI1 aFd (λf=>f==79||f==155||f==156)
def aFl: Ann:=⟨λid s=>match id with
 | 7=>match s.sig.T 15 with
  | .ptr nm _ _ _=>some {α:=Nat,inv:=λk=>OR k,st:=λk=>iM (fF s) nm (.var [.dat I (Dx k)]),μ:=λk=>k}
  | _=>none
 | _=>none,λ_ _=>none,λ_ _=>none⟩
theorem Qy(n:Net)(p:Plan)(k o d cut:Int)(xs:Li)(hvc:
 let c1:=uf n p o d cut xs;let c2:=rA n p k o d cut xs;let c3:=chainOf (Value.iface (39) (Value.int IntKind.i64 (190:Int)));let c4:=n.2.2.2.2.2;let c5:=ud n p o d cut xs;let aP:=mC n d c5;let c7:=Du c4 (Dc k) (ByteArray.mk #[],(0:Int),(0:Int));let c8:=c7.2.2;let c9:=mV (ah n d) c8 aP;let c10:=(ah n d).1;let c11:=HW (ah n d) c8 aP;let c12:=aZ c10 cut;let c13:=c11-c12;let c14:=Eh c13 2000;let c15:=c12+1;let c16:=(ah n d).2;let c17:=c16.1;let c18:=c16.2;let c19:=cJ c10 cut;let c20:=DK n p o d cut xs;let c21:=dc c17 c18 c15 c11;let c22:=p.2.2.2;let c23:=Du c22 (Dc k) (Dt (Li));let c24:=Du c23 (Dc o) [];let c25:=Du c24 (Dc d) 0;
 true/\(Vp n p k o d cut xs->1=1/\(true->HN n p o d cut xs/\(c1=false->c2=false/\true/\c3=c3))/\((true->c1)->(HN n p o d cut xs/\c1)/\1=1/\(usP n/\iD n d)/\0<=k/\k<Df c4/\Vn n d c5/\Ue (ah n d) aP/\(c9->0<=k/\k<Df c4/\Vn n d c5/\(Ue (ah n d) aP/\c9)/\(big c10/\big cut)/\inR .i64 c13/\(true->True/\(c14=false->c2=false/\true/\c3=c3))/\((true->c14)->(True/\c14)/\1=1/\0=0/\inR .i64 c15/\True/\wdP c17 c18 c15 c11/\(∃x,OR x/\x=0/\n=n/\p=p/\1=1/\0=0/\0=0/\k=k/\o=o/\d=d/\cut=cut/\c5=c5/\ah n d=ah n d/\c11=c11/\c12=c12/\c19=c19/\1=1/\0=0/\0=0/\n=n/\p=p/\1=1/\0=0/\0=0/\o=o/\d=d/\cut=cut/\c5=c5/\n=n/\p=p/\1=1/\0=0/\0=0/\d=d/\ah n d=ah n d/\ah n d=ah n d/\n=n/\p=p/\1=1/\0=0/\0=0/\n=n/\p=p/\1=1/\0=0/\0=0/\n=n/\p=p/\1=1/\0=0/\0=0/\n=n/\n=n/\c4=c4/\c4=c4/\k=k/\c7=c7/\c8=c8/\c8=c8/\n=n/\p=p/\1=1/\0=0/\0=0/\d=d/\c5=c5/\aP=aP/\c11=c11/\c12=c12/\c19=c19/\ah n d=ah n d/\cut=cut/\c12=c12/\c19=c19/\c12=c12/\c19=c19/\c11=c11/\c12=c12/\c13=c13/\c14=c14/\ah n d=ah n d/\c12=c12/\c15=c15/\c11=c11/\c15=c15/\c11=c11/\ah n d=ah n d/\c20=c20/\0=Dx x/\1=1/\True)/\(∀(x:Nat),let c26:=Dx x+1;
 ∀(y:Int),OR x->lX c21 x y->1=1/\0=0/\inR .i64 c26/\1=1/\0=0/\∃z,OR z/\z=x+(1)/\n=n/\p=p/\1=1/\0=0/\0=0/\k=k/\o=o/\d=d/\cut=cut/\c5=c5/\ah n d=ah n d/\c11=c11/\c12=c12/\c19=c19/\1=1/\0=0/\0=0/\n=n/\p=p/\1=1/\0=0/\0=0/\o=o/\d=d/\cut=cut/\c5=c5/\n=n/\p=p/\1=1/\0=0/\0=0/\d=d/\ah n d=ah n d/\ah n d=ah n d/\n=n/\p=p/\1=1/\0=0/\0=0/\n=n/\p=p/\1=1/\0=0/\0=0/\n=n/\p=p/\1=1/\0=0/\0=0/\n=n/\n=n/\c4=c4/\c4=c4/\k=k/\c7=c7/\c8=c8/\c8=c8/\n=n/\p=p/\1=1/\0=0/\0=0/\d=d/\c5=c5/\aP=aP/\c11=c11/\c12=c12/\c19=c19/\ah n d=ah n d/\cut=cut/\c12=c12/\c19=c19/\c12=c12/\c19=c19/\c11=c11/\c12=c12/\c13=c13/\c14=c14/\ah n d=ah n d/\c12=c12/\c15=c15/\c11=c11/\c15=c15/\c11=c11/\ah n d=ah n d/\c20=c20/\c26=Dx z/\1=1/\True)/\∀(x:Nat),OR x->x=Dj c21->1=1/\0=0/\0<=k/\k<Df c22/\0<=o/\o<Df c23/\0<=d/\d<Df c24/\True/\(Eh (Dx x) c25->1=1/\0=0/\0<=k/\k<Df c22/\0<=o/\o<Df c23/\0<=d/\d<Df c24/\(True/\Eh (Dx x) c25)/\c2/\c20=c20/\1=1/\True)/\(Eh (Dx x) c25=false->c2=false/\true/\c3=c3)))/\(c9=false->c2=false/\true/\c3=c3)))):
  evM c13 aFl 83 [.ips [.ip N n,.ip Pl p,.ptr 1 1 0 0],.dat I k,.dat I o,.dat I d,.dat I cut] [(1,.var [.dat R xs])] (.tup []) [(1,.var [.dat R (DK n p o d cut xs)])] ⟨Vp n p k o d cut xs,rA n p k o d cut xs,du 39 190⟩:=oE hvc
theorem GM{n:Net}(h:usP n): ((∀c∈n.1,nJ c=true)/\(∀o∈n.2.2.2.1,kb n o=true))/\(∀l∈n.2.2.2.2.1,ko n l=true)/\∀k∈n.2.2.2.2.2,kz k=true:=by
 have:=h.1;unfold usF at this;simp only[qC,qL]at this;exact⟨⟨this.1.1.1,this.1.1.2⟩,this.1.2,this.2⟩
theorem Le{n:Net}{o:Int}(h:usP n)(ho:iD n o): (0<=(bU n o).2.2.1/\(bU n o).2.2.1<n.1.length)/\(1<=(bU n o).2.2.2.2.1/\(bU n o).2.2.2.2.1<=1000)/\1<=(bU n o).2.2.2.2.2.1/\(bU n o).2.2.2.2.2.1<=1000:=by
 have:=(GM h).1.2 (bU n o) (aJ (by have:=ho.1;have:=ho.2;omega))
 unfold kb at this;simp only[qC,nL]at this;omega
theorem GL{n:Net}{o:Int}(h:usP n)(ho:iD n o): nJ (ah n o)=true:=
 (GM h).1.1 _ (aJ (by have:=(Le h ho).1;omega))
theorem Lh{n:Net}{l:Int}(h:usP n)(h0:0<=l)(h1:l<n.2.2.2.2.1.length): iD n (aU n l).2.1/\iD n (aU n l).2.2.1/\(0<=(aU n l).2.2.2.1/\(aU n l).2.2.2.1<=1439)/\1<=(aU n l).2.2.2.2.1/\(aU n l).2.2.2.2.1<=100000:=by
 have:=(GM h).2.1 (aU n l) (aJ (by omega))
 unfold ko je at this;simp only[qC,nL]at this;unfold iD;omega
theorem U2{n:Net}{k:Int}(h:usP n)(hk:UA n k): (0<=(aM n k).2.1/\(aM n k).2.1<=1439)/\0<=(aM n k).2.2/\(aM n k).2.2<=1439:=by
 have:=(GM h).2.2 (aM n k) (aJ (by have:=hk.1;have:=hk.2;omega))
 unfold kz at this;simp only[qC,nL]at this;omega
theorem mf{c:Cal}(h:nJ c=true): (-720<=c.1/\c.1<=840)/\c.2.1.length=7/\srt c.2.2:=by
 have:=(iQ.1 h).1;exact⟨⟨this.1,this.2.1⟩,this.2.2.1,Ld h⟩
theorem Vm{n:Net}{o t:Int}(h:usP n)(ho:iD n o): t+1<=mC n o t/\mC n o t<=t+1000000:=by
 obtain⟨_,⟨a1,a2⟩,b1,b2⟩:=Le h ho;unfold mC;have h1:1*1<=(bU n o).2.2.2.2.1*(bU n o).2.2.2.2.2.1:=xW a1 b1 (by decide) (by omega)
 have h2:(bU n o).2.2.2.2.1*(bU n o).2.2.2.2.2.1<=1000*1000:=xW a2 b2 (by omega) (by decide)
 omega
theorem Xf(n:Net)(p:Plan)(o t:Int): af Tryz.prog dU 157 [.ips [.ip N n,.ip Pl p,.top],.dat I o,.dat I t] [] ⟨Vn n o t,.dat I (mC n o t),[]⟩:=by
 refine ae (c:=mkc rH) Zy aL hm (Qw n p o t ⟨rfl,λ⟨hu,ho,ht⟩=>?_⟩)
 obtain⟨r1,r2⟩:=Vm (t:=t) hu ho;obtain⟨t1,t2⟩:=ht;have e:mC n o t=t+(bU n o).2.2.2.2.1*(bU n o).2.2.2.2.2.1:=rfl;refine⟨ho.1,ho.2,aB ?_,aB ?_,rfl,trivial⟩
 .show _<=(bU n o).2.2.2.2.1*(bU n o).2.2.2.2.2.1/\(bU n o).2.2.2.2.1*(bU n o).2.2.2.2.2.1<=_;omega
 .show _<=t+(bU n o).2.2.2.2.1*(bU n o).2.2.2.2.2.1/\t+(bU n o).2.2.2.2.1*(bU n o).2.2.2.2.2.1<=_;omega
theorem LZ(n:Net)(p:Plan)(o:Int): af Tryz.prog dU 152 [.ips [.ip N n,.ip Pl p,.top],.dat I o] [] ⟨usP n/\iD n o,.ip C (ah n o),[]⟩:=by
 refine ae (c:=mkc rH) Zy aL hm (ID n p o ⟨rfl,λ⟨hu,ho⟩=>?_⟩)
 have:=(Le hu ho).1;exact⟨ho.1,ho.2,this.1,this.2,rfl,trivial⟩
theorem aAs(n:Net)(p:Plan)(k o:Int): af Tryz.prog dU 82 [.ips [.ip N n,.ip Pl p,.top],.dat I k,.dat I o] [] ⟨True,.fn 151 [.ipv (.ips [.ip N n,.ip Pl p,.top]),.ip I o,.ip I k],[]⟩:=
 ae (c:=mkc rH) Zy aL hm (WL n p k o ⟨rfl,λ_=>by simp⟩)
theorem aCD: al Tryz.prog dU Gy:=aj (ag λ((n,p),o,t,_)=>Xf n p o t)<|aj (ag λ((n,p),o,_)=>LZ n p o)<|aj (ag λ((n,p),k,o,_)=>aAs n p k o) Zy
theorem mW.args {P:Program} {G:List (Nat×AV)} {gf:FuncId} {xs ys:List AV} {it:ja} (h:mW P G gf ys it) (hab:∀(C:Ctx) us,AV.relL P C xs us->AV.relL P C ys us):mW P G gf xs it:=
 λhp l J JX JP w D us hD hG hu=>h hp l J JX JP w D us hD hG (hab _ us hu)
theorem aCE: bu Tryz.prog dU KI1:=by
 intro f caps it h;unfold KI1 at h;split at h
 .rename_i e;subst e;split at h
  .rename_i a b c _ hx;cases h;exact mW.args (aCW c.1 a b c.2.1 c.2.2) λC us hu=>eZ hx hu
  .cases h
 .cases h
theorem Uj(n:Net)(p:Plan)(k o:Int): Kr n p k o (F2 n p o).length=(gP n p k o).length:=by
 unfold Kr gP;rw[qO (qK _)]
theorem OI{n:Net}{p:Plan}{k o:Int}{j:Nat}{y:Int}(h:lX (F2 n p o) j y): Kr n p k o (j+1)=Kr n p k o j+(if pO p (um n k o y)=true then 1 else 0):=by
 have h:(F2 n p o)[j]?=some y:=h;unfold Kr;rw[wZ,h,yS,yV,qF]
 congr 1
 simp only[Option.toList,zF,qCg,xO,qBq];split<;>rfl
theorem YO{n:Net}{p:Plan}{k o:Int}{j:Nat}{y:Int}(h:lX (F2 n p o) j y)(hc:pO p (um n k o y)=true): lX (gP n p k o) (Kr n p k o j) (um n k o y):=by
 have h:(F2 n p o)[j]?=some y:=h;obtain⟨hj,hy⟩:=qG.1 h;have e:F2 n p o=(F2 n p o).take j++y::(F2 n p o).drop (j+1):=by rw[<- hy,List.getElem_cons_drop,xI]
 have e2:gP n p k o=(((F2 n p o).take j).map λd=>um n k o d).filter (pO p)++((y::(F2 n p o).drop (j+1)).map λd=>um n k o d).filter (pO p):=by
  unfold gP
  conv=>lhs;rw[e]
  rw[yS,yV]
 unfold lX;rw[e2];unfold Kr;rw[qX (qK _),qAx,zF,xO,if_pos hc];rfl
theorem U0{w:List Bool}{h:Li}{a b x:Int}(hx:x∈dc w h a b): a<=x/\x<=b/\wkF w h x=true:=by
 unfold dc at hx;rw[yG,vZ]at hx;obtain⟨⟨i,hi,rfl⟩,h2⟩:=hx;have:=qU.1 hi;exact⟨by omega,by omega,h2⟩
theorem aAt (n : Net) (p : Plan) (k o : Int) : mW Tryz.prog dU 151 [.ipv (.ips [.ip N n, .ip Pl p, .top]), .ip I o, .ip I k] ⟨aBu n p k o, I, gP n p k o⟩ := by
  refine FD (c := mki Gy KI1) aCD aCE hm (WM n p k o ⟨rfl, rfl, rfl, rfl, fun l ⟨⟨hu, hp⟩, ho, hk⟩ => ?_⟩)
  obtain ⟨⟨p0, p1, p2⟩, _⟩ := hp
  have hc := GL hu ho
  obtain ⟨⟨z1, z2⟩, hw, hs⟩ := mf hc
  have hcl := U2 hu hk
  simp only [zS]
  refine ⟨⟨hu, ho⟩, aB (by simp only [Ee]; omega), aB (by simp only [Ee]; omega), aB (by simp only [Dh]; omega), aB (by simp only [Dq]; omega), ⟨hw, hs, ⟨by simp only [Dh]; omega, by simp only [Dh]; omega⟩, ⟨by simp only [Dq]; omega, by simp only [Dq]; omega⟩⟩, rfl, Uj n p k o, fun j y hy => ?_⟩
  have hy' : lX (F2 n p o) j y := hy
  have hm2 := U0 (zJ hy')
  have hk2 := OI (k := k) hy'
  have eM : lh (ah n o).1 y (aM n k).2.1 = um n k o y := rfl
  have eC : Eb (Ed (um n k o y) (Ee 1440 p.1)) (Dp (um n k o y) (Ee 1440 p.2.1)) false = pO p (um n k o y) := by
    rw [OS]; rfl
  have two : ∀ {q : Prop}, q → (q ∧ q) := fun h => ⟨h, h⟩
  refine ⟨hk.1, hk.2, ⟨⟨by omega, by omega⟩, ⟨by omega, by omega⟩, ⟨by show _ ≤ (aM n k).2.1; omega, by show (aM n k).2.1 ≤ _; omega⟩⟩, ?_⟩
  simp only [qBr, gG, zS]
  refine ⟨fun h => by simpa [Dk] using h, fun hc1 => ?_, fun hc1 => ?_⟩
  · have hin : pO p (um n k o y) = true := by rw [← eC]; exact hc1
    rw [if_pos hin] at hk2
    refine ⟨YO hy' hin, fun b => ⟨fun _ => hc1, fun h1 h2 => ?_, fun h1 => ?_⟩⟩
    · rw [h2] at h1
      rw [hc1] at h1; cases h1
    · rw [hc1] at h1
      have : b = true := by simpa [Eb, Di] using h1
      exact ⟨this, hk2.symm⟩
  · have hin : pO p (um n k o y) = false := by rw [← eC]; exact hc1
    rw [if_neg (by rw [hin]; exact Bool.false_ne_true)] at hk2
    refine ⟨fun h => by simpa [Dk] using h, ?_, ?_⟩
    · intro h
      rw [hc1] at h; cases h
    · intro _
      exact hk2.symm
theorem aBZ: al Tryz.prog dU aB6:=aj (pB λ_ xs=>(sf xs).1) aCD
theorem GV(n:Net)(p:Plan)(o d t:Int)(xs:Li): af Tryz.prog dU 155 [.ips [.ip N n,.ip Pl p,.ptr 1 1 0 0],.dat I o,.dat I d,.dat I t] [(1,.var [.dat R xs])] ⟨HN n p o d t xs/\uf n p o d t xs=true,.dat I (ud n p o d t xs),[(1,.var [.dat R (DK n p o d t xs)])]⟩/\
  cX Tryz.prog dU 155 [.ips [.ip N n,.ip Pl p,.ptr 1 1 0 0],.dat I o,.dat I d,.dat I t] [(1,.var [.dat R xs])] ⟨HN n p o d t xs,uf n p o d t xs,du 39 190⟩:=by
 refine cn (c:=c12) aBZ aL hm PG (KX n p o d t xs ⟨rfl,λhp=>?_⟩)
 simp only[qc,Dk,qd,Ea,Dp,Ed,Df,Dc,Du];refine⟨⟨(0,o,t,xs),⟨⟨qM _,show(0:Int)<=19 by decide,hp⟩,rfl⟩,rfl,rfl,rfl,rfl⟩,λ⟨k,o2,t2,ys⟩ hi=>?_⟩
 obtain⟨⟨k0,k1,hq⟩,he⟩:=hi;simp only at k0 k1 hq he;obtain⟨⟨⟨hu,hpl⟩,ho2,hd2⟩,ht2,hys⟩:=id hq;obtain⟨⟨p0,p1,p2⟩,⟨q1,q2⟩,q3,_⟩:=id hpl;obtain⟨c,ec⟩:∃c,c=cellAt p o2 d:=⟨_,rfl⟩;have eC:(p.2.2.1.getD o2.toNat []).getD d.toNat 0=c:=ec.symm;obtain⟨ln,el⟩:∃ln,ln=aU n c:=⟨_,rfl⟩;have eL:n.2.2.2.2.1.getD c.toNat (⟨#[]⟩,0,0,0,0,0)=ln:=el.symm;simp only[eC,eL];obtain⟨g1,g2⟩:=q3 o2 d ho2 hd2
 rw[<- ec]at g1 g2;have eOk:uf n p o d t xs=(lx n p d (19-k).toNat o2 t2 ys).1:=by rw[he];rfl
 have eT:ud n p o d t xs=(lx n p d (19-k).toNat o2 t2 ys).2.1:=by rw[he];rfl
 have eR:DK n p o d t xs=(lx n p d (19-k).toNat o2 t2 ys).2.2:=by rw[he];rfl
 have hf:k<19->(19-k).toNat=(19-(k+1)).toNat+1:=λh=>by omega
 have eS:∀f,lx n p d (f+1) o2 t2 ys=if o2=d then(true,t2,ys)else if c=-1 then(false,t2,ys)else if bq ys=false then(false,t2,ys)else
   if dI n o2 c p (hd ys) t2=true then lx n p d f ln.2.2.1 (lh (ah n o2).1 (hd ys-2+p.1) ln.2.2.2.1+ln.2.2.2.2.1) (tl ys)else(false,t2,tl ys):=λf=>by rw[el,ec];rfl
 have eD:dI n o2 c p (hd ys) t2=(wkF (ah n o2).2.1 (ah n o2).2.2 (hd ys-2+p.1)&&decide (lh (ah n o2).1 (hd ys-2+p.1) ln.2.2.2.1≥mC n o2 t2)):=by rw[el];rfl
 refine⟨λhne=>?_,λheq=>?_⟩
 .have hrow:=q2 _ (aJ (l:=p.2.2.1) (i:=o2.toNat) (d:=[]) (by have:=ho2.1;have:=ho2.2;omega))
  refine⟨ho2.1,by rw[q1];exact ho2.2,hd2.1,by rw[hrow];exact hd2.2,λh=>?_,λ⟨hk,hc⟩=>?_⟩
  .rw[eOk];by_cases hk:k<19
   .rw[hf hk,eS,if_neg hne,if_pos (h hk)]
   .rw[show(19-k).toNat=0 by omega]
    exact vK hne
  .have hl:c<n.2.2.2.2.1.length:=by
    unfold ie at g1;rw[vK hc,xR,qC,qE]at g1;exact g1.1
   obtain⟨_,lo,⟨m0,m1⟩,r0,r1⟩:=Lh hu (by omega:0<=c) hl
   rw[<- el]at lo m0 m1 r0 r1;obtain⟨⟨z1,z2⟩,hw,hs⟩:=mf (GL hu ho2);refine⟨⟨hk,hc⟩,by omega,hl,⟨hu,ho2⟩,λh1=>?_,λh1=>?_⟩
   .have hm1:0<=hd ys/\hd ys<=65519:=cN.1 hys.1 _ (aJ (vO h1));have hm2:-1000000<=lh (ah n o2).1 (hd ys-2+p.1) ln.2.2.2.1/\lh (ah n o2).1 (hd ys-2+p.1) ln.2.2.2.1<=100000000:=by unfold lh;omega
    refine⟨h1,aB (by omega),aB (by omega),⟨⟨by omega,by omega⟩,⟨by omega,by omega⟩,⟨by omega,by omega⟩⟩,⟨hw,hs,⟨by omega,by omega⟩⟩,λ_=>⟨hu,ho2,ht2⟩,λh=>?_,λh=>?_⟩
    .rw[eOk,hf hk,eS,if_neg hne,if_neg hc,if_neg (by rw[h1];exact Bool.noConfusion),if_neg]
     rw[eD];simpa using h
    .have hy:dI n o2 c p (hd ys) t2=true:=by rw[eD];simpa using h
     refine⟨h,aB (by omega),aB (by omega),⟨(k+1,ln.2.2.1,lh (ah n o2).1 (hd ys-2+p.1) ln.2.2.2.1+ln.2.2.2.2.1,tl ys),⟨⟨by show 0<=k+1;omega,by show k+1<=19;omega,⟨⟨hu,hpl⟩,lo,hd2⟩,⟨by show -3000000000<=_+_;omega,by show _+_<=3000000000;omega⟩,fa hys 1⟩,?_⟩,⟨rfl,rfl,rfl,rfl⟩,by show(19-(k+1)).toNat<_;omega⟩⟩
     rw[<- he,hf hk,eS,if_neg hne,if_neg hc,if_neg (by rw[h1];exact Bool.noConfusion),if_pos hy]
   .rw[eOk,hf hk,eS,if_neg hne,if_neg hc,if_pos h1]
 .have e:lx n p d (19-k).toNat o2 t2 ys=(true,t2,ys):=by
   by_cases hk:k<19
   .rw[hf hk,eS,if_pos heq]
   .rw[show(19-k).toNat=0 by omega]
    show(decide (o2=d),t2,ys)=_;rw[qW heq]
  rw[eOk,eT,eR,e];exact⟨rfl,rfl,rfl⟩
theorem LX(c:Cal)(m t:Int): af Tryz.prog dU 156 [.ip C c,.dat I m,.dat I t] [] ⟨Ue c t/\mV c m t=true,.dat I (HW c m t),[]⟩/\
  cX Tryz.prog dU 156 [.ip C c,.dat I m,.dat I t] [] ⟨Ue c t,mV c m t,du 39 190⟩:=by
 obtain⟨z,w,h⟩:=c;refine dE (c:=Tv Gy KI1 noP (λ_=>false)) aCD aCE hm qo (QT z m t w h ⟨rfl,λhp=>?_⟩)
 simp only[qc,qd,Dp,Dj];obtain⟨hc,t1,t2⟩:=id hp;obtain⟨⟨z1,z2⟩,hw,hs⟩:=mf hc;simp only at z1 z2 hw hs;have hday:-1000000000<=aZ z t/\aZ z t<=1000000000:=by unfold aZ;omega
 have key:∀b:Int,Ks (z,w,h) m t=b->(∀(x:Nat) (y:Int),y5 x->lX (dc w h b (b+60-1)) x y->mV (z,w,h) m t=true/\y=HW (z,w,h) m t)/\∀x:Nat,y5 x->x=(dc w h b (b+60-1)).length->mV (z,w,h) m t=false:=λb hb=>by
  have e:VE (z,w,h) m t=(dc w h b (b+60-1)).head?:=by
   unfold VE;rw[hb,show b+60-1=b+59 by omega]
  refine⟨λx y hx hy=>?_,λx hx hy=>?_⟩
  .have hx:x=0:=hx;have hy:(dc w h b (b+60-1))[x]?=some y:=hy;rw[hx,<- List.head?_eq_getElem?,<- e]at hy;unfold mV HW;rw[hy];exact⟨rfl,rfl⟩
  .have hx:x=0:=hx;have:dc w h b (b+60-1)=[]:=vT (by omega)
   unfold mV;rw[e,this];rfl
 refine⟨⟨⟨by omega,by omega⟩,t1,t2⟩,λhlt=>?_,λhge=>?_⟩
 .obtain⟨k1,k2⟩:=key (aZ z t+1) (by unfold Ks;exact if_pos hlt)
  exact⟨aB (by omega),aB (by omega),aB (by omega),⟨hw,hs,⟨by omega,by omega⟩,⟨by omega,by omega⟩⟩,rfl,k1,k2⟩
 .obtain⟨k1,k2⟩:=key (aZ z t) (by unfold Ks;exact if_neg hge)
  exact⟨aB (by omega),aB (by omega),⟨hw,hs,⟨by omega,by omega⟩,⟨by omega,by omega⟩⟩,rfl,k1,k2⟩
theorem VQ: al Tryz.prog dU Zj:=aj (pB λ((n,p),o,d,t,_) xs=>(GV n p o d t xs).1)<|aj (ag λ(c,m,t,_)=>(LX c m t).1) aCD
theorem Zg: bL Tryz.prog dU aFd:=iC (tw λ((n,p),o,d,t,_) xs=>(GV n p o d t xs).2)<|iC (i7 λ(c,m,t,_)=>(LX c m t).2) Ig
theorem TW{n:Net}{p:Plan}{o d t:Int}{xs:Li}(hq:HN n p o d t xs)(hc:cellAt p o d≠-1)(h1:bq xs=true): (0<=cellAt p o d/\cellAt p o d<n.2.2.2.2.1.length)/\HN n p (aU n (cellAt p o d)).2.2.1 d (lh (ah n o).1 (hd xs-2+p.1) (aU n (cellAt p o d)).2.2.2.1+(aU n (cellAt p o d)).2.2.2.2.1) (tl xs):=by
 obtain⟨⟨⟨hu,hpl⟩,ho2,hd2⟩,ht2,hys⟩:=hq;obtain⟨⟨p0,p1,p2⟩,⟨q1,q2⟩,q3,_⟩:=id hpl;obtain⟨g1,g2⟩:=q3 o d ho2 hd2;have hl:cellAt p o d<n.2.2.2.2.1.length:=by
  unfold ie at g1;rw[vK hc,xR,qC,qE]at g1;exact g1.1
 have h0:0<=cellAt p o d:=by omega
 obtain⟨_,lo,⟨m0,m1⟩,r0,r1⟩:=Lh hu h0 hl;obtain⟨⟨z1,z2⟩,hw,hs⟩:=mf (GL hu ho2);have hm1:0<=hd xs/\hd xs<=65519:=cN.1 hys.1 _ (aJ (vO h1));refine⟨⟨h0,hl⟩,⟨⟨hu,hpl⟩,lo,hd2⟩,⟨?_,?_⟩,fa hys 1⟩<;>unfold lh<;>omega
theorem FR{n:Net}{p:Plan}{d:Int}: ∀(f:Nat) {o t:Int} {xs:Li},HN n p o d t xs->tOk (lx n p d f o t xs).2.1/\dJ (lx n p d f o t xs).2.2
 | 0,o,t,xs,h=>⟨h.2.1,h.2.2⟩
 | f+1,o,t,xs,h=>by
  unfold lx;by_cases h1:o=d
  .rw[if_pos h1];exact⟨h.2.1,h.2.2⟩
  rw[if_neg h1];by_cases h2:cellAt p o d=-1
  .rw[if_pos h2];exact⟨h.2.1,h.2.2⟩
  rw[if_neg h2];by_cases h3:bq xs=false
  .rw[if_pos h3];exact⟨h.2.1,h.2.2⟩
  rw[if_neg h3];by_cases h4:dI n o (cellAt p o d) p (hd xs) t=true
  .rw[if_pos h4];exact FR f (TW h h2 (by simpa using h3)).2
  .rw[if_neg h4];exact⟨h.2.1,fa h.2.2 1⟩
theorem YM{c:Cal}{m t:Int}(h:mV c m t=true): Ks c m t<=HW c m t/\HW c m t<=Ks c m t+59:=by
 unfold mV at h;unfold HW;cases e:VE c m t with
 | none=>rw[e]at h;cases h
 | some y=>
  unfold VE at e;have:=U0 (qAz e);exact⟨this.1,this.2.1⟩
theorem ZD(w:List Bool)(h:Li)(a b:Int): (dc w h a b).length<=(b+1-a).toNat:=by
 unfold dc;refine wH (xJ _ _) ?_;rw[vY,wG];exact qK _
theorem LP(n:Net)(p:Plan)(k o d cut:Int)(xs:Li): af Tryz.prog dU 83 [.ips [.ip N n,.ip Pl p,.ptr 1 1 0 0],.dat I k,.dat I o,.dat I d,.dat I cut] [(1,.var [.dat R xs])] ⟨Vp n p k o d cut xs/\rA n p k o d cut xs=true,.tup [],[(1,.var [.dat R (DK n p o d cut xs)])]⟩/\
  cX Tryz.prog dU 83 [.ips [.ip N n,.ip Pl p,.ptr 1 1 0 0],.dat I k,.dat I o,.dat I d,.dat I cut] [(1,.var [.dat R xs])] ⟨Vp n p k o d cut xs,rA n p k o d cut xs,du 39 190⟩:=by
 refine cn (c:=c13) VQ aCE hm Zg (Qy n p k o d cut xs ⟨rfl,λhp=>?_⟩)
 simp only[qc,qd,Dt,Eh,Df,Dc,Dx,Dj,Du];obtain⟨hf,hk⟩:=id hp;obtain⟨⟨⟨hu,hpl⟩,ho,hd⟩,ht,hys⟩:=id hf;obtain⟨⟨p0,p1,p2⟩,⟨q1,q2⟩,q3,q4,q5⟩:=id hpl;obtain⟨ft,_⟩:=FR 19 hf;have hcl:=U2 hu hk;have hc:=GL hu hd;obtain⟨⟨z1,z2⟩,hw,hs⟩:=mf hc;have hr:=Vm (t:=ud n p o d cut xs) hu hd
 have ft:-3000000000<=ud n p o d cut xs/\ud n p o d cut xs<=3000000000:=ft;have ht2:-3000000000<=cut/\cut<=3000000000:=ht;have eK:n.2.2.2.2.2.getD k.toNat (⟨#[]⟩,0,0)=aM n k:=rfl;have eL:HW (ah n d) (aM n k).2.2 (mC n d (ud n p o d cut xs))=BU n p k o d cut xs:=rfl;have eB:aZ (ah n d).1 cut=C7 n d cut:=rfl
 have eN:dc (ah n d).2.1 (ah n d).2.2 (C7 n d cut+1) (BU n p k o d cut xs)=Je n p k o d cut xs:=rfl;have eY:((p.2.2.2.getD k.toNat []).getD o.toNat []).getD d.toNat 0=fG p k o d:=rfl;have eP:rA n p k o d cut xs=(uf n p o d cut xs&&(mV (ah n d) (aM n k).2.2 (mC n d (ud n p o d cut xs))&&(decide (BU n p k o d cut xs-C7 n d cut<=2000)&&decide (((Je n p k o d cut xs).length:Int)<=fG p k o d)))):=rfl
 simp only[eK,eL,eB,eN,eY];have hrp:Vn n d (ud n p o d cut xs):=⟨hu,hd,ft⟩;have hdp:Ue (ah n d) (mC n d (ud n p o d cut xs)):=⟨hc,⟨by omega,by omega⟩⟩
 have hB:-10000000<=C7 n d cut/\C7 n d cut<=10000000:=by unfold C7 aZ;omega
 refine⟨⟨hf,λh=>by rw[eP,h];rfl⟩,λh1=>⟨⟨hf,h1⟩,⟨hu,hd⟩,hk.1,hk.2,hrp,hdp,λh2=>⟨hk.1,hk.2,hrp,⟨hdp,h2⟩,⟨⟨by omega,by omega⟩,⟨by omega,by omega⟩⟩,?_⟩,λh=>by rw[eP,h1,h];rfl⟩⟩
 have hD:=YM h2;rw[eL]at hD;have hbg:aZ (ah n d).1 (mC n d (ud n p o d cut xs))<=Ks (ah n d) (aM n k).2.2 (mC n d (ud n p o d cut xs))/\Ks (ah n d) (aM n k).2.2 (mC n d (ud n p o d cut xs))<=aZ (ah n d).1 (mC n d (ud n p o d cut xs))+1:=by unfold Ks;split<;>omega
 have hbd:-10000000<=aZ (ah n d).1 (mC n d (ud n p o d cut xs))/\aZ (ah n d).1 (mC n d (ud n p o d cut xs))<=10000000:=by unfold aZ;omega
 refine⟨aB (by omega),λh=>by rw[eP,h1,h2,vK h];rfl,λh3=>⟨h3,aB (by omega),⟨hw,hs,⟨by omega,by omega⟩,⟨by omega,by omega⟩⟩,⟨0,wY _,rfl,rfl⟩,λx y hx hy=>?_,λx hx hlen=>?_⟩⟩
 .have hlt:x<(Je n p k o d cut xs).length:=(qG.1 hy).1;have:=ZD (ah n d).2.1 (ah n d).2.2 (C7 n d cut+1) (BU n p k o d cut xs);rw[eN]at this;exact⟨aB (by omega),x+1,by show x+1<=4000000000000;omega,rfl,by omega⟩
 .have hk':=hk.1;have hk2:=hk.2;have ho1:=ho.1;have ho2:=ho.2;have hd1:=hd.1;have hd2:=hd.2;obtain⟨w1,w2⟩:=q5 _ (aJ (l:=p.2.2.2) (i:=k.toNat) (d:=[]) (by omega))
  have w3:=w2 _ (aJ (l:=p.2.2.2.getD k.toNat []) (i:=o.toNat) (d:=[]) (by omega))
  refine⟨hk',by omega,ho1,by omega,hd1,by omega,λh=>⟨hk',by omega,ho1,by omega,hd1,by omega,h,?_⟩,λh=>?_⟩
  .rw[eP,h1,h2,qW h3,qW (by omega)];rfl
  .rw[eP,h1,h2,qW h3,vK (by omega)];rfl
end Go.Eng.In
set_option maxRecDepth 100000
noncomputable section
namespace Go.Eng.In
open Go.Proofs
def lv(c:Li×Int): Plan:=if fi c then aw c.1 else(0,0,[],[])
def ym(c:Li×Int): Int:=if fi c then 0 else rB c
def cellsD(p:Plan)(k o:Int): Li:=(p.2.2.2.getD k.toNat []).getD o.toNat []
def dG(p:Plan)(k:Int): Lj:=p.2.2.2.getD k.toNat []
def runN(f:Nat->Li->Option (Li)): Nat->Li->Option (Li)
 | 0,x=>some x
 | m+1,x=>(runN f m x).bind (f m)
def s7(n:Net)(p:Plan)(k o d:Int)(j:Nat)(xs:Li): Option (Li):=if rA n p k o d ((gP n p k o).getD j 0) xs=true then some (DK n p o d ((gP n p k o).getD j 0) xs)else none
def pP(n:Net)(p:Plan)(k o d:Int)(xs:Li): Option (Li):=if fG p k o d=-1 then some xs else runN (s7 n p k o d) (gP n p k o).length xs
def M5(n:Net)(p:Plan)(k o:Int)(xs:Li): Option (Li):=runN (λd=>pP n p k o (d:Int)) (cellsD p k o).length xs
def LA(n:Net)(p:Plan)(k:Int)(xs:Li): Option (Li):=runN (λo=>M5 n p k (o:Int)) (dG p k).length xs
def st1(n:Net)(p:Plan)(l:Li)(k:Int): Option (Li):=runN (λk=>LA n p (k:Int)) k.toNat l
def st2(n:Net)(p:Plan)(l:Li)(k o:Int): Option (Li):=(st1 n p l k).bind (runN (λo=>M5 n p k (o:Int)) o.toNat)
def st3(n:Net)(p:Plan)(l:Li)(k o d:Int): Option (Li):=(st2 n p l k o).bind (runN (λd=>pP n p k o (d:Int)) d.toNat)
def st4(n:Net)(p:Plan)(l:Li)(k o d:Int)(j:Nat): Option (Li):=(st3 n p l k o d).bind (runN (s7 n p k o d) j)
def rx(n:Net)(p:Plan)(l:Li): Option (Li):=st1 n p l p.2.2.2.length
def Rn(n:Net)(p:Plan)(l:Li)(k:Int)(xs:Li): Prop:=(0<=k/\k<=p.2.2.2.length)/\st1 n p l k=some xs/\dJ xs
def to2(n:Net)(p:Plan)(l:Li)(k o:Int)(xs:Li): Prop:=((0<=k/\k<p.2.2.2.length)/\0<=o/\o<=(dG p k).length)/\st2 n p l k o=some xs/\dJ xs
def to3(n:Net)(p:Plan)(l:Li)(k o d:Int)(xs:Li): Prop:=((0<=k/\k<p.2.2.2.length)/\(0<=o/\o<(dG p k).length)/\0<=d/\d<=(cellsD p k o).length)/\st3 n p l k o d=some xs/\dJ xs
def to4(n:Net)(p:Plan)(l:Li)(k o d j:Int)(xs:Li): Prop:=0<=j/\st4 n p l k o d j.toNat=some xs/\dJ xs
def A2(l:Li): Bool:=decide (l.length<=40000)
def lZ(n:Net)(l:Li): Bool:=zg n (aw l)&&A2 l
def aCf(n:Net)(l:Li): Int:=if rx n (aw l) (bK l)=some []then 0 else 190
def dw(n:Net)(l:Li)(s:Int): Int:=if fi (l,s)=true then if usF n=true then if lZ n l=true then aCf n l else 190 else 1 else rB (l,s)
def Yd(args:List AV)(m:Mem): Option jO:=match args,m with
 | [.agg [.dat (.sl (.int .i64)) l,.dat (.int .i64) s]],[]=>some ⟨uN (l,s)/\fi (l,s)=true,.tup [.agg [.dat I (aw l).1,.dat I (aw l).2.1,.dat M (aw l).2.2.1,.dat (.sl M) (aw l).2.2.2],.ptr 1 1 0 0],[(1,.var [.dat R (bK l)])]⟩
 | _,_=>none
def UX: Kt:=kOr 71 Yd <|
 kOr 80 (ay [.ptr N] (λ(n,_)=>pA n) λ(n,_)=>.dat .bool (usF n)) <|
 kOr 81 (ay [.ptr N,.ptr Pl] (λ(n,p,_)=>pA n/\nxP p) λ(n,p,_)=>.dat .bool (zg n p)) <|
 kOr 83 (Vt 1 R [.pv 1 N Pl,.val I,.val I,.val I,.val I] (λ((n,p),k,o,d,cut,_) xs=>Vp n p k o d cut xs/\rA n p k o d cut xs=true) (λ_ _=>.tup []) λ((n,p),k,o,d,cut,_) xs=>DK n p o d cut xs) Zj
def aEz: KPt:=pOr 71 (uS [.row Ce] λ(c,_)=>⟨uN c,fi c,du 39 (rB c)⟩) <|
 pOr 83 (Yj 1 R [.pv 1 N Pl,.val I,.val I,.val I,.val I] λ((n,p),k,o,d,cut,_) xs=>⟨Vp n p k o d cut xs,rA n p k o d cut xs,du 39 190⟩) KPr
def KI2: FuncId->List AV->Option ja:=λf caps=>if f=151 then match ofK [.pvb N Pl,.ptr I,.ptr I] caps with
 | some ((n,p),o,k,_)=>some ⟨aBu n p k o,I,gP n p k o⟩
 | none=>none
 else KI1 f caps
def c14: Cfg:=Jg UX (λ_=>false) aEz (λf=>f==79||f==71)
def c15: Cfg:=Tv UX KI2 aEz (λf=>f==79||f==71||f==83)
theorem WV(s:Int)(l:Li)(hvc:
 let c1:=(l,s);let c2:=fi c1;let c3:=lv c1;let c4:=c3.1;let c5:=c3.2;let aP:=c5.1;let c7:=c5.2;let c8:=c7.1;let c9:=c7.2;let c10:=ym c1;let c11:=(aw l).2;let c12:=c11.2;(false=false/\true)/\(uH l->true/\(true->uN c1/\(c2=false->true/\true/\(Di false->True/\1=1/\0=0/\1=1/\0=0/\1=1/\0=0/\1=1/\0=0/\0=c4/\0=aP/\c8=Dt (Li)/\c9=Dt (List (List Int))/\rB c1=c10/\True)/\(Di false=false->1=1/\0=0/\1=1/\0=0/\0=c4/\0=aP/\c8=Dt (Li)/\c9=Dt (Lj)/\0=c10/\True)))/\((true->c2)->(uN c1/\c2)/\1=1/\0=0/\1=1/\0=0/\1=1/\0=0/\1=1/\0=0/\true/\true/\(Di true->False)/\(Di true=false->1=1/\0=0/\1=1/\0=0/\(aw l).1=c4/\c11.1=aP/\c12.1=c8/\c12.2=c9/\0=c10/\True)))):
  evG c14 aA aA 21 [.agg [.dat R l,.dat I s]] ⟨uH l,.tup [.agg [.dat I (lv (l,s)).1,.dat I (lv (l,s)).2.1,.dat M (lv (l,s)).2.2.1,.dat (.sl M) (lv (l,s)).2.2.2],.dat I (ym (l,s))],[]⟩:=oE hvc
def keep(s:St)(x:Li): St:={fF s with mem:=tu (s.mem.filter λb=>b.1<=2) 1 (.var [.dat R x])}
def aFA(n:Net)(l:Li): Ann:=⟨λid s=>match id with
 | 7=>some {α:=Int×Li,inv:=λx=>Rn n (aw l) (bK l) x.1 x.2,st:=λx=>iM (put (fF s) [(37,.dat I x.1)]) 1 (.var [.dat R x.2]),μ:=λx=>Dc (Dh (Df (aw l).2.2.2) x.1)}
 | 10=>match s.sig.T 39 with
  | .dat (.int .i64) k=>some {α:=Int×Li,inv:=λx=>to2 n (aw l) (bK l) k x.1 x.2,st:=λx=>iM (put (fF s) [(44,.dat I x.1)]) 1 (.var [.dat R x.2]),μ:=λx=>Dc (Dh (Df (dG (aw l) k)) x.1)}
  | _=>none
 | 13=>match s.sig.T 39,s.sig.T 46 with
  | .dat (.int .i64) k,.dat (.int .i64) o=>some {α:=Int×Li,inv:=λx=>to3 n (aw l) (bK l) k o x.1 x.2,st:=λx=>iM (put (fF s) [(51,.dat I x.1)]) 1 (.var [.dat R x.2]),μ:=λx=>Dc (Dh (Df (cellsD (aw l) k o)) x.1)}
  | _,_=>none
 | 17=>match s.sig.T 39,s.sig.T 46,s.sig.T 53 with
  | .dat (.int .i64) k,.dat (.int .i64) o,.dat (.int .i64) d=>some {α:=Int×Li,inv:=λx=>to4 n (aw l) (bK l) k o d x.1 x.2,st:=λx=>iM (fF s) 1 (.var [.dat R x.2]),μ:=λx=>Dc x.1}
  | _,_,_=>none
 | _=>none,λid s=>match id with
 | 3=>some (put {s with mem:=s.mem.filter λb=>b.1 != 2} [(5,.ip Pl (aw l))])
 | _=>none,λ_ _=>none⟩
set_option maxHeartbeats 4000000 in
theorem Q9(s:Int)(l:Li)(cs:List Cal)(ns ps:List ByteArray)(os:List Off)(ls:List Line)(ks:List Cla)(hvc:
 let c1:=(cs,ns,ps,os,ls,ks);let c2:=(l,s);let c3:=fi c2;let c4:=dw c1 l s;let c5:=(aw l).1;let aP:=(aw l).2;let c7:=aP.1;let c8:=aP.2;let c9:=c8.1;let c10:=c8.2;let c11:=usF c1;let c12:=zg c1 (aw l);let c13:=Eb c12 (Eh (Df l) 40000) false;let c14:=Df c10;
 (true/\true)/\(uH l/\pA c1->true/\(true->uN c2/\(c3=false->true/\true/\(Di false->True/\1=1/\0=0/\1=1/\0=0/\rB c2=c4/\True)/\(Di false=false->1=1/\0=0/\0=c4/\True)))/\((true->c3)->(uN c2/\c3)/\1=1/\0=0/\cs=cs/\ns=ns/\ps=ps/\os=os/\ls=ls/\ks=ks/\l=l/\s=s/\c1=c1/\c2=c2/\1=1/\0=0/\0=0/\1=1/\0=0/\(c5,c7,c9,c10)=aw l/\1=1/\0=0/\0=0/\undef=undef/\undef=undef/\undef=undef/\undef=undef/\undef=undef/\undef=undef/\undef=undef/\undef=undef/\1=1/\0=0/\0=0/\c5=c5/\c7=c7/\c9=c9/\c10=c10/\1=1/\0=0/\0=0/\l=l/\s=s/\c5=c5/\c7=c7/\c9=c9/\c10=c10/\1=1/\0=0/\0=0/\c5=c5/\c7=c7/\c9=c9/\c10=c10/\1=1/\0=0/\0=0/\undef=undef/\undef=undef/\undef=undef/\undef=undef/\undef=undef/\undef=undef/\undef=undef/\undef=undef/\undef=undef/\undef=undef/\undef=undef/\undef=undef/\undef=undef/\undef=undef/\undef=undef/\undef=undef/\undef=undef/\undef=undef/\undef=undef/\undef=undef/\undef=undef/\undef=undef/\undef=undef/\undef=undef/\undef=undef/\undef=undef/\undef=undef/\undef=undef/\undef=undef/\undef=undef/\undef=undef/\undef=undef/\undef=undef/\undef=undef/\undef=undef/\undef=undef/\undef=undef/\undef=undef/\undef=undef/\undef=undef/\undef=undef/\undef=undef/\undef=undef/\undef=undef/\undef=undef/\undef=undef/\undef=undef/\undef=undef/\undef=undef/\undef=undef/\undef=undef/\undef=undef/\undef=undef/\undef=undef/\undef=undef/\undef=undef/\undef=undef/\undef=undef/\(0:Int)=(0:Int)/\bK l=bK l/\1=1/\0=0/\0=0/\pA c1/\(true->True/\(c11=false->true/\true/\(Di false->True/\1=1/\0=0/\1=1/\0=0/\1=c4/\True)/\(Di false=false->1=1/\0=0/\0=c4/\True)))/\((true->c11)->(True/\c11)/\(pA c1/\nxP (aw l))/\(c12->c12->c12)/\(c12->c12->c12)/\(c12->c12->c12)/\(Dk true c12->c12)/\(true->True/\(c13=false->true/\true/\
 (Di false->True/\1=1/\0=0/\1=1/\0=0/\190=c4/\True)/\(Di false=false->1=1/\0=0/\0=c4/\True)))/\((true->c13)->(True/\c13)/\1=1/\1=1/\1=1/\0=0/\(∃(x:Int×Li),let c15:=x.1;let c16:=x.2;Rn c1 (aw l) (bK l) c15 c16/\cs=cs/\ns=ns/\ps=ps/\os=os/\ls=ls/\ks=ks/\l=l/\s=s/\c1=c1/\c2=c2/\1=1/\0=0/\0=0/\aw l=aw l/\1=1/\0=0/\0=0/\1=1/\0=0/\0=0/\1=1/\0=0/\0=0/\c5=c5/\c7=c7/\c9=c9/\c10=c10/\1=1/\0=0/\0=0/\l=l/\s=s/\c5=c5/\c7=c7/\c9=c9/\c10=c10/\1=1/\0=0/\0=0/\c5=c5/\c7=c7/\c9=c9/\c10=c10/\1=1/\0=0/\0=0/\c11=c11/\c12=c12/\c12=c12/\c13=c13/\1=1/\0=0/\0=0/\c1=c1/\aw l=aw l/\1=1/\0=0/\0=0/\c1=c1/\aw l=aw l/\1=1/\0=0/\0=0/\c10=c10/\c10=c10/\c14=c14/\0=c15/\(0:Int)=(0:Int)/\bK l=c16/\c1=c1/\aw l=aw l/\1=1/\0=0/\0=0/\1=1/\0=0/\0=0/\True)/\∀(x:Int×Li),let c17:=x.1;let c18:=x.2;let c19:=Dp c17 c14;let c20:=Du c10 (Dc c17) (Dt (Li));let c21:=Df c20;let c22:=Df (dG (aw l) c17);let c23:=c17+1;let c24:=Dy (Df c18) 0;Rn c1 (aw l) (bK l) c17 c18->(c19->0<=c17/\c17<c14/\1=1/\0=0/\(∃(x:Int×Li),let c25:=x.1;let c26:=x.2;to2 c1 (aw l) (bK l) c17 c25 c26/\cs=cs/\ns=ns/\ps=ps/\os=os/\ls=ls/\ks=ks/\l=l/\s=s/\c1=c1/\c2=c2/\1=1/\0=0/\0=0/\aw l=aw l/\1=1/\0=0/\0=0/\1=1/\0=0/\0=0/\1=1/\0=0/\0=0/\c20=c20/\1=1/\0=0/\0=0/\c5=c5/\c7=c7/\c9=c9/\c10=c10/\1=1/\0=0/\0=0/\l=l/\s=s/\c5=c5/\c7=c7/\c9=c9/\c10=c10/\1=1/\0=0/\0=0/\c5=c5/\c7=c7/\c9=c9/\c10=c10/\1=1/\0=0/\0=0/\c11=c11/\c12=c12/\c12=c12/\c13=c13/\1=1/\0=0/\0=0/\c1=c1/\aw l=aw l/\1=1/\0=0/\0=0/\c1=c1/\aw l=aw l/\1=1/\0=0/\0=0/\c10=c10/\c10=c10/\c14=c14/\c17=c17/\c19=c19/\c17=c17/\c20=c20/\c20=c20/\c20=c20/\c21=c21/\0=c25/\(0:Int)=(0:Int)/\c18=c26/\c1=c1/\aw l=aw l/\1=1/\0=0/\0=0/\c17=c17/\1=1/\0=0/\0=0/\True)/\∀(x:Int×Li),let c27:=x.1;let c28:=x.2;
 let c29:=Dp c27 c21;let c30:=Du c20 (Dc c27) [];let c31:=Df c30;let c32:=Df (cellsD (aw l) c17 c27);let c33:=gP c1 (aw l) c17 c27;let c34:=c27+1;to2 c1 (aw l) (bK l) c17 c27 c28->(c29->0<=c27/\c27<c21/\1=1/\0=0/\(∃(x:Int×List Int),let c35:=x.1;let c36:=x.2;to3 c1 (aw l) (bK l) c17 c27 c35 c36/\cs=cs/\ns=ns/\ps=ps/\os=os/\ls=ls/\ks=ks/\l=l/\s=s/\c1=c1/\c2=c2/\1=1/\0=0/\0=0/\aw l=aw l/\1=1/\0=0/\0=0/\1=1/\0=0/\0=0/\1=1/\0=0/\0=0/\c20=c20/\1=1/\0=0/\0=0/\c30=c30/\1=1/\0=0/\0=0/\c5=c5/\c7=c7/\c9=c9/\c10=c10/\1=1/\0=0/\0=0/\l=l/\s=s/\c5=c5/\c7=c7/\c9=c9/\c10=c10/\1=1/\0=0/\0=0/\c5=c5/\c7=c7/\c9=c9/\c10=c10/\1=1/\0=0/\0=0/\c11=c11/\c12=c12/\c12=c12/\c13=c13/\1=1/\0=0/\0=0/\c1=c1/\aw l=aw l/\1=1/\0=0/\0=0/\c1=c1/\aw l=aw l/\1=1/\0=0/\0=0/\c10=c10/\c10=c10/\c14=c14/\c17=c17/\c19=c19/\c17=c17/\c20=c20/\c20=c20/\c20=c20/\c21=c21/\c27=c27/\c29=c29/\c27=c27/\c30=c30/\c30=c30/\c30=c30/\c31=c31/\0=c35/\(0:Int)=(0:Int)/\c28=c36/\c1=c1/\aw l=aw l/\1=1/\0=0/\0=0/\c17=c17/\c27=c27/\1=1/\0=0/\0=0/\True)/\∀(x:Int×Li),let c37:=x.1;let c38:=x.2;let c39:=Dp c37 c31;let c40:=Du c30 (Dc c37) 0;let c41:=Dy c40 (-1);let c42:=c37+1;to3 c1 (aw l) (bK l) c17 c27 c37 c38->(c39->0<=c37/\c37<c31/\1=1/\0=0/\(c41->inR .i64 c42/\∃(y:Int×Li),let c43:=y.1;let c44:=y.2;
 to3 c1 (aw l) (bK l) c17 c27 c43 c44/\(cs=cs/\ns=ns/\ps=ps/\os=os/\ls=ls/\ks=ks/\l=l/\s=s/\c1=c1/\c2=c2/\1=1/\0=0/\0=0/\aw l=aw l/\1=1/\0=0/\0=0/\1=1/\0=0/\0=0/\1=1/\0=0/\0=0/\c20=c20/\1=1/\0=0/\0=0/\c30=c30/\1=1/\0=0/\0=0/\c5=c5/\c7=c7/\c9=c9/\c10=c10/\1=1/\0=0/\0=0/\l=l/\s=s/\c5=c5/\c7=c7/\c9=c9/\c10=c10/\1=1/\0=0/\0=0/\c5=c5/\c7=c7/\c9=c9/\c10=c10/\1=1/\0=0/\0=0/\c11=c11/\c12=c12/\c12=c12/\c13=c13/\1=1/\0=0/\0=0/\c1=c1/\aw l=aw l/\1=1/\0=0/\0=0/\c1=c1/\aw l=aw l/\1=1/\0=0/\0=0/\c10=c10/\c10=c10/\c14=c14/\c17=c17/\c19=c19/\c17=c17/\c20=c20/\c20=c20/\c20=c20/\c21=c21/\c27=c27/\c29=c29/\c27=c27/\c30=c30/\c30=c30/\c30=c30/\c31=c31/\c42=c43/\(0:Int)=(0:Int)/\c38=c44/\c1=c1/\aw l=aw l/\1=1/\0=0/\0=0/\c17=c17/\c27=c27/\1=1/\0=0/\0=0/\True)/\Dc (c32-c43)<Dc (c32-c37))/\(c41=false->1=1/\0=0/\1=1/\0=0/\1=1/\0=0/\True/\aBu c1 (aw l) c17 c27/\(∃(x:Int×Li),let c45:=x.1;let c46:=x.2;
 to4 c1 (aw l) (bK l) c17 c27 c37 c45 c46/\Dc c45=0/\cs=cs/\ns=ns/\ps=ps/\os=os/\ls=ls/\ks=ks/\l=l/\s=s/\c1=c1/\c2=c2/\1=1/\0=0/\0=0/\aw l=aw l/\1=1/\0=0/\0=0/\1=1/\0=0/\0=0/\1=1/\0=0/\0=0/\c20=c20/\1=1/\0=0/\0=0/\c30=c30/\1=1/\0=0/\0=0/\c40=c40/\1=1/\0=0/\0=0/\c5=c5/\c7=c7/\c9=c9/\c10=c10/\1=1/\0=0/\0=0/\l=l/\s=s/\c5=c5/\c7=c7/\c9=c9/\c10=c10/\1=1/\0=0/\0=0/\c5=c5/\c7=c7/\c9=c9/\c10=c10/\1=1/\0=0/\0=0/\c11=c11/\c12=c12/\c12=c12/\c13=c13/\1=1/\0=0/\0=0/\c1=c1/\aw l=aw l/\1=1/\0=0/\0=0/\c1=c1/\aw l=aw l/\1=1/\0=0/\0=0/\c10=c10/\c10=c10/\c14=c14/\c17=c17/\c19=c19/\c17=c17/\c20=c20/\c20=c20/\c20=c20/\c21=c21/\c27=c27/\c29=c29/\c27=c27/\c30=c30/\c30=c30/\c30=c30/\c31=c31/\c37=c37/\c39=c39/\c37=c37/\c40=c40/\c40=c40/\c40=c40/\c41=c41/\c1=c1/\aw l=aw l/\1=1/\0=0/\0=0/\c17=c17/\c27=c27/\c1=c1/\aw l=aw l/\c27=c27/\c17=c17/\(0:Int)=(0:Int)/\c38=c46/\c1=c1/\aw l=aw l/\1=1/\0=0/\0=0/\c17=c17/\c27=c27/\c37=c37/\1=1/\0=0/\0=0/\True)/\(∀(x:Int×Li),let c47:=x.1;let c48:=x.2;let c49:=Dc c47;∀(y:Int),let c50:=rA c1 (aw l) c17 c27 c37 y c48;to4 c1 (aw l) (bK l) c17 c27 c37 c47 c48->lX c33 c49 y->1=1/\0=0/\1=1/\0=0/\1=1/\0=0/\1=1/\0=0/\(true->Vp c1 (aw l) c17 c27 c37 y c48/\(c50=false->true/\true/\(Di false->True/\1=1/\0=0/\1=1/\0=0/\190=c4/\True)/\(Di false=false->1=1/\0=0/\0=c4/\True)))/\((true->c50)->(Vp c1 (aw l) c17 c27 c37 y c48/\c50)/\1=1/\∃(z:Int×Li),let c51:=z.1;let c52:=z.2;
 to4 c1 (aw l) (bK l) c17 c27 c37 c51 c52/\Dc c51=c49+(1)/\cs=cs/\ns=ns/\ps=ps/\os=os/\ls=ls/\ks=ks/\l=l/\s=s/\c1=c1/\c2=c2/\1=1/\0=0/\0=0/\aw l=aw l/\1=1/\0=0/\0=0/\1=1/\0=0/\0=0/\1=1/\0=0/\0=0/\c20=c20/\1=1/\0=0/\0=0/\c30=c30/\1=1/\0=0/\0=0/\c40=c40/\1=1/\0=0/\0=0/\c5=c5/\c7=c7/\c9=c9/\c10=c10/\1=1/\0=0/\0=0/\l=l/\s=s/\c5=c5/\c7=c7/\c9=c9/\c10=c10/\1=1/\0=0/\0=0/\c5=c5/\c7=c7/\c9=c9/\c10=c10/\1=1/\0=0/\0=0/\c11=c11/\c12=c12/\c12=c12/\c13=c13/\1=1/\0=0/\0=0/\c1=c1/\aw l=aw l/\1=1/\0=0/\0=0/\c1=c1/\aw l=aw l/\1=1/\0=0/\0=0/\c10=c10/\c10=c10/\c14=c14/\c17=c17/\c19=c19/\c17=c17/\c20=c20/\c20=c20/\c20=c20/\c21=c21/\c27=c27/\c29=c29/\c27=c27/\c30=c30/\c30=c30/\c30=c30/\c31=c31/\c37=c37/\c39=c39/\c37=c37/\c40=c40/\c40=c40/\c40=c40/\c41=c41/\c1=c1/\aw l=aw l/\1=1/\0=0/\0=0/\c17=c17/\c27=c27/\c1=c1/\aw l=aw l/\c27=c27/\c17=c17/\(0:Int)=(0:Int)/\DK c1 (aw l) c27 c37 y c48=c52/\c1=c1/\aw l=aw l/\1=1/\0=0/\0=0/\c17=c17/\c27=c27/\c37=c37/\1=1/\0=0/\0=0/\True))/\∀(x:Int×List Int),let c53:=x.1;let c54:=x.2;to4 c1 (aw l) (bK l) c17 c27 c37 c53 c54->Dc c53=Dj c33->inR .i64 c42/\∃(y:Int×Li),let c55:=y.1;let c56:=y.2;
 to3 c1 (aw l) (bK l) c17 c27 c55 c56/\(cs=cs/\ns=ns/\ps=ps/\os=os/\ls=ls/\ks=ks/\l=l/\s=s/\c1=c1/\c2=c2/\1=1/\0=0/\0=0/\aw l=aw l/\1=1/\0=0/\0=0/\1=1/\0=0/\0=0/\1=1/\0=0/\0=0/\c20=c20/\1=1/\0=0/\0=0/\c30=c30/\1=1/\0=0/\0=0/\c5=c5/\c7=c7/\c9=c9/\c10=c10/\1=1/\0=0/\0=0/\l=l/\s=s/\c5=c5/\c7=c7/\c9=c9/\c10=c10/\1=1/\0=0/\0=0/\c5=c5/\c7=c7/\c9=c9/\c10=c10/\1=1/\0=0/\0=0/\c11=c11/\c12=c12/\c12=c12/\c13=c13/\1=1/\0=0/\0=0/\c1=c1/\aw l=aw l/\1=1/\0=0/\0=0/\c1=c1/\aw l=aw l/\1=1/\0=0/\0=0/\c10=c10/\c10=c10/\c14=c14/\c17=c17/\c19=c19/\c17=c17/\c20=c20/\c20=c20/\c20=c20/\c21=c21/\c27=c27/\c29=c29/\c27=c27/\c30=c30/\c30=c30/\c30=c30/\c31=c31/\c42=c55/\(0:Int)=(0:Int)/\c54=c56/\c1=c1/\aw l=aw l/\1=1/\0=0/\0=0/\c17=c17/\c27=c27/\1=1/\0=0/\0=0/\True)/\Dc (c32-c55)<Dc (c32-c37)))/\(c39=false->inR .i64 c34/\∃(y:Int×Li),let c57:=y.1;let c58:=y.2;to2 c1 (aw l) (bK l) c17 c57 c58/\(cs=cs/\ns=ns/\ps=ps/\os=os/\ls=ls/\ks=ks/\l=l/\s=s/\c1=c1/\c2=c2/\1=1/\0=0/\0=0/\aw l=aw l/\1=1/\0=0/\0=0/\1=1/\0=0/\0=0/\1=1/\0=0/\0=0/\c20=c20/\1=1/\0=0/\0=0/\c5=c5/\c7=c7/\c9=c9/\c10=c10/\1=1/\0=0/\0=0/\l=l/\s=s/\c5=c5/\c7=c7/\c9=c9/\c10=c10/\1=1/\0=0/\0=0/\c5=c5/\c7=c7/\c9=c9/\c10=c10/\1=1/\0=0/\0=0/\c11=c11/\c12=c12/\c12=c12/\c13=c13/\1=1/\0=0/\0=0/\c1=c1/\aw l=aw l/\1=1/\0=0/\0=0/\c1=c1/\aw l=aw l/\1=1/\0=0/\0=0/\c10=c10/\c10=c10/\c14=c14/\c17=c17/\c19=c19/\c17=c17/\c20=c20/\c20=c20/\c20=c20/\c21=c21/\c34=c57/\(0:Int)=(0:Int)/\c38=c58/\c1=c1/\aw l=aw l/\1=1/\0=0/\0=0/\c17=c17/\1=1/\0=0/\0=0/\True)/\Dc (c22-c57)<Dc (c22-c27)))/\(c29=false->inR .i64 c23/\∃(y:Int×Li),let c59:=y.1;let c60:=y.2;
 Rn c1 (aw l) (bK l) c59 c60/\(cs=cs/\ns=ns/\ps=ps/\os=os/\ls=ls/\ks=ks/\l=l/\s=s/\c1=c1/\c2=c2/\1=1/\0=0/\0=0/\aw l=aw l/\1=1/\0=0/\0=0/\1=1/\0=0/\0=0/\1=1/\0=0/\0=0/\c5=c5/\c7=c7/\c9=c9/\c10=c10/\1=1/\0=0/\0=0/\l=l/\s=s/\c5=c5/\c7=c7/\c9=c9/\c10=c10/\1=1/\0=0/\0=0/\c5=c5/\c7=c7/\c9=c9/\c10=c10/\1=1/\0=0/\0=0/\c11=c11/\c12=c12/\c12=c12/\c13=c13/\1=1/\0=0/\0=0/\c1=c1/\aw l=aw l/\1=1/\0=0/\0=0/\c1=c1/\aw l=aw l/\1=1/\0=0/\0=0/\c10=c10/\c10=c10/\c14=c14/\c23=c59/\(0:Int)=(0:Int)/\c28=c60/\c1=c1/\aw l=aw l/\1=1/\0=0/\0=0/\1=1/\0=0/\0=0/\True)/\Dc (c14-c59)<Dc (c14-c17)))/\(c19=false->1=1/\1=1/\1=1/\0=0/\(true->True/\(c24=false->true/\true/\(Di false->True/\1=1/\0=0/\1=1/\0=0/\190=c4/\True)/\(Di false=false->1=1/\0=0/\0=c4/\True)))/\((true->c24)->(True/\c24)/\1=1/\0=0/\true/\true/\(Di true->False)/\(Di true=false->1=1/\0=0/\0=c4/\True)))))))):
  evR c15 UX aA (aFA (cs,ns,ps,os,ls,ks) l) aA 26 [.agg [.dat (.sl C) cs,.dat (.sl S) ns,.dat (.sl S) ps,.dat (.sl Of) os,.dat (.sl Ln) ls,.dat (.sl Kl) ks],.agg [.dat R l,.dat I s]] ⟨uH l/\pA (cs,ns,ps,os,ls,ks),.dat I (dw (cs,ns,ps,os,ls,ks) l s),[]⟩:=oE hvc
theorem S8: ∀args m c,Yd args m=some c->af Tryz.prog dU 71 args m c:=by
 intro args m c h;unfold Yd at h;split at h
 .cases h;exact(U8 _ _).1
 .cases h
theorem Pz: al Tryz.prog dU UX:=aj S8<|aj (ag λ(n,_)=>aFi n)<|aj (ag λ(n,p,_)=>aDB n p)<|aj (pB λ((n,p),k,o,d,cut,_) xs=>(LP n p k o d cut xs).1) VQ
theorem PH: bL Tryz.prog dU aEz:=iC (i7 λ(c,_)=>(U8 c.2 c.1).2)<|iC (tw λ((n,p),k,o,d,cut,_) xs=>(LP n p k o d cut xs).2) Ig
theorem aFJ: bu Tryz.prog dU KI2:=by
 intro f caps it h;unfold KI2 at h;split at h
 .rename_i e;subst e;split at h
  .rename_i n p o k _ hx;cases h;exact mW.args (aAt n p k o) λC us hu=>eZ hx hu
  .cases h
 .exact aCE f caps it h
theorem aAA(s:Int)(l:Li): af Tryz.prog dU 21 [.agg [.dat R l,.dat I s]] [] ⟨uH l,.tup [.agg [.dat I (lv (l,s)).1,.dat I (lv (l,s)).2.1,.dat M (lv (l,s)).2.2.1,.dat (.sl M) (lv (l,s)).2.2.2],.dat I (ym (l,s))],[]⟩:=by
 refine qb (c:=c14) Pz aL hm PH (WV s l ⟨⟨rfl,rfl⟩,λhp=>?_⟩)
 simp only[qc,Di,Dt];refine⟨⟨hp,λh=>?_⟩,λh=>⟨⟨hp,h⟩,?_⟩⟩
 .unfold lv ym;rw[h];exact⟨⟨rfl,rfl,rfl,rfl,rfl⟩,λh=>by cases h⟩
 .unfold lv ym;rw[h];exact⟨λh=>(by cases h),⟨rfl,rfl,rfl,rfl,rfl⟩⟩
end Go.Eng.In
set_option maxRecDepth 100000
namespace Go.Eng.In
open Go.Proofs
theorem vR{l:Li}(hl:dJ l)(h:mD l=true): (0<=l.getD 2 0/\l.getD 2 0<=12)/\(0<=l.getD 3 0/\l.getD 3 0<=4)/\0<=l.getD 0 0/\l.getD 0 0<l.getD 1 0/\l.getD 1 0<=600:=by
 have bd:∀k:Nat,0<=l.getD k 0:=λk=>by
  by_cases hk:k<l.length
  .exact(cN.1 hl.1 _ (aJ hk)).1
  .rw[qA,zG (by omega)];exact qM _
 unfold mD ql at h;simp only[qC,qE]at h;exact⟨⟨bd 2,h.1.2.1⟩,⟨bd 3,h.1.2.2.1⟩,bd 0,h.1.2.2.2.1,h.1.2.2.2.2.2⟩
theorem ux(g:Int->Int->Int)(n:Int): (cU g n).length=n.toNat:=by unfold cU;simp
theorem oW{g:Int->Int->Int}{n:Int}{r:Li}(h:r∈cU g n): r.length=n.toNat/\∀x∈r,∃i j,x=g i j:=by
 unfold cU at h;obtain⟨i,_,rfl⟩:=vZ.1 h;refine⟨by simp,λx hx=>?_⟩
 obtain⟨j,_,rfl⟩:=vZ.1 hx;exact⟨_,_,rfl⟩
theorem UI{g:Int->Int->Int}{n i j:Int}(hi:0<=i/\i<n)(hj:0<=j/\j<n): ((cU g n).getD i.toNat []).getD j.toNat 0=g i j:=by
 unfold cU;have e1:i.toNat<n.toNat:=by omega
 have e2:j.toNat<n.toNat:=by omega
 have e:((List.range n.toNat).map λi:Nat=>(List.range n.toNat).map λj:Nat=>g i j).getD i.toNat []=(List.range n.toNat).map λj:Nat=>g (i.toNat:Nat) j:=by
  rw[qA,qP,wJ e1];rfl
 rw[e,qA,qP,wJ e2,vF hi.1];show g i (j.toNat:Nat)=_;rw[vF hj.1]
theorem wD{l:Li}(hl:dJ l)(m i j:Int): -1<=tg l m i j:=by
 unfold tg;have:0<=l.getD (i*m+j).toNat 0:=by
  by_cases hk:(i*m+j).toNat<l.length
  .exact(cN.1 hl.1 _ (aJ hk)).1
  .rw[qA,zG (by omega)];exact qM _
 omega
theorem Rq{q m:Int}{l:Li}{t:Lj}(h:t∈rz q m l): ∃k,t=jk m (bB l k):=by
 unfold rz at h;obtain⟨i,_,rfl⟩:=vZ.1 h;exact⟨_,rfl⟩
theorem Rr(q m:Int)(l:Li): (rz q m l).length=q.toNat:=by unfold rz;simp
theorem Yb{l:Li}(hl:dJ l)(h:mD l=true): nxP (aw l):=by
 obtain⟨⟨m0,m1⟩,_⟩:=vR hl h;refine⟨?_,λr hr=>?_⟩
 .show(cU _ _).length<=_;rw[ux];omega
 .obtain⟨h1,h2⟩:=oW hr;refine⟨by omega,λx hx=>?_⟩
  obtain⟨i,j,rfl⟩:=h2 x hx;exact wD (fa hl 4) _ _ _
theorem SX{n:Net}{l:Li}(hl:dJ l)(h:mD l=true)(hf:zg n (aw l)=true): plP n (aw l):=by
 obtain⟨⟨m0,m1⟩,⟨q0,q1⟩,a0,a1,a2⟩:=vR hl h;unfold zg at hf;simp only[qC,qE,qL,qU]at hf;obtain⟨⟨f1,f2⟩,f3⟩:=hf;have e1:(aw l).2.2.1.length=(l.getD 2 0).toNat:=ux _ _;have e2:(aw l).2.2.2.length=(l.getD 3 0).toNat:=Rr _ _ _;refine⟨⟨a0,by show l.getD 0 0<=l.getD 1 0;omega,a2⟩,⟨f1,λr hr=>?_⟩,λi j hi hj=>?_,f2,λt ht=>?_⟩
 .have h1:=(oW hr).1;omega
 .obtain⟨i0,i1⟩:=hi;obtain⟨j0,j1⟩:=hj;have hi2:i<l.getD 2 0:=by omega
  have hj2:j<l.getD 2 0:=by omega
  have ec:cellAt (aw l) i j=tg (bB l 4) (l.getD 2 0) i j:=UI ⟨i0,hi2⟩ ⟨j0,hj2⟩;have:=f3 i.toNat (by omega)
  unfold lJ at this;rw[qL,vF i0]at this;have hr:=(oW (g:=tg (bB l 4) (l.getD 2 0)) (n:=l.getD 2 0) (r:=(aw l).2.2.1.getD i.toNat []) (aJ (by omega:i.toNat<(aw l).2.2.1.length))).1
  refine⟨this _ (aJ (by omega)),?_⟩
  rw[ec];exact wD (fa hl 4) _ _ _
 .obtain⟨k,rfl⟩:=Rq ht;have e:(jk (l.getD 2 0) (bB (bB l (4+l.getD 2 0*l.getD 2 0)) k)).length=(l.getD 2 0).toNat:=ux _ _;refine⟨by omega,λr hr=>?_⟩
  have:=(oW hr).1;omega
theorem og{f:Nat->Li->Option (Li)}{m:Nat}{x:Li}(h:runN f m x=none): ∀{k:Nat},m<=k->runN f k x=none:=by
 intro k hk;induction hk with
 | refl=>exact h
 | step _ ih=>rw[runN,ih];rfl
theorem mP{α:Type}(x:Option α): (x.bind λy=>some y)=x:=by cases x<;>rfl
theorem bind_none{α:Type}{x:Option α}{f g:α->Option α}(h:x.bind f=none)(hg:∀y,f y=none->g y=none): x.bind g=none:=by
 cases x with
 | none=>rfl
 | some y=>exact hg y h
section
variable {n:Net} {p:Plan} {l:Li} {k o d:Int}
theorem R1: st2 n p l k 0=st1 n p l k:=mP _
theorem RX: st3 n p l k o 0=st2 n p l k o:=mP _
theorem RR: st4 n p l k o d 0=st3 n p l k o d:=mP _
theorem G2(k0:0<=k): st1 n p l (k+1)=st2 n p l k (dG p k).length:=by
 unfold st2;rw[qQ];show runN _ (k+1).toNat l=_;rw[show(k+1).toNat=k.toNat+1 by omega,runN,vF k0];rfl
theorem G1(o0:0<=o): st2 n p l k (o+1)=st3 n p l k o (cellsD p k o).length:=by
 unfold st3 st2;rw[qQ,show(o+1).toNat=o.toNat+1 by omega,qCv]
 congr 1
 funext x
 rw[runN,vF o0];rfl
theorem RY(d0:0<=d)(h:fG p k o d=-1): st3 n p l k o (d+1)=st3 n p l k o d:=by
 unfold st3;rw[show(d+1).toNat=d.toNat+1 by omega]
 congr 1
 funext x
 rw[runN,vF d0,show pP n p k o d=λxs=>some xs from funext λxs=>if_pos h]
 exact mP _
theorem GZ(d0:0<=d)(h:fG p k o d≠-1): st3 n p l k o (d+1)=st4 n p l k o d (gP n p k o).length:=by
 unfold st4 st3;rw[show(d+1).toNat=d.toNat+1 by omega,qCv]
 congr 1
 funext x
 rw[runN,vF d0,show pP n p k o d=λxs=>runN (s7 n p k o d) (gP n p k o).length xs from funext λxs=>if_neg h]
theorem RS(j:Nat): st4 n p l k o d (j+1)=(st4 n p l k o d j).bind (s7 n p k o d j):=by
 unfold st4;rw[qCv];rfl
theorem R7{k':Int}(h:st1 n p l k=none)(hk:k<=k'): st1 n p l k'=none:=og h (by omega)
theorem R2{o':Int}(h:st2 n p l k o=none)(hk:o<=o'): st2 n p l k o'=none:=bind_none h λy hy=>og hy (by omega)
theorem RZ{d':Int}(h:st3 n p l k o d=none)(hk:d<=d'): st3 n p l k o d'=none:=bind_none h λy hy=>og hy (by omega)
theorem RU{j j':Nat}(h:st4 n p l k o d j=none)(hk:j<=j'): st4 n p l k o d j'=none:=bind_none h λy hy=>og hy hk
theorem XH{j:Nat}(h:st4 n p l k o d j=none)(hj:j<=(gP n p k o).length)(hd:fG p k o d≠-1)(d0:0<=d)(d1:d<(cellsD p k o).length)(o0:0<=o)(o1:o<(dG p k).length)(k0:0<=k)(k1:k<p.2.2.2.length): rx n p l=none:=by
 have h1:=RU h hj;rw[<- GZ d0 hd]at h1;have h2:=RZ h1 (d':=(cellsD p k o).length) (by omega)
 rw[<- G1 o0]at h2;have h3:=R2 h2 (o':=(dG p k).length) (by omega)
 rw[<- G2 k0]at h3;exact R7 h3 (by omega)
end
theorem XG(s:Int)(l:Li)(cs:List Cal)(ns ps:List ByteArray)(os:List Off)(ls:List Line)(ks:List Cla): af Tryz.prog dU 26 [.agg [.dat (.sl C) cs,.dat (.sl S) ns,.dat (.sl S) ps,.dat (.sl Of) os,.dat (.sl Ln) ls,.dat (.sl Kl) ks],.agg [.dat R l,.dat I s]] [] ⟨uH l/\pA (cs,ns,ps,os,ls,ks),.dat I (dw (cs,ns,ps,os,ls,ks) l s),[]⟩:=by
 refine qa (c:=c15) Pz Pz aFJ hm PH (Q9 s l cs ns ps os ls ks ⟨⟨rfl,rfl⟩,λhp=>?_⟩)
 simp only[qc,Dk,Di,qd,Dt,Dy,Dp,Eh,Df,Dc,Dj,Du];obtain⟨hl,hn⟩:=hp;generalize (cs,ns,ps,os,ls,ks)=n at hn ⊢;have two:∀{p q:Prop},p->(p/\(false=true->q)):=λh=>⟨h,λh=>by cases h⟩
 have eF:dw n l s=if fi (l,s)=true then if usF n=true then if lZ n l=true then aCf n l else 190 else 1 else rB (l,s):=rfl
 refine⟨⟨hl,λh=>two (by rw[eF,if_neg (by rw[h];exact Bool.noConfusion)])⟩,λh1=>⟨⟨hl,h1⟩,hn,λh=>two (by rw[eF,if_pos h1,if_neg (by rw[h];exact Bool.noConfusion)]),λh2=>?_⟩⟩
 have hs:cw l s=true/\mD l=true:=by
  unfold fi at h1
  rwa [qC]at h1
 have hnum:dJ l:=⟨by have:=hs.1;unfold cw at this;rw[qC]at this;exact this.1,hl⟩
 have hnx:=Yb hnum hs.2;refine⟨h2,⟨hn,hnx⟩,λh=>two ?_,λh3=>⟨h3,?_⟩⟩
 .have:lZ n l=false:=by
   unfold lZ A2;cases e:zg n (aw l)with
   | false=>rfl
   | true=>rw[vK (by have:=h e;omega)];rfl
  rw[eF,if_pos h1,if_pos h2,if_neg (by rw[this];exact Bool.noConfusion)]
 have hfa:lZ n l=true:=by
  unfold lZ A2;rw[h3.1,qW (by have:=h3.2;omega)];rfl
 have hpl:=SX hnum hs.2 h3.1;have eC:dw n l s=if rx n (aw l) (bK l)=some []then 0 else 190:=by rw[eF,if_pos h1,if_pos h2,if_pos hfa];rfl
 have hrest:dJ (bK l):=fa hnum _;obtain⟨p,ep⟩:∃p,p=aw l:=⟨_,rfl⟩;obtain⟨r,er⟩:∃r,r=bK l:=⟨_,rfl⟩;rw[<- ep]at hpl;rw[<- er]at hrest;rw[eC];rw[<- ep,<- er];clear eC eF hnx hfa h3 hs h1;obtain⟨⟨p0,p1,p2⟩,⟨q1,q2⟩,q3,q4,q5⟩:=id hpl;have eRow:∀k:Int,p.2.2.2.getD k.toNat []=dG p k:=λ_=>rfl
 have eCel:∀k o:Int,(dG p k).getD o.toNat []=cellsD p k o:=λ_ _=>rfl
 have eDay:∀k o d:Int,(cellsD p k o).getD d.toNat 0=fG p k o d:=λ_ _ _=>rfl
 simp only[eRow,eCel,eDay];have hu:usP n:=⟨h2,hn⟩;have hno:n.2.2.2.1.length<=2000000000000000:=hn.1.1.2;have hnk:n.2.2.2.2.2.length<=2000000000000000:=hn.2;refine⟨⟨(0,r),⟨⟨qM _,vC _⟩,rfl,hrest⟩,rfl,rfl⟩,λ⟨k,xs⟩ ⟨⟨k0,k1⟩,kx,kn⟩=>⟨λhk=>?_,λhk=>?_⟩⟩
 .have hk:k<p.2.2.2.length:=hk;have hrw:(dG p k).length=n.2.2.2.1.length/\∀r∈dG p k,r.length=n.2.2.2.1.length:=q5 _ (aJ (by omega))
  refine⟨k0,hk,⟨(0,xs),⟨⟨⟨k0,hk⟩,qM _,vC _⟩,by rw[R1];exact kx,kn⟩,rfl,rfl⟩,λ⟨o,ys⟩ ⟨⟨_,o0,o1⟩,ox,on⟩=>⟨λho=>?_,λho=>?_⟩⟩
  .have ho:o<(dG p k).length:=ho;have hcl:(cellsD p k o).length=n.2.2.2.1.length:=hrw.2 _ (aJ (by omega))
   refine⟨o0,ho,⟨(0,ys),⟨⟨⟨k0,hk⟩,⟨o0,ho⟩,qM _,vC _⟩,by rw[RX];exact ox,on⟩,rfl,rfl⟩,λ⟨d,zs⟩ ⟨⟨_,_,d0,d1⟩,dx,dn⟩=>⟨λhd=>?_,λhd=>?_⟩⟩
   .have hd:d<(cellsD p k o).length:=hd;have d0:0<=d:=d0;have offO:iD n o:=⟨o0,by show o<_;omega⟩
    have offD:iD n d:=⟨d0,by omega⟩
    have cla:UA n k:=⟨k0,by show k<_;omega⟩
    refine⟨d0,hd,λhm1=>⟨aB (by omega),⟨(d+1,zs),⟨⟨⟨k0,hk⟩,⟨o0,ho⟩,by show 0<=d+1;omega,by show d+1<=_;omega⟩,by rw[RY d0 hm1];exact dx,dn⟩,⟨rfl,rfl⟩,by show(_-(d+1)).toNat<_;omega⟩⟩,λhm1=>⟨⟨⟨hu,hpl⟩,offO,cla⟩,⟨(0,zs),⟨qM _,by show st4 n p r k o d 0=_;rw[RR];exact dx,dn⟩,rfl,rfl⟩,λ⟨j,us⟩ y ⟨j0,jx,jn⟩ hy=>?_,λ⟨j,us⟩ ⟨j0,jx,jn⟩ hj=>?_⟩⟩
    .have hy:(gP n p k o)[j.toNat]?=some y:=hy;obtain⟨jl,_⟩:=qG.1 hy;have hyd:(gP n p k o).getD j.toNat 0=y:=by rw[qA,hy];rfl
     have hin:pO p y=true:=by
      have:=zJ hy;unfold gP at this;exact(yG.1 this).2
     have hin2:1440*p.1<=y/\y<1440*p.2.1:=by
      unfold pO at hin
      rwa [qC,qE,qE]at hin
     have hf:HN n p o d y us:=⟨⟨⟨hu,hpl⟩,offO,offD⟩,⟨by omega,by omega⟩,jn⟩
     have jx:st4 n p r k o d j.toNat=some us:=jx;have ju:st4 n p r k o d (j.toNat+1)=if rA n p k o d y us=true then some (DK n p o d y us)else none:=by
      rw[RS,jx];show s7 n p k o d j.toNat us=_;unfold s7;rw[hyd]
     refine⟨⟨⟨hf,cla⟩,λhno=>two ?_⟩,λhok=>⟨⟨⟨hf,cla⟩,hok⟩,⟨(j+1,DK n p o d y us),⟨by show 0<=j+1;have:0<=j:=j0;omega,by rw[show((j+1,DK n p o d y us).1).toNat=j.toNat+1 by show(j+1).toNat=_;have:0<=j:=j0;omega,ju,if_pos hok],(FR 19 hf).2⟩,by show(j+1).toNat=_;have:0<=j:=j0;omega,rfl⟩⟩⟩
     rw[if_neg (by rw[hno];exact Bool.noConfusion)]at ju
     rw[XH ju (by omega) hm1 d0 hd o0 ho k0 hk]
     exact(if_neg (λh=>by cases h)).symm
    .have hj:j.toNat=(gP n p k o).length:=hj;have jx:st4 n p r k o d j.toNat=some us:=jx;refine⟨aB (by omega),⟨(d+1,us),⟨⟨⟨k0,hk⟩,⟨o0,ho⟩,by show 0<=d+1;omega,by show d+1<=_;omega⟩,by rw[GZ d0 hm1,<- hj];exact jx,jn⟩,⟨rfl,rfl⟩,by show(_-(d+1)).toNat<_;omega⟩⟩
   .have d1:d<=(cellsD p k o).length:=d1;have hd:¬d<(cellsD p k o).length:=hd;have de:d=(cellsD p k o).length:=by omega
    have o0:0<=o:=o0;refine⟨aB (by omega),⟨(o+1,zs),⟨⟨⟨k0,hk⟩,by show 0<=o+1;omega,by show o+1<=_;omega⟩,by rw[G1 o0,<- de];exact dx,dn⟩,⟨rfl,rfl⟩,by show(_-(o+1)).toNat<_;omega⟩⟩
  .have o1:o<=(dG p k).length:=o1;have ho:¬o<(dG p k).length:=ho;have oe:o=(dG p k).length:=by omega
   have k0:0<=k:=k0;refine⟨aB (by omega),⟨(k+1,ys),⟨⟨by show 0<=k+1;omega,by show k+1<=_;omega⟩,by rw[G2 k0,<- oe];exact ox,on⟩,⟨rfl,rfl⟩,by show(_-(k+1)).toNat<_;omega⟩⟩
 .have k1:k<=p.2.2.2.length:=k1;have hk:¬k<p.2.2.2.length:=hk;have ke:k=p.2.2.2.length:=by omega
  have ka:rx n p r=some xs:=by unfold rx;rw[<- ke];exact kx
  rw[ka];have xl:∀xs:Li,(some xs=some [])↔xs.length=0:=λxs=>by
   rw[wC,List.length_eq_zero_iff]
  refine⟨λh=>two ?_,λh=>⟨h,(λh=>by cases h),?_⟩⟩
  .have h:(xs.length:Int)≠0:=h;rw[if_neg (by rw[xl];omega)]
  .have h:(xs.length:Int)=0:=h;rw[if_pos (by rw[xl];omega)]
end Go.Eng.In
set_option maxRecDepth 100000
namespace Go.Eng.In
open Go.Proofs
theorem Yo{l:Li}(h:l.length<=2000000): uH l:=by show l.length<=2000000000000000;omega
theorem X6{l:Li}(h:iV l=true): rl l=l:=by
 unfold rl
 conv=>rhs;rw[<- List.map_id l]
 refine zT λx hx=>?_
 have:=cN.1 h x hx;show x%65521=x;omega
theorem IW{l:Li}(h:iV l=true): fO l=vt l:=by unfold fO;rw[X6 h]
theorem vr{l:Li}(h:iV l=true): cw l (fO l)=true:=by
 unfold cw;rw[h,IW h];simp
theorem MB{l:Li}{s:Int}(h:cw l s=true): iV l=true/\s=vt l:=by
 unfold cw at h
 rwa [qC,qE]at h
structure Acc (n:Net) (l:Li):Prop where
 ins:iV l=true
 pl:mD l=true
 us:usF n=true
 fit:zg n (aw l)=true
 len:l.length<=40000
 run:rx n (aw l) (bK l)=some []
theorem Y7{n:Net}{l:Li}: dw n l (fO l)=0↔Acc n l:=by
 constructor
 .intro h;unfold dw at h;split at h
  case isFalse=>unfold rB at h;split at h<;>omega
  rename_i h1;split at h
  case isFalse=>omega
  rename_i h2;split at h
  case isFalse=>omega
  rename_i h3;unfold aCf at h;split at h
  case isFalse=>omega
  rename_i h4;unfold fi at h1;rw[qC]at h1;unfold lZ A2 at h3;rw[qC,qE]at h3;exact⟨(MB h1.1).1,h1.2,h2,h3.1,h3.2,h4⟩
 .rintro⟨h1,h2,h3,h4,h5,h6⟩;unfold dw;rw[if_pos (by unfold fi;rw[vr h1];exact h2),if_pos h3,if_pos (by unfold lZ A2;rw[h4,qW h5];rfl)]
  unfold aCf;rw[if_pos h6]
theorem one_app{xs:Li}(z:Li)(h:bq xs=true): bq (xs++z)=true/\hd (xs++z)=hd xs/\tl (xs++z)=tl xs++z:=by
 have h:=vO h;cases xs with
 | nil=>exact absurd h (by simp)
 | cons x r=>exact⟨by unfold bq;simp,rfl,rfl⟩
theorem TY{n:Net}{p:Plan}{d:Int}(z:Li): ∀(f:Nat) {o t:Int} {xs:Li},(lx n p d f o t xs).1=true->lx n p d f o t (xs++z)=(true,(lx n p d f o t xs).2.1,(lx n p d f o t xs).2.2++z)
 | 0,o,t,xs,h=>by
  have h:decide (o=d)=true:=h;show(decide (o=d),t,xs++z)=_;rw[h];rfl
 | f+1,o,t,xs,h=>by
  have e:∀ys:Li,lx n p d (f+1) o t ys=if o=d then(true,t,ys)else if cellAt p o d=-1 then(false,t,ys)else if bq ys=false then(false,t,ys)else
   if dI n o (cellAt p o d) p (hd ys) t=true then lx n p d f (aU n (cellAt p o d)).2.2.1 (lh (ah n o).1 (hd ys-2+p.1) (aU n (cellAt p o d)).2.2.2.1+(aU n (cellAt p o d)).2.2.2.2.1) (tl ys)else(false,t,tl ys):=λys=>rfl
  rw[e]at h;rw[e,e];by_cases h1:o=d
  .rw[if_pos h1,if_pos h1]
  rw[if_neg h1]at h;rw[if_neg h1,if_neg h1];by_cases h2:cellAt p o d=-1
  .rw[if_pos h2]at h;cases h
  rw[if_neg h2]at h;rw[if_neg h2,if_neg h2];by_cases h3:bq xs=false
  .rw[if_pos h3]at h;cases h
  rw[if_neg h3]at h;obtain⟨a1,a2,a3⟩:=one_app z (by simpa using h3)
  rw[if_neg h3,if_neg (by rw[a1];exact Bool.noConfusion),a2,a3]
  by_cases h4:dI n o (cellAt p o d) p (hd xs) t=true
  .rw[if_pos h4]at h;rw[if_pos h4,if_pos h4];exact TY z f h
  .rw[if_neg h4]at h;cases h
theorem MR{f g:Nat->Li->Option (Li)}(z:Li)(hfg:∀i xs ys,f i xs=some ys->g i (xs++z)=some (ys++z)): ∀(m:Nat) {xs ys:Li},runN f m xs=some ys->runN g m (xs++z)=some (ys++z)
 | 0,_,_,h=>by cases h;rfl
 | m+1,xs,ys,h=>by
  rw[runN]at h ⊢;obtain⟨us,h1,h2⟩:=yX.1 h;rw[MR z hfg m h1];exact hfg _ _ _ h2
noncomputable def pos(m k o d:Int): Int:=4+m*m+k*(m*m)+(o*m+d)
theorem On{n:Net}{p p':Plan}(h1:p'.1=p.1)(h3:p'.2.2.1=p.2.2.1){d:Int}: ∀(f:Nat) (o t:Int) (xs:Li),lx n p' d f o t xs=lx n p d f o t xs
 | 0,_,_,_=>rfl
 | f+1,o,t,xs=>by
  have e:∀p:Plan,lx n p d (f+1) o t xs=if o=d then(true,t,xs)else if cellAt p o d=-1 then(false,t,xs)else if bq xs=false then(false,t,xs)else
   if dI n o (cellAt p o d) p (hd xs) t=true then lx n p d f (aU n (cellAt p o d)).2.2.1 (lh (ah n o).1 (hd xs-2+p.1) (aU n (cellAt p o d)).2.2.2.1+(aU n (cellAt p o d)).2.2.2.2.1) (tl xs)else(false,t,tl xs):=λp=>rfl
  have ec:cellAt p' o d=cellAt p o d:=by unfold cellAt;rw[h3]
  have eo:∀c x,dI n o c p' x t=dI n o c p x t:=λc x=>by unfold dI;rw[h1]
  rw[e,e,ec,eo,h1,On h1 h3 f]
theorem X3{f g:Nat->Li->Option (Li)}: ∀(m:Nat) (hfg:∀i,i<m->∀xs ys,f i xs=some ys->g i xs=some ys) {xs ys:Li},runN f m xs=some ys->runN g m xs=some ys
 | 0,_,_,_,h=>h
 | m+1,hfg,xs,ys,h=>by
  rw[runN]at h ⊢;obtain⟨us,h1,h2⟩:=yX.1 h;rw[X3 m (λi hi=>hfg i (by omega)) h1]
  exact hfg _ (by omega) _ _ h2
theorem SJ{f:Nat->Li->Option (Li)}(hf:∀i xs ys,f i xs=some ys->ys=xs): ∀(m:Nat) {xs ys:Li},runN f m xs=some ys->ys=xs
 | 0,_,_,h=>by cases h;rfl
 | m+1,xs,ys,h=>by
  rw[runN]at h;obtain⟨us,h1,h2⟩:=yX.1 h;rw[hf _ _ _ h2,SJ hf m h1]
end Go.Eng.In
set_option maxRecDepth 100000
namespace Go.Eng.In
open Go.Proofs
theorem Jd{w:List Bool}{h:Li}{d x:Int}(he:Sv.fU w h d=0)(h1:d<=x)(h2:wkF w h x=true): Sv.fV w h d<=x:=by
 by_cases hx:d+60<=x
 .have:=(Sv.lP he).2.1;omega
 .have hm:x∈Sv.dN w h d 60:=by
   unfold Sv.dN;exact yG.2 ⟨vZ.2 ⟨(x-d).toNat,qU.2 (by omega),by omega⟩,h2⟩
  have hp:(Sv.dN w h d 60).Pairwise (· < ·):=by
   unfold Sv.dN;exact List.Pairwise.filter _ (qBv.2 (List.pairwise_lt_range.imp λh=>by omega))
  unfold Sv.fV Sv.lQ;cases hl:Sv.dN w h d 60 with
  | nil=>rw[hl]at hm;cases hm
  | cons y tl=>
   rw[hl]at hm hp;show y<=x;rcases zA.1 hm with rfl | hm
   .exact qM _
   .exact Int.le_of_lt ((yL.1 hp).1 x hm)
theorem Cc{c:Cal}{m t D:Int}(m1:m<=1439)(he:Sv.jF c m t=0)(hw:wkF c.2.1 c.2.2 D=true)(ht:t<=lh c.1 D m): Sv.fM c m t<=lh c.1 D m:=by
 have e1:Sv.fM c m t=Sv.jb c.1 (Sv.fV c.2.1 c.2.2 (Sv.d0F c m t)) m:=if_pos he;have hd:Sv.d0F c m t<=D:=by
  unfold lh at ht;unfold Sv.d0F Sv.fu Sv.J9;split<;>omega
 have:=Jd he hd hw;rw[e1];unfold Sv.jb lh;omega
theorem V1{n:Net}{p:Plan}{d:Int}(hu:usP n)(hpl:plP n p)(hdd:iD n d): ∀(f k:Nat) (o t t':Int) (xs:Li),iD n o->(lx n p d f o t' xs).1=true->t<=t'->(Sv.ig n p.2.2.1 d k o t).2=0->
  ∃s,(Sv.ig n p.2.2.1 d k o t).1.getLast?=some s/\s.2.1<=(lx n p d f o t' xs).2.1
 | f,k,o,t,t',xs,ho,h1,ht,h2=>by
  by_cases h0:o=d
  .rw[Sv.rY k h0];refine⟨(o,t,-1,-1),rfl,?_⟩;cases f with
   | zero=>exact ht
   | succ f=>unfold lx;rw[if_pos h0];exact ht
  cases f with
  | zero=>exact absurd (vO h1) h0
  | succ f=>
   have e:lx n p d (f+1) o t' xs=if o=d then(true,t',xs)else if cellAt p o d=-1 then(false,t',xs)else if bq xs=false then(false,t',xs)else
    if dI n o (cellAt p o d) p (hd xs) t'=true then lx n p d f (aU n (cellAt p o d)).2.2.1 (lh (ah n o).1 (hd xs-2+p.1) (aU n (cellAt p o d)).2.2.2.1+(aU n (cellAt p o d)).2.2.2.2.1) (tl xs)else(false,t',tl xs):=rfl
   rw[e]at h1 ⊢;rw[if_neg h0]at h1 ⊢;by_cases h3:cellAt p o d=-1
   .rw[if_pos h3]at h1;cases h1
   rw[if_neg h3]at h1 ⊢;by_cases h4:bq xs=false
   .rw[if_pos h4]at h1;cases h1
   rw[if_neg h4]at h1 ⊢;by_cases h5:dI n o (cellAt p o d) p (hd xs) t'=true
   case neg=>rw[if_neg h5]at h1;cases h1
   rw[if_pos h5]at h1 ⊢;obtain⟨g1,g2⟩:=hpl.2.2.1 o d ho hdd;have g3:cellAt p o d<n.2.2.2.2.1.length/\(aU n (cellAt p o d)).2.1=o:=by
    unfold ie at g1;rw[vK h3,xR,qC,qE,qE]at g1;exact g1
   obtain⟨_,lo,⟨m0,m1⟩,_⟩:=Lh hu (by omega:0<=cellAt p o d) g3.1
   have h3':Sv.nxt p.2.2.1 o d≠-1:=h3;have en:Sv.nxt p.2.2.1 o d=cellAt p o d:=rfl;by_cases h6:Sv.ni n (Sv.nxt p.2.2.1 o d) (Sv.ak n o t)=0
   case neg=>rw[Sv.lz k h0 h3' h6]at h2;exact absurd h2 h6
   cases k with
   | zero=>rw[Sv.jS h0 h3' h6]at h2;cases h2
   | succ k=>
    rw[Sv.jR k h0 h3' h6]at h2 ⊢;generalize hr:Sv.ig n p.2.2.1 d k (Sv.pC n (Sv.nxt p.2.2.1 o d)) (Sv.iN n (Sv.nxt p.2.2.1 o d) (Sv.ak n o t)+Sv.cM n (Sv.nxt p.2.2.1 o d))=r at h2 ⊢;unfold Sv.Ak at h2 ⊢;by_cases h7:r.2=0
    case neg=>rw[if_neg h7]at h2;exact absurd h2 h7
    rw[if_pos h7];unfold dI at h5;rw[qC,qE]at h5;obtain⟨w1,w2⟩:=h5;have ok:Sv.cH (Sv.ak n o t)=true:=by
     cases hk:Sv.cH (Sv.ak n o t)with
     | true=>rfl
     | false=>unfold Sv.ni at h6;rw[hk]at h6;cases h6
    have eF:Sv.b9 n (Sv.nxt p.2.2.1 o d)=o:=g3.2;have eE:Sv.ni n (Sv.nxt p.2.2.1 o d) (Sv.ak n o t)=Sv.jF (ah n o) (aU n (cellAt p o d)).2.2.2.1 (Sv.ak n o t):=by
     unfold Sv.ni;rw[if_pos ok,eF];rfl
    have eD:Sv.iN n (Sv.nxt p.2.2.1 o d) (Sv.ak n o t)=Sv.fM (ah n o) (aU n (cellAt p o d)).2.2.2.1 (Sv.ak n o t):=by
     unfold Sv.iN;rw[if_pos ok,eF];rfl
    rw[eE]at h6;have hrd:Sv.ak n o t<=mC n o t':=by
     show t+_<=t'+_;exact Int.add_le_add_right ht _
    have hdep:=Cc m1 h6 w1 (by omega)
    rw[<- eD]at hdep;obtain⟨s,s1,s2⟩:=V1 hu hpl hdd f k _ (Sv.iN n (Sv.nxt p.2.2.1 o d) (Sv.ak n o t)+Sv.cM n (Sv.nxt p.2.2.1 o d)) _ (tl xs) lo h1 (by
     have e9:Sv.cM n (Sv.nxt p.2.2.1 o d)=(aU n (cellAt p o d)).2.2.2.2.1:=rfl;rw[e9];exact Int.add_le_add_right hdep _) (by
     have e8:(aU n (cellAt p o d)).2.2.1=Sv.pC n (Sv.nxt p.2.2.1 o d):=rfl;rw[e8,hr];exact h7)
    have e8:(aU n (cellAt p o d)).2.2.1=Sv.pC n (Sv.nxt p.2.2.1 o d):=rfl;rw[e8,hr]at s1;refine⟨s,?_,s2⟩;show([_]++r.1).getLast?=_;rw[List.getLast?_append,s1];rfl
theorem P6{w:List Bool}{h:Li}{a b c:Int}(h1:a<=b+1)(h2:b<=c): dc w h a c=dc w h a b++dc w h (b+1) c:=by
 unfold dc;rw[show(c+1-a).toNat=(b+1-a).toNat+(c+1-(b+1)).toNat by omega,List.range_add,yS,yV,List.map_map]
 congr 2
 refine zT λi _=>?_
 show a+((_+i:Nat):Int)=_;omega
theorem VZ{w:List Bool}{h:Li}{a b x:Int}(h1:a<=x)(h2:x<=b)(hw:wkF w h x=true): x∈dc w h a b:=by
 unfold dc;exact yG.2 ⟨vZ.2 ⟨(x-a).toNat,qU.2 (by omega),by omega⟩,hw⟩
theorem add_lt{w:List Bool}{h:Li}{D:Int}(hw:wkF w h D=true): ∀(k:Nat) {B e:Int},Sv.aBN w h k B=some e->e<D->k+1<=(dc w h (B+1) D).length
 | 0,B,e,g,hlt=>by
  cases g;exact List.length_pos_of_mem (VZ (by omega) (qM _) hw)
 | k+1,B,e,g,hlt=>by
  unfold Sv.aBN at g;obtain⟨y,g1,g2⟩:=yX.1 g;have hm:y∈Sv.dN w h (B+1) 60:=qAz (by unfold Sv.lQ at g1;rw[g1];rfl)
  obtain⟨y1,y2,y3⟩:=Sv.tI hm;have hb:=Sv.Pq k g2;have ih:=add_lt hw k g2 hlt;rw[P6 (b:=y) (by omega) (by omega),qF]
  have:=List.length_pos_of_mem (VZ (a:=B+1) (b:=y) y1 (qM _) y3);omega
theorem aAR{f:Nat->Li->Option (Li)}: ∀(m:Nat) {xs ys:Li},runN f m xs=some ys->∀i,i<m->∃u v,f i u=some v
 | 0,_,_,_,i,hi=>by omega
 | m+1,xs,ys,h,i,hi=>by
  rw[runN]at h;obtain⟨us,h1,h2⟩:=yX.1 h;rcases zC i m with g | g
  .exact aAR m h1 i g
  .have:i=m:=by omega
   subst this;exact⟨_,_,h2⟩
end Go.Eng.In
