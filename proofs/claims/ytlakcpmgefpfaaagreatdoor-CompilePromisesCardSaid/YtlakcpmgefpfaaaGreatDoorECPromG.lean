/- PeIn4n PeIn5n PeIn5bn PeCo6n PeCo7n PeCo8n PeCoPn PeCoSn PeCoRn PeH19 PeH20 -/
import Derived.Test.YtlakcpmgefpfaaaGreatDoorECPromA
import Derived.Test.YtlakcpmgefpfaaaGreatDoorECPromB
import Derived.Test.YtlakcpmgefpfaaaGreatDoorECPromC
import Derived.Test.YtlakcpmgefpfaaaGreatDoorECPromD
import Derived.Test.YtlakcpmgefpfaaaGreatDoorECPromE
import Derived.Test.YtlakcpmgefpfaaaGreatDoorECPromF
import Derived.ChangeSame
import Derived.Carry
import Derived.Deep.Slices
import Derived.ChangeArms
import Derived.OpenShut
set_option linter.unusedSimpArgs false
set_option linter.unusedVariables false
set_option maxRecDepth 100000
noncomputable section
namespace Go.Eng.In
open Go.Proofs
def bY(n:Net)(o:Int): Off:=n.2.2.2.1.getD o.toNat (⟨#[]⟩,0,0,0,0,0,[])
def au(n:Net)(o:Int): Cal:=n.1.getD (bY n o).2.2.1.toNat (0,[],[])
def eH(n:Net)(k:Int): Cla:=n.2.2.2.2.2.getD k.toNat (⟨#[]⟩,0,0)
def usP(n:Net): Prop:=usF n=true/\rB n
def js(n:Net)(o:Int): Prop:=0<=o/\o<n.2.2.2.1.length
def UU(n:Net)(k:Int): Prop:=0<=k/\k<n.2.2.2.2.2.length
def tOk(t:Int): Prop:=-3000000000<=t/\t<=3000000000
def sY(n:Net)(o t:Int): Int:=t+(bY n o).2.2.2.2.1*(bY n o).2.2.2.2.2.1
def VG(n:Net)(o t:Int): Prop:=usP n/\js n o/\tOk t
def cellAt(p:Plan)(o d:Int): Int:=(p.2.2.1.getD o.toNat []).getD d.toNat 0
def jm(p:Plan)(k o d:Int): Int:=((p.2.2.2.getD k.toNat []).getD o.toNat []).getD d.toNat 0
def plP(n:Net)(p:Plan): Prop:=(0<=p.1/\p.1<=p.2.1/\p.2.1<=600)/\(p.2.2.1.length=n.2.2.2.1.length/\∀r∈p.2.2.1,r.length=n.2.2.2.1.length)/\(∀i j:Int,js n i->js n j->ku n i (cellAt p i j)=true/\-1<=cellAt p i j)/\
 p.2.2.2.length=n.2.2.2.2.2.length/\∀t∈p.2.2.2,t.length=n.2.2.2.1.length/\∀r∈t,r.length=n.2.2.2.1.length
def td(n:Net)(o l:Int)(p:Plan)(x t:Int): Bool:=wkF (au n o).2.1 (au n o).2.2 (x-2+p.1)&&decide (vR (au n o).1 (x-2+p.1) (ew n l).2.2.2.1≥sY n o t)
def FU(n:Net)(p:Plan)(d:Int): Nat->Int->Int->Li->Bool×Int×Li
 | 0,o,t,xs=>(decide (o=d),t,xs)
 | f+1,o,t,xs=>if o=d then(true,t,xs)else if cellAt p o d=-1 then(false,t,xs)else if bR xs=false then(false,t,xs)else
  if td n o (cellAt p o d) p (hd xs) t=true then FU n p d f (ew n (cellAt p o d)).2.2.1 (vR (au n o).1 (hd xs-2+p.1) (ew n (cellAt p o d)).2.2.2.1+(ew n (cellAt p o d)).2.2.2.2.1) (tl xs)else(false,t,tl xs)
def uQ(n:Net)(p:Plan)(o d t:Int)(xs:Li): Bool:=(FU n p d 19 o t xs).1
def uP(n:Net)(p:Plan)(o d t:Int)(xs:Li): Int:=(FU n p d 19 o t xs).2.1
def H4(n:Net)(p:Plan)(o d t:Int)(xs:Li): Li:=(FU n p d 19 o t xs).2.2
def H5(n:Net)(p:Plan)(o d t:Int)(xs:Li): Prop:=((usP n/\plP n p)/\js n o/\js n d)/\tOk t/\dI xs
def Ut(n:Net)(p:Plan)(d o0 t0:Int)(xs0:Li)(k o t:Int)(xs:Li): Prop:=(0<=k/\k<=19/\H5 n p o d t xs)/\FU n p d (19-k).toNat o t xs=FU n p d 19 o0 t0 xs0
def Qh(c:Cal)(m t:Int): Int:=if m<cP c.1 t then bh c.1 t+1 else bh c.1 t
def ZZ(c:Cal)(m t:Int): Option Int:=(gX c.2.1 c.2.2 (Qh c m t) (Qh c m t+59)).head?
def nE(c:Cal)(m t:Int): Bool:=(ZZ c m t).isSome
def JR(c:Cal)(m t:Int): Int:=(ZZ c m t).getD 0
def UA(c:Cal)(t:Int): Prop:=nG c=true/\big t
def yW(k:Nat): Prop:=k=0
def U4(n:Net)(d cut:Int): Int:=bh (au n d).1 cut
def JE(n:Net)(p:Plan)(k o d cut:Int)(xs:Li): Int:=JR (au n d) (eH n k).2.2 (sY n d (uP n p o d cut xs))
def TQ(n:Net)(p:Plan)(k o d cut:Int)(xs:Li): Li:=gX (au n d).2.1 (au n d).2.2 (U4 n d cut+1) (JE n p k o d cut xs)
def uK(n:Net)(p:Plan)(k o d cut:Int)(xs:Li): Bool:=uQ n p o d cut xs&&(nE (au n d) (eH n k).2.2 (sY n d (uP n p o d cut xs))&&(decide (JE n p k o d cut xs-U4 n d cut<=2000)&&decide (((TQ n p k o d cut xs).length:Int)<=jm p k o d)))
def VI(n:Net)(p:Plan)(k o d cut:Int)(xs:Li): Prop:=H5 n p o d cut xs/\UU n k
def Pe(k:Nat): Prop:=k<=4000000000000
def uh(p:Plan)(t:Int): Bool:=decide (1440*p.1<=t)&&decide (t<1440*p.2.1)
def JU(n:Net)(p:Plan)(o:Int): Li:=gX (au n o).2.1 (au n o).2.2 (p.1-1) (p.2.1+1)
def JS(n:Net)(k o d:Int): Int:=vR (au n o).1 d (eH n k).2.1
def jJ(n:Net)(p:Plan)(k o:Int): Li:=((JU n p o).map λd=>JS n k o d).filter (uh p)
def KL(n:Net)(p:Plan)(k o:Int)(j:Nat): Nat:=((((JU n p o).take j).map λd=>JS n k o d).filter (uh p)).length
def aCa(n:Net)(p:Plan)(k o:Int): Prop:=(usP n/\plP n p)/\js n o/\UU n k
theorem QQ(n:Net)(p:Plan)(o t:Int)(hvc:
 let c2:=(Du n.2.2.2.1 (Dc o) (ByteArray.mk #[],(0:Int),(0:Int),(0:Int),(0:Int),(0:Int),Dt ByteArray)).2.2.2.2;let c3:=c2.1*c2.2.1;let c4:=t+c3;true/\(VG n o t->0<=o/\o<Df n.2.2.2.1/\inR .i64 c3/\inR .i64 c4/\c4=sY n o t/\True)):
  evF (mkc rG) aA 157 [.ips [.ip N n,.ip Pl p,.top],.dat I o,.dat I t] [] ⟨VG n o t,.dat I (sY n o t),[]⟩:=oE hvc
theorem IW(n:Net)(p:Plan)(o:Int)(hvc:
 let c2:=(Du n.2.2.2.1 (Dc o) (ByteArray.mk #[],(0:Int),(0:Int),(0:Int),(0:Int),(0:Int),Dt ByteArray)).2.2.1;true/\(usP n/\js n o->0<=o/\o<Df n.2.2.2.1/\0<=c2/\c2<Df n.1/\Du n.1 (Dc c2) ((0:Int),Dt Bool,Dt Int)=au n o/\True)):
  evF (mkc rG) aA 152 [.ips [.ip N n,.ip Pl p,.top],.dat I o] [] ⟨usP n/\js n o,.ip C (au n o),[]⟩:=oE hvc
theorem Xf(n:Net)(p:Plan)(k o:Int)(hvc:
 true/\(True->n=n/\p=p/\o=o/\k=k/\True)):
  evF (mkc rG) aA 82 [.ips [.ip N n,.ip Pl p,.top],.dat I k,.dat I o] [] ⟨True,.fn 151 [.ipv (.ips [.ip N n,.ip Pl p,.top]),.ip I o,.ip I k],[]⟩:=oE hvc
def GI: Kt:=kOr 157 (az [.pvf N Pl,.val I,.val I] (λ((n,_),o,t,_)=>VG n o t) λ((n,_),o,t,_)=>.dat I (sY n o t)) <|
 kOr 152 (az [.pvf N Pl,.val I] (λ((n,_),o,_)=>usP n/\js n o) λ((n,_),o,_)=>.ip C (au n o)) <|
 kOr 82 (az [.pvf N Pl,.val I,.val I] (λ_=>True) λ((n,p),k,o,_)=>.fn 151 [.ipv (.ips [.ip N n,.ip Pl p,.top]),.ip I o,.ip I k]) rG
def KI1: FuncId->List AV->Option jr:=λf caps=>if f=219 then match ofK [.ptr I,.ptr I,.bp C] caps with
 | some (a,b,c,_)=>some ⟨wdP c.2.1 c.2.2 a b,I,gX c.2.1 c.2.2 a b⟩
 | none=>none
 else none
noncomputable def TX(K:Kt)(KI:FuncId->List AV->Option jr)(KP:KPt)(pf:FuncId->Bool): Cfg:=⟨Tryz.prog,dY,K,λ_=>false,KI,true,KP,pf⟩
def mki(K:Kt)(KI:FuncId->List AV->Option jr): Cfg:={mkc K with KI:=KI}
def aGf(n:Net)(p:Plan)(k o:Int): ZM:=⟨aA,⟨λ_ _=>none,λ_ _=>none,λid=>id==6⟩,λs=>some (frz (allNames s) s),λj=>KL n p k o j⟩
theorem Xg(n:Net)(p:Plan)(k o:Int)(hvc:
 let c6:=au n o;let c3:=(Ty.int .i64).pair (Ty.bool.sl.pair (Ty.int .i64).sl);let c1:=p.2.1;let c2:=1440*p.1;let c5:=1440*c1;let aQ:=p.1-1;let c7:=c1+1;let c8:=c6.2;let c11:=gX c8.1 c8.2 aQ c7;let c12:=jJ n p k o;let c13:=Dj c12;let c15:=c6.1;let c16:=(Du n.2.2.2.2.2 (Dc k) (ByteArray.mk #[],(0:Int),(0:Int))).2.1;true/\true/\true/\false=false/\∀(l:Nat),aCa n p k o->(usP n/\js n o)/\1=1/\0=0/\inR .i64 c2/\inR .i64 c5/\1=1/\0=0/\1=1/\0=0/\1=1/\0=0/\inR IntKind.i64 aQ/\inR .i64 c7/\True/\l=l/\n=n/\p=p/\o=o/\k=k/\l=l/\1=1/\0=0/\AV.ip c3 c6=AV.ip c3 c6/\1=1/\0=0/\c2=c2/\1=1/\0=0/\c5=c5/\n=n/\p=p/\o=o/\au n o=au n o/\n=n/\p=p/\n=n/\p=p/\p=p/\p=p/\p=p/\p=p/\p.1=p.1/\c2=c2/\n=n/\p=p/\n=n/\p=p/\p=p/\p=p/\p=p/\p.2=p.2/\c1=c1/\c5=c5/\au n o=au n o/\n=n/\p=p/\n=n/\p=p/\p=p/\p=p/\p=p/\p=p/\p.1=p.1/\aQ=aQ/\n=n/\p=p/\n=n/\p=p/\p=p/\p=p/\p=p/\p.2=p.2/\c1=c1/\c7=c7/\aQ=aQ/\c7=c7/\au n o=au n o/\wdP c8.1 c8.2 aQ c7/\KL n p k o 0=0/\KL n p k o (Dj c11)=c13/\∀(j:Nat),let c17:=KL n p k o j;let c18:=c17+1;let c19:=KL n p k o (j+1);∀(y:Int),let c20:=Ed (vR c15 y c16) c2;let c9:=c20->c20->c20;let c21:=Dz c20 (Dp (vR c15 y c16) c5) false;let c4:=Dk true c21->c21;let c22:=Dz c21 (Di false) false;lu c11 j y->true/\0<=k/\k<Df n.2.2.2.2.2/\(big c15/\big y/\big c16)/\c9/\c9/\(Dk true c20->c20)/\(c21->(c21->c21)/\(c21->c21)/\l=l/\true/\lu c12 c17 (vR c15 y c16)/\∀(b:Bool),let c23:=Dz c21 (Di b) false;c4/\(c23->b->c18=c13)/\(c23=false->b/\c18=c19))/\(c21=false->(c21->c21->c21)/\c4/\(c22->true->c17=c13)/\(c22=false->true/\c17=c19))):
  aEL (mki GI KI1) (aGf n p k o) 151 [.ipv (.ips [.ip N n,.ip Pl p,.top]),.ip I o,.ip I k] ⟨aCa n p k o,I,jJ n p k o⟩:=oE hvc
def aGa(n:Net)(p:Plan)(d o0 t0:Int)(xs0:Li): Ann:=⟨λid s=>match id with
 | 2=>some {α:=Int×Int×Int×Li,inv:=λx=>Ut n p d o0 t0 xs0 x.1 x.2.1 x.2.2.1 x.2.2.2,st:=λx=>iE (put (fP s) [(9,.dat I x.1),(1,.dat I x.2.1),(3,.dat I x.2.2.1)]) 1 (.var [.dat R x.2.2.2]),μ:=λx=>Dc (Dh 19 x.1)}
 | _=>none,λ_ _=>none,λ_ _=>none⟩
def aCJ: Kt:=kOr 207 (VN 1 R [.mp 1] (λ_ xs=>True/\bR xs=true) (λ_ xs=>.dat I (hd xs)) λ_ xs=>tl xs) GI
def c12: Cfg:=Jr aCJ (λ_=>false) KP6 (λf=>f==79||f==207)
theorem LG(n:Net)(p:Plan)(o d t:Int)(xs:Li)(hvc:
 let c1:=p.2.2.1;let c2:=uQ n p o d t xs;let c3:=chainOf (Value.iface 39 (Value.int .i64 (190:Int)));let c4:=n.2.2.2.2.1;let c5:=p.1;let aQ:=(ByteArray.mk #[],(0:Int),(0:Int),(0:Int),(0:Int),(0:Int));true/\(H5 n p o d t xs->1=1/\(∃(x:Int×Int×Int×Li),let c7:=x.1;let c8:=x.2;let c9:=c8.1;let c10:=c8.2;let c11:=c10.1;let c12:=c10.2;Ut n p d o t xs c7 c9 c11 c12/\n=n/\p=p/\1=1/\0=0/\0=0/\o=c9/\d=d/\t=c11/\(0:Int)=(0:Int)/\0=c7/\xs=c12/\1=1/\True)/\∀(x:Int×Int×Int×Li),let c13:=x.1;let c14:=x.2;let c15:=c14.1;let c16:=c14.2;let c17:=c16.1;let c18:=c16.2;let c19:=Ec c15 d;let c20:=Du c1 (Dc c15) [];let c21:=Dp c13 19;let c22:=Du c20 (Dc d) 0;let c23:=Dz c21 (Ec c22 (-1)) false;let c24:=bR c18;let c25:=hd c18-2;let c26:=c25+c5;let c27:=au n c15;let c28:=c27.1;let c29:=(Du c4 (Dc c22) aQ).2.2;let c30:=c29.2;let c31:=c30.1;let c32:=c27.2;let c33:=c32.1;let c34:=c32.2;let c35:=wkF c33 c34 c26;let c36:=vR c28 c26 c31;let c37:=Dz c35 (Ed c36 (sY n c15 c17)) false;let c38:=c36+c30.2.1;let c39:=c13+1;
 Ut n p d o t xs c13 c15 c17 c18->(c19->0<=c15/\c15<Df c1/\0<=d/\d<Df c20/\(c21->c21->c21)/\(Dk true c21->c21)/\(true->True/\(c23=false->c2=false/\true/\c3=c3))/\((true->c23)->(True/\c23)/\0<=c22/\c22<Df c4/\(usP n/\js n c15)/\True/\(c24->(True/\c24)/\1=1/\inR .i64 c25/\inR .i64 c26/\(big c28/\big c26/\big c31)/\wkP c33 c34 c26/\(c35->c35->c35)/\(c35->c35->c35)/\(c35->c35->c35)/\(c35->VG n c15 c17)/\(c35->c35->c35)/\(c35->c35->c35)/\(Dk true c35->c35)/\(true->True/\(c37=false->c2=false/\true/\c3=c3))/\((true->c37)->(True/\c37)/\inR .i64 c38/\inR .i64 c39/\∃(y:Int×Int×Int×Li),let c40:=y.1;let c41:=y.2;let c42:=c41.1;let c43:=c41.2;let c44:=c43.1;let c45:=c43.2;Ut n p d o t xs c40 c42 c44 c45/\(n=n/\p=p/\1=1/\0=0/\0=0/\c29.1=c42/\d=d/\c38=c44/\(0:Int)=(0:Int)/\c39=c40/\tl c18=c45/\1=1/\True)/\Dc (19-c40)<Dc (19-c13)))/\(c24=false->c2=false/\true/\c3=c3)))/\(c19=false->c2/\c17=uP n p o d t xs/\c18=H4 n p o d t xs/\1=1/\True))):
  evM c12 (aGa n p d o t xs) 155 [.ips [.ip N n,.ip Pl p,.ptr 1 1 0 0],.dat I o,.dat I d,.dat I t] [(1,.var [.dat R xs])] (.dat I (uP n p o d t xs)) [(1,.var [.dat R (H4 n p o d t xs)])] ⟨H5 n p o d t xs,uQ n p o d t xs,dA 39 190⟩:=oE hvc
def aGe: Ann:=⟨λid s=>match id with
 | 5=>some {α:=Nat,inv:=λk=>yW k,st:=λ_=>fP s,μ:=λk=>k}
 | _=>none,λ_ _=>none,λ_ _=>none⟩
theorem Rl(z m t:Int)(w:List Bool)(h:Li)(hvc:
 let c1:=(z,w,h);let c2:=Dp m (cP z t);let c3:=bh z t+1;let c4:=c3+60;let c5:=c4-1;let aQ:=gX w h c3 c5;let c7:=nE c1 m t;let c8:=chainOf (Value.iface 39 (Value.int .i64 (190:Int)));let c6:=true->True/\(false=false->c7=false/\true/\c8=c8);let c9:=bh z t+60;let c10:=c9-1;let c11:=gX w h (bh z t) c10;true/\(UA c1 t->(big z/\big t)/\(c2->inR .i64 c3/\inR .i64 c4/\inR .i64 c5/\True/\wdP w h c3 c5/\(∃x,yW x/\x=0/\c1=c1/\m=m/\t=t/\1=1/\0=0/\0=0/\c3=c3/\cP z t=cP z t/\bh z t=bh z t/\cP z t=cP z t/\c1=c1/\t=t/\bh z t=bh z t/\cP z t=cP z t/\bh z t=bh z t/\cP z t=cP z t/\m=m/\cP z t=cP z t/\c2=c2/\bh z t=bh z t/\c3=c3/\c1=c1/\c3=c3/\c3=c3/\c4=c4/\c5=c5/\c3=c3/\c5=c5/\c1=c1/\(0:Int)=(0:Int)/\True)/\(∀(x:Nat) (y:Int),yW x->lu aQ x y->1=1/\0=0/\c7/\1=1/\0=0/\y=JR c1 m t/\True)/\∀(x:Nat),yW x->x=Dj aQ->c6/\True)/\(c2=false->inR .i64 c9/\inR .i64 c10/\True/\wdP w h (bh z t) c10/\(∃x,yW x/\x=0/\c1=c1/\m=m/\t=t/\1=1/\0=0/\0=0/\bh z t=bh z t/\cP z t=cP z t/\bh z t=bh z t/\cP z t=cP z t/\c1=c1/\t=t/\bh z t=bh z t/\cP z t=cP z t/\bh z t=bh z t/\cP z t=cP z t/\m=m/\cP z t=cP z t/\c2=c2/\c1=c1/\bh z t=bh z t/\bh z t=bh z t/\c9=c9/\c10=c10/\bh z t=bh z t/\c10=c10/\c1=c1/\(0:Int)=(0:Int)/\True)/\(∀(x:Nat) (y:Int),yW x->lu c11 x y->1=1/\0=0/\c7/\1=1/\0=0/\y=JR c1 m t/\True)/\∀(x:Nat),yW x->x=Dj c11->c6/\True))):
  evC (TX GI KI1 Go.Eng.noP (λ_=>false)) aGe 156 [.ip C (z,w,h),.dat I m,.dat I t] (.dat I (JR (z,w,h) m t)) ⟨UA (z,w,h) t,nE (z,w,h) m t,dA 39 190⟩:=oE hvc
def ZK: Kt:=kOr 155 (VN 1 R [.pv 1 N Pl,.val I,.val I,.val I] (λ((n,p),o,d,t,_) xs=>H5 n p o d t xs/\uQ n p o d t xs=true) (λ((n,p),o,d,t,_) xs=>.dat I (uP n p o d t xs)) λ((n,p),o,d,t,_) xs=>H4 n p o d t xs) <|
 kOr 156 (az [.ptr C,.val I,.val I] (λ(c,m,t,_)=>UA c t/\nE c m t=true) λ(c,m,t,_)=>.dat I (JR c m t)) GI
def aFU: KPt:=pOr 155 (YL 1 R [.pv 1 N Pl,.val I,.val I,.val I] λ((n,p),o,d,t,_) xs=>⟨H5 n p o d t xs,uQ n p o d t xs,dA 39 190⟩) <|
 pOr 156 (uR [.ptr C,.val I,.val I] λ(c,m,t,_)=>⟨UA c t,nE c m t,dA 39 190⟩) KPr
def c13: Cfg:=TX ZK KI1 aFU (λf=>f==79||f==155||f==156)
def aF2: Ann:=⟨λid s=>match id with
 | 7=>match s.sig.T 15 with
  | .ptr nm _ _ _=>some {α:=Nat,inv:=λk=>Pe k,st:=λk=>iE (fP s) nm (.var [.dat I (Dx k)]),μ:=λk=>k}
  | _=>none
 | _=>none,λ_ _=>none,λ_ _=>none⟩
theorem QS(n:Net)(p:Plan)(k o d cut:Int)(xs:Li)(hvc:
 let c1:=uQ n p o d cut xs;let c2:=uK n p k o d cut xs;let c3:=chainOf (Value.iface 39 (Value.int .i64 (190:Int)));let c4:=n.2.2.2.2.2;let c5:=uP n p o d cut xs;let aQ:=sY n d c5;let c7:=Du c4 (Dc k) (ByteArray.mk #[],(0:Int),(0:Int));let c8:=c7.2.2;let c9:=nE (au n d) c8 aQ;let c10:=(au n d).1;let c11:=JR (au n d) c8 aQ;let c12:=bh c10 cut;let c13:=c11-c12;let c14:=Eh c13 2000;let c15:=c12+1;let c16:=(au n d).2;let c17:=c16.1;let c18:=c16.2;let c19:=cP c10 cut;let c20:=H4 n p o d cut xs;let c21:=gX c17 c18 c15 c11;let c22:=p.2.2.2;let c23:=Du c22 (Dc k) (Dt (Li));let c24:=Du c23 (Dc o) [];let c25:=Du c24 (Dc d) 0;
 true/\(VI n p k o d cut xs->1=1/\(true->H5 n p o d cut xs/\(c1=false->c2=false/\true/\c3=c3))/\((true->c1)->(H5 n p o d cut xs/\c1)/\1=1/\(usP n/\js n d)/\0<=k/\k<Df c4/\VG n d c5/\UA (au n d) aQ/\(c9->0<=k/\k<Df c4/\VG n d c5/\(UA (au n d) aQ/\c9)/\(big c10/\big cut)/\inR .i64 c13/\(true->True/\(c14=false->c2=false/\true/\c3=c3))/\((true->c14)->(True/\c14)/\1=1/\0=0/\inR .i64 c15/\True/\wdP c17 c18 c15 c11/\(∃x,Pe x/\x=0/\n=n/\p=p/\1=1/\0=0/\0=0/\k=k/\o=o/\d=d/\cut=cut/\c5=c5/\au n d=au n d/\c11=c11/\c12=c12/\c19=c19/\1=1/\0=0/\0=0/\n=n/\p=p/\1=1/\0=0/\0=0/\o=o/\d=d/\cut=cut/\c5=c5/\n=n/\p=p/\1=1/\0=0/\0=0/\d=d/\au n d=au n d/\au n d=au n d/\n=n/\p=p/\1=1/\0=0/\0=0/\n=n/\p=p/\1=1/\0=0/\0=0/\n=n/\p=p/\1=1/\0=0/\0=0/\n=n/\n=n/\c4=c4/\c4=c4/\k=k/\c7=c7/\c8=c8/\c8=c8/\n=n/\p=p/\1=1/\0=0/\0=0/\d=d/\c5=c5/\aQ=aQ/\c11=c11/\c12=c12/\c19=c19/\au n d=au n d/\cut=cut/\c12=c12/\c19=c19/\c12=c12/\c19=c19/\c11=c11/\c12=c12/\c13=c13/\c14=c14/\au n d=au n d/\c12=c12/\c15=c15/\c11=c11/\c15=c15/\c11=c11/\au n d=au n d/\c20=c20/\0=Dx x/\1=1/\True)/\(∀(x:Nat),let c26:=Dx x+1;
 ∀(y:Int),Pe x->lu c21 x y->1=1/\0=0/\inR .i64 c26/\1=1/\0=0/\∃z,Pe z/\z=x+1/\n=n/\p=p/\1=1/\0=0/\0=0/\k=k/\o=o/\d=d/\cut=cut/\c5=c5/\au n d=au n d/\c11=c11/\c12=c12/\c19=c19/\1=1/\0=0/\0=0/\n=n/\p=p/\1=1/\0=0/\0=0/\o=o/\d=d/\cut=cut/\c5=c5/\n=n/\p=p/\1=1/\0=0/\0=0/\d=d/\au n d=au n d/\au n d=au n d/\n=n/\p=p/\1=1/\0=0/\0=0/\n=n/\p=p/\1=1/\0=0/\0=0/\n=n/\p=p/\1=1/\0=0/\0=0/\n=n/\n=n/\c4=c4/\c4=c4/\k=k/\c7=c7/\c8=c8/\c8=c8/\n=n/\p=p/\1=1/\0=0/\0=0/\d=d/\c5=c5/\aQ=aQ/\c11=c11/\c12=c12/\c19=c19/\au n d=au n d/\cut=cut/\c12=c12/\c19=c19/\c12=c12/\c19=c19/\c11=c11/\c12=c12/\c13=c13/\c14=c14/\au n d=au n d/\c12=c12/\c15=c15/\c11=c11/\c15=c15/\c11=c11/\au n d=au n d/\c20=c20/\c26=Dx z/\1=1/\True)/\∀(x:Nat),Pe x->x=Dj c21->1=1/\0=0/\0<=k/\k<Df c22/\0<=o/\o<Df c23/\0<=d/\d<Df c24/\True/\(Eh (Dx x) c25->1=1/\0=0/\0<=k/\k<Df c22/\0<=o/\o<Df c23/\0<=d/\d<Df c24/\(True/\Eh (Dx x) c25)/\c2/\c20=c20/\1=1/\True)/\(Eh (Dx x) c25=false->c2=false/\true/\c3=c3)))/\(c9=false->c2=false/\true/\c3=c3)))):
  evM c13 aF2 83 [.ips [.ip N n,.ip Pl p,.ptr 1 1 0 0],.dat I k,.dat I o,.dat I d,.dat I cut] [(1,.var [.dat R xs])] (.tup []) [(1,.var [.dat R (H4 n p o d cut xs)])] ⟨VI n p k o d cut xs,uK n p k o d cut xs,dA 39 190⟩:=oE hvc
theorem GZ{n:Net}(h:usP n): ((∀c∈n.1,nG c=true)/\(∀o∈n.2.2.2.1,lM n o=true))/\(∀l∈n.2.2.2.2.1,lQ n l=true)/\∀k∈n.2.2.2.2.2,l7 k=true:=by
 have:=h.1;unfold usF at this;simp only[qC,qM]at this;exact⟨⟨this.1.1.1,this.1.1.2⟩,this.1.2,this.2⟩
theorem LN{n:Net}{o:Int}(h:usP n)(ho:js n o): (0<=(bY n o).2.2.1/\(bY n o).2.2.1<n.1.length)/\(1<=(bY n o).2.2.2.2.1/\(bY n o).2.2.2.2.1<=1000)/\1<=(bY n o).2.2.2.2.2.1/\(bY n o).2.2.2.2.2.1<=1000:=by
 have:=(GZ h).1.2 (bY n o) (aU (by have:=ho.1;have:=ho.2;omega));unfold lM at this;simp only[qC,nI]at this;omega
theorem GY{n:Net}{o:Int}(h:usP n)(ho:js n o): nG (au n o)=true:=
 (GZ h).1.1 _ (aU (by have:=(LN h ho).1;omega))
theorem Vm{n:Net}{l:Int}(h:usP n)(h0:0<=l)(h1:l<n.2.2.2.2.1.length): js n (ew n l).2.1/\js n (ew n l).2.2.1/\(0<=(ew n l).2.2.2.1/\(ew n l).2.2.2.1<=1439)/\1<=(ew n l).2.2.2.2.1/\(ew n l).2.2.2.2.1<=100000:=by
 have:=(GZ h).2.1 (ew n l) (aU (by omega));unfold lQ kb at this;simp only[qC,nI]at this;unfold js;omega
theorem Vn{n:Net}{k:Int}(h:usP n)(hk:UU n k): (0<=(eH n k).2.1/\(eH n k).2.1<=1439)/\0<=(eH n k).2.2/\(eH n k).2.2<=1439:=by
 have:=(GZ h).2.2 (eH n k) (aU (by have:=hk.1;have:=hk.2;omega));unfold l7 at this;simp only[qC,nI]at this;omega
theorem l8{c:Cal}(h:nG c=true): (-720<=c.1/\c.1<=840)/\c.2.1.length=7/\srt c.2.2:=by
 have:=(iW.1 h).1;exact⟨⟨this.1,this.2.1⟩,this.2.2.1,LM h⟩
theorem VF{n:Net}{o t:Int}(h:usP n)(ho:js n o): t+1<=sY n o t/\sY n o t<=t+1000000:=by
 obtain⟨_,⟨a1,a2⟩,b1,b2⟩:=LN h ho;unfold sY;have h1:1*1<=(bY n o).2.2.2.2.1*(bY n o).2.2.2.2.2.1:=xI a1 b1 (by decide) (by omega);have h2:(bY n o).2.2.2.2.1*(bY n o).2.2.2.2.2.1<=1000*1000:=xI a2 b2 (by omega) (by decide);omega
theorem XK(n:Net)(p:Plan)(o t:Int): af Tryz.prog dY 157 [.ips [.ip N n,.ip Pl p,.top],.dat I o,.dat I t] [] ⟨VG n o t,.dat I (sY n o t),[]⟩:=by
 refine ae (c:=mkc rG) Z5 aJ hm (QQ n p o t ⟨rfl,λ⟨hu,ho,ht⟩=>?_⟩);obtain⟨r1,r2⟩:=VF (t:=t) hu ho;obtain⟨t1,t2⟩:=ht;have e:sY n o t=t+(bY n o).2.2.2.2.1*(bY n o).2.2.2.2.2.1:=rfl;refine⟨ho.1,ho.2,aB ?_,aB ?_,rfl,trivial⟩
 .show _<=(bY n o).2.2.2.2.1*(bY n o).2.2.2.2.2.1/\(bY n o).2.2.2.2.1*(bY n o).2.2.2.2.2.1<=_;omega
 .show _<=t+(bY n o).2.2.2.2.1*(bY n o).2.2.2.2.2.1/\t+(bY n o).2.2.2.2.1*(bY n o).2.2.2.2.2.1<=_;omega
theorem MJ(n:Net)(p:Plan)(o:Int): af Tryz.prog dY 152 [.ips [.ip N n,.ip Pl p,.top],.dat I o] [] ⟨usP n/\js n o,.ip C (au n o),[]⟩:=by
 refine ae (c:=mkc rG) Z5 aJ hm (IW n p o ⟨rfl,λ⟨hu,ho⟩=>?_⟩);have:=(LN hu ho).1;exact⟨ho.1,ho.2,this.1,this.2,rfl,trivial⟩
theorem aA5(n:Net)(p:Plan)(k o:Int): af Tryz.prog dY 82 [.ips [.ip N n,.ip Pl p,.top],.dat I k,.dat I o] [] ⟨True,.fn 151 [.ipv (.ips [.ip N n,.ip Pl p,.top]),.ip I o,.ip I k],[]⟩:=
 ae (c:=mkc rG) Z5 aJ hm (Xf n p k o ⟨rfl,λ_=>by simp⟩)
theorem aDf: ak Tryz.prog dY GI:=ai (ag λ((n,p),o,t,_)=>XK n p o t)<|ai (ag λ((n,p),o,_)=>MJ n p o)<|ai (ag λ((n,p),k,o,_)=>aA5 n p k o) Z5
theorem mR.args {P:Program} {G:List (Nat×AV)} {gf:FuncId} {xs ys:List AV} {it:jr} (h:mR P G gf ys it) (hab:∀(C:Ctx) us,AV.relL P C xs us->AV.relL P C ys us):mR P G gf xs it:=
 λhp l J JX JP w D us hD hG hu=>h hp l J JX JP w D us hD hG (hab _ us hu)
theorem aDg: bv Tryz.prog dY KI1:=by
 intro f caps it h;unfold KI1 at h;split at h
 .rename_i e;subst e;split at h
  .rename_i a b c _ hx;cases h;exact mR.args (aDy c.1 a b c.2.1 c.2.2) λC us hu=>fi hx hu
  .cases h
 .cases h
theorem UD(n:Net)(p:Plan)(k o:Int): KL n p k o (JU n p o).length=(jJ n p k o).length:=by
 unfold KL jJ;rw[qO (qJ _)]
theorem O3{n:Net}{p:Plan}{k o:Int}{j:Nat}{y:Int}(h:lu (JU n p o) j y): KL n p k o (j+1)=KL n p k o j+(if uh p (JS n k o y)=true then 1 else 0):=by
 have h:(JU n p o)[j]?=some y:=h;unfold KL;rw[wW,h,yN,yP,qG]
 congr 1
 simp only[Option.toList,zH,qCf,xE,qBj];split<;>rfl
theorem Ze{n:Net}{p:Plan}{k o:Int}{j:Nat}{y:Int}(h:lu (JU n p o) j y)(hc:uh p (JS n k o y)=true): lu (jJ n p k o) (KL n p k o j) (JS n k o y):=by
 have h:(JU n p o)[j]?=some y:=h;obtain⟨hj,hy⟩:=qF.1 h;have e:JU n p o=(JU n p o).take j++y::(JU n p o).drop (j+1):=by rw[<- hy,List.getElem_cons_drop,xA]
 have e2:jJ n p k o=(((JU n p o).take j).map λd=>JS n k o d).filter (uh p)++((y::(JU n p o).drop (j+1)).map λd=>JS n k o d).filter (uh p):=by
  unfold jJ
  conv=>lhs;rw[e]
  rw[yN,yP]
 unfold lu;rw[e2];unfold KL;rw[qW (qJ _),qCe,zH,xE,if_pos hc];rfl
theorem Vk{w:List Bool}{h:Li}{a b x:Int}(hx:x∈gX w h a b): a<=x/\x<=b/\wkF w h x=true:=by
 unfold gX at hx;rw[xO,wZ]at hx;obtain⟨⟨i,hi,rfl⟩,h2⟩:=hx;have:=qX.1 hi;exact⟨by omega,by omega,h2⟩
theorem aA6(n:Net)(p:Plan)(k o:Int): mR Tryz.prog dY 151 [.ipv (.ips [.ip N n,.ip Pl p,.top]),.ip I o,.ip I k] ⟨aCa n p k o,I,jJ n p k o⟩:=by
 refine FG (c:=mki GI KI1) aDf aDg hm (Xg n p k o ⟨rfl,rfl,rfl,rfl,λl ⟨⟨hu,hp⟩,ho,hk⟩=>?_⟩);obtain⟨⟨p0,p1,p2⟩,_⟩:=hp;have hc:=GY hu ho;obtain⟨⟨z1,z2⟩,hw,hs⟩:=l8 hc;have hcl:=Vn hu hk;simp only[zS];refine⟨⟨hu,ho⟩,aB (by omega),aB (by omega),aB (by omega),aB (by omega),⟨hw,hs,⟨by omega,by omega⟩,⟨by omega,by omega⟩⟩,rfl,UD n p k o,λj y hy=>?_⟩;have hy':lu (JU n p o) j y:=hy
 have hm2:=Vk (zD hy');have hk2:=O3 (k:=k) hy';have eM:vR (au n o).1 y (eH n k).2.1=JS n k o y:=rfl;have eC:Dz (Ed (JS n k o y) (Ee 1440 p.1)) (Dp (JS n k o y) (Ee 1440 p.2.1)) false=uh p (JS n k o y):=by
  rw[Pg];rfl
 have two:∀{q:Prop},q->(q/\q):=λh=>⟨h,h⟩
 refine⟨hk.1,hk.2,⟨⟨by omega,by omega⟩,⟨by omega,by omega⟩,⟨by show _<=(eH n k).2.1;omega,by show(eH n k).2.1<=_;omega⟩⟩,?_⟩;simp only[qBk,kV,zS];refine⟨λh=>by simpa[Dk]using h,λhc1=>?_,λhc1=>?_⟩
 .have hin:uh p (JS n k o y)=true:=by rw[<- eC];exact hc1
  rw[if_pos hin]at hk2;refine⟨Ze hy' hin,λb=>⟨λ_=>hc1,λh1 h2=>?_,λh1=>?_⟩⟩
  .rw[h2]at h1;rw[hc1]at h1;cases h1
  .rw[hc1]at h1;have:b=true:=by simpa[Dz,Di]using h1
   exact⟨this,hk2.symm⟩
 .have hin:uh p (JS n k o y)=false:=by rw[<- eC];exact hc1
  rw[if_neg (by rw[hin];exact Bool.false_ne_true)]at hk2;refine⟨λh=>by simpa[Dk]using h,?_,?_⟩
  .intro h;rw[hc1]at h;cases h
  .intro _;exact hk2.symm
theorem aCD: ak Tryz.prog dY aCJ:=ai (pE λ_ xs=>(sc xs).1) aDf
theorem G5(n:Net)(p:Plan)(o d t:Int)(xs:Li): af Tryz.prog dY 155 [.ips [.ip N n,.ip Pl p,.ptr 1 1 0 0],.dat I o,.dat I d,.dat I t] [(1,.var [.dat R xs])] ⟨H5 n p o d t xs/\uQ n p o d t xs=true,.dat I (uP n p o d t xs),[(1,.var [.dat R (H4 n p o d t xs)])]⟩/\
  da Tryz.prog dY 155 [.ips [.ip N n,.ip Pl p,.ptr 1 1 0 0],.dat I o,.dat I d,.dat I t] [(1,.var [.dat R xs])] ⟨H5 n p o d t xs,uQ n p o d t xs,dA 39 190⟩:=by
 refine cC (c:=c12) aCD aJ hm P5 (LG n p o d t xs ⟨rfl,λhp=>?_⟩);simp only[qc,Dk,qd,Ec,Dp,Ed,Df,Dc,Du];refine⟨⟨(0,o,t,xs),⟨⟨qL _,show(0:Int)<=19 by decide,hp⟩,rfl⟩,rfl,rfl,rfl,rfl⟩,λ⟨k,o2,t2,ys⟩ hi=>?_⟩;obtain⟨⟨k0,k1,hq⟩,he⟩:=hi;simp only at k0 k1 hq he;obtain⟨⟨⟨hu,hpl⟩,ho2,hd2⟩,ht2,hys⟩:=id hq
 obtain⟨⟨p0,p1,p2⟩,⟨q1,q2⟩,q3,_⟩:=id hpl;obtain⟨c,ec⟩:∃c,c=cellAt p o2 d:=⟨_,rfl⟩;have eC:(p.2.2.1.getD o2.toNat []).getD d.toNat 0=c:=ec.symm;obtain⟨ln,el⟩:∃ln,ln=ew n c:=⟨_,rfl⟩;have eL:n.2.2.2.2.1.getD c.toNat (⟨#[]⟩,0,0,0,0,0)=ln:=el.symm;simp only[eC,eL];obtain⟨g1,g2⟩:=q3 o2 d ho2 hd2;rw[<- ec]at g1 g2;have eOk:uQ n p o d t xs=(FU n p d (19-k).toNat o2 t2 ys).1:=by rw[he];rfl
 have eT:uP n p o d t xs=(FU n p d (19-k).toNat o2 t2 ys).2.1:=by rw[he];rfl
 have eR:H4 n p o d t xs=(FU n p d (19-k).toNat o2 t2 ys).2.2:=by rw[he];rfl
 have hf:k<19->(19-k).toNat=(19-(k+1)).toNat+1:=λh=>by omega
 have eS:∀f,FU n p d (f+1) o2 t2 ys=if o2=d then(true,t2,ys)else if c=-1 then(false,t2,ys)else if bR ys=false then(false,t2,ys)else
   if td n o2 c p (hd ys) t2=true then FU n p d f ln.2.2.1 (vR (au n o2).1 (hd ys-2+p.1) ln.2.2.2.1+ln.2.2.2.2.1) (tl ys)else(false,t2,tl ys):=λf=>by rw[el,ec];rfl
 have eD:td n o2 c p (hd ys) t2=(wkF (au n o2).2.1 (au n o2).2.2 (hd ys-2+p.1)&&decide (vR (au n o2).1 (hd ys-2+p.1) ln.2.2.2.1≥sY n o2 t2)):=by rw[el];rfl
 refine⟨λhne=>?_,λheq=>?_⟩
 .have hrow:=q2 _ (aU (l:=p.2.2.1) (i:=o2.toNat) (d:=[]) (by have:=ho2.1;have:=ho2.2;omega));refine⟨ho2.1,by rw[q1];exact ho2.2,hd2.1,by rw[hrow];exact hd2.2,λh=>?_,λ⟨hk,hc⟩=>?_⟩
  .rw[eOk];by_cases hk:k<19
   .rw[hf hk,eS,if_neg hne,if_pos (h hk)]
   .rw[show(19-k).toNat=0 by omega];exact vH hne
  .have hl:c<n.2.2.2.2.1.length:=by
    unfold ku at g1;rw[vH hc,xX,qC,qE]at g1;exact g1.1
   obtain⟨_,lo,⟨m0,m1⟩,r0,r1⟩:=Vm hu (by omega:0<=c) hl;rw[<- el]at lo m0 m1 r0 r1;obtain⟨⟨z1,z2⟩,hw,hs⟩:=l8 (GY hu ho2);refine⟨⟨hk,hc⟩,by omega,hl,⟨hu,ho2⟩,λh1=>?_,λh1=>?_⟩
   .have hm1:0<=hd ys/\hd ys<=65519:=dU.1 hys.1 _ (aU (wF h1));have hm2:-1000000<=vR (au n o2).1 (hd ys-2+p.1) ln.2.2.2.1/\vR (au n o2).1 (hd ys-2+p.1) ln.2.2.2.1<=100000000:=by unfold vR;omega
    refine⟨h1,aB (by omega),aB (by omega),⟨⟨by omega,by omega⟩,⟨by omega,by omega⟩,⟨by omega,by omega⟩⟩,⟨hw,hs,⟨by omega,by omega⟩⟩,λ_=>⟨hu,ho2,ht2⟩,λh=>?_,λh=>?_⟩
    .rw[eOk,hf hk,eS,if_neg hne,if_neg hc,if_neg (by rw[h1];exact Bool.noConfusion),if_neg];rw[eD];simpa using h
    .have hy:td n o2 c p (hd ys) t2=true:=by rw[eD];simpa using h
     refine⟨h,aB (by omega),aB (by omega),⟨(k+1,ln.2.2.1,vR (au n o2).1 (hd ys-2+p.1) ln.2.2.2.1+ln.2.2.2.2.1,tl ys),⟨⟨by show 0<=k+1;omega,by show k+1<=19;omega,⟨⟨hu,hpl⟩,lo,hd2⟩,⟨by show -3000000000<=_+_;omega,by show _+_<=3000000000;omega⟩,fj hys 1⟩,?_⟩,⟨rfl,rfl,rfl,rfl⟩,by show(19-(k+1)).toNat<_;omega⟩⟩
     rw[<- he,hf hk,eS,if_neg hne,if_neg hc,if_neg (by rw[h1];exact Bool.noConfusion),if_pos hy]
   .rw[eOk,hf hk,eS,if_neg hne,if_neg hc,if_pos h1]
 .have e:FU n p d (19-k).toNat o2 t2 ys=(true,t2,ys):=by
   by_cases hk:k<19
   .rw[hf hk,eS,if_pos heq]
   .rw[show(19-k).toNat=0 by omega];show(decide (o2=d),t2,ys)=_;rw[qV heq]
  rw[eOk,eT,eR,e];exact⟨rfl,rfl,rfl⟩
theorem MH(c:Cal)(m t:Int): af Tryz.prog dY 156 [.ip C c,.dat I m,.dat I t] [] ⟨UA c t/\nE c m t=true,.dat I (JR c m t),[]⟩/\
  da Tryz.prog dY 156 [.ip C c,.dat I m,.dat I t] [] ⟨UA c t,nE c m t,dA 39 190⟩:=by
 obtain⟨z,w,h⟩:=c;refine dF (c:=TX GI KI1 noP (λ_=>false)) aDf aDg hm qu (Rl z m t w h ⟨rfl,λhp=>?_⟩);simp only[qc,qd,Dp,Dj];obtain⟨hc,t1,t2⟩:=id hp;obtain⟨⟨z1,z2⟩,hw,hs⟩:=l8 hc;simp only at z1 z2 hw hs;have hday:-1000000000<=bh z t/\bh z t<=1000000000:=by unfold bh;omega
 have key:∀b:Int,Qh (z,w,h) m t=b->(∀(x:Nat) (y:Int),yW x->lu (gX w h b (b+60-1)) x y->nE (z,w,h) m t=true/\y=JR (z,w,h) m t)/\∀x:Nat,yW x->x=(gX w h b (b+60-1)).length->nE (z,w,h) m t=false:=λb hb=>by
  have e:ZZ (z,w,h) m t=(gX w h b (b+60-1)).head?:=by
   unfold ZZ;rw[hb,show b+60-1=b+59 by omega]
  refine⟨λx y hx hy=>?_,λx hx hy=>?_⟩
  .have hx:x=0:=hx;have hy:(gX w h b (b+60-1))[x]?=some y:=hy;rw[hx,<- qBx,<- e]at hy;unfold nE JR;rw[hy];exact⟨rfl,rfl⟩
  .have hx:x=0:=hx;have:gX w h b (b+60-1)=[]:=vO (by omega);unfold nE;rw[e,this];rfl
 refine⟨⟨⟨by omega,by omega⟩,t1,t2⟩,λhlt=>?_,λhge=>?_⟩
 .obtain⟨k1,k2⟩:=key (bh z t+1) (by unfold Qh;exact if_pos hlt);exact⟨aB (by omega),aB (by omega),aB (by omega),⟨hw,hs,⟨by omega,by omega⟩,⟨by omega,by omega⟩⟩,rfl,k1,k2⟩
 .obtain⟨k1,k2⟩:=key (bh z t) (by unfold Qh;exact if_neg hge);exact⟨aB (by omega),aB (by omega),⟨hw,hs,⟨by omega,by omega⟩,⟨by omega,by omega⟩⟩,rfl,k1,k2⟩
theorem Wl: ak Tryz.prog dY ZK:=ai (pE λ((n,p),o,d,t,_) xs=>(G5 n p o d t xs).1)<|ai (ag λ(c,m,t,_)=>(MH c m t).1) aDf
theorem ZG: bO Tryz.prog dY aFU:=iH (tu λ((n,p),o,d,t,_) xs=>(G5 n p o d t xs).2)<|iH (jo λ(c,m,t,_)=>(MH c m t).2) Iw
theorem Us{n:Net}{p:Plan}{o d t:Int}{xs:Li}(hq:H5 n p o d t xs)(hc:cellAt p o d≠-1)(h1:bR xs=true): (0<=cellAt p o d/\cellAt p o d<n.2.2.2.2.1.length)/\H5 n p (ew n (cellAt p o d)).2.2.1 d (vR (au n o).1 (hd xs-2+p.1) (ew n (cellAt p o d)).2.2.2.1+(ew n (cellAt p o d)).2.2.2.2.1) (tl xs):=by
 obtain⟨⟨⟨hu,hpl⟩,ho2,hd2⟩,ht2,hys⟩:=hq;obtain⟨⟨p0,p1,p2⟩,⟨q1,q2⟩,q3,_⟩:=id hpl;obtain⟨g1,g2⟩:=q3 o d ho2 hd2;have hl:cellAt p o d<n.2.2.2.2.1.length:=by
  unfold ku at g1;rw[vH hc,xX,qC,qE]at g1;exact g1.1
 have h0:0<=cellAt p o d:=by omega
 obtain⟨_,lo,⟨m0,m1⟩,r0,r1⟩:=Vm hu h0 hl;obtain⟨⟨z1,z2⟩,hw,hs⟩:=l8 (GY hu ho2);have hm1:0<=hd xs/\hd xs<=65519:=dU.1 hys.1 _ (aU (wF h1));refine⟨⟨h0,hl⟩,⟨⟨hu,hpl⟩,lo,hd2⟩,⟨?_,?_⟩,fj hys 1⟩<;>unfold vR<;>omega
theorem FT{n:Net}{p:Plan}{d:Int}: ∀(f:Nat) {o t:Int} {xs:Li},H5 n p o d t xs->tOk (FU n p d f o t xs).2.1/\dI (FU n p d f o t xs).2.2
 | 0,o,t,xs,h=>⟨h.2.1,h.2.2⟩
 | f+1,o,t,xs,h=>by
  unfold FU;by_cases h1:o=d
  .rw[if_pos h1];exact⟨h.2.1,h.2.2⟩
  rw[if_neg h1];by_cases h2:cellAt p o d=-1
  .rw[if_pos h2];exact⟨h.2.1,h.2.2⟩
  rw[if_neg h2];by_cases h3:bR xs=false
  .rw[if_pos h3];exact⟨h.2.1,h.2.2⟩
  rw[if_neg h3];by_cases h4:td n o (cellAt p o d) p (hd xs) t=true
  .rw[if_pos h4];exact FT f (Us h h2 (by simpa using h3)).2
  .rw[if_neg h4];exact⟨h.2.1,fj h.2.2 1⟩
theorem Zd{c:Cal}{m t:Int}(h:nE c m t=true): Qh c m t<=JR c m t/\JR c m t<=Qh c m t+59:=by
 unfold nE at h;unfold JR;cases e:ZZ c m t with
 | none=>rw[e]at h;cases h
 | some y=>
  unfold ZZ at e;have:=Vk (qAt e);exact⟨this.1,this.2.1⟩
theorem Z9(w:List Bool)(h:Li)(a b:Int): (gX w h a b).length<=(b+1-a).toNat:=by
 unfold gX;refine wE (xB _ _) ?_;rw[vW,wC];exact qJ _
theorem MA(n:Net)(p:Plan)(k o d cut:Int)(xs:Li): af Tryz.prog dY 83 [.ips [.ip N n,.ip Pl p,.ptr 1 1 0 0],.dat I k,.dat I o,.dat I d,.dat I cut] [(1,.var [.dat R xs])] ⟨VI n p k o d cut xs/\uK n p k o d cut xs=true,.tup [],[(1,.var [.dat R (H4 n p o d cut xs)])]⟩/\
  da Tryz.prog dY 83 [.ips [.ip N n,.ip Pl p,.ptr 1 1 0 0],.dat I k,.dat I o,.dat I d,.dat I cut] [(1,.var [.dat R xs])] ⟨VI n p k o d cut xs,uK n p k o d cut xs,dA 39 190⟩:=by
 refine cC (c:=c13) Wl aDg hm ZG (QS n p k o d cut xs ⟨rfl,λhp=>?_⟩);simp only[qc,qd,Dt,Eh,Df,Dc,Dx,Dj,Du];obtain⟨hf,hk⟩:=id hp;obtain⟨⟨⟨hu,hpl⟩,ho,hd⟩,ht,hys⟩:=id hf;obtain⟨⟨p0,p1,p2⟩,⟨q1,q2⟩,q3,q4,q5⟩:=id hpl;obtain⟨ft,_⟩:=FT 19 hf;have hcl:=Vn hu hk;have hc:=GY hu hd;obtain⟨⟨z1,z2⟩,hw,hs⟩:=l8 hc
 have hr:=VF (t:=uP n p o d cut xs) hu hd;have ft:-3000000000<=uP n p o d cut xs/\uP n p o d cut xs<=3000000000:=ft;have ht2:-3000000000<=cut/\cut<=3000000000:=ht;have eK:n.2.2.2.2.2.getD k.toNat (⟨#[]⟩,0,0)=eH n k:=rfl;have eL:JR (au n d) (eH n k).2.2 (sY n d (uP n p o d cut xs))=JE n p k o d cut xs:=rfl;have eB:bh (au n d).1 cut=U4 n d cut:=rfl
 have eN:gX (au n d).2.1 (au n d).2.2 (U4 n d cut+1) (JE n p k o d cut xs)=TQ n p k o d cut xs:=rfl;have eY:((p.2.2.2.getD k.toNat []).getD o.toNat []).getD d.toNat 0=jm p k o d:=rfl;have eP:uK n p k o d cut xs=(uQ n p o d cut xs&&(nE (au n d) (eH n k).2.2 (sY n d (uP n p o d cut xs))&&(decide (JE n p k o d cut xs-U4 n d cut<=2000)&&decide (((TQ n p k o d cut xs).length:Int)<=jm p k o d)))):=rfl
 simp only[eK,eL,eB,eN,eY];have hrp:VG n d (uP n p o d cut xs):=⟨hu,hd,ft⟩;have hdp:UA (au n d) (sY n d (uP n p o d cut xs)):=⟨hc,⟨by omega,by omega⟩⟩;have hB:-10000000<=U4 n d cut/\U4 n d cut<=10000000:=by unfold U4 bh;omega
 refine⟨⟨hf,λh=>by rw[eP,h];rfl⟩,λh1=>⟨⟨hf,h1⟩,⟨hu,hd⟩,hk.1,hk.2,hrp,hdp,λh2=>⟨hk.1,hk.2,hrp,⟨hdp,h2⟩,⟨⟨by omega,by omega⟩,⟨by omega,by omega⟩⟩,?_⟩,λh=>by rw[eP,h1,h];rfl⟩⟩;have hD:=Zd h2;rw[eL]at hD
 have hbg:bh (au n d).1 (sY n d (uP n p o d cut xs))<=Qh (au n d) (eH n k).2.2 (sY n d (uP n p o d cut xs))/\Qh (au n d) (eH n k).2.2 (sY n d (uP n p o d cut xs))<=bh (au n d).1 (sY n d (uP n p o d cut xs))+1:=by unfold Qh;split<;>omega
 have hbd:-10000000<=bh (au n d).1 (sY n d (uP n p o d cut xs))/\bh (au n d).1 (sY n d (uP n p o d cut xs))<=10000000:=by unfold bh;omega
 refine⟨aB (by omega),λh=>by rw[eP,h1,h2,vH h];rfl,λh3=>⟨h3,aB (by omega),⟨hw,hs,⟨by omega,by omega⟩,⟨by omega,by omega⟩⟩,⟨0,wU _,rfl,rfl⟩,λx y hx hy=>?_,λx hx hlen=>?_⟩⟩
 .have hlt:x<(TQ n p k o d cut xs).length:=(qF.1 hy).1;have:=Z9 (au n d).2.1 (au n d).2.2 (U4 n d cut+1) (JE n p k o d cut xs);rw[eN]at this;exact⟨aB (by omega),x+1,by show x+1<=4000000000000;omega,rfl,by omega⟩
 .have hk':=hk.1;have hk2:=hk.2;have ho1:=ho.1;have ho2:=ho.2;have hd1:=hd.1;have hd2:=hd.2;obtain⟨w1,w2⟩:=q5 _ (aU (l:=p.2.2.2) (i:=k.toNat) (d:=[]) (by omega));have w3:=w2 _ (aU (l:=p.2.2.2.getD k.toNat []) (i:=o.toNat) (d:=[]) (by omega));refine⟨hk',by omega,ho1,by omega,hd1,by omega,λh=>⟨hk',by omega,ho1,by omega,hd1,by omega,h,?_⟩,λh=>?_⟩
  .rw[eP,h1,h2,qV h3,qV (by omega)];rfl
  .rw[eP,h1,h2,qV h3,vH (by omega)];rfl
end Go.Eng.In
set_option maxRecDepth 100000
noncomputable section
namespace Go.Eng.In
open Go.Proofs
def cellsD(p:Plan)(k o:Int): Li:=(p.2.2.2.getD k.toNat []).getD o.toNat []
def d6(p:Plan)(k:Int): Lj:=p.2.2.2.getD k.toNat []
def runN(f:Nat->Li->Option (Li)): Nat->Li->Option (Li)
 | 0,x=>some x
 | m+1,x=>(runN f m x).bind (f m)
def vL(n:Net)(p:Plan)(k o d:Int)(j:Nat)(xs:Li): Option (Li):=if uK n p k o d ((jJ n p k o).getD j 0) xs=true then some (H4 n p o d ((jJ n p k o).getD j 0) xs)else none
def zx(n:Net)(p:Plan)(k o d:Int)(xs:Li): Option (Li):=if jm p k o d=-1 then some xs else runN (vL n p k o d) (jJ n p k o).length xs
def VA(n:Net)(p:Plan)(k o:Int)(xs:Li): Option (Li):=runN (λd=>zx n p k o (d:Int)) (cellsD p k o).length xs
def aAK(n:Net)(p:Plan)(k:Int)(xs:Li): Option (Li):=runN (λo=>VA n p k (o:Int)) (d6 p k).length xs
def st1(n:Net)(p:Plan)(l:Li)(k:Int): Option (Li):=runN (λk=>aAK n p (k:Int)) k.toNat l
def st2(n:Net)(p:Plan)(l:Li)(k o:Int): Option (Li):=(st1 n p l k).bind (runN (λo=>VA n p k (o:Int)) o.toNat)
def st3(n:Net)(p:Plan)(l:Li)(k o d:Int): Option (Li):=(st2 n p l k o).bind (runN (λd=>zx n p k o (d:Int)) d.toNat)
def st4(n:Net)(p:Plan)(l:Li)(k o d:Int)(j:Nat): Option (Li):=(st3 n p l k o d).bind (runN (vL n p k o d) j)
def C3(n:Net)(p:Plan)(l:Li): Option (Li):=st1 n p l p.2.2.2.length
def RN(n:Net)(p:Plan)(l:Li)(k:Int)(xs:Li): Prop:=(0<=k/\k<=p.2.2.2.length)/\st1 n p l k=some xs/\dI xs
def to2(n:Net)(p:Plan)(l:Li)(k o:Int)(xs:Li): Prop:=((0<=k/\k<p.2.2.2.length)/\0<=o/\o<=(d6 p k).length)/\st2 n p l k o=some xs/\dI xs
def to3(n:Net)(p:Plan)(l:Li)(k o d:Int)(xs:Li): Prop:=((0<=k/\k<p.2.2.2.length)/\(0<=o/\o<(d6 p k).length)/\0<=d/\d<=(cellsD p k o).length)/\st3 n p l k o d=some xs/\dI xs
def to4(n:Net)(p:Plan)(l:Li)(k o d j:Int)(xs:Li): Prop:=0<=j/\st4 n p l k o d j.toNat=some xs/\dI xs
def MS(l:Li): Bool:=decide (l.length<=40000)
def pL(n:Net)(l:Li): Bool:=DC n (aw l)&&MS l
def aFm(n:Net)(l:Li): Int:=if C3 n (aw l) (bQ l)=some []then 0 else 190
def gm(n:Net)(l:Li)(s:Int): Int:=if jC (l,s)=true then if usF n=true then if pL n l=true then aFm n l else 190 else 1 else yi (l,s)
def YH(args:List AV)(m:Mem): Option jP:=match args,m with
 | [.agg [.dat (.sl (.int .i64)) l,.dat (.int .i64) s]],[]=>some ⟨Bm (l,s)/\jC (l,s)=true,.tup [.agg [.dat I (aw l).1,.dat I (aw l).2.1,.dat M (aw l).2.2.1,.dat (.sl M) (aw l).2.2.2],.ptr 1 1 0 0],[(1,.var [.dat R (bQ l)])]⟩
 | _,_=>none
def Vh: Kt:=kOr 71 YH <|
 kOr 80 (az [.ptr N] (λ(n,_)=>rB n) λ(n,_)=>.dat .bool (usF n)) <|
 kOr 81 (az [.ptr N,.ptr Pl] (λ(n,p,_)=>rB n/\nxP p) λ(n,p,_)=>.dat .bool (DC n p)) <|
 kOr 83 (VN 1 R [.pv 1 N Pl,.val I,.val I,.val I,.val I] (λ((n,p),k,o,d,cut,_) xs=>VI n p k o d cut xs/\uK n p k o d cut xs=true) (λ_ _=>.tup []) λ((n,p),k,o,d,cut,_) xs=>H4 n p o d cut xs) ZK
def aFe: KPt:=pOr 71 (uR [.row Ce] λ(c,_)=>⟨Bm c,jC c,dA 39 (yi c)⟩) <|
 pOr 83 (YL 1 R [.pv 1 N Pl,.val I,.val I,.val I,.val I] λ((n,p),k,o,d,cut,_) xs=>⟨VI n p k o d cut xs,uK n p k o d cut xs,dA 39 190⟩) KPr
def KI2: FuncId->List AV->Option jr:=λf caps=>if f=151 then match ofK [.pvb N Pl,.ptr I,.ptr I] caps with
 | some ((n,p),o,k,_)=>some ⟨aCa n p k o,I,jJ n p k o⟩
 | none=>none
 else KI1 f caps
def c14: Cfg:=Jr Vh (λ_=>false) aFe (λf=>f==79||f==71)
def c15: Cfg:=TX Vh KI2 aFe (λf=>f==79||f==71||f==83)
def keep(s:St)(x:Li): St:={fP s with mem:=tt (s.mem.filter λb=>b.1<=2) 1 (.var [.dat R x])}
def aGg(n:Net)(l:Li): Ann:=⟨λid s=>match id with
 | 7=>some {α:=Int×Li,inv:=λx=>RN n (aw l) (bQ l) x.1 x.2,st:=λx=>iE (put (fP s) [(37,.dat I x.1)]) 1 (.var [.dat R x.2]),μ:=λx=>Dc (Dh (Df (aw l).2.2.2) x.1)}
 | 10=>match s.sig.T 39 with
  | .dat (.int .i64) k=>some {α:=Int×Li,inv:=λx=>to2 n (aw l) (bQ l) k x.1 x.2,st:=λx=>iE (put (fP s) [(44,.dat I x.1)]) 1 (.var [.dat R x.2]),μ:=λx=>Dc (Dh (Df (d6 (aw l) k)) x.1)}
  | _=>none
 | 13=>match s.sig.T 39,s.sig.T 46 with
  | .dat (.int .i64) k,.dat (.int .i64) o=>some {α:=Int×Li,inv:=λx=>to3 n (aw l) (bQ l) k o x.1 x.2,st:=λx=>iE (put (fP s) [(51,.dat I x.1)]) 1 (.var [.dat R x.2]),μ:=λx=>Dc (Dh (Df (cellsD (aw l) k o)) x.1)}
  | _,_=>none
 | 17=>match s.sig.T 39,s.sig.T 46,s.sig.T 53 with
  | .dat (.int .i64) k,.dat (.int .i64) o,.dat (.int .i64) d=>some {α:=Int×Li,inv:=λx=>to4 n (aw l) (bQ l) k o d x.1 x.2,st:=λx=>iE (fP s) 1 (.var [.dat R x.2]),μ:=λx=>Dc x.1}
  | _,_,_=>none
 | _=>none,λid s=>match id with
 | 3=>some (put {s with mem:=s.mem.filter λb=>b.1 != 2} [(5,.ip Pl (aw l))])
 | _=>none,λ_ _=>none⟩
set_option maxHeartbeats 4000000 in
theorem RA(s:Int)(l:Li)(cs:List Cal)(ns ps:List ByteArray)(os:List Off)(ls:List Line)(ks:List Cla)(hvc:
 let c1:=(cs,ns,ps,os,ls,ks);let c2:=(l,s);let c3:=jC c2;let c4:=gm c1 l s;let c5:=(aw l).1;let aQ:=(aw l).2;let c7:=aQ.1;let c8:=aQ.2;let c9:=c8.1;let c10:=c8.2;let c11:=usF c1;let c12:=DC c1 (aw l);let c13:=Dz c12 (Eh (Df l) 40000) false;let c14:=Df c10;
 (true/\true)/\(HJ l/\rB c1->true/\(true->Bm c2/\(c3=false->true/\true/\(Di false->True/\1=1/\0=0/\1=1/\0=0/\yi c2=c4/\True)/\(Di false=false->1=1/\0=0/\0=c4/\True)))/\((true->c3)->(Bm c2/\c3)/\1=1/\0=0/\cs=cs/\ns=ns/\ps=ps/\os=os/\ls=ls/\ks=ks/\l=l/\s=s/\c1=c1/\c2=c2/\1=1/\0=0/\0=0/\1=1/\0=0/\(c5,c7,c9,c10)=aw l/\1=1/\0=0/\0=0/\undef=undef/\undef=undef/\undef=undef/\undef=undef/\undef=undef/\undef=undef/\undef=undef/\undef=undef/\1=1/\0=0/\0=0/\c5=c5/\c7=c7/\c9=c9/\c10=c10/\1=1/\0=0/\0=0/\l=l/\s=s/\c5=c5/\c7=c7/\c9=c9/\c10=c10/\1=1/\0=0/\0=0/\c5=c5/\c7=c7/\c9=c9/\c10=c10/\1=1/\0=0/\0=0/\undef=undef/\undef=undef/\undef=undef/\undef=undef/\undef=undef/\undef=undef/\undef=undef/\undef=undef/\undef=undef/\undef=undef/\undef=undef/\undef=undef/\undef=undef/\undef=undef/\undef=undef/\undef=undef/\undef=undef/\undef=undef/\undef=undef/\undef=undef/\undef=undef/\undef=undef/\undef=undef/\undef=undef/\undef=undef/\undef=undef/\undef=undef/\undef=undef/\undef=undef/\undef=undef/\undef=undef/\undef=undef/\undef=undef/\undef=undef/\undef=undef/\undef=undef/\undef=undef/\undef=undef/\undef=undef/\undef=undef/\undef=undef/\undef=undef/\undef=undef/\undef=undef/\undef=undef/\undef=undef/\undef=undef/\undef=undef/\undef=undef/\undef=undef/\undef=undef/\undef=undef/\undef=undef/\undef=undef/\undef=undef/\undef=undef/\undef=undef/\undef=undef/\(0:Int)=(0:Int)/\bQ l=bQ l/\1=1/\0=0/\0=0/\rB c1/\(true->True/\(c11=false->true/\true/\(Di false->True/\1=1/\0=0/\1=1/\0=0/\1=c4/\True)/\(Di false=false->1=1/\0=0/\0=c4/\True)))/\((true->c11)->(True/\c11)/\(rB c1/\nxP (aw l))/\(c12->c12->c12)/\(c12->c12->c12)/\(c12->c12->c12)/\(Dk true c12->c12)/\(true->True/\(c13=false->true/\true/\
 (Di false->True/\1=1/\0=0/\1=1/\0=0/\190=c4/\True)/\(Di false=false->1=1/\0=0/\0=c4/\True)))/\((true->c13)->(True/\c13)/\1=1/\1=1/\1=1/\0=0/\(∃(x:Int×Li),let c15:=x.1;let c16:=x.2;RN c1 (aw l) (bQ l) c15 c16/\cs=cs/\ns=ns/\ps=ps/\os=os/\ls=ls/\ks=ks/\l=l/\s=s/\c1=c1/\c2=c2/\1=1/\0=0/\0=0/\aw l=aw l/\1=1/\0=0/\0=0/\1=1/\0=0/\0=0/\1=1/\0=0/\0=0/\c5=c5/\c7=c7/\c9=c9/\c10=c10/\1=1/\0=0/\0=0/\l=l/\s=s/\c5=c5/\c7=c7/\c9=c9/\c10=c10/\1=1/\0=0/\0=0/\c5=c5/\c7=c7/\c9=c9/\c10=c10/\1=1/\0=0/\0=0/\c11=c11/\c12=c12/\c12=c12/\c13=c13/\1=1/\0=0/\0=0/\c1=c1/\aw l=aw l/\1=1/\0=0/\0=0/\c1=c1/\aw l=aw l/\1=1/\0=0/\0=0/\c10=c10/\c10=c10/\c14=c14/\0=c15/\(0:Int)=(0:Int)/\bQ l=c16/\c1=c1/\aw l=aw l/\1=1/\0=0/\0=0/\1=1/\0=0/\0=0/\True)/\∀(x:Int×Li),let c17:=x.1;let c18:=x.2;let c19:=Dp c17 c14;let c20:=Du c10 (Dc c17) (Dt (Li));let c21:=Df c20;let c22:=Df (d6 (aw l) c17);let c23:=c17+1;let c24:=Ea (Df c18) 0;RN c1 (aw l) (bQ l) c17 c18->(c19->0<=c17/\c17<c14/\1=1/\0=0/\(∃(x:Int×Li),let c25:=x.1;let c26:=x.2;to2 c1 (aw l) (bQ l) c17 c25 c26/\cs=cs/\ns=ns/\ps=ps/\os=os/\ls=ls/\ks=ks/\l=l/\s=s/\c1=c1/\c2=c2/\1=1/\0=0/\0=0/\aw l=aw l/\1=1/\0=0/\0=0/\1=1/\0=0/\0=0/\1=1/\0=0/\0=0/\c20=c20/\1=1/\0=0/\0=0/\c5=c5/\c7=c7/\c9=c9/\c10=c10/\1=1/\0=0/\0=0/\l=l/\s=s/\c5=c5/\c7=c7/\c9=c9/\c10=c10/\1=1/\0=0/\0=0/\c5=c5/\c7=c7/\c9=c9/\c10=c10/\1=1/\0=0/\0=0/\c11=c11/\c12=c12/\c12=c12/\c13=c13/\1=1/\0=0/\0=0/\c1=c1/\aw l=aw l/\1=1/\0=0/\0=0/\c1=c1/\aw l=aw l/\1=1/\0=0/\0=0/\c10=c10/\c10=c10/\c14=c14/\c17=c17/\c19=c19/\c17=c17/\c20=c20/\c20=c20/\c20=c20/\c21=c21/\0=c25/\(0:Int)=(0:Int)/\c18=c26/\c1=c1/\aw l=aw l/\1=1/\0=0/\0=0/\c17=c17/\1=1/\0=0/\0=0/\True)/\∀(x:Int×Li),let c27:=x.1;let c28:=x.2;
 let c29:=Dp c27 c21;let c30:=Du c20 (Dc c27) [];let c31:=Df c30;let c32:=Df (cellsD (aw l) c17 c27);let c33:=jJ c1 (aw l) c17 c27;let c34:=c27+1;to2 c1 (aw l) (bQ l) c17 c27 c28->(c29->0<=c27/\c27<c21/\1=1/\0=0/\(∃(x:Int×List Int),let c35:=x.1;let c36:=x.2;to3 c1 (aw l) (bQ l) c17 c27 c35 c36/\cs=cs/\ns=ns/\ps=ps/\os=os/\ls=ls/\ks=ks/\l=l/\s=s/\c1=c1/\c2=c2/\1=1/\0=0/\0=0/\aw l=aw l/\1=1/\0=0/\0=0/\1=1/\0=0/\0=0/\1=1/\0=0/\0=0/\c20=c20/\1=1/\0=0/\0=0/\c30=c30/\1=1/\0=0/\0=0/\c5=c5/\c7=c7/\c9=c9/\c10=c10/\1=1/\0=0/\0=0/\l=l/\s=s/\c5=c5/\c7=c7/\c9=c9/\c10=c10/\1=1/\0=0/\0=0/\c5=c5/\c7=c7/\c9=c9/\c10=c10/\1=1/\0=0/\0=0/\c11=c11/\c12=c12/\c12=c12/\c13=c13/\1=1/\0=0/\0=0/\c1=c1/\aw l=aw l/\1=1/\0=0/\0=0/\c1=c1/\aw l=aw l/\1=1/\0=0/\0=0/\c10=c10/\c10=c10/\c14=c14/\c17=c17/\c19=c19/\c17=c17/\c20=c20/\c20=c20/\c20=c20/\c21=c21/\c27=c27/\c29=c29/\c27=c27/\c30=c30/\c30=c30/\c30=c30/\c31=c31/\0=c35/\(0:Int)=(0:Int)/\c28=c36/\c1=c1/\aw l=aw l/\1=1/\0=0/\0=0/\c17=c17/\c27=c27/\1=1/\0=0/\0=0/\True)/\∀(x:Int×Li),let c37:=x.1;let c38:=x.2;let c39:=Dp c37 c31;let c40:=Du c30 (Dc c37) 0;let c41:=Ea c40 (-1);let c42:=c37+1;to3 c1 (aw l) (bQ l) c17 c27 c37 c38->(c39->0<=c37/\c37<c31/\1=1/\0=0/\(c41->inR .i64 c42/\∃(y:Int×Li),let c43:=y.1;let c44:=y.2;
 to3 c1 (aw l) (bQ l) c17 c27 c43 c44/\(cs=cs/\ns=ns/\ps=ps/\os=os/\ls=ls/\ks=ks/\l=l/\s=s/\c1=c1/\c2=c2/\1=1/\0=0/\0=0/\aw l=aw l/\1=1/\0=0/\0=0/\1=1/\0=0/\0=0/\1=1/\0=0/\0=0/\c20=c20/\1=1/\0=0/\0=0/\c30=c30/\1=1/\0=0/\0=0/\c5=c5/\c7=c7/\c9=c9/\c10=c10/\1=1/\0=0/\0=0/\l=l/\s=s/\c5=c5/\c7=c7/\c9=c9/\c10=c10/\1=1/\0=0/\0=0/\c5=c5/\c7=c7/\c9=c9/\c10=c10/\1=1/\0=0/\0=0/\c11=c11/\c12=c12/\c12=c12/\c13=c13/\1=1/\0=0/\0=0/\c1=c1/\aw l=aw l/\1=1/\0=0/\0=0/\c1=c1/\aw l=aw l/\1=1/\0=0/\0=0/\c10=c10/\c10=c10/\c14=c14/\c17=c17/\c19=c19/\c17=c17/\c20=c20/\c20=c20/\c20=c20/\c21=c21/\c27=c27/\c29=c29/\c27=c27/\c30=c30/\c30=c30/\c30=c30/\c31=c31/\c42=c43/\(0:Int)=(0:Int)/\c38=c44/\c1=c1/\aw l=aw l/\1=1/\0=0/\0=0/\c17=c17/\c27=c27/\1=1/\0=0/\0=0/\True)/\Dc (c32-c43)<Dc (c32-c37))/\(c41=false->1=1/\0=0/\1=1/\0=0/\1=1/\0=0/\True/\aCa c1 (aw l) c17 c27/\(∃(x:Int×Li),let c45:=x.1;let c46:=x.2;
 to4 c1 (aw l) (bQ l) c17 c27 c37 c45 c46/\Dc c45=0/\cs=cs/\ns=ns/\ps=ps/\os=os/\ls=ls/\ks=ks/\l=l/\s=s/\c1=c1/\c2=c2/\1=1/\0=0/\0=0/\aw l=aw l/\1=1/\0=0/\0=0/\1=1/\0=0/\0=0/\1=1/\0=0/\0=0/\c20=c20/\1=1/\0=0/\0=0/\c30=c30/\1=1/\0=0/\0=0/\c40=c40/\1=1/\0=0/\0=0/\c5=c5/\c7=c7/\c9=c9/\c10=c10/\1=1/\0=0/\0=0/\l=l/\s=s/\c5=c5/\c7=c7/\c9=c9/\c10=c10/\1=1/\0=0/\0=0/\c5=c5/\c7=c7/\c9=c9/\c10=c10/\1=1/\0=0/\0=0/\c11=c11/\c12=c12/\c12=c12/\c13=c13/\1=1/\0=0/\0=0/\c1=c1/\aw l=aw l/\1=1/\0=0/\0=0/\c1=c1/\aw l=aw l/\1=1/\0=0/\0=0/\c10=c10/\c10=c10/\c14=c14/\c17=c17/\c19=c19/\c17=c17/\c20=c20/\c20=c20/\c20=c20/\c21=c21/\c27=c27/\c29=c29/\c27=c27/\c30=c30/\c30=c30/\c30=c30/\c31=c31/\c37=c37/\c39=c39/\c37=c37/\c40=c40/\c40=c40/\c40=c40/\c41=c41/\c1=c1/\aw l=aw l/\1=1/\0=0/\0=0/\c17=c17/\c27=c27/\c1=c1/\aw l=aw l/\c27=c27/\c17=c17/\(0:Int)=(0:Int)/\c38=c46/\c1=c1/\aw l=aw l/\1=1/\0=0/\0=0/\c17=c17/\c27=c27/\c37=c37/\1=1/\0=0/\0=0/\True)/\(∀(x:Int×Li),let c47:=x.1;let c48:=x.2;let c49:=Dc c47;∀(y:Int),let c50:=uK c1 (aw l) c17 c27 c37 y c48;to4 c1 (aw l) (bQ l) c17 c27 c37 c47 c48->lu c33 c49 y->1=1/\0=0/\1=1/\0=0/\1=1/\0=0/\1=1/\0=0/\(true->VI c1 (aw l) c17 c27 c37 y c48/\(c50=false->true/\true/\(Di false->True/\1=1/\0=0/\1=1/\0=0/\190=c4/\True)/\(Di false=false->1=1/\0=0/\0=c4/\True)))/\((true->c50)->(VI c1 (aw l) c17 c27 c37 y c48/\c50)/\1=1/\∃(z:Int×Li),let c51:=z.1;let c52:=z.2;
 to4 c1 (aw l) (bQ l) c17 c27 c37 c51 c52/\Dc c51=c49+1/\cs=cs/\ns=ns/\ps=ps/\os=os/\ls=ls/\ks=ks/\l=l/\s=s/\c1=c1/\c2=c2/\1=1/\0=0/\0=0/\aw l=aw l/\1=1/\0=0/\0=0/\1=1/\0=0/\0=0/\1=1/\0=0/\0=0/\c20=c20/\1=1/\0=0/\0=0/\c30=c30/\1=1/\0=0/\0=0/\c40=c40/\1=1/\0=0/\0=0/\c5=c5/\c7=c7/\c9=c9/\c10=c10/\1=1/\0=0/\0=0/\l=l/\s=s/\c5=c5/\c7=c7/\c9=c9/\c10=c10/\1=1/\0=0/\0=0/\c5=c5/\c7=c7/\c9=c9/\c10=c10/\1=1/\0=0/\0=0/\c11=c11/\c12=c12/\c12=c12/\c13=c13/\1=1/\0=0/\0=0/\c1=c1/\aw l=aw l/\1=1/\0=0/\0=0/\c1=c1/\aw l=aw l/\1=1/\0=0/\0=0/\c10=c10/\c10=c10/\c14=c14/\c17=c17/\c19=c19/\c17=c17/\c20=c20/\c20=c20/\c20=c20/\c21=c21/\c27=c27/\c29=c29/\c27=c27/\c30=c30/\c30=c30/\c30=c30/\c31=c31/\c37=c37/\c39=c39/\c37=c37/\c40=c40/\c40=c40/\c40=c40/\c41=c41/\c1=c1/\aw l=aw l/\1=1/\0=0/\0=0/\c17=c17/\c27=c27/\c1=c1/\aw l=aw l/\c27=c27/\c17=c17/\(0:Int)=(0:Int)/\H4 c1 (aw l) c27 c37 y c48=c52/\c1=c1/\aw l=aw l/\1=1/\0=0/\0=0/\c17=c17/\c27=c27/\c37=c37/\1=1/\0=0/\0=0/\True))/\∀(x:Int×List Int),let c53:=x.1;let c54:=x.2;to4 c1 (aw l) (bQ l) c17 c27 c37 c53 c54->Dc c53=Dj c33->inR .i64 c42/\∃(y:Int×Li),let c55:=y.1;let c56:=y.2;
 to3 c1 (aw l) (bQ l) c17 c27 c55 c56/\(cs=cs/\ns=ns/\ps=ps/\os=os/\ls=ls/\ks=ks/\l=l/\s=s/\c1=c1/\c2=c2/\1=1/\0=0/\0=0/\aw l=aw l/\1=1/\0=0/\0=0/\1=1/\0=0/\0=0/\1=1/\0=0/\0=0/\c20=c20/\1=1/\0=0/\0=0/\c30=c30/\1=1/\0=0/\0=0/\c5=c5/\c7=c7/\c9=c9/\c10=c10/\1=1/\0=0/\0=0/\l=l/\s=s/\c5=c5/\c7=c7/\c9=c9/\c10=c10/\1=1/\0=0/\0=0/\c5=c5/\c7=c7/\c9=c9/\c10=c10/\1=1/\0=0/\0=0/\c11=c11/\c12=c12/\c12=c12/\c13=c13/\1=1/\0=0/\0=0/\c1=c1/\aw l=aw l/\1=1/\0=0/\0=0/\c1=c1/\aw l=aw l/\1=1/\0=0/\0=0/\c10=c10/\c10=c10/\c14=c14/\c17=c17/\c19=c19/\c17=c17/\c20=c20/\c20=c20/\c20=c20/\c21=c21/\c27=c27/\c29=c29/\c27=c27/\c30=c30/\c30=c30/\c30=c30/\c31=c31/\c42=c55/\(0:Int)=(0:Int)/\c54=c56/\c1=c1/\aw l=aw l/\1=1/\0=0/\0=0/\c17=c17/\c27=c27/\1=1/\0=0/\0=0/\True)/\Dc (c32-c55)<Dc (c32-c37)))/\(c39=false->inR .i64 c34/\∃(y:Int×Li),let c57:=y.1;let c58:=y.2;to2 c1 (aw l) (bQ l) c17 c57 c58/\(cs=cs/\ns=ns/\ps=ps/\os=os/\ls=ls/\ks=ks/\l=l/\s=s/\c1=c1/\c2=c2/\1=1/\0=0/\0=0/\aw l=aw l/\1=1/\0=0/\0=0/\1=1/\0=0/\0=0/\1=1/\0=0/\0=0/\c20=c20/\1=1/\0=0/\0=0/\c5=c5/\c7=c7/\c9=c9/\c10=c10/\1=1/\0=0/\0=0/\l=l/\s=s/\c5=c5/\c7=c7/\c9=c9/\c10=c10/\1=1/\0=0/\0=0/\c5=c5/\c7=c7/\c9=c9/\c10=c10/\1=1/\0=0/\0=0/\c11=c11/\c12=c12/\c12=c12/\c13=c13/\1=1/\0=0/\0=0/\c1=c1/\aw l=aw l/\1=1/\0=0/\0=0/\c1=c1/\aw l=aw l/\1=1/\0=0/\0=0/\c10=c10/\c10=c10/\c14=c14/\c17=c17/\c19=c19/\c17=c17/\c20=c20/\c20=c20/\c20=c20/\c21=c21/\c34=c57/\(0:Int)=(0:Int)/\c38=c58/\c1=c1/\aw l=aw l/\1=1/\0=0/\0=0/\c17=c17/\1=1/\0=0/\0=0/\True)/\Dc (c22-c57)<Dc (c22-c27)))/\(c29=false->inR .i64 c23/\∃(y:Int×Li),let c59:=y.1;let c60:=y.2;
 RN c1 (aw l) (bQ l) c59 c60/\(cs=cs/\ns=ns/\ps=ps/\os=os/\ls=ls/\ks=ks/\l=l/\s=s/\c1=c1/\c2=c2/\1=1/\0=0/\0=0/\aw l=aw l/\1=1/\0=0/\0=0/\1=1/\0=0/\0=0/\1=1/\0=0/\0=0/\c5=c5/\c7=c7/\c9=c9/\c10=c10/\1=1/\0=0/\0=0/\l=l/\s=s/\c5=c5/\c7=c7/\c9=c9/\c10=c10/\1=1/\0=0/\0=0/\c5=c5/\c7=c7/\c9=c9/\c10=c10/\1=1/\0=0/\0=0/\c11=c11/\c12=c12/\c12=c12/\c13=c13/\1=1/\0=0/\0=0/\c1=c1/\aw l=aw l/\1=1/\0=0/\0=0/\c1=c1/\aw l=aw l/\1=1/\0=0/\0=0/\c10=c10/\c10=c10/\c14=c14/\c23=c59/\(0:Int)=(0:Int)/\c28=c60/\c1=c1/\aw l=aw l/\1=1/\0=0/\0=0/\1=1/\0=0/\0=0/\True)/\Dc (c14-c59)<Dc (c14-c17)))/\(c19=false->1=1/\1=1/\1=1/\0=0/\(true->True/\(c24=false->true/\true/\(Di false->True/\1=1/\0=0/\1=1/\0=0/\190=c4/\True)/\(Di false=false->1=1/\0=0/\0=c4/\True)))/\((true->c24)->(True/\c24)/\1=1/\0=0/\true/\true/\(Di true->False)/\(Di true=false->1=1/\0=0/\0=c4/\True)))))))):
  evR c15 Vh aA (aGg (cs,ns,ps,os,ls,ks) l) aA 26 [.agg [.dat (.sl C) cs,.dat (.sl S) ns,.dat (.sl S) ps,.dat (.sl Of) os,.dat (.sl Ln) ls,.dat (.sl Kl) ks],.agg [.dat R l,.dat I s]] ⟨HJ l/\rB (cs,ns,ps,os,ls,ks),.dat I (gm (cs,ns,ps,os,ls,ks) l s),[]⟩:=oE hvc
theorem TE: ∀args m c,YH args m=some c->af Tryz.prog dY 71 args m c:=by
 intro args m c h;unfold YH at h;split at h
 .cases h;exact(Vt _ _).1
 .cases h
theorem Wj: ak Tryz.prog dY Vh:=ai TE<|ai (ag λ(n,_)=>aFZ n)<|ai (ag λ(n,p,_)=>aEb n p)<|ai (pE λ((n,p),k,o,d,cut,_) xs=>(MA n p k o d cut xs).1) Wl
theorem ZF: bO Tryz.prog dY aFe:=iH (jo λ(c,_)=>(Vt c.2 c.1).2)<|iH (tu λ((n,p),k,o,d,cut,_) xs=>(MA n p k o d cut xs).2) Iw
theorem aGr: bv Tryz.prog dY KI2:=by
 intro f caps it h;unfold KI2 at h;split at h
 .rename_i e;subst e;split at h
  .rename_i n p o k _ hx;cases h;exact mR.args (aA6 n p k o) λC us hu=>fi hx hu
  .cases h
 .exact aDg f caps it h
end Go.Eng.In
set_option maxRecDepth 100000
namespace Go.Eng.In
open Go.Proofs
theorem vA{l:Li}(hl:dI l)(h:nK l=true): (0<=l.getD 2 0/\l.getD 2 0<=12)/\(0<=l.getD 3 0/\l.getD 3 0<=4)/\0<=l.getD 0 0/\l.getD 0 0<l.getD 1 0/\l.getD 1 0<=600:=by
 have bd:∀k:Nat,0<=l.getD k 0:=λk=>by
  by_cases hk:k<l.length
  .exact(dU.1 hl.1 _ (aU hk)).1
  .rw[qA,zF (by omega)];exact qL _
 unfold nK sZ at h;simp only[qC,qE]at h;exact⟨⟨bd 2,h.1.2.1⟩,⟨bd 3,h.1.2.2.1⟩,bd 0,h.1.2.2.2.1,h.1.2.2.2.2.2⟩
theorem uv(g:Int->Int->Int)(n:Int): (dD g n).length=n.toNat:=by unfold dD;simp
theorem oZ{g:Int->Int->Int}{n:Int}{r:Li}(h:r∈dD g n): r.length=n.toNat/\∀x∈r,∃i j,x=g i j:=by
 unfold dD at h;obtain⟨i,_,rfl⟩:=wZ.1 h;refine⟨by simp,λx hx=>?_⟩;obtain⟨j,_,rfl⟩:=wZ.1 hx;exact⟨_,_,rfl⟩
theorem U2{g:Int->Int->Int}{n i j:Int}(hi:0<=i/\i<n)(hj:0<=j/\j<n): ((dD g n).getD i.toNat []).getD j.toNat 0=g i j:=by
 unfold dD;have e1:i.toNat<n.toNat:=by omega
 have e2:j.toNat<n.toNat:=by omega
 have e:((List.range n.toNat).map λi:Nat=>(List.range n.toNat).map λj:Nat=>g i j).getD i.toNat []=(List.range n.toNat).map λj:Nat=>g (i.toNat:Nat) j:=by
  rw[qA,qP,vV e1];rfl
 rw[e,qA,qP,vV e2,qU hi.1];show g i (j.toNat:Nat)=_;rw[qU hj.1]
theorem aAG{l:Li}(hl:dI l)(m i j:Int): -1<=tg l m i j:=by
 unfold tg;have:0<=l.getD (i*m+j).toNat 0:=by
  by_cases hk:(i*m+j).toNat<l.length
  .exact(dU.1 hl.1 _ (aU hk)).1
  .rw[qA,zF (by omega)];exact qL _
 omega
theorem RO{q m:Int}{l:Li}{t:Lj}(h:t∈uJ q m l): ∃k,t=lz m (bN l k):=by
 unfold uJ at h;obtain⟨i,_,rfl⟩:=wZ.1 h;exact⟨_,rfl⟩
theorem RP(q m:Int)(l:Li): (uJ q m l).length=q.toNat:=by unfold uJ;simp
theorem YF{l:Li}(hl:dI l)(h:nK l=true): nxP (aw l):=by
 obtain⟨⟨m0,m1⟩,_⟩:=vA hl h;refine⟨?_,λr hr=>?_⟩
 .show(dD _ _).length<=_;rw[uv];omega
 .obtain⟨h1,h2⟩:=oZ hr;refine⟨by omega,λx hx=>?_⟩;obtain⟨i,j,rfl⟩:=h2 x hx;exact aAG (fj hl 4) _ _ _
theorem Tt{n:Net}{l:Li}(hl:dI l)(h:nK l=true)(hf:DC n (aw l)=true): plP n (aw l):=by
 obtain⟨⟨m0,m1⟩,⟨q0,q1⟩,a0,a1,a2⟩:=vA hl h;unfold DC at hf;simp only[qC,qE,qM,qX]at hf;obtain⟨⟨f1,f2⟩,f3⟩:=hf;have e1:(aw l).2.2.1.length=(l.getD 2 0).toNat:=uv _ _;have e2:(aw l).2.2.2.length=(l.getD 3 0).toNat:=RP _ _ _;refine⟨⟨a0,by show l.getD 0 0<=l.getD 1 0;omega,a2⟩,⟨f1,λr hr=>?_⟩,λi j hi hj=>?_,f2,λt ht=>?_⟩
 .have h1:=(oZ hr).1;omega
 .obtain⟨i0,i1⟩:=hi;obtain⟨j0,j1⟩:=hj;have hi2:i<l.getD 2 0:=by omega
  have hj2:j<l.getD 2 0:=by omega
  have ec:cellAt (aw l) i j=tg (bN l 4) (l.getD 2 0) i j:=U2 ⟨i0,hi2⟩ ⟨j0,hj2⟩;have:=f3 i.toNat (by omega);unfold np at this;rw[qM,qU i0]at this;have hr:=(oZ (g:=tg (bN l 4) (l.getD 2 0)) (n:=l.getD 2 0) (r:=(aw l).2.2.1.getD i.toNat []) (aU (by omega:i.toNat<(aw l).2.2.1.length))).1;refine⟨this _ (aU (by omega)),?_⟩;rw[ec];exact aAG (fj hl 4) _ _ _
 .obtain⟨k,rfl⟩:=RO ht;have e:(lz (l.getD 2 0) (bN (bN l (4+l.getD 2 0*l.getD 2 0)) k)).length=(l.getD 2 0).toNat:=uv _ _;refine⟨by omega,λr hr=>?_⟩;have:=(oZ hr).1;omega
theorem od{f:Nat->Li->Option (Li)}{m:Nat}{x:Li}(h:runN f m x=none): ∀{k:Nat},m<=k->runN f k x=none:=by
 intro k hk;induction hk with
 | refl=>exact h
 | step _ ih=>rw[runN,ih];rfl
theorem mM{α:Type}(x:Option α): (x.bind λy=>some y)=x:=by cases x<;>rfl
theorem bind_none{α:Type}{x:Option α}{f g:α->Option α}(h:x.bind f=none)(hg:∀y,f y=none->g y=none): x.bind g=none:=by
 cases x with
 | none=>rfl
 | some y=>exact hg y h
section
variable {n:Net} {p:Plan} {l:Li} {k o d:Int}
theorem SK: st2 n p l k 0=st1 n p l k:=mM _
theorem SH: st3 n p l k o 0=st2 n p l k o:=mM _
theorem SD: st4 n p l k o d 0=st3 n p l k o d:=mM _
theorem G9(k0:0<=k): st1 n p l (k+1)=st2 n p l k (d6 p k).length:=by
 unfold st2;rw[vC];show runN _ (k+1).toNat l=_;rw[show(k+1).toNat=k.toNat+1 by omega,runN,qU k0];rfl
theorem G8(o0:0<=o): st2 n p l k (o+1)=st3 n p l k o (cellsD p k o).length:=by
 unfold st3 st2;rw[vC,show(o+1).toNat=o.toNat+1 by omega,qCv]
 congr 1
 funext x
 rw[runN,qU o0];rfl
theorem SI(d0:0<=d)(h:jm p k o d=-1): st3 n p l k o (d+1)=st3 n p l k o d:=by
 unfold st3;rw[show(d+1).toNat=d.toNat+1 by omega]
 congr 1
 funext x
 rw[runN,qU d0,show zx n p k o d=λxs=>some xs from funext λxs=>if_pos h];exact mM _
theorem G7(d0:0<=d)(h:jm p k o d≠-1): st3 n p l k o (d+1)=st4 n p l k o d (jJ n p k o).length:=by
 unfold st4 st3;rw[show(d+1).toNat=d.toNat+1 by omega,qCv]
 congr 1
 funext x
 rw[runN,qU d0,show zx n p k o d=λxs=>runN (vL n p k o d) (jJ n p k o).length xs from funext λxs=>if_neg h]
theorem SE(j:Nat): st4 n p l k o d (j+1)=(st4 n p l k o d j).bind (vL n p k o d j):=by
 unfold st4;rw[qCv];rfl
theorem SN{k':Int}(h:st1 n p l k=none)(hk:k<=k'): st1 n p l k'=none:=od h (by omega)
theorem SL{o':Int}(h:st2 n p l k o=none)(hk:o<=o'): st2 n p l k o'=none:=bind_none h λy hy=>od hy (by omega)
theorem SJ{d':Int}(h:st3 n p l k o d=none)(hk:d<=d'): st3 n p l k o d'=none:=bind_none h λy hy=>od hy (by omega)
theorem SG{j j':Nat}(h:st4 n p l k o d j=none)(hk:j<=j'): st4 n p l k o d j'=none:=bind_none h λy hy=>od hy hk
theorem Yd{j:Nat}(h:st4 n p l k o d j=none)(hj:j<=(jJ n p k o).length)(hd:jm p k o d≠-1)(d0:0<=d)(d1:d<(cellsD p k o).length)(o0:0<=o)(o1:o<(d6 p k).length)(k0:0<=k)(k1:k<p.2.2.2.length): C3 n p l=none:=by
 have h1:=SG h hj;rw[<- G7 d0 hd]at h1;have h2:=SJ h1 (d':=(cellsD p k o).length) (by omega);rw[<- G8 o0]at h2;have h3:=SL h2 (o':=(d6 p k).length) (by omega);rw[<- G9 k0]at h3;exact SN h3 (by omega)
end
theorem Ya(s:Int)(l:Li)(cs:List Cal)(ns ps:List ByteArray)(os:List Off)(ls:List Line)(ks:List Cla): af Tryz.prog dY 26 [.agg [.dat (.sl C) cs,.dat (.sl S) ns,.dat (.sl S) ps,.dat (.sl Of) os,.dat (.sl Ln) ls,.dat (.sl Kl) ks],.agg [.dat R l,.dat I s]] [] ⟨HJ l/\rB (cs,ns,ps,os,ls,ks),.dat I (gm (cs,ns,ps,os,ls,ks) l s),[]⟩:=by
 refine qg (c:=c15) Wj Wj aGr hm ZF (RA s l cs ns ps os ls ks ⟨⟨rfl,rfl⟩,λhp=>?_⟩);simp only[qc,Dk,Di,qd,Dt,Ea,Dp,Eh,Df,Dc,Dj,Du];obtain⟨hl,hn⟩:=hp;generalize (cs,ns,ps,os,ls,ks)=n at hn ⊢;have two:∀{p q:Prop},p->(p/\(false=true->q)):=λh=>⟨h,λh=>by cases h⟩
 have eF:gm n l s=if jC (l,s)=true then if usF n=true then if pL n l=true then aFm n l else 190 else 1 else yi (l,s):=rfl
 refine⟨⟨hl,λh=>two (by rw[eF,if_neg (by rw[h];exact Bool.noConfusion)])⟩,λh1=>⟨⟨hl,h1⟩,hn,λh=>two (by rw[eF,if_pos h1,if_neg (by rw[h];exact Bool.noConfusion)]),λh2=>?_⟩⟩;have hs:d5 l s=true/\nK l=true:=by
  unfold jC at h1
  rwa [qC]at h1
 have hnum:dI l:=⟨by have:=hs.1;unfold d5 at this;rw[qC]at this;exact this.1,hl⟩;have hnx:=YF hnum hs.2;refine⟨h2,⟨hn,hnx⟩,λh=>two ?_,λh3=>⟨h3,?_⟩⟩
 .have:pL n l=false:=by
   unfold pL MS;cases e:DC n (aw l)with
   | false=>rfl
   | true=>rw[vH (by have:=h e;omega)];rfl
  rw[eF,if_pos h1,if_pos h2,if_neg (by rw[this];exact Bool.noConfusion)]
 have hfa:pL n l=true:=by
  unfold pL MS;rw[h3.1,qV (by have:=h3.2;omega)];rfl
 have hpl:=Tt hnum hs.2 h3.1;have eC:gm n l s=if C3 n (aw l) (bQ l)=some []then 0 else 190:=by rw[eF,if_pos h1,if_pos h2,if_pos hfa];rfl
 have hrest:dI (bQ l):=fj hnum _;obtain⟨p,ep⟩:∃p,p=aw l:=⟨_,rfl⟩;obtain⟨r,er⟩:∃r,r=bQ l:=⟨_,rfl⟩;rw[<- ep]at hpl;rw[<- er]at hrest;rw[eC];rw[<- ep,<- er];clear eC eF hnx hfa h3 hs h1;obtain⟨⟨p0,p1,p2⟩,⟨q1,q2⟩,q3,q4,q5⟩:=id hpl;have eRow:∀k:Int,p.2.2.2.getD k.toNat []=d6 p k:=λ_=>rfl
 have eCel:∀k o:Int,(d6 p k).getD o.toNat []=cellsD p k o:=λ_ _=>rfl
 have eDay:∀k o d:Int,(cellsD p k o).getD d.toNat 0=jm p k o d:=λ_ _ _=>rfl
 simp only[eRow,eCel,eDay];have hu:usP n:=⟨h2,hn⟩;have hno:n.2.2.2.1.length<=2000000000000000:=hn.1.1.2;have hnk:n.2.2.2.2.2.length<=2000000000000000:=hn.2;refine⟨⟨(0,r),⟨⟨qL _,qZ _⟩,rfl,hrest⟩,rfl,rfl⟩,λ⟨k,xs⟩ ⟨⟨k0,k1⟩,kx,kn⟩=>⟨λhk=>?_,λhk=>?_⟩⟩
 .have hk:k<p.2.2.2.length:=hk;have hrw:(d6 p k).length=n.2.2.2.1.length/\∀r∈d6 p k,r.length=n.2.2.2.1.length:=q5 _ (aU (by omega));refine⟨k0,hk,⟨(0,xs),⟨⟨⟨k0,hk⟩,qL _,qZ _⟩,by rw[SK];exact kx,kn⟩,rfl,rfl⟩,λ⟨o,ys⟩ ⟨⟨_,o0,o1⟩,ox,on⟩=>⟨λho=>?_,λho=>?_⟩⟩
  .have ho:o<(d6 p k).length:=ho;have hcl:(cellsD p k o).length=n.2.2.2.1.length:=hrw.2 _ (aU (by omega));refine⟨o0,ho,⟨(0,ys),⟨⟨⟨k0,hk⟩,⟨o0,ho⟩,qL _,qZ _⟩,by rw[SH];exact ox,on⟩,rfl,rfl⟩,λ⟨d,zs⟩ ⟨⟨_,_,d0,d1⟩,dx,dn⟩=>⟨λhd=>?_,λhd=>?_⟩⟩
   .have hd:d<(cellsD p k o).length:=hd;have d0:0<=d:=d0;have offO:js n o:=⟨o0,by show o<_;omega⟩;have offD:js n d:=⟨d0,by omega⟩;have cla:UU n k:=⟨k0,by show k<_;omega⟩
    refine⟨d0,hd,λhm1=>⟨aB (by omega),⟨(d+1,zs),⟨⟨⟨k0,hk⟩,⟨o0,ho⟩,by show 0<=d+1;omega,by show d+1<=_;omega⟩,by rw[SI d0 hm1];exact dx,dn⟩,⟨rfl,rfl⟩,by show(_-(d+1)).toNat<_;omega⟩⟩,λhm1=>⟨⟨⟨hu,hpl⟩,offO,cla⟩,⟨(0,zs),⟨qL _,by show st4 n p r k o d 0=_;rw[SD];exact dx,dn⟩,rfl,rfl⟩,λ⟨j,us⟩ y ⟨j0,jx,jn⟩ hy=>?_,λ⟨j,us⟩ ⟨j0,jx,jn⟩ hj=>?_⟩⟩
    .have hy:(jJ n p k o)[j.toNat]?=some y:=hy;obtain⟨jl,_⟩:=qF.1 hy;have hyd:(jJ n p k o).getD j.toNat 0=y:=by rw[qA,hy];rfl
     have hin:uh p y=true:=by
      have:=zD hy;unfold jJ at this;exact(xO.1 this).2
     have hin2:1440*p.1<=y/\y<1440*p.2.1:=by
      unfold uh at hin
      rwa [qC,qE,qE]at hin
     have hf:H5 n p o d y us:=⟨⟨⟨hu,hpl⟩,offO,offD⟩,⟨by omega,by omega⟩,jn⟩;have jx:st4 n p r k o d j.toNat=some us:=jx;have ju:st4 n p r k o d (j.toNat+1)=if uK n p k o d y us=true then some (H4 n p o d y us)else none:=by
      rw[SE,jx];show vL n p k o d j.toNat us=_;unfold vL;rw[hyd]
     refine⟨⟨⟨hf,cla⟩,λhno=>two ?_⟩,λhok=>⟨⟨⟨hf,cla⟩,hok⟩,⟨(j+1,H4 n p o d y us),⟨by show 0<=j+1;have:0<=j:=j0;omega,by rw[show((j+1,H4 n p o d y us).1).toNat=j.toNat+1 by show(j+1).toNat=_;have:0<=j:=j0;omega,ju,if_pos hok],(FT 19 hf).2⟩,by show(j+1).toNat=_;have:0<=j:=j0;omega,rfl⟩⟩⟩;rw[if_neg (by rw[hno];exact Bool.noConfusion)]at ju;rw[Yd ju (by omega) hm1 d0 hd o0 ho k0 hk]
     exact(if_neg (λh=>by cases h)).symm
    .have hj:j.toNat=(jJ n p k o).length:=hj;have jx:st4 n p r k o d j.toNat=some us:=jx;refine⟨aB (by omega),⟨(d+1,us),⟨⟨⟨k0,hk⟩,⟨o0,ho⟩,by show 0<=d+1;omega,by show d+1<=_;omega⟩,by rw[G7 d0 hm1,<- hj];exact jx,jn⟩,⟨rfl,rfl⟩,by show(_-(d+1)).toNat<_;omega⟩⟩
   .have d1:d<=(cellsD p k o).length:=d1;have hd:¬d<(cellsD p k o).length:=hd;have de:d=(cellsD p k o).length:=by omega
    have o0:0<=o:=o0;refine⟨aB (by omega),⟨(o+1,zs),⟨⟨⟨k0,hk⟩,by show 0<=o+1;omega,by show o+1<=_;omega⟩,by rw[G8 o0,<- de];exact dx,dn⟩,⟨rfl,rfl⟩,by show(_-(o+1)).toNat<_;omega⟩⟩
  .have o1:o<=(d6 p k).length:=o1;have ho:¬o<(d6 p k).length:=ho;have oe:o=(d6 p k).length:=by omega
   have k0:0<=k:=k0;refine⟨aB (by omega),⟨(k+1,ys),⟨⟨by show 0<=k+1;omega,by show k+1<=_;omega⟩,by rw[G9 k0,<- oe];exact ox,on⟩,⟨rfl,rfl⟩,by show(_-(k+1)).toNat<_;omega⟩⟩
 .have k1:k<=p.2.2.2.length:=k1;have hk:¬k<p.2.2.2.length:=hk;have ke:k=p.2.2.2.length:=by omega
  have ka:C3 n p r=some xs:=by unfold C3;rw[<- ke];exact kx
  rw[ka];have xl:∀xs:Li,(some xs=some [])↔xs.length=0:=λxs=>by
   rw[vZ,List.length_eq_zero_iff]
  refine⟨λh=>two ?_,λh=>⟨h,(λh=>by cases h),?_⟩⟩
  .have h:(xs.length:Int)≠0:=h;rw[if_neg (by rw[xl];omega)]
  .have h:(xs.length:Int)=0:=h;rw[if_pos (by rw[xl];omega)]
end Go.Eng.In
set_option maxRecDepth 100000
noncomputable section
namespace Go.Eng.Sv
open Go.Proofs
def p0F(a b:Int): Plan:=(a,b,[],[])
def p1F(n:Net)(a b:Int): Plan:=Zg n (p0F a b)
def p2F(n:Net)(a b:Int): Plan:=Zh n (p1F n a b)
def JW(n:Net)(a b:Int): Nat->Plan
 | 0=>p0F a b
 | 1=>p0F a b
 | 2=>p1F n a b
 | 3=>p1F n a b
 | _=>p2F n a b
def J7(n:Net)(a b:Int): Nat->jv
 | 5=>(wrN n (p2F n a b),wrS n (p2F n a b))
 | _=>([],0)
def rP(n:Net)(a b:Int): Int:=if Im n (p0F a b)≠0 then Im n (p0F a b)else if nW n (p1F n a b)≠0 then nW n (p1F n a b)else wrE n (p2F n a b)
def dP(n:Net)(a b:Int): Plan:=if rP n a b=0 then p2F n a b else(0,0,[],[])
def J6(n:Net)(a b:Int): jv:=if rP n a b=0 then(wrN n (p2F n a b),wrS n (p2F n a b))else([],0)
def oU(n:Net)(a b:Int)(j:Nat): Prop:=j<=5/\(1<=j->Im n (p0F a b)=0)/\(3<=j->nW n (p1F n a b)=0)/\(5<=j->wrE n (p2F n a b)=0)
def aFi: Kt:=kOr 38 (cK (λ_ _=>True) Im λ_ p c=>(p,c)) <|
 kOr 39 (cK (λ_ p=>aCb p) (λ_ _=>0) λn p c=>(Zg n p,c)) <|
 kOr 40 (cK vg nW λ_ p c=>(p,c)) <|
 kOr 41 (cK (λ_ p=>bZ p.2.2.1) (λ_ _=>0) λn p c=>(Zh n p,c)) <|
 kOr 42 (cK (λ_ p=>fQ p) wrE λn p _=>(p,(wrN n p,wrS n p))) KC9
def cComp: Cfg:=mkp aFi (λt=>t==19) Go.Eng.noP (λ_=>false)
def aCe(n:Net)(a b:Int): Ann:=⟨λid s=>match id with
 | 4=>some {α:=Nat,inv:=λj=>oU n a b j,st:=λj=>iE (put s [(28,.dat I (Int.ofNat j))]) 2 (.var (Pn n (JW n a b j) (J7 n a b j))),μ:=λj=>Dc (Dh 5 (Int.ofNat j)),fin:=[0,1,2,3,4,5]}
 | _=>none,λ_ _=>none,λ_ _=>none⟩
set_option maxHeartbeats 4000000 in
theorem IV(a b:Int)(cs:LC)(ns os:LB)(fs:Lo)(ls:Ll)(ks:Lk)(hvc:
 let c1:=(cs,ns,os,fs,ls,ks);let c2:=Dp 0 5;let c3:=JW c1 a b 0;let c10:=Im c1 c3;let c11:=Ec c10 0;let c12:=dP c1 a b;let c19:=J6 c1 a b;let c22:=rP c1 a b;let c23:=Dq 0 1;let c24:=J7 c1 a b 0;let c27:=Dp 1 5;let c28:=JW c1 a b 1;let c36:=Ec 0 0;let c4:=c36->1=1/\0=0/\1=1/\0=0/\1=1/\0=0/\1=1/\0=0/\0=c12.1/\0=c12.2.1/\c12.2.2.1=Dt (Li)/\c12.2.2.2=Dt (Lj)/\c19.1=Dt Int/\0=c19.2/\0=c22/\True;let c37:=Dq 1 1;let c38:=Zg c1 c28;let c41:=J7 c1 a b 1;let c44:=Dp 2 5;let c45:=JW c1 a b 2;let c53:=nW c1 c45;let c54:=Ec c53 0;let c55:=Dq 2 1;let c56:=J7 c1 a b 2;let c59:=Dp 3 5;let c60:=JW c1 a b 3;let c64:=Dq 3 1;let c68:=Zh c1 c60;let c71:=J7 c1 a b 3;let c74:=Dp 4 5;let c75:=JW c1 a b 4;let c83:=wrE c1 c75;let c84:=Ec c83 0;let c85:=Dq 4 1;let c86:=J7 c1 a b 4;let c87:=Dp 5 5;let c88:=JW c1 a b 5;let c91:=J7 c1 a b 5;true/\(True->(∃x,let c92:=JW c1 a b x;let c95:=J7 c1 a b x;
 oU c1 a b x/\1=1/\0=0/\0=0/\1=1/\0=0/\0=0/\1=1/\0=0/\0=0/\(5:Int)=(5:Int)/\0=Int.ofNat x/\(0:Int)=(0:Int)/\(0:Int)=(0:Int)/\Value.slice none 0 0=Value.slice none 0 0/\Value.slice none 0 0=Value.slice none 0 0/\Value.slice none 0 0=Value.slice none 0 0/\(0:Int)=(0:Int)/\cs=cs/\ns=ns/\os=os/\fs=fs/\ls=ls/\ks=ks/\a=c92.1/\b=c92.2.1/\c92.2.2.1=Dt (Li)/\c92.2.2.2=Dt (Lj)/\c95.1=Dt Int/\0=c95.2/\True)/\(∀(x:Nat),oU c1 a b x->x∈[0,1,2,3,4,5])/\(oU c1 a b 0->(c2->Dl 0 0/\0<Dx 5/\1=1/\0=0/\1=1/\1=1/\0=0/\True/\1=1/\(c11->1=1/\0=0/\1=1/\0=0/\1=1/\0=0/\1=1/\0=0/\0=c12.1/\0=c12.2.1/\c12.2.2.1=Dt (Li)/\c12.2.2.2=Dt (Lj)/\c19.1=Dt Int/\0=c19.2/\c10=c22/\True)/\(c11=false->inR .i64 c23/\∃y,let c96:=JW c1 a b y;let c99:=J7 c1 a b y;oU c1 a b y/\(1=1/\0=0/\0=0/\1=1/\0=0/\0=0/\1=1/\0=0/\0=0/\(5:Int)=(5:Int)/\c23=Int.ofNat y/\(0:Int)=(0:Int)/\(0:Int)=(0:Int)/\Value.slice none 0 0=Value.slice none 0 0/\Value.slice none 0 0=Value.slice none 0 0/\Value.slice none 0 0=Value.slice none 0 0/\(0:Int)=(0:Int)/\cs=cs/\ns=ns/\os=os/\fs=fs/\ls=ls/\ks=ks/\c3.1=c96.1/\c3.2.1=c96.2.1/\c3.2.2.1=c96.2.2.1/\c3.2.2.2=c96.2.2.2/\c24.1=c99.1/\c24.2=c99.2/\True)/\Dc (5-Int.ofNat y)<Dc (Dh 5 0)))/\(c2=false->1=1/\1=1/\1=1/\0=0/\1=1/\1=1/\1=1/\0=0/\1=1/\0=0/\1=1/\0=0/\1=1/\0=0/\1=1/\0=0/\c3.1=c12.1/\c3.2.1=c12.2.1/\c3.2.2.1=c12.2.2.1/\c3.2.2.2=c12.2.2.2/\c24.1=c19.1/\c24.2=c19.2/\0=c22/\True))/\(oU c1 a b 1->(c27->Dl 0 1/\1<Dx 5/\1=1/\0=0/\1=1/\1=1/\0=0/\aCb c28/\1=1/\c4/\(c36=false->inR .i64 c37/\∃y,let c100:=JW c1 a b y;let c103:=J7 c1 a b y;
 oU c1 a b y/\(1=1/\0=0/\0=0/\1=1/\0=0/\0=0/\1=1/\0=0/\0=0/\(5:Int)=(5:Int)/\c37=Int.ofNat y/\(0:Int)=(0:Int)/\(0:Int)=(0:Int)/\Value.slice none 0 0=Value.slice none 0 0/\Value.slice none 0 0=Value.slice none 0 0/\Value.slice none 0 0=Value.slice none 0 0/\(0:Int)=(0:Int)/\cs=cs/\ns=ns/\os=os/\fs=fs/\ls=ls/\ks=ks/\c38.1=c100.1/\c38.2.1=c100.2.1/\c38.2.2.1=c100.2.2.1/\c38.2.2.2=c100.2.2.2/\c41.1=c103.1/\c41.2=c103.2/\True)/\Dc (5-Int.ofNat y)<Dc (Dh 5 1)))/\(c27=false->1=1/\1=1/\1=1/\0=0/\1=1/\1=1/\1=1/\0=0/\1=1/\0=0/\1=1/\0=0/\1=1/\0=0/\1=1/\0=0/\c28.1=c12.1/\c28.2.1=c12.2.1/\c28.2.2.1=c12.2.2.1/\c28.2.2.2=c12.2.2.2/\c41.1=c19.1/\c41.2=c19.2/\0=c22/\True))/\(oU c1 a b 2->(c44->Dl 0 2/\2<Dx 5/\1=1/\0=0/\1=1/\1=1/\0=0/\vg c1 c45/\1=1/\(c54->1=1/\0=0/\1=1/\0=0/\1=1/\0=0/\1=1/\0=0/\0=c12.1/\0=c12.2.1/\c12.2.2.1=Dt (Li)/\c12.2.2.2=Dt (Lj)/\c19.1=Dt Int/\0=c19.2/\c53=c22/\True)/\(c54=false->inR .i64 c55/\∃y,let c104:=JW c1 a b y;let c107:=J7 c1 a b y;
 oU c1 a b y/\(1=1/\0=0/\0=0/\1=1/\0=0/\0=0/\1=1/\0=0/\0=0/\(5:Int)=(5:Int)/\c55=Int.ofNat y/\(0:Int)=(0:Int)/\(0:Int)=(0:Int)/\Value.slice none 0 0=Value.slice none 0 0/\Value.slice none 0 0=Value.slice none 0 0/\Value.slice none 0 0=Value.slice none 0 0/\(0:Int)=(0:Int)/\cs=cs/\ns=ns/\os=os/\fs=fs/\ls=ls/\ks=ks/\c45.1=c104.1/\c45.2.1=c104.2.1/\c45.2.2.1=c104.2.2.1/\c45.2.2.2=c104.2.2.2/\c56.1=c107.1/\c56.2=c107.2/\True)/\Dc (5-Int.ofNat y)<Dc (Dh 5 2)))/\(c44=false->1=1/\1=1/\1=1/\0=0/\1=1/\1=1/\1=1/\0=0/\1=1/\0=0/\1=1/\0=0/\1=1/\0=0/\1=1/\0=0/\c45.1=c12.1/\c45.2.1=c12.2.1/\c45.2.2.1=c12.2.2.1/\c45.2.2.2=c12.2.2.2/\c56.1=c19.1/\c56.2=c19.2/\0=c22/\True))/\(oU c1 a b 3->(c59->Dl 0 3/\3<Dx 5/\1=1/\0=0/\1=1/\1=1/\0=0/\bZ c60.2.2.1/\1=1/\c4/\(c36=false->inR .i64 c64/\∃y,let c108:=JW c1 a b y;let c111:=J7 c1 a b y;
 oU c1 a b y/\(1=1/\0=0/\0=0/\1=1/\0=0/\0=0/\1=1/\0=0/\0=0/\(5:Int)=(5:Int)/\c64=Int.ofNat y/\(0:Int)=(0:Int)/\(0:Int)=(0:Int)/\Value.slice none 0 0=Value.slice none 0 0/\Value.slice none 0 0=Value.slice none 0 0/\Value.slice none 0 0=Value.slice none 0 0/\(0:Int)=(0:Int)/\cs=cs/\ns=ns/\os=os/\fs=fs/\ls=ls/\ks=ks/\c68.1=c108.1/\c68.2.1=c108.2.1/\c68.2.2.1=c108.2.2.1/\c68.2.2.2=c108.2.2.2/\c71.1=c111.1/\c71.2=c111.2/\True)/\Dc (5-Int.ofNat y)<Dc (Dh 5 3)))/\(c59=false->1=1/\1=1/\1=1/\0=0/\1=1/\1=1/\1=1/\0=0/\1=1/\0=0/\1=1/\0=0/\1=1/\0=0/\1=1/\0=0/\c60.1=c12.1/\c60.2.1=c12.2.1/\c60.2.2.1=c12.2.2.1/\c60.2.2.2=c12.2.2.2/\c71.1=c19.1/\c71.2=c19.2/\0=c22/\True))/\(oU c1 a b 4->(c74->Dl 0 4/\4<Dx 5/\1=1/\0=0/\1=1/\1=1/\0=0/\fQ c75/\1=1/\(c84->1=1/\0=0/\1=1/\0=0/\1=1/\0=0/\1=1/\0=0/\0=c12.1/\0=c12.2.1/\c12.2.2.1=Dt (Li)/\c12.2.2.2=Dt (Lj)/\c19.1=Dt Int/\0=c19.2/\c83=c22/\True)/\(c84=false->inR .i64 c85/\∃y,let c112:=JW c1 a b y;let c115:=J7 c1 a b y;
 oU c1 a b y/\(1=1/\0=0/\0=0/\1=1/\0=0/\0=0/\1=1/\0=0/\0=0/\(5:Int)=(5:Int)/\c85=Int.ofNat y/\(0:Int)=(0:Int)/\(0:Int)=(0:Int)/\Value.slice none 0 0=Value.slice none 0 0/\Value.slice none 0 0=Value.slice none 0 0/\Value.slice none 0 0=Value.slice none 0 0/\(0:Int)=(0:Int)/\cs=cs/\ns=ns/\os=os/\fs=fs/\ls=ls/\ks=ks/\c75.1=c112.1/\c75.2.1=c112.2.1/\c75.2.2.1=c112.2.2.1/\c75.2.2.2=c112.2.2.2/\wrN c1 c75=c115.1/\wrS c1 c75=c115.2/\True)/\Dc (5-Int.ofNat y)<Dc (Dh 5 4)))/\(c74=false->1=1/\1=1/\1=1/\0=0/\1=1/\1=1/\1=1/\0=0/\1=1/\0=0/\1=1/\0=0/\1=1/\0=0/\1=1/\0=0/\c75.1=c12.1/\c75.2.1=c12.2.1/\c75.2.2.1=c12.2.2.1/\c75.2.2.2=c12.2.2.2/\c86.1=c19.1/\c86.2=c19.2/\0=c22/\True))/\(oU c1 a b 5->(c87->False)/\(c87=false->1=1/\1=1/\1=1/\0=0/\1=1/\1=1/\1=1/\0=0/\1=1/\0=0/\1=1/\0=0/\1=1/\0=0/\1=1/\0=0/\c88.1=c12.1/\c88.2.1=c12.2.1/\c88.2.2.1=c12.2.2.1/\c88.2.2.2=c12.2.2.2/\c91.1=c19.1/\c91.2=c19.2/\0=c22/\True))/\True)):
  evF cComp (lvA [(4,[6,7,8,9,12,13,26,27,28])] (aCe (cs,ns,os,fs,ls,ks) a b)) 11 [net cs ns os fs ls ks,.dat I a,.dat I b] [] ⟨True,.tup [.agg [.dat I (dP (cs,ns,os,fs,ls,ks) a b).1,.dat I (dP (cs,ns,os,fs,ls,ks) a b).2.1,.dat M (dP (cs,ns,os,fs,ls,ks) a b).2.2.1,.dat (.sl M) (dP (cs,ns,os,fs,ls,ks) a b).2.2.2],.agg [.dat R (J6 (cs,ns,os,fs,ls,ks) a b).1,.dat I (J6 (cs,ns,os,fs,ls,ks) a b).2],.dat I (rP (cs,ns,os,fs,ls,ks) a b)],[]⟩:=oE hvc
theorem aCx(h:nu): ak Tryz.prog G0 aFi:=ai (Pm λn p c=>SB n p c)<|ai (Pm λn p c=>SA n p c)<|ai (Pm λn p c=>X2 h n p c)<|ai (Pm λn p c=>X3 n p c)<|ai (Pm λn p c=>X8 n p c) (aFK h)
theorem PH{n:Net}{c:Li}{bd:Lj}{o d:Int}: aV n o (rF n c bd o d)=true:=by
 unfold rF aV;split
 .rename_i i h;have hm:=qX.1 (List.mem_of_find?_eq_some h);have hb:=qDm h;unfold k9 at hb;simp only[qC,qE]at hb;rw[yE,qC];refine .inr ⟨?_,qV hb.1.1.1⟩;unfold bP;exact qV ⟨by omega,by omega⟩
 .rfl
theorem Nv{n:Net}{a b:Int}(hu:gA n a b=true): lr n (lJ n a b)=true:=by
 have e:lJ n a b=Go.Eng.Mp.aL (mQ n (bq n a b) (aP n (bq n a b))) n.2.2.2.1.length:=by
  unfold lJ BB;rw[if_pos hu]
 rw[e];generalize hg:mQ n (bq n a b) (aP n (bq n a b))=g;have hc:∀o d:Int,aV n o (g o d)=true:=λo d=>by
  rw[<- hg];unfold mQ;split
  .rfl
  .exact PH
 unfold lr Go.Eng.Mp.aL;rw[qC];refine⟨qV (by simp),qM.2 λi hi=>?_⟩;have hi:i<n.2.2.2.1.length:=by simpa using hi
 rw[qA,qP,vV (by simpa using hi)];unfold rowOk;rw[qC];refine⟨qV (by simp),qM.2 λl hl=>?_⟩;obtain⟨d,_,rfl⟩:=wZ.1 hl;exact hc _ _
theorem xj{n:Net}{nx:Lj}(hs:aO n=true)(ht:lr n nx=true): bZ nx:=by
 obtain⟨q1,_⟩:=nt n.1 n.2.1 n.2.2.1 n.2.2.2.1 n.2.2.2.2.1 n.2.2.2.2.2 hs;have q1:(n.2.2.2.1.length:Int)<=12:=q1;unfold lr at ht;rw[qC,qE]at ht;refine⟨by have:=ht.1;omega,λr hr=>?_⟩;obtain⟨i,hi,rfl⟩:=wX.1 hr;have:=qM.1 ht.2 i (qX.2 hi);unfold rowOk at this;rw[qC,qE,qA,qB hi,qQ]at this;have:=this.1;omega
theorem G3{n:Net}{nx:Lj}{a b:Int}(hs:aO n=true): (DU n nx a b).length<=1000000/\∀t∈DU n nx a b,bZ t:=by
 obtain⟨q1,q2⟩:=nt n.1 n.2.1 n.2.2.1 n.2.2.2.1 n.2.2.2.2.1 n.2.2.2.2.2 hs;have q1:(n.2.2.2.1.length:Int)<=12:=q1;have q2:(n.2.2.2.2.2.length:Int)<=1000000:=q2;unfold DU;split
 .refine⟨by rw[vW,wC];omega,λt ht=>?_⟩;obtain⟨k,_,rfl⟩:=wZ.1 ht;unfold Vp;refine⟨by rw[vW,wC];omega,λr hr=>?_⟩;obtain⟨o,_,rfl⟩:=wZ.1 hr;unfold Yz;rw[vW,wC];omega
 .exact⟨wU _,λt ht=>by cases ht⟩
theorem aCh{n:Net}{p:Plan}: Im n p=0↔(0<=p.1/\p.1<p.2.1/\p.2.1<=600/\p.2.1-p.1<=60)/\aO n=true:=by
 unfold Im lh;simp only[qC,qE];split
 .rename_i h;exact⟨λ_=>⟨by omega,h.2⟩,λ_=>rfl⟩
 .rename_i h;constructor
  .intro g;cases g
  .intro g;exact absurd ⟨by omega,g.2⟩ h
theorem CL{n:Net}{a b:Int}(h:Im n (p0F a b)=0): (0<=a/\a<b/\b<=600/\b-a<=60)/\aO n=true/\gA n (1440*a) (1440*b)=true/\lr n (p1F n a b).2.2.1=true:=by
 obtain⟨h1,h2⟩:=aCh.1 h;have h1:0<=a/\a<b/\b<=600/\b-a<=60:=h1;have hu:gA n (1440*a) (1440*b)=true:=by
  unfold gA;rw[qC];exact⟨sJ.2 (by omega),h2⟩
 exact⟨h1,h2,hu,Nv hu⟩
theorem MI(h:nu)(a b:Int)(cs:LC)(ns os:LB)(fs:Lo)(ls:Ll)(ks:Lk): af Tryz.prog G0 11 [net cs ns os fs ls ks,.dat I a,.dat I b] [] ⟨True,.tup [.agg [.dat I (dP (cs,ns,os,fs,ls,ks) a b).1,.dat I (dP (cs,ns,os,fs,ls,ks) a b).2.1,.dat M (dP (cs,ns,os,fs,ls,ks) a b).2.2.1,.dat (.sl M) (dP (cs,ns,os,fs,ls,ks) a b).2.2.2],.agg [.dat R (J6 (cs,ns,os,fs,ls,ks) a b).1,.dat I (J6 (cs,ns,os,fs,ls,ks) a b).2],.dat I (rP (cs,ns,os,fs,ls,ks) a b)],[]⟩:=by
 refine ae (c:=cComp) (aCx h) aJ hm (IV a b cs ns os fs ls ks ⟨rfl,λ_=>?_⟩);obtain⟨n,hn⟩:∃n:Net,n=(cs,ns,os,fs,ls,ks):=⟨_,rfl⟩;simp only[<- hn];have eP:∀p:Plan,(p.1,p.2.1,p.2.2.1,p.2.2.2)=p:=λ_=>rfl
 simp only[qc,qd,Dt,Ec,Dp,Dl,Dh,Dq,Dc,Dx];have bad:∀e:Int,e≠0->e=rP n a b->0=(dP n a b).1/\0=(dP n a b).2.1/\(dP n a b).2.2.1=[]/\(dP n a b).2.2.2=[]/\(J6 n a b).1=[]/\0=(J6 n a b).2/\e=rP n a b:=λe he h=>by
  have hne:¬rP n a b=0:=by rw[<- h];exact he
  unfold dP J6;rw[if_neg hne,if_neg hne];exact⟨rfl,rfl,rfl,rfl,rfl,rfl,h⟩
 refine⟨⟨0,⟨by omega,λh=>by omega,λh=>by omega,λh=>by omega⟩,rfl,rfl,rfl,rfl,rfl,rfl,rfl⟩,λx hx=>?_,λ_=>?_,λh1=>?_,λh2=>?_,λh3=>?_,λh4=>?_,λh5=>?_⟩
 .have:=hx.1;rcases(by omega:x=0\/x=1\/x=2\/x=3\/x=4\/x=5)with rfl | rfl | rfl | rfl | rfl | rfl<;>simp
 .refine⟨λ_=>⟨by omega,by omega,λg=>bad _ g ?_,λg=>⟨aM (by omega),1,⟨by omega,λ_=>g,λh=>by omega,λh=>by omega⟩,⟨rfl,rfl,rfl,rfl,rfl,rfl,rfl⟩,by decide⟩⟩,λh=>absurd (by decide) h⟩;unfold rP;rw[if_pos (show Im n (p0F a b)≠0 from g)];rfl
 .have hk:=h1.2.1 (by omega);obtain⟨hr,hs,hu,ht⟩:=CL hk;exact⟨λ_=>⟨by omega,by omega,⟨by show 0<=a;omega,by show a<=1000;omega,by show 0<=b;omega,by show b<=1000;omega⟩,λh=>absurd rfl h,aM (by omega),2,⟨by omega,λ_=>hk,λh=>by omega,λh=>by omega⟩,⟨rfl,rfl,rfl,rfl,rfl,rfl,rfl⟩,by decide⟩,λh=>absurd (by decide) h⟩
 .have hk:=h2.2.1 (by omega);obtain⟨hr,hs,hu,ht⟩:=CL hk;refine⟨λ_=>⟨by omega,by omega,⟨hs,ht⟩,λg=>bad _ g ?_,λg=>⟨aM (by omega),3,⟨by omega,λ_=>hk,λ_=>g,λh=>by omega⟩,⟨rfl,rfl,rfl,rfl,rfl,rfl,rfl⟩,by decide⟩⟩,λh=>absurd (by decide) h⟩;unfold rP;rw[if_neg (λh=>h hk),if_pos (show nW n (p1F n a b)≠0 from g)];rfl
 .have hk:=h3.2.1 (by omega);obtain⟨hr,hs,hu,ht⟩:=CL hk;exact⟨λ_=>⟨by omega,by omega,xj hs ht,λh=>absurd rfl h,aM (by omega),4,⟨by omega,λ_=>hk,λ_=>h3.2.2.1 (by omega),λh=>by omega⟩,⟨rfl,rfl,rfl,rfl,rfl,rfl,rfl⟩,by decide⟩,λh=>absurd (by decide) h⟩
 .have hk:=h4.2.1 (by omega);have hso:=h4.2.2.1 (by omega);obtain⟨hr,hs,hu,ht⟩:=CL hk;obtain⟨t1,t2⟩:=G3 (nx:=(p1F n a b).2.2.1) (a:=(p1F n a b).1) (b:=(p1F n a b).2.1) hs;refine⟨λ_=>⟨by omega,by omega,⟨xj hs ht,t1,t2⟩,λg=>bad _ g ?_,λg=>⟨aM (by omega),5,⟨by omega,λ_=>hk,λ_=>hso,λ_=>g⟩,⟨rfl,rfl,rfl,rfl,rfl,rfl,rfl⟩,by decide⟩⟩,λh=>absurd (by decide) h⟩
  unfold rP;rw[if_neg (λh=>h hk),if_neg (λh=>h hso)];rfl
 .have hk:=h5.2.1 (by omega);have hso:=h5.2.2.1 (by omega);have hw:=h5.2.2.2 (by omega);have hE:rP n a b=0:=by
   unfold rP;rw[if_neg (λh=>h hk),if_neg (λh=>h hso)];exact hw
  unfold dP J6;rw[if_pos hE,if_pos hE,hE];exact⟨λh=>absurd h (by decide),λ_=>⟨rfl,rfl,rfl,rfl,rfl,rfl,rfl⟩⟩
end Go.Eng.Sv
set_option maxRecDepth 100000
noncomputable section
namespace Go.Eng.Sv
open Go.Proofs
def KE(x:Int): Li->Nat
 | []=>0
 | a::l=>if a=x then 0 else KE x l+1
def Un(l:Li)(x:Int): Int:=if KE x l<l.length then(KE x l:Int)else -1
def Um(l:Li)(x k:Int): Prop:=0<=k/\k<=l.length/\k<=KE x l
def Y9(l:Li): Prop:=(l.length:Int)<=1000000000
def gOk(n:Net)(p:Plan)(o:Int): Bool:=(bP o n.2.2.2.1.length&&aO n)&&gb n p
def gsF(n:Net)(p:Plan)(o:Int): Li:=if gOk n p o=true then -1::Ah p o else[]
def Ds(p:Plan)(o d:Int): Int:=if d=o then 0 else if(fW p o).getD d.toNat 0=-1 then -1 else Un (-1::Ah p o) ((fW p o).getD d.toNat 0)
def ofF(n:Net)(p:Plan)(o:Int): Li:=if gOk n p o=true then(List.range n.2.2.2.1.length).map λd:Nat=>Ds p o d else[]
def NL(n:Net)(p:Plan)(o k:Int): Li:=upF (Ds p o) 0 n.2.2.2.1.length k
def gTo(n:Net)(p:Plan)(o k:Int): Prop:=gOk n p o=true/\0<=k/\k<=n.2.2.2.1.length
theorem Xm(o x:Int)(cs:LC)(ns os:LB)(fs:Lo)(ls:Ll)(ks:Lk)(hvc:
 let c1:=Ea x (-1);let c2:=Di c1;let c8:=c2->c2->c2;let c3:=Ed x 0;let c7:=Dk c2 c3->Dk c2 c3->Dk c2 c3;let c4:=Df ls;let c5:=Dz c3 (Dp x c4) false;let c6:=Dk c2 c5->Dk c2 c5->Dk c2 c5;true/\(True->c8/\c8/\c7/\c7/\c7/\c7/\c8/\(c2->Dk c2 c3->Dk c2 c3)/\c8/\c6/\c6/\c6/\(Dk c2 c5->0<=x)/\(Dk c2 c5->x<c4)/\c6/\c6/\c6/\c6/\c8/\(c2->Dk c2 c5->Dk c2 c5)/\(Dk true c2->c2)/\Dz c1 true (Dz c5 (Ea (Du ls (Dc x) (ByteArray.mk #[],(0:Int),(0:Int),(0:Int),(0:Int),(0:Int))).2.1 o) false)=aV (cs,ns,os,fs,ls,ks) o x/\True)):
  evF (mkc KC8) aA 107 [.dat I o,.dat I x,.ip N (cs,ns,os,fs,ls,ks)] [] ⟨True,.dat .bool (aV (cs,ns,os,fs,ls,ks) o x),[]⟩:=oE hvc
theorem Xl(o x:Int)(hvc:
 let c1:=Ed x (-1);true/\(True->(c1->c1->c1)/\(Dk true c1->c1)/\Dz c1 (Eh x 65518) false=gP o x/\True)):
  evF (mkc KC8) aA 108 [.dat I o,.dat I x] [] ⟨True,.dat .bool (gP o x),[]⟩:=oE hvc
def Z6: Kt:=kOr 107 (az [.val I,.val I,.ptr N] (λ_=>True) λ(o,x,n,_)=>.dat .bool (aV n o x)) <|
 kOr 108 (az [.val I,.val I] (λ_=>True) λ(o,x,_)=>.dat .bool (gP o x)) KC8
theorem Xh(t:Lj)(m:Int)(n:Net)(hvc:
 let c1:=Ec (Df t) m;let c2:=sgF (aV n) t m;true/\(bZ t->(c1->false=c2/\True)/\(c1=false->(∃x,Dm (aV n) t m x/\m=m/\n=n/\t=t/\Df t=Df t/\0=x/\True)/\∀(x:Int),let c3:=Dp x (Df t);let c4:=Du t (Dc x) [];let c5:=Df c4;let c6:=Ec c5 m;let c7:=x+1;Dm (aV n) t m x->(c3->0<=x/\x<Df t/\(c6->false=c2/\True)/\(c6=false->(∃x_4,mO (aV n) c4 m x x_4/\m=m/\n=n/\x=x/\c4=c4/\t=t/\Df t=Df t/\x=x/\c4=c4/\c5=c5/\0=x_4/\True)/\∀(x_4:Int),let c8:=Di (aV n x (Du c4 (Dc x_4) 0));let c9:=x_4+1;mO (aV n) c4 m x x_4->(Dp x_4 c5->0<=x_4/\x_4<c5/\True/\(c8->false=c2/\True)/\(c8=false->inR .i64 c9/\∃y,mO (aV n) c4 m x y/\(m=m/\n=n/\x=x/\c4=c4/\t=t/\Df t=Df t/\x=x/\c4=c4/\c5=c5/\c9=y/\True)/\Dc (c5-y)<Dc (c5-x_4)))/\(Dp x_4 c5=false->inR .i64 c7/\∃y,Dm (aV n) t m y/\(m=m/\n=n/\t=t/\Df t=Df t/\c7=y/\True)/\Dc (Df t-y)<Dc (Df t-x))))/\(c3=false->true=c2/\True)))):
  evF (mkc Z6) (lvA [(4,[1,2,6,7,8,10,15,16,17,26,27,28]),(9,[1,2,6,7,8,10,15,16,17,26,27,28])] (sgA (aV n) t m)) 109 [.dat M t,.dat I m,.fn 107 [.ip N n]] [] ⟨bZ t,.dat .bool (sgF (aV n) t m),[]⟩:=oE hvc
theorem Xi(t:Lj)(m:Int)(hvc:
 let c1:=Ec (Df t) m;true/\(bZ t->(c1->false=sgF gP t m/\True)/\(c1=false->(∃x,Dm gP t m x/\m=m/\t=t/\Df t=Df t/\0=x/\True)/\∀(x:Int),let c2:=Dp x (Df t);let c3:=Du t (Dc x) [];let c4:=Df c3;let c5:=Ec c4 m;let c6:=x+1;Dm gP t m x->(c2->0<=x/\x<Df t/\(c5->false=sgF gP t m/\True)/\(c5=false->(∃x_4,mO gP c3 m x x_4/\m=m/\x=x/\c3=c3/\t=t/\Df t=Df t/\x=x/\c3=c3/\c4=c4/\0=x_4/\True)/\∀(x_4:Int),let c7:=Di (gP x (Du c3 (Dc x_4) 0));let c8:=x_4+1;mO gP c3 m x x_4->(Dp x_4 c4->0<=x_4/\x_4<c4/\True/\(c7->false=sgF gP t m/\True)/\(c7=false->inR .i64 c8/\∃y,mO gP c3 m x y/\(m=m/\x=x/\c3=c3/\t=t/\Df t=Df t/\x=x/\c3=c3/\c4=c4/\c8=y/\True)/\Dc (c4-y)<Dc (c4-x_4)))/\(Dp x_4 c4=false->inR .i64 c6/\∃y,Dm gP t m y/\(m=m/\t=t/\Df t=Df t/\c6=y/\True)/\Dc (Df t-y)<Dc (Df t-x))))/\(c2=false->true=sgF gP t m/\True)))):
  evF (mkc Z6) (lvA [(4,[1,2,6,7,8,10,15,16,17,26,27,28]),(9,[1,2,6,7,8,10,15,16,17,26,27,28])] (sgA gP t m)) 109 [.dat M t,.dat I m,.fn 108 []] [] ⟨bZ t,.dat .bool (sgF gP t m),[]⟩:=oE hvc
def aEN(args:List AV)(m:Mem): Option jP:=match m,args with
 | [],[.dat (.sl (.sl (.int .i64))) t,.dat (.int .i64) k,.fn f caps]=>if f=107 then match ofK [.ptr N] caps with
   | some (n,_)=>some ⟨bZ t,.dat .bool (sgF (aV n) t k),[]⟩
   | none=>none
  else if f=108 then match ofK [] caps with
   | some _=>some ⟨bZ t,.dat .bool (sgF gP t k),[]⟩
   | none=>none
  else none
 | _,_=>none
def aFh: Kt:=kOr 109 aEN Z6
def aCi(n:Net)(p:Plan): Ann:=⟨λid s=>match id with
 | 6=>some {α:=Int,inv:=λk=>rc n p k,st:=λk=>put s [(38,.dat I k)],μ:=λk=>Dc (Dh (Df p.2.2.2) k)}
 | _=>none,λ_ _=>none,λ_ _=>none⟩
theorem Rt(cs:LC)(ns os:LB)(fs:Lo)(ls:Ll)(ks:Lk)(p1 p2:Int)(nx:Lj)(dy:List (Lj))(hvc:
 let c15:=Di (lh p1 p2);let c1:=(p1,p2,nx,dy);let c2:=Di c15;let c14:=c2->c2->c2;let c3:=Df dy;let c4:=Dz c15 true (Ec c3 (Df ks));let c5:=Di c4;let c13:=c5->c5->c5;let c6:=(cs,ns,os,fs,ls,ks);let c7:=Df fs;let c8:=Dz c4 true (Di (sgF (aV c6) nx c7));let c9:=gb c6 c1;true/\(fQ c1->True/\c14/\c14/\c14/\c14/\c14/\c14/\(Dk true c2->c2)/\c13/\c13/\c13/\c13/\c13/\c13/\(c5->bZ nx)/\c13/\(Dk true c5->c5)/\(c8->false=c9/\True)/\(c8=false->(∃x,rc c6 c1 x/\c6=c6/\dy=dy/\c3=c3/\0=x/\True)/\∀(x:Int),let c10:=Du dy (Dc x) (Dt (Li));let c11:=Di (sgF gP c10 c7);let c12:=x+1;rc c6 c1 x->(Dp x c3->0<=x/\x<c3/\bZ c10/\(c11->false=c9/\True)/\(c11=false->inR .i64 c12/\∃y,rc c6 c1 y/\(c6=c6/\dy=dy/\c3=c3/\c12=y/\True)/\Dc (c3-y)<Dc (c3-x)))/\(Dp x c3=false->true=c9/\True)))):
  evF (mkc aFh) (lvA [(6,[2,4,6,8,36,37,38])] (aCi (cs,ns,os,fs,ls,ks) (p1,p2,nx,dy))) 44 [net cs ns os fs ls ks,.agg [.dat I p1,.dat I p2,.dat M nx,.dat (.sl M) dy]] [] ⟨fQ (p1,p2,nx,dy),.dat .bool (gb (cs,ns,os,fs,ls,ks) (p1,p2,nx,dy)),[]⟩:=oE hvc
def aF6(l:Li)(x:Int): Ann:=⟨λid s=>match id with
 | 2=>some {α:=Int,inv:=λk=>Um l x k,st:=λk=>put s [(8,.dat I k)],μ:=λk=>Dc (Dh (Df l) k)}
 | _=>none,λ_ _=>none,λ_ _=>none⟩
theorem Rh(l:Li)(x:Int)(hvc:
 true/\(Y9 l->(∃x_2,Um l x x_2/\l=l/\x=x/\Df l=Df l/\0=x_2/\True)/\∀(x_2:Int),let c1:=Dp x_2 (Df l);let c2:=Ea x (Du l (Dc x_2) 0);let c3:=x_2+1;Um l x x_2->(c1->0<=x_2/\x_2<Df l/\(c2->x_2=Un l x/\True)/\(c2=false->inR IntKind.i64 c3/\∃y,Um l x y/\(l=l/\x=x/\Df l=Df l/\c3=y/\True)/\Dc (Df l-y)<Dc (Df l-x_2)))/\(c1=false->(-1:Int)=Un l x/\True))):
  evF (mkc KC8) (lvA [(2,[0,1,4,5,7,8])] (aF6 l x)) 46 [.dat R l,.dat I x] [] ⟨Y9 l,.dat I (Un l x),[]⟩:=oE hvc
def aFV: Kt:=kOr 44 (az [.row N,.row Pl] (λ(_,p,_)=>fQ p) λ(n,p,_)=>.dat .bool (gb n p)) <|
 kOr 46 (az [.val R,.val I] (λ(l,_,_)=>Y9 l) λ(l,x,_)=>.dat I (Un l x)) aFi
def aF8(n:Net)(p:Plan)(o:Int): Ann:=⟨λid s=>match id with
 | 6=>match s.sig.T 9 with
  | .buf nm _=>some {α:=Int,inv:=λk=>gTo n p o k,st:=λk=>iE (put s [(47,.dat I k)]) nm (.buf 3 I (NL n p o k) []),μ:=λk=>Dc (Dh (Df n.2.2.2.1) k)}
  | _=>none
 | _=>none,λ_ _=>none,λ_ _=>none⟩
def aFu: Cfg:=mkp aFV (λt=>t==32) Go.Eng.noP (λ_=>false)
theorem LD(o:Int)(cs:LC)(ns os:LB)(fs:Lo)(ls:Ll)(ks:Lk)(p1 p2:Int)(nx:Lj)(dy:List (Lj))(hvc:
 let c1:=(p1,p2,nx,dy);let c2:=Dp o 0;let c3:=Di c2;let c25:=c3->c3->c3;let c4:=Df fs;let c5:=Dz c2 true (Ed o c4);let c6:=Di c5;let c7:=(cs,ns,os,fs,ls,ks);let c8:=Dz c5 true (Di (aO c7));let c9:=Di c8;let c26:=c9->c9->c9;let c10:=Dz c8 true (Di (gb c7 c1));let c11:=gsF c7 c1 o;let c12:=ofF c7 c1 o;let c13:=[(-1:Int)];let c14:=Ah c1 o;let c15:=1+Dj c14;let c16:=Dc c4;let c17:=Du nx (Dc o) [];let c18:=Df c17;let c19:=Ef c13 c14;true/\(fQ c1->c25/\c25/\c25/\c25/\(Dk true c3->c3)/\(c6->c6->c6)/\(c6->True)/\(c6->c6->c6)/\(Dk true c6->c6)/\c26/\c26/\(c9->fQ c1)/\c26/\(Dk true c9->c9)/\(c10->c11=Dt Int/\c12=Dt Int/\True)/\(c10=false->RF c1 o/\Dj c13=1/\(c15*8)<=140737488355328/\c15<=9223372036854775807/\0<=c4/\(Dx 8*c4)<=281474976710656/\c4<=9223372036854775807/\0<=o/\o<Df nx/\(∃x,gTo c7 c1 o x/\o=o/\Value.slice none 0 0=Value.slice none 0 0/\Value.slice none 0 0=Value.slice none 0 0/\c15=c15/\c16=c16/\c17=c17/\c18=c18/\0=x/\c19=c19/\Ep c4 (0:Int)=NL c7 c1 o x/\True)/\∀(x:Int),let c20:=NL c7 c1 o x;let c21:=Dj c20;let c22:=x+1;let c23:=Du c17 (Dc x) 0;let c24:=Ea c23 (-1);
 gTo c7 c1 o x->(Dp x c18->0<=x/\x<c18/\(Ea x o->c21=c16/\0<=x/\x<Dx c21/\c21=c16/\inR .i64 c22/\∃y,gTo c7 c1 o y/\(o=o/\Value.slice none 0 0=Value.slice none 0 0/\Value.slice none 0 0=Value.slice none 0 0/\c15=c15/\c16=c16/\c17=c17/\c18=c18/\c22=y/\c19=c19/\En c20 (Dc x) 0=NL c7 c1 o y/\True)/\Dc (c4-y)<Dc (c4-x))/\(Ea x o=false->(c24->c21=c16/\0<=x/\x<Dx c21/\c21=c16/\inR IntKind.i64 c22/\∃y,gTo c7 c1 o y/\(o=o/\Value.slice none 0 0=Value.slice none 0 0/\Value.slice none 0 0=Value.slice none 0 0/\c15=c15/\c16=c16/\c17=c17/\c18=c18/\c22=y/\c19=c19/\En c20 (Dc x) (-1)=NL c7 c1 o y/\True)/\Dc (c4-y)<Dc (c4-x))/\(c24=false->Y9 c19/\Dj c19=c15/\c21=c16/\0<=x/\x<Dx c21/\c21=c16/\inR .i64 c22/\∃y,gTo c7 c1 o y/\(o=o/\Value.slice none 0 0=Value.slice none 0 0/\Value.slice none 0 0=Value.slice none 0 0/\c15=c15/\c16=c16/\c17=c17/\c18=c18/\c22=y/\c19=c19/\En c20 (Dc x) (Un c19 c23)=NL c7 c1 o y/\True)/\Dc (c4-y)<Dc (c4-x))))/\(Dp x c18=false->Dj c19=c15/\c19=c11/\c21=c16/\c20=c12/\True)))):
  evF aFu (lvA [(6,[2,6,7,8,9,10,11,45,46,47])] (aF8 (cs,ns,os,fs,ls,ks) (p1,p2,nx,dy) o)) 12 [net cs ns os fs ls ks,.agg [.dat I p1,.dat I p2,.dat M nx,.dat (.sl M) dy],.dat I o] [] ⟨fQ (p1,p2,nx,dy),.tup [.dat R (gsF (cs,ns,os,fs,ls,ks) (p1,p2,nx,dy) o),.dat R (ofF (cs,ns,os,fs,ls,ks) (p1,p2,nx,dy) o)],[]⟩:=oE hvc
theorem aBd(o x:Int)(cs:LC)(ns os:LB)(fs:Lo)(ls:Ll)(ks:Lk): af Tryz.prog G0 107 [.dat I o,.dat I x,.ip N (cs,ns,os,fs,ls,ks)] [] ⟨True,.dat .bool (aV (cs,ns,os,fs,ls,ks) o x),[]⟩:=by
 refine ae (c:=mkc KC8) Qn aJ hm (Xm o x cs ns os fs ls ks ⟨rfl,λ_=>?_⟩);simp only[qc,Dk,Di,qd,Ea,Dp,Ed,Df,Dc,Du];refine⟨λh=>h.2.1,λh=>h.2.2,?_⟩;unfold aV bP;rw[qCh];simp only[yE,qC,xH,qE];exact Iff.rfl
theorem aBb(o x:Int): af Tryz.prog G0 108 [.dat I o,.dat I x] [] ⟨True,.dat .bool (gP o x),[]⟩:=by
 refine ae (c:=mkc KC8) Qn aJ hm (Xl o x ⟨rfl,λ_=>⟨λh _=>h,λh=>by simpa[Dk]using h,?_,trivial⟩⟩);unfold gP ud;simp only[Dz,Ed,Eh,kQ];by_cases h:-1<=x<;>simp[h]
theorem ZC: ak Tryz.prog G0 Z6:=ai (ag λ(o,x,(cs,ns,os,fs,ls,ks),_)=>aBd o x cs ns os fs ls ks)<|ai (ag λ(o,x,_)=>aBb o x) Qn
theorem aA7(t:Lj)(m:Int)(n:Net): af Tryz.prog G0 109 [.dat M t,.dat I m,.fn 107 [.ip N n]] [] ⟨bZ t,.dat .bool (sgF (aV n) t m),[]⟩:=by
 refine ae (c:=mkc Z6) ZC aJ hm (Xh t m n ⟨rfl,λhf=>?_⟩);simp only[qc,Di,qd,Ec,Dp,Df,Dc,Du];exact xp (aV n) hf
theorem aA8(t:Lj)(m:Int): af Tryz.prog G0 109 [.dat M t,.dat I m,.fn 108 []] [] ⟨bZ t,.dat .bool (sgF gP t m),[]⟩:=by
 refine ae (c:=mkc Z6) ZC aJ hm (Xi t m ⟨rfl,λhf=>?_⟩);simp only[qc,Di,qd,Ec,Dp,Df,Dc,Du];exact xp gP hf
theorem vy{P:Program}{C:Ctx}{a b x x':AV}{us:Lv}(h:AV.relL P C [a,b,x] us)(hx:∀v,x.rel P C v->x'.rel P C v): AV.relL P C [a,b,x'] us:=by
 obtain⟨u,us,rfl,h1,h2⟩:=h;exact⟨_,_,rfl,h1,f9 h2 hx⟩
theorem Zf: ∀args m c,aEN args m=some c->af Tryz.prog G0 109 args m c:=by
 intro args m c hc;unfold aEN at hc;split at hc
 case h_2=>cases hc
 rename_i t k f caps;split at hc
 .rename_i hf;subst hf;split at hc
  case h_2=>cases hc
  rename_i n _ hx;cases hc;exact(aA7 t k n).args λC us hG hu=>vy hu λv hv=>ub hx hv
 .split at hc
  case isFalse=>cases hc
  rename_i hf;subst hf;split at hc
  case h_2=>cases hc
  rename_i x hx;cases hc;exact(aA8 t k).args λC us hG hu=>vy hu λv hv=>ub hx hv
theorem aE7: ak Tryz.prog G0 aFh:=ai Zf ZC
theorem X6(cs:LC)(ns os:LB)(fs:Lo)(ls:Ll)(ks:Lk)(p1 p2:Int)(nx:Lj)(dy:List (Lj)): af Tryz.prog G0 44 [net cs ns os fs ls ks,.agg [.dat I p1,.dat I p2,.dat M nx,.dat (.sl M) dy]] [] ⟨fQ (p1,p2,nx,dy),.dat .bool (gb (cs,ns,os,fs,ls,ks) (p1,p2,nx,dy)),[]⟩:=by
 refine ae (c:=mkc aFh) aE7 aJ hm (Rt cs ns os fs ls ks p1 p2 nx dy ⟨rfl,λhf=>?_⟩);simp only[qc,Dk,Di,qd,Dt,Ec,Dp,Df,Dc,Du];obtain⟨a3,a4,a5⟩:=id hf;have a3:bZ nx:=a3;have a4:dy.length<=1000000:=a4;have eT:sgF (aV (cs,ns,os,fs,ls,ks)) nx fs.length=lr (cs,ns,os,fs,ls,ks) nx:=rfl
 have eR:lh p1 p2=mW (p1,p2,nx,dy):=by
  unfold lh mW;rw[qCh];simp only[qC,qE];omega
 rw[eT,eR];have eF:gb (cs,ns,os,fs,ls,ks) (p1,p2,nx,dy)=(mW (p1,p2,nx,dy)&&(lr (cs,ns,os,fs,ls,ks) nx&&pR (cs,ns,os,fs,ls,ks) (p1,p2,nx,dy))):=rfl;have eD:(dy.length:Int)=ks.length->(pR (cs,ns,os,fs,ls,ks) (p1,p2,nx,dy)=true↔∀i:Nat,(i:Int)<dy.length->sgF gP (dy.getD i []) fs.length=true):=λhl=>by
  unfold pR;simp only[qC,qE,qM];refine⟨λh i hi=>h.2 _ (getD_mem (by omega)),λh=>⟨hl,λx hx=>?_⟩⟩;obtain⟨i,hi,rfl⟩:=wX.1 hx;have:=h i (by omega);rw[qA,qB hi,qQ]at this;exact this
 refine⟨λ_=>a3,λh=>?_,λ⟨⟨hR,h2⟩,h3⟩=>⟨⟨qL _,qZ _,hR,h3,h2,λi hi=>by omega⟩,λx ⟨x0,x1,_,_,_,x5⟩=>⟨λhx=>⟨x0,hx,a5 _ (getD_mem (l:=dy) (i:=x.toNat) (d:=[]) (by omega)),λh4=>?_,λh4=>?_⟩,λhx=>?_⟩⟩⟩
 .rw[eF];rcases h with(h | h) | h
  .rw[h];rfl
  .have:pR (cs,ns,os,fs,ls,ks) (p1,p2,nx,dy)=false:=by
    unfold pR;rw[vH h];rfl
   rw[this];simp
  .rw[h];simp
 .refine(kP.2 λht=>?_).symm;rw[eF]at ht;simp only[qC]at ht;have:=(eD h2).1 ht.2.2 x.toNat (by omega);rw[h4]at this;cases this
 .refine⟨aM (by omega),x+1,⟨by omega,by show x+1<=(dy.length:Int);omega,hR,h3,h2,λi hi=>?_⟩,rfl,by omega⟩;by_cases h5:(i:Int)<x
  .exact x5 i h5
  .have:i=x.toNat:=by omega
   subst this;exact h4
 .rw[eF,hR,h3,(eD h2).2 λi hi=>x5 i (by omega)];rfl
theorem Oz(x:Int): ∀l:Li,KE x l<=l.length
 | []=>qJ _
 | a::l=>by
  unfold KE;split
  .exact wU _
  .exact qCc (Oz x l)
theorem VT{x:Int}: ∀{l:Li} {k:Nat},k<l.length->l.getD k 0=x->KE x l<=k
 | [],k,h,_=>by simp at h
 | a::l,k,h,e=>by
  unfold KE;split
  .exact wU _
  .cases k with
   | zero=>contradiction
   | succ k=>exact qCc (VT (by simpa using h) (by simpa using e))
theorem VS{x:Int}: ∀{l:Li} {k:Nat},k<=KE x l->l.getD k 0≠x->k<l.length->k+1<=KE x l
 | [],k,_,_,h=>by simp at h
 | a::l,k,h,e,hk=>by
  unfold KE at h ⊢;split
  .rename_i ha;rw[if_pos ha]at h;have:k=0:=by omega
   subst this;exact absurd ha e
  .rename_i ha;rw[if_neg ha]at h;cases k with
   | zero=>omega
   | succ k=>exact qCc (VS (by omega) (by simpa using e) (by simpa using hk))
theorem XZ(l:Li)(x:Int): af Tryz.prog G0 46 [.dat R l,.dat I x] [] ⟨Y9 l,.dat I (Un l x),[]⟩:=by
 refine ae (c:=mkc KC8) Qn aJ hm (Rh l x ⟨rfl,λhf=>?_⟩);simp only[qc,qd,Ea,Dp,Df,Dc,Du];unfold Y9 at hf;refine⟨⟨by omega,by omega,by omega⟩,λk ⟨k0,k1,k2⟩=>⟨λhlt=>⟨k0,hlt,λhe=>?_,λhne=>⟨aM (by omega),k+1,⟨by omega,by omega,?_⟩,rfl,by omega⟩⟩,λhge=>?_⟩⟩
 .have hk:k.toNat<l.length:=by omega
  have h1:=VT hk he.symm;have e:KE x l=k.toNat:=by omega
  unfold Un;rw[e,if_pos hk];omega
 .have h1:=VS (x:=x) (l:=l) (k:=k.toNat) (by omega) (λe=>hne e.symm) (by omega);omega
 .have h1:=Oz x l;unfold Un;rw[if_neg (by omega)]
theorem aE6(h:nu): ak Tryz.prog G0 aFV:=ai (ag λ((cs,ns,os,fs,ls,ks),(p1,p2,nx,dy),_)=>X6 cs ns os fs ls ks p1 p2 nx dy)<|ai (ag λ(l,x,_)=>XZ l x) (aCx h)
theorem Ss(h:nu)(o:Int)(cs:LC)(ns os:LB)(fs:Lo)(ls:Ll)(ks:Lk)(p1 p2:Int)(nx:Lj)(dy:List (Lj)): af Tryz.prog G0 12 [net cs ns os fs ls ks,.agg [.dat I p1,.dat I p2,.dat M nx,.dat (.sl M) dy],.dat I o] [] ⟨fQ (p1,p2,nx,dy),.tup [.dat R (gsF (cs,ns,os,fs,ls,ks) (p1,p2,nx,dy) o),.dat R (ofF (cs,ns,os,fs,ls,ks) (p1,p2,nx,dy) o)],[]⟩:=by
 refine ae (c:=aFu) (aE6 h) aJ hm (LD o cs ns os fs ls ks p1 p2 nx dy ⟨rfl,λhf=>?_⟩);simp only[qc,Dk,Di,qd,Dt,Ea,Dp,Ed,Df,Dc,Dx,Dj,Du,En,Ef,Ep];have ok:gOk (cs,ns,os,fs,ls,ks) (p1,p2,nx,dy) o=true↔((0<=o/\o<fs.length)/\aO (cs,ns,os,fs,ls,ks)=true)/\gb (cs,ns,os,fs,ls,ks) (p1,p2,nx,dy)=true:=by
  unfold gOk bP;rw[qC,qC,qE]
 refine⟨λ_=>hf,λh=>?_,λ⟨⟨⟨h0,h1⟩,hs⟩,hfm⟩=>?_⟩
 .have hn:¬gOk (cs,ns,os,fs,ls,ks) (p1,p2,nx,dy) o=true:=λg=>by
   obtain⟨⟨⟨g0,g1⟩,g2⟩,g3⟩:=ok.1 g;rcases h with((h | h) | h) | h
   .omega
   .omega
   .rw[g2]at h;cases h
   .rw[g3]at h;cases h
  exact⟨if_neg hn,if_neg hn⟩
 have o0:0<=o:=by omega
 have o1:o<fs.length:=by omega
 have hg:gOk (cs,ns,os,fs,ls,ks) (p1,p2,nx,dy) o=true:=ok.2 ⟨⟨⟨o0,o1⟩,hs⟩,hfm⟩;have ht:lr (cs,ns,os,fs,ls,ks) nx=true:=(iw hfm).2.1;obtain⟨q1,_⟩:=nt cs ns os fs ls ks hs;obtain⟨r1,r2,_⟩:=i9 cs ns os fs ls ks ht o0 o1 o0 o1;have r2:((fW (p1,p2,nx,dy) o).length:Int)=fs.length:=r2;have gl:=OA (p1,p2,nx,dy) o;have eR:nx.getD o.toNat []=fW (p1,p2,nx,dy) o:=rfl;rw[eR]
 have len:∀{k:Int},0<=k->k<=fs.length->(NL (cs,ns,os,fs,ls,ks) (p1,p2,nx,dy) o k).length=fs.length:=λa b=>by
  have:=rZ (g:=Ds (p1,p2,nx,dy) o) (z:=0) (l:=fs.length) (k:=_) ⟨a,b⟩;rw[vC]at this;exact this
 have nxt_:∀{k v:Int},0<=k->k<fs.length->v=Ds (p1,p2,nx,dy) o k->(NL (cs,ns,os,fs,ls,ks) (p1,p2,nx,dy) o k).set k.toNat v=NL (cs,ns,os,fs,ls,ks) (p1,p2,nx,dy) o (k+1):=λa b e=>by
  rw[e];exact xf a b
 have e0:List.replicate fs.length (0:Int)=NL (cs,ns,os,fs,ls,ks) (p1,p2,nx,dy) o 0:=by
  have:=nO (g:=Ds (p1,p2,nx,dy) o) (z:=(0:Int)) (l:=fs.length);rw[vC]at this;exact this
 have e1:NL (cs,ns,os,fs,ls,ks) (p1,p2,nx,dy) o fs.length=ofF (cs,ns,os,fs,ls,ks) (p1,p2,nx,dy) o:=by
  unfold ofF;rw[if_pos hg];have:=px (g:=Ds (p1,p2,nx,dy) o) (z:=(0:Int)) (l:=fs.length);rw[vC]at this;exact this
 have e2:gsF (cs,ns,os,fs,ls,ks) (p1,p2,nx,dy) o=-1::Ah (p1,p2,nx,dy) o:=if_pos hg;refine⟨⟨o0,by show o<(nx.length:Int);omega,by omega,Vo cs ns os fs ls ks hs ht o0 o1⟩,rfl,by omega,by omega,by omega,by omega,by omega,o0,by omega,⟨0,⟨hg,by omega,by show(0:Int)<=(fs.length:Int);omega⟩,rfl,e0⟩,λx ⟨_,x0,x1⟩=>⟨λhlt=>⟨x0,hlt,λhe=>?_,λhne=>⟨λhl=>?_,λhl=>?_⟩⟩,λhge=>?_⟩⟩
 .have hx:x<fs.length:=by omega
  have hl:=len x0 x1;exact⟨hl,x0,by omega,hl,aM (by omega),x+1,⟨hg,by omega,by show x+1<=(fs.length:Int);omega⟩,⟨rfl,nxt_ x0 hx (by unfold Ds;rw[if_pos he])⟩,by omega⟩
 .have hx:x<fs.length:=by omega
  have hl':=len x0 x1;exact⟨hl',x0,by omega,hl',aM (by omega),x+1,⟨hg,by omega,by show x+1<=(fs.length:Int);omega⟩,⟨rfl,nxt_ x0 hx (by unfold Ds;rw[if_neg hne,if_pos hl])⟩,by omega⟩
 .have hx:x<fs.length:=by omega
  have hl':=len x0 x1;exact⟨by unfold Y9;simp only[qG,vX];omega,by simp[qAs],hl',x0,by omega,hl',aM (by omega),x+1,⟨hg,by omega,by show x+1<=(fs.length:Int);omega⟩,⟨rfl,nxt_ x0 hx (by unfold Ds;rw[if_neg hne,if_neg hl];rfl)⟩,by omega⟩
 .have x1:x<=(fs.length:Int):=x1;have hx:x=fs.length:=by omega
  rw[hx];exact⟨by simp[qAs],by rw[e2];rfl,len (by omega) (by omega),e1⟩
end Go.Eng.Sv
set_option maxRecDepth 100000
noncomputable section
namespace Go.Eng.Sv
open Go.Proofs
def xCs: List (Int×List Bool×Li):=[(0,[true,true,true,true,true,true,true],[])]
def xNs: List ByteArray:=[⟨#[99]⟩]
def xOs: List ByteArray:=[⟨#[112]⟩]
def xFs: Lo:=[(⟨#[97]⟩,0,0,2,1,10,[]),(⟨#[98]⟩,0,0,2,1,10,[])]
def xLs: Ll:=[(⟨#[120]⟩,0,1,600,60,1),(⟨#[121]⟩,1,0,600,60,1)]
def xKs: Lk:=[(⟨#[107]⟩,300,720)]
def yFs: Lo:=[(⟨#[97]⟩,0,0,2,1,10,[]),(⟨#[98]⟩,0,0,2,1,10,[]),(⟨#[99]⟩,0,0,2,1,10,[])]
def yLs: Ll:=[(⟨#[120]⟩,0,1,600,60,1),(⟨#[121]⟩,1,0,600,60,1),(⟨#[122]⟩,0,2,600,60,1),(⟨#[119]⟩,2,0,600,60,1)]
def ni(a b:Li): Bool:=a==b
def xy(a b:Li)(k:Int): Prop:=0<=k/\k<=a.length/\a.length=b.length/\a.length<=1000000/\a.take k.toNat=b.take k.toNat
def pD(a:Li): Prop:=a.length<=1000000
def sx(a b:List (Lj)): Bool:=a==b
def xu(a b:List (Lj))(k:Int): Prop:=0<=k/\k<=a.length/\a.length=b.length/\a.take k.toNat=b.take k.toNat
def E0(a:List (Lj)): Prop:=a.length<=1000000/\∀t∈a,mild t
def smF(n:Net)(nx:Lj): Bool:=(KF n&&decide ((n.2.2.2.1.length:Int)<=6))&&(decide ((nx.length:Int)<=10)&&nx.all λr=>decide ((r.length:Int)<=10))
def aCO(nx:Lj)(k:Int): Prop:=0<=k/\k<=nx.length/\nx.length<=10/\∀i:Nat,(i:Int)<k->(nx.getD i []).length<=10
def w9(a b:Int): Bool:=decide (b<=IntKind.i64.wrap (a+9))||decide (b>IntKind.i64.wrap (a+60))
def ZP(n:Net)(a b:Int): Bool:=(smF n []&&decide ((n.2.2.2.2.2.length:Int)<=3))&&w9 a b
theorem W4(z:Int)(w:List Bool)(h:Li)(hvc:
 let c1:=Eh (Df w) 20;let c2:=c1->c1->c1;true/\(True->c2/\c2/\c2/\(Dk true c1->c1)/\Dz c1 (Eh (Df h) 60) false=gU w h/\True)):
  evF (mkc KC8) aA 167 [cal z w h] [] ⟨True,.dat .bool (gU w h),[]⟩:=oE hvc
def KL1: Kt:=kOr 167 (az [.row C] (λ_=>True) λ((_,w,h),_)=>.dat .bool (gU w h)) KC8
theorem aAl(k:Int)(cs:LC)(ns os:LB)(fs:Lo)(ls:Ll)(ks:Lk)(hvc:
 let c5:=ByteArray.mk #[];let c1:=(cs,ns,os,fs,ls,ks);let c2:=Ea k 1;let c3:=Df (aR c1 1);let c4:=[ByteArray.mk #[]];let c6:=aR c1 k;let c7:=Ea k 2;let c8:=Df (aR c1 2);let c9:=Ea k 3;let c10:=Df (aR c1 3);let c11:=Df fs;let c13:=Ea k 4;let c14:=Df (aR c1 4);let c15:=Df ls;let c16:=((0:Int),(0:Int));let c18:=Ea k 5;let c19:=Df (aR c1 5);let c20:=Df ks;true/\(m6 c1->(c2->(∃x,let c22:=aZ c1 1 x;upN x c3/\c1=c1/\Value.slice none 0 0=Value.slice none 0 0/\Dj c22=0/\c22=Dt ByteArray/\0=x/\k=k/\c22=Dt ByteArray/\True)/\∀(x:Int),let c23:=Dp x (Df cs);let c24:=Dp x (Df ns);let c25:=aZ c1 1 x;let c26:=Dj c25;let c27:=[Du ns (Dc x) c5];let c28:=c26+Dj c27;let c29:=x+1;let c30:=c26+(Dj c4);upN x c3->(c23->(c24->0<=x/\x<Df ns/\c26=c26/\(c28*16)<=140737488355328/\c28<=9223372036854775807/\inR .i64 c29/\∃y,let c31:=aZ c1 1 y;upN y c3/\(c1=c1/\Value.slice none 0 0=Value.slice none 0 0/\c28=Dj c31/\c29=y/\k=k/\Ef c25 c27=c31/\True)/\Dc (c3-y)<Dc (c3-x))/\(c24=false->c26=c26/\(c30*16)<=140737488355328/\c30<=9223372036854775807/\inR .i64 c29/\∃y,let c32:=aZ c1 1 y;upN y c3/\(c1=c1/\Value.slice none 0 0=Value.slice none 0 0/\c30=Dj c32/\c29=y/\k=k/\Ef c25 c4=c32/\True)/\Dc (c3-y)<Dc (c3-x)))/\(c23=false->c26=c26/\c25=c6/\True))/\(c2=false->(c7->(∃x,let c33:=aZ c1 2 x;upN x c8/\c1=c1/\Value.slice none 0 0=Value.slice none 0 0/\Dj c33=0/\c33=Dt ByteArray/\0=x/\k=k/\c33=Dt ByteArray/\True)/\∀(x:Int),let c34:=Dp x (Df os);let c35:=aZ c1 2 x;let c36:=Dj c35;let c37:=[Du os (Dc x) c5];let c38:=c36+Dj c37;let c39:=x+1;
 upN x c8->(c34->0<=x/\x<Df os/\c36=c36/\(c38*16)<=140737488355328/\c38<=9223372036854775807/\inR .i64 c39/\∃y,let c40:=aZ c1 2 y;upN y c8/\(c1=c1/\Value.slice none 0 0=Value.slice none 0 0/\c38=Dj c40/\c39=y/\k=k/\Ef c35 c37=c40/\True)/\Dc (c8-y)<Dc (c8-x))/\(c34=false->c36=c36/\c35=c6/\True))/\(c7=false->(c9->(∃x,let c41:=aZ c1 3 x;upN x c10/\c1=c1/\Value.slice none 0 0=Value.slice none 0 0/\Dj c41=0/\c41=Dt ByteArray/\0=x/\k=k/\c41=Dt ByteArray/\True)/\∀(x:Int),let c42:=aZ c1 3 x;let c43:=Dj c42;let c44:=[(Du fs (Dc x) (ByteArray.mk #[],(0:Int),(0:Int),(0:Int),(0:Int),(0:Int),Dt ByteArray)).1];let c45:=c43+Dj c44;let c46:=x+1;upN x c10->(Dp x c11->0<=x/\x<c11/\c43=c43/\(c45*16)<=140737488355328/\c45<=9223372036854775807/\inR .i64 c46/\∃y,let c47:=aZ c1 3 y;upN y c10/\(c1=c1/\Value.slice none 0 0=Value.slice none 0 0/\c45=Dj c47/\c46=y/\k=k/\Ef c42 c44=c47/\True)/\Dc (c10-y)<Dc (c10-x))/\(Dp x c11=false->c43=c43/\c42=c6/\True))/\(c9=false->(c13->(∃x,let c48:=aZ c1 4 x;upN x c14/\c1=c1/\Value.slice none 0 0=Value.slice none 0 0/\Dj c48=0/\c48=Dt ByteArray/\0=x/\k=k/\c48=Dt ByteArray/\True)/\∀(x:Int),let c49:=aZ c1 4 x;let c50:=Dj c49;let c51:=[(Du ls (Dc x) (ByteArray.mk #[],(0:Int),(0:Int),(0:Int),c16)).1];let c52:=c50+Dj c51;let c53:=x+1;upN x c14->(Dp x c15->0<=x/\x<c15/\c50=c50/\(c52*16)<=140737488355328/\c52<=9223372036854775807/\inR .i64 c53/\∃y,let c54:=aZ c1 4 y;
 upN y c14/\(c1=c1/\Value.slice none 0 0=Value.slice none 0 0/\c52=Dj c54/\c53=y/\k=k/\Ef c49 c51=c54/\True)/\Dc (c14-y)<Dc (c14-x))/\(Dp x c15=false->c50=c50/\c49=c6/\True))/\(c13=false->(c18->(∃x,let c55:=aZ c1 5 x;upN x c19/\c1=c1/\Value.slice none 0 0=Value.slice none 0 0/\Dj c55=0/\c55=Dt ByteArray/\0=x/\c55=Dt ByteArray/\True)/\∀(x:Int),let c56:=aZ c1 5 x;let c57:=Dj c56;let c58:=[(Du ks (Dc x) (ByteArray.mk #[],c16)).1];let c59:=c57+Dj c58;let c60:=x+1;upN x c19->(Dp x c20->0<=x/\x<c20/\c57=c57/\(c59*16)<=140737488355328/\c59<=9223372036854775807/\inR .i64 c60/\∃y,let c61:=aZ c1 5 y;upN y c19/\(c1=c1/\Value.slice none 0 0=Value.slice none 0 0/\c59=Dj c61/\c60=y/\Ef c56 c58=c61/\True)/\Dc (c19-y)<Dc (c19-x))/\(Dp x c20=false->c57=c57/\c56=c6/\True))/\(c18=false->c6=Dt ByteArray/\True))))))):
  evF (mkc KL1) (lvA [(5,[2,4,5,6,7,8,9,10,11]),(12,[2,4,5,7,8,9,10,11]),(17,[2,4,5,8,9,10,11]),(22,[2,4,5,9,10,11]),(27,[2,4,5,10])] (aBO (cs,ns,os,fs,ls,ks))) 168 [net cs ns os fs ls ks,.dat I k] [] ⟨m6 (cs,ns,os,fs,ls,ks)=true,.dat (.sl S) (aR (cs,ns,os,fs,ls,ks) k),[]⟩:=oE hvc
theorem aAj(a b:Lj)(hvc:
 let c1:=Ec (Df a) (Df b);true/\(mild a->(c1->false=nY a b/\True)/\(c1=false->(∃x,xx a b x/\a=a/\b=b/\0=x/\True)/\∀(x:Int),let c2:=Dp x (Df a);let c3:=Du a (Dc x) [];let c4:=Df c3;let c5:=Du b (Dc x) [];let c6:=Df c5;let c7:=Ec c4 c6;let c8:=x+1;xx a b x->(c2->0<=x/\x<Df a/\0<=x/\x<Df b/\(c7->false=nY a b/\True)/\(c7=false->(∃x_4,xF a b x x_4/\a=a/\b=b/\x=x/\0=x_4/\True)/\∀(x_4:Int),let c9:=Ec (Du c3 (Dc x_4) 0) (Du c5 (Dc x_4) 0);let c10:=x_4+1;xF a b x x_4->0<=x/\x<Df a/\(Dp x_4 c4->0<=x/\x<Df a/\0<=x_4/\x_4<c4/\0<=x/\x<Df b/\0<=x_4/\x_4<c6/\(c9->false=nY a b/\True)/\(c9=false->inR .i64 c10/\∃y,xF a b x y/\(a=a/\b=b/\x=x/\c10=y/\True)/\Dc (c4-y)<Dc (c4-x_4)))/\(Dp x_4 c4=false->inR .i64 c8/\∃y,xx a b y/\(a=a/\b=b/\c8=y/\True)/\Dc (Df a-y)<Dc (Df a-x))))/\(c2=false->true=nY a b/\True)))):
  evF (mkc KL1) (lvA [(4,[0,1,4,5,6]),(9,[0,1,4,5,6])] (aBj a b)) 22 [.dat M a,.dat M b] [] ⟨mild a,.dat .bool (nY a b),[]⟩:=oE hvc
def aBk(a b:Li): Ann:=⟨λid st=>match id with
 | 4=>some {α:=Int,inv:=λk=>xy a b k,st:=λk=>put st [(5,.dat I k)],μ:=λk=>Dc (Dh (Df a) k)}
 | _=>none,λ_ _=>none,λ_ _=>none⟩
theorem aAk(a b:Li)(hvc:
 let c1:=Ec (Df a) (Df b);true/\(pD a->(c1->false=ni a b/\True)/\(c1=false->(∃x,xy a b x/\a=a/\b=b/\0=x/\True)/\∀(x:Int),let c2:=Dp x (Df a);let c3:=Ec (Du a (Dc x) 0) (Du b (Dc x) 0);let c4:=x+1;xy a b x->(c2->0<=x/\x<Df a/\0<=x/\x<Df b/\(c3->false=ni a b/\True)/\(c3=false->inR .i64 c4/\∃y,xy a b y/\(a=a/\b=b/\c4=y/\True)/\Dc (Df a-y)<Dc (Df a-x)))/\(c2=false->true=ni a b/\True)))):
  evF (mkc KL1) (lvA [(4,[0,1,4,5])] (aBk a b)) 35 [.dat R a,.dat R b] [] ⟨pD a,.dat .bool (ni a b),[]⟩:=oE hvc
def KL2: Kt:=kOr 168 (az [.row N,.val I] (λ(n,_,_)=>m6 n=true) λ(n,k,_)=>.dat (.sl S) (aR n k)) <|
 kOr 22 (az [.val M,.val M] (λ(a,_,_)=>mild a) λ(a,b,_)=>.dat .bool (nY a b)) <|
 kOr 35 (az [.val R,.val R] (λ(a,_,_)=>pD a) λ(a,b,_)=>.dat .bool (ni a b)) KL1
theorem W5(cs:LC)(ns os:LB)(fs:Lo)(ls:Ll)(ks:Lk)(hvc:
 let c1:=Df cs;let c2:=Ei c1 10;let c3:=Di c2;let c28:=c3->c3->c3;let c4:=Dz c2 true (Ei (Df ns) 10);let c5:=Di c4;let c29:=c5->c5->c5;let c6:=Dz c4 true (Ei (Df os) 10);let c7:=Di c6;let c30:=c7->c7->c7;let c8:=Df fs;let c9:=Dz c6 true (Ei c8 16);let c10:=Di c9;let c26:=c10->c10->c10;let c11:=Dz c9 true (Ei (Df ls) 50);let c12:=Di c11;let c27:=c12->c12->c12;let c13:=Dz c11 true (Ei (Df ks) 8);let c14:=(cs,ns,os,fs,ls,ks);let c15:=KF c14;true/\(True->c28/\c28/\c28/\(Dk true c3->c3)/\c29/\c29/\c29/\(Dk true c5->c5)/\c30/\c30/\c30/\(Dk true c7->c7)/\c26/\c26/\c26/\(Dk true c10->c10)/\c27/\c27/\c27/\(Dk true c12->c12)/\(c13->false=c15/\True)/\(c13=false->(∃x,Io cs x/\c14=c14/\0=x/\True)/\∀(x:Int),let c16:=(Du cs (Dc x) ((0:Int),Dt Bool,Dt Int)).2;let c17:=Di (gU c16.1 c16.2);let c18:=x+1;Io cs x->(Dp x c1->0<=x/\x<c1/\True/\(c17->false=c15/\True)/\(c17=false->inR IntKind.i64 c18/\∃y,Io cs y/\(c14=c14/\c18=y/\True)/\Dc (c1-y)<Dc (c1-x)))/\(Dp x c1=false->(∃x,HD fs x/\c14=c14/\0=x/\True)/\∀(x:Int),let c19:=Ei (Df (Du fs (Dc x) (ByteArray.mk #[],(0:Int),(0:Int),(0:Int),(0:Int),(0:Int),Dt ByteArray)).2.2.2.2.2.2) 30;let c20:=x+1;HD fs x->(Dp x c8->0<=x/\x<c8/\(c19->false=c15/\True)/\(c19=false->inR IntKind.i64 c20/\∃y,HD fs y/\(c14=c14/\c20=y/\True)/\Dc (c8-y)<Dc (c8-x)))/\(Dp x c8=false->(∃x,yz c14 x/\c14=c14/\1=x/\True)/\∀(x:Int),let c21:=Eh x 5;let c22:=Df (aR c14 x);let c23:=x+1;yz c14 x->(c21->m6 c14/\(∃x_5,TV (aR c14 x) x_5/\c14=c14/\x=x/\aR c14 x=aR c14 x/\0=x_5/\True)/\∀(x_5:Int),let c24:=Ei (Et (Du (aR c14 x) (Dc x_5) (ByteArray.mk #[]))) 40;let c25:=x_5+1;
 TV (aR c14 x) x_5->(Dp x_5 c22->0<=x_5/\x_5<c22/\(c24->false=c15/\True)/\(c24=false->inR .i64 c25/\∃y,TV (aR c14 x) y/\(c14=c14/\x=x/\aR c14 x=aR c14 x/\c25=y/\True)/\Dc (c22-y)<Dc (c22-x_5)))/\(Dp x_5 c22=false->inR .i64 c23/\∃y,yz c14 y/\(c14=c14/\c23=y/\True)/\Dc (6-y)<Dc (6-x)))/\(c21=false->true=c15/\True)))))):
  evF (mkc KL2) (lvA [(4,[1,2,3,4,5,6,7]),(9,[1,2,4,5,6,7]),(14,[1,2,5,6,7]),(18,[1,2,5,6,7])] (aGc (cs,ns,os,fs,ls,ks))) 104 [net cs ns os fs ls ks] [] ⟨True,.dat .bool (KF (cs,ns,os,fs,ls,ks)),[]⟩:=oE hvc
def aBi(a b:List (Lj)): Ann:=⟨λid st=>match id with
 | 4=>some {α:=Int,inv:=λk=>xu a b k,st:=λk=>put st [(5,.dat I k)],μ:=λk=>Dc (Dh (Df a) k)}
 | _=>none,λ_ _=>none,λ_ _=>none⟩
theorem aAi(a b:List (Lj))(hvc:
 let c1:=Df a;let c2:=Df b;let c3:=Ec c1 c2;true/\(E0 a->(c3->false=sx a b/\True)/\(c3=false->(∃x,xu a b x/\a=a/\b=b/\0=x/\True)/\∀(x:Int),let c4:=Du a (Dc x) (Dt (Li));let c5:=Di (nY c4 (Du b (Dc x) (Dt (Li))));let c6:=x+1;xu a b x->(Dp x c1->0<=x/\x<c1/\0<=x/\x<c2/\mild c4/\(c5->false=sx a b/\True)/\(c5=false->inR .i64 c6/\∃y,xu a b y/\(a=a/\b=b/\c6=y/\True)/\Dc (c1-y)<Dc (c1-x)))/\(Dp x c1=false->true=sx a b/\True)))):
  evF (mkc KL2) (lvA [(4,[0,1,4,5])] (aBi a b)) 24 [.dat (.sl M) a,.dat (.sl M) b] [] ⟨E0 a,.dat .bool (sx a b),[]⟩:=oE hvc
def KL3: Kt:=kOr 104 (az [.row N] (λ_=>True) λ(n,_)=>.dat .bool (KF n)) <|
 kOr 24 (az [.val (.sl M),.val (.sl M)] (λ(a,_,_)=>E0 a) λ(a,b,_)=>.dat .bool (sx a b)) KL2
def smA(nx:Lj): Ann:=⟨λid s=>match id with
 | 4=>some {α:=Int,inv:=λk=>aCO nx k,st:=λk=>put s [(5,.dat I k)],μ:=λk=>Dc (Dh (Df nx) k)}
 | _=>none,λ_ _=>none,λ_ _=>none⟩
theorem Q7(nx:Lj)(cs:LC)(ns os:LB)(fs:Lo)(ls:Ll)(ks:Lk)(hvc:
 let c1:=(cs,ns,os,fs,ls,ks);let c2:=Di (KF c1);let c3:=Di c2;let c11:=c3->c3->c3;let c4:=Dz c2 true (Ei (Df fs) 6);let c5:=Di c4;let c6:=Dz c4 true (Ei (Df nx) 10);let c7:=smF c1 nx;true/\(True->True/\c11/\c11/\c11/\(Dk true c3->c3)/\(c5->c5->c5)/\(c5->c5->c5)/\(Dk true c5->c5)/\(c6->false=c7/\True)/\(c6=false->(∃x,aCO nx x/\nx=nx/\0=x/\True)/\∀(x:Int),let c8:=Dp x (Df nx);let c9:=Ei (Df (Du nx (Dc x) [])) 10;let c10:=x+1;aCO nx x->(c8->0<=x/\x<Df nx/\(c9->false=c7/\True)/\(c9=false->inR .i64 c10/\∃y,aCO nx y/\(nx=nx/\c10=y/\True)/\Dc (Df nx-y)<Dc (Df nx-x)))/\(c8=false->true=c7/\True)))):
  evF (mkc KL3) (lvA [(4,[1,4,5])] (smA nx)) 37 [net cs ns os fs ls ks,.dat M nx] [] ⟨True,.dat .bool (smF (cs,ns,os,fs,ls,ks) nx),[]⟩:=oE hvc
def KL4: Kt:=kOr 37 (az [.row N,.val M] (λ_=>True) λ(n,nx,_)=>.dat .bool (smF n nx)) KL3
theorem Q6(a b:Int)(cs:LC)(ns os:LB)(fs:Lo)(ls:Ll)(ks:Lk)(hvc:
 let c1:=(cs,ns,os,fs,ls,ks);let c2:=smF c1 (Dt (Li));let c8:=c2->c2->c2;let c3:=Dz c2 (Eh (Df ks) 3) false;let c6:=c3->c3->c3;let c4:=Eh b (Ew IntKind.i64 (a+9));let c7:=Di c4;let c5:=Dk c3 c7->Dk c3 c7->Dk c3 c7;true/\(True->True/\c8/\c8/\c8/\(Dk true c2->c2)/\c6/\c6/\c6/\c6/\c5/\c5/\c5/\c6/\(c3->Dk c3 c7->Dk c3 c7)/\(Dk true c3->c3)/\Dz c3 (Dz c4 true (Ei b (Ew IntKind.i64 (a+60)))) false=ZP c1 a b/\True)):
  evF {mkc KL4 with mb:=λt=>t==18||t==23} aA 10 [net cs ns os fs ls ks,.dat I a,.dat I b] [] ⟨True,.dat .bool (ZP (cs,ns,os,fs,ls,ks) a b),[]⟩:=oE hvc
theorem aAm(hvc:
 let c1:=((0:Int),(0:Int),(2:Int),(1:Int),(10:Int),Dt ByteArray);let c2:=((600:Int),(60:Int),(1:Int));true/\(True->1=1/\0=0/\1=1/\0=0/\1=1/\0=0/\1=1/\1=1/\0=0/\1=1/\1=1/\0=0/\1=1/\1=1/\0=0/\1=1/\0=0/\1=1/\0=0/\1=1/\0=0/\[((0:Int),[true,true,true,true,true,true,true],Dt Int)]=xCs/\[ByteArray.mk #[(99:UInt8)]]=xNs/\[ByteArray.mk #[(112:UInt8)]]=xOs/\[(ByteArray.mk #[(97:UInt8)],c1),(ByteArray.mk #[(98:UInt8)],c1)]=xFs/\[(ByteArray.mk #[(120:UInt8)],(0:Int),(1:Int),c2),(ByteArray.mk #[(121:UInt8)],(1:Int),(0:Int),c2)]=xLs/\[(ByteArray.mk #[(107:UInt8)],(300:Int),(720:Int))]=xKs/\True)):
  evF (mkc KL4) aA 34 [] [] ⟨True,.agg [.dat (.sl C) xCs,.dat (.sl S) xNs,.dat (.sl S) xOs,.dat (.sl Of) xFs,.dat (.sl Ln) xLs,.dat (.sl Kl) xKs],[]⟩:=oE hvc
def KL5: Kt:=kOr 10 (az [.row N,.val I,.val I] (λ_=>True) λ(n,a,b,_)=>.dat .bool (ZP n a b)) <|
 kOr 34 (az [] (λ_=>True) λ_=>.agg [.dat (.sl C) xCs,.dat (.sl S) xNs,.dat (.sl S) xOs,.dat (.sl Of) xFs,.dat (.sl Ln) xLs,.dat (.sl Kl) xKs]) <|
 kOr 11 (az [.row N,.val I,.val I] (λ_=>True) λ(n,a,b,_)=>.tup [.agg [.dat I (dP n a b).1,.dat I (dP n a b).2.1,.dat M (dP n a b).2.2.1,.dat (.sl M) (dP n a b).2.2.2],.agg [.dat R (J6 n a b).1,.dat I (J6 n a b).2],.dat I (rP n a b)]) <|
 kOr 12 (az [.row N,.row Pl,.val I] (λ(_,p,_,_)=>fQ p) λ(n,p,o,_)=>.tup [.dat R (gsF n p o),.dat R (ofF n p o)]) <|
 kOr 26 (az [.row N,.row (.pair R I)] (λ(n,c,_)=>Go.Eng.In.HJ c.1/\Go.Eng.In.rB n) λ(n,c,_)=>.dat I (Go.Eng.In.gm n c.1 c.2)) <|
 kOr 36 (az [.val R] (λ(l,_)=>Go.Eng.In.Qb l) λ(l,_)=>.dat I (Go.Eng.In.nh l)) KL4
def aF7: Ann:=⟨λ_ _=>none,λid s=>match id with
 | 8=>some (aBT [1,2,3,4,5,6,9,10] (frz ((s.mem.filter λp=>match p.2 with
  | .buf ..=>true
  | _=>false).map (·.1)) s))
 | _=>none,λ_ _=>none⟩
theorem LA(hvc:
 let c1:=(xCs,xNs,xOs,xFs,xLs,xKs);let c2:=dP c1 0 1;let c3:=c2.1;let c4:=c2.2;let c5:=c4.1;let c6:=c4.2;let c7:=c6.1;let c8:=c6.2;let c9:=(c3,c5,c7,c8);let c10:=Df xFs;let c11:=0+Dj xLs;let c12:=Ef (Dt (ByteArray×Int×Int×Int×Int×Int)) xLs;let c13:=((600:Int),(60:Int),(1:Int));let c14:=[(ByteArray.mk #[(122:UInt8)],(0:Int),(2:Int),c13),(ByteArray.mk #[(119:UInt8)],(2:Int),(0:Int),c13)];let c15:=c11+Dj c14;let c16:=Ef c12 c14;let c17:=rP c1 0 1;let c18:=gsF c1 c9 0;let c19:=ofF c1 c9 0;let c20:=rP c1 0 61;let c21:=J6 c1 0 1;let c22:=c21.1;let c23:=c21.2;let c24:=dP c1 0 61;let c25:=c24.1;let c26:=c24.2;let c27:=c26.1;let c28:=c26.2;let c29:=c28.1;let c30:=c28.2;let c31:=J6 c1 0 61;let c32:=c31.1;let c33:=c31.2;let c34:=(ByteArray.mk #[],(0:Int),(0:Int),(0:Int),(0:Int),(0:Int),Dt ByteArray);let c35:=Du xFs (Dc 0) c34;let c36:=c35.2;let c37:=c36.2;let c38:=c37.2;let c39:=c38.2;let c40:=c39.2;let c41:=Du xFs (Dc 1) c34;let c42:=c41.2;let c43:=c42.2;let c44:=c43.2;let c45:=c44.2;let c46:=c45.2;let c47:=[(c35.1,c36.1,c37.1,c38.1,c39.1,c40.1,c40.2),(c41.1,c42.1,c43.1,c44.1,c45.1,c46.1,c46.2),(ByteArray.mk #[(99:UInt8)],(0:Int),(0:Int),(2:Int),(1:Int),(10:Int),Dt ByteArray)];let c48:=Ea c17 0;let c49:=[(0:Int)];let c50:=(-1:Int)::c49;let c51:=Dz c48 (nY c7 [c50,[(1:Int),(-1:Int)]]) false;let c52:=(0:Int)::c49;let c53:=Dz c51 (sx c8 [[c52,c52]]) false;
 let c54:=Dz c53 (ni c22 [(0:Int),(1:Int),(2:Int),(1:Int),(0:Int),(1:Int),(2:Int),(0:Int),(1:Int),(1:Int),(1:Int),(1:Int),(2:Int),(2:Int)]) false;let c55:=Dz c54 (Ea c23 (In.nh c22)) false;let c56:=Dz c55 (ni c18 c50) false;let c57:=Dz c56 (ni c19 [(0:Int),(1:Int)]) false;let c58:=Dz c57 (Ea c20 1) false;let c59:=Dz c58 (Ea (rP (xCs,xNs,xOs,c47,c16,xKs) 0 1) 140) false;
 true/\(True->True/\1=1/\0=0/\1=1/\0=0/\True/\1=1/\0=0/\1=1/\0=0/\1=1/\0=0/\1=1/\0=0/\fQ c9/\1=1/\0=0/\True/\1=1/\0=0/\1=1/\0=0/\1=1/\0=0/\1=1/\0=0/\1=1/\1=1/\0=0/\Dl 0 0/\0<c10/\1=1/\1=1/\0=0/\Dl 0 1/\1<c10/\1=1/\1=1/\0=0/\1=1/\1=1/\0=0/\Dj (Dt (ByteArray×Int×Int×Int×Int×Int))=0/\(c11*56)<=140737488355328/\c11<=9223372036854775807/\Dj c12=c11/\(c15*56)<=140737488355328/\c15<=9223372036854775807/\1=1/\1=1/\0=0/\Dj c16=c15/\1=1/\0=0/\0=0/\1=1/\0=0/\0=0/\1=1/\0=0/\0=0/\c17=c17/\c18=c18/\c19=c19/\c20=c20/\1=1/\0=0/\0=0/\xCs=xCs/\xNs=xNs/\xOs=xOs/\xFs=xFs/\xLs=xLs/\xKs=xKs/\c3=c3/\c5=c5/\c7=c7/\c8=c8/\c22=c22/\c23=c23/\c25=c25/\c27=c27/\c29=c29/\c30=c30/\c32=c32/\c33=c33/\xCs=xCs/\xNs=xNs/\xOs=xOs/\c47=c47/\Dj c16=c15/\c16=c16/\xKs=xKs/\1=1/\0=0/\True/\1=1/\0=0/\1=1/\0=0/\(c48->1=1)/\(c48->c48->c48)/\(c48->1=1)/\(c48->0=0)/\(c48->c48->c48)/\(c48->c48->c48)/\(c48->c48->c48)/\(c48->c48->c48)/\(c48->mild c7)/\(Dk true c48->c48)/\(c51->1=1)/\(c51->c51->c51)/\(c51->1=1)/\(c51->0=0)/\(c51->c51->c51)/\(c51->c51->c51)/\(c51->c51->c51)/\(c51->c51->c51)/\(c51->c51->c51)/\(c51->E0 c8)/\(Dk true c51->c51)/\(c53->1=1)/\(c53->c53->c53)/\(c53->1=1)/\(c53->0=0)/\(c53->c53->c53)/\(c53->c53->c53)/\(c53->pD c22)/\(Dk true c53->c53)/\(c54->1=1)/\(c54->c54->c54)/\(c54->1=1)/\(c54->0=0)/\(c54->1=1)/\(c54->c54->c54)/\(c54->1=1)/\(c54->0=0)/\(c54->c54->c54)/\(c54->In.Qb c22)/\(c54->c54->c54)/\(c54->c54->c54)/\(Dk true c54->c54)/\(c55->c55->c55)/\(c55->c55->c55)/\(c55->pD c18)/\(Dk true c55->c55)/\(c56->c56->c56)/\(c56->c56->c56)/\(c56->pD c19)/\(Dk true c56->c56)/\(c57->c57->c57)/\(Dk true c57->c57)/\(c58->c58->c58)/\(Dk true c58->c58)/\(c59->1=1)/\(c59->0=0)/\(c59->1=1)/\(c59->0=0)/\(c59->c59->c59)/\(c59->c59->c59)/\(c59->In.HJ c22/\In.rB c1)/\
 (c59->c59->c59)/\(Dk true c59->c59)/\Dz c59 (Ea (In.gm c1 c22 c23) 0) false/\True)):
  evF {mkc KL5 with mb:=λt=>t==46} aF7 9 [] [] ⟨True,.dat .bool true,[]⟩:=oE hvc
def KL6: Kt:=kOr 9 (az [] (λ_=>True) λ_=>.dat .bool true) KL5
theorem aAY(z:Int)(w:List Bool)(h:Li): af Tryz.prog G0 167 [cal z w h] [] ⟨True,.dat .bool (gU w h),[]⟩:=by
 refine ae (c:=mkc KC8) Qn aJ hm (W4 z w h ⟨rfl,λ_=>?_⟩);simp only[qc,Dk,gU,Eh,Df]
 congr 1<;>congr 1<;>exact propext (by omega)
theorem aDe: ak Tryz.prog G0 KL1:=ai (ag λ((z,w,h),_)=>aAY z w h) Qn
theorem aD5(k:Int)(cs:LC)(ns os:LB)(fs:Lo)(ls:Ll)(ks:Lk): af Tryz.prog G0 168 [net cs ns os fs ls ks,.dat I k] [] ⟨m6 (cs,ns,os,fs,ls,ks)=true,.dat (.sl S) (aR (cs,ns,os,fs,ls,ks) k),[]⟩:=by
 refine ae (c:=mkc KL1) aDe aJ hm (aAl k cs ns os fs ls ks ⟨rfl,λhp=>?_⟩);obtain⟨l1,l2,l3,l4,l5,l6⟩:=zg cs ns os fs ls ks hp;simp only[qc,qd,Dt,Ea,Dp,Df,Dc,Dj,Du,Ef];refine⟨λhk=>?_,λh1=>⟨λhk=>?_,λh2=>⟨λhk=>?_,λh3=>⟨λhk=>?_,λh4=>⟨λhk=>?_,λh5=>?_⟩⟩⟩⟩⟩
 .subst hk;have hl:(aR (cs,ns,os,fs,ls,ks) 1).length=cs.length:=fR cs ns;obtain⟨b1,b2⟩:=Bz (n:=(cs,ns,os,fs,ls,ks)) (k:=1) (el:=λx=>ns.getD x.toNat ⟨#[]⟩) (R:=aR (cs,ns,os,fs,ls,ks) 1) hl (by omega) (λx h0 h1=>uq h0 h1) rfl;refine⟨b1,λx hx=>⟨λhlt=>⟨λhn=>⟨hx.1,hn,((b2 x hx).1 hlt).2.2⟩,λhn=>?_⟩,(b2 x hx).2⟩⟩;have e:ns.getD x.toNat ⟨#[]⟩=⟨#[]⟩:=by rw[qA,zF (by have:=hx.1;omega)];rfl
  have:=((b2 x hx).1 hlt).2.2;simp only[e]at this;exact this
 .subst hk;exact Bz (n:=(cs,ns,os,fs,ls,ks)) (k:=2) (m:=os.length) (el:=λx=>os.getD x.toNat ⟨#[]⟩) rfl (by omega) (λx _ _=>rfl) rfl
 .subst hk;exact Bz (n:=(cs,ns,os,fs,ls,ks)) (k:=3) (m:=fs.length) (el:=λx=>(fs.getD x.toNat (⟨#[]⟩,0,0,0,0,0,[])).1) (map_length _ fs) (by omega) (λx h0 h1=>Jo _ h0 h1) rfl
 .subst hk;exact Bz (n:=(cs,ns,os,fs,ls,ks)) (k:=4) (m:=ls.length) (el:=λx=>(ls.getD x.toNat (⟨#[]⟩,0,0,0,0,0)).1) (map_length _ ls) (by omega) (λx h0 h1=>Jo _ h0 h1) rfl
 .subst hk;exact Bz (n:=(cs,ns,os,fs,ls,ks)) (k:=5) (m:=ks.length) (el:=λx=>(ks.getD x.toNat (⟨#[]⟩,0,0)).1) (map_length _ ks) (by omega) (λx h0 h1=>Jo _ h0 h1) rfl
 .unfold aR;rw[if_neg h1,if_neg h2,if_neg h3,if_neg h4,if_neg h5]
theorem aD3(a b:Lj): af Tryz.prog G0 22 [.dat M a,.dat M b] [] ⟨mild a,.dat .bool (nY a b),[]⟩:=by
 refine ae (c:=mkc KL1) aDe aJ hm (aAj a b ⟨rfl,λ⟨hp,hp2⟩=>?_⟩);simp only[qc,qd,Ec,Dp,Df,Dc,Du];refine⟨λh=>xw λe=>h (by rw[e]),λh=>⟨⟨qL _,qZ _,by omega,hp,rfl⟩,λx ⟨g0,g1,g2,g3,g4⟩=>⟨λhlt=>⟨g0,hlt,g0,by omega,λhd=>xw λe=>hd (by rw[e]),λhd=>?_⟩,λhge=>?_⟩⟩⟩
 .have hm2:=hp2 _ (getD_mem (l:=a) (i:=x.toNat) (d:=[]) (by omega));refine⟨⟨qL _,qZ _,by omega,hm2,rfl⟩,λz ⟨f0,f1,f2,f3,f4⟩=>⟨g0,hlt,λhz=>⟨g0,hlt,f0,hz,g0,by omega,f0,by omega,λhd=>xw λe=>hd (by rw[e]),λhe=>⟨⟨by omega,by omega⟩,z+1,⟨by omega,by omega,f2,f3,?_⟩,rfl,by omega⟩⟩,λhz=>⟨⟨by omega,by omega⟩,x+1,⟨by omega,by omega,g2,g3,?_⟩,rfl,by omega⟩⟩⟩
  .rw[show(z+1).toNat=z.toNat+1 by omega];exact iZ f4 (by omega) (by omega) he
  .rw[show(x+1).toNat=x.toNat+1 by omega];refine iZ (d:=[]) g4 (by omega) (by omega) ?_;rw[qO (by omega),qO (by omega)]at f4;exact f4
 .rw[qO (by omega),qO (by omega)]at g4;subst g4;unfold nY;simp
theorem Hg{a b:Li}(h:a≠b): false=ni a b:=by unfold ni;exact(qAe.2 h).symm
theorem aD4(a b:Li): af Tryz.prog G0 35 [.dat R a,.dat R b] [] ⟨pD a,.dat .bool (ni a b),[]⟩:=by
 refine ae (c:=mkc KL1) aDe aJ hm (aAk a b ⟨rfl,λhp=>?_⟩);simp only[qc,qd,Ec,Dp,Df,Dc,Du]
 refine⟨λh=>Hg λe=>h (by rw[e]),λh=>⟨⟨qL _,qZ _,by omega,hp,rfl⟩,λx ⟨g0,g1,g2,g3,g4⟩=>⟨λhlt=>⟨g0,hlt,g0,by omega,λhd=>Hg λe=>hd (by rw[e]),λhd=>⟨⟨by omega,by omega⟩,x+1,⟨by omega,by omega,g2,g3,?_⟩,rfl,by omega⟩⟩,λhge=>?_⟩⟩⟩
 .rw[show(x+1).toNat=x.toNat+1 by omega];exact iZ g4 (by omega) (by omega) hd
 .rw[qO (by omega),qO (by omega)]at g4;subst g4;unfold ni;simp
theorem aE4: ak Tryz.prog G0 KL2:=ai (ag λ((cs,ns,os,fs,ls,ks),k,_)=>aD5 k cs ns os fs ls ks)<|ai (ag λ(a,b,_)=>aD3 a b)<|ai (ag λ(a,b,_)=>aD4 a b) aDe
theorem aBN{n:Net}(q:m6 n=true)(k:Int): (aR n k).length<=100:=by
 obtain⟨cs,ns,os,fs,ls,ks⟩:=n;obtain⟨l1,l2,l3,l4,l5,l6⟩:=zg cs ns os fs ls ks q;unfold aR;split
 .exact wE (zV (fR cs ns)) (by omega)
 split
 .show os.length<=100;omega
 split
 .exact wE (zV (map_length _ fs)) (by omega)
 split
 .exact wE (zV (map_length _ ls)) (by omega)
 split
 .exact wE (zV (map_length _ ks)) (by omega)
 .exact wU _
theorem aAZ(cs:LC)(ns os:LB)(fs:Lo)(ls:Ll)(ks:Lk): af Tryz.prog G0 104 [net cs ns os fs ls ks] [] ⟨True,.dat .bool (KF (cs,ns,os,fs,ls,ks)),[]⟩:=by
 refine ae (c:=mkc KL2) aE4 aJ hm (W5 cs ns os fs ls ks ⟨rfl,λhp=>?_⟩);simp only[qc,Dk,Di,qd,Dt,Dp,Ei,Eh,Df,Et,Dc,Du];refine⟨λh=>H8 λg=>?_,λh=>?_⟩
 .obtain⟨l1,l2,l3,l4,l5,l6⟩:=zg cs ns os fs ls ks (oO.1 g).1;omega
 have hl:m6 (cs,ns,os,fs,ls,ks)=true:=qV (by show cs.length<=10/\ns.length<=10/\os.length<=10/\fs.length<=16/\ls.length<=50/\ks.length<=8;omega);refine⟨⟨qL _,qZ _,by simp⟩,λx ⟨x0,x1,x2⟩=>⟨λhlt=>⟨x0,hlt,λhb=>H8 λg=>?_,λhg=>⟨⟨by omega,by omega⟩,x+1,⟨by omega,by omega,?_⟩,rfl,by omega⟩⟩,λhge=>?_⟩⟩
 .have:=me (l:=cs) (p:=λc=>gU c.2.1 c.2.2) (d:=(0,[],[])) (k:=x.toNat) (by omega) hb;rw[(oO.1 g).2.1]at this;cases this
 .rw[show(x+1).toNat=x.toNat+1 by omega];exact fB (d:=(0,[],[])) x2 (by omega) hg
 have hcs:(cs.all λc=>gU c.2.1 c.2.2)=true:=by rwa [qO (by omega)]at x2
 refine⟨⟨qL _,qZ _,by simp⟩,λz ⟨z0,z1,z2⟩=>⟨λhlt=>⟨z0,hlt,λhb=>H8 λg=>?_,λhg=>⟨⟨by omega,by omega⟩,z+1,⟨by omega,by omega,?_⟩,rfl,by omega⟩⟩,λhge=>?_⟩⟩
 .have:=me (l:=fs) (p:=λo=>decide (o.2.2.2.2.2.2.length<=30)) (d:=(⟨#[]⟩,0,0,0,0,0,[])) (k:=z.toNat) (by omega) (vH (by omega));rw[(oO.1 g).2.2.1]at this;cases this
 .rw[show(z+1).toNat=z.toNat+1 by omega];exact fB (d:=(⟨#[]⟩,0,0,0,0,0,[])) z2 (by omega) (qV (by omega))
 have hfs:(fs.all λo=>decide (o.2.2.2.2.2.2.length<=30))=true:=by rwa [qO (by omega)]at z2
 refine⟨⟨qL _,by decide,λj h1 h2=>by omega⟩,λk ⟨k0,k1,k2⟩=>⟨λhk=>?_,λhk=>?_⟩⟩
 .have hlen:(aR (cs,ns,os,fs,ls,ks) k).length<=100:=aBN hl k;refine⟨hl,⟨qL _,qZ _,by simp[mU]⟩,λi ⟨i0,i1,i2⟩=>⟨λhlt=>⟨i0,hlt,λhb=>H8 λg=>?_,λhg=>⟨⟨by omega,by omega⟩,i+1,⟨by omega,by omega,?_⟩,rfl,by omega⟩⟩,λhge=>⟨⟨by omega,by omega⟩,k+1,⟨by omega,by omega,λj h1 h2=>?_⟩,rfl,by omega⟩⟩⟩
  .have:=me (l:=aR (cs,ns,os,fs,ls,ks) k) (p:=λs=>decide (s.size<=40)) (d:=⟨#[]⟩) (k:=i.toNat) (by omega) (vH (by omega));have h2:=(oO.1 g).2.2.2 k k0 (by omega);unfold mU at h2;rw[h2]at this;cases this
  .rw[show(i+1).toNat=i.toNat+1 by omega];exact fB (d:=⟨#[]⟩) i2 (by omega) (qV (by omega))
  .by_cases e:j=k
   .subst e
    rwa [qO (by omega)]at i2
   .exact k2 j h1 (by omega)
 .exact(oO.2 ⟨hl,hcs,hfs,λj h1 h2=>k2 j h1 (by omega)⟩).symm
theorem Hf{a b:List (Lj)}(h:a≠b): false=sx a b:=by unfold sx;exact(qAe.2 h).symm
theorem AX{a b:Lj}: nY a b=true↔a=b:=xH
theorem aD2(a b:List (Lj)): af Tryz.prog G0 24 [.dat (.sl M) a,.dat (.sl M) b] [] ⟨E0 a,.dat .bool (sx a b),[]⟩:=by
 refine ae (c:=mkc KL2) aE4 aJ hm (aAi a b ⟨rfl,λhp=>?_⟩);simp only[qc,Di,qd,Dt,Ec,Dp,Df,Dc,Du];obtain⟨hp1,hp2⟩:=hp
 refine⟨λh=>Hf λe=>h (by rw[e]),λh=>⟨⟨qL _,qZ _,by omega,rfl⟩,λx ⟨g0,g1,g2,g3⟩=>⟨λhlt=>⟨g0,hlt,g0,by omega,hp2 _ (getD_mem (by omega)),λhd=>Hf λe=>?_,λhd=>⟨aM (by omega),x+1,⟨by omega,by omega,g2,?_⟩,rfl,by omega⟩⟩,λhge=>?_⟩⟩⟩
 .rw[e,AX.2 rfl]at hd;cases hd
 .rw[show(x+1).toNat=x.toNat+1 by omega];exact iZ g3 (by omega) (by omega) (AX.1 hd)
 .rw[qO (by omega),qO (by omega)]at g3;subst g3;unfold sx;simp
theorem aFJ: ak Tryz.prog G0 KL3:=ai (ag λ((cs,ns,os,fs,ls,ks),_)=>aAZ cs ns os fs ls ks)<|ai (ag λ(a,b,_)=>aD2 a b) aE4
theorem XV(nx:Lj)(cs:LC)(ns os:LB)(fs:Lo)(ls:Ll)(ks:Lk): af Tryz.prog G0 37 [net cs ns os fs ls ks,.dat M nx] [] ⟨True,.dat .bool (smF (cs,ns,os,fs,ls,ks) nx),[]⟩:=by
 refine ae (c:=mkc KL3) aFJ aJ hm (Q7 nx cs ns os fs ls ks ⟨rfl,λ_=>?_⟩);simp only[qc,Dk,Di,qd,Dp,Ei,Df,Dc,Du];have e:smF (cs,ns,os,fs,ls,ks) nx=((KF (cs,ns,os,fs,ls,ks)&&decide ((fs.length:Int)<=6))&&(decide ((nx.length:Int)<=10)&&nx.all λr=>decide ((r.length:Int)<=10))):=rfl
 refine⟨λh=>?_,λ⟨⟨h1,h2⟩,h3⟩=>⟨⟨qL _,qZ _,by omega,λi h=>by omega⟩,λx hx=>⟨λhlt=>⟨hx.1,hlt,λhb=>?_,λhb=>⟨aM (by have:=hx.1;omega),x+1,⟨by have:=hx.1;omega,by omega,hx.2.2.1,λi hi=>?_⟩,rfl,by have:=hx.1;omega⟩⟩,λhge=>?_⟩⟩⟩
 .rw[e];rcases h with(h | h) | h
  .rw[h];rfl
  .rw[vH (by omega),xJ];rfl
  .rw[vH (p:=(nx.length:Int)<=10) (by omega),kU,xJ]
 .rw[e];have:(nx.all λr=>decide ((r.length:Int)<=10))=false:=by
   refine qCx.2 ⟨nx.getD x.toNat [],?_,by simp only[qE];omega⟩;rw[qA,qB (by have:=hx.1;omega),qQ];exact wM _
  rw[this,xJ,xJ]
 .by_cases h:(i:Int)<x
  .exact hx.2.2.2 i h
  .have:i=x.toNat:=by have:=hx.1;omega
   rw[this];omega
 .rw[e,h1,qV (by omega),qV (p:=(nx.length:Int)<=10) (by omega)];refine(qM.2 λr hr=>?_).symm;obtain⟨i,hi,rfl⟩:=wX.1 hr;have:=hx.2.2.2 i (by omega);rw[qA,qB hi,qQ]at this;simp only[qE];omega
theorem aE3: ak Tryz.prog G0 KL4:=ai (ag λ((cs,ns,os,fs,ls,ks),nx,_)=>XV nx cs ns os fs ls ks) aFJ
theorem XU(a b:Int)(cs:LC)(ns os:LB)(fs:Lo)(ls:Ll)(ks:Lk): af Tryz.prog G0 10 [net cs ns os fs ls ks,.dat I a,.dat I b] [] ⟨True,.dat .bool (ZP (cs,ns,os,fs,ls,ks) a b),[]⟩:=by
 refine ae (c:={mkc KL4 with mb:=λt=>t==18||t==23}) aE3 aJ hm (Q6 a b cs ns os fs ls ks ⟨rfl,λ_=>?_⟩);simp only[qc,Dk,Di,qd,Dt,Ei,Eh,Df,Ew];rfl
theorem aD6: af Tryz.prog G0 34 [] [] ⟨True,.agg [.dat (.sl C) xCs,.dat (.sl S) xNs,.dat (.sl S) xOs,.dat (.sl Of) xFs,.dat (.sl Ln) xLs,.dat (.sl Kl) xKs],[]⟩:=by
 refine ae (c:=mkc KL4) aE3 aJ hm (aAm ⟨rfl,λ_=>?_⟩);simp only[qc,Dt];exact⟨rfl,rfl,rfl,rfl,rfl,rfl⟩
theorem aFI: ak Tryz.prog G0 KL5:=ai (ag λ((cs,ns,os,fs,ls,ks),a,b,_)=>XU a b cs ns os fs ls ks)<|ai (ag λ_=>aD6)<|ai (ag λ((cs,ns,os,fs,ls,ks),a,b,_)=>MI v8 a b cs ns os fs ls ks) <|
 ai (ag λ((cs,ns,os,fs,ls,ks),(p1,p2,nx,dy),o,_)=>Ss v8 o cs ns os fs ls ks p1 p2 nx dy)<|ai (ag λ((cs,ns,os,fs,ls,ks),c,_)=>Y1 (Go.Eng.In.Ya c.2 c.1 cs ns os fs ls ks))<|ai (ag λ(l,_)=>Y1 (Go.Eng.In.DW l)) aE3
noncomputable abbrev xN: Net:=(xCs,xNs,xOs,xFs,xLs,xKs)
abbrev xP: Plan:=(0,1,[[-1,0],[1,-1]],[[[0,0],[0,0]]])
abbrev xL: Li:=[0,1,2,1,0,1,2,0,1,1,1,1,2,2]
set_option maxHeartbeats 4000000 in
theorem Sm: af Tryz.prog G0 9 [] [] ⟨True,.dat .bool true,[]⟩:=by
 refine ae (c:={mkc KL5 with mb:=λt=>t==46}) aFI aJ hm (LA ?_);intro c1 c2 c3 c4 c5 c6 c7 c8 c9 c10 c11 c12 c13 c14 c15 c16 c17 c18 c19 c20 c21 c22 c23 c24 c25 c26 c27 c28 c29 c30 c31 c32 c33 c34 c35 c36 c37 c38 c39 c40 c41 c42 c43 c44 c45 c46 c47 c48 c49 c50 c51 c52 c53 c54 c55 c56 c57 c58 c59;have q2:c2=xP:=by decide +kernel
 have q7:c7=[[-1,0],[1,-1]]:=by show c2.2.2.1=_;rw[q2]
 have q8:c8=[[[0,0],[0,0]]]:=by show c2.2.2.2=_;rw[q2]
 have q9:c9=xP:=by show(c2.1,c2.2.1,c2.2.2.1,c2.2.2.2)=_;rw[q2]
 have q17:c17=0:=by decide +kernel
 have q18:c18=[-1,0]:=by show gsF xN c9 0=_;rw[q9];decide +kernel
 have q19:c19=[0,1]:=by show ofF xN c9 0=_;rw[q9];decide +kernel
 have q20:c20=1:=by decide +kernel
 have q21:c21=(xL,Go.Eng.In.nh xL):=by decide +kernel
 have q22:c22=xL:=by show c21.1=_;rw[q21]
 have q23:c23=Go.Eng.In.nh xL:=by show c21.2=_;rw[q21]
 have h5:rP (xCs,xNs,xOs,c47,c16,xKs) 0 1=140:=by
  show rP (xCs,xNs,xOs,yFs,yLs,xKs) 0 1=140
  decide +kernel
 have h8:Go.Eng.In.gm xN xL (Go.Eng.In.nh xL)=0:=by decide +kernel
 have e48:c48=true:=by show Ea c17 0=true;rw[q17];rfl
 have e51:c51=true:=by show Dz c48 (nY c7 [[-1,0],[1,-1]]) false=true;rw[e48,q7];rfl
 have e53:c53=true:=by show Dz c51 (sx c8 [[[0,0],[0,0]]]) false=true;rw[e51,q8];rfl
 have e54:c54=true:=by show Dz c53 (ni c22 xL) false=true;rw[e53,q22];rfl
 have e55:c55=true:=by show Dz c54 (Ea c23 (In.nh c22)) false=true;rw[e54,q22,q23];show decide (In.nh xL=In.nh xL)=true;exact qV rfl
 have e56:c56=true:=by show Dz c55 (ni c18 [-1,0]) false=true;rw[e55,q18];rfl
 have e57:c57=true:=by show Dz c56 (ni c19 [0,1]) false=true;rw[e56,q19];rfl
 have e58:c58=true:=by show Dz c57 (Ea c20 1) false=true;rw[e57,q20];rfl
 have e59:c59=true:=by show Dz c58 (Ea (rP (xCs,xNs,xOs,c47,c16,xKs) 0 1) 140) false=true;rw[e58,h5];rfl
 have e60:Dz c59 (Ea (In.gm c1 c22 c23) (0:Int)) false=true:=by
  show Dz c59 (Ea (In.gm xN c22 c23) (0:Int)) false=true;rw[e59,q22,q23,h8];rfl
 have m7:mild c7:=by rw[q7];unfold mild;decide
 have m8:E0 c8:=by rw[q8];unfold E0 mild;decide
 have m9:fQ c9:=by rw[q9];unfold fQ bZ;decide
 have m22:pD c22:=by rw[q22];unfold pD;decide
 have s22:In.Qb c22:=by rw[q22];unfold In.Qb;decide
 have l22:In.HJ c22/\In.rB c1:=⟨by rw[q22];unfold In.HJ;decide,by show In.rB xN;unfold In.rB;decide⟩;have m18:pD c18:=by rw[q18];unfold pD;decide
 have m19:pD c19:=by rw[q19];unfold pD;decide
 have k10:Dn (0:Int) c10/\Dn (1:Int) c10:=by constructor<;>decide
 have k11:Dy (Em c11 (56)) (140737488355328)/\Dy c11 (9223372036854775807):=by constructor<;>decide
 have k15:Dy (Em c15 (56)) (140737488355328)/\Dy c15 (9223372036854775807):=by constructor<;>decide
 have k16:Dj c12=c11/\Dj c16=c15:=⟨rfl,rfl⟩;clear_value c59 c58 c57 c56 c55 c54 c53 c51 c48 c31 c24 c23 c22 c21 c20 c19 c18 c17 c9 c8 c7 c2;subst e48 e51 e53 e54 e55 e56 e57 e58 e59;refine⟨rfl,λ_=>?_⟩;generalize fQ c9=F9 at m9 ⊢
 and_intros
 all_goals first
  | with_reducible exact trivial
  | with_reducible rfl
  | with_reducible exact e60
  | with_reducible exact m9
  | with_reducible exact λ_=>m7
  | with_reducible exact λ_=>m8
  | with_reducible exact λ_=>m22
  | with_reducible exact λ_=>s22
  | with_reducible exact λ_=>l22
  | with_reducible exact λ_=>m18
  | with_reducible exact λ_=>m19
  | with_reducible exact k10.1
  | with_reducible exact k10.2
  | with_reducible exact k11.1
  | with_reducible exact k11.2
  | with_reducible exact k15.1
  | with_reducible exact k15.2
  | with_reducible exact k16.1
  | with_reducible exact k16.2
  | with_reducible exact λ_=>rfl
  | with_reducible exact λh _=>h
  | with_reducible exact λh=>h
  | decide
  | rfl
theorem aGn: ak Tryz.prog G0 KL6:=ai (ag λ_=>Sm) aFI
end Go.Eng.Sv
set_option maxRecDepth 100000
namespace Go.Eng.Sv
open Go.Proofs
noncomputable def u8P(a:Int): Prop:=0<=a/\a<=255
noncomputable def bB(n:Net)(a b:Int)(o d:Int): Int:=Go.Eng.Mp.at2 (aP n (bq n a b)) o d
noncomputable def cnt(n:Net)(a b o d:Int): Nat:=(List.range n.2.2.2.1.length).countP λx:Nat=>decide (bB n a b o d<bB n a b x d)
open Go.Eng.Mp (aL cD qj bC upto at2 oM dS gY xm)
open Go.Eng.Mp (W PW uF)
theorem CJ{n:Net}{f t:Int}(hc:rP n f t=0): (0<=f/\f<t/\t<=600/\t-f<=60)/\aO n=true/\lr n (dP n f t).2.2.1=true/\(dP n f t).2.2.2=DU n (dP n f t).2.2.1 f t/\nW n (p1F n f t)=0/\wrE n (p2F n f t)=0/\dP n f t=p2F n f t:=by
 have e:dP n f t=p2F n f t:=if_pos hc;unfold rP at hc;split at hc
 .rename_i h;exact absurd hc h
 .rename_i h;have h:Im n (p0F f t)=0:=qBv.1 h;obtain⟨h1,h2,h3,h4⟩:=CL h;split at hc
  .rename_i g;exact absurd hc g
  .rename_i g;rw[e];exact⟨h1,h2,h4,rfl,qBv.1 g,hc,rfl⟩
theorem Wy{n:Net}{p:Plan}(h:wrE n p=0): aO n=true/\gb n p=true:=by
 unfold wrE at h;split at h
 .assumption
 .cases h
theorem UR{n:Net}{f t:Int}(hc:rP n f t=0): gA n (1440*f) (1440*t)=true/\(dP n f t).2.2.1=BB n (bq n (1440*f) (1440*t))/\gb n (dP n f t)=true/\fQ (dP n f t):=by
 obtain⟨hr,hs,ht,hD,_,hw,e⟩:=CJ hc;have hu:gA n (1440*f) (1440*t)=true:=by
  unfold gA;rw[qC];exact⟨sJ.2 (by omega),hs⟩
 refine⟨hu,?_,?_,xj hs ht,by rw[hD];exact G3 hs⟩
 .rw[e];exact if_pos hu
 .rw[e];exact(Wy hw).2
theorem ui{α:Type}{p q:α->Bool}: ∀{l:List α},(∀x∈l,p x=true->q x=true)->(∃x∈l,q x=true/\p x=false)->l.countP p+1<=l.countP q
 | [],_,h=>by obtain⟨x,hx,_⟩:=h;cases hx
 | y::l,h1,h2=>by
  have hle:l.countP p<=l.countP q:=List.countP_mono_left λx hx=>h1 x (zA _ hx)
  rw[List.countP_cons,List.countP_cons];obtain⟨x,hx,g1,g2⟩:=h2;rcases zJ.1 hx with rfl | hx
  .rw[if_pos g1,if_neg (by rw[g2];decide)];omega
  .have ih:=ui (λx hx=>h1 x (zA _ hx)) ⟨x,hx,g1,g2⟩;have:=h1 y wL;by_cases hy:p y=true
   .rw[if_pos hy,if_pos (this hy)];omega
   .rw[if_neg hy];omega
theorem cnt_lt(cs:LC)(ns os:LB)(fs:Lo)(ls:Ll)(ks:Lk){a b o d:Int}(o0:0<=o)(o1:o<fs.length): cnt (cs,ns,os,fs,ls,ks) a b o d+1<=fs.length:=by
 have h:=ui (p:=λx:Nat=>decide (bB (cs,ns,os,fs,ls,ks) a b o d<bB (cs,ns,os,fs,ls,ks) a b x d)) (q:=λ_=>true) (l:=List.range fs.length) (λ_ _ _=>rfl) ⟨o.toNat,qX.2 (by omega),rfl,by
  rw[vN,qU o0];omega⟩
 have e:(List.range fs.length).countP (λ_=>true)=fs.length:=by simp
 rw[e]at h;exact h
theorem UQ(cs:LC)(ns os:LB)(fs:Lo)(ls:Ll)(ks:Lk){a b o o' d:Int}(o0:0<=o)(o1:o<fs.length)(h:bB (cs,ns,os,fs,ls,ks) a b o' d<bB (cs,ns,os,fs,ls,ks) a b o d): cnt (cs,ns,os,fs,ls,ks) a b o d+1<=cnt (cs,ns,os,fs,ls,ks) a b o' d:=by
 refine ui (λx _ hx=>?_) ⟨o.toNat,qX.2 (by show o.toNat<fs.length;omega),?_,?_⟩
 .have:=wF hx;exact qV (by omega)
 .rw[qE,qU o0];exact h
 .rw[vN,qU o0];omega
theorem PG(cs:LC)(ns os:LB)(fs:Lo)(ls:Ll)(ks:Lk){a b o d:Int}(h:gA (cs,ns,os,fs,ls,ks) a b=true)(o0:0<=o)(o1:o<fs.length)(d0:0<=d)(d1:d<fs.length)(hne:o≠d)(hB:0<=bB (cs,ns,os,fs,ls,ks) a b o d):
  ∃i:Int,at2 (BB (cs,ns,os,fs,ls,ks) (bq (cs,ns,os,fs,ls,ks) a b)) o d=i/\0<=i/\i<ls.length/\(aK (cs,ns,os,fs,ls,ks) i).2.1=o/\(bq (cs,ns,os,fs,ls,ks) a b).getD i.toNat 0≠dd/\0<(bq (cs,ns,os,fs,ls,ks) a b).getD i.toNat 0/\0<=bB (cs,ns,os,fs,ls,ks) a b (aK (cs,ns,os,fs,ls,ks) i).2.2.1 d/\bB (cs,ns,os,fs,ls,ks) a b o d=(bq (cs,ns,os,fs,ls,ks) a b).getD i.toNat 0+bB (cs,ns,os,fs,ls,ks) a b (aK (cs,ns,os,fs,ls,ks) i).2.2.1 d:=by
 have hc:=Ie cs ns os fs ls ks h;have hat:at2 (BB (cs,ns,os,fs,ls,ks) (bq (cs,ns,os,fs,ls,ks) a b)) o d=mQ (cs,ns,os,fs,ls,ks) (bq (cs,ns,os,fs,ls,ks) a b) (aP (cs,ns,os,fs,ls,ks) (bq (cs,ns,os,fs,ls,ks) a b)) o d:=Mp.fU _ _ o d o0 o1 d0 d1
 have hn:mQ (cs,ns,os,fs,ls,ks) (bq (cs,ns,os,fs,ls,ks) a b) (aP (cs,ns,os,fs,ls,ks) (bq (cs,ns,os,fs,ls,ks) a b)) o d=rF (cs,ns,os,fs,ls,ks) (bq (cs,ns,os,fs,ls,ks) a b) (aP (cs,ns,os,fs,ls,ks) (bq (cs,ns,os,fs,ls,ks) a b)) o d:=by
  unfold mQ;rw[if_neg (λq=>q.elim hne (λg=>by have g:bB (cs,ns,os,fs,ls,ks) a b o d<0:=g;omega))]
 rw[hat,hn];obtain⟨k,l,k1,k2,k3,k4,k5⟩:=(Py cs ns os fs ls ks hc).1.from_ o d o0 o1 d0 d1 hne hB;have hlt:k<ls.length:=(qF.1 k1).1;have el:∀j:Nat,∀l,ls[j]?=some l->aK (cs,ns,os,fs,ls,ks) j=l:=λj l hj=>by
  unfold aK;show ls.getD (j:Int).toNat _=l;rw[vC,qA,hj];rfl
 have hb:k9 (cs,ns,os,fs,ls,ks) (bq (cs,ns,os,fs,ls,ks) a b) (aP (cs,ns,os,fs,ls,ks) (bq (cs,ns,os,fs,ls,ks) a b)) o d k=true:=mF.2 ⟨by rw[el k l k1];exact k3,by rw[vC];exact k2,by rw[el k l k1];exact k4,by rw[vC,el k l k1];exact k5.symm⟩;unfold rF
 cases hf:(List.range ls.length).find? (λi:Nat=>k9 (cs,ns,os,fs,ls,ks) (bq (cs,ns,os,fs,ls,ks) a b) (aP (cs,ns,os,fs,ls,ks) (bq (cs,ns,os,fs,ls,ks) a b)) o d i)with
 | none=>exact(qBp.1 hf k (qX.2 hlt) hb).elim
 | some i=>
  have hi:=qX.1 (List.mem_of_find?_eq_some hf);have hp:k9 (cs,ns,os,fs,ls,ks) (bq (cs,ns,os,fs,ls,ks) a b) (aP (cs,ns,os,fs,ls,ks) (bq (cs,ns,os,fs,ls,ks) a b)) o d i=true:=qDm (p:=λi:Nat=>k9 (cs,ns,os,fs,ls,ks) (bq (cs,ns,os,fs,ls,ks) a b) (aP (cs,ns,os,fs,ls,ks) (bq (cs,ns,os,fs,ls,ks) a b)) o d i) hf;obtain⟨p1,p2,p3,p4⟩:=mF.1 hp
  have hc2:=hc.2.2 i (by omega) (by rw[hc.2.1];show(i:Int)<ls.length;omega);refine⟨i,?_,by omega,by omega,p1,p2,?_,p3,p4.symm⟩
  .rfl
  .rcases hc2 with g | g
   .exact(p2 g).elim
   .exact g.1
theorem NR(cs:LC)(ns os:LB)(fs:Lo)(ls:Ll)(ks:Lk){a b o d:Int}(o0:0<=o)(o1:o<fs.length)(d0:0<=d)(d1:d<fs.length)(h:o=d\/bB (cs,ns,os,fs,ls,ks) a b o d<0): at2 (BB (cs,ns,os,fs,ls,ks) (bq (cs,ns,os,fs,ls,ks) a b)) o d=-1:=by
 have:at2 (BB (cs,ns,os,fs,ls,ks) (bq (cs,ns,os,fs,ls,ks) a b)) o d=mQ (cs,ns,os,fs,ls,ks) (bq (cs,ns,os,fs,ls,ks) a b) (aP (cs,ns,os,fs,ls,ks) (bq (cs,ns,os,fs,ls,ks) a b)) o d:=Mp.fU _ _ o d o0 o1 d0 d1;rw[this];unfold mQ;exact if_pos h
structure aGs (n:Net) (p:Plan) (o:Int):Prop where
 gs:gsF n p o=-1::Ah p o
 len:((ofF n p o).length:Int)=n.2.2.2.1.length
 at_:∀i:Int,0<=i->i<n.2.2.2.1.length->(ofF n p o).getD i.toNat 0=Ds p o i
 self:Ds p o o=0
 none_:∀i:Int,0<=i->i<n.2.2.2.1.length->i≠o->nxt p.2.2.1 o i=-1->Ds p o i=-1
 some_:∀i:Int,0<=i->i<n.2.2.2.1.length->i≠o->nxt p.2.2.1 o i≠-1->1<=Ds p o i/\Ds p o i<(gsF n p o).length/\(gsF n p o).getD (Ds p o i).toNat 0=nxt p.2.2.1 o i/\0<=nxt p.2.2.1 o i/\nxt p.2.2.1 o i<n.2.2.2.2.1.length/\cn n (nxt p.2.2.1 o i)=o
 small:(gsF n p o).length<=n.2.2.2.1.length+1
 lines:∀j:Int,1<=j->j<(gsF n p o).length->0<=(gsF n p o).getD j.toNat 0/\(gsF n p o).getD j.toNat 0<n.2.2.2.2.1.length/\cn n ((gsF n p o).getD j.toNat 0)=o/\(gsF n p o).getD (j-1).toNat 0<(gsF n p o).getD j.toNat 0/\∃i:Int,0<=i/\i<n.2.2.2.1.length/\Ds p o i=j
end Go.Eng.Sv
set_option maxRecDepth 100000
namespace Go.Eng.Sv
open Go.Proofs
theorem BA{w:List Bool}{h:Li}{d x:Int}(h1:d<=x)(h2:x<d+60)(h3:bF w h x=true): fL w h d=0/\eW w h d<=x:=by
 have hm:x∈di w h d 60:=by
  unfold di;exact xO.2 ⟨wZ.2 ⟨(x-d).toNat,qX.2 (by omega),by omega⟩,h3⟩
 have hp:(di w h d 60).Pairwise (· < ·):=by
  unfold di;exact List.Pairwise.filter _ (List.pairwise_map.2 (List.pairwise_lt_range.imp λh=>by omega))
 unfold fL eW mP;cases hl:di w h d 60 with
 | nil=>rw[hl]at hm;cases hm
 | cons y tl=>
  rw[hl]at hm hp;refine⟨rfl,?_⟩;show y<=x;rcases zJ.1 hm with rfl | hm
  .exact qL _
  .exact Int.le_of_lt ((kD.1 hp).1 x hm)
theorem Ur{c:Int×List Bool×Li}{m t D:Int}(m0:0<=m)(m1:m<=1439)(hw:bF c.2.1 c.2.2 D=true)(h1:t<=cL c.1 D m)(h2:cL c.1 D m<t+86400): ic c m t=0/\dV c m t<=cL c.1 D m:=by
 unfold cL at h1 h2;have hd:d0F c m t<=D/\D<d0F c m t+60:=by
  unfold d0F fC KC;split<;>omega
 obtain⟨g1,g2⟩:=BA hd.1 hd.2 hw;refine⟨g1,?_⟩;have e:dV c m t=cL c.1 (eW c.2.1 c.2.2 (d0F c m t)) m:=if_pos g1;rw[e];unfold cL;omega
theorem O2{c:Int×List Bool×Li}{m b D:Int}(hv:ax c.1 c.2.1 c.2.2=true)(m0:0<=m)(m1:m<=1439)(hw:bF c.2.1 c.2.2 D=true)(hb:cL c.1 D m<b): ∀(f:Nat) (t:Int),(b-t).toNat<f->b-t<=86400->t<=cL c.1 D m->cL c.1 D m∈KJ c m b f t
 | 0,t,h,_,_=>by omega
 | f+1,t,h,h2,h3=>by
  obtain⟨g1,g2⟩:=Ur m0 m1 hw h3 (by omega);obtain⟨b1,_⟩:=gK hv g1 m0 m1;rw[KJ,if_pos g1,if_pos (by omega)];by_cases he:dV c m t=cL c.1 D m
  .rw[he];exact wL
  .exact zA _ (O2 hv m0 m1 hw hb f _ (by omega) (by omega) (by omega))
theorem V5{c:Int×List Bool×Li}{m b x:Int}(hv:ax c.1 c.2.1 c.2.2=true)(m0:0<=m)(m1:m<=1439): ∀(f:Nat) (t:Int),x∈KJ c m b f t->t<=x/\x<b/\∃D,bF c.2.1 c.2.2 D=true/\x=cL c.1 D m
 | 0,t,h=>by cases h
 | f+1,t,h=>by
  rw[KJ]at h;split at h
  .rename_i he;obtain⟨b1,_⟩:=gK hv he m0 m1;split at h
   .rcases zJ.1 h with rfl | h
    .exact⟨b1,by assumption,_,(gq he).2.2,if_pos he⟩
    .obtain⟨g1,g2,g3⟩:=V5 hv m0 m1 f _ h;exact⟨by omega,g2,g3⟩
   .cases h
  .cases h
theorem UF{n:Net}{k o a b x:Int}(ho:iT n o)(hk:zv n k)(hab:a<b)(h60:b-a<=60): x∈zq n k o a b↔1440*a<=x/\x<1440*b/\∃D,bF (aj n o).2.1 (aj n o).2.2 D=true/\x=cL (aj n o).1 D (aN n k).2.1:=by
 have hv:ax (aj n o).1 (aj n o).2.1 (aj n o).2.2=true:=(dZ n.1 n.2.1 n.2.2.1 n.2.2.2.1 n.2.2.2.2.1 n.2.2.2.2.2 ho).2.2.1;obtain⟨⟨m0,m1⟩,_⟩:=lg n.1 n.2.1 n.2.2.1 n.2.2.2.1 n.2.2.2.2.1 n.2.2.2.2.2 ho.1 hk;have m0:0<=(aN n k).2.1:=m0;have m1:(aN n k).2.1<=1439:=m1;constructor
 .exact V5 hv m0 m1 _ _
 .rintro⟨h1,h2,D,hw,rfl⟩;exact O2 hv m0 m1 hw h2 _ _ (by omega) (by omega) h1
theorem aEz(l:Li): ∀{z x:Int},(x=z\/x∈l)->x<=l.foldl max z:=by
 induction l with
 | nil=>
   intro z x h;rcases h with rfl | h
   .exact qL _
   .cases h
 | cons y l ih=>
  intro z x h;rw[xQ];rcases h with rfl | h
  .exact qAv (Int.le_max_left _ _) (ih (.inl rfl))
  .rcases zJ.1 h with rfl | h
   .exact qAv (Int.le_max_right _ _) (ih (.inl rfl))
   .exact ih (.inr h)
theorem TW{n:Net}{nx:Lj}{k o d a b:Int}(h:∀x∈zq n k o a b,rN n nx k o d x=0): iI n nx k o d a b=((zq n k o a b).map (UB n nx k o d)).foldl max (-1):=by
 have:BG n nx k o d a b=0:=by
  unfold BG;refine oN λi hi=>?_
  rw[vW]at hi;rw[qA,qP,qB hi];exact h _ (wM hi)
 unfold iI NS;rw[if_pos this,xC]
theorem aAH{n:Net}{nx:Lj}{a b:Int}(hs:aO n=true)(ht:lr n nx=true)(h:0<=a/\a<b/\b<=600/\b-a<=60): DU n nx a b=(List.range n.2.2.2.2.2.length).map λk:Nat=>Vp n nx k a b:=by
 unfold DU LV;rw[if_pos (by rw[hs,ht,qV h];rfl)]
theorem Xw{n:Net}{nx:Lj}{a b k:Int}(hs:aO n=true)(ht:lr n nx=true)(h:0<=a/\a<b/\b<=600/\b-a<=60)(k0:0<=k)(k1:k<n.2.2.2.2.2.length): (DU n nx a b).getD k.toNat []=Vp n nx k a b:=by
 rw[aAH hs ht h,qA,qP,vV (by omega),zL,qQ,show((k.toNat:Nat):Int)=k by omega]
theorem RR{n:Net}{nx:Lj}{a b k o:Int}(o0:0<=o)(o1:o<n.2.2.2.1.length): (Vp n nx k a b).getD o.toNat []=Yz n nx k o a b:=by
 unfold Vp;rw[qA,qP,vV (by omega),zL,qQ,show((o.toNat:Nat):Int)=o by omega]
theorem aBA{n:Net}{nx:Lj}{a b k o d:Int}(d0:0<=d)(d1:d<n.2.2.2.1.length): (Yz n nx k o a b).getD d.toNat 0=iI n nx k o d a b:=by
 unfold Yz;rw[qA,qP,vV (by omega),zL,qQ,show((d.toNat:Nat):Int)=d by omega]
theorem NT{n:Net}{nx:Lj}{k o d a b:Int}(hx:0<=iI n nx k o d a b): ∀x∈zq n k o a b,rN n nx k o d x=0/\UB n nx k o d x<=iI n nx k o d a b:=by
 have hz:∀x∈zq n k o a b,rN n nx k o d x=0:=by
  by_cases h:BG n nx k o d a b=0
  .exact λx hx=>ko h _ (qCi hx)
  .have:iI n nx k o d a b=-1:=if_neg h;omega
 intro x h;refine⟨hz x h,?_⟩;rw[TW hz];exact aEz _ (.inr (qCi h))
theorem OY{n:Net}{nx:Lj}{k o d x:Int}(h:rN n nx k o d x=0): ig n nx o d x=0/\Ai n (pN nx) k o d x=0/\0<=KN n (pN nx) k o d x:=by
 by_cases h1:ig n nx o d x=0
 .by_cases h2:Ai n (pN nx) k o d x=0
  .rw[zp h1 h2]at h;split at h
   .cases h
   .exact⟨h1,h2,by omega⟩
  .exact absurd ((Ic h1 h2).symm.trans h) h2
 .exact absurd ((Ib h1).symm.trans h) h1
end Go.Eng.Sv
set_option maxRecDepth 100000
noncomputable section
namespace Go.Eng.Sv
open Go.Proofs
def aAE(a:Int): Prop:=0<=a/\a<=65535
def VK(n:Net)(o:Int): Int:=Int.tmod o n.2.2.2.1.length
def aC2(n:Net)(k:Int): Int:=Int.tmod k n.2.2.2.2.2.length
def Z1(f t a:Int): Int:=1440*f+Int.tmod a (1440*(t-f))
def KLR: Kt:=kOr 30 (az [.row N,.val I,.val I,.val I] (λ_=>True) λ(n,k,o,t,_)=>.tup [.dat I (Ww n k o t),.dat I (Wv n k o t)]) <|
 kOr 33 (az [.row N,.val I,.val I,.val I] (λ_=>True) λ(n,k,o,t,_)=>.tup [.dat I (Ws n k o t),.dat I (Wq n k o t)]) <|
 kOr 31 (az [.row N,.val (.sl M),.row (.pair S (.pair I (.pair I (.pair I I))))] (λ(_,dy,_)=>fitsT dy) λ(n,dy,x,_)=>.tup [.dat I (Qp n dy x),.dat I (Db n dy x)]) <|
 kOr 32 (az [.row N,.val M,.val I,.val I,.val I] (λ(_,nx,_)=>bZ nx) λ(n,nx,o,to,t,_)=>.tup [.dat (.sl Stp) (Ql n nx o to t),.dat I (Qm n nx o to t)]) KL6
theorem W7(f t k o d a:Int)(cs:LC)(ns os:LB)(fs:Lo)(ls:Ll)(ks:Lk)(hvc:
 let c15:=true->true->true;let c1:=(cs,ns,os,fs,ls,ks);let c2:=Di (ZP c1 f t);let c3:=Di c2;let c42:=c3->c3->c3;let c4:=Df ks;let c5:=Dz c2 true (Ea c4 0);let c6:=Di c5;let c43:=c6->c6->c6;let c7:=Df fs;let c8:=Dz c5 true (Ea c7 0);let c9:=Ec (rP c1 f t) 0;let c10:=1440*f;let c11:=1440*(t-f);let c12:=c10+Fp a c11;let c13:=(dP c1 f t).2.2;let c16:=Fp k c4;let c17:=Fp o c7;let c18:=Ec (Wv c1 c16 c17 c12) 0;let c19:=Di c18;let c40:=c19->c19->c19;let c20:=1440*t;let c21:=Dz c18 true (Ed (Ww c1 c16 c17 c12) c20);let c22:=Di c21;let c23:=Fp d c7;let c24:=(ByteArray.mk #[],c17,c23,c16,c12);let c25:=Dz c21 true (Ec (Db c1 c13.2 c24) 0);let c26:=Di c25;let c27:=Qm c1 c13.1 c17 c23 c12;let c28:=Dz c25 true (Ea c27 20);let c29:=Ec c27 0;let c30:=Di c29;let c31:=Ql c1 c13.1 c17 c23 c12;let c32:=Df c31;let c33:=Dz c29 true (Ea c32 0);let c34:=c32-1;let c35:=(Du c31 (Dc c34) ((0:Int),(0:Int),(0:Int),(0:Int))).2.1;let c36:=Wq c1 c16 c23 c35;let c37:=Ea c36 20;let c38:=Dk true (Di c37);let c41:=c38->c38->c38;let c39:=Ea c36 0;let c14:=Dk c38 c39->Dk c38 c39->Dk c38 c39;
 true/\((u8P k/\u8P o)/\u8P d/\aAE a->True/\True/\c42/\c42/\c42/\(Dk true c3->c3)/\c43/\c43/\c43/\(Dk true c6->c6)/\(c8->true/\True)/\(c8=false->True/\1=1/\0=0/\1=1/\0=0/\(c9->true/\True)/\(c9=false->inR .i64 o/\c7≠0/\inR .i64 d/\c7≠0/\inR .i64 k/\c4≠0/\1=1/\0=0/\inR .i64 c10/\inR .i64 a/\inR .i64 (t-f)/\inR .i64 c11/\c11≠0/\inR IntKind.i64 c12/\1=1/\1=1/\0=0/\1=1/\1=1/\0=0/\1=1/\1=1/\0=0/\1=1/\1=1/\0=0/\True/\1=1/\1=1/\0=0/\1=1/\0=0/\fitsT c13.2/\1=1/\1=1/\0=0/\1=1/\1=1/\0=0/\1=1/\1=1/\0=0/\1=1/\1=1/\0=0/\bZ c13.1/\c40/\(c19->inR .i64 c20)/\c40/\c40/\(Dk true c19->c19)/\(c22->c22->c22)/\(Dk true c22->c22)/\(c26->c26->c26)/\(Dk true c26->c26)/\(c28->true/\True)/\(c28=false->(c30->c30->c30)/\(c30->c30->c30)/\(Dk true c30->c30)/\(c33->false/\True)/\(c33=false->1=1/\1=1/\0=0/\1=1/\1=1/\0=0/\inR .i64 c34/\0<=c34/\c34<c32/\True/\c15/\c15/\c41/\c41/\c14/\c14/\c41/\(c38->Dk c38 c39->Dk c38 c39)/\c15/\(true->c38->c38)/\(Dk true true->true)/\Dz true (Dz c37 true (Dz c39 (Eh (Ws c1 c16 c23 c35) (Qp c1 c13.2 c24)) false)) false/\True)))))):
  evF (mkc KLR) aA 8 [net cs ns os fs ls ks,.dat I f,.dat I t,.dat U k,.dat U o,.dat U d,.dat (.int .u16) a] [] ⟨(u8P k/\u8P o)/\u8P d/\aAE a,.dat .bool true,[]⟩:=oE hvc
theorem aGm: ak Tryz.prog G0 KLR:=ai (ag λ((cs,ns,os,fs,ls,ks),k,o,t,_)=>t_Cut k o t cs ns os fs ls ks)<|ai (ag λ((cs,ns,os,fs,ls,ks),k,o,t,_)=>aEk k o t cs ns os fs ls ks) <|
 ai (ag λ((cs,ns,os,fs,ls,ks),dy,(x1,x2,x3,x4,x5),_)=>aEj dy x1 x2 x3 x4 x5 cs ns os fs ls ks)<|ai (ag λ((cs,ns,os,fs,ls,ks),nx,o,to,t,_)=>aAU nx o to t cs ns os fs ls ks) aGn
theorem Jp{w:List Bool}{h:Li}{d x:Int}(he:fL w h d=0)(h1:d<=x)(h2:bF w h x=true): eW w h d<=x:=by
 by_cases hx:d+60<=x
 .have:=(gq he).2.1;omega
 .exact(BA h1 (by omega) h2).2
theorem HY{c:Int×List Bool×Li}{m t u:Int}(h:t<=u)(he:ic c m t=0)(hu:ic c m u=0): dV c m t<=dV c m u:=by
 have e1:dV c m t=cL c.1 (eW c.2.1 c.2.2 (d0F c m t)) m:=if_pos he;have e2:dV c m u=cL c.1 (eW c.2.1 c.2.2 (d0F c m u)) m:=if_pos hu;have hd:d0F c m t<=d0F c m u:=by unfold d0F fC KC;split<;>split<;>omega
 obtain⟨q1,_,q3⟩:=gq hu;have:=Jp he (qAv hd q1) q3;rw[e1,e2];unfold cL;omega
theorem HE(w:List Bool)(h:Li)(d:Int): fL w h d=0\/fL w h d=20:=by unfold fL;split<;>simp
theorem VY{n:Net}{l u:Int}(h:mJ n l u=0): (0<=u/\u<=2000000)/\nL n l u=dV (aj n (cn n l)) (yp n l) u/\ic (aj n (cn n l)) (yp n l) u=0:=by
 have hk:bw u=true:=by
  cases h':bw u with
  | true=>rfl
  | false=>unfold mJ at h;rw[h']at h;cases h
 have e:mJ n l u=ic (aj n (cn n l)) (yp n l) u:=if_pos hk;exact⟨mg.1 hk,if_pos hk,by rw[<- e];exact h⟩
theorem aB7{n:Net}{l u v:Int}(h0:0<=u)(h:u<=v)(hv:mJ n l v=0): mJ n l u=20\/(mJ n l u=0/\nL n l u<=nL n l v):=by
 obtain⟨⟨v0,v1⟩,v2,v3⟩:=VY hv;have hk:bw u=true:=mg.2 (by omega);have e:mJ n l u=ic (aj n (cn n l)) (yp n l) u:=if_pos hk;rcases HE (aj n (cn n l)).2.1 (aj n (cn n l)).2.2 (d0F (aj n (cn n l)) (yp n l) u)with g | g
 .right
  have g:ic (aj n (cn n l)) (yp n l) u=0:=g;refine⟨e.trans g,?_⟩;rw[v2,(VY (e.trans g)).2.1];exact HY h g v3
 .exact .inl (e.trans g)
theorem KR(cs:LC)(ns os:LB)(fs:Lo)(ls:Ll)(ks:Lk){nx:Lj}{a b d:Int}(hu:gA (cs,ns,os,fs,ls,ks) a b=true)(ht:lr (cs,ns,os,fs,ls,ks) nx=true)(hnx:nx=BB (cs,ns,os,fs,ls,ks) (bq (cs,ns,os,fs,ls,ks) a b))(d0:0<=d)(d1:d<fs.length): ∀(m k:Nat) {o u v:Int},0<=o->o<fs.length->fs.length<=cnt (cs,ns,os,fs,ls,ks) a b o d+m->0<=u->u<=v->(iS (cs,ns,os,fs,ls,ks) nx d k o v).2=0->
  (iS (cs,ns,os,fs,ls,ks) nx d k o u).2=20\/((iS (cs,ns,os,fs,ls,ks) nx d k o u).2=0/\∃s s':Stop,(iS (cs,ns,os,fs,ls,ks) nx d k o u).1.getLast?=some s/\(iS (cs,ns,os,fs,ls,ks) nx d k o v).1.getLast?=some s'/\s.2.1<=s'.2.1/\u<=s.2.1/\s.2.1<=u+100000*m)
 | m,k,o,u,v,o0,o1,hm,u0,huv,hv=>by
  have hcn:=cnt_lt cs ns os fs ls ks (a:=a) (b:=b) (d:=d) o0 o1;by_cases h0:o=d
  .right
   rw[qa k h0,qa k h0];exact⟨rfl,_,_,rfl,rfl,huv,qL _,by show u<=u+100000*(m:Int);omega⟩
  by_cases h1:nxt nx o d=-1
  .rw[iy k h0 h1]at hv;cases hv
  by_cases h2:mJ (cs,ns,os,fs,ls,ks) (nxt nx o d) (ay (cs,ns,os,fs,ls,ks) o v)=0
  case neg=>rw[jS k h0 h1 h2]at hv;exact absurd hv h2
  have hno:=aX cs ns os fs ls ks (nZ.1 hu).2;have hr:=sW cs ns os fs ls ks (o:=o) (t:=u) ⟨hno,o0,o1⟩;have hrr:ay (cs,ns,os,fs,ls,ks) o u<=ay (cs,ns,os,fs,ls,ks) o v:=Int.add_le_add_right huv _;rcases aB7 (by omega) hrr h2 with g | ⟨g,g2⟩
  .left;rw[jS k h0 h1 (by omega)];exact g
  .cases k with
   | zero=>rw[jR h0 h1 h2]at hv;cases hv
   | succ k=>
    obtain⟨⟨l0,l1⟩,_⟩:=(i9 cs ns os fs ls ks ht o0 o1 d0 d1).2.2 h1;have hl:KD (cs,ns,os,fs,ls,ks) (nxt nx o d):=⟨hno,l0,l1⟩;obtain⟨_,_,t0,t1,_,_,tr0,tr1⟩:=wa cs ns os fs ls ks hl;obtain⟨b1,b2,b3,b4⟩:=pQ cs ns os fs ls ks hl g;have hB:0<=bB (cs,ns,os,fs,ls,ks) a b o d:=Int.not_lt.1 λhneg=>h1 (by rw[hnx];exact NR cs ns os fs ls ks o0 o1 d0 d1 (.inr hneg))
    obtain⟨i,i1,i2,i3,i4,_,i5,i6,i7⟩:=PG cs ns os fs ls ks hu o0 o1 d0 d1 h0 hB;have ei:nxt nx o d=i:=by rw[hnx];exact i1
    have hto:yo (cs,ns,os,fs,ls,ks) (nxt nx o d)=(aK (cs,ns,os,fs,ls,ks) i).2.2.1:=by rw[ei];rfl
    have hcnt:=UQ cs ns os fs ls ks (a:=a) (b:=b) (o:=o) (o':=yo (cs,ns,os,fs,ls,ks) (nxt nx o d)) (d:=d) o0 o1 (by rw[hto];omega);rw[iV k h0 h1 h2]at hv ⊢;rw[iV k h0 h1 g];have hv':(iS (cs,ns,os,fs,ls,ks) nx d k (yo (cs,ns,os,fs,ls,ks) (nxt nx o d)) (nL (cs,ns,os,fs,ls,ks) (nxt nx o d) (ay (cs,ns,os,fs,ls,ks) o v)+fY (cs,ns,os,fs,ls,ks) (nxt nx o d))).2=0:=by
     refine Decidable.byContradiction λhne=>?_
     rw[rH hne]at hv;exact hne hv
    obtain⟨m,rfl⟩:∃m',m=m'+1:=⟨m-1,by omega⟩;have ih:=KR cs ns os fs ls ks hu ht hnx d0 d1 m k (o:=yo (cs,ns,os,fs,ls,ks) (nxt nx o d)) (u:=nL (cs,ns,os,fs,ls,ks) (nxt nx o d) (ay (cs,ns,os,fs,ls,ks) o u)+fY (cs,ns,os,fs,ls,ks) (nxt nx o d)) (v:=nL (cs,ns,os,fs,ls,ks) (nxt nx o d) (ay (cs,ns,os,fs,ls,ks) o v)+fY (cs,ns,os,fs,ls,ks) (nxt nx o d)) t0 t1 (by omega) (by omega) (by omega) hv'
    rcases ih with ih | ⟨ih,s,s',s1,s2,s3,s4,s5⟩
    .left;rw[rH (by omega)];exact ih
    .right
     rw[EG ih,EG hv'];have app:∀(x:Stop) (l:List Stop) (z:Stop),l.getLast?=some z->([x]++l).getLast?=some z:=λx l z h=>by
      rw[List.getLast?_append,h];rfl
     exact⟨rfl,s,s',app _ _ _ s1,app _ _ _ s2,s3,by omega,by omega⟩
theorem KT{n:Net}{nx:Lj}{to:Int}: ∀(k:Nat) (o t:Int),(iS n nx to k o t).1.length<=k+1
 | k,o,t=>by
  by_cases h0:o=to
  .rw[qa k h0];simp
  by_cases h1:nxt nx o to=-1
  .rw[iy k h0 h1];simp
  by_cases h2:mJ n (nxt nx o to) (ay n o t)=0
  case neg=>rw[jS k h0 h1 h2];simp
  cases k with
  | zero=>rw[jR h0 h1 h2];simp
  | succ k=>
   rw[iV k h0 h1 h2];have ih:=KT (n:=n) (nx:=nx) (to:=to) k (yo n (nxt nx o to)) (nL n (nxt nx o to) (ay n o t)+fY n (nxt nx o to));unfold yg;split
   .rw[qG,vX];omega
   .exact wU _
theorem Jv{w:List Bool}{h:Li}{a x y:Int}(x0:0<=x)(y0:0<=y): di w h a (x+y)=di w h a x++di w h (a+x) y:=by
 unfold di;rw[show(x+y).toNat=x.toNat+y.toNat by omega,List.range_add,yN,yP,List.map_map]
 congr 2
 refine zY λi _=>?_
 show a+((_+i:Nat):Int)=_;omega
theorem N5{w:List Bool}{h:Li}{a n x:Int}(h1:a<=x)(h2:x<a+n)(hw:bF w h x=true): x∈di w h a n:=by
 unfold di;exact xO.2 ⟨wZ.2 ⟨(x-a).toNat,qX.2 (by omega),by omega⟩,hw⟩
theorem add_lt{w:List Bool}{h:Li}{D:Int}(hw:bF w h D=true): ∀(k:Nat) {B e:Int},C4 w h k B=some e->e<D->k+1<=(di w h (B+1) (D-B)).length
 | 0,B,e,g,hlt=>by
  cases g;exact List.length_pos_of_mem (N5 (by omega) (by omega) hw)
 | k+1,B,e,g,hlt=>by
  unfold C4 at g;obtain⟨y,g1,g2⟩:=qBs.1 g;have hm:y∈di w h (B+1) 60:=qAt (by unfold mP at g1;rw[g1];rfl);obtain⟨y1,y2,y3⟩:=oz hm;have hb:=GG k g2;have ih:=add_lt hw k g2 hlt;rw[show D-B=(y-B)+(D-y) by omega,Jv (by omega) (by omega),qG,show B+1+(y-B)=y+1 by omega];have:=List.length_pos_of_mem (N5 (a:=B+1) (n:=y-B) (x:=y) y1 (by omega) y3);omega
set_option maxHeartbeats 4000000 in
theorem aA1(f t k o d a:Int)(cs:LC)(ns os:LB)(fs:Lo)(ls:Ll)(ks:Lk): af Tryz.prog G0 8 [net cs ns os fs ls ks,.dat I f,.dat I t,.dat U k,.dat U o,.dat U d,.dat (.int .u16) a] [] ⟨(u8P k/\u8P o)/\u8P d/\aAE a,.dat .bool true,[]⟩:=by
 refine ae (c:=mkc KLR) aGm aJ hm (W7 f t k o d a cs ns os fs ls ks ⟨rfl,λhp=>?_⟩);obtain⟨n,hn⟩:∃n:Net,n=(cs,ns,os,fs,ls,ks):=⟨_,rfl⟩;simp only[<- hn];have eF:fs=n.2.2.2.1:=by rw[hn]
 have eK:ks=n.2.2.2.2.2:=by rw[hn]
 rw[eF,eK];have eA:Fp o n.2.2.2.1.length=VK n o:=rfl;have eB:Fp d n.2.2.2.1.length=VK n d:=rfl;have eC:Fp k n.2.2.2.2.2.length=aC2 n k:=rfl;have eD:1440*f+Fp a (1440*(t-f))=Z1 f t a:=rfl;have eP:((dP n f t).1,(dP n f t).2.1,(dP n f t).2.2.1,(dP n f t).2.2.2)=dP n f t:=rfl
 simp only[qc,Dk,Di,qd,Ea,Ec,Eh,Ed,Df,Dc,Du,eA,eB,eC,eD];intro⟨⟨hsm,hk0⟩,ho0⟩ hc;obtain⟨⟨⟨k0,k1⟩,o0,o1⟩,⟨d0,d1⟩,a0,a1⟩:=hp;obtain⟨hr,hs,ht,hD,_⟩:=CJ hc;obtain⟨hu,hnx,hform,hfit⟩:=UR hc;have hq:n.2.2.2.1.length<=6/\n.2.2.2.2.2.length<=3:=by
  unfold ZP smF at hsm;simp only[qC,qE]at hsm;omega
 have po0:0<=VK n o:=qCg _ o0;have po1:VK n o<n.2.2.2.1.length:=qBq _ (by omega);have pd0:0<=VK n d:=qCg _ d0;have pd1:VK n d<n.2.2.2.1.length:=qBq _ (by omega);have pk0:0<=aC2 n k:=qCg _ k0;have pk1:aC2 n k<n.2.2.2.2.2.length:=qBq _ (by omega);have pa0:1440*f<=Z1 f t a:=by have:=qCg (1440*(t-f)) a0;unfold Z1;omega
 have pa1:Z1 f t a<1440*t:=by have:=qBq a (show 0<1440*(t-f) by omega);unfold Z1;omega
 generalize VK n o=O at *;generalize VK n d=X at *;generalize aC2 n k=K at *;generalize Z1 f t a=A at *;have hno:noF n=true:=aX n.1 n.2.1 n.2.2.1 n.2.2.2.1 n.2.2.2.2.1 n.2.2.2.2.2 hs;have hoff:iT n O:=⟨hno,po0,po1⟩;have hofX:iT n X:=⟨hno,pd0,pd1⟩;have hcl:zv n K:=⟨pk0,pk1⟩;have iO:bP O n.2.2.2.1.length=true:=fN.2 ⟨po0,po1⟩;have iX:bP X n.2.2.2.1.length=true:=fN.2 ⟨pd0,pd1⟩
 have iK:bP K n.2.2.2.2.2.length=true:=fN.2 ⟨pk0,pk1⟩;have tA:bw A=true:=mg.2 (by omega);have ha:pi n K O A=true:=by unfold pi;rw[iK,iO,tA,hs];rfl
 have hwo:pn n (dP n f t).2.2.1 O X A=true:=by unfold pn;rw[iO,iX,tA,hs,ht];rfl
 have eCE:Wv n K O A=ic (aj n O) (aN n K).2.1 A:=if_pos ha;have eCD:Ww n K O A=dV (aj n O) (aN n K).2.1 A:=if_pos ha;have eWE:Qm n (dP n f t).2.2.1 O X A=ig n (dP n f t).2.2.1 O X A:=if_pos hwo;have eWL:Ql n (dP n f t).2.2.1 O X A=lj n (dP n f t).2.2.1 O X A:=if_pos hwo;rw[eCE,eCD,eWE,eWL]
 refine⟨aM (by omega),by omega,aM (by omega),by omega,aM (by omega),by omega,aM (by omega),aM (by omega),aM (by omega),aM (by omega),by omega,aM (by omega),hfit.2,hfit.1,λ_=>aM (by omega),λ⟨⟨⟨h1,h2⟩,h3⟩,h4⟩=>?_⟩;have hvO:ax (aj n O).1 (aj n O).2.1 (aj n O).2.2=true:=(dZ n.1 n.2.1 n.2.2.1 n.2.2.2.1 n.2.2.2.2.1 n.2.2.2.2.2 hoff).2.2.1
 obtain⟨⟨m0,m1⟩,v0,v1⟩:=lg n.1 n.2.1 n.2.2.1 n.2.2.2.1 n.2.2.2.2.1 n.2.2.2.2.2 hno hcl;have m0:0<=(aN n K).2.1:=m0;have m1:(aN n K).2.1<=1439:=m1;have v0:0<=(aN n K).2.2:=v0;have v1:(aN n K).2.2<=1439:=v1;obtain⟨w0,_⟩:=gK hvO h1 m0 m1;have eN:dV (aj n O) (aN n K).2.1 A=cL (aj n O).1 (eW (aj n O).2.1 (aj n O).2.2 (d0F (aj n O) (aN n K).2.1 A)) (aN n K).2.1:=if_pos h1
 obtain⟨_,_,n3⟩:=gq (w:=(aj n O).2.1) (h:=(aj n O).2.2) (d:=d0F (aj n O) (aN n K).2.1 A) h1;have hdC:ZY n (ByteArray.mk #[],O,X,K,A)=dV (aj n O) (aN n K).2.1 A:=rfl;have hdCE:zk n (ByteArray.mk #[],O,X,K,A)=0:=h1;generalize dV (aj n O) (aN n K).2.1 A=cut at *;have hin:cut∈zq n K O f t:=(UF hoff hcl hr.2.1 (by omega)).2 ⟨by omega,by omega,_,n3,eN⟩
 have hdo:FY n (dP n f t).2.2.2 (ByteArray.mk #[],O,X,K,A)=true:=by
  cases e:FY n (dP n f t).2.2.2 (ByteArray.mk #[],O,X,K,A)with
  | true=>rfl
  | false=>unfold Db at h3;rw[e]at h3;cases h3
 have hnum:¬JQ (dP n f t).2.2.2 (ByteArray.mk #[],O,X,K,A)<0:=λg=>by
  unfold Db at h3;rw[if_pos hdo,if_pos hdCE,if_pos g]at h3;cases h3
 have eNum:JQ (dP n f t).2.2.2 (ByteArray.mk #[],O,X,K,A)=iI n (dP n f t).2.2.1 K O X f t:=by
  show(((dP n f t).2.2.2.getD K.toNat []).getD O.toNat []).getD X.toNat 0=_;rw[hD,Xw hs ht (by omega) pk0 pk1,RR po0 po1,aBA pd0 pd1]
 have hAE:KQ (aj n X).2.1 (aj n X).2.2 (fC (aj n X).1 cut) (iI n (dP n f t).2.2.1 K O X f t)=0:=by
  have hx:=h3;unfold Db at hx;rw[if_pos hdo,if_pos hdCE,if_neg hnum]at hx;unfold FZ OW at hx;rw[hdC,eNum]at hx;exact hx
 have hDD:Qp n (dP n f t).2.2.2 (ByteArray.mk #[],O,X,K,A)=cL (aj n X).1 (KA (aj n X).2.1 (aj n X).2.2 (fC (aj n X).1 cut) (iI n (dP n f t).2.2.1 K O X f t)) (aN n K).2.2:=by
  unfold Qp;rw[if_pos h3];unfold OV OW;rw[hdC,eNum]
 rw[eNum]at hnum;obtain⟨z1,z2⟩:=NT (Int.not_lt.1 hnum) cut hin;obtain⟨y1,y2,y3⟩:=OY z1;rw[hDD];have hcn:n.2.2.2.1.length<=cnt n (1440*f) (1440*t) O X+6:=by omega
 have htwo:=KR n.1 n.2.1 n.2.2.1 n.2.2.2.1 n.2.2.2.2.1 n.2.2.2.2.2 hu ht hnx pd0 pd1 6 19 (u:=A) (v:=cut) po0 po1 hcn (by omega) w0 y1;rcases htwo with g | ⟨g,s,s',s1,s2,s3,s4,s5⟩
 .exact absurd g h4
 have hne:lj n (dP n f t).2.2.1 O X A≠[]:=λh=>by
  have s1:(lj n (dP n f t).2.2.1 O X A).getLast?=some s:=s1;rw[h]at s1;cases s1
 have hlen:0<(lj n (dP n f t).2.2.1 O X A).length:=qCj.2 hne;have hlast:((lj n (dP n f t).2.2.1 O X A).getD ((lj n (dP n f t).2.2.1 O X A).length-1) (0,0,0,0))=s:=by
  have s1:(lj n (dP n f t).2.2.1 O X A).getLast?=some s:=s1;rw[List.getLast?_eq_getElem?]at s1;rw[qA,s1];rfl
 have eT:rX n (pN (dP n f t).2.2.1) O X cut=s'.2.1:=by
  unfold rX;have s2:(lj n (dP n f t).2.2.1 O X cut).getLast?=some s':=s2;show((lj n (dP n f t).2.2.1 O X cut).getLastD (0,0,0,0)).2.1=_;rw[yZ,s2];rfl
 have q1:(lj n (dP n f t).2.2.1 O X A).length<=1000:=by
  have:=KT (n:=n) (nx:=(dP n f t).2.2.1) (to:=X) 19 O A;have:(lj n (dP n f t).2.2.1 O X A).length<=19+1:=this;omega
 refine⟨λh=>?_,λ_=>⟨aM (by omega),by omega,by omega,?_⟩⟩
 .exfalso;rcases h with h | h
  .exact h g
  .omega
 rw[show((lj n (dP n f t).2.2.1 O X A).length-1:Int).toNat=(lj n (dP n f t).2.2.1 O X A).length-1 by omega,hlast];have tS:bw s.2.1=true:=mg.2 (by omega);have ha2:pi n K X s.2.1=true:=by unfold pi;rw[iK,iX,tS,hs];rfl
 have eLE:Wq n K X s.2.1=ic (aj n X) (aN n K).2.2 (ay n X s.2.1):=if_pos ha2;have eLD:Ws n K X s.2.1=dV (aj n X) (aN n K).2.2 (ay n X s.2.1):=if_pos ha2;rw[eLE,eLD];rcases HE (aj n X).2.1 (aj n X).2.2 (d0F (aj n X) (aN n K).2.2 (ay n X s.2.1))with q | q
 .right
  refine⟨q,?_⟩;have hE:ic (aj n X) (aN n K).2.2 (ay n X s'.2.1)=0:=by
   have:=y2;unfold Ai aCU at this;rw[eT]at this;exact this
  have hmono:=HY (c:=aj n X) (m:=(aN n K).2.2) (t:=ay n X s.2.1) (u:=ay n X s'.2.1) (Int.add_le_add_right s3 _) q hE;refine qAv hmono ?_;have eL:dV (aj n X) (aN n K).2.2 (ay n X s'.2.1)=cL (aj n X).1 (eW (aj n X).2.1 (aj n X).2.2 (d0F (aj n X) (aN n K).2.2 (ay n X s'.2.1))) (aN n K).2.2:=if_pos hE
  obtain⟨_,_,L3⟩:=gq (w:=(aj n X).2.1) (h:=(aj n X).2.2) (d:=d0F (aj n X) (aN n K).2.2 (ay n X s'.2.1)) hE;have eD2:ZX n (pN (dP n f t).2.2.1) K X X cut=ZX n (pN (dP n f t).2.2.1) K X X cut:=rfl;have eEnd:ZX n (pN (dP n f t).2.2.1) K O X cut=dV (aj n X) (aN n K).2.2 (ay n X s'.2.1):=by
   unfold ZX aCU;rw[eT]
  generalize eW (aj n X).2.1 (aj n X).2.2 (d0F (aj n X) (aN n K).2.2 (ay n X s'.2.1))=L at *;have hday:fC (aj n X).1 (dV (aj n X) (aN n K).2.2 (ay n X s'.2.1))=L:=by
   rw[eL];unfold fC cL;omega
  have hcnt:KN n (pN (dP n f t).2.2.1) K O X cut=lZ (aj n X).2.1 (aj n X).2.2 (fC (aj n X).1 cut) L:=by
   unfold KN;rw[eEnd,hday]
  have z2:KN n (pN (dP n f t).2.2.1) K O X cut<=iI n (dP n f t).2.2.1 K O X f t:=z2;rw[hcnt]at y3 z2;unfold lZ at y3 z2;split at z2
  case isFalse h=>rw[if_neg h]at y3;omega
  rw[eL];have hle:L<=KA (aj n X).2.1 (aj n X).2.2 (fC (aj n X).1 cut) (iI n (dP n f t).2.2.1 K O X f t):=by
   unfold KQ at hAE;unfold KA;split at hAE
   case isFalse=>omega
   rename_i h200;rw[if_pos h200];cases e:C4 (aj n X).2.1 (aj n X).2.2 (iI n (dP n f t).2.2.1 K O X f t).toNat (fC (aj n X).1 cut)with
   | none=>rw[e]at hAE;simp at hAE
   | some y=>
    show L<=y;rcases Int.lt_or_le y L with g | g
    .have:=add_lt L3 _ e g;omega
    .exact g
  unfold cL;omega
 .exact .inl q
end Go.Eng.Sv
namespace Go.Eng
open Go.RowKit Go.ChangeShapes
theorem yh{H:Type}{enc:TypeId×Value->H}{P:Program}{f:Func}{s:ChangeSpec}{apart fresh handsOn again:Bool}{W W':World}{args:Array Value}{v:Value}{ds gs:List (DataW H)}{before pa pv:List MemPlace}
  (hW:DataW.Whole enc P f.params.toList s.vars apart W args.toList ds gs before) (hb:Below W.heap.size W W')
  (hres:∀(b:Nat) (sp:Nat->Bool) (hd:Bool),DataW.TrodAll enc P W' b sp hd f.resultTypes.toList (v.resultList f.resultTypes.size) (s.fn H (ds++gs)).results [])
  (hargs:∀sp:Nat->Bool,(∀p∈before,sp p.block=true)->DataW.TrodAll enc P W' 0 sp true f.params.toList args.toList (s.fn H (ds++gs)).args pa)
  (hvars:∀sp:Nat->Bool,(∀p∈before,sp p.block=true)->DataW.TrodVars enc P W' sp s.vars (s.fn H (ds++gs)).vars pv)
  (hps:before=pa++pv)
  (hok:∀(j:Nat) (t:TypeId) (r:Value),f.resultTypes[j]?=some t->(v.resultList f.resultTypes.size)[j]?=some r->Value.okWide P W' .any 0 t r):
  s.post enc P f apart fresh handsOn again W args v W':=by
 have hlt:∀p∈before,p.block<W.heap.size:=λp hp=>hW.lt p hp
 have hold:∀p∈before,(λb=>decide (b<W.heap.size)) p.block=true:=λp hp=>by simpa using hlt p hp
 refine⟨ds,gs,before,[],pa,pv,hW,hres _ _ _,hargs _ hold,hvars _ hold,hb.frame _,λ_=>?_⟩;obtain⟨_,_,_,_,_,hz,hn⟩:=hW;refine⟨hok,_,_,([]++pa)++pv,⟨[]++pa,pv,trodAll_append (hargs _ (λ_ _=>rfl)) (hres _ _ _),hvars _ (λ_ _=>rfl),rfl,?_,?_⟩,?_⟩
 .intro b off hp;have hp':MemPlace.cell b off∈before:=by rw[hps];simpa using hp
  rw[hb.frozen (hlt _ hp')];exact hz b off hp'
 .intro ha;have:=hn ha;rw[hps]at this;simpa using this
 .intro p hp _;rw[hps];simpa using hp
end Go.Eng
namespace Go.Eng
open Go.RowKit Go.ChangeShapes
def okT: (t:Ty)->t.den->Prop
 | .int k,x=>inR k x
 | .bool,_=>True
 | .str,s=>s.size<=9223372036854775807
 | .sl e,xs=>List.length xs<=9223372036854775807/\∀x∈(xs:List e.den),okT e x
 | .pair a b,x=>okT a x.1/\okT b x.2
def jN: (t:Ty)->t.den->Nat
 | .int _,_=>1
 | .bool,_=>1
 | .str,s=>s.size+1
 | .sl e,xs=>((xs:List e.den).map λx=>jN e x).sum+1
 | .pair a b,x=>jN a x.1+jN b x.2
mutual
def pU{H:Type}: DataW H->Nat
 | .lit (.string bytes)=>bytes.length+1
 | .slice elems _=>li elems+1
 | .agg parts=>li parts+1
 | _=>1
def li{H:Type}: List (DataW H)->Nat
 | []=>0
 | d::r=>pU d+li r
end
theorem Bq{H:Type}(d:DataW H): 1<=pU d:=by
 cases d with
 | lit l=>cases l<;>simp[pU]
 | _=>simp[pU]
def Jd: (a c:Ty)->a.den->c.den->(lI a c).den
 | .pair _ b,c,x,y=>(x.1,Jd b c x.2 y)
 | .int _,_,x,y=>(x,y)
 | .bool,_,x,y=>(x,y)
 | .str,_,x,y=>(x,y)
 | .sl _,_,x,y=>(x,y)
theorem A6: ∀(a c:Ty),(lI a c).sz=a.sz+c.sz
 | .pair a b,c=>by simp only[lI,Ty.sz,A6 b c];omega
 | .int _,_ | .bool,_ | .str,_ | .sl _,_=>by simp[lI,Ty.sz]
theorem A5{w:World}{D:Nat->Prop}: ∀{a c:Ty} {x:a.den} {y:c.den} {us vs:Lv},ah w D a x us->ah w D c y vs->ah w D (lI a c) (Jd a c x y) (us++vs)
 | .pair a b,c,x,y,us,vs,h1,h2=>by
  obtain⟨u1,u2,e,g1,g2⟩:=h1;subst e;exact⟨u1,u2++vs,by simp,g1,A5 g2 h2⟩
 | .int _,_,_,_,us,vs,h1,h2=>⟨us,vs,rfl,h1,h2⟩
 | .bool,_,_,_,us,vs,h1,h2=>⟨us,vs,rfl,h1,h2⟩
 | .str,_,_,_,us,vs,h1,h2=>⟨us,vs,rfl,h1,h2⟩
 | .sl _,_,_,_,us,vs,h1,h2=>⟨us,vs,rfl,h1,h2⟩
theorem Hm: ∀{a c:Ty} {x:a.den} {y:c.den},okT a x->okT c y->okT (lI a c) (Jd a c x y)
 | .pair _ _,_,_,_,h1,h2=>⟨h1.1,Hm h1.2 h2⟩
 | .int _,_,_,_,h1,h2=>⟨h1,h2⟩
 | .bool,_,_,_,h1,h2=>⟨h1,h2⟩
 | .str,_,_,_,h1,h2=>⟨h1,h2⟩
 | .sl _,_,_,_,h1,h2=>⟨h1,h2⟩
theorem vt: ∀{a c:Ty} {x:a.den} {y:c.den},jN (lI a c) (Jd a c x y)=jN a x+jN c y
 | .pair a b,c,x,y=>by
  show jN a x.1+jN (lI b c) (Jd b c x.2 y)=jN a x.1+jN b x.2+jN c y;rw[vt];omega
 | .int _,_,_,_=>rfl
 | .bool,_,_,_=>rfl
 | .str,_,_,_=>rfl
 | .sl _,_,_,_=>rfl
def fieldsB(P:Program)(T:TypeId->Option Ty): Nat->List Field->Option Ty
 | _,[]=>none
 | off,f::r=>if f.offset=off then match T f.type with
  | some a=>if P.cellsOf f.type=a.sz then match r with
   | []=>some a
   | g::r'=>match fieldsB P T (off+a.sz) (g::r')with
    | some c=>some (lI a c)
    | none=>none
   else none
  | none=>none
  else none
def tyB(P:Program): Nat->TypeId->Option Ty
 | 0,_=>none
 | n+1,t=>match P.underlying t with
  | some (.int k)=>some (.int k)
  | some .bool=>some .bool
  | some .string=>some .str
  | some (.slice e)=>match tyB P n e with
   | some ty=>if P.cellsOf e=ty.sz then some (.sl ty)else none
   | none=>none
  | some (.struct fs)=>match fieldsB P (tyB P n) 0 fs.toList with
   | some ty=>if P.cellsOf t=ty.sz then some ty else none
   | none=>none
  | _=>none
abbrev NI(w:World): Nat->Prop:=λb=>b<w.heap.size
theorem aBX{k:IntKind}{n:Int}(h:(Lit.int k n).wf=true): inR k n:=by
 simp only[Lit.wf,qC,qE]at h;cases k<;>simpa[IntKind.min,IntKind.max,IntKind.signed,IntKind.bits,inR]using h
section
variable {H:Type} {enc:TypeId×Value->H} {P:Program} {w:World}
def Opened(w:World)(ty:Ty)(cs:Lv)(n:Nat): Prop:=∃d:ty.den,ah w (NI w) ty d cs/\okT ty d/\jN ty d<=n
theorem s6{T:TypeId->Option Ty}{n:Nat}{cs:Lv}
  (hT:∀t ty,T t=some ty->∀cs x,DataW.trod enc P w 0 (λ_=>true) true n t cs=some x->Opened w ty cs (pU x.1)):
  ∀(fs:List Field) (off:Nat) (ty:Ty) (xs:List (DataW H×List MemPlace)),fieldsB P T off fs=some ty->xs.length=fs.length->
   (∀(i:Nat) (f:Field),fs[i]?=some f->DataW.trod enc P w 0 (λ_=>true) true n f.type ((cs.drop f.offset).take (P.cellsOf f.type))=xs[i]?)->
   cs.length=off+ty.sz->Opened w ty (cs.drop off) (li (xs.map (·.1)))
 | [],_,_,_,h,_,_,_=>by simp[fieldsB]at h
 | f::r,off,ty,xs,h,hl,hf,hc=>by
  rw[fieldsB.eq_2]at h;split at h
  case isFalse=>cases h
  rename_i hoff;split at h
  case h_2=>cases h
  rename_i a ha;split at h
  case isFalse=>cases h
  rename_i hsz
  match xs,hl with
  | y::ys,hl=>
   have h0:=hf 0 f rfl;simp only[qAh]at h0;rw[hoff,hsz]at h0;obtain⟨d,d1,d2,d3⟩:=hT _ _ ha _ _ h0;split at h
   .cases h;refine⟨d,?_,d2,?_⟩
    .rw[qO (by rw[vY];omega)]at d1;exact d1
    .simp only[zH,li];omega
   .rename_i g r' _;split at h
    case h_2=>cases h
    rename_i c hc';cases h;rw[A6]at hc;obtain⟨e,e1,e2,e3⟩:=s6 hT (g::r') (off+a.sz) c ys hc' (by simpa using hl) (λi f' hi=>by simpa using hf (i+1) f' (by simpa using hi)) (by omega);refine⟨Jd a c d e,?_,Hm d2 e2,?_⟩
    .have:=A5 d1 e1
     rwa [<- yG,xA]at this
    .rw[vt];simp only[zH,li];omega
theorem CP{e:Ty}(f:Nat->e.den)(D:Nat->DataW H): ∀l:List Nat,(∀i∈l,jN e (f i)<=pU (D i))->((l.map f).map λx=>jN e x).sum<=li (l.map D)
 | [],_=>by simp[li]
 | i::l,h=>by
  have h0:=h i (by simp);have h1:=CP f D l (λj hj=>h j (by simp[hj]));simp only[zH,List.sum_cons,li];omega
theorem s7: ∀(n:Nat) {t:TypeId} {ty:Ty},tyB P n t=some ty->∀(fuel:Nat) (cs:Lv) (x:DataW H×List MemPlace),
  DataW.trod enc P w 0 (λ_=>true) true fuel t cs=some x->Opened w ty cs (pU x.1)
 | 0,_,_,h,_,_,_,_=>by simp[tyB]at h
 | n+1,t,ty,h,fuel,cs,x,hx=>by
  simp only[tyB]at h;split at h
  .rename_i k hu;cases h;obtain⟨m,rfl,rfl,hw⟩:=DataW.trod_int hu hx;exact⟨m,rfl,aBX hw,Bq _⟩
  .rename_i hu;cases h;obtain⟨b,rfl,rfl⟩:=DataW.trod_bool hu hx;exact⟨b,rfl,trivial,Bq _⟩
  .rename_i hu;cases h;obtain⟨s,rfl,rfl,hs⟩:=DataW.trod_string hu hx;refine⟨s,rfl,by simpa[okT,maxLen]using hs,?_⟩;simp only[jN,pU];have:s.data.toList.length=s.size:=by rw[vI];rfl
   omega
  .rename_i e hu;split at h
   case h_2=>cases h
   rename_i ety he;split at h
   case isFalse=>cases h
   rename_i hsz;cases h;rcases Deep.open_slice hu hx with⟨rfl,rfl⟩ | ⟨a,len,cap,m,n',Dd,Pl,rfl,hb,hl,hm,hmm,rfl,hel⟩
   .exact⟨[],bm _ _ _,⟨wU _,λx hx=>by cases hx⟩,by simp[jN,pU]⟩
   .have hlm:len<=m:=by rw[hmm];simpa using hl
    haveI:Inhabited ety.den:=⟨ety.dflt⟩
    obtain⟨f,hf⟩:=Deep.choose_lt (α:=ety.den) (n:=len) (p:=λi d=>∃cs',w.cells? 0 (a.add (i*ety.sz)) ety.sz=some cs'/\ah w (NI w) ety d cs'/\okT ety d/\jN ety d<=pU (Dd i)) (λi hi=>by
     obtain⟨cs',h1,h2⟩:=hel i (by omega);rw[hsz]at h1;obtain⟨d,d1,d2,d3⟩:=s7 n he _ _ _ h2;exact⟨d,cs',h1,d1,d2,d3⟩)
    have hp:=Ty.sz_pos ety;have spot:0<len->a.spot=none/\a.block<w.heap.size:=λh0=>by
     obtain⟨cs',h1,d1,_⟩:=hf 0 h0;obtain⟨_,hcl,hcc⟩:=World.cells?_some h1;have:=hcc 0 hp;have hlt:0<cs'.length:=by omega
     rw[qB hlt]at this;simp only[yR]at this;have e0:(a.add 0).add 0=a:=by simp[Addr.add]
     rw[e0]at this;unfold World.cell? at this;split at this
     .rename_i c t' fr hc;refine⟨?_,(vK.1 hc).1⟩;split at this
      .cases this
      .rename_i hs;cases hsp:a.spot with
       | none=>rfl
       | some _=>rw[hsp]at hs;simp at hs
     .cases this
    have hlen:List.length ((List.range len).map f)=len:=by simp
    refine⟨(List.range len).map f,⟨some a,cap,by rw[hlen],by rw[hlen];exact hl,(λh=>by cases h),λa' ha' hpos=>?_,λi y hy=>?_⟩,⟨?_,λy hy=>?_⟩,?_⟩
    .cases ha';rw[hlen]at hpos;exact(spot hpos).1
    .have hi:i<len:=by
      have:=(qF.1 hy).1
      rwa [hlen]at this
     have ey:y=f i:=by
      rw[qP,vV hi]at hy;exact(wS hy).symm
     subst ey;obtain⟨cs',h1,d1,_⟩:=hf i hi;obtain⟨hsp,hbk⟩:=spot (by omega);refine⟨a,cs',rfl,hbk,λj u hj=>?_,d1⟩;obtain⟨_,hcl,hcc⟩:=World.cells?_some h1;have hjl:=(qF.1 hj).1;have:=hcc j (by omega);rw[hj,Deep.add_add]at this;have e1:a.add (i*ety.sz+j)=⟨a.block,a.off+i*ety.sz+j,none⟩:=by
      cases a with | mk b o s=>simp only at hsp;subst hsp;rw[yM,kZ]
     rw[e1]at this;exact this
    .rw[hlen];unfold maxLen at hm;omega
    .obtain⟨i,hi,rfl⟩:=wZ.1 hy;obtain⟨_,_,_,h2,_⟩:=hf i (qX.1 hi);exact h2
    .have:=CP f Dd (List.range len) (λi hi=>by
      obtain⟨_,_,_,_,h3⟩:=hf i (qX.1 hi);exact h3)
     simp only[jN,pU];omega
  .rename_i fs hu;split at h
   case h_2=>cases h
   rename_i ty' hfs;split at h
   case isFalse=>cases h
   rename_i hsz;cases h;obtain⟨xs,m,_,rfl,hcl,hxl,hf⟩:=DataW.trod_struct hu hx;obtain⟨d,d1,d2,d3⟩:=s6 (cs:=cs) (n:=m) (T:=tyB P n) (λt' ty' ht' cs' x' hx'=>s7 n ht' _ _ _ hx') fs.toList 0 ty xs hfs (by simpa using hxl)
    (λi f' hi=>hf i f' (by simpa using hi)) (by omega)
   refine⟨d,by simpa using d1,d2,?_⟩;simp only[pU];omega
  .cases h
abbrev TT:=Bool×Ty
def Wu: List TT->Type
 | []=>PUnit
 | p::r=>p.2.den×Wu r
def aCr(p:TT)(x:p.2.den): AV:=match p.1 with
 | true=>.agg (cellsOf p.2 x)
 | false=>.dat p.2 x
def avs: (l:List TT)->Wu l->List AV
 | [],_=>[]
 | p::r,x=>aCr p x.1::avs r x.2
def okL: (l:List TT)->Wu l->Prop
 | [],_=>True
 | p::r,x=>okT p.2 x.1/\okL r x.2
def U1: (l:List TT)->Wu l->Nat
 | [],_=>0
 | p::r,x=>jN p.2 x.1+U1 r x.2
def ttB(P:Program)(t:TypeId)(p:TT): Bool:=decide (tyB P 12 t=some p.2)&&(match P.underlying t with
 | some (.struct _)=>p.1
 | some (.int _) | some .bool | some .string | some (.slice _)=>!p.1
 | _=>false)
def P7(P:Program): List TypeId->List TT->Bool
 | [],[]=>true
 | t::ts,p::ps=>ttB P t p&&P7 P ts ps
 | _,_=>false
theorem open_arg{t:TypeId}{p:TT}{base:Nat}{v:Value}{d:DataW H}{ps:List MemPlace}(ht:ttB P t p=true)(hv:Value.okWide P w .any base t v)
  (h:DataW.Trod enc P w 0 (λ_=>true) true t v d ps):∃x:p.2.den,(aCr p x).rel P ⟨w,NI w,noM,noE⟩ v/\okT p.2 x/\jN p.2 x<=pU d:=by
 unfold ttB at ht;simp only[qC,qE]at ht;obtain⟨hty,hk⟩:=ht;obtain⟨fuel,hf⟩:=h;obtain⟨x,x1,x2,x3⟩:=s7 12 hty _ _ _ hf;refine⟨x,?_,x2,x3⟩;have plain:(∀cs,v≠.agg cs)->p.1=false->(aCr p x).rel P ⟨w,NI w,noM,noE⟩ v:=λhn h0=>by
  have e:v.cells.toList=[v]:=by cases v<;>first | rfl | exact(hn _ rfl).elim
  rw[e]at x1;unfold aCr;rw[h0];exact x1
 split at hk
 .rename_i fs hu;have:∃cs,v=.agg cs:=by
   unfold Value.okWide at hv;rw[hu]at hv;obtain⟨cs,e,_⟩:=hv;exact⟨cs,e⟩
  obtain⟨cs,rfl⟩:=this;unfold aCr;rw[hk];refine⟨cs.toList,rfl,b7 (C:=⟨w,NI w,noM,noE⟩) ?_⟩;exact x1
 all_goals first
  | cases hk
  | (rename_i hu
     refine plain (λcs e=>?_) (by simpa using hk);subst e;simp[Value.okWide,hu,Cell.okWide,Cell.ok]at hv)
theorem Bl: ∀{ts:List TypeId} {l:List TT} {vs:Lv} {ds:List (DataW H)} {ps:List MemPlace} {base:Nat},P7 P ts l=true->
  (∀(j:Nat) t v,ts[j]?=some t->vs[j]?=some v->Value.okWide P w .any base t v)->DataW.TrodAll enc P w 0 (λ_=>true) true ts vs ds ps->
  ∃x:Wu l,AV.relL P ⟨w,NI w,noM,noE⟩ (avs l x) vs/\okL l x/\U1 l x<=li ds
 | [],[],vs,ds,ps,base,_,_,h=>by
  obtain⟨rfl,rfl,rfl⟩:=trodAll_nil h;exact⟨PUnit.unit,rfl,trivial,wU _⟩
 | t::ts,p::l,vs,ds,ps,base,ht,hv,h=>by
  obtain⟨v,vs',d,ds',p1,q,rfl,rfl,rfl,h1,h2⟩:=trodAll_cons h;simp only[P7,qC]at ht;obtain⟨x,x1,x2,x3⟩:=open_arg ht.1 (hv 0 t v rfl rfl) h1;obtain⟨y,y1,y2,y3⟩:=Bl ht.2 (λj t' v' hj hj'=>hv (j+1) t' v' (by simpa using hj) (by simpa using hj')) h2;exact⟨(x,y),⟨v,vs',rfl,x1,y1⟩,⟨x2,y2⟩,by simp only[U1,li];omega⟩
 | [],_::_,_,_,_,_,ht,_,_=>by simp[P7]at ht
 | _::_,[],_,_,_,_,ht,_,_=>by simp[P7]at ht
theorem BS{W W':World}(hl:laidOutB P=true)(hb:Below W.heap.size W W'): ∀{ts:List TypeId} {vs:Lv} {ds:List (DataW H)} {ps:List MemPlace},
  (ts.all λt=>P.readableRec t&&decide (t<P.types.size))=true->DataW.TrodAll enc P W 0 (λ_=>true) true ts vs ds ps->(∀x∈ps,x.block<W.heap.size)->
  ∀sp:Nat->Bool,(∀x∈ps,sp x.block=true)->DataW.TrodAll enc P W' 0 sp true ts vs ds ps
 | [],vs,ds,ps,_,h,_,sp,_=>by
  obtain⟨rfl,rfl,rfl⟩:=trodAll_nil h;exact trodAll_mk0
 | t::ts,vs,ds,ps,ht,h,hlt,sp,hsp=>by
  obtain⟨v,vs',d,ds',p1,q,rfl,rfl,rfl,h1,h2⟩:=trodAll_cons h;simp only[qAj,qC,qE]at ht;have g1:=WideElems.Trod_stays (enc:=enc) (sp':=sp) hl ht.1.1 ht.1.2 h1 (λx hx=>hb.same (hlt x (qH.2 (.inl hx)))) (λx hx=>hsp x (qH.2 (.inl hx)));exact⟨p1,q,g1,BS hl hb (by simpa using ht.2) h2 (λx hx=>hlt x (qH.2 (.inr hx))) sp (λx hx=>hsp x (qH.2 (.inr hx))),rfl⟩
theorem law_contractG{G:List (Nat×AV)}{f:FuncId}{fn:Func}{s:ChangeSpec}{apart fresh handsOn again:Bool}{l:List TT}{X:Wu l->Prop}{rt:TypeId}(hf:∀x:Wu l,X x->af P G f (avs l x) [] ⟨True,.dat .bool true,[]⟩)
  (htt:P7 P fn.params.toList l=true) (hl:laidOutB P=true) (hrd:(fn.params.toList.all λt=>P.readableRec t&&decide (t<P.types.size))=true)
  (hrt:fn.resultTypes=#[rt]) (hbool:P.underlying rt=some .bool) (hvars:s.vars=[])
  {W:World} {base:Nat} {args:Array Value} {ds gs:List (DataW H)} {before:List MemPlace}
  (hspec:ds.length=l.length->s.fn H ds={results:=[.lit (.bool true)],args:=ds})
  (hval:∀(j:Nat) t v,fn.params[j]?=some t->args[j]?=some v->Value.okWide P W .any base t v)
  (hW:DataW.Whole enc P fn.params.toList s.vars apart W args.toList ds gs before)
  (hX:∀x:Wu l,okL l x->U1 l x<=li ds->X x) (hG:jX P ⟨W,NI W,noM,noE⟩ G):
  Calls P f args W λe W'=>∃v,e=.returned v/\s.post enc P fn apart fresh handsOn again W args v W':=by
 obtain⟨p,q,hA,hV,hbef,hfz,hnd⟩:=id hW;rw[hvars]at hV;obtain⟨rfl,rfl⟩:=trodVars_none hV;rw[wH]at hbef;subst hbef;have hlt:∀x∈before,x.block<W.heap.size:=λx hx=>hW.lt x hx
 obtain⟨x,x1,x2,x3⟩:=Bl (l:=l) htt (λj t v h1 h2=>hval j t v (by simpa using h1) (by simpa using h2)) hA;have hsl:∀{ts:List TypeId} {l:List TT} {vs:Lv} {ds:List (DataW H)} {p:List MemPlace},P7 P ts l=true->DataW.TrodAll enc P W 0 (λ_=>true) true ts vs ds p->ds.length=l.length:=by
  intro ts;induction ts with
  | nil=>
   intro l vs ds p ht h;obtain⟨rfl,rfl,rfl⟩:=trodAll_nil h;cases l with
   | nil=>rfl
   | cons _ _=>simp[P7]at ht
  | cons t ts ih=>
   intro l vs ds p ht h;obtain⟨v,vs',d,ds',p1,q,rfl,rfl,rfl,h1,h2⟩:=trodAll_cons h;cases l with
   | nil=>simp[P7]at ht
   | cons _ l=>
    simp only[P7,qC]at ht;simp[ih ht.2 h2]
 have hfn:=hspec (hsl htt hA);have hcall:=(hf x (hX x x2 x3)).data trivial (w:=W) (D:=NI W) (us:=args.toList) (λb hb=>hb) hG x1;refine hcall.mono λe W' he=>?_
 obtain⟨v,rfl,hb,hv⟩:=he;have hv:v=.bool true:=by simpa[AV.rel,ah]using hv
 subst hv;refine⟨_,rfl,yh (pa:=before) (pv:=[]) hW hb (λb sp hd=>?_) (λsp hsp=>?_) (λsp _=>?_) (by simp) (ok_one hrt rfl (okWide_bool_mk hbool _))⟩
 .rw[wH,hfn,hrt];exact trodAll_mk1 (shut_bool hbool true)
 .rw[wH,hfn];exact BS hl hb hrd hA hlt sp hsp
 .rw[hvars,wH,hfn];exact rfl
theorem laid_strs{n:String}{g:Nat}{ta te m:Nat}{w:World}{xs:List ByteArray}(hg:P.globalNamed n=some g)(ht:(P.globals[g]?).map (·.type)=some ta)(ha:P.underlying ta=some (.array m te))
  (he:P.underlying te=some .string) (hc:P.cellsOf te=1) (hsz:m<=9223372036854775807) (hne:0<m) {r:List (String×DataW Unit)} {ps:List MemPlace}
  (h:DataW.LaidVars P w ((n,.agg (xs.map λs=>.lit (.string s.data.toList)))::r) ps):jX P ⟨w,NI w,noM,noE⟩ [(g,.ia .str xs)]/\∃ps',DataW.LaidVars P w r ps':=by
 obtain⟨g',t',cs,fuel,p,q',hg',ht',hv,hd,hr,_⟩:=h;obtain rfl:=wS (hg.symm.trans hg');obtain rfl:=wS (ht.symm.trans ht');refine⟨λz hz=>?_,q',hr⟩;obtain rfl:=vG.1 hz;obtain⟨ys,f,rfl,hx,hlen,hm,hel⟩:=DataW.trod_array ha hd;simp only[qCb,DataW.agg.injEq]at hx;have hxl:xs.length=m:=by
  have:=yA List.length hx.1;simpa[hm]using this
 have cell:∀i (hi:i<m),∃y,xs[i]?=some y/\w.cell? ⟨g,i,none⟩=some (.string y):=by
  intro i hi;have h1:=hel i hi;rw[hc,yI,qB (by omega)]at h1;obtain⟨s,e1,e2,_⟩:=DataW.trod_string he h1;have h2:cs[i]?=some (.string s):=by
   have:=yA (·[0]?) e1;simpa[vM,qY]using this
  refine⟨s,?_,by rw[World.var?_cell hg hv];exact h2⟩;have h3:=yA (·[i]?) hx.1;simp only[qP,qB (show i<ys.length by omega),qB (show i<xs.length by omega),zL,vZ]at h3;rw[e2]at h3;simp only[DataW.lit.injEq,Lit.string.injEq]at h3;rw[qB (by omega)];have:xs[i].data=s.data:=Array.toList_inj.1 h3;cases hx':xs[i]with | mk d=>cases s with | mk d'=>rw[hx']at this;exact yA some (yA ByteArray.mk this)
 have hblk:NI w g:=by
  obtain⟨y,_,h2⟩:=cell 0 hne;show g<w.heap.size;unfold World.cell? at h2;split at h2
  .rename_i c t' fr hcc;exact(vK.1 hcc).1
  .cases h2
 refine⟨rfl,g,0,rfl,some ⟨g,0,none⟩,xs.length,by rfl,qJ _,(λh=>by cases h),λa' ha' _=>by cases ha';rfl,λi y hy=>?_⟩;have hi:=(qF.1 hy).1;obtain⟨y',e1,e2⟩:=cell i (by omega);obtain rfl:=wS (hy.symm.trans e1);refine⟨⟨g,0,none⟩,[.string y],rfl,hblk,λj u hj=>?_,rfl⟩;have:j=0:=by
  have:=(qF.1 hj).1;simp at this;omega
 subst this;obtain rfl:Value.string y=u:=by simpa using hj
 simpa[Ty.sz]using e2
end
end Go.Eng
