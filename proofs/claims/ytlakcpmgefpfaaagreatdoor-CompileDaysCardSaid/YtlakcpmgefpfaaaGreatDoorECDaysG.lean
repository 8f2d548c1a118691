/- PeIn5n PeIn5bn PeCo6n PeCo7n PeCo8n PeCo9n PeCoAn PeH19 PeH20 -/
import Derived.Test.YtlakcpmgefpfaaaGreatDoorECDaysA
import Derived.Test.YtlakcpmgefpfaaaGreatDoorECDaysB
import Derived.Test.YtlakcpmgefpfaaaGreatDoorECDaysC
import Derived.Test.YtlakcpmgefpfaaaGreatDoorECDaysD
import Derived.Test.YtlakcpmgefpfaaaGreatDoorECDaysE
import Derived.Test.YtlakcpmgefpfaaaGreatDoorECDaysF
import Derived.ChangeSame
import Derived.Carry
import Derived.Deep.Slices
import Derived.ChangeArms
import Derived.OpenShut
set_option linter.unusedSimpArgs false
set_option linter.unusedVariables false
set_option maxRecDepth 100000
noncomputable section
namespace Go.Eng.In
open Go.Proofs
def cellsD(p:Plan)(k o:Int): List Int:=(p.2.2.2.getD k.toNat []).getD o.toNat []
def jY(p:Plan)(k:Int): List (List Int):=p.2.2.2.getD k.toNat []
def runN(f:Nat->List Int->Option (List Int)): Nat->List Int->Option (List Int)
 | 0,x=>some x
 | m+1,x=>(runN f m x).bind (f m)
def aGU(n:Net)(p:Plan)(k o d:Int)(j:Nat)(xs:List Int): Option (List Int):=if aGf n p k o d ((uU n p k o).getD j 0) xs=true then some (aM5 n p o d ((uU n p k o).getD j 0) xs)else none
def aIs(n:Net)(p:Plan)(k o d:Int)(xs:List Int): Option (List Int):=if sO p k o d=-1 then some xs else runN (aGU n p k o d) (uU n p k o).length xs
def aWT(n:Net)(p:Plan)(k o:Int)(xs:List Int): Option (List Int):=runN (λd=>aIs n p k o (d:Int)) (cellsD p k o).length xs
def bBV(n:Net)(p:Plan)(k:Int)(xs:List Int): Option (List Int):=runN (λo=>aWT n p k (o:Int)) (jY p k).length xs
def st1(n:Net)(p:Plan)(l:List Int)(k:Int): Option (List Int):=runN (λk=>bBV n p (k:Int)) k.toNat l
def st2(n:Net)(p:Plan)(l:List Int)(k o:Int): Option (List Int):=(st1 n p l k).bind (runN (λo=>aWT n p k (o:Int)) o.toNat)
def st3(n:Net)(p:Plan)(l:List Int)(k o d:Int): Option (List Int):=(st2 n p l k o).bind (runN (λd=>aIs n p k o (d:Int)) d.toNat)
def st4(n:Net)(p:Plan)(l:List Int)(k o d:Int)(j:Nat): Option (List Int):=(st3 n p l k o d).bind (runN (aGU n p k o d) j)
def aKw(n:Net)(p:Plan)(l:List Int): Option (List Int):=st1 n p l p.2.2.2.length
def aT6(n:Net)(p:Plan)(l:List Int)(k:Int)(xs:List Int): Prop:=(0<=k/\k<=p.2.2.2.length)/\st1 n p l k=some xs/\jJ xs
def to2(n:Net)(p:Plan)(l:List Int)(k o:Int)(xs:List Int): Prop:=((0<=k/\k<p.2.2.2.length)/\0<=o/\o<=(jY p k).length)/\st2 n p l k o=some xs/\jJ xs
def to3(n:Net)(p:Plan)(l:List Int)(k o d:Int)(xs:List Int): Prop:=((0<=k/\k<p.2.2.2.length)/\(0<=o/\o<(jY p k).length)/\0<=d/\d<=(cellsD p k o).length)/\st3 n p l k o d=some xs/\jJ xs
def to4(n:Net)(p:Plan)(l:List Int)(k o d j:Int)(xs:List Int): Prop:=0<=j/\st4 n p l k o d j.toNat=some xs/\jJ xs
def aQh(l:List Int): Bool:=decide (l.length<=40000)
def aDp(n:Net)(l:List Int): Bool:=aKD n (aN l)&&aQh l
def bGA(n:Net)(l:List Int): Int:=if aKw n (aN l) (fD l)=some []then 0 else 190
def nV(n:Net)(l:List Int)(s:Int): Int:=if uH (l,s)=true then if usF n=true then if aDp n l=true then bGA n l else 190 else 1 else aHS (l,s)
def aZz(args:List AV)(m:Mem): Option aAb:=match args,m with
 | [.agg [.dat (.sl (.int .i64)) l,.dat (.int .i64) s]],[]=>some ⟨aJs (l,s)/\uH (l,s)=true,.tup [.agg [.dat I (aN l).1,.dat I (aN l).2.1,.dat M (aN l).2.2.1,.dat (.sl M) (aN l).2.2.2],.ptr 1 1 0 0],[(1,.var [.dat R (fD l)])]⟩
 | _,_=>none
def aWA: Kt:=kOr 71 aZz <|
 kOr 80 (aP [.ptr N] (λ(n,_)=>aEa n) λ(n,_)=>.dat .bool (usF n)) <|
 kOr 81 (aP [.ptr N,.ptr Pl] (λ(n,p,_)=>aEa n/\nxP p) λ(n,p,_)=>.dat .bool (aKD n p)) <|
 kOr 83 (aW4 1 R [.pv 1 N Pl,.val I,.val I,.val I,.val I] (λ((n,p),k,o,d,cut,_) xs=>aW1 n p k o d cut xs/\aGf n p k o d cut xs=true) (λ_ _=>.tup []) λ((n,p),k,o,d,cut,_) xs=>aM5 n p o d cut xs) bAB
def bGs: KPt:=pOr 71 (aGm [.row Ce] λ(c,_)=>⟨aJs c,uH c,jC 39 (aHS c)⟩) <|
 pOr 83 (aZD 1 R [.pv 1 N Pl,.val I,.val I,.val I,.val I] λ((n,p),k,o,d,cut,_) xs=>⟨aW1 n p k o d cut xs,aGf n p k o d cut xs,jC 39 190⟩) KPr
def KI2: FuncId->List AV->Option sV:=λf caps=>if f=151 then match ofK [.pvb N Pl,.ptr I,.ptr I] caps with
 | some ((n,p),o,k,_)=>some ⟨bDl n p k o,I,uU n p k o⟩
 | none=>none
 else KI1 f caps
def c14: Cfg:=aOh aWA (λ_=>false) bGs (λf=>f==79||f==71)
def c15: Cfg:=aVq aWA KI2 bGs (λf=>f==79||f==71||f==83)
def keep(s:St)(x:List Int): St:={mY s with mem:=aFq (s.mem.filter λb=>b.1<=2) 1 (.var [.dat R x])}
def bHy(n:Net)(l:List Int): Ann:=⟨λid s=>match id with
 | 7=>some {α:=Int×List Int,inv:=λx=>aT6 n (aN l) (fD l) x.1 x.2,st:=λx=>pX (put (mY s) [(37,.dat I x.1)]) 1 (.var [.dat R x.2]),μ:=λx=>Dc (Dh (Df (aN l).2.2.2) x.1)}
 | 10=>match s.sig.T 39 with
  | .dat (.int .i64) k=>some {α:=Int×List Int,inv:=λx=>to2 n (aN l) (fD l) k x.1 x.2,st:=λx=>pX (put (mY s) [(44,.dat I x.1)]) 1 (.var [.dat R x.2]),μ:=λx=>Dc (Dh (Df (jY (aN l) k)) x.1)}
  | _=>none
 | 13=>match s.sig.T 39,s.sig.T 46 with
  | .dat (.int .i64) k,.dat (.int .i64) o=>some {α:=Int×List Int,inv:=λx=>to3 n (aN l) (fD l) k o x.1 x.2,st:=λx=>pX (put (mY s) [(51,.dat I x.1)]) 1 (.var [.dat R x.2]),μ:=λx=>Dc (Dh (Df (cellsD (aN l) k o)) x.1)}
  | _,_=>none
 | 17=>match s.sig.T 39,s.sig.T 46,s.sig.T 53 with
  | .dat (.int .i64) k,.dat (.int .i64) o,.dat (.int .i64) d=>some {α:=Int×List Int,inv:=λx=>to4 n (aN l) (fD l) k o d x.1 x.2,st:=λx=>pX (mY s) 1 (.var [.dat R x.2]),μ:=λx=>Dc x.1}
  | _,_,_=>none
 | _=>none,λid s=>match id with
 | 3=>some (put {s with mem:=s.mem.filter λb=>b.1 != 2} [(5,.ip Pl (aN l))])
 | _=>none,λ_ _=>none⟩
set_option maxHeartbeats 4000000 in
theorem aTW(s:Int)(l:List Int)(cs:List Cal)(ns ps:List ByteArray)(os:List Off)(ls:List Line)(ks:List Cla)(hvc:
 let c1:=(cs,ns,ps,os,ls,ks);let c2:=(l,s);let c3:=uH c2;let c4:=nV c1 l s;let c5:=(aN l).1;let bK:=(aN l).2;let c7:=bK.1;let c8:=bK.2;let c9:=c8.1;let c10:=c8.2;let c11:=usF c1;let c12:=aKD c1 (aN l);let c13:=Ec c12 (Eh (Df l) 40000) false;let c14:=Df c10;
 (true/\true)/\(aMT l/\aEa c1->true/\(true->aJs c2/\(c3=false->true/\true/\(Dk false->True/\1=1/\0=0/\1=1/\0=0/\aHS c2=c4/\True)/\(Dk false=false->1=1/\0=0/\0=c4/\True)))/\((true->c3)->(aJs c2/\c3)/\1=1/\0=0/\cs=cs/\ns=ns/\ps=ps/\os=os/\ls=ls/\ks=ks/\l=l/\s=s/\c1=c1/\c2=c2/\1=1/\0=0/\0=0/\1=1/\0=0/\(c5,c7,c9,c10)=aN l/\1=1/\0=0/\0=0/\undef=undef/\undef=undef/\undef=undef/\undef=undef/\undef=undef/\undef=undef/\undef=undef/\undef=undef/\1=1/\0=0/\0=0/\c5=c5/\c7=c7/\c9=c9/\c10=c10/\1=1/\0=0/\0=0/\l=l/\s=s/\c5=c5/\c7=c7/\c9=c9/\c10=c10/\1=1/\0=0/\0=0/\c5=c5/\c7=c7/\c9=c9/\c10=c10/\1=1/\0=0/\0=0/\undef=undef/\undef=undef/\undef=undef/\undef=undef/\undef=undef/\undef=undef/\undef=undef/\undef=undef/\undef=undef/\undef=undef/\undef=undef/\undef=undef/\undef=undef/\undef=undef/\undef=undef/\undef=undef/\undef=undef/\undef=undef/\undef=undef/\undef=undef/\undef=undef/\undef=undef/\undef=undef/\undef=undef/\undef=undef/\undef=undef/\undef=undef/\undef=undef/\undef=undef/\undef=undef/\undef=undef/\undef=undef/\undef=undef/\undef=undef/\undef=undef/\undef=undef/\undef=undef/\undef=undef/\undef=undef/\undef=undef/\undef=undef/\undef=undef/\undef=undef/\undef=undef/\undef=undef/\undef=undef/\undef=undef/\undef=undef/\undef=undef/\undef=undef/\undef=undef/\undef=undef/\undef=undef/\undef=undef/\undef=undef/\undef=undef/\undef=undef/\undef=undef/\(0:Int)=(0:Int)/\fD l=fD l/\1=1/\0=0/\0=0/\aEa c1/\(true->True/\(c11=false->true/\true/\(Dk false->True/\1=1/\0=0/\1=1/\0=0/\1=c4/\True)/\(Dk false=false->1=1/\0=0/\0=c4/\True)))/\((true->c11)->(True/\c11)/\(aEa c1/\nxP (aN l))/\(c12->c12->c12)/\(c12->c12->c12)/\(c12->c12->c12)/\(Di true c12->c12)/\(true->True/\(c13=false->true/\
 true/\(Dk false->True/\1=1/\0=0/\1=1/\0=0/\190=c4/\True)/\(Dk false=false->1=1/\0=0/\0=c4/\True)))/\((true->c13)->(True/\c13)/\1=1/\1=1/\1=1/\0=0/\(∃(x:Int×List Int),let c15:=x.1;let c16:=x.2;aT6 c1 (aN l) (fD l) c15 c16/\cs=cs/\ns=ns/\ps=ps/\os=os/\ls=ls/\ks=ks/\l=l/\s=s/\c1=c1/\c2=c2/\1=1/\0=0/\0=0/\aN l=aN l/\1=1/\0=0/\0=0/\1=1/\0=0/\0=0/\1=1/\0=0/\0=0/\c5=c5/\c7=c7/\c9=c9/\c10=c10/\1=1/\0=0/\0=0/\l=l/\s=s/\c5=c5/\c7=c7/\c9=c9/\c10=c10/\1=1/\0=0/\0=0/\c5=c5/\c7=c7/\c9=c9/\c10=c10/\1=1/\0=0/\0=0/\c11=c11/\c12=c12/\c12=c12/\c13=c13/\1=1/\0=0/\0=0/\c1=c1/\aN l=aN l/\1=1/\0=0/\0=0/\c1=c1/\aN l=aN l/\1=1/\0=0/\0=0/\c10=c10/\c10=c10/\c14=c14/\0=c15/\(0:Int)=(0:Int)/\fD l=c16/\c1=c1/\aN l=aN l/\1=1/\0=0/\0=0/\1=1/\0=0/\0=0/\True)/\∀(x:Int×List Int),let c17:=x.1;let c18:=x.2;let c19:=Dp c17 c14;let c20:=Du c10 (Dc c17) (Dt (List Int));let c21:=Df c20;let c22:=Df (jY (aN l) c17);let c23:=c17+1;let c24:=Ea (Df c18) 0;aT6 c1 (aN l) (fD l) c17 c18->(c19->0<=c17/\c17<c14/\1=1/\0=0/\(∃(x:Int×List Int),let c25:=x.1;let c26:=x.2;
 to2 c1 (aN l) (fD l) c17 c25 c26/\cs=cs/\ns=ns/\ps=ps/\os=os/\ls=ls/\ks=ks/\l=l/\s=s/\c1=c1/\c2=c2/\1=1/\0=0/\0=0/\aN l=aN l/\1=1/\0=0/\0=0/\1=1/\0=0/\0=0/\1=1/\0=0/\0=0/\c20=c20/\1=1/\0=0/\0=0/\c5=c5/\c7=c7/\c9=c9/\c10=c10/\1=1/\0=0/\0=0/\l=l/\s=s/\c5=c5/\c7=c7/\c9=c9/\c10=c10/\1=1/\0=0/\0=0/\c5=c5/\c7=c7/\c9=c9/\c10=c10/\1=1/\0=0/\0=0/\c11=c11/\c12=c12/\c12=c12/\c13=c13/\1=1/\0=0/\0=0/\c1=c1/\aN l=aN l/\1=1/\0=0/\0=0/\c1=c1/\aN l=aN l/\1=1/\0=0/\0=0/\c10=c10/\c10=c10/\c14=c14/\c17=c17/\c19=c19/\c17=c17/\c20=c20/\c20=c20/\c20=c20/\c21=c21/\0=c25/\(0:Int)=(0:Int)/\c18=c26/\c1=c1/\aN l=aN l/\1=1/\0=0/\0=0/\c17=c17/\1=1/\0=0/\0=0/\True)/\∀(x:Int×List Int),let c27:=x.1;let c28:=x.2;let c29:=Dp c27 c21;let c30:=Du c20 (Dc c27) [];let c31:=Df c30;let c32:=Df (cellsD (aN l) c17 c27);let c33:=uU c1 (aN l) c17 c27;let c34:=c27+1;to2 c1 (aN l) (fD l) c17 c27 c28->(c29->0<=c27/\c27<c21/\1=1/\0=0/\(∃(x:Int×List Int),let c35:=x.1;let c36:=x.2;
 to3 c1 (aN l) (fD l) c17 c27 c35 c36/\cs=cs/\ns=ns/\ps=ps/\os=os/\ls=ls/\ks=ks/\l=l/\s=s/\c1=c1/\c2=c2/\1=1/\0=0/\0=0/\aN l=aN l/\1=1/\0=0/\0=0/\1=1/\0=0/\0=0/\1=1/\0=0/\0=0/\c20=c20/\1=1/\0=0/\0=0/\c30=c30/\1=1/\0=0/\0=0/\c5=c5/\c7=c7/\c9=c9/\c10=c10/\1=1/\0=0/\0=0/\l=l/\s=s/\c5=c5/\c7=c7/\c9=c9/\c10=c10/\1=1/\0=0/\0=0/\c5=c5/\c7=c7/\c9=c9/\c10=c10/\1=1/\0=0/\0=0/\c11=c11/\c12=c12/\c12=c12/\c13=c13/\1=1/\0=0/\0=0/\c1=c1/\aN l=aN l/\1=1/\0=0/\0=0/\c1=c1/\aN l=aN l/\1=1/\0=0/\0=0/\c10=c10/\c10=c10/\c14=c14/\c17=c17/\c19=c19/\c17=c17/\c20=c20/\c20=c20/\c20=c20/\c21=c21/\c27=c27/\c29=c29/\c27=c27/\c30=c30/\c30=c30/\c30=c30/\c31=c31/\0=c35/\(0:Int)=(0:Int)/\c28=c36/\c1=c1/\aN l=aN l/\1=1/\0=0/\0=0/\c17=c17/\c27=c27/\1=1/\0=0/\0=0/\True)/\∀(x:Int×List Int),let c37:=x.1;let c38:=x.2;let c39:=Dp c37 c31;let c40:=Du c30 (Dc c37) 0;let c41:=Ea c40 (-1);let c42:=c37+1;to3 c1 (aN l) (fD l) c17 c27 c37 c38->(c39->0<=c37/\c37<c31/\1=1/\0=0/\(c41->inR IntKind.i64 c42/\∃(y:Int×List Int),let c43:=y.1;let c44:=y.2;
 to3 c1 (aN l) (fD l) c17 c27 c43 c44/\(cs=cs/\ns=ns/\ps=ps/\os=os/\ls=ls/\ks=ks/\l=l/\s=s/\c1=c1/\c2=c2/\1=1/\0=0/\0=0/\aN l=aN l/\1=1/\0=0/\0=0/\1=1/\0=0/\0=0/\1=1/\0=0/\0=0/\c20=c20/\1=1/\0=0/\0=0/\c30=c30/\1=1/\0=0/\0=0/\c5=c5/\c7=c7/\c9=c9/\c10=c10/\1=1/\0=0/\0=0/\l=l/\s=s/\c5=c5/\c7=c7/\c9=c9/\c10=c10/\1=1/\0=0/\0=0/\c5=c5/\c7=c7/\c9=c9/\c10=c10/\1=1/\0=0/\0=0/\c11=c11/\c12=c12/\c12=c12/\c13=c13/\1=1/\0=0/\0=0/\c1=c1/\aN l=aN l/\1=1/\0=0/\0=0/\c1=c1/\aN l=aN l/\1=1/\0=0/\0=0/\c10=c10/\c10=c10/\c14=c14/\c17=c17/\c19=c19/\c17=c17/\c20=c20/\c20=c20/\c20=c20/\c21=c21/\c27=c27/\c29=c29/\c27=c27/\c30=c30/\c30=c30/\c30=c30/\c31=c31/\c42=c43/\(0:Int)=(0:Int)/\c38=c44/\c1=c1/\aN l=aN l/\1=1/\0=0/\0=0/\c17=c17/\c27=c27/\1=1/\0=0/\0=0/\True)/\Dc (c32-c43)<Dc (c32-c37))/\(c41=false->1=1/\0=0/\1=1/\0=0/\1=1/\0=0/\True/\bDl c1 (aN l) c17 c27/\(∃(x:Int×List Int),let c45:=x.1;let c46:=x.2;
 to4 c1 (aN l) (fD l) c17 c27 c37 c45 c46/\Dc c45=0/\cs=cs/\ns=ns/\ps=ps/\os=os/\ls=ls/\ks=ks/\l=l/\s=s/\c1=c1/\c2=c2/\1=1/\0=0/\0=0/\aN l=aN l/\1=1/\0=0/\0=0/\1=1/\0=0/\0=0/\1=1/\0=0/\0=0/\c20=c20/\1=1/\0=0/\0=0/\c30=c30/\1=1/\0=0/\0=0/\c40=c40/\1=1/\0=0/\0=0/\c5=c5/\c7=c7/\c9=c9/\c10=c10/\1=1/\0=0/\0=0/\l=l/\s=s/\c5=c5/\c7=c7/\c9=c9/\c10=c10/\1=1/\0=0/\0=0/\c5=c5/\c7=c7/\c9=c9/\c10=c10/\1=1/\0=0/\0=0/\c11=c11/\c12=c12/\c12=c12/\c13=c13/\1=1/\0=0/\0=0/\c1=c1/\aN l=aN l/\1=1/\0=0/\0=0/\c1=c1/\aN l=aN l/\1=1/\0=0/\0=0/\c10=c10/\c10=c10/\c14=c14/\c17=c17/\c19=c19/\c17=c17/\c20=c20/\c20=c20/\c20=c20/\c21=c21/\c27=c27/\c29=c29/\c27=c27/\c30=c30/\c30=c30/\c30=c30/\c31=c31/\c37=c37/\c39=c39/\c37=c37/\c40=c40/\c40=c40/\c40=c40/\c41=c41/\c1=c1/\aN l=aN l/\1=1/\0=0/\0=0/\c17=c17/\c27=c27/\c1=c1/\aN l=aN l/\c27=c27/\c17=c17/\(0:Int)=(0:Int)/\c38=c46/\c1=c1/\aN l=aN l/\1=1/\0=0/\0=0/\c17=c17/\c27=c27/\c37=c37/\1=1/\0=0/\0=0/\True)/\(∀(x:Int×List Int),let c47:=x.1;let c48:=x.2;let c49:=Dc c47;∀(y:Int),let c50:=aGf c1 (aN l) c17 c27 c37 y c48;to4 c1 (aN l) (fD l) c17 c27 c37 c47 c48->aA7 c33 c49 y->1=1/\0=0/\1=1/\0=0/\1=1/\0=0/\1=1/\0=0/\(true->aW1 c1 (aN l) c17 c27 c37 y c48/\(c50=false->true/\true/\(Dk false->True/\1=1/\0=0/\1=1/\0=0/\190=c4/\True)/\(Dk false=false->1=1/\0=0/\0=c4/\True)))/\((true->c50)->(aW1 c1 (aN l) c17 c27 c37 y c48/\c50)/\1=1/\∃(z:Int×List Int),let c51:=z.1;let c52:=z.2;
 to4 c1 (aN l) (fD l) c17 c27 c37 c51 c52/\Dc c51=c49+(1)/\cs=cs/\ns=ns/\ps=ps/\os=os/\ls=ls/\ks=ks/\l=l/\s=s/\c1=c1/\c2=c2/\1=1/\0=0/\0=0/\aN l=aN l/\1=1/\0=0/\0=0/\1=1/\0=0/\0=0/\1=1/\0=0/\0=0/\c20=c20/\1=1/\0=0/\0=0/\c30=c30/\1=1/\0=0/\0=0/\c40=c40/\1=1/\0=0/\0=0/\c5=c5/\c7=c7/\c9=c9/\c10=c10/\1=1/\0=0/\0=0/\l=l/\s=s/\c5=c5/\c7=c7/\c9=c9/\c10=c10/\1=1/\0=0/\0=0/\c5=c5/\c7=c7/\c9=c9/\c10=c10/\1=1/\0=0/\0=0/\c11=c11/\c12=c12/\c12=c12/\c13=c13/\1=1/\0=0/\0=0/\c1=c1/\aN l=aN l/\1=1/\0=0/\0=0/\c1=c1/\aN l=aN l/\1=1/\0=0/\0=0/\c10=c10/\c10=c10/\c14=c14/\c17=c17/\c19=c19/\c17=c17/\c20=c20/\c20=c20/\c20=c20/\c21=c21/\c27=c27/\c29=c29/\c27=c27/\c30=c30/\c30=c30/\c30=c30/\c31=c31/\c37=c37/\c39=c39/\c37=c37/\c40=c40/\c40=c40/\c40=c40/\c41=c41/\c1=c1/\aN l=aN l/\1=1/\0=0/\0=0/\c17=c17/\c27=c27/\c1=c1/\aN l=aN l/\c27=c27/\c17=c17/\(0:Int)=(0:Int)/\aM5 c1 (aN l) c27 c37 y c48=c52/\c1=c1/\aN l=aN l/\1=1/\0=0/\0=0/\c17=c17/\c27=c27/\c37=c37/\1=1/\0=0/\0=0/\True))/\∀(x:Int×List Int),let c53:=x.1;let c54:=x.2;to4 c1 (aN l) (fD l) c17 c27 c37 c53 c54->Dc c53=Dj c33->inR IntKind.i64 c42/\∃(y:Int×List Int),let c55:=y.1;let c56:=y.2;
 to3 c1 (aN l) (fD l) c17 c27 c55 c56/\(cs=cs/\ns=ns/\ps=ps/\os=os/\ls=ls/\ks=ks/\l=l/\s=s/\c1=c1/\c2=c2/\1=1/\0=0/\0=0/\aN l=aN l/\1=1/\0=0/\0=0/\1=1/\0=0/\0=0/\1=1/\0=0/\0=0/\c20=c20/\1=1/\0=0/\0=0/\c30=c30/\1=1/\0=0/\0=0/\c5=c5/\c7=c7/\c9=c9/\c10=c10/\1=1/\0=0/\0=0/\l=l/\s=s/\c5=c5/\c7=c7/\c9=c9/\c10=c10/\1=1/\0=0/\0=0/\c5=c5/\c7=c7/\c9=c9/\c10=c10/\1=1/\0=0/\0=0/\c11=c11/\c12=c12/\c12=c12/\c13=c13/\1=1/\0=0/\0=0/\c1=c1/\aN l=aN l/\1=1/\0=0/\0=0/\c1=c1/\aN l=aN l/\1=1/\0=0/\0=0/\c10=c10/\c10=c10/\c14=c14/\c17=c17/\c19=c19/\c17=c17/\c20=c20/\c20=c20/\c20=c20/\c21=c21/\c27=c27/\c29=c29/\c27=c27/\c30=c30/\c30=c30/\c30=c30/\c31=c31/\c42=c55/\(0:Int)=(0:Int)/\c54=c56/\c1=c1/\aN l=aN l/\1=1/\0=0/\0=0/\c17=c17/\c27=c27/\1=1/\0=0/\0=0/\True)/\Dc (c32-c55)<Dc (c32-c37)))/\(c39=false->inR IntKind.i64 c34/\∃(y:Int×List Int),let c57:=y.1;let c58:=y.2;to2 c1 (aN l) (fD l) c17 c57 c58/\(cs=cs/\ns=ns/\ps=ps/\os=os/\ls=ls/\ks=ks/\l=l/\s=s/\c1=c1/\c2=c2/\1=1/\0=0/\0=0/\aN l=aN l/\1=1/\0=0/\0=0/\1=1/\0=0/\0=0/\1=1/\0=0/\0=0/\c20=c20/\1=1/\0=0/\0=0/\c5=c5/\c7=c7/\c9=c9/\c10=c10/\1=1/\0=0/\0=0/\l=l/\s=s/\c5=c5/\c7=c7/\c9=c9/\c10=c10/\1=1/\0=0/\0=0/\c5=c5/\c7=c7/\c9=c9/\c10=c10/\1=1/\0=0/\0=0/\c11=c11/\c12=c12/\c12=c12/\c13=c13/\1=1/\0=0/\0=0/\c1=c1/\aN l=aN l/\1=1/\0=0/\0=0/\c1=c1/\aN l=aN l/\1=1/\0=0/\0=0/\c10=c10/\c10=c10/\c14=c14/\c17=c17/\c19=c19/\c17=c17/\c20=c20/\c20=c20/\c20=c20/\c21=c21/\c34=c57/\(0:Int)=(0:Int)/\c38=c58/\c1=c1/\aN l=aN l/\1=1/\0=0/\0=0/\c17=c17/\1=1/\0=0/\0=0/\True)/\Dc (c22-c57)<Dc (c22-c27)))/\(c29=false->inR IntKind.i64 c23/\∃(y:Int×List Int),let c59:=y.1;let c60:=y.2;
 aT6 c1 (aN l) (fD l) c59 c60/\(cs=cs/\ns=ns/\ps=ps/\os=os/\ls=ls/\ks=ks/\l=l/\s=s/\c1=c1/\c2=c2/\1=1/\0=0/\0=0/\aN l=aN l/\1=1/\0=0/\0=0/\1=1/\0=0/\0=0/\1=1/\0=0/\0=0/\c5=c5/\c7=c7/\c9=c9/\c10=c10/\1=1/\0=0/\0=0/\l=l/\s=s/\c5=c5/\c7=c7/\c9=c9/\c10=c10/\1=1/\0=0/\0=0/\c5=c5/\c7=c7/\c9=c9/\c10=c10/\1=1/\0=0/\0=0/\c11=c11/\c12=c12/\c12=c12/\c13=c13/\1=1/\0=0/\0=0/\c1=c1/\aN l=aN l/\1=1/\0=0/\0=0/\c1=c1/\aN l=aN l/\1=1/\0=0/\0=0/\c10=c10/\c10=c10/\c14=c14/\c23=c59/\(0:Int)=(0:Int)/\c28=c60/\c1=c1/\aN l=aN l/\1=1/\0=0/\0=0/\1=1/\0=0/\0=0/\True)/\Dc (c14-c59)<Dc (c14-c17)))/\(c19=false->1=1/\1=1/\1=1/\0=0/\(true->True/\(c24=false->true/\true/\(Dk false->True/\1=1/\0=0/\1=1/\0=0/\190=c4/\True)/\(Dk false=false->1=1/\0=0/\0=c4/\True)))/\((true->c24)->(True/\c24)/\1=1/\0=0/\true/\true/\(Dk true->False)/\(Dk true=false->1=1/\0=0/\0=c4/\True)))))))):
  evR c15 aWA aQ (bHy (cs,ns,ps,os,ls,ks) l) aQ 26 [.agg [.dat (.sl C) cs,.dat (.sl S) ns,.dat (.sl S) ps,.dat (.sl Of) os,.dat (.sl Ln) ls,.dat (.sl Kl) ks],.agg [.dat R l,.dat I s]] ⟨aMT l/\aEa (cs,ns,ps,os,ls,ks),.dat I (nV (cs,ns,ps,os,ls,ks) l s),[]⟩:=@of_eq _ _ (by kernel_rfl) hvc
theorem aVb: ∀args m c,aZz args m=some c->aB Tryz.prog jW 71 args m c:=by
 intro args m c h;unfold aZz at h;split at h
 .cases h;exact(aWM _ _).1
 .cases h
theorem aXt: aI Tryz.prog jW aWA:=aH aVb<|aH (aC λ(n,_)=>bHg n)<|aH (aC λ(n,p,_)=>bFr n p)<|aH (aDg λ((n,p),k,o,d,cut,_) xs=>(aPZ n p k o d cut xs).1) aXu
theorem bAx: fC Tryz.prog jW bGs:=rC (sQ λ(c,_)=>(aWM c.2 c.1).2)<|rC (aFr λ((n,p),k,o,d,cut,_) xs=>(aPZ n p k o d cut xs).2) aNq
theorem bHH: dI Tryz.prog jW KI2:=by
 intro f caps it h;unfold KI2 at h;split at h
 .rename_i e;subst e;split at h
  .rename_i n p o k _ hx;cases h;exact aBG.args (bCj n p k o) λC us hu=>lQ hx hu
  .cases h
 .exact bEu f caps it h
end Go.Eng.In
set_option maxRecDepth 100000
namespace Go.Eng.In
open Go.Proofs
theorem aGQ{l:List Int}(hl:jJ l)(h:aCg l=true): (0<=l.getD 2 0/\l.getD 2 0<=12)/\(0<=l.getD 3 0/\l.getD 3 0<=4)/\0<=l.getD 0 0/\l.getD 0 0<l.getD 1 0/\l.getD 1 0<=600:=by
 have bd:∀k:Nat,0<=l.getD k 0:=λk=>by
  by_cases hk:k<l.length
  .exact(jS.1 hl.1 _ (bT hk)).1
  .rw[qA,zD (by omega)];exact qL _
 unfold aCg aFb at h;simp only[qC,qE]at h;exact⟨⟨bd 2,h.1.2.1⟩,⟨bd 3,h.1.2.2.1⟩,bd 0,h.1.2.2.2.1,h.1.2.2.2.2.2⟩
theorem aFY(g:Int->Int->Int)(n:Int): (jD g n).length=n.toNat:=by unfold jD;simp
theorem aCZ{g:Int->Int->Int}{n:Int}{r:List Int}(h:r∈jD g n): r.length=n.toNat/\∀x∈r,∃i j,x=g i j:=by
 unfold jD at h;obtain⟨i,_,rfl⟩:=wO.1 h;refine⟨by simp,λx hx=>?_⟩
 obtain⟨j,_,rfl⟩:=wO.1 hx;exact⟨_,_,rfl⟩
theorem aWm{g:Int->Int->Int}{n i j:Int}(hi:0<=i/\i<n)(hj:0<=j/\j<n): ((jD g n).getD i.toNat []).getD j.toNat 0=g i j:=by
 unfold jD;have e1:i.toNat<n.toNat:=by omega
 have e2:j.toNat<n.toNat:=by omega
 have e:((List.range n.toNat).map λi:Nat=>(List.range n.toNat).map λj:Nat=>g i j).getD i.toNat []=(List.range n.toNat).map λj:Nat=>g (i.toNat:Nat) j:=by
  rw[qA,qP,vX e1];rfl
 rw[e,qA,qP,vX e2,vC hi.1];show g i (j.toNat:Nat)=_;rw[vC hj.1]
theorem bBS{l:List Int}(hl:jJ l)(m i j:Int): -1<=tg l m i j:=by
 unfold tg;have:0<=l.getD (i*m+j).toNat 0:=by
  by_cases hk:(i*m+j).toNat<l.length
  .exact(jS.1 hl.1 _ (bT hk)).1
  .rw[qA,zD (by omega)];exact qL _
 omega
theorem aT7{q m:Int}{l:List Int}{t:List (List Int)}(h:t∈aGe q m l): ∃k,t=aAR m (fB l k):=by
 unfold aGe at h;obtain⟨i,_,rfl⟩:=wO.1 h;exact⟨_,rfl⟩
theorem aT8(q m:Int)(l:List Int): (aGe q m l).length=q.toNat:=by unfold aGe;simp
theorem aZx{l:List Int}(hl:jJ l)(h:aCg l=true): nxP (aN l):=by
 obtain⟨⟨m0,m1⟩,_⟩:=aGQ hl h;refine⟨?_,λr hr=>?_⟩
 .show(jD _ _).length<=_;rw[aFY];omega
 .obtain⟨h1,h2⟩:=aCZ hr;refine⟨by omega,λx hx=>?_⟩
  obtain⟨i,j,rfl⟩:=h2 x hx;exact bBS (lS hl 4) _ _ _
theorem aU4{n:Net}{l:List Int}(hl:jJ l)(h:aCg l=true)(hf:aKD n (aN l)=true): plP n (aN l):=by
 obtain⟨⟨m0,m1⟩,⟨q0,q1⟩,a0,a1,a2⟩:=aGQ hl h;unfold aKD at hf;simp only[qC,qE,qM,vN]at hf;obtain⟨⟨f1,f2⟩,f3⟩:=hf;have e1:(aN l).2.2.1.length=(l.getD 2 0).toNat:=aFY _ _;have e2:(aN l).2.2.2.length=(l.getD 3 0).toNat:=aT8 _ _ _;refine⟨⟨a0,by show l.getD 0 0<=l.getD 1 0;omega,a2⟩,⟨f1,λr hr=>?_⟩,λi j hi hj=>?_,f2,λt ht=>?_⟩
 .have h1:=(aCZ hr).1;omega
 .obtain⟨i0,i1⟩:=hi;obtain⟨j0,j1⟩:=hj;have hi2:i<l.getD 2 0:=by omega
  have hj2:j<l.getD 2 0:=by omega
  have ec:cellAt (aN l) i j=tg (fB l 4) (l.getD 2 0) i j:=aWm ⟨i0,hi2⟩ ⟨j0,hj2⟩;have:=f3 i.toNat (by omega)
  unfold aBX at this;rw[qM,vC i0]at this;have hr:=(aCZ (g:=tg (fB l 4) (l.getD 2 0)) (n:=l.getD 2 0) (r:=(aN l).2.2.1.getD i.toNat []) (bT (by omega:i.toNat<(aN l).2.2.1.length))).1
  refine⟨this _ (bT (by omega)),?_⟩
  rw[ec];exact bBS (lS hl 4) _ _ _
 .obtain⟨k,rfl⟩:=aT7 ht;have e:(aAR (l.getD 2 0) (fB (fB l (4+l.getD 2 0*l.getD 2 0)) k)).length=(l.getD 2 0).toNat:=aFY _ _;refine⟨by omega,λr hr=>?_⟩
  have:=(aCZ hr).1;omega
theorem aCv{f:Nat->List Int->Option (List Int)}{m:Nat}{x:List Int}(h:runN f m x=none): ∀{k:Nat},m<=k->runN f k x=none:=by
 intro k hk;induction hk with
 | refl=>exact h
 | step _ ih=>rw[runN,ih];rfl
theorem aBC{α:Type}(x:Option α): (x.bind λy=>some y)=x:=by cases x<;>rfl
theorem bind_none{α:Type}{x:Option α}{f g:α->Option α}(h:x.bind f=none)(hg:∀y,f y=none->g y=none): x.bind g=none:=by
 cases x with
 | none=>rfl
 | some y=>exact hg y h
section
variable {n:Net} {p:Plan} {l:List Int} {k o d:Int}
theorem aUB: st2 n p l k 0=st1 n p l k:=aBC _
theorem aUy: st3 n p l k o 0=st2 n p l k o:=aBC _
theorem aUv: st4 n p l k o d 0=st3 n p l k o d:=aBC _
theorem aMq(k0:0<=k): st1 n p l (k+1)=st2 n p l k (jY p k).length:=by
 unfold st2;rw[vO];show runN _ (k+1).toNat l=_;rw[show(k+1).toNat=k.toNat+1 by omega,runN,vC k0];rfl
theorem aMp(o0:0<=o): st2 n p l k (o+1)=st3 n p l k o (cellsD p k o).length:=by
 unfold st3 st2;rw[vO,show(o+1).toNat=o.toNat+1 by omega,qCr]
 congr 1
 funext x
 rw[runN,vC o0];rfl
theorem aUz(d0:0<=d)(h:sO p k o d=-1): st3 n p l k o (d+1)=st3 n p l k o d:=by
 unfold st3;rw[show(d+1).toNat=d.toNat+1 by omega]
 congr 1
 funext x
 rw[runN,vC d0,show aIs n p k o d=λxs=>some xs from funext λxs=>if_pos h]
 exact aBC _
theorem aMo(d0:0<=d)(h:sO p k o d≠-1): st3 n p l k o (d+1)=st4 n p l k o d (uU n p k o).length:=by
 unfold st4 st3;rw[show(d+1).toNat=d.toNat+1 by omega,qCr]
 congr 1
 funext x
 rw[runN,vC d0,show aIs n p k o d=λxs=>runN (aGU n p k o d) (uU n p k o).length xs from funext λxs=>if_neg h]
theorem aUw(j:Nat): st4 n p l k o d (j+1)=(st4 n p l k o d j).bind (aGU n p k o d j):=by
 unfold st4;rw[qCr];rfl
theorem aUD{k':Int}(h:st1 n p l k=none)(hk:k<=k'): st1 n p l k'=none:=aCv h (by omega)
theorem aUC{o':Int}(h:st2 n p l k o=none)(hk:o<=o'): st2 n p l k o'=none:=bind_none h λy hy=>aCv hy (by omega)
theorem aUA{d':Int}(h:st3 n p l k o d=none)(hk:d<=d'): st3 n p l k o d'=none:=bind_none h λy hy=>aCv hy (by omega)
theorem aUx{j j':Nat}(h:st4 n p l k o d j=none)(hk:j<=j'): st4 n p l k o d j'=none:=bind_none h λy hy=>aCv hy hk
theorem aY5{j:Nat}(h:st4 n p l k o d j=none)(hj:j<=(uU n p k o).length)(hd:sO p k o d≠-1)(d0:0<=d)(d1:d<(cellsD p k o).length)(o0:0<=o)(o1:o<(jY p k).length)(k0:0<=k)(k1:k<p.2.2.2.length): aKw n p l=none:=by
 have h1:=aUx h hj;rw[<- aMo d0 hd]at h1;have h2:=aUA h1 (d':=(cellsD p k o).length) (by omega)
 rw[<- aMp o0]at h2;have h3:=aUC h2 (o':=(jY p k).length) (by omega)
 rw[<- aMq k0]at h3;exact aUD h3 (by omega)
end
theorem aY4(s:Int)(l:List Int)(cs:List Cal)(ns ps:List ByteArray)(os:List Off)(ls:List Line)(ks:List Cla): aB Tryz.prog jW 26 [.agg [.dat (.sl C) cs,.dat (.sl S) ns,.dat (.sl S) ps,.dat (.sl Of) os,.dat (.sl Ln) ls,.dat (.sl Kl) ks],.agg [.dat R l,.dat I s]] [] ⟨aMT l/\aEa (cs,ns,ps,os,ls,ks),.dat I (nV (cs,ns,ps,os,ls,ks) l s),[]⟩:=by
 refine aDD (c:=c15) aXt aXt bHH hm bAx (aTW s l cs ns ps os ls ks ⟨⟨rfl,rfl⟩,λhp=>?_⟩)
 simp only[qc,Di,Es,Dk,qd,Dt,Ea,Eb,Dp,Ei,Eh,Ed,Ew,Df,Et,Dl,Dn,Eo,Dy,Dw,Dh,Dq,Ee,Fg,Dc,Dx,Dj,Dz,Ej,Du,Eu,Ez,En,Ef,Fe,Fj,Fh,Ep,Em,Ey,Fb];obtain⟨hl,hn⟩:=hp;generalize (cs,ns,ps,os,ls,ks)=n at hn ⊢;have two:∀{p q:Prop},p->(p/\(false=true->q)):=λh=>⟨h,λh=>by cases h⟩
 have eF:nV n l s=if uH (l,s)=true then if usF n=true then if aDp n l=true then bGA n l else 190 else 1 else aHS (l,s):=rfl
 refine⟨⟨hl,λh=>two (by rw[eF,if_neg (by rw[h];exact Bool.noConfusion)])⟩,λh1=>⟨⟨hl,h1⟩,hn,λh=>two (by rw[eF,if_pos h1,if_neg (by rw[h];exact Bool.noConfusion)]),λh2=>?_⟩⟩
 have hs:jX l s=true/\aCg l=true:=by
  unfold uH at h1
  rwa [qC]at h1
 have hnum:jJ l:=⟨by have:=hs.1;unfold jX at this;rw[qC]at this;exact this.1,hl⟩
 have hnx:=aZx hnum hs.2;refine⟨h2,⟨hn,hnx⟩,λh=>two ?_,λh3=>⟨h3,?_⟩⟩
 .have:aDp n l=false:=by
   unfold aDp aQh;cases e:aKD n (aN l)with
   | false=>rfl
   | true=>rw[vG (by have:=h e;omega)];rfl
  rw[eF,if_pos h1,if_pos h2,if_neg (by rw[this];exact Bool.noConfusion)]
 have hfa:aDp n l=true:=by
  unfold aDp aQh;rw[h3.1,qW (by have:=h3.2;omega)];rfl
 have hpl:=aU4 hnum hs.2 h3.1;have eC:nV n l s=if aKw n (aN l) (fD l)=some []then 0 else 190:=by rw[eF,if_pos h1,if_pos h2,if_pos hfa];rfl
 have hrest:jJ (fD l):=lS hnum _;obtain⟨p,ep⟩:∃p,p=aN l:=⟨_,rfl⟩;obtain⟨r,er⟩:∃r,r=fD l:=⟨_,rfl⟩;rw[<- ep]at hpl;rw[<- er]at hrest;rw[eC];rw[<- ep,<- er];clear eC eF hnx hfa h3 hs h1;obtain⟨⟨p0,p1,p2⟩,⟨q1,q2⟩,q3,q4,q5⟩:=id hpl;have eRow:∀k:Int,p.2.2.2.getD k.toNat []=jY p k:=λ_=>rfl
 have eCel:∀k o:Int,(jY p k).getD o.toNat []=cellsD p k o:=λ_ _=>rfl
 have eDay:∀k o d:Int,(cellsD p k o).getD d.toNat 0=sO p k o d:=λ_ _ _=>rfl
 simp only[eRow,eCel,eDay];have hu:usP n:=⟨h2,hn⟩;have hno:n.2.2.2.1.length<=2000000000000000:=hn.1.1.2;have hnk:n.2.2.2.2.2.length<=2000000000000000:=hn.2;refine⟨⟨(0,r),⟨⟨qL _,qR _⟩,rfl,hrest⟩,rfl,rfl⟩,λ⟨k,xs⟩ ⟨⟨k0,k1⟩,kx,kn⟩=>⟨λhk=>?_,λhk=>?_⟩⟩
 .have hk:k<p.2.2.2.length:=hk;have hrw:(jY p k).length=n.2.2.2.1.length/\∀r∈jY p k,r.length=n.2.2.2.1.length:=q5 _ (bT (by omega))
  refine⟨k0,hk,⟨(0,xs),⟨⟨⟨k0,hk⟩,qL _,qR _⟩,by rw[aUB];exact kx,kn⟩,rfl,rfl⟩,λ⟨o,ys⟩ ⟨⟨_,o0,o1⟩,ox,on⟩=>⟨λho=>?_,λho=>?_⟩⟩
  .have ho:o<(jY p k).length:=ho;have hcl:(cellsD p k o).length=n.2.2.2.1.length:=hrw.2 _ (bT (by omega))
   refine⟨o0,ho,⟨(0,ys),⟨⟨⟨k0,hk⟩,⟨o0,ho⟩,qL _,qR _⟩,by rw[aUy];exact ox,on⟩,rfl,rfl⟩,λ⟨d,zs⟩ ⟨⟨_,_,d0,d1⟩,dx,dn⟩=>⟨λhd=>?_,λhd=>?_⟩⟩
   .have hd:d<(cellsD p k o).length:=hd;have d0:0<=d:=d0;have offO:tH n o:=⟨o0,by show o<_;omega⟩
    have offD:tH n d:=⟨d0,by omega⟩
    have cla:aWf n k:=⟨k0,by show k<_;omega⟩
    refine⟨d0,hd,λhm1=>⟨aT (by omega),⟨(d+1,zs),⟨⟨⟨k0,hk⟩,⟨o0,ho⟩,by show 0<=d+1;omega,by show d+1<=_;omega⟩,by rw[aUz d0 hm1];exact dx,dn⟩,⟨rfl,rfl⟩,by show(_-(d+1)).toNat<_;omega⟩⟩,λhm1=>⟨⟨⟨hu,hpl⟩,offO,cla⟩,⟨(0,zs),⟨qL _,by show st4 n p r k o d 0=_;rw[aUv];exact dx,dn⟩,rfl,rfl⟩,λ⟨j,us⟩ y ⟨j0,jx,jn⟩ hy=>?_,λ⟨j,us⟩ ⟨j0,jx,jn⟩ hj=>?_⟩⟩
    .have hy:(uU n p k o)[j.toNat]?=some y:=hy;obtain⟨jl,_⟩:=qG.1 hy;have hyd:(uU n p k o).getD j.toNat 0=y:=by rw[qA,hy];rfl
     have hin:aFT p y=true:=by
      have:=zH hy;unfold uU at this;exact(xR.1 this).2
     have hin2:1440*p.1<=y/\y<1440*p.2.1:=by
      unfold aFT at hin
      rwa [qC,qE,qE]at hin
     have hf:aM6 n p o d y us:=⟨⟨⟨hu,hpl⟩,offO,offD⟩,⟨by omega,by omega⟩,jn⟩
     have jx:st4 n p r k o d j.toNat=some us:=jx;have ju:st4 n p r k o d (j.toNat+1)=if aGf n p k o d y us=true then some (aM5 n p o d y us)else none:=by
      rw[aUw,jx];show aGU n p k o d j.toNat us=_;unfold aGU;rw[hyd]
     refine⟨⟨⟨hf,cla⟩,λhno=>two ?_⟩,λhok=>⟨⟨⟨hf,cla⟩,hok⟩,⟨(j+1,aM5 n p o d y us),⟨by show 0<=j+1;have:0<=j:=j0;omega,by rw[show((j+1,aM5 n p o d y us).1).toNat=j.toNat+1 by show(j+1).toNat=_;have:0<=j:=j0;omega,ju,if_pos hok],(aLJ 19 hf).2⟩,by show(j+1).toNat=_;have:0<=j:=j0;omega,rfl⟩⟩⟩
     rw[if_neg (by rw[hno];exact Bool.noConfusion)]at ju
     rw[aY5 ju (by omega) hm1 d0 hd o0 ho k0 hk]
     exact(if_neg (λh=>by cases h)).symm
    .have hj:j.toNat=(uU n p k o).length:=hj;have jx:st4 n p r k o d j.toNat=some us:=jx;refine⟨aT (by omega),⟨(d+1,us),⟨⟨⟨k0,hk⟩,⟨o0,ho⟩,by show 0<=d+1;omega,by show d+1<=_;omega⟩,by rw[aMo d0 hm1,<- hj];exact jx,jn⟩,⟨rfl,rfl⟩,by show(_-(d+1)).toNat<_;omega⟩⟩
   .have d1:d<=(cellsD p k o).length:=d1;have hd:¬d<(cellsD p k o).length:=hd;have de:d=(cellsD p k o).length:=by omega
    have o0:0<=o:=o0;refine⟨aT (by omega),⟨(o+1,zs),⟨⟨⟨k0,hk⟩,by show 0<=o+1;omega,by show o+1<=_;omega⟩,by rw[aMp o0,<- de];exact dx,dn⟩,⟨rfl,rfl⟩,by show(_-(o+1)).toNat<_;omega⟩⟩
  .have o1:o<=(jY p k).length:=o1;have ho:¬o<(jY p k).length:=ho;have oe:o=(jY p k).length:=by omega
   have k0:0<=k:=k0;refine⟨aT (by omega),⟨(k+1,ys),⟨⟨by show 0<=k+1;omega,by show k+1<=_;omega⟩,by rw[aMq k0,<- oe];exact ox,on⟩,⟨rfl,rfl⟩,by show(_-(k+1)).toNat<_;omega⟩⟩
 .have k1:k<=p.2.2.2.length:=k1;have hk:¬k<p.2.2.2.length:=hk;have ke:k=p.2.2.2.length:=by omega
  have ka:aKw n p r=some xs:=by unfold aKw;rw[<- ke];exact kx
  rw[ka];have xl:∀xs:List Int,(some xs=some [])↔xs.length=0:=λxs=>by
   rw[vZ,List.length_eq_zero_iff]
  refine⟨λh=>two ?_,λh=>⟨h,(λh=>by cases h),?_⟩⟩
  .have h:(xs.length:Int)≠0:=h;rw[if_neg (by rw[xl];omega)]
  .have h:(xs.length:Int)=0:=h;rw[if_pos (by rw[xl];omega)]
end Go.Eng.In
set_option maxRecDepth 100000
noncomputable section
namespace Go.Eng.Sv
open Go.Proofs
def p0F(a b:Int): Plan:=(a,b,[],[])
def p1F(n:Net)(a b:Int): Plan:=aZ8 n (p0F a b)
def p2F(n:Net)(a b:Int): Plan:=aZ9 n (p1F n a b)
def aOI(n:Net)(a b:Int): Nat->Plan
 | 0=>p0F a b
 | 1=>p0F a b
 | 2=>p1F n a b
 | 3=>p1F n a b
 | _=>p2F n a b
def aOQ(n:Net)(a b:Int): Nat->tN
 | 5=>(wrN n (p2F n a b),wrS n (p2F n a b))
 | _=>([],0)
def aEs(n:Net)(a b:Int): Int:=if aNj n (p0F a b)≠0 then aNj n (p0F a b)else if aCs n (p1F n a b)≠0 then aCs n (p1F n a b)else wrE n (p2F n a b)
def aCb(n:Net)(a b:Int): Plan:=if aEs n a b=0 then p2F n a b else(0,0,[],[])
def aNh(n:Net)(a b:Int): tN:=if aEs n a b=0 then(wrN n (p2F n a b),wrS n (p2F n a b))else([],0)
def aCU(n:Net)(a b:Int)(j:Nat): Prop:=j<=5/\(1<=j->aNj n (p0F a b)=0)/\(3<=j->aCs n (p1F n a b)=0)/\(5<=j->wrE n (p2F n a b)=0)
def bGw: Kt:=kOr 38 (cK (λ_ _=>True) aNj λ_ p c=>(p,c)) <|
 kOr 39 (cK (λ_ p=>bDn p) (λ_ _=>0) λn p c=>(aZ8 n p,c)) <|
 kOr 40 (cK aGD aCs λ_ p c=>(p,c)) <|
 kOr 41 (cK (λ_ p=>gZ p.2.2.1) (λ_ _=>0) λn p c=>(aZ9 n p,c)) <|
 kOr 42 (cK (λ_ p=>mZ p) wrE λn p _=>(p,(wrN n p,wrS n p))) KC9
def cComp: Cfg:=mkp bGw (λt=>t==19) Go.Eng.noP (λ_=>false)
def bDq(n:Net)(a b:Int): Ann:=⟨λid s=>match id with
 | 4=>some {α:=Nat,inv:=λj=>aCU n a b j,st:=λj=>pX (put s [(28,.dat I (Int.ofNat j))]) 2 (.var (aSe n (aOI n a b j) (aOQ n a b j))),μ:=λj=>Dc (Dh 5 (Int.ofNat j)),fin:=[0,1,2,3,4,5]}
 | _=>none,λ_ _=>none,λ_ _=>none⟩
set_option maxHeartbeats 4000000 in
theorem aNL(a b:Int)(cs:LC)(ns os:LB)(fs:List Off)(ls:List Line)(ks:List Cla)(hvc:
 let c1:=(cs,ns,os,fs,ls,ks);let c2:=Dp 0 5;let c3:=aOI c1 a b (0);let c10:=aNj c1 c3;let c11:=Eb c10 0;let c12:=aCb c1 a b;let c19:=aNh c1 a b;let c22:=aEs c1 a b;let c23:=Dq 0 1;let c24:=aOQ c1 a b (0);let c27:=Dp 1 5;let c28:=aOI c1 a b (1);let c36:=Eb 0 0;let c37:=Dq 1 1;let c38:=aZ8 c1 c28;let c41:=aOQ c1 a b (1);let c44:=Dp 2 5;let c45:=aOI c1 a b (2);let c53:=aCs c1 c45;let c54:=Eb c53 0;let c55:=Dq 2 1;let c56:=aOQ c1 a b (2);let c59:=Dp 3 5;let c60:=aOI c1 a b (3);let c64:=Dq 3 1;let c68:=aZ9 c1 c60;let c71:=aOQ c1 a b (3);let c74:=Dp 4 5;let c75:=aOI c1 a b (4);let c83:=wrE c1 c75;let c84:=Eb c83 0;let c85:=Dq 4 1;let c86:=aOQ c1 a b (4);let c87:=Dp 5 5;let c88:=aOI c1 a b (5);let c91:=aOQ c1 a b (5);true/\(True->(∃x,let c92:=aOI c1 a b x;let c95:=aOQ c1 a b x;aCU c1 a b x/\1=1/\0=0/\0=0/\1=1/\0=0/\0=0/\1=1/\0=0/\0=0/\(5:Int)=(5:Int)/\0=Int.ofNat x/\(0:Int)=(0:Int)/\(0:Int)=(0:Int)/\Value.slice none (0) (0)=Value.slice none (0) (0)/\Value.slice none (0) (0)=Value.slice none (0) (0)/\Value.slice none (0) (0)=Value.slice none (0) (0)/\(0:Int)=(0:Int)/\cs=cs/\ns=ns/\os=os/\fs=fs/\ls=ls/\ks=ks/\a=c92.1/\b=c92.2.1/\c92.2.2.1=Dt (List Int)/\c92.2.2.2=Dt (List (List Int))/\c95.1=Dt Int/\0=c95.2/\True)/\(∀(x:Nat),aCU c1 a b x->x∈[0,1,2,3,4,5])/\(aCU c1 a b (0)->(c2->Dl 0 0/\0<Dx (5)/\1=1/\0=0/\1=1/\1=1/\0=0/\True/\1=1/\(c11->1=1/\0=0/\1=1/\0=0/\1=1/\0=0/\1=1/\0=0/\0=c12.1/\0=c12.2.1/\c12.2.2.1=Dt (List Int)/\c12.2.2.2=Dt (List (List Int))/\c19.1=Dt Int/\0=c19.2/\c10=c22/\True)/\(c11=false->inR IntKind.i64 c23/\∃y,let c96:=aOI c1 a b y;
 let c99:=aOQ c1 a b y;aCU c1 a b y/\(1=1/\0=0/\0=0/\1=1/\0=0/\0=0/\1=1/\0=0/\0=0/\(5:Int)=(5:Int)/\c23=Int.ofNat y/\(0:Int)=(0:Int)/\(0:Int)=(0:Int)/\Value.slice none (0) (0)=Value.slice none (0) (0)/\Value.slice none (0) (0)=Value.slice none (0) (0)/\Value.slice none (0) (0)=Value.slice none (0) (0)/\(0:Int)=(0:Int)/\cs=cs/\ns=ns/\os=os/\fs=fs/\ls=ls/\ks=ks/\c3.1=c96.1/\c3.2.1=c96.2.1/\c3.2.2.1=c96.2.2.1/\c3.2.2.2=c96.2.2.2/\c24.1=c99.1/\c24.2=c99.2/\True)/\Dc (5-Int.ofNat y)<Dc (Dh 5 0)))/\(c2=false->1=1/\1=1/\1=1/\0=0/\1=1/\1=1/\1=1/\0=0/\1=1/\0=0/\1=1/\0=0/\1=1/\0=0/\1=1/\0=0/\c3.1=c12.1/\c3.2.1=c12.2.1/\c3.2.2.1=c12.2.2.1/\c3.2.2.2=c12.2.2.2/\c24.1=c19.1/\c24.2=c19.2/\0=c22/\True))/\(aCU c1 a b (1)->(c27->Dl 0 1/\1<Dx (5)/\1=1/\0=0/\1=1/\1=1/\0=0/\bDn c28/\1=1/\(c36->1=1/\0=0/\1=1/\0=0/\1=1/\0=0/\1=1/\0=0/\0=c12.1/\0=c12.2.1/\c12.2.2.1=Dt (List Int)/\c12.2.2.2=Dt (List (List Int))/\c19.1=Dt Int/\0=c19.2/\0=c22/\True)/\(c36=false->inR IntKind.i64 c37/\∃y,let c100:=aOI c1 a b y;let c103:=aOQ c1 a b y;
 aCU c1 a b y/\(1=1/\0=0/\0=0/\1=1/\0=0/\0=0/\1=1/\0=0/\0=0/\(5:Int)=(5:Int)/\c37=Int.ofNat y/\(0:Int)=(0:Int)/\(0:Int)=(0:Int)/\Value.slice none (0) (0)=Value.slice none (0) (0)/\Value.slice none (0) (0)=Value.slice none (0) (0)/\Value.slice none (0) (0)=Value.slice none (0) (0)/\(0:Int)=(0:Int)/\cs=cs/\ns=ns/\os=os/\fs=fs/\ls=ls/\ks=ks/\c38.1=c100.1/\c38.2.1=c100.2.1/\c38.2.2.1=c100.2.2.1/\c38.2.2.2=c100.2.2.2/\c41.1=c103.1/\c41.2=c103.2/\True)/\Dc (5-Int.ofNat y)<Dc (Dh 5 1)))/\(c27=false->1=1/\1=1/\1=1/\0=0/\1=1/\1=1/\1=1/\0=0/\1=1/\0=0/\1=1/\0=0/\1=1/\0=0/\1=1/\0=0/\c28.1=c12.1/\c28.2.1=c12.2.1/\c28.2.2.1=c12.2.2.1/\c28.2.2.2=c12.2.2.2/\c41.1=c19.1/\c41.2=c19.2/\0=c22/\True))/\(aCU c1 a b (2)->(c44->Dl 0 2/\2<Dx (5)/\1=1/\0=0/\1=1/\1=1/\0=0/\aGD c1 c45/\1=1/\(c54->1=1/\0=0/\1=1/\0=0/\1=1/\0=0/\1=1/\0=0/\0=c12.1/\0=c12.2.1/\c12.2.2.1=Dt (List Int)/\c12.2.2.2=Dt (List (List Int))/\c19.1=Dt Int/\0=c19.2/\c53=c22/\True)/\(c54=false->inR IntKind.i64 c55/\∃y,let c104:=aOI c1 a b y;let c107:=aOQ c1 a b y;
 aCU c1 a b y/\(1=1/\0=0/\0=0/\1=1/\0=0/\0=0/\1=1/\0=0/\0=0/\(5:Int)=(5:Int)/\c55=Int.ofNat y/\(0:Int)=(0:Int)/\(0:Int)=(0:Int)/\Value.slice none (0) (0)=Value.slice none (0) (0)/\Value.slice none (0) (0)=Value.slice none (0) (0)/\Value.slice none (0) (0)=Value.slice none (0) (0)/\(0:Int)=(0:Int)/\cs=cs/\ns=ns/\os=os/\fs=fs/\ls=ls/\ks=ks/\c45.1=c104.1/\c45.2.1=c104.2.1/\c45.2.2.1=c104.2.2.1/\c45.2.2.2=c104.2.2.2/\c56.1=c107.1/\c56.2=c107.2/\True)/\Dc (5-Int.ofNat y)<Dc (Dh 5 2)))/\(c44=false->1=1/\1=1/\1=1/\0=0/\1=1/\1=1/\1=1/\0=0/\1=1/\0=0/\1=1/\0=0/\1=1/\0=0/\1=1/\0=0/\c45.1=c12.1/\c45.2.1=c12.2.1/\c45.2.2.1=c12.2.2.1/\c45.2.2.2=c12.2.2.2/\c56.1=c19.1/\c56.2=c19.2/\0=c22/\True))/\(aCU c1 a b (3)->(c59->Dl 0 3/\3<Dx (5)/\1=1/\0=0/\1=1/\1=1/\0=0/\gZ c60.2.2.1/\1=1/\(c36->1=1/\0=0/\1=1/\0=0/\1=1/\0=0/\1=1/\0=0/\0=c12.1/\0=c12.2.1/\c12.2.2.1=Dt (List Int)/\c12.2.2.2=Dt (List (List Int))/\c19.1=Dt Int/\0=c19.2/\0=c22/\True)/\(c36=false->inR IntKind.i64 c64/\∃y,let c108:=aOI c1 a b y;let c111:=aOQ c1 a b y;
 aCU c1 a b y/\(1=1/\0=0/\0=0/\1=1/\0=0/\0=0/\1=1/\0=0/\0=0/\(5:Int)=(5:Int)/\c64=Int.ofNat y/\(0:Int)=(0:Int)/\(0:Int)=(0:Int)/\Value.slice none (0) (0)=Value.slice none (0) (0)/\Value.slice none (0) (0)=Value.slice none (0) (0)/\Value.slice none (0) (0)=Value.slice none (0) (0)/\(0:Int)=(0:Int)/\cs=cs/\ns=ns/\os=os/\fs=fs/\ls=ls/\ks=ks/\c68.1=c108.1/\c68.2.1=c108.2.1/\c68.2.2.1=c108.2.2.1/\c68.2.2.2=c108.2.2.2/\c71.1=c111.1/\c71.2=c111.2/\True)/\Dc (5-Int.ofNat y)<Dc (Dh 5 3)))/\(c59=false->1=1/\1=1/\1=1/\0=0/\1=1/\1=1/\1=1/\0=0/\1=1/\0=0/\1=1/\0=0/\1=1/\0=0/\1=1/\0=0/\c60.1=c12.1/\c60.2.1=c12.2.1/\c60.2.2.1=c12.2.2.1/\c60.2.2.2=c12.2.2.2/\c71.1=c19.1/\c71.2=c19.2/\0=c22/\True))/\(aCU c1 a b (4)->(c74->Dl 0 4/\4<Dx (5)/\1=1/\0=0/\1=1/\1=1/\0=0/\mZ c75/\1=1/\(c84->1=1/\0=0/\1=1/\0=0/\1=1/\0=0/\1=1/\0=0/\0=c12.1/\0=c12.2.1/\c12.2.2.1=Dt (List Int)/\c12.2.2.2=Dt (List (List Int))/\c19.1=Dt Int/\0=c19.2/\c83=c22/\True)/\(c84=false->inR IntKind.i64 c85/\∃y,let c112:=aOI c1 a b y;let c115:=aOQ c1 a b y;
 aCU c1 a b y/\(1=1/\0=0/\0=0/\1=1/\0=0/\0=0/\1=1/\0=0/\0=0/\(5:Int)=(5:Int)/\c85=Int.ofNat y/\(0:Int)=(0:Int)/\(0:Int)=(0:Int)/\Value.slice none (0) (0)=Value.slice none (0) (0)/\Value.slice none (0) (0)=Value.slice none (0) (0)/\Value.slice none (0) (0)=Value.slice none (0) (0)/\(0:Int)=(0:Int)/\cs=cs/\ns=ns/\os=os/\fs=fs/\ls=ls/\ks=ks/\c75.1=c112.1/\c75.2.1=c112.2.1/\c75.2.2.1=c112.2.2.1/\c75.2.2.2=c112.2.2.2/\wrN c1 c75=c115.1/\wrS c1 c75=c115.2/\True)/\Dc (5-Int.ofNat y)<Dc (Dh 5 4)))/\(c74=false->1=1/\1=1/\1=1/\0=0/\1=1/\1=1/\1=1/\0=0/\1=1/\0=0/\1=1/\0=0/\1=1/\0=0/\1=1/\0=0/\c75.1=c12.1/\c75.2.1=c12.2.1/\c75.2.2.1=c12.2.2.1/\c75.2.2.2=c12.2.2.2/\c86.1=c19.1/\c86.2=c19.2/\0=c22/\True))/\(aCU c1 a b (5)->(c87->False)/\(c87=false->1=1/\1=1/\1=1/\0=0/\1=1/\1=1/\1=1/\0=0/\1=1/\0=0/\1=1/\0=0/\1=1/\0=0/\1=1/\0=0/\c88.1=c12.1/\c88.2.1=c12.2.1/\c88.2.2.1=c12.2.2.1/\c88.2.2.2=c12.2.2.2/\c91.1=c19.1/\c91.2=c19.2/\0=c22/\True))/\True)):
  evF cComp (lvA [(4,[6,7,8,9,12,13,26,27,28])] (bDq (cs,ns,os,fs,ls,ks) a b)) 11 [net cs ns os fs ls ks,.dat I a,.dat I b] [] ⟨True,.tup [.agg [.dat I (aCb (cs,ns,os,fs,ls,ks) a b).1,.dat I (aCb (cs,ns,os,fs,ls,ks) a b).2.1,.dat M (aCb (cs,ns,os,fs,ls,ks) a b).2.2.1,.dat (.sl M) (aCb (cs,ns,os,fs,ls,ks) a b).2.2.2],.agg [.dat R (aNh (cs,ns,os,fs,ls,ks) a b).1,.dat I (aNh (cs,ns,os,fs,ls,ks) a b).2],.dat I (aEs (cs,ns,os,fs,ls,ks) a b)],[]⟩:=@of_eq _ _ (by kernel_rfl) hvc
theorem bDJ(h:aB1): aI Tryz.prog G0 bGw:=aH (aSd λn p c=>aUt n p c)<|aH (aSd λn p c=>aUs n p c)<|aH (aSd λn p c=>aYW h n p c)<|aH (aSd λn p c=>aYX n p c)<|aH (aSd λn p c=>aY2 n p c) (bG1 h)
theorem aSm{n:Net}{c:List Int}{bd:List (List Int)}{o d:Int}: bU n o (aGq n c bd o d)=true:=by
 unfold aGq bU;split
 .rename_i i h;have hm:=vN.1 (List.mem_of_find?_eq_some h);have hb:=List.find?_some h;unfold aDT at hb;simp only[qC,qE]at hb;rw[yP,qC];refine .inr ⟨?_,qW hb.1.1.1⟩;unfold jT;exact qW ⟨by omega,by omega⟩
 .rfl
theorem aQK{n:Net}{a b:Int}(hu:uF n a b=true): aBk n (aAW n a b)=true:=by
 have e:aAW n a b=Go.Eng.Mp.bI (aFo n (nM n a b) (rM n (nM n a b))) n.2.2.2.1.length:=by
  unfold aAW bCZ;rw[if_pos hu]
 rw[e];generalize hg:aFo n (nM n a b) (rM n (nM n a b))=g;have hc:∀o d:Int,bU n o (g o d)=true:=λo d=>by
  rw[<- hg];unfold aFo;split
  .rfl
  .exact aSm
 unfold aBk Go.Eng.Mp.bI;rw[qC];refine⟨qW (by simp),qM.2 λi hi=>?_⟩
 have hi:i<n.2.2.2.1.length:=by simpa using hi
 rw[qA,qP,vX (by simpa using hi)]
 unfold rowOk;rw[qC];refine⟨qW (by simp),qM.2 λl hl=>?_⟩
 obtain⟨d,_,rfl⟩:=wO.1 hl;exact hc _ _
theorem aHu{n:Net}{nx:List (List Int)}(hs:bZ n=true)(ht:aBk n nx=true): gZ nx:=by
 obtain⟨q1,_⟩:=aAZ n.1 n.2.1 n.2.2.1 n.2.2.2.1 n.2.2.2.2.1 n.2.2.2.2.2 hs;have q1:(n.2.2.2.1.length:Int)<=12:=q1;unfold aBk at ht;rw[qC,qE]at ht;refine⟨by have:=ht.1;omega,λr hr=>?_⟩
 obtain⟨i,hi,rfl⟩:=wY.1 hr;have:=qM.1 ht.2 i (vN.2 hi);unfold rowOk at this;rw[qC,qE,qA,qB hi,qQ]at this;have:=this.1;omega
theorem aHt{n:Net}{nx:List (List Int)}{a b:Int}(hs:bZ n=true): (aEE n nx a b).length<=1000000/\∀t∈aEE n nx a b,gZ t:=by
 obtain⟨q1,q2⟩:=aAZ n.1 n.2.1 n.2.2.1 n.2.2.2.1 n.2.2.2.2.1 n.2.2.2.2.2 hs;have q1:(n.2.2.2.1.length:Int)<=12:=q1;have q2:(n.2.2.2.2.2.length:Int)<=1000000:=q2;unfold aEE;split
 .refine⟨by rw[vF,vK];omega,λt ht=>?_⟩
  obtain⟨k,_,rfl⟩:=wO.1 ht;unfold aSG;refine⟨by rw[vF,vK];omega,λr hr=>?_⟩
  obtain⟨o,_,rfl⟩:=wO.1 hr;unfold aUX;rw[vF,vK];omega
 .exact⟨wX _,λt ht=>by cases ht⟩
theorem bDt{n:Net}{p:Plan}: aNj n p=0↔(0<=p.1/\p.1<p.2.1/\p.2.1<=600/\p.2.1-p.1<=60)/\bZ n=true:=by
 unfold aNj aAC;simp only[qC,qE];split
 .rename_i h;exact⟨λ_=>⟨by omega,h.2⟩,λ_=>rfl⟩
 .rename_i h;constructor
  .intro g;cases g
  .intro g;exact absurd ⟨by omega,g.2⟩ h
theorem aKh{n:Net}{a b:Int}(h:aNj n (p0F a b)=0): (0<=a/\a<b/\b<=600/\b-a<=60)/\bZ n=true/\uF n (1440*a) (1440*b)=true/\aBk n (p1F n a b).2.2.1=true:=by
 obtain⟨h1,h2⟩:=bDt.1 h;have h1:0<=a/\a<b/\b<=600/\b-a<=60:=h1;have hu:uF n (1440*a) (1440*b)=true:=by
  unfold uF;rw[qC];exact⟨aHK.2 (by omega),h2⟩
 exact⟨h1,h2,hu,aQK hu⟩
theorem aP7(h:aB1)(a b:Int)(cs:LC)(ns os:LB)(fs:List Off)(ls:List Line)(ks:List Cla): aB Tryz.prog G0 11 [net cs ns os fs ls ks,.dat I a,.dat I b] [] ⟨True,.tup [.agg [.dat I (aCb (cs,ns,os,fs,ls,ks) a b).1,.dat I (aCb (cs,ns,os,fs,ls,ks) a b).2.1,.dat M (aCb (cs,ns,os,fs,ls,ks) a b).2.2.1,.dat (.sl M) (aCb (cs,ns,os,fs,ls,ks) a b).2.2.2],.agg [.dat R (aNh (cs,ns,os,fs,ls,ks) a b).1,.dat I (aNh (cs,ns,os,fs,ls,ks) a b).2],.dat I (aEs (cs,ns,os,fs,ls,ks) a b)],[]⟩:=by
 refine aA (c:=cComp) (bDJ h) bD hm (aNL a b cs ns os fs ls ks ⟨rfl,λ_=>?_⟩)
 obtain⟨n,hn⟩:∃n:Net,n=(cs,ns,os,fs,ls,ks):=⟨_,rfl⟩;simp only[<- hn];have eP:∀p:Plan,(p.1,p.2.1,p.2.2.1,p.2.2.2)=p:=λ_=>rfl
 simp only[qc,Di,Es,Dk,qd,Dt,Ea,Eb,Dp,Ei,Eh,Ed,Ew,Df,Et,Dl,Dn,Eo,Dy,Dw,Dh,Dq,Ee,Fg,Dc,Dx,Dj,Dz,Ej,Du,Eu,Ez,En,Ef,Fe,Fj,Fh,Ep,Em,Ey,Fb,eP];have bad:∀e:Int,e≠0->e=aEs n a b->0=(aCb n a b).1/\0=(aCb n a b).2.1/\(aCb n a b).2.2.1=[]/\(aCb n a b).2.2.2=[]/\(aNh n a b).1=[]/\0=(aNh n a b).2/\e=aEs n a b:=λe he h=>by
  have hne:¬aEs n a b=0:=by rw[<- h];exact he
  unfold aCb aNh;rw[if_neg hne,if_neg hne];exact⟨rfl,rfl,rfl,rfl,rfl,rfl,h⟩
 refine⟨⟨0,⟨by omega,λh=>by omega,λh=>by omega,λh=>by omega⟩,rfl,rfl,rfl,rfl,rfl,rfl,rfl⟩,λx hx=>?_,λ_=>?_,λh1=>?_,λh2=>?_,λh3=>?_,λh4=>?_,λh5=>?_⟩
 .have:=hx.1;rcases(by omega:x=0\/x=1\/x=2\/x=3\/x=4\/x=5)with rfl | rfl | rfl | rfl | rfl | rfl<;>simp
 .refine⟨λ_=>⟨by omega,by omega,λg=>bad _ g ?_,λg=>⟨bC (by omega),1,⟨by omega,λ_=>g,λh=>by omega,λh=>by omega⟩,⟨rfl,rfl,rfl,rfl,rfl,rfl,rfl⟩,by decide⟩⟩,λh=>absurd (by decide) h⟩
  unfold aEs;rw[if_pos (show aNj n (p0F a b)≠0 from g)];rfl
 .have hk:=h1.2.1 (by omega)
  obtain⟨hr,hs,hu,ht⟩:=aKh hk;exact⟨λ_=>⟨by omega,by omega,⟨by show 0<=a;omega,by show a<=1000;omega,by show 0<=b;omega,by show b<=1000;omega⟩,λh=>absurd rfl h,bC (by omega),2,⟨by omega,λ_=>hk,λh=>by omega,λh=>by omega⟩,⟨rfl,rfl,rfl,rfl,rfl,rfl,rfl⟩,by decide⟩,λh=>absurd (by decide) h⟩
 .have hk:=h2.2.1 (by omega)
  obtain⟨hr,hs,hu,ht⟩:=aKh hk;refine⟨λ_=>⟨by omega,by omega,⟨hs,ht⟩,λg=>bad _ g ?_,λg=>⟨bC (by omega),3,⟨by omega,λ_=>hk,λ_=>g,λh=>by omega⟩,⟨rfl,rfl,rfl,rfl,rfl,rfl,rfl⟩,by decide⟩⟩,λh=>absurd (by decide) h⟩
  unfold aEs;rw[if_neg (λh=>h hk),if_pos (show aCs n (p1F n a b)≠0 from g)];rfl
 .have hk:=h3.2.1 (by omega)
  obtain⟨hr,hs,hu,ht⟩:=aKh hk;exact⟨λ_=>⟨by omega,by omega,aHu hs ht,λh=>absurd rfl h,bC (by omega),4,⟨by omega,λ_=>hk,λ_=>h3.2.2.1 (by omega),λh=>by omega⟩,⟨rfl,rfl,rfl,rfl,rfl,rfl,rfl⟩,by decide⟩,λh=>absurd (by decide) h⟩
 .have hk:=h4.2.1 (by omega)
  have hso:=h4.2.2.1 (by omega)
  obtain⟨hr,hs,hu,ht⟩:=aKh hk;obtain⟨t1,t2⟩:=aHt (nx:=(p1F n a b).2.2.1) (a:=(p1F n a b).1) (b:=(p1F n a b).2.1) hs;refine⟨λ_=>⟨by omega,by omega,⟨aHu hs ht,t1,t2⟩,λg=>bad _ g ?_,λg=>⟨bC (by omega),5,⟨by omega,λ_=>hk,λ_=>hso,λ_=>g⟩,⟨rfl,rfl,rfl,rfl,rfl,rfl,rfl⟩,by decide⟩⟩,λh=>absurd (by decide) h⟩
  unfold aEs;rw[if_neg (λh=>h hk),if_neg (λh=>h hso)];rfl
 .have hk:=h5.2.1 (by omega)
  have hso:=h5.2.2.1 (by omega)
  have hw:=h5.2.2.2 (by omega)
  have hE:aEs n a b=0:=by
   unfold aEs;rw[if_neg (λh=>h hk),if_neg (λh=>h hso)];exact hw
  unfold aCb aNh;rw[if_pos hE,if_pos hE,hE];exact⟨λh=>absurd h (by decide),λ_=>⟨rfl,rfl,rfl,rfl,rfl,rfl,rfl⟩⟩
end Go.Eng.Sv
set_option maxRecDepth 100000
noncomputable section
namespace Go.Eng.Sv
open Go.Proofs
def aO4(x:Int): List Int->Nat
 | []=>0
 | a::l=>if a=x then 0 else aO4 x l+1
def aVG(l:List Int)(x:Int): Int:=if aO4 x l<l.length then(aO4 x l:Int)else -1
def aVF(l:List Int)(x k:Int): Prop:=0<=k/\k<=l.length/\k<=aO4 x l
def aZ1(l:List Int): Prop:=(l.length:Int)<=1000000000
def gOk(n:Net)(p:Plan)(o:Int): Bool:=(jT o n.2.2.2.1.length&&bZ n)&&oJ n p
def gsF(n:Net)(p:Plan)(o:Int): List Int:=if gOk n p o=true then -1::aJ0 p o else[]
def aVK(p:Plan)(o d:Int): Int:=if d=o then 0 else if(nI p o).getD d.toNat 0=-1 then -1 else aVG (-1::aJ0 p o) ((nI p o).getD d.toNat 0)
def ofF(n:Net)(p:Plan)(o:Int): List Int:=if gOk n p o=true then(List.range n.2.2.2.1.length).map λd:Nat=>aVK p o d else[]
def aQ1(n:Net)(p:Plan)(o k:Int): List Int:=upF (aVK p o) 0 n.2.2.2.1.length k
def gTo(n:Net)(p:Plan)(o k:Int): Prop:=gOk n p o=true/\0<=k/\k<=n.2.2.2.1.length
theorem aYf(o x:Int)(cs:LC)(ns os:LB)(fs:List Off)(ls:List Line)(ks:List Cla)(hvc:
 let c1:=Ea x (-1);let c2:=Dk c1;let c3:=Ed x 0;let c4:=Df ls;let c5:=Ec c3 (Dp x c4) false;true/\(True->(c2->c2->c2)/\(c2->c2->c2)/\(Di c2 c3->Di c2 c3->Di c2 c3)/\(Di c2 c3->Di c2 c3->Di c2 c3)/\(Di c2 c3->Di c2 c3->Di c2 c3)/\(Di c2 c3->Di c2 c3->Di c2 c3)/\(c2->c2->c2)/\(c2->Di c2 c3->Di c2 c3)/\(c2->c2->c2)/\(Di c2 c5->Di c2 c5->Di c2 c5)/\(Di c2 c5->Di c2 c5->Di c2 c5)/\(Di c2 c5->Di c2 c5->Di c2 c5)/\(Di c2 c5->0<=x)/\(Di c2 c5->x<c4)/\(Di c2 c5->Di c2 c5->Di c2 c5)/\(Di c2 c5->Di c2 c5->Di c2 c5)/\(Di c2 c5->Di c2 c5->Di c2 c5)/\(Di c2 c5->Di c2 c5->Di c2 c5)/\(c2->c2->c2)/\(c2->Di c2 c5->Di c2 c5)/\(Di true c2->c2)/\Ec c1 true (Ec c5 (Ea (Du ls (Dc x) (ByteArray.mk #[],(0:Int),(0:Int),(0:Int),(0:Int),(0:Int))).2.1 o) false)=bU (cs,ns,os,fs,ls,ks) o x/\True)):
  evF (mkc KC8) aQ 107 [.dat I o,.dat I x,.ip N (cs,ns,os,fs,ls,ks)] [] ⟨True,.dat .bool (bU (cs,ns,os,fs,ls,ks) o x),[]⟩:=@of_eq _ _ (by kernel_rfl) hvc
theorem aYe(o x:Int)(hvc:
 let c1:=Ed x (-1);true/\(True->(c1->c1->c1)/\(Di true c1->c1)/\Ec c1 (Eh x 65518) false=oK o x/\True)):
  evF (mkc KC8) aQ 108 [.dat I o,.dat I x] [] ⟨True,.dat .bool (oK o x),[]⟩:=@of_eq _ _ (by kernel_rfl) hvc
def bAU: Kt:=kOr 107 (aP [.val I,.val I,.ptr N] (λ_=>True) λ(o,x,n,_)=>.dat .bool (bU n o x)) <|
 kOr 108 (aP [.val I,.val I] (λ_=>True) λ(o,x,_)=>.dat .bool (oK o x)) KC8
theorem aYb(t:List (List Int))(m:Int)(n:Net)(hvc:
 let c1:=Eb (Df t) m;let c2:=sgF (bU n) t m;true/\(gZ t->(c1->false=c2/\True)/\(c1=false->(∃x,aKC (bU n) t m x/\m=m/\n=n/\t=t/\Df t=Df t/\0=x/\True)/\∀(x:Int),let c3:=Dp x (Df t);let c4:=Du t (Dc x) [];let c5:=Df c4;let c6:=Eb c5 m;let c7:=x+1;aKC (bU n) t m x->(c3->0<=x/\x<Df t/\(c6->false=c2/\True)/\(c6=false->(∃x_4,aBE (bU n) c4 m x x_4/\m=m/\n=n/\x=x/\c4=c4/\t=t/\Df t=Df t/\x=x/\c4=c4/\c5=c5/\0=x_4/\True)/\∀(x_4:Int),let c8:=Dk (bU n x (Du c4 (Dc x_4) 0));let c9:=x_4+1;aBE (bU n) c4 m x x_4->(Dp x_4 c5->0<=x_4/\x_4<c5/\True/\(c8->false=c2/\True)/\(c8=false->inR IntKind.i64 c9/\∃y,aBE (bU n) c4 m x y/\(m=m/\n=n/\x=x/\c4=c4/\t=t/\Df t=Df t/\x=x/\c4=c4/\c5=c5/\c9=y/\True)/\Dc (c5-y)<Dc (c5-x_4)))/\(Dp x_4 c5=false->inR IntKind.i64 c7/\∃y,aKC (bU n) t m y/\(m=m/\n=n/\t=t/\Df t=Df t/\c7=y/\True)/\Dc (Df t-y)<Dc (Df t-x))))/\(c3=false->true=c2/\True)))):
  evF (mkc bAU) (lvA [(4,[1,2,6,7,8,10,15,16,17,26,27,28]),(9,[1,2,6,7,8,10,15,16,17,26,27,28])] (sgA (bU n) t m)) 109 [.dat M t,.dat I m,.fn 107 [.ip N n]] [] ⟨gZ t,.dat .bool (sgF (bU n) t m),[]⟩:=@of_eq _ _ (by kernel_rfl) hvc
theorem aYc(t:List (List Int))(m:Int)(hvc:
 let c1:=Eb (Df t) m;true/\(gZ t->(c1->false=sgF oK t m/\True)/\(c1=false->(∃x,aKC oK t m x/\m=m/\t=t/\Df t=Df t/\0=x/\True)/\∀(x:Int),let c2:=Dp x (Df t);let c3:=Du t (Dc x) [];let c4:=Df c3;let c5:=Eb c4 m;let c6:=x+1;aKC oK t m x->(c2->0<=x/\x<Df t/\(c5->false=sgF oK t m/\True)/\(c5=false->(∃x_4,aBE oK c3 m x x_4/\m=m/\x=x/\c3=c3/\t=t/\Df t=Df t/\x=x/\c3=c3/\c4=c4/\0=x_4/\True)/\∀(x_4:Int),let c7:=Dk (oK x (Du c3 (Dc x_4) 0));let c8:=x_4+1;aBE oK c3 m x x_4->(Dp x_4 c4->0<=x_4/\x_4<c4/\True/\(c7->false=sgF oK t m/\True)/\(c7=false->inR IntKind.i64 c8/\∃y,aBE oK c3 m x y/\(m=m/\x=x/\c3=c3/\t=t/\Df t=Df t/\x=x/\c3=c3/\c4=c4/\c8=y/\True)/\Dc (c4-y)<Dc (c4-x_4)))/\(Dp x_4 c4=false->inR IntKind.i64 c6/\∃y,aKC oK t m y/\(m=m/\t=t/\Df t=Df t/\c6=y/\True)/\Dc (Df t-y)<Dc (Df t-x))))/\(c2=false->true=sgF oK t m/\True)))):
  evF (mkc bAU) (lvA [(4,[1,2,6,7,8,10,15,16,17,26,27,28]),(9,[1,2,6,7,8,10,15,16,17,26,27,28])] (sgA oK t m)) 109 [.dat M t,.dat I m,.fn 108 []] [] ⟨gZ t,.dat .bool (sgF oK t m),[]⟩:=@of_eq _ _ (by kernel_rfl) hvc
def bFZ(args:List AV)(m:Mem): Option aAb:=match m,args with
 | [],[.dat (.sl (.sl (.int .i64))) t,.dat (.int .i64) k,.fn f caps]=>if f=107 then match ofK [.ptr N] caps with
   | some (n,_)=>some ⟨gZ t,.dat .bool (sgF (bU n) t k),[]⟩
   | none=>none
  else if f=108 then match ofK [] caps with
   | some _=>some ⟨gZ t,.dat .bool (sgF oK t k),[]⟩
   | none=>none
  else none
 | _,_=>none
def bGv: Kt:=kOr 109 bFZ bAU
def bDu(n:Net)(p:Plan): Ann:=⟨λid s=>match id with
 | 6=>some {α:=Int,inv:=λk=>aDW n p k,st:=λk=>put s [(38,.dat I k)],μ:=λk=>Dc (Dh (Df p.2.2.2) k)}
 | _=>none,λ_ _=>none,λ_ _=>none⟩
theorem aTQ(cs:LC)(ns os:LB)(fs:List Off)(ls:List Line)(ks:List Cla)(p1 p2:Int)(nx:List (List Int))(dy:List (List (List Int)))(hvc:
 let c1:=(p1,p2,nx,dy);let c2:=Dk (Dk (aAC p1 p2));let c3:=Df dy;let c4:=Ec (Dk (aAC p1 p2)) true (Eb c3 (Df ks));let c5:=Dk c4;let c6:=(cs,ns,os,fs,ls,ks);let c7:=Df fs;let c8:=Ec c4 true (Dk (sgF (bU c6) nx c7));let c9:=oJ c6 c1;true/\(mZ c1->True/\(c2->c2->c2)/\(c2->c2->c2)/\(c2->c2->c2)/\(c2->c2->c2)/\(c2->c2->c2)/\(c2->c2->c2)/\(Di true c2->c2)/\(c5->c5->c5)/\(c5->c5->c5)/\(c5->c5->c5)/\(c5->c5->c5)/\(c5->c5->c5)/\(c5->c5->c5)/\(c5->gZ nx)/\(c5->c5->c5)/\(Di true c5->c5)/\(c8->false=c9/\True)/\(c8=false->(∃x,aDW c6 c1 x/\c6=c6/\dy=dy/\c3=c3/\0=x/\True)/\∀(x:Int),let c10:=Du dy (Dc x) (Dt (List Int));let c11:=Dk (sgF oK c10 c7);let c12:=x+1;aDW c6 c1 x->(Dp x c3->0<=x/\x<c3/\gZ c10/\(c11->false=c9/\True)/\(c11=false->inR IntKind.i64 c12/\∃y,aDW c6 c1 y/\(c6=c6/\dy=dy/\c3=c3/\c12=y/\True)/\Dc (c3-y)<Dc (c3-x)))/\(Dp x c3=false->true=c9/\True)))):
  evF (mkc bGv) (lvA [(6,[2,4,6,8,36,37,38])] (bDu (cs,ns,os,fs,ls,ks) (p1,p2,nx,dy))) 44 [net cs ns os fs ls ks,.agg [.dat I p1,.dat I p2,.dat M nx,.dat (.sl M) dy]] [] ⟨mZ (p1,p2,nx,dy),.dat .bool (oJ (cs,ns,os,fs,ls,ks) (p1,p2,nx,dy)),[]⟩:=@of_eq _ _ (by kernel_rfl) hvc
def bHn(l:List Int)(x:Int): Ann:=⟨λid s=>match id with
 | 2=>some {α:=Int,inv:=λk=>aVF l x k,st:=λk=>put s [(8,.dat I k)],μ:=λk=>Dc (Dh (Df l) k)}
 | _=>none,λ_ _=>none,λ_ _=>none⟩
theorem aTG(l:List Int)(x:Int)(hvc:
 true/\(aZ1 l->(∃x_2,aVF l x x_2/\l=l/\x=x/\Df l=Df l/\0=x_2/\True)/\∀(x_2:Int),let c1:=Dp x_2 (Df l);let c2:=Ea x (Du l (Dc x_2) 0);let c3:=x_2+1;aVF l x x_2->(c1->0<=x_2/\x_2<Df l/\(c2->x_2=aVG l x/\True)/\(c2=false->inR IntKind.i64 c3/\∃y,aVF l x y/\(l=l/\x=x/\Df l=Df l/\c3=y/\True)/\Dc (Df l-y)<Dc (Df l-x_2)))/\(c1=false->(-1:Int)=aVG l x/\True))):
  evF (mkc KC8) (lvA [(2,[0,1,4,5,7,8])] (bHn l x)) 46 [.dat R l,.dat I x] [] ⟨aZ1 l,.dat I (aVG l x),[]⟩:=@of_eq _ _ (by kernel_rfl) hvc
def bHc: Kt:=kOr 44 (aP [.row N,.row Pl] (λ(_,p,_)=>mZ p) λ(n,p,_)=>.dat .bool (oJ n p)) <|
 kOr 46 (aP [.val R,.val I] (λ(l,_,_)=>aZ1 l) λ(l,x,_)=>.dat I (aVG l x)) bGw
def bHq(n:Net)(p:Plan)(o:Int): Ann:=⟨λid s=>match id with
 | 6=>match s.sig.T 9 with
  | .buf nm _=>some {α:=Int,inv:=λk=>gTo n p o k,st:=λk=>pX (put s [(47,.dat I k)]) nm (.buf 3 I (aQ1 n p o k) []),μ:=λk=>Dc (Dh (Df n.2.2.2.1) k)}
  | _=>none
 | _=>none,λ_ _=>none,λ_ _=>none⟩
def bGK: Cfg:=mkp bHc (λt=>t==32) Go.Eng.noP (λ_=>false)
theorem aPv(o:Int)(cs:LC)(ns os:LB)(fs:List Off)(ls:List Line)(ks:List Cla)(p1 p2:Int)(nx:List (List Int))(dy:List (List (List Int)))(hvc:
 let c1:=(p1,p2,nx,dy);let c2:=Dp o 0;let c3:=Dk c2;let c4:=Df fs;let c5:=Ec c2 true (Ed o c4);let c6:=Dk c5;let c7:=(cs,ns,os,fs,ls,ks);let c8:=Ec c5 true (Dk (bZ c7));let c9:=Dk c8;let c10:=Ec c8 true (Dk (oJ c7 c1));let c11:=gsF c7 c1 o;let c12:=ofF c7 c1 o;let c13:=[(-1:Int)];let c14:=aJ0 c1 o;let c15:=(1)+Dj c14;let c16:=Dc c4;let c17:=Du nx (Dc o) [];let c18:=Df c17;let c19:=Ef c13 c14;true/\(mZ c1->(c3->c3->c3)/\(c3->c3->c3)/\(c3->c3->c3)/\(c3->c3->c3)/\(Di true c3->c3)/\(c6->c6->c6)/\(c6->True)/\(c6->c6->c6)/\(Di true c6->c6)/\(c9->c9->c9)/\(c9->c9->c9)/\(c9->mZ c1)/\(c9->c9->c9)/\(Di true c9->c9)/\(c10->c11=Dt Int/\c12=Dt Int/\True)/\(c10=false->aT0 c1 o/\Dj c13=1/\(c15*(8))<=(140737488355328)/\c15<=(9223372036854775807)/\0<=c4/\(Dx (8)*c4)<=281474976710656/\c4<=9223372036854775807/\0<=o/\o<Df nx/\(∃x,gTo c7 c1 o x/\o=o/\Value.slice none (0) (0)=Value.slice none (0) (0)/\Value.slice none (0) (0)=Value.slice none (0) (0)/\c15=c15/\c16=c16/\c17=c17/\c18=c18/\0=x/\c19=c19/\Ep c4 (0:Int)=aQ1 c7 c1 o x/\True)/\∀(x:Int),let c20:=aQ1 c7 c1 o x;let c21:=Dj c20;let c22:=x+1;let c23:=Du c17 (Dc x) 0;let c24:=Ea c23 (-1);
 gTo c7 c1 o x->(Dp x c18->0<=x/\x<c18/\(Ea x o->c21=c16/\0<=x/\x<Dx c21/\c21=c16/\inR IntKind.i64 c22/\∃y,gTo c7 c1 o y/\(o=o/\Value.slice none (0) (0)=Value.slice none (0) (0)/\Value.slice none (0) (0)=Value.slice none (0) (0)/\c15=c15/\c16=c16/\c17=c17/\c18=c18/\c22=y/\c19=c19/\En c20 (Dc x) 0=aQ1 c7 c1 o y/\True)/\Dc (c4-y)<Dc (c4-x))/\(Ea x o=false->(c24->c21=c16/\0<=x/\x<Dx c21/\c21=c16/\inR IntKind.i64 c22/\∃y,gTo c7 c1 o y/\(o=o/\Value.slice none (0) (0)=Value.slice none (0) (0)/\Value.slice none (0) (0)=Value.slice none (0) (0)/\c15=c15/\c16=c16/\c17=c17/\c18=c18/\c22=y/\c19=c19/\En c20 (Dc x) (-1)=aQ1 c7 c1 o y/\True)/\Dc (c4-y)<Dc (c4-x))/\(c24=false->aZ1 c19/\Dj c19=c15/\c21=c16/\0<=x/\x<Dx c21/\c21=c16/\inR IntKind.i64 c22/\∃y,gTo c7 c1 o y/\(o=o/\Value.slice none (0) (0)=Value.slice none (0) (0)/\Value.slice none (0) (0)=Value.slice none (0) (0)/\c15=c15/\c16=c16/\c17=c17/\c18=c18/\c22=y/\c19=c19/\En c20 (Dc x) (aVG c19 c23)=aQ1 c7 c1 o y/\True)/\Dc (c4-y)<Dc (c4-x))))/\(Dp x c18=false->Dj c19=c15/\c19=c11/\c21=c16/\c20=c12/\True)))):
  evF bGK (lvA [(6,[2,6,7,8,9,10,11,45,46,47])] (bHq (cs,ns,os,fs,ls,ks) (p1,p2,nx,dy) o)) 12 [net cs ns os fs ls ks,.agg [.dat I p1,.dat I p2,.dat M nx,.dat (.sl M) dy],.dat I o] [] ⟨mZ (p1,p2,nx,dy),.tup [.dat R (gsF (cs,ns,os,fs,ls,ks) (p1,p2,nx,dy) o),.dat R (ofF (cs,ns,os,fs,ls,ks) (p1,p2,nx,dy) o)],[]⟩:=@of_eq _ _ (by kernel_rfl) hvc
theorem bCo(o x:Int)(cs:LC)(ns os:LB)(fs:List Off)(ls:List Line)(ks:List Cla): aB Tryz.prog G0 107 [.dat I o,.dat I x,.ip N (cs,ns,os,fs,ls,ks)] [] ⟨True,.dat .bool (bU (cs,ns,os,fs,ls,ks) o x),[]⟩:=by
 refine aA (c:=mkc KC8) aST bD hm (aYf o x cs ns os fs ls ks ⟨rfl,λ_=>?_⟩)
 simp only[qc,Di,Es,Dk,qd,Dt,Ea,Eb,Dp,Ei,Eh,Ed,Ew,Df,Et,Dl,Dn,Eo,Dy,Dw,Dh,Dq,Ee,Fg,Dc,Dx,Dj,Dz,Ej,Du,Eu,Ez,En,Ef,Fe,Fj,Fh,Ep,Em,Ey,Fb];refine⟨λh=>h.2.1,λh=>h.2.2,?_⟩
 unfold bU jT;rw[qCd];simp only[yP,qC,xJ,qE];exact Iff.rfl
theorem bCn(o x:Int): aB Tryz.prog G0 108 [.dat I o,.dat I x] [] ⟨True,.dat .bool (oK o x),[]⟩:=by
 refine aA (c:=mkc KC8) aST bD hm (aYe o x ⟨rfl,λ_=>⟨λh _=>h,λh=>by simpa[Di]using h,?_,trivial⟩⟩)
 unfold oK aFR;simp only[Ec,Ed,Eh,kQ];by_cases h:-1<=x<;>simp[h]
theorem bAu: aI Tryz.prog G0 bAU:=aH (aC λ(o,x,(cs,ns,os,fs,ls,ks),_)=>bCo o x cs ns os fs ls ks)<|aH (aC λ(o,x,_)=>bCn o x) aST
theorem bCk(t:List (List Int))(m:Int)(n:Net): aB Tryz.prog G0 109 [.dat M t,.dat I m,.fn 107 [.ip N n]] [] ⟨gZ t,.dat .bool (sgF (bU n) t m),[]⟩:=by
 refine aA (c:=mkc bAU) bAu bD hm (aYb t m n ⟨rfl,λhf=>?_⟩)
 simp only[qc,Di,Es,Dk,qd,Dt,Ea,Eb,Dp,Ei,Eh,Ed,Ew,Df,Et,Dl,Dn,Eo,Dy,Dw,Dh,Dq,Ee,Fg,Dc,Dx,Dj,Dz,Ej,Du,Eu,Ez,En,Ef,Fe,Fj,Fh,Ep,Em,Ey,Fb];exact aHy (bU n) hf
theorem bCl(t:List (List Int))(m:Int): aB Tryz.prog G0 109 [.dat M t,.dat I m,.fn 108 []] [] ⟨gZ t,.dat .bool (sgF oK t m),[]⟩:=by
 refine aA (c:=mkc bAU) bAu bD hm (aYc t m ⟨rfl,λhf=>?_⟩)
 simp only[qc,Di,Es,Dk,qd,Dt,Ea,Eb,Dp,Ei,Eh,Ed,Ew,Df,Et,Dl,Dn,Eo,Dy,Dw,Dh,Dq,Ee,Fg,Dc,Dx,Dj,Dz,Ej,Du,Eu,Ez,En,Ef,Fe,Fj,Fh,Ep,Em,Ey,Fb];exact aHy oK hf
theorem aGO{P:Program}{C:Ctx}{a b x x':AV}{us:List Value}(h:AV.relL P C [a,b,x] us)(hx:∀v,x.rel P C v->x'.rel P C v): AV.relL P C [a,b,x'] us:=by
 obtain⟨u,us,rfl,h1,h2⟩:=h;exact⟨_,_,rfl,h1,nO h2 hx⟩
theorem aZ7: ∀args m c,bFZ args m=some c->aB Tryz.prog G0 109 args m c:=by
 intro args m c hc;unfold bFZ at hc;split at hc
 case h_2=>cases hc
 rename_i t k f caps;split at hc
 .rename_i hf;subst hf;split at hc
  case h_2=>cases hc
  rename_i n _ hx;cases hc;exact(bCk t k n).args λC us hG hu=>aGO hu λv hv=>aFN hx hv
 .split at hc
  case isFalse=>cases hc
  rename_i hf;subst hf;split at hc
  case h_2=>cases hc
  rename_i x hx;cases hc;exact(bCl t k).args λC us hG hu=>aGO hu λv hv=>aFN hx hv
theorem bGl: aI Tryz.prog G0 bGv:=aH aZ7 bAu
theorem aY0(cs:LC)(ns os:LB)(fs:List Off)(ls:List Line)(ks:List Cla)(p1 p2:Int)(nx:List (List Int))(dy:List (List (List Int))): aB Tryz.prog G0 44 [net cs ns os fs ls ks,.agg [.dat I p1,.dat I p2,.dat M nx,.dat (.sl M) dy]] [] ⟨mZ (p1,p2,nx,dy),.dat .bool (oJ (cs,ns,os,fs,ls,ks) (p1,p2,nx,dy)),[]⟩:=by
 refine aA (c:=mkc bGv) bGl bD hm (aTQ cs ns os fs ls ks p1 p2 nx dy ⟨rfl,λhf=>?_⟩)
 simp only[qc,Di,Es,Dk,qd,Dt,Ea,Eb,Dp,Ei,Eh,Ed,Ew,Df,Et,Dl,Dn,Eo,Dy,Dw,Dh,Dq,Ee,Fg,Dc,Dx,Dj,Dz,Ej,Du,Eu,Ez,En,Ef,Fe,Fj,Fh,Ep,Em,Ey,Fb];obtain⟨a3,a4,a5⟩:=id hf;have a3:gZ nx:=a3;have a4:dy.length<=1000000:=a4;have eT:sgF (bU (cs,ns,os,fs,ls,ks)) nx fs.length=aBk (cs,ns,os,fs,ls,ks) nx:=rfl;have eR:aAC p1 p2=aBL (p1,p2,nx,dy):=by
  unfold aAC aBL;rw[qCd];simp only[qC,qE];omega
 rw[eT,eR];have eF:oJ (cs,ns,os,fs,ls,ks) (p1,p2,nx,dy)=(aBL (p1,p2,nx,dy)&&(aBk (cs,ns,os,fs,ls,ks) nx&&aDt (cs,ns,os,fs,ls,ks) (p1,p2,nx,dy))):=rfl;have eD:(dy.length:Int)=ks.length->(aDt (cs,ns,os,fs,ls,ks) (p1,p2,nx,dy)=true↔∀i:Nat,(i:Int)<dy.length->sgF oK (dy.getD i []) fs.length=true):=λhl=>by
  unfold aDt;simp only[qC,qE,qM];refine⟨λh i hi=>h.2 _ (getD_mem (by omega)),λh=>⟨hl,λx hx=>?_⟩⟩
  obtain⟨i,hi,rfl⟩:=wY.1 hx;have:=h i (by omega)
  rw[qA,qB hi,qQ]at this;exact this
 refine⟨λ_=>a3,λh=>?_,λ⟨⟨hR,h2⟩,h3⟩=>⟨⟨qL _,qR _,hR,h3,h2,λi hi=>by omega⟩,λx ⟨x0,x1,_,_,_,x5⟩=>⟨λhx=>⟨x0,hx,a5 _ (getD_mem (l:=dy) (i:=x.toNat) (d:=[]) (by omega)),λh4=>?_,λh4=>?_⟩,λhx=>?_⟩⟩⟩
 .rw[eF];rcases h with(h | h) | h
  .rw[h];rfl
  .have:aDt (cs,ns,os,fs,ls,ks) (p1,p2,nx,dy)=false:=by
    unfold aDt;rw[vG h];rfl
   rw[this];simp
  .rw[h];simp
 .refine(kP.2 λht=>?_).symm
  rw[eF]at ht;simp only[qC]at ht;have:=(eD h2).1 ht.2.2 x.toNat (by omega)
  rw[h4]at this;cases this
 .refine⟨bC (by omega),x+1,⟨by omega,by show x+1<=(dy.length:Int);omega,hR,h3,h2,λi hi=>?_⟩,rfl,by omega⟩
  by_cases h5:(i:Int)<x
  .exact x5 i h5
  .have:i=x.toNat:=by omega
   subst this;exact h4
 .rw[eF,hR,h3,(eD h2).2 λi hi=>x5 i (by omega)];rfl
theorem aRC(x:Int): ∀l:List Int,aO4 x l<=l.length
 | []=>qK _
 | a::l=>by
  unfold aO4;split
  .exact wX _
  .exact qBv (aRC x l)
theorem aXa{x:Int}: ∀{l:List Int} {k:Nat},k<l.length->l.getD k 0=x->aO4 x l<=k
 | [],k,h,_=>by simp at h
 | a::l,k,h,e=>by
  unfold aO4;split
  .exact wX _
  .cases k with
   | zero=>contradiction
   | succ k=>exact qBv (aXa (by simpa using h) (by simpa using e))
theorem aW9{x:Int}: ∀{l:List Int} {k:Nat},k<=aO4 x l->l.getD k 0≠x->k<l.length->k+1<=aO4 x l
 | [],k,_,_,h=>by simp at h
 | a::l,k,h,e,hk=>by
  unfold aO4 at h ⊢;split
  .rename_i ha;rw[if_pos ha]at h;have:k=0:=by omega
   subst this;exact absurd ha e
  .rename_i ha;rw[if_neg ha]at h;cases k with
   | zero=>omega
   | succ k=>exact qBv (aW9 (by omega) (by simpa using e) (by simpa using hk))
theorem aYT(l:List Int)(x:Int): aB Tryz.prog G0 46 [.dat R l,.dat I x] [] ⟨aZ1 l,.dat I (aVG l x),[]⟩:=by
 refine aA (c:=mkc KC8) aST bD hm (aTG l x ⟨rfl,λhf=>?_⟩)
 simp only[qc,Di,Es,Dk,qd,Dt,Ea,Eb,Dp,Ei,Eh,Ed,Ew,Df,Et,Dl,Dn,Eo,Dy,Dw,Dh,Dq,Ee,Fg,Dc,Dx,Dj,Dz,Ej,Du,Eu,Ez,En,Ef,Fe,Fj,Fh,Ep,Em,Ey,Fb];unfold aZ1 at hf;refine⟨⟨by omega,by omega,by omega⟩,λk ⟨k0,k1,k2⟩=>⟨λhlt=>⟨k0,hlt,λhe=>?_,λhne=>⟨bC (by omega),k+1,⟨by omega,by omega,?_⟩,rfl,by omega⟩⟩,λhge=>?_⟩⟩
 .have hk:k.toNat<l.length:=by omega
  have h1:=aXa hk he.symm;have e:aO4 x l=k.toNat:=by omega
  unfold aVG;rw[e,if_pos hk];omega
 .have h1:=aW9 (x:=x) (l:=l) (k:=k.toNat) (by omega) (λe=>hne e.symm) (by omega)
  omega
 .have h1:=aRC x l;unfold aVG;rw[if_neg (by omega)]
theorem bGk(h:aB1): aI Tryz.prog G0 bHc:=aH (aC λ((cs,ns,os,fs,ls,ks),(p1,p2,nx,dy),_)=>aY0 cs ns os fs ls ks p1 p2 nx dy)<|aH (aC λ(l,x,_)=>aYT l x) (bDJ h)
theorem aUq(h:aB1)(o:Int)(cs:LC)(ns os:LB)(fs:List Off)(ls:List Line)(ks:List Cla)(p1 p2:Int)(nx:List (List Int))(dy:List (List (List Int))): aB Tryz.prog G0 12 [net cs ns os fs ls ks,.agg [.dat I p1,.dat I p2,.dat M nx,.dat (.sl M) dy],.dat I o] [] ⟨mZ (p1,p2,nx,dy),.tup [.dat R (gsF (cs,ns,os,fs,ls,ks) (p1,p2,nx,dy) o),.dat R (ofF (cs,ns,os,fs,ls,ks) (p1,p2,nx,dy) o)],[]⟩:=by
 refine aA (c:=bGK) (bGk h) bD hm (aPv o cs ns os fs ls ks p1 p2 nx dy ⟨rfl,λhf=>?_⟩)
 simp only[qc,Di,Es,Dk,qd,Dt,Ea,Eb,Dp,Ei,Eh,Ed,Ew,Df,Et,Dl,Dn,Eo,Dy,Dw,Dh,Dq,Ee,Fg,Dc,Dx,Dj,Dz,Ej,Du,Eu,Ez,En,Ef,Fe,Fj,Fh,Ep,Em,Ey,Fb];have ok:gOk (cs,ns,os,fs,ls,ks) (p1,p2,nx,dy) o=true↔((0<=o/\o<fs.length)/\bZ (cs,ns,os,fs,ls,ks)=true)/\oJ (cs,ns,os,fs,ls,ks) (p1,p2,nx,dy)=true:=by
  unfold gOk jT;rw[qC,qC,qE]
 refine⟨λ_=>hf,λh=>?_,λ⟨⟨⟨h0,h1⟩,hs⟩,hfm⟩=>?_⟩
 .have hn:¬gOk (cs,ns,os,fs,ls,ks) (p1,p2,nx,dy) o=true:=λg=>by
   obtain⟨⟨⟨g0,g1⟩,g2⟩,g3⟩:=ok.1 g;rcases h with((h | h) | h) | h
   .omega
   .omega
   .rw[g2]at h;cases h
   .rw[g3]at h;cases h
  exact⟨if_neg hn,if_neg hn⟩
 have o0:0<=o:=by omega
 have o1:o<fs.length:=by omega
 have hg:gOk (cs,ns,os,fs,ls,ks) (p1,p2,nx,dy) o=true:=ok.2 ⟨⟨⟨o0,o1⟩,hs⟩,hfm⟩;have ht:aBk (cs,ns,os,fs,ls,ks) nx=true:=(pO hfm).2.1;obtain⟨q1,_⟩:=aAZ cs ns os fs ls ks hs;obtain⟨r1,r2,_⟩:=aAd cs ns os fs ls ks ht o0 o1 o0 o1;have r2:((nI (p1,p2,nx,dy) o).length:Int)=fs.length:=r2;have gl:=aRD (p1,p2,nx,dy) o;have eR:nx.getD o.toNat []=nI (p1,p2,nx,dy) o:=rfl;rw[eR]
 have len:∀{k:Int},0<=k->k<=fs.length->(aQ1 (cs,ns,os,fs,ls,ks) (p1,p2,nx,dy) o k).length=fs.length:=λa b=>by
  have:=aEB (g:=aVK (p1,p2,nx,dy) o) (z:=0) (l:=fs.length) (k:=_) ⟨a,b⟩;rw[vO]at this;exact this
 have nxt_:∀{k v:Int},0<=k->k<fs.length->v=aVK (p1,p2,nx,dy) o k->(aQ1 (cs,ns,os,fs,ls,ks) (p1,p2,nx,dy) o k).set k.toNat v=aQ1 (cs,ns,os,fs,ls,ks) (p1,p2,nx,dy) o (k+1):=λa b e=>by
  rw[e];exact aHp a b
 have e0:List.replicate fs.length (0:Int)=aQ1 (cs,ns,os,fs,ls,ks) (p1,p2,nx,dy) o 0:=by
  have:=aCk (g:=aVK (p1,p2,nx,dy) o) (z:=(0:Int)) (l:=fs.length);rw[vO]at this;exact this
 have e1:aQ1 (cs,ns,os,fs,ls,ks) (p1,p2,nx,dy) o fs.length=ofF (cs,ns,os,fs,ls,ks) (p1,p2,nx,dy) o:=by
  unfold ofF;rw[if_pos hg];have:=aDa (g:=aVK (p1,p2,nx,dy) o) (z:=(0:Int)) (l:=fs.length);rw[vO]at this;exact this
 have e2:gsF (cs,ns,os,fs,ls,ks) (p1,p2,nx,dy) o=-1::aJ0 (p1,p2,nx,dy) o:=if_pos hg;refine⟨⟨o0,by show o<(nx.length:Int);omega,by omega,aWI cs ns os fs ls ks hs ht o0 o1⟩,rfl,by omega,by omega,by omega,by omega,by omega,o0,by omega,⟨0,⟨hg,by omega,by show(0:Int)<=(fs.length:Int);omega⟩,rfl,e0⟩,λx ⟨_,x0,x1⟩=>⟨λhlt=>⟨x0,hlt,λhe=>?_,λhne=>⟨λhl=>?_,λhl=>?_⟩⟩,λhge=>?_⟩⟩
 .have hx:x<fs.length:=by omega
  have hl:=len x0 x1;exact⟨hl,x0,by omega,hl,bC (by omega),x+1,⟨hg,by omega,by show x+1<=(fs.length:Int);omega⟩,⟨rfl,nxt_ x0 hx (by unfold aVK;rw[if_pos he])⟩,by omega⟩
 .have hx:x<fs.length:=by omega
  have hl':=len x0 x1;exact⟨hl',x0,by omega,hl',bC (by omega),x+1,⟨hg,by omega,by show x+1<=(fs.length:Int);omega⟩,⟨rfl,nxt_ x0 hx (by unfold aVK;rw[if_neg hne,if_pos hl])⟩,by omega⟩
 .have hx:x<fs.length:=by omega
  have hl':=len x0 x1;exact⟨by unfold aZ1;simp only[qF,vV];omega,by simp[qAp],hl',x0,by omega,hl',bC (by omega),x+1,⟨hg,by omega,by show x+1<=(fs.length:Int);omega⟩,⟨rfl,nxt_ x0 hx (by unfold aVK;rw[if_neg hne,if_neg hl];rfl)⟩,by omega⟩
 .have x1:x<=(fs.length:Int):=x1;have hx:x=fs.length:=by omega
  rw[hx];exact⟨by simp[qAp],by rw[e2];rfl,len (by omega) (by omega),e1⟩
end Go.Eng.Sv
set_option maxRecDepth 100000
noncomputable section
namespace Go.Eng.Sv
open Go.Proofs
def xCs: List (Int×List Bool×List Int):=[(0,[true,true,true,true,true,true,true],[])]
def xNs: List ByteArray:=[⟨#[99]⟩]
def xOs: List ByteArray:=[⟨#[112]⟩]
def xFs: List Off:=[(⟨#[97]⟩,0,0,2,1,10,[]),(⟨#[98]⟩,0,0,2,1,10,[])]
def xLs: List Line:=[(⟨#[120]⟩,0,1,600,60,1),(⟨#[121]⟩,1,0,600,60,1)]
def xKs: List Cla:=[(⟨#[107]⟩,300,720)]
def yFs: List Off:=[(⟨#[97]⟩,0,0,2,1,10,[]),(⟨#[98]⟩,0,0,2,1,10,[]),(⟨#[99]⟩,0,0,2,1,10,[])]
def yLs: List Line:=[(⟨#[120]⟩,0,1,600,60,1),(⟨#[121]⟩,1,0,600,60,1),(⟨#[122]⟩,0,2,600,60,1),(⟨#[119]⟩,2,0,600,60,1)]
def aBV(a b:List Int): Bool:=a==b
def aHE(a b:List Int)(k:Int): Prop:=0<=k/\k<=a.length/\a.length=b.length/\a.length<=1000000/\a.take k.toNat=b.take k.toNat
def aAH(a:List Int): Prop:=a.length<=1000000
def aEU(a b:List (List (List Int))): Bool:=a==b
def aHB(a b:List (List (List Int)))(k:Int): Prop:=0<=k/\k<=a.length/\a.length=b.length/\a.take k.toNat=b.take k.toNat
def aLq(a:List (List (List Int))): Prop:=a.length<=1000000/\∀t∈a,mild t
def smF(n:Net)(nx:List (List Int)): Bool:=(aO5 n&&decide ((n.2.2.2.1.length:Int)<=6))&&(decide ((nx.length:Int)<=10)&&nx.all λr=>decide ((r.length:Int)<=10))
def bD1(nx:List (List Int))(k:Int): Prop:=0<=k/\k<=nx.length/\nx.length<=10/\∀i:Nat,(i:Int)<k->(nx.getD i []).length<=10
def w9(a b:Int): Bool:=decide (b<=IntKind.i64.wrap (a+9))||decide (b>IntKind.i64.wrap (a+60))
def bCs(n:Net)(a b:Int): Bool:=(smF n []&&decide ((n.2.2.2.2.2.length:Int)<=3))&&w9 a b
theorem aXX(z:Int)(w:List Bool)(h:List Int)(hvc:
 let c1:=Eh (Df w) 20;true/\(True->(c1->c1->c1)/\(c1->c1->c1)/\(c1->c1->c1)/\(Di true c1->c1)/\Ec c1 (Eh (Df h) 60) false=oN w h/\True)):
  evF (mkc KC8) aQ 167 [cal z w h] [] ⟨True,.dat .bool (oN w h),[]⟩:=@of_eq _ _ (by kernel_rfl) hvc
def KL1: Kt:=kOr 167 (aP [.row C] (λ_=>True) λ((_,w,h),_)=>.dat .bool (oN w h)) KC8
theorem bBB(k:Int)(cs:LC)(ns os:LB)(fs:List Off)(ls:List Line)(ks:List Cla)(hvc:
 let c1:=(cs,ns,os,fs,ls,ks);let c2:=Ea k 1;let c3:=Df (bM c1 1);let c4:=[ByteArray.mk #[]];let c6:=bM c1 k;let c7:=Ea k 2;let c8:=Df (bM c1 2);let c9:=Ea k 3;let c10:=Df (bM c1 3);let c11:=Df fs;let c13:=Ea k 4;let c14:=Df (bM c1 4);let c15:=Df ls;let c16:=((0:Int),(0:Int));let c18:=Ea k 5;let c19:=Df (bM c1 5);let c20:=Df ks;true/\(aBR c1->(c2->(∃x,let c22:=cO c1 1 x;upN x c3/\c1=c1/\Value.slice none (0) (0)=Value.slice none (0) (0)/\Dj c22=0/\c22=Dt ByteArray/\0=x/\k=k/\c22=Dt ByteArray/\True)/\∀(x:Int),let c23:=Dp x (Df cs);let c24:=Dp x (Df ns);let c25:=cO c1 1 x;let c26:=Dj c25;let c27:=[Du ns (Dc x) (ByteArray.mk #[])];let c28:=c26+Dj c27;let c29:=x+1;let c30:=c26+(Dj c4);upN x c3->(c23->(c24->0<=x/\x<Df ns/\c26=c26/\(c28*(16))<=(140737488355328)/\c28<=(9223372036854775807)/\inR IntKind.i64 c29/\∃y,let c31:=cO c1 1 y;upN y c3/\(c1=c1/\Value.slice none (0) (0)=Value.slice none (0) (0)/\c28=Dj c31/\c29=y/\k=k/\Ef c25 c27=c31/\True)/\Dc (c3-y)<Dc (c3-x))/\(c24=false->c26=c26/\(c30*(16))<=(140737488355328)/\c30<=(9223372036854775807)/\inR IntKind.i64 c29/\∃y,let c32:=cO c1 1 y;upN y c3/\(c1=c1/\Value.slice none (0) (0)=Value.slice none (0) (0)/\c30=Dj c32/\c29=y/\k=k/\Ef c25 c4=c32/\True)/\Dc (c3-y)<Dc (c3-x)))/\(c23=false->c26=c26/\c25=c6/\True))/\(c2=false->(c7->(∃x,let c33:=cO c1 2 x;upN x c8/\c1=c1/\Value.slice none (0) (0)=Value.slice none (0) (0)/\Dj c33=0/\c33=Dt ByteArray/\0=x/\k=k/\c33=Dt ByteArray/\True)/\∀(x:Int),let c34:=Dp x (Df os);let c35:=cO c1 2 x;let c36:=Dj c35;let c37:=[Du os (Dc x) (ByteArray.mk #[])];
 let c38:=c36+Dj c37;let c39:=x+1;upN x c8->(c34->0<=x/\x<Df os/\c36=c36/\(c38*(16))<=(140737488355328)/\c38<=(9223372036854775807)/\inR IntKind.i64 c39/\∃y,let c40:=cO c1 2 y;upN y c8/\(c1=c1/\Value.slice none (0) (0)=Value.slice none (0) (0)/\c38=Dj c40/\c39=y/\k=k/\Ef c35 c37=c40/\True)/\Dc (c8-y)<Dc (c8-x))/\(c34=false->c36=c36/\c35=c6/\True))/\(c7=false->(c9->(∃x,let c41:=cO c1 3 x;upN x c10/\c1=c1/\Value.slice none (0) (0)=Value.slice none (0) (0)/\Dj c41=0/\c41=Dt ByteArray/\0=x/\k=k/\c41=Dt ByteArray/\True)/\∀(x:Int),let c42:=cO c1 3 x;let c43:=Dj c42;let c44:=[(Du fs (Dc x) (ByteArray.mk #[],(0:Int),(0:Int),(0:Int),(0:Int),(0:Int),Dt ByteArray)).1];let c45:=c43+Dj c44;let c46:=x+1;upN x c10->(Dp x c11->0<=x/\x<c11/\c43=c43/\(c45*(16))<=(140737488355328)/\c45<=(9223372036854775807)/\inR IntKind.i64 c46/\∃y,let c47:=cO c1 3 y;upN y c10/\(c1=c1/\Value.slice none (0) (0)=Value.slice none (0) (0)/\c45=Dj c47/\c46=y/\k=k/\Ef c42 c44=c47/\True)/\Dc (c10-y)<Dc (c10-x))/\(Dp x c11=false->c43=c43/\c42=c6/\True))/\(c9=false->(c13->(∃x,let c48:=cO c1 4 x;upN x c14/\c1=c1/\Value.slice none (0) (0)=Value.slice none (0) (0)/\Dj c48=0/\c48=Dt ByteArray/\0=x/\k=k/\c48=Dt ByteArray/\True)/\∀(x:Int),let c49:=cO c1 4 x;let c50:=Dj c49;let c51:=[(Du ls (Dc x) (ByteArray.mk #[],(0:Int),(0:Int),(0:Int),c16)).1];let c52:=c50+Dj c51;let c53:=x+1;upN x c14->(Dp x c15->0<=x/\x<c15/\c50=c50/\(c52*(16))<=(140737488355328)/\c52<=(9223372036854775807)/\inR IntKind.i64 c53/\∃y,let c54:=cO c1 4 y;
 upN y c14/\(c1=c1/\Value.slice none (0) (0)=Value.slice none (0) (0)/\c52=Dj c54/\c53=y/\k=k/\Ef c49 c51=c54/\True)/\Dc (c14-y)<Dc (c14-x))/\(Dp x c15=false->c50=c50/\c49=c6/\True))/\(c13=false->(c18->(∃x,let c55:=cO c1 5 x;upN x c19/\c1=c1/\Value.slice none (0) (0)=Value.slice none (0) (0)/\Dj c55=0/\c55=Dt ByteArray/\0=x/\c55=Dt ByteArray/\True)/\∀(x:Int),let c56:=cO c1 5 x;let c57:=Dj c56;let c58:=[(Du ks (Dc x) (ByteArray.mk #[],c16)).1];let c59:=c57+Dj c58;let c60:=x+1;upN x c19->(Dp x c20->0<=x/\x<c20/\c57=c57/\(c59*(16))<=(140737488355328)/\c59<=(9223372036854775807)/\inR IntKind.i64 c60/\∃y,let c61:=cO c1 5 y;upN y c19/\(c1=c1/\Value.slice none (0) (0)=Value.slice none (0) (0)/\c59=Dj c61/\c60=y/\Ef c56 c58=c61/\True)/\Dc (c19-y)<Dc (c19-x))/\(Dp x c20=false->c57=c57/\c56=c6/\True))/\(c18=false->c6=Dt ByteArray/\True))))))):
  evF (mkc KL1) (lvA [(5,[2,4,5,6,7,8,9,10,11]),(12,[2,4,5,7,8,9,10,11]),(17,[2,4,5,8,9,10,11]),(22,[2,4,5,9,10,11]),(27,[2,4,5,10])] (bC0 (cs,ns,os,fs,ls,ks))) 168 [net cs ns os fs ls ks,.dat I k] [] ⟨aBR (cs,ns,os,fs,ls,ks)=true,.dat (.sl S) (bM (cs,ns,os,fs,ls,ks) k),[]⟩:=@of_eq _ _ (by kernel_rfl) hvc
theorem bBz(a b:List (List Int))(hvc:
 let c1:=Eb (Df a) (Df b);true/\(mild a->(c1->false=aCu a b/\True)/\(c1=false->(∃x,aHD a b x/\a=a/\b=b/\0=x/\True)/\∀(x:Int),let c2:=Dp x (Df a);let c3:=Du a (Dc x) [];let c4:=Df c3;let c5:=Du b (Dc x) [];let c6:=Df c5;let c7:=Eb c4 c6;let c8:=x+1;aHD a b x->(c2->0<=x/\x<Df a/\0<=x/\x<Df b/\(c7->false=aCu a b/\True)/\(c7=false->(∃x_4,aHF a b x x_4/\a=a/\b=b/\x=x/\0=x_4/\True)/\∀(x_4:Int),let c9:=Eb (Du c3 (Dc x_4) 0) (Du c5 (Dc x_4) 0);let c10:=x_4+1;aHF a b x x_4->0<=x/\x<Df a/\(Dp x_4 c4->0<=x/\x<Df a/\0<=x_4/\x_4<c4/\0<=x/\x<Df b/\0<=x_4/\x_4<c6/\(c9->false=aCu a b/\True)/\(c9=false->inR IntKind.i64 c10/\∃y,aHF a b x y/\(a=a/\b=b/\x=x/\c10=y/\True)/\Dc (c4-y)<Dc (c4-x_4)))/\(Dp x_4 c4=false->inR IntKind.i64 c8/\∃y,aHD a b y/\(a=a/\b=b/\c8=y/\True)/\Dc (Df a-y)<Dc (Df a-x))))/\(c2=false->true=aCu a b/\True)))):
  evF (mkc KL1) (lvA [(4,[0,1,4,5,6]),(9,[0,1,4,5,6])] (bCv a b)) 22 [.dat M a,.dat M b] [] ⟨mild a,.dat .bool (aCu a b),[]⟩:=@of_eq _ _ (by kernel_rfl) hvc
def bCw(a b:List Int): Ann:=⟨λid st=>match id with
 | 4=>some {α:=Int,inv:=λk=>aHE a b k,st:=λk=>put st [(5,.dat I k)],μ:=λk=>Dc (Dh (Df a) k)}
 | _=>none,λ_ _=>none,λ_ _=>none⟩
theorem bBA(a b:List Int)(hvc:
 let c1:=Eb (Df a) (Df b);true/\(aAH a->(c1->false=aBV a b/\True)/\(c1=false->(∃x,aHE a b x/\a=a/\b=b/\0=x/\True)/\∀(x:Int),let c2:=Dp x (Df a);let c3:=Eb (Du a (Dc x) 0) (Du b (Dc x) 0);let c4:=x+1;aHE a b x->(c2->0<=x/\x<Df a/\0<=x/\x<Df b/\(c3->false=aBV a b/\True)/\(c3=false->inR IntKind.i64 c4/\∃y,aHE a b y/\(a=a/\b=b/\c4=y/\True)/\Dc (Df a-y)<Dc (Df a-x)))/\(c2=false->true=aBV a b/\True)))):
  evF (mkc KL1) (lvA [(4,[0,1,4,5])] (bCw a b)) 35 [.dat R a,.dat R b] [] ⟨aAH a,.dat .bool (aBV a b),[]⟩:=@of_eq _ _ (by kernel_rfl) hvc
def KL2: Kt:=kOr 168 (aP [.row N,.val I] (λ(n,_,_)=>aBR n=true) λ(n,k,_)=>.dat (.sl S) (bM n k)) <|
 kOr 22 (aP [.val M,.val M] (λ(a,_,_)=>mild a) λ(a,b,_)=>.dat .bool (aCu a b)) <|
 kOr 35 (aP [.val R,.val R] (λ(a,_,_)=>aAH a) λ(a,b,_)=>.dat .bool (aBV a b)) KL1
theorem aXZ(cs:LC)(ns os:LB)(fs:List Off)(ls:List Line)(ks:List Cla)(hvc:
 let c1:=Df cs;let c2:=Ei c1 10;let c3:=Dk c2;let c4:=Ec c2 true (Ei (Df ns) 10);let c5:=Dk c4;let c6:=Ec c4 true (Ei (Df os) 10);let c7:=Dk c6;let c8:=Df fs;let c9:=Ec c6 true (Ei c8 16);let c10:=Dk c9;let c11:=Ec c9 true (Ei (Df ls) 50);let c12:=Dk c11;let c13:=Ec c11 true (Ei (Df ks) 8);let c14:=(cs,ns,os,fs,ls,ks);let c15:=aO5 c14;true/\(True->(c3->c3->c3)/\(c3->c3->c3)/\(c3->c3->c3)/\(Di true c3->c3)/\(c5->c5->c5)/\(c5->c5->c5)/\(c5->c5->c5)/\(Di true c5->c5)/\(c7->c7->c7)/\(c7->c7->c7)/\(c7->c7->c7)/\(Di true c7->c7)/\(c10->c10->c10)/\(c10->c10->c10)/\(c10->c10->c10)/\(Di true c10->c10)/\(c12->c12->c12)/\(c12->c12->c12)/\(c12->c12->c12)/\(Di true c12->c12)/\(c13->false=c15/\True)/\(c13=false->(∃x,aNk cs x/\c14=c14/\0=x/\True)/\∀(x:Int),let c16:=(Du cs (Dc x) ((0:Int),Dt Bool,Dt Int)).2;let c17:=Dk (oN c16.1 c16.2);let c18:=x+1;aNk cs x->(Dp x c1->0<=x/\x<c1/\True/\(c17->false=c15/\True)/\(c17=false->inR IntKind.i64 c18/\∃y,aNk cs y/\(c14=c14/\c18=y/\True)/\Dc (c1-y)<Dc (c1-x)))/\(Dp x c1=false->(∃x,aMN fs x/\c14=c14/\0=x/\True)/\∀(x:Int),let c19:=Ei (Df (Du fs (Dc x) (ByteArray.mk #[],(0:Int),(0:Int),(0:Int),(0:Int),(0:Int),Dt ByteArray)).2.2.2.2.2.2) 30;let c20:=x+1;aMN fs x->(Dp x c8->0<=x/\x<c8/\(c19->false=c15/\True)/\(c19=false->inR IntKind.i64 c20/\∃y,aMN fs y/\(c14=c14/\c20=y/\True)/\Dc (c8-y)<Dc (c8-x)))/\(Dp x c8=false->(∃x,aH2 c14 x/\c14=c14/\1=x/\True)/\∀(x:Int),let c21:=Eh x 5;let c22:=Df (bM c14 x);let c23:=x+1;
 aH2 c14 x->(c21->aBR c14/\(∃x_5,aVo (bM c14 x) x_5/\c14=c14/\x=x/\bM c14 x=bM c14 x/\0=x_5/\True)/\∀(x_5:Int),let c24:=Ei (Et (Du (bM c14 x) (Dc x_5) (ByteArray.mk #[]))) 40;let c25:=x_5+1;aVo (bM c14 x) x_5->(Dp x_5 c22->0<=x_5/\x_5<c22/\(c24->false=c15/\True)/\(c24=false->inR IntKind.i64 c25/\∃y,aVo (bM c14 x) y/\(c14=c14/\x=x/\bM c14 x=bM c14 x/\c25=y/\True)/\Dc (c22-y)<Dc (c22-x_5)))/\(Dp x_5 c22=false->inR IntKind.i64 c23/\∃y,aH2 c14 y/\(c14=c14/\c23=y/\True)/\Dc (6-y)<Dc (6-x)))/\(c21=false->true=c15/\True)))))):
  evF (mkc KL2) (lvA [(4,[1,2,3,4,5,6,7]),(9,[1,2,4,5,6,7]),(14,[1,2,5,6,7]),(18,[1,2,5,6,7])] (bHu (cs,ns,os,fs,ls,ks))) 104 [net cs ns os fs ls ks] [] ⟨True,.dat .bool (aO5 (cs,ns,os,fs,ls,ks)),[]⟩:=@of_eq _ _ (by kernel_rfl) hvc
def bCu(a b:List (List (List Int))): Ann:=⟨λid st=>match id with
 | 4=>some {α:=Int,inv:=λk=>aHB a b k,st:=λk=>put st [(5,.dat I k)],μ:=λk=>Dc (Dh (Df a) k)}
 | _=>none,λ_ _=>none,λ_ _=>none⟩
theorem bBy(a b:List (List (List Int)))(hvc:
 let c1:=Df a;let c2:=Df b;let c3:=Eb c1 c2;true/\(aLq a->(c3->false=aEU a b/\True)/\(c3=false->(∃x,aHB a b x/\a=a/\b=b/\0=x/\True)/\∀(x:Int),let c4:=Du a (Dc x) (Dt (List Int));let c5:=Dk (aCu c4 (Du b (Dc x) (Dt (List Int))));let c6:=x+1;aHB a b x->(Dp x c1->0<=x/\x<c1/\0<=x/\x<c2/\mild c4/\(c5->false=aEU a b/\True)/\(c5=false->inR IntKind.i64 c6/\∃y,aHB a b y/\(a=a/\b=b/\c6=y/\True)/\Dc (c1-y)<Dc (c1-x)))/\(Dp x c1=false->true=aEU a b/\True)))):
  evF (mkc KL2) (lvA [(4,[0,1,4,5])] (bCu a b)) 24 [.dat (.sl M) a,.dat (.sl M) b] [] ⟨aLq a,.dat .bool (aEU a b),[]⟩:=@of_eq _ _ (by kernel_rfl) hvc
def KL3: Kt:=kOr 104 (aP [.row N] (λ_=>True) λ(n,_)=>.dat .bool (aO5 n)) <|
 kOr 24 (aP [.val (.sl M),.val (.sl M)] (λ(a,_,_)=>aLq a) λ(a,b,_)=>.dat .bool (aEU a b)) KL2
def smA(nx:List (List Int)): Ann:=⟨λid s=>match id with
 | 4=>some {α:=Int,inv:=λk=>bD1 nx k,st:=λk=>put s [(5,.dat I k)],μ:=λk=>Dc (Dh (Df nx) k)}
 | _=>none,λ_ _=>none,λ_ _=>none⟩
theorem aTz(nx:List (List Int))(cs:LC)(ns os:LB)(fs:List Off)(ls:List Line)(ks:List Cla)(hvc:
 let c1:=(cs,ns,os,fs,ls,ks);let c2:=Dk (aO5 c1);let c3:=Dk c2;let c4:=Ec c2 true (Ei (Df fs) 6);let c5:=Dk c4;let c6:=Ec c4 true (Ei (Df nx) 10);let c7:=smF c1 nx;true/\(True->True/\(c3->c3->c3)/\(c3->c3->c3)/\(c3->c3->c3)/\(Di true c3->c3)/\(c5->c5->c5)/\(c5->c5->c5)/\(Di true c5->c5)/\(c6->false=c7/\True)/\(c6=false->(∃x,bD1 nx x/\nx=nx/\0=x/\True)/\∀(x:Int),let c8:=Dp x (Df nx);let c9:=Ei (Df (Du nx (Dc x) [])) 10;let c10:=x+1;bD1 nx x->(c8->0<=x/\x<Df nx/\(c9->false=c7/\True)/\(c9=false->inR IntKind.i64 c10/\∃y,bD1 nx y/\(nx=nx/\c10=y/\True)/\Dc (Df nx-y)<Dc (Df nx-x)))/\(c8=false->true=c7/\True)))):
  evF (mkc KL3) (lvA [(4,[1,4,5])] (smA nx)) 37 [net cs ns os fs ls ks,.dat M nx] [] ⟨True,.dat .bool (smF (cs,ns,os,fs,ls,ks) nx),[]⟩:=@of_eq _ _ (by kernel_rfl) hvc
def KL4: Kt:=kOr 37 (aP [.row N,.val M] (λ_=>True) λ(n,nx,_)=>.dat .bool (smF n nx)) KL3
theorem aTy(a b:Int)(cs:LC)(ns os:LB)(fs:List Off)(ls:List Line)(ks:List Cla)(hvc:
 let c1:=(cs,ns,os,fs,ls,ks);let c2:=smF c1 (Dt (List Int));let c3:=Ec c2 (Eh (Df ks) 3) false;let c4:=Eh b (Ey IntKind.i64 (a+9));true/\(True->True/\(c2->c2->c2)/\(c2->c2->c2)/\(c2->c2->c2)/\(Di true c2->c2)/\(c3->c3->c3)/\(c3->c3->c3)/\(c3->c3->c3)/\(c3->c3->c3)/\(Di c3 (Dk c4)->Di c3 (Dk c4)->Di c3 (Dk c4))/\(Di c3 (Dk c4)->Di c3 (Dk c4)->Di c3 (Dk c4))/\(Di c3 (Dk c4)->Di c3 (Dk c4)->Di c3 (Dk c4))/\(c3->c3->c3)/\(c3->Di c3 (Dk c4)->Di c3 (Dk c4))/\(Di true c3->c3)/\Ec c3 (Ec c4 true (Ei b (Ey IntKind.i64 (a+60)))) false=bCs c1 a b/\True)):
  evF {mkc KL4 with mb:=λt=>t==18||t==23} aQ 10 [net cs ns os fs ls ks,.dat I a,.dat I b] [] ⟨True,.dat .bool (bCs (cs,ns,os,fs,ls,ks) a b),[]⟩:=@of_eq _ _ (by kernel_rfl) hvc
theorem bBC(hvc:
 let c1:=((0:Int),(0:Int),(2:Int),(1:Int),(10:Int),Dt ByteArray);let c2:=((600:Int),(60:Int),(1:Int));true/\(True->1=1/\0=0/\1=1/\0=0/\1=1/\0=0/\1=1/\1=1/\0=0/\1=1/\1=1/\0=0/\1=1/\1=1/\0=0/\1=1/\0=0/\1=1/\0=0/\1=1/\0=0/\[((0:Int),[true,true,true,true,true,true,true],Dt Int)]=xCs/\[ByteArray.mk #[(99:UInt8)]]=xNs/\[ByteArray.mk #[(112:UInt8)]]=xOs/\[(ByteArray.mk #[(97:UInt8)],c1),(ByteArray.mk #[(98:UInt8)],c1)]=xFs/\[(ByteArray.mk #[(120:UInt8)],(0:Int),(1:Int),c2),(ByteArray.mk #[(121:UInt8)],(1:Int),(0:Int),c2)]=xLs/\[(ByteArray.mk #[(107:UInt8)],(300:Int),(720:Int))]=xKs/\True)):
  evF (mkc KL4) aQ 34 [] [] ⟨True,.agg [.dat (.sl C) xCs,.dat (.sl S) xNs,.dat (.sl S) xOs,.dat (.sl Of) xFs,.dat (.sl Ln) xLs,.dat (.sl Kl) xKs],[]⟩:=@of_eq _ _ (by kernel_rfl) hvc
def KL5: Kt:=kOr 10 (aP [.row N,.val I,.val I] (λ_=>True) λ(n,a,b,_)=>.dat .bool (bCs n a b)) <|
 kOr 34 (aP [] (λ_=>True) λ_=>.agg [.dat (.sl C) xCs,.dat (.sl S) xNs,.dat (.sl S) xOs,.dat (.sl Of) xFs,.dat (.sl Ln) xLs,.dat (.sl Kl) xKs]) <|
 kOr 11 (aP [.row N,.val I,.val I] (λ_=>True) λ(n,a,b,_)=>.tup [.agg [.dat I (aCb n a b).1,.dat I (aCb n a b).2.1,.dat M (aCb n a b).2.2.1,.dat (.sl M) (aCb n a b).2.2.2],.agg [.dat R (aNh n a b).1,.dat I (aNh n a b).2],.dat I (aEs n a b)]) <|
 kOr 12 (aP [.row N,.row Pl,.val I] (λ(_,p,_,_)=>mZ p) λ(n,p,o,_)=>.tup [.dat R (gsF n p o),.dat R (ofF n p o)]) <|
 kOr 26 (aP [.row N,.row (.pair R I)] (λ(n,c,_)=>Go.Eng.In.aMT c.1/\Go.Eng.In.aEa n) λ(n,c,_)=>.dat I (Go.Eng.In.nV n c.1 c.2)) <|
 kOr 36 (aP [.val R] (λ(l,_)=>Go.Eng.In.aSJ l) λ(l,_)=>.dat I (Go.Eng.In.aBU l)) KL4
def bHo: Ann:=⟨λ_ _=>none,λid s=>match id with
 | 8=>some (bC5 [1,2,3,4,5,6,9,10] (frz ((s.mem.filter λp=>match p.2 with
  | .buf ..=>true
  | _=>false).map (·.1)) s))
 | _=>none,λ_ _=>none⟩
theorem aPu(hvc:
 let c1:=(xCs,xNs,xOs,xFs,xLs,xKs);let c2:=aCb c1 0 1;let c3:=c2.1;let c4:=c2.2;let c5:=c4.1;let c6:=c4.2;let c7:=c6.1;let c8:=c6.2;let c9:=(c3,c5,c7,c8);let c10:=Df xFs;let c11:=(0)+Dj xLs;let c12:=Ef (Dt (ByteArray×Int×Int×Int×Int×Int)) xLs;let c13:=((600:Int),(60:Int),(1:Int));let c14:=[(ByteArray.mk #[(122:UInt8)],(0:Int),(2:Int),c13),(ByteArray.mk #[(119:UInt8)],(2:Int),(0:Int),c13)];let c15:=c11+Dj c14;let c16:=Ef c12 c14;let c17:=aEs c1 0 1;let c18:=gsF c1 c9 0;let c19:=ofF c1 c9 0;let c20:=aEs c1 0 61;let c21:=aNh c1 0 1;let c22:=c21.1;let c23:=c21.2;let c24:=aCb c1 0 61;let c25:=c24.1;let c26:=c24.2;let c27:=c26.1;let c28:=c26.2;let c29:=c28.1;let c30:=c28.2;let c31:=aNh c1 0 61;let c32:=c31.1;let c33:=c31.2;let c34:=(ByteArray.mk #[],(0:Int),(0:Int),(0:Int),(0:Int),(0:Int),Dt ByteArray);let c35:=Du xFs (Dc 0) c34;let c36:=c35.2;let c37:=c36.2;let c38:=c37.2;let c39:=c38.2;let c40:=c39.2;let c41:=Du xFs (Dc 1) c34;let c42:=c41.2;let c43:=c42.2;let c44:=c43.2;let c45:=c44.2;let c46:=c45.2;let c47:=[(c35.1,c36.1,c37.1,c38.1,c39.1,c40.1,c40.2),(c41.1,c42.1,c43.1,c44.1,c45.1,c46.1,c46.2),(ByteArray.mk #[(99:UInt8)],(0:Int),(0:Int),(2:Int),(1:Int),(10:Int),Dt ByteArray)];let c48:=Ea c17 0;let c49:=[(0:Int)];let c50:=(-1:Int)::c49;let c51:=Ec c48 (aCu c7 [c50,[(1:Int),(-1:Int)]]) false;let c52:=(0:Int)::c49;let c53:=Ec c51 (aEU c8 [[c52,c52]]) false;
 let c54:=Ec c53 (aBV c22 [(0:Int),(1:Int),(2:Int),(1:Int),(0:Int),(1:Int),(2:Int),(0:Int),(1:Int),(1:Int),(1:Int),(1:Int),(2:Int),(2:Int)]) false;let c55:=Ec c54 (Ea c23 (In.aBU c22)) false;let c56:=Ec c55 (aBV c18 c50) false;let c57:=Ec c56 (aBV c19 [(0:Int),(1:Int)]) false;let c58:=Ec c57 (Ea c20 1) false;let c59:=Ec c58 (Ea (aEs (xCs,xNs,xOs,c47,c16,xKs) 0 1) 140) false;
 true/\(True->True/\1=1/\0=0/\1=1/\0=0/\True/\1=1/\0=0/\1=1/\0=0/\1=1/\0=0/\1=1/\0=0/\mZ c9/\1=1/\0=0/\True/\1=1/\0=0/\1=1/\0=0/\1=1/\0=0/\1=1/\0=0/\1=1/\1=1/\0=0/\Dl 0 0/\0<c10/\1=1/\1=1/\0=0/\Dl 0 1/\1<c10/\1=1/\1=1/\0=0/\1=1/\1=1/\0=0/\Dj (Dt (ByteArray×Int×Int×Int×Int×Int))=0/\(c11*(56))<=(140737488355328)/\c11<=(9223372036854775807)/\Dj c12=c11/\(c15*(56))<=(140737488355328)/\c15<=(9223372036854775807)/\1=1/\1=1/\0=0/\Dj c16=c15/\1=1/\0=0/\0=0/\1=1/\0=0/\0=0/\1=1/\0=0/\0=0/\c17=c17/\c18=c18/\c19=c19/\c20=c20/\1=1/\0=0/\0=0/\xCs=xCs/\xNs=xNs/\xOs=xOs/\xFs=xFs/\xLs=xLs/\xKs=xKs/\c3=c3/\c5=c5/\c7=c7/\c8=c8/\c22=c22/\c23=c23/\c25=c25/\c27=c27/\c29=c29/\c30=c30/\c32=c32/\c33=c33/\xCs=xCs/\xNs=xNs/\xOs=xOs/\c47=c47/\Dj c16=c15/\c16=c16/\xKs=xKs/\1=1/\0=0/\True/\1=1/\0=0/\1=1/\0=0/\(c48->1=1)/\(c48->c48->c48)/\(c48->1=1)/\(c48->0=0)/\(c48->c48->c48)/\(c48->c48->c48)/\(c48->c48->c48)/\(c48->c48->c48)/\(c48->mild c7)/\(Di true c48->c48)/\(c51->1=1)/\(c51->c51->c51)/\(c51->1=1)/\(c51->0=0)/\(c51->c51->c51)/\(c51->c51->c51)/\(c51->c51->c51)/\(c51->c51->c51)/\(c51->c51->c51)/\(c51->aLq c8)/\(Di true c51->c51)/\(c53->1=1)/\(c53->c53->c53)/\(c53->1=1)/\(c53->0=0)/\(c53->c53->c53)/\(c53->c53->c53)/\(c53->aAH c22)/\(Di true c53->c53)/\(c54->1=1)/\(c54->c54->c54)/\(c54->1=1)/\(c54->0=0)/\(c54->1=1)/\(c54->c54->c54)/\(c54->1=1)/\(c54->0=0)/\(c54->c54->c54)/\(c54->In.aSJ c22)/\(c54->c54->c54)/\(c54->c54->c54)/\(Di true c54->c54)/\(c55->c55->c55)/\(c55->c55->c55)/\(c55->aAH c18)/\(Di true c55->c55)/\(c56->c56->c56)/\(c56->c56->c56)/\(c56->aAH c19)/\(Di true c56->c56)/\(c57->c57->c57)/\(Di true c57->c57)/\(c58->c58->c58)/\(Di true c58->c58)/\(c59->1=1)/\(c59->0=0)/\(c59->1=1)/\(c59->0=0)/\(c59->c59->c59)/\(c59->c59->c59)/\
 (c59->In.aMT c22/\In.aEa c1)/\(c59->c59->c59)/\(Di true c59->c59)/\Ec c59 (Ea (In.nV c1 c22 c23) 0) false/\True)):
  evF {mkc KL5 with mb:=λt=>t==46} bHo 9 [] [] ⟨True,.dat .bool true,[]⟩:=@of_eq _ _ (by kernel_rfl) hvc
def KL6: Kt:=kOr 9 (aP [] (λ_=>True) λ_=>.dat .bool true) KL5
theorem bCb(z:Int)(w:List Bool)(h:List Int): aB Tryz.prog G0 167 [cal z w h] [] ⟨True,.dat .bool (oN w h),[]⟩:=by
 refine aA (c:=mkc KC8) aST bD hm (aXX z w h ⟨rfl,λ_=>?_⟩)
 simp only[qc,Di,Es,Dk,oN,Eh,Df]
 congr 1<;>congr 1<;>exact propext (by omega)
theorem bEs: aI Tryz.prog G0 KL1:=aH (aC λ((z,w,h),_)=>bCb z w h) aST
theorem bFj(k:Int)(cs:LC)(ns os:LB)(fs:List Off)(ls:List Line)(ks:List Cla): aB Tryz.prog G0 168 [net cs ns os fs ls ks,.dat I k] [] ⟨aBR (cs,ns,os,fs,ls,ks)=true,.dat (.sl S) (bM (cs,ns,os,fs,ls,ks) k),[]⟩:=by
 refine aA (c:=mkc KL1) bEs bD hm (bBB k cs ns os fs ls ks ⟨rfl,λhp=>?_⟩)
 obtain⟨l1,l2,l3,l4,l5,l6⟩:=aIf cs ns os fs ls ks hp;simp only[qc,Di,Es,Dk,qd,Dt,Ea,Eb,Dp,Ei,Eh,Ed,Ew,Df,Et,Dl,Dn,Eo,Dy,Dw,Dh,Dq,Ee,Fg,Dc,Dx,Dj,Dz,Ej,Du,Eu,Ez,En,Ef,Fe,Fj,Fh,Ep,Em,Ey,Fb];refine⟨λhk=>?_,λh1=>⟨λhk=>?_,λh2=>⟨λhk=>?_,λh3=>⟨λhk=>?_,λh4=>⟨λhk=>?_,λh5=>?_⟩⟩⟩⟩⟩
 .subst hk;have hl:(bM (cs,ns,os,fs,ls,ks) 1).length=cs.length:=nC cs ns;obtain⟨b1,b2⟩:=aJB (n:=(cs,ns,os,fs,ls,ks)) (k:=1) (el:=λx=>ns.getD x.toNat ⟨#[]⟩) (R:=bM (cs,ns,os,fs,ls,ks) 1) hl (by omega) (λx h0 h1=>aFX h0 h1) rfl
  refine⟨b1,λx hx=>⟨λhlt=>⟨λhn=>⟨hx.1,hn,((b2 x hx).1 hlt).2.2⟩,λhn=>?_⟩,(b2 x hx).2⟩⟩
  have e:ns.getD x.toNat ⟨#[]⟩=⟨#[]⟩:=by rw[qA,zD (by have:=hx.1;omega)];rfl
  have:=((b2 x hx).1 hlt).2.2;simp only[e]at this;exact this
 .subst hk;exact aJB (n:=(cs,ns,os,fs,ls,ks)) (k:=2) (m:=os.length) (el:=λx=>os.getD x.toNat ⟨#[]⟩) rfl (by omega) (λx _ _=>rfl) rfl
 .subst hk;exact aJB (n:=(cs,ns,os,fs,ls,ks)) (k:=3) (m:=fs.length) (el:=λx=>(fs.getD x.toNat (⟨#[]⟩,0,0,0,0,0,[])).1) (map_length _ fs) (by omega) (λx h0 h1=>aOf _ h0 h1) rfl
 .subst hk;exact aJB (n:=(cs,ns,os,fs,ls,ks)) (k:=4) (m:=ls.length) (el:=λx=>(ls.getD x.toNat (⟨#[]⟩,0,0,0,0,0)).1) (map_length _ ls) (by omega) (λx h0 h1=>aOf _ h0 h1) rfl
 .subst hk;exact aJB (n:=(cs,ns,os,fs,ls,ks)) (k:=5) (m:=ks.length) (el:=λx=>(ks.getD x.toNat (⟨#[]⟩,0,0)).1) (map_length _ ks) (by omega) (λx h0 h1=>aOf _ h0 h1) rfl
 .unfold bM;rw[if_neg h1,if_neg h2,if_neg h3,if_neg h4,if_neg h5]
theorem bFh(a b:List (List Int)): aB Tryz.prog G0 22 [.dat M a,.dat M b] [] ⟨mild a,.dat .bool (aCu a b),[]⟩:=by
 refine aA (c:=mkc KL1) bEs bD hm (bBz a b ⟨rfl,λ⟨hp,hp2⟩=>?_⟩)
 simp only[qc,Di,Es,Dk,qd,Dt,Ea,Eb,Dp,Ei,Eh,Ed,Ew,Df,Et,Dl,Dn,Eo,Dy,Dw,Dh,Dq,Ee,Fg,Dc,Dx,Dj,Dz,Ej,Du,Eu,Ez,En,Ef,Fe,Fj,Fh,Ep,Em,Ey,Fb];refine⟨λh=>aHC λe=>h (by rw[e]),λh=>⟨⟨qL _,qR _,by omega,hp,rfl⟩,λx ⟨g0,g1,g2,g3,g4⟩=>⟨λhlt=>⟨g0,hlt,g0,by omega,λhd=>aHC λe=>hd (by rw[e]),λhd=>?_⟩,λhge=>?_⟩⟩⟩
 .have hm2:=hp2 _ (getD_mem (l:=a) (i:=x.toNat) (d:=[]) (by omega))
  refine⟨⟨qL _,qR _,by omega,hm2,rfl⟩,λz ⟨f0,f1,f2,f3,f4⟩=>⟨g0,hlt,λhz=>⟨g0,hlt,f0,hz,g0,by omega,f0,by omega,λhd=>aHC λe=>hd (by rw[e]),λhe=>⟨⟨by omega,by omega⟩,z+1,⟨by omega,by omega,f2,f3,?_⟩,rfl,by omega⟩⟩,λhz=>⟨⟨by omega,by omega⟩,x+1,⟨by omega,by omega,g2,g3,?_⟩,rfl,by omega⟩⟩⟩
  .rw[show(z+1).toNat=z.toNat+1 by omega]
   exact rW f4 (by omega) (by omega) he
  .rw[show(x+1).toNat=x.toNat+1 by omega]
   refine rW (d:=[]) g4 (by omega) (by omega) ?_
   rw[qO (by omega),qO (by omega)]at f4
   exact f4
 .rw[qO (by omega),qO (by omega)]at g4
  subst g4;unfold aCu;simp
theorem aMu{a b:List Int}(h:a≠b): false=aBV a b:=by unfold aBV;exact(qAd.2 h).symm
theorem bFi(a b:List Int): aB Tryz.prog G0 35 [.dat R a,.dat R b] [] ⟨aAH a,.dat .bool (aBV a b),[]⟩:=by
 refine aA (c:=mkc KL1) bEs bD hm (bBA a b ⟨rfl,λhp=>?_⟩)
 simp only[qc,Di,Es,Dk,qd,Dt,Ea,Eb,Dp,Ei,Eh,Ed,Ew,Df,Et,Dl,Dn,Eo,Dy,Dw,Dh,Dq,Ee,Fg,Dc,Dx,Dj,Dz,Ej,Du,Eu,Ez,En,Ef,Fe,Fj,Fh,Ep,Em,Ey,Fb];refine⟨λh=>aMu λe=>h (by rw[e]),λh=>⟨⟨qL _,qR _,by omega,hp,rfl⟩,λx ⟨g0,g1,g2,g3,g4⟩=>⟨λhlt=>⟨g0,hlt,g0,by omega,λhd=>aMu λe=>hd (by rw[e]),λhd=>⟨⟨by omega,by omega⟩,x+1,⟨by omega,by omega,g2,g3,?_⟩,rfl,by omega⟩⟩,λhge=>?_⟩⟩⟩
 .rw[show(x+1).toNat=x.toNat+1 by omega]
  exact rW g4 (by omega) (by omega) hd
 .rw[qO (by omega),qO (by omega)]at g4
  subst g4;unfold aBV;simp
theorem bGi: aI Tryz.prog G0 KL2:=aH (aC λ((cs,ns,os,fs,ls,ks),k,_)=>bFj k cs ns os fs ls ks)<|aH (aC λ(a,b,_)=>bFh a b)<|aH (aC λ(a,b,_)=>bFi a b) bEs
theorem bCY{n:Net}(q:aBR n=true)(k:Int): (bM n k).length<=100:=by
 obtain⟨cs,ns,os,fs,ls,ks⟩:=n;obtain⟨l1,l2,l3,l4,l5,l6⟩:=aIf cs ns os fs ls ks q;unfold bM;split
 .exact wC (zW (nC cs ns)) (by omega)
 split
 .show os.length<=100;omega
 split
 .exact wC (zW (map_length _ fs)) (by omega)
 split
 .exact wC (zW (map_length _ ls)) (by omega)
 split
 .exact wC (zW (map_length _ ks)) (by omega)
 .exact wX _
theorem bCd(cs:LC)(ns os:LB)(fs:List Off)(ls:List Line)(ks:List Cla): aB Tryz.prog G0 104 [net cs ns os fs ls ks] [] ⟨True,.dat .bool (aO5 (cs,ns,os,fs,ls,ks)),[]⟩:=by
 refine aA (c:=mkc KL2) bGi bD hm (aXZ cs ns os fs ls ks ⟨rfl,λhp=>?_⟩)
 simp only[qc,Di,Es,Dk,qd,Dt,Ea,Eb,Dp,Ei,Eh,Ed,Ew,Df,Et,Dl,Dn,Eo,Dy,Dw,Dh,Dq,Ee,Fg,Dc,Dx,Dj,Dz,Ej,Du,Eu,Ez,En,Ef,Fe,Fj,Fh,Ep,Em,Ey,Fb];refine⟨λh=>aM8 λg=>?_,λh=>?_⟩
 .obtain⟨l1,l2,l3,l4,l5,l6⟩:=aIf cs ns os fs ls ks (aCO.1 g).1;omega
 have hl:aBR (cs,ns,os,fs,ls,ks)=true:=qW (by show cs.length<=10/\ns.length<=10/\os.length<=10/\fs.length<=16/\ls.length<=50/\ks.length<=8;omega)
 refine⟨⟨qL _,qR _,by simp⟩,λx ⟨x0,x1,x2⟩=>⟨λhlt=>⟨x0,hlt,λhb=>aM8 λg=>?_,λhg=>⟨⟨by omega,by omega⟩,x+1,⟨by omega,by omega,?_⟩,rfl,by omega⟩⟩,λhge=>?_⟩⟩
 .have:=aBi (l:=cs) (p:=λc=>oN c.2.1 c.2.2) (d:=(0,[],[])) (k:=x.toNat) (by omega) hb
  rw[(aCO.1 g).2.1]at this;cases this
 .rw[show(x+1).toNat=x.toNat+1 by omega]
  exact mF (d:=(0,[],[])) x2 (by omega) hg
 have hcs:(cs.all λc=>oN c.2.1 c.2.2)=true:=by rwa [qO (by omega)]at x2
 refine⟨⟨qL _,qR _,by simp⟩,λz ⟨z0,z1,z2⟩=>⟨λhlt=>⟨z0,hlt,λhb=>aM8 λg=>?_,λhg=>⟨⟨by omega,by omega⟩,z+1,⟨by omega,by omega,?_⟩,rfl,by omega⟩⟩,λhge=>?_⟩⟩
 .have:=aBi (l:=fs) (p:=λo=>decide (o.2.2.2.2.2.2.length<=30)) (d:=(⟨#[]⟩,0,0,0,0,0,[])) (k:=z.toNat) (by omega) (vG (by omega))
  rw[(aCO.1 g).2.2.1]at this;cases this
 .rw[show(z+1).toNat=z.toNat+1 by omega]
  exact mF (d:=(⟨#[]⟩,0,0,0,0,0,[])) z2 (by omega) (qW (by omega))
 have hfs:(fs.all λo=>decide (o.2.2.2.2.2.2.length<=30))=true:=by rwa [qO (by omega)]at z2
 refine⟨⟨qL _,by decide,λj h1 h2=>by omega⟩,λk ⟨k0,k1,k2⟩=>⟨λhk=>?_,λhk=>?_⟩⟩
 .have hlen:(bM (cs,ns,os,fs,ls,ks) k).length<=100:=bCY hl k;refine⟨hl,⟨qL _,qR _,by simp[aBJ]⟩,λi ⟨i0,i1,i2⟩=>⟨λhlt=>⟨i0,hlt,λhb=>aM8 λg=>?_,λhg=>⟨⟨by omega,by omega⟩,i+1,⟨by omega,by omega,?_⟩,rfl,by omega⟩⟩,λhge=>⟨⟨by omega,by omega⟩,k+1,⟨by omega,by omega,λj h1 h2=>?_⟩,rfl,by omega⟩⟩⟩
  .have:=aBi (l:=bM (cs,ns,os,fs,ls,ks) k) (p:=λs=>decide (s.size<=40)) (d:=⟨#[]⟩) (k:=i.toNat) (by omega) (vG (by omega))
   have h2:=(aCO.1 g).2.2.2 k k0 (by omega)
   unfold aBJ at h2;rw[h2]at this;cases this
  .rw[show(i+1).toNat=i.toNat+1 by omega]
   exact mF (d:=⟨#[]⟩) i2 (by omega) (qW (by omega))
  .by_cases e:j=k
   .subst e
    rwa [qO (by omega)]at i2
   .exact k2 j h1 (by omega)
 .exact(aCO.2 ⟨hl,hcs,hfs,λj h1 h2=>k2 j h1 (by omega)⟩).symm
theorem aMt{a b:List (List (List Int))}(h:a≠b): false=aEU a b:=by unfold aEU;exact(qAd.2 h).symm
theorem aI7{a b:List (List Int)}: aCu a b=true↔a=b:=xJ
theorem bFg(a b:List (List (List Int))): aB Tryz.prog G0 24 [.dat (.sl M) a,.dat (.sl M) b] [] ⟨aLq a,.dat .bool (aEU a b),[]⟩:=by
 refine aA (c:=mkc KL2) bGi bD hm (bBy a b ⟨rfl,λhp=>?_⟩)
 simp only[qc,Di,Es,Dk,qd,Dt,Ea,Eb,Dp,Ei,Eh,Ed,Ew,Df,Et,Dl,Dn,Eo,Dy,Dw,Dh,Dq,Ee,Fg,Dc,Dx,Dj,Dz,Ej,Du,Eu,Ez,En,Ef,Fe,Fj,Fh,Ep,Em,Ey,Fb];obtain⟨hp1,hp2⟩:=hp;refine⟨λh=>aMt λe=>h (by rw[e]),λh=>⟨⟨qL _,qR _,by omega,rfl⟩,λx ⟨g0,g1,g2,g3⟩=>⟨λhlt=>⟨g0,hlt,g0,by omega,hp2 _ (getD_mem (by omega)),λhd=>aMt λe=>?_,λhd=>⟨bC (by omega),x+1,⟨by omega,by omega,g2,?_⟩,rfl,by omega⟩⟩,λhge=>?_⟩⟩⟩
 .rw[e,aI7.2 rfl]at hd;cases hd
 .rw[show(x+1).toNat=x.toNat+1 by omega]
  exact rW g3 (by omega) (by omega) (aI7.1 hd)
 .rw[qO (by omega),qO (by omega)]at g3
  subst g3;unfold aEU;simp
theorem bG0: aI Tryz.prog G0 KL3:=aH (aC λ((cs,ns,os,fs,ls,ks),_)=>bCd cs ns os fs ls ks)<|aH (aC λ(a,b,_)=>bFg a b) bGi
theorem aYO(nx:List (List Int))(cs:LC)(ns os:LB)(fs:List Off)(ls:List Line)(ks:List Cla): aB Tryz.prog G0 37 [net cs ns os fs ls ks,.dat M nx] [] ⟨True,.dat .bool (smF (cs,ns,os,fs,ls,ks) nx),[]⟩:=by
 refine aA (c:=mkc KL3) bG0 bD hm (aTz nx cs ns os fs ls ks ⟨rfl,λ_=>?_⟩)
 simp only[qc,Di,Es,Dk,qd,Dt,Ea,Eb,Dp,Ei,Eh,Ed,Ew,Df,Et,Dl,Dn,Eo,Dy,Dw,Dh,Dq,Ee,Fg,Dc,Dx,Dj,Dz,Ej,Du,Eu,Ez,En,Ef,Fe,Fj,Fh,Ep,Em,Ey,Fb];have e:smF (cs,ns,os,fs,ls,ks) nx=((aO5 (cs,ns,os,fs,ls,ks)&&decide ((fs.length:Int)<=6))&&(decide ((nx.length:Int)<=10)&&nx.all λr=>decide ((r.length:Int)<=10))):=rfl
 refine⟨λh=>?_,λ⟨⟨h1,h2⟩,h3⟩=>⟨⟨qL _,qR _,by omega,λi h=>by omega⟩,λx hx=>⟨λhlt=>⟨hx.1,hlt,λhb=>?_,λhb=>⟨bC (by have:=hx.1;omega),x+1,⟨by have:=hx.1;omega,by omega,hx.2.2.1,λi hi=>?_⟩,rfl,by have:=hx.1;omega⟩⟩,λhge=>?_⟩⟩⟩
 .rw[e];rcases h with(h | h) | h
  .rw[h];rfl
  .rw[vG (by omega),xM];rfl
  .rw[vG (p:=(nx.length:Int)<=10) (by omega),kT,xM]
 .rw[e];have:(nx.all λr=>decide ((r.length:Int)<=10))=false:=by
   refine qCt.2 ⟨nx.getD x.toNat [],?_,by simp only[qE];omega⟩
   rw[qA,qB (by have:=hx.1;omega),qQ];exact wH _
  rw[this,xM,xM]
 .by_cases h:(i:Int)<x
  .exact hx.2.2.2 i h
  .have:i=x.toNat:=by have:=hx.1;omega
   rw[this];omega
 .rw[e,h1,qW (by omega),qW (p:=(nx.length:Int)<=10) (by omega)]
  refine(qM.2 λr hr=>?_).symm
  obtain⟨i,hi,rfl⟩:=wY.1 hr;have:=hx.2.2.2 i (by omega)
  rw[qA,qB hi,qQ]at this;simp only[qE];omega
theorem bGh: aI Tryz.prog G0 KL4:=aH (aC λ((cs,ns,os,fs,ls,ks),nx,_)=>aYO nx cs ns os fs ls ks) bG0
theorem aYN(a b:Int)(cs:LC)(ns os:LB)(fs:List Off)(ls:List Line)(ks:List Cla): aB Tryz.prog G0 10 [net cs ns os fs ls ks,.dat I a,.dat I b] [] ⟨True,.dat .bool (bCs (cs,ns,os,fs,ls,ks) a b),[]⟩:=by
 refine aA (c:={mkc KL4 with mb:=λt=>t==18||t==23}) bGh bD hm (aTy a b cs ns os fs ls ks ⟨rfl,λ_=>?_⟩)
 simp only[qc,Di,Es,Dk,qd,Dt,Ea,Eb,Dp,Ei,Eh,Ed,Ew,Df,Et,Dl,Dn,Eo,Dy,Dw,Dh,Dq,Ee,Fg,Dc,Dx,Dj,Dz,Ej,Du,Eu,Ez,En,Ef,Fe,Fj,Fh,Ep,Em,Ey,Fb];rfl
theorem bFk: aB Tryz.prog G0 34 [] [] ⟨True,.agg [.dat (.sl C) xCs,.dat (.sl S) xNs,.dat (.sl S) xOs,.dat (.sl Of) xFs,.dat (.sl Ln) xLs,.dat (.sl Kl) xKs],[]⟩:=by
 refine aA (c:=mkc KL4) bGh bD hm (bBC ⟨rfl,λ_=>?_⟩)
 simp only[qc,Di,Es,Dk,qd,Dt,Ea,Eb,Dp,Ei,Eh,Ed,Ew,Df,Et,Dl,Dn,Eo,Dy,Dw,Dh,Dq,Ee,Fg,Dc,Dx,Dj,Dz,Ej,Du,Eu,Ez,En,Ef,Fe,Fj,Fh,Ep,Em,Ey,Fb];exact⟨rfl,rfl,rfl,rfl,rfl,rfl⟩
theorem bGZ: aI Tryz.prog G0 KL5:=aH (aC λ((cs,ns,os,fs,ls,ks),a,b,_)=>aYN a b cs ns os fs ls ks)<|aH (aC λ_=>bFk)<|aH (aC λ((cs,ns,os,fs,ls,ks),a,b,_)=>aP7 aGY a b cs ns os fs ls ks) <|
 aH (aC λ((cs,ns,os,fs,ls,ks),(p1,p2,nx,dy),o,_)=>aUq aGY o cs ns os fs ls ks p1 p2 nx dy)<|aH (aC λ((cs,ns,os,fs,ls,ks),c,_)=>aZU (Go.Eng.In.aY4 c.2 c.1 cs ns os fs ls ks))<|aH (aC λ(l,_)=>aZU (Go.Eng.In.aKR l)) bGh
noncomputable abbrev xN: Net:=(xCs,xNs,xOs,xFs,xLs,xKs)
abbrev xP: Plan:=(0,1,[[-1,0],[1,-1]],[[[0,0],[0,0]]])
abbrev xL: List Int:=[0,1,2,1,0,1,2,0,1,1,1,1,2,2]
set_option maxHeartbeats 4000000 in
theorem aUp: aB Tryz.prog G0 9 [] [] ⟨True,.dat .bool true,[]⟩:=by
 refine aA (c:={mkc KL5 with mb:=λt=>t==46}) bGZ bD hm (aPu ?_)
 intro c1 c2 c3 c4 c5 c6 c7 c8 c9 c10 c11 c12 c13 c14 c15 c16 c17 c18 c19 c20 c21 c22 c23 c24 c25 c26 c27 c28 c29 c30 c31 c32 c33 c34 c35 c36 c37 c38 c39 c40 c41 c42 c43 c44 c45 c46 c47 c48 c49 c50 c51 c52 c53 c54 c55 c56 c57 c58 c59;have q2:c2=xP:=by decide +kernel
 have q7:c7=[[-1,0],[1,-1]]:=by show c2.2.2.1=_;rw[q2]
 have q8:c8=[[[0,0],[0,0]]]:=by show c2.2.2.2=_;rw[q2]
 have q9:c9=xP:=by show(c2.1,c2.2.1,c2.2.2.1,c2.2.2.2)=_;rw[q2]
 have q17:c17=0:=by decide +kernel
 have q18:c18=[-1,0]:=by show gsF xN c9 0=_;rw[q9];decide +kernel
 have q19:c19=[0,1]:=by show ofF xN c9 0=_;rw[q9];decide +kernel
 have q20:c20=1:=by decide +kernel
 have q21:c21=(xL,Go.Eng.In.aBU xL):=by decide +kernel
 have q22:c22=xL:=by show c21.1=_;rw[q21]
 have q23:c23=Go.Eng.In.aBU xL:=by show c21.2=_;rw[q21]
 have h5:aEs (xCs,xNs,xOs,c47,c16,xKs) 0 1=140:=by
  show aEs (xCs,xNs,xOs,yFs,yLs,xKs) 0 1=140
  decide +kernel
 have h8:Go.Eng.In.nV xN xL (Go.Eng.In.aBU xL)=0:=by decide +kernel
 have e48:c48=true:=by show Ea c17 0=true;rw[q17];rfl
 have e51:c51=true:=by show Ec c48 (aCu c7 [[-1,0],[1,-1]]) false=true;rw[e48,q7];rfl
 have e53:c53=true:=by show Ec c51 (aEU c8 [[[0,0],[0,0]]]) false=true;rw[e51,q8];rfl
 have e54:c54=true:=by show Ec c53 (aBV c22 xL) false=true;rw[e53,q22];rfl
 have e55:c55=true:=by show Ec c54 (Ea c23 (In.aBU c22)) false=true;rw[e54,q22,q23];show decide (In.aBU xL=In.aBU xL)=true;exact qW rfl
 have e56:c56=true:=by show Ec c55 (aBV c18 [-1,0]) false=true;rw[e55,q18];rfl
 have e57:c57=true:=by show Ec c56 (aBV c19 [0,1]) false=true;rw[e56,q19];rfl
 have e58:c58=true:=by show Ec c57 (Ea c20 1) false=true;rw[e57,q20];rfl
 have e59:c59=true:=by show Ec c58 (Ea (aEs (xCs,xNs,xOs,c47,c16,xKs) 0 1) 140) false=true;rw[e58,h5];rfl
 have e60:Ec c59 (Ea (In.nV c1 c22 c23) (0:Int)) false=true:=by
  show Ec c59 (Ea (In.nV xN c22 c23) (0:Int)) false=true;rw[e59,q22,q23,h8];rfl
 have m7:mild c7:=by rw[q7];unfold mild;decide
 have m8:aLq c8:=by rw[q8];unfold aLq mild;decide
 have m9:mZ c9:=by rw[q9];unfold mZ gZ;decide
 have m22:aAH c22:=by rw[q22];unfold aAH;decide
 have s22:In.aSJ c22:=by rw[q22];unfold In.aSJ;decide
 have l22:In.aMT c22/\In.aEa c1:=⟨by rw[q22];unfold In.aMT;decide,by show In.aEa xN;unfold In.aEa;decide⟩
 have m18:aAH c18:=by rw[q18];unfold aAH;decide
 have m19:aAH c19:=by rw[q19];unfold aAH;decide
 have k10:Dn (0:Int) c10/\Dn (1:Int) c10:=by constructor<;>decide
 have k11:Dy (Ej c11 (56)) (140737488355328)/\Dy c11 (9223372036854775807):=by constructor<;>decide
 have k15:Dy (Ej c15 (56)) (140737488355328)/\Dy c15 (9223372036854775807):=by constructor<;>decide
 have k16:Dj c12=c11/\Dj c16=c15:=⟨rfl,rfl⟩;clear_value c59 c58 c57 c56 c55 c54 c53 c51 c48 c31 c24 c23 c22 c21 c20 c19 c18 c17 c9 c8 c7 c2;subst e48 e51 e53 e54 e55 e56 e57 e58 e59;refine⟨rfl,λ_=>?_⟩
 generalize mZ c9=F9 at m9 ⊢
 and_intros
 all_goals first
  | with_reducible exact trivial
  | with_reducible rfl
  | with_reducible exact e60
  | with_reducible exact m9
  | with_reducible exact λ_=>m7
  | with_reducible exact λ_=>m8
  | with_reducible exact λ_=>m22
  | with_reducible exact λ_=>s22
  | with_reducible exact λ_=>l22
  | with_reducible exact λ_=>m18
  | with_reducible exact λ_=>m19
  | with_reducible exact k10.1
  | with_reducible exact k10.2
  | with_reducible exact k11.1
  | with_reducible exact k11.2
  | with_reducible exact k15.1
  | with_reducible exact k15.2
  | with_reducible exact k16.1
  | with_reducible exact k16.2
  | with_reducible exact λ_=>rfl
  | with_reducible exact λh _=>h
  | with_reducible exact λh=>h
  | decide
  | rfl
theorem bEr: aI Tryz.prog G0 KL6:=aH (aC λ_=>aUp) bGZ
end Go.Eng.Sv
set_option maxRecDepth 100000
noncomputable section
namespace Go.Eng.Sv
open Go.Proofs
def bAN(a b:Int): Int:=a/b
def aG9(a b:Int): Prop:=aB0 a/\aJw b
def aXb(h:List Int)(d:Int): Bool:=h.contains d
def aVH(h:List Int)(d k:Int): Prop:=0<=k/\k<=h.length/\h.length<=1000000/\(h.take k.toNat).contains d=false
def aGa(z:Int)(w:List Bool)(h:List Int)(d:Int): Prop:=aO z w h=true/\dK d=true
def bAQ(n:Net)(k o d:Int): Int:=iK (aS n o).1 d (dM n k).2.1
def bDm(n:Net)(k o a b d:Int): Bool:=bV (aS n o).2.1 (aS n o).2.2 d&&decide (1440*a<=bAQ n k o d)&&decide (bAQ n k o d<1440*b)
def aBY(n:Net)(k o a b d:Int): List Int:=(((List.range (d-(a-2)).toNat).map λi:Nat=>a-2+(i:Int)).filter λx=>bDm n k o a b x).map (bAQ n k o)
def aK8(n:Net)(k o a b:Int): List Int:=aBY n k o a b (b+3)
def aOc(n:Net)(k o a b:Int): Prop:=aAL n o/\aIq n k/\0<=a/\a<b/\b<=600
def aJl(n:Net)(k o a b d:Int): Prop:=aOc n k o a b/\a-2<=d/\d<=b+3
def dsR(m:Int)(t:List (List Int)): Bool:=decide ((t.length:Int)=m)&&t.all λr=>decide ((r.length:Int)=m)
def dsF(n:Net)(t:List (List (List Int))): Bool:=decide ((t.length:Int)=n.2.2.2.2.2.length)&&t.all (dsR n.2.2.2.1.length)
def bDg(n:Net)(t:List (List (List Int)))(k:Int): Prop:=(0<=k/\k<=t.length/\(t.length:Int)=n.2.2.2.2.2.length)/\(t.take k.toNat).all (dsR n.2.2.2.1.length)=true
def aVT(n:Net)(t:List (List (List Int)))(k j:Int): Prop:=bDg n t k/\k<t.length/\((t.getD k.toNat []).length:Int)=n.2.2.2.1.length/\0<=j/\j<=(t.getD k.toNat []).length/\((t.getD k.toNat []).take j.toNat).all (λr=>decide ((r.length:Int)=n.2.2.2.1.length))=true
def dsP(n:Net)(t:List (List (List Int))): Prop:=mZ (0,0,[],t)
theorem aPo(a b:Int)(hvc:
 let c1:=Dp (Fp a b) 0;let c2:=Gf a b-1;let c3:=Fp a b+b;true/\(aG9 a b->b≠0/\inR IntKind.i64 (Gf a b)/\b≠0/\(c1->inR IntKind.i64 c2/\inR IntKind.i64 c3/\c2=bAN a b/\c3=aHL a b/\True)/\(c1=false->Gf a b=bAN a b/\Fp a b=aHL a b/\True))):
  evF (mkc KL6) aQ 174 [.dat I a,.dat I b] [] ⟨aG9 a b,.tup [.dat I (bAN a b),.dat I (aHL a b)],[]⟩:=@of_eq _ _ (by kernel_rfl) hvc
theorem aPn(a:Int)(hvc:
 let c1:=Ed a (-1000000);true/\(True->(c1->c1->c1)/\(Di true c1->c1)/\Ec c1 (Eh a 1000000) false=dK a/\True)):
  evF (mkc KL6) aQ 119 [.dat I a] [] ⟨True,.dat .bool (dK a),[]⟩:=@of_eq _ _ (by kernel_rfl) hvc
def bHp(h:List Int)(d:Int): Ann:=⟨λid s=>match id with
 | 2=>some {α:=Int,inv:=λk=>aVH h d k,st:=λk=>put s [(5,.dat I k)],μ:=λk=>Dc (Dh (Df h) k)}
 | _=>none,λ_ _=>none,λ_ _=>none⟩
theorem aXY(z:Int)(w:List Bool)(h:List Int)(d:Int)(hvc:
 let c1:=(z,w,h);true/\(aAH h->(∃x,aVH h d x/\d=d/\c1=c1/\0=x/\True)/\∀(x:Int),let c2:=Dp x (Df h);let c3:=Ea (Du h (Dc x) 0) d;let c4:=x+1;aVH h d x->(c2->0<=x/\x<Df h/\(c3->true=aXb h d/\True)/\(c3=false->inR IntKind.i64 c4/\∃y,aVH h d y/\(d=d/\c1=c1/\c4=y/\True)/\Dc (Df h-y)<Dc (Df h-x)))/\(c2=false->false=aXb h d/\True))):
  evF (mkc KL6) (lvA [(2,[1,2,4,5])] (bHp h d)) 175 [cal z w h,.dat I d] [] ⟨aAH h,.dat .bool (aXb h d),[]⟩:=@of_eq _ _ (by kernel_rfl) hvc
def KL7: Kt:=kOr 174 (aP [.val I,.val I] (λ(a,b,_)=>aG9 a b) λ(a,b,_)=>.tup [.dat I (bAN a b),.dat I (aHL a b)]) <|
 kOr 119 (aP [.val I] (λ_=>True) λ(a,_)=>.dat .bool (dK a)) <|
 kOr 175 (aP [.row C,.val I] (λ(c,_,_)=>aAH c.2.2) λ(c,d,_)=>.dat .bool (aXb c.2.2 d)) KL6
theorem aXW(z:Int)(w:List Bool)(h:List Int)(d:Int)(hvc:
 let c1:=aHL d 7;let c2:=Du w (Dc c1) false;true/\(aGa z w h d->aG9 d 7/\0<=c1/\c1<Df w/\(c2->c2->c2)/\(c2->c2->c2)/\(c2->aAH h)/\(c2->c2->c2)/\(Di true c2->c2)/\Ec c2 (Dk (aXb h d)) false=bV w h d/\True)):
  evF (mkc KL7) aQ 120 [cal z w h,.dat I d] [] ⟨aGa z w h d,.dat .bool (bV w h d),[]⟩:=@of_eq _ _ (by kernel_rfl) hvc
def KL8: Kt:=kOr 120 (aP [.row C,.val I] (λ(c,d,_)=>aGa c.1 c.2.1 c.2.2 d) λ(c,d,_)=>.dat .bool (bV c.2.1 c.2.2 d)) KL7
theorem aTw(z:Int)(w:List Bool)(h:List Int)(d:Int)(hvc:
 let c1:=Ec (aO z w h) (dK d) false;true/\(aGa z w h d->True/\(aO z w h->aO z w h->aO z w h)/\(aO z w h->True)/\(Di true (aO z w h)->aO z w h)/\(c1->c1->c1)/\(c1->c1->c1)/\(c1->aGa z w h d)/\(Di true c1->c1)/\Ec c1 (bV w h d) false=bV w h d/\True)):
  evF (mkc KL8) aQ 57 [cal z w h,.dat I d] [] ⟨aGa z w h d,.dat .bool (bV w h d),[]⟩:=@of_eq _ _ (by kernel_rfl) hvc
theorem aTx(z:Int)(w:List Bool)(h:List Int)(d m:Int)(hvc:
 let c1:=Dk (aO z w h);let c2:=Dk c1;let c3:=Ec c1 true (Dk (dK d));let c4:=Dk c3;let c5:=Ec c3 true (Dp m 0);let c6:=Dk c5;let c7:=Ec c5 true (Ei m 1439);let c8:=1440*d;let c9:=c8+m;let c10:=c9-z;true/\(oO z w h d m->True/\(c2->c2->c2)/\(c2->True)/\(c2->c2->c2)/\(Di true c2->c2)/\(c4->c4->c4)/\(Di true c4->c4)/\(c6->c6->c6)/\(Di true c6->c6)/\(c7->0=iK z d m/\True)/\(c7=false->inR IntKind.i64 c8/\inR IntKind.i64 c9/\inR IntKind.i64 c10/\c10=iK z d m/\True))):
  evF (mkc KL8) aQ 56 [cal z w h,.dat I d,.dat I m] [] ⟨oO z w h d m,.dat I (iK z d m),[]⟩:=@of_eq _ _ (by kernel_rfl) hvc
def KL9: Kt:=kOr 57 (aP [.row C,.val I] (λ(c,d,_)=>aGa c.1 c.2.1 c.2.2 d) λ(c,d,_)=>.dat .bool (bV c.2.1 c.2.2 d)) <|
 kOr 56 (aP [.row C,.val I,.val I] (λ(c,d,m,_)=>oO c.1 c.2.1 c.2.2 d m) λ(c,d,m,_)=>.dat I (iK c.1 d m)) KL8
def bFG(n:Net)(k o a b:Int): Ann:=⟨λid s=>match id with
 | 4=>some {α:=Int,inv:=λd=>aJl n k o a b d,st:=λd=>pX (put s [(13,.dat I d),(12,.buf 100 (Dj (aBY n k o a b d)))]) 100 (.buf 3 I (aBY n k o a b d) []),μ:=λd=>Dc (Dh (Dq b 3) d)}
 | _=>none,λ_ _=>none,λ_ _=>none⟩
theorem aTE(k o a b:Int)(cs:LC)(ns os:LB)(fs:List Off)(ls:List Line)(ks:List Cla)(hvc:
 let c1:=(cs,ns,os,fs,ls,ks);let c2:=(Du fs (Dc o) (ByteArray.mk #[],(0:Int),(0:Int),(0:Int),(0:Int),(0:Int),Dt ByteArray)).2.2.1;let c3:=a-2;let c4:=Du cs (Dc c2) ((0:Int),Dt Bool,Dt Int);let c5:=c4.1;let c6:=c4.2;let c7:=c6.1;let c8:=c6.2;let c9:=b+2;let c10:=(Du ks (Dc k) (ByteArray.mk #[],(0:Int),(0:Int))).2.1;let c11:=1440*a;let c12:=1440*b;let c13:=b+3;true/\(aOc c1 k o a b->0<=o/\o<Df fs/\0<=c2/\c2<Df cs/\1=1/\0=0/\inR IntKind.i64 c3/\(∃x,let c14:=aBY c1 k o a b x;aJl c1 k o a b x/\k=k/\a=a/\b=b/\c1=c1/\Value.slice none (0) (0)=Value.slice none (0) (0)/\1=1/\0=0/\0=0/\Dj c14=0/\c14=Dt Int/\c3=x/\c5=c5/\c7=c7/\c8=c8/\c14=Dt Int/\True)/\∀(x:Int),let c15:=Ec (bV c7 c8 x) (Ed (iK c5 x c10) c11) false;let c16:=Ec c15 (Dp (iK c5 x c10) c12) false;let c17:=aBY c1 k o a b x;let c18:=Dj c17;let c19:=[iK c5 x c10];let c20:=c18+Dj c19;let c21:=x+1;aJl c1 k o a b x->inR IntKind.i64 c9/\(Eh x c9->1=1/\0=0/\0<=k/\k<Df ks/\oO c5 c7 c8 x c10/\1=1/\0=0/\aGa c5 c7 c8 x/\(bV c7 c8 x->bV c7 c8 x->bV c7 c8 x)/\(bV c7 c8 x->inR IntKind.i64 c11)/\(bV c7 c8 x->bV c7 c8 x->bV c7 c8 x)/\(bV c7 c8 x->bV c7 c8 x->bV c7 c8 x)/\(Di true (bV c7 c8 x)->bV c7 c8 x)/\(c15->c15->c15)/\(c15->inR IntKind.i64 c12)/\(c15->c15->c15)/\(c15->c15->c15)/\(Di true c15->c15)/\(c16->c18=c18/\(c20*(8))<=(140737488355328)/\c20<=(9223372036854775807)/\inR IntKind.i64 c21/\∃y,let c22:=aBY c1 k o a b y;
 aJl c1 k o a b y/\(k=k/\a=a/\b=b/\c1=c1/\Value.slice none (0) (0)=Value.slice none (0) (0)/\1=1/\0=0/\0=0/\c20=Dj c22/\c21=y/\c5=c5/\c7=c7/\c8=c8/\Ef c17 c19=c22/\True)/\Dc (c13-y)<Dc (c13-x))/\(c16=false->inR IntKind.i64 c21/\∃y,let c23:=aBY c1 k o a b y;aJl c1 k o a b y/\(k=k/\a=a/\b=b/\c1=c1/\Value.slice none (0) (0)=Value.slice none (0) (0)/\1=1/\0=0/\0=0/\c18=Dj c23/\c21=y/\c5=c5/\c7=c7/\c8=c8/\c17=c23/\True)/\Dc (c13-y)<Dc (c13-x)))/\(Eh x c9=false->c18=c18/\c17=aK8 c1 k o a b/\True))):
  evF (mkc KL9) (lvA [(4,[1,3,4,5,10,11,12,13,14,15])] (bFG (cs,ns,os,fs,ls,ks) k o a b)) 15 [net cs ns os fs ls ks,.dat I k,.dat I o,.dat I a,.dat I b] [] ⟨aOc (cs,ns,os,fs,ls,ks) k o a b,.dat R (aK8 (cs,ns,os,fs,ls,ks) k o a b),[]⟩:=@of_eq _ _ (by kernel_rfl) hvc
def dsA(n:Net)(t:List (List (List Int))): Ann:=⟨λid s=>match id with
 | 4=>some {α:=Int,inv:=λk=>bDg n t k,st:=λk=>put s [(5,.dat I k)],μ:=λk=>Dc (Dh (Df t) k)}
 | 9=>match s.sig.T 5 with
  | .dat (.int .i64) k=>some {α:=Int,inv:=λj=>aVT n t k j,st:=λj=>put s [(6,.dat I j)],μ:=λj=>Dc (Dh (Df (Du t (Dc k) [])) j)}
  | _=>none
 | _=>none,λ_ _=>none,λ_ _=>none⟩
theorem bBD(t:List (List (List Int)))(cs:LC)(ns os:LB)(fs:List Off)(ls:List Line)(ks:List Cla)(hvc:
 let c1:=(cs,ns,os,fs,ls,ks);let c2:=Df t;let c3:=Eb c2 (Df ks);let c4:=dsF c1 t;let c5:=Df fs;true/\(dsP c1 t->(c3->false=c4/\True)/\(c3=false->(∃x,bDg c1 t x/\t=t/\c1=c1/\0=x/\True)/\∀(x:Int),let c6:=Du t (Dc x) (Dt (List Int));let c7:=Df c6;let c8:=Eb c7 c5;let c9:=x+1;bDg c1 t x->(Dp x c2->0<=x/\x<c2/\(c8->false=c4/\True)/\(c8=false->(∃x_4,aVT c1 t x x_4/\t=t/\c1=c1/\x=x/\0=x_4/\True)/\∀(x_4:Int),let c10:=Eb (Df (Du c6 (Dc x_4) [])) c5;let c11:=x_4+1;aVT c1 t x x_4->0<=x/\x<c2/\(Dp x_4 c7->0<=x/\x<c2/\0<=x_4/\x_4<c7/\(c10->false=c4/\True)/\(c10=false->inR IntKind.i64 c11/\∃y,aVT c1 t x y/\(t=t/\c1=c1/\x=x/\c11=y/\True)/\Dc (c7-y)<Dc (c7-x_4)))/\(Dp x_4 c7=false->inR IntKind.i64 c9/\∃y,bDg c1 t y/\(t=t/\c1=c1/\c9=y/\True)/\Dc (c2-y)<Dc (c2-x))))/\(Dp x c2=false->true=c4/\True)))):
  evF (mkc KL9) (lvA [(4,[1,2,4,5,6]),(9,[1,2,4,5,6])] (dsA (cs,ns,os,fs,ls,ks) t)) 14 [net cs ns os fs ls ks,.dat (.sl M) t] [] ⟨dsP (cs,ns,os,fs,ls,ks) t,.dat .bool (dsF (cs,ns,os,fs,ls,ks) t),[]⟩:=@of_eq _ _ (by kernel_rfl) hvc
def KLA: Kt:=kOr 15 (aP [.row N,.val I,.val I,.val I,.val I] (λ(n,k,o,a,b,_)=>aOc n k o a b) λ(n,k,o,a,b,_)=>.dat R (aK8 n k o a b)) <|
 kOr 14 (aP [.row N,.val (.sl M)] (λ(n,t,_)=>dsP n t) λ(n,t,_)=>.dat .bool (dsF n t)) KL9
theorem uP{x:Int}(h:-4000000000000<=x/\x<=4000000000000): inR .i64 x:=by unfold inR;simp only;omega
theorem aUm(a b:Int): aB Tryz.prog G0 174 [.dat I a,.dat I b] [] ⟨aG9 a b,.tup [.dat I (bAN a b),.dat I (aHL a b)],[]⟩:=by
 refine aA (c:=mkc KL6) bEr bD hm (aPo a b ⟨rfl,λ⟨⟨h1,h2⟩,h3,h4⟩=>?_⟩)
 simp only[qc,Di,Es,Dk,qd,Dt,Ea,Eb,Dp,Ei,Eh,Ed,Ew,Df,Et,Dl,Dn,Eo,Dy,Dw,Dh,Dq,Ee,Fg,Dc,Dx,Dj,Dz,Ej,Du,Eu,Ez,En,Ef,Fe,Fj,Fh,Ep,Em,Ey,Fb,Gf,Fp,bAN,aHL];have e:=qAb (a:=a) (b:=b);have e1:=xU a (show b≠0 by omega)
 have e2:=yR a h3;have e3:(b.natAbs:Int)=b:=Int.natAbs_of_nonneg (by omega)
 have e5:=Int.mul_ediv_add_emod a b;have e6:=Int.mul_tdiv_add_tmod a b;have habs:(a.tdiv b).natAbs<=a.natAbs:=Int.natAbs_tdiv_le_natAbs a b;by_cases hc:0<=a\/b ∣ a
 .rw[if_pos hc]at e;have e7:a.tdiv b=a/b:=by
   have:b*a.tdiv b=b*(a/b):=by omega
   exact qCy (by omega) this
  refine⟨by omega,uP (by omega),by omega,λh=>by omega,λ_=>⟨e7,by omega⟩⟩
 .rw[if_neg hc,e3]at e;have hz:a%b≠0:=λh0=>hc (.inr (qDh h0))
  have e7:a.tdiv b=a/b+1:=by
   have:b*a.tdiv b=b*(a/b+1):=by rw[Int.mul_add];omega
   exact qCy (by omega) this
  refine⟨by omega,uP (by omega),by omega,λh=>⟨uP (by omega),dJ (by omega),by omega,by omega⟩,λh=>by omega⟩
theorem aUl(a:Int): aB Tryz.prog G0 119 [.dat I a] [] ⟨True,.dat .bool (dK a),[]⟩:=by
 refine aA (c:=mkc KL6) bEr bD hm (aPn a ⟨rfl,λ_=>⟨λh _=>h,λh=>by simpa[Di]using h,?_,trivial⟩⟩)
 rw[rH];simp[dK,Ed,Eh]
theorem bCc(z:Int)(w:List Bool)(h:List Int)(d:Int): aB Tryz.prog G0 175 [cal z w h,.dat I d] [] ⟨aAH h,.dat .bool (aXb h d),[]⟩:=by
 refine aA (c:=mkc KL6) bEr bD hm (aXY z w h d ⟨rfl,λhp=>?_⟩)
 have hp:h.length<=1000000:=hp;simp only[qc,Di,Es,Dk,qd,Dt,Ea,Eb,Dp,Ei,Eh,Ed,Ew,Df,Et,Dl,Dn,Eo,Dy,Dw,Dh,Dq,Ee,Fg,Dc,Dx,Dj,Dz,Ej,Du,Eu,Ez,En,Ef,Fe,Fj,Fh,Ep,Em,Ey,Fb];refine⟨⟨qL _,qR _,hp,rfl⟩,λx ⟨x0,x1,x2,x3⟩=>⟨λhlt=>?_,λhge=>?_⟩⟩
 .have hlt':x.toNat<h.length:=by omega
  have hg:h.getD x.toNat 0=h[x.toNat]:=by rw[qA,qB hlt',qQ]
  refine⟨x0,hlt,λhe=>?_,λhe=>⟨dJ (by omega),x+1,⟨by omega,by omega,hp,?_⟩,rfl,by omega⟩⟩
  .unfold aXb
   symm
   rw[qAr,<- he,hg];exact wH _
  .rw[show(x+1).toNat=x.toNat+1 by omega,wV,qB hlt',<- xI,qAr,qH]
   rw[<- xI,qAr]at x3;rintro(g | g)
   .exact x3 g
   .rw[qAk,qZ]at g;exact he (hg.trans g.symm)
 .unfold aXb;rw[qO (by omega)]at x3
  exact x3.symm
theorem bGY: aI Tryz.prog G0 KL7:=aH (aC λ(a,b,_)=>aUm a b)<|aH (aC λ(a,_)=>aUl a)<|aH (aC λ((z,w,h),d,_)=>bCc z w h d) bEr
theorem bDj{d:Int}(h:dK d=true): aG9 d 7:=by
 have:=lY.1 h;exact⟨⟨by omega,by omega⟩,by decide,by decide⟩
theorem bCa(z:Int)(w:List Bool)(h:List Int)(d:Int): aB Tryz.prog G0 120 [cal z w h,.dat I d] [] ⟨aGa z w h d,.dat .bool (bV w h d),[]⟩:=by
 refine aA (c:=mkc KL7) bGY bD hm (aXW z w h d ⟨rfl,λ⟨hv,hd⟩=>?_⟩)
 simp only[qc,Di,Es,Dk,qd,Dt,Ea,Eb,Dp,Ei,Eh,Ed,Ew,Df,Et,Dl,Dn,Eo,Dy,Dw,Dh,Dq,Ee,Fg,Dc,Dx,Dj,Dz,Ej,Du,Eu,Ez,En,Ef,Fe,Fj,Fh,Ep,Em,Ey,Fb];obtain⟨_,_,v3,v4⟩:=(fQ.1 hv).1;have e0:0<=aHL d 7:=xU d (by omega)
 have e1:aHL d 7<7:=yR d (by omega)
 refine⟨bDj hd,e0,by omega,λ_=>(show h.length<=1000000 by omega),?_⟩
 rfl
theorem bGg: aI Tryz.prog G0 KL8:=aH (aC λ((z,w,h),d,_)=>bCa z w h d) bGY
theorem aYL(z:Int)(w:List Bool)(h:List Int)(d:Int): aB Tryz.prog G0 57 [cal z w h,.dat I d] [] ⟨aGa z w h d,.dat .bool (bV w h d),[]⟩:=by
 refine aA (c:=mkc KL8) bGg bD hm (aTw z w h d ⟨rfl,λ⟨hv,hd⟩=>?_⟩)
 simp only[qc,Di,Es,Dk,qd,Dt,Ea,Eb,Dp,Ei,Eh,Ed,Ew,Df,Et,Dl,Dn,Eo,Dy,Dw,Dh,Dq,Ee,Fg,Dc,Dx,Dj,Dz,Ej,Du,Eu,Ez,En,Ef,Fe,Fj,Fh,Ep,Em,Ey,Fb,hv,hd];exact⟨hv,hd⟩
theorem aYM(z:Int)(w:List Bool)(h:List Int)(d m:Int): aB Tryz.prog G0 56 [cal z w h,.dat I d,.dat I m] [] ⟨oO z w h d m,.dat I (iK z d m),[]⟩:=by
 refine aA (c:=mkc KL8) bGg bD hm (aTx z w h d m ⟨rfl,λ⟨hv,hd,h1,h2⟩=>?_⟩)
 obtain⟨v1,v2,_⟩:=(fQ.1 hv).1;have a1:¬m<0:=by omega
 have a2:¬m>1439:=by omega
 have hd':=lY.1 hd;simp only[qc,Di,Es,Dk,qd,Dt,Ea,Eb,Dp,Ei,Eh,Ed,Ew,Df,Et,Dl,Dn,Eo,Dy,Dw,Dh,Dq,Ee,Fg,Dc,Dx,Dj,Dz,Ej,Du,Eu,Ez,En,Ef,Fe,Fj,Fh,Ep,Em,Ey,Fb,hv,hd,a1,a2];refine⟨λg=>?_,λ_=>⟨uP (by omega),uP (by omega),uP (by omega),by unfold iK;omega⟩⟩
 rcases g with((g | g) | g) | g<;>cases g
theorem bGf: aI Tryz.prog G0 KL9:=aH (aC λ((z,w,h),d,_)=>aYL z w h d)<|aH (aC λ((z,w,h),d,m,_)=>aYM z w h d m) bGg
theorem aQO{n:Net}{k o a b x:Int}(h:a-2<=x): aBY n k o a b (x+1)=aBY n k o a b x++if bDm n k o a b x=true then[bAQ n k o x]else[]:=by
 unfold aBY;rw[show(x+1-(a-2)).toNat=(x-(a-2)).toNat+1 by omega,zT,yG,yQ,yG,List.map_singleton,show a-2+(((x-(a-2)).toNat:Nat):Int)=x by omega,yU]
 split<;>rfl
theorem aU1(n:Net)(k o a b d:Int): (aBY n k o a b d).length<=(d-(a-2)).toNat:=by
 unfold aBY;rw[vF];exact wC (yM _ _) (by rw[vF,vK];exact qK _)
theorem aYS(k o a b:Int)(cs:LC)(ns os:LB)(fs:List Off)(ls:List Line)(ks:List Cla): aB Tryz.prog G0 15 [net cs ns os fs ls ks,.dat I k,.dat I o,.dat I a,.dat I b] [] ⟨aOc (cs,ns,os,fs,ls,ks) k o a b,.dat R (aK8 (cs,ns,os,fs,ls,ks) k o a b),[]⟩:=by
 refine aA (c:=mkc KL9) bGf bD hm (aTE k o a b cs ns os fs ls ks ⟨rfl,λhp=>?_⟩)
 have eC:cs.getD (fs.getD o.toNat (⟨#[]⟩,0,0,0,0,0,[])).2.2.1.toNat (0,[],[])=aS (cs,ns,os,fs,ls,ks) o:=rfl;have eK:ks.getD k.toNat (⟨#[]⟩,0,0)=dM (cs,ns,os,fs,ls,ks) k:=rfl;have eT:∀x,iK (aS (cs,ns,os,fs,ls,ks) o).1 x (dM (cs,ns,os,fs,ls,ks) k).2.1=bAQ (cs,ns,os,fs,ls,ks) k o x:=λ_=>rfl
 simp only[qc,Di,Es,Dk,qd,Dt,Ea,Eb,Dp,Ei,Eh,Ed,Ew,Df,Et,Dl,Dn,Eo,Dy,Dw,Dh,Dq,Ee,Fg,Dc,Dx,Dj,Dz,Ej,Du,Eu,Ez,En,Ef,Fe,Fj,Fh,Ep,Em,Ey,Fb,eC,eK,eT];obtain⟨hoff,hcl,a0,ab,b1⟩:=id hp;obtain⟨q1,q2,hv,_⟩:=nK cs ns os fs ls ks hoff;obtain⟨⟨m0,m1⟩,_⟩:=aCY cs ns os fs ls ks hoff.1 hcl;have m0:0<=(dM (cs,ns,os,fs,ls,ks) k).2.1:=m0;have m1:(dM (cs,ns,os,fs,ls,ks) k).2.1<=1439:=m1
 have r0:aBY (cs,ns,os,fs,ls,ks) k o a b (a-2)=[]:=by
  unfold aBY;rw[Int.sub_self];rfl
 refine⟨hoff.2.1,hoff.2.2,q1,q2,bC (by omega),⟨a-2,⟨hp,qL _,by omega⟩,by rw[r0];rfl,r0,rfl,r0⟩,λx ⟨_,x0,x1⟩=>⟨bC (by omega),λhx=>?_,λhx=>?_⟩⟩
 .have hl:=aU1 (cs,ns,os,fs,ls,ks) k o a b x;have hn:=aQO (n:=(cs,ns,os,fs,ls,ks)) (k:=k) (o:=o) (b:=b) x0;have hd:dK x=true:=rE (by omega) (by omega)
  refine⟨hcl.1,hcl.2,⟨hv,hd,m0,by omega⟩,⟨hv,hd⟩,λ_=>bC (by omega),λ_=>bC (by omega),λ⟨⟨h1,h2⟩,h3⟩=>?_,λh=>?_⟩
  .rw[if_pos (by unfold bDm;rw[h1,qW h2,qW h3];rfl)]at hn
   exact⟨by simp only[vV];omega,by simp only[vV];omega,bC (by omega),x+1,⟨hp,by omega,by omega⟩,⟨by rw[hn,qF],rfl,hn.symm⟩,by omega⟩
  .rw[if_neg (by
    unfold bDm;rw[qC,qC,qE,qE];exact λg=>h g.1 g.2),wE]at hn
   exact⟨bC (by omega),x+1,⟨hp,by omega,by omega⟩,⟨by rw[hn],rfl,hn.symm⟩,by omega⟩
 .have:x=b+3:=by omega
  rw[this];rfl
theorem bFl(t:List (List (List Int)))(cs:LC)(ns os:LB)(fs:List Off)(ls:List Line)(ks:List Cla): aB Tryz.prog G0 14 [net cs ns os fs ls ks,.dat (.sl M) t] [] ⟨dsP (cs,ns,os,fs,ls,ks) t,.dat .bool (dsF (cs,ns,os,fs,ls,ks) t),[]⟩:=by
 refine aA (c:=mkc KL9) bGf bD hm (bBD t cs ns os fs ls ks ⟨rfl,λhp=>?_⟩)
 simp only[qc,Di,Es,Dk,qd,Dt,Ea,Eb,Dp,Ei,Eh,Ed,Ew,Df,Et,Dl,Dn,Eo,Dy,Dw,Dh,Dq,Ee,Fg,Dc,Dx,Dj,Dz,Ej,Du,Eu,Ez,En,Ef,Fe,Fj,Fh,Ep,Em,Ey,Fb];obtain⟨_,f1,f2⟩:=hp;have f1:t.length<=1000000:=f1;have e:dsF (cs,ns,os,fs,ls,ks) t=(decide ((t.length:Int)=ks.length)&&t.all (dsR fs.length)):=rfl;refine⟨λh=>?_,λh=>⟨⟨⟨qL _,qR _,h⟩,rfl⟩,λx hx=>?_⟩⟩
 .rw[e,vG h];rfl
 obtain⟨⟨x0,x1,_⟩,x2⟩:=id hx;refine⟨λhlt=>?_,λhge=>?_⟩
 .have hg:t.getD x.toNat []∈t:=getD_mem (by omega)
  have g1:=(f2 _ hg).1;have bad:dsR fs.length (t.getD x.toNat [])=false->false=dsF (cs,ns,os,fs,ls,ks) t:=λh=>by
   rw[e,aBi (d:=[]) (k:=x.toNat) (by omega) h,xM]
  refine⟨x0,hlt,λhb=>bad (by unfold dsR;rw[vG hb];rfl),λhb=>⟨⟨hx,hlt,hb,qL _,qR _,rfl⟩,λy hy=>?_⟩⟩
  obtain⟨_,_,_,y0,y1,y2⟩:=id hy;refine⟨x0,hlt,λhyl=>⟨x0,hlt,y0,hyl,λhb2=>bad ?_,λhb2=>⟨bC (by omega),y+1,⟨hx,hlt,hb,by omega,by omega,?_⟩,rfl,by omega⟩⟩,λhyl=>⟨bC (by omega),x+1,⟨⟨by omega,by omega,h⟩,?_⟩,rfl,by omega⟩⟩
  .unfold dsR;rw[aBi (d:=[]) (k:=y.toNat) (by omega) (vG hb2),xM]
  .rw[show(y+1).toNat=y.toNat+1 by omega]
   exact mF (d:=[]) y2 (by omega) (qW hb2)
  .rw[show(x+1).toNat=x.toNat+1 by omega]
   refine mF (d:=[]) x2 (by omega) ?_
   unfold dsR;rw[qO (by omega)]at y2
   rw[y2,qW hb];rfl
 .rw[qO (by omega)]at x2
  have x2:t.all (dsR fs.length)=true:=x2;rw[e,qW h,x2];rfl
theorem bHD: aI Tryz.prog G0 KLA:=aH (aC λ((cs,ns,os,fs,ls,ks),k,o,a,b,_)=>aYS k o a b cs ns os fs ls ks)<|aH (aC λ((cs,ns,os,fs,ls,ks),t,_)=>bFl t cs ns os fs ls ks) bGf
end Go.Eng.Sv
set_option maxRecDepth 100000
noncomputable section
namespace Go.Eng.Sv
open Go.Proofs
def u8P(a:Int): Prop:=0<=a/\a<=255
def aF(f t l:Int): Int:=f+Int.tmod l (t-f)
def bF(f t l m:Int): Int:=aF f t l+1+Int.tmod m (t-aF f t l)
def dyT(n:Net)(f t l m:Int): List (List (List Int)):=aEE n (aCb n f t).2.2.1 (aF f t l) (bF f t l m)
def bEf(n:Net)(f t:Int): Prop:=aEs n f t=0/\f<t
def bEe(n:Net)(f t l m k:Int): Prop:=bEf n f t/\0<=k/\k<=(dyT n f t l m).length
def aVR(n:Net)(f t l m k o:Int): Prop:=bEf n f t/\(0<=k/\k<(dyT n f t l m).length)/\0<=o/\o<=((dyT n f t l m).getD k.toNat []).length
def aVQ(n:Net)(f t l m k o d:Int): Prop:=bEf n f t/\(0<=k/\k<(dyT n f t l m).length)/\(0<=o/\o<((dyT n f t l m).getD k.toNat []).length)/\0<=d/\d<=(((dyT n f t l m).getD k.toNat []).getD o.toNat []).length
def dyA(n:Net)(f t l m:Int): Ann:=⟨λid s=>match id with
 | 13=>some {α:=Int,inv:=λk=>bEe n f t l m k,st:=λk=>put s [(18,.dat I k)],μ:=λk=>Dc (Dh (Df (dyT n f t l m)) k)}
 | 16=>match s.sig.T 18 with
  | .dat (.int .i64) k=>some {α:=Int,inv:=λo=>aVR n f t l m k o,st:=λo=>put s [(19,.dat I o)],μ:=λo=>Dc (Dh (Df (Du (dyT n f t l m) (Dc k) [])) o)}
  | _=>none
 | 20=>match s.sig.T 18,s.sig.T 19 with
  | .dat (.int .i64) k,.dat (.int .i64) o=>some {α:=Int,inv:=λd=>aVQ n f t l m k o d,st:=λd=>put s [(21,.dat I d)],μ:=λd=>Dc (Dh (Df (Du (Du (dyT n f t l m) (Dc k) []) (Dc o) [])) d)}
  | _,_=>none
 | _=>none,λ_ _=>none,λ_ _=>none⟩
theorem aX1(f t l m:Int)(cs:LC)(ns os:LB)(fs:List Off)(ls:List Line)(ks:List Cla)(hvc:
 let c1:=(cs,ns,os,fs,ls,ks);let c2:=Dk (bCs c1 f t);let c3:=Eb (aEs c1 f t) 0;let c4:=Dk c3;let c5:=Ec c3 true (Eh t f);let c6:=f+Fp l (t-f);let c7:=c6+1;let c8:=t-c6;let c9:=c7+Fp m c8;let c10:=aCb c1 f t;let c11:=c10.2;let c12:=c11.2;let c13:=c12.1;let c14:=aEE c1 c13 c6 c9;let c15:=Dk (dsF c1 c14);let c16:=Dk c15;let c17:=c12.2;let c18:=Ec c15 true (Dk (dsF c1 c17));let c19:=c10.1;let c20:=c11.1;let c21:=aNh c1 f t;let c22:=c21.1;let c23:=c21.2;let c24:=Df c14;let c25:=dyT c1 f t l m;let c26:=Df c25;true/\(u8P l/\u8P m->True/\True/\(c2->true/\True)/\(c2=false->True/\1=1/\0=0/\1=1/\0=0/\(c4->c4->c4)/\(c4->c4->c4)/\(Di true c4->c4)/\(c5->true/\True)/\(c5=false->inR IntKind.i64 l/\inR IntKind.i64 (t-f)/\(t-f)≠0/\inR IntKind.i64 c6/\inR IntKind.i64 c7/\inR IntKind.i64 m/\inR IntKind.i64 c8/\c8≠0/\inR IntKind.i64 c9/\1=1/\1=1/\0=0/\gZ c13/\dsP c1 c14/\(c16->1=1)/\(c16->c16->c16)/\(c16->1=1)/\(c16->0=0)/\(c16->c16->c16)/\(c16->c16->c16)/\(c16->dsP c1 c17)/\(c16->c16->c16)/\(Di true c16->c16)/\(c18->false/\True)/\(c18=false->(∃x,bEe c1 f t l m x/\c1=c1/\true/\1=1/\0=0/\0=0/\c6=c6/\c9=c9/\c14=c14/\0=x/\c19=c19/\c20=c20/\c13=c13/\c17=c17/\c22=c22/\c23=c23/\True)/\∀(x:Int),let c27:=Du c14 (Dc x) (Dt (List Int));let c28:=Df c27;let c29:=Du c17 (Dc x) (Dt (List Int));let c30:=Du c25 (Dc x) (Dt (List Int));let c31:=Df c30;let c32:=x+1;bEe c1 f t l m x->(Dp x c24->(∃x_3,aVR c1 f t l m x x_3/\c1=c1/\true/\1=1/\0=0/\0=0/\c6=c6/\c9=c9/\c14=c14/\x=x/\0=x_3/\c19=c19/\c20=c20/\c13=c13/\c17=c17/\c22=c22/\c23=c23/\True)/\∀(x_3:Int),let c33:=Ei (Df (aK8 c1 x x_3 c6 c9)) 0;
 let c34:=Du c27 (Dc x_3) [];let c35:=Df c34;let c36:=Du c29 (Dc x_3) [];let c37:=Df (Du c30 (Dc x_3) []);let c38:=x_3+1;aVR c1 f t l m x x_3->0<=x/\x<c24/\(Dp x_3 c28->aOc c1 x x_3 c6 c9/\(∃x_6,aVQ c1 f t l m x x_3 x_6/\c1=c1/\true/\1=1/\0=0/\0=0/\c6=c6/\c9=c9/\c14=c14/\x=x/\x_3=x_3/\c33=c33/\0=x_6/\c19=c19/\c20=c20/\c13=c13/\c17=c17/\c22=c22/\c23=c23/\True)/\∀(x_6:Int),let c39:=Du c36 (Dc x_6) 0;let c40:=Ed c39 0;let c41:=Du c34 (Dc x_6) 0;let c42:=Ei c41 c39;let c43:=Di c40 (Dk c42);let c44:=Ec c40 (Ec c42 true (Ec c33 (Dp c41 0) false)) false;let c45:=x_6+1;
 aVQ c1 f t l m x x_3 x_6->0<=x/\x<c24/\0<=x_3/\x_3<c28/\(Dp x_6 c35->1=1/\1=1/\0=0/\0<=x/\x<Df c17/\0<=x_3/\x_3<Df c29/\0<=x_6/\x_6<Df c36/\(c40->c40->c40)/\(c40->c40->c40)/\(c40->0<=x)/\(c40->x<c24)/\(c40->c40->c40)/\(c40->c40->c40)/\(c40->c40->c40)/\(c40->0<=x_3)/\(c40->x_3<c28)/\(c40->c40->c40)/\(c40->c40->c40)/\(c40->c40->c40)/\(c40->0<=x_6)/\(c40->x_6<c35)/\(c40->c40->c40)/\(c40->c40->c40)/\(c40->c40->c40)/\(c40->c40->c40)/\(c43->c43->c43)/\(Di c43 c33->Di c43 c33->Di c43 c33)/\(Di c43 c33->Di c43 c33->Di c43 c33)/\(Di c43 c33->0<=x)/\(Di c43 c33->x<c24)/\(Di c43 c33->Di c43 c33->Di c43 c33)/\(Di c43 c33->Di c43 c33->Di c43 c33)/\(Di c43 c33->Di c43 c33->Di c43 c33)/\(Di c43 c33->0<=x_3)/\(Di c43 c33->x_3<c28)/\(Di c43 c33->Di c43 c33->Di c43 c33)/\(Di c43 c33->Di c43 c33->Di c43 c33)/\(Di c43 c33->Di c43 c33->Di c43 c33)/\(Di c43 c33->0<=x_6)/\(Di c43 c33->x_6<c35)/\(Di c43 c33->Di c43 c33->Di c43 c33)/\(Di c43 c33->Di c43 c33->Di c43 c33)/\(c43->c43->c43)/\(c43->Di c43 c33->Di c43 c33)/\(c40->c40->c40)/\(c40->c43->c43)/\(Di true c40->c40)/\(c44->false/\True)/\(c44=false->inR IntKind.i64 c45/\∃y,aVQ c1 f t l m x x_3 y/\(c1=c1/\true/\1=1/\0=0/\0=0/\c6=c6/\c9=c9/\c14=c14/\x=x/\x_3=x_3/\c33=c33/\c45=y/\c19=c19/\c20=c20/\c13=c13/\c17=c17/\c22=c22/\c23=c23/\True)/\Dc (c37-y)<Dc (c37-x_6)))/\(Dp x_6 c35=false->inR IntKind.i64 c38/\∃y,aVR c1 f t l m x y/\(c1=c1/\true/\1=1/\0=0/\0=0/\c6=c6/\c9=c9/\c14=c14/\x=x/\c38=y/\c19=c19/\c20=c20/\c13=c13/\c17=c17/\c22=c22/\c23=c23/\True)/\Dc (c31-y)<Dc (c31-x_3)))/\(Dp x_3 c28=false->inR IntKind.i64 c32/\∃y,bEe c1 f t l m y/\(c1=c1/\true/\1=1/\0=0/\0=0/\c6=c6/\c9=c9/\c14=c14/\c32=y/\c19=c19/\c20=c20/\
 c13=c13/\c17=c17/\c22=c22/\c23=c23/\True)/\Dc (c26-y)<Dc (c26-x)))/\(Dp x c24=false->true/\True)))))):
  evF (mkc KLA) (lvA [(13,[5,10,11,12,15,16,17,18,19,20,21,22]),(16,[5,10,11,12,15,16,17,18,19,20,21,22]),(20,[5,10,11,12,15,16,17,18,19,20,21,22])] (dyA (cs,ns,os,fs,ls,ks) f t l m)) 4 [net cs ns os fs ls ks,.dat I f,.dat I t,.dat U l,.dat U m] [] ⟨u8P l/\u8P m,.dat .bool true,[]⟩:=@of_eq _ _ (by kernel_rfl) hvc
theorem aQ6{w:List Bool}{h:List Int}{d x:Int}(h1:d<=x)(h2:x<d+60)(h3:bV w h x=true): oI w h d=0/\nY w h d<=x:=by
 have hm:x∈nP w h d 60:=by
  unfold nP;exact xR.2 ⟨wO.2 ⟨(x-d).toNat,vN.2 (by omega),by omega⟩,h3⟩
 have hp:(nP w h d 60).Pairwise (· < ·):=by
  unfold nP;exact List.Pairwise.filter _ (List.pairwise_map.2 (List.pairwise_lt_range.imp λh=>by omega))
 unfold oI nY aFm;cases hl:nP w h d 60 with
 | nil=>rw[hl]at hm;cases hm
 | cons y tl=>
  rw[hl]at hm hp;refine⟨rfl,?_⟩;show y<=x;rcases zL.1 hm with rfl | hm
  .exact qL _
  .exact Int.le_of_lt ((kG.1 hp).1 x hm)
theorem aVL{c:Int×List Bool×List Int}{m t D:Int}(m0:0<=m)(m1:m<=1439)(hw:bV c.2.1 c.2.2 D=true)(h1:t<=iK c.1 D m)(h2:iK c.1 D m<t+86400): aBy c m t=0/\oQ c m t<=iK c.1 D m:=by
 unfold iK at h1 h2;have hd:d0F c m t<=D/\D<d0F c m t+60:=by
  unfold d0F pJ aRc;split<;>omega
 obtain⟨g1,g2⟩:=aQ6 hd.1 hd.2 hw;refine⟨g1,?_⟩;have e:oQ c m t=iK c.1 (nY c.2.1 c.2.2 (d0F c m t)) m:=if_pos g1;rw[e];unfold iK;omega
theorem aR0{c:Int×List Bool×List Int}{m b D:Int}(hv:aO c.1 c.2.1 c.2.2=true)(m0:0<=m)(m1:m<=1439)(hw:bV c.2.1 c.2.2 D=true)(hb:iK c.1 D m<b): ∀(f:Nat) (t:Int),(b-t).toNat<f->b-t<=86400->t<=iK c.1 D m->iK c.1 D m∈aO7 c m b f t
 | 0,t,h,_,_=>by omega
 | f+1,t,h,h2,h3=>by
  obtain⟨g1,g2⟩:=aVL m0 m1 hw h3 (by omega)
  obtain⟨b1,_⟩:=tJ hv g1 m0 m1;rw[aO7,if_pos g1,if_pos (by omega)]
  by_cases he:oQ c m t=iK c.1 D m
  .rw[he];exact wL
  .exact zC _ (aR0 hv m0 m1 hw hb f _ (by omega) (by omega) (by omega))
theorem aXk{c:Int×List Bool×List Int}{m b x:Int}(hv:aO c.1 c.2.1 c.2.2=true)(m0:0<=m)(m1:m<=1439): ∀(f:Nat) (t:Int),x∈aO7 c m b f t->t<=x/\x<b/\∃D,bV c.2.1 c.2.2 D=true/\x=iK c.1 D m
 | 0,t,h=>by cases h
 | f+1,t,h=>by
  rw[aO7]at h;split at h
  .rename_i he;obtain⟨b1,_⟩:=tJ hv he m0 m1;split at h
   .rcases zL.1 h with rfl | h
    .exact⟨b1,by assumption,_,(aCz he).2.2,if_pos he⟩
    .obtain⟨g1,g2,g3⟩:=aXk hv m0 m1 f _ h;exact⟨by omega,g2,g3⟩
   .cases h
  .cases h
theorem aIo{n:Net}{k o a b x:Int}(ho:aAL n o)(hk:aIq n k)(hab:a<b)(h60:b-a<=60): x∈aEq n k o a b↔1440*a<=x/\x<1440*b/\∃D,bV (aS n o).2.1 (aS n o).2.2 D=true/\x=bAQ n k o D:=by
 have hv:aO (aS n o).1 (aS n o).2.1 (aS n o).2.2=true:=(nK n.1 n.2.1 n.2.2.1 n.2.2.2.1 n.2.2.2.2.1 n.2.2.2.2.2 ho).2.2.1;obtain⟨⟨m0,m1⟩,_⟩:=aCY n.1 n.2.1 n.2.2.1 n.2.2.2.1 n.2.2.2.2.1 n.2.2.2.2.2 ho.1 hk;have m0:0<=(dM n k).2.1:=m0;have m1:(dM n k).2.1<=1439:=m1;constructor
 .exact aXk hv m0 m1 _ _
 .rintro⟨h1,h2,D,hw,rfl⟩;exact aR0 hv m0 m1 hw h2 _ _ (by omega) (by omega) h1
theorem bC1 (l : List Int) : ∀ {z x : Int}, (x = z ∨ x ∈ l) → x ≤ l.foldl max z := by
  induction l with
  | nil => intro z x h; rcases h with rfl | h
           · exact qL _
           · cases h
  | cons y l ih =>
    intro z x h
    rw [xB]
    rcases h with rfl | h
    · exact qCc (Int.le_max_left _ _) (ih (.inl rfl))
    · rcases zL.1 h with rfl | h
      · exact qCc (Int.le_max_right _ _) (ih (.inl rfl))
      · exact ih (.inr h)
theorem bFL(l:List Int): ∀{z x:Int},z<=x->(∀y∈l,y<=x)->l.foldl max z<=x:=by
 induction l with
 | nil=>intro z x h _;exact h
 | cons y l ih=>
  intro z x h g;rw[xB];exact ih (Int.max_le.2 ⟨h,g _ wL⟩) λw hw=>g w (zC _ hw)
theorem aMP{n:Net}{nx:List (List Int)}{k o d a b:Int}(h:∀x∈aEq n k o a b,aFQ n nx k o d x=0): uI n nx k o d a b=((aEq n k o a b).map (aXh n nx k o d)).foldl max (-1):=by
 have:aJF n nx k o d a b=0:=by
  unfold aJF;refine aCN λi hi=>?_
  rw[vF]at hi;rw[qA,qP,qB hi];exact h _ (wH hi)
 unfold uI aQ7;rw[if_pos this,xG]
theorem aVp{n:Net}{nx:List (List Int)}{k o d a b a' b':Int}(hs:∀x∈aEq n k o a' b',x∈aEq n k o a b)(hx:0<=uI n nx k o d a b): uI n nx k o d a' b'<=uI n nx k o d a b/\(aEq n k o a' b'≠[]->0<=uI n nx k o d a' b'):=by
 have hz:∀x∈aEq n k o a b,aFQ n nx k o d x=0:=by
  by_cases h:aJF n nx k o d a b=0
  .exact λx hx=>aAq h _ (qBd hx)
  .have:uI n nx k o d a b=-1:=if_neg h;omega
 have hz':∀x∈aEq n k o a' b',aFQ n nx k o d x=0:=λx h=>hz x (hs x h)
 have e:=aMP hz;have e':=aMP hz';refine⟨?_,λhne=>?_⟩
 .rw[e'];refine bFL _ (by omega) λy hy=>?_
  obtain⟨x,h,rfl⟩:=wO.1 hy;rw[e];exact bC1 _ (.inr (qBd (hs x h)))
 .obtain⟨x,h⟩:=qCx _ hne;rw[e'];refine qCc ?_ (bC1 _ (.inr (qBd h)));have h0:=hz' x h;show 0<=aWc n (pN nx) k o d x;by_cases h1:sZ n nx o d x=0
  .by_cases h2:aKE n (pN nx) k o d x=0
   .rw[aIn h1 h2]at h0;split at h0
    .cases h0
    .omega
   .exact absurd ((aNc h1 h2).symm.trans h0) h2
  .exact absurd ((aNb h1).symm.trans h0) h1
theorem aPK{n:Net}{nx:List (List Int)}{a b:Int}(hs:bZ n=true)(ht:aBk n nx=true)(h:0<=a/\a<b/\b<=600/\b-a<=60): aEE n nx a b=(List.range n.2.2.2.2.2.length).map λk:Nat=>aSG n nx k a b:=by
 unfold aEE aPL;rw[if_pos (by rw[hs,ht,qW h];rfl)]
theorem aYn{n:Net}{nx:List (List Int)}{a b k:Int}(hs:bZ n=true)(ht:aBk n nx=true)(h:0<=a/\a<b/\b<=600/\b-a<=60)(k0:0<=k)(k1:k<n.2.2.2.2.2.length): (aEE n nx a b).getD k.toNat []=aSG n nx k a b:=by
 rw[aPK hs ht h,qA,qP,vX (by omega),zK,qQ,show((k.toNat:Nat):Int)=k by omega]
theorem aUa{n:Net}{nx:List (List Int)}{a b k o:Int}(o0:0<=o)(o1:o<n.2.2.2.1.length): (aSG n nx k a b).getD o.toNat []=aUX n nx k o a b:=by
 unfold aSG;rw[qA,qP,vX (by omega),zK,qQ,show((o.toNat:Nat):Int)=o by omega]
theorem bCL{n:Net}{nx:List (List Int)}{a b k o d:Int}(d0:0<=d)(d1:d<n.2.2.2.1.length): (aUX n nx k o a b).getD d.toNat 0=uI n nx k o d a b:=by
 unfold aUX;rw[qA,qP,vX (by omega),zK,qQ,show((d.toNat:Nat):Int)=d by omega]
theorem aWH{n:Net}{nx:List (List Int)}{a b:Int}(hs:bZ n=true)(ht:aBk n nx=true)(h:0<=a/\a<b/\b<=600/\b-a<=60): dsF n (aEE n nx a b)=true:=by
 rw[aPK hs ht h];unfold dsF;rw[qC,qE,vF,vK];refine⟨rfl,qM.2 λt ht=>?_⟩
 obtain⟨k,_,rfl⟩:=wO.1 ht;unfold dsR aSG;rw[qC,qE,vF,vK];refine⟨rfl,qM.2 λr hr=>?_⟩
 obtain⟨o,_,rfl⟩:=wO.1 hr;unfold aUX;rw[qE,vF,vK]
theorem aMk{n:Net}{nx:List (List Int)}{a b:Int}(hs:bZ n=true)(ht:aBk n nx=true)(h:0<=a/\a<b/\b<=600/\b-a<=60): (aEE n nx a b).length=n.2.2.2.2.2.length/\∀k:Int,0<=k->k<n.2.2.2.2.2.length->((aEE n nx a b).getD k.toNat []).length=n.2.2.2.1.length/\∀o:Int,0<=o->o<n.2.2.2.1.length->(((aEE n nx a b).getD k.toNat []).getD o.toNat []).length=n.2.2.2.1.length/\∀d:Int,0<=d->d<n.2.2.2.1.length->(((aEE n nx a b).getD k.toNat []).getD o.toNat []).getD d.toNat 0=uI n nx k o d a b:=by
 refine⟨by rw[aPK hs ht h,vF,vK],λk k0 k1=>?_⟩
 rw[aYn hs ht h k0 k1];refine⟨by unfold aSG;rw[vF,vK],λo o0 o1=>?_⟩
 rw[aUa o0 o1];exact⟨by unfold aUX;rw[vF,vK],λd d0 d1=>bCL d0 d1⟩
theorem aSa{n:Net}{f t:Int}(hc:aEs n f t=0): (0<=f/\f<t/\t<=600/\t-f<=60)/\bZ n=true/\aBk n (aCb n f t).2.2.1=true/\(aCb n f t).2.2.2=aEE n (aCb n f t).2.2.1 f t/\aCs n (p1F n f t)=0/\wrE n (p2F n f t)=0/\aCb n f t=p2F n f t:=by
 have e:aCb n f t=p2F n f t:=if_pos hc;unfold aEs at hc;split at hc
 .rename_i h;exact absurd hc h
 .rename_i h;have h:aNj n (p0F f t)=0:=qBn.1 h;obtain⟨h1,h2,h3,h4⟩:=aKh h;split at hc
  .rename_i g;exact absurd hc g
  .rename_i g;rw[e];exact⟨h1,h2,h4,rfl,qBn.1 g,hc,rfl⟩
theorem aZG(f t l m:Int)(cs:LC)(ns os:LB)(fs:List Off)(ls:List Line)(ks:List Cla): aB Tryz.prog G0 4 [net cs ns os fs ls ks,.dat I f,.dat I t,.dat U l,.dat U m] [] ⟨u8P l/\u8P m,.dat .bool true,[]⟩:=by
 refine aA (c:=mkc KLA) bHD bD hm (aX1 f t l m cs ns os fs ls ks ⟨rfl,λhp=>?_⟩)
 obtain⟨n,hn⟩:∃n:Net,n=(cs,ns,os,fs,ls,ks):=⟨_,rfl⟩;simp only[<- hn];have eA:f+Fp l (t-f)=aF f t l:=rfl;have eB:aF f t l+1+Fp m (t-aF f t l)=bF f t l m:=rfl;have eT:aEE n (aCb n f t).2.2.1 (aF f t l) (bF f t l m)=dyT n f t l m:=rfl;simp only[qc,Di,Es,Dk,qd,Dt,Ea,Eb,Dp,Ei,Eh,Ed,Ew,Df,Et,Dl,Dn,Eo,Dy,Dw,Dh,Dq,Ee,Fg,Dc,Dx,Dj,Dz,Ej,Du,Eu,Ez,En,Ef,Fe,Fj,Fh,Ep,Em,Ey,Fb,eA,eB,eT];intro _ ⟨hc,hne⟩
 obtain⟨⟨l0,l1⟩,m0,m1⟩:=hp;obtain⟨hr,hs,ht,hD,_,_,_⟩:=aSa hc;have a0:f<=aF f t l:=by have:=Int.tmod_nonneg (t-f) l0;unfold aF;omega
 have a1:aF f t l<t:=by have:=Int.tmod_lt_of_pos l (show 0<t-f by omega);unfold aF;omega
 have b0:aF f t l<bF f t l m:=by have:=Int.tmod_nonneg (t-aF f t l) m0;unfold bF;omega
 have b1:bF f t l m<=t:=by have:=Int.tmod_lt_of_pos m (show 0<t-aF f t l by omega);unfold bF;omega
 have hr':0<=aF f t l/\aF f t l<bF f t l m/\bF f t l m<=600/\bF f t l m-aF f t l<=60:=by omega
 have dW:=aMk hs ht hr;have dN:=aMk hs ht hr';have fW:=aHt (nx:=(aCb n f t).2.2.1) (a:=f) (b:=t) hs;have fN:=aHt (nx:=(aCb n f t).2.2.1) (a:=aF f t l) (b:=bF f t l m) hs;have sW:=aWH hs ht hr;have sN:=aWH hs ht hr';rw[eT]at dN fN sN;rw[<- hD]at dW fW sW;have hz:gZ []:=⟨by simp,λr hr=>by cases hr⟩
 obtain⟨q1,q2⟩:=aAZ n.1 n.2.1 n.2.2.1 n.2.2.2.1 n.2.2.2.2.1 n.2.2.2.2.2 hs;have q1:(n.2.2.2.1.length:Int)<=12:=q1;have q2:(n.2.2.2.2.2.length:Int)<=1000000:=q2;refine⟨bC (by omega),bC (by omega),by omega,bC (by omega),bC (by omega),bC (by omega),bC (by omega),by omega,bC (by omega),aHu hs ht,⟨hz,fN⟩,λ_=>⟨hz,fW⟩,λh=>?_,λ_=>⟨⟨⟨hc,by omega⟩,qL _,qR _⟩,λx ⟨_,x0,x1⟩ hx=>?_⟩⟩
 .rcases h with h | h
  .rw[sN]at h;cases h
  .rw[sW]at h;cases h
 have ok:bEf n f t:=⟨hc,by omega⟩
 obtain⟨w1,w2⟩:=dW;obtain⟨v1,v2⟩:=dN;obtain⟨w2,w3⟩:=w2 x x0 (by omega)
 obtain⟨v2,v3⟩:=v2 x x0 (by omega)
 refine⟨⟨ok,⟨x0,hx⟩,qL _,qR _⟩,λy ⟨_,_,y0,y1⟩=>⟨x0,hx,λhy=>?_,λhy=>⟨bC (by omega),x+1,⟨ok,by omega,by omega⟩,rfl,by omega⟩⟩⟩
 obtain⟨w3,w4⟩:=w3 y y0 (by omega)
 obtain⟨v3,v4⟩:=v3 y y0 (by omega)
 have hno:noF n=true:=dP n.1 n.2.1 n.2.2.1 n.2.2.2.1 n.2.2.2.2.1 n.2.2.2.2.2 hs;have hoff:aAL n y:=⟨hno,y0,by omega⟩
 have hcl:aIq n x:=⟨x0,by show x<(n.2.2.2.2.2.length:Int);omega⟩
 refine⟨⟨hoff,hcl,by omega,b0,by omega⟩,⟨ok,⟨x0,hx⟩,⟨y0,hy⟩,qL _,qR _⟩,λz ⟨_,_,_,z0,z1⟩=>⟨x0,hx,y0,hy,λhz=>?_,λhz=>⟨bC (by omega),y+1,⟨ok,⟨x0,hx⟩,by omega,by omega⟩,rfl,by omega⟩⟩⟩
 refine⟨x0,by omega,y0,by omega,z0,by omega,λ_=>x0,λ_=>hx,λ_=>y0,λ_=>hy,λ_=>z0,λ_=>hz,λ_=>x0,λ_=>hx,λ_=>y0,λ_=>hy,λ_=>z0,λ_=>hz,λ⟨h1,h2⟩=>?_,λ_=>⟨bC (by omega),z+1,⟨ok,⟨x0,hx⟩,⟨y0,hy⟩,by omega,by omega⟩,rfl,by omega⟩⟩
 exfalso;rw[w4 z z0 (by omega)]at h1 h2
 rw[v4 z z0 (by omega)]at h2
 have hsub:∀u∈aEq n x y (aF f t l) (bF f t l m),u∈aEq n x y f t:=λu hu=>by
  obtain⟨g1,g2,g3⟩:=(aIo hoff hcl b0 (by omega)).1 hu
  exact(aIo hoff hcl hr.2.1 (by omega)).2 ⟨by omega,by omega,g3⟩
 obtain⟨k1,k2⟩:=aVp hsub h1;rcases h2 with h2 | ⟨h2,h3⟩
 .omega
 .have hne:aEq n x y (aF f t l) (bF f t l m)≠[]:=λh=>by
   obtain⟨u,hu⟩:=qCx _ (List.ne_nil_of_length_pos (show 0<(aK8 n x y (aF f t l) (bF f t l m)).length by omega))
   unfold aK8 aBY at hu;obtain⟨D,hD,rfl⟩:=wO.1 hu;have hK:=(xR.1 hD).2;unfold bDm at hK;rw[qC,qC,qE,qE]at hK;have:=(aIo hoff hcl b0 (by omega)).2 ⟨hK.1.2,hK.2,D,hK.1.1,rfl⟩
   rw[h]at this;cases this
  have:=k2 hne;omega
end Go.Eng.Sv
namespace Go.Eng
open Go.RowKit Go.ChangeShapes
theorem aHR{H:Type}{enc:TypeId×Value->H}{P:Program}{f:Func}{s:ChangeSpec}{apart fresh handsOn again:Bool}{W W':World}{args:Array Value}{v:Value}{ds gs:List (DataW H)}{before pa pv:List MemPlace}
  (hW:DataW.Whole enc P f.params.toList s.vars apart W args.toList ds gs before) (hb:Below W.heap.size W W')
  (hres:∀(b:Nat) (sp:Nat->Bool) (hd:Bool),DataW.TrodAll enc P W' b sp hd f.resultTypes.toList (v.resultList f.resultTypes.size) (s.fn H (ds++gs)).results [])
  (hargs:∀sp:Nat->Bool,(∀p∈before,sp p.block=true)->DataW.TrodAll enc P W' 0 sp true f.params.toList args.toList (s.fn H (ds++gs)).args pa)
  (hvars:∀sp:Nat->Bool,(∀p∈before,sp p.block=true)->DataW.TrodVars enc P W' sp s.vars (s.fn H (ds++gs)).vars pv)
  (hps:before=pa++pv)
  (hok:∀(j:Nat) (t:TypeId) (r:Value),f.resultTypes[j]?=some t->(v.resultList f.resultTypes.size)[j]?=some r->Value.okWide P W' .any 0 t r):
  s.post enc P f apart fresh handsOn again W args v W':=by
 have hlt:∀p∈before,p.block<W.heap.size:=λp hp=>hW.lt p hp
 have hold:∀p∈before,(λb=>decide (b<W.heap.size)) p.block=true:=λp hp=>by simpa using hlt p hp
 refine⟨ds,gs,before,[],pa,pv,hW,hres _ _ _,hargs _ hold,hvars _ hold,hb.frame _,λ_=>?_⟩
 obtain⟨_,_,_,_,_,hz,hn⟩:=hW;refine⟨hok,_,_,([]++pa)++pv,⟨[]++pa,pv,trodAll_append (hargs _ (λ_ _=>rfl)) (hres _ _ _),hvars _ (λ_ _=>rfl),rfl,?_,?_⟩,?_⟩
 .intro b off hp;have hp':MemPlace.cell b off∈before:=by rw[hps];simpa using hp
  rw[hb.frozen (hlt _ hp')];exact hz b off hp'
 .intro ha;have:=hn ha;rw[hps]at this;simpa using this
 .intro p hp _;rw[hps];simpa using hp
end Go.Eng
namespace Go.Eng
open Go.RowKit Go.ChangeShapes
def okT: (t:Ty)->t.den->Prop
 | .int k,x=>inR k x
 | .bool,_=>True
 | .str,s=>s.size<=9223372036854775807
 | .sl e,xs=>List.length xs<=9223372036854775807/\∀x∈(xs:List e.den),okT e x
 | .pair a b,x=>okT a x.1/\okT b x.2
def uZ: (t:Ty)->t.den->Nat
 | .int _,_=>1
 | .bool,_=>1
 | .str,s=>s.size+1
 | .sl e,xs=>((xs:List e.den).map λx=>uZ e x).sum+1
 | .pair a b,x=>uZ a x.1+uZ b x.2
mutual
def aDu{H:Type}: DataW H->Nat
 | .lit (.string bytes)=>bytes.length+1
 | .slice elems _=>aAD elems+1
 | .agg parts=>aAD parts+1
 | _=>1
def aAD{H:Type}: List (DataW H)->Nat
 | []=>0
 | d::r=>aDu d+aAD r
end
theorem aJv{H:Type}(d:DataW H): 1<=aDu d:=by
 cases d with
 | lit l=>cases l<;>simp[aDu]
 | _=>simp[aDu]
def aN3: (a c:Ty)->a.den->c.den->(aAV a c).den
 | .pair _ b,c,x,y=>(x.1,aN3 b c x.2 y)
 | .int _,_,x,y=>(x,y)
 | .bool,_,x,y=>(x,y)
 | .str,_,x,y=>(x,y)
 | .sl _,_,x,y=>(x,y)
theorem aJe: ∀(a c:Ty),(aAV a c).sz=a.sz+c.sz
 | .pair a b,c=>by simp only[aAV,Ty.sz,aJe b c];omega
 | .int _,_ | .bool,_ | .str,_ | .sl _,_=>by simp[aAV,Ty.sz]
theorem aJd{w:World}{D:Nat->Prop}: ∀{a c:Ty} {x:a.den} {y:c.den} {us vs:List Value},aG w D a x us->aG w D c y vs->aG w D (aAV a c) (aN3 a c x y) (us++vs)
 | .pair a b,c,x,y,us,vs,h1,h2=>by
  obtain⟨u1,u2,e,g1,g2⟩:=h1;subst e;exact⟨u1,u2++vs,by simp,g1,aJd g2 h2⟩
 | .int _,_,_,_,us,vs,h1,h2=>⟨us,vs,rfl,h1,h2⟩
 | .bool,_,_,_,us,vs,h1,h2=>⟨us,vs,rfl,h1,h2⟩
 | .str,_,_,_,us,vs,h1,h2=>⟨us,vs,rfl,h1,h2⟩
 | .sl _,_,_,_,us,vs,h1,h2=>⟨us,vs,rfl,h1,h2⟩
theorem aMz: ∀{a c:Ty} {x:a.den} {y:c.den},okT a x->okT c y->okT (aAV a c) (aN3 a c x y)
 | .pair _ _,_,_,_,h1,h2=>⟨h1.1,aMz h1.2 h2⟩
 | .int _,_,_,_,h1,h2=>⟨h1,h2⟩
 | .bool,_,_,_,h1,h2=>⟨h1,h2⟩
 | .str,_,_,_,h1,h2=>⟨h1,h2⟩
 | .sl _,_,_,_,h1,h2=>⟨h1,h2⟩
theorem aGL: ∀{a c:Ty} {x:a.den} {y:c.den},uZ (aAV a c) (aN3 a c x y)=uZ a x+uZ c y
 | .pair a b,c,x,y=>by
  show uZ a x.1+uZ (aAV b c) (aN3 b c x.2 y)=uZ a x.1+uZ b x.2+uZ c y;rw[aGL];omega
 | .int _,_,_,_=>rfl
 | .bool,_,_,_=>rfl
 | .str,_,_,_=>rfl
 | .sl _,_,_,_=>rfl
def fieldsB(P:Program)(T:TypeId->Option Ty): Nat->List Field->Option Ty
 | _,[]=>none
 | off,f::r=>if f.offset=off then match T f.type with
  | some a=>if P.cellsOf f.type=a.sz then match r with
   | []=>some a
   | g::r'=>match fieldsB P T (off+a.sz) (g::r')with
    | some c=>some (aAV a c)
    | none=>none
   else none
  | none=>none
  else none
def tyB(P:Program): Nat->TypeId->Option Ty
 | 0,_=>none
 | n+1,t=>match P.underlying t with
  | some (.int k)=>some (.int k)
  | some .bool=>some .bool
  | some .string=>some .str
  | some (.slice e)=>match tyB P n e with
   | some ty=>if P.cellsOf e=ty.sz then some (.sl ty)else none
   | none=>none
  | some (.struct fs)=>match fieldsB P (tyB P n) 0 fs.toList with
   | some ty=>if P.cellsOf t=ty.sz then some ty else none
   | none=>none
  | _=>none
abbrev aQY(w:World): Nat->Prop:=λb=>b<w.heap.size
theorem bC9{k:IntKind}{n:Int}(h:(Lit.int k n).wf=true): inR k n:=by
 simp only[Lit.wf,qC,qE]at h;cases k<;>simpa[IntKind.min,IntKind.max,IntKind.signed,IntKind.bits,inR]using h
section
variable {H:Type} {enc:TypeId×Value->H} {P:Program} {w:World}
def Opened(w:World)(ty:Ty)(cs:List Value)(n:Nat): Prop:=∃d:ty.den,aG w (aQY w) ty d cs/\okT ty d/\uZ ty d<=n
theorem aFc{T:TypeId->Option Ty}{n:Nat}{cs:List Value}
  (hT:∀t ty,T t=some ty->∀cs x,DataW.trod enc P w 0 (λ_=>true) true n t cs=some x->Opened w ty cs (aDu x.1)):
  ∀(fs:List Field) (off:Nat) (ty:Ty) (xs:List (DataW H×List MemPlace)),fieldsB P T off fs=some ty->xs.length=fs.length->
   (∀(i:Nat) (f:Field),fs[i]?=some f->DataW.trod enc P w 0 (λ_=>true) true n f.type ((cs.drop f.offset).take (P.cellsOf f.type))=xs[i]?)->
   cs.length=off+ty.sz->Opened w ty (cs.drop off) (aAD (xs.map (·.1)))
 | [],_,_,_,h,_,_,_=>by simp[fieldsB]at h
 | f::r,off,ty,xs,h,hl,hf,hc=>by
  rw[fieldsB.eq_2]at h;split at h
  case isFalse=>cases h
  rename_i hoff;split at h
  case h_2=>cases h
  rename_i a ha;split at h
  case isFalse=>cases h
  rename_i hsz
  match xs,hl with
  | y::ys,hl=>
   have h0:=hf 0 f rfl;simp only[qAg]at h0;rw[hoff,hsz]at h0;obtain⟨d,d1,d2,d3⟩:=hT _ _ ha _ _ h0;split at h
   .cases h;refine⟨d,?_,d2,?_⟩
    .rw[qO (by rw[vY];omega)]at d1
     exact d1
    .simp only[zG,aAD];omega
   .rename_i g r' _;split at h
    case h_2=>cases h
    rename_i c hc';cases h;rw[aJe]at hc;obtain⟨e,e1,e2,e3⟩:=aFc hT (g::r') (off+a.sz) c ys hc' (by simpa using hl) (λi f' hi=>by simpa using hf (i+1) f' (by simpa using hi)) (by omega)
    refine⟨aN3 a c d e,?_,aMz d2 e2,?_⟩
    .have:=aJd d1 e1
     rwa [<- yF,xC]at this
    .rw[aGL];simp only[zG,aAD];omega
theorem aKl{e:Ty}(f:Nat->e.den)(D:Nat->DataW H): ∀l:List Nat,(∀i∈l,uZ e (f i)<=aDu (D i))->((l.map f).map λx=>uZ e x).sum<=aAD (l.map D)
 | [],_=>by simp[aAD]
 | i::l,h=>by
  have h0:=h i (by simp)
  have h1:=aKl f D l (λj hj=>h j (by simp[hj]))
  simp only[zG,List.sum_cons,aAD];omega
theorem aFd: ∀(n:Nat) {t:TypeId} {ty:Ty},tyB P n t=some ty->∀(fuel:Nat) (cs:List Value) (x:DataW H×List MemPlace),
  DataW.trod enc P w 0 (λ_=>true) true fuel t cs=some x->Opened w ty cs (aDu x.1)
 | 0,_,_,h,_,_,_,_=>by simp[tyB]at h
 | n+1,t,ty,h,fuel,cs,x,hx=>by
  simp only[tyB]at h;split at h
  .rename_i k hu;cases h;obtain⟨m,rfl,rfl,hw⟩:=DataW.trod_int hu hx;exact⟨m,rfl,bC9 hw,aJv _⟩
  .rename_i hu;cases h;obtain⟨b,rfl,rfl⟩:=DataW.trod_bool hu hx;exact⟨b,rfl,trivial,aJv _⟩
  .rename_i hu;cases h;obtain⟨s,rfl,rfl,hs⟩:=DataW.trod_string hu hx;refine⟨s,rfl,by simpa[okT,maxLen]using hs,?_⟩
   simp only[uZ,aDu];have:s.data.toList.length=s.size:=by rw[vH];rfl
   omega
  .rename_i e hu;split at h
   case h_2=>cases h
   rename_i ety he;split at h
   case isFalse=>cases h
   rename_i hsz;cases h;rcases Deep.open_slice hu hx with⟨rfl,rfl⟩ | ⟨a,len,cap,m,n',Dd,Pl,rfl,hb,hl,hm,hmm,rfl,hel⟩
   .exact⟨[],dF _ _ _,⟨wX _,λx hx=>by cases hx⟩,by simp[uZ,aDu]⟩
   .have hlm:len<=m:=by rw[hmm];simpa using hl
    haveI:Inhabited ety.den:=⟨ety.dflt⟩
    obtain⟨f,hf⟩:=Deep.choose_lt (α:=ety.den) (n:=len) (p:=λi d=>∃cs',w.cells? 0 (a.add (i*ety.sz)) ety.sz=some cs'/\aG w (aQY w) ety d cs'/\okT ety d/\uZ ety d<=aDu (Dd i)) (λi hi=>by
     obtain⟨cs',h1,h2⟩:=hel i (by omega)
     rw[hsz]at h1;obtain⟨d,d1,d2,d3⟩:=aFd n he _ _ _ h2;exact⟨d,cs',h1,d1,d2,d3⟩)
    have hp:=Ty.sz_pos ety;have spot:0<len->a.spot=none/\a.block<w.heap.size:=λh0=>by
     obtain⟨cs',h1,d1,_⟩:=hf 0 h0;obtain⟨_,hcl,hcc⟩:=World.cells?_some h1;have:=hcc 0 hp;have hlt:0<cs'.length:=by omega
     rw[qB hlt]at this;simp only[yV]at this;have e0:(a.add 0).add 0=a:=by simp[Addr.add]
     rw[e0]at this;unfold World.cell? at this;split at this
     .rename_i c t' fr hc;refine⟨?_,(vJ.1 hc).1⟩;split at this
      .cases this
      .rename_i hs;cases hsp:a.spot with
       | none=>rfl
       | some _=>rw[hsp]at hs;simp at hs
     .cases this
    have hlen:List.length ((List.range len).map f)=len:=by simp
    refine⟨(List.range len).map f,⟨some a,cap,by rw[hlen],by rw[hlen];exact hl,(λh=>by cases h),λa' ha' hpos=>?_,λi y hy=>?_⟩,⟨?_,λy hy=>?_⟩,?_⟩
    .cases ha';rw[hlen]at hpos;exact(spot hpos).1
    .have hi:i<len:=by
      have:=(qG.1 hy).1
      rwa [hlen]at this
     have ey:y=f i:=by
      rw[qP,vX hi]at hy;exact(wU hy).symm
     subst ey;obtain⟨cs',h1,d1,_⟩:=hf i hi;obtain⟨hsp,hbk⟩:=spot (by omega)
     refine⟨a,cs',rfl,hbk,λj u hj=>?_,d1⟩
     obtain⟨_,hcl,hcc⟩:=World.cells?_some h1;have hjl:=(qG.1 hj).1;have:=hcc j (by omega)
     rw[hj,Deep.add_add]at this;have e1:a.add (i*ety.sz+j)=⟨a.block,a.off+i*ety.sz+j,none⟩:=by
      cases a with | mk b o s=>simp only at hsp;subst hsp;rw[yN,kY]
     rw[e1]at this;exact this
    .rw[hlen];unfold maxLen at hm;omega
    .obtain⟨i,hi,rfl⟩:=wO.1 hy;obtain⟨_,_,_,h2,_⟩:=hf i (vN.1 hi);exact h2
    .have:=aKl f Dd (List.range len) (λi hi=>by
      obtain⟨_,_,_,_,h3⟩:=hf i (vN.1 hi);exact h3)
     simp only[uZ,aDu];omega
  .rename_i fs hu;split at h
   case h_2=>cases h
   rename_i ty' hfs;split at h
   case isFalse=>cases h
   rename_i hsz;cases h;obtain⟨xs,m,_,rfl,hcl,hxl,hf⟩:=DataW.trod_struct hu hx;obtain⟨d,d1,d2,d3⟩:=aFc (cs:=cs) (n:=m) (T:=tyB P n) (λt' ty' ht' cs' x' hx'=>aFd n ht' _ _ _ hx') fs.toList 0 ty xs hfs (by simpa using hxl)
    (λi f' hi=>hf i f' (by simpa using hi)) (by omega)
   refine⟨d,by simpa using d1,d2,?_⟩
   simp only[aDu];omega
  .cases h
abbrev TT:=Bool×Ty
def aXz: List TT->Type
 | []=>PUnit
 | p::r=>p.2.den×aXz r
def bDD(p:TT)(x:p.2.den): AV:=match p.1 with
 | true=>.agg (cellsOf p.2 x)
 | false=>.dat p.2 x
def avs: (l:List TT)->aXz l->List AV
 | [],_=>[]
 | p::r,x=>bDD p x.1::avs r x.2
def okL: (l:List TT)->aXz l->Prop
 | [],_=>True
 | p::r,x=>okT p.2 x.1/\okL r x.2
def aWl: (l:List TT)->aXz l->Nat
 | [],_=>0
 | p::r,x=>uZ p.2 x.1+aWl r x.2
def ttB(P:Program)(t:TypeId)(p:TT): Bool:=decide (tyB P 12 t=some p.2)&&(match P.underlying t with
 | some (.struct _)=>p.1
 | some (.int _) | some .bool | some .string | some (.slice _)=>!p.1
 | _=>false)
def aSF(P:Program): List TypeId->List TT->Bool
 | [],[]=>true
 | t::ts,p::ps=>ttB P t p&&aSF P ts ps
 | _,_=>false
theorem open_arg{t:TypeId}{p:TT}{base:Nat}{v:Value}{d:DataW H}{ps:List MemPlace}(ht:ttB P t p=true)(hv:Value.okWide P w .any base t v)
  (h:DataW.Trod enc P w 0 (λ_=>true) true t v d ps):∃x:p.2.den,(bDD p x).rel P ⟨w,aQY w,noM,noE⟩ v/\okT p.2 x/\uZ p.2 x<=aDu d:=by
 unfold ttB at ht;simp only[qC,qE]at ht;obtain⟨hty,hk⟩:=ht;obtain⟨fuel,hf⟩:=h;obtain⟨x,x1,x2,x3⟩:=aFd 12 hty _ _ _ hf;refine⟨x,?_,x2,x3⟩;have plain:(∀cs,v≠.agg cs)->p.1=false->(bDD p x).rel P ⟨w,aQY w,noM,noE⟩ v:=λhn h0=>by
  have e:v.cells.toList=[v]:=by cases v<;>first | rfl | exact(hn _ rfl).elim
  rw[e]at x1;unfold bDD;rw[h0];exact x1
 split at hk
 .rename_i fs hu;have:∃cs,v=.agg cs:=by
   unfold Value.okWide at hv;rw[hu]at hv;obtain⟨cs,e,_⟩:=hv;exact⟨cs,e⟩
  obtain⟨cs,rfl⟩:=this;unfold bDD;rw[hk];refine⟨cs.toList,rfl,fO (C:=⟨w,aQY w,noM,noE⟩) ?_⟩;exact x1
 all_goals first
  | cases hk
  | (rename_i hu
     refine plain (λcs e=>?_) (by simpa using hk)
     subst e;simp[Value.okWide,hu,Cell.okWide,Cell.ok]at hv)
theorem aJr: ∀{ts:List TypeId} {l:List TT} {vs:List Value} {ds:List (DataW H)} {ps:List MemPlace} {base:Nat},aSF P ts l=true->
  (∀(j:Nat) t v,ts[j]?=some t->vs[j]?=some v->Value.okWide P w .any base t v)->DataW.TrodAll enc P w 0 (λ_=>true) true ts vs ds ps->
  ∃x:aXz l,AV.relL P ⟨w,aQY w,noM,noE⟩ (avs l x) vs/\okL l x/\aWl l x<=aAD ds
 | [],[],vs,ds,ps,base,_,_,h=>by
  obtain⟨rfl,rfl,rfl⟩:=trodAll_nil h;exact⟨PUnit.unit,rfl,trivial,wX _⟩
 | t::ts,p::l,vs,ds,ps,base,ht,hv,h=>by
  obtain⟨v,vs',d,ds',p1,q,rfl,rfl,rfl,h1,h2⟩:=trodAll_cons h;simp only[aSF,qC]at ht;obtain⟨x,x1,x2,x3⟩:=open_arg ht.1 (hv 0 t v rfl rfl) h1;obtain⟨y,y1,y2,y3⟩:=aJr ht.2 (λj t' v' hj hj'=>hv (j+1) t' v' (by simpa using hj) (by simpa using hj')) h2
  exact⟨(x,y),⟨v,vs',rfl,x1,y1⟩,⟨x2,y2⟩,by simp only[aWl,aAD];omega⟩
 | [],_::_,_,_,_,_,ht,_,_=>by simp[aSF]at ht
 | _::_,[],_,_,_,_,ht,_,_=>by simp[aSF]at ht
theorem aJS{W W':World}(hl:laidOutB P=true)(hb:Below W.heap.size W W'): ∀{ts:List TypeId} {vs:List Value} {ds:List (DataW H)} {ps:List MemPlace},
  (ts.all λt=>P.readableRec t&&decide (t<P.types.size))=true->DataW.TrodAll enc P W 0 (λ_=>true) true ts vs ds ps->(∀x∈ps,x.block<W.heap.size)->
  ∀sp:Nat->Bool,(∀x∈ps,sp x.block=true)->DataW.TrodAll enc P W' 0 sp true ts vs ds ps
 | [],vs,ds,ps,_,h,_,sp,_=>by
  obtain⟨rfl,rfl,rfl⟩:=trodAll_nil h;exact trodAll_mk0
 | t::ts,vs,ds,ps,ht,h,hlt,sp,hsp=>by
  obtain⟨v,vs',d,ds',p1,q,rfl,rfl,rfl,h1,h2⟩:=trodAll_cons h;simp only[qAi,qC,qE]at ht;have g1:=WideElems.Trod_stays (enc:=enc) (sp':=sp) hl ht.1.1 ht.1.2 h1 (λx hx=>hb.same (hlt x (qH.2 (.inl hx)))) (λx hx=>hsp x (qH.2 (.inl hx)))
  exact⟨p1,q,g1,aJS hl hb (by simpa using ht.2) h2 (λx hx=>hlt x (qH.2 (.inr hx))) sp (λx hx=>hsp x (qH.2 (.inr hx))),rfl⟩
theorem law_contractG{G:List (Nat×AV)}{f:FuncId}{fn:Func}{s:ChangeSpec}{apart fresh handsOn again:Bool}{l:List TT}{X:aXz l->Prop}{rt:TypeId}(hf:∀x:aXz l,X x->aB P G f (avs l x) [] ⟨True,.dat .bool true,[]⟩)
  (htt:aSF P fn.params.toList l=true) (hl:laidOutB P=true) (hrd:(fn.params.toList.all λt=>P.readableRec t&&decide (t<P.types.size))=true)
  (hrt:fn.resultTypes=#[rt]) (hbool:P.underlying rt=some .bool) (hvars:s.vars=[])
  {W:World} {base:Nat} {args:Array Value} {ds gs:List (DataW H)} {before:List MemPlace}
  (hspec:ds.length=l.length->s.fn H ds={results:=[.lit (.bool true)],args:=ds})
  (hval:∀(j:Nat) t v,fn.params[j]?=some t->args[j]?=some v->Value.okWide P W .any base t v)
  (hW:DataW.Whole enc P fn.params.toList s.vars apart W args.toList ds gs before)
  (hX:∀x:aXz l,okL l x->aWl l x<=aAD ds->X x) (hG:aAi P ⟨W,aQY W,noM,noE⟩ G):
  Calls P f args W λe W'=>∃v,e=.returned v/\s.post enc P fn apart fresh handsOn again W args v W':=by
 obtain⟨p,q,hA,hV,hbef,hfz,hnd⟩:=id hW;rw[hvars]at hV;obtain⟨rfl,rfl⟩:=trodVars_none hV;rw[wE]at hbef;subst hbef;have hlt:∀x∈before,x.block<W.heap.size:=λx hx=>hW.lt x hx
 obtain⟨x,x1,x2,x3⟩:=aJr (l:=l) htt (λj t v h1 h2=>hval j t v (by simpa using h1) (by simpa using h2)) hA
 have hsl:∀{ts:List TypeId} {l:List TT} {vs:List Value} {ds:List (DataW H)} {p:List MemPlace},aSF P ts l=true->DataW.TrodAll enc P W 0 (λ_=>true) true ts vs ds p->ds.length=l.length:=by
  intro ts;induction ts with
  | nil=>
   intro l vs ds p ht h;obtain⟨rfl,rfl,rfl⟩:=trodAll_nil h;cases l with
   | nil=>rfl
   | cons _ _=>simp[aSF]at ht
  | cons t ts ih=>
   intro l vs ds p ht h;obtain⟨v,vs',d,ds',p1,q,rfl,rfl,rfl,h1,h2⟩:=trodAll_cons h;cases l with
   | nil=>simp[aSF]at ht
   | cons _ l=>
    simp only[aSF,qC]at ht;simp[ih ht.2 h2]
 have hfn:=hspec (hsl htt hA);have hcall:=(hf x (hX x x2 x3)).data trivial (w:=W) (D:=aQY W) (us:=args.toList) (λb hb=>hb) hG x1
 refine hcall.mono λe W' he=>?_
 obtain⟨v,rfl,hb,hv⟩:=he;have hv:v=.bool true:=by simpa[AV.rel,aG]using hv
 subst hv;refine⟨_,rfl,aHR (pa:=before) (pv:=[]) hW hb (λb sp hd=>?_) (λsp hsp=>?_) (λsp _=>?_) (by simp) (ok_one hrt rfl (okWide_bool_mk hbool _))⟩
 .rw[wE,hfn,hrt];exact trodAll_mk1 (shut_bool hbool true)
 .rw[wE,hfn];exact aJS hl hb hrd hA hlt sp hsp
 .rw[hvars,wE,hfn];exact rfl
theorem laid_strs{n:String}{g:Nat}{ta te m:Nat}{w:World}{xs:List ByteArray}(hg:P.globalNamed n=some g)(ht:(P.globals[g]?).map (·.type)=some ta)(ha:P.underlying ta=some (.array m te))
  (he:P.underlying te=some .string) (hc:P.cellsOf te=1) (hsz:m<=9223372036854775807) (hne:0<m) {r:List (String×DataW Unit)} {ps:List MemPlace}
  (h:DataW.LaidVars P w ((n,.agg (xs.map λs=>.lit (.string s.data.toList)))::r) ps):aAi P ⟨w,aQY w,noM,noE⟩ [(g,.ia .str xs)]/\∃ps',DataW.LaidVars P w r ps':=by
 obtain⟨g',t',cs,fuel,p,q',hg',ht',hv,hd,hr,_⟩:=h;obtain rfl:=wU (hg.symm.trans hg');obtain rfl:=wU (ht.symm.trans ht');refine⟨λz hz=>?_,q',hr⟩
 obtain rfl:=qZ.1 hz;obtain⟨ys,f,rfl,hx,hlen,hm,hel⟩:=DataW.trod_array ha hd;simp only[qBu,DataW.agg.injEq]at hx;have hxl:xs.length=m:=by
  have:=zZ List.length hx.1;simpa[hm]using this
 have cell:∀i (hi:i<m),∃y,xs[i]?=some y/\w.cell? ⟨g,i,none⟩=some (.string y):=by
  intro i hi;have h1:=hel i hi;rw[hc,yI,qB (by omega)]at h1
  obtain⟨s,e1,e2,_⟩:=DataW.trod_string he h1;have h2:cs[i]?=some (.string s):=by
   have:=zZ (·[0]?) e1
   simpa[vM,qX]using this
  refine⟨s,?_,by rw[World.var?_cell hg hv];exact h2⟩
  have h3:=zZ (·[i]?) hx.1
  simp only[qP,qB (show i<ys.length by omega),qB (show i<xs.length by omega),zK,vZ]at h3
  rw[e2]at h3;simp only[DataW.lit.injEq,Lit.string.injEq]at h3;rw[qB (by omega)]
  have:xs[i].data=s.data:=Array.toList_inj.1 h3;cases hx':xs[i]with | mk d=>cases s with | mk d'=>rw[hx']at this;exact zZ some (zZ ByteArray.mk this)
 have hblk:aQY w g:=by
  obtain⟨y,_,h2⟩:=cell 0 hne;show g<w.heap.size;unfold World.cell? at h2;split at h2
  .rename_i c t' fr hcc;exact(vJ.1 hcc).1
  .cases h2
 refine⟨rfl,g,0,rfl,some ⟨g,0,none⟩,xs.length,by rfl,qK _,(λh=>by cases h),λa' ha' _=>by cases ha';rfl,λi y hy=>?_⟩
 have hi:=(qG.1 hy).1;obtain⟨y',e1,e2⟩:=cell i (by omega)
 obtain rfl:=wU (hy.symm.trans e1);refine⟨⟨g,0,none⟩,[.string y],rfl,hblk,λj u hj=>?_,rfl⟩
 have:j=0:=by
  have:=(qG.1 hj).1;simp at this;omega
 subst this;obtain rfl:Value.string y=u:=by simpa using hj
 simpa[Ty.sz]using e2
end
end Go.Eng
