/- PeIn2n PeWa1n PeWa2n PeWa3n PeWa4n PeWa5n PeWa6n PeCo1n PeCo2n PeCo3n PeCo4n PeCo5n PeCoL2n PeIn3n -/
import Derived.Test.YtlakcpmgefpfaaaGreatDoorECPromA
import Derived.Test.YtlakcpmgefpfaaaGreatDoorECPromB
import Derived.Test.YtlakcpmgefpfaaaGreatDoorECPromC
import Derived.Test.YtlakcpmgefpfaaaGreatDoorECPromD
import Derived.Test.YtlakcpmgefpfaaaGreatDoorECPromE
set_option linter.unusedSimpArgs false
set_option linter.unusedVariables false
set_option maxRecDepth 100000
noncomputable section
namespace Go.Eng.In
open Go.Proofs
abbrev Ce: Ty:=.pair R I
abbrev Pl: Ty:=.pair I (.pair I (.pair M (.sl M)))
abbrev Plan:=Int×Int×Lj×List (Lj)
def HJ(l:Li): Prop:=l.length<=2000000000000000
def Qb(l:Li): Prop:=l.length<=9223372036854775807
def sP(l:Li)(k:Int): Int:=(Jb (1,0) (l.take k.toNat)).1
def sS(l:Li)(k:Int): Int:=(Jb (1,0) (l.take k.toNat)).2
def rl(l:Li): Li:=l.map λx=>x%65521
def nh(l:Li): Int:=He (rl l)
def oL(l:Li): Bool:=l.all λx=>btw x 0 65519
def d5(l:Li)(s:Int): Bool:=oL l&&decide (s=He l)
def YZ(l:Li)(k:Int): Prop:=0<=k/\k<=l.length/\oL (l.take k.toNat)=true
def y7(l:Li)(k:Int): Prop:=0<=k/\k<=l.length
def dD(g:Int->Int->Int)(n:Int): Lj:=(List.range n.toNat).map λi:Nat=>(List.range n.toNat).map λj:Nat=>g i j
def fG(g:Int->Int->Int)(n i:Int): Lj:=(dD g n).take i.toNat++List.replicate (n.toNat-i.toNat) []
def iD(g:Int->Int->Int)(n i j:Int): Li:=((List.range n.toNat).map λj:Nat=>g i j).take j.toNat++List.replicate (n.toNat-j.toNat) 0
def nN(k n:Int): Prop:=0<=k/\(k<=n\/k=0)
def tg(l:Li)(m i j:Int): Int:=l.getD (i*m+j).toNat 0-1
def lz(m:Int)(l:Li): Lj:=dD (tg l m) m
def bN(l:Li)(k:Int): Li:=l.drop k.toNat
def nS(m:Int)(l:Li): Bool:=decide (m*m<=l.length)
def dI(l:Li): Prop:=oL l=true/\HJ l
def L0(m:Int)(l:Li): Prop:=0<=m/\m<=12/\dI l
def RS(m:Int)(l:Li)(k:Int): Prop:=nN k m/\k*m<=l.length
def G4(m:Int)(l:Li)(i k:Int): Prop:=nN k m/\i*m+k<=l.length
def uJ(q m:Int)(l:Li): List (Lj):=(List.range q.toNat).map λk:Nat=>lz m (bN l ((k:Int)*(m*m)))
def nR(q m:Int)(l:Li)(k:Int): List (Lj):=(uJ q m l).take k.toNat++List.replicate (q.toNat-k.toNat) []
def aCV(q m:Int)(l:Li)(k:Int): Prop:=nN k q/\(k+1)*(m*m)<=l.length-4
def sZ(l:Li): Bool:=decide (l.getD 2 0<=12/\l.getD 3 0<=4/\l.getD 0 0<l.getD 1 0/\l.getD 1 0<=l.getD 0 0+60/\l.getD 1 0<=600)
def nK(l:Li): Bool:=decide (4<=l.length)&&sZ l&&decide (4+l.getD 2 0*l.getD 2 0+l.getD 3 0*(l.getD 2 0*l.getD 2 0)<=l.length)
def aw(l:Li): Plan:=(l.getD 0 0,l.getD 1 0,lz (l.getD 2 0) (bN l 4),uJ (l.getD 3 0) (l.getD 2 0) (bN l (4+l.getD 2 0*l.getD 2 0)))
def bQ(l:Li): Li:=bN l (4+l.getD 2 0*l.getD 2 0+l.getD 3 0*(l.getD 2 0*l.getD 2 0))
def at0(l:Li)(k:Nat): Int:=l.getD k 0
def Jg(q m:Int)(l:Li)(k:Int): Li:=bN l (4+m*m+k*(m*m))
def aF5(l:Li): Ann:=⟨λid s=>match id with
 | 3=>some {α:=Int,inv:=λk=>YZ l k,st:=λk=>put (fP s) [(10,.dat I k),(3,.dat I (sP l k)),(4,.dat I (sS l k))],μ:=λk=>Dc (Dh (Df l) k)}
 | _=>none,λ_ _=>none,λ_ _=>none⟩
def gD(l:Li): Ann:=⟨λid s=>match id with
 | 3=>some {α:=Int,inv:=λk=>y7 l k,st:=λk=>put (fP s) [(9,.dat I k),(3,.dat I (sP (rl l) k)),(4,.dat I (sS (rl l) k))],μ:=λk=>Dc (Dh (Df l) k)}
 | _=>none,λ_ _=>none,λ_ _=>none⟩
theorem DN(s:Int)(l:Li)(hvc:
 let c1:=(l,s);true/\(HJ l->(∃x,YZ l x/\l=l/\s=s/\c1=c1/\1=sP l x/\0=sS l x/\c1=c1/\l=l/\Df l=Df l/\0=x/\True)/\∀(x:Int),let c2:=Dp x (Df l);let c3:=Du l (Dc x) 0;let c4:=Di (btw c3 0 65519);let c5:=sP l x*3;let aQ:=Fp c5 65521;let c7:=c3*aQ;let c8:=sS l x+c7;let c9:=x+1;YZ l x->(c2->0<=x/\x<Df l/\True/\(c4->false=d5 l s/\True)/\(c4=false->inR .i64 c5/\Eo 65521 0/\inR .i64 c7/\inR .i64 c8/\Eo 65521 0/\inR .i64 c9/\∃y,YZ l y/\(l=l/\s=s/\c1=c1/\aQ=sP l y/\Fp c8 65521=sS l y/\c1=c1/\l=l/\Df l=Df l/\c9=y/\True)/\Dc (Df l-y)<Dc (Df l-x)))/\(c2=false->Ea s (sS l x)=d5 l s/\True))):
  evF (mkc Vg) (aF5 l) 141 [.agg [.dat R l,.dat I s]] [] ⟨HJ l,.dat .bool (d5 l s),[]⟩:=oE hvc
theorem Qu(l:Li)(hvc:
 true/\(Qb l->(∃x,y7 l x/\l=l/\(0:Int)=(0:Int)/\1=sP (rl l) x/\0=sS (rl l) x/\l=l/\Df l=Df l/\0=x/\True)/\∀(x:Int),let c1:=Dp x (Df l);let c2:=sP (rl l) x*3;let c3:=Fp (Du l (Dc x) 0) 65521+65521;let c4:=Fp c2 65521;let c5:=Fp c3 65521*c4;let aQ:=sS (rl l) x+c5;let c7:=x+1;y7 l x->(c1->0<=x/\x<Df l/\inR .i64 c2/\Eo 65521 0/\Eo 65521 0/\inR .i64 c3/\Eo 65521 0/\inR .i64 c5/\inR .i64 aQ/\Eo 65521 0/\inR IntKind.i64 c7/\∃y,y7 l y/\(l=l/\(0:Int)=(0:Int)/\c4=sP (rl l) y/\Fp aQ 65521=sS (rl l) y/\l=l/\Df l=Df l/\c7=y/\True)/\Dc (Df l-y)<Dc (Df l-x))/\(c1=false->sS (rl l) x=nh l/\True))):
  evF (mkc Vg) (gD l) 36 [.dat R l] [] ⟨Qb l,.dat I (nh l),[]⟩:=oE hvc
def aFX: Kt:=kOr 141 (az [.row Ce] (λ(c,_)=>HJ c.1) λ(c,_)=>.dat .bool (d5 c.1 c.2)) <|
 kOr 36 (az [.val R] (λ(l,_)=>Qb l) λ(l,_)=>.dat I (nh l)) <|
 Vg
def aFk: Kt:=
 kOr 207 (VN 1 R [.mp 1] (λ_ xs=>True/\bR xs=true) (λ_ xs=>.dat I (hd xs)) λ_ xs=>tl xs) aFX
def KP6: KPt:=pOr 207 (YL 1 R [.mp 1] λ_ xs=>⟨True,bR xs,dA 39 190⟩) KPr
def aQ: Cfg:=Jr aFk (λ_=>false) KP6 (λf=>f==79||f==207)
def RQ(m:Int)(l:Li): Ann:=⟨λid s=>match id with
 | 3=>some {α:=Int,inv:=λk=>RS m l k,st:=λk=>iE (iE (put (fP s) [(12,.dat I k),(5,.buf 2 (Dc m))]) 2 (.buf 36 R (fG (tg l m) m k) [])) 1 (.var [.dat R (bN l (Ee k m))]),μ:=λk=>Dc (Dh m k)}
 | 7=>match s.sig.T 6,s.sig.T 23 with
  | .dat (.int .i64) i,.buf nm _=>some {α:=Int,inv:=λk=>G4 m l i k,st:=λk=>iE (iE (put (fP s) [(25,.dat I k)]) nm (.buf 3 I (iD (tg l m) m i k) [])) 1 (.var [.dat R (bN l (Dq (Ee i m) k))]),μ:=λk=>Dc (Dh m k)}
  | _,_=>none
 | _=>none,λ_ _=>none,λ_ _=>none⟩
theorem IE(m:Int)(l:Li)(hvc:
 let c16:=tg l m;let c6:=Dc m;let c1:=Ep m (Dt Int);let c2:=Ep m (0:Int);let c3:=chainOf (Value.iface 39 (Value.int .i64 (190:Int)));true/\(L0 m l->1=1/\0<=m/\(Dx 24*m)<=281474976710656/\m<=9223372036854775807/\Dj c1=Dc m/\(∃x,RS m l x/\1=1/\0=0/\0=0/\m=m/\Value.slice none 0 0=Value.slice none 0 0/\Dc m=Dc m/\m=m/\Dc m=Dc m/\Dc m=Dc m/\Int.ofNat c6=Int.ofNat c6/\0=x/\l=bN l (x*m)/\c1=fG c16 m x/\1=1/\True)/\∀(x:Int),let c4:=Dp x (Int.ofNat c6);let c5:=fG c16 m x;let aQ:=Dj c5;let c7:=bN l (x*m);let c8:=x+1;RS m l x->(c4->0<=m/\(Dx 8*m)<=281474976710656/\m<=9223372036854775807/\aQ=Dc m/\0<=x/\x<Dx aQ/\aQ=Dc m/\Dj c2=Dc m/\aQ=Dc m/\0<=x/\x<Dx aQ/\aQ=Dc m/\Dc x=Dc x/\Dj c2=Dc m/\(∃x_3,G4 m l x x_3/\1=1/\0=0/\0=0/\m=m/\Value.slice none 0 0=Value.slice none 0 0/\Dc m=Dc m/\x=x/\m=m/\Dc m=Dc m/\Dc m=Dc m/\Int.ofNat c6=Int.ofNat c6/\x=x/\c4=c4/\x=x/\Dc m=Dc m/\x=x/\m=m/\Dc m=Dc m/\Dc m=Dc m/\Dc x=Dc x/\0=0/\Dc m=Dc m/\x=x/\Dc m=Dc m/\Dc x=Dc x/\0=0/\Dc m=Dc m/\Int.ofNat c6=Int.ofNat c6/\0=x_3/\c7=bN l ((x*m)+x_3)/\c5=c5/\Dc x=Dc x/\Dc m=Dc m/\c2=iD c16 m x x_3/\1=1/\True)/\∀(x_3:Int),let c9:=Dp x_3 (Int.ofNat c6);let c10:=bN l ((x*m)+x_3);let c11:=bR c10;let c12:=hd c10-1;let c13:=iD c16 m x x_3;let c14:=Dj c13;let c15:=x_3+1;
 G4 m l x x_3->(c9->aQ=Dc m/\0<=x/\x<Dx aQ/\aQ=Dc m/\Dc x=Dc x/\True/\(c11->aQ=Dc m/\0<=x/\x<Dx aQ/\aQ=Dc m/\Dc x=Dc x/\(True/\c11)/\1=1/\inR .i64 c12/\c14=Dc m/\0<=x_3/\x_3<Dx c14/\c14=Dc m/\inR .i64 c15/\∃y,G4 m l x y/\(1=1/\0=0/\0=0/\m=m/\Value.slice none 0 0=Value.slice none 0 0/\Dc m=Dc m/\x=x/\m=m/\Dc m=Dc m/\Dc m=Dc m/\Int.ofNat c6=Int.ofNat c6/\x=x/\c4=c4/\x=x/\Dc m=Dc m/\x=x/\m=m/\Dc m=Dc m/\Dc m=Dc m/\Dc x=Dc x/\0=0/\Dc m=Dc m/\x=x/\Dc m=Dc m/\Dc x=Dc x/\0=0/\Dc m=Dc m/\Int.ofNat c6=Int.ofNat c6/\c15=y/\tl c10=bN l ((x*m)+y)/\c5=c5/\Dc x=Dc x/\Dc m=Dc m/\En c13 (Dc x_3) c12=iD c16 m x y/\1=1/\True)/\Dc (m-y)<Dc (m-x_3))/\(c11=false->nS m l=false/\true/\c3=c3))/\(c9=false->inR .i64 c8/\∃y,RS m l y/\(1=1/\0=0/\0=0/\m=m/\Value.slice none 0 0=Value.slice none 0 0/\Dc m=Dc m/\m=m/\Dc m=Dc m/\Dc m=Dc m/\Int.ofNat c6=Int.ofNat c6/\c8=y/\c10=bN l (y*m)/\c14=Dc m/\En c5 (Dc x) c13=fG c16 m y/\1=1/\True)/\Dc (m-y)<Dc (m-x)))/\(c4=false->nS m l/\aQ=Dc m/\c5=lz m l/\c7=bN l (m*m)/\1=1/\True))):
  evM aQ (RQ m l) 208 [.ptr 1 1 0 0,.dat I m] [(1,.var [.dat R l])] (.dat M (lz m l)) [(1,.var [.dat R (bN l (Ee m m))])] ⟨L0 m l,nS m l,dA 39 190⟩:=oE hvc
def aFj: Kt:=kOr 208 (VN 1 R [.mp 1,.val I] (λ(_,m,_) xs=>L0 m xs/\nS m xs=true) (λ(_,m,_) xs=>.dat M (lz m xs)) λ(_,m,_) xs=>bN xs (Ee m m)) aFk
def KP7: KPt:=pOr 208 (YL 1 R [.mp 1,.val I] λ(_,m,_) xs=>⟨L0 m xs,nS m xs,dA 39 190⟩) KP6
def c7: Cfg:=Jr aFj (λ_=>false) KP7 (λf=>f==79||f==207||f==208)
def aEv(l:Li): Ann:=⟨λid s=>match id with
 | 9=>some {α:=Int,inv:=λk=>aCV (at0 l 3) (at0 l 2) l k,st:=λk=>iE (iE (put (fP s) [(53,.dat I k)]) 4 (.buf 32 M (nR (at0 l 3) (at0 l 2) (bN l (Dq 4 (Ee (at0 l 2) (at0 l 2)))) k) [])) 1 (.var [.dat R (Jg (at0 l 3) (at0 l 2) l k)]),μ:=λk=>Dc (Dh (at0 l 3) k)}
 | _=>none,λ_ _=>none,λ_ _=>none⟩
theorem WU(l:Li)(hvc:
 let c1:=chainOf (Value.iface 39 (Value.int .i64 (190:Int)));let c2:=bR (tl (tl (tl l)));let c3:=Eh (hd (tl (tl l))) 12;let c4:=hd (tl (tl (tl l)));let c5:=Dz c3 (Eh c4 4) false;let aQ:=Dp (hd l) (hd (tl l));let c7:=hd l+60;let c8:=Dz aQ (Eh (hd (tl l)) c7) false;let c9:=Dz c8 (Eh (hd (tl l)) 600) false;let c10:=tl (tl (tl (tl l)));let c11:=nS (hd (tl (tl l))) c10;let c12:=Ep c4 (Dt (Li));let c13:=Dc c4;let c14:=lz (hd (tl (tl l))) c10;let c15:=Int.ofNat c13;let c16:=hd (tl (tl l))*hd (tl (tl l));let c17:=bN l (4+(at0 l 2*at0 l 2));let c18:=(aw l).2;let c19:=c18.2;
 true/\(dI l->1=1/\(true->True/\(bR l=false->nK l=false/\true/\c1=c1))/\((true->bR l)->(True/\bR l)/\1=1/\(true->True/\(bR (tl l)=false->nK l=false/\true/\c1=c1))/\((true->bR (tl l))->(True/\bR (tl l))/\1=1/\1=1/\1=1/\0=0/\1=1/\1=1/\0=0/\(true->True/\(bR (tl (tl l))=false->nK l=false/\true/\c1=c1))/\((true->bR (tl (tl l)))->(True/\bR (tl (tl l)))/\1=1/\(true->True/\(c2=false->nK l=false/\true/\c1=c1))/\((true->c2)->(True/\c2)/\1=1/\(c3->c3->c3)/\(Dk true c3->c3)/\(true->True/\(c5=false->nK l=false/\true/\c1=c1))/\((true->c5)->(True/\c5)/\1=1/\1=1/\0=0/\1=1/\1=1/\0=0/\(aQ->1=1)/\(aQ->aQ->aQ)/\(aQ->1=1)/\(aQ->0=0)/\(aQ->1=1)/\(aQ->aQ->aQ)/\(aQ->1=1)/\(aQ->0=0)/\(aQ->aQ->aQ)/\(aQ->inR IntKind.i64 c7)/\(aQ->aQ->aQ)/\(aQ->aQ->aQ)/\(Dk true aQ->aQ)/\(c8->1=1)/\(c8->c8->c8)/\(c8->1=1)/\(c8->0=0)/\(c8->c8->c8)/\(Dk true c8->c8)/\(true->True/\(c9=false->nK l=false/\true/\c1=c1))/\((true->c9)->(True/\c9)/\(true->L0 (hd (tl (tl l))) c10/\(c11=false->nK l=false/\true/\c1=c1))/\((true->c11)->(L0 (hd (tl (tl l))) c10/\c11)/\1=1/\1=1/\1=1/\0=0/\0<=c4/\(Dx 24*c4)<=281474976710656/\c4<=9223372036854775807/\1=1/\1=1/\0=0/\Dj c12=c13/\1=1/\1=1/\0=0/\Dj c12=c13/\(∃x,aCV (at0 l 3) (at0 l 2) l x/\1=1/\0=0/\0=0/\1=1/\0=0/\0=0/\1=1/\0=0/\0=0/\hd (tl (tl l))=hd (tl (tl l))/\c4=c4/\1=1/\0=0/\0=0/\hd l=hd l/\1=1/\0=0/\0=0/\hd (tl l)=hd (tl l)/\1=1/\0=0/\0=0/\1=1/\0=0/\1=1/\1=1/\0=0/\0=0/\hd (tl (tl l))=hd (tl (tl l))/\1=1/\0=0/\0=0/\c4=c4/\hd (tl (tl l))=hd (tl (tl l))/\c3=c3/\c3=c3/\c5=c5/\1=1/\0=0/\0=0/\hd l=hd l/\1=1/\0=0/\1=1/\hd (tl l)=hd (tl l)/\aQ=aQ/\aQ=aQ/\c8=c8/\c8=c8/\c9=c9/\1=1/\0=0/\0=0/\hd (tl (tl l))=hd (tl (tl l))/\c14=c14/\1=1/\0=0/\2=2/\c4=c4/\c13=c13/\1=1/\0=0/\3=3/\1=1/\0=0/\3=3/\c13=c13/\c15=c15/\0=x/\
 bN c10 c16=Jg (at0 l 3) (at0 l 2) l x/\(0:Int)=(0:Int)/\(0:Int)=(0:Int)/\Value.slice none 0 0=Value.slice none 0 0/\Value.slice none 0 0=Value.slice none 0 0/\hd l=hd l/\hd (tl l)=hd (tl l)/\c14=c14/\c13=c13/\c12=nR (at0 l 3) (at0 l 2) c17 x/\1=1/\True)/\∀(x:Int),let c20:=Jg (at0 l 3) (at0 l 2) l x;let c21:=nS (hd (tl (tl l))) c20;let c22:=nR (at0 l 3) (at0 l 2) c17 x;let c23:=Dj c22;let c24:=x+1;
 aCV (at0 l 3) (at0 l 2) l x->(Dp x c15->1=1/\1=1/\0=0/\L0 (hd (tl (tl l))) c20/\(c21->1=1/\1=1/\0=0/\(L0 (hd (tl (tl l))) c20/\c21)/\1=1/\c23=c13/\0<=x/\x<Dx c23/\c23=c13/\inR .i64 c24/\∃y,aCV (at0 l 3) (at0 l 2) l y/\(1=1/\0=0/\0=0/\1=1/\0=0/\0=0/\1=1/\0=0/\0=0/\hd (tl (tl l))=hd (tl (tl l))/\c4=c4/\1=1/\0=0/\0=0/\hd l=hd l/\1=1/\0=0/\0=0/\hd (tl l)=hd (tl l)/\1=1/\0=0/\0=0/\1=1/\0=0/\1=1/\1=1/\0=0/\0=0/\hd (tl (tl l))=hd (tl (tl l))/\1=1/\0=0/\0=0/\c4=c4/\hd (tl (tl l))=hd (tl (tl l))/\c3=c3/\c3=c3/\c5=c5/\1=1/\0=0/\0=0/\hd l=hd l/\1=1/\0=0/\1=1/\hd (tl l)=hd (tl l)/\aQ=aQ/\aQ=aQ/\c8=c8/\c8=c8/\c9=c9/\1=1/\0=0/\0=0/\hd (tl (tl l))=hd (tl (tl l))/\c14=c14/\1=1/\0=0/\2=2/\c4=c4/\c13=c13/\1=1/\0=0/\3=3/\1=1/\0=0/\3=3/\c13=c13/\c15=c15/\c24=y/\bN c20 c16=Jg (at0 l 3) (at0 l 2) l y/\(0:Int)=(0:Int)/\(0:Int)=(0:Int)/\Value.slice none 0 0=Value.slice none 0 0/\Value.slice none 0 0=Value.slice none 0 0/\hd l=hd l/\hd (tl l)=hd (tl l)/\c14=c14/\c13=c13/\En c22 (Dc x) (lz (hd (tl (tl l))) c20)=nR (at0 l 3) (at0 l 2) c17 y/\1=1/\True)/\Dc (at0 l 3-y)<Dc (at0 l 3-x))/\(c21=false->nK l=false/\true/\c1=c1))/\(Dp x c15=false->1=1/\0=0/\1=1/\0=0/\c23=c13/\nK l/\1=1/\0=0/\hd l=(aw l).1/\hd (tl l)=c18.1/\c14=c19.1/\c23=c13/\c22=c19.2/\c20=bQ l/\1=1/\True)))))))))):
  evM c7 (aEv l) 142 [.ptr 1 1 0 0] [(1,.var [.dat R l])] (.agg [.dat I (aw l).1,.dat I (aw l).2.1,.dat M (aw l).2.2.1,.dat (.sl M) (aw l).2.2.2]) [(1,.var [.dat R (bQ l)])] ⟨dI l,nK l,dA 39 190⟩:=oE hvc
def aFW: Kt:=kOr 142 (VN 1 R [.mp 1] (λ_ xs=>dI xs/\nK xs=true) (λ_ xs=>.agg [.dat I (aw xs).1,.dat I (aw xs).2.1,.dat M (aw xs).2.2.1,.dat (.sl M) (aw xs).2.2.2]) λ_ xs=>bQ xs) aFj
def KP8: KPt:=pOr 142 (YL 1 R [.mp 1] λ_ xs=>⟨dI xs,nK xs,dA 39 190⟩) KP7
theorem M9(l:Li): sP l 0=1:=rfl
theorem M7(l:Li): sS l 0=0:=rfl
theorem Aq{l:Li}{x:Int}(h0:0<=x)(h1:x<l.length): l.take (x+1).toNat=l.take x.toNat++[l.getD x.toNat 0]:=by
 rw[show(x+1).toNat=x.toNat+1 by omega,wW,qA,qB (by omega:x.toNat<l.length)];rfl
theorem Hh{l:Li}{x:Int}(h0:0<=x)(h1:x<l.length): sP l (x+1)=sP l x*3%65521/\sS l (x+1)=(sS l x+l.getD x.toNat 0*(sP l x*3%65521))%65521:=by
 unfold sP sS;rw[Aq h0 h1,S8];exact⟨rfl,rfl⟩
theorem aCQ(l:Li)(x:Int): (0<=sP l x/\sP l x<65521)/\0<=sS l x/\sS l x<65521:=M8 (l.take x.toNat) (st:=(1,0)) ⟨⟨by decide,by decide⟩,⟨by decide,by decide⟩⟩
theorem aBr{l:Li}{x:Int}(h:(l.length:Int)<=x): sS l x=He l:=by
 unfold sS He;rw[qO (by omega)]
theorem VD(l:Li): (rl l).length=l.length:=by unfold rl;rw[vW]
theorem aEt{l:Li}{i:Nat}(h:i<l.length): (rl l).getD i 0=l.getD i 0%65521:=by
 unfold rl;rw[qA,qP,qA,qB h];rfl
theorem dU{l:Li}: oL l=true↔∀x∈l,0<=x/\x<=65519:=by
 unfold oL;rw[qM];exact⟨λh x hx=>nI.1 (h x hx),λh x hx=>nI.2 (h x hx)⟩
theorem Ou{l:Li}{x:Int}(h:YZ l x)(h1:x<l.length)(h2:btw (l.getD x.toNat 0) 0 65519=true): YZ l (x+1):=by
 obtain⟨a,b,c⟩:=h;refine⟨by omega,by omega,?_⟩;rw[Aq a h1];unfold oL at c ⊢;rw[kX,c];simpa using h2
theorem Ul{l:Li}{x:Int}(h:YZ l x)(h1:¬x<l.length): oL l=true:=by
 obtain⟨a,b,c⟩:=h
 rwa [qO (by omega)]at c
theorem Ov{l:Li}{x:Int}(h0:0<=x)(h1:x<l.length)(h2:btw (l.getD x.toNat 0) 0 65519=false): oL l=false:=by
 cases e:oL l with
 | false=>rfl
 | true=>
  have:=nI.2 (dU.1 e _ (aU (l:=l) (i:=x.toNat) (d:=0) (by omega)));rw[this]at h2;cases h2
theorem VM{a b:Int}(a0:0<=a)(a1:a<=65521)(b0:0<=b)(b1:b<=65521): 0<=a*b/\a*b<=65521*65521:=
 ⟨qAb a0 b0,xI a1 b1 b0 (by omega)⟩
theorem tme{a:Int}(h:0<=a): a.tmod 65521=a%65521:=qCs h
theorem I6(s:Int)(l:Li): af Tryz.prog dY 141 [.agg [.dat R l,.dat I s]] [] ⟨HJ l,.dat .bool (d5 l s),[]⟩:=by
 refine ae (c:=mkc Vg) P2 aJ hm (DN s l ⟨rfl,λhl=>?_⟩);have hl:l.length<=2000000000000000:=hl;refine⟨⟨0,⟨qL _,qZ _,rfl⟩,by simp[M9,M7]⟩,λx=>?_⟩;intro c2 c3 c4 c5 aQ c7 c8 c9 hx;refine⟨λh2=>?_,λh2=>?_⟩
 .have h2:x<(l.length:Int):=wF h2;have h0:=hx.1;obtain⟨⟨p0,p1⟩,s0,s1⟩:=aCQ l x;obtain⟨n1,n2⟩:=Hh h0 h2;refine⟨h0,h2,trivial,λh4=>⟨?_,trivial⟩,λh4=>?_⟩
  .have:btw (l.getD x.toNat 0) 0 65519=false:=by simpa[c4,c3,Di,Du,Dc]using h4
   unfold d5;rw[Ov h0 h2 this];rfl
  .have hb:btw (l.getD x.toNat 0) 0 65519=true:=by simpa[c4,c3,Di,Du,Dc]using h4
   obtain⟨b0,b1⟩:=nI.1 hb;have e6:aQ=sP l (x+1):=by rw[n1];exact tme (by show 0<=sP l x*3;omega)
   obtain⟨⟨q0,q1⟩,_,_⟩:=aCQ l (x+1);have e3:c3=l.getD x.toNat 0:=rfl;have e7:c7=c3*aQ:=rfl;have e8:c8=sS l x+c7:=rfl;have e5:c5=sP l x*3:=rfl;have e9:c9=x+1:=rfl;clear_value c3 c5 aQ c7 c8 c9;have hm:=VM (a:=c3) (b:=aQ) (by omega) (by omega) (by omega) (by omega)
   refine⟨aB (by omega),by decide,aB (by omega),aB (by omega),by decide,aB (by omega),x+1,Ou hx h2 hb,⟨rfl,rfl,rfl,e6,?_,rfl,rfl,rfl,e9,trivial⟩,?_⟩
   .rw[n2,<- n1];show c8.tmod 65521=_;rw[tme (by omega),e8,e7,e3,e6]
   .simp only[Dc,Df];omega
 .have h2:¬x<(l.length:Int):=qCq h2;refine⟨?_,trivial⟩;unfold d5;rw[Ul hx h2,aBr (by omega),zQ];show(s==_)=_;rw[qCh];simp
theorem DW(l:Li): af Tryz.prog dY 36 [.dat R l] [] ⟨Qb l,.dat I (nh l),[]⟩:=by
 refine ae (c:=mkc Vg) P2 aJ hm (Qu l ⟨rfl,λhl=>?_⟩);have hl:l.length<=9223372036854775807:=hl;refine⟨⟨0,⟨qL _,qZ _⟩,by simp[M9,M7]⟩,λx=>?_⟩;intro c1 c2 c3 c4 c5 aQ c7 hx;refine⟨λh2=>?_,λh2=>?_⟩
 .have h2:x<(l.length:Int):=wF h2;have h0:=hx.1;obtain⟨⟨p0,p1⟩,s0,s1⟩:=aCQ (rl l) x;obtain⟨n1,n2⟩:=Hh (l:=rl l) h0 (by rw[VD];exact h2);rw[aEt (by omega)]at n2;have e4:c4=sP (rl l) (x+1):=by rw[n1];exact tme (by show 0<=sP (rl l) x*3;omega)
  obtain⟨⟨q0,q1⟩,_,_⟩:=aCQ (rl l) (x+1);have em:Fp c3 65521=l.getD x.toNat 0%65521:=yj (by decide);have m0:=kY (l.getD x.toNat 0) (show(65521:Int)≠0 by decide);have m1:=kH (l.getD x.toNat 0) (show(0:Int)<65521 by decide);have e5:c5=Fp c3 65521*c4:=rfl;have e6:aQ=sS (rl l) x+c5:=rfl;have e2:c2=sP (rl l) x*3:=rfl;have e7:c7=x+1:=rfl;have e3:c3=(l.getD x.toNat 0).tmod 65521+65521:=rfl
  have tb:-65521<(l.getD x.toNat 0).tmod 65521/\(l.getD x.toNat 0).tmod 65521<65521:=by
   have:=qBd (a:=l.getD x.toNat 0) (b:=65521);split at this<;>omega
  rw[em]at e5;clear_value c2 c3 c4 c5 aQ c7;have hm:=VM (a:=l.getD x.toNat 0%65521) (b:=c4) (by omega) (by omega) (by omega) (by omega);refine⟨h0,h2,aB (by omega),by decide,by decide,aB (by omega),by decide,aB (by omega),aB (by omega),by decide,⟨show(-9223372036854775808:Int)<=_ by omega,show _<=(9223372036854775807:Int) by omega⟩,x+1,⟨by omega,by omega⟩,⟨rfl,rfl,e4,?_,rfl,rfl,e7,trivial⟩,?_⟩
  .rw[n2,<- n1];show aQ.tmod 65521=_;rw[tme (by omega),e6,e5,e4]
  .simp only[Dc,Df];omega
 .have h2:¬x<(l.length:Int):=qCq h2;exact⟨aBr (by rw[VD];omega),trivial⟩
theorem aE9: ak Tryz.prog dY aFX:=ai (ag λ((l,s),_)=>I6 s l)<|ai (ag λ(l,_)=>DW l) <|
 P2
theorem XQ: ∀x xs,af Tryz.prog dY 207 (avK [.mp 1] x) [(1,.var [.dat R xs])] ⟨True/\bR xs=true,.dat I (hd xs),[(1,.var [.dat R (tl xs)])]⟩:=λ_ xs=>(sc xs).1
theorem aCA: ak Tryz.prog dY aFk:=
 ai (pE XQ) aE9
theorem P5: bO Tryz.prog dY KP6:=iH (tu λ_ xs=>(sc xs).2) Iw
theorem pM{α:Type}(xs:List α)(d v:α)(k:Nat)(hk:xs[k]?=some v): (xs.take k++List.replicate (xs.length-k) d).set k v=xs.take (k+1)++List.replicate (xs.length-(k+1)) d:=by
 obtain⟨h,e⟩:=qF.1 hk;have e2:xs.length-k=(xs.length-(k+1))+1:=by omega
 rw[e2,qBh,List.set_append_right _ _ (by simp;omega)];simp[wW,hk,yY (Nat.le_of_lt h)]
theorem iP(g:Int->Int->Int)(n:Int): (dD g n).length=n.toNat:=by simp[dD]
theorem sD(g:Int->Int->Int)(n x:Int)(h:nN x n): (fG g n x).length=n.toNat:=by
 have:=h.1;have:=h.2;simp only[fG,qG,qI,wJ,iP];omega
theorem vu(g:Int->Int->Int)(n i x:Int)(h:nN x n): (iD g n i x).length=n.toNat:=by
 have:=h.1;have:=h.2;simp only[iD,qG,qI,wJ,vW,wC];omega
theorem A3(g:Int->Int->Int)(n:Int): fG g n 0=List.replicate n.toNat []:=by simp[fG]
theorem EA(g:Int->Int->Int)(n i:Int): iD g n i 0=List.replicate n.toNat 0:=by simp[iD]
theorem EB(g:Int->Int->Int)(n i j:Int)(h0:0<=j)(h1:j<n): (iD g n i j).set j.toNat (g i j)=iD g n i (j+1):=by
 have e:(j+1).toNat=j.toNat+1:=by omega
 have:=pM ((List.range n.toNat).map λj:Nat=>g i j) 0 (g i j) j.toNat (by
  rw[qP,vV (by omega)];simp[qU h0])
 simp only[vW,wC]at this;unfold iD;rw[e];exact this
theorem Jf(g:Int->Int->Int)(n i j:Int)(h:nN j n)(h1:¬j<n): iD g n i j=(List.range n.toNat).map λj:Nat=>g i j:=by
 have:=h.1;have:=h.2;have e:j.toNat=n.toNat:=by omega
 unfold iD;rw[e,qO (by simp)];simp
theorem A4(g:Int->Int->Int)(n i j:Int)(h0:0<=i)(h1:i<n)(h:nN j n)(h2:¬j<n): (fG g n i).set i.toNat (iD g n i j)=fG g n (i+1):=by
 have e:(i+1).toNat=i.toNat+1:=by omega
 rw[Jf g n i j h h2];have:=pM (dD g n) [] ((List.range n.toNat).map λj:Nat=>g i j) i.toNat (by
  unfold dD;rw[qP,vV (by omega)];simp[qU h0])
 rw[iP]at this;unfold fG;rw[e];exact this
theorem Ek(g:Int->Int->Int)(n i:Int)(h:nN i n)(h1:¬i<n): fG g n i=dD g n:=by
 have:=h.1;have:=h.2;have e:i.toNat=n.toNat:=by omega
 unfold fG;rw[e,qO (by rw[iP];exact qJ _)];simp
theorem xh{l:Li}{k:Int}(h:0<=k): tl (bN l k)=bN l (k+1):=by
 unfold tl bN;rw[yG];congr 1;omega
theorem tX(l:Li)(k:Int): hd (bN l k)=l.getD k.toNat 0:=by
 unfold hd bN;simp[]
theorem rI{l:Li}{k:Int}(h:0<=k): bR (bN l k)=decide (k<l.length):=by
 unfold bR bN;rw[vY,qAx];omega
theorem drop_drop{l:Li}{a b:Int}(ha:0<=a)(hb:0<=b): bN (bN l a) b=bN l (a+b):=by
 unfold bN;rw[yG];congr 1;omega
theorem Ia(l:Li)(k:Int): (bN l k).length=l.length-k.toNat:=by unfold bN;rw[vY]
theorem ib(i m:Int): (i+1)*m=i*m+m:=by rw[Int.add_mul,Int.one_mul]
theorem Ar(m:Int)(l:Li): af Tryz.prog dY 208 [.ptr 1 1 0 0,.dat I m] [(1,.var [.dat R l])] ⟨L0 m l/\nS m l=true,.dat M (lz m l),[(1,.var [.dat R (bN l (Ee m m))])]⟩/\
  da Tryz.prog dY 208 [.ptr 1 1 0 0,.dat I m] [(1,.var [.dat R l])] ⟨L0 m l,nS m l,dA 39 190⟩:=by
 refine cC (c:=aQ) aCA aJ hm P5 (IE m l ⟨rfl,λhp=>?_⟩);obtain⟨m0,m1,⟨hin,hl⟩⟩:=hp;have hl:l.length<=2000000000000000:=hl;have em:(Int.ofNat (Dc m))=m:=qU m0;have bd:∀{k:Int},0<=k->k<l.length->0<=l.getD k.toNat 0/\l.getD k.toNat 0<=65519:=λ{k} h0 h1=>dU.1 hin _ (aU (by omega))
 simp only[em];simp only[qc,qd,Dt,Dp,Dc,Dx,Dj,En,Ep];refine⟨m0,by omega,by omega,by simp,⟨0,⟨⟨qL _,.inr rfl⟩,by rw[Int.zero_mul];exact qZ _⟩,rfl,by rw[Int.zero_mul];rfl,(A3 _ _).symm⟩,λx hx=>⟨λhlt=>?_,λhge=>?_⟩⟩
 .have h0:=hx.1.1;have hln:=sD (tg l m) m x hx.1;have xm0:0<=x*m:=qAb h0 m0;have top:(x+1)*m<=m*m:=kN (by omega) m0;rw[ib]at top;have em2:(m.toNat:Int)=m:=qU m0;have hlx:x<((fG (tg l m) m x).length:Int):=by rw[hln];omega
  refine⟨m0,by omega,by omega,hln,h0,hlx,hln,by simp,hln,h0,hlx,hln,by simp,⟨0,⟨⟨qL _,.inr rfl⟩,by have:=hx.2;omega⟩,rfl,by rw[Int.add_zero],(EA _ _ _).symm⟩,λy hy=>⟨λhy1=>?_,λhy1=>?_⟩⟩
  .have y0:=hy.1.1;have hrl:=vu (tg l m) m x y hy.1;have hly:y<((iD (tg l m) m x y).length:Int):=by rw[hrl];omega
   have eo:=rI (l:=l) (k:=x*m+y) (by omega);refine⟨hln,h0,hlx,hln,λho=>?_,λho=>?_⟩
   .have hlt2:x*m+y<l.length:=by rw[eo]at ho;exact wF ho
    obtain⟨b0,b1⟩:=bd (k:=x*m+y) (by omega) hlt2;have eh:hd (bN l (x*m+y))-1=tg l m x y:=by rw[tX];rfl
    refine⟨hln,h0,hlx,hln,ho,aB (by rw[tX];omega),hrl,y0,hly,hrl,aB (by omega),y+1,⟨⟨by omega,.inl (by omega)⟩,by omega⟩,⟨rfl,?_,?_⟩,by omega⟩
    .rw[xh (by omega),Int.add_assoc]
    .rw[eh];exact EB (tg l m) m x y y0 hy1
   .rw[eo,vN]at ho;unfold nS;rw[vN];omega
  .have hy2:y=m:=by rcases hy.1 with⟨y0,y1⟩;omega
   refine⟨aB (by omega),x+1,⟨⟨by omega,.inl (by omega)⟩,by rw[ib];have:=hy.2;omega⟩,⟨rfl,by rw[ib,hy2],vu _ _ _ _ hy.1,A4 (tg l m) m x y h0 hlt hy.1 hy1⟩,by omega⟩
 .have hx2:x=m:=by rcases hx.1 with⟨x0,x1⟩;omega
  have htab:nS m l=true:=by
   unfold nS;rw[qE];have:=hx.2;rw[hx2]at this;exact this
  refine⟨htab,sD _ _ _ hx.1,Ek _ _ _ hx.1 hge,?_⟩;rw[hx2]
theorem aCz: ak Tryz.prog dY aFj:=ai (pE λ(_,m,_) xs=>(Ar m xs).1) aCA
theorem Wn: bO Tryz.prog dY KP7:=iH (tu λ(_,m,_) xs=>(Ar m xs).2) P5
theorem fj{l:Li}(h:dI l)(k:Int): dI (bN l k):=
 ⟨dU.2 λx hx=>dU.1 h.1 x (List.mem_of_mem_drop hx),by show(bN l k).length<=_;rw[Ia];have:l.length<=2000000000000000:=h.2;omega⟩
theorem Vs(l:Li): af Tryz.prog dY 142 [.ptr 1 1 0 0] [(1,.var [.dat R l])] ⟨dI l/\nK l=true,.agg [.dat I (aw l).1,.dat I (aw l).2.1,.dat M (aw l).2.2.1,.dat (.sl M) (aw l).2.2.2],[(1,.var [.dat R (bQ l)])]⟩/\
  da Tryz.prog dY 142 [.ptr 1 1 0 0] [(1,.var [.dat R l])] ⟨dI l,nK l,dA 39 190⟩:=by
 refine cC (c:=c7) aCz aJ hm Wn (WU l ⟨rfl,λhp=>?_⟩);have hl:l.length<=2000000000000000:=hp.2;have t1:tl l=bN l 1:=rfl;have t2:tl (tl l)=bN l 2:=by rw[t1,xh (by decide)];rfl
 have t3:tl (tl (tl l))=bN l 3:=by rw[t2,xh (by decide)];rfl
 have t4:tl (tl (tl (tl l)))=bN l 4:=by rw[t3,xh (by decide)];rfl
 have h0:hd l=at0 l 0:=rfl;have h1:hd (tl l)=at0 l 1:=by rw[t1,tX];rfl
 have h2:hd (tl (tl l))=at0 l 2:=by rw[t2,tX];rfl
 have h3:hd (tl (tl (tl l)))=at0 l 3:=by rw[t3,tX];rfl
 have o0:bR l=decide (0<l.length):=rfl;have o1:bR (tl l)=decide (1<l.length):=by rw[t1,rI (by decide),qAx];omega
 have o2:bR (tl (tl l))=decide (2<l.length):=by rw[t2,rI (by decide),qAx];omega
 have o3:bR (tl (tl (tl l)))=decide (3<l.length):=by rw[t3,rI (by decide),qAx];omega
 have bd:∀k:Nat,0<=at0 l k/\at0 l k<=65519:=λk=>by
  unfold at0;by_cases hk:k<l.length
  .exact dU.1 hp.1 _ (aU hk)
  .rw[qA,zF (by omega)];exact⟨by decide,by decide⟩
 obtain⟨a0,a1⟩:=bd 0;obtain⟨b0,b1⟩:=bd 1;obtain⟨m0,m1⟩:=bd 2;obtain⟨q0,q1⟩:=bd 3;have epl:nK l=(decide (4<=l.length)&&sZ l&&decide (4+at0 l 2*at0 l 2+at0 l 3*(at0 l 2*at0 l 2)<=l.length)):=rfl;have ehd:sZ l=decide (at0 l 2<=12/\at0 l 3<=4/\at0 l 0<at0 l 1/\at0 l 1<=at0 l 0+60/\at0 l 1<=600):=rfl;have shrt:l.length<4->nK l=false:=λh=>by rw[epl,vH (by omega)];rfl
 have noHd:sZ l=false->nK l=false:=λh=>by rw[epl,h];simp
 have noLen:¬4+at0 l 2*at0 l 2+at0 l 3*(at0 l 2*at0 l 2)<=l.length->nK l=false:=λh=>by rw[epl,vH h];simp
 simp only[h0,h1,h2,h3,o0,o1,o2,o3,t4];have eq3:Int.ofNat (Dc (at0 l 3))=at0 l 3:=qU q0;simp only[eq3];simp only[qc,Dk,qd,Dt,Dp,Eh,Dc,Dx,Dj,En,Ep];obtain⟨mm,hmm⟩:∃mm,mm=at0 l 2*at0 l 2:=⟨_,rfl⟩;have mm0:0<=mm:=by rw[hmm];exact qAb m0 m0
 have eK:∀k,Jg (at0 l 3) (at0 l 2) l k=bN l (4+mm+k*mm):=λk=>by unfold Jg;rw[hmm]
 have tabA:∀k:Int,0<=k->(nS (at0 l 2) (bN l k)=true↔mm<=((l.length-k.toNat:Nat):Int)):=λk hk=>by
  unfold nS;rw[qE,Ia,hmm]
 have ePL:nK l=true↔4<=l.length/\sZ l=true/\4+mm+at0 l 3*mm<=l.length:=by
  rw[epl,qC,qC,qE,qE,hmm,qDi]
 have tl_len:(uJ (at0 l 3) (at0 l 2) (bN l (4+mm))).length=(at0 l 3).toNat:=by unfold uJ;simp
 have tT_len:∀{x:Int},nN x (at0 l 3)->(nR (at0 l 3) (at0 l 2) (bN l (4+mm)) x).length=(at0 l 3).toNat:=λ{x} ⟨h1,h2⟩=>by
  unfold nR;rw[qG,qI,wJ,tl_len];omega
 simp only[eK,<- hmm];refine⟨λh=>shrt (by omega),λl0=>⟨l0,λh=>shrt (by omega),λl1=>⟨l1,λh=>shrt (by omega),λl2=>⟨l2,λh=>shrt (by omega),λl3=>⟨l3,λh=>noHd ?_,λhA=>⟨hA,λh=>aB (by omega),λh=>noHd ?_,λhB=>⟨hB,?_⟩⟩⟩⟩⟩⟩⟩
 .rw[ehd,vN];intro g;exact h g.1 g.2.1
 .rw[ehd,vN];intro g;exact h ⟨g.2.2.1,g.2.2.2.1⟩ g.2.2.2.2
 have hH:sZ l=true:=by rw[ehd,qE];exact⟨hA.1,hA.2,hB.1.1,hB.1.2,hB.2⟩
 have tP:∀k,L0 (at0 l 2) (bN l k):=λk=>⟨m0,hA.1,fj hp k⟩
 have mono:∀{k:Int},0<=k->k<=at0 l 3->k*mm<=at0 l 3*mm:=λh1 h2=>kN h2 mm0
 have kmm:∀{k:Int},0<=k->0<=k*mm:=λh=>qAb h mm0
 have bad:¬(4+mm+at0 l 3*mm<=l.length)->nK l=false:=λh=>by
  cases e:nK l with
  | false=>rfl
  | true=>exact absurd (ePL.1 e).2.2 h
 refine⟨⟨tP 4,λh=>bad ?_⟩,λhT=>⟨⟨tP 4,hT⟩,q0,by omega,by omega,by simp,by simp,⟨0,⟨⟨qL _,.inr rfl⟩,?_⟩,rfl,?_,?_⟩,λx hx=>⟨λhlt=>⟨tP _,λhT2=>?_,λhT2=>bad ?_⟩,λhge=>?_⟩⟩⟩
 .have:¬mm<=((l.length-(4:Int).toNat:Nat):Int):=λg=>by rw[(tabA 4 (by decide)).2 g]at h;cases h
  have:=kmm q0;have e4:(4:Int).toNat=4:=rfl;omega
 .have:=(tabA 4 (by decide)).1 hT;have e4:(4:Int).toNat=4:=rfl;show(0+1)*(at0 l 2*at0 l 2)<=(l.length:Int)-4;rw[<- hmm];omega
 .rw[drop_drop (by decide) mm0,Int.zero_mul,Int.add_zero]
 .unfold nR;simp
 .have h0:=hx.1.1;have hl2:=tT_len hx.1;have h2':=hx.2;rw[<- hmm,ib]at h2';have hT3:=(tabA _ (by have:=kmm h0;omega)).1 hT2;have:=kmm h0;refine⟨⟨tP _,hT2⟩,hl2,h0,by rw[hl2];omega,hl2,aB (by omega),x+1,⟨⟨by omega,.inl (by omega)⟩,?_⟩,⟨rfl,?_,?_⟩,by omega⟩
  .rw[<- hmm,ib,ib];omega
  .rw[drop_drop (by omega) mm0];congr 1;rw[ib];omega
  .have e:(x+1).toNat=x.toNat+1:=by omega
   have:=pM (uJ (at0 l 3) (at0 l 2) (bN l (4+mm))) [] (lz (at0 l 2) (bN l (4+mm+x*mm))) x.toNat (by
    unfold uJ;rw[qP,vV (by omega),zL,qU h0,drop_drop (by omega) (by rw[<- hmm];exact kmm h0),<- hmm])
   rw[tl_len]at this;unfold nR;rw[e];exact this
 .have h0:=hx.1.1;have hx0:=kmm h0;have hn:¬mm<=((l.length-(4+mm+x*mm).toNat:Nat):Int):=λg=>by rw[(tabA _ (by omega)).2 g]at hT2;cases hT2
  have:=mono (k:=x+1) (by omega) (by omega);rw[ib]at this;omega
 .have hxe:x=at0 l 3:=by rcases hx.1 with⟨h1,h2⟩;omega
  subst hxe;have h2':=hx.2;rw[<- hmm,ib]at h2';refine⟨tT_len hx.1,ePL.2 ⟨by omega,hH,by omega⟩,rfl,rfl,rfl,tT_len hx.1,?_,?_⟩
  .unfold nR;rw[qO (by rw[tl_len];exact qJ _),qCe];show _++[]=_;rw[wH,hmm];rfl
  .rw[hmm];rfl
theorem aE8: ak Tryz.prog dY aFW:=ai (pE λ_ xs=>(Vs xs).1) aCz
theorem aCE: bO Tryz.prog dY KP8:=iH (tu λ_ xs=>(Vs xs).2) Wn
end Go.Eng.In
set_option maxRecDepth 100000
noncomputable section
namespace Go.Eng.Sv
open Go.Proofs
def ZO(xs:Li)(k:Nat): Prop:=xs.length=k
def IB(xs ys:Li): Prop:=xs.length+ys.length<=1000000000000
def upR(l:Li)(b k:Int): Li:=(l.take k.toNat).map λx=>x+b
def upTo(l:Li)(k:Int): Prop:=0<=k/\k<=l.length
def rsP(b:Int)(l xs:Li)(k:Nat): Prop:=(xs.length=k/\xs.length+l.length<=1000000000000)/\-1000000<=b/\b<=1000000/\∀x∈l,-1000000000<=x/\x<=1000000000
def wHd(n:Net)(p:Plan)(a:AV): List AV:=[.dat (.sl C) n.1,.dat (.sl S) n.2.1,.dat (.sl S) n.2.2.1,.dat (.sl (.pair S (.pair I (.pair I (.pair I (.pair I (.pair I (.sl S)))))))) n.2.2.2.1,.dat (.sl (.pair S (.pair I (.pair I (.pair I (.pair I I)))))) n.2.2.2.2.1,.dat (.sl (.pair S (.pair I I))) n.2.2.2.2.2,.dat I p.1,.dat I p.2.1,.dat M p.2.2.1,.dat (.sl M) p.2.2.2,a]
def mN(n:Net)(p:Plan)(k:Nat)(xs:Li): Mem:=[(2,.var (wHd n p (.buf 3 k))),(3,.buf 3 I xs [])]
def gQ(t:Ty): AV->Option t.den
 | .dat t' x=>if h:t'=t then some (h▸x)else none
 | _=>none
def aC5: List AV->Option (Net×Plan×AV)
 | [a1,a2,a3,a4,a5,a6,a7,a8,a9,a10,a]=>match gQ (.sl C) a1,gQ (.sl S) a2,gQ (.sl S) a3,gQ (.sl Of) a4,gQ (.sl Ln) a5,gQ (.sl Kl) a6,gQ I a7,gQ I a8,gQ M a9,gQ (.sl M) a10 with
  | some cs,some ns,some os,some fs,some ls,some ks,some p1,some p2,some p3,some p4=>some ((cs,ns,os,fs,ls,ks),(p1,p2,p3,p4),a)
  | _,_,_,_,_,_,_,_,_,_=>none
 | _=>none
def asW(m:Mem): Option (Net×Plan×Nat×Li):=match m with
 | [(2,.var cells),(3,.buf el tx xs [])]=>match aC5 cells,gQ R (.dat (.sl tx) xs)with
  | some (n,p,.buf 3 k),some ys=>if el=3 then some (n,p,k,ys)else none
  | _,_=>none
 | _=>none
def aCX(a b:List AV->Mem->Option jP): List AV->Mem->Option jP:=λargs m=>match a args m with
 | some c=>some c
 | none=>b args m
def wK(l:List AK)(pre:AKs l->Net->Plan->Nat->Li->Prop)(ret:AKs l->Net->Plan->AV)(add:AKs l->Net->Plan->Li)(args:List AV)(m:Mem): Option jP:=match asW m,ofK l args with
 | some (n,p,k,xs),some x=>some ⟨pre x n p k xs,ret x n p,mN n p (Eb k (Dj (add x n p))) (Ef xs (add x n p))⟩
 | _,_=>none
def wR(l:List AK)(pre:AKs l->Net->Plan->Nat->Li->Prop)(ret:AKs l->Net->Plan->AV)(args:List AV)(m:Mem): Option jP:=match asW m,ofK l args with
 | some (n,p,k,xs),some x=>some ⟨pre x n p k xs,ret x n p,[]⟩
 | _,_=>none
def wP(l:List AK)(q:AKs l->Net->Plan->Nat->Li->w8)(args:List AV)(m:Mem): Option w8:=match asW m,ofK l args with
 | some (n,p,k,xs),some x=>some (q x n p k xs)
 | _,_=>none
def asI: AV->Option (Net×Plan)
 | .ips cells=>match aC5 cells with
  | some (n,p,.top)=>some (n,p)
  | _=>none
 | _=>none
def wI(l:List AK)(pre:AKs l->Net->Plan->Prop)(ret:AKs l->Net->Plan->AV)(args:List AV)(m:Mem): Option jP:=match m,args with
 | [],a::ar=>match asI a,ofK l ar with
  | some (n,p),some x=>some ⟨pre x n p,ret x n p,[]⟩
  | _,_=>none
 | _,_=>none
theorem xV(k:Nat)(xs ys:Li)(n:Net)(p:Plan)(hvc:
 let c3:=n.2.2.2;let c1:=Dj (Ef xs ys);let c2:=k+Dj ys;true/\(ZO xs k/\IB xs ys->1=1/\Dj xs<=c1/\1=1/\1=1/\1=1/\0=0/\Dj xs=k/\(c2*8)<=140737488355328/\c2<=9223372036854775807/\1=1/\1=1/\1=1/\0=0/\c1=c2/\n.1=n.1/\n.2.1=n.2.1/\n.2.2.1=n.2.2.1/\c3.1=c3.1/\c3.2.1=c3.2.1/\c3.2.2=c3.2.2/\p.1=p.1/\p.2.1=p.2.1/\p.2.2.1=p.2.2.1/\p.2.2.2=p.2.2.2/\c2=c2/\Ef xs ys=Ef xs ys/\1=1/\Dj xs=Dj xs/\True)):
  evF (mkc KR2) aA 66 [.ptr 2 1 0 0,.dat R ys] (mN n p k xs) ⟨ZO xs k/\IB xs ys,.tup [],mN n p (Eb k (Dj ys)) (Ef xs ys)⟩:=oE hvc
def KW1: Kt:=kOr 66 (wK [.mp 2,.val R] (λ(_,ys,_) _ _ k xs=>ZO xs k/\IB xs ys) (λ_ _ _=>.tup []) λ(_,ys,_) _ _=>ys) KR2
def rsA(b:Int)(l xs:Li)(n:Net)(p:Plan): Ann:=⟨λid s=>match id with
 | 1=>some {α:=Int,inv:=λj=>upTo l j,st:=λj=>{put (flat s) [(10,.dat I j)]with mem:=mN n p (Eb (Dj xs) (Dj (upR l b j))) (Ef xs (upR l b j))},μ:=λj=>Dc (Dh (Df l) j)}
 | _=>none,λ_ _=>none,λ_ _=>none⟩
theorem Le(b:Int)(k:Nat)(l xs:Li)(n:Net)(p:Plan)(hvc:
 let c7:=n.2.1;let c6:=p.2.1;let c5:=n.2.2.1;let c4:=p.2.2;let c3:=n.2.2.2;let c1:=upR l b (Df l);let c2:=Ef xs c1;true/\(rsP b l xs k->1=1/\Dj xs<=Dj c2/\(∃x,upTo l x/\1=1/\0=0/\0=0/\b=b/\l=l/\Df l=Df l/\0=x/\n.1=n.1/\c7=c7/\c5=c5/\c3.1=c3.1/\c3.2.1=c3.2.1/\c3.2.2=c3.2.2/\p.1=p.1/\c6=c6/\c4.1=c4.1/\c4.2=c4.2/\k=Dj xs+Dj (upR l b x)/\xs=Ef xs (upR l b x)/\1=1/\Dj xs=Dj xs/\True)/\∀(x:Int),let c19:=Dp x (Df l);let c20:=Du l (Dc x) 0+b;let c21:=Ef xs (upR l b x);let c22:=Dj xs+Dj (upR l b x);let c23:=[c20];let c24:=Ef c21 c23;let c25:=x+1;upTo l x->(c19->0<=x/\x<Df l/\inR .i64 c20/\(ZO c21 c22/\IB c21 c23)/\1=1/\Dj c21<=Dj c24/\inR .i64 c25/\∃y,upTo l y/\(1=1/\0=0/\0=0/\b=b/\l=l/\Df l=Df l/\c25=y/\n.1=n.1/\c7=c7/\c5=c5/\c3.1=c3.1/\c3.2.1=c3.2.1/\c3.2.2=c3.2.2/\p.1=p.1/\c6=c6/\c4.1=c4.1/\c4.2=c4.2/\c22+Dj c23=Dj xs+Dj (upR l b y)/\c24=Ef xs (upR l b y)/\1=1/\Dj xs=Dj xs/\True)/\Dc (Df l-y)<Dc (Df l-x))/\(c19=false->n.1=n.1/\c7=c7/\c5=c5/\c3.1=c3.1/\c3.2.1=c3.2.1/\c3.2.2=c3.2.2/\p.1=p.1/\c6=c6/\c4.1=c4.1/\c4.2=c4.2/\c22=k+Dj c1/\c21=c2/\1=1/\Dj xs=Dj xs/\True))):
  evF (mkc KW1) (lvA [(1,[0,1,7,8,9,10])] (rsA b l xs n p)) 67 [.ptr 2 1 0 0,.dat I b,.dat R l] (mN n p k xs) ⟨rsP b l xs k,.tup [],mN n p (Eb k (Dj (upR l b (Df l)))) (Ef xs (upR l b (Df l)))⟩:=oE hvc
def KW2: Kt:=kOr 67 (wK [.mp 2,.val I,.val R] (λ(_,b,l,_) _ _ k xs=>rsP b l xs k) (λ_ _ _=>.tup []) λ(_,b,l,_) _ _=>upR l b (Df l)) KW1
theorem WI(o:Int)(k:Nat)(xs:Li)(n:Net)(p:Plan)(hvc:
 let c1:=n.2.2.2;let c5:=(Du c1.1 (Dc o) (ByteArray.mk #[],(0:Int),(0:Int),(0:Int),(0:Int),(0:Int),Dt ByteArray)).2.2.1;let c7:=Du n.1 (Dc c5) ((0:Int),Dt Bool,Dt Int);let c9:=(aj n o).2;true/\(iT n o->1=1/\1=1/\1=1/\1=1/\0=0/\1=1/\1=1/\1=1/\1=1/\0=0/\0<=o/\o<Df c1.1/\0<=c5/\c5<Df n.1/\1=1/\0=0/\1=1/\0=0/\c7.1=(aj n o).1/\c7.2.1=c9.1/\c7.2.2=c9.2/\n.1=n.1/\n.2.1=n.2.1/\n.2.2.1=n.2.2.1/\c1.1=c1.1/\c1.2.1=c1.2.1/\c1.2.2=c1.2.2/\p.1=p.1/\p.2.1=p.2.1/\p.2.2.1=p.2.2.1/\p.2.2.2=p.2.2.2/\k=k/\xs=xs/\1=1/\Dj xs=Dj xs/\True)):
  evF (mkc KR2) aA 136 [.ptr 2 1 0 0,.dat I o] (mN n p k xs) ⟨iT n o,cal (aj n o).1 (aj n o).2.1 (aj n o).2.2,[]⟩:=oE hvc
theorem QF(o:Int)(n:Net)(p:Plan)(hvc:
 let c2:=(Du n.2.2.2.1 (Dc o) (ByteArray.mk #[],(0:Int),(0:Int),(0:Int),(0:Int),(0:Int),Dt ByteArray)).2.2.1;let c4:=Du n.1 (Dc c2) ((0:Int),Dt Bool,Dt Int);let c6:=(aj n o).2;true/\(iT n o->0<=o/\o<Df n.2.2.2.1/\0<=c2/\c2<Df n.1/\1=1/\0=0/\1=1/\0=0/\c4.1=(aj n o).1/\c4.2.1=c6.1/\c4.2.2=c6.2/\True)):
  evF (mkc KR2) aA 136 [.ips (wHd n p .top),.dat I o] [] ⟨iT n o,cal (aj n o).1 (aj n o).2.1 (aj n o).2.2,[]⟩:=oE hvc
theorem WG(o t:Int)(k:Nat)(xs:Li)(n:Net)(p:Plan)(hvc:
 let c1:=n.2.2.2;let c5:=(Du c1.1 (Dc o) (ByteArray.mk #[],(0:Int),(0:Int),(0:Int),(0:Int),(0:Int),Dt ByteArray)).2.2.2.2;let c6:=c5.1*c5.2.1;let c7:=t+c6;true/\(fx n o t->1=1/\1=1/\1=1/\1=1/\0=0/\0<=o/\o<Df c1.1/\1=1/\1=1/\1=1/\1=1/\0=0/\0<=o/\o<Df c1.1/\inR .i64 c6/\inR .i64 c7/\c7=ay n o t/\n.1=n.1/\n.2.1=n.2.1/\n.2.2.1=n.2.2.1/\c1.1=c1.1/\c1.2.1=c1.2.1/\c1.2.2=c1.2.2/\p.1=p.1/\p.2.1=p.2.1/\p.2.2.1=p.2.2.1/\p.2.2.2=p.2.2.2/\k=k/\xs=xs/\1=1/\Dj xs=Dj xs/\True)):
  evF (mkc KR2) aA 139 [.ptr 2 1 0 0,.dat I o,.dat I t] (mN n p k xs) ⟨fx n o t,.dat I (ay n o t),[]⟩:=oE hvc
theorem KZ(z m t:Int)(w:List Bool)(h:Li)(hvc:
 let c1:=(z,w,h);let c2:=Dp m (KC z t);let c3:=fC z t+1;let c4:=fL w h c3;let c5:=Ec c4 0;let c6:=dV c1 m t;let c7:=ic c1 m t;let c8:=eW w h c3;let c9:=fL w h (fC z t);let c10:=Ec c9 0;let c11:=eW w h (fC z t);true/\(tZ c1 m t->ga z w h t/\(c2->inR .i64 c3/\Qj z w h c3/\(c5->0=c6/\c4=c7/\True)/\(c5=false->k7 z w h c8 m/\cL z c8 m=c6/\0=c7/\True))/\(c2=false->Qj z w h (fC z t)/\(c10->0=c6/\c9=c7/\True)/\(c10=false->k7 z w h c11 m/\cL z c11 m=c6/\0=c7/\True)))):
  evF (mkc KR2) aA 138 [cal z w h,.dat I m,.dat I t] [] ⟨tZ (z,w,h) m t,.tup [.dat I (dV (z,w,h) m t),.dat I (ic (z,w,h) m t)],[]⟩:=oE hvc
theorem Qz(v e:Int)(hvc:
 let c1:=Ec e 0;let c2:=chainOf (Value.iface 39 (Value.int .i64 e));true/\(True->(c1->(true->True/\(false=false->isZero e=false/\true/\c2=c2))/\True)/\(c1=false->isZero e/\v=v/\True))):
  evC (mkc KR2) aA 137 [.dat I v,.dat I e] (.dat I v) ⟨True,isZero e,uH 39 e⟩:=oE hvc
theorem QE(e:Int)(hvc:
 true/\(True->(true->e=e/\True)/\(true=false->1=e/\True))):
  evF (mkc KR2) aA 63 [.ifc 39 (.dat I e)] [] ⟨True,.dat I e,[]⟩:=oE hvc
theorem IC(i l:Int)(hvc:
 let c1:=Ed i 0;true/\(True->(c1->c1->c1)/\(c1->c1->c1)/\(Dk true c1->c1)/\Dz c1 (Dp i l) false=bP i l/\True)):
  evF (mkc KR2) aA 205 [.dat I i,.dat I l] [] ⟨True,.dat .bool (bP i l),[]⟩:=oE hvc
theorem WH(c o:Int)(k:Nat)(xs:Li)(n:Net)(p:Plan)(hvc:
 let c1:=n.2.2.2;true/\(True->1=1/\0=0/\0=0/\o=o/\c=c/\n.1=n.1/\n.2.1=n.2.1/\n.2.2.1=n.2.2.1/\c1.1=c1.1/\c1.2.1=c1.2.1/\c1.2.2=c1.2.2/\p.1=p.1/\p.2.1=p.2.1/\p.2.2.1=p.2.2.1/\p.2.2.2=p.2.2.2/\k=k/\xs=xs/\1=1/\Dj xs=Dj xs/\True)):
  evF (mkc KR2) aA 134 [.ptr 2 1 0 0,.dat I c,.dat I o] (mN n p k xs) ⟨True,.fn 206 [.ipv (.ptr 2 1 0 0),.ip I o,.ip I c],[]⟩:=oE hvc
def KW3: Kt:=kOr 136 (aCX (wR [.mp 2,.val I] (λ(_,o,_) n _ _ _=>iT n o) λ(_,o,_) n _=>cal (aj n o).1 (aj n o).2.1 (aj n o).2.2) (wI [.val I] (λ(o,_) n _=>iT n o) λ(o,_) n _=>cal (aj n o).1 (aj n o).2.1 (aj n o).2.2)) <|
 kOr 139 (wR [.mp 2,.val I,.val I] (λ(_,o,t,_) n _ _ _=>fx n o t) λ(_,o,t,_) n _=>.dat I (ay n o t)) <|
 kOr 138 (az [.row C,.val I,.val I] (λ(c,m,t,_)=>tZ c m t) λ(c,m,t,_)=>.tup [.dat I (dV c m t),.dat I (ic c m t)]) <|
 kOr 137 (az [.val I,.val I] (λ(_,e,_)=>True/\isZero e=true) λ(v,_,_)=>.dat I v) <|
 kOr 205 (az [.val I,.val I] (λ_=>True) λ(i,l,_)=>.dat .bool (bP i l)) <|
 kOr 134 (wR [.mp 2,.val I,.val I] (λ_ _ _ _ _=>True) λ(_,c,o,_) _ _=>.fn 206 [.ipv (.ptr 2 1 0 0),.ip I o,.ip I c]) KW2
def aFd: KPt:=pOr 137 (uR [.val I,.val I] λ(_,e,_)=>⟨True,isZero e,uH 39 e⟩) Go.Eng.noP
theorem Oh{P:Program}{G:List (Nat×AV)}{f:FuncId}{a b:List AV->Mem->Option jP}(ha:∀args m c,a args m=some c->af P G f args m c)(hb:∀args m c,b args m=some c->af P G f args m c): ∀args m c,aCX a b args m=some c->af P G f args m c:=by
 intro args m c h;unfold aCX at h;split at h
 .rename_i h1;cases h;exact ha _ _ _ h1
 .exact hb _ _ _ h
theorem bE{t:Ty}{a:AV}{x:t.den}(h:gQ t a=some x): a=.dat t x:=by
 unfold gQ at h;split at h
 .split at h
  .rename_i e;subst e;cases h;rfl
  .cases h
 .cases h
theorem PS{l:List AV}{n:Net}{p:Plan}{a:AV}(h:aC5 l=some (n,p,a)): l=wHd n p a:=by
 unfold aC5 at h;split at h
 .split at h
  .rename_i h1 h2 h3 h4 h5 h6 h7 h8 h9 h10;cases h;rw[bE h1,bE h2,bE h3,bE h4,bE h5,bE h6,bE h7,bE h8,bE h9,bE h10];rfl
  .cases h
 .cases h
theorem PO{m:Mem}{n:Net}{p:Plan}{k:Nat}{xs:Li}(h:asW m=some (n,p,k,xs)): m=mN n p k xs:=by
 unfold asW at h;split at h
 .split at h
  .rename_i h1 h2;split at h
   .rename_i e;cases h;rw[PS h1,e];have:=bE h2;cases this;rfl
   .cases h
  .cases h
 .cases h
theorem Wc{a:AV}{n:Net}{p:Plan}(h:asI a=some (n,p)): a=.ips (wHd n p .top):=by
 unfold asI at h;split at h
 .split at h
  .rename_i h1;cases h;rw[PS h1]
  .cases h
 .cases h
theorem Qs{P:Program}{G:List (Nat×AV)}{f:FuncId}{l:List AK}{pre:AKs l->Net->Plan->Nat->Li->Prop}{ret:AKs l->Net->Plan->AV}{add:AKs l->Net->Plan->Li}
  (h:∀x n p k xs,af P G f (avK l x) (mN n p k xs) ⟨pre x n p k xs,ret x n p,mN n p (Eb k (Dj (add x n p))) (Ef xs (add x n p))⟩):∀args m c,wK l pre ret add args m=some c->af P G f args m c:=by
 intro args m c hc;unfold wK at hc;split at hc
 .rename_i n p k xs x h1 h2;cases hc;rw[PO h1];exact(h x n p k xs).args λC us _ hu=>fi h2 hu
 .cases hc
theorem WC{P:Program}{G:List (Nat×AV)}{f:FuncId}{l:List AK}{pre:AKs l->Net->Plan->Nat->Li->Prop}{ret:AKs l->Net->Plan->AV}
  (h:∀x n p k xs,af P G f (avK l x) (mN n p k xs) ⟨pre x n p k xs,ret x n p,[]⟩):∀args m c,wR l pre ret args m=some c->af P G f args m c:=by
 intro args m c hc;unfold wR at hc;split at hc
 .rename_i n p k xs x h1 h2;cases hc;rw[PO h1];exact(h x n p k xs).args λC us _ hu=>fi h2 hu
 .cases hc
theorem gE{P:Program}{G:List (Nat×AV)}{f:FuncId}{l:List AK}{q:AKs l->Net->Plan->Nat->Li->w8}(h:∀x n p k xs,da P G f (avK l x) (mN n p k xs) (q x n p k xs)): ∀args m r,wP l q args m=some r->da P G f args m r:=by
 intro args m r hc;unfold wP at hc;split at hc
 .rename_i n p k xs x h1 h2;cases hc;rw[PO h1];exact λhp hk w D E us hD hG hu hH=>h x n p k xs hp hk w D E us hD hG (fi h2 hu) hH
 .cases hc
theorem aDq{P:Program}{G:List (Nat×AV)}{f:FuncId}{l:List AK}{pre:AKs l->Net->Plan->Prop}{ret:AKs l->Net->Plan->AV}
  (h:∀x n p,af P G f (.ips (wHd n p .top)::avK l x) [] ⟨pre x n p,ret x n p,[]⟩):∀args m c,wI l pre ret args m=some c->af P G f args m c:=by
 intro args m c hc;unfold wI at hc;split at hc
 .split at hc
  .rename_i n p x h1 h2;cases hc;rw[Wc h1];refine(h x n p).args λC us _ hu=>?_
   obtain⟨u,us',e,g1,g2⟩:=hu;exact⟨u,us',e,g1,fi h2 g2⟩
  .cases hc
 .cases hc
theorem aDT(k:Nat)(xs ys:Li)(n:Net)(p:Plan): af Tryz.prog G0 66 [.ptr 2 1 0 0,.dat R ys] (mN n p k xs) ⟨ZO xs k/\IB xs ys,.tup [],mN n p (Eb k (Dj ys)) (Ef xs ys)⟩:=by
 refine ae (c:=mkc KR2) uV aJ hm (xV k xs ys n p ⟨rfl,λ⟨hk,hr⟩=>?_⟩);have hk:xs.length=k:=hk;have hr:xs.length+ys.length<=1000000000000:=hr;simp only[qc,Dj,Ef,qG];exact⟨by omega,hk,by omega,by omega,by omega⟩
theorem aFB: ak Tryz.prog G0 KW1:=ai (Qs λ(_,ys,_) n p k xs=>aDT k xs ys n p) uV
theorem LO{l:Li}{b k:Int}(h:upTo l k): (upR l b k).length=k.toNat:=by
 unfold upR;rw[vW,qI];have:=h.1;have:=h.2;omega
theorem RH{l:Li}{b k:Int}(h0:0<=k)(h1:k<l.length): upR l b (k+1)=upR l b k++[l.getD k.toNat 0+b]:=by
 unfold upR;rw[show(k+1).toNat=k.toNat+1 by omega,wW,qA,qB (show k.toNat<l.length by omega),yN];rfl
theorem RZ(b:Int)(k:Nat)(l xs:Li)(n:Net)(p:Plan): af Tryz.prog G0 67 [.ptr 2 1 0 0,.dat I b,.dat R l] (mN n p k xs) ⟨rsP b l xs k,.tup [],mN n p (Eb k (Dj (upR l b (Df l)))) (Ef xs (upR l b (Df l)))⟩:=by
 refine ae (c:=mkc KW1) aFB aJ hm (Le b k l xs n p ⟨rfl,λhp=>?_⟩);simp only[qc,qd,Dp,Df,Dc,Dj,Du,Ef,qG];obtain⟨⟨hk,hr⟩,b0,b1,hl⟩:=hp;have eN:upTo l l.length:=⟨qZ _,qL _⟩;refine⟨by omega,⟨0,⟨qL _,qZ _⟩,rfl,by show k=xs.length+0;omega,(wH _).symm⟩,λx hx=>⟨λhlt=>?_,λhge=>?_⟩⟩
 .have h0:=hx.1;have e1:=LO (b:=b) hx;have e2:=RH (b:=b) h0 hlt;have hv:=hl _ (getD_mem (l:=l) (i:=x.toNat) (d:=0) (by omega));refine⟨h0,hlt,aM (by omega),⟨by show(xs++upR l b x).length=_;rw[qG],by show(xs++upR l b x).length+_<=1000000000000;rw[qG,vX];omega⟩,by omega,aM (by omega),x+1,⟨by omega,by omega⟩,⟨rfl,by rw[e2,qG];rfl,by rw[e2,wG]⟩,by omega⟩
 .have hx1:=hx.2;have:x=l.length:=by omega
  rw[this,LO eN];exact⟨by omega,rfl⟩
theorem aGk: ak Tryz.prog G0 KW2:=ai (Qs λ(_,b,l,_) n p k xs=>RZ b k l xs n p) aFB
theorem aAN(o:Int)(k:Nat)(xs:Li)(n:Net)(p:Plan): af Tryz.prog G0 136 [.ptr 2 1 0 0,.dat I o] (mN n p k xs) ⟨iT n o,cal (aj n o).1 (aj n o).2.1 (aj n o).2.2,[]⟩:=by
 refine ae (c:=mkc KR2) uV aJ hm (WI o k xs n p ⟨rfl,λhp=>?_⟩);obtain⟨cs,ns,os,fs,ls,ks⟩:=n;obtain⟨g1,g2,_⟩:=dZ cs ns os fs ls ks hp;simp only[qc,Dt,Df,Dc,Dj,Du];exact⟨hp.2.1,hp.2.2,g1,g2,rfl,rfl,rfl⟩
theorem XE(o:Int)(n:Net)(p:Plan): af Tryz.prog G0 136 [.ips (wHd n p .top),.dat I o] [] ⟨iT n o,cal (aj n o).1 (aj n o).2.1 (aj n o).2.2,[]⟩:=by
 refine ae (c:=mkc KR2) uV aJ hm (QF o n p ⟨rfl,λhp=>?_⟩);obtain⟨cs,ns,os,fs,ls,ks⟩:=n;obtain⟨g1,g2,_⟩:=dZ cs ns os fs ls ks hp;simp only[qc,Dt,Df,Dc,Du];exact⟨hp.2.1,hp.2.2,g1,g2,rfl,rfl,rfl⟩
theorem sX(cs:LC)(ns os:LB)(fs:Lo)(ls:Ll)(ks:Lk){o t:Int}(hp:fx (cs,ns,os,fs,ls,ks) o t): inR .i64 ((cj (cs,ns,os,fs,ls,ks) o).2.2.2.2.1*(cj (cs,ns,os,fs,ls,ks) o).2.2.2.2.2.1)/\inR .i64 (ay (cs,ns,os,fs,ls,ks) o t)/\t<=ay (cs,ns,os,fs,ls,ks) o t/\ay (cs,ns,os,fs,ls,ks) o t<=t+960:=by
 obtain⟨ho,b1,b2⟩:=hp;obtain⟨_,_,_,g1,g2,g3,g4⟩:=dZ cs ns os fs ls ks ho;unfold ay;generalize (cj (cs,ns,os,fs,ls,ks) o).2.2.2.2.1=x at *;generalize (cj (cs,ns,os,fs,ls,ks) o).2.2.2.2.2.1=y at *;have m1:0<=x*y:=qAb (by omega) (by omega);have m2:x*y<=4*240:=xI g2 g4 (by omega) (by omega);exact⟨aM (by omega),aM (by omega),by omega,by omega⟩
theorem aAL(o t:Int)(k:Nat)(xs:Li)(n:Net)(p:Plan): af Tryz.prog G0 139 [.ptr 2 1 0 0,.dat I o,.dat I t] (mN n p k xs) ⟨fx n o t,.dat I (ay n o t),[]⟩:=by
 refine ae (c:=mkc KR2) uV aJ hm (WG o t k xs n p ⟨rfl,λhp=>?_⟩);obtain⟨cs,ns,os,fs,ls,ks⟩:=n;obtain⟨r1,r2,_⟩:=sX cs ns os fs ls ks hp;simp only[qc,Dt,Df,Dc,Dj,Du];exact⟨hp.1.2.1,hp.1.2.2,hp.1.2.1,hp.1.2.2,r1,r2,rfl⟩
theorem RU(m t:Int)(c:C.den): af Tryz.prog G0 138 [cal c.1 c.2.1 c.2.2,.dat I m,.dat I t] [] ⟨tZ c m t,.tup [.dat I (dV c m t),.dat I (ic c m t)],[]⟩:=by
 obtain⟨z,w,h⟩:=c;refine ae (c:=mkc KR2) uV aJ hm (KZ z m t w h ⟨rfl,λhp=>?_⟩);obtain⟨b1,b2⟩:=V1 hp;obtain⟨hv,h1,h2,h3,h4⟩:=id hp;simp only[qc,qd,Ec,Dp]
 have key:∀d,d=d0F (z,w,h) m t->Qj z w h d/\(¬fL w h d=0->(0:Int)=dV (z,w,h) m t/\fL w h d=ic (z,w,h) m t)/\(fL w h d=0->k7 z w h (eW w h d) m/\cL z (eW w h d) m=dV (z,w,h) m t/\(0:Int)=ic (z,w,h) m t):=by
  rintro d rfl;refine⟨⟨hv,gv (by omega) (by omega)⟩,λh0=>⟨(if_neg h0).symm,rfl⟩,λh0=>?_⟩;obtain⟨q1,q2,q3⟩:=gq h0;exact⟨⟨hv,gv (by omega) (by omega),h1,h2⟩,(if_pos h0).symm,h0.symm⟩
 refine⟨⟨hv,by omega,by omega⟩,λhlt=>?_,λhge=>?_⟩
 .have e:fC z t+1=d0F (z,w,h) m t:=(if_pos hlt).symm;obtain⟨q1,q2,q3⟩:=key _ e;exact⟨by unfold inR;simp only;omega,q1,q2,q3⟩
 .have e:fC z t=d0F (z,w,h) m t:=(if_neg hge).symm;exact key _ e
theorem L1(v e:Int): af Tryz.prog G0 137 [.dat I v,.dat I e] [] ⟨True/\isZero e=true,.dat I v,[]⟩/\da Tryz.prog G0 137 [.dat I v,.dat I e] [] ⟨True,isZero e,uH 39 e⟩:=by
 refine dF (c:=mkc KR2) uV aJ hm qu (Qz v e ⟨rfl,λ_=>⟨λh=>⟨λ_=>⟨trivial,λ_=>⟨?_,rfl,rfl⟩⟩,trivial⟩,λh=>⟨?_,rfl,trivial⟩⟩⟩)
 .unfold isZero;simpa[Ec]using h
 .unfold isZero;simpa[Ec]using h
theorem XD(e:Int): af Tryz.prog G0 63 [.ifc 39 (.dat I e)] [] ⟨True,.dat I e,[]⟩:=
 ae (c:=mkc KR2) uV aJ hm (QE e ⟨rfl,λ_=>⟨λ_=>⟨rfl,trivial⟩,λh=>by cases h⟩⟩)
theorem L6(i l:Int): af Tryz.prog G0 205 [.dat I i,.dat I l] [] ⟨True,.dat .bool (bP i l),[]⟩:=by
 refine ae (c:=mkc KR2) uV aJ hm (IC i l ⟨rfl,λ_=>⟨λh _=>h,λh _=>h,λh=>by simpa[Dk]using h,?_,trivial⟩⟩);unfold bP;simp only[Dz,Ed,Dp,kQ];by_cases h:0<=i<;>simp[h]
theorem aAM(c o:Int)(k:Nat)(xs:Li)(n:Net)(p:Plan): af Tryz.prog G0 134 [.ptr 2 1 0 0,.dat I c,.dat I o] (mN n p k xs) ⟨True,.fn 206 [.ipv (.ptr 2 1 0 0),.ip I o,.ip I c],[]⟩:=by
 refine ae (c:=mkc KR2) uV aJ hm (WH c o k xs n p ⟨rfl,λ_=>?_⟩);simp only[qc,Dj]
theorem Z3: ak Tryz.prog G0 KW3:=ai (Oh (WC λ(_,o,_) n p k xs=>aAN o k xs n p) (aDq λ(o,_) n p=>XE o n p)) <|
 ai (WC λ(_,o,t,_) n p k xs=>aAL o t k xs n p)<|ai (ag λ(c,m,t,_)=>RU m t c)<|ai (ag λ(v,e,_)=>(L1 v e).1) <|
 ai (ag λ(i,l,_)=>L6 i l)<|ai (WC λ(_,c,o,_) n p k xs=>aAM c o k xs n p) aGk
theorem P4: bO Tryz.prog G0 aFd:=iH (jo λ(v,e,_)=>(L1 v e).2) qu
end Go.Eng.Sv
set_option maxRecDepth 100000
noncomputable section
namespace Go.Eng.Sv
open Go.Proofs
def lZ(w:List Bool)(h:Li)(a b:Int): Int:=if b<=a+2000 then((di w h (a+1) (b-a)).length:Int)else -1
def countP(z:Int)(w:List Bool)(h:Li)(a b:Int): Prop:=ax z w h=true/\bM a=true/\bM b=true
def LR(k:Nat)(l:Li): Prop:=k<=l.length/\l.length<=100000
def ud(x:Int): Bool:=decide (-1<=x/\x<=65518)
def gP(_o x:Int): Bool:=ud x
def sgR(g:Int->Int->Bool)(m o:Int)(row:Li): Bool:=decide ((row.length:Int)=m)&&row.all (g o)
def sgF(g:Int->Int->Bool)(t:Lj)(m:Int): Bool:=decide ((t.length:Int)=m)&&(List.range t.length).all λi=>sgR g m i (t.getD i [])
def Dm(g:Int->Int->Bool)(t:Lj)(m k:Int): Prop:=0<=k/\k<=t.length/\(t.length:Int)=m/\∀i:Nat,(i:Int)<k->sgR g m i (t.getD i [])=true
def mO(g:Int->Int->Bool)(row:Li)(m o k:Int): Prop:=0<=k/\k<=row.length/\(row.length:Int)=m/\∀i:Nat,(i:Int)<k->g o (row.getD i 0)=true
def fQ(p:Plan): Prop:=bZ p.2.2.1/\p.2.2.2.length<=1000000/\∀t∈p.2.2.2,bZ t
def mW(p:Plan): Bool:=decide (0<=p.1/\p.1<p.2.1/\p.2.1<=600/\p.2.1-p.1<=60)
def pR(n:Net)(p:Plan): Bool:=decide ((p.2.2.2.length:Int)=n.2.2.2.2.2.length)&&p.2.2.2.all λt=>sgF gP t n.2.2.2.1.length
def gb(n:Net)(p:Plan): Bool:=mW p&&(lr n p.2.2.1&&pR n p)
def rc(n:Net)(p:Plan)(k:Int): Prop:=0<=k/\k<=p.2.2.2.length/\mW p=true/\lr n p.2.2.1=true/\(p.2.2.2.length:Int)=n.2.2.2.2.2.length/\∀i:Nat,(i:Int)<k->sgF gP (p.2.2.2.getD i []) n.2.2.2.1.length=true
def aCc(w:List Bool)(h:Li)(a b:Int): Ann:=⟨λid s=>match id with
 | 5=>some {α:=Nat,inv:=λk=>LR k (di w h (Dq a 1) (Dh b a)),st:=λk=>iE (flat s) 0 (.var [.dat I (Dx k)]),μ:=λk=>k}
 | _=>none,λ_ _=>none,λ_ _=>none⟩
theorem Ro(z:Int)(w:List Bool)(h:Li)(a b:Int)(hvc:
 let c1:=Di (ax z w h);let c2:=Di c1;let c3:=Dz c1 true (Di (bM a));let c4:=Di c3;let c5:=Dz c3 true (Di (bM b));let c6:=Di c5;let c14:=c6->c6->c6;let c7:=a+2000;let c8:=Dz c5 true (Ei b c7);let c9:=lZ w h a b;let c10:=a+1;let c11:=di w h c10 (b-a);let c12:=(z,w,h);true/\(countP z w h a b->True/\(c2->c2->c2)/\(c2->True)/\(c2->c2->c2)/\(Dk true c2->c2)/\(c4->c4->c4)/\(c4->True)/\(c4->c4->c4)/\(Dk true c4->c4)/\c14/\(c6->inR .i64 c7)/\c14/\c14/\(Dk true c6->c6)/\(c8->(-1:Int)=c9/\True)/\(c8=false->1=1/\0=0/\inR .i64 c10/\inR .i64 (b-a)/\Dj w=7/\F3 w h c10 (b-a)/\(∃x,LR x c11/\x=0/\z=z/\w=w/\h=h/\a=a/\b=b/\c12=c12/\(0:Int)=(0:Int)/\1=1/\0=0/\0=0/\z=z/\w=w/\h=h/\ax z w h=ax z w h/\c1=c1/\c1=c1/\c3=c3/\c3=c3/\c5=c5/\c5=c5/\c8=c8/\z=z/\w=w/\h=h/\a=a/\c10=c10/\b=b/\a=a/\b-a=b-a/\c10=c10/\b-a=b-a/\w=w/\c12=c12/\0=Dx x/\True)/\(∀(x:Nat),let c13:=Dx x+1;∀(y:Int),LR x c11->lu c11 x y->1=1/\0=0/\inR .i64 c13/\1=1/\0=0/\∃z_1,LR z_1 c11/\z_1=x+1/\z=z/\w=w/\h=h/\a=a/\b=b/\c12=c12/\(0:Int)=(0:Int)/\1=1/\0=0/\0=0/\z=z/\w=w/\h=h/\ax z w h=ax z w h/\c1=c1/\c1=c1/\c3=c3/\c3=c3/\c5=c5/\c5=c5/\c8=c8/\z=z/\w=w/\h=h/\a=a/\c10=c10/\b=b/\a=a/\b-a=b-a/\c10=c10/\b-a=b-a/\w=w/\c12=c12/\c13=Dx z_1/\True)/\∀(x:Nat),LR x c11->x=Dj c11->1=1/\0=0/\Dx x=c9/\True))):
  evF (aBP KR1) (aCc w h a b) 140 [cal z w h,.dat I a,.dat I b] [] ⟨countP z w h a b,.dat I (lZ w h a b),[]⟩:=oE hvc
theorem Xe(o x:Int)(hvc:
 let c1:=Ed x (-1);true/\(True->(c1->c1->c1)/\(Dk true c1->c1)/\Dz c1 (Eh x 65518) false=gP o x/\True)):
  evF (mkc KW3) aA 133 [.dat I o,.dat I x] [] ⟨True,.dat .bool (gP o x),[]⟩:=oE hvc
theorem Q9(n:Net)(hvc:
 true/\(True->n=n/\True)):
  evF (mkc KW3) aA 132 [.ip N n] [] ⟨True,.fn 204 [.ipv (.ip N n)],[]⟩:=oE hvc
theorem Rb(o x:Int)(cs:LC)(ns os:LB)(fs:Lo)(ls:Ll)(ks:Lk)(hvc:
 let c1:=Ea x (-1);let c2:=Di c1;let c6:=c2->c2->c2;let c3:=Df ls;let c4:=bP x c3;let c5:=Dk c2 c4->Dk c2 c4->Dk c2 c4;true/\(True->c6/\c6/\c6/\c6/\c6/\c6/\(c2->True)/\c6/\c5/\c5/\c5/\c5/\c5/\(Dk c2 c4->0<=x)/\(Dk c2 c4->x<c3)/\c5/\c5/\c5/\c5/\c6/\(c2->Dk c2 c4->Dk c2 c4)/\(Dk true c2->c2)/\Dz c1 true (Dz c4 (Ea (Du ls (Dc x) (ByteArray.mk #[],(0:Int),(0:Int),(0:Int),(0:Int),(0:Int))).2.1 o) false)=aV (cs,ns,os,fs,ls,ks) o x/\True)):
  evF (mkc KW3) aA 204 [.dat I o,.dat I x,.ipv (.ip N (cs,ns,os,fs,ls,ks))] [] ⟨True,.dat .bool (aV (cs,ns,os,fs,ls,ks) o x),[]⟩:=oE hvc
def KW4: Kt:=kOr 133 (az [.val I,.val I] (λ_=>True) λ(o,x,_)=>.dat .bool (gP o x)) <|
 kOr 132 (az [.ptr N] (λ_=>True) λ(n,_)=>.fn 204 [.ipv (.ip N n)]) <|
 kOr 204 (az [.val I,.val I,.bp N] (λ_=>True) λ(o,x,n,_)=>.dat .bool (aV n o x)) <|
 kOr 140 (az [.row C,.val I,.val I] (λ(c,a,b,_)=>countP c.1 c.2.1 c.2.2 a b) λ(c,a,b,_)=>.dat I (lZ c.2.1 c.2.2 a b)) KW3
def sgA(g:Int->Int->Bool)(t:Lj)(m:Int): Ann:=⟨λid s=>match id with
 | 4=>some {α:=Int,inv:=λk=>Dm g t m k,st:=λk=>put s [(17,.dat I k)],μ:=λk=>Dc (Dh (Df t) k)}
 | 9=>match s.sig.T 17,s.sig.T 26 with
  | .dat (.int .i64) o,.dat (.sl (.int .i64)) row=>some {α:=Int,inv:=λk=>mO g row m o k,st:=λk=>put s [(28,.dat I k)],μ:=λk=>Dc (Dh (Df row) k)}
  | _,_=>none
 | _=>none,λ_ _=>none,λ_ _=>none⟩
theorem gM(t:Lj)(m:Int)(n:Net)(hvc:
 let c1:=Ec (Df t) m;let c2:=sgF (aV n) t m;true/\(bZ t->(c1->false=c2/\True)/\(c1=false->(∃x,Dm (aV n) t m x/\m=m/\n=n/\t=t/\Df t=Df t/\0=x/\True)/\∀(x:Int),let c3:=Dp x (Df t);let c4:=Du t (Dc x) [];let c5:=Df c4;let c6:=Ec c5 m;let c7:=x+1;Dm (aV n) t m x->(c3->0<=x/\x<Df t/\(c6->false=c2/\True)/\(c6=false->(∃x_4,mO (aV n) c4 m x x_4/\m=m/\n=n/\x=x/\c4=c4/\t=t/\Df t=Df t/\x=x/\c4=c4/\c5=c5/\0=x_4/\True)/\∀(x_4:Int),let c8:=Di (aV n x (Du c4 (Dc x_4) 0));let c9:=x_4+1;mO (aV n) c4 m x x_4->(Dp x_4 c5->0<=x_4/\x_4<c5/\True/\(c8->false=c2/\True)/\(c8=false->inR .i64 c9/\∃y,mO (aV n) c4 m x y/\(m=m/\n=n/\x=x/\c4=c4/\t=t/\Df t=Df t/\x=x/\c4=c4/\c5=c5/\c9=y/\True)/\Dc (c5-y)<Dc (c5-x_4)))/\(Dp x_4 c5=false->inR .i64 c7/\∃y,Dm (aV n) t m y/\(m=m/\n=n/\t=t/\Df t=Df t/\c7=y/\True)/\Dc (Df t-y)<Dc (Df t-x))))/\(c3=false->true=c2/\True)))):
  evF (mkc KW4) (lvA [(4,[1,2,6,7,8,10,15,16,17,26,27,28]),(9,[1,2,6,7,8,10,15,16,17,26,27,28])] (sgA (aV n) t m)) 131 [.dat M t,.dat I m,.fn 204 [.ipv (.ip N n)]] [] ⟨bZ t,.dat .bool (sgF (aV n) t m),[]⟩:=oE hvc
theorem gN(t:Lj)(m:Int)(hvc:
 let c1:=Ec (Df t) m;true/\(bZ t->(c1->false=sgF gP t m/\True)/\(c1=false->(∃x,Dm gP t m x/\m=m/\t=t/\Df t=Df t/\0=x/\True)/\∀(x:Int),let c2:=Dp x (Df t);let c3:=Du t (Dc x) [];let c4:=Df c3;let c5:=Ec c4 m;let c6:=x+1;Dm gP t m x->(c2->0<=x/\x<Df t/\(c5->false=sgF gP t m/\True)/\(c5=false->(∃x_4,mO gP c3 m x x_4/\m=m/\x=x/\c3=c3/\t=t/\Df t=Df t/\x=x/\c3=c3/\c4=c4/\0=x_4/\True)/\∀(x_4:Int),let c7:=Di (gP x (Du c3 (Dc x_4) 0));let c8:=x_4+1;mO gP c3 m x x_4->(Dp x_4 c4->0<=x_4/\x_4<c4/\True/\(c7->false=sgF gP t m/\True)/\(c7=false->inR .i64 c8/\∃y,mO gP c3 m x y/\(m=m/\x=x/\c3=c3/\t=t/\Df t=Df t/\x=x/\c3=c3/\c4=c4/\c8=y/\True)/\Dc (c4-y)<Dc (c4-x_4)))/\(Dp x_4 c4=false->inR .i64 c6/\∃y,Dm gP t m y/\(m=m/\t=t/\Df t=Df t/\c6=y/\True)/\Dc (Df t-y)<Dc (Df t-x))))/\(c2=false->true=sgF gP t m/\True)))):
  evF (mkc KW4) (lvA [(4,[1,2,6,7,8,10,15,16,17,26,27,28]),(9,[1,2,6,7,8,10,15,16,17,26,27,28])] (sgA gP t m)) 131 [.dat M t,.dat I m,.fn 133 []] [] ⟨bZ t,.dat .bool (sgF gP t m),[]⟩:=oE hvc
def KW5: Kt:=kOr 131 (aCX (az [.val M,.val I,.fnb 204 N] (λ(t,_,_,_)=>bZ t) λ(t,m,n,_)=>.dat .bool (sgF (aV n) t m)) (az [.val M,.val I,.fn0 133] (λ(t,_,_)=>bZ t) λ(t,m,_)=>.dat .bool (sgF gP t m))) KW4
def aEJ(n:Net)(p:Plan): Ann:=⟨λid s=>match id with
 | 7=>some {α:=Int,inv:=λk=>rc n p k,st:=λk=>put s [(74,.dat I k)],μ:=λk=>Dc (Dh (Df p.2.2.2) k)}
 | _=>none,λ_ _=>none,λ_ _=>none⟩
theorem QB(n:Net)(p:Plan)(hvc:
 let c1:=p.2.2.2;let c2:=Dp p.1 0;let c3:=Di c2;let c12:=c3->c3->c3;let c6:=Dz c2 true (Eh p.2.1 p.1);let c7:=Di c6;let c13:=c7->c7->c7;let c8:=Dz c6 true (Ei p.2.1 600);let c9:=Di c8;let c5:=c9->c9->c9;let c10:=p.2.1-p.1;let c11:=Dz c8 true (Ei c10 60);let c14:=Df c1;let c16:=Ec c14 (Df n.2.2.2.2.2);let c17:=Di c16;let c4:=c17->c17->c17;let c19:=Df n.2.2.2.1;let c20:=Dz c16 true (Di (sgF (aV n) p.2.2.1 c19));true/\(fQ p->c12/\c12/\c12/\c12/\c12/\c12/\c12/\c12/\(Dk true c3->c3)/\c13/\c13/\c13/\c13/\(Dk true c7->c7)/\c5/\c5/\c5/\c5/\c5/\c5/\c5/\c5/\(c9->inR .i64 c10)/\c5/\(Dk true c9->c9)/\(c11->false=gb n p/\True)/\(c11=false->c4/\c4/\c4/\c4/\c4/\c4/\c4/\c4/\(c17->True)/\c4/\c4/\c4/\(c17->bZ p.2.2.1)/\c4/\(Dk true c17->c17)/\(c20->false=gb n p/\True)/\(c20=false->(∃x,rc n p x/\n=n/\c1=c1/\c14=c14/\0=x/\True)/\∀(x:Int),let c21:=Du c1 (Dc x) (Dt (Li));let c22:=Di (sgF gP c21 c19);let c23:=x+1;rc n p x->(Dp x c14->0<=x/\x<c14/\bZ c21/\(c22->false=gb n p/\True)/\(c22=false->inR .i64 c23/\∃y,rc n p y/\(n=n/\c1=c1/\c14=c14/\c23=y/\True)/\Dc (c14-y)<Dc (c14-x)))/\(Dp x c14=false->true=gb n p/\True))))):
  evF (mkc KW5) (lvA [(7,[0,4,5,7,72,73,74])] (aEJ n p)) 65 [.ip N n,.ip Pl p] [] ⟨fQ p,.dat .bool (gb n p),[]⟩:=oE hvc
theorem M5(z:Int)(w:List Bool)(h:Li)(a b:Int): af Tryz.prog G0 140 [cal z w h,.dat I a,.dat I b] [] ⟨countP z w h a b,.dat I (lZ w h a b),[]⟩:=by
 refine ae (c:=aBP KR1) aDd ZI hm (Ro z w h a b ⟨rfl,λ⟨hv,ha,hb⟩=>?_⟩);have hc:=rS hv;have ha':=okd ha;have hb':=okd hb;have hl:(di w h (a+1) (b-a)).length<=(b-a).toNat:=by
  unfold di;exact wE (xB _ _) (by simp)
 simp only[hv,ha,hb,qc,Dk,Di,qd,Ei,Dx,Dj,zZ,yC,qAk]
 refine⟨⟨by omega,by omega⟩,λhgt=>(if_neg (by omega)).symm,λhab=>⟨⟨by omega,by omega⟩,⟨by omega,by omega⟩,hc.1,⟨hc,by omega,by omega,by omega,by omega⟩,⟨0,⟨by omega,by omega⟩,rfl,rfl⟩,λk y hk hy=>?_,λk hk hlen=>?_⟩⟩
 .have hy:(di w h (a+1) (b-a))[k]?=some y:=hy;have:=(qF.1 hy).1;obtain⟨k1,k2⟩:=hk;refine⟨⟨by omega,by omega⟩,k+1,⟨by omega,k2⟩,rfl,by omega⟩
 .rw[hlen];exact(if_pos (by omega)).symm
theorem aA4(o x:Int): af Tryz.prog G0 133 [.dat I o,.dat I x] [] ⟨True,.dat .bool (gP o x),[]⟩:=by
 refine ae (c:=mkc KW3) Z3 aJ hm (Xe o x ⟨rfl,λ_=>⟨λh _=>h,λh=>by simpa[Dk]using h,?_,trivial⟩⟩);unfold gP ud;simp only[Dz,Ed,Eh,kQ];by_cases h:-1<=x<;>simp[h]
theorem XX(n:Net): af Tryz.prog G0 132 [.ip N n] [] ⟨True,.fn 204 [.ipv (.ip N n)],[]⟩:=
 ae (c:=mkc KW3) Z3 aJ hm (Q9 n ⟨rfl,λ_=>⟨rfl,trivial⟩⟩)
theorem XY(o x:Int)(cs:LC)(ns os:LB)(fs:Lo)(ls:Ll)(ks:Lk): af Tryz.prog G0 204 [.dat I o,.dat I x,.ipv (.ip N (cs,ns,os,fs,ls,ks))] [] ⟨True,.dat .bool (aV (cs,ns,os,fs,ls,ks) o x),[]⟩:=by
 refine ae (c:=mkc KW3) Z3 aJ hm (Rb o x cs ns os fs ls ks ⟨rfl,λ_=>?_⟩);have e:Dz (Ea x (-1)) true (Dz (bP x (Df ls)) (Ea (Du ls (Dc x) (ByteArray.mk (Dt UInt8).toArray,(0:Int),(0:Int),(0:Int),(0:Int),(0:Int))).snd.fst o) false)=aV (cs,ns,os,fs,ls,ks) o x:=by
  unfold aV;rw[rk,jt]
  congr 1
 rw[e];simp only[qc,Dk,Di,qd,Ea,Df];unfold bP;simp only[qE];exact⟨λh=>h.2.1,λh=>h.2.2⟩
theorem aDb: ak Tryz.prog G0 KW4:=ai (ag λ(o,x,_)=>aA4 o x)<|ai (ag λ(n,_)=>XX n)<|ai (ag λ(o,x,(cs,ns,os,fs,ls,ks),_)=>XY o x cs ns os fs ls ks) <|
 ai (ag λ((z,w,h),a,b,_)=>M5 z w h a b) Z3
theorem AU{g:Int->Int->Bool}{t:Lj}{m:Int}(hl:(t.length:Int)=m): sgF g t m=true↔∀i:Nat,(i:Int)<t.length->sgR g m i (t.getD i [])=true:=by
 unfold sgF;simp only[qC,qE,qM,qX];exact⟨λh i hi=>h.2 i (by omega),λh=>⟨hl,λi hi=>h i (by omega)⟩⟩
theorem D4{g:Int->Int->Bool}{m o:Int}{row:Li}(hl:(row.length:Int)=m): sgR g m o row=true↔∀i:Nat,(i:Int)<row.length->g o (row.getD i 0)=true:=by
 unfold sgR;simp only[qC,qE,qM];refine⟨λh i hi=>h.2 _ ?_,λh=>⟨hl,λx hx=>?_⟩⟩
 .rw[qA,qB (by omega),qQ];exact wM _
 .obtain⟨i,hi,rfl⟩:=wX.1 hx;have:=h i (by omega);rw[qA,qB hi,qQ]at this;exact this
theorem xp(g:Int->Int->Bool){t:Lj}{m:Int}(hf:bZ t): ((t.length:Int)≠m->false=sgF g t m)/\((t.length:Int)=m->Dm g t m 0/\∀x:Int,Dm g t m x->
  (x<t.length->0<=x/\x<t.length/\(((t.getD x.toNat []).length:Int)≠m->false=sgF g t m)/\(((t.getD x.toNat []).length:Int)=m->mO g (t.getD x.toNat []) m x 0/\∀y:Int,mO g (t.getD x.toNat []) m x y->
   (y<(t.getD x.toNat []).length->0<=y/\y<(t.getD x.toNat []).length/\(g x ((t.getD x.toNat []).getD y.toNat 0)=false->false=sgF g t m)/\
    (g x ((t.getD x.toNat []).getD y.toNat 0)=true->inR .i64 (y+1)/\∃z,mO g (t.getD x.toNat []) m x z/\y+1=z/\(((t.getD x.toNat []).length:Int)-z).toNat<(((t.getD x.toNat []).length:Int)-y).toNat))/\
   (¬y<(t.getD x.toNat []).length->inR .i64 (x+1)/\∃z,Dm g t m z/\x+1=z/\((t.length:Int)-z).toNat<((t.length:Int)-x).toNat)))/\(¬x<t.length->true=sgF g t m)):=by
 have hct:∀x:Int,0<=x->((x.toNat:Nat):Int)=x:=λx h=>by omega
 refine⟨λh=>?_,λhe=>⟨⟨qL _,by omega,he,λi h=>by omega⟩,λx ⟨x0,x1,_,x3⟩=>⟨λhx=>?_,λhx=>?_⟩⟩⟩
 .unfold sgF;rw[vH h];rfl
 .have hr:=hf.2 _ (getD_mem (l:=t) (i:=x.toNat) (d:=[]) (by omega));have hfl:=hf.1;refine⟨x0,hx,λh=>?_,λhm=>⟨⟨qL _,by omega,hm,λi h=>by omega⟩,λy ⟨y0,y1,_,y3⟩=>⟨λhy=>⟨y0,hy,λh=>?_,λh=>?_⟩,λhy=>?_⟩⟩⟩
  .refine(kP.2 λht=>h ?_).symm;have h2:=(AU he).1 ht x.toNat (by omega);unfold sgR at h2;simp only[qC,qE]at h2;exact h2.1
  .refine(kP.2 λht=>?_).symm;have h2:=(D4 hm).1 ((AU he).1 ht x.toNat (by omega)) y.toNat (by omega);rw[hct x x0,h]at h2;cases h2
  .refine⟨aM (by omega),y+1,⟨by omega,by omega,hm,λi hi=>?_⟩,rfl,by omega⟩;by_cases h3:(i:Int)<y
   .exact y3 i h3
   .have:i=y.toNat:=by omega
    subst this;exact h
  .refine⟨aM (by omega),x+1,⟨by omega,by omega,he,λi hi=>?_⟩,rfl,by omega⟩;by_cases h3:(i:Int)<x
   .exact x3 i h3
   .have:i=x.toNat:=by omega
    subst this;exact(D4 hm).2 λj hj=>by rw[hct x x0];exact y3 j (by omega)
 .exact((AU he).2 λi hi=>x3 i (by omega)).symm
theorem aDC(t:Lj)(m:Int): af Tryz.prog G0 131 [.dat M t,.dat I m,.fn 133 []] [] ⟨bZ t,.dat .bool (sgF gP t m),[]⟩:=by
 refine ae (c:=mkc KW4) aDb aJ hm (gN t m ⟨rfl,λhf=>?_⟩);simp only[qc,Di,qd,Ec,Dp,Df,Dc,Du];exact xp gP hf
theorem aDB(t:Lj)(m:Int)(n:Net): af Tryz.prog G0 131 [.dat M t,.dat I m,.fn 204 [.ipv (.ip N n)]] [] ⟨bZ t,.dat .bool (sgF (aV n) t m),[]⟩:=by
 refine ae (c:=mkc KW4) aDb aJ hm (gM t m n ⟨rfl,λhf=>?_⟩);simp only[qc,Di,qd,Ec,Dp,Df,Dc,Du];exact xp (aV n) hf
theorem aFA: ak Tryz.prog G0 KW5:=ai (Oh (ag λ(t,m,n,_)=>aDB t m n) (ag λ(t,m,_)=>aDC t m)) aDb
theorem XA(n:Net)(p:Plan): af Tryz.prog G0 65 [.ip N n,.ip Pl p] [] ⟨fQ p,.dat .bool (gb n p),[]⟩:=by
 refine ae (c:=mkc KW5) aFA aJ hm (QB n p ⟨rfl,λ⟨a3,a4,a5⟩=>?_⟩);simp only[qc,Dk,Di,qd,Dt,Ec,Dp,Ei,Eh,Df,Dc,Du];have eT:sgF (aV n) p.2.2.1 n.2.2.2.1.length=lr n p.2.2.1:=rfl;rw[eT];have e1:∀i:Nat,(i:Int)<p.2.2.2.length->p.2.2.2.getD i []∈p.2.2.2:=λi hi=>getD_mem (by omega)
 have eD:(p.2.2.2.length:Int)=n.2.2.2.2.2.length->(pR n p=true↔∀i:Nat,(i:Int)<p.2.2.2.length->sgF gP (p.2.2.2.getD i []) n.2.2.2.1.length=true):=λhl=>by
  unfold pR;simp only[qC,qE,qM];refine⟨λh i hi=>h.2 _ (e1 i hi),λh=>⟨hl,λx hx=>?_⟩⟩;obtain⟨i,hi,rfl⟩:=wX.1 hx;have:=h i (by omega);rw[qA,qB hi,qQ]at this;exact this
 refine⟨λh=>aM (by omega),λh=>?_,λh=>⟨λ_=>a3,λh2=>?_,λ⟨h2,h3⟩=>?_⟩⟩
 .unfold gb mW;rw[vH (by omega)];rfl
 .unfold gb pR;rcases h2 with h2 | h2
  .rw[vH h2];simp
  .rw[h2];simp
 .have hR:mW p=true:=by unfold mW;exact qV (by omega)
  refine⟨⟨qL _,by omega,hR,h3,h2,λi hi=>by omega⟩,λx ⟨x0,x1,_,_,_,x5⟩=>⟨λhx=>⟨x0,hx,a5 _ (getD_mem (by omega)),λh4=>?_,λh4=>?_⟩,λhx=>?_⟩⟩
  .refine(kP.2 λht=>?_).symm;unfold gb at ht;simp only[qC]at ht;have:=(eD h2).1 ht.2.2 x.toNat (by omega);rw[h4]at this;cases this
  .refine⟨aM (by omega),x+1,⟨by omega,by omega,hR,h3,h2,λi hi=>?_⟩,rfl,by omega⟩;by_cases h5:(i:Int)<x
   .exact x5 i h5
   .have:i=x.toNat:=by omega
    subst this;exact h4
  .unfold gb;rw[hR,h3,(eD h2).2 λi hi=>x5 i (by omega)];rfl
end Go.Eng.Sv
set_option maxRecDepth 100000
noncomputable section
namespace Go.Eng.Sv
open Go.Proofs
def aFq(n:Net)(f:Int)(s:Stop): Int:=fC (aj n s.1).1 s.2.2.1+(2-f)
def pG(n:Net)(f:Int)(l:List Stop): Li:=l.map (aFq n f)
def IA(n:Net)(p:Plan)(o d t:Int): Li:=pG n p.1 (lj n p.2.2.1 o d t).dropLast
def rX(n:Net)(p:Plan)(o d t:Int): Int:=((lj n p.2.2.1 o d t).getLastD (0,0,0,0)).2.1
def xb(n:Net)(p:Plan)(o d t:Int)(k:Nat)(xs:Li): Prop:=Am n p.2.2.1 o d t/\(0<=p.1/\p.1<=600)/\xs.length=k/\xs.length<=950000000000
def aDk(n:Net)(p:Plan)(o0 d t0:Int)(xs:Li): Ann:=⟨λid s=>match id with
 | 2=>some {α:=List Stop×Int×Int,inv:=λx=>Vl n p.2.2.1 o0 d t0 x,st:=λx=>{put (flat s) [(1,.dat I x.2.1),(3,.dat I x.2.2),(9,.dat I (Dq (Df x.1) 1))]with mem:=mN n p (Eb (Dj xs) (Dj (pG n p.1 x.1))) (Ef xs (pG n p.1 x.1))},μ:=λx=>Dc (Dh 20 (Df x.1))}
 | _=>none,λ_ _=>none,λ_ _=>none⟩
def cWw: Cfg:=mkp KW3 (λ_=>false) aFd (λf=>f==137)
theorem WE(o d t:Int)(k:Nat)(xs:Li)(n:Net)(p:Plan)(hvc:
 let c1:=IA n p o d t;let c2:=Ef xs c1;let c3:=p.2;let c4:=c3.2;let c5:=c4.1;let c6:=n.1;let c7:=n.2;let c8:=c7.1;let c9:=c7.2;let c10:=c9.1;let c11:=c9.2;let c12:=c11.1;let c13:=c11.2;let c14:=c13.1;let c15:=c13.2;let c16:=p.1;let c17:=c3.1;let c18:=c4.2;let c19:=ig n c5 o d t;let c20:=isZero c19;let c21:=chainOf (Value.iface 39 (Value.int .i64 c19));let c22:=(c6,c8,c10,c12,c14,c15);let c23:=(ByteArray.mk #[],(0:Int),(0:Int),(0:Int),(0:Int),(0:Int));let c24:=2-c16;true/\(xb n p o d t k xs->1=1/\Dj xs<=Dj c2/\(∃(x:List Stop×Int×Int),let c25:=x.2;let c26:=x.1;let c27:=pG n c16 c26;Vl n c5 o d t x/\1=1/\0=0/\0=0/\o=c25.1/\d=d/\t=c25.2/\(0:Int)=(0:Int)/\1=Df c26+1/\c6=c6/\c8=c8/\c10=c10/\c12=c12/\c14=c14/\c15=c15/\c16=c16/\c17=c17/\c5=c5/\c18=c18/\k=Dj xs+Dj c27/\xs=Ef xs c27/\1=1/\Dj xs=Dj xs/\True)/\∀(x:List (Int×Int×Int×Int)×Int×Int),let c28:=x.2;let c29:=c28.1;let c30:=Ec c29 d;let c31:=Du c5 (Dc c29) [];let c32:=Du c31 (Dc d) 0;let c33:=Ea c32 (-1);let c34:=c28.2;let c35:=ay c22 c29 c34;let c36:=Ei c35 2000000;let c37:=aj c22 c29;let c38:=c37.1;let c39:=c37.2;let c40:=c39.1;let c41:=c39.2;let c42:=(c38,c40,c41);let c43:=(Du c14 (Dc c32) c23).2.2;let c44:=c43.2;let c45:=c44.1;let c46:=ic c42 c45 c35;let c47:=isZero c46;let c48:=x.1;let c49:=Df c48;let c50:=c49+1;let c51:=Ea c50 20;let c52:=dV c42 c45 c35;let c53:=[fC c38 c52];let c54:=pG n c16 c48;let c55:=Ef xs c54;let c56:=Dj xs+Dj c54;let c57:=upR c53 c24 (Df c53);let c58:=Ef c55 c57;let c59:=c52+c44.2.1;let c60:=c50+1;
 Vl n c5 o d t x->(c30->1=1/\1=1/\1=1/\1=1/\0=0/\0<=c29/\c29<Df c5/\0<=d/\d<Df c31/\(c33->(true->True/\(false=false->c20=false/\true/\chainOf (Value.iface 39 (Value.int IntKind.i64 (170:Int)))=c21))/\True)/\(c33=false->fx c22 c29 c34/\(c36->(true->True/\(false=false->c20=false/\true/\chainOf (Value.iface 39 (Value.int .i64 (1:Int)))=c21))/\True)/\(c36=false->1=1/\1=1/\1=1/\1=1/\0=0/\0<=c32/\c32<Df c14/\1=1/\0=0/\iT c22 c29/\1=1/\0=0/\1=1/\0=0/\1=1/\1=1/\0=0/\tZ c42 c45 c35/\(true->True/\(c47=false->c20=false/\true/\chainOf (Value.iface 39 (Value.int .i64 c46))=c21))/\((true->c47)->(True/\c47)/\(c51->(true->True/\(false=false->c20=false/\true/\chainOf (Value.iface 39 (Value.int .i64 (170:Int)))=c21))/\True)/\(c51=false->1=1/\0=0/\ga c38 c40 c41 c52/\1=1/\1=1/\1=1/\1=1/\0=0/\inR .i64 c24/\rsP c24 c53 c55 c56/\1=1/\Dj c55<=Dj c58/\1=1/\1=1/\0=0/\1=1/\1=1/\0=0/\inR .i64 c59/\inR .i64 c60/\∃(y:List Stop×Int×Int),let c61:=y.2;let c62:=y.1;let c63:=Df c62;let c64:=pG n c16 c62;Vl n c5 o d t y/\(1=1/\0=0/\0=0/\c43.1=c61.1/\d=d/\c59=c61.2/\(0:Int)=(0:Int)/\c60=c63+1/\c6=c6/\c8=c8/\c10=c10/\c12=c12/\c14=c14/\c15=c15/\c16=c16/\c17=c17/\c5=c5/\c18=c18/\c56+Dj c57=Dj xs+Dj c64/\c58=Ef xs c64/\1=1/\Dj xs=Dj xs/\True)/\Dc (20-c63)<Dc (20-c49))))))/\(c30=false->c20/\c34=rX n p o d t/\c6=c6/\c8=c8/\c10=c10/\c12=c12/\c14=c14/\c15=c15/\c16=c16/\c17=c17/\c5=c5/\c18=c18/\c56=k+Dj c1/\c55=c2/\1=1/\Dj xs=Dj xs/\True))):
  evM cWw (aDk n p o d t xs) 135 [.ptr 2 1 0 0,.dat I o,.dat I d,.dat I t] (mN n p k xs) (.dat I (rX n p o d t)) (mN n p (Eb k (Dj (IA n p o d t))) (Ef xs (IA n p o d t))) ⟨xb n p o d t k xs,isZero (ig n p.2.2.1 o d t),uH 39 (ig n p.2.2.1 o d t)⟩:=oE hvc
theorem Vr(o d t:Int)(k:Nat)(xs:Li)(n:Net)(p:Plan): af Tryz.prog G0 135 [.ptr 2 1 0 0,.dat I o,.dat I d,.dat I t] (mN n p k xs) ⟨xb n p o d t k xs/\isZero (ig n p.2.2.1 o d t)=true,.dat I (rX n p o d t),mN n p (Eb k (Dj (IA n p o d t))) (Ef xs (IA n p o d t))⟩/\
  da Tryz.prog G0 135 [.ptr 2 1 0 0,.dat I o,.dat I d,.dat I t] (mN n p k xs) ⟨xb n p o d t k xs,isZero (ig n p.2.2.1 o d t),uH 39 (ig n p.2.2.1 o d t)⟩:=by
 refine cC (c:=cWw) Z3 aJ hm P4 (WE o d t k xs n p ⟨rfl,λhp=>?_⟩);obtain⟨hp,hp1,hk,hxl⟩:=hp;have eN:(n.1,n.2.1,n.2.2.1,n.2.2.2.1,n.2.2.2.2.1,n.2.2.2.2.2)=n:=rfl;have eC:∀c:Int×List Bool×Li,(c.1,c.2.1,c.2.2)=c:=λ_=>rfl
 have eX:∀l:Int,n.2.2.2.2.1.getD l.toNat (⟨#[]⟩,0,0,0,0,0)=pF n l:=λ_=>rfl
 have eM:∀u:Int,(p.2.2.1.getD u.toNat []).getD d.toNat 0=nxt p.2.2.1 u d:=λ_=>rfl
 have eU:∀x b:Int,upR [x] b (([x]:Li).length:Int)=[x+b]:=λ_ _=>rfl
 simp only[qc,qd,Ea,Ec,Ei,Df,Dc,Dj,Du,Ef,eN,eC,eX,eM,eU];refine⟨by rw[qG];omega,⟨([],o,t),⟨hp,by simp,(Ht 19 o t).symm⟩,rfl,rfl,rfl,by rw[hk];rfl,(wH _).symm⟩,?_⟩;rintro⟨l,u,v⟩ hx;simp only;generalize hln:nxt p.2.2.1 u d=ln at *;obtain⟨⟨hs,ht,u0,u1,o0,o1,v0,v1⟩,hd,hw⟩:=hx
 simp only at u0 u1 o0 o1 v0 v1 hd hw;have hno:noF n=true:=aX n.1 n.2.1 n.2.2.1 n.2.2.2.1 n.2.2.2.2.1 n.2.2.2.2.2 hs
 obtain⟨c1,c2,c3⟩:(p.2.2.1.length:Int)=n.2.2.2.1.length/\((p.2.2.1.getD u.toNat []).length:Int)=n.2.2.2.1.length/\(nxt p.2.2.1 u d≠-1->(0<=nxt p.2.2.1 u d/\nxt p.2.2.1 u d<n.2.2.2.2.1.length)/\cn n (nxt p.2.2.1 u d)=u):=i9 n.1 n.2.1 n.2.2.1 n.2.2.2.1 n.2.2.2.2.1 n.2.2.2.2.2 ht u0 u1 o0 o1;rw[hln]at c3;have hoff:iT n u:=⟨hno,u0,u1⟩;have hr:fx n u v:=⟨hoff,by omega,by omega⟩
 obtain⟨_,_,r1,r2⟩:inR .i64 ((cj n u).2.2.2.2.1*(cj n u).2.2.2.2.2.1)/\inR .i64 (ay n u v)/\v<=ay n u v/\ay n u v<=v+960:=sX n.1 n.2.1 n.2.2.1 n.2.2.2.1 n.2.2.2.2.1 n.2.2.2.2.2 hr;have hE:ig n p.2.2.1 o d t=(yg l (iS n p.2.2.1 d (19-l.length) u v)).2:=by unfold ig;rw[hw]
 have hL:lj n p.2.2.1 o d t=(yg l (iS n p.2.2.1 d (19-l.length) u v)).1:=by unfold lj;rw[hw]
 have herr:∀e:Int,e≠0->iS n p.2.2.1 d (19-l.length) u v=([],e)->ig n p.2.2.1 o d t=e:=λe he h=>by rw[hE,h];unfold yg;rw[if_neg he]
 refine⟨λhne=>⟨u0,by rw[c1];exact u1,o0,by rw[c2];exact o1,λhm=>?_,λhm=>⟨hr,λhgt=>?_,λhle=>?_⟩⟩,λhe=>?_⟩
 .rw[herr 170 (by decide) (iy _ hne (hln.trans hm))];exact⟨rfl,rfl⟩
 .have e1:mJ n ln (ay n u v)=1:=if_neg (by unfold bw;rw[qE];omega);rw[herr 1 (by decide) ((jS _ hne (by rw[hln];exact hm) (by rw[hln,e1];decide)).trans (by rw[hln,e1]))];exact⟨rfl,rfl⟩
 .obtain⟨⟨l0,l1⟩,lf⟩:=c3 hm;have hlin:KD n ln:=⟨hno,l0,l1⟩;obtain⟨g1,g2,g3,g4,g5,g6,g7,g8⟩:0<=cn n ln/\cn n ln<n.2.2.2.1.length/\0<=yo n ln/\yo n ln<n.2.2.2.1.length/\0<=yp n ln/\yp n ln<=1439/\1<=fY n ln/\fY n ln<=5000:=wa n.1 n.2.1 n.2.2.1 n.2.2.2.1 n.2.2.2.2.1 n.2.2.2.2.2 hlin;have htm:bw (ay n u v)=true:=by unfold bw;rw[qE];omega
  have eE:mJ n ln (ay n u v)=ic (aj n u) (pF n ln).2.2.2.1 (ay n u v):=by unfold mJ;rw[if_pos htm,lf];rfl
  have eD:nL n ln (ay n u v)=dV (aj n u) (pF n ln).2.2.2.1 (ay n u v):=by unfold nL;rw[if_pos htm,lf];rfl
  have hv:ax (aj n u).1 (aj n u).2.1 (aj n u).2.2=true:=(dZ n.1 n.2.1 n.2.2.1 n.2.2.2.1 n.2.2.2.2.1 n.2.2.2.2.2 hoff).2.2.1;have g5':0<=(pF n ln).2.2.2.1:=g5;have g6':(pF n ln).2.2.2.1<=1439:=g6;have g7':1<=(pF n ln).2.2.2.2.1:=g7;have g8':(pF n ln).2.2.2.2.1<=5000:=g8;refine⟨l0,l1,hoff,⟨hv,by omega,by omega,by omega,by omega⟩,λhz=>?_,λhz=>⟨hz,λh20=>?_,λh20=>?_⟩⟩
  .have hz0:=cB.1 hz;rw[herr _ hz0 ((jS _ hne (by rw[hln];exact hm) (by rw[hln,eE];exact hz0)).trans (by rw[hln,eE]))];exact⟨hz,rfl⟩
  .have hz0:=b9.1 hz;rw[herr 170 (by decide) (by rw[show 19-l.length=0 by omega];exact jR hne (by rw[hln];exact hm) (by rw[hln,eE];exact hz0))];exact⟨rfl,rfl⟩
  .have hz0:=b9.1 hz;obtain⟨b1,b2⟩:=gK hv hz0 g5' g6';have hnx:=iV (n:=n) (nx:=p.2.2.1) (to:=d) (o:=u) (t:=v) (19-(l.length+1)) hne (by rw[hln];exact hm) (by rw[hln,eE];exact hz0);rw[show 19-(l.length+1)+1=19-l.length by omega,hln,eD]at hnx;have lD:(pG n p.1 l).length=l.length:=by unfold pG;rw[vW]
   generalize hq:dV (aj n u) (pF n ln).2.2.2.1 (ay n u v)=q at *;have lA:pG n p.1 (l++[(u,v,q,ln)])=pG n p.1 l++[fC (aj n u).1 q+(2-p.1)]:=by unfold pG aFq;rw[yN];rfl
   have dq:-1000000<=fC (aj n u).1 q/\fC (aj n u).1 q<=1000000:=by
    obtain⟨⟨z1,z2,_,_⟩,_⟩:=cA.1 hv;unfold fC;omega
   refine⟨⟨hv,by omega,by omega⟩,aM (by omega),⟨⟨by rw[qG],by rw[qG,lD];show _+1<=_;omega⟩,by omega,by omega,λx hx=>by rw[vG]at hx;omega⟩,by simp only[qG];omega,aM (by omega),aM (by omega),
    (l++[(u,v,q,ln)],yo n ln,q+fY n ln),⟨⟨hs,ht,g3,g4,o0,o1,by simp only;omega,by simp only;omega⟩,by simp;omega,?_⟩,⟨rfl,rfl,by simp,by rw[lA];simp;omega,by rw[lA,wG]⟩,by simp;omega⟩
   show iS n p.2.2.1 d 19 o t=_;rw[hw,hnx,yf];simp
 .rw[qa _ he]at hE hL;have hL':lj n p.2.2.1 o d t=l++[(u,v,-1,-1)]:=hL;have eG:IA n p o d t=pG n p.1 l:=by unfold IA;rw[hL',List.dropLast_concat]
  have eT:rX n p o d t=v:=by unfold rX;rw[hL'];simp
  have hE':ig n p.2.2.1 o d t=0:=hE;rw[hE',eG,eT];exact⟨rfl,rfl,by omega,rfl⟩
end Go.Eng.Sv
set_option maxRecDepth 100000
noncomputable section
namespace Go.Eng.Sv
open Go.Proofs
def KJ(c:Int×List Bool×Li)(m till:Int): Nat->Int->Li
 | 0,_=>[]
 | f+1,t=>if ic c m t=0 then if dV c m t<till then dV c m t::KJ c m till f (dV c m t+1)else[]else[]
def V6(p:Plan): Nat:=(1440*(p.2.1-p.1)).toNat+1
def Qf(n:Net)(p:Plan)(c o:Int)(f:Nat)(t:Int): Li:=KJ (aj n o) (aN n c).2.1 (1440*p.2.1) f t
def lv(n:Net)(p:Plan)(c o:Int): Li:=Qf n p c o (V6 p) (1440*p.1)
def uf(n:Net)(p:Plan)(c o:Int): Prop:=iT n o/\zv n c/\mW p=true
def wt(n:Net)(p:Plan)(c o:Int)(x:Nat×Int): Prop:=(1440*p.1+x.1<=x.2/\x.2<=1440*p.2.1)/\x.1<=(lv n p c o).length/\(lv n p c o).drop x.1=Qf n p c o (V6 p-x.1) x.2
def aED: AV->AV
 | .pin u a=>.pin u a
 | .yld l=>.yld l
 | _=>.top
def fI(n:Net)(p:Plan)(c o:Int): GQ:=⟨λid y=>match id with
 | 1=>some {α:=Nat×Int,inv:=λx=>wt n p c o x,st:=λx=>⟨put {y.s with tm:=y.s.tm.map aED} [(5,.dat I x.2)],x.1,true⟩,μ:=λx=>Dc (Dh (Dq (Ee 1440 p.2.1) 1) x.2)}
 | _=>none,λ_ _=>none,λid=>id==2⟩
theorem QD(c o:Int)(n:Net)(p:Plan)(hvc:
 let c6:=n.2.1;let c5:=p.2.1;let c4:=n.2.2.1;let c3:=p.2.2;let c1:=n.2.2.2;let c2:=1440*p.1;let c21:=(aj n o);let c22:=(Du c1.2.2 (Dc c) (ByteArray.mk #[],(0:Int),(0:Int))).2.1;let c23:=1440*c5;let c24:=lv n p c o;let c25:=Dj c24;let c26:=c23+1;true/\true/\false=false/\∀(l:Nat) (u:Nat->Value),uf n p c o->inR .i64 c2/\(∃(x:Nat×Int),wt n p c o x/\(l=l/\u 0=u 0/\n.1=n.1/\c6=c6/\c4=c4/\c1.1=c1.1/\c1.2.1=c1.2.1/\c1.2.2=c1.2.2/\p.1=p.1/\c5=c5/\c3.1=c3.1/\c3.2=c3.2/\u 1=u 1/\o=o/\u 2=u 2/\c=c/\c2=x.2/\True)/\0=x.1/\true)/\∀(x:Nat×Int),let c27:=Ec (ic c21 c22 x.2) 0;let c28:=Di c27;let c7:=c28->c28->c28;let c29:=dV c21 c22 x.2;let c30:=Dz c27 true (Ed c29 c23);let c31:=Di c30;let c8:=Dk true c31->c31;let c32:=Dz c30 true (Di true);let c33:=x.1+1;let c34:=c29+1;let c35:=Dz c30 true (Di false);
 wt n p c o x->iT n o/\0<=c/\c<Df c1.2.2/\tZ c21 c22 x.2/\c7/\c7/\c7/\c7/\c7/\(c28->inR .i64 c23)/\c7/\c7/\(Dk true c28->c28)/\(c31->(c31->c31)/\(c31->c31)/\u 0=u 0/\u 1=u 1/\u 2=u 2/\l=l/\true/\lu c24 x.1 c29/\(c8/\(c32->true->c33=c25)/\(c32=false->inR .i64 c34/\∃(y:Nat×Int),wt n p c o y/\((l=l/\u 0=u 0/\n.1=n.1/\c6=c6/\c4=c4/\c1.1=c1.1/\c1.2.1=c1.2.1/\c1.2.2=c1.2.2/\p.1=p.1/\c5=c5/\c3.1=c3.1/\c3.2=c3.2/\u 1=u 1/\o=o/\u 2=u 2/\c=c/\c34=y.2/\True)/\c33=y.1/\true)/\Dc (c26-y.2)<Dc (c26-x.2)))/\c8/\(c35->false->c33=c25)/\(c35=false->inR .i64 c34/\∃(y:Nat×Int),wt n p c o y/\(False/\c33=y.1/\false)/\Dc (c26-y.2)<Dc (c26-x.2)))/\(c31=false->(c31->c31->c31)/\c8/\(c35->true->x.1=c25)/\(c35=false->inR .i64 c34/\∃(y:Nat×Int),wt n p c o y/\((l=l/\u 0=u 0/\n.1=n.1/\c6=c6/\c4=c4/\c1.1=c1.1/\c1.2.1=c1.2.1/\c1.2.2=c1.2.2/\p.1=p.1/\c5=c5/\c3.1=c3.1/\c3.2=c3.2/\u 1=u 1/\o=o/\u 2=u 2/\c=c/\c34=y.2/\True)/\x.1=y.1/\true)/\Dc (c26-y.2)<Dc (c26-x.2)))):
  evL (mkc KW3) (fI n p c o) 206 [.ipv (.ips (wHd n p .top)),.ip I o,.ip I c] ⟨uf n p c o,I,lv n p c o⟩:=oE hvc
theorem XC(c o:Int)(n:Net)(p:Plan): GK Tryz.prog G0 206 [.ipv (.ips (wHd n p .top)),.ip I o,.ip I c] ⟨uf n p c o,I,lv n p c o⟩:=by
 refine FH (c:=mkc KW3) (A:=fI n p c o) Z3 aJ hm (QD c o n p ⟨rfl,rfl,rfl,λl u ⟨hoff,hcl,hR⟩=>?_⟩);have eN:(n.1,n.2.1,n.2.2.1,n.2.2.2.1,n.2.2.2.2.1,n.2.2.2.2.2)=n:=rfl;have eC:∀c:Int×List Bool×Li,(c.1,c.2.1,c.2.2)=c:=λ_=>rfl
 have eK:n.2.2.2.2.2.getD c.toNat (⟨#[]⟩,0,0)=aN n c:=rfl;have hR':0<=p.1/\p.1<p.2.1/\p.2.1<=600/\p.2.1-p.1<=60:=wF hR;have hv:ax (aj n o).1 (aj n o).2.1 (aj n o).2.2=true:=(dZ n.1 n.2.1 n.2.2.1 n.2.2.2.1 n.2.2.2.2.1 n.2.2.2.2.2 hoff).2.2.1;obtain⟨⟨m0,m1⟩,_⟩:=lg n.1 n.2.1 n.2.2.1 n.2.2.2.1 n.2.2.2.2.1 n.2.2.2.2.2 hoff.1 hcl;have m0:0<=(aN n c).2.1:=m0;have m1:(aN n c).2.1<=1439:=m1
 simp only[qc,Dk,Di,qd,Ec,Ed,Df,Dc,Dj,Du,eK,zZ,yC,vT,xG,false_and,and_false,exists_false,qCr];obtain⟨q,hq⟩:∃q,q=1440*p.1:=⟨_,rfl⟩;obtain⟨r,hr⟩:∃r,r=1440*p.2.1:=⟨_,rfl⟩;refine⟨aM (by omega),⟨(0,1440*p.1),⟨⟨by simp only;omega,by simp only;omega⟩,wU _,rfl⟩,rfl,rfl⟩,?_⟩
 rintro⟨k,t⟩ ⟨⟨t0,t1⟩,k1,hk⟩;simp only at t0 t1 k1 hk ⊢;have hU:V6 p-k=(V6 p-(k+1))+1:=by unfold V6;omega
 have hst:Qf n p c o (V6 p-k) t=if ic (aj n o) (aN n c).2.1 t=0 then if dV (aj n o) (aN n c).2.1 t<1440*p.2.1 then dV (aj n o) (aN n c).2.1 t::Qf n p c o (V6 p-(k+1)) (dV (aj n o) (aN n c).2.1 t+1)else[]else[]:=by rw[hU];rfl
 rw[hst]at hk;have hlen:∀{l:Li},(lv n p c o).drop k=l->(lv n p c o).length=k+l.length:=λh=>by
  have:=yA List.length h;rw[vY]at this;omega
 refine⟨hoff,hcl.1,hcl.2,⟨hv,m0,by omega,by omega,by omega⟩,λ_=>aM (by omega),λ⟨h1,h2⟩=>?_,λh _=>?_⟩
 .have h2':dV (aj n o) (aN n c).2.1 t<1440*p.2.1:=by omega
  obtain⟨b1,b2⟩:=gK hv h1 m0 m1;rw[if_pos h1,if_pos h2']at hk;have hl:=hlen hk;rw[wV]at hl;refine⟨?_,λh=>absurd h (by omega),λ_=>⟨aM (by omega),(k+1,dV (aj n o) (aN n c).2.1 t+1),⟨⟨by simp only;omega,by simp only;omega⟩,by simp only;omega,?_⟩,⟨rfl,rfl⟩,by simp only;omega⟩⟩
  .show(lv n p c o)[k]?=some _;have:=yA (λl=>l[0]?) hk;simpa[qY]using this
  .show(lv n p c o).drop (k+1)=_;have:=yA (List.drop 1) hk
   rwa [yG]at this
 .have:(lv n p c o).drop k=[]:=by
   rw[hk];by_cases h1:ic (aj n o) (aN n c).2.1 t=0
   .rw[if_pos h1,if_neg (by omega)]
   .rw[if_neg h1]
  have hl:=hlen this;rw[yO]at hl;omega
theorem O1{n:Net}{p:Plan}{c o:Int}(h:uf n p c o): (lv n p c o).length<=86401:=by
 have hR:0<=p.1/\p.1<p.2.1/\p.2.1<=600/\p.2.1-p.1<=60:=wF h.2.2;have:∀(f:Nat) (t:Int),(Qf n p c o f t).length<=f:=λf=>by
  induction f with
  | zero=>intro t;exact qJ _
  | succ f ih=>
   intro t;have e:Qf n p c o (f+1) t=if ic (aj n o) (aN n c).2.1 t=0 then if dV (aj n o) (aN n c).2.1 t<1440*p.2.1 then dV (aj n o) (aN n c).2.1 t::Qf n p c o f (dV (aj n o) (aN n c).2.1 t+1)else[]else[]:=rfl
   rw[e];split
   .split
    .rw[wV];exact qCc (ih _)
    .exact wU _
   .exact wU _
 refine wE (this _ _) ?_;unfold V6;omega
theorem O0{n:Net}{p:Plan}{c o x:Int}(h:uf n p c o)(hx:x∈lv n p c o): 1440*p.1<=x/\x<1440*p.2.1:=by
 have hv:ax (aj n o).1 (aj n o).2.1 (aj n o).2.2=true:=(dZ n.1 n.2.1 n.2.2.1 n.2.2.2.1 n.2.2.2.2.1 n.2.2.2.2.2 h.1).2.2.1;obtain⟨⟨m0,m1⟩,_⟩:=lg n.1 n.2.1 n.2.2.1 n.2.2.2.1 n.2.2.2.2.1 n.2.2.2.2.2 h.1.1 h.2.1;have m0:0<=(aN n c).2.1:=m0;have m1:(aN n c).2.1<=1439:=m1;have:∀(f:Nat) (t:Int),x∈Qf n p c o f t->t<=x/\x<1440*p.2.1:=λf=>by
  induction f with
  | zero=>intro t h;cases h
  | succ f ih=>
   intro t h;have e:Qf n p c o (f+1) t=if ic (aj n o) (aN n c).2.1 t=0 then if dV (aj n o) (aN n c).2.1 t<1440*p.2.1 then dV (aj n o) (aN n c).2.1 t::Qf n p c o f (dV (aj n o) (aN n c).2.1 t+1)else[]else[]:=rfl
   rw[e]at h;split at h
   .rename_i he;obtain⟨b1,b2⟩:=gK hv he m0 m1;split at h
    .rcases zJ.1 h with rfl | h
     .exact⟨b1,by assumption⟩
     .have:=ih _ h;omega
    .cases h
   .cases h
 exact this _ _ hx
end Go.Eng.Sv
set_option maxRecDepth 100000
noncomputable section
namespace Go.Eng.Sv
open Go.Proofs
def lY(p:Plan)(k o d:Int): Int:=((p.2.2.2.getD k.toNat []).getD o.toNat []).getD d.toNat 0
def aCU(n:Net)(p:Plan)(o d cut:Int): Int:=ay n d (rX n p o d cut)
def ZX(n:Net)(p:Plan)(c o d cut:Int): Int:=dV (aj n d) (aN n c).2.2 (aCU n p o d cut)
def Ai(n:Net)(p:Plan)(c o d cut:Int): Int:=ic (aj n d) (aN n c).2.2 (aCU n p o d cut)
def KN(n:Net)(p:Plan)(c o d cut:Int): Int:=lZ (aj n d).2.1 (aj n d).2.2 (fC (aj n d).1 cut) (fC (aj n d).1 (ZX n p c o d cut))
def DD(n:Net)(p:Plan)(c o d cut:Int): Int:=if ig n p.2.2.1 o d cut≠0 then ig n p.2.2.1 o d cut else if Ai n p c o d cut≠0 then Ai n p c o d cut else if KN n p c o d cut>lY p c o d then 190 else 0
def HZ(l:Li): Int:=(l.find? λe=>decide (e≠0)).getD 0
def iU(n:Net)(p:Plan)(c o d:Int): Int:=HZ ((lv n p c o).map (DD n p c o d))
def nz(n:Net)(p:Plan)(c o d:Int)(j:Nat): Li:=((lv n p c o).take j).flatMap (IA n p o d)
def keepA(n:Net)(p:Plan)(c o d:Int): Li:=nz n p c o d (lv n p c o).length
def rA(n:Net)(p:Plan): Prop:=aO n=true/\gb n p=true
def mZ(n:Net)(p:Plan)(c o d:Int)(k:Nat)(xs:Li): Prop:=(rA n p/\zv n c/\iT n o/\iT n d)/\xs.length=k/\xs.length<=900000000000
def qz(n:Net)(p:Plan)(c o d:Int)(k:Nat)(xs:Li)(j:Nat): Prop:=mZ n p c o d k xs/\j<=(lv n p c o).length/\∀i:Nat,i<j->DD n p c o d ((lv n p c o).getD i 0)=0
def KIW: FuncId->List AV->Option jr:=λf caps=>if f=206+uN then match caps with
  | [.ipv x,.ip (.int .i64) o,.ip (.int .i64) c]=>match asI x with
   | some (n,p)=>some ⟨uf n p c o,I,lv n p c o⟩
   | none=>none
  | _=>none
 else none
def KW6: Kt:=kOr 135 (wK [.mp 2,.val I,.val I,.val I] (λ(_,o,d,t,_) n p k xs=>xb n p o d t k xs/\isZero (ig n p.2.2.1 o d t)=true) (λ(_,o,d,t,_) n p=>.dat I (rX n p o d t)) λ(_,o,d,t,_) n p=>IA n p o d t) KW4
def aFc: KPt:=pOr 135 (wP [.mp 2,.val I,.val I,.val I] λ(_,o,d,t,_) n p k xs=>⟨xb n p o d t k xs,isZero (ig n p.2.2.1 o d t),uH 39 (ig n p.2.2.1 o d t)⟩) aFd
noncomputable def aCk: Cfg:=⟨Tryz.prog,G0,KW6,λ_=>false,KIW,true,aFc,λf=>f==137||f==135⟩
def Z8(n:Net)(p:Plan)(c o d:Int)(k:Nat)(xs:Li): Ann:=⟨λid s=>match id with
 | 2=>some {α:=Nat,inv:=λj=>qz n p c o d k xs j,st:=λj=>{flat s with mem:=mN n p (Eb (Dj xs) (Dj (nz n p c o d j))) (Ef xs (nz n p c o d j))},μ:=λj=>j}
 | _=>none,λ_ _=>none,λ_ _=>none⟩
theorem QA(c o d:Int)(k:Nat)(xs:Li)(n:Net)(p:Plan)(hvc:
 let c10:=Ty.int IntKind.i64;let c9:=Ty.int .i64;let c7:=n.2.1;let c6:=p.2.1;let c5:=n.2.2.1;let c4:=p.2.2;let c3:=n.2.2.2;let c8:=AV.ips [AV.dat (c9.pair (Ty.bool.sl.pair c9.sl)).sl n.1,AV.dat Ty.str.sl c7,AV.dat Ty.str.sl c5,AV.dat (Ty.str.pair (c9.pair (c9.pair (c9.pair (c9.pair (c10.pair Ty.str.sl)))))).sl c3.1,AV.dat (Ty.str.pair (c9.pair (c9.pair (c9.pair (c10.pair c9))))).sl c3.2.1,AV.dat (Ty.str.pair (c9.pair c9)).sl c3.2.2,AV.dat c9 p.1,AV.dat c9 c6,AV.dat c9.sl.sl c4.1,AV.dat c9.sl.sl.sl c4.2,AV.top];let c1:=keepA n p c o d;let c2:=Ef xs c1;let c21:=lv n p c o;let c22:=iU n p c o d;let c23:=isZero c22;let c24:=chainOf (Value.iface 39 (Value.int .i64 c22));let c25:=aj n d;let c31:=(Du c3.2.2 (Dc c) (ByteArray.mk #[],(0:Int),(0:Int))).2.2;let c32:=Du c4.2 (Dc c) (Dt (Li));let c33:=Du c32 (Dc o) [];true/\(mZ n p c o d k xs->1=1/\Dj xs<=Dj c2/\True/\true/\(∀(x:Nat),qz n p c o d k xs x->some [c8.ipv,AV.ip c9 o,AV.ip c9 c]=some [c8.ipv,AV.ip c9 o,AV.ip c9 c])/\uf n p c o/\(∃x,let c34:=nz n p c o d x;qz n p c o d k xs x/\x=0/\1=1/\0=0/\0=0/\c=c/\o=o/\d=d/\1=1/\0=0/\0=0/\c=c/\o=o/\d=d/\1=1/\0=0/\0=0/\c=c/\o=o/\1=1/\0=0/\0=0/\o=o/\c=c/\n.1=n.1/\c7=c7/\c5=c5/\c3.1=c3.1/\c3.2.1=c3.2.1/\c3.2.2=c3.2.2/\p.1=p.1/\c6=c6/\c4.1=c4.1/\c4.2=c4.2/\k=Dj xs+Dj c34/\xs=Ef xs c34/\1=1/\Dj xs=Dj xs/\True)/\(∀(x:Nat),let c35:=nz n p c o d x;let c36:=Dj xs+Dj c35;let c37:=Ef xs c35;∀(y:Int),let c38:=ig n c4.1 o d y;let c39:=isZero c38;let c40:=IA n p o d y;let c41:=Ef c37 c40;let c42:=rX n p o d y;let c43:=ay n d c42;let c44:=ic c25 c31 c43;
 let c45:=isZero c44;let c46:=dV c25 c31 c43;let c47:=fC c25.1 c46;let c48:=Ei (lZ c25.2.1 c25.2.2 (fC c25.1 y) c47) (Du c33 (Dc d) 0);qz n p c o d k xs x->lu c21 x y->(true->xb n p o d y c36 c37/\(c39=false->c23=false/\true/\chainOf (Value.iface 39 (Value.int .i64 c38))=c24))/\((true->c39)->(xb n p o d y c36 c37/\c39)/\1=1/\Dj c37<=Dj c41/\iT n d/\1=1/\0=0/\1=1/\0=0/\1=1/\1=1/\1=1/\1=1/\0=0/\0<=c/\c<Df c3.2.2/\fx n d c42/\tZ c25 c31 c43/\True/\(c45->1=1/\0=0/\1=1/\1=1/\1=1/\1=1/\0=0/\0<=c/\c<Df c3.2.2/\fx n d c42/\tZ c25 c31 c43/\(True/\c45)/\1=1/\0=0/\ga c25.1 c25.2.1 c25.2.2 y/\1=1/\0=0/\ga c25.1 c25.2.1 c25.2.2 c46/\1=1/\0=0/\countP c25.1 c25.2.1 c25.2.2 (fC c25.1 y) c47/\1=1/\1=1/\1=1/\1=1/\0=0/\0<=c/\c<Df c4.2/\0<=o/\o<Df c32/\0<=d/\d<Df c33/\(c48->(true->True/\(false=false->c23=false/\true/\chainOf (Value.iface 39 (Value.int .i64 (190:Int)))=c24))/\True)/\(c48=false->∃z,let c49:=nz n p c o d z;qz n p c o d k xs z/\z=x+1/\1=1/\0=0/\0=0/\c=c/\o=o/\d=d/\1=1/\0=0/\0=0/\c=c/\o=o/\d=d/\1=1/\0=0/\0=0/\c=c/\o=o/\1=1/\0=0/\0=0/\o=o/\c=c/\n.1=n.1/\c7=c7/\c5=c5/\c3.1=c3.1/\c3.2.1=c3.2.1/\c3.2.2=c3.2.2/\p.1=p.1/\c6=c6/\c4.1=c4.1/\c4.2=c4.2/\c36+Dj c40=Dj xs+Dj c49/\c41=Ef xs c49/\1=1/\Dj xs=Dj xs/\True))/\(c45=false->c23=false/\true/\chainOf (Value.iface 39 (Value.int .i64 c44))=c24)))/\∀(x:Nat),let c50:=nz n p c o d x;qz n p c o d k xs x->x=Dj c21->c23/\n.1=n.1/\c7=c7/\c5=c5/\c3.1=c3.1/\c3.2.1=c3.2.1/\c3.2.2=c3.2.2/\p.1=p.1/\c6=c6/\c4.1=c4.1/\c4.2=c4.2/\Dj xs+Dj c50=k+Dj c1/\Ef xs c50=c2/\1=1/\Dj xs=Dj xs/\True)):
  evM aCk (Z8 n p c o d k xs) 68 [.ptr 2 1 0 0,.dat I c,.dat I o,.dat I d] (mN n p k xs) (.tup []) (mN n p (Eb k (Dj (keepA n p c o d))) (Ef xs (keepA n p c o d))) ⟨mZ n p c o d k xs,isZero (iU n p c o d),uH 39 (iU n p c o d)⟩:=oE hvc
theorem zb{l:Li}{j:Nat}(hj:j<l.length)(h0:∀i:Nat,i<j->l.getD i 0=0)(h1:l.getD j 0≠0): HZ l=l.getD j 0:=by
 induction l generalizing j with
 | nil=>simp at hj
 | cons x l ih=>
  unfold HZ;rw[qBi];cases j with
  | zero=>
   have:x≠0:=h1;rw[qV this];rfl
  | succ j=>
   have hx:x=0:=h0 0 (by omega);rw[vH (by rw[hx];decide)];exact ih (by simpa using hj) (λi hi=>by simpa using h0 (i+1) (by omega)) (by simpa using h1)
theorem oN{l:Li}(h:∀i:Nat,i<l.length->l.getD i 0=0): HZ l=0:=by
 unfold HZ;have:l.find? (λe=>decide (e≠0))=none:=by
  rw[qBp];intro x hx;obtain⟨i,hi,rfl⟩:=wX.1 hx;have:=h i hi;rw[qA,qB hi,qQ]at this;simp[this]
 rw[this];rfl
theorem ko{l:Li}(h:HZ l=0): ∀x∈l,x=0:=by
 intro x hx;obtain⟨i,hi,rfl⟩:=wX.1 hx;induction i using Nat.strongRecOn with
 | ind i ih=>
  have e:∀j (hj:j<l.length),l.getD j 0=l[j]:=λj hj=>by rw[qA,qB hj,qQ]
  rw[<- e i hi];refine Decidable.byContradiction λhne=>?_
  have:=zb hi (λj hj=>by rw[e j (by omega)];exact ih j hj (by omega) (wM _)) hne;exact hne (this.symm.trans h)
theorem iw{n:Net}{p:Plan}(h:gb n p=true): mW p=true/\lr n p.2.2.1=true/\pR n p=true:=by
 unfold gb at h;simpa only[qC]using h
theorem OX{n:Net}{p:Plan}(h:pR n p=true){c o d:Int}(hc:zv n c)(o0:0<=o)(o1:o<n.2.2.2.1.length)(d0:0<=d)(d1:d<n.2.2.2.1.length):
  (c<p.2.2.2.length/\o<(p.2.2.2.getD c.toNat []).length/\d<((p.2.2.2.getD c.toNat []).getD o.toNat []).length)/\-1<=lY p c o d/\lY p c o d<=65518:=by
 obtain⟨c0,c1⟩:=hc;unfold pR at h;simp only[qC,qE,qM]at h;obtain⟨h1,h2⟩:=h;have h3:=h2 _ (getD_mem (l:=p.2.2.2) (i:=c.toNat) (d:=[]) (by omega));have h4:((p.2.2.2.getD c.toNat []).length:Int)=n.2.2.2.1.length:=by
  unfold sgF at h3;simp only[qC,qE]at h3;exact h3.1
 have h5:=(AU h4).1 h3 o.toNat (by omega);have h6:(((p.2.2.2.getD c.toNat []).getD o.toNat []).length:Int)=n.2.2.2.1.length:=by
  unfold sgR at h5;simp only[qC,qE]at h5;exact h5.1
 have h7:gP ((o.toNat:Nat):Int) (lY p c o d)=true:=(D4 h6).1 h5 d.toNat (by omega);unfold gP ud at h7;rw[qE]at h7;exact⟨⟨by omega,by omega,by omega⟩,h7⟩
theorem DI{n:Net}{nx:Lj}{to:Int}: ∀(k:Nat) (o t:Int),Am n nx o to t->(iS n nx to k o t).2=0->
  (iS n nx to k o t).1.length<=k+1/\(iS n nx to k o t).1≠[]/\t<=((iS n nx to k o t).1.getLastD (0,0,0,0)).2.1/\((iS n nx to k o t).1.getLastD (0,0,0,0)).2.1<=2200000
 | k,o,t,hp,h=>by
  obtain⟨hs,ht,u0,u1,o0,o1,v0,v1⟩:=id hp;by_cases he:o=to
  .rw[qa k he];exact⟨by simp,by simp,qL _,v1⟩
  by_cases hm:nxt nx o to=-1
  .rw[iy k he hm]at h;cases h
  by_cases h6:mJ n (nxt nx o to) (ay n o t)=0
  case neg=>rw[jS k he hm h6]at h;exact absurd h h6
  cases k with
  | zero=>rw[jR he hm h6]at h;cases h
  | succ k=>
   have hno:noF n=true:=aX n.1 n.2.1 n.2.2.1 n.2.2.2.1 n.2.2.2.2.1 n.2.2.2.2.2 hs;obtain⟨_,_,c3⟩:(nx.length:Int)=n.2.2.2.1.length/\((nx.getD o.toNat []).length:Int)=n.2.2.2.1.length/\(nxt nx o to≠-1->(0<=nxt nx o to/\nxt nx o to<n.2.2.2.2.1.length)/\cn n (nxt nx o to)=o):=i9 n.1 n.2.1 n.2.2.1 n.2.2.2.1 n.2.2.2.2.1 n.2.2.2.2.2 ht u0 u1 o0 o1;obtain⟨⟨l0,l1⟩,lf⟩:=c3 hm
   have hlin:KD n (nxt nx o to):=⟨hno,l0,l1⟩;obtain⟨g1,g2,g3,g4,g5,g6,g7,g8⟩:0<=cn n (nxt nx o to)/\cn n (nxt nx o to)<n.2.2.2.1.length/\0<=yo n (nxt nx o to)/\yo n (nxt nx o to)<n.2.2.2.1.length/\0<=yp n (nxt nx o to)/\yp n (nxt nx o to)<=1439/\1<=fY n (nxt nx o to)/\fY n (nxt nx o to)<=5000:=wa n.1 n.2.1 n.2.2.1 n.2.2.2.1 n.2.2.2.2.1 n.2.2.2.2.2 hlin
   obtain⟨b1,b2,b3,b4⟩:0<=ay n o t/\ay n o t<=2000000/\ay n o t<=nL n (nxt nx o to) (ay n o t)/\nL n (nxt nx o to) (ay n o t)<=ay n o t+90000:=pQ n.1 n.2.1 n.2.2.1 n.2.2.2.1 n.2.2.2.2.1 n.2.2.2.2.2 hlin h6
   obtain⟨_,_,r1,r2⟩:inR .i64 ((cj n o).2.2.2.2.1*(cj n o).2.2.2.2.2.1)/\inR .i64 (ay n o t)/\t<=ay n o t/\ay n o t<=t+960:=sX n.1 n.2.1 n.2.2.1 n.2.2.2.1 n.2.2.2.2.1 n.2.2.2.2.2 ⟨⟨hno,u0,u1⟩,by omega,by omega⟩;rw[iV k he hm h6]at h ⊢;by_cases h7:(iS n nx to k (yo n (nxt nx o to)) (nL n (nxt nx o to) (ay n o t)+fY n (nxt nx o to))).2=0
   case neg=>rw[rH h7]at h;exact absurd h h7
   obtain⟨i1,i2,i3,i4⟩:=DI k _ _ ⟨hs,ht,g3,g4,o0,o1,by omega,by omega⟩ h7;rw[EG h7];refine⟨by simp;omega,by simp,?_,?_⟩
   .show t<=(([_]++(iS n nx to k _ _).1).getLastD (0,0,0,0)).2.1;rw[List.singleton_append,List.getLastD_cons,yZ,kR i2];rw[yZ,kR i2]at i3;simp only[qQ]at i3 ⊢;omega
   .show(([_]++(iS n nx to k _ _).1).getLastD (0,0,0,0)).2.1<=_;rw[List.singleton_append,List.getLastD_cons,yZ,kR i2];rw[yZ,kR i2]at i4;exact i4
theorem GR{n:Net}{p:Plan}{o d t:Int}(hp:Am n p.2.2.1 o d t)(h:ig n p.2.2.1 o d t=0): (IA n p o d t).length<=19/\t<=rX n p o d t/\rX n p o d t<=2200000:=by
 obtain⟨h1,_,h3,h4⟩:=DI 19 o t hp h;refine⟨?_,h3,h4⟩;unfold IA pG;rw[vW,List.length_dropLast];show(iS n p.2.2.1 d 19 o t).1.length-1<=19;omega
theorem OZ{n:Net}{p:Plan}{c o d x:Int}(hp:rA n p)(hc:uf n p c o)(hd:iT n d)(hx:x∈lv n p c o): Am n p.2.2.1 o d x:=by
 obtain⟨b1,b2⟩:=O0 hc hx;have hR:0<=p.1/\p.1<p.2.1/\p.2.1<=600/\p.2.1-p.1<=60:=wF hc.2.2;exact⟨hp.1,(iw hp.2).2.1,hc.1.2.1,hc.1.2.2,hd.2.1,hd.2.2,by omega,by omega⟩
theorem UE{n:Net}{p:Plan}{c o d x:Int}(h:DD n p c o d x=0): ig n p.2.2.1 o d x=0/\Ai n p c o d x=0/\KN n p c o d x<=lY p c o d:=by
 unfold DD at h;by_cases h1:ig n p.2.2.1 o d x=0
 .rw[if_neg (λg=>g h1)]at h;by_cases h2:Ai n p c o d x=0
  .rw[if_neg (λg=>g h2)]at h;split at h
   .cases h
   .exact⟨h1,h2,by omega⟩
  .rw[if_pos h2]at h;exact absurd h h2
 .rw[if_pos h1]at h;exact absurd h h1
theorem tN{n:Net}{p:Plan}{c o d:Int}{k:Nat}{xs:Li}: ∀{j:Nat},qz n p c o d k xs j->(nz n p c o d j).length<=19*j
 | 0,_=>by unfold nz;simp
 | j+1,⟨hp,hj,h0⟩=>by
  have ih:=tN (j:=j) ⟨hp,by omega,λi hi=>h0 i (by omega)⟩;have hc:uf n p c o:=⟨hp.1.2.2.1,hp.1.2.1,(iw hp.1.1.2).1⟩;have hm:(lv n p c o).getD j 0∈lv n p c o:=getD_mem (by omega);have:=(GR (OZ hp.1.1 hc hp.1.2.2.2 hm) (UE (h0 j (by omega))).1).1;unfold nz at ih ⊢;rw[wW,qAf,qG,qB (show j<(lv n p c o).length by omega)];rw[qA,qB (show j<(lv n p c o).length by omega),qQ]at this
  simp only[qBm,gJ,qDe,wH];omega
theorem aGj: ak Tryz.prog G0 KW6:=ai (Qs λ(_,o,d,t,_) n p k xs=>(Vr o d t k xs n p).1) aDb
theorem P3: bO Tryz.prog G0 aFc:=iH (gE λ(_,o,d,t,_) n p k xs=>(Vr o d t k xs n p).2) P4
theorem ZH{P:Program}{G:List (Nat×AV)}{g N:Nat}{caps:List AV}{it:jr}(h:GK P G g caps it): if g+N<N then mR P G (g+N) caps it else GK P G (g+N-N) caps it:=by
 rw[if_neg (by omega),Nat.add_sub_cancel];exact h
theorem aCF: bv Tryz.prog G0 KIW:=by
 unfold bv KIW;generalize uN=N;intro f caps it h;split at h
 case isFalse=>cases h
 rename_i hf;split at h
 case h_2=>cases h
 rename_i x o c;split at h
 case h_2=>cases h
 rename_i n p hx;cases h;subst hf;rw[Wc hx];exact ZH (XC c o n p)
theorem L2(c o d:Int)(k:Nat)(xs:Li)(n:Net)(p:Plan): af Tryz.prog G0 68 [.ptr 2 1 0 0,.dat I c,.dat I o,.dat I d] (mN n p k xs) ⟨mZ n p c o d k xs/\isZero (iU n p c o d)=true,.tup [],mN n p (Eb k (Dj (keepA n p c o d))) (Ef xs (keepA n p c o d))⟩/\
  da Tryz.prog G0 68 [.ptr 2 1 0 0,.dat I c,.dat I o,.dat I d] (mN n p k xs) ⟨mZ n p c o d k xs,isZero (iU n p c o d),uH 39 (iU n p c o d)⟩:=by
 refine cC (c:=aCk) aGj aCF hm P3 (QA c o d k xs n p ⟨rfl,λhp=>?_⟩);have eN:(n.1,n.2.1,n.2.2.1,n.2.2.2.1,n.2.2.2.2.1,n.2.2.2.2.2)=n:=rfl;have eP:(p.1,p.2.1,p.2.2.1,p.2.2.2)=p:=rfl;have eC:∀c:Int×List Bool×Li,(c.1,c.2.1,c.2.2)=c:=λ_=>rfl
 have eK:n.2.2.2.2.2.getD c.toNat (⟨#[]⟩,0,0)=aN n c:=rfl;have eA:((p.2.2.2.getD c.toNat []).getD o.toNat []).getD d.toNat 0=lY p c o d:=rfl;simp only[qc,qd,Dt,Ei,Df,Dc,Dj,Du,Ef,eK,eA];obtain⟨⟨hpl,hcl,ho,hd⟩,hk,hxl⟩:=id hp;obtain⟨hR,hT,hDy⟩:=iw hpl.2;have hc:uf n p c o:=⟨ho,hcl,hR⟩
 have hR':0<=p.1/\p.1<p.2.1/\p.2.1<=600/\p.2.1-p.1<=60:=wF hR;have hlen:=O1 hc;have hv:ax (aj n d).1 (aj n d).2.1 (aj n d).2.2=true:=(dZ n.1 n.2.1 n.2.2.1 n.2.2.2.1 n.2.2.2.2.1 n.2.2.2.2.2 hd).2.2.1;obtain⟨⟨z1,z2,_,_⟩,_⟩:=cA.1 hv;obtain⟨_,⟨m0,m1⟩⟩:=lg n.1 n.2.1 n.2.2.1 n.2.2.2.1 n.2.2.2.2.1 n.2.2.2.2.2 hd.1 hcl;have m0:0<=(aN n c).2.2:=m0;have m1:(aN n c).2.2<=1439:=m1
 obtain⟨⟨q1,q2,q3⟩,q4⟩:=OX hDy hcl ho.2.1 ho.2.2 hd.2.1 hd.2.2;have kE:∀(x:Nat),qz n p c o d k xs x->x<(lv n p c o).length->DD n p c o d ((lv n p c o).getD x 0)≠0->iU n p c o d=DD n p c o d ((lv n p c o).getD x 0):=λx hx hl hne=>by
  have eg:∀i:Nat,i<(lv n p c o).length->((lv n p c o).map (DD n p c o d)).getD i 0=DD n p c o d ((lv n p c o).getD i 0):=λi hi=>by
   rw[qA,qP,qA,qB hi];rfl
  unfold iU;rw[zb (j:=x) (by rw[vW];exact hl) (λi hi=>by rw[eg i (by omega)];exact hx.2.2 i hi) (by rw[eg x hl];exact hne),eg x hl]
 refine⟨by rw[qG];omega,hc,⟨0,⟨hp,wU _,λi hi=>by omega⟩,rfl,by rw[hk];rfl,(wH _).symm⟩,λx y hx hy=>?_,λx hx hl=>?_⟩
 .have hy:(lv n p c o)[x]?=some y:=hy;have hxl2:x<(lv n p c o).length:=(qF.1 hy).1;have ey:(lv n p c o).getD x 0=y:=by rw[qA,hy];rfl
  have hym:y∈lv n p c o:=zD hy;have kE:=kE x hx hxl2;rw[ey]at kE;obtain⟨y0,y1⟩:=O0 hc hym;have hgl:=tN hx;have hwP:=OZ hpl hc hd hym;have hW:xb n p o d y (xs.length+(nz n p c o d x).length) (xs++nz n p c o d x):=⟨hwP,⟨by omega,by omega⟩,by rw[qG],by rw[qG];omega⟩;refine⟨⟨hW,λhz=>?_⟩,λhz=>?_⟩
  .have hz0:=cB.1 hz;have e:DD n p c o d y=ig n p.2.2.1 o d y:=if_pos hz0;rw[kE (by rw[e];exact hz0),e];exact⟨hz,rfl⟩
  .have hz0:=b9.1 hz;obtain⟨_,w1,w2⟩:=GR hwP hz0;have hr:fx n d (rX n p o d y):=⟨hd,by omega,by omega⟩;obtain⟨_,_,r1,r2⟩:inR .i64 ((cj n d).2.2.2.2.1*(cj n d).2.2.2.2.2.1)/\inR .i64 (ay n d (rX n p o d y))/\rX n p o d y<=ay n d (rX n p o d y)/\ay n d (rX n p o d y)<=rX n p o d y+960:=sX n.1 n.2.1 n.2.2.1 n.2.2.2.1 n.2.2.2.2.1 n.2.2.2.2.2 hr
   have hf:tZ (aj n d) (aN n c).2.2 (ay n d (rX n p o d y)):=⟨hv,m0,by omega,by omega,by omega⟩;refine⟨⟨hW,hz⟩,by simp only[qG];omega,hd,hcl.1,hcl.2,hr,hf,λh0=>?_,λh0=>?_⟩
   .have h00:=b9.1 h0;obtain⟨b1,b2⟩:=gK hv h00 m0 m1;have dB:∀t:Int,0<=t->t<=3000000->bM (fC (aj n d).1 t)=true:=λt t0 t1=>gv (by unfold fC;omega) (by unfold fC;omega)
    refine⟨hcl.1,hcl.2,hr,hf,h0,⟨hv,by omega,by omega⟩,⟨hv,by omega,by omega⟩,⟨hv,dB _ (by omega) (by omega),dB _ (by omega) (by omega)⟩,hcl.1,q1,ho.2.1,q2,hd.2.1,q3,λhgt=>?_,λhle=>?_⟩
    .have e:DD n p c o d y=190:=by
      unfold DD;rw[if_neg (λg=>g hz0),if_neg (λg=>g (show Ai n p c o d y=0 from h00)),if_pos (show KN n p c o d y>lY p c o d from hgt)]
     rw[kE (by rw[e];decide),e];exact⟨rfl,rfl⟩
    .have e:DD n p c o d y=0:=by
      unfold DD;rw[if_neg (λg=>g hz0),if_neg (λg=>g (show Ai n p c o d y=0 from h00)),if_neg (show ¬KN n p c o d y>lY p c o d from hle)]
     have eG:nz n p c o d (x+1)=nz n p c o d x++IA n p o d y:=by
      unfold nz;rw[wW,hy,qAf];simp
     refine⟨x+1,⟨hp,hxl2,λi hi=>?_⟩,rfl,by rw[eG,qG];omega,by rw[eG,wG]⟩;by_cases h3:i<x
     .exact hx.2.2 i h3
     .have:i=x:=by omega
      rw[this,ey];exact e
   .have h00:=cB.1 h0;have e:DD n p c o d y=Ai n p c o d y:=by
     unfold DD;rw[if_neg (λg=>g hz0),if_pos (show Ai n p c o d y≠0 from h00)]
    rw[kE (by rw[e];exact h00),e];exact⟨h0,rfl⟩
 .have e:iU n p c o d=0:=by
   unfold iU;refine oN λi hi=>?_
   rw[vW]at hi;rw[qA,qP,qB hi];have:=hx.2.2 i (by omega);rw[qA,qB hi]at this;exact this
  rw[e,hl];exact⟨rfl,by rw[hk];rfl,rfl⟩
end Go.Eng.Sv
set_option maxRecDepth 100000
noncomputable section
namespace Go.Eng.Sv
open Go.Proofs
def up1(r:Li): Li:=upR r 1 (r.length:Int)
def h4N(n:Net)(p:Plan): Li:=[p.1,p.2.1,n.2.2.2.1.length,n.2.2.2.2.2.length]
def h1N(n:Net)(p:Plan)(j:Int): Li:=h4N n p++(p.2.2.1.take j.toNat).flatMap up1
def h2N(n:Net)(p:Plan)(i:Int): Li:=h1N n p p.2.2.1.length++(p.2.2.2.take i.toNat).flatMap λt=>t.flatMap up1
def h3N(n:Net)(p:Plan)(i j:Int): Li:=h2N n p i++((p.2.2.2.getD i.toNat []).take j.toNat).flatMap up1
def hdN(n:Net)(p:Plan): Li:=h2N n p p.2.2.2.length
def zy(n:Net)(p:Plan)(c o d:Int): Li:=if lY p c o d=-1 then[]else keepA n p c o d
def VB(n:Net)(p:Plan)(c o:Int)(k:Nat): Li:=(List.range k).flatMap λd:Nat=>zy n p c o (d:Int)
def Vq(n:Net)(p:Plan)(c:Int)(k:Nat): Li:=(List.range k).flatMap λo:Nat=>VB n p c (o:Int) ((p.2.2.2.getD c.toNat []).getD o []).length
def Zw(n:Net)(p:Plan)(k:Nat): Li:=(List.range k).flatMap λc:Nat=>Vq n p (c:Int) (p.2.2.2.getD c []).length
def Gs(n:Net)(p:Plan)(c o d:Int): Int:=if lY p c o d=-1 then 0 else iU n p c o d
def ZR(n:Net)(p:Plan)(c o:Int)(k:Nat): Int:=HZ ((List.range k).map λd:Nat=>Gs n p c o (d:Int))
def Xx(n:Net)(p:Plan)(c:Int)(k:Nat): Int:=HZ ((List.range k).map λo:Nat=>ZR n p c (o:Int) ((p.2.2.2.getD c.toNat []).getD o []).length)
def Qk(n:Net)(p:Plan)(k:Nat): Int:=HZ ((List.range k).map λc:Nat=>Xx n p (c:Int) (p.2.2.2.getD c []).length)
def EO(n:Net)(p:Plan): Li:=hdN n p++Zw n p p.2.2.2.length
def k1N(n:Net)(p:Plan)(c:Int): Li:=hdN n p++Zw n p c.toNat
def k2N(n:Net)(p:Plan)(c o:Int): Li:=k1N n p c++Vq n p c o.toNat
def k3N(n:Net)(p:Plan)(c o d:Int): Li:=k2N n p c o++VB n p c o d.toNat
def wrE(n:Net)(p:Plan): Int:=if aO n=true/\gb n p=true then if Qk n p p.2.2.2.length≠0 then Qk n p p.2.2.2.length else if(EO n p).length>40000 then 2 else 0 else 1
def wrN(n:Net)(p:Plan): Li:=if wrE n p=0 then EO n p else[]
def wrS(n:Net)(p:Plan): Int:=if wrE n p=0 then Go.Eng.In.nh (EO n p)else 0
def tA(n:Net)(p:Plan)(k:Int): Prop:=rA n p/\0<=k/\k<=p.2.2.1.length
def tB(n:Net)(p:Plan)(i:Int): Prop:=rA n p/\0<=i/\i<=p.2.2.2.length
def tC(n:Net)(p:Plan)(i j:Int): Prop:=(rA n p/\0<=i/\i<p.2.2.2.length)/\0<=j/\j<=(p.2.2.2.getD i.toNat []).length
def t1(n:Net)(p:Plan)(c:Int): Prop:=tB n p c/\Qk n p c.toNat=0
def t2(n:Net)(p:Plan)(c o:Int): Prop:=tC n p c o/\Qk n p c.toNat=0/\Xx n p c o.toNat=0
def t3(n:Net)(p:Plan)(c o d:Int): Prop:=((tC n p c o/\o<(p.2.2.2.getD c.toNat []).length)/\0<=d/\d<=((p.2.2.2.getD c.toNat []).getD o.toNat []).length)/\Qk n p c.toNat=0/\Xx n p c o.toNat=0/\ZR n p c o d.toNat=0
def aBJ(l:List Nat)(s:St): St:={s with tm:=(List.range s.tm.length).map λi=>if l.contains i then aAF (s.tm.getD i .top)else .top}
def ZU(s:St)(l:List Nat)(n:Net)(p:Plan)(sl:List (Tmp×AV))(xs:Li): St:=iE (iE (put (aBJ ([2,3,4,5,6]++l) s) sl) 2 (.var (wHd n p (.buf 3 (Dj xs))))) 3 (.buf 3 I xs [])
def wrA(n:Net)(p:Plan): Ann:=⟨λid s=>match id with
 | 7=>some {α:=Int,inv:=λj=>tA n p j,st:=λj=>ZU s [53,54] n p [(55,.dat I j)] (h1N n p j),μ:=λj=>Dc (Dh (Df p.2.2.1) j)}
 | 12=>some {α:=Int,inv:=λj=>tB n p j,st:=λj=>ZU s [64,65] n p [(66,.dat I j)] (h2N n p j),μ:=λj=>Dc (Dh (Df p.2.2.2) j)}
 | 15=>match s.sig.T 66,s.sig.T 70 with
  | .dat (.int .i64) i,.dat (.sl (.sl (.int .i64))) t=>some {α:=Int,inv:=λj=>tC n p i j,st:=λj=>ZU s [64,65,66,70,71] n p [(72,.dat I j)] (h3N n p i j),μ:=λj=>Dc (Dh (Df t) j)}
  | _,_=>none
 | 21=>some {α:=Int,inv:=λj=>t1 n p j,st:=λj=>ZU s [82,83] n p [(84,.dat I j)] (k1N n p j),μ:=λj=>Dc (Dh (Df p.2.2.2) j)}
 | 24=>match s.sig.T 84,s.sig.T 89 with
  | .dat (.int .i64) c,.dat (.sl (.sl (.int .i64))) t=>some {α:=Int,inv:=λj=>t2 n p c j,st:=λj=>ZU s [82,83,84,13,89,90] n p [(91,.dat I j)] (k2N n p c j),μ:=λj=>Dc (Dh (Df t) j)}
  | _,_=>none
 | 27=>match s.sig.T 84,s.sig.T 91,s.sig.T 96 with
  | .dat (.int .i64) c,.dat (.int .i64) o,.dat (.sl (.int .i64)) t=>some {α:=Int,inv:=λj=>t3 n p c o j,st:=λj=>ZU s [82,83,84,13,89,90,91,15,96,97] n p [(98,.dat I j)] (k3N n p c o j),μ:=λj=>Dc (Dh (Df t) j)}
  | _,_,_=>none
 | _=>none,λid s=>match id with
 | 5=>some (iE (iE (aBJ [2,3,4,5,6] s) 2 (.var (wHd n p (.buf 3 0)))) 3 (.buf 3 I [] []))
 | 36=>some (frz [3] s)
 | _=>none,λ_ _=>none⟩
def KW7: Kt:=kOr 68 (wK [.mp 2,.val I,.val I,.val I] (λ(_,c,o,d,_) n p k xs=>mZ n p c o d k xs/\isZero (iU n p c o d)=true) (λ_ _ _=>.tup []) λ(_,c,o,d,_) n p=>keepA n p c o d) <|
 kOr 65 (az [.ptr N,.ptr Pl] (λ(_,p,_)=>fQ p) λ(n,p,_)=>.dat .bool (gb n p)) <|
 kOr 63 J3 <|
 kOr 36 (az [.val R] (λ(l,_)=>Go.Eng.In.Qb l) λ(l,_)=>.dat I (Go.Eng.In.nh l)) KW5
def aFS: KPt:=pOr 68 (wP [.mp 2,.val I,.val I,.val I] λ(_,c,o,d,_) n p k xs=>⟨mZ n p c o d k xs,isZero (iU n p c o d),uH 39 (iU n p c o d)⟩) aFc
def cWr: Cfg:=mkp KW7 (λt=>t==32) aFS (λf=>f==68)
set_option maxHeartbeats 4000000 in
theorem Qw(cs:LC)(ns os:LB)(fs:Lo)(ls:Ll)(ks:Lk)(p1 p2:Int)(nx:Lj)(dy:List (Lj))(hvc:
 let c1:=(p1,p2,nx,dy);let c2:=(cs,ns,os,fs,ls,ks);let c3:=Ei (Df (fA c2)) 0;let c4:=Di c3;let c5:=Dz c3 true (Di (gb c2 c1));let c6:=wrN c2 c1;let c7:=wrS c2 c1;let c8:=wrE c2 c1;let c9:=[p1,p2,Df fs,Df ks];let c10:=Ef (Dt Int) c9;let c11:=Df dy;(false=false/\true)/\(fQ c1->true/\True/\(c4->fQ c1)/\(c4->c4->c4)/\(Dk true c4->c4)/\(c5->(true->True/\(false=false->true/\true/\(Di false->True/\1=1/\0=0/\1=1/\0=0/\1=1/\0=0/\1=1/\0=0/\c6=Dt Int/\0=c7/\1=c8/\True)/\(Di false=false->1=1/\0=0/\1=1/\0=0/\c6=Dt Int/\0=c7/\0=c8/\True)))/\True)/\(c5=false->c2=c2/\c1=c1/\1=1/\0=0/\0=0/\1=1/\0=0/\0=0/\1=1/\0=0/\0=0/\Value.slice none 0 0=Value.slice none 0 0/\(0:Int)=(0:Int)/\(0:Int)=(0:Int)/\cs=cs/\ns=ns/\os=os/\fs=fs/\ls=ls/\ks=ks/\p1=p1/\p2=p2/\nx=nx/\dy=dy/\0=0/\Dt Int=Dt Int/\Dt Int=Dt Int/\1=1/\0=0/\0=0/\1=1/\0=0/\0=0/\1=1/\1=1/\1=1/\1=1/\0=0/\1=1/\1=1/\1=1/\1=1/\0=0/\(ZO [] 0/\IB [] c9)/\1=1/\Dj (Dt Int)<=Dj c10/\(∃x,tA c2 c1 x/\c1=c1/\1=1/\0=0/\0=0/\1=1/\0=0/\0=0/\1=1/\0=0/\0=0/\nx=nx/\Df nx=Df nx/\0=x/\Value.slice none 0 0=Value.slice none 0 0/\(0:Int)=(0:Int)/\(0:Int)=(0:Int)/\cs=cs/\ns=ns/\os=os/\fs=fs/\ls=ls/\ks=ks/\p1=p1/\p2=p2/\nx=nx/\dy=dy/\0+Dj c9=Dj (h1N c2 c1 x)/\c10=h1N c2 c1 x/\1=1/\0=0/\0=0/\1=1/\0=0/\0=0/\True)/\∀(x:Int),let c12:=Dp x (Df nx);let c13:=Du nx (Dc x) [];let c14:=Dj (h1N c2 c1 x);let c15:=upR c13 1 (Df c13);let c16:=Ef (h1N c2 c1 x) c15;let c17:=x+1;
 tA c2 c1 x->(c12->0<=x/\x<Df nx/\rsP 1 c13 (h1N c2 c1 x) c14/\1=1/\c14<=Dj c16/\inR .i64 c17/\∃y,tA c2 c1 y/\(c1=c1/\1=1/\0=0/\0=0/\1=1/\0=0/\0=0/\1=1/\0=0/\0=0/\nx=nx/\Df nx=Df nx/\c17=y/\Value.slice none 0 0=Value.slice none 0 0/\(0:Int)=(0:Int)/\(0:Int)=(0:Int)/\cs=cs/\ns=ns/\os=os/\fs=fs/\ls=ls/\ks=ks/\p1=p1/\p2=p2/\nx=nx/\dy=dy/\c14+Dj c15=Dj (h1N c2 c1 y)/\c16=h1N c2 c1 y/\1=1/\0=0/\0=0/\1=1/\0=0/\0=0/\True)/\Dc (Df nx-y)<Dc (Df nx-x))/\(c12=false->(∃x_3,tB c2 c1 x_3/\c1=c1/\1=1/\0=0/\0=0/\1=1/\0=0/\0=0/\1=1/\0=0/\0=0/\dy=dy/\c11=c11/\0=x_3/\Value.slice none 0 0=Value.slice none 0 0/\(0:Int)=(0:Int)/\(0:Int)=(0:Int)/\cs=cs/\ns=ns/\os=os/\fs=fs/\ls=ls/\ks=ks/\p1=p1/\p2=p2/\nx=nx/\dy=dy/\c14=Dj (h2N c2 c1 x_3)/\h1N c2 c1 x=h2N c2 c1 x_3/\1=1/\0=0/\0=0/\1=1/\0=0/\0=0/\True)/\∀(x:Int),let c18:=Du dy (Dc x) (Dt (Li));let c19:=Df c18;let c20:=Dj (h2N c2 c1 x);let c21:=x+1;tB c2 c1 x->(Dp x c11->0<=x/\x<c11/\(∃x_5,let c22:=h3N c2 c1 x x_5;tC c2 c1 x x_5/\c1=c1/\1=1/\0=0/\0=0/\1=1/\0=0/\0=0/\1=1/\0=0/\0=0/\dy=dy/\c11=c11/\x=x/\c18=c18/\c19=c19/\0=x_5/\Value.slice none 0 0=Value.slice none 0 0/\(0:Int)=(0:Int)/\(0:Int)=(0:Int)/\cs=cs/\ns=ns/\os=os/\fs=fs/\ls=ls/\ks=ks/\p1=p1/\p2=p2/\nx=nx/\dy=dy/\c20=Dj c22/\h2N c2 c1 x=c22/\1=1/\0=0/\0=0/\1=1/\0=0/\0=0/\True)/\∀(x_5:Int),let c23:=Du c18 (Dc x_5) [];let c24:=h3N c2 c1 x x_5;let c25:=Dj c24;let c26:=upR c23 1 (Df c23);let c27:=Ef c24 c26;let c28:=x_5+1;tC c2 c1 x x_5->(Dp x_5 c19->0<=x_5/\x_5<c19/\rsP 1 c23 c24 c25/\1=1/\c25<=Dj c27/\inR .i64 c28/\∃y,let c29:=h3N c2 c1 x y;
 tC c2 c1 x y/\(c1=c1/\1=1/\0=0/\0=0/\1=1/\0=0/\0=0/\1=1/\0=0/\0=0/\dy=dy/\c11=c11/\x=x/\c18=c18/\c19=c19/\c28=y/\Value.slice none 0 0=Value.slice none 0 0/\(0:Int)=(0:Int)/\(0:Int)=(0:Int)/\cs=cs/\ns=ns/\os=os/\fs=fs/\ls=ls/\ks=ks/\p1=p1/\p2=p2/\nx=nx/\dy=dy/\c25+Dj c26=Dj c29/\c27=c29/\1=1/\0=0/\0=0/\1=1/\0=0/\0=0/\True)/\Dc (c19-y)<Dc (c19-x_5))/\(Dp x_5 c19=false->inR .i64 c21/\∃y,tB c2 c1 y/\(c1=c1/\1=1/\0=0/\0=0/\1=1/\0=0/\0=0/\1=1/\0=0/\0=0/\dy=dy/\c11=c11/\c21=y/\Value.slice none 0 0=Value.slice none 0 0/\(0:Int)=(0:Int)/\(0:Int)=(0:Int)/\cs=cs/\ns=ns/\os=os/\fs=fs/\ls=ls/\ks=ks/\p1=p1/\p2=p2/\nx=nx/\dy=dy/\c25=Dj (h2N c2 c1 y)/\c24=h2N c2 c1 y/\1=1/\0=0/\0=0/\1=1/\0=0/\0=0/\True)/\Dc (c11-y)<Dc (c11-x)))/\(Dp x c11=false->(∃x_5,t1 c2 c1 x_5/\1=1/\0=0/\0=0/\1=1/\0=0/\0=0/\1=1/\0=0/\0=0/\dy=dy/\c11=c11/\0=x_5/\Value.slice none 0 0=Value.slice none 0 0/\(0:Int)=(0:Int)/\(0:Int)=(0:Int)/\cs=cs/\ns=ns/\os=os/\fs=fs/\ls=ls/\ks=ks/\p1=p1/\p2=p2/\nx=nx/\dy=dy/\c20=Dj (k1N c2 c1 x_5)/\h2N c2 c1 x=k1N c2 c1 x_5/\1=1/\0=0/\0=0/\1=1/\0=0/\0=0/\True)/\∀(x:Int),let c30:=Du dy (Dc x) (Dt (Li));let c31:=Df c30;let c32:=Dj (k1N c2 c1 x);let c33:=x+1;let c34:=Int.ofNat c32;let c35:=Ei c34 40000;t1 c2 c1 x->(Dp x c11->0<=x/\x<c11/\(∃x_7,let c36:=k2N c2 c1 x x_7;t2 c2 c1 x x_7/\1=1/\0=0/\0=0/\1=1/\0=0/\0=0/\1=1/\0=0/\0=0/\x=x/\dy=dy/\c11=c11/\x=x/\c30=c30/\c31=c31/\0=x_7/\Value.slice none 0 0=Value.slice none 0 0/\(0:Int)=(0:Int)/\(0:Int)=(0:Int)/\cs=cs/\ns=ns/\os=os/\fs=fs/\ls=ls/\ks=ks/\p1=p1/\p2=p2/\nx=nx/\dy=dy/\c32=Dj c36/\k1N c2 c1 x=c36/\1=1/\0=0/\0=0/\1=1/\0=0/\0=0/\True)/\∀(x_7:Int),let c37:=Du c30 (Dc x_7) [];let c38:=Df c37;
 let c39:=k2N c2 c1 x x_7;let c40:=Dj c39;let c41:=x_7+1;t2 c2 c1 x x_7->(Dp x_7 c31->0<=x_7/\x_7<c31/\(∃x_10,let c42:=k3N c2 c1 x x_7 x_10;t3 c2 c1 x x_7 x_10/\1=1/\0=0/\0=0/\1=1/\0=0/\0=0/\1=1/\0=0/\0=0/\x=x/\x_7=x_7/\dy=dy/\c11=c11/\x=x/\c30=c30/\c31=c31/\x_7=x_7/\c37=c37/\c38=c38/\0=x_10/\Value.slice none 0 0=Value.slice none 0 0/\(0:Int)=(0:Int)/\(0:Int)=(0:Int)/\cs=cs/\ns=ns/\os=os/\fs=fs/\ls=ls/\ks=ks/\p1=p1/\p2=p2/\nx=nx/\dy=dy/\c40=Dj c42/\c39=c42/\1=1/\0=0/\0=0/\1=1/\0=0/\0=0/\True)/\∀(x_10:Int),let c43:=Ec (Du c37 (Dc x_10) 0) (-1);let c44:=k3N c2 c1 x x_7 x_10;let c45:=Dj c44;let c46:=iU c2 c1 x x_7 x_10;let c47:=isZero c46;let c48:=keepA c2 c1 x x_7 x_10;let c49:=Ef c44 c48;let c50:=x_10+1;t3 c2 c1 x x_7 x_10->(Dp x_10 c38->0<=x_10/\x_10<c38/\(c43->(true->mZ c2 c1 x x_7 x_10 c45 c44/\(c47=false->true/\true/\(Di false->True/\1=1/\0=0/\1=1/\0=0/\1=1/\0=0/\1=1/\0=0/\c6=Dt Int/\0=c7/\c46=c8/\True)/\(Di false=false->1=1/\0=0/\1=1/\0=0/\c6=Dt Int/\0=c7/\0=c8/\True)))/\((true->c47)->(mZ c2 c1 x x_7 x_10 c45 c44/\c47)/\1=1/\c45<=Dj c49/\inR .i64 c50/\∃y,let c51:=k3N c2 c1 x x_7 y;t3 c2 c1 x x_7 y/\(1=1/\0=0/\0=0/\1=1/\0=0/\0=0/\1=1/\0=0/\0=0/\x=x/\x_7=x_7/\dy=dy/\c11=c11/\x=x/\c30=c30/\c31=c31/\x_7=x_7/\c37=c37/\c38=c38/\c50=y/\Value.slice none 0 0=Value.slice none 0 0/\(0:Int)=(0:Int)/\(0:Int)=(0:Int)/\cs=cs/\ns=ns/\os=os/\fs=fs/\ls=ls/\ks=ks/\p1=p1/\p2=p2/\nx=nx/\dy=dy/\c45+Dj c48=Dj c51/\c49=c51/\1=1/\0=0/\0=0/\1=1/\0=0/\0=0/\True)/\Dc (c38-y)<Dc (c38-x_10)))/\(c43=false->inR IntKind.i64 c50/\∃y,let c52:=k3N c2 c1 x x_7 y;
 t3 c2 c1 x x_7 y/\(1=1/\0=0/\0=0/\1=1/\0=0/\0=0/\1=1/\0=0/\0=0/\x=x/\x_7=x_7/\dy=dy/\c11=c11/\x=x/\c30=c30/\c31=c31/\x_7=x_7/\c37=c37/\c38=c38/\c50=y/\Value.slice none 0 0=Value.slice none 0 0/\(0:Int)=(0:Int)/\(0:Int)=(0:Int)/\cs=cs/\ns=ns/\os=os/\fs=fs/\ls=ls/\ks=ks/\p1=p1/\p2=p2/\nx=nx/\dy=dy/\c45=Dj c52/\c44=c52/\1=1/\0=0/\0=0/\1=1/\0=0/\0=0/\True)/\Dc (c38-y)<Dc (c38-x_10)))/\(Dp x_10 c38=false->inR .i64 c41/\∃y,let c53:=k2N c2 c1 x y;
 t2 c2 c1 x y/\(1=1/\0=0/\0=0/\1=1/\0=0/\0=0/\1=1/\0=0/\0=0/\x=x/\dy=dy/\c11=c11/\x=x/\c30=c30/\c31=c31/\c41=y/\Value.slice none 0 0=Value.slice none 0 0/\(0:Int)=(0:Int)/\(0:Int)=(0:Int)/\cs=cs/\ns=ns/\os=os/\fs=fs/\ls=ls/\ks=ks/\p1=p1/\p2=p2/\nx=nx/\dy=dy/\c45=Dj c53/\c44=c53/\1=1/\0=0/\0=0/\1=1/\0=0/\0=0/\True)/\Dc (c31-y)<Dc (c31-x_7)))/\(Dp x_7 c31=false->inR .i64 c33/\∃y,t1 c2 c1 y/\(1=1/\0=0/\0=0/\1=1/\0=0/\0=0/\1=1/\0=0/\0=0/\dy=dy/\c11=c11/\c33=y/\Value.slice none 0 0=Value.slice none 0 0/\(0:Int)=(0:Int)/\(0:Int)=(0:Int)/\cs=cs/\ns=ns/\os=os/\fs=fs/\ls=ls/\ks=ks/\p1=p1/\p2=p2/\nx=nx/\dy=dy/\c40=Dj (k1N c2 c1 y)/\c39=k1N c2 c1 y/\1=1/\0=0/\0=0/\1=1/\0=0/\0=0/\True)/\Dc (c11-y)<Dc (c11-x)))/\(Dp x c11=false->1=1/\1=1/\1=1/\0=0/\c32=c32/\(c35->(true->True/\(false=false->true/\true/\(Di false->True/\1=1/\0=0/\1=1/\0=0/\1=1/\0=0/\1=1/\0=0/\c6=Dt Int/\0=c7/\2=c8/\True)/\(Di false=false->1=1/\0=0/\1=1/\0=0/\c6=Dt Int/\0=c7/\0=c8/\True)))/\True)/\(c35=false->1=1/\0=0/\0=0/\1=1/\0=0/\0=0/\1=1/\0=0/\0=0/\dy=dy/\c11=c11/\x=x/\Dp x c11=Dp x c11/\1=1/\0=0/\0=0/\1=1/\0=0/\0=0/\1=1/\0=0/\10=10/\c32=c32/\k1N c2 c1 x=k1N c2 c1 x/\c34=c34/\c35=c35/\Value.slice none 0 0=Value.slice none 0 0/\(0:Int)=(0:Int)/\(0:Int)=(0:Int)/\cs=cs/\ns=ns/\os=os/\fs=fs/\ls=ls/\ks=ks/\p1=p1/\p2=p2/\nx=nx/\dy=dy/\c32=c32/\k1N c2 c1 x=k1N c2 c1 x/\1=1/\0=0/\0=0/\1=1/\0=0/\0=0/\1=1/\1=1/\1=1/\0=0/\1=1/\1=1/\1=1/\0=0/\In.Qb (k1N c2 c1 x)/\1=1/\0=0/\1=1/\0=0/\true/\true/\(Di true->False)/\(Di true=false->1=1/\0=0/\1=1/\0=0/\k1N c2 c1 x=c6/\In.nh (k1N c2 c1 x)=c7/\0=c8/\True)))))))):
  evG cWr (lvA [(7,[3,4,5,6,8,10,12,13,14,15,16,17,18,53,54,55,64,65,66,70,71,72,82,83,84,89,90,91,96,97,98]),(12,[3,4,5,6,10,12,13,14,15,16,17,18,64,65,66,70,71,72,82,83,84,89,90,91,96,97,98]),(15,[3,4,5,6,10,12,13,14,15,16,17,18,64,65,66,70,71,72,82,83,84,89,90,91,96,97,98]),(21,[4,5,6,13,14,15,16,17,18,82,83,84,89,90,91,96,97,98]),(24,[4,5,6,13,14,15,16,17,18,82,83,84,89,90,91,96,97,98]),(27,[4,5,6,13,14,15,16,17,18,82,83,84,89,90,91,96,97,98])] (wrA (cs,ns,os,fs,ls,ks) (p1,p2,nx,dy))) aA 20 [net cs ns os fs ls ks,.agg [.dat I p1,.dat I p2,.dat M nx,.dat (.sl M) dy]] ⟨fQ (p1,p2,nx,dy),.tup [.agg [.dat R (wrN (cs,ns,os,fs,ls,ks) (p1,p2,nx,dy)),.dat I (wrS (cs,ns,os,fs,ls,ks) (p1,p2,nx,dy))],.dat I (wrE (cs,ns,os,fs,ls,ks) (p1,p2,nx,dy))],[]⟩:=oE hvc
theorem O7: ∀args m c,J3 args m=some c->af Tryz.prog G0 63 args m c:=by
 intro args m c h;unfold J3 at h;split at h
 .split at h
  .rename_i e;subst e;cases h;exact XD _
  .cases h
 .cases h
theorem Y1{P:Program}{G:List (Nat×AV)}{f:FuncId}{args:List AV}{m:Mem}{c:jP}(h:af P [] f args m c): af P G f args m c:=
 λhp w D E us hD _ ha hH=>h hp w D E us hD (λp hp=>by cases hp) ha hH
theorem aGi: ak Tryz.prog G0 KW7:=ai (Qs λ(_,c,o,d,_) n p k xs=>(L2 c o d k xs n p).1)<|ai (ag λ(n,p,_)=>XA n p)<|ai O7<|ai (ag λ(l,_)=>Y1 (Go.Eng.In.DW l)) aFA
theorem ZD: bO Tryz.prog G0 aFS:=iH (gE λ(_,c,o,d,_) n p k xs=>(L2 c o d k xs n p).2) P3
theorem sa{α:Type}{l:List α}{f:α->Li}{x:Int}(d:α)(h0:0<=x)(h1:x<l.length): (l.take (x+1).toNat).flatMap f=(l.take x.toNat).flatMap f++f (l.getD x.toNat d):=by
 rw[show(x+1).toNat=x.toNat+1 by omega,wW,qAf,qA,qB (show x.toNat<l.length by omega)];simp
theorem pA{f:Nat->Li}{x:Int}(h0:0<=x): (List.range (x+1).toNat).flatMap f=(List.range x.toNat).flatMap f++f x.toNat:=by
 rw[show(x+1).toNat=x.toNat+1 by omega,zW,qAf];simp
theorem t6{f:Nat->Int}{x:Int}(h0:0<=x)(h:HZ ((List.range x.toNat).map f)=0)(h1:f x.toNat=0): HZ ((List.range (x+1).toNat).map f)=0:=by
 refine oN λi hi=>?_
 rw[vW,wC]at hi;rw[qA,qP,vV hi];show f i=0;by_cases e:i<x.toNat
 .exact ko h _ (wZ.2 ⟨i,qX.2 e,rfl⟩)
 .have:i=x.toNat:=by omega
  rw[this];exact h1
theorem y9{f:Nat->Int}{k N:Nat}(hk:k<N)(h:HZ ((List.range k).map f)=0)(h1:f k≠0): HZ ((List.range N).map f)=f k:=by
 have eg:∀i,i<N->((List.range N).map f).getD i 0=f i:=λi hi=>by
  rw[qA,qP,vV hi];rfl
 rw[zb (j:=k) (by simpa using hk) (λi hi=>by rw[eg i (by omega)];exact ko h _ (wZ.2 ⟨i,qX.2 hi,rfl⟩)) (by rw[eg k hk];exact h1),eg k hk]
theorem mI{α:Type}{f:α->Li}{B:Nat}: ∀{l:List α},(∀x∈l,(f x).length<=B)->(l.flatMap f).length<=l.length*B
 | [],_=>by simp
 | a::l,h=>by
  have:=mI (l:=l) λx hx=>h x (zA _ hx)
  have:=h a (wL ..);rw[gJ,qG,wV,Nat.succ_mul];omega
theorem Xt(r:Li): (up1 r).length=r.length:=by unfold up1 upR;simp
structure aC8 (n:Net) (p:Plan):Prop where
 m:n.2.2.2.1.length<=12
 q:n.2.2.2.2.2.length<=4
 nl:p.2.2.1.length=n.2.2.2.1.length
 nr:∀r∈p.2.2.1,r.length=n.2.2.2.1.length/\∀x∈r,-1<=x/\x<=40
 dl:p.2.2.2.length=n.2.2.2.2.2.length
 dr:∀t∈p.2.2.2,t.length=n.2.2.2.1.length/\∀r∈t,r.length=n.2.2.2.1.length/\∀x∈r,-1<=x/\x<=65518
theorem EI{n:Net}{p:Plan}(h:rA n p): aC8 n p:=by
 obtain⟨hs,hf⟩:=h;obtain⟨_,hT,hD⟩:=iw hf;have hno:noF n=true:=aX n.1 n.2.1 n.2.2.1 n.2.2.2.1 n.2.2.2.2.1 n.2.2.2.2.2 hs;have o12:(n.2.2.2.1.length:Int)<=12:=(fK n.1 n.2.1 n.2.2.1 n.2.2.2.1 n.2.2.2.2.1 n.2.2.2.2.2 hno).1;have l40:(n.2.2.2.2.1.length:Int)<=40:=(lN n.1 n.2.1 n.2.2.1 n.2.2.2.1 n.2.2.2.2.1 n.2.2.2.2.2 hno).1
 have c4:(n.2.2.2.2.2.length:Int)<=4:=((kj (by decide) (λl:Cla=>l.1) iM n.2.2.2.2.2).1 (je n.1 n.2.1 n.2.2.1 n.2.2.2.1 n.2.2.2.2.1 n.2.2.2.2.2 hno).2.2.2.2.2).1;have hl:(p.2.2.1.length:Int)=n.2.2.2.1.length:=by
  unfold lr at hT;simp only[qC,qE]at hT;exact hT.1
 unfold pR at hD;simp only[qC,qE,qM]at hD;refine⟨by omega,by omega,by omega,λr hr=>?_,by omega,λt ht=>?_⟩
 .obtain⟨i,hi,rfl⟩:=wX.1 hr;have h1:=(sb (n:=n) hl).1 hT i (by omega);rw[qA,qB hi,qQ]at h1;unfold rowOk at h1;simp only[qC,qE,qM]at h1;refine⟨by omega,λx hx=>?_⟩;have h2:=h1.2 x hx;unfold aV bP at h2;simp only[yE,qC,qE]at h2;omega
 .have h1:=hD.2 t ht;have h2:(t.length:Int)=n.2.2.2.1.length:=by
   unfold sgF at h1;simp only[qC,qE]at h1;exact h1.1
  refine⟨by omega,λr hr=>?_⟩;obtain⟨i,hi,rfl⟩:=wX.1 hr;have h3:=(AU h2).1 h1 i (by omega);rw[qA,qB hi,qQ]at h3;unfold sgR at h3;simp only[qC,qE,qM]at h3;refine⟨by omega,λx hx=>?_⟩;have h4:=h3.2 x hx;unfold gP ud at h4;rw[qE]at h4;exact h4
theorem x8{m:Nat}(hm:m<=12){l:Lj}(hl:l.length<=12)(h:∀r∈l,r.length=m): (l.flatMap up1).length<=144:=by
 have h1:=mI (l:=l) (f:=up1) (B:=12) λr hr=>by rw[Xt,h r hr];exact hm
 have:=vU 12 hl;omega
theorem VV{n:Net}{p:Plan}(h:aC8 n p)(j:Int): (h1N n p j).length<=148:=by
 have:=x8 h.m (l:=p.2.2.1.take j.toNat) (by rw[qI,h.nl];have:=h.m;omega) λr hr=>(h.nr r (qBa hr)).1
 unfold h1N h4N;rw[qG];simp only[wV,yO];omega
theorem VU{n:Net}{p:Plan}(h:aC8 n p)(i:Int): (h2N n p i).length<=724:=by
 have h0:=VV h p.2.2.1.length;have h1:=mI (l:=p.2.2.2.take i.toNat) (f:=λt:Lj=>t.flatMap up1) (B:=144) λt ht=>by
  obtain⟨q1,q2⟩:=h.dr t (qBa ht);exact x8 h.m (by rw[q1];exact h.m) λr hr=>(q2 r hr).1
 have h2:(p.2.2.2.take i.toNat).length<=4:=by rw[qI,h.dl];have:=h.q;omega
 have:=vU 144 h2;unfold h2N;rw[qG];omega
theorem aBY{n:Net}{p:Plan}(h:aC8 n p){i:Int}(j:Int)(h0:0<=i)(h1:i<p.2.2.2.length): (h3N n p i j).length<=868:=by
 have h2:=VU h i;obtain⟨q1,q2⟩:=h.dr _ (getD_mem (l:=p.2.2.2) (i:=i.toNat) (d:=[]) (by omega));have:=x8 h.m (l:=(p.2.2.2.getD i.toNat []).take j.toNat) (by rw[qI,q1];have:=h.m;omega) λr hr=>(q2 r (qBa hr)).1
 unfold h3N;rw[qG];omega
theorem Oc{n:Net}{p:Plan}{c o d:Int}(h:iU n p c o d=0): ∀x∈lv n p c o,DD n p c o d x=0:=λx hx=>ko h _ (wZ.2 ⟨x,hx,rfl⟩)
theorem UX{n:Net}{p:Plan}{c o d:Int}(hp:rA n p)(hc:zv n c)(ho:0<=o/\o<n.2.2.2.1.length)(hd:0<=d/\d<n.2.2.2.1.length)(h:Gs n p c o d=0): (zy n p c o d).length<=1641619:=by
 unfold Gs at h;unfold zy;split
 .exact wU _
 .rename_i hne;rw[if_neg hne]at h;have hno:noF n=true:=aX n.1 n.2.1 n.2.2.1 n.2.2.2.1 n.2.2.2.2.1 n.2.2.2.2.2 hp.1;have hcp:uf n p c o:=⟨⟨hno,ho⟩,hc,(iw hp.2).1⟩;have:=tN (n:=n) (p:=p) (c:=c) (o:=o) (d:=d) (k:=0) (xs:=[]) (j:=(lv n p c o).length) ⟨⟨⟨hp,hc,⟨hno,ho⟩,⟨hno,hd⟩⟩,rfl,wU _⟩,qJ _,λi hi=>Oc h _ (getD_mem hi)⟩;have h2:=O1 hcp;unfold keepA;omega
theorem Nr{n:Net}{p:Plan}{c o:Int}{k:Nat}(hp:rA n p)(hc:zv n c)(ho:0<=o/\o<n.2.2.2.1.length)(hk:k<=n.2.2.2.1.length)(h:ZR n p c o k=0): (VB n p c o k).length<=19699428:=by
 have hs:=(EI hp).m;have h1:=mI (l:=List.range k) (f:=λd:Nat=>zy n p c o (d:Int)) (B:=1641619) λd hd=>by
  have hd:=qX.1 hd;exact UX hp hc ho ⟨by omega,by omega⟩ (ko h _ (wZ.2 ⟨d,qX.2 hd,rfl⟩))
 rw[wC]at h1;have:=vU 1641619 (show k<=12 by omega);unfold VB;omega
theorem aDx{n:Net}{p:Plan}(hp:rA n p){c o:Int}(hc:zv n c)(ho:0<=o/\o<n.2.2.2.1.length): (p.2.2.2.getD c.toNat []).length=n.2.2.2.1.length/\((p.2.2.2.getD c.toNat []).getD o.toNat []).length=n.2.2.2.1.length:=by
 have hs:=EI hp;obtain⟨c0,c1⟩:=hc;have dl:=hs.dl;obtain⟨q1,q2⟩:=hs.dr _ (getD_mem (l:=p.2.2.2) (i:=c.toNat) (d:=[]) (by omega));exact⟨q1,(q2 _ (getD_mem (by omega))).1⟩
theorem LY{n:Net}{p:Plan}{c:Int}{k:Nat}(hp:rA n p)(hc:zv n c)(hk:k<=n.2.2.2.1.length)(h:Xx n p c k=0): (Vq n p c k).length<=236393136:=by
 have hs:=(EI hp).m;have h1:=mI (l:=List.range k) (f:=λo:Nat=>VB n p c (o:Int) ((p.2.2.2.getD c.toNat []).getD o []).length) (B:=19699428) λo ho=>by
  have ho:=qX.1 ho;have e:=(aDx hp hc (o:=(o:Int)) ⟨by omega,by omega⟩).2;rw[vC]at e;exact Nr hp hc ⟨by omega,by omega⟩ (by omega) (ko h _ (wZ.2 ⟨o,qX.2 ho,rfl⟩))
 rw[wC]at h1;have:=vU 19699428 (show k<=12 by omega);unfold Vq;omega
theorem PY{n:Net}{p:Plan}{k:Nat}(hp:rA n p)(hk:k<=n.2.2.2.2.2.length)(h:Qk n p k=0): (Zw n p k).length<=945572544:=by
 have hs:=(EI hp).q;have h1:=mI (l:=List.range k) (f:=λc:Nat=>Vq n p (c:Int) (p.2.2.2.getD c []).length) (B:=236393136) λc hc=>by
  have hc:=qX.1 hc;have hcl:zv n (c:Int):=⟨by omega,by omega⟩;have dl:=(EI hp).dl;have q1:=((EI hp).dr _ (getD_mem (l:=p.2.2.2) (i:=c) (d:=[]) (by omega))).1;exact LY hp hcl (by omega) (ko h _ (wZ.2 ⟨c,qX.2 hc,rfl⟩))
 rw[wC]at h1;have:=vU 236393136 (show k<=4 by omega);unfold Zw;omega
theorem Xy(cs:LC)(ns os:LB)(fs:Lo)(ls:Ll)(ks:Lk)(p1 p2:Int)(nx:Lj)(dy:List (Lj)): af Tryz.prog G0 20 [net cs ns os fs ls ks,.agg [.dat I p1,.dat I p2,.dat M nx,.dat (.sl M) dy]] [] ⟨fQ (p1,p2,nx,dy),.tup [.agg [.dat R (wrN (cs,ns,os,fs,ls,ks) (p1,p2,nx,dy)),.dat I (wrS (cs,ns,os,fs,ls,ks) (p1,p2,nx,dy))],.dat I (wrE (cs,ns,os,fs,ls,ks) (p1,p2,nx,dy))],[]⟩:=by
 refine lF (c:=cWr) aGi aJ hm ZD (Qw cs ns os fs ls ks p1 p2 nx dy ⟨⟨rfl,rfl⟩,λhp=>?_⟩);simp only[qc,Dk,Di,qd,Dt,Ec,Dp,Ei,Df,Dc,Dj,Du,Ef,yC,zZ,vT,xG,qCr,xM];obtain⟨n,hn⟩:∃n:Net,n=(cs,ns,os,fs,ls,ks):=⟨_,rfl⟩;obtain⟨p,hpe⟩:∃p:Plan,p=(p1,p2,nx,dy):=⟨_,rfl⟩;have e1:fs=n.2.2.2.1:=by rw[hn]
 have e2:ks=n.2.2.2.2.2:=by rw[hn]
 have e3:nx=p.2.2.1:=by rw[hpe]
 have e4:dy=p.2.2.2:=by rw[hpe]
 have e5:p1=p.1:=by rw[hpe]
 have e6:p2=p.2.1:=by rw[hpe]
 rw[<- hn,<- hpe]at *;clear hn hpe;subst e1 e2 e3 e4 e5 e6;have eS:aO n=decide (((fA n).length:Int)=0):=vf;have hbad:¬(aO n=true/\gb n p=true)->wrE n p=1:=λh=>if_neg h
 have hne:wrE n p≠0->wrN n p=[]/\(0:Int)=wrS n p:=λh=>⟨if_neg h,(if_neg h).symm⟩
 refine⟨λ_=>hp,λh=>?_,λ⟨h1,h2⟩=>?_⟩
 .have:wrE n p=1:=hbad λ⟨g1,g2⟩=>by
   rw[eS,qE]at g1;rcases h with h | h
   .omega
   .rw[h]at g2;cases g2
  obtain⟨q1,q2⟩:=hne (by rw[this];decide);exact⟨q1,q2,this.symm⟩
 have hpl:rA n p:=⟨by rw[eS,qE];omega,h2⟩;have hsh:=EI hpl;have hW:wrE n p=if Qk n p p.2.2.2.length≠0 then Qk n p p.2.2.2.length else if(EO n p).length>40000 then 2 else 0:=if_pos hpl
 have hno:noF n=true:=aX n.1 n.2.1 n.2.2.1 n.2.2.2.1 n.2.2.2.2.1 n.2.2.2.2.2 hpl.1;have rs:∀(r:Li) (xs:Li),(∀x∈r,-1<=x/\x<=65518)->r.length<=12->xs.length<=10000->rsP 1 r xs xs.length:=λr xs q1 q2 q3=>⟨⟨rfl,by omega⟩,by decide,by decide,λx hx=>by have:=q1 x hx;omega⟩
 have m12:=hsh.m;have q04:=hsh.q;have nl:=hsh.nl;have dl:=hsh.dl;refine⟨⟨rfl,by show 0+4<=1000000000000;decide⟩,by simp,⟨0,⟨hpl,qL _,by omega⟩,rfl,rfl,rfl⟩,λx ⟨_,x0,x1⟩=>⟨λhx=>?_,λhx=>⟨⟨0,⟨hpl,qL _,by omega⟩,rfl,?_,?_⟩,?_⟩⟩⟩
 .obtain⟨q1,q2⟩:=hsh.nr _ (getD_mem (l:=p.2.2.1) (i:=x.toNat) (d:=[]) (by omega));have e:h1N n p (x+1)=h1N n p x++up1 (p.2.2.1.getD x.toNat []):=by unfold h1N;rw[sa [] x0 hx,wG]
  refine⟨x0,hx,rs _ _ (λy hy=>by have:=q2 y hy;omega) (by omega) (by have:=VV hsh x;omega),by rw[qG];omega,aM (by omega),x+1,⟨hpl,by omega,by omega⟩,⟨rfl,by rw[e,qG];rfl,e.symm⟩,by omega⟩
 .have:x=p.2.2.1.length:=by omega
  rw[this];simp[h2N]
 .have:x=p.2.2.1.length:=by omega
  rw[this];simp[h2N]
 rintro x ⟨_,x0,x1⟩;refine⟨λhx=>⟨x0,hx,⟨0,⟨⟨hpl,x0,hx⟩,qL _,by omega⟩,rfl,by simp[h3N],by simp[h3N]⟩,λy ⟨_,y0,y1⟩=>⟨λhy=>?_,λhy=>?_⟩⟩,λhx=>⟨⟨0,⟨⟨hpl,qL _,by omega⟩,rfl⟩,rfl,?_,?_⟩,?_⟩⟩
 .obtain⟨q1,q2⟩:=hsh.dr _ (getD_mem (l:=p.2.2.2) (i:=x.toNat) (d:=[]) (by omega));obtain⟨q3,q4⟩:=q2 _ (getD_mem (l:=p.2.2.2.getD x.toNat []) (i:=y.toNat) (d:=[]) (by omega));have e:h3N n p x (y+1)=h3N n p x y++up1 ((p.2.2.2.getD x.toNat []).getD y.toNat []):=by unfold h3N;rw[sa [] y0 hy,wG]
  refine⟨y0,hy,rs _ _ q4 (by omega) (by have:=aBY hsh y x0 hx;omega),by rw[qG];omega,aM (by omega),y+1,⟨⟨hpl,x0,hx⟩,by omega,by omega⟩,⟨rfl,by rw[e,qG];rfl,e.symm⟩,by omega⟩
 .have ey:y=(p.2.2.2.getD x.toNat []).length:=by omega
  have e:h2N n p (x+1)=h3N n p x y:=by
   unfold h3N;rw[ey,vC,xC];unfold h2N;rw[sa [] x0 hx,wG]
  exact⟨aM (by omega),x+1,⟨hpl,by omega,by omega⟩,⟨rfl,by rw[e],e.symm⟩,by omega⟩
 .have:x=p.2.2.2.length:=by omega
  rw[this];simp[k1N,hdN,Zw]
 .have:x=p.2.2.2.length:=by omega
  rw[this];simp[k1N,hdN,Zw]
 rintro x ⟨⟨_,x0,x1⟩,xa⟩;have hd2:=VU hsh p.2.2.2.length;refine⟨λhx=>?_,λhx=>?_⟩
 .have hcl:zv n x:=⟨x0,by omega⟩;have xt:((x.toNat:Nat):Int)=x:=by omega
  have tl:=(aDx hpl hcl (o:=0));obtain⟨tr1,_⟩:=hsh.dr _ (getD_mem (l:=p.2.2.2) (i:=x.toNat) (d:=[]) (by omega));refine⟨x0,hx,⟨0,⟨⟨⟨hpl,x0,hx⟩,qL _,by omega⟩,xa,rfl⟩,rfl,by simp[k2N,Vq],by simp[k2N,Vq]⟩,λy ⟨⟨_,y0,y1⟩,_,ya⟩=>⟨λhy=>?_,λhy=>?_⟩⟩
  .have yt:((y.toNat:Nat):Int)=y:=by omega
   obtain⟨_,tr2⟩:=aDx hpl hcl (o:=y) ⟨y0,by omega⟩;refine⟨y0,hy,⟨0,⟨⟨⟨⟨⟨hpl,x0,hx⟩,y0,by omega⟩,hy⟩,qL _,by omega⟩,xa,ya,rfl⟩,rfl,by simp[k3N,VB],by simp[k3N,VB]⟩,λz ⟨⟨_,z0,z1⟩,_,_,za⟩=>⟨λhz=>?_,λhz=>?_⟩⟩
   .have zt:((z.toNat:Nat):Int)=z:=by omega
    have eD:((p.2.2.2.getD x.toNat []).getD y.toNat []).getD z.toNat 0=lY p x y z:=rfl;rw[eD];have hkl:(k3N n p x y z).length<=900000000000:=by
     have l1:=PY hpl (k:=x.toNat) (by omega) xa;have l2:=LY hpl hcl (k:=y.toNat) (by omega) ya;have l3:=Nr hpl hcl (o:=y) (k:=z.toNat) ⟨y0,by omega⟩ (by omega) za;unfold k3N k2N k1N hdN;simp only[qG];omega
    have hK:mZ n p x y z (k3N n p x y z).length (k3N n p x y z):=⟨⟨hpl,hcl,⟨hno,y0,by omega⟩,⟨hno,z0,by omega⟩⟩,rfl,hkl⟩
    have step:Gs n p x y z=0->(∃w,t3 n p x y w/\(z+1=w/\(k3N n p x y z).length+(zy n p x y z).length=(k3N n p x y w).length/\k3N n p x y z++zy n p x y z=k3N n p x y w)/\(((p.2.2.2.getD x.toNat []).getD y.toNat []).length-w).toNat<(((p.2.2.2.getD x.toNat []).getD y.toNat []).length-z).toNat):=λh0=>by
     have e:k3N n p x y (z+1)=k3N n p x y z++zy n p x y z:=by
      unfold k3N VB;rw[pA z0,zt,wG]
     exact⟨z+1,⟨⟨⟨⟨⟨hpl,x0,hx⟩,y0,by omega⟩,hy⟩,by omega,by omega⟩,xa,ya,t6 z0 za (by rw[zt];exact h0)⟩,⟨rfl,by rw[e,qG],e.symm⟩,by omega⟩
    refine⟨z0,hz,λhne1=>⟨⟨hK,λhz0=>?_⟩,λhz0=>⟨⟨hK,hz0⟩,by rw[qG];omega,aM (by omega),?_⟩⟩,λh1=>⟨aM (by omega),?_⟩⟩
    .have hz1:=cB.1 hz0;have c1:Gs n p x y z=iU n p x y z:=if_neg hne1;have r1:ZR n p x y ((p.2.2.2.getD x.toNat []).getD y.toNat []).length=iU n p x y z:=by
      unfold ZR;rw[y9 (k:=z.toNat) (by omega) za (by rw[zt,c1];exact hz1),zt,c1]
     have r2:Xx n p x (p.2.2.2.getD x.toNat []).length=iU n p x y z:=by
      unfold Xx;rw[y9 (k:=y.toNat) (by omega) ya (by rw[yt,r1];exact hz1),yt,r1]
     have r3:Qk n p p.2.2.2.length=iU n p x y z:=by
      unfold Qk;rw[y9 (k:=x.toNat) (by omega) xa (by rw[xt,r2];exact hz1),xt,r2]
     have r4:wrE n p=iU n p x y z:=by rw[hW,r3,if_pos hz1]
     obtain⟨q1,q2⟩:=hne (by rw[r4];exact hz1);exact⟨q1,q2,r4.symm⟩
    .have c1:Gs n p x y z=iU n p x y z:=if_neg hne1;have c2:zy n p x y z=keepA n p x y z:=if_neg hne1;have:=step (by rw[c1];exact b9.1 hz0);rw[c2]at this;exact this
    .have c1:Gs n p x y z=0:=if_pos h1;have c2:zy n p x y z=[]:=if_pos h1;have:=step c1;rw[c2]at this;simpa using this
   .have ez:z=((p.2.2.2.getD x.toNat []).getD y.toNat []).length:=by omega
    have e:k2N n p x (y+1)=k3N n p x y z:=by
     unfold k3N;rw[ez,vC];unfold k2N Vq;rw[pA y0,yt,wG]
    have za':ZR n p x y ((p.2.2.2.getD x.toNat []).getD y.toNat []).length=0:=by rw[ez,vC]at za;exact za
    exact⟨aM (by omega),y+1,⟨⟨⟨hpl,x0,hx⟩,by omega,by omega⟩,xa,t6 y0 ya (by rw[yt];exact za')⟩,⟨rfl,by rw[e],e.symm⟩,by omega⟩
  .have ey:y=(p.2.2.2.getD x.toNat []).length:=by omega
   have e:k1N n p (x+1)=k2N n p x y:=by
    unfold k2N;rw[ey,vC];unfold k1N Zw;rw[pA x0,xt,wG]
   have ya':Xx n p x (p.2.2.2.getD x.toNat []).length=0:=by rw[ey,vC]at ya;exact ya
   exact⟨aM (by omega),x+1,⟨⟨hpl,by omega,by omega⟩,t6 x0 xa (by rw[xt];exact ya')⟩,⟨rfl,by rw[e],e.symm⟩,by omega⟩
 .have ex:x=p.2.2.2.length:=by omega
  have eN:k1N n p x=EO n p:=by unfold k1N EO;rw[ex,vC]
  rw[ex,vC]at xa;have hl:=PY hpl (k:=p.2.2.2.length) (by omega) xa;rw[eN];rw[xa,if_neg (λg=>g rfl)]at hW;refine⟨λhgt=>?_,λhle=>?_⟩
  .rw[if_pos (by omega)]at hW;obtain⟨q1,q2⟩:=hne (by rw[hW];decide);exact⟨q1,q2,hW.symm⟩
  .rw[if_neg (by omega)]at hW;refine⟨?_,(if_pos hW).symm,(if_pos hW).symm,hW.symm⟩;show(EO n p).length<=9223372036854775807;omega
end Go.Eng.Sv
set_option maxRecDepth 100000
noncomputable section
namespace Go.Eng.Sv
open Go.Proofs
def pN(nx:Lj): Plan:=(0,0,nx,[])
def aB5(n:Net)(k o t:Int): Prop:=(iT n o/\zv n k)/\0<=t/\t<=2200000
def F5(n:Net)(k o a b:Int): Li:=KJ (aj n o) (aN n k).2.1 b ((b-a).toNat+1) a
def F4(n:Net)(k o a b:Int): Prop:=iT n o/\zv n k/\0<=a/\a<b/\b<=1000000
def Cj(n:Net)(k o a b:Int)(x:Nat×Int): Prop:=(a+x.1<=x.2/\x.2<=b)/\x.1<=(F5 n k o a b).length/\(F5 n k o a b).drop x.1=KJ (aj n o) (aN n k).2.1 b ((b-a).toNat+1-x.1) x.2
def rN(n:Net)(nx:Lj)(k o d cut:Int): Int:=if ig n nx o d cut≠0 then ig n nx o d cut else if Ai n (pN nx) k o d cut≠0 then Ai n (pN nx) k o d cut else if KN n (pN nx) k o d cut<0 then 1 else 0
def UB(n:Net)(nx:Lj)(k o d cut:Int): Int:=KN n (pN nx) k o d cut
def zo(n:Net)(nx:Lj)(k o d cut:Int): Prop:=Am n nx o d cut/\zv n k
def aDw(n:Net)(nx:Lj)(a b:Int): Prop:=aO n=true/\lr n nx=true/\0<=a/\a<b/\b<=600/\b-a<=60
def aEx(n:Net)(o:Int): Prop:=0<=o/\o<n.2.2.2.1.length
def cellP(n:Net)(nx:Lj)(k o d a b:Int): Prop:=aDw n nx a b/\zv n k/\aEx n o/\aEx n d
def zq(n:Net)(k o a b:Int): Li:=F5 n k o (1440*a) (1440*b)
def NS(n:Net)(nx:Lj)(k o d a b:Int)(j:Nat): Int:=(((zq n k o a b).take j).map (UB n nx k o d)).foldl max (-1)
def BG(n:Net)(nx:Lj)(k o d a b:Int): Int:=HZ ((zq n k o a b).map (rN n nx k o d))
def iI(n:Net)(nx:Lj)(k o d a b:Int): Int:=if BG n nx k o d a b=0 then NS n nx k o d a b (zq n k o a b).length else -1
def BF(n:Net)(nx:Lj)(k o d a b:Int)(j:Nat): Prop:=cellP n nx k o d a b/\j<=(zq n k o a b).length/\∀i:Nat,i<j->rN n nx k o d ((zq n k o a b).getD i 0)=0
theorem WV(k o t:Int)(cs:LC)(ns os:LB)(fs:Lo)(ls:Ll)(ks:Lk)(hvc:
 let c1:=(cs,ns,os,fs,ls,ks);let c4:=(aj c1 o);let c5:=(Du ks (Dc k) (ByteArray.mk #[],(0:Int),(0:Int))).2.2;let c6:=ay c1 o t;true/\(aB5 c1 k o t->iT c1 o/\0<=k/\k<Df ks/\fx c1 o t/\tZ c4 c5 c6/\dV c4 c5 c6=F2 c1 k o t/\ic c4 c5 c6=KH c1 k o t/\True)):
  evF (mkc KR5) aA 103 [.ip N (cs,ns,os,fs,ls,ks),.dat I k,.dat I o,.dat I t] [] ⟨aB5 (cs,ns,os,fs,ls,ks) k o t,.tup [.dat I (F2 (cs,ns,os,fs,ls,ks) k o t),.dat I (KH (cs,ns,os,fs,ls,ks) k o t)],[]⟩:=oE hvc
theorem QW(k o a b:Int)(n:Net)(hvc:
 true/\(True->a=a/\n=n/\o=o/\k=k/\b=b/\True)):
  evF (mkc KR2) aA 116 [.ip N n,.dat I k,.dat I o,.dat I a,.dat I b] [] ⟨True,.fn 173 [.ip I a,.ipv (.ip N n),.ip I o,.ip I k,.ip I b],[]⟩:=oE hvc
def aBH(n:Net)(k o a b:Int): GQ:=⟨λid y=>match id with
 | 1=>some {α:=Nat×Int,inv:=λx=>Cj n k o a b x,st:=λx=>⟨put y.s [(7,.dat I x.2)],x.1,true⟩,μ:=λx=>Dc (Dh (Dq b 1) x.2)}
 | _=>none,λ_ _=>none,λid=>id==2⟩
theorem QX(k o a b:Int)(n:Net)(hvc:
 let c2:=(aj n o).2;let c3:=((aj n o).1,c2.1,c2.2);let c4:=(Du n.2.2.2.2.2 (Dc k) (ByteArray.mk #[],(0:Int),(0:Int))).2.1;let c5:=F5 n k o a b;let c6:=Dj c5;let c7:=b+1;true/\true/\true/\false=false/\∀(l:Nat),F4 n k o a b->(∃(x:Nat×Int),Cj n k o a b x/\(l=l/\a=a/\n=n/\o=o/\k=k/\b=b/\a=x.2/\a=a/\True)/\0=x.1/\true)/\∀(x:Nat×Int),let c8:=Ec (ic c3 c4 x.2) 0;let c9:=Di c8;let c10:=dV c3 c4 x.2;let c11:=Dz c8 true (Ed c10 b);let c12:=Di c11;let c1:=Dk true c12->c12;let c13:=x.1+1;let c14:=c10+1;let c15:=Dz c11 true (Di false);Cj n k o a b x->iT n o/\0<=k/\k<Df n.2.2.2.2.2/\tZ c3 c4 x.2/\(c9->c9->c9)/\(c9->c9->c9)/\(Dk true c9->c9)/\(c12->(c12->c12)/\(c12->c12)/\l=l/\true/\lu c5 x.1 c10/\∀(b_1:Bool),let c16:=Dz c11 true (Di b_1);c1/\(c16->b_1->c13=c6)/\(c16=false->inR .i64 c14/\∃(y:Nat×Int),Cj n k o a b y/\((l=l/\a=a/\n=n/\o=o/\k=k/\b=b/\c14=y.2/\a=a/\True)/\c13=y.1/\b_1)/\Dc (c7-y.2)<Dc (c7-x.2)))/\(c12=false->(c12->c12->c12)/\c1/\(c15->true->x.1=c6)/\(c15=false->inR .i64 c14/\∃(y:Nat×Int),Cj n k o a b y/\((l=l/\a=a/\n=n/\o=o/\k=k/\b=b/\c14=y.2/\a=a/\True)/\x.1=y.1/\true)/\Dc (c7-y.2)<Dc (c7-x.2)))):
  evI (mkc KR3) (aBH n k o a b) 173 [.ip I a,.ipv (.ip N n),.ip I o,.ip I k,.ip I b] ⟨F4 n k o a b,I,F5 n k o a b⟩:=oE hvc
def KC0: Kt:=kOr 140 (az [.row C,.val I,.val I] (λ(c,a,b,_)=>countP c.1 c.2.1 c.2.2 a b) λ(c,a,b,_)=>.dat I (lZ c.2.1 c.2.2 a b)) <|
 kOr 103 (az [.ptr N,.val I,.val I,.val I] (λ(n,k,o,t,_)=>aB5 n k o t) λ(n,k,o,t,_)=>.tup [.dat I (F2 n k o t),.dat I (KH n k o t)]) <|
 kOr 116 (az [.ptr N,.val I,.val I,.val I,.val I] (λ_=>True) λ(n,k,o,a,b,_)=>.fn 173 [.ip I a,.ipv (.ip N n),.ip I o,.ip I k,.ip I b]) KR5
def aCl: Cfg:=mkp KC0 (λ_=>false) KPw (λf=>f==97||f==95||f==102)
theorem QV(k o d cut:Int)(nx:Lj)(cs:LC)(ns os:LB)(fs:Lo)(ls:Ll)(ks:Lk)(hvc:
 let c1:=(cs,ns,os,fs,ls,ks);let c2:=ig c1 nx o d cut;let c3:=isZero c2;let c4:=rN c1 nx k o d cut;let c5:=isZero c4;let c6:=chainOf (Value.iface 39 (Value.int .i64 c4));let c7:=lj c1 nx o d cut;let c8:=Df c7;let c9:=c8-1;let c10:=(Du c7 (Dc c9) ((0:Int),(0:Int),(0:Int),(0:Int))).2.1;let c11:=KH c1 k d c10;let c12:=isZero c11;let c13:=aj c1 d;let c18:=F2 c1 k d c10;let c19:=fC c13.1 cut;let c20:=fC c13.1 c18;let c21:=lZ c13.2.1 c13.2.2 c19 c20;let c22:=Ed c21 0;true/\(zo c1 nx k o d cut->(true->Am c1 nx o d cut/\(c3=false->c5=false/\true/\chainOf (Value.iface 39 (Value.int .i64 c2))=c6))/\((true->c3)->(Am c1 nx o d cut/\c3)/\inR .i64 c9/\0<=c9/\c9<c8/\aB5 c1 k d c10/\(true->True/\(c12=false->c5=false/\true/\chainOf (Value.iface 39 (Value.int .i64 c11))=c6))/\((true->c12)->(True/\c12)/\iT c1 d/\1=1/\0=0/\1=1/\0=0/\ga c13.1 c13.2.1 c13.2.2 cut/\1=1/\0=0/\ga c13.1 c13.2.1 c13.2.2 c18/\1=1/\0=0/\countP c13.1 c13.2.1 c13.2.2 c19 c20/\(true->True/\(c22=false->c5=false/\true/\chainOf (Value.iface 39 (Value.int IntKind.i64 (1:Int)))=c6))/\((true->c22)->(True/\c22)/\c5/\c21=UB c1 nx k o d cut/\True))))):
  evC aCl aA 117 [.ip N (cs,ns,os,fs,ls,ks),.dat M nx,.dat I k,.dat I o,.dat I d,.dat I cut] (.dat I (UB (cs,ns,os,fs,ls,ks) nx k o d cut)) ⟨zo (cs,ns,os,fs,ls,ks) nx k o d cut,isZero (rN (cs,ns,os,fs,ls,ks) nx k o d cut),uH 39 (rN (cs,ns,os,fs,ls,ks) nx k o d cut)⟩:=oE hvc
def KC1: Kt:=kOr 117 (az [.ptr N,.val M,.val I,.val I,.val I,.val I] (λ(n,nx,k,o,d,c,_)=>zo n nx k o d c/\isZero (rN n nx k o d c)=true) λ(n,nx,k,o,d,c,_)=>.dat I (UB n nx k o d c)) KC0
def aFT: KPt:=pOr 117 (uR [.ptr N,.val M,.val I,.val I,.val I,.val I] λ(n,nx,k,o,d,c,_)=>⟨zo n nx k o d c,isZero (rN n nx k o d c),uH 39 (rN n nx k o d c)⟩) KPw
def KIC: FuncId->List AV->Option jr:=λf caps=>if f=173 then match ofK [.ptr I,.bp N,.ptr I,.ptr I,.ptr I] caps with
 | some (a,n,o,k,b,_)=>some ⟨F4 n k o a b,I,F5 n k o a b⟩
 | none=>none
 else none
noncomputable def aCj: Cfg:=⟨Tryz.prog,G0,KC1,λ_=>false,KIC,true,aFT,λf=>f==117⟩
def aEA(n:Net)(nx:Lj)(k o d a b:Int): Ann:=⟨λid s=>match id with
 | 4=>some {α:=Nat,inv:=λj=>BF n nx k o d a b j,st:=λj=>iE (flat s) 0 (.var [.dat I (NS n nx k o d a b j)]),μ:=λj=>j}
 | _=>none,λ_ _=>none,λ_ _=>none⟩
theorem QU(k o d a b:Int)(nx:Lj)(n:Net)(hvc:
 let c1:=1440*a;let c2:=1440*b;let c3:=F5 n k o c1 c2;let c4:=iI n nx k o d a b;(true/\true)/\(cellP n nx k o d a b->true/\1=1/\0=0/\inR .i64 c1/\inR .i64 c2/\True/\F4 n k o c1 c2/\(∃x,BF n nx k o d a b x/\x=0/\n=n/\nx=nx/\k=k/\o=o/\d=d/\a=a/\b=b/\n=n/\nx=nx/\k=k/\o=o/\d=d/\1=1/\0=0/\0=0/\1=1/\0=0/\0=0/\n=n/\k=k/\o=o/\a=a/\c1=c1/\b=b/\c2=c2/\c1=c1/\n=n/\o=o/\k=k/\c2=c2/\(-1:Int)=NS n nx k o d a b x/\1=1/\0=0/\0=0/\True)/\(∀(x:Nat),let c5:=NS n nx k o d a b x;∀(y:Int),let c6:=isZero (rN n nx k o d y);BF n nx k o d a b x->lu c3 x y->1=1/\0=0/\zo n nx k o d y/\(c6->1=1/\0=0/\(zo n nx k o d y/\c6)/\1=1/\0=0/\∃z,BF n nx k o d a b z/\z=x+1/\n=n/\nx=nx/\k=k/\o=o/\d=d/\a=a/\b=b/\n=n/\nx=nx/\k=k/\o=o/\d=d/\1=1/\0=0/\0=0/\1=1/\0=0/\0=0/\n=n/\k=k/\o=o/\a=a/\c1=c1/\b=b/\c2=c2/\c1=c1/\n=n/\o=o/\k=k/\c2=c2/\Ez c5 (UB n nx k o d y)=NS n nx k o d a b z/\1=1/\0=0/\0=0/\True)/\(c6=false->true/\true/\(Di false->1=1/\0=0/\1=1/\0=0/\(-1:Int)=c4/\True)/\(Di false=false->1=1/\0=0/\c5=c4/\True)))/\∀(x:Nat),BF n nx k o d a b x->x=Dj c3->1=1/\0=0/\1=1/\0=0/\true/\true/\(Di true->1=1/\0=0/\1=1/\0=0/\(-1:Int)=c4/\True)/\(Di true=false->1=1/\0=0/\NS n nx k o d a b x=c4/\True))):
  evR aCj (λ_ _ _=>none) aA (aEA n nx k o d a b) aA 55 [.ip N n,.dat M nx,.dat I k,.dat I o,.dat I d,.dat I a,.dat I b] ⟨cellP n nx k o d a b,.dat I (iI n nx k o d a b),[]⟩:=oE hvc
theorem XM(k o t:Int)(cs:LC)(ns os:LB)(fs:Lo)(ls:Ll)(ks:Lk): af Tryz.prog G0 103 [.ip N (cs,ns,os,fs,ls,ks),.dat I k,.dat I o,.dat I t] [] ⟨aB5 (cs,ns,os,fs,ls,ks) k o t,.tup [.dat I (F2 (cs,ns,os,fs,ls,ks) k o t),.dat I (KH (cs,ns,os,fs,ls,ks) k o t)],[]⟩:=by
 refine ae (c:=mkc KR5) Z4 aJ hm (WV k o t cs ns os fs ls ks ⟨rfl,λhp=>?_⟩);simp only[qc,Df,Dc,Du];obtain⟨⟨ho,hk⟩,t0,t1⟩:=hp;have hr:=sW (t:=t) cs ns os fs ls ks ho;have hv:=(dZ cs ns os fs ls ks ho).2.2.1;have hc:=(lg cs ns os fs ls ks ho.1 hk).2
 exact⟨ho,hk.1,hk.2,⟨ho,by omega,by omega⟩,⟨hv,hc.1,by show(aN (cs,ns,os,fs,ls,ks) k).2.2<1440;omega,by omega,by omega⟩,rfl,rfl⟩
theorem XN(k o a b:Int)(n:Net): af Tryz.prog G0 116 [.ip N n,.dat I k,.dat I o,.dat I a,.dat I b] [] ⟨True,.fn 173 [.ip I a,.ipv (.ip N n),.ip I o,.ip I k,.ip I b],[]⟩:=
 ae (c:=mkc KR2) uV aJ hm (QW k o a b n ⟨rfl,λ_=>⟨rfl,rfl,rfl,rfl,rfl,trivial⟩⟩)
theorem XO(k o a b:Int)(n:Net): mR Tryz.prog G0 173 [.ip I a,.ipv (.ip N n),.ip I o,.ip I k,.ip I b] ⟨F4 n k o a b,I,F5 n k o a b⟩:=by
 refine jF (c:=mkc KR3) (A:=aBH n k o a b) aDc aJ hm (QX k o a b n ⟨rfl,rfl,rfl,rfl,λl ⟨hoff,hcl,a0,hab,b1⟩=>?_⟩);have eN:(n.1,n.2.1,n.2.2.1,n.2.2.2.1,n.2.2.2.2.1,n.2.2.2.2.2)=n:=rfl;have eC:∀c:Int×List Bool×Li,(c.1,c.2.1,c.2.2)=c:=λ_=>rfl
 have eK:n.2.2.2.2.2.getD k.toNat (⟨#[]⟩,0,0)=aN n k:=rfl;have hv:ax (aj n o).1 (aj n o).2.1 (aj n o).2.2=true:=(dZ n.1 n.2.1 n.2.2.1 n.2.2.2.1 n.2.2.2.2.1 n.2.2.2.2.2 hoff).2.2.1;obtain⟨⟨m0,m1⟩,_⟩:=lg n.1 n.2.1 n.2.2.1 n.2.2.2.1 n.2.2.2.2.1 n.2.2.2.2.2 hoff.1 hcl;have m0:0<=(aN n k).2.1:=m0;have m1:(aN n k).2.1<=1439:=m1
 simp only[qc,Dk,Di,qd,Ec,Ed,Df,Dc,Dj,Du,eC,eK,yC,xG,and_false,qCr];refine⟨⟨(0,a),⟨⟨by simp only;omega,by simp only;omega⟩,wU _,rfl⟩,rfl,rfl⟩,?_⟩;rintro⟨j,t⟩ ⟨⟨t0,t1⟩,k1,hk⟩;simp only at t0 t1 k1 hk ⊢
 have hU:(b-a).toNat+1-j=((b-a).toNat+1-(j+1))+1:=by omega
 have hst:KJ (aj n o) (aN n k).2.1 b ((b-a).toNat+1-j) t=if ic (aj n o) (aN n k).2.1 t=0 then if dV (aj n o) (aN n k).2.1 t<b then dV (aj n o) (aN n k).2.1 t::KJ (aj n o) (aN n k).2.1 b ((b-a).toNat+1-(j+1)) (dV (aj n o) (aN n k).2.1 t+1)else[]else[]:=by rw[hU];rfl
 rw[hst]at hk;have hlen:∀{l:Li},(F5 n k o a b).drop j=l->(F5 n k o a b).length=j+l.length:=λh=>by
  have:=yA List.length h;rw[vY]at this;omega
 refine⟨hoff,hcl.1,hcl.2,⟨hv,m0,by omega,by omega,by omega⟩,λ⟨h1,h2⟩=>?_,λh=>?_⟩
 .have h2':dV (aj n o) (aN n k).2.1 t<b:=by omega
  obtain⟨b1,b2⟩:=gK hv h1 m0 m1;rw[if_pos h1,if_pos h2']at hk;have hl:=hlen hk;rw[wV]at hl;refine⟨?_,λbb=>⟨λh hb=>?_,λ⟨_,hb⟩=>⟨aM (by omega),(j+1,dV (aj n o) (aN n k).2.1 t+1),⟨⟨by simp only;omega,by simp only;omega⟩,by simp only;omega,?_⟩,⟨rfl,rfl,hb⟩,by simp only;omega⟩⟩⟩
  .show(F5 n k o a b)[j]?=some _;have:=yA (λl=>l[0]?) hk;simpa[qY]using this
  .rcases h with(h | h) | h
   .exact absurd h1 h
   .omega
   .rw[h]at hb;cases hb
  .show(F5 n k o a b).drop (j+1)=_;have:=yA (List.drop 1) hk
   rwa [yG]at this
 .have:(F5 n k o a b).drop j=[]:=by
   rw[hk];by_cases h1:ic (aj n o) (aN n k).2.1 t=0
   .rw[if_pos h1,if_neg (by omega)]
   .rw[if_neg h1]
  have hl:=hlen this;rw[yO]at hl;omega
theorem aFO: ak Tryz.prog G0 KC0:=ai (ag λ((z,w,h),a,b,_)=>M5 z w h a b)<|ai (ag λ((cs,ns,os,fs,ls,ks),k,o,t,_)=>XM k o t cs ns os fs ls ks)<|ai (ag λ(n,k,o,a,b,_)=>XN k o a b n) Z4
theorem KU{n:Net}{nx:Lj}{o d t:Int}(h:lj n nx o d t≠[]): ((lj n nx o d t).getD ((lj n nx o d t).length-1) (0,0,0,0)).2.1=rX n (pN nx) o d t:=by
 show _=((lj n nx o d t).getLastD (0,0,0,0)).2.1;rw[yZ,List.getLast?_eq_getElem?,qA]
theorem Ib{n:Net}{nx:Lj}{k o d cut:Int}(h:ig n nx o d cut≠0): rN n nx k o d cut=ig n nx o d cut:=if_pos h
theorem Ic{n:Net}{nx:Lj}{k o d cut:Int}(h:ig n nx o d cut=0)(h2:Ai n (pN nx) k o d cut≠0): rN n nx k o d cut=Ai n (pN nx) k o d cut:=by
 unfold rN;rw[if_neg (λg=>g h),if_pos h2]
theorem zp{n:Net}{nx:Lj}{k o d cut:Int}(h:ig n nx o d cut=0)(h2:Ai n (pN nx) k o d cut=0): rN n nx k o d cut=if KN n (pN nx) k o d cut<0 then 1 else 0:=by
 unfold rN;rw[if_neg (λg=>g h),if_neg (λg=>g h2)]
theorem MF(k o d cut:Int)(nx:Lj)(cs:LC)(ns os:LB)(fs:Lo)(ls:Ll)(ks:Lk): af Tryz.prog G0 117 [.ip N (cs,ns,os,fs,ls,ks),.dat M nx,.dat I k,.dat I o,.dat I d,.dat I cut] [] ⟨zo (cs,ns,os,fs,ls,ks) nx k o d cut/\isZero (rN (cs,ns,os,fs,ls,ks) nx k o d cut)=true,.dat I (UB (cs,ns,os,fs,ls,ks) nx k o d cut),[]⟩/\da Tryz.prog G0 117 [.ip N (cs,ns,os,fs,ls,ks),.dat M nx,.dat I k,.dat I o,.dat I d,.dat I cut] [] ⟨zo (cs,ns,os,fs,ls,ks) nx k o d cut,isZero (rN (cs,ns,os,fs,ls,ks) nx k o d cut),uH 39 (rN (cs,ns,os,fs,ls,ks) nx k o d cut)⟩:=by
 refine dF (c:=aCl) aFO aJ hm Iu (QV k o d cut nx cs ns os fs ls ks ⟨rfl,λhp=>?_⟩);obtain⟨n,hn⟩:∃n:Net,n=(cs,ns,os,fs,ls,ks):=⟨_,rfl⟩;rw[<- hn]at hp ⊢;obtain⟨hW,hcl⟩:=id hp;obtain⟨hs,ht,u0,u1,o0,o1,v0,v1⟩:=id hW;have hno:noF n=true:=aX n.1 n.2.1 n.2.2.1 n.2.2.2.1 n.2.2.2.2.1 n.2.2.2.2.2 hs;have hd:iT n d:=⟨hno,o0,o1⟩
 have hv:ax (aj n d).1 (aj n d).2.1 (aj n d).2.2=true:=(dZ n.1 n.2.1 n.2.2.1 n.2.2.2.1 n.2.2.2.2.1 n.2.2.2.2.2 hd).2.2.1;obtain⟨⟨z1,z2,_,_⟩,_⟩:=cA.1 hv;obtain⟨_,⟨m0,m1⟩⟩:=lg n.1 n.2.1 n.2.2.1 n.2.2.2.1 n.2.2.2.2.1 n.2.2.2.2.2 hno hcl;have m0:0<=(aN n k).2.2:=m0;have m1:(aN n k).2.2<=1439:=m1
 simp only[qc,qd,Ed,Df,Dc,Du];refine⟨⟨hW,λhz=>?_⟩,λhz=>⟨⟨hW,hz⟩,?_⟩⟩
 .have hz0:=cB.1 hz;rw[Ib hz0];exact⟨hz,rfl⟩
 have hz0:=b9.1 hz;obtain⟨w1,w2,w3,w4⟩:(lj n nx o d cut).length<=20/\lj n nx o d cut≠[]/\cut<=rX n (pN nx) o d cut/\rX n (pN nx) o d cut<=2200000:=DI 19 o cut hW hz0;have hlen:0<(lj n nx o d cut).length:=qCj.2 w2;have eI:((lj n nx o d cut).length-1:Int).toNat=(lj n nx o d cut).length-1:=by omega
 rw[eI,KU w2];obtain⟨T,hT⟩:∃T,T=rX n (pN nx) o d cut:=⟨_,rfl⟩;rw[<- hT]at w3 w4 ⊢;have eE:KH n k d T=Ai n (pN nx) k o d cut:=by rw[hT];rfl
 have eD:F2 n k d T=ZX n (pN nx) k o d cut:=by rw[hT];rfl
 refine⟨aM (by omega),by omega,by omega,⟨⟨hd,hcl⟩,by omega,w4⟩,λh0=>?_,λh0=>⟨h0,hd,?_⟩⟩
 .have h00:=cB.1 h0;rw[eE]at h00 h0 ⊢;rw[Ic hz0 h00];exact⟨h0,rfl⟩
 have h00:=b9.1 h0;have hf0:ic (aj n d) (aN n k).2.2 (ay n d T)=0:=h00;obtain⟨b1,b2⟩:=gK hv hf0 m0 m1;have hr:fx n d T:=⟨hd,by omega,by omega⟩;obtain⟨_,_,r1,r2⟩:inR .i64 ((cj n d).2.2.2.2.1*(cj n d).2.2.2.2.2.1)/\inR .i64 (ay n d T)/\T<=ay n d T/\ay n d T<=T+960:=sX n.1 n.2.1 n.2.2.1 n.2.2.2.1 n.2.2.2.2.1 n.2.2.2.2.2 hr;have b1:ay n d T<=F2 n k d T:=b1;have b2:F2 n k d T<=ay n d T+90000:=b2
 have dB:∀t:Int,0<=t->t<=3000000->bM (fC (aj n d).1 t)=true:=λt t0 t1=>gv (by unfold fC;omega) (by unfold fC;omega)
 have eV:lZ (aj n d).2.1 (aj n d).2.2 (fC (aj n d).1 cut) (fC (aj n d).1 (F2 n k d T))=KN n (pN nx) k o d cut:=by rw[eD];rfl
 have eR:Ai n (pN nx) k o d cut=0:=eE▸h00;refine⟨⟨hv,by omega,by omega⟩,⟨hv,by omega,by omega⟩,⟨hv,dB _ (by omega) (by omega),dB _ (by omega) (by omega)⟩,λh1=>?_,λh1=>⟨h1,?_,eV⟩⟩
 .rw[eV]at h1;rw[zp hz0 eR,if_pos (by omega)];exact⟨rfl,rfl⟩
 .rw[eV]at h1;rw[zp hz0 eR,if_neg (by omega)];rfl
theorem aCy: ak Tryz.prog G0 KC1:=ai (ag λ((cs,ns,os,fs,ls,ks),nx,k,o,d,c,_)=>(MF k o d c nx cs ns os fs ls ks).1) aFO
theorem ZE: bO Tryz.prog G0 aFT:=iH (jo λ((cs,ns,os,fs,ls,ks),nx,k,o,d,c,_)=>(MF k o d c nx cs ns os fs ls ks).2) Iu
theorem aCI: bv Tryz.prog G0 KIC:=by
 intro f caps it h;unfold KIC at h;split at h
 case isFalse=>cases h
 rename_i hf;subst hf;split at h
 case h_2=>cases h
 rename_i a n o k b _ hx;cases h;exact λhp l J JX JP w D us hD hG hu=>XO k o a b n hp l J JX JP w D us hD hG (fi hx hu)
theorem UC{n:Net}{k o a b x:Int}(h:F4 n k o a b)(hx:x∈F5 n k o a b): a<=x/\x<b:=by
 have hv:ax (aj n o).1 (aj n o).2.1 (aj n o).2.2=true:=(dZ n.1 n.2.1 n.2.2.1 n.2.2.2.1 n.2.2.2.2.1 n.2.2.2.2.2 h.1).2.2.1;obtain⟨⟨m0,m1⟩,_⟩:=lg n.1 n.2.1 n.2.2.1 n.2.2.2.1 n.2.2.2.2.1 n.2.2.2.2.2 h.1.1 h.2.1;have m0:0<=(aN n k).2.1:=m0;have m1:(aN n k).2.1<=1439:=m1;have:∀(f:Nat) (t:Int),x∈KJ (aj n o) (aN n k).2.1 b f t->t<=x/\x<b:=λf=>by
  induction f with
  | zero=>intro t h;cases h
  | succ f ih=>
   intro t h;rw[KJ]at h;split at h
   .rename_i he;obtain⟨b1,b2⟩:=gK hv he m0 m1;split at h
    .rcases zJ.1 h with rfl | h
     .exact⟨b1,by assumption⟩
     .have:=ih _ h;omega
    .cases h
   .cases h
 exact this _ _ hx
theorem YK{n:Net}{nx:Lj}{k o d a b y:Int}{j:Nat}(h:(zq n k o a b)[j]?=some y): NS n nx k o d a b (j+1)=max (NS n nx k o d a b j) (UB n nx k o d y):=by
 unfold NS;rw[wW,h,qBm,yN,qBu];rfl
theorem XL(k o d a b:Int)(nx:Lj)(n:Net): af Tryz.prog G0 55 [.ip N n,.dat M nx,.dat I k,.dat I o,.dat I d,.dat I a,.dat I b] [] ⟨cellP n nx k o d a b,.dat I (iI n nx k o d a b),[]⟩:=by
 refine qg (c:=aCj) (λ_ _ _ _ h=>by cases h) aCy aCI hm ZE (QU k o d a b nx n ⟨⟨rfl,rfl⟩,λhp=>?_⟩);simp only[qc,Di,Dj,Ez];obtain⟨⟨hs,ht,a0,ab,b6,b60⟩,hcl,ho,hd⟩:=id hp;have hno:noF n=true:=aX n.1 n.2.1 n.2.2.1 n.2.2.2.1 n.2.2.2.2.1 n.2.2.2.2.2 hs
 have hX:F4 n k o (1440*a) (1440*b):=⟨⟨hno,ho.1,ho.2⟩,hcl,by omega,by omega,by omega⟩;have hcB:F5 n k o (1440*a) (1440*b)=zq n k o a b:=rfl;refine⟨aM (by omega),aM (by omega),hX,⟨0,⟨hp,wU _,λi hi=>by omega⟩,rfl,rfl⟩,λx y hx hy=>?_,λx hx hl=>?_⟩
 .have hy:(zq n k o a b)[x]?=some y:=hy;have hxl:x<(zq n k o a b).length:=(qF.1 hy).1;have ey:(zq n k o a b).getD x 0=y:=by rw[qA,hy];rfl
  obtain⟨y0,y1⟩:=UC hX (zD hy);have hD:zo n nx k o d y:=⟨⟨hs,ht,ho.1,ho.2,hd.1,hd.2,by omega,by omega⟩,hcl⟩;refine⟨hD,λhz=>⟨⟨hD,hz⟩,x+1,⟨hp,hxl,λi hi=>?_⟩,rfl,(YK hy).symm⟩,λhz=>?_⟩
  .by_cases h3:i<x
   .exact hx.2.2 i h3
   .have:i=x:=by omega
    rw[this,ey];exact b9.1 hz
  .have hz0:=cB.1 hz;have eg:∀i:Nat,i<(zq n k o a b).length->((zq n k o a b).map (rN n nx k o d)).getD i 0=rN n nx k o d ((zq n k o a b).getD i 0):=λi hi=>by
    rw[qA,qP,qA,qB hi];rfl
   have hE:BG n nx k o d a b=rN n nx k o d y:=by
    unfold BG;rw[zb (j:=x) (by rw[vW];exact hxl) (λi hi=>by rw[eg i (by omega)];exact hx.2.2 i hi) (by rw[eg x hxl,ey];exact hz0),eg x hxl,ey]
   have hF:iI n nx k o d a b=-1:=by
    unfold iI;rw[if_neg (by rw[hE];exact hz0)]
   rw[hF];simp
 .have hE:BG n nx k o d a b=0:=by
   unfold BG;refine oN λi hi=>?_
   rw[vW]at hi;rw[qA,qP,qB hi];have:=hx.2.2 i (by rw[hl];exact hi);rw[qA,qB hi]at this;exact this
  have hF:iI n nx k o d a b=NS n nx k o d a b x:=by
   unfold iI;rw[if_pos hE,hl];rfl
  rw[hF];simp
end Go.Eng.Sv
set_option maxRecDepth 100000
noncomputable section
namespace Go.Eng.Sv
open Go.Proofs
def Yz(n:Net)(nx:Lj)(k o a b:Int): Li:=(List.range n.2.2.2.1.length).map λd:Nat=>iI n nx k o d a b
def Vp(n:Net)(nx:Lj)(k a b:Int): Lj:=(List.range n.2.2.2.1.length).map λo:Nat=>Yz n nx k o a b
def LV(n:Net)(nx:Lj)(a b:Int): Bool:=decide (0<=a/\a<b/\b<=600/\b-a<=60)&&(aO n&&lr n nx)
def DU(n:Net)(nx:Lj)(a b:Int): List (Lj):=if LV n nx a b=true then(List.range n.2.2.2.2.2.length).map λk:Nat=>Vp n nx k a b else[]
def upF{α:Type}(g:Int->α)(z:α)(l k:Int): List α:=((List.range k.toNat).map λi:Nat=>g i)++List.replicate (l-k).toNat z
def upI(g:Int->Int)(l k:Int): Li:=upF g 0 l k
def KB(g:Int->Li)(l k:Int): Lj:=upF g [] l k
def upM(g:Int->Lj)(l k:Int): List (Lj):=upF g [] l k
def nj(l:Int)(p:Int->Prop): Prop:=(0<=l/\l<=1000000)/\∀i,0<=i->i<l->p i
def toI(l k:Int): Prop:=0<=k/\k<=l
def NU(n:Net)(nx:Lj)(k o a b d:Int): Prop:=cellP n nx k o d a b
def NV(n:Net)(nx:Lj)(k o a b d:Int): Int:=iI n nx k o d a b
def Nu(n:Net)(nx:Lj)(k a b o:Int): Prop:=aDw n nx a b/\zv n k/\aEx n o
def Je(n:Net)(nx:Lj)(k a b o:Int): Li:=Yz n nx k o a b
def LZ(n:Net)(nx:Lj)(a b k:Int): Prop:=aDw n nx a b/\zv n k
def DV(n:Net)(nx:Lj)(a b k:Int): Lj:=Vp n nx k a b
def aBz(l:Int)(g:Int->Int): Ann:=⟨λid s=>match id with
 | 3=>match s.sig.T 5 with
  | .buf nm _=>some {α:=Int,inv:=λk=>toI l k,st:=λk=>iE (put s [(11,.dat I k)]) nm (.buf 3 I (upI g l k) []),μ:=λk=>Dc (Dh l k)}
  | _=>none
 | _=>none,λ_ _=>none,λ_ _=>none⟩
def aBx(l:Int)(g:Int->Li): Ann:=⟨λid s=>match id with
 | 3=>match s.sig.T 5 with
  | .buf nm _=>some {α:=Int,inv:=λk=>toI l k,st:=λk=>iE (put s [(11,.dat I k)]) nm (.buf 36 R (KB g l k) []),μ:=λk=>Dc (Dh l k)}
  | _=>none
 | _=>none,λ_ _=>none,λ_ _=>none⟩
def aBy(l:Int)(g:Int->Lj): Ann:=⟨λid s=>match id with
 | 3=>match s.sig.T 5 with
  | .buf nm _=>some {α:=Int,inv:=λk=>toI l k,st:=λk=>iE (put s [(11,.dat I k)]) nm (.buf 32 M (upM g l k) []),μ:=λk=>Dc (Dh l k)}
  | _=>none
 | _=>none,λ_ _=>none,λ_ _=>none⟩
theorem QN(l:Int)(p:Int->Prop)(g:Int->Int)(hvc:
 let c6:=Dc l;let c5:=Ty.int .i64;let c1:=Ep l (0:Int);true/\(nj l p->0<=l/\(Dx 8*l)<=281474976710656/\l<=9223372036854775807/\Dj c1=Dc l/\(∃x,toI l x/\AV.clo1 c5 c5 p g=AV.clo1 c5 c5 p g/\Value.slice none 0 0=Value.slice none 0 0/\Dc l=Dc l/\Int.ofNat c6=Int.ofNat c6/\0=x/\c1=upI g l x/\True)/\∀(x:Int),let c2:=Dp x (Int.ofNat c6);let c3:=Dj (upI g l x);let c4:=x+1;toI l x->(c2->p x/\c3=Dc l/\0<=x/\x<Dx c3/\c3=Dc l/\inR .i64 c4/\∃y,toI l y/\(AV.clo1 c5 c5 p g=AV.clo1 c5 c5 p g/\Value.slice none 0 0=Value.slice none 0 0/\Dc l=Dc l/\Int.ofNat c6=Int.ofNat c6/\c4=y/\En (upI g l x) (Dc x) (g x)=upI g l y/\True)/\Dc (l-y)<Dc (l-x))/\(c2=false->c3=Dc l/\upI g l x=upI g l l/\True))):
  evF (mkc KC1) (lvA [(3,[1,4,5,6,10,11])] (aBz l g)) 53 [.dat I l,.clo1 I I p g] [] ⟨nj l p,.dat R (upI g l l),[]⟩:=oE hvc
theorem QL(l:Int)(p:Int->Prop)(g:Int->Li)(hvc:
 let c6:=Dc l;let c5:=Ty.int .i64;let c1:=Ep l (Dt Int);true/\(nj l p->0<=l/\(Dx 24*l)<=281474976710656/\l<=9223372036854775807/\Dj c1=Dc l/\(∃x,toI l x/\AV.clo1 c5 c5.sl p g=AV.clo1 c5 c5.sl p g/\Value.slice none 0 0=Value.slice none 0 0/\Dc l=Dc l/\Int.ofNat c6=Int.ofNat c6/\0=x/\c1=KB g l x/\True)/\∀(x:Int),let c2:=Dp x (Int.ofNat c6);let c3:=Dj (KB g l x);let c4:=x+1;toI l x->(c2->p x/\c3=Dc l/\0<=x/\x<Dx c3/\c3=Dc l/\inR .i64 c4/\∃y,toI l y/\(AV.clo1 c5 c5.sl p g=AV.clo1 c5 c5.sl p g/\Value.slice none 0 0=Value.slice none 0 0/\Dc l=Dc l/\Int.ofNat c6=Int.ofNat c6/\c4=y/\En (KB g l x) (Dc x) (g x)=KB g l y/\True)/\Dc (l-y)<Dc (l-x))/\(c2=false->c3=Dc l/\KB g l x=KB g l l/\True))):
  evF (mkc KC1) (lvA [(3,[1,4,5,6,10,11])] (aBx l g)) 51 [.dat I l,.clo1 I R p g] [] ⟨nj l p,.dat M (KB g l l),[]⟩:=oE hvc
theorem QM(l:Int)(p:Int->Prop)(g:Int->Lj)(hvc:
 let c6:=Dc l;let c5:=Ty.int .i64;let c1:=Ep l (Dt (Li));true/\(nj l p->0<=l/\(Dx 24*l)<=281474976710656/\l<=9223372036854775807/\Dj c1=Dc l/\(∃x,toI l x/\AV.clo1 c5 c5.sl.sl p g=AV.clo1 c5 c5.sl.sl p g/\Value.slice none 0 0=Value.slice none 0 0/\Dc l=Dc l/\Int.ofNat c6=Int.ofNat c6/\0=x/\c1=upM g l x/\True)/\∀(x:Int),let c2:=Dp x (Int.ofNat c6);let c3:=Dj (upM g l x);let c4:=x+1;toI l x->(c2->p x/\c3=Dc l/\0<=x/\x<Dx c3/\c3=Dc l/\inR .i64 c4/\∃y,toI l y/\(AV.clo1 c5 c5.sl.sl p g=AV.clo1 c5 c5.sl.sl p g/\Value.slice none 0 0=Value.slice none 0 0/\Dc l=Dc l/\Int.ofNat c6=Int.ofNat c6/\c4=y/\En (upM g l x) (Dc x) (g x)=upM g l y/\True)/\Dc (l-y)<Dc (l-x))/\(c2=false->c3=Dc l/\upM g l x=upM g l l/\True))):
  evF (mkc KC1) (lvA [(3,[1,4,5,6,10,11])] (aBy l g)) 49 [.dat I l,.clo1 I M p g] [] ⟨nj l p,.dat (.sl M) (upM g l l),[]⟩:=oE hvc
def KC2: Kt:=kOr 55 (az [.ptr N,.val M,.val I,.val I,.val I,.val I,.val I] (λ(n,nx,k,o,d,a,b,_)=>cellP n nx k o d a b) λ(n,nx,k,o,d,a,b,_)=>.dat I (iI n nx k o d a b)) KC1
theorem WM(d k o a b:Int)(nx:Lj)(n:Net)(hvc:
 true/\(NU n nx k o a b d->cellP n nx k o d a b/\iI n nx k o d a b=NV n nx k o a b d/\True)):
  evF (mkc KC2) aA 54 [.dat I d,.ip N n,.ip M nx,.ip I k,.ip I o,.ip I a,.ip I b] [] ⟨NU n nx k o a b d,.dat I (NV n nx k o a b d),[]⟩:=oE hvc
def Np(args:List AV)(m:Mem): Option jP:=match m,args with
 | [],[.dat (.int .i64) l,.fn f caps]=>if f=54 then match ofK [.ptr N,.ptr M,.ptr I,.ptr I,.ptr I,.ptr I] caps with
  | some (n,nx,k,o,a,b,_)=>some ⟨nj l (NU n nx k o a b),.dat R (upI (NV n nx k o a b) l l),[]⟩
  | none=>none
  else none
 | _,_=>none
def KC3: Kt:=kOr 53 Np KC2
theorem WN(o k a b:Int)(nx:Lj)(n:Net)(hvc:
 let c1:=Df n.2.2.2.1;true/\(Nu n nx k a b o->nj c1 (NU n nx k o a b)/\upI (NV n nx k o a b) c1 c1=Je n nx k a b o/\True)):
  evF (mkc KC3) aA 52 [.dat I o,.ip N n,.ip M nx,.ip I k,.ip I a,.ip I b] [] ⟨Nu n nx k a b o,.dat R (Je n nx k a b o),[]⟩:=oE hvc
def Nj(args:List AV)(m:Mem): Option jP:=match m,args with
 | [],[.dat (.int .i64) l,.fn f caps]=>if f=52 then match ofK [.ptr N,.ptr M,.ptr I,.ptr I,.ptr I] caps with
  | some (n,nx,k,a,b,_)=>some ⟨nj l (Nu n nx k a b),.dat M (KB (Je n nx k a b) l l),[]⟩
  | none=>none
  else none
 | _,_=>none
def KC4: Kt:=kOr 51 Nj KC3
theorem WO(k a b:Int)(nx:Lj)(n:Net)(hvc:
 let c1:=Df n.2.2.2.1;true/\(LZ n nx a b k->nj c1 (Nu n nx k a b)/\KB (Je n nx k a b) c1 c1=DV n nx a b k/\True)):
  evF (mkc KC4) aA 50 [.dat I k,.ip N n,.ip M nx,.ip I a,.ip I b] [] ⟨LZ n nx a b k,.dat M (DV n nx a b k),[]⟩:=oE hvc
def Nl(args:List AV)(m:Mem): Option jP:=match m,args with
 | [],[.dat (.int .i64) l,.fn f caps]=>if f=50 then match ofK [.ptr N,.ptr M,.ptr I,.ptr I] caps with
  | some (n,nx,a,b,_)=>some ⟨nj l (LZ n nx a b),.dat (.sl M) (upM (DV n nx a b) l l),[]⟩
  | none=>none
  else none
 | _,_=>none
def KC5: Kt:=kOr 49 Nl KC4
theorem Lh(nx:Lj)(a b:Int)(cs:LC)(ns os:LB)(fs:Lo)(ls:Ll)(ks:Lk)(hvc:
 let c1:=Dp a 0;let c2:=Di c1;let c3:=Dz c1 true (Eh b a);let c4:=Di c3;let c5:=Dz c3 true (Ei b 600);let c6:=Di c5;let c14:=c6->c6->c6;let c7:=Dz c5 true (Ei (b-a) 60);let c8:=(cs,ns,os,fs,ls,ks);let c9:=DU c8 nx a b;let c10:=Di (aO c8);let c11:=Di c10;let c12:=Dz c10 true (Di (lr c8 nx));let c13:=Df ks;true/\(bZ nx->(c2->c2->c2)/\(c2->c2->c2)/\(Dk true c2->c2)/\(c4->c4->c4)/\(Dk true c4->c4)/\c14/\c14/\(c6->inR .i64 (b-a))/\c14/\(Dk true c6->c6)/\(c7->c9=Dt (Lj)/\True)/\(c7=false->True/\(c11->c11->c11)/\(c11->bZ nx)/\(c11->c11->c11)/\(Dk true c11->c11)/\(c12->c9=Dt (Lj)/\True)/\(c12=false->nj c13 (LZ c8 nx a b)/\upM (DV c8 nx a b) c13 c13=c9/\True)))):
  evF (mkc KC5) aA 13 [net cs ns os fs ls ks,.dat M nx,.dat I a,.dat I b] [] ⟨bZ nx,.dat (.sl M) (DU (cs,ns,os,fs,ls,ks) nx a b),[]⟩:=oE hvc
theorem rZ{α:Type}{g:Int->α}{z:α}{l k:Int}(h:toI l k): (upF g z l k).length=l.toNat:=by
 obtain⟨h1,h2⟩:=h;unfold upF;rw[qG,vW,wC,wJ];omega
theorem nO{α:Type}{g:Int->α}{z:α}{l:Int}: List.replicate l.toNat z=upF g z l 0:=by
 unfold upF;simp
theorem px{α:Type}{g:Int->α}{z:α}{l:Int}: upF g z l l=(List.range l.toNat).map λi:Nat=>g i:=by
 unfold upF;simp
theorem xf{α:Type}{g:Int->α}{z:α}{l k:Int}(k0:0<=k)(k1:k<l): (upF g z l k).set k.toNat (g k)=upF g z l (k+1):=by
 unfold upF;have e:(k+1).toNat=k.toNat+1:=by omega
 have e2:(l-k).toNat=(l-(k+1)).toNat+1:=by omega
 rw[e,e2,zW,yN,qBh,List.set_append,if_neg (by simp)];rw[vW,wC,qCe,List.set_cons_zero,List.map_singleton,wG];have e3:((k.toNat:Nat):Int)=k:=by omega
 rw[e3];rfl
theorem rows_ok{α:Type}{g:Int->α}{z:α}{l:Int}{p:Int->Prop}(l0:0<=l)(l1:l<=1000000)(hp:∀i,0<=i->i<l->p i){q:Int->Prop}{m:Int}(hm:m<=100)(m0:0<=m)(hq:∀x,0<=x/\x<=1000001->q x):
  0<=l/\m*l<=281474976710656/\l<=9223372036854775807/\(List.replicate l.toNat z).length=l.toNat/\(∃x,toI l x/\0=x/\List.replicate l.toNat z=upF g z l x)/\
  ∀x,toI l x->(x<((l.toNat:Nat):Int)->p x/\(upF g z l x).length=l.toNat/\0<=x/\x<((upF g z l x).length:Int)/\(upF g z l x).length=l.toNat/\q (x+1)/\∃y,toI l y/\(x+1=y/\(upF g z l x).set x.toNat (g x)=upF g z l y)/\(l-y).toNat<(l-x).toNat)/\
   (¬x<((l.toNat:Nat):Int)->(upF g z l x).length=l.toNat/\upF g z l x=upF g z l l):=by
 have hml:m*l<=100*1000000:=xI hm l1 l0 (by omega);refine⟨l0,by omega,by omega,by simp,⟨0,⟨by omega,l0⟩,rfl,nO⟩,λx hx=>⟨λhlt=>?_,λhge=>?_⟩⟩
 .have hl:=rZ (g:=g) (z:=z) hx;have h0:=hx.1;exact⟨hp x h0 (by omega),hl,h0,by omega,hl,hq _ (by omega),x+1,⟨by omega,by omega⟩,⟨rfl,xf h0 (by omega)⟩,by omega⟩
 .have hl:=rZ (g:=g) (z:=z) hx;obtain⟨h0,h1⟩:=hx;exact⟨hl,by rw[show x=l by omega]⟩
theorem XH(l:Int)(p:Int->Prop)(g:Int->Int): af Tryz.prog G0 53 [.dat I l,.clo1 I I p g] [] ⟨nj l p,.dat R (upI g l l),[]⟩:=by
 refine ae (c:=mkc KC1) aCy aJ hm (QN l p g ⟨rfl,λhp=>?_⟩);obtain⟨⟨l0,l1⟩,hp⟩:=hp;simp only[qc,qd,Dp,Dc,Dx,Dj,En,Ep];exact rows_ok l0 l1 hp (by omega) (by omega) (λx hx=>aM (by omega))
theorem XF(l:Int)(p:Int->Prop)(g:Int->Li): af Tryz.prog G0 51 [.dat I l,.clo1 I R p g] [] ⟨nj l p,.dat M (KB g l l),[]⟩:=by
 refine ae (c:=mkc KC1) aCy aJ hm (QL l p g ⟨rfl,λhp=>?_⟩);obtain⟨⟨l0,l1⟩,hp⟩:=hp;simp only[qc,qd,Dt,Dp,Dc,Dx,Dj,En,Ep];exact rows_ok l0 l1 hp (by omega) (by omega) (λx hx=>aM (by omega))
theorem XG(l:Int)(p:Int->Prop)(g:Int->Lj): af Tryz.prog G0 49 [.dat I l,.clo1 I M p g] [] ⟨nj l p,.dat (.sl M) (upM g l l),[]⟩:=by
 refine ae (c:=mkc KC1) aCy aJ hm (QM l p g ⟨rfl,λhp=>?_⟩);obtain⟨⟨l0,l1⟩,hp⟩:=hp;simp only[qc,qd,Dt,Dp,Dc,Dx,Dj,En,Ep];exact rows_ok l0 l1 hp (by omega) (by omega) (λx hx=>aM (by omega))
theorem aFN: ak Tryz.prog G0 KC2:=ai (ag λ(n,nx,k,o,d,a,b,_)=>XL k o d a b nx n) aCy
theorem aAP(d k o a b:Int)(nx:Lj)(n:Net): af Tryz.prog G0 54 [.dat I d,.ip N n,.ip M nx,.ip I k,.ip I o,.ip I a,.ip I b] [] ⟨NU n nx k o a b d,.dat I (NV n nx k o a b d),[]⟩:=
 ae (c:=mkc KC2) aFN aJ hm (WM d k o a b nx n ⟨rfl,λhp=>⟨hp,rfl,trivial⟩⟩)
theorem ub{P:Program}{C:Ctx}{f:FuncId}{l:List AK}{caps:List AV}{x:AKs l}{v:Value}(h:ofK l caps=some x)(hv:(AV.fn f caps).rel P C v): (AV.fn f (avK l x)).rel P C v:=by
 obtain⟨us,rfl,hc⟩:=hv;exact⟨us,rfl,fi h hc⟩
theorem Nn: ∀args m c,Np args m=some c->af Tryz.prog G0 53 args m c:=by
 intro args m c hc;unfold Np at hc;split at hc
 case h_2=>cases hc
 rename_i l f caps;split at hc
 case isFalse=>cases hc
 rename_i hf;subst hf;split at hc
 case h_2=>cases hc
 rename_i n nx k o a b _ hx;cases hc;exact(XH _ _ _).args λC us hG hu=>f9 hu λv hv=>jM (by kernel_rfl) rfl (λx=>aAP x k o a b nx n) hG (ub hx hv)
theorem aFM: ak Tryz.prog G0 KC3:=ai Nn aFN
theorem Zm(cs:LC)(ns os:LB)(fs:Lo)(ls:Ll)(ks:Lk)(h:noF (cs,ns,os,fs,ls,ks)=true): (ks.length:Int)<=4:=by
 have:=((rL (by decide)).1 (je cs ns os fs ls ks h).2.2.2.2.2).1;simpa[aF]using this
theorem nt(cs:LC)(ns os:LB)(fs:Lo)(ls:Ll)(ks:Lk)(h:aO (cs,ns,os,fs,ls,ks)=true): (fs.length:Int)<=12/\(ks.length:Int)<=1000000:=by
 have hno:=aX cs ns os fs ls ks h;exact⟨(fK cs ns os fs ls ks hno).1,by have:=Zm cs ns os fs ls ks hno;omega⟩
theorem aAQ(o k a b:Int)(nx:Lj)(n:Net): af Tryz.prog G0 52 [.dat I o,.ip N n,.ip M nx,.ip I k,.ip I a,.ip I b] [] ⟨Nu n nx k a b o,.dat R (Je n nx k a b o),[]⟩:=by
 refine ae (c:=mkc KC3) aFM aJ hm (WN o k a b nx n ⟨rfl,λ⟨ht,hk,ho⟩=>?_⟩);simp only[qc,Df];obtain⟨q1,q2⟩:=nt n.1 n.2.1 n.2.2.1 n.2.2.2.1 n.2.2.2.2.1 n.2.2.2.2.2 ht.1;have q1:(n.2.2.2.1.length:Int)<=12:=q1;refine⟨⟨⟨by omega,by omega⟩,λd d0 d1=>⟨ht,hk,ho,d0,d1⟩⟩,?_⟩;unfold upI Je Yz
 rw[px,vC];rfl
theorem Ni: ∀args m c,Nj args m=some c->af Tryz.prog G0 51 args m c:=by
 intro args m c hc;unfold Nj at hc;split at hc
 case h_2=>cases hc
 rename_i l f caps;split at hc
 case isFalse=>cases hc
 rename_i hf;subst hf;split at hc
 case h_2=>cases hc
 rename_i n nx k a b _ hx;cases hc;exact(XF _ _ _).args λC us hG hu=>f9 hu λv hv=>jM (by kernel_rfl) rfl (λx=>aAQ x k a b nx n) hG (ub hx hv)
theorem aFL: ak Tryz.prog G0 KC4:=ai Ni aFM
theorem aAR(k a b:Int)(nx:Lj)(n:Net): af Tryz.prog G0 50 [.dat I k,.ip N n,.ip M nx,.ip I a,.ip I b] [] ⟨LZ n nx a b k,.dat M (DV n nx a b k),[]⟩:=by
 refine ae (c:=mkc KC4) aFL aJ hm (WO k a b nx n ⟨rfl,λ⟨ht,hk⟩=>?_⟩);simp only[qc,Df];obtain⟨q1,q2⟩:=nt n.1 n.2.1 n.2.2.1 n.2.2.2.1 n.2.2.2.2.1 n.2.2.2.2.2 ht.1;have q1:(n.2.2.2.1.length:Int)<=12:=q1;refine⟨⟨⟨by omega,by omega⟩,λo o0 o1=>⟨ht,hk,o0,o1⟩⟩,?_⟩;unfold KB DV Vp
 rw[px,vC];rfl
theorem Nk: ∀args m c,Nl args m=some c->af Tryz.prog G0 49 args m c:=by
 intro args m c hc;unfold Nl at hc;split at hc
 case h_2=>cases hc
 rename_i l f caps;split at hc
 case isFalse=>cases hc
 rename_i hf;subst hf;split at hc
 case h_2=>cases hc
 rename_i n nx a b _ hx;cases hc;exact(XG _ _ _).args λC us hG hu=>f9 hu λv hv=>jM (by kernel_rfl) rfl (λx=>aAR x a b nx n) hG (ub hx hv)
theorem aGo: ak Tryz.prog G0 KC5:=ai Nk aFL
theorem R1(nx:Lj)(a b:Int)(cs:LC)(ns os:LB)(fs:Lo)(ls:Ll)(ks:Lk): af Tryz.prog G0 13 [net cs ns os fs ls ks,.dat M nx,.dat I a,.dat I b] [] ⟨bZ nx,.dat (.sl M) (DU (cs,ns,os,fs,ls,ks) nx a b),[]⟩:=by
 refine ae (c:=mkc KC5) aGo aJ hm (Lh nx a b cs ns os fs ls ks ⟨rfl,λhp=>?_⟩);simp only[qc,Dk,Di,qd,Dt,Dp,Ei,Eh,Df];have no:¬LV (cs,ns,os,fs,ls,ks) nx a b=true->DU (cs,ns,os,fs,ls,ks) nx a b=[]:=λh=>if_neg h
 have iff:LV (cs,ns,os,fs,ls,ks) nx a b=true↔(0<=a/\a<b/\b<=600/\b-a<=60)/\aO (cs,ns,os,fs,ls,ks)=true/\lr (cs,ns,os,fs,ls,ks) nx=true:=by
  unfold LV;rw[qC,qC,qE]
 refine⟨λh=>aM (by omega),λh=>no (λg=>by have:=(iff.1 g).1;omega),λh=>⟨λ_=>hp,λg=>no (λq=>?_),λ⟨g1,g2⟩=>?_⟩⟩
 .have:=(iff.1 q).2;rcases g with g | g<;>simp[g]at this
 .obtain⟨q1,q2⟩:=nt cs ns os fs ls ks g1;refine⟨⟨⟨by omega,by omega⟩,λk k0 k1=>⟨⟨g1,g2,by omega,by omega,by omega,by omega⟩,k0,k1⟩⟩,?_⟩;unfold DU;rw[if_pos (iff.2 ⟨by omega,g1,g2⟩)];unfold upM DV;rw[px,vC]
end Go.Eng.Sv
set_option maxRecDepth 100000
noncomputable section
namespace Go.Eng.Sv
open Go.Proofs
open Go.Eng.Mp (aL cD qj upto at2 oM)
def oy(p:Int): Bool:=decide (2<=p)&&decide (p<=64)
def qo(b e:Int): Int:=b ^ e.toNat
def YE(b e:Int): Prop:=0<=b/\b<=64/\e<=4
def Tn(b e k:Int): Prop:=YE b e/\0<=k/\(k<=e\/k=0)
def MX(p q n:Int): Bool:=(((oy p&&decide (1<=q))&&decide (q<=4))&&decide (0<=n))&&decide (n<=2000)
def D8(p q n:Int): Int:=if MX p q n=true then if qo p q<n then 140 else 0 else 1
def aCP(p k d:Int): Int:=Int.tmod (Int.tdiv d (qo p k)) p
def Vy(p q n:Int): Lj:=if D8 p q n=0 then(List.range q.toNat).map λk:Nat=>(List.range n.toNat).map λd:Nat=>aCP p k d else[]
def Yj(p q n k:Int): Lj:=((List.range k.toNat).map λj:Nat=>(List.range n.toNat).map λd:Nat=>aCP p j d)++List.replicate (q-k).toNat []
def ZQ(p n j k:Int): Li:=upF (aCP p j) 0 n k
def MW(p q n k:Int): Prop:=D8 p q n=0/\0<=k/\k<=q
def SQ(p q n j k:Int): Prop:=MW p q n j/\j<q/\0<=k/\k<=n
def lh(a b:Int): Bool:=((decide (0<=a)&&decide (a<b))&&decide (b<=600))&&decide (b-a<=60)
def KC6: Kt:=kOr 20 (az [.row N,.row Pl] (λ(_,p,_)=>fQ p) λ(n,p,_)=>.tup [.agg [.dat R (wrN n p),.dat I (wrS n p)],.dat I (wrE n p)]) <|
 kOr 13 (az [.row N,.val M,.val I,.val I] (λ(_,nx,_,_,_)=>bZ nx) λ(n,nx,a,b,_)=>.dat (.sl M) (DU n nx a b)) <|
 kOr 23 (az [.row N,.val I,.val I] (λ_=>True) λ(n,a,b,_)=>.dat M (lJ n a b)) KQ3
theorem W0(p:Int)(hvc:
 let c1:=Ed p 2;true/\(True->(c1->c1->c1)/\(Dk true c1->c1)/\Dz c1 (Eh p 64) false=oy p/\True)):
  evF (mkc KC6) aA 84 [.dat I p] [] ⟨True,.dat .bool (oy p),[]⟩:=oE hvc
def aF3(b e:Int): Ann:=⟨λid s=>match id with
 | 3=>some {α:=Int,inv:=λk=>Tn b e k,st:=λk=>put s [(7,.dat I k),(5,.dat I (qo b k))],μ:=λk=>Dc (Dh e k)}
 | _=>none,λ_ _=>none,λ_ _=>none⟩
theorem aAa(b e:Int)(hvc:
 true/\(YE b e->(∃x,Tn b e x/\b=b/\(0:Int)=(0:Int)/\1=qo b x/\e=e/\0=x/\True)/\∀(x:Int),let c1:=qo b x*b;let c2:=x+1;Tn b e x->(Dp x e->inR .i64 c1/\inR .i64 c2/\∃y,Tn b e y/\(b=b/\(0:Int)=(0:Int)/\c1=qo b y/\e=e/\c2=y/\True)/\Dc (e-y)<Dc (e-x))/\(Dp x e=false->qo b x=qo b e/\True))):
  evF (mkc KC6) (lvA [(3,[0,4,5,6,7])] (aF3 b e)) 85 [.dat I b,.dat I e] [] ⟨YE b e,.dat I (qo b e),[]⟩:=oE hvc
def KC7: Kt:=kOr 84 (az [.val I] (λ_=>True) λ(p,_)=>.dat .bool (oy p)) <|
 kOr 85 (az [.val I,.val I] (λ(b,e,_)=>YE b e) λ(b,e,_)=>.dat I (qo b e)) KC6
def aF1(p q n:Int): Ann:=⟨λid s=>match id with
 | 7=>match s.sig.T 8 with
  | .buf nm _=>some {α:=Int,inv:=λk=>MW p q n k,st:=λk=>iE (put s [(38,.dat I k)]) nm (.mat 36 3 I (Yj p q n k) []),μ:=λk=>Dc (Dh q k)}
  | _=>none
 | 11=>match s.sig.T 9,s.sig.T 8,s.sig.T 44 with
  | .dat (.int .i64) j,.buf nm _,.buf nm2 n2=>some {α:=Int,inv:=λk=>SQ p q n j k,st:=λk=>iE (iE (put s [(47,.dat I k)]) nm (.mat 36 3 I (Yj p q n j) [(Dc j,.buf nm2 n2)])) nm2 (.buf 3 I (ZQ p n j k) []),μ:=λk=>Dc (Dh n k)}
  | _,_,_=>none
 | _=>none,λ_ _=>none,λ_ _=>none⟩
theorem gO(p q n:Int)(hvc:
 let c18:=Di (oy p);let c1:=Dz c18 true (Dp q 1);let c2:=Di c1;let c3:=Dz c1 true (Ei q 4);let c4:=Di c3;let c5:=Dz c3 true (Dp n 0);let c6:=Di c5;let c7:=Dz c5 true (Ei n 2000);let c8:=Dp (qo p q) n;let c9:=Ep n (0:Int);true/\(True->True/\(Di c18->Di c18->Di c18)/\(Dk true (Di c18)->Di c18)/\(c2->c2->c2)/\(Dk true c2->c2)/\(c4->c4->c4)/\(Dk true c4->c4)/\(c6->c6->c6)/\(Dk true c6->c6)/\(c7->Vy p q n=Dt (Li)/\1=D8 p q n/\True)/\(c7=false->YE p q/\(c8->Vy p q n=Dt (Li)/\140=D8 p q n/\True)/\(c8=false->0<=q/\(Dx 24*q)<=281474976710656/\q<=9223372036854775807/\(∃x,let c10:=Yj p q n x;MW p q n x/\p=p/\n=n/\Value.slice none 0 0=Value.slice none 0 0/\(0:Int)=(0:Int)/\Dc q=Dc q/\q=q/\0=x/\Ep q (Dt Int)=c10/\Fb c10/\True)/\∀(x:Int),let c11:=Yj p q n x;let c12:=Dj c11;let c13:=x+1;MW p q n x->(Dp x q->0<=n/\(Dx 8*n)<=281474976710656/\n<=9223372036854775807/\c12=Dc q/\0<=x/\x<Dx c12/\c12=Dc q/\Dj c9=Dc n/\(∃x_3,SQ p q n x x_3/\p=p/\n=n/\Value.slice none 0 0=Value.slice none 0 0/\(0:Int)=(0:Int)/\Dc q=Dc q/\x=x/\q=q/\x=x/\n=n/\0=x_3/\c11=c11/\Dc x=Dc x/\Dc n=Dc n/\c9=ZQ p n x x_3/\True)/\∀(x_3:Int),let c14:=Gg x_3 (qo p x);let c15:=ZQ p n x x_3;let c16:=Dj c15;let c17:=x_3+1;
 SQ p q n x x_3->(Dp x_3 n->c12=Dc q/\0<=x/\x<Dx c12/\c12=Dc q/\Dc x=Dc x/\YE p x/\qo p x≠0/\inR .i64 c14/\p≠0/\c16=Dc n/\0<=x_3/\x_3<Dx c16/\c16=Dc n/\inR .i64 c17/\∃y,SQ p q n x y/\(p=p/\n=n/\Value.slice none 0 0=Value.slice none 0 0/\(0:Int)=(0:Int)/\Dc q=Dc q/\x=x/\q=q/\x=x/\n=n/\c17=y/\c11=c11/\Dc x=Dc x/\Dc n=Dc n/\En c15 (Dc x_3) (Fp c14 p)=ZQ p n x y/\True)/\Dc (n-y)<Dc (n-x_3))/\(Dp x_3 n=false->inR .i64 c13/\∃y,MW p q n y/\(p=p/\n=n/\Value.slice none 0 0=Value.slice none 0 0/\(0:Int)=(0:Int)/\Dc q=Dc q/\q=q/\c13=y/\Dj c15=Dc n/\En c11 (Dc x) c15=Yj p q n y/\True)/\Dc (q-y)<Dc (q-x)))/\(Dp x q=false->Dj c11=Dc q/\c11=Vy p q n/\0=D8 p q n/\True))))):
  evF (mkc KC7) (lvA [(7,[0,2,6,7,8,9,10,37,38,46,47]),(11,[0,2,6,7,8,9,10,37,38,46,47])] (aF1 p q n)) 28 [.dat I p,.dat I q,.dat I n] [] ⟨True,.tup [.dat M (Vy p q n),.dat I (D8 p q n)],[]⟩:=oE hvc
theorem Ru(a b:Int)(hvc:
 let c1:=Ed a 0;let c2:=Dz c1 (Ei b a) false;let c3:=Dz c2 (Eh b 600) false;let c4:=c3->c3->c3;true/\(True->(c1->c1->c1)/\(c1->c1->c1)/\(Dk true c1->c1)/\(c2->c2->c2)/\(Dk true c2->c2)/\c4/\c4/\(c3->inR .i64 (b-a))/\c4/\(Dk true c3->c3)/\Dz c3 (Eh (b-a) 60) false=lh a b/\True)):
  evF (mkc KC7) aA 105 [.dat I a,.dat I b] [] ⟨True,.dat .bool (lh a b),[]⟩:=oE hvc
theorem LJ(cs:LC)(ns os:LB)(fs:Lo)(ls:Ll)(ks:Lk)(hvc:
 let c1:=(cs,ns,os,fs,ls,ks);true/\(True->True/\Ea (Df (fA c1)) 0=aO c1/\True)):
  evF (mkc KC7) aA 43 [net cs ns os fs ls ks] [] ⟨True,.dat .bool (aO (cs,ns,os,fs,ls,ks)),[]⟩:=oE hvc
theorem aE5: ak Tryz.prog G0 KC6:=ai (ag λ((cs,ns,os,fs,ls,ks),(p1,p2,nx,dy),_)=>Xy cs ns os fs ls ks p1 p2 nx dy)<|ai (ag λ((cs,ns,os,fs,ls,ks),nx,a,b,_)=>R1 nx a b cs ns os fs ls ks)<|ai (ag λ((cs,ns,os,fs,ls,ks),a,b,_)=>XI a b cs ns os fs ls ks) aFG
theorem aAX(p:Int): af Tryz.prog G0 84 [.dat I p] [] ⟨True,.dat .bool (oy p),[]⟩:=by
 refine ae (c:=mkc KC6) aE5 aJ hm (W0 p ⟨rfl,λ_=>?_⟩);refine⟨λh _=>h,λh=>h,?_,trivial⟩;unfold oy;cases e:decide (2<=p)<;>simp[Dz,Ed,Eh,e]<;>simpa using e
theorem EH{b:Int}(h0:0<=b)(h1:b<=64): ∀k:Nat,0<=b ^ k/\b ^ k<=64 ^ k
 | 0=>by simp
 | k+1=>by
  obtain⟨i0,i1⟩:=EH h0 h1 k;rw[Int.pow_succ,Int.pow_succ];exact⟨qAb i0 h0,xI i1 h1 h0 (qAv i0 i1)⟩
theorem aBF{b e:Int}(h0:0<=b)(h1:b<=64)(he:e<=4): 0<=qo b e/\qo b e<=16777216:=by
 unfold qo;obtain⟨i0,i1⟩:=EH h0 h1 e.toNat;have:e.toNat<=4:=by omega
 refine⟨i0,qAv i1 ?_⟩;rcases(by omega:e.toNat=0\/e.toNat=1\/e.toNat=2\/e.toNat=3\/e.toNat=4)with h | h | h | h | h<;>rw[h]<;>decide
theorem Hu{b k:Int}(h:0<=k): qo b (k+1)=qo b k*b:=by
 unfold qo;rw[show(k+1).toNat=k.toNat+1 by omega,Int.pow_succ]
theorem aDU(b e:Int): af Tryz.prog G0 85 [.dat I b,.dat I e] [] ⟨YE b e,.dat I (qo b e),[]⟩:=by
 refine ae (c:=mkc KC6) aE5 aJ hm (aAa b e ⟨rfl,λhp=>?_⟩);simp only[qc,qd,Dp,Dc];obtain⟨b0,b1,e1⟩:=id hp;refine⟨⟨0,⟨hp,by omega,.inr rfl⟩,by unfold qo;simp,rfl⟩,λx ⟨_,x0,x1⟩=>⟨λhlt=>?_,λhge=>?_⟩⟩
 .obtain⟨q0,q1⟩:=aBF b0 b1 (e:=x+1) (by omega);rw[Hu x0]at q0 q1;exact⟨aM (by omega),aM (by omega),x+1,⟨hp,by omega,by omega⟩,⟨(Hu x0).symm,rfl⟩,by omega⟩
 .unfold qo;rw[show x.toNat=e.toNat by omega]
theorem ZB: ak Tryz.prog G0 KC7:=ai (ag λ(p,_)=>aAX p)<|ai (ag λ(b,e,_)=>aDU b e) aE5
def aFo(p n j:Int): Li:=(List.range n.toNat).map λd:Nat=>aCP p j d
theorem su(p q n k:Int): Yj p q n k=upF (aFo p n) [] q k:=rfl
theorem SO(p n j:Int): ZQ p n j n=aFo p n j:=px
theorem aDD(p q n:Int): af Tryz.prog G0 28 [.dat I p,.dat I q,.dat I n] [] ⟨True,.tup [.dat M (Vy p q n),.dat I (D8 p q n)],[]⟩:=by
 refine ae (c:=mkc KC7) ZB aJ hm (gO p q n ⟨rfl,λ_=>?_⟩);simp only[qc,Dk,Di,qd,Dt,Dp,Ei,Dc,Dx,Dj,En,Ep,Fb];have no:D8 p q n≠0->Vy p q n=[]:=λh=>if_neg h
 have hM:oy p=true↔2<=p/\p<=64:=by unfold oy;rw[qC,qE,qE]
 have eO:MX p q n=true↔((((2<=p/\p<=64)/\1<=q)/\q<=4)/\0<=n)/\n<=2000:=by
  unfold MX;simp only[qC,qE,hM]
 refine⟨λh=>?_,λ⟨⟨⟨⟨h1,h2⟩,h3⟩,h4⟩,h5⟩=>?_⟩
 .have hO:¬MX p q n=true:=λg=>by
   have g:=eO.1 g;rcases h with(((h | h) | h) | h) | h
   .rw[hM.2 ⟨by omega,by omega⟩]at h;cases h
   all_goals omega
  have:D8 p q n=1:=if_neg hO;exact⟨no (by rw[this];decide),this.symm⟩
 obtain⟨m0,m1⟩:=hM.1 h1;have hO:MX p q n=true:=eO.2 (by omega);have hEd:D8 p q n=if qo p q<n then 140 else 0:=if_pos hO
 refine⟨⟨by omega,by omega,by omega⟩,λh=>?_,λh=>?_⟩
 .have:D8 p q n=140:=by rw[hEd,if_pos h]
  exact⟨no (by rw[this];decide),this.symm⟩
 have hE:D8 p q n=0:=by rw[hEd,if_neg h]
 have l1:∀{x:Int},0<=x->x<=q->(Yj p q n x).length=q.toNat:=λa b=>by rw[su];exact rZ ⟨a,b⟩
 have l2:∀{j x:Int},0<=x->x<=n->(ZQ p n j x).length=n.toNat:=λa b=>rZ ⟨a,b⟩
 refine⟨by omega,by omega,by omega,⟨0,⟨hE,by omega,by omega⟩,rfl,by rw[su,<- nO],?_⟩,λx ⟨_,x0,x1⟩=>⟨λhlt=>?_,λhge=>?_⟩⟩
 .rw[su,<- nO];exact λr hr=>kM hr
 .have hl:=l1 x0 x1;refine⟨by omega,by omega,by omega,hl,x0,by omega,hl,by simp,⟨0,⟨⟨hE,x0,x1⟩,hlt,by omega,by omega⟩,rfl,nO⟩,λy ⟨_,_,y0,y1⟩=>⟨λhlt2=>?_,λhge=>?_⟩⟩
  .have hl2:=l2 (j:=x) y0 y1;obtain⟨w0,w1⟩:=EH (b:=p) (by omega) (by omega) x.toNat;have wne:qo p x≠0:=λe=>by
    have:p ^ x.toNat≠0:=Int.pow_ne_zero (by omega);exact this e
   have hq:0<=Gg y (qo p x)/\Gg y (qo p x)<=y:=⟨Int.tdiv_nonneg y0 w0,Int.tdiv_le_self _ y0⟩;exact⟨hl,x0,by omega,hl,⟨by omega,by omega,by omega⟩,wne,aM (by omega),by omega,hl2,y0,by omega,hl2,aM (by omega),y+1,⟨⟨hE,x0,x1⟩,hlt,by omega,by omega⟩,⟨rfl,xf y0 hlt2⟩,by omega⟩
  .have hy:y=n:=by omega
   subst hy;exact⟨aM (by omega),x+1,⟨hE,by omega,by omega⟩,⟨rfl,l2 y0 y1,by rw[SO,su];exact xf x0 hlt⟩,by omega⟩
 .have hx:x=q:=by omega
  subst hx;refine⟨l1 x0 x1,?_,hE.symm⟩;unfold Vy;rw[if_pos hE,su,px];rfl
theorem X7(a b:Int): af Tryz.prog G0 105 [.dat I a,.dat I b] [] ⟨True,.dat .bool (lh a b),[]⟩:=by
 refine ae (c:=mkc KC7) ZB aJ hm (Ru a b ⟨rfl,λ_=>?_⟩);simp only[qc,Dk,qd,Ei,Eh,Ed];exact⟨λh=>aM (by omega),rfl⟩
theorem Sz(cs:LC)(ns os:LB)(fs:Lo)(ls:Ll)(ks:Lk): af Tryz.prog G0 43 [net cs ns os fs ls ks] [] ⟨True,.dat .bool (aO (cs,ns,os,fs,ls,ks)),[]⟩:=by
 refine ae (c:=mkc KC7) ZB aJ hm (LJ cs ns os fs ls ks ⟨rfl,λ_=>⟨trivial,?_,trivial⟩⟩);rw[AO];rfl
end Go.Eng.Sv
set_option maxRecDepth 100000
noncomputable section
namespace Go.Eng.Sv
open Go.Proofs
def Im(n:Net)(p:Plan): Int:=if(lh p.1 p.2.1&&aO n)=true then 0 else 1
def Zg(n:Net)(p:Plan): Plan:=(p.1,p.2.1,lJ n (1440*p.1) (1440*p.2.1),p.2.2.2)
def Zh(n:Net)(p:Plan): Plan:=(p.1,p.2.1,p.2.2.1,DU n p.2.2.1 p.1 p.2.1)
def aCb(p:Plan): Prop:=0<=p.1/\p.1<=1000/\0<=p.2.1/\p.2.1<=1000
abbrev jv:=Li×Int
def Pn(n:Net)(p:Plan)(c:jv): List AV:=[.dat (.sl C) n.1,.dat (.sl S) n.2.1,.dat (.sl S) n.2.2.1,.dat (.sl Of) n.2.2.2.1,.dat (.sl Ln) n.2.2.2.2.1,.dat (.sl Kl) n.2.2.2.2.2,.dat I p.1,.dat I p.2.1,.dat M p.2.2.1,.dat (.sl M) p.2.2.2,.dat R c.1,.dat I c.2]
def rT(n:Net)(p:Plan)(c:jv): Mem:=[(2,.var (Pn n p c))]
def asC: Mem->Option (Net×Plan×jv)
 | [(2,.var [a1,a2,a3,a4,a5,a6,a7,a8,a9,a10,a11,a12])]=>match gQ (.sl C) a1,gQ (.sl S) a2,gQ (.sl S) a3,gQ (.sl Of) a4,gQ (.sl Ln) a5,gQ (.sl Kl) a6,gQ I a7,gQ I a8,gQ M a9,gQ (.sl M) a10,gQ R a11,gQ I a12 with
  | some cs,some ns,some os,some fs,some ls,some ks,some p1,some p2,some p3,some p4,some c1,some c2=>some ((cs,ns,os,fs,ls,ks),(p1,p2,p3,p4),(c1,c2))
  | _,_,_,_,_,_,_,_,_,_,_,_=>none
 | _=>none
def cK(pre:Net->Plan->Prop)(ret:Net->Plan->Int)(nxt:Net->Plan->jv->Plan×jv)(args:List AV)(m:Mem): Option jP:=match asC m,args with
 | some (n,p,c),[.ptr 2 1 0 0]=>some ⟨pre n p,.dat I (ret n p),rT n (nxt n p c).1 (nxt n p c).2⟩
 | _,_=>none
def KC8: Kt:=kOr 105 (az [.val I,.val I] (λ_=>True) λ(a,b,_)=>.dat .bool (lh a b)) <|
 kOr 43 (az [.row N] (λ_=>True) λ(n,_)=>.dat .bool (aO n)) <|
 kOr 28 (az [.val I,.val I,.val I] (λ_=>True) λ(p,q,n,_)=>.tup [.dat M (Vy p q n),.dat I (D8 p q n)]) KC7
theorem LL(n:Net)(p:Plan)(c:jv)(hvc:
 let c6:=p.2.1;let c3:=n.2.2.1;let c2:=p.2.2;let c1:=n.2.2.2;let c4:=Di (lh p.1 c6);let c5:=Di c4;let c8:=c5->1=1;let c7:=c5->c5->c5;let c16:=Dz c4 true (Di (aO n));true/\(True->1=1/\1=1/\1=1/\1=1/\1=1/\0=0/\1=1/\1=1/\1=1/\1=1/\0=0/\True/\c7/\c8/\c7/\c8/\c7/\c8/\(c5->0=0)/\c7/\(c5->True)/\c7/\(Dk true c5->c5)/\(c16->1=Im n p/\n.1=n.1/\n.2.1=n.2.1/\c3=c3/\c1.1=c1.1/\c1.2.1=c1.2.1/\c1.2.2=c1.2.2/\p.1=p.1/\c6=c6/\c2.1=c2.1/\c2.2=c2.2/\c.1=c.1/\c.2=c.2/\1=1/\True)/\(c16=false->0=Im n p/\n.1=n.1/\n.2.1=n.2.1/\c3=c3/\c1.1=c1.1/\c1.2.1=c1.2.1/\c1.2.2=c1.2.2/\p.1=p.1/\c6=c6/\c2.1=c2.1/\c2.2=c2.2/\c.1=c.1/\c.2=c.2/\1=1/\True))):
  evF (mkc KC8) aA 38 [.ptr 2 1 0 0] (rT n p c) ⟨True,.dat I (Im n p),rT n p c⟩:=oE hvc
theorem LK(n:Net)(p:Plan)(c:jv)(hvc:
 let c1:=n.2.2.2;let c2:=1440*p.1;let c5:=1440*p.2.1;let c16:=(Zg n p).2;true/\(aCb p->1=1/\1=1/\1=1/\1=1/\0=0/\1=1/\1=1/\1=1/\1=1/\0=0/\inR .i64 c2/\1=1/\1=1/\1=1/\1=1/\0=0/\inR .i64 c5/\True/\1=1/\1=1/\1=1/\1=1/\0=0/\(0:Int)=(0:Int)/\n.1=n.1/\n.2.1=n.2.1/\n.2.2.1=n.2.2.1/\c1.1=c1.1/\c1.2.1=c1.2.1/\c1.2.2=c1.2.2/\p.1=(Zg n p).1/\p.2.1=c16.1/\lJ n c2 c5=c16.2.1/\p.2.2.2=c16.2.2/\c.1=c.1/\c.2=c.2/\1=1/\True)):
  evF (mkc KC7) aA 39 [.ptr 2 1 0 0] (rT n p c) ⟨aCb p,.dat I 0,rT n (Zg n p) c⟩:=oE hvc
theorem Rn(n:Net)(p:Plan)(c:jv)(hvc:
 let c2:=p.2.2.1;let c1:=n.2.2.2;let c15:=(Zh n p).2;true/\(bZ c2->1=1/\1=1/\1=1/\1=1/\0=0/\1=1/\1=1/\1=1/\1=1/\0=0/\1=1/\1=1/\1=1/\1=1/\0=0/\1=1/\1=1/\1=1/\1=1/\0=0/\bZ c2/\1=1/\1=1/\1=1/\1=1/\0=0/\(0:Int)=(0:Int)/\n.1=n.1/\n.2.1=n.2.1/\n.2.2.1=n.2.2.1/\c1.1=c1.1/\c1.2.1=c1.2.1/\c1.2.2=c1.2.2/\p.1=(Zh n p).1/\p.2.1=c15.1/\c2=c15.2.1/\DU n c2 p.1 p.2.1=c15.2.2/\c.1=c.1/\c.2=c.2/\1=1/\True)):
  evF (mkc KC7) aA 41 [.ptr 2 1 0 0] (rT n p c) ⟨bZ p.2.2.1,.dat I 0,rT n (Zh n p) c⟩:=oE hvc
theorem Rw(n:Net)(p:Plan)(c:jv)(hvc:
 let c1:=n.2.2.2;true/\(fQ p->1=1/\1=1/\1=1/\1=1/\0=0/\1=1/\1=1/\1=1/\0=0/\fQ p/\1=1/\1=1/\1=1/\0=0/\wrE n p=wrE n p/\n.1=n.1/\n.2.1=n.2.1/\n.2.2.1=n.2.2.1/\c1.1=c1.1/\c1.2.1=c1.2.1/\c1.2.2=c1.2.2/\p.1=p.1/\p.2.1=p.2.1/\p.2.2.1=p.2.2.1/\p.2.2.2=p.2.2.2/\wrN n p=wrN n p/\wrS n p=wrS n p/\1=1/\True)):
  evF (mkc KC7) aA 42 [.ptr 2 1 0 0] (rT n p c) ⟨fQ p,.dat I (wrE n p),rT n p (wrN n p,wrS n p)⟩:=oE hvc
theorem Qn: ak Tryz.prog G0 KC8:=ai (ag λ(a,b,_)=>X7 a b)<|ai (ag λ((cs,ns,os,fs,ls,ks),_)=>Sz cs ns os fs ls ks)<|ai (ag λ(p,q,n,_)=>aDD p q n) ZB
theorem aCs{m:Mem}{n:Net}{p:Plan}{c:jv}(h:asC m=some (n,p,c)): m=rT n p c:=by
 unfold asC at h;split at h
 case h_2=>cases h
 split at h
 case h_2=>cases h
 rename_i h1 h2 h3 h4 h5 h6 h7 h8 h9 h10 h11 h12;cases h;rw[bE h1,bE h2,bE h3,bE h4,bE h5,bE h6,bE h7,bE h8,bE h9,bE h10,bE h11,bE h12];rfl
theorem Pm{f:FuncId}{pre:Net->Plan->Prop}{ret:Net->Plan->Int}{nxt:Net->Plan->jv->Plan×jv}
  (h:∀n p c,af Tryz.prog G0 f [.ptr 2 1 0 0] (rT n p c) ⟨pre n p,.dat I (ret n p),rT n (nxt n p c).1 (nxt n p c).2⟩):∀args m c,cK pre ret nxt args m=some c->af Tryz.prog G0 f args m c:=by
 intro args m c hc;unfold cK at hc;split at hc
 case h_2=>cases hc
 rename_i n p c h1;cases hc;rw[aCs h1];exact h n p c
theorem SB(n:Net)(p:Plan)(c:jv): af Tryz.prog G0 38 [.ptr 2 1 0 0] (rT n p c) ⟨True,.dat I (Im n p),rT n p c⟩:=by
 refine ae (c:=mkc KC8) Qn aJ hm (LL n p c ⟨rfl,λ_=>?_⟩);have eN:(n.1,n.2.1,n.2.2.1,n.2.2.2.1,n.2.2.2.2.1,n.2.2.2.2.2)=n:=rfl;simp only[qc,Dk,Di];refine⟨λh=>?_,λ⟨h1,h2⟩=>?_⟩
 .have:¬(lh p.1 p.2.1&&aO n)=true:=λg=>by
   rw[qC]at g;rcases h with h | h
   .rw[g.1]at h;cases h
   .rw[g.2]at h;cases h
  exact(if_neg this).symm
 .exact(if_pos (by rw[h1,h2];rfl)).symm
theorem SA(n:Net)(p:Plan)(c:jv): af Tryz.prog G0 39 [.ptr 2 1 0 0] (rT n p c) ⟨aCb p,.dat I 0,rT n (Zg n p) c⟩:=by
 refine ae (c:=mkc KC7) ZB aJ hm (LK n p c ⟨rfl,λ⟨h1,h2,h3,h4⟩=>?_⟩);simp only[qc];exact⟨aM (by omega),aM (by omega),rfl,rfl,rfl,rfl⟩
theorem X3(n:Net)(p:Plan)(c:jv): af Tryz.prog G0 41 [.ptr 2 1 0 0] (rT n p c) ⟨bZ p.2.2.1,.dat I 0,rT n (Zh n p) c⟩:=by
 refine ae (c:=mkc KC7) ZB aJ hm (Rn n p c ⟨rfl,λh=>?_⟩);simp only[qc];exact⟨h,rfl,rfl,rfl,rfl⟩
theorem X8(n:Net)(p:Plan)(c:jv): af Tryz.prog G0 42 [.ptr 2 1 0 0] (rT n p c) ⟨fQ p,.dat I (wrE n p),rT n p (wrN n p,wrS n p)⟩:=by
 refine ae (c:=mkc KC7) ZB aJ hm (Rw n p c ⟨rfl,λh=>?_⟩);simp only[qc];exact h
end Go.Eng.Sv
set_option maxRecDepth 100000
noncomputable section
namespace Go.Eng.Sv
open Go.Proofs
def tz(n:Net): List (Int×Off):=(List.range n.2.2.2.1.length).map λi:Nat=>((i:Int),cj n i)
def BJ(n:Net)(k:Int): Prop:=0<=k/\k<=n.2.2.2.1.length
def sk(n:Net): Prop:=(n.2.2.2.1.length:Int)<=1000000
def fW(p:Plan)(o:Int): Li:=p.2.2.1.getD o.toNat []
def Xq(p:Plan)(o:Int): Li:=((List.range (fW p o).length).filter λd:Nat=>decide ((d:Int)≠o)).map λd=>(fW p o).getD d 0
def wfR(l:Li): Prop:=∀j:Nat,-1<=l.getD j 0/\l.getD j 0<=1000000
def RF(p:Plan)(o:Int): Prop:=0<=o/\o<p.2.2.1.length/\((fW p o).length:Int)<=1000000/\wfR (fW p o)
def JG(x:Int): Li->Li
 | []=>[x]
 | a::l=>if x<a then x::a::l else if x=a then a::l else a::JG x l
def Ah(p:Plan)(o:Int): Li:=((Xq p o).filter λl=>decide (l≠-1)).foldr JG []
def Yf(n:Net)(p:Plan)(o:Int): Int:=D8 (cj n o).2.2.2.1 (cj n o).2.2.2.2.1 (1+(Ah p o).length)
def nW(n:Net)(p:Plan): Int:=if(List.range n.2.2.2.1.length).all (λo:Nat=>decide (Yf n p o=0))then 0 else 140
def vg(n:Net)(p:Plan): Prop:=aO n=true/\lr n p.2.2.1=true
def AP(n:Net)(p:Plan)(j:Nat): Prop:=vg n p/\j<=(tz n).length/\∀i:Nat,i<j->Yf n p i=0
theorem Q5(n:Net)(hvc:
 true/\(True->n=n/\True)):
  evF (mkc KC8) aA 106 [.agg [.dat (.sl C) n.1,.dat (.sl S) n.2.1,.dat (.sl S) n.2.2.1,.dat (.sl Of) n.2.2.2.1,.dat (.sl Ln) n.2.2.2.2.1,.dat (.sl Kl) n.2.2.2.2.2]] [] ⟨True,.fn 169 [.ip N n],[]⟩:=oE hvc
def aBS(n:Net): GQ:=⟨λid y=>match id with
 | 1=>some {α:=Int,inv:=λk=>BJ n k,st:=λk=>⟨put y.s [(8,.dat I k)],Dc k,true⟩,μ:=λk=>Dc (Dh (Df n.2.2.2.1) k)}
 | _=>none,λid s=>match id,s.sig.T 8 with
 | 3,.dat (.int .i64) k=>some (put {s with mem:=[]} [(4,.ip Of (cj n k))])
 | _,_=>none,λid=>id==3⟩
theorem Q0(n:Net)(hvc:
 let c1:=n.2.2.2;let c3:=Df c1.1;let c4:=Dj (tz n);true/\true/\true/\false=false/\∀(l:Nat),sk n->(∃x,BJ n x/\(l=l/\n=n/\c1=c1/\c1.1=c1.1/\c3=c3/\0=x/\True)/\0=Dc x/\true)/\∀(x:Int),let c5:=Du c1.1 (Dc x) (ByteArray.mk #[],(0:Int),(0:Int),(0:Int),(0:Int),(0:Int),Dt ByteArray);let c18:=(cj n x).2;let c23:=x+1;BJ n x->(Dp x c3->0<=x/\x<c3/\1=1/\0=0/\l=l/\n=n/\x=x/\1=1/\0=0/\c5=cj n x/\c1=c1/\c1.1=c1.1/\c3=c3/\x=x/\Dp x c3=Dp x c3/\x=x/\c5=c5/\c5.1=c5.1/\c5.2.1=c5.2.1/\c5.2.2.1=c5.2.2.1/\c5.2.2.2.1=c5.2.2.2.1/\c5.2.2.2.2.1=c5.2.2.2.2.1/\c5.2.2.2.2.2.1=c5.2.2.2.2.2.1/\c5.2.2.2.2.2.2=c5.2.2.2.2.2.2/\(true->l=l/\true/\lu (tz n) (Dc x) (x,(cj n x).1,c18.1,c18.2.1,c18.2.2.1,c18.2.2.2.1,c18.2.2.2.2.1,c18.2.2.2.2.2)/\∀(b:Bool),(Di b->b->Dc x+1=c4)/\(Di b=false->inR .i64 c23/\∃y,BJ n y/\((l=l/\n=n/\c1=c1/\c1.1=c1.1/\c3=c3/\c23=y/\True)/\Dc x+1=Dc y/\b)/\Dc (c3-y)<Dc (c3-x)))/\(true=false->(true->true)/\(Di false->true->Dc x=c4)/\(Di false=false->inR .i64 c23/\∃y,BJ n y/\((l=l/\n=n/\c1=c1/\c1.1=c1.1/\c3=c3/\c23=y/\True)/\Dc x=Dc y/\true)/\Dc (c3-y)<Dc (c3-x))))/\(Dp x c3=false->true->Dc x=c4)):
  evI (mkc KC8) (aBS n) 169 [.ip N n] ⟨sk n,.pair I Of,tz n⟩:=oE hvc
def KC9: Kt:=kOr 45 (az [.row Pl,.val I] (λ(p,o,_)=>RF p o) λ(p,o,_)=>.dat R (Ah p o)) <|
 kOr 106 (az [.row N] (λ_=>True) λ(n,_)=>.fn 169 [.ip N n]) KC8
def KIM: FuncId->List AV->Option jr:=λf caps=>if f=169 then match ofK [.ptr N] caps with
 | some (n,_)=>some ⟨sk n,.pair I Of,tz n⟩
 | none=>none
 else none
noncomputable def cSort: Cfg:=⟨Tryz.prog,G0,KC9,λ_=>false,KIM,true,Go.Eng.noP,λ_=>false⟩
def sortA(n:Net)(p:Plan)(c:jv): Ann:=⟨λid s=>match id with
 | 2=>some {α:=Nat,inv:=λj=>AP n p j,st:=λj=>iE (iE (flat s) 2 (.var (Pn n p c))) 3 (.var [.dat I 0]),μ:=λj=>j}
 | _=>none,λ_ _=>none,λ_ _=>none⟩
theorem Rm(n:Net)(p:Plan)(c:jv)(hvc:
 let c5:=p.2.1;let c4:=n.2.1;let c3:=p.2.2;let c2:=n.2.2.1;let c1:=n.2.2.2;let c20:=tz n;true/\(vg n p->1=1/\1=1/\1=1/\1=1/\0=0/\True/\sk n/\(∃x,AP n p x/\x=0/\1=1/\0=0/\0=0/\1=1/\0=0/\0=0/\1=1/\0=0/\0=0/\1=1/\0=0/\0=0/\1=1/\0=0/\0=0/\1=1/\0=0/\0=0/\n.1=n.1/\c4=c4/\c2=c2/\c1.1=c1.1/\c1.2.1=c1.2.1/\c1.2.2=c1.2.2/\n=n/\n.1=n.1/\c4=c4/\c2=c2/\c1.1=c1.1/\c1.2.1=c1.2.1/\c1.2.2=c1.2.2/\p.1=p.1/\c5=c5/\c3.1=c3.1/\c3.2=c3.2/\c.1=c.1/\c.2=c.2/\(0:Int)=(0:Int)/\1=1/\True)/\(∀(x:Nat) (y:Int×ByteArray×Int×Int×Int×Int×Int×List ByteArray),let c23:=1+Df (Ah p y.1);let c25:=Ec (D8 y.2.2.2.2.1 y.2.2.2.2.2.1 c23) 0;AP n p x->lu c20 x y->1=1/\0=0/\1=1/\1=1/\1=1/\0=0/\RF p y.1/\inR IntKind.i64 c23/\1=1/\1=1/\0=0/\1=1/\1=1/\0=0/\True/\(c25->1=1/\0=0/\1=1/\0=0/\140=nW n p/\n.1=n.1/\c4=c4/\c2=c2/\c1.1=c1.1/\c1.2.1=c1.2.1/\c1.2.2=c1.2.2/\p.1=p.1/\c5=c5/\c3.1=c3.1/\c3.2=c3.2/\c.1=c.1/\c.2=c.2/\1=1/\True)/\(c25=false->∃z,AP n p z/\z=x+1/\1=1/\0=0/\0=0/\1=1/\0=0/\0=0/\1=1/\0=0/\0=0/\1=1/\0=0/\0=0/\1=1/\0=0/\0=0/\1=1/\0=0/\0=0/\n.1=n.1/\c4=c4/\c2=c2/\c1.1=c1.1/\c1.2.1=c1.2.1/\c1.2.2=c1.2.2/\n=n/\n.1=n.1/\c4=c4/\c2=c2/\c1.1=c1.1/\c1.2.1=c1.2.1/\c1.2.2=c1.2.2/\p.1=p.1/\c5=c5/\c3.1=c3.1/\c3.2=c3.2/\c.1=c.1/\c.2=c.2/\(0:Int)=(0:Int)/\1=1/\True))/\∀(x:Nat),AP n p x->x=Dj c20->1=1/\0=0/\1=1/\0=0/\0=nW n p/\n.1=n.1/\c4=c4/\c2=c2/\c1.1=c1.1/\c1.2.1=c1.2.1/\c1.2.2=c1.2.2/\p.1=p.1/\c5=c5/\c3.1=c3.1/\c3.2=c3.2/\c.1=c.1/\c.2=c.2/\1=1/\True)):
  evF cSort (sortA n p c) 40 [.ptr 2 1 0 0] (rT n p c) ⟨vg n p,.dat I (nW n p),rT n p c⟩:=oE hvc
theorem XT(n:Net): af Tryz.prog G0 106 [.agg [.dat (.sl C) n.1,.dat (.sl S) n.2.1,.dat (.sl S) n.2.2.1,.dat (.sl Of) n.2.2.2.1,.dat (.sl Ln) n.2.2.2.2.1,.dat (.sl Kl) n.2.2.2.2.2]] [] ⟨True,.fn 169 [.ip N n],[]⟩:=
 ae (c:=mkc KC8) Qn aJ hm (Q5 n ⟨rfl,λ_=>⟨rfl,trivial⟩⟩)
theorem YN{n:Net}{x:Int}(h0:0<=x)(h1:x<n.2.2.2.1.length): lu (tz n) x.toNat (x,cj n x):=by
 show((List.range n.2.2.2.1.length).map λi:Nat=>((i:Int),cj n i))[x.toNat]?=_;have e:((x.toNat:Nat):Int)=x:=by omega
 rw[qP,vV (by omega),zL,e]
theorem yl(n:Net): (tz n).length=n.2.2.2.1.length:=by unfold tz;simp
theorem XS(n:Net): mR Tryz.prog G0 169 [.ip N n] ⟨sk n,.pair I Of,tz n⟩:=by
 refine jF (c:=mkc KC8) (A:=aBS n) Qn aJ hm (Q0 n ⟨rfl,rfl,rfl,rfl,λl hs=>?_⟩);have eO:∀x:Int,n.2.2.2.1.getD x.toNat (⟨#[]⟩,0,0,0,0,0,[])=cj n x:=λ_=>rfl
 have eP:∀q:Off,(q.1,q.2.1,q.2.2.1,q.2.2.2.1,q.2.2.2.2.1,q.2.2.2.2.2.1,q.2.2.2.2.2.2)=q:=λ_=>rfl
 simp only[qc,Di,qd,Dt,Dp,Df,Dc,Dj,Du,yl];unfold sk at hs;refine⟨⟨0,⟨by omega,by omega⟩,rfl,rfl⟩,λx ⟨x0,x1⟩=>⟨λhlt=>⟨x0,hlt,rfl,⟨YN x0 hlt,λb=>⟨λh1 h2=>(by rw[h1]at h2;cases h2),λhb=>⟨aM (by omega),x+1,⟨by omega,by omega⟩,⟨rfl,by omega,hb⟩,by omega⟩⟩⟩,λh=>(by cases h)⟩,λhge=>(by omega)⟩⟩
def nu: Prop:=∀(p:Plan) (o:Int),af Tryz.prog G0 45 [.agg [.dat I p.1,.dat I p.2.1,.dat M p.2.2.1,.dat (.sl M) p.2.2.2],.dat I o] [] ⟨RF p o,.dat R (Ah p o),[]⟩
theorem aFK(h:nu): ak Tryz.prog G0 KC9:=ai (ag λ(p,o,_)=>h p o)<|ai (ag λ(n,_)=>XT n) Qn
theorem aCH: bv Tryz.prog G0 KIM:=by
 intro f caps it h;unfold KIM at h;split at h
 case isFalse=>cases h
 rename_i hf;subst hf;split at h
 case h_2=>cases h
 rename_i n _ hx;cases h;exact λhp l J JX JP w D us hD hG hu=>XS n hp l J JX JP w D us hD hG (fi hx hu)
theorem FK{x y:Int}: ∀{l:Li},y∈JG x l↔y=x\/y∈l
 | []=>by simp[JG]
 | a::l=>by
  unfold JG;split
  .simp
  .split
   .rename_i h;subst h;simp
   .rw[zJ,FK (l:=l),zJ];constructor
    .rintro(h | h | h)
     .exact .inr (.inl h)
     .exact .inl h
     .exact .inr (.inr h)
    .rintro(h | h | h)
     .exact .inr (.inl h)
     .exact .inl h
     .exact .inr (.inr h)
theorem wm{x:Int}: ∀{l:Li},l.Pairwise (· < ·)->(JG x l).Pairwise (· < ·)
 | [],_=>qAg _ _
 | a::l,h=>by
  obtain⟨h1,h2⟩:=kD.1 h;unfold JG;split
  .rename_i hx;refine kD.2 ⟨λb hb=>?_,h⟩;rcases zJ.1 hb with rfl | hb
   .exact hx
   .have:=h1 b hb;omega
  .split
   .exact h
   .refine kD.2 ⟨λb hb=>?_,wm h2⟩;rcases FK.1 hb with rfl | hb
    .omega
    .exact h1 b hb
theorem Om{x:Int}: ∀{l:Li},(JG x l).length<=l.length+1
 | []=>qJ _
 | a::l=>by
  have:=Om (x:=x) (l:=l);unfold JG;split
  .simp
  .split
   .simp
   .simp only[wV];omega
theorem H2{y:Int}: ∀{l:Li},y∈l.foldr JG []↔y∈l
 | []=>by simp
 | a::l=>by rw[qDk,FK,H2,zJ]
theorem t8: ∀(l:Li),(l.foldr JG []).Pairwise (· < ·)
 | []=>yL
 | _::l=>wm (t8 l)
theorem H3: ∀(l:Li),(l.foldr JG []).length<=l.length
 | []=>qJ _
 | a::l=>by
  have:=H3 l;have:=Om (x:=a) (l:=l.foldr JG []);rw[qDk,wV];omega
theorem OA(p:Plan)(o:Int): (Ah p o).length<=(fW p o).length:=by
 unfold Ah;refine wE (H3 _) (wE (xB _ _) ?_);unfold Xq;rw[vW];exact wE (xB _ _) (by rw[wC];exact qJ _)
theorem Vo(cs:LC)(ns os:LB)(fs:Lo)(ls:Ll)(ks:Lk){nx:Lj}(hs:aO (cs,ns,os,fs,ls,ks)=true)(ht:lr (cs,ns,os,fs,ls,ks) nx=true){o:Int}(o0:0<=o)(o1:o<fs.length): wfR (nx.getD o.toNat []):=λj=>by
 have h1:=(lN cs ns os fs ls ks (aX cs ns os fs ls ks hs)).1;by_cases hj:(j:Int)<fs.length
 .obtain⟨_,_,h⟩:=i9 cs ns os fs ls ks ht o0 o1 (d:=j) (by omega) hj;have e:nxt nx o j=(nx.getD o.toNat []).getD j 0:=by unfold nxt;rw[vC]
  rw[<- e];by_cases hn:nxt nx o j=-1
  .omega
  .have:=(h hn).1;omega
 .obtain⟨_,h,_⟩:=i9 cs ns os fs ls ks ht o0 o1 o0 o1;rw[qA,zF (by omega)];exact⟨by decide,by decide⟩
theorem X2(h:nu)(n:Net)(p:Plan)(c:jv): af Tryz.prog G0 40 [.ptr 2 1 0 0] (rT n p c) ⟨vg n p,.dat I (nW n p),rT n p c⟩:=by
 refine ae (c:=cSort) (aFK h) aCH hm (Rm n p c ⟨rfl,λhp=>?_⟩);have eN:(n.1,n.2.1,n.2.2.1,n.2.2.2.1,n.2.2.2.2.1,n.2.2.2.2.2)=n:=rfl;have eP:(p.1,p.2.1,p.2.2.1,p.2.2.2)=p:=rfl;simp only[qc,qd,Ec,Df,Dj];obtain⟨hs,ht⟩:=id hp
 obtain⟨q1,_⟩:=nt n.1 n.2.1 n.2.2.1 n.2.2.2.1 n.2.2.2.2.1 n.2.2.2.2.2 hs;have q1:(n.2.2.2.1.length:Int)<=12:=q1;have row:∀o:Int,0<=o->o<n.2.2.2.1.length->(p.2.2.1.length:Int)=n.2.2.2.1.length/\((fW p o).length:Int)=n.2.2.2.1.length:=λo o0 o1=>by
  obtain⟨g1,g2,_⟩:=i9 n.1 n.2.1 n.2.2.1 n.2.2.2.1 n.2.2.2.2.1 n.2.2.2.2.2 ht o0 o1 o0 o1;exact⟨g1,g2⟩
 have at_:∀{x:Nat} {y:Int×Off},lu (tz n) x y->x<n.2.2.2.1.length/\y=((x:Int),cj n x):=λ{x y} h=>by
  have h:((List.range n.2.2.2.1.length).map λi:Nat=>((i:Int),cj n i))[x]?=some y:=h;rw[qP]at h;by_cases hx:x<n.2.2.2.1.length
  .rw[vV hx]at h;exact⟨hx,(wS h).symm⟩
  .rw[zF (by rw[wC];omega)]at h;cases h
 have fail:∀o:Nat,o<n.2.2.2.1.length->Yf n p o≠0->nW n p=140:=λo ho hne=>by
  unfold nW;rw[if_neg];intro h;have:=qM.1 h o (qX.2 ho);exact hne (wF this)
 refine⟨by unfold sk;omega,⟨hp,wU _,λi hi=>by omega⟩,λx y hx hy=>?_,λx hx hl=>?_⟩
 .obtain⟨hxl,rfl⟩:=at_ hy;obtain⟨r1,r2⟩:=row x (by omega) (by omega);have gl:=OA p x;have r1':(p.2.2.1.length:Int)=n.2.2.2.1.length:=r1
  refine⟨⟨by show(0:Int)<=(x:Int);omega,by show(x:Int)<_;omega,by show((fW p (x:Int)).length:Int)<=1000000;omega,Vo n.1 n.2.1 n.2.2.1 n.2.2.2.1 n.2.2.2.2.1 n.2.2.2.2.2 hs ht (by omega) (by omega)⟩,aM (by simp only;omega),λh=>(fail x hxl h).symm,λh=>⟨hp,by rw[yl];omega,λi hi=>?_⟩⟩;by_cases h3:i<x
  .exact hx.2.2 i h3
  .have:i=x:=by omega
   rw[this];exact h
 .rw[yl]at hl;unfold nW;rw[if_pos];rw[qM];intro o ho;exact qV (hx.2.2 o (by rw[hl];exact qX.1 ho))
end Go.Eng.Sv
set_option maxRecDepth 100000
namespace Go.Eng.Sv
open Go.Proofs
open Go.RowKit
theorem Qr{x:Int}(h:-1<=x/\x<=1000000): (Lit.int .i64 x).wf=true:=by
 have e1:IntKind.min .i64=-9223372036854775808:=by decide
 have e2:IntKind.max .i64=9223372036854775807:=by decide
 simp only[Lit.wf,e1,e2,qC,qE];omega
theorem v8: nu:=by
 rintro p o ⟨o0,o1,o2,o3⟩ w D E us hD hG hargs hH;obtain⟨u1,us,rfl,⟨ps,rfl,hps⟩,u2,us,rfl,h2,rfl⟩:=hargs;obtain⟨v1,_,rfl,_,v2,_,rfl,_,v3,_,rfl,h3,v4,_,rfl,_,rfl⟩:=hps;have h2:[u2]=[Value.int .i64 o]:=h2;cases h2;obtain⟨ao,cap,e3,_,_,hsp,hrow⟩:=h3;cases e3;have at_:(p.2.2.1)[o.toNat]?=some (fW p o):=by
  unfold fW;rw[qA,qB (by omega),qQ]
 obtain⟨a,ue,rfl,ha,hca,bo,cp2,rfl,_,_,hsp2,hin⟩:=hrow o.toNat (fW p o) at_;have sp:=hsp a rfl (by omega);have hw:∀j:Nat,(Lit.int .i64 ((fW p o)[j]?.getD 0)).wf=true:=λj=>by
  have:=o3 j;rw[qA]at this;exact Qr this
 have eo:((o.toNat:Nat):Int)=o:=by omega
 have mem:∀y,y∈Ah p o↔y≠-1/\y∈(na (fW p o) hw o.toNat (fW p o).length).map Subtype.val:=λy=>by
  unfold Ah Xq na;rw[H2,xO,qE,and_comm,List.map_map];have e:((List.range (fW p o).length).filter λd:Nat=>decide ((d:Int)≠o))=(List.range (fW p o).length).filter λd=>decide (d≠o.toNat):=by
   congr 1;funext d
   rw[qAx];omega
  rw[e];have f:(λd:Nat=>(fW p o).getD d 0)=Subtype.val∘aCg (fW p o) hw:=by
   funext d
   exact qA
  rw[f]
 have hc:=UP #[v1,v2,.slice (some a) p.2.2.1.length cap,v4] o.toNat (fW p o) hw (by omega) (Ah p o) (t8 _) mem w λw1 hw1=>by
  have hB:Go.RowKit.Below w.heap.size w w1:=by rw[hw1];exact((Go.RowKit.Below.refl _ w).alloc (qJ _) _).alloc (by simp) _
  have s1:w1.heap.size=w.heap.size+1+1:=by rw[hw1];simp
  have c1:w1.heap[w.heap.size]?=some (.cells #[v1,v2,.slice (some a) p.2.2.1.length cap,v4] 35 (0,0)):=by
   rw[hw1];exact(Go.RowKit.Below.heap_alloc _ _ _ (by simp)).trans (World.alloc_heap_new w _)
  have c2:w1.heap[w.heap.size+1]?=some (.cells #[.int .i64 o] 3 (0,0)):=by
   have:=World.alloc_heap_new (w.alloc (.cells #[v1,v2,.slice (some a) p.2.2.1.length cap,v4] 35)) (.cells #[.int .i64 ((o.toNat:Nat):Int)] 3);rw[zO,eo]at this;rw[hw1,eo];exact this
  refine⟨by omega,by omega,by rw[eo];simp[World.cell?,c2],a.block,a.off,p.2.2.1.length,cap,bo,cp2,?_,by omega,by have:=hD _ ha;omega,?_,?_⟩
  .obtain⟨b,f,s⟩:=a;have sp:s=none:=sp;subst sp;simp[World.cell?,c1]
  .have:=hca 0 _ rfl;exact(hB.cell (p:=⟨a.block,a.off+o.toNat*1+0,none⟩) (hD _ ha)).trans this |> λh=>by
    rw[show a.off+o.toNat*1+0=a.off+o.toNat by omega]at h;exact h
  .by_cases hz:(fW p o).length=0
   .exact .inl hz
   .have at0:(fW p o)[0]?=some ((fW p o).getD 0 0):=by
     rw[qA,qB (by omega),qQ]
    obtain⟨a2,_,e2,hb2,_⟩:=hin 0 _ at0;subst e2;have sp2:=hsp2 a2 rfl (by omega);refine .inr ⟨a2.block,a2.off,?_,by have:=hD _ hb2;omega,λj hj=>?_⟩
    .obtain⟨b,f,s⟩:=a2;have sp2:s=none:=sp2;subst sp2;rfl
    .have atj:(fW p o)[j]?=some ((fW p o)[j]?.getD 0):=by
      rw[qB hj,qQ]
     obtain⟨a3,ue3,e3,hb3,hc3,hr3⟩:=hin j _ atj;cases e3;have hr3:ue3=[Value.int .i64 ((fW p o)[j]?.getD 0)]:=hr3;subst hr3;have:=hc3 0 _ rfl;have h:=(hB.cell (p:=⟨a2.block,a2.off+j*1+0,none⟩) (hD _ hb3)).trans this;rw[show a2.off+j*1+0=a2.off+j by omega]at h;exact h
 rw[eo]at hc;refine hc.mono ?_;rintro e w' ⟨v,rfl,hrow,hnil,hB⟩;refine⟨v,λb=>D b\/gk w w' b,E,rfl,⟨(Chg.refl _ _).below hB,λ_ h=>.inl h,λb h=>h.imp id λh=>.inl h.1,λb h=>h.elim (λh=>qN (hD b h) hB.size) λh=>h.2,Held.none _ _ _ _,λnm b b' g=>(by cases g),λnm b b' g=>(by cases g),λnm b _ g=>(by cases g),λnm i b g=>(jY g).elim⟩,?_⟩
 show ∃(ao:Option Addr) (cap:Nat),[v]=[.slice ao (Ah p o).length cap]/\_;obtain⟨_,⟨rfl,h0⟩ | ⟨g,cap,cur,rfl,hg,hb,hcap,_,hsz,htk⟩⟩:=hrow
 .have h0:Ah p o=[]:=vO h0;rw[h0];exact⟨none,0,rfl,qJ _,λ_=>rfl,λ_ h=>(by cases h),λi y h=>(by cases h)⟩
 .refine⟨_,cap,rfl,hcap,λh=>(by cases h),λa h _=>(by cases h;rfl),λi y hy=>⟨_,[Value.int .i64 y],rfl,.inr ⟨hg,(vK.1 hb).1⟩,λj u hj=>?_,rfl⟩⟩;cases j with
  | succ j=>cases hj
  | zero=>
   have hj:some (Value.int .i64 y)=some u:=hj;cases hj;show w'.cell? ⟨g,0+i*1+0,none⟩=_;have hi:i<(Ah p o).length:=(qF.1 hy).1;have e:(cur.toList.take ((Ah p o).length*1))[i]?=some (Value.int .i64 y):=by
    rw[htk,qP,hy];rfl
   rw[List.getElem?_take_of_lt (by omega),zX]at e;have hi2:0+i*1+0<cur.size:=by omega
   rw[show 0+i*1+0=i by omega]at hi2 ⊢;simp[World.cell?,hb,e]
end Go.Eng.Sv
set_option maxRecDepth 100000
noncomputable section
namespace Go.Eng.In
open Go.Proofs
abbrev Of: Ty:=.pair S (.pair I (.pair I (.pair I (.pair I (.pair I (.sl S))))))
abbrev Ln: Ty:=.pair S (.pair I (.pair I (.pair I (.pair I I))))
abbrev Kl: Ty:=.pair S (.pair I I)
abbrev N: Ty:=.pair (.sl C) (.pair (.sl S) (.pair (.sl S) (.pair (.sl Of) (.pair (.sl Ln) (.sl Kl)))))
abbrev Cal:=Int×List Bool×Li
abbrev Off:=ByteArray×Int×Int×Int×Int×Int×List ByteArray
abbrev Line:=ByteArray×Int×Int×Int×Int×Int
abbrev Cla:=ByteArray×Int×Int
abbrev Net:=List Cal×List ByteArray×List ByteArray×List Off×List Line×List Cla
def nG(c:Cal): Bool:=dR c.1 c.2.1 c.2.2
def lM(n:Net)(o:Off): Bool:=(btw o.2.2.1 0 ((n.1.length:Int)-1)&&btw o.2.2.2.2.1 1 1000)&&btw o.2.2.2.2.2.1 1 1000
def kb(n:Net)(x:Int): Bool:=btw x 0 ((n.2.2.2.1.length:Int)-1)
def lQ(n:Net)(l:Line): Bool:=((kb n l.2.1&&kb n l.2.2.1)&&btw l.2.2.2.1 0 1439)&&btw l.2.2.2.2.1 1 100000
def l7(k:Cla): Bool:=btw k.2.1 0 1439&&btw k.2.2 0 1439
def usF(n:Net): Bool:=((n.1.all nG&&n.2.2.2.1.all (lM n))&&n.2.2.2.2.1.all (lQ n))&&n.2.2.2.2.2.all l7
def rB(n:Net): Prop:=((n.1.length<=2000000000000000/\n.2.2.2.1.length<=2000000000000000)/\n.2.2.2.2.1.length<=2000000000000000)/\n.2.2.2.2.2.length<=2000000000000000
def U0(n:Net)(k:Int): Prop:=0<=k/\k<=n.1.length/\(n.1.take k.toNat).all nG=true
def TI(n:Net)(k:Int): Prop:=0<=k/\k<=n.2.2.2.1.length/\(n.2.2.2.1.take k.toNat).all (lM n)=true
def T9(n:Net)(k:Int): Prop:=0<=k/\k<=n.2.2.2.2.1.length/\(n.2.2.2.2.1.take k.toNat).all (lQ n)=true
def UT(n:Net)(k:Int): Prop:=0<=k/\k<=n.2.2.2.2.2.length/\(n.2.2.2.2.2.take k.toNat).all l7=true
def ew(n:Net)(l:Int): Line:=n.2.2.2.2.1.getD l.toNat (⟨#[]⟩,0,0,0,0,0)
def ku(n:Net)(o l:Int): Bool:=decide (l=-1)||(decide (l<n.2.2.2.2.1.length)&&decide ((ew n l).2.1=o))
def np(n:Net)(o:Int)(r:Li): Bool:=r.all (ku n o)
def DC(n:Net)(p:Plan): Bool:=(decide (p.2.2.1.length=n.2.2.2.1.length)&&decide (p.2.2.2.length=n.2.2.2.2.2.length))&&(List.range p.2.2.1.length).all λi=>np n i (p.2.2.1.getD i [])
def nxP(p:Plan): Prop:=p.2.2.1.length<=2000000000000000/\∀r∈p.2.2.1,r.length<=2000000000000000/\∀x∈r,-1<=x
def aCW(n:Net)(p:Plan)(k:Int): Prop:=0<=k/\k<=p.2.2.1.length/\∀i:Nat,(i:Int)<k->np n i (p.2.2.1.getD i [])=true
def TK(n:Net)(o:Int)(r:Li)(k:Int): Prop:=0<=k/\k<=r.length/\(r.take k.toNat).all (ku n o)=true
def jC(c:Li×Int): Bool:=d5 c.1 c.2&&nK c.1
def yi(c:Li×Int): Int:=if d5 c.1 c.2 then 190 else 180
def Bm(c:Li×Int): Prop:=HJ c.1
def Ge(args:List AV)(m:Mem): Option jP:=match args,m with
 | [.ifc t (.dat (.int .i64) e)],[]=>if t=39 then some ⟨True,.dat I e,[]⟩else none
 | _,_=>none
def ZJ: Kt:=kOr 70 Ge aFW
def c9: Cfg:=Jr ZJ (λt=>t==12) KP8 (λf=>f==79||f==142)
theorem WW(s:Int)(l:Li)(hvc:
 let c1:=(l,s);let c2:=jC c1;let c3:=chainOf (Value.iface 39 (Value.int .i64 (yi c1)));let c4:=(aw l).1;let c5:=(aw l).2;let aQ:=c5.1;let c7:=c5.2;let c8:=c7.1;let c9:=c7.2;true/\(Bm c1->HJ l/\(true->True/\(d5 l s=false->c2=false/\true/\chainOf (Value.iface 39 (Value.int .i64 (180:Int)))=c3))/\((true->d5 l s)->(True/\d5 l s)/\(true->dI l/\(nK l=false->c2=false/\true/\chainOf (Value.iface 39 (Value.int .i64 (190:Int)))=c3))/\((true->nK l)->(dI l/\nK l)/\1=1/\1=1/\0=0/\1=1/\0=0/\1=1/\0=0/\c2/\1=1/\0=0/\c4=c4/\aQ=aQ/\c8=c8/\c9=c9/\1=1/\0=0/\0=0/\bQ l=bQ l/\True)))):
  evM c9 aA 71 [.agg [.dat R l,.dat I s]] [] (.tup [.agg [.dat I (aw l).1,.dat I (aw l).2.1,.dat M (aw l).2.2.1,.dat (.sl M) (aw l).2.2.2],.ptr 1 1 0 0]) [(1,.var [.dat R (bQ l)])] ⟨Bm (l,s),jC (l,s),dA 39 (yi (l,s))⟩:=oE hvc
theorem gL(x:Int)(hvc:
 let c1:=btw x 0 1439;true/\(True->True/\c1=c1/\True)):
  evF (mkc ZJ) aA 147 [.dat I x] [] ⟨True,.dat .bool (btw x 0 1439),[]⟩:=oE hvc
theorem gH(x:Int)(n:Net)(hvc:
 let c1:=Df n.2.2.2.1-1;true/\(rB n->inR .i64 c1/\True/\btw x 0 c1=kb n x/\True)):
  evF (mkc ZJ) aA 149 [.dat I x,.ipv (.ip N n)] [] ⟨rB n,.dat .bool (kb n x),[]⟩:=oE hvc
def rG: Kt:=kOr 147 (az [.val I] (λ_=>True) λ(x,_)=>.dat .bool (btw x 0 1439))<|kOr 149 (az [.val I,.bp N] (λ(_,n,_)=>rB n) λ(x,n,_)=>.dat .bool (kb n x)) ZJ
def usA(n:Net): Ann:=⟨λid s=>match id with
 | 4=>some {α:=Int,inv:=λk=>U0 n k,st:=λk=>put {fP s with mem:=[]} [(19,.dat I k),(6,.top)],μ:=λk=>Dc (Dh (Df n.1) k)}
 | 10=>some {α:=Int,inv:=λk=>TI n k,st:=λk=>put {fP s with mem:=[]} [(32,.dat I k),(8,.top)],μ:=λk=>Dc (Dh (Df n.2.2.2.1) k)}
 | 16=>some {α:=Int,inv:=λk=>T9 n k,st:=λk=>put {fP s with mem:=[]} [(64,.dat I k),(10,.top)],μ:=λk=>Dc (Dh (Df n.2.2.2.2.1) k)}
 | 22=>some {α:=Int,inv:=λk=>UT n k,st:=λk=>put {fP s with mem:=[]} [(99,.dat I k),(12,.top)],μ:=λk=>Dc (Dh (Df n.2.2.2.2.2) k)}
 | _=>none,λ_ _=>none,λ_ _=>none⟩
theorem aDs(n:Net)(hvc:
 let c1:=n.2.2.2;let c2:=Df n.1;let c5:=Df c1.1;let aQ:=c2-1;let c10:=Df c1.2.1;let c11:=((0:Int),(0:Int));let c14:=Df c1.2.2;true/\(rB n->(∃x,U0 n x/\n=n/\n=n/\n.1=n.1/\c2=c2/\0=x/\True)/\∀(x:Int),let c16:=Du n.1 (Dc x) ((0:Int),Dt Bool,Dt Int);let c18:=Di (dR c16.1 c16.2.1 c16.2.2);let c19:=x+1;U0 n x->(Dp x c2->0<=x/\x<c2/\1=1/\0=0/\1=1/\0=0/\True/\(c18->false=usF n/\True)/\(c18=false->inR .i64 c19/\∃y,U0 n y/\(n=n/\n=n/\n.1=n.1/\c2=c2/\c19=y/\True)/\Dc (c2-y)<Dc (c2-x)))/\(Dp x c2=false->(∃x,TI n x/\n=n/\n=n/\c1.1=c1.1/\c5=c5/\0=x/\True)/\∀(x:Int),let c20:=(Du c1.1 (Dc x) (ByteArray.mk #[],(0:Int),(0:Int),(0:Int),(0:Int),(0:Int),Dt ByteArray)).2.2;let c21:=Di (btw c20.1 0 aQ);let c22:=Di c21;let c7:=c22->c22->c22;let c24:=Dz c21 true (Di (btw c20.2.2.1 1 1000));let c25:=Di c24;let c8:=c25->c25->c25;let c26:=Dz c24 true (Di (btw c20.2.2.2.1 1 1000));let c27:=x+1;TI n x->(Dp x c5->0<=x/\x<c5/\1=1/\0=0/\1=1/\1=1/\0=0/\inR .i64 aQ/\True/\(c22->1=1)/\c7/\(c22->1=1)/\(c22->0=0)/\c7/\(c22->True)/\c7/\(Dk true c22->c22)/\(c25->1=1)/\c8/\(c25->1=1)/\(c25->0=0)/\c8/\(c25->True)/\c8/\(Dk true c25->c25)/\(c26->false=usF n/\True)/\(c26=false->inR .i64 c27/\∃y,TI n y/\(n=n/\n=n/\c1.1=c1.1/\c5=c5/\c27=y/\True)/\Dc (c5-y)<Dc (c5-x)))/\(Dp x c5=false->(∃x,T9 n x/\n=n/\n=n/\c1.2.1=c1.2.1/\c10=c10/\0=x/\True)/\∀(x:Int),let c28:=(Du c1.2.1 (Dc x) (ByteArray.mk #[],(0:Int),(0:Int),(0:Int),c11)).2;let c29:=Di (kb n c28.1);let c30:=Di c29;let c3:=c30->c30->c30;let c32:=Dz c29 true (Di (kb n c28.2.1));let c33:=Di c32;let c4:=c33->c33->c33;let c35:=Dz c32 true (Di (btw c28.2.2.1 0 1439));
 let c36:=Di c35;let c9:=c36->c36->c36;let c37:=Dz c35 true (Di (btw c28.2.2.2.1 1 100000));let c38:=x+1;T9 n x->(Dp x c10->0<=x/\x<c10/\1=1/\0=0/\1=1/\1=1/\0=0/\rB n/\(c30->1=1)/\c3/\(c30->1=1)/\(c30->0=0)/\c3/\c3/\(c30->rB n)/\c3/\(Dk true c30->c30)/\(c33->1=1)/\c4/\(c33->1=1)/\(c33->0=0)/\c4/\c4/\(c33->True)/\c4/\(Dk true c33->c33)/\(c36->1=1)/\c9/\(c36->1=1)/\(c36->0=0)/\c9/\(c36->True)/\c9/\(Dk true c36->c36)/\(c37->false=usF n/\True)/\(c37=false->inR .i64 c38/\∃y,T9 n y/\(n=n/\n=n/\c1.2.1=c1.2.1/\c10=c10/\c38=y/\True)/\Dc (c10-y)<Dc (c10-x)))/\(Dp x c10=false->(∃x,UT n x/\c1.2.2=c1.2.2/\c14=c14/\0=x/\True)/\∀(x:Int),let c39:=(Du c1.2.2 (Dc x) (ByteArray.mk #[],c11)).2;let c40:=Di (btw c39.1 0 1439);let c41:=Di c40;let c6:=c41->c41->c41;let c42:=Dz c40 true (Di (btw c39.2 0 1439));let c43:=x+1;UT n x->(Dp x c14->0<=x/\x<c14/\1=1/\0=0/\1=1/\1=1/\0=0/\True/\(c41->1=1)/\c6/\(c41->1=1)/\(c41->0=0)/\c6/\c6/\(c41->True)/\c6/\(Dk true c41->c41)/\(c42->false=usF n/\True)/\(c42=false->inR .i64 c43/\∃y,UT n y/\(c1.2.2=c1.2.2/\c14=c14/\c43=y/\True)/\Dc (c14-y)<Dc (c14-x)))/\(Dp x c14=false->true=usF n/\True)))))):
  evF (mkc rG) (lvA [(4,[1,2,3,4,6,8,10,12,17,18,19,30,31,32,62,63,64,97,98,99]),(10,[1,2,3,4,8,10,12,30,31,32,62,63,64,97,98,99]),(16,[1,2,3,4,10,12,62,63,64,97,98,99]),(22,[2,3,12,97,98,99])] (usA n)) 80 [.ip N n] [] ⟨rB n,.dat .bool (usF n),[]⟩:=oE hvc
def aGb(n:Net)(p:Plan): Ann:=⟨λid s=>match id with
 | 4=>some {α:=Int,inv:=λk=>aCW n p k,st:=λk=>put (fP s) [(38,.dat I k)],μ:=λk=>Dc (Dh (Df p.2.2.1) k)}
 | 7=>match s.sig.T 5,s.sig.T 6 with
  | .dat (.int .i64) o,.dat (.sl (.int .i64)) r=>some {α:=Int,inv:=λk=>TK n o r k,st:=λk=>put (fP s) [(45,.dat I k)],μ:=λk=>Dc (Dh (Df r) k)}
  | _,_=>none
 | _=>none,λ_ _=>none,λ_ _=>none⟩
theorem aAs(n:Net)(p:Plan)(hvc:
 let c2:=n.2.2.2;let c1:=p.2.2.1;let c3:=Df c1;let c5:=Ec c3 (Df c2.1);let aQ:=Di c5;let c6:=aQ->aQ->aQ;let c8:=Dz c5 true (Ec (Df p.2.2.2) (Df c2.2.2));let c10:=Df c2.2.1;true/\(rB n/\nxP p->c6/\c6/\c6/\c6/\c6/\c6/\c6/\c6/\c6/\c6/\(Dk true aQ->aQ)/\(c8->false=DC n p/\True)/\(c8=false->(∃x,aCW n p x/\n=n/\c1=c1/\c3=c3/\0=x/\True)/\∀(x:Int),let c11:=Du c1 (Dc x) [];let c12:=Df c11;let c13:=x+1;aCW n p x->(Dp x c3->0<=x/\x<c3/\(∃x_3,TK n x c11 x_3/\n=n/\x=x/\c11=c11/\c1=c1/\c3=c3/\x=x/\c11=c11/\c12=c12/\0=x_3/\True)/\∀(x_3:Int),let c14:=Du c11 (Dc x_3) 0;let c15:=Ec c14 (-1);let c7:=c15->c15->c15;let c16:=Ed c14 c10;let c9:=Di c16;let c4:=Dk c15 c9->Dk c15 c9->Dk c15 c9;let c17:=Dz c15 (Dz c16 true (Ec (Du c2.2.1 (Dc c14) (ByteArray.mk #[],(0:Int),(0:Int),(0:Int),(0:Int),(0:Int))).2.1 x)) false;let c18:=x_3+1;TK n x c11 x_3->(Dp x_3 c12->0<=x_3/\x_3<c12/\c7/\c7/\c7/\c7/\c7/\c7/\c7/\c4/\c4/\c4/\c4/\c4/\(Dk c15 c9->0<=c14)/\(Dk c15 c9->c14<c10)/\c4/\c4/\c4/\c4/\c7/\(c15->Dk c15 c9->Dk c15 c9)/\(Dk true c15->c15)/\(c17->false=DC n p/\True)/\(c17=false->inR IntKind.i64 c18/\∃y,TK n x c11 y/\(n=n/\x=x/\c11=c11/\c1=c1/\c3=c3/\x=x/\c11=c11/\c12=c12/\c18=y/\True)/\Dc (c12-y)<Dc (c12-x_3)))/\(Dp x_3 c12=false->inR .i64 c13/\∃y,aCW n p y/\(n=n/\c1=c1/\c3=c3/\c13=y/\True)/\Dc (c3-y)<Dc (c3-x)))/\(Dp x c3=false->true=DC n p/\True)))):
  evF (mkc rG) (lvA [(4,[0,4,5,6,8,36,37,38,43,44,45]),(7,[0,4,5,6,8,36,37,38,43,44,45])] (aGb n p)) 81 [.ip N n,.ip Pl p] [] ⟨rB n/\nxP p,.dat .bool (DC n p),[]⟩:=oE hvc
theorem J1: ∀args m c,Ge args m=some c->af Tryz.prog dY 70 args m c:=by
 intro args m c h;unfold Ge at h;split at h
 .split at h
  .rename_i e;subst e;cases h;exact aBa _
  .cases h
 .cases h
theorem KS9: ak Tryz.prog dY ZJ:=ai J1 aE8
theorem Vt(s:Int)(l:Li): af Tryz.prog dY 71 [.agg [.dat R l,.dat I s]] [] ⟨Bm (l,s)/\jC (l,s)=true,.tup [.agg [.dat I (aw l).1,.dat I (aw l).2.1,.dat M (aw l).2.2.1,.dat (.sl M) (aw l).2.2.2],.ptr 1 1 0 0],[(1,.var [.dat R (bQ l)])]⟩/\
  da Tryz.prog dY 71 [.agg [.dat R l,.dat I s]] [] ⟨Bm (l,s),jC (l,s),dA 39 (yi (l,s))⟩:=by
 refine cC (c:=c9) KS9 aJ hm aCE (WW s l ⟨rfl,λhp=>?_⟩);simp only[qc];refine⟨hp,λh=>⟨?_,?_⟩,λh=>⟨h,⟨?_,λh2=>⟨?_,?_⟩⟩,λh2=>⟨⟨?_,h2⟩,?_⟩⟩⟩
 .unfold jC;rw[h];rfl
 .unfold yi;rw[h];rfl
 .exact⟨by unfold d5 at h;rw[qC]at h;exact h.1,hp⟩
 .unfold jC;rw[h2];simp
 .unfold yi;rw[h];rfl
 .exact⟨by unfold d5 at h;rw[qC]at h;exact h.1,hp⟩
 .unfold jC;rw[h,h2];rfl
theorem aDA(x:Int): af Tryz.prog dY 147 [.dat I x] [] ⟨True,.dat .bool (btw x 0 1439),[]⟩:=
 ae (c:=mkc ZJ) KS9 aJ hm (gL x ⟨rfl,λ_=>⟨trivial,rfl,trivial⟩⟩)
theorem aDz(x:Int)(n:Net): af Tryz.prog dY 149 [.dat I x,.ipv (.ip N n)] [] ⟨rB n,.dat .bool (kb n x),[]⟩:=by
 refine ae (c:=mkc ZJ) KS9 aJ hm (gH x n ⟨rfl,λhp=>⟨aB ?_,trivial,rfl,trivial⟩⟩);have:=hp.1.1.2;simp only[Df];omega
theorem Z5: ak Tryz.prog dY rG:=ai (ag λ(x,_)=>aDA x)<|ai (ag λ(x,n,_)=>aDz x n) KS9
theorem pj{α:Type}{p:α->Bool}{l:List α}{k:Int}(d:α)(h0:0<=k)(hk:k<l.length)(ha:(l.take k.toNat).all p=true)(hp:p (l.getD k.toNat d)=true): (l.take (k+1).toNat).all p=true:=by
 rw[show(k+1).toNat=k.toNat+1 by omega,wW,kX,ha];rw[qA,qB (by omega:k.toNat<l.length)]at hp;rw[qB (by omega:k.toNat<l.length)];simpa using hp
theorem C2{α:Type}{p:α->Bool}{l:List α}{k:Int}(d:α)(h0:0<=k)(hk:k<l.length)(hp:p (l.getD k.toNat d)=false): l.all p=false:=by
 cases e:l.all p with
 | false=>rfl
 | true=>rw[qM.1 e _ (aU (d:=d) (by omega))]at hp;cases hp
theorem uE{α:Type}{p:α->Bool}{l:List α}{k:Int}(ha:(l.take k.toNat).all p=true)(hk:¬k<l.length): l.all p=true:=by
 rwa [qO (by omega)]at ha
theorem aFZ(n:Net): af Tryz.prog dY 80 [.ip N n] [] ⟨rB n,.dat .bool (usF n),[]⟩:=by
 refine ae (c:=mkc rG) Z5 aJ hm (aDs n ⟨rfl,λhp=>?_⟩);obtain⟨⟨⟨l1,l2⟩,l3⟩,l4⟩:=id hp;obtain⟨cs,ns,os,fs,ls,ks⟩:=n;simp only at l1 l2 l3 l4;simp only[qc,Dk,Di,qd,Dt,Dp,Df,Dc,Du];refine⟨⟨qL _,qZ _,rfl⟩,λx hx=>?_⟩;have hx0:0<=x:=hx.1;have hx1:x<=cs.length:=hx.2.1
 refine⟨λhlt=>⟨hx0,hlt,λhb=>?_,λhb=>⟨aB (by omega),x+1,⟨by omega,by show x+1<=(cs.length:Int);omega,pj (0,[],[]) hx0 hlt hx.2.2 hb⟩,rfl,by omega⟩⟩,λhge=>?_⟩
 .unfold usF;rw[C2 (p:=nG) (0,[],[]) hx0 hlt hb];rfl
 have e1:=uE hx.2.2 hge;refine⟨⟨qL _,qZ _,rfl⟩,λy hy=>?_⟩;have hy0:0<=y:=hy.1;have hy1:y<=fs.length:=hy.2.1;refine⟨λhlt=>⟨hy0,hlt,aB (by omega),λhb=>?_,λhb=>⟨aB (by omega),y+1,⟨by omega,by show y+1<=(fs.length:Int);omega,pj (⟨#[]⟩,0,0,0,0,0,[]) hy0 hlt hy.2.2 ?_⟩,rfl,by omega⟩⟩,λhge=>?_⟩
 .have:lM (cs,ns,os,fs,ls,ks) (fs.getD y.toNat (⟨#[]⟩,0,0,0,0,0,[]))=false:=by
   unfold lM;rcases hb with(h | h) | h<;>rw[h]<;>simp
  unfold usF;rw[C2 (p:=lM (cs,ns,os,fs,ls,ks)) (⟨#[]⟩,0,0,0,0,0,[]) hy0 hlt this];simp
 .unfold lM;rw[hb.1.1,hb.1.2,hb.2];rfl
 have e2:=uE hy.2.2 hge;refine⟨⟨qL _,qZ _,rfl⟩,λz hz=>?_⟩;have hz0:0<=z:=hz.1;have hz1:z<=ls.length:=hz.2.1;refine⟨λhlt=>⟨hz0,hlt,hp,λ_=>hp,λhb=>?_,λhb=>⟨aB (by omega),z+1,⟨by omega,by show z+1<=(ls.length:Int);omega,pj (⟨#[]⟩,0,0,0,0,0) hz0 hlt hz.2.2 ?_⟩,rfl,by omega⟩⟩,λhge=>?_⟩
 .have:lQ (cs,ns,os,fs,ls,ks) (ls.getD z.toNat (⟨#[]⟩,0,0,0,0,0))=false:=by
   unfold lQ;rcases hb with((h | h) | h) | h<;>rw[h]<;>simp
  unfold usF;rw[C2 (p:=lQ (cs,ns,os,fs,ls,ks)) (⟨#[]⟩,0,0,0,0,0) hz0 hlt this];simp
 .unfold lQ;rw[hb.1.1.1,hb.1.1.2,hb.1.2,hb.2];rfl
 have e3:=uE hz.2.2 hge;refine⟨⟨qL _,qZ _,rfl⟩,λu hu=>?_⟩;have hu0:0<=u:=hu.1;have hu1:u<=ks.length:=hu.2.1;refine⟨λhlt=>⟨hu0,hlt,λhb=>?_,λhb=>⟨aB (by omega),u+1,⟨by omega,by show u+1<=(ks.length:Int);omega,pj (⟨#[]⟩,0,0) hu0 hlt hu.2.2 ?_⟩,rfl,by omega⟩⟩,λhge=>?_⟩
 .have:l7 (ks.getD u.toNat (⟨#[]⟩,0,0))=false:=by
   unfold l7;rcases hb with h | h<;>rw[h]<;>simp
  unfold usF;rw[C2 (p:=l7) (⟨#[]⟩,0,0) hu0 hlt this];simp
 .unfold l7;rw[hb.1,hb.2];rfl
 have e4:=uE hu.2.2 hge;unfold usF;rw[e1,e2,e3,e4];rfl
theorem aB2{n:Net}{p:Plan}{i:Nat}(hi:i<p.2.2.1.length)(h:np n i (p.2.2.1.getD i [])=false): DC n p=false:=by
 cases e:DC n p with
 | false=>rfl
 | true=>
  unfold DC at e;rw[qC,qM]at e;rw[e.2 i (qX.2 hi)]at h;cases h
theorem aEb(n:Net)(p:Plan): af Tryz.prog dY 81 [.ip N n,.ip Pl p] [] ⟨rB n/\nxP p,.dat .bool (DC n p),[]⟩:=by
 refine ae (c:=mkc rG) Z5 aJ hm (aAs n p ⟨rfl,λ⟨hn,hp⟩=>?_⟩);obtain⟨⟨⟨l1,l2⟩,l3⟩,l4⟩:=id hn;obtain⟨cs,ns,os,fs,ls,ks⟩:=n;obtain⟨p1,p2,nx,dy⟩:=p;simp only at l1 l2 l3 l4;simp only[qc,Dk,Di,qd,Ec,Dp,Ed,Df,Dc,Du];obtain⟨q1,q2⟩:nx.length<=2000000000000000/\∀r∈nx,r.length<=2000000000000000/\∀x∈r,-1<=x:=hp
 refine⟨λh=>?_,λ⟨h1,h2⟩=>⟨⟨qL _,qZ _,λi hi=>by omega⟩,λx hx=>?_⟩⟩
 .unfold DC;rcases h with h | h
  .rw[vH (p:=nx.length=fs.length) (by omega)];simp
  .rw[vH (p:=dy.length=ks.length) (by omega)];simp
 have hx0:0<=x:=hx.1;have hx1:x<=nx.length:=hx.2.1;refine⟨λhlt=>⟨hx0,hlt,⟨qL _,qZ _,rfl⟩,λy hy=>?_⟩,λhge=>?_⟩
 .obtain⟨r1,r2⟩:=q2 _ (aU (l:=nx) (i:=x.toNat) (d:=[]) (by omega));obtain⟨r,hr⟩:∃r,r=nx.getD x.toNat []:=⟨_,rfl⟩;rw[<- hr]at r1 r2 hy ⊢;have hy0:0<=y:=hy.1;have hy1:y<=r.length:=hy.2.1;refine⟨λhlt2=>?_,λhge2=>?_⟩
  .have hv:=r2 _ (aU (l:=r) (i:=y.toNat) (d:=0) (by omega));obtain⟨v,hv2⟩:∃v,v=r.getD y.toNat 0:=⟨_,rfl⟩;rw[<- hv2]at hv ⊢;have cg:ku (cs,ns,os,fs,ls,ks) x v=(decide (v=-1)||(decide (v<ls.length)&&decide ((ls.getD v.toNat (⟨#[]⟩,0,0,0,0,0)).2.1=x))):=rfl;refine⟨hy0,hlt2,λh=>by omega,λh=>by omega,λh=>?_,λh=>⟨aB (by omega),y+1,⟨by omega,by omega,pj 0 hy0 hlt2 hy.2.2 ?_⟩,rfl,by omega⟩⟩
   .have:ku (cs,ns,os,fs,ls,ks) x v=false:=by
     rw[cg,vH h.1];rcases h.2 with h3 | h3
     .rw[vH (by omega)];rfl
     .rw[vH h3];simp
    refine(aB2 (i:=x.toNat) (by show x.toNat<nx.length;omega) ?_).symm;show np _ _ (nx.getD x.toNat [])=false;rw[<- hr];unfold np;rw[qU hx0];exact C2 0 hy0 hlt2 (by rw[<- hv2];exact this)
   .rw[<- hv2,cg];by_cases hm:v=-1
    .rw[qV hm];rfl
    .obtain⟨g1,g2⟩:=h hm;rw[qV (p:=v<ls.length) (by omega),qV g2];simp
  .have e1:=uE hy.2.2 hge2;refine⟨aB (by omega),x+1,⟨by omega,by show x+1<=(nx.length:Int);omega,λi hi=>?_⟩,rfl,by omega⟩;by_cases e:(i:Int)<x
   .exact hx.2.2 i e
   .have:(i:Int)=x:=by omega
    rw[this];show np _ _ (nx.getD i [])=true;have e2:i=x.toNat:=by omega
    rw[e2,<- hr];exact e1
 .unfold DC;rw[qV (p:=nx.length=fs.length) (by omega),qV (p:=dy.length=ks.length) (by omega)]
  symm
  simp only[zQ];exact qM.2 λi hi=>hx.2.2 i (by have:i<nx.length:=qX.1 hi;omega)
end Go.Eng.In
