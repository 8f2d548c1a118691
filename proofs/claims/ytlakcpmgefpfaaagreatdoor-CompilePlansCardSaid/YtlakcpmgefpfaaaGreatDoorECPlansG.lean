/- PeCo5n PeCoL2n PeCo6n PeCo7n PeCo8n PeCoPn PeCoQn PeH19 PeH20 -/
import Derived.Test.YtlakcpmgefpfaaaGreatDoorECPlansA
import Derived.Test.YtlakcpmgefpfaaaGreatDoorECPlansB
import Derived.Test.YtlakcpmgefpfaaaGreatDoorECPlansC
import Derived.Test.YtlakcpmgefpfaaaGreatDoorECPlansD
import Derived.Test.YtlakcpmgefpfaaaGreatDoorECPlansE
import Derived.Test.YtlakcpmgefpfaaaGreatDoorECPlansF
import Derived.ChangeSame
import Derived.Carry
import Derived.Deep.Slices
import Derived.ChangeArms
import Derived.OpenShut
set_option linter.unusedSimpArgs false
set_option linter.unusedVariables false
set_option maxRecDepth 100000
noncomputable section
namespace Go.Eng.Sv
open Go.Proofs
def tD(n:Net): List (Int×Off):=(List.range n.2.2.2.1.length).map λi:Nat=>((i:Int),bO n i)
def BL(n:Net)(k:Int): Prop:=0<=k/\k<=n.2.2.2.1.length
def sr(n:Net): Prop:=(n.2.2.2.1.length:Int)<=1000000
def fN(p:Plan)(o:Int): Li:=p.2.2.1.getD o.toNat []
def WW(p:Plan)(o:Int): Li:=((List.range (fN p o).length).filter λd:Nat=>decide ((d:Int)≠o)).map λd=>(fN p o).getD d 0
def wfR(l:Li): Prop:=∀j:Nat,-1<=l.getD j 0/\l.getD j 0<=1000000
def Rh(p:Plan)(o:Int): Prop:=0<=o/\o<p.2.2.1.length/\((fN p o).length:Int)<=1000000/\wfR (fN p o)
def Jt(x:Int): Li->Li
 | []=>[x]
 | a::l=>if x<a then x::a::l else if x=a then a::l else a::Jt x l
def Am(p:Plan)(o:Int): Li:=((WW p o).filter λl=>decide (l≠-1)).foldr Jt []
def XJ(n:Net)(p:Plan)(o:Int): Int:=Ek (bO n o).2.2.2.1 (bO n o).2.2.2.2.1 (1+(Am p o).length)
def nY(n:Net)(p:Plan): Int:=if(List.range n.2.2.2.1.length).all (λo:Nat=>decide (XJ n p o=0))then 0 else 140
def vn(n:Net)(p:Plan): Prop:=bn n=true/\nN n p.2.2.1=true
def AX(n:Net)(p:Plan)(j:Nat): Prop:=vn n p/\j<=(tD n).length/\∀i:Nat,i<j->XJ n p i=0
theorem QH(n:Net)(hvc:
 true/\(True->n=n/\True)):
  evF (mkc KC8) aA 106 [.agg [.dat (.sl C) n.1,.dat (.sl S) n.2.1,.dat (.sl S) n.2.2.1,.dat (.sl Of) n.2.2.2.1,.dat (.sl Ln) n.2.2.2.2.1,.dat (.sl Kl) n.2.2.2.2.2]] [] ⟨True,.fn 169 [.ip N n],[]⟩:=oE hvc
def aBb(n:Net): GG:=⟨λid y=>match id with
 | 1=>some {α:=Int,inv:=λk=>BL n k,st:=λk=>⟨put y.s [(8,.dat I k)],Dc k,true⟩,μ:=λk=>Dc (Dh (Df n.2.2.2.1) k)}
 | _=>none,λid s=>match id,s.sig.T 8 with
 | 3,.dat (.int .i64) k=>some (put {s with mem:=[]} [(4,.ip Of (bO n k))])
 | _,_=>none,λid=>id==3⟩
theorem QG(n:Net)(hvc:
 let c1:=n.2.2.2;let c3:=Df c1.1;let c4:=Dj (tD n);true/\true/\true/\false=false/\∀(l:Nat),sr n->(∃x,BL n x/\(l=l/\n=n/\c1=c1/\c1.1=c1.1/\c3=c3/\0=x/\True)/\0=Dc x/\true)/\∀(x:Int),let c5:=Du c1.1 (Dc x) (ByteArray.mk #[],(0:Int),(0:Int),(0:Int),(0:Int),(0:Int),Dt ByteArray);let c18:=(bO n x).2;let c23:=x+1;BL n x->(Dp x c3->0<=x/\x<c3/\1=1/\0=0/\l=l/\n=n/\x=x/\1=1/\0=0/\c5=bO n x/\c1=c1/\c1.1=c1.1/\c3=c3/\x=x/\Dp x c3=Dp x c3/\x=x/\c5=c5/\c5.1=c5.1/\c5.2.1=c5.2.1/\c5.2.2.1=c5.2.2.1/\c5.2.2.2.1=c5.2.2.2.1/\c5.2.2.2.2.1=c5.2.2.2.2.1/\c5.2.2.2.2.2.1=c5.2.2.2.2.2.1/\c5.2.2.2.2.2.2=c5.2.2.2.2.2.2/\(true->l=l/\true/\lX (tD n) (Dc x) (x,(bO n x).1,c18.1,c18.2.1,c18.2.2.1,c18.2.2.2.1,c18.2.2.2.2.1,c18.2.2.2.2.2)/\∀(b:Bool),(Di b->b->Dc x+(1)=c4)/\(Di b=false->inR .i64 c23/\∃y,BL n y/\((l=l/\n=n/\c1=c1/\c1.1=c1.1/\c3=c3/\c23=y/\True)/\Dc x+(1)=Dc y/\b)/\Dc (c3-y)<Dc (c3-x)))/\(true=false->(true->true)/\(Di false->true->Dc x=c4)/\(Di false=false->inR .i64 c23/\∃y,BL n y/\((l=l/\n=n/\c1=c1/\c1.1=c1.1/\c3=c3/\c23=y/\True)/\Dc x=Dc y/\true)/\Dc (c3-y)<Dc (c3-x))))/\(Dp x c3=false->true->Dc x=c4)):
  evI (mkc KC8) (aBb n) 169 [.ip N n] ⟨sr n,.pair I Of,tD n⟩:=oE hvc
def KC9: Kt:=kOr 45 (ay [.row Pl,.val I] (λ(p,o,_)=>Rh p o) λ(p,o,_)=>.dat R (Am p o)) <|
 kOr 106 (ay [.row N] (λ_=>True) λ(n,_)=>.fn 169 [.ip N n]) KC8
def KIM: FuncId->List AV->Option ja:=λf caps=>if f=169 then match ofK [.ptr N] caps with
 | some (n,_)=>some ⟨sr n,.pair I Of,tD n⟩
 | none=>none
 else none
noncomputable def cSort: Cfg:=⟨Tryz.prog,G0,KC9,λ_=>false,KIM,true,Go.Eng.noP,λ_=>false⟩
def sortA(n:Net)(p:Plan)(c:jg): Ann:=⟨λid s=>match id with
 | 2=>some {α:=Nat,inv:=λj=>AX n p j,st:=λj=>iM (iM (flat s) 2 (.var (OW n p c))) 3 (.var [.dat I 0]),μ:=λj=>j}
 | _=>none,λ_ _=>none,λ_ _=>none⟩
theorem QU(n:Net)(p:Plan)(c:jg)(hvc:
 let c5:=p.2.1;let c4:=n.2.1;let c3:=p.2.2;let c2:=n.2.2.1;let c1:=n.2.2.2;let c20:=tD n;true/\(vn n p->1=1/\1=1/\1=1/\1=1/\0=0/\True/\sr n/\(∃x,AX n p x/\x=0/\1=1/\0=0/\0=0/\1=1/\0=0/\0=0/\1=1/\0=0/\0=0/\1=1/\0=0/\0=0/\1=1/\0=0/\0=0/\1=1/\0=0/\0=0/\n.1=n.1/\c4=c4/\c2=c2/\c1.1=c1.1/\c1.2.1=c1.2.1/\c1.2.2=c1.2.2/\n=n/\n.1=n.1/\c4=c4/\c2=c2/\c1.1=c1.1/\c1.2.1=c1.2.1/\c1.2.2=c1.2.2/\p.1=p.1/\c5=c5/\c3.1=c3.1/\c3.2=c3.2/\c.1=c.1/\c.2=c.2/\(0:Int)=(0:Int)/\1=1/\True)/\(∀(x:Nat) (y:Int×ByteArray×Int×Int×Int×Int×Int×List ByteArray),let c23:=1+Df (Am p y.1);let c25:=Ea (Ek y.2.2.2.2.1 y.2.2.2.2.2.1 c23) 0;AX n p x->lX c20 x y->1=1/\0=0/\1=1/\1=1/\1=1/\0=0/\Rh p y.1/\inR IntKind.i64 c23/\1=1/\1=1/\0=0/\1=1/\1=1/\0=0/\True/\(c25->1=1/\0=0/\1=1/\0=0/\140=nY n p/\n.1=n.1/\c4=c4/\c2=c2/\c1.1=c1.1/\c1.2.1=c1.2.1/\c1.2.2=c1.2.2/\p.1=p.1/\c5=c5/\c3.1=c3.1/\c3.2=c3.2/\c.1=c.1/\c.2=c.2/\1=1/\True)/\(c25=false->∃z,AX n p z/\z=x+(1)/\1=1/\0=0/\0=0/\1=1/\0=0/\0=0/\1=1/\0=0/\0=0/\1=1/\0=0/\0=0/\1=1/\0=0/\0=0/\1=1/\0=0/\0=0/\n.1=n.1/\c4=c4/\c2=c2/\c1.1=c1.1/\c1.2.1=c1.2.1/\c1.2.2=c1.2.2/\n=n/\n.1=n.1/\c4=c4/\c2=c2/\c1.1=c1.1/\c1.2.1=c1.2.1/\c1.2.2=c1.2.2/\p.1=p.1/\c5=c5/\c3.1=c3.1/\c3.2=c3.2/\c.1=c.1/\c.2=c.2/\(0:Int)=(0:Int)/\1=1/\True))/\∀(x:Nat),AX n p x->x=Dj c20->1=1/\0=0/\1=1/\0=0/\0=nY n p/\n.1=n.1/\c4=c4/\c2=c2/\c1.1=c1.1/\c1.2.1=c1.2.1/\c1.2.2=c1.2.2/\p.1=p.1/\c5=c5/\c3.1=c3.1/\c3.2=c3.2/\c.1=c.1/\c.2=c.2/\1=1/\True)):
  evF cSort (sortA n p c) 40 [.ptr 2 1 0 0] (rU n p c) ⟨vn n p,.dat I (nY n p),rU n p c⟩:=oE hvc
theorem Xo(n:Net): af Tryz.prog G0 106 [.agg [.dat (.sl C) n.1,.dat (.sl S) n.2.1,.dat (.sl S) n.2.2.1,.dat (.sl Of) n.2.2.2.1,.dat (.sl Ln) n.2.2.2.2.1,.dat (.sl Kl) n.2.2.2.2.2]] [] ⟨True,.fn 169 [.ip N n],[]⟩:=
 ae (c:=mkc KC8) P2 aL hm (QH n ⟨rfl,λ_=>⟨rfl,trivial⟩⟩)
theorem Yl{n:Net}{x:Int}(h0:0<=x)(h1:x<n.2.2.2.1.length): lX (tD n) x.toNat (x,bO n x):=by
 show((List.range n.2.2.2.1.length).map λi:Nat=>((i:Int),bO n i))[x.toNat]?=_
 have e:((x.toNat:Nat):Int)=x:=by omega
 rw[qP,wJ (by omega),zU,e]
theorem yp(n:Net): (tD n).length=n.2.2.2.1.length:=by unfold tD;simp
theorem Xn(n:Net): mW Tryz.prog G0 169 [.ip N n] ⟨sr n,.pair I Of,tD n⟩:=by
 refine jC (c:=mkc KC8) (A:=aBb n) P2 aL hm (QG n ⟨rfl,rfl,rfl,rfl,λl hs=>?_⟩)
 have eO:∀x:Int,n.2.2.2.1.getD x.toNat (⟨#[]⟩,0,0,0,0,0,[])=bO n x:=λ_=>rfl
 have eP:∀q:Off,(q.1,q.2.1,q.2.2.1,q.2.2.2.1,q.2.2.2.2.1,q.2.2.2.2.2.1,q.2.2.2.2.2.2)=q:=λ_=>rfl
 simp only[qc,Di,qd,Dt,Dp,Df,Dc,Dj,Du,yp];unfold sr at hs;refine⟨⟨0,⟨by omega,by omega⟩,rfl,rfl⟩,λx ⟨x0,x1⟩=>⟨λhlt=>⟨x0,hlt,rfl,⟨Yl x0 hlt,λb=>⟨λh1 h2=>(by rw[h1]at h2;cases h2),λhb=>⟨aO (by omega),x+1,⟨by omega,by omega⟩,⟨rfl,by omega,hb⟩,by omega⟩⟩⟩,λh=>(by cases h)⟩,λhge=>(by omega)⟩⟩
def nB: Prop:=∀(p:Plan) (o:Int),af Tryz.prog G0 45 [.agg [.dat I p.1,.dat I p.2.1,.dat M p.2.2.1,.dat (.sl M) p.2.2.2],.dat I o] [] ⟨Rh p o,.dat R (Am p o),[]⟩
theorem aE3(h:nB): al Tryz.prog G0 KC9:=aj (ag λ(p,o,_)=>h p o)<|aj (ag λ(n,_)=>Xo n) P2
theorem aB4: bu Tryz.prog G0 KIM:=by
 intro f caps it h;unfold KIM at h;split at h
 case isFalse=>cases h
 rename_i hf;subst hf;split at h
 case h_2=>cases h
 rename_i n _ hx;cases h;exact λhp l J JX JP w D us hD hG hu=>Xn n hp l J JX JP w D us hD hG (eZ hx hu)
theorem FI{x y:Int}: ∀{l:Li},y∈Jt x l↔y=x\/y∈l
 | []=>by simp[Jt]
 | a::l=>by
  unfold Jt;split
  .simp
  .split
   .rename_i h;subst h;simp
   .rw[zA,FI (l:=l),zA];constructor
    .rintro(h | h | h)
     .exact .inr (.inl h)
     .exact .inl h
     .exact .inr (.inr h)
    .rintro(h | h | h)
     .exact .inr (.inl h)
     .exact .inl h
     .exact .inr (.inr h)
theorem wu{x:Int}: ∀{l:Li},l.Pairwise (· < ·)->(Jt x l).Pairwise (· < ·)
 | [],_=>qAn _ _
 | a::l,h=>by
  obtain⟨h1,h2⟩:=yL.1 h;unfold Jt;split
  .rename_i hx;refine yL.2 ⟨λb hb=>?_,h⟩
   rcases zA.1 hb with rfl | hb
   .exact hx
   .have:=h1 b hb;omega
  .split
   .exact h
   .refine yL.2 ⟨λb hb=>?_,wu h2⟩
    rcases FI.1 hb with rfl | hb
    .omega
    .exact h1 b hb
theorem NZ{x:Int}: ∀{l:Li},(Jt x l).length<=l.length+1
 | []=>qK _
 | a::l=>by
  have:=NZ (x:=x) (l:=l);unfold Jt;split
  .simp
  .split
   .simp
   .simp only[wS];omega
theorem HL{y:Int}: ∀{l:Li},y∈l.foldr Jt []↔y∈l
 | []=>by simp
 | a::l=>by rw[qDi,FI,HL,zA]
theorem ub: ∀(l:Li),(l.foldr Jt []).Pairwise (· < ·)
 | []=>zX
 | _::l=>wu (ub l)
theorem HM: ∀(l:Li),(l.foldr Jt []).length<=l.length
 | []=>qK _
 | a::l=>by
  have:=HM l;have:=NZ (x:=a) (l:=l.foldr Jt []);rw[qDi,wS];omega
theorem Ob(p:Plan)(o:Int): (Am p o).length<=(fN p o).length:=by
 unfold Am;refine wH (HM _) (wH (xJ _ _) ?_);unfold WW;rw[vY];exact wH (xJ _ _) (by rw[wG];exact qK _)
theorem U3(cs:LC)(ns os:LB)(fs:Lo)(ls:Ll)(ks:Lk){nx:Lj}(hs:bn (cs,ns,os,fs,ls,ks)=true)(ht:nN (cs,ns,os,fs,ls,ks) nx=true){o:Int}(o0:0<=o)(o1:o<fs.length): wfR (nx.getD o.toNat []):=λj=>by
 have h1:=(jy cs ns os fs ls ks (bm cs ns os fs ls ks hs)).1;by_cases hj:(j:Int)<fs.length
 .obtain⟨_,_,h⟩:=gW cs ns os fs ls ks ht o0 o1 (d:=j) (by omega) hj
  have e:nxt nx o j=(nx.getD o.toNat []).getD j 0:=by unfold nxt;rw[qQ]
  rw[<- e];by_cases hn:nxt nx o j=-1
  .omega
  .have:=(h hn).1;omega
 .obtain⟨_,h,_⟩:=gW cs ns os fs ls ks ht o0 o1 o0 o1;rw[qA,zG (by omega)]
  exact⟨by decide,by decide⟩
theorem Xy(h:nB)(n:Net)(p:Plan)(c:jg): af Tryz.prog G0 40 [.ptr 2 1 0 0] (rU n p c) ⟨vn n p,.dat I (nY n p),rU n p c⟩:=by
 refine ae (c:=cSort) (aE3 h) aB4 hm (QU n p c ⟨rfl,λhp=>?_⟩)
 have eN:(n.1,n.2.1,n.2.2.1,n.2.2.2.1,n.2.2.2.2.1,n.2.2.2.2.2)=n:=rfl;have eP:(p.1,p.2.1,p.2.2.1,p.2.2.2)=p:=rfl;simp only[qc,qd,Ea,Df,Dj];obtain⟨hs,ht⟩:=id hp;obtain⟨q1,_⟩:=nA n.1 n.2.1 n.2.2.1 n.2.2.2.1 n.2.2.2.2.1 n.2.2.2.2.2 hs;have q1:(n.2.2.2.1.length:Int)<=12:=q1
 have row:∀o:Int,0<=o->o<n.2.2.2.1.length->(p.2.2.1.length:Int)=n.2.2.2.1.length/\((fN p o).length:Int)=n.2.2.2.1.length:=λo o0 o1=>by
  obtain⟨g1,g2,_⟩:=gW n.1 n.2.1 n.2.2.1 n.2.2.2.1 n.2.2.2.2.1 n.2.2.2.2.2 ht o0 o1 o0 o1;exact⟨g1,g2⟩
 have at_:∀{x:Nat} {y:Int×Off},lX (tD n) x y->x<n.2.2.2.1.length/\y=((x:Int),bO n x):=λ{x y} h=>by
  have h:((List.range n.2.2.2.1.length).map λi:Nat=>((i:Int),bO n i))[x]?=some y:=h
  rw[qP]at h;by_cases hx:x<n.2.2.2.1.length
  .rw[wJ hx]at h;exact⟨hx,(wW h).symm⟩
  .rw[zG (by rw[wG];omega)]at h;cases h
 have fail:∀o:Nat,o<n.2.2.2.1.length->XJ n p o≠0->nY n p=140:=λo ho hne=>by
  unfold nY;rw[if_neg];intro h;have:=qL.1 h o (qU.2 ho);exact hne (vO this)
 refine⟨by unfold sr;omega,⟨hp,wY _,λi hi=>by omega⟩,λx y hx hy=>?_,λx hx hl=>?_⟩
 .obtain⟨hxl,rfl⟩:=at_ hy;obtain⟨r1,r2⟩:=row x (by omega) (by omega)
  have gl:=Ob p x;have r1':(p.2.2.1.length:Int)=n.2.2.2.1.length:=r1;refine⟨⟨by show(0:Int)<=(x:Int);omega,by show(x:Int)<_;omega,by show((fN p (x:Int)).length:Int)<=1000000;omega,U3 n.1 n.2.1 n.2.2.1 n.2.2.2.1 n.2.2.2.2.1 n.2.2.2.2.2 hs ht (by omega) (by omega)⟩,aO (by simp only;omega),λh=>(fail x hxl h).symm,λh=>⟨hp,by rw[yp];omega,λi hi=>?_⟩⟩
  by_cases h3:i<x
  .exact hx.2.2 i h3
  .have:i=x:=by omega
   rw[this];exact h
 .rw[yp]at hl;unfold nY;rw[if_pos];rw[qL];intro o ho;exact qW (hx.2.2 o (by rw[hl];exact qU.1 ho))
end Go.Eng.Sv
set_option maxRecDepth 100000
namespace Go.Eng.Sv
open Go.Proofs
open Go.RowKit
theorem P5{x:Int}(h:-1<=x/\x<=1000000): (Lit.int .i64 x).wf=true:=by
 have e1:IntKind.min .i64=-9223372036854775808:=by decide
 have e2:IntKind.max .i64=9223372036854775807:=by decide
 simp only[Lit.wf,e1,e2,qC,qE];omega
theorem wh: nB:=by
 rintro p o ⟨o0,o1,o2,o3⟩ w D E us hD hG hargs hH;obtain⟨u1,us,rfl,⟨ps,rfl,hps⟩,u2,us,rfl,h2,rfl⟩:=hargs;obtain⟨v1,_,rfl,_,v2,_,rfl,_,v3,_,rfl,h3,v4,_,rfl,_,rfl⟩:=hps;have h2:[u2]=[Value.int .i64 o]:=h2;cases h2;obtain⟨ao,cap,e3,_,_,hsp,hrow⟩:=h3;cases e3;have at_:(p.2.2.1)[o.toNat]?=some (fN p o):=by
  unfold fN;rw[qA,qB (by omega),qR]
 obtain⟨a,ue,rfl,ha,hca,bo,cp2,rfl,_,_,hsp2,hin⟩:=hrow o.toNat (fN p o) at_;have sp:=hsp a rfl (by omega)
 have hw:∀j:Nat,(Lit.int .i64 ((fN p o)[j]?.getD 0)).wf=true:=λj=>by
  have:=o3 j;rw[qA]at this;exact P5 this
 have eo:((o.toNat:Nat):Int)=o:=by omega
 have mem:∀y,y∈Am p o↔y≠-1/\y∈(np (fN p o) hw o.toNat (fN p o).length).map Subtype.val:=λy=>by
  unfold Am WW np;rw[HL,yG,qE,and_comm,List.map_map];have e:((List.range (fN p o).length).filter λd:Nat=>decide ((d:Int)≠o))=(List.range (fN p o).length).filter λd=>decide (d≠o.toNat):=by
   congr 1;funext d
   rw[qBd];omega
  rw[e];have f:(λd:Nat=>(fN p o).getD d 0)=Subtype.val∘aBA (fN p o) hw:=by
   funext d
   exact qA
  rw[f]
 have hc:=Uu #[v1,v2,.slice (some a) p.2.2.1.length cap,v4] o.toNat (fN p o) hw (by omega) (Am p o) (ub _) mem w λw1 hw1=>by
  have hB:Go.RowKit.Below w.heap.size w w1:=by rw[hw1];exact((Go.RowKit.Below.refl _ w).alloc (qK _) _).alloc (by simp) _
  have s1:w1.heap.size=w.heap.size+1+1:=by rw[hw1];simp
  have c1:w1.heap[w.heap.size]?=some (.cells #[v1,v2,.slice (some a) p.2.2.1.length cap,v4] 35 (0,0)):=by
   rw[hw1];exact(Go.RowKit.Below.heap_alloc _ _ _ (by simp)).trans (World.alloc_heap_new w _)
  have c2:w1.heap[w.heap.size+1]?=some (.cells #[.int .i64 o] 3 (0,0)):=by
   have:=World.alloc_heap_new (w.alloc (.cells #[v1,v2,.slice (some a) p.2.2.1.length cap,v4] 35)) (.cells #[.int .i64 ((o.toNat:Nat):Int)] 3);rw[zO,eo]at this;rw[hw1,eo];exact this
  refine⟨by omega,by omega,by rw[eo];simp[World.cell?,c2],a.block,a.off,p.2.2.1.length,cap,bo,cp2,?_,by omega,by have:=hD _ ha;omega,?_,?_⟩
  .obtain⟨b,f,s⟩:=a;have sp:s=none:=sp;subst sp;simp[World.cell?,c1]
  .have:=hca 0 _ rfl;exact(hB.cell (p:=⟨a.block,a.off+o.toNat*1+0,none⟩) (hD _ ha)).trans this |> λh=>by
    rw[show a.off+o.toNat*1+0=a.off+o.toNat by omega]at h;exact h
  .by_cases hz:(fN p o).length=0
   .exact .inl hz
   .have at0:(fN p o)[0]?=some ((fN p o).getD 0 0):=by
     rw[qA,qB (by omega),qR]
    obtain⟨a2,_,e2,hb2,_⟩:=hin 0 _ at0;subst e2;have sp2:=hsp2 a2 rfl (by omega)
    refine .inr ⟨a2.block,a2.off,?_,by have:=hD _ hb2;omega,λj hj=>?_⟩
    .obtain⟨b,f,s⟩:=a2;have sp2:s=none:=sp2;subst sp2;rfl
    .have atj:(fN p o)[j]?=some ((fN p o)[j]?.getD 0):=by
      rw[qB hj,qR]
     obtain⟨a3,ue3,e3,hb3,hc3,hr3⟩:=hin j _ atj;cases e3;have hr3:ue3=[Value.int .i64 ((fN p o)[j]?.getD 0)]:=hr3;subst hr3;have:=hc3 0 _ rfl;have h:=(hB.cell (p:=⟨a2.block,a2.off+j*1+0,none⟩) (hD _ hb3)).trans this;rw[show a2.off+j*1+0=a2.off+j by omega]at h;exact h
 rw[eo]at hc;refine hc.mono ?_;rintro e w' ⟨v,rfl,hrow,hnil,hB⟩;refine⟨v,λb=>D b\/ga w w' b,E,rfl,⟨(Chg.refl _ _).below hB,λ_ h=>.inl h,λb h=>h.imp id λh=>.inl h.1,λb h=>h.elim (λh=>qN (hD b h) hB.size) λh=>h.2,Held.none _ _ _ _,λnm b b' g=>(by cases g),λnm b b' g=>(by cases g),λnm b _ g=>(by cases g),λnm i b g=>(jY g).elim⟩,?_⟩
 show ∃(ao:Option Addr) (cap:Nat),[v]=[.slice ao (Am p o).length cap]/\_;obtain⟨_,⟨rfl,h0⟩ | ⟨g,cap,cur,rfl,hg,hb,hcap,_,hsz,htk⟩⟩:=hrow
 .have h0:Am p o=[]:=vT h0;rw[h0];exact⟨none,0,rfl,qK _,λ_=>rfl,λ_ h=>(by cases h),λi y h=>(by cases h)⟩
 .refine⟨_,cap,rfl,hcap,λh=>(by cases h),λa h _=>(by cases h;rfl),λi y hy=>⟨_,[Value.int .i64 y],rfl,.inr ⟨hg,(vJ.1 hb).1⟩,λj u hj=>?_,rfl⟩⟩
  cases j with
  | succ j=>cases hj
  | zero=>
   have hj:some (Value.int .i64 y)=some u:=hj;cases hj;show w'.cell? ⟨g,0+i*1+0,none⟩=_;have hi:i<(Am p o).length:=(qG.1 hy).1;have e:(cur.toList.take ((Am p o).length*1))[i]?=some (Value.int .i64 y):=by
    rw[htk,qP,hy];rfl
   rw[List.getElem?_take_of_lt (by omega),yB]at e
   have hi2:0+i*1+0<cur.size:=by omega
   rw[show 0+i*1+0=i by omega]at hi2 ⊢
   simp[World.cell?,hb,e]
end Go.Eng.Sv
set_option maxRecDepth 100000
noncomputable section
namespace Go.Eng.Sv
open Go.Proofs
def p0F(a b:Int): Plan:=(a,b,[],[])
def p1F(n:Net)(a b:Int): Plan:=YQ n (p0F a b)
def p2F(n:Net)(a b:Int): Plan:=YR n (p1F n a b)
def JH(n:Net)(a b:Int): Nat->Plan
 | 0=>p0F a b
 | 1=>p0F a b
 | 2=>p1F n a b
 | 3=>p1F n a b
 | _=>p2F n a b
def JR(n:Net)(a b:Int): Nat->jg
 | 5=>(wrN n (p2F n a b),wrS n (p2F n a b))
 | _=>([],0)
def rR(n:Net)(a b:Int): Int:=if H7 n (p0F a b)≠0 then H7 n (p0F a b)else if nY n (p1F n a b)≠0 then nY n (p1F n a b)else wrE n (p2F n a b)
def gv(n:Net)(a b:Int): Plan:=if rR n a b=0 then p2F n a b else(0,0,[],[])
def DL(n:Net)(a b:Int): jg:=if rR n a b=0 then(wrN n (p2F n a b),wrS n (p2F n a b))else([],0)
def oR(n:Net)(a b:Int)(j:Nat): Prop:=j<=5/\(1<=j->H7 n (p0F a b)=0)/\(3<=j->nY n (p1F n a b)=0)/\(5<=j->wrE n (p2F n a b)=0)
def aED: Kt:=kOr 38 (cK (λ_ _=>True) H7 λ_ p c=>(p,c)) <|
 kOr 39 (cK (λ_ p=>aBv p) (λ_ _=>0) λn p c=>(YQ n p,c)) <|
 kOr 40 (cK vn nY λ_ p c=>(p,c)) <|
 kOr 41 (cK (λ_ p=>cz p.2.2.1) (λ_ _=>0) λn p c=>(YR n p,c)) <|
 kOr 42 (cK (λ_ p=>fq p) wrE λn p _=>(p,(wrN n p,wrS n p))) KC9
def cComp: Cfg:=mkp aED (λt=>t==19) Go.Eng.noP (λ_=>false)
def aBy(n:Net)(a b:Int): Ann:=⟨λid s=>match id with
 | 4=>some {α:=Nat,inv:=λj=>oR n a b j,st:=λj=>iM (put s [(28,.dat I (Int.ofNat j))]) 2 (.var (OW n (JH n a b j) (JR n a b j))),μ:=λj=>Dc (Dh 5 (Int.ofNat j)),fin:=[0,1,2,3,4,5]}
 | _=>none,λ_ _=>none,λ_ _=>none⟩
set_option maxHeartbeats 4000000 in
theorem IC(a b:Int)(cs:LC)(ns os:LB)(fs:Lo)(ls:Ll)(ks:Lk)(hvc:
 let c1:=(cs,ns,os,fs,ls,ks);let c2:=Dp 0 5;let c3:=JH c1 a b (0);let c10:=H7 c1 c3;let c11:=Ea c10 0;let c12:=gv c1 a b;let c19:=DL c1 a b;let c22:=rR c1 a b;let c23:=Dq 0 1;let c24:=JR c1 a b (0);let c27:=Dp 1 5;let c28:=JH c1 a b (1);let c36:=Ea 0 0;let c4:=c36->1=1/\0=0/\1=1/\0=0/\1=1/\0=0/\1=1/\0=0/\0=c12.1/\0=c12.2.1/\c12.2.2.1=Dt (Li)/\c12.2.2.2=Dt (Lj)/\c19.1=Dt Int/\0=c19.2/\0=c22/\True;let c37:=Dq 1 1;let c38:=YQ c1 c28;let c41:=JR c1 a b (1);let c44:=Dp 2 5;let c45:=JH c1 a b (2);let c53:=nY c1 c45;let c54:=Ea c53 0;let c55:=Dq 2 1;let c56:=JR c1 a b (2);let c59:=Dp 3 5;let c60:=JH c1 a b (3);let c64:=Dq 3 1;let c68:=YR c1 c60;let c71:=JR c1 a b (3);let c74:=Dp 4 5;let c75:=JH c1 a b (4);let c83:=wrE c1 c75;let c84:=Ea c83 0;let c85:=Dq 4 1;let c86:=JR c1 a b (4);let c87:=Dp 5 5;let c88:=JH c1 a b (5);let c91:=JR c1 a b (5);true/\(True->(∃x,let c92:=JH c1 a b x;let c95:=JR c1 a b x;
 oR c1 a b x/\1=1/\0=0/\0=0/\1=1/\0=0/\0=0/\1=1/\0=0/\0=0/\(5:Int)=(5:Int)/\0=Int.ofNat x/\(0:Int)=(0:Int)/\(0:Int)=(0:Int)/\Value.slice none (0) (0)=Value.slice none (0) (0)/\Value.slice none (0) (0)=Value.slice none (0) (0)/\Value.slice none (0) (0)=Value.slice none (0) (0)/\(0:Int)=(0:Int)/\cs=cs/\ns=ns/\os=os/\fs=fs/\ls=ls/\ks=ks/\a=c92.1/\b=c92.2.1/\c92.2.2.1=Dt (Li)/\c92.2.2.2=Dt (Lj)/\c95.1=Dt Int/\0=c95.2/\True)/\(∀(x:Nat),oR c1 a b x->x∈[0,1,2,3,4,5])/\(oR c1 a b (0)->(c2->Dl 0 0/\0<Dx (5)/\1=1/\0=0/\1=1/\1=1/\0=0/\True/\1=1/\(c11->1=1/\0=0/\1=1/\0=0/\1=1/\0=0/\1=1/\0=0/\0=c12.1/\0=c12.2.1/\c12.2.2.1=Dt (Li)/\c12.2.2.2=Dt (Lj)/\c19.1=Dt Int/\0=c19.2/\c10=c22/\True)/\(c11=false->inR .i64 c23/\∃y,let c96:=JH c1 a b y;let c99:=JR c1 a b y;oR c1 a b y/\(1=1/\0=0/\0=0/\1=1/\0=0/\0=0/\1=1/\0=0/\0=0/\(5:Int)=(5:Int)/\c23=Int.ofNat y/\(0:Int)=(0:Int)/\(0:Int)=(0:Int)/\Value.slice none (0) (0)=Value.slice none (0) (0)/\Value.slice none (0) (0)=Value.slice none (0) (0)/\Value.slice none (0) (0)=Value.slice none (0) (0)/\(0:Int)=(0:Int)/\cs=cs/\ns=ns/\os=os/\fs=fs/\ls=ls/\ks=ks/\c3.1=c96.1/\c3.2.1=c96.2.1/\c3.2.2.1=c96.2.2.1/\c3.2.2.2=c96.2.2.2/\c24.1=c99.1/\c24.2=c99.2/\True)/\Dc (5-Int.ofNat y)<Dc (Dh 5 0)))/\(c2=false->1=1/\1=1/\1=1/\0=0/\1=1/\1=1/\1=1/\0=0/\1=1/\0=0/\1=1/\0=0/\1=1/\0=0/\1=1/\0=0/\c3.1=c12.1/\c3.2.1=c12.2.1/\c3.2.2.1=c12.2.2.1/\c3.2.2.2=c12.2.2.2/\c24.1=c19.1/\c24.2=c19.2/\0=c22/\True))/\(oR c1 a b (1)->(c27->Dl 0 1/\1<Dx (5)/\1=1/\0=0/\1=1/\1=1/\0=0/\aBv c28/\1=1/\c4/\(c36=false->inR .i64 c37/\∃y,let c100:=JH c1 a b y;let c103:=JR c1 a b y;
 oR c1 a b y/\(1=1/\0=0/\0=0/\1=1/\0=0/\0=0/\1=1/\0=0/\0=0/\(5:Int)=(5:Int)/\c37=Int.ofNat y/\(0:Int)=(0:Int)/\(0:Int)=(0:Int)/\Value.slice none (0) (0)=Value.slice none (0) (0)/\Value.slice none (0) (0)=Value.slice none (0) (0)/\Value.slice none (0) (0)=Value.slice none (0) (0)/\(0:Int)=(0:Int)/\cs=cs/\ns=ns/\os=os/\fs=fs/\ls=ls/\ks=ks/\c38.1=c100.1/\c38.2.1=c100.2.1/\c38.2.2.1=c100.2.2.1/\c38.2.2.2=c100.2.2.2/\c41.1=c103.1/\c41.2=c103.2/\True)/\Dc (5-Int.ofNat y)<Dc (Dh 5 1)))/\(c27=false->1=1/\1=1/\1=1/\0=0/\1=1/\1=1/\1=1/\0=0/\1=1/\0=0/\1=1/\0=0/\1=1/\0=0/\1=1/\0=0/\c28.1=c12.1/\c28.2.1=c12.2.1/\c28.2.2.1=c12.2.2.1/\c28.2.2.2=c12.2.2.2/\c41.1=c19.1/\c41.2=c19.2/\0=c22/\True))/\(oR c1 a b (2)->(c44->Dl 0 2/\2<Dx (5)/\1=1/\0=0/\1=1/\1=1/\0=0/\vn c1 c45/\1=1/\(c54->1=1/\0=0/\1=1/\0=0/\1=1/\0=0/\1=1/\0=0/\0=c12.1/\0=c12.2.1/\c12.2.2.1=Dt (Li)/\c12.2.2.2=Dt (Lj)/\c19.1=Dt Int/\0=c19.2/\c53=c22/\True)/\(c54=false->inR .i64 c55/\∃y,let c104:=JH c1 a b y;let c107:=JR c1 a b y;
 oR c1 a b y/\(1=1/\0=0/\0=0/\1=1/\0=0/\0=0/\1=1/\0=0/\0=0/\(5:Int)=(5:Int)/\c55=Int.ofNat y/\(0:Int)=(0:Int)/\(0:Int)=(0:Int)/\Value.slice none (0) (0)=Value.slice none (0) (0)/\Value.slice none (0) (0)=Value.slice none (0) (0)/\Value.slice none (0) (0)=Value.slice none (0) (0)/\(0:Int)=(0:Int)/\cs=cs/\ns=ns/\os=os/\fs=fs/\ls=ls/\ks=ks/\c45.1=c104.1/\c45.2.1=c104.2.1/\c45.2.2.1=c104.2.2.1/\c45.2.2.2=c104.2.2.2/\c56.1=c107.1/\c56.2=c107.2/\True)/\Dc (5-Int.ofNat y)<Dc (Dh 5 2)))/\(c44=false->1=1/\1=1/\1=1/\0=0/\1=1/\1=1/\1=1/\0=0/\1=1/\0=0/\1=1/\0=0/\1=1/\0=0/\1=1/\0=0/\c45.1=c12.1/\c45.2.1=c12.2.1/\c45.2.2.1=c12.2.2.1/\c45.2.2.2=c12.2.2.2/\c56.1=c19.1/\c56.2=c19.2/\0=c22/\True))/\(oR c1 a b (3)->(c59->Dl 0 3/\3<Dx (5)/\1=1/\0=0/\1=1/\1=1/\0=0/\cz c60.2.2.1/\1=1/\c4/\(c36=false->inR .i64 c64/\∃y,let c108:=JH c1 a b y;let c111:=JR c1 a b y;
 oR c1 a b y/\(1=1/\0=0/\0=0/\1=1/\0=0/\0=0/\1=1/\0=0/\0=0/\(5:Int)=(5:Int)/\c64=Int.ofNat y/\(0:Int)=(0:Int)/\(0:Int)=(0:Int)/\Value.slice none (0) (0)=Value.slice none (0) (0)/\Value.slice none (0) (0)=Value.slice none (0) (0)/\Value.slice none (0) (0)=Value.slice none (0) (0)/\(0:Int)=(0:Int)/\cs=cs/\ns=ns/\os=os/\fs=fs/\ls=ls/\ks=ks/\c68.1=c108.1/\c68.2.1=c108.2.1/\c68.2.2.1=c108.2.2.1/\c68.2.2.2=c108.2.2.2/\c71.1=c111.1/\c71.2=c111.2/\True)/\Dc (5-Int.ofNat y)<Dc (Dh 5 3)))/\(c59=false->1=1/\1=1/\1=1/\0=0/\1=1/\1=1/\1=1/\0=0/\1=1/\0=0/\1=1/\0=0/\1=1/\0=0/\1=1/\0=0/\c60.1=c12.1/\c60.2.1=c12.2.1/\c60.2.2.1=c12.2.2.1/\c60.2.2.2=c12.2.2.2/\c71.1=c19.1/\c71.2=c19.2/\0=c22/\True))/\(oR c1 a b (4)->(c74->Dl 0 4/\4<Dx (5)/\1=1/\0=0/\1=1/\1=1/\0=0/\fq c75/\1=1/\(c84->1=1/\0=0/\1=1/\0=0/\1=1/\0=0/\1=1/\0=0/\0=c12.1/\0=c12.2.1/\c12.2.2.1=Dt (Li)/\c12.2.2.2=Dt (Lj)/\c19.1=Dt Int/\0=c19.2/\c83=c22/\True)/\(c84=false->inR .i64 c85/\∃y,let c112:=JH c1 a b y;let c115:=JR c1 a b y;
 oR c1 a b y/\(1=1/\0=0/\0=0/\1=1/\0=0/\0=0/\1=1/\0=0/\0=0/\(5:Int)=(5:Int)/\c85=Int.ofNat y/\(0:Int)=(0:Int)/\(0:Int)=(0:Int)/\Value.slice none (0) (0)=Value.slice none (0) (0)/\Value.slice none (0) (0)=Value.slice none (0) (0)/\Value.slice none (0) (0)=Value.slice none (0) (0)/\(0:Int)=(0:Int)/\cs=cs/\ns=ns/\os=os/\fs=fs/\ls=ls/\ks=ks/\c75.1=c112.1/\c75.2.1=c112.2.1/\c75.2.2.1=c112.2.2.1/\c75.2.2.2=c112.2.2.2/\wrN c1 c75=c115.1/\wrS c1 c75=c115.2/\True)/\Dc (5-Int.ofNat y)<Dc (Dh 5 4)))/\(c74=false->1=1/\1=1/\1=1/\0=0/\1=1/\1=1/\1=1/\0=0/\1=1/\0=0/\1=1/\0=0/\1=1/\0=0/\1=1/\0=0/\c75.1=c12.1/\c75.2.1=c12.2.1/\c75.2.2.1=c12.2.2.1/\c75.2.2.2=c12.2.2.2/\c86.1=c19.1/\c86.2=c19.2/\0=c22/\True))/\(oR c1 a b (5)->(c87->False)/\(c87=false->1=1/\1=1/\1=1/\0=0/\1=1/\1=1/\1=1/\0=0/\1=1/\0=0/\1=1/\0=0/\1=1/\0=0/\1=1/\0=0/\c88.1=c12.1/\c88.2.1=c12.2.1/\c88.2.2.1=c12.2.2.1/\c88.2.2.2=c12.2.2.2/\c91.1=c19.1/\c91.2=c19.2/\0=c22/\True))/\True)):
  evF cComp (lvA [(4,[6,7,8,9,12,13,26,27,28])] (aBy (cs,ns,os,fs,ls,ks) a b)) 11 [net cs ns os fs ls ks,.dat I a,.dat I b] [] ⟨True,.tup [.agg [.dat I (gv (cs,ns,os,fs,ls,ks) a b).1,.dat I (gv (cs,ns,os,fs,ls,ks) a b).2.1,.dat M (gv (cs,ns,os,fs,ls,ks) a b).2.2.1,.dat (.sl M) (gv (cs,ns,os,fs,ls,ks) a b).2.2.2],.agg [.dat R (DL (cs,ns,os,fs,ls,ks) a b).1,.dat I (DL (cs,ns,os,fs,ls,ks) a b).2],.dat I (rR (cs,ns,os,fs,ls,ks) a b)],[]⟩:=oE hvc
theorem aBT(h:nB): al Tryz.prog G0 aED:=aj (OV λn p c=>RP n p c)<|aj (OV λn p c=>RO n p c)<|aj (OV λn p c=>Xy h n p c)<|aj (OV λn p c=>Xz n p c)<|aj (OV λn p c=>XE n p c) (aE3 h)
theorem O4{n:Net}{c:Li}{bd:Lj}{o d:Int}: aT n o (uW n c bd o d)=true:=by
 unfold uW aT;split
 .rename_i i h;have hm:=qU.1 (List.mem_of_find?_eq_some h);have hb:=List.find?_some h;unfold qy at hb;simp only[qC,qE]at hb;rw[zW,qC];refine .inr ⟨?_,qW hb.1.1.1⟩;unfold dO;exact qW ⟨by omega,by omega⟩
 .rfl
theorem M7{n:Net}{a b:Int}(hu:ix n a b=true): nN n (jw n a b)=true:=by
 have e:jw n a b=Go.Eng.Mp.aK (tn n (fH n a b) (iJ n (fH n a b))) n.2.2.2.1.length:=by
  unfold jw Yh;rw[if_pos hu]
 rw[e];generalize hg:tn n (fH n a b) (iJ n (fH n a b))=g;have hc:∀o d:Int,aT n o (g o d)=true:=λo d=>by
  rw[<- hg];unfold tn;split
  .rfl
  .exact O4
 unfold nN Go.Eng.Mp.aK;rw[qC];refine⟨qW (by simp),qL.2 λi hi=>?_⟩
 have hi:i<n.2.2.2.1.length:=by simpa using hi
 rw[qA,qP,wJ (by simpa using hi)]
 unfold rowOk;rw[qC];refine⟨qW (by simp),qL.2 λl hl=>?_⟩
 obtain⟨d,_,rfl⟩:=vZ.1 hl;exact hc _ _
theorem xu{n:Net}{nx:Lj}(hs:bn n=true)(ht:nN n nx=true): cz nx:=by
 obtain⟨q1,_⟩:=nA n.1 n.2.1 n.2.2.1 n.2.2.2.1 n.2.2.2.2.1 n.2.2.2.2.2 hs;have q1:(n.2.2.2.1.length:Int)<=12:=q1;unfold nN at ht;rw[qC,qE]at ht;refine⟨by have:=ht.1;omega,λr hr=>?_⟩
 obtain⟨i,hi,rfl⟩:=wX.1 hr;have:=qL.1 ht.2 i (qU.2 hi);unfold rowOk at this;rw[qC,qE,qA,qB hi,qR]at this;have:=this.1;omega
theorem GR{n:Net}{nx:Lj}{a b:Int}(hs:bn n=true): (IM n nx a b).length<=1000000/\∀t∈IM n nx a b,cz t:=by
 obtain⟨q1,q2⟩:=nA n.1 n.2.1 n.2.2.1 n.2.2.2.1 n.2.2.2.2.1 n.2.2.2.2.2 hs;have q1:(n.2.2.2.1.length:Int)<=12:=q1;have q2:(n.2.2.2.2.2.length:Int)<=1000000:=q2;unfold IM;split
 .refine⟨by rw[vY,wG];omega,λt ht=>?_⟩
  obtain⟨k,_,rfl⟩:=vZ.1 ht;unfold aCb;refine⟨by rw[vY,wG];omega,λr hr=>?_⟩
  obtain⟨o,_,rfl⟩:=vZ.1 hr;unfold aCg;rw[vY,wG];omega
 .exact⟨wY _,λt ht=>by cases ht⟩
theorem aBB{n:Net}{p:Plan}: H7 n p=0↔(0<=p.1/\p.1<p.2.1/\p.2.1<=600/\p.2.1-p.1<=60)/\bn n=true:=by
 unfold H7 lj;simp only[qC,qE];split
 .rename_i h;exact⟨λ_=>⟨by omega,h.2⟩,λ_=>rfl⟩
 .rename_i h;constructor
  .intro g;cases g
  .intro g;exact absurd ⟨by omega,g.2⟩ h
theorem CV{n:Net}{a b:Int}(h:H7 n (p0F a b)=0): (0<=a/\a<b/\b<=600/\b-a<=60)/\bn n=true/\ix n (1440*a) (1440*b)=true/\nN n (p1F n a b).2.2.1=true:=by
 obtain⟨h1,h2⟩:=aBB.1 h;have h1:0<=a/\a<b/\b<=600/\b-a<=60:=h1;have hu:ix n (1440*a) (1440*b)=true:=by
  unfold ix;rw[qC];exact⟨sQ.2 (by omega),h2⟩
 exact⟨h1,h2,hu,M7 hu⟩
theorem LY(h:nB)(a b:Int)(cs:LC)(ns os:LB)(fs:Lo)(ls:Ll)(ks:Lk): af Tryz.prog G0 11 [net cs ns os fs ls ks,.dat I a,.dat I b] [] ⟨True,.tup [.agg [.dat I (gv (cs,ns,os,fs,ls,ks) a b).1,.dat I (gv (cs,ns,os,fs,ls,ks) a b).2.1,.dat M (gv (cs,ns,os,fs,ls,ks) a b).2.2.1,.dat (.sl M) (gv (cs,ns,os,fs,ls,ks) a b).2.2.2],.agg [.dat R (DL (cs,ns,os,fs,ls,ks) a b).1,.dat I (DL (cs,ns,os,fs,ls,ks) a b).2],.dat I (rR (cs,ns,os,fs,ls,ks) a b)],[]⟩:=by
 refine ae (c:=cComp) (aBT h) aL hm (IC a b cs ns os fs ls ks ⟨rfl,λ_=>?_⟩)
 obtain⟨n,hn⟩:∃n:Net,n=(cs,ns,os,fs,ls,ks):=⟨_,rfl⟩;simp only[<- hn];have eP:∀p:Plan,(p.1,p.2.1,p.2.2.1,p.2.2.2)=p:=λ_=>rfl
 simp only[qc,qd,Dt,Ea,Dp,Dl,Dh,Dq,Dc,Dx];have bad:∀e:Int,e≠0->e=rR n a b->0=(gv n a b).1/\0=(gv n a b).2.1/\(gv n a b).2.2.1=[]/\(gv n a b).2.2.2=[]/\(DL n a b).1=[]/\0=(DL n a b).2/\e=rR n a b:=λe he h=>by
  have hne:¬rR n a b=0:=by rw[<- h];exact he
  unfold gv DL;rw[if_neg hne,if_neg hne];exact⟨rfl,rfl,rfl,rfl,rfl,rfl,h⟩
 refine⟨⟨0,⟨by omega,λh=>by omega,λh=>by omega,λh=>by omega⟩,rfl,rfl,rfl,rfl,rfl,rfl,rfl⟩,λx hx=>?_,λ_=>?_,λh1=>?_,λh2=>?_,λh3=>?_,λh4=>?_,λh5=>?_⟩
 .have:=hx.1;rcases(by omega:x=0\/x=1\/x=2\/x=3\/x=4\/x=5)with rfl | rfl | rfl | rfl | rfl | rfl<;>simp
 .refine⟨λ_=>⟨by omega,by omega,λg=>bad _ g ?_,λg=>⟨aO (by omega),1,⟨by omega,λ_=>g,λh=>by omega,λh=>by omega⟩,⟨rfl,rfl,rfl,rfl,rfl,rfl,rfl⟩,by decide⟩⟩,λh=>absurd (by decide) h⟩
  unfold rR;rw[if_pos (show H7 n (p0F a b)≠0 from g)];rfl
 .have hk:=h1.2.1 (by omega)
  obtain⟨hr,hs,hu,ht⟩:=CV hk;exact⟨λ_=>⟨by omega,by omega,⟨by show 0<=a;omega,by show a<=1000;omega,by show 0<=b;omega,by show b<=1000;omega⟩,λh=>absurd rfl h,aO (by omega),2,⟨by omega,λ_=>hk,λh=>by omega,λh=>by omega⟩,⟨rfl,rfl,rfl,rfl,rfl,rfl,rfl⟩,by decide⟩,λh=>absurd (by decide) h⟩
 .have hk:=h2.2.1 (by omega)
  obtain⟨hr,hs,hu,ht⟩:=CV hk;refine⟨λ_=>⟨by omega,by omega,⟨hs,ht⟩,λg=>bad _ g ?_,λg=>⟨aO (by omega),3,⟨by omega,λ_=>hk,λ_=>g,λh=>by omega⟩,⟨rfl,rfl,rfl,rfl,rfl,rfl,rfl⟩,by decide⟩⟩,λh=>absurd (by decide) h⟩
  unfold rR;rw[if_neg (λh=>h hk),if_pos (show nY n (p1F n a b)≠0 from g)];rfl
 .have hk:=h3.2.1 (by omega)
  obtain⟨hr,hs,hu,ht⟩:=CV hk;exact⟨λ_=>⟨by omega,by omega,xu hs ht,λh=>absurd rfl h,aO (by omega),4,⟨by omega,λ_=>hk,λ_=>h3.2.2.1 (by omega),λh=>by omega⟩,⟨rfl,rfl,rfl,rfl,rfl,rfl,rfl⟩,by decide⟩,λh=>absurd (by decide) h⟩
 .have hk:=h4.2.1 (by omega)
  have hso:=h4.2.2.1 (by omega)
  obtain⟨hr,hs,hu,ht⟩:=CV hk;obtain⟨t1,t2⟩:=GR (nx:=(p1F n a b).2.2.1) (a:=(p1F n a b).1) (b:=(p1F n a b).2.1) hs;refine⟨λ_=>⟨by omega,by omega,⟨xu hs ht,t1,t2⟩,λg=>bad _ g ?_,λg=>⟨aO (by omega),5,⟨by omega,λ_=>hk,λ_=>hso,λ_=>g⟩,⟨rfl,rfl,rfl,rfl,rfl,rfl,rfl⟩,by decide⟩⟩,λh=>absurd (by decide) h⟩
  unfold rR;rw[if_neg (λh=>h hk),if_neg (λh=>h hso)];rfl
 .have hk:=h5.2.1 (by omega)
  have hso:=h5.2.2.1 (by omega)
  have hw:=h5.2.2.2 (by omega)
  have hE:rR n a b=0:=by
   unfold rR;rw[if_neg (λh=>h hk),if_neg (λh=>h hso)];exact hw
  unfold gv DL;rw[if_pos hE,if_pos hE,hE];exact⟨λh=>absurd h (by decide),λ_=>⟨rfl,rfl,rfl,rfl,rfl,rfl,rfl⟩⟩
end Go.Eng.Sv
set_option maxRecDepth 100000
noncomputable section
namespace Go.Eng.Sv
open Go.Proofs
def Ko(x:Int): Li->Nat
 | []=>0
 | a::l=>if a=x then 0 else Ko x l+1
def TR(l:Li)(x:Int): Int:=if Ko x l<l.length then(Ko x l:Int)else -1
def TQ(l:Li)(x k:Int): Prop:=0<=k/\k<=l.length/\k<=Ko x l
def YI(l:Li): Prop:=(l.length:Int)<=1000000000
def gOk(n:Net)(p:Plan)(o:Int): Bool:=(dO o n.2.2.2.1.length&&bn n)&&fW n p
def gsF(n:Net)(p:Plan)(o:Int): Li:=if gOk n p o=true then -1::Am p o else[]
def DJ(p:Plan)(o d:Int): Int:=if d=o then 0 else if(fN p o).getD d.toNat 0=-1 then -1 else TR (-1::Am p o) ((fN p o).getD d.toNat 0)
def ofF(n:Net)(p:Plan)(o:Int): Li:=if gOk n p o=true then(List.range n.2.2.2.1.length).map λd:Nat=>DJ p o d else[]
def Nv(n:Net)(p:Plan)(o k:Int): Li:=upF (DJ p o) 0 n.2.2.2.1.length k
def gTo(n:Net)(p:Plan)(o k:Int): Prop:=gOk n p o=true/\0<=k/\k<=n.2.2.2.1.length
theorem WS(o x:Int)(cs:LC)(ns os:LB)(fs:Lo)(ls:Ll)(ks:Lk)(hvc:
 let c1:=Dy x (-1);let c2:=Di c1;let c8:=c2->c2->c2;let c3:=Ed x 0;let c7:=Dk c2 c3->Dk c2 c3->Dk c2 c3;let c4:=Df ls;let c5:=Eb c3 (Dp x c4) false;let c6:=Dk c2 c5->Dk c2 c5->Dk c2 c5;true/\(True->c8/\c8/\c7/\c7/\c7/\c7/\c8/\(c2->Dk c2 c3->Dk c2 c3)/\c8/\c6/\c6/\c6/\(Dk c2 c5->0<=x)/\(Dk c2 c5->x<c4)/\c6/\c6/\c6/\c6/\c8/\(c2->Dk c2 c5->Dk c2 c5)/\(Dk true c2->c2)/\Eb c1 true (Eb c5 (Dy (Du ls (Dc x) (ByteArray.mk #[],(0:Int),(0:Int),(0:Int),(0:Int),(0:Int))).2.1 o) false)=aT (cs,ns,os,fs,ls,ks) o x/\True)):
  evF (mkc KC8) aA 107 [.dat I o,.dat I x,.ip N (cs,ns,os,fs,ls,ks)] [] ⟨True,.dat .bool (aT (cs,ns,os,fs,ls,ks) o x),[]⟩:=oE hvc
theorem WR(o x:Int)(hvc:
 let c1:=Ed x (-1);true/\(True->(c1->c1->c1)/\(Dk true c1->c1)/\Eb c1 (Eh x 65518) false=gC o x/\True)):
  evF (mkc KC8) aA 108 [.dat I o,.dat I x] [] ⟨True,.dat .bool (gC o x),[]⟩:=oE hvc
def Zz: Kt:=kOr 107 (ay [.val I,.val I,.ptr N] (λ_=>True) λ(o,x,n,_)=>.dat .bool (aT n o x)) <|
 kOr 108 (ay [.val I,.val I] (λ_=>True) λ(o,x,_)=>.dat .bool (gC o x)) KC8
theorem WN(t:Lj)(m:Int)(n:Net)(hvc:
 let c1:=Ea (Df t) m;let c2:=sgF (aT n) t m;true/\(cz t->(c1->false=c2/\True)/\(c1=false->(∃x,DI (aT n) t m x/\m=m/\n=n/\t=t/\Df t=Df t/\0=x/\True)/\∀(x:Int),let c3:=Dp x (Df t);let c4:=Du t (Dc x) [];let c5:=Df c4;let c6:=Ea c5 m;let c7:=x+1;DI (aT n) t m x->(c3->0<=x/\x<Df t/\(c6->false=c2/\True)/\(c6=false->(∃x_4,mS (aT n) c4 m x x_4/\m=m/\n=n/\x=x/\c4=c4/\t=t/\Df t=Df t/\x=x/\c4=c4/\c5=c5/\0=x_4/\True)/\∀(x_4:Int),let c8:=Di (aT n x (Du c4 (Dc x_4) 0));let c9:=x_4+1;mS (aT n) c4 m x x_4->(Dp x_4 c5->0<=x_4/\x_4<c5/\True/\(c8->false=c2/\True)/\(c8=false->inR .i64 c9/\∃y,mS (aT n) c4 m x y/\(m=m/\n=n/\x=x/\c4=c4/\t=t/\Df t=Df t/\x=x/\c4=c4/\c5=c5/\c9=y/\True)/\Dc (c5-y)<Dc (c5-x_4)))/\(Dp x_4 c5=false->inR .i64 c7/\∃y,DI (aT n) t m y/\(m=m/\n=n/\t=t/\Df t=Df t/\c7=y/\True)/\Dc (Df t-y)<Dc (Df t-x))))/\(c3=false->true=c2/\True)))):
  evF (mkc Zz) (lvA [(4,[1,2,6,7,8,10,15,16,17,26,27,28]),(9,[1,2,6,7,8,10,15,16,17,26,27,28])] (sgA (aT n) t m)) 109 [.dat M t,.dat I m,.fn 107 [.ip N n]] [] ⟨cz t,.dat .bool (sgF (aT n) t m),[]⟩:=oE hvc
theorem WO(t:Lj)(m:Int)(hvc:
 let c1:=Ea (Df t) m;true/\(cz t->(c1->false=sgF gC t m/\True)/\(c1=false->(∃x,DI gC t m x/\m=m/\t=t/\Df t=Df t/\0=x/\True)/\∀(x:Int),let c2:=Dp x (Df t);let c3:=Du t (Dc x) [];let c4:=Df c3;let c5:=Ea c4 m;let c6:=x+1;DI gC t m x->(c2->0<=x/\x<Df t/\(c5->false=sgF gC t m/\True)/\(c5=false->(∃x_4,mS gC c3 m x x_4/\m=m/\x=x/\c3=c3/\t=t/\Df t=Df t/\x=x/\c3=c3/\c4=c4/\0=x_4/\True)/\∀(x_4:Int),let c7:=Di (gC x (Du c3 (Dc x_4) 0));let c8:=x_4+1;mS gC c3 m x x_4->(Dp x_4 c4->0<=x_4/\x_4<c4/\True/\(c7->false=sgF gC t m/\True)/\(c7=false->inR .i64 c8/\∃y,mS gC c3 m x y/\(m=m/\x=x/\c3=c3/\t=t/\Df t=Df t/\x=x/\c3=c3/\c4=c4/\c8=y/\True)/\Dc (c4-y)<Dc (c4-x_4)))/\(Dp x_4 c4=false->inR .i64 c6/\∃y,DI gC t m y/\(m=m/\t=t/\Df t=Df t/\c6=y/\True)/\Dc (Df t-y)<Dc (Df t-x))))/\(c2=false->true=sgF gC t m/\True)))):
  evF (mkc Zz) (lvA [(4,[1,2,6,7,8,10,15,16,17,26,27,28]),(9,[1,2,6,7,8,10,15,16,17,26,27,28])] (sgA gC t m)) 109 [.dat M t,.dat I m,.fn 108 []] [] ⟨cz t,.dat .bool (sgF gC t m),[]⟩:=oE hvc
def aD8(args:List AV)(m:Mem): Option jO:=match m,args with
 | [],[.dat (.sl (.sl (.int .i64))) t,.dat (.int .i64) k,.fn f caps]=>if f=107 then match ofK [.ptr N] caps with
   | some (n,_)=>some ⟨cz t,.dat .bool (sgF (aT n) t k),[]⟩
   | none=>none
  else if f=108 then match ofK [] caps with
   | some _=>some ⟨cz t,.dat .bool (sgF gC t k),[]⟩
   | none=>none
  else none
 | _,_=>none
def aEC: Kt:=kOr 109 aD8 Zz
def aBC(n:Net)(p:Plan): Ann:=⟨λid s=>match id with
 | 6=>some {α:=Int,inv:=λk=>qS n p k,st:=λk=>put s [(38,.dat I k)],μ:=λk=>Dc (Dh (Df p.2.2.2) k)}
 | _=>none,λ_ _=>none,λ_ _=>none⟩
theorem QZ(cs:LC)(ns os:LB)(fs:Lo)(ls:Ll)(ks:Lk)(p1 p2:Int)(nx:Lj)(dy:List (Lj))(hvc:
 let c15:=Di (lj p1 p2);let c1:=(p1,p2,nx,dy);let c2:=Di c15;let c14:=c2->c2->c2;let c3:=Df dy;let c4:=Eb c15 true (Ea c3 (Df ks));let c5:=Di c4;let c13:=c5->c5->c5;let c6:=(cs,ns,os,fs,ls,ks);let c7:=Df fs;let c8:=Eb c4 true (Di (sgF (aT c6) nx c7));let c9:=fW c6 c1;true/\(fq c1->True/\c14/\c14/\c14/\c14/\c14/\c14/\(Dk true c2->c2)/\c13/\c13/\c13/\c13/\c13/\c13/\(c5->cz nx)/\c13/\(Dk true c5->c5)/\(c8->false=c9/\True)/\(c8=false->(∃x,qS c6 c1 x/\c6=c6/\dy=dy/\c3=c3/\0=x/\True)/\∀(x:Int),let c10:=Du dy (Dc x) (Dt (Li));let c11:=Di (sgF gC c10 c7);let c12:=x+1;qS c6 c1 x->(Dp x c3->0<=x/\x<c3/\cz c10/\(c11->false=c9/\True)/\(c11=false->inR .i64 c12/\∃y,qS c6 c1 y/\(c6=c6/\dy=dy/\c3=c3/\c12=y/\True)/\Dc (c3-y)<Dc (c3-x)))/\(Dp x c3=false->true=c9/\True)))):
  evF (mkc aEC) (lvA [(6,[2,4,6,8,36,37,38])] (aBC (cs,ns,os,fs,ls,ks) (p1,p2,nx,dy))) 44 [net cs ns os fs ls ks,.agg [.dat I p1,.dat I p2,.dat M nx,.dat (.sl M) dy]] [] ⟨fq (p1,p2,nx,dy),.dat .bool (fW (cs,ns,os,fs,ls,ks) (p1,p2,nx,dy)),[]⟩:=oE hvc
def aFq(l:Li)(x:Int): Ann:=⟨λid s=>match id with
 | 2=>some {α:=Int,inv:=λk=>TQ l x k,st:=λk=>put s [(8,.dat I k)],μ:=λk=>Dc (Dh (Df l) k)}
 | _=>none,λ_ _=>none,λ_ _=>none⟩
theorem QP(l:Li)(x:Int)(hvc:
 true/\(YI l->(∃x_2,TQ l x x_2/\l=l/\x=x/\Df l=Df l/\0=x_2/\True)/\∀(x_2:Int),let c1:=Dp x_2 (Df l);let c2:=Dy x (Du l (Dc x_2) 0);let c3:=x_2+1;TQ l x x_2->(c1->0<=x_2/\x_2<Df l/\(c2->x_2=TR l x/\True)/\(c2=false->inR IntKind.i64 c3/\∃y,TQ l x y/\(l=l/\x=x/\Df l=Df l/\c3=y/\True)/\Dc (Df l-y)<Dc (Df l-x_2)))/\(c1=false->(-1:Int)=TR l x/\True))):
  evF (mkc KC8) (lvA [(2,[0,1,4,5,7,8])] (aFq l x)) 46 [.dat R l,.dat I x] [] ⟨YI l,.dat I (TR l x),[]⟩:=oE hvc
def aFe: Kt:=kOr 44 (ay [.row N,.row Pl] (λ(_,p,_)=>fq p) λ(n,p,_)=>.dat .bool (fW n p)) <|
 kOr 46 (ay [.val R,.val I] (λ(l,_,_)=>YI l) λ(l,x,_)=>.dat I (TR l x)) aED
def aFs(n:Net)(p:Plan)(o:Int): Ann:=⟨λid s=>match id with
 | 6=>match s.sig.T 9 with
  | .buf nm _=>some {α:=Int,inv:=λk=>gTo n p o k,st:=λk=>iM (put s [(47,.dat I k)]) nm (.buf 3 I (Nv n p o k) []),μ:=λk=>Dc (Dh (Df n.2.2.2.1) k)}
  | _=>none
 | _=>none,λ_ _=>none,λ_ _=>none⟩
def aEN: Cfg:=mkp aFe (λt=>t==32) Go.Eng.noP (λ_=>false)
theorem KW(o:Int)(cs:LC)(ns os:LB)(fs:Lo)(ls:Ll)(ks:Lk)(p1 p2:Int)(nx:Lj)(dy:List (Lj))(hvc:
 let c1:=(p1,p2,nx,dy);let c2:=Dp o 0;let c3:=Di c2;let c25:=c3->c3->c3;let c4:=Df fs;let c5:=Eb c2 true (Ed o c4);let c6:=Di c5;let c7:=(cs,ns,os,fs,ls,ks);let c8:=Eb c5 true (Di (bn c7));let c9:=Di c8;let c26:=c9->c9->c9;let c10:=Eb c8 true (Di (fW c7 c1));let c11:=gsF c7 c1 o;let c12:=ofF c7 c1 o;let c13:=[(-1:Int)];let c14:=Am c1 o;let c15:=(1)+Dj c14;let c16:=Dc c4;let c17:=Du nx (Dc o) [];let c18:=Df c17;let c19:=Ef c13 c14;true/\(fq c1->c25/\c25/\c25/\c25/\(Dk true c3->c3)/\(c6->c6->c6)/\(c6->True)/\(c6->c6->c6)/\(Dk true c6->c6)/\c26/\c26/\(c9->fq c1)/\c26/\(Dk true c9->c9)/\(c10->c11=Dt Int/\c12=Dt Int/\True)/\(c10=false->Rh c1 o/\Dj c13=1/\(c15*(8))<=(140737488355328)/\c15<=(9223372036854775807)/\0<=c4/\(Dx (8)*c4)<=281474976710656/\c4<=9223372036854775807/\0<=o/\o<Df nx/\(∃x,gTo c7 c1 o x/\o=o/\Value.slice none (0) (0)=Value.slice none (0) (0)/\Value.slice none (0) (0)=Value.slice none (0) (0)/\c15=c15/\c16=c16/\c17=c17/\c18=c18/\0=x/\c19=c19/\Ep c4 (0:Int)=Nv c7 c1 o x/\True)/\∀(x:Int),let c20:=Nv c7 c1 o x;let c21:=Dj c20;let c22:=x+1;let c23:=Du c17 (Dc x) 0;let c24:=Dy c23 (-1);
 gTo c7 c1 o x->(Dp x c18->0<=x/\x<c18/\(Dy x o->c21=c16/\0<=x/\x<Dx c21/\c21=c16/\inR .i64 c22/\∃y,gTo c7 c1 o y/\(o=o/\Value.slice none (0) (0)=Value.slice none (0) (0)/\Value.slice none (0) (0)=Value.slice none (0) (0)/\c15=c15/\c16=c16/\c17=c17/\c18=c18/\c22=y/\c19=c19/\En c20 (Dc x) 0=Nv c7 c1 o y/\True)/\Dc (c4-y)<Dc (c4-x))/\(Dy x o=false->(c24->c21=c16/\0<=x/\x<Dx c21/\c21=c16/\inR IntKind.i64 c22/\∃y,gTo c7 c1 o y/\(o=o/\Value.slice none (0) (0)=Value.slice none (0) (0)/\Value.slice none (0) (0)=Value.slice none (0) (0)/\c15=c15/\c16=c16/\c17=c17/\c18=c18/\c22=y/\c19=c19/\En c20 (Dc x) (-1)=Nv c7 c1 o y/\True)/\Dc (c4-y)<Dc (c4-x))/\(c24=false->YI c19/\Dj c19=c15/\c21=c16/\0<=x/\x<Dx c21/\c21=c16/\inR .i64 c22/\∃y,gTo c7 c1 o y/\(o=o/\Value.slice none (0) (0)=Value.slice none (0) (0)/\Value.slice none (0) (0)=Value.slice none (0) (0)/\c15=c15/\c16=c16/\c17=c17/\c18=c18/\c22=y/\c19=c19/\En c20 (Dc x) (TR c19 c23)=Nv c7 c1 o y/\True)/\Dc (c4-y)<Dc (c4-x))))/\(Dp x c18=false->Dj c19=c15/\c19=c11/\c21=c16/\c20=c12/\True)))):
  evF aEN (lvA [(6,[2,6,7,8,9,10,11,45,46,47])] (aFs (cs,ns,os,fs,ls,ks) (p1,p2,nx,dy) o)) 12 [net cs ns os fs ls ks,.agg [.dat I p1,.dat I p2,.dat M nx,.dat (.sl M) dy],.dat I o] [] ⟨fq (p1,p2,nx,dy),.tup [.dat R (gsF (cs,ns,os,fs,ls,ks) (p1,p2,nx,dy) o),.dat R (ofF (cs,ns,os,fs,ls,ks) (p1,p2,nx,dy) o)],[]⟩:=oE hvc
theorem aAy(o x:Int)(cs:LC)(ns os:LB)(fs:Lo)(ls:Ll)(ks:Lk): af Tryz.prog G0 107 [.dat I o,.dat I x,.ip N (cs,ns,os,fs,ls,ks)] [] ⟨True,.dat .bool (aT (cs,ns,os,fs,ls,ks) o x),[]⟩:=by
 refine ae (c:=mkc KC8) P2 aL hm (WS o x cs ns os fs ls ks ⟨rfl,λ_=>?_⟩)
 simp only[qc,Dk,Di,qd,Dy,Dp,Ed,Df,Dc,Du];refine⟨λh=>h.2.1,λh=>h.2.2,?_⟩
 unfold aT dO;rw[qCh];simp only[zW,qC,xU,qE];exact Iff.rfl
theorem aAx(o x:Int): af Tryz.prog G0 108 [.dat I o,.dat I x] [] ⟨True,.dat .bool (gC o x),[]⟩:=by
 refine ae (c:=mkc KC8) P2 aL hm (WR o x ⟨rfl,λ_=>⟨λh _=>h,λh=>by simpa[Dk]using h,?_,trivial⟩⟩)
 unfold gC uk;simp only[Eb,Ed,Eh,kV];by_cases h:-1<=x<;>simp[h]
theorem Zd: al Tryz.prog G0 Zz:=aj (ag λ(o,x,(cs,ns,os,fs,ls,ks),_)=>aAy o x cs ns os fs ls ks)<|aj (ag λ(o,x,_)=>aAx o x) P2
theorem aAu(t:Lj)(m:Int)(n:Net): af Tryz.prog G0 109 [.dat M t,.dat I m,.fn 107 [.ip N n]] [] ⟨cz t,.dat .bool (sgF (aT n) t m),[]⟩:=by
 refine ae (c:=mkc Zz) Zd aL hm (WN t m n ⟨rfl,λhf=>?_⟩)
 simp only[qc,Di,qd,Ea,Dp,Df,Dc,Du];exact xF (aT n) hf
theorem aAv(t:Lj)(m:Int): af Tryz.prog G0 109 [.dat M t,.dat I m,.fn 108 []] [] ⟨cz t,.dat .bool (sgF gC t m),[]⟩:=by
 refine ae (c:=mkc Zz) Zd aL hm (WO t m ⟨rfl,λhf=>?_⟩)
 simp only[qc,Di,qd,Ea,Dp,Df,Dc,Du];exact xF gC hf
theorem vL{P:Program}{C:Ctx}{a b x x':AV}{us:Lv}(h:AV.relL P C [a,b,x] us)(hx:∀v,x.rel P C v->x'.rel P C v): AV.relL P C [a,b,x'] us:=by
 obtain⟨u,us,rfl,h1,h2⟩:=h;exact⟨_,_,rfl,h1,fR h2 hx⟩
theorem YP: ∀args m c,aD8 args m=some c->af Tryz.prog G0 109 args m c:=by
 intro args m c hc;unfold aD8 at hc;split at hc
 case h_2=>cases hc
 rename_i t k f caps;split at hc
 .rename_i hf;subst hf;split at hc
  case h_2=>cases hc
  rename_i n _ hx;cases hc;exact(aAu t k n).args λC us hG hu=>vL hu λv hv=>uh hx hv
 .split at hc
  case isFalse=>cases hc
  rename_i hf;subst hf;split at hc
  case h_2=>cases hc
  rename_i x hx;cases hc;exact(aAv t k).args λC us hG hu=>vL hu λv hv=>uh hx hv
theorem aEs: al Tryz.prog G0 aEC:=aj YP Zd
theorem XC(cs:LC)(ns os:LB)(fs:Lo)(ls:Ll)(ks:Lk)(p1 p2:Int)(nx:Lj)(dy:List (Lj)): af Tryz.prog G0 44 [net cs ns os fs ls ks,.agg [.dat I p1,.dat I p2,.dat M nx,.dat (.sl M) dy]] [] ⟨fq (p1,p2,nx,dy),.dat .bool (fW (cs,ns,os,fs,ls,ks) (p1,p2,nx,dy)),[]⟩:=by
 refine ae (c:=mkc aEC) aEs aL hm (QZ cs ns os fs ls ks p1 p2 nx dy ⟨rfl,λhf=>?_⟩)
 simp only[qc,Dk,Di,qd,Dt,Ea,Dp,Df,Dc,Du];obtain⟨a3,a4,a5⟩:=id hf;have a3:cz nx:=a3;have a4:dy.length<=1000000:=a4;have eT:sgF (aT (cs,ns,os,fs,ls,ks)) nx fs.length=nN (cs,ns,os,fs,ls,ks) nx:=rfl;have eR:lj p1 p2=m5 (p1,p2,nx,dy):=by
  unfold lj m5;rw[qCh];simp only[qC,qE];omega
 rw[eT,eR];have eF:fW (cs,ns,os,fs,ls,ks) (p1,p2,nx,dy)=(m5 (p1,p2,nx,dy)&&(nN (cs,ns,os,fs,ls,ks) nx&&pM (cs,ns,os,fs,ls,ks) (p1,p2,nx,dy))):=rfl;have eD:(dy.length:Int)=ks.length->(pM (cs,ns,os,fs,ls,ks) (p1,p2,nx,dy)=true↔∀i:Nat,(i:Int)<dy.length->sgF gC (dy.getD i []) fs.length=true):=λhl=>by
  unfold pM;simp only[qC,qE,qL];refine⟨λh i hi=>h.2 _ (getD_mem (by omega)),λh=>⟨hl,λx hx=>?_⟩⟩
  obtain⟨i,hi,rfl⟩:=wX.1 hx;have:=h i (by omega)
  rw[qA,qB hi,qR]at this;exact this
 refine⟨λ_=>a3,λh=>?_,λ⟨⟨hR,h2⟩,h3⟩=>⟨⟨qM _,vC _,hR,h3,h2,λi hi=>by omega⟩,λx ⟨x0,x1,_,_,_,x5⟩=>⟨λhx=>⟨x0,hx,a5 _ (getD_mem (l:=dy) (i:=x.toNat) (d:=[]) (by omega)),λh4=>?_,λh4=>?_⟩,λhx=>?_⟩⟩⟩
 .rw[eF];rcases h with(h | h) | h
  .rw[h];rfl
  .have:pM (cs,ns,os,fs,ls,ks) (p1,p2,nx,dy)=false:=by
    unfold pM;rw[vK h];rfl
   rw[this];simp
  .rw[h];simp
 .refine(kU.2 λht=>?_).symm
  rw[eF]at ht;simp only[qC]at ht;have:=(eD h2).1 ht.2.2 x.toNat (by omega)
  rw[h4]at this;cases this
 .refine⟨aO (by omega),x+1,⟨by omega,by show x+1<=(dy.length:Int);omega,hR,h3,h2,λi hi=>?_⟩,rfl,by omega⟩
  by_cases h5:(i:Int)<x
  .exact x5 i h5
  .have:i=x.toNat:=by omega
   subst this;exact h4
 .rw[eF,hR,h3,(eD h2).2 λi hi=>x5 i (by omega)];rfl
theorem Oa(x:Int): ∀l:Li,Ko x l<=l.length
 | []=>qK _
 | a::l=>by
  unfold Ko;split
  .exact wY _
  .exact qCe (Oa x l)
theorem Vz{x:Int}: ∀{l:Li} {k:Nat},k<l.length->l.getD k 0=x->Ko x l<=k
 | [],k,h,_=>by simp at h
 | a::l,k,h,e=>by
  unfold Ko;split
  .exact wY _
  .cases k with
   | zero=>contradiction
   | succ k=>exact qCe (Vz (by simpa using h) (by simpa using e))
theorem Vy{x:Int}: ∀{l:Li} {k:Nat},k<=Ko x l->l.getD k 0≠x->k<l.length->k+1<=Ko x l
 | [],k,_,_,h=>by simp at h
 | a::l,k,h,e,hk=>by
  unfold Ko at h ⊢;split
  .rename_i ha;rw[if_pos ha]at h;have:k=0:=by omega
   subst this;exact absurd ha e
  .rename_i ha;rw[if_neg ha]at h;cases k with
   | zero=>omega
   | succ k=>exact qCe (Vy (by omega) (by simpa using e) (by simpa using hk))
theorem Xv(l:Li)(x:Int): af Tryz.prog G0 46 [.dat R l,.dat I x] [] ⟨YI l,.dat I (TR l x),[]⟩:=by
 refine ae (c:=mkc KC8) P2 aL hm (QP l x ⟨rfl,λhf=>?_⟩)
 simp only[qc,qd,Dy,Dp,Df,Dc,Du];unfold YI at hf;refine⟨⟨by omega,by omega,by omega⟩,λk ⟨k0,k1,k2⟩=>⟨λhlt=>⟨k0,hlt,λhe=>?_,λhne=>⟨aO (by omega),k+1,⟨by omega,by omega,?_⟩,rfl,by omega⟩⟩,λhge=>?_⟩⟩
 .have hk:k.toNat<l.length:=by omega
  have h1:=Vz hk he.symm;have e:Ko x l=k.toNat:=by omega
  unfold TR;rw[e,if_pos hk];omega
 .have h1:=Vy (x:=x) (l:=l) (k:=k.toNat) (by omega) (λe=>hne e.symm) (by omega)
  omega
 .have h1:=Oa x l;unfold TR;rw[if_neg (by omega)]
theorem aEr(h:nB): al Tryz.prog G0 aFe:=aj (ag λ((cs,ns,os,fs,ls,ks),(p1,p2,nx,dy),_)=>XC cs ns os fs ls ks p1 p2 nx dy)<|aj (ag λ(l,x,_)=>Xv l x) (aBT h)
theorem RL(h:nB)(o:Int)(cs:LC)(ns os:LB)(fs:Lo)(ls:Ll)(ks:Lk)(p1 p2:Int)(nx:Lj)(dy:List (Lj)): af Tryz.prog G0 12 [net cs ns os fs ls ks,.agg [.dat I p1,.dat I p2,.dat M nx,.dat (.sl M) dy],.dat I o] [] ⟨fq (p1,p2,nx,dy),.tup [.dat R (gsF (cs,ns,os,fs,ls,ks) (p1,p2,nx,dy) o),.dat R (ofF (cs,ns,os,fs,ls,ks) (p1,p2,nx,dy) o)],[]⟩:=by
 refine ae (c:=aEN) (aEr h) aL hm (KW o cs ns os fs ls ks p1 p2 nx dy ⟨rfl,λhf=>?_⟩)
 simp only[qc,Dk,Di,qd,Dt,Dy,Dp,Ed,Df,Dc,Dx,Dj,Du,En,Ef,Ep];have ok:gOk (cs,ns,os,fs,ls,ks) (p1,p2,nx,dy) o=true↔((0<=o/\o<fs.length)/\bn (cs,ns,os,fs,ls,ks)=true)/\fW (cs,ns,os,fs,ls,ks) (p1,p2,nx,dy)=true:=by
  unfold gOk dO;rw[qC,qC,qE]
 refine⟨λ_=>hf,λh=>?_,λ⟨⟨⟨h0,h1⟩,hs⟩,hfm⟩=>?_⟩
 .have hn:¬gOk (cs,ns,os,fs,ls,ks) (p1,p2,nx,dy) o=true:=λg=>by
   obtain⟨⟨⟨g0,g1⟩,g2⟩,g3⟩:=ok.1 g;rcases h with((h | h) | h) | h
   .omega
   .omega
   .rw[g2]at h;cases h
   .rw[g3]at h;cases h
  exact⟨if_neg hn,if_neg hn⟩
 have o0:0<=o:=by omega
 have o1:o<fs.length:=by omega
 have hg:gOk (cs,ns,os,fs,ls,ks) (p1,p2,nx,dy) o=true:=ok.2 ⟨⟨⟨o0,o1⟩,hs⟩,hfm⟩;have ht:nN (cs,ns,os,fs,ls,ks) nx=true:=(da hfm).2.1;obtain⟨q1,_⟩:=nA cs ns os fs ls ks hs;obtain⟨r1,r2,_⟩:=gW cs ns os fs ls ks ht o0 o1 o0 o1;have r2:((fN (p1,p2,nx,dy) o).length:Int)=fs.length:=r2;have gl:=Ob (p1,p2,nx,dy) o;have eR:nx.getD o.toNat []=fN (p1,p2,nx,dy) o:=rfl;rw[eR]
 have len:∀{k:Int},0<=k->k<=fs.length->(Nv (cs,ns,os,fs,ls,ks) (p1,p2,nx,dy) o k).length=fs.length:=λa b=>by
  have:=r7 (g:=DJ (p1,p2,nx,dy) o) (z:=0) (l:=fs.length) (k:=_) ⟨a,b⟩;rw[qQ]at this;exact this
 have nxt_:∀{k v:Int},0<=k->k<fs.length->v=DJ (p1,p2,nx,dy) o k->(Nv (cs,ns,os,fs,ls,ks) (p1,p2,nx,dy) o k).set k.toNat v=Nv (cs,ns,os,fs,ls,ks) (p1,p2,nx,dy) o (k+1):=λa b e=>by
  rw[e];exact xo a b
 have e0:List.replicate fs.length (0:Int)=Nv (cs,ns,os,fs,ls,ks) (p1,p2,nx,dy) o 0:=by
  have:=nQ (g:=DJ (p1,p2,nx,dy) o) (z:=(0:Int)) (l:=fs.length);rw[qQ]at this;exact this
 have e1:Nv (cs,ns,os,fs,ls,ks) (p1,p2,nx,dy) o fs.length=ofF (cs,ns,os,fs,ls,ks) (p1,p2,nx,dy) o:=by
  unfold ofF;rw[if_pos hg];have:=po (g:=DJ (p1,p2,nx,dy) o) (z:=(0:Int)) (l:=fs.length);rw[qQ]at this;exact this
 have e2:gsF (cs,ns,os,fs,ls,ks) (p1,p2,nx,dy) o=-1::Am (p1,p2,nx,dy) o:=if_pos hg;refine⟨⟨o0,by show o<(nx.length:Int);omega,by omega,U3 cs ns os fs ls ks hs ht o0 o1⟩,rfl,by omega,by omega,by omega,by omega,by omega,o0,by omega,⟨0,⟨hg,by omega,by show(0:Int)<=(fs.length:Int);omega⟩,rfl,e0⟩,λx ⟨_,x0,x1⟩=>⟨λhlt=>⟨x0,hlt,λhe=>?_,λhne=>⟨λhl=>?_,λhl=>?_⟩⟩,λhge=>?_⟩⟩
 .have hx:x<fs.length:=by omega
  have hl:=len x0 x1;exact⟨hl,x0,by omega,hl,aO (by omega),x+1,⟨hg,by omega,by show x+1<=(fs.length:Int);omega⟩,⟨rfl,nxt_ x0 hx (by unfold DJ;rw[if_pos he])⟩,by omega⟩
 .have hx:x<fs.length:=by omega
  have hl':=len x0 x1;exact⟨hl',x0,by omega,hl',aO (by omega),x+1,⟨hg,by omega,by show x+1<=(fs.length:Int);omega⟩,⟨rfl,nxt_ x0 hx (by unfold DJ;rw[if_neg hne,if_pos hl])⟩,by omega⟩
 .have hx:x<fs.length:=by omega
  have hl':=len x0 x1;exact⟨by unfold YI;simp only[qF,wE];omega,by simp[qAy],hl',x0,by omega,hl',aO (by omega),x+1,⟨hg,by omega,by show x+1<=(fs.length:Int);omega⟩,⟨rfl,nxt_ x0 hx (by unfold DJ;rw[if_neg hne,if_neg hl];rfl)⟩,by omega⟩
 .have x1:x<=(fs.length:Int):=x1;have hx:x=fs.length:=by omega
  rw[hx];exact⟨by simp[qAy],by rw[e2];rfl,len (by omega) (by omega),e1⟩
end Go.Eng.Sv
set_option maxRecDepth 100000
noncomputable section
namespace Go.Eng.Sv
open Go.Proofs
def xCs: List (Int×List Bool×Li):=[(0,[true,true,true,true,true,true,true],[])]
def xNs: List ByteArray:=[⟨#[99]⟩]
def xOs: List ByteArray:=[⟨#[112]⟩]
def xFs: Lo:=[(⟨#[97]⟩,0,0,2,1,10,[]),(⟨#[98]⟩,0,0,2,1,10,[])]
def xLs: Ll:=[(⟨#[120]⟩,0,1,600,60,1),(⟨#[121]⟩,1,0,600,60,1)]
def xKs: Lk:=[(⟨#[107]⟩,300,720)]
def yFs: Lo:=[(⟨#[97]⟩,0,0,2,1,10,[]),(⟨#[98]⟩,0,0,2,1,10,[]),(⟨#[99]⟩,0,0,2,1,10,[])]
def yLs: Ll:=[(⟨#[120]⟩,0,1,600,60,1),(⟨#[121]⟩,1,0,600,60,1),(⟨#[122]⟩,0,2,600,60,1),(⟨#[119]⟩,2,0,600,60,1)]
def lr(a b:Li): Bool:=a==b
def nu(a b:Li)(k:Int): Prop:=0<=k/\k<=a.length/\a.length=b.length/\a.length<=1000000/\a.take k.toNat=b.take k.toNat
def kj(a:Li): Prop:=a.length<=1000000
def mT(a b:List (Lj)): Bool:=a==b
def x7(a b:List (Lj))(k:Int): Prop:=0<=k/\k<=a.length/\a.length=b.length/\a.take k.toNat=b.take k.toNat
def uP(a:List (Lj)): Prop:=a.length<=1000000/\∀t∈a,mild t
def smF(n:Net)(nx:Lj): Bool:=(Kp n&&decide ((n.2.2.2.1.length:Int)<=6))&&(decide ((nx.length:Int)<=10)&&nx.all λr=>decide ((r.length:Int)<=10))
def aCc(nx:Lj)(k:Int): Prop:=0<=k/\k<=nx.length/\nx.length<=10/\∀i:Nat,(i:Int)<k->(nx.getD i []).length<=10
def w9(a b:Int): Bool:=decide (b<=IntKind.i64.wrap (a+9))||decide (b>IntKind.i64.wrap (a+60))
def Zo(n:Net)(a b:Int): Bool:=(smF n []&&decide ((n.2.2.2.2.2.length:Int)<=3))&&w9 a b
theorem Ww(z:Int)(w:List Bool)(h:Li)(hvc:
 let c1:=Eh (Df w) 20;let c2:=c1->c1->c1;true/\(True->c2/\c2/\c2/\(Dk true c1->c1)/\Eb c1 (Eh (Df h) 60) false=gR w h/\True)):
  evF (mkc KC8) aA 167 [cal z w h] [] ⟨True,.dat .bool (gR w h),[]⟩:=oE hvc
def KL1: Kt:=kOr 167 (ay [.row C] (λ_=>True) λ((_,w,h),_)=>.dat .bool (gR w h)) KC8
theorem gS(k:Int)(cs:LC)(ns os:LB)(fs:Lo)(ls:Ll)(ks:Lk)(hvc:
 let c5:=ByteArray.mk #[];let c1:=(cs,ns,os,fs,ls,ks);let c2:=Dy k 1;let c3:=Df (aQ c1 1);let c4:=[ByteArray.mk #[]];let c6:=aQ c1 k;let c7:=Dy k 2;let c8:=Df (aQ c1 2);let c9:=Dy k 3;let c10:=Df (aQ c1 3);let c11:=Df fs;let c13:=Dy k 4;let c14:=Df (aQ c1 4);let c15:=Df ls;let c16:=((0:Int),(0:Int));let c18:=Dy k 5;let c19:=Df (aQ c1 5);let c20:=Df ks;true/\(l8 c1->(c2->(∃x,let c22:=aX c1 1 x;upN x c3/\c1=c1/\Value.slice none (0) (0)=Value.slice none (0) (0)/\Dj c22=0/\c22=Dt ByteArray/\0=x/\k=k/\c22=Dt ByteArray/\True)/\∀(x:Int),let c23:=Dp x (Df cs);let c24:=Dp x (Df ns);let c25:=aX c1 1 x;let c26:=Dj c25;let c27:=[Du ns (Dc x) c5];let c28:=c26+Dj c27;let c29:=x+1;let c30:=c26+(Dj c4);upN x c3->(c23->(c24->0<=x/\x<Df ns/\c26=c26/\(c28*(16))<=(140737488355328)/\c28<=(9223372036854775807)/\inR .i64 c29/\∃y,let c31:=aX c1 1 y;upN y c3/\(c1=c1/\Value.slice none (0) (0)=Value.slice none (0) (0)/\c28=Dj c31/\c29=y/\k=k/\Ef c25 c27=c31/\True)/\Dc (c3-y)<Dc (c3-x))/\(c24=false->c26=c26/\(c30*(16))<=(140737488355328)/\c30<=(9223372036854775807)/\inR .i64 c29/\∃y,let c32:=aX c1 1 y;upN y c3/\(c1=c1/\Value.slice none (0) (0)=Value.slice none (0) (0)/\c30=Dj c32/\c29=y/\k=k/\Ef c25 c4=c32/\True)/\Dc (c3-y)<Dc (c3-x)))/\(c23=false->c26=c26/\c25=c6/\True))/\(c2=false->(c7->(∃x,let c33:=aX c1 2 x;upN x c8/\c1=c1/\Value.slice none (0) (0)=Value.slice none (0) (0)/\Dj c33=0/\c33=Dt ByteArray/\0=x/\k=k/\c33=Dt ByteArray/\True)/\∀(x:Int),let c34:=Dp x (Df os);let c35:=aX c1 2 x;let c36:=Dj c35;let c37:=[Du os (Dc x) c5];let c38:=c36+Dj c37;
 let c39:=x+1;upN x c8->(c34->0<=x/\x<Df os/\c36=c36/\(c38*(16))<=(140737488355328)/\c38<=(9223372036854775807)/\inR .i64 c39/\∃y,let c40:=aX c1 2 y;upN y c8/\(c1=c1/\Value.slice none (0) (0)=Value.slice none (0) (0)/\c38=Dj c40/\c39=y/\k=k/\Ef c35 c37=c40/\True)/\Dc (c8-y)<Dc (c8-x))/\(c34=false->c36=c36/\c35=c6/\True))/\(c7=false->(c9->(∃x,let c41:=aX c1 3 x;upN x c10/\c1=c1/\Value.slice none (0) (0)=Value.slice none (0) (0)/\Dj c41=0/\c41=Dt ByteArray/\0=x/\k=k/\c41=Dt ByteArray/\True)/\∀(x:Int),let c42:=aX c1 3 x;let c43:=Dj c42;let c44:=[(Du fs (Dc x) (ByteArray.mk #[],(0:Int),(0:Int),(0:Int),(0:Int),(0:Int),Dt ByteArray)).1];let c45:=c43+Dj c44;let c46:=x+1;upN x c10->(Dp x c11->0<=x/\x<c11/\c43=c43/\(c45*(16))<=(140737488355328)/\c45<=(9223372036854775807)/\inR .i64 c46/\∃y,let c47:=aX c1 3 y;upN y c10/\(c1=c1/\Value.slice none (0) (0)=Value.slice none (0) (0)/\c45=Dj c47/\c46=y/\k=k/\Ef c42 c44=c47/\True)/\Dc (c10-y)<Dc (c10-x))/\(Dp x c11=false->c43=c43/\c42=c6/\True))/\(c9=false->(c13->(∃x,let c48:=aX c1 4 x;upN x c14/\c1=c1/\Value.slice none (0) (0)=Value.slice none (0) (0)/\Dj c48=0/\c48=Dt ByteArray/\0=x/\k=k/\c48=Dt ByteArray/\True)/\∀(x:Int),let c49:=aX c1 4 x;let c50:=Dj c49;let c51:=[(Du ls (Dc x) (ByteArray.mk #[],(0:Int),(0:Int),(0:Int),c16)).1];let c52:=c50+Dj c51;let c53:=x+1;upN x c14->(Dp x c15->0<=x/\x<c15/\c50=c50/\(c52*(16))<=(140737488355328)/\c52<=(9223372036854775807)/\inR .i64 c53/\∃y,let c54:=aX c1 4 y;
 upN y c14/\(c1=c1/\Value.slice none (0) (0)=Value.slice none (0) (0)/\c52=Dj c54/\c53=y/\k=k/\Ef c49 c51=c54/\True)/\Dc (c14-y)<Dc (c14-x))/\(Dp x c15=false->c50=c50/\c49=c6/\True))/\(c13=false->(c18->(∃x,let c55:=aX c1 5 x;upN x c19/\c1=c1/\Value.slice none (0) (0)=Value.slice none (0) (0)/\Dj c55=0/\c55=Dt ByteArray/\0=x/\c55=Dt ByteArray/\True)/\∀(x:Int),let c56:=aX c1 5 x;let c57:=Dj c56;let c58:=[(Du ks (Dc x) (ByteArray.mk #[],c16)).1];let c59:=c57+Dj c58;let c60:=x+1;upN x c19->(Dp x c20->0<=x/\x<c20/\c57=c57/\(c59*(16))<=(140737488355328)/\c59<=(9223372036854775807)/\inR .i64 c60/\∃y,let c61:=aX c1 5 y;upN y c19/\(c1=c1/\Value.slice none (0) (0)=Value.slice none (0) (0)/\c59=Dj c61/\c60=y/\Ef c56 c58=c61/\True)/\Dc (c19-y)<Dc (c19-x))/\(Dp x c20=false->c57=c57/\c56=c6/\True))/\(c18=false->c6=Dt ByteArray/\True))))))):
  evF (mkc KL1) (lvA [(5,[2,4,5,6,7,8,9,10,11]),(12,[2,4,5,7,8,9,10,11]),(17,[2,4,5,8,9,10,11]),(22,[2,4,5,9,10,11]),(27,[2,4,5,10])] (aA8 (cs,ns,os,fs,ls,ks))) 168 [net cs ns os fs ls ks,.dat I k] [] ⟨l8 (cs,ns,os,fs,ls,ks)=true,.dat (.sl S) (aQ (cs,ns,os,fs,ls,ks) k),[]⟩:=oE hvc
theorem gL(a b:Lj)(hvc:
 let c1:=Ea (Df a) (Df b);true/\(mild a->(c1->false=lq a b/\True)/\(c1=false->(∃x,x9 a b x/\a=a/\b=b/\0=x/\True)/\∀(x:Int),let c2:=Dp x (Df a);let c3:=Du a (Dc x) [];let c4:=Df c3;let c5:=Du b (Dc x) [];let c6:=Df c5;let c7:=Ea c4 c6;let c8:=x+1;x9 a b x->(c2->0<=x/\x<Df a/\0<=x/\x<Df b/\(c7->false=lq a b/\True)/\(c7=false->(∃x_4,yb a b x x_4/\a=a/\b=b/\x=x/\0=x_4/\True)/\∀(x_4:Int),let c9:=Ea (Du c3 (Dc x_4) 0) (Du c5 (Dc x_4) 0);let c10:=x_4+1;yb a b x x_4->0<=x/\x<Df a/\(Dp x_4 c4->0<=x/\x<Df a/\0<=x_4/\x_4<c4/\0<=x/\x<Df b/\0<=x_4/\x_4<c6/\(c9->false=lq a b/\True)/\(c9=false->inR .i64 c10/\∃y,yb a b x y/\(a=a/\b=b/\x=x/\c10=y/\True)/\Dc (c4-y)<Dc (c4-x_4)))/\(Dp x_4 c4=false->inR .i64 c8/\∃y,x9 a b y/\(a=a/\b=b/\c8=y/\True)/\Dc (Df a-y)<Dc (Df a-x))))/\(c2=false->true=lq a b/\True)))):
  evF (mkc KL1) (lvA [(4,[0,1,4,5,6]),(9,[0,1,4,5,6])] (aAF a b)) 22 [.dat M a,.dat M b] [] ⟨mild a,.dat .bool (lq a b),[]⟩:=oE hvc
def Vf(a b:Li): Ann:=⟨λid st=>match id with
 | 4=>some {α:=Int,inv:=λk=>nu a b k,st:=λk=>put st [(5,.dat I k)],μ:=λk=>Dc (Dh (Df a) k)}
 | _=>none,λ_ _=>none,λ_ _=>none⟩
theorem gN(a b:Li)(hvc:
 let c1:=Ea (Df a) (Df b);true/\(kj a->(c1->false=lr a b/\True)/\(c1=false->(∃x,nu a b x/\a=a/\b=b/\0=x/\True)/\∀(x:Int),let c2:=Dp x (Df a);let c3:=Ea (Du a (Dc x) 0) (Du b (Dc x) 0);let c4:=x+1;nu a b x->(c2->0<=x/\x<Df a/\0<=x/\x<Df b/\(c3->false=lr a b/\True)/\(c3=false->inR .i64 c4/\∃y,nu a b y/\(a=a/\b=b/\c4=y/\True)/\Dc (Df a-y)<Dc (Df a-x)))/\(c2=false->true=lr a b/\True)))):
  evF (mkc KL1) (lvA [(4,[0,1,4,5])] (Vf a b)) 35 [.dat R a,.dat R b] [] ⟨kj a,.dat .bool (lr a b),[]⟩:=oE hvc
def KL2: Kt:=kOr 168 (ay [.row N,.val I] (λ(n,_,_)=>l8 n=true) λ(n,k,_)=>.dat (.sl S) (aQ n k)) <|
 kOr 22 (ay [.val M,.val M] (λ(a,_,_)=>mild a) λ(a,b,_)=>.dat .bool (lq a b)) <|
 kOr 35 (ay [.val R,.val R] (λ(a,_,_)=>kj a) λ(a,b,_)=>.dat .bool (lr a b)) KL1
theorem Wx(cs:LC)(ns os:LB)(fs:Lo)(ls:Ll)(ks:Lk)(hvc:
 let c1:=Df cs;let c2:=Ei c1 10;let c3:=Di c2;let c28:=c3->c3->c3;let c4:=Eb c2 true (Ei (Df ns) 10);let c5:=Di c4;let c29:=c5->c5->c5;let c6:=Eb c4 true (Ei (Df os) 10);let c7:=Di c6;let c30:=c7->c7->c7;let c8:=Df fs;let c9:=Eb c6 true (Ei c8 16);let c10:=Di c9;let c26:=c10->c10->c10;let c11:=Eb c9 true (Ei (Df ls) 50);let c12:=Di c11;let c27:=c12->c12->c12;let c13:=Eb c11 true (Ei (Df ks) 8);let c14:=(cs,ns,os,fs,ls,ks);let c15:=Kp c14;true/\(True->c28/\c28/\c28/\(Dk true c3->c3)/\c29/\c29/\c29/\(Dk true c5->c5)/\c30/\c30/\c30/\(Dk true c7->c7)/\c26/\c26/\c26/\(Dk true c10->c10)/\c27/\c27/\c27/\(Dk true c12->c12)/\(c13->false=c15/\True)/\(c13=false->(∃x,H8 cs x/\c14=c14/\0=x/\True)/\∀(x:Int),let c16:=(Du cs (Dc x) ((0:Int),Dt Bool,Dt Int)).2;let c17:=Di (gR c16.1 c16.2);let c18:=x+1;H8 cs x->(Dp x c1->0<=x/\x<c1/\True/\(c17->false=c15/\True)/\(c17=false->inR IntKind.i64 c18/\∃y,H8 cs y/\(c14=c14/\c18=y/\True)/\Dc (c1-y)<Dc (c1-x)))/\(Dp x c1=false->(∃x,Ht fs x/\c14=c14/\0=x/\True)/\∀(x:Int),let c19:=Ei (Df (Du fs (Dc x) (ByteArray.mk #[],(0:Int),(0:Int),(0:Int),(0:Int),(0:Int),Dt ByteArray)).2.2.2.2.2.2) 30;let c20:=x+1;Ht fs x->(Dp x c8->0<=x/\x<c8/\(c19->false=c15/\True)/\(c19=false->inR IntKind.i64 c20/\∃y,Ht fs y/\(c14=c14/\c20=y/\True)/\Dc (c8-y)<Dc (c8-x)))/\(Dp x c8=false->(∃x,y4 c14 x/\c14=c14/\1=x/\True)/\∀(x:Int),let c21:=Eh x 5;let c22:=Df (aQ c14 x);let c23:=x+1;y4 c14 x->(c21->l8 c14/\(∃x_5,Tt (aQ c14 x) x_5/\c14=c14/\x=x/\aQ c14 x=aQ c14 x/\0=x_5/\True)/\∀(x_5:Int),let c24:=Ei (Et (Du (aQ c14 x) (Dc x_5) (ByteArray.mk #[]))) 40;let c25:=x_5+1;
 Tt (aQ c14 x) x_5->(Dp x_5 c22->0<=x_5/\x_5<c22/\(c24->false=c15/\True)/\(c24=false->inR .i64 c25/\∃y,Tt (aQ c14 x) y/\(c14=c14/\x=x/\aQ c14 x=aQ c14 x/\c25=y/\True)/\Dc (c22-y)<Dc (c22-x_5)))/\(Dp x_5 c22=false->inR .i64 c23/\∃y,y4 c14 y/\(c14=c14/\c23=y/\True)/\Dc (6-y)<Dc (6-x)))/\(c21=false->true=c15/\True)))))):
  evF (mkc KL2) (lvA [(4,[1,2,3,4,5,6,7]),(9,[1,2,4,5,6,7]),(14,[1,2,5,6,7]),(18,[1,2,5,6,7])] (aFw (cs,ns,os,fs,ls,ks))) 104 [net cs ns os fs ls ks] [] ⟨True,.dat .bool (Kp (cs,ns,os,fs,ls,ks)),[]⟩:=oE hvc
def aAE(a b:List (Lj)): Ann:=⟨λid st=>match id with
 | 4=>some {α:=Int,inv:=λk=>x7 a b k,st:=λk=>put st [(5,.dat I k)],μ:=λk=>Dc (Dh (Df a) k)}
 | _=>none,λ_ _=>none,λ_ _=>none⟩
theorem gH(a b:List (Lj))(hvc:
 let c1:=Df a;let c2:=Df b;let c3:=Ea c1 c2;true/\(uP a->(c3->false=mT a b/\True)/\(c3=false->(∃x,x7 a b x/\a=a/\b=b/\0=x/\True)/\∀(x:Int),let c4:=Du a (Dc x) (Dt (Li));let c5:=Di (lq c4 (Du b (Dc x) (Dt (Li))));let c6:=x+1;x7 a b x->(Dp x c1->0<=x/\x<c1/\0<=x/\x<c2/\mild c4/\(c5->false=mT a b/\True)/\(c5=false->inR .i64 c6/\∃y,x7 a b y/\(a=a/\b=b/\c6=y/\True)/\Dc (c1-y)<Dc (c1-x)))/\(Dp x c1=false->true=mT a b/\True)))):
  evF (mkc KL2) (lvA [(4,[0,1,4,5])] (aAE a b)) 24 [.dat (.sl M) a,.dat (.sl M) b] [] ⟨uP a,.dat .bool (mT a b),[]⟩:=oE hvc
def KL3: Kt:=kOr 104 (ay [.row N] (λ_=>True) λ(n,_)=>.dat .bool (Kp n)) <|
 kOr 24 (ay [.val (.sl M),.val (.sl M)] (λ(a,_,_)=>uP a) λ(a,b,_)=>.dat .bool (mT a b)) KL2
def smA(nx:Lj): Ann:=⟨λid s=>match id with
 | 4=>some {α:=Int,inv:=λk=>aCc nx k,st:=λk=>put s [(5,.dat I k)],μ:=λk=>Dc (Dh (Df nx) k)}
 | _=>none,λ_ _=>none,λ_ _=>none⟩
theorem QJ(nx:Lj)(cs:LC)(ns os:LB)(fs:Lo)(ls:Ll)(ks:Lk)(hvc:
 let c1:=(cs,ns,os,fs,ls,ks);let c2:=Di (Kp c1);let c3:=Di c2;let c11:=c3->c3->c3;let c4:=Eb c2 true (Ei (Df fs) 6);let c5:=Di c4;let c6:=Eb c4 true (Ei (Df nx) 10);let c7:=smF c1 nx;true/\(True->True/\c11/\c11/\c11/\(Dk true c3->c3)/\(c5->c5->c5)/\(c5->c5->c5)/\(Dk true c5->c5)/\(c6->false=c7/\True)/\(c6=false->(∃x,aCc nx x/\nx=nx/\0=x/\True)/\∀(x:Int),let c8:=Dp x (Df nx);let c9:=Ei (Df (Du nx (Dc x) [])) 10;let c10:=x+1;aCc nx x->(c8->0<=x/\x<Df nx/\(c9->false=c7/\True)/\(c9=false->inR .i64 c10/\∃y,aCc nx y/\(nx=nx/\c10=y/\True)/\Dc (Df nx-y)<Dc (Df nx-x)))/\(c8=false->true=c7/\True)))):
  evF (mkc KL3) (lvA [(4,[1,4,5])] (smA nx)) 37 [net cs ns os fs ls ks,.dat M nx] [] ⟨True,.dat .bool (smF (cs,ns,os,fs,ls,ks) nx),[]⟩:=oE hvc
def KL4: Kt:=kOr 37 (ay [.row N,.val M] (λ_=>True) λ(n,nx,_)=>.dat .bool (smF n nx)) KL3
theorem QI(a b:Int)(cs:LC)(ns os:LB)(fs:Lo)(ls:Ll)(ks:Lk)(hvc:
 let c1:=(cs,ns,os,fs,ls,ks);let c2:=smF c1 (Dt (Li));let c8:=c2->c2->c2;let c3:=Eb c2 (Eh (Df ks) 3) false;let c6:=c3->c3->c3;let c4:=Eh b (Ew IntKind.i64 (a+9));let c7:=Di c4;let c5:=Dk c3 c7->Dk c3 c7->Dk c3 c7;true/\(True->True/\c8/\c8/\c8/\(Dk true c2->c2)/\c6/\c6/\c6/\c6/\c5/\c5/\c5/\c6/\(c3->Dk c3 c7->Dk c3 c7)/\(Dk true c3->c3)/\Eb c3 (Eb c4 true (Ei b (Ew IntKind.i64 (a+60)))) false=Zo c1 a b/\True)):
  evF {mkc KL4 with mb:=λt=>t==18||t==23} aA 10 [net cs ns os fs ls ks,.dat I a,.dat I b] [] ⟨True,.dat .bool (Zo (cs,ns,os,fs,ls,ks) a b),[]⟩:=oE hvc
theorem gT(hvc:
 let c1:=((0:Int),(0:Int),(2:Int),(1:Int),(10:Int),Dt ByteArray);let c2:=((600:Int),(60:Int),(1:Int));true/\(True->1=1/\0=0/\1=1/\0=0/\1=1/\0=0/\1=1/\1=1/\0=0/\1=1/\1=1/\0=0/\1=1/\1=1/\0=0/\1=1/\0=0/\1=1/\0=0/\1=1/\0=0/\[((0:Int),[true,true,true,true,true,true,true],Dt Int)]=xCs/\[ByteArray.mk #[(99:UInt8)]]=xNs/\[ByteArray.mk #[(112:UInt8)]]=xOs/\[(ByteArray.mk #[(97:UInt8)],c1),(ByteArray.mk #[(98:UInt8)],c1)]=xFs/\[(ByteArray.mk #[(120:UInt8)],(0:Int),(1:Int),c2),(ByteArray.mk #[(121:UInt8)],(1:Int),(0:Int),c2)]=xLs/\[(ByteArray.mk #[(107:UInt8)],(300:Int),(720:Int))]=xKs/\True)):
  evF (mkc KL4) aA 34 [] [] ⟨True,.agg [.dat (.sl C) xCs,.dat (.sl S) xNs,.dat (.sl S) xOs,.dat (.sl Of) xFs,.dat (.sl Ln) xLs,.dat (.sl Kl) xKs],[]⟩:=oE hvc
def KL5: Kt:=kOr 10 (ay [.row N,.val I,.val I] (λ_=>True) λ(n,a,b,_)=>.dat .bool (Zo n a b)) <|
 kOr 34 (ay [] (λ_=>True) λ_=>.agg [.dat (.sl C) xCs,.dat (.sl S) xNs,.dat (.sl S) xOs,.dat (.sl Of) xFs,.dat (.sl Ln) xLs,.dat (.sl Kl) xKs]) <|
 kOr 11 (ay [.row N,.val I,.val I] (λ_=>True) λ(n,a,b,_)=>.tup [.agg [.dat I (gv n a b).1,.dat I (gv n a b).2.1,.dat M (gv n a b).2.2.1,.dat (.sl M) (gv n a b).2.2.2],.agg [.dat R (DL n a b).1,.dat I (DL n a b).2],.dat I (rR n a b)]) <|
 kOr 12 (ay [.row N,.row Pl,.val I] (λ(_,p,_,_)=>fq p) λ(n,p,o,_)=>.tup [.dat R (gsF n p o),.dat R (ofF n p o)]) <|
 kOr 26 (ay [.row N,.row (.pair R I)] (λ(n,c,_)=>Go.Eng.In.uH c.1/\Go.Eng.In.pA n) λ(n,c,_)=>.dat I (Go.Eng.In.dw n c.1 c.2)) <|
 kOr 36 (ay [.val R] (λ(l,_)=>Go.Eng.In.PT l) λ(l,_)=>.dat I (Go.Eng.In.fO l)) KL4
def aFr: Ann:=⟨λ_ _=>none,λid s=>match id with
 | 8=>some (aBd [1,2,3,4,5,6,9,10] (frz ((s.mem.filter λp=>match p.2 with
  | .buf ..=>true
  | _=>false).map (·.1)) s))
 | _=>none,λ_ _=>none⟩
theorem KV(hvc:
 let c1:=(xCs,xNs,xOs,xFs,xLs,xKs);let c2:=gv c1 0 1;let c3:=c2.1;let c4:=c2.2;let c5:=c4.1;let c6:=c4.2;let c7:=c6.1;let c8:=c6.2;let c9:=(c3,c5,c7,c8);let c10:=Df xFs;let c11:=(0)+Dj xLs;let c12:=Ef (Dt (ByteArray×Int×Int×Int×Int×Int)) xLs;let c13:=((600:Int),(60:Int),(1:Int));let c14:=[(ByteArray.mk #[(122:UInt8)],(0:Int),(2:Int),c13),(ByteArray.mk #[(119:UInt8)],(2:Int),(0:Int),c13)];let c15:=c11+Dj c14;let c16:=Ef c12 c14;let c17:=rR c1 0 1;let c18:=gsF c1 c9 0;let c19:=ofF c1 c9 0;let c20:=rR c1 0 61;let c21:=DL c1 0 1;let c22:=c21.1;let c23:=c21.2;let c24:=gv c1 0 61;let c25:=c24.1;let c26:=c24.2;let c27:=c26.1;let c28:=c26.2;let c29:=c28.1;let c30:=c28.2;let c31:=DL c1 0 61;let c32:=c31.1;let c33:=c31.2;let c34:=(ByteArray.mk #[],(0:Int),(0:Int),(0:Int),(0:Int),(0:Int),Dt ByteArray);let c35:=Du xFs (Dc 0) c34;let c36:=c35.2;let c37:=c36.2;let c38:=c37.2;let c39:=c38.2;let c40:=c39.2;let c41:=Du xFs (Dc 1) c34;let c42:=c41.2;let c43:=c42.2;let c44:=c43.2;let c45:=c44.2;let c46:=c45.2;let c47:=[(c35.1,c36.1,c37.1,c38.1,c39.1,c40.1,c40.2),(c41.1,c42.1,c43.1,c44.1,c45.1,c46.1,c46.2),(ByteArray.mk #[(99:UInt8)],(0:Int),(0:Int),(2:Int),(1:Int),(10:Int),Dt ByteArray)];let c48:=Dy c17 0;let c49:=[(0:Int)];let c50:=(-1:Int)::c49;let c51:=Eb c48 (lq c7 [c50,[(1:Int),(-1:Int)]]) false;let c52:=(0:Int)::c49;let c53:=Eb c51 (mT c8 [[c52,c52]]) false;
 let c54:=Eb c53 (lr c22 [(0:Int),(1:Int),(2:Int),(1:Int),(0:Int),(1:Int),(2:Int),(0:Int),(1:Int),(1:Int),(1:Int),(1:Int),(2:Int),(2:Int)]) false;let c55:=Eb c54 (Dy c23 (In.fO c22)) false;let c56:=Eb c55 (lr c18 c50) false;let c57:=Eb c56 (lr c19 [(0:Int),(1:Int)]) false;let c58:=Eb c57 (Dy c20 1) false;let c59:=Eb c58 (Dy (rR (xCs,xNs,xOs,c47,c16,xKs) 0 1) 140) false;
 true/\(True->True/\1=1/\0=0/\1=1/\0=0/\True/\1=1/\0=0/\1=1/\0=0/\1=1/\0=0/\1=1/\0=0/\fq c9/\1=1/\0=0/\True/\1=1/\0=0/\1=1/\0=0/\1=1/\0=0/\1=1/\0=0/\1=1/\1=1/\0=0/\Dl 0 0/\0<c10/\1=1/\1=1/\0=0/\Dl 0 1/\1<c10/\1=1/\1=1/\0=0/\1=1/\1=1/\0=0/\Dj (Dt (ByteArray×Int×Int×Int×Int×Int))=0/\(c11*(56))<=(140737488355328)/\c11<=(9223372036854775807)/\Dj c12=c11/\(c15*(56))<=(140737488355328)/\c15<=(9223372036854775807)/\1=1/\1=1/\0=0/\Dj c16=c15/\1=1/\0=0/\0=0/\1=1/\0=0/\0=0/\1=1/\0=0/\0=0/\c17=c17/\c18=c18/\c19=c19/\c20=c20/\1=1/\0=0/\0=0/\xCs=xCs/\xNs=xNs/\xOs=xOs/\xFs=xFs/\xLs=xLs/\xKs=xKs/\c3=c3/\c5=c5/\c7=c7/\c8=c8/\c22=c22/\c23=c23/\c25=c25/\c27=c27/\c29=c29/\c30=c30/\c32=c32/\c33=c33/\xCs=xCs/\xNs=xNs/\xOs=xOs/\c47=c47/\Dj c16=c15/\c16=c16/\xKs=xKs/\1=1/\0=0/\True/\1=1/\0=0/\1=1/\0=0/\(c48->1=1)/\(c48->c48->c48)/\(c48->1=1)/\(c48->0=0)/\(c48->c48->c48)/\(c48->c48->c48)/\(c48->c48->c48)/\(c48->c48->c48)/\(c48->mild c7)/\(Dk true c48->c48)/\(c51->1=1)/\(c51->c51->c51)/\(c51->1=1)/\(c51->0=0)/\(c51->c51->c51)/\(c51->c51->c51)/\(c51->c51->c51)/\(c51->c51->c51)/\(c51->c51->c51)/\(c51->uP c8)/\(Dk true c51->c51)/\(c53->1=1)/\(c53->c53->c53)/\(c53->1=1)/\(c53->0=0)/\(c53->c53->c53)/\(c53->c53->c53)/\(c53->kj c22)/\(Dk true c53->c53)/\(c54->1=1)/\(c54->c54->c54)/\(c54->1=1)/\(c54->0=0)/\(c54->1=1)/\(c54->c54->c54)/\(c54->1=1)/\(c54->0=0)/\(c54->c54->c54)/\(c54->In.PT c22)/\(c54->c54->c54)/\(c54->c54->c54)/\(Dk true c54->c54)/\(c55->c55->c55)/\(c55->c55->c55)/\(c55->kj c18)/\(Dk true c55->c55)/\(c56->c56->c56)/\(c56->c56->c56)/\(c56->kj c19)/\(Dk true c56->c56)/\(c57->c57->c57)/\(Dk true c57->c57)/\(c58->c58->c58)/\(Dk true c58->c58)/\(c59->1=1)/\(c59->0=0)/\(c59->1=1)/\(c59->0=0)/\(c59->c59->c59)/\(c59->c59->c59)/\(c59->In.uH c22/\
 In.pA c1)/\(c59->c59->c59)/\(Dk true c59->c59)/\Eb c59 (Dy (In.dw c1 c22 c23) 0) false/\True)):
  evF {mkc KL5 with mb:=λt=>t==46} aFr 9 [] [] ⟨True,.dat .bool true,[]⟩:=oE hvc
def KL6: Kt:=kOr 9 (ay [] (λ_=>True) λ_=>.dat .bool true) KL5
theorem aAl(z:Int)(w:List Bool)(h:Li): af Tryz.prog G0 167 [cal z w h] [] ⟨True,.dat .bool (gR w h),[]⟩:=by
 refine ae (c:=mkc KC8) P2 aL hm (Ww z w h ⟨rfl,λ_=>?_⟩)
 simp only[qc,Dk,gR,Eh,Df]
 congr 1<;>congr 1<;>exact propext (by omega)
theorem aCC: al Tryz.prog G0 KL1:=aj (ag λ((z,w,h),_)=>aAl z w h) P2
theorem aDv(k:Int)(cs:LC)(ns os:LB)(fs:Lo)(ls:Ll)(ks:Lk): af Tryz.prog G0 168 [net cs ns os fs ls ks,.dat I k] [] ⟨l8 (cs,ns,os,fs,ls,ks)=true,.dat (.sl S) (aQ (cs,ns,os,fs,ls,ks) k),[]⟩:=by
 refine ae (c:=mkc KL1) aCC aL hm (gS k cs ns os fs ls ks ⟨rfl,λhp=>?_⟩)
 obtain⟨l1,l2,l3,l4,l5,l6⟩:=zk cs ns os fs ls ks hp;simp only[qc,qd,Dt,Dy,Dp,Df,Dc,Dj,Du,Ef];refine⟨λhk=>?_,λh1=>⟨λhk=>?_,λh2=>⟨λhk=>?_,λh3=>⟨λhk=>?_,λh4=>⟨λhk=>?_,λh5=>?_⟩⟩⟩⟩⟩
 .subst hk;have hl:(aQ (cs,ns,os,fs,ls,ks) 1).length=cs.length:=fJ cs ns;obtain⟨b1,b2⟩:=BE (n:=(cs,ns,os,fs,ls,ks)) (k:=1) (el:=λx=>ns.getD x.toNat ⟨#[]⟩) (R:=aQ (cs,ns,os,fs,ls,ks) 1) hl (by omega) (λx h0 h1=>uw h0 h1) rfl
  refine⟨b1,λx hx=>⟨λhlt=>⟨λhn=>⟨hx.1,hn,((b2 x hx).1 hlt).2.2⟩,λhn=>?_⟩,(b2 x hx).2⟩⟩
  have e:ns.getD x.toNat ⟨#[]⟩=⟨#[]⟩:=by rw[qA,zG (by have:=hx.1;omega)];rfl
  have:=((b2 x hx).1 hlt).2.2;simp only[e]at this;exact this
 .subst hk;exact BE (n:=(cs,ns,os,fs,ls,ks)) (k:=2) (m:=os.length) (el:=λx=>os.getD x.toNat ⟨#[]⟩) rfl (by omega) (λx _ _=>rfl) rfl
 .subst hk;exact BE (n:=(cs,ns,os,fs,ls,ks)) (k:=3) (m:=fs.length) (el:=λx=>(fs.getD x.toNat (⟨#[]⟩,0,0,0,0,0,[])).1) (map_length _ fs) (by omega) (λx h0 h1=>Jc _ h0 h1) rfl
 .subst hk;exact BE (n:=(cs,ns,os,fs,ls,ks)) (k:=4) (m:=ls.length) (el:=λx=>(ls.getD x.toNat (⟨#[]⟩,0,0,0,0,0)).1) (map_length _ ls) (by omega) (λx h0 h1=>Jc _ h0 h1) rfl
 .subst hk;exact BE (n:=(cs,ns,os,fs,ls,ks)) (k:=5) (m:=ks.length) (el:=λx=>(ks.getD x.toNat (⟨#[]⟩,0,0)).1) (map_length _ ks) (by omega) (λx h0 h1=>Jc _ h0 h1) rfl
 .unfold aQ;rw[if_neg h1,if_neg h2,if_neg h3,if_neg h4,if_neg h5]
theorem aDr(a b:Lj): af Tryz.prog G0 22 [.dat M a,.dat M b] [] ⟨mild a,.dat .bool (lq a b),[]⟩:=by
 refine ae (c:=mkc KL1) aCC aL hm (gL a b ⟨rfl,λ⟨hp,hp2⟩=>?_⟩)
 simp only[qc,qd,Ea,Dp,Df,Dc,Du];refine⟨λh=>x8 λe=>h (by rw[e]),λh=>⟨⟨qM _,vC _,by omega,hp,rfl⟩,λx ⟨g0,g1,g2,g3,g4⟩=>⟨λhlt=>⟨g0,hlt,g0,by omega,λhd=>x8 λe=>hd (by rw[e]),λhd=>?_⟩,λhge=>?_⟩⟩⟩
 .have hm2:=hp2 _ (getD_mem (l:=a) (i:=x.toNat) (d:=[]) (by omega))
  refine⟨⟨qM _,vC _,by omega,hm2,rfl⟩,λz ⟨f0,f1,f2,f3,f4⟩=>⟨g0,hlt,λhz=>⟨g0,hlt,f0,hz,g0,by omega,f0,by omega,λhd=>x8 λe=>hd (by rw[e]),λhe=>⟨⟨by omega,by omega⟩,z+1,⟨by omega,by omega,f2,f3,?_⟩,rfl,by omega⟩⟩,λhz=>⟨⟨by omega,by omega⟩,x+1,⟨by omega,by omega,g2,g3,?_⟩,rfl,by omega⟩⟩⟩
  .rw[show(z+1).toNat=z.toNat+1 by omega]
   exact gi f4 (by omega) (by omega) he
  .rw[show(x+1).toNat=x.toNat+1 by omega]
   refine gi (d:=[]) g4 (by omega) (by omega) ?_
   rw[qO (by omega),qO (by omega)]at f4
   exact f4
 .rw[qO (by omega),qO (by omega)]at g4
  subst g4;unfold lq;simp
theorem rJ{a b:Li}(h:a≠b): false=lr a b:=by unfold lr;exact(qAm.2 h).symm
theorem aDt(a b:Li): af Tryz.prog G0 35 [.dat R a,.dat R b] [] ⟨kj a,.dat .bool (lr a b),[]⟩:=by
 refine ae (c:=mkc KL1) aCC aL hm (gN a b ⟨rfl,λhp=>?_⟩)
 simp only[qc,qd,Ea,Dp,Df,Dc,Du];refine⟨λh=>rJ λe=>h (by rw[e]),λh=>⟨⟨qM _,vC _,by omega,hp,rfl⟩,λx ⟨g0,g1,g2,g3,g4⟩=>⟨λhlt=>⟨g0,hlt,g0,by omega,λhd=>rJ λe=>hd (by rw[e]),λhd=>⟨⟨by omega,by omega⟩,x+1,⟨by omega,by omega,g2,g3,?_⟩,rfl,by omega⟩⟩,λhge=>?_⟩⟩⟩
 .rw[show(x+1).toNat=x.toNat+1 by omega]
  exact gi g4 (by omega) (by omega) hd
 .rw[qO (by omega),qO (by omega)]at g4
  subst g4;unfold lr;simp
theorem aEp: al Tryz.prog G0 KL2:=aj (ag λ((cs,ns,os,fs,ls,ks),k,_)=>aDv k cs ns os fs ls ks)<|aj (ag λ(a,b,_)=>aDr a b)<|aj (ag λ(a,b,_)=>aDt a b) aCC
theorem aA7{n:Net}(q:l8 n=true)(k:Int): (aQ n k).length<=100:=by
 obtain⟨cs,ns,os,fs,ls,ks⟩:=n;obtain⟨l1,l2,l3,l4,l5,l6⟩:=zk cs ns os fs ls ks q;unfold aQ;split
 .exact wH (yA (fJ cs ns)) (by omega)
 split
 .show os.length<=100;omega
 split
 .exact wH (yA (map_length _ fs)) (by omega)
 split
 .exact wH (yA (map_length _ ls)) (by omega)
 split
 .exact wH (yA (map_length _ ks)) (by omega)
 .exact wY _
theorem aAm(cs:LC)(ns os:LB)(fs:Lo)(ls:Ll)(ks:Lk): af Tryz.prog G0 104 [net cs ns os fs ls ks] [] ⟨True,.dat .bool (Kp (cs,ns,os,fs,ls,ks)),[]⟩:=by
 refine ae (c:=mkc KL2) aEp aL hm (Wx cs ns os fs ls ks ⟨rfl,λhp=>?_⟩)
 simp only[qc,Dk,Di,qd,Dt,Dp,Ei,Eh,Df,Et,Dc,Du];refine⟨λh=>HT λg=>?_,λh=>?_⟩
 .obtain⟨l1,l2,l3,l4,l5,l6⟩:=zk cs ns os fs ls ks (mL.1 g).1;omega
 have hl:l8 (cs,ns,os,fs,ls,ks)=true:=qW (by show cs.length<=10/\ns.length<=10/\os.length<=10/\fs.length<=16/\ls.length<=50/\ks.length<=8;omega)
 refine⟨⟨qM _,vC _,by simp⟩,λx ⟨x0,x1,x2⟩=>⟨λhlt=>⟨x0,hlt,λhb=>HT λg=>?_,λhg=>⟨⟨by omega,by omega⟩,x+1,⟨by omega,by omega,?_⟩,rfl,by omega⟩⟩,λhge=>?_⟩⟩
 .have:=pU (l:=cs) (p:=λc=>gR c.2.1 c.2.2) (d:=(0,[],[])) (k:=x.toNat) (by omega) hb
  rw[(mL.1 g).2.1]at this;cases this
 .rw[show(x+1).toNat=x.toNat+1 by omega]
  exact ik (d:=(0,[],[])) x2 (by omega) hg
 have hcs:(cs.all λc=>gR c.2.1 c.2.2)=true:=by rwa [qO (by omega)]at x2
 refine⟨⟨qM _,vC _,by simp⟩,λz ⟨z0,z1,z2⟩=>⟨λhlt=>⟨z0,hlt,λhb=>HT λg=>?_,λhg=>⟨⟨by omega,by omega⟩,z+1,⟨by omega,by omega,?_⟩,rfl,by omega⟩⟩,λhge=>?_⟩⟩
 .have:=pU (l:=fs) (p:=λo=>decide (o.2.2.2.2.2.2.length<=30)) (d:=(⟨#[]⟩,0,0,0,0,0,[])) (k:=z.toNat) (by omega) (vK (by omega))
  rw[(mL.1 g).2.2.1]at this;cases this
 .rw[show(z+1).toNat=z.toNat+1 by omega]
  exact ik (d:=(⟨#[]⟩,0,0,0,0,0,[])) z2 (by omega) (qW (by omega))
 have hfs:(fs.all λo=>decide (o.2.2.2.2.2.2.length<=30))=true:=by rwa [qO (by omega)]at z2
 refine⟨⟨qM _,by decide,λj h1 h2=>by omega⟩,λk ⟨k0,k1,k2⟩=>⟨λhk=>?_,λhk=>?_⟩⟩
 .have hlen:(aQ (cs,ns,os,fs,ls,ks) k).length<=100:=aA7 hl k;refine⟨hl,⟨qM _,vC _,by simp[mZ]⟩,λi ⟨i0,i1,i2⟩=>⟨λhlt=>⟨i0,hlt,λhb=>HT λg=>?_,λhg=>⟨⟨by omega,by omega⟩,i+1,⟨by omega,by omega,?_⟩,rfl,by omega⟩⟩,λhge=>⟨⟨by omega,by omega⟩,k+1,⟨by omega,by omega,λj h1 h2=>?_⟩,rfl,by omega⟩⟩⟩
  .have:=pU (l:=aQ (cs,ns,os,fs,ls,ks) k) (p:=λs=>decide (s.size<=40)) (d:=⟨#[]⟩) (k:=i.toNat) (by omega) (vK (by omega))
   have h2:=(mL.1 g).2.2.2 k k0 (by omega)
   unfold mZ at h2;rw[h2]at this;cases this
  .rw[show(i+1).toNat=i.toNat+1 by omega]
   exact ik (d:=⟨#[]⟩) i2 (by omega) (qW (by omega))
  .by_cases e:j=k
   .subst e
    rwa [qO (by omega)]at i2
   .exact k2 j h1 (by omega)
 .exact(mL.2 ⟨hl,hcs,hfs,λj h1 h2=>k2 j h1 (by omega)⟩).symm
theorem G4{a b:List (Lj)}(h:a≠b): false=mT a b:=by unfold mT;exact(qAm.2 h).symm
theorem sA{a b:Lj}: lq a b=true↔a=b:=xU
theorem aDq(a b:List (Lj)): af Tryz.prog G0 24 [.dat (.sl M) a,.dat (.sl M) b] [] ⟨uP a,.dat .bool (mT a b),[]⟩:=by
 refine ae (c:=mkc KL2) aEp aL hm (gH a b ⟨rfl,λhp=>?_⟩)
 simp only[qc,Di,qd,Dt,Ea,Dp,Df,Dc,Du];obtain⟨hp1,hp2⟩:=hp;refine⟨λh=>G4 λe=>h (by rw[e]),λh=>⟨⟨qM _,vC _,by omega,rfl⟩,λx ⟨g0,g1,g2,g3⟩=>⟨λhlt=>⟨g0,hlt,g0,by omega,hp2 _ (getD_mem (by omega)),λhd=>G4 λe=>?_,λhd=>⟨aO (by omega),x+1,⟨by omega,by omega,g2,?_⟩,rfl,by omega⟩⟩,λhge=>?_⟩⟩⟩
 .rw[e,sA.2 rfl]at hd;cases hd
 .rw[show(x+1).toNat=x.toNat+1 by omega]
  exact gi g3 (by omega) (by omega) (sA.1 hd)
 .rw[qO (by omega),qO (by omega)]at g3
  subst g3;unfold mT;simp
theorem aE2: al Tryz.prog G0 KL3:=aj (ag λ((cs,ns,os,fs,ls,ks),_)=>aAm cs ns os fs ls ks)<|aj (ag λ(a,b,_)=>aDq a b) aEp
theorem Xq(nx:Lj)(cs:LC)(ns os:LB)(fs:Lo)(ls:Ll)(ks:Lk): af Tryz.prog G0 37 [net cs ns os fs ls ks,.dat M nx] [] ⟨True,.dat .bool (smF (cs,ns,os,fs,ls,ks) nx),[]⟩:=by
 refine ae (c:=mkc KL3) aE2 aL hm (QJ nx cs ns os fs ls ks ⟨rfl,λ_=>?_⟩)
 simp only[qc,Dk,Di,qd,Dp,Ei,Df,Dc,Du];have e:smF (cs,ns,os,fs,ls,ks) nx=((Kp (cs,ns,os,fs,ls,ks)&&decide ((fs.length:Int)<=6))&&(decide ((nx.length:Int)<=10)&&nx.all λr=>decide ((r.length:Int)<=10))):=rfl
 refine⟨λh=>?_,λ⟨⟨h1,h2⟩,h3⟩=>⟨⟨qM _,vC _,by omega,λi h=>by omega⟩,λx hx=>⟨λhlt=>⟨hx.1,hlt,λhb=>?_,λhb=>⟨aO (by have:=hx.1;omega),x+1,⟨by have:=hx.1;omega,by omega,hx.2.2.1,λi hi=>?_⟩,rfl,by have:=hx.1;omega⟩⟩,λhge=>?_⟩⟩⟩
 .rw[e];rcases h with(h | h) | h
  .rw[h];rfl
  .rw[vK (by omega),xX];rfl
  .rw[vK (p:=(nx.length:Int)<=10) (by omega),gB,xX]
 .rw[e];have:(nx.all λr=>decide ((r.length:Int)<=10))=false:=by
   refine qCx.2 ⟨nx.getD x.toNat [],?_,by simp only[qE];omega⟩
   rw[qA,qB (by have:=hx.1;omega),qR];exact wO _
  rw[this,xX,xX]
 .by_cases h:(i:Int)<x
  .exact hx.2.2.2 i h
  .have:i=x.toNat:=by have:=hx.1;omega
   rw[this];omega
 .rw[e,h1,qW (by omega),qW (p:=(nx.length:Int)<=10) (by omega)]
  refine(qL.2 λr hr=>?_).symm
  obtain⟨i,hi,rfl⟩:=wX.1 hr;have:=hx.2.2.2 i (by omega)
  rw[qA,qB hi,qR]at this;simp only[qE];omega
theorem aEo: al Tryz.prog G0 KL4:=aj (ag λ((cs,ns,os,fs,ls,ks),nx,_)=>Xq nx cs ns os fs ls ks) aE2
theorem Xp(a b:Int)(cs:LC)(ns os:LB)(fs:Lo)(ls:Ll)(ks:Lk): af Tryz.prog G0 10 [net cs ns os fs ls ks,.dat I a,.dat I b] [] ⟨True,.dat .bool (Zo (cs,ns,os,fs,ls,ks) a b),[]⟩:=by
 refine ae (c:={mkc KL4 with mb:=λt=>t==18||t==23}) aEo aL hm (QI a b cs ns os fs ls ks ⟨rfl,λ_=>?_⟩)
 simp only[qc,Dk,Di,qd,Dt,Ei,Eh,Df,Ew];rfl
theorem aDw: af Tryz.prog G0 34 [] [] ⟨True,.agg [.dat (.sl C) xCs,.dat (.sl S) xNs,.dat (.sl S) xOs,.dat (.sl Of) xFs,.dat (.sl Ln) xLs,.dat (.sl Kl) xKs],[]⟩:=by
 refine ae (c:=mkc KL4) aEo aL hm (gT ⟨rfl,λ_=>?_⟩)
 simp only[qc,Dt];exact⟨rfl,rfl,rfl,rfl,rfl,rfl⟩
theorem aE1: al Tryz.prog G0 KL5:=aj (ag λ((cs,ns,os,fs,ls,ks),a,b,_)=>Xp a b cs ns os fs ls ks)<|aj (ag λ_=>aDw)<|aj (ag λ((cs,ns,os,fs,ls,ks),a,b,_)=>LY wh a b cs ns os fs ls ks) <|
 aj (ag λ((cs,ns,os,fs,ls,ks),(p1,p2,nx,dy),o,_)=>RL wh o cs ns os fs ls ks p1 p2 nx dy)<|aj (ag λ((cs,ns,os,fs,ls,ks),c,_)=>TV (Go.Eng.In.XG c.2 c.1 cs ns os fs ls ks))<|aj (ag λ(l,_)=>TV (Go.Eng.In.D4 l)) aEo
noncomputable abbrev xN: Net:=(xCs,xNs,xOs,xFs,xLs,xKs)
abbrev xP: Plan:=(0,1,[[-1,0],[1,-1]],[[[0,0],[0,0]]])
abbrev xL: Li:=[0,1,2,1,0,1,2,0,1,1,1,1,2,2]
set_option maxHeartbeats 4000000 in
theorem RJ: af Tryz.prog G0 9 [] [] ⟨True,.dat .bool true,[]⟩:=by
 refine ae (c:={mkc KL5 with mb:=λt=>t==46}) aE1 aL hm (KV ?_)
 intro c1 c2 c3 c4 c5 c6 c7 c8 c9 c10 c11 c12 c13 c14 c15 c16 c17 c18 c19 c20 c21 c22 c23 c24 c25 c26 c27 c28 c29 c30 c31 c32 c33 c34 c35 c36 c37 c38 c39 c40 c41 c42 c43 c44 c45 c46 c47 c48 c49 c50 c51 c52 c53 c54 c55 c56 c57 c58 c59;have q2:c2=xP:=by decide +kernel
 have q7:c7=[[-1,0],[1,-1]]:=by show c2.2.2.1=_;rw[q2]
 have q8:c8=[[[0,0],[0,0]]]:=by show c2.2.2.2=_;rw[q2]
 have q9:c9=xP:=by show(c2.1,c2.2.1,c2.2.2.1,c2.2.2.2)=_;rw[q2]
 have q17:c17=0:=by decide +kernel
 have q18:c18=[-1,0]:=by show gsF xN c9 0=_;rw[q9];decide +kernel
 have q19:c19=[0,1]:=by show ofF xN c9 0=_;rw[q9];decide +kernel
 have q20:c20=1:=by decide +kernel
 have q21:c21=(xL,Go.Eng.In.fO xL):=by decide +kernel
 have q22:c22=xL:=by show c21.1=_;rw[q21]
 have q23:c23=Go.Eng.In.fO xL:=by show c21.2=_;rw[q21]
 have h5:rR (xCs,xNs,xOs,c47,c16,xKs) 0 1=140:=by
  show rR (xCs,xNs,xOs,yFs,yLs,xKs) 0 1=140
  decide +kernel
 have h8:Go.Eng.In.dw xN xL (Go.Eng.In.fO xL)=0:=by decide +kernel
 have e48:c48=true:=by show Dy c17 0=true;rw[q17];rfl
 have e51:c51=true:=by show Eb c48 (lq c7 [[-1,0],[1,-1]]) false=true;rw[e48,q7];rfl
 have e53:c53=true:=by show Eb c51 (mT c8 [[[0,0],[0,0]]]) false=true;rw[e51,q8];rfl
 have e54:c54=true:=by show Eb c53 (lr c22 xL) false=true;rw[e53,q22];rfl
 have e55:c55=true:=by show Eb c54 (Dy c23 (In.fO c22)) false=true;rw[e54,q22,q23];show decide (In.fO xL=In.fO xL)=true;exact qW rfl
 have e56:c56=true:=by show Eb c55 (lr c18 [-1,0]) false=true;rw[e55,q18];rfl
 have e57:c57=true:=by show Eb c56 (lr c19 [0,1]) false=true;rw[e56,q19];rfl
 have e58:c58=true:=by show Eb c57 (Dy c20 1) false=true;rw[e57,q20];rfl
 have e59:c59=true:=by show Eb c58 (Dy (rR (xCs,xNs,xOs,c47,c16,xKs) 0 1) 140) false=true;rw[e58,h5];rfl
 have e60:Eb c59 (Dy (In.dw c1 c22 c23) (0:Int)) false=true:=by
  show Eb c59 (Dy (In.dw xN c22 c23) (0:Int)) false=true;rw[e59,q22,q23,h8];rfl
 have m7:mild c7:=by rw[q7];unfold mild;decide
 have m8:uP c8:=by rw[q8];unfold uP mild;decide
 have m9:fq c9:=by rw[q9];unfold fq cz;decide
 have m22:kj c22:=by rw[q22];unfold kj;decide
 have s22:In.PT c22:=by rw[q22];unfold In.PT;decide
 have l22:In.uH c22/\In.pA c1:=⟨by rw[q22];unfold In.uH;decide,by show In.pA xN;unfold In.pA;decide⟩
 have m18:kj c18:=by rw[q18];unfold kj;decide
 have m19:kj c19:=by rw[q19];unfold kj;decide
 have k10:Dn (0:Int) c10/\Dn (1:Int) c10:=by constructor<;>decide
 have k11:Dz (Em c11 (56)) (140737488355328)/\Dz c11 (9223372036854775807):=by constructor<;>decide
 have k15:Dz (Em c15 (56)) (140737488355328)/\Dz c15 (9223372036854775807):=by constructor<;>decide
 have k16:Dj c12=c11/\Dj c16=c15:=⟨rfl,rfl⟩;clear_value c59 c58 c57 c56 c55 c54 c53 c51 c48 c31 c24 c23 c22 c21 c20 c19 c18 c17 c9 c8 c7 c2;subst e48 e51 e53 e54 e55 e56 e57 e58 e59;refine⟨rfl,λ_=>?_⟩
 generalize fq c9=F9 at m9 ⊢
 and_intros
 all_goals first
  | with_reducible exact trivial
  | with_reducible rfl
  | with_reducible exact e60
  | with_reducible exact m9
  | with_reducible exact λ_=>m7
  | with_reducible exact λ_=>m8
  | with_reducible exact λ_=>m22
  | with_reducible exact λ_=>s22
  | with_reducible exact λ_=>l22
  | with_reducible exact λ_=>m18
  | with_reducible exact λ_=>m19
  | with_reducible exact k10.1
  | with_reducible exact k10.2
  | with_reducible exact k11.1
  | with_reducible exact k11.2
  | with_reducible exact k15.1
  | with_reducible exact k15.2
  | with_reducible exact k16.1
  | with_reducible exact k16.2
  | with_reducible exact λ_=>rfl
  | with_reducible exact λh _=>h
  | with_reducible exact λh=>h
  | decide
  | rfl
theorem aEn: al Tryz.prog G0 KL6:=aj (ag λ_=>RJ) aE1
end Go.Eng.Sv
set_option maxRecDepth 100000
namespace Go.Eng.Sv
open Go.Proofs
open Go.Eng.Mp (aK cq qf bz upto at2 oL jq jr xx)
open Go.Eng.Mp (W PW UT)
theorem CU{n:Net}{f t:Int}(hc:rR n f t=0): (0<=f/\f<t/\t<=600/\t-f<=60)/\bn n=true/\nN n (gv n f t).2.2.1=true/\(gv n f t).2.2.2=IM n (gv n f t).2.2.1 f t/\nY n (p1F n f t)=0/\wrE n (p2F n f t)=0/\gv n f t=p2F n f t:=by
 have e:gv n f t=p2F n f t:=if_pos hc;unfold rR at hc;split at hc
 .rename_i h;exact absurd hc h
 .rename_i h;have h:H7 n (p0F f t)=0:=qBy.1 h;obtain⟨h1,h2,h3,h4⟩:=CV h;split at hc
  .rename_i g;exact absurd hc g
  .rename_i g;rw[e];exact⟨h1,h2,h4,rfl,qBy.1 g,hc,rfl⟩
theorem VX{n:Net}{p:Plan}(h:wrE n p=0): bn n=true/\fW n p=true:=by
 unfold wrE at h;split at h
 .assumption
 .cases h
theorem Ux{n:Net}{f t:Int}(hc:rR n f t=0): ix n (1440*f) (1440*t)=true/\(gv n f t).2.2.1=Yh n (fH n (1440*f) (1440*t))/\fW n (gv n f t)=true/\fq (gv n f t):=by
 obtain⟨hr,hs,ht,hD,_,hw,e⟩:=CU hc;have hu:ix n (1440*f) (1440*t)=true:=by
  unfold ix;rw[qC];exact⟨sQ.2 (by omega),hs⟩
 refine⟨hu,?_,?_,xu hs ht,by rw[hD];exact GR hs⟩
 .rw[e];exact if_pos hu
 .rw[e];exact(VX hw).2
theorem OJ{α:Type}{p q:α->Bool}: ∀{l:List α},(∀x∈l,p x=true->q x=true)->(∃x∈l,q x=true/\p x=false)->l.countP p+1<=l.countP q
 | [],_,h=>by obtain⟨x,hx,_⟩:=h;cases hx
 | y::l,h1,h2=>by
  have hle:l.countP p<=l.countP q:=List.countP_mono_left λx hx=>h1 x (wM _ hx)
  rw[List.countP_cons,List.countP_cons];obtain⟨x,hx,g1,g2⟩:=h2;rcases zA.1 hx with rfl | hx
  .rw[if_pos g1,if_neg (by rw[g2];decide)];omega
  .have ih:=OJ (λx hx=>h1 x (wM _ hx)) ⟨x,hx,g1,g2⟩
   have:=h1 y vS;by_cases hy:p y=true
   .rw[if_pos hy,if_pos (this hy)];omega
   .rw[if_neg hy];omega
structure aFK (n:Net) (p:Plan) (o:Int):Prop where
 gs:gsF n p o=-1::Am p o
 len:((ofF n p o).length:Int)=n.2.2.2.1.length
 at_:∀i:Int,0<=i->i<n.2.2.2.1.length->(ofF n p o).getD i.toNat 0=DJ p o i
 self:DJ p o o=0
 none_:∀i:Int,0<=i->i<n.2.2.2.1.length->i≠o->nxt p.2.2.1 o i=-1->DJ p o i=-1
 some_:∀i:Int,0<=i->i<n.2.2.2.1.length->i≠o->nxt p.2.2.1 o i≠-1->1<=DJ p o i/\DJ p o i<(gsF n p o).length/\(gsF n p o).getD (DJ p o i).toNat 0=nxt p.2.2.1 o i/\0<=nxt p.2.2.1 o i/\nxt p.2.2.1 o i<n.2.2.2.2.1.length/\b9 n (nxt p.2.2.1 o i)=o
 small:(gsF n p o).length<=n.2.2.2.1.length+1
 lines:∀j:Int,1<=j->j<(gsF n p o).length->0<=(gsF n p o).getD j.toNat 0/\(gsF n p o).getD j.toNat 0<n.2.2.2.2.1.length/\b9 n ((gsF n p o).getD j.toNat 0)=o/\(gsF n p o).getD (j-1).toNat 0<(gsF n p o).getD j.toNat 0/\∃i:Int,0<=i/\i<n.2.2.2.1.length/\DJ p o i=j
end Go.Eng.Sv
set_option maxRecDepth 100000
noncomputable section
namespace Go.Eng.Sv
open Go.Proofs
def m3(a b:Li)(s u:Int): Bool:=decide (s=u)&&lr a b
def sB(p q:Plan): Bool:=decide (p.1=q.1)&&decide (p.2.1=q.2.1)&&lq p.2.2.1 q.2.2.1&&mT p.2.2.2 q.2.2.2
def BI(p:Plan): Prop:=mild p.2.2.1/\uP p.2.2.2
theorem gO(a b:Li)(s u:Int)(hvc:
 let c9:=Ea s u;let c8:=Di c9->Di c9->Di c9;let c1:=Eb c9 true (Ea (Df a) (Df b));let c2:=m3 a b s u;let c3:=(a,s);let c4:=(b,u);true/\(kj a->c8/\c8/\c8/\c8/\c8/\c8/\(Dk true (Di c9)->Di c9)/\(c1->false=c2/\True)/\(c1=false->(∃x,nu a b x/\c3=c3/\c4=c4/\0=x/\True)/\∀(x:Int),let c5:=Dp x (Df a);let c6:=Ea (Du a (Dc x) 0) (Du b (Dc x) 0);let c7:=x+1;nu a b x->(c5->0<=x/\x<Df a/\0<=x/\x<Df b/\(c6->false=c2/\True)/\(c6=false->inR .i64 c7/\∃y,nu a b y/\(c3=c3/\c4=c4/\c7=y/\True)/\Dc (Df a-y)<Dc (Df a-x)))/\(c5=false->true=c2/\True)))):
  evF (mkc KL6) (lvA [(4,[2,3,4,5])] (Vf a b)) 25 [.agg [.dat R a,.dat I s],.agg [.dat R b,.dat I u]] [] ⟨kj a,.dat .bool (m3 a b s u),[]⟩:=oE hvc
theorem gM(p1 p2 q1 q2:Int)(p3 q3:Lj)(p4 q4:List (Lj))(hvc:
 let c4:=Dy p1 q1->Dy p1 q1->Dy p1 q1;let c1:=(p1,p2,p3,p4);let c2:=Eb (Dy p1 q1) (Dy p2 q2) false;let c5:=c2->c2->c2;let c3:=Eb c2 (lq p3 q3) false;let c6:=c3->c3->c3;true/\(BI c1->c4/\c4/\c4/\c4/\(Dk true (Dy p1 q1)->Dy p1 q1)/\c5/\c5/\c5/\c5/\(c2->mild p3)/\(Dk true c2->c2)/\c6/\c6/\c6/\c6/\(c3->uP p4)/\(Dk true c3->c3)/\Eb c3 (mT p4 q4) false=sB c1 (q1,q2,q3,q4)/\True)):
  evF (mkc KL6) aA 27 [.agg [.dat I p1,.dat I p2,.dat M p3,.dat (.sl M) p4],.agg [.dat I q1,.dat I q2,.dat M q3,.dat (.sl M) q4]] [] ⟨BI (p1,p2,p3,p4),.dat .bool (sB (p1,p2,p3,p4) (q1,q2,q3,q4)),[]⟩:=oE hvc
def KLP: Kt:=kOr 25 (ay [.row (.pair R I),.row (.pair R I)] (λ(a,_,_)=>kj a.1) λ(a,b,_)=>.dat .bool (m3 a.1 b.1 a.2 b.2)) <|
 kOr 27 (ay [.row Pl,.row Pl] (λ(p,_,_)=>BI p) λ(p,q,_)=>.dat .bool (sB p q)) <|
 kOr 21 (ay [.row (.pair R I)] (λ(c,_)=>Go.Eng.In.uH c.1) λ(c,_)=>.tup [.agg [.dat I (Go.Eng.In.lv c).1,.dat I (Go.Eng.In.lv c).2.1,.dat M (Go.Eng.In.lv c).2.2.1,.dat (.sl M) (Go.Eng.In.lv c).2.2.2],.dat I (Go.Eng.In.ym c)]) KL6
theorem WA(f t:Int)(cs:LC)(ns os:LB)(fs:Lo)(ls:Ll)(ks:Lk)(hvc:
 let c18:=Dk true true->true;let c16:=true->0=0;let c8:=true->1=1;let c5:=true->true->true;let c1:=(cs,ns,os,fs,ls,ks);let c2:=Di (Zo c1 f t);let c3:=Ea (rR c1 f t) 0;let c4:=gv c1 f t;let c9:=Df c4.2.2.1+Df c4.2.2.2;let c10:=DL c1 f t;let c12:=c9+Df c10.1;let c13:=Eb true (Dy c12 0) false;let c15:=Eb c13 (Dy c4.2.1 0) false;let c19:=Eb true (Dy c4.1 f) false;let c11:=c19->c19->c19;let c20:=Eb c19 (Dy c4.2.1 t) false;let c6:=c20->c20->c20;let c21:=1440*f;let c22:=1440*t;let c23:=Eb c20 (lq c4.2.2.1 (jw c1 c21 c22)) false;let c17:=c23->1=1;let c7:=c23->c23->c23;let c24:=Eb c23 (mT c4.2.2.2 (IM c1 c4.2.2.1 f t)) false;let c25:=Eb c24 (Dy (wrE c1 c4) 0) false;let c26:=Eb c25 (m3 c10.1 (wrN c1 c4) c10.2 (wrS c1 c4)) false;let c14:=c26->c26->c26;let c27:=Eb c26 (Dy (In.dw c1 c10.1 c10.2) 0) false;let c29:=Eb c27 (Dy (In.ym c10) 0) false;
 true/\(True->True/\True/\(c2->true/\True)/\(c2=false->True/\1=1/\0=0/\1=1/\0=0/\(c3->c8/\c5/\c8/\c16/\c5/\c8/\c5/\c8/\c16/\c5/\c5/\c5/\(true->inR .i64 c9)/\c8/\c5/\c8/\c16/\c5/\c5/\c5/\(true->inR .i64 c12)/\c5/\c18/\(c13->1=1)/\(c13->c13->c13)/\(c13->1=1)/\(c13->0=0)/\(c13->c13->c13)/\(Dk true c13->c13)/\(c15->1=1)/\(c15->c15->c15)/\(c15->1=1)/\(c15->0=0)/\(c15->c15->c15)/\(Dk true c15->c15)/\Eb c15 (Dy c10.2 0) false/\True)/\(c3=false->1=1/\0=0/\fq c4/\1=1/\0=0/\1=1/\0=0/\In.uH c10.1/\1=1/\0=0/\c8/\c5/\c8/\c16/\c5/\c5/\c18/\(c19->1=1)/\c11/\(c19->1=1)/\(c19->0=0)/\c11/\c11/\(Dk true c19->c19)/\(c20->1=1)/\c6/\(c20->1=1)/\(c20->0=0)/\c6/\(c20->inR .i64 c21)/\c6/\(c20->inR .i64 c22)/\c6/\c6/\c6/\(c20->True)/\c6/\c6/\(c20->mild c4.2.2.1)/\(Dk true c20->c20)/\c17/\c7/\c17/\(c23->0=0)/\c17/\c7/\c17/\(c23->0=0)/\c7/\c7/\c7/\c7/\(c23->cz c4.2.2.1)/\c7/\c7/\(c23->uP c4.2.2.2)/\(Dk true c23->c23)/\(c24->c24->c24)/\(Dk true c24->c24)/\(c25->1=1)/\(c25->0=0)/\(c25->1=1)/\(c25->0=0)/\(c25->c25->c25)/\(c25->c25->c25)/\(c25->kj c10.1)/\(Dk true c25->c25)/\(c26->1=1)/\(c26->0=0)/\c14/\c14/\(c26->In.uH c10.1/\In.pA c1)/\c14/\(Dk true c26->c26)/\(c27->c27->c27)/\(Dk true c27->c27)/\(c29->1=1)/\(c29->0=0)/\(c29->1=1)/\(c29->0=0)/\(c29->c29->c29)/\(c29->c29->c29)/\(c29->BI c4)/\(Dk true c29->c29)/\Eb c29 (sB c4 (In.lv c10)) false/\True)))):
  evF (mkc KLP) aA 6 [net cs ns os fs ls ks,.dat I f,.dat I t] [] ⟨True,.dat .bool true,[]⟩:=oE hvc
theorem Y8{n:Net}{l:Li}(h:Go.Eng.In.Acc n l): Go.Eng.In.lv (l,Go.Eng.In.fO l)=Go.Eng.In.aw l/\Go.Eng.In.ym (l,Go.Eng.In.fO l)=0:=by
 have:Go.Eng.In.fi (l,Go.Eng.In.fO l)=true:=by
  unfold Go.Eng.In.fi;rw[show Go.Eng.In.cw (l,Go.Eng.In.fO l).1 (l,Go.Eng.In.fO l).2=true from Go.Eng.In.vr h.ins,show Go.Eng.In.mD (l,Go.Eng.In.fO l).1=true from h.pl];rfl
 unfold Go.Eng.In.lv Go.Eng.In.ym;rw[if_pos this,if_pos this];exact⟨rfl,rfl⟩
theorem aDu(a b:Li)(s u:Int): af Tryz.prog G0 25 [.agg [.dat R a,.dat I s],.agg [.dat R b,.dat I u]] [] ⟨kj a,.dat .bool (m3 a b s u),[]⟩:=by
 refine ae (c:=mkc KL6) aEn aL hm (gO a b s u ⟨rfl,λhp=>?_⟩)
 simp only[qc,Dk,Di,qd,Ea,Dp,Df,Dc,Du];refine⟨λh=>?_,λ⟨h1,h2⟩=>⟨⟨qM _,vC _,by omega,hp,rfl⟩,λx ⟨g0,g1,g2,g3,g4⟩=>⟨λhlt=>⟨g0,hlt,g0,by omega,λhd=>?_,λhd=>⟨aO (by omega),x+1,⟨by omega,by omega,g2,g3,?_⟩,rfl,by omega⟩⟩,λhge=>?_⟩⟩⟩
 .unfold m3;rcases h with h | h
  .rw[vK h];rfl
  .rw[<- rJ (a:=a) (b:=b) λe=>h (by rw[e]),xX]
 .unfold m3;rw[<- rJ (a:=a) (b:=b) λe=>hd (by rw[e]),xX]
 .rw[show(x+1).toNat=x.toNat+1 by omega]
  exact gi g4 (by omega) (by omega) hd
 .rw[qO (by omega),qO (by omega)]at g4
  subst g4;unfold m3 lr;rw[qW h1];simp
theorem aDs(p q:Plan): af Tryz.prog G0 27 [.agg [.dat I p.1,.dat I p.2.1,.dat M p.2.2.1,.dat (.sl M) p.2.2.2],.agg [.dat I q.1,.dat I q.2.1,.dat M q.2.2.1,.dat (.sl M) q.2.2.2]] [] ⟨BI p,.dat .bool (sB p q),[]⟩:=by
 refine ae (c:=mkc KL6) aEn aL hm (gM p.1 p.2.1 q.1 q.2.1 p.2.2.1 q.2.2.1 p.2.2.2 q.2.2.2 ⟨rfl,λhp=>?_⟩)
 simp only[qc,Dk,qd,Dy];exact⟨λ_=>hp.1,λ_=>hp.2,rfl⟩
theorem aFF: al Tryz.prog G0 KLP:=aj (ag λ(a,b,_)=>aDu a.1 b.1 a.2 b.2)<|aj (ag λ(p,q,_)=>aDs p q)<|aj (ag λ(c,_)=>TV (Go.Eng.In.aAA c.2 c.1)) aEn
theorem aAo(f t:Int)(cs:LC)(ns os:LB)(fs:Lo)(ls:Ll)(ks:Lk): af Tryz.prog G0 6 [net cs ns os fs ls ks,.dat I f,.dat I t] [] ⟨True,.dat .bool true,[]⟩:=by
 refine ae (c:=mkc KLP) aFF aL hm (WA f t cs ns os fs ls ks ⟨rfl,λhp=>?_⟩)
 obtain⟨n,hn⟩:∃n:Net,n=(cs,ns,os,fs,ls,ks):=⟨_,rfl⟩;simp only[<- hn];have eP:∀p:Plan,(p.1,p.2.1,p.2.2.1,p.2.2.2)=p:=λ_=>rfl
 simp only[qc,Dk,Di,qd,Dy,Ea,Df];intro hsm;refine⟨λhne=>?_,λhc=>?_⟩
 .have e1:gv n f t=(0,0,[],[]):=if_neg hne;have e2:DL n f t=([],0):=if_neg hne;rw[e1,e2];exact⟨aO ⟨by decide,by decide⟩,aO ⟨by decide,by decide⟩,⟨by decide,rfl⟩,rfl⟩
 .obtain⟨hr,hs,ht,hD,_,hw,e⟩:=CU hc;obtain⟨hu,hnx,hform,hfit⟩:=Ux hc;have eC:DL n f t=(wrN n (gv n f t),wrS n (gv n f t)):=by rw[e];exact if_pos hc
  have hw:wrE n (gv n f t)=0:=by rw[e];exact hw
  have eN:wrN n (gv n f t)=g9 n (gv n f t):=if_pos hw;have eS:wrS n (gv n f t)=Go.Eng.In.fO (g9 n (gv n f t)):=if_pos hw;obtain⟨ac,eP2⟩:=Go.Eng.In.Pv hw;obtain⟨eR,eO⟩:=Y8 ac;have ll:Go.Eng.In.uH (g9 n (gv n f t)):=Go.Eng.In.Yo (by have:=ac.len;omega)
  have hml:kj (g9 n (gv n f t)):=by have:=ac.len;show _<=1000000;omega
  have e1:(gv n f t).1=f:=by rw[e];rfl
  have e2:(gv n f t).2.1=t:=by rw[e];rfl
  have e3:jw n (1440*f) (1440*t)=(gv n f t).2.2.1:=by rw[hnx];exact if_pos hu
  have hnet:Go.Eng.In.pA n:=by
   unfold Zo smF at hsm;simp only[qC,qE]at hsm;have h4:=(mL.1 hsm.1.1.1.1).1;unfold l8 at h4;rw[qE]at h4;exact⟨⟨⟨by omega,by omega⟩,by omega⟩,by omega⟩
  have hchk:=Go.Eng.In.Y7.2 ac;rw[eC,eN,eS,e3,<- hD,e1,e2];simp only[eR,eP2,eO,hchk,hw];have s1:lq (gv n f t).2.2.1 (gv n f t).2.2.1=true:=sA.2 rfl;have s2:mT (gv n f t).2.2.2 (gv n f t).2.2.2=true:=by unfold mT;simp
  have s3:m3 (g9 n (gv n f t)) (g9 n (gv n f t)) (Go.Eng.In.fO (g9 n (gv n f t))) (Go.Eng.In.fO (g9 n (gv n f t)))=true:=by unfold m3 lr;simp
  have s4:sB (gv n f t) (gv n f t)=true:=by unfold sB;rw[s1,s2];simp
  refine⟨hfit,ll,λ_=>aO (by omega),λ_=>aO (by omega),λ_=>hfit.1,λ_=>hfit.1,λ_=>hfit.2,λ_=>hml,λ_=>⟨ll,hnet⟩,λ_=>hfit,?_⟩
  simp only[s1,s2,s3,s4,and_self]
end Go.Eng.Sv
namespace Go.Eng
open Go.RowKit Go.ChangeShapes
theorem yl{H:Type}{enc:TypeId×Value->H}{P:Program}{f:Func}{s:ChangeSpec}{apart fresh handsOn again:Bool}{W W':World}{args:Array Value}{v:Value}{ds gs:List (DataW H)}{before pa pv:List MemPlace}
  (hW:DataW.Whole enc P f.params.toList s.vars apart W args.toList ds gs before) (hb:Below W.heap.size W W')
  (hres:∀(b:Nat) (sp:Nat->Bool) (hd:Bool),DataW.TrodAll enc P W' b sp hd f.resultTypes.toList (v.resultList f.resultTypes.size) (s.fn H (ds++gs)).results [])
  (hargs:∀sp:Nat->Bool,(∀p∈before,sp p.block=true)->DataW.TrodAll enc P W' 0 sp true f.params.toList args.toList (s.fn H (ds++gs)).args pa)
  (hvars:∀sp:Nat->Bool,(∀p∈before,sp p.block=true)->DataW.TrodVars enc P W' sp s.vars (s.fn H (ds++gs)).vars pv)
  (hps:before=pa++pv)
  (hok:∀(j:Nat) (t:TypeId) (r:Value),f.resultTypes[j]?=some t->(v.resultList f.resultTypes.size)[j]?=some r->Value.okWide P W' .any 0 t r):
  s.post enc P f apart fresh handsOn again W args v W':=by
 have hlt:∀p∈before,p.block<W.heap.size:=λp hp=>hW.lt p hp
 have hold:∀p∈before,(λb=>decide (b<W.heap.size)) p.block=true:=λp hp=>by simpa using hlt p hp
 refine⟨ds,gs,before,[],pa,pv,hW,hres _ _ _,hargs _ hold,hvars _ hold,hb.frame _,λ_=>?_⟩
 obtain⟨_,_,_,_,_,hz,hn⟩:=hW;refine⟨hok,_,_,([]++pa)++pv,⟨[]++pa,pv,trodAll_append (hargs _ (λ_ _=>rfl)) (hres _ _ _),hvars _ (λ_ _=>rfl),rfl,?_,?_⟩,?_⟩
 .intro b off hp;have hp':MemPlace.cell b off∈before:=by rw[hps];simpa using hp
  rw[hb.frozen (hlt _ hp')];exact hz b off hp'
 .intro ha;have:=hn ha;rw[hps]at this;simpa using this
 .intro p hp _;rw[hps];simpa using hp
end Go.Eng
namespace Go.Eng
open Go.RowKit Go.ChangeShapes
def okT: (t:Ty)->t.den->Prop
 | .int k,x=>inR k x
 | .bool,_=>True
 | .str,s=>s.size<=9223372036854775807
 | .sl e,xs=>List.length xs<=9223372036854775807/\∀x∈(xs:List e.den),okT e x
 | .pair a b,x=>okT a x.1/\okT b x.2
def jL: (t:Ty)->t.den->Nat
 | .int _,_=>1
 | .bool,_=>1
 | .str,s=>s.size+1
 | .sl e,xs=>((xs:List e.den).map λx=>jL e x).sum+1
 | .pair a b,x=>jL a x.1+jL b x.2
mutual
def pQ{H:Type}: DataW H->Nat
 | .lit (.string bytes)=>bytes.length+1
 | .slice elems _=>lk elems+1
 | .agg parts=>lk parts+1
 | _=>1
def lk{H:Type}: List (DataW H)->Nat
 | []=>0
 | d::r=>pQ d+lk r
end
theorem By{H:Type}(d:DataW H): 1<=pQ d:=by
 cases d with
 | lit l=>cases l<;>simp[pQ]
 | _=>simp[pQ]
def I1: (a c:Ty)->a.den->c.den->(lK a c).den
 | .pair _ b,c,x,y=>(x.1,I1 b c x.2 y)
 | .int _,_,x,y=>(x,y)
 | .bool,_,x,y=>(x,y)
 | .str,_,x,y=>(x,y)
 | .sl _,_,x,y=>(x,y)
theorem Be: ∀(a c:Ty),(lK a c).sz=a.sz+c.sz
 | .pair a b,c=>by simp only[lK,Ty.sz,Be b c];omega
 | .int _,_ | .bool,_ | .str,_ | .sl _,_=>by simp[lK,Ty.sz]
theorem Bc{w:World}{D:Nat->Prop}: ∀{a c:Ty} {x:a.den} {y:c.den} {us vs:Lv},ai w D a x us->ai w D c y vs->ai w D (lK a c) (I1 a c x y) (us++vs)
 | .pair a b,c,x,y,us,vs,h1,h2=>by
  obtain⟨u1,u2,e,g1,g2⟩:=h1;subst e;exact⟨u1,u2++vs,by simp,g1,Bc g2 h2⟩
 | .int _,_,_,_,us,vs,h1,h2=>⟨us,vs,rfl,h1,h2⟩
 | .bool,_,_,_,us,vs,h1,h2=>⟨us,vs,rfl,h1,h2⟩
 | .str,_,_,_,us,vs,h1,h2=>⟨us,vs,rfl,h1,h2⟩
 | .sl _,_,_,_,us,vs,h1,h2=>⟨us,vs,rfl,h1,h2⟩
theorem G9: ∀{a c:Ty} {x:a.den} {y:c.den},okT a x->okT c y->okT (lK a c) (I1 a c x y)
 | .pair _ _,_,_,_,h1,h2=>⟨h1.1,G9 h1.2 h2⟩
 | .int _,_,_,_,h1,h2=>⟨h1,h2⟩
 | .bool,_,_,_,h1,h2=>⟨h1,h2⟩
 | .str,_,_,_,h1,h2=>⟨h1,h2⟩
 | .sl _,_,_,_,h1,h2=>⟨h1,h2⟩
theorem vB: ∀{a c:Ty} {x:a.den} {y:c.den},jL (lK a c) (I1 a c x y)=jL a x+jL c y
 | .pair a b,c,x,y=>by
  show jL a x.1+jL (lK b c) (I1 b c x.2 y)=jL a x.1+jL b x.2+jL c y;rw[vB];omega
 | .int _,_,_,_=>rfl
 | .bool,_,_,_=>rfl
 | .str,_,_,_=>rfl
 | .sl _,_,_,_=>rfl
def fieldsB(P:Program)(T:TypeId->Option Ty): Nat->List Field->Option Ty
 | _,[]=>none
 | off,f::r=>if f.offset=off then match T f.type with
  | some a=>if P.cellsOf f.type=a.sz then match r with
   | []=>some a
   | g::r'=>match fieldsB P T (off+a.sz) (g::r')with
    | some c=>some (lK a c)
    | none=>none
   else none
  | none=>none
  else none
def tyB(P:Program): Nat->TypeId->Option Ty
 | 0,_=>none
 | n+1,t=>match P.underlying t with
  | some (.int k)=>some (.int k)
  | some .bool=>some .bool
  | some .string=>some .str
  | some (.slice e)=>match tyB P n e with
   | some ty=>if P.cellsOf e=ty.sz then some (.sl ty)else none
   | none=>none
  | some (.struct fs)=>match fieldsB P (tyB P n) 0 fs.toList with
   | some ty=>if P.cellsOf t=ty.sz then some ty else none
   | none=>none
  | _=>none
abbrev Nr(w:World): Nat->Prop:=λb=>b<w.heap.size
theorem aBh{k:IntKind}{n:Int}(h:(Lit.int k n).wf=true): inR k n:=by
 simp only[Lit.wf,qC,qE]at h;cases k<;>simpa[IntKind.min,IntKind.max,IntKind.signed,IntKind.bits,inR]using h
section
variable {H:Type} {enc:TypeId×Value->H} {P:Program} {w:World}
def Opened(w:World)(ty:Ty)(cs:Lv)(n:Nat): Prop:=∃d:ty.den,ai w (Nr w) ty d cs/\okT ty d/\jL ty d<=n
theorem s5{T:TypeId->Option Ty}{n:Nat}{cs:Lv}
  (hT:∀t ty,T t=some ty->∀cs x,DataW.trod enc P w 0 (λ_=>true) true n t cs=some x->Opened w ty cs (pQ x.1)):
  ∀(fs:List Field) (off:Nat) (ty:Ty) (xs:List (DataW H×List MemPlace)),fieldsB P T off fs=some ty->xs.length=fs.length->
   (∀(i:Nat) (f:Field),fs[i]?=some f->DataW.trod enc P w 0 (λ_=>true) true n f.type ((cs.drop f.offset).take (P.cellsOf f.type))=xs[i]?)->
   cs.length=off+ty.sz->Opened w ty (cs.drop off) (lk (xs.map (·.1)))
 | [],_,_,_,h,_,_,_=>by simp[fieldsB]at h
 | f::r,off,ty,xs,h,hl,hf,hc=>by
  rw[fieldsB.eq_2]at h;split at h
  case isFalse=>cases h
  rename_i hoff;split at h
  case h_2=>cases h
  rename_i a ha;split at h
  case isFalse=>cases h
  rename_i hsz
  match xs,hl with
  | y::ys,hl=>
   have h0:=hf 0 f rfl;simp only[qAp]at h0;rw[hoff,hsz]at h0;obtain⟨d,d1,d2,d3⟩:=hT _ _ ha _ _ h0;split at h
   .cases h;refine⟨d,?_,d2,?_⟩
    .rw[qO (by rw[wB];omega)]at d1
     exact d1
    .simp only[zF,lk];omega
   .rename_i g r' _;split at h
    case h_2=>cases h
    rename_i c hc';cases h;rw[Be]at hc;obtain⟨e,e1,e2,e3⟩:=s5 hT (g::r') (off+a.sz) c ys hc' (by simpa using hl) (λi f' hi=>by simpa using hf (i+1) f' (by simpa using hi)) (by omega)
    refine⟨I1 a c d e,?_,G9 d2 e2,?_⟩
    .have:=Bc d1 e1
     rwa [<- yK,xI]at this
    .rw[vB];simp only[zF,lk];omega
theorem CZ{e:Ty}(f:Nat->e.den)(D:Nat->DataW H): ∀l:List Nat,(∀i∈l,jL e (f i)<=pQ (D i))->((l.map f).map λx=>jL e x).sum<=lk (l.map D)
 | [],_=>by simp[lk]
 | i::l,h=>by
  have h0:=h i (by simp)
  have h1:=CZ f D l (λj hj=>h j (by simp[hj]))
  simp only[zF,List.sum_cons,lk];omega
theorem s6: ∀(n:Nat) {t:TypeId} {ty:Ty},tyB P n t=some ty->∀(fuel:Nat) (cs:Lv) (x:DataW H×List MemPlace),
  DataW.trod enc P w 0 (λ_=>true) true fuel t cs=some x->Opened w ty cs (pQ x.1)
 | 0,_,_,h,_,_,_,_=>by simp[tyB]at h
 | n+1,t,ty,h,fuel,cs,x,hx=>by
  simp only[tyB]at h;split at h
  .rename_i k hu;cases h;obtain⟨m,rfl,rfl,hw⟩:=DataW.trod_int hu hx;exact⟨m,rfl,aBh hw,By _⟩
  .rename_i hu;cases h;obtain⟨b,rfl,rfl⟩:=DataW.trod_bool hu hx;exact⟨b,rfl,trivial,By _⟩
  .rename_i hu;cases h;obtain⟨s,rfl,rfl,hs⟩:=DataW.trod_string hu hx;refine⟨s,rfl,by simpa[okT,maxLen]using hs,?_⟩
   simp only[jL,pQ];have:s.data.toList.length=s.size:=by rw[vI];rfl
   omega
  .rename_i e hu;split at h
   case h_2=>cases h
   rename_i ety he;split at h
   case isFalse=>cases h
   rename_i hsz;cases h;rcases Deep.open_slice hu hx with⟨rfl,rfl⟩ | ⟨a,len,cap,m,n',Dd,Pl,rfl,hb,hl,hm,hmm,rfl,hel⟩
   .exact⟨[],bg _ _ _,⟨wY _,λx hx=>by cases hx⟩,by simp[jL,pQ]⟩
   .have hlm:len<=m:=by rw[hmm];simpa using hl
    haveI:Inhabited ety.den:=⟨ety.dflt⟩
    obtain⟨f,hf⟩:=Deep.choose_lt (α:=ety.den) (n:=len) (p:=λi d=>∃cs',w.cells? 0 (a.add (i*ety.sz)) ety.sz=some cs'/\ai w (Nr w) ety d cs'/\okT ety d/\jL ety d<=pQ (Dd i)) (λi hi=>by
     obtain⟨cs',h1,h2⟩:=hel i (by omega)
     rw[hsz]at h1;obtain⟨d,d1,d2,d3⟩:=s6 n he _ _ _ h2;exact⟨d,cs',h1,d1,d2,d3⟩)
    have hp:=Ty.sz_pos ety;have spot:0<len->a.spot=none/\a.block<w.heap.size:=λh0=>by
     obtain⟨cs',h1,d1,_⟩:=hf 0 h0;obtain⟨_,hcl,hcc⟩:=World.cells?_some h1;have:=hcc 0 hp;have hlt:0<cs'.length:=by omega
     rw[qB hlt]at this;simp only[yZ]at this;have e0:(a.add 0).add 0=a:=by simp[Addr.add]
     rw[e0]at this;unfold World.cell? at this;split at this
     .rename_i c t' fr hc;refine⟨?_,(vJ.1 hc).1⟩;split at this
      .cases this
      .rename_i hs;cases hsp:a.spot with
       | none=>rfl
       | some _=>rw[hsp]at hs;simp at hs
     .cases this
    have hlen:List.length ((List.range len).map f)=len:=by simp
    refine⟨(List.range len).map f,⟨some a,cap,by rw[hlen],by rw[hlen];exact hl,(λh=>by cases h),λa' ha' hpos=>?_,λi y hy=>?_⟩,⟨?_,λy hy=>?_⟩,?_⟩
    .cases ha';rw[hlen]at hpos;exact(spot hpos).1
    .have hi:i<len:=by
      have:=(qG.1 hy).1
      rwa [hlen]at this
     have ey:y=f i:=by
      rw[qP,wJ hi]at hy;exact(wW hy).symm
     subst ey;obtain⟨cs',h1,d1,_⟩:=hf i hi;obtain⟨hsp,hbk⟩:=spot (by omega)
     refine⟨a,cs',rfl,hbk,λj u hj=>?_,d1⟩
     obtain⟨_,hcl,hcc⟩:=World.cells?_some h1;have hjl:=(qG.1 hj).1;have:=hcc j (by omega)
     rw[hj,Deep.add_add]at this;have e1:a.add (i*ety.sz+j)=⟨a.block,a.off+i*ety.sz+j,none⟩:=by
      cases a with | mk b o s=>simp only at hsp;subst hsp;rw[yR,qAd]
     rw[e1]at this;exact this
    .rw[hlen];unfold maxLen at hm;omega
    .obtain⟨i,hi,rfl⟩:=vZ.1 hy;obtain⟨_,_,_,h2,_⟩:=hf i (qU.1 hi);exact h2
    .have:=CZ f Dd (List.range len) (λi hi=>by
      obtain⟨_,_,_,_,h3⟩:=hf i (qU.1 hi);exact h3)
     simp only[jL,pQ];omega
  .rename_i fs hu;split at h
   case h_2=>cases h
   rename_i ty' hfs;split at h
   case isFalse=>cases h
   rename_i hsz;cases h;obtain⟨xs,m,_,rfl,hcl,hxl,hf⟩:=DataW.trod_struct hu hx;obtain⟨d,d1,d2,d3⟩:=s5 (cs:=cs) (n:=m) (T:=tyB P n) (λt' ty' ht' cs' x' hx'=>s6 n ht' _ _ _ hx') fs.toList 0 ty xs hfs (by simpa using hxl)
    (λi f' hi=>hf i f' (by simpa using hi)) (by omega)
   refine⟨d,by simpa using d1,d2,?_⟩
   simp only[pQ];omega
  .cases h
abbrev TT:=Bool×Ty
def VV: List TT->Type
 | []=>PUnit
 | p::r=>p.2.den×VV r
def aBL(p:TT)(x:p.2.den): AV:=match p.1 with
 | true=>.agg (cellsOf p.2 x)
 | false=>.dat p.2 x
def avs: (l:List TT)->VV l->List AV
 | [],_=>[]
 | p::r,x=>aBL p x.1::avs r x.2
def okL: (l:List TT)->VV l->Prop
 | [],_=>True
 | p::r,x=>okT p.2 x.1/\okL r x.2
def UH: (l:List TT)->VV l->Nat
 | [],_=>0
 | p::r,x=>jL p.2 x.1+UH r x.2
def ttB(P:Program)(t:TypeId)(p:TT): Bool:=decide (tyB P 12 t=some p.2)&&(match P.underlying t with
 | some (.struct _)=>p.1
 | some (.int _) | some .bool | some .string | some (.slice _)=>!p.1
 | _=>false)
def PL(P:Program): List TypeId->List TT->Bool
 | [],[]=>true
 | t::ts,p::ps=>ttB P t p&&PL P ts ps
 | _,_=>false
theorem open_arg{t:TypeId}{p:TT}{base:Nat}{v:Value}{d:DataW H}{ps:List MemPlace}(ht:ttB P t p=true)(hv:Value.okWide P w .any base t v)
  (h:DataW.Trod enc P w 0 (λ_=>true) true t v d ps):∃x:p.2.den,(aBL p x).rel P ⟨w,Nr w,noM,noE⟩ v/\okT p.2 x/\jL p.2 x<=pQ d:=by
 unfold ttB at ht;simp only[qC,qE]at ht;obtain⟨hty,hk⟩:=ht;obtain⟨fuel,hf⟩:=h;obtain⟨x,x1,x2,x3⟩:=s6 12 hty _ _ _ hf;refine⟨x,?_,x2,x3⟩;have plain:(∀cs,v≠.agg cs)->p.1=false->(aBL p x).rel P ⟨w,Nr w,noM,noE⟩ v:=λhn h0=>by
  have e:v.cells.toList=[v]:=by cases v<;>first | rfl | exact(hn _ rfl).elim
  rw[e]at x1;unfold aBL;rw[h0];exact x1
 split at hk
 .rename_i fs hu;have:∃cs,v=.agg cs:=by
   unfold Value.okWide at hv;rw[hu]at hv;obtain⟨cs,e,_⟩:=hv;exact⟨cs,e⟩
  obtain⟨cs,rfl⟩:=this;unfold aBL;rw[hk];refine⟨cs.toList,rfl,bV (C:=⟨w,Nr w,noM,noE⟩) ?_⟩;exact x1
 all_goals first
  | cases hk
  | (rename_i hu
     refine plain (λcs e=>?_) (by simpa using hk)
     subst e;simp[Value.okWide,hu,Cell.okWide,Cell.ok]at hv)
theorem Br: ∀{ts:List TypeId} {l:List TT} {vs:Lv} {ds:List (DataW H)} {ps:List MemPlace} {base:Nat},PL P ts l=true->
  (∀(j:Nat) t v,ts[j]?=some t->vs[j]?=some v->Value.okWide P w .any base t v)->DataW.TrodAll enc P w 0 (λ_=>true) true ts vs ds ps->
  ∃x:VV l,AV.relL P ⟨w,Nr w,noM,noE⟩ (avs l x) vs/\okL l x/\UH l x<=lk ds
 | [],[],vs,ds,ps,base,_,_,h=>by
  obtain⟨rfl,rfl,rfl⟩:=trodAll_nil h;exact⟨PUnit.unit,rfl,trivial,wY _⟩
 | t::ts,p::l,vs,ds,ps,base,ht,hv,h=>by
  obtain⟨v,vs',d,ds',p1,q,rfl,rfl,rfl,h1,h2⟩:=trodAll_cons h;simp only[PL,qC]at ht;obtain⟨x,x1,x2,x3⟩:=open_arg ht.1 (hv 0 t v rfl rfl) h1;obtain⟨y,y1,y2,y3⟩:=Br ht.2 (λj t' v' hj hj'=>hv (j+1) t' v' (by simpa using hj) (by simpa using hj')) h2
  exact⟨(x,y),⟨v,vs',rfl,x1,y1⟩,⟨x2,y2⟩,by simp only[UH,lk];omega⟩
 | [],_::_,_,_,_,_,ht,_,_=>by simp[PL]at ht
 | _::_,[],_,_,_,_,ht,_,_=>by simp[PL]at ht
theorem BX{W W':World}(hl:laidOutB P=true)(hb:Below W.heap.size W W'): ∀{ts:List TypeId} {vs:Lv} {ds:List (DataW H)} {ps:List MemPlace},
  (ts.all λt=>P.readableRec t&&decide (t<P.types.size))=true->DataW.TrodAll enc P W 0 (λ_=>true) true ts vs ds ps->(∀x∈ps,x.block<W.heap.size)->
  ∀sp:Nat->Bool,(∀x∈ps,sp x.block=true)->DataW.TrodAll enc P W' 0 sp true ts vs ds ps
 | [],vs,ds,ps,_,h,_,sp,_=>by
  obtain⟨rfl,rfl,rfl⟩:=trodAll_nil h;exact trodAll_mk0
 | t::ts,vs,ds,ps,ht,h,hlt,sp,hsp=>by
  obtain⟨v,vs',d,ds',p1,q,rfl,rfl,rfl,h1,h2⟩:=trodAll_cons h;simp only[qAr,qC,qE]at ht;have g1:=WideElems.Trod_stays (enc:=enc) (sp':=sp) hl ht.1.1 ht.1.2 h1 (λx hx=>hb.same (hlt x (qH.2 (.inl hx)))) (λx hx=>hsp x (qH.2 (.inl hx)))
  exact⟨p1,q,g1,BX hl hb (by simpa using ht.2) h2 (λx hx=>hlt x (qH.2 (.inr hx))) sp (λx hx=>hsp x (qH.2 (.inr hx))),rfl⟩
theorem law_contractG{G:List (Nat×AV)}{f:FuncId}{fn:Func}{s:ChangeSpec}{apart fresh handsOn again:Bool}{l:List TT}{X:VV l->Prop}{rt:TypeId}(hf:∀x:VV l,X x->af P G f (avs l x) [] ⟨True,.dat .bool true,[]⟩)
  (htt:PL P fn.params.toList l=true) (hl:laidOutB P=true) (hrd:(fn.params.toList.all λt=>P.readableRec t&&decide (t<P.types.size))=true)
  (hrt:fn.resultTypes=#[rt]) (hbool:P.underlying rt=some .bool) (hvars:s.vars=[])
  {W:World} {base:Nat} {args:Array Value} {ds gs:List (DataW H)} {before:List MemPlace}
  (hspec:ds.length=l.length->s.fn H ds={results:=[.lit (.bool true)],args:=ds})
  (hval:∀(j:Nat) t v,fn.params[j]?=some t->args[j]?=some v->Value.okWide P W .any base t v)
  (hW:DataW.Whole enc P fn.params.toList s.vars apart W args.toList ds gs before)
  (hX:∀x:VV l,okL l x->UH l x<=lk ds->X x) (hG:jX P ⟨W,Nr W,noM,noE⟩ G):
  Calls P f args W λe W'=>∃v,e=.returned v/\s.post enc P fn apart fresh handsOn again W args v W':=by
 obtain⟨p,q,hA,hV,hbef,hfz,hnd⟩:=id hW;rw[hvars]at hV;obtain⟨rfl,rfl⟩:=trodVars_none hV;rw[wL]at hbef;subst hbef;have hlt:∀x∈before,x.block<W.heap.size:=λx hx=>hW.lt x hx
 obtain⟨x,x1,x2,x3⟩:=Br (l:=l) htt (λj t v h1 h2=>hval j t v (by simpa using h1) (by simpa using h2)) hA
 have hsl:∀{ts:List TypeId} {l:List TT} {vs:Lv} {ds:List (DataW H)} {p:List MemPlace},PL P ts l=true->DataW.TrodAll enc P W 0 (λ_=>true) true ts vs ds p->ds.length=l.length:=by
  intro ts;induction ts with
  | nil=>
   intro l vs ds p ht h;obtain⟨rfl,rfl,rfl⟩:=trodAll_nil h;cases l with
   | nil=>rfl
   | cons _ _=>simp[PL]at ht
  | cons t ts ih=>
   intro l vs ds p ht h;obtain⟨v,vs',d,ds',p1,q,rfl,rfl,rfl,h1,h2⟩:=trodAll_cons h;cases l with
   | nil=>simp[PL]at ht
   | cons _ l=>
    simp only[PL,qC]at ht;simp[ih ht.2 h2]
 have hfn:=hspec (hsl htt hA);have hcall:=(hf x (hX x x2 x3)).data trivial (w:=W) (D:=Nr W) (us:=args.toList) (λb hb=>hb) hG x1
 refine hcall.mono λe W' he=>?_
 obtain⟨v,rfl,hb,hv⟩:=he;have hv:v=.bool true:=by simpa[AV.rel,ai]using hv
 subst hv;refine⟨_,rfl,yl (pa:=before) (pv:=[]) hW hb (λb sp hd=>?_) (λsp hsp=>?_) (λsp _=>?_) (by simp) (ok_one hrt rfl (okWide_bool_mk hbool _))⟩
 .rw[wL,hfn,hrt];exact trodAll_mk1 (shut_bool hbool true)
 .rw[wL,hfn];exact BX hl hb hrd hA hlt sp hsp
 .rw[hvars,wL,hfn];exact rfl
theorem laid_strs{n:String}{g:Nat}{ta te m:Nat}{w:World}{xs:List ByteArray}(hg:P.globalNamed n=some g)(ht:(P.globals[g]?).map (·.type)=some ta)(ha:P.underlying ta=some (.array m te))
  (he:P.underlying te=some .string) (hc:P.cellsOf te=1) (hsz:m<=9223372036854775807) (hne:0<m) {r:List (String×DataW Unit)} {ps:List MemPlace}
  (h:DataW.LaidVars P w ((n,.agg (xs.map λs=>.lit (.string s.data.toList)))::r) ps):jX P ⟨w,Nr w,noM,noE⟩ [(g,.ia .str xs)]/\∃ps',DataW.LaidVars P w r ps':=by
 obtain⟨g',t',cs,fuel,p,q',hg',ht',hv,hd,hr,_⟩:=h;obtain rfl:=wW (hg.symm.trans hg');obtain rfl:=wW (ht.symm.trans ht');refine⟨λz hz=>?_,q',hr⟩
 obtain rfl:=vG.1 hz;obtain⟨ys,f,rfl,hx,hlen,hm,hel⟩:=DataW.trod_array ha hd;simp only[qCd,DataW.agg.injEq]at hx;have hxl:xs.length=m:=by
  have:=yD List.length hx.1;simpa[hm]using this
 have cell:∀i (hi:i<m),∃y,xs[i]?=some y/\w.cell? ⟨g,i,none⟩=some (.string y):=by
  intro i hi;have h1:=hel i hi;rw[hc,yN,qB (by omega)]at h1
  obtain⟨s,e1,e2,_⟩:=DataW.trod_string he h1;have h2:cs[i]?=some (.string s):=by
   have:=yD (·[0]?) e1
   simpa[vM,qY]using this
  refine⟨s,?_,by rw[World.var?_cell hg hv];exact h2⟩
  have h3:=yD (·[i]?) hx.1
  simp only[qP,qB (show i<ys.length by omega),qB (show i<xs.length by omega),zU,wC]at h3
  rw[e2]at h3;simp only[DataW.lit.injEq,Lit.string.injEq]at h3;rw[qB (by omega)]
  have:xs[i].data=s.data:=Array.toList_inj.1 h3;cases hx':xs[i]with | mk d=>cases s with | mk d'=>rw[hx']at this;exact yD some (yD ByteArray.mk this)
 have hblk:Nr w g:=by
  obtain⟨y,_,h2⟩:=cell 0 hne;show g<w.heap.size;unfold World.cell? at h2;split at h2
  .rename_i c t' fr hcc;exact(vJ.1 hcc).1
  .cases h2
 refine⟨rfl,g,0,rfl,some ⟨g,0,none⟩,xs.length,by rfl,qK _,(λh=>by cases h),λa' ha' _=>by cases ha';rfl,λi y hy=>?_⟩
 have hi:=(qG.1 hy).1;obtain⟨y',e1,e2⟩:=cell i (by omega)
 obtain rfl:=wW (hy.symm.trans e1);refine⟨⟨g,0,none⟩,[.string y],rfl,hblk,λj u hj=>?_,rfl⟩
 have:j=0:=by
  have:=(qG.1 hj).1;simp at this;omega
 subst this;obtain rfl:Value.string y=u:=by simpa using hj
 simpa[Ty.sz]using e2
end
end Go.Eng
