/- PeRo11e PeRo12e PeRo13e PeCoEe PeCoFe PeCoGe PeH19 PeH20 -/
import Derived.Test.YtlakcpmgefpfaaaGreatDoorECErrE
import Derived.Test.YtlakcpmgefpfaaaGreatDoorECErrH
import Derived.ChangeSame
import Derived.Carry
import Derived.Deep.Slices
import Derived.ChangeArms
import Derived.OpenShut
set_option linter.all false
set_option maxRecDepth 100000
noncomputable section
namespace Go.Eng.Sv
open Go.Proofs
open Go.Eng.Mp (aI cm oN bD upto at2 oy dK iq rC)
def DI(n:Net)(o:Int): Int:=(rN n o).2.2.2.2.1*(rN n o).2.2.2.2.2.1
def aBh(n:Net)(o:Int): Prop:=aR n=true/\0<=o/\o<n.2.2.2.1.length
def ki(n:Net)(a b k:Int): Li:=(b9 n a b).take k.toNat
def si(n:Net)(a b k:Int): Prop:=dI n=true/\fC n a b=true/\0<=k/\k<=n.2.2.2.2.1.length
def oC(v q k:Int): Lj:=List.replicate k.toNat (List.replicate q.toNat v)
def I5(v k:Int): Li:=List.replicate k.toNat v
def aFM(n:Net): Prop:=n.2.2.2.1.length<=1000000
abbrev s8:=al [.row N,.val I] (λ(n,o,_)=>aBh n o) λ(n,o,_)=>.dat I (DI n o)
def KQ7: Kt:=kOr 180 s8 KQ6
def aBK(n:Net)(a b:Int): Ann:=⟨λf s=>match f with
 | 5=>match s.sig.T 11 with
  | .buf e _=>some {α:=Int,inv:=λk=>si n a b k,st:=λk=>fu (put (flat s) [(8,.dat I k),(7,.buf e (Dk (ki n a b k)))]) e (.buf 3 I (ki n a b k) []),μ:=λk=>Dc (Di (Df n.2.2.2.2.1) k)}
  | _=>none
 | _=>none,λ_ _=>none,λ_ _=>none⟩
def Ww(v q:Int): Ann:=⟨λe s=>match e with
 | 3=>match s.sig.T 9 with
  | .buf b _=>some {α:=Int,inv:=λk=>upto k q,st:=λk=>fu (put (flat s) [(6,.dat I k),(5,.buf b (Dk (oC v q k)))]) b (.mat 36 3 I (oC v q k) []),μ:=λk=>Dc (Di q k)}
  | _=>none
 | 7=>match s.sig.T 17 with
  | .buf b _=>some {α:=Int,inv:=λk=>upto k q,st:=λk=>fu (put (flat s) [(8,.dat I k),(7,.buf b (Dk (I5 v k)))]) b (.buf 3 I (I5 v k) []),μ:=λk=>Dc (Di q k)}
  | _=>none
 | _=>none,λ_ _=>none,λ_ _=>none⟩
def Rq: eO 180 s8:=ae λ(((i,f,e,b,g,h):Net),(o:Int),_)=>by
 refine zE (A:=az) (p:=let j:=(i,f,e,b,g,h);let r:=(Du b (Dc o) (ByteArray.mk #[],(0:Int),(0:Int),(0:Int),(0:Int),(0:Int),Dt ByteArray)).2.2.2.2;let u:=r.1*r.2.1;(aBh j o->0<=o/\o<Df b/\0<=o/\o<Df b/\inR IntKind.i64 u/\u=DI j o/\True)) aI3 λ⟨x,r,j⟩=>?_
 obtain⟨v,p1⟩:=pF i f e b g h x r j;refine Z9 ?_;have u:(b.getD o.toNat (⟨#[]⟩,0,0,0,0,0,[])).2.2.2.2.1*(b.getD o.toNat (⟨#[]⟩,0,0,0,0,0,[])).2.2.2.2.2.1=DI (i,f,e,b,g,h) o:=rfl;have y:DI (i,f,e,b,g,h) o<=960/\0<DI (i,f,e,b,g,h) o:=⟨p1,v⟩;refine⟨r,j,r,j,aD (by rw[u];omega),u⟩
def aId: ai Tryz.prog G0 KQ7:=af Rq aI3
def LL(r:LC)(g f:LB)(j:Lo)(e:Ll)(i:Lk){a b k:Int}(v:0<=k)(u:k<e.length): ki (r,g,f,j,e,i) a b k++[qS (r,g,f,j,e,i) a b k]=ki (r,g,f,j,e,i) a b (k+1):=by
 have h:=I7 r g f j e i a b v u;have x:(b9 (r,g,f,j,e,i) a b).length=e.length:=cD _ _ _;unfold ki;rw[show(k+1).toNat=k.toNat+1 by omega,wU,qB Z];rw[qA,qB Z,qK]at h;rw[h];rfl
def CS(j:LC)(g f:LB)(i:Lo)(e:Ll)(h:Lk){a b k:Int}(u:0<=k)(r:k<=e.length): (ki (j,g,f,i,e,h) a b k).length=k.toNat:=by
 have v:(b9 (j,g,f,i,e,h) a b).length=e.length:=cD _ _ _;unfold ki;rw[qL];omega
abbrev qk:=al [.row N,.val I,.val I] (λ(n,_,_,_)=>dI n=true) λ(n,a,b,_)=>.dat R (aF n a b)
def O6: eO 124 qk:=ae λ(((u,i,g,r,f,j):Net),(a:Int),(b:Int),_)=>by
 refine zE (A:=(lvA [(5,[1,2,3,6,7,8,9,10])] (aBK (u,i,g,r,f,j) a b))) (p:=let e:=(u,i,g,r,f,j);let A:=Dj (fC e a b);let L:=aF e a b;let h:=Df f;let X:=[(-1099511627776:Int)];(dI e->dI e/\(A->Dk (Dt Int)=0/\Dt Int=L/\True)/\(A=false->(∃x,let c8:=ki e a b x;si e a b x/\Q3 a b e Z0 (0=Dk c8/\0=x/\Dt Int=c8/\True))/\∀(x:Int),let c9:=Ec (nU e x a b) 0;let V:=(Du f (Dc x) (ByteArray.mk #[],(0:Int),(0:Int),(0:Int),(0:Int),(0:Int))).2.2;let c11:=mq e x a b+V.2.2.1;let c13:=c11+DI e V.1;let z:=ki e a b x;let v:=Dk z;let c16:=[c13];let T:=v+Dk c16;let G:=x+1;let O:=v+(Dk X);si e a b x->(Dp x h->dI e/\(c9->0<=x/\x<h/\inR .i64 c11/\0<=x/\x<h/\aBh e V.1/\inR .i64 c13/\v=v/\(T*8)<=140737488355328/\T<=9223372036854775807/\inR IntKind.i64 G/\∃y,let c20:=ki e a b y;si e a b y/\(Q3 a b e Z0 (T=Dk c20/\G=y/\Ef z c16=c20/\True))/\Dc (h-y)<Dc (h-x))/\(c9=false->v=v/\(O*8)<=140737488355328/\O<=9223372036854775807/\inR .i64 G/\∃y,let c21:=ki e a b y;si e a b y/\(Q3 a b e Z0 (O=Dk c21/\G=y/\Ef z X=c21/\True))/\Dc (h-y)<Dc (h-x)))/\(Dp x h=false->v=v/\z=L/\True)))) aId λhp=>?_
 refine Z9 ?_;simp only[qc,dF u i g r f j];refine⟨hp,λh=>?_,λh=>?_⟩
 .refine⟨rfl,?_⟩;unfold aF;rw[h];rfl
 have hs:=(jQ.1 h).2;have l40:=(fO u i g r f j (aS u i g r f j hs)).2;refine⟨⟨0,⟨hp,h,qH _,qM _⟩,by simp[ki],rfl,by simp[ki]⟩,λx hx=>⟨λv=>?_,λhge=>?_⟩⟩
 .obtain⟨_,_,L,x1⟩:=hx;obtain⟨l0,l1,l2,l3,l4,l5,l6⟩:=db u i g r f j hs L v;obtain⟨o0,o1⟩:=pF u i g r f j hs l2 l3;have z:=LL u i g r f j (a:=a) (b:=b) L v;have hl1:=CS u i g r f j (a:=a) (b:=b) L Z;have hl2:=CS u i g r f j (a:=a) (b:=b) (k:=x+1) Z Z;have X:si (u,i,g,r,f,j) a b (x+1):=⟨hp,h,Z,by show x+1<=(f.length:Int);omega⟩;simp only[qV];refine⟨hp,λhe=>?_,λhe=>?_⟩
  .rcases JJ u i g r f j h L v with⟨e,_,w0,w1⟩ | ⟨e,_⟩
   .have hc:qS (u,i,g,r,f,j) a b x=mq (u,i,g,r,f,j) x a b+(ak (u,i,g,r,f,j) x).2.2.2.2.1+DI (u,i,g,r,f,j) (ak (u,i,g,r,f,j) x).2.2.1:=by unfold qS;rw[if_pos e];rfl
    rw[hc]at z;have hso:0<DI (u,i,g,r,f,j) (ak (u,i,g,r,f,j) x).2.2.1/\DI (u,i,g,r,f,j) (ak (u,i,g,r,f,j) x).2.2.1<=960:=⟨o0,o1⟩;exact⟨L,v,aD Z,L,v,⟨hs,l2,l3⟩,aD Z,Z,Z,aD Z,x+1,X,⟨Z,rfl,z⟩,Z⟩
   .omega
  .have hc:qS (u,i,g,r,f,j) a b x=-1099511627776:=by unfold qS;rw[if_neg he];rfl
   rw[hc]at z;exact⟨Z,Z,aD Z,x+1,X,⟨Z,rfl,z⟩,Z⟩
 .obtain⟨_,_,L,x1⟩:=hx;have x1:x<=f.length:=x1;have hl:(b9 (u,i,g,r,f,j) a b).length=f.length:=cD _ _ _;unfold ki aF;rw[h,qN Z];rfl
def Va{v k:Int}(b:0<=k): I5 v k++[v]=I5 v (k+1):=by
 unfold I5;rw[show(k+1).toNat=k.toNat+1 by omega,List.replicate_succ']
def uO{v q k:Int}: (oC v q k).length=k.toNat:=by unfold oC;rw[wO]
def U9{v q k:Int}(e:0<=k){r:Li}(b:r=List.replicate q.toNat v): (oC v q k++[[]]).set (oC v q k).length r=oC v q (k+1):=by
 rw[qCi _ _ (qJ _),qBf,List.set_cons_zero,b];unfold oC;rw[show(k+1).toNat=k.toNat+1 by omega,List.replicate_succ']
abbrev s7:=IP [.row N,.val I] (λ(n,_,_)=>aFM n) (λ(n,v,_)=>.buf 0 (Dk (oC v (Df n.2.2.2.1) (Df n.2.2.2.1)))) λ(n,v,_)=>.mat 36 3 I (oC v (Df n.2.2.2.1) (Df n.2.2.2.1)) []
def Rn: eO 125 s7:=yy λ(((cs,X,V,e,ls,ks):Net),(v:Int),_)=>by
 refine zF (c:={mkc KQ7 with mb:=λt=>t==31}) (A:=(lvA [(3,[1,2,4,5,6,7,8]),(7,[1,2,4,5,6,7,8])] (Ww v (Df e)))) aId iI hm (p:=let j:=(cs,X,V,e,ls,ks);let f:=Df e;let z:=[v];let G:=Dk z;let A:=oC v f f;true/\(aFM j->(∃x,upto x f/\L7 v j Z0 (0=Dk (oC v f x)/\0=x/\Dt (Li)=oC v f x/\Fb (oC v f x)/\True))/\∀(x:Int),let i:=Dk (oC v f x);let u:=i+1;let T:=x+1;upto x f->(Dp x f->(∃b,upto b f/\T2 v j Z0 i x (0=Dk (I5 v b)/\0=b/\oC v f x=oC v f x/\Dt Int=I5 v b/\True))/\∀(b:Int),let r:=Dk (I5 v b);let g:=r+G;let h:=b+1;upto b f->(Dp b f->r=r/\(g*8)<=140737488355328/\g<=9223372036854775807/\inR IntKind.i64 h/\∃y,upto y f/\(T2 v j Z0 i x (g=Dk (I5 v y)/\h=y/\oC v f x=oC v f x/\Ef (I5 v b) z=I5 v y/\True))/\Dc (f-y)<Dc (f-b))/\(Dp b f=false->L5 r i ((u*24)<=140737488355328/\u<=9223372036854775807/\inR .i64 T/\∃y,upto y f/\(L7 v j Z0 (u=Dk (oC v f y)/\T=y/\Dk (I5 v b)=r/\Em (Ef (oC v f x) [Dt Int]) i (I5 v b)=oC v f y/\True))/\Dc (f-y)<Dc (f-x))))/\(Dp x f=false->i=Dk A/\oC v f x=A/\True))) ⟨rfl,λL=>?_⟩
 have L:e.length<=1000000:=L;refine Z9 ?_;have f:∀k:Int,(I5 v k).length=k.toNat:=λk=>by unfold I5;rw[wO]
 refine⟨⟨0,⟨Z,.inr rfl⟩,by simp[oC],rfl,by simp[oC],λr hr=>by simp[oC]at hr⟩,λx j=>⟨λhlt=>⟨⟨0,⟨Z,.inr rfl⟩,by simp[I5],rfl,by simp[I5]⟩,λy i=>⟨λO=>?_,λu=>?_⟩⟩,λu=>?_⟩⟩
 .have z:=i.1;have c1:=f y;have c2:=f (y+1);simp only[qV];exact⟨Z,Z,aD Z,y+1,⟨Z,.inl Z⟩,⟨Z,rfl,Va z⟩,Z⟩
 .have G:=j.1;have z:=i.1;have y1:=i.2;have ey:y=e.length:=Z;have c1:=uO (v:=v) (q:=e.length) (k:=x);have c2:=uO (v:=v) (q:=e.length) (k:=x+1);exact⟨Z,Z,aD Z,x+1,⟨Z,.inl Z⟩,⟨Z,rfl,U9 G (by rw[ey];rfl)⟩,Z⟩
 .have G:=j.1;have x1:=j.2;have ex:x=e.length:=Z;rw[ex];exact⟨rfl,rfl⟩
end Go.Eng.Sv
set_option maxHeartbeats 4000000
namespace Go.Eng.Sv
open Go.Proofs
open Go.Eng.Mp (aI cm oN bD upto at2 oy dK iq rC)
def FH(k i j:Int): Int:=if i=j/\i<k then 0 else -1
def nb(q k:Int): Lj:=aI (FH k) q
def oi(n:Net)(c:Li)(m:Lj)(k d:Int): Prop:=c.getD k.toNat 0=dM\/at2 m (ak n k).2.2.1 d<0\/(0<=at2 m (ak n k).2.1 d/\at2 m (ak n k).2.1 d<=c.getD k.toNat 0+at2 m (ak n k).2.2.1 d)
def wPb(x:Int): Nat:=if x<0 then 1000000000 else x.toNat
def wC(x:Int): Nat:=if x<0 then 0 else 1
def sumW(w:Int->Nat)(m:Lj): Nat:=(m.map λr=>(r.map w).sum).sum
def muB(b:Bool)(m:Lj): Nat:=2*sumW wPb m+(if b then 1 else 0)
def gO(n:Net)(a b:Int)(m:Lj): Prop:=fC n a b=true/\m.length=n.2.2.2.1.length/\(∀o:Int,0<=o->o<n.2.2.2.1.length->(m.getD o.toNat []).length=n.2.2.2.1.length)/\
 (∀o:Int,0<=o->o<n.2.2.2.1.length->at2 m o o=0)/\(∀o d:Int,0<=o->o<n.2.2.2.1.length->0<=d->d<n.2.2.2.1.length->-1<=at2 m o d/\at2 m o d<=1000000*sumW wC m)/\
 (∀o d:Int,0<=o->o<n.2.2.2.1.length->0<=d->d<n.2.2.2.1.length->0<=at2 m o d->0<=at2 (aL n a b) o d/\at2 (aL n a b) o d<=at2 m o d)
def aF0(n:Net)(a b:Int)(x:Bool)(m:Lj): Prop:=gO n a b m/\(x=false->∀k d:Int,0<=k->k<n.2.2.2.2.1.length->0<=d->d<n.2.2.2.1.length->oi n (aF n a b) m k d)
def aFZ(n:Net)(a b:Int)(e:Lj)(x:Bool)(m:Lj)(i:Int): Prop:=gO n a b m/\0<=i/\i<=n.2.2.2.2.1.length/\
 (x=false->m=e/\∀k d:Int,0<=k->k<i->0<=d->d<n.2.2.2.1.length->oi n (aF n a b) m k d)/\(x=true->sumW wPb m<sumW wPb e)
def aEL(n:Net)(a b:Int)(f:Lj)(g:Bool)(i:Int)(x:Bool)(m:Lj)(d:Int): Prop:=gO n a b m/\0<=d/\d<=n.2.2.2.1.length/\
 ((x=g/\m=f/\∀e:Int,0<=e->e<d->oi n (aF n a b) m i e)\/(x=true/\sumW wPb m<sumW wPb f))
def KQ8: Kt:=kOr 124 qk <|
 kOr 125 s7 KQ7
def aEE(s:St)(b:Nat): Option (Lj):=match s.mem.lookup b with
 | some (.mat _ _ (.int .i64) xss [])=>some xss
 | _=>none
def HY(s:St): List Nat:=s.mem.filterMap λp=>match p.2 with
 | .mat _ _ _ _ _=>some p.1
 | _=>none
def XG(n:Net)(a b:Int): Ann:=⟨λf s=>match s.sig.T 7 with
 | .buf e _=>match f with
  | 5=>some {α:=Int,inv:=λk=>upto k (Df n.2.2.2.1),st:=λk=>fu (put (flat s) [(8,.dat I k)]) e (.mat 36 3 I (nb (Df n.2.2.2.1) k) []),μ:=λk=>Dc (Di (Df n.2.2.2.1) k)}
  | 10=>some {α:=Bool×Lj×Int,inv:=λx=>aF0 n a b x.1 x.2.1,st:=λx=>fu (put (flat s) [(10,.dat .bool x.1)]) e (.mat 36 3 I x.2.1 []),μ:=λx=>muB x.1 x.2.1}
  | 13=>match aEE s e with
   | some h=>some {α:=Bool×Lj×Int,inv:=λx=>aFZ n a b h x.1 x.2.1 x.2.2,st:=λx=>fu (put (flat s) [(10,.dat .bool x.1),(11,.dat I x.2.2)]) e (.mat 36 3 I x.2.1 []),μ:=λx=>Dc (Di (Df n.2.2.2.2.1) x.2.2)}
   | none=>none
  | 1000018=>match aEE s e,s.sig.T 11,s.sig.T 140 with
   | some g,.dat (.int .i64) i,.dat .bool x1=>some {α:=Bool×Lj×Int,inv:=λx=>aEL n a b g x1 i x.1 x.2.1 x.2.2,st:=λx=>fu (put (flat s) [(10,.dat .bool x.1),(14,.dat I x.2.2)]) e (.mat 36 3 I x.2.1 []),μ:=λx=>Dc (Di (Df n.2.2.2.1) x.2.2)}
   | _,_,_=>none
  | _=>none
 | _=>none,λf s=>match f with
 | 23=>some (frz (HY s) s)
 | _=>none,λ_ _=>none⟩
def JS{α:Type}(f:α->Nat): ∀(l:List α) (i:Nat) (y:α) (h:i<l.length),((l.set i y).map f).sum+f l[i]=(l.map f).sum+f y
 | x::l,0,y,h=>by simp only[List.set_cons_zero,zB,List.sum_cons,List.getElem_cons_zero];omega
 | x::l,i+1,y,h=>by
  have:=JS f l i y (by simp at h;omega);simp only[List.set_cons_succ,zB,List.sum_cons,List.getElem_cons_succ];omega
def SC(m:Lj)(o d v:Int): Lj:=m.set o.toNat ((m.getD o.toNat []).set d.toNat v)
def MC(w:Int->Nat){m:Lj}{q:Nat}(j:m.length=q)(f:∀o:Int,0<=o->o<q->(m.getD o.toNat []).length=q){o d:Int}(e:0<=o)(b:o<q)(y:0<=d)(x:d<q)(v:Int):
  sumW w (SC m o d v)+w (at2 m o d)=sumW w m+w v:=by
 have u:=f o e b;have h:m.getD o.toNat []=m[o.toNat]'zoo:=by rw[qA,qB Z,qK]
 have i:=JS (λr:List Int=>(r.map w).sum) m o.toNat ((m.getD o.toNat []).set d.toNat v) Z;have z:=JS w (m.getD o.toNat []) d.toNat v Z;have g:at2 m o d=(m.getD o.toNat [])[d.toNat]'zoo:=by unfold at2;rw[qA,qB Z,qK]
 unfold sumW SC;rw[g];simp only[<- h]at i;omega
def aDW{m:Lj}{q:Nat}(L:m.length=q)(r:∀o:Int,0<=o->o<q->(m.getD o.toNat []).length=q){o d:Int}(h:0<=o)(f:o<q)(V:0<=d)(T:d<q)(v:Int){i j:Int}(G:0<=i)(A:i<q)(z:0<=j)(y:j<q):
  at2 (SC m o d v) i j=if i=o/\j=d then v else at2 m i j:=by
 unfold at2 SC;have O:=r o h f;rw[qA (l:=m.set _ _),yI];by_cases e:o.toNat=i.toNat
 .have x:i=o:=by omega
  subst x;rw[if_pos rfl,if_pos Z,qK,qA,yI];by_cases b:d.toNat=j.toNat
  .have u:j=d:=by omega
   subst u;rw[if_pos rfl,if_pos Z,if_pos ⟨rfl,rfl⟩];rfl
  .rw[if_neg b,if_neg (λg=>b (by rw[g.2]))];rw[qA (l:=m.getD i.toNat [])]
 .rw[if_neg e,if_neg (λg=>e (by rw[g.1])),<- qA]
def aDV{m:Lj}{q:Nat}(r:m.length=q)(b:∀o:Int,0<=o->o<q->(m.getD o.toNat []).length=q){o d:Int}(g:0<=o)(f:o<q)(v:Int): (SC m o d v).length=q/\∀i:Int,0<=i->i<q->((SC m o d v).getD i.toNat []).length=q:=by
 unfold SC;refine⟨by rw[yG];exact r,λi j h=>?_⟩;rw[qA,yI];by_cases e:o.toNat=i.toNat
 .rw[if_pos e,if_pos Z,qK,yG];exact b o g f
 .rw[if_neg e,<- qA];exact b i j h
def R7{α:Type}(f:α->Nat)(K:Nat): ∀l:List α,(∀x∈l,f x<=K)->(l.map f).sum<=l.length*K
 | [],_=>zA _
 | x::l,h=>by
  have g:=h x wB;have e:=R7 f K l λy b=>h y (wX _ b)
  simp only[zB,List.sum_cons,wS];rw[zT];omega
def cnt_le{m:Lj}{q:Nat}(f:m.length=q)(e:∀o:Int,0<=o->o<q->(m.getD o.toNat []).length=q): sumW wC m<=q*q:=by
 unfold sumW;have h:=R7 (λr:Li=>(r.map wC).sum) q m λr b=>by
  obtain⟨i,g,rfl⟩:=List.getElem_of_mem b;have j:=e i Z Z;rw[qP,qA,qB g,qK]at j;have u:=R7 wC 1 m[i] λx _=>by unfold wC;split<;>omega
  show(m[i].map wC).sum<=q;omega
 rw[f]at h;exact h
def aAb(y:LC)(u r:LB)(f:Lo)(h:Ll)(x:Lk){a b k d:Int}{m:Lj}(hi:gO (y,u,r,f,h,x) a b m)(k0:0<=k)(k1:k<h.length)(hc:(aF (y,u,r,f,h,x) a b).getD k.toNat 0≠dM)(d0:0<=d)(d1:d<f.length)
  (ht:0<=at2 m (ak (y,u,r,f,h,x) k).2.2.1 d) (ho:at2 m (ak (y,u,r,f,h,x) k).2.1 d<0\/(aF (y,u,r,f,h,x) a b).getD k.toNat 0+at2 m (ak (y,u,r,f,h,x) k).2.2.1 d<at2 m (ak (y,u,r,f,h,x) k).2.1 d):
  gO (y,u,r,f,h,x) a b (SC m (ak (y,u,r,f,h,x) k).2.1 d ((aF (y,u,r,f,h,x) a b).getD k.toNat 0+at2 m (ak (y,u,r,f,h,x) k).2.2.1 d))/\sumW wPb (SC m (ak (y,u,r,f,h,x) k).2.1 d ((aF (y,u,r,f,h,x) a b).getD k.toNat 0+at2 m (ak (y,u,r,f,h,x) k).2.2.1 d))<sumW wPb m/\
  -1<=at2 m (ak (y,u,r,f,h,x) k).2.2.1 d/\at2 m (ak (y,u,r,f,h,x) k).2.2.1 d<=200000000/\0<(aF (y,u,r,f,h,x) a b).getD k.toNat 0/\(aF (y,u,r,f,h,x) a b).getD k.toNat 0<=1000000:=by
 obtain⟨hr,hl,z,O,L,A⟩:=hi;have hl:m.length=f.length:=hl;have z:∀o:Int,0<=o->o<f.length->(m.getD o.toNat []).length=f.length:=z;have hs:=(jQ.1 hr).2;have q12:=(dE y u r f h x (aS y u r f h x hs)).1;obtain⟨o0,o1,t0,t1,hne,_⟩:=db y u r f h x hs k0 k1;have hco:=jd y u r f h x hr;have hcb:0<(aF (y,u,r,f,h,x) a b).getD k.toNat 0/\(aF (y,u,r,f,h,x) a b).getD k.toNat 0<=1000000:=by
  have e:aF (y,u,r,f,h,x) a b=b9 (y,u,r,f,h,x) a b:=by unfold aF;rw[hr];rfl
  rw[e]at hc ⊢;rcases hco.2.2 k k0 (by rw[cD];exact k1)with g | g
  .exact(hc g).elim
  .exact g
 have hB:=(rj y u r f h x hco).1;have hbe:aL (y,u,r,f,h,x) a b=bm (y,u,r,f,h,x) (b9 (y,u,r,f,h,x) a b):=by unfold aL;rw[hr];rfl
 have hce:aF (y,u,r,f,h,x) a b=b9 (y,u,r,f,h,x) a b:=by unfold aF;rw[hr];rfl
 have hg:h[k.toNat]?=some (ak (y,u,r,f,h,x) k):=by
  unfold ak;show _=some (h.getD k.toNat _);rw[qA,qB Z,qK]
 have hst:=hB.step k.toNat _ hg (by rw[<- hce];exact hc) d d0 d1;rw[<- hbe,<- hce]at hst;have hrt:=L _ d t0 t1 d0 d1;have hro:=L _ d o0 o1 d0 d1;have hsd:=A _ d t0 t1 d0 d1 ht;have hcnt:=cnt_le hl z;have hqq:f.length*f.length<=144:=Nat.mul_le_mul (show f.length<=12 by omega) (show f.length<=12 by omega)
 have hP:=MC wPb hl z o0 o1 d0 d1 ((aF (y,u,r,f,h,x) a b).getD k.toNat 0+at2 m (ak (y,u,r,f,h,x) k).2.2.1 d);have hC:=MC wC hl z o0 o1 d0 d1 ((aF (y,u,r,f,h,x) a b).getD k.toNat 0+at2 m (ak (y,u,r,f,h,x) k).2.2.1 d);have hsq:=aDV hl z o0 o1 (d:=d) ((aF (y,u,r,f,h,x) a b).getD k.toNat 0+at2 m (ak (y,u,r,f,h,x) k).2.2.1 d)
 have hat:=λi j i0 X V T=>aDW hl z o0 o1 d0 d1 ((aF (y,u,r,f,h,x) a b).getD k.toNat 0+at2 m (ak (y,u,r,f,h,x) k).2.2.1 d) (i:=i) (j:=j) i0 X V T
 have hod:(ak (y,u,r,f,h,x) k).2.1≠d:=λe=>by
  have:=O _ o0 o1;rw[<- e]at ho;rw[this]at ho;rw[<- e]at ht;omega
 have hst':0<=at2 (aL (y,u,r,f,h,x) a b) (ak (y,u,r,f,h,x) k).2.1 d/\at2 (aL (y,u,r,f,h,x) a b) (ak (y,u,r,f,h,x) k).2.1 d<=(aF (y,u,r,f,h,x) a b).getD k.toNat 0+at2 (aL (y,u,r,f,h,x) a b) (ak (y,u,r,f,h,x) k).2.2.1 d:=hst hsd.1;generalize (aF (y,u,r,f,h,x) a b).getD k.toNat 0=c at *;generalize hv:c+at2 m (ak (y,u,r,f,h,x) k).2.2.1 d=v at *;have hv0:0<v:=Z
 have hwv:wPb v=v.toNat:=by unfold wPb;rw[if_neg Z]
 have hcv:wC v=1:=by unfold wC;rw[if_neg Z]
 have G:wC (at2 m (ak (y,u,r,f,h,x) k).2.1 d)=if at2 m (ak (y,u,r,f,h,x) k).2.1 d<0 then 0 else 1:=rfl
 have hwo:wPb (at2 m (ak (y,u,r,f,h,x) k).2.1 d)=if at2 m (ak (y,u,r,f,h,x) k).2.1 d<0 then 1000000000 else(at2 m (ak (y,u,r,f,h,x) k).2.1 d).toNat:=rfl
 refine⟨⟨hr,hsq.1,hsq.2,λo x0 x1=>?_,λi j i0 X V T=>?_,λi j i0 X V T=>?_⟩,?_,hrt.1,Z,hcb.1,hcb.2⟩
 .rw[hat o o x0 x1 x0 x1,if_neg (λg=>hod (g.1.symm.trans g.2))];exact O o x0 x1
 .rw[hat i j i0 X V T];have hij:=L i j i0 X V T;split
  .by_cases g:at2 m (ak (y,u,r,f,h,x) k).2.1 d<0
   .rw[if_pos g]at G;omega
   .rw[if_neg g]at G;omega
  .by_cases g:at2 m (ak (y,u,r,f,h,x) k).2.1 d<0
   .rw[if_pos g]at G;omega
   .rw[if_neg g]at G;omega
 .rw[hat i j i0 X V T];split
  .rename_i g;rw[g.1,g.2];intro _;exact⟨hst'.1,Z⟩
  .exact A i j i0 X V T
 .by_cases g:at2 m (ak (y,u,r,f,h,x) k).2.1 d<0
  .rw[if_pos g]at hwo;omega
  .rw[if_neg g]at hwo;omega
def Ut(v:LC)(r j:LB)(i:Lo)(g:Ll)(u:Lk){a b:Int}{m:Lj}(hi:gO (v,r,j,i,g,u) a b m)(y:∀k d:Int,0<=k->k<g.length->0<=d->d<i.length->oi (v,r,j,i,g,u) (aF (v,r,j,i,g,u) a b) m k d): ∀(f:Nat) (o d:Int),0<=o->o<i.length->0<=d->d<i.length->0<=at2 (aL (v,r,j,i,g,u) a b) o d->(at2 (aL (v,r,j,i,g,u) a b) o d).toNat<=f->0<=at2 m o d/\at2 m o d<=at2 (aL (v,r,j,i,g,u) a b) o d
 | f,o,d,o0,o1,d0,d1,hb,V=>by
  obtain⟨T,hl,hrow,x,hrng,L⟩:=id hi;have z:=jd v r j i g u T;have X:aL (v,r,j,i,g,u) a b=bm (v,r,j,i,g,u) (b9 (v,r,j,i,g,u) a b):=by unfold aL;rw[T];rfl
  have A:aF (v,r,j,i,g,u) a b=b9 (v,r,j,i,g,u) a b:=by unfold aF;rw[T];rfl
  have hB:=(rj v r j i g u z).1;have hC:=Ox v r j i g u z;rw[<- X,<- A]at hB;rw[<- A]at hC;by_cases e:o=d
  .subst e;have:=x o o0 o1;omega
  .obtain⟨k,l,G,k2,k3,O,k5⟩:=hB.from_ o d o0 o1 d0 d1 e hb;have hp:=hC.pos k l G k2;obtain⟨_,t0,t1⟩:=hC.ends k l G;have k5:at2 (aL (v,r,j,i,g,u) a b) o d=(aF (v,r,j,i,g,u) a b).getD k 0+at2 (aL (v,r,j,i,g,u) a b) (lTo l) d:=k5;have O:0<=at2 (aL (v,r,j,i,g,u) a b) (lTo l) d:=O
   match f,V with
   | 0,V=>omega
   | f+1,V=>
    obtain⟨i1,i2⟩:=Ut v r j i g u hi y f (lTo l) d t0 t1 d0 d1 O Z;have hkl:k<g.length:=(qG.1 G).1;have el:ak (v,r,j,i,g,u) k=l:=by
     unfold ak;show g.getD (k:Int).toNat _=l;rw[qP,qA,G];rfl
    have h:=y k d Z Z d0 d1;unfold oi at h;rw[el,qP]at h;have e1:l.2.2.1=lTo l:=rfl;have e2:l.2.1=o:=k3;rw[e1,e2]at h;rcases h with h | h | h
    .exact(k2 h).elim
    .omega
    .exact⟨h.1,Z⟩
def aI2: ai Tryz.prog G0 KQ8:=af O6<|af Rn aId
def aBg{a b:Lj}{q:Nat}(g:a.length=q)(e:∀o:Int,0<=o->o<q->(a.getD o.toNat []).length=q)(f:Mp.Sq q b)(h:∀i j:Int,0<=i->i<q->0<=j->j<q->at2 a i j=at2 b i j): a=b:=by
 refine qBr (by rw[g,f.len]) λi r G=>?_
 have L:i<q:=by rw[<- g];exact r
 have y:=e i Z Z;have x:=f.row i Z Z;have v:a.getD (i:Int).toNat []=a[i]:=by rw[qP,qA,qB r,qK]
 have u:b.getD (i:Int).toNat []=b[i]:=by rw[qP,qA,qB G,qK]
 rw[v]at y;rw[u]at x;refine qBr Z λj A z=>?_
 have:=h i j Z Z Z Z;unfold at2 at this;rw[v,u,qP,qA,qA,qB A,qB z]at this;exact this
def inv_eq(v:LC)(r h:LB)(e:Lo)(f:Ll)(u:Lk){a b:Int}{m:Lj}(hi:gO (v,r,h,e,f,u) a b m)(V:∀k d:Int,0<=k->k<f.length->0<=d->d<e.length->oi (v,r,h,e,f,u) (aF (v,r,h,e,f,u) a b) m k d): m=aL (v,r,h,e,f,u) a b:=by
 obtain⟨hr,hl,y,X,z,x⟩:=id hi;have hco:=jd v r h e f u hr;have A:aL (v,r,h,e,f,u) a b=bm (v,r,h,e,f,u) (b9 (v,r,h,e,f,u) a b):=by unfold aL;rw[hr];rfl
 have hB:=(rj v r h e f u hco).1;rw[<- A]at hB;refine aBg (q:=e.length) hl y (by rw[A];exact Mp.ij _ _) λi j T O L G=>?_
 have h1:=z i j T O L G;have h2:=x i j T O L G;have h3:-1<=at2 (aL (v,r,h,e,f,u) a b) i j:=hB.lo i j T O L G;by_cases g:0<=at2 (aL (v,r,h,e,f,u) a b) i j
 .have h4:=Ut v r h e f u hi V _ i j T O L G g (qJ _);have h5:=h2 h4.1;omega
 .by_cases g2:0<=at2 m i j
  .exact(g (h2 g2).1).elim
  .omega
def YH(x:LC)(r f:LB)(e:Lo)(u:Ll)(v:Lk){a b:Int}(T:fC (x,r,f,e,u,v) a b=true): gO (x,r,f,e,u,v) a b (nb e.length e.length):=by
 have sq:Mp.Sq e.length (nb e.length e.length):=Mp.ij _ _;have y:∀i j:Int,0<=i->i<e.length->0<=j->j<e.length->at2 (nb e.length e.length) i j=FH e.length i j:=λi j A z O L=>Mp.iQ _ _ i j A z O L
 have V:=jd x r f e u v T;have X:aL (x,r,f,e,u,v) a b=bm (x,r,f,e,u,v) (b9 (x,r,f,e,u,v) a b):=by unfold aL;rw[T];rfl
 have hB:=(rj x r f e u v V).1;rw[<- X]at hB;refine⟨T,sq.len,sq.row,λo o0 G=>?_,λi j A z O L=>?_,λi j A z O L=>?_⟩
 .have G:o<e.length:=G;rw[y o o o0 G o0 G];unfold FH;rw[if_pos ⟨rfl,G⟩]
 .rw[y i j A z O L];unfold FH;split<;>omega
 .rw[y i j A z O L];unfold FH;split
  .rename_i g;intro _;have:=hB.same i A z;have this:at2 (aL (x,r,f,e,u,v) a b) i i=0:=this;rw[<- g.1];omega
  .intro h;omega
abbrev tn:=al [.row N,.val I,.val I] (λ(n,_,_,_)=>dI n=true) λ(n,a,b,_)=>.dat M (aL n a b)
def Rz: eO 123 tn:=ae λ(((V,O,L,u,v,T):Net),(a:Int),(b:Int),_)=>by
 refine zE (A:=(lvA [(5,[1,2,3,6,7,8,9,10,11,12,13,14]),(10,[3,6,7,9,10,11,12,13,14]),(13,[3,6,7,9,10,11,12,13,14]),(18,[3,6,7,9,10,11,12,13,14])] (XG (V,O,L,u,v,T) a b))) (p:=let i:=(v,T);let g:=(V,O,L,u,i);let c3:=Dj (fC g a b);let c4:=aL g a b;let h:=Df u;let c6:=oC (-1) h h;let e:=Dk c6;let c8:=Int.ofNat e;let j:=aF g a b;let c10:=Df v;let A:=Df j;(dI g->dI g/\(c3->c4=Dt (Li)/\True)/\(c3=false->aFM g/\(∃x,upto x h/\T2 a b g Z0 e (0=x/\c6=nb h x/\True))/\∀(x:Int),let z:=Dk (nb h x);let c14:=Du (nb h x) (Dc x) [];let c15:=Dk c14;let c16:=x+1;upto x h->Dk (nb h x)=e/\(Dp x c8->z=e/\0<=x/\x<Dz z/\z=e/\z=e/\0<=x/\x<Dz c15/\z=e/\c15=c15/\inR .i64 c16/\∃y,upto y h/\(T2 a b g Z0 e (c16=y/\Em (nb h x) (Dc x) (Em c14 (Dc x) 0)=nb h y/\True))/\Dc (h-y)<Dc (h-x))/\(Dp x c8=false->dI g/\(∃(x_3:Bool×Lj×Int),aF0 g a b x_3.1 x_3.2.1/\Q3 g Z0 e j (true=x_3.1/\nb h x=x_3.2.1/\True))/\∀(w:Bool×Lj×Int),aF0 g a b w.1 w.2.1->(w.1->(∃(x:Bool×Lj×Int),aFZ g a b w.2.1 x.1 x.2.1 x.2.2/\Q3 g Z0 e j (false=x.1/\0=x.2.2/\w.2.1=x.2.1/\True))/\∀(n:Bool×Lj×Int),let c29:=Dp n.2.2 c10;let c30:=Dc n.2.2;let f:=Du v c30 (ByteArray.mk #[],(0:Int),(0:Int),(0:Int),(0:Int),(0:Int));let c36:=Du j c30 0;let c38:=Dc f.2.1;let c39:=n.2.2+1;
  aFZ g a b w.2.1 n.1 n.2.1 n.2.2->(c29->0<=n.2.2/\n.2.2<c10/\0<=n.2.2/\n.2.2<c10/\(∃(x:Bool×Lj×Int),aEL g a b n.2.1 n.1 n.2.2 x.1 x.2.1 x.2.2/\Q3 g Z0 e j (n.1=x.1/\L7 n.2.2 f.2.1 f.2.2.1 (0=x.2.2/\L3 n.2.2 i v c10 c29 i v n.2.2 f (T5 f.2 f.2.1 i v n.2.2 f f.2.2 f.2.2.1 (n.2.1=x.2.1/\True)))))/\∀(s:Bool×Lj×Int),let c48:=Dp s.2.2 c8;let c49:=Ea c48 (Dw c36 (-1099511627776)) false;let X:=Dk s.2.1;let c51:=Dz X;let c52:=Du s.2.1 (Dc f.2.2.1) [];let c53:=Dk c52;let c55:=Dc s.2.2;let c56:=Du c52 c55 0;let r:=Ed c56 0;let c19:=r->X=e;let c58:=Du s.2.1 c38 [];let c59:=Dk c58;let c60:=Du c58 c55 0;let c61:=Dp c60 0;let G:=Dj c61;let c18:=Dh r G;let c17:=Dh r G->X=e;let c62:=c36+c56;let c63:=Ea r (Ea c61 true (Dp c62 c60)) false;let c64:=s.2.2+1;
  aEL g a b n.2.1 n.1 n.2.2 s.1 s.2.1 s.2.2->Dk s.2.1=e/\Q2 c48 ((c48->0<=n.2.2)/\(c48->n.2.2<A)/\Q2 c48 ((Dh true c48->c48)/\(c49->X=e/\0<=f.2.2.1/\f.2.2.1<c51/\X=e/\X=e/\0<=s.2.2/\s.2.2<Dz c53/\X=e/\c53=c53/\Q2 r (c19/\(r->0<=f.2.1)/\(r->f.2.1<c51)/\L4 r (c19/\Q2 r (c19/\(r->0<=s.2.2)/\(r->s.2.2<Dz c59)/\L4 r (c19/\(r->c59=c59)/\Q2 r (Q2 c18 ((Dh r G->0<=n.2.2)/\(Dh r G->n.2.2<A)/\Q4 c18 (c17/\(Dh r G->0<=f.2.2.1)/\(Dh r G->f.2.2.1<c51)/\L4 c18 (c17/\Q2 c18 (c17/\(Dh r G->0<=s.2.2)/\(Dh r G->s.2.2<Dz c53)/\L4 c18 (c17/\(Dh r G->c53=c53)/\Q2 c18 ((Dh r G->inR .i64 c62)/\Q2 c18 (c17/\(Dh r G->0<=f.2.1)/\(Dh r G->f.2.1<c51)/\L4 c18 (c17/\Q2 c18 (c17/\(Dh r G->0<=s.2.2)/\(Dh r G->s.2.2<Dz c59)/\L4 c18 (c17/\(Dh r G->c59=c59)/\Q2 c18 (L4 r ((r->Dh r G->Dh r G)/\(Dh true r->r)/\(c63->X=e/\0<=f.2.1/\f.2.1<c51/\X=e/\0<=n.2.2/\n.2.2<A/\X=e/\0<=f.2.2.1/\f.2.2.1<c51/\X=e/\X=e/\0<=s.2.2/\s.2.2<Dz c53/\X=e/\c53=c53/\inR .i64 c62/\X=e/\0<=s.2.2/\s.2.2<Dz c59/\X=e/\c59=c59/\inR .i64 c64/\∃(y:Bool×Lj×Int),aEL g a b n.2.1 n.1 n.2.2 y.1 y.2.1 y.2.2/\(Q3 g Z0 e j (true=y.1/\L7 n.2.2 f.2.1 f.2.2.1 (c64=y.2.2/\L3 n.2.2 i v c10 c29 i v n.2.2 f (T5 f.2 f.2.1 i v n.2.2 f f.2.2 f.2.2.1 (Em s.2.1 c38 (Em c58 c55 c62)=y.2.1/\True)))))/\Dc (h-y.2.2)<Dc (h-s.2.2))/\(c63=false->inR .i64 c64/\∃(y:Bool×Lj×Int),aEL g a b n.2.1 n.1 n.2.2 y.1 y.2.1 y.2.2/\
  (Q3 g Z0 e j (s.1=y.1/\L7 n.2.2 f.2.1 f.2.2.1 (c64=y.2.2/\L3 n.2.2 i v c10 c29 i v n.2.2 f (T5 f.2 f.2.1 i v n.2.2 f f.2.2 f.2.2.1 (s.2.1=y.2.1/\True)))))/\Dc (h-y.2.2)<Dc (h-s.2.2))))))))))))))))))))/\(c49=false->inR .i64 c39/\∃(y:Bool×Lj×Int),aFZ g a b w.2.1 y.1 y.2.1 y.2.2/\(Q3 g Z0 e j (s.1=y.1/\c39=y.2.2/\s.2.1=y.2.1/\True))/\Dc (c10-y.2.2)<Dc (c10-n.2.2)))))/\(c29=false->∃(y:Bool×Lj×Int),aF0 g a b y.1 y.2.1/\(Q3 g Z0 e j (n.1=y.1/\n.2.1=y.2.1/\True))/\muB y.1 y.2.1<muB w.1 w.2.1))/\(w.1=false->L5 g Z0 (Dk w.2.1=e/\Q3 w.2.1 j w.1 w.1 (w.2.1=c4/\True))))))) aI2 λhp=>?_
 refine Z9 ?_;simp only[qc,dF V O L u v T];have cl:(oC (-1) u.length u.length).length=u.length:=by rw[uO];exact qP _
 have dl:∀x:Int,(nb u.length x).length=u.length:=λx=>by unfold nb;rw[Mp.fB];exact qP _
 have dr:∀x o:Int,0<=o->o<u.length->((nb u.length x).getD o.toNat []).length=u.length:=λx o o0 o1=>(Mp.ij (FH x) u.length).row o o0 o1
 rw[cl];refine⟨hp,λh=>by unfold aL;rw[h];rfl,λhr=>?_⟩;have hs:=(jQ.1 hr).2;have q12:=(dE V O L u v T (aS V O L u v T hs)).1;have l40:=(fO V O L u v T (aS V O L u v T hs)).2;have hcl:(aF (V,O,L,u,v,T) a b).length=v.length:=by unfold aF;rw[hr];exact cD _ _ _
 refine⟨by show u.length<=1000000;omega,⟨0,⟨Z,.inr rfl⟩,rfl,?_⟩,λx hx=>⟨dl x,λhlt=>?_,λhge=>⟨hp,⟨(true,nb u.length x,0),⟨?_,λh=>by cases h⟩,rfl,rfl⟩,λy hy=>⟨λht=>⟨⟨(false,y.2.1,0),⟨hy.1,qH _,qM _,λ_=>⟨rfl,λk d k0 k1=>(by have k1:k<0:=k1;omega)⟩,λh=>by cases h⟩,rfl,rfl,rfl⟩,λz hz=>⟨λhzl=>⟨hz.2.1,hzl,hz.2.1,hzl,⟨(z.1,z.2.1,0),⟨hz.1,qH _,qM _,.inl ⟨rfl,rfl,λe e0 e1=>(by have e1:e<0:=e1;omega)⟩⟩,rfl,rfl,rfl⟩,λw hw=>⟨hw.1.2.1,λ_=>hz.2.1,λ_=>Z,λhc=>?_,λhc=>?_⟩⟩,λhzl=>?_⟩⟩,λhf=>?_⟩⟩⟩⟩
 .have e:∀i j:Nat,FH 0 i j=-1:=λi j=>by unfold FH;rw[if_neg Z]
  unfold nb aI oC;simp only[e,List.map_const',qU]
 .have x0:=hx.1;have r1:=dr x x x0 hlt;have l1:=dl x;refine⟨dl x,x0,Z,dl x,dl x,x0,Z,dl x,aD Z,x+1,⟨Z,.inl Z⟩,⟨rfl,?_⟩,Z⟩;unfold nb;rw[sn x0 hlt x0 hlt];refine dD λi j i0 i1 j0 j1=>?_
  unfold FH;by_cases g:i=j
  .by_cases g2:i=x
   .rw[if_pos ⟨g2,Z⟩,if_pos ⟨g,Z⟩]
   .rw[if_neg (λq=>g2 q.1)];by_cases g3:i<x
    .rw[if_pos ⟨g,g3⟩,if_pos ⟨g,Z⟩]
    .rw[if_neg (λq=>g3 q.2),if_neg (λq=>by have:=q.2;omega)]
  .rw[if_neg (λq=>g (by rw[q.1,q.2])),if_neg (λq=>g q.1),if_neg (λq=>g q.1)]
 .have ex:x=u.length:=by have:=hx.1;have:=hx.2;omega
  rw[ex];exact YH V O L u v T hr
 .have lw:w.2.1.length=u.length:=hw.1.2.1;have rw_:∀o:Int,0<=o->o<u.length->(w.2.1.getD o.toNat []).length=u.length:=hw.1.2.2.1;obtain⟨o0,o1,t0,t1,hne,_⟩:=db V O L u v T hs hz.2.1 hzl;have rT:=rw_ _ t0 t1;have rO:=rw_ _ o0 o1;have e0:=hw.2.1;have i0:=hz.2.1;have hT:=hw.1.2.2.2.2.1 _ w.2.2 t0 t1 e0 hc.1;have hO:=hw.1.2.2.2.2.1 _ w.2.2 o0 o1 e0 hc.1;have hcnt:=cnt_le lw rw_
  have hqq:u.length*u.length<=144:=Nat.mul_le_mul (show u.length<=12 by omega) (show u.length<=12 by omega);have hcr:0<(aF (V,O,L,u,v,T) a b).getD z.2.2.toNat 0/\(aF (V,O,L,u,v,T) a b).getD z.2.2.toNat 0<=1000000:=by
   have hc2:=hc.2;have e:aF (V,O,L,u,v,T) a b=b9 (V,O,L,u,v,T) a b:=by unfold aF;rw[hr];rfl
   rw[e]at hc2 ⊢;rcases(jd V O L u v T hr).2.2 z.2.2 i0 (by rw[cD];exact hzl)with g | g
   .exact(hc2 g).elim
   .exact g
  have hup:=aAb V O L u v T hw.1 i0 hzl hc.2 e0 hc.1;unfold at2 at hT hO hup;have hin:inR .i64 ((aF (V,O,L,u,v,T) a b).getD z.2.2.toNat 0+(w.2.1.getD (ak (V,O,L,u,v,T) z.2.2).2.2.1.toNat []).getD w.2.2.toNat 0):=aD Z;have hin2:inR .i64 (w.2.2+1):=aD Z;refine⟨lw,t0,Z,lw,lw,e0,Z,lw,?_⟩
  and_intros
  all_goals try first
   | exact λ_=>lw
   | exact λ_=>o0
   | exact λ_=>t0
   | exact λ_=>e0
   | exact λ_=>i0
   | exact λ_=>hin
   | (intro _;omega)
  .intro h;have h1:0<=(w.2.1.getD (ak (V,O,L,u,v,T) z.2.2).2.2.1.toNat []).getD w.2.2.toNat 0:=h.1;have h2:=h.2;obtain⟨u1,u2,_⟩:=hup h1 h2;have hlt:sumW wPb (SC w.2.1 (ak (V,O,L,u,v,T) z.2.2).2.1 w.2.2 ((aF (V,O,L,u,v,T) a b).getD z.2.2.toNat 0+(w.2.1.getD (ak (V,O,L,u,v,T) z.2.2).2.2.1.toNat []).getD w.2.2.toNat 0))<sumW wPb z.2.1:=by
    rcases hw.2.2.2 with⟨_,g2,_⟩ | ⟨_,g2⟩
    .rw[<- g2];exact u2
    .exact Nat.lt_trans u2 g2
   exact⟨lw,o0,Z,lw,i0,Z,lw,t0,Z,lw,lw,e0,Z,lw,hin,lw,e0,Z,lw,hin2,(true,SC w.2.1 (ak (V,O,L,u,v,T) z.2.2).2.1 w.2.2 ((aF (V,O,L,u,v,T) a b).getD z.2.2.toNat 0+(w.2.1.getD (ak (V,O,L,u,v,T) z.2.2).2.2.1.toNat []).getD w.2.2.toNat 0),w.2.2+1),
    ⟨u1,by show 0<=w.2.2+1;omega,by show w.2.2+1<=(u.length:Int);omega,.inr ⟨rfl,hlt⟩⟩,⟨rfl,rfl,rfl⟩,by show((u.length:Int)-(w.2.2+1)).toNat<_;omega⟩
  .intro h;have hstep:oi (V,O,L,u,v,T) (aF (V,O,L,u,v,T) a b) w.2.1 z.2.2 w.2.2:=by
    unfold oi at2;by_cases g:0<=(w.2.1.getD (ak (V,O,L,u,v,T) z.2.2).2.2.1.toNat []).getD w.2.2.toNat 0
    .obtain⟨h1,h2⟩:=h g;exact .inr (.inr ⟨Z,Z⟩)
    .exact .inr (.inl Z)
   refine⟨hin2,(w.1,w.2.1,w.2.2+1),⟨hw.1,by show 0<=w.2.2+1;omega,by show w.2.2+1<=(u.length:Int);omega,?_⟩,⟨rfl,rfl,rfl⟩,by show((u.length:Int)-(w.2.2+1)).toNat<_;omega⟩;rcases hw.2.2.2 with⟨g1,g2,g3⟩ | g
   .refine .inl ⟨g1,g2,λe x0 x1=>?_⟩;show oi (V,O,L,u,v,T) _ w.2.1 z.2.2 e;have x1:e<w.2.2+1:=x1;by_cases q:e=w.2.2
    .rw[q];exact hstep
    .exact g3 e x0 Z
   .exact .inr g
 .obtain⟨hz1,i0,i1,hzf,hzt⟩:=hz;obtain⟨hw1,e0,e1,hw2⟩:=hw;refine⟨aD Z,(w.1,w.2.1,z.2.2+1),⟨hw1,by show 0<=z.2.2+1;omega,by show z.2.2+1<=(v.length:Int);omega,λhwf=>?_,λhwt=>?_⟩,⟨rfl,rfl,rfl⟩,by show((v.length:Int)-(z.2.2+1)).toNat<_;omega⟩
  .have hwf:w.1=false:=hwf;rcases hw2 with⟨g1,g2,g3⟩ | ⟨g1,_⟩
   .obtain⟨h1,h2⟩:=hzf (by rw[<- g1];exact hwf);refine⟨by show w.2.1=y.2.1;rw[g2,h1],λk d k0 k1 d0 d1=>?_⟩;show oi (V,O,L,u,v,T) _ w.2.1 k d;by_cases e:k=z.2.2
    .by_cases hd:d<w.2.2
     .rw[e];exact g3 d d0 hd
     .rw[e];exact .inl (hc (by have d1:d<u.length:=d1;omega))
    .rw[g2];exact h2 k d k0 (by have k1:k<z.2.2+1:=k1;omega) d0 d1
   .rw[g1]at hwf;cases hwf
  .have hwt:w.1=true:=hwt;show sumW wPb w.2.1<sumW wPb y.2.1;rcases hw2 with⟨g1,g2,g3⟩ | ⟨g1,g2⟩
   .rw[g2];exact hzt (by rw[<- g1];exact hwt)
   .cases hb:z.1 with
    | false=>rw[<- (hzf hb).1];exact g2
    | true=>have:=hzt hb;omega
 .obtain⟨hz1,i0,i1,hzf,hzt⟩:=hz;have i1:z.2.2<=v.length:=i1;refine⟨(z.1,z.2.1,0),⟨hz1,λh k d k0 k1 d0 d1=>(hzf h).2 k d k0 (by have k1:k<v.length:=k1;omega) d0 d1⟩,⟨rfl,rfl⟩,?_⟩;show muB z.1 z.2.1<muB y.1 y.2.1;unfold muB;rw[ht];cases hb:z.1 with
  | false=>rw[(hzf hb).1];simp
  | true=>have:=hzt hb;simp;omega
 .have he:=inv_eq V O L u v T hy.1 (hy.2 hf);have hl:=hy.1.2.1
  first
   | exact⟨hl,he⟩
   | exact⟨hl,hl,hl,he⟩
def nxR(n:Net)(c:Li)(b:Lj): Nat->Int->Int->Int
 | 0,_,_=>-1
 | r+1,o,d=>if o≠d/\iL n c b o d ((n.2.2.2.2.1.length:Int)-(r+1))=true then(n.2.2.2.2.1.length:Int)-(r+1)else nxR n c b r o d
def nx2(n:Net)(c:Li)(b:Lj)(k o d:Int): Int:=nxR n c b ((n.2.2.2.2.1.length:Int)-k).toNat o d
def nxD(n:Net)(c:Li)(b:Lj)(i k o d:Int): Int:=if o=(ak n i).2.1/\d<k then nx2 n c b i o d else nx2 n c b (i+1) o d
def nxT(n:Net)(a b i:Int): Lj:=aI (nx2 n (aF n a b) (aL n a b) i) n.2.2.2.1.length
def HM(n:Net)(a b i k:Int): Lj:=aI (nxD n (aF n a b) (aL n a b) i k) n.2.2.2.1.length
def aEw(n:Net)(a b i:Int): Prop:=dI n=true/\fC n a b=true/\-1<=i/\i<n.2.2.2.2.1.length
def PO(n:Net)(a b i k:Int): Prop:=aEw n a b i/\0<=i/\0<=k/\k<=n.2.2.2.1.length
def KQ9: Kt:=kOr 123 tn KQ8
def XB(n:Net)(a b:Int): Ann:=⟨λe s=>match s.sig.T 9 with
 | .buf f _=>match e with
  | 7=>some {α:=Int,inv:=λi=>aEw n a b i,st:=λi=>fu (put (flat s) [(10,.dat I i)]) f (.mat 36 3 I (nxT n a b (Dq i 1)) []),μ:=λi=>Dc (Dq i 1)}
  | 12=>match s.sig.T 10 with
   | .dat (.int .i64) i=>some {α:=Int,inv:=λk=>PO n a b i k,st:=λk=>fu (put (flat s) [(13,.dat I k)]) f (.mat 36 3 I (HM n a b i k) []),μ:=λk=>Dc (Di (Df n.2.2.2.1) k)}
   | _=>none
  | _=>none
 | _=>none,λe s=>match e with
 | 16=>some (frz (HY s) s)
 | _=>none,λ_ _=>none⟩
abbrev s9:=al [.row N,.val I,.val I] (λ(n,_,_,_)=>dI n=true) λ(n,a,b,_)=>.dat M (bA n a b)
def aJn: Kt:=kOr 59 s9 KQ9
def aI1: ai Tryz.prog G0 KQ9:=af Rz aI2
def Ky{n:Net}{c:Li}{b:Lj}{i o d:Int}(f:0<=i)(e:i<n.2.2.2.2.1.length): nx2 n c b i o d=if o≠d/\iL n c b o d i=true then i else nx2 n c b (i+1) o d:=by
 unfold nx2;rw[show((n.2.2.2.2.1.length:Int)-i).toNat=((n.2.2.2.2.1.length:Int)-(i+1)).toNat+1 by omega,nxR];rw[show(n.2.2.2.2.1.length:Int)-(((n.2.2.2.2.1.length:Int)-(i+1)).toNat+1:Int)=i by omega]
def aBR{n:Net}{c:Li}{b:Lj}{i o d:Int}(h:(n.2.2.2.2.1.length:Int)<=i): nx2 n c b i o d=-1:=by
 unfold nx2;rw[show((n.2.2.2.2.1.length:Int)-i).toNat=0 by omega];rfl
def TK{n:Net}{c:Li}{b:Lj}{o d:Int}(e:o≠d): ∀r:Nat,r<=n.2.2.2.2.1.length->nxR n c b r o d=match((List.range n.2.2.2.2.1.length).drop (n.2.2.2.2.1.length-r)).find? λi:Nat=>iL n c b o d i with
  | some i=>(i:Int)
  | none=>-1
 | 0,_=>by
  rw[yC (by simp)];rfl
 | r+1,h=>by
  have j:=TK (n:=n) (c:=c) (b:=b) e r Z;have f:n.2.2.2.2.1.length-(r+1)<(List.range n.2.2.2.2.1.length).length:=by rw[qU];omega
  rw[List.drop_eq_getElem_cons f,qAz,show n.2.2.2.2.1.length-(r+1)+1=n.2.2.2.2.1.length-r by omega,gY,nxR];rw[show((n.2.2.2.2.1.length:Int)-((r:Int)+1))=((n.2.2.2.2.1.length-(r+1):Nat):Int) by omega];cases hb:iL n c b o d ((n.2.2.2.2.1.length-(r+1):Nat):Int)with
  | true=>rw[if_pos ⟨e,rfl⟩]
  | false=>rw[if_neg (λg=>by cases g.2)];exact j
def TJ{n:Net}{c:Li}{b:Lj}{o:Int}: ∀r:Nat,nxR n c b r o o=-1
 | 0=>rfl
 | r+1=>by rw[nxR,if_neg (λg=>g.1 rfl)];exact TJ r
def aEv(v:LC)(r j:LB)(h:Lo)(f:Ll)(u:Lk){a b o d:Int}(G:fC (v,r,j,h,f,u) a b=true)(o0:0<=o)(X:o<h.length)(d0:0<=d)(d1:d<h.length): nx2 (v,r,j,h,f,u) (aF (v,r,j,h,f,u) a b) (aL (v,r,j,h,f,u) a b) 0 o d=uv (v,r,j,h,f,u) (aF (v,r,j,h,f,u) a b) (aL (v,r,j,h,f,u) a b) o d:=by
 have x:=jd v r j h f u G;have z:aF (v,r,j,h,f,u) a b=b9 (v,r,j,h,f,u) a b:=by unfold aF;rw[G];rfl
 rw[<- z]at x;unfold nx2 uv;by_cases e:o=d
 .rw[if_pos (.inl e),e];exact TJ _
 .have O:=TK (n:=(v,r,j,h,f,u)) (c:=aF (v,r,j,h,f,u) a b) (b:=aL (v,r,j,h,f,u) a b) e f.length (qJ _);rw[show((((v,r,j,h,f,u):Net).2.2.2.2.1.length:Int)-0).toNat=f.length by show((f.length:Int)-0).toNat=f.length;omega,O];rw[show((v,r,j,h,f,u):Net).2.2.2.2.1.length-f.length=0 from qBf _,qDz];split
  .rename_i i hi;have y:=qZ.1 (List.mem_of_find?_eq_some hi);have y:i<f.length:=y;have L:iL (v,r,j,h,f,u) (aF (v,r,j,h,f,u) a b) (aL (v,r,j,h,f,u) a b) o d i=true:=qDs (p:=λi:Nat=>iL (v,r,j,h,f,u) (aF (v,r,j,h,f,u) a b) (aL (v,r,j,h,f,u) a b) o d i) hi;obtain⟨_,p2,V,T⟩:=ji.1 L;have A:=x.2.2 i Z (by rw[x.2.1];show(i:Int)<f.length;omega);rw[if_neg (λg=>by
    rcases g with g | g
    .exact e g
    .rcases A with q | q
     .exact p2 q
     .omega)]
   unfold As;rw[hi]
  .rename_i hi;split
   .rfl
   .unfold As;rw[hi]
def aBS(v:LC)(r h:LB)(e:Lo)(f:Ll)(u:Lk){a b x y:Int}(X:aR (v,r,h,e,f,u)=true)(G:0<=x)(A:x<f.length)(O:0<=y)(L:y<e.length)(z:(ak (v,r,h,e,f,u) x).2.1≠y)(hb:iL (v,r,h,e,f,u) (aF (v,r,h,e,f,u) a b) (aL (v,r,h,e,f,u) a b) (ak (v,r,h,e,f,u) x).2.1 y x=true):
  (HM (v,r,h,e,f,u) a b x y).set (ak (v,r,h,e,f,u) x).2.1.toNat (((HM (v,r,h,e,f,u) a b x y).getD (ak (v,r,h,e,f,u) x).2.1.toNat []).set y.toNat x)=HM (v,r,h,e,f,u) a b x (y+1):=by
 obtain⟨V,T,_⟩:=db v r h e f u X G A;unfold HM;show(aI _ (e.length:Int)).set _ (((aI _ (e.length:Int)).getD _ _).set _ _)=aI _ (e.length:Int);rw[sn V T O L];refine dD λi j i0 i1 j0 j1=>?_
 unfold nxD;by_cases g:i=(ak (v,r,h,e,f,u) x).2.1
 .by_cases g2:j=y
  .rw[if_pos ⟨g,g2⟩,if_pos ⟨g,Z⟩,g,g2,Ky G A,if_pos ⟨z,hb⟩]
  .rw[if_neg (λq=>g2 q.2)];by_cases g3:j<y
   .rw[if_pos ⟨g,g3⟩,if_pos ⟨g,Z⟩]
   .rw[if_neg (λq=>g3 q.2),if_neg (λq=>by have:=q.2;omega)]
 .rw[if_neg (λq=>g q.1),if_neg (λq=>g q.1),if_neg (λq=>g q.1)]
def XY(v:LC)(h f:LB)(u:Lo)(e:Ll)(r:Lk){a b x y:Int}(A:0<=x)(z:x<e.length)(G:¬((ak (v,h,f,u,e,r) x).2.1≠y/\iL (v,h,f,u,e,r) (aF (v,h,f,u,e,r) a b) (aL (v,h,f,u,e,r) a b) (ak (v,h,f,u,e,r) x).2.1 y x=true)): HM (v,h,f,u,e,r) a b x y=HM (v,h,f,u,e,r) a b x (y+1):=by
 unfold HM;refine dD λi j V T O L=>?_
 unfold nxD;by_cases g:i=(ak (v,h,f,u,e,r) x).2.1
 .by_cases g2:j=y
  .rw[if_neg (λq=>by have:=q.2;omega),if_pos ⟨g,Z⟩,g,g2,Ky (i:=x) A z,if_neg G]
  .by_cases g3:j<y
   .rw[if_pos ⟨g,g3⟩,if_pos ⟨g,Z⟩]
   .rw[if_neg (λq=>g3 q.2),if_neg (λq=>by have:=q.2;omega)]
 .rw[if_neg (λq=>g q.1),if_neg (λq=>g q.1)]
def TL(u:LC)(f e:LB)(r:Lo)(g:Ll)(h:Lk)(a b x:Int): nxT (u,f,e,r,g,h) a b (x+1)=HM (u,f,e,r,g,h) a b x 0:=by
 unfold nxT HM;refine dD λi j A z y v=>?_
 unfold nxD;rw[if_neg (λq=>by have:=q.2;omega)]
def aBT(v:LC)(r h:LB)(f:Lo)(e:Ll)(u:Lk){a b x:Int}(z:0<=x)(y:x<e.length): HM (v,r,h,f,e,u) a b x f.length=nxT (v,r,h,f,e,u) a b x:=by
 unfold nxT HM;refine dD λi j O L G A=>?_
 unfold nxD;by_cases g:i=(ak (v,r,h,f,e,u) x).2.1
 .rw[if_pos ⟨g,A⟩]
 .rw[if_neg (λq=>g q.1),Ky (i:=x) z y,if_neg (λq=>g (ji.1 q.2).1.symm)]
def Rr: eO 59 s9:=ae λ(((L,z,v,f,g,G):Net),(a:Int),(b:Int),_)=>by
 refine zE (A:=(lvA [(7,[3,6,7,8,9,10,11,12,13]),(12,[3,6,7,8,9,10,11,12,13])] (XB (L,z,v,f,g,G) a b))) (p:=let e:=(L,z,v,f,g,G);let c2:=Dj (fC e a b);let c3:=bA e a b;let A:=Df g;let c5:=A-1;let i:=aL e a b;let j:=aF e a b;let c8:=Df f;let c9:=oC (-1) c8 c8;let O:=Dk c9;let c12:=Df j;let T:=Df i;(dI e->dI e/\(c2->c3=Dt (Li)/\True)/\(c2=false->dI e/\dI e/\aFM e/\inR .i64 c5/\(∃x,aEw e a b x/\T2 e Z0 i j O (c5=x/\c9=nxT e a b (x+1)/\True))/\∀(x:Int),let c14:=Ed x 0;let h:=(Du g (Dc x) (ByteArray.mk #[],(0:Int),(0:Int),(0:Int),(0:Int),(0:Int))).2;let c18:=x+1;let c19:=nxT e a b c18;let c20:=Du j (Dc x) 0;let c21:=Dw c20 (-1099511627776);let c22:=Du i (Dc h.2.1) [];let c23:=Dc h.1;let c24:=Du i c23 [];let c25:=x-1;aEw e a b x->(c14->0<=x/\x<A/\0<=x/\x<A/\(∃r,PO e a b x r/\T5 e Z0 i j O x h.1 h.2.1 (0=r/\c19=HM e a b x r/\True))/\∀(r:Int),let X:=HM e a b x r;let V:=Ea c21 (Dw h.1 r) false;let c28:=Du c22 (Dc r) 0;let u:=Ea V (Ed c28 0) false;let c30:=c20+c28;let c31:=Ea u (Ec c30 (Du c24 (Dc r) 0)) false;let c32:=Dk X;let c33:=Du X c23 [];let c34:=Dk c33;let c35:=r+1;
  PO e a b x r->Dk X=O/\(Dp r (Int.ofNat O)->0<=x/\x<c12/\Q2 c21 ((Dh true c21->c21)/\Q2 V ((V->0<=h.2.1)/\(V->h.2.1<T)/\Q4 V ((V->0<=r)/\(V->r<Df c22)/\Q2 V ((Dh true V->V)/\Q2 u ((u->0<=x)/\(u->x<c12)/\Q4 u ((u->0<=h.2.1)/\(u->h.2.1<T)/\Q4 u ((u->0<=r)/\(u->r<Df c22)/\Q4 u ((u->inR .i64 c30)/\Q2 u ((u->0<=h.1)/\(u->h.1<T)/\Q4 u ((u->0<=r)/\(u->r<Df c24)/\Q4 u ((Dh true u->u)/\(c31->c32=O/\0<=h.1/\h.1<Dz c32/\c32=O/\c32=O/\0<=r/\r<Dz c34/\c32=O/\c34=c34/\inR .i64 c35/\∃y,PO e a b x y/\(T5 e Z0 i j O x h.1 h.2.1 (c35=y/\Em X c23 (Em c33 (Dc r) x)=HM e a b x y/\True))/\Dc (c8-y)<Dc (c8-r))/\(c31=false->inR .i64 c35/\∃y,PO e a b x y/\(T5 e Z0 i j O x h.1 h.2.1 (c35=y/\X=HM e a b x y/\True))/\Dc (c8-y)<Dc (c8-r))))))))))))))/\(Dp r (Int.ofNat O)=false->inR .i64 c25/\∃y,let c36:=y+1;aEw e a b y/\(T2 e Z0 i j O (c25=y/\X=nxT e a b c36/\True))/\Dc c36<Dc c18))/\(c14=false->Q3 e Z0 i j (Dk c19=O/\Q3 c19 x x c14 (c19=c3/\True)))))) aI1 λhp=>?_
 refine Z9 ?_;simp only[qc,dF L z v f g G];have cl:(oC (-1) f.length f.length).length=f.length:=by rw[uO];exact qP _
 rw[cl];refine⟨hp,λh=>by unfold bA;rw[h];rfl,λhr=>?_⟩;have hs:=(jQ.1 hr).2;have q12:=(dE L z v f g G (aS L z v f g G hs)).1;have l40:=(fO L z v f g G (aS L z v f g G hs)).2;have hce:aF (L,z,v,f,g,G) a b=b9 (L,z,v,f,g,G) a b:=by unfold aF;rw[hr];rfl
 have hbe:aL (L,z,v,f,g,G) a b=bm (L,z,v,f,g,G) (b9 (L,z,v,f,g,G) a b):=by unfold aL;rw[hr];rfl
 have hcl:(aF (L,z,v,f,g,G) a b).length=g.length:=by rw[hce];exact cD _ _ _
 have sb:Mp.Sq f.length (aL (L,z,v,f,g,G) a b):=by rw[hbe];exact Mp.ij _ _
 have sd:∀x y:Int,Mp.Sq f.length (HM (L,z,v,f,g,G) a b x y):=λx y=>Mp.ij _ _
 have st:∀x:Int,Mp.Sq f.length (nxT (L,z,v,f,g,G) a b x):=λx=>Mp.ij _ _
 refine⟨hp,hp,by show f.length<=1000000;omega,aD Z,⟨(g.length:Int)-1,⟨hp,hr,Z,by show(g.length:Int)-1<g.length;omega⟩,rfl,?_⟩,λx hx=>⟨λT=>?_,λhlt=>?_⟩⟩
 .have e:∀i j:Int,nx2 (L,z,v,f,g,G) (aF (L,z,v,f,g,G) a b) (aL (L,z,v,f,g,G) a b) ((g.length:Int)-1+1) i j=-1:=λi j=>aBR (by show(g.length:Int)<=_;omega)
  unfold nxT aI oC;simp only[e,List.map_const',qU]
 .have x1:x<g.length:=hx.2.2.2;obtain⟨o0,o1,t0,t1,_⟩:=db L z v f g G hs T x1;refine⟨T,x1,T,x1,⟨0,⟨hx,T,qH _,qM _⟩,rfl,TL L z v f g G a b x⟩,λy hy=>⟨(sd x y).len,λhlt=>?_,λhge2=>?_⟩⟩
  .have y0:=hy.2.2.1;have rT:=sb.row _ t0 t1;have rO:=sb.row _ o0 o1;have bl:=sb.len;have dl:=(sd x y).len;have dO:=(sd x y).row _ o0 o1;have hcb:=(jd L z v f g G hr).2.2 x T (by rw[cD];exact x1);have hbb:=(gF L z v f g G (jd L z v f g G hr) _ y t0 t1 y0 hlt).2;rw[<- hce]at hcb;rw[<- hbe]at hbb;unfold at2 at hbb;have hok:PO (L,z,v,f,g,G) a b x (y+1):=⟨hx,T,Z,by show y+1<=(f.length:Int);omega⟩
   have hin:(aF (L,z,v,f,g,G) a b).getD x.toNat 0≠-1099511627776->inR .i64 ((aF (L,z,v,f,g,G) a b).getD x.toNat 0+((aL (L,z,v,f,g,G) a b).getD (ak (L,z,v,f,g,G) x).2.2.1.toNat []).getD y.toNat 0):=λh=>by
    rcases hcb with q | q
    .exact(h q).elim
    .unfold inR;simp only;omega
   refine⟨T,Z,?_⟩
   and_intros
   all_goals try first
    | exact λ_=>t0
    | exact λ_=>o0
    | exact λ_=>y0
    | exact λ_=>T
    | exact λh=>hin h.1.1
    | (intro _;omega)
   .intro h;have hT:=h.1.2;have hb:iL (L,z,v,f,g,G) (aF (L,z,v,f,g,G) a b) (aL (L,z,v,f,g,G) a b) (ak (L,z,v,f,g,G) x).2.1 y x=true:=ji.2 ⟨rfl,h.1.1.1,hT,h.2⟩;exact⟨dl,o0,Z,dl,dl,y0,Z,dl,aD Z,y+1,hok,⟨rfl,aBS L z v f g G hs T x1 y0 hlt h.1.1.2 hb⟩,Z⟩
   .intro h;refine⟨aD Z,y+1,hok,⟨rfl,XY L z v f g G T x1 λq=>?_⟩,Z⟩;obtain⟨_,p2,p3,p4⟩:=ji.1 q.2;exact h ⟨⟨p2,q.1⟩,p3⟩ p4
  .have ey:y=f.length:=by
    have:y<=f.length:=hy.2.2.2;omega
   refine⟨aD Z,x-1,⟨hp,hr,Z,by show x-1<(g.length:Int);omega⟩,⟨rfl,?_⟩,Z⟩;rw[ey,show x-1+1=x by omega];exact aBT L z v f g G T x1
 .have ex:x=-1:=by have:=hx.2.2.1;omega
  have dl:=(st (x+1)).len;have he:nxT (L,z,v,f,g,G) a b (x+1)=bA (L,z,v,f,g,G) a b:=by
   rw[ex];unfold bA aBV nxT;rw[hr,if_pos rfl,<- hce];show aI _ (f.length:Int)=aI _ (f.length:Int);refine dD λi j i0 i1 j0 j1=>?_
   rw[show(-1:Int)+1=0 by omega,aEv L z v f g G hr i0 i1 j0 j1,hbe,hce]
  first
   | exact⟨dl,he⟩
   | exact⟨dl,dl,he⟩
def QQ: ai Tryz.prog G0 aJn:=af Rr aI1
def EA(c:Int×List Bool×Li)(d:Int): Prop:=ay c.1 c.2.1 c.2.2=true/\-900000<=d/\d<=900000
def XW(c:Int×List Bool×Li)(d k:Int): Prop:=EA c d/\0<=k/\k<=60/\cC c.2.1 c.2.2 d k=[]
def YW(c:Int×List Bool×Li)(a b:Int): Prop:=ay c.1 c.2.1 c.2.2=true/\-900000<=a/\a<=900000/\-900000<=b/\b<=900000
def LO(c:Int×List Bool×Li)(a d:Int): Int:=((cC c.2.1 c.2.2 (a+1) (d-(a+1))).length:Int)
def aFd(c:Int×List Bool×Li)(a b d:Int): Prop:=YW c a b/\b<=a+2000/\a+1<=d/\(d<=b+1\/d=a+1)
def aHB(n:Net)(o m t:Int): Prop:=nH n o/\0<=m/\m<=1439/\-1000000<=t/\t<=100000000
def wD(n:Net)(nx:Lj)(o to t:Int): Prop:=dI n=true/\Jw n nx o to t
def aEz(c:Int×List Bool×Li)(d:Int): Ann:=Z8 2 Int (XW c d) (λs k=>put s [(6,.dat I k)]) λk=>Dc (Di 60 k)
def aHT(c:Int×List Bool×Li)(a b:Int): Ann:=Z8 5 Int (aFd c a b) (λs d=>put s [(7,.dat I (LO c a d)),(8,.dat I d)]) λd=>Dc (Di (Dq b 1) d)
abbrev qo:=al [.val I,.val I] (λ_=>True) λ(i,l,_)=>.dat .bool (du i l)
abbrev B8:=al [.val I] (λ_=>True) λ(t,_)=>.dat .bool (ct t)
abbrev tG:=al [.row N,.val I,.val I] (λ(n,o,t,_)=>gA n o t) λ(n,o,t,_)=>.dat I (aH n o t)
abbrev x8:=al [.row C,.val I] (λ(c,d,_)=>EA c d) λ(c,d,_)=>.tup [.dat I (eQ c.2.1 c.2.2 d),.dat I (dX c.2.1 c.2.2 d)]
abbrev tK:=al [.row C,.val I,.val I] (λ(c,a,b,_)=>YW c a b) λ(c,a,b,_)=>.dat I (iP c.2.1 c.2.2 a b)
def KE1: Kt:=kOr 181 qo <|
 kOr 281 B8 <|
 kOr 232 tG <|
 kOr 301 x8 <|
 kOr 185 tK aJn
def aEF(n:Net)(nx:Lj): Ann:=⟨λb s=>match b with
 | 4=>some {α:=Int,inv:=λk=>pJ n nx k,st:=λk=>put s [(5,.dat I k)],μ:=λk=>Dc (Di (Df nx) k)}
 | 9=>match s.sig.T 5 with
  | .dat (.int .i64) o=>some {α:=Int,inv:=λk=>Hh n o (Du nx (Dc o) []) k,st:=λk=>put s [(6,.dat I k)],μ:=λk=>Dc (Di (Df nx) k)}
  | _=>none
 | _=>none,λ_ _=>none,λ_ _=>none⟩
abbrev yb:=al [.row C,.val I] (λ(c,d,_)=>EA c d) λ(c,d,_)=>.tup [.dat I (eQ c.2.1 c.2.2 d),.dat I (dX c.2.1 c.2.2 d)]
abbrev tI:=al [.row N,.val M] (λ(_,nx,_)=>dw nx) λ(n,nx,_)=>.dat .bool (mf n nx)
abbrev tD:=al [.row N,.val I,.val I,.val I] (λ(n,_)=>dI n=true) λ(n,k,o,t,_)=>.dat .bool (F2 n k o t)
def KE2: Kt:=kOr 282 yb <|
 kOr 126 tI <|
 kOr 233 tD KE1
abbrev qp:=al [.row N,.val I,.val I,.val I] (λ(n,o,m,t,_)=>aHB n o m t) λ(n,o,m,t,_)=>.tup [.dat I (iY (aC n o) m t),.dat I (mB (aC n o) m t)]
def KE3: Kt:=kOr 234 qp KE2
def Pe: eO 181 qo:=ae λ((i:Int),(l:Int),_)=>by
 refine zE (A:=az) (p:=let b:=Ed i 0;(True->Q2 b ((Dh true b->b)/\Ea b (Dp i l) false=du i l/\True))) QQ λ_=>⟨λh _=>h,λh _=>h,λh=>by simpa[Dh]using h,?_,trivial⟩
 unfold du;simp only[Ea,Ed,Dp,kM];by_cases h:0<=i<;>simp[h]
def aA0: eO 281 B8:=ae λ((t:Int),_)=>by
 refine zE (A:=az) (p:=let b:=Ed t 0;(True->L4 b ((Dh true b->b)/\Ea b (Ee t 2000000) false=ct t/\True))) QQ λ_=>⟨λh _=>h,λh=>by simpa[Dh]using h,?_,trivial⟩
 unfold ct;simp only[Ea,Ed,Ee,kM];by_cases h:0<=t<;>simp[h]
def RN: eO 232 tG:=ae λ(((r,h,g,b,i,j):Net),(o:Int),(t:Int),_)=>by
 refine zE (A:=az) (p:=let e:=(r,h,g,b,i,j);let f:=(Du b (Dc o) (ByteArray.mk #[],(0:Int),(0:Int),(0:Int),(0:Int),(0:Int),Dt ByteArray)).2.2.2.2;let u:=f.1*f.2.1;let v:=t+u;(gA e o t->0<=o/\o<Df b/\0<=o/\o<Df b/\inR .i64 u/\inR .i64 v/\v=aH e o t/\True)) QQ λu=>?_
 obtain⟨f,z,y⟩:=u;obtain⟨x,v⟩:=mN r h g b i j (t:=t) f;have e:aH (r,h,g,b,i,j) o t=t+(b.getD o.toNat (⟨#[]⟩,0,0,0,0,0,[])).2.2.2.2.1*(b.getD o.toNat (⟨#[]⟩,0,0,0,0,0,[])).2.2.2.2.2.1:=rfl;refine Z9 ?_;exact⟨f.2.1,f.2.2,f.2.1,f.2.2,aB Z,aB Z,e.symm⟩
def H4{w:List Bool}{h:Li}{a:Int}: ∀(j:Nat) {k:Int},0<=k->∃r,cC w h a (k+j)=cC w h a k++r
 | 0,k,_=>⟨[],by simp⟩
 | j+1,k,e=>by
  obtain⟨r,b⟩:=H4 (w:=w) (h:=h) (a:=a) j e;exact⟨r++_,by rw[show k+((j+1:Nat):Int)=k+j+1 by omega,jg Z,b,wG]⟩
def Ni{w:List Bool}{h:Li}{d k:Int}(e:0<=k)(i:k<60)(g:cC w h d k=[])(f:aW w h (d+k)=true): eQ w h d=d+k/\dX w h d=0:=by
 obtain⟨r,b⟩:=H4 (w:=w) (h:=h) (a:=d) (59-k).toNat (k:=k+1) Z;rw[show k+1+((59-k).toNat:Int)=60 by omega,jg e,g,if_pos f]at b;have:pS w h d=some (d+k):=by unfold pS;rw[b];rfl
 unfold eQ dX;rw[this];exact⟨rfl,rfl⟩
def Nh{w:List Bool}{h:Li}{d:Int}(b:cC w h d 60=[]): eQ w h d=0/\dX w h d=20:=by
 have:pS w h d=none:=by unfold pS;rw[b];rfl
 unfold eQ dX;rw[this];exact⟨rfl,rfl⟩
def WX: eO 301 x8:=ae λ(((z:Int),(w:List Bool),(h:Li)),(d:Int),_)=>by
 refine zE (A:=(lvA [(2,[1,2,4,5,6])] (aEz (z,w,h) d))) (p:=let b:=(z,w,h);(EA b d->(∃x,XW b d x/\L5 d b (0=x/\True))/\∀(x:Int),let e:=Dp x 60;let f:=aW w h (d+x);let g:=x+1;XW b d x->(e->inR .i64 (d+x)/\C7 z w h (d+x)/\(f->inR .i64 (d+x)/\d+x=eQ w h d/\0=dX w h d/\True)/\(f=false->inR .i64 g/\∃y,XW b d y/\(L5 d b (g=y/\True))/\Dc (60-y)<Dc (60-x)))/\(e=false->0=eQ w h d/\20=dX w h d/\True))) QQ λe=>?_
 obtain⟨u,O,L⟩:=id e;refine Z9 ?_;refine⟨⟨e,Z,Z,rfl⟩,λx ⟨_,r,G,g⟩=>⟨λf=>⟨aB Z,⟨u,dd Z Z⟩,λb=>?_,λb=>?_⟩,λv=>?_⟩⟩
 .obtain⟨j,i⟩:=Ni r f g b;exact⟨aB Z,j.symm,i.symm⟩
 .refine⟨aB Z,x+1,⟨e,Z,Z,?_⟩,rfl,Z⟩;show cC w h d (x+1)=[];rw[jg r,g,if_neg (by rw[b];decide)];rfl
 .have:x=60:=by omega
  subst this;obtain⟨j,i⟩:=Nh g;exact⟨j.symm,i.symm⟩
def RR: eO 185 tK:=ae λ(((z:Int),(w:List Bool),(h:Li)),(a:Int),(b:Int),_)=>by
 refine zE (A:=(lvA [(5,[2,3,6,7,8])] (aHT (z,w,h) a b))) (p:=let e:=(z,w,h);let A:=Dj (ay z w h);let i:=Dj A;let G:=Ea A true (Dj (bC a));let j:=Dj G;let O:=Ea G true (Dj (bC b));let r:=Dj O;let L:=a+2000;let T:=Ea O true (Ei b L);let g:=iP w h a b;let f:=a+1;let u:=b+1;(YW e a b->True/\L4 i ((i->True)/\L4 i ((Dh true i->i)/\L4 j ((j->True)/\L4 j ((Dh true j->j)/\L4 r ((r->inR .i64 L)/\Q2 r ((Dh true r->r)/\(T->(-1:Int)=g/\True)/\(T=false->inR .i64 f/\(∃x,aFd e a b x/\L7 b e Q1 (0=LO e a x/\f=x/\True))/\∀(x:Int),let V:=LO e a x+1;let v:=x+1;aFd e a b x->(Ee x b->C7 z w h x/\(aW w h x->inR .i64 V/\inR .i64 v/\∃y,aFd e a b y/\(L7 b e Q1 (V=LO e a y/\v=y/\True))/\Dc (u-y)<Dc (u-x))/\(aW w h x=false->inR .i64 v/\∃y,aFd e a b y/\(L7 b e Q1 (LO e a x=LO e a y/\v=y/\True))/\Dc (u-y)<Dc (u-x)))/\(Ee x b=false->LO e a x=g/\True)))))))))) QQ λr=>?_
 obtain⟨j,a0,a1,b0,b1⟩:=id r;have j:ay z w h=true:=j;have ha:bC a=true:=dd Z Z;have hb:bC b=true:=dd Z Z;have G:∀x,a+1<=x->LO (z,w,h) a (x+1)=LO (z,w,h) a x+if aW w h x=true then 1 else 0:=λx hx=>by
  unfold LO;rw[show x+1-(a+1)=x-(a+1)+1 by omega,jg Z,show a+1+(x-(a+1))=x by omega];split<;>simp
 have bd:∀x,LO (z,w,h) a x<=(x-(a+1)).toNat:=λx=>by
  unfold LO cC;have:=zQ (λd=>aW w h d) ((List.range (x-(a+1)).toNat).map λ(i:Nat)=>a+1+(i:Int));rw[qY,qU]at this;exact Int.ofNat_le.2 this
 refine Z9 ?_;simp only[qc,j,ha,hb,xM,false_or,false_and];refine⟨aB Z,λhg=>?_,λV=>⟨aB Z,⟨a+1,⟨r,Z,Z,.inr rfl⟩,?_,rfl⟩,λx ⟨_,_,v,O⟩=>⟨λT=>⟨⟨j,dd Z Z⟩,λu=>?_,λu=>?_⟩,λX=>?_⟩⟩⟩
 .unfold iP;rw[if_neg Z]
 .unfold LO cC;rw[Int.sub_self];rfl
 .have e:=G x v;rw[if_pos u]at e;have:=bd x;exact⟨aB (by unfold LO at *;omega),aB Z,x+1,⟨r,Z,Z,.inl Z⟩,⟨e.symm,rfl⟩,Z⟩
 .have e:=G x v;rw[if_neg (by rw[u];decide),qDm]at e;exact⟨aB Z,x+1,⟨r,Z,Z,.inl Z⟩,⟨e.symm,rfl⟩,Z⟩
 .unfold iP LO;rw[if_pos Z];rcases O with h1 | h1
  .rw[show x-(a+1)=b-a by omega]
  .unfold cC;rw[show(x-(a+1)).toNat=0 by omega,show(b-a).toNat=0 by omega]
def aGf: ai Tryz.prog G0 KE1:=af Pe<|af aA0<|af RN<|af WX<|af RR QQ
def WZ: eO 282 yb:=ae λ(((z:Int),(w:List Bool),(h:Li)),(d:Int),_)=>by
 refine zE (A:=az) (p:=let e:=Dj (ay z w h);let b:=Dj e;let f:=Ea e true (Dj (bC d));(EA (z,w,h) d->True/\L4 b ((b->True)/\L4 b ((Dh true b->b)/\(f->0=eQ w h d/\1=dX w h d/\True)/\(f=false->EA (z,w,h) d/\T7 (eQ w h d) (dX w h d)))))) aGf λe=>?_
 obtain⟨b,i,f⟩:=id e;have b:ay z w h=true:=b;have hd:bC d=true:=dd Z Z;refine Z9 ?_;simp only[qc,b,hd];exact⟨λg=>by rcases g with g | g<;>contradiction,e⟩
def RP: eO 126 tI:=ae λ(((cs,V,T,z,v,X):Net),(nx:Lj),_)=>by
 refine zE (A:=(lvA [(4,[1,2,4,5,6,7]),(9,[1,2,4,5,6,7])] (aEF (cs,V,T,z,v,X) nx))) (p:=let G:=Df nx;let i:=Dw G (Df z);let f:=(cs,V,T,z,v,X);let h:=mf f nx;let j:=Df v;(dw nx->(i->false=h/\True)/\(i=false->(∃x,pJ f nx x/\L5 nx f (0=x/\True))/\∀(x:Int),let A:=Dp x G;let g:=Du nx (Dc x) [];let L:=Df g;let c8:=Dw L G;let O:=x+1;pJ f nx x->(A->0<=x/\x<Df nx/\(c8->false=h/\True)/\(c8=false->(∃b,Hh f x g b/\L7 nx f x (0=b/\True))/\∀(b:Int),let c10:=Dp b G;let u:=Du g (Dc b) 0;let e:=Dw u (-1);let c13:=Dj (du u j);let r:=Dj c13;let c18:=Dh e r;let c14:=Ea e (Ea c13 true (Dw (Du v (Dc u) (ByteArray.mk #[],(0:Int),(0:Int),(0:Int),(0:Int),(0:Int))).2.1 x)) false;let c15:=b+1;Hh f x g b->(c10->0<=x/\x<Df nx/\0<=b/\b<L/\L4 e (Q4 e ((e->True)/\Q2 e (Q4 c18 ((Dh e r->0<=u)/\(Dh e r->u<j)/\L4 c18 (Q4 c18 (L4 e ((e->Dh e r->Dh e r)/\(Dh true e->e)/\(c14->false=h/\True)/\(c14=false->inR .i64 c15/\∃y,Hh f x g y/\(L7 nx f x (c15=y/\True))/\Dc (Df nx-y)<Dc (Df nx-b))))))))))/\(c10=false->inR .i64 O/\∃y,pJ f nx y/\(L5 nx f (O=y/\True))/\Dc (Df nx-y)<Dc (Df nx-x))))/\(A=false->true=h/\True)))) aGf λhf=>?_
 refine Z9 ?_;obtain⟨hf1,hf2⟩:=id hf;have hr:∀x:Int,0<=x->x<nx.length->(nx.getD x.toNat []).length<=1000000:=λx h0 h1=>hf2 _ (by
  rw[qA,qB Z,qK];exact wL _)
 have hct:∀x:Int,0<=x->((x.toNat:Nat):Int)=x:=λx h=>Z
 have bad:∀x:Int,pJ (cs,V,T,z,v,X) nx x->x<nx.length->rowOk (cs,V,T,z,v,X) x (nx.getD x.toNat [])=false->false=mf (cs,V,T,z,v,X) nx:=λx e f hb=>by
  refine(kC.2 λht=>?_).symm;have:=(oK e.2.2.1).1 ht x.toNat (by have:=e.1;omega);rw[hct x e.1,hb]at this;cases this
 refine⟨λhne=>?_,λhe=>⟨⟨qH _,Z,he,λi h=>Z⟩,λx e=>⟨λf=>⟨e.1,f,λg=>?_,λg=>⟨⟨qH _,Z,g.trans he,λi h=>Z⟩,λy L=>⟨λhlty=>⟨e.1,f,L.1,Z,λh=>(uI.1 h.2).1,λh=>(uI.1 h.2).2,λhc=>?_,λhc=>?_⟩,λhgey=>?_⟩⟩⟩,λhge=>?_⟩⟩⟩
 .unfold mf;rw[vC hne];rfl
 .refine bad x e f ?_;unfold rowOk;rw[vC (by show ¬((nx.getD x.toNat []).length:Int)=z.length;omega)];rfl
 .refine bad x e f ?_;refine kC.2 λht=>?_
  have O:=(pK (n:=(cs,V,T,z,v,X)) (g.trans he)).1 ht y.toNat (by have:=L.1;omega);unfold bq at O;simp only[yF,qC,qE]at O;obtain⟨h3,h4⟩:=hc;rcases O with O | ⟨O,h5⟩
  .exact h3 O
  .rcases h4 with h4 | h4
   .rw[h4]at O;cases O
   .exact h4 h5
 .have h1:=hr x e.1 f;refine⟨aB (by have:=L.1;omega),y+1,⟨by have:=L.1;omega,Z,g.trans he,λi hi=>?_⟩,rfl,by have:=L.1;omega⟩;by_cases h:(i:Int)<y
  .exact L.2.2.2 i h
  .have:i=y.toNat:=by have:=L.1;omega
   rw[this];unfold bq;simp only[yF,qC,qE];by_cases h1:(nx.getD x.toNat []).getD y.toNat 0=-1
   .exact .inl h1
   .exact .inr (hc h1)
 .refine⟨aB (by have:=e.1;omega),x+1,⟨by have:=e.1;omega,Z,he,λi hi=>?_⟩,rfl,by have:=e.1;omega⟩;by_cases h:(i:Int)<x
  .exact e.2.2.2 i h
  .have:i=x.toNat:=by have:=e.1;omega
   rw[this,hct x e.1];exact(pK (n:=(cs,V,T,z,v,X)) (g.trans he)).2 λj hj=>L.2.2.2 j Z
 .exact((oK he).2 λi hi=>e.2.2.2 i Z).symm
def RL: eO 233 tD:=ae λ(((i,g,f,e,h,b):Net),(k:Int),(o:Int),(t:Int),_)=>by
 refine zE (A:=az) (p:=let v:=(i,g,f,e,h,b);let j:=aR v;let r:=Ea j (du k (Df b)) false;let u:=Ea r (du o (Df e)) false;(dI v->dI v/\L4 j (Q4 j ((j->True)/\(Dh true j->j)/\L4 r (Q4 r ((r->True)/\(Dh true r->r)/\L4 u ((u->True)/\(Dh true u->u)/\Ea u (ct t) false=F2 v k o t/\True))))))) aGf λj=>?_
 refine Z9 ?_;refine⟨j,?_⟩;unfold F2;cases aR (i,g,f,e,h,b)<;>simp[Bool.and_assoc]
def aJc: ai Tryz.prog G0 KE2:=af WZ<|af RP<|af RL aGf
def Pg: eO 234 qp:=ae λ(((i,r,j,g,u,v):Net),(o:Int),(m:Int),(t:Int),_)=>by
 refine zE (A:=az) (p:=let z:=(i,r,j,g,u,v);let y:=(Du g (Dc o) (ByteArray.mk #[],(0:Int),(0:Int),(0:Int),(0:Int),(0:Int),Dt ByteArray)).2.2.1;let e:=Du i (Dc y) ((0:Int),Dt Bool,Dt Int);let c8:=Ei (JC e.1 t) m;let h:=bE e.1 t;let f:=h+1;let A:=dX e.2.1 e.2.2 f;let V:=Dw A 0;let X:=aC z o;let x:=iY X m t;let b:=mB X m t;let T:=eQ e.2.1 e.2.2 f;let O:=dX e.2.1 e.2.2 h;let L:=Dw O 0;let G:=eQ e.2.1 e.2.2 h;(aHB z o m t->0<=o/\o<Df g/\0<=y/\y<Df i/\Q3 1 0 1 0 (dW e.1 e.2.1 e.2.2 t/\(c8->inR .i64 f/\L5 1 0 (EA e f/\(V->0=x/\A=b/\True)/\(V=false->L5 1 0 (iV e.1 e.2.1 e.2.2 T m/\fx e.1 T m=x/\0=b/\True))))/\(c8=false->L5 1 0 (EA e h/\(L->0=x/\O=b/\True)/\(L=false->L5 1 0 (iV e.1 e.2.1 e.2.2 G m/\fx e.1 G m=x/\0=b/\True))))))) aJc λhp=>?_
 obtain⟨ho,m0,m1,t0,t1⟩:=id hp;obtain⟨X,V,hv,_⟩:=gC i r j g u v ho;have eC:i.getD (g.getD o.toNat (⟨#[]⟩,0,0,0,0,0,[])).2.2.1.toNat (0,[],[])=aC (i,r,j,g,u,v) o:=rfl;refine Z9 ?_;simp only[qc,eC];have hP:Lr (aC (i,r,j,g,u,v) o) m t:=⟨hv,Z,Z,Z,Z⟩;obtain⟨b1,b2⟩:=U3 hP;generalize aC (i,r,j,g,u,v) o=c at *;obtain⟨z,w,h⟩:=c;simp only at *
 have x:∀d,d=d0F (z,w,h) m t->EA (z,w,h) d/\(¬dX w h d=0->(0:Int)=iY (z,w,h) m t/\dX w h d=mB (z,w,h) m t)/\(dX w h d=0->iV z w h (eQ w h d) m/\fx z (eQ w h d) m=iY (z,w,h) m t/\(0:Int)=mB (z,w,h) m t):=by
  rintro d rfl;refine⟨⟨hv,Z,Z⟩,λy=>⟨(if_neg y).symm,rfl⟩,λy=>?_⟩;obtain⟨X,V,q3⟩:=pR y;exact⟨⟨hv,dd Z Z,m0,Z⟩,(if_pos y).symm,y.symm⟩
 refine⟨ho.2.1,ho.2.2,X,V,⟨hv,Z,Z⟩,λhlt=>?_,λhge=>?_⟩
 .have e:bE z t+1=d0F (z,w,h) m t:=(if_pos hlt).symm;obtain⟨X,V,q3⟩:=x _ e;exact⟨aB Z,X,V,q3⟩
 .have e:bE z t=d0F (z,w,h) m t:=(if_neg hge).symm;exact x _ e
def aIi: ai Tryz.prog G0 KE3:=af Pg aJc
def VD{n:Net}{k o t:Int}: F2 n k o t=true↔(0<=k/\k<n.2.2.2.2.2.length)/\(0<=o/\o<n.2.2.2.1.length)/\(0<=t/\t<=2000000)/\aR n=true:=by
 unfold F2 du ct;simp only[qC,qE,qCh]
abbrev tJ:=al [.row N,.val I,.val I,.val I] (λ(n,_)=>dI n=true) λ(n,k,o,t,_)=>.tup [.dat I (aCY n k o t),.dat I (sI n k o t)]
def RQ: eO 183 tJ:=ae λ(((r,g,f,j,i,e):Net),(k:Int),(o:Int),(t:Int),_)=>by
 refine zE (A:=az) (p:=let b:=(r,g,f,j,i,e);let v:=Dj (F2 b k o t);let x:=aCY b k o t;let y:=sI b k o t;let h:=(Du e (Dc k) (ByteArray.mk #[],(0:Int),(0:Int))).2.2;let u:=aH b o t;let z:=aC b o;(dI b->dI b/\(v->0=x/\1=y/\True)/\(v=false->0<=k/\k<Df e/\gA b o t/\aHB b o h u/\iY z h u=x/\mB z h u=y/\True))) aIi λx=>?_
 have z:(e.getD k.toNat (⟨#[]⟩,0,0)).2.2=(bF (r,g,f,j,i,e) k).2.2:=rfl;refine Z9 ?_;simp only[qc,z];refine⟨x,λh=>?_,λh=>?_⟩
 .unfold aCY sI;rw[h];exact⟨rfl,rfl⟩
 .obtain⟨u,y,O,v⟩:=VD.1 h;have b:nH (r,g,f,j,i,e) o:=⟨aS r g f j i e v,y⟩;obtain⟨_,c1,c2⟩:=oG r g f j i e b.1 (k:=k) u;obtain⟨L,G⟩:=mN r g f j i e (t:=t) b;refine⟨u.1,u.2,⟨b,Z,Z⟩,⟨b,c1,c2,Z,Z⟩,?_⟩;unfold aCY sI;rw[h];exact⟨rfl,rfl⟩
def aHy(n:Net)(nx:Lj)(k o d cut:Int): Prop:=dI n=true/\Jw n nx o d cut/\F8 n k
def ndA(n:Net)(nx:Lj)(o d cut:Int): Int:=((mD n nx o d cut).getD ((mD n nx o d cut).length-1) (0,0,0,0)).2.1
def ndF(n:Net)(nx:Lj)(k o d cut:Int): Int:=if iS n nx o d cut≠0 then -1 else if sI n k d (ndA n nx o d cut)≠0 then -1 else iP (aC n d).2.1 (aC n d).2.2 (bE (aC n d).1 cut) (bE (aC n d).1 (aCY n k d (ndA n nx o d cut)))
def aE4(n:Net)(k o d:Int): Int:=fx (aC n o).1 d (bF n k).2.1
def aE5(n:Net)(k o a b d:Int): Bool:=aW (aC n o).2.1 (aC n o).2.2 d&&decide (1440*a<=aE4 n k o d)&&decide (aE4 n k o d<1440*b)
def oO(n:Net)(k o a b d:Int): Li:=(((List.range (d-(a-2)).toNat).map λi:Nat=>a-2+(i:Int)).filter λx=>aE5 n k o a b x).map (aE4 n k o)
def jH(n:Net)(k o a b:Int): Li:=oO n k o a b (b+3)
def XF(n:Net)(k o a b:Int): Prop:=nH n o/\F8 n k/\0<=a/\a<b/\b<=600
def Hu(n:Net)(k o a b d:Int): Prop:=XF n k o a b/\a-2<=d/\d<=b+3
def zn(n:Net)(nx:Lj)(k o d a b i:Int): Bool:=((jH n k o a b).take i.toNat).any λx=>decide (ndF n nx k o d x<0)
def li(n:Net)(nx:Lj)(k o d a b i:Int): Int:=(((jH n k o a b).take i.toNat).map (ndF n nx k o d)).foldl max (-1)
def CY(n:Net)(nx:Lj)(k o d a b:Int): Int:=if zn n nx k o d a b (jH n k o a b).length=true then -1 else li n nx k o d a b (jH n k o a b).length
def pL(n:Net)(nx:Lj)(k o a b j:Int): Li:=(List.range j.toNat).map λd:Nat=>CY n nx k o d a b
def rB(n:Net)(nx:Lj)(k a b j:Int): Lj:=(List.range j.toNat).map λo:Nat=>pL n nx k o a b n.2.2.2.1.length
def oJ(n:Net)(nx:Lj)(a b j:Int): List (Lj):=(List.range j.toNat).map λk:Nat=>rB n nx k a b n.2.2.2.1.length
def Px(n:Net)(nx:Lj)(a b:Int): List (Lj):=if zP n nx a b=true then oJ n nx a b n.2.2.2.2.2.length else[]
def aAf(n:Net)(nx:Lj): Prop:=dI n=true/\dw nx
def tb1(n:Net)(nx:Lj)(a b k:Int): Prop:=dI n=true/\zP n nx a b=true/\0<=k/\k<=n.2.2.2.2.2.length
def tb2(n:Net)(nx:Lj)(a b k o:Int): Prop:=tb1 n nx a b k/\k<n.2.2.2.2.2.length/\0<=o/\o<=n.2.2.2.1.length
def tb3(n:Net)(nx:Lj)(a b k o d:Int): Prop:=tb2 n nx a b k o/\o<n.2.2.2.1.length/\0<=d/\d<=n.2.2.2.1.length
def tb4(n:Net)(nx:Lj)(a b k o d i:Int): Prop:=tb3 n nx a b k o d/\d<n.2.2.2.1.length/\0<=i/\i<=(jH n k o a b).length
def dsP(n:Net)(t:List (Lj)): Prop:=lu (0,0,[],t)
def dsR(m:Int)(t:Lj): Bool:=decide ((t.length:Int)=m)&&t.all λr=>decide ((r.length:Int)=m)
def dsF(n:Net)(t:List (Lj)): Bool:=decide ((t.length:Int)=n.2.2.2.2.2.length)&&t.all (dsR n.2.2.2.1.length)
def aEY(n:Net)(t:List (Lj))(k:Int): Prop:=(0<=k/\k<=t.length/\(t.length:Int)=n.2.2.2.2.2.length)/\(t.take k.toNat).all (dsR n.2.2.2.1.length)=true
def YD(n:Net)(t:List (Lj))(k j:Int): Prop:=aEY n t k/\k<t.length/\((t.getD k.toNat []).length:Int)=n.2.2.2.1.length/\0<=j/\j<=(t.getD k.toNat []).length/\((t.getD k.toNat []).take j.toNat).all (λr=>decide ((r.length:Int)=n.2.2.2.1.length))=true
def Hz(n:Net)(a b:Int): Bool:=lE a b&&aR n
def aDh(n:Net)(nx:Lj)(e to b:Int): Ann:=Z8 2 (List Stop×Int×Int) (QR n nx e to b) (λs x=>fu (put s [(12,.buf 100 (Dk x.1)),(2,.dat I x.2.1),(4,.dat I x.2.2)]) 100 (.buf 81 Stp x.1 [])) λx=>Dc (Di 20 (Df x.1))
abbrev BZ:=al [.row N,.val M,.val I,.val I,.val I] (λ(n,nx,o,b,t,_)=>wD n nx o b t) λ(n,nx,o,b,t,_)=>.tup [.dat (.sl Stp) (mD n nx o b t),.dat I (iS n nx o b t)]
def KE4: Kt:=kOr 183 tJ <|
 kOr 182 BZ KE3
def aHn(n:Net)(k o a b:Int): Ann:=Z8 4 Int (Hu n k o a b) (λs d=>fu (put s [(13,.dat I d),(12,.buf 100 (Dk (oO n k o a b d)))]) 100 (.buf 3 I (oO n k o a b d) [])) λd=>Dc (Di (Dq b 3) d)
def dsA(n:Net)(t:List (Lj)): Ann:=⟨λb s=>match b with
 | 4=>some {α:=Int,inv:=λk=>aEY n t k,st:=λk=>put s [(5,.dat I k)],μ:=λk=>Dc (Di (Df t) k)}
 | 9=>match s.sig.T 5 with
  | .dat (.int .i64) k=>some {α:=Int,inv:=λj=>YD n t k j,st:=λj=>put s [(6,.dat I j)],μ:=λj=>Dc (Di (Df (Du t (Dc k) [])) j)}
  | _=>none
 | _=>none,λ_ _=>none,λ_ _=>none⟩
def aHr(b e:Int): Ann:=Z8 3 Int (Hv b e) (λs k=>put s [(6,.dat I k),(5,.dat I (mr b k))]) λk=>Dc (Di e k)
abbrev tH:=al [.row N,.val M,.val I,.val I,.val I,.val I] (λ(n,nx,k,o,d,c,_)=>aHy n nx k o d c) λ(n,nx,k,o,d,c,_)=>.dat I (ndF n nx k o d c)
abbrev x9:=al [.row N,.val I,.val I,.val I,.val I] (λ(n,k,o,a,b,_)=>XF n k o a b) λ(n,k,o,a,b,_)=>.dat R (jH n k o a b)
abbrev Io:=al [.row N,.val (.sl M)] (λ(n,t,_)=>dsP n t) λ(n,t,_)=>.dat .bool (dsF n t)
abbrev B6:=al [.val I,.val I] (λ(b,e,_)=>ZN b e) λ(b,e,_)=>.dat I (mr b e)
abbrev B7:=al [.row N,.val I,.val I] (λ(n,_)=>dI n=true) λ(n,a,b,_)=>.dat .bool (Hz n a b)
def KE5: Kt:=kOr 127 tH <|
 kOr 15 x9 <|
 kOr 14 Io <|
 kOr 19 B6 <|
 kOr 16 B7 KE4
def aDn(n:Net)(nx:Lj)(a b:Int): Ann:=⟨λe s=>match e with
 | 5=>some {α:=Int,inv:=λk=>tb1 n nx a b k,st:=λk=>fu (put s [(10,.dat I k),(9,.buf 100 (Dk (oJ n nx a b k)))]) 100 (.buf 32 (.sl (.sl I)) (oJ n nx a b k) []),μ:=λk=>Dc (Di (Df n.2.2.2.2.2) k)}
 | 9=>match s.sig.T 10 with
  | .dat (.int .i64) k=>some {α:=Int,inv:=λo=>tb2 n nx a b k o,st:=λo=>fu (put s [(12,.dat I o),(11,.buf 101 (Dk (rB n nx k a b o)))]) 101 (.buf 36 (.sl I) (rB n nx k a b o) []),μ:=λo=>Dc (Di (Df n.2.2.2.1) o)}
  | _=>none
 | 14=>match s.sig.T 10,s.sig.T 12 with
  | .dat (.int .i64) k,.dat (.int .i64) o=>some {α:=Int,inv:=λd=>tb3 n nx a b k o d,st:=λd=>fu (put s [(15,.dat I d),(13,.buf 102 (Dk (pL n nx k o a b d)))]) 102 (.buf 3 I (pL n nx k o a b d) []),μ:=λd=>Dc (Di (Df n.2.2.2.1) d)}
  | _,_=>none
 | 19=>match s.sig.T 10,s.sig.T 12,s.sig.T 15 with
  | .dat (.int .i64) k,.dat (.int .i64) o,.dat (.int .i64) d=>some {α:=Int,inv:=λi=>tb4 n nx a b k o d i,st:=λi=>put s [(18,.dat I i),(16,.dat I (li n nx k o d a b i)),(17,.dat .bool (zn n nx k o d a b i))],μ:=λi=>Dc (Di (Df (jH n k o a b)) i)}
  | _,_,_=>none
 | _=>none,λe s=>match e with
 | 27=>some (frz [102] s)
 | 28=>some (frz [101] s)
 | _=>none,λ_ _=>none⟩
def H5{w:List Bool}{h:Li}{d j e:Int}(b:cC w h d j=[])(g:d<=e)(f:e<d+j): aW w h e≠true:=by
 unfold cC at b;rw[qBc]at b;exact b e (vM.2 ⟨(e-d).toNat,qZ.2 Z,Z⟩)
def Bm(w:List Bool)(h:Li)(d:Int): ∀k:Nat,cC w h d k=[]\/∃j:Int,0<=j/\j<k/\cC w h d j=[]/\aW w h (d+j)=true
 | 0=>.inl rfl
 | k+1=>by
  rcases Bm w h d k with g | ⟨j,b,j1,g1,g2⟩
  .by_cases hw:aW w h (d+k)=true
   .exact .inr ⟨k,Z,Z,g,hw⟩
   .left
    rw[show((k+1:Nat):Int)=(k:Int)+1 by omega,jg Z,g,if_neg hw];rfl
  .exact .inr ⟨j,b,Z,g1,g2⟩
def aE0(x:LC)(f b:LB)(u:Lo)(i:Ll)(r:Lk){l t:Int}(hs:aR (x,f,b,u,i,r)=true)(hl:T9 (x,f,b,u,i,r) l): dH (x,f,b,u,i,r) l t=uA (x,f,b,u,i,r) l t/\fX (x,f,b,u,i,r) l t=uN (x,f,b,u,i,r) l t:=by
 obtain⟨X,l0,l1⟩:=id hl;have hu:bO (x,f,b,u,i,r) l [t]=ct t:=by
  unfold bO;rw[hs,show du l (((x,f,b,u,i,r):Net).2.2.2.2.1.length:Int)=true from uI.2 ⟨l0,l1⟩];simp
 unfold dH fX uA uN;rw[hu];cases hk:ct t with
 | false=>exact⟨rfl,rfl⟩
 | true=>
  have G:=EI x f b u i r (line:=l) ⟨X,l0,l1⟩;obtain⟨m0,m1⟩:0<=Ai (x,f,b,u,i,r) l/\Ai (x,f,b,u,i,r) l<=1439:=id G;have A:∀d,aU (x,f,b,u,i,r) l d=d*1440+Ai (x,f,b,u,i,r) l-(aC (x,f,b,u,i,r) (b7 (x,f,b,u,i,r) l)).1:=λ_=>rfl
  have hc:dJ (x,f,b,u,i,r) l=aC (x,f,b,u,i,r) (b7 (x,f,b,u,i,r) l):=rfl;have hD:∀v,isDep (x,f,b,u,i,r) l v->aW (aC (x,f,b,u,i,r) (b7 (x,f,b,u,i,r) l)).2.1 (aC (x,f,b,u,i,r) (b7 (x,f,b,u,i,r) l)).2.2 (bE (aC (x,f,b,u,i,r) (b7 (x,f,b,u,i,r) l)).1 v)=true/\v=bE (aC (x,f,b,u,i,r) (b7 (x,f,b,u,i,r) l)).1 v*1440+Ai (x,f,b,u,i,r) l-(aC (x,f,b,u,i,r) (b7 (x,f,b,u,i,r) l)).1:=λv h=>⟨h.1,(ng h).symm⟩
  rw[if_pos rfl,if_pos rfl,if_pos rfl,if_pos rfl];unfold lv jZ;have y:d0F (aC (x,f,b,u,i,r) (b7 (x,f,b,u,i,r) l)) (Ai (x,f,b,u,i,r) l) t=if Ai (x,f,b,u,i,r) l<(t+(aC (x,f,b,u,i,r) (b7 (x,f,b,u,i,r) l)).1)%1440 then(t+(aC (x,f,b,u,i,r) (b7 (x,f,b,u,i,r) l)).1)/1440+1 else(t+(aC (x,f,b,u,i,r) (b7 (x,f,b,u,i,r) l)).1)/1440:=rfl
  unfold iY mB;generalize hcc:aC (x,f,b,u,i,r) (b7 (x,f,b,u,i,r) l)=c at *;obtain⟨z,w,h⟩:=c;generalize hd0:d0F (z,w,h) (Ai (x,f,b,u,i,r) l) t=L at *;generalize Ai (x,f,b,u,i,r) l=m at *;simp only at y hD A ⊢;have hb:t<=L*1440+m-z/\L*1440+m-z<t+1440:=by split at y<;>omega
  rcases Bm w h L 60 with g | ⟨j,j0,T,g1,g2⟩
  .obtain⟨e1,e2⟩:=Nh g;have hf:bG (x,f,b,u,i,r) l t=none:=On G λv v1 v2 V=>by
    obtain⟨O,k2⟩:=hD v V;exact H5 g (e:=bE z v) Z Z O
   rw[hf,e2];exact⟨rfl,rfl⟩
  .have T:j<60:=T;obtain⟨e1,e2⟩:=Ni j0 T g1 g2;have hf:bG (x,f,b,u,i,r) l t=some (aU (x,f,b,u,i,r) l (L+j)):=uM G (by rw[A];omega) (by rw[A];omega) (qf G (by rw[hc];exact g2)) λv v1 v2 V=>by
    obtain⟨O,k2⟩:=hD v V;rw[A]at v2;exact H5 g1 (e:=bE z v) Z Z O
   rw[hf,e2,e1];exact⟨A _,rfl⟩
def aAU: eO 182 BZ:=ae λ(((r,g,f,j,b,i):Net),(nx:Lj),(o:Int),(to:Int),(t:Int),_)=>by
 refine zE (A:=(lvA [(2,[1,2,3,4,5,10,11,12,13,14,15])] (aDh (r,g,f,j,b,i) nx o to t))) (p:=let e:=(r,g,f,j,b,i);let h:=mD e nx o to t;let u:=iS e nx o to t;let c4:=(ByteArray.mk #[],(0:Int),(0:Int),(0:Int),(0:Int),(0:Int));(wD e nx o to t->(∃(x:List Stop×Int×Int),let A:=x.2;let z:=x.1;QR e nx o to t x/\nx=nx/\o=A.1/\to=to/\t=A.2/\e=e/\Dk z=0/\z=Dt (Int×Int×Int×Int)/\z=Dt (Int×Int×Int×Int)/\True)/\∀(x:List (Int×Int×Int×Int)×Int×Int),let L:=x.2;let c8:=L.1;let T:=Dw c8 to;let c10:=Du nx (Dc c8) [];let G:=Du c10 (Dc to) 0;let V:=Dp G 0;let v:=L.2;let X:=aH e c8 v;let c15:=fX e G X;let c16:=Dw c15 0;let c17:=x.1;let O:=Dk c17;let c19:=dH e G X;let c20:=[(c8,v,c19,G)];let c21:=O+Dk c20;let c22:=Ef c17 c20;let c23:=Ed (Int.ofNat c21) 20;let c24:=(Du b (Dc G) c4).2.2;let c25:=c19+c24.2.2.1;let c26:=[(to,v,(-1:Int),(-1:Int))];let c27:=O+Dk c26;let c28:=Ef c17 c26;QR e nx o to t x->(T->0<=c8/\c8<Df nx/\0<=to/\to<Df c10/\(V->h=Dt (Int×Int×Int×Int)/\170=u/\True)/\(V=false->gA e c8 v/\dI e/\(c16->h=Dt (Int×Int×Int×Int)/\c15=u/\True)/\(c16=false->O=O/\(c21*32)<=140737488355328/\c21<=9223372036854775807/\Dk c22=c21/\(c23->h=Dt (Int×Int×Int×Int)/\170=u/\True)/\(c23=false->0<=G/\G<Df b/\0<=G/\G<Df b/\inR .i64 c25/\∃(y:List Stop×Int×Int),let c29:=y.2;let c30:=y.1;QR e nx o to t y/\(nx=nx/\c24.1=c29.1/\to=to/\c25=c29.2/\e=e/\c21=Dk c30/\c22=c30/\True)/\Dc (20-Df c30)<Dc (20-Df c17)))))/\(T=false->O=O/\(c27*32)<=140737488355328/\c27<=9223372036854775807/\Dk c28=c27/\c28=h/\0=u/\True))) aIi λ⟨hf,hp⟩=>?_
 refine Z9 ?_;refine⟨⟨([],o,t),⟨hp,by simp,(D9 19 o t).symm⟩,rfl,rfl,rfl,rfl,rfl⟩,?_⟩;rintro⟨d,u,v⟩ hx;obtain⟨⟨hs,ht,u0,u1,o0,o1,v0,v1⟩,hd,hw⟩:=id hx;simp only at u0 u1 o0 o1 v0 v1 hd hw ⊢;have hno:=aS r g f j b i hs;obtain⟨c1,c2,c3⟩:=dY r g f j b i ht u0 u1 o0 o1;have ec:(nx.getD u.toNat []).getD to.toNat 0=nxt nx u to:=rfl;rw[ec];generalize L:nxt nx u to=T at *
 have hoff:nH (r,g,f,j,b,i) u:=⟨hno,u0,u1⟩;have hW:iS (r,g,f,j,b,i) nx o to t=(A7 d (lH (r,g,f,j,b,i) nx to (19-d.length) u v)).2:=by unfold iS;rw[hw]
 have hL:mD (r,g,f,j,b,i) nx o to t=(A7 d (lH (r,g,f,j,b,i) nx to (19-d.length) u v)).1:=by unfold mD;rw[hw]
 have X:∀e:Int,e≠0->lH (r,g,f,j,b,i) nx to (19-d.length) u v=([],e)->mD (r,g,f,j,b,i) nx o to t=[]/\e=iS (r,g,f,j,b,i) nx o to t:=λe he h=>by
  rw[hW,hL,h];unfold A7;rw[if_neg he];exact⟨rfl,rfl⟩
 have ha1:∀z:Stop,(d++[z]).length=d.length+1:=λz=>by simp
 refine⟨λhne=>⟨u0,by rw[c1];exact u1,o0,by rw[c2];exact o1,λhm=>?_,λhm=>?_⟩,λhe=>?_⟩
 .have hm1:T=-1:=Classical.byContradiction λh=>by have:=(c3 h).1.1;omega
  exact X 170 (by decide) (mC _ hne (L.trans hm1))
 .have hm':nxt nx u to≠-1:=by rw[L];omega
  obtain⟨⟨l0,l1⟩,lf⟩:=c3 Z;have V:T9 (r,g,f,j,b,i) T:=⟨hno,l0,l1⟩;obtain⟨r1,r2⟩:=mN r g f j b i (t:=v) hoff;obtain⟨eD,eE⟩:=aE0 r g f j b i (t:=aH (r,g,f,j,b,i) u v) hs V;rw[eD,eE];refine⟨⟨hoff,Z,Z⟩,hf,λhz=>?_,λhz=>⟨by simp only[qV];omega,by simp only[qV];omega,by rw[ha1];simp,λh20=>?_,λh20=>?_⟩⟩
  .have:=ru (n:=(r,g,f,j,b,i)) (nx:=nx) (to:=to) (o:=u) (t:=v) (19-d.length) hne hm' (by rw[L];exact hz);rw[L]at this;exact X _ hz this
  .simp only[qV]at h20;refine X 170 (by decide) ?_;rw[show 19-d.length=0 by omega];exact pu hne hm' (by rw[L];exact hz)
  .simp only[qV]at h20;obtain⟨b1,b2,b3,b4⟩:=sg r g f j b i V hz;obtain⟨g1,g2,g3,g4,g5,g6,g7,g8⟩:=Bo r g f j b i V;have et:(b.getD T.toNat (⟨#[]⟩,0,0,0,0,0)).2.2.2.2.1=iW (r,g,f,j,b,i) T:=rfl;have eo:(b.getD T.toNat (⟨#[]⟩,0,0,0,0,0)).2.2.1=JD (r,g,f,j,b,i) T:=rfl;rw[et,eo];have hnx:=pq (n:=(r,g,f,j,b,i)) (nx:=nx) (to:=to) (o:=u) (t:=v) (19-(d.length+1)) hne hm' (by rw[L];exact hz)
   rw[show 19-(d.length+1)+1=19-d.length by omega,L]at hnx;refine⟨l0,l1,l0,l1,aB Z,(d++[(u,v,uA (r,g,f,j,b,i) T (aH (r,g,f,j,b,i) u v),T)],JD (r,g,f,j,b,i) T,uA (r,g,f,j,b,i) T (aH (r,g,f,j,b,i) u v)+iW (r,g,f,j,b,i) T),⟨⟨hs,ht,g3,g4,o0,o1,by simp only;omega,by simp only;omega⟩,by rw[ha1];omega,?_⟩,⟨rfl,rfl,by rw[ha1];rfl,rfl⟩,by rw[ha1];omega⟩;show lH (r,g,f,j,b,i) nx to 19 o t=_
   rw[hw,hnx,uD];simp
 .have:=Gq (n:=(r,g,f,j,b,i)) (nx:=nx) (to:=to) (o:=u) (t:=v) (19-d.length) he;rw[hW,hL,this];exact⟨by simp only[qV];omega,by simp only[qV];omega,by rw[ha1];rfl,by rw[Kp rfl,he],by rw[Kp rfl]⟩
def aDc: ai Tryz.prog G0 KE4:=af RQ<|af aAU aIi
def RO: eO 127 tH:=ae λ(((e,h,f,b,i,j):Net),(nx:Lj),(k:Int),(o:Int),(d:Int),(cut:Int),_)=>by
 refine zE (A:=az) (p:=let g:=(e,h,f,b,i,j);let y:=Dw (iS g nx o d cut) 0;let v:=ndF g nx k o d cut;let z:=mD g nx o d cut;let A:=Df z;let u:=A-1;let O:=(Du z (Dc u) ((0:Int),(0:Int),(0:Int),(0:Int))).2.1;let c8:=Dw (sI g k d O) 0;let x:=(Du b (Dc d) (ByteArray.mk #[],(0:Int),(0:Int),(0:Int),(0:Int),(0:Int),Dt ByteArray)).2.2.1;let r:=Du e (Dc x) ((0:Int),Dt Bool,Dt Int);let T:=aCY g k d O;let L:=bE r.1 cut;let G:=bE r.1 T;(aHy g nx k o d cut->wD g nx o d cut/\(y->(-1:Int)=v/\True)/\(y=false->inR .i64 u/\0<=u/\u<A/\dI g/\(c8->(-1:Int)=v/\True)/\(c8=false->0<=d/\d<Df b/\0<=x/\x<Df e/\Q3 1 0 1 0 (dW r.1 r.2.1 r.2.2 cut/\L5 1 0 (dW r.1 r.2.1 r.2.2 T/\L5 1 0 (YW r L G/\iP r.2.1 r.2.2 L G=v/\True))))))) aDc λ⟨hf,T,O⟩=>?_
 obtain⟨hs,ht,u0,u1,X,V,v0,v1⟩:=id T;have z:=aS e h f b i j hs;have hd:nH (e,h,f,b,i,j) d:=⟨z,X,V⟩;obtain⟨q1,q2,y,_⟩:=gC e h f b i j hd;obtain⟨_,m0,m1⟩:=oG e h f b i j z O;obtain⟨⟨z1,z2,_,_⟩,_⟩:=bM.1 y;have eC:e.getD (b.getD d.toNat (⟨#[]⟩,0,0,0,0,0,[])).2.2.1.toNat (0,[],[])=aC (e,h,f,b,i,j) d:=rfl;refine Z9 ?_;simp only[qc,eC];refine⟨⟨hf,T⟩,λx=>?_,λx=>?_⟩
 .unfold ndF;rw[if_pos x]
 obtain⟨w1,w2,w3,w4⟩:(mD (e,h,f,b,i,j) nx o d cut).length<=20/\mD (e,h,f,b,i,j) nx o d cut≠[]/\cut<=zv (e,h,f,b,i,j) (pN nx) o d cut/\zv (e,h,f,b,i,j) (pN nx) o d cut<=2200000:=C9 19 o cut T x;have hlen:0<(mD (e,h,f,b,i,j) nx o d cut).length:=qCm.2 w2;have eI:((mD (e,h,f,b,i,j) nx o d cut).length-1:Int).toNat=(mD (e,h,f,b,i,j) nx o d cut).length-1:=Z
 have eA:((mD (e,h,f,b,i,j) nx o d cut).getD ((mD (e,h,f,b,i,j) nx o d cut).length-1) (0,0,0,0)).2.1=ndA (e,h,f,b,i,j) nx o d cut:=rfl;rw[eI,eA];refine⟨aB Z,Z,Z,hf,λv=>?_,λv=>?_⟩
 .unfold ndF;rw[if_neg (λg=>g x),if_pos v]
 have u:F2 (e,h,f,b,i,j) k d (ndA (e,h,f,b,i,j) nx o d cut)=true:=by
  unfold sI at v;split at v
  .assumption
  .cases v
 obtain⟨_,_,⟨t0,t1⟩,_⟩:=VD.1 u;have eD:aCY (e,h,f,b,i,j) k d (ndA (e,h,f,b,i,j) nx o d cut)=iY (aC (e,h,f,b,i,j) d) (bF (e,h,f,b,i,j) k).2.2 (aH (e,h,f,b,i,j) d (ndA (e,h,f,b,i,j) nx o d cut)):=if_pos u;have eE:mB (aC (e,h,f,b,i,j) d) (bF (e,h,f,b,i,j) k).2.2 (aH (e,h,f,b,i,j) d (ndA (e,h,f,b,i,j) nx o d cut))=0:=by
  unfold sI at v;rw[if_pos u]at v;exact v
 obtain⟨r1,r2⟩:=mN e h f b i j (t:=ndA (e,h,f,b,i,j) nx o d cut) hd;obtain⟨b1,b2⟩:=lS y eE m0 m1;rw[<- eD]at b1 b2;refine⟨X,V,q1,q2,⟨y,Z,Z⟩,⟨y,Z,Z⟩,⟨y,?_⟩,?_⟩
 .show -900000<=bE _ _/\bE _ _<=900000/\-900000<=bE _ _/\bE _ _<=900000;unfold bE;omega
 .unfold ndF;rw[if_neg (λg=>g x),if_neg (λg=>g v)]
def Tf{n:Net}{k o a b x:Int}(h:a-2<=x): oO n k o a b (x+1)=oO n k o a b x++if aE5 n k o a b x=true then[aE4 n k o x]else[]:=by
 unfold oO;rw[show(x+1-(a-2)).toNat=(x-(a-2)).toNat+1 by omega,zJ,zZ,yL,zZ,qCs,show a-2+(((x-(a-2)).toNat:Nat):Int)=x by omega,yN];split<;>rfl
def MX(n:Net)(k o a b d:Int): (oO n k o a b d).length<=(d-(a-2)).toNat:=by
 unfold oO;rw[qY];exact wH (zQ _ _) (by rw[qY,qU];exact qJ _)
def WY: eO 15 x9:=ae λ(((i,r,j,f,u,e):Net),(k:Int),(o:Int),(a:Int),(b:Int),_)=>by
 refine zE (A:=(lvA [(4,[1,3,4,5,10,11,12,13,14,15])] (aHn (i,r,j,f,u,e) k o a b))) (p:=let h:=(i,r,j,f,u,e);let T:=(Du f (Dc o) (ByteArray.mk #[],(0:Int),(0:Int),(0:Int),(0:Int),(0:Int),Dt ByteArray)).2.2.1;let c3:=a-2;let g:=Du i (Dc T) ((0:Int),Dt Bool,Dt Int);let X:=b+2;let O:=(Du e (Dc k) (ByteArray.mk #[],(0:Int),(0:Int))).2.1;let c11:=1440*a;let c12:=1440*b;let A:=b+3;(XF h k o a b->0<=o/\o<Df f/\0<=T/\T<Df i/\L5 1 0 (inR .i64 c3/\(∃x,let c14:=oO h k o a b x;Hu h k o a b x/\T5 k a b h Z0 1 0 0 (Dk c14=0/\c14=Dt Int/\c3=x/\L7 g.1 g.2.1 g.2.2 (c14=Dt Int/\True)))/\∀(x:Int),let v:=Ea (aW g.2.1 g.2.2 x) (Ed (fx g.1 x O) c11) false;let c16:=Ea v (Dp (fx g.1 x O) c12) false;let L:=oO h k o a b x;let z:=Dk L;let c19:=[fx g.1 x O];let V:=z+Dk c19;let G:=x+1;Hu h k o a b x->inR .i64 X/\(Ee x X->L5 1 0 (0<=k/\k<Df e/\iV g.1 g.2.1 g.2.2 x O/\L5 1 0 (C7 g.1 g.2.1 g.2.2 x/\L4 (aW g.2.1 g.2.2 x) ((aW g.2.1 g.2.2 x->inR .i64 c11)/\Q2 (aW g.2.1 g.2.2 x) ((Dh true (aW g.2.1 g.2.2 x)->aW g.2.1 g.2.2 x)/\L4 v ((v->inR .i64 c12)/\Q2 v ((Dh true v->v)/\(c16->z=z/\(V*8)<=140737488355328/\V<=9223372036854775807/\inR .i64 G/\∃y,let c22:=oO h k o a b y;Hu h k o a b y/\(T5 k a b h Z0 1 0 0 (V=Dk c22/\G=y/\L7 g.1 g.2.1 g.2.2 (Ef L c19=c22/\True)))/\Dc (A-y)<Dc (A-x))/\(c16=false->inR .i64 G/\∃y,let c23:=oO h k o a b y;
  Hu h k o a b y/\(T5 k a b h Z0 1 0 0 (z=Dk c23/\G=y/\L7 g.1 g.2.1 g.2.2 (L=c23/\True)))/\Dc (A-y)<Dc (A-x)))))))))/\(Ee x X=false->z=z/\L=jH h k o a b/\True)))) aDc λhp=>?_
 have eC:i.getD (f.getD o.toNat (⟨#[]⟩,0,0,0,0,0,[])).2.2.1.toNat (0,[],[])=aC (i,r,j,f,u,e) o:=rfl;have eK:e.getD k.toNat (⟨#[]⟩,0,0)=bF (i,r,j,f,u,e) k:=rfl;have eT:∀x,fx (aC (i,r,j,f,u,e) o).1 x (bF (i,r,j,f,u,e) k).2.1=aE4 (i,r,j,f,u,e) k o x:=λ_=>rfl
 refine Z9 ?_;simp only[qc,eC,eK,eT];obtain⟨v,T,a0,ab,b1⟩:=id hp;obtain⟨q1,q2,hv,_⟩:=gC i r j f u e v;obtain⟨⟨m0,m1⟩,_⟩:=oG i r j f u e v.1 T;have m0:0<=(bF (i,r,j,f,u,e) k).2.1:=m0;have m1:(bF (i,r,j,f,u,e) k).2.1<=1439:=m1;have r0:oO (i,r,j,f,u,e) k o a b (a-2)=[]:=by
  unfold oO;rw[Int.sub_self];rfl
 refine⟨v.2.1,v.2.2,q1,q2,aB Z,⟨a-2,⟨hp,qH _,Z⟩,by rw[r0];rfl,r0,rfl,r0⟩,λx ⟨_,x0,x1⟩=>⟨aB Z,λhx=>?_,λhx=>?_⟩⟩
 .have hl:=MX (i,r,j,f,u,e) k o a b x;have X:=Tf (n:=(i,r,j,f,u,e)) (k:=k) (o:=o) (b:=b) x0;have hd:bC x=true:=dd Z Z;refine⟨T.1,T.2,⟨hv,hd,m0,Z⟩,⟨hv,hd⟩,λ_=>aB Z,λ_=>aB Z,λ⟨⟨h1,h2⟩,h3⟩=>?_,λh=>?_⟩
  .rw[if_pos (by unfold aE5;rw[h1,qW h2,qW h3];rfl)]at X;exact⟨by simp only[qV];omega,by simp only[qV];omega,aB Z,x+1,⟨hp,Z,Z⟩,⟨by rw[X,qF],rfl,X.symm⟩,Z⟩
  .rw[if_neg (by
    unfold aE5;rw[qC,qC,qE,qE];exact λg=>h g.1 g.2),vY]at X
   exact⟨aB Z,x+1,⟨hp,Z,Z⟩,⟨by rw[X],rfl,X.symm⟩,Z⟩
 .have:x=b+3:=by omega
  rw[this];rfl
def aDI: eO 14 Io:=ae λ(((X,T,O,g,V,j):Net),(t:List (Lj)),_)=>by
 refine zE (A:=(lvA [(4,[1,2,4,5,6]),(9,[1,2,4,5,6])] (dsA (X,T,O,g,V,j) t))) (p:=let e:=(X,T,O,g,V,j);let f:=Df t;let r:=Dw f (Df j);let i:=dsF e t;let u:=Df g;(dsP e t->(r->false=i/\True)/\(r=false->(∃x,aEY e t x/\L5 t e (0=x/\True))/\∀(x:Int),let v:=Du t (Dc x) (Dt (Li));let h:=Df v;let c8:=Dw h u;let A:=x+1;aEY e t x->(Dp x f->0<=x/\x<f/\(c8->false=i/\True)/\(c8=false->(∃b,YD e t x b/\L7 t e x (0=b/\True))/\∀(b:Int),let G:=Dw (Df (Du v (Dc b) [])) u;let z:=b+1;YD e t x b->0<=x/\x<f/\(Dp b h->0<=x/\x<f/\0<=b/\b<h/\(G->false=i/\True)/\(G=false->inR .i64 z/\∃y,YD e t x y/\(L7 t e x (z=y/\True))/\Dc (h-y)<Dc (h-b)))/\(Dp b h=false->inR .i64 A/\∃y,aEY e t y/\(L5 t e (A=y/\True))/\Dc (f-y)<Dc (f-x))))/\(Dp x f=false->true=i/\True)))) aDc λhp=>?_
 refine Z9 ?_;obtain⟨_,f1,f2⟩:=hp;have f1:t.length<=1000000:=f1;have e:dsF (X,T,O,g,V,j) t=(decide ((t.length:Int)=j.length)&&t.all (dsR g.length)):=rfl;refine⟨λh=>?_,λh=>⟨⟨⟨qH _,qM _,h⟩,rfl⟩,λx hx=>?_⟩⟩
 .rw[e,vC h];rfl
 obtain⟨⟨x0,x1,_⟩,r⟩:=id hx;refine⟨λf=>?_,λhge=>?_⟩
 .have hg:t.getD x.toNat []∈t:=getD_mem Z;have g1:=(f2 _ hg).1;have L:dsR g.length (t.getD x.toNat [])=false->false=dsF (X,T,O,g,V,j) t:=λh=>by
   rw[e,jE (d:=[]) (k:=x.toNat) Z h,yH]
  refine⟨x0,f,λv=>L (by unfold dsR;rw[vC v];rfl),λv=>⟨⟨hx,f,v,qH _,qM _,rfl⟩,λy hy=>?_⟩⟩;obtain⟨_,_,_,y0,y1,y2⟩:=id hy;refine⟨x0,f,λu=>⟨x0,f,y0,u,λi=>L ?_,λi=>⟨aB Z,y+1,⟨hx,f,v,Z,Z,?_⟩,rfl,Z⟩⟩,λu=>⟨aB Z,x+1,⟨⟨Z,Z,h⟩,?_⟩,rfl,Z⟩⟩
  .unfold dsR;rw[jE (d:=[]) (k:=y.toNat) Z (vC i),yH]
  .rw[show(y+1).toNat=y.toNat+1 by omega];exact dj (d:=[]) y2 Z (qW i)
  .rw[show(x+1).toNat=x.toNat+1 by omega];refine dj (d:=[]) r Z ?_;unfold dsR;rw[qN Z]at y2;rw[y2,qW v];rfl
 .rw[qN Z]at r;have r:t.all (dsR g.length)=true:=r;rw[e,qW h,r];rfl
def aAX: eO 19 B6:=ae λ((b:Int),(e:Int),_)=>by
 refine zE (A:=(lvA [(3,[0,1,4,5,6])] (aHr b e))) (p:=(ZN b e->(∃x,Hv b e x/\L7 b e Q1 (1=mr b x/\0=x/\True))/\∀(x:Int),let f:=mr b x*b;let g:=x+1;Hv b e x->(Dp x e->inR .i64 f/\inR .i64 g/\∃y,Hv b e y/\(L7 b e Q1 (f=mr b y/\g=y/\True))/\Dc (e-y)<Dc (e-x))/\(Dp x e=false->mr b x=mr b e/\True))) aDc λf=>?_
 refine Z9 ?_;obtain⟨v,u,G⟩:=id f;refine⟨⟨0,⟨f,Z,.inr rfl⟩,by unfold mr;simp,rfl⟩,λx ⟨_,g,z⟩=>⟨λj=>?_,λr=>?_⟩⟩
 .obtain⟨i,h⟩:=ZM v u (e:=x+1) Z;rw[uE g]at i h;exact⟨aB Z,aB Z,x+1,⟨f,Z,Z⟩,⟨(uE g).symm,rfl⟩,Z⟩
 .unfold mr;rw[show x.toNat=e.toNat by omega]
def aAY: eO 16 B7:=ae λ(((z,j,i,y,r,u):Net),(a:Int),(b:Int),_)=>by
 refine zF (c:={mkc KE4 with mb:=λt=>t==21}) (A:=az) aDc iI hm (p:=let e:=(z,j,i,y,r,u);let f:=aR e;let g:=Ea f (Ed a 0) false;let h:=Ea g (Ei b a) false;let v:=Ea h (Ee b (Ep IntKind.i64 (a+60))) false;true/\(dI e->dI e/\L4 f ((Dh true f->f)/\Q2 g ((Dh true g->g)/\Q4 h ((Dh true h->h)/\L4 v ((Dh true v->v)/\Ea v (Ee b 600) false=Hz e a b/\True)))))) ⟨rfl,λL=>?_⟩
 have v:Ea (Ea (Ea (Ea (aR (z,j,i,y,r,u)) (Ed a 0) false) (Ei b a) false) (Ee b (Ep .i64 (Dq a 60))) false) (Ee b 600) false=Hz (z,j,i,y,r,u) a b:=by
  unfold Hz lE;rw[kG];by_cases h:0<=a/\a<b/\b<=600
  .have G:Ep .i64 (Dq a 60)=a+60:=by
    unfold Ep;exact gn (by unfold Dq;exact aB Z)
   rw[G];refine Z9 ?_;constructor
   .rintro⟨⟨⟨⟨x,g⟩,f⟩,O⟩,e⟩;exact⟨⟨⟨⟨g,f⟩,e⟩,Z⟩,x⟩
   .rintro⟨⟨⟨⟨g,f⟩,e⟩,O⟩,x⟩;exact⟨⟨⟨⟨x,g⟩,f⟩,Z⟩,e⟩
  .generalize Ep .i64 (Dq a 60)=q;refine Z9 ?_;constructor
   .rintro⟨⟨⟨⟨_,g⟩,f⟩,_⟩,e⟩;exact(h ⟨g,f,e⟩).elim
   .rintro⟨⟨⟨⟨g,f⟩,e⟩,_⟩,_⟩;exact(h ⟨g,f,e⟩).elim
 generalize Ep .i64 (Dq a 60)=q at *;unfold L4 Q2 Q4;simp only[qAj,kJ,yB,vU,Dh,zX];exact⟨L,v⟩
def aIh: ai Tryz.prog G0 KE5:=af RO<|af WY<|af aDI<|af aAX<|af aAY aDc
def XE{n:Net}{k o a b x:Int}(h:x∈jH n k o a b): 1440*a<=x/\x<1440*b:=by
 unfold jH oO at h;obtain⟨d,hd,rfl⟩:=vM.1 h;have:=(yS.1 hd).2;unfold aE5 at this;simp only[qC,qE]at this;exact⟨this.1.2,this.2⟩
def nE{α:Type}(g:Nat->α){x:Int}(h:0<=x): (List.range (x+1).toNat).map g=(List.range x.toNat).map g++[g x.toNat]:=by
 rw[show(x+1).toNat=x.toNat+1 by omega,zJ,zZ];rfl
def PD{n:Net}{nx:Lj}{k o a b x:Int}(h:0<=x): pL n nx k o a b (x+1)=pL n nx k o a b x++[CY n nx k o x a b]:=by
 unfold pL;rw[nE _ h,show((x.toNat:Nat):Int)=x by omega]
def O2{n:Net}{nx:Lj}{k a b x:Int}(h:0<=x): rB n nx k a b (x+1)=rB n nx k a b x++[pL n nx k x a b n.2.2.2.1.length]:=by
 unfold rB;rw[nE _ h,show((x.toNat:Nat):Int)=x by omega]
def O0{n:Net}{nx:Lj}{a b x:Int}(h:0<=x): oJ n nx a b (x+1)=oJ n nx a b x++[rB n nx x a b n.2.2.2.1.length]:=by
 unfold oJ;rw[nE _ h,show((x.toNat:Nat):Int)=x by omega]
def Gv{α:Type}{l:List α}{i:Nat}(d:α)(h:i<l.length): l.take (i+1)=l.take i++[l.getD i d]:=by
 rw[wU,qB h,qA,qB h];rfl
def KF{n:Net}{nx:Lj}{k o d a b i:Int}(f:0<=i)(e:i<(jH n k o a b).length): li n nx k o d a b (i+1)=max (li n nx k o d a b i) (ndF n nx k o d ((jH n k o a b).getD i.toNat 0)):=by
 unfold li;rw[show(i+1).toNat=i.toNat+1 by omega,Gv 0 Z,zZ,qAe];rfl
def QM{n:Net}{nx:Lj}{k o d a b i:Int}(f:0<=i)(e:i<(jH n k o a b).length): zn n nx k o d a b (i+1)=(zn n nx k o d a b i||decide (ndF n nx k o d ((jH n k o a b).getD i.toNat 0)<0)):=by
 unfold zn;rw[show(i+1).toNat=i.toNat+1 by omega,Gv 0 Z,qBa];simp
def JQ{n:Net}{nx:Lj}{a b:Int}: zP n nx a b=true↔(0<=a/\a<b/\b<=600/\b-a<=60)/\aR n=true/\mf n nx=true:=by
 unfold zP;rw[qC,qC,qE]
abbrev B5:=al [.row N,.val M,.val I,.val I] (λ(n,nx,_)=>aAf n nx) λ(n,nx,a,b,_)=>.dat (.sl M) (Px n nx a b)
def aAW: eO 60 B5:=ae λ(((X,T,O,r,V,u):Net),(nx:Lj),(a:Int),(b:Int),_)=>by
 refine zF (c:={mkc KE5 with mb:=λt=>t==41}) (A:=(lvA [(5,[1,2,3,4,8,9,10,11,12,13,14,15,16,17,18,19]),(9,[1,2,3,4,8,9,10,11,12,13,14,15,16,17,18,19]),(14,[1,2,3,4,8,9,10,11,12,13,14,15,16,17,18,19]),(19,[1,2,3,4,8,9,10,11,12,13,14,15,16,17,18,19])] (aDn (X,T,O,r,V,u) nx a b))) aIh iI hm (p:=let i:=(r,V,u);let e:=(X,T,O,i);let c3:=Dj (aR e);let g:=Dj c3;let c5:=Ea c3 true (Dj (mf e nx));let z:=Dj c5;let c7:=Ea c5 true (Dp a 0);let c8:=Dj c7;let c9:=Ea c7 true (Ee b a);let c10:=Dj c9;let c11:=Ea c9 true (Ei b (Ep IntKind.i64 (a+60)));let A:=Dj c11;let c13:=Ea c11 true (Ei b 600);let c14:=Px e nx a b;let h:=Df u;let L:=Df r;let c17:=[(-1:Int)];true/\(aAf e nx->dI e/\Q2 g ((g->dw nx)/\L4 g ((Dh true g->g)/\L4 z ((Dh true z->z)/\Q2 c8 ((Dh true c8->c8)/\Q4 c10 ((Dh true c10->c10)/\L4 A ((Dh true A->A)/\(c13->c14=Dt (Lj)/\True)/\(c13=false->(∃x,let c19:=oJ e nx a b x;tb1 e nx a b x/\T2 nx a b e Z0 (Dk c19=0/\c19=Dt (Lj)/\0=x/\c19=Dt (Lj)/\True))/\∀(x:Int),let G:=oJ e nx a b x;let c21:=Dk G;let c22:=x+1;tb1 e nx a b x->(Dp x h->(∃f,let c23:=rB e nx x a b f;tb2 e nx a b x f/\T4 nx a b e Z0 c21 x (Dk c23=0/\c23=Dt (Li)/\0=f/\G=G/\c23=Dt (Li)/\True))/\∀(f:Int),let c24:=rB e nx x a b f;let c25:=Dk c24;let c26:=jH e x f a b;let c27:=Df c26;let c28:=f+1;let c29:=[c24];let c30:=c21+Dk c29;tb2 e nx a b x f->(Dp f L->XF e x f a b/\(∃j,let c31:=pL e nx x f a b j;tb3 e nx a b x f j/\L3 nx a b e Z0 c21 x c25 f (Dk c31=0/\c31=Dt Int/\c26=c26/\0=j/\L5 G c24 (c31=Dt Int/\True)))/\∀(j:Int),let c32:=pL e nx x f a b j;let c33:=Dk c32;let c34:=c33+(Dk c17);let c35:=j+1;let c36:=[c32];let c37:=c25+Dk c36;
  tb3 e nx a b x f j->(Dp j L->(∃v,tb4 e nx a b x f j v/\L3 nx a b e Z0 c21 x c25 f (L7 c33 c26 j ((-1:Int)=li e nx x f j a b v/\false=zn e nx x f j a b v/\0=v/\z6 G c24 c32)))/\∀(v:Int),let c38:=Du c26 (Dc v) 0;let c39:=zn e nx x f j a b v;let c40:=Dj c39;let c41:=v+1;let c42:=li e nx x f j a b v;let c43:=ndF e nx x f j c38;let c44:=[c42];let c45:=c33+Dk c44;tb4 e nx a b x f j v->(Dp v c27->0<=v/\v<c27/\aHy e nx x f j c38/\L4 c40 ((Dh true c40->c40)/\inR .i64 c41/\∃y,tb4 e nx a b x f j y/\(L3 nx a b e Z0 c21 x c25 f (L7 c33 c26 j (Ew c42 c43=li e nx x f j a b y/\Ea c39 true (Dp c43 0)=zn e nx x f j a b y/\c41=y/\z6 G c24 c32)))/\Dc (c27-y)<Dc (c27-v)))/\(Dp v c27=false->(c39->c33=c33/\(c34*8)<=140737488355328/\c34<=9223372036854775807/\inR .i64 c35/\∃y,let c46:=pL e nx x f a b y;tb3 e nx a b x f y/\(L3 nx a b e Z0 c21 x c25 f (c34=Dk c46/\c26=c26/\c35=y/\L5 G c24 (Ef c32 c17=c46/\True)))/\Dc (L-y)<Dc (L-j))/\(c39=false->c33=c33/\(c45*8)<=140737488355328/\c45<=9223372036854775807/\inR .i64 c35/\∃y,let c47:=pL e nx x f a b y;
  tb3 e nx a b x f y/\(L3 nx a b e Z0 c21 x c25 f (c45=Dk c47/\c26=c26/\c35=y/\L5 G c24 (Ef c32 c44=c47/\True)))/\Dc (L-y)<Dc (L-j))))/\(Dp j L=false->L3 nx a b e Z0 c21 x c25 f (L3 c33 c32 c26 j j i r L (Dp j L) (L7 G c24 c25 ((c37*24)<=140737488355328/\c37<=9223372036854775807/\inR .i64 c28/\∃y,let c48:=rB e nx x a b y;tb2 e nx a b x y/\(T4 nx a b e Z0 c21 x (c37=Dk c48/\c28=y/\G=G/\Ef c24 c36=c48/\True))/\Dc (L-y)<Dc (L-f))))))/\(Dp f L=false->L3 nx a b e Z0 c21 x c25 c24 (T5 f f i r L (Dp f L) G c21 ((c30*24)<=140737488355328/\c30<=9223372036854775807/\inR IntKind.i64 c22/\∃y,let c49:=oJ e nx a b y;tb1 e nx a b y/\(T2 nx a b e Z0 (c30=Dk c49/\c22=y/\Ef G c29=c49/\True))/\Dc (h-y)<Dc (h-x)))))/\(Dp x h=false->c21=c21/\G=c14/\True)))))))))) ⟨rfl,λ⟨hf,hfit⟩=>?_⟩
 have hw:0<=a->a<b->b<=600->Ep .i64 (Dq a 60)=a+60:=λh0 h1 h2=>by
  unfold Ep;exact gn (by unfold Dq;exact aB Z)
 generalize Ep .i64 (Dq a 60)=q at *;refine Z9 ?_;refine⟨hf,λ_=>hfit,λh=>?_,λ⟨⟨⟨⟨⟨hs,ht⟩,h0⟩,h1⟩,h2⟩,h3⟩=>?_⟩
 .unfold Px;refine if_neg λg=>?_
  obtain⟨⟨g0,g1,g2,g3⟩,g4,g5⟩:=JQ.1 g;have:=hw g0 g1 g2;rcases h with((((h | h) | h) | h) | h) | h
  .rw[g4]at h;cases h
  .rw[g5]at h;cases h
  all_goals omega
 have hq:=hw Z Z Z;have hok:zP (X,T,O,r,V,u) nx a b=true:=JQ.2 ⟨Z,hs,ht⟩;have hno:=aS X T O r V u hs;obtain⟨q1,q2⟩:=ko X T O r V u hs;have z1:tb1 (X,T,O,r,V,u) nx a b 0:=⟨hf,hok,qH _,qM _⟩;have l1:∀x,(oJ (X,T,O,r,V,u) nx a b x).length=x.toNat:=λx=>by unfold oJ;rw[qY,qU]
 have l2:∀k x,(rB (X,T,O,r,V,u) nx k a b x).length=x.toNat:=λk x=>by unfold rB;rw[qY,qU]
 have l3:∀k o x,(pL (X,T,O,r,V,u) nx k o a b x).length=x.toNat:=λk o x=>by unfold pL;rw[qY,qU]
 simp only[qV,l1,l2,l3];refine⟨⟨0,z1,rfl,rfl,rfl,rfl⟩,λx hx=>⟨λxl=>⟨⟨0,⟨hx,xl,qH _,qM _⟩,rfl,rfl,rfl,rfl⟩,λy hy=>⟨λyl=>⟨⟨⟨hno,hy.2.2.1,yl⟩,⟨hx.2.2.1,xl⟩,Z,Z,Z⟩,⟨0,⟨hy,yl,qH _,qM _⟩,rfl,rfl,rfl,rfl⟩,λz hz=>⟨λzl=>⟨⟨0,⟨hz,zl,qH _,qM _⟩,rfl,rfl,rfl⟩,λi hi=>⟨λil=>?_,λil=>?_⟩⟩,λzl=>?_⟩⟩,λyl=>?_⟩⟩,λxl=>?_⟩⟩
 .obtain⟨i0,i1⟩:=hi.2.2;have hm:=XE (getD_mem (l:=jH (X,T,O,r,V,u) x y a b) (i:=i.toNat) (d:=0) Z);have hl:=MX (X,T,O,r,V,u) x y a b (b+3);have hl:(jH (X,T,O,r,V,u) x y a b).length<=(b+3-(a-2)).toNat:=hl
  refine⟨i0,il,⟨hf,⟨hs,ht,hy.2.2.1,yl,hz.2.2.1,zl,Z,Z⟩,hx.2.2.1,xl⟩,aB Z,i+1,⟨hz,zl,Z,by show i+1<=((jH (X,T,O,r,V,u) x y a b).length:Int);omega⟩,⟨(KF i0 il).symm,(QM i0 il).symm,rfl⟩,Z⟩
 .obtain⟨i0,i1⟩:=hi.2.2;have z0:=hz.2.2.1;have ei:i.toNat=(jH (X,T,O,r,V,u) x y a b).length:=Z;have hz':tb3 (X,T,O,r,V,u) nx a b x y (z+1):=⟨hy,yl,Z,by show z+1<=(r.length:Int);omega⟩;have hr:=PD (n:=(X,T,O,r,V,u)) (nx:=nx) (k:=x) (o:=y) (a:=a) (b:=b) z0;have ec:zn (X,T,O,r,V,u) nx x y z a b i=zn (X,T,O,r,V,u) nx x y z a b (jH (X,T,O,r,V,u) x y a b).length:=by unfold zn;rw[ei];rfl
  have em:li (X,T,O,r,V,u) nx x y z a b i=li (X,T,O,r,V,u) nx x y z a b (jH (X,T,O,r,V,u) x y a b).length:=by unfold li;rw[ei];rfl
  rw[ec,em];refine⟨λhb=>?_,λhb=>?_⟩
  .have e:CY (X,T,O,r,V,u) nx x y z a b=-1:=if_pos hb;rw[e]at hr;exact⟨Z,Z,aB Z,z+1,hz',⟨Z,rfl,hr.symm⟩,Z⟩
  .have e:CY (X,T,O,r,V,u) nx x y z a b=li (X,T,O,r,V,u) nx x y z a b (jH (X,T,O,r,V,u) x y a b).length:=if_neg (by rw[hb];decide);rw[e]at hr;exact⟨Z,Z,aB Z,z+1,hz',⟨Z,rfl,hr.symm⟩,Z⟩
 .have y0:=hy.2.2.1;obtain⟨z0,z1⟩:=hz.2.2;have z1:z<=(r.length:Int):=z1;have hr:=O2 (n:=(X,T,O,r,V,u)) (nx:=nx) (k:=x) (a:=a) (b:=b) y0;have ez:z=r.length:=Z;rw[ez];exact⟨Z,Z,aB Z,y+1,⟨hx,xl,Z,by show y+1<=(r.length:Int);omega⟩,⟨Z,rfl,hr.symm⟩,Z⟩
 .have x0:=hx.2.2.1;obtain⟨y0,y1⟩:=hy.2.2;have y1:y<=(r.length:Int):=y1;have hr:=O0 (n:=(X,T,O,r,V,u)) (nx:=nx) (a:=a) (b:=b) x0;have ey:y=r.length:=Z;rw[ey];exact⟨Z,Z,aB Z,x+1,⟨hf,hok,Z,by show x+1<=(u.length:Int);omega⟩,⟨Z,rfl,hr.symm⟩,Z⟩
 .obtain⟨x0,x1⟩:=hx.2.2;have x1:x<=(u.length:Int):=x1;have ex:x=u.length:=Z;rw[ex];exact(if_pos hok).symm
def dv1(n:Net)(t:List (Lj))(k:Int): Prop:=dsF n t=true/\0<=k/\k<=t.length/\(t.take k.toNat).all (λr=>r.all λl=>l.all fY)=true
def dv2(n:Net)(t:List (Lj))(k o:Int): Prop:=dv1 n t k/\k<t.length/\0<=o/\o<=(t.getD k.toNat []).length/\((t.getD k.toNat []).take o.toNat).all (λl=>l.all fY)=true
def dv3(n:Net)(t:List (Lj))(k o d:Int): Prop:=dv2 n t k o/\o<(t.getD k.toNat []).length/\0<=d/\d<=((t.getD k.toNat []).getD o.toNat []).length/\(((t.getD k.toNat []).getD o.toNat []).take d.toNat).all fY=true
def dv(n:Net)(t:List (Lj)): Bool:=nY n (0,0,[],t)
def xS(n:Net)(p:Plan): Bool:=aR n&&iN n p
def vPr(n:Net)(p:Plan): Prop:=dI n=true/\lu p
def aHt(n:Net)(a b:Int): Prop:=dI n=true/\Hz n a b=true
def usB(p:Plan)(o l k:Int): Bool:=(List.range k.toNat).any λd:Nat=>decide ((d:Int)≠o/\(ca p o).getD d 0=l)
def gLn(n:Net)(p:Plan)(o l:Int): Li:=-1::(((List.range l.toNat).filter λi:Nat=>usB p o i n.2.2.2.1.length).map λi:Nat=>(i:Int))
def iz(p:Plan)(o d:Int)(g:Li): Nat->Int
 | 0=>if d=o then 0 else -1
 | 1=>if d=o then 0 else -1
 | k+2=>if d≠o/\(ca p o).getD d.toNat 0=g.getD (k+1) 0 then((k:Int)+1)else iz p o d g (k+1)
def JB(n:Net)(p:Plan)(o j:Int): Li:=(List.range j.toNat).map λd:Nat=>iz p o d (gsF n p o) (gsF n p o).length
def g1(n:Net)(p:Plan)(o l:Int): Prop:=vPr n p/\gOk n p o=true/\0<=l/\l<=n.2.2.2.2.1.length
def g2(n:Net)(p:Plan)(o l d:Int): Prop:=g1 n p o l/\l<n.2.2.2.2.1.length/\0<=d/\d<=n.2.2.2.1.length
def g3(n:Net)(p:Plan)(o d:Int): Prop:=vPr n p/\gOk n p o=true/\0<=d/\d<=n.2.2.2.1.length
def g4(n:Net)(p:Plan)(o d i:Int): Prop:=g3 n p o d/\d<n.2.2.2.1.length/\1<=i/\i<=(gsF n p o).length
def iy(n:Net)(a b:Int): Plan:=(a,b,bA n (1440*a) (1440*b),Px n (bA n (1440*a) (1440*b)) a b)
def aCn(n:Net)(a b o:Int): Bool:=(List.range o.toNat).any λi:Nat=>decide (mr (bI n i).2.2.2.1 (bI n i).2.2.2.2.1<((gsF n (iy n a b) i).length:Int))
def aF1(n:Net)(a b o:Int): Prop:=dI n=true/\Hz n a b=true/\0<=o/\o<=n.2.2.2.1.length
def dvA(n:Net)(t:List (Lj)): Ann:=⟨λb s=>match b with
 | 4=>some {α:=Int,inv:=λk=>dv1 n t k,st:=λk=>put s [(5,.dat I k)],μ:=λk=>Dc (Di (Df t) k)}
 | 7=>match s.sig.T 5 with
  | .dat (.int .i64) k=>some {α:=Int,inv:=λo=>dv2 n t k o,st:=λo=>put s [(6,.dat I o)],μ:=λo=>Dc (Di (Df (Du t (Dc k) [])) o)}
  | _=>none
 | 10=>match s.sig.T 5,s.sig.T 6 with
  | .dat (.int .i64) k,.dat (.int .i64) o=>some {α:=Int,inv:=λd=>dv3 n t k o d,st:=λd=>put s [(7,.dat I d)],μ:=λd=>Dc (Di (Df (Du (Du t (Dc k) []) (Dc o) [])) d)}
  | _,_=>none
 | _=>none,λ_ _=>none,λ_ _=>none⟩
abbrev Im:=al [.row N,.val (.sl M)] (λ(n,t,_)=>dsP n t) λ(n,t,_)=>.dat .bool (dv n t)
def KE6: Kt:=kOr 60 B5 <|
 kOr 128 Im KE5
abbrev B0:=al [.row N,.row Pl] (λ(n,p,_)=>vPr n p) λ(n,p,_)=>.dat .bool (xS n p)
abbrev x7:=al [.row N,.val I,.val I] (λ(n,a,b,_)=>aHt n a b) λ(n,a,b,_)=>.agg [.dat I (iy n a b).1,.dat I (iy n a b).2.1,.dat M (iy n a b).2.2.1,.dat (.sl M) (iy n a b).2.2.2]
def KE7: Kt:=kOr 61 B0 <|
 kOr 17 x7 KE6
def aEN(n:Net)(p:Plan)(o:Int): Ann:=⟨λb s=>match b with
 | 5=>match s.sig.T 31 with
  | .buf e _=>some {α:=Int,inv:=λl=>g1 n p o l,st:=λl=>fu (put s [(9,.dat I l),(8,.buf e (Dk (gLn n p o l)))]) e (.buf 3 I (gLn n p o l) []),μ:=λl=>Dc (Di (Df n.2.2.2.2.1) l)}
  | _=>none
 | 9=>match s.sig.T 9 with
  | .dat (.int .i64) l=>some {α:=Int,inv:=λd=>g2 n p o l d,st:=λd=>put s [(11,.dat I d),(10,.dat .bool (usB p o l d))],μ:=λd=>Dc (Di (Df n.2.2.2.1) d)}
  | _=>none
 | 16=>some {α:=Int,inv:=λd=>g3 n p o d,st:=λd=>fu (put s [(13,.dat I d),(12,.buf 101 (Dk (JB n p o d)))]) 101 (.buf 3 I (JB n p o d) []),μ:=λd=>Dc (Di (Df n.2.2.2.1) d)}
 | 22=>match s.sig.T 13 with
  | .dat (.int .i64) d=>some {α:=Int,inv:=λi=>g4 n p o d i,st:=λi=>put s [(15,.dat I i),(14,.dat I (iz p o d (gsF n p o) (Dc i)))],μ:=λi=>Dc (Di (Df (gsF n p o)) i)}
  | _=>none
 | _=>none,λb s=>match b with
 | 14=>some (frz (allNames s) s)
 | _=>none,λ_ _=>none⟩
abbrev B9:=al [.row N,.row Pl,.val I] (λ(n,p,_)=>vPr n p) λ(n,p,o,_)=>.tup [.dat R (gsF n p o),.dat R (ofF n p o)]
def KE8: Kt:=kOr 18 B9 KE7
def aJP(n:Net)(a b:Int): Ann:=Z8 10 Int (aF1 n a b) (λs o=>put s [(13,.dat I o),(12,.dat .bool (aCn n a b o))]) λo=>Dc (Di (Df n.2.2.2.1) o)
def aDU(m:Int)(t:Lj): sgF jb t m=(dsR m t&&t.all λl=>l.all fY):=by
 rw[kG];unfold sgF dsR sgR jb;simp only[qC,qE,qO,qZ];constructor
 .rintro⟨h,g⟩;have f:∀r∈t,(r.length:Int)=m/\∀x∈r,fY x=true:=λr b=>by
   obtain⟨i,e,rfl⟩:=wZ.1 b;have:=g i e;rw[qA,qB e,qK]at this;exact this
  exact⟨⟨h,λr b=>(f r b).1⟩,λr b=>(f r b).2⟩
 .rintro⟨⟨h,g⟩,f⟩;exact⟨h,λi e=>⟨g _ (getD_mem e),f _ (getD_mem e)⟩⟩
def aCp(n:Net)(t:List (Lj)): dv n t=(dsF n t&&t.all λr=>r.all λl=>l.all fY):=by
 unfold dv nY dsF;simp only[aDU];rw[kG];simp only[qC,qE,qO];exact⟨λ⟨f,e⟩=>⟨⟨f,λx b=>(e x b).1⟩,λx b=>(e x b).2⟩,λ⟨⟨f,e⟩,g⟩=>⟨f,λx b=>⟨e x b,g x b⟩⟩⟩
def aDH: eO 128 Im:=ae λ(((cs,ns,os,fs,ls,ks):Net),(t:List (Lj)),_)=>by
 refine zE (A:=(lvA [(4,[1,4,5,6,7]),(7,[1,4,5,6,7]),(10,[1,4,5,6,7])] (dvA (cs,ns,os,fs,ls,ks) t))) (p:=let f:=(cs,ns,os,fs,ls,ks);let z:=Dj (dsF f t);let v:=dv f t;let h:=Df t;(dsP f t->dsP f t/\(z->false=v/\True)/\(z=false->(∃x,dv1 f t x/\t=t/\0=x/\True)/\∀(x:Int),let A:=Du t (Dc x) (Dt (Li));let i:=Df A;let G:=x+1;dv1 f t x->(Dp x h->(∃b,dv2 f t x b/\L5 t x (0=b/\True))/\∀(b:Int),let c8:=Du A (Dc b) [];let j:=Df c8;let u:=b+1;dv2 f t x b->0<=x/\x<h/\(Dp b i->(∃e,dv3 f t x b e/\L7 t x b (0=e/\True))/\∀(e:Int),let r:=Du c8 (Dc e) 0;let L:=Dp r (-1);let g:=Dj L;let O:=Ea L true (Ei r 65518);let T:=e+1;dv3 f t x b e->0<=x/\x<h/\0<=b/\b<i/\(Dp e j->0<=x/\x<h/\0<=b/\b<i/\0<=e/\e<j/\Q2 g ((g->0<=x)/\(g->x<h)/\Q4 g ((g->0<=b)/\(g->b<i)/\Q4 g ((g->0<=e)/\(g->e<j)/\Q2 g ((Dh true g->g)/\(O->false=v/\True)/\(O=false->inR IntKind.i64 T/\∃y,dv3 f t x b y/\(L7 t x b (T=y/\True))/\Dc (j-y)<Dc (j-e)))))))/\(Dp e j=false->inR .i64 u/\∃y,dv2 f t x y/\(L5 t x (u=y/\True))/\Dc (i-y)<Dc (i-b)))/\(Dp b i=false->inR .i64 G/\∃y,dv1 f t y/\(t=t/\G=y/\True)/\Dc (h-y)<Dc (h-x)))/\(Dp x h=false->true=v/\True)))) aIh λhp=>?_
 obtain⟨_,f1,f2⟩:=id hp;have f1:t.length<=1000000:=f1;have f2:∀x∈t,dw x:=f2;refine Z9 ?_;refine⟨hp,λh=>by rw[aCp,h];rfl,λh=>⟨⟨h,qH _,qM _,rfl⟩,λx V=>⟨λf=>⟨⟨V,f,qH _,qM _,rfl⟩,λy T=>?_⟩,λf=>?_⟩⟩⟩
 .obtain⟨_,j,_,O⟩:=id V;obtain⟨g11,g12⟩:=f2 _ (getD_mem (l:=t) (i:=x.toNat) (d:=[]) Z);refine⟨j,f,λg=>⟨⟨T,g,qH _,qM _,rfl⟩,λz hz=>?_⟩,λg=>?_⟩
  .obtain⟨_,_,L,_,G⟩:=id T;have g2:=g12 _ (getD_mem (l:=t.getD x.toNat []) (i:=y.toNat) (d:=[]) Z);refine⟨j,f,L,g,λX=>?_,λX=>?_⟩
   .obtain⟨_,_,z0,_,v⟩:=id hz;refine⟨j,f,L,g,z0,X,λ_=>j,λ_=>f,λ_=>L,λ_=>g,λ_=>z0,λ_=>X,λhb=>?_,λhb=>⟨aB Z,z+1,⟨T,g,Z,Z,?_⟩,rfl,Z⟩⟩
    .rw[aCp,jE (l:=t) (d:=[]) (k:=x.toNat) Z (jE (l:=t.getD x.toNat []) (d:=[]) (k:=y.toNat) Z (jE (l:=(t.getD x.toNat []).getD y.toNat []) (d:=0) (k:=z.toNat) Z (vC Z))),yH]
    .rw[show(z+1).toNat=z.toNat+1 by omega];exact dj (d:=0) v Z (qW Z)
   .obtain⟨_,_,z0,z1,v⟩:=id hz;rw[qN Z]at v;refine⟨aB Z,y+1,⟨V,f,Z,Z,?_⟩,rfl,Z⟩;rw[show(y+1).toNat=y.toNat+1 by omega];exact dj (d:=[]) G Z v
  .obtain⟨_,_,L,y1,G⟩:=id T;rw[qN Z]at G;refine⟨aB Z,x+1,⟨h,Z,Z,?_⟩,rfl,Z⟩;rw[show(x+1).toNat=x.toNat+1 by omega];exact dj (d:=[]) O Z G
 .obtain⟨_,j,x1,O⟩:=id V;rw[qN Z]at O;rw[aCp,h,O];rfl
def aIg: ai Tryz.prog G0 KE6:=af aAW<|af aDH aIh
def aAV: eO 61 B0:=ae λ(((u,f,b,j,g,i):Net),((p1,p2,nx,y):Plan),_)=>by
 refine zF (c:={mkc KE6 with mb:=λt=>t==24}) (A:=az) aIg iI hm (p:=let e:=(u,f,b,j,g,i);let A:=(p1,p2,nx,y);let x:=aR e;let h:=Ea x (Ed p1 0) false;let r:=Ea h (Ei p2 p1) false;let z:=Ea r (Ee p2 (Ep IntKind.i64 (p1+60))) false;let v:=Ea z (Ee p2 600) false;let L:=Ea v (mf e nx) false;true/\(vPr e A->dI e/\Q2 x ((Dh true x->x)/\L4 h (Q4 h ((Dh true h->h)/\Q2 r (Q4 r ((Dh true r->r)/\Q2 z ((Dh true z->z)/\Q4 v ((v->dw nx)/\(Dh true v->v)/\Q4 L ((L->dsP e y)/\(Dh true L->L)/\Ea L (dv e y) false=xS e A/\True)))))))))) ⟨rfl,λ⟨hf,G,x,v⟩=>?_⟩
 have G:dw nx:=G;have hd:dsP (u,f,b,j,g,i) y:=⟨⟨zA _,λr hr=>by cases hr⟩,x,v⟩;have O:Ea (Ea (Ea (Ea (Ea (Ea (aR (u,f,b,j,g,i)) (Ed p1 0) false) (Ei p2 p1) false) (Ee p2 (Ep .i64 (Dq p1 60))) false) (Ee p2 600) false) (mf (u,f,b,j,g,i) nx) false) (dv (u,f,b,j,g,i) y) false=xS (u,f,b,j,g,i) (p1,p2,nx,y):=by
  have e:xS (u,f,b,j,g,i) (p1,p2,nx,y)=(aR (u,f,b,j,g,i)&&(k9 (p1,p2,nx,y)&&(mf (u,f,b,j,g,i) nx&&dv (u,f,b,j,g,i) y))):=rfl;rw[e];unfold k9;rw[kG];by_cases h:0<=p1/\p1<p2/\p2<=600
  .have X:Ep .i64 (Dq p1 60)=p1+60:=by
    unfold Ep;exact gn (by unfold Dq;exact aB Z)
   rw[X];refine Z9 ?_;constructor
   .rintro⟨⟨⟨⟨⟨⟨G,x⟩,v⟩,h4⟩,z⟩,V⟩,T⟩;exact⟨G,⟨x,v,z,Z⟩,V,T⟩
   .rintro⟨G,⟨x,v,z,h4⟩,V,T⟩;exact⟨⟨⟨⟨⟨⟨G,x⟩,v⟩,Z⟩,z⟩,V⟩,T⟩
  .generalize Ep .i64 (Dq p1 60)=q;refine Z9 ?_;constructor
   .rintro⟨⟨⟨⟨⟨⟨_,x⟩,v⟩,_⟩,z⟩,_⟩,_⟩;exact(h ⟨x,v,z⟩).elim
   .rintro⟨_,⟨x,v,z,_⟩,_⟩;exact(h ⟨x,v,z⟩).elim
 generalize Ep .i64 (Dq p1 60)=q at *;unfold Q2 Q4 L4;simp only[qAj,kJ,yB,vU,Dh,zX];exact⟨hf,λ_=>G,λ_=>hd,O⟩
def rL{n:Net}{a b:Int}: Hz n a b=true↔(0<=a/\a<b/\b<=600/\b-a<=60)/\aR n=true:=by
 unfold Hz lE;simp only[qC,qE,qCh]
def pP{n:Net}{a b:Int}(h:Hz n a b=true): fC n (1440*a) (1440*b)=true/\mf n (bA n (1440*a) (1440*b))=true/\dw (bA n (1440*a) (1440*b)):=by
 obtain⟨g,f⟩:=rL.1 h;have e:fC n (1440*a) (1440*b)=true:=by
  unfold fC;rw[qC];exact⟨rG.2 Z,f⟩
 exact⟨e,vz e,DD f (vz e)⟩
def WW: eO 17 x7:=ae λ(((u,h,g,r,i,j):Net),(a:Int),(b:Int),_)=>by
 refine zF (c:={mkc KE6 with mb:=λt=>t==7}) (A:=az) aIg iI hm (p:=let e:=(u,h,g,r,i,j);let v:=1440*a;let x:=1440*b;let f:=bA e v x;let y:=(iy e a b).2.2;true/\(aHt e a b->inR .i64 v/\inR .i64 x/\dI e/\T2 1 0 1 1 0 (aAf e f/\L3 1 1 0 1 0 1 0 1 0 (L5 a b (f=y.1/\Px e f a b=y.2/\True))))) ⟨rfl,λ⟨f,e⟩=>?_⟩;refine Z9 ?_;obtain⟨x,v⟩:=rL.1 e;exact⟨aB Z,aB Z,f,⟨f,(pP e).2.2⟩,rfl,rfl⟩
def aJb: ai Tryz.prog G0 KE7:=af aAV<|af WW aIg
def uK{p:Plan}{o x:Int}: x∈tU p o↔x≠-1/\∃d:Int,0<=d/\d<(ca p o).length/\d≠o/\(ca p o).getD d.toNat 0=x:=by
 unfold tU Wh;rw[EY,yS,vM];simp only[yS,qZ,qE];constructor
 .rintro⟨⟨d,⟨g,f⟩,e⟩,b⟩;exact⟨b,d,Z,Z,f,by rw[qP];exact e⟩
 .rintro⟨b,d,h,g,f,e⟩;exact⟨⟨d.toNat,⟨Z,by rw[vI h];exact f⟩,e⟩,b⟩
def Yp{l:Li}{x:Int}(h:x∈l): JF x l<l.length/\l.getD (JF x l) 0=x:=by
 induction l with
 | nil=>cases h
 | cons a l e=>
  unfold JF;by_cases b:a=x
  .rw[if_pos b];exact⟨by simp,b⟩
  .rw[if_neg b];rcases zK.1 h with g | g
   .exact absurd g.symm b
   .obtain⟨i,f⟩:=e g;exact⟨by simp only[wS];omega,by simpa using f⟩
def aAa{p:Plan}{o l k:Int}: usB p o l k=true↔∃d:Int,0<=d/\d<k/\d≠o/\(ca p o).getD d.toNat 0=l:=by
 unfold usB;simp only[xR,qZ,qE];constructor
 .rintro⟨d,f,e,b⟩;exact⟨d,Z,Z,e,by rw[qP];exact b⟩
 .rintro⟨d,f,e,b,g⟩;exact⟨d.toNat,Z,by rw[vI f];exact b,g⟩
def Wi{p:Plan}{o l k:Int}(b:0<=k): usB p o l (k+1)=(usB p o l k||(k != o&&(ca p o).getD k.toNat 0==l)):=by
 unfold usB;have e:((k.toNat:Nat):Int)=k:=Z;rw[show(k+1).toNat=k.toNat+1 by omega,zJ,qBa];simp only[qCe,List.any_nil,qAb,e]
 congr 1
 rw[kG];simp
def Yv{n:Net}{p:Plan}{o l:Int}(b:0<=l): gLn n p o (l+1)=gLn n p o l++if usB p o l n.2.2.2.1.length=true then[l]else[]:=by
 unfold gLn;rw[show(l+1).toNat=l.toNat+1 by omega,zJ,yL,zZ,List.cons_append]
 congr 2
 simp only[yN,gI,show((l.toNat:Nat):Int)=l by omega];split<;>simp<;>omega
def aCf(n:Net)(p:Plan)(o l:Int): (gLn n p o l).length<=l.toNat+1:=by
 unfold gLn;rw[wS,qY];have:=zQ (λi:Nat=>usB p o i n.2.2.2.1.length) (List.range l.toNat);rw[qU]at this;omega
def qw{n:Net}{p:Plan}{o:Int}(h:gOk n p o=true): (0<=o/\o<n.2.2.2.1.length)/\aR n=true/\mf n p.2.2.1=true/\gsF n p o=-1::tU p o:=by
 have e:gsF n p o=-1::tU p o:=if_pos h;unfold gOk du at h;simp only[qC,qE]at h;exact⟨h.1.1,h.1.2,(iD h.2).2.1,e⟩
def aCg(v:LC)(j g:LB)(b:Lo)(f:Ll)(r:Lk){p:Plan}{o:Int}(h:gOk (v,j,g,b,f,r) p o=true): gLn (v,j,g,b,f,r) p o f.length=gsF (v,j,g,b,f,r) p o:=by
 obtain⟨⟨G,A⟩,hs,T,e⟩:=qw h;rw[e];unfold gLn
 congr 1
 refine AO (qBz.2 ((List.pairwise_lt_range).imp (λh=>Z) |>.filter _)) (lU _) λx=>?_
 rw[uK,vM];simp only[yS,qZ,aAa];have V:((ca p o).length:Int)=b.length:=(dY v j g b f r T G A G A).2.1;constructor
 .rintro⟨i,⟨h1,d,z,O,L,y⟩,rfl⟩;exact⟨Z,d,z,by have O:d<(b.length:Int):=O;omega,L,y⟩
 .rintro⟨h1,d,z,O,L,y⟩;have u:d<(b.length:Int):=Z;have X:=(dY v j g b f r T G A z u).2.2;have en:nxt p.2.2.1 o d=x:=y;rw[en]at X;obtain⟨⟨x0,x1⟩,_⟩:=X h1;exact⟨x.toNat,⟨by show x.toNat<(f.length:Int).toNat;omega,d,z,u,L,by rw[y];omega⟩,Z⟩
def Bg{p:Plan}{o:Int}{g:Li}: ∀k:Nat,iz p o o g k=0
 | 0=>if_pos rfl
 | 1=>if_pos rfl
 | k+2=>by unfold iz;rw[if_neg (λh=>h.1 rfl)];exact Bg (k+1)
def M7{p:Plan}{o d:Int}{g:Li}(h:d≠o): ∀k:Nat,(∀j:Nat,1<=j->j<k->(ca p o).getD d.toNat 0≠g.getD j 0)->iz p o d g k=-1
 | 0,_=>if_neg h
 | 1,_=>if_neg h
 | k+2,b=>by
  unfold iz;rw[if_neg (λq=>b (k+1) Z Z q.2)];exact M7 h (k+1) λj e f=>b j e Z
def M8{p:Plan}{o d:Int}{g:Li}{i:Nat}(h:d≠o)(u:1<=i)(e:(ca p o).getD d.toNat 0=g.getD i 0): ∀k:Nat,i<k->(∀j:Nat,i<j->j<k->(ca p o).getD d.toNat 0≠g.getD j 0)->iz p o d g k=i
 | 0,f,_=>Z
 | 1,f,_=>Z
 | k+2,f,b=>by
  unfold iz;by_cases hi:i=k+1
  .subst hi;rw[if_pos ⟨h,e⟩];omega
  .rw[if_neg (λq=>b (k+1) Z Z q.2)];exact M8 h u e (k+1) Z λj r v=>b j r Z
def TD{n:Net}{p:Plan}{o d:Int}(h:gOk n p o=true)(hd:0<=d/\d<(ca p o).length): iz p o d (gsF n p o) (gsF n p o).length=UG p o d:=by
 obtain⟨_,_,_,e⟩:=qw h;have hg:∀j:Nat,1<=j->j<(tU p o).length+1->(gsF n p o).getD j 0∈tU p o:=λj u r=>by
  rw[e,show j=(j-1)+1 by omega,List.getD_cons_succ];exact getD_mem Z
 have hlen:(gsF n p o).length=(tU p o).length+1:=by rw[e];rfl
 unfold UG;by_cases i:d=o
 .subst i;rw[if_pos rfl];exact Bg _
 rw[if_neg i];by_cases g:(ca p o).getD d.toNat 0=-1
 .rw[if_pos g];refine M7 i _ λj u r G=>?_
  have:=(uK.1 (hg j u Z)).1;rw[<- G]at this;exact this g
 .rw[if_neg g];have hm:(ca p o).getD d.toNat 0∈tU p o:=uK.2 ⟨g,d,hd.1,hd.2,i,rfl⟩;obtain⟨f,b⟩:=Yp (wX (-1) hm);rw[<- e]at f b;have q0:JF ((ca p o).getD d.toNat 0) (gsF n p o)≠0:=λq=>by rw[q,e]at b;exact g b.symm
  unfold Z1;rw[<- e,if_pos f];refine M8 i Z b.symm _ f λj u r G=>?_
  have hs:(gsF n p o).Pairwise (· < ·):=by
   rw[e,yY];refine⟨λx hx=>?_,lU _⟩;obtain⟨x1,y,y0,y1,y2,y3⟩:=uK.1 hx;obtain⟨⟨A,z⟩,hso,X,_⟩:=qw h;obtain⟨cs,O,L,v,T,V⟩:=n;have hrow:((ca p o).length:Int)=v.length:=(dY cs O L v T V X A z A z).2.1;have h3:=(dY cs O L v T V X A z y0 (by omega:y<(v.length:Int))).2.2;have en:nxt p.2.2.1 o y=x:=y3;rw[en]at h3;have:=(h3 x1).1.1;omega
  have:=List.pairwise_iff_getElem.1 hs _ _ f r u;rw[qA,qB f,qK]at b;rw[qA (l:=gsF n p o),qB r,qK]at G;omega
def aA1: eO 18 B9:=ae λ(((cs,ns,os,G,X,ks):Net),((p1,p2,nx,dy):Plan),(o:Int),_)=>by
 refine zF (c:={mkc KE7 with mb:=λt=>t==31}) (A:=(lvA [(5,[2,3,4,6,7,8,9,10,11,12,13,14,15]),(9,[2,3,4,6,7,8,9,10,11,12,13,14,15]),(16,[2,3,4,6,7,8,12,13,14,15]),(22,[2,3,4,6,7,8,12,13,14,15])] (aEN (cs,ns,os,G,X,ks) (p1,p2,nx,dy) o))) aJb iI hm (p:=let c1:=(X,ks);let h:=(cs,ns,os,G,c1);let g:=(p1,p2,nx,dy);let c4:=Dj (xS h g);let c5:=Dj c4;let c6:=Ea c4 true (Dp o 0);let A:=Dj c6;let V:=Df G;let c9:=Ea c6 true (Ed o V);let u:=gsF h g o;let c11:=ofF h g o;let i:=Df X;let O:=Du nx (Dc o) [];let c14:=Df O;let z:=Df u;true/\(vPr h g->vPr h g/\L4 c5 ((Dh true c5->c5)/\L4 A (Q4 A ((Dh true A->A)/\(c9->u=Dt Int/\c11=Dt Int/\True)/\(c9=false->(∃x,let c16:=gLn h g o x;g1 h g o x/\T2 o h g Z0 Z0 (1=Dk c16/\0=x/\[(-1:Int)]=c16/\True))/\∀(x:Int),let f:=gLn h g o x;let L:=Dk f;let c19:=[x];let c20:=L+Dk c19;let c21:=x+1;let T:=Df f;g1 h g o x->(Dp x i->(∃e,g2 h g o x e/\T4 o h g Z0 Z0 L x (false=usB g o x e/\0=e/\T3 f))/\∀(e:Int),let c23:=usB g o x e;let r:=Dj c23;let c25:=e+1;
  g2 h g o x e->(Dp e V->Q4 r (Q4 (Dh r (Dw e o)) ((Dh r (Dw e o)->0<=o)/\(Dh r (Dw e o)->o<Df nx)/\Q4 (Dh r (Dw e o)) ((Dh r (Dw e o)->0<=e)/\(Dh r (Dw e o)->e<c14)/\Q4 (Dh r (Dw e o)) (L4 r ((r->Dh r (Dw e o)->Dh r (Dw e o))/\(Dh true r->r)/\inR .i64 c25/\∃y,g2 h g o x y/\(T4 o h g Z0 Z0 L x (Ea c23 true (Ea (Dw e o) (Ec (Du O (Dc e) 0) x) false)=usB g o x y/\c25=y/\T3 f))/\Dc (V-y)<Dc (V-e)))))))/\(Dp e V=false->(c23->L=L/\(c20*8)<=140737488355328/\c20<=9223372036854775807/\inR .i64 c21/\∃y,let c26:=gLn h g o y;g1 h g o y/\(T2 o h g Z0 Z0 (c20=Dk c26/\c21=y/\Ef f c19=c26/\True))/\Dc (i-y)<Dc (i-x))/\(c23=false->inR IntKind.i64 c21/\∃y,let c27:=gLn h g o y;g1 h g o y/\(T2 o h g Z0 Z0 (L=Dk c27/\c21=y/\f=c27/\True))/\Dc (i-y)<Dc (i-x))))/\(Dp x i=false->L3 o h g Z0 Z0 L f x x (Q3 c1 X i (Dp x i) ((∃x,let c28:=JB h g o x;g3 h g o x/\T6 o h g Z0 Z0 f (Dk c28=0/\c28=Dt Int/\0=x/\c28=Dt Int/\True))/\∀(x:Int),let v:=JB h g o x;let j:=Dk v;let c31:=x+1;
  g3 h g o x->(Dp x V->(Ec x o->(∃b,g4 h g o x b/\T5 o h g Z0 Z0 f j x (0=iz g o x u (Dc b)/\1=b/\T3 v))/\∀(b:Int),let c32:=Ea (Dw x o) (Ec (Du O (Dc x) 0) (Du f (Dc b) 0)) false;let c33:=b+1;let c34:=iz g o x u (Dc b);let c35:=[c34];let c36:=j+Dk c35;g4 h g o x b->(Dp b T->Q4 (Dw x o) ((Dw x o->0<=o)/\(Dw x o->o<Df nx)/\Q4 (Dw x o) ((Dw x o->0<=x)/\(Dw x o->x<c14)/\Q4 (Dw x o) ((Dw x o->0<=b)/\(Dw x o->b<T)/\Q4 (Dw x o) ((Dh true (Dw x o)->Dw x o)/\(c32->inR .i64 c33/\∃y,g4 h g o x y/\(T5 o h g Z0 Z0 f j x (b=iz g o x u (Dc y)/\c33=y/\T3 v))/\Dc (z-y)<Dc (z-b))/\(c32=false->inR .i64 c33/\∃y,g4 h g o x y/\(T5 o h g Z0 Z0 f j x (c34=iz g o x u (Dc y)/\c33=y/\T3 v))/\Dc (z-y)<Dc (z-b)))))))/\(Dp b T=false->j=j/\(c36*8)<=140737488355328/\c36<=9223372036854775807/\inR .i64 c31/\∃y,let c37:=JB h g o y;g3 h g o y/\(T6 o h g Z0 Z0 f (c36=Dk c37/\c31=y/\Ef v c35=c37/\True))/\Dc (V-y)<Dc (V-x)))/\(Ec x o=false->(∃b,g4 h g o x b/\T5 o h g Z0 Z0 f j x ((-1:Int)=iz g o x u (Dc b)/\1=b/\T3 v))/\∀(b:Int),let c38:=Ea (Dw x o) (Ec (Du O (Dc x) 0) (Du f (Dc b) 0)) false;let c39:=b+1;let c40:=iz g o x u (Dc b);let c41:=[c40];let c42:=j+Dk c41;
  g4 h g o x b->(Dp b T->Q4 (Dw x o) ((Dw x o->0<=o)/\(Dw x o->o<Df nx)/\Q4 (Dw x o) ((Dw x o->0<=x)/\(Dw x o->x<c14)/\Q4 (Dw x o) ((Dw x o->0<=b)/\(Dw x o->b<T)/\Q4 (Dw x o) ((Dh true (Dw x o)->Dw x o)/\(c38->inR .i64 c39/\∃y,g4 h g o x y/\(T5 o h g Z0 Z0 f j x (b=iz g o x u (Dc y)/\c39=y/\T3 v))/\Dc (z-y)<Dc (z-b))/\(c38=false->inR .i64 c39/\∃y,g4 h g o x y/\(T5 o h g Z0 Z0 f j x (c40=iz g o x u (Dc y)/\c39=y/\T3 v))/\Dc (z-y)<Dc (z-b)))))))/\(Dp b T=false->j=j/\(c42*8)<=140737488355328/\c42<=9223372036854775807/\inR .i64 c31/\∃y,let c43:=JB h g o y;g3 h g o y/\(T6 o h g Z0 Z0 f (c42=Dk c43/\c31=y/\Ef v c41=c43/\True))/\Dc (V-y)<Dc (V-x))))/\(Dp x V=false->f=u/\j=j/\v=c11/\True)))))))))) ⟨rfl,λhp=>?_⟩
 obtain⟨n,hn⟩:∃n:Net,n=(cs,ns,os,G,X,ks):=⟨_,rfl⟩;obtain⟨p,hpl⟩:∃p:Plan,p=(p1,p2,nx,dy):=⟨_,rfl⟩;simp only[<- hn,<- hpl]at hp ⊢;refine Z9 ?_;have O:n.2.2.2.1=G:=by rw[hn]
 have eL:n.2.2.2.2.1=X:=by rw[hn]
 have eU:nx.getD o.toNat []=ca p o:=by rw[hpl];rfl
 have eX:p.2.2.1=nx:=by rw[hpl]
 have eG:gOk n p o=true↔(xS n p=true/\¬o<0)/\¬o≥↑G.length:=by
  unfold gOk xS du;simp only[qC,qE,O];exact⟨λ⟨⟨h1,h2⟩,h3⟩=>⟨⟨⟨h2,h3⟩,Z⟩,Z⟩,λ⟨⟨⟨h2,h3⟩,h4⟩,h5⟩=>⟨⟨Z,h2⟩,h3⟩⟩
 refine⟨hp,λh=>?_,λh=>?_⟩
 .have hn':¬gOk n p o=true:=λg=>by
   obtain⟨⟨g1,g2⟩,g3⟩:=eG.1 g;rcases h with(h | h) | h
   .rw[g1]at h;cases h
   .exact g2 h
   .exact g3 h
  exact⟨if_neg hn',if_neg hn'⟩
 have hg:=eG.2 h;obtain⟨⟨o0,o1⟩,hs,ht,eS⟩:=qw hg;rw[O]at o1;rw[eX]at ht;have q12:(G.length:Int)<=12:=by have:=(ko n.1 n.2.1 n.2.2.1 n.2.2.2.1 n.2.2.2.2.1 n.2.2.2.2.2 hs).1;rw[O]at this;exact this
 have l40:X.length<=40:=by have:=(fO n.1 n.2.1 n.2.2.1 n.2.2.2.1 n.2.2.2.2.1 n.2.2.2.2.2 (aS n.1 n.2.1 n.2.2.1 n.2.2.2.1 n.2.2.2.2.1 n.2.2.2.2.2 hs)).2;rw[eL]at this;exact this
 have hrow:(nx.length:Int)=G.length/\((nx.getD o.toNat []).length:Int)=G.length:=by
  have:=dY n.1 n.2.1 n.2.2.1 n.2.2.2.1 n.2.2.2.2.1 n.2.2.2.2.2 (nx:=nx) (o:=o) (d:=o) ht o0 (by rw[O];exact o1) o0 (by rw[O];exact o1);rw[O]at this;exact⟨this.1,this.2.1⟩
 have gend:gLn n p o X.length=gsF n p o:=by rw[<- eL];exact aCg n.1 n.2.1 n.2.2.1 n.2.2.2.1 n.2.2.2.2.1 n.2.2.2.2.2 hg
 rw[eU]at hrow;simp only[eU];have lo:∀x,(JB n p o x).length=x.toNat:=λx=>by unfold JB;rw[qY,qU]
 have hgl:=λx=>aCf n p o x
 have onx:∀x,0<=x->JB n p o (x+1)=JB n p o x++[iz p o x (gsF n p o) (gsF n p o).length]:=λx x0=>by
  unfold JB;rw[nE _ x0,show((x.toNat:Nat):Int)=x by omega]
 have z1:g1 n p o 0:=⟨hp,hg,qH _,qM _⟩;have hgs:(gsF n p o).length<=41:=by rw[<- gend];have:=hgl X.length;omega
 have hgs1:1<=(gsF n p o).length:=by rw[eS];simp
 simp only[qV,lo];refine⟨⟨0,z1,rfl,rfl,rfl⟩,λx hx=>⟨λxl=>⟨⟨0,⟨hx,by rw[eL];exact xl,qH _,qM _⟩,rfl,rfl⟩,λy hy=>⟨λyl=>?_,λyl=>?_⟩⟩,λxl=>?_⟩⟩
 .obtain⟨_,_,y0,y1⟩:=hy;exact⟨λ_=>o0,λ_=>Z,λ_=>y0,λ_=>Z,aB Z,y+1,⟨hx,by rw[eL];exact xl,Z,by rw[O];omega⟩,⟨(Wi y0).symm,rfl⟩,Z⟩
 .obtain⟨_,_,y0,y1⟩:=hy;obtain⟨x0,x1⟩:=hx.2.2;have ey:y=G.length:=by rw[O]at y1;omega
  have z:=Yv (n:=n) (p:=p) (o:=o) x0;rw[O]at z;have hl:=hgl x;have hx':g1 n p o (x+1):=⟨hp,hg,Z,by rw[eL];omega⟩;rw[ey];refine⟨λhu=>?_,λhu=>?_⟩
  .rw[if_pos hu]at z;exact⟨Z,Z,aB Z,x+1,hx',⟨by rw[z];simp,rfl,z.symm⟩,Z⟩
  .rw[if_neg (by rw[hu];decide),vY]at z;exact⟨aB Z,x+1,hx',⟨by rw[z],rfl,z.symm⟩,Z⟩
 .obtain⟨x0,x1⟩:=hx.2.2;have ex:x=X.length:=by rw[eL]at x1;omega
  rw[ex,gend];refine⟨⟨0,⟨hp,hg,qH _,qM _⟩,rfl,rfl,rfl,rfl⟩,λd hd=>⟨λdl=>?_,λdl=>?_⟩⟩
  .obtain⟨_,_,d0,d1⟩:=id hd;have nxt1:∀i:Int,g4 n p o d i->¬i<((gsF n p o).length:Int)->(d.toNat+1)*8<=140737488355328/\d.toNat+1<=9223372036854775807/\inR .i64 (d+1)/\∃y,g3 n p o y/\(d.toNat+1=y.toNat/\d+1=y/\JB n p o d++[iz p o d (gsF n p o) i.toNat]=JB n p o y)/\((G.length:Int)-y).toNat<((G.length:Int)-d).toNat:=λi hi il=>by
    obtain⟨_,_,i0,i1⟩:=hi;have ei:i.toNat=(gsF n p o).length:=Z;rw[ei];exact⟨Z,Z,aB Z,d+1,⟨hp,hg,Z,by rw[O];omega⟩,⟨Z,rfl,(onx d d0).symm⟩,Z⟩
   have stp:∀i:Int,g4 n p o d i->i<((gsF n p o).length:Int)->iz p o d (gsF n p o) (i+1).toNat=if d≠o/\(ca p o).getD d.toNat 0=(gsF n p o).getD i.toNat 0 then i else iz p o d (gsF n p o) i.toNat:=λi hi il=>by
    obtain⟨_,_,i0,i1⟩:=hi;obtain⟨k,hk⟩:∃k:Nat,i.toNat=k+1:=⟨i.toNat-1,Z⟩;rw[show(i+1).toNat=k+2 by omega,hk];unfold iz;split
    .omega
    .cases k<;>rfl
   have rnd:∀i:Int,g4 n p o d i->(i<((gsF n p o).length:Int)->(d≠o->0<=o)/\(d≠o->o < ↑nx.length)/\(d≠o->0<=d)/\(d≠o->d < ↑(ca p o).length)/\(d≠o->0<=i)/\(d≠o->i < ↑(gsF n p o).length)/\
     (d≠o/\(ca p o).getD d.toNat 0=(gsF n p o).getD i.toNat 0->inR .i64 (i+1)/\∃y,g4 n p o d y/\(i=iz p o d (gsF n p o) y.toNat/\i+1=y)/\(((gsF n p o).length:Int)-y).toNat<(((gsF n p o).length:Int)-i).toNat)/\
     ((d≠o->(ca p o).getD d.toNat 0≠(gsF n p o).getD i.toNat 0)->inR .i64 (i+1)/\∃y,g4 n p o d y/\(iz p o d (gsF n p o) i.toNat=iz p o d (gsF n p o) y.toNat/\i+1=y)/\(((gsF n p o).length:Int)-y).toNat<(((gsF n p o).length:Int)-i).toNat))/\
     (¬i<((gsF n p o).length:Int)->(d.toNat+1)*8<=140737488355328/\d.toNat+1<=9223372036854775807/\inR .i64 (d+1)/\∃y,g3 n p o y/\(d.toNat+1=y.toNat/\d+1=y/\JB n p o d++[iz p o d (gsF n p o) i.toNat]=JB n p o y)/\((G.length:Int)-y).toNat<((G.length:Int)-d).toNat):=λi hi=>⟨λil=>by
    have hst:=stp i hi il;obtain⟨_,_,i0,i1⟩:=id hi;have hi':g4 n p o d (i+1):=⟨hd,by rw[O];exact dl,Z,Z⟩;refine⟨λ_=>o0,λ_=>Z,λ_=>d0,λ_=>Z,λ_=>Z,λ_=>il,λhc=>⟨aB Z,i+1,hi',⟨by rw[hst,if_pos hc],rfl⟩,Z⟩,λhc=>⟨aB Z,i+1,hi',⟨by rw[hst,if_neg λq=>hc q.1 q.2],rfl⟩,Z⟩⟩,nxt1 i hi⟩
   have f1:g4 n p o d 1:=⟨hd,by rw[O];exact dl,qH _,Z⟩;exact⟨λhdo=>⟨⟨1,f1,(if_pos hdo).symm,rfl⟩,rnd⟩,λhdo=>⟨⟨1,f1,(if_neg hdo).symm,rfl⟩,rnd⟩⟩
  .obtain⟨_,_,d0,d1⟩:=hd;have ed:d=G.length:=by rw[O]at d1;omega
   refine⟨rfl,?_⟩;unfold JB ofF;rw[if_pos hg,ed,O];refine yA λi hi=>TD hg ?_
   have:=qZ.1 hi;omega
def aJ0: ai Tryz.prog G0 KE8:=af aA1 aJb
def aEB(l:Li): ∀{z x:Int},(x=z\/x∈l)->x<=l.foldl max z:=by
 induction l with
 | nil=>
   intro z x h;rcases h with rfl | h
   .exact qH _
   .cases h
 | cons y l b=>
  intro z x h;rw[kF];rcases h with rfl | h
  .exact qCk (Int.le_max_left _ _) (b (.inl rfl))
  .rcases zK.1 h with rfl | h
   .exact qCk (Int.le_max_right _ _) (b (.inl rfl))
   .exact b (.inr h)
def aHz(l:Li): ∀{z x:Int},z<=x->(∀y∈l,y<=x)->l.foldl max z<=x:=by
 induction l with
 | nil=>intro z x h _;exact h
 | cons y l b=>
  intro z x h g;rw[kF];exact b (Int.max_le.2 ⟨h,g _ wB⟩) λw e=>g w (wX _ e)
def I6(w:List Bool)(h:Li)(a b:Int): -1<=iP w h a b/\iP w h a b<=2000:=by
 unfold iP;split
 .rename_i hb;have:(cC w h (a+1) (b-a)).length<=(b-a).toNat:=by
   unfold cC;refine wH (zQ _ _) ?_;rw[qY,qU];exact qJ _
  omega
 .omega
def ZQ{l:Li}(h:∀x∈l,x<=2000): fY (l.foldl max (-1))=true:=by
 have e:=aEB l (z:=-1) (x:=-1) (.inl rfl);have b:=aHz l (z:=-1) (x:=2000) (by decide) h;exact qW Z
def Vi(n:Net)(nx:Lj)(k o d a b:Int): fY (CY n nx k o d a b)=true:=by
 unfold CY;split
 .rfl
 .unfold li;refine ZQ λx e=>?_
  obtain⟨c,_,rfl⟩:=vM.1 e;unfold ndF;split
  .omega
  .split
   .omega
   .exact(I6 _ _ _ _).2
def aBX(n:Net)(nx:Lj)(k o d a b:Int): fY (pU n nx k o d a b)=true:=by
 unfold pU;split
 .unfold PT;refine ZQ λx e=>?_
  obtain⟨c,_,rfl⟩:=vM.1 e;exact(I6 _ _ _ _).2
 .rfl
def G5{m:Nat}(g:Nat->Nat->Int)(h:∀i j,fY (g i j)=true): sgF jb ((List.range m).map λi=>(List.range m).map λj=>g i j) m=true:=by
 rw[aDU];unfold dsR;simp only[qC,qE,qO,qY,qU,yB];refine⟨λr b=>?_,λr b x e=>?_⟩
 .obtain⟨i,_,rfl⟩:=vM.1 b;rw[qY,qU]
 .obtain⟨i,_,rfl⟩:=vM.1 b;obtain⟨j,_,rfl⟩:=vM.1 e;exact h i j
def Oi{n:Net}{a b:Int}{t:List (Lj)}(h:Hz n a b=true)(g:t.length=n.2.2.2.2.2.length)(e:∀r∈t,sgF jb r n.2.2.2.1.length=true): iN n (a,b,bA n (1440*a) (1440*b),t)=true:=by
 obtain⟨f,_⟩:=rL.1 h;unfold iN k9 nY;simp only[qC,qE,qO];exact⟨Z,(pP h).2.1,Z,e⟩
def wc{n:Net}{a b:Int}(h:Hz n a b=true): zP n (bA n (1440*a) (1440*b)) a b=true:=by
 obtain⟨f,e⟩:=rL.1 h;exact JQ.2 ⟨f,e,(pP h).2.1⟩
def aEQ{n:Net}{a b:Int}(h:Hz n a b=true): iN n (iy n a b)=true:=by
 have e:Px n (bA n (1440*a) (1440*b)) a b=oJ n (bA n (1440*a) (1440*b)) a b n.2.2.2.2.2.length:=if_pos (wc h);refine Oi h (by rw[e];unfold oJ;rw[qY,qU];omega) λr f=>?_
 rw[e]at f;obtain⟨k,_,rfl⟩:=vM.1 f;exact G5 _ λi j=>Vi _ _ _ _ _ _ _
def aHM{n:Net}{a b:Int}(h:Hz n a b=true): iN n (p2F n a b)=true:=by
 have e:Re n (bA n (1440*a) (1440*b)) a b=(List.range n.2.2.2.2.2.length).map λk:Nat=>QS n (bA n (1440*a) (1440*b)) k a b:=if_pos (wc h)
 refine Oi h (t:=Re n (bA n (1440*a) (1440*b)) a b) (by rw[e,qY,qU]) λr f=>?_
 rw[e]at f;obtain⟨k,_,rfl⟩:=vM.1 f;exact G5 _ λi j=>aBX _ _ _ _ _ _ _
def uL{l:Li}(h:∀x∈l,x=0): Ls l=0:=qx λi b=>h _ (getD_mem b)
def YL{n:Net}{a b:Int}(h:Hz n a b=true){k o d:Nat}(O:k<n.2.2.2.2.2.length)(G:o<n.2.2.2.1.length)(hd:d<n.2.2.2.1.length): FQ n (p2F n a b) k o d=0:=by
 have e:(p2F n a b).2.2.2=(List.range n.2.2.2.2.2.length).map λk:Nat=>QS n (bA n (1440*a) (1440*b)) k a b:=if_pos (wc h)
 have z:ly (p2F n a b) k o d=pU n (bA n (1440*a) (1440*b)) k o d a b:=by
  unfold ly;rw[e];simp only[qP];rw[qA,qA,qA,qR,vO O];simp only[zU,qK];unfold QS;rw[qR,vO G];simp only[zU,qK];unfold aBD;rw[qR,vO hd];rfl
 unfold FQ;rw[z];split
 .rfl
 rename_i r;have y:PU n (bA n (1440*a) (1440*b)) k o d a b=0:=Classical.byContradiction λg=>r (if_neg g)
 have V:pU n (bA n (1440*a) (1440*b)) k o d a b=PT n (bA n (1440*a) (1440*b)) k o d a b (JH n k o a b).length:=if_pos y;have j:=lT y;refine uL λx A=>?_
 obtain⟨c,T,rfl⟩:=vM.1 A;have i:c∈JH n k o a b:=by
  unfold JH LK;rw[show(1440*b-1440*a).toNat=(1440*(b-a)).toNat by congr 1;omega];exact T
 have f:=j _ (vM.2 ⟨c,i,rfl⟩);have L:fI n (bA n (1440*a) (1440*b)) k o d c<=pU n (bA n (1440*a) (1440*b)) k o d a b:=by
  rw[V];unfold PT;rw[xQ];exact aEB _ (.inr (vM.2 ⟨c,i,rfl⟩))
 unfold An at f;unfold I4;rw[z];have X:iS n (p2F n a b).2.2.1 o d c=iS n (bA n (1440*a) (1440*b)) o d c:=rfl;have eE:F7 n (p2F n a b) k o d c=F7 n (pN (bA n (1440*a) (1440*b))) k o d c:=rfl;have eV:YX n (p2F n a b) k o d c=fI n (bA n (1440*a) (1440*b)) k o d c:=rfl;rw[X,eE,eV];by_cases v:iS n (bA n (1440*a) (1440*b)) o d c≠0
 .rw[if_pos v]at f;exact absurd f v
 rw[if_neg v]at f ⊢;by_cases u:F7 n (pN (bA n (1440*a) (1440*b))) k o d c≠0
 .rw[if_pos u]at f;exact absurd f u
 rw[if_neg u,if_neg Z]
def all_zero{n:Net}{a b:Int}(h:Hz n a b=true): QW n (p2F n a b) (p2F n a b).2.2.2.length=0:=by
 have e:(p2F n a b).2.2.2=(List.range n.2.2.2.2.2.length).map λk:Nat=>QS n (bA n (1440*a) (1440*b)) k a b:=if_pos (wc h)
 have r:(p2F n a b).2.2.2.length=n.2.2.2.2.2.length:=by rw[e,qY,qU]
 unfold QW;refine uL λx f=>?_
 obtain⟨k,i,rfl⟩:=vM.1 f;rw[qZ,r]at i;have j:(p2F n a b).2.2.2.getD k []=QS n (bA n (1440*a) (1440*b)) k a b:=by
  rw[e,qA,qR,vO i];rfl
 unfold Zu;refine uL λx f=>?_
 obtain⟨o,g,rfl⟩:=vM.1 f;have g:o<n.2.2.2.1.length:=by
  have:=qZ.1 g;rw[j]at this;unfold QS at this
  rwa [qY,qU]at this
 rw[qP,j];have u:(QS n (bA n (1440*a) (1440*b)) k a b).getD o []=aBD n (bA n (1440*a) (1440*b)) k o a b:=by
  unfold QS;rw[qA,qR,vO g];rfl
 rw[u];unfold aBE;refine uL λx f=>?_
 obtain⟨d,hd,rfl⟩:=vM.1 f;have hd:d<n.2.2.2.1.length:=by
  have:=qZ.1 hd;unfold aBD at this
  rwa [qY,qU]at this
 exact YL h i g hd
def aDe{n:Net}{a b:Int}(h:Hz n a b=true): wrE n (p2F n a b)=0\/wrE n (p2F n a b)=2:=by
 unfold wrE;rw[if_pos ⟨(rL.1 h).2,aHM h⟩,if_neg (λg=>g (all_zero h))];split
 .exact .inr rfl
 .exact .inl rfl
def XT(u:LC)(g f:LB)(b:Lo)(j:Ll)(r:Lk)(v:aR (u,g,f,b,j,r)=true){o:Int}(y:0<=o)(x:o<b.length): 2<=(bI (u,g,f,b,j,r) o).2.2.2.1/\(bI (u,g,f,b,j,r) o).2.2.2.1<=64/\1<=(bI (u,g,f,b,j,r) o).2.2.2.2.1/\(bI (u,g,f,b,j,r) o).2.2.2.2.1<=4:=by
 have h:=(dE u g f b j r (aS u g f b j r v)).2.2.2 _ (getD_mem (l:=b) (i:=o.toNat) (d:=(⟨#[]⟩,0,0,0,0,0,[])) Z);unfold cU cL at h;simp only[qC,qE]at h;have e:bI (u,g,f,b,j,r) o=b.getD o.toNat (⟨#[]⟩,0,0,0,0,0,[]):=rfl;rw[e];omega
def aAZ(a b:Int)(cs:LC)(ns os:LB)(f:Lo)(ls:Ll)(ks:Lk): ah Tryz.prog G0 5 [net cs ns os f ls ks,.dat I a,.dat I b] [] ⟨True,.dat .bool true,[]⟩:=by
 refine zF (c:=mkc KE8) (A:=(lvA [(10,[3,6,7,10,11,12,13,14])] (aJP (cs,ns,os,f,ls,ks) a b))) aJ0 iI hm (p:=let v:=Dh true true->true;let g:=(cs,ns,os,f,ls,ks);let A:=Dj (aFO g a b);let O:=Dj (Hz g a b);let r:=zy g a b;let i:=OG g a b;let u:=VV g a b;let h:=iy g a b;let j:=Df f;let c24:=Ec r 0;let z:=Dj c24;true/\(True->True/\True/\(A->true/\True)/\(A=false->True/\Q3 1 0 1 0 (dI g/\(O->L4 true (v/\Ea true (Ec r 1) false/\True))/\(O=false->aHt g a b/\L5 1 0 ((∃x,aF1 g a b x/\L5 g false (true/\Q3 r 1 0 0 (false=aCn g a b x/\0=x/\L3 i.1 i.2.1 i.2.2.1 i.2.2.2 u.1 u.2 h.1 h.2.1 h.2.2.1 (T3 h.2.2.2))))/\∀(x:Int),let L:=aCn g a b x;let e:=Dj L;let G:=(Du f (Dc x) (ByteArray.mk #[],(0:Int),(0:Int),(0:Int),(0:Int),(0:Int),Dt ByteArray)).2.2.2;let c30:=x+1;aF1 g a b x->(Dp x j->L5 1 0 (vPr g h/\Q4 e ((e->0<=x)/\(e->x<j)/\Q2 e (Q4 e ((e->0<=x)/\(e->x<j)/\L4 e (Q4 e ((e->ZN G.1 G.2.1)/\Q4 e ((Dh true e->e)/\inR .i64 c30/\∃y,aF1 g a b y/\(L5 g false (true/\Q3 r 1 0 0 (Ea L true (Dp (mr G.1 G.2.1) (Df (gsF g h x)))=aCn g a b y/\c30=y/\L3 i.1 i.2.1 i.2.2.1 i.2.2.2 u.1 u.2 h.1 h.2.1 h.2.2.1 (T3 h.2.2.2))))/\Dc (j-y)<Dc (j-x)))))))))/\(Dp x j=false->(L->L4 true (v/\Ea true (Ec r 140) false/\True))/\(L=false->Q2 true (L4 (Dh true z) (L4 true ((true->Dh true z->Dh true z)/\v/\Ea true (Ea c24 true (Ec r 2)) false/\True))))))))))) ⟨rfl,λ_=>?_⟩
 obtain⟨n,hn⟩:∃n:Net,n=(cs,ns,os,f,ls,ks):=⟨_,rfl⟩;simp only[<- hn];refine Z9 ?_;have v:n.2.2.2.1=f:=by rw[hn]
 intro T;have V:dI n=true:=by
  unfold aFO smF at T;simp only[qC]at T;exact YA T.1.1.1.1
 refine⟨V,λh=>?_,λh=>?_⟩
 .have:QA n (p0F a b)=1:=if_neg (by rw[xU];exact h);unfold zy;rw[this];rfl
 obtain⟨hr,hs⟩:=rL.1 h;have hok:QA n (p0F a b)=0:=if_pos h;have q12:(f.length:Int)<=12/\n.2.2.2.2.2.length<=1000000:=by
  obtain⟨q1,q2⟩:=ko n.1 n.2.1 n.2.2.1 n.2.2.2.1 n.2.2.2.2.1 n.2.2.2.2.2 hs;rw[v]at q1;omega
 have hD:(iy n a b).2.2.2=oJ n (bA n (1440*a) (1440*b)) a b n.2.2.2.2.2.length:=if_pos (wc h);have hv:vPr n (iy n a b):=⟨V,(pP h).2.2,by rw[hD];unfold oJ;rw[qY,qU];omega,λt ht=>by
  rw[hD]at ht;obtain⟨k,_,rfl⟩:=vM.1 ht;refine⟨by unfold rB;rw[qY,qU,v];omega,λr hr'=>?_⟩;obtain⟨i,_,rfl⟩:=vM.1 hr';unfold pL;rw[qY,qU,v];omega⟩
 have hm:∀x:Int,0<=x->x<f.length->2<=(bI n x).2.2.2.1/\(bI n x).2.2.2.1<=64/\1<=(bI n x).2.2.2.2.1/\(bI n x).2.2.2.2.1<=4:=λx u z=>XT n.1 n.2.1 n.2.2.1 n.2.2.2.1 n.2.2.2.2.1 n.2.2.2.2.2 hs u (by rw[v];exact z)
 have eO:∀x:Int,f.getD x.toNat (⟨#[]⟩,0,0,0,0,0,[])=bI n x:=λx=>by rw[hn];rfl
 simp only[eO];have hG:∀x:Int,0<=x->x<f.length->gsF n (iy n a b) x=-1::tU (p1F n a b) x:=λx u z=>by
  have:gOk n (iy n a b) x=true:=by
   unfold gOk;rw[hs,aEQ h,show du x n.2.2.2.1.length=true from uI.2 ⟨u,by rw[v];exact z⟩];rfl
  exact if_pos this
 have hS:∀x:Int,0<=x->x<f.length->(Sm n (p1F n a b) x=0↔¬mr (bI n x).2.2.2.1 (bI n x).2.2.2.2.1<((gsF n (iy n a b) x).length:Int)):=λx u z=>by
  obtain⟨m0,m1,m2,m3⟩:=hm x u z;rw[hG x u z,wS];have hl:=Lp (p1F n a b) x;have hrow:((ca (p1F n a b) x).length:Int)=f.length:=by
   have:=(dY n.1 n.2.1 n.2.2.1 n.2.2.2.1 n.2.2.2.2.1 n.2.2.2.2.2 (pP h).2.1 (o:=x) (d:=x) u (by rw[v];exact z) u (by rw[v];exact z)).2.1;rw[v]at this;exact this
  unfold Sm;rw[aBl];omega
 refine⟨⟨V,h⟩,⟨0,⟨V,h,qH _,qM _⟩,rfl,rfl⟩,λx ⟨_,_,u,z⟩=>⟨λxl=>?_,λxl=>?_⟩⟩
 .obtain⟨m0,m1,m2,m3⟩:=hm x u xl;refine⟨hv,λ_=>u,λ_=>xl,λ_=>u,λ_=>xl,λ_=>⟨Z,m1,m3⟩,aB Z,x+1,⟨V,h,Z,by rw[v];omega⟩,⟨?_,rfl⟩,Z⟩;unfold aCn;rw[show(x+1).toNat=x.toNat+1 by omega,zJ,qBa];simp only[qCe,List.any_nil,qAb,show((x.toNat:Nat):Int)=x by omega]
 .have ex:x=f.length:=by rw[v]at z;omega
  subst ex;have hc:zy n a b=if nW n (p1F n a b)≠0 then nW n (p1F n a b)else wrE n (p2F n a b):=by
   unfold zy;rw[if_neg (λg=>g hok)]
  have O:aCn n a b f.length=true↔nW n (p1F n a b)≠0:=by
   unfold aCn nW;rw[v,xR];constructor
   .rintro⟨i,hi,g⟩;have hi:=qZ.1 hi;rw[if_neg]
    .decide
    .intro X;have:=vN (qO.1 X i (qZ.2 Z));exact(hS i Z Z).1 this (vN g)
   .intro g;refine Classical.byContradiction λhno=>g (if_pos (qO.2 λi hi=>?_))
    have hi':=qZ.1 hi;refine qW ((hS i Z Z).2 λq=>hno ⟨i,qZ.2 Z,qW q⟩)
  refine⟨λg=>?_,λg=>?_⟩
  .rw[hc,if_pos (O.1 g)];have:=O.1 g;unfold nW at this ⊢;split
   .rename_i q;rw[if_pos q]at this;exact absurd rfl this
   .rfl
  .rw[hc,if_neg (λq=>by rw[O.2 q]at g;cases g)];exact aDe h
end Go.Eng.Sv
namespace Go.Eng
open Go.RowKit Go.ChangeShapes
def Eg{H:Type}{enc:TypeId×Value->H}{P:Program}{f:Func}{s:ChangeSpec}{apart fresh h again:Bool}{W y:World}{args:Array Value}{v:Value}{ds G:List (DataW H)}{before pa pv:List MemPlace}
  (O:DataW.Whole enc P f.params.toList s.vars apart W args.toList ds G before) (hb:Below W.heap.size W y)
  (i:∀(b:Nat) (sp:Nat->Bool) (hd:Bool),DataW.TrodAll enc P y b sp hd f.resultTypes.toList (v.resultList f.resultTypes.size) (s.fn H (ds++G)).results [])
  (g:∀sp:Nat->Bool,(∀p∈before,sp p.block=true)->DataW.TrodAll enc P y 0 sp true f.params.toList args.toList (s.fn H (ds++G)).args pa)
  (e:∀sp:Nat->Bool,(∀p∈before,sp p.block=true)->DataW.TrodVars enc P y sp s.vars (s.fn H (ds++G)).vars pv)
  (u:before=pa++pv)
  (L:∀(j:Nat) (t:TypeId) (r:Value),f.resultTypes[j]?=some t->(v.resultList f.resultTypes.size)[j]?=some r->Value.okWide P y .any 0 t r):
  s.post enc P f apart fresh h again W args v y:=by
 have A:∀p∈before,p.block<W.heap.size:=λp x=>O.lt p x
 have hold:∀p∈before,(λb=>decide (b<W.heap.size)) p.block=true:=λp x=>by simpa using A p x
 refine⟨ds,G,before,[],pa,pv,O,i _ _ _,g _ hold,e _ hold,hb.frame _,λ_=>?_⟩;obtain⟨_,_,_,_,_,T,V⟩:=O;refine⟨L,_,_,([]++pa)++pv,⟨[]++pa,pv,trodAll_append (g _ (λ_ _=>rfl)) (i _ _ _),e _ (λ_ _=>rfl),rfl,?_,?_⟩,?_⟩
 .intro b off x;have z:MemPlace.cell b off∈before:=by rw[u];simpa using x
  rw[hb.frozen (A _ z)];exact T b off z
 .intro X;have:=V X;rw[u]at this;simpa using this
 .intro p x _;rw[u];simpa using x
def okT: (t:Ty)->t.den->Prop
 | .int k,x=>inR k x
 | .bool,_=>True
 | .str,s=>s.size<=9223372036854775807
 | .sl e,xs=>List.length xs<=9223372036854775807/\∀x∈(xs:List e.den),okT e x
 | .pair a b,x=>okT a x.1/\okT b x.2
def lF: (t:Ty)->t.den->Nat
 | .int _,_=>1
 | .bool,_=>1
 | .str,s=>s.size+1
 | .sl e,xs=>((xs:List e.den).map λx=>lF e x).sum+1
 | .pair a b,x=>lF a x.1+lF b x.2
mutual
def sk{H:Type}: DataW H->Nat
 | .lit (.string bytes)=>bytes.length+1
 | .slice elems _=>mj elems+1
 | .agg parts=>mj parts+1
 | _=>1
def mj{H:Type}: List (DataW H)->Nat
 | []=>0
 | d::r=>sk d+mj r
end
def HI{H:Type}(d:DataW H): 1<=sk d:=by
 cases d with
 | lit l=>cases l<;>simp[sk]
 | _=>simp[sk]
def Py: (a c:Ty)->a.den->c.den->(mK a c).den
 | .pair _ b,c,x,y=>(x.1,Py b c x.2 y)
 | .int _,_,x,y=>(x,y)
 | .bool,_,x,y=>(x,y)
 | .str,_,x,y=>(x,y)
 | .sl _,_,x,y=>(x,y)
def Hk: ∀(a c:Ty),(mK a c).sz=a.sz+c.sz
 | .pair a b,c=>by simp only[mK,Ty.sz,Hk b c];omega
 | .int _,_ | .bool,_ | .str,_ | .sl _,_=>by simp[mK,Ty.sz]
def Hj{w:World}{D:Nat->Prop}: ∀{a c:Ty} {x:a.den} {y:c.den} {us vs:Lv},ag w D a x us->ag w D c y vs->ag w D (mK a c) (Py a c x y) (us++vs)
 | .pair a b,c,x,y,us,vs,g,f=>by
  obtain⟨i,h,e,g1,g2⟩:=g;subst e;exact⟨i,h++vs,by simp,g1,Hj g2 f⟩
 | .int _,_,_,_,us,vs,g,f=>⟨us,vs,rfl,g,f⟩
 | .bool,_,_,_,us,vs,g,f=>⟨us,vs,rfl,g,f⟩
 | .str,_,_,_,us,vs,g,f=>⟨us,vs,rfl,g,f⟩
 | .sl _,_,_,_,us,vs,g,f=>⟨us,vs,rfl,g,f⟩
def MQ: ∀{a c:Ty} {x:a.den} {y:c.den},okT a x->okT c y->okT (mK a c) (Py a c x y)
 | .pair _ _,_,_,_,b,e=>⟨b.1,MQ b.2 e⟩
 | .int _,_,_,_,b,e=>⟨b,e⟩
 | .bool,_,_,_,b,e=>⟨b,e⟩
 | .str,_,_,_,b,e=>⟨b,e⟩
 | .sl _,_,_,_,b,e=>⟨b,e⟩
def A2: ∀{a c:Ty} {x:a.den} {y:c.den},lF (mK a c) (Py a c x y)=lF a x+lF c y
 | .pair a b,c,x,y=>by
  show lF a x.1+lF (mK b c) (Py b c x.2 y)=lF a x.1+lF b x.2+lF c y;rw[A2];omega
 | .int _,_,_,_=>rfl
 | .bool,_,_,_=>rfl
 | .str,_,_,_=>rfl
 | .sl _,_,_,_=>rfl
def fieldsB(P:Program)(T:TypeId->Option Ty): Nat->List Field->Option Ty
 | _,[]=>none
 | off,f::r=>if f.offset=off then match T f.type with
  | some a=>if P.cellsOf f.type=a.sz then match r with
   | []=>some a
   | g::r'=>match fieldsB P T (off+a.sz) (g::r')with
    | some c=>some (mK a c)
    | none=>none
   else none
  | none=>none
  else none
def tyB(P:Program): Nat->TypeId->Option Ty
 | 0,_=>none
 | n+1,t=>match P.underlying t with
  | some (.int k)=>some (.int k)
  | some .bool=>some .bool
  | some .string=>some .str
  | some (.slice e)=>match tyB P n e with
   | some ty=>if P.cellsOf e=ty.sz then some (.sl ty)else none
   | none=>none
  | some (.struct fs)=>match fieldsB P (tyB P n) 0 fs.toList with
   | some ty=>if P.cellsOf t=ty.sz then some ty else none
   | none=>none
  | _=>none
abbrev TE(w:World): Nat->Prop:=λb=>b<w.heap.size
def aEK{k:IntKind}{n:Int}(h:(Lit.int k n).wf=true): inR k n:=by
 simp only[Lit.wf,qC,qE]at h;cases k<;>simpa[IntKind.min,IntKind.max,IntKind.signed,IntKind.bits,inR]using h
section
variable {H:Type} {enc:TypeId×Value->H} {P:Program} {w:World}
def Opened(w:World)(ty:Ty)(cs:Lv)(n:Nat): Prop:=∃d:ty.den,ag w (TE w) ty d cs/\okT ty d/\lF ty d<=n
def wd{T:TypeId->Option Ty}{n:Nat}{cs:Lv}
  (O:∀t ty,T t=some ty->∀cs x,DataW.trod enc P w 0 (λ_=>true) true n t cs=some x->Opened w ty cs (sk x.1)):
  ∀(A:List Field) (off:Nat) (ty:Ty) (xs:List (DataW H×List MemPlace)),fieldsB P T off A=some ty->xs.length=A.length->
   (∀(i:Nat) (f:Field),A[i]?=some f->DataW.trod enc P w 0 (λ_=>true) true n f.type ((cs.drop f.offset).take (P.cellsOf f.type))=xs[i]?)->
   cs.length=off+ty.sz->Opened w ty (cs.drop off) (mj (xs.map (·.1)))
 | [],_,_,_,h,_,_,_=>by simp[fieldsB]at h
 | f::r,off,ty,xs,h,u,L,hc=>by
  rw[fieldsB.eq_2]at h;split at h
  case isFalse=>cases h
  rename_i b;split at h
  case h_2=>cases h
  rename_i a ha;split at h
  case isFalse=>cases h
  rename_i j
  match xs,u with
  | y::ys,u=>
   have z:=L 0 f rfl;simp only[qAs]at z;rw[b,j]at z;obtain⟨d,G,V,d3⟩:=O _ _ ha _ _ z;split at h
   .cases h;refine⟨d,?_,V,?_⟩
    .rw[qN (by rw[wJ];omega)]at G;exact G
    .simp only[zB,mj];omega
   .rename_i g X _;split at h
    case h_2=>cases h
    rename_i c v;cases h;rw[Hk]at hc;obtain⟨e,e1,e2,e3⟩:=wd O (g::X) (off+a.sz) c ys v (by simpa using u) (λi f' hi=>by simpa using L (i+1) f' (by simpa using hi)) Z;refine⟨Py a c d e,?_,MQ V e2,?_⟩
    .have:=Hj G e1
     rwa [<- yX,kH]at this
    .rw[A2];simp only[zB,mj];omega
def Je{e:Ty}(f:Nat->e.den)(D:Nat->DataW H): ∀l:List Nat,(∀i∈l,lF e (f i)<=sk (D i))->((l.map f).map λx=>lF e x).sum<=mj (l.map D)
 | [],_=>by simp[mj]
 | i::l,h=>by
  have r:=h i (by simp);have g:=Je f D l (λj b=>h j (by simp[b]));simp only[zB,List.sum_cons,mj];omega
def wh: ∀(n:Nat) {t:TypeId} {ty:Ty},tyB P n t=some ty->∀(fuel:Nat) (cs:Lv) (x:DataW H×List MemPlace),
  DataW.trod enc P w 0 (λ_=>true) true fuel t cs=some x->Opened w ty cs (sk x.1)
 | 0,_,_,h,_,_,_,_=>by simp[tyB]at h
 | n+1,t,ty,h,fuel,cs,x,O=>by
  simp only[tyB]at h;split at h
  .rename_i k z;cases h;obtain⟨m,rfl,rfl,hw⟩:=DataW.trod_int z O;exact⟨m,rfl,aEK hw,HI _⟩
  .rename_i z;cases h;obtain⟨b,rfl,rfl⟩:=DataW.trod_bool z O;exact⟨b,rfl,trivial,HI _⟩
  .rename_i z;cases h;obtain⟨s,rfl,rfl,hs⟩:=DataW.trod_string z O;refine⟨s,rfl,by simpa[okT,maxLen]using hs,?_⟩;simp only[lF,sk];have:s.data.toList.length=s.size:=by rw[vP];rfl
   omega
  .rename_i e z;split at h
   case h_2=>cases h
   rename_i g he;split at h
   case isFalse=>cases h
   rename_i hsz;cases h;rcases Deep.open_slice z O with⟨rfl,rfl⟩ | ⟨a,len,cap,m,n',Dd,Pl,rfl,hb,hl,hm,hmm,rfl,hel⟩
   .exact⟨[],bv _ _ _,⟨zA _,λx O=>by cases O⟩,by simp[lF,sk]⟩
   .have hlm:len<=m:=by rw[hmm];simpa using hl
    haveI:Inhabited g.den:=⟨g.dflt⟩
    obtain⟨f,X⟩:=Deep.choose_lt (α:=g.den) (n:=len) (p:=λi d=>∃r,w.cells? 0 (a.add (i*g.sz)) g.sz=some r/\ag w (TE w) g d r/\okT g d/\lF g d<=sk (Dd i)) (λi hi=>by
     obtain⟨r,h1,h2⟩:=hel i Z;rw[hsz]at h1;obtain⟨d,d1,d2,d3⟩:=wh n he _ _ _ h2;exact⟨d,r,h1,d1,d2,d3⟩)
    have hp:=Ty.sz_pos g;have G:0<len->a.spot=none/\a.block<w.heap.size:=λh0=>by
     obtain⟨r,h1,d1,_⟩:=X 0 h0;obtain⟨_,hcl,V⟩:=World.cells?_some h1;have:=V 0 hp;have hlt:0<r.length:=Z;rw[qB hlt]at this;simp only[xW]at this;have e0:(a.add 0).add 0=a:=by simp[Addr.add]
     rw[e0]at this;unfold World.cell? at this;split at this
     .rename_i c t' fr hc;refine⟨?_,(vT.1 hc).1⟩;split at this
      .cases this
      .rename_i hs;cases A:a.spot with
       | none=>rfl
       | some _=>rw[A]at hs;simp at hs
     .cases this
    have v:List.length ((List.range len).map f)=len:=by simp
    refine⟨(List.range len).map f,⟨some a,cap,by rw[v],by rw[v];exact hl,(λh=>by cases h),λa' ha' L=>?_,λi y hy=>?_⟩,⟨?_,λy hy=>?_⟩,?_⟩
    .cases ha';rw[v]at L;exact(G L).1
    .have hi:i<len:=by
      have:=(qG.1 hy).1
      rwa [v]at this
     have ey:y=f i:=by
      rw[qR,vO hi]at hy;exact(wW hy).symm
     subst ey;obtain⟨r,h1,d1,_⟩:=X i hi;obtain⟨A,hbk⟩:=G Z;refine⟨a,r,rfl,hbk,λj u hj=>?_,d1⟩;obtain⟨_,hcl,V⟩:=World.cells?_some h1;have hjl:=(qG.1 hj).1;have:=V j Z;rw[hj,Deep.add_add]at this;have e1:a.add (i*g.sz+j)=⟨a.block,a.off+i*g.sz+j,none⟩:=by
      cases a with | mk b o s=>simp only at A;subst A;rw[xH,qAa]
     rw[e1]at this;exact this
    .rw[v];unfold maxLen at hm;omega
    .obtain⟨i,hi,rfl⟩:=vM.1 hy;obtain⟨_,_,_,h2,_⟩:=X i (qZ.1 hi);exact h2
    .have:=Je f Dd (List.range len) (λi hi=>by
      obtain⟨_,_,_,_,h3⟩:=X i (qZ.1 hi);exact h3)
     simp only[lF,sk];omega
  .rename_i fs z;split at h
   case h_2=>cases h
   rename_i ty' hfs;split at h
   case isFalse=>cases h
   rename_i hsz;cases h;obtain⟨xs,m,_,rfl,hcl,hxl,X⟩:=DataW.trod_struct z O;obtain⟨d,d1,d2,d3⟩:=wd (cs:=cs) (n:=m) (T:=tyB P n) (λt' ty' ht' r x' hx'=>wh n ht' _ _ _ hx') fs.toList 0 ty xs hfs (by simpa using hxl)
    (λi f' hi=>X i f' (by simpa using hi)) Z
   refine⟨d,by simpa using d1,d2,?_⟩;simp only[sk];omega
  .cases h
abbrev TT:=Bool×Ty
def tE: List TT->Type
 | []=>PUnit
 | p::r=>p.2.den×tE r
def aFk(p:TT)(x:p.2.den): AV:=match p.1 with
 | true=>.agg (cellsOf p.2 x)
 | false=>.dat p.2 x
def avs: (l:List TT)->tE l->List AV
 | [],_=>[]
 | p::r,x=>aFk p x.1::avs r x.2
def okL: (l:List TT)->tE l->Prop
 | [],_=>True
 | p::r,x=>okT p.2 x.1/\okL r x.2
def Y6: (l:List TT)->tE l->Nat
 | [],_=>0
 | p::r,x=>lF p.2 x.1+Y6 r x.2
def ttB(P:Program)(t:TypeId)(p:TT): Bool:=decide (tyB P 12 t=some p.2)&&(match P.underlying t with
 | some (.struct _)=>p.1
 | some (.int _) | some .bool | some .string | some (.slice _)=>!p.1
 | _=>false)
def VP(P:Program): List TypeId->List TT->Bool
 | [],[]=>true
 | t::ts,p::ps=>ttB P t p&&VP P ts ps
 | _,_=>false
def open_arg{t:TypeId}{p:TT}{base:Nat}{v:Value}{d:DataW H}{j:List MemPlace}(r:ttB P t p=true)(b:Value.okWide P w .any base t v)
  (h:DataW.Trod enc P w 0 (λ_=>true) true t v d j):∃x:p.2.den,(aFk p x).rel P ⟨w,TE w,noM,noE⟩ v/\okT p.2 x/\lF p.2 x<=sk d:=by
 unfold ttB at r;simp only[qC,qE]at r;obtain⟨i,f⟩:=r;obtain⟨fuel,z⟩:=h;obtain⟨x,x1,x2,u⟩:=wh 12 i _ _ _ z;refine⟨x,?_,x2,u⟩;have plain:(∀cs,v≠.agg cs)->p.1=false->(aFk p x).rel P ⟨w,TE w,noM,noE⟩ v:=λy A=>by
  have e:v.cells.toList=[v]:=by cases v<;>first | rfl | exact(y _ rfl).elim
  rw[e]at x1;unfold aFk;rw[A];exact x1
 split at f
 .rename_i G g;have:∃cs,v=.agg cs:=by
   unfold Value.okWide at b;rw[g]at b;obtain⟨cs,e,_⟩:=b;exact⟨cs,e⟩
  obtain⟨cs,rfl⟩:=this;unfold aFk;rw[f];refine⟨cs.toList,rfl,cw (C:=⟨w,TE w,noM,noE⟩) ?_⟩;exact x1
 all_goals first
  | cases f
  | (rename_i g
     refine plain (λcs e=>?_) (by simpa using f);subst e;simp[Value.okWide,g,Cell.okWide,Cell.ok]at b)
def HD: ∀{ts:List TypeId} {l:List TT} {vs:Lv} {ds:List (DataW H)} {f:List MemPlace} {base:Nat},VP P ts l=true->
  (∀(j:Nat) t v,ts[j]?=some t->vs[j]?=some v->Value.okWide P w .any base t v)->DataW.TrodAll enc P w 0 (λ_=>true) true ts vs ds f->
  ∃x:tE l,AV.relL P ⟨w,TE w,noM,noE⟩ (avs l x) vs/\okL l x/\Y6 l x<=mj ds
 | [],[],vs,ds,f,base,_,_,h=>by
  obtain⟨rfl,rfl,rfl⟩:=trodAll_nil h;exact⟨PUnit.unit,rfl,trivial,zA _⟩
 | t::ts,p::l,vs,ds,f,base,b,i,h=>by
  obtain⟨v,e,d,O,p1,q,rfl,rfl,rfl,L,G⟩:=trodAll_cons h;simp only[VP,qC]at b;obtain⟨x,x1,x2,V⟩:=open_arg b.1 (i 0 t v rfl rfl) L;obtain⟨y,u,r,T⟩:=HD b.2 (λj t' z A g=>i (j+1) t' z (by simpa using A) (by simpa using g)) G;exact⟨(x,y),⟨v,e,rfl,x1,u⟩,⟨x2,r⟩,by simp only[Y6,mj];omega⟩
 | [],_::_,_,_,_,_,b,_,_=>by simp[VP]at b
 | _::_,[],_,_,_,_,b,_,_=>by simp[VP]at b
def IC{W r:World}(i:laidOutB P=true)(hb:Below W.heap.size W r): ∀{ts:List TypeId} {vs:Lv} {ds:List (DataW H)} {j:List MemPlace},
  (ts.all λt=>P.readableRec t&&decide (t<P.types.size))=true->DataW.TrodAll enc P W 0 (λ_=>true) true ts vs ds j->(∀x∈j,x.block<W.heap.size)->
  ∀sp:Nat->Bool,(∀x∈j,sp x.block=true)->DataW.TrodAll enc P r 0 sp true ts vs ds j
 | [],vs,ds,j,_,h,_,sp,_=>by
  obtain⟨rfl,rfl,rfl⟩:=trodAll_nil h;exact trodAll_mk0
 | t::ts,vs,ds,j,g,h,f,sp,e=>by
  obtain⟨v,u,d,A,p1,q,rfl,rfl,rfl,z,y⟩:=trodAll_cons h;simp only[qAu,qC,qE]at g;have g1:=WideElems.Trod_stays (enc:=enc) (sp':=sp) i g.1.1 g.1.2 z (λx b=>hb.same (f x (qI.2 (.inl b)))) (λx b=>e x (qI.2 (.inl b)));exact⟨p1,q,g1,IC i hb (by simpa using g.2) y (λx b=>f x (qI.2 (.inr b))) sp (λx b=>e x (qI.2 (.inr b))),rfl⟩
def law_contractG{G:List (Nat×AV)}{f:FuncId}{fn:Func}{s:ChangeSpec}{apart fresh r again:Bool}{l:List TT}{X:tE l->Prop}{rt:TypeId}(hf:∀x:tE l,X x->ah P G f (avs l x) [] ⟨True,.dat .bool true,[]⟩)
  (O:VP P fn.params.toList l=true) (hl:laidOutB P=true) (hrd:(fn.params.toList.all λt=>P.readableRec t&&decide (t<P.types.size))=true)
  (V:fn.resultTypes=#[rt]) (i:P.underlying rt=some .bool) (g:s.vars=[])
  {W:World} {base:Nat} {args:Array Value} {ds gs:List (DataW H)} {before:List MemPlace}
  (y:ds.length=l.length->s.fn H ds={results:=[.lit (.bool true)],args:=ds})
  (L:∀(j:Nat) t v,fn.params[j]?=some t->args[j]?=some v->Value.okWide P W .any base t v)
  (hW:DataW.Whole enc P fn.params.toList s.vars apart W args.toList ds gs before)
  (hX:∀x:tE l,okL l x->Y6 l x<=mj ds->X x) (hG:lM P ⟨W,TE W,noM,noE⟩ G):
  Calls P f args W λe W'=>∃v,e=.returned v/\s.post enc P fn apart fresh r again W args v W':=by
 obtain⟨p,q,hA,hV,u,hfz,hnd⟩:=id hW;rw[g]at hV;obtain⟨rfl,rfl⟩:=trodVars_none hV;rw[vY]at u;subst u;have hlt:∀x∈before,x.block<W.heap.size:=λx hx=>hW.lt x hx
 obtain⟨x,x1,x2,x3⟩:=HD (l:=l) O (λj t v h1 h2=>L j t v (by simpa using h1) (by simpa using h2)) hA;have hsl:∀{ts:List TypeId} {l:List TT} {vs:Lv} {ds:List (DataW H)} {p:List MemPlace},VP P ts l=true->DataW.TrodAll enc P W 0 (λ_=>true) true ts vs ds p->ds.length=l.length:=by
  intro ts;induction ts with
  | nil=>
   intro l vs ds p T h;obtain⟨rfl,rfl,rfl⟩:=trodAll_nil h;cases l with
   | nil=>rfl
   | cons _ _=>simp[VP]at T
  | cons t ts ih=>
   intro l vs ds p T h;obtain⟨v,vs',d,ds',p1,q,rfl,rfl,rfl,h1,h2⟩:=trodAll_cons h;cases l with
   | nil=>simp[VP]at T
   | cons _ l=>
    simp only[VP,qC]at T;simp[ih T.2 h2]
 have z:=y (hsl O hA);have A:=(hf x (hX x x2 x3)).data trivial (w:=W) (D:=TE W) (us:=args.toList) (λb hb=>hb) hG x1;refine A.mono λe W' he=>?_
 obtain⟨v,rfl,hb,hv⟩:=he;have hv:v=.bool true:=by simpa[AV.rel,ag]using hv
 subst hv;refine⟨_,rfl,Eg (pa:=before) (pv:=[]) hW hb (λb sp hd=>?_) (λsp hsp=>?_) (λsp _=>?_) (by simp) (ok_one V rfl (okWide_bool_mk i _))⟩
 .rw[vY,z,V];exact trodAll_mk1 (shut_bool i true)
 .rw[vY,z];exact IC hl hb hrd hA hlt sp hsp
 .rw[g,vY,z];exact rfl
def laid_strs{n:String}{g:Nat}{ta te m:Nat}{w:World}{xs:List ByteArray}(hg:P.globalNamed n=some g)(ht:(P.globals[g]?).map (·.type)=some ta)(ha:P.underlying ta=some (.array m te))
  (he:P.underlying te=some .string) (hc:P.cellsOf te=1) (hsz:m<=9223372036854775807) (O:0<m) {r:List (String×DataW Unit)} {ps:List MemPlace}
  (h:DataW.LaidVars P w ((n,.agg (xs.map λs=>.lit (.string s.data.toList)))::r) ps):lM P ⟨w,TE w,noM,noE⟩ [(g,.ia .str xs)]/\∃x,DataW.LaidVars P w r x:=by
 obtain⟨g',t',cs,fuel,p,q',T,L,hv,hd,hr,_⟩:=h;obtain rfl:=wW (hg.symm.trans T);obtain rfl:=wW (ht.symm.trans L);refine⟨λz hz=>?_,q',hr⟩;obtain rfl:=vG.1 hz;obtain⟨ys,f,rfl,G,hlen,hm,V⟩:=DataW.trod_array ha hd;simp only[qCd,DataW.agg.injEq]at G;have hxl:xs.length=m:=by
  have:=yP List.length G.1;simpa[hm]using this
 have cell:∀i (hi:i<m),∃y,xs[i]?=some y/\w.cell? ⟨g,i,none⟩=some (.string y):=by
  intro i hi;have h1:=V i hi;rw[hc,xA,qB Z]at h1;obtain⟨s,e1,e2,_⟩:=DataW.trod_string he h1;have e:cs[i]?=some (.string s):=by
   have:=yP (·[0]?) e1;simpa[vV,vJ]using this
  refine⟨s,?_,by rw[World.var?_cell hg hv];exact e⟩;have v:=yP (·[i]?) G.1;simp only[qR,qB (show i<ys.length by omega),qB (show i<xs.length by omega),zU,wM]at v;rw[e2]at v;simp only[DataW.lit.injEq,Lit.string.injEq]at v;rw[qB Z];have:xs[i].data=s.data:=Array.toList_inj.1 v;cases A:xs[i]with | mk d=>cases s with | mk d'=>rw[A]at this;exact yP some (yP ByteArray.mk this)
 have b:TE w g:=by
  obtain⟨y,_,e⟩:=cell 0 O;show g<w.heap.size;unfold World.cell? at e;split at e
  .rename_i c t' fr X;exact(vT.1 X).1
  .cases e
 refine⟨rfl,g,0,rfl,some ⟨g,0,none⟩,xs.length,by rfl,qJ _,(λh=>by cases h),λa' ha' _=>by cases ha';rfl,λi y hy=>?_⟩;have hi:=(qG.1 hy).1;obtain⟨y',e1,e2⟩:=cell i Z;obtain rfl:=wW (hy.symm.trans e1);refine⟨⟨g,0,none⟩,[.string y],rfl,b,λj u hj=>?_,rfl⟩;have:j=0:=by
  have:=(qG.1 hj).1;simp at this;omega
 subst this;obtain rfl:Value.string y=u:=by simpa using hj
 simpa[Ty.sz]using e2
end
end Go.Eng
