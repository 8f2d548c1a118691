/- PeIn6p PeWr1p PeWr2p PeTq1 PeTq2 PeTq3 PeTq4 PeInLp PeInTp PeWr3p -/
import Derived.Test.YtecnnbcfgijddaaGreatDoorETBrkC
import Derived.Test.YtecnnbcfgijddaaGreatDoorETBrkE
import Derived.Test.YtecnnbcfgijddaaGreatDoorETBrkF
import Derived.Lib.AppendIntMem
import Derived.Lib.ItoaLen
set_option linter.all false
set_option maxRecDepth 100000
noncomputable section
namespace Go.Eng.In
open Go.Proofs
def iM(n:Net):Bool:=decide (n.1.length<=10/\n.2.1.length<=10/\n.2.2.1.length<=10/\n.2.2.2.1.length<=16/\n.2.2.2.2.1.length<=50/\n.2.2.2.2.2.length<=8)
def iI(w:List Bool)(h:Li):Bool:=decide (w.length<=20)&&decide (h.length<=60)
def kr(h:List Cal)(f:List ByteArray):List ByteArray:=(List.range h.length).map λi=>f.getD i ⟨#[]⟩
def N9(f:List Off):List ByteArray:=f.map (·.1)
def Oo(f:List Line):List ByteArray:=f.map (·.1)
def OX(f:List Cla):List ByteArray:=f.map (·.1)
def Rz(l:List ByteArray)(i:Int):ByteArray:=l.getD i.toNat ⟨#[]⟩
def aB(n:Net)(k:Int):List ByteArray:=if k=1 then kr n.1 n.2.1 else if k=2 then n.2.2.1 else if k=3 then N9 n.2.2.2.1 else if k=4 then Oo n.2.2.2.2.1 else if k=5 then OX n.2.2.2.2.2 else[]
def jI(k n:Int):Prop:=0<=k/\k<=n
def aF(n:Net)(k i:Int):List ByteArray:=(aB n k).take i.toNat
def t8(f:List (Int×List Bool×Li))(k:Int):Prop:=0<=k/\k<=f.length/\(f.take k.toNat).all (λc=>iI c.2.1 c.2.2)=true
def tL(f:List Off)(k:Int):Prop:=0<=k/\k<=f.length/\(f.take k.toNat).all (λo=>decide (o.2.2.2.2.2.2.length<=30))=true
def gR(l:List ByteArray):Bool:=l.all λs=>decide (s.size<=40)
def qf(n:Net)(k:Int):Prop:=1<=k/\k<=6/\∀j:Int,1<=j->j<k->gR (aB n j)=true
def BX(l:List ByteArray)(i:Int):Prop:=0<=i/\i<=l.length/\gR (l.take i.toNat)=true
def nX(n:Net):Bool:=iM n&&(n.1.all λc=>iI c.2.1 c.2.2)&&(n.2.2.2.1.all λo=>decide (o.2.2.2.2.2.2.length<=30))&&gR (aB n 1)&&gR (aB n 2)&&gR (aB n 3)&&gR (aB n 4)&&gR (aB n 5)
def iq(a b:Lj):Bool:=a==b
def px(a b:Lj)(k:Int):Prop:=0<=k/\k<=a.length/\a.length=b.length/\a.length<=1000000/\a.take k.toNat=b.take k.toNat
def py(a b:Lj)(i k:Int):Prop:=0<=k/\k<=(a.getD i.toNat []).length/\(a.getD i.toNat []).length=(b.getD i.toNat []).length/\(a.getD i.toNat []).length<=1000000/\(a.getD i.toNat []).take k.toNat=(b.getD i.toNat []).take k.toNat
def An(a:Lj):Prop:=a.length<=1000000/\∀r∈a,r.length<=1000000
def BG(a b:List (Lj)):Bool:=a==b
def BE(a b:List (Lj))(k:Int):Prop:=0<=k/\k<=a.length/\a.length=b.length/\a.take k.toNat=b.take k.toNat
def WJ(a:List (Lj)):Prop:=a.length<=1000000/\∀t∈a,An t
def ZV(p q:Plan):Bool:=decide (p=q)
def aCA(p:Plan):Prop:=An p.2.2.1/\WJ p.2.2.2
def smF(n:Net)(nx:Lj):Bool:=(nX n&&decide ((n.2.2.2.1.length:Int)<=6))&&(decide ((nx.length:Int)<=10)&&nx.all λr=>decide ((r.length:Int)<=10))
def aDE(nx:Lj)(k:Int):Prop:=0<=k/\k<=nx.length/\nx.length<=10/\∀i:Nat,(i:Int)<k->(nx.getD i []).length<=10
def sO(n:Net)(l:Li):Bool:=smF n []&&decide ((l.length:Int)<=3000)
abbrev vL:=aA [.row C] (λ_=>True) λ((_,w,h),_)=>.dat .bool (iI w h)
def aDu:Kt:=kOr 149 vL Pq
def vf(n:Net)(k:Int)(f slot:Nat)(st:St)(xs:List ByteArray):Option Spec:=some {α:=Int,inv:=λi=>jI i (Di (aB n k)),st:=λi=>oG (put st [(slot,.dat I i),(5,.buf 100 (Dl (aF n k i)))]) 100 (.buf 9 S (aF n k i) []),μ:=λi=>Dc (Dk (Di (aB n k)) i)}
def WG(n:Net):Ann:=⟨λh f=>match h with
 |5=>vf n 1 5 6 f []|12=>vf n 2 12 7 f []|17=>vf n 3 17 8 f []|22=>vf n 4 22 9 f []|27=>vf n 5 27 10 f []|_=>none,λ_ _=>none,λ_ _=>none⟩
def Vs(a b:Lj):Ann:=⟨λf st=>match f with
 |4=>some {α:=Int,inv:=λk=>px a b k,st:=λk=>put st [(5,.dat I k)],μ:=λk=>Dc (Dk (Di a) k)}|9=>match st.sig.T 5 with
  |.dat (.int .i64) i=>some {α:=Int,inv:=λk=>py a b i k,st:=λk=>put st [(6,.dat I k)],μ:=λk=>Dc (Dk (Di (Dw a (Dc i) [])) k)}|_=>none
 |_=>none,λ_ _=>none,λ_ _=>none⟩
abbrev sD:=aA [.row N,.val I] (λ(n,_,_)=>iM n=true) λ(n,k,_)=>.dat (.sl S) (aB n k)
abbrev AA:=aA [.val M,.val M] (λ(a,_,_)=>An a) λ(a,b,_)=>.dat .bool (iq a b)
def aDt:Kt:=kOr 150 sD <|
 kOr 64 AA aDu
def aCR(n:Net):Ann:=⟨λf st=>match f with
 |4=>some {α:=Int,inv:=λk=>t8 n.1 k,st:=λk=>put st [(3,.dat I k)],μ:=λk=>Dc (Dk (Di n.1) k)}|9=>some {α:=Int,inv:=λk=>tL n.2.2.2.1 k,st:=λk=>put st [(4,.dat I k)],μ:=λk=>Dc (Dk (Di n.2.2.2.1) k)}|14=>some {α:=Int,inv:=λk=>qf n k,st:=λk=>put st [(5,.dat I k)],μ:=λk=>Dc (Dk 6 k)}|18=>match st.sig.T 5 with
  |.dat (.int .i64) k=>some {α:=Int,inv:=λi=>BX (aB n k) i,st:=λi=>put st [(7,.dat I i)],μ:=λi=>Dc (Dk (Di (aB n k)) i)}|_=>none
 |_=>none,λ_ _=>none,λ_ _=>none⟩
def aB2(a b:List (Lj)):Ann:=Z8 4 Int (BE a b) (λf k=>put f [(5,.dat I k)]) λk=>Dc (Dk (Di a) k)
abbrev AP:=aA [.row N] (λ_=>True) λ(n,_)=>.dat .bool (nX n)
abbrev Az:=aA [.val (.sl M),.val (.sl M)] (λ(a,_,_)=>WJ a) λ(a,b,_)=>.dat .bool (BG a b)
def K17:Kt:=kOr 76 AP <|
 kOr 65 Az aDt
def smA(nx:Lj):Ann:=Z8 4 Int (aDE nx) (λs k=>put s [(5,.dat I k)]) λk=>Dc (Dk (Di nx) k)
abbrev AB:=aA [.row Pl,.row Pl] (λ(p,_,_)=>aCA p) λ(p,q,_)=>.dat .bool (ZV p q)
def aFV:Kt:=kOr 19 AB <|
 kOr 24 (aA [.row N,.val M] (λ_=>True) λ(n,nx,_)=>.dat .bool (smF n nx)) K17
def mU{α:Type}{l:List α}{p:α->Bool}{d:α}{k:Nat}(h:(l.take k).all p=true)(j:k<l.length)(f:p (l.getD k d)=true):(l.take (k+1)).all p=true:=by
 rw[wY,qB j,gV,h];rw[qA,qB j]at f;simpa using f
def yc{α:Type}{l:List α}{p:α->Bool}{d:α}{k:Nat}(h:k<l.length)(f:p (l.getD k d)=false):l.all p=false:=by
 rw[qA,qB h]at f;rw[qBq];exact⟨l[k],wS h,by simpa using f⟩
def Ao{α β:Type}(f:α->β)(l:List α)(i:Nat)(d:α)(d':β)(h:i<l.length):(l.map f).getD i d'=f (l.getD i d):=by
 rw[qA,qQ,qB h,qA,qB h];rfl
def DC{h:List (Int×List Bool×Li)}{f:List ByteArray}{i:Int}(u:0<=i)(j:i<h.length):Rz (kr h f) i=f.getD i.toNat ⟨#[]⟩:=by
 unfold Rz kr;rw[Ao (λi=>f.getD i ⟨#[]⟩) _ _ 0 _ (by rw[yI];omega)];show f.getD ((List.range h.length).getD i.toNat 0) _=_;rw[show(List.range h.length).getD i.toNat 0=i.toNat by rw[qA,zH Z];rfl]
def Ju{α:Type}{f:α->ByteArray}{l:List α}{i:Int}(d:α)(j:0<=i)(h:i<l.length):Rz (l.map f) i=f (l.getD i.toNat d):=Ao _ _ _ _ _ Z
def kq(f:List (Int×List Bool×Li))(h:List ByteArray):(kr f h).length=f.length:=by simp[kr]
def fN{α β:Type}(f:α->β)(l:List α):(l.map f).length=l.length:=vX f
def UZ:eO 149 vL:=af λ(((z:Int),(w:List Bool),(h:Li)),_)=>by
 refine zE (A:=aG) (p:=let f:=Ef (Di w) 20;(True->Q3 f ((Dh true f->f)/\Dy f (Ef (Di h) 60) false=iI w h/\True))) Bj λ_=>?_;simp only[qc,Dh,Et,Dj,iI,Ef,Di];congr 1<;>congr 1<;>exact qCa Z
def Ur:ay Tryz.prog fU aDu:=ai UZ Bj
def BU{n:Net}{k i:Int}(h:0<=i)(f:i<=(aB n k).length):(aF n k i).length=i.toNat:=by
 unfold aF;rw[qO];omega
def yn{n:Net}{k i:Int}(h:0<=i)(f:i<(aB n k).length):aF n k (i+1)=aF n k i++[(aB n k).getD i.toNat ⟨#[]⟩]:=by
 unfold aF;rw[show(i+1).toNat=i.toNat+1 by omega,wY,qA,qB (show i.toNat<(aB n k).length by omega)];rfl
def BV{n:Net}{k i:Int}(h:i<=(aB n k).length)(f:¬i<(aB n k).length):aF n k i=aB n k:=by
 unfold aF;exact qM Z
def pN{n:Net}{k:Int}{m:Nat}{el:Int->ByteArray}(L:(aB n k).length=m)(hm:m<=100)(A:∀x,0<=x->x<(m:Int)->(aB n k).getD x.toNat ⟨#[]⟩=el x){R:List ByteArray}(G:R=aB n k):
  (∃x,jI x (aB n k).length/\(aF n k x).length=0/\aF n k x=[]/\0=x/\aF n k x=[])/\
   ∀(x:Int),jI x (aB n k).length->
    (x<(m:Int)->0<=x/\x<(m:Int)/\((aF n k x).length+[el x].length)*16<=140737488355328/\(aF n k x).length+[el x].length<=9223372036854775807/\inR .i64 (x+1)/\
     ∃y,jI y (aB n k).length/\((aF n k x).length+[el x].length=(aF n k y).length/\x+1=y/\aF n k x++[el x]=aF n k y)/\(((aB n k).length:Int)-y).toNat<(((aB n k).length:Int)-x).toNat)/\
    (¬x<(m:Int)->aF n k x=R):=by
 refine⟨⟨0,⟨qN _,qU _⟩,rfl,rfl,rfl,rfl⟩,λx ⟨h,u⟩=>⟨λf=>?_,λz=>by rw[G];exact BV u Z⟩⟩;have X:=BU h u;have j:=yn h (show x<((aB n k).length:Int) by omega);rw[A x h f]at j;refine⟨h,f,by simp only[vC];omega,by simp only[vC];omega,⟨Z,Z⟩,x+1,⟨Z,Z⟩,⟨by rw[j,qG],rfl,j.symm⟩,Z⟩
def rF(z:List Cal)(h f:List ByteArray)(y:List Off)(j:List Line)(u:List Cla)(A:iM (z,h,f,y,j,u)=true):z.length<=10/\h.length<=10/\f.length<=10/\y.length<=16/\j.length<=50/\u.length<=8:=vO A
def Qn:eO 150 sD:=af λ(((X,j,u,L,z,G):Net),(k:Int),_)=>by
 refine zE (A:=(lvA [(5,[2,4,5,6,7,8,9,10,11]),(12,[2,4,5,7,8,9,10,11]),(17,[2,4,5,8,9,10,11]),(22,[2,4,5,9,10,11]),(27,[2,4,5,10])] (WG (X,j,u,L,z,G)))) (p:=let c5:=ByteArray.mk #[];let f:=(X,j,u,L,z,G);let c2:=Ed k 1;let c3:=Di (aB f 1);let c4:=[ByteArray.mk #[]];let A:=aB f k;let c7:=Ed k 2;let c8:=Di (aB f 2);let c9:=Ed k 3;let c10:=Di (aB f 3);let c11:=Di L;let c13:=Ed k 4;let c14:=Di (aB f 4);let c15:=Di z;let c16:=((0:Int),(0:Int));let c18:=Ed k 5;let c19:=Di (aB f 5);let c20:=Di G;(iM f->(c2->(∃x,let c22:=aF f 1 x;jI x c3/\L7 f Z0 (Dl c22=0/\c22=Du ByteArray/\0=x/\k=k/\c22=Du ByteArray/\True))/\∀(x:Int),let c23:=Dn x (Di X);let c24:=Dn x (Di j);let c25:=aF f 1 x;let h:=Dl c25;let c27:=[Dw j (Dc x) c5];let c28:=h+Dl c27;let c29:=x+1;let c30:=h+(Dl c4);jI x c3->(c23->(c24->0<=x/\x<Di j/\h=h/\(c28*16)<=140737488355328/\c28<=9223372036854775807/\inR .i64 c29/\∃y,let c31:=aF f 1 y;jI y c3/\(L7 f Z0 (c28=Dl c31/\c29=y/\k=k/\En c25 c27=c31/\True))/\Dc (c3-y)<Dc (c3-x))/\(c24=false->h=h/\(c30*16)<=140737488355328/\c30<=9223372036854775807/\inR .i64 c29/\∃y,let c32:=aF f 1 y;jI y c3/\(L7 f Z0 (c30=Dl c32/\c29=y/\k=k/\En c25 c4=c32/\True))/\Dc (c3-y)<Dc (c3-x)))/\(c23=false->h=h/\c25=A/\True))/\(c2=false->(c7->(∃x,let c33:=aF f 2 x;jI x c8/\L7 f Z0 (Dl c33=0/\c33=Du ByteArray/\0=x/\k=k/\c33=Du ByteArray/\True))/\∀(x:Int),let c34:=Dn x (Di u);let c35:=aF f 2 x;let c36:=Dl c35;let c37:=[Dw u (Dc x) c5];let c38:=c36+Dl c37;let c39:=x+1;
  jI x c8->(c34->0<=x/\x<Di u/\c36=c36/\(c38*16)<=140737488355328/\c38<=9223372036854775807/\inR .i64 c39/\∃y,let c40:=aF f 2 y;jI y c8/\(L7 f Z0 (c38=Dl c40/\c39=y/\k=k/\En c35 c37=c40/\True))/\Dc (c8-y)<Dc (c8-x))/\(c34=false->c36=c36/\c35=A/\True))/\(c7=false->(c9->(∃x,let c41:=aF f 3 x;jI x c10/\L7 f Z0 (Dl c41=0/\c41=Du ByteArray/\0=x/\k=k/\c41=Du ByteArray/\True))/\∀(x:Int),let c42:=aF f 3 x;let c43:=Dl c42;let c44:=[(Dw L (Dc x) (ByteArray.mk #[],(0:Int),(0:Int),(0:Int),(0:Int),(0:Int),Du ByteArray)).1];let c45:=c43+Dl c44;let c46:=x+1;jI x c10->(Dn x c11->0<=x/\x<c11/\c43=c43/\(c45*16)<=140737488355328/\c45<=9223372036854775807/\inR .i64 c46/\∃y,let c47:=aF f 3 y;jI y c10/\(L7 f Z0 (c45=Dl c47/\c46=y/\k=k/\En c42 c44=c47/\True))/\Dc (c10-y)<Dc (c10-x))/\(Dn x c11=false->c43=c43/\c42=A/\True))/\(c9=false->(c13->(∃x,let c48:=aF f 4 x;jI x c14/\L7 f Z0 (Dl c48=0/\c48=Du ByteArray/\0=x/\k=k/\c48=Du ByteArray/\True))/\∀(x:Int),let c49:=aF f 4 x;let c50:=Dl c49;let c51:=[(Dw z (Dc x) (ByteArray.mk #[],(0:Int),(0:Int),(0:Int),c16)).1];let c52:=c50+Dl c51;let c53:=x+1;jI x c14->(Dn x c15->0<=x/\x<c15/\c50=c50/\(c52*16)<=140737488355328/\c52<=9223372036854775807/\inR .i64 c53/\∃y,let c54:=aF f 4 y;jI y c14/\(L7 f Z0 (c52=Dl c54/\c53=y/\k=k/\En c49 c51=c54/\True))/\Dc (c14-y)<Dc (c14-x))/\(Dn x c15=false->c50=c50/\c49=A/\True))/\(c13=false->(c18->(∃x,let c55:=aF f 5 x;
  jI x c19/\L7 f Z0 (Dl c55=0/\c55=Du ByteArray/\0=x/\c55=Du ByteArray/\True))/\∀(x:Int),let c56:=aF f 5 x;let c57:=Dl c56;let c58:=[(Dw G (Dc x) (ByteArray.mk #[],c16)).1];let c59:=c57+Dl c58;let c60:=x+1;jI x c19->(Dn x c20->0<=x/\x<c20/\c57=c57/\(c59*16)<=140737488355328/\c59<=9223372036854775807/\inR .i64 c60/\∃y,let c61:=aF f 5 y;jI y c19/\(L7 f Z0 (c59=Dl c61/\c60=y/\En c56 c58=c61/\True))/\Dc (c19-y)<Dc (c19-x))/\(Dn x c20=false->c57=c57/\c56=A/\True))/\(c18=false->A=Du ByteArray/\True))))))) Ur λhp=>?_
 obtain⟨l1,l2,l3,l4,l5,l6⟩:=rF X j u L z G hp;refine Z9 ?_;refine⟨λhk=>?_,λh1=>⟨λhk=>?_,λh2=>⟨λhk=>?_,λh3=>⟨λhk=>?_,λh4=>⟨λhk=>?_,λh5=>?_⟩⟩⟩⟩⟩;subst hk;have hl:(aB (X,j,u,L,z,G) 1).length=X.length:=kq X j;obtain⟨b1,b2⟩:=pN (n:=(X,j,u,L,z,G)) (k:=1) (el:=λx=>j.getD x.toNat ⟨#[]⟩) (R:=aB (X,j,u,L,z,G) 1) hl Z (λx h0 h1=>DC h0 h1) rfl;refine⟨b1,λx hx=>⟨λhlt=>⟨λhn=>⟨hx.1,hn,((b2 x hx).1 hlt).2.2⟩,λhn=>?_⟩,(b2 x hx).2⟩⟩;have e:j.getD x.toNat ⟨#[]⟩=⟨#[]⟩:=by rw[qA,wZ (by have:=hx.1;omega)];rfl
 have:=((b2 x hx).1 hlt).2.2;simp only[e]at this;exact this;subst hk;exact pN (n:=(X,j,u,L,z,G)) (k:=2) (m:=u.length) (el:=λx=>u.getD x.toNat ⟨#[]⟩) rfl Z (λx _ _=>rfl) rfl;subst hk;exact pN (n:=(X,j,u,L,z,G)) (k:=3) (m:=L.length) (el:=λx=>(L.getD x.toNat (⟨#[]⟩,0,0,0,0,0,[])).1) (fN _ L) Z (λx h0 h1=>Ju _ h0 h1) rfl;subst hk;exact pN (n:=(X,j,u,L,z,G)) (k:=4) (m:=z.length) (el:=λx=>(z.getD x.toNat (⟨#[]⟩,0,0,0,0,0)).1) (fN _ z) Z (λx h0 h1=>Ju _ h0 h1) rfl;subst hk;exact pN (n:=(X,j,u,L,z,G)) (k:=5) (m:=G.length) (el:=λx=>(G.getD x.toNat (⟨#[]⟩,0,0)).1) (fN _ G) Z (λx h0 h1=>Ju _ h0 h1) rfl;unfold aB;rw[if_neg h1,if_neg h2,if_neg h3,if_neg h4,if_neg h5]
def jB{α:Type}{a b:List α}{k:Nat}{d:α}(h:a.take k=b.take k)(y:k<a.length)(u:k<b.length)(j:a.getD k d=b.getD k d):a.take (k+1)=b.take (k+1):=by
 rw[qA,qA,qB y,qB u]at j;have f:a[k]=b[k]:=j;rw[wY,wY,qB y,qB u,h,f]
def q9{a b:Lj}(h:a≠b):false=iq a b:=by unfold iq;exact(qAj.2 h).symm
def Zw:eO 64 AA:=af λ((a:Lj),(b:Lj),_)=>by
 refine zE (A:=(lvA [(4,[0,1,4,5,6]),(9,[0,1,4,5,6])] (Vs a b))) (p:=let c1:=Ea (Di a) (Di b);(An a->(c1->false=iq a b/\True)/\(c1=false->(∃x,px a b x/\L7 a b (0=x/\True))/\∀(x:Int),let c2:=Dn x (Di a);let c3:=Dw a (Dc x) [];let u:=Di c3;let c5:=Dw b (Dc x) [];let h:=Di c5;let j:=Ea u h;let c8:=x+1;px a b x->(c2->0<=x/\x<Di a/\0<=x/\x<Di b/\(j->false=iq a b/\True)/\(j=false->(∃f,py a b x f/\Q4 a b x (0=f/\True))/\∀(f:Int),let z:=Ea (Dw c3 (Dc f) 0) (Dw c5 (Dc f) 0);let L:=f+1;py a b x f->0<=x/\x<Di a/\(Dn f u->0<=x/\x<Di a/\0<=f/\f<u/\0<=x/\x<Di b/\0<=f/\f<h/\(z->false=iq a b/\True)/\(z=false->inR .i64 L/\∃y,py a b x y/\(Q4 a b x (L=y/\True))/\Dc (u-y)<Dc (u-f)))/\(Dn f u=false->inR .i64 c8/\∃y,px a b y/\(L7 a b (c8=y/\True))/\Dc (Di a-y)<Dc (Di a-x))))/\(c2=false->true=iq a b/\True)))) Ur λ⟨hp,X⟩=>?_;refine Z9 ?_;refine⟨λh=>q9 λe=>h (by rw[e]),λh=>⟨⟨qN _,qU _,Z,hp,rfl⟩,λx ⟨G,g1,g2,g3,g4⟩=>⟨λj=>⟨G,j,G,Z,λhd=>q9 λe=>hd (by rw[e]),λhd=>?_⟩,λhge=>?_⟩⟩⟩;have hm2:=X _ (aO (l:=a) (i:=x.toNat) (d:=[]) Z);refine⟨⟨qN _,qU _,Z,hm2,rfl⟩,λz ⟨f0,f1,f2,f3,f4⟩=>⟨G,j,λhz=>⟨G,j,f0,hz,G,Z,f0,Z,λhd=>q9 λe=>hd (by rw[e]),λhe=>⟨⟨Z,Z⟩,z+1,⟨Z,Z,f2,f3,?_⟩,rfl,Z⟩⟩,λhz=>⟨⟨Z,Z⟩,x+1,⟨Z,Z,g2,g3,?_⟩,rfl,Z⟩⟩⟩;rw[show(z+1).toNat=z.toNat+1 by omega];exact jB f4 Z Z he;rw[show(x+1).toNat=x.toNat+1 by omega];refine jB (d:=[]) g4 Z Z ?_;rw[qM Z,qM Z]at f4;exact f4;rw[qM Z,qM Z]at g4;subst g4;unfold iq;simp
def Up:ay Tryz.prog fU aDt:=ai Qn<|ai Zw Ur
def aCv{n:Net}(q:iM n=true)(k:Int):(aB n k).length<=100:=by
 obtain⟨z,h,f,y,j,u⟩:=n;obtain⟨l1,l2,X,L,G,A⟩:=rF z h f y j u q;unfold aB;split;exact vP (yK (kq z h)) Z;split;show f.length<=100;omega;split;exact vP (yK (fN _ y)) Z;split;exact vP (yK (fN _ j)) Z;split;exact vP (yK (fN _ u)) Z;exact wK _
def tW{n:Net}(h:nX n=true->False):false=nX n:=by
 cases e:nX n with
 |false=>rfl|true=>exact(h e).elim
def fP{n:Net}:nX n=true↔iM n=true/\(n.1.all λc=>iI c.2.1 c.2.2)=true/\(n.2.2.2.1.all λo=>decide (o.2.2.2.2.2.2.length<=30))=true/\∀j:Int,1<=j->j<6->gR (aB n j)=true:=by
 unfold nX;simp only[qE,qAt];constructor;rintro⟨y,u,h,f,h5,h6,X,L⟩;refine⟨y,u,h,λj G A=>?_⟩;have z:j=1\/j=2\/j=3\/j=4\/j=5:=Z;rcases z with rfl|rfl|rfl|rfl|rfl<;>assumption;rintro⟨y,u,h,f⟩;exact⟨y,u,h,f 1 (by decide) (by decide),f 2 (by decide) (by decide),f 3 (by decide) (by decide),f 4 (by decide) (by decide),f 5 (by decide) (by decide)⟩
def ZK:eO 76 AP:=af λ(((L,ns,os,G,ls,ks):Net),_)=>by
 refine zE (A:=(lvA [(4,[1,2,3,4,5,6,7]),(9,[1,2,4,5,6,7]),(14,[1,2,5,6,7]),(18,[1,2,5,6,7])] (aCR (L,ns,os,G,ls,ks)))) (p:=let c1:=Di L;let c2:=Ee c1 10;let c3:=Dj c2;let c4:=Dy c2 true (Ee (Di ns) 10);let c5:=Dj c4;let X:=Dy c4 true (Ee (Di os) 10);let z:=Dj X;let c8:=Di G;let c9:=Dy X true (Ee c8 16);let c10:=Dj c9;let c11:=Dy c9 true (Ee (Di ls) 50);let A:=Dj c11;let c13:=Dy c11 true (Ee (Di ks) 8);let h:=(L,ns,os,G,ls,ks);let j:=nX h;(True->Q3 c3 ((Dh true c3->c3)/\Q3 c5 ((Dh true c5->c5)/\Q3 z ((Dh true z->z)/\Q3 c10 ((Dh true c10->c10)/\Q3 A ((Dh true A->A)/\(c13->false=j/\True)/\(c13=false->(∃x,t8 L x/\h=h/\0=x/\True)/\∀(x:Int),let c16:=(Dw L (Dc x) ((0:Int),Du Bool,Du Int)).2;let c17:=Dj (iI c16.1 c16.2);let c18:=x+1;t8 L x->(Dn x c1->0<=x/\x<c1/\True/\(c17->false=j/\True)/\(c17=false->inR IntKind.i64 c18/\∃y,t8 L y/\(h=h/\c18=y/\True)/\Dc (c1-y)<Dc (c1-x)))/\(Dn x c1=false->(∃xa,tL G xa/\h=h/\0=xa/\True)/\∀(xb:Int),let c19:=Ee (Di (Dw G (Dc xb) (ByteArray.mk #[],(0:Int),(0:Int),(0:Int),(0:Int),(0:Int),Du ByteArray)).2.2.2.2.2.2) 30;let c20:=xb+1;tL G xb->(Dn xb c8->0<=xb/\xb<c8/\(c19->false=j/\True)/\(c19=false->inR IntKind.i64 c20/\∃y,tL G y/\(h=h/\c20=y/\True)/\Dc (c8-y)<Dc (c8-xb)))/\(Dn xb c8=false->(∃xba,qf h xba/\h=h/\1=xba/\True)/\∀(f:Int),let c21:=Ef f 5;let c22:=Di (aB h f);let c23:=f+1;qf h f->(c21->iM h/\(∃u,BX (aB h f) u/\Q4 h f (aB h f) (0=u/\True))/\∀(u:Int),let c24:=Ee (Ei (Dw (aB h f) (Dc u) (ByteArray.mk #[]))) 40;let c25:=u+1;
  BX (aB h f) u->(Dn u c22->0<=u/\u<c22/\(c24->false=j/\True)/\(c24=false->inR .i64 c25/\∃y,BX (aB h f) y/\(Q4 h f (aB h f) (c25=y/\True))/\Dc (c22-y)<Dc (c22-u)))/\(Dn u c22=false->inR .i64 c23/\∃y,qf h y/\(h=h/\c23=y/\True)/\Dc (6-y)<Dc (6-f)))/\(c21=false->true=j/\True))))))))))) Up λhp=>?_
 refine Z9 ?_;refine⟨λh=>tW λg=>?_,λh=>?_⟩;obtain⟨l1,l2,l3,l4,l5,l6⟩:=rF L ns os G ls ks (fP.1 g).1;omega;have hl:iM (L,ns,os,G,ls,ks)=true:=qR (by show L.length<=10/\ns.length<=10/\os.length<=10/\G.length<=16/\ls.length<=50/\ks.length<=8;omega);refine⟨⟨qN _,qU _,by simp⟩,λx ⟨x0,x1,x2⟩=>⟨λX=>⟨x0,X,λhb=>tW λg=>?_,λhg=>⟨⟨Z,Z⟩,x+1,⟨Z,Z,?_⟩,rfl,Z⟩⟩,λhge=>?_⟩⟩;have:=yc (l:=L) (p:=λc=>iI c.2.1 c.2.2) (d:=(0,[],[])) (k:=x.toNat) Z hb;rw[(fP.1 g).2.1]at this;cases this;rw[show(x+1).toNat=x.toNat+1 by omega];exact mU (d:=(0,[],[])) x2 Z hg;have hcs:(L.all λc=>iI c.2.1 c.2.2)=true:=by rwa [qM Z]at x2
 refine⟨⟨qN _,qU _,by simp⟩,λz ⟨z0,z1,z2⟩=>⟨λX=>⟨z0,X,λhb=>tW λg=>?_,λhg=>⟨⟨Z,Z⟩,z+1,⟨Z,Z,?_⟩,rfl,Z⟩⟩,λhge=>?_⟩⟩;have:=yc (l:=G) (p:=λo=>decide (o.2.2.2.2.2.2.length<=30)) (d:=(⟨#[]⟩,0,0,0,0,0,[])) (k:=z.toNat) Z (qY Z);rw[(fP.1 g).2.2.1]at this;cases this;rw[show(z+1).toNat=z.toNat+1 by omega];exact mU (d:=(⟨#[]⟩,0,0,0,0,0,[])) z2 Z (qR Z);have hfs:(G.all λo=>decide (o.2.2.2.2.2.2.length<=30))=true:=by rwa [qM Z]at z2
 refine⟨⟨qN _,by decide,λj h1 h2=>Z⟩,λk ⟨k0,k1,k2⟩=>⟨λhk=>?_,λhk=>?_⟩⟩;have hlen:(aB (L,ns,os,G,ls,ks) k).length<=100:=aCv hl k;refine⟨hl,⟨qN _,qU _,by simp[gR]⟩,λi ⟨i0,i1,i2⟩=>⟨λX=>⟨i0,X,λhb=>tW λg=>?_,λhg=>⟨⟨Z,Z⟩,i+1,⟨Z,Z,?_⟩,rfl,Z⟩⟩,λhge=>⟨⟨Z,Z⟩,k+1,⟨Z,Z,λj h1 h2=>?_⟩,rfl,Z⟩⟩⟩;have:=yc (l:=aB (L,ns,os,G,ls,ks) k) (p:=λs=>decide (s.size<=40)) (d:=⟨#[]⟩) (k:=i.toNat) Z (qY Z);have h2:=(fP.1 g).2.2.2 k k0 Z;unfold gR at h2;rw[h2]at this;cases this;rw[show(i+1).toNat=i.toNat+1 by omega];exact mU (d:=⟨#[]⟩) i2 Z (qR Z);by_cases e:j=k;subst e;rwa [qM Z]at i2;exact k2 j h1 Z;exact(fP.2 ⟨hl,hcs,hfs,λj h1 h2=>k2 j h1 Z⟩).symm
def KY{a b:List (Lj)}(h:a≠b):false=BG a b:=by unfold BG;exact(qAj.2 h).symm
def EZ{a b:Lj}:iq a b=true↔a=b:=yX
def Zv:eO 65 Az:=af λ((a:List (Lj)),(b:List (Lj)),_)=>by
 refine zE (A:=(lvA [(4,[0,1,4,5])] (aB2 a b))) (p:=let f:=Di a;let c2:=Di b;let c3:=Ea f c2;(WJ a->(c3->false=BG a b/\True)/\(c3=false->(∃x,BE a b x/\L7 a b (0=x/\True))/\∀(x:Int),let X:=Dw a (Dc x) (Du (Li));let L:=Dj (iq X (Dw b (Dc x) (Du (Li))));let h:=x+1;BE a b x->(Dn x f->0<=x/\x<f/\0<=x/\x<c2/\An X/\(L->false=BG a b/\True)/\(L=false->inR .i64 h/\∃y,BE a b y/\(L7 a b (h=y/\True))/\Dc (f-y)<Dc (f-x)))/\(Dn x f=false->true=BG a b/\True)))) Up λhp=>?_;refine Z9 ?_;obtain⟨hp1,j⟩:=hp;refine⟨λh=>KY λe=>h (by rw[e]),λh=>⟨⟨qN _,qU _,Z,rfl⟩,λx ⟨G,g1,g2,z⟩=>⟨λu=>⟨G,u,G,Z,j _ (aO Z),λhd=>KY λe=>?_,λhd=>⟨az Z,x+1,⟨Z,Z,g2,?_⟩,rfl,Z⟩⟩,λhge=>?_⟩⟩⟩;rw[e,EZ.2 rfl]at hd;cases hd;rw[show(x+1).toNat=x.toNat+1 by omega];exact jB z Z Z (EZ.1 hd);rw[qM Z,qM Z]at z;subst z;unfold BG;simp
def aFM:ay Tryz.prog fU K17:=ai ZK<|ai Zv Up
def Zx:eO 19 AB:=af λ((p:Plan),(q:Plan),_)=>by
 obtain⟨p1,p2,z,y⟩:=p;obtain⟨u,X,L,G⟩:=q;refine zE (A:=aG) (p:=let j:=Ed p1 u;let c1:=(p1,p2,z,y);let h:=Dy j (Ed p2 X) false;let f:=Dy h (iq z L) false;(aCA c1->L5 j (Q3 j ((Dh true j->Ed p1 u)/\L5 h (Q3 h ((h->An z)/\(Dh true h->h)/\L5 f (Q3 f ((f->WJ y)/\(Dh true f->f)/\Dy f (BG y G) false=ZV c1 (u,X,L,G)/\True)))))))) aFM λhp=>?_;refine Z9 ?_;refine⟨λ_=>hp.1,λ_=>hp.2,?_⟩;unfold ZV iq BG;rw[qDc];simp[qAt]
def Qb(nx:Lj)(X:List Cal)(z u:List ByteArray)(j:List Off)(G:List Line)(L:List Cla):aj Tryz.prog fU 24 [.agg [.dat (.sl C) X,.dat (.sl S) z,.dat (.sl S) u,.dat (.sl Of) j,.dat (.sl Ln) G,.dat (.sl Kl) L],.dat M nx] [] ⟨True,.dat .bool (smF (X,z,u,j,G,L) nx),[]⟩:=by
 refine zE (A:=(lvA [(4,[1,4,5])] (smA nx))) (p:=let c1:=(X,z,u,j,G,L);let c2:=Dj (nX c1);let c3:=Dj c2;let c4:=Dy c2 true (Ee (Di j) 6);let c5:=Dj c4;let h:=Dy c4 true (Ee (Di nx) 10);let f:=smF c1 nx;(True->True/\Q3 c3 ((Dh true c3->c3)/\Q2 c5 ((Dh true c5->c5)/\(h->false=f/\True)/\(h=false->(∃x,aDE nx x/\nx=nx/\0=x/\True)/\∀(x:Int),let c8:=Dn x (Di nx);let A:=Ee (Di (Dw nx (Dc x) [])) 10;let c10:=x+1;aDE nx x->(c8->0<=x/\x<Di nx/\(A->false=f/\True)/\(A=false->inR .i64 c10/\∃y,aDE nx y/\(nx=nx/\c10=y/\True)/\Dc (Di nx-y)<Dc (Di nx-x)))/\(c8=false->true=f/\True)))))) aFM λ_=>?_;refine Z9 ?_;have e:smF (X,z,u,j,G,L) nx=((nX (X,z,u,j,G,L)&&decide ((j.length:Int)<=6))&&(decide ((nx.length:Int)<=10)&&nx.all λr=>decide ((r.length:Int)<=10))):=rfl;refine⟨λh=>?_,λ⟨⟨h1,h2⟩,h3⟩=>⟨⟨qN _,qU _,Z,λi h=>Z⟩,λx f=>⟨λhlt=>⟨f.1,hlt,λhb=>?_,λhb=>⟨az (by have:=f.1;omega),x+1,⟨by have:=f.1;omega,Z,f.2.2.1,λi hi=>?_⟩,rfl,by have:=f.1;omega⟩⟩,λhge=>?_⟩⟩⟩;rw[e];rcases h with(h|h)|h;rw[h];rfl;rw[qY Z,kZ];rfl;rw[qY (p:=(nx.length:Int)<=10) Z,qAe,kZ];rw[e];have:(nx.all λr=>decide ((r.length:Int)<=10))=false:=by
  refine qBq.2 ⟨nx.getD x.toNat [],?_,by simp only[qF];omega⟩;rw[qA,qB (by have:=f.1;omega),vJ];exact wS _
 rw[this,kZ,kZ];by_cases h:(i:Int)<x;exact f.2.2.2 i h;have:i=x.toNat:=by have:=f.1;omega
 rw[this];omega;rw[e,h1,qR Z,qR (p:=(nx.length:Int)<=10) Z];refine(qW.2 λr hr=>?_).symm;obtain⟨i,hi,rfl⟩:=yG.1 hr;have:=f.2.2.2 i Z;rw[qA,qB hi,vJ]at this;simp only[qF];omega
def aGJ:ay Tryz.prog fU aFV:=ai Zx<|ai (af λ((z,h,f,y,j,u),nx,_)=>Qb nx z h f y j u) aFM
def Ve(s:Int)(l:Li)(G:List Cal)(j h:List ByteArray)(z:List Off)(u:List Line)(y:List Cla):aj Tryz.prog fU 8 [.agg [.dat (.sl C) G,.dat (.sl S) j,.dat (.sl S) h,.dat (.sl Of) z,.dat (.sl Ln) u,.dat (.sl Kl) y],.agg [.dat R l,.dat I s]] [] ⟨True,.dat .bool (sO (G,j,h,z,u,y) l),[]⟩:=by
 refine zE (A:=aG) (p:=let L:=(G,j,h,z,u,y);let f:=smF L (Du (Li));(True->True/\Q3 f ((Dh true f->f)/\Dy f (Ef (Di l) 3000) false=sO L l/\True))) aGJ λX=>?_;refine Z9 ?_;rfl
end Go.Eng.In
set_option maxHeartbeats 4000000
namespace Go.Eng.Sv
open Go.Proofs
abbrev De:Ty:=.pair I (.pair I (.pair Po (.pair S (.pair S I))))
abbrev Tk:Ty:=.pair Po (.pair (.sl Stp) (.pair .bool (.pair R (.pair (.sl S) (.sl S)))))
abbrev Post:=ByteArray×Int×Int×Int×Int
abbrev bZ:=Int×Int×Post×ByteArray×ByteArray×Int
abbrev Trk:=Post×List Stop×Bool×Li×List ByteArray×List ByteArray
abbrev U8:Ty:=.int .u8
def YU(b:Int):Bool:=decide (65<=b/\b<=90)
def WW(b:Int):Bool:=YU b||decide (48<=b/\b<=57)||decide (b=46)
def fh(s:ByteArray):Bool:=decide (1<=s.size/\s.size<=20)&&s.data.toList.all λb=>WW (b.toNat:Int)
def pX(s:ByteArray)(k:Int):Prop:=0<=k/\k<=s.size/\(s.data.toList.take k.toNat).all (λb=>WW (b.toNat:Int))=true
def dfD:bZ:=(0,0,(⟨#[]⟩,0,0,0,0),⟨#[]⟩,⟨#[]⟩,0)
def isPost(lb:ByteArray)(d:bZ):Bool:=decide (d.1=1)&&(d.2.2.1.1.toList==lb.toList)
def N6(ds:List bZ)(lb:ByteArray):Int:=match ds.findIdx? (isPost lb)with|some i=>Int.ofNat i|none=>-1
def FZ(ds:List bZ)(lb:ByteArray)(k:Int):Prop:=0<=k/\k<=ds.length/\(ds.take k.toNat).any (isPost lb)=false
def hasB(ds:List bZ)(lb:ByteArray):Bool:=ds.any (isPost lb)
def aCp(n:Net)(pre:List bZ)(d:bZ):Bool:=fh d.2.2.1.1&&!hasB pre d.2.2.1.1&&cA d.2.2.1.2.1 n.2.2.2.1.length&&cA d.2.2.1.2.2.1 n.2.2.2.1.length&&cA d.2.2.1.2.2.2.1 n.2.2.2.2.2.length&&decide (d.2.2.1.2.2.2.2=d.2.1)
def oz(n:Net)(pre:List bZ)(d:bZ):Bool:=if d.1=1 then aCp n pre d else if d.1=2 then hasB pre d.2.2.2.1 else if d.1=3 then hasB pre d.2.2.2.1 else if d.1=4 then hasB pre d.2.2.2.1&&hasB pre d.2.2.2.2.1&&!(d.2.2.2.1.toList==d.2.2.2.2.1.toList)else if d.1=5 then cA d.2.2.2.2.2 n.2.2.2.2.1.length else false
def C4(n:Net)(ds:List bZ)(i:Nat):Bool:=decide (0<=(ds.getD i dfD).2.1/\(ds.getD i dfD).2.1<=1000000)&&(decide (i=0)||decide ((ds.getD (i-1) dfD).2.1<=(ds.getD i dfD).2.1))&&oz n (ds.take i) (ds.getD i dfD)
def pcF(ds:List bZ):Int:=(ds.filter λd=>decide (d.1=1)).length
def r7(ds:List bZ)(k:Int):Int:=pcF (ds.take k.toNat)
def fk(n:Net)(ds:List bZ):Bool:=(List.range ds.length).all (C4 n ds)&&decide (ds.length<=120)&&decide (pcF ds<=60)
def M7(n:Net)(ds:List bZ)(k:Int):Prop:=0<=k/\k<=ds.length/\∀i:Nat,(i:Int)<k->C4 n ds i=true
abbrev nH(ds:List bZ):Prop:=ds.length<=9223372036854775807/\∀d∈ds,yg d.2.2.1.1
def aCg(n:Net)(nx:Lj):Bool:=aZ n&&nP n nx
def Ig(n:Net)(nx:Lj)(ds:List bZ):Bool:=Go.Eng.In.smF n nx&&decide ((ds.length:Int)<=16)
def iZ(l:List Stop):Stop:=l.getD (l.length-1) (0,0,0,0)
def I0(n:Net)(t:Trk):Bool:=decide (0<t.2.1.length)&&aZ n&&!t.2.2.1&&decide ((iZ t.2.1).1=t.1.2.2.1)&&decide ((iZ t.2.1).2.2.1=-1)&&decide (0<t.2.2.2.2.1.length)&&((t.2.2.2.2.1.getD (t.2.2.2.2.1.length-1) ⟨#[]⟩).toList==t.1.1.toList)&&decide (Ky n t.1.2.2.2.1 (iZ t.2.1).1 (iZ t.2.1).2.1=0)
abbrev dvP(a:List Stop)(b:List ByteArray):Prop:=a.length<=1000000/\b.length<=1000000
def dvD(n:Net)(t:Trk):Int:=if I0 n t=true then Ye n t.1.2.2.2.1 (iZ t.2.1).1 (iZ t.2.1).2.1 else 0
def aBt(n:Net)(nx:Lj):Ann:=⟨λf s=>match f with
 |4=>some {α:=Int,inv:=λk=>iz n nx k,st:=λk=>put s [(17,.dat I k)],μ:=λk=>Dc (Dk (Di nx) k)}|9=>match s.sig.T 5,s.sig.T 6 with
  |.dat (.int .i64) o,.dat (.sl (.int .i64)) row=>some {α:=Int,inv:=λk=>li n o row k,st:=λk=>put s [(30,.dat I k)],μ:=λk=>Dc (Dk (Di row) k)}|_,_=>none
 |_=>none,λ_ _=>none,λ_ _=>none⟩
def aF1(s:ByteArray)(sl:Nat):Ann:=Z8 2 Int (pX s) (λf k=>put f [(sl,.dat I k)]) λk=>Dc (Dk (Ei s) k)
noncomputable def mk0:Cfg:=⟨Tryz.prog,[],K0,λ_=>false,KI0,false,λ_ _ _=>none,λ_=>false⟩
abbrev sE:=aA [.val U8] (λ_=>True) λ(b,_)=>.dat .bool (YU b)
abbrev sk:=aA [.val I,.val I] (λ_=>True) λ(i,l,_)=>.dat .bool (cA i l)
def KX1:Kt:=kOr 159 sE <|
 kOr 158 sk KRD
def aCB(n:Net)(nx:Lj):Ann:=⟨λf s=>match f with
 |4=>some {α:=Int,inv:=λk=>iz n nx k,st:=λk=>put s [(5,.dat I k)],μ:=λk=>Dc (Dk (Di nx) k)}|9=>match s.sig.T 5 with
  |.dat (.int .i64) o=>some {α:=Int,inv:=λk=>li n o (Dw nx (Dc o) []) k,st:=λk=>put s [(6,.dat I k)],μ:=λk=>Dc (Dk (Di nx) k)}|_=>none
 |_=>none,λ_ _=>none,λ_ _=>none⟩
def aGs(ds:List bZ)(lb:ByteArray):Ann:=Z8 2 Int (FZ ds lb) (λf k=>put f [(5,.dat I k)]) λk=>Dc (Dk (Di ds) k)
abbrev vB:=aA [.row N,.val M] (λ(_,nx,_)=>jb nx) λ(n,nx,_)=>.dat .bool (nP n nx)
abbrev vR:=aA [.val S] (λ(s,_)=>yg s) λ(s,_)=>.dat .bool (fh s)
abbrev wa:=aA [.val (.sl De),.val S] (λ(f,_,_)=>nH f) λ(f,h,_)=>.dat I (N6 f h)
def KX2:Kt:=kOr 93 vB <|
 kOr 94 vR <|
 kOr 95 wa <|
 kOr 9 (aA [.row N] (λ(n,_)=>nY n=true) λ(n,_)=>.dat .bool (aZ n)) <|
 kOr 24 (aA [.row N,.val M] (λ_=>True) λ(n,nx,_)=>.dat .bool (Go.Eng.In.smF n nx)) <|
 kOr 37 (aA [.row N] (λ_=>True) λ(n,_)=>.dat .bool (aZ n)) <|
 kOr 43 MM KX1
def aCV(n:Net)(ds:List bZ):Ann:=Z8 3 Int (M7 n ds) (λf k=>put f [(5,.dat I (r7 ds k)),(6,.dat I k)]) λk=>Dc (Dk (Di ds) k)
def KQ(z:LC)(h f:LB)(y:Lo)(j:Ll)(u:Lk):aj Tryz.prog G0 37 [net z h f y j u] [] ⟨True,.dat .bool (aZ (z,h,f,y,j,u)),[]⟩:=
 zE (A:=aG) (p:=let G:=(z,h,f,y,j,u);(True->True/\Ed (Di (fm G)) 0=aZ G/\True)) Ya λ_=>⟨trivial,by rw[zo];rfl,trivial⟩
def zy{n:Net}{o y:Int}{row:Li}(h:li n o row y)(j:y<row.length)(f:km n o (row.getD y.toNat 0)=true):li n o row (y+1):=by
 have:=h.1;refine⟨Z,Z,h.2.2.1,λi u=>?_⟩;by_cases e:(i:Int)<y;exact h.2.2.2 i e;rw[show i=y.toNat by omega];exact f
def uE{n:Net}{nx:Lj}{x y:Int}(h:iz n nx x)(u:x<nx.length)(f:li n x (nx.getD x.toNat []) y)(G:¬y<(nx.getD x.toNat []).length):iz n nx (x+1):=by
 have:=h.1;refine⟨Z,Z,h.2.2.1,λi A=>?_⟩;by_cases e:(i:Int)<x;exact h.2.2.2 i e;rw[show i=x.toNat by omega,show((x.toNat:Nat):Int)=x by omega];exact(pG f.2.2.1).2 λj z=>f.2.2.2 j Z
def KN{n:Net}{nx:Lj}{x:Int}(h:iz n nx x)(u:x<nx.length)(j:rowOk n x (nx.getD x.toNat [])=false):false=nP n nx:=by
 refine(yS.2 λf=>?_).symm;have:=(ou h.2.2.1).1 f x.toNat (by have:=h.1;omega);rw[show((x.toNat:Nat):Int)=x by have:=h.1;omega,j]at this;cases this
def Yr{n:Net}{x y:Int}{row:Li}(f:li n x row y)(u:y<row.length)(j:km n x (row.getD y.toNat 0)=false):rowOk n x row=false:=by
 refine yS.2 λh=>?_;have:=(pG f.2.2.1).1 h y.toNat (by have:=f.1;omega);rw[j]at this;cases this
def FK{n:Net}{x:Int}{row:Li}(h:¬(row.length:Int)=n.2.2.2.1.length):rowOk n x row=false:=by
 unfold rowOk;rw[qY h];rfl
def EC{n:Net}{nx:Lj}(h:¬(nx.length:Int)=n.2.2.2.1.length):false=nP n nx:=by
 unfold nP;rw[qY h];rfl
def P4{n:Net}{nx:Lj}{x:Int}(h:iz n nx x)(f:¬x<nx.length):true=nP n nx:=((ou h.2.2.1).2 λi j=>h.2.2.2 i (by have:=h.1;omega)).symm
def M1{nx:Lj}(f:jb nx){x:Int}(j:0<=x)(h:x<nx.length):(nx.getD x.toNat []).length<=1000000:=f.2 _ (by
 rw[qA,qB Z,vJ];exact wS _)
def t7{n:Net}{o l:Int}:km n o l=true↔l=-1\/((0<=l/\l<n.2.2.2.2.1.length)/\cF n l=o):=by
 unfold km;rw[yM,qE,cE];simp
def TM{n:Net}{o l:Int}(y:l≠-1)(u:¬(0<=l/\l<n.2.2.2.2.1.length)\/cF n l≠o):km n o l=false:=by
 refine yS.2 λh=>?_;rcases t7.1 h with h|⟨j,f⟩;exact y h;exact u.elim (λg=>g j) λg=>g f
def Zr(nx:Lj)(cs:LC)(ns os:LB)(fs:Lo)(X:Ll)(ks:Lk):aj Tryz.prog G0 38 [net cs ns os fs X ks,.dat M nx] [] ⟨jb nx,.dat .bool (nP (cs,ns,os,fs,X,ks) nx),[]⟩:=by
 refine zE (A:=(lvA [(4,[2,4,5,6,8,15,16,17,28,29,30]),(9,[2,4,5,6,8,15,16,17,28,29,30])] (aBt (cs,ns,os,fs,X,ks) nx))) (p:=let c1:=Di fs;let c2:=Ea (Di nx) c1;let G:=(cs,ns,os,fs,X,ks);let c4:=nP G nx;let c5:=Di X;(jb nx->(c2->false=c4/\True)/\(c2=false->(∃x,iz G nx x/\Q4 G nx (Di nx) (0=x/\True))/\∀(x:Int),let A:=Dn x (Di nx);let h:=Dw nx (Dc x) [];let c8:=Di h;let c9:=Ea c8 c1;let c10:=x+1;iz G nx x->(A->0<=x/\x<Di nx/\(c9->false=c4/\True)/\(c9=false->(∃f,li G x h f/\z8 G x h nx (Di nx) x h c8 (0=f/\True))/\∀(f:Int),let L:=Dw h (Dc f) 0;let c12:=Ed L (-1);let u:=f+1;let c14:=Dn L 0;let z:=Dj c14;let c16:=Dy c14 true (Eb L c5);let j:=Dj c16;let c18:=Dy c16 true (Ea (Dw X (Dc L) (ByteArray.mk #[],(0:Int),(0:Int),(0:Int),(0:Int),(0:Int))).2.1 x);li G x h f->(Dn f c8->0<=f/\f<c8/\(c12->inR .i64 u/\∃y,li G x h y/\(z8 G x h nx (Di nx) x h c8 (u=y/\True))/\Dc (c8-y)<Dc (c8-f))/\(c12=false->L5 z (Q3 z ((Dh true z->z)/\Q3 j ((j->0<=L)/\(j->L<c5)/\L5 j (Q3 j ((Dh true j->j)/\(c18->false=c4/\True)/\(c18=false->inR .i64 u/\∃y,li G x h y/\(z8 G x h nx (Di nx) x h c8 (u=y/\True))/\Dc (c8-y)<Dc (c8-f)))))))))/\(Dn f c8=false->inR .i64 c10/\∃y,iz G nx y/\(Q4 G nx (Di nx) (c10=y/\True))/\Dc (Di nx-y)<Dc (Di nx-x))))/\(A=false->true=c4/\True)))) Ya λhf=>?_
 refine Z9 ?_;have hf1:=hf.1;have st:∀x y:Int,li (cs,ns,os,fs,X,ks) x (nx.getD x.toNat []) y->y<(nx.getD x.toNat []).length->(nx.getD x.toNat []).length<=1000000->km (cs,ns,os,fs,X,ks) x ((nx.getD x.toNat []).getD y.toNat 0)=true->inR .i64 (y+1)/\
   ∃z,li (cs,ns,os,fs,X,ks) x (nx.getD x.toNat []) z/\y+1=z/\(((nx.getD x.toNat []).length:Int)-z).toNat<(((nx.getD x.toNat []).length:Int)-y).toNat:=λx y h h1 h2 h3=>by
  have:=h.1;exact⟨by unfold inR;simp only;omega,y+1,zy h h1 h3,rfl,Z⟩
 refine⟨λh=>EC h,λhe=>⟨⟨qN _,Z,he,λi h=>Z⟩,λx hx=>⟨λu=>⟨hx.1,u,λhr=>KN hx u (FK hr),λhr=>⟨⟨qN _,Z,hr,λi h=>Z⟩,λy hy=>⟨λhly=>⟨hy.1,hly,λh1=>st x y hy hly (M1 hf hx.1 u) (t7.2 (.inl h1)),λh1=>⟨λh=>Z,λh=>Z,λh=>KN hx u (Yr hy hly (TM h1 (h.imp (λh=>by
  show ¬(_/\_<(X.length:Int));omega) id))),λh=>st x y hy hly (M1 hf hx.1 u) (t7.2 (.inr ⟨⟨Z,by show _<(X.length:Int);omega⟩,h.2⟩))⟩⟩,λhge=>?_⟩⟩⟩,λhge=>P4 hx hge⟩⟩⟩
 have:=hx.1;exact⟨by unfold inR;simp only;omega,x+1,uE hx u hy hge,rfl,Z⟩
def Ox{s:ByteArray}{x:Int}(h:pX s x)(u:x<s.size)(f:WW (Fz s x)=true):pX s (x+1):=by
 obtain⟨z,y,j⟩:=h;refine⟨Z,Z,?_⟩;rw[show(x+1).toNat=x.toNat+1 by omega];exact eQ (d:=0) j (by rw[iO];omega) (by rw[ki];exact f)
def YI{s:ByteArray}{x:Int}(h:pX s x)(j:x<s.size)(f:WW (Fz s x)=false):false=fh s:=by
 have:(s.data.toList.all λb=>WW (b.toNat:Int))=false:=lH (d:=0) (k:=x.toNat) (by rw[iO];have:=h.1;omega) (by rw[ki];exact f);unfold fh;rw[this,kZ]
def RS{s:ByteArray}{x:Int}(h:pX s x)(j:¬x<s.size):(decide ((s.size:Int)≥1)&&decide ((s.size:Int)<=20))=fh s:=by
 obtain⟨y,u,f⟩:=h;rw[qM (by rw[iO];omega)]at f;unfold fh;rw[f,kV,<- Bool.decide_and];congr 1;exact qCa Z
def Cf{b:Int}:WW b=true↔(65<=b/\b<=90)\/(48<=b/\b<=57)\/b=46:=by
 unfold WW YU;simp[or_assoc]
def RU{b:Int}(h:¬((65<=b/\b<=90)\/(48<=b/\b<=57)\/b=46)):WW b=false:=yS.2 λg=>h (Cf.1 g)
def Av(s:ByteArray):pX s 0:=⟨qN _,qU _,by simp⟩
def LQ{s:ByteArray}{x:Int}(h:pX s x)(f:x<s.size)(j:yg s)(u:WW (Fz s x)=true):inR .i64 (x+1)/\∃y,pX s y/\x+1=y/\((s.size:Int)-y).toNat<((s.size:Int)-x).toNat:=
 ⟨by have:=h.1;unfold yg at j;unfold inR;simp only;omega,x+1,Ox h f u,rfl,by have:=h.1;omega⟩
def Qo(s:ByteArray):aj Tryz.prog [] 99 [.dat S s] [] ⟨yg s,.dat .bool (fh s),[]⟩:=by
 refine zF (c:=mk0) (A:=(lvA [(2,[0,2,4,6,7,8])] (aF1 s 8))) (λ_ _ _ _ h=>by cases h) (λ_ _ _ h=>by cases h) hm (p:=let f:=Fv s;let X:=Eb (Ei s) 1;true/\(yg s->(∃x,pX s x/\Q4 s (Fv s) (Di f) (0=x/\True))/\∀(x:Int),let c2:=Dn x (Di f);let u:=Dw f (Dc x) 0;let c4:=Dn u 65;let c5:=Dj c4;let h:=Dy c4 true (Ee u 90);let j:=Dn u 48;let L:=Dy h (Dy j true (Ee u 57)) false;let A:=Dy L (Ea u 46) false;let z:=x+1;pX s x->(c2->0<=x/\x<Di f/\L5 c5 ((Dh true c5->c5)/\Q2 h (L5 (Dh h (Dj j)) (L5 h ((h->Dh h (Dj j)->Dh h (Dj j))/\(Dh true h->h)/\L5 L ((Dh true L->L)/\(A->false=fh s/\True)/\(A=false->inR IntKind.i64 z/\∃y,pX s y/\(Q4 s (Fv s) (Di f) (z=y/\True))/\Dc (Ei s-y)<Dc (Ei s-x))))))))/\(c2=false->Q2 X ((Dh true X->X)/\Dy X (Ef (Ei s) 20) false=fh s/\True)))) ⟨rfl,λhs=>?_⟩;refine Z9 ?_;simp only[qc,xw,mO];exact⟨Av s,λx G=>⟨λj=>⟨G.1,j,λh=>YI G j (RU Z),λh=>LQ G j hs (Cf.2 Z)⟩,RS G⟩⟩
def Qr:eO 159 sE:=af λ((b:Int),_)=>by
 refine zE (A:=aG) (p:=let f:=Eb b 65;(True->L5 f ((Dh true f->f)/\Dy f (Ef b 90) false=YU b/\True))) Ya λ_=>?_;refine Z9 ?_;unfold YU;rw[<- Bool.decide_and]
def P6:eO 158 sk:=af λ((i:Int),(l:Int),_)=>by
 refine zE (A:=aG) (p:=let f:=Eb i 0;(True->Q2 f ((Dh true f->f)/\Dy f (Dn i l) false=cA i l/\True))) Ya λ_=>?_;refine Z9 ?_;unfold cA;rw[<- Bool.decide_and]
def aD1:ay Tryz.prog G0 KX1:=ai Qr<|ai P6 Ya
def UW:eO 93 vB:=af λ(((cs,ns,os,fs,ls,ks):Net),(nx:Lj),_)=>by
 refine zE (A:=(lvA [(4,[1,2,4,5,6,7]),(9,[1,2,4,5,6,7])] (aCB (cs,ns,os,fs,ls,ks) nx))) (p:=let L:=Di nx;let c1:=Ea L (Di fs);let u:=(cs,ns,os,fs,ls,ks);let c3:=nP u nx;let c4:=Di ls;(jb nx->(c1->false=c3/\True)/\(c1=false->(∃x,iz u nx x/\L7 nx u (0=x/\True))/\∀(x:Int),let c5:=Dn x L;let j:=Dw nx (Dc x) [];let A:=Di j;let c8:=Ea A L;let X:=x+1;iz u nx x->(c5->0<=x/\x<Di nx/\(c8->false=c3/\True)/\(c8=false->(∃f,li u x j f/\Q4 nx u x (0=f/\True))/\∀(f:Int),let c10:=Dn f L;let G:=Dw j (Dc f) 0;let h:=Ea G (-1);let c13:=Dj (cA G c4);let z:=Dj c13;let c18:=Dh h z;let c14:=Dy h (Dy c13 true (Ea (Dw ls (Dc G) (ByteArray.mk #[],(0:Int),(0:Int),(0:Int),(0:Int),(0:Int))).2.1 x)) false;let c15:=f+1;li u x j f->(c10->0<=x/\x<Di nx/\0<=f/\f<A/\L5 h (Q3 h ((h->True)/\Q2 h (Q3 c18 ((Dh h z->0<=G)/\(Dh h z->G<c4)/\L5 c18 (Q3 c18 (L5 h ((h->Dh h z->Dh h z)/\(Dh true h->h)/\(c14->false=c3/\True)/\(c14=false->inR .i64 c15/\∃y,li u x j y/\(Q4 nx u x (c15=y/\True))/\Dc (Di nx-y)<Dc (Di nx-f))))))))))/\(c10=false->inR .i64 X/\∃y,iz u nx y/\(L7 nx u (X=y/\True))/\Dc (Di nx-y)<Dc (Di nx-x))))/\(c5=false->true=c3/\True)))) aD1 λhf=>?_;refine Z9 ?_;have hf1:=hf.1;refine⟨λh=>EC h,λhe=>⟨⟨qN _,Z,he,λi h=>Z⟩,λx X=>⟨λj=>⟨X.1,j,λhr=>KN X j (FK (by show ¬(_=(fs.length:Int));omega)),λhr=>⟨⟨qN _,Z,by show _=(fs.length:Int);omega,λi h=>Z⟩,λy hy=>⟨λhly=>⟨X.1,j,hy.1,Z,λh=>(cE.1 h.2).1,λh=>(cE.1 h.2).2,λh=>KN X j (Yr hy Z (TM h.1 (h.2.imp (λh=>by
  rw[<- cE];exact yS.1 h) id))),λh=>?_⟩,λhge=>?_⟩⟩⟩,λhge=>P4 X hge⟩⟩⟩
 have:=hy.1;refine⟨by unfold inR;simp only;omega,y+1,zy hy Z (t7.2 ?_),rfl,Z⟩;by_cases h1:(nx.getD x.toNat []).getD y.toNat 0=-1;exact .inl h1;exact .inr ⟨cE.1 (h h1).1,(h h1).2⟩;have:=X.1;exact⟨by unfold inR;simp only;omega,x+1,uE X j hy Z,rfl,Z⟩
def aAO{b:Int}:YU b=false↔b<65\/b>90:=by
 unfold YU;rw[wG];omega
def U4:eO 94 vR:=af λ((s:ByteArray),_)=>by
 refine zE (A:=(lvA [(2,[0,2,3])] (aF1 s 3))) (p:=let G:=Ei s;let L:=Eb G 1;(yg s->(∃x,pX s x/\s=s/\0=x/\True)/\∀(x:Int),let f:=Dj (YU (Fz s x));let c3:=Dn (Fz s x) 48;let h:=Dj c3;let z:=Dy f (Dy c3 true (Ee (Fz s x) 57)) false;let X:=Dy z (Ea (Fz s x) 46) false;let j:=x+1;pX s x->(Dn x G->0<=x/\x<Ei s/\True/\Q2 f ((f->0<=x)/\(f->x<Ei s)/\Q2 f (Q2 (Dh f h) ((Dh f h->0<=x)/\(Dh f h->x<Ei s)/\L5 (Dh f h) (L5 f ((f->Dh f h->Dh f h)/\(Dh true f->f)/\Q2 z ((z->0<=x)/\(z->x<Ei s)/\L5 z ((Dh true z->z)/\(X->false=fh s/\True)/\(X=false->inR .i64 j/\∃y,pX s y/\(s=s/\j=y/\True)/\Dc (Ei s-y)<Dc (Ei s-x))))))))))/\(Dn x G=false->Q2 L ((Dh true L->L)/\Dy L (Ef G 20) false=fh s/\True)))) aD1 λhs=>?_;refine Z9 ?_;simp only[qc,aAO];exact⟨Av s,λx u=>⟨λj=>⟨u.1,j,λ_=>u.1,λ_=>j,λ_=>u.1,λ_=>j,λ_=>u.1,λ_=>j,λh=>YI u j (RU Z),λh=>LQ u j hs (Cf.2 Z)⟩,RS u⟩⟩
def post_at{ds:List bZ}{lb:ByteArray}{x:Int}(h:FZ ds lb x)(y:x<ds.length)(u:isPost lb (ds.getD x.toNat dfD)=true):x=N6 ds lb:=by
 have e:ds.findIdx? (isPost lb)=some x.toNat:=by
  rw[List.findIdx?_eq_some_iff_getElem];have f:x.toNat<ds.length:=by have:=h.1;omega
  refine⟨f,by rw[qA,qB f]at u;exact u,λj z=>?_⟩;have:=qAq.1 h.2.2 (ds[j]'Z) (yG.2 ⟨j,by rw[qO];omega,by simp⟩);simpa using this
 unfold N6;rw[e];show x=((x.toNat:Nat):Int);have:=h.1;omega
def VX{ds:List bZ}{lb:ByteArray}{x:Int}(h:FZ ds lb x)(j:¬x<ds.length): -1=N6 ds lb:=by
 have e:ds.findIdx? (isPost lb)=none:=by
  rw[List.findIdx?_eq_none_iff];intro d hd;have f:=h.2.2;rw[qM Z]at f;simpa using qAq.1 f d hd
 unfold N6;rw[e]
def N5{ds:List bZ}{lb:ByteArray}{x:Int}(h:FZ ds lb x)(j:x<ds.length)(f:isPost lb (ds.getD x.toNat dfD)=false):FZ ds lb (x+1):=by
 have:=h.1;refine⟨Z,Z,?_⟩;rw[show(x+1).toNat=x.toNat+1 by omega];exact rJ h.2.2 Z f
def U7:eO 95 wa:=af λ((f:List bZ),(j:ByteArray),_)=>by
 refine zE (A:=(lvA [(2,[0,1,4,5])] (aGs f j))) (p:=let L:=Di f;(nH f->(∃x,FZ f j x/\L7 f j (0=x/\True))/\∀(x:Int),let c3:=Dw f (Dc x) ((0:Int),(0:Int),(ByteArray.mk #[],(0:Int),(0:Int),(0:Int),(0:Int)),ByteArray.mk #[],ByteArray.mk #[],(0:Int));let z:=Ed c3.1 1;let c5:=Dy z (Gf c3.2.2.1.1 j) false;let h:=x+1;FZ f j x->(Dn x L->0<=x/\x<L/\Q2 z ((z->0<=x)/\(z->x<L)/\Q2 z (Q3 z ((Dh true z->z)/\(c5->x=N6 f j/\True)/\(c5=false->inR .i64 h/\∃y,FZ f j y/\(L7 f j (h=y/\True))/\Dc (L-y)<Dc (L-x))))))/\(Dn x L=false->(-1:Int)=N6 f j/\True))) aD1 λhd=>?_;refine Z9 ?_;have hd1:=hd.1;refine⟨⟨qN _,qU _,by simp⟩,λx G=>⟨λu=>⟨G.1,u,λ_=>G.1,λ_=>u,λh=>post_at G u ?_,λh=>⟨by have:=G.1;unfold inR;simp only;omega,x+1,N5 G u ?_,rfl,by have:=G.1;omega⟩⟩,λX=>VX G X⟩⟩;unfold isPost dfD;rw[qE,qF,yX];exact h;unfold isPost dfD;refine yS.2 λg=>?_;rw[qE,qF,yX]at g;exact h g.1 g.2
def aBp:ay Tryz.prog G0 KX2:=ai UW<|ai U4<|ai U7<|ai (af λ((z,h,f,y,j,u),_)=>Qa z h f y j u)<|ai (af λ((z,h,f,y,j,u),nx,_)=>OG (Go.Eng.In.Qb nx z h f y j u))<|ai (af λ((z,h,f,y,j,u),_)=>KQ z h f y j u)<|ai aES aD1
abbrev AE:=aA [.row N,.row Pl] (λ(n,p,_)=>nY n=true/\jb p.2.2.1) λ(n,p,_)=>.dat .bool (aCg n p.2.2.1)
def Zy:eO 35 AE:=af λ(((X,y,u,L,z,G):Net),((p1,p2,nx,dy):Plan),_)=>by
 refine zE (A:=aG) (p:=let h:=(X,y,u,L,z,G);let f:=aZ h;(nY h/\jb nx->nY h/\Q3 f ((f->jb nx)/\(Dh true f->f)/\Dy f (nP h nx) false=aCg h nx/\True))) aBp λj=>?_;refine Z9 ?_;exact⟨j.1,λ_=>j.2,rfl⟩
def ZL(ds:List bZ)(p1 p2:Int)(nx:Lj)(X:List (Lj))(G:LC)(j h:LB)(z:Lo)(u:Ll)(y:Lk):aj Tryz.prog G0 17 [net G j h z u y,.agg [.dat I p1,.dat I p2,.dat M nx,.dat (.sl M) X],.dat (.sl De) ds] [] ⟨True,.dat .bool (Ig (G,j,h,z,u,y) nx ds),[]⟩:=by
 refine zE (A:=aG) (p:=let L:=(G,j,h,z,u,y);let f:=In.smF L nx;(True->True/\Q2 f ((Dh true f->f)/\Dy f (Ef (Di ds) 16) false=Ig L nx ds/\True))) aBp λ_=>?_;refine Z9 ?_;rfl
def aFp{n:Net}{t:Trk}(h:I0 n t=false):0=dvD n t/\false=I0 n t:=⟨by unfold dvD;rw[h];rfl,h.symm⟩
def YQ{n:Net}{t:Trk}:I0 n t=true↔0<t.2.1.length/\aZ n=true/\t.2.2.1=false/\(iZ t.2.1).1=t.1.2.2.1/\(iZ t.2.1).2.2.1=-1/\0<t.2.2.2.2.1.length/\(t.2.2.2.2.1.getD (t.2.2.2.2.1.length-1) ⟨#[]⟩).toList=t.1.1.toList/\Ky n t.1.2.2.2.1 (iZ t.2.1).1 (iZ t.2.1).2.1=0:=by
 unfold I0;simp only[qE,qF,zB,yX,qAt]
abbrev Ht:=aA [.row N,.row Tk] (λ(_,t,_)=>dvP t.2.1 t.2.2.2.2.1) λ(n,t,_)=>.tup [.dat I (dvD n t),.dat .bool (I0 n t)]
def aBT:eO 22 Ht:=af λ(((cs,ns,os,fs,ls,ks):Net),((G:Post),(z:List Stop),(lo:Bool),(si:Li),(j:List ByteArray),(se:List ByteArray)),_)=>by
 refine zE (A:=aG) (p:=let X:=Dj lo;let c1:=Di z;let c2:=Ed c1 0;let c3:=Dj c2;let c4:=(cs,ns,os,fs,ls,ks);let c5:=Dy c2 true (Dj (aZ c4));let c6:=(G,z,lo,si,j,se);let y:=dvD c4 c6;let c8:=I0 c4 c6;let A:=c1-1;let u:=Dw z (Dc A) ((0:Int),(0:Int),(0:Int),(0:Int));let c13:=Dy lo true (Ea u.1 G.2.2.1);let h:=Dj c13;let c16:=Dy c13 true (Ea u.2.2.1 (-1));let c17:=Ed (Di j) 0;let f:=Dj c17;let L:=Di j-1;let c20:=Dy c17 true (Dj (Gf (Dw j (Dc L) (ByteArray.mk #[])) G.1));let c23:=Ea (Ky c4 G.2.2.2.1 u.1 u.2.1) 0;(dvP z j->L5 c3 ((c3->True)/\L5 c3 ((Dh true c3->c3)/\(c5->0=y/\false=c8/\True)/\(c5=false->inR .i64 A/\0<=A/\A<c1/\L7 1 0 ((Dj lo->1=1)/\L5 X ((Dj lo->1=1)/\(Dj lo->0=0)/\L5 X (Q3 X ((Dh true X->Dj lo)/\(h->1=1)/\L5 h ((h->1=1)/\(h->0=0)/\L5 h ((Dh true h->h)/\(c16->0=y/\false=c8/\True)/\(c16=false->L5 f (Q3 f ((f->inR .i64 L)/\Q2 f ((f->0<=L)/\(f->L<Di j)/\Q2 f (Q3 f ((Dh true f->f)/\(c20->0=y/\false=c8/\True)/\(c20=false->w6 1 1 0 1 1 0 (True/\(c23->0=y/\false=c8/\True)/\(c23=false->Ye c4 G.2.2.2.1 u.1 u.2.1=y/\true=c8/\True)))))))))))))))))))) aBp λhs=>?_;refine Z9 ?_;have no:(I0 (cs,ns,os,fs,ls,ks) (G,z,lo,si,j,se)=true->False)->0=dvD (cs,ns,os,fs,ls,ks) (G,z,lo,si,j,se)/\false=I0 (cs,ns,os,fs,ls,ks) (G,z,lo,si,j,se):=λh=>aFp (yS.2 h)
 simp only[YQ]at no;have hs1:=hs.1;have hs2:=hs.2;have e1:(z.length-1:Nat)=((z.length:Int)-1).toNat:=Z;have e2:(j.length-1:Nat)=((j.length:Int)-1).toNat:=Z;unfold iZ at no;rw[e1,e2]at no;refine⟨λh=>no λg=>?_,λh=>⟨by unfold inR;simp only;omega,Z,Z,λy=>no λg=>?_,λy=>⟨λ_=>by unfold inR;simp only;omega,λ_=>Z,λ_=>Z,λh3=>no λg=>?_,λh3=>⟨λh4=>no λg=>h4 g.2.2.2.2.2.2.2,λh4=>?_⟩⟩⟩⟩;rcases h with h|h;have:=g.1;omega;rw[g.2.1]at h;cases h;rcases y with(y|y)|y;rw[g.2.2.1]at y;cases y;exact y g.2.2.2.1;exact y g.2.2.2.2.1;rcases h3 with h3|h3;have:=g.2.2.2.2.2.1;omega;exact h3 g.2.2.2.2.2.2.1;have hd:I0 (cs,ns,os,fs,ls,ks) (G,z,lo,si,j,se)=true:=by
  rw[YQ];unfold iZ;rw[e1,e2];exact⟨by show 0<z.length;omega,h.2,y.1.1,y.1.2,y.2,by show 0<j.length;omega,h3.2,h4⟩
 refine⟨?_,hd.symm⟩;unfold dvD iZ;rw[hd,e1];rfl
def YB{ds:List bZ}{lb:ByteArray}:N6 ds lb≥0↔hasB ds lb=true:=by
 unfold N6 hasB;cases e:ds.findIdx? (isPost lb)with
 |none=>
  have:ds.any (isPost lb)=false:=by
   rw[qAq];intro d hd;simpa using List.findIdx?_eq_none_iff.1 e d hd
  rw[this];simp
 |some i=>
  obtain⟨h,f,_⟩:=List.findIdx?_eq_some_iff_getElem.1 e;have:ds.any (isPost lb)=true:=xO.2 ⟨_,wS h,f⟩;rw[this];simp
def aCq{ds:List bZ}{lb:ByteArray}:N6 ds lb<0↔hasB ds lb=false:=by
 rw[<- qAh,<- YB];omega
def Tz{n:Net}{ds:List bZ}{x:Int}(f:0<=x):C4 n ds x.toNat=true↔(0<=(ds.getD x.toNat dfD).2.1/\(ds.getD x.toNat dfD).2.1<=1000000)/\(x=0\/(ds.getD (x-1).toNat dfD).2.1<=(ds.getD x.toNat dfD).2.1)/\oz n (ds.take x.toNat) (ds.getD x.toNat dfD)=true:=by
 unfold C4;rw[show(x-1).toNat=x.toNat-1 by omega];simp only[qE,yM,qF,qAt];rw[show(x.toNat=0)=(x=0)from qCa Z]
def aCU{n:Net}{ds:List bZ}{x:Int}(f:M7 n ds x)(j:x<ds.length)(h:C4 n ds x.toNat=true->False):false=fk n ds:=by
 refine(yS.2 λg=>h ?_).symm;unfold fk at g;simp only[qE,qW,wJ]at g;exact g.1.1 _ (by have:=f.1;omega)
def aAA{n:Net}{ds:List bZ}{x:Int}(f:M7 n ds x)(j:x<ds.length)(hd:ds.length<=9223372036854775807)(h:C4 n ds x.toNat=true):M7 n ds (x+1)/\inR .i64 (x+1)/\((ds.length:Int)-(x+1)).toNat<((ds.length:Int)-x).toNat/\
  r7 ds (x+1)=r7 ds x+(if(ds.getD x.toNat dfD).1=1 then 1 else 0):=by
 have:=f.1;refine⟨⟨Z,Z,λi u=>?_⟩,by unfold inR;simp only;omega,Z,?_⟩;by_cases e:(i:Int)<x;exact f.2.2 i e;rw[show i=x.toNat by omega];exact h;unfold r7 pcF;rw[show(x+1).toNat=x.toNat+1 by omega,wY,qB (show x.toNat<ds.length by omega),qA,qB (show x.toNat<ds.length by omega),yJ,qG];simp only[qCh,vJ,yP,gU];split<;>rename_i g<;>simp at g<;>simp[g]
def aE4{ds:List bZ}{x:Int}(h:0<=x):0<=r7 ds x/\r7 ds x<=x:=by
 unfold r7 pcF;have f:=gQ (λd:bZ=>decide (d.1=1)) (ds.take x.toNat);rw[qO]at f;omega
def pB{n:Net}{pre:List bZ}{e:bZ}(k:e.1=1):oz n pre e=true↔fh e.2.2.1.1=true/\hasB pre e.2.2.1.1=false/\(0<=e.2.2.1.2.1/\e.2.2.1.2.1<n.2.2.2.1.length)/\(0<=e.2.2.1.2.2.1/\e.2.2.1.2.2.1<n.2.2.2.1.length)/\(0<=e.2.2.1.2.2.2.1/\e.2.2.1.2.2.2.1<n.2.2.2.2.2.length)/\e.2.2.1.2.2.2.2=e.2.1:=by
 unfold oz aCp;rw[if_pos k];simp only[qE,zB,qF,cE,qAt]
def mZ{n:Net}{pre:List bZ}{e:bZ}(k:e.1=2\/e.1=3):oz n pre e=hasB pre e.2.2.2.1:=by
 unfold oz;rw[if_neg Z];rcases k with k|k;rw[if_pos k];rw[if_neg Z,if_pos k]
def pA{n:Net}{pre:List bZ}{e:bZ}(k:e.1=4):oz n pre e=true↔hasB pre e.2.2.2.1=true/\hasB pre e.2.2.2.2.1=true/\e.2.2.2.1.toList≠e.2.2.2.2.1.toList:=by
 unfold oz;rw[if_neg Z,if_neg Z,if_neg Z,if_pos k];simp only[qE,zB,qAj,qAt]
def tI{n:Net}{pre:List bZ}{e:bZ}(k:e.1=5):oz n pre e=true↔0<=e.2.2.2.2.2/\e.2.2.2.2.2<n.2.2.2.2.1.length:=by
 unfold oz;rw[if_neg Z,if_neg Z,if_neg Z,if_neg Z,if_pos k,cE]
def Jg{n:Net}{pre:List bZ}{e:bZ}(k:¬(e.1=1\/e.1=2\/e.1=3\/e.1=4\/e.1=5)):oz n pre e=false:=by
 unfold oz;rw[if_neg Z,if_neg Z,if_neg Z,if_neg Z,if_neg Z]
def ZN(ds:List bZ)(cs:LC)(ns os:LB)(fs:Lo)(ls:Ll)(ks:Lk):aj Tryz.prog G0 36 [net cs ns os fs ls ks,.dat (.sl De) ds] [] ⟨nH ds,.dat .bool (fk (cs,ns,os,fs,ls,ks) ds),[]⟩:=by
 refine zE (A:=(lvA [(3,[1,2,4,5,6,7,8,9,47])] (aCV (cs,ns,os,fs,ls,ks) ds))) (p:=let c1:=(cs,ns,os,fs,ls,ks);let X:=Di ds;let c3:=((0:Int),(0:Int),(ByteArray.mk #[],(0:Int),(0:Int),(0:Int),(0:Int)),ByteArray.mk #[],ByteArray.mk #[],(0:Int));let c4:=fk c1 ds;let c5:=Di fs;let c7:=Ef X 120;(nH ds->(∃x,M7 c1 ds x/\L7 ds c1 (0=r7 ds x/\0=x/\True))/\∀(x:Int),let u:=Dw ds (Dc x) c3;let c11:=Dn u.2.1 0;let c12:=Dj c11;let c13:=Dy c11 true (Ee u.2.1 1000000);let h:=Dj c13;let A:=Ee x 0;let c50:=Dh h A->1=1;let c9:=Dh h A;let c16:=x-1;let c17:=Dy c13 true (Dy A (Ee (Dw ds (Dc c16) c3).2.1 u.2.1) false);let c19:=Ed u.1 1;let c20:=r7 ds x+1;let c24:=Dj (fh u.2.2.1.1);let c25:=Dj c24;let L:=Fb ds 0 x;let c27:=Dy c24 true (Eb (N6 L u.2.2.1.1) 0);let c28:=Dj c27;let c31:=Dy c27 true (Dn u.2.2.1.2.1 0);let c32:=Dj c31;let c33:=Dy c31 true (Eb u.2.2.1.2.1 c5);let c34:=Dj c33;let c37:=Dy c33 true (Dn u.2.2.1.2.2.1 0);let c38:=Dj c37;let c39:=Dy c37 true (Eb u.2.2.1.2.2.1 c5);let c40:=Dj c39;let c43:=Dy c39 true (Dn u.2.2.1.2.2.2.1 0);let c44:=Dj c43;let c45:=Dy c43 true (Eb u.2.2.1.2.2.2.1 (Di ks));let c46:=Dj c45;let c18:=c46->1=1;let c47:=Dy c45 true (Ea u.2.2.1.2.2.2.2 u.2.1);let f:=x+1;let c49:=Ed u.1 2;let c52:=Dn (N6 L u.2.2.2.1) 0;let c29:=c52->false=c4/\True;let c53:=Ed u.1 4;let j:=Dj c52;let c36:=Dh true j->j;let c21:=j->1=1;let c57:=Dy c52 true (Dn (N6 L u.2.2.2.2.1) 0);let G:=Dj c57;let c41:=Dh true G->G;let c22:=G->0=0;let c6:=G->1=1;let c59:=Dy c57 true (Gf u.2.2.2.1 u.2.2.2.2.1);let c30:=c59->false=c4/\True;
  let c60:=Ed u.1 5;let c10:=c60=false->false=c4/\True;let c62:=Dn u.2.2.2.2.2 0;let z:=Dj c62;let c42:=Dh true z->z;let c23:=z->1=1;let c64:=Dy c62 true (Eb u.2.2.2.2.2 (Di ls));let c35:=c64->false=c4/\True;let c65:=Ed u.1 3;
  M7 c1 ds x->(Dn x X->0<=x/\x<X/\T6 1 0 1 1 0 ((c12->1=1)/\L5 c12 ((c12->1=1)/\(c12->0=0)/\L5 c12 ((Dh true c12->c12)/\Q2 h (L5 c9 ((Dh h A->inR .i64 c16)/\Q2 c9 ((Dh h A->0<=c16)/\(Dh h A->c16<X)/\Q2 c9 (c50/\L5 c9 (c50/\(Dh h A->0=0)/\Q2 c9 (L5 h ((h->Dh h A->Dh h A)/\(Dh true h->h)/\(c17->false=c4/\True)/\(c17=false->Dp 0 0/\0<=x/\x<=X/\Q4 1 1 0 ((c19->inR .i64 c20/\z8 1 1 0 1 0 1 1 0 (yg u.2.2.1.1/\(c25->1=1)/\L5 c25 ((c25->1=1)/\(c25->0=0)/\Q2 c25 ((c25->nH L)/\L5 c25 ((Dh true c25->c25)/\(c28->1=1)/\L5 c28 ((c28->1=1)/\(c28->0=0)/\L5 c28 ((Dh true c28->c28)/\(c32->1=1)/\L5 c32 ((c32->1=1)/\(c32->0=0)/\L5 c32 (Q3 c32 ((Dh true c32->c32)/\(c34->1=1)/\L5 c34 ((c34->1=1)/\(c34->0=0)/\L5 c34 ((Dh true c34->c34)/\(c38->1=1)/\L5 c38 ((c38->1=1)/\(c38->0=0)/\L5 c38 (Q3 c38 ((Dh true c38->c38)/\(c40->1=1)/\L5 c40 ((c40->1=1)/\(c40->0=0)/\L5 c40 ((Dh true c40->c40)/\(c44->1=1)/\L5 c44 ((c44->1=1)/\(c44->0=0)/\L5 c44 (Q3 c44 ((Dh true c44->c44)/\c18/\L5 c46 (c18/\(c46->0=0)/\c18/\L5 c46 (c18/\(c46->0=0)/\Q2 c46 ((Dh true c46->c46)/\(c47->false=c4/\True)/\(c47=false->inR IntKind.i64 f/\∃y,M7 c1 ds y/\(L7 ds c1 (c20=r7 ds y/\f=y/\True))/\Dc (X-y)<Dc (X-x)))))))))))))))))))))))))/\(c19=false->(c49->(c49->Q4 1 1 0 (nH L/\c29/\(c52=false->inR .i64 f/\∃y,M7 c1 ds y/\(L7 ds c1 (r7 ds x=r7 ds y/\f=y/\True))/\Dc (X-y)<Dc (X-x))))/\(c49=false->(c53->Q4 1 1 0 (nH L/\c21/\L5 j (c21/\(j->0=0)/\Q2 j ((j->nH L)/\L5 j (c36/\c6/\L5 G (c6/\c22/\c6/\L5 G (c6/\c22/\Q2 G (c41/\c30/\(c59=false->inR .i64 f/\∃y,M7 c1 ds y/\
  (L7 ds c1 (r7 ds x=r7 ds y/\f=y/\True))/\Dc (X-y)<Dc (X-x))))))))))/\(c53=false->(c60->Q4 1 1 0 (c23/\L5 z (c23/\(z->0=0)/\L5 z (Q3 z (c42/\c35/\(c64=false->inR .i64 f/\∃y,M7 c1 ds y/\(L7 ds c1 (r7 ds x=r7 ds y/\f=y/\True))/\Dc (X-y)<Dc (X-x)))))))/\c10)))/\(c49=false->(c65->Q4 1 1 0 (nH L/\c29/\(c52=false->inR .i64 f/\∃y,M7 c1 ds y/\(L7 ds c1 (r7 ds x=r7 ds y/\f=y/\True))/\Dc (X-y)<Dc (X-x))))/\(c65=false->(c53->Q4 1 1 0 (nH L/\c21/\L5 j (c21/\(j->0=0)/\Q2 j ((j->nH L)/\L5 j (c36/\c6/\L5 G (c6/\c22/\c6/\L5 G (c6/\c22/\Q2 G (c41/\c30/\(c59=false->inR .i64 f/\∃y,M7 c1 ds y/\(L7 ds c1 (r7 ds x=r7 ds y/\f=y/\True))/\Dc (X-y)<Dc (X-x))))))))))/\(c53=false->(c60->Q4 1 1 0 (c23/\L5 z (c23/\(z->0=0)/\L5 z (Q3 z (c42/\c35/\(c64=false->inR .i64 f/\∃y,M7 c1 ds y/\(L7 ds c1 (r7 ds x=r7 ds y/\f=y/\True))/\Dc (X-y)<Dc (X-x)))))))/\c10)))))))))))))))))/\(Dn x X=false->L5 c7 ((Dh true c7->c7)/\Dy c7 (Ef (r7 ds x) 60) false=c4/\True)))) aBp λhd=>?_
 refine Z9 ?_;simp only[qc,show Int.toNat 0=0 from rfl,qDf,YB,aCq];refine⟨⟨0,⟨qN _,qU _,λi h=>Z⟩,rfl,rfl⟩,λx hx=>⟨λhlt=>?_,λhge=>?_⟩⟩
 .have hx0:=hx.1;have hd1:=hd.1;have bad:=aCU hx hlt;have good:=aAA hx hlt hd.1;have hB:=Tz (n:=(cs,ns,os,fs,ls,ks)) (ds:=ds) hx0;have hpre:nH (ds.take x.toNat):=⟨by rw[qO];omega,λd h=>hd.2 d (qBw h)⟩;have hs:yg (ds.getD x.toNat dfD).2.2.1.1:=hd.2 _ (by
   rw[qA,qB Z,vJ];exact wS _)
  have pl:=aE4 (ds:=ds) hx0;unfold dfD at hB good hs;generalize ds.getD x.toNat (0,0,({data:=#[]},0,0,0,0),{data:=#[]},{data:=#[]},0)=e at *;generalize hpt:(ds.getD (x-1).toNat (0,0,({data:=#[]},0,0,0,0),{data:=#[]},{data:=#[]},0)).snd.fst=pt at *;generalize ds.take x.toNat=pre at *;have l3:((cs,ns,os,fs,ls,ks):Net).2.2.2.1.length=fs.length:=rfl;have l4:((cs,ns,os,fs,ls,ks):Net).2.2.2.2.1.length=ls.length:=rfl;have l5:((cs,ns,os,fs,ls,ks):Net).2.2.2.2.2.length=ks.length:=rfl;have gd:(¬e.2.1<0/\¬e.2.1>1000000)/\(x>0->¬pt>e.2.1)->e.1≠1->oz (cs,ns,os,fs,ls,ks) pre e=true->inR .i64 (x+1)/\∃y,M7 (cs,ns,os,fs,ls,ks) ds y/\(r7 ds x=r7 ds y/\x+1=y)/\((ds.length:Int)-y).toNat<((ds.length:Int)-x).toNat:=λht k r=>by
   obtain⟨g1,g2,g3,g4⟩:=good (hB.2 ⟨Z,Z,r⟩);exact⟨g2,x+1,g1,⟨by rw[g4,if_neg k];omega,rfl⟩,g3⟩
  have bd:(oz (cs,ns,os,fs,ls,ks) pre e=true->False)->false=fk (cs,ns,os,fs,ls,ks) ds:=λh=>bad λg=>h (hB.1 g).2.2;refine⟨hx0,hlt,λh=>by unfold inR;simp only;omega,λh=>Z,λh=>Z,λh=>bad λg=>by have:=hB.1 g;omega,λht=>⟨qN _,hx0,Z,λk=>⟨by unfold inR;simp only;omega,hs,λ_=>hpre,λh=>bd λr=>?_,λh=>?_⟩,
   λk1=>⟨λk=>⟨λ_=>⟨hpre,λh=>bd λr=>?_,λh=>gd ht k1 ?_⟩,λh=>absurd k h⟩,λk2=>⟨λk=>⟨hpre,λh=>bd λr=>?_,λh=>gd ht k1 ?_⟩,λk3=>⟨λk=>⟨hpre,λ_=>hpre,λh=>bd λr=>?_,λh=>gd ht k1 ((pA k).2 ⟨by simpa using h.1.1,by simpa using h.1.2,h.2⟩)⟩,λk4=>⟨λk=>⟨λh=>bd λr=>?_,λh=>gd ht k1 ((tI k).2 Z)⟩,λk5=>bd λr=>?_⟩⟩⟩⟩⟩⟩
  .have r:=(pB k).1 r;rcases h with(((((((h|h)|h)|h)|h)|h)|h)|h)|h;rw[r.1]at h;cases h;rw[r.2.1]at h;cases h;all_goals omega
  obtain⟨g1,g2,g3,g4⟩:=good (hB.2 ⟨Z,Z,(pB k).2 ⟨h.1.1.1.1.1.1.1.1,by simpa using h.1.1.1.1.1.1.1.2,Z,Z,Z,h.2⟩⟩);exact⟨g2,x+1,g1,⟨by rw[g4,if_pos k],rfl⟩,g3⟩;rw[mZ (.inl k),h]at r;cases r;rw[mZ (.inl k)];simpa using h;rw[mZ (.inr k),h]at r;cases r;rw[mZ (.inr k)];simpa using h;have r:=(pA k).1 r;rcases h with(h|h)|h;rw[r.1]at h;cases h;rw[r.2.1]at h;cases h;exact r.2.2 h;have r:=(tI k).1 r;omega;rw[Jg Z]at r;cases r
 have e:x=ds.length:=by have:=hx.2.1;omega
 have h1:((List.range ds.length).all (C4 (cs,ns,os,fs,ls,ks) ds))=true:=qW.2 λi hi=>hx.2.2 i (by have:=wJ.1 hi;omega);unfold fk r7;rw[h1,yC,qM Z];congr 1;congr 1;exact qCa Z
open Go.RowKit
noncomputable def iaF(k:Int):ByteArray:=if 0<=k/\k<=100000000 then⟨(Go.Lib.itoa k).toArray⟩else⟨#[]⟩
noncomputable def iT(n:Net)(nx:Lj):Top.Dat:=⟨n.2.2.2.1.length,nxt nx,λo=>(di n o).2.2.2.2.1,λo=>(di n o).2.2.2.2.2.1,lT n,cz n,ix n,gA n,Cb n,iaF⟩
variable {w:World}{DD:Nat->Prop}{E:Nat->Ent}
def aBG(hG:jG Tryz.prog ⟨w,DD,bH [],E⟩ G0):Go.Lib.TabIs Tryz.prog w "internal/strconv.uint64pow10" .u64 Go.Lib.pow10Tab:=by
 obtain⟨_,⟨b,off,hp,hr⟩,_,A,X,fr,j,G⟩:=hG (1,.ia (.int .u64) p10) (wX _ (qX.2 rfl));cases hp;obtain⟨ao,cap,e,_,_,_,u⟩:=hr;cases e;have G:A.size=20:=G;have he:A=(Go.Lib.pow10Tab.map λz=>Value.int .u64 z).toArray:=by
  apply Array.ext;rw[G];rfl;intro i h1 h2;have hi:i<p10.length:=by show i<20;omega
  obtain⟨a,ue,e1,_,h3,L⟩:=u i p10[i] (qB hi);cases e1;have L:ue=[Value.int .u64 p10[i]]:=L;subst L;have y:w.cell? ⟨1,0+i*1+0,none⟩=some (Value.int .u64 p10[i]):=h3 0 _ rfl;rw[show 0+i*1+0=i by omega]at y;have j:w.heap[1]?=some (.cells A X fr):=j;simp[World.cell?,j]at y;obtain⟨_,y⟩:=qJ.1 y;rw[y];simp only[List.getElem_toArray,List.getElem_map];rfl
 unfold Go.Lib.TabIs World.var?;rw[show Program.globalNamed Tryz.prog "internal/strconv.uint64pow10" = some 1 by kernel_rfl]
 have j:w.heap[1]?=some (.cells A X fr):=j;simp only[Option.bind_some,j,he]
def aBF{W:World}(h:Go.Lib.TabIs Tryz.prog w "internal/strconv.uint64pow10" .u64 Go.Lib.pow10Tab)(u:Go.RowKit.Below w.heap.size w W):Go.Lib.TabIs Tryz.prog W "internal/strconv.uint64pow10" .u64 Go.Lib.pow10Tab:=Go.Lib.tabBelow_of_tabIs h W u
def aC4(h:Go.Lib.TabIs Tryz.prog w "internal/strconv.uint64pow10" .u64 Go.Lib.pow10Tab){n:Int}(z:0<=n)(y:n<=100000000):Calls Tryz.prog 57 #[.int .i64 n] w λe u=>e=.returned (.string (iaF n))/\Go.RowKit.Below w.heap.size w u:=by
 refine(Go.Proofs.Any.strconv_Itoa Tryz.itoaA n Z Z w h).mono ?_;rintro e u ⟨rfl,k,A,rfl⟩;exact⟨by unfold iaF;rw[if_pos ⟨z,y⟩],Go.Lib.below_grow _ _ (qL _) _ _⟩
def aCK(n:Int):(iaF n).size<=100:=by
 unfold iaF;split;rename_i h;show((Go.Lib.itoa n).toArray).size<=100;unfold Go.Lib.itoa;rw[if_neg Z,xB,Go.Lib.decDigits_length];have:=Go.Lib.nDigits_le20 n.toNat Z;omega;exact wK _
def nR{t:Ty}{xs:List t.den}{v:Value}(h:ae w DD (.sl t) xs [v]):∃(u:Option Addr) (j:Nat),v=.slice u (List.length xs) j/\
  ∀(i:Nat) (y:t.den),(xs:List t.den)[i]?=some y->∃(b f:Nat) (us:Lv),u=some ⟨b,f,none⟩/\DD b/\cO w b (f+i*t.sz) us/\ae w DD t y us:=by
 obtain⟨u,j,e,_,_,A,G⟩:=h;cases e;refine⟨u,j,rfl,λi y z=>?_⟩;obtain⟨a,us,e1,h1,X,L⟩:=G i y z;subst e1;have:=A a rfl (Nat.lt_of_le_of_lt (wK _) (qC.1 z).1);obtain⟨b,f,s⟩:=a;have:s=none:=this;subst this;exact⟨b,f,us,rfl,h1,X,L⟩
def BR(cs:LC)(L G:LB)(fs:Lo)(X:Ll)(ks:Lk){W:World}{A z y u j f:Value}{us:Lv}{av:List AV}(h1:ae W DD (.sl C) cs [A])(h2:ae W DD (.sl S) L [z])(h3:ae W DD (.sl S) G [y])(h4:ae W DD (.sl Of) fs [u])(h5:ae W DD (.sl Ln) X [j])(h6:ae W DD (.sl Kl) ks [f])
  (h:AV.relL Tryz.prog ⟨W,DD,bH [],E⟩ av us):AV.relL Tryz.prog ⟨W,DD,bH [],E⟩ (net cs L G fs X ks::av) (.agg #[A,z,y,u,j,f]::us):=
 ⟨_,_,rfl,⟨[A,z,y,u,j,f],rfl,A,_,rfl,h1,z,_,rfl,h2,y,_,rfl,h3,u,_,rfl,h4,j,_,rfl,h5,f,_,rfl,h6,rfl⟩,h⟩
def YP(cs:LC)(L G:LB)(z:Lo)(A:Ll)(X:Lk){nx:Lj}{v1 v2 v3 v4 v5 v6 vx:Value}(hD:∀b,DD b->b<w.heap.size)(hG:jG Tryz.prog ⟨w,DD,bH [],E⟩ G0)
  (h1:ae w DD (.sl C) cs [v1]) (h2:ae w DD (.sl S) L [v2]) (h3:ae w DD (.sl S) G [v3]) (h4:ae w DD (.sl Of) z [v4]) (h5:ae w DD (.sl Ln) A [v5]) (h6:ae w DD (.sl Kl) X [v6]) (hx:ae w DD M nx [vx])
  (hs:aZ (cs,L,G,z,A,X)=true) (ht:nP (cs,L,G,z,A,X) nx=true) (hb nb cb:Nat):Top.Env w w.heap.size ⟨hb,nb,cb,v1,v2,v3,v4,v5,v6,vx⟩ (iT (cs,L,G,z,A,X) nx):=by
 have hno:=gZ cs L G z A X hs;have hT:=aBG hG;have mono:∀{W:World}{t:Ty}{x:t.den}{us:Lv},Go.RowKit.Below w.heap.size w W->ae w DD t x us->ae W DD t x us:=λhB h=>au (λ_ h=>h) (λb hb=>hB.block b (hD b hb)) h;refine⟨λo t ho ht'=>?_,λo ho=>?_,λo ho=>?_,λo t ho ht'=>?_,λW l t hB hl t0 t1=>?_,λl hl=>?_,λl hl=>?_,λW k hB k0 k1=>aC4 (aBF hT hB) k0 k1,aCK,λl t hl t0 he=>?_⟩;obtain⟨c1,c2,_⟩:=pg cs L G z A X ht (o:=o) (d:=t) Z (by exact Int.ofNat_lt.2 ho) Z (by exact Int.ofNat_lt.2 ht');have ho:o<z.length:=ho;have ht':t<z.length:=ht';obtain⟨ao,cap,rfl,hr⟩:=nR hx;obtain⟨b,f,us,rfl,hb,hc,hu⟩:=hr o (nx.getD o []) (by rw[qA,qB Z];rfl);have c2:((nx.getD (o:Int).toNat []).length:Int)=z.length:=c2;rw[zQ]at c2;obtain⟨_,_,e2,_⟩:=id hu;subst e2;obtain⟨a2,cap2,e3,hr2⟩:=nR hu;obtain⟨b2,f2,u2,rfl,hb2,hc2,hu2⟩:=hr2 t ((nx.getD o []).getD t 0) (by
  have:t<(nx.getD o []).length:=Z;rw[qA (l:=nx.getD o []),qB this];rfl)
 have hu2:u2=[Value.int .i64 ((nx.getD o []).getD t 0)]:=hu2;subst hu2;refine⟨b,f,nx.length,cap,b2,f2,(nx.getD o []).length,cap2,rfl,Z,hD _ hb,?_,Z,hD _ hb2,?_⟩;have:=hc 0 _ rfl;rw[show f+o*Ty.sz R+0=f+o by show f+o*1+0=_;omega,e3]at this;exact this;have:=hc2 0 _ rfl;rw[show f2+t*Ty.sz I+0=f2+t by show f2+t*1+0=_;omega]at this;exact this;have ho:o<z.length:=ho;obtain⟨ao,cap,rfl,hr⟩:=nR h4;obtain⟨⟨e1,e2,e3,e4,e5,e6,e7⟩,hE⟩:∃y,z[o]=y:=⟨_,rfl⟩;obtain⟨b,f,us,rfl,hb,hc,hu⟩:=hr o (e1,e2,e3,e4,e5,e6,e7) (by rw[qB ho,hE]);obtain⟨_,_,rfl,g1,_,_,rfl,g2,_,_,rfl,g3,_,_,rfl,g4,_,_,rfl,g5,_,_,rfl,g6,a7,c7,rfl,_⟩:=hu;obtain rfl:=(g1:_=[Value.string e1]);obtain rfl:=(g2:_=[Value.int .i64 e2]);obtain rfl:=(g3:_=[Value.int .i64 e3]);obtain rfl:=(g4:_=[Value.int .i64 e4]);obtain rfl:=(g5:_=[Value.int .i64 e5]);obtain rfl:=(g6:_=[Value.int .i64 e6]);have hoff:di (cs,L,G,z,A,X) o=(e1,e2,e3,e4,e5,e6,e7):=by
  show z.getD (o:Int).toNat _=_;rw[zQ,qA,qB ho,hE];rfl
 have hg:∀(j:Nat) (u:Value),([Value.string e1]++([Value.int .i64 e2]++([Value.int .i64 e3]++([Value.int .i64 e4]++([Value.int .i64 e5]++([Value.int .i64 e6]++[Value.slice a7 e7.length c7]))))))[j]?=some u->w.cell? ⟨b,f+o*7+j,none⟩=some u:=λj u h=>hc j u h;refine⟨b,f,_,cap,e1,e2,e3,e4,a7,e7.length,c7,rfl,Z,hD _ hb,hg 0 _ rfl,hg 1 _ rfl,hg 2 _ rfl,hg 3 _ rfl,?_,?_,hg 6 _ rfl⟩;show _=some (Value.int .i64 (di (cs,L,G,z,A,X) o).2.2.2.2.1);rw[hoff];exact hg 4 _ rfl;show _=some (Value.int .i64 (di (cs,L,G,z,A,X) o).2.2.2.2.2.1);rw[hoff];exact hg 5 _ rfl;obtain⟨_,_,_,p1,p2,m1,m2⟩:=jS cs L G z A X (o:=o) ⟨hno,Z,Int.ofNat_lt.2 ho⟩;show 0<=(di (cs,L,G,z,A,X) o).2.2.2.2.1/\(di (cs,L,G,z,A,X) o).2.2.2.2.1<=100/\0<=(di (cs,L,G,z,A,X) o).2.2.2.2.2.1/\(di (cs,L,G,z,A,X) o).2.2.2.2.2.1<=100000;omega;obtain⟨c1,c2,c3⟩:=pg cs L G z A X ht (o:=o) (d:=t) Z (by exact Int.ofNat_lt.2 ho) Z (by exact Int.ofNat_lt.2 ht');have l40:=(mj cs L G z A X hno).1;show(Lit.int .i64 (nxt nx o t)).wf=true/\(0<=nxt nx o t->Cb (cs,L,G,z,A,X) (nxt nx o t));refine⟨Bn ?_,λh=>⟨hno,(c3 Z).1⟩⟩;by_cases h:nxt nx o t=-1;omega;have:=(c3 h).1;omega;have hD':∀b,DD b->b<W.heap.size:=λb h=>qK (hD b h) hB.size
 have hG':jG Tryz.prog ⟨W,DD,bH [],E⟩ G0:=jG.mono (show Later ⟨w,DD,bH [],E⟩ ⟨W,DD,bH [],E⟩from⟨λ_ h=>h,λb h=>hB.block b (hD b h)⟩) hG;refine(Vf l t cs L G z A X trivial W DD E _ hD' hG' (BR cs L G z A X (mono hB h1) (mono hB h2) (mono hB h3) (mono hB h4) (mono hB h5) (mono hB h6) ⟨.int .i64 l,_,rfl,rfl,.int .i64 t,_,rfl,rfl,rfl⟩) (Held.none _ _ _ _)).mono ?_;rintro e W' ⟨v,D',E',rfl,q2,us,rfl,u1,_,rfl,g1,u2,_,rfl,g2,rfl⟩;have g1:[u1]=[Value.int .i64 (gA (cs,L,G,z,A,X) l t)]:=g1;have g2:[u2]=[Value.int .i64 (ix (cs,L,G,z,A,X) l t)]:=g2;cases g1;cases g2;exact⟨rfl,q2.pure.1⟩;have hl:Cb (cs,L,G,z,A,X) l:=hl;have hll:l<A.length:=Int.ofNat_lt.1 hl.2.2;obtain⟨ao,cap,rfl,hr⟩:=nR h5;obtain⟨⟨e1,e2,e3,e4,e5,e6⟩,hE⟩:∃y,A[l]=y:=⟨_,rfl⟩;obtain⟨b,f,us,rfl,hb,hc,hu⟩:=hr l (e1,e2,e3,e4,e5,e6) (by rw[qB hll,hE]);obtain⟨_,_,rfl,g1,_,_,rfl,g2,_,_,rfl,g3,_,_,rfl,g4,_,_,rfl,g5,g6⟩:=hu;obtain rfl:=(g1:_=[Value.string e1]);obtain rfl:=(g2:_=[Value.int .i64 e2]);obtain rfl:=(g3:_=[Value.int .i64 e3]);obtain rfl:=(g4:_=[Value.int .i64 e4]);obtain rfl:=(g5:_=[Value.int .i64 e5]);obtain rfl:=(g6:_=[Value.int .i64 e6]);have hlin:GZ (cs,L,G,z,A,X) l=(e1,e2,e3,e4,e5,e6):=by
  show A.getD (l:Int).toNat _=_;rw[zQ,qA,qB hll,hE];rfl
 have hg:∀(j:Nat) (u:Value),([Value.string e1]++([Value.int .i64 e2]++([Value.int .i64 e3]++([Value.int .i64 e4]++([Value.int .i64 e5]++[Value.int .i64 e6])))))[j]?=some u->w.cell? ⟨b,f+l*6+j,none⟩=some u:=λj u h=>hc j u h;refine⟨b,f,_,cap,e1,e2,e4,e6,rfl,Z,hD _ hb,hg 0 _ rfl,hg 1 _ rfl,?_,hg 3 _ rfl,?_,hg 5 _ rfl⟩;show _=some (Value.int .i64 (GZ (cs,L,G,z,A,X) l).2.2.1);rw[hlin];exact hg 2 _ rfl;show _=some (Value.int .i64 (GZ (cs,L,G,z,A,X) l).2.2.2.2.1);rw[hlin];exact hg 4 _ rfl;have hl:Cb (cs,L,G,z,A,X) l:=hl;obtain⟨_,_,g1,g2,_,_,g3,g4⟩:=Aq cs L G z A X hl;have l40:=(mj cs L G z A X hno).1;have hl2:l<A.length:=hl.2.2;have hl1:=hl.2.1;show 0<=l/\l<=100000/\0<=lT (cs,L,G,z,A,X) l/\lT (cs,L,G,z,A,X) l<(z.length:Int)/\0<=cz (cs,L,G,z,A,X) l/\cz (cs,L,G,z,A,X) l<=100000;omega;obtain⟨d1,d2⟩:=Tv cs L G z A X (t:=t) hs hl;have he:ix (cs,L,G,z,A,X) l t=0:=he;have:=nz cs L G z A X hl (d2▸he);show t<=gA (cs,L,G,z,A,X) l t/\gA (cs,L,G,z,A,X) l t<=2200000;rw[d1];omega
end Go.Eng.Sv
namespace Go.Eng.Top
open Go.Proofs
open Go.Eng.Sv (Net Stop nxt iR uh lB od gA ix aJ lT cz Cb Ae BM pJ nK gX kz iG iF iT)
structure Good(n:Net)(nx:Lj)(cc:Li)(x:Pst)(i:Itm):Prop where
 post:i.post=x
 lost:i.lost=false
 sn:i.sn=x.2.2.2.2
 lb:i.lb=x.1
 holds:i.holds=0
 way:∃k,(iR n nx x.2.2.1 k i.off i.arr).2=0/\i.done++(iR n nx x.2.2.1 k i.off i.arr).1=uh n nx x.2.1 x.2.2.1 x.2.2.2.2
 arr:x.2.2.2.2<=i.arr
 at_:i.off=x.2.2.1->i.line=-1
 go:i.off≠x.2.2.1->i.line=nxt nx i.off x.2.2.1/\i.leave=lB n i.line (aJ n i.off i.arr)/\i.line∉cc
def Free(n:Net)(nx:Lj)(x:Pst)(cc:Li)(T:Int):Prop:=∀s∈uh n nx x.2.1 x.2.2.1 x.2.2.2.2,T<=s.2.2.1->s.2.2.2∉cc
variable {i:Itm}{n:Net}{nx:Lj}{cc:Li}{x:Pst}{sb:Int->Int->ByteArray}{T:Int}
structure Base'(n:Net)(nx:Lj)(x:Pst):Prop where
 dep:∀l t:Int,Cb n l->gA n l t=lB n l t/\ix n l t=od n l t
 cell:∀o:Int,0<=o->o<n.2.2.2.1.length->nxt nx o x.2.2.1≠-1->Cb n (nxt nx o x.2.2.1)
 offs:∀o:Int,0<=o->o<n.2.2.2.1.length->∀t:Int,t<=aJ n o t
 tz:∀l:Int,Cb n l->0<=lT n l/\lT n l<n.2.2.2.1.length/\1<=cz n l
 bnd:∀l t:Int,Cb n l->od n l t=0->t<=lB n l t/\lB n l t<=2100000
def jo{tz o t:Int}{k:Nat}(h:o≠tz)(f:(iR n nx tz k o t).2=0):
  ∃z,k=z+1/\nxt nx o tz≠-1/\od n (nxt nx o tz) (aJ n o t)=0/\
   (iR n nx tz z (lT n (nxt nx o tz)) (lB n (nxt nx o tz) (aJ n o t)+cz n (nxt nx o tz))).2=0/\
   (iR n nx tz k o t).1=(o,t,lB n (nxt nx o tz) (aJ n o t),nxt nx o tz)::(iR n nx tz z (lT n (nxt nx o tz)) (lB n (nxt nx o tz) (aJ n o t)+cz n (nxt nx o tz))).1:=by
 by_cases u:nxt nx o tz=-1;rw[gX k h u]at f;cases f;by_cases j:od n (nxt nx o tz) (aJ n o t)=0;cases k with
 |zero=>rw[iG h u j]at f;cases f
 |succ k=>
  rw[iF k h u j]at f ⊢;by_cases y:(iR n nx tz k (lT n (nxt nx o tz)) (lB n (nxt nx o tz) (aJ n o t)+cz n (nxt nx o tz))).2=0;exact⟨k,rfl,u,j,y,by rw[BM y];rfl⟩;rw[pJ y]at f;exact absurd f y
 rw[kz k h u j]at f;exact absurd f j
def C5(u:Base' n nx x){i:Itm}(h1:i.post=x)(G:i.lost=false)(A:i.sn=x.2.2.2.2)(h4:i.lb=x.1)(z:i.holds=0)
  (y:∃k,(iR n nx x.2.2.1 k i.off i.arr).2=0/\i.done++(iR n nx x.2.2.1 k i.off i.arr).1=uh n nx x.2.1 x.2.2.1 x.2.2.2.2) (h7:x.2.2.2.2<=i.arr) (j:0<=i.off/\i.off<n.2.2.2.1.length)
  (X:i.off≠x.2.2.1->nxt nx i.off x.2.2.1∉cc):Good n nx cc x (jj (iT n nx) cc x.2.2.1 i):=by
 by_cases f:i.off=x.2.2.1;have e:jj (iT n nx) cc x.2.2.1 i={i with line:=-1}:=if_pos (.inr f);rw[e];exact⟨h1,G,A,h4,z,y,h7,λ_=>rfl,λh=>absurd f h⟩;obtain⟨k,hk,hw⟩:=id y;obtain⟨k',rfl,g1,g2,g3,g4⟩:=jo f hk;have L:=u.cell i.off j.1 j.2 g1;have e:jj (iT n nx) cc x.2.2.1 i={i with line:=nxt nx i.off x.2.2.1,leave:=lB n (nxt nx i.off x.2.2.1) (aJ n i.off i.arr)}:=by
  unfold jj;rw[if_neg (by rw[G];simp[f]),if_neg (by simp only[not_or,Int.not_lt];exact⟨L.2.1,X f⟩),z,A];have eR:i.arr+(iT n nx).ps i.off*(iT n nx).mn i.off=aJ n i.off i.arr:=rfl;have eN:(iT n nx).nx i.off x.2.2.1=nxt nx i.off x.2.2.1:=rfl;rw[eR,eN];have em:max (aJ n i.off i.arr) x.2.2.2.2=aJ n i.off i.arr:=by have:=u.offs i.off j.1 j.2 i.arr;omega
  rw[em];have ed:=u.dep (nxt nx i.off x.2.2.1) (aJ n i.off i.arr) L;have et:Bt (iT n nx) (nxt nx i.off x.2.2.1) ((0:Int)+1).toNat i.leave (aJ n i.off i.arr)=(true,lB n (nxt nx i.off x.2.2.1) (aJ n i.off i.arr)):=by
   show Bt (iT n nx) _ 1 _ _=_;unfold Bt;rw[show(iT n nx).dE (nxt nx i.off x.2.2.1) (aJ n i.off i.arr)=ix n (nxt nx i.off x.2.2.1) (aJ n i.off i.arr)from rfl,ed.2,if_pos g2,show(iT n nx).dD (nxt nx i.off x.2.2.1) (aJ n i.off i.arr)=gA n (nxt nx i.off x.2.2.1) (aJ n i.off i.arr)from rfl,ed.1];rfl
  simp only[et,kE]
 rw[e];exact⟨h1,G,A,h4,z,y,h7,λh=>absurd h f,λ_=>⟨rfl,rfl,X f⟩⟩
def In'(n:Net)(i:Itm):Prop:=0<=i.off/\i.off<n.2.2.2.1.length
def WI(y:Base' n nx x)(hf:Free n nx x cc T){i:Itm}(g:Good n nx cc x i)(hi:In' n i)(ho:i.off≠x.2.2.1)(ht:T<=i.leave):
  Good n nx cc x (tR (iT n nx) cc sb x.2.2.1 i)/\In' n (tR (iT n nx) cc sb x.2.2.1 i)/\((tR (iT n nx) cc sb x.2.2.1 i).off≠x.2.2.1->T<=(tR (iT n nx) cc sb x.2.2.1 i).leave):=by
 obtain⟨f,hv,_⟩:=g.go ho;obtain⟨k,hk,hw⟩:=g.way;obtain⟨k',rfl,g1,g2,g3,g4⟩:=jo ho hk;have hlp:=y.cell i.off hi.1 hi.2 g1;obtain⟨X,L,t2⟩:=y.tz _ hlp;have ha:=y.offs i.off hi.1 hi.2 i.arr;have hbd:=y.bnd _ _ hlp g2;have hA:=g.arr;rw[f]at hv;have u:(tR (iT n nx) cc sb x.2.2.1 i).off=lT n (nxt nx i.off x.2.2.1):=by
  unfold tR jj;rw[f];dsimp only;split<;>(try split)<;>rfl
 have hi2:In' n (tR (iT n nx) cc sb x.2.2.1 i):=by unfold In';rw[u];exact⟨X,L⟩
 have A:i.done++[(i.off,i.arr,i.leave,i.line)]++(iR n nx x.2.2.1 k' (lT n i.line) (i.leave+cz n i.line)).1=uh n nx x.2.1 x.2.2.1 x.2.2.2.2:=by
  rw[<- hw,g4,f,hv];simp
 have hn:lT n i.line≠x.2.2.1->∃k'',nxt nx (lT n i.line) x.2.2.1≠-1/\T<=lB n (nxt nx (lT n i.line) x.2.2.1) (aJ n (lT n i.line) (i.leave+cz n i.line))/\k'=k''+1/\
   (lT n i.line,i.leave+cz n i.line,lB n (nxt nx (lT n i.line) x.2.2.1) (aJ n (lT n i.line) (i.leave+cz n i.line)),nxt nx (lT n i.line) x.2.2.1)∈uh n nx x.2.1 x.2.2.1 x.2.2.2.2:=λh=>by
  have g3':(iR n nx x.2.2.1 k' (lT n i.line) (i.leave+cz n i.line)).2=0:=by rw[f,hv];exact g3
  obtain⟨k2,e,z,G,f3,f4⟩:=jo h g3';have hlp2:=y.cell (lT n i.line) (by rw[f];exact X) (by rw[f];exact L) z;have hb2:=y.bnd _ _ hlp2 G;have ha2:=y.offs (lT n i.line) (by rw[f];exact X) (by rw[f];exact L) (i.leave+cz n i.line);have t2':1<=cz n i.line:=by rw[f];exact t2
  exact⟨k2,z,Z,e,by rw[<- A,f4];simp⟩
 refine⟨?_,hi2,?_⟩;refine C5 y g.post g.lost g.sn g.lb rfl ⟨k',by dsimp only;rw[f,hv];exact g3,A⟩ (by dsimp only;rw[f]at *;have:(iT n nx).ltr (nxt nx i.off x.2.2.1)=cz n (nxt nx i.off x.2.2.1):=rfl;omega) (by dsimp only;rw[f];exact⟨X,L⟩) λh=>?_;obtain⟨_,_,z,_,G⟩:=hn h;exact hf _ G z;intro h;rw[u,<- f]at h;obtain⟨_,f0,z,_,G⟩:=hn h;have hg:Good n nx cc x (tR (iT n nx) cc sb x.2.2.1 i):=by
  refine C5 y g.post g.lost g.sn g.lb rfl ⟨k',by dsimp only;rw[f,hv];exact g3,A⟩ (by dsimp only;rw[f]at *;have:(iT n nx).ltr (nxt nx i.off x.2.2.1)=cz n (nxt nx i.off x.2.2.1):=rfl;omega) (by dsimp only;rw[f];exact⟨X,L⟩) λh=>?_;obtain⟨_,_,z,_,G⟩:=hn h;exact hf _ G z
 have j:(tR (iT n nx) cc sb x.2.2.1 i).off=lT n i.line:=by rw[u,f]
 have harr:(tR (iT n nx) cc sb x.2.2.1 i).arr=i.leave+cz n i.line:=by
  unfold tR jj;dsimp only;split<;>(try split)<;>rfl
 obtain⟨e1,e2,_⟩:=hg.go (by rw[j];exact h);rw[e2,e1,j,harr];exact z
def Lr{T':Int}(u:Base' n nx x)(A:Free n nx x cc T):∀(k:Nat) {i f:Itm},Good n nx cc x i->In' n i->(i.off≠x.2.2.1->T<=i.leave)->FY (iT n nx) cc sb x.2.2.1 T' k i=some f->
  Good n nx cc x f/\In' n f/\(f.off≠x.2.2.1->T<=f.leave/\T'<=f.leave)
 |0,_,_,_,_,_,h=>by cases h
 |k+1,i,f,g,hi,z,h=>by
  unfold FY at h;split at h;rename_i hc;split at h;cases h;have j:i.off≠x.2.2.1:=λe=>by have:=g.at_ e;omega
  obtain⟨y,X,L⟩:=WI (sb:=sb) u A g hi j (z j);exact Lr u A k y X L h;rename_i hc;cases h;refine⟨g,hi,λj=>⟨z j,?_⟩⟩;obtain⟨e1,_,_⟩:=g.go j;obtain⟨k,G,_⟩:=g.way;obtain⟨_,_,y,_⟩:=jo j G;have:=(u.cell i.off hi.1 hi.2 y).2.1;omega
def Xw(g:Good n nx cc x i)(h:i.off=x.2.2.1):i.stops=uh n nx x.2.1 x.2.2.1 x.2.2.2.2:=by
 obtain⟨k,_,f⟩:=g.way;rw[<- f,nK k h];rfl
end
end Go.Eng.Top
namespace Go.Eng.Top
open Go.Proofs
open Go.Eng.Sv (Net Stop nxt iR uh lB od gA ix aJ lT cz Cb Ae BM pJ nK gX kz iG iF iT)
def NF(n:Net)(nx:Lj)(ds:List bZ)(x:Pst):Prop:=∀d∈ds,d.1≠4/\(d.1≠1->d.2.2.2.1≠x.1)/\
 ∀s∈uh n nx x.2.1 x.2.2.1 x.2.2.2.2,d.1=5->d.2.2.2.2.2=s.2.2.2->¬d.2.1<=s.2.2.1
def WOk(n:Net)(nx:Lj)(x:Pst):Prop:=(iR n nx x.2.2.1 19 x.2.1 x.2.2.2.2).2=0/\0<=x.2.2.1/\x.2.2.1<n.2.2.2.1.length
structure Inv(n:Net)(nx:Lj)(ds:List bZ)(T:Int)(s:Hst):Prop where
 nd:(s.1.map λi=>i.post.1).Nodup
 cc:∀c∈s.2,∃d∈ds,d.1=5/\d.2.2.2.2.2=c/\d.2.1<=T
 it:∀i∈s.1,WOk n nx i.post->NF n nx ds i.post->Good n nx s.2 i.post i/\In' n i/\(i.off≠i.post.2.2.1->T<=i.leave)
variable {n:Net}{nx:Lj}{ds:List bZ}{sb:Int->Int->ByteArray}{T:Int}{s:Hst}
def Inv.free(h:Inv n nx ds T s){x:Pst}(j:NF n nx ds x){T':Int}(A:T<=T'):Free n nx x s.2 T':=λw f G u=>by
 obtain⟨d,hd,z,y,L⟩:=h.cc _ u;exact(j d hd).2.2 w f z y Z
def aCw{its:List Itm}(h:(its.map λi=>i.post.1).Nodup){i j:Itm}(z:i∈its)(y:j∈its)(e:i.post.1=j.post.1):i=j:=by
 induction its with
 |nil=>cases z
 |cons a l A=>
  rw[wV,qDb]at h;rcases zK.1 z with u|u;rcases zK.1 y with f|f;rw[u,f];exact absurd (vW.2 ⟨j,f,by rw[<- e,u]⟩) h.1;rcases zK.1 y with f|f;exact absurd (vW.2 ⟨i,u,by rw[e,f]⟩) h.1;exact A h.2 u f
def Yk{its:List Itm}(h:(its.map λi=>i.post.1).Nodup){i:Itm}(f:i∈its):iy its i.post.1=i.post.2.2.1:=by
 unfold iy;cases e:its.find? λj=>decide (j.post.1=i.post.1)with
 |none=>have:=qCi.1 e i f;simp at this|some j=>
  have y:=List.mem_of_find?_eq_some e;have u:=qBc e;rw[aCw h y f (by simpa using u)];rfl
def mapM_mem{α β:Type}{f:α->Option β}:∀{l:List α}{r:List β},l.mapM f=some r->(∀b∈r,∃a∈l,f a=some b)
 |[],r,h=>by simp at h;subst h;intro b z;cases z
 |a::l,r,h=>by
  rw[xG]at h;cases j:f a with
  |none=>rw[j]at h;cases h
  |some b=>
   cases u:l.mapM f with
   |none=>rw[j,u]at h;cases h
   |some bs=>
    rw[j,u]at h;cases h;intro c y;rcases zK.1 y with rfl|y;exact⟨a,wL,j⟩;obtain⟨L,G,A⟩:=mapM_mem u c y;exact⟨L,wX _ G,A⟩
def mapM_map{α β γ:Type}{f:α->Option β}{g:α->γ}{g':β->γ}(y:∀a b,f a=some b->g' b=g a):∀{l:List α}{r:List β},l.mapM f=some r->r.map g'=l.map g
 |[],r,h=>by simp at h;subst h;rfl|a::l,r,h=>by
  rw[xG]at h;cases j:f a with
  |none=>rw[j]at h;cases h
  |some b=>
   cases u:l.mapM f with
   |none=>rw[j,u]at h;cases h
   |some bs=>
    rw[j,u]at h;cases h;rw[wV,wV,y a b j,mapM_map y u]
def mK{cc:Li}{tz:Int}{i j:Itm}(h:i.post=j.post):(jj (iT n nx) cc tz i).post=j.post:=by rw[<- h];exact(iN _ _).1
def tJ{cc:Li}{tz T:Int}:∀(k:Nat) {i f:Itm},FY (iT n nx) cc sb tz T k i=some f->f.post=i.post
 |0,_,_,h=>by cases h
 |k+1,i,f,h=>by
  unfold FY at h;split at h;split at h;cases h;exact(tJ k h).trans (BY i).1;cases h;rfl
def SB(hb:∀x,WOk n nx x->Base' n nx x)(h:Inv n nx ds T s){T':Int}{its:List Itm}(A:DT (iT n nx) sb T' s=some its)(ht:T<=T'):
  Inv n nx ds T' (its,s.2)/\(∀i∈its,WOk n nx i.post->NF n nx ds i.post->i.off≠i.post.2.2.1->T'<=i.leave):=by
 have hm:=mapM_mem A;have f:∀i∈its,WOk n nx i.post->NF n nx ds i.post->Good n nx s.2 i.post i/\In' n i/\(i.off≠i.post.2.2.1->T'<=i.leave):=λi z u y=>by
  obtain⟨j,G,e⟩:=hm i z;have ep:=tJ 21 e;rw[ep]at u y ⊢;obtain⟨L,g2,g3⟩:=h.it j G u y;rw[L.lb,Yk h.nd G]at e;obtain⟨f1,f2,f3⟩:=Lr (hb _ u) (h.free y (qN _)) 21 L g2 g3 e;exact⟨f1,f2,λX=>(f3 X).2⟩
 refine⟨⟨?_,λc hc=>?_,f⟩,λi z u y=>(f i z u y).2.2⟩;rw[mapM_map (g:=λi=>i.post.1) (λa b e=>by rw[tJ 21 e]) A];exact h.nd;obtain⟨d,h1,h2,h3,h4⟩:=h.cc c hc;exact⟨d,h1,h2,h3,Z⟩
def PW{its:List Itm}{lb:ByteArray}{f:Itm->Itm}{i:Itm}(h:i∈KE its lb f):i∈its\/∃j∈its,j.post.1=lb/\i=f j:=by
 unfold KE at h;split at h;rename_i j e;have z:=qZ e;have u:OC its lb<its.length:=by
  rcases wW (OC its lb) its.length with g|g;exact g;rw[wZ g]at e;cases e
 have y:j.post.1=lb:=by
  have:=List.findIdx_getElem (w:=u);rw[qB u]at e;cases e;exact vO this
 rcases List.mem_or_eq_of_mem_set h with g|g;exact .inl g;exact .inr ⟨j,z,y,g⟩;exact .inl h
def tH{its:List Itm}{k:Nat}{i j:Itm}(h:its[k]?=some i)(f:j.post=i.post):((its.set k j).map λi=>i.post.1)=its.map λi=>i.post.1:=by
 rw[List.map_set,f];apply wQ;intro m;rw[vS];split;rename_i e;subst e;rw[qQ,h];split;rfl;rename_i g;rw[vX]at g;rw[wZ Z]at h;cases h;rfl
def tD{its:List Itm}{lb:ByteArray}{f:Itm->Itm}(h:∀i,(f i).post=i.post):((KE its lb f).map λi=>i.post.1)=its.map λi=>i.post.1:=by
 unfold KE;split;rename_i j e;exact tH e (h j);rfl
def EG{cc:Li}{its:List Itm}{a b:ByteArray}{t:Int}:((I8 (iT n nx) cc its a b t).map λi=>i.post.1)=its.map λi=>i.post.1:=by
 unfold I8;split;rename_i i j f h;split;rfl;have y:=tH (j:=jj (iT n nx) cc (iy its j.lb) (G9 i j.lb t)) f (mK rfl);by_cases u:OC its a=OC its b;rw[u]at f ⊢;rw[f]at h;cases h;rw[List.set_set];exact tH f (mK rfl);have z:(its.set (OC its a) (jj (iT n nx) cc (iy its j.lb) (G9 i j.lb t)))[OC its b]?=some j:=by
  rw[zW u];exact h
 exact(tH (j:=jj (iT n nx) cc (iy its i.lb) (G9 j i.lb t)) z (mK rfl)).trans y;rfl
def DOk(n:Net)(its:List Itm)(d:bZ):Prop:=(d.1=1\/d.1=2\/d.1=3\/d.1=4\/d.1=5)/\
 (d.1=1->(∀i∈its,i.post.1≠d.2.2.1.1)/\d.2.2.1.2.2.2.2=d.2.1/\0<=d.2.2.1.2.1/\d.2.2.1.2.1<n.2.2.2.1.length)
def aAn(hb:∀x,WOk n nx x->Base' n nx x){d:bZ}(hd:d∈ds)(h:Inv n nx ds d.2.1 s)(ok:DOk n s.1 d):Inv n nx ds d.2.1 (rK (iT n nx) s d):=by
 obtain⟨hk,h1⟩:=ok;unfold rK;by_cases k1:d.1=1;rw[if_pos k1];obtain⟨u,g2,X,g4⟩:=h1 k1;have hN:((s.1++[iw d.2.2.1]).map λi=>i.post.1).Nodup:=by
  rw[zS,List.nodup_append];refine⟨h.nd,by simp,λa ha b hbm=>?_⟩;obtain⟨i,A,rfl⟩:=vW.1 ha;simp at hbm;subst hbm;exact u i A
 have eto:iy (s.1++[iw d.2.2.1]) d.2.2.1.1=d.2.2.1.2.2.1:=Yk (i:=iw d.2.2.1) hN (by simp);refine⟨?_,h.cc,λi A G y=>?_⟩;show((s.1++[jj (iT n nx) s.2 _ _]).map λi=>i.post.1).Nodup;rw[zS,wV,(iN _ _).1,qBf];rw[zS]at hN;exact hN;rcases qI.1 A with A|A;exact h.it i A G y;rw[qX.1 A,(iN _ _).1]at G y ⊢;rw[eto];have L:=hb _ G;have g2':(iw d.2.2.1).arr=d.2.1:=g2;have key:∀z:(iw d.2.2.1).off≠(iw d.2.2.1).post.2.2.1,nxt nx (iw d.2.2.1).off (iw d.2.2.1).post.2.2.1∉s.2/\d.2.1<=lB n (nxt nx (iw d.2.2.1).off (iw d.2.2.1).post.2.2.1) (aJ n (iw d.2.2.1).off (iw d.2.2.1).arr):=λz=>by
  obtain⟨k',_,f1,f2,f3,f4⟩:=jo z G.1;have hlp:=L.cell _ X g4 f1;have hbd:=L.bnd _ _ hlp f2;have ha:=L.offs _ X g4 (iw d.2.2.1).arr;have hT:d.2.1<=lB n (nxt nx (iw d.2.2.1).off (iw d.2.2.1).post.2.2.1) (aJ n (iw d.2.2.1).off (iw d.2.2.1).arr):=by
   have ha':d.2.1<=aJ n (iw d.2.2.1).off (iw d.2.2.1).arr:=by rw[<- g2'];exact ha
   exact Int.le_trans ha' hbd.1
  exact⟨h.free y (qN _) _ (by unfold uh;erw [f4];exact wL) hT,hT⟩
 have hG:=C5 (cc:=s.2) L (i:=iw d.2.2.1) rfl rfl rfl rfl rfl ⟨19,G.1,rfl⟩ (qN _) ⟨X,g4⟩ λz=>(key z).1;have e1:(jj (iT n nx) s.2 (iw d.2.2.1).post.2.2.1 (iw d.2.2.1)).off=(iw d.2.2.1).off:=by unfold jj;split<;>(try split)<;>rfl
 have e2:(jj (iT n nx) s.2 (iw d.2.2.1).post.2.2.1 (iw d.2.2.1)).arr=(iw d.2.2.1).arr:=by unfold jj;split<;>(try split)<;>rfl
 refine⟨hG,by unfold In';erw [e1];exact⟨X,g4⟩,λz=>?_⟩;erw [e1]at z;obtain⟨e3,e4,_⟩:=hG.go (by rw[e1];exact z);erw [e4,e3,e1,e2];exact(key z).2;rw[if_neg k1];have hne:∀i:Itm,NF n nx ds i.post->i.post.1≠d.2.2.2.1:=λi y e=>(y d hd).2.1 k1 e.symm;by_cases k2:d.1=2;rw[if_pos k2];have eu:=tD (its:=s.1) (lb:=d.2.2.2.1) (f:=λi=>jj (iT n nx) s.2 (iy s.1 i.lb) {i with lost:=true}) λi=>mK rfl;refine⟨by show((KE _ _ _).map λi=>i.post.1).Nodup;rw[eu];exact h.nd,h.cc,λi A G y=>?_⟩;rcases PW A with g|⟨j,_,g,rfl⟩;exact h.it i g G y;exact absurd (by rw[(iN _ _).1];exact g) (hne _ y);rw[if_neg k2];by_cases k3:d.1=3;rw[if_pos k3];refine⟨by show((KE _ _ _).map λi=>i.post.1).Nodup;rw[tD qk];exact h.nd,h.cc,λi A G y=>?_⟩;rcases PW A with g|⟨j,_,g,rfl⟩;exact h.it i g G y;exact absurd (by rw[qk];exact g) (hne _ y);rw[if_neg k3];by_cases k4:d.1=4;rw[if_pos k4];exact⟨by show((I8 _ _ _ _ _ _).map λi=>i.post.1).Nodup;rw[EG];exact h.nd,h.cc,λi A G y=>absurd k4 (y d hd).1⟩;rw[if_neg k4];have k5:d.1=5:=Z;have ep:∀i:Itm,(if i.line=d.2.2.2.2.2 then {i with line:=-1} else i).post=i.post:=λi=>by split<;>rfl
 refine⟨?_,λc hc=>?_,λi A G y=>?_⟩;show((s.1.map λi=>if i.line=d.2.2.2.2.2 then {i with line:=-1} else i).map λi=>i.post.1).Nodup;rw[qBx,show((λi:Itm=>i.post.1)∘λi=>if i.line=d.2.2.2.2.2 then {i with line:=-1} else i)=λi:Itm=>i.post.1 from funext λi=>by simp only[Function.comp,ep]];exact h.nd;rcases qI.1 hc with hc|hc;exact h.cc c hc;exact⟨d,hd,k5,(qX.1 hc).symm,qN _⟩;obtain⟨j,hj,rfl⟩:=vW.1 A;rw[ep]at G y ⊢;obtain⟨u,g2,X⟩:=h.it j hj G y;by_cases z:j.off=j.post.2.2.1;have e:=u.at_ z;have ej:(if j.line=d.2.2.2.2.2 then {j with line:=-1} else j)=j:=by
  split;rw[<- e];rfl
 rw[ej];exact⟨⟨rfl,u.lost,u.sn,u.lb,u.holds,u.way,u.arr,u.at_,λh=>absurd z h⟩,g2,X⟩;obtain⟨e1,e2,e3⟩:=u.go z;have hT:=X z;have hl:j.line≠d.2.2.2.2.2:=λe=>by
  obtain⟨k,hk',hw'⟩:=u.way;obtain⟨k',rfl,f1,f2,f3,f4⟩:=jo z hk';refine(y d hd).2.2 (j.off,j.arr,j.leave,j.line) ?_ k5 e.symm hT;rw[<- hw',f4,e2,e1];simp
 rw[if_neg hl];refine⟨⟨rfl,u.lost,u.sn,u.lb,u.holds,u.way,u.arr,u.at_,λ_=>⟨e1,e2,λhm=>?_⟩⟩,g2,X⟩;rcases qI.1 hm with hm|hm;exact e3 hm;exact hl (qX.1 hm)
def UA(its:List Itm):List ByteArray:=its.map λi=>i.post.1
def Nz(s:Hst)(d:bZ):UA (rK (iT n nx) s d).1=nxP (UA s.1) d:=by
 unfold rK nxP;split;show UA (s.1++[_])=_;unfold UA;rw[zS,List.map_singleton,(iN _ _).1];rfl;split;exact tD λi=>mK rfl;split;exact tD qk;split;exact EG;unfold UA;dsimp only;rw[qBx];refine zY λi _=>?_;simp only[Function.comp];split<;>rfl
def Lq{s:Hst}{its:List Itm}(f:DT (iT n nx) sb T s=some its):UA its=UA s.1:=
 mapM_map (g:=λi:Itm=>i.post.1) (g':=λi:Itm=>i.post.1) (λ_ _ h=>by rw[tJ 21 h]) f
variable {lab:ByteArray->Bool}{l4 l5:Nat}
def JJ{its:List Itm}{lb:ByteArray}(h:lb∈UA its):∃i∈its,i.post.1=lb:=by
 obtain⟨i,f,e⟩:=vW.1 h;exact⟨i,f,e⟩
def QP(z:∀x,WOk n nx x->Base' n nx x):∀(f:List bZ) {ps:List ByteArray}{T:Int}{s u:Hst},(∀d∈f,d∈ds)->Inv n nx ds T s->UA s.1=ps->CP lab n.2.2.2.1.length l4 l5 ps T f->FC (iT n nx) sb f s=some u->∃y,Inv n nx ds y u/\y<=max T 1000000
 |[],_,T,s,u,_,j,_,_,h=>by cases h;exact⟨T,j,Z⟩
 |d::f,ps,T,s,u,hm,j,hp,⟨⟨X,w2,L⟩,G⟩,h=>by
  unfold FC stepD at h;cases e:DT (iT n nx) sb d.2.1 s with
  |none=>rw[e]at h;cases h
  |some its=>
   rw[e]at h;obtain⟨g1,_⟩:=SB z j e X;have A:=(Lq e).trans hp;have ok:DOk n (its,s.2).1 d:=by
    rcases L with⟨a,_,a3,_,a7,a4,_⟩|⟨a,_⟩|⟨a,_⟩|⟨a,_⟩;exact⟨.inl a,λ_=>⟨λi j e=>a3 (by rw[<- A,<- e];exact vW.2 ⟨i,j,rfl⟩),a7,a4⟩⟩;exact⟨Z,λh=>Z⟩;exact⟨Z,λh=>Z⟩;exact⟨Z,λh=>Z⟩
   have g3:=aAn z (hm d wL) g1 ok;obtain⟨y,f1,f2⟩:=QP z f (λx hx=>hm x (wX _ hx)) g3 (by rw[Nz,<- A]) G h;exact⟨y,f1,Z⟩
def YC(j:∀s,lab s=true->s.size<=1000)(L:l4<=100000):∀(f:List bZ) {ps:List ByteArray}{T:Int}{s:Hst},0<=T->UA s.1=ps->CP lab n.2.2.2.1.length l4 l5 ps T f->Wh (iT n nx) f s
 |[],_,_,_,_,_,_=>trivial|d::f,ps,T,s,hT,G,⟨⟨w1,w2,y⟩,u⟩=>λz e=>by
  have h:=(Lq e).trans G;refine⟨⟨Z,?_⟩,YC j L f Z (by rw[Nz,<- h]) u⟩;rcases y with⟨a,X,a3,_,a7,a4,a5,_⟩|⟨a,b⟩|⟨a,b,c,e⟩|⟨a,b,c⟩;exact .inl ⟨a,a7,λq A e=>a3 (by rw[<- h,<- e];exact vW.2 ⟨q,A,rfl⟩),j _ X,a4,a5⟩;exact .inr (.inl ⟨a,JJ (by rw[h];exact b)⟩);exact .inr (.inr (.inl ⟨a,JJ (by rw[h];exact b),JJ (by rw[h];exact c),e⟩));exact .inr (.inr (.inr ⟨a,Sv.Bn Z⟩))
def VH{its:List Itm}(G:∀x,WOk n nx x->Base' n nx x)(A:CP lab n.2.2.2.1.length l4 l5 [] 0 ds)(j:Jf (iT n nx) sb ds=some its):
  ∀i∈its,WOk n nx i.post->NF n nx ds i.post->i.stops=uh n nx i.post.2.1 i.post.2.2.1 i.post.2.2.2.2/\i.off=i.post.2.2.1/\i.lost=false/\i.lb=i.post.1:=by
 unfold Jf at j;cases e:FC (iT n nx) sb ds ([],[])with
 |none=>rw[e]at j;cases j
 |some s=>
  rw[e]at j;have h0:Inv n nx ds 0 ([],[]):=⟨by simp,λc hc=>(by cases hc),λi u=>(by cases u)⟩;obtain⟨T,u,hT⟩:=QP G ds (λd h=>h) h0 rfl A e;obtain⟨g1,_⟩:=SB (T':=sI) G u j (by unfold sI;omega);intro i u A hn;obtain⟨z,X,f3⟩:=g1.it i u A hn;have f:i.off=i.post.2.2.1:=by
   by_cases f:i.off=i.post.2.2.1;exact f;exfalso;obtain⟨e1,e2,_⟩:=z.go f;obtain⟨k,hk,_⟩:=z.way;obtain⟨k',_,h1,h2,_⟩:=jo f hk;have y:=G _ A;have:=(y.bnd _ _ (y.cell _ X.1 X.2 h1) h2).2;have L:=f3 f;rw[e2,e1]at L;unfold sI at L;omega
  exact⟨Xw z f,f,z.lost,z.lb⟩
end
end Go.Eng.Top
namespace Go.Eng.Top
open Go.Proofs
open Go.Eng.Sv (Net fk C4 dfD oz hasB isPost fh pB mZ pA tI Jg pcF)
def posts(pre:List bZ):List ByteArray:=(pre.filter λd=>decide (d.1=1)).map λd=>d.2.2.1.1
def aBC{x y:ByteArray}(h:x.toList=y.toList):x=y:=str_inj (by rwa [ByteArray.toList_eq,ByteArray.toList_eq]at h)
def CN{pre:List bZ}{lb:ByteArray}:hasB pre lb=true↔lb∈posts pre:=by
 unfold hasB posts isPost;rw[xO];simp only[qE,qF,yX,vW,yY];exact⟨λ⟨d,h,k,e⟩=>⟨d,⟨h,k⟩,aBC e⟩,λ⟨d,⟨h,k⟩,e⟩=>⟨d,h,k,by rw[e]⟩⟩
def N4(pre:List bZ)(d:bZ):posts (pre++[d])=nxP (posts pre) d:=by
 unfold posts nxP;rw[yJ,zS];by_cases k:d.1=1;simp[k];simp[k]
def V7(l:List bZ):pcF l=((posts l).length:Int):=by
 unfold pcF posts;rw[vX]
def SX{n:Net}{ds:List bZ}(h:fk n ds=true):∀(f pre:List bZ) (T:Int),ds=pre++f->((pre=[]/\T=0)\/(pre≠[]/\T=(ds.getD (pre.length-1) dfD).2.1))->CP fh n.2.2.2.1.length n.2.2.2.2.1.length n.2.2.2.2.2.length (posts pre) T f
 |[],_,_,_,_=>trivial|d::f,pre,T,e,hT=>by
  unfold fk at h;simp only[qE,qW,wJ,qF]at h;obtain⟨⟨h1,h2⟩,h3⟩:=h;have hl:pre.length<ds.length:=by rw[e];simp
  have hd:ds.getD pre.length dfD=d:=by rw[e];simp
  have ht:ds.take pre.length=pre:=by rw[e];simp
  have y:=h1 pre.length hl;unfold C4 at y;rw[hd,ht]at y;simp only[qE,yM,qF]at y;obtain⟨⟨⟨t0,t1⟩,u⟩,j⟩:=y;have G:T<=d.2.1:=by
   rcases hT with⟨_,rfl⟩|⟨A,rfl⟩;exact t0;rcases u with u|u;exact absurd (vK u) A;exact u
  have hc:d.1=1->(posts pre).length<60:=λk=>by
   have h4:posts ds=(posts pre++[d.2.2.1.1])++posts f:=by
    unfold posts;rw[e,yJ,yP,if_pos (qR k)];simp
   rw[V7,h4,qG,qG,vC]at h3;omega
  refine⟨⟨G,t1,?_⟩,?_⟩;by_cases z:d.1=1;obtain⟨a,b,c1,c2,c3,c4⟩:=(pB z).1 j;exact .inl ⟨z,a,(λhm=>by rw[CN.2 hm]at b;cases b),hc z,c4,c1,c2,c3⟩;by_cases k2:d.1=2\/d.1=3;rw[mZ k2]at j;exact .inr (.inl ⟨k2,CN.1 j⟩);by_cases X:d.1=4;obtain⟨a,b,c⟩:=(pA X).1 j;exact .inr (.inr (.inl ⟨X,CN.1 a,CN.1 b,λe=>c (by rw[e])⟩));by_cases L:d.1=5;have:=(tI L).1 j;exact .inr (.inr (.inr ⟨L,this⟩));rw[Jg Z]at j;cases j;rw[<- N4];exact SX (by unfold fk;simp only[qE,qW,wJ,qF];exact⟨⟨h1,h2⟩,h3⟩) f (pre++[d]) d.2.1 (by rw[e];simp) (.inr ⟨by simp,by rw[qG,vC,qBe,hd]⟩)
def SV{n:Net}{ds:List bZ}(h:fk n ds=true):CP fh n.2.2.2.1.length n.2.2.2.2.1.length n.2.2.2.2.2.length [] 0 ds:=SX h ds [] 0 rfl (.inl ⟨rfl,rfl⟩)
def Hf{s:ByteArray}(h:fh s=true):s.size<=1000:=by
 unfold fh at h;rw[qE,qF]at h;omega
open Go.Proofs Go.RowKit
open Go.Eng.Sv (Net Trk Tk De Stp M I S C Of Ln Kl G0 R iT aZ nP fk fh nR YP BR jb)
def lO(i:Itm):Trk:=(i.post,i.stops,i.lost,i.sL++[i.sn],i.bL++[i.lb],i.seals)
noncomputable def IX(n:Net)(nx:Lj)(ds:List bZ):Option (List Itm):=Jf (iT n nx) (sbD (iT n nx)) ds
def YW(its:List Itm):Bool:=decide (its.length<=120)&&its.all λi=>decide (i.done.length<=19)&&decide (i.bL.length<=120)
noncomputable def zv(n:Net)(nx:Lj)(ds:List bZ):List Trk:=match IX n nx ds with|some its=>if YW its=true then its.map lO else[]|none=>[]
noncomputable def VM(n:Net)(nx:Lj)(ds:List bZ):Int:=match IX n nx ds with|some _=>0|none=>2
def aGp(n:Net)(nx:Lj)(ds:List bZ):Prop:=aZ n=true/\nP n nx=true/\fk n ds=true
variable {W:World}{DD:Nat->Prop}
def S4{α:Type}{sz:Nat}:∀{bl:List (List α)}{i j:Nat}{c:List α}{u:α},(∀c∈bl,c.length=sz)->bl[i]?=some c->c[j]?=some u->bl.flatten[i*sz+j]?=some u
 |[],_,_,_,_,_,h,_=>by simp at h|b::bl,0,j,c,u,y,h,f=>by
  simp only[xK,vT]at h;subst h;rw[kG,xE,zG,vU (qC.1 f).1];exact f
 |b::bl,i+1,j,c,u,y,h,f=>by
  have z:=y b wL;rw[kG,qV (by rw[z,Nat.succ_mul];omega),z,Nat.succ_mul,show i*sz+sz+j-sz=i*sz+j by omega];exact S4 (λc h=>y c (wX _ h)) (by simpa using h) f
def Rj{t:Ty}{xs:List t.den}{bl:List (Lv)}{v:Value}{B E:Nat}(h:W.ownsRow B E t.sz v (List.length xs) bl.flatten)(hn:bl.length=List.length xs)(hs:∀c∈bl,c.length=t.sz)
  (hr:∀(i:Nat) (y:t.den) (c:Lv),(xs:List t.den)[i]?=some y->bl[i]?=some c->ae W DD t y c) (hD:∀b,B<=b->b<W.heap.size->DD b):ae W DD (.sl t) xs [v]:=by
 obtain⟨_,⟨rfl,z⟩|⟨g,A,cur,rfl,hg,hb,f,_,hsz,htk⟩⟩:=id h;have z:xs=[]:=vK z;subst z;exact⟨none,0,rfl,qL _,λ_=>rfl,λ_ h=>(by cases h),λi y h=>(by cases h)⟩;refine⟨_,A,rfl,f,λh=>(by cases h),λa h _=>(by cases h;rfl),λi y G=>?_⟩;have hi:i<bl.length:=by rw[hn];exact(qC.1 G).1
 have X:bl[i]?=some bl[i]:=qB hi;refine⟨_,bl[i],rfl,hD _ hg (qJ.1 hb).1,λj u hj=>?_,hr i y _ G X⟩;have L:=S4 hs X hj;show W.cell? ⟨g,0+i*t.sz+j,none⟩=some u;rw[zG,h.cellAt _ (by rw[<- h.1];exact(qC.1 L).1)];exact L
def Jp{t:Ty}{xs:List t.den}{f:t.den->Value}{v:Value}{B E:Nat}(h:W.ownsRow B E t.sz v (List.length xs) (xs.map f))(L:t.sz=1)(A:∀y:t.den,ae W DD t y [f y])(G:∀b,B<=b->b<W.heap.size->DD b):ae W DD (.sl t) xs [v]:=by
 refine Rj (bl:=xs.map λx=>[f x]) (E:=E) ?_ (by simp) (λc j=>?_) (λi y c z j=>?_) G;have e:(xs.map λx=>[f x]).flatten=xs.map f:=by
  clear h;induction xs with
  |nil=>rfl|cons x xs u=>rw[wV,kG,u];rfl
 rw[e];exact h;obtain⟨x,_,rfl⟩:=vW.1 j;rw[L];rfl;rw[qQ,z]at j;cases j;exact A y
def aBA{v:Value}{its:List Itm}{X:List Gh}{B:Nat}(h:aF7 W B v (its.map Itm.raw) X)(G:∀b,B<=b->b<W.heap.size->DD b):ae W DD (.sl Tk) (its.map lO) [v]:=by
 have hl:X.length=its.length:=by simpa using h.len
 refine Rj (t:=Tk) (bl:=(X.zip (its.map Itm.raw)).map λp=>Yj p.1 p.2) (E:=55) (B:=B) ?_ (by simp[hl]) (λc u=>?_) (λi y c A u=>?_) G;have:=h.row;rw[vX]at this;show W.ownsRow B 55 10 v (List.length (its.map lO)) _;rw[vX];exact this;obtain⟨p,_,rfl⟩:=vW.1 u;rfl;rw[qQ]at u A;obtain⟨p,hp,rfl⟩:=gB.1 u;obtain⟨g,r⟩:=p;rw[List.getElem?_zip_eq_some]at hp;obtain⟨L,z⟩:=hp;rw[qQ]at z;obtain⟨j,hi,rfl⟩:=gB.1 z;rw[hi]at A;cases A;have z:(its.map Itm.raw)[i]?=some j.raw:=by rw[qQ,hi];rfl
 have st:ae W DD (.sl Stp) j.stops [g.st]:=by
  refine Rj (t:=Stp) (bl:=j.stops.map kO) (E:=61) (B:=B) ?_ (by simp) (λc u=>?_) (λi y c A u=>?_) G;exact h.st i g _ L z;obtain⟨x,_,rfl⟩:=vW.1 u;rfl;rw[qQ,A]at u;cases u;exact⟨[.int .i64 y.1],_,rfl,rfl,[.int .i64 y.2.1],_,rfl,rfl,[.int .i64 y.2.2.1],[.int .i64 y.2.2.2],rfl,rfl,rfl⟩
 have si:ae W DD (.sl I) (j.sL++[j.sn]) [g.si]:=Jp (t:=I) (f:=Value.int .i64) (h.si i g _ L z) rfl (λ_=>rfl) G;have la:ae W DD (.sl S) (j.bL++[j.lb]) [g.la]:=Jp (t:=S) (f:=Value.string) (h.la i g _ L z) rfl (λ_=>rfl) G;have se:ae W DD (.sl S) j.seals [g.se]:=Jp (t:=S) (f:=Value.string) (h.se i g _ L z) rfl (λ_=>rfl) G;exact⟨[.string j.post.1,.int .i64 j.post.2.1,.int .i64 j.post.2.2.1,.int .i64 j.post.2.2.2.1,.int .i64 j.post.2.2.2.2],_,rfl,⟨[_],_,rfl,rfl,[_],_,rfl,rfl,[_],_,rfl,rfl,[_],[_],rfl,rfl,rfl⟩,[g.st],_,rfl,st,[.bool j.lost],_,rfl,rfl,[g.si],_,rfl,si,[g.la],[g.se],rfl,la,se⟩
def aFq{ds:List Sv.bZ}{v:Value}(h:ae W DD (.sl De) ds [v])(hD:∀b,DD b->b<W.heap.size):∃(A:Option Addr) (y:Nat),v=.slice A ds.length y/\aBr W A ds:=by
 obtain⟨ao,y,rfl,hr⟩:=nR h;refine⟨ao,y,rfl,λk e he=>?_⟩;obtain⟨b,f,us,e1,hb,hc,hu⟩:=hr k e he;obtain⟨_,_,rfl,g1,_,_,rfl,g2,_,_,rfl,⟨_,_,rfl,p1,_,_,rfl,p2,_,_,rfl,X,_,_,rfl,L,G⟩,_,_,rfl,g3,_,_,rfl,g4,g5⟩:=hu;obtain rfl:=(g1:_=[Value.int .i64 e.1]);obtain rfl:=(g2:_=[Value.int .i64 e.2.1]);obtain rfl:=(p1:_=[Value.string e.2.2.1.1]);obtain rfl:=(p2:_=[Value.int .i64 e.2.2.1.2.1]);obtain rfl:=(X:_=[Value.int .i64 e.2.2.1.2.2.1]);obtain rfl:=(L:_=[Value.int .i64 e.2.2.1.2.2.2.1]);obtain rfl:=(G:_=[Value.int .i64 e.2.2.1.2.2.2.2]);obtain rfl:=(g3:_=[Value.string e.2.2.2.1]);obtain rfl:=(g4:_=[Value.string e.2.2.2.2.1]);obtain rfl:=(g5:_=[Value.int .i64 e.2.2.2.2.2]);refine⟨b,f,e1,hD _ hb,λj u z=>hc j u ?_⟩;rw[<- yB]at z;exact z
def aEi(p1 p2:Int)(nx:Lj)(dy:List (Lj))(ds:List Sv.bZ)(A:Sv.LC)(u j:Sv.LB)(f:List Sv.Off)(ls:List Sv.Line)(z:List Sv.Cla):
  aj Tryz.prog G0 13 [Sv.net A u j f ls z,.agg [.dat I p1,.dat I p2,.dat M nx,.dat (.sl M) dy],.dat (.sl De) ds] [] ⟨aGp (A,u,j,f,ls,z) nx ds,.tup [.dat (.sl Tk) (zv (A,u,j,f,ls,z) nx ds),.dat I (VM (A,u,j,f,ls,z) nx ds)],[]⟩:=by
 rintro⟨hs,ht,hd⟩ w D E us hD hG hargs hH;obtain⟨_,_,rfl,⟨_,rfl,v1,_,rfl,h1,v2,_,rfl,h2,v3,_,rfl,h3,v4,_,rfl,h4,v5,_,rfl,h5,v6,_,rfl,h6,rfl⟩,_,_,rfl,⟨_,rfl,q1,_,rfl,i1,q2,_,rfl,i2,vx,_,rfl,hx,q4,_,rfl,i4,rfl⟩,vd,_,rfl,hds,rfl⟩:=hargs;have env:=YP A u j f ls z hD hG h1 h2 h3 h4 h5 h6 hx hs ht;obtain⟨a4,c4,e4,_⟩:=nR h4;obtain⟨a5,c5,e5,_⟩:=nR h5;obtain⟨a6,c6,e6,_⟩:=nR h6;obtain⟨ax,cx,ex,_⟩:=nR hx;obtain⟨ad,cd,ed,hda⟩:=aFq hds hD;subst e4 e5 e6 ex ed;have hno:=Sv.gZ A u j f ls z hs;have l40:=(Sv.mj A u j f ls z hno).1;have hfo:=SV hd;have hde:=hd;unfold fk at hde;simp only[qE,qF]at hde;have up:∀{V:World},Below w.heap.size w V->(∀b,D b->b<V.heap.size)/\jG Tryz.prog ⟨V,D,noM,noE⟩ G0/\(∀{t:Ty}{x:t.den}{us:Lv},ae w D t x us->ae V D t x us):=λ{V} X=>
  ⟨λb h=>qK (hD b h) X.size,jG.mono (show Later ⟨w,D,bH [],E⟩ ⟨V,D,noM,noE⟩from⟨λ_ h=>h,λb h=>X.block b (hD b h)⟩) hG,λh=>au (λ_ h=>h) (λb hb=>X.block b (hD b hb)) h⟩
 have fit:jb nx:=by
  have e:(nx.length:Int)=f.length:=by
   unfold nP at ht;simp only[qE,qF]at ht;exact ht.1
  have l12:=(Sv.BQ A u j f ls z hno).1;refine⟨Z,λr hr=>?_⟩;obtain⟨i,hi,rfl⟩:=yG.1 hr;have h:=(Sv.ou (n:=(A,u,j,f,ls,z)) e).1 ht i Z;rw[qA,qB hi,vJ]at h;unfold Sv.rowOk at h;simp only[qE,qF]at h;have h1:((nx[i].length:Nat):Int)=f.length:=h.1;omega
 have hc:=aFv (W:=w) (d:=iT (A,u,j,f,ls,z) nx) (lab:=fh) (p0:=q1) (p1:=q2) (p3:=q4) (cd:=cd) hde.1.2 hda env (λV X=>by
   obtain⟨g1,g2,G⟩:=up X;refine((Sv.KQ A u j f ls z).data trivial g1 g2 (BR (E:=noE) A u j f ls z (G h1) (G h2) (G h3) (G h4) (G h5) (G h6) rfl)).mono ?_;rintro e w' ⟨v,rfl,hb,L⟩;have L:[v]=[Value.bool (aZ (A,u,j,f,ls,z))]:=L;cases L;rw[hs];exact⟨rfl,hb⟩) (λV X=>by
   obtain⟨g1,g2,G⟩:=up X;refine((Sv.Zr nx A u j f ls z).data fit g1 g2 (BR (E:=noE) A u j f ls z (G h1) (G h2) (G h3) (G h4) (G h5) (G h6) ⟨_,_,rfl,G hx,rfl⟩)).mono ?_;rintro e w' ⟨v,rfl,hb,L⟩;have L:[v]=[Value.bool (nP (A,u,j,f,ls,z) nx)]:=L;cases L;rw[ht];exact⟨rfl,hb⟩) (λV s hz=>by
   refine((Sv.Qo s).data (D:=λ_=>False) (us:=[.string s]) (by unfold Sv.yg;omega) (λb h=>h.elim) (λp h=>by cases h) ⟨_,_,rfl,rfl,rfl⟩).mono ?_;rintro e w' ⟨v,rfl,hb,L⟩;have L:[v]=[Value.bool (fh s)]:=L;cases L;exact⟨rfl,hb⟩) (λs h=>Hf h) hfo (YC (λs h=>Hf h) (by show ls.length<=100000;omega) ds (qN 0) rfl hfo)
 refine hc.mono ?_;rintro e w' ⟨X,h⟩;have left:Left Tryz.prog (bH []) [] w D E w' (λb=>D b\/gv w w' b) E:=⟨(Chg.refl _ _).below X,λ_ h=>.inl h,λb h=>h.imp id λh=>.inl h.1,λb h=>h.elim (λh=>qK (hD b h) X.size) λh=>h.2,Held.none _ _ _ _,λnm b b' g=>(by cases g),λnm b b' g=>(by cases g),λnm b _ g=>(by cases g),λnm i b g=>(iU g).elim⟩;rcases h with⟨its,v,gs,hr,rfl,hT,hq,hok⟩|⟨hr,rfl⟩;refine⟨_,_,E,rfl,left,?_⟩;have e1:zv (A,u,j,f,ls,z) nx ds=its.map lO:=by
  unfold zv IX;rw[hr];refine if_pos ?_;unfold YW;simp only[qE,qF,qW];exact⟨hq,λi hi=>⟨(hok i hi).1.dl,vP (hok i hi).1.bl hde.1.2⟩⟩
 have e2:VM (A,u,j,f,ls,z) nx ds=0:=by unfold VM IX;rw[hr]
 rw[e1,e2];exact⟨[v,.int .i64 0],rfl,v,_,rfl,aBA hT (λb h1 h2=>.inr ⟨h1,h2⟩),_,_,rfl,rfl,rfl⟩;refine⟨_,_,E,rfl,left,?_⟩;have e1:zv (A,u,j,f,ls,z) nx ds=[]:=by unfold zv IX;rw[hr]
 have e2:VM (A,u,j,f,ls,z) nx ds=2:=by unfold VM IX;rw[hr]
 rw[e1,e2];exact⟨[.slice none 0 0,.int .i64 2],rfl,_,_,rfl,⟨none,0,rfl,qL _,λ_=>rfl,λ_ h=>(by cases h),λi y h=>(by cases h)⟩,_,_,rfl,rfl,rfl⟩
end Go.Eng.Top
namespace Go.Eng.In
open Go.Proofs
def RI{l:Li}(h:l.length<=2000000):Ar l:=by show l.length<=2000000000000000;omega
def gF{l:Li}(h:jv l=true):rl l=l:=by
 unfold rl;conv=>rhs;rw[<- List.map_id l]
 refine zY λx f=>?_;have:=dJ.1 h x f;show x%65521=x;omega
def NN{l:Li}(h:jv l=true):fR l=zu l:=by unfold fR;rw[gF h]
def zt{l:Li}(h:jv l=true):du l (fR l)=true:=by
 unfold du;rw[h,NN h];simp
def QE{l:Li}{s:Int}(h:du l s=true):jv l=true/\s=zu l:=by
 unfold du at h;rwa [qE,qF]at h
structure Acc(n:Net)(l:Li):Prop where
 ins:jv l=true
 pl:nF l=true
 us:usF n=true
 fit:JY n (ah l)=true
 len:l.length<=40000
 run:ye n (ah l) (bU l)=some []
def aA3{n:Net}{l:Li}:iP n l (fR l)=0↔Acc n l:=by
 constructor;intro h;unfold iP at h;split at h;case isFalse=>unfold ti at h;split at h<;>omega
 rename_i j;split at h;case isFalse=>omega
 rename_i y;split at h;case isFalse=>omega
 rename_i f;unfold La at h;split at h;case isFalse=>omega
 rename_i u;unfold fL at j;rw[qE]at j;unfold mG EV at f;rw[qE,qF]at f;exact⟨(QE j.1).1,j.2,y,f.1,f.2,u⟩;rintro⟨j,y,f,u,A,z⟩;unfold iP;rw[if_pos (by unfold fL;rw[zt j];exact y),if_pos f,if_pos (by unfold mG EV;rw[u,qR A];rfl)];unfold La;rw[if_pos z]
def one_app{xs:Li}(z:Li)(h:bm xs=true):bm (xs++z)=true/\hd (xs++z)=hd xs/\tl (xs++z)=tl xs++z:=by
 have h:=vO h;cases xs with
 |nil=>exact absurd h (by simp)|cons x r=>exact⟨by unfold bm;simp,rfl,rfl⟩
def Xj{n:Net}{p:Plan}{d:Int}(z:Li):∀(f:Nat) {o t:Int}{xs:Li},(oY n p d f o t xs).1=true->oY n p d f o t (xs++z)=(true,(oY n p d f o t xs).2.1,(oY n p d f o t xs).2.2++z)
 |0,o,t,xs,h=>by
  have h:decide (o=d)=true:=h;show(decide (o=d),t,xs++z)=_;rw[h];rfl
 |f+1,o,t,xs,h=>by
  have e:∀j:Li,oY n p d (f+1) o t j=if o=d then(true,t,j)else if cellAt p o d=-1 then(false,t,j)else if bm j=false then(false,t,j)else
   if fY n o (cellAt p o d) p (hd j) t=true then oY n p d f (bu n (cellAt p o d)).2.2.1 (oJ (ag n o).1 (hd j-2+p.1) (bu n (cellAt p o d)).2.2.2.1+(bu n (cellAt p o d)).2.2.2.2.1) (tl j)else(false,t,tl j):=λj=>rfl
  rw[e]at h;rw[e,e];by_cases u:o=d;rw[if_pos u,if_pos u];rw[if_neg u]at h;rw[if_neg u,if_neg u];by_cases G:cellAt p o d=-1;rw[if_pos G]at h;cases h;rw[if_neg G]at h;rw[if_neg G,if_neg G];by_cases A:bm xs=false;rw[if_pos A]at h;cases h;rw[if_neg A]at h;obtain⟨a1,X,L⟩:=one_app z (by simpa using A);rw[if_neg A,if_neg (by rw[a1];exact Bool.noConfusion),X,L];by_cases y:fY n o (cellAt p o d) p (hd xs) t=true;rw[if_pos y]at h;rw[if_pos y,if_pos y];exact Xj z f h;rw[if_neg y]at h;cases h
def QR{f g:Nat->Li->Option (Li)}(z:Li)(u:∀i xs j,f i xs=some j->g i (xs++z)=some (j++z)):∀(m:Nat) {xs j:Li},runN f m xs=some j->runN g m (xs++z)=some (j++z)
 |0,_,_,h=>by cases h;rfl
 |m+1,xs,j,h=>by
  rw[runN]at h ⊢;obtain⟨G,A,y⟩:=xJ.1 h;rw[QR z u m A];exact u _ _ _ y
def DL{n:Net}{l:Li}(f:Ar l)(h:Acc n l):dF l:=⟨h.ins,f⟩
noncomputable def pos(m k o d:Int):Int:=4+m*m+k*(m*m)+(o*m+d)
def SY{n:Net}{p h:Plan}(j:h.1=p.1)(u:h.2.2.1=p.2.2.1){d:Int}:∀(f:Nat) (o t:Int) (xs:Li),oY n h d f o t xs=oY n p d f o t xs
 |0,_,_,_=>rfl|f+1,o,t,xs=>by
  have e:∀p:Plan,oY n p d (f+1) o t xs=if o=d then(true,t,xs)else if cellAt p o d=-1 then(false,t,xs)else if bm xs=false then(false,t,xs)else
   if fY n o (cellAt p o d) p (hd xs) t=true then oY n p d f (bu n (cellAt p o d)).2.2.1 (oJ (ag n o).1 (hd xs-2+p.1) (bu n (cellAt p o d)).2.2.2.1+(bu n (cellAt p o d)).2.2.2.2.1) (tl xs)else(false,t,tl xs):=λp=>rfl
  have z:cellAt h o d=cellAt p o d:=by unfold cellAt;rw[u]
  have y:∀c x,fY n o c h x t=fY n o c p x t:=λc x=>by unfold fY;rw[j]
  rw[e,e,z,y,j,SY j u f]
def Z7{f g:Nat->Li->Option (Li)}:∀(m:Nat) (j:∀i,i<m->∀xs u,f i xs=some u->g i xs=some u) {xs u:Li},runN f m xs=some u->runN g m xs=some u
 |0,_,_,_,h=>h|m+1,j,xs,u,h=>by
  rw[runN]at h ⊢;obtain⟨A,z,y⟩:=xJ.1 h;rw[Z7 m (λi G=>j i Z) z];exact j _ Z _ _ y
def VE{f:Nat->Li->Option (Li)}(u:∀i xs j,f i xs=some j->j=xs):∀(m:Nat) {xs j:Li},runN f m xs=some j->j=xs
 |0,_,_,h=>by cases h;rfl
 |m+1,xs,j,h=>by
  rw[runN]at h;obtain⟨A,z,y⟩:=xJ.1 h;rw[u _ _ _ y,VE u m z]
def Oc{w:List Bool}{h:Li}{d x:Int}(u:Sv.ie w h d=0)(G:d<=x)(z:wkF w h x=true):Sv.fS w h d<=x:=by
 by_cases A:d+60<=x;have:=(Sv.mo u).2.1;omega;have hm:x∈Sv.dM w h d 60:=by
  unfold Sv.dM;exact yY.2 ⟨vW.2 ⟨(x-d).toNat,wJ.2 Z,Z⟩,z⟩
 have f:(Sv.dM w h d 60).Pairwise (· < ·):=by
  unfold Sv.dM;exact List.Pairwise.filter _ (qBn.2 (List.pairwise_lt_range.imp λh=>Z))
 unfold Sv.fS Sv.jT;cases j:Sv.dM w h d 60 with
 |nil=>rw[j]at hm;cases hm
 |cons y tl=>
  rw[j]at hm f;show y<=x;rcases zK.1 hm with rfl|hm;exact qN _;exact Int.le_of_lt ((kC.1 f).1 x hm)
def Ia{c:Cal}{m t D:Int}(y:m<=1439)(f:Sv.nV c m t=0)(h:wkF c.2.1 c.2.2 D=true)(j:t<=oJ c.1 D m):Sv.gu c m t<=oJ c.1 D m:=by
 have u:Sv.gu c m t=Sv.ij c.1 (Sv.fS c.2.1 c.2.2 (Sv.d0F c m t)) m:=if_pos f;have hd:Sv.d0F c m t<=D:=by
  unfold oJ at j;unfold Sv.d0F Sv.jD Sv.Oh;split<;>omega
 have:=Oc f hd h;rw[u];unfold Sv.ij oJ;omega
theorem PN {n : Net} {p : Plan} {d : Int} (hu : usP n) (hpl : plP n p) (hdd : iu n d) : ∀ (f k : Nat) (o t t' : Int) (xs : Li), iu n o → (oY n p d f o t' xs).1 = true → t ≤ t' → (Sv.iR n p.2.2.1 d k o t).2 = 0 →
    ∃ s, (Sv.iR n p.2.2.1 d k o t).1.getLast? = some s ∧ s.2.1 ≤ (oY n p d f o t' xs).2.1
  | f, k, o, t, t', xs, ho, h1, ht, h2 => by
    by_cases h0 : o = d
    · rw [Sv.nK k h0]
      refine ⟨(o, t, -1, -1), rfl, ?_⟩
      cases f with
      | zero => exact ht
      | succ f => unfold oY; rw [if_pos h0]; exact ht
    cases f with
    | zero => exact absurd (vO h1) h0
    | succ f =>
      have e : oY n p d (f + 1) o t' xs = if o = d then (true, t', xs) else if cellAt p o d = -1 then (false, t', xs) else if bm xs = false then (false, t', xs) else
        if fY n o (cellAt p o d) p (hd xs) t' = true then oY n p d f (bu n (cellAt p o d)).2.2.1 (oJ (ag n o).1 (hd xs - 2 + p.1) (bu n (cellAt p o d)).2.2.2.1 + (bu n (cellAt p o d)).2.2.2.2.1) (tl xs) else (false, t', tl xs) := rfl
      rw [e] at h1 ⊢
      rw [if_neg h0] at h1 ⊢
      by_cases h3 : cellAt p o d = -1
      · rw [if_pos h3] at h1; cases h1
      rw [if_neg h3] at h1 ⊢
      by_cases h4 : bm xs = false
      · rw [if_pos h4] at h1; cases h1
      rw [if_neg h4] at h1 ⊢
      by_cases h5 : fY n o (cellAt p o d) p (hd xs) t' = true
      case neg => rw [if_neg h5] at h1; cases h1
      rw [if_pos h5] at h1 ⊢
      obtain ⟨g1, g2⟩ := hpl.2.2.1 o d ho hdd
      have g3 : cellAt p o d < n.2.2.2.2.1.length ∧ (bu n (cellAt p o d)).2.1 = o := by
        unfold jA at g1
        rw [qY h3, xQ, qE, qF, qF] at g1
        exact g1
      obtain ⟨_, lo, ⟨m0, m1⟩, _⟩ := PT hu (by omega : 0 ≤ cellAt p o d) g3.1
      have h3' : Sv.nxt p.2.2.1 o d ≠ -1 := h3
      have en : Sv.nxt p.2.2.1 o d = cellAt p o d := rfl
      by_cases h6 : Sv.od n (Sv.nxt p.2.2.1 o d) (Sv.aJ n o t) = 0
      case neg => rw [Sv.kz k h0 h3' h6] at h2; exact absurd h2 h6
      cases k with
      | zero => rw [Sv.iG h0 h3' h6] at h2; cases h2
      | succ k =>
        rw [Sv.iF k h0 h3' h6] at h2 ⊢
        generalize hr : Sv.iR n p.2.2.1 d k (Sv.lT n (Sv.nxt p.2.2.1 o d)) (Sv.lB n (Sv.nxt p.2.2.1 o d) (Sv.aJ n o t) + Sv.cz n (Sv.nxt p.2.2.1 o d)) = r at h2 ⊢
        unfold Sv.Ae at h2 ⊢
        by_cases h7 : r.2 = 0
        case neg => rw [if_neg h7] at h2; exact absurd h2 h7
        rw [if_pos h7]
        unfold fY at h5
        rw [qE, qF] at h5
        obtain ⟨w1, w2⟩ := h5
        have ok : Sv.bO (Sv.aJ n o t) = true := by
          cases hk : Sv.bO (Sv.aJ n o t) with
          | true => rfl
          | false => unfold Sv.od at h6; rw [hk] at h6; cases h6
        have eF : Sv.cF n (Sv.nxt p.2.2.1 o d) = o := g3.2
        have eE : Sv.od n (Sv.nxt p.2.2.1 o d) (Sv.aJ n o t) = Sv.nV (ag n o) (bu n (cellAt p o d)).2.2.2.1 (Sv.aJ n o t) := by
          unfold Sv.od
          rw [if_pos ok, eF]; rfl
        have eD : Sv.lB n (Sv.nxt p.2.2.1 o d) (Sv.aJ n o t) = Sv.gu (ag n o) (bu n (cellAt p o d)).2.2.2.1 (Sv.aJ n o t) := by
          unfold Sv.lB
          rw [if_pos ok, eF]; rfl
        rw [eE] at h6
        have hrd : Sv.aJ n o t ≤ oD n o t' := by
          show t + _ ≤ t' + _
          exact Int.add_le_add_right ht _
        have hdep := Ia m1 h6 w1 (by omega)
        rw [← eD] at hdep
        obtain ⟨s, s1, s2⟩ := PN hu hpl hdd f k _ (Sv.lB n (Sv.nxt p.2.2.1 o d) (Sv.aJ n o t) + Sv.cz n (Sv.nxt p.2.2.1 o d)) _ (tl xs) lo h1 (by
          have e9 : Sv.cz n (Sv.nxt p.2.2.1 o d) = (bu n (cellAt p o d)).2.2.2.2.1 := rfl
          rw [e9]
          exact Int.add_le_add_right hdep _) (by
          have e8 : (bu n (cellAt p o d)).2.2.1 = Sv.lT n (Sv.nxt p.2.2.1 o d) := rfl
          rw [e8, hr]; exact h7)
        have e8 : (bu n (cellAt p o d)).2.2.1 = Sv.lT n (Sv.nxt p.2.2.1 o d) := rfl
        rw [e8, hr] at s1
        refine ⟨s, ?_, s2⟩
        show ([_] ++ r.1).getLast? = _
        rw [List.getLast?_append, s1]; rfl
def UL{w:List Bool}{h:Li}{a b c:Int}(j:a<=b+1)(f:b<=c):fy w h a c=fy w h a b++fy w h (b+1) c:=by
 unfold fy;rw[show(c+1-a).toNat=(b+1-a).toNat+(c+1-(b+1)).toNat by omega,List.range_add,zS,yJ,qBx];congr 2;refine zY λi _=>?_;show a+((_+i:Nat):Int)=_;omega
def Zj{w:List Bool}{h:Li}{a b x:Int}(u:a<=x)(j:x<=b)(f:wkF w h x=true):x∈fy w h a b:=by
 unfold fy;exact yY.2 ⟨vW.2 ⟨(x-a).toNat,wJ.2 Z,Z⟩,f⟩
def add_lt{w:List Bool}{h:Li}{D:Int}(j:wkF w h D=true):∀(k:Nat) {B e:Int},Sv.IM w h k B=some e->e<D->k+1<=(fy w h (B+1) D).length
 |0,B,e,g,f=>by
  cases g;exact List.length_pos_of_mem (Zj Z (qN _) j)
 |k+1,B,e,g,f=>by
  unfold Sv.IM at g;obtain⟨y,z,u⟩:=xJ.1 g;have hm:y∈Sv.dM w h (B+1) 60:=gK (by unfold Sv.jT at z;rw[z];rfl);obtain⟨G,L,A⟩:=Sv.pS hm;have hb:=Sv.Kv k u;have X:=add_lt j k u f;rw[UL (b:=y) Z Z,qG];have:=List.length_pos_of_mem (Zj (a:=B+1) (b:=y) G (qN _) A);omega
def Fo{f:Nat->Li->Option (Li)}:∀(m:Nat) {xs j:Li},runN f m xs=some j->∀i,i<m->∃u v,f i u=some v
 |0,_,_,_,i,hi=>Z|m+1,xs,j,h,i,hi=>by
  rw[runN]at h;obtain⟨A,z,y⟩:=xJ.1 h;rcases wW i m with g|g;exact Fo m z i g;have:i=m:=by omega
  subst this;exact⟨_,_,y⟩
def aA1{n:Net}{l:Li}{k o d u:Int}(hn:Ak n)(hl:Ar l)(h:Acc n l)(hk:OY n k)(ho:iu n o)(hd:iu n d)(G:jy (ah l) k o d≠-1)(hc:u∈jk n (ah l) k o):∃xs,tf n (ah l) k o d u xs=true:=by
 have A:=BO (DL hl h) h.pl h.fit;obtain⟨_,⟨q1,q2⟩,_,q4,q5⟩:=A;have f:=h.run;unfold ye st1 at f;rw[zQ]at f;have ek:((k.toNat:Nat):Int)=k:=wC hk.1;have eo:((o.toNat:Nat):Int)=o:=wC ho.1;have ed:((d.toNat:Nat):Int)=d:=wC hd.1;have hk1:=hk.2;have ho1:=ho.2;have hd1:=hd.2;obtain⟨u1,v1,r1⟩:=Fo _ f k.toNat Z;rw[ek]at r1;have L:=q5 (dK (ah l) k) (aO Z);obtain⟨u2,v2,X⟩:=Fo _ r1 o.toNat Z;rw[eo]at X;have s2:=L.2 (cellsD (ah l) k o) (aO (by have:=L.1;show o.toNat<(dK (ah l) k).length;omega));obtain⟨u3,v3,z⟩:=Fo _ X d.toNat Z;rw[ed]at z;unfold xq at z;rw[if_neg G]at z;obtain⟨j,hj,ej⟩:=yG.1 hc;obtain⟨u4,v4,y⟩:=Fo _ z j hj;unfold uU at y;rw[qA,qB hj,vJ,ej]at y;split at y;exact⟨_,by assumption⟩;cases y
def D9{n:Net}{l:Li}{k o d A:Int}{x1:ByteArray}(hn:Ak n)(hl:Ar l)(h:Acc n l)(G:Sv.UJ n k o A=0)(h0:1440*(ah l).1<=Sv.PG n k o A)(h1:Sv.PG n k o A<1440*(ah l).2.1)
  (hw:Sv.DU n (ah l).2.2.1 o d A=0) (j:Sv.DV n (ah l).2.2.2 (x1,o,d,k,A)=0) {s:Sv.Stop} (hs:(Sv.rL n (ah l).2.2.1 o d A).getLast?=some s) (z:Sv.Ky n k d s.2.1=0):
  Sv.Ye n k d s.2.1<=Sv.PE n (ah l).2.2.2 (x1,o,d,k,A):=by
 have hpl:=BO (DL hl h) h.pl h.fit;have hu:usP n:=⟨h.us,hn⟩;have ha:Sv.oV n k o A=true:=by
  cases e:Sv.oV n k o A with
  |true=>rfl|false=>unfold Sv.UJ at G;rw[e]at G;cases G
 have ha2:Sv.oV n k d s.2.1=true:=by
  cases e:Sv.oV n k d s.2.1 with
  |true=>rfl|false=>unfold Sv.Ky at z;rw[e]at z;cases z
 have hCE:Sv.nV (ag n o) (bz n k).2.1 A=0:=by unfold Sv.UJ at G;rw[if_pos ha]at G;exact G
 have hCD:Sv.PG n k o A=Sv.gu (ag n o) (bz n k).2.1 A:=if_pos ha;have hLE:Sv.nV (ag n d) (bz n k).2.2 (oD n d s.2.1)=0:=by unfold Sv.Ky at z;rw[if_pos ha2]at z;exact z
 have hLD:Sv.Ye n k d s.2.1=Sv.gu (ag n d) (bz n k).2.2 (oD n d s.2.1):=if_pos ha2;unfold Sv.oV at ha ha2;simp only[qE]at ha ha2;have ik:OY n k:=Sv.cE.1 ha.1.1.1;have io:iu n o:=Sv.cE.1 ha.1.1.2;have id':iu n d:=Sv.cE.1 ha2.1.1.2;have hA:0<=A/\A<=2000000:=Sv.BA.1 ha.1.2;have hcl:=PU hu ik;obtain⟨⟨z1,z2⟩,hw7,hsr⟩:=ko (zg hu io);obtain⟨f,u⟩:∃f,f=Sv.PG n k o A:=⟨_,rfl⟩;rw[<- u]at h0 h1;have eN:f=oJ (ag n o).1 (Sv.fS (ag n o).2.1 (ag n o).2.2 (Sv.d0F (ag n o) (bz n k).2.1 A)) (bz n k).2.1:=by
  rw[u,hCD];exact if_pos hCE
 obtain⟨_,_,n3⟩:=Sv.mo (w:=(ag n o).2.1) (h:=(ag n o).2.2) (d:=Sv.d0F (ag n o) (bz n k).2.1 A) hCE;generalize Sv.fS (ag n o).2.1 (ag n o).2.2 (Sv.d0F (ag n o) (bz n k).2.1 A)=D0 at eN n3;have hD0:(ah l).1-1<=D0/\D0<=(ah l).2.1+1:=by
  unfold oJ at eN;omega
 have hin:f∈jk n (ah l) k o:=by
  unfold jk;refine yY.2 ⟨vW.2 ⟨D0,?_,?_⟩,?_⟩;unfold Na;exact Zj hD0.1 hD0.2 n3;rw[eN];rfl;unfold tA;rw[qR h0,qR h1];rfl
 have hAc:A<=f:=by
  have:=Sv.w8 (c:=ag n o) (m:=(bz n k).2.1) (t:=A) (by have:=zg hu io;exact this) hCE hcl.1.1 hcl.1.2;rw[u,hCD];exact this.1
 have hdo:Sv.J4 n (ah l).2.2.2 (x1,o,d,k,A)=true:=by
  cases e:Sv.J4 n (ah l).2.2.2 (x1,o,d,k,A)with
  |true=>rfl|false=>unfold Sv.DV at j;rw[e]at j;cases j
 have hdC:Sv.CZ n (x1,o,d,k,A)=0:=hCE;have hdD:Sv.aBm n (x1,o,d,k,A)=f:=by rw[u,hCD];rfl
 have hnum:¬Sv.OL (ah l).2.2.2 (x1,o,d,k,A)<0:=λg=>by
  unfold Sv.DV at j;rw[if_pos hdo,if_pos hdC,if_pos g]at j;cases j
 have eNum:Sv.OL (ah l).2.2.2 (x1,o,d,k,A)=jy (ah l) k o d:=rfl;have hAE:Sv.UH (ag n d).2.1 (ag n d).2.2 (Pg n d f) (jy (ah l) k o d)=0:=by
  have hx:=j;unfold Sv.DV at hx;rw[if_pos hdo,if_pos hdC,if_neg hnum]at hx;unfold Sv.J5 Sv.Tq at hx;rw[hdD]at hx;exact hx
 have hDD:Sv.PE n (ah l).2.2.2 (x1,o,d,k,A)=oJ (ag n d).1 (Sv.Um (ag n d).2.1 (ag n d).2.2 (Pg n d f) (jy (ah l) k o d)) (bz n k).2.2:=by
  unfold Sv.PE;rw[if_pos j];unfold Sv.Tn Sv.Tq;rw[hdD];rfl
 rw[eNum]at hnum;obtain⟨xs,X⟩:=aA1 hn hl h ik io id' Z hin;unfold tf at X;simp only[qE,qF]at X;obtain⟨pf,pd,pb,pn⟩:=X;have hwo:Sv.kA n (ah l).2.2.1 o d A=true:=by
  cases e:Sv.kA n (ah l).2.2.1 o d A with
  |true=>rfl|false=>unfold Sv.DU at hw;rw[e]at hw;cases hw
 have hwE:(Sv.iR n (ah l).2.2.1 d 19 o A).2=0:=by unfold Sv.DU at hw;rw[if_pos hwo]at hw;exact hw
 have hwL:Sv.rL n (ah l).2.2.1 o d A=(Sv.iR n (ah l).2.2.1 d 19 o A).1:=if_pos hwo;obtain⟨s',s1,s2⟩:=PN hu hpl id' 19 19 o A f xs io pf hAc hwE;rw[hwL,s1]at hs;cases hs;have hT:s.2.1<=sN n (ah l) o d f xs:=s2;obtain⟨L,hL⟩:∃L,L=Ha n (ah l) k o d f xs:=⟨_,rfl⟩;have hLm:L∈fy (ag n d).2.1 (ag n d).2.2 (Pe (ag n d) (bz n k).2.2 (oD n d (sN n (ah l) o d f xs))) (Pe (ag n d) (bz n k).2.2 (oD n d (sN n (ah l) o d f xs))+59):=by
  unfold nI at pd;rw[hL];unfold Ha OO;cases e:YR (ag n d) (bz n k).2.2 (oD n d (sN n (ah l) o d f xs))with
  |none=>rw[e]at pd;cases pd
  |some y=>
   unfold YR at e;exact gK e
 obtain⟨L1,_,L3⟩:=PK hLm;have hmom:oD n d s.2.1<=oJ (ag n d).1 L (bz n k).2.2:=by
  have g1:oD n d s.2.1<=oD n d (sN n (ah l) o d f xs):=Int.add_le_add_right hT _;generalize oD n d (sN n (ah l) o d f xs)=R at L1 g1;unfold Pe bg dr at L1;unfold oJ;split at L1<;>omega
 have hdel:=Ia hcl.2.2 hLE L3 hmom;rw[hLD,hDD];refine Int.le_trans hdel ?_;have hle:L<=Sv.Um (ag n d).2.1 (ag n d).2.2 (Pg n d f) (jy (ah l) k o d):=by
  unfold Sv.UH at hAE;unfold Sv.Um;split at hAE;case isFalse=>omega
  rename_i h200;rw[if_pos h200];cases e:Sv.IM (ag n d).2.1 (ag n d).2.2 (jy (ah l) k o d).toNat (Pg n d f)with
  |none=>rw[e]at hAE;simp at hAE|some y=>
   show L<=y;rcases qCz y L with g|g;have:=add_lt L3 _ e g;unfold RD at pn;rw[<- hL]at pn;omega;exact g
 unfold oJ;omega
end Go.Eng.In
namespace Go.Eng.Sv
open Go.Proofs
abbrev Df:Ty:=.pair I (.pair I (.pair S (.pair I (.pair I (.pair I (.pair I (.pair S (.pair S I))))))))
abbrev jm:=Int×Int×ByteArray×Int×Int×Int×Int×ByteArray×ByteArray×Int
def nst(d:jm):bZ:=(d.1,d.2.1,(d.2.2.1,d.2.2.2.1,d.2.2.2.2.1,d.2.2.2.2.2.1,d.2.2.2.2.2.2.1),d.2.2.2.2.2.2.2.1,d.2.2.2.2.2.2.2.2.1,d.2.2.2.2.2.2.2.2.2)
def lP(ds:List jm):List bZ:=ds.map nst
def dfF:jm:=(0,0,⟨#[]⟩,0,0,0,0,⟨#[]⟩,⟨#[]⟩,0)
def Je(n:Net)(nx:Lj)(ds:List bZ):List Trk:=Top.zv n nx ds
def aCe(n:Net)(nx:Lj)(ds:List bZ):Int:=Top.VM n nx ds
abbrev aCd(n:Net)(nx:Lj)(ds:List bZ):Prop:=aZ n=true/\nP n nx=true/\fk n ds=true
def zCs:List (Int×List Bool×Li):=[(0,[true,true,true,true,true,false,false],[])]
def zNs:List ByteArray:=[⟨#[99]⟩]
def zOs:List ByteArray:=[⟨#[112]⟩,⟨#[113]⟩]
def zFs:Lo:=[(⟨#[97]⟩,0,0,2,1,10,[]),(⟨#[98]⟩,1,0,2,1,10,[])]
def zLs:Ll:=[(⟨#[108]⟩,0,1,480,120,1),(⟨#[109]⟩,1,0,600,60,1)]
def zKs:Lk:=[(⟨#[107]⟩,1020,720)]
def S7(n:Net)(nx:Lj)(ds:List jm):Bool:=Ig n nx (lP ds)&&aZ n&&aCg n nx&&fk n (lP ds)
def Xt(nx:Lj)(ds:List jm):Prop:=jb nx/\nH (lP ds)
def mB(n:Net)(p:Plan)(x:Post):Bool:=decide (UJ n x.2.2.2.1 x.2.1 x.2.2.2.2=0)&&decide (DV n p.2.2.2 x=0)&&decide (DU n p.2.2.1 x.2.1 x.2.2.1 x.2.2.2.2=0)&&!(decide ((rL n p.2.2.1 x.2.1 x.2.2.1 x.2.2.2.2).length=0))&&!(decide (PG n x.2.2.2.1 x.2.1 x.2.2.2.2<1440*p.1))&&!(decide (1440*p.2.1<=PG n x.2.2.2.1 x.2.1 x.2.2.2.2))
def Ci(n:Net)(p:Plan)(x:Post):Bool:=decide (Ky n x.2.2.2.1 x.2.2.1 (iZ (rL n p.2.2.1 x.2.1 x.2.2.1 x.2.2.2.2)).2.1=0)
def tj(n:Net)(p:Plan)(t:Trk):Bool:=!(mB n p t.1)||!(Ci n p t.1)||(I0 n t&&decide (dvD n t<=PE n p.2.2.2 t.1))
def Si(p:Plan)(t:Trk):Prop:=(0<=p.1/\p.1<=1000000/\0<=p.2.1/\p.2.1<=1000000)/\jb p.2.2.1/\fitsT p.2.2.2/\dvP t.2.1 t.2.2.2.2.1
abbrev Hg:=aA [] (λ_=>True) λ_=>.agg [.dat (.sl C) zCs,.dat (.sl S) zNs,.dat (.sl S) zOs,.dat (.sl Of) zFs,.dat (.sl Ln) zLs,.dat (.sl Kl) zKs]
def KY1:Kt:=kOr 20 Hg <|
 kOr 7 (aA [.val R] (λ(l,_)=>Go.Eng.In.aBk l) λ(l,_)=>.dat I (Go.Eng.In.fR l)) <|
 kOr 8 (aA [.row N,.row Go.Eng.In.Ce] (λ_=>True) λ(n,c,_)=>.dat .bool (Go.Eng.In.sO n c.1)) <|
 kOr 10 (aA [.row N,.row Go.Eng.In.Ce] (λ(n,c,_)=>Go.Eng.In.Ar c.1/\Go.Eng.In.Ak n) λ(n,c,_)=>.dat I (Go.Eng.In.iP n c.1 c.2)) <|
 kOr 11 (aA [.row Go.Eng.In.Ce] (λ(c,_)=>Go.Eng.In.Ar c.1) λ(c,_)=>.tup [.agg [.dat I (Go.Eng.In.pK c).1,.dat I (Go.Eng.In.pK c).2.1,.dat M (Go.Eng.In.pK c).2.2.1,.dat (.sl M) (Go.Eng.In.pK c).2.2.2],.dat I (Go.Eng.In.Gx c)]) <|
 kOr 13 (aA [.row N,.row Pl,.val (.sl Df)] (λ(n,p,f,_)=>aCd n p.2.2.1 (lP f)) λ(n,p,f,_)=>.tup [.dat (.sl Tk) (Je n p.2.2.1 (lP f)),.dat I (aCe n p.2.2.1 (lP f))]) <|
 kOr 22 Ht <|
 kOr 17 (aA [.row N,.row Pl,.val (.sl Df)] (λ_=>True) λ(n,p,f,_)=>.dat .bool (Ig n p.2.2.1 (lP f))) <|
 kOr 35 AE <|
 kOr 36 (aA [.row N,.val (.sl Df)] (λ(_,f,_)=>nH (lP f)) λ(n,f,_)=>.dat .bool (fk n (lP f))) <|
 kOr 42 MN <|
 kOr 21 ML <|
 kOr 15 Hh KX2
def aBI:eO 20 Hg:=af λ_=>by
 refine zE (A:=aG) (p:=let f:=((0:Int),(2:Int),(1:Int),(10:Int),Du ByteArray);(True->L4 1 0 1 1 0 1 1 0 1 (z8 1 0 1 0 1 0 1 0 ([((0:Int),[true,true,true,true,true,false,false],Du Int)]=zCs/\[ByteArray.mk #[(99:UInt8)]]=zNs/\[ByteArray.mk #[(112:UInt8)],ByteArray.mk #[(113:UInt8)]]=zOs/\[(ByteArray.mk #[(97:UInt8)],(0:Int),f),(ByteArray.mk #[(98:UInt8)],(1:Int),f)]=zFs/\[(ByteArray.mk #[(108:UInt8)],(0:Int),(1:Int),(480:Int),(120:Int),(1:Int)),(ByteArray.mk #[(109:UInt8)],(1:Int),(0:Int),(600:Int),(60:Int),(1:Int))]=zLs/\[(ByteArray.mk #[(107:UInt8)],(1020:Int),(720:Int))]=zKs/\True)))) aBp λ_=>?_;refine Z9 ?_;exact⟨rfl,rfl,rfl,rfl,rfl,rfl⟩
def Rq{w:World}{D:Nat->Prop}{ds:List jm}{us:Lv}(h:ae w D (.sl Df) ds us):ae w D (.sl De) (lP ds) us:=by
 obtain⟨ao,f,rfl,h1,h2,h3,h4⟩:=h;have z:(lP ds).length=ds.length:=vX _;refine⟨ao,f,by show _=[Value.slice ao (lP ds).length f];rw[z],by show(lP ds).length<=f;rw[z];exact h1,h2,λa e h=>h3 a e (by have h:0<(lP ds).length:=h;rw[z]at h;exact h),λi y u=>?_⟩;have u:(ds.map nst)[i]?=some y:=u;rw[qQ]at u;obtain⟨d,hd,rfl⟩:=gB.1 u;obtain⟨a,ue,e1,e2,e3,e4⟩:=h4 i d hd;refine⟨a,ue,e1,e2,e3,?_⟩;obtain⟨u1,_,rfl,g1,u2,_,rfl,g2,u3,_,rfl,g3,u4,_,rfl,g4,u5,_,rfl,g5,u6,_,rfl,g6,X,_,rfl,g7,L,_,rfl,g8,G,j,rfl,g9,A⟩:=e4;refine⟨u1,_,rfl,g1,u2,_,rfl,g2,u3++(u4++(u5++(u6++X))),L++(G++j),by simp,⟨u3,_,rfl,g3,u4,_,rfl,g4,u5,_,rfl,g5,u6,X,rfl,g6,g7⟩,L,_,rfl,g8,G,j,rfl,g9,A⟩
def Rt{C:Ctx}{a b:AV}{ds:List jm}{us:Lv}(h:AV.relL Tryz.prog C [a,b,.dat (.sl Df) ds] us):AV.relL Tryz.prog C [a,b,.dat (.sl De) (lP ds)] us:=by
 obtain⟨u,_,rfl,G,j,_,rfl,A,f,_,rfl,z,y⟩:=h;exact⟨u,_,rfl,G,j,_,rfl,A,f,_,rfl,Rq z,y⟩
def Ws{C:Ctx}{a:AV}{ds:List jm}{us:Lv}(h:AV.relL Tryz.prog C [a,.dat (.sl Df) ds] us):AV.relL Tryz.prog C [a,.dat (.sl De) (lP ds)] us:=by
 obtain⟨j,_,rfl,z,f,_,rfl,y,u⟩:=h;exact⟨j,_,rfl,z,f,_,rfl,Rq y,u⟩
def aD0:ay Tryz.prog G0 KY1:=ai aBI<|ai (af λ(l,_)=>OG (Go.Eng.In.P7 l))<|ai (af λ((A,j,f,z,u,y),c,_)=>OG (Go.Eng.In.Ve c.2 c.1 A j f z u y))<|ai (af λ((A,j,f,z,u,y),c,_)=>OG (Go.Eng.In.ZP c.2 c.1 A j f z u y))<|ai (af λ(c,_)=>OG (Go.Eng.In.aBY c.2 c.1))<|ai (af λ((A,j,f,z,u,y),(p1,p2,nx,L),G,_)=>(Top.aEi p1 p2 nx L (lP G) A j f z u y).args λ_ _ _ h=>Rt h)<|ai aBT<|ai (af λ((A,j,f,z,u,y),(p1,p2,nx,L),G,_)=>(ZL (lP G) p1 p2 nx L A j f z u y).args λ_ _ _ h=>Rt h)<|ai Zy<|ai (af λ((A,j,f,z,u,y),G,_)=>(ZN (lP G) A j f z u y).args λ_ _ _ h=>Ws h)<|ai t_Cut<|ai aER<|ai aBK aBp
def Xv{n:Net}{nx:Lj}(h:Go.Eng.In.smF n nx=true):nY n=true:=by
 unfold Go.Eng.In.smF at h;simp only[qE]at h;have f:=Go.Eng.In.fP.1 h.1.1;unfold nY;rw[qE];exact⟨f.1,f.2.2.1⟩
def Yf{n:Net}{nx:Lj}{tz:Int}:∀(k:Nat) (o t:Int),(iR n nx tz k o t).1.length<=k+1
 |k,o,t=>by
  by_cases f:o=tz;rw[nK k f];simp;by_cases h:nxt nx o tz=-1;rw[gX k f h];simp;by_cases j:od n (nxt nx o tz) (aJ n o t)=0;case neg=>rw[kz k f h j];simp
  cases k with
  |zero=>rw[iG f h j];simp|succ k=>
   rw[iF k f h j];have u:=Yf (n:=n) (nx:=nx) (tz:=tz) k (lT n (nxt nx o tz)) (lB n (nxt nx o tz) (aJ n o t)+cz n (nxt nx o tz));unfold Ae;split;rw[qG,vC];omega;exact wK _
def Yg{n:Net}{nx:Lj}{o tz t:Int}:(rL n nx o tz t).length<=20:=by
 unfold rL;split;exact Yf 19 _ _;exact wK _
def aBS(ds:List jm)(p1 p2:Int)(nx:Lj)(dy:List (Lj))(L:LC)(u j:LB)(G:Lo)(y:Ll)(z:Lk):aj Tryz.prog G0 12 [net L u j G y z,.agg [.dat I p1,.dat I p2,.dat M nx,.dat (.sl M) dy],.dat (.sl Df) ds] [] ⟨Xt nx ds,.dat .bool (S7 (L,u,j,G,y,z) nx ds),[]⟩:=by
 refine zE (A:=aG) (p:=let f:=(L,u,j,G,y,z);let c2:=Ig f nx (lP ds);let c3:=Dy c2 (aZ f) false;let X:=Dy c3 (aCg f nx) false;(Xt nx ds->True/\L5 c2 ((c2->nY f)/\(Dh true c2->c2)/\Q2 c3 ((c3->nY f/\jb nx)/\(Dh true c3->c3)/\Q2 X ((X->nH (lP ds))/\(Dh true X->X)/\Dy X (fk f (lP ds)) false=S7 f nx ds/\True))))) aD0 λhp=>?_;refine Z9 ?_;have hk:Ig (L,u,j,G,y,z) nx (lP ds)=true->nY (L,u,j,G,y,z)=true:=λh=>by
  unfold Ig at h;rw[qE]at h;exact Xv h.1
 exact⟨hk,λh=>⟨hk h.1,hp.1⟩,λ_=>hp.2,rfl⟩
def aBP(f:Post)(st:List Stop)(lo:Bool)(si:Li)(la se:List ByteArray)(p1 p2:Int)(nx:Lj)(X:List (Lj))(L:LC)(u j:LB)(G:Lo)(y:Ll)(z:Lk):aj Tryz.prog G0 14 [net L u j G y z,.agg [.dat I p1,.dat I p2,.dat M nx,.dat (.sl M) X],.agg [.dat .str f.1,.dat I f.2.1,.dat I f.2.2.1,.dat I f.2.2.2.1,.dat I f.2.2.2.2,.dat (.sl Stp) st,.dat .bool lo,.dat R si,.dat (.sl S) la,.dat (.sl S) se]] [] ⟨Si (p1,p2,nx,X) (f,st,lo,si,la,se),.dat .bool (tj (L,u,j,G,y,z) (p1,p2,nx,X) (f,st,lo,si,la,se)),[]⟩:=by
 refine zE (A:=aG) (p:=let h:=f.2;let c5:=h.2.2;let c1:=(p1,p2,nx,X);let c2:=(st,lo,si,la,se);let c3:=(f,c2);let c4:=(L,u,j,G,y,z);let c11:=Ea (UJ c4 c5.1 h.1 c5.2) 0;let A:=Dj c11;let c15:=Dy c11 true (Ea (DV c4 X f) 0);let c16:=Dj c15;let c17:=Dy c15 true (Ea (DU c4 nx h.1 h.2.1 c5.2) 0);let c18:=Dj c17;let c19:=rL c4 nx h.1 h.2.1 c5.2;let c20:=Di c19;let c21:=Dy c17 true (Ed c20 0);let c22:=Dj c21;let c23:=1440*p1;let c24:=PG c4 c5.1 h.1 c5.2;let c25:=Dy c21 true (Dn c24 c23);let c26:=Dj c25;let c27:=1440*p2;let c28:=Dy c25 true (Eb c24 c27);let c29:=tj c4 c1 c3;let c30:=c20-1;let c31:=Ea (Ky c4 c5.1 h.2.1 (Dw c19 (Dc c30) ((0:Int),(0:Int),(0:Int),(0:Int))).2.1) 0;let c32:=(f,c2);let c33:=I0 c4 c32;(Si c1 c3->L4 1 0 1 1 0 1 1 0 1 (L7 1 0 (True/\L7 1 0 (fitsT X/\L4 1 1 0 1 1 0 1 1 0 (jb nx/\L5 A ((Dh true A->A)/\L5 c16 ((Dh true c16->c16)/\Q2 c18 ((Dh true c18->c18)/\Q2 c22 ((c22->inR .i64 c23)/\Q2 c22 ((Dh true c22->c22)/\Q2 c26 ((c26->inR .i64 c27)/\Q2 c26 ((Dh true c26->c26)/\(c28->true=c29/\True)/\(c28=false->w6 1 1 0 1 1 0 (inR .i64 c30/\0<=c30/\c30<c20/\True/\(c31->true=c29/\True)/\(c31=false->dvP st la/\Q2 c33 ((Dh true c33->c33)/\Dy c33 (Ef (dvD c4 c32) (PE c4 X f)) false=c29/\True))))))))))))))))) aD0 λhp=>?_;refine Z9 ?_;obtain⟨⟨a0,a1,a2,a3⟩,hm',ht,hd⟩:=hp;simp only at a0 a1 a2 a3;have hwl:(rL (L,u,j,G,y,z) nx f.2.1 f.2.2.1 f.2.2.2.2).length<=20:=Yg;refine⟨ht,hm',λ_=>?_,λ_=>?_,λh=>?_,λ⟨⟨⟨⟨⟨g1,g2⟩,g3⟩,g4⟩,g5⟩,g6⟩=>?_⟩;unfold inR;simp only;omega
 unfold inR;simp only;omega;symm;unfold tj;rw[yM,yM];refine .inl (.inl ?_);unfold mB;simp only[zB,Bool.and_eq_false_imp,qE,qF,wG,kD,and_imp];intro b1 b2 b3 b4 b5;rcases h with((((h|h)|h)|h)|h)|h;exact absurd b1 h;exact absurd b2 h;exact absurd b3 h;omega;omega;exact h;have el:iZ (rL (L,u,j,G,y,z) nx f.2.1 f.2.2.1 f.2.2.2.2)=(rL (L,u,j,G,y,z) nx f.2.1 f.2.2.1 f.2.2.2.2).getD (((rL (L,u,j,G,y,z) nx f.2.1 f.2.2.1 f.2.2.2.2).length:Int)-1).toNat (0,0,0,0):=by
  unfold iZ;rw[show((rL (L,u,j,G,y,z) nx f.2.1 f.2.2.1 f.2.2.2.2).length:Int)-1=(((rL (L,u,j,G,y,z) nx f.2.1 f.2.2.1 f.2.2.2.2).length-1:Nat):Int) by omega];rfl
 refine⟨by unfold inR;simp only;omega,Z,Z,λhD=>?_,λhD=>⟨hd,?_⟩⟩;have e:Ci (L,u,j,G,y,z) (p1,p2,nx,X) (f.1,f.2.1,f.2.2.1,f.2.2.2.1,f.2.2.2.2)=false:=by
  unfold Ci;show decide (Ky (L,u,j,G,y,z) f.2.2.2.1 f.2.2.1 (iZ (rL (L,u,j,G,y,z) nx f.2.1 f.2.2.1 f.2.2.2.2)).2.1=0)=false;rw[el];exact qY hD
 unfold tj;rw[e];simp;have e1:mB (L,u,j,G,y,z) (p1,p2,nx,X) (f.1,f.2.1,f.2.2.1,f.2.2.2.1,f.2.2.2.2)=true:=by
  unfold mB;simp only[qE,qF,zB,wG];exact⟨⟨⟨⟨⟨g1,g2⟩,g3⟩,Z⟩,g5⟩,g6⟩
 have e2:Ci (L,u,j,G,y,z) (p1,p2,nx,X) (f.1,f.2.1,f.2.2.1,f.2.2.2.1,f.2.2.2.2)=true:=by
  unfold Ci;show decide (Ky (L,u,j,G,y,z) f.2.2.2.1 f.2.2.1 (iZ (rL (L,u,j,G,y,z) nx f.2.1 f.2.2.1 f.2.2.2.2)).2.1=0)=true;rw[el];exact qR hD
 unfold tj;show _=(!(mB (L,u,j,G,y,z) (p1,p2,nx,X) (f.1,f.2.1,f.2.2.1,f.2.2.2.1,f.2.2.2.2))||!(Ci (L,u,j,G,y,z) (p1,p2,nx,X) (f.1,f.2.1,f.2.2.1,f.2.2.2.1,f.2.2.2.2))||_);rw[e1,e2];rfl
end Go.Eng.Sv
