/- Sv1p -/
import Derived.Test.YtecnnbcfgijddaaGreatDoorETBrkE
import Derived.Test.YtecnnbcfgijddaaGreatDoorETBrkW
import Derived.Test.YtecnnbcfgijddaaGreatDoorChecked
set_option linter.unusedSimpArgs false
set_option linter.unusedVariables false
set_option maxRecDepth 100000
noncomputable section
namespace Go.Eng.Sv
open Go.Proofs
abbrev I:Ty:=.int .i64
abbrev U:Ty:=.int .u8
abbrev B:Ty:=.sl .bool
abbrev R:Ty:=.sl I
abbrev LC:Type:=List (Int×List Bool×Li)
abbrev LB:Type:=List ByteArray
abbrev C:Ty:=.pair I (.pair B R)
abbrev S:Ty:=.str
abbrev cal(z:Int)(w:List Bool)(h:Li):AV:=.agg [.dat I z,.dat B w,.dat R h]
def kw:List ByteArray:=[⟨#[99,97,108,101,110,100,97,114]⟩,⟨#[111,112,101,114,97,116,111,114]⟩,⟨#[111,102,102,105,99,101]⟩,⟨#[108,105,110,101]⟩,⟨#[99,108,97,115,115]⟩,⟨#[122,111,110,101]⟩,⟨#[119,101,101,107]⟩,⟨#[104,111,108,105,100,97,121]⟩,⟨#[112,111,99,107,101,116,115]⟩,⟨#[112,97,115,115,101,115]⟩,⟨#[109,105,110,117,116,101,115]⟩,⟨#[99,111,100,101,115]⟩,⟨#[97,116]⟩,⟨#[116,114,97,118,101,108]⟩,⟨#[108,111,97,100]⟩,⟨#[99,117,116]⟩,⟨#[100,101,108,105,118,101,114]⟩]
def jr(b:Int):Bool:=decide (97<=b/\b<=122)
def fQ(b:Int):Bool:=decide (48<=b/\b<=57)
def cQ(v a b:Int):Bool:=decide (a<=v/\v<=b)
def nameB(b:Int):Bool:=jr b||fQ b||decide (b=95)
def xm(b:Int):Bool:=fQ b||decide (65<=b/\b<=90)
def isKey(s:ByteArray):Bool:=kw.any λw=>w.toList==s.toList
def bJ(s:ByteArray):Bool:=decide (1<=s.size/\s.size<=16)&&jr ((s.data.getD 0 0).toNat:Int)&&(s.data.toList.all λb=>nameB (b.toNat:Int))&&!isKey s
def cL(s:ByteArray):Bool:=decide (1<=s.size/\s.size<=8)&&s.data.toList.all λb=>xm (b.toNat:Int)
def jU(s:ByteArray)(k:Int):Prop:=0<=k/\k<=s.size/\(s.data.toList.take k.toNat).all (λb=>nameB (b.toNat:Int))=true
def kj(s:ByteArray)(k:Int):Prop:=0<=k/\k<=s.size/\(s.data.toList.take k.toNat).all (λb=>xm (b.toNat:Int))=true
def ru(s:ByteArray)(k:Int):Prop:=0<=k/\k<=17/\(kw.take k.toNat).any (λw=>w.toList==s.toList)=false
def aW(z:Int)(w:List Bool)(h:Li):Bool:=decide (-720<=z/\z<=840/\w.length=7/\h.length<=40)&&(List.range (h.length-1)).all λi=>decide (h.getD i 0<h.getD (i+1) 0)
def nQ(w:List Bool)(h:Li):Bool:=decide (w.length<=20)&&decide (h.length<=60)
def tt(h:Li)(k:Int):Prop:=1<=k/\(k<=h.length\/k=1)/\h.length<=40/\∀i:Nat,(i:Int)+1<k->h.getD i 0<h.getD (i+1) 0
def bI(k:Int):Int:=if k=3 then 12 else if k=4 then 40 else if k=5 then 4 else 6
def yg(s:ByteArray):Prop:=s.size<=9223372036854775807
def p10:Li:=(List.range 20).map λi=>((10 ^ i:Nat):Int)
def K0:Kt:=λf args m=>none
def G0:List (Nat×AV):=[(0,.ia S kw),(1,.ia (.int .u64) p10)]
def KI0:FuncId->List AV->Option iD:=λ_ _=>none
noncomputable def mkc(K:Kt):Cfg:=⟨Tryz.prog,G0,K,λ_=>false,KI0,false,λ_ _ _=>none,λ_=>false⟩
def Yi(h:Li):Ann:=Z8 4 Int (tt h) (λs k=>put s [(3,.dat I k)]) λk=>Dc (Dk (Di h) k)
def K1:Kt:=λf args m=>match f,args,m with|127,[.agg [.dat (.int .i64) z,.dat (.sl .bool) w,.dat (.sl (.int .i64)) h]],[]=>some ⟨True,.dat .bool (aW z w h),[]⟩|254,[.agg [.dat (.int .i64) z,.dat (.sl .bool) w,.dat (.sl (.int .i64)) h]],[]=>some ⟨True,.dat .bool (aW z w h),[]⟩|149,[.agg [.dat (.int .i64) z,.dat (.sl .bool) w,.dat (.sl (.int .i64)) h]],[]=>some ⟨True,.dat .bool (nQ w h),[]⟩|250,[.dat (.int .u8) b],[]=>some ⟨True,.dat .bool (jr b),[]⟩|251,[.dat (.int .u8) b],[]=>some ⟨True,.dat .bool (fQ b),[]⟩|253,[.dat (.int .u8) b],[]=>some ⟨True,.dat .bool (fQ b),[]⟩|208,[.dat (.int .i64) v,.dat (.int .i64) a,.dat (.int .i64) b],[]=>some ⟨True,.dat .bool (cQ v a b),[]⟩|257,[.dat (.int .i64) v,.dat (.int .i64) a,.dat (.int .i64) b],[]=>some ⟨True,.dat .bool (cQ v a b),[]⟩|151,[.dat (.int .i64) k],[]=>some ⟨True,.dat I (bI k),[]⟩|282,[],[]=>some ⟨True,.dat (.sl S) kw,[]⟩|_,_,_=>none
def aAj(s:ByteArray):Ann:=⟨λf st=>match f with
 |4=>some {α:=Int,inv:=λk=>jU s k,st:=λk=>put st [(24,.dat I k)],μ:=λk=>Dc (Dk (Ei s) k)}|10=>some {α:=Int,inv:=λk=>ru s k,st:=λk=>put st [(42,.dat I k)],μ:=λk=>Dc (Dk 17 k)}|_=>none,λ_ _=>none,λ_ _=>none⟩
def aAl(s:ByteArray):Ann:=Z8 4 Int (kj s) (λf k=>put f [(16,.dat I k)]) λk=>Dc (Dk (Ei s) k)
def aGu(s:ByteArray):Ann:=Z8 3 Int (ru s) (λf k=>put f [(4,.dat I k)]) λk=>Dc (Dk 17 k)
def aCl(s:ByteArray):Ann:=Z8 4 Int (jU s) (λf k=>put f [(3,.dat I k)]) λk=>Dc (Dk (Ei s) k)
def aCo(s:ByteArray):Ann:=Z8 4 Int (kj s) (λf k=>put f [(3,.dat I k)]) λk=>Dc (Dk (Ei s) k)
def K2:Kt:=λf args m=>match f,args,m with|147,[.dat (.int .i64) v],[]=>some ⟨True,.dat .bool (cQ v 0 1439),[]⟩|196,[.dat .str s],[]=>some ⟨True,.dat .bool (bJ s),[]⟩|207,[.dat .str s],[]=>some ⟨True,.dat .bool (cL s),[]⟩|252,[.dat .str s],[]=>some ⟨True,.dat .bool (isKey s),[]⟩|_,_,_=>K1 f args m
theorem xn(x y:Bool):Dy x true y=(x||y):=by cases x<;>rfl
theorem lC(x y:Bool):Dy x y false=(x&&y):=by cases x<;>rfl
theorem hm:Tryz.prog.follows .mixedOrders=true:=by kernel_rfl
theorem KS0:ay Tryz.prog G0 K0:=λf args m c h=>by cases h
theorem tC:aR Tryz.prog G0 KI0:=λf args c h=>by cases h
theorem zE{K:Kt}{A:Ann}{f:FuncId}{args:List AV}{m:Mem}{r:lI}{p:Prop}(j:ay Tryz.prog G0 K)(h:p)(e:evF (mkc K) A f args m r=(true=true/\p):=by kernel_rfl):aj Tryz.prog G0 f args m r:=oy (c:=mkc K) j tC hm (by rw[e];exact⟨rfl,h⟩)
abbrev eO:=EO Tryz.prog G0
def Un(z:Int)(w:List Bool)(h:Li):Prop:=(-720<=z/\z<=840/\w.length=7/\h.length<=40)/\∀i:Nat,i+1<h.length->h.getD i 0<h.getD (i+1) 0
theorem ez{z:Int}{w:List Bool}{h:Li}:aW z w h=true↔Un z w h:=by
 unfold aW Un;rw[qE,qF,qW];refine and_congr_right λ_=>⟨λg i f=>?_,λg i f=>?_⟩;have:=g i (wJ.2 Z);simpa using this;have:=wJ.1 f;simpa using g i Z
theorem qS{z:Int}{w:List Bool}{h:Li}(j:¬Un z w h):false=aW z w h:=by
 cases f:aW z w h with
 |false=>rfl|true=>exact(j (ez.1 f)).elim
theorem HQ{h:Li}(f:¬(h.length:Int)>40):tt h 1:=⟨qN _,.inr rfl,Z,λi j=>Z⟩
theorem AZ{h:Li}{x:Int}(f:tt h x)(u:x<h.length)(j:h.getD (x-1).toNat 0<h.getD x.toNat 0):tt h (x+1):=by
 obtain⟨g1,X,z,y⟩:=f;refine⟨Z,Z,z,λi L=>?_⟩;by_cases e:(i:Int)+1<x;exact y i e;have G:(x-1).toNat=i:=by omega
 have A:x.toNat=i+1:=Z;rwa [G,A]at j
theorem HS{z:Int}{w:List Bool}{h:Li}{x:Int}(f:tt h x)(u:x<h.length)(y:h.getD x.toNat 0<=h.getD (x-1).toNat 0):false=aW z w h:=by
 refine qS λj=>?_;have:=f.1;have:=j.2 (x-1).toNat Z;rw[show(x-1).toNat+1=x.toNat by omega]at this;omega
theorem HT{z:Int}{w:List Bool}{h:Li}{x:Int}(f:tt h x)(j:¬x<h.length)(A:-720<=z)(y:z<=840)(u:w.length=7):true=aW z w h:=
 (ez.2 ⟨⟨A,y,u,by have:=f.2.2.1;omega⟩,λi G=>f.2.2.2 i Z⟩).symm
theorem ZX(z:Int)(w:List Bool)(h:Li):aj Tryz.prog G0 127 [cal z w h] [] ⟨True,.dat .bool (aW z w h),[]⟩:=by
 refine zE (A:=(lvA [(4,[1,2,3])] (Yi h))) (p:=let c1:=Dn z (-720);let c2:=Dj c1;let c3:=Dy c1 true (Ee z 840);let c4:=Dj c3;let c5:=Dy c3 true (Ea (Di w) 7);let j:=Dj c5;let u:=Dy c5 true (Ee (Di h) 40);let L:=(z,w,h);(True->Q2 c2 ((Dh true c2->c2)/\Q3 c4 ((Dh true c4->c4)/\Q3 j ((Dh true j->j)/\(u->false=aW z w h/\True)/\(u=false->(∃x,tt h x/\L=L/\1=x/\True)/\∀(x:Int),let A:=Dn x (Di h);let f:=x-1;let G:=Ef (Dw h (Dc x) 0) (Dw h (Dc f) 0);let X:=x+1;tt h x->(A->0<=x/\x<Di h/\inR .i64 f/\0<=f/\f<Di h/\(G->false=aW z w h/\True)/\(G=false->inR .i64 X/\∃y,tt h y/\(L=L/\X=y/\True)/\Dc (Di h-y)<Dc (Di h-x)))/\(A=false->true=aW z w h/\True))))))) KS0 λ_=>?_;refine Z9 ?_;refine⟨λhb=>qS λhv=>?_,λ⟨⟨⟨h1,h2⟩,h3⟩,h4⟩=>⟨HQ h4,λx u=>⟨λj=>?_,λhge=>HT u hge Z Z Z⟩⟩⟩;obtain⟨⟨g1,g2,g3,g4⟩,_⟩:=hv;omega;have hx1:=u.1;have hx3:=u.2.2.1;refine⟨Z,j,⟨Z,Z⟩,Z,Z,λX=>HS u j X,λhn=>⟨⟨Z,Z⟩,x+1,AZ u j Z,rfl,Z⟩⟩
theorem Vw(z:Int)(w:List Bool)(h:Li):aj Tryz.prog G0 254 [cal z w h] [] ⟨True,.dat .bool (aW z w h),[]⟩:=by
 refine zE (A:=(lvA [(4,[1,2,3])] (Yi h))) (p:=let c1:=Dn z (-720);let c2:=Dj c1;let c3:=Dy c1 true (Ee z 840);let c4:=Dj c3;let c5:=Dy c3 true (Ea (Di w) 7);let j:=Dj c5;let u:=Dy c5 true (Ee (Di h) 40);let L:=(z,w,h);(True->Q2 c2 ((Dh true c2->c2)/\Q3 c4 ((Dh true c4->c4)/\Q3 j ((Dh true j->j)/\(u->false=aW z w h/\True)/\(u=false->(∃x,tt h x/\L=L/\1=x/\True)/\∀(x:Int),let A:=Dn x (Di h);let f:=x-1;let G:=Eb (Dw h (Dc f) 0) (Dw h (Dc x) 0);let X:=x+1;tt h x->(A->inR .i64 f/\0<=f/\f<Di h/\0<=x/\x<Di h/\(G->false=aW z w h/\True)/\(G=false->inR .i64 X/\∃y,tt h y/\(L=L/\X=y/\True)/\Dc (Di h-y)<Dc (Di h-x)))/\(A=false->true=aW z w h/\True))))))) KS0 λ_=>?_;refine Z9 ?_;refine⟨λhb=>qS λhv=>?_,λ⟨⟨⟨h1,h2⟩,h3⟩,h4⟩=>⟨HQ h4,λx u=>⟨λj=>?_,λhge=>HT u hge Z Z Z⟩⟩⟩;obtain⟨⟨g1,g2,g3,g4⟩,_⟩:=hv;omega;have hx1:=u.1;have hx3:=u.2.2.1;refine⟨⟨Z,Z⟩,Z,Z,Z,j,λX=>HS u j X,λhn=>⟨⟨Z,Z⟩,x+1,AZ u j Z,rfl,Z⟩⟩
theorem ZY(z:Int)(w:List Bool)(h:Li):aj Tryz.prog G0 149 [cal z w h] [] ⟨True,.dat .bool (nQ w h),[]⟩:=by
 refine zE (A:=aG) (p:=let f:=Ef (Di w) 20;(True->Q3 f ((Dh true f->f)/\Dy f (Ef (Di h) 60) false=nQ w h/\True))) KS0 λ_=>?_;simp only[qc,Dh,Et,Dj,nQ,Ef,Di];congr 1<;>congr 1<;>exact qCa Z
theorem mT(p q:Prop)[Decidable p][Decidable q]:(decide p&&decide q)=decide (p/\q):=by by_cases h:p<;>by_cases f:q<;>simp[h,f]
theorem QH(b:Int):aj Tryz.prog G0 250 [.dat U b] [] ⟨True,.dat .bool (jr b),[]⟩:=by
 refine zE (A:=aG) (p:=let f:=Eb b 97;(True->L5 f ((Dh true f->f)/\Dy f (Ef b 122) false=jr b/\True))) KS0 λ_=>?_;simp only[qc,Dh,Et,Dj,jr,Eb,Ef,mT,qAm]
theorem QI(b:Int):aj Tryz.prog G0 251 [.dat U b] [] ⟨True,.dat .bool (fQ b),[]⟩:=by
 refine zE (A:=aG) (p:=let f:=Eb b 48;(True->L5 f ((Dh true f->f)/\Dy f (Ef b 57) false=fQ b/\True))) KS0 λ_=>?_;simp only[qc,Dh,Et,Dj,fQ,Eb,Ef,mT,qAm]
theorem Z2(b:Int):aj Tryz.prog G0 253 [.dat U b] [] ⟨True,.dat .bool (fQ b),[]⟩:=by
 refine zE (A:=aG) (p:=let f:=Eb b 48;(True->L5 f ((Dh true f->f)/\Dy f (Ef b 57) false=fQ b/\True))) KS0 λ_=>?_;simp only[qc,Dh,Et,Dj,fQ,Eb,Ef,mT,qAm]
theorem Vy(v a b:Int):aj Tryz.prog G0 208 [.dat I v,.dat I a,.dat I b] [] ⟨True,.dat .bool (cQ v a b),[]⟩:=by
 refine zE (A:=aG) (p:=let f:=Eb v a;(True->Q2 f ((Dh true f->Eb v a)/\Dy f (Ef v b) false=cQ v a b/\True))) KS0 λ_=>?_;simp only[qc,Dh,Et,Dj,cQ,Eb,Ef,mT,qAm]
theorem QK(v a b:Int):aj Tryz.prog G0 257 [.dat I v,.dat I a,.dat I b] [] ⟨True,.dat .bool (cQ v a b),[]⟩:=by
 refine zE (A:=aG) (p:=let f:=Eb v a;(True->Q2 f ((Dh true f->Eb v a)/\Dy f (Ef v b) false=cQ v a b/\True))) KS0 λ_=>?_;simp only[qc,Dh,Et,Dj,cQ,Eb,Ef,mT,qAm]
theorem Z1(k:Int):aj Tryz.prog G0 151 [.dat I k] [] ⟨True,.dat I (bI k),[]⟩:=by
 refine zE (A:=aG) (p:=let z:=Ed k 3;let y:=Ed k 4;let u:=Ed k 5;(True->(z->12=bI k/\True)/\(z=false->(y->40=bI k/\True)/\(y=false->(u->4=bI k/\True)/\(u=false->6=bI k/\True))))) KS0 λ_=>?_;refine Z9 ?_;simp only[qc,bI];refine⟨λh=>by rw[if_pos h],λf=>⟨λh=>by rw[if_neg f,if_pos h],λj=>⟨λh=>by rw[if_neg f,if_neg j,if_pos h],λh=>by rw[if_neg f,if_neg j,if_neg h]⟩⟩⟩
theorem aB5:aj Tryz.prog G0 282 [] [] ⟨True,.dat (.sl S) kw,[]⟩:=
 zE (A:=aG) (p:=(True->[ByteArray.mk #[(99:UInt8),(97:UInt8),(108:UInt8),(101:UInt8),(110:UInt8),(100:UInt8),(97:UInt8),(114:UInt8)],ByteArray.mk #[(111:UInt8),(112:UInt8),(101:UInt8),(114:UInt8),(97:UInt8),(116:UInt8),(111:UInt8),(114:UInt8)],ByteArray.mk #[(111:UInt8),(102:UInt8),(102:UInt8),(105:UInt8),(99:UInt8),(101:UInt8)],ByteArray.mk #[(108:UInt8),(105:UInt8),(110:UInt8),(101:UInt8)],ByteArray.mk #[(99:UInt8),(108:UInt8),(97:UInt8),(115:UInt8),(115:UInt8)],ByteArray.mk #[(122:UInt8),(111:UInt8),(110:UInt8),(101:UInt8)],ByteArray.mk #[(119:UInt8),(101:UInt8),(101:UInt8),(107:UInt8)],ByteArray.mk #[(104:UInt8),(111:UInt8),(108:UInt8),(105:UInt8),(100:UInt8),(97:UInt8),(121:UInt8)],ByteArray.mk #[(112:UInt8),(111:UInt8),(99:UInt8),(107:UInt8),(101:UInt8),(116:UInt8),(115:UInt8)],ByteArray.mk #[(112:UInt8),(97:UInt8),(115:UInt8),(115:UInt8),(101:UInt8),(115:UInt8)],ByteArray.mk #[(109:UInt8),(105:UInt8),(110:UInt8),(117:UInt8),(116:UInt8),(101:UInt8),(115:UInt8)],ByteArray.mk #[(99:UInt8),(111:UInt8),(100:UInt8),(101:UInt8),(115:UInt8)],ByteArray.mk #[(97:UInt8),(116:UInt8)],ByteArray.mk #[(116:UInt8),(114:UInt8),(97:UInt8),(118:UInt8),(101:UInt8),(108:UInt8)],ByteArray.mk #[(108:UInt8),(111:UInt8),(97:UInt8),(100:UInt8)],ByteArray.mk #[(99:UInt8),(117:UInt8),(116:UInt8)],ByteArray.mk #[(100:UInt8),(101:UInt8),(108:UInt8),(105:UInt8),(118:UInt8),(101:UInt8),(114:UInt8)]]=kw/\True)) KS0 λ_=>⟨rfl,trivial⟩
theorem KS1:ay Tryz.prog G0 K1:=by
 intro f args m c h;unfold K1 at h;split at h;cases h;exact ZX _ _ _;cases h;exact Vw _ _ _;cases h;exact ZY _ _ _;cases h;exact QH _;cases h;exact QI _;cases h;exact Z2 _;cases h;exact Vy _ _ _;cases h;exact QK _ _ _;cases h;exact Z1 _;cases h;exact aB5;cases h
theorem O1(s:ByteArray)(i:Nat):(Fv s).getD i 0=((s.data.getD i 0).toNat:Int):=by
 show(List.map (λb:UInt8=>(b.toNat:Int)) s.data.toList).getD i 0=_;rw[qA,qQ,yB,qP];cases s.data[i]?<;>rfl
theorem xw(s:ByteArray)(x:Int):(Fv s).getD x.toNat 0=Fz s x:=O1 s x.toNat
theorem mO(s:ByteArray):(Fv s).length=s.size:=by
 show(List.map _ s.data.toList).length=s.data.size;rw[vX,vI]
theorem iO(s:ByteArray):s.data.toList.length=s.size:=vI
theorem eQ{α:Type}{l:List α}{p:α->Bool}{d:α}{k:Nat}(h:(l.take k).all p=true)(j:k<l.length)(f:p (l.getD k d)=true):(l.take (k+1)).all p=true:=by
 rw[wY,qB j,gV,h];rw[qA,qB j]at f;simpa using f
theorem lH{α:Type}{l:List α}{p:α->Bool}{d:α}{k:Nat}(h:k<l.length)(f:p (l.getD k d)=false):l.all p=false:=by
 rw[qA,qB h]at f;rw[qBq];exact⟨l[k],wS h,by simpa using f⟩
theorem Y7{α:Type}{l:List α}{p:α->Bool}{d:α}{k:Nat}(h:k<l.length)(f:p (l.getD k d)=true):l.any p=true:=by
 rw[qA,qB h]at f;exact xO.2 ⟨l[k],wS h,by simpa using f⟩
theorem rJ{α:Type}{l:List α}{p:α->Bool}{d:α}{k:Nat}(h:(l.take k).any p=false)(j:k<l.length)(f:p (l.getD k d)=false):(l.take (k+1)).any p=false:=by
 rw[wY,qB j,qBy,h];rw[qA,qB j]at f;simpa using f
theorem ki(s:ByteArray)(i:Nat):s.data.toList.getD i 0=s.data.getD i 0:=by
 rw[qA,yB,qP]
theorem vj(s:ByteArray):jU s 0:=⟨qN _,qU _,by simp⟩
theorem xi(s:ByteArray):kj s 0:=⟨qN _,qU _,by simp⟩
theorem AU(s:ByteArray):ru s 0:=⟨qN _,by decide,by simp⟩
theorem vk{s:ByteArray}{x:Int}(h:jU s x)(u:x<s.size)(f:nameB (Fz s x)=true):jU s (x+1):=by
 obtain⟨z,y,j⟩:=h;refine⟨Z,Z,?_⟩;rw[show(x+1).toNat=x.toNat+1 by omega];exact eQ (d:=0) j (by rw[iO];omega) (by rw[ki];exact f)
theorem xj{s:ByteArray}{x:Int}(h:kj s x)(u:x<s.size)(f:xm (Fz s x)=true):kj s (x+1):=by
 obtain⟨z,y,j⟩:=h;refine⟨Z,Z,?_⟩;rw[show(x+1).toNat=x.toNat+1 by omega];exact eQ (d:=0) j (by rw[iO];omega) (by rw[ki];exact f)
theorem Am{s:ByteArray}{x:Int}(h:jU s x)(j:¬x<s.size):(s.data.toList.all λb=>nameB (b.toNat:Int))=true:=by
 obtain⟨y,u,f⟩:=h;rwa [qM (by rw[iO];omega)]at f
theorem A6{s:ByteArray}{x:Int}(h:kj s x)(j:¬x<s.size):(s.data.toList.all λb=>xm (b.toNat:Int))=true:=by
 obtain⟨y,u,f⟩:=h;rwa [qM (by rw[iO];omega)]at f
theorem LI{s:ByteArray}{x:Int}(h:jU s x)(j:x<s.size)(f:nameB (Fz s x)=false):(s.data.toList.all λb=>nameB (b.toNat:Int))=false:=
 lH (d:=0) (k:=x.toNat) (by rw[iO];have:=h.1;omega) (by rw[ki];exact f)
theorem Nc{s:ByteArray}{x:Int}(h:kj s x)(j:x<s.size)(f:xm (Fz s x)=false):(s.data.toList.all λb=>xm (b.toNat:Int))=false:=
 lH (d:=0) (k:=x.toNat) (by rw[iO];have:=h.1;omega) (by rw[ki];exact f)
theorem AW{s:ByteArray}{x:Int}(h:ru s x)(u:x<17)(f:s.toList≠(kw.getD x.toNat ⟨#[]⟩).toList):ru s (x+1):=by
 obtain⟨z,y,j⟩:=h;refine⟨Z,Z,?_⟩;rw[show(x+1).toNat=x.toNat+1 by omega];exact rJ (d:=⟨#[]⟩) j (by show x.toNat<17;omega) (by simpa using λe=>f e.symm)
theorem YK{s:ByteArray}{x:Int}(h:ru s x)(j:x<17)(f:s.toList=(kw.getD x.toNat ⟨#[]⟩).toList):isKey s=true:=
 Y7 (d:=⟨#[]⟩) (k:=x.toNat) (by have:=h.1;show x.toNat<17;omega) (by simpa using f.symm)
theorem HK{s:ByteArray}{x:Int}(h:ru s x)(j:¬x<17):isKey s=false:=by
 obtain⟨y,u,f⟩:=h;have:x=17:=Z;subst this;exact f
theorem vg{s:ByteArray}(h:bJ s=true->False):false=bJ s:=by
 cases e:bJ s with
 |false=>rfl|true=>exact(h e).elim
theorem C9{s:ByteArray}(h:cL s=true->False):false=cL s:=by
 cases e:cL s with
 |false=>rfl|true=>exact(h e).elim
theorem fH{s:ByteArray}:bJ s=true↔(1<=s.size/\s.size<=16)/\jr (Fz s 0)=true/\(s.data.toList.all λb=>nameB (b.toNat:Int))=true/\isKey s=false:=by
 unfold bJ;simp only[qE,qF,zB,qAt];exact Iff.rfl
theorem gy{s:ByteArray}:cL s=true↔(1<=s.size/\s.size<=8)/\(s.data.toList.all λb=>xm (b.toNat:Int))=true:=by
 unfold cL;simp only[qE,qF]
theorem vm{b:Int}(j:jr b=false)(h:fQ b=false)(f:b≠95):nameB b=false:=by simp[nameB,j,h,f]
theorem NQ(v:Int):aj Tryz.prog G0 147 [.dat I v] [] ⟨True,.dat .bool (cQ v 0 1439),[]⟩:=
 zE (A:=aG) (p:=let f:=cQ v 0 1439;(True->True/\T5 f)) KS1 λ_=>⟨trivial,rfl,trivial⟩
theorem LJ{b:Int}(h:jr b=false->fQ b=false->b=95):nameB b=true:=by
 unfold nameB;cases j:jr b with
 |true=>rfl|false=>cases f:fQ b with
  |true=>rfl|false=>simpa using h j f
theorem Ni{b:Int}(h:fQ b=false->65<=b/\b<=90):xm b=true:=by
 unfold xm;cases f:fQ b with
 |true=>rfl|false=>simpa using h f
theorem xk{b:Int}(f:fQ b=false)(h:b<65\/b>90):xm b=false:=by
 unfold xm;rw[f];simp;omega
theorem Ja{b:Int}(h:¬b<97)(f:¬b>122):jr b=true:=qR Z
theorem ES{b:Int}(h:b<97\/b>122):jr b=false:=qY Z
theorem Vx(s:ByteArray):aj Tryz.prog G0 196 [.dat S s] [] ⟨True,.dat .bool (bJ s),[]⟩:=by
 refine zE (A:=(lvA [(4,[0,2,4,6,22,23,24,41,42]),(10,[0,2,6,41,42])] (aAj s))) (p:=let f:=Fv s;let c1:=Dn (Ei s) 1;let c2:=Dj c1;let c3:=Dy c1 true (Ee (Ei s) 16);let j:=Dj c3;let c5:=Dy c3 true (Dj (jr (Fz s 0)));(True->Q2 c2 ((Dh true c2->c2)/\L5 j ((j->Dp 0 0)/\(j->0<Ei s)/\L5 j ((j->True)/\L5 j ((Dh true j->j)/\(c5->false=bJ s/\True)/\(c5=false->(∃x,jU s x/\Q4 s (Fv s) (Di f) (0=x/\True))/\∀(x:Int),let z:=Dn x (Di f);let u:=Dw f (Dc x) 0;let G:=Dj (jr u);let h:=Dy G (Dj (fQ u)) false;let c10:=Dy h (Ea u 95) false;let X:=x+1;jU s x->(z->0<=x/\x<Di f/\True/\L5 G ((G->True)/\L5 G ((Dh true G->G)/\L5 h ((Dh true h->h)/\(c10->false=bJ s/\True)/\(c10=false->inR .i64 X/\∃y,jU s y/\(Q4 s (Fv s) (Di f) (X=y/\True))/\Dc (Ei s-y)<Dc (Ei s-x))))))/\(z=false->Dl kw=17/\(∃xa,ru s xa/\L7 s kw (0=xa/\True))/\∀(xb:Int),let A:=Dn xb 17;let L:=Gf s (Dw kw (Dc xb) (ByteArray.mk #[]));let c14:=xb+1;ru s xb->(A->0<=xb/\xb<Ec 17/\Dl kw=17/\(L->false=bJ s/\True)/\(L=false->inR .i64 c14/\∃y,ru s y/\(L7 s kw (c14=y/\True))/\Dc (17-y)<Dc (17-xb)))/\(A=false->true=bJ s/\True))))))))) KS1 λ_=>?_;refine Z9 ?_;simp only[qc,xw,mO];refine⟨λ_=>qN _,λh=>Z,λh=>vg λg=>?_,λ⟨⟨h1,h2⟩,h3⟩=>⟨vj s,λx z=>⟨λf=>?_,λhge=>?_⟩⟩⟩;rw[fH]at g;rcases h with h|h;omega;rw[g.2.1]at h;cases h;refine⟨z.1,f,λ⟨⟨b1,b2⟩,b3⟩=>vg λg=>?_,λhb=>⟨⟨by have:=z.1;omega,Z⟩,x+1,vk z f (LJ λq1 q2=>hb ⟨q1,q2⟩),rfl,by have:=z.1;omega⟩⟩;have:=LI z f (vm b1 b2 b3);rw[(fH.1 g).2.2.1]at this;cases this
 refine⟨rfl,AU s,λy u=>⟨λf=>⟨u.1,Z,rfl,λhe=>vg λg=>?_,λhne=>⟨⟨by have:=u.1;omega,Z⟩,y+1,AW u f hne,rfl,by have:=u.1;omega⟩⟩,λL=>(fH.2 ⟨Z,h3,Am z hge,HK u L⟩).symm⟩⟩;have:=YK u f he;rw[(fH.1 g).2.2.2]at this;cases this
theorem Vz(s:ByteArray):aj Tryz.prog G0 207 [.dat S s] [] ⟨True,.dat .bool (cL s),[]⟩:=by
 refine zE (A:=(lvA [(4,[2,4,14,15,16])] (aAl s))) (p:=let f:=Fv s;let c1:=Dn (Ei s) 1;let L:=Dj c1;let c3:=Dy c1 true (Ee (Ei s) 8);(True->Q2 L ((Dh true L->L)/\(c3->false=cL s/\True)/\(c3=false->(∃x,kj s x/\L7 (Fv s) (Di f) (0=x/\True))/\∀(x:Int),let c4:=Dn x (Di f);let G:=Dw f (Dc x) 0;let h:=Dj (fQ G);let j:=Dn G 65;let X:=Dy h (Dy j true (Ee G 90)) false;let u:=x+1;kj s x->(c4->0<=x/\x<Di f/\True/\Q2 h (L5 (Dh h (Dj j)) (L5 h ((h->Dh h (Dj j)->Dh h (Dj j))/\(Dh true h->h)/\(X->false=cL s/\True)/\(X=false->inR .i64 u/\∃y,kj s y/\(L7 (Fv s) (Di f) (u=y/\True))/\Dc (Ei s-y)<Dc (Ei s-x))))))/\(c4=false->true=cL s/\True))))) KS1 λ_=>?_;refine Z9 ?_;simp only[qc,xw,mO];refine⟨λh=>C9 λg=>by rw[gy]at g;omega,λ⟨h1,h2⟩=>⟨xi s,λx u=>⟨λj=>?_,λz=>(gy.2 ⟨Z,A6 u z⟩).symm⟩⟩⟩;refine⟨u.1,j,λ⟨b1,b2⟩=>C9 λg=>?_,λhb=>⟨⟨by have:=u.1;omega,Z⟩,x+1,xj u j (Ni λq1=>by have:=hb q1;omega),rfl,by have:=u.1;omega⟩⟩;have:=Nc u j (xk b1 b2);rw[(gy.1 g).2]at this;cases this
theorem aEV(s:ByteArray):aj Tryz.prog G0 252 [.dat S s] [] ⟨True,.dat .bool (isKey s),[]⟩:=by
 refine zE (A:=(lvA [(3,[0,2,3,4])] (aGu s))) (p:=(True->True/\(∃x,ru s x/\L7 s kw (0=x/\True))/\∀(x:Int),let G:=Dn x (Di kw);let z:=Gf (Dw kw (Dc x) (ByteArray.mk #[])) s;let u:=x+1;ru s x->(G->0<=x/\x<Di kw/\(z->true=isKey s/\True)/\(z=false->inR IntKind.i64 u/\∃y,ru s y/\(L7 s kw (u=y/\True))/\Dc (17-y)<Dc (17-x)))/\(G=false->false=isKey s/\True))) KS1 λ_=>?_;refine Z9 ?_;have hl:(kw.length:Int)=17:=rfl;refine⟨AU s,λy f=>⟨λj=>⟨f.1,j,λX=>(YK f Z X.symm).symm,λh=>⟨⟨by have:=f.1;omega,Z⟩,y+1,AW f Z (λe=>h e.symm),rfl,by have:=f.1;omega⟩⟩,λL=>(HK f Z).symm⟩⟩
theorem KS2:ay Tryz.prog G0 K2:=by
 intro f args m c h;unfold K2 at h;split at h;cases h;exact NQ _;cases h;exact Vx _;cases h;exact Vz _;cases h;exact aEV _;exact KS1 _ _ _ _ h
abbrev HH:=aA [.val S] (λ_=>True) λ(s,_)=>.dat .bool (bJ s)
theorem aCb:eO 216 HH:=af λ((s:ByteArray),_)=>by
 refine zE (A:=(lvA [(4,[0,2,3])] (aCl s))) (p:=let u:=Ei s;let c1:=Dn u 1;let c2:=Dj c1;let c3:=Dy c1 true (Ee u 16);let z:=Dj c3;let c5:=Fz s 0;let c6:=Dy c3 true (Dn c5 97);let j:=Dj c6;let c8:=Dy c6 true (Ee c5 122);let c9:=Dj c8;let X:=Dy c8 true (isKey s);(True->Q2 c2 ((Dh true c2->c2)/\L5 z ((z->Dp 0 0)/\(z->0<Ei s)/\L5 z ((Dh true z->z)/\L5 j ((j->Dp 0 0)/\(j->0<Ei s)/\L5 j ((Dh true j->j)/\L5 c9 ((c9->True)/\(Dh true c9->c9)/\(X->false=bJ s/\True)/\(X=false->(∃x,jU s x/\s=s/\0=x/\True)/\∀(x:Int),let L:=Dn (Fz s x) 97;let A:=Dj L;let f:=Dy L true (Ee (Fz s x) 122);let h:=Dy f (Dj (fQ (Fz s x))) false;let c15:=Dy h (Ea (Fz s x) 95) false;let G:=x+1;jU s x->(Dn x u->0<=x/\x<Ei s/\Q2 A ((A->0<=x)/\(A->x<Ei s)/\L5 A ((Dh true A->A)/\Q2 f ((f->0<=x)/\(f->x<Ei s)/\L5 f ((f->True)/\L5 f ((Dh true f->f)/\Q2 h ((h->0<=x)/\(h->x<Ei s)/\L5 h ((Dh true h->h)/\(c15->false=bJ s/\True)/\(c15=false->inR .i64 G/\∃y,jU s y/\(s=s/\G=y/\True)/\Dc (Ei s-y)<Dc (Ei s-x))))))))))/\(Dn x u=false->true=bJ s/\True)))))))))) KS2 λ_=>?_;refine Z9 ?_;refine⟨λ_=>qN _,λh=>Z,λ_=>qN _,λh=>Z,λh=>vg λg=>?_,λ⟨⟨⟨⟨h1,h2⟩,h3⟩,h4⟩,h5⟩=>⟨vj s,λx j=>⟨λf=>?_,λhge=>(fH.2 ⟨Z,Ja h3 h4,Am j hge,h5⟩).symm⟩⟩⟩;obtain⟨g1,g2,g3,g4⟩:=fH.1 g;have g2':=vO g2;rcases h with h|h;omega;rw[g4]at h;cases h;refine⟨j.1,f,λ_=>j.1,λ_=>f,λ_=>j.1,λ_=>f,λ_=>j.1,λ_=>f,λ⟨⟨b1,b2⟩,b3⟩=>vg λg=>?_,λhb=>⟨⟨by have:=j.1;omega,Z⟩,x+1,vk j f (LJ λq1 q2=>hb ⟨?_,q2⟩),rfl,by have:=j.1;omega⟩⟩
 have:=LI j f (vm (ES b1) b2 b3);rw[(fH.1 g).2.2.1]at this;cases this;have:=qCg q1;omega
abbrev HJ:=aA [.val S] (λ_=>True) λ(s,_)=>.dat .bool (cL s)
theorem aCc:eO 283 HJ:=af λ((s:ByteArray),_)=>by
 refine zE (A:=(lvA [(4,[0,2,3])] (aCo s))) (p:=let h:=Ei s;let c1:=Dn h 1;let G:=Dj c1;let c3:=Dy c1 true (Ee h 8);(True->Q2 G ((Dh true G->G)/\(c3->false=cL s/\True)/\(c3=false->(∃x,kj s x/\s=s/\0=x/\True)/\∀(x:Int),let X:=Dn (Fz s x) 65;let u:=Dj X;let f:=Dy X true (Ee (Fz s x) 90);let j:=Dy f (Dj (fQ (Fz s x))) false;let L:=x+1;kj s x->(Dn x h->0<=x/\x<Ei s/\Q2 u ((u->0<=x)/\(u->x<Ei s)/\L5 u ((Dh true u->u)/\Q2 f ((f->0<=x)/\(f->x<Ei s)/\L5 f ((f->True)/\L5 f ((Dh true f->f)/\(j->false=cL s/\True)/\(j=false->inR .i64 L/\∃y,kj s y/\(s=s/\L=y/\True)/\Dc (Ei s-y)<Dc (Ei s-x))))))))/\(Dn x h=false->true=cL s/\True))))) KS2 λ_=>?_;refine Z9 ?_;refine⟨λh=>C9 λg=>by rw[gy]at g;omega,λ⟨h1,h2⟩=>⟨xi s,λx j=>⟨λf=>?_,λz=>(gy.2 ⟨Z,A6 j z⟩).symm⟩⟩⟩;refine⟨j.1,f,λ_=>j.1,λ_=>f,λ_=>j.1,λ_=>f,λ⟨b1,b2⟩=>C9 λg=>?_,λhb=>⟨⟨by have:=j.1;omega,Z⟩,x+1,xj j f (Ni λq1=>?_),rfl,by have:=j.1;omega⟩⟩;have:=Nc j f (xk b2 b1);rw[(gy.1 g).2]at this;cases this;by_cases hq:Fz s x<65\/Fz s x>90;have:=hb hq;rw[q1]at this;cases this;omega
abbrev Of:Ty:=.pair S (.pair I (.pair I (.pair I (.pair I (.pair I (.sl S))))))
abbrev Ln:Ty:=.pair S (.pair I (.pair I (.pair I (.pair I I))))
abbrev Kl:Ty:=.pair S (.pair I I)
abbrev Fa:Ty:=.pair I (.pair I I)
abbrev N:Ty:=.pair (.sl C) (.pair (.sl S) (.pair (.sl S) (.pair (.sl Of) (.pair (.sl Ln) (.sl Kl)))))
abbrev Off:=ByteArray×Int×Int×Int×Int×Int×List ByteArray
abbrev Lo:=List Off
abbrev Cla:=ByteArray×Int×Int
abbrev Lk:=List Cla
abbrev Net:=List (Int×List Bool×Li)×List ByteArray×List ByteArray×Lo×Ll×Lk
abbrev net(z:LC)(h f:LB)(y:Lo)(j:Ll)(u:Lk):AV:=.agg [.dat (.sl C) z,.dat (.sl S) h,.dat (.sl S) f,.dat (.sl Of) y,.dat (.sl Ln) j,.dat (.sl Kl) u]
def cA(i n:Int):Bool:=decide (0<=i/\i<n)
def idx(i n:Int):Prop:=0<=i/\i<n
def IY(i n:Int):Prop:=0<=i/\i<n/\i<=1000
def gC(l:List ByteArray)(k:Int):Prop:=0<=k/\k<=l.length/\(l.take k.toNat).all cL=true
def dA(n:Net)(o:Off):Bool:=cA o.2.1 n.2.2.1.length&&cA o.2.2.1 n.1.length&&decide (o.2.2.2.2.2.2.length<=20)&&o.2.2.2.2.2.2.all cL&&cQ o.2.2.2.1 2 64&&cQ o.2.2.2.2.1 1 4&&cQ o.2.2.2.2.2.1 1 240
def dB(n:Net)(l:Line):Bool:=cA l.2.1 n.2.2.2.1.length&&cA l.2.2.1 n.2.2.2.1.length&&decide (l.2.1≠l.2.2.1)&&cQ l.2.2.2.1 0 1439&&cQ l.2.2.2.2.1 1 5000&&cQ l.2.2.2.2.2 1 40
def lr(k:Cla):Bool:=cQ k.2.1 0 1439&&cQ k.2.2 0 1439
def aE(h:List (Int×List Bool×Li))(f:List ByteArray):List ByteArray:=(List.range h.length).map λi=>f.getD i ⟨#[]⟩
def aH(f:Lo):List ByteArray:=f.map (·.1)
def aI(f:Ll):List ByteArray:=f.map (·.1)
def aM(f:Lk):List ByteArray:=f.map (·.1)
def bv(f:List (Int×List Bool×Li)):List Bool:=f.map λc=>aW c.1 c.2.1 c.2.2
def cJ(f:List ByteArray):List Bool:=f.map λ_=>true
def eG(n:Net):List Bool:=n.2.2.2.1.map (dA n)
def dO(n:Net):List Bool:=n.2.2.2.2.1.map (dB n)
def bC(f:Lk):List Bool:=f.map lr
def jH(l:List ByteArray)(i:Int):ByteArray:=l.getD i.toNat ⟨#[]⟩
def bT(l:List ByteArray)(i:Int):Int:=if bJ (jH l i)then 0 else 1
def rule2(l:List ByteArray)(i:Int):Int:=if(l.take i.toNat).any (λw=>w.toList==(jH l i).toList)then 4 else 0
def cm(g:List Bool)(i:Int):Int:=if g.getD i.toNat false then 0 else 1
def td(l:List ByteArray)(i k:Int):Prop:=0<=k/\k<=i/\(l.take k.toNat).any (λw=>w.toList==(jH l i).toList)=false
def cw(l:List ByteArray)(g:List Bool)(i k:Int):Prop:=0<=k/\k<=3/\(0<k->bT l i=0)/\(1<k->rule2 l i=0)/\(2<k->cm g i=0)
def nZ(l:List ByteArray)(g:List Bool)(i:Int):Int:=if bT l i≠0 then bT l i else if rule2 l i≠0 then rule2 l i else cm g i
def aT(f:Int)(l:List ByteArray)(g:List Bool)(k:Int):List (Int×Int×Int):=(List.range k.toNat).filterMap λi:Nat=>if nZ l g i=0 then none else some (f,(i:Int),nZ l g i)
def Gu(h f:Int)(l:List ByteArray):List (Int×Int×Int):=if f<l.length then[(h,f,2)]else[]
def bF(f h:Int)(l:List ByteArray)(g:List Bool):List (Int×Int×Int):=aT f l g (min l.length h)++Gu f h l
def dG(k n f:Int):Prop:=0<=k/\k<=n/\k<=f
def CM(n:Net):List (Int×Int×Int):=if n.2.1.length=n.1.length then[]else[(1,-1,1)]
def ak(n:Net)(k:Int):List ByteArray:=if k=1 then aE n.1 n.2.1 else if k=2 then n.2.2.1 else if k=3 then aH n.2.2.2.1 else if k=4 then aI n.2.2.2.2.1 else if k=5 then aM n.2.2.2.2.2 else[]
def fO(n:Net)(k:Int):List Bool:=if k=1 then bv n.1 else if k=2 then cJ n.2.2.1 else if k=3 then eG n else if k=4 then dO n else if k=5 then bC n.2.2.2.2.2 else[]
def aD(n:Net)(k:Int):List (Int×Int×Int):=CM n++(List.range (k.toNat-1)).flatMap λj:Nat=>bF (j+1) (bI (j+1)) (ak n (j+1)) (fO n (j+1))
def dd(n:Net):List (Int×Int×Int):=aD n 6
def iC(n:Net):Bool:=decide (n.1.length<=10/\n.2.1.length<=10/\n.2.2.1.length<=10/\n.2.2.2.1.length<=16/\n.2.2.2.2.1.length<=50/\n.2.2.2.2.2.length<=8)
def Js(n:Net)(o:Off):Prop:=iC n=true/\o.2.2.2.2.2.2.length<=30
abbrev AN:=aA [.val I,.val (.sl Of)] (λ_=>True) λ(i,f,_)=>.dat .bool (cA i (Di f))
abbrev Hn:=aA [.val I,.val (.sl S)] (λ_=>True) λ(i,f,_)=>.dat .bool (cA i (Di f))
abbrev Ho:=aA [.val I,.val (.sl C)] (λ_=>True) λ(i,f,_)=>.dat .bool (cA i (Di f))
def K3:Kt:=kOr 212 AN <|
 kOr 205 Hn <|
 kOr 206 Ho <|
 kOr 216 HH <|
 kOr 283 HJ K2
def aCX(l:List ByteArray):Ann:=Z8 4 Int (gC l) (λf k=>put f [(30,.dat I k)]) λk=>Dc (Dk (Di l) k)
def aEZ(l:List ByteArray):Ann:=Z8 2 Int (gC l) (λf k=>put f [(5,.dat I k)]) λk=>Dc (Dk (Di l) k)
abbrev mC:=aA [.row N,.row Of] (λ_=>True) λ(n,o,_)=>.dat .bool (dA n o)
abbrev qe:=aA [.row N,.row Ln] (λ_=>True) λ(n,l,_)=>.dat .bool (dB n l)
abbrev wi:=aA [.row N,.row Of] (λ(n,o,_)=>Js n o) λ(n,o,_)=>.dat .bool (dA n o)
abbrev Hl:=aA [.row N,.row Ln] (λ(n,_,_)=>iC n=true) λ(n,l,_)=>.dat .bool (dB n l)
def K4:Kt:=kOr 139 mC <|
 kOr 143 qe <|
 kOr 255 wi <|
 kOr 256 Hl K3
abbrev MB:=aA [.val I,.ptr N] (λ(i,(f,h,j,z,u,y),_)=>idx i (Di f)) λ(i,(f,h,j,z,u,y),_)=>.dat S (jH (aE f h) i)
abbrev MA:=aA [.val I,.ptr N] (λ(i,(z,h,f,y,j,u),_)=>idx i (Di f)) λ(i,(z,h,f,y,j,u),_)=>.dat S (jH (f) i)
abbrev MG:=aA [.row S] (λ_=>True) λ_=>.dat .bool true
abbrev Me:=aA [.val I,.ptr N] (λ(i,(z,j,h,f,u,y),_)=>idx i (Di f)) λ(i,(z,j,h,f,u,y),_)=>.dat S (jH (aH f) i)
abbrev MF:=aA [.row Of,.ptr N] (λ_=>True) λ(o,n,_)=>.dat .bool (dA n o)
abbrev Md:=aA [.val I,.ptr N] (λ(i,(z,j,h,y,f,u),_)=>idx i (Di f)) λ(i,(z,j,h,y,f,u),_)=>.dat S (jH (aI f) i)
abbrev ME:=aA [.row Ln,.ptr N] (λ_=>True) λ(l,n,_)=>.dat .bool (dB n l)
abbrev Mc:=aA [.val I,.ptr N] (λ(i,(z,j,h,y,u,f),_)=>idx i (Di f)) λ(i,(z,j,h,y,u,f),_)=>.dat S (jH (aM f) i)
abbrev MD:=aA [.row Kl] (λ_=>True) λ(k,_)=>.dat .bool (lr k)
def K5:Kt:=kOr 131 MB <|
 kOr 133 MA <|
 kOr 135 MG <|
 kOr 136 Me <|
 kOr 138 MF <|
 kOr 140 Md <|
 kOr 142 ME <|
 kOr 144 Mc <|
 kOr 146 MD K4
def twA(l:List ByteArray)(i:Int):Ann:=Z8 2 Int (td l i) (λf k=>put f [(6,.dat I k)]) λk=>Dc (Dk i k)
abbrev L9:=aA [.val I,.fnp 131 N] (λ(i,(f,h,j,z,u,y),_)=>idx i (Di f)) λ(i,(f,h,j,z,u,y),_)=>.dat I (bT (aE f h) i)
abbrev LY:=aA [.val I,.fnp 131 N] (λ(i,(f,h,j,z,u,y),_)=>IY i (Di f)) λ(i,(f,h,j,z,u,y),_)=>.dat I (rule2 (aE f h) i)
abbrev L8:=aA [.val I,.fnp 133 N] (λ(i,(z,h,f,y,j,u),_)=>idx i (Di f)) λ(i,(z,h,f,y,j,u),_)=>.dat I (bT (f) i)
abbrev LX:=aA [.val I,.fnp 133 N] (λ(i,(z,h,f,y,j,u),_)=>IY i (Di f)) λ(i,(z,h,f,y,j,u),_)=>.dat I (rule2 (f) i)
abbrev L6:=aA [.val I,.fnp 136 N] (λ(i,(z,j,h,f,u,y),_)=>idx i (Di f)) λ(i,(z,j,h,f,u,y),_)=>.dat I (bT (aH f) i)
abbrev LW:=aA [.val I,.fnp 136 N] (λ(i,(z,j,h,f,u,y),_)=>IY i (Di f)) λ(i,(z,j,h,f,u,y),_)=>.dat I (rule2 (aH f) i)
abbrev L0:=aA [.val I,.fnp 140 N] (λ(i,(z,j,h,y,f,u),_)=>idx i (Di f)) λ(i,(z,j,h,y,f,u),_)=>.dat I (bT (aI f) i)
abbrev LV:=aA [.val I,.fnp 140 N] (λ(i,(z,j,h,y,f,u),_)=>IY i (Di f)) λ(i,(z,j,h,y,f,u),_)=>.dat I (rule2 (aI f) i)
abbrev LZ:=aA [.val I,.fnp 144 N] (λ(i,(z,j,h,y,u,f),_)=>idx i (Di f)) λ(i,(z,j,h,y,u,f),_)=>.dat I (bT (aM f) i)
abbrev LU:=aA [.val I,.fnp 144 N] (λ(i,(z,j,h,y,u,f),_)=>IY i (Di f)) λ(i,(z,j,h,y,u,f),_)=>.dat I (rule2 (aM f) i)
def K6:Kt:=
 kOr 195 L9 <|
 kOr 197 LY <|
 kOr 198 (aA [.val I,.fnp0 127,.ptr (.sl C)] (λ(i,_,j,_)=>idx i (Di j)) λ(i,_,j,_)=>.dat I (cm (bv j) i)) <|
 kOr 199 L8 <|
 kOr 200 LX <|
 kOr 201 (aA [.val I,.fnp0 135,.ptr (.sl S)] (λ(i,_,f,_)=>idx i (Di f)) λ(i,_,f,_)=>.dat I (cm (cJ f) i)) <|
 kOr 202 L6 <|
 kOr 203 LW <|
 kOr 204 (aA [.val I,.fnp 138 N,.ptr (.sl Of)] (λ(i,(j,z,f,y,u,h),A,_)=>idx i (Di y)/\A=y) λ(i,(j,z,f,y,u,h),_,_)=>.dat I (cm (eG (j,z,f,y,u,h)) i)) <|
 kOr 209 L0 <|
 kOr 210 LV <|
 kOr 211 (aA [.val I,.fnp 142 N,.ptr (.sl Ln)] (λ(i,(j,z,f,y,u,h),A,_)=>idx i (Di u)/\A=u) λ(i,(j,z,f,y,u,h),_,_)=>.dat I (cm (dO (j,z,f,y,u,h)) i)) <|
 kOr 213 LZ <|
 kOr 214 LU <|
 kOr 215 (aA [.val I,.fnp0 146,.ptr (.sl Kl)] (λ(i,_,h,_)=>idx i (Di h)) λ(i,_,h,_)=>.dat I (cm (bC h) i)) K5
def Iz(f h:Int)(l:List ByteArray)(g:List Bool):Ann:=⟨λj st=>match j with
 |4=>some {α:=Int,inv:=λk=>dG k (Di l) h,st:=λk=>oG (put st [(25,.dat I k),(12,.buf 100 (Dl (aT f l g k)))]) 100 (.buf 153 Fa (aT f l g k) []),μ:=λk=>Dc (Dk h k)}|7=>match st.sig.T 13 with
  |.dat (.int .i64) i=>some {α:=Int,inv:=λk=>cw l g i k,st:=λk=>put st [(29,.dat I k),(12,.buf 100 (Dl (aT f l g i)))],μ:=λk=>Dc (Dk 3 k)}|_=>none
 |_=>none,λ_ _=>none,λ_ _=>none⟩
def K7:Kt:=
 kOr 132 (aA [.val I,.val I,.val (.sl C),.fn 131 N,.fn0 127] (λ(k,m,A,(j,z,f,y,u,h),_,_)=>k=1/\m=6/\A=j) λ(_,_,_,(j,z,f,y,u,h),_,_)=>.dat (.sl Fa) (bF 1 6 (aE j z) (bv j))) <|
 kOr 134 (aA [.val I,.val I,.val (.sl S),.fn 133 N,.fn0 135] (λ(k,m,A,(j,z,f,y,u,h),_,_)=>k=2/\m=6/\A=f) λ(_,_,_,(j,z,f,y,u,h),_,_)=>.dat (.sl Fa) (bF 2 6 (f) (cJ f))) <|
 kOr 137 (aA [.val I,.val I,.val (.sl Of),.fn 136 N,.fn 138 N] (λ(k,m,A,(j,z,f,y,u,h),G,_)=>k=3/\m=12/\A=y/\G=(j,z,f,y,u,h)) λ(_,_,_,(j,z,f,y,u,h),_,_)=>.dat (.sl Fa) (bF 3 12 (aH y) (eG (j,z,f,y,u,h)))) <|
 kOr 141 (aA [.val I,.val I,.val (.sl Ln),.fn 140 N,.fn 142 N] (λ(k,m,A,(j,z,f,y,u,h),G,_)=>k=4/\m=40/\A=u/\G=(j,z,f,y,u,h)) λ(_,_,_,(j,z,f,y,u,h),_,_)=>.dat (.sl Fa) (bF 4 40 (aI u) (dO (j,z,f,y,u,h)))) <|
 kOr 145 (aA [.val I,.val I,.val (.sl Kl),.fn 144 N,.fn0 146] (λ(k,m,A,(j,z,f,y,u,h),_,_)=>k=5/\m=4/\A=h) λ(_,_,_,(j,z,f,y,u,h),_,_)=>.dat (.sl Fa) (bF 5 4 (aM h) (bC h))) <|
 K6
theorem ZI:eO 212 AN:=af λ((i:Int),(j:List Of.den),_)=>by
 refine zE (A:=aG) (p:=let f:=Eb i 0;let h:=Di j;(True->Q3 f ((Dh true f->f)/\Dy f (Dn i h) false=cA i h/\True))) KS2 λ_=>?_;simp only[qc,Dh,Et,Dj,cA,Eb,Dn,mT,qAm]
theorem aBQ:eO 205 Hn:=af λ((i:Int),(h:List S.den),_)=>by
 refine zE (A:=aG) (p:=let f:=Eb i 0;(True->Q3 f ((Dh true f->f)/\Dy f (Dn i (Di h)) false=cA i (Di h)/\True))) KS2 λ_=>?_;simp only[qc,Dh,Et,Dj,cA,Eb,Dn,mT,qAm]
theorem aBR:eO 206 Ho:=af λ((i:Int),(j:List C.den),_)=>by
 refine zE (A:=aG) (p:=let f:=Eb i 0;let h:=Di j;(True->Q3 f ((Dh true f->f)/\Dy f (Dn i h) false=cA i h/\True))) KS2 λ_=>?_;simp only[qc,Dh,Et,Dj,cA,Eb,Dn,mT,qAm]
theorem KS3:ay Tryz.prog G0 K3:=
 ai ZI<|ai aBQ<|ai aBR<|ai aCb<|ai aCc KS2
theorem sW(l:List ByteArray):gC l 0:=⟨qN _,qU _,by simp⟩
theorem sX{l:List ByteArray}{x:Int}(h:gC l x)(u:x<l.length)(f:cL (l.getD x.toNat ⟨#[]⟩)=true):gC l (x+1):=by
 obtain⟨z,y,j⟩:=h;refine⟨Z,Z,?_⟩;rw[show(x+1).toNat=x.toNat+1 by omega];exact eQ (d:=⟨#[]⟩) j Z f
theorem Iu{l:List ByteArray}{x:Int}(h:gC l x)(j:x<l.length)(f:cL (l.getD x.toNat ⟨#[]⟩)=false):l.all cL=false:=
 lH (d:=⟨#[]⟩) (k:=x.toNat) (by have:=h.1;omega) f
theorem xh{l:List ByteArray}{x:Int}(h:gC l x)(j:¬x<l.length):l.all cL=true:=by
 obtain⟨y,u,f⟩:=h;rwa [qM Z]at f
theorem MW{i n:Int}:cQ i 0 (n-1)=cA i n:=by
 unfold cQ cA;congr 1;exact qCa Z
theorem EE:eO 139 mC:=af λ(((cs,ns,os,fs,ls,ks):Net),((e1:ByteArray),(e2:Int),(e3:Int),(e4:Int),(e5:Int),(e6:Int),(f:List ByteArray)),_)=>by
 refine zE (A:=(lvA [(4,[3,4,6,28,29,30])] (aCX f))) (p:=let c1:=Dj (cA e2 (Di os));let z:=Dj c1;let c3:=Dy c1 true (Dj (cA e3 (Di cs)));let c4:=Dj c3;let c5:=Dy c3 true (Ee (Di f) 20);let j:=(e1,e2,e3,e4,e5,e6,f);let u:=dA (cs,ns,os,fs,ls,ks) j;let G:=cQ e4 2 64;let h:=Dy G (cQ e5 1 4) false;(True->True/\L5 z (Q3 z ((z->True)/\L5 z ((Dh true z->z)/\Q3 c4 ((Dh true c4->c4)/\(c5->false=u/\True)/\(c5=false->(∃x,gC f x/\Q4 j f (Di f) (0=x/\True))/\∀(x:Int),let X:=Dn x (Di f);let L:=Dj (cL (Dw f (Dc x) (ByteArray.mk #[])));let A:=x+1;gC f x->(X->0<=x/\x<Di f/\True/\(L->false=u/\True)/\(L=false->inR .i64 A/\∃y,gC f y/\(Q4 j f (Di f) (A=y/\True))/\Dc (Di f-y)<Dc (Di f-x)))/\(X=false->True/\Q2 G ((G->True)/\(Dh true G->G)/\Q2 h ((h->True)/\(Dh true h->h)/\Dy h (cQ e6 1 240) false=u/\True)))))))))) KS3 λ_=>?_;refine Z9 ?_;refine⟨λh=>?_,λ⟨⟨h1,h2⟩,h3⟩=>⟨sW f,λx u=>⟨λj=>⟨u.1,j,λhb=>?_,λhg=>⟨⟨by have:=u.1;omega,Z⟩,x+1,sX u j hg,rfl,by have:=u.1;omega⟩⟩,λhge=>?_⟩⟩⟩;unfold dA;rcases h with(h|h)|h;rw[show cA _ _=false from h];rfl;rw[show cA e3 _=false from h];simp;have:decide (f.length<=20)=false:=qY Z;simp[this];have:=Iu u j hb;simp[dA,this];have h4:=xh u hge;have h5:decide (f.length<=20)=true:=qR Z;have h1':cA e2 (os.length:Int)=true:=h1;have h2':cA e3 (cs.length:Int)=true:=h2;simp only[dA,h1',h2',h4,h5,yC]
theorem Vb:eO 255 wi:=af λ(((cs,ns,L,fs,ls,ks):Net),((e1:ByteArray),(e2:Int),(e3:Int),(e4:Int),(e5:Int),(e6:Int),(f:List ByteArray)),_)=>by
 refine zE (A:=(lvA [(2,[2,3,4,5,6])] (aEZ f))) (p:=let c1:=(cs,ns,L,fs,ls,ks);let c2:=(e1,e2,e3,e4,e5,e6,f);let c3:=dA c1 c2;let j:=Ef (Di f) 20;let c5:=Di L-1;let u:=Dy j (cQ e2 0 c5) false;let A:=Di cs-1;let c8:=Dy u (cQ e3 0 A) false;let z:=Dy c8 (cQ e4 2 64) false;let h:=Dy z (cQ e5 1 4) false;(Js c1 c2->(∃x,gC f x/\L7 c1 c2 (0=x/\True))/\∀(x:Int),let c11:=Dn x (Di f);let G:=Dj (cL (Dw f (Dc x) (ByteArray.mk #[])));let X:=x+1;gC f x->(c11->0<=x/\x<Di f/\True/\(G->false=c3/\True)/\(G=false->inR .i64 X/\∃y,gC f y/\(L7 c1 c2 (X=y/\True))/\Dc (Di f-y)<Dc (Di f-x)))/\(c11=false->L5 j (Q3 j ((j->inR .i64 c5)/\Q2 j ((j->True)/\(Dh true j->j)/\L5 u (Q3 u ((u->inR .i64 A)/\Q2 u ((u->True)/\(Dh true u->u)/\Q2 c8 ((c8->True)/\(Dh true c8->c8)/\Q2 z ((z->True)/\(Dh true z->z)/\Q2 h ((h->True)/\(Dh true h->h)/\Dy h (cQ e6 1 240) false=c3/\True)))))))))))) KS3 λG=>?_;obtain⟨hp1,X⟩:=G;have X:f.length<=30:=X;have G:=vO hp1;refine Z9 ?_;simp only[qc,MW];refine⟨sW f,λx z=>⟨λu=>⟨z.1,u,λhb=>?_,λhg=>⟨⟨by have:=z.1;omega,Z⟩,x+1,sX z u hg,rfl,by have:=z.1;omega⟩⟩,λhge=>⟨λ_=>⟨by have:L.length<=10:=G.2.2.1;omega,by have:L.length<=10:=G.2.2.1;omega⟩,λ_=>⟨by have:cs.length<=10:=G.1;omega,by have:cs.length<=10:=G.1;omega⟩,?_⟩⟩⟩;have:=Iu z u hb;simp[dA,this];have h4:=xh z hge;have e:decide ((f.length:Int)<=20)=decide (f.length<=20):=by congr 1;exact qCa Z
 simp only[dA,h4,kV,e];cases decide (f.length<=20)<;>cases cA e2 (L.length:Int)<;>cases cA e3 (cs.length:Int)<;>rfl
theorem NM:eO 143 qe:=af λ(((cs,ns,os,z,ls,ks):Net),((e1:ByteArray),(u:Int),(f:Int),(e4:Int),(e5:Int),(e6:Int)),_)=>by
 refine zE (A:=aG) (p:=let c1:=Di z;let c2:=Dj (cA u c1);let j:=Dj c2;let c4:=Dy c2 true (Dj (cA f c1));let G:=Dj c4;let A:=Dy c4 true (Ed u f);let L:=dB (cs,ns,os,z,ls,ks) (e1,u,f,e4,e5,e6);let y:=cQ e4 0 1439;let h:=Dy y (cQ e5 1 5000) false;(True->True/\L5 j (Q3 j ((j->True)/\L5 j ((Dh true j->j)/\L5 G (Q3 G ((Dh true G->G)/\(A->false=L/\True)/\(A=false->True/\Q2 y ((y->True)/\(Dh true y->y)/\Q2 h ((h->True)/\(Dh true h->h)/\Dy h (cQ e6 1 40) false=L/\True)))))))))) KS3 λ_=>?_;refine Z9 ?_;refine⟨λh=>?_,λ⟨⟨h1,h2⟩,h3⟩=>?_⟩;unfold dB;rcases h with(h|h)|h;rw[show cA _ _=false from h];rfl;rw[show cA f _=false from h];simp;simp[h];have h1':cA u (z.length:Int)=true:=h1;have X:cA f (z.length:Int)=true:=h2;have L:decide (u≠f)=true:=qR h3;simp only[dB,h1',X,L,yC]
theorem aBN:eO 256 Hl:=af λ(((cs,ns,os,L,ls,ks):Net),((e1:ByteArray),(j:Int),(f:Int),(e4:Int),(e5:Int),(e6:Int)),_)=>by
 refine zE (A:=aG) (p:=let c1:=(cs,ns,os,L,ls,ks);let X:=Di L-1;let z:=cQ j 0 X;let y:=Dy z (cQ f 0 X) false;let u:=Dy y (Ea j f) false;let h:=Dy u (cQ e4 0 1439) false;let A:=Dy h (cQ e5 1 5000) false;(iC c1->inR .i64 X/\True/\Q3 z ((z->True)/\(Dh true z->z)/\L5 y (Q3 y ((Dh true y->y)/\Q2 u ((u->True)/\(Dh true u->u)/\Q2 h ((h->True)/\(Dh true h->h)/\Q2 A ((A->True)/\(Dh true A->A)/\Dy A (cQ e6 1 40) false=dB c1 (e1,j,f,e4,e5,e6)/\True)))))))) KS3 λG=>?_;have G:=vO G;refine Z9 ?_;simp only[qc,MW];refine⟨⟨by have:L.length<=16:=G.2.2.2.1;omega,by have:L.length<=16:=G.2.2.2.1;omega⟩,?_⟩;have e:(j != f)=decide (j≠f):=by cases h:decide (j=f)<;>simp_all
 simp only[dB,e]
theorem KS4:ay Tryz.prog G0 K4:=
 ai EE<|ai NM<|ai Vb<|ai aBN KS3
theorem fZ{α β:Type}(f:α->β)(l:List α)(i:Nat)(d:α)(e:β)(h:i<l.length):(l.map f).getD i e=f (l.getD i d):=by
 simp only[qA,qQ,qB h,zZ,vJ]
theorem xr{h:List (Int×List Bool×Li)}{f:List ByteArray}{i:Int}(u:0<=i)(j:i<h.length):jH (aE h f) i=f.getD i.toNat ⟨#[]⟩:=by
 unfold jH aE;rw[fZ (λi=>f.getD i ⟨#[]⟩) _ _ 0 _ (by rw[yI];omega)];show f.getD ((List.range h.length).getD i.toNat 0) _=_;rw[show(List.range h.length).getD i.toNat 0=i.toNat by rw[qA,zH Z];rfl]
theorem Oa{α:Type}{f:α->ByteArray}{l:List α}{i:Int}(d:α)(j:0<=i)(h:i<l.length):jH (l.map f) i=f (l.getD i.toNat d):=fZ _ _ _ _ _ Z
theorem aEC:eO 131 MB:=af λ((i:Int),((y,f,L,fs,X,ks):Net),_)=>by
 refine zE (A:=aG) (p:=let G:=Dn i (Di f);let z:=jH (aE y f) i;(idx i (Di y)->(G->0<=i/\i<Di f/\Dw f (Dc i) (ByteArray.mk #[])=z/\True)/\(G=false->ByteArray.mk #[]=z/\True))) KS4 λ⟨j,u⟩=>?_;have j:0<=i:=j;have u:i<(y.length:Int):=u;refine Z9 ?_;simp only[qc,xr j u];refine⟨λh=>⟨j,h⟩,λh=>?_⟩;rw[qA,wZ Z];rfl
theorem aEB:eO 133 MA:=af λ((i:Int),((L,u,f,G,y,z):Net),_)=>by
 refine zE (A:=aG) (p:=(idx i (Di f)->0<=i/\i<Di f/\Dw f (Dc i) (ByteArray.mk #[])=jH f i/\True)) KS4 λ⟨j,h⟩=>?_;refine Z9 ?_;exact⟨j,h,rfl⟩
theorem aEH:eO 135 MG:=af λ((f:ByteArray),_)=>zF (c:=mkc K4) (A:=aG) KS4 tC hm (p:=true/\(True->true/\True)) ⟨rfl,λ_=>⟨rfl,trivial⟩⟩
theorem aEA:eO 136 Me:=af λ((i:Int),((X,z,y,f,G,L):Net),_)=>by
 refine zE (A:=aG) (p:=let u:=Di f;(idx i u->0<=i/\i<u/\(Dw f (Dc i) (ByteArray.mk #[],(0:Int),(0:Int),(0:Int),(0:Int),(0:Int),Du ByteArray)).1=jH (aH f) i/\True)) KS4 λ⟨j,h⟩=>?_;refine Z9 ?_;exact⟨j,h,(Oa _ j h).symm⟩
theorem aEG:eO 138 MF:=af λ(((e1:ByteArray),(e2:Int),(e3:Int),(X:Int),(L:Int),(G:Int),(z:List ByteArray)),((cs,h,f,y,j,u):Net),_)=>zE (A:=aG) (p:=let c1:=dA (cs,h,f,y,j,u) (e1,e2,e3,X,L,G,z);(True->True/\T5 c1)) KS4 λ_=>by simp only[qc,Dh,Et,Dj]
theorem aEz:eO 140 Md:=af λ((i:Int),((X,z,y,L,f,G):Net),_)=>by
 refine zE (A:=aG) (p:=let u:=Di f;(idx i u->0<=i/\i<u/\(Dw f (Dc i) (ByteArray.mk #[],(0:Int),(0:Int),(0:Int),(0:Int),(0:Int))).1=jH (aI f) i/\True)) KS4 λ⟨j,h⟩=>?_;refine Z9 ?_;exact⟨j,h,(Oa _ j h).symm⟩
theorem aEF:eO 142 ME:=af λ(((e1:ByteArray),(e2:Int),(X:Int),(L:Int),(G:Int),(z:Int)),((cs,h,f,y,j,u):Net),_)=>zE (A:=aG) (p:=let c1:=dB (cs,h,f,y,j,u) (e1,e2,X,L,G,z);(True->True/\T5 c1)) KS4 λ_=>by simp only[qc,Dh,Et,Dj]
theorem aEy:eO 144 Mc:=af λ((i:Int),((X,z,y,L,G,f):Net),_)=>by
 refine zE (A:=aG) (p:=let u:=Di f;(idx i u->0<=i/\i<u/\(Dw f (Dc i) (ByteArray.mk #[],(0:Int),(0:Int))).1=jH (aM f) i/\True)) KS4 λ⟨j,h⟩=>?_;refine Z9 ?_;exact⟨j,h,(Oa _ j h).symm⟩
theorem aEE:eO 146 MD:=af λ(((u:ByteArray),(j:Int),(h:Int)),_)=>zE (A:=aG) (p:=let f:=cQ j 0 1439;(True->True/\Q2 f ((f->True)/\(Dh true f->f)/\Dy f (cQ h 0 1439) false=lr (u,j,h)/\True))) KS4 λ_=>by simp only[qc,Dh,Et,Dj,lr]
theorem KS5:ay Tryz.prog G0 K5:=
 ai aEC<|ai aEB<|ai aEH<|ai aEA<|ai aEG<|ai aEz<|ai aEF<|ai aEy<|ai aEE KS4
theorem jK{l:List ByteArray}{i:Int}(h:0<=i):td l i 0:=⟨qN _,h,by simp⟩
theorem jL{l:List ByteArray}{i x:Int}(h:td l i x)(u:x<i)(y:i<l.length)(f:(jH l x).toList≠(jH l i).toList):td l i (x+1):=by
 obtain⟨A,z,j⟩:=h;refine⟨Z,Z,?_⟩;rw[show(x+1).toNat=x.toNat+1 by omega];exact rJ (d:=⟨#[]⟩) j Z (by simpa[jH]using f)
theorem NH{l:List ByteArray}{i x:Int}(h:td l i x)(y:x<i)(z:i<l.length)(u:(jH l x).toList=(jH l i).toList):4=rule2 l i:=by
 unfold rule2;have j:=h.1;rw[if_pos];have f:x.toNat<(l.take i.toNat).length:=by rw[qO];omega
 refine Y7 (d:=⟨#[]⟩) (k:=x.toNat) f ?_;have:(l.take i.toNat).getD x.toNat ⟨#[]⟩=jH l x:=by
  unfold jH;simp only[qA];rw[vV,if_pos Z]
 rw[this];simpa using u
theorem kB{l:List ByteArray}{i x:Int}(h:td l i x)(j:¬x<i):0=rule2 l i:=by
 obtain⟨y,u,f⟩:=h;have:x=i:=Z;subst this;unfold rule2;rw[f];rfl
theorem pE{α:Type}{g:α->Bool}{l:List α}{i:Int}(d:α)(h:0<=i)(f:i<l.length):cm (l.map g) i=if g (l.getD i.toNat d)then 0 else 1:=by
 unfold cm;rw[fZ g l _ d _ Z]
theorem dY(f:List (Int×List Bool×Li))(h:List ByteArray):(aE f h).length=f.length:=by simp[aE]
theorem map_length{α β:Type}(f:α->β)(l:List α):(l.map f).length=l.length:=vX f
theorem aEx:eO 195 L9:=af λ((i:Int),((f,j,G,fs,L,X):Net),_)=>by
 refine zE (A:=aG) (p:=let y:=Dj (bJ (jH (aE f j) i));let u:=bT (aE f j) i;(idx i (Di f)->idx i (Di f)/\True/\(y->1=u/\True)/\(y=false->0=u/\True))) KS5 λz=>?_;refine Z9 ?_;exact⟨z,λh=>by simp[bT,h],λh=>by simp[bT,h]⟩
theorem aEs:eO 197 LY:=af λ((i:Int),((f,j,os,fs,ls,ks):Net),_)=>by
 refine zE (A:=(lvA [(2,[0,1,3,4,5,6])] (twA (aE f j) i))) (p:=let h:=aE f j;let X:=Di f;let c2:=(f,j,os,fs,ls,ks);let c3:=rule2 h i;(IY i X->(∃x,td h i x/\Q4 i c2 i (0=x/\True))/\∀(x:Int),let c4:=Gf (jH h x) (jH h i);let c5:=x+1;td h i x->(Dn x i->idx x X/\idx i X/\(c4->4=c3/\True)/\(c4=false->inR IntKind.i64 c5/\∃y,td h i y/\(Q4 i c2 i (c5=y/\True))/\Dc (i-y)<Dc (i-x)))/\(Dn x i=false->0=c3/\True))) KS5 λz=>?_;have h0:0<=i:=z.1;have h1:i<(f.length:Int):=z.2.1;have h2:i<=1000:=z.2.2;have hl:((aE f j).length:Int)=f.length:=yF _ (dY f j);refine Z9 ?_;exact⟨jK h0,λx h=>⟨λu=>⟨⟨h.1,Z⟩,⟨h0,h1⟩,λhe=>NH h u Z he,λG=>⟨⟨by have:=h.1;omega,Z⟩,x+1,jL h u Z G,rfl,by have:=h.1;omega⟩⟩,λL=>kB h L⟩⟩
theorem aEn(i:Int)(f:LC)(ns X:LB)(fs:Lo)(ls:Ll)(ks:Lk):aj Tryz.prog G0 198 [.dat I i,.ipv (.fn 127 []),.ip (.sl C) f] [] ⟨idx i (Di f),.dat I (cm (bv f) i),[]⟩:=by
 refine zE (A:=aG) (p:=let L:=Di f;let j:=Dw f (Dc i) ((0:Int),Du Bool,Du Int);let G:=Dj (aW j.1 j.2.1 j.2.2);(idx i L->0<=i/\i<L/\True/\(G->1=cm (bv f) i/\True)/\(G=false->0=cm (bv f) i/\True))) KS5 λu=>?_;have z:0<=i:=u.1;have y:i<(f.length:Int):=u.2;refine Z9 ?_;rw[show cm (bv f) i=_ from pE _ z y];exact⟨z,y,λh=>by rw[if_neg (by intro g;rw[show _=false from h]at g;cases g)],λh=>by rw[if_pos h]⟩
theorem aEw:eO 199 L8:=af λ((i:Int),((X,y,f,L,z,G):Net),_)=>by
 refine zE (A:=aG) (p:=let j:=Dj (bJ (jH f i));(idx i (Di f)->idx i (Di f)/\True/\(j->1=bT f i/\True)/\(j=false->0=bT f i/\True))) KS5 λu=>?_;refine Z9 ?_;exact⟨u,λh=>by simp[bT,h],λh=>by simp[bT,h]⟩
theorem aEr:eO 200 LX:=af λ((i:Int),((cs,ns,f,fs,ls,ks):Net),_)=>by
 refine zE (A:=(lvA [(2,[0,1,3,4,5,6])] (twA (f) i))) (p:=let L:=Di f;let c1:=(cs,ns,f,fs,ls,ks);(IY i L->(∃x,td f i x/\Q4 i c1 i (0=x/\True))/\∀(x:Int),let c2:=Gf (jH f x) (jH f i);let c3:=x+1;td f i x->(Dn x i->idx x L/\idx i L/\(c2->4=rule2 f i/\True)/\(c2=false->inR .i64 c3/\∃y,td f i y/\(Q4 i c1 i (c3=y/\True))/\Dc (i-y)<Dc (i-x)))/\(Dn x i=false->0=rule2 f i/\True))) KS5 λu=>?_;have X:0<=i:=u.1;have h1:i<(f.length:Int):=u.2.1;have h2:i<=1000:=u.2.2;have hl:((f).length:Int)=f.length:=yF _ (rfl);refine Z9 ?_;exact⟨jK X,λx h=>⟨λj=>⟨⟨h.1,Z⟩,⟨X,h1⟩,λhe=>NH h j Z he,λz=>⟨⟨by have:=h.1;omega,Z⟩,x+1,jL h j Z z,rfl,by have:=h.1;omega⟩⟩,λG=>kB h G⟩⟩
theorem aEm(i:Int)(cs:LC)(z f:LB)(X:Lo)(G:Ll)(L:Lk):aj Tryz.prog G0 201 [.dat I i,.ipv (.fn 135 []),.ip (.sl S) f] [] ⟨idx i (Di f),.dat I (cm (cJ f) i),[]⟩:=by
 refine zE (A:=aG) (p:=(idx i (Di f)->0<=i/\i<Di f/\True/\(Dj true->1=cm (cJ f) i/\True)/\(Dj true=false->0=cm (cJ f) i/\True))) KS5 λj=>?_;have y:0<=i:=j.1;have u:i<(f.length:Int):=j.2;refine Z9 ?_;rw[show cm (cJ f) i=_ from pE ⟨#[]⟩ y u];exact⟨y,u,(λh=>by cases h),rfl⟩
theorem aEv:eO 202 L6:=af λ((i:Int),((X,z,y,f,G,L):Net),_)=>by
 refine zE (A:=aG) (p:=let j:=Dj (bJ (jH (aH f) i));(idx i (Di f)->idx i (Di f)/\True/\(j->1=bT (aH f) i/\True)/\(j=false->0=bT (aH f) i/\True))) KS5 λu=>?_;refine Z9 ?_;exact⟨u,λh=>by simp[bT,h],λh=>by simp[bT,h]⟩
theorem aEq:eO 203 LW:=af λ((i:Int),((cs,ns,os,f,ls,ks):Net),_)=>by
 refine zE (A:=(lvA [(2,[0,1,3,4,5,6])] (twA (aH f) i))) (p:=let L:=Di f;let c2:=(cs,ns,os,f,ls,ks);(IY i L->(∃x,td (aH f) i x/\Q4 i c2 i (0=x/\True))/\∀(x:Int),let c3:=Gf (jH (aH f) x) (jH (aH f) i);let c4:=x+1;td (aH f) i x->(Dn x i->idx x L/\idx i L/\(c3->4=rule2 (aH f) i/\True)/\(c3=false->inR .i64 c4/\∃y,td (aH f) i y/\(Q4 i c2 i (c4=y/\True))/\Dc (i-y)<Dc (i-x)))/\(Dn x i=false->0=rule2 (aH f) i/\True))) KS5 λu=>?_;have X:0<=i:=u.1;have h1:i<(f.length:Int):=u.2.1;have h2:i<=1000:=u.2.2;have hl:((aH f).length:Int)=f.length:=yF _ (map_length _ f);refine Z9 ?_;exact⟨jK X,λx h=>⟨λj=>⟨⟨h.1,Z⟩,⟨X,h1⟩,λhe=>NH h j Z he,λz=>⟨⟨by have:=h.1;omega,Z⟩,x+1,jL h j Z z,rfl,by have:=h.1;omega⟩⟩,λG=>kB h G⟩⟩
theorem aEl(i:Int)(L:LC)(y u:LB)(f:Lo)(z:Ll)(G:Lk):aj Tryz.prog G0 204 [.dat I i,.ipv (.fn 138 [.ip N (L,y,u,f,z,G)]),.ip (.sl Of) f] [] ⟨idx i (Di f),.dat I (cm (eG (L,y,u,f,z,G)) i),[]⟩:=by
 refine zE (A:=aG) (p:=let c1:=Di f;let c2:=(L,y,u,f,z,G);let h:=Dj (dA c2 (Dw f (Dc i) (ByteArray.mk #[],(0:Int),(0:Int),(0:Int),(0:Int),(0:Int),Du ByteArray)));let j:=cm (eG c2) i;(idx i c1->0<=i/\i<c1/\True/\(h->1=j/\True)/\(h=false->0=j/\True))) KS5 λX=>?_;have h0:0<=i:=X.1;have h1:i<(f.length:Int):=X.2;refine Z9 ?_;rw[show cm (eG (L,y,u,f,z,G)) i=_ from pE _ h0 h1];exact⟨h0,h1,λh=>by rw[if_neg (by intro g;rw[show _=false from h]at g;cases g)],λh=>by rw[if_pos h]⟩
theorem aEu:eO 209 L0:=af λ((i:Int),((X,z,y,L,f,G):Net),_)=>by
 refine zE (A:=aG) (p:=let j:=Dj (bJ (jH (aI f) i));(idx i (Di f)->idx i (Di f)/\True/\(j->1=bT (aI f) i/\True)/\(j=false->0=bT (aI f) i/\True))) KS5 λu=>?_;refine Z9 ?_;exact⟨u,λh=>by simp[bT,h],λh=>by simp[bT,h]⟩
theorem aEp:eO 210 LV:=af λ((i:Int),((cs,ns,os,fs,f,ks):Net),_)=>by
 refine zE (A:=(lvA [(2,[0,1,3,4,5,6])] (twA (aI f) i))) (p:=let L:=Di f;let c2:=(cs,ns,os,fs,f,ks);(IY i L->(∃x,td (aI f) i x/\Q4 i c2 i (0=x/\True))/\∀(x:Int),let c3:=Gf (jH (aI f) x) (jH (aI f) i);let c4:=x+1;td (aI f) i x->(Dn x i->idx x L/\idx i L/\(c3->4=rule2 (aI f) i/\True)/\(c3=false->inR .i64 c4/\∃y,td (aI f) i y/\(Q4 i c2 i (c4=y/\True))/\Dc (i-y)<Dc (i-x)))/\(Dn x i=false->0=rule2 (aI f) i/\True))) KS5 λu=>?_;have X:0<=i:=u.1;have h1:i<(f.length:Int):=u.2.1;have h2:i<=1000:=u.2.2;have hl:((aI f).length:Int)=f.length:=yF _ (map_length _ f);refine Z9 ?_;exact⟨jK X,λx h=>⟨λj=>⟨⟨h.1,Z⟩,⟨X,h1⟩,λhe=>NH h j Z he,λz=>⟨⟨by have:=h.1;omega,Z⟩,x+1,jL h j Z z,rfl,by have:=h.1;omega⟩⟩,λG=>kB h G⟩⟩
theorem aEk(i:Int)(G:LC)(u j:LB)(z:Lo)(f:Ll)(y:Lk):aj Tryz.prog G0 211 [.dat I i,.ipv (.fn 142 [.ip N (G,u,j,z,f,y)]),.ip (.sl Ln) f] [] ⟨idx i (Di f),.dat I (cm (dO (G,u,j,z,f,y)) i),[]⟩:=by
 refine zE (A:=aG) (p:=let c1:=Di f;let c2:=(G,u,j,z,f,y);let c8:=Dj (dB c2 (Dw f (Dc i) (ByteArray.mk #[],(0:Int),(0:Int),(0:Int),(0:Int),(0:Int))));let h:=cm (dO c2) i;(idx i c1->0<=i/\i<c1/\True/\(c8->1=h/\True)/\(c8=false->0=h/\True))) KS5 λL=>?_;have h0:0<=i:=L.1;have X:i<(f.length:Int):=L.2;refine Z9 ?_;rw[show cm (dO (G,u,j,z,f,y)) i=_ from pE _ h0 X];exact⟨h0,X,λh=>by rw[if_neg (by intro g;rw[show _=false from h]at g;cases g)],λh=>by rw[if_pos h]⟩
theorem aEt:eO 213 LZ:=af λ((i:Int),((X,z,y,L,G,f):Net),_)=>by
 refine zE (A:=aG) (p:=let j:=Dj (bJ (jH (aM f) i));(idx i (Di f)->idx i (Di f)/\True/\(j->1=bT (aM f) i/\True)/\(j=false->0=bT (aM f) i/\True))) KS5 λu=>?_;refine Z9 ?_;exact⟨u,λh=>by simp[bT,h],λh=>by simp[bT,h]⟩
theorem aEo:eO 214 LU:=af λ((i:Int),((cs,ns,os,fs,ls,f):Net),_)=>by
 refine zE (A:=(lvA [(2,[0,1,3,4,5,6])] (twA (aM f) i))) (p:=let L:=Di f;let c2:=(cs,ns,os,fs,ls,f);(IY i L->(∃x,td (aM f) i x/\Q4 i c2 i (0=x/\True))/\∀(x:Int),let c3:=Gf (jH (aM f) x) (jH (aM f) i);let c4:=x+1;td (aM f) i x->(Dn x i->idx x L/\idx i L/\(c3->4=rule2 (aM f) i/\True)/\(c3=false->inR .i64 c4/\∃y,td (aM f) i y/\(Q4 i c2 i (c4=y/\True))/\Dc (i-y)<Dc (i-x)))/\(Dn x i=false->0=rule2 (aM f) i/\True))) KS5 λu=>?_;have X:0<=i:=u.1;have h1:i<(f.length:Int):=u.2.1;have h2:i<=1000:=u.2.2;have hl:((aM f).length:Int)=f.length:=yF _ (map_length _ f);refine Z9 ?_;exact⟨jK X,λx h=>⟨λj=>⟨⟨h.1,Z⟩,⟨X,h1⟩,λhe=>NH h j Z he,λz=>⟨⟨by have:=h.1;omega,Z⟩,x+1,jL h j Z z,rfl,by have:=h.1;omega⟩⟩,λG=>kB h G⟩⟩
theorem aEj(i:Int)(cs:LC)(X L:LB)(fs:Lo)(ls:Ll)(f:Lk):aj Tryz.prog G0 215 [.dat I i,.ipv (.fn 146 []),.ip (.sl Kl) f] [] ⟨idx i (Di f),.dat I (cm (bC f) i),[]⟩:=by
 refine zE (A:=aG) (p:=let G:=Di f;let z:=Dj (lr (Dw f (Dc i) (ByteArray.mk #[],(0:Int),(0:Int))));(idx i G->0<=i/\i<G/\True/\(z->1=cm (bC f) i/\True)/\(z=false->0=cm (bC f) i/\True))) KS5 λj=>?_;have y:0<=i:=j.1;have u:i<(f.length:Int):=j.2;refine Z9 ?_;rw[show cm (bC f) i=_ from pE _ y u];exact⟨y,u,λh=>by rw[if_neg (by intro g;rw[show _=false from h]at g;cases g)],λh=>by rw[if_pos h]⟩
theorem JK(f:Int)(l:List ByteArray)(g:List Bool):aT f l g 0=[]:=rfl
theorem nj(f:Int)(l:List ByteArray)(g:List Bool)(k:Int):(aT f l g k).length<=k.toNat:=by
 unfold aT;exact vP (qCu _ _) (by rw[yI];exact qL _)
theorem rp{f:Int}{l:List ByteArray}{g:List Bool}{k:Int}(j:0<=k)(h:nZ l g k≠0):aT f l g (k+1)=aT f l g k++[(f,k,nZ l g k)]:=by
 unfold aT;rw[show(k+1).toNat=k.toNat+1 by omega,yL,qAs];simp[wC j,h]
theorem wm{f:Int}{l:List ByteArray}{g:List Bool}{k:Int}(j:0<=k)(h:nZ l g k=0):aT f l g (k+1)=aT f l g k:=by
 unfold aT;rw[show(k+1).toNat=k.toNat+1 by omega,yL,qAs];simp[wC j,h]
theorem VN{l:List ByteArray}{g:List Bool}{i j:Int}(h:cw l g i j)(A:j<3)(f:[bT l i,rule2 l i,cm g i].getD j.toNat 0≠0):[bT l i,rule2 l i,cm g i].getD j.toNat 0=nZ l g i:=by
 obtain⟨G,_,u,z,_⟩:=h;have y:j=0\/j=1\/j=2:=Z;unfold nZ;rcases y with rfl|rfl|rfl;have f:bT l i≠0:=f;rw[if_pos f];rfl;have f:rule2 l i≠0:=f;rw[if_neg (by simp[u]),if_pos f];rfl;rw[if_neg (by simp[u]),if_neg (by simp[z])];rfl
theorem NS{l:List ByteArray}{g:List Bool}{i j:Int}(h:cw l g i j)(A:j<3)(f:[bT l i,rule2 l i,cm g i].getD j.toNat 0=0):cw l g i (j+1):=by
 obtain⟨L,_,u,z,G⟩:=h;have y:j=0\/j=1\/j=2:=Z;rcases y with rfl|rfl|rfl;exact⟨Z,Z,λ_=>f,λh=>Z,λh=>Z⟩;exact⟨Z,Z,λ_=>u Z,λ_=>f,λh=>Z⟩;exact⟨Z,Z,λ_=>u Z,λ_=>z Z,λ_=>f⟩
theorem QS{l:List ByteArray}{g:List Bool}{i j:Int}(h:cw l g i j)(z:¬j<3):nZ l g i=0:=by
 obtain⟨A,_,y,u,f⟩:=h;unfold nZ;rw[if_neg (by simp[y Z]),if_neg (by simp[u Z]),f Z]
theorem Iy{f j:Int}{l:List ByteArray}{g:List Bool}{m:Nat}(hm:l.length=m)(h1:0<=j)(h2:j<=100):
  (∃x,dG x (l.length:Int) j/\(aT f l g x).length=0/\aT f l g x=[]/\0=x/\aT f l g x=[])/\
  ∀(x:Int),dG x (l.length:Int) j->
    (x<min (m:Int) j->
      cw l g x 0/\∀(z:Int),cw l g x z->
         (z<3->0<=z/\z<(3:Nat)/\(z.toNat=0->idx x m)/\(z.toNat=1->IY x m)/\(z.toNat=2->idx x m)/\
                ([bT l x,rule2 l x,cm g x].getD z.toNat 0≠0->
                  ((aT f l g x).length+[(f,x,[bT l x,rule2 l x,cm g x].getD z.toNat 0)].length)*24<=140737488355328/\
                   (aT f l g x).length+[(f,x,[bT l x,rule2 l x,cm g x].getD z.toNat 0)].length<=9223372036854775807/\
                    inR .i64 (x+1)/\
                     ∃y,dG y (l.length:Int) j/\
                       ((aT f l g x).length+[(f,x,[bT l x,rule2 l x,cm g x].getD z.toNat 0)].length=(aT f l g y).length/\
                         x+1=y/\aT f l g x++[(f,x,[bT l x,rule2 l x,cm g x].getD z.toNat 0)]=aT f l g y)/\
                        (j-y).toNat<(j-x).toNat)/\
                 ([bT l x,rule2 l x,cm g x].getD z.toNat 0=0->inR .i64 (z+1)/\∃y,cw l g x y/\z+1=y/\(3-y).toNat<(3-z).toNat))/\
          (¬z<3->inR .i64 (x+1)/\∃y,dG y (l.length:Int) j/\((aT f l g x).length=(aT f l g y).length/\x+1=y/\aT f l g x=aT f l g y)/\(j-y).toNat<(j-x).toNat))/\
     (¬x<min (m:Int) j->
      ((m:Int)>j->((aT f l g x).length+[(f,j,(2:Int))].length)*24<=140737488355328/\
         (aT f l g x).length+[(f,j,(2:Int))].length<=9223372036854775807/\
          (aT f l g x++[(f,j,2)]).length=(aT f l g x).length+[(f,j,(2:Int))].length/\
           aT f l g x++[(f,j,2)]=bF f j l g)/\
       (¬(m:Int)>j->aT f l g x=bF f j l g)):=by
 subst hm;refine⟨⟨0,⟨qN _,qU _,h1⟩,rfl,rfl,rfl,rfl⟩,λx ⟨A,x1,x2⟩=>⟨λhlt=>⟨⟨qN _,by decide,λh=>Z,λh=>Z,λh=>Z⟩,λz G=>⟨λu=>?_,λu=>?_⟩⟩,λhge=>?_⟩⟩;have hk:=nj f l g x;refine⟨G.1,Z,λ_=>⟨A,Z⟩,λ_=>⟨A,Z,Z⟩,λ_=>⟨A,Z⟩,λL=>?_,λL=>⟨⟨by have:=G.1;omega,Z⟩,z+1,NS G u L,rfl,by have:=G.1;omega⟩⟩;have e:=VN G u L;rw[e]at L ⊢;refine⟨by simp only[vC];omega,by simp only[vC];omega,⟨Z,Z⟩,x+1,⟨Z,Z,Z⟩,⟨?_,rfl,(rp A L).symm⟩,Z⟩;rw[rp A L,qG];have e:=QS G u;exact⟨⟨Z,Z⟩,x+1,⟨Z,Z,Z⟩,⟨by rw[wm A e],rfl,(wm A e).symm⟩,Z⟩;have hk:=nj f l g x;have X:x=min (l.length:Int) j:=Z;refine⟨λh=>⟨by simp only[vC];omega,by simp only[vC];omega,qG,?_⟩,λh=>?_⟩;unfold bF Gu;rw[if_pos Z,<- X];unfold bF Gu;rw[if_neg Z,<- X,wH]
theorem KS6:ay Tryz.prog G0 K6:=
 ai aEx<|ai aEs<|ai (af λ(i,_,y,_)=>aEn i y [] [] [] [] [])<|ai aEw<|ai aEr<|ai (af λ(i,_,j,_)=>aEm i [] [] j [] [] [])<|ai aEv<|ai aEq<|ai (af λ(i,(y,G,j,A,z,u),f,_)=>aj.of_pre λ(h:idx i (Di A)/\f=A)=>by obtain⟨h,rfl⟩:=h;exact(aEl i y G j f z u).weaken λ_=>h)<|ai aEu<|ai aEp<|ai (af λ(i,(y,G,j,A,z,u),f,_)=>aj.of_pre λ(h:idx i (Di z)/\f=z)=>by obtain⟨h,rfl⟩:=h;exact(aEk i y G j A f u).weaken λ_=>h)<|ai aEt<|ai aEo<|ai (af λ(i,_,u,_)=>aEj i [] [] [] [] [] u) KS5
theorem aEP(f:LC)(L os:LB)(fs:Lo)(ls:Ll)(ks:Lk):aj Tryz.prog G0 132 [.dat I 1,.dat I 6,.dat (.sl C) f,.fn 131 [.ip N (f,L,os,fs,ls,ks)],.fn 127 []] [] ⟨True,.dat (.sl Fa) (bF 1 6 (aE f L) (bv f)),[]⟩:=by
 refine zE (A:=(lvA [(4,[0,1,7,10,11,12,13,15,16,24,25,28,29]),(7,[0,1,7,10,11,12,13,15,16,24,25,28,29])] (Iz 1 6 (aE f L) (bv f)))) (p:=let j:=aE f L;let c1:=Di f;let G:=Eu c1 6;let z:=(f,L,os,fs,ls,ks);let c4:=Ee c1 6;let c5:=[((1:Int),(6:Int),(2:Int))];let c6:=bF 1 6 j (bv f);(True->L7 1 0 ((∃x,let c7:=aT 1 j (bv f) x;dG x (Di j) 6/\T7 (1:Int) (6:Int) f Z0 1 0 0 (Dl c7=0/\c7=Du (Int×Int×Int)/\G=G/\0=x/\Q4 z z f (c7=Du (Int×Int×Int)/\True)))/\∀(x:Int),let c8:=Di j;let A:=aT 1 j (bv f) x;let u:=Dl A;let c12:=x+1;let c13:=u+Dl c5;let c14:=En A c5;dG x c8 6->(Dn x G->L7 1 0 ((∃h,cw j (bv f) x h/\L4 (1:Int) (6:Int) f Z0 1 0 0 u x (T6 G x z z f (0=h/\k8 z z f A)))/\∀(h:Int),let c15:=Dn h 3;let c16:=Dw [bT j x,rule2 j x,cm (bv f) x] (Dc h) 0;let c17:=Ea c16 0;let c18:=[((1:Int),x,c16)];let X:=u+Dl c18;let c20:=h+1;cw j (bv f) x h->(c15->0<=h/\h<Ec 3/\(Dc h=0->idx x c1)/\(Dc h=1->IY x c1)/\(Dc h=2->idx x c1)/\(c17->u=u/\(X*24)<=140737488355328/\X<=9223372036854775807/\inR .i64 c12/\∃y,let c21:=aT 1 j (bv f) y;dG y c8 6/\(T7 (1:Int) (6:Int) f Z0 1 0 0 (X=Dl c21/\G=G/\c12=y/\Q4 z z f (En A c18=c21/\True)))/\Dc (6-y)<Dc (6-x))/\(c17=false->inR .i64 c20/\∃y,cw j (bv f) x y/\(L4 (1:Int) (6:Int) f Z0 1 0 0 u x (T6 G x z z f (c20=y/\k8 z z f A)))/\Dc (3-y)<Dc (3-h)))/\(c15=false->inR .i64 c12/\∃y,let c22:=aT 1 j (bv f) y;
  dG y c8 6/\(T7 (1:Int) (6:Int) f Z0 1 0 0 (u=Dl c22/\G=G/\c12=y/\Q4 z z f (A=c22/\True)))/\Dc (6-y)<Dc (6-x))))/\(Dn x G=false->(c4->u=u/\(c13*24)<=140737488355328/\c13<=9223372036854775807/\Dl c14=c13/\c14=c6/\True)/\(c4=false->u=u/\A=c6/\True))))) KS6 λ_=>?_
 have hm:(aE f L).length=f.length:=dY f L;refine Z9 ?_;exact Iy hm (by decide) (by decide)
theorem aEO(cs:LC)(ns f:LB)(fs:Lo)(ls:Ll)(ks:Lk):aj Tryz.prog G0 134 [.dat I 2,.dat I 6,.dat (.sl S) f,.fn 133 [.ip N (cs,ns,f,fs,ls,ks)],.fn 135 []] [] ⟨True,.dat (.sl Fa) (bF 2 6 (f) (cJ f)),[]⟩:=by
 refine zE (A:=(lvA [(4,[0,1,7,10,11,12,13,15,16,24,25,28,29]),(7,[0,1,7,10,11,12,13,15,16,24,25,28,29])] (Iz 2 6 (f) (cJ f)))) (p:=let A:=Di f;let z:=Eu A 6;let j:=(cs,ns,f,fs,ls,ks);let c3:=Ee A 6;let c4:=[((2:Int),(6:Int),(2:Int))];let c5:=bF 2 6 f (cJ f);(True->L7 1 0 ((∃x,let c6:=aT 2 f (cJ f) x;dG x A 6/\T7 (2:Int) (6:Int) f Z0 1 0 0 (Dl c6=0/\c6=Du (Int×Int×Int)/\z=z/\0=x/\Q4 j j f (c6=Du (Int×Int×Int)/\True)))/\∀(x:Int),let c7:=aT 2 f (cJ f) x;let u:=Dl c7;let G:=x+1;let X:=u+Dl c4;let c12:=En c7 c4;dG x A 6->(Dn x z->L7 1 0 ((∃h,cw f (cJ f) x h/\L4 (2:Int) (6:Int) f Z0 1 0 0 u x (T6 z x j j f (0=h/\k8 j j f c7)))/\∀(h:Int),let c13:=Dn h 3;let c14:=Dw [bT f x,rule2 f x,cm (cJ f) x] (Dc h) 0;let c15:=Ea c14 0;let c16:=[((2:Int),x,c14)];let L:=u+Dl c16;let c18:=h+1;cw f (cJ f) x h->(c13->0<=h/\h<Ec 3/\(Dc h=0->idx x A)/\(Dc h=1->IY x A)/\(Dc h=2->idx x A)/\(c15->u=u/\(L*24)<=140737488355328/\L<=9223372036854775807/\inR .i64 G/\∃y,let c19:=aT 2 f (cJ f) y;dG y A 6/\(T7 (2:Int) (6:Int) f Z0 1 0 0 (L=Dl c19/\z=z/\G=y/\Q4 j j f (En c7 c16=c19/\True)))/\Dc (6-y)<Dc (6-x))/\(c15=false->inR .i64 c18/\∃y,cw f (cJ f) x y/\(L4 (2:Int) (6:Int) f Z0 1 0 0 u x (T6 z x j j f (c18=y/\k8 j j f c7)))/\Dc (3-y)<Dc (3-h)))/\(c13=false->inR IntKind.i64 G/\∃y,let c20:=aT 2 f (cJ f) y;
  dG y A 6/\(T7 (2:Int) (6:Int) f Z0 1 0 0 (u=Dl c20/\z=z/\G=y/\Q4 j j f (c7=c20/\True)))/\Dc (6-y)<Dc (6-x))))/\(Dn x z=false->(c3->u=u/\(X*24)<=140737488355328/\X<=9223372036854775807/\Dl c12=X/\c12=c5/\True)/\(c3=false->u=u/\c7=c5/\True))))) KS6 λ_=>?_
 have hm:(f).length=f.length:=rfl;refine Z9 ?_;exact Iy hm (by decide) (by decide)
theorem aEN(cs:LC)(ns os:LB)(f:Lo)(ls:Ll)(ks:Lk):aj Tryz.prog G0 137 [.dat I 3,.dat I 12,.dat (.sl Of) f,.fn 136 [.ip N (cs,ns,os,f,ls,ks)],.fn 138 [.ip N (cs,ns,os,f,ls,ks)]] [] ⟨True,.dat (.sl Fa) (bF 3 12 (aH f) (eG (cs,ns,os,f,ls,ks))),[]⟩:=by
 refine zE (A:=(lvA [(4,[0,1,7,10,11,12,13,15,16,24,25,28,29]),(7,[0,1,7,10,11,12,13,15,16,24,25,28,29])] (Iz 3 12 (aH f) (eG (cs,ns,os,f,ls,ks))))) (p:=let L:=Di (aH f);let u:=(cs,ns,os,f,ls,ks);let G:=eG u;let c3:=Di f;let z:=Eu c3 12;let c5:=Ee c3 12;let c6:=[((3:Int),(12:Int),(2:Int))];let c7:=bF 3 12 (aH f) G;(True->L7 1 0 ((∃x,let c8:=aT 3 (aH f) G x;dG x L 12/\T7 (3:Int) (12:Int) f Z0 1 0 0 (Dl c8=0/\c8=Du (Int×Int×Int)/\z=z/\0=x/\T4 u u u f (c8=Du (Int×Int×Int)/\True)))/\∀(x:Int),let A:=aT 3 (aH f) G x;let j:=Dl A;let c12:=x+1;let c13:=j+Dl c6;let c14:=En A c6;dG x L 12->(Dn x z->L7 1 0 ((∃h,cw (aH f) G x h/\L4 (3:Int) (12:Int) f Z0 1 0 0 j x (w6 z x u u u f (0=h/\d8 u u u f A)))/\∀(h:Int),let c15:=Dn h 3;let c16:=Dw [bT (aH f) x,rule2 (aH f) x,cm G x] (Dc h) 0;let c17:=Ea c16 0;let c18:=[((3:Int),x,c16)];let X:=j+Dl c18;let c20:=h+1;cw (aH f) G x h->(c15->0<=h/\h<Ec 3/\(Dc h=0->idx x c3)/\(Dc h=1->IY x c3)/\(Dc h=2->idx x c3/\f=f)/\(c17->j=j/\(X*24)<=140737488355328/\X<=9223372036854775807/\inR .i64 c12/\∃y,let c21:=aT 3 (aH f) G y;dG y L 12/\(T7 (3:Int) (12:Int) f Z0 1 0 0 (X=Dl c21/\z=z/\c12=y/\T4 u u u f (En A c18=c21/\True)))/\Dc (12-y)<Dc (12-x))/\(c17=false->inR .i64 c20/\∃y,cw (aH f) G x y/\(L4 (3:Int) (12:Int) f Z0 1 0 0 j x (w6 z x u u u f (c20=y/\d8 u u u f A)))/\Dc (3-y)<Dc (3-h)))/\(c15=false->inR .i64 c12/\∃y,let c22:=aT 3 (aH f) G y;
  dG y L 12/\(T7 (3:Int) (12:Int) f Z0 1 0 0 (j=Dl c22/\z=z/\c12=y/\T4 u u u f (A=c22/\True)))/\Dc (12-y)<Dc (12-x))))/\(Dn x z=false->(c5->j=j/\(c13*24)<=140737488355328/\c13<=9223372036854775807/\Dl c14=c13/\c14=c7/\True)/\(c5=false->j=j/\A=c7/\True))))) KS6 λ_=>?_
 have hm:(aH f).length=f.length:=map_length _ f;refine Z9 ?_;exact Iy hm (by decide) (by decide)
theorem aEM(cs:LC)(ns os:LB)(fs:Lo)(f:Ll)(ks:Lk):aj Tryz.prog G0 141 [.dat I 4,.dat I 40,.dat (.sl Ln) f,.fn 140 [.ip N (cs,ns,os,fs,f,ks)],.fn 142 [.ip N (cs,ns,os,fs,f,ks)]] [] ⟨True,.dat (.sl Fa) (bF 4 40 (aI f) (dO (cs,ns,os,fs,f,ks))),[]⟩:=by
 refine zE (A:=(lvA [(4,[0,1,7,10,11,12,13,15,16,24,25,28,29]),(7,[0,1,7,10,11,12,13,15,16,24,25,28,29])] (Iz 4 40 (aI f) (dO (cs,ns,os,fs,f,ks))))) (p:=let L:=Di (aI f);let u:=(cs,ns,os,fs,f,ks);let G:=dO u;let c3:=Di f;let z:=Eu c3 40;let c5:=Ee c3 40;let c6:=[((4:Int),(40:Int),(2:Int))];let c7:=bF 4 40 (aI f) G;(True->L7 1 0 ((∃x,let c8:=aT 4 (aI f) G x;dG x L 40/\T7 (4:Int) (40:Int) f Z0 1 0 0 (Dl c8=0/\c8=Du (Int×Int×Int)/\z=z/\0=x/\T4 u u u f (c8=Du (Int×Int×Int)/\True)))/\∀(x:Int),let A:=aT 4 (aI f) G x;let j:=Dl A;let c12:=x+1;let c13:=j+Dl c6;let c14:=En A c6;dG x L 40->(Dn x z->L7 1 0 ((∃h,cw (aI f) G x h/\L4 (4:Int) (40:Int) f Z0 1 0 0 j x (w6 z x u u u f (0=h/\d8 u u u f A)))/\∀(h:Int),let c15:=Dn h 3;let c16:=Dw [bT (aI f) x,rule2 (aI f) x,cm G x] (Dc h) 0;let c17:=Ea c16 0;let c18:=[((4:Int),x,c16)];let X:=j+Dl c18;let c20:=h+1;cw (aI f) G x h->(c15->0<=h/\h<Ec 3/\(Dc h=0->idx x c3)/\(Dc h=1->IY x c3)/\(Dc h=2->idx x c3/\f=f)/\(c17->j=j/\(X*24)<=140737488355328/\X<=9223372036854775807/\inR .i64 c12/\∃y,let c21:=aT 4 (aI f) G y;dG y L 40/\(T7 (4:Int) (40:Int) f Z0 1 0 0 (X=Dl c21/\z=z/\c12=y/\T4 u u u f (En A c18=c21/\True)))/\Dc (40-y)<Dc (40-x))/\(c17=false->inR .i64 c20/\∃y,cw (aI f) G x y/\(L4 (4:Int) (40:Int) f Z0 1 0 0 j x (w6 z x u u u f (c20=y/\d8 u u u f A)))/\Dc (3-y)<Dc (3-h)))/\(c15=false->inR .i64 c12/\∃y,let c22:=aT 4 (aI f) G y;
  dG y L 40/\(T7 (4:Int) (40:Int) f Z0 1 0 0 (j=Dl c22/\z=z/\c12=y/\T4 u u u f (A=c22/\True)))/\Dc (40-y)<Dc (40-x))))/\(Dn x z=false->(c5->j=j/\(c13*24)<=140737488355328/\c13<=9223372036854775807/\Dl c14=c13/\c14=c7/\True)/\(c5=false->j=j/\A=c7/\True))))) KS6 λ_=>?_
 have hm:(aI f).length=f.length:=map_length _ f;refine Z9 ?_;exact Iy hm (by decide) (by decide)
theorem aEL(cs:LC)(ns os:LB)(fs:Lo)(ls:Ll)(f:Lk):aj Tryz.prog G0 145 [.dat I 5,.dat I 4,.dat (.sl Kl) f,.fn 144 [.ip N (cs,ns,os,fs,ls,f)],.fn 146 []] [] ⟨True,.dat (.sl Fa) (bF 5 4 (aM f) (bC f)),[]⟩:=by
 refine zE (A:=(lvA [(4,[0,1,7,10,11,12,13,15,16,24,25,28,29]),(7,[0,1,7,10,11,12,13,15,16,24,25,28,29])] (Iz 5 4 (aM f) (bC f)))) (p:=let G:=Di (aM f);let c1:=Di f;let u:=Eu c1 4;let j:=(cs,ns,os,fs,ls,f);let c4:=Ee c1 4;let c5:=[((5:Int),(4:Int),(2:Int))];let c6:=bF 5 4 (aM f) (bC f);(True->L7 1 0 ((∃x,let c7:=aT 5 (aM f) (bC f) x;dG x G 4/\T7 (5:Int) (4:Int) f Z0 1 0 0 (Dl c7=0/\c7=Du (Int×Int×Int)/\u=u/\0=x/\Q4 j j f (c7=Du (Int×Int×Int)/\True)))/\∀(x:Int),let L:=aT 5 (aM f) (bC f) x;let A:=Dl L;let z:=x+1;let c12:=A+Dl c5;let c13:=En L c5;dG x G 4->(Dn x u->L7 1 0 ((∃h,cw (aM f) (bC f) x h/\L4 (5:Int) (4:Int) f Z0 1 0 0 A x (T6 u x j j f (0=h/\k8 j j f L)))/\∀(h:Int),let c14:=Dn h 3;let c15:=Dw [bT (aM f) x,rule2 (aM f) x,cm (bC f) x] (Dc h) 0;let c16:=Ea c15 0;let c17:=[((5:Int),x,c15)];let X:=A+Dl c17;let c19:=h+1;cw (aM f) (bC f) x h->(c14->0<=h/\h<Ec 3/\(Dc h=0->idx x c1)/\(Dc h=1->IY x c1)/\(Dc h=2->idx x c1)/\(c16->A=A/\(X*24)<=140737488355328/\X<=9223372036854775807/\inR .i64 z/\∃y,let c20:=aT 5 (aM f) (bC f) y;dG y G 4/\(T7 (5:Int) (4:Int) f Z0 1 0 0 (X=Dl c20/\u=u/\z=y/\Q4 j j f (En L c17=c20/\True)))/\Dc (4-y)<Dc (4-x))/\(c16=false->inR .i64 c19/\∃y,cw (aM f) (bC f) x y/\(L4 (5:Int) (4:Int) f Z0 1 0 0 A x (T6 u x j j f (c19=y/\k8 j j f L)))/\Dc (3-y)<Dc (3-h)))/\(c14=false->inR .i64 z/\∃y,let c21:=aT 5 (aM f) (bC f) y;
  dG y G 4/\(T7 (5:Int) (4:Int) f Z0 1 0 0 (A=Dl c21/\u=u/\z=y/\Q4 j j f (L=c21/\True)))/\Dc (4-y)<Dc (4-x))))/\(Dn x u=false->(c4->A=A/\(c12*24)<=140737488355328/\c12<=9223372036854775807/\Dl c13=c12/\c13=c6/\True)/\(c4=false->A=A/\L=c6/\True))))) KS6 λ_=>?_
 have hm:(aM f).length=f.length:=map_length _ f;refine Z9 ?_;exact Iy hm (by decide) (by decide)
theorem KS7:ay Tryz.prog G0 K7:=
 ai (af λ(k,m,f,(G,u,j,A,y,z),_,_)=>aj.of_pre λ(h:k=1/\m=6/\f=G)=>by obtain⟨rfl,rfl,rfl⟩:=h;exact((aEP f u j A y z).weaken λ_=>trivial)) <|
 ai (af λ(k,m,f,(G,u,j,A,y,z),_,_)=>aj.of_pre λ(h:k=2/\m=6/\f=j)=>by obtain⟨rfl,rfl,rfl⟩:=h;exact((aEO G u f A y z).weaken λ_=>trivial)) <|
 ai (af λ(k,m,f,(G,u,j,A,y,z),L,_)=>aj.of_pre λ(h:k=3/\m=12/\f=A/\L=(G,u,j,A,y,z))=>by obtain⟨rfl,rfl,rfl,rfl⟩:=h;exact((aEN G u j f y z).weaken λ_=>trivial)) <|
 ai (af λ(k,m,f,(G,u,j,A,y,z),L,_)=>aj.of_pre λ(h:k=4/\m=40/\f=y/\L=(G,u,j,A,y,z))=>by obtain⟨rfl,rfl,rfl,rfl⟩:=h;exact((aEM G u j A f z).weaken λ_=>trivial)) <|
 ai (af λ(k,m,f,(G,u,j,A,y,z),_,_)=>aj.of_pre λ(h:k=5/\m=4/\f=z)=>by obtain⟨rfl,rfl,rfl⟩:=h;exact((aEL G u j A y f).weaken λ_=>trivial))<|KS6
theorem jW(j f:Int)(l:List ByteArray)(g:List Bool)(h:0<=f):(bF j f l g).length<=f.toNat+1:=by
 unfold bF Gu;have:=nj j l g (min l.length f);rw[qG];split<;>simp only[vC,yZ]<;>omega
theorem A4(j:LC)(u f:LB)(z:Lo)(y:Ll)(h:Lk):dd (j,u,f,z,y,h)=CM (j,u,f,z,y,h)++(bF 1 6 (aE j u) (bv j)++(bF 2 6 f (cJ f)++(bF 3 12 (aH z) (eG (j,u,f,z,y,h))++(bF 4 40 (aI y) (dO (j,u,f,z,y,h))++bF 5 4 (aM h) (bC h))))):=by
 unfold dd aD;rw[show(Int.toNat 6-1)=5 from rfl,show List.range 5=[0,1,2,3,4]from rfl];simp only[kT,qCv,wH];rfl
abbrev wj:=MX [.row N] (λ_=>True) (λ(n,_)=>.buf 0 (Dl (dd n))) λ(n,_)=>.buf 153 Fa (dd n) []
theorem Vd:eO 74 wj:=Ic λ(((h,ns,j,z,y,u):Net),_)=>by
 refine zE (A:=aG) (p:=let c37:=(5:Int)=(5:Int)/\(4:Int)=(4:Int)/\u=u;let c36:=(2:Int)=(2:Int)/\(6:Int)=(6:Int)/\j=j;let c35:=(1:Int)=(1:Int)/\(6:Int)=(6:Int)/\h=h;let c1:=Ea (Di ns) (Di h);let c2:=[((1:Int),(-1:Int),(1:Int))];let c3:=Dl c2;let c4:=bF 1 6 (aE h ns) (bv h);let c5:=Dl c4;let A:=c3+c5;let c7:=En c2 c4;let c8:=bF 2 6 j (cJ j);let c9:=Dl c8;let c10:=A+c9;let f:=(h,ns,j,z,y,u);let c34:=(4:Int)=(4:Int)/\(40:Int)=(40:Int)/\y=y/\f=f;let c33:=(3:Int)=(3:Int)/\(12:Int)=(12:Int)/\z=z/\f=f;let c12:=En c7 c8;let c13:=bF 3 12 (aH z) (eG f);let c14:=Dl c13;let c15:=c10+c14;let c16:=En c12 c13;let c17:=bF 4 40 (aI y) (dO f);let c18:=Dl c17;let c19:=c15+c18;let c20:=En c16 c17;let c21:=bF 5 4 (aM u) (bC u);let c22:=Dl c21;let c23:=c19+c22;let c24:=dd f;let c25:=Dl c24;let X:=c5+c9;let c27:=En c4 c8;let L:=X+c14;let c29:=En c27 c13;let G:=L+c18;let c31:=En c29 c17;let c32:=G+c22;
  (True->(c1->(c3*24)<=140737488355328/\c3<=9223372036854775807/\c35/\c3=c3/\(A*24)<=140737488355328/\A<=9223372036854775807/\c36/\Dl c7=A/\(c10*24)<=140737488355328/\c10<=9223372036854775807/\c33/\Dl c12=c10/\(c15*24)<=140737488355328/\c15<=9223372036854775807/\c34/\Dl c16=c15/\(c19*24)<=140737488355328/\c19<=9223372036854775807/\c37/\Dl c20=c19/\(c23*24)<=140737488355328/\c23<=9223372036854775807/\c23=c25/\En c20 c21=c24/\True)/\(c1=false->c35/\(c5*24)<=140737488355328/\c5<=9223372036854775807/\c36/\c5=c5/\(X*24)<=140737488355328/\X<=9223372036854775807/\c33/\Dl c27=X/\(L*24)<=140737488355328/\L<=9223372036854775807/\c34/\Dl c29=L/\(G*24)<=140737488355328/\G<=9223372036854775807/\c37/\Dl c31=G/\(c32*24)<=140737488355328/\c32<=9223372036854775807/\c32=c25/\En c31 c21=c24/\True))) KS7 λ_=>?_
 have h1:=jW 1 6 (aE h ns) (bv h) (by decide);have h2:=jW 2 6 j (cJ j) (by decide);have h3:=jW 3 12 (aH z) (eG (h,ns,j,z,y,u)) (by decide);have h4:=jW 4 40 (aI y) (dO (h,ns,j,z,y,u)) (by decide);have h5:=jW 5 4 (aM u) (bC u) (by decide);rw[A4];refine Z9 ?_;refine⟨λhne=>?_,λhe=>?_⟩;rw[show CM (h,ns,j,z,y,u)=[(1,-1,1)]from if_neg λe=>hne (yF Int.ofNat e)];generalize bF 1 6 _ _=a1 at *;generalize bF 2 6 _ _=a2 at *;generalize bF 3 12 _ _=a3 at *;generalize bF 4 40 _ _=a4 at *;generalize bF 5 4 _ _=a5 at *;simp only[qG,vC,zJ]
 and_intros<;>first|omega|rfl
 rw[show CM (h,ns,j,z,y,u)=[]from if_pos (Int.ofNat.inj he)];generalize bF 1 6 _ _=a1 at *;generalize bF 2 6 _ _=a2 at *;generalize bF 3 12 _ _=a3 at *;generalize bF 4 40 _ _=a4 at *;generalize bF 5 4 _ _=a5 at *;simp only[qG,xU,zJ]
 and_intros<;>first|omega|rfl
abbrev M:Ty:=.sl R
def upN(k n:Int):Prop:=0<=k/\k<=n
def nY(n:Net):Bool:=iC n&&n.2.2.2.1.all λo=>decide (o.2.2.2.2.2.2.length<=30)
def Ro(n:Net)(k i:Int):Prop:=nY n=true/\1<=k/\k<=5/\0<=i/\i<(ak n k).length
def HY(n:Net)(k i:Int):Bool:=(fO n k).getD i.toNat false
def aY(n:Net)(k i:Int):List ByteArray:=(ak n k).take i.toNat
def aw(n:Net)(k i:Int):List (Int×Int×Int):=aD n k++aT k (ak n k) (fO n k) i
def nUp(n:Net)(k i:Int):Prop:=0<=i/\i<=(ak n k).length/\i<=bI k
def kUp(k:Int):Prop:=1<=k/\k<=6
def Np(f:List (Int×List Bool×Li))(k:Int):Prop:=0<=k/\k<=f.length/\(f.take k.toNat).all (λc=>nQ c.2.1 c.2.2)=true
def LA(f:Lo)(k:Int):Prop:=0<=k/\k<=f.length/\(f.take k.toNat).all (λo=>decide (o.2.2.2.2.2.2.length<=30))=true
def nS(l:List ByteArray):Bool:=l.all λs=>decide (s.size<=40)
def Cj(n:Net)(k:Int):Prop:=1<=k/\k<=6/\∀j:Int,1<=j->j<k->nS (ak n j)=true
def WH(l:List ByteArray)(i:Int):Prop:=0<=i/\i<=l.length/\nS (l.take i.toNat)=true
def aAz(n:Net):Bool:=iC n&&(n.1.all λc=>nQ c.2.1 c.2.2)&&(n.2.2.2.1.all λo=>decide (o.2.2.2.2.2.2.length<=30))&&nS (ak n 1)&&nS (ak n 2)&&nS (ak n 3)&&nS (ak n 4)&&nS (ak n 5)
def noF(n:Net):Bool:=(dd n).isEmpty
def K8:Kt:=kOr 74 wj K7
def Ry(n:Net)(k:Int)(f slot:Nat)(st:St)(xs:List ByteArray):Option Spec:=some {α:=Int,inv:=λi=>upN i (Di (ak n k)),st:=λi=>oG (put st [(slot,.dat I i),(5,.buf 100 (Dl (aY n k i)))]) 100 (.buf 9 S (aY n k i) []),μ:=λi=>Dc (Dk (Di (ak n k)) i)}
def aCx(n:Net):Ann:=⟨λh f=>match h with
 |5=>Ry n 1 5 6 f []|12=>Ry n 2 12 7 f []|17=>Ry n 3 17 8 f []|22=>Ry n 4 22 9 f []|27=>Ry n 5 27 10 f []|_=>none,λ_ _=>none,λ_ _=>none⟩
abbrev AI:=aA [.row N,.val I] (λ(n,_,_)=>iC n=true) λ(n,k,_)=>.dat (.sl S) (ak n k)
abbrev sA:=aA [.row N,.val I,.val I] (λ(n,k,i,_)=>Ro n k i) λ(n,k,i,_)=>.dat .bool (HY n k i)
def K9:Kt:=kOr 150 AI <|
 kOr 217 sA K8
def aCS(l:List ByteArray)(i:Int):Ann:=Z8 5 Int (td l i) (λf k=>put f [(10,.dat I k)]) λk=>Dc (Dk i k)
def aGA(n:Net):Ann:=⟨λf st=>match f with
 |4=>some {α:=Int,inv:=λk=>Np n.1 k,st:=λk=>put st [(3,.dat I k)],μ:=λk=>Dc (Dk (Di n.1) k)}|9=>some {α:=Int,inv:=λk=>LA n.2.2.2.1 k,st:=λk=>put st [(4,.dat I k)],μ:=λk=>Dc (Dk (Di n.2.2.2.1) k)}|14=>some {α:=Int,inv:=λk=>Cj n k,st:=λk=>put st [(5,.dat I k)],μ:=λk=>Dc (Dk 6 k)}|18=>match st.sig.T 5 with
  |.dat (.int .i64) k=>some {α:=Int,inv:=λi=>WH (ak n k) i,st:=λi=>put st [(7,.dat I i)],μ:=λi=>Dc (Dk (Di (ak n k)) i)}|_=>none
 |_=>none,λ_ _=>none,λ_ _=>none⟩
abbrev MI:=aA [.row N] (λ_=>True) λ(n,_)=>.dat .bool (aAz n)
def K10:Kt:=kOr 152 (aA [.row N,.val I,.val (.sl S),.val I] (λ(n,k,l,i,_)=>Ro n k i/\l=ak n k) λ(n,k,_,i,_)=>.dat I (nZ (ak n k) (fO n k) i)) <|
 kOr 76 MI K9
def VR(n:Net):Ann:=⟨λf st=>match f with
 |5=>some {α:=Int,inv:=λk=>kUp k,st:=λk=>oG (put st [(4,.dat I k),(3,.buf 0 (Dl (aD n k)))]) 0 (.buf 153 Fa (aD n k) []),μ:=λk=>Dc (Dk 6 k)}|9=>match st.sig.T 4 with
  |.dat (.int .i64) k=>some {α:=Int,inv:=λi=>nUp n k i,st:=λi=>oG (put st [(6,.dat I i),(3,.buf 0 (Dl (aw n k i)))]) 0 (.buf 153 Fa (aw n k i) []),μ:=λi=>Dc (Dk (Di (ak n k)) i)}|_=>none
 |_=>none,λ_ _=>none,λ_ _=>none⟩
abbrev sr:=MX [.row N] (λ(n,_)=>nY n=true) (λ(n,_)=>.buf 0 (Dl (dd n))) λ(n,_)=>.buf 153 Fa (dd n) []
def K11:Kt:=kOr 77 sr K10
abbrev mD:=aA [.row N] (λ(n,_)=>nY n=true) λ(n,_)=>.dat .bool (noF n)
def K12:Kt:=kOr 153 mD K11
theorem KS8:ay Tryz.prog G0 K8:=ai Vd KS7
theorem Jw{n:Net}{k i:Int}(h:0<=i)(f:i<=(ak n k).length):(aY n k i).length=i.toNat:=by
 unfold aY;rw[qO];omega
theorem GM{n:Net}{k i:Int}(h:0<=i)(f:i<(ak n k).length):aY n k (i+1)=aY n k i++[(ak n k).getD i.toNat ⟨#[]⟩]:=by
 unfold aY;rw[show(i+1).toNat=i.toNat+1 by omega,wY,qA,qB (show i.toNat<(ak n k).length by omega)];rfl
theorem Jy{n:Net}{k i:Int}(h:i<=(ak n k).length)(f:¬i<(ak n k).length):aY n k i=ak n k:=by
 unfold aY;exact qM Z
theorem GK{n:Net}{k:Int}{m:Nat}{el:Int->ByteArray}(L:(ak n k).length=m)(hm:m<=100)(A:∀x,0<=x->x<(m:Int)->(ak n k).getD x.toNat ⟨#[]⟩=el x){R:List ByteArray}(G:R=ak n k):
  (∃x,upN x (ak n k).length/\(aY n k x).length=0/\aY n k x=[]/\0=x/\aY n k x=[])/\
   ∀(x:Int),upN x (ak n k).length->
    (x<(m:Int)->0<=x/\x<(m:Int)/\((aY n k x).length+[el x].length)*16<=140737488355328/\(aY n k x).length+[el x].length<=9223372036854775807/\inR .i64 (x+1)/\
     ∃y,upN y (ak n k).length/\((aY n k x).length+[el x].length=(aY n k y).length/\x+1=y/\aY n k x++[el x]=aY n k y)/\(((ak n k).length:Int)-y).toNat<(((ak n k).length:Int)-x).toNat)/\
    (¬x<(m:Int)->aY n k x=R):=by
 refine⟨⟨0,⟨qN _,qU _⟩,rfl,rfl,rfl,rfl⟩,λx ⟨h,u⟩=>⟨λf=>?_,λz=>by rw[G];exact Jy u Z⟩⟩;have X:=Jw h u;have j:=GM h (show x<((ak n k).length:Int) by omega);rw[A x h f]at j;refine⟨h,f,by simp only[vC];omega,by simp only[vC];omega,⟨Z,Z⟩,x+1,⟨Z,Z⟩,⟨by rw[j,qG],rfl,j.symm⟩,Z⟩
theorem CU(z:LC)(h f:LB)(y:Lo)(j:Ll)(u:Lk)(A:iC (z,h,f,y,j,u)=true):z.length<=10/\h.length<=10/\f.length<=10/\y.length<=16/\j.length<=50/\u.length<=8:=vO A
theorem ZF:eO 150 AI:=af λ(((X,j,u,L,z,G):Net),(k:Int),_)=>by
 refine zE (A:=(lvA [(5,[2,4,5,6,7,8,9,10,11]),(12,[2,4,5,7,8,9,10,11]),(17,[2,4,5,8,9,10,11]),(22,[2,4,5,9,10,11]),(27,[2,4,5,10])] (aCx (X,j,u,L,z,G)))) (p:=let c5:=ByteArray.mk #[];let f:=(X,j,u,L,z,G);let c2:=Ed k 1;let c3:=Di (ak f 1);let c4:=[ByteArray.mk #[]];let A:=ak f k;let c7:=Ed k 2;let c8:=Di (ak f 2);let c9:=Ed k 3;let c10:=Di (ak f 3);let c11:=Di L;let c13:=Ed k 4;let c14:=Di (ak f 4);let c15:=Di z;let c16:=((0:Int),(0:Int));let c18:=Ed k 5;let c19:=Di (ak f 5);let c20:=Di G;(iC f->(c2->(∃x,let c22:=aY f 1 x;upN x c3/\L7 f Z0 (Dl c22=0/\c22=Du ByteArray/\0=x/\k=k/\c22=Du ByteArray/\True))/\∀(x:Int),let c23:=Dn x (Di X);let c24:=Dn x (Di j);let c25:=aY f 1 x;let h:=Dl c25;let c27:=[Dw j (Dc x) c5];let c28:=h+Dl c27;let c29:=x+1;let c30:=h+(Dl c4);upN x c3->(c23->(c24->0<=x/\x<Di j/\h=h/\(c28*16)<=140737488355328/\c28<=9223372036854775807/\inR .i64 c29/\∃y,let c31:=aY f 1 y;upN y c3/\(L7 f Z0 (c28=Dl c31/\c29=y/\k=k/\En c25 c27=c31/\True))/\Dc (c3-y)<Dc (c3-x))/\(c24=false->h=h/\(c30*16)<=140737488355328/\c30<=9223372036854775807/\inR .i64 c29/\∃y,let c32:=aY f 1 y;upN y c3/\(L7 f Z0 (c30=Dl c32/\c29=y/\k=k/\En c25 c4=c32/\True))/\Dc (c3-y)<Dc (c3-x)))/\(c23=false->h=h/\c25=A/\True))/\(c2=false->(c7->(∃x,let c33:=aY f 2 x;upN x c8/\L7 f Z0 (Dl c33=0/\c33=Du ByteArray/\0=x/\k=k/\c33=Du ByteArray/\True))/\∀(x:Int),let c34:=Dn x (Di u);let c35:=aY f 2 x;let c36:=Dl c35;let c37:=[Dw u (Dc x) c5];let c38:=c36+Dl c37;let c39:=x+1;
  upN x c8->(c34->0<=x/\x<Di u/\c36=c36/\(c38*16)<=140737488355328/\c38<=9223372036854775807/\inR .i64 c39/\∃y,let c40:=aY f 2 y;upN y c8/\(L7 f Z0 (c38=Dl c40/\c39=y/\k=k/\En c35 c37=c40/\True))/\Dc (c8-y)<Dc (c8-x))/\(c34=false->c36=c36/\c35=A/\True))/\(c7=false->(c9->(∃x,let c41:=aY f 3 x;upN x c10/\L7 f Z0 (Dl c41=0/\c41=Du ByteArray/\0=x/\k=k/\c41=Du ByteArray/\True))/\∀(x:Int),let c42:=aY f 3 x;let c43:=Dl c42;let c44:=[(Dw L (Dc x) (ByteArray.mk #[],(0:Int),(0:Int),(0:Int),(0:Int),(0:Int),Du ByteArray)).1];let c45:=c43+Dl c44;let c46:=x+1;upN x c10->(Dn x c11->0<=x/\x<c11/\c43=c43/\(c45*16)<=140737488355328/\c45<=9223372036854775807/\inR .i64 c46/\∃y,let c47:=aY f 3 y;upN y c10/\(L7 f Z0 (c45=Dl c47/\c46=y/\k=k/\En c42 c44=c47/\True))/\Dc (c10-y)<Dc (c10-x))/\(Dn x c11=false->c43=c43/\c42=A/\True))/\(c9=false->(c13->(∃x,let c48:=aY f 4 x;upN x c14/\L7 f Z0 (Dl c48=0/\c48=Du ByteArray/\0=x/\k=k/\c48=Du ByteArray/\True))/\∀(x:Int),let c49:=aY f 4 x;let c50:=Dl c49;let c51:=[(Dw z (Dc x) (ByteArray.mk #[],(0:Int),(0:Int),(0:Int),c16)).1];let c52:=c50+Dl c51;let c53:=x+1;upN x c14->(Dn x c15->0<=x/\x<c15/\c50=c50/\(c52*16)<=140737488355328/\c52<=9223372036854775807/\inR .i64 c53/\∃y,let c54:=aY f 4 y;upN y c14/\(L7 f Z0 (c52=Dl c54/\c53=y/\k=k/\En c49 c51=c54/\True))/\Dc (c14-y)<Dc (c14-x))/\(Dn x c15=false->c50=c50/\c49=A/\True))/\(c13=false->(c18->(∃x,let c55:=aY f 5 x;
  upN x c19/\L7 f Z0 (Dl c55=0/\c55=Du ByteArray/\0=x/\c55=Du ByteArray/\True))/\∀(x:Int),let c56:=aY f 5 x;let c57:=Dl c56;let c58:=[(Dw G (Dc x) (ByteArray.mk #[],c16)).1];let c59:=c57+Dl c58;let c60:=x+1;upN x c19->(Dn x c20->0<=x/\x<c20/\c57=c57/\(c59*16)<=140737488355328/\c59<=9223372036854775807/\inR .i64 c60/\∃y,let c61:=aY f 5 y;upN y c19/\(L7 f Z0 (c59=Dl c61/\c60=y/\En c56 c58=c61/\True))/\Dc (c19-y)<Dc (c19-x))/\(Dn x c20=false->c57=c57/\c56=A/\True))/\(c18=false->A=Du ByteArray/\True))))))) KS8 λhp=>?_
 obtain⟨l1,l2,l3,l4,l5,l6⟩:=CU X j u L z G hp;refine Z9 ?_;refine⟨λhk=>?_,λh1=>⟨λhk=>?_,λh2=>⟨λhk=>?_,λh3=>⟨λhk=>?_,λh4=>⟨λhk=>?_,λh5=>?_⟩⟩⟩⟩⟩;subst hk;have hl:(ak (X,j,u,L,z,G) 1).length=X.length:=dY X j;obtain⟨b1,b2⟩:=GK (n:=(X,j,u,L,z,G)) (k:=1) (el:=λx=>j.getD x.toNat ⟨#[]⟩) (R:=ak (X,j,u,L,z,G) 1) hl Z (λx h0 h1=>xr h0 h1) rfl;refine⟨b1,λx hx=>⟨λhlt=>⟨λhn=>⟨hx.1,hn,((b2 x hx).1 hlt).2.2⟩,λhn=>?_⟩,(b2 x hx).2⟩⟩;have e:j.getD x.toNat ⟨#[]⟩=⟨#[]⟩:=by rw[qA,wZ (by have:=hx.1;omega)];rfl
 have:=((b2 x hx).1 hlt).2.2;simp only[e]at this;exact this;subst hk;exact GK (n:=(X,j,u,L,z,G)) (k:=2) (m:=u.length) (el:=λx=>u.getD x.toNat ⟨#[]⟩) rfl Z (λx _ _=>rfl) rfl;subst hk;exact GK (n:=(X,j,u,L,z,G)) (k:=3) (m:=L.length) (el:=λx=>(L.getD x.toNat (⟨#[]⟩,0,0,0,0,0,[])).1) (map_length _ L) Z (λx h0 h1=>Oa _ h0 h1) rfl;subst hk;exact GK (n:=(X,j,u,L,z,G)) (k:=4) (m:=z.length) (el:=λx=>(z.getD x.toNat (⟨#[]⟩,0,0,0,0,0)).1) (map_length _ z) Z (λx h0 h1=>Oa _ h0 h1) rfl;subst hk;exact GK (n:=(X,j,u,L,z,G)) (k:=5) (m:=G.length) (el:=λx=>(G.getD x.toNat (⟨#[]⟩,0,0)).1) (map_length _ G) Z (λx h0 h1=>Oa _ h0 h1) rfl;unfold ak;rw[if_neg h1,if_neg h2,if_neg h3,if_neg h4,if_neg h5]
theorem CV{n:Net}:nY n=true↔iC n=true/\∀o∈n.2.2.2.1,o.2.2.2.2.2.2.length<=30:=by
 unfold nY;rw[qE,qW];simp only[qF]
theorem getD_mem{α:Type}{l:List α}{i:Nat}{d:α}(h:i<l.length):l.getD i d∈l:=by
 rw[qA,qB h];exact wS h
theorem Qm:eO 217 sA:=af λ(((z,ns,L,u,y,j):Net),(k:Int),(i:Int),_)=>by
 refine zE (A:=aG) (p:=let c4:=Dc i;let c1:=(z,ns,L,u,y,j);let c2:=Ed k 1;let c3:=Dw z c4 ((0:Int),Du Bool,Du Int);let c5:=HY c1 k i;let f:=Ed k 3;let A:=(Dw u c4 (ByteArray.mk #[],(0:Int),(0:Int),(0:Int),(0:Int),(0:Int),Du ByteArray));let G:=Ed k 4;let X:=((0:Int),(0:Int));let c21:=Ed k 5;let c22:=(Dw j c4 (ByteArray.mk #[],X)).2;let h:=cQ c22.1 0 1439;(Ro c1 k i->(c2->0<=i/\i<Di z/\True/\aW c3.1 c3.2.1 c3.2.2=c5/\True)/\(c2=false->(f->0<=i/\i<Di u/\Js c1 A/\dA c1 A=c5/\True)/\(f=false->(G->0<=i/\i<Di y/\iC c1/\dB c1 (Dw y c4 (ByteArray.mk #[],(0:Int),(0:Int),(0:Int),X))=c5/\True)/\(G=false->(c21->0<=i/\i<Di j/\True/\Q3 h ((h->0<=i)/\(h->i<Di j)/\Q3 h ((h->True)/\(Dh true h->h)/\Dy h (cQ c22.2 0 1439) false=c5/\True)))/\(c21=false->true=c5/\True)))))) KS8 λ⟨hp1,hp2,hp3,G,f⟩=>?_;obtain⟨q1,q2⟩:=CV.1 hp1;refine Z9 ?_;refine⟨λhk=>?_,λh1=>⟨λhk=>?_,λh3=>⟨λhk=>?_,λh4=>⟨λhk=>?_,λh5=>?_⟩⟩⟩⟩;subst hk;have X:i<(z.length:Int):=by rw[show(ak (z,ns,L,u,y,j) 1).length=z.length from dY z ns]at f;exact f
 exact⟨G,X,(fZ (λc:Int×List Bool×Li=>aW c.1 c.2.1 c.2.2) z _ _ _ Z).symm⟩;subst hk;have X:i<(u.length:Int):=by rw[show(ak (z,ns,L,u,y,j) 3).length=u.length from map_length _ u]at f;exact f
 exact⟨G,X,⟨q1,q2 _ (getD_mem (by show i.toNat<u.length;omega))⟩,(fZ (dA (z,ns,L,u,y,j)) u _ _ _ Z).symm⟩;subst hk;have X:i<(y.length:Int):=by rw[show(ak (z,ns,L,u,y,j) 4).length=y.length from map_length _ y]at f;exact f
 exact⟨G,X,q1,(fZ (dB (z,ns,L,u,y,j)) y _ _ _ Z).symm⟩;subst hk;have X:i<(j.length:Int):=by rw[show(ak (z,ns,L,u,y,j) 5).length=j.length from map_length _ j]at f;exact f
 exact⟨G,X,λ_=>G,λ_=>X,(fZ lr j _ _ _ Z).symm⟩;have:k=2:=by omega
 subst this;have X:i<(L.length:Int):=f;exact(fZ (λ_:ByteArray=>true) L _ ⟨#[]⟩ _ Z).symm
theorem KS9:ay Tryz.prog G0 K9:=
 ai ZF<|ai Qm KS8
theorem LD{n:Net}{k i:Int}(h:Ro n k i):i<(ak n k).length/\(ak n k).length<=100:=by
 obtain⟨X,h2,h3,h4,L⟩:=h;obtain⟨q,_⟩:=CV.1 X;obtain⟨y,A,z,u,f,j⟩:=n;obtain⟨l1,l2,l3,l4,l5,l6⟩:=CU y A z u f j q;refine⟨L,?_⟩;have G:k=1\/k=2\/k=3\/k=4\/k=5:=Z;rcases G with rfl|rfl|rfl|rfl|rfl;rw[show(ak (y,A,z,u,f,j) 1).length=y.length from dY y A];omega;show z.length<=100;omega;rw[show(ak (y,A,z,u,f,j) 3).length=u.length from map_length _ u];omega;rw[show(ak (y,A,z,u,f,j) 4).length=f.length from map_length _ f];omega;rw[show(ak (y,A,z,u,f,j) 5).length=j.length from map_length _ j];omega
theorem ZM(k i:Int)(G:LC)(h f:LB)(z:Lo)(j:Ll)(u:Lk):aj Tryz.prog G0 152 [net G h f z j u,.dat I k,.dat (.sl S) (ak (G,h,f,z,j,u) k),.dat I i] [] ⟨Ro (G,h,f,z,j,u) k i,.dat I (nZ (ak (G,h,f,z,j,u) k) (fO (G,h,f,z,j,u) k) i),[]⟩:=by
 refine zE (A:=(lvA [(5,[1,2,3,4,8,10,11])] (aCS (ak (G,h,f,z,j,u) k) i))) (p:=let c10:=ByteArray.mk #[];let c1:=(G,h,f,z,j,u);let L:=ak c1 k;let c3:=Di L;let c4:=Dw L (Dc i) c10;let c5:=Dj (bJ c4);let A:=nZ L (fO c1 k) i;let X:=Dj (HY c1 k i);(Ro c1 k i->0<=i/\i<c3/\True/\(c5->1=A/\True)/\(c5=false->(∃x,td L i x/\T4 k L i c1 (0=x/\True))/\∀(x:Int),let c8:=Gf (Dw L (Dc x) c10) c4;let c9:=x+1;td L i x->(Dn x i->0<=x/\x<c3/\0<=i/\i<c3/\(c8->4=A/\True)/\(c8=false->inR .i64 c9/\∃y,td L i y/\(T4 k L i c1 (c9=y/\True))/\Dc (i-y)<Dc (i-x)))/\(Dn x i=false->Ro c1 k i/\(X->1=A/\True)/\(X=false->0=A/\True))))) KS9 λhp=>?_;obtain⟨hi,hl⟩:=LD hp;have h0:0<=i:=hp.2.2.2.1;refine Z9 ?_;refine⟨h0,hi,λhn=>?_,λhn=>⟨jK h0,λx X=>⟨λhlt=>⟨X.1,Z,h0,hi,λhe=>?_,λhne=>⟨⟨by have:=X.1;omega,Z⟩,x+1,jL X hlt hi hne,rfl,by have:=X.1;omega⟩⟩,λhge=>⟨hp,λhg=>?_,λhg=>?_⟩⟩⟩⟩;have e:bT (ak (G,h,f,z,j,u) k) i=1:=if_neg (by unfold jH;rw[hn];decide);unfold nZ;rw[if_pos (by rw[e];decide),e];have e:bT (ak (G,h,f,z,j,u) k) i=0:=if_pos hn;have e2:=NH X hlt hi he;unfold nZ;rw[if_neg (by rw[e];decide),if_pos (by rw[<- e2];decide),e2];have e:bT (ak (G,h,f,z,j,u) k) i=0:=if_pos hn;have e2:=kB X hge;unfold nZ;rw[if_neg (by rw[e];decide),if_neg (by rw[<- e2];decide)];unfold cm;rw[if_neg (by intro g;rw[show HY (G,h,f,z,j,u) k i=_ from g]at hg;cases hg)];have e:bT (ak (G,h,f,z,j,u) k) i=0:=if_pos hn;have e2:=kB X hge;unfold nZ;rw[if_neg (by rw[e];decide),if_neg (by rw[<- e2];decide)];unfold HY at hg;unfold cm;rw[if_pos hg]
theorem M5{n:Net}(h:aAz n=true->False):false=aAz n:=by
 cases e:aAz n with
 |false=>rfl|true=>exact(h e).elim
theorem ql{n:Net}:aAz n=true↔iC n=true/\(n.1.all λc=>nQ c.2.1 c.2.2)=true/\(n.2.2.2.1.all λo=>decide (o.2.2.2.2.2.2.length<=30))=true/\∀j:Int,1<=j->j<6->nS (ak n j)=true:=by
 unfold aAz;simp only[qE,qAt];constructor;rintro⟨y,u,h,f,h5,h6,X,L⟩;refine⟨y,u,h,λj G A=>?_⟩;have z:j=1\/j=2\/j=3\/j=4\/j=5:=Z;rcases z with rfl|rfl|rfl|rfl|rfl<;>assumption;rintro⟨y,u,h,f⟩;exact⟨y,u,h,f 1 (by decide) (by decide),f 2 (by decide) (by decide),f 3 (by decide) (by decide),f 4 (by decide) (by decide),f 5 (by decide) (by decide)⟩
theorem aEJ:eO 76 MI:=af λ(((L,ns,os,G,ls,ks):Net),_)=>by
 refine zE (A:=(lvA [(4,[1,2,3,4,5,6,7]),(9,[1,2,4,5,6,7]),(14,[1,2,5,6,7]),(18,[1,2,5,6,7])] (aGA (L,ns,os,G,ls,ks)))) (p:=let c1:=Di L;let c2:=Ee c1 10;let c3:=Dj c2;let c4:=Dy c2 true (Ee (Di ns) 10);let c5:=Dj c4;let X:=Dy c4 true (Ee (Di os) 10);let z:=Dj X;let c8:=Di G;let c9:=Dy X true (Ee c8 16);let c10:=Dj c9;let c11:=Dy c9 true (Ee (Di ls) 50);let A:=Dj c11;let c13:=Dy c11 true (Ee (Di ks) 8);let h:=(L,ns,os,G,ls,ks);let j:=aAz h;(True->Q3 c3 ((Dh true c3->c3)/\Q3 c5 ((Dh true c5->c5)/\Q3 z ((Dh true z->z)/\Q3 c10 ((Dh true c10->c10)/\Q3 A ((Dh true A->A)/\(c13->false=j/\True)/\(c13=false->(∃x,Np L x/\h=h/\0=x/\True)/\∀(x:Int),let c16:=(Dw L (Dc x) ((0:Int),Du Bool,Du Int)).2;let c17:=Dj (nQ c16.1 c16.2);let c18:=x+1;Np L x->(Dn x c1->0<=x/\x<c1/\True/\(c17->false=j/\True)/\(c17=false->inR IntKind.i64 c18/\∃y,Np L y/\(h=h/\c18=y/\True)/\Dc (c1-y)<Dc (c1-x)))/\(Dn x c1=false->(∃xa,LA G xa/\h=h/\0=xa/\True)/\∀(xb:Int),let c19:=Ee (Di (Dw G (Dc xb) (ByteArray.mk #[],(0:Int),(0:Int),(0:Int),(0:Int),(0:Int),Du ByteArray)).2.2.2.2.2.2) 30;let c20:=xb+1;LA G xb->(Dn xb c8->0<=xb/\xb<c8/\(c19->false=j/\True)/\(c19=false->inR IntKind.i64 c20/\∃y,LA G y/\(h=h/\c20=y/\True)/\Dc (c8-y)<Dc (c8-xb)))/\(Dn xb c8=false->(∃xba,Cj h xba/\h=h/\1=xba/\True)/\∀(f:Int),let c21:=Ef f 5;let c22:=Di (ak h f);let c23:=f+1;Cj h f->(c21->iC h/\(∃u,WH (ak h f) u/\Q4 h f (ak h f) (0=u/\True))/\∀(u:Int),let c24:=Ee (Ei (Dw (ak h f) (Dc u) (ByteArray.mk #[]))) 40;let c25:=u+1;
  WH (ak h f) u->(Dn u c22->0<=u/\u<c22/\(c24->false=j/\True)/\(c24=false->inR .i64 c25/\∃y,WH (ak h f) y/\(Q4 h f (ak h f) (c25=y/\True))/\Dc (c22-y)<Dc (c22-u)))/\(Dn u c22=false->inR .i64 c23/\∃y,Cj h y/\(h=h/\c23=y/\True)/\Dc (6-y)<Dc (6-f)))/\(c21=false->true=j/\True))))))))))) KS9 λhp=>?_
 refine Z9 ?_;refine⟨λh=>M5 λg=>?_,λh=>?_⟩;obtain⟨l1,l2,l3,l4,l5,l6⟩:=CU L ns os G ls ks (ql.1 g).1;omega;have hl:iC (L,ns,os,G,ls,ks)=true:=qR (by show L.length<=10/\ns.length<=10/\os.length<=10/\G.length<=16/\ls.length<=50/\ks.length<=8;omega);refine⟨⟨qN _,qU _,by simp⟩,λx ⟨x0,x1,x2⟩=>⟨λX=>⟨x0,X,λhb=>M5 λg=>?_,λhg=>⟨⟨Z,Z⟩,x+1,⟨Z,Z,?_⟩,rfl,Z⟩⟩,λhge=>?_⟩⟩;have:=lH (l:=L) (p:=λc=>nQ c.2.1 c.2.2) (d:=(0,[],[])) (k:=x.toNat) Z hb;rw[(ql.1 g).2.1]at this;cases this;rw[show(x+1).toNat=x.toNat+1 by omega];exact eQ (d:=(0,[],[])) x2 Z hg;have hcs:(L.all λc=>nQ c.2.1 c.2.2)=true:=by rwa [qM Z]at x2
 refine⟨⟨qN _,qU _,by simp⟩,λz ⟨z0,z1,z2⟩=>⟨λX=>⟨z0,X,λhb=>M5 λg=>?_,λhg=>⟨⟨Z,Z⟩,z+1,⟨Z,Z,?_⟩,rfl,Z⟩⟩,λhge=>?_⟩⟩;have:=lH (l:=G) (p:=λo=>decide (o.2.2.2.2.2.2.length<=30)) (d:=(⟨#[]⟩,0,0,0,0,0,[])) (k:=z.toNat) Z (qY Z);rw[(ql.1 g).2.2.1]at this;cases this;rw[show(z+1).toNat=z.toNat+1 by omega];exact eQ (d:=(⟨#[]⟩,0,0,0,0,0,[])) z2 Z (qR Z);have hfs:(G.all λo=>decide (o.2.2.2.2.2.2.length<=30))=true:=by rwa [qM Z]at z2
 refine⟨⟨qN _,by decide,λj h1 h2=>Z⟩,λk ⟨k0,k1,k2⟩=>⟨λhk=>?_,λhk=>?_⟩⟩;have hlen:(ak (L,ns,os,G,ls,ks) k).length<=100:=by
  by_cases hz:(ak (L,ns,os,G,ls,ks) k).length=0;omega;exact(LD (n:=(L,ns,os,G,ls,ks)) (k:=k) (i:=0) ⟨by unfold nY;rw[hl];exact hfs,k0,hk,qN _,Z⟩).2
 refine⟨hl,⟨qN _,qU _,by simp[nS]⟩,λi ⟨i0,i1,i2⟩=>⟨λX=>⟨i0,X,λhb=>M5 λg=>?_,λhg=>⟨⟨Z,Z⟩,i+1,⟨Z,Z,?_⟩,rfl,Z⟩⟩,λhge=>⟨⟨Z,Z⟩,k+1,⟨Z,Z,λj h1 h2=>?_⟩,rfl,Z⟩⟩⟩;have:=lH (l:=ak (L,ns,os,G,ls,ks) k) (p:=λs=>decide (s.size<=40)) (d:=⟨#[]⟩) (k:=i.toNat) Z (qY Z);have h2:=(ql.1 g).2.2.2 k k0 Z;unfold nS at h2;rw[h2]at this;cases this;rw[show(i+1).toNat=i.toNat+1 by omega];exact eQ (d:=⟨#[]⟩) i2 Z (qR Z);by_cases e:j=k;subst e;rwa [qM Z]at i2;exact k2 j h1 Z;exact(ql.2 ⟨hl,hcs,hfs,λj h1 h2=>k2 j h1 Z⟩).symm
theorem aGf:ay Tryz.prog G0 K10:=
 ai (af λ((A,j,f,z,u,y),k,l,i,_)=>aj.of_pre λ(h:Ro (A,j,f,z,u,y) k i/\l=ak (A,j,f,z,u,y) k)=>by obtain⟨h,rfl⟩:=h;exact(ZM k i A j f z u y).weaken λ_=>h)<|ai aEJ KS9
theorem pW(k:Int):4<=bI k/\bI k<=40:=by unfold bI;split<;>(try split)<;>(try split)<;>omega
theorem ly{n:Net}{k:Int}(h:1<=k):aD n (k+1)=aD n k++bF k (bI k) (ak n k) (fO n k):=by
 unfold aD;rw[show(k+1).toNat-1=(k.toNat-1)+1 by omega,yL,kX,<- zJ];congr 1;simp only[kT,qCv,wH];rw[show((k.toNat-1:Nat):Int)+1=k by omega]
theorem sQ(n:Net):∀(j:Nat),(aD n (j+1)).length<=1+41*j
 |0=>by
  have e:aD n ((0:Nat)+1)=CM n:=by unfold aD;simp
  rw[e];unfold CM;split<;>simp
 |j+1=>by
  have f:=sQ n j;have e:=ly (n:=n) (k:=(j:Int)+1) Z;have u:=(pW ((j:Int)+1)).1;have h:=(pW ((j:Int)+1)).2;have:=jW ((j:Int)+1) (bI ((j:Int)+1)) (ak n ((j:Int)+1)) (fO n ((j:Int)+1)) Z;rw[show(((j+1:Nat):Int)+1)=(j:Int)+1+1 by omega,e,qG];omega
theorem CW{n:Net}{k:Int}(h:1<=k)(f:k<=6):(aD n k).length<=250:=by
 have:=sQ n (k.toNat-1);rw[show((k.toNat-1:Nat):Int)+1=k by omega]at this;omega
theorem Q6(n:Net)(k:Int):aw n k 0=aD n k:=by unfold aw;rw[JK,wH]
theorem aCm{n:Net}{k i:Int}(h:0<=i)(f:nZ (ak n k) (fO n k) i≠0):aw n k (i+1)=aw n k i++[(k,i,nZ (ak n k) (fO n k) i)]:=by
 unfold aw;rw[rp h f,zJ]
theorem aE0{n:Net}{k i:Int}(h:0<=i)(f:nZ (ak n k) (fO n k) i=0):aw n k (i+1)=aw n k i:=by
 unfold aw;rw[wm h f]
theorem gN{n:Net}{k i:Int}(j:1<=k)(f:i=min ((ak n k).length:Int) (bI k))(h:((ak n k).length:Int)>bI k):aw n k i++[(k,bI k,2)]=aD n (k+1):=by
 rw[ly j];unfold aw bF Gu;rw[if_pos Z,<- f,zJ]
theorem aE1{n:Net}{k i:Int}(j:1<=k)(f:i=min ((ak n k).length:Int) (bI k))(h:¬((ak n k).length:Int)>bI k):aw n k i=aD n (k+1):=by
 rw[ly j];unfold aw bF Gu;rw[if_neg Z,<- f,wH]
theorem Yy{n:Net}{k i:Int}(h:1<=k)(f:k<=6)(j:i<=bI k):(aw n k i).length<=300:=by
 have:=CW (n:=n) h f;have:=nj k (ak n k) (fO n k) i;have:=(pW k).2;unfold aw;rw[qG];omega
theorem Qc:eO 77 sr:=Ic λ(((G,u,L,fs,X,ks):Net),_)=>by
 refine zE (A:=(lvA [(5,[1,2,3,4,5,6,7]),(9,[1,2,3,4,5,6,7])] (VR (G,u,L,fs,X,ks)))) (p:=let j:=(G,u,L,fs,X,ks);let c2:=Ea (Di u) (Di G);let c3:=[((1:Int),(-1:Int),(1:Int))];let c4:=Dl c3;let c5:=dd j;(nY j->(c2->(c4*24)<=140737488355328/\c4<=9223372036854775807/\(∃x,kUp x/\L7 j Z0 (c4=Dl (aD j x)/\1=x/\c3=aD j x/\True))/\∀(x:Int),let z:=Ef x 5;let A:=Dl (aD j x);let c8:=Di (ak j x);let c9:=Ee c8 (bI x);let c10:=[(x,bI x,(2:Int))];let h:=x+1;kUp x->(z->iC j/\(∃f,nUp j x f/\L7 j Z0 (A=Dl (aw j x f)/\L7 x (ak j x) (0=f/\aD j x=aw j x f/\True)))/\∀(f:Int),let c13:=Dy (Dn f c8) (Dn f (bI x)) false;let c14:=nZ (ak j x) (fO j x) f;let c15:=Ea c14 0;let c16:=Dl (aw j x f);let c17:=[(x,f,c14)];let c18:=c16+Dl c17;let c19:=f+1;let c20:=c16+(Dl c10);
  nUp j x f->L5 (Dn f c8) ((Dn f c8->True)/\Q2 (Dn f c8) ((Dh true (Dn f c8)->Dn f c8)/\(c13->(Ro j x f/\ak j x=ak j x)/\(c15->c16=c16/\(c18*24)<=140737488355328/\c18<=9223372036854775807/\inR .i64 c19/\∃y,nUp j x y/\(L7 j Z0 (c18=Dl (aw j x y)/\L7 x (ak j x) (c19=y/\En (aw j x f) c17=aw j x y/\True)))/\Dc (c8-y)<Dc (c8-f))/\(c15=false->inR .i64 c19/\∃y,nUp j x y/\(L7 j Z0 (c16=Dl (aw j x y)/\L7 x (ak j x) (c19=y/\aw j x f=aw j x y/\True)))/\Dc (c8-y)<Dc (c8-f)))/\(c13=false->True/\(c9->True/\c16=c16/\(c20*24)<=140737488355328/\c20<=9223372036854775807/\inR .i64 h/\∃y,kUp y/\(L7 j Z0 (c20=Dl (aD j y)/\h=y/\En (aw j x f) c10=aD j y/\True))/\Dc (6-y)<Dc (6-x))/\(c9=false->inR .i64 h/\∃y,kUp y/\(L7 j Z0 (c16=Dl (aD j y)/\h=y/\aw j x f=aD j y/\True))/\Dc (6-y)<Dc (6-x))))))/\(z=false->A=Dl c5/\aD j x=c5/\True))/\(c2=false->(∃x,kUp x/\L7 j Z0 (Dl (aD j x)=0/\aD j x=Du (Int×Int×Int)/\1=x/\aD j x=Du (Int×Int×Int)/\True))/\∀(x:Int),let c21:=Ef x 5;let c22:=Dl (aD j x);let c23:=Di (ak j x);let c24:=Ee c23 (bI x);let c25:=[(x,bI x,(2:Int))];let c27:=x+1;kUp x->(c21->iC j/\(∃f,nUp j x f/\L7 j Z0 (c22=Dl (aw j x f)/\L7 x (ak j x) (0=f/\aD j x=aw j x f/\True)))/\∀(f:Int),let c28:=Dy (Dn f c23) (Dn f (bI x)) false;let c29:=nZ (ak j x) (fO j x) f;let c30:=Ea c29 0;let c31:=Dl (aw j x f);let c32:=[(x,f,c29)];let c33:=c31+Dl c32;
  let c34:=f+1;let c35:=c31+(Dl c25);nUp j x f->L5 (Dn f c23) ((Dn f c23->True)/\Q2 (Dn f c23) ((Dh true (Dn f c23)->Dn f c23)/\(c28->(Ro j x f/\ak j x=ak j x)/\(c30->c31=c31/\(c33*24)<=140737488355328/\c33<=9223372036854775807/\inR .i64 c34/\∃y,nUp j x y/\(L7 j Z0 (c33=Dl (aw j x y)/\L7 x (ak j x) (c34=y/\En (aw j x f) c32=aw j x y/\True)))/\Dc (c23-y)<Dc (c23-f))/\(c30=false->inR .i64 c34/\∃y,nUp j x y/\(L7 j Z0 (c31=Dl (aw j x y)/\L7 x (ak j x) (c34=y/\aw j x f=aw j x y/\True)))/\Dc (c23-y)<Dc (c23-f)))/\(c28=false->True/\(c24->True/\c31=c31/\(c35*24)<=140737488355328/\c35<=9223372036854775807/\inR .i64 c27/\∃y,kUp y/\(L7 j Z0 (c35=Dl (aD j y)/\c27=y/\En (aw j x f) c25=aD j y/\True))/\Dc (6-y)<Dc (6-x))/\(c24=false->inR .i64 c27/\∃y,kUp y/\(L7 j Z0 (c31=Dl (aD j y)/\c27=y/\aw j x f=aD j y/\True))/\Dc (6-y)<Dc (6-x))))))/\(c21=false->c22=Dl c5/\aD j x=c5/\True)))) aGf λhp=>?_
 have hl:=(CV.1 hp).1;have hd1:u.length≠G.length->aD (G,u,L,fs,X,ks) 1=[(1,-1,1)]:=λh=>by
  have e:aD (G,u,L,fs,X,ks) 1=CM (G,u,L,fs,X,ks)++[]:=rfl;rw[e,wH];exact if_neg h
 have hd0:u.length=G.length->aD (G,u,L,fs,X,ks) 1=[]:=λh=>by
  have e:aD (G,u,L,fs,X,ks) 1=CM (G,u,L,fs,X,ks)++[]:=rfl;rw[e,wH];exact if_pos h
 have fin:∀(x:Int),kUp x->¬x<=5->aD (G,u,L,fs,X,ks) x=dd (G,u,L,fs,X,ks):=λx hx h=>by
  have:x=6:=by have:=hx.2;omega
  subst this;rfl
 refine Z9 ?_;have body:∀(x:Int),kUp x->(x<=5->iC (G,u,L,fs,X,ks)=true/\(∃z,nUp (G,u,L,fs,X,ks) x z/\(aD (G,u,L,fs,X,ks) x).length=(aw (G,u,L,fs,X,ks) x z).length/\0=z/\aD (G,u,L,fs,X,ks) x=aw (G,u,L,fs,X,ks) x z)/\
   ∀(z:Int),nUp (G,u,L,fs,X,ks) x z->(z<((ak (G,u,L,fs,X,ks) x).length:Int)/\z<bI x->Ro (G,u,L,fs,X,ks) x z/\
     (nZ (ak (G,u,L,fs,X,ks) x) (fO (G,u,L,fs,X,ks) x) z≠0->((aw (G,u,L,fs,X,ks) x z).length+[(x,z,nZ (ak (G,u,L,fs,X,ks) x) (fO (G,u,L,fs,X,ks) x) z)].length)*24<=140737488355328/\(aw (G,u,L,fs,X,ks) x z).length+[(x,z,nZ (ak (G,u,L,fs,X,ks) x) (fO (G,u,L,fs,X,ks) x) z)].length<=9223372036854775807/\
       inR .i64 (z+1)/\∃y,nUp (G,u,L,fs,X,ks) x y/\((aw (G,u,L,fs,X,ks) x z).length+[(x,z,nZ (ak (G,u,L,fs,X,ks) x) (fO (G,u,L,fs,X,ks) x) z)].length=(aw (G,u,L,fs,X,ks) x y).length/\z+1=y/\aw (G,u,L,fs,X,ks) x z++[(x,z,nZ (ak (G,u,L,fs,X,ks) x) (fO (G,u,L,fs,X,ks) x) z)]=aw (G,u,L,fs,X,ks) x y)/\
        (((ak (G,u,L,fs,X,ks) x).length:Int)-y).toNat<(((ak (G,u,L,fs,X,ks) x).length:Int)-z).toNat)/\
     (nZ (ak (G,u,L,fs,X,ks) x) (fO (G,u,L,fs,X,ks) x) z=0->inR .i64 (z+1)/\∃y,nUp (G,u,L,fs,X,ks) x y/\((aw (G,u,L,fs,X,ks) x z).length=(aw (G,u,L,fs,X,ks) x y).length/\z+1=y/\aw (G,u,L,fs,X,ks) x z=aw (G,u,L,fs,X,ks) x y)/\(((ak (G,u,L,fs,X,ks) x).length:Int)-y).toNat<(((ak (G,u,L,fs,X,ks) x).length:Int)-z).toNat))/\
    ((z<((ak (G,u,L,fs,X,ks) x).length:Int)->¬z<bI x)->
     (((ak (G,u,L,fs,X,ks) x).length:Int)>bI x->((aw (G,u,L,fs,X,ks) x z).length+[(x,bI x,(2:Int))].length)*24<=140737488355328/\(aw (G,u,L,fs,X,ks) x z).length+[(x,bI x,(2:Int))].length<=9223372036854775807/\
       inR .i64 (x+1)/\∃y,kUp y/\((aw (G,u,L,fs,X,ks) x z).length+[(x,bI x,(2:Int))].length=(aD (G,u,L,fs,X,ks) y).length/\x+1=y/\aw (G,u,L,fs,X,ks) x z++[(x,bI x,2)]=aD (G,u,L,fs,X,ks) y)/\(6-y).toNat<(6-x).toNat)/\
     (¬((ak (G,u,L,fs,X,ks) x).length:Int)>bI x->inR .i64 (x+1)/\∃y,kUp y/\((aw (G,u,L,fs,X,ks) x z).length=(aD (G,u,L,fs,X,ks) y).length/\x+1=y/\aw (G,u,L,fs,X,ks) x z=aD (G,u,L,fs,X,ks) y)/\(6-y).toNat<(6-x).toNat)))/\
   (¬x<=5->(aD (G,u,L,fs,X,ks) x).length=(dd (G,u,L,fs,X,ks)).length/\aD (G,u,L,fs,X,ks) x=dd (G,u,L,fs,X,ks)):=by
  intro x hx;have hlim:=pW x;refine⟨λhx5=>⟨hl,⟨0,⟨qN _,qU _,Z⟩,by rw[Q6],rfl,(Q6 _ _).symm⟩,λz ⟨z0,z1,z2⟩=>⟨λ⟨hz1,hz2⟩=>?_,λhz=>?_⟩⟩,λh=>⟨by rw[fin x hx h],fin x hx h⟩⟩;have hlen:=Yy (n:=(G,u,L,fs,X,ks)) hx.1 hx.2 z2;refine⟨⟨hp,hx.1,hx5,z0,hz1⟩,λhe=>?_,λhe=>?_⟩;have e:=aCm z0 he;exact⟨by simp only[vC];omega,by simp only[vC];omega,⟨Z,Z⟩,z+1,⟨Z,Z,Z⟩,⟨by rw[e,qG],rfl,e.symm⟩,Z⟩;have e:=aE0 z0 he;exact⟨⟨Z,Z⟩,z+1,⟨Z,Z,Z⟩,⟨by rw[e],rfl,e.symm⟩,Z⟩;have hlen:=Yy (n:=(G,u,L,fs,X,ks)) hx.1 hx.2 z2;have hmin:z=min ((ak (G,u,L,fs,X,ks) x).length:Int) (bI x):=by
   by_cases g:z<((ak (G,u,L,fs,X,ks) x).length:Int);have:=hz g;omega;omega
  have hx1:=hx.1;refine⟨λh=>?_,λh=>?_⟩;have e:=gN hx.1 hmin h;exact⟨by simp only[vC];omega,by simp only[vC];omega,⟨Z,Z⟩,x+1,⟨Z,Z⟩,⟨by rw[<- e,qG],rfl,e⟩,Z⟩;have e:=aE1 hx.1 hmin h;exact⟨⟨Z,Z⟩,x+1,⟨Z,Z⟩,⟨by rw[e],rfl,e⟩,Z⟩
 refine⟨λhne=>⟨by decide,by decide,⟨1,⟨by decide,by decide⟩,?_,rfl,?_⟩,body⟩,λhe=>⟨⟨1,⟨by decide,by decide⟩,?_,?_,rfl,?_⟩,body⟩⟩;rw[hd1 Z];rw[hd1 Z];rw[hd0 Z];rfl;rw[hd0 Z];rw[hd0 Z]
theorem aGe:ay Tryz.prog G0 K11:=ai Qc aGf
theorem EF:eO 153 mD:=af λ(((L,u,j,G,y,z):Net),_)=>by
 refine zE (A:=aG) (p:=let f:=(L,u,j,G,y,z);let h:=Dl (dd f);(nY f->nY f/\h=h/\Ed (Int.ofNat h) 0=noF f/\True)) aGe λX=>?_;refine Z9 ?_;refine⟨X,?_⟩;unfold noF;cases dd (L,u,j,G,y,z)with
 |nil=>rfl|cons a l=>simp;omega
theorem aGd:ay Tryz.prog G0 K12:=ai EF aGe
def aCi(a b:Int)(xs:Li):Prop:=0<=a/\a<12/\0<=b/\b<12/\xs.length=144
def jQ(xs:Li)(a b len:Int):Li:=eX xs a b len
def ig(k:Int):Li:=(List.range 144).map λi=>if i<k.toNat then(if i/12=i%12 then 0 else -1)else 0
def iY(h:Ll)(k:Int):Li:=(h.take k.toNat).foldl (λf l=>eX f (bw l) (lTo l) (aV l)) JR
def fwD(f:Ll)(o a b:Int):Li:=fwN f (o*144+a*12+b).toNat
def bP(f:Ll):Li:=cD f
def noP(n:Net):Prop:=noF n=true
def xf(n:Net):Lj:=if noF n then XB n.2.2.2.1.length n.2.2.2.2.1 else[]
def rY(m:Nat)(f:Ll)(b:Nat):Bool:=(List.range m).any λa=>decide (cell (cD f) a b=-1)
def aP(m:Int)(f:Ll)(k:Int):List (Int×Int×Int):=(List.range k.toNat).filterMap λb:Nat=>if rY m.toNat f b then some (3,(b:Int),111)else none
def fm(n:Net):List (Int×Int×Int):=if noF n then aP n.2.2.2.1.length n.2.2.2.2.1 n.2.2.2.1.length else dd n
def vn(m:Int)(f:Ll)(b k:Int):Prop:=0<=k/\k<=m/\(List.range k.toNat).all (λa=>decide (cell (cD f) a b.toNat≠-1))=true
def b9(m:Int)(f:Ll)(k:Int):Lj:=(List.range k.toNat).map (jd m.toNat f)
def Jv(m k:Int):Li:=(List.range m.toNat).map λi=>if i<k.toNat then -1 else 0
def bfD(f:Ll)(m a r i:Int):Li:=(f.take i.toNat).foldl dZ (bfN f m.toNat a.toNat r.toNat)
def je(d:Lj)(b k:Int):Bool:=(List.range k.toNat).any λa=>decide ((d.getD a []).getD b.toNat 0<0)
def aZ(n:Net):Bool:=(fm n).isEmpty
abbrev cx:List (Int×List Bool×Li):=[(0,[true,true,true,true,true,false,false],[])]
abbrev nx:List ByteArray:=[⟨#[99]⟩]
abbrev ox:List ByteArray:=[⟨#[112]⟩,⟨#[113]⟩]
abbrev fx:Lo:=[(⟨#[97]⟩,0,0,8,2,10,[]),(⟨#[98]⟩,1,0,8,2,10,[])]
abbrev lx:Ll:=[(⟨#[120]⟩,0,1,0,60,1),(⟨#[121]⟩,1,0,0,90,1)]
def Sm(args:List AV)(m:Mem):Option lI:=match args,m with|[.dat (.int .i64) a,.dat (.int .i64) b,.dat (.int .i64) len,.ptr 1 g 0 0],[(1,.buf el (.int .i64) xs [])]=>if g=144/\el=150 then some ⟨aCi a b xs,.tup [],[(1,.buf 150 I (jQ xs a b len) [])]⟩else none|_,_=>none
def K13:Kt:=kOr 148 Sm K12
def VQ(f:Ll):Ann:=⟨λh s=>match h with
 |3=>some {α:=Int,inv:=λk=>upN k 12,st:=λk=>oG (put s [(12,.dat I k)]) 1 (.buf 150 I (ig (Ej 12 k)) []),μ:=λk=>Dc (Dk 12 k)}|6=>match s.sig.T 12 with
  |.dat (.int .i64) a=>some {α:=Int,inv:=λk=>upN k 12,st:=λk=>oG (put s [(15,.dat I k)]) 1 (.buf 150 I (ig (Dt (Ej 12 a) k)) []),μ:=λk=>Dc (Dk 12 k)}|_=>none
 |14=>some {α:=Int,inv:=λk=>upN k (Di f),st:=λk=>oG (put s [(31,.dat I k)]) 1 (.buf 150 I (iY f k) []),μ:=λk=>Dc (Dk (Di f) k)}|19=>some {α:=Int,inv:=λk=>upN k 12,st:=λk=>oG (put s [(44,.dat I k)]) 1 (.buf 150 I (fwD f k 0 0) []),μ:=λk=>Dc (Dk 12 k)}|22=>match s.sig.T 44 with
  |.dat (.int .i64) o=>some {α:=Int,inv:=λk=>upN k 12,st:=λk=>oG (put s [(47,.dat I k)]) 1 (.buf 150 I (fwD f o k 0) []),μ:=λk=>Dc (Dk 12 k)}|_=>none
 |25=>match s.sig.T 44,s.sig.T 47 with
  |.dat (.int .i64) o,.dat (.int .i64) a=>some {α:=Int,inv:=λk=>upN k 12,st:=λk=>oG (put s [(50,.dat I k)]) 1 (.buf 150 I (fwD f o a k) []),μ:=λk=>Dc (Dk 12 k)}|_,_=>none
 |_=>none,λ_ _=>none,λ_ _=>none⟩
abbrev su:=aA [.row N] (λ(n,_)=>noP n) λ(n,_)=>.av I (bP n.2.2.2.2.1)
def K14:Kt:=kOr 75 su K13
def aAN(f:Lo)(h:Ll):Ann:=⟨λj s=>match j with
 |6=>some {α:=Int,inv:=λk=>upN k (Di f),st:=λk=>oG (put s [(18,.dat I k),(3,.buf 0 (Dl (aP (Di f) h k)))]) 0 (.buf 153 Fa (aP (Di f) h k) []),μ:=λk=>Dc (Dk (Di f) k)}|9=>match s.sig.T 18 with
  |.dat (.int .i64) b=>some {α:=Int,inv:=λk=>vn (Di f) h b k,st:=λk=>put s [(24,.dat I k),(3,.buf 0 (Dl (aP (Di f) h b)))],μ:=λk=>Dc (Dk (Di f) k)}|_=>none
 |_=>none,λ_ _=>none,λ_ _=>none⟩
def aCn(f:Lo)(h:Ll):Ann:=⟨λj s=>match j with
 |5=>some {α:=Int,inv:=λk=>upN k (Di f),st:=λk=>oG (put s [(4,.dat I k),(3,.buf 100 (Dl (b9 (Di f) h k)))]) 100 (.buf 30 R (b9 (Di f) h k) []),μ:=λk=>Dc (Dk (Di f) k)}|9=>some {α:=Int,inv:=λk=>upN k (Di f),st:=λk=>oG (put s [(6,.dat I k)]) 0 (.buf 3 I (Jv (Di f) k) []),μ:=λk=>Dc (Dk (Di f) k)}|14=>match s.sig.T 4 with
  |.dat (.int .i64) a=>some {α:=Int,inv:=λk=>upN k (Di f),st:=λk=>oG (put s [(7,.dat I k)]) 0 (.buf 3 I (bfD h (Di f) a k 0) []),μ:=λk=>Dc (Dk (Di f) k)}|_=>none
 |17=>match s.sig.T 4,s.sig.T 7 with
  |.dat (.int .i64) a,.dat (.int .i64) r=>some {α:=Int,inv:=λk=>upN k (Di h),st:=λk=>oG (put s [(8,.dat I k)]) 0 (.buf 3 I (bfD h (Di f) a r k) []),μ:=λk=>Dc (Dk (Di h) k)}|_,_=>none
 |_=>none,λj s=>match j with
 |22=>some (put (frz [0] s) [(35,.top)])|_=>none,λ_ _=>none⟩
abbrev AH:=aA [.row N] (λ(n,_)=>nY n=true) λ(n,_)=>.dat M (xf n)
def K15:Kt:=kOr 23 (aA [.row N] (λ_=>True) λ(n,_)=>.dat (.sl Fa) (fm n)) <|
 kOr 78 AH K14
def gO(f:Lo)(h:Ll)(d:Lj):Ann:=⟨λj s=>match j with
 |6=>some {α:=Int,inv:=λk=>upN k (Di f),st:=λk=>oG (put s [(5,.dat I k),(3,.buf 0 (Dl (aP (Di f) h k)))]) 0 (.buf 153 Fa (aP (Di f) h k) []),μ:=λk=>Dc (Dk (Di f) k)}|10=>match s.sig.T 5 with
  |.dat (.int .i64) b=>some {α:=Int,inv:=λk=>upN k (Di f),st:=λk=>put s [(7,.dat I k),(6,.dat .bool (je d b k))],μ:=λk=>Dc (Dk (Di f) k)}|_=>none
 |_=>none,λ_ _=>none,λ_ _=>none⟩
abbrev vQ:=aA [.row N] (λ(n,_)=>nY n=true) λ(n,_)=>.dat (.sl Fa) (fm n)
def K16:Kt:=kOr 25 vQ K15
theorem rk{n:Net}:noF n=true↔dd n=[]:=by unfold noF;rw[zD]
theorem wn{j f:Int}{l:List ByteArray}{g:List Bool}(L:0<=f)(h:bF j f l g=[]):(l.length:Int)<=f/\∀i:Int,0<=i->i<l.length->nZ l g i=0:=by
 unfold bF at h;obtain⟨y,u⟩:=qBs.1 h;have A:(l.length:Int)<=f:=by
  unfold Gu at u;split at u;cases u;omega
 refine⟨A,λi z G=>?_⟩;unfold aT at y;rw[qCr]at y;have:=y i.toNat (wJ.2 Z);rw[wC z]at this;split at this;assumption;cases this
theorem qm{l:List ByteArray}{g:List Bool}{i:Int}(h:nZ l g i=0):bT l i=0/\rule2 l i=0/\cm g i=0:=by
 unfold nZ at h;by_cases j:bT l i=0;rw[if_neg (by simp[j])]at h;by_cases f:rule2 l i=0;rw[if_neg (by simp[f])]at h;exact⟨j,f,h⟩;rw[if_pos f]at h;exact(f h).elim;rw[if_pos j]at h;exact(j h).elim
theorem zx{g:List Bool}{i:Int}(h:cm g i=0):g.getD i.toNat false=true:=by
 unfold cm at h;cases f:g.getD i.toNat false with
 |true=>rfl|false=>rw[f]at h;cases h
theorem nh(f:LC)(u j:LB)(A:Lo)(z:Ll)(y:Lk)(h:noF (f,u,j,A,z,y)=true):u.length=f.length/\bF 1 6 (aE f u) (bv f)=[]/\bF 2 6 j (cJ j)=[]/\bF 3 12 (aH A) (eG (f,u,j,A,z,y))=[]/\bF 4 40 (aI z) (dO (f,u,j,A,z,y))=[]/\bF 5 4 (aM y) (bC y)=[]:=by
 have:=rk.1 h;rw[A4]at this;simp only[qBs]at this;obtain⟨G,h1,h2,h3,X,L⟩:=this;refine⟨?_,h1,h2,h3,X,L⟩;unfold CM at G;split at G;assumption;cases G
theorem mE{n:Net}{l:Line}(h:dB n l=true):0<=bw l/\bw l<n.2.2.2.1.length/\0<=lTo l/\lTo l<n.2.2.2.1.length/\bw l≠lTo l/\(0<=lAt l/\lAt l<=1439)/\1<=aV l/\aV l<=5000:=by
 unfold dB cA cQ at h;simp only[qE,qF]at h;obtain⟨⟨⟨⟨⟨u,j⟩,z⟩,y⟩,f⟩,A⟩:=h;exact⟨u.1,u.2,j.1,j.2,z,y,f.1,f.2⟩
theorem pT(A:LC)(y u:LB)(j:Lo)(f:Ll)(z:Lk)(h:noF (A,y,u,j,f,z)=true):bM j.length f/\f.length<=40:=by
 obtain⟨_,_,_,h3,h4,_⟩:=nh A y u j f z h;obtain⟨l3,e3⟩:=wn (by decide) h3;obtain⟨l4,e4⟩:=wn (by decide) h4;have n3:(aH j).length=j.length:=map_length _ j;have n4:(aI f).length=f.length:=map_length _ f;refine⟨⟨Z,λl X=>?_⟩,Z⟩;obtain⟨i,G⟩:=kP.1 X;have L:i<f.length:=(qC.1 G).1;have:=zx (qm (e4 i Z Z)).2.2;rw[show(dO (A,y,u,j,f,z))=f.map (dB (A,y,u,j,f,z))from rfl,fZ (dB (A,y,u,j,f,z)) f (i:Int).toNat l false Z,qA,show(i:Int).toNat=i by omega,G]at this;obtain⟨g1,g2,g3,g4,g5,_,g6,g7⟩:=mE this;exact⟨g1,g2,g3,g4,g5,g6,g7⟩
theorem lj(xs:Li)(a b len:Int):(jQ xs a b len).length=xs.length:=iK xs a b len
theorem NY{xs:Li}{a b len:Int}(h:xs.getD (a.toNat*12+b.toNat) 0=-1\/len<xs.getD (a.toNat*12+b.toNat) 0):xs.set (a.toNat*12+b.toNat) len=jQ xs a b len:=by
 unfold jQ eX cell;rw[show(decide (xs.getD (a.toNat*12+b.toNat) 0=-1)||decide (len<xs.getD (a.toNat*12+b.toNat) 0))=true by simpa using h];rfl
theorem NZ{xs:Li}{a b len:Int}(h:xs.getD (a.toNat*12+b.toNat) 0≠-1)(f:¬len<xs.getD (a.toNat*12+b.toNat) 0):xs=jQ xs a b len:=by
 unfold jQ eX cell;rw[show(decide (xs.getD (a.toNat*12+b.toNat) 0=-1)||decide (len<xs.getD (a.toNat*12+b.toNat) 0))=false by rw[Bool.or_eq_false_iff];exact⟨qY h,qY f⟩];rfl
theorem Zz(a b len:Int)(xs:Li):aj Tryz.prog G0 148 [.dat I a,.dat I b,.dat I len,.ptr 1 144 0 0] [(1,.buf 150 I xs [])] ⟨aCi a b xs,.tup [],[(1,.buf 150 I (jQ xs a b len) [])]⟩:=by
 refine zE (A:=aG) (p:=let j:=Eo 0 12 a;let h:=Ec 12;let u:=jQ xs a b len;let G:=Eo j 1 b;let z:=Dw xs G 0;let y:=Ed z (-1);let f:=Dj y;let A:=f->Dl xs=144;let L:=Dy y true (Dn len z);(aCi a b xs->Dl xs<=Dl u/\Dl xs=144/\0<=a/\a<Ec 12/\Eo 0 12 h<=144/\Dl xs=144/\0<=b/\b<Ec 12/\Eo j 1 h<=144/\Dl xs=144/\L5 f (A/\(f->0<=a)/\(f->a<Ec 12)/\(f->Eo 0 12 h<=144)/\Q2 f (A/\(f->0<=b)/\(f->b<Ec 12)/\(f->Eo j 1 h<=144)/\L5 f (A/\Q2 f ((Dh true f->f)/\(L->Dl xs=144/\0<=a/\a<Ec 12/\Eo 0 12 h<=144/\Dl xs=144/\0<=b/\b<Ec 12/\Eo j 1 h<=144/\Dl xs=144/\Ep xs G len=u/\T5 (Dl xs))/\(L=false->xs=u/\T5 (Dl xs)))))))) aGd λ⟨a0,a1,b0,b1,hl⟩=>?_;have e:=lj xs a b len;refine Z9 ?_
 and_intros
 all_goals try (intros;omega)
 .intro h
  and_intros
  all_goals try omega
  exact NY h
 rintro⟨X,L⟩;exact NZ X L
theorem Sl:∀args m c,Sm args m=some c->aj Tryz.prog G0 148 args m c:=by
 intro args m c h;unfold Sm at h;split at h;split at h;rename_i e;obtain⟨rfl,rfl⟩:=e;cases h;exact Zz _ _ _ _;cases h;cases h
theorem aGc:ay Tryz.prog G0 K13:=ai Sl aGd
theorem sJ(k:Int):(ig k).length=144:=by unfold ig;rw[vX,yI]
theorem OA:List.replicate 144 0=ig 0:=by
 unfold ig;apply wQ;intro i;rw[wU,qQ];by_cases h:i<144;rw[if_pos h,zH h];simp;rw[if_neg h,wZ (by rw[yI];omega)];rfl
theorem SC{x y:Int}(G:0<=x)(u:x<12)(A:0<=y)(j:y<12)(z:x≠y):(ig (12*x+y)).set (x.toNat*12+y.toNat) (-1)=ig (12*x+(y+1)):=by
 apply wQ;intro i;rw[vS,sJ];unfold ig;rw[qQ,qQ];by_cases h:i<144;rw[zH h];simp only[zZ];by_cases e:x.toNat*12+y.toNat=i;subst e;rw[if_pos rfl,if_pos h,if_pos Z,if_neg Z];rw[if_neg e];congr 1;by_cases g:i<(12*x+y).toNat;have f:i<(12*x+(y+1)).toNat:=by omega
 rw[if_pos g,if_pos f];have f:¬i<(12*x+(y+1)).toNat:=by omega
 rw[if_neg g,if_neg f];rw[if_neg Z,wZ (by rw[yI];omega)];rfl
theorem OB{x:Int}(u:0<=x)(f:x<12):ig (12*x+x)=ig (12*x+(x+1)):=by
 unfold ig;apply zY;intro i h;have:=wJ.1 h;by_cases g:i<(12*x+x).toNat;have j:i<(12*x+(x+1)).toNat:=by omega
 rw[if_pos g,if_pos j];rw[if_neg g];split;rw[if_pos Z];rfl
theorem SD(f:Ll):ig (12*12)=iY f 0:=by
 unfold iY ig JR;rw[show(Int.toNat 0)=0 from rfl,qCb,List.foldl_nil];apply zY;intro i h;rw[if_pos (by have:=wJ.1 h;omega)]
theorem B9(f:Ll)(k:Int):(iY f k).length=144:=pU _
theorem JG{f:Ll}{k:Int}(j:0<=k)(h:k<f.length)(d:Line):jQ (iY f k) (f.getD k.toNat d).2.1 (f.getD k.toNat d).2.2.1 (f.getD k.toNat d).2.2.2.2.1=iY f (k+1):=by
 unfold iY;rw[show(k+1).toNat=k.toNat+1 by omega,wY,qA,qB (show k.toNat<f.length by omega),qBp];rfl
theorem Om(f:Ll){k:Int}(h:¬k<f.length):iY f k=fwD f 0 0 0:=by
 unfold iY;rw[qM Z];rfl
theorem A3(f:Ll)(o a b:Int):(fwD f o a b).length=144:=rA f _
theorem aAt{f:Ll}{o a:Int}:fwD f o a 12=fwD f o (a+1) 0:=by
 unfold fwD;congr 2;omega
theorem aAu{f:Ll}{o:Int}:fwD f o 12 0=fwD f (o+1) 0 0:=by
 unfold fwD;congr 2;omega
theorem MU{f:Ll}{o a b:Int}(j:0<=o)(h:o<12)(z:0<=a)(y:a<12)(b0:0<=b)(u:b<12):fwD f o a (b+1)=BB (fwD f o a b) (o.toNat*144+a.toNat*12+b.toNat):=by
 unfold fwD;rw[show(o*144+a*12+(b+1)).toNat=(o.toNat*144+a.toNat*12+b.toNat)+1 by omega,show(o*144+a*12+b).toNat=o.toNat*144+a.toNat*12+b.toNat by omega,CO]
theorem aAs{f:Ll}{o a b:Int}(u:0<=o)(j:o<12)(h:0<=a)(G:a<12)(b0:0<=b)(A:b<12)
  (z:(fwD f o a b).getD (a.toNat*12+o.toNat) 0≠-1) (y:(fwD f o a b).getD (o.toNat*12+b.toNat) 0≠-1):
  jQ (fwD f o a b) a b ((fwD f o a b).getD (a.toNat*12+o.toNat) 0+(fwD f o a b).getD (o.toNat*12+b.toNat) 0)=fwD f o a (b+1):=by
 rw[MU u j h G b0 A];unfold BB;rw[show(o.toNat*144+a.toNat*12+b.toNat)/12%12=a.toNat by omega,show(o.toNat*144+a.toNat*12+b.toNat)/144=o.toNat by omega,show(o.toNat*144+a.toNat*12+b.toNat)%12=b.toNat by omega];unfold cell;rw[show((fwD f o a b).getD (a.toNat*12+o.toNat) 0 != -1&&(fwD f o a b).getD (o.toNat*12+b.toNat) 0 != -1)=true by simp only[qE,qCq];exact⟨z,y⟩,cond_true];unfold jQ;rw[wC h,wC b0]
theorem aCL{f:Ll}{o a b:Int}(u:0<=o)(j:o<12)(A:0<=a)(z:a<12)(b0:0<=b)(y:b<12)
  (h:(fwD f o a b).getD (a.toNat*12+o.toNat) 0≠-1->(fwD f o a b).getD (o.toNat*12+b.toNat) 0=-1):fwD f o a b=fwD f o a (b+1):=by
 rw[MU u j A z b0 y];unfold BB;rw[show(o.toNat*144+a.toNat*12+b.toNat)/12%12=a.toNat by omega,show(o.toNat*144+a.toNat*12+b.toNat)/144=o.toNat by omega,show(o.toNat*144+a.toNat*12+b.toNat)%12=b.toNat by omega];unfold cell;rw[show((fwD f o a b).getD (a.toNat*12+o.toNat) 0 != -1&&(fwD f o a b).getD (o.toNat*12+b.toNat) 0 != -1)=false by
  rw[Bool.and_eq_false_imp];intro g;rw[qCq]at g;rw[h g];rfl,cond_false]
theorem Qd:eO 75 su:=af λ(((cs,ns,os,fs,z,ks):Net),_)=>by
 refine zE (A:=(lvA [(3,[1,2,3,4,5,6,8,9,10,11,12,15,29,30,31,44,47,50]),(6,[1,2,3,4,5,6,8,9,10,11,12,15,29,30,31,44,47,50]),(14,[2,3,6,8,9,10,11,29,30,31,44,47,50]),(19,[2,3,6,9,10,11,44,47,50]),(22,[2,3,6,9,10,11,44,47,50]),(25,[2,3,6,9,10,11,44,47,50])] (VQ z))) (p:=let c4:=Ec 12;let c1:=(cs,ns,os,fs,z,ks);let L:=Gi 144 0;let c3:=Di z;(noP c1->(∃x,upN x 12/\T7 c1 144 0 0 144 0 0 (0=x/\L=L/\L=ig (12*x)/\True))/\∀(x:Int),let c5:=Dn x 12;let h:=12*x;let c7:=ig h;let c8:=x+1;upN x 12->(c5->(∃u,upN u 12/\L4 c1 144 0 0 144 0 0 x x (0=u/\L=L/\c7=ig (h+u)/\True))/\∀(u:Int),let c9:=Dn u 12;let c10:=u+1;upN u 12->(c9->(Ea x u->Dl (ig (h+u))=144/\0<=x/\x<Ec 12/\Eo 0 12 c4<=144/\Dl (ig (h+u))=144/\0<=u/\u<Ec 12/\Eo (Eo 0 12 x) 1 c4<=144/\Dl (ig (h+u))=144/\inR .i64 c10/\∃y,upN y 12/\(L4 c1 144 0 0 144 0 0 x x (c10=y/\L=L/\Ep (ig (h+u)) (Eo (Eo 0 12 x) 1 u) (-1)=ig (h+y)/\True))/\Dc (12-y)<Dc (12-u))/\(Ea x u=false->inR .i64 c10/\∃y,upN y 12/\(L4 c1 144 0 0 144 0 0 x x (c10=y/\L=L/\ig (h+u)=ig (h+y)/\True))/\Dc (12-y)<Dc (12-u)))/\(c9=false->inR .i64 c8/\∃y,upN y 12/\(T7 c1 144 0 0 144 0 0 (c8=y/\L=L/\ig (h+u)=ig (12*y)/\True))/\Dc (12-y)<Dc (12-x)))/\(c5=false->(∃xa,upN xa c3/\L4 144 0 0 144 0 0 144 0 0 (L7 z c3 (0=xa/\L=L/\c7=iY z xa/\True)))/\∀(xb:Int),let c11:=(Dw z (Dc xb) (ByteArray.mk #[],(0:Int),(0:Int),(0:Int),(0:Int),(0:Int))).2;let c15:=jQ (iY z xb) c11.1 c11.2.1 c11.2.2.2.1;let c16:=xb+1;
  upN xb c3->(Dn xb c3->0<=xb/\xb<c3/\L4 1 0 1 1 0 1 1 0 1 (L7 1 0 (aCi c11.1 c11.2.1 (iY z xb)/\Dl (iY z xb)<=Dl c15/\inR .i64 c16/\∃y,upN y c3/\(L4 144 0 0 144 0 0 144 0 0 (L7 z c3 (c16=y/\L=L/\c15=iY z y/\True)))/\Dc (c3-y)<Dc (c3-xb))))/\(Dn xb c3=false->(∃x_4,upN x_4 12/\L4 144 0 0 144 0 0 144 0 0 (0=x_4/\L=L/\iY z xb=fwD z x_4 0 0/\True))/\∀(f:Int),let c17:=Dn f 12;let c18:=fwD z f 0 0;let c19:=f+1;upN f 12->(c17->(∃j,upN j 12/\L4 144 0 0 144 0 0 144 0 0 (L7 f f (0=j/\L=L/\c18=fwD z f j 0/\True)))/\∀(j:Int),let c20:=Dn j 12;let c21:=fwD z f j 0;let c23:=j+1;upN j 12->(c20->(∃G,upN G 12/\L4 144 0 0 144 0 0 144 0 0 (T4 f j f j (0=G/\L=L/\c21=fwD z f j G/\True)))/\∀(G:Int),let c24:=Dn G 12;let c25:=fwD z f j G;let c26:=Dl c25;let c27:=Dw c25 (Eo (Eo 0 12 j) 1 f) 0;let X:=Ea c27 (-1);let A:=X->c26=144;let c29:=Dw c25 (Eo (Eo 0 12 f) 1 G) 0;let c30:=Dy X (Ea c29 (-1)) false;let c31:=c27+c29;let c32:=jQ c25 j G c31;let c33:=G+1;
  upN G 12->(c24->c26=144/\0<=j/\j<Ec 12/\Eo 0 12 c4<=144/\c26=144/\0<=f/\f<Ec 12/\Eo (Eo 0 12 j) 1 c4<=144/\c26=144/\L5 X (A/\(X->0<=f)/\(X->f<Ec 12)/\(X->Eo 0 12 c4<=144)/\Q2 X (A/\(X->0<=G)/\(X->G<Ec 12)/\(X->Eo (Eo 0 12 f) 1 c4<=144)/\L5 X (A/\L5 X ((Dh true X->X)/\(c30->c26=144/\0<=j/\j<Ec 12/\Eo 0 12 c4<=144/\c26=144/\0<=f/\f<Ec 12/\Eo (Eo 0 12 j) 1 c4<=144/\c26=144/\c26=144/\0<=f/\f<Ec 12/\Eo 0 12 c4<=144/\c26=144/\0<=G/\G<Ec 12/\Eo (Eo 0 12 f) 1 c4<=144/\c26=144/\inR .i64 c31/\aCi j G c25/\c26<=Dl c32/\inR .i64 c33/\∃y,upN y 12/\(L4 144 0 0 144 0 0 144 0 0 (T4 f j f j (c33=y/\L=L/\c32=fwD z f j y/\True)))/\Dc (12-y)<Dc (12-G))/\(c30=false->inR .i64 c33/\∃y,upN y 12/\(L4 144 0 0 144 0 0 144 0 0 (T4 f j f j (c33=y/\L=L/\c25=fwD z f j y/\True)))/\Dc (12-y)<Dc (12-G)))))))/\(c24=false->inR IntKind.i64 c23/\∃y,upN y 12/\(L4 144 0 0 144 0 0 144 0 0 (L7 f f (c23=y/\L=L/\c25=fwD z f y 0/\True)))/\Dc (12-y)<Dc (12-j)))/\(c20=false->inR .i64 c19/\∃y,upN y 12/\(L4 144 0 0 144 0 0 144 0 0 (c19=y/\L=L/\c21=fwD z y 0 0/\True))/\Dc (12-y)<Dc (12-f)))/\(c17=false->Dl c18=144/\0=0/\Dl c18=144/\Dl L=144/\0=0/\Dl L=144/\Dl c18=144/\Dl c18=144/\0=0/\Dl c18=144/\c18=bP z/\True))))) aGc λhp=>?_
 obtain⟨ok,hls⟩:=pT cs ns os fs z ks hp;refine Z9 ?_;have z12:upN 0 12:=⟨by decide,by decide⟩;refine⟨⟨0,z12,rfl,OA⟩,λx ⟨x0,x1⟩=>⟨λhx=>⟨⟨0,z12,rfl,by rw[Int.add_zero]⟩,λy ⟨y0,y1⟩=>⟨λhy=>⟨λhne=>?_,λhe=>?_⟩,λhy=>?_⟩⟩,λhx=>?_⟩⟩
 .have:=sJ (12*x+y)
  and_intros
  all_goals try omega
  exact⟨y+1,⟨Z,Z⟩,⟨rfl,SC x0 hx y0 hy hne⟩,Z⟩
 subst he;exact⟨⟨Z,Z⟩,x+1,⟨Z,Z⟩,⟨rfl,OB x0 hx⟩,Z⟩;have:y=12:=by omega
 subst this;exact⟨⟨Z,Z⟩,x+1,⟨Z,Z⟩,⟨rfl,by congr 1;omega⟩,Z⟩;have ex:x=12:=Z;subst ex;refine⟨⟨0,⟨qN _,qU _⟩,rfl,SD z⟩,λk ⟨k0,k1⟩=>⟨λhk=>?_,λhk=>?_⟩⟩;have ho:=ok.at_ _ (getD_mem (l:=z) (i:=k.toNat) (d:=(⟨#[]⟩,0,0,0,0,0)) Z);have hn:=ok.n12;unfold bw lTo at ho;have e1:=B9 z k;refine⟨k0,hk,⟨Z,Z,Z,Z,e1⟩,by rw[lj]<;>exact qL _,⟨Z,Z⟩,k+1,⟨Z,Z⟩,⟨rfl,JG k0 hk _⟩,Z⟩;refine⟨⟨0,z12,rfl,Om z hk⟩,λo ⟨o0,o1⟩=>⟨λho=>⟨⟨0,z12,rfl,rfl⟩,λa ⟨a0,a1⟩=>⟨λha=>⟨⟨0,z12,rfl,rfl⟩,λb ⟨b0,b1⟩=>⟨λhb=>?_,λhb=>?_⟩⟩,λha=>?_⟩⟩,λho=>?_⟩⟩
 .have e1:=A3 z o a b;have bd1:=HZ ok (k:=(o*144+a*12+b).toNat) Z (a:=a.toNat) (b:=o.toNat) Z Z;have bd2:=HZ ok (k:=(o*144+a*12+b).toNat) Z (a:=o.toNat) (b:=b.toNat) Z Z;have bd1:-1<=(fwD z o a b).getD (a.toNat*12+o.toNat) 0/\(fwD z o a b).getD (a.toNat*12+o.toNat) 0<=20480000:=bd1;have bd2:-1<=(fwD z o a b).getD (o.toNat*12+b.toNat) 0/\(fwD z o a b).getD (o.toNat*12+b.toNat) 0<=20480000:=bd2
  and_intros
  all_goals try (intros;omega)
  .rintro⟨h1,h2⟩;have e2:=lj (fwD z o a b) a b ((fwD z o a b).getD (a.toNat*12+o.toNat) 0+(fwD z o a b).getD (o.toNat*12+b.toNat) 0);have e3:=aAs o0 ho a0 ha b0 hb h1 h2
   and_intros
   all_goals try omega
   exact⟨b+1,⟨Z,Z⟩,⟨rfl,e3⟩,Z⟩
  intro h;exact⟨⟨Z,Z⟩,b+1,⟨Z,Z⟩,⟨rfl,aCL o0 ho a0 ha b0 hb h⟩,Z⟩
 have:b=12:=by omega
 subst this;exact⟨⟨Z,Z⟩,a+1,⟨Z,Z⟩,⟨rfl,aAt⟩,Z⟩;have:a=12:=by omega
 subst this;exact⟨⟨Z,Z⟩,o+1,⟨Z,Z⟩,⟨rfl,aAu⟩,Z⟩
 .have:o=12:=by omega
  subst this;have e1:=A3 z 12 0 0;have e2:(Gi 144 (0:Int)).length=144:=zU
  and_intros
  all_goals try omega
  rfl
theorem aFN:ay Tryz.prog G0 K14:=ai Qd aGc
theorem LG{n:Net}(h:¬(((dd n).length:Nat):Int)>0):noF n=true:=rk.2 (vK Z)
theorem GI{n:Net}(h:(((dd n).length:Nat):Int)>0):noF n=false:=by
 cases e:noF n with
 |false=>rfl|true=>rw[rk.1 e]at h;simp at h
theorem Lm:(Gi 144 (0:Int)).length=144:=zU
theorem FP(f:Ll):(bP f).length=144:=rA f _
theorem js(m:Int)(f:Ll):aP m f 0=[]:=rfl
theorem uQ(m:Int)(f:Ll)(k:Int):(aP m f k).length<=k.toNat:=by
 unfold aP;exact vP (qCu _ _) (by rw[yI];exact qL _)
theorem uP{m:Int}{f:Ll}{k:Int}(j:0<=k)(h:rY m.toNat f k.toNat=true):aP m f (k+1)=aP m f k++[(3,k,111)]:=by
 unfold aP;rw[show(k+1).toNat=k.toNat+1 by omega,yL,qAs];simp[wC j,h]
theorem Ad{m:Int}{f:Ll}{k:Int}(h:rY m.toNat f k.toNat=false)(j:0<=k):aP m f (k+1)=aP m f k:=by
 unfold aP;rw[show(k+1).toNat=k.toNat+1 by omega,yL,qAs];simp[h]
theorem N3{m:Int}{f:Ll}{a b:Int}(u:0<=a)(j:a<m)(h:(bP f).getD (a.toNat*12+b.toNat) 0=-1):rY m.toNat f b.toNat=true:=
 xO.2 ⟨a.toNat,wJ.2 Z,qR h⟩
theorem JA{m:Int}{f:Ll}{a b:Int}(hm:vn m f b a)(z:a<m)(h:(bP f).getD (a.toNat*12+b.toNat) 0≠-1):vn m f b (a+1):=by
 obtain⟨y,u,j⟩:=hm;refine⟨Z,Z,?_⟩;rw[show(a+1).toNat=a.toNat+1 by omega,yL,gV,j];simp only[qBa,List.all_nil,kV,yC];exact qR h
theorem Og{m:Int}{f:Ll}{a b:Int}(hm:vn m f b a)(z:¬a<m):rY m.toNat f b.toNat=false:=by
 obtain⟨y,u,j⟩:=hm;have:a=m:=Z;subst this;unfold rY;rw[qAq];intro x h;have:=qW.1 j x h;simpa using this
theorem Qq(cs:LC)(ns os:LB)(G:Lo)(f:Ll)(ks:Lk):aj Tryz.prog G0 23 [net cs ns os G f ks] [] ⟨True,.dat (.sl Fa) (fm (cs,ns,os,G,f,ks)),[]⟩:=by
 refine zE (A:=(lvA [(6,[1,2,3,4,5,6,17,18,23,24]),(9,[1,2,3,4,5,6,17,18,23,24])] (aAN G f))) (p:=let L:=(cs,ns,os,G,f,ks);let c2:=dd L;let X:=Dl c2;let c4:=Ee (Int.ofNat X) 0;let c5:=fm L;let h:=Di G;(True->True/\X=X/\(c4->X=X/\c2=c5/\True)/\(c4=false->noP L/\Dl (Gi 144 0)=144/\0=0/\Dl (Gi 144 0)=144/\Dl (bP f)=144/\(∃x,upN x h/\L7 L Z0 (X=Dl (aP h f x)/\T4 144 0 0 h (0=x/\c2=aP h f x/\T5 (bP f))))/\∀(x:Int),let u:=Dl (aP h f x);let c8:=[((3:Int),x,(111:Int))];let A:=u+Dl c8;let z:=x+1;upN x h->(Dn x h->(∃j,vn h f x j/\L4 L Z0 u 144 0 0 x h x (h=h/\0=j/\k7 (aP h f x) (bP f)))/\∀(j:Int),let c11:=Ed (Dw (bP f) (Eo (Eo 0 12 j) 1 x) 0) (-1);let c12:=j+1;vn h f x j->(Dn j h->Dl (bP f)=144/\0<=j/\j<Ec 12/\Eo 0 12 (Ec 12)<=144/\Dl (bP f)=144/\0<=x/\x<Ec 12/\Eo (Eo 0 12 j) 1 (Ec 12)<=144/\Dl (bP f)=144/\(c11->u=u/\(A*24)<=140737488355328/\A<=9223372036854775807/\inR .i64 z/\∃y,upN y h/\(L7 L Z0 (A=Dl (aP h f y)/\T4 144 0 0 h (z=y/\En (aP h f x) c8=aP h f y/\T5 (bP f))))/\Dc (h-y)<Dc (h-x))/\(c11=false->inR IntKind.i64 c12/\∃y,vn h f x y/\(L4 L Z0 u 144 0 0 x h x (h=h/\c12=y/\k7 (aP h f x) (bP f)))/\Dc (h-y)<Dc (h-j)))/\(Dn j h=false->inR .i64 z/\∃y,upN y h/\(L7 L Z0 (u=Dl (aP h f y)/\T4 144 0 0 h (z=y/\aP h f x=aP h f y/\T5 (bP f))))/\Dc (h-y)<Dc (h-x)))/\(Dn x h=false->u=u/\aP h f x=c5/\True)))) aFN λ_=>?_
 refine Z9 ?_;refine⟨λh=>by unfold fm;rw[GI h];rfl,λh=>?_⟩;have u:=LG h;have hf:=rk.1 u;obtain⟨ok,hls⟩:=pT cs ns os G f ks u;have hn:=ok.n12;have e1:=FP f;refine⟨u,Lm,Lm,e1,⟨0,⟨qN _,qU _⟩,by rw[hf,js],rfl,by rw[hf,js]⟩,λb ⟨b0,b1⟩=>⟨λhb=>⟨⟨qN _,qU _,by simp⟩,λa ha=>⟨λhlt=>?_,λhge=>?_⟩⟩,λhb=>?_⟩⟩
 .have a0:=ha.1;have hl:=uQ (G.length:Int) f b
  and_intros
  all_goals try (intros;omega)
  intro he;have e2:=uP b0 (N3 a0 hlt he);exact⟨by simp only[vC];omega,by simp only[vC];omega,⟨Z,Z⟩,b+1,⟨Z,Z⟩,⟨by rw[e2,qG],rfl,e2.symm⟩,Z⟩;intro hne;exact⟨⟨Z,Z⟩,a+1,JA ha hlt hne,rfl,Z⟩
 have e2:=Ad (Og ha hge) b0;exact⟨⟨Z,Z⟩,b+1,⟨Z,Z⟩,⟨by rw[e2],rfl,e2.symm⟩,Z⟩;have:b=G.length:=by omega
 subst this;unfold fm;rw[u];rfl
theorem gH{α:Type}(m:Nat)(x:α):List.replicate m x=(List.range m).map λ_=>x:=by
 apply wQ;intro i;rw[wU,qQ];by_cases h:i<m;rw[if_pos h,zH h];rfl;rw[if_neg h,wZ (by rw[yI];omega)];rfl
theorem QC{α:Type}(f:Nat->α)(m i:Nat)(x:α):((List.range m).map f).set i x=(List.range m).map λj=>if j=i then x else f j:=by
 apply wQ;intro j;rw[vS,qQ,qQ,vX,yI];by_cases h:j<m;rw[zH h];by_cases e:i=j;subst e;rw[if_pos rfl,if_pos h];simp;rw[if_neg e];simp only[zZ];rw[if_neg λg:j=i=>e g.symm];rw[wZ (by rw[yI];omega)];simp only[Option.map_none];split;rw[if_neg Z];rfl
theorem lG:∀(f:Ll) (row:Li),(f.foldl dZ row).length=row.length|[],_=>rfl|l::f,row=>by rw[kS,lG f,lF]
theorem nE(f:Ll)(m a:Nat):∀r,(bfN f m a r).length=m|0=>by show(mR m a).length=m;simp[mR]|r+1=>by rw[uc];unfold DK;rw[lG,nE f m a r]
theorem Be(f:Ll)(m:Nat)(a r i:Int):(bfD f m a r i).length=m:=by
 unfold bfD;rw[lG,nE,zQ]
theorem T8{m:Nat}{f:Ll}(j:bM m f){row:Li}(u:row.length=m){l:Line}(y:l∈f){K:Int}(h:∀b,at1 row b<=K):∀b,at1 (dZ row l) b<=K+5000:=by
 intro b;have o:=j.at_ l y;rw[qu (by rw[u];omega)];have A:=h b;have z:=h (bw l).toNat;split<;>omega
theorem xy{m:Nat}{u:Ll}(j:bM m u):∀(f:Ll) (row:Li) (K:Int),(∀l∈f,l∈u)->row.length=m->(∀b,at1 row b<=K)->∀b,at1 (f.foldl dZ row) b<=K+5000*f.length
 |[],_,_,_,_,h=>λb=>by have:=h b;simpa using this|l::f,row,K,y,z,h=>λb=>by
  have:=xy j f (dZ row l) (K+5000) (λx A=>y x (by simp[A])) (by rw[lF];exact z) (T8 j z (y l (by simp)) h) b;rw[kS,wR];omega
theorem YX{m:Nat}{f:Ll}(u:bM m f)(j:f.length<=40)(a:Nat):∀(r:Nat) b,at1 (bfN f m a r) b<=200000*r
 |0,b=>by
  show at1 (mR m a) b<=_;unfold at1 mR;rw[qA,qQ];by_cases h:b<m;rw[zH h];simp only[zZ,vJ];split<;>omega;rw[wZ (by rw[yI];omega)];simp
 |r+1,b=>by
  rw[uc];have:=xy u f (bfN f m a r) (200000*r) (λ_ h=>h) (nE f m a r) (YX u j a r) b;unfold DK;omega
theorem aC9{m:Nat}{f:Ll}(h:bM m f)(j:f.length<=40){a r i:Int}(y:r<=m):∀b,at1 (bfD f m a r i) b<=3000000:=by
 intro b;have L:=xy h (f.take i.toNat) (bfN f m a.toNat r.toNat) (200000*r.toNat) (λx u=>qBw u) (nE f m _ _) (YX h j _ _) b;have G:(f.take i.toNat).length<=40:=by rw[qO];omega
 have z:=h.n12;have A:r.toNat<=12:=Z;have e:bfD f m a r i=(f.take i.toNat).foldl dZ (bfN f m a.toNat r.toNat):=by unfold bfD;rw[zQ]
 rw[e];omega
theorem X0{m:Nat}{f:Ll}{a r i:Int}(j:0<=i)(h:i<f.length)(d:Line):bfD f m a r (i+1)=dZ (bfD f m a r i) (f.getD i.toNat d):=by
 unfold bfD;rw[show(i+1).toNat=i.toNat+1 by omega,wY,qA,qB (show i.toNat<f.length by omega),qBp];rfl
theorem T9{m:Nat}{f:Ll}{a r i:Int}(h:0<=r)(j:¬i<f.length):bfD f m a r i=bfD f m a (r+1) 0:=by
 unfold bfD;rw[qM Z,show(r+1).toNat=r.toNat+1 by omega,uc];rfl
theorem BS(m:Nat)(k:Int):(Jv m k).length=m:=by unfold Jv;simp
theorem RA(m:Nat):List.replicate m 0=Jv m 0:=by
 rw[gH];unfold Jv;apply zY;intro i _;rw[if_neg Z]
theorem Wy{m:Nat}{k:Int}(h:0<=k):(Jv m k).set k.toNat (-1)=Jv m (k+1):=by
 unfold Jv;rw[QC];apply zY;intro j _;by_cases e:j=k.toNat;have g:j<(k+1).toNat:=by omega
 rw[if_pos e,if_pos g];rw[if_neg e];by_cases g:j<k.toNat;have f:j<(k+1).toNat:=by omega
 rw[if_pos g,if_pos f];have f:¬j<(k+1).toNat:=by omega
 rw[if_neg g,if_neg f]
theorem RB(f:Ll){m:Nat}{a b:Int}(u:¬b<m):(Jv m b).set a.toNat 0=bfD f m a 0 0:=by
 unfold Jv;rw[QC];show _=mR (m:Int).toNat a.toNat;unfold mR;apply zY;intro j h;have:=wJ.1 h;rw[if_pos (show j<b.toNat by omega)]
theorem O6{row:Li}{l:Line}(h:row.getD l.2.1.toNat 0≥0)(f:row.getD l.2.2.1.toNat 0<0\/row.getD l.2.2.1.toNat 0>row.getD l.2.1.toNat 0+l.2.2.2.2.1):
  row.set l.2.2.1.toNat (row.getD l.2.1.toNat 0+l.2.2.2.2.1)=dZ row l:=by
 unfold dZ at1 bw lTo aV;rw[show(decide (0<=row.getD l.2.1.toNat 0)&&(decide (row.getD l.2.2.1.toNat 0<0)||decide (row.getD l.2.2.1.toNat 0>row.getD l.2.1.toNat 0+l.2.2.2.2.1)))=true by
  simp only[qE,yM,qF];exact⟨h,f⟩]
 rfl
theorem O7{row:Li}{l:Line}(h:row.getD l.2.1.toNat 0≥0->¬row.getD l.2.2.1.toNat 0<0/\¬row.getD l.2.2.1.toNat 0>row.getD l.2.1.toNat 0+l.2.2.2.2.1):row=dZ row l:=by
 unfold dZ at1 bw lTo aV;rw[show(decide (0<=row.getD l.2.1.toNat 0)&&(decide (row.getD l.2.2.1.toNat 0<0)||decide (row.getD l.2.2.1.toNat 0>row.getD l.2.1.toNat 0+l.2.2.2.2.1)))=false by
  rw[Bool.and_eq_false_imp];intro g;have:=h (vO g);rw[qY this.1,qY this.2];rfl]
 rfl
theorem OM(m:Int)(f:Ll)(k:Int):(b9 m f k).length=k.toNat:=by unfold b9;simp
theorem J6{m:Nat}{f:Ll}(h:bM m f){a:Int}(u:0<=a)(j:a<m):b9 m f a++[bfD f m a m 0]=b9 m f (a+1):=by
 have e:bfD f m a m 0=jd m f a.toNat:=by
  rw[<- XZ h (show a.toNat<m by omega)];rfl
 rw[e];unfold b9;rw[show(a+1).toNat=a.toNat+1 by omega,yL,zS,zQ];rfl
theorem ZB:eO 78 AH:=af λ(((cs,ns,os,fs,G,ks):Net),_)=>by
 refine zE (A:=(lvA [(5,[1,2,3,4,5,6,7,8,9]),(9,[1,2,3,4,5,6,7,8,9]),(14,[1,2,3,4,5,6,7,8,9]),(17,[1,2,3,4,5,6,7,8,9])] (aCn fs G))) (p:=let c1:=(cs,ns,os,fs,G,ks);let c2:=Dj (noF c1);let c3:=xf c1;let f:=Di fs;let c5:=Dc f;let c6:=Int.ofNat c5;let z:=Di G;(nY c1->nY c1/\(c2->c3=Du (Li)/\True)/\(c2=false->(∃x,upN x f/\L7 c1 Z0 (Dl (b9 f G x)=0/\b9 f G x=Du (Li)/\0=x/\b9 f G x=Du (Li)/\True))/\∀(x:Int),let h:=Dl (b9 f G x);let c10:=x+1;upN x f->(Dn x f->0<=f/\(Ec 8*f)<=281474976710656/\f<=9223372036854775807/\(∃u,upN u f/\T6 c1 Z0 h x c5 (0=u/\b9 f G x=b9 f G x/\Ey f (0:Int)=Jv f u/\True))/\∀(u:Int),let c11:=Dl (Jv f u);let c12:=Ec c11;let c13:=u+1;upN u f->c11=c5/\(Dn u c6->c11=c5/\0<=u/\u<c12/\c11=c5/\inR .i64 c13/\∃y,upN y f/\(T6 c1 Z0 h x c5 (c13=y/\b9 f G x=b9 f G x/\Ep (Jv f u) (Dc u) (-1)=Jv f y/\True))/\Dc (f-y)<Dc (f-u))/\(Dn u c6=false->c11=c5/\0<=x/\x<c12/\c11=c5/\(∃L,upN L f/\w6 c1 Z0 h x c5 u (0=L/\b9 f G x=b9 f G x/\Ep (Jv f u) (Dc x) 0=bfD G f x L 0/\True))/\∀(L:Int),let A:=bfD G f x L 0;let c15:=L+1;let c16:=[A];let c17:=h+Dl c16;upN L f->Dl A=c5/\(Dn L c6->(∃x_9,upN x_9 z/\T7 c1 Z0 h x c5 u L (0=x_9/\b9 f G x=b9 f G x/\A=bfD G f x L x_9/\True))/\∀(x_9:Int),let c18:=bfD G f x L x_9;let c19:=Dl c18;let X:=(Dw G (Dc x_9) (ByteArray.mk #[],(0:Int),(0:Int),(0:Int),(0:Int),(0:Int))).2;let c22:=Ec c19;let c23:=Dw c18 (Dc X.1) 0;let j:=Eb c23 0;let c27:=Dc X.2.1;let c28:=Dw c18 c27 0;let c29:=Dn c28 0;
  let c8:=Dj c29;let c33:=Dh j c8->0=0;let c26:=Dh j c8->c19=c5;let c25:=Dh j c8->1=1;let c21:=Dh j c8;let c30:=c23+X.2.2.2.1;let c31:=Dy j (Dy c29 true (Ee c28 c30)) false;let c32:=x_9+1;
  upN x_9 z->(Dn x_9 z->0<=x_9/\x_9<z/\T6 1 0 1 1 0 (c19=c5/\0<=X.1/\X.1<c22/\c19=c5/\(j->1=1)/\L5 j ((j->1=1)/\(j->0=0)/\Q2 j ((j->c19=c5)/\(j->0<=X.2.1)/\(j->X.2.1<c22)/\L5 j ((j->c19=c5)/\Q2 j (c25/\L5 c21 (c25/\c33/\Q2 c21 (c26/\(Dh j c8->0<=X.2.1)/\(Dh j c8->X.2.1<c22)/\L5 c21 (c26/\c25/\L5 c21 (c25/\c33/\Q2 c21 (c26/\(Dh j c8->0<=X.1)/\(Dh j c8->X.1<c22)/\L5 c21 (c26/\c25/\L5 c21 (c25/\c33/\Q2 c21 ((Dh j c8->inR .i64 c30)/\Q2 c21 (L5 j ((j->Dh j c8->Dh j c8)/\(Dh true j->j)/\(c31->w6 1 1 0 1 1 0 (c19=c5/\0<=X.1/\X.1<c22/\c19=c5/\Q4 1 1 0 (inR .i64 c30/\c19=c5/\0<=X.2.1/\X.2.1<c22/\c19=c5/\inR .i64 c32/\∃y,upN y z/\(T7 c1 Z0 h x c5 u L (c32=y/\b9 f G x=b9 f G x/\Ep c18 c27 c30=bfD G f x L y/\True))/\Dc (z-y)<Dc (z-x_9))))/\(c31=false->inR .i64 c32/\∃y,upN y z/\(T7 c1 Z0 h x c5 u L (c32=y/\b9 f G x=b9 f G x/\c18=bfD G f x L y/\True))/\Dc (z-y)<Dc (z-x_9))))))))))))))))))/\(Dn x_9 z=false->inR .i64 c15/\∃y,upN y f/\(w6 c1 Z0 h x c5 u (c15=y/\b9 f G x=b9 f G x/\c18=bfD G f x y 0/\True))/\Dc (f-y)<Dc (f-L)))/\(Dn L c6=false->T4 c1 Z0 h x (Dl A=c5/\T4 A u L L (Dl A=c5/\T6 A c6 (Dn L c6) (b9 f G x) h ((c17*24)<=140737488355328/\c17<=9223372036854775807/\inR .i64 c10/\∃y,upN y f/\(L7 c1 Z0 (c17=Dl (b9 f G y)/\c10=y/\En (b9 f G x) c16=b9 f G y/\True))/\Dc (f-y)<Dc (f-x)))))))/\
  (Dn x f=false->h=h/\b9 f G x=c3/\True)))) aFN λhp=>?_
 have z:upN 0 (fs.length:Int):=⟨qN _,qU _⟩;have zl:upN 0 (G.length:Int):=⟨qN _,qU _⟩;refine Z9 ?_;refine⟨hp,λh=>by unfold xf;rw[h];rfl,λhno=>⟨⟨0,z,rfl,rfl,rfl,rfl⟩,λa ⟨a0,a1⟩=>⟨λhlt=>?_,λhge=>?_⟩⟩⟩
 .obtain⟨ok,hls⟩:=pT cs ns os fs G ks hno;have hn:=ok.n12;refine⟨Z,Z,Z,⟨0,z,rfl,RA _⟩,λb ⟨b0,b1⟩=>⟨BS _ _,λhb=>?_,λhb=>?_⟩⟩
  .have e1:=BS fs.length b
   and_intros
   all_goals try (intros;omega)
   exact⟨b+1,⟨Z,Z⟩,⟨rfl,Wy b0⟩,Z⟩
  have e1:=BS fs.length b;have e2:=RB G (a:=a) hb
  and_intros
  all_goals try (intros;omega)
  exact⟨0,z,rfl,e2⟩;intro r ⟨r0,r1⟩;have e3:=Be G fs.length a r 0;refine⟨e3,λhr=>⟨⟨0,zl,rfl,rfl⟩,λi ⟨i0,i1⟩=>⟨λhi=>?_,λhi=>⟨⟨Z,Z⟩,r+1,⟨Z,Z⟩,⟨rfl,T9 r0 hi⟩,Z⟩⟩⟩,λhr=>?_⟩
  .have e4:=Be G fs.length a r i;have bd:=aC9 ok hls (a:=a) (i:=i) r1;have o:=ok.at_ _ (getD_mem (l:=G) (i:=i.toNat) (d:=(⟨#[]⟩,0,0,0,0,0)) Z);have nx:=X0 (m:=fs.length) (a:=a) (r:=r) i0 hi (⟨#[]⟩,0,0,0,0,0);generalize G.getD i.toNat (⟨#[]⟩,0,0,0,0,0)=l at *;generalize bfD G (fs.length:Int) a r i=row at *;have b1':row.getD l.2.1.toNat 0<=3000000:=bd l.2.1.toNat;unfold bw lTo aV at o
   and_intros
   all_goals try (intros;omega)
   rintro⟨h1,h2⟩;exact⟨Z,Z⟩
   .rintro⟨h1,h2⟩
    and_intros
    all_goals try omega
    exact⟨i+1,⟨Z,Z⟩,⟨rfl,by rw[nx];exact O6 h1 h2⟩,Z⟩
   intro h;exact⟨⟨Z,Z⟩,i+1,⟨Z,Z⟩,⟨rfl,by rw[nx];exact O7 h⟩,Z⟩
  .have:r=fs.length:=by omega
   subst this;have e5:=OM (fs.length:Int) G a;have e6:=J6 ok a0 hlt;simp only[vC]
   and_intros
   all_goals try (intros;omega)
   exact⟨a+1,⟨Z,Z⟩,⟨by rw[<- e6,qG];rfl,rfl,e6⟩,Z⟩
 have:a=fs.length:=by omega
 subst this;unfold xf b9 XB;rw[if_pos hno,zQ]
theorem aGb:ay Tryz.prog G0 K15:=
 ai (af λ((z,h,f,y,j,u),_)=>Qq z h f y j u)<|ai ZB aFN
theorem Tt(A:LC)(u j:LB)(f:Lo)(y:Ll)(z:Lk)(h:noF (A,u,j,f,y,z)=true):(xf (A,u,j,f,y,z)).length=f.length:=by unfold xf XB;rw[if_pos h];simp
theorem Im(A:LC)(y u:LB)(f:Lo)(j:Ll)(z:Lk)(h:noF (A,y,u,f,j,z)=true){a:Nat}(G:a<f.length):(xf (A,y,u,f,j,z)).getD a []=jd f.length j a:=by
 unfold xf XB;rw[if_pos h];show((List.range f.length).map λa=>jd f.length j a).getD a []=_;rw[qA,qQ,zH G];rfl
theorem ON{m:Nat}{f:Ll}{a b:Nat}(h:b<m):(jd m f a).getD b 0=cell (cD f) a b:=by
 unfold jd;rw[qA,qQ,zH h,zZ,vJ]
theorem J7(m:Nat)(f:Ll)(a:Nat):(jd m f a).length=m:=by unfold jd;simp
theorem nB{d:Lj}{b k:Int}(f:0<=k):(je d b k||decide ((d.getD k.toNat []).getD b.toNat 0<0))=je d b (k+1):=by
 unfold je;rw[show(k+1).toNat=k.toNat+1 by omega,yL,qBy];simp
theorem any_congr{α:Type}{p q:α->Bool}:∀{l:List α},(∀x∈l,p x=q x)->l.any p=l.any q|[],_=>rfl|a::l,h=>by rw[qCj,qCj,h a (by simp),any_congr λx f=>h x (by simp[f])]
theorem TB(A:LC)(y u:LB)(f:Lo)(j:Ll)(z:Lk)(h:noF (A,y,u,f,j,z)=true){b:Int}(b0:0<=b)(b1:b<f.length):je (xf (A,y,u,f,j,z)) b f.length=rY f.length j b.toNat:=by
 obtain⟨L,_⟩:=pT A y u f j z h;have X:=L.n12;unfold je rY;rw[zQ];apply any_congr;intro a G;have G:=wJ.1 G;rw[Im A y u f j z h G,ON Z];have:=(pI L (a:=a) Z).low b.toNat Z;congr 1;exact qCa Z
theorem U0:eO 25 vQ:=af λ(((cs,ns,X,u,j,ks):Net),_)=>by
 refine zE (A:=(lvA [(6,[2,3,4,5,6,7]),(10,[2,3,4,5,6,7])] (gO u j (xf (cs,ns,X,u,j,ks))))) (p:=let c1:=(cs,ns,X,u,j,ks);let c2:=dd c1;let c3:=Dl c2;let c4:=Ee (Int.ofNat c3) 0;let c5:=fm c1;let h:=Di u;let z:=xf c1;let c8:=Di z;(nY c1->nY c1/\c3=c3/\(c4->c3=c3/\c2=c5/\True)/\(c4=false->nY c1/\(∃x,upN x h/\Value.slice none 0 0=Value.slice none 0 0/\c3=Dl (aP h j x)/\z=z/\0=x/\c2=aP h j x/\True)/\∀(x:Int),let G:=Dl (aP h j x);let c10:=[((3:Int),x,(111:Int))];let L:=G+Dl c10;let c12:=x+1;upN x h->(Dn x c8->(∃f,upN f h/\T4 Z0 G z x (false=je z x f/\0=f/\T5 (aP h j x)))/\∀(f:Int),let A:=Dj (je z x f);let c14:=Dw z (Dc f) [];let c15:=f+1;upN f h->(Dn f c8->Q2 A ((A->0<=f)/\(A->f<c8)/\Q3 A ((A->0<=x)/\(A->x<Di c14)/\Q2 A ((Dh true A->A)/\inR .i64 c15/\∃y,upN y h/\(T4 Z0 G z x (Dy (je z x f) true (Dn (Dw c14 (Dc x) 0) 0)=je z x y/\c15=y/\T5 (aP h j x)))/\Dc (h-y)<Dc (h-f)))))/\(Dn f c8=false->(je z x f->G=G/\(L*24)<=140737488355328/\L<=9223372036854775807/\inR .i64 c12/\∃y,upN y h/\(Value.slice none 0 0=Value.slice none 0 0/\L=Dl (aP h j y)/\z=z/\c12=y/\En (aP h j x) c10=aP h j y/\True)/\Dc (h-y)<Dc (h-x))/\(je z x f=false->inR .i64 c12/\∃y,upN y h/\(Value.slice none 0 0=Value.slice none 0 0/\G=Dl (aP h j y)/\z=z/\c12=y/\aP h j x=aP h j y/\True)/\Dc (h-y)<Dc (h-x))))/\(Dn x c8=false->G=G/\aP h j x=c5/\True)))) aGb λhp=>?_
 have z:upN 0 (u.length:Int):=⟨qN _,qU _⟩;refine Z9 ?_;refine⟨hp,λh=>by unfold fm;rw[GI h];rfl,λh=>?_⟩;have G:=LG h;have hf:=rk.1 G;obtain⟨ok,hls⟩:=pT cs ns X u j ks G;have hn:=ok.n12;have hd:=Tt cs ns X u j ks G;refine⟨hp,⟨0,z,by rw[hf,js],rfl,by rw[hf,js]⟩,λb ⟨b0,b1⟩=>⟨λhb=>⟨⟨0,z,rfl,rfl⟩,λa ⟨a0,a1⟩=>⟨λha=>?_,λha=>?_⟩⟩,λhb=>?_⟩⟩
 .have hr:=Im cs ns X u j ks G (a:=a.toNat) Z;have hrl:=J7 u.length j a.toNat;rw[<- hr]at hrl
  and_intros
  all_goals try (intros;omega)
  exact⟨a+1,⟨Z,Z⟩,⟨nB a0,rfl⟩,Z⟩
 have:a=u.length:=by omega
 subst this;have hl:=uQ (u.length:Int) j b;rw[TB cs ns X u j ks G b0 Z];refine⟨λhc=>?_,λhc=>?_⟩;have e2:=uP (m:=u.length) b0 (by rw[zQ];exact hc);exact⟨by simp only[vC];omega,by simp only[vC];omega,⟨Z,Z⟩,b+1,⟨Z,Z⟩,⟨by rw[e2,qG],rfl,e2.symm⟩,Z⟩;have e2:=Ad (m:=u.length) (by rw[zQ];exact hc) b0;exact⟨⟨Z,Z⟩,b+1,⟨Z,Z⟩,⟨by rw[e2],rfl,e2.symm⟩,Z⟩;have:b=u.length:=by omega
 subst this;unfold fm;rw[G];rfl
theorem aGK:ay Tryz.prog G0 K16:=ai U0 aGb
theorem Yz{l:List ByteArray}:(∀i:Int,0<=i->i<l.length->rule2 l i=0)↔l.Pairwise (λa b=>a.toList≠b.toList):=by
 have u:∀i:Nat,∀h:i<l.length,rule2 l (i:Int)=0↔∀j,∀f:j<i,(l[j]'Z).toList≠l[i].toList:=by
  intro i A;unfold rule2 jH;rw[zQ,qA,qB A,vJ];constructor;intro h j f e;split at h;cases h;rename_i y;refine y (xO.2 ⟨l[j]'Z,yG.2 ⟨j,by rw[qO];omega,by rw[qCp]⟩,?_⟩);rw[e];exact xY _;intro h;rw[if_neg];intro y;obtain⟨w,X,G⟩:=xO.1 y;obtain⟨j,f,rfl⟩:=yG.1 X;rw[qO]at f;rw[qCp]at G;exact h j Z (yX.1 G)
 rw[List.pairwise_iff_getElem];constructor;intro h i j A f z;exact(u j f).1 (h j Z Z) i z;intro h i L i1;have:=(u i.toNat Z).2 λj f=>h j i.toNat Z Z f;rwa [wC L]at this
theorem Cm{y f:Int}{l:List ByteArray}{g:List Bool}(h0:0<=f):bF y f l g=[]↔(l.length:Int)<=f/\(∀x∈l,bJ x=true)/\l.Pairwise (λa b=>a.toList≠b.toList)/\∀i,i<l.length->g.getD i false=true:=by
 have A:∀i:Nat,∀h:i<l.length,jH l (i:Int)=l[i]:=λi u=>by
  unfold jH;rw[zQ,qA,qB u,vJ]
 constructor;intro h;obtain⟨G,z⟩:=wn h0 h;refine⟨G,λx hx=>?_,Yz.1 λi X L=>(qm (z i X L)).2.1,λi u=>?_⟩;obtain⟨i,u,rfl⟩:=yG.1 hx;have:=(qm (z i Z Z)).1;unfold bT at this;rw[A i u]at this;split at this;assumption;cases this;have:=zx (qm (z i Z Z)).2.2;rwa [zQ]at this;rintro⟨G,z,h3,h4⟩;unfold bF aT Gu;rw[if_neg Z,wH,qCr];intro i u;have u:=wJ.1 u;have j:i<l.length:=Z;have e1:bT l (i:Int)=0:=by unfold bT;rw[A i j,if_pos (z _ (wS j))]
 have e2:=Yz.2 h3 (i:Int) Z Z;have e3:cm g (i:Int)=0:=by unfold cm;rw[zQ,if_pos (h4 i j)]
 have:nZ l g (i:Int)=0:=by unfold nZ;rw[e1,e2,e3];rfl
 rw[if_pos this]
theorem oK{α:Type}{j h:Int}(h0:0<=h)(A:α->ByteArray)(f:α->Bool)(xs:List α):bF j h (xs.map A) (xs.map f)=[] ↔
  (xs.length:Int)<=h/\(∀x∈xs,bJ (A x)=true)/\xs.Pairwise (λa b=>(A a).toList≠(A b).toList)/\∀x∈xs,f x=true:=by
 rw[Cm h0,vX,qBn];constructor;rintro⟨h1,X,L,G⟩;refine⟨h1,λx u=>X _ (List.mem_map_of_mem u),L,λx u=>?_⟩;obtain⟨i,z,rfl⟩:=yG.1 u;have:=G i z;rwa [qA,qQ,qB z,zZ,vJ]at this;rintro⟨h1,X,L,G⟩;refine⟨h1,λx u=>?_,L,λi z=>?_⟩;obtain⟨y,hy,rfl⟩:=vW.1 u;exact X y hy;rw[qA,qQ,qB z,zZ,vJ];exact G _ (wS z)
theorem mj(A:LC)(u j:LB)(z:Lo)(f:Ll)(y:Lk)(h:noF (A,u,j,z,f,y)=true):(f.length:Int)<=40/\(∀x∈f,bJ x.1=true)/\f.Pairwise (λa b=>a.1.toList≠b.1.toList)/\∀x∈f,dB (A,u,j,z,f,y) x=true:=
 (oK (by decide) (λl:Line=>l.1) (dB (A,u,j,z,f,y)) f).1 (nh A u j z f y h).2.2.2.2.1
theorem Walk.map{j f:Ll}(h:∀l∈j,∃r∈f,bw r=bw l/\lTo r=lTo l/\aV r<=aV l){a b:Nat}{n:Int}(w:Walk j a b n):∃m,m<=n/\Walk f a b m:=by
 induction w with
 |nil=>exact⟨0,qN _,.nil _⟩|snoc l z _ u=>
  obtain⟨m,hm,g⟩:=u;obtain⟨r,y,G,A,L⟩:=h l z;rw[<- G]at g;exact⟨m+aV r,Z,A▸.snoc r y g⟩
theorem Walk.ends{j f:Ll}(h:∀l∈j,∃r∈f,bw r=bw l/\lTo r=lTo l){a b:Nat}{n:Int}(w:Walk j a b n):∃m,Walk f a b m:=by
 induction w with
 |nil=>exact⟨0,.nil _⟩|snoc l z _ u=>
  obtain⟨m,g⟩:=u;obtain⟨r,y,G,A⟩:=h l z;rw[<- G]at g;exact⟨m+aV r,A▸.snoc r y g⟩
noncomputable def K18:Kt:=K16
noncomputable def K19:Kt:=kOr 9 (aA [.row N] (λ(n,_)=>nY n=true) λ(n,_)=>.dat .bool (aZ n)) K18
theorem aDl:ay Tryz.prog G0 K18:=aGK
theorem qi{x:Int}(h:-1000000000<=x/\x<=1000000000):inR .i64 x:=by unfold inR;simp only;omega
theorem BQ(A:LC)(u j:LB)(f:Lo)(y:Ll)(z:Lk)(h:noF (A,u,j,f,y,z)=true):(f.length:Int)<=12/\(∀x∈f,bJ x.1=true)/\f.Pairwise (λa b=>a.1.toList≠b.1.toList)/\∀x∈f,dA (A,u,j,f,y,z) x=true:=
 (oK (by decide) (λl:Off=>l.1) (dA (A,u,j,f,y,z)) f).1 (nh A u j f y z h).2.2.2.1
theorem Qa(z:LC)(h f:LB)(y:Lo)(j:Ll)(u:Lk):aj Tryz.prog G0 9 [net z h f y j u] [] ⟨nY (z,h,f,y,j,u)=true,.dat .bool (aZ (z,h,f,y,j,u)),[]⟩:=by
 refine zF (c:=mkc K18) (A:=aG) aDl tC hm (p:=let G:=(z,h,f,y,j,u);true/\(nY G->nY G/\Ed (Di (fm G)) 0=aZ G/\True)) ⟨rfl,λL=>?_⟩;refine Z9 ?_;refine⟨L,?_⟩;unfold aZ;cases fm (z,h,f,y,j,u)with
 |nil=>rfl|cons a l=>
  show decide _=false;rw[wG];show ¬((((a::l).length:Nat):Int)=0);rw[wR];omega
theorem aFL:ay Tryz.prog G0 K19:=ai (af λ((z,h,f,y,j,u),_)=>Qa z h f y j u) aDl
theorem Ba(A:LC)(y u:LB)(f:Lo)(j:Ll)(z:Lk):fm (A,y,u,f,j,z)=[]↔noF (A,y,u,f,j,z)=true/\aP f.length j f.length=[]:=by
 unfold fm;cases h:noF (A,y,u,f,j,z)with
 |true=>exact⟨λg=>⟨rfl,g⟩,λg=>g.2⟩|false=>
  constructor;intro g;have:noF (A,y,u,f,j,z)=true:=rk.2 g;rw[h]at this;cases this;intro g;cases g.1
def Yw(a b:Int):Int:=a%b
def dH(d:Int):Bool:=decide (-1000000<=d/\d<=1000000)
def uY(d:Int):Prop:=-1000000000000<=d/\d<=1000000000000
def Rn(b:Int):Prop:=0<b/\b<=1000000
abbrev ri(z:Int)(w:List Bool)(h:Li)(t:Int):Prop:=aW z w h=true/\-2000000000<=t/\t<=2000000000
abbrev nT(z:Int)(w:List Bool)(h:Li)(d m:Int):Prop:=aW z w h=true/\dH d=true/\0<=m/\m<1440
def jD(z t:Int):Int:=(t+z)/1440
def Oh(z t:Int):Int:=(t+z)%1440
def ij(z d m:Int):Int:=d*1440+m-z
abbrev MO:=aA [.val I,.val I] (λ(a,b,_)=>uY a/\Rn b) λ(a,b,_)=>.dat I (Yw a b)
abbrev sG:=aA [.val I] (λ_=>True) λ(a,_)=>.dat .bool (dH a)
def KT1:Kt:=kOr 128 MO <|
 kOr 129 sG K19
abbrev AS:=aA [.row C,.val I] (λ(c,t,_)=>ri c.1 c.2.1 c.2.2 t) λ(c,t,_)=>.tup [.dat I (jD c.1 t),.dat I (Oh c.1 t)]
abbrev Hy:=aA [.row C,.val I,.val I] (λ(c,d,m,_)=>nT c.1 c.2.1 c.2.2 d m) λ(c,d,m,_)=>.dat I (ij c.1 d m)
def KT2:Kt:=kOr 71 AS <|
 kOr 72 Hy KT1
theorem aEU:eO 128 MO:=af λ((a:Int),(b:Int),_)=>by
 refine zE (A:=aG) (p:=let j:=Dn (Gg a b) 0;let f:=Gg a b+b;(uY a/\Rn b->b≠0/\(j->inR .i64 f/\f=Yw a b/\True)/\(j=false->Gg a b=Yw a b/\True))) aFL λ⟨⟨h1,X⟩,u,L⟩=>?_;have e:=qAx (a:=a) (b:=b);have e1:=qAa a (show b≠0 by omega);have e2:=kR a u;have z:(b.natAbs:Int)=b:=Int.natAbs_of_nonneg Z;simp only[Es,Dn,Gg,Dt,Yw,inR,qF,wG];by_cases hc:0<=a\/b ∣ a;rw[if_pos hc]at e;refine⟨Z,λh=>Z,λh=>⟨Z,trivial⟩⟩;rw[if_neg hc,z]at e;have G:a%b≠0:=λy=>hc (.inr (Int.dvd_of_emod_eq_zero y));refine⟨Z,λh=>⟨Z,Z,trivial⟩,λh=>Z⟩
theorem QJ:eO 129 sG:=af λ((a:Int),_)=>by
 refine zE (A:=aG) (p:=let f:=Eb a (-1000000);(True->L5 f ((Dh true f->f)/\Dy f (Ef a 1000000) false=dH a/\True))) aFL λ_=>⟨λh _=>h,λh=>by simpa[Dh]using h,?_,trivial⟩;rw[lC];simp[dH,Eb,Ef]
theorem aFH:ay Tryz.prog G0 KT1:=ai aEU<|ai QJ aFL
theorem ZZ:eO 71 AS:=af λ(((z:Int),(w:List Bool),(h:Li)),(t:Int),_)=>by
 refine zE (A:=aG) (p:=let X:=Dj (aW z w h);let j:=Dj X;let L:=Dy X true (Dn t (-2000000000));let f:=Dj L;let G:=Dy L true (Ee t 2000000000);let u:=Yw (t+z) 1440;let A:=(t+z)-u;let y:=Gq A 1440;(ri z w h t->True/\(j->j->j)/\(Dh true j->j)/\(f->f->f)/\(Dh true f->f)/\(G->0=jD z t/\0=Oh z t/\True)/\(G=false->inR .i64 (t+z)/\(uY (t+z)/\Rn 1440)/\inR .i64 A/\Es 1440 0/\inR .i64 y/\y=jD z t/\u=Oh z t/\True))) aFH λ⟨u,h1,h2⟩=>?_;obtain⟨⟨v1,v2,v3,v4⟩,_⟩:=ez.1 u;have a1:¬t < -2000000000:=by omega
 have a2:¬t>2000000000:=by omega
 simp only[u,a1,a2,xn,lC,Dh,Dj,yC,qBi,yE,vY,qBd,gG,yV,xQ,xH,Dn,Ee,qAr,zB,wF,qAe,kV,kU,qBb,qBh,qAz,gI,Es,Dk,Dt,Gq,inR,Yw,jD,Oh,uY,Rn];have e0:=qAa (t+z) (show(1440:Int)≠0 by omega);have e1:=kR (t+z) (show(0:Int)<1440 by omega);have e3:t+z-(t+z)%1440=1440*((t+z)/1440):=by omega
 rw[e3,qCy _ (by omega)];omega
theorem aB3:eO 72 Hy:=af λ(((z:Int),(w:List Bool),(h:Li)),(d:Int),(m:Int),_)=>by
 refine zE (A:=aG) (p:=let c1:=Dj (aW z w h);let f:=Dj c1;let X:=Dy c1 true (Dj (dH d));let j:=Dj X;let L:=Dy X true (Dn m 0);let y:=Dj L;let A:=Dy L true (Eb m 1440);let G:=d*1440;let c9:=G+m;let u:=c9-z;(nT z w h d m->True/\(f->f->f)/\(f->True)/\(f->f->f)/\(Dh true f->f)/\(j->j->j)/\(Dh true j->j)/\(y->y->y)/\(Dh true y->y)/\(A->0=ij z d m/\True)/\(A=false->inR .i64 G/\inR .i64 c9/\inR .i64 u/\u=ij z d m/\True))) aFH λ⟨y,hd,h1,h2⟩=>?_;obtain⟨⟨v1,v2,v3,v4⟩,_⟩:=ez.1 y;have a1:¬m<0:=by omega
 have a2:¬m≥1440:=by omega
 simp only[y,hd,a1,a2,xn,lC,Dh,Dj,yC,qBi,yE,vY,qBd,gG,yV,xQ,xH,Dn,Eb,qAr,zB,wF,qAe,kV,kU,qBb,qBh,qAz,gI,Dk,Dt,Ej,inR,ij];unfold dH at hd;have:=vO hd;omega
theorem aFG:ay Tryz.prog G0 KT2:=ai ZZ<|ai aB3 aFH
def IZ(h:Li)(d i:Int):Bool:=decide (h.getD i.toNat 0≥d)
def Xe(h:Li)(i:Int):Prop:=0<=i/\i<h.length
def jC(g:Int->Bool)(n:Int):Int:=(((List.range n.toNat).filter λ(i:Nat)=>!g (i:Int)).length:Int)
def lW(g:Int->Bool)(pre:Int->Prop)(n:Int):Prop:=0<=n/\n<=1000000/\(∀i,0<=i->i<n->pre i)/\∀i j,0<=i->i<=j->j<n->g i=true->g j=true
def mW(g:Int->Bool)(n i j:Int):Prop:=0<=i/\i<=j/\j<=n/\(0<i->g (i-1)=false)/\(j<n->g j=true)
def atS(h:Li)(d:Int):Int:=jC (IZ h d) h.length
def bE(w:List Bool)(h:Li)(d:Int):Bool:=w.getD (d%7).toNat false&&!h.contains d
def p1(x:Int×Int):Int:=x.1
def p2(x:Int×Int):Int:=x.2
def yW(w:List Bool)(h:Li):Prop:=w.length=7/\h.length<=40/\∀i:Nat,i+1<h.length->h.getD i 0<h.getD (i+1) 0
instance (w:List Bool) (h:Li):Decidable (yW w h):=decidable_of_iff (w.length=7/\h.length<=40/\∀i:Nat,i<h.length->i+1<h.length->h.getD i 0<h.getD (i+1) 0) ⟨λ⟨a,b,c⟩=>⟨a,b,λi hi=>c i Z hi⟩,λ⟨a,b,c⟩=>⟨a,b,λi _ hi=>c i hi⟩⟩
def ZU(g:Int->Bool)(n:Int):Ann:=Z8 2 (Int×Int) (λx=>mW g n (p1 x) (p2 x)) (λs x=>put s [(5,.dat I (p1 x)),(6,.dat I (p2 x))]) λx=>Dc (Dk (p2 x) (p1 x))
def KT3:Kt:=λf args m=>match f,args,m with|249,[.dat (.int .i64) i,.ip (.pair (.int .i64) (.pair (.sl .bool) (.sl (.int .i64)))) c,.ip (.int .i64) d],[]=>some ⟨Xe c.2.2 i,.dat .bool (IZ c.2.2 d i),[]⟩|248,[.dat (.int .i64) n,.fn 249 [.ip (.pair (.int .i64) (.pair (.sl .bool) (.sl (.int .i64)))) c,.ip (.int .i64) d]],[]=>some ⟨lW (IZ c.2.2 d) (Xe c.2.2) n,.dat I (jC (IZ c.2.2 d) n),[]⟩|_,_,_=>KT2 f args m
def aD7:Ann:=⟨λ_ _=>none,λf s=>match f with
 |3=>some (frz (allNames s) s)|_=>none,λ_ _=>none⟩
def KT4:Kt:=λf args m=>match f,args,m with|247,[.dat (.int .i64) d,.ia .bool w,.ip (.pair (.int .i64) (.pair (.sl .bool) (.sl (.int .i64)))) c],[]=>some ⟨yW w c.2.2/\uY d,.dat .bool (bE w c.2.2 d),[]⟩|193,[.agg [.dat (.int .i64) z,.dat (.sl .bool) w,.dat (.sl (.int .i64)) h]],[]=>some ⟨Dl w=7,.fn 247 [.ia .bool w,.ip C (z,w,h)],[]⟩|_,_,_=>KT3 f args m
theorem YM{h:Li}(f:∀i:Nat,i+1<h.length->h.getD i 0<h.getD (i+1) 0):∀(k i:Nat),i+k+1<h.length->h.getD i 0<h.getD (i+k+1) 0
 |0,i,j=>f i j|k+1,i,j=>by
  have y:=YM f k i Z;have u:=f (i+k+1) Z;have e:i+(k+1)+1=i+k+1+1:=Z;rw[e];omega
theorem JU{h:Li}(u:∀i:Nat,i+1<h.length->h.getD i 0<h.getD (i+1) 0){i j:Nat}(f:i<j)(y:j<h.length):h.getD i 0<h.getD j 0:=by
 have:=YM u (j-i-1) i Z;rwa [show i+(j-i-1)+1=j by omega]at this
theorem oO{g:Int->Bool}{i:Nat}:∀N:Nat,(∀x:Nat,x<N->g (x:Int)=decide (i<=x))->((List.range N).filter λ(x:Nat)=>!g (x:Int)).length=min i N
 |0,_=>by simp|N+1,h=>by
  rw[yL,yJ,qG,oO N λx j=>h x Z];by_cases f:i<=N;have e:g (N:Int)=true:=by rw[h N Z];simpa using f
  simp only[yP,e,yV,gU,wF,xM,yZ];omega;have e:g (N:Int)=false:=by rw[h N Z];simpa using f
  simp only[yP,e,xH,gU,kE,wR,yZ];omega
theorem search_end{g:Int->Bool}{pre:Int->Prop}{n i j:Int}(X:lW g pre n)(L:mW g n i j)(he:¬i<j):i=jC g n:=by
 obtain⟨p0,_,_,y⟩:=X;obtain⟨G,t1,t2,A,z⟩:=L;have u:i=j:=Z;subst u;have h:∀x:Nat,x<n.toNat->g (x:Int)=decide (i.toNat<=x):=λx hx=>by
  by_cases f:i.toNat<=x;rw[qR f];exact y i x G Z Z (z Z);rw[qY f];cases hg:g (x:Int)with
  |false=>rfl|true=>
   have:=y x (i-1) Z Z Z hg;rw[A Z]at this;cases this
 unfold jC;rw[oO _ h];omega
theorem Vv(n:Int)(pre:Int->Prop)(g:Int->Bool):aj Tryz.prog G0 248 [.dat I n,.clo1 I .bool pre g] [] ⟨lW g pre n,.dat I (jC g n),[]⟩:=by
 refine zE (A:=(lvA [(2,[1,4,5,6,7])] (ZU g n))) (p:=let h:=Ty.int .i64;(lW g pre n->(∃x,mW g n (p1 x) (p2 x)/\AV.clo1 h Ty.bool pre g=AV.clo1 h Ty.bool pre g/\(0:Int)=(0:Int)/\0=p1 x/\n=p2 x/\True)/\∀(x:Int×Int),let c1:=Dn (p1 x) (p2 x);let c2:=p1 x+p2 x;let f:=Gl c2 1;let c4:=Dj (g f);let c5:=f+1;mW g n (p1 x) (p2 x)->(c1->inR .i64 c2/\inR IntKind.u64 c2/\Dp 0 1/\Dc 1<=64/\inR .i64 f/\pre f/\(c4->inR .i64 c5/\∃y,mW g n (p1 y) (p2 y)/\(AV.clo1 h Ty.bool pre g=AV.clo1 h Ty.bool pre g/\(0:Int)=(0:Int)/\c5=p1 y/\p2 x=p2 y/\True)/\Dc (p2 y-p1 y)<Dc (p2 x-p1 x))/\(c4=false->∃y,mW g n (p1 y) (p2 y)/\(AV.clo1 h Ty.bool pre g=AV.clo1 h Ty.bool pre g/\(0:Int)=(0:Int)/\p1 x=p1 y/\f=p2 y/\True)/\Dc (p2 y-p1 y)<Dc (p2 x-p1 x)))/\(c1=false->p1 x=jC g n/\True))) aFG λu=>?_;have L:=u.1;have hp1:=u.2.1;have G:∀x:Int,0<=x->Gl x 1=x/2:=λx z=>by
  simp only[Gl];rw[show(2:Int) ^ (1:Int).toNat=2 by decide,qCm _ (by omega)]
 simp only[Dj,qBi,yE,vY,zB,kD,Dn,Dp,Dz,Dk,Dt,Dx,Dc,qF,wG];refine⟨⟨(0,n),⟨qN _,L,qN _,λh=>absurd h (by simp only[p1];omega),λh=>absurd h (by simp only[p2];omega)⟩,rfl,rfl⟩,λx z=>⟨λX=>?_,λhge=>search_end u z hge⟩⟩;obtain⟨i,j⟩:=x;obtain⟨t0,t1,t2,t3,t4⟩:=z;simp only[p1,p2]at t0 t1 t2 t3 t4 X ⊢;rw[G (i+j) (by omega)];simp only[inR];refine⟨by omega,by omega,by omega,by decide,by omega,u.2.2.1 _ (by omega) (by omega),λhg=>⟨by omega,((i+j)/2+1,j),⟨by simp only;omega,by simp only;omega,t2,λ_=>?_,t4⟩,⟨rfl,rfl⟩,by simp only;omega⟩,
  λhg=>⟨(i,(i+j)/2),⟨t0,by simp only;omega,by simp only;omega,t3,λ_=>hg⟩,⟨rfl,rfl⟩,by simp only;omega⟩⟩
 simp only[Int.add_sub_cancel];exact hg
theorem aFW(i d:Int)(c:C.den):aj Tryz.prog G0 249 [.dat I i,.ip C c,.ip I d] [] ⟨Xe c.2.2 i,.dat .bool (IZ c.2.2 d i),[]⟩:=
 zE (A:=aG) (p:=(Xe c.2.2 i->0<=i/\i<Di c.2.2/\Eb (Dw c.2.2 (Dc i) 0) d=IZ c.2.2 d i/\True)) aFG λh=>⟨h.1,h.2,rfl,trivial⟩
theorem QG(n d:Int)(c:C.den):aj Tryz.prog G0 248 [.dat I n,.fn 249 [.ip C c,.ip I d]] [] ⟨lW (IZ c.2.2 d) (Xe c.2.2) n,.dat I (jC (IZ c.2.2 d) n),[]⟩:=
 (Vv n (Xe c.2.2) (IZ c.2.2 d)).args λC us z y=>by
  obtain⟨u,h,e,L,j,f,X,G,A⟩:=y;exact⟨u,h,e,L,j,f,X,OW (by kernel_rfl) rfl (λx=>aFW x d c) z G,A⟩
theorem aFF:ay Tryz.prog G0 KT3:=by
 intro f args m c h;unfold KT3 at h;split at h;cases h;exact aFW _ _ _;cases h;exact QG _ _ _;exact aFG _ _ _ _ h
theorem Nw{h:Li}(z:∀i:Nat,i+1<h.length->h.getD i 0<h.getD (i+1) 0)(d:Int):
  0<=atS h d/\atS h d<=h.length/\(∀i:Nat,(i:Int)<atS h d->h.getD i 0<d)/\∀i:Nat,atS h d<=i->i<h.length->d<=h.getD i 0:=by
 have X:∃k:Nat,k<=h.length/\(∀i:Nat,i<k->h.getD i 0<d)/\∀i:Nat,k<=i->i<h.length->d<=h.getD i 0:=by
  have:∀N:Nat,N<=h.length->∃k:Nat,k<=N/\(∀i:Nat,i<k->h.getD i 0<d)/\∀i:Nat,k<=i->i<N->d<=h.getD i 0:=by
   intro N;induction N with
   |zero=>intro _;exact⟨0,qL _,λi z=>Z,λi _ z=>Z⟩
   |succ N ih=>
    intro hN;obtain⟨k,k1,j,u⟩:=ih Z;by_cases hk:k<N;refine⟨k,Z,j,λi G A=>?_⟩;rcases wW i N with y|y;exact u i G y;have L:i=N:=by omega
    have:=u k (qL _) hk;have:=JU z hk (show N<h.length by omega);rw[L];omega;have ek:k=N:=by omega
    subst ek;by_cases hd:h.getD k 0<d;refine⟨k+1,qL _,λi hi2=>?_,λi G A=>Z⟩;rcases wW i k with y|y;exact j i y;rw[show i=k by omega];exact hd;exact⟨k,Z,j,λi G A=>by rw[show i=k by omega];omega⟩
  exact this h.length (qL _)
 obtain⟨k,k1,j,u⟩:=X;have e:atS h d=k:=by
  unfold atS jC;rw[oO (i:=k) _ (λx hx=>?_)];omega;unfold IZ;simp only[zQ];by_cases f:k<=x;rw[qR f];exact qR (u x f Z);have:=j x Z;rw[qY f];exact qY Z
 rw[e];exact⟨Z,Z,λi z=>j i Z,λi G A=>u i Z A⟩
theorem SO{w:List Bool}{h:Li}(u:yW w h)(d:Int):lW (IZ h d) (Xe h) h.length:=by
 refine⟨Z,by have:=u.2.1;omega,λi y L=>⟨y,L⟩,λi j y A X f=>?_⟩;unfold IZ at f ⊢;simp only[qF]at f ⊢;rcases qCz i j with z|G;have:=JU u.2.2 (show i.toNat<j.toNat by omega) Z;omega;rw[show j=i by omega];exact f
theorem Zi{w:List Bool}{h:Li}(L:yW w h)(d:Int):(decide (atS h d=h.length)||(h.getD (atS h d).toNat 0 != d))=!h.contains d:=by
 obtain⟨g0,g1,g2,g3⟩:=Nw L.2.2 d;obtain⟨k,hk⟩:∃k,k=atS h d:=⟨_,rfl⟩;rw[<- hk]at g0 g1 g2 g3 ⊢;have j:d∈h↔k<h.length/\h.getD k.toNat 0=d:=by
  constructor;intro hm;obtain⟨i,G⟩:=kP.1 hm;have A:=(qC.1 G).1;have e:h.getD i 0=d:=by rw[qA,G];rfl
  have X:k<=i:=by
   rcases qCz (i:Int) k with f|z;have:=g2 i f;omega;exact z
  have u:k.toNat=i:=by
   rcases wW k.toNat i with f|z;have:=JU L.2.2 f A;have:=g3 k.toNat Z Z;omega;omega
  exact⟨Z,by rw[u];exact e⟩;rintro⟨X,u⟩;have f:k.toNat<h.length:=Z;rw[qA,qB f]at u;simp only[vJ]at u;rw[<- u];exact wS _
 by_cases hd:d∈h;obtain⟨X,u⟩:=j.1 hd;have:h.contains d=true:=by simpa using hd
 rw[this,u];have:¬k=h.length:=Z;simp[this];have:h.contains d=false:=by simpa using hd
 rw[this];by_cases y:k=h.length;simp[y];have:h.getD k.toNat 0≠d:=λe=>hd (j.2 ⟨Z,e⟩);simp only[y,qAr,xQ,xH,qCq,ne_eq];exact this
theorem ZW(d:Int)(wk:List Bool)(c:C.den):aj Tryz.prog G0 247 [.dat I d,.ia .bool wk,.ip C c] [] ⟨yW wk c.2.2/\uY d,.dat .bool (bE wk c.2.2 d),[]⟩:=by
 obtain⟨z,w,h⟩:=c;refine zE (A:=aD7) (p:=let A:=Di h;let u:=Yw d 7;let j:=Dw wk (Dc u) false;let L:=Dj j;let c4:=(z,w,h);let G:=jC (IZ h d) A;let X:=Ed G A;let y:=Dj X;let f:=y->y->y;(yW wk h/\uY d->(uY d/\Rn 7)/\Dl wk=7/\0<=u/\u<Ec 7/\(L->false=bE wk h d/\True)/\(L=false->d=d/\wk=wk/\c4=c4/\d=d/\false=false/\d=d/\u=u/\j=j/\j=j/\L=L/\lW (IZ h d) (Xe h) A/\f/\f/\f/\(y->0<=G)/\(y->G<Di h)/\f/\f/\f/\(Dh true y->y)/\Dy X true (Ea (Dw h (Dc G) 0) d)=bE wk h d/\True))) aFF λ⟨y,hd⟩=>?_;have hs:=SO y d;obtain⟨g0,g1,g2,g3⟩:=Nw y.2.2 d;have e0:=qAa d (show(7:Int)≠0 by omega);have e1:=kR d (show(0:Int)<7 by omega);have ea:jC (IZ h d) (Di h)=atS h d:=rfl;have hs':lW (IZ h d) (Xe h) (Di h):=hs;simp only[ea,hs',xn,lC,Dh,Dj,yC,qBi,yE,vY,qBd,gG,zB,kD,Yw,Dw,Dc,Ed,Ea,Dp,Dq,Di,Ec,Dl,qAj];refine⟨⟨hd,by omega,by omega⟩,y.1,e0,by exact_mod_cast e1,λX=>?_,λX=>⟨λ_=>g0,λhne=>by omega,?_⟩⟩;unfold bE;rw[X];rfl;unfold bE;rw[X,yC,<- Zi y d];congr 1
theorem Vu(z:Int)(w:List Bool)(h:Li):aj Tryz.prog G0 193 [cal z w h] [] ⟨Dl w=7,.fn 247 [.ia .bool w,.ip C (z,w,h)],[]⟩:=by
 refine zE (A:=aG) (p:=let j:=Gi 7 false;let u:=Gn j w;let y:=(z,w,h);(Dl w=7->L7 0 7 (Dl j=7/\Dl j=7/\Dl u=7/\0=0/\u=w/\T5 y))) aFF λf=>?_;have f:w.length=7:=f;have e:Gn (Gi 7 false) w=w:=by
  simp only[Gn,Gi,zU,<- f,kY];rw[yD (by simp),wH]
 refine⟨rfl,rfl,by simp[Dl,Gi],by simp[Dl,Gi],by rw[e];exact f,rfl,e,rfl,trivial⟩
theorem aDg:ay Tryz.prog G0 KT4:=by
 intro f args m c h;unfold KT4 at h;split at h;cases h;exact ZW _ _ _;cases h;exact Vu _ _ _;exact aFF _ _ _ _ h
theorem Ds{z:Int}{w:List Bool}{h:Li}(y:aW z w h=true):yW w h:=by
 obtain⟨⟨_,_,u,j⟩,f⟩:=ez.1 y;exact⟨u,j,f⟩
theorem Wi{d:Int}(hd:dH d=true):uY d:=by
 unfold dH at hd;have:=vO hd;exact⟨Z,Z⟩
abbrev HG:=aA [.row C,.val I] (λ(c,d,_)=>aW c.1 c.2.1 c.2.2=true/\dH d=true) λ(c,d,_)=>.dat .bool (bE c.2.1 c.2.2 d)
theorem aCa:eO 286 HG:=af λ(((z:Int),(w:List Bool),(h:Li)),(d:Int),_)=>by
 refine zE (A:=aG) (p:=let f:=Dy (aW z w h) (dH d) false;let j:=f->f->f;(aW z w h/\dH d->True/\(aW z w h->aW z w h->aW z w h)/\(aW z w h->True)/\(Dh true (aW z w h)->aW z w h)/\j/\(f->Dl w=7)/\j/\j/\(f->yW w h/\uY d)/\(Dh true f->f)/\Dy f (bE w h d) false=bE w h d/\True)) aDg λ⟨u,hd⟩=>?_;have y:=Ds u;simp only[u,hd,lC,Dh,yC,qBi,yE,vY,qBd,gG,gI,Dl];exact⟨y.1,y,Wi hd⟩
def dM(w:List Bool)(h:Li)(a n:Int):Li:=((List.range n.toNat).map λ(i:Nat)=>a+(i:Int)).filter λd=>bE w h d
def lR(w:List Bool)(h:Li)(a d:Int):Nat:=(((List.range (d-a).toNat).map λ(i:Nat)=>a+(i:Int)).filter λd=>bE w h d).length
abbrev OP(w:List Bool)(h:Li)(a n:Int):Prop:=yW w h/\-1000000000<=a/\a<=1000000000/\-100000000<=n/\n<=100000000
def mL(a n d:Int):Prop:=a<=d/\(d<=a+n\/d=a)
def jT(w:List Bool)(h:Li)(d:Int):Option Int:=(dM w h d 60).head?
def fS(w:List Bool)(h:Li)(d:Int):Int:=(jT w h d).getD 0
def ie(w:List Bool)(h:Li)(d:Int):Int:=if(jT w h d).isSome then 0 else 20
abbrev Y6(z:Int)(w:List Bool)(h:Li)(d:Int):Prop:=aW z w h=true/\dH d=true
def isZ(k:Nat):Prop:=k=0
def aCW(w:List Bool)(h:Li)(a n:Int):IW:=⟨λf y=>match f with
 |1=>some {α:=Int,inv:=λd=>mL a n d,st:=λd=>⟨put y.s [(5,.dat I d)],lR w h a d,true⟩,μ:=λd=>Dc (Dk (Dt a n) d)}|_=>none,λ_ _=>none,λf=>f==3⟩
theorem UN(z a n:Int)(w G:List Bool)(h:Li)(u:
 let f:=(z,G,h);let c2:=dM w h a n;let A:=Dl c2;true/\true/\true/\false=false/\∀(l:Nat),OP w h a n->(∃x,mL a n x/\(l=l/\a=a/\n=n/\w=w/\f=f/\a=x/\a=a/\True)/\0=lR w h a x/\true)/\∀(x:Int),let X:=Dn x (a+n);let j:=lR w h a x;let c6:=j+1;let c7:=x+1;let L:=Dy (bE w h x) (Dj false) false;mL a n x->inR .i64 (a+n)/\(X->(yW w h/\uY x)/\(bE w h x->(bE w h x->bE w h x)/\(bE w h x->bE w h x)/\l=l/\true/\oL c2 j x/\∀(b:Bool),let c9:=Dy (bE w h x) (Dj b) false;(Dh true (bE w h x)->bE w h x)/\(c9->b->c6=A)/\(c9=false->inR IntKind.i64 c7/\∃y,mL a n y/\((l=l/\a=a/\n=n/\w=w/\f=f/\c7=y/\a=a/\True)/\c6=lR w h a y/\b)/\Dc ((a+n)-y)<Dc ((a+n)-x)))/\(bE w h x=false->(bE w h x->bE w h x->bE w h x)/\(Dh true (bE w h x)->bE w h x)/\(L->true->j=A)/\(L=false->inR .i64 c7/\∃y,mL a n y/\((l=l/\a=a/\n=n/\w=w/\f=f/\c7=y/\a=a/\True)/\j=lR w h a y/\true)/\Dc ((a+n)-y)<Dc ((a+n)-x))))/\(X=false->true->j=A)):
  evI (mkc KT4) (aCW w h a n) 194 [.ip I a,.ip I n,.ipv (.fn 247 [.ia .bool w,.ip C (z,G,h)])] ⟨OP w h a n,I,dM w h a n⟩:=oE_ u
abbrev HD:=aA [.row C,.val I,.val I] (λ(c,_,_,_)=>Dl c.2.1=7) λ(c,a,n,_)=>.fn 194 [.ip I a,.ip I n,.ipv (.fn 247 [.ia .bool c.2.1,.ip C c])]
def KR1:Kt:=kOr 130 HD KT4
def aD4:FuncId->List AV->Option iD:=λf h=>match f,h with|194,[.ip (.int .i64) a,.ip (.int .i64) n,.ipv (.fn 247 [.ia .bool w,.ip (.pair (.int .i64) (.pair (.sl .bool) (.sl (.int .i64)))) c])]=>some ⟨OP w c.2.2 a n,I,dM w c.2.2 a n⟩|_,_=>none
def flat(s:St):St:={s with tm:=s.tm.map aBB}
def aE8:Ann:=Z8 4 Nat isZ (λs _=>flat s) λk=>k
noncomputable def aFZ(K:Kt):Cfg:=⟨Tryz.prog,G0,K,λ_=>false,aD4,true,λ_ _ _=>none,λ_=>false⟩
theorem aB8:eO 130 HD:=af λ(((z:Int),(w:List Bool),(h:Li)),(a:Int),(n:Int),_)=>by
 refine zE (A:=aG) (p:=let f:=Ty.bool.sl.pair (Ty.int .i64).sl;(Dl w=7->Dl w=7/\w6 1 0 a n 1 0 (AV.fn 247 [AV.ia Ty.bool w,AV.ip ((Ty.int IntKind.i64).pair f) (z,w,h)]=AV.fn 247 [AV.ia Ty.bool w,AV.ip ((Ty.int .i64).pair f) (z,w,h)]/\True))) aDg λj=>?_;exact⟨j,rfl,rfl,rfl,rfl,rfl,rfl,rfl,trivial⟩
theorem aFI:ay Tryz.prog G0 KR1:=ai aB8 aDg
theorem Tc{α:Type}{f:Nat->α}{p:α->Bool}{k:Nat}(u:p (f k)=true):∀N:Nat,k<N->(((List.range N).map f).filter p)[(((List.range k).map f).filter p).length]?=some (f k)
 |0,h=>Z|N+1,h=>by
  rw[yL,zS,yJ];rcases wW k N with y|y;have j:=Tc u N y;rw[vU (qC.1 j).1];exact j;have e:N=k:=by omega
  subst e;rw[qV (qL _),qAg];simp[u]
theorem Uc{w:List Bool}{h:Li}{a n x:Int}(y:a<=x)(u:x<a+n)(j:bE w h x=true):oL (dM w h a n) (lR w h a x) x:=by
 have e:a+((x-a).toNat:Int)=x:=Z;have:=Tc (f:=λ(i:Nat)=>a+(i:Int)) (p:=λd=>bE w h d) (k:=(x-a).toNat) (by simp only[e];exact j) n.toNat Z;simp only[e]at this;exact this
theorem tY{w:List Bool}{h:Li}{a x:Int}(f:a<=x):lR w h a (x+1)=lR w h a x+(if bE w h x then 1 else 0):=by
 unfold lR;rw[show(x+1-a).toNat=(x-a).toNat+1 by omega,yL,zS,yJ,qG];have e:a+((x-a).toNat:Int)=x:=Z;congr 1;simp only[wV,qBf,e,yP,gU];split<;>simp_all
theorem Nn(w:List Bool)(h:Li)(a:Int):lR w h a a=0:=by
 unfold lR;rw[show(a-a).toNat=0 by omega];rfl
theorem cnt_end{w:List Bool}{h:Li}{a n x:Int}(f:mL a n x)(j:¬x<a+n):lR w h a x=(dM w h a n).length:=by
 unfold lR dM;obtain⟨y,u⟩:=f;rw[show(x-a).toNat=n.toNat by omega]
theorem aB6(a n:Int)(w:List Bool)(c:C.den):lS Tryz.prog G0 194 [.ip I a,.ip I n,.ipv (.fn 247 [.ia .bool w,.ip C c])] ⟨OP w c.2.2 a n,I,dM w c.2.2 a n⟩:=by
 obtain⟨z,X,h⟩:=c;refine rx (c:=mkc KT4) (A:=aCW w h a n) aDg tC hm ?_;refine UN z a n w X h ⟨rfl,rfl,rfl,rfl,λl ⟨hc,b1,b2,b3,b4⟩=>?_⟩;simp only[xn,lC,Dh,Dj,yC,qBi,yE,vY,qBd,gG,yV,xH,xQ,kU,qBh,qBb,kV,qAe,zB,kD,wF,gJ,reduceCtorEq,qAz,gI,Dn,Ee,Eb,Ef,Dk,Dt,Dx,Dc,Dl,Ec,Eh,qF,wG,qAr,qDd];refine⟨⟨a,⟨qN _,.inr rfl⟩,rfl,(Nn w h a).symm⟩,λx u=>?_⟩;have f:=u.1;have hx2:=u.2;refine⟨⟨by omega,by omega⟩,λy=>⟨⟨hc,by omega,by omega⟩,λj=>?_,λj=>?_⟩,λG=>cnt_end u G⟩;simp only[j,xn,lC,Dh,Dj,yC,qBi,yE,vY,qBd,gG,yV,xH,xQ,kU,qBh,qBb,kV,qAe,zB,kD,wF,gJ,reduceCtorEq,qAz,gI,Dn,Ee,Eb,Ef,Dk,Dt,Dx,Dc,Dl,Ec,Eh,qF,wG,qAr,qDd];refine⟨Uc f y j,λb=>⟨λe1 L=>(by rw[e1]at L;cases L),λhb=>⟨⟨by omega,by omega⟩,x+1,⟨by omega,.inl (by omega)⟩,⟨rfl,?_,hb⟩,by omega⟩⟩⟩;rw[tY f,j];rfl;simp only[j,xn,lC,Dh,Dj,yC,qBi,yE,vY,qBd,gG,yV,xH,xQ,kU,qBh,qBb,kV,qAe,zB,kD,wF,gJ,reduceCtorEq,qAz,gI,Dn,Ee,Eb,Ef,Dk,Dt,Dx,Dc,Dl,Ec,Eh,qF,wG,qAr,qDd];refine⟨⟨by omega,by omega⟩,x+1,⟨by omega,.inl (by omega)⟩,⟨rfl,?_⟩,by omega⟩;rw[tY f,j];rfl
theorem aA8:aR Tryz.prog G0 aD4:=by
 intro f j c h;unfold aD4 at h;split at h;cases h;exact aB6 _ _ _ _;cases h
theorem okd{d:Int}(hd:dH d=true): -1000000<=d/\d<=1000000:=by
 unfold dH at hd;exact vO hd
abbrev Hz:=aA [.row C,.val I] (λ(c,d,_)=>Y6 c.1 c.2.1 c.2.2 d) λ(c,d,_)=>.tup [.dat I (fS c.2.1 c.2.2 d),.dat I (ie c.2.1 c.2.2 d)]
theorem aB4:eO 126 Hz:=af λ(((z:Int),(w:List Bool),(h:Li)),(d:Int),_)=>by
 refine zF (c:=aFZ KR1) (A:=aE8) aFI aA8 hm (p:=let u:=Dj (aW z w h);let f:=Dj u;let L:=Dy u true (Dj (dH d));let G:=(z,w,h);let c5:=dM w h d 60;true/\(Y6 z w h d->True/\(f->f->f)/\(f->True)/\(f->f->f)/\(Dh true f->f)/\(L->1=1/\0=0/\1=1/\0=0/\1=1/\0=0/\1=1/\0=0/\0=fS w h d/\1=ie w h d/\True)/\(L=false->Dl w=7/\OP w h d 60/\(∃x,isZ x/\x=0/\z=z/\w=w/\h=h/\d=d/\G=G/\1=1/\0=0/\0=0/\1=1/\0=0/\0=0/\z=z/\w=w/\h=h/\aW z w h=aW z w h/\u=u/\u=u/\L=L/\z=z/\w=w/\h=h/\d=d/\d=d/\(60:Int)=(60:Int)/\w=w/\G=G/\(0:Int)=(0:Int)/\(0:Int)=(0:Int)/\True)/\(∀(x:Nat) (y:Int),isZ x->oL c5 x y->1=1/\0=0/\1=1/\0=0/\1=1/\0=0/\1=1/\0=0/\y=fS w h d/\0=ie w h d/\True)/\∀(x:Nat),isZ x->x=Dl c5->1=1/\0=0/\1=1/\0=0/\1=1/\0=0/\1=1/\0=0/\0=fS w h d/\20=ie w h d/\True))) ⟨rfl,λ⟨hv,hd⟩=>?_⟩;have hc:=Ds hv;have hd':=okd hd;simp only[hv,hd,xn,lC,Dh,Dj,yC,qBi,yE,vY,qBd,gG,yV,xH,xQ,kU,qBh,qBb,kV,qAe,zB,kD,wF,gJ,reduceCtorEq,qAz,gI,Dn,Ee,Eb,Ef,Dk,Dt,Dx,Dc,Dl,Ec,Eh,qF,wG,qAr,qDd];refine⟨hc.1,⟨hc,by omega,by omega,by omega,by omega⟩,⟨0,rfl,rfl⟩,λx y j X=>?_,λx j hl=>?_⟩;have j:x=0:=j;subst j;have:jT w h d=some y:=by
  have X:(dM w h d 60)[0]?=some y:=X;unfold jT;rw[qBr];exact X
 simp[fS,ie,this];have j:x=0:=j;subst j;have:jT w h d=none:=by
  unfold jT;rw[vK hl.symm];rfl
 simp[fS,ie,this]
theorem pS{w:List Bool}{h:Li}{a n y:Int}(f:y∈dM w h a n):a<=y/\y<a+n/\bE w h y=true:=by
 unfold dM at f;obtain⟨z,u⟩:=yY.1 f;obtain⟨i,j,rfl⟩:=vW.1 z;have:=wJ.1 j;exact⟨Z,Z,u⟩
abbrev UD(t:TypeId)(e:Int):Value:=.iface t (.int .i64 e)
abbrev Stp:Ty:=.pair I (.pair I (.pair I I))
abbrev Stop:=Int×Int×Int×Int
abbrev Pl:Ty:=.pair I (.pair I (.pair M (.sl M)))
abbrev Plan:=Int×Int×Lj×List (Lj)
abbrev Po:Ty:=.pair S (.pair I (.pair I (.pair I I)))
def bO(t:Int):Bool:=decide (0<=t/\t<=2000000)
def di(n:Net)(o:Int):Off:=n.2.2.2.1.getD o.toNat (⟨#[]⟩,0,0,0,0,0,[])
def GZ(n:Net)(l:Int):Line:=n.2.2.2.2.1.getD l.toNat (⟨#[]⟩,0,0,0,0,0)
def aN(n:Net)(o:Int):Int×List Bool×Li:=n.1.getD (di n o).2.2.1.toNat (0,[],[])
def cF(n:Net)(l:Int):Int:=(GZ n l).2.1
def lT(n:Net)(l:Int):Int:=(GZ n l).2.2.1
def GU(n:Net)(l:Int):Int:=(GZ n l).2.2.2.1
def cz(n:Net)(l:Int):Int:=(GZ n l).2.2.2.2.1
abbrev tO(n:Net)(o:Int):Prop:=noF n=true/\0<=o/\o<n.2.2.2.1.length
abbrev Cb(n:Net)(l:Int):Prop:=noF n=true/\0<=l/\l<n.2.2.2.2.1.length
def km(n:Net)(o l:Int):Bool:=decide (l=-1)||(cA l n.2.2.2.2.1.length&&decide (cF n l=o))
def rowOk(n:Net)(o:Int)(row:Li):Bool:=decide ((row.length:Int)=n.2.2.2.1.length)&&row.all (km n o)
def nP(n:Net)(nx:Lj):Bool:=decide ((nx.length:Int)=n.2.2.2.1.length)&&(List.range nx.length).all λi=>rowOk n i (nx.getD i [])
abbrev jb(nx:Lj):Prop:=nx.length<=1000000/\∀r∈nx,r.length<=1000000
def iz(n:Net)(nx:Lj)(k:Int):Prop:=0<=k/\k<=nx.length/\(nx.length:Int)=n.2.2.2.1.length/\∀i:Nat,(i:Int)<k->rowOk n i (nx.getD i [])=true
def li(n:Net)(o:Int)(row:Li)(k:Int):Prop:=0<=k/\k<=row.length/\(row.length:Int)=n.2.2.2.1.length/\∀i:Nat,(i:Int)<k->km n o (row.getD i 0)=true
def d0F(c:Int×List Bool×Li)(m t:Int):Int:=if m<Oh c.1 t then jD c.1 t+1 else jD c.1 t
def gu(c:Int×List Bool×Li)(m t:Int):Int:=if ie c.2.1 c.2.2 (d0F c m t)=0 then ij c.1 (fS c.2.1 c.2.2 (d0F c m t)) m else 0
def nV(c:Int×List Bool×Li)(m t:Int):Int:=ie c.2.1 c.2.2 (d0F c m t)
abbrev MV(c:Int×List Bool×Li)(m t:Int):Prop:=aW c.1 c.2.1 c.2.2=true/\0<=m/\m<1440/\-1000000<=t/\t<=100000000
def aJ(n:Net)(o t:Int):Int:=t+(di n o).2.2.2.2.1*(di n o).2.2.2.2.2.1
abbrev Ab(n:Net)(o t:Int):Prop:=tO n o/\-1000000000<=t/\t<=1000000000
def lB(n:Net)(l t:Int):Int:=if bO t=true then gu (aN n (cF n l)) (GU n l) t else 0
def od(n:Net)(l t:Int):Int:=if bO t=true then nV (aN n (cF n l)) (GU n l) t else 1
def isZero(e:Int):Bool:=decide (e=0)
def KR2:Kt:=kOr 126 Hz KR1
noncomputable def bare(K:Kt):Cfg:=⟨Tryz.prog,[],K,λ_=>false,λ_ _=>none,false,λ_ _ _=>none,λ_=>false⟩
def aAv(n:Net)(nx:Lj):Ann:=⟨λf s=>match f with
 |4=>some {α:=Int,inv:=λk=>iz n nx k,st:=λk=>put s [(19,.dat I k)],μ:=λk=>Dc (Dk (Di nx) k)}|9=>match s.sig.T 19,s.sig.T 32 with
  |.dat (.int .i64) o,.dat (.sl (.int .i64)) row=>some {α:=Int,inv:=λk=>li n o row k,st:=λk=>put s [(34,.dat I k)],μ:=λk=>Dc (Dk (Di row) k)}|_,_=>none
 |_=>none,λ_ _=>none,λ_ _=>none⟩
abbrev sw:=aA [.val I,.val I] (λ_=>True) λ(i,l,_)=>.dat .bool (cA i l)
abbrev qa:=aA [.val I] (λ_=>True) λ(t,_)=>.dat .bool (bO t)
abbrev v7:=aA [.ptr N] (λ_=>True) λ(n,_)=>.dat .bool (aZ n)
abbrev wh:=aA [.ptr N,.val I] (λ(n,o,_)=>tO n o) λ(n,o,_)=>cal (aN n o).1 (aN n o).2.1 (aN n o).2.2
abbrev wd:=aA [.row C,.val I,.val I] (λ(c,m,t,_)=>MV c m t) λ(c,m,t,_)=>.tup [.dat I (gu c m t),.dat I (nV c m t)]
abbrev v8:=aA [.ptr N,.val I,.val I] (λ(n,o,t,_)=>Ab n o t) λ(n,o,t,_)=>.dat I (aJ n o t)
def KR3:Kt:=kOr 47 sw <|
 kOr 48 qa <|
 kOr 49 v7 <|
 kOr 70 wh <|
 kOr 69 wd <|
 kOr 112 v8 <|
 kOr 68 (aA [.val I,.val I] (λ(_,e,_)=>True/\isZero e=true) λ(v,_,_)=>.dat I v) <|
 kOr 46 (aA [.val .bool] (λ(b,_)=>True/\b=true) λ_=>.tup []) KR2
theorem Pn:ay Tryz.prog G0 KR2:=ai aB4 aFI
theorem jS(f:LC)(u y:LB)(j:Lo)(z:Ll)(A:Lk){o:Int}(h:tO (f,u,y,j,z,A) o):0<=(di (f,u,y,j,z,A) o).2.2.1/\(di (f,u,y,j,z,A) o).2.2.1<f.length/\aW (aN (f,u,y,j,z,A) o).1 (aN (f,u,y,j,z,A) o).2.1 (aN (f,u,y,j,z,A) o).2.2=true/\1<=(di (f,u,y,j,z,A) o).2.2.2.2.1/\(di (f,u,y,j,z,A) o).2.2.2.2.1<=4/\1<=(di (f,u,y,j,z,A) o).2.2.2.2.2.1/\(di (f,u,y,j,z,A) o).2.2.2.2.2.1<=240:=by
 obtain⟨G,l0,l1⟩:=h;have l1:o<j.length:=l1;have ho:di (f,u,y,j,z,A) o∈j:=by
  show j.getD o.toNat _∈j;rw[qA,qB Z,vJ];exact wS _
 have X:=(BQ f u y j z A G).2.2.2 _ ho;unfold dA cA cQ at X;simp only[qE,qF]at X;obtain⟨⟨⟨⟨⟨⟨_,L⟩,_⟩,_⟩,_⟩,g2⟩,g3⟩:=X;have L:0<=(di (f,u,y,j,z,A) o).2.2.1/\(di (f,u,y,j,z,A) o).2.2.1<(f.length:Int):=L;have hc:=((Cm (by decide)).1 (nh f u y j z A G).2.1).2.2.2;have hcl:(aE f u).length=f.length:=by unfold aE;simp
 have:=hc (di (f,u,y,j,z,A) o).2.2.1.toNat Z;unfold bv at this;rw[fZ (λc:Int×List Bool×Li=>aW c.1 c.2.1 c.2.2) f _ (0,[],[]) false Z]at this;exact⟨L.1,L.2,this,g2.1,g2.2,g3.1,g3.2⟩
theorem Aq(A:LC)(y u:LB)(j:Lo)(f:Ll)(z:Lk){l:Int}(h:Cb (A,y,u,j,f,z) l):0<=cF (A,y,u,j,f,z) l/\cF (A,y,u,j,f,z) l<j.length/\0<=lT (A,y,u,j,f,z) l/\lT (A,y,u,j,f,z) l<j.length/\0<=GU (A,y,u,j,f,z) l/\GU (A,y,u,j,f,z) l<=1439/\1<=cz (A,y,u,j,f,z) l/\cz (A,y,u,j,f,z) l<=5000:=by
 obtain⟨G,l0,l1⟩:=h;have l1:l<f.length:=l1;have X:GZ (A,y,u,j,f,z) l∈f:=by
  show f.getD l.toNat _∈f;rw[qA,qB Z,vJ];exact wS _
 obtain⟨g1,g2,g3,g4,g5,L,g7,g8⟩:=mE ((mj A y u j f z G).2.2.2 _ X);exact⟨g1,g2,g3,g4,L.1,L.2,g7,g8⟩
theorem mo{w:List Bool}{h:Li}{d:Int}(j:ie w h d=0):d<=fS w h d/\fS w h d<d+60/\bE w h (fS w h d)=true:=by
 unfold ie at j;unfold fS;cases f:jT w h d with
 |none=>rw[f]at j;simp at j|some y=>
  have:y∈dM w h d 60:=gK (by unfold jT at f;rw[f];rfl);exact pS this
theorem YT{c:Int×List Bool×Li}{m t:Int}(h:MV c m t): -1000<=d0F c m t/\d0F c m t<=100000:=by
 obtain⟨f,G,A,z,y⟩:=h;obtain⟨⟨u,j,_,_⟩,_⟩:=ez.1 f;unfold d0F jD;split<;>omega
theorem jZ{d:Int}(h:-1000000<=d)(f:d<=1000000):dH d=true:=by
 unfold dH;exact qR ⟨h,f⟩
theorem Qj:eO 47 sw:=af λ((i:Int),(l:Int),_)=>by
 refine zE (A:=aG) (p:=let f:=Eb i 0;(True->Q2 f ((Dh true f->f)/\Dy f (Dn i l) false=cA i l/\True))) Pn λ_=>⟨λh _=>h,λh _=>h,λh=>by simpa[Dh]using h,?_,trivial⟩;unfold cA;simp only[Dy,Eb,Dn,qAm];by_cases h:0<=i<;>simp[h]
theorem NK:eO 48 qa:=af λ((t:Int),_)=>by
 refine zE (A:=aG) (p:=let f:=Eb t 0;(True->L5 f ((Dh true f->f)/\Dy f (Ef t 2000000) false=bO t/\True))) Pn λ_=>⟨λh _=>h,λh=>by simpa[Dh]using h,?_,trivial⟩;unfold bO;simp only[Dy,Eb,Ef,qAm];by_cases h:0<=t<;>simp[h]
theorem Qi(v e:Int):aj Tryz.prog G0 68 [.dat I v,.dat I e] [] ⟨True/\isZero e=true,.dat I v,[]⟩/\fq Tryz.prog G0 68 [.dat I v,.dat I e] [] ⟨True,isZero e,UD 38 e⟩:=by
 refine zC (c:=mkc KR2) (A:=aG) (q:=⟨True,isZero e,UD 38 e⟩) Pn tC hm Aj (p:=let j:=Ea e 0;let f:=chainOf (Value.iface 38 (Value.int .i64 e));true/\(True->(j->(true->True/\(false=false->isZero e=false/\true/\f=f))/\True)/\(j=false->isZero e/\T5 v))) ⟨rfl,λ_=>⟨λh=>⟨λ_=>⟨trivial,λ_=>⟨?_,rfl,rfl⟩⟩,trivial⟩,λh=>⟨?_,rfl,trivial⟩⟩⟩;unfold isZero;simpa[Ea]using h;unfold isZero;simpa[Ea]using h
theorem ED(b:Bool):aj Tryz.prog G0 46 [.dat .bool b] [] ⟨True/\b=true,.tup [],[]⟩/\fq Tryz.prog G0 46 [.dat .bool b] [] ⟨True,b,UD 38 1⟩:=by
 refine zC (c:=mkc KR2) (A:=aG) (q:=⟨True,b,UD 38 1⟩) Pn tC hm Aj (p:=let f:=chainOf (Value.iface 38 (Value.int .i64 (1:Int)));true/\(True->(Dj b->(true->True/\(false=false->b=false/\true/\f=f))/\True)/\(Dj b=false->b/\True))) ⟨rfl,λ_=>⟨λh=>⟨λ_=>⟨trivial,λ_=>⟨?_,rfl,rfl⟩⟩,trivial⟩,λh=>⟨?_,trivial⟩⟩⟩;simpa[Dj]using h;simpa[Dj]using h
theorem OG{P:Program}{G:List (Nat×AV)}{f:FuncId}{args:List AV}{m:Mem}{c:lI}(h:aj P [] f args m c):aj P G f args m c:=
 λj w D E u A _ y z=>h j w D E u A (λp j=>by cases j) y z
theorem ZD(e:Int):aj Tryz.prog [] 45 [.ifc 38 (.dat I e)] [] ⟨True,.dat I e,[]⟩:=
 zF (c:=bare λ_ _ _=>none) (A:=aG) (λ_ _ _ _ h=>by cases h) (λ_ _ _ h=>by cases h) hm (p:=true/\(True->(true->T5 e)/\(true=false->1=e/\True))) ⟨rfl,λ_=>⟨λ_=>⟨rfl,trivial⟩,λh=>by cases h⟩⟩
theorem zo{n:Net}:aZ n=decide (((fm n).length:Int)=0):=by
 unfold aZ;cases fm n with
 |nil=>rfl|cons a l=>simp;omega
theorem U5:eO 49 v7:=af λ(((G,j,h,z,u,y):Net),_)=>zE (A:=aG) (p:=let f:=(G,j,h,z,u,y);(True->True/\Ed (Di (fm f)) 0=aZ f/\True)) Pn λ_=>⟨trivial,by rw[zo];rfl,trivial⟩
theorem Va:eO 70 wh:=af λ(((h,L,G,f,X,ks):Net),(o:Int),_)=>by
 refine zE (A:=aG) (p:=let c1:=(h,L,G,f,X,ks);let z:=(Dw f (Dc o) (ByteArray.mk #[],(0:Int),(0:Int),(0:Int),(0:Int),(0:Int),Du ByteArray)).2.2.1;let y:=Dw h (Dc z) ((0:Int),Du Bool,Du Int);let u:=aN c1 o;(tO c1 o->0<=o/\o<Di f/\0<=z/\z<Di h/\T4 1 0 1 0 (y.1=u.1/\y.2.1=u.2.1/\y.2.2=u.2.2/\True))) Pn λj=>?_;obtain⟨g1,g2,_⟩:=jS h L G f X ks j;exact⟨j.2.1,j.2.2,g1,g2,rfl,rfl,rfl,rfl,rfl,rfl,rfl,trivial⟩
theorem U9:eO 69 wd:=af λ((c:C.den),(m:Int),(t:Int),_)=>by
 obtain⟨z,w,h⟩:=c;refine zE (A:=aG) (p:=let c1:=(z,w,h);let c2:=Dn m (Oh z t);let G:=jD z t+1;let c4:=ie w h G;let c5:=Ea c4 0;let f:=gu c1 m t;let j:=nV c1 m t;let c8:=fS w h G;let A:=ie w h (jD z t);let y:=Ea A 0;let u:=fS w h (jD z t);(MV c1 m t->ri z w h t/\(c2->inR .i64 G/\Y6 z w h G/\(c5->0=f/\c4=j/\True)/\(c5=false->nT z w h c8 m/\ij z c8 m=f/\0=j/\True))/\(c2=false->Y6 z w h (jD z t)/\(y->0=f/\A=j/\True)/\(y=false->nT z w h u m/\ij z u m=f/\0=j/\True)))) Pn λhp=>?_;obtain⟨b1,b2⟩:=YT hp;obtain⟨L,h1,h2,h3,h4⟩:=id hp;refine Z9 ?_;have f:∀d,d=d0F (z,w,h) m t->Y6 z w h d/\(¬ie w h d=0->(0:Int)=gu (z,w,h) m t/\ie w h d=nV (z,w,h) m t)/\(ie w h d=0->nT z w h (fS w h d) m/\ij z (fS w h d) m=gu (z,w,h) m t/\(0:Int)=nV (z,w,h) m t):=by
  rintro d rfl;refine⟨⟨L,jZ Z Z⟩,λj=>⟨(if_neg j).symm,rfl⟩,λj=>?_⟩;obtain⟨q1,q2,q3⟩:=mo j;exact⟨⟨L,jZ Z Z,h1,h2⟩,(if_pos j).symm,j.symm⟩
 refine⟨⟨L,Z,Z⟩,λX=>?_,λhge=>?_⟩;have e:jD z t+1=d0F (z,w,h) m t:=(if_pos X).symm;obtain⟨q1,q2,q3⟩:=f _ e;exact⟨by unfold inR;simp only;omega,q1,q2,q3⟩;have e:jD z t=d0F (z,w,h) m t:=(if_neg hge).symm;exact f _ e
theorem U6:eO 112 v8:=af λ(((G,j,h,f,u,z):Net),(o:Int),(t:Int),_)=>by
 refine zE (A:=aG) (p:=let c1:=(G,j,h,f,u,z);let c2:=(Dw f (Dc o) (ByteArray.mk #[],(0:Int),(0:Int),(0:Int),(0:Int),(0:Int),Du ByteArray)).2.2.2.2;let c3:=c2.1*c2.2.1;let c4:=t+c3;(Ab c1 o t->0<=o/\o<Di f/\0<=o/\o<Di f/\inR .i64 c3/\inR .i64 c4/\c4=aJ c1 o t/\True)) Pn λhp=>?_;obtain⟨L,b1,b2⟩:=hp;obtain⟨_,_,_,g1,g2,g3,g4⟩:=jS G j h f u z L;obtain⟨x,hx⟩:∃x,x=(di (G,j,h,f,u,z) o).2.2.2.2.1:=⟨_,rfl⟩;obtain⟨y,X⟩:∃y,y=(di (G,j,h,f,u,z) o).2.2.2.2.2.1:=⟨_,rfl⟩;rw[<- hx]at g1 g2;rw[<- X]at g3 g4;have m1:0<=x*y:=qAc Z Z;have m2:x*y<=4*240:=qAd g2 g4 Z Z;have e:aJ (G,j,h,f,u,z) o t=t+x*y:=by rw[hx,X];rfl
 refine⟨L.2.1,L.2.2,L.2.1,L.2.2,?_,?_,rfl,trivial⟩;show inR .i64 ((di (G,j,h,f,u,z) o).2.2.2.2.1*(di (G,j,h,f,u,z) o).2.2.2.2.2.1);rw[<- hx,<- X];unfold inR;simp only;omega;show inR .i64 (t+(di (G,j,h,f,u,z) o).2.2.2.2.1*(di (G,j,h,f,u,z) o).2.2.2.2.2.1);rw[<- hx,<- X];unfold inR;simp only;omega
theorem aD3:ay Tryz.prog G0 KR3:=ai Qj<|ai NK<|ai U5<|ai Va<|ai U9<|ai U6<|ai (af λ(v,e,_)=>(Qi v e).1)<|ai (af λ(b,_)=>(ED b).1) Pn
theorem ou{n:Net}{nx:Lj}(f:(nx.length:Int)=n.2.2.2.1.length):nP n nx=true↔∀i:Nat,(i:Int)<nx.length->rowOk n i (nx.getD i [])=true:=by
 unfold nP;simp only[qE,qF,qW,wJ];exact⟨λh i j=>h.2 i Z,λh=>⟨f,λi j=>h i Z⟩⟩
theorem pG{n:Net}{o:Int}{row:Li}(u:(row.length:Int)=n.2.2.2.1.length):rowOk n o row=true↔∀i:Nat,(i:Int)<row.length->km n o (row.getD i 0)=true:=by
 unfold rowOk;simp only[qE,qF,qW];refine⟨λh i f=>h.2 _ ?_,λh=>⟨u,λx j=>?_⟩⟩;rw[qA,qB Z,vJ];exact wS _;obtain⟨i,f,rfl⟩:=yG.1 j;have:=h i Z;rw[qA,qB f,vJ]at this;exact this
theorem XP(n:Net)(o l:Int):Dy (Ea l (-1)) (Dy (Dj (cA l (Di n.2.2.2.2.1))) true (Ea (cF n l) o)) false=!km n o l:=by
 unfold km;simp only[Dy,Ea,Dj,Di];by_cases h:l=-1;simp[h];have j:(l != -1)=true:=by simpa using h
 rw[j];cases hi:cA l n.2.2.2.2.1.length;simp[h];by_cases f:cF n l=o<;>simp[h,f]
abbrev sx:=aA [.ptr N,.val M] (λ(_,nx,_)=>jb nx) λ(n,nx,_)=>.dat .bool (nP n nx)
theorem Qk:eO 50 sx:=af λ(((cs,ns,os,fs,z,ks):Net),(nx:Lj),_)=>by
 refine zE (A:=(lvA [(4,[0,4,5,6,8,17,18,19,32,33,34]),(9,[0,4,5,6,8,17,18,19,32,33,34])] (aAv (cs,ns,os,fs,z,ks) nx))) (p:=let c1:=Di fs;let c2:=Ea (Di nx) c1;let L:=(cs,ns,os,fs,z,ks);let c4:=nP L nx;let c5:=Di z;(jb nx->(c2->false=c4/\True)/\(c2=false->(∃x,iz L nx x/\Q4 L nx (Di nx) (0=x/\True))/\∀(x:Int),let u:=Dn x (Di nx);let j:=Dw nx (Dc x) [];let c8:=Di j;let A:=Ea c8 c1;let c10:=x+1;iz L nx x->(u->0<=x/\x<Di nx/\(A->false=c4/\True)/\(A=false->(∃f,li L x j f/\z8 L x j nx (Di nx) x j c8 (0=f/\True))/\∀(f:Int),let c11:=Dw j (Dc f) 0;let h:=Ea c11 (-1);let G:=Dj (cA c11 c5);let X:=Dj G;let c16:=Dh h X;let c14:=Dy h (Dy G true (Ea (Dw z (Dc c11) (ByteArray.mk #[],(0:Int),(0:Int),(0:Int),(0:Int),(0:Int))).2.1 x)) false;let c15:=f+1;li L x j f->(Dn f c8->0<=f/\f<c8/\Q3 h (Q3 h ((h->True)/\Q2 h (Q2 c16 (Q3 c16 ((Dh h X->0<=c11)/\(Dh h X->c11<c5)/\L5 c16 (Q3 c16 (L5 h ((h->Dh h X->Dh h X)/\(Dh true h->h)/\(c14->false=c4/\True)/\(c14=false->inR .i64 c15/\∃y,li L x j y/\(z8 L x j nx (Di nx) x j c8 (c15=y/\True))/\Dc (c8-y)<Dc (c8-f)))))))))))/\(Dn f c8=false->inR .i64 c10/\∃y,iz L nx y/\(Q4 L nx (Di nx) (c10=y/\True))/\Dc (Di nx-y)<Dc (Di nx-x))))/\(u=false->true=c4/\True)))) aD3 λhf=>?_;have ec:∀l x:Int,Dy (Ea l (-1)) (Dy (Dj (cA l (Di z))) true (Ea (Dw z (Dc l) (ByteArray.mk (Du UInt8).toArray,(0:Int),(0:Int),(0:Int),(0:Int),(0:Int))).snd.fst x)) false=!km (cs,ns,os,fs,z,ks) x l:=λl x=>XP (cs,ns,os,fs,z,ks) x l
 simp only[ec];refine Z9 ?_;obtain⟨hf1,hf2⟩:=hf;have hz:∀x l:Int,¬l=-1/\cA l z.length=true->0<=l/\l<z.length:=λx l h=>by
  have:=h.2;unfold cA at this;simpa using this
 have hr:∀x:Int,0<=x->x<nx.length->(nx.getD x.toNat []).length<=1000000:=λx h0 h1=>hf2 _ (by
  rw[qA,qB Z,vJ];exact wS _)
 have hct:∀x:Int,0<=x->((x.toNat:Nat):Int)=x:=λx h=>Z;refine⟨λhne=>?_,λhe=>⟨⟨qN _,Z,he,λi h=>Z⟩,λx G=>⟨λhlt=>⟨G.1,hlt,λu=>?_,λu=>⟨⟨qN _,Z,u,λi h=>Z⟩,λy hy=>⟨λhlty=>⟨hy.1,hlty,λh=>(hz x _ h).1,λh=>(hz x _ h).2,λhc=>?_,λhc=>?_⟩,λhgey=>?_⟩⟩⟩,λhge=>?_⟩⟩⟩;unfold nP;rw[qY hne];rfl;refine(yS.2 λht=>u ?_).symm;have h:=(ou he).1 ht x.toNat (by have:=G.1;omega);unfold rowOk at h;simp only[qE,qF]at h;exact h.1;refine(yS.2 λht=>?_).symm;have h:=(ou he).1 ht x.toNat (by have:=G.1;omega);rw[hct x G.1]at h;have h2:=(pG (n:=(cs,ns,os,fs,z,ks)) u).1 h y.toNat (by have:=hy.1;omega);rw[h2]at hc;cases hc;have h1:=hr x G.1 hlt;refine⟨by unfold inR;simp only;have:=hy.1;omega,y+1,⟨by have:=hy.1;omega,Z,u,λi hi=>?_⟩,rfl,by have:=hy.1;omega⟩;by_cases h:(i:Int)<y;exact hy.2.2.2 i h;have:i=y.toNat:=by omega
 rw[this];exact hc;refine⟨by unfold inR;simp only;have:=G.1;omega,x+1,⟨by have:=G.1;omega,Z,he,λi hi=>?_⟩,rfl,by have:=G.1;omega⟩;by_cases h:(i:Int)<x;exact G.2.2.2 i h;have:i=x.toNat:=by have:=G.1;omega
 rw[this,hct x G.1];exact(pG (n:=(cs,ns,os,fs,z,ks)) u).2 λj hj=>hy.2.2.2 j Z;exact((ou he).2 λi hi=>G.2.2.2 i Z).symm
abbrev sy:=aA [.ptr N,.val I,.val I] (λ(n,l,_)=>Cb n l) λ(n,l,t,_)=>.tup [.dat I (lB n l t),.dat I (od n l t)]
theorem Ql:eO 111 sy:=af λ(((G,u,j,z,f,y):Net),(l:Int),(t:Int),_)=>by
 refine zE (A:=aG) (p:=let c1:=(G,u,j,z,f,y);let c2:=lB c1 l t;let c3:=od c1 l t;let X:=(Dw f (Dc l) (ByteArray.mk #[],(0:Int),(0:Int),(0:Int),(0:Int),(0:Int))).2;let c8:=(aN c1 X.1);(Cb c1 l->True/\(Dj (bO t)->0=c2/\1=c3/\True)/\(Dj (bO t)=false->0<=l/\l<Di f/\tO c1 X.1/\0<=l/\l<Di f/\MV c8 X.2.2.1 t/\gu c8 X.2.2.1 t=c2/\nV c8 X.2.2.1 t=c3/\True))) aD3 λL=>?_;refine Z9 ?_;refine⟨λh=>?_,λh=>?_⟩;unfold lB od;rw[h];exact⟨rfl,rfl⟩;obtain⟨g1,g2,g3,g4,g5,g6,g7,g8⟩:=Aq G u j z f y L;have ho:tO (G,u,j,z,f,y) (cF (G,u,j,z,f,y) l):=⟨L.1,g1,g2⟩;have hv:=(jS G u j z f y ho).2.2.1;have ht:0<=t/\t<=2000000:=vO h;have hf:MV (aN (G,u,j,z,f,y) (cF (G,u,j,z,f,y) l)) (GU (G,u,j,z,f,y) l) t:=⟨hv,g5,Z,Z,Z⟩;have e1:lB (G,u,j,z,f,y) l t=gu (aN (G,u,j,z,f,y) (cF (G,u,j,z,f,y) l)) (GU (G,u,j,z,f,y) l) t:=if_pos h;have e2:od (G,u,j,z,f,y) l t=nV (aN (G,u,j,z,f,y) (cF (G,u,j,z,f,y) l)) (GU (G,u,j,z,f,y) l) t:=if_pos h;exact⟨L.2.1,L.2.2,ho,L.2.1,L.2.2,hf,e1.symm,e2.symm⟩
def nxt(nx:Lj)(o d:Int):Int:=(nx.getD o.toNat []).getD d.toNat 0
def iR(n:Net)(nx:Lj)(to:Int):Nat->Int->Int->List Stop×Int
 |0,o,t=>if o=to then([(o,t,-1,-1)],0)else if nxt nx o to=-1 then([],170)else if od n (nxt nx o to) (aJ n o t)=0 then([],170)else([],od n (nxt nx o to) (aJ n o t))|k+1,o,t=>if o=to then([(o,t,-1,-1)],0)else if nxt nx o to=-1 then([],170)else if od n (nxt nx o to) (aJ n o t)=0 then
   if(iR n nx to k (lT n (nxt nx o to)) (lB n (nxt nx o to) (aJ n o t)+cz n (nxt nx o to))).2=0 then
    ((o,t,lB n (nxt nx o to) (aJ n o t),nxt nx o to)::(iR n nx to k (lT n (nxt nx o to)) (lB n (nxt nx o to) (aJ n o t)+cz n (nxt nx o to))).1,0)
   else([],(iR n nx to k (lT n (nxt nx o to)) (lB n (nxt nx o to) (aJ n o t)+cz n (nxt nx o to))).2)
  else([],od n (nxt nx o to) (aJ n o t))
def uh(n:Net)(nx:Lj)(o to t:Int):List Stop:=(iR n nx to 19 o t).1
def zf(n:Net)(nx:Lj)(o to t:Int):Int:=(iR n nx to 19 o t).2
abbrev Ux(n:Net)(nx:Lj)(o to t:Int):Prop:=aZ n=true/\nP n nx=true/\0<=o/\o<n.2.2.2.1.length/\0<=to/\to<n.2.2.2.1.length/\0<=t/\t<=2200000
def Ae(d:List Stop)(r:List Stop×Int):List Stop×Int:=if r.2=0 then(d++r.1,0)else([],r.2)
def aDy(n:Net)(nx:Lj)(h to f:Int)(x:List Stop×Int×Int):Prop:=Ux n nx x.2.1 to x.2.2/\x.1.length<=19/\iR n nx to 19 h f=Ae x.1 (iR n nx to (19-x.1.length) x.2.1 x.2.2)
def wSt(x:List Stop×Int×Int):List Stop:=x.1++[(x.2.1,x.2.2,-1,-1)]
def aD9(n:Net)(nx:Lj)(h to f:Int):Ann:=⟨λj s=>match j with
 |3=>match s.sig.T 19 with
  |.buf nm _=>some {α:=List Stop×Int×Int,inv:=λx=>aDy n nx h to f x,st:=λx=>oG (put (flat s) [(11,.buf nm (Dl (wSt x))),(12,.dat I (Di x.1))]) nm (.buf 61 Stp (wSt x) []),μ:=λx=>Dc (Dk 20 (Di x.1))}|_=>none
 |_=>none,λ_ _=>none,λ_ _=>none⟩
def KR4:Kt:=kOr 50 sx <|
 kOr 111 sy KR3
def KPm:KPt:=pOr 68 (Ir [.val I,.val I] λ(_,e,_)=>⟨True,isZero e,UD 38 e⟩) Go.Eng.noP
noncomputable def mkp(K:Kt)(mb:Tmp->Bool)(h:KPt)(f:FuncId->Bool):Cfg:=⟨Tryz.prog,G0,K,mb,KI0,false,h,f⟩
def cW:Cfg:=mkp KR4 (λt=>t==19) KPm (λf=>f==68)
theorem aGa:ay Tryz.prog G0 KR4:=ai Qk<|ai Ql aD3
theorem Zd:bG Tryz.prog G0 KPm:=mg (nA λ(v,e,_)=>(Qi v e).2) Aj
theorem aEb(d:List Stop)(o t:Int)(z:Stop):(wSt (d,o,t)).getD d.length z=(o,t,-1,-1):=by simp[wSt,qA]
theorem aEa(d:List Stop)(o t:Int)(v:Stop):(wSt (d,o,t)).set d.length v=d++[v]:=by simp[wSt]
theorem aFC(d:List Stop)(v z:Stop):(d++[v]).getD d.length z=v:=by simp[qA]
theorem aFB(d:List Stop)(v w:Stop):(d++[v]).set d.length w=d++[w]:=by simp
theorem aBv(d:List Stop)(o t:Int):(wSt (d,o,t)).length=d.length+1:=by simp[wSt]
theorem jY{e:Int}:isZero e=true↔e=0:=by simp[isZero]
theorem jX{e:Int}:isZero e=false↔e≠0:=by simp[isZero]
theorem gZ(A:LC)(j f:LB)(z:Lo)(u:Ll)(y:Lk)(h:aZ (A,j,f,z,u,y)=true):noF (A,j,f,z,u,y)=true:=((Ba A j f z u y).1 (zD.1 h)).1
theorem w8{c:Int×List Bool×Li}{m t:Int}(G:aW c.1 c.2.1 c.2.2=true)(X:nV c m t=0)(m0:0<=m)(m1:m<=1439):t<=gu c m t/\gu c m t<=t+90000:=by
 obtain⟨z,w,h⟩:=c;obtain⟨⟨A,y,_,_⟩,_⟩:=ez.1 G;have f:ie w h (d0F (z,w,h) m t)=0:=X;obtain⟨u,j,_⟩:=mo f;have e:gu (z,w,h) m t=ij z (fS w h (d0F (z,w,h) m t)) m:=if_pos f;rw[e];unfold ij;generalize fS w h (d0F (z,w,h) m t)=nd at *;have hd:d0F (z,w,h) m t=if m<(t+z)%1440 then(t+z)/1440+1 else(t+z)/1440:=rfl;rw[hd]at u j;simp only at A y;split at u<;>rename_i L<;>simp only[L,kE,xM]at j<;>omega
theorem nz(A:LC)(j f:LB)(z:Lo)(u:Ll)(y:Lk){l t:Int}(hl:Cb (A,j,f,z,u,y) l)(G:od (A,j,f,z,u,y) l t=0):0<=t/\t<=2000000/\t<=lB (A,j,f,z,u,y) l t/\lB (A,j,f,z,u,y) l t<=t+90000:=by
 obtain⟨g1,g2,g3,g4,g5,g6,g7,g8⟩:=Aq A j f z u y hl;have ho:tO (A,j,f,z,u,y) (cF (A,j,f,z,u,y) l):=⟨hl.1,g1,g2⟩;have hv:=(jS A j f z u y ho).2.2.1;have L:bO t=true:=by
  cases h:bO t with
  |true=>rfl|false=>unfold od at G;rw[h]at G;cases G
 have X:0<=t/\t<=2000000:=vO L;have e1:lB (A,j,f,z,u,y) l t=gu (aN (A,j,f,z,u,y) (cF (A,j,f,z,u,y) l)) (GU (A,j,f,z,u,y) l) t:=if_pos L;have e2:od (A,j,f,z,u,y) l t=nV (aN (A,j,f,z,u,y) (cF (A,j,f,z,u,y) l)) (GU (A,j,f,z,u,y) l) t:=if_pos L;rw[e2]at G;rw[e1];exact⟨X.1,X.2,w8 hv G g5 g6⟩
theorem nK{n:Net}{nx:Lj}{to o t:Int}(k:Nat)(h:o=to):iR n nx to k o t=([(o,t,-1,-1)],0):=by cases k<;>exact if_pos h
theorem gX{n:Net}{nx:Lj}{to o t:Int}(k:Nat)(h:o≠to)(f:nxt nx o to=-1):iR n nx to k o t=([],170):=by cases k<;>(unfold iR;rw[if_neg h,if_pos f])
theorem kz{n:Net}{nx:Lj}{to o t:Int}(k:Nat)(h:o≠to)(j:nxt nx o to≠-1)(f:od n (nxt nx o to) (aJ n o t)≠0):iR n nx to k o t=([],od n (nxt nx o to) (aJ n o t)):=by cases k<;>(unfold iR;rw[if_neg h,if_neg j,if_neg f])
theorem iG{n:Net}{nx:Lj}{to o t:Int}(h:o≠to)(j:nxt nx o to≠-1)(f:od n (nxt nx o to) (aJ n o t)=0):iR n nx to 0 o t=([],170):=by unfold iR;rw[if_neg h,if_neg j,if_pos f]
theorem iF{n:Net}{nx:Lj}{to o t:Int}(k:Nat)(h:o≠to)(j:nxt nx o to≠-1)(f:od n (nxt nx o to) (aJ n o t)=0):
  iR n nx to (k+1) o t=Ae [(o,t,lB n (nxt nx o to) (aJ n o t),nxt nx o to)] (iR n nx to k (lT n (nxt nx o to)) (lB n (nxt nx o to) (aJ n o t)+cz n (nxt nx o to))):=by
 rw[iR,if_neg h,if_neg j,if_pos f];rfl
theorem pJ{d:List Stop}{r:List Stop×Int}(h:r.2≠0):(Ae d r).2=r.2:=by unfold Ae;rw[if_neg h]
theorem BM{d:List Stop}{r:List Stop×Int}(h:r.2=0):Ae d r=(d++r.1,0):=by unfold Ae;rw[if_pos h]
theorem Lp(d e:List Stop)(r:List Stop×Int):Ae d (Ae e r)=Ae (d++e) r:=by
 unfold Ae;by_cases h:r.2=0;simp[h];simp[h]
theorem VT{n:Net}{nx:Lj}{to:Int}:∀(k:Nat) (o t:Int),Ae [] (iR n nx to k o t)=iR n nx to k o t:=λk o t=>by
 by_cases h:o=to;rw[nK k h];rfl;by_cases j:nxt nx o to=-1;rw[gX k h j];rfl;by_cases f:od n (nxt nx o to) (aJ n o t)=0;cases k with
 |zero=>rw[iG h j f];rfl|succ k=>rw[iF k h j f,Lp];rfl
 rw[kz k h j f];unfold Ae;rw[if_neg f]
theorem pg(L:LC)(z y:LB)(f:Lo)(u:Ll)(A:Lk){nx:Lj}(G:nP (L,z,y,f,u,A) nx=true){o d:Int}(o0:0<=o)(o1:o<f.length)(d0:0<=d)(d1:d<f.length):(nx.length:Int)=f.length/\((nx.getD o.toNat []).length:Int)=f.length/\(nxt nx o d≠-1->(0<=nxt nx o d/\nxt nx o d<u.length)/\cF (L,z,y,f,u,A) (nxt nx o d)=o):=by
 have hl:(nx.length:Int)=f.length:=by
  unfold nP at G;simp only[qE,qF]at G;exact G.1
 have h:=(ou (n:=(L,z,y,f,u,A)) hl).1 G o.toNat Z;have hr:((nx.getD o.toNat []).length:Int)=f.length:=by
  unfold rowOk at h;simp only[qE,qF]at h;exact h.1
 refine⟨hl,hr,λX=>?_⟩;have j:=(pG (n:=(L,z,y,f,u,A)) hr).1 h d.toNat Z;unfold km cA at j;simp only[yM,qE,qF]at j;rcases j with j|⟨j,h3⟩;exact absurd j X;exact⟨j,h3.trans Z⟩
theorem qj{x:Int}(h:-1000000000000<=x/\x<=1000000000000):inR .i64 x:=by unfold inR;simp only;omega
theorem Qe(nx:Lj)(o to t:Int)(X:LC)(z j:LB)(L:Lo)(f:Ll)(G:Lk):aj Tryz.prog G0 51 [.ip N (X,z,j,L,f,G),.dat M nx,.dat I o,.dat I to,.dat I t] [] ⟨Ux (X,z,j,L,f,G) nx o to t/\isZero (zf (X,z,j,L,f,G) nx o to t)=true,.dat (.sl Stp) (uh (X,z,j,L,f,G) nx o to t),[]⟩/\fq Tryz.prog G0 51 [.ip N (X,z,j,L,f,G),.dat M nx,.dat I o,.dat I to,.dat I t] [] ⟨Ux (X,z,j,L,f,G) nx o to t,isZero (zf (X,z,j,L,f,G) nx o to t),UD 38 (zf (X,z,j,L,f,G) nx o to t)⟩:=by
 refine zC (c:=cW) (A:=(aD9 (X,z,j,L,f,G) nx o to t)) (q:=⟨Ux (X,z,j,L,f,G) nx o to t,isZero (zf (X,z,j,L,f,G) nx o to t),UD 38 (zf (X,z,j,L,f,G) nx o to t)⟩) aGa tC hm Zd (p:=let c1:=(X,z,j,L,f,G);let c2:=((-1:Int),(-1:Int));let c3:=((0:Int),(0:Int),(0:Int),(0:Int));let c4:=zf c1 nx o to t;let c5:=isZero c4;let c6:=chainOf (Value.iface 38 (Value.int .i64 c4));let c7:=(ByteArray.mk #[],(0:Int),c3);true/\(Ux c1 nx o to t->(∃(x:List Stop×Int×Int),aDy c1 nx o to t x/\w6 c1 nx o to t Z0 (1=Dl (wSt x)/\0=Di x.1/\T7 o t o t (-1:Int) (-1:Int) 1 ([(o,t,c2)]=wSt x/\True)))/\∀(x:List (Int×Int×Int×Int)×Int×Int),let c8:=Dl (wSt x);let u:=Di x.1;let c10:=Dc u;let c11:=Dw (wSt x) c10 c3;let A:=c11.1;let c13:=Ea A to;let c14:=Dw nx (Dc A) [];let h:=Dw c14 (Dc to) 0;let c16:=Ed h (-1);let c17:=c11.2;let c18:=Ep (wSt x) c10 (A,c17.1,c17.2.1,h);let c19:=Dw c18 c10 c3;let c20:=c19.1;let c21:=c19.2;let c22:=c21.1;let c23:=aJ c1 c20 c22;let c24:=od c1 h c23;let c25:=isZero c24;let c26:=Ep c18 c10 (c20,c22,lB c1 h c23,c21.2.2);let c27:=Ed (Int.ofNat c8) 20;let c28:=(Dw f (Dc h) c7).2.2;let c29:=(Dw c26 c10 c3).2.2.1+c28.2.2.1;let c30:=[(c28.1,c29,c2)];let c31:=c8+Dl c30;let c32:=u+1;
  aDy c1 nx o to t x->c8=c8/\0<=u/\u<Ec c8/\L7 c8 c8 ((c13->c8=c8/\0<=u/\u<Ec c8/\Q4 c8 c8 c8 (0<=A/\A<Di nx/\0<=to/\to<Di c14/\(c16->(true->True/\(false=false->c5=false/\true/\chainOf (Value.iface 38 (Value.int .i64 (170:Int)))=c6))/\True)/\(c16=false->Q4 c8 c8 c8 (Dl c18=c8/\Dl c18=c8/\Dl c18=c8/\Dl c18=c8/\Dl c18=c8/\Dl c18=c8/\Ab c1 c20 c22/\Cb c1 h/\True/\(c25->Dl c18=c8/\Dl c18=c8/\Dl c18=c8/\Dl c18=c8/\Dl c18=c8/\Dl c18=c8/\Ab c1 c20 c22/\Cb c1 h/\(True/\c25)/\Dl c18=c8/\Dl c18=c8/\Dl c18=c8/\Dl c26=c8/\(c27->(true->True/\(false=false->c5=false/\true/\chainOf (Value.iface 38 (Value.int .i64 (170:Int)))=c6))/\True)/\(c27=false->0<=h/\h<Di f/\T6 1 0 1 1 0 (Dl c26=c8/\Dl c26=c8/\Dl c26=c8/\Q4 1 1 0 (inR .i64 c29/\Dl c26=c8/\(c31*32)<=140737488355328/\c31<=9223372036854775807/\inR .i64 c32/\∃(y:List Stop×Int×Int),let c33:=Di y.1;aDy c1 nx o to t y/\(w6 c1 nx o to t Z0 (c31=Dl (wSt y)/\c32=c33/\T7 o t o t (-1:Int) (-1:Int) 1 (En c26 c30=wSt y/\True)))/\Dc (20-c33)<Dc (20-u)))))/\(c25=false->c5=false/\true/\chainOf (Value.iface 38 (Value.int .i64 c24))=c6)))))/\(c13=false->c5/\c8=c8/\wSt x=uh c1 nx o to t/\True)))) ⟨rfl,λhp=>?_⟩
 refine Z9 ?_;refine⟨?_,?_⟩;exact⟨([],o,t),⟨hp,by simp,(VT 19 o t).symm⟩,rfl,rfl,rfl⟩;rintro⟨d,u,v⟩ hx;simp only[aEb,aEa,aFC,aFB,aBv,qG,vC,yE];obtain⟨⟨hs,ht,u0,u1,o0,o1,v0,v1⟩,hd,hw⟩:=hx;simp only at u0 u1 o0 o1 v0 v1 hd hw;have hno:=gZ X z j L f G hs;obtain⟨c1,c2,c3⟩:=pg X z j L f G ht u0 u1 o0 o1;have ec:(nx.getD u.toNat []).getD to.toNat 0=nxt nx u to:=rfl;rw[ec];generalize hln:nxt nx u to=ln at *;have hoff:tO (X,z,j,L,f,G) u:=⟨hno,u0,u1⟩;have hW:zf (X,z,j,L,f,G) nx o to t=(Ae d (iR (X,z,j,L,f,G) nx to (19-d.length) u v)).2:=by unfold zf;rw[hw]
 have hL:uh (X,z,j,L,f,G) nx o to t=(Ae d (iR (X,z,j,L,f,G) nx to (19-d.length) u v)).1:=by unfold uh;rw[hw]
 have hroute:u≠to->iR (X,z,j,L,f,G) nx to (19-d.length) u v=([],170)->isZero (zf (X,z,j,L,f,G) nx o to t)=false/\chainOf (Value.iface 38 (Value.int .i64 170))=chainOf (UD 38 (zf (X,z,j,L,f,G) nx o to t)):=λ_ h=>by
  have:zf (X,z,j,L,f,G) nx o to t=170:=by rw[hW,h];rfl
  rw[this];exact⟨rfl,rfl⟩
 refine⟨Z,Z,λhne=>⟨Z,Z,u0,by rw[c1];exact u1,o0,by rw[c2];exact o1,λhm=>hroute hne (gX _ hne (hln.trans hm)),λhm=>?_⟩,λhe=>?_⟩;have hm':nxt nx u to≠-1:=by rw[hln];exact hm
 obtain⟨⟨l0,l1⟩,lf⟩:=c3 hm;have hlin:Cb (X,z,j,L,f,G) ln:=⟨hno,l0,l1⟩;have hr:Ab (X,z,j,L,f,G) u v:=⟨hoff,Z,Z⟩;refine⟨hr,hlin,λhz=>⟨hr,hlin,hz,λh20=>hroute hne ?_,λh20=>?_⟩,λhz=>?_⟩;rw[show 19-d.length=0 by omega];exact iG hne hm' (by rw[hln];exact jY.1 hz);have hz0:=jY.1 hz;obtain⟨b1,b2,b3,b4⟩:=nz X z j L f G hlin hz0;obtain⟨g1,g2,g3,g4,g5,g6,g7,g8⟩:=Aq X z j L f G hlin;have et:(f.getD ln.toNat (⟨#[]⟩,0,0,0,0,0)).2.2.2.2.1=cz (X,z,j,L,f,G) ln:=rfl;have eo:(f.getD ln.toNat (⟨#[]⟩,0,0,0,0,0)).2.2.1=lT (X,z,j,L,f,G) ln:=rfl;rw[et,eo];have hnx:=iF (n:=(X,z,j,L,f,G)) (nx:=nx) (to:=to) (o:=u) (t:=v) (19-(d.length+1)) hne hm' (by rw[hln];exact hz0);rw[show 19-(d.length+1)+1=19-d.length by omega,hln]at hnx;refine⟨l0,l1,qj Z,Z,Z,qj Z,(d++[(u,v,lB (X,z,j,L,f,G) ln (aJ (X,z,j,L,f,G) u v),ln)],lT (X,z,j,L,f,G) ln,lB (X,z,j,L,f,G) ln (aJ (X,z,j,L,f,G) u v)+cz (X,z,j,L,f,G) ln),⟨⟨hs,ht,g3,g4,o0,o1,by simp only;omega,by simp only;omega⟩,by simp;omega,?_⟩,⟨by rw[aBv];simp,by simp,rfl⟩,by simp;omega⟩;show iR (X,z,j,L,f,G) nx to 19 o t=_;rw[hw,hnx,Lp];simp;have hz0:=jX.1 hz;have:=kz (n:=(X,z,j,L,f,G)) (nx:=nx) (to:=to) (o:=u) (t:=v) (19-d.length) hne hm' (by rw[hln];exact hz0);rw[hln]at this;have:zf (X,z,j,L,f,G) nx o to t=od (X,z,j,L,f,G) ln (aJ (X,z,j,L,f,G) u v):=by rw[hW,this];exact pJ hz0
 rw[this];exact⟨hz,rfl⟩;have:=nK (n:=(X,z,j,L,f,G)) (nx:=nx) (to:=to) (o:=u) (t:=v) (19-d.length) he;rw[hW,hL,this];exact⟨rfl,rfl⟩
abbrev D7(z:Int)(w:List Bool)(h:Li)(a b:Int):Prop:=aW z w h=true/\dH a=true/\dH b=true
def lJ(w:List Bool)(h:Li)(a b:Int):Li:=dM w h a (b-a+1)
abbrev On(n:Net)(line:Int):Prop:=noF n=true/\0<=line/\line<n.2.2.2.2.1.length
def fe(n:Net)(line:Int):Line:=n.2.2.2.2.1.getD line.toNat (⟨#[]⟩,0,0,0,0,0)
def ua(n:Net)(line:Int):Int×List Bool×Li:=n.1.getD (n.2.2.2.1.getD (fe n line).2.1.toNat (⟨#[]⟩,0,0,0,0,0,[])).2.2.1.toNat (0,[],[])
def eW(n:Net)(line:Int)(f:Li):Bool:=cA line n.2.2.2.2.1.length&&f.all bO&&aZ n
def Bz(f:Li)(k:Int):Prop:=0<=k/\k<=f.length/\(f.take k.toNat).all bO=true
abbrev aAy(f:Li):Prop:=f.length<=1000000
abbrev M3(n:Net)(line f:Int):Prop:=On n line/\0<=f/\f<=2000000
def cH(n:Net)(line d:Int):Int:=ij (ua n line).1 d (fe n line).2.2.2.1
def nM(n:Net)(line f:Int):Li:=lJ (ua n line).2.1 (ua n line).2.2 (jD (ua n line).1 f) (jD (ua n line).1 f+60)
def fj(n:Net)(line f:Int):Option Int:=(((nM n line f).map (cH n line)).find? λt=>decide (f<=t)).bind λt=>if t<f+86400 then some t else none
def nW(n:Net)(line f:Int):Int:=(fj n line f).getD 0
def kg(n:Net)(line f:Int):Bool:=(fj n line f).isSome
def firstTo(n:Net)(line f:Int)(k:Nat):Prop:=k<=(nM n line f).length/\((nM n line f).take k).all (λd=>decide (cH n line d<f))=true
def KT5:Kt:=kOr 286 HG KT4
def Zl(f:Li):Ann:=Z8 4 Int (Bz f) (λs k=>put s [(20,.dat I k)]) λk=>Dc (Dk (Di f) k)
def Yh(w:List Bool)(h:Li)(a b:Int):IW:=⟨λf y=>match f with
 |1=>some {α:=Int,inv:=λd=>mL a (Dt (Dk b a) 1) d,st:=λd=>⟨put y.s [(5,.dat I d)],lR w h a d,true⟩,μ:=λd=>Dc (Dk (Dt b 1) d)}|_=>none,λ_ _=>none,λf=>f==3⟩
theorem UM(z a b:Int)(w:List Bool)(h:Li)(G:
 let c1:=(z,w,h);let c2:=lJ w h a b;let X:=Dl c2;let A:=b+1;true/\true/\true/\false=false/\∀(l:Nat),D7 z w h a b->(∃x,mL a ((b-a)+1) x/\(T4 l a b c1 (a=x/\T5 a))/\0=lR w h a x/\true)/\∀(x:Int),let L:=(b-a)+1;let c6:=lR w h a x;let c7:=c6+1;let u:=x+1;let c9:=Dy (bE w h x) (Dj false) false;mL a L x->(Ef x b->(aW z w h/\dH x)/\(bE w h x->(bE w h x->bE w h x)/\(bE w h x->bE w h x)/\l=l/\true/\oL c2 c6 x/\∀(f:Bool),let j:=Dy (bE w h x) (Dj f) false;(Dh true (bE w h x)->bE w h x)/\(j->f->c7=X)/\(j=false->inR .i64 u/\∃y,mL a L y/\((T4 l a b c1 (u=y/\T5 a))/\c7=lR w h a y/\f)/\Dc (A-y)<Dc (A-x)))/\(bE w h x=false->L5 (bE w h x) ((Dh true (bE w h x)->bE w h x)/\(c9->true->c6=X)/\(c9=false->inR .i64 u/\∃y,mL a L y/\((T4 l a b c1 (u=y/\T5 a))/\c6=lR w h a y/\true)/\Dc (A-y)<Dc (A-x)))))/\(Ef x b=false->true->c6=X)):
  evI (mkc KT5) (Yh w h a b) 285 [.ip I a,.ip I b,.ip C (z,w,h)] ⟨D7 z w h a b,I,lJ w h a b⟩:=oE_ G
abbrev AQ:=aA [.row N,.val I] (λ(n,l,_)=>On n l) λ(n,l,_)=>cal (ua n l).1 (ua n l).2.1 (ua n l).2.2
abbrev pZ:=aA [.row C,.val I,.val I] (λ_=>True) λ(c,a,b,_)=>.fn 285 [.ip I a,.ip I b,.ip C (c.1,c.2.1,c.2.2)]
abbrev vE:=aA [.row N,.val I,.val R] (λ(_,_,f,_)=>aAy f) λ(n,l,f,_)=>.dat .bool (eW n l f)
def KT6:Kt:=kOr 260 AQ <|
 kOr 261 pZ <|
 kOr 219 vE KT5
def aFP:FuncId->List AV->Option iD:=λf h=>match f,h with|285,[.ip (.int .i64) a,.ip (.int .i64) b,.ip (.pair (.int .i64) (.pair (.sl .bool) (.sl (.int .i64)))) c]=>some ⟨D7 c.1 c.2.1 c.2.2 a b,I,lJ c.2.1 c.2.2 a b⟩|_,_=>none
noncomputable def mkr(K:Kt)(mb:Tmp->Bool):Cfg:=⟨Tryz.prog,G0,K,mb,aFP,true,λ_ _ _=>none,λ_=>false⟩
def aCQ(n:Net)(line f:Int):Ann:=Z8 4 Nat (firstTo n line f) (λs _=>flat s) λk=>k
abbrev AO:=aA [.row N,.val I,.val I] (λ(n,l,t,_)=>M3 n l t) λ(n,l,t,_)=>.tup [.dat I (nW n l t),.dat .bool (kg n l t)]
def KT7:Kt:=kOr 220 AO KT6
theorem aDf:ay Tryz.prog G0 KT5:=ai aCa aDg
theorem TN(j:LC)(y z:LB)(f:Lo)(u:Ll)(A:Lk){line:Int}(h:On (j,y,z,f,u,A) line):aW (ua (j,y,z,f,u,A) line).1 (ua (j,y,z,f,u,A) line).2.1 (ua (j,y,z,f,u,A) line).2.2=true/\0<=(fe (j,y,z,f,u,A) line).2.1/\(fe (j,y,z,f,u,A) line).2.1<f.length/\
  0<=(f.getD (fe (j,y,z,f,u,A) line).2.1.toNat (⟨#[]⟩,0,0,0,0,0,[])).2.2.1/\(f.getD (fe (j,y,z,f,u,A) line).2.1.toNat (⟨#[]⟩,0,0,0,0,0,[])).2.2.1<j.length/\0<=(fe (j,y,z,f,u,A) line).2.2.2.1/\(fe (j,y,z,f,u,A) line).2.2.2.1<=1439:=by
 obtain⟨G,l0,l1⟩:=h;have l1:line<u.length:=l1;have hl:fe (j,y,z,f,u,A) line∈u:=by
  unfold fe;show u.getD line.toNat _∈u;rw[qA,qB Z,vJ];exact wS _
 obtain⟨g1,g2,g3,g4,g5,X,_⟩:=mE ((mj j y z f u A G).2.2.2 _ hl);have f0:0<=(fe (j,y,z,f,u,A) line).2.1:=g1;have f1:(fe (j,y,z,f,u,A) line).2.1<f.length:=g2;have ho:f.getD (fe (j,y,z,f,u,A) line).2.1.toNat (⟨#[]⟩,0,0,0,0,0,[])∈f:=by
  rw[qA,qB Z,vJ];exact wS _
 have L:=(BQ j y z f u A G).2.2.2 _ ho;unfold dA cA at L;simp only[qE,qF]at L;have L:0<=(f.getD (fe (j,y,z,f,u,A) line).2.1.toNat (⟨#[]⟩,0,0,0,0,0,[])).2.2.1/\(f.getD (fe (j,y,z,f,u,A) line).2.1.toNat (⟨#[]⟩,0,0,0,0,0,[])).2.2.1<(j.length:Int):=L.1.1.1.1.1.2;have hc:=((Cm (by decide)).1 (nh j y z f u A G).2.1).2.2.2;have hcl:(aE j y).length=j.length:=by unfold aE;simp
 have:=hc (f.getD (fe (j,y,z,f,u,A) line).2.1.toNat (⟨#[]⟩,0,0,0,0,0,[])).2.2.1.toNat Z;unfold bv at this;rw[fZ (λc:Int×List Bool×Li=>aW c.1 c.2.1 c.2.2) j _ (0,[],[]) false Z]at this;exact⟨this,f0,f1,L.1,L.2,X.1,X.2⟩
theorem ZO:eO 260 AQ:=af λ(((u,ns,os,j,h,ks):Net),(f:Int),_)=>by
 refine zE (A:=aG) (p:=let c1:=(u,ns,os,j,h,ks);let X:=(Dw h (Dc f) (ByteArray.mk #[],(0:Int),(0:Int),(0:Int),(0:Int),(0:Int))).2.1;let L:=(Dw j (Dc X) (ByteArray.mk #[],(0:Int),(0:Int),(0:Int),(0:Int),(0:Int),Du ByteArray)).2.2.1;let G:=Dw u (Dc L) ((0:Int),Du Bool,Du Int);let z:=ua c1 f;(On c1 f->0<=f/\f<Di h/\0<=X/\X<Di j/\0<=L/\L<Di u/\T4 1 0 1 0 (G.1=z.1/\G.2.1=z.2.1/\G.2.2=z.2.2/\True))) aDf λy=>?_;obtain⟨_,h1,h2,h3,h4,_⟩:=TN u ns os j h ks y;exact⟨y.2.1,y.2.2,h1,h2,h3,h4,rfl,rfl,rfl,rfl,rfl,rfl,rfl,trivial⟩
theorem NJ:eO 261 pZ:=af λ(((z:Int),(w:List Bool),(h:Li)),(a:Int),(b:Int),_)=>zE (A:=aG) (p:=let f:=(z,w,h);(True->u9 a b f)) aDf λ_=>⟨rfl,rfl,rfl,trivial⟩
theorem zm{t:Int}:bO t=true↔¬t<0/\¬t>2000000:=by unfold bO;rw[qF];omega
theorem UY:eO 219 vE:=af λ(((cs,ns,os,fs,u,ks):Net),(f:Int),(j:Li),_)=>by
 refine zE (A:=(lvA [(4,[3,6,8,18,19,20])] (Zl j))) (p:=let c1:=Dn f 0;let X:=Dj c1;let c3:=Dy c1 true (Eb f (Di u));let L:=(cs,ns,os,fs,u,ks);let c5:=eW L f j;(aAy j->L5 X (Q3 X ((Dh true X->X)/\(c3->false=c5/\True)/\(c3=false->(∃x,Bz j x/\Q4 L j (Di j) (0=x/\True))/\∀(x:Int),let A:=Dn x (Di j);let c7:=Dw j (Dc x) 0;let c8:=Dn c7 0;let h:=Dj c8;let G:=Dy c8 true (Ee c7 2000000);let z:=x+1;Bz j x->(A->0<=x/\x<Di j/\L5 h ((Dh true h->h)/\(G->false=c5/\True)/\(G=false->inR .i64 z/\∃y,Bz j y/\(Q4 L j (Di j) (z=y/\True))/\Dc (Di j-y)<Dc (Di j-x))))/\(A=false->True/\Ed (Di (fm L)) 0=c5/\True)))))) aDf λhp=>?_;refine Z9 ?_;have hp':j.length<=1000000:=hp;refine⟨λh=>?_,λ⟨h1,h2⟩=>⟨⟨qN _,qU _,rfl⟩,λk ⟨k0,k1,k2⟩=>⟨λhk=>?_,λhk=>?_⟩⟩⟩;unfold eW;have:cA f (u.length:Nat)=false:=by unfold cA;exact qY Z
 show false=(cA f (u.length:Nat)&&_&&_);rw[this];rfl;have hg:j.getD k.toNat 0=j[k.toNat]:=by rw[qA,qB Z,vJ]
 refine⟨k0,hk,λh=>?_,λh=>⟨qi Z,k+1,⟨Z,Z,?_⟩,rfl,Z⟩⟩;have hn:j.all bO=false:=by
  rw[qBq];refine⟨j[k.toNat],wS _,λg=>?_⟩;rw[<- hg,zm]at g;omega
 unfold eW;rw[hn,kZ];rfl;rw[show(k+1).toNat=k.toNat+1 by omega,wY,qB Z,qCh,gV,k2,<- hg];show(true&&(bO _&&true))=true;rw[zm.2 h];rfl;have e1:cA f (u.length:Nat)=true:=by unfold cA;exact qR Z
 have e2:j.all bO=true:=by
  rw[qM Z]at k2;exact k2
 unfold eW aZ;show _=(cA f (u.length:Nat)&&j.all bO&&_);rw[e1,e2];cases fm (cs,ns,os,fs,u,ks)with
 |nil=>rfl|cons a l=>
  show decide _=false;rw[wG];show ¬((((a::l).length:Nat):Int)=0);rw[wR];omega
theorem iS{d:Int}:dH d=true↔-1000000<=d/\d<=1000000:=by unfold dH;rw[qF]
theorem Zs(a b:Int)(c:C.den):lS Tryz.prog G0 285 [.ip I a,.ip I b,.ip C c] ⟨D7 c.1 c.2.1 c.2.2 a b,I,lJ c.2.1 c.2.2 a b⟩:=by
 obtain⟨z,w,h⟩:=c;refine rx (c:=mkc KT5) (A:=Yh w h a b) aDf tC hm ?_;refine UM z a b w h ⟨rfl,rfl,rfl,rfl,λl ⟨L,ha,hb⟩=>?_⟩;refine Z9 ?_;have ha':=iS.1 ha;have hb':=iS.1 hb;refine⟨⟨a,⟨qN _,.inr rfl⟩,rfl,(Nn w h a).symm⟩,λx u=>?_⟩;have f:=u.1;have G:=u.2;refine⟨λX=>⟨⟨L,iS.2 Z⟩,λj=>⟨Uc f Z j,λs=>⟨λg1 y=>(by rw[g1.2]at y;cases y),λg=>⟨qi Z,x+1,⟨Z,.inl Z⟩,⟨rfl,?_,g j⟩,Z⟩⟩⟩,λj=>⟨λg=>(by rw[j]at g;cases g),λ_=>⟨qi Z,x+1,⟨Z,.inl Z⟩,⟨rfl,?_⟩,Z⟩⟩⟩,λhge=>?_⟩;rw[tY f,j];rfl;rw[tY f,j];rfl;exact cnt_end (n:=b-a+1) u Z
theorem aF9:ay Tryz.prog G0 KT6:=ai ZO<|ai NJ<|ai UY aDf
theorem aDp:aR Tryz.prog G0 aFP:=by
 intro f j c h;unfold aFP at h;split at h;cases h;exact Zs _ _ _;cases h
theorem JZ{f:Int->Int}{j y:Int}(u:¬f y<j):∀{L:Li}{x:Nat},L[x]?=some y->(L.take x).all (λd=>decide (f d<j))=true->(L.map f).find? (λt=>decide (j<=t))=some (f y)
 |[],x,h,_=>by simp at h|a::L,0,h,_=>by
  have:a=y:=by simpa using h
  subst this;rw[wV,xW,qR (show j<=f a by omega)]
 |a::L,x+1,h,g=>by
  rw[List.take_succ_cons,qBa,qE,qF]at g;rw[wV,xW,qY (show ¬j<=f a by omega)];exact JZ u (by simpa using h) g.2
theorem S9{f:Int->Int}{h:Int}:∀{L:Li},L.all (λd=>decide (f d<h))=true->(L.map f).find? (λt=>decide (h<=t))=none
 |[],_=>rfl|a::L,g=>by
  rw[qBa,qE,qF]at g;rw[wV,xW,qY (show ¬h<=f a by omega)];exact S9 g.2
theorem ze{w:List Bool}{h:Li}{a b y:Int}(f:y∈lJ w h a b):a<=y/\y<=b/\bE w h y=true:=by
 unfold lJ dM at f;rw[yY]at f;obtain⟨f,j⟩:=f;obtain⟨i,u,rfl⟩:=vW.1 f;have:=wJ.1 u;exact⟨Z,Z,j⟩
theorem UT{z:Int}{w:List Bool}{h:Li}{t:Int}(f:aW z w h=true)(A:0<=t)(y:t<=2000000): -2<=jD z t/\jD z t<=2000:=by
 obtain⟨⟨u,j,_⟩,_⟩:=ez.1 f;unfold jD;omega
theorem ZJ:eO 220 AO:=af λ(((cs,L,G,fs,u,X):Net),(h:Int),(j:Int),_)=>by
 refine zF (c:=mkr KT6 λ_=>false) (A:=(aCQ (cs,L,G,fs,u,X) h j)) aF9 aDp hm (p:=let c1:=(cs,L,G,fs,u,X);let c2:=ua c1 h;let c3:=c2.1;let c4:=c2.2;let c5:=c4.1;let A:=c4.2;let f:=jD c3 j;let c8:=f+60;let c9:=Oh c3 j;let c10:=(c3,c5,A);let c11:=lJ c5 A f c8;let c12:=(Dw u (Dc h) (ByteArray.mk #[],(0:Int),(0:Int),(0:Int),(0:Int),(0:Int))).2.2.2.1;let c13:=j+86400;let c14:=nW c1 h j;let c15:=kg c1 h j;true/\(M3 c1 h j->On c1 h/\T4 1 0 1 0 (ri c3 c5 A j/\L7 1 0 (inR IntKind.i64 c8/\True/\D7 c3 c5 A f c8/\(∃x,firstTo c1 h j x/\x=0/\cs=cs/\L=L/\G=G/\fs=fs/\u=u/\X=X/\h=h/\j=j/\c1=c1/\h=h/\j=j/\1=1/\0=0/\0=0/\1=1/\0=0/\0=0/\1=1/\0=0/\0=0/\f=f/\c9=c9/\cs=cs/\L=L/\G=G/\fs=fs/\u=u/\X=X/\h=h/\c3=c3/\c5=c5/\A=A/\f=f/\c9=c9/\c3=c3/\c5=c5/\A=A/\j=j/\f=f/\c9=c9/\f=f/\c9=c9/\c3=c3/\c5=c5/\A=A/\f=f/\f=f/\c8=c8/\f=f/\c8=c8/\c10=c10/\(0:Int)=(0:Int)/\false=false/\c3=c3/\c5=c5/\A=A/\True)/\(∀(x:Nat) (y:Int),let c16:=Dn (ij c3 y c12) j;let c17:=Eb (ij c3 y c12) c13;
  firstTo c1 h j x->oL c11 x y->L7 1 0 (0<=h/\h<Di u/\nT c3 c5 A y c12/\(c16->∃z,firstTo c1 h j z/\z=x+1/\cs=cs/\L=L/\G=G/\fs=fs/\u=u/\X=X/\h=h/\j=j/\c1=c1/\h=h/\j=j/\1=1/\0=0/\0=0/\1=1/\0=0/\0=0/\1=1/\0=0/\0=0/\f=f/\c9=c9/\cs=cs/\L=L/\G=G/\fs=fs/\u=u/\X=X/\h=h/\c3=c3/\c5=c5/\A=A/\f=f/\c9=c9/\c3=c3/\c5=c5/\A=A/\j=j/\f=f/\c9=c9/\f=f/\c9=c9/\c3=c3/\c5=c5/\A=A/\f=f/\f=f/\c8=c8/\f=f/\c8=c8/\c10=c10/\(0:Int)=(0:Int)/\false=false/\c3=c3/\c5=c5/\A=A/\True)/\(c16=false->inR .i64 c13/\(c17->z8 1 0 1 0 1 0 1 0 (0=c14/\false=c15/\True))/\(c17=false->z8 1 0 1 0 1 0 1 0 (ij c3 y c12=c14/\true=c15/\True)))))/\∀(x:Nat),firstTo c1 h j x->x=Dl c11->z8 1 0 1 0 1 0 1 0 (0=c14/\false=c15/\True))))) ⟨rfl,λhp=>?_⟩
 refine Z9 ?_;obtain⟨hl,t0,t1⟩:=hp;obtain⟨hv,_,_,_,_,m0,m1⟩:=TN cs L G fs u X hl;obtain⟨d0,d1⟩:=UT hv t0 t1;refine⟨hl,⟨hv,Z,Z⟩,qi Z,⟨hv,iS.2 Z,iS.2 Z⟩,⟨wK _,rfl⟩,λx y hx hy=>?_,λx hx hl=>?_⟩;have hy':(nM (cs,L,G,fs,u,X) h j)[x]?=some y:=hy;obtain⟨y0,y1,yw⟩:=ze (qZ hy);obtain⟨x1,x2⟩:=hx;refine⟨hl.2.1,hl.2.2,⟨hv,iS.2 Z,m0,(by show(fe (cs,L,G,fs,u,X) h).2.2.2.1<1440;omega)⟩,λhlt=>⟨(qC.1 hy').1,?_⟩,λhge=>⟨qi Z,λhfar=>?_,λhnear=>?_⟩⟩;rw[wY,hy',qCh,gV,x2];show(true&&(decide (cH (cs,L,G,fs,u,X) h y<j)&&true))=true;rw[qR (show cH (cs,L,G,fs,u,X) h y<j from hlt)];rfl;have hf:fj (cs,L,G,fs,u,X) h j=none:=by
  unfold fj;rw[JZ (f:=cH (cs,L,G,fs,u,X) h) hge hy' x2];show(if cH (cs,L,G,fs,u,X) h y<j+86400 then some (cH (cs,L,G,fs,u,X) h y)else none)=none;rw[if_neg (show ¬cH (cs,L,G,fs,u,X) h y<j+86400 from by have:cH (cs,L,G,fs,u,X) h y≥j+86400:=hfar;omega)]
 unfold nW kg;rw[hf];exact⟨rfl,rfl⟩;have hf:fj (cs,L,G,fs,u,X) h j=some (cH (cs,L,G,fs,u,X) h y):=by
  unfold fj;rw[JZ (f:=cH (cs,L,G,fs,u,X) h) hge hy' x2];show(if cH (cs,L,G,fs,u,X) h y<j+86400 then some (cH (cs,L,G,fs,u,X) h y)else none)=_;rw[if_pos (show cH (cs,L,G,fs,u,X) h y<j+86400 from by have:¬cH (cs,L,G,fs,u,X) h y≥j+86400:=hnear;omega)]
 unfold nW kg;rw[hf];exact⟨rfl,rfl⟩;obtain⟨x1,x2⟩:=hx;have hx':x=(nM (cs,L,G,fs,u,X) h j).length:=hl;rw[hx',kY]at x2;have hf:fj (cs,L,G,fs,u,X) h j=none:=by
  unfold fj;rw[S9 x2];rfl
 unfold nW kg;rw[hf];exact⟨rfl,rfl⟩
theorem aF8:ay Tryz.prog G0 KT7:=ai ZJ aF9
noncomputable def isDep(n:Net)(l v:Int):Prop:=bE (ua n l).2.1 (ua n l).2.2 (jD (ua n l).1 v)=true/\Oh (ua n l).1 v=(fe n l).2.2.2.1
theorem D8(X:LC)(z y:LB)(L:Lo)(A:Ll)(G:Lk){line f:Int}{ts:Li}(h:eW (X,z,y,L,A,G) line ts=true)(ht:f∈ts):M3 (X,z,y,L,A,G) line f:=by
 unfold eW at h;rw[qE,qE]at h;obtain⟨⟨u,h2⟩,h3⟩:=h;have u:=vO u;have hs:=((Ba X z y L A G).1 (zD.1 h3)).1;have j:=vO (qW.1 h2 f ht);exact⟨⟨hs,u.1,u.2⟩,j.1,j.2⟩
theorem Ie{n:Net}{l t u:Int}(h:fj n l t=some u):t<=u/\u<t+86400:=by
 unfold fj at h;cases e:((nM n l t).map (cH n l)).find? (λv=>decide (t<=v))with
 |none=>rw[e]at h;cases h
 |some v=>
  rw[e]at h;have f:=vO (qBc (p:=λv=>decide (t<=v)) e);have h:(if v<t+86400 then some v else none)=some u:=h;split at h;cases h;exact⟨f,by assumption⟩;cases h
noncomputable def atOk(n:Net)(l:Int):Prop:=0<=(fe n l).2.2.2.1/\(fe n l).2.2.2.1<=1439
theorem xL(A:LC)(j f:LB)(z:Lo)(u:Ll)(y:Lk){line:Int}(h:On (A,j,f,z,u,y) line):atOk (A,j,f,z,u,y) line:=by
 obtain⟨_,_,_,_,_,L,G⟩:=TN A j f z u y h;exact⟨L,G⟩
theorem RN{n:Net}{l:Int}(h:atOk n l)(d:Int):jD (ua n l).1 (cH n l d)=d/\Oh (ua n l).1 (cH n l d)=(fe n l).2.2.2.1:=by
 unfold atOk at h;unfold jD Oh cH ij;omega
theorem Ip{n:Net}{l v:Int}(h:isDep n l v):cH n l (jD (ua n l).1 v)=v:=by
 unfold isDep jD Oh at h;unfold cH ij jD;omega
theorem G7{n:Net}{l d:Int}(h:atOk n l)(f:bE (ua n l).2.1 (ua n l).2.2 d=true):isDep n l (cH n l d):=by
 have:=RN h d;unfold isDep;rw[this.1,this.2];exact⟨f,rfl⟩
theorem Oi{w:List Bool}{h:Li}{a b y:Int}(u:a<=y)(j:y<=b)(f:bE w h y=true):y∈lJ w h a b:=by
 unfold lJ dM;rw[yY];exact⟨vW.2 ⟨(y-a).toNat,wJ.2 Z,Z⟩,f⟩
theorem Bo(w:List Bool)(h:Li)(a b:Int):(lJ w h a b).Pairwise (· < ·):=by
 unfold lJ dM;refine List.Pairwise.filter _ ?_;rw[qBn];exact List.pairwise_lt_range.imp λh=>Z
theorem G6{n:Net}{l:Int}{L:Li}(h:L.Pairwise (· < ·)):(L.map (cH n l)).Pairwise (· < ·):=by
 rw[qBn];exact h.imp λh=>by unfold cH ij;omega
theorem rB{t u:Int}:∀{L:Li},L.Pairwise (· < ·)->L.find? (λv=>decide (t<=v))=some u->u∈L/\t<=u/\∀v∈L,t<=v->u<=v
 |[],_,e=>by cases e
 |a::L,z,e=>by
  rw[xW]at e;obtain⟨X,G⟩:=kC.1 z;by_cases g:t<=a;rw[qR g]at e;have e:a=u:=wE e;subst e;refine⟨wL,g,λv f _=>?_⟩;rcases zK.1 f with rfl|f;exact qN _;have:=X v f;omega;rw[qY g]at e;obtain⟨y,j,h⟩:=rB G e;refine⟨wX _ y,j,λv f A=>?_⟩;rcases zK.1 f with rfl|f;omega;exact h v f A
theorem Io{n:Net}{l t v:Int}(h:isDep n l v)(j:t<=v)(f:v<t+86400):v∈(nM n l t).map (cH n l):=by
 refine vW.2 ⟨jD (ua n l).1 v,Oi ?_ ?_ h.1,Ip h⟩;unfold jD;omega;unfold jD;omega
theorem rO(n:Net)(l t:Int):((nM n l t).map (cH n l)).Pairwise (· < ·):=G6 (Bo _ _ _ _)
theorem first_some{n:Net}{l t u:Int}(A:atOk n l)(h:fj n l t=some u):t<=u/\u<t+86400/\isDep n l u/\∀v,t<=v->v<u->¬isDep n l v:=by
 obtain⟨L,G⟩:=Ie h;unfold fj at h;cases e:((nM n l t).map (cH n l)).find? (λv=>decide (t<=v))with
 |none=>rw[e]at h;cases h
 |some x=>
  rw[e]at h;have h:(if x<t+86400 then some x else none)=some u:=h;split at h;cases h;obtain⟨y,i2,j⟩:=rB (rO n l t) e;obtain⟨d,hd,rfl⟩:=vW.1 y;refine⟨L,G,G7 A (ze hd).2.2,λv f X z=>?_⟩;have:=j v (Io z f Z) f;omega;cases h
theorem OI{n:Net}{l t:Int}(h:fj n l t=none)(v:Int)(f:t<=v)(j:v<t+86400):¬isDep n l v:=by
 intro u;have hm:=Io u f j;unfold fj at h;cases e:((nM n l t).map (cH n l)).find? (λv=>decide (t<=v))with
 |none=>
  rw[qCi]at e;exact e v hm (qR f)
 |some x=>
  rw[e]at h;have h:(if x<t+86400 then some x else none)=none:=h;split at h;cases h;have:=(rB (rO n l t) e).2.2 v hm f;omega
theorem Xr{n:Net}{l t u:Int}(j:atOk n l)(h:t<=u)(z:u<t+86400)(f:isDep n l u)(y:∀v,t<=v->v<u->¬isDep n l v):fj n l t=some u:=by
 cases e:fj n l t with
 |none=>exact(OI e u h z f).elim|some x=>
  obtain⟨L,X,G,A⟩:=first_some j e;rcases Int.lt_trichotomy x u with g|g|g;exact(y x L g G).elim;rw[g];exact(A u h g f).elim
theorem Xq{n:Net}{l t:Int}(f:atOk n l)(h:∀v,t<=v->v<t+86400->¬isDep n l v):fj n l t=none:=by
 cases e:fj n l t with
 |none=>rfl|some x=>
  obtain⟨y,u,j,z⟩:=first_some f e;exact(h x y u j).elim
noncomputable def gA(n:Net)(l t:Int):Int:=if eW n l [t]then nW n l t else 0
noncomputable def ix(n:Net)(l t:Int):Int:=if eW n l [t]then(if kg n l t then 0 else 20)else 1
theorem Vf(line f:Int)(L:LC)(u j:LB)(G:Lo)(y:Ll)(z:Lk):aj Tryz.prog G0 160 [net L u j G y z,.dat I line,.dat I f] [] ⟨True,.tup [.dat I (gA (L,u,j,G,y,z) line f),.dat I (ix (L,u,j,G,y,z) line f)],[]⟩:=by
 refine zF (c:=mkr KT7 λ_=>false) (A:=aG) aF8 aDp hm (p:=let c1:=[f];let X:=(L,u,j,G,y,z);let c3:=Dj (eW X line c1);let c4:=gA X line f;let c5:=ix X line f;let h:=Dj (kg X line f);true/\(True->aAy c1/\(c3->0=c4/\1=c5/\True)/\(c3=false->M3 X line f/\(h->0=c4/\20=c5/\True)/\(h=false->nW X line f=c4/\0=c5/\True)))) ⟨rfl,λ_=>?_⟩;unfold gA ix;refine⟨(by show(1:Nat)<=1000000;decide),λh=>?_,λh=>?_⟩;have hu:eW (L,u,j,G,y,z) line [f]=false:=by
  cases e:eW (L,u,j,G,y,z) line [f]with
  |false=>rfl|true=>rw[e]at h;cases h
 rw[hu];exact⟨rfl,rfl,trivial⟩;have hu:eW (L,u,j,G,y,z) line [f]=true:=by
  cases e:eW (L,u,j,G,y,z) line [f]with
  |true=>rfl|false=>rw[e]at h;cases h
 refine⟨D8 L u j G y z hu (qX.2 rfl),λg=>?_,λg=>?_⟩;have hb:kg (L,u,j,G,y,z) line f=false:=by
  cases e:kg (L,u,j,G,y,z) line f with
  |false=>rfl|true=>rw[e]at g;cases g
 have hd:nW (L,u,j,G,y,z) line f=0:=by
  unfold nW kg at *;cases e:fj (L,u,j,G,y,z) line f with
  |none=>rfl|some v=>rw[e]at hb;cases hb
 rw[hu,hb,hd];exact⟨rfl,rfl,trivial⟩;have hb:kg (L,u,j,G,y,z) line f=true:=by
  cases e:kg (L,u,j,G,y,z) line f with
  |true=>rfl|false=>rw[e]at g;cases g
 rw[hu,hb];exact⟨rfl,rfl,trivial⟩
theorem rn{w:List Bool}{h:Li}{a n:Int}(f:0<=n):dM w h a (n+1)=dM w h a n++(if bE w h (a+n)then[a+n]else[]):=by
 unfold dM;rw[show(n+1).toNat=n.toNat+1 by omega,yL,zS,yJ];congr 1;simp only[wV,qBf,yP,gU,show a+((n.toNat:Nat):Int)=a+n by omega]
theorem GX{w:List Bool}{h:Li}{a:Int}:∀(j:Nat) {k:Int},0<=k->∃r,dM w h a (k+j)=dM w h a k++r
 |0,k,_=>⟨[],by simp⟩|j+1,k,u=>by
  obtain⟨r,f⟩:=GX (w:=w) (h:=h) (a:=a) j u;exact⟨r++_,by rw[show k+((j+1:Nat):Int)=k+j+1 by omega,rn Z,f,zJ]⟩
theorem Wx{w:List Bool}{h:Li}{d k:Int}(j:0<=k)(z:k<60)(y:dM w h d k=[])(u:bE w h (d+k)=true):fS w h d=d+k/\ie w h d=0:=by
 obtain⟨r,f⟩:=GX (w:=w) (h:=h) (a:=d) (59-k).toNat (k:=k+1) Z;rw[show k+1+((59-k).toNat:Int)=60 by omega,rn j,y,if_pos u]at f;have:jT w h d=some (d+k):=by unfold jT;rw[f];rfl
 unfold fS ie;rw[this];exact⟨rfl,rfl⟩
theorem Ww{w:List Bool}{h:Li}{d:Int}(f:dM w h d 60=[]):fS w h d=0/\ie w h d=20:=by
 have:jT w h d=none:=by unfold jT;rw[f];rfl
 unfold fS ie;rw[this];exact⟨rfl,rfl⟩
theorem GY{w:List Bool}{h:Li}{d j e:Int}(f:dM w h d j=[])(y:d<=e)(u:e<d+j):bE w h e≠true:=by
 unfold dM at f;rw[qAp]at f;exact f e (vW.2 ⟨(e-d).toNat,wJ.2 Z,Z⟩)
theorem Ap(w:List Bool)(h:Li)(d:Int):∀k:Nat,dM w h d k=[]\/∃j:Int,0<=j/\j<k/\dM w h d j=[]/\bE w h (d+j)=true
 |0=>.inl rfl|k+1=>by
  rcases Ap w h d k with g|⟨j,f,j1,u,g2⟩;by_cases hw:bE w h (d+k)=true;exact .inr ⟨k,Z,Z,g,hw⟩;left;rw[show((k+1:Nat):Int)=(k:Int)+1 by omega,rn Z,g,if_neg hw];rfl;exact .inr ⟨j,f,Z,u,g2⟩
theorem Tv(L:LC)(u f:LB)(G:Lo)(y:Ll)(A:Lk){l t:Int}(hs:aZ (L,u,f,G,y,A)=true)(hl:Cb (L,u,f,G,y,A) l):gA (L,u,f,G,y,A) l t=lB (L,u,f,G,y,A) l t/\ix (L,u,f,G,y,A) l t=od (L,u,f,G,y,A) l t:=by
 obtain⟨hno,l0,l1⟩:=id hl;have hu:eW (L,u,f,G,y,A) l [t]=bO t:=by
  unfold eW;rw[hs,show cA l (((L,u,f,G,y,A):Net).2.2.2.2.1.length:Int)=true from qR ⟨l0,l1⟩];simp
 unfold gA ix lB od;rw[hu];cases hk:bO t with
 |false=>exact⟨rfl,rfl⟩|true=>
  have ha:=xL L u f G y A (line:=l) ⟨hno,l0,l1⟩;obtain⟨m0,m1⟩:0<=GU (L,u,f,G,y,A) l/\GU (L,u,f,G,y,A) l<=1439:=id ha;have hL:∀d,cH (L,u,f,G,y,A) l d=d*1440+GU (L,u,f,G,y,A) l-(aN (L,u,f,G,y,A) (cF (L,u,f,G,y,A) l)).1:=λ_=>rfl;have hc:ua (L,u,f,G,y,A) l=aN (L,u,f,G,y,A) (cF (L,u,f,G,y,A) l):=rfl;have hD:∀v,isDep (L,u,f,G,y,A) l v->bE (aN (L,u,f,G,y,A) (cF (L,u,f,G,y,A) l)).2.1 (aN (L,u,f,G,y,A) (cF (L,u,f,G,y,A) l)).2.2 (jD (aN (L,u,f,G,y,A) (cF (L,u,f,G,y,A) l)).1 v)=true/\v=jD (aN (L,u,f,G,y,A) (cF (L,u,f,G,y,A) l)).1 v*1440+GU (L,u,f,G,y,A) l-(aN (L,u,f,G,y,A) (cF (L,u,f,G,y,A) l)).1:=λv h=>⟨h.1,(Ip h).symm⟩;rw[if_pos rfl,if_pos rfl,if_pos rfl,if_pos rfl];unfold nW kg;have X:d0F (aN (L,u,f,G,y,A) (cF (L,u,f,G,y,A) l)) (GU (L,u,f,G,y,A) l) t=if GU (L,u,f,G,y,A) l<(t+(aN (L,u,f,G,y,A) (cF (L,u,f,G,y,A) l)).1)%1440 then(t+(aN (L,u,f,G,y,A) (cF (L,u,f,G,y,A) l)).1)/1440+1 else(t+(aN (L,u,f,G,y,A) (cF (L,u,f,G,y,A) l)).1)/1440:=rfl;unfold gu nV;generalize hcc:aN (L,u,f,G,y,A) (cF (L,u,f,G,y,A) l)=c at *;obtain⟨z,w,h⟩:=c;generalize hd0:d0F (z,w,h) (GU (L,u,f,G,y,A) l) t=d0 at *;generalize GU (L,u,f,G,y,A) l=m at *;simp only at X hD hL ⊢;have hb:t<=d0*1440+m-z/\d0*1440+m-z<t+1440:=by split at X<;>omega
  rcases Ap w h d0 60 with g|⟨j,j0,j1,g1,g2⟩;obtain⟨e1,e2⟩:=Ww g;have hf:fj (L,u,f,G,y,A) l t=none:=Xq ha λv v1 v2 hv=>by
   obtain⟨k1,k2⟩:=hD v hv;exact GY g (e:=jD z v) Z Z k1
  rw[hf,e2];exact⟨rfl,rfl⟩;have j1:j<60:=j1;obtain⟨e1,e2⟩:=Wx j0 j1 g1 g2;have hf:fj (L,u,f,G,y,A) l t=some (cH (L,u,f,G,y,A) l (d0+j)):=Xr ha (by rw[hL];omega) (by rw[hL];omega) (G7 ha (by rw[hc];exact g2)) λv v1 v2 hv=>by
   obtain⟨k1,k2⟩:=hD v hv;rw[hL]at v2;exact GY g1 (e:=jD z v) Z Z k1
  rw[hf,e2,e1];exact⟨hL _,rfl⟩
def kA(n:Net)(nx:Lj)(o to t:Int):Bool:=(cA o n.2.2.2.1.length&&cA to n.2.2.2.1.length&&bO t)&&(aZ n&&nP n nx)
def rL(n:Net)(nx:Lj)(o to t:Int):List Stop:=if kA n nx o to t=true then uh n nx o to t else[]
def DU(n:Net)(nx:Lj)(o to t:Int):Int:=if kA n nx o to t=true then zf n nx o to t else 1
def XI(args:List AV)(m:Mem):Option lI:=match args,m with|[.ifc t (.dat (.int .i64) e)],[]=>if t=38 then some ⟨True,.dat I e,[]⟩else none|_,_=>none
def KR5:Kt:=kOr 45 XI <|
 kOr 51 (aA [.ptr N,.val M,.val I,.val I,.val I] (λ(n,nx,o,f,t,_)=>Ux n nx o f t/\isZero (zf n nx o f t)=true) λ(n,nx,o,f,t,_)=>.dat (.sl Stp) (uh n nx o f t)) KR4
def KPw:KPt:=pOr 51 (Ir [.ptr N,.val M,.val I,.val I,.val I] λ(n,nx,o,f,t,_)=>⟨Ux n nx o f t,isZero (zf n nx o f t),UD 38 (zf n nx o f t)⟩) <|
 pOr 46 (Ir [.val .bool] λ(b,_)=>⟨True,b,UD 38 1⟩) KPm
def Kcd:Kt:=kOr 45 XI λ_ _ _=>none
def cY:Cfg:={mkp KR5 (λ_=>false) KPw (λf=>f==51||f==46)with rng:=true}
theorem Nh:∀args m c,XI args m=some c->aj Tryz.prog [] 45 args m c:=by
 intro args m c h;unfold XI at h;split at h;split at h;rename_i e;subst e;cases h;exact ZD _;cases h;cases h
theorem Za:ay Tryz.prog [] Kcd:=ai Nh λ_ _ _ _ h=>by cases h
theorem aD2:ay Tryz.prog G0 KR5:=ai (λargs m c h=>OG (Nh args m c h))<|ai (af λ((G,u,j,A,y,z),nx,o,f,t,_)=>(Qe nx o f t G u j A y z).1) aGa
theorem Zc:bG Tryz.prog G0 KPw:=mg (nA λ((A,j,h,z,u,y),nx,o,f,t,_)=>(Qe nx o f t A j h z u y).2)<|mg (nA λ(b,_)=>(ED b).2) Zd
theorem Zk{n:Net}{nx:Lj}{to:Int}(k:Nat)(o t:Int)(h:(iR n nx to k o t).2≠0):(iR n nx to k o t).1=[]:=by
 by_cases f:o=to;rw[nK k f]at h;exact absurd rfl h;by_cases j:nxt nx o to=-1;rw[gX k f j];by_cases u:od n (nxt nx o to) (aJ n o t)=0;cases k with
 |zero=>rw[iG f j u]|succ k=>
  rw[iF k f j u]at h ⊢;unfold Ae at h ⊢;split;rename_i y;rw[if_pos y]at h;exact absurd rfl h;rfl
 rw[kz k f j u]
theorem cE{i l:Int}:cA i l=true↔0<=i/\i<l:=by unfold cA;simp
theorem PO{n:Net}{nx:Lj}{o to t:Int}:kA n nx o to t=true↔(((0<=o/\o<n.2.2.2.1.length)/\(0<=to/\to<n.2.2.2.1.length))/\(0<=t/\t<=2000000))/\aZ n=true/\nP n nx=true:=by
 unfold kA bO;simp only[qE,cE,qF]
abbrev Hh:=aA [.row N,.val M,.val I,.val I,.val I] (λ(_,nx,_)=>jb nx) λ(n,nx,o,f,t,_)=>.tup [.dat (.sl Stp) (rL n nx o f t),.dat I (DU n nx o f t)]
theorem aBK:eO 15 Hh:=af λ(((L,y,u,j,z,G):Net),(nx:Lj),(o:Int),(f:Int),(t:Int),_)=>by
 refine zR (c:=cY) (Kz:=Kcd) (A0:=aG) (A:=aG) (Ac:=aG) Za aD2 tC hm Zc (p:=let c14:=Int×Int×Int×Int;let c1:=Di j;let c2:=cA o c1;let c3:=Dy c2 (cA f c1) false;let c4:=Dy c3 (bO t) false;let X:=(L,y,u,j,z,G);let h:=rL X nx o f t;let A:=DU X nx o f t;let c13:=Dj false->True/\1=1/\0=0/\1=1/\0=0/\1=1/\0=0/\1=1/\0=0/\h=Du c14/\1=A/\True;let c12:=Dj false=false->1=1/\0=0/\1=1/\0=0/\h=Du c14/\0=A/\True;let c8:=aZ X;let c9:=Dy c8 (nP X nx) false;let c10:=zf X nx o f t;let c11:=isZero c10;(true/\true)/\(jb nx->true/\True/\L5 c2 (Q3 c2 ((c2->True)/\(Dh true c2->c2)/\L5 c3 ((c3->True)/\(Dh true c3->c3)/\(true->True/\(c4=false->true/\true/\c13/\c12))/\((true->c4)->(True/\c4)/\True/\L5 c8 ((c8->jb nx)/\(Dh true c8->c8)/\(true->True/\(c9=false->true/\true/\c13/\c12))/\((true->c9)->(True/\c9)/\(true->Ux X nx o f t/\(c11=false->true/\true/\(Dj false->True/\z8 1 0 1 0 1 0 1 0 (h=Du c14/\c10=A/\True))/\c12))/\((true->c11)->(Ux X nx o f t/\c11)/\T4 1 0 1 0 (true/\true/\(Dj true->False)/\(Dj true=false->T4 1 0 1 0 (uh X nx o f t=h/\0=A/\True)))))))))))) ⟨⟨rfl,rfl⟩,λhp=>?_⟩;have hW1:kA (L,y,u,j,z,G) nx o f t=true->rL (L,y,u,j,z,G) nx o f t=uh (L,y,u,j,z,G) nx o f t/\DU (L,y,u,j,z,G) nx o f t=zf (L,y,u,j,z,G) nx o f t:=λh=>⟨if_pos h,if_pos h⟩;have hW0:kA (L,y,u,j,z,G) nx o f t=false->rL (L,y,u,j,z,G) nx o f t=[]/\DU (L,y,u,j,z,G) nx o f t=1:=λh=>⟨if_neg (by simp[h]),if_neg (by simp[h])⟩
 refine Z9 ?_;have no:kA (L,y,u,j,z,G) nx o f t=false->(rL (L,y,u,j,z,G) nx o f t=[]/\1=DU (L,y,u,j,z,G) nx o f t)/\(false=true->rL (L,y,u,j,z,G) nx o f t=[]/\0=DU (L,y,u,j,z,G) nx o f t):=λh=>by
  obtain⟨h1,h2⟩:=hW0 h;exact⟨⟨h1,h2.symm⟩,λh=>by cases h⟩
 refine⟨λh=>no ?_,λhi=>⟨hi,λ_=>hp,λh=>no ?_,λhs=>?_⟩⟩;unfold kA;show(cA o j.length&&cA f j.length&&bO t&&_)=false;cases h1:cA o j.length<;>cases h2:cA f j.length<;>simp;rw[h ⟨h1,h2⟩];simp;unfold kA;cases h1:aZ (L,y,u,j,z,G);simp;rw[h h1];simp;have hok:kA (L,y,u,j,z,G) nx o f t=true:=by
  unfold kA;show(cA o j.length&&cA f j.length&&bO t&&_)=true;rw[hi.1.1,hi.1.2,hi.2,hs.1,hs.2];rfl
 obtain⟨e1,e2⟩:=hW1 hok;obtain⟨⟨⟨⟨o0,o1⟩,⟨d0,d1⟩⟩,⟨t0,t1⟩⟩,q1,q2⟩:=PO.1 hok;have hw:Ux (L,y,u,j,z,G) nx o f t:=⟨q1,q2,o0,o1,d0,d1,t0,Z⟩;rw[e1,e2];refine⟨hs,⟨hw,λhz=>⟨⟨Zk 19 o t (jX.1 hz),rfl⟩,λh=>by cases h⟩⟩,λhz=>⟨⟨hw,hz⟩,⟨(λh=>by cases h),rfl,(jY.1 hz).symm⟩⟩⟩
end Go.Eng.Sv
