/- Sv1p -/
import Derived.Test.YtecnnbcfgijddaaGreatDoorETPrmE
import Derived.Test.YtecnnbcfgijddaaGreatDoorETPrmW
import Derived.Test.YtecnnbcfgijddaaGreatDoorChecked
set_option linter.unusedSimpArgs false
set_option linter.unusedVariables false
set_option maxRecDepth 100000
noncomputable section
namespace Go.Eng.Sv
open Go.Proofs
abbrev I:Ty:=.int .i64
abbrev U:Ty:=.int .u8
abbrev B:Ty:=.sl .bool
abbrev R:Ty:=.sl I
abbrev LC:Type:=List (Int×List Bool×Li)
abbrev LB:Type:=List ByteArray
abbrev C:Ty:=.pair I (.pair B R)
abbrev S:Ty:=.str
abbrev cal(z:Int)(w:List Bool)(h:Li):AV:=.agg [.dat I z,.dat B w,.dat R h]
def kw:List ByteArray:=[⟨#[99,97,108,101,110,100,97,114]⟩,⟨#[111,112,101,114,97,116,111,114]⟩,⟨#[111,102,102,105,99,101]⟩,⟨#[108,105,110,101]⟩,⟨#[99,108,97,115,115]⟩,⟨#[122,111,110,101]⟩,⟨#[119,101,101,107]⟩,⟨#[104,111,108,105,100,97,121]⟩,⟨#[112,111,99,107,101,116,115]⟩,⟨#[112,97,115,115,101,115]⟩,⟨#[109,105,110,117,116,101,115]⟩,⟨#[99,111,100,101,115]⟩,⟨#[97,116]⟩,⟨#[116,114,97,118,101,108]⟩,⟨#[108,111,97,100]⟩,⟨#[99,117,116]⟩,⟨#[100,101,108,105,118,101,114]⟩]
def jh(b:Int):Bool:=decide (97<=b/\b<=122)
def fN(b:Int):Bool:=decide (48<=b/\b<=57)
def cN(v a b:Int):Bool:=decide (a<=v/\v<=b)
def nameB(b:Int):Bool:=jh b||fN b||decide (b=95)
def xb(b:Int):Bool:=fN b||decide (65<=b/\b<=90)
def isKey(s:ByteArray):Bool:=kw.any λw=>w.toList==s.toList
def bK(s:ByteArray):Bool:=decide (1<=s.size/\s.size<=16)&&jh ((s.data.getD 0 0).toNat:Int)&&(s.data.toList.all λb=>nameB (b.toNat:Int))&&!isKey s
def cJ(s:ByteArray):Bool:=decide (1<=s.size/\s.size<=8)&&s.data.toList.all λb=>xb (b.toNat:Int)
def jQ(s:ByteArray)(k:Int):Prop:=0<=k/\k<=s.size/\(s.data.toList.take k.toNat).all (λb=>nameB (b.toNat:Int))=true
def kb(s:ByteArray)(k:Int):Prop:=0<=k/\k<=s.size/\(s.data.toList.take k.toNat).all (λb=>xb (b.toNat:Int))=true
def qS(s:ByteArray)(k:Int):Prop:=0<=k/\k<=17/\(kw.take k.toNat).any (λw=>w.toList==s.toList)=false
def aW(z:Int)(w:List Bool)(h:Li):Bool:=decide (-720<=z/\z<=840/\w.length=7/\h.length<=40)&&(List.range (h.length-1)).all λi=>decide (h.getD i 0<h.getD (i+1) 0)
def nD(w:List Bool)(h:Li):Bool:=decide (w.length<=20)&&decide (h.length<=60)
def sW(h:Li)(k:Int):Prop:=1<=k/\(k<=h.length\/k=1)/\h.length<=40/\∀i:Nat,(i:Int)+1<k->h.getD i 0<h.getD (i+1) 0
def bJ(k:Int):Int:=if k=3 then 12 else if k=4 then 40 else if k=5 then 4 else 6
def ya(s:ByteArray):Prop:=s.size<=9223372036854775807
def p10:Li:=(List.range 20).map λi=>((10 ^ i:Nat):Int)
def K0:Kt:=λf args m=>none
def G0:List (Nat×AV):=[(0,.ia S kw),(1,.ia (.int .u64) p10)]
def KI0:FuncId->List AV->Option iJ:=λ_ _=>none
noncomputable def mkc(K:Kt):Cfg:=⟨Tryz.prog,G0,K,λ_=>false,KI0,false,λ_ _ _=>none,λ_=>false⟩
def Yw(h:Li):Ann:=Z8 4 Int (sW h) (λs k=>put s [(3,.dat I k)]) λk=>Dc (Dk (Dh h) k)
def K1:Kt:=λf args m=>match f,args,m with|127,[.agg [.dat (.int .i64) z,.dat (.sl .bool) w,.dat (.sl (.int .i64)) h]],[]=>some ⟨True,.dat .bool (aW z w h),[]⟩|254,[.agg [.dat (.int .i64) z,.dat (.sl .bool) w,.dat (.sl (.int .i64)) h]],[]=>some ⟨True,.dat .bool (aW z w h),[]⟩|149,[.agg [.dat (.int .i64) z,.dat (.sl .bool) w,.dat (.sl (.int .i64)) h]],[]=>some ⟨True,.dat .bool (nD w h),[]⟩|250,[.dat (.int .u8) b],[]=>some ⟨True,.dat .bool (jh b),[]⟩|251,[.dat (.int .u8) b],[]=>some ⟨True,.dat .bool (fN b),[]⟩|253,[.dat (.int .u8) b],[]=>some ⟨True,.dat .bool (fN b),[]⟩|208,[.dat (.int .i64) v,.dat (.int .i64) a,.dat (.int .i64) b],[]=>some ⟨True,.dat .bool (cN v a b),[]⟩|257,[.dat (.int .i64) v,.dat (.int .i64) a,.dat (.int .i64) b],[]=>some ⟨True,.dat .bool (cN v a b),[]⟩|151,[.dat (.int .i64) k],[]=>some ⟨True,.dat I (bJ k),[]⟩|282,[],[]=>some ⟨True,.dat (.sl S) kw,[]⟩|_,_,_=>none
def aAE(s:ByteArray):Ann:=⟨λf st=>match f with
 |4=>some {α:=Int,inv:=λk=>jQ s k,st:=λk=>put st [(24,.dat I k)],μ:=λk=>Dc (Dk (Ej s) k)}|10=>some {α:=Int,inv:=λk=>qS s k,st:=λk=>put st [(42,.dat I k)],μ:=λk=>Dc (Dk 17 k)}|_=>none,λ_ _=>none,λ_ _=>none⟩
def aAG(s:ByteArray):Ann:=Z8 4 Int (kb s) (λf k=>put f [(16,.dat I k)]) λk=>Dc (Dk (Ej s) k)
def aGZ(s:ByteArray):Ann:=Z8 3 Int (qS s) (λf k=>put f [(4,.dat I k)]) λk=>Dc (Dk 17 k)
def aCE(s:ByteArray):Ann:=Z8 4 Int (jQ s) (λf k=>put f [(3,.dat I k)]) λk=>Dc (Dk (Ej s) k)
def aCH(s:ByteArray):Ann:=Z8 4 Int (kb s) (λf k=>put f [(3,.dat I k)]) λk=>Dc (Dk (Ej s) k)
def K2:Kt:=λf args m=>match f,args,m with|147,[.dat (.int .i64) v],[]=>some ⟨True,.dat .bool (cN v 0 1439),[]⟩|196,[.dat .str s],[]=>some ⟨True,.dat .bool (bK s),[]⟩|207,[.dat .str s],[]=>some ⟨True,.dat .bool (cJ s),[]⟩|252,[.dat .str s],[]=>some ⟨True,.dat .bool (isKey s),[]⟩|_,_,_=>K1 f args m
theorem xd(x y:Bool):Dz x true y=(x||y):=by cases x<;>rfl
theorem lj(x y:Bool):Dz x y false=(x&&y):=by cases x<;>rfl
theorem hm:Tryz.prog.follows .mixedOrders=true:=by kernel_rfl
theorem KS0:ay Tryz.prog G0 K0:=λf args m c h=>by cases h
theorem sJ:aR Tryz.prog G0 KI0:=λf args c h=>by cases h
theorem zE{K:Kt}{A:Ann}{f:FuncId}{args:List AV}{m:Mem}{r:lA}{p:Prop}(j:ay Tryz.prog G0 K)(h:p)(e:evF (mkc K) A f args m r=(true=true/\p):=by kernel_rfl):aj Tryz.prog G0 f args m r:=nQ (c:=mkc K) j sJ hm (by rw[e];exact⟨rfl,h⟩)
abbrev eO:=EO Tryz.prog G0
def UE(z:Int)(w:List Bool)(h:Li):Prop:=(-720<=z/\z<=840/\w.length=7/\h.length<=40)/\∀i:Nat,i+1<h.length->h.getD i 0<h.getD (i+1) 0
theorem dZ{z:Int}{w:List Bool}{h:Li}:aW z w h=true↔UE z w h:=by
 unfold aW UE;rw[qC,qF,qU];refine and_congr_right λ_=>⟨λg i f=>?_,λg i f=>?_⟩;have:=g i (wG.2 Z);simpa using this;have:=wG.1 f;simpa using g i Z
theorem qn{z:Int}{w:List Bool}{h:Li}(j:¬UE z w h):false=aW z w h:=by
 cases f:aW z w h with
 |false=>rfl|true=>exact(j (dZ.1 f)).elim
theorem Ho{h:Li}(f:¬(h.length:Int)>40):sW h 1:=⟨qL _,.inr rfl,Z,λi j=>Z⟩
theorem AN{h:Li}{x:Int}(f:sW h x)(u:x<h.length)(j:h.getD (x-1).toNat 0<h.getD x.toNat 0):sW h (x+1):=by
 obtain⟨g1,X,z,y⟩:=f;refine⟨Z,Z,z,λi L=>?_⟩;by_cases e:(i:Int)+1<x;exact y i e;have G:(x-1).toNat=i:=by omega
 have A:x.toNat=i+1:=Z;rwa [G,A]at j
theorem Ht{z:Int}{w:List Bool}{h:Li}{x:Int}(f:sW h x)(u:x<h.length)(y:h.getD x.toNat 0<=h.getD (x-1).toNat 0):false=aW z w h:=by
 refine qn λj=>?_;have:=f.1;have:=j.2 (x-1).toNat Z;rw[show(x-1).toNat+1=x.toNat by omega]at this;omega
theorem Hu{z:Int}{w:List Bool}{h:Li}{x:Int}(f:sW h x)(j:¬x<h.length)(A:-720<=z)(y:z<=840)(u:w.length=7):true=aW z w h:=
 (dZ.2 ⟨⟨A,y,u,by have:=f.2.2.1;omega⟩,λi G=>f.2.2.2 i Z⟩).symm
theorem iB(z:Int)(w:List Bool)(h:Li):aj Tryz.prog G0 127 [cal z w h] [] ⟨True,.dat .bool (aW z w h),[]⟩:=by
 refine zE (A:=(lvA [(4,[1,2,3])] (Yw h))) (p:=let c1:=Dn z (-720);let c2:=Di c1;let c3:=Dz c1 true (Ef z 840);let c4:=Di c3;let c5:=Dz c3 true (Ea (Dh w) 7);let j:=Di c5;let u:=Dz c5 true (Ef (Dh h) 40);let L:=(z,w,h);(True->Q2 c2 ((Dj true c2->c2)/\Q4 c4 ((Dj true c4->c4)/\Q4 j ((Dj true j->j)/\(u->false=aW z w h/\True)/\(u=false->(∃x,sW h x/\L=L/\1=x/\True)/\∀(x:Int),let A:=Dn x (Dh h);let f:=x-1;let G:=Eh (Dw h (Dc x) 0) (Dw h (Dc f) 0);let X:=x+1;sW h x->(A->0<=x/\x<Dh h/\inR .i64 f/\0<=f/\f<Dh h/\(G->false=aW z w h/\True)/\(G=false->inR .i64 X/\∃y,sW h y/\(L=L/\X=y/\True)/\Dc (Dh h-y)<Dc (Dh h-x)))/\(A=false->true=aW z w h/\True))))))) KS0 λ_=>?_;refine Z9 ?_;refine⟨λhb=>qn λhv=>?_,λ⟨⟨⟨h1,h2⟩,h3⟩,h4⟩=>⟨Ho h4,λx u=>⟨λj=>?_,λhge=>Hu u hge Z Z Z⟩⟩⟩;obtain⟨⟨g1,g2,g3,g4⟩,_⟩:=hv;omega;have hx1:=u.1;have hx3:=u.2.2.1;refine⟨Z,j,⟨Z,Z⟩,Z,Z,λX=>Ht u j X,λhn=>⟨⟨Z,Z⟩,x+1,AN u j Z,rfl,Z⟩⟩
theorem VK(z:Int)(w:List Bool)(h:Li):aj Tryz.prog G0 254 [cal z w h] [] ⟨True,.dat .bool (aW z w h),[]⟩:=by
 refine zE (A:=(lvA [(4,[1,2,3])] (Yw h))) (p:=let c1:=Dn z (-720);let c2:=Di c1;let c3:=Dz c1 true (Ef z 840);let c4:=Di c3;let c5:=Dz c3 true (Ea (Dh w) 7);let j:=Di c5;let u:=Dz c5 true (Ef (Dh h) 40);let L:=(z,w,h);(True->Q2 c2 ((Dj true c2->c2)/\Q4 c4 ((Dj true c4->c4)/\Q4 j ((Dj true j->j)/\(u->false=aW z w h/\True)/\(u=false->(∃x,sW h x/\L=L/\1=x/\True)/\∀(x:Int),let A:=Dn x (Dh h);let f:=x-1;let G:=Eb (Dw h (Dc f) 0) (Dw h (Dc x) 0);let X:=x+1;sW h x->(A->inR .i64 f/\0<=f/\f<Dh h/\0<=x/\x<Dh h/\(G->false=aW z w h/\True)/\(G=false->inR .i64 X/\∃y,sW h y/\(L=L/\X=y/\True)/\Dc (Dh h-y)<Dc (Dh h-x)))/\(A=false->true=aW z w h/\True))))))) KS0 λ_=>?_;refine Z9 ?_;refine⟨λhb=>qn λhv=>?_,λ⟨⟨⟨h1,h2⟩,h3⟩,h4⟩=>⟨Ho h4,λx u=>⟨λj=>?_,λhge=>Hu u hge Z Z Z⟩⟩⟩;obtain⟨⟨g1,g2,g3,g4⟩,_⟩:=hv;omega;have hx1:=u.1;have hx3:=u.2.2.1;refine⟨⟨Z,Z⟩,Z,Z,Z,j,λX=>Ht u j X,λhn=>⟨⟨Z,Z⟩,x+1,AN u j Z,rfl,Z⟩⟩
theorem iX(z:Int)(w:List Bool)(h:Li):aj Tryz.prog G0 149 [cal z w h] [] ⟨True,.dat .bool (nD w h),[]⟩:=by
 refine zE (A:=aE) (p:=let f:=Eh (Dh w) 20;(True->Q4 f ((Dj true f->f)/\Dz f (Eh (Dh h) 60) false=nD w h/\True))) KS0 λ_=>?_;simp only[qc,Dj,Et,Di,nD,Eh,Dh];congr 1<;>congr 1<;>exact qBx Z
theorem mF(p q:Prop)[Decidable p][Decidable q]:(decide p&&decide q)=decide (p/\q):=by by_cases h:p<;>by_cases f:q<;>simp[h,f]
theorem QQ(b:Int):aj Tryz.prog G0 250 [.dat U b] [] ⟨True,.dat .bool (jh b),[]⟩:=by
 refine zE (A:=aE) (p:=let f:=Eb b 97;(True->L5 f ((Dj true f->f)/\Dz f (Eh b 122) false=jh b/\True))) KS0 λ_=>?_;simp only[qc,Dj,Et,Di,jh,Eb,Eh,mF,qAg]
theorem QR(b:Int):aj Tryz.prog G0 251 [.dat U b] [] ⟨True,.dat .bool (fN b),[]⟩:=by
 refine zE (A:=aE) (p:=let f:=Eb b 48;(True->L5 f ((Dj true f->f)/\Dz f (Eh b 57) false=fN b/\True))) KS0 λ_=>?_;simp only[qc,Dj,Et,Di,fN,Eb,Eh,mF,qAg]
theorem oB(b:Int):aj Tryz.prog G0 253 [.dat U b] [] ⟨True,.dat .bool (fN b),[]⟩:=by
 refine zE (A:=aE) (p:=let f:=Eb b 48;(True->L5 f ((Dj true f->f)/\Dz f (Eh b 57) false=fN b/\True))) KS0 λ_=>?_;simp only[qc,Dj,Et,Di,fN,Eb,Eh,mF,qAg]
theorem VM(v a b:Int):aj Tryz.prog G0 208 [.dat I v,.dat I a,.dat I b] [] ⟨True,.dat .bool (cN v a b),[]⟩:=by
 refine zE (A:=aE) (p:=let f:=Eb v a;(True->Q2 f ((Dj true f->Eb v a)/\Dz f (Eh v b) false=cN v a b/\True))) KS0 λ_=>?_;simp only[qc,Dj,Et,Di,cN,Eb,Eh,mF,qAg]
theorem QT(v a b:Int):aj Tryz.prog G0 257 [.dat I v,.dat I a,.dat I b] [] ⟨True,.dat .bool (cN v a b),[]⟩:=by
 refine zE (A:=aE) (p:=let f:=Eb v a;(True->Q2 f ((Dj true f->Eb v a)/\Dz f (Eh v b) false=cN v a b/\True))) KS0 λ_=>?_;simp only[qc,Dj,Et,Di,cN,Eb,Eh,mF,qAg]
theorem oA(k:Int):aj Tryz.prog G0 151 [.dat I k] [] ⟨True,.dat I (bJ k),[]⟩:=by
 refine zE (A:=aE) (p:=let z:=Ee k 3;let y:=Ee k 4;let u:=Ee k 5;(True->(z->12=bJ k/\True)/\(z=false->(y->40=bJ k/\True)/\(y=false->(u->4=bJ k/\True)/\(u=false->6=bJ k/\True))))) KS0 λ_=>?_;refine Z9 ?_;simp only[qc,bJ];refine⟨λh=>by rw[if_pos h],λf=>⟨λh=>by rw[if_neg f,if_pos h],λj=>⟨λh=>by rw[if_neg f,if_neg j,if_pos h],λh=>by rw[if_neg f,if_neg j,if_neg h]⟩⟩⟩
theorem aCq:aj Tryz.prog G0 282 [] [] ⟨True,.dat (.sl S) kw,[]⟩:=
 zE (A:=aE) (p:=(True->[ByteArray.mk #[(99:UInt8),(97:UInt8),(108:UInt8),(101:UInt8),(110:UInt8),(100:UInt8),(97:UInt8),(114:UInt8)],ByteArray.mk #[(111:UInt8),(112:UInt8),(101:UInt8),(114:UInt8),(97:UInt8),(116:UInt8),(111:UInt8),(114:UInt8)],ByteArray.mk #[(111:UInt8),(102:UInt8),(102:UInt8),(105:UInt8),(99:UInt8),(101:UInt8)],ByteArray.mk #[(108:UInt8),(105:UInt8),(110:UInt8),(101:UInt8)],ByteArray.mk #[(99:UInt8),(108:UInt8),(97:UInt8),(115:UInt8),(115:UInt8)],ByteArray.mk #[(122:UInt8),(111:UInt8),(110:UInt8),(101:UInt8)],ByteArray.mk #[(119:UInt8),(101:UInt8),(101:UInt8),(107:UInt8)],ByteArray.mk #[(104:UInt8),(111:UInt8),(108:UInt8),(105:UInt8),(100:UInt8),(97:UInt8),(121:UInt8)],ByteArray.mk #[(112:UInt8),(111:UInt8),(99:UInt8),(107:UInt8),(101:UInt8),(116:UInt8),(115:UInt8)],ByteArray.mk #[(112:UInt8),(97:UInt8),(115:UInt8),(115:UInt8),(101:UInt8),(115:UInt8)],ByteArray.mk #[(109:UInt8),(105:UInt8),(110:UInt8),(117:UInt8),(116:UInt8),(101:UInt8),(115:UInt8)],ByteArray.mk #[(99:UInt8),(111:UInt8),(100:UInt8),(101:UInt8),(115:UInt8)],ByteArray.mk #[(97:UInt8),(116:UInt8)],ByteArray.mk #[(116:UInt8),(114:UInt8),(97:UInt8),(118:UInt8),(101:UInt8),(108:UInt8)],ByteArray.mk #[(108:UInt8),(111:UInt8),(97:UInt8),(100:UInt8)],ByteArray.mk #[(99:UInt8),(117:UInt8),(116:UInt8)],ByteArray.mk #[(100:UInt8),(101:UInt8),(108:UInt8),(105:UInt8),(118:UInt8),(101:UInt8),(114:UInt8)]]=kw/\True)) KS0 λ_=>⟨rfl,trivial⟩
theorem KS1:ay Tryz.prog G0 K1:=by
 intro f args m c h;unfold K1 at h;split at h;cases h;exact iB _ _ _;cases h;exact VK _ _ _;cases h;exact iX _ _ _;cases h;exact QQ _;cases h;exact QR _;cases h;exact oB _;cases h;exact VM _ _ _;cases h;exact QT _ _ _;cases h;exact oA _;cases h;exact aCq;cases h
theorem O3(s:ByteArray)(i:Nat):(Fv s).getD i 0=((s.data.getD i 0).toNat:Int):=by
 show(List.map (λb:UInt8=>(b.toNat:Int)) s.data.toList).getD i 0=_;rw[qA,qQ,yA,vG];cases s.data[i]?<;>rfl
theorem xi(s:ByteArray)(x:Int):(Fv s).getD x.toNat 0=Gf s x:=O3 s x.toNat
theorem mA(s:ByteArray):(Fv s).length=s.size:=by
 show(List.map _ s.data.toList).length=s.data.size;rw[vT,vH]
theorem iG(s:ByteArray):s.data.toList.length=s.size:=vH
theorem eI{α:Type}{l:List α}{p:α->Bool}{d:α}{k:Nat}(h:(l.take k).all p=true)(j:k<l.length)(f:p (l.getD k d)=true):(l.take (k+1)).all p=true:=by
 rw[wW,qB j,gU,h];rw[qA,qB j]at f;simpa using f
theorem ly{α:Type}{l:List α}{p:α->Bool}{d:α}{k:Nat}(h:k<l.length)(f:p (l.getD k d)=false):l.all p=false:=by
 rw[qA,qB h]at f;rw[qBk];exact⟨l[k],wM h,by simpa using f⟩
theorem Zp{α:Type}{l:List α}{p:α->Bool}{d:α}{k:Nat}(h:k<l.length)(f:p (l.getD k d)=true):l.any p=true:=by
 rw[qA,qB h]at f;exact xZ.2 ⟨l[k],wM h,by simpa using f⟩
theorem rp{α:Type}{l:List α}{p:α->Bool}{d:α}{k:Nat}(h:(l.take k).any p=false)(j:k<l.length)(f:p (l.getD k d)=false):(l.take (k+1)).any p=false:=by
 rw[wW,qB j,List.any_append,h];rw[qA,qB j]at f;simpa using f
theorem jZ(s:ByteArray)(i:Nat):s.data.toList.getD i 0=s.data.getD i 0:=by
 rw[qA,yA,vG]
theorem uT(s:ByteArray):jQ s 0:=⟨qL _,qR _,by simp⟩
theorem w8(s:ByteArray):kb s 0:=⟨qL _,qR _,by simp⟩
theorem AH(s:ByteArray):qS s 0:=⟨qL _,by decide,by simp⟩
theorem uU{s:ByteArray}{x:Int}(h:jQ s x)(u:x<s.size)(f:nameB (Gf s x)=true):jQ s (x+1):=by
 obtain⟨z,y,j⟩:=h;refine⟨Z,Z,?_⟩;rw[show(x+1).toNat=x.toNat+1 by omega];exact eI (d:=0) j (by rw[iG];omega) (by rw[jZ];exact f)
theorem w9{s:ByteArray}{x:Int}(h:kb s x)(u:x<s.size)(f:xb (Gf s x)=true):kb s (x+1):=by
 obtain⟨z,y,j⟩:=h;refine⟨Z,Z,?_⟩;rw[show(x+1).toNat=x.toNat+1 by omega];exact eI (d:=0) j (by rw[iG];omega) (by rw[jZ];exact f)
theorem Ad{s:ByteArray}{x:Int}(h:jQ s x)(j:¬x<s.size):(s.data.toList.all λb=>nameB (b.toNat:Int))=true:=by
 obtain⟨y,u,f⟩:=h;rwa [qO (by rw[iG];omega)]at f
theorem AS{s:ByteArray}{x:Int}(h:kb s x)(j:¬x<s.size):(s.data.toList.all λb=>xb (b.toNat:Int))=true:=by
 obtain⟨y,u,f⟩:=h;rwa [qO (by rw[iG];omega)]at f
theorem Lt{s:ByteArray}{x:Int}(h:jQ s x)(j:x<s.size)(f:nameB (Gf s x)=false):(s.data.toList.all λb=>nameB (b.toNat:Int))=false:=
 ly (d:=0) (k:=x.toNat) (by rw[iG];have:=h.1;omega) (by rw[jZ];exact f)
theorem Nh{s:ByteArray}{x:Int}(h:kb s x)(j:x<s.size)(f:xb (Gf s x)=false):(s.data.toList.all λb=>xb (b.toNat:Int))=false:=
 ly (d:=0) (k:=x.toNat) (by rw[iG];have:=h.1;omega) (by rw[jZ];exact f)
theorem AI{s:ByteArray}{x:Int}(h:qS s x)(u:x<17)(f:s.toList≠(kw.getD x.toNat ⟨#[]⟩).toList):qS s (x+1):=by
 obtain⟨z,y,j⟩:=h;refine⟨Z,Z,?_⟩;rw[show(x+1).toNat=x.toNat+1 by omega];exact rp (d:=⟨#[]⟩) j (by show x.toNat<17;omega) (by simpa using λe=>f e.symm)
theorem Y0{s:ByteArray}{x:Int}(h:qS s x)(j:x<17)(f:s.toList=(kw.getD x.toNat ⟨#[]⟩).toList):isKey s=true:=
 Zp (d:=⟨#[]⟩) (k:=x.toNat) (by have:=h.1;show x.toNat<17;omega) (by simpa using f.symm)
theorem Hk{s:ByteArray}{x:Int}(h:qS s x)(j:¬x<17):isKey s=false:=by
 obtain⟨y,u,f⟩:=h;have:x=17:=Z;subst this;exact f
theorem uS{s:ByteArray}(h:bK s=true->False):false=bK s:=by
 cases e:bK s with
 |false=>rfl|true=>exact(h e).elim
theorem CX{s:ByteArray}(h:cJ s=true->False):false=cJ s:=by
 cases e:cJ s with
 |false=>rfl|true=>exact(h e).elim
theorem fB{s:ByteArray}:bK s=true↔(1<=s.size/\s.size<=16)/\jh (Gf s 0)=true/\(s.data.toList.all λb=>nameB (b.toNat:Int))=true/\isKey s=false:=by
 unfold bK;simp only[qC,qF,zD,qAn];exact Iff.rfl
theorem gq{s:ByteArray}:cJ s=true↔(1<=s.size/\s.size<=8)/\(s.data.toList.all λb=>xb (b.toNat:Int))=true:=by
 unfold cJ;simp only[qC,qF]
theorem uV{b:Int}(j:jh b=false)(h:fN b=false)(f:b≠95):nameB b=false:=by simp[nameB,j,h,f]
theorem NR(v:Int):aj Tryz.prog G0 147 [.dat I v] [] ⟨True,.dat .bool (cN v 0 1439),[]⟩:=
 zE (A:=aE) (p:=let f:=cN v 0 1439;(True->True/\T5 f)) KS1 λ_=>⟨trivial,rfl,trivial⟩
theorem Lu{b:Int}(h:jh b=false->fN b=false->b=95):nameB b=true:=by
 unfold nameB;cases j:jh b with
 |true=>rfl|false=>cases f:fN b with
  |true=>rfl|false=>simpa using h j f
theorem Nj{b:Int}(h:fN b=false->65<=b/\b<=90):xb b=true:=by
 unfold xb;cases f:fN b with
 |true=>rfl|false=>simpa using h f
theorem xa{b:Int}(f:fN b=false)(h:b<65\/b>90):xb b=false:=by
 unfold xb;rw[f];simp;omega
theorem IX{b:Int}(h:¬b<97)(f:¬b>122):jh b=true:=qP Z
theorem EF{b:Int}(h:b<97\/b>122):jh b=false:=qV Z
theorem VL(s:ByteArray):aj Tryz.prog G0 196 [.dat S s] [] ⟨True,.dat .bool (bK s),[]⟩:=by
 refine zE (A:=(lvA [(4,[0,2,4,6,22,23,24,41,42]),(10,[0,2,6,41,42])] (aAE s))) (p:=let f:=Fv s;let c1:=Dn (Ej s) 1;let c2:=Di c1;let c3:=Dz c1 true (Ef (Ej s) 16);let j:=Di c3;let c5:=Dz c3 true (Di (jh (Gf s 0)));(True->Q2 c2 ((Dj true c2->c2)/\L5 j ((j->Dp 0 0)/\(j->0<Ej s)/\L5 j ((j->True)/\L5 j ((Dj true j->j)/\(c5->false=bK s/\True)/\(c5=false->(∃x,jQ s x/\Q3 s (Fv s) (Dh f) (0=x/\True))/\∀(x:Int),let z:=Dn x (Dh f);let u:=Dw f (Dc x) 0;let G:=Di (jh u);let h:=Dz G (Di (fN u)) false;let c10:=Dz h (Ea u 95) false;let X:=x+1;jQ s x->(z->0<=x/\x<Dh f/\True/\L5 G ((G->True)/\L5 G ((Dj true G->G)/\L5 h ((Dj true h->h)/\(c10->false=bK s/\True)/\(c10=false->inR .i64 X/\∃y,jQ s y/\(Q3 s (Fv s) (Dh f) (X=y/\True))/\Dc (Ej s-y)<Dc (Ej s-x))))))/\(z=false->Dl kw=17/\(∃xa,qS s xa/\L7 s kw (0=xa/\True))/\∀(xb:Int),let A:=Dn xb 17;let L:=Fz s (Dw kw (Dc xb) (ByteArray.mk #[]));let c14:=xb+1;qS s xb->(A->0<=xb/\xb<Ec 17/\Dl kw=17/\(L->false=bK s/\True)/\(L=false->inR .i64 c14/\∃y,qS s y/\(L7 s kw (c14=y/\True))/\Dc (17-y)<Dc (17-xb)))/\(A=false->true=bK s/\True))))))))) KS1 λ_=>?_;refine Z9 ?_;simp only[qc,xi,mA];refine⟨λ_=>qL _,λh=>Z,λh=>uS λg=>?_,λ⟨⟨h1,h2⟩,h3⟩=>⟨uT s,λx z=>⟨λf=>?_,λhge=>?_⟩⟩⟩;rw[fB]at g;rcases h with h|h;omega;rw[g.2.1]at h;cases h;refine⟨z.1,f,λ⟨⟨b1,b2⟩,b3⟩=>uS λg=>?_,λhb=>⟨⟨by have:=z.1;omega,Z⟩,x+1,uU z f (Lu λq1 q2=>hb ⟨q1,q2⟩),rfl,by have:=z.1;omega⟩⟩;have:=Lt z f (uV b1 b2 b3);rw[(fB.1 g).2.2.1]at this;cases this
 refine⟨rfl,AH s,λy u=>⟨λf=>⟨u.1,Z,rfl,λhe=>uS λg=>?_,λhne=>⟨⟨by have:=u.1;omega,Z⟩,y+1,AI u f hne,rfl,by have:=u.1;omega⟩⟩,λL=>(fB.2 ⟨Z,h3,Ad z hge,Hk u L⟩).symm⟩⟩;have:=Y0 u f he;rw[(fB.1 g).2.2.2]at this;cases this
theorem VN(s:ByteArray):aj Tryz.prog G0 207 [.dat S s] [] ⟨True,.dat .bool (cJ s),[]⟩:=by
 refine zE (A:=(lvA [(4,[2,4,14,15,16])] (aAG s))) (p:=let f:=Fv s;let c1:=Dn (Ej s) 1;let L:=Di c1;let c3:=Dz c1 true (Ef (Ej s) 8);(True->Q2 L ((Dj true L->L)/\(c3->false=cJ s/\True)/\(c3=false->(∃x,kb s x/\L7 (Fv s) (Dh f) (0=x/\True))/\∀(x:Int),let c4:=Dn x (Dh f);let G:=Dw f (Dc x) 0;let h:=Di (fN G);let j:=Dn G 65;let X:=Dz h (Dz j true (Ef G 90)) false;let u:=x+1;kb s x->(c4->0<=x/\x<Dh f/\True/\Q2 h (L5 (Dj h (Di j)) (L5 h ((h->Dj h (Di j)->Dj h (Di j))/\(Dj true h->h)/\(X->false=cJ s/\True)/\(X=false->inR .i64 u/\∃y,kb s y/\(L7 (Fv s) (Dh f) (u=y/\True))/\Dc (Ej s-y)<Dc (Ej s-x))))))/\(c4=false->true=cJ s/\True))))) KS1 λ_=>?_;refine Z9 ?_;simp only[qc,xi,mA];refine⟨λh=>CX λg=>by rw[gq]at g;omega,λ⟨h1,h2⟩=>⟨w8 s,λx u=>⟨λj=>?_,λz=>(gq.2 ⟨Z,AS u z⟩).symm⟩⟩⟩;refine⟨u.1,j,λ⟨b1,b2⟩=>CX λg=>?_,λhb=>⟨⟨by have:=u.1;omega,Z⟩,x+1,w9 u j (Nj λq1=>by have:=hb q1;omega),rfl,by have:=u.1;omega⟩⟩;have:=Nh u j (xa b1 b2);rw[(gq.1 g).2]at this;cases this
theorem aFp(s:ByteArray):aj Tryz.prog G0 252 [.dat S s] [] ⟨True,.dat .bool (isKey s),[]⟩:=by
 refine zE (A:=(lvA [(3,[0,2,3,4])] (aGZ s))) (p:=(True->True/\(∃x,qS s x/\L7 s kw (0=x/\True))/\∀(x:Int),let G:=Dn x (Dh kw);let z:=Fz (Dw kw (Dc x) (ByteArray.mk #[])) s;let u:=x+1;qS s x->(G->0<=x/\x<Dh kw/\(z->true=isKey s/\True)/\(z=false->inR IntKind.i64 u/\∃y,qS s y/\(L7 s kw (u=y/\True))/\Dc (17-y)<Dc (17-x)))/\(G=false->false=isKey s/\True))) KS1 λ_=>?_;refine Z9 ?_;have hl:(kw.length:Int)=17:=rfl;refine⟨AH s,λy f=>⟨λj=>⟨f.1,j,λX=>(Y0 f Z X.symm).symm,λh=>⟨⟨by have:=f.1;omega,Z⟩,y+1,AI f Z (λe=>h e.symm),rfl,by have:=f.1;omega⟩⟩,λL=>(Hk f Z).symm⟩⟩
theorem KS2:ay Tryz.prog G0 K2:=by
 intro f args m c h;unfold K2 at h;split at h;cases h;exact NR _;cases h;exact VL _;cases h;exact VN _;cases h;exact aFp _;exact KS1 _ _ _ _ h
abbrev Hh:=az [.val S] (λ_=>True) λ(s,_)=>.dat .bool (bK s)
theorem aCw:eO 216 Hh:=ae λ((s:ByteArray),_)=>by
 refine zE (A:=(lvA [(4,[0,2,3])] (aCE s))) (p:=let u:=Ej s;let c1:=Dn u 1;let c2:=Di c1;let c3:=Dz c1 true (Ef u 16);let z:=Di c3;let c5:=Gf s 0;let c6:=Dz c3 true (Dn c5 97);let j:=Di c6;let c8:=Dz c6 true (Ef c5 122);let c9:=Di c8;let X:=Dz c8 true (isKey s);(True->Q2 c2 ((Dj true c2->c2)/\L5 z ((z->Dp 0 0)/\(z->0<Ej s)/\L5 z ((Dj true z->z)/\L5 j ((j->Dp 0 0)/\(j->0<Ej s)/\L5 j ((Dj true j->j)/\L5 c9 ((c9->True)/\(Dj true c9->c9)/\(X->false=bK s/\True)/\(X=false->(∃x,jQ s x/\s=s/\0=x/\True)/\∀(x:Int),let L:=Dn (Gf s x) 97;let A:=Di L;let f:=Dz L true (Ef (Gf s x) 122);let h:=Dz f (Di (fN (Gf s x))) false;let c15:=Dz h (Ea (Gf s x) 95) false;let G:=x+1;jQ s x->(Dn x u->0<=x/\x<Ej s/\Q2 A ((A->0<=x)/\(A->x<Ej s)/\L5 A ((Dj true A->A)/\Q2 f ((f->0<=x)/\(f->x<Ej s)/\L5 f ((f->True)/\L5 f ((Dj true f->f)/\Q2 h ((h->0<=x)/\(h->x<Ej s)/\L5 h ((Dj true h->h)/\(c15->false=bK s/\True)/\(c15=false->inR .i64 G/\∃y,jQ s y/\(s=s/\G=y/\True)/\Dc (Ej s-y)<Dc (Ej s-x))))))))))/\(Dn x u=false->true=bK s/\True)))))))))) KS2 λ_=>?_;refine Z9 ?_;refine⟨λ_=>qL _,λh=>Z,λ_=>qL _,λh=>Z,λh=>uS λg=>?_,λ⟨⟨⟨⟨h1,h2⟩,h3⟩,h4⟩,h5⟩=>⟨uT s,λx j=>⟨λf=>?_,λhge=>(fB.2 ⟨Z,IX h3 h4,Ad j hge,h5⟩).symm⟩⟩⟩;obtain⟨g1,g2,g3,g4⟩:=fB.1 g;have g2':=vJ g2;rcases h with h|h;omega;rw[g4]at h;cases h;refine⟨j.1,f,λ_=>j.1,λ_=>f,λ_=>j.1,λ_=>f,λ_=>j.1,λ_=>f,λ⟨⟨b1,b2⟩,b3⟩=>uS λg=>?_,λhb=>⟨⟨by have:=j.1;omega,Z⟩,x+1,uU j f (Lu λq1 q2=>hb ⟨?_,q2⟩),rfl,by have:=j.1;omega⟩⟩
 have:=Lt j f (uV (EF b1) b2 b3);rw[(fB.1 g).2.2.1]at this;cases this;have:=qCd q1;omega
abbrev Hj:=az [.val S] (λ_=>True) λ(s,_)=>.dat .bool (cJ s)
theorem aCx:eO 283 Hj:=ae λ((s:ByteArray),_)=>by
 refine zE (A:=(lvA [(4,[0,2,3])] (aCH s))) (p:=let h:=Ej s;let c1:=Dn h 1;let G:=Di c1;let c3:=Dz c1 true (Ef h 8);(True->Q2 G ((Dj true G->G)/\(c3->false=cJ s/\True)/\(c3=false->(∃x,kb s x/\s=s/\0=x/\True)/\∀(x:Int),let X:=Dn (Gf s x) 65;let u:=Di X;let f:=Dz X true (Ef (Gf s x) 90);let j:=Dz f (Di (fN (Gf s x))) false;let L:=x+1;kb s x->(Dn x h->0<=x/\x<Ej s/\Q2 u ((u->0<=x)/\(u->x<Ej s)/\L5 u ((Dj true u->u)/\Q2 f ((f->0<=x)/\(f->x<Ej s)/\L5 f ((f->True)/\L5 f ((Dj true f->f)/\(j->false=cJ s/\True)/\(j=false->inR .i64 L/\∃y,kb s y/\(s=s/\L=y/\True)/\Dc (Ej s-y)<Dc (Ej s-x))))))))/\(Dn x h=false->true=cJ s/\True))))) KS2 λ_=>?_;refine Z9 ?_;refine⟨λh=>CX λg=>by rw[gq]at g;omega,λ⟨h1,h2⟩=>⟨w8 s,λx j=>⟨λf=>?_,λz=>(gq.2 ⟨Z,AS j z⟩).symm⟩⟩⟩;refine⟨j.1,f,λ_=>j.1,λ_=>f,λ_=>j.1,λ_=>f,λ⟨b1,b2⟩=>CX λg=>?_,λhb=>⟨⟨by have:=j.1;omega,Z⟩,x+1,w9 j f (Nj λq1=>?_),rfl,by have:=j.1;omega⟩⟩;have:=Nh j f (xa b2 b1);rw[(gq.1 g).2]at this;cases this;by_cases hq:Gf s x<65\/Gf s x>90;have:=hb hq;rw[q1]at this;cases this;omega
abbrev Of:Ty:=.pair S (.pair I (.pair I (.pair I (.pair I (.pair I (.sl S))))))
abbrev Ln:Ty:=.pair S (.pair I (.pair I (.pair I (.pair I I))))
abbrev Kl:Ty:=.pair S (.pair I I)
abbrev Fa:Ty:=.pair I (.pair I I)
abbrev N:Ty:=.pair (.sl C) (.pair (.sl S) (.pair (.sl S) (.pair (.sl Of) (.pair (.sl Ln) (.sl Kl)))))
abbrev Off:=ByteArray×Int×Int×Int×Int×Int×List ByteArray
abbrev Lo:=List Off
abbrev Cla:=ByteArray×Int×Int
abbrev Lk:=List Cla
abbrev Net:=List (Int×List Bool×Li)×List ByteArray×List ByteArray×Lo×Ll×Lk
abbrev net(z:LC)(h f:LB)(y:Lo)(j:Ll)(u:Lk):AV:=.agg [.dat (.sl C) z,.dat (.sl S) h,.dat (.sl S) f,.dat (.sl Of) y,.dat (.sl Ln) j,.dat (.sl Kl) u]
def cw(i n:Int):Bool:=decide (0<=i/\i<n)
def idx(i n:Int):Prop:=0<=i/\i<n
def IH(i n:Int):Prop:=0<=i/\i<n/\i<=1000
def gu(l:List ByteArray)(k:Int):Prop:=0<=k/\k<=l.length/\(l.take k.toNat).all cJ=true
def du(n:Net)(o:Off):Bool:=cw o.2.1 n.2.2.1.length&&cw o.2.2.1 n.1.length&&decide (o.2.2.2.2.2.2.length<=20)&&o.2.2.2.2.2.2.all cJ&&cN o.2.2.2.1 2 64&&cN o.2.2.2.2.1 1 4&&cN o.2.2.2.2.2.1 1 240
def dw(n:Net)(l:Line):Bool:=cw l.2.1 n.2.2.2.1.length&&cw l.2.2.1 n.2.2.2.1.length&&decide (l.2.1≠l.2.2.1)&&cN l.2.2.2.1 0 1439&&cN l.2.2.2.2.1 1 5000&&cN l.2.2.2.2.2 1 40
def kO(k:Cla):Bool:=cN k.2.1 0 1439&&cN k.2.2 0 1439
def aF(h:List (Int×List Bool×Li))(f:List ByteArray):List ByteArray:=(List.range h.length).map λi=>f.getD i ⟨#[]⟩
def aI(f:Lo):List ByteArray:=f.map (·.1)
def aJ(f:Ll):List ByteArray:=f.map (·.1)
def aK(f:Lk):List ByteArray:=f.map (·.1)
def bv(f:List (Int×List Bool×Li)):List Bool:=f.map λc=>aW c.1 c.2.1 c.2.2
def cI(f:List ByteArray):List Bool:=f.map λ_=>true
def ew(n:Net):List Bool:=n.2.2.2.1.map (du n)
def dN(n:Net):List Bool:=n.2.2.2.2.1.map (dw n)
def bD(f:Lk):List Bool:=f.map kO
def jC(l:List ByteArray)(i:Int):ByteArray:=l.getD i.toNat ⟨#[]⟩
def bT(l:List ByteArray)(i:Int):Int:=if bK (jC l i)then 0 else 1
def rule2(l:List ByteArray)(i:Int):Int:=if(l.take i.toNat).any (λw=>w.toList==(jC l i).toList)then 4 else 0
def b8(g:List Bool)(i:Int):Int:=if g.getD i.toNat false then 0 else 1
def sN(l:List ByteArray)(i k:Int):Prop:=0<=k/\k<=i/\(l.take k.toNat).any (λw=>w.toList==(jC l i).toList)=false
def b9(l:List ByteArray)(g:List Bool)(i k:Int):Prop:=0<=k/\k<=3/\(0<k->bT l i=0)/\(1<k->rule2 l i=0)/\(2<k->b8 g i=0)
def nL(l:List ByteArray)(g:List Bool)(i:Int):Int:=if bT l i≠0 then bT l i else if rule2 l i≠0 then rule2 l i else b8 g i
def aT(f:Int)(l:List ByteArray)(g:List Bool)(k:Int):List (Int×Int×Int):=(List.range k.toNat).filterMap λi:Nat=>if nL l g i=0 then none else some (f,(i:Int),nL l g i)
def FN(h f:Int)(l:List ByteArray):List (Int×Int×Int):=if f<l.length then[(h,f,2)]else[]
def bH(f h:Int)(l:List ByteArray)(g:List Bool):List (Int×Int×Int):=aT f l g (min l.length h)++FN f h l
def dB(k n f:Int):Prop:=0<=k/\k<=n/\k<=f
def Cj(n:Net):List (Int×Int×Int):=if n.2.1.length=n.1.length then[]else[(1,-1,1)]
def ak(n:Net)(k:Int):List ByteArray:=if k=1 then aF n.1 n.2.1 else if k=2 then n.2.2.1 else if k=3 then aI n.2.2.2.1 else if k=4 then aJ n.2.2.2.2.1 else if k=5 then aK n.2.2.2.2.2 else[]
def fK(n:Net)(k:Int):List Bool:=if k=1 then bv n.1 else if k=2 then cI n.2.2.1 else if k=3 then ew n else if k=4 then dN n else if k=5 then bD n.2.2.2.2.2 else[]
def aD(n:Net)(k:Int):List (Int×Int×Int):=Cj n++(List.range (k.toNat-1)).flatMap λj:Nat=>bH (j+1) (bJ (j+1)) (ak n (j+1)) (fK n (j+1))
def cZ(n:Net):List (Int×Int×Int):=aD n 6
def iq(n:Net):Bool:=decide (n.1.length<=10/\n.2.1.length<=10/\n.2.2.1.length<=10/\n.2.2.2.1.length<=16/\n.2.2.2.2.1.length<=50/\n.2.2.2.2.2.length<=8)
def Ji(n:Net)(o:Off):Prop:=iq n=true/\o.2.2.2.2.2.2.length<=30
abbrev Az:=az [.val I,.val (.sl Of)] (λ_=>True) λ(i,f,_)=>.dat .bool (cw i (Dh f))
abbrev G3:=az [.val I,.val (.sl S)] (λ_=>True) λ(i,f,_)=>.dat .bool (cw i (Dh f))
abbrev G4:=az [.val I,.val (.sl C)] (λ_=>True) λ(i,f,_)=>.dat .bool (cw i (Dh f))
def K3:Kt:=kOr 212 Az <|
 kOr 205 G3 <|
 kOr 206 G4 <|
 kOr 216 Hh <|
 kOr 283 Hj K2
def aDi(l:List ByteArray):Ann:=Z8 4 Int (gu l) (λf k=>put f [(30,.dat I k)]) λk=>Dc (Dk (Dh l) k)
def aFt(l:List ByteArray):Ann:=Z8 2 Int (gu l) (λf k=>put f [(5,.dat I k)]) λk=>Dc (Dk (Dh l) k)
abbrev mc:=az [.row N,.row Of] (λ_=>True) λ(n,o,_)=>.dat .bool (du n o)
abbrev pO:=az [.row N,.row Ln] (λ_=>True) λ(n,l,_)=>.dat .bool (dw n l)
abbrev vA:=az [.row N,.row Of] (λ(n,o,_)=>Ji n o) λ(n,o,_)=>.dat .bool (du n o)
abbrev GZ:=az [.row N,.row Ln] (λ(n,_,_)=>iq n=true) λ(n,l,_)=>.dat .bool (dw n l)
def K4:Kt:=kOr 139 mc <|
 kOr 143 pO <|
 kOr 255 vA <|
 kOr 256 GZ K3
abbrev L9:=az [.val I,.ptr N] (λ(i,(f,h,j,z,u,y),_)=>idx i (Dh f)) λ(i,(f,h,j,z,u,y),_)=>.dat S (jC (aF f h) i)
abbrev L8:=az [.val I,.ptr N] (λ(i,(z,h,f,y,j,u),_)=>idx i (Dh f)) λ(i,(z,h,f,y,j,u),_)=>.dat S (jC (f) i)
abbrev MB:=az [.row S] (λ_=>True) λ_=>.dat .bool true
abbrev L6:=az [.val I,.ptr N] (λ(i,(z,j,h,f,u,y),_)=>idx i (Dh f)) λ(i,(z,j,h,f,u,y),_)=>.dat S (jC (aI f) i)
abbrev MA:=az [.row Of,.ptr N] (λ_=>True) λ(o,n,_)=>.dat .bool (du n o)
abbrev L0:=az [.val I,.ptr N] (λ(i,(z,j,h,y,f,u),_)=>idx i (Dh f)) λ(i,(z,j,h,y,f,u),_)=>.dat S (jC (aJ f) i)
abbrev Me:=az [.row Ln,.ptr N] (λ_=>True) λ(l,n,_)=>.dat .bool (dw n l)
abbrev LZ:=az [.val I,.ptr N] (λ(i,(z,j,h,y,u,f),_)=>idx i (Dh f)) λ(i,(z,j,h,y,u,f),_)=>.dat S (jC (aK f) i)
abbrev Md:=az [.row Kl] (λ_=>True) λ(k,_)=>.dat .bool (kO k)
def K5:Kt:=kOr 131 L9 <|
 kOr 133 L8 <|
 kOr 135 MB <|
 kOr 136 L6 <|
 kOr 138 MA <|
 kOr 140 L0 <|
 kOr 142 Me <|
 kOr 144 LZ <|
 kOr 146 Md K4
def twA(l:List ByteArray)(i:Int):Ann:=Z8 2 Int (sN l i) (λf k=>put f [(6,.dat I k)]) λk=>Dc (Dk i k)
abbrev LY:=az [.val I,.fnp 131 N] (λ(i,(f,h,j,z,u,y),_)=>idx i (Dh f)) λ(i,(f,h,j,z,u,y),_)=>.dat I (bT (aF f h) i)
abbrev LS:=az [.val I,.fnp 131 N] (λ(i,(f,h,j,z,u,y),_)=>IH i (Dh f)) λ(i,(f,h,j,z,u,y),_)=>.dat I (rule2 (aF f h) i)
abbrev LX:=az [.val I,.fnp 133 N] (λ(i,(z,h,f,y,j,u),_)=>idx i (Dh f)) λ(i,(z,h,f,y,j,u),_)=>.dat I (bT (f) i)
abbrev LR:=az [.val I,.fnp 133 N] (λ(i,(z,h,f,y,j,u),_)=>IH i (Dh f)) λ(i,(z,h,f,y,j,u),_)=>.dat I (rule2 (f) i)
abbrev LW:=az [.val I,.fnp 136 N] (λ(i,(z,j,h,f,u,y),_)=>idx i (Dh f)) λ(i,(z,j,h,f,u,y),_)=>.dat I (bT (aI f) i)
abbrev LQ:=az [.val I,.fnp 136 N] (λ(i,(z,j,h,f,u,y),_)=>IH i (Dh f)) λ(i,(z,j,h,f,u,y),_)=>.dat I (rule2 (aI f) i)
abbrev LV:=az [.val I,.fnp 140 N] (λ(i,(z,j,h,y,f,u),_)=>idx i (Dh f)) λ(i,(z,j,h,y,f,u),_)=>.dat I (bT (aJ f) i)
abbrev LP:=az [.val I,.fnp 140 N] (λ(i,(z,j,h,y,f,u),_)=>IH i (Dh f)) λ(i,(z,j,h,y,f,u),_)=>.dat I (rule2 (aJ f) i)
abbrev LU:=az [.val I,.fnp 144 N] (λ(i,(z,j,h,y,u,f),_)=>idx i (Dh f)) λ(i,(z,j,h,y,u,f),_)=>.dat I (bT (aK f) i)
abbrev LO:=az [.val I,.fnp 144 N] (λ(i,(z,j,h,y,u,f),_)=>IH i (Dh f)) λ(i,(z,j,h,y,u,f),_)=>.dat I (rule2 (aK f) i)
def K6:Kt:=
 kOr 195 LY <|
 kOr 197 LS <|
 kOr 198 (az [.val I,.fnp0 127,.ptr (.sl C)] (λ(i,_,j,_)=>idx i (Dh j)) λ(i,_,j,_)=>.dat I (b8 (bv j) i)) <|
 kOr 199 LX <|
 kOr 200 LR <|
 kOr 201 (az [.val I,.fnp0 135,.ptr (.sl S)] (λ(i,_,f,_)=>idx i (Dh f)) λ(i,_,f,_)=>.dat I (b8 (cI f) i)) <|
 kOr 202 LW <|
 kOr 203 LQ <|
 kOr 204 (az [.val I,.fnp 138 N,.ptr (.sl Of)] (λ(i,(j,z,f,y,u,h),A,_)=>idx i (Dh y)/\A=y) λ(i,(j,z,f,y,u,h),_,_)=>.dat I (b8 (ew (j,z,f,y,u,h)) i)) <|
 kOr 209 LV <|
 kOr 210 LP <|
 kOr 211 (az [.val I,.fnp 142 N,.ptr (.sl Ln)] (λ(i,(j,z,f,y,u,h),A,_)=>idx i (Dh u)/\A=u) λ(i,(j,z,f,y,u,h),_,_)=>.dat I (b8 (dN (j,z,f,y,u,h)) i)) <|
 kOr 213 LU <|
 kOr 214 LO <|
 kOr 215 (az [.val I,.fnp0 146,.ptr (.sl Kl)] (λ(i,_,h,_)=>idx i (Dh h)) λ(i,_,h,_)=>.dat I (b8 (bD h) i)) K5
def Ih(f h:Int)(l:List ByteArray)(g:List Bool):Ann:=⟨λj st=>match j with
 |4=>some {α:=Int,inv:=λk=>dB k (Dh l) h,st:=λk=>nU (put st [(25,.dat I k),(12,.buf 100 (Dl (aT f l g k)))]) 100 (.buf 153 Fa (aT f l g k) []),μ:=λk=>Dc (Dk h k)}|7=>match st.sig.T 13 with
  |.dat (.int .i64) i=>some {α:=Int,inv:=λk=>b9 l g i k,st:=λk=>put st [(29,.dat I k),(12,.buf 100 (Dl (aT f l g i)))],μ:=λk=>Dc (Dk 3 k)}|_=>none
 |_=>none,λ_ _=>none,λ_ _=>none⟩
def K7:Kt:=
 kOr 132 (az [.val I,.val I,.val (.sl C),.fn 131 N,.fn0 127] (λ(k,m,A,(j,z,f,y,u,h),_,_)=>k=1/\m=6/\A=j) λ(_,_,_,(j,z,f,y,u,h),_,_)=>.dat (.sl Fa) (bH 1 6 (aF j z) (bv j))) <|
 kOr 134 (az [.val I,.val I,.val (.sl S),.fn 133 N,.fn0 135] (λ(k,m,A,(j,z,f,y,u,h),_,_)=>k=2/\m=6/\A=f) λ(_,_,_,(j,z,f,y,u,h),_,_)=>.dat (.sl Fa) (bH 2 6 (f) (cI f))) <|
 kOr 137 (az [.val I,.val I,.val (.sl Of),.fn 136 N,.fn 138 N] (λ(k,m,A,(j,z,f,y,u,h),G,_)=>k=3/\m=12/\A=y/\G=(j,z,f,y,u,h)) λ(_,_,_,(j,z,f,y,u,h),_,_)=>.dat (.sl Fa) (bH 3 12 (aI y) (ew (j,z,f,y,u,h)))) <|
 kOr 141 (az [.val I,.val I,.val (.sl Ln),.fn 140 N,.fn 142 N] (λ(k,m,A,(j,z,f,y,u,h),G,_)=>k=4/\m=40/\A=u/\G=(j,z,f,y,u,h)) λ(_,_,_,(j,z,f,y,u,h),_,_)=>.dat (.sl Fa) (bH 4 40 (aJ u) (dN (j,z,f,y,u,h)))) <|
 kOr 145 (az [.val I,.val I,.val (.sl Kl),.fn 144 N,.fn0 146] (λ(k,m,A,(j,z,f,y,u,h),_,_)=>k=5/\m=4/\A=h) λ(_,_,_,(j,z,f,y,u,h),_,_)=>.dat (.sl Fa) (bH 5 4 (aK h) (bD h))) <|
 K6
theorem Z4:eO 212 Az:=ae λ((i:Int),(j:List Of.den),_)=>by
 refine zE (A:=aE) (p:=let f:=Eb i 0;let h:=Dh j;(True->Q4 f ((Dj true f->f)/\Dz f (Dn i h) false=cw i h/\True))) KS2 λ_=>?_;simp only[qc,Dj,Et,Di,cw,Eb,Dn,mF,qAg]
theorem aCb:eO 205 G3:=ae λ((i:Int),(h:List S.den),_)=>by
 refine zE (A:=aE) (p:=let f:=Eb i 0;(True->Q4 f ((Dj true f->f)/\Dz f (Dn i (Dh h)) false=cw i (Dh h)/\True))) KS2 λ_=>?_;simp only[qc,Dj,Et,Di,cw,Eb,Dn,mF,qAg]
theorem aCc:eO 206 G4:=ae λ((i:Int),(j:List C.den),_)=>by
 refine zE (A:=aE) (p:=let f:=Eb i 0;let h:=Dh j;(True->Q4 f ((Dj true f->f)/\Dz f (Dn i h) false=cw i h/\True))) KS2 λ_=>?_;simp only[qc,Dj,Et,Di,cw,Eb,Dn,mF,qAg]
theorem KS3:ay Tryz.prog G0 K3:=
 ah Z4<|ah aCb<|ah aCc<|ah aCw<|ah aCx KS2
theorem sE(l:List ByteArray):gu l 0:=⟨qL _,qR _,by simp⟩
theorem sF{l:List ByteArray}{x:Int}(h:gu l x)(u:x<l.length)(f:cJ (l.getD x.toNat ⟨#[]⟩)=true):gu l (x+1):=by
 obtain⟨z,y,j⟩:=h;refine⟨Z,Z,?_⟩;rw[show(x+1).toNat=x.toNat+1 by omega];exact eI (d:=⟨#[]⟩) j Z f
theorem Ie{l:List ByteArray}{x:Int}(h:gu l x)(j:x<l.length)(f:cJ (l.getD x.toNat ⟨#[]⟩)=false):l.all cJ=false:=
 ly (d:=⟨#[]⟩) (k:=x.toNat) (by have:=h.1;omega) f
theorem wT{l:List ByteArray}{x:Int}(h:gu l x)(j:¬x<l.length):l.all cJ=true:=by
 obtain⟨y,u,f⟩:=h;rwa [qO Z]at f
theorem MS{i n:Int}:cN i 0 (n-1)=cw i n:=by
 unfold cN cw;congr 1;exact qBx Z
theorem D4:eO 139 mc:=ae λ(((cs,ns,os,fs,ls,ks):Net),((e1:ByteArray),(e2:Int),(e3:Int),(e4:Int),(e5:Int),(e6:Int),(f:List ByteArray)),_)=>by
 refine zE (A:=(lvA [(4,[3,4,6,28,29,30])] (aDi f))) (p:=let c1:=Di (cw e2 (Dh os));let z:=Di c1;let c3:=Dz c1 true (Di (cw e3 (Dh cs)));let c4:=Di c3;let c5:=Dz c3 true (Ef (Dh f) 20);let j:=(e1,e2,e3,e4,e5,e6,f);let u:=du (cs,ns,os,fs,ls,ks) j;let G:=cN e4 2 64;let h:=Dz G (cN e5 1 4) false;(True->True/\L5 z (Q4 z ((z->True)/\L5 z ((Dj true z->z)/\Q4 c4 ((Dj true c4->c4)/\(c5->false=u/\True)/\(c5=false->(∃x,gu f x/\Q3 j f (Dh f) (0=x/\True))/\∀(x:Int),let X:=Dn x (Dh f);let L:=Di (cJ (Dw f (Dc x) (ByteArray.mk #[])));let A:=x+1;gu f x->(X->0<=x/\x<Dh f/\True/\(L->false=u/\True)/\(L=false->inR .i64 A/\∃y,gu f y/\(Q3 j f (Dh f) (A=y/\True))/\Dc (Dh f-y)<Dc (Dh f-x)))/\(X=false->True/\Q2 G ((G->True)/\(Dj true G->G)/\Q2 h ((h->True)/\(Dj true h->h)/\Dz h (cN e6 1 240) false=u/\True)))))))))) KS3 λ_=>?_;refine Z9 ?_;refine⟨λh=>?_,λ⟨⟨h1,h2⟩,h3⟩=>⟨sE f,λx u=>⟨λj=>⟨u.1,j,λhb=>?_,λhg=>⟨⟨by have:=u.1;omega,Z⟩,x+1,sF u j hg,rfl,by have:=u.1;omega⟩⟩,λhge=>?_⟩⟩⟩;unfold du;rcases h with(h|h)|h;rw[show cw _ _=false from h];rfl;rw[show cw e3 _=false from h];simp;have:decide (f.length<=20)=false:=qV Z;simp[this];have:=Ie u j hb;simp[du,this];have h4:=wT u hge;have h5:decide (f.length<=20)=true:=qP Z;have h1':cw e2 (os.length:Int)=true:=h1;have h2':cw e3 (cs.length:Int)=true:=h2;simp only[du,h1',h2',h4,h5,yM]
theorem Vs:eO 255 vA:=ae λ(((cs,ns,L,fs,ls,ks):Net),((e1:ByteArray),(e2:Int),(e3:Int),(e4:Int),(e5:Int),(e6:Int),(f:List ByteArray)),_)=>by
 refine zE (A:=(lvA [(2,[2,3,4,5,6])] (aFt f))) (p:=let c1:=(cs,ns,L,fs,ls,ks);let c2:=(e1,e2,e3,e4,e5,e6,f);let c3:=du c1 c2;let j:=Eh (Dh f) 20;let c5:=Dh L-1;let u:=Dz j (cN e2 0 c5) false;let A:=Dh cs-1;let c8:=Dz u (cN e3 0 A) false;let z:=Dz c8 (cN e4 2 64) false;let h:=Dz z (cN e5 1 4) false;(Ji c1 c2->(∃x,gu f x/\L7 c1 c2 (0=x/\True))/\∀(x:Int),let c11:=Dn x (Dh f);let G:=Di (cJ (Dw f (Dc x) (ByteArray.mk #[])));let X:=x+1;gu f x->(c11->0<=x/\x<Dh f/\True/\(G->false=c3/\True)/\(G=false->inR .i64 X/\∃y,gu f y/\(L7 c1 c2 (X=y/\True))/\Dc (Dh f-y)<Dc (Dh f-x)))/\(c11=false->L5 j (Q4 j ((j->inR .i64 c5)/\Q2 j ((j->True)/\(Dj true j->j)/\L5 u (Q4 u ((u->inR .i64 A)/\Q2 u ((u->True)/\(Dj true u->u)/\Q2 c8 ((c8->True)/\(Dj true c8->c8)/\Q2 z ((z->True)/\(Dj true z->z)/\Q2 h ((h->True)/\(Dj true h->h)/\Dz h (cN e6 1 240) false=c3/\True)))))))))))) KS3 λG=>?_;obtain⟨hp1,X⟩:=G;have X:f.length<=30:=X;have G:=vJ hp1;refine Z9 ?_;simp only[qc,MS];refine⟨sE f,λx z=>⟨λu=>⟨z.1,u,λhb=>?_,λhg=>⟨⟨by have:=z.1;omega,Z⟩,x+1,sF z u hg,rfl,by have:=z.1;omega⟩⟩,λhge=>⟨λ_=>⟨by have:L.length<=10:=G.2.2.1;omega,by have:L.length<=10:=G.2.2.1;omega⟩,λ_=>⟨by have:cs.length<=10:=G.1;omega,by have:cs.length<=10:=G.1;omega⟩,?_⟩⟩⟩;have:=Ie z u hb;simp[du,this];have h4:=wT z hge;have e:decide ((f.length:Int)<=20)=decide (f.length<=20):=by congr 1;exact qBx Z
 simp only[du,h4,kU,e];cases decide (f.length<=20)<;>cases cw e2 (L.length:Int)<;>cases cw e3 (cs.length:Int)<;>rfl
theorem NM:eO 143 pO:=ae λ(((cs,ns,os,z,ls,ks):Net),((e1:ByteArray),(u:Int),(f:Int),(e4:Int),(e5:Int),(e6:Int)),_)=>by
 refine zE (A:=aE) (p:=let c1:=Dh z;let c2:=Di (cw u c1);let j:=Di c2;let c4:=Dz c2 true (Di (cw f c1));let G:=Di c4;let A:=Dz c4 true (Ee u f);let L:=dw (cs,ns,os,z,ls,ks) (e1,u,f,e4,e5,e6);let y:=cN e4 0 1439;let h:=Dz y (cN e5 1 5000) false;(True->True/\L5 j (Q4 j ((j->True)/\L5 j ((Dj true j->j)/\L5 G (Q4 G ((Dj true G->G)/\(A->false=L/\True)/\(A=false->True/\Q2 y ((y->True)/\(Dj true y->y)/\Q2 h ((h->True)/\(Dj true h->h)/\Dz h (cN e6 1 40) false=L/\True)))))))))) KS3 λ_=>?_;refine Z9 ?_;refine⟨λh=>?_,λ⟨⟨h1,h2⟩,h3⟩=>?_⟩;unfold dw;rcases h with(h|h)|h;rw[show cw _ _=false from h];rfl;rw[show cw f _=false from h];simp;simp[h];have h1':cw u (z.length:Int)=true:=h1;have X:cw f (z.length:Int)=true:=h2;have L:decide (u≠f)=true:=qP h3;simp only[dw,h1',X,L,yM]
theorem aB6:eO 256 GZ:=ae λ(((cs,ns,os,L,ls,ks):Net),((e1:ByteArray),(j:Int),(f:Int),(e4:Int),(e5:Int),(e6:Int)),_)=>by
 refine zE (A:=aE) (p:=let c1:=(cs,ns,os,L,ls,ks);let X:=Dh L-1;let z:=cN j 0 X;let y:=Dz z (cN f 0 X) false;let u:=Dz y (Ea j f) false;let h:=Dz u (cN e4 0 1439) false;let A:=Dz h (cN e5 1 5000) false;(iq c1->inR .i64 X/\True/\Q4 z ((z->True)/\(Dj true z->z)/\L5 y (Q4 y ((Dj true y->y)/\Q2 u ((u->True)/\(Dj true u->u)/\Q2 h ((h->True)/\(Dj true h->h)/\Q2 A ((A->True)/\(Dj true A->A)/\Dz A (cN e6 1 40) false=dw c1 (e1,j,f,e4,e5,e6)/\True)))))))) KS3 λG=>?_;have G:=vJ G;refine Z9 ?_;simp only[qc,MS];refine⟨⟨by have:L.length<=16:=G.2.2.2.1;omega,by have:L.length<=16:=G.2.2.2.1;omega⟩,?_⟩;have e:(j != f)=decide (j≠f):=by cases h:decide (j=f)<;>simp_all
 simp only[dw,e]
theorem KS4:ay Tryz.prog G0 K4:=
 ah D4<|ah NM<|ah Vs<|ah aB6 KS3
theorem fV{α β:Type}(f:α->β)(l:List α)(i:Nat)(d:α)(e:β)(h:i<l.length):(l.map f).getD i e=f (l.getD i d):=by
 simp only[qA,qQ,qB h,yC,vK]
theorem xg{h:List (Int×List Bool×Li)}{f:List ByteArray}{i:Int}(u:0<=i)(j:i<h.length):jC (aF h f) i=f.getD i.toNat ⟨#[]⟩:=by
 unfold jC aF;rw[fV (λi=>f.getD i ⟨#[]⟩) _ _ 0 _ (by rw[yE];omega)];show f.getD ((List.range h.length).getD i.toNat 0) _=_;rw[show(List.range h.length).getD i.toNat 0=i.toNat by rw[qA,zH Z];rfl]
theorem Oc{α:Type}{f:α->ByteArray}{l:List α}{i:Int}(d:α)(j:0<=i)(h:i<l.length):jC (l.map f) i=f (l.getD i.toNat d):=fV _ _ _ _ _ Z
theorem aE1:eO 131 L9:=ae λ((i:Int),((y,f,L,fs,X,ks):Net),_)=>by
 refine zE (A:=aE) (p:=let G:=Dn i (Dh f);let z:=jC (aF y f) i;(idx i (Dh y)->(G->0<=i/\i<Dh f/\Dw f (Dc i) (ByteArray.mk #[])=z/\True)/\(G=false->ByteArray.mk #[]=z/\True))) KS4 λ⟨j,u⟩=>?_;have j:0<=i:=j;have u:i<(y.length:Int):=u;refine Z9 ?_;simp only[qc,xg j u];refine⟨λh=>⟨j,h⟩,λh=>?_⟩;rw[qA,zG Z];rfl
theorem aE0:eO 133 L8:=ae λ((i:Int),((L,u,f,G,y,z):Net),_)=>by
 refine zE (A:=aE) (p:=(idx i (Dh f)->0<=i/\i<Dh f/\Dw f (Dc i) (ByteArray.mk #[])=jC f i/\True)) KS4 λ⟨j,h⟩=>?_;refine Z9 ?_;exact⟨j,h,rfl⟩
theorem aE7:eO 135 MB:=ae λ((f:ByteArray),_)=>zF (c:=mkc K4) (A:=aE) KS4 sJ hm (p:=true/\(True->true/\True)) ⟨rfl,λ_=>⟨rfl,trivial⟩⟩
theorem aEZ:eO 136 L6:=ae λ((i:Int),((X,z,y,f,G,L):Net),_)=>by
 refine zE (A:=aE) (p:=let u:=Dh f;(idx i u->0<=i/\i<u/\(Dw f (Dc i) (ByteArray.mk #[],(0:Int),(0:Int),(0:Int),(0:Int),(0:Int),Du ByteArray)).1=jC (aI f) i/\True)) KS4 λ⟨j,h⟩=>?_;refine Z9 ?_;exact⟨j,h,(Oc _ j h).symm⟩
theorem aE6:eO 138 MA:=ae λ(((e1:ByteArray),(e2:Int),(e3:Int),(X:Int),(L:Int),(G:Int),(z:List ByteArray)),((cs,h,f,y,j,u):Net),_)=>zE (A:=aE) (p:=let c1:=du (cs,h,f,y,j,u) (e1,e2,e3,X,L,G,z);(True->True/\T5 c1)) KS4 λ_=>by simp only[qc,Dj,Et,Di]
theorem aEY:eO 140 L0:=ae λ((i:Int),((X,z,y,L,f,G):Net),_)=>by
 refine zE (A:=aE) (p:=let u:=Dh f;(idx i u->0<=i/\i<u/\(Dw f (Dc i) (ByteArray.mk #[],(0:Int),(0:Int),(0:Int),(0:Int),(0:Int))).1=jC (aJ f) i/\True)) KS4 λ⟨j,h⟩=>?_;refine Z9 ?_;exact⟨j,h,(Oc _ j h).symm⟩
theorem aE5:eO 142 Me:=ae λ(((e1:ByteArray),(e2:Int),(X:Int),(L:Int),(G:Int),(z:Int)),((cs,h,f,y,j,u):Net),_)=>zE (A:=aE) (p:=let c1:=dw (cs,h,f,y,j,u) (e1,e2,X,L,G,z);(True->True/\T5 c1)) KS4 λ_=>by simp only[qc,Dj,Et,Di]
theorem aEX:eO 144 LZ:=ae λ((i:Int),((X,z,y,L,G,f):Net),_)=>by
 refine zE (A:=aE) (p:=let u:=Dh f;(idx i u->0<=i/\i<u/\(Dw f (Dc i) (ByteArray.mk #[],(0:Int),(0:Int))).1=jC (aK f) i/\True)) KS4 λ⟨j,h⟩=>?_;refine Z9 ?_;exact⟨j,h,(Oc _ j h).symm⟩
theorem aE4:eO 146 Md:=ae λ(((u:ByteArray),(j:Int),(h:Int)),_)=>zE (A:=aE) (p:=let f:=cN j 0 1439;(True->True/\Q2 f ((f->True)/\(Dj true f->f)/\Dz f (cN h 0 1439) false=kO (u,j,h)/\True))) KS4 λ_=>by simp only[qc,Dj,Et,Di,kO]
theorem KS5:ay Tryz.prog G0 K5:=
 ah aE1<|ah aE0<|ah aE7<|ah aEZ<|ah aE6<|ah aEY<|ah aE5<|ah aEX<|ah aE4 KS4
theorem jF{l:List ByteArray}{i:Int}(h:0<=i):sN l i 0:=⟨qL _,h,by simp⟩
theorem jG{l:List ByteArray}{i x:Int}(h:sN l i x)(u:x<i)(y:i<l.length)(f:(jC l x).toList≠(jC l i).toList):sN l i (x+1):=by
 obtain⟨A,z,j⟩:=h;refine⟨Z,Z,?_⟩;rw[show(x+1).toNat=x.toNat+1 by omega];exact rp (d:=⟨#[]⟩) j Z (by simpa[jC]using f)
theorem NH{l:List ByteArray}{i x:Int}(h:sN l i x)(y:x<i)(z:i<l.length)(u:(jC l x).toList=(jC l i).toList):4=rule2 l i:=by
 unfold rule2;have j:=h.1;rw[if_pos];have f:x.toNat<(l.take i.toNat).length:=by rw[qM];omega
 refine Zp (d:=⟨#[]⟩) (k:=x.toNat) f ?_;have:(l.take i.toNat).getD x.toNat ⟨#[]⟩=jC l x:=by
  unfold jC;simp only[qA];rw[vW,if_pos Z]
 rw[this];simpa using u
theorem kr{l:List ByteArray}{i x:Int}(h:sN l i x)(j:¬x<i):0=rule2 l i:=by
 obtain⟨y,u,f⟩:=h;have:x=i:=Z;subst this;unfold rule2;rw[f];rfl
theorem o8{α:Type}{g:α->Bool}{l:List α}{i:Int}(d:α)(h:0<=i)(f:i<l.length):b8 (l.map g) i=if g (l.getD i.toNat d)then 0 else 1:=by
 unfold b8;rw[fV g l _ d _ Z]
theorem dW(f:List (Int×List Bool×Li))(h:List ByteArray):(aF f h).length=f.length:=by simp[aF]
theorem map_length{α β:Type}(f:α->β)(l:List α):(l.map f).length=l.length:=vT f
theorem aEW:eO 195 LY:=ae λ((i:Int),((f,j,G,fs,L,X):Net),_)=>by
 refine zE (A:=aE) (p:=let y:=Di (bK (jC (aF f j) i));let u:=bT (aF f j) i;(idx i (Dh f)->idx i (Dh f)/\True/\(y->1=u/\True)/\(y=false->0=u/\True))) KS5 λz=>?_;refine Z9 ?_;exact⟨z,λh=>by simp[bT,h],λh=>by simp[bT,h]⟩
theorem aER:eO 197 LS:=ae λ((i:Int),((f,j,os,fs,ls,ks):Net),_)=>by
 refine zE (A:=(lvA [(2,[0,1,3,4,5,6])] (twA (aF f j) i))) (p:=let h:=aF f j;let X:=Dh f;let c2:=(f,j,os,fs,ls,ks);let c3:=rule2 h i;(IH i X->(∃x,sN h i x/\Q3 i c2 i (0=x/\True))/\∀(x:Int),let c4:=Fz (jC h x) (jC h i);let c5:=x+1;sN h i x->(Dn x i->idx x X/\idx i X/\(c4->4=c3/\True)/\(c4=false->inR IntKind.i64 c5/\∃y,sN h i y/\(Q3 i c2 i (c5=y/\True))/\Dc (i-y)<Dc (i-x)))/\(Dn x i=false->0=c3/\True))) KS5 λz=>?_;have h0:0<=i:=z.1;have h1:i<(f.length:Int):=z.2.1;have h2:i<=1000:=z.2.2;have hl:((aF f j).length:Int)=f.length:=zX _ (dW f j);refine Z9 ?_;exact⟨jF h0,λx h=>⟨λu=>⟨⟨h.1,Z⟩,⟨h0,h1⟩,λhe=>NH h u Z he,λG=>⟨⟨by have:=h.1;omega,Z⟩,x+1,jG h u Z G,rfl,by have:=h.1;omega⟩⟩,λL=>kr h L⟩⟩
theorem aEM(i:Int)(f:LC)(ns X:LB)(fs:Lo)(ls:Ll)(ks:Lk):aj Tryz.prog G0 198 [.dat I i,.ipv (.fn 127 []),.ip (.sl C) f] [] ⟨idx i (Dh f),.dat I (b8 (bv f) i),[]⟩:=by
 refine zE (A:=aE) (p:=let L:=Dh f;let j:=Dw f (Dc i) ((0:Int),Du Bool,Du Int);let G:=Di (aW j.1 j.2.1 j.2.2);(idx i L->0<=i/\i<L/\True/\(G->1=b8 (bv f) i/\True)/\(G=false->0=b8 (bv f) i/\True))) KS5 λu=>?_;have z:0<=i:=u.1;have y:i<(f.length:Int):=u.2;refine Z9 ?_;rw[show b8 (bv f) i=_ from o8 _ z y];exact⟨z,y,λh=>by rw[if_neg (by intro g;rw[show _=false from h]at g;cases g)],λh=>by rw[if_pos h]⟩
theorem aEV:eO 199 LX:=ae λ((i:Int),((X,y,f,L,z,G):Net),_)=>by
 refine zE (A:=aE) (p:=let j:=Di (bK (jC f i));(idx i (Dh f)->idx i (Dh f)/\True/\(j->1=bT f i/\True)/\(j=false->0=bT f i/\True))) KS5 λu=>?_;refine Z9 ?_;exact⟨u,λh=>by simp[bT,h],λh=>by simp[bT,h]⟩
theorem aEQ:eO 200 LR:=ae λ((i:Int),((cs,ns,f,fs,ls,ks):Net),_)=>by
 refine zE (A:=(lvA [(2,[0,1,3,4,5,6])] (twA (f) i))) (p:=let L:=Dh f;let c1:=(cs,ns,f,fs,ls,ks);(IH i L->(∃x,sN f i x/\Q3 i c1 i (0=x/\True))/\∀(x:Int),let c2:=Fz (jC f x) (jC f i);let c3:=x+1;sN f i x->(Dn x i->idx x L/\idx i L/\(c2->4=rule2 f i/\True)/\(c2=false->inR .i64 c3/\∃y,sN f i y/\(Q3 i c1 i (c3=y/\True))/\Dc (i-y)<Dc (i-x)))/\(Dn x i=false->0=rule2 f i/\True))) KS5 λu=>?_;have X:0<=i:=u.1;have h1:i<(f.length:Int):=u.2.1;have h2:i<=1000:=u.2.2;have hl:((f).length:Int)=f.length:=zX _ (rfl);refine Z9 ?_;exact⟨jF X,λx h=>⟨λj=>⟨⟨h.1,Z⟩,⟨X,h1⟩,λhe=>NH h j Z he,λz=>⟨⟨by have:=h.1;omega,Z⟩,x+1,jG h j Z z,rfl,by have:=h.1;omega⟩⟩,λG=>kr h G⟩⟩
theorem aEL(i:Int)(cs:LC)(z f:LB)(X:Lo)(G:Ll)(L:Lk):aj Tryz.prog G0 201 [.dat I i,.ipv (.fn 135 []),.ip (.sl S) f] [] ⟨idx i (Dh f),.dat I (b8 (cI f) i),[]⟩:=by
 refine zE (A:=aE) (p:=(idx i (Dh f)->0<=i/\i<Dh f/\True/\(Di true->1=b8 (cI f) i/\True)/\(Di true=false->0=b8 (cI f) i/\True))) KS5 λj=>?_;have y:0<=i:=j.1;have u:i<(f.length:Int):=j.2;refine Z9 ?_;rw[show b8 (cI f) i=_ from o8 ⟨#[]⟩ y u];exact⟨y,u,(λh=>by cases h),rfl⟩
theorem aEU:eO 202 LW:=ae λ((i:Int),((X,z,y,f,G,L):Net),_)=>by
 refine zE (A:=aE) (p:=let j:=Di (bK (jC (aI f) i));(idx i (Dh f)->idx i (Dh f)/\True/\(j->1=bT (aI f) i/\True)/\(j=false->0=bT (aI f) i/\True))) KS5 λu=>?_;refine Z9 ?_;exact⟨u,λh=>by simp[bT,h],λh=>by simp[bT,h]⟩
theorem aEP:eO 203 LQ:=ae λ((i:Int),((cs,ns,os,f,ls,ks):Net),_)=>by
 refine zE (A:=(lvA [(2,[0,1,3,4,5,6])] (twA (aI f) i))) (p:=let L:=Dh f;let c2:=(cs,ns,os,f,ls,ks);(IH i L->(∃x,sN (aI f) i x/\Q3 i c2 i (0=x/\True))/\∀(x:Int),let c3:=Fz (jC (aI f) x) (jC (aI f) i);let c4:=x+1;sN (aI f) i x->(Dn x i->idx x L/\idx i L/\(c3->4=rule2 (aI f) i/\True)/\(c3=false->inR .i64 c4/\∃y,sN (aI f) i y/\(Q3 i c2 i (c4=y/\True))/\Dc (i-y)<Dc (i-x)))/\(Dn x i=false->0=rule2 (aI f) i/\True))) KS5 λu=>?_;have X:0<=i:=u.1;have h1:i<(f.length:Int):=u.2.1;have h2:i<=1000:=u.2.2;have hl:((aI f).length:Int)=f.length:=zX _ (map_length _ f);refine Z9 ?_;exact⟨jF X,λx h=>⟨λj=>⟨⟨h.1,Z⟩,⟨X,h1⟩,λhe=>NH h j Z he,λz=>⟨⟨by have:=h.1;omega,Z⟩,x+1,jG h j Z z,rfl,by have:=h.1;omega⟩⟩,λG=>kr h G⟩⟩
theorem aEK(i:Int)(L:LC)(y u:LB)(f:Lo)(z:Ll)(G:Lk):aj Tryz.prog G0 204 [.dat I i,.ipv (.fn 138 [.ip N (L,y,u,f,z,G)]),.ip (.sl Of) f] [] ⟨idx i (Dh f),.dat I (b8 (ew (L,y,u,f,z,G)) i),[]⟩:=by
 refine zE (A:=aE) (p:=let c1:=Dh f;let c2:=(L,y,u,f,z,G);let h:=Di (du c2 (Dw f (Dc i) (ByteArray.mk #[],(0:Int),(0:Int),(0:Int),(0:Int),(0:Int),Du ByteArray)));let j:=b8 (ew c2) i;(idx i c1->0<=i/\i<c1/\True/\(h->1=j/\True)/\(h=false->0=j/\True))) KS5 λX=>?_;have h0:0<=i:=X.1;have h1:i<(f.length:Int):=X.2;refine Z9 ?_;rw[show b8 (ew (L,y,u,f,z,G)) i=_ from o8 _ h0 h1];exact⟨h0,h1,λh=>by rw[if_neg (by intro g;rw[show _=false from h]at g;cases g)],λh=>by rw[if_pos h]⟩
theorem aET:eO 209 LV:=ae λ((i:Int),((X,z,y,L,f,G):Net),_)=>by
 refine zE (A:=aE) (p:=let j:=Di (bK (jC (aJ f) i));(idx i (Dh f)->idx i (Dh f)/\True/\(j->1=bT (aJ f) i/\True)/\(j=false->0=bT (aJ f) i/\True))) KS5 λu=>?_;refine Z9 ?_;exact⟨u,λh=>by simp[bT,h],λh=>by simp[bT,h]⟩
theorem aEO:eO 210 LP:=ae λ((i:Int),((cs,ns,os,fs,f,ks):Net),_)=>by
 refine zE (A:=(lvA [(2,[0,1,3,4,5,6])] (twA (aJ f) i))) (p:=let L:=Dh f;let c2:=(cs,ns,os,fs,f,ks);(IH i L->(∃x,sN (aJ f) i x/\Q3 i c2 i (0=x/\True))/\∀(x:Int),let c3:=Fz (jC (aJ f) x) (jC (aJ f) i);let c4:=x+1;sN (aJ f) i x->(Dn x i->idx x L/\idx i L/\(c3->4=rule2 (aJ f) i/\True)/\(c3=false->inR .i64 c4/\∃y,sN (aJ f) i y/\(Q3 i c2 i (c4=y/\True))/\Dc (i-y)<Dc (i-x)))/\(Dn x i=false->0=rule2 (aJ f) i/\True))) KS5 λu=>?_;have X:0<=i:=u.1;have h1:i<(f.length:Int):=u.2.1;have h2:i<=1000:=u.2.2;have hl:((aJ f).length:Int)=f.length:=zX _ (map_length _ f);refine Z9 ?_;exact⟨jF X,λx h=>⟨λj=>⟨⟨h.1,Z⟩,⟨X,h1⟩,λhe=>NH h j Z he,λz=>⟨⟨by have:=h.1;omega,Z⟩,x+1,jG h j Z z,rfl,by have:=h.1;omega⟩⟩,λG=>kr h G⟩⟩
theorem aEJ(i:Int)(G:LC)(u j:LB)(z:Lo)(f:Ll)(y:Lk):aj Tryz.prog G0 211 [.dat I i,.ipv (.fn 142 [.ip N (G,u,j,z,f,y)]),.ip (.sl Ln) f] [] ⟨idx i (Dh f),.dat I (b8 (dN (G,u,j,z,f,y)) i),[]⟩:=by
 refine zE (A:=aE) (p:=let c1:=Dh f;let c2:=(G,u,j,z,f,y);let c8:=Di (dw c2 (Dw f (Dc i) (ByteArray.mk #[],(0:Int),(0:Int),(0:Int),(0:Int),(0:Int))));let h:=b8 (dN c2) i;(idx i c1->0<=i/\i<c1/\True/\(c8->1=h/\True)/\(c8=false->0=h/\True))) KS5 λL=>?_;have h0:0<=i:=L.1;have X:i<(f.length:Int):=L.2;refine Z9 ?_;rw[show b8 (dN (G,u,j,z,f,y)) i=_ from o8 _ h0 X];exact⟨h0,X,λh=>by rw[if_neg (by intro g;rw[show _=false from h]at g;cases g)],λh=>by rw[if_pos h]⟩
theorem aES:eO 213 LU:=ae λ((i:Int),((X,z,y,L,G,f):Net),_)=>by
 refine zE (A:=aE) (p:=let j:=Di (bK (jC (aK f) i));(idx i (Dh f)->idx i (Dh f)/\True/\(j->1=bT (aK f) i/\True)/\(j=false->0=bT (aK f) i/\True))) KS5 λu=>?_;refine Z9 ?_;exact⟨u,λh=>by simp[bT,h],λh=>by simp[bT,h]⟩
theorem aEN:eO 214 LO:=ae λ((i:Int),((cs,ns,os,fs,ls,f):Net),_)=>by
 refine zE (A:=(lvA [(2,[0,1,3,4,5,6])] (twA (aK f) i))) (p:=let L:=Dh f;let c2:=(cs,ns,os,fs,ls,f);(IH i L->(∃x,sN (aK f) i x/\Q3 i c2 i (0=x/\True))/\∀(x:Int),let c3:=Fz (jC (aK f) x) (jC (aK f) i);let c4:=x+1;sN (aK f) i x->(Dn x i->idx x L/\idx i L/\(c3->4=rule2 (aK f) i/\True)/\(c3=false->inR .i64 c4/\∃y,sN (aK f) i y/\(Q3 i c2 i (c4=y/\True))/\Dc (i-y)<Dc (i-x)))/\(Dn x i=false->0=rule2 (aK f) i/\True))) KS5 λu=>?_;have X:0<=i:=u.1;have h1:i<(f.length:Int):=u.2.1;have h2:i<=1000:=u.2.2;have hl:((aK f).length:Int)=f.length:=zX _ (map_length _ f);refine Z9 ?_;exact⟨jF X,λx h=>⟨λj=>⟨⟨h.1,Z⟩,⟨X,h1⟩,λhe=>NH h j Z he,λz=>⟨⟨by have:=h.1;omega,Z⟩,x+1,jG h j Z z,rfl,by have:=h.1;omega⟩⟩,λG=>kr h G⟩⟩
theorem aEI(i:Int)(cs:LC)(X L:LB)(fs:Lo)(ls:Ll)(f:Lk):aj Tryz.prog G0 215 [.dat I i,.ipv (.fn 146 []),.ip (.sl Kl) f] [] ⟨idx i (Dh f),.dat I (b8 (bD f) i),[]⟩:=by
 refine zE (A:=aE) (p:=let G:=Dh f;let z:=Di (kO (Dw f (Dc i) (ByteArray.mk #[],(0:Int),(0:Int))));(idx i G->0<=i/\i<G/\True/\(z->1=b8 (bD f) i/\True)/\(z=false->0=b8 (bD f) i/\True))) KS5 λj=>?_;have y:0<=i:=j.1;have u:i<(f.length:Int):=j.2;refine Z9 ?_;rw[show b8 (bD f) i=_ from o8 _ y u];exact⟨y,u,λh=>by rw[if_neg (by intro g;rw[show _=false from h]at g;cases g)],λh=>by rw[if_pos h]⟩
theorem Jz(f:Int)(l:List ByteArray)(g:List Bool):aT f l g 0=[]:=rfl
theorem mO(f:Int)(l:List ByteArray)(g:List Bool)(k:Int):(aT f l g k).length<=k.toNat:=by
 unfold aT;exact vS (qCq _ _) (by rw[yE];exact qN _)
theorem qD{f:Int}{l:List ByteArray}{g:List Bool}{k:Int}(j:0<=k)(h:nL l g k≠0):aT f l g (k+1)=aT f l g k++[(f,k,nL l g k)]:=by
 unfold aT;rw[show(k+1).toNat=k.toNat+1 by omega,yK,qAm];simp[vX j,h]
theorem vD{f:Int}{l:List ByteArray}{g:List Bool}{k:Int}(j:0<=k)(h:nL l g k=0):aT f l g (k+1)=aT f l g k:=by
 unfold aT;rw[show(k+1).toNat=k.toNat+1 by omega,yK,qAm];simp[vX j,h]
theorem VY{l:List ByteArray}{g:List Bool}{i j:Int}(h:b9 l g i j)(A:j<3)(f:[bT l i,rule2 l i,b8 g i].getD j.toNat 0≠0):[bT l i,rule2 l i,b8 g i].getD j.toNat 0=nL l g i:=by
 obtain⟨G,_,u,z,_⟩:=h;have y:j=0\/j=1\/j=2:=Z;unfold nL;rcases y with rfl|rfl|rfl;have f:bT l i≠0:=f;rw[if_pos f];rfl;have f:rule2 l i≠0:=f;rw[if_neg (by simp[u]),if_pos f];rfl;rw[if_neg (by simp[u]),if_neg (by simp[z])];rfl
theorem NT{l:List ByteArray}{g:List Bool}{i j:Int}(h:b9 l g i j)(A:j<3)(f:[bT l i,rule2 l i,b8 g i].getD j.toNat 0=0):b9 l g i (j+1):=by
 obtain⟨L,_,u,z,G⟩:=h;have y:j=0\/j=1\/j=2:=Z;rcases y with rfl|rfl|rfl;exact⟨Z,Z,λ_=>f,λh=>Z,λh=>Z⟩;exact⟨Z,Z,λ_=>u Z,λ_=>f,λh=>Z⟩;exact⟨Z,Z,λ_=>u Z,λ_=>z Z,λ_=>f⟩
theorem Q7{l:List ByteArray}{g:List Bool}{i j:Int}(h:b9 l g i j)(z:¬j<3):nL l g i=0:=by
 obtain⟨A,_,y,u,f⟩:=h;unfold nL;rw[if_neg (by simp[y Z]),if_neg (by simp[u Z]),f Z]
theorem Ig{f j:Int}{l:List ByteArray}{g:List Bool}{m:Nat}(hm:l.length=m)(h1:0<=j)(h2:j<=100):
  (∃x,dB x (l.length:Int) j/\(aT f l g x).length=0/\aT f l g x=[]/\0=x/\aT f l g x=[])/\
  ∀(x:Int),dB x (l.length:Int) j->
    (x<min (m:Int) j->
      b9 l g x 0/\∀(z:Int),b9 l g x z->
         (z<3->0<=z/\z<(3:Nat)/\(z.toNat=0->idx x m)/\(z.toNat=1->IH x m)/\(z.toNat=2->idx x m)/\
                ([bT l x,rule2 l x,b8 g x].getD z.toNat 0≠0->
                  ((aT f l g x).length+[(f,x,[bT l x,rule2 l x,b8 g x].getD z.toNat 0)].length)*24<=140737488355328/\
                   (aT f l g x).length+[(f,x,[bT l x,rule2 l x,b8 g x].getD z.toNat 0)].length<=9223372036854775807/\
                    inR .i64 (x+1)/\
                     ∃y,dB y (l.length:Int) j/\
                       ((aT f l g x).length+[(f,x,[bT l x,rule2 l x,b8 g x].getD z.toNat 0)].length=(aT f l g y).length/\
                         x+1=y/\aT f l g x++[(f,x,[bT l x,rule2 l x,b8 g x].getD z.toNat 0)]=aT f l g y)/\
                        (j-y).toNat<(j-x).toNat)/\
                 ([bT l x,rule2 l x,b8 g x].getD z.toNat 0=0->inR .i64 (z+1)/\∃y,b9 l g x y/\z+1=y/\(3-y).toNat<(3-z).toNat))/\
          (¬z<3->inR .i64 (x+1)/\∃y,dB y (l.length:Int) j/\((aT f l g x).length=(aT f l g y).length/\x+1=y/\aT f l g x=aT f l g y)/\(j-y).toNat<(j-x).toNat))/\
     (¬x<min (m:Int) j->
      ((m:Int)>j->((aT f l g x).length+[(f,j,(2:Int))].length)*24<=140737488355328/\
         (aT f l g x).length+[(f,j,(2:Int))].length<=9223372036854775807/\
          (aT f l g x++[(f,j,2)]).length=(aT f l g x).length+[(f,j,(2:Int))].length/\
           aT f l g x++[(f,j,2)]=bH f j l g)/\
       (¬(m:Int)>j->aT f l g x=bH f j l g)):=by
 subst hm;refine⟨⟨0,⟨qL _,qR _,h1⟩,rfl,rfl,rfl,rfl⟩,λx ⟨A,x1,x2⟩=>⟨λhlt=>⟨⟨qL _,by decide,λh=>Z,λh=>Z,λh=>Z⟩,λz G=>⟨λu=>?_,λu=>?_⟩⟩,λhge=>?_⟩⟩;have hk:=mO f l g x;refine⟨G.1,Z,λ_=>⟨A,Z⟩,λ_=>⟨A,Z,Z⟩,λ_=>⟨A,Z⟩,λL=>?_,λL=>⟨⟨by have:=G.1;omega,Z⟩,z+1,NT G u L,rfl,by have:=G.1;omega⟩⟩;have e:=VY G u L;rw[e]at L ⊢;refine⟨by simp only[qX];omega,by simp only[qX];omega,⟨Z,Z⟩,x+1,⟨Z,Z,Z⟩,⟨?_,rfl,(qD A L).symm⟩,Z⟩;rw[qD A L,qG];have e:=Q7 G u;exact⟨⟨Z,Z⟩,x+1,⟨Z,Z,Z⟩,⟨by rw[vD A e],rfl,(vD A e).symm⟩,Z⟩;have hk:=mO f l g x;have X:x=min (l.length:Int) j:=Z;refine⟨λh=>⟨by simp only[qX];omega,by simp only[qX];omega,qG,?_⟩,λh=>?_⟩;unfold bH FN;rw[if_pos Z,<- X];unfold bH FN;rw[if_neg Z,<- X,vZ]
theorem KS6:ay Tryz.prog G0 K6:=
 ah aEW<|ah aER<|ah (ae λ(i,_,y,_)=>aEM i y [] [] [] [] [])<|ah aEV<|ah aEQ<|ah (ae λ(i,_,j,_)=>aEL i [] [] j [] [] [])<|ah aEU<|ah aEP<|ah (ae λ(i,(y,G,j,A,z,u),f,_)=>aj.of_pre λ(h:idx i (Dh A)/\f=A)=>by obtain⟨h,rfl⟩:=h;exact(aEK i y G j f z u).weaken λ_=>h)<|ah aET<|ah aEO<|ah (ae λ(i,(y,G,j,A,z,u),f,_)=>aj.of_pre λ(h:idx i (Dh z)/\f=z)=>by obtain⟨h,rfl⟩:=h;exact(aEJ i y G j A f u).weaken λ_=>h)<|ah aES<|ah aEN<|ah (ae λ(i,_,u,_)=>aEI i [] [] [] [] [] u) KS5
theorem aFh(f:LC)(L os:LB)(fs:Lo)(ls:Ll)(ks:Lk):aj Tryz.prog G0 132 [.dat I 1,.dat I 6,.dat (.sl C) f,.fn 131 [.ip N (f,L,os,fs,ls,ks)],.fn 127 []] [] ⟨True,.dat (.sl Fa) (bH 1 6 (aF f L) (bv f)),[]⟩:=by
 refine zE (A:=(lvA [(4,[0,1,7,10,11,12,13,15,16,24,25,28,29]),(7,[0,1,7,10,11,12,13,15,16,24,25,28,29])] (Ih 1 6 (aF f L) (bv f)))) (p:=let j:=aF f L;let c1:=Dh f;let G:=Eu c1 6;let z:=(f,L,os,fs,ls,ks);let c4:=Ef c1 6;let c5:=[((1:Int),(6:Int),(2:Int))];let c6:=bH 1 6 j (bv f);(True->L7 1 0 ((∃x,let c7:=aT 1 j (bv f) x;dB x (Dh j) 6/\T7 (1:Int) (6:Int) f Z0 1 0 0 (Dl c7=0/\c7=Du (Int×Int×Int)/\G=G/\0=x/\Q3 z z f (c7=Du (Int×Int×Int)/\True)))/\∀(x:Int),let c8:=Dh j;let A:=aT 1 j (bv f) x;let u:=Dl A;let c12:=x+1;let c13:=u+Dl c5;let c14:=Ei A c5;dB x c8 6->(Dn x G->L7 1 0 ((∃h,b9 j (bv f) x h/\L4 (1:Int) (6:Int) f Z0 1 0 0 u x (T6 G x z z f (0=h/\k8 z z f A)))/\∀(h:Int),let c15:=Dn h 3;let c16:=Dw [bT j x,rule2 j x,b8 (bv f) x] (Dc h) 0;let c17:=Ea c16 0;let c18:=[((1:Int),x,c16)];let X:=u+Dl c18;let c20:=h+1;b9 j (bv f) x h->(c15->0<=h/\h<Ec 3/\(Dc h=0->idx x c1)/\(Dc h=1->IH x c1)/\(Dc h=2->idx x c1)/\(c17->u=u/\(X*24)<=140737488355328/\X<=9223372036854775807/\inR .i64 c12/\∃y,let c21:=aT 1 j (bv f) y;dB y c8 6/\(T7 (1:Int) (6:Int) f Z0 1 0 0 (X=Dl c21/\G=G/\c12=y/\Q3 z z f (Ei A c18=c21/\True)))/\Dc (6-y)<Dc (6-x))/\(c17=false->inR .i64 c20/\∃y,b9 j (bv f) x y/\(L4 (1:Int) (6:Int) f Z0 1 0 0 u x (T6 G x z z f (c20=y/\k8 z z f A)))/\Dc (3-y)<Dc (3-h)))/\(c15=false->inR .i64 c12/\∃y,let c22:=aT 1 j (bv f) y;
  dB y c8 6/\(T7 (1:Int) (6:Int) f Z0 1 0 0 (u=Dl c22/\G=G/\c12=y/\Q3 z z f (A=c22/\True)))/\Dc (6-y)<Dc (6-x))))/\(Dn x G=false->(c4->u=u/\(c13*24)<=140737488355328/\c13<=9223372036854775807/\Dl c14=c13/\c14=c6/\True)/\(c4=false->u=u/\A=c6/\True))))) KS6 λ_=>?_
 have hm:(aF f L).length=f.length:=dW f L;refine Z9 ?_;exact Ig hm (by decide) (by decide)
theorem aFg(cs:LC)(ns f:LB)(fs:Lo)(ls:Ll)(ks:Lk):aj Tryz.prog G0 134 [.dat I 2,.dat I 6,.dat (.sl S) f,.fn 133 [.ip N (cs,ns,f,fs,ls,ks)],.fn 135 []] [] ⟨True,.dat (.sl Fa) (bH 2 6 (f) (cI f)),[]⟩:=by
 refine zE (A:=(lvA [(4,[0,1,7,10,11,12,13,15,16,24,25,28,29]),(7,[0,1,7,10,11,12,13,15,16,24,25,28,29])] (Ih 2 6 (f) (cI f)))) (p:=let A:=Dh f;let z:=Eu A 6;let j:=(cs,ns,f,fs,ls,ks);let c3:=Ef A 6;let c4:=[((2:Int),(6:Int),(2:Int))];let c5:=bH 2 6 f (cI f);(True->L7 1 0 ((∃x,let c6:=aT 2 f (cI f) x;dB x A 6/\T7 (2:Int) (6:Int) f Z0 1 0 0 (Dl c6=0/\c6=Du (Int×Int×Int)/\z=z/\0=x/\Q3 j j f (c6=Du (Int×Int×Int)/\True)))/\∀(x:Int),let c7:=aT 2 f (cI f) x;let u:=Dl c7;let G:=x+1;let X:=u+Dl c4;let c12:=Ei c7 c4;dB x A 6->(Dn x z->L7 1 0 ((∃h,b9 f (cI f) x h/\L4 (2:Int) (6:Int) f Z0 1 0 0 u x (T6 z x j j f (0=h/\k8 j j f c7)))/\∀(h:Int),let c13:=Dn h 3;let c14:=Dw [bT f x,rule2 f x,b8 (cI f) x] (Dc h) 0;let c15:=Ea c14 0;let c16:=[((2:Int),x,c14)];let L:=u+Dl c16;let c18:=h+1;b9 f (cI f) x h->(c13->0<=h/\h<Ec 3/\(Dc h=0->idx x A)/\(Dc h=1->IH x A)/\(Dc h=2->idx x A)/\(c15->u=u/\(L*24)<=140737488355328/\L<=9223372036854775807/\inR .i64 G/\∃y,let c19:=aT 2 f (cI f) y;dB y A 6/\(T7 (2:Int) (6:Int) f Z0 1 0 0 (L=Dl c19/\z=z/\G=y/\Q3 j j f (Ei c7 c16=c19/\True)))/\Dc (6-y)<Dc (6-x))/\(c15=false->inR .i64 c18/\∃y,b9 f (cI f) x y/\(L4 (2:Int) (6:Int) f Z0 1 0 0 u x (T6 z x j j f (c18=y/\k8 j j f c7)))/\Dc (3-y)<Dc (3-h)))/\(c13=false->inR IntKind.i64 G/\∃y,let c20:=aT 2 f (cI f) y;
  dB y A 6/\(T7 (2:Int) (6:Int) f Z0 1 0 0 (u=Dl c20/\z=z/\G=y/\Q3 j j f (c7=c20/\True)))/\Dc (6-y)<Dc (6-x))))/\(Dn x z=false->(c3->u=u/\(X*24)<=140737488355328/\X<=9223372036854775807/\Dl c12=X/\c12=c5/\True)/\(c3=false->u=u/\c7=c5/\True))))) KS6 λ_=>?_
 have hm:(f).length=f.length:=rfl;refine Z9 ?_;exact Ig hm (by decide) (by decide)
theorem aFf(cs:LC)(ns os:LB)(f:Lo)(ls:Ll)(ks:Lk):aj Tryz.prog G0 137 [.dat I 3,.dat I 12,.dat (.sl Of) f,.fn 136 [.ip N (cs,ns,os,f,ls,ks)],.fn 138 [.ip N (cs,ns,os,f,ls,ks)]] [] ⟨True,.dat (.sl Fa) (bH 3 12 (aI f) (ew (cs,ns,os,f,ls,ks))),[]⟩:=by
 refine zE (A:=(lvA [(4,[0,1,7,10,11,12,13,15,16,24,25,28,29]),(7,[0,1,7,10,11,12,13,15,16,24,25,28,29])] (Ih 3 12 (aI f) (ew (cs,ns,os,f,ls,ks))))) (p:=let L:=Dh (aI f);let u:=(cs,ns,os,f,ls,ks);let G:=ew u;let c3:=Dh f;let z:=Eu c3 12;let c5:=Ef c3 12;let c6:=[((3:Int),(12:Int),(2:Int))];let c7:=bH 3 12 (aI f) G;(True->L7 1 0 ((∃x,let c8:=aT 3 (aI f) G x;dB x L 12/\T7 (3:Int) (12:Int) f Z0 1 0 0 (Dl c8=0/\c8=Du (Int×Int×Int)/\z=z/\0=x/\T4 u u u f (c8=Du (Int×Int×Int)/\True)))/\∀(x:Int),let A:=aT 3 (aI f) G x;let j:=Dl A;let c12:=x+1;let c13:=j+Dl c6;let c14:=Ei A c6;dB x L 12->(Dn x z->L7 1 0 ((∃h,b9 (aI f) G x h/\L4 (3:Int) (12:Int) f Z0 1 0 0 j x (w6 z x u u u f (0=h/\d8 u u u f A)))/\∀(h:Int),let c15:=Dn h 3;let c16:=Dw [bT (aI f) x,rule2 (aI f) x,b8 G x] (Dc h) 0;let c17:=Ea c16 0;let c18:=[((3:Int),x,c16)];let X:=j+Dl c18;let c20:=h+1;b9 (aI f) G x h->(c15->0<=h/\h<Ec 3/\(Dc h=0->idx x c3)/\(Dc h=1->IH x c3)/\(Dc h=2->idx x c3/\f=f)/\(c17->j=j/\(X*24)<=140737488355328/\X<=9223372036854775807/\inR .i64 c12/\∃y,let c21:=aT 3 (aI f) G y;dB y L 12/\(T7 (3:Int) (12:Int) f Z0 1 0 0 (X=Dl c21/\z=z/\c12=y/\T4 u u u f (Ei A c18=c21/\True)))/\Dc (12-y)<Dc (12-x))/\(c17=false->inR .i64 c20/\∃y,b9 (aI f) G x y/\(L4 (3:Int) (12:Int) f Z0 1 0 0 j x (w6 z x u u u f (c20=y/\d8 u u u f A)))/\Dc (3-y)<Dc (3-h)))/\(c15=false->inR .i64 c12/\∃y,let c22:=aT 3 (aI f) G y;
  dB y L 12/\(T7 (3:Int) (12:Int) f Z0 1 0 0 (j=Dl c22/\z=z/\c12=y/\T4 u u u f (A=c22/\True)))/\Dc (12-y)<Dc (12-x))))/\(Dn x z=false->(c5->j=j/\(c13*24)<=140737488355328/\c13<=9223372036854775807/\Dl c14=c13/\c14=c7/\True)/\(c5=false->j=j/\A=c7/\True))))) KS6 λ_=>?_
 have hm:(aI f).length=f.length:=map_length _ f;refine Z9 ?_;exact Ig hm (by decide) (by decide)
theorem aFe(cs:LC)(ns os:LB)(fs:Lo)(f:Ll)(ks:Lk):aj Tryz.prog G0 141 [.dat I 4,.dat I 40,.dat (.sl Ln) f,.fn 140 [.ip N (cs,ns,os,fs,f,ks)],.fn 142 [.ip N (cs,ns,os,fs,f,ks)]] [] ⟨True,.dat (.sl Fa) (bH 4 40 (aJ f) (dN (cs,ns,os,fs,f,ks))),[]⟩:=by
 refine zE (A:=(lvA [(4,[0,1,7,10,11,12,13,15,16,24,25,28,29]),(7,[0,1,7,10,11,12,13,15,16,24,25,28,29])] (Ih 4 40 (aJ f) (dN (cs,ns,os,fs,f,ks))))) (p:=let L:=Dh (aJ f);let u:=(cs,ns,os,fs,f,ks);let G:=dN u;let c3:=Dh f;let z:=Eu c3 40;let c5:=Ef c3 40;let c6:=[((4:Int),(40:Int),(2:Int))];let c7:=bH 4 40 (aJ f) G;(True->L7 1 0 ((∃x,let c8:=aT 4 (aJ f) G x;dB x L 40/\T7 (4:Int) (40:Int) f Z0 1 0 0 (Dl c8=0/\c8=Du (Int×Int×Int)/\z=z/\0=x/\T4 u u u f (c8=Du (Int×Int×Int)/\True)))/\∀(x:Int),let A:=aT 4 (aJ f) G x;let j:=Dl A;let c12:=x+1;let c13:=j+Dl c6;let c14:=Ei A c6;dB x L 40->(Dn x z->L7 1 0 ((∃h,b9 (aJ f) G x h/\L4 (4:Int) (40:Int) f Z0 1 0 0 j x (w6 z x u u u f (0=h/\d8 u u u f A)))/\∀(h:Int),let c15:=Dn h 3;let c16:=Dw [bT (aJ f) x,rule2 (aJ f) x,b8 G x] (Dc h) 0;let c17:=Ea c16 0;let c18:=[((4:Int),x,c16)];let X:=j+Dl c18;let c20:=h+1;b9 (aJ f) G x h->(c15->0<=h/\h<Ec 3/\(Dc h=0->idx x c3)/\(Dc h=1->IH x c3)/\(Dc h=2->idx x c3/\f=f)/\(c17->j=j/\(X*24)<=140737488355328/\X<=9223372036854775807/\inR .i64 c12/\∃y,let c21:=aT 4 (aJ f) G y;dB y L 40/\(T7 (4:Int) (40:Int) f Z0 1 0 0 (X=Dl c21/\z=z/\c12=y/\T4 u u u f (Ei A c18=c21/\True)))/\Dc (40-y)<Dc (40-x))/\(c17=false->inR .i64 c20/\∃y,b9 (aJ f) G x y/\(L4 (4:Int) (40:Int) f Z0 1 0 0 j x (w6 z x u u u f (c20=y/\d8 u u u f A)))/\Dc (3-y)<Dc (3-h)))/\(c15=false->inR .i64 c12/\∃y,let c22:=aT 4 (aJ f) G y;
  dB y L 40/\(T7 (4:Int) (40:Int) f Z0 1 0 0 (j=Dl c22/\z=z/\c12=y/\T4 u u u f (A=c22/\True)))/\Dc (40-y)<Dc (40-x))))/\(Dn x z=false->(c5->j=j/\(c13*24)<=140737488355328/\c13<=9223372036854775807/\Dl c14=c13/\c14=c7/\True)/\(c5=false->j=j/\A=c7/\True))))) KS6 λ_=>?_
 have hm:(aJ f).length=f.length:=map_length _ f;refine Z9 ?_;exact Ig hm (by decide) (by decide)
theorem aFd(cs:LC)(ns os:LB)(fs:Lo)(ls:Ll)(f:Lk):aj Tryz.prog G0 145 [.dat I 5,.dat I 4,.dat (.sl Kl) f,.fn 144 [.ip N (cs,ns,os,fs,ls,f)],.fn 146 []] [] ⟨True,.dat (.sl Fa) (bH 5 4 (aK f) (bD f)),[]⟩:=by
 refine zE (A:=(lvA [(4,[0,1,7,10,11,12,13,15,16,24,25,28,29]),(7,[0,1,7,10,11,12,13,15,16,24,25,28,29])] (Ih 5 4 (aK f) (bD f)))) (p:=let G:=Dh (aK f);let c1:=Dh f;let u:=Eu c1 4;let j:=(cs,ns,os,fs,ls,f);let c4:=Ef c1 4;let c5:=[((5:Int),(4:Int),(2:Int))];let c6:=bH 5 4 (aK f) (bD f);(True->L7 1 0 ((∃x,let c7:=aT 5 (aK f) (bD f) x;dB x G 4/\T7 (5:Int) (4:Int) f Z0 1 0 0 (Dl c7=0/\c7=Du (Int×Int×Int)/\u=u/\0=x/\Q3 j j f (c7=Du (Int×Int×Int)/\True)))/\∀(x:Int),let L:=aT 5 (aK f) (bD f) x;let A:=Dl L;let z:=x+1;let c12:=A+Dl c5;let c13:=Ei L c5;dB x G 4->(Dn x u->L7 1 0 ((∃h,b9 (aK f) (bD f) x h/\L4 (5:Int) (4:Int) f Z0 1 0 0 A x (T6 u x j j f (0=h/\k8 j j f L)))/\∀(h:Int),let c14:=Dn h 3;let c15:=Dw [bT (aK f) x,rule2 (aK f) x,b8 (bD f) x] (Dc h) 0;let c16:=Ea c15 0;let c17:=[((5:Int),x,c15)];let X:=A+Dl c17;let c19:=h+1;b9 (aK f) (bD f) x h->(c14->0<=h/\h<Ec 3/\(Dc h=0->idx x c1)/\(Dc h=1->IH x c1)/\(Dc h=2->idx x c1)/\(c16->A=A/\(X*24)<=140737488355328/\X<=9223372036854775807/\inR .i64 z/\∃y,let c20:=aT 5 (aK f) (bD f) y;dB y G 4/\(T7 (5:Int) (4:Int) f Z0 1 0 0 (X=Dl c20/\u=u/\z=y/\Q3 j j f (Ei L c17=c20/\True)))/\Dc (4-y)<Dc (4-x))/\(c16=false->inR .i64 c19/\∃y,b9 (aK f) (bD f) x y/\(L4 (5:Int) (4:Int) f Z0 1 0 0 A x (T6 u x j j f (c19=y/\k8 j j f L)))/\Dc (3-y)<Dc (3-h)))/\(c14=false->inR .i64 z/\∃y,let c21:=aT 5 (aK f) (bD f) y;
  dB y G 4/\(T7 (5:Int) (4:Int) f Z0 1 0 0 (A=Dl c21/\u=u/\z=y/\Q3 j j f (L=c21/\True)))/\Dc (4-y)<Dc (4-x))))/\(Dn x u=false->(c4->A=A/\(c12*24)<=140737488355328/\c12<=9223372036854775807/\Dl c13=c12/\c13=c6/\True)/\(c4=false->A=A/\L=c6/\True))))) KS6 λ_=>?_
 have hm:(aK f).length=f.length:=map_length _ f;refine Z9 ?_;exact Ig hm (by decide) (by decide)
theorem KS7:ay Tryz.prog G0 K7:=
 ah (ae λ(k,m,f,(G,u,j,A,y,z),_,_)=>aj.of_pre λ(h:k=1/\m=6/\f=G)=>by obtain⟨rfl,rfl,rfl⟩:=h;exact((aFh f u j A y z).weaken λ_=>trivial)) <|
 ah (ae λ(k,m,f,(G,u,j,A,y,z),_,_)=>aj.of_pre λ(h:k=2/\m=6/\f=j)=>by obtain⟨rfl,rfl,rfl⟩:=h;exact((aFg G u f A y z).weaken λ_=>trivial)) <|
 ah (ae λ(k,m,f,(G,u,j,A,y,z),L,_)=>aj.of_pre λ(h:k=3/\m=12/\f=A/\L=(G,u,j,A,y,z))=>by obtain⟨rfl,rfl,rfl,rfl⟩:=h;exact((aFf G u j f y z).weaken λ_=>trivial)) <|
 ah (ae λ(k,m,f,(G,u,j,A,y,z),L,_)=>aj.of_pre λ(h:k=4/\m=40/\f=y/\L=(G,u,j,A,y,z))=>by obtain⟨rfl,rfl,rfl,rfl⟩:=h;exact((aFe G u j A f z).weaken λ_=>trivial)) <|
 ah (ae λ(k,m,f,(G,u,j,A,y,z),_,_)=>aj.of_pre λ(h:k=5/\m=4/\f=z)=>by obtain⟨rfl,rfl,rfl⟩:=h;exact((aFd G u j A y f).weaken λ_=>trivial))<|KS6
theorem jS(j f:Int)(l:List ByteArray)(g:List Bool)(h:0<=f):(bH j f l g).length<=f.toNat+1:=by
 unfold bH FN;have:=mO j l g (min l.length f);rw[qG];split<;>simp only[qX,yR]<;>omega
theorem AP(j:LC)(u f:LB)(z:Lo)(y:Ll)(h:Lk):cZ (j,u,f,z,y,h)=Cj (j,u,f,z,y,h)++(bH 1 6 (aF j u) (bv j)++(bH 2 6 f (cI f)++(bH 3 12 (aI z) (ew (j,u,f,z,y,h))++(bH 4 40 (aJ y) (dN (j,u,f,z,y,h))++bH 5 4 (aK h) (bD h))))):=by
 unfold cZ aD;rw[show(Int.toNat 6-1)=5 from rfl,show List.range 5=[0,1,2,3,4]from rfl];simp only[yZ,qCr,vZ];rfl
abbrev vB:=MU [.row N] (λ_=>True) (λ(n,_)=>.buf 0 (Dl (cZ n))) λ(n,_)=>.buf 153 Fa (cZ n) []
theorem Vt:eO 74 vB:=HH λ(((h,ns,j,z,y,u):Net),_)=>by
 refine zE (A:=aE) (p:=let c37:=(5:Int)=(5:Int)/\(4:Int)=(4:Int)/\u=u;let c36:=(2:Int)=(2:Int)/\(6:Int)=(6:Int)/\j=j;let c35:=(1:Int)=(1:Int)/\(6:Int)=(6:Int)/\h=h;let c1:=Ea (Dh ns) (Dh h);let c2:=[((1:Int),(-1:Int),(1:Int))];let c3:=Dl c2;let c4:=bH 1 6 (aF h ns) (bv h);let c5:=Dl c4;let A:=c3+c5;let c7:=Ei c2 c4;let c8:=bH 2 6 j (cI j);let c9:=Dl c8;let c10:=A+c9;let f:=(h,ns,j,z,y,u);let c34:=(4:Int)=(4:Int)/\(40:Int)=(40:Int)/\y=y/\f=f;let c33:=(3:Int)=(3:Int)/\(12:Int)=(12:Int)/\z=z/\f=f;let c12:=Ei c7 c8;let c13:=bH 3 12 (aI z) (ew f);let c14:=Dl c13;let c15:=c10+c14;let c16:=Ei c12 c13;let c17:=bH 4 40 (aJ y) (dN f);let c18:=Dl c17;let c19:=c15+c18;let c20:=Ei c16 c17;let c21:=bH 5 4 (aK u) (bD u);let c22:=Dl c21;let c23:=c19+c22;let c24:=cZ f;let c25:=Dl c24;let X:=c5+c9;let c27:=Ei c4 c8;let L:=X+c14;let c29:=Ei c27 c13;let G:=L+c18;let c31:=Ei c29 c17;let c32:=G+c22;
  (True->(c1->(c3*24)<=140737488355328/\c3<=9223372036854775807/\c35/\c3=c3/\(A*24)<=140737488355328/\A<=9223372036854775807/\c36/\Dl c7=A/\(c10*24)<=140737488355328/\c10<=9223372036854775807/\c33/\Dl c12=c10/\(c15*24)<=140737488355328/\c15<=9223372036854775807/\c34/\Dl c16=c15/\(c19*24)<=140737488355328/\c19<=9223372036854775807/\c37/\Dl c20=c19/\(c23*24)<=140737488355328/\c23<=9223372036854775807/\c23=c25/\Ei c20 c21=c24/\True)/\(c1=false->c35/\(c5*24)<=140737488355328/\c5<=9223372036854775807/\c36/\c5=c5/\(X*24)<=140737488355328/\X<=9223372036854775807/\c33/\Dl c27=X/\(L*24)<=140737488355328/\L<=9223372036854775807/\c34/\Dl c29=L/\(G*24)<=140737488355328/\G<=9223372036854775807/\c37/\Dl c31=G/\(c32*24)<=140737488355328/\c32<=9223372036854775807/\c32=c25/\Ei c31 c21=c24/\True))) KS7 λ_=>?_
 have h1:=jS 1 6 (aF h ns) (bv h) (by decide);have h2:=jS 2 6 j (cI j) (by decide);have h3:=jS 3 12 (aI z) (ew (h,ns,j,z,y,u)) (by decide);have h4:=jS 4 40 (aJ y) (dN (h,ns,j,z,y,u)) (by decide);have h5:=jS 5 4 (aK u) (bD u) (by decide);rw[AP];refine Z9 ?_;refine⟨λhne=>?_,λhe=>?_⟩;rw[show Cj (h,ns,j,z,y,u)=[(1,-1,1)]from if_neg λe=>hne (zX Int.ofNat e)];generalize bH 1 6 _ _=a1 at *;generalize bH 2 6 _ _=a2 at *;generalize bH 3 12 _ _=a3 at *;generalize bH 4 40 _ _=a4 at *;generalize bH 5 4 _ _=a5 at *;simp only[qG,qX,wQ]
 and_intros<;>first|omega|rfl
 rw[show Cj (h,ns,j,z,y,u)=[]from if_pos (Int.ofNat.inj he)];generalize bH 1 6 _ _=a1 at *;generalize bH 2 6 _ _=a2 at *;generalize bH 3 12 _ _=a3 at *;generalize bH 4 40 _ _=a4 at *;generalize bH 5 4 _ _=a5 at *;simp only[qG,xI,wQ]
 and_intros<;>first|omega|rfl
abbrev M:Ty:=.sl R
def upN(k n:Int):Prop:=0<=k/\k<=n
def nK(n:Net):Bool:=iq n&&n.2.2.2.1.all λo=>decide (o.2.2.2.2.2.2.length<=30)
def RH(n:Net)(k i:Int):Prop:=nK n=true/\1<=k/\k<=5/\0<=i/\i<(ak n k).length
def Hz(n:Net)(k i:Int):Bool:=(fK n k).getD i.toNat false
def aY(n:Net)(k i:Int):List ByteArray:=(ak n k).take i.toNat
def au(n:Net)(k i:Int):List (Int×Int×Int):=aD n k++aT k (ak n k) (fK n k) i
def nUp(n:Net)(k i:Int):Prop:=0<=i/\i<=(ak n k).length/\i<=bJ k
def kUp(k:Int):Prop:=1<=k/\k<=6
def Nq(f:List (Int×List Bool×Li))(k:Int):Prop:=0<=k/\k<=f.length/\(f.take k.toNat).all (λc=>nD c.2.1 c.2.2)=true
def Lp(f:Lo)(k:Int):Prop:=0<=k/\k<=f.length/\(f.take k.toNat).all (λo=>decide (o.2.2.2.2.2.2.length<=30))=true
def nF(l:List ByteArray):Bool:=l.all λs=>decide (s.size<=40)
def B7(n:Net)(k:Int):Prop:=1<=k/\k<=6/\∀j:Int,1<=j->j<k->nF (ak n j)=true
def WU(l:List ByteArray)(i:Int):Prop:=0<=i/\i<=l.length/\nF (l.take i.toNat)=true
def aAT(n:Net):Bool:=iq n&&(n.1.all λc=>nD c.2.1 c.2.2)&&(n.2.2.2.1.all λo=>decide (o.2.2.2.2.2.2.length<=30))&&nF (ak n 1)&&nF (ak n 2)&&nF (ak n 3)&&nF (ak n 4)&&nF (ak n 5)
def noF(n:Net):Bool:=(cZ n).isEmpty
def K8:Kt:=kOr 74 vB K7
def RP(n:Net)(k:Int)(f slot:Nat)(st:St)(xs:List ByteArray):Option Spec:=some {α:=Int,inv:=λi=>upN i (Dh (ak n k)),st:=λi=>nU (put st [(slot,.dat I i),(5,.buf 100 (Dl (aY n k i)))]) 100 (.buf 9 S (aY n k i) []),μ:=λi=>Dc (Dk (Dh (ak n k)) i)}
def aCQ(n:Net):Ann:=⟨λh f=>match h with
 |5=>RP n 1 5 6 f []|12=>RP n 2 12 7 f []|17=>RP n 3 17 8 f []|22=>RP n 4 22 9 f []|27=>RP n 5 27 10 f []|_=>none,λ_ _=>none,λ_ _=>none⟩
abbrev Aw:=az [.row N,.val I] (λ(n,_,_)=>iq n=true) λ(n,k,_)=>.dat (.sl S) (ak n k)
abbrev sg:=az [.row N,.val I,.val I] (λ(n,k,i,_)=>RH n k i) λ(n,k,i,_)=>.dat .bool (Hz n k i)
def K9:Kt:=kOr 150 Aw <|
 kOr 217 sg K8
def aDd(l:List ByteArray)(i:Int):Ann:=Z8 5 Int (sN l i) (λf k=>put f [(10,.dat I k)]) λk=>Dc (Dk i k)
def aG5(n:Net):Ann:=⟨λf st=>match f with
 |4=>some {α:=Int,inv:=λk=>Nq n.1 k,st:=λk=>put st [(3,.dat I k)],μ:=λk=>Dc (Dk (Dh n.1) k)}|9=>some {α:=Int,inv:=λk=>Lp n.2.2.2.1 k,st:=λk=>put st [(4,.dat I k)],μ:=λk=>Dc (Dk (Dh n.2.2.2.1) k)}|14=>some {α:=Int,inv:=λk=>B7 n k,st:=λk=>put st [(5,.dat I k)],μ:=λk=>Dc (Dk 6 k)}|18=>match st.sig.T 5 with
  |.dat (.int .i64) k=>some {α:=Int,inv:=λi=>WU (ak n k) i,st:=λi=>put st [(7,.dat I i)],μ:=λi=>Dc (Dk (Dh (ak n k)) i)}|_=>none
 |_=>none,λ_ _=>none,λ_ _=>none⟩
abbrev MD:=az [.row N] (λ_=>True) λ(n,_)=>.dat .bool (aAT n)
def K10:Kt:=kOr 152 (az [.row N,.val I,.val (.sl S),.val I] (λ(n,k,l,i,_)=>RH n k i/\l=ak n k) λ(n,k,_,i,_)=>.dat I (nL (ak n k) (fK n k) i)) <|
 kOr 76 MD K9
def V9(n:Net):Ann:=⟨λf st=>match f with
 |5=>some {α:=Int,inv:=λk=>kUp k,st:=λk=>nU (put st [(4,.dat I k),(3,.buf 0 (Dl (aD n k)))]) 0 (.buf 153 Fa (aD n k) []),μ:=λk=>Dc (Dk 6 k)}|9=>match st.sig.T 4 with
  |.dat (.int .i64) k=>some {α:=Int,inv:=λi=>nUp n k i,st:=λi=>nU (put st [(6,.dat I i),(3,.buf 0 (Dl (au n k i)))]) 0 (.buf 153 Fa (au n k i) []),μ:=λi=>Dc (Dk (Dh (ak n k)) i)}|_=>none
 |_=>none,λ_ _=>none,λ_ _=>none⟩
abbrev rZ:=MU [.row N] (λ(n,_)=>nK n=true) (λ(n,_)=>.buf 0 (Dl (cZ n))) λ(n,_)=>.buf 153 Fa (cZ n) []
def K11:Kt:=kOr 77 rZ K10
abbrev me:=az [.row N] (λ(n,_)=>nK n=true) λ(n,_)=>.dat .bool (noF n)
def K12:Kt:=kOr 153 me K11
theorem KS8:ay Tryz.prog G0 K8:=ah Vt KS7
theorem Jm{n:Net}{k i:Int}(h:0<=i)(f:i<=(ak n k).length):(aY n k i).length=i.toNat:=by
 unfold aY;rw[qM];omega
theorem FZ{n:Net}{k i:Int}(h:0<=i)(f:i<(ak n k).length):aY n k (i+1)=aY n k i++[(ak n k).getD i.toNat ⟨#[]⟩]:=by
 unfold aY;rw[show(i+1).toNat=i.toNat+1 by omega,wW,qA,qB (show i.toNat<(ak n k).length by omega)];rfl
theorem Jn{n:Net}{k i:Int}(h:i<=(ak n k).length)(f:¬i<(ak n k).length):aY n k i=ak n k:=by
 unfold aY;exact qO Z
theorem FX{n:Net}{k:Int}{m:Nat}{el:Int->ByteArray}(L:(ak n k).length=m)(hm:m<=100)(A:∀x,0<=x->x<(m:Int)->(ak n k).getD x.toNat ⟨#[]⟩=el x){R:List ByteArray}(G:R=ak n k):
  (∃x,upN x (ak n k).length/\(aY n k x).length=0/\aY n k x=[]/\0=x/\aY n k x=[])/\
   ∀(x:Int),upN x (ak n k).length->
    (x<(m:Int)->0<=x/\x<(m:Int)/\((aY n k x).length+[el x].length)*16<=140737488355328/\(aY n k x).length+[el x].length<=9223372036854775807/\inR .i64 (x+1)/\
     ∃y,upN y (ak n k).length/\((aY n k x).length+[el x].length=(aY n k y).length/\x+1=y/\aY n k x++[el x]=aY n k y)/\(((ak n k).length:Int)-y).toNat<(((ak n k).length:Int)-x).toNat)/\
    (¬x<(m:Int)->aY n k x=R):=by
 refine⟨⟨0,⟨qL _,qR _⟩,rfl,rfl,rfl,rfl⟩,λx ⟨h,u⟩=>⟨λf=>?_,λz=>by rw[G];exact Jn u Z⟩⟩;have X:=Jm h u;have j:=FZ h (show x<((ak n k).length:Int) by omega);rw[A x h f]at j;refine⟨h,f,by simp only[qX];omega,by simp only[qX];omega,⟨Z,Z⟩,x+1,⟨Z,Z⟩,⟨by rw[j,qG],rfl,j.symm⟩,Z⟩
theorem CL(z:LC)(h f:LB)(y:Lo)(j:Ll)(u:Lk)(A:iq (z,h,f,y,j,u)=true):z.length<=10/\h.length<=10/\f.length<=10/\y.length<=16/\j.length<=50/\u.length<=8:=vJ A
theorem Z1:eO 150 Aw:=ae λ(((X,j,u,L,z,G):Net),(k:Int),_)=>by
 refine zE (A:=(lvA [(5,[2,4,5,6,7,8,9,10,11]),(12,[2,4,5,7,8,9,10,11]),(17,[2,4,5,8,9,10,11]),(22,[2,4,5,9,10,11]),(27,[2,4,5,10])] (aCQ (X,j,u,L,z,G)))) (p:=let c5:=ByteArray.mk #[];let f:=(X,j,u,L,z,G);let c2:=Ee k 1;let c3:=Dh (ak f 1);let c4:=[ByteArray.mk #[]];let A:=ak f k;let c7:=Ee k 2;let c8:=Dh (ak f 2);let c9:=Ee k 3;let c10:=Dh (ak f 3);let c11:=Dh L;let c13:=Ee k 4;let c14:=Dh (ak f 4);let c15:=Dh z;let c16:=((0:Int),(0:Int));let c18:=Ee k 5;let c19:=Dh (ak f 5);let c20:=Dh G;(iq f->(c2->(∃x,let c22:=aY f 1 x;upN x c3/\L7 f Z0 (Dl c22=0/\c22=Du ByteArray/\0=x/\k=k/\c22=Du ByteArray/\True))/\∀(x:Int),let c23:=Dn x (Dh X);let c24:=Dn x (Dh j);let c25:=aY f 1 x;let h:=Dl c25;let c27:=[Dw j (Dc x) c5];let c28:=h+Dl c27;let c29:=x+1;let c30:=h+(Dl c4);upN x c3->(c23->(c24->0<=x/\x<Dh j/\h=h/\(c28*16)<=140737488355328/\c28<=9223372036854775807/\inR .i64 c29/\∃y,let c31:=aY f 1 y;upN y c3/\(L7 f Z0 (c28=Dl c31/\c29=y/\k=k/\Ei c25 c27=c31/\True))/\Dc (c3-y)<Dc (c3-x))/\(c24=false->h=h/\(c30*16)<=140737488355328/\c30<=9223372036854775807/\inR .i64 c29/\∃y,let c32:=aY f 1 y;upN y c3/\(L7 f Z0 (c30=Dl c32/\c29=y/\k=k/\Ei c25 c4=c32/\True))/\Dc (c3-y)<Dc (c3-x)))/\(c23=false->h=h/\c25=A/\True))/\(c2=false->(c7->(∃x,let c33:=aY f 2 x;upN x c8/\L7 f Z0 (Dl c33=0/\c33=Du ByteArray/\0=x/\k=k/\c33=Du ByteArray/\True))/\∀(x:Int),let c34:=Dn x (Dh u);let c35:=aY f 2 x;let c36:=Dl c35;let c37:=[Dw u (Dc x) c5];let c38:=c36+Dl c37;let c39:=x+1;
  upN x c8->(c34->0<=x/\x<Dh u/\c36=c36/\(c38*16)<=140737488355328/\c38<=9223372036854775807/\inR .i64 c39/\∃y,let c40:=aY f 2 y;upN y c8/\(L7 f Z0 (c38=Dl c40/\c39=y/\k=k/\Ei c35 c37=c40/\True))/\Dc (c8-y)<Dc (c8-x))/\(c34=false->c36=c36/\c35=A/\True))/\(c7=false->(c9->(∃x,let c41:=aY f 3 x;upN x c10/\L7 f Z0 (Dl c41=0/\c41=Du ByteArray/\0=x/\k=k/\c41=Du ByteArray/\True))/\∀(x:Int),let c42:=aY f 3 x;let c43:=Dl c42;let c44:=[(Dw L (Dc x) (ByteArray.mk #[],(0:Int),(0:Int),(0:Int),(0:Int),(0:Int),Du ByteArray)).1];let c45:=c43+Dl c44;let c46:=x+1;upN x c10->(Dn x c11->0<=x/\x<c11/\c43=c43/\(c45*16)<=140737488355328/\c45<=9223372036854775807/\inR .i64 c46/\∃y,let c47:=aY f 3 y;upN y c10/\(L7 f Z0 (c45=Dl c47/\c46=y/\k=k/\Ei c42 c44=c47/\True))/\Dc (c10-y)<Dc (c10-x))/\(Dn x c11=false->c43=c43/\c42=A/\True))/\(c9=false->(c13->(∃x,let c48:=aY f 4 x;upN x c14/\L7 f Z0 (Dl c48=0/\c48=Du ByteArray/\0=x/\k=k/\c48=Du ByteArray/\True))/\∀(x:Int),let c49:=aY f 4 x;let c50:=Dl c49;let c51:=[(Dw z (Dc x) (ByteArray.mk #[],(0:Int),(0:Int),(0:Int),c16)).1];let c52:=c50+Dl c51;let c53:=x+1;upN x c14->(Dn x c15->0<=x/\x<c15/\c50=c50/\(c52*16)<=140737488355328/\c52<=9223372036854775807/\inR .i64 c53/\∃y,let c54:=aY f 4 y;upN y c14/\(L7 f Z0 (c52=Dl c54/\c53=y/\k=k/\Ei c49 c51=c54/\True))/\Dc (c14-y)<Dc (c14-x))/\(Dn x c15=false->c50=c50/\c49=A/\True))/\(c13=false->(c18->(∃x,let c55:=aY f 5 x;
  upN x c19/\L7 f Z0 (Dl c55=0/\c55=Du ByteArray/\0=x/\c55=Du ByteArray/\True))/\∀(x:Int),let c56:=aY f 5 x;let c57:=Dl c56;let c58:=[(Dw G (Dc x) (ByteArray.mk #[],c16)).1];let c59:=c57+Dl c58;let c60:=x+1;upN x c19->(Dn x c20->0<=x/\x<c20/\c57=c57/\(c59*16)<=140737488355328/\c59<=9223372036854775807/\inR .i64 c60/\∃y,let c61:=aY f 5 y;upN y c19/\(L7 f Z0 (c59=Dl c61/\c60=y/\Ei c56 c58=c61/\True))/\Dc (c19-y)<Dc (c19-x))/\(Dn x c20=false->c57=c57/\c56=A/\True))/\(c18=false->A=Du ByteArray/\True))))))) KS8 λhp=>?_
 obtain⟨l1,l2,l3,l4,l5,l6⟩:=CL X j u L z G hp;refine Z9 ?_;refine⟨λhk=>?_,λh1=>⟨λhk=>?_,λh2=>⟨λhk=>?_,λh3=>⟨λhk=>?_,λh4=>⟨λhk=>?_,λh5=>?_⟩⟩⟩⟩⟩;subst hk;have hl:(ak (X,j,u,L,z,G) 1).length=X.length:=dW X j;obtain⟨b1,b2⟩:=FX (n:=(X,j,u,L,z,G)) (k:=1) (el:=λx=>j.getD x.toNat ⟨#[]⟩) (R:=ak (X,j,u,L,z,G) 1) hl Z (λx h0 h1=>xg h0 h1) rfl;refine⟨b1,λx hx=>⟨λhlt=>⟨λhn=>⟨hx.1,hn,((b2 x hx).1 hlt).2.2⟩,λhn=>?_⟩,(b2 x hx).2⟩⟩;have e:j.getD x.toNat ⟨#[]⟩=⟨#[]⟩:=by rw[qA,zG (by have:=hx.1;omega)];rfl
 have:=((b2 x hx).1 hlt).2.2;simp only[e]at this;exact this;subst hk;exact FX (n:=(X,j,u,L,z,G)) (k:=2) (m:=u.length) (el:=λx=>u.getD x.toNat ⟨#[]⟩) rfl Z (λx _ _=>rfl) rfl;subst hk;exact FX (n:=(X,j,u,L,z,G)) (k:=3) (m:=L.length) (el:=λx=>(L.getD x.toNat (⟨#[]⟩,0,0,0,0,0,[])).1) (map_length _ L) Z (λx h0 h1=>Oc _ h0 h1) rfl;subst hk;exact FX (n:=(X,j,u,L,z,G)) (k:=4) (m:=z.length) (el:=λx=>(z.getD x.toNat (⟨#[]⟩,0,0,0,0,0)).1) (map_length _ z) Z (λx h0 h1=>Oc _ h0 h1) rfl;subst hk;exact FX (n:=(X,j,u,L,z,G)) (k:=5) (m:=G.length) (el:=λx=>(G.getD x.toNat (⟨#[]⟩,0,0)).1) (map_length _ G) Z (λx h0 h1=>Oc _ h0 h1) rfl;unfold ak;rw[if_neg h1,if_neg h2,if_neg h3,if_neg h4,if_neg h5]
theorem CM{n:Net}:nK n=true↔iq n=true/\∀o∈n.2.2.2.1,o.2.2.2.2.2.2.length<=30:=by
 unfold nK;rw[qC,qU];simp only[qF]
theorem getD_mem{α:Type}{l:List α}{i:Nat}{d:α}(h:i<l.length):l.getD i d∈l:=by
 rw[qA,qB h];exact wM h
theorem Qv:eO 217 sg:=ae λ(((z,ns,L,u,y,j):Net),(k:Int),(i:Int),_)=>by
 refine zE (A:=aE) (p:=let c4:=Dc i;let c1:=(z,ns,L,u,y,j);let c2:=Ee k 1;let c3:=Dw z c4 ((0:Int),Du Bool,Du Int);let c5:=Hz c1 k i;let f:=Ee k 3;let A:=(Dw u c4 (ByteArray.mk #[],(0:Int),(0:Int),(0:Int),(0:Int),(0:Int),Du ByteArray));let G:=Ee k 4;let X:=((0:Int),(0:Int));let c21:=Ee k 5;let c22:=(Dw j c4 (ByteArray.mk #[],X)).2;let h:=cN c22.1 0 1439;(RH c1 k i->(c2->0<=i/\i<Dh z/\True/\aW c3.1 c3.2.1 c3.2.2=c5/\True)/\(c2=false->(f->0<=i/\i<Dh u/\Ji c1 A/\du c1 A=c5/\True)/\(f=false->(G->0<=i/\i<Dh y/\iq c1/\dw c1 (Dw y c4 (ByteArray.mk #[],(0:Int),(0:Int),(0:Int),X))=c5/\True)/\(G=false->(c21->0<=i/\i<Dh j/\True/\Q4 h ((h->0<=i)/\(h->i<Dh j)/\Q4 h ((h->True)/\(Dj true h->h)/\Dz h (cN c22.2 0 1439) false=c5/\True)))/\(c21=false->true=c5/\True)))))) KS8 λ⟨hp1,hp2,hp3,G,f⟩=>?_;obtain⟨q1,q2⟩:=CM.1 hp1;refine Z9 ?_;refine⟨λhk=>?_,λh1=>⟨λhk=>?_,λh3=>⟨λhk=>?_,λh4=>⟨λhk=>?_,λh5=>?_⟩⟩⟩⟩;subst hk;have X:i<(z.length:Int):=by rw[show(ak (z,ns,L,u,y,j) 1).length=z.length from dW z ns]at f;exact f
 exact⟨G,X,(fV (λc:Int×List Bool×Li=>aW c.1 c.2.1 c.2.2) z _ _ _ Z).symm⟩;subst hk;have X:i<(u.length:Int):=by rw[show(ak (z,ns,L,u,y,j) 3).length=u.length from map_length _ u]at f;exact f
 exact⟨G,X,⟨q1,q2 _ (getD_mem (by show i.toNat<u.length;omega))⟩,(fV (du (z,ns,L,u,y,j)) u _ _ _ Z).symm⟩;subst hk;have X:i<(y.length:Int):=by rw[show(ak (z,ns,L,u,y,j) 4).length=y.length from map_length _ y]at f;exact f
 exact⟨G,X,q1,(fV (dw (z,ns,L,u,y,j)) y _ _ _ Z).symm⟩;subst hk;have X:i<(j.length:Int):=by rw[show(ak (z,ns,L,u,y,j) 5).length=j.length from map_length _ j]at f;exact f
 exact⟨G,X,λ_=>G,λ_=>X,(fV kO j _ _ _ Z).symm⟩;have:k=2:=by omega
 subst this;have X:i<(L.length:Int):=f;exact(fV (λ_:ByteArray=>true) L _ ⟨#[]⟩ _ Z).symm
theorem KS9:ay Tryz.prog G0 K9:=
 ah Z1<|ah Qv KS8
theorem Lq{n:Net}{k i:Int}(h:RH n k i):i<(ak n k).length/\(ak n k).length<=100:=by
 obtain⟨X,h2,h3,h4,L⟩:=h;obtain⟨q,_⟩:=CM.1 X;obtain⟨y,A,z,u,f,j⟩:=n;obtain⟨l1,l2,l3,l4,l5,l6⟩:=CL y A z u f j q;refine⟨L,?_⟩;have G:k=1\/k=2\/k=3\/k=4\/k=5:=Z;rcases G with rfl|rfl|rfl|rfl|rfl;rw[show(ak (y,A,z,u,f,j) 1).length=y.length from dW y A];omega;show z.length<=100;omega;rw[show(ak (y,A,z,u,f,j) 3).length=u.length from map_length _ u];omega;rw[show(ak (y,A,z,u,f,j) 4).length=f.length from map_length _ f];omega;rw[show(ak (y,A,z,u,f,j) 5).length=j.length from map_length _ j];omega
theorem fI(k i:Int)(G:LC)(h f:LB)(z:Lo)(j:Ll)(u:Lk):aj Tryz.prog G0 152 [net G h f z j u,.dat I k,.dat (.sl S) (ak (G,h,f,z,j,u) k),.dat I i] [] ⟨RH (G,h,f,z,j,u) k i,.dat I (nL (ak (G,h,f,z,j,u) k) (fK (G,h,f,z,j,u) k) i),[]⟩:=by
 refine zE (A:=(lvA [(5,[1,2,3,4,8,10,11])] (aDd (ak (G,h,f,z,j,u) k) i))) (p:=let c10:=ByteArray.mk #[];let c1:=(G,h,f,z,j,u);let L:=ak c1 k;let c3:=Dh L;let c4:=Dw L (Dc i) c10;let c5:=Di (bK c4);let A:=nL L (fK c1 k) i;let X:=Di (Hz c1 k i);(RH c1 k i->0<=i/\i<c3/\True/\(c5->1=A/\True)/\(c5=false->(∃x,sN L i x/\T4 k L i c1 (0=x/\True))/\∀(x:Int),let c8:=Fz (Dw L (Dc x) c10) c4;let c9:=x+1;sN L i x->(Dn x i->0<=x/\x<c3/\0<=i/\i<c3/\(c8->4=A/\True)/\(c8=false->inR .i64 c9/\∃y,sN L i y/\(T4 k L i c1 (c9=y/\True))/\Dc (i-y)<Dc (i-x)))/\(Dn x i=false->RH c1 k i/\(X->1=A/\True)/\(X=false->0=A/\True))))) KS9 λhp=>?_;obtain⟨hi,hl⟩:=Lq hp;have h0:0<=i:=hp.2.2.2.1;refine Z9 ?_;refine⟨h0,hi,λhn=>?_,λhn=>⟨jF h0,λx X=>⟨λhlt=>⟨X.1,Z,h0,hi,λhe=>?_,λhne=>⟨⟨by have:=X.1;omega,Z⟩,x+1,jG X hlt hi hne,rfl,by have:=X.1;omega⟩⟩,λhge=>⟨hp,λhg=>?_,λhg=>?_⟩⟩⟩⟩;have e:bT (ak (G,h,f,z,j,u) k) i=1:=if_neg (by unfold jC;rw[hn];decide);unfold nL;rw[if_pos (by rw[e];decide),e];have e:bT (ak (G,h,f,z,j,u) k) i=0:=if_pos hn;have e2:=NH X hlt hi he;unfold nL;rw[if_neg (by rw[e];decide),if_pos (by rw[<- e2];decide),e2];have e:bT (ak (G,h,f,z,j,u) k) i=0:=if_pos hn;have e2:=kr X hge;unfold nL;rw[if_neg (by rw[e];decide),if_neg (by rw[<- e2];decide)];unfold b8;rw[if_neg (by intro g;rw[show Hz (G,h,f,z,j,u) k i=_ from g]at hg;cases hg)];have e:bT (ak (G,h,f,z,j,u) k) i=0:=if_pos hn;have e2:=kr X hge;unfold nL;rw[if_neg (by rw[e];decide),if_neg (by rw[<- e2];decide)];unfold Hz at hg;unfold b8;rw[if_pos hg]
theorem M4{n:Net}(h:aAT n=true->False):false=aAT n:=by
 cases e:aAT n with
 |false=>rfl|true=>exact(h e).elim
theorem pT{n:Net}:aAT n=true↔iq n=true/\(n.1.all λc=>nD c.2.1 c.2.2)=true/\(n.2.2.2.1.all λo=>decide (o.2.2.2.2.2.2.length<=30))=true/\∀j:Int,1<=j->j<6->nF (ak n j)=true:=by
 unfold aAT;simp only[qC,qAn];constructor;rintro⟨y,u,h,f,h5,h6,X,L⟩;refine⟨y,u,h,λj G A=>?_⟩;have z:j=1\/j=2\/j=3\/j=4\/j=5:=Z;rcases z with rfl|rfl|rfl|rfl|rfl<;>assumption;rintro⟨y,u,h,f⟩;exact⟨y,u,h,f 1 (by decide) (by decide),f 2 (by decide) (by decide),f 3 (by decide) (by decide),f 4 (by decide) (by decide),f 5 (by decide) (by decide)⟩
theorem aE9:eO 76 MD:=ae λ(((L,ns,os,G,ls,ks):Net),_)=>by
 refine zE (A:=(lvA [(4,[1,2,3,4,5,6,7]),(9,[1,2,4,5,6,7]),(14,[1,2,5,6,7]),(18,[1,2,5,6,7])] (aG5 (L,ns,os,G,ls,ks)))) (p:=let c1:=Dh L;let c2:=Ef c1 10;let c3:=Di c2;let c4:=Dz c2 true (Ef (Dh ns) 10);let c5:=Di c4;let X:=Dz c4 true (Ef (Dh os) 10);let z:=Di X;let c8:=Dh G;let c9:=Dz X true (Ef c8 16);let c10:=Di c9;let c11:=Dz c9 true (Ef (Dh ls) 50);let A:=Di c11;let c13:=Dz c11 true (Ef (Dh ks) 8);let h:=(L,ns,os,G,ls,ks);let j:=aAT h;(True->Q4 c3 ((Dj true c3->c3)/\Q4 c5 ((Dj true c5->c5)/\Q4 z ((Dj true z->z)/\Q4 c10 ((Dj true c10->c10)/\Q4 A ((Dj true A->A)/\(c13->false=j/\True)/\(c13=false->(∃x,Nq L x/\h=h/\0=x/\True)/\∀(x:Int),let c16:=(Dw L (Dc x) ((0:Int),Du Bool,Du Int)).2;let c17:=Di (nD c16.1 c16.2);let c18:=x+1;Nq L x->(Dn x c1->0<=x/\x<c1/\True/\(c17->false=j/\True)/\(c17=false->inR IntKind.i64 c18/\∃y,Nq L y/\(h=h/\c18=y/\True)/\Dc (c1-y)<Dc (c1-x)))/\(Dn x c1=false->(∃xa,Lp G xa/\h=h/\0=xa/\True)/\∀(xb:Int),let c19:=Ef (Dh (Dw G (Dc xb) (ByteArray.mk #[],(0:Int),(0:Int),(0:Int),(0:Int),(0:Int),Du ByteArray)).2.2.2.2.2.2) 30;let c20:=xb+1;Lp G xb->(Dn xb c8->0<=xb/\xb<c8/\(c19->false=j/\True)/\(c19=false->inR IntKind.i64 c20/\∃y,Lp G y/\(h=h/\c20=y/\True)/\Dc (c8-y)<Dc (c8-xb)))/\(Dn xb c8=false->(∃xba,B7 h xba/\h=h/\1=xba/\True)/\∀(f:Int),let c21:=Eh f 5;let c22:=Dh (ak h f);let c23:=f+1;B7 h f->(c21->iq h/\(∃u,WU (ak h f) u/\Q3 h f (ak h f) (0=u/\True))/\∀(u:Int),let c24:=Ef (Ej (Dw (ak h f) (Dc u) (ByteArray.mk #[]))) 40;let c25:=u+1;
  WU (ak h f) u->(Dn u c22->0<=u/\u<c22/\(c24->false=j/\True)/\(c24=false->inR .i64 c25/\∃y,WU (ak h f) y/\(Q3 h f (ak h f) (c25=y/\True))/\Dc (c22-y)<Dc (c22-u)))/\(Dn u c22=false->inR .i64 c23/\∃y,B7 h y/\(h=h/\c23=y/\True)/\Dc (6-y)<Dc (6-f)))/\(c21=false->true=j/\True))))))))))) KS9 λhp=>?_
 refine Z9 ?_;refine⟨λh=>M4 λg=>?_,λh=>?_⟩;obtain⟨l1,l2,l3,l4,l5,l6⟩:=CL L ns os G ls ks (pT.1 g).1;omega;have hl:iq (L,ns,os,G,ls,ks)=true:=qP (by show L.length<=10/\ns.length<=10/\os.length<=10/\G.length<=16/\ls.length<=50/\ks.length<=8;omega);refine⟨⟨qL _,qR _,by simp⟩,λx ⟨x0,x1,x2⟩=>⟨λX=>⟨x0,X,λhb=>M4 λg=>?_,λhg=>⟨⟨Z,Z⟩,x+1,⟨Z,Z,?_⟩,rfl,Z⟩⟩,λhge=>?_⟩⟩;have:=ly (l:=L) (p:=λc=>nD c.2.1 c.2.2) (d:=(0,[],[])) (k:=x.toNat) Z hb;rw[(pT.1 g).2.1]at this;cases this;rw[show(x+1).toNat=x.toNat+1 by omega];exact eI (d:=(0,[],[])) x2 Z hg;have hcs:(L.all λc=>nD c.2.1 c.2.2)=true:=by rwa [qO Z]at x2
 refine⟨⟨qL _,qR _,by simp⟩,λz ⟨z0,z1,z2⟩=>⟨λX=>⟨z0,X,λhb=>M4 λg=>?_,λhg=>⟨⟨Z,Z⟩,z+1,⟨Z,Z,?_⟩,rfl,Z⟩⟩,λhge=>?_⟩⟩;have:=ly (l:=G) (p:=λo=>decide (o.2.2.2.2.2.2.length<=30)) (d:=(⟨#[]⟩,0,0,0,0,0,[])) (k:=z.toNat) Z (qV Z);rw[(pT.1 g).2.2.1]at this;cases this;rw[show(z+1).toNat=z.toNat+1 by omega];exact eI (d:=(⟨#[]⟩,0,0,0,0,0,[])) z2 Z (qP Z);have hfs:(G.all λo=>decide (o.2.2.2.2.2.2.length<=30))=true:=by rwa [qO Z]at z2
 refine⟨⟨qL _,by decide,λj h1 h2=>Z⟩,λk ⟨k0,k1,k2⟩=>⟨λhk=>?_,λhk=>?_⟩⟩;have hlen:(ak (L,ns,os,G,ls,ks) k).length<=100:=by
  by_cases hz:(ak (L,ns,os,G,ls,ks) k).length=0;omega;exact(Lq (n:=(L,ns,os,G,ls,ks)) (k:=k) (i:=0) ⟨by unfold nK;rw[hl];exact hfs,k0,hk,qL _,Z⟩).2
 refine⟨hl,⟨qL _,qR _,by simp[nF]⟩,λi ⟨i0,i1,i2⟩=>⟨λX=>⟨i0,X,λhb=>M4 λg=>?_,λhg=>⟨⟨Z,Z⟩,i+1,⟨Z,Z,?_⟩,rfl,Z⟩⟩,λhge=>⟨⟨Z,Z⟩,k+1,⟨Z,Z,λj h1 h2=>?_⟩,rfl,Z⟩⟩⟩;have:=ly (l:=ak (L,ns,os,G,ls,ks) k) (p:=λs=>decide (s.size<=40)) (d:=⟨#[]⟩) (k:=i.toNat) Z (qV Z);have h2:=(pT.1 g).2.2.2 k k0 Z;unfold nF at h2;rw[h2]at this;cases this;rw[show(i+1).toNat=i.toNat+1 by omega];exact eI (d:=⟨#[]⟩) i2 Z (qP Z);by_cases e:j=k;subst e;rwa [qO Z]at i2;exact k2 j h1 Z;exact(pT.2 ⟨hl,hcs,hfs,λj h1 h2=>k2 j h1 Z⟩).symm
theorem aGH:ay Tryz.prog G0 K10:=
 ah (ae λ((A,j,f,z,u,y),k,l,i,_)=>aj.of_pre λ(h:RH (A,j,f,z,u,y) k i/\l=ak (A,j,f,z,u,y) k)=>by obtain⟨h,rfl⟩:=h;exact(fI k i A j f z u y).weaken λ_=>h)<|ah aE9 KS9
theorem pI(k:Int):4<=bJ k/\bJ k<=40:=by unfold bJ;split<;>(try split)<;>(try split)<;>omega
theorem lg{n:Net}{k:Int}(h:1<=k):aD n (k+1)=aD n k++bH k (bJ k) (ak n k) (fK n k):=by
 unfold aD;rw[show(k+1).toNat-1=(k.toNat-1)+1 by omega,yK,kK,<- wQ];congr 1;simp only[yZ,qCr,vZ];rw[show((k.toNat-1:Nat):Int)+1=k by omega]
theorem sA(n:Net):∀(j:Nat),(aD n (j+1)).length<=1+41*j
 |0=>by
  have e:aD n ((0:Nat)+1)=Cj n:=by unfold aD;simp
  rw[e];unfold Cj;split<;>simp
 |j+1=>by
  have f:=sA n j;have e:=lg (n:=n) (k:=(j:Int)+1) Z;have u:=(pI ((j:Int)+1)).1;have h:=(pI ((j:Int)+1)).2;have:=jS ((j:Int)+1) (bJ ((j:Int)+1)) (ak n ((j:Int)+1)) (fK n ((j:Int)+1)) Z;rw[show(((j+1:Nat):Int)+1)=(j:Int)+1+1 by omega,e,qG];omega
theorem CN{n:Net}{k:Int}(h:1<=k)(f:k<=6):(aD n k).length<=250:=by
 have:=sA n (k.toNat-1);rw[show((k.toNat-1:Nat):Int)+1=k by omega]at this;omega
theorem Rm(n:Net)(k:Int):au n k 0=aD n k:=by unfold au;rw[Jz,vZ]
theorem aCF{n:Net}{k i:Int}(h:0<=i)(f:nL (ak n k) (fK n k) i≠0):au n k (i+1)=au n k i++[(k,i,nL (ak n k) (fK n k) i)]:=by
 unfold au;rw[qD h f,wQ]
theorem aFu{n:Net}{k i:Int}(h:0<=i)(f:nL (ak n k) (fK n k) i=0):au n k (i+1)=au n k i:=by
 unfold au;rw[vD h f]
theorem aAc{n:Net}{k i:Int}(j:1<=k)(f:i=min ((ak n k).length:Int) (bJ k))(h:((ak n k).length:Int)>bJ k):au n k i++[(k,bJ k,2)]=aD n (k+1):=by
 rw[lg j];unfold au bH FN;rw[if_pos Z,<- f,wQ]
theorem aFv{n:Net}{k i:Int}(j:1<=k)(f:i=min ((ak n k).length:Int) (bJ k))(h:¬((ak n k).length:Int)>bJ k):au n k i=aD n (k+1):=by
 rw[lg j];unfold au bH FN;rw[if_neg Z,<- f,vZ]
theorem YO{n:Net}{k i:Int}(h:1<=k)(f:k<=6)(j:i<=bJ k):(au n k i).length<=300:=by
 have:=CN (n:=n) h f;have:=mO k (ak n k) (fK n k) i;have:=(pI k).2;unfold au;rw[qG];omega
theorem Ql:eO 77 rZ:=HH λ(((G,u,L,fs,X,ks):Net),_)=>by
 refine zE (A:=(lvA [(5,[1,2,3,4,5,6,7]),(9,[1,2,3,4,5,6,7])] (V9 (G,u,L,fs,X,ks)))) (p:=let j:=(G,u,L,fs,X,ks);let c2:=Ea (Dh u) (Dh G);let c3:=[((1:Int),(-1:Int),(1:Int))];let c4:=Dl c3;let c5:=cZ j;(nK j->(c2->(c4*24)<=140737488355328/\c4<=9223372036854775807/\(∃x,kUp x/\L7 j Z0 (c4=Dl (aD j x)/\1=x/\c3=aD j x/\True))/\∀(x:Int),let z:=Eh x 5;let A:=Dl (aD j x);let c8:=Dh (ak j x);let c9:=Ef c8 (bJ x);let c10:=[(x,bJ x,(2:Int))];let h:=x+1;kUp x->(z->iq j/\(∃f,nUp j x f/\L7 j Z0 (A=Dl (au j x f)/\L7 x (ak j x) (0=f/\aD j x=au j x f/\True)))/\∀(f:Int),let c13:=Dz (Dn f c8) (Dn f (bJ x)) false;let c14:=nL (ak j x) (fK j x) f;let c15:=Ea c14 0;let c16:=Dl (au j x f);let c17:=[(x,f,c14)];let c18:=c16+Dl c17;let c19:=f+1;let c20:=c16+(Dl c10);
  nUp j x f->L5 (Dn f c8) ((Dn f c8->True)/\Q2 (Dn f c8) ((Dj true (Dn f c8)->Dn f c8)/\(c13->(RH j x f/\ak j x=ak j x)/\(c15->c16=c16/\(c18*24)<=140737488355328/\c18<=9223372036854775807/\inR .i64 c19/\∃y,nUp j x y/\(L7 j Z0 (c18=Dl (au j x y)/\L7 x (ak j x) (c19=y/\Ei (au j x f) c17=au j x y/\True)))/\Dc (c8-y)<Dc (c8-f))/\(c15=false->inR .i64 c19/\∃y,nUp j x y/\(L7 j Z0 (c16=Dl (au j x y)/\L7 x (ak j x) (c19=y/\au j x f=au j x y/\True)))/\Dc (c8-y)<Dc (c8-f)))/\(c13=false->True/\(c9->True/\c16=c16/\(c20*24)<=140737488355328/\c20<=9223372036854775807/\inR .i64 h/\∃y,kUp y/\(L7 j Z0 (c20=Dl (aD j y)/\h=y/\Ei (au j x f) c10=aD j y/\True))/\Dc (6-y)<Dc (6-x))/\(c9=false->inR .i64 h/\∃y,kUp y/\(L7 j Z0 (c16=Dl (aD j y)/\h=y/\au j x f=aD j y/\True))/\Dc (6-y)<Dc (6-x))))))/\(z=false->A=Dl c5/\aD j x=c5/\True))/\(c2=false->(∃x,kUp x/\L7 j Z0 (Dl (aD j x)=0/\aD j x=Du (Int×Int×Int)/\1=x/\aD j x=Du (Int×Int×Int)/\True))/\∀(x:Int),let c21:=Eh x 5;let c22:=Dl (aD j x);let c23:=Dh (ak j x);let c24:=Ef c23 (bJ x);let c25:=[(x,bJ x,(2:Int))];let c27:=x+1;kUp x->(c21->iq j/\(∃f,nUp j x f/\L7 j Z0 (c22=Dl (au j x f)/\L7 x (ak j x) (0=f/\aD j x=au j x f/\True)))/\∀(f:Int),let c28:=Dz (Dn f c23) (Dn f (bJ x)) false;let c29:=nL (ak j x) (fK j x) f;let c30:=Ea c29 0;let c31:=Dl (au j x f);let c32:=[(x,f,c29)];let c33:=c31+Dl c32;
  let c34:=f+1;let c35:=c31+(Dl c25);nUp j x f->L5 (Dn f c23) ((Dn f c23->True)/\Q2 (Dn f c23) ((Dj true (Dn f c23)->Dn f c23)/\(c28->(RH j x f/\ak j x=ak j x)/\(c30->c31=c31/\(c33*24)<=140737488355328/\c33<=9223372036854775807/\inR .i64 c34/\∃y,nUp j x y/\(L7 j Z0 (c33=Dl (au j x y)/\L7 x (ak j x) (c34=y/\Ei (au j x f) c32=au j x y/\True)))/\Dc (c23-y)<Dc (c23-f))/\(c30=false->inR .i64 c34/\∃y,nUp j x y/\(L7 j Z0 (c31=Dl (au j x y)/\L7 x (ak j x) (c34=y/\au j x f=au j x y/\True)))/\Dc (c23-y)<Dc (c23-f)))/\(c28=false->True/\(c24->True/\c31=c31/\(c35*24)<=140737488355328/\c35<=9223372036854775807/\inR .i64 c27/\∃y,kUp y/\(L7 j Z0 (c35=Dl (aD j y)/\c27=y/\Ei (au j x f) c25=aD j y/\True))/\Dc (6-y)<Dc (6-x))/\(c24=false->inR .i64 c27/\∃y,kUp y/\(L7 j Z0 (c31=Dl (aD j y)/\c27=y/\au j x f=aD j y/\True))/\Dc (6-y)<Dc (6-x))))))/\(c21=false->c22=Dl c5/\aD j x=c5/\True)))) aGH λhp=>?_
 have hl:=(CM.1 hp).1;have hd1:u.length≠G.length->aD (G,u,L,fs,X,ks) 1=[(1,-1,1)]:=λh=>by
  have e:aD (G,u,L,fs,X,ks) 1=Cj (G,u,L,fs,X,ks)++[]:=rfl;rw[e,vZ];exact if_neg h
 have hd0:u.length=G.length->aD (G,u,L,fs,X,ks) 1=[]:=λh=>by
  have e:aD (G,u,L,fs,X,ks) 1=Cj (G,u,L,fs,X,ks)++[]:=rfl;rw[e,vZ];exact if_pos h
 have fin:∀(x:Int),kUp x->¬x<=5->aD (G,u,L,fs,X,ks) x=cZ (G,u,L,fs,X,ks):=λx hx h=>by
  have:x=6:=by have:=hx.2;omega
  subst this;rfl
 refine Z9 ?_;have body:∀(x:Int),kUp x->(x<=5->iq (G,u,L,fs,X,ks)=true/\(∃z,nUp (G,u,L,fs,X,ks) x z/\(aD (G,u,L,fs,X,ks) x).length=(au (G,u,L,fs,X,ks) x z).length/\0=z/\aD (G,u,L,fs,X,ks) x=au (G,u,L,fs,X,ks) x z)/\
   ∀(z:Int),nUp (G,u,L,fs,X,ks) x z->(z<((ak (G,u,L,fs,X,ks) x).length:Int)/\z<bJ x->RH (G,u,L,fs,X,ks) x z/\
     (nL (ak (G,u,L,fs,X,ks) x) (fK (G,u,L,fs,X,ks) x) z≠0->((au (G,u,L,fs,X,ks) x z).length+[(x,z,nL (ak (G,u,L,fs,X,ks) x) (fK (G,u,L,fs,X,ks) x) z)].length)*24<=140737488355328/\(au (G,u,L,fs,X,ks) x z).length+[(x,z,nL (ak (G,u,L,fs,X,ks) x) (fK (G,u,L,fs,X,ks) x) z)].length<=9223372036854775807/\
       inR .i64 (z+1)/\∃y,nUp (G,u,L,fs,X,ks) x y/\((au (G,u,L,fs,X,ks) x z).length+[(x,z,nL (ak (G,u,L,fs,X,ks) x) (fK (G,u,L,fs,X,ks) x) z)].length=(au (G,u,L,fs,X,ks) x y).length/\z+1=y/\au (G,u,L,fs,X,ks) x z++[(x,z,nL (ak (G,u,L,fs,X,ks) x) (fK (G,u,L,fs,X,ks) x) z)]=au (G,u,L,fs,X,ks) x y)/\
        (((ak (G,u,L,fs,X,ks) x).length:Int)-y).toNat<(((ak (G,u,L,fs,X,ks) x).length:Int)-z).toNat)/\
     (nL (ak (G,u,L,fs,X,ks) x) (fK (G,u,L,fs,X,ks) x) z=0->inR .i64 (z+1)/\∃y,nUp (G,u,L,fs,X,ks) x y/\((au (G,u,L,fs,X,ks) x z).length=(au (G,u,L,fs,X,ks) x y).length/\z+1=y/\au (G,u,L,fs,X,ks) x z=au (G,u,L,fs,X,ks) x y)/\(((ak (G,u,L,fs,X,ks) x).length:Int)-y).toNat<(((ak (G,u,L,fs,X,ks) x).length:Int)-z).toNat))/\
    ((z<((ak (G,u,L,fs,X,ks) x).length:Int)->¬z<bJ x)->
     (((ak (G,u,L,fs,X,ks) x).length:Int)>bJ x->((au (G,u,L,fs,X,ks) x z).length+[(x,bJ x,(2:Int))].length)*24<=140737488355328/\(au (G,u,L,fs,X,ks) x z).length+[(x,bJ x,(2:Int))].length<=9223372036854775807/\
       inR .i64 (x+1)/\∃y,kUp y/\((au (G,u,L,fs,X,ks) x z).length+[(x,bJ x,(2:Int))].length=(aD (G,u,L,fs,X,ks) y).length/\x+1=y/\au (G,u,L,fs,X,ks) x z++[(x,bJ x,2)]=aD (G,u,L,fs,X,ks) y)/\(6-y).toNat<(6-x).toNat)/\
     (¬((ak (G,u,L,fs,X,ks) x).length:Int)>bJ x->inR .i64 (x+1)/\∃y,kUp y/\((au (G,u,L,fs,X,ks) x z).length=(aD (G,u,L,fs,X,ks) y).length/\x+1=y/\au (G,u,L,fs,X,ks) x z=aD (G,u,L,fs,X,ks) y)/\(6-y).toNat<(6-x).toNat)))/\
   (¬x<=5->(aD (G,u,L,fs,X,ks) x).length=(cZ (G,u,L,fs,X,ks)).length/\aD (G,u,L,fs,X,ks) x=cZ (G,u,L,fs,X,ks)):=by
  intro x hx;have hlim:=pI x;refine⟨λhx5=>⟨hl,⟨0,⟨qL _,qR _,Z⟩,by rw[Rm],rfl,(Rm _ _).symm⟩,λz ⟨z0,z1,z2⟩=>⟨λ⟨hz1,hz2⟩=>?_,λhz=>?_⟩⟩,λh=>⟨by rw[fin x hx h],fin x hx h⟩⟩;have hlen:=YO (n:=(G,u,L,fs,X,ks)) hx.1 hx.2 z2;refine⟨⟨hp,hx.1,hx5,z0,hz1⟩,λhe=>?_,λhe=>?_⟩;have e:=aCF z0 he;exact⟨by simp only[qX];omega,by simp only[qX];omega,⟨Z,Z⟩,z+1,⟨Z,Z,Z⟩,⟨by rw[e,qG],rfl,e.symm⟩,Z⟩;have e:=aFu z0 he;exact⟨⟨Z,Z⟩,z+1,⟨Z,Z,Z⟩,⟨by rw[e],rfl,e.symm⟩,Z⟩;have hlen:=YO (n:=(G,u,L,fs,X,ks)) hx.1 hx.2 z2;have hmin:z=min ((ak (G,u,L,fs,X,ks) x).length:Int) (bJ x):=by
   by_cases g:z<((ak (G,u,L,fs,X,ks) x).length:Int);have:=hz g;omega;omega
  have hx1:=hx.1;refine⟨λh=>?_,λh=>?_⟩;have e:=aAc hx.1 hmin h;exact⟨by simp only[qX];omega,by simp only[qX];omega,⟨Z,Z⟩,x+1,⟨Z,Z⟩,⟨by rw[<- e,qG],rfl,e⟩,Z⟩;have e:=aFv hx.1 hmin h;exact⟨⟨Z,Z⟩,x+1,⟨Z,Z⟩,⟨by rw[e],rfl,e⟩,Z⟩
 refine⟨λhne=>⟨by decide,by decide,⟨1,⟨by decide,by decide⟩,?_,rfl,?_⟩,body⟩,λhe=>⟨⟨1,⟨by decide,by decide⟩,?_,?_,rfl,?_⟩,body⟩⟩;rw[hd1 Z];rw[hd1 Z];rw[hd0 Z];rfl;rw[hd0 Z];rw[hd0 Z]
theorem aGG:ay Tryz.prog G0 K11:=ah Ql aGH
theorem D7:eO 153 me:=ae λ(((L,u,j,G,y,z):Net),_)=>by
 refine zE (A:=aE) (p:=let f:=(L,u,j,G,y,z);let h:=Dl (cZ f);(nK f->nK f/\h=h/\Ee (Int.ofNat h) 0=noF f/\True)) aGG λX=>?_;refine Z9 ?_;refine⟨X,?_⟩;unfold noF;cases cZ (L,u,j,G,y,z)with
 |nil=>rfl|cons a l=>simp;omega
theorem aGF:ay Tryz.prog G0 K12:=ah D7 aGG
def aCB(a b:Int)(xs:Li):Prop:=0<=a/\a<12/\0<=b/\b<12/\xs.length=144
def jL(xs:Li)(a b len:Int):Li:=eZ xs a b len
def gX(k:Int):Li:=(List.range 144).map λi=>if i<k.toNat then(if i/12=i%12 then 0 else -1)else 0
def iO(h:Ll)(k:Int):Li:=(h.take k.toNat).foldl (λf l=>eZ f (bw l) (lTo l) (aV l)) JE
def fwD(f:Ll)(o a b:Int):Li:=fwN f (o*144+a*12+b).toNat
def bP(f:Ll):Li:=cA f
def noP(n:Net):Prop:=noF n=true
def wv(n:Net):Lj:=if noF n then XL n.2.2.2.1.length n.2.2.2.2.1 else[]
def rN(m:Nat)(f:Ll)(b:Nat):Bool:=(List.range m).any λa=>decide (cell (cA f) a b=-1)
def aP(m:Int)(f:Ll)(k:Int):List (Int×Int×Int):=(List.range k.toNat).filterMap λb:Nat=>if rN m.toNat f b then some (3,(b:Int),111)else none
def fk(n:Net):List (Int×Int×Int):=if noF n then aP n.2.2.2.1.length n.2.2.2.2.1 n.2.2.2.1.length else cZ n
def uW(m:Int)(f:Ll)(b k:Int):Prop:=0<=k/\k<=m/\(List.range k.toNat).all (λa=>decide (cell (cA f) a b.toNat≠-1))=true
def b7(m:Int)(f:Ll)(k:Int):Lj:=(List.range k.toNat).map (iQ m.toNat f)
def Jl(m k:Int):Li:=(List.range m.toNat).map λi=>if i<k.toNat then -1 else 0
def bfD(f:Ll)(m a r i:Int):Li:=(f.take i.toNat).foldl dX (bfN f m.toNat a.toNat r.toNat)
def iS(d:Lj)(b k:Int):Bool:=(List.range k.toNat).any λa=>decide ((d.getD a []).getD b.toNat 0<0)
def aZ(n:Net):Bool:=(fk n).isEmpty
abbrev cx:List (Int×List Bool×Li):=[(0,[true,true,true,true,true,false,false],[])]
abbrev nx:List ByteArray:=[⟨#[99]⟩]
abbrev ox:List ByteArray:=[⟨#[112]⟩,⟨#[113]⟩]
abbrev fx:Lo:=[(⟨#[97]⟩,0,0,8,2,10,[]),(⟨#[98]⟩,1,0,8,2,10,[])]
abbrev lx:Ll:=[(⟨#[120]⟩,0,1,0,60,1),(⟨#[121]⟩,1,0,0,90,1)]
def SL(args:List AV)(m:Mem):Option lA:=match args,m with|[.dat (.int .i64) a,.dat (.int .i64) b,.dat (.int .i64) len,.ptr 1 g 0 0],[(1,.buf el (.int .i64) xs [])]=>if g=144/\el=150 then some ⟨aCB a b xs,.tup [],[(1,.buf 150 I (jL xs a b len) [])]⟩else none|_,_=>none
def K13:Kt:=kOr 148 SL K12
def V8(f:Ll):Ann:=⟨λh s=>match h with
 |3=>some {α:=Int,inv:=λk=>upN k 12,st:=λk=>nU (put s [(12,.dat I k)]) 1 (.buf 150 I (gX (Em 12 k)) []),μ:=λk=>Dc (Dk 12 k)}|6=>match s.sig.T 12 with
  |.dat (.int .i64) a=>some {α:=Int,inv:=λk=>upN k 12,st:=λk=>nU (put s [(15,.dat I k)]) 1 (.buf 150 I (gX (Dt (Em 12 a) k)) []),μ:=λk=>Dc (Dk 12 k)}|_=>none
 |14=>some {α:=Int,inv:=λk=>upN k (Dh f),st:=λk=>nU (put s [(31,.dat I k)]) 1 (.buf 150 I (iO f k) []),μ:=λk=>Dc (Dk (Dh f) k)}|19=>some {α:=Int,inv:=λk=>upN k 12,st:=λk=>nU (put s [(44,.dat I k)]) 1 (.buf 150 I (fwD f k 0 0) []),μ:=λk=>Dc (Dk 12 k)}|22=>match s.sig.T 44 with
  |.dat (.int .i64) o=>some {α:=Int,inv:=λk=>upN k 12,st:=λk=>nU (put s [(47,.dat I k)]) 1 (.buf 150 I (fwD f o k 0) []),μ:=λk=>Dc (Dk 12 k)}|_=>none
 |25=>match s.sig.T 44,s.sig.T 47 with
  |.dat (.int .i64) o,.dat (.int .i64) a=>some {α:=Int,inv:=λk=>upN k 12,st:=λk=>nU (put s [(50,.dat I k)]) 1 (.buf 150 I (fwD f o a k) []),μ:=λk=>Dc (Dk 12 k)}|_,_=>none
 |_=>none,λ_ _=>none,λ_ _=>none⟩
abbrev r7:=az [.row N] (λ(n,_)=>noP n) λ(n,_)=>.av I (bP n.2.2.2.2.1)
def K14:Kt:=kOr 75 r7 K13
def aA6(f:Lo)(h:Ll):Ann:=⟨λj s=>match j with
 |6=>some {α:=Int,inv:=λk=>upN k (Dh f),st:=λk=>nU (put s [(18,.dat I k),(3,.buf 0 (Dl (aP (Dh f) h k)))]) 0 (.buf 153 Fa (aP (Dh f) h k) []),μ:=λk=>Dc (Dk (Dh f) k)}|9=>match s.sig.T 18 with
  |.dat (.int .i64) b=>some {α:=Int,inv:=λk=>uW (Dh f) h b k,st:=λk=>put s [(24,.dat I k),(3,.buf 0 (Dl (aP (Dh f) h b)))],μ:=λk=>Dc (Dk (Dh f) k)}|_=>none
 |_=>none,λ_ _=>none,λ_ _=>none⟩
def aCG(f:Lo)(h:Ll):Ann:=⟨λj s=>match j with
 |5=>some {α:=Int,inv:=λk=>upN k (Dh f),st:=λk=>nU (put s [(4,.dat I k),(3,.buf 100 (Dl (b7 (Dh f) h k)))]) 100 (.buf 30 R (b7 (Dh f) h k) []),μ:=λk=>Dc (Dk (Dh f) k)}|9=>some {α:=Int,inv:=λk=>upN k (Dh f),st:=λk=>nU (put s [(6,.dat I k)]) 0 (.buf 3 I (Jl (Dh f) k) []),μ:=λk=>Dc (Dk (Dh f) k)}|14=>match s.sig.T 4 with
  |.dat (.int .i64) a=>some {α:=Int,inv:=λk=>upN k (Dh f),st:=λk=>nU (put s [(7,.dat I k)]) 0 (.buf 3 I (bfD h (Dh f) a k 0) []),μ:=λk=>Dc (Dk (Dh f) k)}|_=>none
 |17=>match s.sig.T 4,s.sig.T 7 with
  |.dat (.int .i64) a,.dat (.int .i64) r=>some {α:=Int,inv:=λk=>upN k (Dh h),st:=λk=>nU (put s [(8,.dat I k)]) 0 (.buf 3 I (bfD h (Dh f) a r k) []),μ:=λk=>Dc (Dk (Dh h) k)}|_,_=>none
 |_=>none,λj s=>match j with
 |22=>some (put (frz [0] s) [(35,.top)])|_=>none,λ_ _=>none⟩
abbrev Av:=az [.row N] (λ(n,_)=>nK n=true) λ(n,_)=>.dat M (wv n)
def K15:Kt:=kOr 23 (az [.row N] (λ_=>True) λ(n,_)=>.dat (.sl Fa) (fk n)) <|
 kOr 78 Av K14
def aAd(f:Lo)(h:Ll)(d:Lj):Ann:=⟨λj s=>match j with
 |6=>some {α:=Int,inv:=λk=>upN k (Dh f),st:=λk=>nU (put s [(5,.dat I k),(3,.buf 0 (Dl (aP (Dh f) h k)))]) 0 (.buf 153 Fa (aP (Dh f) h k) []),μ:=λk=>Dc (Dk (Dh f) k)}|10=>match s.sig.T 5 with
  |.dat (.int .i64) b=>some {α:=Int,inv:=λk=>upN k (Dh f),st:=λk=>put s [(7,.dat I k),(6,.dat .bool (iS d b k))],μ:=λk=>Dc (Dk (Dh f) k)}|_=>none
 |_=>none,λ_ _=>none,λ_ _=>none⟩
abbrev vq:=az [.row N] (λ(n,_)=>nK n=true) λ(n,_)=>.dat (.sl Fa) (fk n)
def K16:Kt:=kOr 25 vq K15
theorem qx{n:Net}:noF n=true↔cZ n=[]:=by unfold noF;rw[wX]
theorem vE{j f:Int}{l:List ByteArray}{g:List Bool}(L:0<=f)(h:bH j f l g=[]):(l.length:Int)<=f/\∀i:Int,0<=i->i<l.length->nL l g i=0:=by
 unfold bH at h;obtain⟨y,u⟩:=qAi.1 h;have A:(l.length:Int)<=f:=by
  unfold FN at u;split at u;cases u;omega
 refine⟨A,λi z G=>?_⟩;unfold aT at y;rw[qCn]at y;have:=y i.toNat (wG.2 Z);rw[vX z]at this;split at this;assumption;cases this
theorem pU{l:List ByteArray}{g:List Bool}{i:Int}(h:nL l g i=0):bT l i=0/\rule2 l i=0/\b8 g i=0:=by
 unfold nL at h;by_cases j:bT l i=0;rw[if_neg (by simp[j])]at h;by_cases f:rule2 l i=0;rw[if_neg (by simp[f])]at h;exact⟨j,f,h⟩;rw[if_pos f]at h;exact(f h).elim;rw[if_pos j]at h;exact(j h).elim
theorem zn{g:List Bool}{i:Int}(h:b8 g i=0):g.getD i.toNat false=true:=by
 unfold b8 at h;cases f:g.getD i.toNat false with
 |true=>rfl|false=>rw[f]at h;cases h
theorem mM(f:LC)(u j:LB)(A:Lo)(z:Ll)(y:Lk)(h:noF (f,u,j,A,z,y)=true):u.length=f.length/\bH 1 6 (aF f u) (bv f)=[]/\bH 2 6 j (cI j)=[]/\bH 3 12 (aI A) (ew (f,u,j,A,z,y))=[]/\bH 4 40 (aJ z) (dN (f,u,j,A,z,y))=[]/\bH 5 4 (aK y) (bD y)=[]:=by
 have:=qx.1 h;rw[AP]at this;simp only[qAi]at this;obtain⟨G,h1,h2,h3,X,L⟩:=this;refine⟨?_,h1,h2,h3,X,L⟩;unfold Cj at G;split at G;assumption;cases G
theorem mg{n:Net}{l:Line}(h:dw n l=true):0<=bw l/\bw l<n.2.2.2.1.length/\0<=lTo l/\lTo l<n.2.2.2.1.length/\bw l≠lTo l/\(0<=lAt l/\lAt l<=1439)/\1<=aV l/\aV l<=5000:=by
 unfold dw cw cN at h;simp only[qC,qF]at h;obtain⟨⟨⟨⟨⟨u,j⟩,z⟩,y⟩,f⟩,A⟩:=h;exact⟨u.1,u.2,j.1,j.2,z,y,f.1,f.2⟩
theorem pF(A:LC)(y u:LB)(j:Lo)(f:Ll)(z:Lk)(h:noF (A,y,u,j,f,z)=true):bM j.length f/\f.length<=40:=by
 obtain⟨_,_,_,h3,h4,_⟩:=mM A y u j f z h;obtain⟨l3,e3⟩:=vE (by decide) h3;obtain⟨l4,e4⟩:=vE (by decide) h4;have n3:(aI j).length=j.length:=map_length _ j;have n4:(aJ f).length=f.length:=map_length _ f;refine⟨⟨Z,λl X=>?_⟩,Z⟩;obtain⟨i,G⟩:=kN.1 X;have L:i<f.length:=(qE.1 G).1;have:=zn (pU (e4 i Z Z)).2.2;rw[show(dN (A,y,u,j,f,z))=f.map (dw (A,y,u,j,f,z))from rfl,fV (dw (A,y,u,j,f,z)) f (i:Int).toNat l false Z,qA,show(i:Int).toNat=i by omega,G]at this;obtain⟨g1,g2,g3,g4,g5,_,g6,g7⟩:=mg this;exact⟨g1,g2,g3,g4,g5,g6,g7⟩
theorem kz(xs:Li)(a b len:Int):(jL xs a b len).length=xs.length:=iD xs a b len
theorem NZ{xs:Li}{a b len:Int}(h:xs.getD (a.toNat*12+b.toNat) 0=-1\/len<xs.getD (a.toNat*12+b.toNat) 0):xs.set (a.toNat*12+b.toNat) len=jL xs a b len:=by
 unfold jL eZ cell;rw[show(decide (xs.getD (a.toNat*12+b.toNat) 0=-1)||decide (len<xs.getD (a.toNat*12+b.toNat) 0))=true by simpa using h];rfl
theorem N2{xs:Li}{a b len:Int}(h:xs.getD (a.toNat*12+b.toNat) 0≠-1)(f:¬len<xs.getD (a.toNat*12+b.toNat) 0):xs=jL xs a b len:=by
 unfold jL eZ cell;rw[show(decide (xs.getD (a.toNat*12+b.toNat) 0=-1)||decide (len<xs.getD (a.toNat*12+b.toNat) 0))=false by rw[Bool.or_eq_false_iff];exact⟨qV h,qV f⟩];rfl
theorem ZU(a b len:Int)(xs:Li):aj Tryz.prog G0 148 [.dat I a,.dat I b,.dat I len,.ptr 1 144 0 0] [(1,.buf 150 I xs [])] ⟨aCB a b xs,.tup [],[(1,.buf 150 I (jL xs a b len) [])]⟩:=by
 refine zE (A:=aE) (p:=let j:=Eo 0 12 a;let h:=Ec 12;let u:=jL xs a b len;let G:=Eo j 1 b;let z:=Dw xs G 0;let y:=Ee z (-1);let f:=Di y;let A:=f->Dl xs=144;let L:=Dz y true (Dn len z);(aCB a b xs->Dl xs<=Dl u/\Dl xs=144/\0<=a/\a<Ec 12/\Eo 0 12 h<=144/\Dl xs=144/\0<=b/\b<Ec 12/\Eo j 1 h<=144/\Dl xs=144/\L5 f (A/\(f->0<=a)/\(f->a<Ec 12)/\(f->Eo 0 12 h<=144)/\Q2 f (A/\(f->0<=b)/\(f->b<Ec 12)/\(f->Eo j 1 h<=144)/\L5 f (A/\Q2 f ((Dj true f->f)/\(L->Dl xs=144/\0<=a/\a<Ec 12/\Eo 0 12 h<=144/\Dl xs=144/\0<=b/\b<Ec 12/\Eo j 1 h<=144/\Dl xs=144/\Ep xs G len=u/\T5 (Dl xs))/\(L=false->xs=u/\T5 (Dl xs)))))))) aGF λ⟨a0,a1,b0,b1,hl⟩=>?_;have e:=kz xs a b len;refine Z9 ?_
 and_intros
 all_goals try (intros;omega)
 .intro h
  and_intros
  all_goals try omega
  exact NZ h
 rintro⟨X,L⟩;exact N2 X L
theorem SK:∀args m c,SL args m=some c->aj Tryz.prog G0 148 args m c:=by
 intro args m c h;unfold SL at h;split at h;split at h;rename_i e;obtain⟨rfl,rfl⟩:=e;cases h;exact ZU _ _ _ _;cases h;cases h
theorem aGE:ay Tryz.prog G0 K13:=ah SK aGF
theorem su(k:Int):(gX k).length=144:=by unfold gX;rw[vT,yE]
theorem OD:List.replicate 144 0=gX 0:=by
 unfold gX;apply wP;intro i;rw[zZ,qQ];by_cases h:i<144;rw[if_pos h,zH h];simp;rw[if_neg h,zG (by rw[yE];omega)];rfl
theorem SR{x y:Int}(G:0<=x)(u:x<12)(A:0<=y)(j:y<12)(z:x≠y):(gX (12*x+y)).set (x.toNat*12+y.toNat) (-1)=gX (12*x+(y+1)):=by
 apply wP;intro i;rw[vP,su];unfold gX;rw[qQ,qQ];by_cases h:i<144;rw[zH h];simp only[yC];by_cases e:x.toNat*12+y.toNat=i;subst e;rw[if_pos rfl,if_pos h,if_pos Z,if_neg Z];rw[if_neg e];congr 1;by_cases g:i<(12*x+y).toNat;have f:i<(12*x+(y+1)).toNat:=by omega
 rw[if_pos g,if_pos f];have f:¬i<(12*x+(y+1)).toNat:=by omega
 rw[if_neg g,if_neg f];rw[if_neg Z,zG (by rw[yE];omega)];rfl
theorem OE{x:Int}(u:0<=x)(f:x<12):gX (12*x+x)=gX (12*x+(x+1)):=by
 unfold gX;apply zS;intro i h;have:=wG.1 h;by_cases g:i<(12*x+x).toNat;have j:i<(12*x+(x+1)).toNat:=by omega
 rw[if_pos g,if_pos j];rw[if_neg g];split;rw[if_pos Z];rfl
theorem SS(f:Ll):gX (12*12)=iO f 0:=by
 unfold iO gX JE;rw[show(Int.toNat 0)=0 from rfl,qBy,List.foldl_nil];apply zS;intro i h;rw[if_pos (by have:=wG.1 h;omega)]
theorem BU(f:Ll)(k:Int):(iO f k).length=144:=pG _
theorem Jv{f:Ll}{k:Int}(j:0<=k)(h:k<f.length)(d:Line):jL (iO f k) (f.getD k.toNat d).2.1 (f.getD k.toNat d).2.2.1 (f.getD k.toNat d).2.2.2.2.1=iO f (k+1):=by
 unfold iO;rw[show(k+1).toNat=k.toNat+1 by omega,wW,qA,qB (show k.toNat<f.length by omega),qCk];rfl
theorem On(f:Ll){k:Int}(h:¬k<f.length):iO f k=fwD f 0 0 0:=by
 unfold iO;rw[qO Z];rfl
theorem AO(f:Ll)(o a b:Int):(fwD f o a b).length=144:=rc f _
theorem aAN{f:Ll}{o a:Int}:fwD f o a 12=fwD f o (a+1) 0:=by
 unfold fwD;congr 2;omega
theorem aAO{f:Ll}{o:Int}:fwD f o 12 0=fwD f (o+1) 0 0:=by
 unfold fwD;congr 2;omega
theorem MR{f:Ll}{o a b:Int}(j:0<=o)(h:o<12)(z:0<=a)(y:a<12)(b0:0<=b)(u:b<12):fwD f o a (b+1)=Bl (fwD f o a b) (o.toNat*144+a.toNat*12+b.toNat):=by
 unfold fwD;rw[show(o*144+a*12+(b+1)).toNat=(o.toNat*144+a.toNat*12+b.toNat)+1 by omega,show(o*144+a*12+b).toNat=o.toNat*144+a.toNat*12+b.toNat by omega,CB]
theorem aAM{f:Ll}{o a b:Int}(u:0<=o)(j:o<12)(h:0<=a)(G:a<12)(b0:0<=b)(A:b<12)
  (z:(fwD f o a b).getD (a.toNat*12+o.toNat) 0≠-1) (y:(fwD f o a b).getD (o.toNat*12+b.toNat) 0≠-1):
  jL (fwD f o a b) a b ((fwD f o a b).getD (a.toNat*12+o.toNat) 0+(fwD f o a b).getD (o.toNat*12+b.toNat) 0)=fwD f o a (b+1):=by
 rw[MR u j h G b0 A];unfold Bl;rw[show(o.toNat*144+a.toNat*12+b.toNat)/12%12=a.toNat by omega,show(o.toNat*144+a.toNat*12+b.toNat)/144=o.toNat by omega,show(o.toNat*144+a.toNat*12+b.toNat)%12=b.toNat by omega];unfold cell;rw[show((fwD f o a b).getD (a.toNat*12+o.toNat) 0 != -1&&(fwD f o a b).getD (o.toNat*12+b.toNat) 0 != -1)=true by simp only[qC,qCm];exact⟨z,y⟩,cond_true];unfold jL;rw[vX h,vX b0]
theorem aC6{f:Ll}{o a b:Int}(u:0<=o)(j:o<12)(A:0<=a)(z:a<12)(b0:0<=b)(y:b<12)
  (h:(fwD f o a b).getD (a.toNat*12+o.toNat) 0≠-1->(fwD f o a b).getD (o.toNat*12+b.toNat) 0=-1):fwD f o a b=fwD f o a (b+1):=by
 rw[MR u j A z b0 y];unfold Bl;rw[show(o.toNat*144+a.toNat*12+b.toNat)/12%12=a.toNat by omega,show(o.toNat*144+a.toNat*12+b.toNat)/144=o.toNat by omega,show(o.toNat*144+a.toNat*12+b.toNat)%12=b.toNat by omega];unfold cell;rw[show((fwD f o a b).getD (a.toNat*12+o.toNat) 0 != -1&&(fwD f o a b).getD (o.toNat*12+b.toNat) 0 != -1)=false by
  rw[Bool.and_eq_false_imp];intro g;rw[qCm]at g;rw[h g];rfl,cond_false]
theorem Qm:eO 75 r7:=ae λ(((cs,ns,os,fs,z,ks):Net),_)=>by
 refine zE (A:=(lvA [(3,[1,2,3,4,5,6,8,9,10,11,12,15,29,30,31,44,47,50]),(6,[1,2,3,4,5,6,8,9,10,11,12,15,29,30,31,44,47,50]),(14,[2,3,6,8,9,10,11,29,30,31,44,47,50]),(19,[2,3,6,9,10,11,44,47,50]),(22,[2,3,6,9,10,11,44,47,50]),(25,[2,3,6,9,10,11,44,47,50])] (V8 z))) (p:=let c4:=Ec 12;let c1:=(cs,ns,os,fs,z,ks);let L:=Gi 144 0;let c3:=Dh z;(noP c1->(∃x,upN x 12/\T7 c1 144 0 0 144 0 0 (0=x/\L=L/\L=gX (12*x)/\True))/\∀(x:Int),let c5:=Dn x 12;let h:=12*x;let c7:=gX h;let c8:=x+1;upN x 12->(c5->(∃u,upN u 12/\L4 c1 144 0 0 144 0 0 x x (0=u/\L=L/\c7=gX (h+u)/\True))/\∀(u:Int),let c9:=Dn u 12;let c10:=u+1;upN u 12->(c9->(Ea x u->Dl (gX (h+u))=144/\0<=x/\x<Ec 12/\Eo 0 12 c4<=144/\Dl (gX (h+u))=144/\0<=u/\u<Ec 12/\Eo (Eo 0 12 x) 1 c4<=144/\Dl (gX (h+u))=144/\inR .i64 c10/\∃y,upN y 12/\(L4 c1 144 0 0 144 0 0 x x (c10=y/\L=L/\Ep (gX (h+u)) (Eo (Eo 0 12 x) 1 u) (-1)=gX (h+y)/\True))/\Dc (12-y)<Dc (12-u))/\(Ea x u=false->inR .i64 c10/\∃y,upN y 12/\(L4 c1 144 0 0 144 0 0 x x (c10=y/\L=L/\gX (h+u)=gX (h+y)/\True))/\Dc (12-y)<Dc (12-u)))/\(c9=false->inR .i64 c8/\∃y,upN y 12/\(T7 c1 144 0 0 144 0 0 (c8=y/\L=L/\gX (h+u)=gX (12*y)/\True))/\Dc (12-y)<Dc (12-x)))/\(c5=false->(∃xa,upN xa c3/\L4 144 0 0 144 0 0 144 0 0 (L7 z c3 (0=xa/\L=L/\c7=iO z xa/\True)))/\∀(xb:Int),let c11:=(Dw z (Dc xb) (ByteArray.mk #[],(0:Int),(0:Int),(0:Int),(0:Int),(0:Int))).2;let c15:=jL (iO z xb) c11.1 c11.2.1 c11.2.2.2.1;let c16:=xb+1;
  upN xb c3->(Dn xb c3->0<=xb/\xb<c3/\L4 1 0 1 1 0 1 1 0 1 (L7 1 0 (aCB c11.1 c11.2.1 (iO z xb)/\Dl (iO z xb)<=Dl c15/\inR .i64 c16/\∃y,upN y c3/\(L4 144 0 0 144 0 0 144 0 0 (L7 z c3 (c16=y/\L=L/\c15=iO z y/\True)))/\Dc (c3-y)<Dc (c3-xb))))/\(Dn xb c3=false->(∃x_4,upN x_4 12/\L4 144 0 0 144 0 0 144 0 0 (0=x_4/\L=L/\iO z xb=fwD z x_4 0 0/\True))/\∀(f:Int),let c17:=Dn f 12;let c18:=fwD z f 0 0;let c19:=f+1;upN f 12->(c17->(∃j,upN j 12/\L4 144 0 0 144 0 0 144 0 0 (L7 f f (0=j/\L=L/\c18=fwD z f j 0/\True)))/\∀(j:Int),let c20:=Dn j 12;let c21:=fwD z f j 0;let c23:=j+1;upN j 12->(c20->(∃G,upN G 12/\L4 144 0 0 144 0 0 144 0 0 (T4 f j f j (0=G/\L=L/\c21=fwD z f j G/\True)))/\∀(G:Int),let c24:=Dn G 12;let c25:=fwD z f j G;let c26:=Dl c25;let c27:=Dw c25 (Eo (Eo 0 12 j) 1 f) 0;let X:=Ea c27 (-1);let A:=X->c26=144;let c29:=Dw c25 (Eo (Eo 0 12 f) 1 G) 0;let c30:=Dz X (Ea c29 (-1)) false;let c31:=c27+c29;let c32:=jL c25 j G c31;let c33:=G+1;
  upN G 12->(c24->c26=144/\0<=j/\j<Ec 12/\Eo 0 12 c4<=144/\c26=144/\0<=f/\f<Ec 12/\Eo (Eo 0 12 j) 1 c4<=144/\c26=144/\L5 X (A/\(X->0<=f)/\(X->f<Ec 12)/\(X->Eo 0 12 c4<=144)/\Q2 X (A/\(X->0<=G)/\(X->G<Ec 12)/\(X->Eo (Eo 0 12 f) 1 c4<=144)/\L5 X (A/\L5 X ((Dj true X->X)/\(c30->c26=144/\0<=j/\j<Ec 12/\Eo 0 12 c4<=144/\c26=144/\0<=f/\f<Ec 12/\Eo (Eo 0 12 j) 1 c4<=144/\c26=144/\c26=144/\0<=f/\f<Ec 12/\Eo 0 12 c4<=144/\c26=144/\0<=G/\G<Ec 12/\Eo (Eo 0 12 f) 1 c4<=144/\c26=144/\inR .i64 c31/\aCB j G c25/\c26<=Dl c32/\inR .i64 c33/\∃y,upN y 12/\(L4 144 0 0 144 0 0 144 0 0 (T4 f j f j (c33=y/\L=L/\c32=fwD z f j y/\True)))/\Dc (12-y)<Dc (12-G))/\(c30=false->inR .i64 c33/\∃y,upN y 12/\(L4 144 0 0 144 0 0 144 0 0 (T4 f j f j (c33=y/\L=L/\c25=fwD z f j y/\True)))/\Dc (12-y)<Dc (12-G)))))))/\(c24=false->inR IntKind.i64 c23/\∃y,upN y 12/\(L4 144 0 0 144 0 0 144 0 0 (L7 f f (c23=y/\L=L/\c25=fwD z f y 0/\True)))/\Dc (12-y)<Dc (12-j)))/\(c20=false->inR .i64 c19/\∃y,upN y 12/\(L4 144 0 0 144 0 0 144 0 0 (c19=y/\L=L/\c21=fwD z y 0 0/\True))/\Dc (12-y)<Dc (12-f)))/\(c17=false->Dl c18=144/\0=0/\Dl c18=144/\Dl L=144/\0=0/\Dl L=144/\Dl c18=144/\Dl c18=144/\0=0/\Dl c18=144/\c18=bP z/\True))))) aGE λhp=>?_
 obtain⟨ok,hls⟩:=pF cs ns os fs z ks hp;refine Z9 ?_;have z12:upN 0 12:=⟨by decide,by decide⟩;refine⟨⟨0,z12,rfl,OD⟩,λx ⟨x0,x1⟩=>⟨λhx=>⟨⟨0,z12,rfl,by rw[Int.add_zero]⟩,λy ⟨y0,y1⟩=>⟨λhy=>⟨λhne=>?_,λhe=>?_⟩,λhy=>?_⟩⟩,λhx=>?_⟩⟩
 .have:=su (12*x+y)
  and_intros
  all_goals try omega
  exact⟨y+1,⟨Z,Z⟩,⟨rfl,SR x0 hx y0 hy hne⟩,Z⟩
 subst he;exact⟨⟨Z,Z⟩,x+1,⟨Z,Z⟩,⟨rfl,OE x0 hx⟩,Z⟩;have:y=12:=by omega
 subst this;exact⟨⟨Z,Z⟩,x+1,⟨Z,Z⟩,⟨rfl,by congr 1;omega⟩,Z⟩;have ex:x=12:=Z;subst ex;refine⟨⟨0,⟨qL _,qR _⟩,rfl,SS z⟩,λk ⟨k0,k1⟩=>⟨λhk=>?_,λhk=>?_⟩⟩;have ho:=ok.at_ _ (getD_mem (l:=z) (i:=k.toNat) (d:=(⟨#[]⟩,0,0,0,0,0)) Z);have hn:=ok.n12;unfold bw lTo at ho;have e1:=BU z k;refine⟨k0,hk,⟨Z,Z,Z,Z,e1⟩,by rw[kz]<;>exact qN _,⟨Z,Z⟩,k+1,⟨Z,Z⟩,⟨rfl,Jv k0 hk _⟩,Z⟩;refine⟨⟨0,z12,rfl,On z hk⟩,λo ⟨o0,o1⟩=>⟨λho=>⟨⟨0,z12,rfl,rfl⟩,λa ⟨a0,a1⟩=>⟨λha=>⟨⟨0,z12,rfl,rfl⟩,λb ⟨b0,b1⟩=>⟨λhb=>?_,λhb=>?_⟩⟩,λha=>?_⟩⟩,λho=>?_⟩⟩
 .have e1:=AO z o a b;have bd1:=HD ok (k:=(o*144+a*12+b).toNat) Z (a:=a.toNat) (b:=o.toNat) Z Z;have bd2:=HD ok (k:=(o*144+a*12+b).toNat) Z (a:=o.toNat) (b:=b.toNat) Z Z;have bd1:-1<=(fwD z o a b).getD (a.toNat*12+o.toNat) 0/\(fwD z o a b).getD (a.toNat*12+o.toNat) 0<=20480000:=bd1;have bd2:-1<=(fwD z o a b).getD (o.toNat*12+b.toNat) 0/\(fwD z o a b).getD (o.toNat*12+b.toNat) 0<=20480000:=bd2
  and_intros
  all_goals try (intros;omega)
  .rintro⟨h1,h2⟩;have e2:=kz (fwD z o a b) a b ((fwD z o a b).getD (a.toNat*12+o.toNat) 0+(fwD z o a b).getD (o.toNat*12+b.toNat) 0);have e3:=aAM o0 ho a0 ha b0 hb h1 h2
   and_intros
   all_goals try omega
   exact⟨b+1,⟨Z,Z⟩,⟨rfl,e3⟩,Z⟩
  intro h;exact⟨⟨Z,Z⟩,b+1,⟨Z,Z⟩,⟨rfl,aC6 o0 ho a0 ha b0 hb h⟩,Z⟩
 have:b=12:=by omega
 subst this;exact⟨⟨Z,Z⟩,a+1,⟨Z,Z⟩,⟨rfl,aAN⟩,Z⟩;have:a=12:=by omega
 subst this;exact⟨⟨Z,Z⟩,o+1,⟨Z,Z⟩,⟨rfl,aAO⟩,Z⟩
 .have:o=12:=by omega
  subst this;have e1:=AO z 12 0 0;have e2:(Gi 144 (0:Int)).length=144:=yL
  and_intros
  all_goals try omega
  rfl
theorem aGg:ay Tryz.prog G0 K14:=ah Qm aGE
theorem Lr{n:Net}(h:¬(((cZ n).length:Nat):Int)>0):noF n=true:=qx.2 (vI Z)
theorem FW{n:Net}(h:(((cZ n).length:Nat):Int)>0):noF n=false:=by
 cases e:noF n with
 |false=>rfl|true=>rw[qx.1 e]at h;simp at h
theorem KX:(Gi 144 (0:Int)).length=144:=yL
theorem Ff(f:Ll):(bP f).length=144:=rc f _
theorem ji(m:Int)(f:Ll):aP m f 0=[]:=rfl
theorem uE(m:Int)(f:Ll)(k:Int):(aP m f k).length<=k.toNat:=by
 unfold aP;exact vS (qCq _ _) (by rw[yE];exact qN _)
theorem uB{m:Int}{f:Ll}{k:Int}(j:0<=k)(h:rN m.toNat f k.toNat=true):aP m f (k+1)=aP m f k++[(3,k,111)]:=by
 unfold aP;rw[show(k+1).toNat=k.toNat+1 by omega,yK,qAm];simp[vX j,h]
theorem zu{m:Int}{f:Ll}{k:Int}(h:rN m.toNat f k.toNat=false)(j:0<=k):aP m f (k+1)=aP m f k:=by
 unfold aP;rw[show(k+1).toNat=k.toNat+1 by omega,yK,qAm];simp[h]
theorem N4{m:Int}{f:Ll}{a b:Int}(u:0<=a)(j:a<m)(h:(bP f).getD (a.toNat*12+b.toNat) 0=-1):rN m.toNat f b.toNat=true:=
 xZ.2 ⟨a.toNat,wG.2 Z,qP h⟩
theorem Jp{m:Int}{f:Ll}{a b:Int}(hm:uW m f b a)(z:a<m)(h:(bP f).getD (a.toNat*12+b.toNat) 0≠-1):uW m f b (a+1):=by
 obtain⟨y,u,j⟩:=hm;refine⟨Z,Z,?_⟩;rw[show(a+1).toNat=a.toNat+1 by omega,yK,gU,j];simp only[qAw,List.all_nil,kU,yM];exact qP h
theorem Oh{m:Int}{f:Ll}{a b:Int}(hm:uW m f b a)(z:¬a<m):rN m.toNat f b.toNat=false:=by
 obtain⟨y,u,j⟩:=hm;have:a=m:=Z;subst this;unfold rN;rw[qBj];intro x h;have:=qU.1 j x h;simpa using this
theorem Qz(cs:LC)(ns os:LB)(G:Lo)(f:Ll)(ks:Lk):aj Tryz.prog G0 23 [net cs ns os G f ks] [] ⟨True,.dat (.sl Fa) (fk (cs,ns,os,G,f,ks)),[]⟩:=by
 refine zE (A:=(lvA [(6,[1,2,3,4,5,6,17,18,23,24]),(9,[1,2,3,4,5,6,17,18,23,24])] (aA6 G f))) (p:=let L:=(cs,ns,os,G,f,ks);let c2:=cZ L;let X:=Dl c2;let c4:=Ef (Int.ofNat X) 0;let c5:=fk L;let h:=Dh G;(True->True/\X=X/\(c4->X=X/\c2=c5/\True)/\(c4=false->noP L/\Dl (Gi 144 0)=144/\0=0/\Dl (Gi 144 0)=144/\Dl (bP f)=144/\(∃x,upN x h/\L7 L Z0 (X=Dl (aP h f x)/\T4 144 0 0 h (0=x/\c2=aP h f x/\T5 (bP f))))/\∀(x:Int),let u:=Dl (aP h f x);let c8:=[((3:Int),x,(111:Int))];let A:=u+Dl c8;let z:=x+1;upN x h->(Dn x h->(∃j,uW h f x j/\L4 L Z0 u 144 0 0 x h x (h=h/\0=j/\k7 (aP h f x) (bP f)))/\∀(j:Int),let c11:=Ee (Dw (bP f) (Eo (Eo 0 12 j) 1 x) 0) (-1);let c12:=j+1;uW h f x j->(Dn j h->Dl (bP f)=144/\0<=j/\j<Ec 12/\Eo 0 12 (Ec 12)<=144/\Dl (bP f)=144/\0<=x/\x<Ec 12/\Eo (Eo 0 12 j) 1 (Ec 12)<=144/\Dl (bP f)=144/\(c11->u=u/\(A*24)<=140737488355328/\A<=9223372036854775807/\inR .i64 z/\∃y,upN y h/\(L7 L Z0 (A=Dl (aP h f y)/\T4 144 0 0 h (z=y/\Ei (aP h f x) c8=aP h f y/\T5 (bP f))))/\Dc (h-y)<Dc (h-x))/\(c11=false->inR IntKind.i64 c12/\∃y,uW h f x y/\(L4 L Z0 u 144 0 0 x h x (h=h/\c12=y/\k7 (aP h f x) (bP f)))/\Dc (h-y)<Dc (h-j)))/\(Dn j h=false->inR .i64 z/\∃y,upN y h/\(L7 L Z0 (u=Dl (aP h f y)/\T4 144 0 0 h (z=y/\aP h f x=aP h f y/\T5 (bP f))))/\Dc (h-y)<Dc (h-x)))/\(Dn x h=false->u=u/\aP h f x=c5/\True)))) aGg λ_=>?_
 refine Z9 ?_;refine⟨λh=>by unfold fk;rw[FW h];rfl,λh=>?_⟩;have u:=Lr h;have hf:=qx.1 u;obtain⟨ok,hls⟩:=pF cs ns os G f ks u;have hn:=ok.n12;have e1:=Ff f;refine⟨u,KX,KX,e1,⟨0,⟨qL _,qR _⟩,by rw[hf,ji],rfl,by rw[hf,ji]⟩,λb ⟨b0,b1⟩=>⟨λhb=>⟨⟨qL _,qR _,by simp⟩,λa ha=>⟨λhlt=>?_,λhge=>?_⟩⟩,λhb=>?_⟩⟩
 .have a0:=ha.1;have hl:=uE (G.length:Int) f b
  and_intros
  all_goals try (intros;omega)
  intro he;have e2:=uB b0 (N4 a0 hlt he);exact⟨by simp only[qX];omega,by simp only[qX];omega,⟨Z,Z⟩,b+1,⟨Z,Z⟩,⟨by rw[e2,qG],rfl,e2.symm⟩,Z⟩;intro hne;exact⟨⟨Z,Z⟩,a+1,Jp ha hlt hne,rfl,Z⟩
 have e2:=zu (Oh ha hge) b0;exact⟨⟨Z,Z⟩,b+1,⟨Z,Z⟩,⟨by rw[e2],rfl,e2.symm⟩,Z⟩;have:b=G.length:=by omega
 subst this;unfold fk;rw[u];rfl
theorem xV{α:Type}(m:Nat)(x:α):List.replicate m x=(List.range m).map λ_=>x:=by
 apply wP;intro i;rw[zZ,qQ];by_cases h:i<m;rw[if_pos h,zH h];rfl;rw[if_neg h,zG (by rw[yE];omega)];rfl
theorem QL{α:Type}(f:Nat->α)(m i:Nat)(x:α):((List.range m).map f).set i x=(List.range m).map λj=>if j=i then x else f j:=by
 apply wP;intro j;rw[vP,qQ,qQ,vT,yE];by_cases h:j<m;rw[zH h];by_cases e:i=j;subst e;rw[if_pos rfl,if_pos h];simp;rw[if_neg e];simp only[yC];rw[if_neg λg:j=i=>e g.symm];rw[zG (by rw[yE];omega)];simp only[Option.map_none];split;rw[if_neg Z];rfl
theorem lu:∀(f:Ll) (row:Li),(f.foldl dX row).length=row.length|[],_=>rfl|l::f,row=>by rw[kS,lu f,lr]
theorem nh(f:Ll)(m a:Nat):∀r,(bfN f m a r).length=m|0=>by show(mD m a).length=m;simp[mD]|r+1=>by rw[tV];unfold C9;rw[lu,nh f m a r]
theorem A4(f:Ll)(m:Nat)(a r i:Int):(bfD f m a r i).length=m:=by
 unfold bfD;rw[lu,nh,zJ]
theorem Um{m:Nat}{f:Ll}(j:bM m f){row:Li}(u:row.length=m){l:Line}(y:l∈f){K:Int}(h:∀b,at1 row b<=K):∀b,at1 (dX row l) b<=K+5000:=by
 intro b;have o:=j.at_ l y;rw[qe (by rw[u];omega)];have A:=h b;have z:=h (bw l).toNat;split<;>omega
theorem xk{m:Nat}{u:Ll}(j:bM m u):∀(f:Ll) (row:Li) (K:Int),(∀l∈f,l∈u)->row.length=m->(∀b,at1 row b<=K)->∀b,at1 (f.foldl dX row) b<=K+5000*f.length
 |[],_,_,_,_,h=>λb=>by have:=h b;simpa using this|l::f,row,K,y,z,h=>λb=>by
  have:=xk j f (dX row l) (K+5000) (λx A=>y x (by simp[A])) (by rw[lr];exact z) (Um j z (y l (by simp)) h) b;rw[kS,wH];omega
theorem Zk{m:Nat}{f:Ll}(u:bM m f)(j:f.length<=40)(a:Nat):∀(r:Nat) b,at1 (bfN f m a r) b<=200000*r
 |0,b=>by
  show at1 (mD m a) b<=_;unfold at1 mD;rw[qA,qQ];by_cases h:b<m;rw[zH h];simp only[yC,vK];split<;>omega;rw[zG (by rw[yE];omega)];simp
 |r+1,b=>by
  rw[tV];have:=xk u f (bfN f m a r) (200000*r) (λ_ h=>h) (nh f m a r) (Zk u j a r) b;unfold C9;omega
theorem aDu{m:Nat}{f:Ll}(h:bM m f)(j:f.length<=40){a r i:Int}(y:r<=m):∀b,at1 (bfD f m a r i) b<=3000000:=by
 intro b;have L:=xk h (f.take i.toNat) (bfN f m a.toNat r.toNat) (200000*r.toNat) (λx u=>qBu u) (nh f m _ _) (Zk h j _ _) b;have G:(f.take i.toNat).length<=40:=by rw[qM];omega
 have z:=h.n12;have A:r.toNat<=12:=Z;have e:bfD f m a r i=(f.take i.toNat).foldl dX (bfN f m a.toNat r.toNat):=by unfold bfD;rw[zJ]
 rw[e];omega
theorem Ya{m:Nat}{f:Ll}{a r i:Int}(j:0<=i)(h:i<f.length)(d:Line):bfD f m a r (i+1)=dX (bfD f m a r i) (f.getD i.toNat d):=by
 unfold bfD;rw[show(i+1).toNat=i.toNat+1 by omega,wW,qA,qB (show i.toNat<f.length by omega),qCk];rfl
theorem Un{m:Nat}{f:Ll}{a r i:Int}(h:0<=r)(j:¬i<f.length):bfD f m a r i=bfD f m a (r+1) 0:=by
 unfold bfD;rw[qO Z,show(r+1).toNat=r.toNat+1 by omega,tV];rfl
theorem BL(m:Nat)(k:Int):(Jl m k).length=m:=by unfold Jl;simp
theorem RR(m:Nat):List.replicate m 0=Jl m 0:=by
 rw[xV];unfold Jl;apply zS;intro i _;rw[if_neg Z]
theorem WR{m:Nat}{k:Int}(h:0<=k):(Jl m k).set k.toNat (-1)=Jl m (k+1):=by
 unfold Jl;rw[QL];apply zS;intro j _;by_cases e:j=k.toNat;have g:j<(k+1).toNat:=by omega
 rw[if_pos e,if_pos g];rw[if_neg e];by_cases g:j<k.toNat;have f:j<(k+1).toNat:=by omega
 rw[if_pos g,if_pos f];have f:¬j<(k+1).toNat:=by omega
 rw[if_neg g,if_neg f]
theorem RS(f:Ll){m:Nat}{a b:Int}(u:¬b<m):(Jl m b).set a.toNat 0=bfD f m a 0 0:=by
 unfold Jl;rw[QL];show _=mD (m:Int).toNat a.toNat;unfold mD;apply zS;intro j h;have:=wG.1 h;rw[if_pos (show j<b.toNat by omega)]
theorem O9{row:Li}{l:Line}(h:row.getD l.2.1.toNat 0≥0)(f:row.getD l.2.2.1.toNat 0<0\/row.getD l.2.2.1.toNat 0>row.getD l.2.1.toNat 0+l.2.2.2.2.1):
  row.set l.2.2.1.toNat (row.getD l.2.1.toNat 0+l.2.2.2.2.1)=dX row l:=by
 unfold dX at1 bw lTo aV;rw[show(decide (0<=row.getD l.2.1.toNat 0)&&(decide (row.getD l.2.2.1.toNat 0<0)||decide (row.getD l.2.2.1.toNat 0>row.getD l.2.1.toNat 0+l.2.2.2.2.1)))=true by
  simp only[qC,yO,qF];exact⟨h,f⟩]
 rfl
theorem Pe{row:Li}{l:Line}(h:row.getD l.2.1.toNat 0≥0->¬row.getD l.2.2.1.toNat 0<0/\¬row.getD l.2.2.1.toNat 0>row.getD l.2.1.toNat 0+l.2.2.2.2.1):row=dX row l:=by
 unfold dX at1 bw lTo aV;rw[show(decide (0<=row.getD l.2.1.toNat 0)&&(decide (row.getD l.2.2.1.toNat 0<0)||decide (row.getD l.2.2.1.toNat 0>row.getD l.2.1.toNat 0+l.2.2.2.2.1)))=false by
  rw[Bool.and_eq_false_imp];intro g;have:=h (vJ g);rw[qV this.1,qV this.2];rfl]
 rfl
theorem OO(m:Int)(f:Ll)(k:Int):(b7 m f k).length=k.toNat:=by unfold b7;simp
theorem JU{m:Nat}{f:Ll}(h:bM m f){a:Int}(u:0<=a)(j:a<m):b7 m f a++[bfD f m a m 0]=b7 m f (a+1):=by
 have e:bfD f m a m 0=iQ m f a.toNat:=by
  rw[<- X9 h (show a.toNat<m by omega)];rfl
 rw[e];unfold b7;rw[show(a+1).toNat=a.toNat+1 by omega,yK,wV,zJ];rfl
theorem ZW:eO 78 Av:=ae λ(((cs,ns,os,fs,G,ks):Net),_)=>by
 refine zE (A:=(lvA [(5,[1,2,3,4,5,6,7,8,9]),(9,[1,2,3,4,5,6,7,8,9]),(14,[1,2,3,4,5,6,7,8,9]),(17,[1,2,3,4,5,6,7,8,9])] (aCG fs G))) (p:=let c1:=(cs,ns,os,fs,G,ks);let c2:=Di (noF c1);let c3:=wv c1;let f:=Dh fs;let c5:=Dc f;let c6:=Int.ofNat c5;let z:=Dh G;(nK c1->nK c1/\(c2->c3=Du (Li)/\True)/\(c2=false->(∃x,upN x f/\L7 c1 Z0 (Dl (b7 f G x)=0/\b7 f G x=Du (Li)/\0=x/\b7 f G x=Du (Li)/\True))/\∀(x:Int),let h:=Dl (b7 f G x);let c10:=x+1;upN x f->(Dn x f->0<=f/\(Ec 8*f)<=281474976710656/\f<=9223372036854775807/\(∃u,upN u f/\T6 c1 Z0 h x c5 (0=u/\b7 f G x=b7 f G x/\Ew f (0:Int)=Jl f u/\True))/\∀(u:Int),let c11:=Dl (Jl f u);let c12:=Ec c11;let c13:=u+1;upN u f->c11=c5/\(Dn u c6->c11=c5/\0<=u/\u<c12/\c11=c5/\inR .i64 c13/\∃y,upN y f/\(T6 c1 Z0 h x c5 (c13=y/\b7 f G x=b7 f G x/\Ep (Jl f u) (Dc u) (-1)=Jl f y/\True))/\Dc (f-y)<Dc (f-u))/\(Dn u c6=false->c11=c5/\0<=x/\x<c12/\c11=c5/\(∃L,upN L f/\w6 c1 Z0 h x c5 u (0=L/\b7 f G x=b7 f G x/\Ep (Jl f u) (Dc x) 0=bfD G f x L 0/\True))/\∀(L:Int),let A:=bfD G f x L 0;let c15:=L+1;let c16:=[A];let c17:=h+Dl c16;upN L f->Dl A=c5/\(Dn L c6->(∃x_9,upN x_9 z/\T7 c1 Z0 h x c5 u L (0=x_9/\b7 f G x=b7 f G x/\A=bfD G f x L x_9/\True))/\∀(x_9:Int),let c18:=bfD G f x L x_9;let c19:=Dl c18;let X:=(Dw G (Dc x_9) (ByteArray.mk #[],(0:Int),(0:Int),(0:Int),(0:Int),(0:Int))).2;let c22:=Ec c19;let c23:=Dw c18 (Dc X.1) 0;let j:=Eb c23 0;let c27:=Dc X.2.1;let c28:=Dw c18 c27 0;let c29:=Dn c28 0;
  let c8:=Di c29;let c33:=Dj j c8->0=0;let c26:=Dj j c8->c19=c5;let c25:=Dj j c8->1=1;let c21:=Dj j c8;let c30:=c23+X.2.2.2.1;let c31:=Dz j (Dz c29 true (Ef c28 c30)) false;let c32:=x_9+1;
  upN x_9 z->(Dn x_9 z->0<=x_9/\x_9<z/\T6 1 0 1 1 0 (c19=c5/\0<=X.1/\X.1<c22/\c19=c5/\(j->1=1)/\L5 j ((j->1=1)/\(j->0=0)/\Q2 j ((j->c19=c5)/\(j->0<=X.2.1)/\(j->X.2.1<c22)/\L5 j ((j->c19=c5)/\Q2 j (c25/\L5 c21 (c25/\c33/\Q2 c21 (c26/\(Dj j c8->0<=X.2.1)/\(Dj j c8->X.2.1<c22)/\L5 c21 (c26/\c25/\L5 c21 (c25/\c33/\Q2 c21 (c26/\(Dj j c8->0<=X.1)/\(Dj j c8->X.1<c22)/\L5 c21 (c26/\c25/\L5 c21 (c25/\c33/\Q2 c21 ((Dj j c8->inR .i64 c30)/\Q2 c21 (L5 j ((j->Dj j c8->Dj j c8)/\(Dj true j->j)/\(c31->w6 1 1 0 1 1 0 (c19=c5/\0<=X.1/\X.1<c22/\c19=c5/\Q3 1 1 0 (inR .i64 c30/\c19=c5/\0<=X.2.1/\X.2.1<c22/\c19=c5/\inR .i64 c32/\∃y,upN y z/\(T7 c1 Z0 h x c5 u L (c32=y/\b7 f G x=b7 f G x/\Ep c18 c27 c30=bfD G f x L y/\True))/\Dc (z-y)<Dc (z-x_9))))/\(c31=false->inR .i64 c32/\∃y,upN y z/\(T7 c1 Z0 h x c5 u L (c32=y/\b7 f G x=b7 f G x/\c18=bfD G f x L y/\True))/\Dc (z-y)<Dc (z-x_9))))))))))))))))))/\(Dn x_9 z=false->inR .i64 c15/\∃y,upN y f/\(w6 c1 Z0 h x c5 u (c15=y/\b7 f G x=b7 f G x/\c18=bfD G f x y 0/\True))/\Dc (f-y)<Dc (f-L)))/\(Dn L c6=false->T4 c1 Z0 h x (Dl A=c5/\T4 A u L L (Dl A=c5/\T6 A c6 (Dn L c6) (b7 f G x) h ((c17*24)<=140737488355328/\c17<=9223372036854775807/\inR .i64 c10/\∃y,upN y f/\(L7 c1 Z0 (c17=Dl (b7 f G y)/\c10=y/\Ei (b7 f G x) c16=b7 f G y/\True))/\Dc (f-y)<Dc (f-x)))))))/\
  (Dn x f=false->h=h/\b7 f G x=c3/\True)))) aGg λhp=>?_
 have z:upN 0 (fs.length:Int):=⟨qL _,qR _⟩;have zl:upN 0 (G.length:Int):=⟨qL _,qR _⟩;refine Z9 ?_;refine⟨hp,λh=>by unfold wv;rw[h];rfl,λhno=>⟨⟨0,z,rfl,rfl,rfl,rfl⟩,λa ⟨a0,a1⟩=>⟨λhlt=>?_,λhge=>?_⟩⟩⟩
 .obtain⟨ok,hls⟩:=pF cs ns os fs G ks hno;have hn:=ok.n12;refine⟨Z,Z,Z,⟨0,z,rfl,RR _⟩,λb ⟨b0,b1⟩=>⟨BL _ _,λhb=>?_,λhb=>?_⟩⟩
  .have e1:=BL fs.length b
   and_intros
   all_goals try (intros;omega)
   exact⟨b+1,⟨Z,Z⟩,⟨rfl,WR b0⟩,Z⟩
  have e1:=BL fs.length b;have e2:=RS G (a:=a) hb
  and_intros
  all_goals try (intros;omega)
  exact⟨0,z,rfl,e2⟩;intro r ⟨r0,r1⟩;have e3:=A4 G fs.length a r 0;refine⟨e3,λhr=>⟨⟨0,zl,rfl,rfl⟩,λi ⟨i0,i1⟩=>⟨λhi=>?_,λhi=>⟨⟨Z,Z⟩,r+1,⟨Z,Z⟩,⟨rfl,Un r0 hi⟩,Z⟩⟩⟩,λhr=>?_⟩
  .have e4:=A4 G fs.length a r i;have bd:=aDu ok hls (a:=a) (i:=i) r1;have o:=ok.at_ _ (getD_mem (l:=G) (i:=i.toNat) (d:=(⟨#[]⟩,0,0,0,0,0)) Z);have nx:=Ya (m:=fs.length) (a:=a) (r:=r) i0 hi (⟨#[]⟩,0,0,0,0,0);generalize G.getD i.toNat (⟨#[]⟩,0,0,0,0,0)=l at *;generalize bfD G (fs.length:Int) a r i=row at *;have b1':row.getD l.2.1.toNat 0<=3000000:=bd l.2.1.toNat;unfold bw lTo aV at o
   and_intros
   all_goals try (intros;omega)
   rintro⟨h1,h2⟩;exact⟨Z,Z⟩
   .rintro⟨h1,h2⟩
    and_intros
    all_goals try omega
    exact⟨i+1,⟨Z,Z⟩,⟨rfl,by rw[nx];exact O9 h1 h2⟩,Z⟩
   intro h;exact⟨⟨Z,Z⟩,i+1,⟨Z,Z⟩,⟨rfl,by rw[nx];exact Pe h⟩,Z⟩
  .have:r=fs.length:=by omega
   subst this;have e5:=OO (fs.length:Int) G a;have e6:=JU ok a0 hlt;simp only[qX]
   and_intros
   all_goals try (intros;omega)
   exact⟨a+1,⟨Z,Z⟩,⟨by rw[<- e6,qG];rfl,rfl,e6⟩,Z⟩
 have:a=fs.length:=by omega
 subst this;unfold wv b7 XL;rw[if_pos hno,zJ]
theorem aGD:ay Tryz.prog G0 K15:=
 ah (ae λ((z,h,f,y,j,u),_)=>Qz z h f y j u)<|ah ZW aGg
theorem TK(A:LC)(u j:LB)(f:Lo)(y:Ll)(z:Lk)(h:noF (A,u,j,f,y,z)=true):(wv (A,u,j,f,y,z)).length=f.length:=by unfold wv XL;rw[if_pos h];simp
theorem HT(A:LC)(y u:LB)(f:Lo)(j:Ll)(z:Lk)(h:noF (A,y,u,f,j,z)=true){a:Nat}(G:a<f.length):(wv (A,y,u,f,j,z)).getD a []=iQ f.length j a:=by
 unfold wv XL;rw[if_pos h];show((List.range f.length).map λa=>iQ f.length j a).getD a []=_;rw[qA,qQ,zH G];rfl
theorem OP{m:Nat}{f:Ll}{a b:Nat}(h:b<m):(iQ m f a).getD b 0=cell (cA f) a b:=by
 unfold iQ;rw[qA,qQ,zH h,yC,vK]
theorem JV(m:Nat)(f:Ll)(a:Nat):(iQ m f a).length=m:=by unfold iQ;simp
theorem mY{d:Lj}{b k:Int}(f:0<=k):(iS d b k||decide ((d.getD k.toNat []).getD b.toNat 0<0))=iS d b (k+1):=by
 unfold iS;rw[show(k+1).toNat=k.toNat+1 by omega,yK,List.any_append];simp
theorem any_congr{α:Type}{p q:α->Bool}:∀{l:List α},(∀x∈l,p x=q x)->l.any p=l.any q|[],_=>rfl|a::l,h=>by rw[List.any_cons,List.any_cons,h a (by simp),any_congr λx f=>h x (by simp[f])]
theorem TR(A:LC)(y u:LB)(f:Lo)(j:Ll)(z:Lk)(h:noF (A,y,u,f,j,z)=true){b:Int}(b0:0<=b)(b1:b<f.length):iS (wv (A,y,u,f,j,z)) b f.length=rN f.length j b.toNat:=by
 obtain⟨L,_⟩:=pF A y u f j z h;have X:=L.n12;unfold iS rN;rw[zJ];apply any_congr;intro a G;have G:=wG.1 G;rw[HT A y u f j z h G,OP Z];have:=(pj L (a:=a) Z).low b.toNat Z;congr 1;exact qBx Z
theorem Vl:eO 25 vq:=ae λ(((cs,ns,X,u,j,ks):Net),_)=>by
 refine zE (A:=(lvA [(6,[2,3,4,5,6,7]),(10,[2,3,4,5,6,7])] (aAd u j (wv (cs,ns,X,u,j,ks))))) (p:=let c1:=(cs,ns,X,u,j,ks);let c2:=cZ c1;let c3:=Dl c2;let c4:=Ef (Int.ofNat c3) 0;let c5:=fk c1;let h:=Dh u;let z:=wv c1;let c8:=Dh z;(nK c1->nK c1/\c3=c3/\(c4->c3=c3/\c2=c5/\True)/\(c4=false->nK c1/\(∃x,upN x h/\Value.slice none 0 0=Value.slice none 0 0/\c3=Dl (aP h j x)/\z=z/\0=x/\c2=aP h j x/\True)/\∀(x:Int),let G:=Dl (aP h j x);let c10:=[((3:Int),x,(111:Int))];let L:=G+Dl c10;let c12:=x+1;upN x h->(Dn x c8->(∃f,upN f h/\T4 Z0 G z x (false=iS z x f/\0=f/\T5 (aP h j x)))/\∀(f:Int),let A:=Di (iS z x f);let c14:=Dw z (Dc f) [];let c15:=f+1;upN f h->(Dn f c8->Q2 A ((A->0<=f)/\(A->f<c8)/\Q4 A ((A->0<=x)/\(A->x<Dh c14)/\Q2 A ((Dj true A->A)/\inR .i64 c15/\∃y,upN y h/\(T4 Z0 G z x (Dz (iS z x f) true (Dn (Dw c14 (Dc x) 0) 0)=iS z x y/\c15=y/\T5 (aP h j x)))/\Dc (h-y)<Dc (h-f)))))/\(Dn f c8=false->(iS z x f->G=G/\(L*24)<=140737488355328/\L<=9223372036854775807/\inR .i64 c12/\∃y,upN y h/\(Value.slice none 0 0=Value.slice none 0 0/\L=Dl (aP h j y)/\z=z/\c12=y/\Ei (aP h j x) c10=aP h j y/\True)/\Dc (h-y)<Dc (h-x))/\(iS z x f=false->inR .i64 c12/\∃y,upN y h/\(Value.slice none 0 0=Value.slice none 0 0/\G=Dl (aP h j y)/\z=z/\c12=y/\aP h j x=aP h j y/\True)/\Dc (h-y)<Dc (h-x))))/\(Dn x c8=false->G=G/\aP h j x=c5/\True)))) aGD λhp=>?_
 have z:upN 0 (u.length:Int):=⟨qL _,qR _⟩;refine Z9 ?_;refine⟨hp,λh=>by unfold fk;rw[FW h];rfl,λh=>?_⟩;have G:=Lr h;have hf:=qx.1 G;obtain⟨ok,hls⟩:=pF cs ns X u j ks G;have hn:=ok.n12;have hd:=TK cs ns X u j ks G;refine⟨hp,⟨0,z,by rw[hf,ji],rfl,by rw[hf,ji]⟩,λb ⟨b0,b1⟩=>⟨λhb=>⟨⟨0,z,rfl,rfl⟩,λa ⟨a0,a1⟩=>⟨λha=>?_,λha=>?_⟩⟩,λhb=>?_⟩⟩
 .have hr:=HT cs ns X u j ks G (a:=a.toNat) Z;have hrl:=JV u.length j a.toNat;rw[<- hr]at hrl
  and_intros
  all_goals try (intros;omega)
  exact⟨a+1,⟨Z,Z⟩,⟨mY a0,rfl⟩,Z⟩
 have:a=u.length:=by omega
 subst this;have hl:=uE (u.length:Int) j b;rw[TR cs ns X u j ks G b0 Z];refine⟨λhc=>?_,λhc=>?_⟩;have e2:=uB (m:=u.length) b0 (by rw[zJ];exact hc);exact⟨by simp only[qX];omega,by simp only[qX];omega,⟨Z,Z⟩,b+1,⟨Z,Z⟩,⟨by rw[e2,qG],rfl,e2.symm⟩,Z⟩;have e2:=zu (m:=u.length) (by rw[zJ];exact hc) b0;exact⟨⟨Z,Z⟩,b+1,⟨Z,Z⟩,⟨by rw[e2],rfl,e2.symm⟩,Z⟩;have:b=u.length:=by omega
 subst this;unfold fk;rw[G];rfl
theorem aHh:ay Tryz.prog G0 K16:=ah Vl aGD
theorem YP{l:List ByteArray}:(∀i:Int,0<=i->i<l.length->rule2 l i=0)↔l.Pairwise (λa b=>a.toList≠b.toList):=by
 have u:∀i:Nat,∀h:i<l.length,rule2 l (i:Int)=0↔∀j,∀f:j<i,(l[j]'Z).toList≠l[i].toList:=by
  intro i A;unfold rule2 jC;rw[zJ,qA,qB A,vK];constructor;intro h j f e;split at h;cases h;rename_i y;refine y (xZ.2 ⟨l[j]'Z,yD.2 ⟨j,by rw[qM];omega,by rw[qCj]⟩,?_⟩);rw[e];exact xW _;intro h;rw[if_neg];intro y;obtain⟨w,X,G⟩:=xZ.1 y;obtain⟨j,f,rfl⟩:=yD.1 X;rw[qM]at f;rw[qCj]at G;exact h j Z (yJ.1 G)
 rw[List.pairwise_iff_getElem];constructor;intro h i j A f z;exact(u j f).1 (h j Z Z) i z;intro h i L i1;have:=(u i.toNat Z).2 λj f=>h j i.toNat Z Z f;rwa [vX L]at this
theorem B8{y f:Int}{l:List ByteArray}{g:List Bool}(h0:0<=f):bH y f l g=[]↔(l.length:Int)<=f/\(∀x∈l,bK x=true)/\l.Pairwise (λa b=>a.toList≠b.toList)/\∀i,i<l.length->g.getD i false=true:=by
 have A:∀i:Nat,∀h:i<l.length,jC l (i:Int)=l[i]:=λi u=>by
  unfold jC;rw[zJ,qA,qB u,vK]
 constructor;intro h;obtain⟨G,z⟩:=vE h0 h;refine⟨G,λx hx=>?_,YP.1 λi X L=>(pU (z i X L)).2.1,λi u=>?_⟩;obtain⟨i,u,rfl⟩:=yD.1 hx;have:=(pU (z i Z Z)).1;unfold bT at this;rw[A i u]at this;split at this;assumption;cases this;have:=zn (pU (z i Z Z)).2.2;rwa [zJ]at this;rintro⟨G,z,h3,h4⟩;unfold bH aT FN;rw[if_neg Z,vZ,qCn];intro i u;have u:=wG.1 u;have j:i<l.length:=Z;have e1:bT l (i:Int)=0:=by unfold bT;rw[A i j,if_pos (z _ (wM j))]
 have e2:=YP.2 h3 (i:Int) Z Z;have e3:b8 g (i:Int)=0:=by unfold b8;rw[zJ,if_pos (h4 i j)]
 have:nL l g (i:Int)=0:=by unfold nL;rw[e1,e2,e3];rfl
 rw[if_pos this]
theorem nY{α:Type}{j h:Int}(h0:0<=h)(A:α->ByteArray)(f:α->Bool)(xs:List α):bH j h (xs.map A) (xs.map f)=[] ↔
  (xs.length:Int)<=h/\(∀x∈xs,bK (A x)=true)/\xs.Pairwise (λa b=>(A a).toList≠(A b).toList)/\∀x∈xs,f x=true:=by
 rw[B8 h0,vT,qBi];constructor;rintro⟨h1,X,L,G⟩;refine⟨h1,λx u=>X _ (List.mem_map_of_mem u),L,λx u=>?_⟩;obtain⟨i,z,rfl⟩:=yD.1 u;have:=G i z;rwa [qA,qQ,qB z,yC,vK]at this;rintro⟨h1,X,L,G⟩;refine⟨h1,λx u=>?_,L,λi z=>?_⟩;obtain⟨y,hy,rfl⟩:=vU.1 u;exact X y hy;rw[qA,qQ,qB z,yC,vK];exact G _ (wM z)
theorem lV(A:LC)(u j:LB)(z:Lo)(f:Ll)(y:Lk)(h:noF (A,u,j,z,f,y)=true):(f.length:Int)<=40/\(∀x∈f,bK x.1=true)/\f.Pairwise (λa b=>a.1.toList≠b.1.toList)/\∀x∈f,dw (A,u,j,z,f,y) x=true:=
 (nY (by decide) (λl:Line=>l.1) (dw (A,u,j,z,f,y)) f).1 (mM A u j z f y h).2.2.2.2.1
theorem Walk.map{j f:Ll}(h:∀l∈j,∃r∈f,bw r=bw l/\lTo r=lTo l/\aV r<=aV l){a b:Nat}{n:Int}(w:Walk j a b n):∃m,m<=n/\Walk f a b m:=by
 induction w with
 |nil=>exact⟨0,qL _,.nil _⟩|snoc l z _ u=>
  obtain⟨m,hm,g⟩:=u;obtain⟨r,y,G,A,L⟩:=h l z;rw[<- G]at g;exact⟨m+aV r,Z,A▸.snoc r y g⟩
theorem Walk.ends{j f:Ll}(h:∀l∈j,∃r∈f,bw r=bw l/\lTo r=lTo l){a b:Nat}{n:Int}(w:Walk j a b n):∃m,Walk f a b m:=by
 induction w with
 |nil=>exact⟨0,.nil _⟩|snoc l z _ u=>
  obtain⟨m,g⟩:=u;obtain⟨r,y,G,A⟩:=h l z;rw[<- G]at g;exact⟨m+aV r,A▸.snoc r y g⟩
noncomputable def K18:Kt:=K16
noncomputable def K19:Kt:=kOr 9 (az [.row N] (λ(n,_)=>nK n=true) λ(n,_)=>.dat .bool (aZ n)) K18
theorem aDH:ay Tryz.prog G0 K18:=aHh
theorem pS{x:Int}(h:-1000000000<=x/\x<=1000000000):inR .i64 x:=by unfold inR;simp only;omega
theorem tC(A:LC)(u j:LB)(f:Lo)(y:Ll)(z:Lk)(h:noF (A,u,j,f,y,z)=true):(f.length:Int)<=12/\(∀x∈f,bK x.1=true)/\f.Pairwise (λa b=>a.1.toList≠b.1.toList)/\∀x∈f,du (A,u,j,f,y,z) x=true:=
 (nY (by decide) (λl:Off=>l.1) (du (A,u,j,f,y,z)) f).1 (mM A u j f y z h).2.2.2.1
theorem Qj(z:LC)(h f:LB)(y:Lo)(j:Ll)(u:Lk):aj Tryz.prog G0 9 [net z h f y j u] [] ⟨nK (z,h,f,y,j,u)=true,.dat .bool (aZ (z,h,f,y,j,u)),[]⟩:=by
 refine zF (c:=mkc K18) (A:=aE) aDH sJ hm (p:=let G:=(z,h,f,y,j,u);true/\(nK G->nK G/\Ee (Dh (fk G)) 0=aZ G/\True)) ⟨rfl,λL=>?_⟩;refine Z9 ?_;refine⟨L,?_⟩;unfold aZ;cases fk (z,h,f,y,j,u)with
 |nil=>rfl|cons a l=>
  show decide _=false;rw[wJ];show ¬((((a::l).length:Nat):Int)=0);rw[wH];omega
theorem aGe:ay Tryz.prog G0 K19:=ah (ae λ((z,h,f,y,j,u),_)=>Qj z h f y j u) aDH
theorem AX(A:LC)(y u:LB)(f:Lo)(j:Ll)(z:Lk):fk (A,y,u,f,j,z)=[]↔noF (A,y,u,f,j,z)=true/\aP f.length j f.length=[]:=by
 unfold fk;cases h:noF (A,y,u,f,j,z)with
 |true=>exact⟨λg=>⟨rfl,g⟩,λg=>g.2⟩|false=>
  constructor;intro g;have:noF (A,y,u,f,j,z)=true:=qx.2 g;rw[h]at this;cases this;intro g;cases g.1
def YM(a b:Int):Int:=a%b
def dF(d:Int):Bool:=decide (-1000000<=d/\d<=1000000)
def uO(d:Int):Prop:=-1000000000000<=d/\d<=1000000000000
def RF(b:Int):Prop:=0<b/\b<=1000000
abbrev qw(z:Int)(w:List Bool)(h:Li)(t:Int):Prop:=aW z w h=true/\-2000000000<=t/\t<=2000000000
abbrev nG(z:Int)(w:List Bool)(h:Li)(d m:Int):Prop:=aW z w h=true/\dF d=true/\0<=m/\m<1440
def jy(z t:Int):Int:=(t+z)/1440
def Oi(z t:Int):Int:=(t+z)%1440
def gY(z d m:Int):Int:=d*1440+m-z
abbrev ML:=az [.val I,.val I] (λ(a,b,_)=>uO a/\RF b) λ(a,b,_)=>.dat I (YM a b)
abbrev sq:=az [.val I] (λ_=>True) λ(a,_)=>.dat .bool (dF a)
def KT1:Kt:=kOr 128 ML <|
 kOr 129 sq K19
abbrev AG:=az [.row C,.val I] (λ(c,t,_)=>qw c.1 c.2.1 c.2.2 t) λ(c,t,_)=>.tup [.dat I (jy c.1 t),.dat I (Oi c.1 t)]
abbrev G9:=az [.row C,.val I,.val I] (λ(c,d,m,_)=>nG c.1 c.2.1 c.2.2 d m) λ(c,d,m,_)=>.dat I (gY c.1 d m)
def KT2:Kt:=kOr 71 AG <|
 kOr 72 G9 KT1
theorem aFo:eO 128 ML:=ae λ((a:Int),(b:Int),_)=>by
 refine zE (A:=aE) (p:=let j:=Dn (Gg a b) 0;let f:=Gg a b+b;(uO a/\RF b->b≠0/\(j->inR .i64 f/\f=YM a b/\True)/\(j=false->Gg a b=YM a b/\True))) aGe λ⟨⟨h1,X⟩,u,L⟩=>?_;have e:=qAt (a:=a) (b:=b);have e1:=gV a (show b≠0 by omega);have e2:=kQ a u;have z:(b.natAbs:Int)=b:=Int.natAbs_of_nonneg Z;simp only[Es,Dn,Gg,Dt,YM,inR,qF,wJ];by_cases hc:0<=a\/b ∣ a;rw[if_pos hc]at e;refine⟨Z,λh=>Z,λh=>⟨Z,trivial⟩⟩;rw[if_neg hc,z]at e;have G:a%b≠0:=λy=>hc (.inr (Int.dvd_of_emod_eq_zero y));refine⟨Z,λh=>⟨Z,Z,trivial⟩,λh=>Z⟩
theorem QS:eO 129 sq:=ae λ((a:Int),_)=>by
 refine zE (A:=aE) (p:=let f:=Eb a (-1000000);(True->L5 f ((Dj true f->f)/\Dz f (Eh a 1000000) false=dF a/\True))) aGe λ_=>⟨λh _=>h,λh=>by simpa[Dj]using h,?_,trivial⟩;rw[lj];simp[dF,Eb,Eh]
theorem aF9:ay Tryz.prog G0 KT1:=ah aFo<|ah QS aGe
theorem kI:eO 71 AG:=ae λ(((z:Int),(w:List Bool),(h:Li)),(t:Int),_)=>by
 refine zE (A:=aE) (p:=let X:=Di (aW z w h);let j:=Di X;let L:=Dz X true (Dn t (-2000000000));let f:=Di L;let G:=Dz L true (Ef t 2000000000);let u:=YM (t+z) 1440;let A:=(t+z)-u;let y:=Gq A 1440;(qw z w h t->True/\L5 j ((Dj true j->j)/\L5 f ((Dj true f->f)/\(G->0=jy z t/\0=Oi z t/\True)/\(G=false->inR .i64 (t+z)/\(uO (t+z)/\RF 1440)/\inR .i64 A/\Es 1440 0/\inR .i64 y/\y=jy z t/\u=Oi z t/\True))))) aF9 λ⟨u,h1,h2⟩=>?_;obtain⟨⟨v1,v2,v3,v4⟩,_⟩:=dZ.1 u;have a1:¬t < -2000000000:=Z;have a2:¬t>2000000000:=Z;simp only[qc.1,u,a1,a2,xd,lj,Dj,Di,yM,qBe,yG,wB,qBa,gB,kE,xO,xG,Dn,Ef,qAj,zD,wZ,qAc,kU,qAx,qAy,qBd,qAv,gG,Es,Dk,Dt,Gq,inR,YM,jy,Oi,uO,RF];have e0:=gV (t+z) (show(1440:Int)≠0 by omega);have e1:=kQ (t+z) (show(0:Int)<1440 by omega);have e3:t+z-(t+z)%1440=1440*((t+z)/1440):=Z;rw[e3,qCt _ Z];omega
theorem aCo:eO 72 G9:=ae λ(((z:Int),(w:List Bool),(h:Li)),(d:Int),(m:Int),_)=>by
 refine zE (A:=aE) (p:=let c1:=Di (aW z w h);let f:=Di c1;let X:=Dz c1 true (Di (dF d));let u:=Di X;let L:=Dz X true (Dn m 0);let y:=Di L;let A:=Dz L true (Eb m 1440);let G:=d*1440;let c9:=G+m;let j:=c9-z;(nG z w h d m->True/\L5 f ((f->True)/\L5 f ((Dj true f->f)/\L5 u ((Dj true u->u)/\L5 y ((Dj true y->y)/\(A->0=gY z d m/\True)/\(A=false->inR .i64 G/\inR .i64 c9/\inR .i64 j/\j=gY z d m/\True))))))) aF9 λ⟨y,hd,h1,h2⟩=>?_;obtain⟨⟨v1,v2,v3,v4⟩,_⟩:=dZ.1 y;have a1:¬m<0:=Z;have a2:¬m≥1440:=Z;simp only[qc.1,y,hd,a1,a2,xd,lj,Dj,Di,yM,qBe,yG,wB,qBa,gB,kE,xO,xG,Dn,Eb,qAj,zD,wZ,qAc,kU,qAx,qAy,qBd,qAv,gG,Dk,Dt,Em,inR,gY];unfold dF at hd;have:=vJ hd;omega
theorem aF8:ay Tryz.prog G0 KT2:=ah kI<|ah aCo aF9
def II(h:Li)(d i:Int):Bool:=decide (h.getD i.toNat 0≥d)
def Xt(h:Li)(i:Int):Prop:=0<=i/\i<h.length
def jv(g:Int->Bool)(n:Int):Int:=(((List.range n.toNat).filter λ(i:Nat)=>!g (i:Int)).length:Int)
def lM(g:Int->Bool)(pre:Int->Prop)(n:Int):Prop:=0<=n/\n<=1000000/\(∀i,0<=i->i<n->pre i)/\∀i j,0<=i->i<=j->j<n->g i=true->g j=true
def mJ(g:Int->Bool)(n i j:Int):Prop:=0<=i/\i<=j/\j<=n/\(0<i->g (i-1)=false)/\(j<n->g j=true)
def atS(h:Li)(d:Int):Int:=jv (II h d) h.length
def bF(w:List Bool)(h:Li)(d:Int):Bool:=w.getD (d%7).toNat false&&!h.contains d
def p1(x:Int×Int):Int:=x.1
def p2(x:Int×Int):Int:=x.2
def yo(w:List Bool)(h:Li):Prop:=w.length=7/\h.length<=40/\∀i:Nat,i+1<h.length->h.getD i 0<h.getD (i+1) 0
instance (w:List Bool) (h:Li):Decidable (yo w h):=decidable_of_iff (w.length=7/\h.length<=40/\∀i:Nat,i<h.length->i+1<h.length->h.getD i 0<h.getD (i+1) 0) ⟨λ⟨a,b,c⟩=>⟨a,b,λi hi=>c i Z hi⟩,λ⟨a,b,c⟩=>⟨a,b,λi _ hi=>c i hi⟩⟩
def gO(g:Int->Bool)(n:Int):Ann:=Z8 2 (Int×Int) (λx=>mJ g n (p1 x) (p2 x)) (λs x=>put s [(5,.dat I (p1 x)),(6,.dat I (p2 x))]) λx=>Dc (Dk (p2 x) (p1 x))
def KT3:Kt:=λf args m=>match f,args,m with|249,[.dat (.int .i64) i,.ip (.pair (.int .i64) (.pair (.sl .bool) (.sl (.int .i64)))) c,.ip (.int .i64) d],[]=>some ⟨Xt c.2.2 i,.dat .bool (II c.2.2 d i),[]⟩|248,[.dat (.int .i64) n,.fn 249 [.ip (.pair (.int .i64) (.pair (.sl .bool) (.sl (.int .i64)))) c,.ip (.int .i64) d]],[]=>some ⟨lM (II c.2.2 d) (Xt c.2.2) n,.dat I (jv (II c.2.2 d) n),[]⟩|_,_,_=>KT2 f args m
def aEu:Ann:=⟨λ_ _=>none,λf s=>match f with
 |3=>some (frz (allNames s) s)|_=>none,λ_ _=>none⟩
def KT4:Kt:=λf args m=>match f,args,m with|247,[.dat (.int .i64) d,.ia .bool w,.ip (.pair (.int .i64) (.pair (.sl .bool) (.sl (.int .i64)))) c],[]=>some ⟨yo w c.2.2/\uO d,.dat .bool (bF w c.2.2 d),[]⟩|193,[.agg [.dat (.int .i64) z,.dat (.sl .bool) w,.dat (.sl (.int .i64)) h]],[]=>some ⟨Dl w=7,.fn 247 [.ia .bool w,.ip C (z,w,h)],[]⟩|_,_,_=>KT3 f args m
theorem Y7{h:Li}(f:∀i:Nat,i+1<h.length->h.getD i 0<h.getD (i+1) 0):∀(k i:Nat),i+k+1<h.length->h.getD i 0<h.getD (i+k+1) 0
 |0,i,j=>f i j|k+1,i,j=>by
  have y:=Y7 f k i Z;have u:=f (i+k+1) Z;have e:i+(k+1)+1=i+k+1+1:=Z;rw[e];omega
theorem JG{h:Li}(u:∀i:Nat,i+1<h.length->h.getD i 0<h.getD (i+1) 0){i j:Nat}(f:i<j)(y:j<h.length):h.getD i 0<h.getD j 0:=by
 have:=Y7 u (j-i-1) i Z;rwa [show i+(j-i-1)+1=j by omega]at this
theorem og{g:Int->Bool}{i:Nat}:∀N:Nat,(∀x:Nat,x<N->g (x:Int)=decide (i<=x))->((List.range N).filter λ(x:Nat)=>!g (x:Int)).length=min i N
 |0,_=>by simp|N+1,h=>by
  rw[yK,yF,qG,og N λx j=>h x Z];by_cases f:i<=N;have e:g (N:Int)=true:=by rw[h N Z];simpa using f
  simp only[yV,e,kE,gQ,wZ,kX,yR];omega;have e:g (N:Int)=false:=by rw[h N Z];simpa using f
  simp only[yV,e,xG,gQ,kJ,wH,yR];omega
theorem search_end{g:Int->Bool}{pre:Int->Prop}{n i j:Int}(X:lM g pre n)(L:mJ g n i j)(he:¬i<j):i=jv g n:=by
 obtain⟨p0,_,_,y⟩:=X;obtain⟨G,t1,t2,A,z⟩:=L;have u:i=j:=Z;subst u;have h:∀x:Nat,x<n.toNat->g (x:Int)=decide (i.toNat<=x):=λx hx=>by
  by_cases f:i.toNat<=x;rw[qP f];exact y i x G Z Z (z Z);rw[qV f];cases hg:g (x:Int)with
  |false=>rfl|true=>
   have:=y x (i-1) Z Z Z hg;rw[A Z]at this;cases this
 unfold jv;rw[og _ h];omega
theorem VJ(n:Int)(pre:Int->Prop)(g:Int->Bool):aj Tryz.prog G0 248 [.dat I n,.clo1 I .bool pre g] [] ⟨lM g pre n,.dat I (jv g n),[]⟩:=by
 refine zE (A:=(lvA [(2,[1,4,5,6,7])] (gO g n))) (p:=let h:=Ty.int .i64;(lM g pre n->(∃x,mJ g n (p1 x) (p2 x)/\L7 (AV.clo1 h Ty.bool pre g) V6 (0=p1 x/\n=p2 x/\True))/\∀(x:Int×Int),let c1:=Dn (p1 x) (p2 x);let c2:=p1 x+p2 x;let f:=Gl c2 1;let c4:=Di (g f);let c5:=f+1;mJ g n (p1 x) (p2 x)->(c1->inR .i64 c2/\inR IntKind.u64 c2/\Dp 0 1/\Dc 1<=64/\inR .i64 f/\pre f/\(c4->inR .i64 c5/\∃y,mJ g n (p1 y) (p2 y)/\(L7 (AV.clo1 h Ty.bool pre g) V6 (c5=p1 y/\p2 x=p2 y/\True))/\Dc (p2 y-p1 y)<Dc (p2 x-p1 x))/\(c4=false->∃y,mJ g n (p1 y) (p2 y)/\(L7 (AV.clo1 h Ty.bool pre g) V6 (p1 x=p1 y/\f=p2 y/\True))/\Dc (p2 y-p1 y)<Dc (p2 x-p1 x)))/\(c1=false->p1 x=jv g n/\True))) aF8 λu=>?_;have L:=u.1;have hp1:=u.2.1;have G:∀x:Int,0<=x->Gl x 1=x/2:=λx z=>by
  simp only[Gl];rw[show(2:Int) ^ (1:Int).toNat=2 by decide,qCh _ Z]
 simp only[qc.1,Di,qBe,yG,wB,zD,kC,Dn,Dp,Dy,Dk,Dt,Dx,Dc,qF,wJ];refine⟨⟨(0,n),⟨qL _,L,qL _,λh=>absurd h (by simp only[p1];omega),λh=>absurd h (by simp only[p2];omega)⟩,rfl,rfl⟩,λx z=>⟨λX=>?_,λhge=>search_end u z hge⟩⟩;obtain⟨i,j⟩:=x;obtain⟨t0,t1,t2,t3,t4⟩:=z;simp only[p1,p2]at t0 t1 t2 t3 t4 X ⊢;rw[G (i+j) Z];simp only[inR];refine⟨Z,Z,Z,by decide,Z,u.2.2.1 _ Z Z,λhg=>⟨Z,((i+j)/2+1,j),⟨by simp only;omega,by simp only;omega,t2,λ_=>?_,t4⟩,⟨rfl,rfl⟩,by simp only;omega⟩,
  λhg=>⟨(i,(i+j)/2),⟨t0,by simp only;omega,by simp only;omega,t3,λ_=>hg⟩,⟨rfl,rfl⟩,by simp only;omega⟩⟩
 simp only[Int.add_sub_cancel];exact hg
theorem aGp(i d:Int)(c:C.den):aj Tryz.prog G0 249 [.dat I i,.ip C c,.ip I d] [] ⟨Xt c.2.2 i,.dat .bool (II c.2.2 d i),[]⟩:=
 zE (A:=aE) (p:=(Xt c.2.2 i->0<=i/\i<Dh c.2.2/\Eb (Dw c.2.2 (Dc i) 0) d=II c.2.2 d i/\True)) aF8 λh=>⟨h.1,h.2,rfl,trivial⟩
theorem QP(n d:Int)(c:C.den):aj Tryz.prog G0 248 [.dat I n,.fn 249 [.ip C c,.ip I d]] [] ⟨lM (II c.2.2 d) (Xt c.2.2) n,.dat I (jv (II c.2.2 d) n),[]⟩:=
 (VJ n (Xt c.2.2) (II c.2.2 d)).args λC us z y=>by
  obtain⟨u,h,e,L,j,f,X,G,A⟩:=y;exact⟨u,h,e,L,j,f,X,OY (by kernel_rfl) rfl (λx=>aGp x d c) z G,A⟩
theorem aF7:ay Tryz.prog G0 KT3:=by
 intro f args m c h;unfold KT3 at h;split at h;cases h;exact aGp _ _ _;cases h;exact QP _ _ _;exact aF8 _ _ _ _ h
theorem Nx{h:Li}(z:∀i:Nat,i+1<h.length->h.getD i 0<h.getD (i+1) 0)(d:Int):
  0<=atS h d/\atS h d<=h.length/\(∀i:Nat,(i:Int)<atS h d->h.getD i 0<d)/\∀i:Nat,atS h d<=i->i<h.length->d<=h.getD i 0:=by
 have X:∃k:Nat,k<=h.length/\(∀i:Nat,i<k->h.getD i 0<d)/\∀i:Nat,k<=i->i<h.length->d<=h.getD i 0:=by
  have:∀N:Nat,N<=h.length->∃k:Nat,k<=N/\(∀i:Nat,i<k->h.getD i 0<d)/\∀i:Nat,k<=i->i<N->d<=h.getD i 0:=by
   intro N;induction N with
   |zero=>intro _;exact⟨0,qN _,λi z=>Z,λi _ z=>Z⟩
   |succ N ih=>
    intro hN;obtain⟨k,k1,j,u⟩:=ih Z;by_cases hk:k<N;refine⟨k,Z,j,λi G A=>?_⟩;rcases zO i N with y|y;exact u i G y;have L:i=N:=by omega
    have:=u k (qN _) hk;have:=JG z hk (show N<h.length by omega);rw[L];omega;have ek:k=N:=by omega
    subst ek;by_cases hd:h.getD k 0<d;refine⟨k+1,qN _,λi hi2=>?_,λi G A=>Z⟩;rcases zO i k with y|y;exact j i y;rw[show i=k by omega];exact hd;exact⟨k,Z,j,λi G A=>by rw[show i=k by omega];omega⟩
  exact this h.length (qN _)
 obtain⟨k,k1,j,u⟩:=X;have e:atS h d=k:=by
  unfold atS jv;rw[og (i:=k) _ (λx hx=>?_)];omega;unfold II;simp only[zJ];by_cases f:k<=x;rw[qP f];exact qP (u x f Z);have:=j x Z;rw[qV f];exact qV Z
 rw[e];exact⟨Z,Z,λi z=>j i Z,λi G A=>u i Z A⟩
theorem Ta{w:List Bool}{h:Li}(u:yo w h)(d:Int):lM (II h d) (Xt h) h.length:=by
 refine⟨Z,by have:=u.2.1;omega,λi y L=>⟨y,L⟩,λi j y A X f=>?_⟩;unfold II at f ⊢;simp only[qF]at f ⊢;rcases qCu i j with z|G;have:=JG u.2.2 (show i.toNat<j.toNat by omega) Z;omega;rw[show j=i by omega];exact f
theorem ZD{w:List Bool}{h:Li}(L:yo w h)(d:Int):(decide (atS h d=h.length)||(h.getD (atS h d).toNat 0 != d))=!h.contains d:=by
 obtain⟨g0,g1,g2,g3⟩:=Nx L.2.2 d;obtain⟨k,hk⟩:∃k,k=atS h d:=⟨_,rfl⟩;rw[<- hk]at g0 g1 g2 g3 ⊢;have j:d∈h↔k<h.length/\h.getD k.toNat 0=d:=by
  constructor;intro hm;obtain⟨i,G⟩:=kN.1 hm;have A:=(qE.1 G).1;have e:h.getD i 0=d:=by rw[qA,G];rfl
  have X:k<=i:=by
   rcases qCu (i:Int) k with f|z;have:=g2 i f;omega;exact z
  have u:k.toNat=i:=by
   rcases zO k.toNat i with f|z;have:=JG L.2.2 f A;have:=g3 k.toNat Z Z;omega;omega
  exact⟨Z,by rw[u];exact e⟩;rintro⟨X,u⟩;have f:k.toNat<h.length:=Z;rw[qA,qB f]at u;simp only[vK]at u;rw[<- u];exact wM _
 by_cases hd:d∈h;obtain⟨X,u⟩:=j.1 hd;have:h.contains d=true:=by simpa using hd
 rw[this,u];have:¬k=h.length:=Z;simp[this];have:h.contains d=false:=by simpa using hd
 rw[this];by_cases y:k=h.length;simp[y];have:h.getD k.toNat 0≠d:=λe=>hd (j.2 ⟨Z,e⟩);simp only[y,qAj,xO,xG,qCm,ne_eq];exact this
theorem iA(d:Int)(wk:List Bool)(c:C.den):aj Tryz.prog G0 247 [.dat I d,.ia .bool wk,.ip C c] [] ⟨yo wk c.2.2/\uO d,.dat .bool (bF wk c.2.2 d),[]⟩:=by
 obtain⟨z,w,h⟩:=c;refine zE (A:=aEu) (p:=let X:=Dh h;let y:=YM d 7;let c2:=Dw wk (Dc y) false;let u:=Di c2;let c4:=(z,w,h);let j:=jv (II h d) X;let A:=Ee j X;let f:=Di A;(yo wk h/\uO d->(uO d/\RF 7)/\Dl wk=7/\0<=y/\y<Ec 7/\(u->false=bF wk h d/\True)/\(u=false->L4 d wk c4 d false d y c2 c2 (u=u/\lM (II h d) (Xt h) X/\Q4 f ((f->0<=j)/\(f->j<Dh h)/\Q4 f ((Dj true f->f)/\Dz A true (Ea (Dw h (Dc j) 0) d)=bF wk h d/\True)))))) aF7 λ⟨f,hd⟩=>?_;have hs:=Ta f d;obtain⟨g0,g1,g2,g3⟩:=Nx f.2.2 d;have e0:=gV d (show(7:Int)≠0 by omega);have e1:=kQ d (show(0:Int)<7 by omega);have ea:jv (II h d) (Dh h)=atS h d:=rfl;have L:lM (II h d) (Xt h) (Dh h):=hs;simp only[qc.1,ea,L,xd,lj,Dj,Di,yM,qBe,yG,wB,qBa,gB,zD,kC,YM,Dw,Dc,Ee,Ea,Dp,Dq,Dh,Ec,Dl,kW];refine⟨⟨hd,Z,Z⟩,f.1,e0,by exact_mod_cast e1,λG=>?_,λG=>⟨λ_=>g0,λhne=>Z,?_⟩⟩;unfold bF;rw[G];rfl;unfold bF;rw[G,yM,<- ZD f d];congr 1
theorem VI(z:Int)(w:List Bool)(h:Li):aj Tryz.prog G0 193 [cal z w h] [] ⟨Dl w=7,.fn 247 [.ia .bool w,.ip C (z,w,h)],[]⟩:=by
 refine zE (A:=aE) (p:=let j:=Gi 7 false;let u:=Gn j w;let y:=(z,w,h);(Dl w=7->L7 0 7 (Dl j=7/\Dl j=7/\Dl u=7/\0=0/\u=w/\T5 y))) aF7 λf=>?_;have f:w.length=7:=f;have e:Gn (Gi 7 false) w=w:=by
  simp only[Gn,Gi,yL,<- f,qAe];rw[yB (by simp),vZ]
 refine⟨rfl,rfl,by simp[Dl,Gi],by simp[Dl,Gi],by rw[e];exact f,rfl,e,rfl,trivial⟩
theorem aDC:ay Tryz.prog G0 KT4:=by
 intro f args m c h;unfold KT4 at h;split at h;cases h;exact iA _ _ _;cases h;exact VI _ _ _;exact aF7 _ _ _ _ h
theorem C2{z:Int}{w:List Bool}{h:Li}(y:aW z w h=true):yo w h:=by
 obtain⟨⟨_,_,u,j⟩,f⟩:=dZ.1 y;exact⟨u,j,f⟩
theorem WE{d:Int}(hd:dF d=true):uO d:=by
 unfold dF at hd;have:=vJ hd;exact⟨Z,Z⟩
abbrev Hg:=az [.row C,.val I] (λ(c,d,_)=>aW c.1 c.2.1 c.2.2=true/\dF d=true) λ(c,d,_)=>.dat .bool (bF c.2.1 c.2.2 d)
theorem aCv:eO 286 Hg:=ae λ(((z:Int),(w:List Bool),(h:Li)),(d:Int),_)=>by
 refine zE (A:=aE) (p:=let j:=aW z w h;let f:=Dz j (dF d) false;(aW z w h/\dF d->True/\L5 j ((aW z w h->True)/\(Dj true j->aW z w h)/\L5 f ((f->Dl w=7)/\Q2 f ((f->yo w h/\uO d)/\(Dj true f->f)/\Dz f (bF w h d) false=bF w h d/\True))))) aDC λ⟨u,hd⟩=>?_;have y:=C2 u;simp only[qc.1,u,hd,lj,Dj,yM,qBe,yG,wB,qBa,gB,gG,Dl];exact⟨y.1,y,WE hd⟩
def dK(w:List Bool)(h:Li)(a n:Int):Li:=((List.range n.toNat).map λ(i:Nat)=>a+(i:Int)).filter λd=>bF w h d
def lH(w:List Bool)(h:Li)(a d:Int):Nat:=(((List.range (d-a).toNat).map λ(i:Nat)=>a+(i:Int)).filter λd=>bF w h d).length
abbrev OR(w:List Bool)(h:Li)(a n:Int):Prop:=yo w h/\-1000000000<=a/\a<=1000000000/\-100000000<=n/\n<=100000000
def mr(a n d:Int):Prop:=a<=d/\(d<=a+n\/d=a)
def jP(w:List Bool)(h:Li)(d:Int):Option Int:=(dK w h d 60).head?
def fO(w:List Bool)(h:Li)(d:Int):Int:=(jP w h d).getD 0
def gR(w:List Bool)(h:Li)(d:Int):Int:=if(jP w h d).isSome then 0 else 20
abbrev Zo(z:Int)(w:List Bool)(h:Li)(d:Int):Prop:=aW z w h=true/\dF d=true
def isZ(k:Nat):Prop:=k=0
def aDh(w:List Bool)(h:Li)(a n:Int):ID:=⟨λf y=>match f with
 |1=>some {α:=Int,inv:=λd=>mr a n d,st:=λd=>⟨put y.s [(5,.dat I d)],lH w h a d,true⟩,μ:=λd=>Dc (Dk (Dt a n) d)}|_=>none,λ_ _=>none,λf=>f==3⟩
theorem U7(z a n:Int)(w G:List Bool)(h:Li)(j:
 let A:=(z,G,h);let c2:=dK w h a n;let u:=Dl c2;true/\true/\true/\false=false/\∀(l:Nat),OR w h a n->(∃x,mr a n x/\(T6 l a n w A (a=x/\T5 a))/\0=lH w h a x/\true)/\∀(x:Int),let X:=Dn x (a+n);let f:=lH w h a x;let c6:=f+1;let c7:=x+1;let L:=Dz (bF w h x) (Di false) false;mr a n x->inR .i64 (a+n)/\(X->(yo w h/\uO x)/\(bF w h x->(bF w h x->bF w h x)/\(bF w h x->bF w h x)/\l=l/\true/\oD c2 f x/\∀(b:Bool),let c9:=Dz (bF w h x) (Di b) false;(Dj true (bF w h x)->bF w h x)/\(c9->b->c6=u)/\(c9=false->inR IntKind.i64 c7/\∃y,mr a n y/\((T6 l a n w A (c7=y/\T5 a))/\c6=lH w h a y/\b)/\Dc ((a+n)-y)<Dc ((a+n)-x)))/\(bF w h x=false->L5 (bF w h x) ((Dj true (bF w h x)->bF w h x)/\(L->true->f=u)/\(L=false->inR .i64 c7/\∃y,mr a n y/\((T6 l a n w A (c7=y/\T5 a))/\f=lH w h a y/\true)/\Dc ((a+n)-y)<Dc ((a+n)-x)))))/\(X=false->true->f=u)):
  evI (mkc KT4) (aDh w h a n) 194 [.ip I a,.ip I n,.ipv (.fn 247 [.ia .bool w,.ip C (z,G,h)])] ⟨OR w h a n,I,dK w h a n⟩:=oE_ j
abbrev He:=az [.row C,.val I,.val I] (λ(c,_,_,_)=>Dl c.2.1=7) λ(c,a,n,_)=>.fn 194 [.ip I a,.ip I n,.ipv (.fn 247 [.ia .bool c.2.1,.ip C c])]
def KR1:Kt:=kOr 130 He KT4
def aEr:FuncId->List AV->Option iJ:=λf h=>match f,h with|194,[.ip (.int .i64) a,.ip (.int .i64) n,.ipv (.fn 247 [.ia .bool w,.ip (.pair (.int .i64) (.pair (.sl .bool) (.sl (.int .i64)))) c])]=>some ⟨OR w c.2.2 a n,I,dK w c.2.2 a n⟩|_,_=>none
def flat(s:St):St:={s with tm:=s.tm.map aBV}
def aFD:Ann:=Z8 4 Nat isZ (λs _=>flat s) λk=>k
noncomputable def aGr(K:Kt):Cfg:=⟨Tryz.prog,G0,K,λ_=>false,aEr,true,λ_ _ _=>none,λ_=>false⟩
theorem aCt:eO 130 He:=ae λ(((z:Int),(w:List Bool),(h:Li)),(a:Int),(n:Int),_)=>by
 refine zE (A:=aE) (p:=let f:=Ty.bool.sl.pair (Ty.int .i64).sl;(Dl w=7->Dl w=7/\w6 1 0 a n 1 0 (AV.fn 247 [AV.ia Ty.bool w,AV.ip ((Ty.int IntKind.i64).pair f) (z,w,h)]=AV.fn 247 [AV.ia Ty.bool w,AV.ip ((Ty.int .i64).pair f) (z,w,h)]/\True))) aDC λj=>?_;exact⟨j,rfl,rfl,rfl,rfl,rfl,rfl,rfl,trivial⟩
theorem aGa:ay Tryz.prog G0 KR1:=ah aCt aDC
theorem TB{α:Type}{f:Nat->α}{p:α->Bool}{k:Nat}(u:p (f k)=true):∀N:Nat,k<N->(((List.range N).map f).filter p)[(((List.range k).map f).filter p).length]?=some (f k)
 |0,h=>Z|N+1,h=>by
  rw[yK,wV,yF];rcases zO k N with y|y;have j:=TB u N y;rw[vY (qE.1 j).1];exact j;have e:N=k:=by omega
  subst e;rw[qZ (qN _),qAk];simp[u]
theorem Ur{w:List Bool}{h:Li}{a n x:Int}(y:a<=x)(u:x<a+n)(j:bF w h x=true):oD (dK w h a n) (lH w h a x) x:=by
 have e:a+((x-a).toNat:Int)=x:=Z;have:=TB (f:=λ(i:Nat)=>a+(i:Int)) (p:=λd=>bF w h d) (k:=(x-a).toNat) (by simp only[e];exact j) n.toNat Z;simp only[e]at this;exact this
theorem tK{w:List Bool}{h:Li}{a x:Int}(f:a<=x):lH w h a (x+1)=lH w h a x+(if bF w h x then 1 else 0):=by
 unfold lH;rw[show(x+1-a).toNat=(x-a).toNat+1 by omega,yK,wV,yF,qG];have e:a+((x-a).toNat:Int)=x:=Z;congr 1;simp only[wR,qBv,e,yV,gQ];split<;>simp_all
theorem Np(w:List Bool)(h:Li)(a:Int):lH w h a a=0:=by
 unfold lH;rw[show(a-a).toNat=0 by omega];rfl
theorem cnt_end{w:List Bool}{h:Li}{a n x:Int}(f:mr a n x)(j:¬x<a+n):lH w h a x=(dK w h a n).length:=by
 unfold lH dK;obtain⟨y,u⟩:=f;rw[show(x-a).toNat=n.toNat by omega]
theorem aCr(a n:Int)(w:List Bool)(c:C.den):lI Tryz.prog G0 194 [.ip I a,.ip I n,.ipv (.fn 247 [.ia .bool w,.ip C c])] ⟨OR w c.2.2 a n,I,dK w c.2.2 a n⟩:=by
 obtain⟨z,X,h⟩:=c;refine qT (c:=mkc KT4) (A:=aDh w h a n) aDC sJ hm ?_;refine U7 z a n w X h ⟨rfl,rfl,rfl,rfl,λl ⟨hc,b1,b2,b3,b4⟩=>?_⟩;simp only[qc.1,xd,lj,Dj,Di,yM,qBe,yG,wB,qBa,gB,kE,xG,xO,qAx,qBd,qAy,kU,qAc,zD,kC,wZ,gI,reduceCtorEq,qAv,gG,Dn,Ef,Eb,Eh,Dk,Dt,Dx,Dc,Dl,Ec,Ed,qF,wJ,qAj,qCy];refine⟨⟨a,⟨qL _,.inr rfl⟩,rfl,(Np w h a).symm⟩,λx u=>?_⟩;have f:=u.1;have hx2:=u.2;refine⟨⟨Z,Z⟩,λy=>⟨⟨hc,Z,Z⟩,λj=>?_,λj=>?_⟩,λG=>cnt_end u G⟩;simp only[qc.1,j,xd,lj,Dj,Di,yM,qBe,yG,wB,qBa,gB,kE,xG,xO,qAx,qBd,qAy,kU,qAc,zD,kC,wZ,gI,reduceCtorEq,qAv,gG,Dn,Ef,Eb,Eh,Dk,Dt,Dx,Dc,Dl,Ec,Ed,qF,wJ,qAj,qCy];refine⟨Ur f y j,λb=>⟨λe1 L=>(by rw[e1]at L;cases L),λhb=>⟨⟨Z,Z⟩,x+1,⟨Z,.inl Z⟩,⟨rfl,?_,hb⟩,Z⟩⟩⟩;rw[tK f,j];rfl;simp only[qc.1,j,xd,lj,Dj,Di,yM,qBe,yG,wB,qBa,gB,kE,xG,xO,qAx,qBd,qAy,kU,qAc,zD,kC,wZ,gI,reduceCtorEq,qAv,gG,Dn,Ef,Eb,Eh,Dk,Dt,Dx,Dc,Dl,Ec,Ed,qF,wJ,qAj,qCy];refine⟨⟨Z,Z⟩,x+1,⟨Z,.inl Z⟩,⟨rfl,?_⟩,Z⟩;rw[tK f,j];rfl
theorem aBs:aR Tryz.prog G0 aEr:=by
 intro f j c h;unfold aEr at h;split at h;cases h;exact aCr _ _ _ _;cases h
theorem okd{d:Int}(hd:dF d=true): -1000000<=d/\d<=1000000:=by
 unfold dF at hd;exact vJ hd
abbrev Ha:=az [.row C,.val I] (λ(c,d,_)=>Zo c.1 c.2.1 c.2.2 d) λ(c,d,_)=>.tup [.dat I (fO c.2.1 c.2.2 d),.dat I (gR c.2.1 c.2.2 d)]
theorem aCp:eO 126 Ha:=ae λ(((z:Int),(w:List Bool),(h:Li)),(d:Int),_)=>by
 refine zF (c:=aGr KR1) (A:=aFD) aGa aBs hm (p:=let j:=Di (aW z w h);let u:=Di j;let L:=Dz j true (Di (dF d));let G:=(z,w,h);let c5:=dK w h d 60;true/\(Zo z w h d->True/\L5 u ((u->True)/\L5 u ((Dj true u->u)/\(L->z8 1 0 1 0 1 0 1 0 (0=fO w h d/\1=gR w h d/\True))/\(L=false->Dl w=7/\OR w h d 60/\(∃x,isZ x/\x=0/\z=z/\w=w/\h=h/\d=d/\G=G/\1=1/\0=0/\0=0/\1=1/\0=0/\0=0/\z=z/\w=w/\h=h/\aW z w h=aW z w h/\j=j/\j=j/\L=L/\z=z/\w=w/\h=h/\d=d/\d=d/\(60:Int)=(60:Int)/\w=w/\G=G/\(0:Int)=(0:Int)/\(0:Int)=(0:Int)/\True)/\(∀(x:Nat) (y:Int),isZ x->oD c5 x y->z8 1 0 1 0 1 0 1 0 (y=fO w h d/\0=gR w h d/\True))/\∀(x:Nat),isZ x->x=Dl c5->z8 1 0 1 0 1 0 1 0 (0=fO w h d/\20=gR w h d/\True)))))) ⟨rfl,λ⟨hv,hd⟩=>?_⟩;have hc:=C2 hv;have hd':=okd hd;simp only[qc.1,hv,hd,xd,lj,Dj,Di,yM,qBe,yG,wB,qBa,gB,kE,xG,xO,qAx,qBd,qAy,kU,qAc,zD,kC,wZ,gI,reduceCtorEq,qAv,gG,Dn,Ef,Eb,Eh,Dk,Dt,Dx,Dc,Dl,Ec,Ed,qF,wJ,qAj,qCy];refine⟨hc.1,⟨hc,Z,Z,Z,Z⟩,⟨0,rfl,rfl⟩,λx y f X=>?_,λx f hl=>?_⟩;have f:x=0:=f;subst f;have:jP w h d=some y:=by
  have X:(dK w h d 60)[0]?=some y:=X;unfold jP;rw[qBm];exact X
 simp[fO,gR,this];have f:x=0:=f;subst f;have:jP w h d=none:=by
  unfold jP;rw[vI hl.symm];rfl
 simp[fO,gR,this]
theorem pE{w:List Bool}{h:Li}{a n y:Int}(f:y∈dK w h a n):a<=y/\y<a+n/\bF w h y=true:=by
 unfold dK at f;obtain⟨z,u⟩:=xJ.1 f;obtain⟨i,j,rfl⟩:=vU.1 z;have:=wG.1 j;exact⟨Z,Z,u⟩
abbrev US(t:TypeId)(e:Int):Value:=.iface t (.int .i64 e)
abbrev Stp:Ty:=.pair I (.pair I (.pair I I))
abbrev Stop:=Int×Int×Int×Int
abbrev Pl:Ty:=.pair I (.pair I (.pair M (.sl M)))
abbrev Plan:=Int×Int×Lj×List (Lj)
abbrev Po:Ty:=.pair S (.pair I (.pair I (.pair I I)))
def bO(t:Int):Bool:=decide (0<=t/\t<=2000000)
def dd(n:Net)(o:Int):Off:=n.2.2.2.1.getD o.toNat (⟨#[]⟩,0,0,0,0,0,[])
def GF(n:Net)(l:Int):Line:=n.2.2.2.2.1.getD l.toNat (⟨#[]⟩,0,0,0,0,0)
def aM(n:Net)(o:Int):Int×List Bool×Li:=n.1.getD (dd n o).2.2.1.toNat (0,[],[])
def cE(n:Net)(l:Int):Int:=(GF n l).2.1
def tH(n:Net)(l:Int):Int:=(GF n l).2.2.1
def Gw(n:Net)(l:Int):Int:=(GF n l).2.2.2.1
def eJ(n:Net)(l:Int):Int:=(GF n l).2.2.2.2.1
abbrev tA(n:Net)(o:Int):Prop:=noF n=true/\0<=o/\o<n.2.2.2.1.length
abbrev DJ(n:Net)(l:Int):Prop:=noF n=true/\0<=l/\l<n.2.2.2.2.1.length
def kg(n:Net)(o l:Int):Bool:=decide (l=-1)||(cw l n.2.2.2.2.1.length&&decide (cE n l=o))
def rowOk(n:Net)(o:Int)(row:Li):Bool:=decide ((row.length:Int)=n.2.2.2.1.length)&&row.all (kg n o)
def nC(n:Net)(nx:Lj):Bool:=decide ((nx.length:Int)=n.2.2.2.1.length)&&(List.range nx.length).all λi=>rowOk n i (nx.getD i [])
abbrev jb(nx:Lj):Prop:=nx.length<=1000000/\∀r∈nx,r.length<=1000000
def ij(n:Net)(nx:Lj)(k:Int):Prop:=0<=k/\k<=nx.length/\(nx.length:Int)=n.2.2.2.1.length/\∀i:Nat,(i:Int)<k->rowOk n i (nx.getD i [])=true
def ky(n:Net)(o:Int)(row:Li)(k:Int):Prop:=0<=k/\k<=row.length/\(row.length:Int)=n.2.2.2.1.length/\∀i:Nat,(i:Int)<k->kg n o (row.getD i 0)=true
def d0F(c:Int×List Bool×Li)(m t:Int):Int:=if m<Oi c.1 t then jy c.1 t+1 else jy c.1 t
def fX(c:Int×List Bool×Li)(m t:Int):Int:=if gR c.2.1 c.2.2 (d0F c m t)=0 then gY c.1 (fO c.2.1 c.2.2 (d0F c m t)) m else 0
def mT(c:Int×List Bool×Li)(m t:Int):Int:=gR c.2.1 c.2.2 (d0F c m t)
abbrev IJ(c:Int×List Bool×Li)(m t:Int):Prop:=aW c.1 c.2.1 c.2.2=true/\0<=m/\m<1440/\-1000000<=t/\t<=100000000
def aO(n:Net)(o t:Int):Int:=t+(dd n o).2.2.2.2.1*(dd n o).2.2.2.2.2.1
abbrev zt(n:Net)(o t:Int):Prop:=tA n o/\-1000000000<=t/\t<=1000000000
def mV(n:Net)(l t:Int):Int:=if bO t=true then fX (aM n (cE n l)) (Gw n l) t else 0
def od(n:Net)(l t:Int):Int:=if bO t=true then mT (aM n (cE n l)) (Gw n l) t else 1
def isZero(e:Int):Bool:=decide (e=0)
def KR2:Kt:=kOr 126 Ha KR1
noncomputable def bare(K:Kt):Cfg:=⟨Tryz.prog,[],K,λ_=>false,λ_ _=>none,false,λ_ _ _=>none,λ_=>false⟩
def aAP(n:Net)(nx:Lj):Ann:=⟨λf s=>match f with
 |4=>some {α:=Int,inv:=λk=>ij n nx k,st:=λk=>put s [(19,.dat I k)],μ:=λk=>Dc (Dk (Dh nx) k)}|9=>match s.sig.T 19,s.sig.T 32 with
  |.dat (.int .i64) o,.dat (.sl (.int .i64)) row=>some {α:=Int,inv:=λk=>ky n o row k,st:=λk=>put s [(34,.dat I k)],μ:=λk=>Dc (Dk (Dh row) k)}|_,_=>none
 |_=>none,λ_ _=>none,λ_ _=>none⟩
abbrev sa:=az [.val I,.val I] (λ_=>True) λ(i,l,_)=>.dat .bool (cw i l)
abbrev pM:=az [.val I] (λ_=>True) λ(t,_)=>.dat .bool (bO t)
abbrev vt:=az [.ptr N] (λ_=>True) λ(n,_)=>.dat .bool (aZ n)
abbrev vz:=az [.ptr N,.val I] (λ(n,o,_)=>tA n o) λ(n,o,_)=>cal (aM n o).1 (aM n o).2.1 (aM n o).2.2
abbrev vy:=az [.row C,.val I,.val I] (λ(c,m,t,_)=>IJ c m t) λ(c,m,t,_)=>.tup [.dat I (fX c m t),.dat I (mT c m t)]
abbrev vu:=az [.ptr N,.val I,.val I] (λ(n,o,t,_)=>zt n o t) λ(n,o,t,_)=>.dat I (aO n o t)
def KR3:Kt:=kOr 47 sa <|
 kOr 48 pM <|
 kOr 49 vt <|
 kOr 70 vz <|
 kOr 69 vy <|
 kOr 112 vu <|
 kOr 68 (az [.val I,.val I] (λ(_,e,_)=>True/\isZero e=true) λ(v,_,_)=>.dat I v) <|
 kOr 46 (az [.val .bool] (λ(b,_)=>True/\b=true) λ_=>.tup []) KR2
theorem Py:ay Tryz.prog G0 KR2:=ah aCp aGa
theorem jO(f:LC)(u y:LB)(j:Lo)(z:Ll)(A:Lk){o:Int}(h:tA (f,u,y,j,z,A) o):0<=(dd (f,u,y,j,z,A) o).2.2.1/\(dd (f,u,y,j,z,A) o).2.2.1<f.length/\aW (aM (f,u,y,j,z,A) o).1 (aM (f,u,y,j,z,A) o).2.1 (aM (f,u,y,j,z,A) o).2.2=true/\1<=(dd (f,u,y,j,z,A) o).2.2.2.2.1/\(dd (f,u,y,j,z,A) o).2.2.2.2.1<=4/\1<=(dd (f,u,y,j,z,A) o).2.2.2.2.2.1/\(dd (f,u,y,j,z,A) o).2.2.2.2.2.1<=240:=by
 obtain⟨G,l0,l1⟩:=h;have l1:o<j.length:=l1;have ho:dd (f,u,y,j,z,A) o∈j:=by
  show j.getD o.toNat _∈j;rw[qA,qB Z,vK];exact wM _
 have X:=(tC f u y j z A G).2.2.2 _ ho;unfold du cw cN at X;simp only[qC,qF]at X;obtain⟨⟨⟨⟨⟨⟨_,L⟩,_⟩,_⟩,_⟩,g2⟩,g3⟩:=X;have L:0<=(dd (f,u,y,j,z,A) o).2.2.1/\(dd (f,u,y,j,z,A) o).2.2.1<(f.length:Int):=L;have hc:=((B8 (by decide)).1 (mM f u y j z A G).2.1).2.2.2;have hcl:(aF f u).length=f.length:=by unfold aF;simp
 have:=hc (dd (f,u,y,j,z,A) o).2.2.1.toNat Z;unfold bv at this;rw[fV (λc:Int×List Bool×Li=>aW c.1 c.2.1 c.2.2) f _ (0,[],[]) false Z]at this;exact⟨L.1,L.2,this,g2.1,g2.2,g3.1,g3.2⟩
theorem Ah(A:LC)(y u:LB)(j:Lo)(f:Ll)(z:Lk){l:Int}(h:DJ (A,y,u,j,f,z) l):0<=cE (A,y,u,j,f,z) l/\cE (A,y,u,j,f,z) l<j.length/\0<=tH (A,y,u,j,f,z) l/\tH (A,y,u,j,f,z) l<j.length/\0<=Gw (A,y,u,j,f,z) l/\Gw (A,y,u,j,f,z) l<=1439/\1<=eJ (A,y,u,j,f,z) l/\eJ (A,y,u,j,f,z) l<=5000:=by
 obtain⟨G,l0,l1⟩:=h;have l1:l<f.length:=l1;have X:GF (A,y,u,j,f,z) l∈f:=by
  show f.getD l.toNat _∈f;rw[qA,qB Z,vK];exact wM _
 obtain⟨g1,g2,g3,g4,g5,L,g7,g8⟩:=mg ((lV A y u j f z G).2.2.2 _ X);exact⟨g1,g2,g3,g4,L.1,L.2,g7,g8⟩
theorem lW{w:List Bool}{h:Li}{d:Int}(j:gR w h d=0):d<=fO w h d/\fO w h d<d+60/\bF w h (fO w h d)=true:=by
 unfold gR at j;unfold fO;cases f:jP w h d with
 |none=>rw[f]at j;simp at j|some y=>
  have:y∈dK w h d 60:=gK (by unfold jP at f;rw[f];rfl);exact pE this
theorem Zf{c:Int×List Bool×Li}{m t:Int}(h:IJ c m t): -1000<=d0F c m t/\d0F c m t<=100000:=by
 obtain⟨f,G,A,z,y⟩:=h;obtain⟨⟨u,j,_,_⟩,_⟩:=dZ.1 f;unfold d0F jy;split<;>omega
theorem jW{d:Int}(h:-1000000<=d)(f:d<=1000000):dF d=true:=by
 unfold dF;exact qP ⟨h,f⟩
theorem Qr:eO 47 sa:=ae λ((i:Int),(l:Int),_)=>by
 refine zE (A:=aE) (p:=let f:=Eb i 0;(True->Q2 f ((Dj true f->f)/\Dz f (Dn i l) false=cw i l/\True))) Py λ_=>⟨λh _=>h,λh _=>h,λh=>by simpa[Dj]using h,?_,trivial⟩;unfold cw;simp only[Dz,Eb,Dn,qAg];by_cases h:0<=i<;>simp[h]
theorem NK:eO 48 pM:=ae λ((t:Int),_)=>by
 refine zE (A:=aE) (p:=let f:=Eb t 0;(True->L5 f ((Dj true f->f)/\Dz f (Eh t 2000000) false=bO t/\True))) Py λ_=>⟨λh _=>h,λh=>by simpa[Dj]using h,?_,trivial⟩;unfold bO;simp only[Dz,Eb,Eh,qAg];by_cases h:0<=t<;>simp[h]
theorem Qq(v e:Int):aj Tryz.prog G0 68 [.dat I v,.dat I e] [] ⟨True/\isZero e=true,.dat I v,[]⟩/\fm Tryz.prog G0 68 [.dat I v,.dat I e] [] ⟨True,isZero e,US 38 e⟩:=by
 refine zC (c:=mkc KR2) (A:=aE) (q:=⟨True,isZero e,US 38 e⟩) Py sJ hm Aa (p:=let j:=Ea e 0;let f:=chainOf (Value.iface 38 (Value.int .i64 e));true/\(True->(j->(true->True/\(false=false->isZero e=false/\true/\f=f))/\True)/\(j=false->isZero e/\T5 v))) ⟨rfl,λ_=>⟨λh=>⟨λ_=>⟨trivial,λ_=>⟨?_,rfl,rfl⟩⟩,trivial⟩,λh=>⟨?_,rfl,trivial⟩⟩⟩;unfold isZero;simpa[Ea]using h;unfold isZero;simpa[Ea]using h
theorem DZ(b:Bool):aj Tryz.prog G0 46 [.dat .bool b] [] ⟨True/\b=true,.tup [],[]⟩/\fm Tryz.prog G0 46 [.dat .bool b] [] ⟨True,b,US 38 1⟩:=by
 refine zC (c:=mkc KR2) (A:=aE) (q:=⟨True,b,US 38 1⟩) Py sJ hm Aa (p:=let f:=chainOf (Value.iface 38 (Value.int .i64 (1:Int)));true/\(True->(Di b->(true->True/\(false=false->b=false/\true/\f=f))/\True)/\(Di b=false->b/\True))) ⟨rfl,λ_=>⟨λh=>⟨λ_=>⟨trivial,λ_=>⟨?_,rfl,rfl⟩⟩,trivial⟩,λh=>⟨?_,trivial⟩⟩⟩;simpa[Di]using h;simpa[Di]using h
theorem OI{P:Program}{G:List (Nat×AV)}{f:FuncId}{args:List AV}{m:Mem}{c:lA}(h:aj P [] f args m c):aj P G f args m c:=
 λj w D E u A _ y z=>h j w D E u A (λp j=>by cases j) y z
theorem ZY(e:Int):aj Tryz.prog [] 45 [.ifc 38 (.dat I e)] [] ⟨True,.dat I e,[]⟩:=
 zF (c:=bare λ_ _ _=>none) (A:=aE) (λ_ _ _ _ h=>by cases h) (λ_ _ _ h=>by cases h) hm (p:=true/\(True->(true->T5 e)/\(true=false->1=e/\True))) ⟨rfl,λ_=>⟨λ_=>⟨rfl,trivial⟩,λh=>by cases h⟩⟩
theorem zg{n:Net}:aZ n=decide (((fk n).length:Int)=0):=by
 unfold aZ;cases fk n with
 |nil=>rfl|cons a l=>simp;omega
theorem Vn:eO 49 vt:=ae λ(((G,j,h,z,u,y):Net),_)=>zE (A:=aE) (p:=let f:=(G,j,h,z,u,y);(True->True/\Ee (Dh (fk f)) 0=aZ f/\True)) Py λ_=>⟨trivial,by rw[zg];rfl,trivial⟩
theorem Vr:eO 70 vz:=ae λ(((h,L,G,f,X,ks):Net),(o:Int),_)=>by
 refine zE (A:=aE) (p:=let c1:=(h,L,G,f,X,ks);let z:=(Dw f (Dc o) (ByteArray.mk #[],(0:Int),(0:Int),(0:Int),(0:Int),(0:Int),Du ByteArray)).2.2.1;let y:=Dw h (Dc z) ((0:Int),Du Bool,Du Int);let u:=aM c1 o;(tA c1 o->0<=o/\o<Dh f/\0<=z/\z<Dh h/\T4 1 0 1 0 (y.1=u.1/\y.2.1=u.2.1/\y.2.2=u.2.2/\True))) Py λj=>?_;obtain⟨g1,g2,_⟩:=jO h L G f X ks j;exact⟨j.2.1,j.2.2,g1,g2,rfl,rfl,rfl,rfl,rfl,rfl,rfl,trivial⟩
theorem Vq:eO 69 vy:=ae λ((c:C.den),(m:Int),(t:Int),_)=>by
 obtain⟨z,w,h⟩:=c;refine zE (A:=aE) (p:=let c1:=(z,w,h);let c2:=Dn m (Oi z t);let G:=jy z t+1;let c4:=gR w h G;let c5:=Ea c4 0;let f:=fX c1 m t;let j:=mT c1 m t;let c8:=fO w h G;let A:=gR w h (jy z t);let y:=Ea A 0;let u:=fO w h (jy z t);(IJ c1 m t->qw z w h t/\(c2->inR .i64 G/\Zo z w h G/\(c5->0=f/\c4=j/\True)/\(c5=false->nG z w h c8 m/\gY z c8 m=f/\0=j/\True))/\(c2=false->Zo z w h (jy z t)/\(y->0=f/\A=j/\True)/\(y=false->nG z w h u m/\gY z u m=f/\0=j/\True)))) Py λhp=>?_;obtain⟨b1,b2⟩:=Zf hp;obtain⟨L,h1,h2,h3,h4⟩:=id hp;refine Z9 ?_;have f:∀d,d=d0F (z,w,h) m t->Zo z w h d/\(¬gR w h d=0->(0:Int)=fX (z,w,h) m t/\gR w h d=mT (z,w,h) m t)/\(gR w h d=0->nG z w h (fO w h d) m/\gY z (fO w h d) m=fX (z,w,h) m t/\(0:Int)=mT (z,w,h) m t):=by
  rintro d rfl;refine⟨⟨L,jW Z Z⟩,λj=>⟨(if_neg j).symm,rfl⟩,λj=>?_⟩;obtain⟨q1,q2,q3⟩:=lW j;exact⟨⟨L,jW Z Z,h1,h2⟩,(if_pos j).symm,j.symm⟩
 refine⟨⟨L,Z,Z⟩,λX=>?_,λhge=>?_⟩;have e:jy z t+1=d0F (z,w,h) m t:=(if_pos X).symm;obtain⟨q1,q2,q3⟩:=f _ e;exact⟨by unfold inR;simp only;omega,q1,q2,q3⟩;have e:jy z t=d0F (z,w,h) m t:=(if_neg hge).symm;exact f _ e
theorem Vo:eO 112 vu:=ae λ(((G,j,h,f,u,z):Net),(o:Int),(t:Int),_)=>by
 refine zE (A:=aE) (p:=let c1:=(G,j,h,f,u,z);let c2:=(Dw f (Dc o) (ByteArray.mk #[],(0:Int),(0:Int),(0:Int),(0:Int),(0:Int),Du ByteArray)).2.2.2.2;let c3:=c2.1*c2.2.1;let c4:=t+c3;(zt c1 o t->0<=o/\o<Dh f/\0<=o/\o<Dh f/\inR .i64 c3/\inR .i64 c4/\c4=aO c1 o t/\True)) Py λhp=>?_;obtain⟨L,b1,b2⟩:=hp;obtain⟨_,_,_,g1,g2,g3,g4⟩:=jO G j h f u z L;obtain⟨x,hx⟩:∃x,x=(dd (G,j,h,f,u,z) o).2.2.2.2.1:=⟨_,rfl⟩;obtain⟨y,X⟩:∃y,y=(dd (G,j,h,f,u,z) o).2.2.2.2.2.1:=⟨_,rfl⟩;rw[<- hx]at g1 g2;rw[<- X]at g3 g4;have m1:0<=x*y:=qAa Z Z;have m2:x*y<=4*240:=qAb g2 g4 Z Z;have e:aO (G,j,h,f,u,z) o t=t+x*y:=by rw[hx,X];rfl
 refine⟨L.2.1,L.2.2,L.2.1,L.2.2,?_,?_,rfl,trivial⟩;show inR .i64 ((dd (G,j,h,f,u,z) o).2.2.2.2.1*(dd (G,j,h,f,u,z) o).2.2.2.2.2.1);rw[<- hx,<- X];unfold inR;simp only;omega;show inR .i64 (t+(dd (G,j,h,f,u,z) o).2.2.2.2.1*(dd (G,j,h,f,u,z) o).2.2.2.2.2.1);rw[<- hx,<- X];unfold inR;simp only;omega
theorem aEq:ay Tryz.prog G0 KR3:=ah Qr<|ah NK<|ah Vn<|ah Vr<|ah Vq<|ah Vo<|ah (ae λ(v,e,_)=>(Qq v e).1)<|ah (ae λ(b,_)=>(DZ b).1) Py
theorem nP{n:Net}{nx:Lj}(f:(nx.length:Int)=n.2.2.2.1.length):nC n nx=true↔∀i:Nat,(i:Int)<nx.length->rowOk n i (nx.getD i [])=true:=by
 unfold nC;simp only[qC,qF,qU,wG];exact⟨λh i j=>h.2 i Z,λh=>⟨f,λi j=>h i Z⟩⟩
theorem pg{n:Net}{o:Int}{row:Li}(u:(row.length:Int)=n.2.2.2.1.length):rowOk n o row=true↔∀i:Nat,(i:Int)<row.length->kg n o (row.getD i 0)=true:=by
 unfold rowOk;simp only[qC,qF,qU];refine⟨λh i f=>h.2 _ ?_,λh=>⟨u,λx j=>?_⟩⟩;rw[qA,qB Z,vK];exact wM _;obtain⟨i,f,rfl⟩:=yD.1 j;have:=h i Z;rw[qA,qB f,vK]at this;exact this
theorem XZ(n:Net)(o l:Int):Dz (Ea l (-1)) (Dz (Di (cw l (Dh n.2.2.2.2.1))) true (Ea (cE n l) o)) false=!kg n o l:=by
 unfold kg;simp only[Dz,Ea,Di,Dh];by_cases h:l=-1;simp[h];have j:(l != -1)=true:=by simpa using h
 rw[j];cases hi:cw l n.2.2.2.2.1.length;simp[h];by_cases f:cE n l=o<;>simp[h,f]
abbrev sd:=az [.ptr N,.val M] (λ(_,nx,_)=>jb nx) λ(n,nx,_)=>.dat .bool (nC n nx)
theorem Qs:eO 50 sd:=ae λ(((cs,ns,os,fs,z,ks):Net),(nx:Lj),_)=>by
 refine zE (A:=(lvA [(4,[0,4,5,6,8,17,18,19,32,33,34]),(9,[0,4,5,6,8,17,18,19,32,33,34])] (aAP (cs,ns,os,fs,z,ks) nx))) (p:=let c1:=Dh fs;let c2:=Ea (Dh nx) c1;let L:=(cs,ns,os,fs,z,ks);let c4:=nC L nx;let c5:=Dh z;(jb nx->(c2->false=c4/\True)/\(c2=false->(∃x,ij L nx x/\Q3 L nx (Dh nx) (0=x/\True))/\∀(x:Int),let u:=Dn x (Dh nx);let j:=Dw nx (Dc x) [];let c8:=Dh j;let A:=Ea c8 c1;let c10:=x+1;ij L nx x->(u->0<=x/\x<Dh nx/\(A->false=c4/\True)/\(A=false->(∃f,ky L x j f/\z8 L x j nx (Dh nx) x j c8 (0=f/\True))/\∀(f:Int),let c11:=Dw j (Dc f) 0;let h:=Ea c11 (-1);let G:=Di (cw c11 c5);let X:=Di G;let c16:=Dj h X;let c14:=Dz h (Dz G true (Ea (Dw z (Dc c11) (ByteArray.mk #[],(0:Int),(0:Int),(0:Int),(0:Int),(0:Int))).2.1 x)) false;let c15:=f+1;ky L x j f->(Dn f c8->0<=f/\f<c8/\Q4 h (Q4 h ((h->True)/\Q2 h (Q2 c16 (Q4 c16 ((Dj h X->0<=c11)/\(Dj h X->c11<c5)/\L5 c16 (Q4 c16 (L5 h ((h->Dj h X->Dj h X)/\(Dj true h->h)/\(c14->false=c4/\True)/\(c14=false->inR .i64 c15/\∃y,ky L x j y/\(z8 L x j nx (Dh nx) x j c8 (c15=y/\True))/\Dc (c8-y)<Dc (c8-f)))))))))))/\(Dn f c8=false->inR .i64 c10/\∃y,ij L nx y/\(Q3 L nx (Dh nx) (c10=y/\True))/\Dc (Dh nx-y)<Dc (Dh nx-x))))/\(u=false->true=c4/\True)))) aEq λhf=>?_;have ec:∀l x:Int,Dz (Ea l (-1)) (Dz (Di (cw l (Dh z))) true (Ea (Dw z (Dc l) (ByteArray.mk (Du UInt8).toArray,(0:Int),(0:Int),(0:Int),(0:Int),(0:Int))).snd.fst x)) false=!kg (cs,ns,os,fs,z,ks) x l:=λl x=>XZ (cs,ns,os,fs,z,ks) x l
 simp only[ec];refine Z9 ?_;obtain⟨hf1,hf2⟩:=hf;have hz:∀x l:Int,¬l=-1/\cw l z.length=true->0<=l/\l<z.length:=λx l h=>by
  have:=h.2;unfold cw at this;simpa using this
 have hr:∀x:Int,0<=x->x<nx.length->(nx.getD x.toNat []).length<=1000000:=λx h0 h1=>hf2 _ (by
  rw[qA,qB Z,vK];exact wM _)
 have hct:∀x:Int,0<=x->((x.toNat:Nat):Int)=x:=λx h=>Z;refine⟨λhne=>?_,λhe=>⟨⟨qL _,Z,he,λi h=>Z⟩,λx G=>⟨λhlt=>⟨G.1,hlt,λu=>?_,λu=>⟨⟨qL _,Z,u,λi h=>Z⟩,λy hy=>⟨λhlty=>⟨hy.1,hlty,λh=>(hz x _ h).1,λh=>(hz x _ h).2,λhc=>?_,λhc=>?_⟩,λhgey=>?_⟩⟩⟩,λhge=>?_⟩⟩⟩;unfold nC;rw[qV hne];rfl;refine(yQ.2 λht=>u ?_).symm;have h:=(nP he).1 ht x.toNat (by have:=G.1;omega);unfold rowOk at h;simp only[qC,qF]at h;exact h.1;refine(yQ.2 λht=>?_).symm;have h:=(nP he).1 ht x.toNat (by have:=G.1;omega);rw[hct x G.1]at h;have h2:=(pg (n:=(cs,ns,os,fs,z,ks)) u).1 h y.toNat (by have:=hy.1;omega);rw[h2]at hc;cases hc;have h1:=hr x G.1 hlt;refine⟨by unfold inR;simp only;have:=hy.1;omega,y+1,⟨by have:=hy.1;omega,Z,u,λi hi=>?_⟩,rfl,by have:=hy.1;omega⟩;by_cases h:(i:Int)<y;exact hy.2.2.2 i h;have:i=y.toNat:=by omega
 rw[this];exact hc;refine⟨by unfold inR;simp only;have:=G.1;omega,x+1,⟨by have:=G.1;omega,Z,he,λi hi=>?_⟩,rfl,by have:=G.1;omega⟩;by_cases h:(i:Int)<x;exact G.2.2.2 i h;have:i=x.toNat:=by have:=G.1;omega
 rw[this,hct x G.1];exact(pg (n:=(cs,ns,os,fs,z,ks)) u).2 λj hj=>hy.2.2.2 j Z;exact((nP he).2 λi hi=>G.2.2.2 i Z).symm
abbrev sf:=az [.ptr N,.val I,.val I] (λ(n,l,_)=>DJ n l) λ(n,l,t,_)=>.tup [.dat I (mV n l t),.dat I (od n l t)]
theorem Qu:eO 111 sf:=ae λ(((G,u,j,z,f,y):Net),(l:Int),(t:Int),_)=>by
 refine zE (A:=aE) (p:=let c1:=(G,u,j,z,f,y);let c2:=mV c1 l t;let c3:=od c1 l t;let X:=(Dw f (Dc l) (ByteArray.mk #[],(0:Int),(0:Int),(0:Int),(0:Int),(0:Int))).2;let c8:=(aM c1 X.1);(DJ c1 l->True/\(Di (bO t)->0=c2/\1=c3/\True)/\(Di (bO t)=false->0<=l/\l<Dh f/\tA c1 X.1/\0<=l/\l<Dh f/\IJ c8 X.2.2.1 t/\fX c8 X.2.2.1 t=c2/\mT c8 X.2.2.1 t=c3/\True))) aEq λL=>?_;refine Z9 ?_;refine⟨λh=>?_,λh=>?_⟩;unfold mV od;rw[h];exact⟨rfl,rfl⟩;obtain⟨g1,g2,g3,g4,g5,g6,g7,g8⟩:=Ah G u j z f y L;have ho:tA (G,u,j,z,f,y) (cE (G,u,j,z,f,y) l):=⟨L.1,g1,g2⟩;have hv:=(jO G u j z f y ho).2.2.1;have ht:0<=t/\t<=2000000:=vJ h;have hf:IJ (aM (G,u,j,z,f,y) (cE (G,u,j,z,f,y) l)) (Gw (G,u,j,z,f,y) l) t:=⟨hv,g5,Z,Z,Z⟩;have e1:mV (G,u,j,z,f,y) l t=fX (aM (G,u,j,z,f,y) (cE (G,u,j,z,f,y) l)) (Gw (G,u,j,z,f,y) l) t:=if_pos h;have e2:od (G,u,j,z,f,y) l t=mT (aM (G,u,j,z,f,y) (cE (G,u,j,z,f,y) l)) (Gw (G,u,j,z,f,y) l) t:=if_pos h;exact⟨L.2.1,L.2.2,ho,L.2.1,L.2.2,hf,e1.symm,e2.symm⟩
def nxt(nx:Lj)(o d:Int):Int:=(nx.getD o.toNat []).getD d.toNat 0
def iV(n:Net)(nx:Lj)(to:Int):Nat->Int->Int->List Stop×Int
 |0,o,t=>if o=to then([(o,t,-1,-1)],0)else if nxt nx o to=-1 then([],170)else if od n (nxt nx o to) (aO n o t)=0 then([],170)else([],od n (nxt nx o to) (aO n o t))|k+1,o,t=>if o=to then([(o,t,-1,-1)],0)else if nxt nx o to=-1 then([],170)else if od n (nxt nx o to) (aO n o t)=0 then
   if(iV n nx to k (tH n (nxt nx o to)) (mV n (nxt nx o to) (aO n o t)+eJ n (nxt nx o to))).2=0 then
    ((o,t,mV n (nxt nx o to) (aO n o t),nxt nx o to)::(iV n nx to k (tH n (nxt nx o to)) (mV n (nxt nx o to) (aO n o t)+eJ n (nxt nx o to))).1,0)
   else([],(iV n nx to k (tH n (nxt nx o to)) (mV n (nxt nx o to) (aO n o t)+eJ n (nxt nx o to))).2)
  else([],od n (nxt nx o to) (aO n o t))
def IE(n:Net)(nx:Lj)(o to t:Int):List Stop:=(iV n nx to 19 o t).1
def yy(n:Net)(nx:Lj)(o to t:Int):Int:=(iV n nx to 19 o t).2
abbrev UN(n:Net)(nx:Lj)(o to t:Int):Prop:=aZ n=true/\nC n nx=true/\0<=o/\o<n.2.2.2.1.length/\0<=to/\to<n.2.2.2.1.length/\0<=t/\t<=2200000
def BD(d:List Stop)(r:List Stop×Int):List Stop×Int:=if r.2=0 then(d++r.1,0)else([],r.2)
def aDT(n:Net)(nx:Lj)(h to f:Int)(x:List Stop×Int×Int):Prop:=UN n nx x.2.1 to x.2.2/\x.1.length<=19/\iV n nx to 19 h f=BD x.1 (iV n nx to (19-x.1.length) x.2.1 x.2.2)
def wSt(x:List Stop×Int×Int):List Stop:=x.1++[(x.2.1,x.2.2,-1,-1)]
def aEw(n:Net)(nx:Lj)(h to f:Int):Ann:=⟨λj s=>match j with
 |3=>match s.sig.T 19 with
  |.buf nm _=>some {α:=List Stop×Int×Int,inv:=λx=>aDT n nx h to f x,st:=λx=>nU (put (flat s) [(11,.buf nm (Dl (wSt x))),(12,.dat I (Dh x.1))]) nm (.buf 61 Stp (wSt x) []),μ:=λx=>Dc (Dk 20 (Dh x.1))}|_=>none
 |_=>none,λ_ _=>none,λ_ _=>none⟩
def KR4:Kt:=kOr 50 sd <|
 kOr 111 sf KR3
def KPm:KPt:=pOr 68 (Ia [.val I,.val I] λ(_,e,_)=>⟨True,isZero e,US 38 e⟩) Go.Eng.noP
noncomputable def mkp(K:Kt)(mb:Tmp->Bool)(h:KPt)(f:FuncId->Bool):Cfg:=⟨Tryz.prog,G0,K,mb,KI0,false,h,f⟩
def cW:Cfg:=mkp KR4 (λt=>t==19) KPm (λf=>f==68)
theorem aGB:ay Tryz.prog G0 KR4:=ah Qs<|ah Qu aEq
theorem Zw:bI Tryz.prog G0 KPm:=lT (mX λ(v,e,_)=>(Qq v e).2) Aa
theorem aEy(d:List Stop)(o t:Int)(z:Stop):(wSt (d,o,t)).getD d.length z=(o,t,-1,-1):=by simp[wSt,qA]
theorem aEx(d:List Stop)(o t:Int)(v:Stop):(wSt (d,o,t)).set d.length v=d++[v]:=by simp[wSt]
theorem aF4(d:List Stop)(v z:Stop):(d++[v]).getD d.length z=v:=by simp[qA]
theorem aF3(d:List Stop)(v w:Stop):(d++[v]).set d.length w=d++[w]:=by simp
theorem aBQ(d:List Stop)(o t:Int):(wSt (d,o,t)).length=d.length+1:=by simp[wSt]
theorem jU{e:Int}:isZero e=true↔e=0:=by simp[isZero]
theorem jT{e:Int}:isZero e=false↔e≠0:=by simp[isZero]
theorem gA(A:LC)(j f:LB)(z:Lo)(u:Ll)(y:Lk)(h:aZ (A,j,f,z,u,y)=true):noF (A,j,f,z,u,y)=true:=((AX A j f z u y).1 (wX.1 h)).1
theorem wm{c:Int×List Bool×Li}{m t:Int}(G:aW c.1 c.2.1 c.2.2=true)(X:mT c m t=0)(m0:0<=m)(m1:m<=1439):t<=fX c m t/\fX c m t<=t+90000:=by
 obtain⟨z,w,h⟩:=c;obtain⟨⟨A,y,_,_⟩,_⟩:=dZ.1 G;have f:gR w h (d0F (z,w,h) m t)=0:=X;obtain⟨u,j,_⟩:=lW f;have e:fX (z,w,h) m t=gY z (fO w h (d0F (z,w,h) m t)) m:=if_pos f;rw[e];unfold gY;generalize fO w h (d0F (z,w,h) m t)=nd at *;have hd:d0F (z,w,h) m t=if m<(t+z)%1440 then(t+z)/1440+1 else(t+z)/1440:=rfl;rw[hd]at u j;simp only at A y;split at u<;>rename_i L<;>simp only[L,kJ,kX]at j<;>omega
theorem mU(A:LC)(j f:LB)(z:Lo)(u:Ll)(y:Lk){l t:Int}(hl:DJ (A,j,f,z,u,y) l)(G:od (A,j,f,z,u,y) l t=0):0<=t/\t<=2000000/\t<=mV (A,j,f,z,u,y) l t/\mV (A,j,f,z,u,y) l t<=t+90000:=by
 obtain⟨g1,g2,g3,g4,g5,g6,g7,g8⟩:=Ah A j f z u y hl;have ho:tA (A,j,f,z,u,y) (cE (A,j,f,z,u,y) l):=⟨hl.1,g1,g2⟩;have hv:=(jO A j f z u y ho).2.2.1;have L:bO t=true:=by
  cases h:bO t with
  |true=>rfl|false=>unfold od at G;rw[h]at G;cases G
 have X:0<=t/\t<=2000000:=vJ L;have e1:mV (A,j,f,z,u,y) l t=fX (aM (A,j,f,z,u,y) (cE (A,j,f,z,u,y) l)) (Gw (A,j,f,z,u,y) l) t:=if_pos L;have e2:od (A,j,f,z,u,y) l t=mT (aM (A,j,f,z,u,y) (cE (A,j,f,z,u,y) l)) (Gw (A,j,f,z,u,y) l) t:=if_pos L;rw[e2]at G;rw[e1];exact⟨X.1,X.2,wm hv G g5 g6⟩
theorem oI{n:Net}{nx:Lj}{to o t:Int}(k:Nat)(h:o=to):iV n nx to k o t=([(o,t,-1,-1)],0):=by cases k<;>exact if_pos h
theorem iL{n:Net}{nx:Lj}{to o t:Int}(k:Nat)(h:o≠to)(f:nxt nx o to=-1):iV n nx to k o t=([],170):=by cases k<;>(unfold iV;rw[if_neg h,if_pos f])
theorem lJ{n:Net}{nx:Lj}{to o t:Int}(k:Nat)(h:o≠to)(j:nxt nx o to≠-1)(f:od n (nxt nx o to) (aO n o t)≠0):iV n nx to k o t=([],od n (nxt nx o to) (aO n o t)):=by cases k<;>(unfold iV;rw[if_neg h,if_neg j,if_neg f])
theorem jf{n:Net}{nx:Lj}{to o t:Int}(h:o≠to)(j:nxt nx o to≠-1)(f:od n (nxt nx o to) (aO n o t)=0):iV n nx to 0 o t=([],170):=by unfold iV;rw[if_neg h,if_neg j,if_pos f]
theorem je{n:Net}{nx:Lj}{to o t:Int}(k:Nat)(h:o≠to)(j:nxt nx o to≠-1)(f:od n (nxt nx o to) (aO n o t)=0):
  iV n nx to (k+1) o t=BD [(o,t,mV n (nxt nx o to) (aO n o t),nxt nx o to)] (iV n nx to k (tH n (nxt nx o to)) (mV n (nxt nx o to) (aO n o t)+eJ n (nxt nx o to))):=by
 rw[iV,if_neg h,if_neg j,if_pos f];rfl
theorem ti{d:List Stop}{r:List Stop×Int}(h:r.2≠0):(BD d r).2=r.2:=by unfold BD;rw[if_neg h]
theorem Ja{d:List Stop}{r:List Stop×Int}(h:r.2=0):BD d r=(d++r.1,0):=by unfold BD;rw[if_pos h]
theorem KY(d e:List Stop)(r:List Stop×Int):BD d (BD e r)=BD (d++e) r:=by
 unfold BD;by_cases h:r.2=0;simp[h];simp[h]
theorem Wc{n:Net}{nx:Lj}{to:Int}:∀(k:Nat) (o t:Int),BD [] (iV n nx to k o t)=iV n nx to k o t:=λk o t=>by
 by_cases h:o=to;rw[oI k h];rfl;by_cases j:nxt nx o to=-1;rw[iL k h j];rfl;by_cases f:od n (nxt nx o to) (aO n o t)=0;cases k with
 |zero=>rw[jf h j f];rfl|succ k=>rw[je k h j f,KY];rfl
 rw[lJ k h j f];unfold BD;rw[if_neg f]
theorem oL(L:LC)(z y:LB)(f:Lo)(u:Ll)(A:Lk){nx:Lj}(G:nC (L,z,y,f,u,A) nx=true){o d:Int}(o0:0<=o)(o1:o<f.length)(d0:0<=d)(d1:d<f.length):(nx.length:Int)=f.length/\((nx.getD o.toNat []).length:Int)=f.length/\(nxt nx o d≠-1->(0<=nxt nx o d/\nxt nx o d<u.length)/\cE (L,z,y,f,u,A) (nxt nx o d)=o):=by
 have hl:(nx.length:Int)=f.length:=by
  unfold nC at G;simp only[qC,qF]at G;exact G.1
 have h:=(nP (n:=(L,z,y,f,u,A)) hl).1 G o.toNat Z;have hr:((nx.getD o.toNat []).length:Int)=f.length:=by
  unfold rowOk at h;simp only[qC,qF]at h;exact h.1
 refine⟨hl,hr,λX=>?_⟩;have j:=(pg (n:=(L,z,y,f,u,A)) hr).1 h d.toNat Z;unfold kg cw at j;simp only[yO,qC,qF]at j;rcases j with j|⟨j,h3⟩;exact absurd j X;exact⟨j,h3.trans Z⟩
theorem jk{x:Int}(h:-1000000000000<=x/\x<=1000000000000):inR .i64 x:=by unfold inR;simp only;omega
theorem Qn(nx:Lj)(o to t:Int)(X:LC)(z j:LB)(L:Lo)(f:Ll)(G:Lk):aj Tryz.prog G0 51 [.ip N (X,z,j,L,f,G),.dat M nx,.dat I o,.dat I to,.dat I t] [] ⟨UN (X,z,j,L,f,G) nx o to t/\isZero (yy (X,z,j,L,f,G) nx o to t)=true,.dat (.sl Stp) (IE (X,z,j,L,f,G) nx o to t),[]⟩/\fm Tryz.prog G0 51 [.ip N (X,z,j,L,f,G),.dat M nx,.dat I o,.dat I to,.dat I t] [] ⟨UN (X,z,j,L,f,G) nx o to t,isZero (yy (X,z,j,L,f,G) nx o to t),US 38 (yy (X,z,j,L,f,G) nx o to t)⟩:=by
 refine zC (c:=cW) (A:=(aEw (X,z,j,L,f,G) nx o to t)) (q:=⟨UN (X,z,j,L,f,G) nx o to t,isZero (yy (X,z,j,L,f,G) nx o to t),US 38 (yy (X,z,j,L,f,G) nx o to t)⟩) aGB sJ hm Zw (p:=let c1:=(X,z,j,L,f,G);let c2:=((-1:Int),(-1:Int));let c3:=((0:Int),(0:Int),(0:Int),(0:Int));let c4:=yy c1 nx o to t;let c5:=isZero c4;let c6:=chainOf (Value.iface 38 (Value.int .i64 c4));let c7:=(ByteArray.mk #[],(0:Int),c3);true/\(UN c1 nx o to t->(∃(x:List Stop×Int×Int),aDT c1 nx o to t x/\w6 c1 nx o to t Z0 (1=Dl (wSt x)/\0=Dh x.1/\T7 o t o t (-1:Int) (-1:Int) 1 ([(o,t,c2)]=wSt x/\True)))/\∀(x:List (Int×Int×Int×Int)×Int×Int),let c8:=Dl (wSt x);let u:=Dh x.1;let c10:=Dc u;let c11:=Dw (wSt x) c10 c3;let A:=c11.1;let c13:=Ea A to;let c14:=Dw nx (Dc A) [];let h:=Dw c14 (Dc to) 0;let c16:=Ee h (-1);let c17:=c11.2;let c18:=Ep (wSt x) c10 (A,c17.1,c17.2.1,h);let c19:=Dw c18 c10 c3;let c20:=c19.1;let c21:=c19.2;let c22:=c21.1;let c23:=aO c1 c20 c22;let c24:=od c1 h c23;let c25:=isZero c24;let c26:=Ep c18 c10 (c20,c22,mV c1 h c23,c21.2.2);let c27:=Ee (Int.ofNat c8) 20;let c28:=(Dw f (Dc h) c7).2.2;let c29:=(Dw c26 c10 c3).2.2.1+c28.2.2.1;let c30:=[(c28.1,c29,c2)];let c31:=c8+Dl c30;let c32:=u+1;
  aDT c1 nx o to t x->c8=c8/\0<=u/\u<Ec c8/\L7 c8 c8 ((c13->c8=c8/\0<=u/\u<Ec c8/\Q3 c8 c8 c8 (0<=A/\A<Dh nx/\0<=to/\to<Dh c14/\(c16->(true->True/\(false=false->c5=false/\true/\chainOf (Value.iface 38 (Value.int .i64 (170:Int)))=c6))/\True)/\(c16=false->Q3 c8 c8 c8 (Dl c18=c8/\Dl c18=c8/\Dl c18=c8/\Dl c18=c8/\Dl c18=c8/\Dl c18=c8/\zt c1 c20 c22/\DJ c1 h/\True/\(c25->Dl c18=c8/\Dl c18=c8/\Dl c18=c8/\Dl c18=c8/\Dl c18=c8/\Dl c18=c8/\zt c1 c20 c22/\DJ c1 h/\(True/\c25)/\Dl c18=c8/\Dl c18=c8/\Dl c18=c8/\Dl c26=c8/\(c27->(true->True/\(false=false->c5=false/\true/\chainOf (Value.iface 38 (Value.int .i64 (170:Int)))=c6))/\True)/\(c27=false->0<=h/\h<Dh f/\T6 1 0 1 1 0 (Dl c26=c8/\Dl c26=c8/\Dl c26=c8/\Q3 1 1 0 (inR .i64 c29/\Dl c26=c8/\(c31*32)<=140737488355328/\c31<=9223372036854775807/\inR .i64 c32/\∃(y:List Stop×Int×Int),let c33:=Dh y.1;aDT c1 nx o to t y/\(w6 c1 nx o to t Z0 (c31=Dl (wSt y)/\c32=c33/\T7 o t o t (-1:Int) (-1:Int) 1 (Ei c26 c30=wSt y/\True)))/\Dc (20-c33)<Dc (20-u)))))/\(c25=false->c5=false/\true/\chainOf (Value.iface 38 (Value.int .i64 c24))=c6)))))/\(c13=false->c5/\c8=c8/\wSt x=IE c1 nx o to t/\True)))) ⟨rfl,λhp=>?_⟩
 refine Z9 ?_;refine⟨?_,?_⟩;exact⟨([],o,t),⟨hp,by simp,(Wc 19 o t).symm⟩,rfl,rfl,rfl⟩;rintro⟨d,u,v⟩ hx;simp only[aEy,aEx,aF4,aF3,aBQ,qG,qX,yG];obtain⟨⟨hs,ht,u0,u1,o0,o1,v0,v1⟩,hd,hw⟩:=hx;simp only at u0 u1 o0 o1 v0 v1 hd hw;have hno:=gA X z j L f G hs;obtain⟨c1,c2,c3⟩:=oL X z j L f G ht u0 u1 o0 o1;have ec:(nx.getD u.toNat []).getD to.toNat 0=nxt nx u to:=rfl;rw[ec];generalize hln:nxt nx u to=ln at *;have hoff:tA (X,z,j,L,f,G) u:=⟨hno,u0,u1⟩;have hW:yy (X,z,j,L,f,G) nx o to t=(BD d (iV (X,z,j,L,f,G) nx to (19-d.length) u v)).2:=by unfold yy;rw[hw]
 have hL:IE (X,z,j,L,f,G) nx o to t=(BD d (iV (X,z,j,L,f,G) nx to (19-d.length) u v)).1:=by unfold IE;rw[hw]
 have hroute:u≠to->iV (X,z,j,L,f,G) nx to (19-d.length) u v=([],170)->isZero (yy (X,z,j,L,f,G) nx o to t)=false/\chainOf (Value.iface 38 (Value.int .i64 170))=chainOf (US 38 (yy (X,z,j,L,f,G) nx o to t)):=λ_ h=>by
  have:yy (X,z,j,L,f,G) nx o to t=170:=by rw[hW,h];rfl
  rw[this];exact⟨rfl,rfl⟩
 refine⟨Z,Z,λhne=>⟨Z,Z,u0,by rw[c1];exact u1,o0,by rw[c2];exact o1,λhm=>hroute hne (iL _ hne (hln.trans hm)),λhm=>?_⟩,λhe=>?_⟩;have hm':nxt nx u to≠-1:=by rw[hln];exact hm
 obtain⟨⟨l0,l1⟩,lf⟩:=c3 hm;have hlin:DJ (X,z,j,L,f,G) ln:=⟨hno,l0,l1⟩;have hr:zt (X,z,j,L,f,G) u v:=⟨hoff,Z,Z⟩;refine⟨hr,hlin,λhz=>⟨hr,hlin,hz,λh20=>hroute hne ?_,λh20=>?_⟩,λhz=>?_⟩;rw[show 19-d.length=0 by omega];exact jf hne hm' (by rw[hln];exact jU.1 hz);have hz0:=jU.1 hz;obtain⟨b1,b2,b3,b4⟩:=mU X z j L f G hlin hz0;obtain⟨g1,g2,g3,g4,g5,g6,g7,g8⟩:=Ah X z j L f G hlin;have et:(f.getD ln.toNat (⟨#[]⟩,0,0,0,0,0)).2.2.2.2.1=eJ (X,z,j,L,f,G) ln:=rfl;have eo:(f.getD ln.toNat (⟨#[]⟩,0,0,0,0,0)).2.2.1=tH (X,z,j,L,f,G) ln:=rfl;rw[et,eo];have hnx:=je (n:=(X,z,j,L,f,G)) (nx:=nx) (to:=to) (o:=u) (t:=v) (19-(d.length+1)) hne hm' (by rw[hln];exact hz0);rw[show 19-(d.length+1)+1=19-d.length by omega,hln]at hnx;refine⟨l0,l1,jk Z,Z,Z,jk Z,(d++[(u,v,mV (X,z,j,L,f,G) ln (aO (X,z,j,L,f,G) u v),ln)],tH (X,z,j,L,f,G) ln,mV (X,z,j,L,f,G) ln (aO (X,z,j,L,f,G) u v)+eJ (X,z,j,L,f,G) ln),⟨⟨hs,ht,g3,g4,o0,o1,by simp only;omega,by simp only;omega⟩,by simp;omega,?_⟩,⟨by rw[aBQ];simp,by simp,rfl⟩,by simp;omega⟩;show iV (X,z,j,L,f,G) nx to 19 o t=_;rw[hw,hnx,KY];simp;have hz0:=jT.1 hz;have:=lJ (n:=(X,z,j,L,f,G)) (nx:=nx) (to:=to) (o:=u) (t:=v) (19-d.length) hne hm' (by rw[hln];exact hz0);rw[hln]at this;have:yy (X,z,j,L,f,G) nx o to t=od (X,z,j,L,f,G) ln (aO (X,z,j,L,f,G) u v):=by rw[hW,this];exact ti hz0
 rw[this];exact⟨hz,rfl⟩;have:=oI (n:=(X,z,j,L,f,G)) (nx:=nx) (to:=to) (o:=u) (t:=v) (19-d.length) he;rw[hW,hL,this];exact⟨rfl,rfl⟩
abbrev DT(z:Int)(w:List Bool)(h:Li)(a b:Int):Prop:=aW z w h=true/\dF a=true/\dF b=true
def lB(w:List Bool)(h:Li)(a b:Int):Li:=dK w h a (b-a+1)
abbrev Oo(n:Net)(line:Int):Prop:=noF n=true/\0<=line/\line<n.2.2.2.2.1.length
def ff(n:Net)(line:Int):Line:=n.2.2.2.2.1.getD line.toNat (⟨#[]⟩,0,0,0,0,0)
def tR(n:Net)(line:Int):Int×List Bool×Li:=n.1.getD (n.2.2.2.1.getD (ff n line).2.1.toNat (⟨#[]⟩,0,0,0,0,0,[])).2.2.1.toNat (0,[],[])
def eW(n:Net)(line:Int)(ts:Li):Bool:=cw line n.2.2.2.2.1.length&&ts.all bO&&aZ n
def Bi(ts:Li)(k:Int):Prop:=0<=k/\k<=ts.length/\(ts.take k.toNat).all bO=true
abbrev aAS(ts:Li):Prop:=ts.length<=1000000
abbrev M1(n:Net)(line f:Int):Prop:=Oo n line/\0<=f/\f<=2000000
def cF(n:Net)(line d:Int):Int:=gY (tR n line).1 d (ff n line).2.2.2.1
def nz(n:Net)(line f:Int):Li:=lB (tR n line).2.1 (tR n line).2.2 (jy (tR n line).1 f) (jy (tR n line).1 f+60)
def fj(n:Net)(line f:Int):Option Int:=(((nz n line f).map (cF n line)).find? λt=>decide (f<=t)).bind λt=>if t<f+86400 then some t else none
def nI(n:Net)(line f:Int):Int:=(fj n line f).getD 0
def jY(n:Net)(line f:Int):Bool:=(fj n line f).isSome
def firstTo(n:Net)(line f:Int)(k:Nat):Prop:=k<=(nz n line f).length/\((nz n line f).take k).all (λd=>decide (cF n line d<f))=true
def KT5:Kt:=kOr 286 Hg KT4
def ZG(ts:Li):Ann:=Z8 4 Int (Bi ts) (λs k=>put s [(20,.dat I k)]) λk=>Dc (Dk (Dh ts) k)
def Yv(w:List Bool)(h:Li)(a b:Int):ID:=⟨λf y=>match f with
 |1=>some {α:=Int,inv:=λd=>mr a (Dt (Dk b a) 1) d,st:=λd=>⟨put y.s [(5,.dat I d)],lH w h a d,true⟩,μ:=λd=>Dc (Dk (Dt b 1) d)}|_=>none,λ_ _=>none,λf=>f==3⟩
theorem U6(z a b:Int)(w:List Bool)(h:Li)(G:
 let c1:=(z,w,h);let c2:=lB w h a b;let X:=Dl c2;let A:=b+1;true/\true/\true/\false=false/\∀(l:Nat),DT z w h a b->(∃x,mr a ((b-a)+1) x/\(T4 l a b c1 (a=x/\T5 a))/\0=lH w h a x/\true)/\∀(x:Int),let L:=(b-a)+1;let c6:=lH w h a x;let c7:=c6+1;let u:=x+1;let c9:=Dz (bF w h x) (Di false) false;mr a L x->(Eh x b->(aW z w h/\dF x)/\(bF w h x->(bF w h x->bF w h x)/\(bF w h x->bF w h x)/\l=l/\true/\oD c2 c6 x/\∀(f:Bool),let j:=Dz (bF w h x) (Di f) false;(Dj true (bF w h x)->bF w h x)/\(j->f->c7=X)/\(j=false->inR .i64 u/\∃y,mr a L y/\((T4 l a b c1 (u=y/\T5 a))/\c7=lH w h a y/\f)/\Dc (A-y)<Dc (A-x)))/\(bF w h x=false->L5 (bF w h x) ((Dj true (bF w h x)->bF w h x)/\(c9->true->c6=X)/\(c9=false->inR .i64 u/\∃y,mr a L y/\((T4 l a b c1 (u=y/\T5 a))/\c6=lH w h a y/\true)/\Dc (A-y)<Dc (A-x)))))/\(Eh x b=false->true->c6=X)):
  evI (mkc KT5) (Yv w h a b) 285 [.ip I a,.ip I b,.ip C (z,w,h)] ⟨DT z w h a b,I,lB w h a b⟩:=oE_ G
abbrev AE:=az [.row N,.val I] (λ(n,l,_)=>Oo n l) λ(n,l,_)=>cal (tR n l).1 (tR n l).2.1 (tR n l).2.2
abbrev pL:=az [.row C,.val I,.val I] (λ_=>True) λ(c,a,b,_)=>.fn 285 [.ip I a,.ip I b,.ip C (c.1,c.2.1,c.2.2)]
abbrev vn:=az [.row N,.val I,.val R] (λ(_,_,f,_)=>aAS f) λ(n,l,f,_)=>.dat .bool (eW n l f)
def KT6:Kt:=kOr 260 AE <|
 kOr 261 pL <|
 kOr 219 vn KT5
def aGi:FuncId->List AV->Option iJ:=λf h=>match f,h with|285,[.ip (.int .i64) a,.ip (.int .i64) b,.ip (.pair (.int .i64) (.pair (.sl .bool) (.sl (.int .i64)))) c]=>some ⟨DT c.1 c.2.1 c.2.2 a b,I,lB c.2.1 c.2.2 a b⟩|_,_=>none
noncomputable def mkr(K:Kt)(mb:Tmp->Bool):Cfg:=⟨Tryz.prog,G0,K,mb,aGi,true,λ_ _ _=>none,λ_=>false⟩
def aDb(n:Net)(line f:Int):Ann:=Z8 4 Nat (firstTo n line f) (λs _=>flat s) λk=>k
abbrev AA:=az [.row N,.val I,.val I] (λ(n,l,t,_)=>M1 n l t) λ(n,l,t,_)=>.tup [.dat I (nI n l t),.dat .bool (jY n l t)]
def KT7:Kt:=kOr 220 AA KT6
theorem aDB:ay Tryz.prog G0 KT5:=ah aCv aDC
theorem Uc(j:LC)(y z:LB)(f:Lo)(u:Ll)(A:Lk){line:Int}(h:Oo (j,y,z,f,u,A) line):aW (tR (j,y,z,f,u,A) line).1 (tR (j,y,z,f,u,A) line).2.1 (tR (j,y,z,f,u,A) line).2.2=true/\0<=(ff (j,y,z,f,u,A) line).2.1/\(ff (j,y,z,f,u,A) line).2.1<f.length/\
  0<=(f.getD (ff (j,y,z,f,u,A) line).2.1.toNat (⟨#[]⟩,0,0,0,0,0,[])).2.2.1/\(f.getD (ff (j,y,z,f,u,A) line).2.1.toNat (⟨#[]⟩,0,0,0,0,0,[])).2.2.1<j.length/\0<=(ff (j,y,z,f,u,A) line).2.2.2.1/\(ff (j,y,z,f,u,A) line).2.2.2.1<=1439:=by
 obtain⟨G,l0,l1⟩:=h;have l1:line<u.length:=l1;have hl:ff (j,y,z,f,u,A) line∈u:=by
  unfold ff;show u.getD line.toNat _∈u;rw[qA,qB Z,vK];exact wM _
 obtain⟨g1,g2,g3,g4,g5,X,_⟩:=mg ((lV j y z f u A G).2.2.2 _ hl);have f0:0<=(ff (j,y,z,f,u,A) line).2.1:=g1;have f1:(ff (j,y,z,f,u,A) line).2.1<f.length:=g2;have ho:f.getD (ff (j,y,z,f,u,A) line).2.1.toNat (⟨#[]⟩,0,0,0,0,0,[])∈f:=by
  rw[qA,qB Z,vK];exact wM _
 have L:=(tC j y z f u A G).2.2.2 _ ho;unfold du cw at L;simp only[qC,qF]at L;have L:0<=(f.getD (ff (j,y,z,f,u,A) line).2.1.toNat (⟨#[]⟩,0,0,0,0,0,[])).2.2.1/\(f.getD (ff (j,y,z,f,u,A) line).2.1.toNat (⟨#[]⟩,0,0,0,0,0,[])).2.2.1<(j.length:Int):=L.1.1.1.1.1.2;have hc:=((B8 (by decide)).1 (mM j y z f u A G).2.1).2.2.2;have hcl:(aF j y).length=j.length:=by unfold aF;simp
 have:=hc (f.getD (ff (j,y,z,f,u,A) line).2.1.toNat (⟨#[]⟩,0,0,0,0,0,[])).2.2.1.toNat Z;unfold bv at this;rw[fV (λc:Int×List Bool×Li=>aW c.1 c.2.1 c.2.2) j _ (0,[],[]) false Z]at this;exact⟨this,f0,f1,L.1,L.2,X.1,X.2⟩
theorem gE:eO 260 AE:=ae λ(((u,ns,os,j,h,ks):Net),(f:Int),_)=>by
 refine zE (A:=aE) (p:=let c1:=(u,ns,os,j,h,ks);let X:=(Dw h (Dc f) (ByteArray.mk #[],(0:Int),(0:Int),(0:Int),(0:Int),(0:Int))).2.1;let L:=(Dw j (Dc X) (ByteArray.mk #[],(0:Int),(0:Int),(0:Int),(0:Int),(0:Int),Du ByteArray)).2.2.1;let G:=Dw u (Dc L) ((0:Int),Du Bool,Du Int);let z:=tR c1 f;(Oo c1 f->0<=f/\f<Dh h/\0<=X/\X<Dh j/\0<=L/\L<Dh u/\T4 1 0 1 0 (G.1=z.1/\G.2.1=z.2.1/\G.2.2=z.2.2/\True))) aDB λy=>?_;obtain⟨_,h1,h2,h3,h4,_⟩:=Uc u ns os j h ks y;exact⟨y.2.1,y.2.2,h1,h2,h3,h4,rfl,rfl,rfl,rfl,rfl,rfl,rfl,trivial⟩
theorem NJ:eO 261 pL:=ae λ(((z:Int),(w:List Bool),(h:Li)),(a:Int),(b:Int),_)=>zE (A:=aE) (p:=let f:=(z,w,h);(True->d9 a b f)) aDB λ_=>⟨rfl,rfl,rfl,trivial⟩
theorem ze{t:Int}:bO t=true↔¬t<0/\¬t>2000000:=by unfold bO;rw[qF];omega
theorem Vj:eO 219 vn:=ae λ(((cs,ns,os,fs,u,ks):Net),(f:Int),(j:Li),_)=>by
 refine zE (A:=(lvA [(4,[3,6,8,18,19,20])] (ZG j))) (p:=let c1:=Dn f 0;let X:=Di c1;let c3:=Dz c1 true (Eb f (Dh u));let L:=(cs,ns,os,fs,u,ks);let c5:=eW L f j;(aAS j->L5 X (Q4 X ((Dj true X->X)/\(c3->false=c5/\True)/\(c3=false->(∃x,Bi j x/\Q3 L j (Dh j) (0=x/\True))/\∀(x:Int),let A:=Dn x (Dh j);let c7:=Dw j (Dc x) 0;let c8:=Dn c7 0;let h:=Di c8;let G:=Dz c8 true (Ef c7 2000000);let z:=x+1;Bi j x->(A->0<=x/\x<Dh j/\L5 h ((Dj true h->h)/\(G->false=c5/\True)/\(G=false->inR .i64 z/\∃y,Bi j y/\(Q3 L j (Dh j) (z=y/\True))/\Dc (Dh j-y)<Dc (Dh j-x))))/\(A=false->True/\Ee (Dh (fk L)) 0=c5/\True)))))) aDB λhp=>?_;refine Z9 ?_;have hp':j.length<=1000000:=hp;refine⟨λh=>?_,λ⟨h1,h2⟩=>⟨⟨qL _,qR _,rfl⟩,λk ⟨k0,k1,k2⟩=>⟨λhk=>?_,λhk=>?_⟩⟩⟩;unfold eW;have:cw f (u.length:Nat)=false:=by unfold cw;exact qV Z
 show false=(cw f (u.length:Nat)&&_&&_);rw[this];rfl;have hg:j.getD k.toNat 0=j[k.toNat]:=by rw[qA,qB Z,vK]
 refine⟨k0,hk,λh=>?_,λh=>⟨pS Z,k+1,⟨Z,Z,?_⟩,rfl,Z⟩⟩;have hn:j.all bO=false:=by
  rw[qBk];refine⟨j[k.toNat],wM _,λg=>?_⟩;rw[<- hg,ze]at g;omega
 unfold eW;rw[hn,kR];rfl;rw[show(k+1).toNat=k.toNat+1 by omega,wW,qB Z,qCe,gU,k2,<- hg];show(true&&(bO _&&true))=true;rw[ze.2 h];rfl;have e1:cw f (u.length:Nat)=true:=by unfold cw;exact qP Z
 have e2:j.all bO=true:=by
  rw[qO Z]at k2;exact k2
 unfold eW aZ;show _=(cw f (u.length:Nat)&&j.all bO&&_);rw[e1,e2];cases fk (cs,ns,os,fs,u,ks)with
 |nil=>rfl|cons a l=>
  show decide _=false;rw[wJ];show ¬((((a::l).length:Nat):Int)=0);rw[wH];omega
theorem iK{d:Int}:dF d=true↔-1000000<=d/\d<=1000000:=by unfold dF;rw[qF]
theorem ZN(a b:Int)(c:C.den):lI Tryz.prog G0 285 [.ip I a,.ip I b,.ip C c] ⟨DT c.1 c.2.1 c.2.2 a b,I,lB c.2.1 c.2.2 a b⟩:=by
 obtain⟨z,w,h⟩:=c;refine qT (c:=mkc KT5) (A:=Yv w h a b) aDB sJ hm ?_;refine U6 z a b w h ⟨rfl,rfl,rfl,rfl,λl ⟨L,ha,hb⟩=>?_⟩;refine Z9 ?_;have ha':=iK.1 ha;have hb':=iK.1 hb;refine⟨⟨a,⟨qL _,.inr rfl⟩,rfl,(Np w h a).symm⟩,λx u=>?_⟩;have f:=u.1;have G:=u.2;refine⟨λX=>⟨⟨L,iK.2 Z⟩,λj=>⟨Ur f Z j,λs=>⟨λg1 y=>(by rw[g1.2]at y;cases y),λg=>⟨pS Z,x+1,⟨Z,.inl Z⟩,⟨rfl,?_,g j⟩,Z⟩⟩⟩,λj=>⟨λg=>(by rw[j]at g;cases g),λ_=>⟨pS Z,x+1,⟨Z,.inl Z⟩,⟨rfl,?_⟩,Z⟩⟩⟩,λhge=>?_⟩;rw[tK f,j];rfl;rw[tK f,j];rfl;exact cnt_end (n:=b-a+1) u Z
theorem aGA:ay Tryz.prog G0 KT6:=ah gE<|ah NJ<|ah Vj aDB
theorem aDL:aR Tryz.prog G0 aGi:=by
 intro f j c h;unfold aGi at h;split at h;cases h;exact ZN _ _ _;cases h
theorem JK{f:Int->Int}{j y:Int}(u:¬f y<j):∀{L:Li}{x:Nat},L[x]?=some y->(L.take x).all (λd=>decide (f d<j))=true->(L.map f).find? (λt=>decide (j<=t))=some (f y)
 |[],x,h,_=>by simp at h|a::L,0,h,_=>by
  have:a=y:=by simpa using h
  subst this;rw[wR,xR,qP (show j<=f a by omega)]
 |a::L,x+1,h,g=>by
  rw[List.take_succ_cons,qAw,qC,qF]at g;rw[wR,xR,qV (show ¬j<=f a by omega)];exact JK u (by simpa using h) g.2
theorem Tz{f:Int->Int}{h:Int}:∀{L:Li},L.all (λd=>decide (f d<h))=true->(L.map f).find? (λt=>decide (h<=t))=none
 |[],_=>rfl|a::L,g=>by
  rw[qAw,qC,qF]at g;rw[wR,xR,qV (show ¬h<=f a by omega)];exact Tz g.2
theorem yx{w:List Bool}{h:Li}{a b y:Int}(f:y∈lB w h a b):a<=y/\y<=b/\bF w h y=true:=by
 unfold lB dK at f;rw[xJ]at f;obtain⟨f,j⟩:=f;obtain⟨i,u,rfl⟩:=vU.1 f;have:=wG.1 u;exact⟨Z,Z,j⟩
theorem Vg{z:Int}{w:List Bool}{h:Li}{t:Int}(f:aW z w h=true)(A:0<=t)(y:t<=2000000): -2<=jy z t/\jy z t<=2000:=by
 obtain⟨⟨u,j,_⟩,_⟩:=dZ.1 f;unfold jy;omega
theorem Z5:eO 220 AA:=ae λ(((cs,L,G,fs,u,X):Net),(h:Int),(j:Int),_)=>by
 refine zF (c:=mkr KT6 λ_=>false) (A:=(aDb (cs,L,G,fs,u,X) h j)) aGA aDL hm (p:=let c1:=(cs,L,G,fs,u,X);let c2:=tR c1 h;let c3:=c2.1;let c4:=c2.2;let c5:=c4.1;let A:=c4.2;let f:=jy c3 j;let c8:=f+60;let c9:=Oi c3 j;let c10:=(c3,c5,A);let c11:=lB c5 A f c8;let c12:=(Dw u (Dc h) (ByteArray.mk #[],(0:Int),(0:Int),(0:Int),(0:Int),(0:Int))).2.2.2.1;let c13:=j+86400;let c14:=nI c1 h j;let c15:=jY c1 h j;true/\(M1 c1 h j->Oo c1 h/\T4 1 0 1 0 (qw c3 c5 A j/\L7 1 0 (inR IntKind.i64 c8/\True/\DT c3 c5 A f c8/\(∃x,firstTo c1 h j x/\x=0/\cs=cs/\L=L/\G=G/\fs=fs/\u=u/\X=X/\h=h/\j=j/\c1=c1/\h=h/\j=j/\1=1/\0=0/\0=0/\1=1/\0=0/\0=0/\1=1/\0=0/\0=0/\f=f/\c9=c9/\cs=cs/\L=L/\G=G/\fs=fs/\u=u/\X=X/\h=h/\c3=c3/\c5=c5/\A=A/\f=f/\c9=c9/\c3=c3/\c5=c5/\A=A/\j=j/\f=f/\c9=c9/\f=f/\c9=c9/\c3=c3/\c5=c5/\A=A/\f=f/\f=f/\c8=c8/\f=f/\c8=c8/\c10=c10/\(0:Int)=(0:Int)/\false=false/\c3=c3/\c5=c5/\A=A/\True)/\(∀(x:Nat) (y:Int),let c16:=Dn (gY c3 y c12) j;let c17:=Eb (gY c3 y c12) c13;
  firstTo c1 h j x->oD c11 x y->L7 1 0 (0<=h/\h<Dh u/\nG c3 c5 A y c12/\(c16->∃z,firstTo c1 h j z/\z=x+1/\cs=cs/\L=L/\G=G/\fs=fs/\u=u/\X=X/\h=h/\j=j/\c1=c1/\h=h/\j=j/\1=1/\0=0/\0=0/\1=1/\0=0/\0=0/\1=1/\0=0/\0=0/\f=f/\c9=c9/\cs=cs/\L=L/\G=G/\fs=fs/\u=u/\X=X/\h=h/\c3=c3/\c5=c5/\A=A/\f=f/\c9=c9/\c3=c3/\c5=c5/\A=A/\j=j/\f=f/\c9=c9/\f=f/\c9=c9/\c3=c3/\c5=c5/\A=A/\f=f/\f=f/\c8=c8/\f=f/\c8=c8/\c10=c10/\(0:Int)=(0:Int)/\false=false/\c3=c3/\c5=c5/\A=A/\True)/\(c16=false->inR .i64 c13/\(c17->z8 1 0 1 0 1 0 1 0 (0=c14/\false=c15/\True))/\(c17=false->z8 1 0 1 0 1 0 1 0 (gY c3 y c12=c14/\true=c15/\True)))))/\∀(x:Nat),firstTo c1 h j x->x=Dl c11->z8 1 0 1 0 1 0 1 0 (0=c14/\false=c15/\True))))) ⟨rfl,λhp=>?_⟩
 refine Z9 ?_;obtain⟨hl,t0,t1⟩:=hp;obtain⟨hv,_,_,_,_,m0,m1⟩:=Uc cs L G fs u X hl;obtain⟨d0,d1⟩:=Vg hv t0 t1;refine⟨hl,⟨hv,Z,Z⟩,pS Z,⟨hv,iK.2 Z,iK.2 Z⟩,⟨wE _,rfl⟩,λx y hx hy=>?_,λx hx hl=>?_⟩;have hy':(nz (cs,L,G,fs,u,X) h j)[x]?=some y:=hy;obtain⟨y0,y1,yw⟩:=yx (qY hy);obtain⟨x1,x2⟩:=hx;refine⟨hl.2.1,hl.2.2,⟨hv,iK.2 Z,m0,(by show(ff (cs,L,G,fs,u,X) h).2.2.2.1<1440;omega)⟩,λhlt=>⟨(qE.1 hy').1,?_⟩,λhge=>⟨pS Z,λhfar=>?_,λhnear=>?_⟩⟩;rw[wW,hy',qCe,gU,x2];show(true&&(decide (cF (cs,L,G,fs,u,X) h y<j)&&true))=true;rw[qP (show cF (cs,L,G,fs,u,X) h y<j from hlt)];rfl;have hf:fj (cs,L,G,fs,u,X) h j=none:=by
  unfold fj;rw[JK (f:=cF (cs,L,G,fs,u,X) h) hge hy' x2];show(if cF (cs,L,G,fs,u,X) h y<j+86400 then some (cF (cs,L,G,fs,u,X) h y)else none)=none;rw[if_neg (show ¬cF (cs,L,G,fs,u,X) h y<j+86400 from by have:cF (cs,L,G,fs,u,X) h y≥j+86400:=hfar;omega)]
 unfold nI jY;rw[hf];exact⟨rfl,rfl⟩;have hf:fj (cs,L,G,fs,u,X) h j=some (cF (cs,L,G,fs,u,X) h y):=by
  unfold fj;rw[JK (f:=cF (cs,L,G,fs,u,X) h) hge hy' x2];show(if cF (cs,L,G,fs,u,X) h y<j+86400 then some (cF (cs,L,G,fs,u,X) h y)else none)=_;rw[if_pos (show cF (cs,L,G,fs,u,X) h y<j+86400 from by have:¬cF (cs,L,G,fs,u,X) h y≥j+86400:=hnear;omega)]
 unfold nI jY;rw[hf];exact⟨rfl,rfl⟩;obtain⟨x1,x2⟩:=hx;have hx':x=(nz (cs,L,G,fs,u,X) h j).length:=hl;rw[hx',qAe]at x2;have hf:fj (cs,L,G,fs,u,X) h j=none:=by
  unfold fj;rw[Tz x2];rfl
 unfold nI jY;rw[hf];exact⟨rfl,rfl⟩
theorem aGz:ay Tryz.prog G0 KT7:=ah Z5 aGA
noncomputable def isDep(n:Net)(l v:Int):Prop:=bF (tR n l).2.1 (tR n l).2.2 (jy (tR n l).1 v)=true/\Oi (tR n l).1 v=(ff n l).2.2.2.1
theorem DU(X:LC)(z y:LB)(L:Lo)(A:Ll)(G:Lk){line f:Int}{ts:Li}(h:eW (X,z,y,L,A,G) line ts=true)(ht:f∈ts):M1 (X,z,y,L,A,G) line f:=by
 unfold eW at h;rw[qC,qC]at h;obtain⟨⟨u,h2⟩,h3⟩:=h;have u:=vJ u;have hs:=((AX X z y L A G).1 (wX.1 h3)).1;have j:=vJ (qU.1 h2 f ht);exact⟨⟨hs,u.1,u.2⟩,j.1,j.2⟩
theorem HJ{n:Net}{l t u:Int}(h:fj n l t=some u):t<=u/\u<t+86400:=by
 unfold fj at h;cases e:((nz n l t).map (cF n l)).find? (λv=>decide (t<=v))with
 |none=>rw[e]at h;cases h
 |some v=>
  rw[e]at h;have f:=vJ (qAz (p:=λv=>decide (t<=v)) e);have h:(if v<t+86400 then some v else none)=some u:=h;split at h;cases h;exact⟨f,by assumption⟩;cases h
noncomputable def atOk(n:Net)(l:Int):Prop:=0<=(ff n l).2.2.2.1/\(ff n l).2.2.2.1<=1439
theorem aAt(A:LC)(j f:LB)(z:Lo)(u:Ll)(y:Lk){line:Int}(h:Oo (A,j,f,z,u,y) line):atOk (A,j,f,z,u,y) line:=by
 obtain⟨_,_,_,_,_,L,G⟩:=Uc A j f z u y h;exact⟨L,G⟩
theorem Sj{n:Net}{l:Int}(h:atOk n l)(d:Int):jy (tR n l).1 (cF n l d)=d/\Oi (tR n l).1 (cF n l d)=(ff n l).2.2.2.1:=by
 unfold atOk at h;unfold jy Oi cF gY;omega
theorem HY{n:Net}{l v:Int}(h:isDep n l v):cF n l (jy (tR n l).1 v)=v:=by
 unfold isDep jy Oi at h;unfold cF gY jy;omega
theorem GL{n:Net}{l d:Int}(h:atOk n l)(f:bF (tR n l).2.1 (tR n l).2.2 d=true):isDep n l (cF n l d):=by
 have:=Sj h d;unfold isDep;rw[this.1,this.2];exact⟨f,rfl⟩
theorem Oj{w:List Bool}{h:Li}{a b y:Int}(u:a<=y)(j:y<=b)(f:bF w h y=true):y∈lB w h a b:=by
 unfold lB dK;rw[xJ];exact⟨vU.2 ⟨(y-a).toNat,wG.2 Z,Z⟩,f⟩
theorem Be(w:List Bool)(h:Li)(a b:Int):(lB w h a b).Pairwise (· < ·):=by
 unfold lB dK;refine List.Pairwise.filter _ ?_;rw[qBi];exact List.pairwise_lt_range.imp λh=>Z
theorem GK{n:Net}{l:Int}{L:Li}(h:L.Pairwise (· < ·)):(L.map (cF n l)).Pairwise (· < ·):=by
 rw[qBi];exact h.imp λh=>by unfold cF gY;omega
theorem rf{t u:Int}:∀{L:Li},L.Pairwise (· < ·)->L.find? (λv=>decide (t<=v))=some u->u∈L/\t<=u/\∀v∈L,t<=v->u<=v
 |[],_,e=>by cases e
 |a::L,z,e=>by
  rw[xR]at e;obtain⟨X,G⟩:=xY.1 z;by_cases g:t<=a;rw[qP g]at e;have e:a=u:=wF e;subst e;refine⟨wO,g,λv f _=>?_⟩;rcases wY.1 f with rfl|f;exact qL _;have:=X v f;omega;rw[qV g]at e;obtain⟨y,j,h⟩:=rf G e;refine⟨wU _ y,j,λv f A=>?_⟩;rcases wY.1 f with rfl|f;omega;exact h v f A
theorem HW{n:Net}{l t v:Int}(h:isDep n l v)(j:t<=v)(f:v<t+86400):v∈(nz n l t).map (cF n l):=by
 refine vU.2 ⟨jy (tR n l).1 v,Oj ?_ ?_ h.1,HY h⟩;unfold jy;omega;unfold jy;omega
theorem rz(n:Net)(l t:Int):((nz n l t).map (cF n l)).Pairwise (· < ·):=GK (Be _ _ _ _)
theorem first_some{n:Net}{l t u:Int}(A:atOk n l)(h:fj n l t=some u):t<=u/\u<t+86400/\isDep n l u/\∀v,t<=v->v<u->¬isDep n l v:=by
 obtain⟨L,G⟩:=HJ h;unfold fj at h;cases e:((nz n l t).map (cF n l)).find? (λv=>decide (t<=v))with
 |none=>rw[e]at h;cases h
 |some x=>
  rw[e]at h;have h:(if x<t+86400 then some x else none)=some u:=h;split at h;cases h;obtain⟨y,i2,j⟩:=rf (rz n l t) e;obtain⟨d,hd,rfl⟩:=vU.1 y;refine⟨L,G,GL A (yx hd).2.2,λv f X z=>?_⟩;have:=j v (HW z f Z) f;omega;cases h
theorem OL{n:Net}{l t:Int}(h:fj n l t=none)(v:Int)(f:t<=v)(j:v<t+86400):¬isDep n l v:=by
 intro u;have hm:=HW u f j;unfold fj at h;cases e:((nz n l t).map (cF n l)).find? (λv=>decide (t<=v))with
 |none=>
  rw[List.find?_eq_none]at e;exact e v hm (qP f)
 |some x=>
  rw[e]at h;have h:(if x<t+86400 then some x else none)=none:=h;split at h;cases h;have:=(rf (rz n l t) e).2.2 v hm f;omega
theorem XE{n:Net}{l t u:Int}(j:atOk n l)(h:t<=u)(z:u<t+86400)(f:isDep n l u)(y:∀v,t<=v->v<u->¬isDep n l v):fj n l t=some u:=by
 cases e:fj n l t with
 |none=>exact(OL e u h z f).elim|some x=>
  obtain⟨L,X,G,A⟩:=first_some j e;rcases Int.lt_trichotomy x u with g|g|g;exact(y x L g G).elim;rw[g];exact(A u h g f).elim
theorem XD{n:Net}{l t:Int}(f:atOk n l)(h:∀v,t<=v->v<t+86400->¬isDep n l v):fj n l t=none:=by
 cases e:fj n l t with
 |none=>rfl|some x=>
  obtain⟨y,u,j,z⟩:=first_some f e;exact(h x y u j).elim
noncomputable def ig(n:Net)(l t:Int):Int:=if eW n l [t]then nI n l t else 0
noncomputable def iR(n:Net)(l t:Int):Int:=if eW n l [t]then(if jY n l t then 0 else 20)else 1
theorem Vv(line f:Int)(L:LC)(u j:LB)(G:Lo)(y:Ll)(z:Lk):aj Tryz.prog G0 160 [net L u j G y z,.dat I line,.dat I f] [] ⟨True,.tup [.dat I (ig (L,u,j,G,y,z) line f),.dat I (iR (L,u,j,G,y,z) line f)],[]⟩:=by
 refine zF (c:=mkr KT7 λ_=>false) (A:=aE) aGz aDL hm (p:=let c1:=[f];let X:=(L,u,j,G,y,z);let c3:=Di (eW X line c1);let c4:=ig X line f;let c5:=iR X line f;let h:=Di (jY X line f);true/\(True->aAS c1/\(c3->0=c4/\1=c5/\True)/\(c3=false->M1 X line f/\(h->0=c4/\20=c5/\True)/\(h=false->nI X line f=c4/\0=c5/\True)))) ⟨rfl,λ_=>?_⟩;unfold ig iR;refine⟨(by show(1:Nat)<=1000000;decide),λh=>?_,λh=>?_⟩;have hu:eW (L,u,j,G,y,z) line [f]=false:=by
  cases e:eW (L,u,j,G,y,z) line [f]with
  |false=>rfl|true=>rw[e]at h;cases h
 rw[hu];exact⟨rfl,rfl,trivial⟩;have hu:eW (L,u,j,G,y,z) line [f]=true:=by
  cases e:eW (L,u,j,G,y,z) line [f]with
  |true=>rfl|false=>rw[e]at h;cases h
 refine⟨DU L u j G y z hu (qW.2 rfl),λg=>?_,λg=>?_⟩;have hb:jY (L,u,j,G,y,z) line f=false:=by
  cases e:jY (L,u,j,G,y,z) line f with
  |false=>rfl|true=>rw[e]at g;cases g
 have hd:nI (L,u,j,G,y,z) line f=0:=by
  unfold nI jY at *;cases e:fj (L,u,j,G,y,z) line f with
  |none=>rfl|some v=>rw[e]at hb;cases hb
 rw[hu,hb,hd];exact⟨rfl,rfl,trivial⟩;have hb:jY (L,u,j,G,y,z) line f=true:=by
  cases e:jY (L,u,j,G,y,z) line f with
  |true=>rfl|false=>rw[e]at g;cases g
 rw[hu,hb];exact⟨rfl,rfl,trivial⟩
theorem qz{w:List Bool}{h:Li}{a n:Int}(f:0<=n):dK w h a (n+1)=dK w h a n++(if bF w h (a+n)then[a+n]else[]):=by
 unfold dK;rw[show(n+1).toNat=n.toNat+1 by omega,yK,wV,yF];congr 1;simp only[wR,qBv,yV,gQ,show a+((n.toNat:Nat):Int)=a+n by omega]
theorem Gy{w:List Bool}{h:Li}{a:Int}:∀(j:Nat) {k:Int},0<=k->∃r,dK w h a (k+j)=dK w h a k++r
 |0,k,_=>⟨[],by simp⟩|j+1,k,u=>by
  obtain⟨r,f⟩:=Gy (w:=w) (h:=h) (a:=a) j u;exact⟨r++_,by rw[show k+((j+1:Nat):Int)=k+j+1 by omega,qz Z,f,wQ]⟩
theorem WQ{w:List Bool}{h:Li}{d k:Int}(j:0<=k)(z:k<60)(y:dK w h d k=[])(u:bF w h (d+k)=true):fO w h d=d+k/\gR w h d=0:=by
 obtain⟨r,f⟩:=Gy (w:=w) (h:=h) (a:=d) (59-k).toNat (k:=k+1) Z;rw[show k+1+((59-k).toNat:Int)=60 by omega,qz j,y,if_pos u]at f;have:jP w h d=some (d+k):=by unfold jP;rw[f];rfl
 unfold fO gR;rw[this];exact⟨rfl,rfl⟩
theorem WO{w:List Bool}{h:Li}{d:Int}(f:dK w h d 60=[]):fO w h d=0/\gR w h d=20:=by
 have:jP w h d=none:=by unfold jP;rw[f];rfl
 unfold fO gR;rw[this];exact⟨rfl,rfl⟩
theorem Gz{w:List Bool}{h:Li}{d j e:Int}(f:dK w h d j=[])(y:d<=e)(u:e<d+j):bF w h e≠true:=by
 unfold dK at f;rw[qBn]at f;exact f e (vU.2 ⟨(e-d).toNat,wG.2 Z,Z⟩)
theorem Ag(w:List Bool)(h:Li)(d:Int):∀k:Nat,dK w h d k=[]\/∃j:Int,0<=j/\j<k/\dK w h d j=[]/\bF w h (d+j)=true
 |0=>.inl rfl|k+1=>by
  rcases Ag w h d k with g|⟨j,f,j1,u,g2⟩;by_cases hw:bF w h (d+k)=true;exact .inr ⟨k,Z,Z,g,hw⟩;left;rw[show((k+1:Nat):Int)=(k:Int)+1 by omega,qz Z,g,if_neg hw];rfl;exact .inr ⟨j,f,Z,u,g2⟩
theorem TM(L:LC)(u f:LB)(G:Lo)(y:Ll)(A:Lk){l t:Int}(hs:aZ (L,u,f,G,y,A)=true)(hl:DJ (L,u,f,G,y,A) l):ig (L,u,f,G,y,A) l t=mV (L,u,f,G,y,A) l t/\iR (L,u,f,G,y,A) l t=od (L,u,f,G,y,A) l t:=by
 obtain⟨hno,l0,l1⟩:=id hl;have hu:eW (L,u,f,G,y,A) l [t]=bO t:=by
  unfold eW;rw[hs,show cw l (((L,u,f,G,y,A):Net).2.2.2.2.1.length:Int)=true from qP ⟨l0,l1⟩];simp
 unfold ig iR mV od;rw[hu];cases hk:bO t with
 |false=>exact⟨rfl,rfl⟩|true=>
  have ha:=aAt L u f G y A (line:=l) ⟨hno,l0,l1⟩;obtain⟨m0,m1⟩:0<=Gw (L,u,f,G,y,A) l/\Gw (L,u,f,G,y,A) l<=1439:=id ha;have hL:∀d,cF (L,u,f,G,y,A) l d=d*1440+Gw (L,u,f,G,y,A) l-(aM (L,u,f,G,y,A) (cE (L,u,f,G,y,A) l)).1:=λ_=>rfl;have hc:tR (L,u,f,G,y,A) l=aM (L,u,f,G,y,A) (cE (L,u,f,G,y,A) l):=rfl;have hD:∀v,isDep (L,u,f,G,y,A) l v->bF (aM (L,u,f,G,y,A) (cE (L,u,f,G,y,A) l)).2.1 (aM (L,u,f,G,y,A) (cE (L,u,f,G,y,A) l)).2.2 (jy (aM (L,u,f,G,y,A) (cE (L,u,f,G,y,A) l)).1 v)=true/\v=jy (aM (L,u,f,G,y,A) (cE (L,u,f,G,y,A) l)).1 v*1440+Gw (L,u,f,G,y,A) l-(aM (L,u,f,G,y,A) (cE (L,u,f,G,y,A) l)).1:=λv h=>⟨h.1,(HY h).symm⟩;rw[if_pos rfl,if_pos rfl,if_pos rfl,if_pos rfl];unfold nI jY;have X:d0F (aM (L,u,f,G,y,A) (cE (L,u,f,G,y,A) l)) (Gw (L,u,f,G,y,A) l) t=if Gw (L,u,f,G,y,A) l<(t+(aM (L,u,f,G,y,A) (cE (L,u,f,G,y,A) l)).1)%1440 then(t+(aM (L,u,f,G,y,A) (cE (L,u,f,G,y,A) l)).1)/1440+1 else(t+(aM (L,u,f,G,y,A) (cE (L,u,f,G,y,A) l)).1)/1440:=rfl;unfold fX mT;generalize hcc:aM (L,u,f,G,y,A) (cE (L,u,f,G,y,A) l)=c at *;obtain⟨z,w,h⟩:=c;generalize hd0:d0F (z,w,h) (Gw (L,u,f,G,y,A) l) t=d0 at *;generalize Gw (L,u,f,G,y,A) l=m at *;simp only at X hD hL ⊢;have hb:t<=d0*1440+m-z/\d0*1440+m-z<t+1440:=by split at X<;>omega
  rcases Ag w h d0 60 with g|⟨j,j0,j1,g1,g2⟩;obtain⟨e1,e2⟩:=WO g;have hf:fj (L,u,f,G,y,A) l t=none:=XD ha λv v1 v2 hv=>by
   obtain⟨k1,k2⟩:=hD v hv;exact Gz g (e:=jy z v) Z Z k1
  rw[hf,e2];exact⟨rfl,rfl⟩;have j1:j<60:=j1;obtain⟨e1,e2⟩:=WQ j0 j1 g1 g2;have hf:fj (L,u,f,G,y,A) l t=some (cF (L,u,f,G,y,A) l (d0+j)):=XE ha (by rw[hL];omega) (by rw[hL];omega) (GL ha (by rw[hc];exact g2)) λv v1 v2 hv=>by
   obtain⟨k1,k2⟩:=hD v hv;rw[hL]at v2;exact Gz g1 (e:=jy z v) Z Z k1
  rw[hf,e2,e1];exact⟨hL _,rfl⟩
def lK(n:Net)(nx:Lj)(o to t:Int):Bool:=(cw o n.2.2.2.1.length&&cw to n.2.2.2.1.length&&bO t)&&(aZ n&&nC n nx)
def xF(n:Net)(nx:Lj)(o to t:Int):List Stop:=if lK n nx o to t=true then IE n nx o to t else[]
def NA(n:Net)(nx:Lj)(o to t:Int):Int:=if lK n nx o to t=true then yy n nx o to t else 1
def XS(args:List AV)(m:Mem):Option lA:=match args,m with|[.ifc t (.dat (.int .i64) e)],[]=>if t=38 then some ⟨True,.dat I e,[]⟩else none|_,_=>none
def KR5:Kt:=kOr 45 XS <|
 kOr 51 (az [.ptr N,.val M,.val I,.val I,.val I] (λ(n,nx,o,f,t,_)=>UN n nx o f t/\isZero (yy n nx o f t)=true) λ(n,nx,o,f,t,_)=>.dat (.sl Stp) (IE n nx o f t)) KR4
def KPw:KPt:=pOr 51 (Ia [.ptr N,.val M,.val I,.val I,.val I] λ(n,nx,o,f,t,_)=>⟨UN n nx o f t,isZero (yy n nx o f t),US 38 (yy n nx o f t)⟩) <|
 pOr 46 (Ia [.val .bool] λ(b,_)=>⟨True,b,US 38 1⟩) KPm
def Kcd:Kt:=kOr 45 XS λ_ _ _=>none
def cY:Cfg:={mkp KR5 (λ_=>false) KPw (λf=>f==51||f==46)with rng:=true}
theorem Ni:∀args m c,XS args m=some c->aj Tryz.prog [] 45 args m c:=by
 intro args m c h;unfold XS at h;split at h;split at h;rename_i e;subst e;cases h;exact ZY _;cases h;cases h
theorem Zs:ay Tryz.prog [] Kcd:=ah Ni λ_ _ _ _ h=>by cases h
theorem aEp:ay Tryz.prog G0 KR5:=ah (λargs m c h=>OI (Ni args m c h))<|ah (ae λ((G,u,j,A,y,z),nx,o,f,t,_)=>(Qn nx o f t G u j A y z).1) aGB
theorem Zv:bI Tryz.prog G0 KPw:=lT (mX λ((A,j,h,z,u,y),nx,o,f,t,_)=>(Qn nx o f t A j h z u y).2)<|lT (mX λ(b,_)=>(DZ b).2) Zw
theorem ZF{n:Net}{nx:Lj}{to:Int}(k:Nat)(o t:Int)(h:(iV n nx to k o t).2≠0):(iV n nx to k o t).1=[]:=by
 by_cases f:o=to;rw[oI k f]at h;exact absurd rfl h;by_cases j:nxt nx o to=-1;rw[iL k f j];by_cases u:od n (nxt nx o to) (aO n o t)=0;cases k with
 |zero=>rw[jf f j u]|succ k=>
  rw[je k f j u]at h ⊢;unfold BD at h ⊢;split;rename_i y;rw[if_pos y]at h;exact absurd rfl h;rfl
 rw[lJ k f j u]
theorem cC{i l:Int}:cw i l=true↔0<=i/\i<l:=by unfold cw;simp
theorem PZ{n:Net}{nx:Lj}{o to t:Int}:lK n nx o to t=true↔(((0<=o/\o<n.2.2.2.1.length)/\(0<=to/\to<n.2.2.2.1.length))/\(0<=t/\t<=2000000))/\aZ n=true/\nC n nx=true:=by
 unfold lK bO;simp only[qC,cC,qF]
abbrev GV:=az [.row N,.val M,.val I,.val I,.val I] (λ(_,nx,_)=>jb nx) λ(n,nx,o,f,t,_)=>.tup [.dat (.sl Stp) (xF n nx o f t),.dat I (NA n nx o f t)]
theorem aB2:eO 15 GV:=ae λ(((L,y,u,j,z,G):Net),(nx:Lj),(o:Int),(f:Int),(t:Int),_)=>by
 refine zR (c:=cY) (Kz:=Kcd) (A0:=aE) (A:=aE) (Ac:=aE) Zs aEp sJ hm Zv (p:=let c14:=Int×Int×Int×Int;let c1:=Dh j;let c2:=cw o c1;let c3:=Dz c2 (cw f c1) false;let c4:=Dz c3 (bO t) false;let X:=(L,y,u,j,z,G);let h:=xF X nx o f t;let A:=NA X nx o f t;let c13:=Di false->True/\1=1/\0=0/\1=1/\0=0/\1=1/\0=0/\1=1/\0=0/\h=Du c14/\1=A/\True;let c12:=Di false=false->1=1/\0=0/\1=1/\0=0/\h=Du c14/\0=A/\True;let c8:=aZ X;let c9:=Dz c8 (nC X nx) false;let c10:=yy X nx o f t;let c11:=isZero c10;(true/\true)/\(jb nx->true/\True/\L5 c2 (Q4 c2 ((c2->True)/\(Dj true c2->c2)/\L5 c3 ((c3->True)/\(Dj true c3->c3)/\(true->True/\(c4=false->true/\true/\c13/\c12))/\((true->c4)->(True/\c4)/\True/\L5 c8 ((c8->jb nx)/\(Dj true c8->c8)/\(true->True/\(c9=false->true/\true/\c13/\c12))/\((true->c9)->(True/\c9)/\(true->UN X nx o f t/\(c11=false->true/\true/\(Di false->True/\z8 1 0 1 0 1 0 1 0 (h=Du c14/\c10=A/\True))/\c12))/\((true->c11)->(UN X nx o f t/\c11)/\T4 1 0 1 0 (true/\true/\(Di true->False)/\(Di true=false->T4 1 0 1 0 (IE X nx o f t=h/\0=A/\True)))))))))))) ⟨⟨rfl,rfl⟩,λhp=>?_⟩;have hW1:lK (L,y,u,j,z,G) nx o f t=true->xF (L,y,u,j,z,G) nx o f t=IE (L,y,u,j,z,G) nx o f t/\NA (L,y,u,j,z,G) nx o f t=yy (L,y,u,j,z,G) nx o f t:=λh=>⟨if_pos h,if_pos h⟩;have hW0:lK (L,y,u,j,z,G) nx o f t=false->xF (L,y,u,j,z,G) nx o f t=[]/\NA (L,y,u,j,z,G) nx o f t=1:=λh=>⟨if_neg (by simp[h]),if_neg (by simp[h])⟩
 refine Z9 ?_;have no:lK (L,y,u,j,z,G) nx o f t=false->(xF (L,y,u,j,z,G) nx o f t=[]/\1=NA (L,y,u,j,z,G) nx o f t)/\(false=true->xF (L,y,u,j,z,G) nx o f t=[]/\0=NA (L,y,u,j,z,G) nx o f t):=λh=>by
  obtain⟨h1,h2⟩:=hW0 h;exact⟨⟨h1,h2.symm⟩,λh=>by cases h⟩
 refine⟨λh=>no ?_,λhi=>⟨hi,λ_=>hp,λh=>no ?_,λhs=>?_⟩⟩;unfold lK;show(cw o j.length&&cw f j.length&&bO t&&_)=false;cases h1:cw o j.length<;>cases h2:cw f j.length<;>simp;rw[h ⟨h1,h2⟩];simp;unfold lK;cases h1:aZ (L,y,u,j,z,G);simp;rw[h h1];simp;have hok:lK (L,y,u,j,z,G) nx o f t=true:=by
  unfold lK;show(cw o j.length&&cw f j.length&&bO t&&_)=true;rw[hi.1.1,hi.1.2,hi.2,hs.1,hs.2];rfl
 obtain⟨e1,e2⟩:=hW1 hok;obtain⟨⟨⟨⟨o0,o1⟩,⟨d0,d1⟩⟩,⟨t0,t1⟩⟩,q1,q2⟩:=PZ.1 hok;have hw:UN (L,y,u,j,z,G) nx o f t:=⟨q1,q2,o0,o1,d0,d1,t0,Z⟩;rw[e1,e2];refine⟨hs,⟨hw,λhz=>⟨⟨ZF 19 o t (jT.1 hz),rfl⟩,λh=>by cases h⟩⟩,λhz=>⟨⟨hw,hz⟩,⟨(λh=>by cases h),rfl,(jU.1 hz).symm⟩⟩⟩
end Go.Eng.Sv
