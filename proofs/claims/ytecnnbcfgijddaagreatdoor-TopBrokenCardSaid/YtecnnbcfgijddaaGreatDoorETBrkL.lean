/- PeTv1 PeWr4p -/
import Derived.Test.YtecnnbcfgijddaaGreatDoorETBrkC
import Derived.Test.YtecnnbcfgijddaaGreatDoorETBrkG
set_option linter.all false
namespace Go.Eng.Top
open Go.Proofs
open Go.Eng.Sv (Net Stop Trk nxt iR uh zf kA rL DU iZ I0 dvD Ye Ky UJ PG DV PE mB Ci tj aZ nP fk cA Cb Ae BM pJ nK gX kz iG iF Tv pg uO Aq nz gZ)
open Go.Eng.In (Acc ah Ak Ar D9)
def base_of{n:Net}{nx:Lj}(hs:aZ n=true)(ht:nP n nx=true):∀x,WOk n nx x->Base' n nx x:=by
 obtain⟨G,j,f,A,u,y⟩:=n;intro x hx;have L:=gZ G j f A u y hs;refine⟨λl t X=>Tv G j f A u y hs X,λo o0 o1 h=>?_,λo o0 o1 t=>?_,λl X=>?_,λl t X he=>?_⟩;obtain⟨_,_,z⟩:=pg G j f A u y ht o0 o1 hx.2.1 hx.2.2;exact⟨L,(z h).1.1,(z h).1.2⟩;have:=(uO G j f A u y (t:=t) ⟨L,o0,o1⟩).1;omega;obtain⟨_,_,h1,h2,_,_,z,_⟩:=Aq G j f A u y X;exact⟨h1,h2,z⟩;obtain⟨h1,h2,z,h4⟩:=nz G j f A u y X he;exact⟨z,Z⟩
def PL{n:Net}{nx:Lj}{tz:Int}:∀(k:Nat) (o t:Int),(iR n nx tz k o t).2=0->∃s:Stop,(iR n nx tz k o t).1.getLast?=some s/\s.1=tz/\s.2.2.1=-1
 |k,o,t,h=>by
  by_cases f:o=tz;rw[nK k f];exact⟨_,rfl,f,rfl⟩;obtain⟨j,rfl,L,G,y,u⟩:=jo f h;obtain⟨s,A,z⟩:=PL j _ _ y;refine⟨s,?_,z⟩;rw[u,List.getLast?_cons,A];rfl
def LP{l:List Stop}{s:Stop}(h:l.getLast?=some s):iZ l=s:=by
 unfold iZ;rw[List.getLast?_eq_getElem?]at h;rw[qA,h];rfl
def R2{n:Net}{l:Li}{ds:List bZ}{its:List Itm}{i:Itm}(hn:Ak n)(ll:Ar l)(ac:Acc n l)(hs:aZ n=true)(ht:nP n (ah l).2.2.1=true)(hd:fk n ds=true)
  (hr:IX n (ah l).2.2.1 ds=some its) (hi:i∈its) (L:NF n (ah l).2.2.1 ds i.post):tj n (ah l) (lO i)=true:=by
 unfold tj;cases hc:mB n (ah l) (lO i).1 with
 |false=>rfl|true=>
 cases j:Ci n (ah l) (lO i).1 with
 |false=>rfl|true=>
 show(I0 n (lO i)&&decide (dvD n (lO i)<=PE n (ah l).2.2.2 (lO i).1))=true;unfold mB at hc;simp only[qE,qF,zB,wG]at hc;obtain⟨⟨⟨⟨⟨c1,c2⟩,f⟩,c4⟩,c5⟩,c6⟩:=hc;unfold Ci at j;have j:=vO j;have ex:(lO i).1=i.post:=rfl;rw[ex]at c1 c2 f c4 c5 c6 j;have G:kA n (ah l).2.2.1 i.post.2.1 i.post.2.2.1 i.post.2.2.2.2=true:=by
  cases e:kA n (ah l).2.2.1 i.post.2.1 i.post.2.2.1 i.post.2.2.2.2 with
  |true=>rfl|false=>unfold DU at f;rw[e]at f;cases f
 have X:rL n (ah l).2.2.1 i.post.2.1 i.post.2.2.1 i.post.2.2.2.2=uh n (ah l).2.2.1 i.post.2.1 i.post.2.2.1 i.post.2.2.2.2:=if_pos G;have eE:zf n (ah l).2.2.1 i.post.2.1 i.post.2.2.1 i.post.2.2.2.2=0:=by unfold DU at f;rw[if_pos G]at f;exact f
 have h:=G;unfold kA cA at h;simp only[qE,qF]at h;obtain⟨⟨⟨_,w2⟩,_⟩,_⟩:=h;have z:WOk n (ah l).2.2.1 i.post:=⟨eE,w2⟩;obtain⟨g1,g2,g3,g4⟩:=VH (base_of hs ht) (SV hd) hr i hi z L;obtain⟨s,u,A,s3⟩:=PL 19 i.post.2.1 i.post.2.2.2.2 eE;have u:(uh n (ah l).2.2.1 i.post.2.1 i.post.2.2.1 i.post.2.2.2.2).getLast?=some s:=u;have es:iZ (lO i).2.1=s:=by show iZ i.stops=s;rw[g1];exact LP u
 rw[X,LP u]at j;have y:I0 n (lO i)=true:=by
  unfold I0;rw[es];simp only[qE,qF,zB];refine⟨⟨⟨⟨⟨⟨⟨?_,hs⟩,g3⟩,A⟩,s3⟩,?_⟩,?_⟩,by rw[A];exact j⟩;show 0<i.stops.length;rw[g1,<- X];omega;show 0<(i.bL++[i.lb]).length;simp;show(((i.bL++[i.lb]).getD ((i.bL++[i.lb]).length-1) ⟨#[]⟩).toList==i.post.1.toList)=true;rw[qA,qG,vC,qBe,qV (qL _),qAg,xK,vJ,g4];exact xY _
 rw[y,yC];refine qR ?_;unfold dvD;rw[if_pos y,es,A];exact D9 hn ll ac c1 Z Z f c2 (by rw[X];exact u) j
def Z6{n:Net}{nx:Lj}{ds:List bZ}:(zv n nx ds).length<=120:=by
 unfold zv;cases IX n nx ds with
 |none=>exact wK _|some its=>
  show(if YW its=true then its.map lO else[]).length<=120;split;rename_i h;unfold YW at h;simp only[qE,qF]at h;rw[vX];exact h.1;exact wK _
def VF{n:Net}{nx:Lj}{ds:List bZ}{k:Nat}{t y:Trk}(j:k<(zv n nx ds).length)(u:(zv n nx ds).getD k y=t):
  ∃f i,IX n nx ds=some f/\i∈f/\t=lO i/\t.2.1.length<=20/\t.2.2.2.2.1.length<=121:=by
 unfold zv at j u;cases e:IX n nx ds with
 |none=>rw[e]at j;exact absurd j (Nat.not_lt_zero _)|some f=>
  rw[e]at j u;have j:k<(if YW f=true then f.map lO else[]).length:=j;have u:(if YW f=true then f.map lO else[]).getD k y=t:=u;by_cases h:YW f=true;case neg=>rw[if_neg h]at j;exact absurd j (Nat.not_lt_zero _)
  rw[if_pos h]at j u;rw[vX]at j;rw[qA,qQ,qB j]at u;have u:lO f[k]=t:=u;unfold YW at h;simp only[qE,qF,qW]at h;obtain⟨A,z⟩:=h.2 f[k] (wS j);refine⟨f,f[k],rfl,wS j,u.symm,?_,?_⟩
  .rw[<- u];show(f[k].done++_).length<=20;rw[qG,vC];omega
  rw[<- u];show(f[k].bL++_).length<=121;rw[qG,vC];omega
def VI{n:Net}{nx:Lj}{ds:List bZ}:VM n nx ds=0\/VM n nx ds=2:=by
 unfold VM;cases IX n nx ds with
 |none=>exact .inr rfl|some its=>exact .inl rfl
end Go.Eng.Top
set_option maxRecDepth 100000
set_option maxHeartbeats 4000000
noncomputable section
namespace Go.Eng.Sv
open Go.Proofs
def aDD(x:ByteArray)(d:jm):Bool:=decide (d.1=4)||(!(decide (d.1=1))&&(d.2.2.2.2.2.2.2.1.toList==x.toList))
def aFu(d:jm)(s:Stop):Bool:=decide (d.1=5)&&decide (s.2.2.2=d.2.2.2.2.2.2.2.2.2)&&decide (d.2.1<=s.2.2.1)
def aF2(x:ByteArray)(w:List Stop)(d:jm):Bool:=aDD x d||w.any (aFu d)
def xd(x:ByteArray)(w:List Stop)(ds:List jm)(k:Int):Bool:=(ds.take k.toNat).any (aF2 x w)
def UC(x:ByteArray)(w:List Stop)(ds:List jm)(k m:Int):Bool:=xd x w ds k||aDD x (ds.getD k.toNat dfF)||(w.take m.toNat).any (aFu (ds.getD k.toNat dfF))
def aBy(l:List Trk)(k:Int):Prop:=0<=k/\k<=l.length
def aDB(ds:List jm)(k:Int):Prop:=0<=k/\k<=ds.length
def aDA(w:List Stop)(k:Int):Prop:=0<=k/\k<=w.length
def aF0(l:Li)(ds:List jm):Prop:=Go.Eng.In.aBk l/\nH (lP ds)
def dfT:Trk:=((⟨#[]⟩,0,0,0,0),[],false,[],[],[])
def KY2:Kt:=kOr 12 (aA [.row N,.row Pl,.val (.sl Df)] (λ(_,p,f,_)=>Xt p.2.2.1 f) λ(n,p,f,_)=>.dat .bool (S7 n p.2.2.1 f)) <|
 kOr 14 (aA [.row N,.row Pl,.row Tk] (λ(_,p,t,_)=>Si p t) λ(n,p,t,_)=>.dat .bool (tj n p t)) <|
 kOr 6 (aA [] (λ_=>True) λ_=>.dat .bool true) KY1
def aFx(ds:List jm):Ann:=⟨λf s=>match f with
 |14=>match s.sig.T 11 with
  |.dat (.sl (.pair (.pair .str (.pair (.int .i64) (.pair (.int .i64) (.pair (.int .i64) (.int .i64))))) (.pair (.sl (.pair (.int .i64) (.pair (.int .i64) (.pair (.int .i64) (.int .i64))))) (.pair .bool (.pair (.sl (.int .i64)) (.pair (.sl .str) (.sl .str))))))) l=>some {α:=Int,inv:=λi=>aBy l i,st:=λi=>put s [(13,.dat I i)],μ:=λi=>Dc (Dk (Di l) i)}|_=>none
 |21=>match s.sig.T 11,s.sig.T 13,s.sig.T 15 with
  |.dat (.sl (.pair (.pair .str (.pair (.int .i64) (.pair (.int .i64) (.pair (.int .i64) (.int .i64))))) (.pair (.sl (.pair (.int .i64) (.pair (.int .i64) (.pair (.int .i64) (.int .i64))))) (.pair .bool (.pair (.sl (.int .i64)) (.pair (.sl .str) (.sl .str))))))) l,.dat (.int .i64) i,.dat (.sl (.pair (.int .i64) (.pair (.int .i64) (.pair (.int .i64) (.int .i64))))) w=>some {α:=Int,inv:=λk=>aDB ds k,st:=λk=>put s [(18,.dat I k),(17,.dat .bool (xd (Dw l (Dc i) dfT).1.1 w ds k))],μ:=λk=>Dc (Dk (Di ds) k)}|_,_,_=>none
 |26=>match s.sig.T 11,s.sig.T 13,s.sig.T 15,s.sig.T 18 with
  |.dat (.sl (.pair (.pair .str (.pair (.int .i64) (.pair (.int .i64) (.pair (.int .i64) (.int .i64))))) (.pair (.sl (.pair (.int .i64) (.pair (.int .i64) (.pair (.int .i64) (.int .i64))))) (.pair .bool (.pair (.sl (.int .i64)) (.pair (.sl .str) (.sl .str))))))) l,.dat (.int .i64) i,.dat (.sl (.pair (.int .i64) (.pair (.int .i64) (.pair (.int .i64) (.int .i64))))) w,.dat (.int .i64) k=>some {α:=Int,inv:=λm=>aDA w m,st:=λm=>put s [(20,.dat I m),(17,.dat .bool (UC (Dw l (Dc i) dfT).1.1 w ds k m))],μ:=λm=>Dc (Dk (Di w) m)}|_,_,_,_=>none
 |_=>none,λ_ _=>none,λ_ _=>none⟩
def J1{n:Net}{l:Li}(h:Go.Eng.In.sO n l=true):l.length<=3000/\Go.Eng.In.Ak n:=by
 unfold Go.Eng.In.sO Go.Eng.In.smF at h;simp only[qE,qF]at h;obtain⟨⟨⟨j,y⟩,_⟩,u⟩:=h;have f:=(Go.Eng.In.fP.1 j).1;unfold Go.Eng.In.iM at f;rw[qF]at f;exact⟨Z,⟨⟨⟨Z,Z⟩,Z⟩,Z⟩⟩
def aFf{n:Net}{l:Li}(h:Go.Eng.In.sO n l=true):nY n=true:=by
 unfold Go.Eng.In.sO Go.Eng.In.smF at h;simp only[qE]at h;have f:=Go.Eng.In.fP.1 h.1.1.1;unfold nY;rw[qE];exact⟨f.1,f.2.2.1⟩
def aA2{n:Net}{l:Li}(h:Go.Eng.In.Acc n l):Go.Eng.In.pK (l,Go.Eng.In.fR l)=Go.Eng.In.ah l/\Go.Eng.In.Gx (l,Go.Eng.In.fR l)=0:=by
 have:Go.Eng.In.fL (l,Go.Eng.In.fR l)=true:=by
  unfold Go.Eng.In.fL;rw[show Go.Eng.In.du (l,Go.Eng.In.fR l).1 (l,Go.Eng.In.fR l).2=true from Go.Eng.In.zt h.ins,show Go.Eng.In.nF (l,Go.Eng.In.fR l).1=true from h.pl];rfl
 unfold Go.Eng.In.pK Go.Eng.In.Gx;rw[if_pos this,if_pos this];exact⟨rfl,rfl⟩
def Q8{l:Li}(y:Go.Eng.In.dF l)(h:Go.Eng.In.nF l=true):jb (Go.Eng.In.ah l).2.2.1/\fitsT (Go.Eng.In.ah l).2.2.2:=by
 obtain⟨⟨L,G⟩,⟨A,z⟩,_⟩:=Go.Eng.In.na y h;have f:∀(g:Int->Int->Int),jb (Go.Eng.In.jf g (l.getD 2 0)):=λg=>⟨by rw[Go.Eng.In.qt];omega,λr u=>by have:=(Go.Eng.In.mP u).1;omega⟩;refine⟨f _,?_,λt j=>?_⟩;show(Go.Eng.In.uj _ _ _).length<=_;rw[Go.Eng.In.KL];omega;obtain⟨k,rfl⟩:=Go.Eng.In.KJ j;exact f _
def SZ{x:ByteArray}{w:List Stop}{ds:List jm}{k:Int}:(xd x w ds k||(ds.getD k.toNat dfF).1==4||(ds.getD k.toNat dfF).1 != 1&&Gf (ds.getD k.toNat dfF).2.2.2.2.2.2.2.1 x)=UC x w ds k 0:=by
 show _=(xd x w ds k||aDD x (ds.getD k.toNat dfF)||false);rw[kU,Bool.or_assoc];rfl
def Xk{x:ByteArray}{w:List Stop}{ds:List jm}{k m:Int}(h:0<=m)(f:m<w.length):(UC x w ds k m||(((ds.getD k.toNat dfF).1==5&&(w.getD m.toNat (0,0,0,0)).2.2.2==(ds.getD k.toNat dfF).2.2.2.2.2.2.2.2.2)&&decide ((ds.getD k.toNat dfF).2.1<=(w.getD m.toNat (0,0,0,0)).2.2.1)))=UC x w ds k (m+1):=by
 unfold UC;rw[show(m+1).toNat=m.toNat+1 by omega,wY,qB Z,qBy,<- Bool.or_assoc,qA (l:=w),qB Z];show _=(_||([w[m.toNat]].any _));rw[qCj,List.any_nil,kU];rfl
def Xl{x:ByteArray}{w:List Stop}{ds:List jm}{k m:Int}(j:0<=k)(h:k<ds.length)(f:(w.length:Int)<=m):UC x w ds k m=xd x w ds (k+1):=by
 unfold UC xd;rw[show(k+1).toNat=k.toNat+1 by omega,wY,qB Z,qBy,qM (l:=w) Z,qA,qB Z];show _=(_||([ds[k.toNat]].any _));rw[qCj,List.any_nil,kU,Bool.or_assoc];rfl
def aCO{n:Net}{nx:Lj}{ds:List jm}{y:ByteArray}{u j A f k:Int}(z:DU n nx u j f=0)(h:xd y (rL n nx u j f) ds k=false)(hk:(ds.length:Int)<=k):Top.NF n nx (lP ds) (y,u,j,A,f):=by
 have hw:kA n nx u j f=true:=by
  cases e:kA n nx u j f with
  |true=>rfl|false=>unfold DU at z;rw[e]at z;cases z
 have eL:rL n nx u j f=uh n nx u j f:=if_pos hw;unfold xd at h;rw[qM Z,qAq,eL]at h;intro e he;obtain⟨d,hd,rfl⟩:=vW.1 he;have h:=h d hd;unfold aF2 aDD at h;simp only[yM,qF,qE,zB,wG,yX,not_or,xO,not_exists,not_and]at h;obtain⟨⟨h1,h2⟩,h3⟩:=h;refine⟨h1,λk1 e=>h2 k1 (by show(nst d).2.2.2.1.toList=y.toList;rw[e]),λs hs X L G=>?_⟩;refine h3 s hs ?_;unfold aFu;simp only[qE,qF];exact⟨⟨X,L.symm⟩,G⟩
def aFE(h9:aj Tryz.prog G0 6 [] [] ⟨True,.dat .bool true,[]⟩):ay Tryz.prog G0 KY2:=ai (af λ((A,h,f,y,j,u),(p1,p2,nx,z),ds,_)=>aBS ds p1 p2 nx z A h f y j u) <|
 ai (af λ((A,h,f,y,j,u),(p1,p2,nx,z),(po,G,lo,L,la,X),_)=>aBP po G lo L la X p1 p2 nx z A h f y j u)<|ai (af λ_=>h9) aD0
def Vg(h9:aj Tryz.prog G0 6 [] [] ⟨True,.dat .bool true,[]⟩)(l:Li)(ds:List jm)(cs:LC)(ns os:LB)(fs:Lo)(ls:Ll)(ks:Lk):aj Tryz.prog G0 3 [net cs ns os fs ls ks,.dat R l,.dat (.sl Df) ds] [] ⟨aF0 l ds,.dat .bool true,[]⟩:=by
 refine zF (c:=mkc KY2) (A:=(lvA [(14,[2,3,6,7,9,11,13,14,15,17,18,19,20]),(21,[2,3,6,7,9,11,13,14,15,17,18,19,20]),(26,[2,3,6,7,9,11,13,14,15,17,18,19,20])] (aFx ds))) (aFE h9) tC hm (p:=let c1:=(cs,ns,os,fs,ls,ks);let c2:=Dj (In.sO c1 l);let c3:=Dj c2;let c4:=Dy c2 true (Dj (aZ c1));let c5:=Dj c4;let L:=Dy c4 true (Ea (In.iP c1 l (In.fR l)) 0);let c7:=(l,In.fR l);let c8:=Ea (In.Gx c7) 0;let h:=In.pK c7;let c13:=Dj (S7 c1 h.2.2.1 ds);let c14:=aCe c1 h.2.2.1 (lP ds);let c15:=Ea c14 0;let c16:=Je c1 h.2.2.1 (lP ds);let c20:=Di c16;let c22:=((0:Int),(0:Int),(0:Int),(0:Int));let c24:=Di ds;true/\(aF0 l ds->True/\In.aBk l/\T4 1 0 1 0 (True/\L5 c3 ((c3->nY c1)/\L5 c3 ((Dh true c3->c3)/\(c5->1=1)/\(c5->0=0)/\Q2 c5 ((c5->In.Ar l/\In.Ak c1)/\L5 c5 ((Dh true c5->c5)/\(L->true/\True)/\(L=false->L7 1 0 (In.Ar l/\L7 1 0 ((c8->false/\True)/\(c8=false->L7 1 0 (Xt h.2.2.1 ds/\(c13->true/\True)/\(c13=false->L7 1 0 (aCd c1 h.2.2.1 (lP ds)/\(c15->L5 true ((Dh true true->true)/\Dy true (Ed c14 2) false/\True))/\(c15=false->(∃x,aBy c16 x/\L7 ds c1 (true/\T4 1 0 0 c16 (0=x/\d9 l (In.fR l) h.1 h.2.1 h.2.2.1 h.2.2.2)))/\∀(x:Int),let j:=Dw c16 (Dc x) ((ByteArray.mk #[],c22),Du (Int×Int×Int×Int),false,Du Int,Du ByteArray,Du ByteArray);let c41:=tj c1 h j;let c42:=x+1;let X:=rL c1 h.2.2.1 j.1.2.1 j.1.2.2.1 j.1.2.2.2.2;let c44:=(Dw c16 (Dc x) dfT).1.1;let c45:=Di X;
  aBy c16 x->(Dn x c20->L7 1 0 (0<=x/\x<c20/\Si h j/\(c41->inR .i64 c42/\∃y,aBy c16 y/\(L7 ds c1 (true/\T4 1 0 0 c16 (c42=y/\d9 l (In.fR l) h.1 h.2.1 h.2.2.1 h.2.2.2)))/\Dc (c20-y)<Dc (c20-x))/\(c41=false->0<=x/\x<c20/\L4 1 0 1 1 0 1 1 0 1 (T6 1 0 1 1 0 (jb h.2.2.1/\(∃z,aDB ds z/\L7 ds c1 (true/\L4 1 0 0 c16 x 1 0 0 X (false=xd c44 X ds z/\0=z/\L4 l (In.fR l) h.1 h.2.1 h.2.2.1 h.2.2.2 j.1.1 j.1.2.1 j.1.2.2.1 (k7 j.1.2.2.2.1 j.1.2.2.2.2))))/\∀(z:Int),let c46:=xd c44 X ds z;let c47:=Dj c46;let f:=Dw ds (Dc z) ((0:Int),(0:Int),ByteArray.mk #[],(0:Int),(0:Int),(0:Int),(0:Int),ByteArray.mk #[],ByteArray.mk #[],(0:Int));let c50:=Dy c46 true (Ed f.1 4);let c51:=Dj c50;let c52:=Ea f.1 1;let c18:=Dh c51 c52->0=0;let c17:=Dh c51 c52;let c10:=Dh c51 c52->1=1;let c70:=Ed f.1 5;let c71:=z+1;
  aDB ds z->(Dn z c24->0<=z/\z<c24/\L7 1 0 ((c47->1=1)/\L5 c47 ((c47->1=1)/\(c47->0=0)/\L5 c47 ((Dh true c47->c47)/\(c51->1=1)/\L5 c51 ((c51->1=1)/\(c51->0=0)/\Q2 c51 (c10/\L5 c17 (c10/\c18/\c10/\L5 c17 (c10/\c18/\Q2 c17 (L5 c51 ((c51->Dh c51 c52->Dh c51 c52)/\(Dh true c51->c51)/\(∃G,aDA X G/\L7 ds c1 (true/\L4 1 0 0 c16 x 1 0 0 X (Dy c50 true (Dy c52 (Gf f.2.2.2.2.2.2.2.1 j.1.1) false)=UC c44 X ds z G/\T4 z 1 0 0 (0=G/\l=l/\In.fR l=In.fR l/\h.1=h.1/\h.2.1=h.2.1/\h.2.2.1=h.2.2.1/\h.2.2.2=h.2.2.2/\j.1.1=j.1.1/\j.1.2.1=j.1.2.1/\j.1.2.2.1=j.1.2.2.1/\j.1.2.2.2.1=j.1.2.2.2.1/\j.1.2.2.2.2=j.1.2.2.2.2/\f.1=f.1/\f.2.1=f.2.1/\f.2.2.1=f.2.2.1/\f.2.2.2.1=f.2.2.2.1/\f.2.2.2.2.1=f.2.2.2.2.1/\f.2.2.2.2.2.1=f.2.2.2.2.2.1/\f.2.2.2.2.2.2.1=f.2.2.2.2.2.2.1/\f.2.2.2.2.2.2.2.1=f.2.2.2.2.2.2.2.1/\f.2.2.2.2.2.2.2.2.1=f.2.2.2.2.2.2.2.2.1/\f.2.2.2.2.2.2.2.2.2=f.2.2.2.2.2.2.2.2.2/\True))))/\∀(G:Int),let c72:=UC c44 X ds z G;let u:=Dj c72;let c19:=Dh u c70->1=1;let c11:=Dh u c70;let c74:=(Dw X (Dc G) c22).2.2;let c75:=Dy c70 (Ed c74.2 f.2.2.2.2.2.2.2.2.2) false;let c21:=Dh u c75->1=1;let A:=Dh u c75;let c76:=G+1;
  aDA X G->(Dn G c45->(u->1=1)/\L5 u ((u->1=1)/\(u->0=0)/\Q2 u (Q2 c11 ((Dh u c70->0<=G)/\(Dh u c70->G<c45)/\Q2 c11 (c19/\L5 c11 (c19/\(Dh u c70->0=0)/\Q2 c11 (L5 u ((u->Dh u c70->Dh u c70)/\L5 u (c21/\L5 A (c21/\(Dh u c75->0=0)/\Q2 A ((Dh u c75->0<=G)/\(Dh u c75->G<c45)/\L5 A (Q3 A (L5 u ((u->Dh u c75->Dh u c75)/\(Dh true u->u)/\inR .i64 c76/\∃y,aDA X y/\(L7 ds c1 (true/\L4 1 0 0 c16 x 1 0 0 X (Dy c72 true (Dy c75 (Ef f.2.1 c74.1) false)=UC c44 X ds z y/\T4 z 1 0 0 (c76=y/\l=l/\In.fR l=In.fR l/\h.1=h.1/\h.2.1=h.2.1/\h.2.2.1=h.2.2.1/\h.2.2.2=h.2.2.2/\j.1.1=j.1.1/\j.1.2.1=j.1.2.1/\j.1.2.2.1=j.1.2.2.1/\j.1.2.2.2.1=j.1.2.2.2.1/\j.1.2.2.2.2=j.1.2.2.2.2/\f.1=f.1/\f.2.1=f.2.1/\f.2.2.1=f.2.2.1/\f.2.2.2.1=f.2.2.2.1/\f.2.2.2.2.1=f.2.2.2.2.1/\f.2.2.2.2.2.1=f.2.2.2.2.2.1/\f.2.2.2.2.2.2.1=f.2.2.2.2.2.2.1/\f.2.2.2.2.2.2.2.1=f.2.2.2.2.2.2.2.1/\f.2.2.2.2.2.2.2.2.1=f.2.2.2.2.2.2.2.2.1/\f.2.2.2.2.2.2.2.2.2=f.2.2.2.2.2.2.2.2.2/\True))))/\Dc (c45-y)<Dc (c45-G)))))))))))))))/\(Dn G c45=false->inR .i64 c71/\∃y,aDB ds y/\(L7 ds c1 (true/\L4 1 0 0 c16 x 1 0 0 X (c72=xd c44 X ds y/\c71=y/\L4 l (In.fR l) h.1 h.2.1 h.2.2.1 h.2.2.2 j.1.1 j.1.2.1 j.1.2.2.1 (k7 j.1.2.2.2.1 j.1.2.2.2.2))))/\Dc (c24-y)<Dc (c24-z))))))))))))/\(Dn z c24=false->(c47->false/\True)/\(c47=false->inR .i64 c42/\∃y,aBy c16 y/\(L7 ds c1 (true/\T4 1 0 0 c16 (c42=y/\d9 l (In.fR l) h.1 h.2.1 h.2.2.1 h.2.2.2)))/\
  Dc (c20-y)<Dc (c20-x))))))))/\(Dn x c20=false->true/\True)))))))))))))))) ⟨rfl,λhp=>?_⟩
 refine Z9 ?_;refine⟨hp.1,λh=>aFf h,λ⟨h,_⟩=>⟨Go.Eng.In.RI (by have:=(J1 h).1;omega),(J1 h).2⟩,λ⟨⟨h1,h2⟩,h3⟩=>?_⟩;obtain⟨l1,hn⟩:=J1 h1;have ll:Go.Eng.In.Ar l:=Go.Eng.In.RI Z;have ac:=Go.Eng.In.aA3.1 h3;obtain⟨eR,eC⟩:=aA2 ac;rw[eR,eC];have hnum:=Go.Eng.In.DL ll ac;obtain⟨⟨m0,m1⟩,⟨q0,q1⟩,a0,a1,a2⟩:=Go.Eng.In.na hnum ac.pl;obtain⟨f1,f2⟩:=Q8 hnum ac.pl;have e1:(Go.Eng.In.ah l).1=l.getD 0 0:=rfl;have e2:(Go.Eng.In.ah l).2.1=l.getD 1 0:=rfl;have hK:aZ (cs,ns,os,fs,ls,ks)=true->nP (cs,ns,os,fs,ls,ks) (Go.Eng.In.ah l).2.2.1=true->fk (cs,ns,os,fs,ls,ks) (lP ds)=true->∀i:Int,0<=i->i<(Je (cs,ns,os,fs,ls,ks) (Go.Eng.In.ah l).2.2.1 (lP ds)).length->
   ∀t,(Je (cs,ns,os,fs,ls,ks) (Go.Eng.In.ah l).2.2.1 (lP ds)).getD i.toNat ((⟨#[]⟩,0,0,0,0),[],false,[],[],[])=t->
   Si (Go.Eng.In.ah l) t/\(Top.NF (cs,ns,os,fs,ls,ks) (Go.Eng.In.ah l).2.2.1 (lP ds) t.1->tj (cs,ns,os,fs,ls,ks) (Go.Eng.In.ah l) t=true):=λhs ht hd i i0 i1 t e=>by
  obtain⟨its,it,r1,r2,rfl,r3,r4⟩:=Top.VF (k:=i.toNat) (by show i.toNat<(Je (cs,ns,os,fs,ls,ks) (Go.Eng.In.ah l).2.2.1 (lP ds)).length;omega) e;exact⟨⟨Z,f1,f2,by show _/\_;omega⟩,Top.R2 hn ll ac hs ht hd r1 r2⟩
 have hLl:(Je (cs,ns,os,fs,ls,ks) (Go.Eng.In.ah l).2.2.1 (lP ds)).length<=120:=Top.Z6;generalize hL:Je (cs,ns,os,fs,ls,ks) (Go.Eng.In.ah l).2.2.1 (lP ds)=L at hK hLl;clear hL eR eC h3 e1 e2 a0 a1 a2;generalize hq:Go.Eng.In.ah l=p at hK f1 f2;clear hq;obtain⟨p1,p2,nx,dy⟩:=p;simp only at hK f1 f2 ⊢;refine⟨ll,λh=>absurd rfl h,λ_=>⟨⟨f1,hp.2⟩,λhF=>?_⟩⟩;unfold S7 at hF;simp only[qE]at hF;obtain⟨⟨⟨hfw,hs⟩,hr⟩,hd⟩:=hF;have ht:nP (cs,ns,os,fs,ls,ks) nx=true:=by
  unfold aCg at hr;rw[qE]at hr;exact hr.2
 have hK:=hK hs ht hd;refine⟨⟨hs,ht,hd⟩,λh=>Top.VI.resolve_left h,λ_=>⟨⟨qN 0,Z⟩,λi hi1 hi2=>?_⟩⟩;obtain⟨t,hT⟩:∃t,L.getD i.toNat ((⟨#[]⟩,0,0,0,0),[],false,[],[],[])=t:=⟨_,rfl⟩;have hT':L.getD i.toNat dfT=t:=hT;have hi0:0<=i:=hi1.1;obtain⟨k1,k2⟩:=hK i hi0 hi2 t hT;simp only[hT',hT];obtain⟨⟨x1,x2,x3,x4,x5⟩,st,lo,si,la,se⟩:=t;simp only at k1 k2 ⊢;generalize hw:rL (cs,ns,os,fs,ls,ks) nx x2 x3 x5=w;refine⟨hi0,hi2,k1,λ_=>⟨by unfold inR;simp only;omega,_,⟨Z,Z⟩,rfl,Z⟩,λhk=>⟨hi0,hi2,f1,⟨0,⟨qN 0,Z⟩,?_,rfl⟩,λk hk1=>?_⟩⟩;rfl;refine⟨λhk2=>⟨hk1.1,hk2,⟨0,⟨qN 0,Z⟩,SZ,rfl⟩,λm hm=>⟨λhm2=>⟨λ_=>hm.1,λ_=>hm2,λ_=>hm.1,λ_=>hm2,?_,m+1,⟨by have:=hm.1;omega,Z⟩,⟨Xk hm.1 hm2,rfl⟩,by have:=hm.1;omega⟩,λhm2=>⟨?_,k+1,⟨by have:=hk1.1;omega,Z⟩,⟨Xl hk1.1 hk2 Z,rfl⟩,by have:=hk1.1;omega⟩⟩⟩,
  λhk2=>⟨λhz=>?_,λ_=>⟨by unfold inR;simp only;omega,i+1,⟨Z,Z⟩,rfl,Z⟩⟩⟩
 have:w.length<=20:=by rw[<- hw];exact Yg
 have:=hm.1;unfold inR;simp only;omega;have:=hk1.1;have hd16:ds.length<=16:=by
  unfold Ig at hfw;rw[qE,qF]at hfw;have:=hfw.2;rw[show(lP ds).length=ds.length from vX _]at this;omega
 unfold inR;simp only;omega;rw[<- hk];refine k2 (aCO ?_ (by rw[hw];exact hz) (by have:=hk1.2;omega));cases hE:decide (DU (cs,ns,os,fs,ls,ks) nx x2 x3 x5=0)with
 |true=>exact vO hE|false=>
  exfalso;have hc:mB (cs,ns,os,fs,ls,ks) (p1,p2,nx,dy) (x1,x2,x3,x4,x5)=false:=by
   unfold mB;rw[show decide (DU (cs,ns,os,fs,ls,ks) (p1,p2,nx,dy).2.2.1 (x1,x2,x3,x4,x5).2.1 (x1,x2,x3,x4,x5).2.2.1 (x1,x2,x3,x4,x5).2.2.2.2=0)=false from hE];simp
  unfold tj at hk;rw[show mB (cs,ns,os,fs,ls,ks) (p1,p2,nx,dy) ((x1,x2,x3,x4,x5),st,lo,si,la,se).1=false from hc]at hk;cases hk
end Go.Eng.Sv
