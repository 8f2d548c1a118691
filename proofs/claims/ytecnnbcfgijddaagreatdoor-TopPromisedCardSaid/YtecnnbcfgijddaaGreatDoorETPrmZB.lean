/- ClIp -/
import Derived.Test.YtecnnbcfgijddaaGreatDoorETPrmE
import Derived.Test.YtecnnbcfgijddaaGreatDoorETPrmY
import Derived.Test.YtecnnbcfgijddaaGreatDoorETPrmZA
set_option linter.unusedSimpArgs false
set_option linter.unusedVariables false
set_option maxRecDepth 100000
noncomputable section
namespace Go.Eng.Sv
open Go.Proofs
open Go.RowKit
def wHd(n:Net)(p:Plan)(a:AV):List AV:=[.dat (.sl C) n.1,.dat (.sl S) n.2.1,.dat (.sl S) n.2.2.1,.dat (.sl (.pair S (.pair I (.pair I (.pair I (.pair I (.pair I (.sl S)))))))) n.2.2.2.1,.dat (.sl (.pair S (.pair I (.pair I (.pair I (.pair I I)))))) n.2.2.2.2.1,.dat (.sl (.pair S (.pair I I))) n.2.2.2.2.2,.dat I p.1,.dat I p.2.1,.dat M p.2.2.1,.dat (.sl M) p.2.2.2,a]
def sY(t:Ty):AV->Option t.den|.dat f x=>if h:f=t then some (h▸x)else none|_=>none
def aEl:List AV->Option (Net×Plan×AV)
 |[a1,a2,a3,a4,a5,a6,X,L,G,f,a]=>match sY (.sl C) a1,sY (.sl S) a2,sY (.sl S) a3,sY (.sl Of) a4,sY (.sl Ln) a5,sY (.sl Kl) a6,sY I X,sY I L,sY M G,sY (.sl M) f with
  |some A,some j,some h,some z,some u,some y,some p1,some p2,some p3,some p4=>some ((A,j,h,z,u,y),(p1,p2,p3,p4),a)|_,_,_,_,_,_,_,_,_,_=>none
 |_=>none
def asI:AV->Option (Net×Plan)
 |.ips cells=>match aEl cells with
  |some (n,p,.top)=>some (n,p)|_=>none
 |_=>none
def wI(l:List AK)(pre:AKs l->Net->Plan->Prop)(ret:AKs l->Net->Plan->AV)(args:List AV)(m:Mem):Option lA:=match m,args with
 |[],a::ar=>match asI a,ofK l ar with
  |some (n,p),some x=>some ⟨pre x n p,ret x n p,[]⟩|_,_=>none
 |_,_=>none
theorem gy{t:Ty}{a:AV}{x:t.den}(h:sY t a=some x):a=.dat t x:=by
 unfold sY at h;split at h;split at h;rename_i e;subst e;cases h;rfl;cases h;cases h
theorem Uw{l:List AV}{n:Net}{p:Plan}{a:AV}(h:aEl l=some (n,p,a)):l=wHd n p a:=by
 unfold aEl at h;split at h;split at h;rename_i h1 X L G A z y u j f;cases h;rw[gy h1,gy X,gy L,gy G,gy A,gy z,gy y,gy u,gy j,gy f];rfl;cases h;cases h
theorem Zn{a:AV}{n:Net}{p:Plan}(h:asI a=some (n,p)):a=.ips (wHd n p .top):=by
 unfold asI at h;split at h;split at h;rename_i f;cases h;rw[Uw f];cases h;cases h
theorem aEz{P:Program}{G:List (Nat×AV)}{f:FuncId}{l:List AK}{pre:AKs l->Net->Plan->Prop}{ret:AKs l->Net->Plan->AV}
  (h:∀x n p,aj P G f (.ips (wHd n p .top)::avK l x) [] ⟨pre x n p,ret x n p,[]⟩):∀args m c,wI l pre ret args m=some c->aj P G f args m c:=by
 intro args m c j;unfold wI at j;split at j;split at j;rename_i n p x L A;cases j;rw[Zn L];refine(h x n p).args λC us _ z=>?_;obtain⟨u,y,e,g1,X⟩:=z;exact⟨u,y,e,g1,ie A X⟩;cases j;cases j
abbrev Ao:=wI [.val I] (λ(o,_) n _=>tA n o) λ(o,_) n _=>cal (aM n o).1 (aM n o).2.1 (aM n o).2.2
theorem ZP:eO 242 Ao:=aEz λ((o:Int),_) (n:Net) (p:Plan)=>by
 refine zE (A:=aE) (p:=let j:=(Dw n.2.2.2.1 (Dc o) (ByteArray.mk #[],(0:Int),(0:Int),(0:Int),(0:Int),(0:Int),Du ByteArray)).2.2.1;let h:=Dw n.1 (Dc j) ((0:Int),Du Bool,Du Int);let f:=(aM n o).2;(tA n o->0<=o/\o<Dh n.2.2.2.1/\0<=j/\j<Dh n.1/\T4 1 0 1 0 (h.1=(aM n o).1/\h.2.1=f.1/\h.2.2=f.2/\True))) Py λf=>?_;obtain⟨cs,y,u,fs,z,G⟩:=n;obtain⟨X,L,_⟩:=jO cs y u fs z G f;refine Z9 ?_;exact⟨f.2.1,f.2.2,X,L,rfl,rfl,rfl⟩
theorem KA(m t:Int)(c:C.den):aj Tryz.prog G0 244 [cal c.1 c.2.1 c.2.2,.dat I m,.dat I t] [] ⟨IJ c m t,.tup [.dat I (fX c m t),.dat I (mT c m t)],[]⟩:=by
 obtain⟨z,w,h⟩:=c;refine zE (A:=aE) (p:=let c1:=(z,w,h);let c2:=Dn m (Oi z t);let G:=jy z t+1;let c4:=gR w h G;let c5:=Ea c4 0;let f:=fX c1 m t;let j:=mT c1 m t;let c8:=fO w h G;let A:=gR w h (jy z t);let y:=Ea A 0;let u:=fO w h (jy z t);(IJ c1 m t->qw z w h t/\(c2->inR .i64 G/\Zo z w h G/\(c5->0=f/\c4=j/\True)/\(c5=false->nG z w h c8 m/\gY z c8 m=f/\0=j/\True))/\(c2=false->Zo z w h (jy z t)/\(y->0=f/\A=j/\True)/\(y=false->nG z w h u m/\gY z u m=f/\0=j/\True)))) Py λhp=>?_;obtain⟨b1,b2⟩:=Zf hp;obtain⟨L,h1,h2,h3,h4⟩:=id hp;refine Z9 ?_;have f:∀d,d=d0F (z,w,h) m t->Zo z w h d/\(¬gR w h d=0->(0:Int)=fX (z,w,h) m t/\gR w h d=mT (z,w,h) m t)/\(gR w h d=0->nG z w h (fO w h d) m/\gY z (fO w h d) m=fX (z,w,h) m t/\(0:Int)=mT (z,w,h) m t):=by
  rintro d rfl;refine⟨⟨L,jW Z Z⟩,λj=>⟨(if_neg j).symm,rfl⟩,λj=>?_⟩;obtain⟨q1,q2,q3⟩:=lW j;exact⟨⟨L,jW Z Z,h1,h2⟩,(if_pos j).symm,j.symm⟩
 refine⟨⟨L,Z,Z⟩,λX=>?_,λhge=>?_⟩;have e:jy z t+1=d0F (z,w,h) m t:=(if_pos X).symm;obtain⟨q1,q2,q3⟩:=f _ e;exact⟨by unfold inR;simp only;omega,q1,q2,q3⟩;have e:jy z t=d0F (z,w,h) m t:=(if_neg hge).symm;exact f _ e
def aCD(p:Plan):Bool:=decide (0<=p.1/\p.1<p.2.1/\p.2.1<=600/\p.2.1-p.1<=60)
def KWs:Kt:=kOr 242 Ao <|
 kOr 244 (az [.row C,.val I,.val I] (λ(c,m,t,_)=>IJ c m t) λ(c,m,t,_)=>.tup [.dat I (fX c m t),.dat I (mT c m t)]) KR2
theorem aHd:ay Tryz.prog G0 KWs:=ah ZP<|ah (ae λ(c,m,t,_)=>KA m t c) Py
def aBH(c:Int×List Bool×Li)(m h:Int):Nat->Int->Li|0,_=>[]|f+1,t=>if mT c m t=0 then if fX c m t<h then fX c m t::aBH c m h f (fX c m t+1)else[]else[]
def aAZ(p:Plan):Nat:=(1440*(p.2.1-p.1)).toNat+1
def aEe(n:Net)(p:Plan)(c o:Int)(f:Nat)(t:Int):Li:=aBH (aM n o) (cT n c).2.1 (1440*p.2.1) f t
def UU(n:Net)(p:Plan)(c o:Int):Li:=aEe n p c o (aAZ p) (1440*p.1)
abbrev aA0(n:Net)(p:Plan)(c o:Int):Prop:=tA n o/\aEi n c/\aCD p=true
def AQ(n:Net)(p:Plan)(c o:Int)(x:Nat×Int):Prop:=(1440*p.1+x.1<=x.2/\x.2<=1440*p.2.1)/\x.1<=(UU n p c o).length/\(UU n p c o).drop x.1=aEe n p c o (aAZ p-x.1) x.2
def aFJ:AV->AV|.pin u a=>.pin u a|.yld l=>.yld l|_=>.top
def aEv(n:Net)(p:Plan)(c o:Int):ID:=⟨λf y=>match f with
 |1=>some {α:=Nat×Int,inv:=λx=>AQ n p c o x,st:=λx=>⟨put {y.s with tm:=y.s.tm.map aFJ} [(5,.dat I x.2)],x.1,true⟩,μ:=λx=>Dc (Dk (Dt (Em 1440 p.2.1) 1) x.2)}
 |_=>none,λ_ _=>none,λf=>f==2⟩
theorem ZO(c o:Int)(n:Net)(p:Plan):IB Tryz.prog G0 281 [.ipv (.ips (wHd n p .top)),.ip I o,.ip I c] ⟨aA0 n p c o,I,UU n p c o⟩:=by
 refine zL (c:=mkc KWs) (A:=aEv n p c o) aHd sJ hm (p:=let h:=n.2.1;let c5:=p.2.1;let c4:=n.2.2.1;let c3:=p.2.2;let X:=n.2.2.2;let c2:=1440*p.1;let c21:=(aM n o);let c22:=(Dw X.2.2 (Dc c) (ByteArray.mk #[],(0:Int),(0:Int))).2.1;let c23:=1440*c5;let c24:=UU n p c o;let c25:=Dl c24;let z:=c23+1;true/\true/\false=false/\∀(l:Nat) (u:Nat->Value),aA0 n p c o->inR .i64 c2/\(∃(x:Nat×Int),AQ n p c o x/\(L4 l (u 0) n.1 h c4 X.1 X.2.1 X.2.2 p.1 (T7 c5 c3.1 c3.2 (u 1) o (u 2) c (c2=x.2/\True)))/\0=x.1/\true)/\∀(x:Nat×Int),let c27:=Ea (mT c21 c22 x.2) 0;let j:=Di c27;let c29:=fX c21 c22 x.2;let c30:=Dz c27 true (Eb c29 c23);let f:=Di c30;let A:=Dj true f->f;let c32:=Dz c30 true (Di true);let c33:=x.1+1;let L:=c29+1;let c35:=Dz c30 true (Di false);AQ n p c o x->tA n o/\0<=c/\c<Dh X.2.2/\IJ c21 c22 x.2/\Q2 j (Q4 j ((j->inR .i64 c23)/\Q2 j ((Dj true j->j)/\(f->(f->f)/\(f->f)/\T4 (u 0) (u 1) (u 2) l (true/\oD c24 x.1 c29/\(A/\(c32->true->c33=c25)/\(c32=false->inR .i64 L/\∃(y:Nat×Int),AQ n p c o y/\((L4 l (u 0) n.1 h c4 X.1 X.2.1 X.2.2 p.1 (T7 c5 c3.1 c3.2 (u 1) o (u 2) c (L=y.2/\True)))/\c33=y.1/\true)/\Dc (z-y.2)<Dc (z-x.2)))/\A/\(c35->false->c33=c25)/\(c35=false->inR .i64 L/\∃(y:Nat×Int),AQ n p c o y/\(False/\c33=y.1/\false)/\Dc (z-y.2)<Dc (z-x.2))))/\(f=false->L5 f (A/\(c35->true->x.1=c25)/\(c35=false->inR .i64 L/\∃(y:Nat×Int),AQ n p c o y/\((L4 l (u 0) n.1 h c4 X.1 X.2.1 X.2.2 p.1 (T7 c5 c3.1 c3.2 (u 1) o (u 2) c (L=y.2/\True)))/\x.1=y.1/\true)/\Dc (z-y.2)<Dc (z-x.2)))))))) ⟨rfl,rfl,rfl,λl u ⟨G,hcl,hR⟩=>?_⟩
 have eN:(n.1,n.2.1,n.2.2.1,n.2.2.2.1,n.2.2.2.2.1,n.2.2.2.2.2)=n:=rfl;have eC:∀c:Int×List Bool×Li,(c.1,c.2.1,c.2.2)=c:=λ_=>rfl;have eK:n.2.2.2.2.2.getD c.toNat (⟨#[]⟩,0,0)=cT n c:=rfl;have hR':0<=p.1/\p.1<p.2.1/\p.2.1<=600/\p.2.1-p.1<=60:=vJ hR;have hv:aW (aM n o).1 (aM n o).2.1 (aM n o).2.2=true:=(jO n.1 n.2.1 n.2.2.1 n.2.2.2.1 n.2.2.2.2.1 n.2.2.2.2.2 G).2.2.1;obtain⟨⟨m0,m1⟩,_⟩:=If n.1 n.2.1 n.2.2.1 n.2.2.2.1 n.2.2.2.2.1 n.2.2.2.2.2 G.1 hcl;have m0:0<=(cT n c).2.1:=m0;have m1:(cT n c).2.1<=1439:=m1;refine Z9 ?_;simp only[qc,eN,eC,eK,kE,xG,wZ,gI,false_and,and_false,exists_false,imp_false,qDb,reduceCtorEq];obtain⟨q,hq⟩:∃q,q=1440*p.1:=⟨_,rfl⟩;obtain⟨r,hr⟩:∃r,r=1440*p.2.1:=⟨_,rfl⟩;refine⟨jk Z,⟨(0,1440*p.1),⟨⟨by simp only;omega,by simp only;omega⟩,wE _,rfl⟩,rfl,rfl⟩,?_⟩;rintro⟨k,t⟩ ⟨⟨t0,t1⟩,k1,hk⟩;simp only at t0 t1 k1 hk ⊢;have hU:aAZ p-k=(aAZ p-(k+1))+1:=by unfold aAZ;omega
 have hst:aEe n p c o (aAZ p-k) t=if mT (aM n o) (cT n c).2.1 t=0 then if fX (aM n o) (cT n c).2.1 t<1440*p.2.1 then fX (aM n o) (cT n c).2.1 t::aEe n p c o (aAZ p-(k+1)) (fX (aM n o) (cT n c).2.1 t+1)else[]else[]:=by rw[hU];rfl
 rw[hst]at hk;have hlen:∀{l:Li},(UU n p c o).drop k=l->(UU n p c o).length=k+l.length:=λh=>by
  have:=zX List.length h;rw[wC]at this;omega
 refine⟨G,hcl.1,hcl.2,⟨hv,m0,Z,Z,Z⟩,λ_=>jk Z,λ⟨h1,h2⟩=>?_,λh _=>?_⟩;have h2':fX (aM n o) (cT n c).2.1 t<1440*p.2.1:=by omega
 obtain⟨b1,b2⟩:=wm hv h1 m0 m1;rw[if_pos h1,if_pos h2']at hk;have hl:=hlen hk;rw[wH]at hl;refine⟨?_,λh=>absurd (h.resolve_right id) Z,λ_=>⟨jk Z,(k+1,fX (aM n o) (cT n c).2.1 t+1),⟨⟨by simp only;omega,by simp only;omega⟩,by simp only;omega,?_⟩,⟨rfl,rfl⟩,by simp only;omega⟩⟩;show(UU n p c o)[k]?=some _;have:=zX (λl=>l[0]?) hk;simpa[vO]using this;show(UU n p c o).drop (k+1)=_;have:=zX (List.drop 1) hk;rwa [xE]at this;have:(UU n p c o).drop k=[]:=by
  rw[hk];by_cases h1:mT (aM n o) (cT n c).2.1 t=0;rw[if_pos h1,if_neg Z];rw[if_neg h1]
 have hl:=hlen this;rw[yR]at hl;omega
def KIW:FuncId->List AV->Option iJ:=λf h=>if f=281+yi then match h with
  |[.ipv x,.ip (.int .i64) o,.ip (.int .i64) c]=>match asI x with
   |some (n,p)=>some ⟨aA0 n p c o,I,UU n p c o⟩|none=>none
  |_=>none
 else none
theorem aBr{P:Program}{G:List (Nat×AV)}{g N:Nat}{f:List AV}{j:iJ}(h:IB P G g f j):if g+N<N then lI P G (g+N) f j else IB P G (g+N-N) f j:=by
 rw[if_neg Z,qCf];exact h
theorem aDK:aR Tryz.prog G0 KIW:=by
 unfold aR KIW;generalize yi=N;intro f j z h;split at h;case isFalse=>cases h
 rename_i y;split at h;case h_2=>cases h
 rename_i x o c;split at h;case h_2=>cases h
 rename_i n p u;cases h;subst y;rw[Zn u];exact aBr (ZO c o n p)
def UT(n:Net)(k o a b:Int):Li:=aBH (aM n o) (cT n k).2.1 b ((b-a).toNat+1) a
abbrev aAY(n:Net)(k o a b:Int):Prop:=tA n o/\aEi n k/\0<=a/\a<b/\b<=1000000
def Ib(n:Net)(k o a b:Int)(x:Nat×Int):Prop:=(a+x.1<=x.2/\x.2<=b)/\x.1<=(UT n k o a b).length/\(UT n k o a b).drop x.1=aBH (aM n o) (cT n k).2.1 b ((b-a).toNat+1-x.1) x.2
def aFy(n:Net)(k o a b:Int):ID:=⟨λf y=>match f with
 |1=>some {α:=Nat×Int,inv:=λx=>Ib n k o a b x,st:=λx=>⟨put y.s [(7,.dat I x.2)],x.1,true⟩,μ:=λx=>Dc (Dk (Dt b 1) x.2)}|_=>none,λ_ _=>none,λf=>f==2⟩
def KIC:FuncId->List AV->Option iJ:=λf h=>if f=278 then match ofK [.ptr I,.bp N,.ptr I,.ptr I,.ptr I] h with
 |some (a,n,o,k,b,_)=>some ⟨aAY n k o a b,I,UT n k o a b⟩|none=>none
 else none
theorem ZX(k o a b:Int)(n:Net):lI Tryz.prog G0 278 [.ip I a,.ipv (.ip N n),.ip I o,.ip I k,.ip I b] ⟨aAY n k o a b,I,UT n k o a b⟩:=by
 refine zI (c:=mkc KR3) (A:=aFy n k o a b) aEq sJ hm (p:=let c2:=(aM n o).2;let c3:=((aM n o).1,c2.1,c2.2);let c4:=(Dw n.2.2.2.2.2 (Dc k) (ByteArray.mk #[],(0:Int),(0:Int))).2.1;let c5:=UT n k o a b;let z:=Dl c5;let h:=b+1;true/\true/\true/\false=false/\∀(l:Nat),aAY n k o a b->(∃(x:Nat×Int),Ib n k o a b x/\(w6 l a n o k b (a=x.2/\T5 a))/\0=x.1/\true)/\∀(x:Nat×Int),let c8:=Ea (mT c3 c4 x.2) 0;let u:=Di c8;let X:=fX c3 c4 x.2;let L:=Dz c8 true (Eb X b);let f:=Di L;let c1:=Dj true f->f;let A:=x.1+1;let j:=X+1;let G:=Dz L true (Di false);Ib n k o a b x->tA n o/\0<=k/\k<Dh n.2.2.2.2.2/\IJ c3 c4 x.2/\Q2 u ((Dj true u->u)/\(f->(f->f)/\(f->f)/\l=l/\true/\oD c5 x.1 X/\∀(b_1:Bool),let c16:=Dz L true (Di b_1);c1/\(c16->b_1->A=z)/\(c16=false->inR .i64 j/\∃(y:Nat×Int),Ib n k o a b y/\((w6 l a n o k b (j=y.2/\T5 a))/\A=y.1/\b_1)/\Dc (h-y.2)<Dc (h-x.2)))/\(f=false->L5 f (c1/\(G->true->x.1=z)/\(G=false->inR .i64 j/\∃(y:Nat×Int),Ib n k o a b y/\((w6 l a n o k b (j=y.2/\T5 a))/\x.1=y.1/\true)/\Dc (h-y.2)<Dc (h-x.2)))))) ⟨rfl,rfl,rfl,rfl,λl ⟨f,G,a0,hab,b1⟩=>?_⟩;have eN:(n.1,n.2.1,n.2.2.1,n.2.2.2.1,n.2.2.2.2.1,n.2.2.2.2.2)=n:=rfl;have eC:∀c:Int×List Bool×Li,(c.1,c.2.1,c.2.2)=c:=λ_=>rfl
 have eK:n.2.2.2.2.2.getD k.toNat (⟨#[]⟩,0,0)=cT n k:=rfl;have hv:aW (aM n o).1 (aM n o).2.1 (aM n o).2.2=true:=(jO n.1 n.2.1 n.2.2.1 n.2.2.2.1 n.2.2.2.2.1 n.2.2.2.2.2 f).2.2.1;obtain⟨⟨m0,m1⟩,_⟩:=If n.1 n.2.1 n.2.2.1 n.2.2.2.1 n.2.2.2.2.1 n.2.2.2.2.2 f.1 G;have m0:0<=(cT n k).2.1:=m0;have m1:(cT n k).2.1<=1439:=m1;refine Z9 ?_;simp only[qc,eN,eC,eK,kE,xG,wZ,gI,false_and,and_false,exists_false,imp_false,qDb,reduceCtorEq];refine⟨⟨(0,a),⟨⟨by simp only;omega,by simp only;omega⟩,wE _,rfl⟩,rfl,rfl⟩,?_⟩;rintro⟨j,t⟩ ⟨⟨t0,t1⟩,k1,z⟩;simp only at t0 t1 k1 z ⊢;have hU:(b-a).toNat+1-j=((b-a).toNat+1-(j+1))+1:=Z;have hst:aBH (aM n o) (cT n k).2.1 b ((b-a).toNat+1-j) t=if mT (aM n o) (cT n k).2.1 t=0 then if fX (aM n o) (cT n k).2.1 t<b then fX (aM n o) (cT n k).2.1 t::aBH (aM n o) (cT n k).2.1 b ((b-a).toNat+1-(j+1)) (fX (aM n o) (cT n k).2.1 t+1)else[]else[]:=by rw[hU];rfl
 rw[hst]at z;have u:∀{l:Li},(UT n k o a b).drop j=l->(UT n k o a b).length=j+l.length:=λh=>by
  have:=zX List.length h;rw[wC]at this;omega
 refine⟨f,G.1,G.2,⟨hv,m0,Z,Z,Z⟩,λ⟨h1,h2⟩=>?_,λh=>?_⟩;have h2':fX (aM n o) (cT n k).2.1 t<b:=by omega
 obtain⟨b1,b2⟩:=wm hv h1 m0 m1;rw[if_pos h1,if_pos h2']at z;have hl:=u z;rw[wH]at hl;refine⟨?_,λbb=>⟨λh hb=>?_,λ⟨_,hb⟩=>⟨jk Z,(j+1,fX (aM n o) (cT n k).2.1 t+1),⟨⟨by simp only;omega,by simp only;omega⟩,by simp only;omega,?_⟩,⟨rfl,rfl,hb⟩,by simp only;omega⟩⟩⟩;show(UT n k o a b)[j]?=some _;have:=zX (λl=>l[0]?) z;simpa[vO]using this;rcases h with(h|h)|h;exact absurd h1 h;omega;rw[h]at hb;cases hb;show(UT n k o a b).drop (j+1)=_;have:=zX (List.drop 1) z;rwa [xE]at this;have:(UT n k o a b).drop j=[]:=by
  rw[z];by_cases h1:mT (aM n o) (cT n k).2.1 t=0;rw[if_pos h1,if_neg Z];rw[if_neg h1]
 have hl:=u this;rw[yR]at hl;omega
theorem aDN:aR Tryz.prog G0 KIC:=by
 intro f j it h;unfold KIC at h;split at h;case isFalse=>cases h
 rename_i G;subst G;split at h;case h_2=>cases h
 rename_i a n o k b _ y;cases h;exact λA l J JX JP w D u X L z=>ZX k o a b n A l J JX JP w D u X L (ie y z)
def Jq(n:Net):List (Int×Off):=(List.range n.2.2.2.1.length).map λi:Nat=>((i:Int),dd n i)
def Gv(n:Net)(k:Int):Prop:=0<=k/\k<=n.2.2.2.1.length
abbrev KJ(n:Net):Prop:=(n.2.2.2.1.length:Int)<=1000000
def ix(p:Plan)(o:Int):Li:=p.2.2.1.getD o.toNat []
def aBS(p:Plan)(o:Int):Li:=((List.range (ix p o).length).filter λd:Nat=>decide ((d:Int)≠o)).map λd=>(ix p o).getD d 0
def wfR(l:Li):Prop:=∀j:Nat,-1<=l.getD j 0/\l.getD j 0<=1000000
def aEA(p:Plan)(o:Int):Prop:=0<=o/\o<p.2.2.1.length/\((ix p o).length:Int)<=1000000/\wfR (ix p o)
def Xo(x:Int):Li->Li|[]=>[x]|a::l=>if x<a then x::a::l else if x=a then a::l else a::Xo x l
def Xu(p:Plan)(o:Int):Li:=((aBS p o).filter λl=>decide (l≠-1)).foldr Xo []
def aFE(n:Net):ID:=⟨λf y=>match f with
 |1=>some {α:=Int,inv:=λk=>Gv n k,st:=λk=>⟨put y.s [(8,.dat I k)],Dc k,true⟩,μ:=λk=>Dc (Dk (Dh n.2.2.2.1) k)}|_=>none,λf s=>match f,s.sig.T 8 with
 |3,.dat (.int .i64) k=>some (put {s with mem:=[]} [(4,.ip Of (dd n k))])
 |_,_=>none,λf=>f==3⟩
def KIM:FuncId->List AV->Option iJ:=λf h=>if f=172 then match ofK [.ptr N] h with
 |some (n,_)=>some ⟨KJ n,.pair I Of,Jq n⟩|none=>none
 else none
theorem aAq{n:Net}{x:Int}(h:0<=x)(f:x<n.2.2.2.1.length):oD (Jq n) x.toNat (x,dd n x):=by
 show((List.range n.2.2.2.1.length).map λi:Nat=>((i:Int),dd n i))[x.toNat]?=_;have e:((x.toNat:Nat):Int)=x:=Z;rw[qQ,zH Z,yC,e]
theorem W0(n:Net):(Jq n).length=n.2.2.2.1.length:=by unfold Jq;simp
theorem Z2(n:Net):lI Tryz.prog G0 172 [.ip N n] ⟨KJ n,.pair I Of,Jq n⟩:=by
 refine zI (c:=mkc KR2) (A:=aFE n) Py sJ hm (p:=let u:=n.2.2.2;let j:=Dh u.1;let X:=Dl (Jq n);true/\true/\true/\false=false/\∀(l:Nat),KJ n->(∃x,Gv n x/\(T6 l n u u.1 j (0=x/\True))/\0=Dc x/\true)/\∀(x:Int),let z:=Dw u.1 (Dc x) (ByteArray.mk #[],(0:Int),(0:Int),(0:Int),(0:Int),(0:Int),Du ByteArray);let f:=(dd n x).2;let G:=x+1;Gv n x->(Dn x j->0<=x/\x<j/\T7 1 0 l n x 1 0 (z=dd n x/\L4 u u.1 j x (Dn x j) x z z.1 z.2.1 (T6 z.2.2.1 z.2.2.2.1 z.2.2.2.2.1 z.2.2.2.2.2.1 z.2.2.2.2.2.2 ((true->l=l/\true/\oD (Jq n) (Dc x) (x,(dd n x).1,f.1,f.2.1,f.2.2.1,f.2.2.2.1,f.2.2.2.2.1,f.2.2.2.2.2)/\∀(b:Bool),(Di b->b->Dc x+1=X)/\(Di b=false->inR .i64 G/\∃y,Gv n y/\((T6 l n u u.1 j (G=y/\True))/\Dc x+1=Dc y/\b)/\Dc (j-y)<Dc (j-x)))/\(true=false->(true->true)/\(Di false->true->Dc x=X)/\(Di false=false->inR .i64 G/\∃y,Gv n y/\((T6 l n u u.1 j (G=y/\True))/\Dc x=Dc y/\true)/\Dc (j-y)<Dc (j-x)))))))/\(Dn x j=false->true->Dc x=X)) ⟨rfl,rfl,rfl,rfl,λl hs=>?_⟩;have eO:∀x:Int,n.2.2.2.1.getD x.toNat (⟨#[]⟩,0,0,0,0,0,[])=dd n x:=λ_=>rfl;have eP:∀q:Off,(q.1,q.2.1,q.2.2.1,q.2.2.2.1,q.2.2.2.2.1,q.2.2.2.2.2.1,q.2.2.2.2.2.2)=q:=λ_=>rfl;refine Z9 ?_;simp only[qc,W0];unfold KJ at hs;refine⟨⟨0,⟨Z,Z⟩,rfl,rfl⟩,λx ⟨x0,x1⟩=>⟨λL=>⟨x0,L,rfl,⟨aAq x0 L,λb=>⟨λh1 h2=>(by rw[h1]at h2;cases h2),λhb=>⟨jk Z,x+1,⟨Z,Z⟩,⟨rfl,Z,hb⟩,Z⟩⟩⟩,λh=>(by cases h)⟩,λhge=>Z⟩⟩
def aAs:Prop:=∀(p:Plan) (o:Int),aj Tryz.prog G0 122 [.agg [.dat I p.1,.dat I p.2.1,.dat M p.2.2.1,.dat (.sl M) p.2.2.2],.dat I o] [] ⟨aEA p o,.dat R (Xu p o),[]⟩
theorem aDM:aR Tryz.prog G0 KIM:=by
 intro f j it h;unfold KIM at h;split at h;case isFalse=>cases h
 rename_i G;subst G;split at h;case h_2=>cases h
 rename_i n _ y;cases h;exact λA l J JX JP w D u X L z=>Z2 n A l J JX JP w D u X L (ie y z)
theorem JD{x y:Int}:∀{l:Li},y∈Xo x l↔y=x\/y∈l
 |[]=>by simp[Xo]|a::l=>by
  unfold Xo;split;simp;split;rename_i h;subst h;simp;rw[wY,JD (l:=l),wY];constructor;rintro(h|h|h);exact .inr (.inl h);exact .inl h;exact .inr (.inr h);rintro(h|h|h);exact .inr (.inl h);exact .inl h;exact .inr (.inr h)
theorem AL{x:Int}:∀{l:Li},l.Pairwise (· < ·)->(Xo x l).Pairwise (· < ·)
 |[],_=>qBg _ _|a::l,h=>by
  obtain⟨j,y⟩:=xY.1 h;unfold Xo;split;rename_i u;refine xY.2 ⟨λb f=>?_,h⟩;rcases wY.1 f with rfl|f;exact u;have:=j b f;omega;split;exact h;refine xY.2 ⟨λb f=>?_,AL y⟩;rcases JD.1 f with rfl|f;omega;exact j b f
theorem MX{y:Int}:∀{l:Li},y∈l.foldr Xo []↔y∈l|[]=>by simp|a::l=>by rw[List.foldr_cons,JD,MX,wY]
theorem wo:∀(l:Li),(l.foldr Xo []).Pairwise (· < ·)|[]=>xA|_::l=>AL (wo l)
theorem Bd{x:Int}(h:-1<=x/\x<=1000000):(Lit.int .i64 x).wf=true:=by
 have j:IntKind.min .i64=-9223372036854775808:=by decide
 have f:IntKind.max .i64=9223372036854775807:=by decide
 simp only[Lit.wf,j,f,qC,qF];omega
theorem Om:aAs:=by
 rintro p o ⟨o0,o1,o2,o3⟩ w D E us hD hG hargs hH;obtain⟨u1,us,rfl,⟨ps,rfl,hps⟩,u2,us,rfl,h2,rfl⟩:=hargs;obtain⟨v1,_,rfl,_,v2,_,rfl,_,v3,_,rfl,h3,v4,_,rfl,_,rfl⟩:=hps;have h2:[u2]=[Value.int .i64 o]:=h2;cases h2;obtain⟨ao,z,e3,_,_,hsp,A⟩:=h3;cases e3;have at_:(p.2.2.1)[o.toNat]?=some (ix p o):=by
  unfold ix;rw[qA,qB Z,vK]
 obtain⟨a,ue,rfl,ha,hca,bo,cp2,rfl,_,_,hsp2,hin⟩:=A o.toNat (ix p o) at_;have sp:=hsp a rfl Z;have hw:∀j:Nat,(Lit.int .i64 ((ix p o)[j]?.getD 0)).wf=true:=λj=>by
  have:=o3 j;rw[qA]at this;exact Bd this
 have eo:((o.toNat:Nat):Int)=o:=Z;have mem:∀y,y∈Xu p o↔y≠-1/\y∈(nM (ix p o) hw o.toNat (ix p o).length).map Subtype.val:=λy=>by
  unfold Xu aBS nM;rw[MX,xJ,qF,and_comm,qBb];have e:((List.range (ix p o).length).filter λd:Nat=>decide ((d:Int)≠o))=(List.range (ix p o).length).filter λd=>decide (d≠o.toNat):=by
   congr 1;funext d;rw[qAp];omega
  rw[e];have f:(λd:Nat=>(ix p o).getD d 0)=Subtype.val∘aDj (ix p o) hw:=by
   funext d;exact qA
  rw[f]
 have hc:=XV #[v1,v2,.slice (some a) p.2.2.1.length z,v4] o.toNat (ix p o) hw Z (Xu p o) (wo _) mem w λw1 G=>by
  have hB:Go.RowKit.Below w.heap.size w w1:=by rw[G];exact((Go.RowKit.Below.refl _ w).alloc (qN _) _).alloc (by simp) _
  have s1:w1.heap.size=w.heap.size+1+1:=by rw[G];simp
  have c1:w1.heap[w.heap.size]?=some (.cells #[v1,v2,.slice (some a) p.2.2.1.length z,v4] 43 (0,0)):=by
   rw[G];exact(Go.RowKit.Below.heap_alloc _ _ _ (by simp)).trans (World.alloc_heap_new w _)
  have c2:w1.heap[w.heap.size+1]?=some (.cells #[.int .i64 o] 3 (0,0)):=by
   have:=World.alloc_heap_new (w.alloc (.cells #[v1,v2,.slice (some a) p.2.2.1.length z,v4] 43)) (.cells #[.int .i64 ((o.toNat:Nat):Int)] 3);rw[qH,eo]at this;rw[G,eo];exact this
  refine⟨Z,Z,by rw[eo];simp[World.cell?,c2],a.block,a.off,p.2.2.1.length,z,bo,cp2,?_,Z,by have:=hD _ ha;omega,?_,?_⟩;obtain⟨b,f,s⟩:=a;have sp:s=none:=sp;subst sp;simp[World.cell?,c1];have:=hca 0 _ rfl;exact(hB.cell (p:=⟨a.block,a.off+o.toNat*1+0,none⟩) (hD _ ha)).trans this |> λh=>by
   rw[show a.off+o.toNat*1+0=a.off+o.toNat by omega]at h;exact h
  by_cases hz:(ix p o).length=0;exact .inl hz;have at0:(ix p o)[0]?=some ((ix p o).getD 0 0):=by
   rw[qA,qB Z,vK]
  obtain⟨L,_,e2,hb2,_⟩:=hin 0 _ at0;subst e2;have X:=hsp2 L rfl Z;refine .inr ⟨L.block,L.off,?_,by have:=hD _ hb2;omega,λj hj=>?_⟩;obtain⟨b,f,s⟩:=L;have X:s=none:=X;subst X;rfl;have atj:(ix p o)[j]?=some ((ix p o)[j]?.getD 0):=by
   rw[qB hj,vK]
  obtain⟨a3,ue3,e3,hb3,hc3,hr3⟩:=hin j _ atj;cases e3;have hr3:ue3=[Value.int .i64 ((ix p o)[j]?.getD 0)]:=hr3;subst hr3;have:=hc3 0 _ rfl;have h:=(hB.cell (p:=⟨L.block,L.off+j*1+0,none⟩) (hD _ hb3)).trans this;rw[show L.off+j*1+0=L.off+j by omega]at h;exact h
 rw[eo]at hc;refine hc.mono ?_;rintro e w' ⟨v,rfl,A,hnil,hB⟩;refine⟨v,λb=>D b\/gi w w' b,E,rfl,⟨(Chg.refl _ _).below hB,λ_ h=>.inl h,λb h=>h.imp id λh=>.inl h.1,λb h=>h.elim (λh=>qI (hD b h) hB.size) λh=>h.2,Held.none _ _ _ _,λnm b b' g=>(by cases g),λnm b b' g=>(by cases g),λnm b _ g=>(by cases g),λnm i b g=>(gn g).elim⟩,?_⟩;show ∃(ao:Option Addr) (z:Nat),[v]=[.slice ao (Xu p o).length z]/\_;obtain⟨_,⟨rfl,h0⟩|⟨g,z,cur,rfl,hg,hb,hcap,_,hsz,htk⟩⟩:=A;have h0:Xu p o=[]:=vI h0;rw[h0];exact⟨none,0,rfl,qN _,λ_=>rfl,λ_ h=>(by cases h),λi y h=>(by cases h)⟩;refine⟨_,z,rfl,hcap,λh=>(by cases h),λa h _=>(by cases h;rfl),λi y hy=>⟨_,[Value.int .i64 y],rfl,.inr ⟨hg,(qK.1 hb).1⟩,λj u hj=>?_,rfl⟩⟩;cases j with
 |succ j=>cases hj
 |zero=>
  have hj:some (Value.int .i64 y)=some u:=hj;cases hj;show w'.cell? ⟨g,0+i*1+0,none⟩=_;have hi:i<(Xu p o).length:=(qE.1 hy).1;have e:(cur.toList.take ((Xu p o).length*1))[i]?=some (Value.int .i64 y):=by
   rw[htk,qQ,hy];rfl
  rw[List.getElem?_take_of_lt Z,yA]at e;have hi2:0+i*1+0<cur.size:=Z;rw[show 0+i*1+0=i by omega]at hi2 ⊢;simp[World.cell?,hb,e]
end Go.Eng.Sv
set_option maxHeartbeats 4000000
namespace Go.Eng.Sv
open Go.Proofs
abbrev De:Ty:=.pair I (.pair I (.pair Po (.pair S (.pair S I))))
abbrev Tk:Ty:=.pair Po (.pair (.sl Stp) (.pair .bool (.pair R (.pair (.sl S) (.sl S)))))
abbrev Post:=ByteArray×Int×Int×Int×Int
abbrev cD:=Int×Int×Post×ByteArray×ByteArray×Int
abbrev Trk:=Post×List Stop×Bool×Li×List ByteArray×List ByteArray
abbrev U8:Ty:=.int .u8
def Zh(b:Int):Bool:=decide (65<=b/\b<=90)
def Xh(b:Int):Bool:=Zh b||decide (48<=b/\b<=57)||decide (b=46)
def dA(s:ByteArray):Bool:=decide (1<=s.size/\s.size<=20)&&s.data.toList.all λb=>Xh (b.toNat:Int)
def pJ(s:ByteArray)(k:Int):Prop:=0<=k/\k<=s.size/\(s.data.toList.take k.toNat).all (λb=>Xh (b.toNat:Int))=true
def dfD:cD:=(0,0,(⟨#[]⟩,0,0,0,0),⟨#[]⟩,⟨#[]⟩,0)
def isPost(lb:ByteArray)(d:cD):Bool:=decide (d.1=1)&&(d.2.2.1.1.toList==lb.toList)
def N7(ds:List cD)(lb:ByteArray):Int:=match ds.findIdx? (isPost lb)with|some i=>Int.ofNat i|none=>-1
def FI(ds:List cD)(lb:ByteArray)(k:Int):Prop:=0<=k/\k<=ds.length/\(ds.take k.toNat).any (isPost lb)=false
def hasB(ds:List cD)(lb:ByteArray):Bool:=ds.any (isPost lb)
def aCI(n:Net)(pre:List cD)(d:cD):Bool:=dA d.2.2.1.1&&!hasB pre d.2.2.1.1&&cw d.2.2.1.2.1 n.2.2.2.1.length&&cw d.2.2.1.2.2.1 n.2.2.2.1.length&&cw d.2.2.1.2.2.2.1 n.2.2.2.2.2.length&&decide (d.2.2.1.2.2.2.2=d.2.1)
def nR(n:Net)(pre:List cD)(d:cD):Bool:=if d.1=1 then aCI n pre d else if d.1=2 then hasB pre d.2.2.2.1 else if d.1=3 then hasB pre d.2.2.2.1 else if d.1=4 then hasB pre d.2.2.2.1&&hasB pre d.2.2.2.2.1&&!(d.2.2.2.1.toList==d.2.2.2.2.1.toList)else if d.1=5 then cw d.2.2.2.2.2 n.2.2.2.2.1.length else false
def wz(n:Net)(ds:List cD)(i:Nat):Bool:=decide (0<=(ds.getD i dfD).2.1/\(ds.getD i dfD).2.1<=1000000)&&(decide (i=0)||decide ((ds.getD (i-1) dfD).2.1<=(ds.getD i dfD).2.1))&&nR n (ds.take i) (ds.getD i dfD)
def pcF(ds:List cD):Int:=(ds.filter λd=>decide (d.1=1)).length
def rP(ds:List cD)(k:Int):Int:=pcF (ds.take k.toNat)
def da(n:Net)(ds:List cD):Bool:=(List.range ds.length).all (wz n ds)&&decide (ds.length<=120)&&decide (pcF ds<=60)
def M6(n:Net)(ds:List cD)(k:Int):Prop:=0<=k/\k<=ds.length/\∀i:Nat,(i:Int)<k->wz n ds i=true
abbrev nj(ds:List cD):Prop:=ds.length<=9223372036854775807/\∀d∈ds,ya d.2.2.1.1
def aCz(n:Net)(nx:Lj):Bool:=aZ n&&nC n nx
def JO(n:Net)(nx:Lj)(ds:List cD):Bool:=Go.Eng.In.smF n nx&&decide ((ds.length:Int)<=16)
def ja(l:List Stop):Stop:=l.getD (l.length-1) (0,0,0,0)
def IK(n:Net)(t:Trk):Bool:=decide (0<t.2.1.length)&&aZ n&&!t.2.2.1&&decide ((ja t.2.1).1=t.1.2.2.1)&&decide ((ja t.2.1).2.2.1=-1)&&decide (0<t.2.2.2.2.1.length)&&((t.2.2.2.2.1.getD (t.2.2.2.2.1.length-1) ⟨#[]⟩).toList==t.1.1.toList)&&decide (Ko n t.1.2.2.2.1 (ja t.2.1).1 (ja t.2.1).2.1=0)
abbrev dvP(a:List Stop)(b:List ByteArray):Prop:=a.length<=1000000/\b.length<=1000000
def dvD(n:Net)(t:Trk):Int:=if IK n t=true then Yt n t.1.2.2.2.1 (ja t.2.1).1 (ja t.2.1).2.1 else 0
def aBO(n:Net)(nx:Lj):Ann:=⟨λf s=>match f with
 |4=>some {α:=Int,inv:=λk=>ij n nx k,st:=λk=>put s [(17,.dat I k)],μ:=λk=>Dc (Dk (Dh nx) k)}|9=>match s.sig.T 5,s.sig.T 6 with
  |.dat (.int .i64) o,.dat (.sl (.int .i64)) row=>some {α:=Int,inv:=λk=>ky n o row k,st:=λk=>put s [(30,.dat I k)],μ:=λk=>Dc (Dk (Dh row) k)}|_,_=>none
 |_=>none,λ_ _=>none,λ_ _=>none⟩
def aGt(s:ByteArray)(sl:Nat):Ann:=Z8 2 Int (pJ s) (λf k=>put f [(sl,.dat I k)]) λk=>Dc (Dk (Ej s) k)
noncomputable def mk0:Cfg:=⟨Tryz.prog,[],K0,λ_=>false,KI0,false,λ_ _ _=>none,λ_=>false⟩
abbrev sj:=az [.val U8] (λ_=>True) λ(b,_)=>.dat .bool (Zh b)
abbrev rX:=az [.val I,.val I] (λ_=>True) λ(i,l,_)=>.dat .bool (cw i l)
def KX1:Kt:=kOr 159 sj <|
 kOr 158 rX KRD
def aCU(n:Net)(nx:Lj):Ann:=⟨λf s=>match f with
 |4=>some {α:=Int,inv:=λk=>ij n nx k,st:=λk=>put s [(5,.dat I k)],μ:=λk=>Dc (Dk (Dh nx) k)}|9=>match s.sig.T 5 with
  |.dat (.int .i64) o=>some {α:=Int,inv:=λk=>ky n o (Dw nx (Dc o) []) k,st:=λk=>put s [(6,.dat I k)],μ:=λk=>Dc (Dk (Dh nx) k)}|_=>none
 |_=>none,λ_ _=>none,λ_ _=>none⟩
def aGX(ds:List cD)(lb:ByteArray):Ann:=Z8 2 Int (FI ds lb) (λf k=>put f [(5,.dat I k)]) λk=>Dc (Dk (Dh ds) k)
abbrev vm:=az [.row N,.val M] (λ(_,nx,_)=>jb nx) λ(n,nx,_)=>.dat .bool (nC n nx)
abbrev vr:=az [.val S] (λ(s,_)=>ya s) λ(s,_)=>.dat .bool (dA s)
abbrev vw:=az [.val (.sl De),.val S] (λ(f,_,_)=>nj f) λ(f,h,_)=>.dat I (N7 f h)
def KX2:Kt:=kOr 93 vm <|
 kOr 94 vr <|
 kOr 95 vw <|
 kOr 9 (az [.row N] (λ(n,_)=>nK n=true) λ(n,_)=>.dat .bool (aZ n)) <|
 kOr 24 (az [.row N,.val M] (λ_=>True) λ(n,nx,_)=>.dat .bool (Go.Eng.In.smF n nx)) <|
 kOr 37 (az [.row N] (λ_=>True) λ(n,_)=>.dat .bool (aZ n)) <|
 kOr 43 MJ KX1
def aDg(n:Net)(ds:List cD):Ann:=Z8 3 Int (M6 n ds) (λf k=>put f [(5,.dat I (rP ds k)),(6,.dat I k)]) λk=>Dc (Dk (Dh ds) k)
theorem Ky(z:LC)(h f:LB)(y:Lo)(j:Ll)(u:Lk):aj Tryz.prog G0 37 [net z h f y j u] [] ⟨True,.dat .bool (aZ (z,h,f,y,j,u)),[]⟩:=
 zE (A:=aE) (p:=let G:=(z,h,f,y,j,u);(True->True/\Ee (Dh (fk G)) 0=aZ G/\True)) Yo λ_=>⟨trivial,by rw[zg];rfl,trivial⟩
theorem zo{n:Net}{o y:Int}{row:Li}(h:ky n o row y)(j:y<row.length)(f:kg n o (row.getD y.toNat 0)=true):ky n o row (y+1):=by
 have:=h.1;refine⟨Z,Z,h.2.2.1,λi u=>?_⟩;by_cases e:(i:Int)<y;exact h.2.2.2 i e;rw[show i=y.toNat by omega];exact f
theorem uo{n:Net}{nx:Lj}{x y:Int}(h:ij n nx x)(u:x<nx.length)(f:ky n x (nx.getD x.toNat []) y)(G:¬y<(nx.getD x.toNat []).length):ij n nx (x+1):=by
 have:=h.1;refine⟨Z,Z,h.2.2.1,λi A=>?_⟩;by_cases e:(i:Int)<x;exact h.2.2.2 i e;rw[show i=x.toNat by omega,show((x.toNat:Nat):Int)=x by omega];exact(pg f.2.2.1).2 λj z=>f.2.2.2 j Z
theorem Kw{n:Net}{nx:Lj}{x:Int}(h:ij n nx x)(u:x<nx.length)(j:rowOk n x (nx.getD x.toNat [])=false):false=nC n nx:=by
 refine(yQ.2 λf=>?_).symm;have:=(nP h.2.2.1).1 f x.toNat (by have:=h.1;omega);rw[show((x.toNat:Nat):Int)=x by have:=h.1;omega,j]at this;cases this
theorem YH{n:Net}{x y:Int}{row:Li}(f:ky n x row y)(u:y<row.length)(j:kg n x (row.getD y.toNat 0)=false):rowOk n x row=false:=by
 refine yQ.2 λh=>?_;have:=(pg f.2.2.1).1 h y.toNat (by have:=f.1;omega);rw[j]at this;cases this
theorem EX{n:Net}{x:Int}{row:Li}(h:¬(row.length:Int)=n.2.2.2.1.length):rowOk n x row=false:=by
 unfold rowOk;rw[qV h];rfl
theorem DY{n:Net}{nx:Lj}(h:¬(nx.length:Int)=n.2.2.2.1.length):false=nC n nx:=by
 unfold nC;rw[qV h];rfl
theorem Qc{n:Net}{nx:Lj}{x:Int}(h:ij n nx x)(f:¬x<nx.length):true=nC n nx:=((nP h.2.2.1).2 λi j=>h.2.2.2 i (by have:=h.1;omega)).symm
theorem MZ{nx:Lj}(f:jb nx){x:Int}(j:0<=x)(h:x<nx.length):(nx.getD x.toNat []).length<=1000000:=f.2 _ (by
 rw[qA,qB Z,vK];exact wM _)
theorem tO{n:Net}{o l:Int}:kg n o l=true↔l=-1\/((0<=l/\l<n.2.2.2.2.1.length)/\cE n l=o):=by
 unfold kg;rw[yO,qC,cC];simp
theorem Ub{n:Net}{o l:Int}(y:l≠-1)(u:¬(0<=l/\l<n.2.2.2.2.1.length)\/cE n l≠o):kg n o l=false:=by
 refine yQ.2 λh=>?_;rcases tO.1 h with h|⟨j,f⟩;exact y h;exact u.elim (λg=>g j) λg=>g f
theorem ZM(nx:Lj)(cs:LC)(ns os:LB)(fs:Lo)(X:Ll)(ks:Lk):aj Tryz.prog G0 38 [net cs ns os fs X ks,.dat M nx] [] ⟨jb nx,.dat .bool (nC (cs,ns,os,fs,X,ks) nx),[]⟩:=by
 refine zE (A:=(lvA [(4,[2,4,5,6,8,15,16,17,28,29,30]),(9,[2,4,5,6,8,15,16,17,28,29,30])] (aBO (cs,ns,os,fs,X,ks) nx))) (p:=let c1:=Dh fs;let c2:=Ea (Dh nx) c1;let G:=(cs,ns,os,fs,X,ks);let c4:=nC G nx;let c5:=Dh X;(jb nx->(c2->false=c4/\True)/\(c2=false->(∃x,ij G nx x/\Q3 G nx (Dh nx) (0=x/\True))/\∀(x:Int),let A:=Dn x (Dh nx);let h:=Dw nx (Dc x) [];let c8:=Dh h;let c9:=Ea c8 c1;let c10:=x+1;ij G nx x->(A->0<=x/\x<Dh nx/\(c9->false=c4/\True)/\(c9=false->(∃f,ky G x h f/\z8 G x h nx (Dh nx) x h c8 (0=f/\True))/\∀(f:Int),let L:=Dw h (Dc f) 0;let c12:=Ee L (-1);let u:=f+1;let c14:=Dn L 0;let z:=Di c14;let c16:=Dz c14 true (Eb L c5);let j:=Di c16;let c18:=Dz c16 true (Ea (Dw X (Dc L) (ByteArray.mk #[],(0:Int),(0:Int),(0:Int),(0:Int),(0:Int))).2.1 x);ky G x h f->(Dn f c8->0<=f/\f<c8/\(c12->inR .i64 u/\∃y,ky G x h y/\(z8 G x h nx (Dh nx) x h c8 (u=y/\True))/\Dc (c8-y)<Dc (c8-f))/\(c12=false->L5 z (Q4 z ((Dj true z->z)/\Q4 j ((j->0<=L)/\(j->L<c5)/\L5 j (Q4 j ((Dj true j->j)/\(c18->false=c4/\True)/\(c18=false->inR .i64 u/\∃y,ky G x h y/\(z8 G x h nx (Dh nx) x h c8 (u=y/\True))/\Dc (c8-y)<Dc (c8-f)))))))))/\(Dn f c8=false->inR .i64 c10/\∃y,ij G nx y/\(Q3 G nx (Dh nx) (c10=y/\True))/\Dc (Dh nx-y)<Dc (Dh nx-x))))/\(A=false->true=c4/\True)))) Yo λhf=>?_
 refine Z9 ?_;have hf1:=hf.1;have st:∀x y:Int,ky (cs,ns,os,fs,X,ks) x (nx.getD x.toNat []) y->y<(nx.getD x.toNat []).length->(nx.getD x.toNat []).length<=1000000->kg (cs,ns,os,fs,X,ks) x ((nx.getD x.toNat []).getD y.toNat 0)=true->inR .i64 (y+1)/\
   ∃z,ky (cs,ns,os,fs,X,ks) x (nx.getD x.toNat []) z/\y+1=z/\(((nx.getD x.toNat []).length:Int)-z).toNat<(((nx.getD x.toNat []).length:Int)-y).toNat:=λx y h h1 h2 h3=>by
  have:=h.1;exact⟨by unfold inR;simp only;omega,y+1,zo h h1 h3,rfl,Z⟩
 refine⟨λh=>DY h,λhe=>⟨⟨qL _,Z,he,λi h=>Z⟩,λx hx=>⟨λu=>⟨hx.1,u,λhr=>Kw hx u (EX hr),λhr=>⟨⟨qL _,Z,hr,λi h=>Z⟩,λy hy=>⟨λhly=>⟨hy.1,hly,λh1=>st x y hy hly (MZ hf hx.1 u) (tO.2 (.inl h1)),λh1=>⟨λh=>Z,λh=>Z,λh=>Kw hx u (YH hy hly (Ub h1 (h.imp (λh=>by
  show ¬(_/\_<(X.length:Int));omega) id))),λh=>st x y hy hly (MZ hf hx.1 u) (tO.2 (.inr ⟨⟨Z,by show _<(X.length:Int);omega⟩,h.2⟩))⟩⟩,λhge=>?_⟩⟩⟩,λhge=>Qc hx hge⟩⟩⟩
 have:=hx.1;exact⟨by unfold inR;simp only;omega,x+1,uo hx u hy hge,rfl,Z⟩
theorem Oy{s:ByteArray}{x:Int}(h:pJ s x)(u:x<s.size)(f:Xh (Gf s x)=true):pJ s (x+1):=by
 obtain⟨z,y,j⟩:=h;refine⟨Z,Z,?_⟩;rw[show(x+1).toNat=x.toNat+1 by omega];exact eI (d:=0) j (by rw[iG];omega) (by rw[jZ];exact f)
theorem YZ{s:ByteArray}{x:Int}(h:pJ s x)(j:x<s.size)(f:Xh (Gf s x)=false):false=dA s:=by
 have:(s.data.toList.all λb=>Xh (b.toNat:Int))=false:=ly (d:=0) (k:=x.toNat) (by rw[iG];have:=h.1;omega) (by rw[jZ];exact f);unfold dA;rw[this,kR]
theorem SB{s:ByteArray}{x:Int}(h:pJ s x)(j:¬x<s.size):(decide ((s.size:Int)≥1)&&decide ((s.size:Int)<=20))=dA s:=by
 obtain⟨y,u,f⟩:=h;rw[qO (by rw[iG];omega)]at f;unfold dA;rw[f,kU,<- Bool.decide_and];congr 1;exact qBx Z
theorem BY{b:Int}:Xh b=true↔(65<=b/\b<=90)\/(48<=b/\b<=57)\/b=46:=by
 unfold Xh Zh;simp[or_assoc]
theorem SC{b:Int}(h:¬((65<=b/\b<=90)\/(48<=b/\b<=57)\/b=46)):Xh b=false:=yQ.2 λg=>h (BY.1 g)
theorem Am(s:ByteArray):pJ s 0:=⟨qL _,qR _,by simp⟩
theorem LI{s:ByteArray}{x:Int}(h:pJ s x)(f:x<s.size)(j:ya s)(u:Xh (Gf s x)=true):inR .i64 (x+1)/\∃y,pJ s y/\x+1=y/\((s.size:Int)-y).toNat<((s.size:Int)-x).toNat:=
 ⟨by have:=h.1;unfold ya at j;unfold inR;simp only;omega,x+1,Oy h f u,rfl,by have:=h.1;omega⟩
theorem Qx(s:ByteArray):aj Tryz.prog [] 99 [.dat S s] [] ⟨ya s,.dat .bool (dA s),[]⟩:=by
 refine zF (c:=mk0) (A:=(lvA [(2,[0,2,4,6,7,8])] (aGt s 8))) (λ_ _ _ _ h=>by cases h) (λ_ _ _ h=>by cases h) hm (p:=let f:=Fv s;let X:=Eb (Ej s) 1;true/\(ya s->(∃x,pJ s x/\Q3 s (Fv s) (Dh f) (0=x/\True))/\∀(x:Int),let c2:=Dn x (Dh f);let u:=Dw f (Dc x) 0;let c4:=Dn u 65;let c5:=Di c4;let h:=Dz c4 true (Ef u 90);let j:=Dn u 48;let L:=Dz h (Dz j true (Ef u 57)) false;let A:=Dz L (Ea u 46) false;let z:=x+1;pJ s x->(c2->0<=x/\x<Dh f/\L5 c5 ((Dj true c5->c5)/\Q2 h (L5 (Dj h (Di j)) (L5 h ((h->Dj h (Di j)->Dj h (Di j))/\(Dj true h->h)/\L5 L ((Dj true L->L)/\(A->false=dA s/\True)/\(A=false->inR IntKind.i64 z/\∃y,pJ s y/\(Q3 s (Fv s) (Dh f) (z=y/\True))/\Dc (Ej s-y)<Dc (Ej s-x))))))))/\(c2=false->Q2 X ((Dj true X->X)/\Dz X (Eh (Ej s) 20) false=dA s/\True)))) ⟨rfl,λhs=>?_⟩;refine Z9 ?_;simp only[qc,xi,mA];exact⟨Am s,λx G=>⟨λj=>⟨G.1,j,λh=>YZ G j (SC Z),λh=>LI G j hs (BY.2 Z)⟩,SB G⟩⟩
theorem QA:eO 159 sj:=ae λ((b:Int),_)=>by
 refine zE (A:=aE) (p:=let f:=Eb b 65;(True->L5 f ((Dj true f->f)/\Dz f (Eh b 90) false=Zh b/\True))) Yo λ_=>?_;refine Z9 ?_;unfold Zh;rw[<- Bool.decide_and]
theorem Qe:eO 158 rX:=ae λ((i:Int),(l:Int),_)=>by
 refine zE (A:=aE) (p:=let f:=Eb i 0;(True->Q2 f ((Dj true f->f)/\Dz f (Dn i l) false=cw i l/\True))) Yo λ_=>?_;refine Z9 ?_;unfold cw;rw[<- Bool.decide_and]
theorem aEo:ay Tryz.prog G0 KX1:=ah QA<|ah Qe Yo
theorem Vi:eO 93 vm:=ae λ(((cs,ns,os,fs,ls,ks):Net),(nx:Lj),_)=>by
 refine zE (A:=(lvA [(4,[1,2,4,5,6,7]),(9,[1,2,4,5,6,7])] (aCU (cs,ns,os,fs,ls,ks) nx))) (p:=let L:=Dh nx;let c1:=Ea L (Dh fs);let u:=(cs,ns,os,fs,ls,ks);let c3:=nC u nx;let c4:=Dh ls;(jb nx->(c1->false=c3/\True)/\(c1=false->(∃x,ij u nx x/\L7 nx u (0=x/\True))/\∀(x:Int),let c5:=Dn x L;let j:=Dw nx (Dc x) [];let A:=Dh j;let c8:=Ea A L;let X:=x+1;ij u nx x->(c5->0<=x/\x<Dh nx/\(c8->false=c3/\True)/\(c8=false->(∃f,ky u x j f/\Q3 nx u x (0=f/\True))/\∀(f:Int),let c10:=Dn f L;let G:=Dw j (Dc f) 0;let h:=Ea G (-1);let c13:=Di (cw G c4);let z:=Di c13;let c18:=Dj h z;let c14:=Dz h (Dz c13 true (Ea (Dw ls (Dc G) (ByteArray.mk #[],(0:Int),(0:Int),(0:Int),(0:Int),(0:Int))).2.1 x)) false;let c15:=f+1;ky u x j f->(c10->0<=x/\x<Dh nx/\0<=f/\f<A/\L5 h (Q4 h ((h->True)/\Q2 h (Q4 c18 ((Dj h z->0<=G)/\(Dj h z->G<c4)/\L5 c18 (Q4 c18 (L5 h ((h->Dj h z->Dj h z)/\(Dj true h->h)/\(c14->false=c3/\True)/\(c14=false->inR .i64 c15/\∃y,ky u x j y/\(Q3 nx u x (c15=y/\True))/\Dc (Dh nx-y)<Dc (Dh nx-f))))))))))/\(c10=false->inR .i64 X/\∃y,ij u nx y/\(L7 nx u (X=y/\True))/\Dc (Dh nx-y)<Dc (Dh nx-x))))/\(c5=false->true=c3/\True)))) aEo λhf=>?_;refine Z9 ?_;have hf1:=hf.1;refine⟨λh=>DY h,λhe=>⟨⟨qL _,Z,he,λi h=>Z⟩,λx X=>⟨λj=>⟨X.1,j,λhr=>Kw X j (EX (by show ¬(_=(fs.length:Int));omega)),λhr=>⟨⟨qL _,Z,by show _=(fs.length:Int);omega,λi h=>Z⟩,λy hy=>⟨λhly=>⟨X.1,j,hy.1,Z,λh=>(cC.1 h.2).1,λh=>(cC.1 h.2).2,λh=>Kw X j (YH hy Z (Ub h.1 (h.2.imp (λh=>by
  rw[<- cC];exact yQ.1 h) id))),λh=>?_⟩,λhge=>?_⟩⟩⟩,λhge=>Qc X hge⟩⟩⟩
 have:=hy.1;refine⟨by unfold inR;simp only;omega,y+1,zo hy Z (tO.2 ?_),rfl,Z⟩;by_cases h1:(nx.getD x.toNat []).getD y.toNat 0=-1;exact .inl h1;exact .inr ⟨cC.1 (h h1).1,(h h1).2⟩;have:=X.1;exact⟨by unfold inR;simp only;omega,x+1,uo X j hy Z,rfl,Z⟩
theorem aA7{b:Int}:Zh b=false↔b<65\/b>90:=by
 unfold Zh;rw[wJ];omega
theorem Vm:eO 94 vr:=ae λ((s:ByteArray),_)=>by
 refine zE (A:=(lvA [(2,[0,2,3])] (aGt s 3))) (p:=let G:=Ej s;let L:=Eb G 1;(ya s->(∃x,pJ s x/\s=s/\0=x/\True)/\∀(x:Int),let f:=Di (Zh (Gf s x));let c3:=Dn (Gf s x) 48;let h:=Di c3;let z:=Dz f (Dz c3 true (Ef (Gf s x) 57)) false;let X:=Dz z (Ea (Gf s x) 46) false;let j:=x+1;pJ s x->(Dn x G->0<=x/\x<Ej s/\True/\Q2 f ((f->0<=x)/\(f->x<Ej s)/\Q2 f (Q2 (Dj f h) ((Dj f h->0<=x)/\(Dj f h->x<Ej s)/\L5 (Dj f h) (L5 f ((f->Dj f h->Dj f h)/\(Dj true f->f)/\Q2 z ((z->0<=x)/\(z->x<Ej s)/\L5 z ((Dj true z->z)/\(X->false=dA s/\True)/\(X=false->inR .i64 j/\∃y,pJ s y/\(s=s/\j=y/\True)/\Dc (Ej s-y)<Dc (Ej s-x))))))))))/\(Dn x G=false->Q2 L ((Dj true L->L)/\Dz L (Eh G 20) false=dA s/\True)))) aEo λhs=>?_;refine Z9 ?_;simp only[qc,aA7];exact⟨Am s,λx u=>⟨λj=>⟨u.1,j,λ_=>u.1,λ_=>j,λ_=>u.1,λ_=>j,λ_=>u.1,λ_=>j,λh=>YZ u j (SC Z),λh=>LI u j hs (BY.2 Z)⟩,SB u⟩⟩
theorem post_at{ds:List cD}{lb:ByteArray}{x:Int}(h:FI ds lb x)(y:x<ds.length)(u:isPost lb (ds.getD x.toNat dfD)=true):x=N7 ds lb:=by
 have e:ds.findIdx? (isPost lb)=some x.toNat:=by
  rw[List.findIdx?_eq_some_iff_getElem];have f:x.toNat<ds.length:=by have:=h.1;omega
  refine⟨f,by rw[qA,qB f]at u;exact u,λj z=>?_⟩;have:=qBj.1 h.2.2 (ds[j]'Z) (yD.2 ⟨j,by rw[qM];omega,by simp⟩);simpa using this
 unfold N7;rw[e];show x=((x.toNat:Nat):Int);have:=h.1;omega
theorem Wj{ds:List cD}{lb:ByteArray}{x:Int}(h:FI ds lb x)(j:¬x<ds.length): -1=N7 ds lb:=by
 have e:ds.findIdx? (isPost lb)=none:=by
  rw[List.findIdx?_eq_none_iff];intro d hd;have f:=h.2.2;rw[qO Z]at f;simpa using qBj.1 f d hd
 unfold N7;rw[e]
theorem N6{ds:List cD}{lb:ByteArray}{x:Int}(h:FI ds lb x)(j:x<ds.length)(f:isPost lb (ds.getD x.toNat dfD)=false):FI ds lb (x+1):=by
 have:=h.1;refine⟨Z,Z,?_⟩;rw[show(x+1).toNat=x.toNat+1 by omega];exact rp h.2.2 Z f
theorem Vp:eO 95 vw:=ae λ((f:List cD),(j:ByteArray),_)=>by
 refine zE (A:=(lvA [(2,[0,1,4,5])] (aGX f j))) (p:=let L:=Dh f;(nj f->(∃x,FI f j x/\L7 f j (0=x/\True))/\∀(x:Int),let c3:=Dw f (Dc x) ((0:Int),(0:Int),(ByteArray.mk #[],(0:Int),(0:Int),(0:Int),(0:Int)),ByteArray.mk #[],ByteArray.mk #[],(0:Int));let z:=Ee c3.1 1;let c5:=Dz z (Fz c3.2.2.1.1 j) false;let h:=x+1;FI f j x->(Dn x L->0<=x/\x<L/\Q2 z ((z->0<=x)/\(z->x<L)/\Q2 z (Q4 z ((Dj true z->z)/\(c5->x=N7 f j/\True)/\(c5=false->inR .i64 h/\∃y,FI f j y/\(L7 f j (h=y/\True))/\Dc (L-y)<Dc (L-x))))))/\(Dn x L=false->(-1:Int)=N7 f j/\True))) aEo λhd=>?_;refine Z9 ?_;have hd1:=hd.1;refine⟨⟨qL _,qR _,by simp⟩,λx G=>⟨λu=>⟨G.1,u,λ_=>G.1,λ_=>u,λh=>post_at G u ?_,λh=>⟨by have:=G.1;unfold inR;simp only;omega,x+1,N6 G u ?_,rfl,by have:=G.1;omega⟩⟩,λX=>Wj G X⟩⟩;unfold isPost dfD;rw[qC,qF,yJ];exact h;unfold isPost dfD;refine yQ.2 λg=>?_;rw[qC,qF,yJ]at g;exact h g.1 g.2
theorem aBJ:ay Tryz.prog G0 KX2:=ah Vi<|ah Vm<|ah Vp<|ah (ae λ((z,h,f,y,j,u),_)=>Qj z h f y j u)<|ah (ae λ((z,h,f,y,j,u),nx,_)=>OI (Go.Eng.In.Qk nx z h f y j u))<|ah (ae λ((z,h,f,y,j,u),_)=>Ky z h f y j u)<|ah aFl aEo
abbrev As:=az [.row N,.row Pl] (λ(n,p,_)=>nK n=true/\jb p.2.2.1) λ(n,p,_)=>.dat .bool (aCz n p.2.2.1)
theorem ZT:eO 35 As:=ae λ(((X,y,u,L,z,G):Net),((p1,p2,nx,dy):Plan),_)=>by
 refine zE (A:=aE) (p:=let h:=(X,y,u,L,z,G);let f:=aZ h;(nK h/\jb nx->nK h/\Q4 f ((f->jb nx)/\(Dj true f->f)/\Dz f (nC h nx) false=aCz h nx/\True))) aBJ λj=>?_;refine Z9 ?_;exact⟨j.1,λ_=>j.2,rfl⟩
theorem Z7(ds:List cD)(p1 p2:Int)(nx:Lj)(X:List (Lj))(G:LC)(j h:LB)(z:Lo)(u:Ll)(y:Lk):aj Tryz.prog G0 17 [net G j h z u y,.agg [.dat I p1,.dat I p2,.dat M nx,.dat (.sl M) X],.dat (.sl De) ds] [] ⟨True,.dat .bool (JO (G,j,h,z,u,y) nx ds),[]⟩:=by
 refine zE (A:=aE) (p:=let L:=(G,j,h,z,u,y);let f:=In.smF L nx;(True->True/\Q2 f ((Dj true f->f)/\Dz f (Eh (Dh ds) 16) false=JO L nx ds/\True))) aBJ λ_=>?_;refine Z9 ?_;rfl
theorem aFT{n:Net}{t:Trk}(h:IK n t=false):0=dvD n t/\false=IK n t:=⟨by unfold dvD;rw[h];rfl,h.symm⟩
theorem Zc{n:Net}{t:Trk}:IK n t=true↔0<t.2.1.length/\aZ n=true/\t.2.2.1=false/\(ja t.2.1).1=t.1.2.2.1/\(ja t.2.1).2.2.1=-1/\0<t.2.2.2.2.1.length/\(t.2.2.2.2.1.getD (t.2.2.2.2.1.length-1) ⟨#[]⟩).toList=t.1.1.toList/\Ko n t.1.2.2.2.1 (ja t.2.1).1 (ja t.2.1).2.1=0:=by
 unfold IK;simp only[qC,qF,zD,yJ,qAn]
abbrev G5:=az [.row N,.row Tk] (λ(_,t,_)=>dvP t.2.1 t.2.2.2.2.1) λ(n,t,_)=>.tup [.dat I (dvD n t),.dat .bool (IK n t)]
theorem aCe:eO 22 G5:=ae λ(((cs,ns,os,fs,ls,ks):Net),((G:Post),(z:List Stop),(lo:Bool),(si:Li),(j:List ByteArray),(se:List ByteArray)),_)=>by
 refine zE (A:=aE) (p:=let X:=Di lo;let c1:=Dh z;let c2:=Ee c1 0;let c3:=Di c2;let c4:=(cs,ns,os,fs,ls,ks);let c5:=Dz c2 true (Di (aZ c4));let c6:=(G,z,lo,si,j,se);let y:=dvD c4 c6;let c8:=IK c4 c6;let A:=c1-1;let u:=Dw z (Dc A) ((0:Int),(0:Int),(0:Int),(0:Int));let c13:=Dz lo true (Ea u.1 G.2.2.1);let h:=Di c13;let c16:=Dz c13 true (Ea u.2.2.1 (-1));let c17:=Ee (Dh j) 0;let f:=Di c17;let L:=Dh j-1;let c20:=Dz c17 true (Di (Fz (Dw j (Dc L) (ByteArray.mk #[])) G.1));let c23:=Ea (Ko c4 G.2.2.2.1 u.1 u.2.1) 0;(dvP z j->L5 c3 ((c3->True)/\L5 c3 ((Dj true c3->c3)/\(c5->0=y/\false=c8/\True)/\(c5=false->inR .i64 A/\0<=A/\A<c1/\L7 1 0 ((Di lo->1=1)/\L5 X ((Di lo->1=1)/\(Di lo->0=0)/\L5 X (Q4 X ((Dj true X->Di lo)/\(h->1=1)/\L5 h ((h->1=1)/\(h->0=0)/\L5 h ((Dj true h->h)/\(c16->0=y/\false=c8/\True)/\(c16=false->L5 f (Q4 f ((f->inR .i64 L)/\Q2 f ((f->0<=L)/\(f->L<Dh j)/\Q2 f (Q4 f ((Dj true f->f)/\(c20->0=y/\false=c8/\True)/\(c20=false->w6 1 1 0 1 1 0 (True/\(c23->0=y/\false=c8/\True)/\(c23=false->Yt c4 G.2.2.2.1 u.1 u.2.1=y/\true=c8/\True)))))))))))))))))))) aBJ λhs=>?_;refine Z9 ?_;have no:(IK (cs,ns,os,fs,ls,ks) (G,z,lo,si,j,se)=true->False)->0=dvD (cs,ns,os,fs,ls,ks) (G,z,lo,si,j,se)/\false=IK (cs,ns,os,fs,ls,ks) (G,z,lo,si,j,se):=λh=>aFT (yQ.2 h)
 simp only[Zc]at no;have hs1:=hs.1;have hs2:=hs.2;have e1:(z.length-1:Nat)=((z.length:Int)-1).toNat:=Z;have e2:(j.length-1:Nat)=((j.length:Int)-1).toNat:=Z;unfold ja at no;rw[e1,e2]at no;refine⟨λh=>no λg=>?_,λh=>⟨by unfold inR;simp only;omega,Z,Z,λy=>no λg=>?_,λy=>⟨λ_=>by unfold inR;simp only;omega,λ_=>Z,λ_=>Z,λh3=>no λg=>?_,λh3=>⟨λh4=>no λg=>h4 g.2.2.2.2.2.2.2,λh4=>?_⟩⟩⟩⟩;rcases h with h|h;have:=g.1;omega;rw[g.2.1]at h;cases h;rcases y with(y|y)|y;rw[g.2.2.1]at y;cases y;exact y g.2.2.2.1;exact y g.2.2.2.2.1;rcases h3 with h3|h3;have:=g.2.2.2.2.2.1;omega;exact h3 g.2.2.2.2.2.2.1;have hd:IK (cs,ns,os,fs,ls,ks) (G,z,lo,si,j,se)=true:=by
  rw[Zc];unfold ja;rw[e1,e2];exact⟨by show 0<z.length;omega,h.2,y.1.1,y.1.2,y.2,by show 0<j.length;omega,h3.2,h4⟩
 refine⟨?_,hd.symm⟩;unfold dvD ja;rw[hd,e1];rfl
theorem YR{ds:List cD}{lb:ByteArray}:N7 ds lb≥0↔hasB ds lb=true:=by
 unfold N7 hasB;cases e:ds.findIdx? (isPost lb)with
 |none=>
  have:ds.any (isPost lb)=false:=by
   rw[qBj];intro d hd;simpa using List.findIdx?_eq_none_iff.1 e d hd
  rw[this];simp
 |some i=>
  obtain⟨h,f,_⟩:=List.findIdx?_eq_some_iff_getElem.1 e;have:ds.any (isPost lb)=true:=xZ.2 ⟨_,wM h,f⟩;rw[this];simp
theorem aCJ{ds:List cD}{lb:ByteArray}:N7 ds lb<0↔hasB ds lb=false:=by
 rw[<- qCv,<- YR];omega
theorem TN{n:Net}{ds:List cD}{x:Int}(f:0<=x):wz n ds x.toNat=true↔(0<=(ds.getD x.toNat dfD).2.1/\(ds.getD x.toNat dfD).2.1<=1000000)/\(x=0\/(ds.getD (x-1).toNat dfD).2.1<=(ds.getD x.toNat dfD).2.1)/\nR n (ds.take x.toNat) (ds.getD x.toNat dfD)=true:=by
 unfold wz;rw[show(x-1).toNat=x.toNat-1 by omega];simp only[qC,yO,qF,qAn];rw[show(x.toNat=0)=(x=0)from qBx Z]
theorem aDf{n:Net}{ds:List cD}{x:Int}(f:M6 n ds x)(j:x<ds.length)(h:wz n ds x.toNat=true->False):false=da n ds:=by
 refine(yQ.2 λg=>h ?_).symm;unfold da at g;simp only[qC,qU,wG]at g;exact g.1.1 _ (by have:=f.1;omega)
theorem aAU{n:Net}{ds:List cD}{x:Int}(f:M6 n ds x)(j:x<ds.length)(hd:ds.length<=9223372036854775807)(h:wz n ds x.toNat=true):M6 n ds (x+1)/\inR .i64 (x+1)/\((ds.length:Int)-(x+1)).toNat<((ds.length:Int)-x).toNat/\
  rP ds (x+1)=rP ds x+(if(ds.getD x.toNat dfD).1=1 then 1 else 0):=by
 have:=f.1;refine⟨⟨Z,Z,λi u=>?_⟩,by unfold inR;simp only;omega,Z,?_⟩;by_cases e:(i:Int)<x;exact f.2.2 i e;rw[show i=x.toNat by omega];exact h;unfold rP pcF;rw[show(x+1).toNat=x.toNat+1 by omega,wW,qB (show x.toNat<ds.length by omega),qA,qB (show x.toNat<ds.length by omega),yF,qG];simp only[qCe,vK,yV,gQ];split<;>rename_i g<;>simp at g<;>simp[g]
theorem aFz{ds:List cD}{x:Int}(h:0<=x):0<=rP ds x/\rP ds x<=x:=by
 unfold rP pcF;have f:=qBs (λd:cD=>decide (d.1=1)) (ds.take x.toNat);rw[qM]at f;omega
theorem jK{n:Net}{pre:List cD}{e:cD}(k:e.1=1):nR n pre e=true↔dA e.2.2.1.1=true/\hasB pre e.2.2.1.1=false/\(0<=e.2.2.1.2.1/\e.2.2.1.2.1<n.2.2.2.1.length)/\(0<=e.2.2.1.2.2.1/\e.2.2.1.2.2.1<n.2.2.2.1.length)/\(0<=e.2.2.1.2.2.2.1/\e.2.2.1.2.2.2.1<n.2.2.2.2.2.length)/\e.2.2.1.2.2.2.2=e.2.1:=by
 unfold nR aCI;rw[if_pos k];simp only[qC,zD,qF,cC,qAn]
theorem mK{n:Net}{pre:List cD}{e:cD}(k:e.1=2\/e.1=3):nR n pre e=hasB pre e.2.2.2.1:=by
 unfold nR;rw[if_neg Z];rcases k with k|k;rw[if_pos k];rw[if_neg Z,if_pos k]
theorem oZ{n:Net}{pre:List cD}{e:cD}(k:e.1=4):nR n pre e=true↔hasB pre e.2.2.2.1=true/\hasB pre e.2.2.2.2.1=true/\e.2.2.2.1.toList≠e.2.2.2.2.1.toList:=by
 unfold nR;rw[if_neg Z,if_neg Z,if_neg Z,if_pos k];simp only[qC,zD,kW,qAn]
theorem tf{n:Net}{pre:List cD}{e:cD}(k:e.1=5):nR n pre e=true↔0<=e.2.2.2.2.2/\e.2.2.2.2.2<n.2.2.2.2.1.length:=by
 unfold nR;rw[if_neg Z,if_neg Z,if_neg Z,if_neg Z,if_pos k,cC]
theorem I4{n:Net}{pre:List cD}{e:cD}(k:¬(e.1=1\/e.1=2\/e.1=3\/e.1=4\/e.1=5)):nR n pre e=false:=by
 unfold nR;rw[if_neg Z,if_neg Z,if_neg Z,if_neg Z,if_neg Z]
theorem fT(ds:List cD)(cs:LC)(ns os:LB)(fs:Lo)(ls:Ll)(ks:Lk):aj Tryz.prog G0 36 [net cs ns os fs ls ks,.dat (.sl De) ds] [] ⟨nj ds,.dat .bool (da (cs,ns,os,fs,ls,ks) ds),[]⟩:=by
 refine zE (A:=(lvA [(3,[1,2,4,5,6,7,8,9,47])] (aDg (cs,ns,os,fs,ls,ks) ds))) (p:=let c1:=(cs,ns,os,fs,ls,ks);let X:=Dh ds;let c3:=((0:Int),(0:Int),(ByteArray.mk #[],(0:Int),(0:Int),(0:Int),(0:Int)),ByteArray.mk #[],ByteArray.mk #[],(0:Int));let c4:=da c1 ds;let c5:=Dh fs;let c7:=Eh X 120;(nj ds->(∃x,M6 c1 ds x/\L7 ds c1 (0=rP ds x/\0=x/\True))/\∀(x:Int),let u:=Dw ds (Dc x) c3;let c11:=Dn u.2.1 0;let c12:=Di c11;let c13:=Dz c11 true (Ef u.2.1 1000000);let h:=Di c13;let A:=Ef x 0;let c50:=Dj h A->1=1;let c9:=Dj h A;let c16:=x-1;let c17:=Dz c13 true (Dz A (Ef (Dw ds (Dc c16) c3).2.1 u.2.1) false);let c19:=Ee u.1 1;let c20:=rP ds x+1;let c24:=Di (dA u.2.2.1.1);let c25:=Di c24;let L:=Fb ds 0 x;let c27:=Dz c24 true (Eb (N7 L u.2.2.1.1) 0);let c28:=Di c27;let c31:=Dz c27 true (Dn u.2.2.1.2.1 0);let c32:=Di c31;let c33:=Dz c31 true (Eb u.2.2.1.2.1 c5);let c34:=Di c33;let c37:=Dz c33 true (Dn u.2.2.1.2.2.1 0);let c38:=Di c37;let c39:=Dz c37 true (Eb u.2.2.1.2.2.1 c5);let c40:=Di c39;let c43:=Dz c39 true (Dn u.2.2.1.2.2.2.1 0);let c44:=Di c43;let c45:=Dz c43 true (Eb u.2.2.1.2.2.2.1 (Dh ks));let c46:=Di c45;let c18:=c46->1=1;let c47:=Dz c45 true (Ea u.2.2.1.2.2.2.2 u.2.1);let f:=x+1;let c49:=Ee u.1 2;let c52:=Dn (N7 L u.2.2.2.1) 0;let c29:=c52->false=c4/\True;let c53:=Ee u.1 4;let j:=Di c52;let c36:=Dj true j->j;let c21:=j->1=1;let c57:=Dz c52 true (Dn (N7 L u.2.2.2.2.1) 0);let G:=Di c57;let c41:=Dj true G->G;let c22:=G->0=0;let c6:=G->1=1;let c59:=Dz c57 true (Fz u.2.2.2.1 u.2.2.2.2.1);let c30:=c59->false=c4/\True;
  let c60:=Ee u.1 5;let c10:=c60=false->false=c4/\True;let c62:=Dn u.2.2.2.2.2 0;let z:=Di c62;let c42:=Dj true z->z;let c23:=z->1=1;let c64:=Dz c62 true (Eb u.2.2.2.2.2 (Dh ls));let c35:=c64->false=c4/\True;let c65:=Ee u.1 3;
  M6 c1 ds x->(Dn x X->0<=x/\x<X/\T6 1 0 1 1 0 ((c12->1=1)/\L5 c12 ((c12->1=1)/\(c12->0=0)/\L5 c12 ((Dj true c12->c12)/\Q2 h (L5 c9 ((Dj h A->inR .i64 c16)/\Q2 c9 ((Dj h A->0<=c16)/\(Dj h A->c16<X)/\Q2 c9 (c50/\L5 c9 (c50/\(Dj h A->0=0)/\Q2 c9 (L5 h ((h->Dj h A->Dj h A)/\(Dj true h->h)/\(c17->false=c4/\True)/\(c17=false->Dp 0 0/\0<=x/\x<=X/\Q3 1 1 0 ((c19->inR .i64 c20/\z8 1 1 0 1 0 1 1 0 (ya u.2.2.1.1/\(c25->1=1)/\L5 c25 ((c25->1=1)/\(c25->0=0)/\Q2 c25 ((c25->nj L)/\L5 c25 ((Dj true c25->c25)/\(c28->1=1)/\L5 c28 ((c28->1=1)/\(c28->0=0)/\L5 c28 ((Dj true c28->c28)/\(c32->1=1)/\L5 c32 ((c32->1=1)/\(c32->0=0)/\L5 c32 (Q4 c32 ((Dj true c32->c32)/\(c34->1=1)/\L5 c34 ((c34->1=1)/\(c34->0=0)/\L5 c34 ((Dj true c34->c34)/\(c38->1=1)/\L5 c38 ((c38->1=1)/\(c38->0=0)/\L5 c38 (Q4 c38 ((Dj true c38->c38)/\(c40->1=1)/\L5 c40 ((c40->1=1)/\(c40->0=0)/\L5 c40 ((Dj true c40->c40)/\(c44->1=1)/\L5 c44 ((c44->1=1)/\(c44->0=0)/\L5 c44 (Q4 c44 ((Dj true c44->c44)/\c18/\L5 c46 (c18/\(c46->0=0)/\c18/\L5 c46 (c18/\(c46->0=0)/\Q2 c46 ((Dj true c46->c46)/\(c47->false=c4/\True)/\(c47=false->inR IntKind.i64 f/\∃y,M6 c1 ds y/\(L7 ds c1 (c20=rP ds y/\f=y/\True))/\Dc (X-y)<Dc (X-x)))))))))))))))))))))))))/\(c19=false->(c49->(c49->Q3 1 1 0 (nj L/\c29/\(c52=false->inR .i64 f/\∃y,M6 c1 ds y/\(L7 ds c1 (rP ds x=rP ds y/\f=y/\True))/\Dc (X-y)<Dc (X-x))))/\(c49=false->(c53->Q3 1 1 0 (nj L/\c21/\L5 j (c21/\(j->0=0)/\Q2 j ((j->nj L)/\L5 j (c36/\c6/\L5 G (c6/\c22/\c6/\L5 G (c6/\c22/\Q2 G (c41/\c30/\(c59=false->inR .i64 f/\∃y,M6 c1 ds y/\
  (L7 ds c1 (rP ds x=rP ds y/\f=y/\True))/\Dc (X-y)<Dc (X-x))))))))))/\(c53=false->(c60->Q3 1 1 0 (c23/\L5 z (c23/\(z->0=0)/\L5 z (Q4 z (c42/\c35/\(c64=false->inR .i64 f/\∃y,M6 c1 ds y/\(L7 ds c1 (rP ds x=rP ds y/\f=y/\True))/\Dc (X-y)<Dc (X-x)))))))/\c10)))/\(c49=false->(c65->Q3 1 1 0 (nj L/\c29/\(c52=false->inR .i64 f/\∃y,M6 c1 ds y/\(L7 ds c1 (rP ds x=rP ds y/\f=y/\True))/\Dc (X-y)<Dc (X-x))))/\(c65=false->(c53->Q3 1 1 0 (nj L/\c21/\L5 j (c21/\(j->0=0)/\Q2 j ((j->nj L)/\L5 j (c36/\c6/\L5 G (c6/\c22/\c6/\L5 G (c6/\c22/\Q2 G (c41/\c30/\(c59=false->inR .i64 f/\∃y,M6 c1 ds y/\(L7 ds c1 (rP ds x=rP ds y/\f=y/\True))/\Dc (X-y)<Dc (X-x))))))))))/\(c53=false->(c60->Q3 1 1 0 (c23/\L5 z (c23/\(z->0=0)/\L5 z (Q4 z (c42/\c35/\(c64=false->inR .i64 f/\∃y,M6 c1 ds y/\(L7 ds c1 (rP ds x=rP ds y/\f=y/\True))/\Dc (X-y)<Dc (X-x)))))))/\c10)))))))))))))))))/\(Dn x X=false->L5 c7 ((Dj true c7->c7)/\Dz c7 (Eh (rP ds x) 60) false=c4/\True)))) aBJ λhd=>?_
 refine Z9 ?_;simp only[qc,show Int.toNat 0=0 from rfl,qDa,YR,aCJ];refine⟨⟨0,⟨qL _,qR _,λi h=>Z⟩,rfl,rfl⟩,λx hx=>⟨λhlt=>?_,λhge=>?_⟩⟩
 .have hx0:=hx.1;have hd1:=hd.1;have bad:=aDf hx hlt;have good:=aAU hx hlt hd.1;have hB:=TN (n:=(cs,ns,os,fs,ls,ks)) (ds:=ds) hx0;have hpre:nj (ds.take x.toNat):=⟨by rw[qM];omega,λd h=>hd.2 d (qBu h)⟩;have hs:ya (ds.getD x.toNat dfD).2.2.1.1:=hd.2 _ (by
   rw[qA,qB Z,vK];exact wM _)
  have pl:=aFz (ds:=ds) hx0;unfold dfD at hB good hs;generalize ds.getD x.toNat (0,0,({data:=#[]},0,0,0,0),{data:=#[]},{data:=#[]},0)=e at *;generalize hpt:(ds.getD (x-1).toNat (0,0,({data:=#[]},0,0,0,0),{data:=#[]},{data:=#[]},0)).snd.fst=pt at *;generalize ds.take x.toNat=pre at *;have l3:((cs,ns,os,fs,ls,ks):Net).2.2.2.1.length=fs.length:=rfl;have l4:((cs,ns,os,fs,ls,ks):Net).2.2.2.2.1.length=ls.length:=rfl;have l5:((cs,ns,os,fs,ls,ks):Net).2.2.2.2.2.length=ks.length:=rfl;have gd:(¬e.2.1<0/\¬e.2.1>1000000)/\(x>0->¬pt>e.2.1)->e.1≠1->nR (cs,ns,os,fs,ls,ks) pre e=true->inR .i64 (x+1)/\∃y,M6 (cs,ns,os,fs,ls,ks) ds y/\(rP ds x=rP ds y/\x+1=y)/\((ds.length:Int)-y).toNat<((ds.length:Int)-x).toNat:=λht k r=>by
   obtain⟨g1,g2,g3,g4⟩:=good (hB.2 ⟨Z,Z,r⟩);exact⟨g2,x+1,g1,⟨by rw[g4,if_neg k];omega,rfl⟩,g3⟩
  have bd:(nR (cs,ns,os,fs,ls,ks) pre e=true->False)->false=da (cs,ns,os,fs,ls,ks) ds:=λh=>bad λg=>h (hB.1 g).2.2;refine⟨hx0,hlt,λh=>by unfold inR;simp only;omega,λh=>Z,λh=>Z,λh=>bad λg=>by have:=hB.1 g;omega,λht=>⟨qL _,hx0,Z,λk=>⟨by unfold inR;simp only;omega,hs,λ_=>hpre,λh=>bd λr=>?_,λh=>?_⟩,
   λk1=>⟨λk=>⟨λ_=>⟨hpre,λh=>bd λr=>?_,λh=>gd ht k1 ?_⟩,λh=>absurd k h⟩,λk2=>⟨λk=>⟨hpre,λh=>bd λr=>?_,λh=>gd ht k1 ?_⟩,λk3=>⟨λk=>⟨hpre,λ_=>hpre,λh=>bd λr=>?_,λh=>gd ht k1 ((oZ k).2 ⟨by simpa using h.1.1,by simpa using h.1.2,h.2⟩)⟩,λk4=>⟨λk=>⟨λh=>bd λr=>?_,λh=>gd ht k1 ((tf k).2 Z)⟩,λk5=>bd λr=>?_⟩⟩⟩⟩⟩⟩
  .have r:=(jK k).1 r;rcases h with(((((((h|h)|h)|h)|h)|h)|h)|h)|h;rw[r.1]at h;cases h;rw[r.2.1]at h;cases h;all_goals omega
  obtain⟨g1,g2,g3,g4⟩:=good (hB.2 ⟨Z,Z,(jK k).2 ⟨h.1.1.1.1.1.1.1.1,by simpa using h.1.1.1.1.1.1.1.2,Z,Z,Z,h.2⟩⟩);exact⟨g2,x+1,g1,⟨by rw[g4,if_pos k],rfl⟩,g3⟩;rw[mK (.inl k),h]at r;cases r;rw[mK (.inl k)];simpa using h;rw[mK (.inr k),h]at r;cases r;rw[mK (.inr k)];simpa using h;have r:=(oZ k).1 r;rcases h with(h|h)|h;rw[r.1]at h;cases h;rw[r.2.1]at h;cases h;exact r.2.2 h;have r:=(tf k).1 r;omega;rw[I4 Z]at r;cases r
 have e:x=ds.length:=by have:=hx.2.1;omega
 have h1:((List.range ds.length).all (wz (cs,ns,os,fs,ls,ks) ds))=true:=qU.2 λi hi=>hx.2.2 i (by have:=wG.1 hi;omega);unfold da rP;rw[h1,yM,qO Z];congr 1;congr 1;exact qBx Z
end Go.Eng.Sv
