/- PeIn1e PeInS PeIn2e PeSvT PeSvDist PeSv1e PeSv2e PeSv3e PeSv4e PeSv5e PeSvKe PeSvSe PeTt1e PeTt2e -/
import Derived.Test.YtlakcpmgefpfaaaGreatDoorECErrE
import Derived.Test.YtlakcpmgefpfaaaGreatDoorChecked
set_option linter.all false
set_option maxRecDepth 100000
noncomputable section
namespace Go.Eng.In
open Go.Proofs
abbrev I: Ty:=.int .i64
abbrev B: Ty:=.sl .bool
abbrev R: Ty:=.sl I
abbrev M: Ty:=.sl R
abbrev LC: Type:=List (Int×List Bool×Li)
abbrev LB: Type:=List ByteArray
abbrev C: Ty:=.pair I (.pair B R)
abbrev S: Ty:=.str
abbrev d6(t:TypeId)(e:Int): Value:=.iface t (.int .i64 e)
def big(x:Int): Prop:=-1000000000000<=x/\x<=1000000000000
def btw(x a b:Int): Bool:=decide (a<=x/\x<=b)
def bz(z t:Int): Int:=(t+z)/1440
def dN(z t:Int): Int:=(t+z)%1440
def F6(z d m:Int): Int:=d*1440+m-z
def wkF(w:List Bool)(h:Li)(d:Int): Bool:=w.getD (d%7).toNat false&&!h.contains d
def Y8(h:Li)(d:Int): Int:=((h.filter λx=>decide (x<d)).length:Int)
def srt(h:Li): Prop:=h.length<=1000000/\∀i j:Nat,i<j->j<h.length->h.getD i 0<h.getD j 0
def QD(h:Li)(d i j:Int): Prop:=0<=i/\i<=j/\j<=h.length/\(∀k:Nat,(k:Int)<i->h.getD k 0<d)/\∀k:Nat,j<=k->k<h.length->d<=h.getD k 0
def QE(h:Li)(d:Int): Bool:=h.contains d
def gq(z:Int)(w:List Bool)(h:Li): Bool:=decide (-720<=z/\z<=840/\w.length=7/\h.length<=40)&&(List.range (h.length-1)).all λi=>decide (h.getD i 0<h.getD (i+1) 0)
def ES(h:Li)(k:Int): Prop:=1<=k/\(k<=h.length\/k=1)/\h.length<=40/\∀i:Nat,(i:Int)+1<k->h.getD i 0<h.getD (i+1) 0
def wkP(w:List Bool)(h:Li)(d:Int): Prop:=w.length=7/\srt h/\big d
def jo(w:List Bool)(h:Li)(a b:Int): Li:=((List.range (b+1-a).toNat).map λ(i:Nat)=>a+(i:Int)).filter λd=>wkF w h d
def iG(w:List Bool)(h:Li)(a d:Int): Nat:=(((List.range (d-a).toNat).map λ(i:Nat)=>a+(i:Int)).filter λd=>wkF w h d).length
def wdP(w:List Bool)(h:Li)(a b:Int): Prop:=w.length=7/\srt h/\big a/\big b
def aC0(a b d:Int): Prop:=a<=d/\(d<=b+1\/d=a)
def bX(xs:Li): Bool:=decide (0<xs.length)
def hd(xs:Li): Int:=xs.getD 0 0
def tl(xs:Li): Li:=xs.drop 1
def aJx: Kt:=λf args m=>none
def iR: List (Nat×AV):=[]
def KI0: FuncId->List AV->Option jF:=λ_ _=>none
noncomputable def mkc(K:Kt): Cfg:=⟨Tryz.prog,iR,K,λ_=>false,KI0,false,λ_ _ _=>none,λ_=>false⟩
noncomputable def PX(K:Kt)(e:Tmp->Bool)(f:KPt)(b:FuncId->Bool): Cfg:=⟨Tryz.prog,iR,K,e,KI0,false,f,b⟩
def ic(s:St): St:={s with tm:=s.tm.map aDl}
def Wa(h:Li): Ann:=Z8 4 Int (ES h) (λs k=>put s [(3,.dat I k)]) λk=>Dc (Di (Df h) k)
def bsA(h:Li)(d:Int): Ann:=Z8 3 (Int×Int) (λk=>QD h d k.1 k.2) (λs k=>put s [(7,.dat I k.1),(8,.dat I k.2)]) λk=>Dc (Di k.2 k.1)
abbrev N7:=al [.val I,.val I,.val I] (λ_=>True) λ(x,a,b,_)=>.dat .bool (btw x a b)
abbrev Ig:=al [.val I] (λ_=>True) λ_=>.dat .bool false
abbrev If:=al [.val I] (λ_=>True) λ_=>.dat .bool false
def aJw: Kt:=kOr 148 N7 <|
 kOr 290 Ig <|
 kOr 287 If aJx
abbrev xy:=al [.val I,.val I] (λ_=>True) λ(x,y,_)=>.dat .bool (Dp x y)
def aJv: Kt:=kOr 258 xy aJw
abbrev Uk:=al [.val R,.val I] (λ(h,_,_)=>srt h) λ(h,d,_)=>.tup [.dat I (Y8 h d),.dat .bool (QE h d)]
def aIz: Kt:=kOr 264 Uk aJv
def KPr: KPt:=pOr 79 (Ao [.val .bool,.val I] λ(b,e,_)=>⟨True,b,d6 39 e⟩) noP
abbrev By:=al [.ptr C,.val I] (λ(c,d,_)=>wkP c.2.1 c.2.2 d) λ(c,d,_)=>.dat .bool (wkF c.2.1 c.2.2 d)
abbrev BS:=al [.ptr C,.val I] (λ(c,t,_)=>big c.1/\big t) λ(c,t,_)=>.tup [.dat I (bz c.1 t),.dat I (dN c.1 t)]
abbrev NT:=al [.ptr C,.val I,.val I] (λ(c,d,m,_)=>big c.1/\big d/\big m) λ(c,d,m,_)=>.dat I (F6 c.1 d m)
abbrev Uh:=al [.row C] (λ_=>True) λ(c,_)=>.dat .bool (gq c.1 c.2.1 c.2.2)
abbrev s6:=al [.ptr C,.val I,.val I] (λ_=>True) λ(c,a,b,_)=>.fn 219 [.ip I a,.ip I b,.ipv (.ip C c)]
def aGh: Kt:=kOr 220 By <|
 kOr 158 BS <|
 kOr 154 NT <|
 kOr 150 Uh <|
 kOr 153 s6 <|
 kOr 79 (al [.val .bool,.val I] (λ(b,_)=>True/\b=true) λ_=>.tup []) aIz
def wdA(w:List Bool)(h:Li)(a b:Int): Jv:=⟨λe y=>match e with
 | 1=>some {α:=Int,inv:=λd=>aC0 a b d,st:=λd=>⟨put y.s [(5,.dat I d)],iG w h a d,true⟩,μ:=λd=>Dc (Di (Dq b 1) d)}
 | _=>none,λ_ _=>none,λe=>e==3⟩
def cR: Cfg:=PX aGh (λ_=>false) KPr (λf=>f==79)
def aF4(x y:Bool): Ea x true y=(x||y):=by cases x<;>rfl
def Vg(x y:Bool): Ea x y false=(x&&y):=by cases x<;>rfl
def hm: Tryz.prog.follows .mixedOrders=true:=by kernel_rfl
def Zm: ai Tryz.prog iR aJx:=λf args m c h=>by cases h
def iI: bf Tryz.prog iR KI0:=λf args c h=>by cases h
def zE{K:Kt}{A:Ann}{f:FuncId}{args:List AV}{m:Mem}{r:jG}{p:Prop}(b:ai Tryz.prog iR K)(h:p)(e:evF (mkc K) A f args m r=(true=true/\p):=by kernel_rfl): ah Tryz.prog iR f args m r:=oL (c:=mkc K) b iI hm (by rw[e];exact⟨rfl,h⟩)
abbrev eO:=EO Tryz.prog iR
def pg{x a b:Int}: btw x a b=true↔a<=x/\x<=b:=by unfold btw;rw[qE]
def bg{α:Type}{l:List α}{i:Nat}{d:α}(h:i<l.length): l.getD i d∈l:=by
 rw[qA,qB h];exact wL h
def aHd: eO 148 N7:=ae λ((x:Int),(a:Int),(b:Int),_)=>by
 refine zE (A:=az) (p:=let e:=Ed x a;(True->Q2 e ((Dh true e->Ed x a)/\Ea e (Ee x b) false=btw x a b/\True))) Zm λ_=>?_
 refine Z9 ?_;unfold btw;simp
def aDB: eO 290 Ig:=ae λ((x:Int),_)=>zE (A:=az) (p:=(True->Dw x x=false/\True)) Zm λ_=>⟨by simp,trivial⟩
def aDA: eO 287 If:=ae λ((x:Int),_)=>zE (A:=az) (p:=(True->Dw x x=false/\True)) Zm λ_=>⟨by simp,trivial⟩
def aFx: ai Tryz.prog iR aJw:=af aHd<|af aDB<|af aDA Zm
def WS: eO 258 xy:=ae λ((x:Int),(y:Int),_)=>by
 refine zE (A:=az) (p:=let e:=Ea false (Dj false) false;let b:=Dj e;(True->True/\L4 false ((false->True)/\L4 false ((Dh true false->false)/\Q2 b ((Dh true b->b)/\Ea e true (Dp x y)=Dp x y/\True))))) aFx λ_=>?_
 simp only[qc,Dh,Eu,Dj,yR,Ea,qAx,yO,wE,qCt]
def aFw: ai Tryz.prog iR aJv:=af WS aFx
def Sj{h:Li}(b:srt h){i j:Nat}(f:i<=j)(e:j<h.length): h.getD i 0<=h.getD j 0:=by
 rcases zO i j with g | g
 .exact Int.le_of_lt (b.2 i j g e)
 .have:i=j:=by omega
  rw[this];exact qH _
def aFh{h:Li}{d i:Int}(z:srt h)(G:QD h d i i): i=Y8 h d/\(QE h d=true↔i<h.length/\h.getD i.toNat 0=d):=by
 obtain⟨T,_,O,u,r⟩:=G;constructor
 .unfold Y8;have e:h=h.take i.toNat++h.drop i.toNat:=(kH _ _).symm;have y:(h.take i.toNat).filter (λx=>decide (x<d))=h.take i.toNat:=List.filter_eq_self.2 λx f=>by
   obtain⟨k,b,rfl⟩:=wZ.1 f;rw[qL]at b;have:=u k Z;rw[qA,qB Z]at this;rw[qCz];exact qW this
  have v:(h.drop i.toNat).filter (λx=>decide (x<d))=[]:=qBc.2 λx f=>by
   obtain⟨k,b,rfl⟩:=wZ.1 f;rw[wJ]at b;have:=r (i.toNat+k) Z Z;rw[qA,qB Z]at this;rw[List.getElem_drop];simpa using this
  rw[e,yL,y,v,vY,qL];omega
 .unfold QE;rw[qBi];constructor
  .intro hm;obtain⟨k,b,e⟩:=wZ.1 hm;have V:h.getD k 0=d:=by rw[qA,qB b];exact e
   have L:¬(k:Int)<i:=λg=>by have:=u k g;omega
   refine⟨Z,?_⟩;have:=Sj z (i:=i.toNat) (j:=k) Z b;have:=r i.toNat Z Z;omega
  .rintro⟨A,e⟩;rw[<- e];exact bg Z
def aE{x:Int}(h:-4000000000000000<=x/\x<=4000000000000000): inR .i64 x:=⟨show(-9223372036854775808:Int)<=x by omega,show x<=9223372036854775807 by omega⟩
def aJB: eO 264 Uk:=ae λ((h:Li),(d:Int),_)=>by
 refine zE (A:=(lvA [(3,[0,1,4,5,6,7,8,9])] (bsA h d))) (p:=(srt h->(∃(x:Int×Int),QD h d x.1 x.2/\T2 h d Q1 false (Df h) (0=x.1/\Df h=x.2/\True))/\∀(x:Int×Int),let i:=Dp x.1 x.2;let g:=x.1+x.2;let f:=Gi g 1;let j:=Dp (Du h (Dc f) 0) d;let r:=f+1;let e:=Dp x.1 (Df h);let u:=Ec (Du h (Dc x.1) 0) d;let b:=Dh e (Dj u);QD h d x.1 x.2->(i->inR .i64 g/\inR IntKind.u64 g/\Dl 0 1/\Dc 1<=64/\inR .i64 f/\0<=f/\f<Df h/\True/\(j->inR .i64 r/\∃(y:Int×Int),QD h d y.1 y.2/\(T2 h d Q1 false (Df h) (r=y.1/\x.2=y.2/\True))/\Dc (y.2-y.1)<Dc (x.2-x.1))/\(j=false->∃(y:Int×Int),QD h d y.1 y.2/\(T2 h d Q1 false (Df h) (x.1=y.1/\f=y.2/\True))/\Dc (y.2-y.1)<Dc (x.2-x.1)))/\(i=false->(e->e->e)/\(e->e->e)/\(e->0<=x.1)/\(e->x.1<Df h)/\(e->e->e)/\(e->e->e)/\(e->e->e)/\(e->e->e)/\(b->b->b)/\(b->b->b)/\(b->0<=x.1)/\(b->x.1<Df h)/\(b->b->b)/\(b->b->b)/\(b->True)/\(b->b->b)/\(Dh b false->Dh b false->Dh b false)/\(Dh b false->True)/\(b->b->b)/\(b->Dh b false->Dh b false)/\(e->e->e)/\(e->b->b)/\(Dh true e->e)/\x.1=Y8 h d/\Ea e (Ea u true (Ea false false false)) false=QE h d/\True))) aFw λu=>?_
 have hl:=u.1;refine⟨⟨(0,Df h),⟨qH _,qM _,qH _,λk g=>Z,λk g1 g2=>by simp only[Df]at g1;omega⟩,?_⟩,λ⟨i,j⟩=>?_⟩
 .simp
 intro c1 c2 c3 c4 c5 aV c7 b G;have z:=G;obtain⟨L,h2,h3,h4,h5⟩:=G;have e3:c3=(i+j)/2:=by
  show(i+j).fdiv (2 ^ (1:Int).toNat)=_;rw[qCv _ (by decide)];rfl
 have X:c2=i+j:=rfl;have e5:c5=c3+1:=rfl;have e1:c1=decide (i<j):=rfl;have V:c4=decide (h.getD c3.toNat 0<d):=rfl;have v:inR .u64 c2:=by
  rw[X];exact⟨show(0:Int)<=i+j by omega,show i+j<=18446744073709551615 by omega⟩
 clear_value c1 c2 c3 c4 c5;constructor
 .intro f;rw[e1,qE]at f;refine⟨by rw[X];exact aE Z,v,by decide,by decide,aE Z,by show(0:Int)<=c3;omega,by show c3<(h.length:Int);omega,trivial,λe=>?_,λe=>?_⟩
  .rw[V,qE]at e;refine⟨by rw[e5];exact aE Z,(c5,j),⟨Z,Z,h3,λk hk=>?_,h5⟩,by simp,?_⟩
   .have:=Sj u (i:=k) (j:=c3.toNat) Z Z;omega
   .simp only[Dx,Dc,Di];omega
  .rw[V,vZ]at e;refine⟨(i,c3),⟨L,Z,Z,h4,λk hk hk2=>?_⟩,by simp,?_⟩
   .have:=Sj u (i:=c3.toNat) (j:=k) Z Z;omega
   .simp only[Dx,Dc,Di];omega
 .intro f;rw[e1,vZ]at f;have:i=j:=Z;subst this;obtain⟨b1,b2⟩:=aFh u z;have T:aV=decide (i<h.length):=rfl;have e7:c7=decide (h.getD i.toNat 0=d):=rfl;have e8:b=(aV&&!c7):=rfl;clear_value aV c7 b;have r:aV=true->i<(h.length:Int):=λg=>by rw[T]at g;exact vN g
  have O:b=true->aV=true:=λg=>by rw[e8,qC]at g;exact g.1
  simp only[qc,Dh,Eu,Dj]
  and_intros
  all_goals first
   | exact λ_=>L
   | exact r
   | exact λg=>r (O g)
   | exact b1
   | exact λg=>O g
   | skip
  rw[kG,b2,T,e7];simp
def Js: ai Tryz.prog iR aIz:=af aJB aFw
def EB{a m:Int}(h:0<m): (a.tmod m+m).tmod m=a%m:=by
 have e:=qAm (a:=a) (b:=m);have r:=kP a (show m≠0 by omega);have j:=xK a h;have i:(m.natAbs:Int)=m:=Z;have f:a.tmod m=a%m\/a.tmod m=a%m-m:=by
  rw[e];split
  .exact .inl Z
  .exact .inr Z
 have g:0<=a.tmod m+m:=Z;rw[qCu g];rcases f with f | f<;>rw[f]
 .rw[Int.add_emod_right,Int.emod_emod_of_dvd _ (Int.dvd_refl _)]
 .rw[Int.sub_add_cancel,Int.emod_emod_of_dvd _ (Int.dvd_refl _)]
def aAh: eO 220 By:=ae λ(((z:Int),(w:List Bool),(h:Li)),(d:Int),_)=>by
 refine zE (A:=az) (p:=let e:=Fq d 7+7;let b:=Fq e 7;let f:=Dj (Du w (Dc b) false);(wkP w h d->Es 7 0/\inR .i64 e/\Es 7 0/\0<=b/\b<Df w/\(f->false=wkF w h d/\True)/\(f=false->srt h/\Dj (QE h d)=wkF w h d/\True))) Js λ⟨i,j,v⟩=>?_
 have e:=EB (a:=d) (m:=7) (by decide);have g:=kP d (show(7:Int)≠0 by decide);have u:=xK d (show(0:Int)<7 by decide);have r:-7<d.tmod 7/\d.tmod 7<7:=by
  have:=qAm (a:=d) (b:=7);split at this<;>omega
 simp only[Fq,Dq,e,Dj,Du,Dc,Dl,Dn,Es,Df,i];refine⟨by decide,aE Z,by decide,g,Z,λf=>⟨?_,trivial⟩,λf=>⟨j,?_,trivial⟩⟩
 .unfold wkF;rw[zY]at f;rw[f];rfl
 .unfold wkF QE;rw[kY]at f;rw[f];rfl
def aAN: eO 158 BS:=ae λ(((z:Int),(w:List Bool),(h:Li)),(t:Int),_)=>by
 refine zE (A:=az) (p:=let b:=Fq (t+z) 1440+1440;let e:=Fq b 1440;let f:=(t+z)-e;let g:=Gg f 1440;(big z/\big t->inR .i64 (t+z)/\Es 1440 0/\inR .i64 b/\Es 1440 0/\inR .i64 f/\Es 1440 0/\inR .i64 g/\g=bz z t/\e=dN z t/\True)) Js λ⟨g,i⟩=>?_
 obtain⟨u,r⟩:=g;obtain⟨t1,t2⟩:=i;have e:=EB (a:=t+z) (m:=1440) (by decide);have G:=kP (t+z) (show(1440:Int)≠0 by decide);have y:=xK (t+z) (show(0:Int)<1440 by decide);have v:-1440<(t+z).tmod 1440/\(t+z).tmod 1440<1440:=by
  have:=qAm (a:=t+z) (b:=1440);split at this<;>omega
 have j:(t+z-(t+z)%1440).tdiv 1440=(t+z)/1440:=by
  have:t+z-(t+z)%1440=1440*((t+z)/1440):=Z;rw[this,qDk _ (by decide)]
 have f:∀{x:Int},-4000000000000<=x->x<=4000000000000->inR .i64 x:=λ{x} O L=>⟨show(-9223372036854775808:Int)<=x by omega,show x<=9223372036854775807 by omega⟩
 simp only[Fq,Dq,Di,Gg,e,j];exact⟨f Z Z,by decide,f Z Z,by decide,f Z Z,by decide,f Z Z,rfl,rfl,trivial⟩
def aGX: eO 154 NT:=ae λ(((z:Int),(w:List Bool),(h:Li)),(d:Int),(m:Int),_)=>by
 refine zE (A:=az) (p:=let b:=d*1440;let e:=b+m;let f:=e-z;(big z/\big d/\big m->inR .i64 b/\inR .i64 e/\inR .i64 f/\f=F6 z d m/\True)) Js λ⟨⟨f,e⟩,⟨v,u⟩,⟨i,g⟩⟩=>?_
 have b:∀{x:Int},-4000000000000000<=x->x<=4000000000000000->inR .i64 x:=λ{x} r j=>⟨show(-9223372036854775808:Int)<=x by omega,show x<=9223372036854775807 by omega⟩
 exact⟨b Z Z,b Z Z,b Z Z,rfl,trivial⟩
def F3(z:Int)(w:List Bool)(h:Li): Prop:=(-720<=z/\z<=840/\w.length=7/\h.length<=40)/\∀i:Nat,i+1<h.length->h.getD i 0<h.getD (i+1) 0
def jM{z:Int}{w:List Bool}{h:Li}: gq z w h=true↔F3 z w h:=by
 unfold gq F3;rw[qC,qE,qO];refine and_congr_right λ_=>⟨λg i b=>?_,λg i b=>?_⟩
 .have:=g i (qZ.2 Z);simpa using this
 .have:=qZ.1 b;simpa using g i Z
def sy{z:Int}{w:List Bool}{h:Li}(e:¬F3 z w h): false=gq z w h:=by
 cases b:gq z w h with
 | false=>rfl
 | true=>exact(e (jM.1 b)).elim
def QZ{z:Int}{w:List Bool}{h:Li}(e:gq z w h=true): srt h:=by
 obtain⟨⟨_,_,_,v⟩,r⟩:=jM.1 e;refine⟨Z,λi j f u=>?_⟩;induction j with
 | zero=>omega
 | succ j b=>
  have:=r j Z;rcases zO i j with g | g
  .have:=b g Z;omega
  .have:i=j:=by omega
   rw[this];assumption
def aJy: eO 150 Uh:=ae λ(((z:Int),(w:List Bool),(h:Li)),_)=>by
 refine zE (A:=(lvA [(4,[1,2,3])] (Wa h))) (p:=let j:=Dj (btw z (-720) 840);let f:=Dj j;let r:=Ea j true (Dw (Df w) 7);let i:=Dj r;let u:=Ea r true (Ei (Df h) 40);let e:=(z,w,h);(True->True/\Q4 f ((Dh true f->f)/\Q4 i ((Dh true i->i)/\(u->false=gq z w h/\True)/\(u=false->(∃x,ES h x/\e=e/\1=x/\True)/\∀(x:Int),let v:=Dp x (Df h);let g:=x-1;let A:=Ee (Du h (Dc x) 0) (Du h (Dc g) 0);let b:=x+1;ES h x->(v->0<=x/\x<Df h/\inR .i64 g/\0<=g/\g<Df h/\(A->false=gq z w h/\True)/\(A=false->inR .i64 b/\∃y,ES h y/\(e=e/\b=y/\True)/\Dc (Df h-y)<Dc (Df h-x)))/\(v=false->true=gq z w h/\True)))))) Js λ_=>?_
 have V:btw z (-720) 840=decide (-720<=z/\z<=840):=rfl;simp only[V];refine Z9 ?_;refine⟨λhb=>sy λr=>?_,λ⟨⟨⟨h1,h2⟩,h3⟩,h4⟩=>⟨⟨qH _,.inr rfl,Z,λi v=>Z⟩,λx f=>⟨λu=>?_,λT=>(jM.2 ⟨⟨Z,Z,Z,Z⟩,λi v=>f.2.2.2 i Z⟩).symm⟩⟩⟩
 .obtain⟨⟨g1,g2,g3,g4⟩,_⟩:=r;omega
 .have G:=f.1;have j:=f.2.2.1;refine⟨Z,u,aE Z,Z,Z,λO=>sy λr=>?_,λL=>⟨aE Z,x+1,⟨Z,Z,j,λi v=>?_⟩,rfl,Z⟩⟩
  .have:=r.2 (x-1).toNat Z;rw[show(x-1).toNat+1=x.toNat by omega]at this;omega
  .by_cases e:(i:Int)+1<x
   .exact f.2.2.2 i e
   .have e1:(x-1).toNat=i:=by omega
    have X:x.toNat=i+1:=Z;rw[e1,X]at L;omega
def Rm: eO 153 s6:=ae λ(((z:Int),(w:List Bool),(h:Li)),(a:Int),(b:Int),_)=>zE (A:=az) (p:=let e:=(z,w,h);(True->z6 a b e)) Js λ_=>⟨rfl,rfl,rfl,trivial⟩
def aDz(b:Bool)(e:Int): ah Tryz.prog iR 79 [.dat .bool b,.dat I e] [] ⟨True/\b=true,.tup [],[]⟩/\dt Tryz.prog iR 79 [.dat .bool b,.dat I e] [] ⟨True,b,d6 39 e⟩:=by
 refine zC (c:=mkc aIz) (A:=az) (q:=⟨True,b,d6 39 e⟩) Js iI hm sU (p:=let f:=chainOf (Value.iface 39 (Value.int .i64 e));true/\(True->(Dj b->(true->True/\(false=false->b=false/\true/\f=f))/\True)/\(Dj b=false->b/\True))) ⟨rfl,λ_=>⟨λh=>⟨λ_=>⟨trivial,λ_=>⟨?_,rfl,rfl⟩⟩,trivial⟩,λh=>⟨?_,trivial⟩⟩⟩
 .simpa using h
 .simpa using h
def aDO(e:Int): ah Tryz.prog iR 70 [.ifc 39 (.dat I e)] [] ⟨True,.dat I e,[]⟩:=
 zE (A:=az) (p:=(True->(true->T3 e)/\(true=false->190=e/\True))) Js λ_=>⟨λ_=>⟨rfl,trivial⟩,λh=>by cases h⟩
def VJ: ai Tryz.prog iR aGh:=af aAh<|af aAN<|af aGX<|af aJy<|af Rm<|af (ae λ(b,e,_)=>(aDz b e).1) Js
def OS: bJ Tryz.prog iR KPr:=jt (kg λ(b,e,_)=>(aDz b e).2) sU
def IU{α:Type}{f:Nat->α}{p:α->Bool}{k:Nat}(g:p (f k)=true): ∀N:Nat,k<N->(((List.range N).map f).filter p)[(((List.range k).map f).filter p).length]?=some (f k)
 | 0,h=>Z
 | N+1,h=>by
  rw[zJ,zZ,yL];rcases zO k N with i | i
  .have b:=IU g N i;rw[vS (qG.1 b).1];exact b
  .have e:N=k:=by omega
   subst e;rw[vH (qJ _),qBf];simp[g]
def Vw{w:List Bool}{h:Li}{a b x:Int}(r:a<=x)(j:x<=b)(g:wkF w h x=true): m4 (jo w h a b) (iG w h a x) x:=by
 have e:a+((x-a).toNat:Int)=x:=Z;have:=IU (f:=λ(i:Nat)=>a+(i:Int)) (p:=λd=>wkF w h d) (k:=(x-a).toNat) (by simp only[e];exact g) (b+1-a).toNat Z;simp only[e]at this;exact this
def CV{w:List Bool}{h:Li}{a x:Int}(b:a<=x): iG w h a (x+1)=iG w h a x+(if wkF w h x then 1 else 0):=by
 unfold iG;rw[show(x+1-a).toNat=(x-a).toNat+1 by omega,zJ,zZ,yL,qF];have e:a+((x-a).toNat:Int)=x:=Z
 congr 1
 simp only[zB,qBv,e,yN,gI];split<;>simp_all
def Qy(w:List Bool)(h:Li)(a:Int): iG w h a a=0:=by
 unfold iG;rw[show(a-a).toNat=0 by omega];rfl
def Ve{w:List Bool}{h:Li}{a b x:Int}(f:aC0 a b x)(g:¬x<=b): iG w h a x=(jo w h a b).length:=by
 unfold iG jo;have e:(x-a).toNat=(b+1-a).toNat:=by
  rcases f with⟨j,i | i⟩<;>omega
 rw[e]
def aGu(z a b:Int)(w:List Bool)(h:Li): mA Tryz.prog iR 219 [.ip I a,.ip I b,.ipv (.ip C (z,w,h))] ⟨wdP w h a b,I,jo w h a b⟩:=by
 refine zI (c:=mkc aGh) (A:=(wdA w h a b)) VJ iI hm (p:=let j:=(z,w,h);let u:=jo w h a b;let r:=Dk u;let f:=b+1;true/\true/\true/\false=false/\∀(l:Nat),wdP w h a b->(∃x,aC0 a b x/\(Q3 l a b j (a=x/\T3 a))/\0=iG w h a x/\true)/\∀(x:Int),let e:=iG w h a x;let v:=e+1;let i:=x+1;let L:=Ea (wkF w h x) (Dj false) false;aC0 a b x->(Ee x b->wkP w h x/\(wkF w h x->(wkF w h x->wkF w h x)/\(wkF w h x->wkF w h x)/\l=l/\true/\m4 u e x/\∀(g:Bool),let A:=Ea (wkF w h x) (Dj g) false;(Dh true (wkF w h x)->wkF w h x)/\(A->g->v=r)/\(A=false->inR IntKind.i64 i/\∃y,aC0 a b y/\((Q3 l a b j (i=y/\T3 a))/\v=iG w h a y/\g)/\Dc (f-y)<Dc (f-x)))/\(wkF w h x=false->L4 (wkF w h x) ((Dh true (wkF w h x)->wkF w h x)/\(L->true->e=r)/\(L=false->inR .i64 i/\∃y,aC0 a b y/\((Q3 l a b j (i=y/\T3 a))/\e=iG w h a y/\true)/\Dc (f-y)<Dc (f-x)))))/\(Ee x b=false->true->e=r)) ⟨rfl,rfl,rfl,rfl,λl ⟨V,X,⟨a1,a2⟩,⟨b1,b2⟩⟩=>?_⟩
 refine⟨⟨a,⟨qH _,.inr rfl⟩,⟨rfl,rfl,rfl,rfl,rfl,rfl,trivial⟩,(Qy w h a).symm,rfl⟩,λx T=>?_⟩;obtain⟨r,O⟩:=T;refine⟨λf=>?_,λu _=>Ve ⟨r,O⟩ (by simpa using u)⟩;have f:x<=b:=by simpa using f
 have hb:big x:=⟨Z,Z⟩;refine⟨⟨V,X,hb⟩,λe=>⟨λh=>h,λh=>h,rfl,rfl,Vw r f e,λbb=>⟨λ_=>e,λj v=>?_,λj=>?_⟩⟩,λe=>⟨λ_ h=>h,λ_=>?_,λG _=>?_,λG=>?_⟩⟩
 .rw[e,v]at j;cases j
 .rw[e]at j;have:bb=true:=by simpa[Ea,Dj]using j
  refine⟨aE Z,x+1,⟨Z,.inl Z⟩,⟨⟨rfl,rfl,rfl,rfl,rfl,rfl,trivial⟩,?_,this⟩,?_⟩
  .rw[CV r,e];rfl
  .simp only[Dx,Dc,Di,Dq];omega
 .rename_i i;rw[e]at i;cases i
 .rw[e]at G;cases G
 .refine⟨aE Z,x+1,⟨Z,.inl Z⟩,⟨⟨rfl,rfl,rfl,rfl,rfl,rfl,trivial⟩,?_,rfl⟩,?_⟩
  .rw[CV r,e];rfl
  .simp only[Dx,Dc,Di,Dq];omega
def uZ(xs:Li): ah Tryz.prog iR 207 [.ptr 1 1 0 0] [(1,.var [.dat R xs])] ⟨True/\bX xs=true,.dat I (hd xs),[(1,.var [.dat R (tl xs)])]⟩/\dt Tryz.prog iR 207 [.ptr 1 1 0 0] [(1,.var [.dat R xs])] ⟨True,bX xs,d6 39 190⟩:=by
 refine zM (c:=cR) (A:=az) (q:=⟨True,bX xs,d6 39 190⟩) VJ iI hm OS (p:=let b:=Ei (Df xs) 0;let e:=chainOf (Value.iface 39 (Value.int .i64 (190:Int)));true/\(True->T2 1 1 1 1 0 ((true->True/\(b=false->bX xs=false/\true/\e=e))/\((true->b)->(True/\b)/\Q3 1 1 1 0 (Dl 0 0/\0<Df xs/\Q3 1 1 1 0 (Dl 0 1/\1<=Df xs/\Q3 1 1 1 0 (bX xs/\Du xs (Dc 0) 0=hd xs/\Fg xs 1=tl xs/\T3 1))))))) ⟨rfl,λ_=>?_⟩
 have e:Ei (Df xs) 0=bX xs:=by unfold bX;simp
 simp only[e];refine Z9 ?_;refine λh=>?_
 have b:0<xs.length:=by unfold bX at h;simpa using h
 exact⟨h,qH _,Z,by decide,Z,h,rfl,rfl⟩
def Xt(st:Int×Int)(x:Int): Int×Int:=(st.1*3%65521,(st.2+x*(st.1*3%65521))%65521)
def Pq(st:Int×Int)(l:List Int): Int×Int:=l.foldl Xt st
def MK(l:List Int): Int:=(Pq (1,0) l).2
def G8(st:Int×Int)(x:Int)(l:List Int): Pq st (x::l)=Pq (Xt st x) l:=rfl
def Xu(st:Int×Int)(a b:List Int): Pq st (a++b)=Pq (Pq st a) b:=by
 unfold Pq;exact List.foldl_append
def aHv(st:Int×Int): Prop:=(0<=st.1/\st.1<65521)/\(0<=st.2/\st.2<65521)
def Xr(st:Int×Int)(x:Int): aHv (Xt st x):=
 ⟨⟨Int.emod_nonneg _ (by decide),Int.emod_lt_of_pos _ (by decide)⟩,⟨Int.emod_nonneg _ (by decide),Int.emod_lt_of_pos _ (by decide)⟩⟩
def SQ: ∀(l:List Int) {st:Int×Int},aHv st->aHv (Pq st l)
 | [],_,h=>h
 | x::l,st,_=>SQ l (Xr st x)
def inv(p:Int): Prop:=∃q:Int,p*q%65521=1
def Ym{p:Int}(h:inv p): inv (p*3%65521):=by
 obtain⟨q,b⟩:=h;refine⟨q*43681,?_⟩;rw[Int.mul_emod,Int.emod_emod_of_dvd _ (Int.dvd_refl _),<- Int.mul_emod];have e:p*3*(q*43681)=p*q*131043:=by
  rw[Int.mul_assoc,Int.mul_left_comm 3 q 43681,<- Int.mul_assoc];rfl
 rw[e,Int.mul_emod,b];rfl
def aCb: ∀(l:List Int) {st:Int×Int},inv st.1->inv (Pq st l).1
 | [],_,h=>h
 | _::l,_,h=>aCb l (Ym h)
def aBz: ∀(l:List Int) {p s t:Int},0<=s->s<65521->0<=t->t<65521->s≠t->(Pq (p,s) l).2≠(Pq (p,t) l).2
 | [],_,_,_,_,_,_,_,h=>h
 | x::l,p,s,t,s0,f,b,t1,h=>by
  rw[G8,G8];have e:∀y:Int,Xt (p,y) x=(p*3%65521,(y+x*(p*3%65521))%65521):=λ_=>rfl
  rw[e,e];generalize x*(p*3%65521)=z;exact aBz l (Int.emod_nonneg _ (by decide)) (Int.emod_lt_of_pos _ (by decide)) (Int.emod_nonneg _ (by decide)) (Int.emod_lt_of_pos _ (by decide)) (by omega)
abbrev Ce: Ty:=.pair R I
abbrev Pl: Ty:=.pair I (.pair I (.pair M (.sl M)))
abbrev Plan:=Int×Int×Lj×List (Lj)
def Ua(l:Li): Prop:=l.length<=2000000000000000
def ZT(l:Li): Prop:=l.length<=9223372036854775807
def sP(l:Li)(k:Int): Int:=(Pq (1,0) (l.take k.toNat)).1
def sS(l:Li)(k:Int): Int:=(Pq (1,0) (l.take k.toNat)).2
def rl(l:Li): Li:=l.map λx=>x%65521
def rD(l:Li): Int:=MK (rl l)
def qu(l:Li): Bool:=l.all λx=>btw x 0 65519
def gv(l:Li)(s:Int): Bool:=qu l&&decide (s=MK l)
def aCc(l:Li)(k:Int): Prop:=0<=k/\k<=l.length/\qu (l.take k.toNat)=true
def ET(l:Li)(k:Int): Prop:=0<=k/\k<=l.length
def eH(g:Int->Int->Int)(n:Int): Lj:=(List.range n.toNat).map λi:Nat=>(List.range n.toNat).map λj:Nat=>g i j
def gw(g:Int->Int->Int)(n i:Int): Lj:=(eH g n).take i.toNat++List.replicate (n.toNat-i.toNat) []
def jr(g:Int->Int->Int)(n i j:Int): Li:=((List.range n.toNat).map λj:Nat=>g i j).take j.toNat++List.replicate (n.toNat-j.toNat) 0
def pw(k n:Int): Prop:=0<=k/\(k<=n\/k=0)
def tg(l:Li)(m i j:Int): Int:=l.getD (i*m+j).toNat 0-1
def oh(m:Int)(l:Li): Lj:=eH (tg l m) m
def bV(l:Li)(k:Int): Li:=l.drop k.toNat
def pA(m:Int)(l:Li): Bool:=decide (m*m<=l.length)
def fb(l:Li): Prop:=qu l=true/\Ua l
def mE(m:Int)(l:Li): Prop:=0<=m/\m<=12/\fb l
def Wx(m:Int)(l:Li)(k:Int): Prop:=pw k m/\k*m<=l.length
def MA(m:Int)(l:Li)(i k:Int): Prop:=pw k m/\i*m+k<=l.length
def Aa(q m:Int)(l:Li): List (Lj):=(List.range q.toNat).map λk:Nat=>oh m (bV l ((k:Int)*(m*m)))
def pz(q m:Int)(l:Li)(k:Int): List (Lj):=(Aa q m l).take k.toNat++List.replicate (q.toNat-k.toNat) []
def aFT(q m:Int)(l:Li)(k:Int): Prop:=pw k q/\(k+1)*(m*m)<=l.length-4
def wa(l:Li): Bool:=decide (l.getD 2 0<=12/\l.getD 3 0<=4/\l.getD 0 0<l.getD 1 0/\l.getD 1 0<=l.getD 0 0+60/\l.getD 1 0<=600)
def pj(l:Li): Bool:=decide (4<=l.length)&&wa l&&decide (4+l.getD 2 0*l.getD 2 0+l.getD 3 0*(l.getD 2 0*l.getD 2 0)<=l.length)
def aA(l:Li): Plan:=(l.getD 0 0,l.getD 1 0,oh (l.getD 2 0) (bV l 4),Aa (l.getD 3 0) (l.getD 2 0) (bV l (4+l.getD 2 0*l.getD 2 0)))
def cy(l:Li): Li:=bV l (4+l.getD 2 0*l.getD 2 0+l.getD 3 0*(l.getD 2 0*l.getD 2 0))
def at0(l:Li)(k:Nat): Int:=l.getD k 0
def PE(q m:Int)(l:Li)(k:Int): Li:=bV l (4+m*m+k*(m*m))
def aJG(l:Li): Ann:=Z8 3 Int (aCc l) (λs k=>put (ic s) [(10,.dat I k),(3,.dat I (sP l k)),(4,.dat I (sS l k))]) λk=>Dc (Di (Df l) k)
def aDj(l:Li): Ann:=Z8 3 Int (ET l) (λs k=>put (ic s) [(9,.dat I k),(3,.dat I (sP (rl l) k)),(4,.dat I (sS (rl l) k))]) λk=>Dc (Di (Df l) k)
abbrev qm:=al [.row Ce] (λ(c,_)=>Ua c.1) λ(c,_)=>.dat .bool (gv c.1 c.2)
abbrev Bt:=al [.val R] (λ(l,_)=>ZT l) λ(l,_)=>.dat I (rD l)
def aJu: Kt:=kOr 141 qm <|
 kOr 36 Bt aGh
def aIy: Kt:=
 kOr 207 (ZS 1 R [.mp 1] (λ_ b=>True/\bX b=true) (λ_ b=>.dat I (hd b)) λ_ b=>tl b) aJu
def KP6: KPt:=pOr 207 (aBZ 1 R [.mp 1] λ_ b=>⟨True,bX b,d6 39 190⟩) KPr
def aV: Cfg:=PX aIy (λ_=>false) KP6 (λf=>f==79||f==207)
def Wv(m:Int)(l:Li): Ann:=⟨λe s=>match e with
 | 3=>some {α:=Int,inv:=λk=>Wx m l k,st:=λk=>fu (fu (put (ic s) [(12,.dat I k),(5,.buf 2 (Dc m))]) 2 (.buf 36 R (gw (tg l m) m k) [])) 1 (.var [.dat R (bV l (Eh k m))]),μ:=λk=>Dc (Di m k)}
 | 7=>match s.sig.T 6,s.sig.T 23 with
  | .dat (.int .i64) i,.buf b _=>some {α:=Int,inv:=λk=>MA m l i k,st:=λk=>fu (fu (put (ic s) [(25,.dat I k)]) b (.buf 3 I (jr (tg l m) m i k) [])) 1 (.var [.dat R (bV l (Dq (Eh i m) k))]),μ:=λk=>Dc (Di m k)}
  | _,_=>none
 | _=>none,λ_ _=>none,λ_ _=>none⟩
def aIx: Kt:=kOr 208 (ZS 1 R [.mp 1,.val I] (λ(_,m,_) b=>mE m b/\pA m b=true) (λ(_,m,_) b=>.dat M (oh m b)) λ(_,m,_) b=>bV b (Eh m m)) aIy
def KP7: KPt:=pOr 208 (aBZ 1 R [.mp 1,.val I] λ(_,m,_) b=>⟨mE m b,pA m b,d6 39 190⟩) KP6
def c7: Cfg:=PX aIx (λ_=>false) KP7 (λf=>f==79||f==207||f==208)
def aHs(l:Li): Ann:=Z8 9 Int (aFT (at0 l 3) (at0 l 2) l) (λs k=>fu (fu (put (ic s) [(53,.dat I k)]) 4 (.buf 32 M (pz (at0 l 3) (at0 l 2) (bV l (Dq 4 (Eh (at0 l 2) (at0 l 2)))) k) [])) 1 (.var [.dat R (PE (at0 l 3) (at0 l 2) l k)])) λk=>Dc (Di (at0 l 3) k)
def aJt: Kt:=kOr 142 (ZS 1 R [.mp 1] (λ_ b=>fb b/\pj b=true) (λ_ b=>.agg [.dat I (aA b).1,.dat I (aA b).2.1,.dat M (aA b).2.2.1,.dat (.sl M) (aA b).2.2.2]) λ_ b=>cy b) aIx
def KP8: KPt:=pOr 142 (aBZ 1 R [.mp 1] λ_ b=>⟨fb b,pj b,d6 39 190⟩) KP7
def SR(l:Li): sP l 0=1:=rfl
def SO(l:Li): sS l 0=0:=rfl
def Gu{l:Li}{x:Int}(e:0<=x)(b:x<l.length): l.take (x+1).toNat=l.take x.toNat++[l.getD x.toNat 0]:=by
 rw[show(x+1).toNat=x.toNat+1 by omega,wU,qA,qB (by omega:x.toNat<l.length)];rfl
def MN{l:Li}{x:Int}(e:0<=x)(b:x<l.length): sP l (x+1)=sP l x*3%65521/\sS l (x+1)=(sS l x+l.getD x.toNat 0*(sP l x*3%65521))%65521:=by
 unfold sP sS;rw[Gu e b,Xu];exact⟨rfl,rfl⟩
def aFQ(l:Li)(x:Int): (0<=sP l x/\sP l x<65521)/\0<=sS l x/\sS l x<65521:=SQ (l.take x.toNat) (st:=(1,0)) ⟨⟨by decide,by decide⟩,⟨by decide,by decide⟩⟩
def aD7{l:Li}{x:Int}(h:(l.length:Int)<=x): sS l x=MK l:=by
 unfold sS MK;rw[qN Z]
def ZG(l:Li): (rl l).length=l.length:=by unfold rl;rw[qY]
def aHk{l:Li}{i:Nat}(h:i<l.length): (rl l).getD i 0=l.getD i 0%65521:=by
 unfold rl;rw[qA,qR,qA,qB h];rfl
def fz{l:Li}: qu l=true↔∀x∈l,0<=x/\x<=65519:=by
 unfold qu;rw[qO];exact⟨λh x b=>pg.1 (h x b),λh x b=>pg.2 (h x b)⟩
def UA{l:Li}{x:Int}(h:aCc l x)(f:x<l.length)(e:btw (l.getD x.toNat 0) 0 65519=true): aCc l (x+1):=by
 obtain⟨a,b,c⟩:=h;refine⟨Z,Z,?_⟩;rw[Gu a f];unfold qu at c ⊢;rw[gZ,c];simpa using e
def Yo{l:Li}{x:Int}(h:aCc l x)(e:¬x<l.length): qu l=true:=by
 obtain⟨a,b,c⟩:=h
 rwa [qN Z]at c
def UB{l:Li}{x:Int}(g:0<=x)(f:x<l.length)(b:btw (l.getD x.toNat 0) 0 65519=false): qu l=false:=by
 cases e:qu l with
 | false=>rfl
 | true=>
  have:=pg.2 (fz.1 e _ (bg (l:=l) (i:=x.toNat) (d:=0) Z));rw[this]at b;cases b
def ZR{a b:Int}(h:0<=a)(g:a<=65521)(e:0<=b)(f:b<=65521): 0<=a*b/\a*b<=65521*65521:=
 ⟨qAi h e,kL g f e Z⟩
def tme{a:Int}(h:0<=a): a.tmod 65521=a%65521:=qCu h
def O8: eO 141 qm:=ae λ(((l:Li),(s:Int)),_)=>by
 refine zE (A:=(aJG l)) (p:=let b:=(l,s);(Ua l->(∃x,aCc l x/\L7 l s b (1=sP l x/\0=sS l x/\L7 b l (Df l) (0=x/\True)))/\∀(x:Int),let e:=Dp x (Df l);let g:=Du l (Dc x) 0;let h:=Dj (btw g 0 65519);let i:=sP l x*3;let j:=Fq i 65521;let r:=g*j;let f:=sS l x+r;let u:=x+1;aCc l x->(e->0<=x/\x<Df l/\True/\(h->false=gv l s/\True)/\(h=false->inR .i64 i/\Es 65521 0/\inR .i64 r/\inR .i64 f/\Es 65521 0/\inR .i64 u/\∃y,aCc l y/\(L7 l s b (j=sP l y/\Fq f 65521=sS l y/\L7 b l (Df l) (u=y/\True)))/\Dc (Df l-y)<Dc (Df l-x)))/\(e=false->Ec s (sS l x)=gv l s/\True))) VJ λr=>?_
 have r:l.length<=2000000000000000:=r;refine⟨⟨0,⟨qH _,qM _,rfl⟩,by simp[SR,SO]⟩,λx=>?_⟩;intro c2 c3 c4 c5 aV c7 f c9 g;refine⟨λe=>?_,λe=>?_⟩
 .have e:x<(l.length:Int):=vN e;have i:=g.1;obtain⟨⟨p0,p1⟩,X,V⟩:=aFQ l x;obtain⟨j,z⟩:=MN i e;refine⟨i,e,trivial,λh=>⟨?_,trivial⟩,λh=>?_⟩
  .have:btw (l.getD x.toNat 0) 0 65519=false:=by simpa[c4,c3,Dj,Du,Dc]using h
   unfold gv;rw[UB i e this];rfl
  .have u:btw (l.getD x.toNat 0) 0 65519=true:=by simpa[c4,c3,Dj,Du,Dc]using h
   obtain⟨b0,b1⟩:=pg.1 u;have v:aV=sP l (x+1):=by rw[j];exact tme (by show 0<=sP l x*3;omega)
   obtain⟨⟨q0,q1⟩,_,_⟩:=aFQ l (x+1);have T:c3=l.getD x.toNat 0:=rfl;have O:c7=c3*aV:=rfl;have L:f=sS l x+c7:=rfl;have e5:c5=sP l x*3:=rfl;have G:c9=x+1:=rfl;clear_value c3 c5 aV c7 f c9;have hm:=ZR (a:=c3) (b:=aV) Z Z Z Z;refine⟨aE Z,by decide,aE Z,aE Z,by decide,aE Z,x+1,UA g e u,⟨rfl,rfl,rfl,v,?_,rfl,rfl,rfl,G,trivial⟩,?_⟩
   .rw[z,<- j];show f.tmod 65521=_;rw[tme Z,L,O,T,v]
   .simp only[Dx,Dc,Di,Df];omega
 .have e:¬x<(l.length:Int):=xJ e;refine⟨?_,trivial⟩;unfold gv;rw[Yo g e,aD7 Z,zX];show(s==_)=_;rw[kG];simp
def JR: eO 36 Bt:=ae λ((l:Li),_)=>by
 refine zE (A:=(aDj l)) (p:=(ZT l->(∃x,ET l x/\L5 l Q1 (1=sP (rl l) x/\0=sS (rl l) x/\L5 l (Df l) (0=x/\True)))/\∀(x:Int),let b:=Dp x (Df l);let e:=sP (rl l) x*3;let f:=Fq (Du l (Dc x) 0) 65521+65521;let g:=Fq e 65521;let h:=Fq f 65521*g;let i:=sS (rl l) x+h;let j:=x+1;ET l x->(b->0<=x/\x<Df l/\inR .i64 e/\Es 65521 0/\Es 65521 0/\inR .i64 f/\Es 65521 0/\inR .i64 h/\inR .i64 i/\Es 65521 0/\inR IntKind.i64 j/\∃y,ET l y/\(L5 l Q1 (g=sP (rl l) y/\Fq i 65521=sS (rl l) y/\L5 l (Df l) (j=y/\True)))/\Dc (Df l-y)<Dc (Df l-x))/\(b=false->sS (rl l) x=rD l/\True))) VJ λh=>?_
 have h:l.length<=9223372036854775807:=h;refine⟨⟨0,⟨qH _,qM _⟩,by simp[SR,SO]⟩,λx=>?_⟩;intro c1 c2 c3 c4 c5 aV c7 u;refine⟨λe=>?_,λe=>?_⟩
 .have e:x<(l.length:Int):=vN e;have i:=u.1;obtain⟨⟨p0,p1⟩,T,O⟩:=aFQ (rl l) x;obtain⟨g,f⟩:=MN (l:=rl l) i (by rw[ZG];exact e);rw[aHk Z]at f;have r:c4=sP (rl l) (x+1):=by rw[g];exact tme (by show 0<=sP (rl l) x*3;omega)
  obtain⟨⟨X,V⟩,_,_⟩:=aFQ (rl l) (x+1);have v:Fq c3 65521=l.getD x.toNat 0%65521:=EB (by decide);have m0:=kP (l.getD x.toNat 0) (show(65521:Int)≠0 by decide);have m1:=xK (l.getD x.toNat 0) (show(0:Int)<65521 by decide);have j:c5=Fq c3 65521*c4:=rfl;have G:aV=sS (rl l) x+c5:=rfl;have e2:c2=sP (rl l) x*3:=rfl;have z:c7=x+1:=rfl;have e3:c3=(l.getD x.toNat 0).tmod 65521+65521:=rfl
  have L:-65521<(l.getD x.toNat 0).tmod 65521/\(l.getD x.toNat 0).tmod 65521<65521:=by
   have:=qAm (a:=l.getD x.toNat 0) (b:=65521);split at this<;>omega
  rw[v]at j;clear_value c2 c3 c4 c5 aV c7;have hm:=ZR (a:=l.getD x.toNat 0%65521) (b:=c4) Z Z Z Z;refine⟨i,e,aE Z,by decide,by decide,aE Z,by decide,aE Z,aE Z,by decide,⟨show(-9223372036854775808:Int)<=_ by omega,show _<=(9223372036854775807:Int) by omega⟩,x+1,⟨Z,Z⟩,⟨rfl,rfl,r,?_,rfl,rfl,z,trivial⟩,?_⟩
  .rw[f,<- g];show aV.tmod 65521=_;rw[tme Z,G,j,r]
  .simp only[Dx,Dc,Di,Df];omega
 .have e:¬x<(l.length:Int):=xJ e;exact⟨aD7 (by rw[ZG];omega),trivial⟩
def aIn: ai Tryz.prog iR aJu:=af O8<|af JR VJ
def aAG: ∀x b,ah Tryz.prog iR 207 (avK [.mp 1] x) [(1,.var [.dat R b])] ⟨True/\bX b=true,.dat I (hd b),[(1,.var [.dat R (tl b)])]⟩:=λ_ b=>(uZ b).1
def aFv: ai Tryz.prog iR aIy:=
 af (rQ aAG) aIn
def VM: bJ Tryz.prog iR KP6:=jt (wA λ_ b=>(uZ b).2) OS
def sa{α:Type}(xs:List α)(d v:α)(k:Nat)(b:xs[k]?=some v): (xs.take k++List.replicate (xs.length-k) d).set k v=xs.take (k+1)++List.replicate (xs.length-(k+1)) d:=by
 obtain⟨h,e⟩:=qG.1 b;have f:xs.length-k=(xs.length-(k+1))+1:=Z;rw[f,qBu,qCi _ _ (by simp;omega)];simp[wU,b,kD (Nat.le_of_lt h)]
def jB(g:Int->Int->Int)(n:Int): (eH g n).length=n.toNat:=by simp[eH]
def vr(g:Int->Int->Int)(n x:Int)(h:pw x n): (gw g n x).length=n.toNat:=by
 have:=h.1;have:=h.2;simp only[gw,qF,qL,wO,jB];omega
def A3(g:Int->Int->Int)(n i x:Int)(h:pw x n): (jr g n i x).length=n.toNat:=by
 have:=h.1;have:=h.2;simp only[jr,qF,qL,wO,qY,qU];omega
def Hf(g:Int->Int->Int)(n:Int): gw g n 0=List.replicate n.toNat []:=by simp[gw]
def J7(g:Int->Int->Int)(n i:Int): jr g n i 0=List.replicate n.toNat 0:=by simp[jr]
def J8(g:Int->Int->Int)(n i j:Int)(b:0<=j)(f:j<n): (jr g n i j).set j.toNat (g i j)=jr g n i (j+1):=by
 have e:(j+1).toNat=j.toNat+1:=Z;have:=sa ((List.range n.toNat).map λj:Nat=>g i j) 0 (g i j) j.toNat (by
  rw[qR,vO Z];simp[vI b])
 simp only[qY,qU]at this;unfold jr;rw[e];exact this
def Pz(g:Int->Int->Int)(n i j:Int)(h:pw j n)(b:¬j<n): jr g n i j=(List.range n.toNat).map λj:Nat=>g i j:=by
 have:=h.1;have:=h.2;have e:j.toNat=n.toNat:=Z;unfold jr;rw[e,qN (by simp)];simp
def Hg(g:Int->Int->Int)(n i j:Int)(f:0<=i)(r:i<n)(h:pw j n)(b:¬j<n): (gw g n i).set i.toNat (jr g n i j)=gw g n (i+1):=by
 have e:(i+1).toNat=i.toNat+1:=Z;rw[Pz g n i j h b];have:=sa (eH g n) [] ((List.range n.toNat).map λj:Nat=>g i j) i.toNat (by
  unfold eH;rw[qR,vO Z];simp[vI f])
 rw[jB]at this;unfold gw;rw[e];exact this
def J6(g:Int->Int->Int)(n i:Int)(h:pw i n)(b:¬i<n): gw g n i=eH g n:=by
 have:=h.1;have:=h.2;have e:i.toNat=n.toNat:=Z;unfold gw;rw[e,qN (by rw[jB];exact qJ _)];simp
def Ds{l:Li}{k:Int}(h:0<=k): tl (bV l k)=bV l (k+1):=by
 unfold tl bV;rw[yX];congr 1;omega
def yp(l:Li)(k:Int): hd (bV l k)=l.getD k.toNat 0:=by
 unfold hd bV;simp[qA,vJ]
def uF{l:Li}{k:Int}(h:0<=k): bX (bV l k)=decide (k<l.length):=by
 unfold bX bV;rw[wJ,qBk];omega
def drop_drop{l:Li}{a b:Int}(f:0<=a)(e:0<=b): bV (bV l a) b=bV l (a+b):=by
 unfold bV;rw[yX];congr 1;omega
def Ou(l:Li)(k:Int): (bV l k).length=l.length-k.toNat:=by unfold bV;rw[wJ]
def ja(i m:Int): (i+1)*m=i*m+m:=by rw[Int.add_mul,Int.one_mul]
def Gw(m:Int)(l:Li): ah Tryz.prog iR 208 [.ptr 1 1 0 0,.dat I m] [(1,.var [.dat R l])] ⟨mE m l/\pA m l=true,.dat M (oh m l),[(1,.var [.dat R (bV l (Eh m m))])]⟩/\
  dt Tryz.prog iR 208 [.ptr 1 1 0 0,.dat I m] [(1,.var [.dat R l])] ⟨mE m l,pA m l,d6 39 190⟩:=by
 refine zM (c:=aV) (A:=(Wv m l)) (q:=⟨mE m l,pA m l,d6 39 190⟩) aFv iI hm VM (p:=let f:=tg l m;let g:=Dc m;let A:=Et m (Dt Int);let u:=Et m (0:Int);let G:=chainOf (Value.iface 39 (Value.int .i64 (190:Int)));true/\(mE m l->1=1/\0<=m/\(Dz 24*m)<=281474976710656/\m<=9223372036854775807/\Dk A=Dc m/\(∃x,Wx m l x/\L3 1 0 0 m Z0 (Dc m) m (Dc m) (Dc m) (Int.ofNat g=Int.ofNat g/\0=x/\l=bV l (x*m)/\A=gw f m x/\T3 1))/\∀(x:Int),let j:=Dp x (Int.ofNat g);let i:=gw f m x;let e:=Dk i;let L:=bV l (x*m);let c8:=x+1;Wx m l x->(j->0<=m/\(Dz 8*m)<=281474976710656/\m<=9223372036854775807/\e=Dc m/\0<=x/\x<Dz e/\e=Dc m/\Dk u=Dc m/\e=Dc m/\0<=x/\x<Dz e/\e=Dc m/\Dc x=Dc x/\Dk u=Dc m/\(∃b,MA m l x b/\L3 1 0 0 m Z0 (Dc m) x m (Dc m) (L3 (Dc m) (Int.ofNat g) x j x (Dc m) x m (Dc m) (L3 (Dc m) (Dc x) 0 (Dc m) x (Dc m) (Dc x) 0 (Dc m) (Int.ofNat g=Int.ofNat g/\0=b/\L=bV l ((x*m)+b)/\L7 i (Dc x) (Dc m) (u=jr f m x b/\T3 1)))))/\∀(b:Int),let O:=Dp b (Int.ofNat g);let h:=bV l ((x*m)+b);let v:=bX h;let T:=hd h-1;let z:=jr f m x b;let r:=Dk z;let V:=b+1;
  MA m l x b->(O->e=Dc m/\0<=x/\x<Dz e/\e=Dc m/\Dc x=Dc x/\True/\(v->e=Dc m/\0<=x/\x<Dz e/\e=Dc m/\Dc x=Dc x/\(True/\v)/\1=1/\inR .i64 T/\r=Dc m/\0<=b/\b<Dz r/\r=Dc m/\inR .i64 V/\∃y,MA m l x y/\(L3 1 0 0 m Z0 (Dc m) x m (Dc m) (L3 (Dc m) (Int.ofNat g) x j x (Dc m) x m (Dc m) (L3 (Dc m) (Dc x) 0 (Dc m) x (Dc m) (Dc x) 0 (Dc m) (Int.ofNat g=Int.ofNat g/\V=y/\tl h=bV l ((x*m)+y)/\L7 i (Dc x) (Dc m) (Em z (Dc b) T=jr f m x y/\T3 1)))))/\Dc (m-y)<Dc (m-b))/\(v=false->pA m l=false/\true/\G=G))/\(O=false->inR .i64 c8/\∃y,Wx m l y/\(L3 1 0 0 m Z0 (Dc m) m (Dc m) (Dc m) (Int.ofNat g=Int.ofNat g/\c8=y/\h=bV l (y*m)/\r=Dc m/\Em i (Dc x) z=gw f m y/\T3 1))/\Dc (m-y)<Dc (m-x)))/\(j=false->pA m l/\e=Dc m/\i=oh m l/\L=bV l (m*m)/\T3 1))) ⟨rfl,λhp=>?_⟩
 obtain⟨z,m1,⟨hin,hl⟩⟩:=hp;have hl:l.length<=2000000000000000:=hl;have em:(Int.ofNat (Dc m))=m:=vI z;have bd:∀{k:Int},0<=k->k<l.length->0<=l.getD k.toNat 0/\l.getD k.toNat 0<=65519:=λ{k} u h1=>fz.1 hin _ (bg Z)
 simp only[em];refine Z9 ?_;refine⟨z,Z,Z,by simp,⟨0,⟨⟨qH _,.inr rfl⟩,by rw[Int.zero_mul];exact qM _⟩,rfl,by rw[Int.zero_mul];rfl,(Hf _ _).symm⟩,λx j=>⟨λhlt=>?_,λhge=>?_⟩⟩
 .have u:=j.1.1;have e:=vr (tg l m) m x j.1;have xm0:0<=x*m:=qAi u z;have top:(x+1)*m<=m*m:=gK Z z;rw[ja]at top;have em2:(m.toNat:Int)=m:=vI z;have g:x<((gw (tg l m) m x).length:Int):=by rw[e];omega
  refine⟨z,Z,Z,e,u,g,e,by simp,e,u,g,e,by simp,⟨0,⟨⟨qH _,.inr rfl⟩,by have:=j.2;omega⟩,rfl,by rw[qDm],(J7 _ _ _).symm⟩,λy G=>⟨λi=>?_,λi=>?_⟩⟩
  .have X:=G.1.1;have r:=A3 (tg l m) m x y G.1;have hly:y<((jr (tg l m) m x y).length:Int):=by rw[r];omega
   have eo:=uF (l:=l) (k:=x*m+y) Z;refine⟨e,u,g,e,λT=>?_,λT=>?_⟩
   .have V:x*m+y<l.length:=by rw[eo]at T;exact vN T
    obtain⟨b0,b1⟩:=bd (k:=x*m+y) Z V;have eh:hd (bV l (x*m+y))-1=tg l m x y:=by rw[yp];rfl
    refine⟨e,u,g,e,T,aE (by rw[yp];omega),r,X,hly,r,aE Z,y+1,⟨⟨Z,.inl Z⟩,Z⟩,⟨rfl,?_,?_⟩,Z⟩
    .rw[Ds Z,Int.add_assoc]
    .rw[eh];exact J8 (tg l m) m x y X i
   .rw[eo,vZ]at T;unfold pA;rw[vZ];omega
  .have hy2:y=m:=by rcases G.1 with⟨X,y1⟩;omega
   refine⟨aE Z,x+1,⟨⟨Z,.inl Z⟩,by rw[ja];have:=G.2;omega⟩,⟨rfl,by rw[ja,hy2],A3 _ _ _ _ G.1,Hg (tg l m) m x y u hlt G.1 i⟩,Z⟩
 .have L:x=m:=by rcases j.1 with⟨x0,x1⟩;omega
  have O:pA m l=true:=by
   unfold pA;rw[qE];have:=j.2;rw[L]at this;exact this
  refine⟨O,vr _ _ _ j.1,J6 _ _ _ j.1 hge,?_⟩;rw[L]
def aFu: ai Tryz.prog iR aIx:=af (rQ λ(_,m,_) b=>(Gw m b).1) aFv
def oX: bJ Tryz.prog iR KP7:=jt (wA λ(_,m,_) b=>(Gw m b).2) VM
def fU{l:Li}(h:fb l)(k:Int): fb (bV l k):=
 ⟨fz.2 λx b=>fz.1 h.1 x (List.mem_of_mem_drop b),by show(bV l k).length<=_;rw[Ou];have:l.length<=2000000000000000:=h.2;omega⟩
def Zw(l:Li): ah Tryz.prog iR 142 [.ptr 1 1 0 0] [(1,.var [.dat R l])] ⟨fb l/\pj l=true,.agg [.dat I (aA l).1,.dat I (aA l).2.1,.dat M (aA l).2.2.1,.dat (.sl M) (aA l).2.2.2],[(1,.var [.dat R (cy l)])]⟩/\
  dt Tryz.prog iR 142 [.ptr 1 1 0 0] [(1,.var [.dat R l])] ⟨fb l,pj l,d6 39 190⟩:=by
 refine zM (c:=c7) (A:=(aHs l)) (q:=⟨fb l,pj l,d6 39 190⟩) aFu iI hm oX (p:=let e:=chainOf (Value.iface 39 (Value.int .i64 (190:Int)));let A:=bX (tl (tl (tl l)));let h:=Ee (hd (tl (tl l))) 12;let g:=hd (tl (tl (tl l)));let i:=Ea h (Ee g 4) false;let b:=Dp (hd l) (hd (tl l));let L:=hd l+60;let r:=Ea b (Ee (hd (tl l)) L) false;let j:=Ea r (Ee (hd (tl l)) 600) false;let T:=tl (tl (tl (tl l)));let c11:=pA (hd (tl (tl l))) T;let G:=Et g (Dt (Li));let f:=Dc g;let u:=oh (hd (tl (tl l))) T;let v:=Int.ofNat f;let c16:=hd (tl (tl l))*hd (tl (tl l));let c17:=bV l (4+(at0 l 2*at0 l 2));let c18:=(aA l).2;let c19:=c18.2;
  true/\(fb l->1=1/\(true->True/\(bX l=false->pj l=false/\true/\e=e))/\((true->bX l)->(True/\bX l)/\1=1/\(true->True/\(bX (tl l)=false->pj l=false/\true/\e=e))/\((true->bX (tl l))->(True/\bX (tl l))/\T4 1 1 1 0 1 1 0 ((true->True/\(bX (tl (tl l))=false->pj l=false/\true/\e=e))/\((true->bX (tl (tl l)))->(True/\bX (tl (tl l)))/\1=1/\(true->True/\(A=false->pj l=false/\true/\e=e))/\((true->A)->(True/\A)/\1=1/\(h->h->h)/\(Dh true h->h)/\(true->True/\(i=false->pj l=false/\true/\e=e))/\((true->i)->(True/\i)/\T6 1 1 0 1 1 0 ((b->1=1)/\(b->b->b)/\(b->1=1)/\(b->0=0)/\(b->1=1)/\(b->b->b)/\(b->1=1)/\(b->0=0)/\(b->b->b)/\(b->inR IntKind.i64 L)/\(b->b->b)/\(b->b->b)/\(Dh true b->b)/\(r->1=1)/\(r->r->r)/\(r->1=1)/\(r->0=0)/\(r->r->r)/\(Dh true r->r)/\(true->True/\(j=false->pj l=false/\true/\e=e))/\((true->j)->(True/\j)/\(true->mE (hd (tl (tl l))) T/\(c11=false->pj l=false/\true/\e=e))/\((true->c11)->(mE (hd (tl (tl l))) T/\c11)/\Q3 1 1 1 0 (0<=g/\(Dz 24*g)<=281474976710656/\g<=9223372036854775807/\L7 1 1 0 (Dk G=f/\L7 1 1 0 (Dk G=f/\(∃x,aFT (at0 l 3) (at0 l 2) l x/\L3 1 0 0 1 0 0 1 0 0 (L3 (hd (tl (tl l))) g 1 0 0 (hd l) 1 0 0 (L3 (hd (tl l)) 1 0 0 1 0 1 1 0 (L3 0 (hd (tl (tl l))) 1 0 0 g (hd (tl (tl l))) h h (L3 i 1 0 0 (hd l) 1 0 1 (hd (tl l)) (L3 b b r r j 1 0 0 (hd (tl (tl l))) (L3 u 1 0 2 g f 1 0 3 (T2 1 0 3 f v (0=x/\bV T c16=PE (at0 l 3) (at0 l 2) l x/\T5 Q1 Q1 Z0 Z0 (hd l) (hd (tl l)) u f (G=pz (at0 l 3) (at0 l 2) c17 x/\T3 1))))))))))/\
  ∀(x:Int),let z:=PE (at0 l 3) (at0 l 2) l x;let c21:=pA (hd (tl (tl l))) z;let c22:=pz (at0 l 3) (at0 l 2) c17 x;let O:=Dk c22;let c24:=x+1;aFT (at0 l 3) (at0 l 2) l x->(Dp x v->L7 1 1 0 (mE (hd (tl (tl l))) z/\(c21->L7 1 1 0 ((mE (hd (tl (tl l))) z/\c21)/\1=1/\O=f/\0<=x/\x<Dz O/\O=f/\inR .i64 c24/\∃y,aFT (at0 l 3) (at0 l 2) l y/\(L3 1 0 0 1 0 0 1 0 0 (L3 (hd (tl (tl l))) g 1 0 0 (hd l) 1 0 0 (L3 (hd (tl l)) 1 0 0 1 0 1 1 0 (L3 0 (hd (tl (tl l))) 1 0 0 g (hd (tl (tl l))) h h (L3 i 1 0 0 (hd l) 1 0 1 (hd (tl l)) (L3 b b r r j 1 0 0 (hd (tl (tl l))) (L3 u 1 0 2 g f 1 0 3 (T2 1 0 3 f v (c24=y/\bV z c16=PE (at0 l 3) (at0 l 2) l y/\T5 Q1 Q1 Z0 Z0 (hd l) (hd (tl l)) u f (Em c22 (Dc x) (oh (hd (tl (tl l))) z)=pz (at0 l 3) (at0 l 2) c17 y/\T3 1))))))))))/\Dc (at0 l 3-y)<Dc (at0 l 3-x)))/\(c21=false->pj l=false/\true/\e=e)))/\(Dp x v=false->Q3 1 0 1 0 (O=f/\pj l/\L5 1 0 (hd l=(aA l).1/\hd (tl l)=c18.1/\u=c19.1/\O=f/\c22=c19.2/\z=cy l/\T3 1))))))))))))))))) ⟨rfl,λhp=>?_⟩
 have hl:l.length<=2000000000000000:=hp.2;have t1:tl l=bV l 1:=rfl;have t2:tl (tl l)=bV l 2:=by rw[t1,Ds (by decide)];rfl
 have t3:tl (tl (tl l))=bV l 3:=by rw[t2,Ds (by decide)];rfl
 have t4:tl (tl (tl (tl l)))=bV l 4:=by rw[t3,Ds (by decide)];rfl
 have X:hd l=at0 l 0:=rfl;have h1:hd (tl l)=at0 l 1:=by rw[t1,yp];rfl
 have h2:hd (tl (tl l))=at0 l 2:=by rw[t2,yp];rfl
 have h3:hd (tl (tl (tl l)))=at0 l 3:=by rw[t3,yp];rfl
 have o0:bX l=decide (0<l.length):=rfl;have o1:bX (tl l)=decide (1<l.length):=by rw[t1,uF (by decide),qBk];omega
 have o2:bX (tl (tl l))=decide (2<l.length):=by rw[t2,uF (by decide),qBk];omega
 have o3:bX (tl (tl (tl l)))=decide (3<l.length):=by rw[t3,uF (by decide),qBk];omega
 have bd:∀k:Nat,0<=at0 l k/\at0 l k<=65519:=λk=>by
  unfold at0;by_cases hk:k<l.length
  .exact fz.1 hp.1 _ (bg hk)
  .rw[qA,zH Z];exact⟨by decide,by decide⟩
 obtain⟨a0,a1⟩:=bd 0;obtain⟨b0,b1⟩:=bd 1;obtain⟨m0,m1⟩:=bd 2;obtain⟨q0,q1⟩:=bd 3;have epl:pj l=(decide (4<=l.length)&&wa l&&decide (4+at0 l 2*at0 l 2+at0 l 3*(at0 l 2*at0 l 2)<=l.length)):=rfl;have ehd:wa l=decide (at0 l 2<=12/\at0 l 3<=4/\at0 l 0<at0 l 1/\at0 l 1<=at0 l 0+60/\at0 l 1<=600):=rfl;have v:l.length<4->pj l=false:=λh=>by rw[epl,vC Z];rfl
 have noHd:wa l=false->pj l=false:=λh=>by rw[epl,h];simp
 have noLen:¬4+at0 l 2*at0 l 2+at0 l 3*(at0 l 2*at0 l 2)<=l.length->pj l=false:=λh=>by rw[epl,vC h];simp
 simp only[X,h1,h2,h3,o0,o1,o2,o3,t4];have eq3:Int.ofNat (Dc (at0 l 3))=at0 l 3:=vI q0;simp only[eq3];refine Z9 ?_;obtain⟨f,b⟩:∃f,f=at0 l 2*at0 l 2:=⟨_,rfl⟩;have V:0<=f:=by rw[b];exact qAi m0 m0
 have eK:∀k,PE (at0 l 3) (at0 l 2) l k=bV l (4+f+k*f):=λk=>by unfold PE;rw[b]
 have u:∀k:Int,0<=k->(pA (at0 l 2) (bV l k)=true↔f<=((l.length-k.toNat:Nat):Int)):=λk hk=>by
  unfold pA;rw[qE,Ou,b]
 have ePL:pj l=true↔4<=l.length/\wa l=true/\4+f+at0 l 3*f<=l.length:=by
  rw[epl,qC,qC,qE,qE,b,qCh]
 have i:(Aa (at0 l 3) (at0 l 2) (bV l (4+f))).length=(at0 l 3).toNat:=by unfold Aa;simp
 have j:∀{x:Int},pw x (at0 l 3)->(pz (at0 l 3) (at0 l 2) (bV l (4+f)) x).length=(at0 l 3).toNat:=λ{x} ⟨h1,h2⟩=>by
  unfold pz;rw[qF,qL,wO,i];omega
 simp only[eK,<- b];refine⟨λh=>v Z,λl0=>⟨l0,λh=>v Z,λl1=>⟨l1,λh=>v Z,λl2=>⟨l2,λh=>v Z,λl3=>⟨l3,λh=>noHd ?_,λhA=>⟨hA,λh=>aE Z,λh=>noHd ?_,λhB=>⟨hB,?_⟩⟩⟩⟩⟩⟩⟩
 .rw[ehd,vZ];intro g;exact h g.1 g.2.1
 .rw[ehd,vZ];intro g;exact h ⟨g.2.2.1,g.2.2.2.1⟩ g.2.2.2.2
 have hH:wa l=true:=by rw[ehd,qE];exact⟨hA.1,hA.2,hB.1.1,hB.1.2,hB.2⟩
 have tP:∀k,mE (at0 l 2) (bV l k):=λk=>⟨m0,hA.1,fU hp k⟩
 have mono:∀{k:Int},0<=k->k<=at0 l 3->k*f<=at0 l 3*f:=λh1 h2=>gK h2 V
 have G:∀{k:Int},0<=k->0<=k*f:=λh=>qAi h V
 have bad:¬(4+f+at0 l 3*f<=l.length)->pj l=false:=λh=>by
  cases e:pj l with
  | false=>rfl
  | true=>exact absurd (ePL.1 e).2.2 h
 refine⟨⟨tP 4,λh=>bad ?_⟩,λhT=>⟨⟨tP 4,hT⟩,q0,Z,Z,by simp,by simp,⟨0,⟨⟨qH _,.inr rfl⟩,?_⟩,rfl,?_,?_⟩,λx hx=>⟨λhlt=>⟨tP _,λL=>?_,λL=>bad ?_⟩,λhge=>?_⟩⟩⟩
 .have:¬f<=((l.length-(4:Int).toNat:Nat):Int):=λg=>by rw[(u 4 (by decide)).2 g]at h;cases h
  have:=G q0;have e4:(4:Int).toNat=4:=rfl;omega
 .have:=(u 4 (by decide)).1 hT;have e4:(4:Int).toNat=4:=rfl;show(0+1)*(at0 l 2*at0 l 2)<=(l.length:Int)-4;rw[<- b];omega
 .rw[drop_drop (by decide) V,Int.zero_mul,qDm]
 .unfold pz;simp
 .have X:=hx.1.1;have hl2:=j hx.1;have h2':=hx.2;rw[<- b,ja]at h2';have hT3:=(u _ (by have:=G X;omega)).1 L;have:=G X;refine⟨⟨tP _,L⟩,hl2,X,by rw[hl2];omega,hl2,aE Z,x+1,⟨⟨Z,.inl Z⟩,?_⟩,⟨rfl,?_,?_⟩,Z⟩
  .rw[<- b,ja,ja];omega
  .rw[drop_drop Z V];congr 1;rw[ja];omega
  .have e:(x+1).toNat=x.toNat+1:=by omega
   have:=sa (Aa (at0 l 3) (at0 l 2) (bV l (4+f))) [] (oh (at0 l 2) (bV l (4+f+x*f))) x.toNat (by
    unfold Aa;rw[qR,vO Z,zU,vI X,drop_drop Z (by rw[<- b];exact G X),<- b])
   rw[i]at this;unfold pz;rw[e];exact this
 .have X:=hx.1.1;have hx0:=G X;have hn:¬f<=((l.length-(4+f+x*f).toNat:Nat):Int):=λg=>by rw[(u _ Z).2 g]at L;cases L
  have:=mono (k:=x+1) Z Z;rw[ja]at this;omega
 .have hxe:x=at0 l 3:=by rcases hx.1 with⟨h1,h2⟩;omega
  subst hxe;have h2':=hx.2;rw[<- b,ja]at h2';refine⟨j hx.1,ePL.2 ⟨Z,hH,Z⟩,rfl,rfl,rfl,j hx.1,?_,?_⟩
  .unfold pz;rw[qN (by rw[i];exact qJ _),qBf];show _++[]=_;rw[vY,b];rfl
  .rw[b];rfl
def aIm: ai Tryz.prog iR aJt:=af (rQ λ_ b=>(Zw b).1) aFu
def aFA: bJ Tryz.prog iR KP8:=jt (wA λ_ b=>(Zw b).2) oX
end Go.Eng.In
namespace Go.Eng.Sv
abbrev Line:=ByteArray×Int×Int×Int×Int×Int
abbrev Ll:=List Line
def bj(l:Line): Int:=l.2.1
def lTo(l:Line): Int:=l.2.2.1
def lAt(l:Line): Int:=l.2.2.2.1
def aZ(l:Line): Int:=l.2.2.2.2.1
def cell(xs:List Int)(a b:Nat): Int:=xs.getD (a*12+b) 0
def fJ(xs:List Int)(a b len:Int): List Int:=
 bif decide (cell xs a.toNat b.toNat=-1)||decide (len<cell xs a.toNat b.toNat)then xs.set (a.toNat*12+b.toNat) len else xs
def Ld: List Int:=(List.range 144).map λi=>if i/12=i%12 then 0 else -1
def qa(ls:Ll): List Int:=ls.foldl (λb l=>fJ b (bj l) (lTo l) (aZ l)) Ld
def DF(xs:List Int)(q:Nat): List Int:=
 bif (cell xs (q/12%12) (q/144) != -1)&&(cell xs (q/144) (q%12) != -1)then fJ xs (q/12%12:Nat) (q%12:Nat) (cell xs (q/12%12) (q/144)+cell xs (q/144) (q%12))else xs
def fwN(ls:Ll)(k:Nat): List Int:=(List.range k).foldl DF (qa ls)
def cI(ls:Ll): List Int:=fwN ls 1728
structure bU (n:Nat) (ls:Ll):Prop where
 n12:n<=12
 at_:∀l∈ls,0<=bj l/\bj l<n/\0<=lTo l/\lTo l<n/\bj l≠lTo l/\1<=aZ l/\aZ l<=5000
def Y1{xs:List Int}{a b c d:Nat}{x:Int}(f:b<12)(hd:d<12)(e:a*12+b<xs.length):
  cell (xs.set (a*12+b) x) c d=if c=a/\d=b then x else cell xs c d:=by
 unfold cell;rw[List.getD_eq_getElem?_getD,List.getElem?_set,List.getD_eq_getElem?_getD];by_cases h:c=a/\d=b
 .obtain⟨rfl,rfl⟩:=h;simp[e]
 .rw[if_neg h,if_neg (by omega)]
def i9(xs:List Int)(a b len:Int): (fJ xs a b len).length=xs.length:=by
 unfold fJ;cases(decide (cell xs a.toNat b.toNat=-1)||decide (len<cell xs a.toNat b.toNat))<;>simp
def fa{xs:List Int}(i:xs.length=144){a b:Nat}(j:a<12)(f:b<12){len:Int}{c d:Nat}(hd:d<12):
  cell (fJ xs a b len) c d=if c=a/\d=b/\(cell xs a b=-1\/len<cell xs a b)then len else cell xs c d:=by
 unfold fJ;simp only[Int.toNat_natCast];by_cases h:cell xs a b=-1\/len<cell xs a b
 .have:(decide (cell xs a b=-1)||decide (len<cell xs a b))=true:=by simpa using h
  rw[this,cond_true,Y1 f hd (by omega)];by_cases e:c=a/\d=b
  .rw[if_pos e,if_pos ⟨e.1,e.2,h⟩]
  .rw[if_neg e,if_neg λg=>e ⟨g.1,g.2.1⟩]
 .have:(decide (cell xs a b=-1)||decide (len<cell xs a b))=false:=by
   rw[Bool.eq_false_iff];simpa using h
  rw[this,cond_false,if_neg λg=>h g.2.2]
def pZ(ls:Ll): (qa ls).length=144:=by
 unfold qa;have:∀(ls:Ll) (b:List Int),(ls.foldl (λb l=>fJ b (bj l) (lTo l) (aZ l)) b).length=b.length:=by
  intro ls;induction ls with
  | nil=>intro b;rfl
  | cons l ls e=>intro b;rw[List.foldl_cons,e,i9]
 rw[this];rfl
def GK(xs:List Int)(q:Nat): (DF xs q).length=xs.length:=by
 unfold DF;cases(cell xs (q/12%12) (q/144) != -1)&&(cell xs (q/144) (q%12) != -1)<;>simp[i9]
def EV(ls:Ll)(k:Nat): fwN ls (k+1)=DF (fwN ls k) k:=by
 unfold fwN;rw[List.range_succ,List.foldl_append];rfl
def rZ(ls:Ll): ∀k,(fwN ls k).length=144
 | 0=>pZ ls
 | k+1=>by rw[EV,GK,rZ ls k]
inductive Walk (ls:Ll):Nat->Nat->Int->Prop
 | nil (a:Nat):Walk ls a a 0
 | snoc {a:Nat} {n:Int} (l:Line):l∈ls->Walk ls a (bj l).toNat n->Walk ls a (lTo l).toNat (n+aZ l)
inductive Wk (ls:Ll) (k:Nat):Nat->Nat->Int->Prop
 | refl (a:Nat):Wk ls k a a 0
 | edge (l:Line):l∈ls->Wk ls k (bj l).toNat (lTo l).toNat (aZ l)
 | via {a b c:Nat} {m n:Int}:c<k->Wk ls k a c m->Wk ls k c b n->Wk ls k a b (m+n)
def Walk.trans {ls:Ll} {a b c:Nat} {m n:Int} (h:Walk ls a b m) (g:Walk ls b c n):Walk ls a c (m+n):=by
 induction g with
 | nil=>simpa using h
 | snoc l f _ e=>rw[<- Int.add_assoc];exact .snoc l f e
def Wk.nonneg {N:Nat} {ls:Ll} (e:bU N ls) {k a b:Nat} {n:Int} (h:Wk ls k a b n):0<=n:=by
 induction h with
 | refl=>exact Int.le_refl _
 | edge l f=>have:=(e.at_ l f).2.2.2.2.2.1;omega
 | via _ _ _ i g=>omega
def Wk.split {N:Nat} {ls:Ll} (z:bU N ls) {k a b:Nat} {n:Int} (h:Wk ls (k+1) a b n):
  (∃m,m<=n/\Wk ls k a b m)\/∃r j,r+j<=n/\Wk ls k a k r/\Wk ls k k b j:=by
 induction h with
 | refl a=>exact .inl ⟨0,Int.le_refl _,.refl a⟩
 | edge l hl=>exact .inl ⟨_,Int.le_refl _,.edge l hl⟩
 | @via a b c m n A _ _ O L=>
  by_cases e:c=k
  .subst e
   right
   have V:∃r,r<=m/\Wk ls c a c r:=by
    rcases O with⟨x,f,g⟩ | ⟨x,y,f,g,i⟩
    .exact⟨x,f,g⟩
    .have:=i.nonneg z;exact⟨x,by omega,g⟩
   have T:∃j,j<=n/\Wk ls c c b j:=by
    rcases L with⟨x,f,g⟩ | ⟨x,y,f,g,i⟩
    .exact⟨x,f,g⟩
    .have:=g.nonneg z;exact⟨y,by omega,i⟩
   obtain⟨x,f,g⟩:=V;obtain⟨y,hy,i⟩:=T;exact⟨x,y,by omega,g,i⟩
  .have A:c<k:=by omega
   rcases O with⟨x,f,g⟩ | ⟨x,y,f,g,i⟩<;>rcases L with⟨u,X,q⟩ | ⟨u,v,X,q,G⟩
   .exact .inl ⟨x+u,by omega,.via A g q⟩
   .exact .inr ⟨x+u,v,by omega,.via A g q,G⟩
   .exact .inr ⟨x,y+u,by omega,g,.via A i q⟩
   .have:=i.nonneg z;have:=q.nonneg z;exact .inr ⟨x,v,by omega,g,G⟩
structure iB (ls:Ll) (xs:List Int):Prop where
 len:xs.length=144
 diag:∀a,a<12->cell xs a a=0
 walk:∀a b,a<12->b<12->cell xs a b=-1\/(0<=cell xs a b/\Walk ls a b (cell xs a b))
def Below(xs:List Int)(a b:Nat)(n:Int): Prop:=cell xs a b≠-1/\cell xs a b<=n
def aCZ(ls:Ll)(k:Nat)(xs:List Int): Prop:=∀a b n,a<12->b<12->Wk ls k a b n->Below xs a b n
def mL{xs:List Int}(f:xs.length=144){a b c d:Nat}(j:a<12)(i:b<12)(hd:d<12){len n:Int}(e:len≠-1)(h:Below xs c d n): Below (fJ xs a b len) c d n:=by
 unfold Below at h ⊢;rw[fa f j i hd];split
 .rename_i g;obtain⟨rfl,rfl,g⟩:=g;exact⟨e,by omega⟩
 .exact h
def Hm{xs:List Int}(h:xs.length=144){a b:Nat}(i:a<12)(f:b<12){len:Int}(e:len≠-1): Below (fJ xs a b len) a b len:=by
 unfold Below;rw[fa h i f f];split
 .exact⟨e,Int.le_refl _⟩
 .rename_i g;simp only[true_and,not_or]at g;exact⟨g.1,by omega⟩
def vB{ls:Ll}{xs:List Int}(h:iB ls xs){a b:Nat}(i:a<12)(f:b<12){len:Int}(r:0<=len)(j:Walk ls a b len): iB ls (fJ xs a b len):=by
 refine⟨by rw[i9];exact h.len,λc e=>?_,λc d e hd=>?_⟩
 .rw[fa h.len i f e];split
  .rename_i g;obtain⟨rfl,rfl,g⟩:=g;have:=h.diag c e;omega
  .exact h.diag c e
 .rw[fa h.len i f hd];split
  .rename_i g;obtain⟨rfl,rfl,g⟩:=g;exact .inr ⟨r,j⟩
  .exact h.walk c d e hd
def nM{a b:Nat}(f:a<12)(e:b<12): cell Ld a b=if a=b then 0 else -1:=by
 unfold cell Ld;rw[List.getD_eq_getElem?_getD,List.getElem?_map,List.getElem?_range (by omega)];simp only[Option.map_some,Option.getD_some];rw[show(a*12+b)/12=a by omega,show(a*12+b)%12=b by omega]
def Qb(ls:Ll): iB ls Ld:=by
 refine⟨rfl,λa f=>by rw[nM f f,if_pos rfl],λa b f g=>?_⟩;rw[nM f g];split
 .rename_i e;subst e;exact .inr ⟨Int.le_refl _,.nil a⟩
 .exact .inl rfl
def toNat_lt{N:Nat}{x:Int}(f:0<=x)(e:x<N)(b:N<=12): x.toNat<12:=by omega
def xb{N:Nat}{ls:Ll}(v:bU N ls): ∀(g:Ll) (xs:List Int),(∀l∈g,l∈ls)->iB ls xs->(∀a b,a<12->b<12->cell xs a b<=5000)->
  iB ls (g.foldl (λxs l=>fJ xs (bj l) (lTo l) (aZ l)) xs)/\
  (∀a b n,a<12->b<12->Below xs a b n->Below (g.foldl (λxs l=>fJ xs (bj l) (lTo l) (aZ l)) xs) a b n)/\
  (∀l∈g,Below (g.foldl (λxs l=>fJ xs (bj l) (lTo l) (aZ l)) xs) (bj l).toNat (lTo l).toNat (aZ l))/\
  (∀a b,a<12->b<12->cell (g.foldl (λxs l=>fJ xs (bj l) (lTo l) (aZ l)) xs) a b<=5000)
 | [],xs,_,h,hb=>⟨h,λ_ _ _ _ _ h=>h,(λl y=>by cases y),hb⟩
 | l::g,xs,j,h,hb=>by
  have y:=j l (by simp);obtain⟨G,T,A,O,o5,o6,L⟩:=v.at_ l y;have r:=toNat_lt G T v.n12;have f:=toNat_lt A O v.n12;have e:fJ xs (bj l) (lTo l) (aZ l)=fJ xs ((bj l).toNat:Nat) ((lTo l).toNat:Nat) (aZ l):=by
   rw[Int.toNat_of_nonneg G,Int.toNat_of_nonneg A]
  have V:Walk ls (bj l).toNat (lTo l).toNat (aZ l):=by
   have:=Walk.snoc l y (.nil (bj l).toNat)
   rwa [Int.zero_add]at this
  obtain⟨g1,g2,g3,g4⟩:=xb v g (fJ xs (bj l) (lTo l) (aZ l)) (λx i=>j x (by simp[i])) (by rw[e];exact vB h r f (by omega) V) (λa b z u=>by
   rw[e,fa h.len r f u];split
   .exact L
   .exact hb a b z u)
  rw[List.foldl_cons];refine⟨g1,λa b n z u X=>g2 a b n z u (by rw[e];exact mL h.len r f u (by omega) X),λx i=>?_,g4⟩;rcases List.mem_cons.1 i with rfl | i
  .exact g2 _ _ _ r f (by rw[e];exact Hm h.len r f (by omega))
  .exact g3 x i
def KQ{N:Nat}{ls:Ll}(f:bU N ls): iB ls (qa ls)/\aCZ ls 0 (qa ls)/\∀a b,a<12->b<12->cell (qa ls) a b<=5000:=by
 obtain⟨g1,g2,g3,g4⟩:=xb f ls Ld (λ_ h=>h) (Qb ls) (λa b r j=>by rw[nM r j];split<;>omega);refine⟨g1,λa b n e v g=>?_,g4⟩;cases g with
 | refl=>refine g2 a a 0 e e ?_;unfold Below;rw[nM e e,if_pos rfl];omega
 | edge l i=>exact g3 l i
 | via u=>omega
structure Mid (ls:Ll) (o i:Nat) (xs:List Int):Prop where
 sane:iB ls xs
 compl:aCZ ls o xs
 done:∀a b m n,a<12->b<12->a*12+b<i->Wk ls o a o m->Wk ls o o b n->Below xs a b (m+n)
 edge:∀a,a<12->cell xs a o<=5000*2 ^ o/\cell xs o a<=5000*2 ^ o
 all:∀a b,a<12->b<12->cell xs a b<=2*(5000*2 ^ o)
def Mid.step {N:Nat} {ls:Ll} (ok:bU N ls) {o i:Nat} (v:o<12) (hi:i<144) {xs:List Int} (h:Mid ls o i xs):Mid ls o (i+1) (DF xs (o*144+i)):=by
 have e1:(o*144+i)/12%12=i/12:=by omega
 have e2:(o*144+i)/144=o:=by omega
 have e3:(o*144+i)%12=i%12:=by omega
 have y:i/12<12:=by omega
 have x:i%12<12:=by omega
 unfold DF;rw[e1,e2,e3];cases u:(cell xs (i/12) o != -1)&&(cell xs o (i%12) != -1)with
 | false=>
  rw[cond_false];refine⟨h.sane,h.compl,λa b m n j f X A z=>?_,h.edge,h.all⟩;by_cases e:a*12+b<i
  .exact h.done a b m n j f e A z
  .have T:a=i/12:=by omega
   have O:b=i%12:=by omega
   have g1:=h.compl a o m j v A;have g2:=h.compl o b n v f z;rw[<- T,<- O]at u;simp only[Bool.and_eq_false_iff,bne_eq_false_iff_eq]at u;rcases u with u | u
   .exact(g1.1 u).elim
   .exact(g2.1 u).elim
 | true=>
  rw[cond_true];simp only[Bool.and_eq_true,bne_iff_ne,ne_eq]at u;obtain⟨c1,c2⟩:=u;obtain⟨p1,p2⟩:=(h.sane.walk _ _ y v).resolve_left c1;obtain⟨p3,V⟩:=(h.sane.walk _ _ v x).resolve_left c2;have r:cell xs (i/12) o+cell xs o (i%12)≠-1:=by omega
  refine⟨vB h.sane y x (by omega) (p2.trans V),λa b n j f w=>mL h.sane.len y x f r (h.compl a b n j f w),λa b m n j f X A z=>?_,λa j=>?_,λa b j f=>?_⟩
  .by_cases e:a*12+b<i
   .exact mL h.sane.len y x f r (h.done a b m n j f e A z)
   .have T:a=i/12:=by omega
    have O:b=i%12:=by omega
    have g1:=(h.compl a o m j v A).2;have g2:=(h.compl o b n v f z).2;rw[<- T,<- O]at r ⊢;have g3:=Hm (a:=a) (b:=b) h.sane.len j f r;exact⟨g3.1,by have:=g3.2;omega⟩
  .have hd:=h.sane.diag o v;have q:=h.edge a j;constructor
   .rw[fa h.sane.len y x v];split
    .rename_i g;obtain⟨rfl,L,G⟩:=g;rw[<- L,hd]at G;have:=q.1;omega
    .exact q.1
   .rw[fa h.sane.len y x j];split
    .rename_i g;obtain⟨L,rfl,G⟩:=g;rw[<- L,hd]at G;have:=q.2;omega
    .exact q.2
  .rw[fa h.sane.len y x f];split
   .have q1:=(h.edge (i/12) y).1;have q2:=(h.edge (i%12) x).2;omega
   .exact h.all a b j f
def Mid.next {N:Nat} {ls:Ll} (r:bU N ls) {o:Nat} (j:o+1<12) {xs:List Int} (h:Mid ls o 144 xs):Mid ls (o+1) 0 xs:=by
 have e:5000*2 ^ (o+1)=2*(5000*2 ^ o:Int):=by rw[Int.pow_succ];omega
 refine⟨h.sane,λa b n f i w=>?_,λa b m n f i x=>by omega,λa f=>by rw[e];exact⟨h.all a (o+1) f j,h.all (o+1) a j f⟩,λa b f i=>?_⟩
 .rcases w.split r with⟨m,hm,g⟩ | ⟨v,u,hm,g1,g2⟩
  .have:=h.compl a b m f i g;exact⟨this.1,by have:=this.2;omega⟩
  .have:=h.done a b v u f i (by omega) g1 g2;exact⟨this.1,by have:=this.2;omega⟩
 .have:=h.all a b f i;have y:(0:Int)<=5000*2 ^ o:=Int.mul_nonneg (by decide) (Int.le_of_lt (Int.pow_pos (by decide)));rw[e];omega
def UH{N:Nat}{ls:Ll}(j:bU N ls): ∀(o:Nat),o<12->∀i,i<=144->Mid ls o i (fwN ls (o*144+i)):=by
 intro o;have e:∀o,o<12->Mid ls o 0 (fwN ls (o*144))->∀i,i<=144->Mid ls o i (fwN ls (o*144+i)):=by
  intro o g h i;induction i with
  | zero=>intro _;exact h
  | succ i r=>
   intro v;rw[<- Nat.add_assoc,EV];exact(r (by omega)).step j g (by omega)
 induction o with
 | zero=>
  intro _;refine e 0 (by decide) ?_;obtain⟨g1,g2,g3⟩:=KQ j;refine⟨g1,g2,λa b m n f u x=>by omega,λa f=>⟨?_,?_⟩,λa b f u=>?_⟩
  .have:=g3 a 0 f (by decide);show cell (qa ls) a 0<=5000*2 ^ 0;omega
  .have:=g3 0 a (by decide) f;show cell (qa ls) 0 a<=5000*2 ^ 0;omega
  .have:=g3 a b f u;simp only[Int.pow_zero,Int.mul_one];show cell (qa ls) a b<=_;omega
 | succ o r=>
  intro g;refine e (o+1) g ?_;have:=(r (by omega) 144 (Nat.le_refl _)).next j g
  rw[show o*144+144=(o+1)*144 by omega]at this;exact this
def IM{N:Nat}{ls:Ll}(r:bU N ls){k:Nat}(x:k<=1728){a b:Nat}(j:a<12)(g:b<12): -1<=cell (fwN ls k) a b/\cell (fwN ls k) a b<=20480000:=by
 have h:∃o i,o<12/\i<=144/\k=o*144+i:=by
  by_cases e:k=1728
  .exact⟨11,144,by decide,by decide,by omega⟩
  .exact⟨k/144,k%144,by omega,by omega,by omega⟩
 obtain⟨o,i,u,v,rfl⟩:=h;have m:=UH r o u i v;have A:=m.all a b j g;have f:=m.sane.walk a b j g;have z:(2:Int) ^ o<=2 ^ 11:=by
  have:(2:Nat) ^ o<=2 ^ 11:=Nat.pow_le_pow_right (by decide) (by omega)
  exact_mod_cast this
 have y:(2:Int) ^ 11=2048:=by decide
 constructor
 .rcases f with f | f<;>omega
 .omega
structure mo (ls:Ll) (a:Nat) (d:Nat->Int):Prop where
 self:d a=0
 low:∀b,b<12->-1<=d b
 line:∀l∈ls,0<=d (bj l).toNat->0<=d (lTo l).toNat/\d (lTo l).toNat<=d (bj l).toNat+aZ l
 last:∀b,b<12->b≠a->0<=d b->∃l∈ls,(lTo l).toNat=b/\0<=d (bj l).toNat/\d b=d (bj l).toNat+aZ l
def mo.walk {N:Nat} {ls:Ll} (g:bU N ls) {a:Nat} {d:Nat->Int} (h:mo ls a d) {b:Nat} {n:Int} (w:Walk ls a b n):0<=d b/\d b<=n:=by
 induction w with
 | nil=>rw[h.self];exact⟨Int.le_refl _,Int.le_refl _⟩
 | snoc l f _ e=>have:=h.line l f e.1;have:=e.2;omega
def Walk.wk {N:Nat} {ls:Ll} (e:bU N ls) {a b:Nat} {n:Int} (w:Walk ls a b n):Wk ls 12 a b n:=by
 induction w with
 | nil=>exact .refl _
 | snoc l f _ g=>
  have o:=e.at_ l f;exact .via (toNat_lt o.1 o.2.1 e.n12) g (.edge l f)
def Ab{N:Nat}{ls:Ll}(e:bU N ls): aCZ ls 12 (cI ls)/\iB ls (cI ls):=by
 have m:Mid ls 11 144 (cI ls):=UH e 11 (by decide) 144 (Nat.le_refl _);refine⟨λa b n h f w=>?_,m.sane⟩;rcases w.split e with⟨x,i,g⟩ | ⟨x,y,i,g1,g2⟩
 .have:=m.compl a b x h f g;exact⟨this.1,by have:=this.2;omega⟩
 .have:=m.done a b x y h f (by omega) g1 g2;exact⟨this.1,by have:=this.2;omega⟩
def pO{N:Nat}{ls:Ll}(i:bU N ls){a:Nat}(h:a<12): mo ls a (cell (cI ls) a):=by
 obtain⟨z,j⟩:=Ab i;have r:∀l∈ls,(bj l).toNat<12/\(lTo l).toNat<12/\1<=aZ l:=λl f=>by
  have o:=i.at_ l f;exact⟨toNat_lt o.1 o.2.1 i.n12,toNat_lt o.2.2.1 o.2.2.2.1 i.n12,o.2.2.2.2.2.1⟩
 have e:∀l∈ls,0<=cell (cI ls) a (bj l).toNat->0<=cell (cI ls) a (lTo l).toNat/\cell (cI ls) a (lTo l).toNat<=cell (cI ls) a (bj l).toNat+aZ l:=by
  intro l f L;obtain⟨u,y,G⟩:=r l f;have w:=((j.walk a _ h u).resolve_left (by omega)).2;have g:=z a _ _ h y (Walk.wk i (.snoc l f w));refine⟨?_,g.2⟩;rcases j.walk a _ h y with q | q
  .exact(g.1 q).elim
  .exact q.1
 refine⟨j.diag a h,λb x=>?_,e,λb x v L=>?_⟩
 .rcases j.walk a b h x with q | q<;>omega
 .have w:=((j.walk a b h x).resolve_left (by omega)).2;generalize O:cell (cI ls) a b=n at w;cases w with
  | nil=>exact(v rfl).elim
  | @snoc n l f w=>
   obtain⟨u,y,G⟩:=r l f;have g:=z a _ _ h u (w.wk i);have A:0<=cell (cI ls) a (bj l).toNat:=by
    rcases j.walk a _ h u with q | q
    .exact(g.1 q).elim
    .exact q.1
   have V:=(e l f A).2;have T:=g.2;exact⟨l,f,rfl,A,by omega⟩
def mo.toWalk {N:Nat} {ls:Ll} (g:bU N ls) {a:Nat} {d:Nat->Int} (h:mo ls a d):∀(k b:Nat),b<12->0<=d b->(d b).toNat<=k->Walk ls a b (d b):=by
 intro k;induction k with
 | zero=>
  intro b i j y;by_cases e:b=a
  .subst e;rw[h.self];exact .nil b
  .obtain⟨l,f,v,u,r⟩:=h.last b i e j;have:=(g.at_ l f).2.2.2.2.2.1;omega
 | succ k x=>
  intro b i j y;by_cases e:b=a
  .subst e;rw[h.self];exact .nil b
  .obtain⟨l,f,v,u,r⟩:=h.last b i e j;have o:=g.at_ l f;have:=o.2.2.2.2.2.1;have w:=x _ (toNat_lt o.1 o.2.1 g.n12) u (by omega);have:=Walk.snoc l f w;rw[v,<- r]at this;exact this
def mo.unique {N:Nat} {ls:Ll} (f:bU N ls) {a:Nat} {d e:Nat->Int} (h:mo ls a d) (g:mo ls a e) {b:Nat} (i:b<12):d b=e b:=by
 have r:=h.low b i;have j:=g.low b i;by_cases p:0<=d b
 .have:=g.walk f (h.toWalk f _ b i p (Nat.le_refl _));have:=h.walk f (g.toWalk f _ b i this.1 (Nat.le_refl _));omega
 .by_cases q:0<=e b
  .have:=h.walk f (g.toWalk f _ b i q (Nat.le_refl _));omega
  .omega
def at1(e:List Int)(b:Nat): Int:=e.getD b 0
def fm(b:List Int)(l:Line): List Int:=
 bif decide (0<=at1 b (bj l).toNat)&&(decide (at1 b (lTo l).toNat<0)||decide (at1 b (lTo l).toNat>at1 b (bj l).toNat+aZ l))then b.set (lTo l).toNat (at1 b (bj l).toNat+aZ l)else b
def nt(m:Nat)(a:Nat): List Int:=(List.range m).map λb=>if b=a then 0 else -1
def FZ(ls:Ll)(b:List Int): List Int:=ls.foldl fm b
def bfN(ls:Ll)(m a r:Nat): List Int:=(List.range r).foldl (λb _=>FZ ls b) (nt m a)
def jz(m:Nat)(ls:Ll)(a:Nat): List Int:=(List.range m).map λb=>cell (cI ls) a b
def YG(m:Nat)(ls:Ll): List (List Int):=(List.range m).map λa=>jz m ls a
def aCG{f:List Int}{i b:Nat}{x:Int}(g:i<f.length): at1 (f.set i x) b=if b=i then x else at1 f b:=by
 unfold at1;rw[List.getD_eq_getElem?_getD,List.getElem?_set,List.getD_eq_getElem?_getD];by_cases h:i=b
 .subst h;simp[g]
 .rw[if_neg h,if_neg (λe=>h e.symm)]
def l9(b:List Int)(l:Line): (fm b l).length=b.length:=by
 unfold fm;cases(decide (0<=at1 b (bj l).toNat)&&(decide (at1 b (lTo l).toNat<0)||decide (at1 b (lTo l).toNat>at1 b (bj l).toNat+aZ l)))<;>simp
def rk{f:List Int}{l:Line}(i:(lTo l).toNat<f.length)(b:Nat): at1 (fm f l) b =
  if b=(lTo l).toNat/\0<=at1 f (bj l).toNat/\(at1 f (lTo l).toNat<0\/at1 f (lTo l).toNat>at1 f (bj l).toNat+aZ l)then at1 f (bj l).toNat+aZ l else at1 f b:=by
 unfold fm;by_cases h:0<=at1 f (bj l).toNat/\(at1 f (lTo l).toNat<0\/at1 f (lTo l).toNat>at1 f (bj l).toNat+aZ l)
 .have e:(decide (0<=at1 f (bj l).toNat)&&(decide (at1 f (lTo l).toNat<0)||decide (at1 f (lTo l).toNat>at1 f (bj l).toNat+aZ l)))=true:=by simpa using h
  rw[e,cond_true,aCG i];by_cases hb:b=(lTo l).toNat
  .rw[if_pos hb,if_pos ⟨hb,h⟩]
  .rw[if_neg hb,if_neg λg=>hb g.1]
 .have e:(decide (0<=at1 f (bj l).toNat)&&(decide (at1 f (lTo l).toNat<0)||decide (at1 f (lTo l).toNat>at1 f (bj l).toNat+aZ l)))=false:=by
   rw[Bool.eq_false_iff];simpa using h
  rw[e,cond_false,if_neg λg=>h g.2]
def Abv(m:Nat)(d:Nat->Int)(e:List Int): Prop:=e.length=m/\∀b,b<m->at1 e b=-1\/(0<=d b/\d b<=at1 e b)
def Zk(d:Nat->Int)(e:List Int)(b:Nat): Prop:=0<=d b/\at1 e b=d b
section
variable {m:Nat} {ls:Ll} {a:Nat} {d:Nat->Int}
def QL(j:bU m ls)(h:mo ls a d){e:List Int}(f:Abv m d e){l:Line}(i:l∈ls): Abv m d (fm e l):=by
 have o:=j.at_ l i;refine⟨by rw[l9];exact f.1,λb r=>?_⟩;rw[rk (by rw[f.1];omega)];split
 .rename_i g;obtain⟨rfl,g1,g2⟩:=g;rcases f.2 (bj l).toNat (by omega)with q | q
  .omega
  .have:=h.line l i q.1
   right
   omega
 .exact f.2 b r
def C2(r:bU m ls)(h:mo ls a d){e:List Int}(i:Abv m d e){l:Line}(j:l∈ls){b:Nat}(u:b<m)(f:Zk d e b): Zk d (fm e l) b:=by
 have o:=r.at_ l j;refine⟨f.1,?_⟩;rw[rk (by rw[i.1];omega)];split
 .rename_i g;obtain⟨rfl,g1,g2⟩:=g;rcases i.2 (bj l).toNat (by omega)with q | q
  .omega
  .have:=h.line l j q.1;have:=f.1;have:=f.2;omega
 .exact f.2
def QK(h:bU m ls){b:List Int}(f:Abv m d b){l:Line}(i:l∈ls)(e:Zk d b (bj l).toNat)(j:0<=d (lTo l).toNat)(r:d (lTo l).toNat=d (bj l).toNat+aZ l): Zk d (fm b l) (lTo l).toNat:=by
 have o:=h.at_ l i;refine⟨j,?_⟩;have x:=e.2;have v:=e.1;rw[rk (by rw[f.1];omega)];split
 .omega
 .rename_i g;have u:¬(0<=at1 b (bj l).toNat/\(at1 b (lTo l).toNat<0\/at1 b (lTo l).toNat>at1 b (bj l).toNat+aZ l)):=λq=>g ⟨rfl,q⟩
  rcases f.2 (lTo l).toNat (by omega)with q | q<;>omega
def gL(i:bU m ls)(h:mo ls a d): ∀(g:Ll) (e:List Int),(∀l∈g,l∈ls)->Abv m d e->Abv m d (g.foldl fm e)/\(∀b,b<m->Zk d e b->Zk d (g.foldl fm e) b)/\
  ∀l∈g,Zk d e (bj l).toNat->0<=d (lTo l).toNat->d (lTo l).toNat=d (bj l).toNat+aZ l->Zk d (g.foldl fm e) (lTo l).toNat
 | [],e,_,r=>⟨r,λ_ _ h=>h,(λl f=>by cases f)⟩
 | x::g,e,j,r=>by
  have u:=j x (by simp);have ox:=i.at_ x u;obtain⟨g1,g2,g3⟩:=gL i h g (fm e x) (λl f=>j l (by simp[f])) (QL i h r u);rw[List.foldl_cons];refine⟨g1,λb z v=>g2 b z (C2 i h r u z v),λl f v A y=>?_⟩;have o:=i.at_ l (j l f);rcases List.mem_cons.1 f with rfl | f
  .exact g2 _ (by omega) (QK i r u v A y)
  .exact g3 l f (C2 i h r u (by omega) v) A y
def rank(m:Nat)(d:Nat->Int)(b:Nat): Nat:=((List.range m).filter λx=>decide (0<=d x/\d x<d b)).length
def filter_lt{α:Type}{p q:α->Bool}: ∀{l:List α} {x:α},(∀y,p y=true->q y=true)->x∈l->p x=false->q x=true->(l.filter p).length<(l.filter q).length
 | [],_,_,h,_,_=>by cases h
 | y::l,x,b,f,j,i=>by
  have le:∀l:List α,(l.filter p).length<=(l.filter q).length:=by
   intro l;induction l with
   | nil=>exact Nat.le_refl _
   | cons z l e=>
    simp only[List.filter_cons];cases g:p z with
    | true=>rw[b z g];simpa using e
    | false=>cases q z<;>simp<;>omega
  rcases List.mem_cons.1 f with rfl | f
  .simp only[List.filter_cons,j,i,Bool.false_eq_true,if_false,if_true,List.length_cons];have:=le l;omega
  .have e:=filter_lt b f j i;simp only[List.filter_cons];cases g:p y with
   | true=>rw[b y g];simpa using e
   | false=>cases q y<;>simp<;>omega
def Ti{b c:Nat}(f:c<m)(h:0<=d c)(g:d c<d b): rank m d c<rank m d b:=by
 refine filter_lt (x:=c) (λy e=>?_) (List.mem_range.2 f) ?_ ?_
 .have:=of_decide_eq_true e;exact decide_eq_true (by omega)
 .exact decide_eq_false (by omega)
 .exact decide_eq_true (by omega)
def Ji{x:Nat}(b:x<m): at1 (nt m a) x=if x=a then 0 else -1:=by
 unfold at1 nt;rw[List.getD_eq_getElem?_getD,List.getElem?_map,List.getElem?_range b];rfl
def uT(ls:Ll)(m a r:Nat): bfN ls m a (r+1)=FZ ls (bfN ls m a r):=by
 unfold bfN;rw[List.range_succ,List.foldl_append];rfl
def OM(i:bU m ls)(h:mo ls a d)(z:a<m): ∀r,Abv m d (bfN ls m a r)/\∀b,b<m->0<=d b->rank m d b<=r->Zk d (bfN ls m a r) b
 | 0=>by
  have e:bfN ls m a 0=nt m a:=rfl;rw[e];refine⟨⟨by simp[nt],λb f=>?_⟩,λb f j L=>?_⟩
  .rw[Ji f];split
   .rename_i e;subst e;right;rw[h.self];omega
   .exact .inl rfl
  .by_cases e:b=a
   .subst e;exact⟨j,by rw[Ji f,if_pos rfl,h.self]⟩
   .obtain⟨l,u,v,y,A⟩:=h.last b (Nat.lt_of_lt_of_le f i.n12) e j;have:=(i.at_ l u).2.2.2.2.2.1;have:=Ti (m:=m) (d:=d) (b:=b) (c:=a) z (by rw[h.self];omega) (by rw[h.self];omega);omega
 | r+1=>by
  obtain⟨g1,g2⟩:=OM i h z r;obtain⟨X,V,T⟩:=gL i h ls (bfN ls m a r) (λ_ h=>h) g1;rw[uT];refine⟨X,λb f j L=>?_⟩;by_cases e:b=a
  .have:rank m d b<=r\/rank m d b=r+1:=by omega
   have hz:rank m d b=0:=by
    unfold rank;rw[List.length_eq_zero_iff,List.filter_eq_nil_iff];intro x _;rw[e,h.self];exact λg=>by have:=of_decide_eq_true g;omega
   exact V b f (g2 b f j (by omega))
  .obtain⟨l,u,v,y,A⟩:=h.last b (Nat.lt_of_lt_of_le f i.n12) e j;have o:=i.at_ l u;have O:=Ti (m:=m) (d:=d) (b:=b) (c:=(bj l).toNat) (by omega) y (by omega);have G:=g2 _ (by omega) y (by omega);have:=T l u G (by rw[v];exact j) (by rw[v];exact A)
   rwa [v]at this
def Tj(b:Nat): rank m d b<=m:=by
 unfold rank;exact Nat.le_trans (List.length_filter_le _ _) (by rw[List.length_range];exact Nat.le_refl _)
def Y9(g:bU m ls)(j:a<m): bfN ls m a m=jz m ls a:=by
 have h:=pO g (Nat.lt_of_lt_of_le j g.n12);obtain⟨g1,g2⟩:=OM g h j m;apply List.ext_getElem?;intro b;unfold jz;by_cases hb:b<m
 .rw[List.getElem?_map,List.getElem?_range hb];have i:b<(bfN ls m a m).length:=by rw[g1.1];exact hb
  have e:at1 (bfN ls m a m) b=cell (cI ls) a b:=by
   rcases g1.2 b hb with q | q
   .have f:=h.low b (Nat.lt_of_lt_of_le hb g.n12);by_cases p:0<=cell (cI ls) a b
    .exact(g2 b hb p (Tj b)).2
    .rw[q];have:-1<=cell (cI ls) a b:=f;omega
   .exact(g2 b hb q.1 (Tj b)).2
  rw[List.getElem?_eq_getElem i];unfold at1 at e;rw[List.getD_eq_getElem?_getD,List.getElem?_eq_getElem i]at e;simpa using e
 .rw[List.getElem?_eq_none (by rw[g1.1];omega),List.getElem?_eq_none (by simp;omega)]
end
end Go.Eng.Sv
namespace Go.Eng.Sv
open Go.Proofs
abbrev I: Ty:=.int .i64
abbrev U: Ty:=.int .u8
abbrev B: Ty:=.sl .bool
abbrev R: Ty:=.sl I
abbrev LC: Type:=List (Int×List Bool×Li)
abbrev LB: Type:=List ByteArray
abbrev C: Ty:=.pair I (.pair B R)
abbrev S: Ty:=.str
abbrev cal(z:Int)(w:List Bool)(h:Li): AV:=.agg [.dat I z,.dat B w,.dat R h]
def kw: List ByteArray:=[⟨#[99,97,108,101,110,100,97,114]⟩,⟨#[111,112,101,114,97,116,111,114]⟩,⟨#[111,102,102,105,99,101]⟩,⟨#[108,105,110,101]⟩,⟨#[99,108,97,115,115]⟩,⟨#[122,111,110,101]⟩,⟨#[119,101,101,107]⟩,⟨#[104,111,108,105,100,97,121]⟩,⟨#[112,111,99,107,101,116,115]⟩,⟨#[112,97,115,115,101,115]⟩,⟨#[109,105,110,117,116,101,115]⟩,⟨#[99,111,100,101,115]⟩,⟨#[97,116]⟩,⟨#[116,114,97,118,101,108]⟩,⟨#[108,111,97,100]⟩,⟨#[99,117,116]⟩,⟨#[100,101,108,105,118,101,114]⟩]
def jP(b:Int): Bool:=decide (97<=b/\b<=122)
def gk(b:Int): Bool:=decide (48<=b/\b<=57)
def cL(v a b:Int): Bool:=decide (a<=v/\v<=b)
def nameB(b:Int): Bool:=jP b||gk b||decide (b=95)
def ze(b:Int): Bool:=gk b||decide (65<=b/\b<=90)
def isKey(s:ByteArray): Bool:=kw.any λw=>w.toList==s.toList
def bT(s:ByteArray): Bool:=decide (1<=s.size/\s.size<=16)&&jP ((s.data.getD 0 0).toNat:Int)&&(s.data.toList.all λb=>nameB (b.toNat:Int))&&!isKey s
def cO(s:ByteArray): Bool:=decide (1<=s.size/\s.size<=8)&&s.data.toList.all λb=>ze (b.toNat:Int)
def lh(s:ByteArray)(k:Int): Prop:=0<=k/\k<=s.size/\(s.data.toList.take k.toNat).all (λb=>nameB (b.toNat:Int))=true
def lz(s:ByteArray)(k:Int): Prop:=0<=k/\k<=s.size/\(s.data.toList.take k.toNat).all (λb=>ze (b.toNat:Int))=true
def rW(s:ByteArray)(k:Int): Prop:=0<=k/\k<=17/\(kw.take k.toNat).any (λw=>w.toList==s.toList)=false
def ay(z:Int)(w:List Bool)(h:Li): Bool:=decide (-720<=z/\z<=840/\w.length=7/\h.length<=40)&&(List.range (h.length-1)).all λi=>decide (h.getD i 0<h.getD (i+1) 0)
def oj(w:List Bool)(h:Li): Bool:=decide (w.length<=20)&&decide (h.length<=60)
def ux(h:Li)(k:Int): Prop:=1<=k/\(k<=h.length\/k=1)/\h.length<=40/\∀i:Nat,(i:Int)+1<k->h.getD i 0<h.getD (i+1) 0
def bS(k:Int): Int:=if k=3 then 12 else if k=4 then 40 else if k=5 then 4 else 6
def K0: Kt:=λf args m=>none
def G0: List (Nat×AV):=[(0,.ia S kw)]
def KI0: FuncId->List AV->Option jF:=λ_ _=>none
noncomputable def mkc(K:Kt): Cfg:=⟨Tryz.prog,G0,K,λ_=>false,KI0,false,λ_ _ _=>none,λ_=>false⟩
def L8(h:Li): Ann:=Z8 4 Int (ux h) (λs k=>put s [(3,.dat I k)]) λk=>Dc (Di (Df h) k)
def K1: Kt:=λf args m=>match f,args,m with
 | 161,[.agg [.dat (.int .i64) z,.dat (.sl .bool) w,.dat (.sl (.int .i64)) h]],[]=>some ⟨True,.dat .bool (ay z w h),[]⟩
 | 118,[.agg [.dat (.int .i64) z,.dat (.sl .bool) w,.dat (.sl (.int .i64)) h]],[]=>some ⟨True,.dat .bool (ay z w h),[]⟩
 | 167,[.agg [.dat (.int .i64) z,.dat (.sl .bool) w,.dat (.sl (.int .i64)) h]],[]=>some ⟨True,.dat .bool (oj w h),[]⟩
 | 283,[.dat (.int .u8) b],[]=>some ⟨True,.dat .bool (jP b),[]⟩
 | 284,[.dat (.int .u8) b],[]=>some ⟨True,.dat .bool (gk b),[]⟩
 | 297,[.dat (.int .u8) b],[]=>some ⟨True,.dat .bool (gk b),[]⟩
 | 248,[.dat (.int .i64) v,.dat (.int .i64) a,.dat (.int .i64) b],[]=>some ⟨True,.dat .bool (cL v a b),[]⟩
 | 300,[.dat (.int .i64) v,.dat (.int .i64) a,.dat (.int .i64) b],[]=>some ⟨True,.dat .bool (cL v a b),[]⟩
 | 226,[.dat (.int .i64) k],[]=>some ⟨True,.dat I (bS k),[]⟩
 | 303,[],[]=>some ⟨True,.dat (.sl S) kw,[]⟩
 | _,_,_=>none
def aB9(s:ByteArray): Ann:=⟨λb st=>match b with
 | 4=>some {α:=Int,inv:=λk=>lh s k,st:=λk=>put st [(24,.dat I k)],μ:=λk=>Dc (Di (Eo s) k)}
 | 10=>some {α:=Int,inv:=λk=>rW s k,st:=λk=>put st [(42,.dat I k)],μ:=λk=>Dc (Di 17 k)}
 | _=>none,λ_ _=>none,λ_ _=>none⟩
def aCa(s:ByteArray): Ann:=Z8 4 Int (lz s) (λb k=>put b [(16,.dat I k)]) λk=>Dc (Di (Eo s) k)
def aJF(s:ByteArray): Ann:=Z8 3 Int (rW s) (λb k=>put b [(4,.dat I k)]) λk=>Dc (Di 17 k)
def aEo(s:ByteArray): Ann:=Z8 4 Int (lh s) (λb k=>put b [(3,.dat I k)]) λk=>Dc (Di (Eo s) k)
def aEr(s:ByteArray): Ann:=Z8 4 Int (lz s) (λb k=>put b [(3,.dat I k)]) λk=>Dc (Di (Eo s) k)
def K2: Kt:=λf args m=>match f,args,m with
 | 202,[.dat (.int .i64) v],[]=>some ⟨True,.dat .bool (cL v 0 1439),[]⟩
 | 236,[.dat .str s],[]=>some ⟨True,.dat .bool (bT s),[]⟩
 | 247,[.dat .str s],[]=>some ⟨True,.dat .bool (cO s),[]⟩
 | 296,[.dat .str s],[]=>some ⟨True,.dat .bool (isKey s),[]⟩
 | _,_,_=>K1 f args m
def ua(x y:Bool): Ea x true y=(x||y):=by cases x<;>rfl
def jA(x y:Bool): Ea x y false=(x&&y):=by cases x<;>rfl
def hm: Tryz.prog.follows .mixedOrders=true:=by kernel_rfl
def KS0: ai Tryz.prog G0 K0:=λf args m c h=>by cases h
def iI: bf Tryz.prog G0 KI0:=λf args c h=>by cases h
def zE{K:Kt}{A:Ann}{f:FuncId}{args:List AV}{m:Mem}{r:jG}{p:Prop}(b:ai Tryz.prog G0 K)(h:p)(e:evF (mkc K) A f args m r=(true=true/\p):=by kernel_rfl): ah Tryz.prog G0 f args m r:=oL (c:=mkc K) b iI hm (by rw[e];exact⟨rfl,h⟩)
abbrev eO:=EO Tryz.prog G0
def VI(z:Int)(w:List Bool)(h:Li): Prop:=(-720<=z/\z<=840/\w.length=7/\h.length<=40)/\∀i:Nat,i+1<h.length->h.getD i 0<h.getD (i+1) 0
def bM{z:Int}{w:List Bool}{h:Li}: ay z w h=true↔VI z w h:=by
 unfold ay VI;rw[qC,qE,qO];refine and_congr_right λ_=>⟨λg i b=>?_,λg i b=>?_⟩
 .have:=g i (qZ.2 Z);simpa using this
 .have:=qZ.1 b;simpa using g i Z
def rx{z:Int}{w:List Bool}{h:Li}(e:¬VI z w h): false=ay z w h:=by
 cases b:ay z w h with
 | false=>rfl
 | true=>exact(e (bM.1 b)).elim
def IH{h:Li}(b:¬(h.length:Int)>40): ux h 1:=⟨qH _,.inr rfl,Z,λi e=>Z⟩
def CM{h:Li}{x:Int}(b:ux h x)(g:x<h.length)(f:h.getD (x-1).toNat 0<h.getD x.toNat 0): ux h (x+1):=by
 obtain⟨g1,g2,g3,g4⟩:=b;refine⟨Z,Z,g3,λi u=>?_⟩;by_cases e:(i:Int)+1<x
 .exact g4 i e
 .have r:(x-1).toNat=i:=by omega
  have j:x.toNat=i+1:=Z
  rwa [r,j]at f
def II{z:Int}{w:List Bool}{h:Li}{x:Int}(b:ux h x)(f:x<h.length)(g:h.getD x.toNat 0<=h.getD (x-1).toNat 0): false=ay z w h:=by
 refine rx λe=>?_
 have:=b.1;have:=e.2 (x-1).toNat Z;rw[show(x-1).toNat+1=x.toNat by omega]at this;omega
def IJ{z:Int}{w:List Bool}{h:Li}{x:Int}(b:ux h x)(e:¬x<h.length)(j:-720<=z)(g:z<=840)(f:w.length=7): true=ay z w h:=
 (bM.2 ⟨⟨j,g,f,by have:=b.2.2.1;omega⟩,λi r=>b.2.2.2 i Z⟩).symm
def J3(z:Int)(w:List Bool)(h:Li): ah Tryz.prog G0 161 [cal z w h] [] ⟨True,.dat .bool (ay z w h),[]⟩:=by
 refine zE (A:=(lvA [(4,[1,2,3])] (L8 h))) (p:=let r:=Dp z (-720);let e:=Dj r;let u:=Ea r true (Ei z 840);let f:=Dj u;let v:=Ea u true (Dw (Df w) 7);let j:=Dj v;let A:=Ea v true (Ei (Df h) 40);let i:=(z,w,h);(True->Q2 e ((Dh true e->e)/\Q4 f ((Dh true f->f)/\Q4 j ((Dh true j->j)/\(A->false=ay z w h/\True)/\(A=false->(∃x,ux h x/\i=i/\1=x/\True)/\∀(x:Int),let G:=Dp x (Df h);let b:=x-1;let g:=Ee (Du h (Dc x) 0) (Du h (Dc b) 0);let L:=x+1;ux h x->(G->0<=x/\x<Df h/\inR .i64 b/\0<=b/\b<Df h/\(g->false=ay z w h/\True)/\(g=false->inR .i64 L/\∃y,ux h y/\(i=i/\L=y/\True)/\Dc (Df h-y)<Dc (Df h-x)))/\(G=false->true=ay z w h/\True))))))) KS0 λ_=>?_
 refine Z9 ?_;refine⟨λT=>rx λG=>?_,λ⟨⟨⟨h1,X⟩,V⟩,L⟩=>⟨IH L,λx f=>⟨λe=>?_,λr=>IJ f r Z Z Z⟩⟩⟩
 .obtain⟨⟨g1,g2,g3,g4⟩,_⟩:=G;omega
 .have v:=f.1;have u:=f.2.2.1;refine⟨Z,e,⟨Z,Z⟩,Z,Z,λj=>II f e j,λO=>⟨⟨Z,Z⟩,x+1,CM f e Z,rfl,Z⟩⟩
def Xm(z:Int)(w:List Bool)(h:Li): ah Tryz.prog G0 118 [cal z w h] [] ⟨True,.dat .bool (ay z w h),[]⟩:=by
 refine zE (A:=(lvA [(4,[1,2,3])] (L8 h))) (p:=let r:=Dp z (-720);let e:=Dj r;let u:=Ea r true (Ei z 840);let f:=Dj u;let v:=Ea u true (Dw (Df w) 7);let j:=Dj v;let A:=Ea v true (Ei (Df h) 40);let i:=(z,w,h);(True->Q2 e ((Dh true e->e)/\Q4 f ((Dh true f->f)/\Q4 j ((Dh true j->j)/\(A->false=ay z w h/\True)/\(A=false->(∃x,ux h x/\i=i/\1=x/\True)/\∀(x:Int),let G:=Dp x (Df h);let b:=x-1;let g:=Ed (Du h (Dc b) 0) (Du h (Dc x) 0);let L:=x+1;ux h x->(G->inR .i64 b/\0<=b/\b<Df h/\0<=x/\x<Df h/\(g->false=ay z w h/\True)/\(g=false->inR .i64 L/\∃y,ux h y/\(i=i/\L=y/\True)/\Dc (Df h-y)<Dc (Df h-x)))/\(G=false->true=ay z w h/\True))))))) KS0 λ_=>?_
 refine Z9 ?_;refine⟨λT=>rx λG=>?_,λ⟨⟨⟨h1,X⟩,V⟩,L⟩=>⟨IH L,λx f=>⟨λe=>?_,λr=>IJ f r Z Z Z⟩⟩⟩
 .obtain⟨⟨g1,g2,g3,g4⟩,_⟩:=G;omega
 .have v:=f.1;have u:=f.2.2.1;refine⟨⟨Z,Z⟩,Z,Z,Z,e,λj=>II f e j,λO=>⟨⟨Z,Z⟩,x+1,CM f e Z,rfl,Z⟩⟩
def aBt(z:Int)(w:List Bool)(h:Li): ah Tryz.prog G0 167 [cal z w h] [] ⟨True,.dat .bool (oj w h),[]⟩:=by
 refine zE (A:=az) (p:=let b:=Ee (Df w) 20;(True->Q4 b ((Dh true b->b)/\Ea b (Ee (Df h) 60) false=oj w h/\True))) KS0 λ_=>?_
 simp only[qc,Dh,Eu,Dj,oj,Ee,Df]
 congr 1<;>congr 1<;>exact propext Z
def nw(p q:Prop)[Decidable p][Decidable q]: (decide p&&decide q)=decide (p/\q):=by by_cases e:p<;>by_cases b:q<;>simp[e,b]
def SI(b:Int): ah Tryz.prog G0 283 [.dat U b] [] ⟨True,.dat .bool (jP b),[]⟩:=by
 refine zE (A:=az) (p:=let e:=Ed b 97;(True->L4 e ((Dh true e->e)/\Ea e (Ee b 122) false=jP b/\True))) KS0 λ_=>?_
 simp only[qc,Dh,Eu,Dj,jP,Ed,Ee,nw,kM]
def SJ(b:Int): ah Tryz.prog G0 284 [.dat U b] [] ⟨True,.dat .bool (gk b),[]⟩:=by
 refine zE (A:=az) (p:=let e:=Ed b 48;(True->L4 e ((Dh true e->e)/\Ea e (Ee b 57) false=gk b/\True))) KS0 λ_=>?_
 simp only[qc,Dh,Eu,Dj,gk,Ed,Ee,nw,kM]
def aBy(b:Int): ah Tryz.prog G0 297 [.dat U b] [] ⟨True,.dat .bool (gk b),[]⟩:=by
 refine zE (A:=az) (p:=let e:=Ed b 48;(True->L4 e ((Dh true e->e)/\Ea e (Ee b 57) false=gk b/\True))) KS0 λ_=>?_
 simp only[qc,Dh,Eu,Dj,gk,Ed,Ee,nw,kM]
def Xo(v a b:Int): ah Tryz.prog G0 248 [.dat I v,.dat I a,.dat I b] [] ⟨True,.dat .bool (cL v a b),[]⟩:=by
 refine zE (A:=az) (p:=let e:=Ed v a;(True->Q2 e ((Dh true e->Ed v a)/\Ea e (Ee v b) false=cL v a b/\True))) KS0 λ_=>?_
 simp only[qc,Dh,Eu,Dj,cL,Ed,Ee,nw,kM]
def SN(v a b:Int): ah Tryz.prog G0 300 [.dat I v,.dat I a,.dat I b] [] ⟨True,.dat .bool (cL v a b),[]⟩:=by
 refine zE (A:=az) (p:=let e:=Ed v a;(True->Q2 e ((Dh true e->Ed v a)/\Ea e (Ee v b) false=cL v a b/\True))) KS0 λ_=>?_
 simp only[qc,Dh,Eu,Dj,cL,Ed,Ee,nw,kM]
def aBv(k:Int): ah Tryz.prog G0 226 [.dat I k] [] ⟨True,.dat I (bS k),[]⟩:=by
 refine zE (A:=az) (p:=let b:=Ec k 3;let e:=Ec k 4;let f:=Ec k 5;(True->(b->12=bS k/\True)/\(b=false->(e->40=bS k/\True)/\(e=false->(f->4=bS k/\True)/\(f=false->6=bS k/\True))))) KS0 λ_=>?_
 refine Z9 ?_;simp only[qc,bS];refine⟨λh=>by rw[if_pos h],λb=>⟨λh=>by rw[if_neg b,if_pos h],λe=>⟨λh=>by rw[if_neg b,if_neg e,if_pos h],λh=>by rw[if_neg b,if_neg e,if_neg h]⟩⟩⟩
def aD5: ah Tryz.prog G0 303 [] [] ⟨True,.dat (.sl S) kw,[]⟩:=
 zE (A:=az) (p:=(True->[ByteArray.mk #[(99:UInt8),(97:UInt8),(108:UInt8),(101:UInt8),(110:UInt8),(100:UInt8),(97:UInt8),(114:UInt8)],ByteArray.mk #[(111:UInt8),(112:UInt8),(101:UInt8),(114:UInt8),(97:UInt8),(116:UInt8),(111:UInt8),(114:UInt8)],ByteArray.mk #[(111:UInt8),(102:UInt8),(102:UInt8),(105:UInt8),(99:UInt8),(101:UInt8)],ByteArray.mk #[(108:UInt8),(105:UInt8),(110:UInt8),(101:UInt8)],ByteArray.mk #[(99:UInt8),(108:UInt8),(97:UInt8),(115:UInt8),(115:UInt8)],ByteArray.mk #[(122:UInt8),(111:UInt8),(110:UInt8),(101:UInt8)],ByteArray.mk #[(119:UInt8),(101:UInt8),(101:UInt8),(107:UInt8)],ByteArray.mk #[(104:UInt8),(111:UInt8),(108:UInt8),(105:UInt8),(100:UInt8),(97:UInt8),(121:UInt8)],ByteArray.mk #[(112:UInt8),(111:UInt8),(99:UInt8),(107:UInt8),(101:UInt8),(116:UInt8),(115:UInt8)],ByteArray.mk #[(112:UInt8),(97:UInt8),(115:UInt8),(115:UInt8),(101:UInt8),(115:UInt8)],ByteArray.mk #[(109:UInt8),(105:UInt8),(110:UInt8),(117:UInt8),(116:UInt8),(101:UInt8),(115:UInt8)],ByteArray.mk #[(99:UInt8),(111:UInt8),(100:UInt8),(101:UInt8),(115:UInt8)],ByteArray.mk #[(97:UInt8),(116:UInt8)],ByteArray.mk #[(116:UInt8),(114:UInt8),(97:UInt8),(118:UInt8),(101:UInt8),(108:UInt8)],ByteArray.mk #[(108:UInt8),(111:UInt8),(97:UInt8),(100:UInt8)],ByteArray.mk #[(99:UInt8),(117:UInt8),(116:UInt8)],ByteArray.mk #[(100:UInt8),(101:UInt8),(108:UInt8),(105:UInt8),(118:UInt8),(101:UInt8),(114:UInt8)]]=kw/\True)) KS0 λ_=>⟨rfl,trivial⟩
def KS1: ai Tryz.prog G0 K1:=by
 intro f args m c h;unfold K1 at h;split at h
 .cases h;exact J3 _ _ _
 .cases h;exact Xm _ _ _
 .cases h;exact aBt _ _ _
 .cases h;exact SI _
 .cases h;exact SJ _
 .cases h;exact aBy _
 .cases h;exact Xo _ _ _
 .cases h;exact SN _ _ _
 .cases h;exact aBv _
 .cases h;exact aD5
 .cases h
def QC(s:ByteArray)(i:Nat): (Fp s).getD i 0=((s.data.getD i 0).toNat:Int):=by
 show(List.map (λb:UInt8=>(b.toNat:Int)) s.data.toList).getD i 0=_;rw[qA,qR,yM,qQ];cases s.data[i]?<;>rfl
def Jd(s:ByteArray)(x:Int): (Fp s).getD x.toNat 0=Fv s x:=QC s x.toNat
def ub(s:ByteArray): (Fp s).length=s.size:=by
 show(List.map _ s.data.toList).length=s.data.size;rw[qY,vP]
def nQ(s:ByteArray): s.data.toList.length=s.size:=vP
def dj{α:Type}{l:List α}{p:α->Bool}{d:α}{k:Nat}(h:(l.take k).all p=true)(e:k<l.length)(b:p (l.getD k d)=true): (l.take (k+1)).all p=true:=by
 rw[wU,qB e,gZ,h];rw[qA,qB e]at b;simpa using b
def jE{α:Type}{l:List α}{p:α->Bool}{d:α}{k:Nat}(e:k<l.length)(b:p (l.getD k d)=false): l.all p=false:=by
 rw[qA,qB e]at b;rw[qDa];exact⟨l[k],wL e,by simpa using b⟩
def iA{α:Type}{l:List α}{p:α->Bool}{d:α}{k:Nat}(e:k<l.length)(b:p (l.getD k d)=true): l.any p=true:=by
 rw[qA,qB e]at b;exact xR.2 ⟨l[k],wL e,by simpa using b⟩
def C5{α:Type}{l:List α}{p:α->Bool}{d:α}{k:Nat}(h:(l.take k).any p=false)(e:k<l.length)(b:p (l.getD k d)=false): (l.take (k+1)).any p=false:=by
 rw[wU,qB e,qBa,h];rw[qA,qB e]at b;simpa using b
def qD(s:ByteArray)(i:Nat): s.data.toList.getD i 0=s.data.getD i 0:=by
 rw[qA,yM,qQ]
def wu(s:ByteArray): lh s 0:=⟨qH _,qM _,by simp⟩
def zb(s:ByteArray): lz s 0:=⟨qH _,qM _,by simp⟩
def CH(s:ByteArray): rW s 0:=⟨qH _,by decide,by simp⟩
def wv{s:ByteArray}{x:Int}(h:lh s x)(f:x<s.size)(b:nameB (Fv s x)=true): lh s (x+1):=by
 obtain⟨i,g,e⟩:=h;refine⟨Z,Z,?_⟩;rw[show(x+1).toNat=x.toNat+1 by omega];exact dj (d:=0) e (by rw[nQ];omega) (by rw[qD];exact b)
def zc{s:ByteArray}{x:Int}(h:lz s x)(f:x<s.size)(b:ze (Fv s x)=true): lz s (x+1):=by
 obtain⟨i,g,e⟩:=h;refine⟨Z,Z,?_⟩;rw[show(x+1).toNat=x.toNat+1 by omega];exact dj (d:=0) e (by rw[nQ];omega) (by rw[qD];exact b)
def Bi{s:ByteArray}{x:Int}(h:lh s x)(f:¬x<s.size): (s.data.toList.all λb=>nameB (b.toNat:Int))=true:=by
 obtain⟨i,g,e⟩:=h
 rwa [qN (by rw[nQ];omega)]at e
def CU{s:ByteArray}{x:Int}(h:lz s x)(f:¬x<s.size): (s.data.toList.all λb=>ze (b.toNat:Int))=true:=by
 obtain⟨i,g,e⟩:=h
 rwa [qN (by rw[nQ];omega)]at e
def Nk{s:ByteArray}{x:Int}(h:lh s x)(f:x<s.size)(e:nameB (Fv s x)=false): (s.data.toList.all λb=>nameB (b.toNat:Int))=false:=
 jE (d:=0) (k:=x.toNat) (by rw[nQ];have:=h.1;omega) (by rw[qD];exact e)
def Oy{s:ByteArray}{x:Int}(h:lz s x)(f:x<s.size)(e:ze (Fv s x)=false): (s.data.toList.all λb=>ze (b.toNat:Int))=false:=
 jE (d:=0) (k:=x.toNat) (by rw[nQ];have:=h.1;omega) (by rw[qD];exact e)
def CJ{s:ByteArray}{x:Int}(h:rW s x)(g:x<17)(b:s.toList≠(kw.getD x.toNat ⟨#[]⟩).toList): rW s (x+1):=by
 obtain⟨j,i,f⟩:=h;refine⟨Z,Z,?_⟩;rw[show(x+1).toNat=x.toNat+1 by omega];exact C5 (d:=⟨#[]⟩) f (by show x.toNat<17;omega) (by simpa using λe=>b e.symm)
def ZV{s:ByteArray}{x:Int}(h:rW s x)(e:x<17)(b:s.toList=(kw.getD x.toNat ⟨#[]⟩).toList): isKey s=true:=
 iA (d:=⟨#[]⟩) (k:=x.toNat) (by have:=h.1;show x.toNat<17;omega) (by simpa using b.symm)
def IB{s:ByteArray}{x:Int}(h:rW s x)(e:¬x<17): isKey s=false:=by
 obtain⟨g,f,b⟩:=h;have:x=17:=Z;subst this;exact b
def wt{s:ByteArray}(h:bT s=true->False): false=bT s:=by
 cases e:bT s with
 | false=>rfl
 | true=>exact(h e).elim
def FM{s:ByteArray}(h:cO s=true->False): false=cO s:=by
 cases e:cO s with
 | false=>rfl
 | true=>exact(h e).elim
def fV{s:ByteArray}: bT s=true↔(1<=s.size/\s.size<=16)/\jP (Fv s 0)=true/\(s.data.toList.all λb=>nameB (b.toNat:Int))=true/\isKey s=false:=by
 unfold bT;simp only[qC,qE,zY,qCh];exact Iff.rfl
def iC{s:ByteArray}: cO s=true↔(1<=s.size/\s.size<=8)/\(s.data.toList.all λb=>ze (b.toNat:Int))=true:=by
 unfold cO;simp only[qC,qE]
def wx{b:Int}(g:jP b=false)(f:gk b=false)(e:b≠95): nameB b=false:=by simp[nameB,g,f,e]
def Po(v:Int): ah Tryz.prog G0 202 [.dat I v] [] ⟨True,.dat .bool (cL v 0 1439),[]⟩:=
 zE (A:=az) (p:=let b:=cL v 0 1439;(True->True/\T3 b)) KS1 λ_=>⟨trivial,rfl,trivial⟩
def Nl{b:Int}(h:jP b=false->gk b=false->b=95): nameB b=true:=by
 unfold nameB;cases f:jP b with
 | true=>rfl
 | false=>cases e:gk b with
  | true=>rfl
  | false=>simpa using h f e
def Oz{b:Int}(h:gk b=false->65<=b/\b<=90): ze b=true:=by
 unfold ze;cases e:gk b with
 | true=>rfl
 | false=>simpa using h e
def zd{b:Int}(e:gk b=false)(f:b<65\/b>90): ze b=false:=by
 unfold ze;rw[e];simp;omega
def JY{b:Int}(f:¬b<97)(e:¬b>122): jP b=true:=qW Z
def G1{b:Int}(h:b<97\/b>122): jP b=false:=vC Z
def Xn(s:ByteArray): ah Tryz.prog G0 236 [.dat S s] [] ⟨True,.dat .bool (bT s),[]⟩:=by
 refine zE (A:=(lvA [(4,[0,2,4,6,22,23,24,41,42]),(10,[0,2,6,41,42])] (aB9 s))) (p:=let e:=Fp s;let j:=Dp (Eo s) 1;let g:=Dj j;let v:=Ea j true (Ei (Eo s) 16);let b:=Dj v;let z:=Ea v true (Dj (jP (Fv s 0)));(True->Q2 g ((Dh true g->g)/\L4 b ((b->Dl 0 0)/\(b->0<Eo s)/\L4 b ((b->True)/\L4 b ((Dh true b->b)/\(z->false=bT s/\True)/\(z=false->(∃x,lh s x/\L7 s (Fp s) (Df e) (0=x/\True))/\∀(x:Int),let A:=Dp x (Df e);let h:=Du e (Dc x) 0;let i:=Dj (jP h);let f:=Ea i (Dj (gk h)) false;let u:=Ea f (Dw h 95) false;let r:=x+1;lh s x->(A->0<=x/\x<Df e/\True/\L4 i ((i->True)/\L4 i ((Dh true i->i)/\L4 f ((Dh true f->f)/\(u->false=bT s/\True)/\(u=false->inR .i64 r/\∃y,lh s y/\(L7 s (Fp s) (Df e) (r=y/\True))/\Dc (Eo s-y)<Dc (Eo s-x))))))/\(A=false->Dk kw=17/\(∃x,rW s x/\L5 s kw (0=x/\True))/\∀(x:Int),let G:=Dp x 17;let L:=Fz s (Du kw (Dc x) (ByteArray.mk #[]));let O:=x+1;rW s x->(G->0<=x/\x<Dz 17/\Dk kw=17/\(L->false=bT s/\True)/\(L=false->inR .i64 O/\∃y,rW s y/\(L5 s kw (O=y/\True))/\Dc (17-y)<Dc (17-x)))/\(G=false->true=bT s/\True))))))))) KS1 λ_=>?_
 refine Z9 ?_;simp only[qc,Jd,ub];refine⟨λ_=>qH _,λh=>Z,λh=>wt λg=>?_,λ⟨⟨h1,h2⟩,V⟩=>⟨wu s,λx f=>⟨λb=>?_,λz=>?_⟩⟩⟩
 .rw[fV]at g;rcases h with h | h
  .omega
  .rw[g.2.1]at h;cases h
 .refine⟨f.1,b,λ⟨⟨b1,b2⟩,X⟩=>wt λg=>?_,λT=>⟨⟨by have:=f.1;omega,Z⟩,x+1,wv f b (Nl λL G=>T ⟨L,G⟩),rfl,by have:=f.1;omega⟩⟩;have:=Nk f b (wx b1 b2 X);rw[(fV.1 g).2.2.1]at this;cases this
 .refine⟨rfl,CH s,λy e=>⟨λb=>⟨e.1,Z,rfl,λO=>wt λg=>?_,λv=>⟨⟨by have:=e.1;omega,Z⟩,y+1,CJ e b v,rfl,by have:=e.1;omega⟩⟩,λj=>(fV.2 ⟨Z,V,Bi f z,IB e j⟩).symm⟩⟩;have:=ZV e b O;rw[(fV.1 g).2.2.2]at this;cases this
def Xp(s:ByteArray): ah Tryz.prog G0 247 [.dat S s] [] ⟨True,.dat .bool (cO s),[]⟩:=by
 refine zE (A:=(lvA [(4,[2,4,14,15,16])] (aCa s))) (p:=let b:=Fp s;let i:=Dp (Eo s) 1;let g:=Dj i;let r:=Ea i true (Ei (Eo s) 8);(True->Q2 g ((Dh true g->g)/\(r->false=cO s/\True)/\(r=false->(∃x,lz s x/\L5 (Fp s) (Df b) (0=x/\True))/\∀(x:Int),let u:=Dp x (Df b);let h:=Du b (Dc x) 0;let e:=Dj (gk h);let f:=Dp h 65;let j:=Ea e (Ea f true (Ei h 90)) false;let v:=x+1;lz s x->(u->0<=x/\x<Df b/\True/\Q2 e (L4 (Dh e (Dj f)) (L4 e ((e->Dh e (Dj f)->Dh e (Dj f))/\(Dh true e->e)/\(j->false=cO s/\True)/\(j=false->inR .i64 v/\∃y,lz s y/\(L5 (Fp s) (Df b) (v=y/\True))/\Dc (Eo s-y)<Dc (Eo s-x))))))/\(u=false->true=cO s/\True))))) KS1 λ_=>?_
 refine Z9 ?_;simp only[qc,Jd,ub];refine⟨λh=>FM λg=>by rw[iC]at g;omega,λ⟨L,G⟩=>⟨zb s,λx f=>⟨λe=>?_,λi=>(iC.2 ⟨Z,CU f i⟩).symm⟩⟩⟩;refine⟨f.1,e,λ⟨z,v⟩=>FM λg=>?_,λu=>⟨⟨by have:=f.1;omega,Z⟩,x+1,zc f e (Oz λr=>by have:=u r;omega),rfl,by have:=f.1;omega⟩⟩;have:=Oy f e (zd z v);rw[(iC.1 g).2]at this;cases this
def aHi(s:ByteArray): ah Tryz.prog G0 296 [.dat S s] [] ⟨True,.dat .bool (isKey s),[]⟩:=by
 refine zE (A:=(lvA [(3,[0,2,3,4])] (aJF s))) (p:=(True->True/\(∃x,rW s x/\L5 s kw (0=x/\True))/\∀(x:Int),let b:=Dp x (Df kw);let e:=Fz (Du kw (Dc x) (ByteArray.mk #[])) s;let f:=x+1;rW s x->(b->0<=x/\x<Df kw/\(e->true=isKey s/\True)/\(e=false->inR IntKind.i64 f/\∃y,rW s y/\(L5 s kw (f=y/\True))/\Dc (17-y)<Dc (17-x)))/\(b=false->false=isKey s/\True))) KS1 λ_=>?_
 refine Z9 ?_;have j:(kw.length:Int)=17:=rfl;refine⟨CH s,λy b=>⟨λg=>⟨b.1,g,λi=>(ZV b Z i.symm).symm,λf=>⟨⟨by have:=b.1;omega,Z⟩,y+1,CJ b Z (λe=>f e.symm),rfl,by have:=b.1;omega⟩⟩,λh=>(IB b Z).symm⟩⟩
def KS2: ai Tryz.prog G0 K2:=by
 intro f args m c h;unfold K2 at h;split at h
 .cases h;exact Po _
 .cases h;exact Xn _
 .cases h;exact Xp _
 .cases h;exact aHi _
 .exact KS1 _ _ _ _ h
abbrev Iz:=al [.val S] (λ_=>True) λ(s,_)=>.dat .bool (bT s)
def aEc: eO 278 Iz:=ae λ((s:ByteArray),_)=>by
 refine zE (A:=(lvA [(4,[0,2,3])] (aEo s))) (p:=let f:=Eo s;let G:=Dp f 1;let A:=Dj G;let L:=Ea G true (Ei f 16);let g:=Dj L;let O:=Fv s 0;let T:=Ea L true (Dp O 97);let h:=Dj T;let v:=Ea T true (Ei O 122);let z:=Dj v;let r:=Ea v true (isKey s);(True->Q2 A ((Dh true A->A)/\L4 g ((g->Dl 0 0)/\(g->0<Eo s)/\L4 g ((Dh true g->g)/\L4 h ((h->Dl 0 0)/\(h->0<Eo s)/\L4 h ((Dh true h->h)/\L4 z ((z->True)/\(Dh true z->z)/\(r->false=bT s/\True)/\(r=false->(∃x,lh s x/\s=s/\0=x/\True)/\∀(x:Int),let j:=Dp (Fv s x) 97;let u:=Dj j;let b:=Ea j true (Ei (Fv s x) 122);let e:=Ea b (Dj (gk (Fv s x))) false;let V:=Ea e (Dw (Fv s x) 95) false;let i:=x+1;lh s x->(Dp x f->0<=x/\x<Eo s/\Q2 u ((u->0<=x)/\(u->x<Eo s)/\L4 u ((Dh true u->u)/\Q2 b ((b->0<=x)/\(b->x<Eo s)/\L4 b ((b->True)/\L4 b ((Dh true b->b)/\Q2 e ((e->0<=x)/\(e->x<Eo s)/\L4 e ((Dh true e->e)/\(V->false=bT s/\True)/\(V=false->inR .i64 i/\∃y,lh s y/\(s=s/\i=y/\True)/\Dc (Eo s-y)<Dc (Eo s-x))))))))))/\(Dp x f=false->true=bT s/\True)))))))))) KS2 λ_=>?_
 refine Z9 ?_;refine⟨λ_=>qH _,λh=>Z,λ_=>qH _,λh=>Z,λh=>wt λg=>?_,λ⟨⟨⟨⟨h1,h2⟩,V⟩,T⟩,O⟩=>⟨wu s,λx e=>⟨λb=>?_,λu=>(fV.2 ⟨Z,JY V T,Bi e u,O⟩).symm⟩⟩⟩
 .obtain⟨g1,g2,g3,g4⟩:=fV.1 g;have X:=vN g2;rcases h with h | h
  .omega
  .rw[g4]at h;cases h
 .refine⟨e.1,b,λ_=>e.1,λ_=>b,λ_=>e.1,λ_=>b,λ_=>e.1,λ_=>b,λ⟨⟨b1,b2⟩,b3⟩=>wt λg=>?_,λL=>⟨⟨by have:=e.1;omega,Z⟩,x+1,wv e b (Nl λG z=>L ⟨?_,z⟩),rfl,by have:=e.1;omega⟩⟩
  .have:=Nk e b (wx (G1 b1) b2 b3);rw[(fV.1 g).2.2.1]at this;cases this
  .have:=xJ G;omega
abbrev IA:=al [.val S] (λ_=>True) λ(s,_)=>.dat .bool (cO s)
def aEd: eO 304 IA:=ae λ((s:ByteArray),_)=>by
 refine zE (A:=(lvA [(4,[0,2,3])] (aEr s))) (p:=let f:=Eo s;let h:=Dp f 1;let g:=Dj h;let j:=Ea h true (Ei f 8);(True->Q2 g ((Dh true g->g)/\(j->false=cO s/\True)/\(j=false->(∃x,lz s x/\s=s/\0=x/\True)/\∀(x:Int),let r:=Dp (Fv s x) 65;let e:=Dj r;let b:=Ea r true (Ei (Fv s x) 90);let u:=Ea b (Dj (gk (Fv s x))) false;let i:=x+1;lz s x->(Dp x f->0<=x/\x<Eo s/\Q2 e ((e->0<=x)/\(e->x<Eo s)/\L4 e ((Dh true e->e)/\Q2 b ((b->0<=x)/\(b->x<Eo s)/\L4 b ((b->True)/\L4 b ((Dh true b->b)/\(u->false=cO s/\True)/\(u=false->inR .i64 i/\∃y,lz s y/\(s=s/\i=y/\True)/\Dc (Eo s-y)<Dc (Eo s-x))))))))/\(Dp x f=false->true=cO s/\True))))) KS2 λ_=>?_
 refine Z9 ?_;refine⟨λh=>FM λg=>by rw[iC]at g;omega,λ⟨L,G⟩=>⟨zb s,λx e=>⟨λb=>?_,λf=>(iC.2 ⟨Z,CU e f⟩).symm⟩⟩⟩;refine⟨e.1,b,λ_=>e.1,λ_=>b,λ_=>e.1,λ_=>b,λ⟨z,v⟩=>FM λg=>?_,λu=>⟨⟨by have:=e.1;omega,Z⟩,x+1,zc e b (Oz λj=>?_),rfl,by have:=e.1;omega⟩⟩
 .have:=Oy e b (zd v z);rw[(iC.1 g).2]at this;cases this
 .by_cases r:Fv s x<65\/Fv s x>90
  .have:=u r;rw[j]at this;cases this
  .omega
abbrev Of: Ty:=.pair S (.pair I (.pair I (.pair I (.pair I (.pair I (.sl S))))))
abbrev Ln: Ty:=.pair S (.pair I (.pair I (.pair I (.pair I I))))
abbrev Kl: Ty:=.pair S (.pair I I)
abbrev Fa: Ty:=.pair I (.pair I I)
abbrev N: Ty:=.pair (.sl C) (.pair (.sl S) (.pair (.sl S) (.pair (.sl Of) (.pair (.sl Ln) (.sl Kl)))))
abbrev Off:=ByteArray×Int×Int×Int×Int×Int×List ByteArray
abbrev Lo:=List Off
abbrev Cla:=ByteArray×Int×Int
abbrev Lk:=List Cla
abbrev Net:=List (Int×List Bool×Li)×List ByteArray×List ByteArray×Lo×Ll×Lk
abbrev net(i:LC)(e b:LB)(h:Lo)(f:Ll)(g:Lk): AV:=.agg [.dat (.sl C) i,.dat (.sl S) e,.dat (.sl S) b,.dat (.sl Of) h,.dat (.sl Ln) f,.dat (.sl Kl) g]
def du(i n:Int): Bool:=decide (0<=i/\i<n)
def idx(i n:Int): Prop:=0<=i/\i<n
def JE(i n:Int): Prop:=0<=i/\i<n/\i<=1000
def iF(l:List ByteArray)(k:Int): Prop:=0<=k/\k<=l.length/\(l.take k.toNat).all cO=true
def cU(n:Net)(o:Off): Bool:=du o.2.1 n.2.2.1.length&&du o.2.2.1 n.1.length&&decide (o.2.2.2.2.2.2.length<=20)&&o.2.2.2.2.2.2.all cO&&cL o.2.2.2.1 2 64&&cL o.2.2.2.2.1 1 4&&cL o.2.2.2.2.2.1 1 240
def dG(n:Net)(l:Line): Bool:=du l.2.1 n.2.2.2.1.length&&du l.2.2.1 n.2.2.2.1.length&&decide (l.2.1≠l.2.2.1)&&cL l.2.2.2.1 0 1439&&cL l.2.2.2.2.1 1 5000&&cL l.2.2.2.2.2 1 40
def kp(k:Cla): Bool:=cL k.2.1 0 1439&&cL k.2.2 0 1439
def aK(e:List (Int×List Bool×Li))(b:List ByteArray): List ByteArray:=(List.range e.length).map λi=>b.getD i ⟨#[]⟩
def aM(b:Lo): List ByteArray:=b.map (·.1)
def aN(b:Ll): List ByteArray:=b.map (·.1)
def aO(b:Lk): List ByteArray:=b.map (·.1)
def bH(b:List (Int×List Bool×Li)): List Bool:=b.map λc=>ay c.1 c.2.1 c.2.2
def cN(b:List ByteArray): List Bool:=b.map λ_=>true
def fy(n:Net): List Bool:=n.2.2.2.1.map (cU n)
def d5(n:Net): List Bool:=n.2.2.2.2.1.map (dG n)
def bP(b:Lk): List Bool:=b.map kp
def kq(l:List ByteArray)(i:Int): ByteArray:=l.getD i.toNat ⟨#[]⟩
def bY(l:List ByteArray)(i:Int): Int:=if bT (kq l i)then 0 else 1
def rule2(l:List ByteArray)(i:Int): Int:=if(l.take i.toNat).any (λw=>w.toList==(kq l i).toList)then 4 else 0
def cB(g:List Bool)(i:Int): Int:=if g.getD i.toNat false then 0 else 1
def uj(l:List ByteArray)(i k:Int): Prop:=0<=k/\k<=i/\(l.take k.toNat).any (λw=>w.toList==(kq l i).toList)=false
def cE(l:List ByteArray)(g:List Bool)(i k:Int): Prop:=0<=k/\k<=3/\(0<k->bY l i=0)/\(1<k->rule2 l i=0)/\(2<k->cB g i=0)
def oz(l:List ByteArray)(g:List Bool)(i:Int): Int:=if bY l i≠0 then bY l i else if rule2 l i≠0 then rule2 l i else cB g i
def aY(b:Int)(l:List ByteArray)(g:List Bool)(k:Int): List (Int×Int×Int):=(List.range k.toNat).filterMap λi:Nat=>if oz l g i=0 then none else some (b,(i:Int),oz l g i)
def HB(e b:Int)(l:List ByteArray): List (Int×Int×Int):=if b<l.length then[(e,b,2)]else[]
def bQ(b e:Int)(l:List ByteArray)(g:List Bool): List (Int×Int×Int):=aY b l g (min l.length e)++HB b e l
def dP(k n b:Int): Prop:=0<=k/\k<=n/\k<=b
def EU(n:Net): List (Int×Int×Int):=if n.2.1.length=n.1.length then[]else[(1,-1,1)]
def aj(n:Net)(k:Int): List ByteArray:=if k=1 then aK n.1 n.2.1 else if k=2 then n.2.2.1 else if k=3 then aM n.2.2.2.1 else if k=4 then aN n.2.2.2.2.1 else if k=5 then aO n.2.2.2.2.2 else[]
def gj(n:Net)(k:Int): List Bool:=if k=1 then bH n.1 else if k=2 then cN n.2.2.1 else if k=3 then fy n else if k=4 then d5 n else if k=5 then bP n.2.2.2.2.2 else[]
def aG(n:Net)(k:Int): List (Int×Int×Int):=EU n++(List.range (k.toNat-1)).flatMap λj:Nat=>bQ (j+1) (bS (j+1)) (aj n (j+1)) (gj n (j+1))
def di(n:Net): List (Int×Int×Int):=aG n 6
def iZ(n:Net): Bool:=decide (n.1.length<=10/\n.2.1.length<=10/\n.2.2.1.length<=10/\n.2.2.2.1.length<=16/\n.2.2.2.2.1.length<=50/\n.2.2.2.2.2.length<=8)
def Kx(n:Net)(o:Off): Prop:=iZ n=true/\o.2.2.2.2.2.2.length<=30
abbrev BX:=al [.val I,.val (.sl Of)] (λ_=>True) λ(i,b,_)=>.dat .bool (du i (Df b))
abbrev Ik:=al [.val I,.val (.sl S)] (λ_=>True) λ(i,b,_)=>.dat .bool (du i (Df b))
abbrev Il:=al [.val I,.val (.sl C)] (λ_=>True) λ(i,b,_)=>.dat .bool (du i (Df b))
def K3: Kt:=kOr 252 BX <|
 kOr 245 Ik <|
 kOr 246 Il <|
 kOr 278 Iz <|
 kOr 304 IA K2
def aFb(l:List ByteArray): Ann:=Z8 4 Int (iF l) (λb k=>put b [(30,.dat I k)]) λk=>Dc (Di (Df l) k)
def aHo(l:List ByteArray): Ann:=Z8 2 Int (iF l) (λb k=>put b [(5,.dat I k)]) λk=>Dc (Di (Df l) k)
abbrev mY:=al [.row N,.row Of] (λ_=>True) λ(n,o,_)=>.dat .bool (cU n o)
abbrev qn:=al [.row N,.row Ln] (λ_=>True) λ(n,l,_)=>.dat .bool (dG n l)
abbrev xx:=al [.row N,.row Of] (λ(n,o,_)=>Kx n o) λ(n,o,_)=>.dat .bool (cU n o)
abbrev Ii:=al [.row N,.row Ln] (λ(n,_,_)=>iZ n=true) λ(n,l,_)=>.dat .bool (dG n l)
def K4: Kt:=kOr 194 mY <|
 kOr 198 qn <|
 kOr 298 xx <|
 kOr 299 Ii K3
abbrev NR:=al [.val I,.ptr N] (λ(i,(b,e,f,j,g,h),_)=>idx i (Df b)) λ(i,(b,e,f,j,g,h),_)=>.dat S (kq (aK b e) i)
abbrev NQ:=al [.val I,.ptr N] (λ(i,(j,e,b,h,f,g),_)=>idx i (Df b)) λ(i,(j,e,b,h,f,g),_)=>.dat S (kq (b) i)
abbrev N4:=al [.row S] (λ_=>True) λ_=>.dat .bool true
abbrev NP:=al [.val I,.ptr N] (λ(i,(j,f,e,b,g,h),_)=>idx i (Df b)) λ(i,(j,f,e,b,g,h),_)=>.dat S (kq (aM b) i)
abbrev N3:=al [.row Of,.ptr N] (λ_=>True) λ(o,n,_)=>.dat .bool (cU n o)
abbrev NN:=al [.val I,.ptr N] (λ(i,(j,f,e,h,b,g),_)=>idx i (Df b)) λ(i,(j,f,e,h,b,g),_)=>.dat S (kq (aN b) i)
abbrev N2:=al [.row Ln,.ptr N] (λ_=>True) λ(l,n,_)=>.dat .bool (dG n l)
abbrev NM:=al [.val I,.ptr N] (λ(i,(j,f,e,h,g,b),_)=>idx i (Df b)) λ(i,(j,f,e,h,g,b),_)=>.dat S (kq (aO b) i)
abbrev NZ:=al [.row Kl] (λ_=>True) λ(k,_)=>.dat .bool (kp k)
def K5: Kt:=kOr 186 NR <|
 kOr 188 NQ <|
 kOr 190 N4 <|
 kOr 191 NP <|
 kOr 193 N3 <|
 kOr 195 NN <|
 kOr 197 N2 <|
 kOr 199 NM <|
 kOr 201 NZ K4
def twA(l:List ByteArray)(i:Int): Ann:=Z8 2 Int (uj l i) (λb k=>put b [(6,.dat I k)]) λk=>Dc (Di i k)
abbrev NJ:=al [.val I,.fnp 186 N] (λ(i,(b,e,f,j,g,h),_)=>idx i (Df b)) λ(i,(b,e,f,j,g,h),_)=>.dat I (bY (aK b e) i)
abbrev ND:=al [.val I,.fnp 186 N] (λ(i,(b,e,f,j,g,h),_)=>JE i (Df b)) λ(i,(b,e,f,j,g,h),_)=>.dat I (rule2 (aK b e) i)
abbrev NI:=al [.val I,.fnp 188 N] (λ(i,(j,e,b,h,f,g),_)=>idx i (Df b)) λ(i,(j,e,b,h,f,g),_)=>.dat I (bY (b) i)
abbrev NC:=al [.val I,.fnp 188 N] (λ(i,(j,e,b,h,f,g),_)=>JE i (Df b)) λ(i,(j,e,b,h,f,g),_)=>.dat I (rule2 (b) i)
abbrev NH:=al [.val I,.fnp 191 N] (λ(i,(j,f,e,b,g,h),_)=>idx i (Df b)) λ(i,(j,f,e,b,g,h),_)=>.dat I (bY (aM b) i)
abbrev NB:=al [.val I,.fnp 191 N] (λ(i,(j,f,e,b,g,h),_)=>JE i (Df b)) λ(i,(j,f,e,b,g,h),_)=>.dat I (rule2 (aM b) i)
abbrev NG:=al [.val I,.fnp 195 N] (λ(i,(j,f,e,h,b,g),_)=>idx i (Df b)) λ(i,(j,f,e,h,b,g),_)=>.dat I (bY (aN b) i)
abbrev NA:=al [.val I,.fnp 195 N] (λ(i,(j,f,e,h,b,g),_)=>JE i (Df b)) λ(i,(j,f,e,h,b,g),_)=>.dat I (rule2 (aN b) i)
abbrev NF:=al [.val I,.fnp 199 N] (λ(i,(j,f,e,h,g,b),_)=>idx i (Df b)) λ(i,(j,f,e,h,g,b),_)=>.dat I (bY (aO b) i)
abbrev Nz:=al [.val I,.fnp 199 N] (λ(i,(j,f,e,h,g,b),_)=>JE i (Df b)) λ(i,(j,f,e,h,g,b),_)=>.dat I (rule2 (aO b) i)
def K6: Kt:=
 kOr 235 NJ <|
 kOr 237 ND <|
 kOr 238 (al [.val I,.fnp0 161,.ptr (.sl C)] (λ(i,_,f,_)=>idx i (Df f)) λ(i,_,f,_)=>.dat I (cB (bH f) i)) <|
 kOr 239 NI <|
 kOr 240 NC <|
 kOr 241 (al [.val I,.fnp0 190,.ptr (.sl S)] (λ(i,_,b,_)=>idx i (Df b)) λ(i,_,b,_)=>.dat I (cB (cN b) i)) <|
 kOr 242 NH <|
 kOr 243 NB <|
 kOr 244 (al [.val I,.fnp 193 N,.ptr (.sl Of)] (λ(i,(f,j,b,h,g,e),r,_)=>idx i (Df h)/\r=h) λ(i,(f,j,b,h,g,e),_,_)=>.dat I (cB (fy (f,j,b,h,g,e)) i)) <|
 kOr 249 NG <|
 kOr 250 NA <|
 kOr 251 (al [.val I,.fnp 197 N,.ptr (.sl Ln)] (λ(i,(f,j,b,h,g,e),r,_)=>idx i (Df g)/\r=g) λ(i,(f,j,b,h,g,e),_,_)=>.dat I (cB (d5 (f,j,b,h,g,e)) i)) <|
 kOr 253 NF <|
 kOr 254 Nz <|
 kOr 255 (al [.val I,.fnp0 201,.ptr (.sl Kl)] (λ(i,_,e,_)=>idx i (Df e)) λ(i,_,e,_)=>.dat I (cB (bP e) i)) K5
def Jc(b e:Int)(l:List ByteArray)(g:List Bool): Ann:=⟨λf st=>match f with
 | 4=>some {α:=Int,inv:=λk=>dP k (Df l) e,st:=λk=>fu (put st [(25,.dat I k),(12,.buf 100 (Dk (aY b l g k)))]) 100 (.buf 177 Fa (aY b l g k) []),μ:=λk=>Dc (Di e k)}
 | 7=>match st.sig.T 13 with
  | .dat (.int .i64) i=>some {α:=Int,inv:=λk=>cE l g i k,st:=λk=>put st [(29,.dat I k),(12,.buf 100 (Dk (aY b l g i)))],μ:=λk=>Dc (Di 3 k)}
  | _=>none
 | _=>none,λ_ _=>none,λ_ _=>none⟩
def K7: Kt:=
 kOr 187 (al [.val I,.val I,.val (.sl C),.fn 186 N,.fn0 161] (λ(k,m,j,(f,i,b,h,g,e),_,_)=>k=1/\m=6/\j=f) λ(_,_,_,(f,i,b,h,g,e),_,_)=>.dat (.sl Fa) (bQ 1 6 (aK f i) (bH f))) <|
 kOr 189 (al [.val I,.val I,.val (.sl S),.fn 188 N,.fn0 190] (λ(k,m,j,(f,i,b,h,g,e),_,_)=>k=2/\m=6/\j=b) λ(_,_,_,(f,i,b,h,g,e),_,_)=>.dat (.sl Fa) (bQ 2 6 (b) (cN b))) <|
 kOr 192 (al [.val I,.val I,.val (.sl Of),.fn 191 N,.fn 193 N] (λ(k,m,j,(f,i,b,h,g,e),r,_)=>k=3/\m=12/\j=h/\r=(f,i,b,h,g,e)) λ(_,_,_,(f,i,b,h,g,e),_,_)=>.dat (.sl Fa) (bQ 3 12 (aM h) (fy (f,i,b,h,g,e)))) <|
 kOr 196 (al [.val I,.val I,.val (.sl Ln),.fn 195 N,.fn 197 N] (λ(k,m,j,(f,i,b,h,g,e),r,_)=>k=4/\m=40/\j=g/\r=(f,i,b,h,g,e)) λ(_,_,_,(f,i,b,h,g,e),_,_)=>.dat (.sl Fa) (bQ 4 40 (aN g) (d5 (f,i,b,h,g,e)))) <|
 kOr 200 (al [.val I,.val I,.val (.sl Kl),.fn 199 N,.fn0 201] (λ(k,m,j,(f,i,b,h,g,e),_,_)=>k=5/\m=4/\j=e) λ(_,_,_,(f,i,b,h,g,e),_,_)=>.dat (.sl Fa) (bQ 5 4 (aO e) (bP e))) <|
 K6
def aAR: eO 252 BX:=ae λ((i:Int),(b:List Of.den),_)=>by
 refine zE (A:=az) (p:=let e:=Ed i 0;let f:=Df b;(True->Q4 e ((Dh true e->e)/\Ea e (Dp i f) false=du i f/\True))) KS2 λ_=>?_
 simp only[qc,Dh,Eu,Dj,du,Ed,Dp,nw,kM]
def aDF: eO 245 Ik:=ae λ((i:Int),(b:List S.den),_)=>by
 refine zE (A:=az) (p:=let e:=Ed i 0;(True->Q4 e ((Dh true e->e)/\Ea e (Dp i (Df b)) false=du i (Df b)/\True))) KS2 λ_=>?_
 simp only[qc,Dh,Eu,Dj,du,Ed,Dp,nw,kM]
def aDG: eO 246 Il:=ae λ((i:Int),(b:List C.den),_)=>by
 refine zE (A:=az) (p:=let e:=Ed i 0;let f:=Df b;(True->Q4 e ((Dh true e->e)/\Ea e (Dp i f) false=du i f/\True))) KS2 λ_=>?_
 simp only[qc,Dh,Eu,Dj,du,Ed,Dp,nw,kM]
def KS3: ai Tryz.prog G0 K3:=
 af aAR<|af aDF<|af aDG<|af aEc<|af aEd KS2
def t7(l:List ByteArray): iF l 0:=⟨qH _,qM _,by simp⟩
def t8{l:List ByteArray}{x:Int}(h:iF l x)(f:x<l.length)(b:cO (l.getD x.toNat ⟨#[]⟩)=true): iF l (x+1):=by
 obtain⟨i,g,e⟩:=h;refine⟨Z,Z,?_⟩;rw[show(x+1).toNat=x.toNat+1 by omega];exact dj (d:=⟨#[]⟩) e Z b
def Ja{l:List ByteArray}{x:Int}(h:iF l x)(e:x<l.length)(b:cO (l.getD x.toNat ⟨#[]⟩)=false): l.all cO=false:=
 jE (d:=⟨#[]⟩) (k:=x.toNat) (by have:=h.1;omega) b
def y9{l:List ByteArray}{x:Int}(h:iF l x)(e:¬x<l.length): l.all cO=true:=by
 obtain⟨g,f,b⟩:=h
 rwa [qN Z]at b
def Oh{i n:Int}: cL i 0 (n-1)=du i n:=by
 unfold cL du
 congr 1
 exact propext Z
def Gy: eO 194 mY:=ae λ(((O,ns,u,fs,ls,ks):Net),((e1:ByteArray),(L:Int),(r:Int),(X:Int),(V:Int),(T:Int),(b:List ByteArray)),_)=>by
 refine zE (A:=(lvA [(4,[3,4,6,28,29,30])] (aFb b))) (p:=let A:=Dj (du L (Df u));let e:=Dj A;let G:=Ea A true (Dj (du r (Df O)));let h:=Dj G;let c5:=Ea G true (Ei (Df b) 20);let v:=(e1,L,r,X,V,T,b);let z:=cU (O,ns,u,fs,ls,ks) v;let g:=cL X 2 64;let f:=Ea g (cL V 1 4) false;(True->True/\L4 e (Q4 e ((e->True)/\L4 e ((Dh true e->e)/\Q4 h ((Dh true h->h)/\(c5->false=z/\True)/\(c5=false->(∃x,iF b x/\L7 v b (Df b) (0=x/\True))/\∀(x:Int),let j:=Dp x (Df b);let i:=Dj (cO (Du b (Dc x) (ByteArray.mk #[])));let c12:=x+1;iF b x->(j->0<=x/\x<Df b/\True/\(i->false=z/\True)/\(i=false->inR .i64 c12/\∃y,iF b y/\(L7 v b (Df b) (c12=y/\True))/\Dc (Df b-y)<Dc (Df b-x)))/\(j=false->True/\Q2 g ((g->True)/\(Dh true g->g)/\Q2 f ((f->True)/\(Dh true f->f)/\Ea f (cL T 1 240) false=z/\True)))))))))) KS3 λ_=>?_
 refine Z9 ?_;refine⟨λh=>?_,λ⟨⟨h1,h2⟩,h3⟩=>⟨t7 b,λx f=>⟨λe=>⟨f.1,e,λhb=>?_,λhg=>⟨⟨by have:=f.1;omega,Z⟩,x+1,t8 f e hg,rfl,by have:=f.1;omega⟩⟩,λv=>?_⟩⟩⟩
 .unfold cU;rcases h with(h | h) | h
  .rw[show du _ _=false from h];rfl
  .rw[show du r _=false from h];simp
  .have:decide (b.length<=20)=false:=vC Z;simp[this]
 .have:=Ja f e hb;simp[cU,this]
 .have h4:=y9 f v;have h5:decide (b.length<=20)=true:=qW Z;have G:du L (u.length:Int)=true:=h1;have z:du r (O.length:Int)=true:=h2;simp only[cU,G,z,h4,h5,zX]
def WR: eO 298 xx:=ae λ(((u,ns,j,fs,ls,ks):Net),((e1:ByteArray),(T:Int),(O:Int),(e4:Int),(X:Int),(V:Int),(b:List ByteArray)),_)=>by
 refine zE (A:=(lvA [(2,[2,3,4,5,6])] (aHo b))) (p:=let i:=(u,ns,j,fs,ls,ks);let r:=(e1,T,O,e4,X,V,b);let A:=cU i r;let e:=Ee (Df b) 20;let G:=Df j-1;let g:=Ea e (cL T 0 G) false;let L:=Df u-1;let v:=Ea g (cL O 0 L) false;let h:=Ea v (cL e4 2 64) false;let f:=Ea h (cL X 1 4) false;(Kx i r->(∃x,iF b x/\L5 i r (0=x/\True))/\∀(x:Int),let z:=Dp x (Df b);let c12:=Dj (cO (Du b (Dc x) (ByteArray.mk #[])));let c13:=x+1;iF b x->(z->0<=x/\x<Df b/\True/\(c12->false=A/\True)/\(c12=false->inR .i64 c13/\∃y,iF b y/\(L5 i r (c13=y/\True))/\Dc (Df b-y)<Dc (Df b-x)))/\(z=false->L4 e (Q4 e ((e->inR .i64 G)/\Q2 e ((e->True)/\(Dh true e->e)/\L4 g (Q4 g ((g->inR .i64 L)/\Q2 g ((g->True)/\(Dh true g->g)/\Q2 v ((v->True)/\(Dh true v->v)/\Q2 h ((h->True)/\(Dh true h->h)/\Q2 f ((f->True)/\(Dh true f->f)/\Ea f (cL V 1 240) false=A/\True)))))))))))) KS3 λi=>?_
 obtain⟨G,r⟩:=i;have r:b.length<=30:=r;have i:=vN G;refine Z9 ?_;simp only[qc,Oh];refine⟨t7 b,λx h=>⟨λg=>⟨h.1,g,λhb=>?_,λhg=>⟨⟨by have:=h.1;omega,Z⟩,x+1,t8 h g hg,rfl,by have:=h.1;omega⟩⟩,λL=>⟨λ_=>⟨by have:j.length<=10:=i.2.2.1;omega,by have:j.length<=10:=i.2.2.1;omega⟩,λ_=>⟨by have:u.length<=10:=i.1;omega,by have:u.length<=10:=i.1;omega⟩,?_⟩⟩⟩
 .have:=Ja h g hb;simp[cU,this]
 .have h4:=y9 h L;have e:decide ((b.length:Int)<=20)=decide (b.length<=20):=by congr 1;exact propext Z
  simp only[cU,h4,gQ,e];cases decide (b.length<=20)<;>cases du T (j.length:Int)<;>cases du O (u.length:Int)<;>rfl
def O9: eO 198 qn:=ae λ(((cs,z,y,g,G,L):Net),((X:ByteArray),(e:Int),(b:Int),(x:Int),(v:Int),(u:Int)),_)=>by
 refine zE (A:=az) (p:=let r:=Df g;let A:=Dj (du e r);let h:=Dj A;let O:=Ea A true (Dj (du b r));let j:=Dj O;let T:=Ea O true (Ec e b);let V:=dG (cs,z,y,g,G,L) (X,e,b,x,v,u);let f:=cL x 0 1439;let i:=Ea f (cL v 1 5000) false;(True->True/\L4 h (Q4 h ((h->True)/\L4 h ((Dh true h->h)/\L4 j (Q4 j ((Dh true j->j)/\(T->false=V/\True)/\(T=false->True/\Q2 f ((f->True)/\(Dh true f->f)/\Q2 i ((i->True)/\(Dh true i->i)/\Ea i (cL u 1 40) false=V/\True)))))))))) KS3 λ_=>?_
 refine Z9 ?_;refine⟨λh=>?_,λ⟨⟨V,T⟩,O⟩=>?_⟩
 .unfold dG;rcases h with(h | h) | h
  .rw[show du _ _=false from h];rfl
  .rw[show du b _=false from h];simp
  .simp[h]
 .have r:du e (g.length:Int)=true:=V;have j:du b (g.length:Int)=true:=T;have i:decide (e≠b)=true:=qW O;simp only[dG,r,j,i,zX]
def aDD: eO 299 Ii:=ae λ(((L,x,v,i,y,z):Net),((G:ByteArray),(f:Int),(b:Int),(u:Int),(r:Int),(j:Int)),_)=>by
 refine zE (A:=az) (p:=let V:=(L,x,v,i,y,z);let T:=Df i-1;let e:=cL f 0 T;let g:=Ea e (cL b 0 T) false;let h:=Ea g (Dw f b) false;let A:=Ea h (cL u 0 1439) false;let O:=Ea A (cL r 1 5000) false;(iZ V->inR .i64 T/\True/\Q4 e ((e->True)/\(Dh true e->e)/\L4 g (Q4 g ((Dh true g->g)/\Q2 h ((h->True)/\(Dh true h->h)/\Q2 A ((A->True)/\(Dh true A->A)/\Q2 O ((O->True)/\(Dh true O->O)/\Ea O (cL j 1 40) false=dG V (G,f,b,u,r,j)/\True)))))))) KS3 λg=>?_
 have g:=vN g;refine Z9 ?_;simp only[qc,Oh];refine⟨⟨by have:i.length<=16:=g.2.2.2.1;omega,by have:i.length<=16:=g.2.2.2.1;omega⟩,?_⟩;have e:(f != b)=decide (f≠b):=by cases h:decide (f=b)<;>simp_all
 simp only[dG,e]
def KS4: ai Tryz.prog G0 K4:=
 af Gy<|af O9<|af WR<|af aDD KS3
def gR{α β:Type}(f:α->β)(l:List α)(i:Nat)(d:α)(e:β)(b:i<l.length): (l.map f).getD i e=f (l.getD i d):=by
 simp only[qA,qR,qB b,zU,qK]
def zg{e:List (Int×List Bool×Li)}{b:List ByteArray}{i:Int}(g:0<=i)(f:i<e.length): kq (aK e b) i=b.getD i.toNat ⟨#[]⟩:=by
 unfold kq aK;rw[gR (λi=>b.getD i ⟨#[]⟩) _ _ 0 _ (by rw[qU];omega)];show b.getD ((List.range e.length).getD i.toNat 0) _=_;rw[show(List.range e.length).getD i.toNat 0=i.toNat by rw[qA,vO Z];rfl]
def PS{α:Type}{f:α->ByteArray}{l:List α}{i:Int}(d:α)(e:0<=i)(b:i<l.length): kq (l.map f) i=f (l.getD i.toNat d):=gR _ _ _ _ _ Z
def aGV: eO 186 NR:=ae λ((i:Int),((g,b,j,v,r,u):Net),_)=>by
 refine zE (A:=az) (p:=let e:=Dp i (Df b);let f:=kq (aK g b) i;(idx i (Df g)->(e->0<=i/\i<Df b/\Du b (Dc i) (ByteArray.mk #[])=f/\True)/\(e=false->ByteArray.mk #[]=f/\True))) KS4 λ⟨e,f⟩=>?_
 have e:0<=i:=e;have f:i<(g.length:Int):=f;refine Z9 ?_;simp only[qc,zg e f];refine⟨λh=>⟨e,h⟩,λh=>?_⟩;rw[qA,zH Z];rfl
def aGU: eO 188 NQ:=ae λ((i:Int),((u,g,b,r,h,j):Net),_)=>by
 refine zE (A:=az) (p:=(idx i (Df b)->0<=i/\i<Df b/\Du b (Dc i) (ByteArray.mk #[])=kq b i/\True)) KS4 λ⟨f,e⟩=>?_
 refine Z9 ?_;exact⟨f,e,rfl⟩
def aG5: eO 190 N4:=ae λ((b:ByteArray),_)=>zF (c:=mkc K4) (A:=az) KS4 iI hm (p:=true/\(True->true/\True)) ⟨rfl,λ_=>⟨rfl,trivial⟩⟩
def aGT: eO 191 NP:=ae λ((i:Int),((u,h,g,b,j,r):Net),_)=>by
 refine zE (A:=az) (p:=let e:=Df b;(idx i e->0<=i/\i<e/\(Du b (Dc i) (ByteArray.mk #[],(0:Int),(0:Int),(0:Int),(0:Int),(0:Int),Dt ByteArray)).1=kq (aM b) i/\True)) KS4 λ⟨f,e⟩=>?_
 refine Z9 ?_;exact⟨f,e,(PS _ f e).symm⟩
def aG4: eO 193 N3:=ae λ(((y:ByteArray),(x:Int),(v:Int),(u:Int),(r:Int),(j:Int),(i:List ByteArray)),((z,e,b,h,f,g):Net),_)=>zE (A:=az) (p:=let A:=cU (z,e,b,h,f,g) (y,x,v,u,r,j,i);(True->True/\T3 A)) KS4 λ_=>by simp only[qc,Dh,Eu,Dj]
def aGS: eO 195 NN:=ae λ((i:Int),((u,h,g,r,b,j):Net),_)=>by
 refine zE (A:=az) (p:=let e:=Df b;(idx i e->0<=i/\i<e/\(Du b (Dc i) (ByteArray.mk #[],(0:Int),(0:Int),(0:Int),(0:Int),(0:Int))).1=kq (aN b) i/\True)) KS4 λ⟨f,e⟩=>?_
 refine Z9 ?_;exact⟨f,e,(PS _ f e).symm⟩
def aG3: eO 197 N2:=ae λ(((x:ByteArray),(v:Int),(u:Int),(r:Int),(j:Int),(i:Int)),((y,e,b,h,f,g):Net),_)=>zE (A:=az) (p:=let z:=dG (y,e,b,h,f,g) (x,v,u,r,j,i);(True->True/\T3 z)) KS4 λ_=>by simp only[qc,Dh,Eu,Dj]
def aGR: eO 199 NM:=ae λ((i:Int),((u,h,g,r,j,b):Net),_)=>by
 refine zE (A:=az) (p:=let e:=Df b;(idx i e->0<=i/\i<e/\(Du b (Dc i) (ByteArray.mk #[],(0:Int),(0:Int))).1=kq (aO b) i/\True)) KS4 λ⟨f,e⟩=>?_
 refine Z9 ?_;exact⟨f,e,(PS _ f e).symm⟩
def aG2: eO 201 NZ:=ae λ(((f:ByteArray),(e:Int),(b:Int)),_)=>zE (A:=az) (p:=let g:=cL e 0 1439;(True->True/\Q2 g ((g->True)/\(Dh true g->g)/\Ea g (cL b 0 1439) false=kp (f,e,b)/\True))) KS4 λ_=>by simp only[qc,Dh,Eu,Dj,kp]
def KS5: ai Tryz.prog G0 K5:=
 af aGV<|af aGU<|af aG5<|af aGT<|af aG4<|af aGS<|af aG3<|af aGR<|af aG2 KS4
def kt{l:List ByteArray}{i:Int}(h:0<=i): uj l i 0:=⟨qH _,h,by simp⟩
def ku{l:List ByteArray}{i x:Int}(h:uj l i x)(f:x<i)(g:i<l.length)(b:(kq l x).toList≠(kq l i).toList): uj l i (x+1):=by
 obtain⟨r,j,e⟩:=h;refine⟨Z,Z,?_⟩;rw[show(x+1).toNat=x.toNat+1 by omega];exact C5 (d:=⟨#[]⟩) e Z (by simpa[kq]using b)
def OY{l:List ByteArray}{i x:Int}(h:uj l i x)(g:x<i)(j:i<l.length)(f:(kq l x).toList=(kq l i).toList): 4=rule2 l i:=by
 unfold rule2;have e:=h.1;rw[if_pos];have b:x.toNat<(l.take i.toNat).length:=by rw[qL];omega
 refine iA (d:=⟨#[]⟩) (k:=x.toNat) b ?_;have:(l.take i.toNat).getD x.toNat ⟨#[]⟩=kq l x:=by
  unfold kq;simp only[qA];rw[vV,if_pos Z]
 rw[this];simpa using f
def lI{l:List ByteArray}{i x:Int}(h:uj l i x)(e:¬x<i): 0=rule2 l i:=by
 obtain⟨g,f,b⟩:=h;have:x=i:=Z;subst this;unfold rule2;rw[b];rfl
def pI{α:Type}{g:α->Bool}{l:List α}{i:Int}(d:α)(e:0<=i)(b:i<l.length): cB (l.map g) i=if g (l.getD i.toNat d)then 0 else 1:=by
 unfold cB;rw[gR g l _ d _ Z]
def fk(b:List (Int×List Bool×Li))(e:List ByteArray): (aK b e).length=b.length:=by simp[aK]
def map_length{α β:Type}(f:α->β)(l:List α): (l.map f).length=l.length:=qY f
def aGO: eO 235 NJ:=ae λ((i:Int),((b,e,g,u,j,r):Net),_)=>by
 refine zE (A:=az) (p:=let f:=Dj (bT (kq (aK b e) i));let g:=bY (aK b e) i;(idx i (Df b)->idx i (Df b)/\True/\(f->1=g/\True)/\(f=false->0=g/\True))) KS5 λf=>?_
 refine Z9 ?_;exact⟨f,λh=>by simp[bY,h],λh=>by simp[bY,h]⟩
def aGJ: eO 237 ND:=ae λ((i:Int),((b,f,v,T,z,G):Net),_)=>by
 refine zE (A:=(lvA [(2,[0,1,3,4,5,6])] (twA (aK b f) i))) (p:=let e:=aK b f;let g:=Df b;let h:=(b,f,v,T,z,G);let j:=rule2 e i;(JE i g->(∃x,uj e i x/\L7 i h i (0=x/\True))/\∀(x:Int),let r:=Fz (kq e x) (kq e i);let u:=x+1;uj e i x->(Dp x i->idx x g/\idx i g/\(r->4=j/\True)/\(r=false->inR IntKind.i64 u/\∃y,uj e i y/\(L7 i h i (u=y/\True))/\Dc (i-y)<Dc (i-x)))/\(Dp x i=false->0=j/\True))) KS5 λh=>?_
 have u:0<=i:=h.1;have O:i<(b.length:Int):=h.2.1;have X:i<=1000:=h.2.2;have V:((aK b f).length:Int)=b.length:=yP _ (fk b f);refine Z9 ?_;exact⟨kt u,λx e=>⟨λg=>⟨⟨e.1,Z⟩,⟨u,O⟩,λL=>OY e g Z L,λj=>⟨⟨by have:=e.1;omega,Z⟩,x+1,ku e g Z j,rfl,by have:=e.1;omega⟩⟩,λr=>lI e r⟩⟩
def aGE(i:Int)(b:LC)(u r:LB)(y:Lo)(v:Ll)(x:Lk): ah Tryz.prog G0 238 [.dat I i,.ipv (.fn 161 []),.ip (.sl C) b] [] ⟨idx i (Df b),.dat I (cB (bH b) i),[]⟩:=by
 refine zE (A:=az) (p:=let f:=Df b;let e:=Du b (Dc i) ((0:Int),Dt Bool,Dt Int);let g:=Dj (ay e.1 e.2.1 e.2.2);(idx i f->0<=i/\i<f/\True/\(g->1=cB (bH b) i/\True)/\(g=false->0=cB (bH b) i/\True))) KS5 λe=>?_
 have j:0<=i:=e.1;have f:i<(b.length:Int):=e.2;refine Z9 ?_;rw[show cB (bH b) i=_ from pI _ j f];exact⟨j,f,λh=>by rw[if_neg (by intro g;rw[show _=false from h]at g;cases g)],λh=>by rw[if_pos h]⟩
def aGN: eO 239 NI:=ae λ((i:Int),((u,f,b,r,g,j):Net),_)=>by
 refine zE (A:=az) (p:=let e:=Dj (bT (kq b i));(idx i (Df b)->idx i (Df b)/\True/\(e->1=bY b i/\True)/\(e=false->0=bY b i/\True))) KS5 λe=>?_
 refine Z9 ?_;exact⟨e,λh=>by simp[bY,h],λh=>by simp[bY,h]⟩
def aGI: eO 240 NC:=ae λ((i:Int),((T,u,b,O,v,z):Net),_)=>by
 refine zE (A:=(lvA [(2,[0,1,3,4,5,6])] (twA (b) i))) (p:=let e:=Df b;let f:=(T,u,b,O,v,z);(JE i e->(∃x,uj b i x/\L7 i f i (0=x/\True))/\∀(x:Int),let g:=Fz (kq b x) (kq b i);let h:=x+1;uj b i x->(Dp x i->idx x e/\idx i e/\(g->4=rule2 b i/\True)/\(g=false->inR .i64 h/\∃y,uj b i y/\(L7 i f i (h=y/\True))/\Dc (i-y)<Dc (i-x)))/\(Dp x i=false->0=rule2 b i/\True))) KS5 λg=>?_
 have r:0<=i:=g.1;have L:i<(b.length:Int):=g.2.1;have X:i<=1000:=g.2.2;have V:((b).length:Int)=b.length:=yP _ (rfl);refine Z9 ?_;exact⟨kt r,λx e=>⟨λf=>⟨⟨e.1,Z⟩,⟨r,L⟩,λG=>OY e f Z G,λh=>⟨⟨by have:=e.1;omega,Z⟩,x+1,ku e f Z h,rfl,by have:=e.1;omega⟩⟩,λj=>lI e j⟩⟩
def aGD(i:Int)(x:LC)(j b:LB)(v:Lo)(r:Ll)(u:Lk): ah Tryz.prog G0 241 [.dat I i,.ipv (.fn 190 []),.ip (.sl S) b] [] ⟨idx i (Df b),.dat I (cB (cN b) i),[]⟩:=by
 refine zE (A:=az) (p:=(idx i (Df b)->0<=i/\i<Df b/\True/\(Dj true->1=cB (cN b) i/\True)/\(Dj true=false->0=cB (cN b) i/\True))) KS5 λe=>?_
 have g:0<=i:=e.1;have f:i<(b.length:Int):=e.2;refine Z9 ?_;rw[show cB (cN b) i=_ from pI ⟨#[]⟩ g f];exact⟨g,f,(λh=>by cases h),rfl⟩
def aGM: eO 242 NH:=ae λ((i:Int),((u,g,f,b,j,r):Net),_)=>by
 refine zE (A:=az) (p:=let e:=Dj (bT (kq (aM b) i));(idx i (Df b)->idx i (Df b)/\True/\(e->1=bY (aM b) i/\True)/\(e=false->0=bY (aM b) i/\True))) KS5 λe=>?_
 refine Z9 ?_;exact⟨e,λh=>by simp[bY,h],λh=>by simp[bY,h]⟩
def aGH: eO 243 NB:=ae λ((i:Int),((T,v,u,b,z,G):Net),_)=>by
 refine zE (A:=(lvA [(2,[0,1,3,4,5,6])] (twA (aM b) i))) (p:=let e:=Df b;let f:=(T,v,u,b,z,G);(JE i e->(∃x,uj (aM b) i x/\L7 i f i (0=x/\True))/\∀(x:Int),let g:=Fz (kq (aM b) x) (kq (aM b) i);let h:=x+1;uj (aM b) i x->(Dp x i->idx x e/\idx i e/\(g->4=rule2 (aM b) i/\True)/\(g=false->inR .i64 h/\∃y,uj (aM b) i y/\(L7 i f i (h=y/\True))/\Dc (i-y)<Dc (i-x)))/\(Dp x i=false->0=rule2 (aM b) i/\True))) KS5 λg=>?_
 have r:0<=i:=g.1;have O:i<(b.length:Int):=g.2.1;have X:i<=1000:=g.2.2;have V:((aM b).length:Int)=b.length:=yP _ (map_length _ b);refine Z9 ?_;exact⟨kt r,λx e=>⟨λf=>⟨⟨e.1,Z⟩,⟨r,O⟩,λL=>OY e f Z L,λh=>⟨⟨by have:=e.1;omega,Z⟩,x+1,ku e f Z h,rfl,by have:=e.1;omega⟩⟩,λj=>lI e j⟩⟩
def aGC(i:Int)(v:LC)(j f:LB)(b:Lo)(r:Ll)(u:Lk): ah Tryz.prog G0 244 [.dat I i,.ipv (.fn 193 [.ip N (v,j,f,b,r,u)]),.ip (.sl Of) b] [] ⟨idx i (Df b),.dat I (cB (fy (v,j,f,b,r,u)) i),[]⟩:=by
 refine zE (A:=az) (p:=let g:=Df b;let h:=(v,j,f,b,r,u);let x:=Dj (cU h (Du b (Dc i) (ByteArray.mk #[],(0:Int),(0:Int),(0:Int),(0:Int),(0:Int),Dt ByteArray)));let e:=cB (fy h) i;(idx i g->0<=i/\i<g/\True/\(x->1=e/\True)/\(x=false->0=e/\True))) KS5 λx=>?_
 have z:0<=i:=x.1;have y:i<(b.length:Int):=x.2;refine Z9 ?_;rw[show cB (fy (v,j,f,b,r,u)) i=_ from pI _ z y];exact⟨z,y,λh=>by rw[if_neg (by intro g;rw[show _=false from h]at g;cases g)],λh=>by rw[if_pos h]⟩
def aGL: eO 249 NG:=ae λ((i:Int),((u,g,f,r,b,j):Net),_)=>by
 refine zE (A:=az) (p:=let e:=Dj (bT (kq (aN b) i));(idx i (Df b)->idx i (Df b)/\True/\(e->1=bY (aN b) i/\True)/\(e=false->0=bY (aN b) i/\True))) KS5 λe=>?_
 refine Z9 ?_;exact⟨e,λh=>by simp[bY,h],λh=>by simp[bY,h]⟩
def aGG: eO 250 NA:=ae λ((i:Int),((T,v,u,O,b,z):Net),_)=>by
 refine zE (A:=(lvA [(2,[0,1,3,4,5,6])] (twA (aN b) i))) (p:=let e:=Df b;let f:=(T,v,u,O,b,z);(JE i e->(∃x,uj (aN b) i x/\L7 i f i (0=x/\True))/\∀(x:Int),let g:=Fz (kq (aN b) x) (kq (aN b) i);let h:=x+1;uj (aN b) i x->(Dp x i->idx x e/\idx i e/\(g->4=rule2 (aN b) i/\True)/\(g=false->inR .i64 h/\∃y,uj (aN b) i y/\(L7 i f i (h=y/\True))/\Dc (i-y)<Dc (i-x)))/\(Dp x i=false->0=rule2 (aN b) i/\True))) KS5 λg=>?_
 have r:0<=i:=g.1;have L:i<(b.length:Int):=g.2.1;have X:i<=1000:=g.2.2;have V:((aN b).length:Int)=b.length:=yP _ (map_length _ b);refine Z9 ?_;exact⟨kt r,λx e=>⟨λf=>⟨⟨e.1,Z⟩,⟨r,L⟩,λG=>OY e f Z G,λh=>⟨⟨by have:=e.1;omega,Z⟩,x+1,ku e f Z h,rfl,by have:=e.1;omega⟩⟩,λj=>lI e j⟩⟩
def aGB(i:Int)(u:LC)(f e:LB)(r:Lo)(b:Ll)(j:Lk): ah Tryz.prog G0 251 [.dat I i,.ipv (.fn 197 [.ip N (u,f,e,r,b,j)]),.ip (.sl Ln) b] [] ⟨idx i (Df b),.dat I (cB (d5 (u,f,e,r,b,j)) i),[]⟩:=by
 refine zE (A:=az) (p:=let g:=Df b;let h:=(u,f,e,r,b,j);let z:=Dj (dG h (Du b (Dc i) (ByteArray.mk #[],(0:Int),(0:Int),(0:Int),(0:Int),(0:Int))));let v:=cB (d5 h) i;(idx i g->0<=i/\i<g/\True/\(z->1=v/\True)/\(z=false->0=v/\True))) KS5 λv=>?_
 have y:0<=i:=v.1;have x:i<(b.length:Int):=v.2;refine Z9 ?_;rw[show cB (d5 (u,f,e,r,b,j)) i=_ from pI _ y x];exact⟨y,x,λh=>by rw[if_neg (by intro g;rw[show _=false from h]at g;cases g)],λh=>by rw[if_pos h]⟩
def aGK: eO 253 NF:=ae λ((i:Int),((u,g,f,r,j,b):Net),_)=>by
 refine zE (A:=az) (p:=let e:=Dj (bT (kq (aO b) i));(idx i (Df b)->idx i (Df b)/\True/\(e->1=bY (aO b) i/\True)/\(e=false->0=bY (aO b) i/\True))) KS5 λe=>?_
 refine Z9 ?_;exact⟨e,λh=>by simp[bY,h],λh=>by simp[bY,h]⟩
def aGF: eO 254 Nz:=ae λ((i:Int),((T,v,u,O,z,b):Net),_)=>by
 refine zE (A:=(lvA [(2,[0,1,3,4,5,6])] (twA (aO b) i))) (p:=let e:=Df b;let f:=(T,v,u,O,z,b);(JE i e->(∃x,uj (aO b) i x/\L7 i f i (0=x/\True))/\∀(x:Int),let g:=Fz (kq (aO b) x) (kq (aO b) i);let h:=x+1;uj (aO b) i x->(Dp x i->idx x e/\idx i e/\(g->4=rule2 (aO b) i/\True)/\(g=false->inR .i64 h/\∃y,uj (aO b) i y/\(L7 i f i (h=y/\True))/\Dc (i-y)<Dc (i-x)))/\(Dp x i=false->0=rule2 (aO b) i/\True))) KS5 λg=>?_
 have r:0<=i:=g.1;have L:i<(b.length:Int):=g.2.1;have X:i<=1000:=g.2.2;have V:((aO b).length:Int)=b.length:=yP _ (map_length _ b);refine Z9 ?_;exact⟨kt r,λx e=>⟨λf=>⟨⟨e.1,Z⟩,⟨r,L⟩,λG=>OY e f Z G,λh=>⟨⟨by have:=e.1;omega,Z⟩,x+1,ku e f Z h,rfl,by have:=e.1;omega⟩⟩,λj=>lI e j⟩⟩
def aGA(i:Int)(y:LC)(u r:LB)(x:Lo)(v:Ll)(b:Lk): ah Tryz.prog G0 255 [.dat I i,.ipv (.fn 201 []),.ip (.sl Kl) b] [] ⟨idx i (Df b),.dat I (cB (bP b) i),[]⟩:=by
 refine zE (A:=az) (p:=let e:=Df b;let f:=Dj (kp (Du b (Dc i) (ByteArray.mk #[],(0:Int),(0:Int))));(idx i e->0<=i/\i<e/\True/\(f->1=cB (bP b) i/\True)/\(f=false->0=cB (bP b) i/\True))) KS5 λe=>?_
 have j:0<=i:=e.1;have f:i<(b.length:Int):=e.2;refine Z9 ?_;rw[show cB (bP b) i=_ from pI _ j f];exact⟨j,f,λh=>by rw[if_neg (by intro g;rw[show _=false from h]at g;cases g)],λh=>by rw[if_pos h]⟩
def KX(b:Int)(l:List ByteArray)(g:List Bool): aY b l g 0=[]:=rfl
def nK(b:Int)(l:List ByteArray)(g:List Bool)(k:Int): (aY b l g k).length<=k.toNat:=by
 unfold aY;exact wH (qDh _ _) (by rw[qU];exact qJ _)
def rV{b:Int}{l:List ByteArray}{g:List Bool}{k:Int}(f:0<=k)(e:oz l g k≠0): aY b l g (k+1)=aY b l g k++[(b,k,oz l g k)]:=by
 unfold aY;rw[show(k+1).toNat=k.toNat+1 by omega,zJ,qBh];simp[vI f,e]
def yf{b:Int}{l:List ByteArray}{g:List Bool}{k:Int}(f:0<=k)(e:oz l g k=0): aY b l g (k+1)=aY b l g k:=by
 unfold aY;rw[show(k+1).toNat=k.toNat+1 by omega,zJ,qBh];simp[vI f,e]
def Xy{l:List ByteArray}{g:List Bool}{i j:Int}(h:cE l g i j)(u:j<3)(b:[bY l i,rule2 l i,cB g i].getD j.toNat 0≠0): [bY l i,rule2 l i,cB g i].getD j.toNat 0=oz l g i:=by
 obtain⟨v,_,e,r,_⟩:=h;have f:j=0\/j=1\/j=2:=Z;unfold oz;rcases f with rfl | rfl | rfl
 .have b:bY l i≠0:=b;rw[if_pos b];rfl
 .have b:rule2 l i≠0:=b;rw[if_neg (by simp[e]),if_pos b];rfl
 .rw[if_neg (by simp[e]),if_neg (by simp[r])];rfl
def Pv{l:List ByteArray}{g:List Bool}{i j:Int}(h:cE l g i j)(u:j<3)(b:[bY l i,rule2 l i,cB g i].getD j.toNat 0=0): cE l g i (j+1):=by
 obtain⟨x,_,e,r,v⟩:=h;have f:j=0\/j=1\/j=2:=Z;rcases f with rfl | rfl | rfl
 .exact⟨Z,Z,λ_=>b,λh=>Z,λh=>Z⟩
 .exact⟨Z,Z,λ_=>e Z,λ_=>b,λh=>Z⟩
 .exact⟨Z,Z,λ_=>e Z,λ_=>r Z,λ_=>b⟩
def SV{l:List ByteArray}{g:List Bool}{i j:Int}(h:cE l g i j)(r:¬j<3): oz l g i=0:=by
 obtain⟨u,_,f,e,b⟩:=h;unfold oz;rw[if_neg (by simp[f Z]),if_neg (by simp[e Z]),b Z]
def Jb{b f:Int}{l:List ByteArray}{g:List Bool}{m:Nat}(hm:l.length=m)(O:0<=f)(X:f<=100):
  (∃x,dP x (l.length:Int) f/\(aY b l g x).length=0/\aY b l g x=[]/\0=x/\aY b l g x=[])/\
  ∀(x:Int),dP x (l.length:Int) f->
    (x<min (m:Int) f->
      cE l g x 0/\∀(z:Int),cE l g x z->
         (z<3->0<=z/\z<(3:Nat)/\(z.toNat=0->idx x m)/\(z.toNat=1->JE x m)/\(z.toNat=2->idx x m)/\
                ([bY l x,rule2 l x,cB g x].getD z.toNat 0≠0->
                  ((aY b l g x).length+[(b,x,[bY l x,rule2 l x,cB g x].getD z.toNat 0)].length)*24<=140737488355328/\
                   (aY b l g x).length+[(b,x,[bY l x,rule2 l x,cB g x].getD z.toNat 0)].length<=9223372036854775807/\
                    inR .i64 (x+1)/\
                     ∃y,dP y (l.length:Int) f/\
                       ((aY b l g x).length+[(b,x,[bY l x,rule2 l x,cB g x].getD z.toNat 0)].length=(aY b l g y).length/\
                         x+1=y/\aY b l g x++[(b,x,[bY l x,rule2 l x,cB g x].getD z.toNat 0)]=aY b l g y)/\
                        (f-y).toNat<(f-x).toNat)/\
                 ([bY l x,rule2 l x,cB g x].getD z.toNat 0=0->inR .i64 (z+1)/\∃y,cE l g x y/\z+1=y/\(3-y).toNat<(3-z).toNat))/\
          (¬z<3->inR .i64 (x+1)/\∃y,dP y (l.length:Int) f/\((aY b l g x).length=(aY b l g y).length/\x+1=y/\aY b l g x=aY b l g y)/\(f-y).toNat<(f-x).toNat))/\
     (¬x<min (m:Int) f->
      ((m:Int)>f->((aY b l g x).length+[(b,f,(2:Int))].length)*24<=140737488355328/\
         (aY b l g x).length+[(b,f,(2:Int))].length<=9223372036854775807/\
          (aY b l g x++[(b,f,2)]).length=(aY b l g x).length+[(b,f,(2:Int))].length/\
           aY b l g x++[(b,f,2)]=bQ b f l g)/\
       (¬(m:Int)>f->aY b l g x=bQ b f l g)):=by
 subst hm;refine⟨⟨0,⟨qH _,qM _,O⟩,rfl,rfl,rfl,rfl⟩,λx ⟨j,V,T⟩=>⟨λA=>⟨⟨qH _,by decide,λh=>Z,λh=>Z,λh=>Z⟩,λz r=>⟨λi=>?_,λi=>?_⟩⟩,λL=>?_⟩⟩
 .have G:=nK b l g x;refine⟨r.1,Z,λ_=>⟨j,Z⟩,λ_=>⟨j,Z,Z⟩,λ_=>⟨j,Z⟩,λu=>?_,λu=>⟨⟨by have:=r.1;omega,Z⟩,z+1,Pv r i u,rfl,by have:=r.1;omega⟩⟩;have e:=Xy r i u;rw[e]at u ⊢;refine⟨by simp only[qV];omega,by simp only[qV];omega,⟨Z,Z⟩,x+1,⟨Z,Z,Z⟩,⟨?_,rfl,(rV j u).symm⟩,Z⟩;rw[rV j u,qF]
 .have e:=SV r i;exact⟨⟨Z,Z⟩,x+1,⟨Z,Z,Z⟩,⟨by rw[yf j e],rfl,(yf j e).symm⟩,Z⟩
 .have G:=nK b l g x;have v:x=min (l.length:Int) f:=Z;refine⟨λh=>⟨by simp only[qV];omega,by simp only[qV];omega,qF,?_⟩,λh=>?_⟩
  .unfold bQ HB;rw[if_pos Z,<- v]
  .unfold bQ HB;rw[if_neg Z,<- v,vY]
def KS6: ai Tryz.prog G0 K6:=
 af aGO<|af aGJ<|af (ae λ(i,_,g,_)=>aGE i g [] [] [] [] [])<|af aGN<|af aGI<|af (ae λ(i,_,e,_)=>aGD i [] [] e [] [] [])<|af aGM<|af aGH<|af (ae λ(i,(g,u,e,r,j,f),b,_)=>ah.of_pre λ(h:idx i (Df r)/\b=r)=>by obtain⟨h,rfl⟩:=h;exact(aGC i g u e b j f).weaken λ_=>h)<|af aGL<|af aGG<|af (ae λ(i,(g,u,e,r,j,f),b,_)=>ah.of_pre λ(h:idx i (Df j)/\b=j)=>by obtain⟨h,rfl⟩:=h;exact(aGB i g u e r b f).weaken λ_=>h)<|af aGK<|af aGF<|af (ae λ(i,_,f,_)=>aGA i [] [] [] [] [] f) KS5
def aHc(b:LC)(h O:LB)(X:Lo)(T:Ll)(V:Lk): ah Tryz.prog G0 187 [.dat I 1,.dat I 6,.dat (.sl C) b,.fn 186 [.ip N (b,h,O,X,T,V)],.fn 161 []] [] ⟨True,.dat (.sl Fa) (bQ 1 6 (aK b h) (bH b)),[]⟩:=by
 refine zE (A:=(lvA [(4,[0,1,7,10,11,12,13,15,16,24,25,28,29]),(7,[0,1,7,10,11,12,13,15,16,24,25,28,29])] (Jc 1 6 (aK b h) (bH b)))) (p:=let f:=aK b h;let c1:=Df b;let c2:=Ey c1 6;let A:=(b,h,O,X,T,V);let c4:=Ei c1 6;let c5:=[((1:Int),(6:Int),(2:Int))];let c6:=bQ 1 6 f (bH b);(True->L5 1 0 ((∃x,let c7:=aY 1 f (bH b) x;dP x (Df f) 6/\T4 (1:Int) (6:Int) b Z0 1 0 0 (Dk c7=0/\c7=Dt (Int×Int×Int)/\c2=c2/\0=x/\L7 A A b (c7=Dt (Int×Int×Int)/\True)))/\∀(x:Int),let L:=Df f;let c9:=aY 1 f (bH b) x;let g:=Dk c9;let c12:=x+1;let c13:=g+Dk c5;let c14:=Ef c9 c5;dP x L 6->(Dp x c2->L5 1 0 ((∃e,cE f (bH b) x e/\L3 (1:Int) (6:Int) b Z0 1 0 0 g x (T2 c2 x A A b (0=e/\z8 A A b c9)))/\∀(e:Int),let c15:=Dp e 3;let G:=Du [bY f x,rule2 f x,cB (bH b) x] (Dc e) 0;let z:=Dw G 0;let v:=[((1:Int),x,G)];let i:=g+Dk v;let u:=e+1;cE f (bH b) x e->(c15->0<=e/\e<Dz 3/\(Dc e=0->idx x c1)/\(Dc e=1->JE x c1)/\(Dc e=2->idx x c1)/\(z->g=g/\(i*24)<=140737488355328/\i<=9223372036854775807/\inR .i64 c12/\∃y,let r:=aY 1 f (bH b) y;dP y L 6/\(T4 (1:Int) (6:Int) b Z0 1 0 0 (i=Dk r/\c2=c2/\c12=y/\L7 A A b (Ef c9 v=r/\True)))/\Dc (6-y)<Dc (6-x))/\(z=false->inR .i64 u/\∃y,cE f (bH b) x y/\(L3 (1:Int) (6:Int) b Z0 1 0 0 g x (T2 c2 x A A b (u=y/\z8 A A b c9)))/\Dc (3-y)<Dc (3-e)))/\(c15=false->inR .i64 c12/\∃y,let j:=aY 1 f (bH b) y;
  dP y L 6/\(T4 (1:Int) (6:Int) b Z0 1 0 0 (g=Dk j/\c2=c2/\c12=y/\L7 A A b (c9=j/\True)))/\Dc (6-y)<Dc (6-x))))/\(Dp x c2=false->(c4->g=g/\(c13*24)<=140737488355328/\c13<=9223372036854775807/\Dk c14=c13/\c14=c6/\True)/\(c4=false->g=g/\c9=c6/\True))))) KS6 λ_=>?_
 have hm:(aK b h).length=b.length:=fk b h;refine Z9 ?_;exact Jb hm (by decide) (by decide)
def aHb(T:LC)(z b:LB)(O:Lo)(G:Ll)(L:Lk): ah Tryz.prog G0 189 [.dat I 2,.dat I 6,.dat (.sl S) b,.fn 188 [.ip N (T,z,b,O,G,L)],.fn 190 []] [] ⟨True,.dat (.sl Fa) (bQ 2 6 (b) (cN b)),[]⟩:=by
 refine zE (A:=(lvA [(4,[0,1,7,10,11,12,13,15,16,24,25,28,29]),(7,[0,1,7,10,11,12,13,15,16,24,25,28,29])] (Jc 2 6 (b) (cN b)))) (p:=let X:=Df b;let V:=Ey X 6;let A:=(T,z,b,O,G,L);let c3:=Ei X 6;let c4:=[((2:Int),(6:Int),(2:Int))];let c5:=bQ 2 6 b (cN b);(True->L5 1 0 ((∃x,let c6:=aY 2 b (cN b) x;dP x X 6/\T4 (2:Int) (6:Int) b Z0 1 0 0 (Dk c6=0/\c6=Dt (Int×Int×Int)/\V=V/\0=x/\L7 A A b (c6=Dt (Int×Int×Int)/\True)))/\∀(x:Int),let c7:=aY 2 b (cN b) x;let f:=Dk c7;let g:=x+1;let i:=f+Dk c4;let c12:=Ef c7 c4;dP x X 6->(Dp x V->L5 1 0 ((∃e,cE b (cN b) x e/\L3 (2:Int) (6:Int) b Z0 1 0 0 f x (T2 V x A A b (0=e/\z8 A A b c7)))/\∀(e:Int),let c13:=Dp e 3;let c14:=Du [bY b x,rule2 b x,cB (cN b) x] (Dc e) 0;let c15:=Dw c14 0;let v:=[((2:Int),x,c14)];let h:=f+Dk v;let u:=e+1;cE b (cN b) x e->(c13->0<=e/\e<Dz 3/\(Dc e=0->idx x X)/\(Dc e=1->JE x X)/\(Dc e=2->idx x X)/\(c15->f=f/\(h*24)<=140737488355328/\h<=9223372036854775807/\inR .i64 g/\∃y,let r:=aY 2 b (cN b) y;dP y X 6/\(T4 (2:Int) (6:Int) b Z0 1 0 0 (h=Dk r/\V=V/\g=y/\L7 A A b (Ef c7 v=r/\True)))/\Dc (6-y)<Dc (6-x))/\(c15=false->inR .i64 u/\∃y,cE b (cN b) x y/\(L3 (2:Int) (6:Int) b Z0 1 0 0 f x (T2 V x A A b (u=y/\z8 A A b c7)))/\Dc (3-y)<Dc (3-e)))/\(c13=false->inR IntKind.i64 g/\∃y,let j:=aY 2 b (cN b) y;
  dP y X 6/\(T4 (2:Int) (6:Int) b Z0 1 0 0 (f=Dk j/\V=V/\g=y/\L7 A A b (c7=j/\True)))/\Dc (6-y)<Dc (6-x))))/\(Dp x V=false->(c3->f=f/\(i*24)<=140737488355328/\i<=9223372036854775807/\Dk c12=i/\c12=c5/\True)/\(c3=false->f=f/\c7=c5/\True))))) KS6 λ_=>?_
 have hm:(b).length=b.length:=rfl;refine Z9 ?_;exact Jb hm (by decide) (by decide)
def aHa(v:LC)(j i:LB)(b:Lo)(r:Ll)(u:Lk): ah Tryz.prog G0 192 [.dat I 3,.dat I 12,.dat (.sl Of) b,.fn 191 [.ip N (v,j,i,b,r,u)],.fn 193 [.ip N (v,j,i,b,r,u)]] [] ⟨True,.dat (.sl Fa) (bQ 3 12 (aM b) (fy (v,j,i,b,r,u))),[]⟩:=by
 refine zE (A:=(lvA [(4,[0,1,7,10,11,12,13,15,16,24,25,28,29]),(7,[0,1,7,10,11,12,13,15,16,24,25,28,29])] (Jc 3 12 (aM b) (fy (v,j,i,b,r,u))))) (p:=let g:=Df (aM b);let A:=(v,j,i,b,r,u);let c2:=fy A;let c3:=Df b;let c4:=Ey c3 12;let c5:=Ei c3 12;let c6:=[((3:Int),(12:Int),(2:Int))];let c7:=bQ 3 12 (aM b) c2;(True->L5 1 0 ((∃x,let X:=aY 3 (aM b) c2 x;dP x g 12/\T4 (3:Int) (12:Int) b Z0 1 0 0 (Dk X=0/\X=Dt (Int×Int×Int)/\c4=c4/\0=x/\Q3 A A A b (X=Dt (Int×Int×Int)/\True)))/\∀(x:Int),let c9:=aY 3 (aM b) c2 x;let f:=Dk c9;let c12:=x+1;let c13:=f+Dk c6;let c14:=Ef c9 c6;dP x g 12->(Dp x c4->L5 1 0 ((∃e,cE (aM b) c2 x e/\L3 (3:Int) (12:Int) b Z0 1 0 0 f x (T6 c4 x A A A b (0=e/\v6 A A A b c9)))/\∀(e:Int),let c15:=Dp e 3;let V:=Du [bY (aM b) x,rule2 (aM b) x,cB c2 x] (Dc e) 0;let T:=Dw V 0;let O:=[((3:Int),x,V)];let h:=f+Dk O;let L:=e+1;cE (aM b) c2 x e->(c15->0<=e/\e<Dz 3/\(Dc e=0->idx x c3)/\(Dc e=1->JE x c3)/\(Dc e=2->idx x c3/\b=b)/\(T->f=f/\(h*24)<=140737488355328/\h<=9223372036854775807/\inR .i64 c12/\∃y,let G:=aY 3 (aM b) c2 y;dP y g 12/\(T4 (3:Int) (12:Int) b Z0 1 0 0 (h=Dk G/\c4=c4/\c12=y/\Q3 A A A b (Ef c9 O=G/\True)))/\Dc (12-y)<Dc (12-x))/\(T=false->inR .i64 L/\∃y,cE (aM b) c2 x y/\(L3 (3:Int) (12:Int) b Z0 1 0 0 f x (T6 c4 x A A A b (L=y/\v6 A A A b c9)))/\Dc (3-y)<Dc (3-e)))/\(c15=false->inR .i64 c12/\∃y,let z:=aY 3 (aM b) c2 y;
  dP y g 12/\(T4 (3:Int) (12:Int) b Z0 1 0 0 (f=Dk z/\c4=c4/\c12=y/\Q3 A A A b (c9=z/\True)))/\Dc (12-y)<Dc (12-x))))/\(Dp x c4=false->(c5->f=f/\(c13*24)<=140737488355328/\c13<=9223372036854775807/\Dk c14=c13/\c14=c7/\True)/\(c5=false->f=f/\c9=c7/\True))))) KS6 λ_=>?_
 have hm:(aM b).length=b.length:=map_length _ b;refine Z9 ?_;exact Jb hm (by decide) (by decide)
def aG9(v:LC)(j i:LB)(u:Lo)(b:Ll)(r:Lk): ah Tryz.prog G0 196 [.dat I 4,.dat I 40,.dat (.sl Ln) b,.fn 195 [.ip N (v,j,i,u,b,r)],.fn 197 [.ip N (v,j,i,u,b,r)]] [] ⟨True,.dat (.sl Fa) (bQ 4 40 (aN b) (d5 (v,j,i,u,b,r))),[]⟩:=by
 refine zE (A:=(lvA [(4,[0,1,7,10,11,12,13,15,16,24,25,28,29]),(7,[0,1,7,10,11,12,13,15,16,24,25,28,29])] (Jc 4 40 (aN b) (d5 (v,j,i,u,b,r))))) (p:=let g:=Df (aN b);let A:=(v,j,i,u,b,r);let c2:=d5 A;let c3:=Df b;let c4:=Ey c3 40;let c5:=Ei c3 40;let c6:=[((4:Int),(40:Int),(2:Int))];let c7:=bQ 4 40 (aN b) c2;(True->L5 1 0 ((∃x,let X:=aY 4 (aN b) c2 x;dP x g 40/\T4 (4:Int) (40:Int) b Z0 1 0 0 (Dk X=0/\X=Dt (Int×Int×Int)/\c4=c4/\0=x/\Q3 A A A b (X=Dt (Int×Int×Int)/\True)))/\∀(x:Int),let c9:=aY 4 (aN b) c2 x;let f:=Dk c9;let c12:=x+1;let c13:=f+Dk c6;let c14:=Ef c9 c6;dP x g 40->(Dp x c4->L5 1 0 ((∃e,cE (aN b) c2 x e/\L3 (4:Int) (40:Int) b Z0 1 0 0 f x (T6 c4 x A A A b (0=e/\v6 A A A b c9)))/\∀(e:Int),let c15:=Dp e 3;let V:=Du [bY (aN b) x,rule2 (aN b) x,cB c2 x] (Dc e) 0;let T:=Dw V 0;let O:=[((4:Int),x,V)];let h:=f+Dk O;let L:=e+1;cE (aN b) c2 x e->(c15->0<=e/\e<Dz 3/\(Dc e=0->idx x c3)/\(Dc e=1->JE x c3)/\(Dc e=2->idx x c3/\b=b)/\(T->f=f/\(h*24)<=140737488355328/\h<=9223372036854775807/\inR .i64 c12/\∃y,let G:=aY 4 (aN b) c2 y;dP y g 40/\(T4 (4:Int) (40:Int) b Z0 1 0 0 (h=Dk G/\c4=c4/\c12=y/\Q3 A A A b (Ef c9 O=G/\True)))/\Dc (40-y)<Dc (40-x))/\(T=false->inR .i64 L/\∃y,cE (aN b) c2 x y/\(L3 (4:Int) (40:Int) b Z0 1 0 0 f x (T6 c4 x A A A b (L=y/\v6 A A A b c9)))/\Dc (3-y)<Dc (3-e)))/\(c15=false->inR .i64 c12/\∃y,let z:=aY 4 (aN b) c2 y;
  dP y g 40/\(T4 (4:Int) (40:Int) b Z0 1 0 0 (f=Dk z/\c4=c4/\c12=y/\Q3 A A A b (c9=z/\True)))/\Dc (40-y)<Dc (40-x))))/\(Dp x c4=false->(c5->f=f/\(c13*24)<=140737488355328/\c13<=9223372036854775807/\Dk c14=c13/\c14=c7/\True)/\(c5=false->f=f/\c9=c7/\True))))) KS6 λ_=>?_
 have hm:(aN b).length=b.length:=map_length _ b;refine Z9 ?_;exact Jb hm (by decide) (by decide)
def aG8(V:LC)(L G:LB)(T:Lo)(O:Ll)(b:Lk): ah Tryz.prog G0 200 [.dat I 5,.dat I 4,.dat (.sl Kl) b,.fn 199 [.ip N (V,L,G,T,O,b)],.fn 201 []] [] ⟨True,.dat (.sl Fa) (bQ 5 4 (aO b) (bP b)),[]⟩:=by
 refine zE (A:=(lvA [(4,[0,1,7,10,11,12,13,15,16,24,25,28,29]),(7,[0,1,7,10,11,12,13,15,16,24,25,28,29])] (Jc 5 4 (aO b) (bP b)))) (p:=let g:=Df (aO b);let c1:=Df b;let c2:=Ey c1 4;let A:=(V,L,G,T,O,b);let c4:=Ei c1 4;let c5:=[((5:Int),(4:Int),(2:Int))];let c6:=bQ 5 4 (aO b) (bP b);(True->L5 1 0 ((∃x,let c7:=aY 5 (aO b) (bP b) x;dP x g 4/\T4 (5:Int) (4:Int) b Z0 1 0 0 (Dk c7=0/\c7=Dt (Int×Int×Int)/\c2=c2/\0=x/\L7 A A b (c7=Dt (Int×Int×Int)/\True)))/\∀(x:Int),let h:=aY 5 (aO b) (bP b) x;let X:=Dk h;let f:=x+1;let c12:=X+Dk c5;let c13:=Ef h c5;dP x g 4->(Dp x c2->L5 1 0 ((∃e,cE (aO b) (bP b) x e/\L3 (5:Int) (4:Int) b Z0 1 0 0 X x (T2 c2 x A A b (0=e/\z8 A A b h)))/\∀(e:Int),let c14:=Dp e 3;let c15:=Du [bY (aO b) x,rule2 (aO b) x,cB (bP b) x] (Dc e) 0;let z:=Dw c15 0;let v:=[((5:Int),x,c15)];let i:=X+Dk v;let u:=e+1;cE (aO b) (bP b) x e->(c14->0<=e/\e<Dz 3/\(Dc e=0->idx x c1)/\(Dc e=1->JE x c1)/\(Dc e=2->idx x c1)/\(z->X=X/\(i*24)<=140737488355328/\i<=9223372036854775807/\inR .i64 f/\∃y,let r:=aY 5 (aO b) (bP b) y;dP y g 4/\(T4 (5:Int) (4:Int) b Z0 1 0 0 (i=Dk r/\c2=c2/\f=y/\L7 A A b (Ef h v=r/\True)))/\Dc (4-y)<Dc (4-x))/\(z=false->inR .i64 u/\∃y,cE (aO b) (bP b) x y/\(L3 (5:Int) (4:Int) b Z0 1 0 0 X x (T2 c2 x A A b (u=y/\z8 A A b h)))/\Dc (3-y)<Dc (3-e)))/\(c14=false->inR .i64 f/\∃y,let j:=aY 5 (aO b) (bP b) y;
  dP y g 4/\(T4 (5:Int) (4:Int) b Z0 1 0 0 (X=Dk j/\c2=c2/\f=y/\L7 A A b (h=j/\True)))/\Dc (4-y)<Dc (4-x))))/\(Dp x c2=false->(c4->X=X/\(c12*24)<=140737488355328/\c12<=9223372036854775807/\Dk c13=c12/\c13=c6/\True)/\(c4=false->X=X/\h=c6/\True))))) KS6 λ_=>?_
 have hm:(aO b).length=b.length:=map_length _ b;refine Z9 ?_;exact Jb hm (by decide) (by decide)
def KS7: ai Tryz.prog G0 K7:=
 af (ae λ(k,m,b,(r,f,e,j,g,i),_,_)=>ah.of_pre λ(h:k=1/\m=6/\b=r)=>by obtain⟨rfl,rfl,rfl⟩:=h;exact((aHc b f e j g i).weaken λ_=>trivial)) <|
 af (ae λ(k,m,b,(r,f,e,j,g,i),_,_)=>ah.of_pre λ(h:k=2/\m=6/\b=e)=>by obtain⟨rfl,rfl,rfl⟩:=h;exact((aHb r f b j g i).weaken λ_=>trivial)) <|
 af (ae λ(k,m,b,(r,f,e,j,g,i),u,_)=>ah.of_pre λ(h:k=3/\m=12/\b=j/\u=(r,f,e,j,g,i))=>by obtain⟨rfl,rfl,rfl,rfl⟩:=h;exact((aHa r f e b g i).weaken λ_=>trivial)) <|
 af (ae λ(k,m,b,(r,f,e,j,g,i),u,_)=>ah.of_pre λ(h:k=4/\m=40/\b=g/\u=(r,f,e,j,g,i))=>by obtain⟨rfl,rfl,rfl,rfl⟩:=h;exact((aG9 r f e j b i).weaken λ_=>trivial)) <|
 af (ae λ(k,m,b,(r,f,e,j,g,i),_,_)=>ah.of_pre λ(h:k=5/\m=4/\b=i)=>by obtain⟨rfl,rfl,rfl⟩:=h;exact((aG8 r f e j g b).weaken λ_=>trivial))<|KS6
def lk(e b:Int)(l:List ByteArray)(g:List Bool)(h:0<=b): (bQ e b l g).length<=b.toNat+1:=by
 unfold bQ HB;have:=nK e l g (min l.length b);rw[qF];split<;>simp only[qV,xI]<;>omega
def CP(f:LC)(g b:LB)(i:Lo)(h:Ll)(e:Lk): di (f,g,b,i,h,e)=EU (f,g,b,i,h,e)++(bQ 1 6 (aK f g) (bH f)++(bQ 2 6 b (cN b)++(bQ 3 12 (aM i) (fy (f,g,b,i,h,e))++(bQ 4 40 (aN h) (d5 (f,g,b,i,h,e))++bQ 5 4 (aO e) (bP e))))):=by
 unfold di aG;rw[show(Int.toNat 6-1)=5 from rfl,show List.range 5=[0,1,2,3,4]from rfl];simp only[qAf,qDi,vY];rfl
abbrev xF:=IP [.row N] (λ_=>True) (λ(n,_)=>.buf 0 (Dk (di n))) λ(n,_)=>.buf 177 Fa (di n) []
def WT: eO 129 xF:=yy λ(((f,z,g,j,i,h):Net),_)=>by
 refine zE (A:=az) (p:=let X:=(5:Int)=(5:Int)/\(4:Int)=(4:Int)/\h=h;let c36:=(2:Int)=(2:Int)/\(6:Int)=(6:Int)/\g=g;let c35:=(1:Int)=(1:Int)/\(6:Int)=(6:Int)/\f=f;let c1:=Dw (Df z) (Df f);let c2:=[((1:Int),(-1:Int),(1:Int))];let A:=Dk c2;let c4:=bQ 1 6 (aK f z) (bH f);let e:=Dk c4;let c6:=A+e;let c7:=Ef c2 c4;let c8:=bQ 2 6 g (cN g);let c9:=Dk c8;let y:=c6+c9;let b:=(f,z,g,j,i,h);let c34:=(4:Int)=(4:Int)/\(40:Int)=(40:Int)/\i=i/\b=b;let c33:=(3:Int)=(3:Int)/\(12:Int)=(12:Int)/\j=j/\b=b;let c12:=Ef c7 c8;let c13:=bQ 3 12 (aM j) (fy b);let c14:=Dk c13;let c15:=y+c14;let c16:=Ef c12 c13;let V:=bQ 4 40 (aN i) (d5 b);let c18:=Dk V;let x:=c15+c18;let c20:=Ef c16 V;let T:=bQ 5 4 (aO h) (bP h);let c22:=Dk T;let O:=x+c22;let L:=di b;let c25:=Dk L;let v:=e+c9;let c27:=Ef c4 c8;let u:=v+c14;let c29:=Ef c27 c13;let r:=u+c18;let c31:=Ef c29 V;let G:=r+c22;
  (True->(c1->(A*24)<=140737488355328/\A<=9223372036854775807/\c35/\A=A/\(c6*24)<=140737488355328/\c6<=9223372036854775807/\c36/\Dk c7=c6/\(y*24)<=140737488355328/\y<=9223372036854775807/\c33/\Dk c12=y/\(c15*24)<=140737488355328/\c15<=9223372036854775807/\c34/\Dk c16=c15/\(x*24)<=140737488355328/\x<=9223372036854775807/\X/\Dk c20=x/\(O*24)<=140737488355328/\O<=9223372036854775807/\O=c25/\Ef c20 T=L/\True)/\(c1=false->c35/\(e*24)<=140737488355328/\e<=9223372036854775807/\c36/\e=e/\(v*24)<=140737488355328/\v<=9223372036854775807/\c33/\Dk c27=v/\(u*24)<=140737488355328/\u<=9223372036854775807/\c34/\Dk c29=u/\(r*24)<=140737488355328/\r<=9223372036854775807/\X/\Dk c31=r/\(G*24)<=140737488355328/\G<=9223372036854775807/\G=c25/\Ef c31 T=L/\True))) KS7 λ_=>?_
 have h1:=lk 1 6 (aK f z) (bH f) (by decide);have h2:=lk 2 6 g (cN g) (by decide);have h3:=lk 3 12 (aM j) (fy (f,z,g,j,i,h)) (by decide);have h4:=lk 4 40 (aN i) (d5 (f,z,g,j,i,h)) (by decide);have h5:=lk 5 4 (aO h) (bP h) (by decide);rw[CP];refine Z9 ?_;refine⟨λhne=>?_,λhe=>?_⟩
 .rw[show EU (f,z,g,j,i,h)=[(1,-1,1)]from if_neg λe=>hne (yP Int.ofNat e)];generalize bQ 1 6 _ _=a1 at *;generalize bQ 2 6 _ _=a2 at *;generalize bQ 3 12 _ _=a3 at *;generalize bQ 4 40 _ _=a4 at *;generalize bQ 5 4 _ _=a5 at *;simp only[qF,qV,wG]
  and_intros<;>first | omega | rfl
 .rw[show EU (f,z,g,j,i,h)=[]from if_pos (Int.ofNat.inj he)];generalize bQ 1 6 _ _=a1 at *;generalize bQ 2 6 _ _=a2 at *;generalize bQ 3 12 _ _=a3 at *;generalize bQ 4 40 _ _=a4 at *;generalize bQ 5 4 _ _=a5 at *;simp only[qF,kN,wG]
  and_intros<;>first | omega | rfl
abbrev M: Ty:=.sl R
def upN(k n:Int): Prop:=0<=k/\k<=n
def dI(n:Net): Bool:=iZ n&&n.2.2.2.1.all λo=>decide (o.2.2.2.2.2.2.length<=30)
def TM(n:Net)(k i:Int): Prop:=dI n=true/\1<=k/\k<=5/\0<=i/\i<(aj n k).length
def IL(n:Net)(k i:Int): Bool:=(gj n k).getD i.toNat false
def br(n:Net)(k i:Int): List ByteArray:=(aj n k).take i.toNat
def au(n:Net)(k i:Int): List (Int×Int×Int):=aG n k++aY k (aj n k) (gj n k) i
def nUp(n:Net)(k i:Int): Prop:=0<=i/\i<=(aj n k).length/\i<=bS k
def kUp(k:Int): Prop:=1<=k/\k<=6
def OJ(b:List (Int×List Bool×Li))(k:Int): Prop:=0<=k/\k<=b.length/\(b.take k.toNat).all (λc=>oj c.2.1 c.2.2)=true
def Na(b:Lo)(k:Int): Prop:=0<=k/\k<=b.length/\(b.take k.toNat).all (λo=>decide (o.2.2.2.2.2.2.length<=30))=true
def om(l:List ByteArray): Bool:=l.all λs=>decide (s.size<=40)
def EM(n:Net)(k:Int): Prop:=1<=k/\k<=6/\∀j:Int,1<=j->j<k->om (aj n j)=true
def X5(l:List ByteArray)(i:Int): Prop:=0<=i/\i<=l.length/\om (l.take i.toNat)=true
def UR(n:Net): Bool:=iZ n&&(n.1.all λc=>oj c.2.1 c.2.2)&&(n.2.2.2.1.all λo=>decide (o.2.2.2.2.2.2.length<=30))&&om (aj n 1)&&om (aj n 2)&&om (aj n 3)&&om (aj n 4)&&om (aj n 5)
def uk(a b:Lj): Bool:=a==b
def DU(a b:Lj)(k:Int): Prop:=0<=k/\k<=a.length/\a.length=b.length/\a.length<=1000000/\a.take k.toNat=b.take k.toNat
def DW(a b:Lj)(i k:Int): Prop:=0<=k/\k<=(a.getD i.toNat []).length/\(a.getD i.toNat []).length=(b.getD i.toNat []).length/\(a.getD i.toNat []).length<=1000000/\(a.getD i.toNat []).take k.toNat=(b.getD i.toNat []).take k.toNat
def mild(a:Lj): Prop:=a.length<=1000000/\∀r∈a,r.length<=1000000
def noF(n:Net): Bool:=(di n).isEmpty
def K8: Kt:=kOr 129 xF K7
def TQ(n:Net)(k:Int)(b slot:Nat)(st:St)(xs:List ByteArray): Option Spec:=some {α:=Int,inv:=λi=>upN i (Df (aj n k)),st:=λi=>fu (put st [(slot,.dat I i),(5,.buf 100 (Dk (br n k i)))]) 100 (.buf 9 S (br n k i) []),μ:=λi=>Dc (Di (Df (aj n k)) i)}
def aEA(n:Net): Ann:=⟨λe b=>match e with
 | 5=>TQ n 1 5 6 b []
 | 12=>TQ n 2 12 7 b []
 | 17=>TQ n 3 17 8 b []
 | 22=>TQ n 4 22 9 b []
 | 27=>TQ n 5 27 10 b []
 | _=>none,λ_ _=>none,λ_ _=>none⟩
def aDZ(a b:Lj): Ann:=⟨λe st=>match e with
 | 4=>some {α:=Int,inv:=λk=>DU a b k,st:=λk=>put st [(5,.dat I k)],μ:=λk=>Dc (Di (Df a) k)}
 | 9=>match st.sig.T 5 with
  | .dat (.int .i64) i=>some {α:=Int,inv:=λk=>DW a b i k,st:=λk=>put st [(6,.dat I k)],μ:=λk=>Dc (Di (Df (Du a (Dc i) [])) k)}
  | _=>none
 | _=>none,λ_ _=>none,λ_ _=>none⟩
abbrev BO:=al [.row N,.val I] (λ(n,_,_)=>iZ n=true) λ(n,k,_)=>.dat (.sl S) (aj n k)
abbrev tw:=al [.row N,.val I,.val I] (λ(n,k,i,_)=>TM n k i) λ(n,k,i,_)=>.dat .bool (IL n k i)
def K9: Kt:=kOr 168 BO <|
 kOr 279 tw K8
def aEW(l:List ByteArray)(i:Int): Ann:=Z8 5 Int (uj l i) (λb k=>put b [(10,.dat I k)]) λk=>Dc (Di i k)
def aJO(n:Net): Ann:=⟨λb st=>match b with
 | 4=>some {α:=Int,inv:=λk=>OJ n.1 k,st:=λk=>put st [(3,.dat I k)],μ:=λk=>Dc (Di (Df n.1) k)}
 | 9=>some {α:=Int,inv:=λk=>Na n.2.2.2.1 k,st:=λk=>put st [(4,.dat I k)],μ:=λk=>Dc (Di (Df n.2.2.2.1) k)}
 | 14=>some {α:=Int,inv:=λk=>EM n k,st:=λk=>put st [(5,.dat I k)],μ:=λk=>Dc (Di 6 k)}
 | 18=>match st.sig.T 5 with
  | .dat (.int .i64) k=>some {α:=Int,inv:=λi=>X5 (aj n k) i,st:=λi=>put st [(7,.dat I i)],μ:=λi=>Dc (Di (Df (aj n k)) i)}
  | _=>none
 | _=>none,λ_ _=>none,λ_ _=>none⟩
abbrev N6:=al [.row N] (λ_=>True) λ(n,_)=>.dat .bool (UR n)
def K10: Kt:=kOr 227 (al [.row N,.val I,.val (.sl S),.val I] (λ(n,k,l,i,_)=>TM n k i/\l=aj n k) λ(n,k,_,i,_)=>.dat I (oz (aj n k) (gj n k) i)) <|
 kOr 104 N6 K9
def XH(n:Net): Ann:=⟨λb st=>match b with
 | 5=>some {α:=Int,inv:=λk=>kUp k,st:=λk=>fu (put st [(4,.dat I k),(3,.buf 0 (Dk (aG n k)))]) 0 (.buf 177 Fa (aG n k) []),μ:=λk=>Dc (Di 6 k)}
 | 9=>match st.sig.T 4 with
  | .dat (.int .i64) k=>some {α:=Int,inv:=λi=>nUp n k i,st:=λi=>fu (put st [(6,.dat I i),(3,.buf 0 (Dk (au n k i)))]) 0 (.buf 177 Fa (au n k i) []),μ:=λi=>Dc (Di (Df (aj n k)) i)}
  | _=>none
 | _=>none,λ_ _=>none,λ_ _=>none⟩
abbrev td:=IP [.row N] (λ(n,_)=>dI n=true) (λ(n,_)=>.buf 0 (Dk (di n))) λ(n,_)=>.buf 177 Fa (di n) []
def K11: Kt:=kOr 176 td K10
abbrev mZ:=al [.row N] (λ(n,_)=>dI n=true) λ(n,_)=>.dat .bool (noF n)
def K12: Kt:=kOr 228 mZ K11
def KS8: ai Tryz.prog G0 K8:=af WT KS7
def KD{n:Net}{k i:Int}(e:0<=i)(b:i<=(aj n k).length): (br n k i).length=i.toNat:=by
 unfold br;rw[qL];omega
def HU{n:Net}{k i:Int}(e:0<=i)(b:i<(aj n k).length): br n k (i+1)=br n k i++[(aj n k).getD i.toNat ⟨#[]⟩]:=by
 unfold br;rw[show(i+1).toNat=i.toNat+1 by omega,wU,qA,qB (show i.toNat<(aj n k).length by omega)];rfl
def KE{n:Net}{k i:Int}(e:i<=(aj n k).length)(b:¬i<(aj n k).length): br n k i=aj n k:=by
 unfold br;exact qN Z
def HS{n:Net}{k:Int}{m:Nat}{el:Int->ByteArray}(r:(aj n k).length=m)(hm:m<=100)(i:∀x,0<=x->x<(m:Int)->(aj n k).getD x.toNat ⟨#[]⟩=el x){R:List ByteArray}(j:R=aj n k):
  (∃x,upN x (aj n k).length/\(br n k x).length=0/\br n k x=[]/\0=x/\br n k x=[])/\
   ∀(x:Int),upN x (aj n k).length->
    (x<(m:Int)->0<=x/\x<(m:Int)/\((br n k x).length+[el x].length)*16<=140737488355328/\(br n k x).length+[el x].length<=9223372036854775807/\inR .i64 (x+1)/\
     ∃y,upN y (aj n k).length/\((br n k x).length+[el x].length=(br n k y).length/\x+1=y/\br n k x++[el x]=br n k y)/\(((aj n k).length:Int)-y).toNat<(((aj n k).length:Int)-x).toNat)/\
    (¬x<(m:Int)->br n k x=R):=by
 refine⟨⟨0,⟨qH _,qM _⟩,rfl,rfl,rfl,rfl⟩,λx ⟨e,g⟩=>⟨λb=>?_,λh=>by rw[j];exact KE g Z⟩⟩;have u:=KD e g;have f:=HU e (show x<((aj n k).length:Int) by omega);rw[i x e b]at f;refine⟨e,b,by simp only[qV];omega,by simp only[qV];omega,⟨Z,Z⟩,x+1,⟨Z,Z⟩,⟨by rw[f,qF],rfl,f.symm⟩,Z⟩
def E9(i:LC)(e b:LB)(h:Lo)(f:Ll)(g:Lk)(j:iZ (i,e,b,h,f,g)=true): i.length<=10/\e.length<=10/\b.length<=10/\h.length<=16/\f.length<=50/\g.length<=8:=vN j
def aAI: eO 168 BO:=ae λ(((r,f,g,j,h,i):Net),(k:Int),_)=>by
 refine zE (A:=(lvA [(5,[2,4,5,6,7,8,9,10,11]),(12,[2,4,5,7,8,9,10,11]),(17,[2,4,5,8,9,10,11]),(22,[2,4,5,9,10,11]),(27,[2,4,5,10])] (aEA (r,f,g,j,h,i)))) (p:=let c5:=ByteArray.mk #[];let e:=(r,f,g,j,h,i);let c2:=Ec k 1;let A:=Df (aj e 1);let c4:=[ByteArray.mk #[]];let T:=aj e k;let c7:=Ec k 2;let c8:=Df (aj e 2);let c9:=Ec k 3;let O:=Df (aj e 3);let c11:=Df j;let c13:=Ec k 4;let V:=Df (aj e 4);let c15:=Df h;let c16:=((0:Int),(0:Int));let c18:=Ec k 5;let L:=Df (aj e 5);let c20:=Df i;(iZ e->(c2->(∃x,let c22:=br e 1 x;upN x A/\L5 e Z0 (Dk c22=0/\c22=Dt ByteArray/\0=x/\k=k/\c22=Dt ByteArray/\True))/\∀(x:Int),let c23:=Dp x (Df r);let c24:=Dp x (Df f);let c25:=br e 1 x;let b:=Dk c25;let c27:=[Du f (Dc x) c5];let c28:=b+Dk c27;let X:=x+1;let c30:=b+(Dk c4);upN x A->(c23->(c24->0<=x/\x<Df f/\b=b/\(c28*16)<=140737488355328/\c28<=9223372036854775807/\inR .i64 X/\∃y,let c31:=br e 1 y;upN y A/\(L5 e Z0 (c28=Dk c31/\X=y/\k=k/\Ef c25 c27=c31/\True))/\Dc (A-y)<Dc (A-x))/\(c24=false->b=b/\(c30*16)<=140737488355328/\c30<=9223372036854775807/\inR .i64 X/\∃y,let c32:=br e 1 y;upN y A/\(L5 e Z0 (c30=Dk c32/\X=y/\k=k/\Ef c25 c4=c32/\True))/\Dc (A-y)<Dc (A-x)))/\(c23=false->b=b/\c25=T/\True))/\(c2=false->(c7->(∃x,let c33:=br e 2 x;upN x c8/\L5 e Z0 (Dk c33=0/\c33=Dt ByteArray/\0=x/\k=k/\c33=Dt ByteArray/\True))/\∀(x:Int),let c34:=Dp x (Df g);let c35:=br e 2 x;let G:=Dk c35;let c37:=[Du g (Dc x) c5];let c38:=G+Dk c37;let c39:=x+1;
  upN x c8->(c34->0<=x/\x<Df g/\G=G/\(c38*16)<=140737488355328/\c38<=9223372036854775807/\inR .i64 c39/\∃y,let c40:=br e 2 y;upN y c8/\(L5 e Z0 (c38=Dk c40/\c39=y/\k=k/\Ef c35 c37=c40/\True))/\Dc (c8-y)<Dc (c8-x))/\(c34=false->G=G/\c35=T/\True))/\(c7=false->(c9->(∃x,let c41:=br e 3 x;upN x O/\L5 e Z0 (Dk c41=0/\c41=Dt ByteArray/\0=x/\k=k/\c41=Dt ByteArray/\True))/\∀(x:Int),let c42:=br e 3 x;let z:=Dk c42;let c44:=[(Du j (Dc x) (ByteArray.mk #[],(0:Int),(0:Int),(0:Int),(0:Int),(0:Int),Dt ByteArray)).1];let c45:=z+Dk c44;let c46:=x+1;upN x O->(Dp x c11->0<=x/\x<c11/\z=z/\(c45*16)<=140737488355328/\c45<=9223372036854775807/\inR .i64 c46/\∃y,let c47:=br e 3 y;upN y O/\(L5 e Z0 (c45=Dk c47/\c46=y/\k=k/\Ef c42 c44=c47/\True))/\Dc (O-y)<Dc (O-x))/\(Dp x c11=false->z=z/\c42=T/\True))/\(c9=false->(c13->(∃x,let c48:=br e 4 x;upN x V/\L5 e Z0 (Dk c48=0/\c48=Dt ByteArray/\0=x/\k=k/\c48=Dt ByteArray/\True))/\∀(x:Int),let c49:=br e 4 x;let v:=Dk c49;let c51:=[(Du h (Dc x) (ByteArray.mk #[],(0:Int),(0:Int),(0:Int),c16)).1];let c52:=v+Dk c51;let c53:=x+1;upN x V->(Dp x c15->0<=x/\x<c15/\v=v/\(c52*16)<=140737488355328/\c52<=9223372036854775807/\inR .i64 c53/\∃y,let c54:=br e 4 y;upN y V/\(L5 e Z0 (c52=Dk c54/\c53=y/\k=k/\Ef c49 c51=c54/\True))/\Dc (V-y)<Dc (V-x))/\(Dp x c15=false->v=v/\c49=T/\True))/\(c13=false->(c18->(∃x,let c55:=br e 5 x;
  upN x L/\L5 e Z0 (Dk c55=0/\c55=Dt ByteArray/\0=x/\c55=Dt ByteArray/\True))/\∀(x:Int),let c56:=br e 5 x;let u:=Dk c56;let c58:=[(Du i (Dc x) (ByteArray.mk #[],c16)).1];let c59:=u+Dk c58;let c60:=x+1;upN x L->(Dp x c20->0<=x/\x<c20/\u=u/\(c59*16)<=140737488355328/\c59<=9223372036854775807/\inR .i64 c60/\∃y,let c61:=br e 5 y;upN y L/\(L5 e Z0 (c59=Dk c61/\c60=y/\Ef c56 c58=c61/\True))/\Dc (L-y)<Dc (L-x))/\(Dp x c20=false->u=u/\c56=T/\True))/\(c18=false->T=Dt ByteArray/\True))))))) KS8 λhp=>?_
 obtain⟨l1,l2,l3,l4,l5,l6⟩:=E9 r f g j h i hp;refine Z9 ?_;refine⟨λT=>?_,λV=>⟨λT=>?_,λh2=>⟨λT=>?_,λh3=>⟨λT=>?_,λh4=>⟨λT=>?_,λh5=>?_⟩⟩⟩⟩⟩
 .subst T;have hl:(aj (r,f,g,j,h,i) 1).length=r.length:=fk r f;obtain⟨b1,b2⟩:=HS (n:=(r,f,g,j,h,i)) (k:=1) (el:=λx=>f.getD x.toNat ⟨#[]⟩) (R:=aj (r,f,g,j,h,i) 1) hl Z (λx h0 V=>zg h0 V) rfl;refine⟨b1,λx hx=>⟨λhlt=>⟨λhn=>⟨hx.1,hn,((b2 x hx).1 hlt).2.2⟩,λhn=>?_⟩,(b2 x hx).2⟩⟩;have e:f.getD x.toNat ⟨#[]⟩=⟨#[]⟩:=by rw[qA,zH (by have:=hx.1;omega)];rfl
  have:=((b2 x hx).1 hlt).2.2;simp only[e]at this;exact this
 .subst T;exact HS (n:=(r,f,g,j,h,i)) (k:=2) (m:=g.length) (el:=λx=>g.getD x.toNat ⟨#[]⟩) rfl Z (λx _ _=>rfl) rfl
 .subst T;exact HS (n:=(r,f,g,j,h,i)) (k:=3) (m:=j.length) (el:=λx=>(j.getD x.toNat (⟨#[]⟩,0,0,0,0,0,[])).1) (map_length _ j) Z (λx h0 V=>PS _ h0 V) rfl
 .subst T;exact HS (n:=(r,f,g,j,h,i)) (k:=4) (m:=h.length) (el:=λx=>(h.getD x.toNat (⟨#[]⟩,0,0,0,0,0)).1) (map_length _ h) Z (λx h0 V=>PS _ h0 V) rfl
 .subst T;exact HS (n:=(r,f,g,j,h,i)) (k:=5) (m:=i.length) (el:=λx=>(i.getD x.toNat (⟨#[]⟩,0,0)).1) (map_length _ i) Z (λx h0 V=>PS _ h0 V) rfl
 .unfold aj;rw[if_neg V,if_neg h2,if_neg h3,if_neg h4,if_neg h5]
def Ff{n:Net}: dI n=true↔iZ n=true/\∀o∈n.2.2.2.1,o.2.2.2.2.2.2.length<=30:=by
 unfold dI;rw[qC,qO];simp only[qE]
def getD_mem{α:Type}{l:List α}{i:Nat}{d:α}(h:i<l.length): l.getD i d∈l:=by
 rw[qA,qB h];exact wL h
def RI: eO 279 tw:=ae λ(((j,x,u,g,h,f):Net),(k:Int),(i:Int),_)=>by
 refine zE (A:=az) (p:=let v:=Dc i;let b:=(j,x,u,g,h,f);let A:=Ec k 1;let y:=Du j v ((0:Int),Dt Bool,Dt Int);let r:=IL b k i;let L:=Ec k 3;let O:=(Du g v (ByteArray.mk #[],(0:Int),(0:Int),(0:Int),(0:Int),(0:Int),Dt ByteArray));let T:=Ec k 4;let V:=((0:Int),(0:Int));let G:=Ec k 5;let z:=(Du f v (ByteArray.mk #[],V)).2;let e:=cL z.1 0 1439;(TM b k i->(A->0<=i/\i<Df j/\True/\ay y.1 y.2.1 y.2.2=r/\True)/\(A=false->(L->0<=i/\i<Df g/\Kx b O/\cU b O=r/\True)/\(L=false->(T->0<=i/\i<Df h/\iZ b/\dG b (Du h v (ByteArray.mk #[],(0:Int),(0:Int),(0:Int),V))=r/\True)/\(T=false->(G->0<=i/\i<Df f/\True/\Q4 e ((e->0<=i)/\(e->i<Df f)/\Q4 e ((e->True)/\(Dh true e->e)/\Ea e (cL z.2 0 1439) false=r/\True)))/\(G=false->true=r/\True)))))) KS8 λ⟨L,X,V,r,b⟩=>?_
 obtain⟨O,T⟩:=Ff.1 L;refine Z9 ?_;refine⟨λy=>?_,λh1=>⟨λy=>?_,λh3=>⟨λy=>?_,λh4=>⟨λy=>?_,λh5=>?_⟩⟩⟩⟩
 .subst y;have v:i<(j.length:Int):=by rw[show(aj (j,x,u,g,h,f) 1).length=j.length from fk j x]at b;exact b
  exact⟨r,v,(gR (λc:Int×List Bool×Li=>ay c.1 c.2.1 c.2.2) j _ _ _ Z).symm⟩
 .subst y;have v:i<(g.length:Int):=by rw[show(aj (j,x,u,g,h,f) 3).length=g.length from map_length _ g]at b;exact b
  exact⟨r,v,⟨O,T _ (getD_mem (by show i.toNat<g.length;omega))⟩,(gR (cU (j,x,u,g,h,f)) g _ _ _ Z).symm⟩
 .subst y;have v:i<(h.length:Int):=by rw[show(aj (j,x,u,g,h,f) 4).length=h.length from map_length _ h]at b;exact b
  exact⟨r,v,O,(gR (dG (j,x,u,g,h,f)) h _ _ _ Z).symm⟩
 .subst y;have v:i<(f.length:Int):=by rw[show(aj (j,x,u,g,h,f) 5).length=f.length from map_length _ f]at b;exact b
  exact⟨r,v,λ_=>r,λ_=>v,(gR kp f _ _ _ Z).symm⟩
 .have:k=2:=by omega
  subst this;have v:i<(u.length:Int):=b;exact(gR (λ_:ByteArray=>true) u _ ⟨#[]⟩ _ Z).symm
def jN{α:Type}{a b:List α}{k:Nat}{d:α}(h:a.take k=b.take k)(i:k<a.length)(g:k<b.length)(f:a.getD k d=b.getD k d): a.take (k+1)=b.take (k+1):=by
 rw[qA,qA,qB i,qB g]at f;have e:a[k]=b[k]:=f;rw[wU,wU,qB i,qB g,h,e]
def DT{a b:Lj}(h:a≠b): false=uk a b:=by unfold uk;exact(qAp.2 h).symm
def KS9: ai Tryz.prog G0 K9:=
 af aAI<|af RI KS8
def Nb{n:Net}{k i:Int}(h:TM n k i): i<(aj n k).length/\(aj n k).length<=100:=by
 obtain⟨x,X,V,T,v⟩:=h;obtain⟨q,_⟩:=Ff.1 x;obtain⟨g,r,j,f,b,e⟩:=n;obtain⟨O,L,G,A,z,y⟩:=E9 g r j f b e q;refine⟨v,?_⟩;have u:k=1\/k=2\/k=3\/k=4\/k=5:=Z;rcases u with rfl | rfl | rfl | rfl | rfl
 .rw[show(aj (g,r,j,f,b,e) 1).length=g.length from fk g r];omega
 .show j.length<=100;omega
 .rw[show(aj (g,r,j,f,b,e) 3).length=f.length from map_length _ f];omega
 .rw[show(aj (g,r,j,f,b,e) 4).length=b.length from map_length _ b];omega
 .rw[show(aj (g,r,j,f,b,e) 5).length=e.length from map_length _ e];omega
def aAT(k i:Int)(u:LC)(f b:LB)(r:Lo)(h:Ll)(j:Lk): ah Tryz.prog G0 227 [net u f b r h j,.dat I k,.dat (.sl S) (aj (u,f,b,r,h,j) k),.dat I i] [] ⟨TM (u,f,b,r,h,j) k i,.dat I (oz (aj (u,f,b,r,h,j) k) (gj (u,f,b,r,h,j) k) i),[]⟩:=by
 refine zE (A:=(lvA [(5,[1,2,3,4,8,10,11])] (aEW (aj (u,f,b,r,h,j) k) i))) (p:=let V:=ByteArray.mk #[];let g:=(u,f,b,r,h,j);let e:=aj g k;let z:=Df e;let A:=Du e (Dc i) V;let G:=Dj (bT A);let v:=oz e (gj g k) i;let L:=Dj (IL g k i);(TM g k i->0<=i/\i<z/\True/\(G->1=v/\True)/\(G=false->(∃x,uj e i x/\Q3 k e i g (0=x/\True))/\∀(x:Int),let c8:=Fz (Du e (Dc x) V) A;let O:=x+1;uj e i x->(Dp x i->0<=x/\x<z/\0<=i/\i<z/\(c8->4=v/\True)/\(c8=false->inR .i64 O/\∃y,uj e i y/\(Q3 k e i g (O=y/\True))/\Dc (i-y)<Dc (i-x)))/\(Dp x i=false->TM g k i/\(L->1=v/\True)/\(L=false->0=v/\True))))) KS9 λhp=>?_
 obtain⟨X,hl⟩:=Nb hp;have h0:0<=i:=hp.2.2.2.1;refine Z9 ?_;refine⟨h0,X,λG=>?_,λG=>⟨kt h0,λx v=>⟨λL=>⟨v.1,Z,h0,X,λhe=>?_,λhne=>⟨⟨by have:=v.1;omega,Z⟩,x+1,ku v L X hne,rfl,by have:=v.1;omega⟩⟩,λO=>⟨hp,λT=>?_,λT=>?_⟩⟩⟩⟩
 .have e:bY (aj (u,f,b,r,h,j) k) i=1:=if_neg (by unfold kq;rw[G];decide);unfold oz;rw[if_pos (by rw[e];decide),e]
 .have e:bY (aj (u,f,b,r,h,j) k) i=0:=if_pos G;have z:=OY v L X he;unfold oz;rw[if_neg (by rw[e];decide),if_pos (by rw[<- z];decide),z]
 .have e:bY (aj (u,f,b,r,h,j) k) i=0:=if_pos G;have z:=lI v O;unfold oz;rw[if_neg (by rw[e];decide),if_neg (by rw[<- z];decide)];unfold cB;rw[if_neg (by intro g;rw[show IL (u,f,b,r,h,j) k i=_ from g]at T;cases T)]
 .have e:bY (aj (u,f,b,r,h,j) k) i=0:=if_pos G;have z:=lI v O;unfold oz;rw[if_neg (by rw[e];decide),if_neg (by rw[<- z];decide)];unfold IL at T;unfold cB;rw[if_pos T]
def Ot{n:Net}(h:UR n=true->False): false=UR n:=by
 cases e:UR n with
 | false=>rfl
 | true=>exact(h e).elim
def nP{n:Net}: UR n=true↔iZ n=true/\(n.1.all λc=>oj c.2.1 c.2.2)=true/\(n.2.2.2.1.all λo=>decide (o.2.2.2.2.2.2.length<=30))=true/\∀j:Int,1<=j->j<6->om (aj n j)=true:=by
 unfold UR;simp only[qC,qCh];constructor
 .rintro⟨g,f,e,b,y,x,v,u⟩;refine⟨g,f,e,λj r i=>?_⟩;have h:j=1\/j=2\/j=3\/j=4\/j=5:=Z;rcases h with rfl | rfl | rfl | rfl | rfl<;>assumption
 .rintro⟨g,f,e,b⟩;exact⟨g,f,e,b 1 (by decide) (by decide),b 2 (by decide) (by decide),b 3 (by decide) (by decide),b 4 (by decide) (by decide),b 5 (by decide) (by decide)⟩
def YA{n:Net}(h:UR n=true): dI n=true:=by
 obtain⟨e,_,b,_⟩:=nP.1 h;unfold dI;rw[e,b];rfl
def aG7: eO 104 N6:=ae λ(((r,L,G,f,O,T):Net),_)=>by
 refine zE (A:=(lvA [(4,[1,2,3,4,5,6,7]),(9,[1,2,4,5,6,7]),(14,[1,2,5,6,7]),(18,[1,2,5,6,7])] (aJO (r,L,G,f,O,T)))) (p:=let g:=Df r;let A:=Ei g 10;let i:=Dj A;let c4:=Ea A true (Ei (Df L) 10);let j:=Dj c4;let c6:=Ea c4 true (Ei (Df G) 10);let u:=Dj c6;let X:=Df f;let c9:=Ea c6 true (Ei X 16);let V:=Dj c9;let c11:=Ea c9 true (Ei (Df O) 50);let z:=Dj c11;let c13:=Ea c11 true (Ei (Df T) 8);let e:=(r,L,G,f,O,T);let h:=UR e;(True->Q4 i ((Dh true i->i)/\Q4 j ((Dh true j->j)/\Q4 u ((Dh true u->u)/\Q4 V ((Dh true V->V)/\Q4 z ((Dh true z->z)/\(c13->false=h/\True)/\(c13=false->(∃x,OJ r x/\e=e/\0=x/\True)/\∀(x:Int),let c16:=(Du r (Dc x) ((0:Int),Dt Bool,Dt Int)).2;let c17:=Dj (oj c16.1 c16.2);let c18:=x+1;OJ r x->(Dp x g->0<=x/\x<g/\True/\(c17->false=h/\True)/\(c17=false->inR IntKind.i64 c18/\∃y,OJ r y/\(e=e/\c18=y/\True)/\Dc (g-y)<Dc (g-x)))/\(Dp x g=false->(∃x,Na f x/\e=e/\0=x/\True)/\∀(x:Int),let c19:=Ei (Df (Du f (Dc x) (ByteArray.mk #[],(0:Int),(0:Int),(0:Int),(0:Int),(0:Int),Dt ByteArray)).2.2.2.2.2.2) 30;let c20:=x+1;Na f x->(Dp x X->0<=x/\x<X/\(c19->false=h/\True)/\(c19=false->inR IntKind.i64 c20/\∃y,Na f y/\(e=e/\c20=y/\True)/\Dc (X-y)<Dc (X-x)))/\(Dp x X=false->(∃x,EM e x/\e=e/\1=x/\True)/\∀(x:Int),let c21:=Ee x 5;let v:=Df (aj e x);let c23:=x+1;EM e x->(c21->iZ e/\(∃b,X5 (aj e x) b/\L7 e x (aj e x) (0=b/\True))/\∀(b:Int),let c24:=Ei (Eo (Du (aj e x) (Dc b) (ByteArray.mk #[]))) 40;let c25:=b+1;
  X5 (aj e x) b->(Dp b v->0<=b/\b<v/\(c24->false=h/\True)/\(c24=false->inR .i64 c25/\∃y,X5 (aj e x) y/\(L7 e x (aj e x) (c25=y/\True))/\Dc (v-y)<Dc (v-b)))/\(Dp b v=false->inR .i64 c23/\∃y,EM e y/\(e=e/\c23=y/\True)/\Dc (6-y)<Dc (6-x)))/\(c21=false->true=h/\True))))))))))) KS9 λhp=>?_
 refine Z9 ?_;refine⟨λh=>Ot λg=>?_,λh=>?_⟩
 .obtain⟨l1,l2,l3,l4,l5,l6⟩:=E9 r L G f O T (nP.1 g).1;omega
 have hl:iZ (r,L,G,f,O,T)=true:=qW (by show r.length<=10/\L.length<=10/\G.length<=10/\f.length<=16/\O.length<=50/\T.length<=8;omega);refine⟨⟨qH _,qM _,by simp⟩,λx ⟨x0,x1,x2⟩=>⟨λu=>⟨x0,u,λhb=>Ot λg=>?_,λhg=>⟨⟨Z,Z⟩,x+1,⟨Z,Z,?_⟩,rfl,Z⟩⟩,λhge=>?_⟩⟩
 .have:=jE (l:=r) (p:=λc=>oj c.2.1 c.2.2) (d:=(0,[],[])) (k:=x.toNat) Z hb;rw[(nP.1 g).2.1]at this;cases this
 .rw[show(x+1).toNat=x.toNat+1 by omega];exact dj (d:=(0,[],[])) x2 Z hg
 have hcs:(r.all λc=>oj c.2.1 c.2.2)=true:=by rwa [qN Z]at x2
 refine⟨⟨qH _,qM _,by simp⟩,λz ⟨z0,z1,z2⟩=>⟨λu=>⟨z0,u,λhb=>Ot λg=>?_,λhg=>⟨⟨Z,Z⟩,z+1,⟨Z,Z,?_⟩,rfl,Z⟩⟩,λhge=>?_⟩⟩
 .have:=jE (l:=f) (p:=λo=>decide (o.2.2.2.2.2.2.length<=30)) (d:=(⟨#[]⟩,0,0,0,0,0,[])) (k:=z.toNat) Z (vC Z);rw[(nP.1 g).2.2.1]at this;cases this
 .rw[show(z+1).toNat=z.toNat+1 by omega];exact dj (d:=(⟨#[]⟩,0,0,0,0,0,[])) z2 Z (qW Z)
 have hfs:(f.all λo=>decide (o.2.2.2.2.2.2.length<=30))=true:=by rwa [qN Z]at z2
 refine⟨⟨qH _,by decide,λj h1 h2=>Z⟩,λk ⟨k0,k1,k2⟩=>⟨λhk=>?_,λhk=>?_⟩⟩
 .have hlen:(aj (r,L,G,f,O,T) k).length<=100:=by
   by_cases hz:(aj (r,L,G,f,O,T) k).length=0
   .omega
   .exact(Nb (n:=(r,L,G,f,O,T)) (k:=k) (i:=0) ⟨by unfold dI;rw[hl];exact hfs,k0,hk,qH _,Z⟩).2
  refine⟨hl,⟨qH _,qM _,by simp[om]⟩,λi ⟨i0,i1,i2⟩=>⟨λu=>⟨i0,u,λhb=>Ot λg=>?_,λhg=>⟨⟨Z,Z⟩,i+1,⟨Z,Z,?_⟩,rfl,Z⟩⟩,λhge=>⟨⟨Z,Z⟩,k+1,⟨Z,Z,λj h1 h2=>?_⟩,rfl,Z⟩⟩⟩
  .have:=jE (l:=aj (r,L,G,f,O,T) k) (p:=λs=>decide (s.size<=40)) (d:=⟨#[]⟩) (k:=i.toNat) Z (vC Z);have h2:=(nP.1 g).2.2.2 k k0 Z;unfold om at h2;rw[h2]at this;cases this
  .rw[show(i+1).toNat=i.toNat+1 by omega];exact dj (d:=⟨#[]⟩) i2 Z (qW Z)
  .by_cases e:j=k
   .subst e
    rwa [qN Z]at i2
   .exact k2 j h1 Z
 .exact(nP.2 ⟨hl,hcs,hfs,λj h1 h2=>k2 j h1 Z⟩).symm
def aJm: ai Tryz.prog G0 K10:=
 af (ae λ((r,e,b,j,f,g),k,l,i,_)=>ah.of_pre λ(h:TM (r,e,b,j,f,g) k i/\l=aj (r,e,b,j,f,g) k)=>by obtain⟨h,rfl⟩:=h;exact(aAT k i r e b j f g).weaken λ_=>h)<|af aG7 KS9
def qb(k:Int): 4<=bS k/\bS k<=40:=by unfold bS;split<;>(try split)<;>(try split)<;>omega
def lW{n:Net}{k:Int}(h:1<=k): aG n (k+1)=aG n k++bQ k (bS k) (aj n k) (gj n k):=by
 unfold aG;rw[show(k+1).toNat-1=(k.toNat-1)+1 by omega,zJ,qAq,<- wG]
 congr 1
 simp only[qAf,qDi,vY];rw[show((k.toNat-1:Nat):Int)+1=k by omega]
def tX(n:Net): ∀(j:Nat),(aG n (j+1)).length<=1+41*j
 | 0=>by
  have e:aG n ((0:Nat)+1)=EU n:=by unfold aG;simp
  rw[e];unfold EU;split<;>simp
 | j+1=>by
  have b:=tX n j;have e:=lW (n:=n) (k:=(j:Int)+1) Z;have g:=(qb ((j:Int)+1)).1;have f:=(qb ((j:Int)+1)).2;have:=lk ((j:Int)+1) (bS ((j:Int)+1)) (aj n ((j:Int)+1)) (gj n ((j:Int)+1)) Z;rw[show(((j+1:Nat):Int)+1)=(j:Int)+1+1 by omega,e,qF];omega
def Fo{n:Net}{k:Int}(e:1<=k)(b:k<=6): (aG n k).length<=250:=by
 have:=tX n (k.toNat-1);rw[show((k.toNat-1:Nat):Int)+1=k by omega]at this;omega
def Tm(n:Net)(k:Int): au n k 0=aG n k:=by unfold au;rw[KX,vY]
def aEp{n:Net}{k i:Int}(e:0<=i)(b:oz (aj n k) (gj n k) i≠0): au n k (i+1)=au n k i++[(k,i,oz (aj n k) (gj n k) i)]:=by
 unfold au;rw[rV e b,wG]
def aHp{n:Net}{k i:Int}(e:0<=i)(b:oz (aj n k) (gj n k) i=0): au n k (i+1)=au n k i:=by
 unfold au;rw[yf e b]
def aBL{n:Net}{k i:Int}(e:1<=k)(b:i=min ((aj n k).length:Int) (bS k))(h:((aj n k).length:Int)>bS k): au n k i++[(k,bS k,2)]=aG n (k+1):=by
 rw[lW e];unfold au bQ HB;rw[if_pos Z,<- b,wG]
def aHq{n:Net}{k i:Int}(e:1<=k)(b:i=min ((aj n k).length:Int) (bS k))(h:¬((aj n k).length:Int)>bS k): au n k i=aG n (k+1):=by
 rw[lW e];unfold au bQ HB;rw[if_neg Z,<- b,vY]
def ZJ{n:Net}{k i:Int}(e:1<=k)(b:k<=6)(f:i<=bS k): (au n k i).length<=300:=by
 have:=Fo (n:=n) e b;have:=nK k (aj n k) (gj n k) i;have:=(qb k).2;unfold au;rw[qF];omega
def Ru: eO 176 td:=yy λ(((i,f,j,v,r,u):Net),_)=>by
 refine zE (A:=(lvA [(5,[1,2,3,4,5,6,7]),(9,[1,2,3,4,5,6,7])] (XH (i,f,j,v,r,u)))) (p:=let e:=(i,f,j,v,r,u);let A:=Dw (Df f) (Df i);let T:=[((1:Int),(-1:Int),(1:Int))];let z:=Dk T;let g:=di e;(dI e->(A->(z*24)<=140737488355328/\z<=9223372036854775807/\(∃x,kUp x/\L5 e Z0 (z=Dk (aG e x)/\1=x/\T=aG e x/\True))/\∀(x:Int),let c6:=Ee x 5;let c7:=Dk (aG e x);let V:=Df (aj e x);let c9:=Ei V (bS x);let c10:=[(x,bS x,(2:Int))];let h:=x+1;kUp x->(c6->iZ e/\(∃b,nUp e x b/\L5 e Z0 (c7=Dk (au e x b)/\L5 x (aj e x) (0=b/\aG e x=au e x b/\True)))/\∀(b:Int),let c13:=Ea (Dp b V) (Dp b (bS x)) false;let c14:=oz (aj e x) (gj e x) b;let c15:=Dw c14 0;let O:=Dk (au e x b);let c17:=[(x,b,c14)];let c18:=O+Dk c17;let c19:=b+1;let c20:=O+(Dk c10);
  nUp e x b->L4 (Dp b V) ((Dp b V->True)/\Q2 (Dp b V) ((Dh true (Dp b V)->Dp b V)/\(c13->(TM e x b/\aj e x=aj e x)/\(c15->O=O/\(c18*24)<=140737488355328/\c18<=9223372036854775807/\inR .i64 c19/\∃y,nUp e x y/\(L5 e Z0 (c18=Dk (au e x y)/\L5 x (aj e x) (c19=y/\Ef (au e x b) c17=au e x y/\True)))/\Dc (V-y)<Dc (V-b))/\(c15=false->inR .i64 c19/\∃y,nUp e x y/\(L5 e Z0 (O=Dk (au e x y)/\L5 x (aj e x) (c19=y/\au e x b=au e x y/\True)))/\Dc (V-y)<Dc (V-b)))/\(c13=false->True/\(c9->True/\O=O/\(c20*24)<=140737488355328/\c20<=9223372036854775807/\inR .i64 h/\∃y,kUp y/\(L5 e Z0 (c20=Dk (aG e y)/\h=y/\Ef (au e x b) c10=aG e y/\True))/\Dc (6-y)<Dc (6-x))/\(c9=false->inR .i64 h/\∃y,kUp y/\(L5 e Z0 (O=Dk (aG e y)/\h=y/\au e x b=aG e y/\True))/\Dc (6-y)<Dc (6-x))))))/\(c6=false->c7=Dk g/\aG e x=g/\True))/\(A=false->(∃x,kUp x/\L5 e Z0 (Dk (aG e x)=0/\aG e x=Dt (Int×Int×Int)/\1=x/\aG e x=Dt (Int×Int×Int)/\True))/\∀(x:Int),let c21:=Ee x 5;let c22:=Dk (aG e x);let G:=Df (aj e x);let c24:=Ei G (bS x);let c25:=[(x,bS x,(2:Int))];let c27:=x+1;kUp x->(c21->iZ e/\(∃b,nUp e x b/\L5 e Z0 (c22=Dk (au e x b)/\L5 x (aj e x) (0=b/\aG e x=au e x b/\True)))/\∀(b:Int),let c28:=Ea (Dp b G) (Dp b (bS x)) false;let c29:=oz (aj e x) (gj e x) b;let c30:=Dw c29 0;let L:=Dk (au e x b);let c32:=[(x,b,c29)];let c33:=L+Dk c32;
  let X:=b+1;let c35:=L+(Dk c25);nUp e x b->L4 (Dp b G) ((Dp b G->True)/\Q2 (Dp b G) ((Dh true (Dp b G)->Dp b G)/\(c28->(TM e x b/\aj e x=aj e x)/\(c30->L=L/\(c33*24)<=140737488355328/\c33<=9223372036854775807/\inR .i64 X/\∃y,nUp e x y/\(L5 e Z0 (c33=Dk (au e x y)/\L5 x (aj e x) (X=y/\Ef (au e x b) c32=au e x y/\True)))/\Dc (G-y)<Dc (G-b))/\(c30=false->inR .i64 X/\∃y,nUp e x y/\(L5 e Z0 (L=Dk (au e x y)/\L5 x (aj e x) (X=y/\au e x b=au e x y/\True)))/\Dc (G-y)<Dc (G-b)))/\(c28=false->True/\(c24->True/\L=L/\(c35*24)<=140737488355328/\c35<=9223372036854775807/\inR .i64 c27/\∃y,kUp y/\(L5 e Z0 (c35=Dk (aG e y)/\c27=y/\Ef (au e x b) c25=aG e y/\True))/\Dc (6-y)<Dc (6-x))/\(c24=false->inR .i64 c27/\∃y,kUp y/\(L5 e Z0 (L=Dk (aG e y)/\c27=y/\au e x b=aG e y/\True))/\Dc (6-y)<Dc (6-x))))))/\(c21=false->c22=Dk g/\aG e x=g/\True)))) aJm λhp=>?_
 have hl:=(Ff.1 hp).1;have hd1:f.length≠i.length->aG (i,f,j,v,r,u) 1=[(1,-1,1)]:=λh=>by
  have e:aG (i,f,j,v,r,u) 1=EU (i,f,j,v,r,u)++[]:=rfl;rw[e,vY];exact if_neg h
 have hd0:f.length=i.length->aG (i,f,j,v,r,u) 1=[]:=λh=>by
  have e:aG (i,f,j,v,r,u) 1=EU (i,f,j,v,r,u)++[]:=rfl;rw[e,vY];exact if_pos h
 have fin:∀(x:Int),kUp x->¬x<=5->aG (i,f,j,v,r,u) x=di (i,f,j,v,r,u):=λx T h=>by
  have:x=6:=by have:=T.2;omega
  subst this;rfl
 refine Z9 ?_;have body:∀(x:Int),kUp x->(x<=5->iZ (i,f,j,v,r,u)=true/\(∃z,nUp (i,f,j,v,r,u) x z/\(aG (i,f,j,v,r,u) x).length=(au (i,f,j,v,r,u) x z).length/\0=z/\aG (i,f,j,v,r,u) x=au (i,f,j,v,r,u) x z)/\
   ∀(z:Int),nUp (i,f,j,v,r,u) x z->(z<((aj (i,f,j,v,r,u) x).length:Int)/\z<bS x->TM (i,f,j,v,r,u) x z/\
     (oz (aj (i,f,j,v,r,u) x) (gj (i,f,j,v,r,u) x) z≠0->((au (i,f,j,v,r,u) x z).length+[(x,z,oz (aj (i,f,j,v,r,u) x) (gj (i,f,j,v,r,u) x) z)].length)*24<=140737488355328/\(au (i,f,j,v,r,u) x z).length+[(x,z,oz (aj (i,f,j,v,r,u) x) (gj (i,f,j,v,r,u) x) z)].length<=9223372036854775807/\
       inR .i64 (z+1)/\∃y,nUp (i,f,j,v,r,u) x y/\((au (i,f,j,v,r,u) x z).length+[(x,z,oz (aj (i,f,j,v,r,u) x) (gj (i,f,j,v,r,u) x) z)].length=(au (i,f,j,v,r,u) x y).length/\z+1=y/\au (i,f,j,v,r,u) x z++[(x,z,oz (aj (i,f,j,v,r,u) x) (gj (i,f,j,v,r,u) x) z)]=au (i,f,j,v,r,u) x y)/\
        (((aj (i,f,j,v,r,u) x).length:Int)-y).toNat<(((aj (i,f,j,v,r,u) x).length:Int)-z).toNat)/\
     (oz (aj (i,f,j,v,r,u) x) (gj (i,f,j,v,r,u) x) z=0->inR .i64 (z+1)/\∃y,nUp (i,f,j,v,r,u) x y/\((au (i,f,j,v,r,u) x z).length=(au (i,f,j,v,r,u) x y).length/\z+1=y/\au (i,f,j,v,r,u) x z=au (i,f,j,v,r,u) x y)/\(((aj (i,f,j,v,r,u) x).length:Int)-y).toNat<(((aj (i,f,j,v,r,u) x).length:Int)-z).toNat))/\
    ((z<((aj (i,f,j,v,r,u) x).length:Int)->¬z<bS x)->
     (((aj (i,f,j,v,r,u) x).length:Int)>bS x->((au (i,f,j,v,r,u) x z).length+[(x,bS x,(2:Int))].length)*24<=140737488355328/\(au (i,f,j,v,r,u) x z).length+[(x,bS x,(2:Int))].length<=9223372036854775807/\
       inR .i64 (x+1)/\∃y,kUp y/\((au (i,f,j,v,r,u) x z).length+[(x,bS x,(2:Int))].length=(aG (i,f,j,v,r,u) y).length/\x+1=y/\au (i,f,j,v,r,u) x z++[(x,bS x,2)]=aG (i,f,j,v,r,u) y)/\(6-y).toNat<(6-x).toNat)/\
     (¬((aj (i,f,j,v,r,u) x).length:Int)>bS x->inR .i64 (x+1)/\∃y,kUp y/\((au (i,f,j,v,r,u) x z).length=(aG (i,f,j,v,r,u) y).length/\x+1=y/\au (i,f,j,v,r,u) x z=aG (i,f,j,v,r,u) y)/\(6-y).toNat<(6-x).toNat)))/\
   (¬x<=5->(aG (i,f,j,v,r,u) x).length=(di (i,f,j,v,r,u)).length/\aG (i,f,j,v,r,u) x=di (i,f,j,v,r,u)):=by
  intro x T;have hlim:=qb x;refine⟨λhx5=>⟨hl,⟨0,⟨qH _,qM _,Z⟩,by rw[Tm],rfl,(Tm _ _).symm⟩,λz ⟨z0,z1,z2⟩=>⟨λ⟨hz1,hz2⟩=>?_,λhz=>?_⟩⟩,λh=>⟨by rw[fin x T h],fin x T h⟩⟩
  .have hlen:=ZJ (n:=(i,f,j,v,r,u)) T.1 T.2 z2;refine⟨⟨hp,T.1,hx5,z0,hz1⟩,λhe=>?_,λhe=>?_⟩
   .have e:=aEp z0 he;exact⟨by simp only[qV];omega,by simp only[qV];omega,⟨Z,Z⟩,z+1,⟨Z,Z,Z⟩,⟨by rw[e,qF],rfl,e.symm⟩,Z⟩
   .have e:=aHp z0 he;exact⟨⟨Z,Z⟩,z+1,⟨Z,Z,Z⟩,⟨by rw[e],rfl,e.symm⟩,Z⟩
  .have hlen:=ZJ (n:=(i,f,j,v,r,u)) T.1 T.2 z2;have hmin:z=min ((aj (i,f,j,v,r,u) x).length:Int) (bS x):=by
    by_cases g:z<((aj (i,f,j,v,r,u) x).length:Int)
    .have:=hz g;omega
    .omega
   have hx1:=T.1;refine⟨λh=>?_,λh=>?_⟩
   .have e:=aBL T.1 hmin h;exact⟨by simp only[qV];omega,by simp only[qV];omega,⟨Z,Z⟩,x+1,⟨Z,Z⟩,⟨by rw[<- e,qF],rfl,e⟩,Z⟩
   .have e:=aHq T.1 hmin h;exact⟨⟨Z,Z⟩,x+1,⟨Z,Z⟩,⟨by rw[e],rfl,e⟩,Z⟩
 refine⟨λhne=>⟨by decide,by decide,⟨1,⟨by decide,by decide⟩,?_,rfl,?_⟩,body⟩,λhe=>⟨⟨1,⟨by decide,by decide⟩,?_,?_,rfl,?_⟩,body⟩⟩
 .rw[hd1 Z]
 .rw[hd1 Z]
 .rw[hd0 Z];rfl
 .rw[hd0 Z]
 .rw[hd0 Z]
def aJl: ai Tryz.prog G0 K11:=af Ru aJm
def Gz: eO 228 mZ:=ae λ(((i,e,b,h,f,g):Net),_)=>by
 refine zE (A:=az) (p:=let j:=(i,e,b,h,f,g);let r:=Dk (di j);(dI j->dI j/\r=r/\Ec (Int.ofNat r) 0=noF j/\True)) aJl λj=>?_
 refine Z9 ?_;refine⟨j,?_⟩;unfold noF;cases di (i,e,b,h,f,g)with
 | nil=>rfl
 | cons a l=>simp;omega
def aJk: ai Tryz.prog G0 K12:=af Gz aJl
def aEk(a b:Int)(xs:Li): Prop:=0<=a/\a<12/\0<=b/\b<12/\xs.length=144
def k7(xs:Li)(a b len:Int): Li:=fJ xs a b len
def iM(k:Int): Li:=(List.range 144).map λi=>if i<k.toNat then(if i/12=i%12 then 0 else -1)else 0
def jv(e:Ll)(k:Int): Li:=(e.take k.toNat).foldl (λb l=>fJ b (bj l) (lTo l) (aZ l)) Ld
def fwD(e:Ll)(o a b:Int): Li:=fwN e (o*144+a*12+b).toNat
def bW(b:Ll): Li:=cI b
def noP(n:Net): Prop:=noF n=true
def y5(n:Net): Lj:=if noF n then YG n.2.2.2.1.length n.2.2.2.2.1 else[]
def sM(m:Nat)(e:Ll)(b:Nat): Bool:=(List.range m).any λa=>decide (cell (cI e) a b=-1)
def aT(m:Int)(e:Ll)(k:Int): List (Int×Int×Int):=(List.range k.toNat).filterMap λb:Nat=>if sM m.toNat e b then some (3,(b:Int),111)else none
def ew(n:Net): List (Int×Int×Int):=if noF n then aT n.2.2.2.1.length n.2.2.2.2.1 n.2.2.2.1.length else di n
def wy(m:Int)(e:Ll)(b k:Int): Prop:=0<=k/\k<=m/\(List.range k.toNat).all (λa=>decide (cell (cI e) a b.toNat≠-1))=true
def cz(m:Int)(b:Ll)(k:Int): Lj:=(List.range k.toNat).map (jz m.toNat b)
def KC(m k:Int): Li:=(List.range m.toNat).map λi=>if i<k.toNat then -1 else 0
def bfD(b:Ll)(m a r i:Int): Li:=(b.take i.toNat).foldl fm (bfN b m.toNat a.toNat r.toNat)
def uB(d:Lj)(b k:Int): Bool:=(List.range k.toNat).any λa=>decide ((d.getD a []).getD b.toNat 0<0)
def aR(n:Net): Bool:=(ew n).isEmpty
abbrev cx: List (Int×List Bool×Li):=[(0,[true,true,true,true,true,false,false],[])]
abbrev nx: List ByteArray:=[⟨#[99]⟩]
abbrev ox: List ByteArray:=[⟨#[112]⟩,⟨#[113]⟩]
def Un(args:List AV)(m:Mem): Option jG:=match args,m with
 | [.dat (.int .i64) a,.dat (.int .i64) b,.dat (.int .i64) len,.ptr 1 g 0 0],[(1,.buf el (.int .i64) xs [])]=>if g=144/\el=174 then some ⟨aEk a b xs,.tup [],[(1,.buf 174 I (k7 xs a b len) [])]⟩else none
 | _,_=>none
def K13: Kt:=kOr 203 Un K12
def XD(b:Ll): Ann:=⟨λe s=>match e with
 | 3=>some {α:=Int,inv:=λk=>upN k 12,st:=λk=>fu (put s [(12,.dat I k)]) 1 (.buf 174 I (iM (Eh 12 k)) []),μ:=λk=>Dc (Di 12 k)}
 | 6=>match s.sig.T 12 with
  | .dat (.int .i64) a=>some {α:=Int,inv:=λk=>upN k 12,st:=λk=>fu (put s [(15,.dat I k)]) 1 (.buf 174 I (iM (Dq (Eh 12 a) k)) []),μ:=λk=>Dc (Di 12 k)}
  | _=>none
 | 14=>some {α:=Int,inv:=λk=>upN k (Df b),st:=λk=>fu (put s [(31,.dat I k)]) 1 (.buf 174 I (jv b k) []),μ:=λk=>Dc (Di (Df b) k)}
 | 19=>some {α:=Int,inv:=λk=>upN k 12,st:=λk=>fu (put s [(44,.dat I k)]) 1 (.buf 174 I (fwD b k 0 0) []),μ:=λk=>Dc (Di 12 k)}
 | 22=>match s.sig.T 44 with
  | .dat (.int .i64) o=>some {α:=Int,inv:=λk=>upN k 12,st:=λk=>fu (put s [(47,.dat I k)]) 1 (.buf 174 I (fwD b o k 0) []),μ:=λk=>Dc (Di 12 k)}
  | _=>none
 | 25=>match s.sig.T 44,s.sig.T 47 with
  | .dat (.int .i64) o,.dat (.int .i64) a=>some {α:=Int,inv:=λk=>upN k 12,st:=λk=>fu (put s [(50,.dat I k)]) 1 (.buf 174 I (fwD b o a k) []),μ:=λk=>Dc (Di 12 k)}
  | _,_=>none
 | _=>none,λ_ _=>none,λ_ _=>none⟩
abbrev tf:=al [.row N] (λ(n,_)=>noP n) λ(n,_)=>.av I (bW n.2.2.2.2.1)
def K14: Kt:=kOr 130 tf K13
def aCB(e:Lo)(f:Ll): Ann:=⟨λg s=>match g with
 | 6=>some {α:=Int,inv:=λk=>upN k (Df e),st:=λk=>fu (put s [(18,.dat I k),(3,.buf 0 (Dk (aT (Df e) f k)))]) 0 (.buf 177 Fa (aT (Df e) f k) []),μ:=λk=>Dc (Di (Df e) k)}
 | 9=>match s.sig.T 18 with
  | .dat (.int .i64) b=>some {α:=Int,inv:=λk=>wy (Df e) f b k,st:=λk=>put s [(24,.dat I k),(3,.buf 0 (Dk (aT (Df e) f b)))],μ:=λk=>Dc (Di (Df e) k)}
  | _=>none
 | _=>none,λ_ _=>none,λ_ _=>none⟩
def aEq(b:Lo)(e:Ll): Ann:=⟨λf s=>match f with
 | 5=>some {α:=Int,inv:=λk=>upN k (Df b),st:=λk=>fu (put s [(4,.dat I k),(3,.buf 100 (Dk (cz (Df b) e k)))]) 100 (.buf 36 R (cz (Df b) e k) []),μ:=λk=>Dc (Di (Df b) k)}
 | 9=>some {α:=Int,inv:=λk=>upN k (Df b),st:=λk=>fu (put s [(6,.dat I k)]) 0 (.buf 3 I (KC (Df b) k) []),μ:=λk=>Dc (Di (Df b) k)}
 | 14=>match s.sig.T 4 with
  | .dat (.int .i64) a=>some {α:=Int,inv:=λk=>upN k (Df b),st:=λk=>fu (put s [(7,.dat I k)]) 0 (.buf 3 I (bfD e (Df b) a k 0) []),μ:=λk=>Dc (Di (Df b) k)}
  | _=>none
 | 17=>match s.sig.T 4,s.sig.T 7 with
  | .dat (.int .i64) a,.dat (.int .i64) r=>some {α:=Int,inv:=λk=>upN k (Df e),st:=λk=>fu (put s [(8,.dat I k)]) 0 (.buf 3 I (bfD e (Df b) a r k) []),μ:=λk=>Dc (Di (Df e) k)}
  | _,_=>none
 | _=>none,λf s=>match f with
 | 22=>some (put (frz [0] s) [(35,.top)])
 | _=>none,λ_ _=>none⟩
abbrev Cf:=al [.row N] (λ_=>True) λ(n,_)=>.dat (.sl Fa) (ew n)
abbrev BJ:=al [.row N] (λ(n,_)=>dI n=true) λ(n,_)=>.dat M (y5 n)
def K15: Kt:=kOr 64 Cf <|
 kOr 177 BJ K14
def aBM(e:Lo)(f:Ll)(d:Lj): Ann:=⟨λg s=>match g with
 | 6=>some {α:=Int,inv:=λk=>upN k (Df e),st:=λk=>fu (put s [(5,.dat I k),(3,.buf 0 (Dk (aT (Df e) f k)))]) 0 (.buf 177 Fa (aT (Df e) f k) []),μ:=λk=>Dc (Di (Df e) k)}
 | 10=>match s.sig.T 5 with
  | .dat (.int .i64) b=>some {α:=Int,inv:=λk=>upN k (Df e),st:=λk=>put s [(7,.dat I k),(6,.dat .bool (uB d b k))],μ:=λk=>Dc (Di (Df e) k)}
  | _=>none
 | _=>none,λ_ _=>none,λ_ _=>none⟩
abbrev xn:=al [.row N] (λ(n,_)=>dI n=true) λ(n,_)=>.dat (.sl Fa) (ew n)
def K16: Kt:=kOr 121 xn K15
def rP{n:Net}: noF n=true↔di n=[]:=by unfold noF;rw[wY]
def yg{e b:Int}{l:List ByteArray}{g:List Bool}(x:0<=b)(h:bQ e b l g=[]): (l.length:Int)<=b/\∀i:Int,0<=i->i<l.length->oz l g i=0:=by
 unfold bQ at h;obtain⟨j,f⟩:=qCc.1 h;have u:(l.length:Int)<=b:=by
  unfold HB at f;split at f
  .cases f
  .omega
 refine⟨u,λi r v=>?_⟩;unfold aY at j;rw[qDd]at j;have:=j i.toNat (qZ.2 Z);rw[vI r]at this;split at this
 .assumption
 .cases this
def qy{l:List ByteArray}{g:List Bool}{i:Int}(h:oz l g i=0): bY l i=0/\rule2 l i=0/\cB g i=0:=by
 unfold oz at h;by_cases e:bY l i=0
 .rw[if_neg (by simp[e])]at h;by_cases b:rule2 l i=0
  .rw[if_neg (by simp[b])]at h;exact⟨e,b,h⟩
  .rw[if_pos b]at h;exact(b h).elim
 .rw[if_pos e]at h;exact(e h).elim
def A1{g:List Bool}{i:Int}(h:cB g i=0): g.getD i.toNat false=true:=by
 unfold cB at h;cases b:g.getD i.toNat false with
 | true=>rfl
 | false=>rw[b]at h;cases h
def jU(b:LC)(f e:LB)(j:Lo)(i:Ll)(g:Lk)(h:noF (b,f,e,j,i,g)=true): f.length=b.length/\bQ 1 6 (aK b f) (bH b)=[]/\bQ 2 6 e (cN e)=[]/\bQ 3 12 (aM j) (fy (b,f,e,j,i,g))=[]/\bQ 4 40 (aN i) (d5 (b,f,e,j,i,g))=[]/\bQ 5 4 (aO g) (bP g)=[]:=by
 have:=rP.1 h;rw[CP]at this;simp only[qCc]at this;obtain⟨r,z,y,x,v,u⟩:=this;refine⟨?_,z,y,x,v,u⟩;unfold EU at r;split at r
 .assumption
 .cases r
def jX{n:Net}{l:Line}(h:dG n l=true): 0<=bj l/\bj l<n.2.2.2.1.length/\0<=lTo l/\lTo l<n.2.2.2.1.length/\bj l≠lTo l/\(0<=lAt l/\lAt l<=1439)/\1<=aZ l/\aZ l<=5000:=by
 unfold dG du cL at h;simp only[qC,qE]at h;obtain⟨⟨⟨⟨⟨f,e⟩,i⟩,g⟩,b⟩,j⟩:=h;exact⟨f.1,f.2,e.1,e.2,i,g,b.1,b.2⟩
def fO(r:LC)(g f:LB)(e:Lo)(b:Ll)(j:Lk)(h:noF (r,g,f,e,b,j)=true): bU e.length b/\b.length<=40:=by
 obtain⟨_,_,_,z,y,_⟩:=jU r g f e b j h;obtain⟨l3,e3⟩:=yg (by decide) z;obtain⟨X,O⟩:=yg (by decide) y;have V:(aM e).length=e.length:=map_length _ e;have T:(aN b).length=b.length:=map_length _ b;refine⟨⟨Z,λl x=>?_⟩,Z⟩;obtain⟨i,u⟩:=kW.1 x;have v:i<b.length:=(qG.1 u).1;have:=A1 (qy (O i Z Z)).2.2
 rw[show(d5 (r,g,f,e,b,j))=b.map (dG (r,g,f,e,b,j))from rfl,gR (dG (r,g,f,e,b,j)) b (i:Int).toNat l false Z,qA,show(i:Int).toNat=i by omega,u]at this;obtain⟨g1,g2,g3,g4,L,_,G,A⟩:=jX this;exact⟨g1,g2,g3,g4,L,G,A⟩
def lL(xs:Li)(a b len:Int): (k7 xs a b len).length=xs.length:=i9 xs a b len
def PG{xs:Li}{a b len:Int}(h:xs.getD (a.toNat*12+b.toNat) 0=-1\/len<xs.getD (a.toNat*12+b.toNat) 0): xs.set (a.toNat*12+b.toNat) len=k7 xs a b len:=by
 unfold k7 fJ cell;rw[show(decide (xs.getD (a.toNat*12+b.toNat) 0=-1)||decide (len<xs.getD (a.toNat*12+b.toNat) 0))=true by simpa using h];rfl
def PH{xs:Li}{a b len:Int}(f:xs.getD (a.toNat*12+b.toNat) 0≠-1)(e:¬len<xs.getD (a.toNat*12+b.toNat) 0): xs=k7 xs a b len:=by
 unfold k7 fJ cell;rw[show(decide (xs.getD (a.toNat*12+b.toNat) 0=-1)||decide (len<xs.getD (a.toNat*12+b.toNat) 0))=false by rw[qBs];exact⟨vC f,vC e⟩];rfl
def aAx(a b len:Int)(xs:Li): ah Tryz.prog G0 203 [.dat I a,.dat I b,.dat I len,.ptr 1 144 0 0] [(1,.buf 174 I xs [])] ⟨aEk a b xs,.tup [],[(1,.buf 174 I (k7 xs a b len) [])]⟩:=by
 refine zE (A:=az) (p:=let f:=En 0 12 a;let g:=Dz 12;let h:=k7 xs a b len;let j:=En f 1 b;let r:=Du xs j 0;let u:=Ec r (-1);let e:=Dj u;let i:=e->Dk xs=144;let v:=Ea u true (Dp len r);(aEk a b xs->Dk xs<=Dk h/\Dk xs=144/\0<=a/\a<Dz 12/\En 0 12 g<=144/\Dk xs=144/\0<=b/\b<Dz 12/\En f 1 g<=144/\Dk xs=144/\L4 e (i/\(e->0<=a)/\(e->a<Dz 12)/\(e->En 0 12 g<=144)/\Q2 e (i/\(e->0<=b)/\(e->b<Dz 12)/\(e->En f 1 g<=144)/\L4 e (i/\Q2 e ((Dh true e->e)/\(v->Dk xs=144/\0<=a/\a<Dz 12/\En 0 12 g<=144/\Dk xs=144/\0<=b/\b<Dz 12/\En f 1 g<=144/\Dk xs=144/\Em xs j len=h/\T3 (Dk xs))/\(v=false->xs=h/\T3 (Dk xs)))))))) aJk λ⟨x,v,u,r,j⟩=>?_
 have e:=lL xs a b len;refine Z9 ?_
 and_intros
 all_goals try (intros;omega)
 .intro h
  and_intros
  all_goals try omega
  exact PG h
 .rintro⟨i,g⟩;exact PH i g
def Um: ∀args m c,Un args m=some c->ah Tryz.prog G0 203 args m c:=by
 intro args m c h;unfold Un at h;split at h
 .split at h
  .rename_i e;obtain⟨rfl,rfl⟩:=e;cases h;exact aAx _ _ _ _
  .cases h
 .cases h
def aJj: ai Tryz.prog G0 K13:=af Um aJk
def tR(k:Int): (iM k).length=144:=by unfold iM;rw[qY,qU]
def Qc: List.replicate 144 0=iM 0:=by
 unfold iM;apply xE;intro i;rw[wV,qR];by_cases h:i<144
 .rw[if_pos h,vO h];simp
 .rw[if_neg h,zH (by rw[qU];omega)];rfl
def Uw{x y:Int}(v:0<=x)(j:x<12)(u:0<=y)(f:y<12)(r:x≠y): (iM (12*x+y)).set (x.toNat*12+y.toNat) (-1)=iM (12*x+(y+1)):=by
 apply xE;intro i;rw[yI,tR];unfold iM;rw[qR,qR];by_cases h:i<144
 .rw[vO h];simp only[zU];by_cases e:x.toNat*12+y.toNat=i
  .subst e;rw[if_pos rfl,if_pos h,if_pos Z,if_neg Z]
  .rw[if_neg e]
   congr 1
   by_cases g:i<(12*x+y).toNat
   .have b:i<(12*x+(y+1)).toNat:=by omega
    rw[if_pos g,if_pos b]
   .have b:¬i<(12*x+(y+1)).toNat:=by omega
    rw[if_neg g,if_neg b]
 .rw[if_neg Z,zH (by rw[qU];omega)];rfl
def Qd{x:Int}(h:0<=x)(b:x<12): iM (12*x+x)=iM (12*x+(x+1)):=by
 unfold iM;apply yA;intro i e;have:=qZ.1 e;by_cases g:i<(12*x+x).toNat
 .have f:i<(12*x+(x+1)).toNat:=by omega
  rw[if_pos g,if_pos f]
 .rw[if_neg g];split
  .rw[if_pos Z]
  .rfl
def Ux(b:Ll): iM (12*12)=jv b 0:=by
 unfold jv iM Ld;rw[show(Int.toNat 0)=0 from rfl,qCn,List.foldl_nil];apply yA;intro i e;rw[if_pos (by have:=qZ.1 e;omega)]
def EH(b:Ll)(k:Int): (jv b k).length=144:=pZ _
def KR{b:Ll}{k:Int}(f:0<=k)(e:k<b.length)(d:Line): k7 (jv b k) (b.getD k.toNat d).2.1 (b.getD k.toNat d).2.2.1 (b.getD k.toNat d).2.2.2.2.1=jv b (k+1):=by
 unfold jv;rw[show(k+1).toNat=k.toNat+1 by omega,wU,qA,qB (show k.toNat<b.length by omega),qAe];rfl
def P1(b:Ll){k:Int}(h:¬k<b.length): jv b k=fwD b 0 0 0:=by
 unfold jv;rw[qN Z];rfl
def CN(e:Ll)(o a b:Int): (fwD e o a b).length=144:=rZ e _
def aCj{b:Ll}{o a:Int}: fwD b o a 12=fwD b o (a+1) 0:=by
 unfold fwD;congr 2;omega
def aCk{b:Ll}{o:Int}: fwD b o 12 0=fwD b (o+1) 0 0:=by
 unfold fwD;congr 2;omega
def Og{e:Ll}{o a b:Int}(g:0<=o)(f:o<12)(r:0<=a)(j:a<12)(i:0<=b)(h:b<12): fwD e o a (b+1)=DF (fwD e o a b) (o.toNat*144+a.toNat*12+b.toNat):=by
 unfold fwD;rw[show(o*144+a*12+(b+1)).toNat=(o.toNat*144+a.toNat*12+b.toNat)+1 by omega,show(o*144+a*12+b).toNat=o.toNat*144+a.toNat*12+b.toNat by omega,EV]
def aCi{e:Ll}{o a b:Int}(i:0<=o)(h:o<12)(g:0<=a)(v:a<12)(f:0<=b)(u:b<12)
  (r:(fwD e o a b).getD (a.toNat*12+o.toNat) 0≠-1) (j:(fwD e o a b).getD (o.toNat*12+b.toNat) 0≠-1):
  k7 (fwD e o a b) a b ((fwD e o a b).getD (a.toNat*12+o.toNat) 0+(fwD e o a b).getD (o.toNat*12+b.toNat) 0)=fwD e o a (b+1):=by
 rw[Og i h g v f u];unfold DF;rw[show(o.toNat*144+a.toNat*12+b.toNat)/12%12=a.toNat by omega,show(o.toNat*144+a.toNat*12+b.toNat)/144=o.toNat by omega,show(o.toNat*144+a.toNat*12+b.toNat)%12=b.toNat by omega];unfold cell;rw[show((fwD e o a b).getD (a.toNat*12+o.toNat) 0 != -1&&(fwD e o a b).getD (o.toNat*12+b.toNat) 0 != -1)=true by simp only[qC,qDc];exact⟨r,j⟩,qAw];unfold k7;rw[vI g,vI f]
def aEP{e:Ll}{o a b:Int}(i:0<=o)(f:o<12)(v:0<=a)(u:a<12)(r:0<=b)(j:b<12)
  (h:(fwD e o a b).getD (a.toNat*12+o.toNat) 0≠-1->(fwD e o a b).getD (o.toNat*12+b.toNat) 0=-1):fwD e o a b=fwD e o a (b+1):=by
 rw[Og i f v u r j];unfold DF;rw[show(o.toNat*144+a.toNat*12+b.toNat)/12%12=a.toNat by omega,show(o.toNat*144+a.toNat*12+b.toNat)/144=o.toNat by omega,show(o.toNat*144+a.toNat*12+b.toNat)%12=b.toNat by omega];unfold cell;rw[show((fwD e o a b).getD (a.toNat*12+o.toNat) 0 != -1&&(fwD e o a b).getD (o.toNat*12+b.toNat) 0 != -1)=false by
  rw[Bool.and_eq_false_imp];intro g;rw[qDc]at g;rw[h g];rfl,qAx]
def Rw: eO 130 tf:=ae λ(((cs,ns,os,fs,g,ks):Net),_)=>by
 refine zE (A:=(lvA [(3,[1,2,3,4,5,6,8,9,10,11,12,15,29,30,31,44,47,50]),(6,[1,2,3,4,5,6,8,9,10,11,12,15,29,30,31,44,47,50]),(14,[2,3,6,8,9,10,11,29,30,31,44,47,50]),(19,[2,3,6,9,10,11,44,47,50]),(22,[2,3,6,9,10,11,44,47,50]),(25,[2,3,6,9,10,11,44,47,50])] (XD g))) (p:=let h:=Dz 12;let G:=(cs,ns,os,fs,g,ks);let b:=Gf 144 0;let i:=Df g;(noP G->(∃x,upN x 12/\T4 G 144 0 0 144 0 0 (0=x/\b=b/\b=iM (12*x)/\True))/\∀(x:Int),let c5:=Dp x 12;let A:=12*x;let c7:=iM A;let c8:=x+1;upN x 12->(c5->(∃f,upN f 12/\L3 G 144 0 0 144 0 0 x x (0=f/\b=b/\c7=iM (A+f)/\True))/\∀(f:Int),let c9:=Dp f 12;let T:=f+1;upN f 12->(c9->(Dw x f->Dk (iM (A+f))=144/\0<=x/\x<Dz 12/\En 0 12 h<=144/\Dk (iM (A+f))=144/\0<=f/\f<Dz 12/\En (En 0 12 x) 1 h<=144/\Dk (iM (A+f))=144/\inR .i64 T/\∃y,upN y 12/\(L3 G 144 0 0 144 0 0 x x (T=y/\b=b/\Em (iM (A+f)) (En (En 0 12 x) 1 f) (-1)=iM (A+y)/\True))/\Dc (12-y)<Dc (12-f))/\(Dw x f=false->inR .i64 T/\∃y,upN y 12/\(L3 G 144 0 0 144 0 0 x x (T=y/\b=b/\iM (A+f)=iM (A+y)/\True))/\Dc (12-y)<Dc (12-f)))/\(c9=false->inR .i64 c8/\∃y,upN y 12/\(T4 G 144 0 0 144 0 0 (c8=y/\b=b/\iM (A+f)=iM (12*y)/\True))/\Dc (12-y)<Dc (12-x)))/\(c5=false->(∃x,upN x i/\L3 144 0 0 144 0 0 144 0 0 (L5 g i (0=x/\b=b/\c7=jv g x/\True)))/\∀(x:Int),let L:=(Du g (Dc x) (ByteArray.mk #[],(0:Int),(0:Int),(0:Int),(0:Int),(0:Int))).2;let c15:=k7 (jv g x) L.1 L.2.1 L.2.2.2.1;let c16:=x+1;
  upN x i->(Dp x i->0<=x/\x<i/\L3 1 0 1 1 0 1 1 0 1 (L5 1 0 (aEk L.1 L.2.1 (jv g x)/\Dk (jv g x)<=Dk c15/\inR .i64 c16/\∃y,upN y i/\(L3 144 0 0 144 0 0 144 0 0 (L5 g i (c16=y/\b=b/\c15=jv g y/\True)))/\Dc (i-y)<Dc (i-x))))/\(Dp x i=false->(∃V,upN V 12/\L3 144 0 0 144 0 0 144 0 0 (0=V/\b=b/\jv g x=fwD g V 0 0/\True))/\∀(x:Int),let c17:=Dp x 12;let z:=fwD g x 0 0;let c19:=x+1;upN x 12->(c17->(∃e,upN e 12/\L3 144 0 0 144 0 0 144 0 0 (L5 x x (0=e/\b=b/\z=fwD g x e 0/\True)))/\∀(e:Int),let c20:=Dp e 12;let c21:=fwD g x e 0;let c23:=e+1;upN e 12->(c20->(∃j,upN j 12/\L3 144 0 0 144 0 0 144 0 0 (Q3 x e x e (0=j/\b=b/\c21=fwD g x e j/\True)))/\∀(j:Int),let c24:=Dp j 12;let v:=fwD g x e j;let u:=Dk v;let c27:=Du v (En (En 0 12 e) 1 x) 0;let r:=Dw c27 (-1);let X:=r->u=144;let c29:=Du v (En (En 0 12 x) 1 j) 0;let c30:=Ea r (Dw c29 (-1)) false;let c31:=c27+c29;let c32:=k7 v e j c31;let O:=j+1;
  upN j 12->(c24->u=144/\0<=e/\e<Dz 12/\En 0 12 h<=144/\u=144/\0<=x/\x<Dz 12/\En (En 0 12 e) 1 h<=144/\u=144/\L4 r (X/\(r->0<=x)/\(r->x<Dz 12)/\(r->En 0 12 h<=144)/\Q2 r (X/\(r->0<=j)/\(r->j<Dz 12)/\(r->En (En 0 12 x) 1 h<=144)/\L4 r (X/\L4 r ((Dh true r->r)/\(c30->u=144/\0<=e/\e<Dz 12/\En 0 12 h<=144/\u=144/\0<=x/\x<Dz 12/\En (En 0 12 e) 1 h<=144/\u=144/\u=144/\0<=x/\x<Dz 12/\En 0 12 h<=144/\u=144/\0<=j/\j<Dz 12/\En (En 0 12 x) 1 h<=144/\u=144/\inR .i64 c31/\aEk e j v/\u<=Dk c32/\inR .i64 O/\∃y,upN y 12/\(L3 144 0 0 144 0 0 144 0 0 (Q3 x e x e (O=y/\b=b/\c32=fwD g x e y/\True)))/\Dc (12-y)<Dc (12-j))/\(c30=false->inR .i64 O/\∃y,upN y 12/\(L3 144 0 0 144 0 0 144 0 0 (Q3 x e x e (O=y/\b=b/\v=fwD g x e y/\True)))/\Dc (12-y)<Dc (12-j)))))))/\(c24=false->inR IntKind.i64 c23/\∃y,upN y 12/\(L3 144 0 0 144 0 0 144 0 0 (L5 x x (c23=y/\b=b/\v=fwD g x y 0/\True)))/\Dc (12-y)<Dc (12-e)))/\(c20=false->inR .i64 c19/\∃y,upN y 12/\(L3 144 0 0 144 0 0 144 0 0 (c19=y/\b=b/\c21=fwD g y 0 0/\True))/\Dc (12-y)<Dc (12-x)))/\(c17=false->Dk z=144/\0=0/\Dk z=144/\Dk b=144/\0=0/\Dk b=144/\Dk z=144/\Dk z=144/\0=0/\Dk z=144/\z=bW g/\True))))) aJj λhp=>?_
 obtain⟨ok,hls⟩:=fO cs ns os fs g ks hp;refine Z9 ?_;have G:upN 0 12:=⟨by decide,by decide⟩;refine⟨⟨0,G,rfl,Qc⟩,λx ⟨x0,x1⟩=>⟨λhx=>⟨⟨0,G,rfl,by rw[qDm]⟩,λy ⟨y0,y1⟩=>⟨λhy=>⟨λhne=>?_,λhe=>?_⟩,λhy=>?_⟩⟩,λhx=>?_⟩⟩
 .have:=tR (12*x+y)
  and_intros
  all_goals try omega
  exact⟨y+1,⟨Z,Z⟩,⟨rfl,Uw x0 hx y0 hy hne⟩,Z⟩
 .subst he;exact⟨⟨Z,Z⟩,x+1,⟨Z,Z⟩,⟨rfl,Qd x0 hx⟩,Z⟩
 .have:y=12:=by omega
  subst this;exact⟨⟨Z,Z⟩,x+1,⟨Z,Z⟩,⟨rfl,by congr 1;omega⟩,Z⟩
 have ex:x=12:=Z;subst ex;refine⟨⟨0,⟨qH _,qM _⟩,rfl,Ux g⟩,λk ⟨k0,k1⟩=>⟨λhk=>?_,λhk=>?_⟩⟩
 .have X:=ok.at_ _ (getD_mem (l:=g) (i:=k.toNat) (d:=(⟨#[]⟩,0,0,0,0,0)) Z);have hn:=ok.n12;unfold bj lTo at X;have e1:=EH g k;refine⟨k0,hk,⟨Z,Z,Z,Z,e1⟩,by rw[lL]<;>exact qJ _,⟨Z,Z⟩,k+1,⟨Z,Z⟩,⟨rfl,KR k0 hk _⟩,Z⟩
 refine⟨⟨0,G,rfl,P1 g hk⟩,λo ⟨o0,o1⟩=>⟨λX=>⟨⟨0,G,rfl,rfl⟩,λa ⟨a0,a1⟩=>⟨λha=>⟨⟨0,G,rfl,rfl⟩,λb ⟨b0,b1⟩=>⟨λhb=>?_,λhb=>?_⟩⟩,λha=>?_⟩⟩,λX=>?_⟩⟩
 .have e1:=CN g o a b;have bd1:=IM ok (k:=(o*144+a*12+b).toNat) Z (a:=a.toNat) (b:=o.toNat) Z Z;have bd2:=IM ok (k:=(o*144+a*12+b).toNat) Z (a:=o.toNat) (b:=b.toNat) Z Z;have bd1:-1<=(fwD g o a b).getD (a.toNat*12+o.toNat) 0/\(fwD g o a b).getD (a.toNat*12+o.toNat) 0<=20480000:=bd1
  have bd2:-1<=(fwD g o a b).getD (o.toNat*12+b.toNat) 0/\(fwD g o a b).getD (o.toNat*12+b.toNat) 0<=20480000:=bd2
  and_intros
  all_goals try (intros;omega)
  .rintro⟨h1,h2⟩;have e2:=lL (fwD g o a b) a b ((fwD g o a b).getD (a.toNat*12+o.toNat) 0+(fwD g o a b).getD (o.toNat*12+b.toNat) 0);have e3:=aCi o0 X a0 ha b0 hb h1 h2
   and_intros
   all_goals try omega
   exact⟨b+1,⟨Z,Z⟩,⟨rfl,e3⟩,Z⟩
  .intro h;exact⟨⟨Z,Z⟩,b+1,⟨Z,Z⟩,⟨rfl,aEP o0 X a0 ha b0 hb h⟩,Z⟩
 .have:b=12:=by omega
  subst this;exact⟨⟨Z,Z⟩,a+1,⟨Z,Z⟩,⟨rfl,aCj⟩,Z⟩
 .have:a=12:=by omega
  subst this;exact⟨⟨Z,Z⟩,o+1,⟨Z,Z⟩,⟨rfl,aCk⟩,Z⟩
 .have:o=12:=by omega
  subst this;have e1:=CN g 12 0 0;have e2:(Gf 144 (0:Int)).length=144:=wO
  and_intros
  all_goals try omega
  rfl
def aIp: ai Tryz.prog G0 K14:=af Rw aJj
def Nc{n:Net}(h:¬(((di n).length:Nat):Int)>0): noF n=true:=rP.2 (vW Z)
def HQ{n:Net}(h:(((di n).length:Nat):Int)>0): noF n=false:=by
 cases e:noF n with
 | false=>rfl
 | true=>rw[rP.1 e]at h;simp at h
def MV: (Gf 144 (0:Int)).length=144:=wO
def Hl(b:Ll): (bW b).length=144:=rZ b _
def jR(m:Int)(b:Ll): aT m b 0=[]:=rfl
def v7(m:Int)(b:Ll)(k:Int): (aT m b k).length<=k.toNat:=by
 unfold aT;exact wH (qDh _ _) (by rw[qU];exact qJ _)
def vR{m:Int}{b:Ll}{k:Int}(e:0<=k)(h:sM m.toNat b k.toNat=true): aT m b (k+1)=aT m b k++[(3,k,111)]:=by
 unfold aT;rw[show(k+1).toNat=k.toNat+1 by omega,zJ,qBh];simp[vI e,h]
def A6{m:Int}{b:Ll}{k:Int}(h:sM m.toNat b k.toNat=false)(e:0<=k): aT m b (k+1)=aT m b k:=by
 unfold aT;rw[show(k+1).toNat=k.toNat+1 by omega,zJ,qBh];simp[h]
def PK{m:Int}{e:Ll}{a b:Int}(g:0<=a)(f:a<m)(h:(bW e).getD (a.toNat*12+b.toNat) 0=-1): sM m.toNat e b.toNat=true:=
 xR.2 ⟨a.toNat,qZ.2 Z,qW h⟩
def KH{m:Int}{e:Ll}{a b:Int}(hm:wy m e b a)(j:a<m)(h:(bW e).getD (a.toNat*12+b.toNat) 0≠-1): wy m e b (a+1):=by
 obtain⟨i,g,f⟩:=hm;refine⟨Z,Z,?_⟩;rw[show(a+1).toNat=a.toNat+1 by omega,zJ,gZ,f];simp only[qAu,List.all_nil,gQ,zX];exact qW h
def PY{m:Int}{e:Ll}{a b:Int}(hm:wy m e b a)(j:¬a<m): sM m.toNat e b.toNat=false:=by
 obtain⟨i,h,g⟩:=hm;have:a=m:=Z;subst this;unfold sM;rw[qAg];intro x f;have:=qO.1 g x f;simpa using this
def aA5: eO 64 Cf:=ae λ(((cs,T,O,j,e,V):Net),_)=>by
 refine zE (A:=(lvA [(6,[1,2,3,4,5,6,17,18,23,24]),(9,[1,2,3,4,5,6,17,18,23,24])] (aCB j e))) (p:=let g:=(cs,T,O,j,e,V);let u:=di g;let r:=Dk u;let A:=Ei (Int.ofNat r) 0;let G:=ew g;let b:=Df j;(True->True/\r=r/\(A->r=r/\u=G/\True)/\(A=false->noP g/\Dk (Gf 144 0)=144/\0=0/\Dk (Gf 144 0)=144/\Dk (bW e)=144/\(∃x,upN x b/\L5 g Z0 (r=Dk (aT b e x)/\Q3 144 0 0 b (0=x/\u=aT b e x/\T3 (bW e))))/\∀(x:Int),let h:=Dk (aT b e x);let c8:=[((3:Int),x,(111:Int))];let z:=h+Dk c8;let i:=x+1;upN x b->(Dp x b->(∃f,wy b e x f/\L3 g Z0 h 144 0 0 x b x (b=b/\0=f/\T7 (aT b e x) (bW e)))/\∀(f:Int),let v:=Ec (Du (bW e) (En (En 0 12 f) 1 x) 0) (-1);let L:=f+1;wy b e x f->(Dp f b->Dk (bW e)=144/\0<=f/\f<Dz 12/\En 0 12 (Dz 12)<=144/\Dk (bW e)=144/\0<=x/\x<Dz 12/\En (En 0 12 f) 1 (Dz 12)<=144/\Dk (bW e)=144/\(v->h=h/\(z*24)<=140737488355328/\z<=9223372036854775807/\inR .i64 i/\∃y,upN y b/\(L5 g Z0 (z=Dk (aT b e y)/\Q3 144 0 0 b (i=y/\Ef (aT b e x) c8=aT b e y/\T3 (bW e))))/\Dc (b-y)<Dc (b-x))/\(v=false->inR IntKind.i64 L/\∃y,wy b e x y/\(L3 g Z0 h 144 0 0 x b x (b=b/\L=y/\T7 (aT b e x) (bW e)))/\Dc (b-y)<Dc (b-f)))/\(Dp f b=false->inR .i64 i/\∃y,upN y b/\(L5 g Z0 (h=Dk (aT b e y)/\Q3 144 0 0 b (i=y/\aT b e x=aT b e y/\T3 (bW e))))/\Dc (b-y)<Dc (b-x)))/\(Dp x b=false->h=h/\aT b e x=G/\True)))) aIp λ_=>?_
 refine Z9 ?_;refine⟨λh=>by unfold ew;rw[HQ h];rfl,λh=>?_⟩;have g:=Nc h;have X:=rP.1 g;obtain⟨ok,hls⟩:=fO cs T O j e V g;have hn:=ok.n12;have e1:=Hl e;refine⟨g,MV,MV,e1,⟨0,⟨qH _,qM _⟩,by rw[X,jR],rfl,by rw[X,jR]⟩,λb ⟨b0,b1⟩=>⟨λhb=>⟨⟨qH _,qM _,by simp⟩,λa L=>⟨λr=>?_,λG=>?_⟩⟩,λhb=>?_⟩⟩
 .have a0:=L.1;have hl:=v7 (j.length:Int) e b
  and_intros
  all_goals try (intros;omega)
  .intro he;have u:=vR b0 (PK a0 r he);exact⟨by simp only[qV];omega,by simp only[qV];omega,⟨Z,Z⟩,b+1,⟨Z,Z⟩,⟨by rw[u,qF],rfl,u.symm⟩,Z⟩
  .intro z;exact⟨⟨Z,Z⟩,a+1,KH L r z,rfl,Z⟩
 .have u:=A6 (PY L G) b0;exact⟨⟨Z,Z⟩,b+1,⟨Z,Z⟩,⟨by rw[u],rfl,u.symm⟩,Z⟩
 .have:b=j.length:=by omega
  subst this;unfold ew;rw[g];rfl
def aBH{α:Type}(m:Nat)(x:α): List.replicate m x=(List.range m).map λ_=>x:=by
 apply xE;intro i;rw[wV,qR];by_cases h:i<m
 .rw[if_pos h,vO h];rfl
 .rw[if_neg h,zH (by rw[qU];omega)];rfl
def SB{α:Type}(f:Nat->α)(m i:Nat)(x:α): ((List.range m).map f).set i x=(List.range m).map λj=>if j=i then x else f j:=by
 apply xE;intro j;rw[yI,qR,qR,qY,qU];by_cases h:j<m
 .rw[vO h];by_cases e:i=j
  .subst e;rw[if_pos rfl,if_pos h];simp
  .rw[if_neg e];simp only[zU];rw[if_neg λg:j=i=>e g.symm]
 .rw[zH (by rw[qU];omega)];simp only[Option.map_none];split
  .rw[if_neg Z]
  .rfl
def mc: ∀(e:Ll) (b:Li),(e.foldl fm b).length=b.length
 | [],_=>rfl
 | l::e,b=>by rw[kF,mc e,l9]
def nT(b:Ll)(m a:Nat): ∀r,(bfN b m a r).length=m
 | 0=>by show(nt m a).length=m;simp[nt]
 | r+1=>by rw[uT];unfold FZ;rw[mc,nT b m a r]
def C3(b:Ll)(m:Nat)(a r i:Int): (bfD b m a r i).length=m:=by
 unfold bfD;rw[mc,nT,qP]
def Vs{m:Nat}{f:Ll}(g:bU m f){e:Li}(i:e.length=m){l:Line}(j:l∈f){K:Int}(h:∀b,at1 e b<=K): ∀b,at1 (fm e l) b<=K+5000:=by
 intro b;have o:=g.at_ l j;rw[rk (by rw[i];omega)];have u:=h b;have r:=h (bj l).toNat;split<;>omega
def zj{m:Nat}{i:Ll}(g:bU m i): ∀(f:Ll) (e:Li) (K:Int),(∀l∈f,l∈i)->e.length=m->(∀b,at1 e b<=K)->∀b,at1 (f.foldl fm e) b<=K+5000*f.length
 | [],_,_,_,_,h=>λb=>by have:=h b;simpa using this
 | l::f,e,K,j,r,h=>λb=>by
  have:=zj g f (fm e l) (K+5000) (λx u=>j x (by simp[u])) (by rw[l9];exact r) (Vs g r (j l (by simp)) h) b;rw[kF,wS];omega
def gH{m:Nat}{e:Ll}(g:bU m e)(f:e.length<=40)(a:Nat): ∀(r:Nat) b,at1 (bfN e m a r) b<=200000*r
 | 0,b=>by
  show at1 (nt m a) b<=_;unfold at1 nt;rw[qA,qR];by_cases h:b<m
  .rw[vO h];simp only[zU,qK];split<;>omega
  .rw[zH (by rw[qU];omega)];simp
 | r+1,b=>by
  rw[uT];have:=zj g e (bfN e m a r) (200000*r) (λ_ h=>h) (nT e m a r) (gH g f a r) b;unfold FZ;omega
def aFi{m:Nat}{f:Ll}(g:bU m f)(h:f.length<=40){a r i:Int}(u:r<=m): ∀b,at1 (bfD f m a r i) b<=3000000:=by
 intro b;have A:=zj g (f.take i.toNat) (bfN f m a.toNat r.toNat) (200000*r.toNat) (λx j=>qAh j) (nT f m _ _) (gH g h _ _) b;have z:(f.take i.toNat).length<=40:=by rw[qL];omega
 have v:=g.n12;have y:r.toNat<=12:=Z;have e:bfD f m a r i=(f.take i.toNat).foldl fm (bfN f m a.toNat r.toNat):=by unfold bfD;rw[qP]
 rw[e];omega
def Za{m:Nat}{b:Ll}{a r i:Int}(f:0<=i)(e:i<b.length)(d:Line): bfD b m a r (i+1)=fm (bfD b m a r i) (b.getD i.toNat d):=by
 unfold bfD;rw[show(i+1).toNat=i.toNat+1 by omega,wU,qA,qB (show i.toNat<b.length by omega),qAe];rfl
def Vt{m:Nat}{b:Ll}{a r i:Int}(e:0<=r)(f:¬i<b.length): bfD b m a r i=bfD b m a (r+1) 0:=by
 unfold bfD;rw[qN Z,show(r+1).toNat=r.toNat+1 by omega,uT];rfl
def EC(m:Nat)(k:Int): (KC m k).length=m:=by unfold KC;simp
def TR(m:Nat): List.replicate m 0=KC m 0:=by
 rw[aBH];unfold KC;apply yA;intro i _;rw[if_neg Z]
def X2{m:Nat}{k:Int}(f:0<=k): (KC m k).set k.toNat (-1)=KC m (k+1):=by
 unfold KC;rw[SB];apply yA;intro j _;by_cases e:j=k.toNat
 .have g:j<(k+1).toNat:=by omega
  rw[if_pos e,if_pos g]
 .rw[if_neg e];by_cases g:j<k.toNat
  .have b:j<(k+1).toNat:=by omega
   rw[if_pos g,if_pos b]
  .have b:¬j<(k+1).toNat:=by omega
   rw[if_neg g,if_neg b]
def TS(e:Ll){m:Nat}{a b:Int}(g:¬b<m): (KC m b).set a.toNat 0=bfD e m a 0 0:=by
 unfold KC;rw[SB];show _=nt (m:Int).toNat a.toNat;unfold nt;apply yA;intro j f;have:=qZ.1 f;rw[if_pos (show j<b.toNat by omega)]
def QI{b:Li}{l:Line}(f:b.getD l.2.1.toNat 0≥0)(e:b.getD l.2.2.1.toNat 0<0\/b.getD l.2.2.1.toNat 0>b.getD l.2.1.toNat 0+l.2.2.2.2.1):
  b.set l.2.2.1.toNat (b.getD l.2.1.toNat 0+l.2.2.2.2.1)=fm b l:=by
 unfold fm at1 bj lTo aZ;rw[show(decide (0<=b.getD l.2.1.toNat 0)&&(decide (b.getD l.2.2.1.toNat 0<0)||decide (b.getD l.2.2.1.toNat 0>b.getD l.2.1.toNat 0+l.2.2.2.2.1)))=true by
  simp only[qC,yF,qE];exact⟨f,e⟩]
 rfl
def QJ{b:Li}{l:Line}(h:b.getD l.2.1.toNat 0≥0->¬b.getD l.2.2.1.toNat 0<0/\¬b.getD l.2.2.1.toNat 0>b.getD l.2.1.toNat 0+l.2.2.2.2.1): b=fm b l:=by
 unfold fm at1 bj lTo aZ;rw[show(decide (0<=b.getD l.2.1.toNat 0)&&(decide (b.getD l.2.2.1.toNat 0<0)||decide (b.getD l.2.2.1.toNat 0>b.getD l.2.1.toNat 0+l.2.2.2.2.1)))=false by
  rw[Bool.and_eq_false_imp];intro g;have:=h (vN g);rw[vC this.1,vC this.2];rfl]
 rfl
def Qj(m:Int)(b:Ll)(k:Int): (cz m b k).length=k.toNat:=by unfold cz;simp
def LD{m:Nat}{b:Ll}(f:bU m b){a:Int}(h:0<=a)(g:a<m): cz m b a++[bfD b m a m 0]=cz m b (a+1):=by
 have e:bfD b m a m 0=jz m b a.toNat:=by
  rw[<- Y9 f (show a.toNat<m by omega)];rfl
 rw[e];unfold cz;rw[show(a+1).toNat=a.toNat+1 by omega,zJ,zZ,qP];rfl
def aAz: eO 177 BJ:=ae λ(((cs,ns,os,O,g,ks):Net),_)=>by
 refine zE (A:=(lvA [(5,[1,2,3,4,5,6,7,8,9]),(9,[1,2,3,4,5,6,7,8,9]),(14,[1,2,3,4,5,6,7,8,9]),(17,[1,2,3,4,5,6,7,8,9])] (aEq O g))) (p:=let i:=(cs,ns,os,O,g,ks);let c2:=Dj (noF i);let c3:=y5 i;let b:=Df O;let h:=Dc b;let c6:=Int.ofNat h;let z:=Df g;(dI i->dI i/\(c2->c3=Dt (Li)/\True)/\(c2=false->(∃x,upN x b/\L5 i Z0 (Dk (cz b g x)=0/\cz b g x=Dt (Li)/\0=x/\cz b g x=Dt (Li)/\True))/\∀(x:Int),let r:=Dk (cz b g x);let c10:=x+1;upN x b->(Dp x b->0<=b/\(Dz 8*b)<=281474976710656/\b<=9223372036854775807/\(∃f,upN f b/\T2 i Z0 r x h (0=f/\cz b g x=cz b g x/\Et b (0:Int)=KC b f/\True))/\∀(f:Int),let c11:=Dk (KC b f);let c12:=Dz c11;let c13:=f+1;upN f b->c11=h/\(Dp f c6->c11=h/\0<=f/\f<c12/\c11=h/\inR .i64 c13/\∃y,upN y b/\(T2 i Z0 r x h (c13=y/\cz b g x=cz b g x/\Em (KC b f) (Dc f) (-1)=KC b y/\True))/\Dc (b-y)<Dc (b-f))/\(Dp f c6=false->c11=h/\0<=x/\x<c12/\c11=h/\(∃j,upN j b/\T6 i Z0 r x h f (0=j/\cz b g x=cz b g x/\Em (KC b f) (Dc x) 0=bfD g b x j 0/\True))/\∀(j:Int),let A:=bfD g b x j 0;let c15:=j+1;let c16:=[A];let c17:=r+Dk c16;upN j b->Dk A=h/\(Dp j c6->(∃v,upN v z/\T4 i Z0 r x h f j (0=v/\cz b g x=cz b g x/\A=bfD g b x j v/\True))/\∀(v:Int),let X:=bfD g b x j v;let G:=Dk X;let u:=(Du g (Dc v) (ByteArray.mk #[],(0:Int),(0:Int),(0:Int),(0:Int),(0:Int))).2;let V:=Dz G;let c23:=Du X (Dc u.1) 0;let e:=Ed c23 0;let c27:=Dc u.2.1;let c28:=Du X c27 0;let c29:=Dp c28 0;
  let c8:=Dj c29;let c33:=Dh e c8->0=0;let c26:=Dh e c8->G=h;let T:=Dh e c8->1=1;let L:=Dh e c8;let c30:=c23+u.2.2.2.1;let c31:=Ea e (Ea c29 true (Ei c28 c30)) false;let c32:=v+1;
  upN v z->(Dp v z->0<=v/\v<z/\T2 1 0 1 1 0 (G=h/\0<=u.1/\u.1<V/\G=h/\(e->1=1)/\L4 e ((e->1=1)/\(e->0=0)/\Q2 e ((e->G=h)/\(e->0<=u.2.1)/\(e->u.2.1<V)/\L4 e ((e->G=h)/\Q2 e (T/\L4 L (T/\c33/\Q2 L (c26/\(Dh e c8->0<=u.2.1)/\(Dh e c8->u.2.1<V)/\L4 L (c26/\T/\L4 L (T/\c33/\Q2 L (c26/\(Dh e c8->0<=u.1)/\(Dh e c8->u.1<V)/\L4 L (c26/\T/\L4 L (T/\c33/\Q2 L ((Dh e c8->inR .i64 c30)/\Q2 L (L4 e ((e->Dh e c8->Dh e c8)/\(Dh true e->e)/\(c31->T6 1 1 0 1 1 0 (G=h/\0<=u.1/\u.1<V/\G=h/\L7 1 1 0 (inR .i64 c30/\G=h/\0<=u.2.1/\u.2.1<V/\G=h/\inR .i64 c32/\∃y,upN y z/\(T4 i Z0 r x h f j (c32=y/\cz b g x=cz b g x/\Em X c27 c30=bfD g b x j y/\True))/\Dc (z-y)<Dc (z-v))))/\(c31=false->inR .i64 c32/\∃y,upN y z/\(T4 i Z0 r x h f j (c32=y/\cz b g x=cz b g x/\X=bfD g b x j y/\True))/\Dc (z-y)<Dc (z-v))))))))))))))))))/\(Dp v z=false->inR .i64 c15/\∃y,upN y b/\(T6 i Z0 r x h f (c15=y/\cz b g x=cz b g x/\X=bfD g b x y 0/\True))/\Dc (b-y)<Dc (b-j)))/\(Dp j c6=false->Q3 i Z0 r x (Dk A=h/\Q3 A f j j (Dk A=h/\T2 A c6 (Dp j c6) (cz b g x) r ((c17*24)<=140737488355328/\c17<=9223372036854775807/\inR .i64 c10/\∃y,upN y b/\(L5 i Z0 (c17=Dk (cz b g y)/\c10=y/\Ef (cz b g x) c16=cz b g y/\True))/\Dc (b-y)<Dc (b-x)))))))/\
  (Dp x b=false->r=r/\cz b g x=c3/\True)))) aIp λhp=>?_
 have z:upN 0 (O.length:Int):=⟨qH _,qM _⟩;have zl:upN 0 (g.length:Int):=⟨qH _,qM _⟩;refine Z9 ?_;refine⟨hp,λh=>by unfold y5;rw[h];rfl,λhno=>⟨⟨0,z,rfl,rfl,rfl,rfl⟩,λa ⟨a0,a1⟩=>⟨λhlt=>?_,λhge=>?_⟩⟩⟩
 .obtain⟨ok,hls⟩:=fO cs ns os O g ks hno;have hn:=ok.n12;refine⟨Z,Z,Z,⟨0,z,rfl,TR _⟩,λb ⟨b0,b1⟩=>⟨EC _ _,λhb=>?_,λhb=>?_⟩⟩
  .have e1:=EC O.length b
   and_intros
   all_goals try (intros;omega)
   exact⟨b+1,⟨Z,Z⟩,⟨rfl,X2 b0⟩,Z⟩
  have e1:=EC O.length b;have e2:=TS g (a:=a) hb
  and_intros
  all_goals try (intros;omega)
  .exact⟨0,z,rfl,e2⟩
  intro r ⟨r0,r1⟩;have e3:=C3 g O.length a r 0;refine⟨e3,λhr=>⟨⟨0,zl,rfl,rfl⟩,λi ⟨i0,i1⟩=>⟨λhi=>?_,λhi=>⟨⟨Z,Z⟩,r+1,⟨Z,Z⟩,⟨rfl,Vt r0 hi⟩,Z⟩⟩⟩,λhr=>?_⟩
  .have e4:=C3 g O.length a r i;have bd:=aFi ok hls (a:=a) (i:=i) r1;have o:=ok.at_ _ (getD_mem (l:=g) (i:=i.toNat) (d:=(⟨#[]⟩,0,0,0,0,0)) Z);have nx:=Za (m:=O.length) (a:=a) (r:=r) i0 hi (⟨#[]⟩,0,0,0,0,0);generalize g.getD i.toNat (⟨#[]⟩,0,0,0,0,0)=l at *;generalize bfD g (O.length:Int) a r i=row at *;have b1':row.getD l.2.1.toNat 0<=3000000:=bd l.2.1.toNat;unfold bj lTo aZ at o
   and_intros
   all_goals try (intros;omega)
   .rintro⟨h1,h2⟩;exact⟨Z,Z⟩
   .rintro⟨h1,h2⟩
    and_intros
    all_goals try omega
    exact⟨i+1,⟨Z,Z⟩,⟨rfl,by rw[nx];exact QI h1 h2⟩,Z⟩
   .intro h;exact⟨⟨Z,Z⟩,i+1,⟨Z,Z⟩,⟨rfl,by rw[nx];exact QJ h⟩,Z⟩
  .have:r=O.length:=by omega
   subst this;have e5:=Qj (O.length:Int) g a;have e6:=LD ok a0 hlt;simp only[qV]
   and_intros
   all_goals try (intros;omega)
   exact⟨a+1,⟨Z,Z⟩,⟨by rw[<- e6,qF];rfl,rfl,e6⟩,Z⟩
 .have:a=O.length:=by omega
  subst this;unfold y5 cz YG;rw[if_pos hno,qP]
def aJi: ai Tryz.prog G0 K15:=
 af aA5<|af aAz aIp
def UY(j:LC)(f e:LB)(b:Lo)(g:Ll)(i:Lk)(h:noF (j,f,e,b,g,i)=true): (y5 (j,f,e,b,g,i)).length=b.length:=by unfold y5 YG;rw[if_pos h];simp
def IZ(j:LC)(g f:LB)(b:Lo)(e:Ll)(i:Lk)(h:noF (j,g,f,b,e,i)=true){a:Nat}(r:a<b.length): (y5 (j,g,f,b,e,i)).getD a []=jz b.length e a:=by
 unfold y5 YG;rw[if_pos h];show((List.range b.length).map λa=>jz b.length e a).getD a []=_;rw[qA,qR,vO r];rfl
def Qk{m:Nat}{e:Ll}{a b:Nat}(f:b<m): (jz m e a).getD b 0=cell (cI e) a b:=by
 unfold jz;rw[qA,qR,vO f,zU,qK]
def LG(m:Nat)(b:Ll)(a:Nat): (jz m b a).length=m:=by unfold jz;simp
def Qn{d:Lj}{b k:Int}(e:0<=k): (uB d b k||decide ((d.getD k.toNat []).getD b.toNat 0<0))=uB d b (k+1):=by
 unfold uB;rw[show(k+1).toNat=k.toNat+1 by omega,zJ,qBa];simp
def any_congr{α:Type}{p q:α->Bool}: ∀{l:List α},(∀x∈l,p x=q x)->l.any p=l.any q
 | [],_=>rfl
 | a::l,h=>by rw[qCe,qCe,h a (by simp),any_congr λx b=>h x (by simp[b])]
def U5(r:LC)(i g:LB)(e:Lo)(f:Ll)(j:Lk)(h:noF (r,i,g,e,f,j)=true){b:Int}(z:0<=b)(y:b<e.length): uB (y5 (r,i,g,e,f,j)) b e.length=sM e.length f b.toNat:=by
 obtain⟨v,_⟩:=fO r i g e f j h;have x:=v.n12;unfold uB sM;rw[qP];apply any_congr;intro a u;have u:=qZ.1 u;rw[IZ r i g e f j h u,Qk Z];have:=(pO v (a:=a) Z).low b.toNat Z
 congr 1
 exact propext Z
def WI: eO 121 xn:=ae λ(((G,u,r,g,f,v):Net),_)=>by
 refine zE (A:=(lvA [(6,[2,3,4,5,6,7]),(10,[2,3,4,5,6,7])] (aBM g f (y5 (G,u,r,g,f,v))))) (p:=let A:=(G,u,r,g,f,v);let X:=di A;let L:=Dk X;let c4:=Ei (Int.ofNat L) 0;let c5:=ew A;let b:=Df g;let h:=y5 A;let O:=Df h;(dI A->dI A/\L=L/\(c4->L=L/\X=c5/\True)/\(c4=false->dI A/\(∃x,upN x b/\Value.slice none 0 0=Value.slice none 0 0/\L=Dk (aT b f x)/\h=h/\0=x/\X=aT b f x/\True)/\∀(x:Int),let z:=Dk (aT b f x);let T:=[((3:Int),x,(111:Int))];let j:=z+Dk T;let V:=x+1;upN x b->(Dp x O->(∃e,upN e b/\Q3 Z0 z h x (false=uB h x e/\0=e/\T3 (aT b f x)))/\∀(e:Int),let i:=Dj (uB h x e);let c14:=Du h (Dc e) [];let c15:=e+1;upN e b->(Dp e O->Q2 i ((i->0<=e)/\(i->e<O)/\Q4 i ((i->0<=x)/\(i->x<Df c14)/\Q2 i ((Dh true i->i)/\inR .i64 c15/\∃y,upN y b/\(Q3 Z0 z h x (Ea (uB h x e) true (Dp (Du c14 (Dc x) 0) 0)=uB h x y/\c15=y/\T3 (aT b f x)))/\Dc (b-y)<Dc (b-e)))))/\(Dp e O=false->(uB h x e->z=z/\(j*24)<=140737488355328/\j<=9223372036854775807/\inR .i64 V/\∃y,upN y b/\(Value.slice none 0 0=Value.slice none 0 0/\j=Dk (aT b f y)/\h=h/\V=y/\Ef (aT b f x) T=aT b f y/\True)/\Dc (b-y)<Dc (b-x))/\(uB h x e=false->inR .i64 V/\∃y,upN y b/\(Value.slice none 0 0=Value.slice none 0 0/\z=Dk (aT b f y)/\h=h/\V=y/\aT b f x=aT b f y/\True)/\Dc (b-y)<Dc (b-x))))/\(Dp x O=false->z=z/\aT b f x=c5/\True)))) aJi λhp=>?_
 have z:upN 0 (g.length:Int):=⟨qH _,qM _⟩;refine Z9 ?_;refine⟨hp,λh=>by unfold ew;rw[HQ h];rfl,λh=>?_⟩;have i:=Nc h;have hf:=rP.1 i;obtain⟨ok,hls⟩:=fO G u r g f v i;have hn:=ok.n12;have hd:=UY G u r g f v i;refine⟨hp,⟨0,z,by rw[hf,jR],rfl,by rw[hf,jR]⟩,λb ⟨b0,b1⟩=>⟨λhb=>⟨⟨0,z,rfl,rfl⟩,λa ⟨a0,a1⟩=>⟨λha=>?_,λha=>?_⟩⟩,λhb=>?_⟩⟩
 .have hr:=IZ G u r g f v i (a:=a.toNat) Z;have V:=LG g.length f a.toNat;rw[<- hr]at V
  and_intros
  all_goals try (intros;omega)
  exact⟨a+1,⟨Z,Z⟩,⟨Qn a0,rfl⟩,Z⟩
 .have:a=g.length:=by omega
  subst this;have hl:=v7 (g.length:Int) f b;rw[U5 G u r g f v i b0 Z];refine⟨λX=>?_,λX=>?_⟩
  .have L:=vR (m:=g.length) b0 (by rw[qP];exact X);exact⟨by simp only[qV];omega,by simp only[qV];omega,⟨Z,Z⟩,b+1,⟨Z,Z⟩,⟨by rw[L,qF],rfl,L.symm⟩,Z⟩
  .have L:=A6 (m:=g.length) (by rw[qP];exact X) b0;exact⟨⟨Z,Z⟩,b+1,⟨Z,Z⟩,⟨by rw[L],rfl,L.symm⟩,Z⟩
 .have:b=g.length:=by omega
  subst this;unfold ew;rw[i];rfl
def aJ2: ai Tryz.prog G0 K16:=af WI aJi
def ZK{l:List ByteArray}: (∀i:Int,0<=i->i<l.length->rule2 l i=0)↔l.Pairwise (λa b=>a.toList≠b.toList):=by
 have g:∀i:Nat,∀h:i<l.length,rule2 l (i:Int)=0↔∀j,∀f:j<i,(l[j]'zoo).toList≠l[i].toList:=by
  intro i v;unfold rule2 kq;rw[qP,qA,qB v,qK];constructor
  .intro h j f e;split at h
   .cases h
   .rename_i r;refine r (xR.2 ⟨l[j]'zoo,wZ.2 ⟨j,by rw[qL];omega,by rw[qCz]⟩,?_⟩);rw[e];exact yZ _
  .intro h;rw[if_neg];intro r;obtain⟨w,z,x⟩:=xR.1 r;obtain⟨j,f,rfl⟩:=wZ.1 z;rw[qL]at f;rw[qCz]at x;exact h j Z (kK.1 x)
 rw[List.pairwise_iff_getElem];constructor
 .intro h i j v f u;exact(g j f).1 (h j Z Z) i u
 .intro h i y A;have:=(g i.toNat Z).2 λj f=>h j i.toNat Z Z f
  rwa [vI y]at this
def uH{r e:Int}{l:List ByteArray}{g:List Bool}(T:0<=e): bQ r e l g=[]↔(l.length:Int)<=e/\(∀x∈l,bT x=true)/\l.Pairwise (λa b=>a.toList≠b.toList)/\∀i,i<l.length->g.getD i false=true:=by
 have v:∀i:Nat,∀h:i<l.length,kq l (i:Int)=l[i]:=λi j=>by
  unfold kq;rw[qP,qA,qB j,qK]
 constructor
 .intro h;obtain⟨y,u⟩:=yg T h;refine⟨y,λx G=>?_,ZK.1 λi A z=>(qy (u i A z)).2.1,λi j=>?_⟩
  .obtain⟨i,j,rfl⟩:=wZ.1 G;have:=(qy (u i Z Z)).1;unfold bY at this;rw[v i j]at this;split at this
   .assumption
   .cases this
  .have:=A1 (qy (u i Z Z)).2.2
   rwa [qP]at this
 .rintro⟨y,u,O,L⟩;unfold bQ aY HB;rw[if_neg Z,vY,qDd];intro i j;have j:=qZ.1 j;have f:i<l.length:=Z;have e1:bY l (i:Int)=0:=by unfold bY;rw[v i f,if_pos (u _ (wL f))]
  have X:=ZK.2 O (i:Int) Z Z;have V:cB g (i:Int)=0:=by unfold cB;rw[qP,if_pos (L i f)]
  have:oz l g (i:Int)=0:=by unfold oz;rw[e1,X,V];rfl
  rw[if_pos this]
def lR{α:Type}{g f:Int}(L:0<=f)(r:α->ByteArray)(e:α->Bool)(xs:List α): bQ g f (xs.map r) (xs.map e)=[] ↔
  (xs.length:Int)<=f/\(∀x∈xs,bT (r x)=true)/\xs.Pairwise (λa b=>(r a).toList≠(r b).toList)/\∀x∈xs,e x=true:=by
 rw[uH L,qY,qBz];constructor
 .rintro⟨A,z,v,u⟩;refine⟨A,λx h=>z _ (List.mem_map_of_mem h),v,λx h=>?_⟩;obtain⟨i,j,rfl⟩:=wZ.1 h;have:=u i j
  rwa [qA,qR,qB j,zU,qK]at this
 .rintro⟨A,z,v,u⟩;refine⟨A,λx h=>?_,v,λi j=>?_⟩
  .obtain⟨y,G,rfl⟩:=vM.1 h;exact z y G
  .rw[qA,qR,qB j,zU,qK];exact u _ (wL j)
def mQ(r:LC)(g f:LB)(j:Lo)(e:Ll)(i:Lk)(h:noF (r,g,f,j,e,i)=true): (e.length:Int)<=40/\(∀x∈e,bT x.1=true)/\e.Pairwise (λa b=>a.1.toList≠b.1.toList)/\∀x∈e,dG (r,g,f,j,e,i) x=true:=
 (lR (by decide) (λl:Line=>l.1) (dG (r,g,f,j,e,i)) e).1 (jU r g f j e i h).2.2.2.2.1
def Walk.map {f e:Ll} (h:∀l∈f,∃r∈e,bj r=bj l/\lTo r=lTo l/\aZ r<=aZ l) {a b:Nat} {n:Int} (w:Walk f a b n):∃m,m<=n/\Walk e a b m:=by
 induction w with
 | nil=>exact⟨0,qH _,.nil _⟩
 | snoc l u _ i=>
  obtain⟨m,hm,g⟩:=i;obtain⟨r,j,x,v,y⟩:=h l u;rw[<- x]at g;exact⟨m+aZ r,Z,v▸.snoc r j g⟩
def Walk.ends {f e:Ll} (h:∀l∈f,∃r∈e,bj r=bj l/\lTo r=lTo l) {a b:Nat} {n:Int} (w:Walk f a b n):∃m,Walk e a b m:=by
 induction w with
 | nil=>exact⟨0,.nil _⟩
 | snoc l u _ i=>
  obtain⟨m,g⟩:=i;obtain⟨r,j,x,v⟩:=h l u;rw[<- x]at g;exact⟨m+aZ r,v▸.snoc r j g⟩
noncomputable def K18: Kt:=K16
abbrev BA:=al [.row N] (λ(n,_)=>dI n=true) λ(n,_)=>.dat .bool (aR n)
noncomputable def K19: Kt:=kOr 58 BA K18
def aFy: ai Tryz.prog G0 K18:=aJ2
def aD{x:Int}(h:-1000000000<=x/\x<=1000000000): inR .i64 x:=by unfold inR;simp only;omega
def dE(r:LC)(g f:LB)(e:Lo)(i:Ll)(j:Lk)(h:noF (r,g,f,e,i,j)=true): (e.length:Int)<=12/\(∀x∈e,bT x.1=true)/\e.Pairwise (λa b=>a.1.toList≠b.1.toList)/\∀x∈e,cU (r,g,f,e,i,j) x=true:=
 (lR (by decide) (λl:Off=>l.1) (cU (r,g,f,e,i,j)) e).1 (jU r g f e i j h).2.2.2.1
def aAn: eO 58 BA:=ae λ(((i,e,b,h,f,g):Net),_)=>by
 refine zF (c:=mkc K18) (A:=az) aFy iI hm (p:=let j:=(i,e,b,h,f,g);true/\(dI j->dI j/\Ec (Df (ew j)) 0=aR j/\True)) ⟨rfl,λj=>?_⟩;refine Z9 ?_;refine⟨j,?_⟩;unfold aR;cases ew (i,e,b,h,f,g)with
 | nil=>rfl
 | cons a l=>
  show decide _=false;rw[vZ];show ¬((((a::l).length:Nat):Int)=0);rw[wS];omega
def aIo: ai Tryz.prog G0 K19:=af aAn aFy
def CX(r:LC)(i f:LB)(b:Lo)(e:Ll)(j:Lk): ew (r,i,f,b,e,j)=[]↔noF (r,i,f,b,e,j)=true/\aT b.length e b.length=[]:=by
 unfold ew;cases h:noF (r,i,f,b,e,j)with
 | true=>exact⟨λg=>⟨rfl,g⟩,λg=>g.2⟩
 | false=>
  constructor
  .intro g;have:noF (r,i,f,b,e,j)=true:=rP.2 g;rw[h]at this;cases this
  .intro g;cases g.1
def JA(a b:Int): Int:=a%b
def bC(d:Int): Bool:=decide (-1000000<=d/\d<=1000000)
def uq(d:Int): Prop:=-1000000000000<=d/\d<=1000000000000
def PN(b:Int): Prop:=0<b/\b<=1000000
def dW(z:Int)(w:List Bool)(h:Li)(t:Int): Prop:=ay z w h=true/\-2000000000<=t/\t<=2000000000
def iV(z:Int)(w:List Bool)(h:Li)(d m:Int): Prop:=ay z w h=true/\bC d=true/\0<=m/\m<1440
def bE(z t:Int): Int:=(t+z)/1440
def JC(z t:Int): Int:=(t+z)%1440
def fx(z d m:Int): Int:=d*1440+m-z
abbrev N8:=al [.val I,.val I] (λ(a,b,_)=>uq a/\PN b) λ(a,b,_)=>.dat I (JA a b)
abbrev tN:=al [.val I] (λ_=>True) λ(a,_)=>.dat .bool (bC a)
def KT1: Kt:=kOr 162 N8 <|
 kOr 163 tN K19
abbrev CG:=al [.row C,.val I] (λ(c,t,_)=>dW c.1 c.2.1 c.2.2 t) λ(c,t,_)=>.tup [.dat I (bE c.1 t),.dat I (JC c.1 t)]
abbrev Iu:=al [.row C,.val I,.val I] (λ(c,d,m,_)=>iV c.1 c.2.1 c.2.2 d m) λ(c,d,m,_)=>.dat I (fx c.1 d m)
def KT2: Kt:=kOr 98 CG <|
 kOr 99 Iu KT1
def aHg: eO 162 N8:=ae λ((a:Int),(b:Int),_)=>by
 refine zE (A:=az) (p:=let e:=Dp (Fq a b) 0;let f:=Fq a b+b;(uq a/\PN b->b≠0/\(e->inR .i64 f/\f=JA a b/\True)/\(e=false->Fq a b=JA a b/\True))) aIo λ⟨⟨x,v⟩,g,u⟩=>?_
 have e:=qAm (a:=a) (b:=b);have z:=kP a (show b≠0 by omega);have y:=xK a g;have j:(b.natAbs:Int)=b:=Int.natAbs_of_nonneg Z;simp only[Es,Dp,Fq,Dq,JA,inR,qE,vZ];by_cases f:0<=a\/b ∣ a
 .rw[if_pos f]at e;refine⟨Z,λh=>Z,λh=>⟨Z,trivial⟩⟩
 .rw[if_neg f,j]at e;have r:a%b≠0:=λi=>f (.inr (qDp i))
  refine⟨Z,λh=>⟨Z,Z,trivial⟩,λh=>Z⟩
def SK: eO 163 tN:=ae λ((a:Int),_)=>by
 refine zE (A:=az) (p:=let b:=Ed a (-1000000);(True->L4 b ((Dh true b->b)/\Ea b (Ee a 1000000) false=bC a/\True))) aIo λ_=>⟨λh _=>h,λh=>by simpa[Dh]using h,?_,trivial⟩
 rw[jA];simp[bC,Ed,Ee]
def aIb: ai Tryz.prog G0 KT1:=af aHg<|af SK aIo
theorem aBu : eO 98 CG := ae fun (((z : Int), (w : List Bool), (h : Li)), (t : Int), _) => by
  refine zE (A := az) (p :=
 let c1 := Dj (ay z w h);
 let c2 := Dj c1;
 let c3 := Ea c1 true (Dp t (-2000000000 : Int));
 let c4 := Dj c3;
 let c5 := Ea c3 true (Ei t (2000000000 : Int));
 let c6 := JA (Dq t z) (1440 : Int);
 let c7 := Di (Dq t z) c6;
 let c8 := Gg c7 (1440 : Int); (dW z w h t → True ∧ (c2 = true → c2 = true → c2 = true) ∧ (Dh true c2 = true → c2 = true) ∧ (c4 = true →
  c4 = true → c4 = true) ∧ (Dh true c4 = true → c4 = true) ∧ (c5 = true → (0 : Int) = bE z t ∧ (0 : Int) = JC z t ∧ True) ∧ (c5 = false → inR .i64
  (Dq t z) ∧ (uq (Dq t z) ∧ PN (1440 : Int)) ∧ inR .i64 c7 ∧ Es (1440 : Int) (0 : Int) ∧ inR .i64 c8 ∧ c8 = bE z t ∧ c6 = JC z t
  ∧ True))) aIb fun ⟨hv, h1, h2⟩ => ?_
  obtain ⟨⟨v1, v2, v3, v4⟩, _⟩ := bM.1 hv
  have a1 : ¬ t < -2000000000 := by omega
  have a2 : ¬ t > 2000000000 := by omega
  simp only [hv, a1, a2, ua, jA, Dh, Dj, zX, qBe, yB, vU, qAj, kJ, yO, kT, yR, Dp, Ei, gG, zY, wE, gW, gQ, qAb, qAv, qBj, qAt, gB, Es, Di, Dq, Gg, inR, JA, bE, JC, uq, PN]
  have e0 := kP (t + z) (show (1440 : Int) ≠ 0 by omega)
  have e1 := xK (t + z) (show (0 : Int) < 1440 by omega)
  have e3 : t + z - (t + z) % 1440 = 1440 * ((t + z) / 1440) := by omega
  rw [e3, qDk _ (by omega)]
  omega
theorem aD1 : eO 99 Iu := ae fun (((z : Int), (w : List Bool), (h : Li)), (d : Int), (m : Int), _) => by
  refine zE (A := az) (p :=
 let c1 := Dj (ay z w h);
 let c2 := Dj c1;
 let c3 := Ea c1 true (Dj (bC d));
 let c4 := Dj c3;
 let c5 := Ea c3 true (Dp m (0 : Int));
 let c6 := Dj c5;
 let c7 := Ea c5 true (Ed m (1440 : Int));
 let c8 := Eh d (1440 : Int);
 let c9 := Dq c8 m;
 let c10 := Di c9 z; (iV z w h d m → True ∧ (c2 = true → c2 = true → c2 = true) ∧ (c2 = true → True) ∧ (c2 = true → c2 = true → c2 = true) ∧
  (Dh true c2 = true → c2 = true) ∧ (c4 = true → c4 = true → c4 = true) ∧ (Dh true c4 = true → c4 = true) ∧ (c6 = true → c6 = true → c6 = true) ∧ (Dh
  true c6 = true → c6 = true) ∧ (c7 = true → (0 : Int) = fx z d m ∧ True) ∧ (c7 = false → inR .i64 c8 ∧ inR .i64 c9 ∧ inR .i64 c10 ∧ c10
  = fx z d m ∧ True))) aIb fun ⟨hv, hd, h1, h2⟩ => ?_
  obtain ⟨⟨v1, v2, v3, v4⟩, _⟩ := bM.1 hv
  have a1 : ¬ m < 0 := by omega
  have a2 : ¬ m ≥ 1440 := by omega
  simp only [hv, hd, a1, a2, ua, jA, Dh, Dj, zX, qBe, yB, vU, qAj, kJ, yO, kT, yR, Dp, Ed, gG, zY, wE, gW, gQ, qAb, qAv, qBj, qAt, gB, Di, Dq, Eh, inR, fx]
  unfold bC at hd
  have := vN hd
  omega
def aH8: ai Tryz.prog G0 KT2:=af aBu<|af aD1 aIb
def JG(h:Li)(d i:Int): Bool:=decide (h.getD i.toNat 0≥d)
def Yr(h:Li)(i:Int): Prop:=0<=i/\i<h.length
def km(g:Int->Bool)(n:Int): Int:=(((List.range n.toNat).filter λ(i:Nat)=>!g (i:Int)).length:Int)
def mH(g:Int->Bool)(b:Int->Prop)(n:Int): Prop:=0<=n/\n<=1000000/\(∀i,0<=i->i<n->b i)/\∀i j,0<=i->i<=j->j<n->g i=true->g j=true
def nz(g:Int->Bool)(n i j:Int): Prop:=0<=i/\i<=j/\j<=n/\(0<i->g (i-1)=false)/\(j<n->g j=true)
def atS(h:Li)(d:Int): Int:=km (JG h d) h.length
def aW(w:List Bool)(h:Li)(d:Int): Bool:=w.getD (d%7).toNat false&&!h.contains d
def p1(x:Int×Int): Int:=x.1
def p2(x:Int×Int): Int:=x.2
def FU(w:List Bool)(h:Li): Prop:=w.length=7/\h.length<=40/\∀i:Nat,i+1<h.length->h.getD i 0<h.getD (i+1) 0
def aBk(g:Int->Bool)(n:Int): Ann:=Z8 2 (Int×Int) (λx=>nz g n (p1 x) (p2 x)) (λs x=>put s [(5,.dat I (p1 x)),(6,.dat I (p2 x))]) λx=>Dc (Di (p2 x) (p1 x))
def KT3: Kt:=λf args m=>match f,args,m with
 | 267,[.dat (.int .i64) i,.ip (.pair (.int .i64) (.pair (.sl .bool) (.sl (.int .i64)))) c,.ip (.int .i64) d],[]=>some ⟨Yr c.2.2 i,.dat .bool (JG c.2.2 d i),[]⟩
 | 266,[.dat (.int .i64) n,.fn 267 [.ip (.pair (.int .i64) (.pair (.sl .bool) (.sl (.int .i64)))) c,.ip (.int .i64) d]],[]=>some ⟨mH (JG c.2.2 d) (Yr c.2.2) n,.dat I (km (JG c.2.2 d) n),[]⟩
 | _,_,_=>KT2 f args m
def aGk: Ann:=⟨λ_ _=>none,λb s=>match b with
 | 3=>some (frz (allNames s) s)
 | _=>none,λ_ _=>none⟩
def KT4: Kt:=λf args m=>match f,args,m with
 | 265,[.dat (.int .i64) d,.ia .bool w,.ip (.pair (.int .i64) (.pair (.sl .bool) (.sl (.int .i64)))) c],[]=>some ⟨FU w c.2.2/\uq d,.dat .bool (aW w c.2.2 d),[]⟩
 | 221,[.agg [.dat (.int .i64) z,.dat (.sl .bool) w,.dat (.sl (.int .i64)) h]],[]=>some ⟨Dk w=7,.fn 265 [.ia .bool w,.ip C (z,w,h)],[]⟩
 | _,_,_=>KT3 f args m
def ZX{h:Li}(b:∀i:Nat,i+1<h.length->h.getD i 0<h.getD (i+1) 0): ∀(k i:Nat),i+k+1<h.length->h.getD i 0<h.getD (i+k+1) 0
 | 0,i,f=>b i f
 | k+1,i,f=>by
  have j:=ZX b k i Z;have g:=b (i+k+1) Z;have e:i+(k+1)+1=i+k+1+1:=Z;rw[e];omega
def Lh{h:Li}(e:∀i:Nat,i+1<h.length->h.getD i 0<h.getD (i+1) 0){i j:Nat}(b:i<j)(f:j<h.length): h.getD i 0<h.getD j 0:=by
 have:=ZX e (j-i-1) i Z
 rwa [show i+(j-i-1)+1=j by omega]at this
def o8{g:Int->Bool}{i:Nat}: ∀N:Nat,(∀x:Nat,x<N->g (x:Int)=decide (i<=x))->((List.range N).filter λ(x:Nat)=>!g (x:Int)).length=min i N
 | 0,_=>by simp
 | N+1,h=>by
  rw[zJ,yL,qF,o8 N λx f=>h x Z];by_cases b:i<=N
  .have e:g (N:Int)=true:=by rw[h N Z];simpa using b
   simp only[yN,e,yO,gI,wE,xO,xI];omega
  .have e:g (N:Int)=false:=by rw[h N Z];simpa using b
   simp only[yN,e,yR,gI,kR,wS,xI];omega
def search_end{g:Int->Bool}{e:Int->Prop}{n i j:Int}(z:mH g e n)(y:nz g n i j)(O:¬i<j): i=km g n:=by
 obtain⟨G,_,_,r⟩:=z;obtain⟨v,t1,t2,t3,u⟩:=y;have h:i=j:=Z;subst h;have f:∀x:Nat,x<n.toNat->g (x:Int)=decide (i.toNat<=x):=λx L=>by
  by_cases b:i.toNat<=x
  .rw[qW b];exact r i x v Z Z (u Z)
  .rw[vC b];cases A:g (x:Int)with
   | false=>rfl
   | true=>
    have:=r x (i-1) Z Z Z A;rw[t3 Z]at this;cases this
 unfold km;rw[o8 _ f];omega
theorem Xl (n : Int) (pre : Int → Prop) (g : Int → Bool) : ah Tryz.prog G0 266 [.dat I n, .clo1 I .bool pre g] [] ⟨mH g pre n, .dat I (km g n), []⟩ := by
  refine zE (A := (lvA [(2, [1, 4, 5, 6, 7])] (aBk g n))) (p :=
  (mH g pre n → (∃ x, nz g n (p1 x) (p2 x) ∧ AV.clo1 (Ty.int .i64) Ty.bool pre g = AV.clo1 (Ty.int .i64)
  Ty.bool pre g ∧ (0 : Int) = (0 : Int) ∧ (0 : Int) = p1 x ∧ n = p2 x ∧ True) ∧ ∀ (x : Int × Int),
 let c1 := Dp (p1 x) (p2 x);
 let c2 := Dq (p1 x) (p2 x);
 let c3 := Gi c2 (1 : Int);
 let c4 := Dj (g c3);
 let c5 := Dq c3 (1 : Int); nz g n (p1 x) (p2 x) → (c1 = true → inR .i64 c2 ∧ inR IntKind.u64 c2 ∧ Dl (0 : Int) (1 : Int) ∧ Dy (Dc (1 :
  Int)) (64) ∧ inR .i64 c3 ∧ pre c3 ∧ (c4 = true → inR .i64 c5 ∧ ∃ y, nz g n (p1 y) (p2 y) ∧ (AV.clo1 (Ty.int .i64) Ty.bool pre g =
  AV.clo1 (Ty.int .i64) Ty.bool pre g ∧ (0 : Int) = (0 : Int) ∧ c5 = p1 y ∧ p2 x = p2 y ∧ True) ∧ Dx (Dc (Di (p2 y) (p1 y))) (Dc (Di (p2 x)
  (p1 x)))) ∧ (c4 = false → ∃ y, nz g n (p1 y) (p2 y) ∧ (AV.clo1 (Ty.int .i64) Ty.bool pre g = AV.clo1 (Ty.int .i64) Ty.bool pre g ∧ (0 :
  Int) = (0 : Int) ∧ p1 x = p1 y ∧ c3 = p2 y ∧ True) ∧ Dx (Dc (Di (p2 y) (p1 y))) (Dc (Di (p2 x) (p1 x))))) ∧ (c1 = false → p1 x = km g n ∧
  True))) aH8 fun hp => ?_
  have hp0 := hp.1
  have hp1 := hp.2.1
  have hsh : ∀ x : Int, 0 ≤ x → Gi x 1 = x / 2 := fun x hx => by
    simp only [Gi]
    rw [show (2 : Int) ^ (1 : Int).toNat = 2 by decide, qCv _ (by omega)]
  simp only [Dj, qBe, yB, vU, zY, kY, Dp, Dl, Dy, Di, Dq, Dx, Dc, qE, vZ]
  refine ⟨⟨(0, n), ⟨qH _, hp0, qH _, fun h => absurd h (by simp only [p1]; omega), fun h => absurd h (by simp only [p2]; omega)⟩, rfl, rfl⟩, fun x hx => ⟨fun hlt => ?_, fun hge => search_end hp hx hge⟩⟩
  obtain ⟨i, j⟩ := x
  obtain ⟨t0, t1, t2, t3, t4⟩ := hx
  simp only [p1, p2] at t0 t1 t2 t3 t4 hlt ⊢
  rw [hsh (i + j) (by omega)]
  simp only [inR]
  refine ⟨by omega, by omega, by omega, by decide, by omega, hp.2.2.1 _ (by omega) (by omega), fun hg => ⟨by omega, ((i + j) / 2 + 1, j), ⟨by simp only; omega, by simp only; omega, t2, fun _ => ?_, t4⟩, ⟨rfl, rfl⟩, by simp only; omega⟩,
    fun hg => ⟨(i, (i + j) / 2), ⟨t0, by simp only; omega, by simp only; omega, t3, fun _ => hg⟩, ⟨rfl, rfl⟩, by simp only; omega⟩⟩
  simp only [Int.add_sub_cancel]
  exact hg
def aIA(i d:Int)(c:C.den): ah Tryz.prog G0 267 [.dat I i,.ip C c,.ip I d] [] ⟨Yr c.2.2 i,.dat .bool (JG c.2.2 d i),[]⟩:=
 zE (A:=az) (p:=(Yr c.2.2 i->0<=i/\i<Df c.2.2/\Ed (Du c.2.2 (Dc i) 0) d=JG c.2.2 d i/\True)) aH8 λh=>⟨h.1,h.2,rfl,trivial⟩
def SH(n d:Int)(c:C.den): ah Tryz.prog G0 266 [.dat I n,.fn 267 [.ip C c,.ip I d]] [] ⟨mH (JG c.2.2 d) (Yr c.2.2) n,.dat I (km (JG c.2.2 d) n),[]⟩:=
 (Xl n (Yr c.2.2) (JG c.2.2 d)).args λC r i h=>by
  obtain⟨u,f,e,g1,g,b,j,g3,g4⟩:=h;exact⟨u,f,e,g1,g,b,j,lC (by kernel_rfl) rfl (λx=>aIA x d c) i g3,g4⟩
def aH7: ai Tryz.prog G0 KT3:=by
 intro f args m c h;unfold KT3 at h;split at h
 .cases h;exact aIA _ _ _
 .cases h;exact SH _ _ _
 .exact aH8 _ _ _ _ h
def OO{h:Li}(r:∀i:Nat,i+1<h.length->h.getD i 0<h.getD (i+1) 0)(d:Int):
  0<=atS h d/\atS h d<=h.length/\(∀i:Nat,(i:Int)<atS h d->h.getD i 0<d)/\∀i:Nat,atS h d<=i->i<h.length->d<=h.getD i 0:=by
 have z:∃k:Nat,k<=h.length/\(∀i:Nat,i<k->h.getD i 0<d)/\∀i:Nat,k<=i->i<h.length->d<=h.getD i 0:=by
  have:∀N:Nat,N<=h.length->∃k:Nat,k<=N/\(∀i:Nat,i<k->h.getD i 0<d)/\∀i:Nat,k<=i->i<N->d<=h.getD i 0:=by
   intro N;induction N with
   | zero=>intro _;exact⟨0,qJ _,λi r=>Z,λi _ r=>Z⟩
   | succ N L=>
    intro X;obtain⟨k,G,f,g⟩:=L Z;by_cases A:k<N
    .refine⟨k,Z,f,λi v u=>?_⟩;rcases zO i N with j | j
     .exact g i v j
     .have y:i=N:=by omega
      have:=g k (qJ _) A;have:=Lh r A (show N<h.length by omega);rw[y];omega
    .have T:k=N:=by omega
     subst T;by_cases hd:h.getD k 0<d
     .refine⟨k+1,qJ _,λi O=>?_,λi v u=>Z⟩;rcases zO i k with j | j
      .exact f i j
      .rw[show i=k by omega];exact hd
     .exact⟨k,Z,f,λi v u=>by rw[show i=k by omega];omega⟩
  exact this h.length (qJ _)
 obtain⟨k,G,f,g⟩:=z;have e:atS h d=k:=by
  unfold atS km;rw[o8 (i:=k) _ (λx V=>?_)]
  .omega
  .unfold JG;simp only[qP];by_cases b:k<=x
   .rw[qW b];exact qW (g x b Z)
   .have:=f x Z;rw[vC b];exact vC Z
 rw[e];exact⟨Z,Z,λi r=>f i Z,λi v u=>g i Z u⟩
def UF{w:List Bool}{h:Li}(e:FU w h)(d:Int): mH (JG h d) (Yr h) h.length:=by
 refine⟨Z,by have:=e.2.1;omega,λi f v=>⟨f,v⟩,λi j f r x b=>?_⟩;unfold JG at b ⊢;simp only[qE]at b ⊢;rcases Int.lt_or_le i j with g | u
 .have:=Lh e.2.2 (show i.toNat<j.toNat by omega) Z;omega
 .rw[show j=i by omega];exact b
def tT{w:List Bool}{h:Li}(x:FU w h)(d:Int): (decide (atS h d=h.length)||(h.getD (atS h d).toNat 0 != d))=!h.contains d:=by
 obtain⟨A,g1,g2,g3⟩:=OO x.2.2 d;obtain⟨k,z⟩:∃k,k=atS h d:=⟨_,rfl⟩;rw[<- z]at A g1 g2 g3 ⊢;have f:d∈h↔k<h.length/\h.getD k.toNat 0=d:=by
  constructor
  .intro hm;obtain⟨i,v⟩:=kW.1 hm;have u:=(qG.1 v).1;have e:h.getD i 0=d:=by rw[qA,v];rfl
   have y:k<=i:=by
    rcases Int.lt_or_le (i:Int) k with b | r
    .have:=g2 i b;omega
    .exact r
   have g:k.toNat=i:=by
    rcases zO k.toNat i with b | r
    .have:=Lh x.2.2 b u;have:=g3 k.toNat Z Z;omega
    .omega
   exact⟨Z,by rw[g];exact e⟩
  .rintro⟨y,g⟩;have b:k.toNat<h.length:=Z;rw[qA,qB b]at g;simp only[qK]at g;rw[<- g];exact wL _
 by_cases hd:d∈h
 .obtain⟨y,g⟩:=f.1 hd;have:h.contains d=true:=by simpa using hd
  rw[this,g];have:¬k=h.length:=Z;simp[this]
 .have:h.contains d=false:=by simpa using hd
  rw[this];by_cases j:k=h.length
  .simp[j]
  .have:h.getD k.toNat 0≠d:=λe=>hd (f.2 ⟨Z,e⟩)
   simp only[j,gG,kT,yR,qDc,ne_eq];exact this
theorem aBp (d : Int) (wk : List Bool) (c : C.den) : ah Tryz.prog G0 265 [.dat I d, .ia .bool wk, .ip C c] [] ⟨FU wk c.2.2 ∧ uq d, .dat .bool (aW wk c.2.2 d), []⟩ := by
  obtain ⟨z, w, h⟩ := c
  refine zE (A := aGk) (p :=
 let c1 := JA d (7 : Int);
 let c2 := Du wk (Dc c1) false;
 let c3 := Dj c2;
 let c4 := (z, w, h);
 let c5 := km (JG h d) (Df h);
 let c6 := Ec c5 (Df h);
 let c7 := Dj c6; (FU wk h ∧ uq d → (uq d ∧ PN (7 : Int)) ∧ Dk wk = 7 ∧ Dl (0 : Int) c1 ∧ Dn c1 (Dz (7)) ∧ (c3 = true →
  false = aW wk h d ∧ True) ∧ (c3 = false → d = d ∧ wk = wk ∧ c4 = c4 ∧ d = d ∧ false = false ∧ d = d ∧ c1 = c1 ∧ c2 = c2 ∧ c2 = c2 ∧ c3 = c3 ∧ mH (JG
  h d) (Yr h) (Df h) ∧ (c7 = true → c7 = true → c7 = true) ∧ (c7 = true → c7 = true → c7 = true) ∧ (c7 = true → c7 = true → c7 = true) ∧ (c7 = true → Dl
  (0 : Int) c5) ∧ (c7 = true → Dn c5 (Df h)) ∧ (c7 = true → c7 = true → c7 = true) ∧ (c7 = true → c7 = true → c7 = true) ∧ (c7 = true → c7 = true → c7 =
  true) ∧ (Dh true c7 = true → c7 = true) ∧ Ea c6 true (Dw (Du h (Dc c5) (0 : Int)) d) = aW wk h d ∧ True))) aH7 fun ⟨hc, hd⟩ => ?_
  have hs := UF hc d
  obtain ⟨g0, g1, g2, g3⟩ := OO hc.2.2 d
  have e0 := kP d (show (7 : Int) ≠ 0 by omega)
  have e1 := xK d (show (0 : Int) < 7 by omega)
  have ea : km (JG h d) (Df h) = atS h d := rfl
  have hs' : mH (JG h d) (Yr h) (Df h) := hs
  simp only [ea, hs', ua, jA, Dh, Dj, zX, qBe, yB, vU, qAj, kJ, zY, kY, JA, Du, Dc, Ec, Dw, Dl, Dn, Df, Dz, Dk, qAp]
  refine ⟨⟨hd, by omega, by omega⟩, hc.1, e0, by exact_mod_cast e1, fun hw => ?_, fun hw => ⟨fun _ => g0, fun hne => by omega, ?_⟩⟩
  · unfold aW
    rw [hw]; rfl
  · unfold aW
    rw [hw, zX, ← tT hc d]
    congr 1
def Xk(z:Int)(w:List Bool)(h:Li): ah Tryz.prog G0 221 [cal z w h] [] ⟨Dk w=7,.fn 265 [.ia .bool w,.ip C (z,w,h)],[]⟩:=by
 refine zE (A:=az) (p:=let b:=Gf 7 false;let e:=Gl b w;let f:=(z,w,h);(Dk w=7->L5 0 7 (Dk b=7/\Dk b=7/\Dk e=7/\0=0/\e=w/\T3 f))) aH7 λb=>?_
 have b:w.length=7:=b;have e:Gl (Gf 7 false) w=w:=by
  simp only[Gl,Gf,wO,<- b,xQ];rw[yC (by simp),vY]
 refine⟨rfl,rfl,by simp[Dk,Gf],by simp[Dk,Gf],by rw[e];exact b,rfl,e,rfl,trivial⟩
def aFp: ai Tryz.prog G0 KT4:=by
 intro f args m c h;unfold KT4 at h;split at h
 .cases h;exact aBp _ _ _
 .cases h;exact Xk _ _ _
 .exact aH7 _ _ _ _ h
def FT{z:Int}{w:List Bool}{h:Li}(g:ay z w h=true): FU w h:=by
 obtain⟨⟨_,_,f,e⟩,b⟩:=bM.1 g;exact⟨f,e,b⟩
def XS{d:Int}(hd:bC d=true): uq d:=by
 unfold bC at hd;have:=vN hd;exact⟨Z,Z⟩
abbrev Iy:=al [.row C,.val I] (λ(c,d,_)=>ay c.1 c.2.1 c.2.2=true/\bC d=true) λ(c,d,_)=>.dat .bool (aW c.2.1 c.2.2 d)
theorem aEb : eO 286 Iy := ae fun (((z : Int), (w : List Bool), (h : Li)), (d : Int), _) => by
  refine zE (A := az) (p :=
 let c1 := Ea (ay z w h) (bC d) false; (ay z w h = true ∧ bC d = true → True ∧ (ay z w h = true → ay z w h = true →
  ay z w h = true) ∧ (ay z w h = true → True) ∧ (Dh true (ay z w h) = true → ay z w h = true) ∧ (c1 = true → c1 = true → c1 = true) ∧ (c1 =
  true → Dk w = 7) ∧ (c1 = true → c1 = true → c1 = true) ∧ (c1 = true → c1 = true → c1 = true) ∧ (c1 = true → FU w h ∧ uq d) ∧ (Dh true c1 = true →
  c1 = true) ∧ Ea c1 (aW w h d) false = aW w h d ∧ True)) aFp fun ⟨hv, hd⟩ => ?_
  have hc := FT hv
  simp only [hv, hd, jA, Dh, zX, qBe, yB, vU, qAj, kJ, gB, Dk]
  exact ⟨hc.1, hc, XS hd⟩
end Go.Eng.Sv
