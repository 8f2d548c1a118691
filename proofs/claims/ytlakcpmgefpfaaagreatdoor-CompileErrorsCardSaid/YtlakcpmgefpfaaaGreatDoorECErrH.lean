/- PeCo2e PeCo3e PeCo4e PeCo5e PeCo6e PeCo7e PeMxSe PeRo5e PeCoL0 PeCoL1 PeCoL2e PeIn3e PeIn4e PeIn5e PeIn5be PeCo8e PeRo1e PeRoEe -/
import Derived.Test.YtlakcpmgefpfaaaGreatDoorECErrE
import Derived.Test.YtlakcpmgefpfaaaGreatDoorECErrF
import Derived.Test.YtlakcpmgefpfaaaGreatDoorECErrG
import Derived.Shelf.SlGeneric
import Derived.Shelf.SlIterI.Nil
import Derived.Shelf.SortM.Plain
import Derived.Shelf.SortM.SortNone
import Derived.Ground.GgzProg
import Derived.Ground.SlgmProg
import Derived.Test.YtlakcpmgefpfaaaGreatDoorProg
import Derived.RangeFuncNested
import Derived.RangeFuncBound
import Derived.RangeFuncCalls
import Derived.RangeFuncLeaves
import Derived.RangeFuncWrites
import Derived.Shelf.Abstract
import Derived.Shelf.RegionOpen
import Derived.WalkKit
import Derived.OwnWalkIn
import Derived.TacticsInMore
import Derived.LoopNIn
import Derived.LoopIn
import Derived.Maps.OwnIn
set_option linter.all false
set_option maxRecDepth 100000
noncomputable section
namespace Go.Eng.Sv
open Go.Proofs
def aBD(n:Net)(nx:Lj)(k o a b:Int): Li:=(List.range n.2.2.2.1.length).map λd:Nat=>pU n nx k o d a b
def QS(n:Net)(nx:Lj)(k a b:Int): Lj:=(List.range n.2.2.2.1.length).map λo:Nat=>aBD n nx k o a b
def zP(n:Net)(nx:Lj)(a b:Int): Bool:=decide (0<=a/\a<b/\b<=600/\b-a<=60)&&(aR n&&mf n nx)
def Re(n:Net)(nx:Lj)(a b:Int): List (Lj):=if zP n nx a b=true then(List.range n.2.2.2.2.2.length).map λk:Nat=>QS n nx k a b else[]
def upF{α:Type}(g:Int->α)(z:α)(l k:Int): List α:=((List.range k.toNat).map λi:Nat=>g i)++List.replicate (l-k).toNat z
def upI(g:Int->Int)(l k:Int): Li:=upF g 0 l k
def Q6(g:Int->Li)(l k:Int): Lj:=upF g [] l k
def upM(g:Int->Lj)(l k:Int): List (Lj):=upF g [] l k
def um(l:Int)(p:Int->Prop): Prop:=(0<=l/\l<=1000000)/\∀i,0<=i->i<l->p i
def toI(l k:Int): Prop:=0<=k/\k<=l
def X6(n:Net)(nx:Lj)(k o a b d:Int): Prop:=cellP n nx k o d a b
def X7(n:Net)(nx:Lj)(k o a b d:Int): Int:=pU n nx k o d a b
def Xz(n:Net)(nx:Lj)(k a b o:Int): Prop:=aGs n nx a b/\F8 n k/\aHw n o
def Ta(n:Net)(nx:Lj)(k a b o:Int): Li:=aBD n nx k o a b
def Wy(n:Net)(nx:Lj)(a b k:Int): Prop:=aGs n nx a b/\F8 n k
def O1(n:Net)(nx:Lj)(a b k:Int): Lj:=QS n nx k a b
def aEh(l:Int)(g:Int->Int): Ann:=⟨λe s=>match e with
 | 3=>match s.sig.T 5 with
  | .buf b _=>some {α:=Int,inv:=λk=>toI l k,st:=λk=>fu (put s [(11,.dat I k)]) b (.buf 3 I (upI g l k) []),μ:=λk=>Dc (Di l k)}
  | _=>none
 | _=>none,λ_ _=>none,λ_ _=>none⟩
def aEf(l:Int)(g:Int->Li): Ann:=⟨λe s=>match e with
 | 3=>match s.sig.T 5 with
  | .buf b _=>some {α:=Int,inv:=λk=>toI l k,st:=λk=>fu (put s [(11,.dat I k)]) b (.buf 36 R (Q6 g l k) []),μ:=λk=>Dc (Di l k)}
  | _=>none
 | _=>none,λ_ _=>none,λ_ _=>none⟩
def aEg(l:Int)(g:Int->Lj): Ann:=⟨λe s=>match e with
 | 3=>match s.sig.T 5 with
  | .buf b _=>some {α:=Int,inv:=λk=>toI l k,st:=λk=>fu (put s [(11,.dat I k)]) b (.buf 32 M (upM g l k) []),μ:=λk=>Dc (Di l k)}
  | _=>none
 | _=>none,λ_ _=>none,λ_ _=>none⟩
def KC2: Kt:=kOr 55 BL KC1
def S4(args:List AV)(m:Mem): Option jG:=match m,args with
 | [],[.dat (.int .i64) l,.fn f caps]=>if f=54 then match ofK [.ptr N,.ptr M,.ptr I,.ptr I,.ptr I,.ptr I] caps with
  | some (n,nx,k,o,a,b,_)=>some ⟨um l (X6 n nx k o a b),.dat R (upI (X7 n nx k o a b) l l),[]⟩
  | none=>none
  else none
 | _,_=>none
def KC3: Kt:=kOr 53 S4 KC2
def SY(args:List AV)(m:Mem): Option jG:=match m,args with
 | [],[.dat (.int .i64) l,.fn f caps]=>if f=52 then match ofK [.ptr N,.ptr M,.ptr I,.ptr I,.ptr I] caps with
  | some (n,nx,k,a,b,_)=>some ⟨um l (Xz n nx k a b),.dat M (Q6 (Ta n nx k a b) l l),[]⟩
  | none=>none
  else none
 | _,_=>none
def KC4: Kt:=kOr 51 SY KC3
def S0(args:List AV)(m:Mem): Option jG:=match m,args with
 | [],[.dat (.int .i64) l,.fn f caps]=>if f=50 then match ofK [.ptr N,.ptr M,.ptr I,.ptr I] caps with
  | some (n,nx,a,b,_)=>some ⟨um l (Wy n nx a b),.dat (.sl M) (upM (O1 n nx a b) l l),[]⟩
  | none=>none
  else none
 | _,_=>none
def KC5: Kt:=kOr 49 S0 KC4
def uW{α:Type}{g:Int->α}{z:α}{l k:Int}(h:toI l k): (upF g z l k).length=l.toNat:=by
 obtain⟨e,b⟩:=h;unfold upF;rw[qF,qY,qU,wO];omega
def px{α:Type}{g:Int->α}{z:α}{l:Int}: List.replicate l.toNat z=upF g z l 0:=by
 unfold upF;simp
def rA{α:Type}{g:Int->α}{z:α}{l:Int}: upF g z l l=(List.range l.toNat).map λi:Nat=>g i:=by
 unfold upF;simp
def Db{α:Type}{g:Int->α}{z:α}{l k:Int}(i:0<=k)(h:k<l): (upF g z l k).set k.toNat (g k)=upF g z l (k+1):=by
 unfold upF;have e:(k+1).toNat=k.toNat+1:=Z;have f:(l-k).toNat=(l-(k+1)).toNat+1:=Z;rw[e,f,zJ,zZ,qBu,List.set_append,if_neg (by simp)];rw[qY,qU,qBf,List.set_cons_zero,qCs,wG];have b:((k.toNat:Nat):Int)=k:=Z;rw[b];rfl
def rows_ok{α:Type}{g:Int->α}{z:α}{l:Int}{p:Int->Prop}(h:0<=l)(j:l<=1000000)(u:∀i,0<=i->i<l->p i){q:Int->Prop}{m:Int}(hm:m<=100)(L:0<=m)(r:∀x,0<=x/\x<=1000001->q x):
  0<=l/\m*l<=281474976710656/\l<=9223372036854775807/\(List.replicate l.toNat z).length=l.toNat/\(∃x,toI l x/\0=x/\List.replicate l.toNat z=upF g z l x)/\
  ∀x,toI l x->(x<((l.toNat:Nat):Int)->p x/\(upF g z l x).length=l.toNat/\0<=x/\x<((upF g z l x).length:Int)/\(upF g z l x).length=l.toNat/\q (x+1)/\∃y,toI l y/\(x+1=y/\(upF g z l x).set x.toNat (g x)=upF g z l y)/\(l-y).toNat<(l-x).toNat)/\
   (¬x<((l.toNat:Nat):Int)->(upF g z l x).length=l.toNat/\upF g z l x=upF g z l l):=by
 have v:m*l<=100*1000000:=kL hm j h Z;refine⟨h,Z,Z,by simp,⟨0,⟨Z,h⟩,rfl,px⟩,λx b=>⟨λA=>?_,λG=>?_⟩⟩
 .have e:=uW (g:=g) (z:=z) b;have f:=b.1;exact⟨u x f Z,e,f,Z,e,r _ Z,x+1,⟨Z,Z⟩,⟨rfl,Db f Z⟩,Z⟩
 .have e:=uW (g:=g) (z:=z) b;obtain⟨f,O⟩:=b;exact⟨e,by rw[show x=l by omega]⟩
def aAt(l:Int)(p:Int->Prop)(g:Int->Int): ah Tryz.prog G0 53 [.dat I l,.clo1 I I p g] [] ⟨um l p,.dat R (upI g l l),[]⟩:=by
 refine zE (A:=(lvA [(3,[1,4,5,6,10,11])] (aEh l g))) (p:=let f:=Dc l;let b:=Ty.int .i64;let h:=Et l (0:Int);(um l p->0<=l/\(Dz 8*l)<=281474976710656/\l<=9223372036854775807/\Dk h=Dc l/\(∃x,toI l x/\Q3 (AV.clo1 b b p g) Z0 (Dc l) (Int.ofNat f) (0=x/\h=upI g l x/\True))/\∀(x:Int),let i:=Dp x (Int.ofNat f);let e:=Dk (upI g l x);let j:=x+1;toI l x->(i->p x/\e=Dc l/\0<=x/\x<Dz e/\e=Dc l/\inR .i64 j/\∃y,toI l y/\(Q3 (AV.clo1 b b p g) Z0 (Dc l) (Int.ofNat f) (j=y/\Em (upI g l x) (Dc x) (g x)=upI g l y/\True))/\Dc (l-y)<Dc (l-x))/\(i=false->e=Dc l/\upI g l x=upI g l l/\True))) aFt λb=>?_
 obtain⟨⟨f,e⟩,b⟩:=b;refine Z9 ?_;exact rows_ok f e b Z Z (λx h=>aB Z)
def aAr(l:Int)(p:Int->Prop)(g:Int->Li): ah Tryz.prog G0 51 [.dat I l,.clo1 I R p g] [] ⟨um l p,.dat M (Q6 g l l),[]⟩:=by
 refine zE (A:=(lvA [(3,[1,4,5,6,10,11])] (aEf l g))) (p:=let f:=Dc l;let b:=Ty.int .i64;let h:=Et l (Dt Int);(um l p->0<=l/\(Dz 24*l)<=281474976710656/\l<=9223372036854775807/\Dk h=Dc l/\(∃x,toI l x/\Q3 (AV.clo1 b b.sl p g) Z0 (Dc l) (Int.ofNat f) (0=x/\h=Q6 g l x/\True))/\∀(x:Int),let i:=Dp x (Int.ofNat f);let e:=Dk (Q6 g l x);let j:=x+1;toI l x->(i->p x/\e=Dc l/\0<=x/\x<Dz e/\e=Dc l/\inR .i64 j/\∃y,toI l y/\(Q3 (AV.clo1 b b.sl p g) Z0 (Dc l) (Int.ofNat f) (j=y/\Em (Q6 g l x) (Dc x) (g x)=Q6 g l y/\True))/\Dc (l-y)<Dc (l-x))/\(i=false->e=Dc l/\Q6 g l x=Q6 g l l/\True))) aFt λb=>?_
 obtain⟨⟨f,e⟩,b⟩:=b;refine Z9 ?_;exact rows_ok f e b Z Z (λx h=>aB Z)
def aAs(l:Int)(p:Int->Prop)(g:Int->Lj): ah Tryz.prog G0 49 [.dat I l,.clo1 I M p g] [] ⟨um l p,.dat (.sl M) (upM g l l),[]⟩:=by
 refine zE (A:=(lvA [(3,[1,4,5,6,10,11])] (aEg l g))) (p:=let f:=Dc l;let b:=Ty.int .i64;let h:=Et l (Dt (Li));(um l p->0<=l/\(Dz 24*l)<=281474976710656/\l<=9223372036854775807/\Dk h=Dc l/\(∃x,toI l x/\Q3 (AV.clo1 b b.sl.sl p g) Z0 (Dc l) (Int.ofNat f) (0=x/\h=upM g l x/\True))/\∀(x:Int),let i:=Dp x (Int.ofNat f);let e:=Dk (upM g l x);let j:=x+1;toI l x->(i->p x/\e=Dc l/\0<=x/\x<Dz e/\e=Dc l/\inR .i64 j/\∃y,toI l y/\(Q3 (AV.clo1 b b.sl.sl p g) Z0 (Dc l) (Int.ofNat f) (j=y/\Em (upM g l x) (Dc x) (g x)=upM g l y/\True))/\Dc (l-y)<Dc (l-x))/\(i=false->e=Dc l/\upM g l x=upM g l l/\True))) aFt λb=>?_
 obtain⟨⟨f,e⟩,b⟩:=b;refine Z9 ?_;exact rows_ok f e b Z Z (λx h=>aB Z)
def aJg: ai Tryz.prog G0 KC2:=af aAB aFt
def aDv(d k o a b:Int)(nx:Lj)(n:Net): ah Tryz.prog G0 54 [.dat I d,.ip N n,.ip M nx,.ip I k,.ip I o,.ip I a,.ip I b] [] ⟨X6 n nx k o a b d,.dat I (X7 n nx k o a b d),[]⟩:=
 zE (A:=az) (p:=(X6 n nx k o a b d->cellP n nx k o d a b/\pU n nx k o d a b=X7 n nx k o a b d/\True)) aJg λe=>⟨e,rfl,trivial⟩
def yW{P:Program}{C:Ctx}{f:FuncId}{l:List AK}{b:List AV}{x:AKs l}{v:Value}(h:ofK l b=some x)(g:(AV.fn f b).rel P C v): (AV.fn f (avK l x)).rel P C v:=by
 obtain⟨e,rfl,i⟩:=g;exact⟨e,rfl,fS h i⟩
def S3: ∀args m c,S4 args m=some c->ah Tryz.prog G0 53 args m c:=by
 intro args m c e;unfold S4 at e;split at e
 case h_2=>cases e
 rename_i l f caps;split at e
 case isFalse=>cases e
 rename_i j;subst j;split at e
 case h_2=>cases e
 rename_i n nx k o a b _ g;cases e;exact(aAt _ _ _).args λC u r i=>ix i λv h=>lC (by kernel_rfl) rfl (λx=>aDv x k o a b nx n) r (yW g h)
def aJf: ai Tryz.prog G0 KC3:=af S3 aJg
def aCA(j:LC)(f e:LB)(i:Lo)(g:Ll)(b:Lk)(h:noF (j,f,e,i,g,b)=true): (b.length:Int)<=4:=by
 have:=((uH (by decide)).1 (jU j f e i g b h).2.2.2.2.2).1;simpa[aO]using this
def ko(r:LC)(i g:LB)(f:Lo)(j:Ll)(b:Lk)(h:aR (r,i,g,f,j,b)=true): (f.length:Int)<=12/\(b.length:Int)<=1000000:=by
 have e:=aS r i g f j b h;exact⟨(dE r i g f j b e).1,by have:=aCA r i g f j b e;omega⟩
def aDw(o k a b:Int)(nx:Lj)(n:Net): ah Tryz.prog G0 52 [.dat I o,.ip N n,.ip M nx,.ip I k,.ip I a,.ip I b] [] ⟨Xz n nx k a b o,.dat R (Ta n nx k a b o),[]⟩:=by
 refine zE (A:=az) (p:=let e:=Df n.2.2.2.1;(Xz n nx k a b o->um e (X6 n nx k o a b)/\upI (X7 n nx k o a b) e e=Ta n nx k a b o/\True)) aJf λ⟨f,h,g⟩=>?_
 refine Z9 ?_;obtain⟨e,r⟩:=ko n.1 n.2.1 n.2.2.1 n.2.2.2.1 n.2.2.2.2.1 n.2.2.2.2.2 f.1;have e:(n.2.2.2.1.length:Int)<=12:=e;refine⟨⟨⟨Z,Z⟩,λd j i=>⟨f,h,g,j,i⟩⟩,?_⟩;unfold upI Ta aBD;rw[rA,qP];rfl
def SX: ∀args m c,SY args m=some c->ah Tryz.prog G0 51 args m c:=by
 intro args m c e;unfold SY at e;split at e
 case h_2=>cases e
 rename_i l f caps;split at e
 case isFalse=>cases e
 rename_i j;subst j;split at e
 case h_2=>cases e
 rename_i n nx k a b _ g;cases e;exact(aAr _ _ _).args λC u r i=>ix i λv h=>lC (by kernel_rfl) rfl (λx=>aDw x k a b nx n) r (yW g h)
def aJe: ai Tryz.prog G0 KC4:=af SX aJf
def aDx(k a b:Int)(nx:Lj)(n:Net): ah Tryz.prog G0 50 [.dat I k,.ip N n,.ip M nx,.ip I a,.ip I b] [] ⟨Wy n nx a b k,.dat M (O1 n nx a b k),[]⟩:=by
 refine zE (A:=az) (p:=let e:=Df n.2.2.2.1;(Wy n nx a b k->um e (Xz n nx k a b)/\Q6 (Ta n nx k a b) e e=O1 n nx a b k/\True)) aJe λ⟨f,i⟩=>?_
 refine Z9 ?_;obtain⟨e,j⟩:=ko n.1 n.2.1 n.2.2.1 n.2.2.2.1 n.2.2.2.2.1 n.2.2.2.2.2 f.1;have e:(n.2.2.2.1.length:Int)<=12:=e;refine⟨⟨⟨Z,Z⟩,λo h g=>⟨f,i,h,g⟩⟩,?_⟩;unfold Q6 O1 QS;rw[rA,qP];rfl
def SZ: ∀args m c,S0 args m=some c->ah Tryz.prog G0 49 args m c:=by
 intro args m c e;unfold S0 at e;split at e
 case h_2=>cases e
 rename_i l f caps;split at e
 case isFalse=>cases e
 rename_i j;subst j;split at e
 case h_2=>cases e
 rename_i n nx a b _ g;cases e;exact(aAs _ _ _).args λC u r i=>ix i λv h=>lC (by kernel_rfl) rfl (λx=>aDx x a b nx n) r (yW g h)
def aJ1: ai Tryz.prog G0 KC5:=af SZ aJe
abbrev xp:=al [.row N,.val M,.val I,.val I] (λ(_,nx,_,_,_)=>dw nx) λ(n,nx,a,b,_)=>.dat (.sl M) (Re n nx a b)
def WL: eO 13 xp:=ae λ(((x,j,i,v,r,f):Net),(nx:Lj),(a:Int),(b:Int),_)=>by
 refine zE (A:=az) (p:=let L:=Dp a 0;let h:=Dj L;let O:=Ea L true (Ee b a);let u:=Dj O;let T:=Ea O true (Ei b 600);let g:=Dj T;let V:=Ea T true (Ei (b-a) 60);let y:=(x,j,i,v,r,f);let A:=Re y nx a b;let z:=Dj (aR y);let e:=Dj z;let X:=Ea z true (Dj (mf y nx));let G:=Df f;(dw nx->Q2 h ((Dh true h->h)/\L4 u ((Dh true u->u)/\Q2 g ((g->inR .i64 (b-a))/\L4 g ((Dh true g->g)/\(V->A=Dt (Lj)/\True)/\(V=false->True/\L4 e ((e->dw nx)/\L4 e ((Dh true e->e)/\(X->A=Dt (Lj)/\True)/\(X=false->um G (Wy y nx a b)/\upM (O1 y nx a b) G G=A/\True)))))))))) aJ1 λT=>?_
 refine Z9 ?_;have G:¬zP (x,j,i,v,r,f) nx a b=true->Re (x,j,i,v,r,f) nx a b=[]:=λh=>if_neg h
 have u:zP (x,j,i,v,r,f) nx a b=true↔(0<=a/\a<b/\b<=600/\b-a<=60)/\aR (x,j,i,v,r,f)=true/\mf (x,j,i,v,r,f) nx=true:=by
  unfold zP;rw[qC,qC,qE]
 refine⟨λh=>aB Z,λh=>G (λg=>by have:=(u.1 g).1;omega),λh=>⟨λ_=>T,λg=>G (λq=>?_),λ⟨g1,g2⟩=>?_⟩⟩
 .have:=(u.1 q).2;rcases g with g | g<;>simp[g]at this
 .obtain⟨X,V⟩:=ko x j i v r f g1;refine⟨⟨⟨Z,Z⟩,λk O L=>⟨⟨g1,g2,Z,Z,Z,Z⟩,O,L⟩⟩,?_⟩;unfold Re;rw[if_pos (u.2 ⟨Z,g1,g2⟩)];unfold upM O1;rw[rA,qP]
open Go.Eng.Mp (aI cm oN upto at2 oy)
def rR(p:Int): Bool:=decide (2<=p)&&decide (p<=64)
def mr(b e:Int): Int:=b ^ e.toNat
def ZN(b e:Int): Prop:=0<=b/\b<=64/\e<=4
def Hv(b e k:Int): Prop:=ZN b e/\0<=k/\(k<=e\/k=0)
def Pm(p q n:Int): Bool:=(((rR p&&decide (1<=q))&&decide (q<=4))&&decide (0<=n))&&decide (n<=2000)
def J1(p q n:Int): Int:=if Pm p q n=true then if mr p q<n then 140 else 0 else 1
def aFP(p k d:Int): Int:=Int.tmod (Int.tdiv d (mr p k)) p
def aC2(p q n:Int): Lj:=if J1 p q n=0 then(List.range q.toNat).map λk:Nat=>(List.range n.toNat).map λd:Nat=>aFP p k d else[]
def aBm(p q n k:Int): Lj:=((List.range k.toNat).map λj:Nat=>(List.range n.toNat).map λd:Nat=>aFP p j d)++List.replicate (q-k).toNat []
def aC1(p n j k:Int): Li:=upF (aFP p j) 0 n k
def SE(p q n k:Int): Prop:=J1 p q n=0/\0<=k/\k<=q
def Xh(p q n j k:Int): Prop:=SE p q n j/\j<q/\0<=k/\k<=n
def lE(a b:Int): Bool:=((decide (0<=a)&&decide (a<b))&&decide (b<=600))&&decide (b-a<=60)
def KC6: Kt:=kOr 20 Bv <|
 kOr 13 xp <|
 kOr 23 BG KQ3
def aJE(b e:Int): Ann:=Z8 3 Int (Hv b e) (λs k=>put s [(7,.dat I k),(5,.dat I (mr b k))]) λk=>Dc (Di e k)
abbrev Ih:=al [.val I] (λ_=>True) λ(p,_)=>.dat .bool (rR p)
abbrev NL:=al [.val I,.val I] (λ(b,e,_)=>ZN b e) λ(b,e,_)=>.dat I (mr b e)
def KC7: Kt:=kOr 84 Ih <|
 kOr 85 NL KC6
def aJC(p q n:Int): Ann:=⟨λg s=>match g with
 | 7=>match s.sig.T 8 with
  | .buf e _=>some {α:=Int,inv:=λk=>SE p q n k,st:=λk=>fu (put s [(38,.dat I k)]) e (.mat 36 3 I (aBm p q n k) []),μ:=λk=>Dc (Di q k)}
  | _=>none
 | 11=>match s.sig.T 9,s.sig.T 8,s.sig.T 44 with
  | .dat (.int .i64) j,.buf e _,.buf b f=>some {α:=Int,inv:=λk=>Xh p q n j k,st:=λk=>fu (fu (put s [(47,.dat I k)]) e (.mat 36 3 I (aBm p q n j) [(Dc j,.buf b f)])) b (.buf 3 I (aC1 p n j k) []),μ:=λk=>Dc (Di n k)}
  | _,_,_=>none
 | _=>none,λ_ _=>none,λ_ _=>none⟩
def aIj: ai Tryz.prog G0 KC6:=af aAg<|af WL<|af aAv aI5
def aDC: eO 84 Ih:=ae λ((p:Int),_)=>by
 refine zE (A:=az) (p:=let b:=Ed p 2;(True->L4 b ((Dh true b->b)/\Ea b (Ee p 64) false=rR p/\True))) aIj λ_=>?_
 refine⟨λh _=>h,λh=>h,?_,trivial⟩;unfold rR;cases e:decide (2<=p)<;>simp[Ea,Ed,Ee,e]<;>simpa using e
def Kq{b:Int}(e:0<=b)(h:b<=64): ∀k:Nat,0<=b ^ k/\b ^ k<=64 ^ k
 | 0=>by simp
 | k+1=>by
  obtain⟨g,f⟩:=Kq e h k;rw[Int.pow_succ,Int.pow_succ];exact⟨qAi g e,kL f h e (qCk g f)⟩
def ZM{b e:Int}(j:0<=b)(i:b<=64)(r:e<=4): 0<=mr b e/\mr b e<=16777216:=by
 unfold mr;obtain⟨g,f⟩:=Kq j i e.toNat;have:e.toNat<=4:=Z;refine⟨g,qCk f ?_⟩;rcases(by omega:e.toNat=0\/e.toNat=1\/e.toNat=2\/e.toNat=3\/e.toNat=4)with h | h | h | h | h<;>rw[h]<;>decide
def uE{b k:Int}(h:0<=k): mr b (k+1)=mr b k*b:=by
 unfold mr;rw[show(k+1).toNat=k.toNat+1 by omega,Int.pow_succ]
def aGQ: eO 85 NL:=ae λ((b:Int),(e:Int),_)=>by
 refine zE (A:=(lvA [(3,[0,4,5,6,7])] (aJE b e))) (p:=(ZN b e->(∃x,Hv b e x/\L5 b Q1 (1=mr b x/\e=e/\0=x/\True))/\∀(x:Int),let f:=mr b x*b;let g:=x+1;Hv b e x->(Dp x e->inR .i64 f/\inR .i64 g/\∃y,Hv b e y/\(L5 b Q1 (f=mr b y/\e=e/\g=y/\True))/\Dc (e-y)<Dc (e-x))/\(Dp x e=false->mr b x=mr b e/\True))) aIj λf=>?_
 refine Z9 ?_;obtain⟨v,u,G⟩:=id f;refine⟨⟨0,⟨f,Z,.inr rfl⟩,by unfold mr;simp,rfl⟩,λx ⟨_,g,z⟩=>⟨λj=>?_,λr=>?_⟩⟩
 .obtain⟨i,h⟩:=ZM v u (e:=x+1) Z;rw[uE g]at i h;exact⟨aB Z,aB Z,x+1,⟨f,Z,Z⟩,⟨(uE g).symm,rfl⟩,Z⟩
 .unfold mr;rw[show x.toNat=e.toNat by omega]
def aCO: ai Tryz.prog G0 KC7:=af aDC<|af aGQ aIj
def aIC(p n j:Int): Li:=(List.range n.toNat).map λd:Nat=>aFP p j d
def vj(p q n k:Int): aBm p q n k=upF (aIC p n) [] q k:=rfl
def Xg(p n j:Int): aC1 p n j n=aIC p n j:=rA
def aBl{p q n:Int}: J1 p q n=0↔((((2<=p/\p<=64)/\1<=q)/\q<=4)/\0<=n)/\n<=2000/\n<=mr p q:=by
 unfold J1 Pm rR;simp only[qC,qE];split
 .split<;>omega
 .constructor
  .intro h;cases h
  .intro h;omega
abbrev Ny:=al [.val I,.val I,.val I] (λ_=>True) λ(p,q,n,_)=>.tup [.dat M (aC2 p q n),.dat I (J1 p q n)]
def aGz: eO 28 Ny:=ae λ((p:Int),(q:Int),(n:Int),_)=>by
 refine zE (A:=(lvA [(7,[0,2,6,7,8,9,10,37,38,46,47]),(11,[0,2,6,7,8,9,10,37,38,46,47])] (aJC p q n))) (p:=let u:=Dj (rR p);let r:=Ea u true (Dp q 1);let g:=Dj r;let v:=Ea r true (Ei q 4);let h:=Dj v;let z:=Ea v true (Dp n 0);let j:=Dj z;let A:=Ea z true (Ei n 2000);let c8:=Dp (mr p q) n;let L:=Et n (0:Int);(True->True/\L4 (Dj u) ((Dh true (Dj u)->Dj u)/\L4 g ((Dh true g->g)/\L4 h ((Dh true h->h)/\L4 j ((Dh true j->j)/\(A->aC2 p q n=Dt (Li)/\1=J1 p q n/\True)/\(A=false->ZN p q/\(c8->aC2 p q n=Dt (Li)/\140=J1 p q n/\True)/\(c8=false->0<=q/\(Dz 24*q)<=281474976710656/\q<=9223372036854775807/\(∃x,let c10:=aBm p q n x;SE p q n x/\T6 p n Z0 Q1 (Dc q) q (0=x/\Et q (Dt Int)=c10/\Fb c10/\True))/\∀(x:Int),let i:=aBm p q n x;let b:=Dk i;let O:=x+1;SE p q n x->(Dp x q->0<=n/\(Dz 8*n)<=281474976710656/\n<=9223372036854775807/\b=Dc q/\0<=x/\x<Dz b/\b=Dc q/\Dk L=Dc n/\(∃f,Xh p q n x f/\L3 p n Z0 Q1 (Dc q) x q x n (0=f/\L7 i (Dc x) (Dc n) (L=aC1 p n x f/\True)))/\∀(f:Int),let T:=Gg f (mr p x);let e:=aC1 p n x f;let G:=Dk e;let c17:=f+1;
  Xh p q n x f->(Dp f n->b=Dc q/\0<=x/\x<Dz b/\b=Dc q/\Dc x=Dc x/\ZN p x/\mr p x≠0/\inR .i64 T/\p≠0/\G=Dc n/\0<=f/\f<Dz G/\G=Dc n/\inR .i64 c17/\∃y,Xh p q n x y/\(L3 p n Z0 Q1 (Dc q) x q x n (c17=y/\L7 i (Dc x) (Dc n) (Em e (Dc f) (Fq T p)=aC1 p n x y/\True)))/\Dc (n-y)<Dc (n-f))/\(Dp f n=false->inR .i64 O/\∃y,SE p q n y/\(T6 p n Z0 Q1 (Dc q) q (O=y/\Dk e=Dc n/\Em i (Dc x) e=aBm p q n y/\True))/\Dc (q-y)<Dc (q-x)))/\(Dp x q=false->Dk i=Dc q/\i=aC2 p q n/\0=J1 p q n/\True))))))))) aCO λ_=>?_
 refine Z9 ?_;have no:J1 p q n≠0->aC2 p q n=[]:=λh=>if_neg h
 have hM:rR p=true↔2<=p/\p<=64:=by unfold rR;rw[qC,qE,qE]
 have eO:Pm p q n=true↔((((2<=p/\p<=64)/\1<=q)/\q<=4)/\0<=n)/\n<=2000:=by
  unfold Pm;simp only[qC,qE,hM]
 refine⟨λh=>?_,λ⟨⟨⟨⟨h1,h2⟩,h3⟩,h4⟩,h5⟩=>?_⟩
 .have hO:¬Pm p q n=true:=λg=>by
   have g:=eO.1 g;rcases h with(((h | h) | h) | h) | h
   .rw[hM.2 ⟨Z,Z⟩]at h;cases h
   all_goals omega
  have:J1 p q n=1:=if_neg hO;exact⟨no (by rw[this];decide),this.symm⟩
 obtain⟨m0,m1⟩:=hM.1 h1;have hO:Pm p q n=true:=eO.2 Z;have X:J1 p q n=if mr p q<n then 140 else 0:=if_pos hO
 refine⟨⟨Z,Z,Z⟩,λh=>?_,λh=>?_⟩
 .have:J1 p q n=140:=by rw[X,if_pos h]
  exact⟨no (by rw[this];decide),this.symm⟩
 have O:J1 p q n=0:=by rw[X,if_neg h]
 have l1:∀{x:Int},0<=x->x<=q->(aBm p q n x).length=q.toNat:=λa b=>by rw[vj];exact uW ⟨a,b⟩
 have l2:∀{j x:Int},0<=x->x<=n->(aC1 p n j x).length=n.toNat:=λa b=>uW ⟨a,b⟩
 refine⟨Z,Z,Z,⟨0,⟨O,Z,Z⟩,rfl,by rw[vj,<- px],?_⟩,λx ⟨_,v,x1⟩=>⟨λz=>?_,λhge=>?_⟩⟩
 .rw[vj,<- px];exact λr hr=>gJ hr
 .have hl:=l1 v x1;refine⟨Z,Z,Z,hl,v,Z,hl,by simp,⟨0,⟨⟨O,v,x1⟩,z,Z,Z⟩,rfl,px⟩,λy ⟨_,_,L,y1⟩=>⟨λT=>?_,λhge=>?_⟩⟩
  .have V:=l2 (j:=x) L y1;obtain⟨w0,w1⟩:=Kq (b:=p) Z Z x.toNat;have wne:mr p x≠0:=λe=>by
    have:p ^ x.toNat≠0:=Int.pow_ne_zero Z;exact this e
   have hq:0<=Gg y (mr p x)/\Gg y (mr p x)<=y:=⟨Int.tdiv_nonneg L w0,Int.tdiv_le_self _ L⟩;exact⟨hl,v,Z,hl,⟨Z,Z,Z⟩,wne,aB Z,Z,V,L,Z,V,aB Z,y+1,⟨⟨O,v,x1⟩,z,Z,Z⟩,⟨rfl,Db L T⟩,Z⟩
  .have hy:y=n:=by omega
   subst hy;exact⟨aB Z,x+1,⟨O,Z,Z⟩,⟨rfl,l2 L y1,by rw[Xg,vj];exact Db v z⟩,Z⟩
 .have hx:x=q:=by omega
  subst hx;refine⟨l1 v x1,?_,O.symm⟩;unfold aC2;rw[if_pos O,vj,rA];rfl
abbrev Cj:=al [.val I,.val I] (λ_=>True) λ(a,b,_)=>.dat .bool (lE a b)
def aA7: eO 105 Cj:=ae λ((a:Int),(b:Int),_)=>by
 refine zE (A:=az) (p:=let f:=Ed a 0;let g:=Ea f (Ei b a) false;let e:=Ea g (Ee b 600) false;(True->Q2 f ((Dh true f->f)/\L4 g ((Dh true g->g)/\Q2 e ((e->inR .i64 (b-a))/\L4 e ((Dh true e->e)/\Ea e (Ee (b-a) 60) false=lE a b/\True)))))) aCO λ_=>?_
 refine Z9 ?_;exact⟨λh=>aB Z,rfl⟩
abbrev yc:=al [.row N] (λ_=>True) λ(n,_)=>.dat .bool (aR n)
def W0: eO 43 yc:=ae λ(((i,e,b,h,f,g):Net),_)=>by
 refine zE (A:=az) (p:=let j:=(i,e,b,h,f,g);(True->True/\Ec (Df (ew j)) 0=aR j/\True)) aCO λ_=>⟨trivial,?_,trivial⟩
 rw[GY];rfl
def QA(n:Net)(p:Plan): Int:=if(lE p.1 p.2.1&&aR n)=true then 0 else 1
def aE6(n:Net)(p:Plan): Plan:=(p.1,p.2.1,bA n (1440*p.1) (1440*p.2.1),p.2.2.2)
def aE7(n:Net)(p:Plan): Plan:=(p.1,p.2.1,p.2.2.1,Re n p.2.2.1 p.1 p.2.1)
def aHS(p:Plan): Prop:=0<=p.1/\p.1<=1000/\0<=p.2.1/\p.2.1<=1000
abbrev nZ:=Li×Int
def Vk(n:Net)(p:Plan)(c:nZ): List AV:=[.dat (.sl C) n.1,.dat (.sl S) n.2.1,.dat (.sl S) n.2.2.1,.dat (.sl Of) n.2.2.2.1,.dat (.sl Ln) n.2.2.2.2.1,.dat (.sl Kl) n.2.2.2.2.2,.dat I p.1,.dat I p.2.1,.dat M p.2.2.1,.dat (.sl M) p.2.2.2,.dat R c.1,.dat I c.2]
def aF5(n:Net)(p:Plan)(c:nZ): Mem:=[(2,.var (Vk n p c))]
def asC: Mem->Option (Net×Plan×nZ)
 | [(2,.var [T,O,L,G,A,z,y,x,v,f,e,b])]=>match iT (.sl C) T,iT (.sl S) O,iT (.sl S) L,iT (.sl Of) G,iT (.sl Ln) A,iT (.sl Kl) z,iT I y,iT I x,iT M v,iT (.sl M) f,iT R e,iT I b with
  | some u,some h,some g,some r,some i,some j,some p1,some p2,some p3,some p4,some c1,some c2=>some ((u,h,g,r,i,j),(p1,p2,p3,p4),(c1,c2))
  | _,_,_,_,_,_,_,_,_,_,_,_=>none
 | _=>none
def cK(b:Net->Plan->Prop)(ret:Net->Plan->Int)(nxt:Net->Plan->nZ->Plan×nZ)(args:List AV)(m:Mem): Option jG:=match asC m,args with
 | some (n,p,c),[.ptr 2 1 0 0]=>some ⟨b n p,.dat I (ret n p),aF5 n (nxt n p c).1 (nxt n p c).2⟩
 | _,_=>none
def KC8: Kt:=kOr 105 Cj <|
 kOr 43 yc <|
 kOr 28 Ny KC7
def VY: ai Tryz.prog G0 KC8:=af aA7<|af W0<|af aGz aCO
def aFl{m:Mem}{n:Net}{p:Plan}{c:nZ}(h:asC m=some (n,p,c)): m=aF5 n p c:=by
 unfold asC at h;split at h
 case h_2=>cases h
 split at h
 case h_2=>cases h
 rename_i z y x v u r j i g f e b;cases h;rw[bL z,bL y,bL x,bL v,bL u,bL r,bL j,bL i,bL g,bL f,bL e,bL b];rfl
def Vj{f:FuncId}{b:Net->Plan->Prop}{ret:Net->Plan->Int}{nxt:Net->Plan->nZ->Plan×nZ}
  (h:∀n p c,ah Tryz.prog G0 f [.ptr 2 1 0 0] (aF5 n p c) ⟨b n p,.dat I (ret n p),aF5 n (nxt n p c).1 (nxt n p c).2⟩):∀args m c,cK b ret nxt args m=some c->ah Tryz.prog G0 f args m c:=by
 intro args m c e;unfold cK at e;split at e
 case h_2=>cases e
 rename_i n p c g;cases e;rw[aFl g];exact h n p c
abbrev ye:=cK (λ_ _=>True) QA λ_ p c=>(p,c)
def W5: eO 38 ye:=Vj λ(n:Net) (p:Plan) (c:nZ)=>by
 refine zE (A:=az) (p:=let i:=p.2.1;let r:=n.2.2.1;let g:=p.2.2;let f:=n.2.2.2;let u:=Dj (lE p.1 i);let h:=Dj u;let e:=h->1=1;let j:=h->h->h;let b:=Ea u true (Dj (aR n));(True->1=1/\1=1/\1=1/\1=1/\1=1/\0=0/\1=1/\1=1/\1=1/\1=1/\0=0/\True/\j/\e/\j/\e/\j/\e/\(h->0=0)/\j/\(h->True)/\j/\(Dh true h->h)/\(b->1=QA n p/\n.1=n.1/\n.2.1=n.2.1/\r=r/\f.1=f.1/\f.2.1=f.2.1/\f.2.2=f.2.2/\p.1=p.1/\i=i/\g.1=g.1/\g.2=g.2/\c.1=c.1/\c.2=c.2/\1=1/\True)/\(b=false->0=QA n p/\n.1=n.1/\n.2.1=n.2.1/\r=r/\f.1=f.1/\f.2.1=f.2.1/\f.2.2=f.2.2/\p.1=p.1/\i=i/\g.1=g.1/\g.2=g.2/\c.1=c.1/\c.2=c.2/\1=1/\True))) VY λ_=>?_
 have j:(n.1,n.2.1,n.2.2.1,n.2.2.2.1,n.2.2.2.2.1,n.2.2.2.2.2)=n:=rfl;simp only[qc,Dh,Eu,Dj,qd,Dt,Ec,Dw,Dp,Ei,Ee,Ed,Ez,Df,Eo,Dl,Dn,Es,Dy,Dx,Di,Dq,Eh,Fh,Dc,Dz,Dk,Eb,Ej,Du,Ey,Ew,Em,Ef,Fg,Fj,Fe,Et,En,Ep,Fb,j];refine⟨λh=>?_,λ⟨i,f⟩=>?_⟩
 .have:¬(lE p.1 p.2.1&&aR n)=true:=λg=>by
   rw[qC]at g;rcases h with h | h
   .rw[g.1]at h;cases h
   .rw[g.2]at h;cases h
  exact(if_neg this).symm
 .exact(if_pos (by rw[i,f];rfl)).symm
abbrev yd:=cK (λ_ p=>aHS p) (λ_ _=>0) λn p c=>(aE6 n p,c)
def W4: eO 39 yd:=Vj λ(n:Net) (p:Plan) (c:nZ)=>by
 refine zE (A:=az) (p:=let e:=n.2.2.2;let f:=1440*p.1;let g:=1440*p.2.1;let b:=(aE6 n p).2;(aHS p->L3 1 1 1 1 0 1 1 1 1 (0=0/\inR .i64 f/\T2 1 1 1 1 0 (inR .i64 g/\True/\L3 1 1 1 1 0 Q1 n.1 n.2.1 n.2.2.1 (L7 e.1 e.2.1 e.2.2 (p.1=(aE6 n p).1/\p.2.1=b.1/\bA n f g=b.2.1/\p.2.2.2=b.2.2/\z6 c.1 c.2 1)))))) aCO λ⟨h,g,f,e⟩=>?_
 refine Z9 ?_;exact⟨aB Z,aB Z,rfl,rfl,rfl,rfl⟩
abbrev Cc:=cK (λ_ p=>dw p.2.2.1) (λ_ _=>0) λn p c=>(aE7 n p,c)
def aA3: eO 41 Cc:=Vj λ(n:Net) (p:Plan) (c:nZ)=>by
 refine zE (A:=az) (p:=let b:=p.2.2.1;let e:=n.2.2.2;let f:=(aE7 n p).2;(dw b->L3 1 1 1 1 0 1 1 1 1 (L3 0 1 1 1 1 0 1 1 1 (L5 1 0 (dw b/\L3 1 1 1 1 0 Q1 n.1 n.2.1 n.2.2.1 (L7 e.1 e.2.1 e.2.2 (p.1=(aE7 n p).1/\p.2.1=f.1/\b=f.2.1/\Re n b p.1 p.2.1=f.2.2/\z6 c.1 c.2 1))))))) aCO λh=>?_
 refine Z9 ?_;exact⟨h,rfl,rfl,rfl,rfl⟩
abbrev Cm:=cK (λ_ p=>lu p) wrE λn p _=>(p,(wrN n p,wrS n p))
def aA8: eO 42 Cm:=Vj λ(n:Net) (p:Plan) (c:nZ)=>by
 refine zE (A:=az) (p:=let b:=n.2.2.2;(lu p->L3 1 1 1 1 0 1 1 1 0 (lu p/\L3 1 1 1 0 (wrE n p) n.1 n.2.1 n.2.2.1 b.1 (w6 b.2.1 b.2.2 p.1 p.2.1 p.2.2.1 p.2.2.2 (wrN n p) (wrS n p) 1)))) aCO λh=>?_
 refine Z9 ?_;exact h
def Ah(n:Net): List (Int×Off):=(List.range n.2.2.2.1.length).map λi:Nat=>((i:Int),bI n i)
def H2(n:Net)(k:Int): Prop:=0<=k/\k<=n.2.2.2.1.length
def AP(n:Net): Prop:=(n.2.2.2.1.length:Int)<=1000000
def ca(p:Plan)(o:Int): Li:=p.2.2.1.getD o.toNat []
def Wh(p:Plan)(o:Int): Li:=((List.range (ca p o).length).filter λd:Nat=>decide ((d:Int)≠o)).map λd=>(ca p o).getD d 0
def wfR(l:Li): Prop:=∀j:Nat,-1<=l.getD j 0/\l.getD j 0<=1000000
def Wg(p:Plan)(o:Int): Prop:=0<=o/\o<p.2.2.1.length/\((ca p o).length:Int)<=1000000/\wfR (ca p o)
def Qa(x:Int): Li->Li
 | []=>[x]
 | a::l=>if x<a then x::a::l else if x=a then a::l else a::Qa x l
def tU(p:Plan)(o:Int): Li:=((Wh p o).filter λl=>decide (l≠-1)).foldr Qa []
def Sm(n:Net)(p:Plan)(o:Int): Int:=J1 (bI n o).2.2.2.1 (bI n o).2.2.2.2.1 (1+(tU p o).length)
def nW(n:Net)(p:Plan): Int:=if(List.range n.2.2.2.1.length).all (λo:Nat=>decide (Sm n p o=0))then 0 else 140
def MI(n:Net)(p:Plan): Prop:=aR n=true/\mf n p.2.2.1=true
def GZ(n:Net)(p:Plan)(j:Nat): Prop:=MI n p/\j<=(Ah n).length/\∀i:Nat,i<j->Sm n p i=0
def aHC(n:Net): Jv:=⟨λb y=>match b with
 | 1=>some {α:=Int,inv:=λk=>H2 n k,st:=λk=>⟨put y.s [(8,.dat I k)],Dc k,true⟩,μ:=λk=>Dc (Di (Df n.2.2.2.1) k)}
 | _=>none,λb s=>match b,s.sig.T 8 with
 | 3,.dat (.int .i64) k=>some (put {s with mem:=[]} [(4,.ip Of (bI n k))])
 | _,_=>none,λb=>b==3⟩
abbrev BP:=al [.row N] (λ_=>True) λ(n,_)=>.fn 169 [.ip N n]
def KC9: Kt:=kOr 45 (al [.row Pl,.val I] (λ(p,o,_)=>Wg p o) λ(p,o,_)=>.dat R (tU p o)) <|
 kOr 106 BP KC8
def KIM: FuncId->List AV->Option jF:=λf b=>if f=169 then match ofK [.ptr N] b with
 | some (n,_)=>some ⟨AP n,.pair I Of,Ah n⟩
 | none=>none
 else none
def cSort: Cfg:=⟨Tryz.prog,G0,KC9,λ_=>false,KIM,true,Go.Eng.noP,λ_=>false⟩
def sortA(n:Net)(p:Plan)(c:nZ): Ann:=Z8 2 Nat (GZ n p) (λs j=>fu (fu (flat s) 2 (.var (Vk n p c))) 3 (.var [.dat I 0])) λj=>j
def aAK: eO 106 BP:=ae λ((n:Net),_)=>zE (A:=az) (p:=(True->T3 n)) VY λ_=>⟨rfl,trivial⟩
def aB1{n:Net}{x:Int}(f:0<=x)(b:x<n.2.2.2.1.length): m4 (Ah n) x.toNat (x,bI n x):=by
 show((List.range n.2.2.2.1.length).map λi:Nat=>((i:Int),bI n i))[x.toNat]?=_;have e:((x.toNat:Nat):Int)=x:=Z;rw[qR,vO Z,zU,e]
def EE(n:Net): (Ah n).length=n.2.2.2.1.length:=by unfold Ah;simp
def aAJ(n:Net): mA Tryz.prog G0 169 [.ip N n] ⟨AP n,.pair I Of,Ah n⟩:=by
 refine zI (c:=mkc KC8) (A:=aHC n) VY iI hm (p:=let h:=n.2.2.2;let g:=Df h.1;let j:=Dk (Ah n);true/\true/\true/\false=false/\∀(l:Nat),AP n->(∃x,H2 n x/\(T2 l n h h.1 g (0=x/\True))/\0=Dc x/\true)/\∀(x:Int),let i:=Du h.1 (Dc x) (ByteArray.mk #[],(0:Int),(0:Int),(0:Int),(0:Int),(0:Int),Dt ByteArray);let e:=(bI n x).2;let f:=x+1;H2 n x->(Dp x g->0<=x/\x<g/\T4 1 0 l n x 1 0 (i=bI n x/\L3 h h.1 g x (Dp x g) x i i.1 i.2.1 (T2 i.2.2.1 i.2.2.2.1 i.2.2.2.2.1 i.2.2.2.2.2.1 i.2.2.2.2.2.2 ((true->l=l/\true/\m4 (Ah n) (Dc x) (x,(bI n x).1,e.1,e.2.1,e.2.2.1,e.2.2.2.1,e.2.2.2.2.1,e.2.2.2.2.2)/\∀(b:Bool),(Dj b->b->Dc x+1=j)/\(Dj b=false->inR .i64 f/\∃y,H2 n y/\((T2 l n h h.1 g (f=y/\True))/\Dc x+1=Dc y/\b)/\Dc (g-y)<Dc (g-x)))/\(true=false->(true->true)/\(Dj false->true->Dc x=j)/\(Dj false=false->inR .i64 f/\∃y,H2 n y/\((T2 l n h h.1 g (f=y/\True))/\Dc x=Dc y/\true)/\Dc (g-y)<Dc (g-x)))))))/\(Dp x g=false->true->Dc x=j)) ⟨rfl,rfl,rfl,rfl,λl r=>?_⟩
 have eO:∀x:Int,n.2.2.2.1.getD x.toNat (⟨#[]⟩,0,0,0,0,0,[])=bI n x:=λ_=>rfl
 have L:∀q:Off,(q.1,q.2.1,q.2.2.1,q.2.2.2.1,q.2.2.2.2.1,q.2.2.2.2.2.1,q.2.2.2.2.2.2)=q:=λ_=>rfl
 refine Z9 ?_;simp only[qc,EE];unfold AP at r;refine⟨⟨0,⟨Z,Z⟩,rfl,rfl⟩,λx ⟨i,G⟩=>⟨λg=>⟨i,g,rfl,⟨aB1 i g,λb=>⟨λz j=>(by rw[z]at j;cases j),λv=>⟨aB Z,x+1,⟨Z,Z⟩,⟨rfl,Z,v⟩,Z⟩⟩⟩,λh=>(by cases h)⟩,λu=>Z⟩⟩
def oR: Prop:=∀(p:Plan) (o:Int),ah Tryz.prog G0 45 [.agg [.dat I p.1,.dat I p.2.1,.dat M p.2.2.1,.dat (.sl M) p.2.2.2],.dat I o] [] ⟨Wg p o,.dat R (tU p o),[]⟩
def aJd(h:oR): ai Tryz.prog G0 KC9:=af (ae λ(p,o,_)=>h p o)<|af aAK VY
def aFE: bf Tryz.prog G0 KIM:=by
 intro f b x h;unfold KIM at h;split at h
 case isFalse=>cases h
 rename_i r;subst r;split at h
 case h_2=>cases h
 rename_i n _ g;cases h;exact λj l J JX JP w D e v u i=>aAJ n j l J JX JP w D e v u (fS g i)
def Lc{x y:Int}: ∀{l:Li},y∈Qa x l↔y=x\/y∈l
 | []=>by simp[Qa]
 | a::l=>by
  unfold Qa;split
  .simp
  .split
   .rename_i h;subst h;simp
   .rw[zK,Lc (l:=l),zK];constructor
    .rintro(h | h | h)
     .exact .inr (.inl h)
     .exact .inl h
     .exact .inr (.inr h)
    .rintro(h | h | h)
     .exact .inr (.inl h)
     .exact .inl h
     .exact .inr (.inr h)
def CL{x:Int}: ∀{l:Li},l.Pairwise (· < ·)->(Qa x l).Pairwise (· < ·)
 | [],_=>qAr _ _
 | a::l,h=>by
  obtain⟨f,i⟩:=yY.1 h;unfold Qa;split
  .rename_i g;refine yY.2 ⟨λb e=>?_,h⟩;rcases zK.1 e with rfl | e
   .exact g
   .have:=f b e;omega
  .split
   .exact h
   .refine yY.2 ⟨λb e=>?_,CL i⟩;rcases Lc.1 e with rfl | e
    .omega
    .exact f b e
def Uu{x:Int}: ∀{l:Li},(Qa x l).length<=l.length+1
 | []=>qJ _
 | a::l=>by
  have:=Uu (x:=x) (l:=l);unfold Qa;split
  .simp
  .split
   .simp
   .simp only[wS];omega
def EY{y:Int}: ∀{l:Li},y∈l.foldr Qa []↔y∈l
 | []=>by simp
 | a::l=>by rw[qDr,Lc,EY,zK]
def lU: ∀(l:Li),(l.foldr Qa []).Pairwise (· < ·)
 | []=>yV
 | _::l=>CL (lU l)
def Oj: ∀(l:Li),(l.foldr Qa []).length<=l.length
 | []=>qJ _
 | a::l=>by
  have:=Oj l;have:=Uu (x:=a) (l:=l.foldr Qa []);rw[qDr,wS];omega
def Lp(p:Plan)(o:Int): (tU p o).length<=(ca p o).length:=by
 unfold tU;refine wH (Oj _) (wH (zQ _ _) ?_);unfold Wh;rw[qY];exact wH (zQ _ _) (by rw[qU];exact qJ _)
def Zs(u:LC)(g f:LB)(b:Lo)(i:Ll)(r:Lk){nx:Lj}(z:aR (u,g,f,b,i,r)=true)(y:mf (u,g,f,b,i,r) nx=true){o:Int}(x:0<=o)(v:o<b.length): wfR (nx.getD o.toNat []):=λj=>by
 have L:=(mQ u g f b i r (aS u g f b i r z)).1;by_cases G:(j:Int)<b.length
 .obtain⟨_,_,h⟩:=dY u g f b i r y x v (d:=j) Z G;have e:nxt nx o j=(nx.getD o.toNat []).getD j 0:=by unfold nxt;rw[qP]
  rw[<- e];by_cases A:nxt nx o j=-1
  .omega
  .have:=(h A).1;omega
 .obtain⟨_,h,_⟩:=dY u g f b i r y x v x v;rw[qA,zH Z];exact⟨by decide,by decide⟩
abbrev Cb:=cK MI nW λ_ p c=>(p,c)
def aA2(h:oR): eO 40 Cb:=Vj λ(n:Net) (p:Plan) (c:nZ)=>by
 refine zF (c:=cSort) (A:=(sortA n p c)) (aJd h) aFE hm (p:=let r:=p.2.1;let i:=n.2.1;let h:=p.2.2;let j:=n.2.2.1;let b:=n.2.2.2;let g:=Ah n;true/\(MI n p->1=1/\1=1/\1=1/\1=1/\0=0/\True/\AP n/\(∃x,GZ n p x/\x=0/\1=1/\0=0/\0=0/\1=1/\0=0/\0=0/\1=1/\0=0/\0=0/\1=1/\0=0/\0=0/\1=1/\0=0/\0=0/\1=1/\0=0/\0=0/\n.1=n.1/\i=i/\j=j/\b.1=b.1/\b.2.1=b.2.1/\b.2.2=b.2.2/\n=n/\n.1=n.1/\i=i/\j=j/\b.1=b.1/\b.2.1=b.2.1/\b.2.2=b.2.2/\p.1=p.1/\r=r/\h.1=h.1/\h.2=h.2/\c.1=c.1/\c.2=c.2/\(0:Int)=(0:Int)/\1=1/\True)/\(∀(x:Nat) (y:Int×ByteArray×Int×Int×Int×Int×Int×List ByteArray),let f:=1+Df (tU p y.1);let e:=Dw (J1 y.2.2.2.2.1 y.2.2.2.2.2.1 f) 0;GZ n p x->m4 g x y->1=1/\0=0/\1=1/\1=1/\1=1/\0=0/\Wg p y.1/\inR IntKind.i64 f/\1=1/\1=1/\0=0/\1=1/\1=1/\0=0/\True/\(e->1=1/\0=0/\1=1/\0=0/\140=nW n p/\n.1=n.1/\i=i/\j=j/\b.1=b.1/\b.2.1=b.2.1/\b.2.2=b.2.2/\p.1=p.1/\r=r/\h.1=h.1/\h.2=h.2/\c.1=c.1/\c.2=c.2/\1=1/\True)/\(e=false->∃z,GZ n p z/\z=x+1/\1=1/\0=0/\0=0/\1=1/\0=0/\0=0/\1=1/\0=0/\0=0/\1=1/\0=0/\0=0/\1=1/\0=0/\0=0/\1=1/\0=0/\0=0/\n.1=n.1/\i=i/\j=j/\b.1=b.1/\b.2.1=b.2.1/\b.2.2=b.2.2/\n=n/\n.1=n.1/\i=i/\j=j/\b.1=b.1/\b.2.1=b.2.1/\b.2.2=b.2.2/\p.1=p.1/\r=r/\h.1=h.1/\h.2=h.2/\c.1=c.1/\c.2=c.2/\(0:Int)=(0:Int)/\1=1/\True))/\∀(x:Nat),GZ n p x->x=Dk g->1=1/\0=0/\1=1/\0=0/\0=nW n p/\n.1=n.1/\i=i/\j=j/\b.1=b.1/\b.2.1=b.2.1/\b.2.2=b.2.2/\p.1=p.1/\r=r/\h.1=h.1/\h.2=h.2/\c.1=c.1/\c.2=c.2/\1=1/\True)) ⟨rfl,λu=>?_⟩
 have eN:(n.1,n.2.1,n.2.2.1,n.2.2.2.1,n.2.2.2.2.1,n.2.2.2.2.2)=n:=rfl;have eP:(p.1,p.2.1,p.2.2.1,p.2.2.2)=p:=rfl;simp only[qc,Dh,Eu,Dj,qd,Dt,Ec,Dw,Dp,Ei,Ee,Ed,Ez,Df,Eo,Dl,Dn,Es,Dy,Dx,Di,Dq,Eh,Fh,Dc,Dz,Dk,Eb,Ej,Du,Ey,Ew,Em,Ef,Fg,Fj,Fe,Et,En,Ep,Fb,eN,eP];obtain⟨hs,X⟩:=id u;obtain⟨O,_⟩:=ko n.1 n.2.1 n.2.2.1 n.2.2.2.1 n.2.2.2.2.1 n.2.2.2.2.2 hs;have O:(n.2.2.2.1.length:Int)<=12:=O
 have j:∀o:Int,0<=o->o<n.2.2.2.1.length->(p.2.2.1.length:Int)=n.2.2.2.1.length/\((ca p o).length:Int)=n.2.2.2.1.length:=λo V T=>by
  obtain⟨g1,g2,_⟩:=dY n.1 n.2.1 n.2.2.1 n.2.2.2.1 n.2.2.2.2.1 n.2.2.2.2.2 X V T V T;exact⟨g1,g2⟩
 have L:∀{x:Nat} {y:Int×Off},m4 (Ah n) x y->x<n.2.2.2.1.length/\y=((x:Int),bI n x):=λ{x y} h=>by
  have h:((List.range n.2.2.2.1.length).map λi:Nat=>((i:Int),bI n i))[x]?=some y:=h;rw[qR]at h;by_cases b:x<n.2.2.2.1.length
  .rw[vO b]at h;exact⟨b,(wW h).symm⟩
  .rw[zH (by rw[qU];omega)]at h;cases h
 have fail:∀o:Nat,o<n.2.2.2.1.length->Sm n p o≠0->nW n p=140:=λo v G=>by
  unfold nW;rw[if_neg];intro h;have:=qO.1 h o (qZ.2 v);exact G (vN this)
 refine⟨by unfold AP;omega,⟨u,zA _,λi hi=>zoo⟩,λx y b hy=>?_,λx b hl=>?_⟩
 .obtain⟨r,rfl⟩:=L hy;obtain⟨r1,r2⟩:=j x zoo zoo;have gl:=Lp p x;have r1':(p.2.2.1.length:Int)=n.2.2.2.1.length:=r1;refine⟨⟨by show(0:Int)<=(x:Int);omega,by show(x:Int)<_;omega,by show((ca p (x:Int)).length:Int)<=1000000;omega,Zs n.1 n.2.1 n.2.2.1 n.2.2.2.1 n.2.2.2.2.1 n.2.2.2.2.2 hs X zoo zoo⟩,aB (by simp only;omega),λh=>(fail x r h).symm,λh=>⟨u,by rw[EE];omega,λi hi=>?_⟩⟩;by_cases h3:i<x
  .exact b.2.2 i h3
  .have:i=x:=by omega
   rw[this];exact h
 .rw[EE]at hl;unfold nW;rw[if_pos];rw[qO];intro o v;exact qW (b.2.2 o (by rw[hl];exact qZ.1 v))
end Go.Eng.Sv
set_option maxHeartbeats 4000000
namespace Go.Eng.Sv
open Go.Proofs
def p0F(a b:Int): Plan:=(a,b,[],[])
def p1F(n:Net)(a b:Int): Plan:=aE6 n (p0F a b)
def p2F(n:Net)(a b:Int): Plan:=aE7 n (p1F n a b)
def Qr(n:Net)(a b:Int): Nat->Plan
 | 0=>p0F a b
 | 1=>p0F a b
 | 2=>p1F n a b
 | 3=>p1F n a b
 | _=>p2F n a b
def Qz(n:Net)(a b:Int): Nat->nZ
 | 5=>(wrN n (p2F n a b),wrS n (p2F n a b))
 | _=>([],0)
def zy(n:Net)(a b:Int): Int:=if QA n (p0F a b)≠0 then QA n (p0F a b)else if nW n (p1F n a b)≠0 then nW n (p1F n a b)else wrE n (p2F n a b)
def OG(n:Net)(a b:Int): Plan:=if zy n a b=0 then p2F n a b else(0,0,[],[])
def VV(n:Net)(a b:Int): nZ:=if zy n a b=0 then(wrN n (p2F n a b),wrS n (p2F n a b))else([],0)
def qT(n:Net)(a b:Int)(j:Nat): Prop:=j<=5/\(1<=j->QA n (p0F a b)=0)/\(3<=j->nW n (p1F n a b)=0)/\(5<=j->wrE n (p2F n a b)=0)
def aIv: Kt:=kOr 38 ye <|
 kOr 39 yd <|
 kOr 40 Cb <|
 kOr 41 Cc <|
 kOr 42 Cm KC9
def cComp: Cfg:=mkp aIv (λt=>t==19) Go.Eng.noP (λ_=>false)
def aFa(n:Net)(a b:Int): Ann:=⟨λe s=>match e with
 | 4=>some {α:=Nat,inv:=λj=>qT n a b j,st:=λj=>fu (put s [(28,.dat I (Int.ofNat j))]) 2 (.var (Vk n (Qr n a b j) (Qz n a b j))),μ:=λj=>Dc (Di 5 (Int.ofNat j)),fin:=[0,1,2,3,4,5]}
 | _=>none,λ_ _=>none,λ_ _=>none⟩
def aFs(h:oR): ai Tryz.prog G0 aIv:=af W5<|af W4<|af (aA2 h)<|af aA3<|af aA8 (aJd h)
def Vu{n:Net}{c:Li}{bd:Lj}{o d:Int}: bq n o (As n c bd o d)=true:=by
 unfold As bq;split
 .rename_i i h;have hm:=qZ.1 (List.mem_of_find?_eq_some h);have b:=qDs h;unfold iL at b;simp only[qC,qE]at b;rw[yF,qC];refine .inr ⟨?_,qW b.1.1.1⟩;unfold du;exact qW ⟨Z,Z⟩
 .rfl
def vz{n:Net}{a b:Int}(h:fC n a b=true): mf n (bA n a b)=true:=by
 have e:bA n a b=Go.Eng.Mp.aI (uv n (b9 n a b) (bm n (b9 n a b))) n.2.2.2.1.length:=by
  unfold bA aBV;rw[if_pos h]
 rw[e];generalize r:uv n (b9 n a b) (bm n (b9 n a b))=g;have u:∀o d:Int,bq n o (g o d)=true:=λo d=>by
  rw[<- r];unfold uv;split
  .rfl
  .exact Vu
 unfold mf Go.Eng.Mp.aI;rw[qC];refine⟨qW (by simp),qO.2 λi f=>?_⟩;have f:i<n.2.2.2.1.length:=by simpa using f
 rw[qA,qR,vO (by simpa using f)];unfold rowOk;rw[qC];refine⟨qW (by simp),qO.2 λl j=>?_⟩;obtain⟨d,_,rfl⟩:=vM.1 j;exact u _ _
def DD{n:Net}{nx:Lj}(g:aR n=true)(b:mf n nx=true): dw nx:=by
 obtain⟨e,_⟩:=ko n.1 n.2.1 n.2.2.1 n.2.2.2.1 n.2.2.2.2.1 n.2.2.2.2.2 g;have e:(n.2.2.2.1.length:Int)<=12:=e;unfold mf at b;rw[qC,qE]at b;refine⟨by have:=b.1;omega,λr h=>?_⟩;obtain⟨i,f,rfl⟩:=wZ.1 h;have:=qO.1 b.2 i (qZ.2 f);unfold rowOk at this;rw[qC,qE,qA,qB f,qK]at this;have:=this.1;omega
def Wq{n:Net}{nx:Lj}{a b:Int}(h:aR n=true): (Re n nx a b).length<=1000000/\∀t∈Re n nx a b,dw t:=by
 obtain⟨g,f⟩:=ko n.1 n.2.1 n.2.2.1 n.2.2.2.1 n.2.2.2.2.1 n.2.2.2.2.2 h;have g:(n.2.2.2.1.length:Int)<=12:=g;have f:(n.2.2.2.2.2.length:Int)<=1000000:=f;unfold Re;split
 .refine⟨by rw[qY,qU];omega,λt e=>?_⟩;obtain⟨k,_,rfl⟩:=vM.1 e;unfold QS;refine⟨by rw[qY,qU];omega,λr i=>?_⟩;obtain⟨o,_,rfl⟩:=vM.1 i;unfold aBD;rw[qY,qU];omega
 .exact⟨zA _,λt e=>by cases e⟩
def aFe{n:Net}{p:Plan}: QA n p=0↔(0<=p.1/\p.1<p.2.1/\p.2.1<=600/\p.2.1-p.1<=60)/\aR n=true:=by
 unfold QA lE;simp only[qC,qE];split
 .rename_i h;exact⟨λ_=>⟨Z,h.2⟩,λ_=>rfl⟩
 .rename_i h;constructor
  .intro g;cases g
  .intro g;exact absurd ⟨Z,g.2⟩ h
def OE{n:Net}{a b:Int}(h:QA n (p0F a b)=0): (0<=a/\a<b/\b<=600/\b-a<=60)/\aR n=true/\fC n (1440*a) (1440*b)=true/\mf n (p1F n a b).2.2.1=true:=by
 obtain⟨e,g⟩:=aFe.1 h;have e:0<=a/\a<b/\b<=600/\b-a<=60:=e;have f:fC n (1440*a) (1440*b)=true:=by
  unfold fC;rw[qC];exact⟨rG.2 Z,g⟩
 exact⟨e,g,f,vz f⟩
abbrev tL:=al [.row N,.val I,.val I] (λ_=>True) λ(n,a,b,_)=>.tup [.agg [.dat I (OG n a b).1,.dat I (OG n a b).2.1,.dat M (OG n a b).2.2.1,.dat (.sl M) (OG n a b).2.2.2],.agg [.dat R (VV n a b).1,.dat I (VV n a b).2],.dat I (zy n a b)]
def RU(h:oR): eO 11 tL:=ae λ(((T,v,u,O,z,G):Net),(a:Int),(b:Int),_)=>by
 refine zF (c:=cComp) (A:=(lvA [(4,[6,7,8,9,12,13,26,27,28])] (aFa (T,v,u,O,z,G) a b))) (aFs h) iI hm (p:=let e:=(T,v,u,O,z,G);let A:=Dp 0 5;let h:=Qr e a b 0;let c10:=QA e h;let c11:=Dw c10 0;let g:=OG e a b;let f:=VV e a b;let r:=zy e a b;let c23:=Dq 0 1;let c24:=Qz e a b 0;let c27:=Dp 1 5;let c28:=Qr e a b 1;let c36:=Dw 0 0;let L:=c36->1=1/\0=0/\1=1/\0=0/\1=1/\0=0/\1=1/\0=0/\0=g.1/\0=g.2.1/\g.2.2.1=Dt (Li)/\g.2.2.2=Dt (Lj)/\f.1=Dt Int/\0=f.2/\0=r/\True;let c37:=Dq 1 1;let c38:=aE6 e c28;let c41:=Qz e a b 1;let c44:=Dp 2 5;let j:=Qr e a b 2;let c53:=nW e j;let c54:=Dw c53 0;let c55:=Dq 2 1;let c56:=Qz e a b 2;let c59:=Dp 3 5;let c60:=Qr e a b 3;let c64:=Dq 3 1;let c68:=aE7 e c60;let c71:=Qz e a b 3;let c74:=Dp 4 5;let i:=Qr e a b 4;let c83:=wrE e i;let c84:=Dw c83 0;let c85:=Dq 4 1;let c86:=Qz e a b 4;let c87:=Dp 5 5;let c88:=Qr e a b 5;let c91:=Qz e a b 5;true/\(True->(∃x,let c92:=Qr e a b x;let c95:=Qz e a b x;
  qT e a b x/\1=1/\0=0/\0=0/\1=1/\0=0/\0=0/\1=1/\0=0/\0=0/\(5:Int)=(5:Int)/\0=Int.ofNat x/\(0:Int)=(0:Int)/\(0:Int)=(0:Int)/\Value.slice none 0 0=Value.slice none 0 0/\Value.slice none 0 0=Value.slice none 0 0/\Value.slice none 0 0=Value.slice none 0 0/\(0:Int)=(0:Int)/\T=T/\v=v/\u=u/\O=O/\z=z/\G=G/\a=c92.1/\b=c92.2.1/\c92.2.2.1=Dt (Li)/\c92.2.2.2=Dt (Lj)/\c95.1=Dt Int/\0=c95.2/\True)/\(∀(x:Nat),qT e a b x->x∈[0,1,2,3,4,5])/\(qT e a b 0->(A->Dl 0 0/\0<Dz 5/\1=1/\0=0/\1=1/\1=1/\0=0/\True/\1=1/\(c11->1=1/\0=0/\1=1/\0=0/\1=1/\0=0/\1=1/\0=0/\0=g.1/\0=g.2.1/\g.2.2.1=Dt (Li)/\g.2.2.2=Dt (Lj)/\f.1=Dt Int/\0=f.2/\c10=r/\True)/\(c11=false->inR .i64 c23/\∃y,let c96:=Qr e a b y;let c99:=Qz e a b y;qT e a b y/\(1=1/\0=0/\0=0/\1=1/\0=0/\0=0/\1=1/\0=0/\0=0/\(5:Int)=(5:Int)/\c23=Int.ofNat y/\(0:Int)=(0:Int)/\(0:Int)=(0:Int)/\Value.slice none 0 0=Value.slice none 0 0/\Value.slice none 0 0=Value.slice none 0 0/\Value.slice none 0 0=Value.slice none 0 0/\(0:Int)=(0:Int)/\T=T/\v=v/\u=u/\O=O/\z=z/\G=G/\h.1=c96.1/\h.2.1=c96.2.1/\h.2.2.1=c96.2.2.1/\h.2.2.2=c96.2.2.2/\c24.1=c99.1/\c24.2=c99.2/\True)/\Dc (5-Int.ofNat y)<Dc (Di 5 0)))/\(A=false->1=1/\1=1/\1=1/\0=0/\1=1/\1=1/\1=1/\0=0/\1=1/\0=0/\1=1/\0=0/\1=1/\0=0/\1=1/\0=0/\h.1=g.1/\h.2.1=g.2.1/\h.2.2.1=g.2.2.1/\h.2.2.2=g.2.2.2/\c24.1=f.1/\c24.2=f.2/\0=r/\True))/\(qT e a b 1->(c27->Dl 0 1/\1<Dz 5/\1=1/\0=0/\1=1/\1=1/\0=0/\aHS c28/\1=1/\L/\(c36=false->inR .i64 c37/\∃y,let c100:=Qr e a b y;let c103:=Qz e a b y;
  qT e a b y/\(1=1/\0=0/\0=0/\1=1/\0=0/\0=0/\1=1/\0=0/\0=0/\(5:Int)=(5:Int)/\c37=Int.ofNat y/\(0:Int)=(0:Int)/\(0:Int)=(0:Int)/\Value.slice none 0 0=Value.slice none 0 0/\Value.slice none 0 0=Value.slice none 0 0/\Value.slice none 0 0=Value.slice none 0 0/\(0:Int)=(0:Int)/\T=T/\v=v/\u=u/\O=O/\z=z/\G=G/\c38.1=c100.1/\c38.2.1=c100.2.1/\c38.2.2.1=c100.2.2.1/\c38.2.2.2=c100.2.2.2/\c41.1=c103.1/\c41.2=c103.2/\True)/\Dc (5-Int.ofNat y)<Dc (Di 5 1)))/\(c27=false->1=1/\1=1/\1=1/\0=0/\1=1/\1=1/\1=1/\0=0/\1=1/\0=0/\1=1/\0=0/\1=1/\0=0/\1=1/\0=0/\c28.1=g.1/\c28.2.1=g.2.1/\c28.2.2.1=g.2.2.1/\c28.2.2.2=g.2.2.2/\c41.1=f.1/\c41.2=f.2/\0=r/\True))/\(qT e a b 2->(c44->Dl 0 2/\2<Dz 5/\1=1/\0=0/\1=1/\1=1/\0=0/\MI e j/\1=1/\(c54->1=1/\0=0/\1=1/\0=0/\1=1/\0=0/\1=1/\0=0/\0=g.1/\0=g.2.1/\g.2.2.1=Dt (Li)/\g.2.2.2=Dt (Lj)/\f.1=Dt Int/\0=f.2/\c53=r/\True)/\(c54=false->inR .i64 c55/\∃y,let c104:=Qr e a b y;let c107:=Qz e a b y;
  qT e a b y/\(1=1/\0=0/\0=0/\1=1/\0=0/\0=0/\1=1/\0=0/\0=0/\(5:Int)=(5:Int)/\c55=Int.ofNat y/\(0:Int)=(0:Int)/\(0:Int)=(0:Int)/\Value.slice none 0 0=Value.slice none 0 0/\Value.slice none 0 0=Value.slice none 0 0/\Value.slice none 0 0=Value.slice none 0 0/\(0:Int)=(0:Int)/\T=T/\v=v/\u=u/\O=O/\z=z/\G=G/\j.1=c104.1/\j.2.1=c104.2.1/\j.2.2.1=c104.2.2.1/\j.2.2.2=c104.2.2.2/\c56.1=c107.1/\c56.2=c107.2/\True)/\Dc (5-Int.ofNat y)<Dc (Di 5 2)))/\(c44=false->1=1/\1=1/\1=1/\0=0/\1=1/\1=1/\1=1/\0=0/\1=1/\0=0/\1=1/\0=0/\1=1/\0=0/\1=1/\0=0/\j.1=g.1/\j.2.1=g.2.1/\j.2.2.1=g.2.2.1/\j.2.2.2=g.2.2.2/\c56.1=f.1/\c56.2=f.2/\0=r/\True))/\(qT e a b 3->(c59->Dl 0 3/\3<Dz 5/\1=1/\0=0/\1=1/\1=1/\0=0/\dw c60.2.2.1/\1=1/\L/\(c36=false->inR .i64 c64/\∃y,let X:=Qr e a b y;let c111:=Qz e a b y;
  qT e a b y/\(1=1/\0=0/\0=0/\1=1/\0=0/\0=0/\1=1/\0=0/\0=0/\(5:Int)=(5:Int)/\c64=Int.ofNat y/\(0:Int)=(0:Int)/\(0:Int)=(0:Int)/\Value.slice none 0 0=Value.slice none 0 0/\Value.slice none 0 0=Value.slice none 0 0/\Value.slice none 0 0=Value.slice none 0 0/\(0:Int)=(0:Int)/\T=T/\v=v/\u=u/\O=O/\z=z/\G=G/\c68.1=X.1/\c68.2.1=X.2.1/\c68.2.2.1=X.2.2.1/\c68.2.2.2=X.2.2.2/\c71.1=c111.1/\c71.2=c111.2/\True)/\Dc (5-Int.ofNat y)<Dc (Di 5 3)))/\(c59=false->1=1/\1=1/\1=1/\0=0/\1=1/\1=1/\1=1/\0=0/\1=1/\0=0/\1=1/\0=0/\1=1/\0=0/\1=1/\0=0/\c60.1=g.1/\c60.2.1=g.2.1/\c60.2.2.1=g.2.2.1/\c60.2.2.2=g.2.2.2/\c71.1=f.1/\c71.2=f.2/\0=r/\True))/\(qT e a b 4->(c74->Dl 0 4/\4<Dz 5/\1=1/\0=0/\1=1/\1=1/\0=0/\lu i/\1=1/\(c84->1=1/\0=0/\1=1/\0=0/\1=1/\0=0/\1=1/\0=0/\0=g.1/\0=g.2.1/\g.2.2.1=Dt (Li)/\g.2.2.2=Dt (Lj)/\f.1=Dt Int/\0=f.2/\c83=r/\True)/\(c84=false->inR .i64 c85/\∃y,let V:=Qr e a b y;let c115:=Qz e a b y;
  qT e a b y/\(1=1/\0=0/\0=0/\1=1/\0=0/\0=0/\1=1/\0=0/\0=0/\(5:Int)=(5:Int)/\c85=Int.ofNat y/\(0:Int)=(0:Int)/\(0:Int)=(0:Int)/\Value.slice none 0 0=Value.slice none 0 0/\Value.slice none 0 0=Value.slice none 0 0/\Value.slice none 0 0=Value.slice none 0 0/\(0:Int)=(0:Int)/\T=T/\v=v/\u=u/\O=O/\z=z/\G=G/\i.1=V.1/\i.2.1=V.2.1/\i.2.2.1=V.2.2.1/\i.2.2.2=V.2.2.2/\wrN e i=c115.1/\wrS e i=c115.2/\True)/\Dc (5-Int.ofNat y)<Dc (Di 5 4)))/\(c74=false->1=1/\1=1/\1=1/\0=0/\1=1/\1=1/\1=1/\0=0/\1=1/\0=0/\1=1/\0=0/\1=1/\0=0/\1=1/\0=0/\i.1=g.1/\i.2.1=g.2.1/\i.2.2.1=g.2.2.1/\i.2.2.2=g.2.2.2/\c86.1=f.1/\c86.2=f.2/\0=r/\True))/\(qT e a b 5->(c87->False)/\(c87=false->1=1/\1=1/\1=1/\0=0/\1=1/\1=1/\1=1/\0=0/\1=1/\0=0/\1=1/\0=0/\1=1/\0=0/\1=1/\0=0/\c88.1=g.1/\c88.2.1=g.2.1/\c88.2.2.1=g.2.2.1/\c88.2.2.2=g.2.2.2/\c91.1=f.1/\c91.2=f.2/\0=r/\True))/\True)) ⟨rfl,λ_=>?_⟩
 obtain⟨n,hn⟩:∃n:Net,n=(T,v,u,O,z,G):=⟨_,rfl⟩;simp only[<- hn];have eP:∀p:Plan,(p.1,p.2.1,p.2.2.1,p.2.2.2)=p:=λ_=>rfl
 simp only[qc,Dh,Eu,Dj,qd,Dt,Ec,Dw,Dp,Ei,Ee,Ed,Ez,Df,Eo,Dl,Dn,Es,Dy,Dx,Di,Dq,Eh,Fh,Dc,Dz,Dk,Eb,Ej,Du,Ey,Ew,Em,Ef,Fg,Fj,Fe,Et,En,Ep,Fb,eP];have bad:∀e:Int,e≠0->e=zy n a b->0=(OG n a b).1/\0=(OG n a b).2.1/\(OG n a b).2.2.1=[]/\(OG n a b).2.2.2=[]/\(VV n a b).1=[]/\0=(VV n a b).2/\e=zy n a b:=λe he h=>by
  have hne:¬zy n a b=0:=by rw[<- h];exact he
  unfold OG VV;rw[if_neg hne,if_neg hne];exact⟨rfl,rfl,rfl,rfl,rfl,rfl,h⟩
 refine⟨⟨0,⟨zoo,λh=>zoo,λh=>zoo,λh=>zoo⟩,rfl,rfl,rfl,rfl,rfl,rfl,rfl⟩,λx hx=>?_,λ_=>?_,λh1=>?_,λh2=>?_,λh3=>?_,λh4=>?_,λh5=>?_⟩
 .have:=hx.1;rcases(by omega:x=0\/x=1\/x=2\/x=3\/x=4\/x=5)with rfl | rfl | rfl | rfl | rfl | rfl<;>simp
 .refine⟨λ_=>⟨zoo,zoo,λg=>bad _ g ?_,λg=>⟨aB zoo,1,⟨zoo,λ_=>g,λh=>zoo,λh=>zoo⟩,⟨rfl,rfl,rfl,rfl,rfl,rfl,rfl⟩,by decide⟩⟩,λh=>absurd (by decide) h⟩;unfold zy;rw[if_pos (show QA n (p0F a b)≠0 from g)];rfl
 .have L:=h1.2.1 zoo;obtain⟨hr,hs,hu,ht⟩:=OE L;exact⟨λ_=>⟨zoo,zoo,⟨by show 0<=a;omega,by show a<=1000;omega,by show 0<=b;omega,by show b<=1000;omega⟩,λh=>absurd rfl h,aB zoo,2,⟨zoo,λ_=>L,λh=>zoo,λh=>zoo⟩,⟨rfl,rfl,rfl,rfl,rfl,rfl,rfl⟩,by decide⟩,λh=>absurd (by decide) h⟩
 .have L:=h2.2.1 zoo;obtain⟨hr,hs,hu,ht⟩:=OE L;refine⟨λ_=>⟨zoo,zoo,⟨hs,ht⟩,λg=>bad _ g ?_,λg=>⟨aB zoo,3,⟨zoo,λ_=>L,λ_=>g,λh=>zoo⟩,⟨rfl,rfl,rfl,rfl,rfl,rfl,rfl⟩,by decide⟩⟩,λh=>absurd (by decide) h⟩;unfold zy;rw[if_neg (λh=>h L),if_pos (show nW n (p1F n a b)≠0 from g)];rfl
 .have L:=h3.2.1 zoo;obtain⟨hr,hs,hu,ht⟩:=OE L;exact⟨λ_=>⟨zoo,zoo,DD hs ht,λh=>absurd rfl h,aB zoo,4,⟨zoo,λ_=>L,λ_=>h3.2.2.1 zoo,λh=>zoo⟩,⟨rfl,rfl,rfl,rfl,rfl,rfl,rfl⟩,by decide⟩,λh=>absurd (by decide) h⟩
 .have L:=h4.2.1 zoo;have hso:=h4.2.2.1 zoo;obtain⟨hr,hs,hu,ht⟩:=OE L;obtain⟨t1,t2⟩:=Wq (nx:=(p1F n a b).2.2.1) (a:=(p1F n a b).1) (b:=(p1F n a b).2.1) hs;refine⟨λ_=>⟨zoo,zoo,⟨DD hs ht,t1,t2⟩,λg=>bad _ g ?_,λg=>⟨aB zoo,5,⟨zoo,λ_=>L,λ_=>hso,λ_=>g⟩,⟨rfl,rfl,rfl,rfl,rfl,rfl,rfl⟩,by decide⟩⟩,λh=>absurd (by decide) h⟩;unfold zy;rw[if_neg (λh=>h L),if_neg (λh=>h hso)];rfl
 .have L:=h5.2.1 zoo;have hso:=h5.2.2.1 zoo;have hw:=h5.2.2.2 zoo;have hE:zy n a b=0:=by
   unfold zy;rw[if_neg (λh=>h L),if_neg (λh=>h hso)];exact hw
  unfold OG VV;rw[if_pos hE,if_pos hE,hE];exact⟨λh=>absurd h (by decide),λ_=>⟨rfl,rfl,rfl,rfl,rfl,rfl,rfl⟩⟩
def JF(x:Int): Li->Nat
 | []=>0
 | a::l=>if a=x then 0 else JF x l+1
def Z1(l:Li)(x:Int): Int:=if JF x l<l.length then(JF x l:Int)else -1
def Yq(l:Li)(x k:Int): Prop:=0<=k/\k<=l.length/\k<=JF x l
def aEU(l:Li): Prop:=(l.length:Int)<=1000000000
def gOk(n:Net)(p:Plan)(o:Int): Bool:=(du o n.2.2.2.1.length&&aR n)&&iN n p
def gsF(n:Net)(p:Plan)(o:Int): Li:=if gOk n p o=true then -1::tU p o else[]
def UG(p:Plan)(o d:Int): Int:=if d=o then 0 else if(ca p o).getD d.toNat 0=-1 then -1 else Z1 (-1::tU p o) ((ca p o).getD d.toNat 0)
def ofF(n:Net)(p:Plan)(o:Int): Li:=if gOk n p o=true then(List.range n.2.2.2.1.length).map λd:Nat=>UG p o d else[]
def TI(n:Net)(p:Plan)(o k:Int): Li:=upF (UG p o) 0 n.2.2.2.1.length k
def gTo(n:Net)(p:Plan)(o k:Int): Prop:=gOk n p o=true/\0<=k/\k<=n.2.2.2.1.length
abbrev Is:=al [.val I,.val I,.ptr N] (λ_=>True) λ(o,x,n,_)=>.dat .bool (bq n o x)
abbrev Ir:=al [.val I,.val I] (λ_=>True) λ(o,x,_)=>.dat .bool (jb o x)
def aJs: Kt:=kOr 107 Is <|
 kOr 108 Ir KC8
def aHR(args:List AV)(m:Mem): Option jG:=match m,args with
 | [],[.dat (.sl (.sl (.int .i64))) t,.dat (.int .i64) k,.fn f caps]=>if f=107 then match ofK [.ptr N] caps with
   | some (n,_)=>some ⟨dw t,.dat .bool (sgF (bq n) t k),[]⟩
   | none=>none
  else if f=108 then match ofK [] caps with
   | some _=>some ⟨dw t,.dat .bool (sgF jb t k),[]⟩
   | none=>none
  else none
 | _,_=>none
def aJ4: Kt:=kOr 109 aHR aJs
def aFf(n:Net)(p:Plan): Ann:=Z8 6 Int (tV n p) (λs k=>put s [(38,.dat I k)]) λk=>Dc (Di (Df p.2.2.2) k)
def aJH(l:Li)(x:Int): Ann:=Z8 2 Int (Yq l x) (λs k=>put s [(8,.dat I k)]) λk=>Dc (Di (Df l) k)
abbrev Ci:=al [.row N,.row Pl] (λ(_,p,_)=>lu p) λ(n,p,_)=>.dat .bool (iN n p)
abbrev BW:=al [.val R,.val I] (λ(l,_,_)=>aEU l) λ(l,x,_)=>.dat I (Z1 l x)
def aJr: Kt:=kOr 44 Ci <|
 kOr 46 BW aIv
def aJK(n:Net)(p:Plan)(o:Int): Ann:=⟨λe s=>match e with
 | 6=>match s.sig.T 9 with
  | .buf b _=>some {α:=Int,inv:=λk=>gTo n p o k,st:=λk=>fu (put s [(47,.dat I k)]) b (.buf 3 I (TI n p o k) []),μ:=λk=>Dc (Di (Df n.2.2.2.1) k)}
  | _=>none
 | _=>none,λ_ _=>none,λ_ _=>none⟩
def aJU: Cfg:=mkp aJr (λt=>t==32) Go.Eng.noP (λ_=>false)
def aDQ: eO 107 Is:=ae λ((o:Int),(x:Int),((j,f,e,i,b,g):Net),_)=>by
 refine zE (A:=az) (p:=let y:=Ec x (-1);let h:=Dj y;let u:=Ed x 0;let z:=Df b;let r:=Ea u (Dp x z) false;let v:=Dh h r;(True->Q2 h (L4 (Dh h u) (Q4 (Dh h u) (L4 h ((h->Dh h u->Dh h u)/\L4 h (Q4 v ((Dh h r->0<=x)/\(Dh h r->x<z)/\L4 v (Q4 v (L4 h ((h->Dh h r->Dh h r)/\(Dh true h->h)/\Ea y true (Ea r (Ec (Du b (Dc x) (ByteArray.mk #[],(0:Int),(0:Int),(0:Int),(0:Int),(0:Int))).2.1 o) false)=bq (j,f,e,i,b,g) o x/\True))))))))))) VY λ_=>?_
 refine Z9 ?_;refine⟨λh=>h.2.1,λh=>h.2.2,?_⟩;unfold bq du;rw[kG];simp only[yF,qC,kK,qE];exact Iff.rfl
def aDP: eO 108 Ir:=ae λ((o:Int),(x:Int),_)=>by
 refine zE (A:=az) (p:=let b:=Ed x (-1);(True->L4 b ((Dh true b->b)/\Ea b (Ee x 65518) false=jb o x/\True))) VY λ_=>⟨λh _=>h,λh=>by simpa[Dh]using h,?_,trivial⟩
 unfold jb fY;simp only[Ea,Ed,Ee,kM];by_cases h:-1<=x<;>simp[h]
def aCP: ai Tryz.prog G0 aJs:=af aDQ<|af aDP VY
def aDM(t:Lj)(m:Int)(n:Net): ah Tryz.prog G0 109 [.dat M t,.dat I m,.fn 107 [.ip N n]] [] ⟨dw t,.dat .bool (sgF (bq n) t m),[]⟩:=by
 refine zE (A:=(lvA [(4,[1,2,6,7,8,10,15,16,17,26,27,28]),(9,[1,2,6,7,8,10,15,16,17,26,27,28])] (sgA (bq n) t m))) (p:=let i:=Dw (Df t) m;let h:=sgF (bq n) t m;(dw t->(i->false=h/\True)/\(i=false->(∃x,Jz (bq n) t m x/\Q3 m n t (Df t) (0=x/\True))/\∀(x:Int),let j:=Dp x (Df t);let f:=Du t (Dc x) [];let g:=Df f;let r:=Dw g m;let u:=x+1;Jz (bq n) t m x->(j->0<=x/\x<Df t/\(r->false=h/\True)/\(r=false->(∃b,nX (bq n) f m x b/\L3 m n x f t (Df t) x f g (0=b/\True))/\∀(b:Int),let e:=Dj (bq n x (Du f (Dc b) 0));let v:=b+1;nX (bq n) f m x b->(Dp b g->0<=b/\b<g/\True/\(e->false=h/\True)/\(e=false->inR .i64 v/\∃y,nX (bq n) f m x y/\(L3 m n x f t (Df t) x f g (v=y/\True))/\Dc (g-y)<Dc (g-b)))/\(Dp b g=false->inR .i64 u/\∃y,Jz (bq n) t m y/\(Q3 m n t (Df t) (u=y/\True))/\Dc (Df t-y)<Dc (Df t-x))))/\(j=false->true=h/\True)))) aCP λf=>?_
 refine Z9 ?_;exact DK (bq n) f
def aDN(t:Lj)(m:Int): ah Tryz.prog G0 109 [.dat M t,.dat I m,.fn 108 []] [] ⟨dw t,.dat .bool (sgF jb t m),[]⟩:=by
 refine zE (A:=(lvA [(4,[1,2,6,7,8,10,15,16,17,26,27,28]),(9,[1,2,6,7,8,10,15,16,17,26,27,28])] (sgA jb t m))) (p:=let h:=Dw (Df t) m;(dw t->(h->false=sgF jb t m/\True)/\(h=false->(∃x,Jz jb t m x/\L7 m t (Df t) (0=x/\True))/\∀(x:Int),let i:=Dp x (Df t);let f:=Du t (Dc x) [];let g:=Df f;let j:=Dw g m;let r:=x+1;Jz jb t m x->(i->0<=x/\x<Df t/\(j->false=sgF jb t m/\True)/\(j=false->(∃b,nX jb f m x b/\T5 m x f t (Df t) x f g (0=b/\True))/\∀(b:Int),let u:=Dj (jb x (Du f (Dc b) 0));let e:=b+1;nX jb f m x b->(Dp b g->0<=b/\b<g/\True/\(u->false=sgF jb t m/\True)/\(u=false->inR .i64 e/\∃y,nX jb f m x y/\(T5 m x f t (Df t) x f g (e=y/\True))/\Dc (g-y)<Dc (g-b)))/\(Dp b g=false->inR .i64 r/\∃y,Jz jb t m y/\(L7 m t (Df t) (r=y/\True))/\Dc (Df t-y)<Dc (Df t-x))))/\(i=false->true=sgF jb t m/\True)))) aCP λf=>?_
 refine Z9 ?_;exact DK jb f
def A5{P:Program}{C:Ctx}{a b x f:AV}{e:Lv}(h:AV.relL P C [a,b,x] e)(g:∀v,x.rel P C v->f.rel P C v): AV.relL P C [a,b,f] e:=by
 obtain⟨u,e,rfl,j,i⟩:=h;exact⟨_,_,rfl,j,ix i g⟩
def aCv: ∀args m c,aHR args m=some c->ah Tryz.prog G0 109 args m c:=by
 intro args m c b;unfold aHR at b;split at b
 case h_2=>cases b
 rename_i t k f caps;split at b
 .rename_i i;subst i;split at b
  case h_2=>cases b
  rename_i n _ e;cases b;exact(aDM t k n).args λC j r h=>A5 h λv g=>yW e g
 .split at b
  case isFalse=>cases b
  rename_i i;subst i;split at b
  case h_2=>cases b
  rename_i x e;cases b;exact(aDN t k).args λC j r h=>A5 h λv g=>yW e g
def aIl: ai Tryz.prog G0 aJ4:=af aCv aCP
def aA6: eO 44 Ci:=ae λ(((u,j,g,e,r,f):Net),((p1,p2,nx,b):Plan),_)=>by
 refine zE (A:=(lvA [(6,[2,4,6,8,36,37,38])] (aFf (u,j,g,e,r,f) (p1,p2,nx,b)))) (p:=let T:=Dj (lE p1 p2);let A:=(p1,p2,nx,b);let L:=Dj T;let h:=Df b;let V:=Ea T true (Dw h (Df f));let v:=Dj V;let i:=(u,j,g,e,r,f);let X:=Df e;let c8:=Ea V true (Dj (sgF (bq i) nx X));let O:=iN i A;(lu A->True/\Q4 L (Q4 L ((Dh true L->L)/\Q4 v (Q4 v ((v->dw nx)/\L4 v ((Dh true v->v)/\(c8->false=O/\True)/\(c8=false->(∃x,tV i A x/\L7 i b h (0=x/\True))/\∀(x:Int),let G:=Du b (Dc x) (Dt (Li));let z:=Dj (sgF jb G X);let c12:=x+1;tV i A x->(Dp x h->0<=x/\x<h/\dw G/\(z->false=O/\True)/\(z=false->inR .i64 c12/\∃y,tV i A y/\(L7 i b h (c12=y/\True))/\Dc (h-y)<Dc (h-x)))/\(Dp x h=false->true=O/\True))))))))) aIl λhf=>?_
 refine Z9 ?_;obtain⟨a3,a4,a5⟩:=id hf;have a3:dw nx:=a3;have a4:b.length<=1000000:=a4;have eT:sgF (bq (u,j,g,e,r,f)) nx e.length=mf (u,j,g,e,r,f) nx:=rfl;have eR:lE p1 p2=k9 (p1,p2,nx,b):=by
  unfold lE k9;rw[kG];simp only[qC,qE];omega
 rw[eT,eR];have eF:iN (u,j,g,e,r,f) (p1,p2,nx,b)=(k9 (p1,p2,nx,b)&&(mf (u,j,g,e,r,f) nx&&nY (u,j,g,e,r,f) (p1,p2,nx,b))):=rfl;have eD:(b.length:Int)=f.length->(nY (u,j,g,e,r,f) (p1,p2,nx,b)=true↔∀i:Nat,(i:Int)<b.length->sgF jb (b.getD i []) e.length=true):=λhl=>by
  unfold nY;simp only[qC,qE,qO];refine⟨λh i v=>h.2 _ (getD_mem Z),λh=>⟨hl,λx L=>?_⟩⟩;obtain⟨i,v,rfl⟩:=wZ.1 L;have:=h i Z;rw[qA,qB v,qK]at this;exact this
 refine⟨λ_=>a3,λh=>?_,λ⟨⟨V,O⟩,h3⟩=>⟨⟨qH _,qM _,V,h3,O,λi v=>Z⟩,λx ⟨x0,x1,_,_,_,x5⟩=>⟨λL=>⟨x0,L,a5 _ (getD_mem (l:=b) (i:=x.toNat) (d:=[]) Z),λX=>?_,λX=>?_⟩,λL=>?_⟩⟩⟩
 .rw[eF];rcases h with(h | h) | h
  .rw[h];rfl
  .have:nY (u,j,g,e,r,f) (p1,p2,nx,b)=false:=by
    unfold nY;rw[vC h];rfl
   rw[this];simp
  .rw[h];simp
 .refine(kC.2 λT=>?_).symm;rw[eF]at T;simp only[qC]at T;have:=(eD O).1 T.2.2 x.toNat Z;rw[X]at this;cases this
 .refine⟨aB Z,x+1,⟨Z,by show x+1<=(b.length:Int);omega,V,h3,O,λi v=>?_⟩,rfl,Z⟩;by_cases h5:(i:Int)<x
  .exact x5 i h5
  .have:i=x.toNat:=by omega
   subst this;exact X
 .rw[eF,V,h3,(eD O).2 λi v=>x5 i Z];rfl
def UE(x:Int): ∀l:Li,JF x l<=l.length
 | []=>qJ _
 | a::l=>by
  unfold JF;split
  .exact zA _
  .exact qCf (UE x l)
def ZZ{x:Int}: ∀{l:Li} {k:Nat},k<l.length->l.getD k 0=x->JF x l<=k
 | [],k,h,_=>by simp at h
 | a::l,k,h,e=>by
  unfold JF;split
  .exact zA _
  .cases k with
   | zero=>contradiction
   | succ k=>exact qCf (ZZ (by simpa using h) (by simpa using e))
def ZY{x:Int}: ∀{l:Li} {k:Nat},k<=JF x l->l.getD k 0≠x->k<l.length->k+1<=JF x l
 | [],k,_,_,h=>by simp at h
 | a::l,k,h,e,f=>by
  unfold JF at h ⊢;split
  .rename_i b;rw[if_pos b]at h;have:k=0:=Z;subst this;exact absurd b e
  .rename_i b;rw[if_neg b]at h;cases k with
   | zero=>omega
   | succ k=>exact qCf (ZY Z (by simpa using e) (by simpa using f))
def aAQ: eO 46 BW:=ae λ((l:Li),(x:Int),_)=>by
 refine zE (A:=(lvA [(2,[0,1,4,5,7,8])] (aJH l x))) (p:=(aEU l->(∃b,Yq l x b/\L7 l x (Df l) (0=b/\True))/\∀(b:Int),let e:=Dp b (Df l);let f:=Ec x (Du l (Dc b) 0);let g:=b+1;Yq l x b->(e->0<=b/\b<Df l/\(f->b=Z1 l x/\True)/\(f=false->inR IntKind.i64 g/\∃y,Yq l x y/\(L7 l x (Df l) (g=y/\True))/\Dc (Df l-y)<Dc (Df l-b)))/\(e=false->(-1:Int)=Z1 l x/\True))) VY λu=>?_
 refine Z9 ?_;unfold aEU at u;refine⟨⟨Z,Z,Z⟩,λk ⟨j,G,z⟩=>⟨λg=>⟨j,g,λv=>?_,λf=>⟨aB Z,k+1,⟨Z,Z,?_⟩,rfl,Z⟩⟩,λr=>?_⟩⟩
 .have h:k.toNat<l.length:=by omega
  have i:=ZZ h v.symm;have e:JF x l=k.toNat:=Z;unfold Z1;rw[e,if_pos h];omega
 .have i:=ZY (x:=x) (l:=l) (k:=k.toNat) Z (λe=>f e.symm) Z;omega
 .have i:=UE x l;unfold Z1;rw[if_neg Z]
def aIk(h:oR): ai Tryz.prog G0 aJr:=af aA6<|af aAQ (aFs h)
abbrev x6:=al [.row N,.row Pl,.val I] (λ(_,p,_,_)=>lu p) λ(n,p,o,_)=>.tup [.dat R (gsF n p o),.dat R (ofF n p o)]
def WV(h:oR): eO 12 x6:=ae λ(((V,L,G,f,O,T):Net),((p1,p2,nx,r):Plan),(o:Int),_)=>by
 refine zF (c:=aJU) (A:=(lvA [(6,[2,6,7,8,9,10,11,45,46,47])] (aJK (V,L,G,f,O,T) (p1,p2,nx,r) o))) (aIk h) iI hm (p:=let b:=(p1,p2,nx,r);let c2:=Dp o 0;let A:=Dj c2;let g:=Df f;let c5:=Ea c2 true (Ed o g);let v:=Dj c5;let e:=(V,L,G,f,O,T);let c8:=Ea c5 true (Dj (aR e));let z:=Dj c8;let c10:=Ea c8 true (Dj (iN e b));let c11:=gsF e b o;let c12:=ofF e b o;let c13:=[(-1:Int)];let c14:=tU b o;let h:=1+Dk c14;let j:=Dc g;let c17:=Du nx (Dc o) [];let X:=Df c17;let i:=Ef c13 c14;true/\(lu b->L4 A (Q4 A ((Dh true A->A)/\L4 v ((v->True)/\L4 v ((Dh true v->v)/\Q2 z ((z->lu b)/\L4 z ((Dh true z->z)/\(c10->c11=Dt Int/\c12=Dt Int/\True)/\(c10=false->Wg b o/\Dk c13=1/\(h*8)<=140737488355328/\h<=9223372036854775807/\0<=g/\(Dz 8*g)<=281474976710656/\g<=9223372036854775807/\0<=o/\o<Df nx/\(∃x,gTo e b o x/\T4 o Z0 Z0 h j c17 X (0=x/\i=i/\Et g (0:Int)=TI e b o x/\True))/\∀(x:Int),let c20:=TI e b o x;let u:=Dk c20;let c22:=x+1;let c23:=Du c17 (Dc x) 0;let c24:=Ec c23 (-1);
  gTo e b o x->(Dp x X->0<=x/\x<X/\(Ec x o->u=j/\0<=x/\x<Dz u/\u=j/\inR .i64 c22/\∃y,gTo e b o y/\(T4 o Z0 Z0 h j c17 X (c22=y/\i=i/\Em c20 (Dc x) 0=TI e b o y/\True))/\Dc (g-y)<Dc (g-x))/\(Ec x o=false->(c24->u=j/\0<=x/\x<Dz u/\u=j/\inR IntKind.i64 c22/\∃y,gTo e b o y/\(T4 o Z0 Z0 h j c17 X (c22=y/\i=i/\Em c20 (Dc x) (-1)=TI e b o y/\True))/\Dc (g-y)<Dc (g-x))/\(c24=false->aEU i/\Dk i=h/\u=j/\0<=x/\x<Dz u/\u=j/\inR .i64 c22/\∃y,gTo e b o y/\(T4 o Z0 Z0 h j c17 X (c22=y/\i=i/\Em c20 (Dc x) (Z1 i c23)=TI e b o y/\True))/\Dc (g-y)<Dc (g-x))))/\(Dp x X=false->Dk i=h/\i=c11/\u=j/\c20=c12/\True)))))))))) ⟨rfl,λhf=>?_⟩
 refine Z9 ?_;have ok:gOk (V,L,G,f,O,T) (p1,p2,nx,r) o=true↔((0<=o/\o<f.length)/\aR (V,L,G,f,O,T)=true)/\iN (V,L,G,f,O,T) (p1,p2,nx,r)=true:=by
  unfold gOk du;rw[qC,qC,qE]
 refine⟨λ_=>hf,λh=>?_,λ⟨⟨⟨h0,h1⟩,hs⟩,hfm⟩=>?_⟩
 .have hn:¬gOk (V,L,G,f,O,T) (p1,p2,nx,r) o=true:=λg=>by
   obtain⟨⟨⟨g0,g1⟩,g2⟩,g3⟩:=ok.1 g;rcases h with((h | h) | h) | h
   .omega
   .omega
   .rw[g2]at h;cases h
   .rw[g3]at h;cases h
  exact⟨if_neg hn,if_neg hn⟩
 have o0:0<=o:=Z;have o1:o<f.length:=Z;have hg:gOk (V,L,G,f,O,T) (p1,p2,nx,r) o=true:=ok.2 ⟨⟨⟨o0,o1⟩,hs⟩,hfm⟩;have ht:mf (V,L,G,f,O,T) nx=true:=(iD hfm).2.1;obtain⟨q1,_⟩:=ko V L G f O T hs;obtain⟨r1,r2,_⟩:=dY V L G f O T ht o0 o1 o0 o1;have r2:((ca (p1,p2,nx,r) o).length:Int)=f.length:=r2;have gl:=Lp (p1,p2,nx,r) o;have eR:nx.getD o.toNat []=ca (p1,p2,nx,r) o:=rfl;rw[eR]
 have len:∀{k:Int},0<=k->k<=f.length->(TI (V,L,G,f,O,T) (p1,p2,nx,r) o k).length=f.length:=λa b=>by
  have:=uW (g:=UG (p1,p2,nx,r) o) (z:=0) (l:=f.length) (k:=_) ⟨a,b⟩;rw[qP]at this;exact this
 have nxt_:∀{k v:Int},0<=k->k<f.length->v=UG (p1,p2,nx,r) o k->(TI (V,L,G,f,O,T) (p1,p2,nx,r) o k).set k.toNat v=TI (V,L,G,f,O,T) (p1,p2,nx,r) o (k+1):=λa b e=>by
  rw[e];exact Db a b
 have e0:List.replicate f.length (0:Int)=TI (V,L,G,f,O,T) (p1,p2,nx,r) o 0:=by
  have:=px (g:=UG (p1,p2,nx,r) o) (z:=(0:Int)) (l:=f.length);rw[qP]at this;exact this
 have e1:TI (V,L,G,f,O,T) (p1,p2,nx,r) o f.length=ofF (V,L,G,f,O,T) (p1,p2,nx,r) o:=by
  unfold ofF;rw[if_pos hg];have:=rA (g:=UG (p1,p2,nx,r) o) (z:=(0:Int)) (l:=f.length);rw[qP]at this;exact this
 have e2:gsF (V,L,G,f,O,T) (p1,p2,nx,r) o=-1::tU (p1,p2,nx,r) o:=if_pos hg;refine⟨⟨o0,by show o<(nx.length:Int);omega,Z,Zs V L G f O T hs ht o0 o1⟩,rfl,Z,Z,Z,Z,Z,o0,Z,⟨0,⟨hg,Z,by show(0:Int)<=(f.length:Int);omega⟩,rfl,e0⟩,λx ⟨_,x0,x1⟩=>⟨λhlt=>⟨x0,hlt,λhe=>?_,λhne=>⟨λhl=>?_,λhl=>?_⟩⟩,λhge=>?_⟩⟩
 .have hx:x<f.length:=by omega
  have hl:=len x0 x1;exact⟨hl,x0,Z,hl,aB Z,x+1,⟨hg,Z,by show x+1<=(f.length:Int);omega⟩,⟨rfl,nxt_ x0 hx (by unfold UG;rw[if_pos he])⟩,Z⟩
 .have hx:x<f.length:=by omega
  have hl':=len x0 x1;exact⟨hl',x0,Z,hl',aB Z,x+1,⟨hg,Z,by show x+1<=(f.length:Int);omega⟩,⟨rfl,nxt_ x0 hx (by unfold UG;rw[if_neg hne,if_pos hl])⟩,Z⟩
 .have hx:x<f.length:=by omega
  have hl':=len x0 x1;exact⟨by unfold aEU;simp only[qF,qV];omega,by simp[qBg],hl',x0,Z,hl',aB Z,x+1,⟨hg,Z,by show x+1<=(f.length:Int);omega⟩,⟨rfl,nxt_ x0 hx (by unfold UG;rw[if_neg hne,if_neg hl];rfl)⟩,Z⟩
 .have x1:x<=(f.length:Int):=x1;have hx:x=f.length:=Z;rw[hx];exact⟨by simp[qBg],by rw[e2];rfl,len Z Z,e1⟩
end Go.Eng.Sv
namespace Go.Eng.Mp
def le(z x:Int): Prop:=dS x=false/\z<=x
def OI(x:Int): Prop:=x=-1099511627776\/dS x=false
def jj{x:Int}: dS x=false↔-549755813888<x:=by
 simp only[dS,vZ];omega
def le_iff{z x:Int}: le z x↔-549755813888<x/\z<=x:=by unfold le;rw[jj]
def Ug{y z x:Int}(h:y<=z)(b:le z x): le y x:=⟨b.1,by have:=b.2;omega⟩
def EK{x:Int}(h:dS x=false): le x x:=⟨h,Z⟩
def mV{z x y:Int}: le z (jI x y)↔le z x\/le z y:=by
 simp only[le_iff,jI,dS,Bool.cond_eq_ite,qC,qE];split<;>omega
def sj(x y:Int): OI (jI x y):=by
 simp only[OI,jj];simp only[jI,dS,Bool.cond_eq_ite,qC,qE];split<;>omega
def Ns{z x y:Int}(h:dS x=false->dS y=false->-549755813888<x+y): le z (ky x y)↔∃u v,le u x/\le v y/\z<=u+v:=by
 constructor
 .intro b;simp only[jj]at h;simp only[le_iff,ky,dS,Bool.cond_eq_ite,yF,qE]at b;split at b
  .omega
  .exact⟨x,y,le_iff.2 ⟨Z,Z⟩,le_iff.2 ⟨Z,Z⟩,b.2⟩
 .rintro⟨u,v,f,e,b⟩;have:=h f.1 e.1;simp only[le_iff]at f e;simp only[le_iff,ky,dS,Bool.cond_eq_ite,yF,qE];split<;>omega
def Yg{g:Int->Int}{z:Int}: ∀n:Nat,le z (oV jI g (-1099511627776) n)↔∃k:Nat,k<n/\le z (g k)
 | 0=>by simp[oV,le,dS]
 | n+1=>by
  simp only[oV,mV,Yg n];constructor
  .rintro(⟨k,b,h⟩ | h)
   .exact⟨k,Z,h⟩
   .exact⟨n,Z,h⟩
  .rintro⟨k,b,h⟩;by_cases e:k=n
   .subst e;exact .inr h
   .exact .inl ⟨k,Z,h⟩
structure Bd (n:Nat) (L:Int) (m:Lj):Prop where
 sq:Sq n m
 le:n<=40
 el:∀i j:Int,0<=i->i<n->0<=j->j<n->dS (at2 m i j)=false->-L<=at2 m i j/\at2 m i j<=L
def Bd.up {n:Nat} {L b:Int} {m:Lj} (h:Bd n L m) (v:L<=b):Bd n b m:=
 ⟨h.sq,h.le,λi j u f r e g=>by have:=h.el i j u f r e g;omega⟩
abbrev In(n:Nat)(i:Int): Prop:=0<=i/\i<(n:Int)
def PW(m:Lj)(p:Nat->Int): Nat->Int->Prop
 | 0,z=>z<=0
 | k+1,z=>∃u v,PW m p k u/\le v (at2 m (p k) (p (k+1)))/\z<=u+v
section
variable {m:Lj} {p q:Nat->Int}
def PW.down:∀{k:Nat} {y z:Int},PW m p k z->y<=z->PW m p k y
 | 0,_,_,h,b=>qCk b h
 | _+1,_,_,⟨u,v,f,e,g⟩,b=>⟨u,v,f,e,Z⟩
def PW.congr:∀{k:Nat} {z:Int},(∀t,t<=k->p t=q t)->PW m p k z->PW m q k z
 | 0,_,_,h=>h
 | k+1,_,e,⟨u,v,g,f,b⟩=>⟨u,v,PW.congr (λt i=>e t Z) g,by rw[<- e k Z,<- e (k+1) Z];exact f,b⟩
def PW.split (a:Nat):∀(b:Nat) {z:Int},PW m p (a+b) z->∃u v,PW m p a u/\PW m (λt=>p (a+t)) b v/\z<=u+v
 | 0,z,h=>⟨z,0,h,qH _,Z⟩
 | b+1,z,⟨u,v,i,g,j⟩=>by
  obtain⟨f,e,g1,g2,g3⟩:=PW.split a b i;exact⟨f,e+v,g1,⟨e,v,g2,g,qH _⟩,Z⟩
def glue(p q:Nat->Int)(a:Nat): Nat->Int:=λt=>if t<=a then p t else q (t-a)
def m5{a t:Nat}(h:t<=a): glue p q a t=p t:=if_pos h
def jY{a b:Nat}(e:p a=q 0): glue p q a (a+b)=q b:=by
 unfold glue;split
 .have:b=0:=by omega
  subst this;simpa using e
 .congr 1;omega
def PW.join {a:Nat} {u:Int} (h:PW m p a u) (e:p a=q 0):∀(b:Nat) {v:Int},PW m q b v->PW m (glue p q a) (a+b) (u+v)
 | 0,v,f=>by
  have f:v<=0:=f;exact(h.congr (λt g=>(m5 g).symm)).down Z
 | b+1,v,⟨x,y,j,i,r⟩=>by
  refine⟨u+x,y,PW.join h e b j,?_,Z⟩;show le y (at2 m (glue p q a (a+b)) (glue p q a (a+(b+1))));rw[jY e,jY e];exact i
def W(m:Lj)(n:Nat)(t:Int)(k:Nat)(i j z:Int): Prop:=
 ∃p:Nat->Int,p 0=i/\p k=j/\(∀s,s<=k->In n (p s))/\(∀s,0<s->s<k->p s<t)/\PW m p k z
variable {n:Nat} {t:Int}
def W.ins {k:Nat} {i j z:Int} (h:W m n t k i j z):In n i/\In n j:=by
 obtain⟨p,rfl,rfl,h,_⟩:=h;exact⟨h 0 Z,h k Z⟩
def W.zero {i z:Int} (e:In n i) (b:z<=0):W m n t 0 i i z:=⟨λ_=>i,rfl,rfl,λ_ _=>e,λs g f=>Z,b⟩
def W.one {i j z:Int} (e:In n i) (b:In n j) (h:le z (at2 m i j)):W m n t 1 i j z:=
 ⟨λs=>if s=0 then i else j,rfl,rfl,λs _=>by show In n (if s=0 then i else j);split<;>assumption,λs g f=>Z,0,z,qH _,h,Z⟩
def W.down {k:Nat} {i j y z:Int} (h:W m n t k i j z) (b:y<=z):W m n t k i j y:=by
 obtain⟨p,u,r,g,f,e⟩:=h;exact⟨p,u,r,g,f,e.down b⟩
def W.mono {t':Int} {k:Nat} {i j z:Int} (h:W m n t k i j z) (x:t<=t'):W m n t' k i j z:=by
 obtain⟨p,v,u,r,g,f⟩:=h;exact⟨p,v,u,r,λs e b=>by have:=g s e b;omega,f⟩
def W.all {k:Nat} {i j z:Int} (h:W m n t k i j z):W m n n k i j z:=by
 obtain⟨p,g,f,b,v,e⟩:=h;exact⟨p,g,f,b,λs u r=>(b s Z).2,e⟩
def W.trans {a b:Nat} {i l j u v:Int} (h:W m n t a i l u) (f:W m n t b l j v) (x:l<t):W m n t (a+b) i j (u+v):=by
 obtain⟨p,G,g,A,z,y⟩:=h;obtain⟨q,g1,g2,g3,g4,L⟩:=f;have e:p a=q 0:=by rw[g,g1]
 refine⟨glue p q a,by rw[m5 Z];exact G,by rw[jY e];exact g2,λs T=>?_,λs r O=>?_,y.join e b L⟩
 .by_cases h:s<=a
  .rw[m5 h];exact A s h
  .rw[show s=a+(s-a) by omega,jY e];exact g3 _ Z
 .by_cases h:s<a
  .rw[m5 Z];exact z s r h
  .by_cases f:s=a
   .subst f;rw[m5 Z,g];exact x
   .rw[show s=a+(s-a) by omega,jY e];exact g4 _ Z Z
def W.trans' {a b:Nat} {i l j u v:Int} (h:W m n n a i l u) (e:W m n n b l j v):W m n n (a+b) i j (u+v):=h.trans e h.ins.2.2
def ZO: ∀(n:Nat) (f:Nat->Nat),(∀i,i<=n->f i<n)->∃a b,a<b/\b<=n/\f a=f b
 | 0,f,h=>by have:=h 0 Z;omega
 | n+1,f,h=>by
  by_cases u:∃i,i<=n/\f i=f (n+1)
  .obtain⟨i,j,e⟩:=u;exact⟨i,n+1,Z,Z,e⟩
  .have g:∀i,i<=n->f i≠f (n+1):=λi j e=>u ⟨i,j,e⟩
   have y:=h (n+1) Z;obtain⟨a,b,v,x,r⟩:=ZO n (λi=>if f i=n then f (n+1)else f i) (λi j=>by
    have v:=h i Z;have x:=g i j;show(if f i=n then f (n+1)else f i)<n;split<;>omega)
   have A:=g a Z;have z:=g b Z;refine⟨a,b,v,Z,?_⟩;have r:(if f a=n then f (n+1)else f a)=(if f b=n then f (n+1)else f b):=r;split at r<;>split at r<;>omega
def W.short:∀(k:Nat) {i j z:Int},W m n t k i j z->∃v r,v<n/\W m n t v i j r/\((∀k x u,W m n t k x x u->u<=0)->z<=r)
 | k,i,j,z,h=>by
  by_cases hk:k<n
  .exact⟨k,z,hk,h,λ_=>qH _⟩
  .obtain⟨p,h1,h2,g,O,h5⟩:=h;obtain⟨a,b,hab,hbn,e⟩:=ZO n (λs=>(p s).toNat) (λs X=>by have:=g s Z;omega);have e:(p a).toNat=(p b).toNat:=e;have e:p a=p b:=by have:=g a Z;have:=g b Z;omega
   have L:PW m p (a+(k-a)) z:=by rw[show a+(k-a)=k by omega];exact h5
   obtain⟨u1,w,q1,q2,q3⟩:=PW.split a (k-a) L;have G:PW m (λt=>p (a+t)) ((b-a)+(k-b)) w:=by rw[show(b-a)+(k-b)=k-a by omega];exact q2
   obtain⟨u2,T,r1,A,r3⟩:=PW.split (b-a) (k-b) G;have A:PW m (λt=>p (b+t)) (k-b) T:=A.congr (λt _=>by show p (a+(b-a+t))=p (b+t);congr 1;omega);have f:W m n t (b-a) (p a) (p a) u2:=
    ⟨λt=>p (a+t),rfl,by show p (a+(b-a))=p a;rw[show a+(b-a)=b by omega,e],λs X=>g _ Z,λs V s2=>O _ Z Z,r1⟩
   have y:p a=(λt=>p (b+t)) 0:=by show p a=p (b+0);rw[xY];exact e
   have hw:W m n t (a+(k-b)) i j (u1+T):=by
    refine⟨glue p (λt=>p (b+t)) a,by rw[m5 Z];exact h1,?_,λs X=>?_,λs V s2=>?_,q1.join y _ A⟩
    .rw[jY y];show p (b+(k-b))=j;rw[show b+(k-b)=k by omega];exact h2
    .by_cases h:s<=a
     .rw[m5 h];exact g s Z
     .rw[show s=a+(s-a) by omega,jY y];exact g _ Z
    .by_cases h:s<=a
     .rw[m5 h];exact O s V Z
     .rw[show s=a+(s-a) by omega,jY y];exact O _ Z Z
   obtain⟨v,r,w1,w2,w3⟩:=W.short (a+(k-b)) hw;refine⟨v,r,w1,w2,λhc=>?_⟩;have:=w3 hc;have:=hc _ _ _ f;omega
termination_by k=>k
decreasing_by omega
def Oo(P:Nat->Prop): ∀k:Nat,P k->∃a,a<=k/\P a/\∀b,b<a->¬P b
 | k,h=>by
  by_cases f:∃b,b<k/\P b
  .obtain⟨b,g,e⟩:=f;obtain⟨a,r,j,i⟩:=Oo P b e;exact⟨a,Z,j,i⟩
  .exact⟨k,Z,h,λb g e=>f ⟨b,g,e⟩⟩
termination_by k=>k
decreasing_by omega
def W.cut {k:Nat} {i j z:Int} (h:W m n (t+1) k i j z):W m n t k i j z\/∃a b u v,b<k/\W m n t a i t u/\W m n (t+1) b t j v/\z<=u+v:=by
 obtain⟨p,O,L,y,x,G⟩:=h;by_cases A:∃s,0<s/\s<k/\p s=t
 .obtain⟨s,V,g,f⟩:=A;obtain⟨a,a1,⟨a2,T⟩,a4⟩:=Oo (λs=>0<s/\p s=t) s ⟨V,f⟩;have r:PW m p (a+(k-a)) z:=by rw[show a+(k-a)=k by omega];exact G
  obtain⟨u,v,q1,q2,X⟩:=PW.split a (k-a) r;refine .inr ⟨a,k-a,u,v,Z,⟨p,O,T,λs hs=>y s Z,λs g f=>?_,q1⟩,⟨λs=>p (a+s),T,?_,λs hs=>y _ Z,λs g f=>x _ Z Z,q2⟩,X⟩
  .have:=x s g Z;have:=a4 s f;have:p s≠t:=λe=>this ⟨g,e⟩
   omega
  .show p (a+(k-a))=j;rw[show a+(k-a)=k by omega];exact L
 .refine .inl ⟨p,O,L,y,λs g f=>?_,G⟩;have:=x s g f;have:p s≠t:=λe=>A ⟨s,g,f,e⟩
  omega
def PW.low {L:Int} (hm:Bd n L m):∀{k:Nat} {z:Int},(∀s,s<=k->In n (p s))->PW m p k z->PW m p k (-((k:Int)*L))
 | 0,_,_,_=>by show -(((0:Nat):Int)*L)<=0;simp
 | k+1,_,e,⟨u,v,g,f,i⟩=>by
  have a:=e k Z;have b:=e (k+1) Z;have:=hm.el _ _ a.1 a.2 b.1 b.2 f.1;refine⟨-((k:Int)*L),-L,PW.low hm (λs h=>e s Z) g,⟨f.1,Z⟩,?_⟩;have:((k+1:Nat):Int)*L=(k:Int)*L+L:=by
   rw[Int.natCast_add,Int.add_mul];simp
  omega
def W.low {L:Int} (hm:Bd n L m) {k:Nat} {i j z:Int} (h:W m n t k i j z):W m n t k i j (-((k:Int)*L)):=by
 obtain⟨p,r,g,b,f,e⟩:=h;exact⟨p,r,g,b,f,e.low hm b⟩
def PW.high {L:Int} (hm:Bd n L m):∀{k:Nat} {z:Int},(∀s,s<=k->In n (p s))->PW m p k z->z<=(k:Int)*L
 | 0,z,_,h=>by have h:z<=0:=h;simpa using h
 | k+1,z,e,⟨u,v,g,f,j⟩=>by
  have a:=e k Z;have b:=e (k+1) Z;have:=hm.el _ _ a.1 a.2 b.1 b.2 f.1;have:=PW.high hm (λs i=>e s Z) g;have:=f.2;have:((k+1:Nat):Int)*L=(k:Int)*L+L:=by
   rw[Int.natCast_add,Int.add_mul];simp
  omega
def W.high {L:Int} (hm:Bd n L m) {k:Nat} {i j z:Int} (h:W m n t k i j z):z<=(k:Int)*L:=by
 obtain⟨p,r,g,e,f,b⟩:=h;exact b.high hm e
def vb(f:m.length=n){i j:Int}(e:In n i)(b:In n j): at2 (bZ m 0) i j=nV m i j:=by
 show at2 (aI (nV m) m.length) i j=_;rw[f];exact iQ _ _ _ _ e.1 e.2 b.1 b.2
def DG(f:m.length=n)(t:Nat){i j:Int}(e:In n i)(b:In n j): at2 (bZ m (t+1)) i j=pE (bZ m t) t i j:=by
 show at2 (aI (pE (bZ m t) t) m.length) i j=_;rw[f];exact iQ _ _ _ _ e.1 e.2 b.1 b.2
structure Fw (m:Lj) (n:Nat) (B:Int) (t:Nat):Prop where
 s:∀i j z,In n i->In n j->le z (at2 (bZ m t) i j)->∃k,W m n t k i j z
 c:∀k i j z,W m n t k i j z->le z (at2 (bZ m t) i j)
 lb:∀i j,In n i->In n j->dS (at2 (bZ m t) i j)=false->-B<=at2 (bZ m t) i j
def aEO{L:Int}(hm:Bd n L m)(r:0<=L)(t:Nat)(s:∀i j z,In n i->In n j->le z (at2 (bZ m t) i j)->∃k,W m n t k i j z)
  (c:∀k i j z,W m n t k i j z->le z (at2 (bZ m t) i j)):Fw m n (n*L) t:=
 ⟨s,c,λi j g f h=>by
  obtain⟨k,e⟩:=s i j _ g f (EK h);obtain⟨b,v,y,u,_⟩:=e.short;have:=(c _ _ _ _ (u.low hm)).2;have x:(b:Int)*L<=n*L:=gK Z r;omega⟩
def fw0{L:Int}(hm:Bd n L m)(G:0<=L): Fw m n (n*L) 0:=by
 refine aEO hm G 0 (λi j z f g h=>?_) (λk i j z h=>?_)
 .rw[vb hm.sq.len f g]at h;unfold nV at h;by_cases e:i=j
  .subst e;simp only[qBb,qAw,mV]at h;rcases h with h | h
   .exact⟨0,W.zero f h.2⟩
   .exact⟨1,W.one f g h⟩
  .simp only[e,gG,qAx,mV]at h;rcases h with h | h
   .simp[le,dS]at h
   .exact⟨1,W.one f g h⟩
 .obtain⟨f,g⟩:=h.ins;rw[vb hm.sq.len f g];obtain⟨p,A,r,y,x,b⟩:=h;unfold nV
  match k,r,y,x,b with
  | 0,r,_,_,b=>
   have e:i=j:=by rw[<- A,<- r]
   have b:z<=0:=b;simp only[e,qBb,qAw,mV];exact .inl ⟨by decide,b⟩
  | 1,r,_,_,b=>
   obtain⟨u,v,g1,g2,g3⟩:=b;have g1:u<=0:=g1;simp only[zD,A,r]at g2;have g4:le z (at2 m i j):=Ug Z g2;cases decide (i=j)
   .simp only[qAx,mV];exact .inr g4
   .simp only[qAw,mV];exact .inr g4
  | k+2,_,y,x,_=>
   have:=x 1 Z Z;have:=(y 1 Z).1;simp only[Int.natCast_zero]at *;omega
def aCh{L:Int}(hm:Bd n L m)(hL:0<=L)(hB:n*L<=100000000000){t:Nat}(ht:t<n)(h:Fw m n (n*L) t)(hd:at2 (bZ m t) t t<=0\/dS (at2 (bZ m t) t t)=true): Fw m n (n*L) (t+1):=by
 have g:In n t:=⟨Z,Z⟩;have V:∀{i j:Int},In n i->In n j->dS (at2 (bZ m t) i t)=false->dS (at2 (bZ m t) t j)=false->-549755813888<at2 (bZ m t) i t+at2 (bZ m t) t j:=λr f e1 e2=>by
  have:=h.lb _ _ r g e1;have:=h.lb _ _ g f e2;omega
 have ret:∀(k:Nat) (j z:Int),W m n ((t:Int)+1) k t j z->le z (at2 (bZ m t) t j):=by
  intro k;induction k using Nat.strongRecOn with
  | ind k ih=>
   intro j z x;rcases x.cut with x | ⟨a,b,u,v,hb,A,y,e⟩
   .exact h.c _ _ _ _ x
   .have X:=h.c _ _ _ _ A;have h2:=ih b hb j v y;have:u<=0:=by
     rcases hd with hd | hd
     .have:=X.2;omega
     .rw[X.1]at hd;cases hd
    exact Ug Z h2
 refine aEO hm hL (t+1) (λi j z r f e=>?_) (λk i j z x=>?_)
 .rw[DG hm.sq.len t r f]at e;unfold pE at e;rw[mV]at e;rcases e with e | e
  .obtain⟨k,T⟩:=h.s _ _ _ r f e;exact⟨k,T.mono Z⟩
  .obtain⟨u,v,hu,hv,e⟩:=(Ns (V r f)).1 e;obtain⟨k,T⟩:=h.s _ _ _ r g hu;obtain⟨k',O⟩:=h.s _ _ _ g f hv;exact⟨k+k',((T.mono (t':=((t+1:Nat):Int)) Z).trans (O.mono Z) Z).down e⟩
 .obtain⟨r,f⟩:=x.ins;rw[DG hm.sq.len t r f];unfold pE;rw[mV];have G:W m n ((t:Int)+1) k i j z:=by simpa using x
  rcases G.cut with x | ⟨a,b,u,v,_,A,y,e⟩
  .exact .inl (h.c _ _ _ _ x)
  .exact .inr ((Ns (V r f)).2 ⟨u,v,h.c _ _ _ _ A,ret _ _ _ y,e⟩)
def Au(m:Lj)(n:Nat): Prop:=∀k x u,W m n n k x x u->u<=0
def sh{s:Lj}(e:s.length=n): ig s=false↔∀i,In n i->at2 s i i<=0:=by
 unfold ig;rw[tW,e];constructor
 .intro h i b;have:=h i b.1 b.2;simp only[diag,vZ]at this;omega
 .intro h k g f;have:=h k ⟨g,f⟩;simp only[diag,vZ];omega
def Oe{L:Int}(hm:Bd n L m)(b:0<=L)(e:n*L<=100000000000): ∀t,t<=n->(∀s,s<t->ig (bZ m s)=false)->Fw m n (n*L) t
 | 0,_,_=>fw0 hm b
 | t+1,g,h=>by
  refine aCh hm b e Z (Oe hm b e t Z (λs i=>h s Z)) (.inl ?_);have f:(bZ m t).length=n:=by rw[(jO m t).len,hm.sq.len]
  exact(sh f).1 (h t Z) t ⟨Z,Z⟩
def X0{L:Int}(hm:Bd n L m)(f:0<=L)(g:n*L<=100000000000)(h:∀s,s<=n->ig (bZ m s)=false): Au m n:=by
 intro k x u b;have i:=Oe hm f g n (qJ _) (λs j=>h s Z);have e:(bZ m n).length=n:=by rw[(jO m n).len,hm.sq.len]
 have:=(i.c _ _ _ _ b).2;have:=(sh e).1 (h n (qJ _)) x b.ins.1;omega
def sR{L:Int}(hm:Bd n L m)(x:0<=L)(y:n*L<=100000000000)(h:Au m n): ∀s,s<=n->ig (bZ m s)=false:=by
 intro s;induction s using Nat.strongRecOn with
 | ind s e=>
  intro f;have z:=Oe hm x y s f (λr g=>e r g Z);have u:(bZ m s).length=n:=by rw[(jO m s).len,hm.sq.len]
  refine(sh u).2 λi b=>?_
  by_cases j:at2 (bZ m s) i i<=0
  .exact j
  .obtain⟨k,v⟩:=z.s i i 1 b b (le_iff.2 ⟨Z,Z⟩);have:=h k i 1 v.all;omega
def JV{L:Int}(hm:Bd n L m)(e:0<=L)(f:n*L<=100000000000): mF m=false↔Au m n:=by
 have g:=hm.sq.len;constructor
 .intro h;refine X0 hm e f λs b=>?_
  unfold mF at h;rw[qAg]at h;simpa using h s (qZ.2 Z)
 .intro h;unfold mF;rw[qAg];intro s b;have:=sR hm e f h s (by have:=qZ.1 b;omega);simp[this]
def aBb{L:Int}(hm:Bd n L m)(b:ay m=true)(e:0<=L)(f:n*L<=100000000000)(h:Au m n): iq m=0/\dK m=bZ m n:=by
 have:=(JV hm e f).2 h;simp[iq,dK,GM,b,this,hm.sq.len]
def JU(e:m.length=n): ∀(t:Nat) {i j:Int},In n i->In n j->OI (at2 (bZ m t) i j)
 | 0,i,j,hi,b=>by
  rw[vb e hi b];unfold nV;cases decide (i=j)
  .simp only[qAx];exact sj _ _
  .simp only[qAw];exact sj _ _
 | t+1,_,_,hi,b=>by rw[DG e t hi b];exact sj _ _
def KW{L:Int}(hm:Bd n L m)(b:0<=L)(e:n*L<=100000000000)(h:Au m n){i j z:Int}(u:In n i)(r:In n j): le z (at2 (bZ m n) i j)↔∃k,W m n n k i j z:=by
 have f:=Oe hm b e n (qJ _) (λs v=>sR hm b e h s Z);exact⟨f.s i j z u r,λ⟨k,g⟩=>f.c k i j z g⟩
def Au.short (h:Au m n) {k:Nat} {i j z:Int} (e:W m n n k i j z):∃b,b<n/\W m n n b i j z:=by
 obtain⟨b,u,r,g,f⟩:=e.short;exact⟨b,r,g.down (f h)⟩
def aBd{L:Int}(hm:Bd n L m)(b:0<=L)(r:n*L<=100000000000)(h:Au m n): Bd n (n*L) (bZ m n):=
 ⟨by rw[<- hm.sq.len];exact jO m _,hm.le,λi j v g u f z=>by
  have x:=(KW hm b r h ⟨v,g⟩ ⟨u,f⟩).1 (EK z);obtain⟨k,y⟩:=x;obtain⟨e,g1,g2⟩:=h.short y;have A:(e:Int)*L<=n*L:=gK Z b;have:=g2.high hm;have:=((KW hm b r h ⟨v,g⟩ ⟨u,f⟩).2 ⟨e,g2.low hm⟩).2;omega⟩
end
end Go.Eng.Mp
namespace Go.Eng.Sv
open Go.Proofs
open Go.Eng.Mp (aI cm oN bD upto at2 oy dK iq rC)
open Go.Eng.Mp (W PW Au)
structure L0 (q:Nat) (ls:Ll) (c:Li) (B:Int->Int->Int):Prop where
 lo:∀o d:Int,0<=o->o<q->0<=d->d<q->-1<=B o d
 same:∀o:Int,0<=o->o<q->B o o=0
 step:∀(k:Nat) (l:Line),ls[k]?=some l->c.getD k 0≠dM->∀d:Int,0<=d->d<q->0<=B (lTo l) d->0<=B (bj l) d/\B (bj l) d<=c.getD k 0+B (lTo l) d
 from_:∀o d:Int,0<=o->o<q->0<=d->d<q->o≠d->0<=B o d->∃(k:Nat) (l:Line),ls[k]?=some l/\c.getD k 0≠dM/\bj l=o/\0<=B (lTo l) d/\B o d=c.getD k 0+B (lTo l) d
structure LZ (q:Nat) (ls:Ll) (c:Li):Prop where
 pos:∀(k:Nat) (l:Line),ls[k]?=some l->c.getD k 0≠dM->0<c.getD k 0
 ends:∀(k:Nat) (l:Line),ls[k]?=some l->(0<=bj l/\bj l<q)/\0<=lTo l/\lTo l<q
def L0.mono {q:Nat} {ls b:Ll} {c G:Li} {B L:Int->Int->Int} (h:L0 q ls c B) (x:LZ q ls c) (y:L0 q b G L)
  (X:∀(k:Nat) (l:Line),ls[k]?=some l->c.getD k 0≠dM->∃(i:Nat) (g:Line),b[i]?=some g/\G.getD i 0≠dM/\bj g=bj l/\lTo g=lTo l/\G.getD i 0<=c.getD k 0):
  ∀(f:Nat) (o d:Int),0<=o->o<q->0<=d->d<q->0<=B o d->(B o d).toNat<=f->0<=L o d/\L o d<=B o d
 | f,o,d,r,j,A,z,hB,v=>by
  by_cases e:o=d
  .subst e;rw[h.same o r j,y.same o r j];omega
  .obtain⟨k,l,u,V,T,k4,k5⟩:=h.from_ o d r j A z e hB;have hp:=x.pos k l u V;obtain⟨_,t0,t1⟩:=x.ends k l u
   match f,v with
   | 0,v=>omega
   | f+1,v=>
    obtain⟨i1,i2⟩:=h.mono x y X f (lTo l) d t0 t1 A z k4 Z;obtain⟨i,g,g1,g2,g3,g4,g5⟩:=X k l u V;obtain⟨O,s2⟩:=y.step i g g1 g2 d A z (by rw[g4];exact i1);rw[g3,T,g4]at s2;rw[g3,T]at O;exact⟨O,Z⟩
def L0.le {q:Nat} {ls b:Ll} {c g:Li} {B i:Int->Int->Int} (h:L0 q ls c B) (v:LZ q ls c) (y:L0 q b g i)
  (u:∀(k:Nat) (l:Line),ls[k]?=some l->c.getD k 0≠dM->∃(f:Nat) (e:Line),b[f]?=some e/\g.getD f 0≠dM/\bj e=bj l/\lTo e=lTo l/\g.getD f 0<=c.getD k 0)
  {o d:Int} (r:0<=o) (j:o<q) (A:0<=d) (z:d<q) (x:0<=B o d):0<=i o d/\i o d<=B o d:=h.mono v y u _ o d r j A z x (qJ _)
def H9{ls:Ll}{c:Li}{l:Line}: ∀(m k:Nat),k<m->ls[k]?=some l->c.getD k 0≠dM->-(c.getD k 0)<=fL ls c m (bj l) (lTo l)
 | m+1,k,h,b,f=>by
  rw[jw];by_cases e:k=m
  .subst e;rw[if_pos ⟨f,by rw[qA,b];rfl,by rw[qA,b];rfl⟩];omega
  .have g:=H9 m k Z b f;split<;>omega
def xf{ls:Ll}{c:Li}{o d:Int}: ∀m:Nat,m<=ls.length->fL ls c m o d=dM\/∃(k:Nat) (l:Line),ls[k]?=some l/\c.getD k 0≠dM/\bj l=o/\lTo l=d/\fL ls c m o d=-(c.getD k 0)
 | 0,_=>.inl rfl
 | m+1,hm=>by
  rw[jw];have b:ls[m]?=some (ls[m]'zoo):=qB _;have r:ls.getD m (⟨#[]⟩,0,0,0,0,0)=ls[m]'zoo:=by rw[qA,b];rfl
  split
  .rename_i g;rw[r]at g;rcases xf (ls:=ls) (c:=c) (o:=o) (d:=d) m Z with h | ⟨k,l,j,i,f,e,u⟩
   .by_cases q:dM<=-(c.getD m 0)
    .exact .inr ⟨m,_,b,g.1,g.2.1,g.2.2,by rw[h];omega⟩
    .left;rw[h];omega
   .by_cases q:fL ls c m o d<=-(c.getD m 0)
    .exact .inr ⟨m,_,b,g.1,g.2.1,g.2.2,Z⟩
    .exact .inr ⟨k,l,j,i,f,e,Z⟩
  .exact xf m Z
def Ox(x:LC)(r j:LB)(f:Lo)(ls:Ll)(u:Lk){c:Li}(h:fG (x,r,j,f,ls,u) c): LZ f.length ls c:=by
 have L:c.length=ls.length:=h.2.1;refine⟨λk l b O=>?_,λk l b=>?_⟩
 .have v:k<ls.length:=(qG.1 b).1;have:=h.2.2 k Z Z;rw[qP]at this;rcases this with g | g
  .exact(O g).elim
  .exact g.1
 .have v:k<ls.length:=(qG.1 b).1;obtain⟨G,A,z,y,_⟩:=db x r j f ls u h.1 (i:=k) Z Z;have e:ak (x,r,j,f,ls,u) k=l:=by
   unfold ak;show ls.getD (k:Int).toNat _=l;rw[qP,qA,b];rfl
  rw[e]at G A z y;exact⟨⟨G,A⟩,z,y⟩
def Yf(v:LC)(r f:LB)(b:Lo)(ls:Ll)(u:Lk){c:Li}(h:fG (v,r,f,b,ls,u) c): Mp.Bd b.length 1000000 (bB (v,r,f,b,ls,u) c):=by
 have y:=(dE v r f b ls u (aS v r f b ls u h.1)).1;have O:c.length=ls.length:=h.2.1;refine⟨nI v r f b ls u c _,Z,λi j L G A z x=>?_⟩;have e:at2 (bB (v,r,f,b,ls,u) c) i j=fL ls c (ls.length:Int).toNat i j:=jh v r f b ls u c _ L G A z;rw[e]at x ⊢;rcases jV h ls i j (ls.length:Int).toNat Z with g | g
 .rw[g]at x;cases x
 .omega
def Ue(v:LC)(r f:LB)(b:Lo)(ls:Ll)(u:Lk){c:Li}(h:fG (v,r,f,b,ls,u) c){i j:Int}(A:0<=i)(z:i<b.length)(y:0<=j)(x:j<b.length): at2 (bB (v,r,f,b,ls,u) c) i j<=-1:=by
 have G:c.length=ls.length:=h.2.1;have e:at2 (bB (v,r,f,b,ls,u) c) i j=fL ls c (ls.length:Int).toNat i j:=jh v r f b ls u c _ A z y x;rw[e];rcases jV h ls i j (ls.length:Int).toNat Z with g | g
 .rw[g];unfold dM;omega
 .omega
def iX{m:Lj}{p:Nat->Int}{q:Nat}(hm:∀i j:Int,0<=i->i<q->0<=j->j<q->at2 m i j<=-1): ∀(k:Nat) (z:Int),(∀s,s<=k->Mp.In q (p s))->PW m p k z->z<=-(k:Int)
 | 0,z,_,h=>by have h:z<=0:=h;omega
 | k+1,z,e,⟨u,v,g,f,y⟩=>by
  have r:=iX hm k u (λs x=>e s Z) g;have a:=e k Z;have b:=e (k+1) Z;have:=hm _ _ a.1 a.2 b.1 b.2;have:=f.2;omega
def xe(r:LC)(f e:LB)(b:Lo)(ls:Ll)(g:Lk){c:Li}(h:fG (r,f,e,b,ls,g) c){t:Int}{k:Nat}{i j z:Int}(A:W (bB (r,f,e,b,ls,g) c) b.length t k i j z): z<=0:=by
 obtain⟨p,V,T,L,O,G⟩:=A;have:=iX (λi j y x v u=>Ue r f e b ls g h y x v u) k z L G;omega
def rj(A:LC)(r f:LB)(b:Lo)(ls:Ll)(y:Lk){c:Li}(h:fG (A,r,f,b,ls,y) c): L0 b.length ls c (λo d=>at2 (bm (A,r,f,b,ls,y) c) o d)/\iq (bB (A,r,f,b,ls,y) c)=0/\
  (∀o d:Int,0<=o->o<b.length->0<=d->d<b.length->at2 (dK (bB (A,r,f,b,ls,y) c)) o d=if at2 (bm (A,r,f,b,ls,y) c) o d<0 then dM else -(at2 (bm (A,r,f,b,ls,y) c) o d))/\Mp.Sq b.length (dK (bB (A,r,f,b,ls,y) c)):=by
 have l12:=(dE A r f b ls y (aS A r f b ls y h.1)).1;have hcl:c.length=ls.length:=h.2.1;have hm:=Yf A r f b ls y h;have hB:(b.length:Int)*1000000<=100000000000:=Z;have hv:Mp.ay (bB (A,r,f,b,ls,y) c)=true:=qg A r f b ls y h Z (qH _);have hN:Au (bB (A,r,f,b,ls,y) c) b.length:=λk x u hw=>xe A r f b ls y h hw
 obtain⟨e1,e2⟩:=Mp.aBb hm hv Z hB hN;have hle:∀{i j z:Int},Mp.In b.length i->Mp.In b.length j->(Mp.le z (at2 (dK (bB (A,r,f,b,ls,y) c)) i j)↔∃k,W (bB (A,r,f,b,ls,y) c) b.length b.length k i j z):=λhi hj=>by
  rw[e2];exact Mp.KW hm Z hB hN hi hj
 have hcl2:∀{i j:Int},Mp.In b.length i->Mp.In b.length j->Mp.OI (at2 (dK (bB (A,r,f,b,ls,y) c)) i j):=λhi hj=>by
  rw[e2];exact Mp.JU hm.sq.len _ hi hj
 have hat:∀o d:Int,0<=o->o<b.length->0<=d->d<b.length->at2 (bm (A,r,f,b,ls,y) c) o d=if at2 (dK (bB (A,r,f,b,ls,y) c)) o d=dM then -1 else -(at2 (dK (bB (A,r,f,b,ls,y) c)) o d):=λo d T O L G=>by
  have:at2 (bm (A,r,f,b,ls,y) c) o d=Vq (iq (bB (A,r,f,b,ls,y) c)) (dK (bB (A,r,f,b,ls,y) c)) o d:=Mp.iQ _ _ o d T O L G;rw[this];unfold Vq;rw[if_pos e1]
 have X:∀o d:Int,0<=o->o<b.length->0<=d->d<b.length->(at2 (dK (bB (A,r,f,b,ls,y) c)) o d=dM/\at2 (bm (A,r,f,b,ls,y) c) o d=-1)\/(Mp.dS (at2 (dK (bB (A,r,f,b,ls,y) c)) o d)=false/\at2 (dK (bB (A,r,f,b,ls,y) c)) o d<=0/\at2 (bm (A,r,f,b,ls,y) c) o d=-(at2 (dK (bB (A,r,f,b,ls,y) c)) o d)):=λo d T O L G=>by
  have ha:=hat o d T O L G;rcases hcl2 (i:=o) (j:=d) ⟨T,O⟩ ⟨L,G⟩with g | g
  .left;rw[if_pos (show _=dM from g)]at ha;exact⟨g,ha⟩
  .right
   obtain⟨k,hw⟩:=(hle ⟨T,O⟩ ⟨L,G⟩).1 (Mp.EK g);have g':=Mp.jj.1 g;rw[if_neg (show ¬_=dM by unfold dM;omega)]at ha;exact⟨g,xe A r f b ls y h hw,ha⟩
 have hge:∀{o d:Int},0<=o->o<b.length->0<=d->d<b.length->∀{k:Nat} {z:Int},-549755813888<z->W (bB (A,r,f,b,ls,y) c) b.length b.length k o d z->0<=at2 (bm (A,r,f,b,ls,y) c) o d/\at2 (bm (A,r,f,b,ls,y) c) o d<=-z:=λ{o d} T O L G {k z} _ hw=>by
  have:=(hle ⟨T,O⟩ ⟨L,G⟩).2 ⟨k,hw⟩;rcases X o d T O L G with⟨g1,g2⟩ | ⟨g1,g2,g3⟩
  .rw[g1]at this;cases this.1
  .have:=this.2;omega
 have hW:∀{o d:Int},0<=o->o<b.length->0<=d->d<b.length->0<=at2 (bm (A,r,f,b,ls,y) c) o d->∃k,W (bB (A,r,f,b,ls,y) c) b.length b.length k o d (-(at2 (bm (A,r,f,b,ls,y) c) o d))/\-549755813888 < -(at2 (bm (A,r,f,b,ls,y) c) o d):=λ{o d} T O L G hb=>by
  rcases X o d T O L G with⟨g1,g2⟩ | ⟨g1,g2,g3⟩
  .omega
  .have e:-(at2 (bm (A,r,f,b,ls,y) c) o d)=at2 (dK (bB (A,r,f,b,ls,y) c)) o d:=by omega
   rw[e];obtain⟨k,hw⟩:=(hle ⟨T,O⟩ ⟨L,G⟩).1 (Mp.EK g1);exact⟨k,hw,Mp.jj.1 g1⟩
 have cp:=Ox A r f b ls y h;have hstep:∀(k:Nat) (l:Line),ls[k]?=some l->c.getD k 0≠dM->∀d:Int,0<=d->d<b.length->0<=at2 (bm (A,r,f,b,ls,y) c) (lTo l) d->0<=at2 (bm (A,r,f,b,ls,y) c) (bj l) d/\at2 (bm (A,r,f,b,ls,y) c) (bj l) d<=c.getD k 0+at2 (bm (A,r,f,b,ls,y) c) (lTo l) d:=λk l hk hc d L G hb=>by
  obtain⟨⟨f0,f1⟩,t0,t1⟩:=cp.ends k l hk;have hlt:k<ls.length:=(qG.1 hk).1;have hcb:=h.2.2 k Z Z;rw[qP]at hcb;have hcb:0<c.getD k 0/\c.getD k 0<=1000000:=by
   rcases hcb with g | g
   .exact(hc g).elim
   .exact g
  obtain⟨k',hw,hz⟩:=hW t0 t1 L G hb;have ea:at2 (bB (A,r,f,b,ls,y) c) (bj l) (lTo l)=fL ls c (ls.length:Int).toNat (bj l) (lTo l):=jh A r f b ls y c _ f0 f1 t0 t1;have hge1:=H9 (ls:=ls) (c:=c) (l:=l) (ls.length:Int).toNat k Z hk hc;have h1:W (bB (A,r,f,b,ls,y) c) b.length b.length 1 (bj l) (lTo l) (-(c.getD k 0)):=W.one ⟨f0,f1⟩ ⟨t0,t1⟩ (Mp.le_iff.2 ⟨by rw[ea];omega,by rw[ea];exact hge1⟩)
  have h2:=h1.trans' hw;have V:-549755813888 < -(c.getD k 0)+-(at2 (bm (A,r,f,b,ls,y) c) (lTo l) d):=by
   obtain⟨k2,q1,q2⟩:=hw.short;have:=q2.2;obtain⟨q3,q4⟩:=q2;have hlow:=(Mp.aBd hm Z hB hN).el (lTo l) d t0 t1 L G (by
    rcases X (lTo l) d t0 t1 L G with⟨g1,g2⟩ | ⟨g1,_⟩
    .omega
    .rw[<- e2];exact g1)
   rcases X (lTo l) d t0 t1 L G with⟨g1,g2⟩ | ⟨g1,g2,g3⟩
   .omega
   .rw[<- e2]at hlow;omega
  obtain⟨r1,r2⟩:=hge f0 f1 L G V h2;exact⟨r1,Z⟩
 refine⟨⟨λo d T O L G=>?_,λo T O=>?_,hstep,λo d T O L G hne hb=>?_⟩,e1,λo d T O L G=>?_,by rw[e2,<- hm.sq.len];exact Mp.jO _ _⟩
 .show -1<=at2 (bm (A,r,f,b,ls,y) c) o d;rcases X o d T O L G with⟨g1,g2⟩ | ⟨g1,g2,g3⟩<;>omega
 .show at2 (bm (A,r,f,b,ls,y) c) o o=0;have:=hge T O T O Z (W.zero (m:=bB (A,r,f,b,ls,y) c) (n:=b.length) (t:=b.length) ⟨T,O⟩ (qH 0));omega
 .have hb:0<=at2 (bm (A,r,f,b,ls,y) c) o d:=hb;obtain⟨k,hw,hz⟩:=hW T O L G hb;obtain⟨p,p1,p2,p3,p4,p5⟩:=hw
  match k,p2,p3,p4,p5 with
  | 0,p2,_,_,_=>exact(hne (by rw[<- p1,<- p2])).elim
  | k+1,p2,p3,p4,p5=>
   rw[show k+1=1+k by omega]at p5;obtain⟨u,v,q1,q2,q3⟩:=PW.split 1 k p5;obtain⟨u',v',q4,q5,q6⟩:=q1;have q4:u'<=0:=q4;have q5:Mp.le v' (at2 (bB (A,r,f,b,ls,y) c) (p 0) (p 1)):=q5;rw[p1]at q5;obtain⟨x0,x1⟩:=p3 1 Z;have ea:at2 (bB (A,r,f,b,ls,y) c) o (p 1)=fL ls c (ls.length:Int).toNat o (p 1):=jh A r f b ls y c _ T O x0 x1;rw[ea]at q5;have V:=Mp.jj.1 q5.1
   rcases xf (ls:=ls) (c:=c) (o:=o) (d:=p 1) (ls.length:Int).toNat Z with g | ⟨k',l,g1,g2,g3,g4,g5⟩
   .rw[g]at V;unfold dM at V;omega
   .have hw2:W (bB (A,r,f,b,ls,y) c) b.length b.length k (p 1) d v:=⟨λt=>p (1+t),rfl,by show p (1+k)=d;rw[show 1+k=k+1 by omega];exact p2,λs hs=>p3 _ Z,λs s1 s2=>(p3 _ Z).2,q2⟩;have q8:=q5.2;have cpos:=cp.pos k' l g1 g2;obtain⟨r1,r2⟩:=hge x0 x1 L G Z hw2;refine⟨k',l,g1,g2,g3,?_,?_⟩
    .show 0<=at2 (bm (A,r,f,b,ls,y) c) (lTo l) d;rw[g4];exact r1
    .obtain⟨s1,s2⟩:=hstep k' l g1 g2 d L G (by rw[g4];exact r1);rw[g3]at s2;show at2 (bm (A,r,f,b,ls,y) c) o d=_;rw[g4]at s2 ⊢;omega
 .rcases X o d T O L G with⟨g1,g2⟩ | ⟨g1,g2,g3⟩
  .rw[if_pos Z];exact g1
  .rw[if_neg Z];omega
end Go.Eng.Sv
namespace Go.Proofs
open Go.Shelf
def Tryz.keysA_ren:Go.Shelf.Ren:=⟨fun | 7=>112 | 10=>172 | n=>n,fun | 23=>165 | 26=>3 | 3=>4 | 28=>138 | 0=>0 | 27=>137 | 33=>143 | 4=>4 | n=>n,fun | n=>n⟩
def Tryz.keysA:Go.Proofs.SlLaysZI.n7 Tryz.prog Tryz.keysA_ren:={
 mixed:=by kernel_rfl
 f7:=⟨Tryz.f112.name,by decide,Tryz.func112.trans (congrArg some (by kernel_rfl))⟩
 f10:=⟨Tryz.f172.name,by decide,Tryz.func172.trans (congrArg some (by kernel_rfl))⟩
 t0:=Tryz.underlying0
 a0:=Tryz.isAgg0
 z0:=Tryz.sizeOf0
 v0:=Tryz.zeroValue0
 t4:=Tryz.underlying4
 a4:=Tryz.isAgg4
 z4:=Tryz.sizeOf4
 v4:=Tryz.zeroValue4
 t23:=Tryz.underlying165
 a23:=Tryz.isAgg165
 z23:=Tryz.sizeOf165
 v23:=Tryz.zeroValue165
 t26:=Tryz.underlying3
 a26:=Tryz.isAgg3
 z26:=Tryz.sizeOf3
 v26:=Tryz.zeroValue3
 t27:=Tryz.underlying137
 a27:=Tryz.isAgg137
 z27:=Tryz.sizeOf137
 v27:=Tryz.zeroValue137
 t28:=Tryz.underlying138
 a28:=Tryz.isAgg138
 z28:=Tryz.sizeOf138
 v28:=Tryz.zeroValue138
 t33:=Tryz.underlying143
 a33:=Tryz.isAgg143
 z33:=Tryz.sizeOf143
 v33:=Tryz.zeroValue143}
def Tryz.sortedA_ren:Go.Shelf.Ren:=⟨fun | 6=>111 | 8=>170 | 9=>171 | 11=>223 | 13=>225 | 12=>224 | 23=>276 | 24=>277 | 14=>268 | 15=>269 | 16=>270 | 17=>271 | 18=>272 | 19=>273 | 20=>258 | 21=>274 | 22=>275 | 25=>291 | 26=>292 | 27=>293 | 28=>294 | 29=>295 | 30=>287 | 31=>302 | n=>n,fun | 26=>3 | 28=>138 | 24=>36 | 0=>0 | 3=>3 | 37=>228 | 48=>255 | 50=>257 | 4=>4 | 40=>249 | 39=>248 | 45=>217 | 5=>5 | 9=>9 | 51=>260 | 55=>264 | 57=>266 | 58=>153 | 33=>143 | n=>n,fun | n=>n⟩
def Tryz.sortedA:Go.Proofs.SlLaysZI.n6 Tryz.prog Tryz.sortedA_ren:={
 mixed:=by kernel_rfl
 f6:=⟨Tryz.f111.name,by decide,Tryz.func111.trans (congrArg some (by kernel_rfl))⟩
 f8:=⟨Tryz.f170.name,by decide,Tryz.func170.trans (congrArg some (by kernel_rfl))⟩
 f11:=⟨Tryz.f223.name,by decide,Tryz.func223.trans (congrArg some (by kernel_rfl))⟩
 t0:=Tryz.underlying0
 a0:=Tryz.isAgg0
 z0:=Tryz.sizeOf0
 v0:=Tryz.zeroValue0
 t24:=Tryz.underlying36
 a24:=Tryz.isAgg36
 z24:=Tryz.sizeOf36
 v24:=Tryz.zeroValue36
 t26:=Tryz.underlying3
 a26:=Tryz.isAgg3
 z26:=Tryz.sizeOf3
 v26:=Tryz.zeroValue3
 t28:=Tryz.underlying138
 a28:=Tryz.isAgg138
 z28:=Tryz.sizeOf138
 v28:=Tryz.zeroValue138
 i26:=by kernel_rfl}
def Tryz.sortA_ren:Go.Shelf.Ren:=⟨fun | 5=>171 | 8=>225 | 7=>224 | 19=>276 | 20=>277 | 10=>268 | 11=>269 | 12=>270 | 13=>271 | 14=>272 | 15=>273 | 16=>258 | 17=>274 | 18=>275 | 30=>291 | 31=>292 | 32=>293 | 33=>294 | 34=>295 | 35=>287 | 40=>302 | n=>n,fun | 23=>36 | 25=>3 | 3=>3 | 32=>228 | 22=>36 | 0=>0 | 44=>255 | 46=>257 | 4=>4 | 36=>249 | 35=>248 | 41=>217 | 5=>5 | 9=>9 | 53=>260 | 57=>264 | 63=>266 | 64=>153 | n=>n,fun | n=>n⟩
def Tryz.sortA:Go.Proofs.SlLaysM.n5 Tryz.prog Tryz.sortA_ren:={
 mixed:=by kernel_rfl
 f5:=⟨Tryz.f171.name,by decide,Tryz.func171.trans (congrArg some (by kernel_rfl))⟩
 f7:=⟨Tryz.f224.name,by decide,Tryz.func224.trans (congrArg some (by kernel_rfl))⟩
 f8:=Tryz.func225.trans (congrArg some (by kernel_rfl))
 f10:=⟨Tryz.f268.name,by decide,Tryz.func268.trans (congrArg some (by kernel_rfl))⟩
 f11:=⟨Tryz.f269.name,by decide,Tryz.func269.trans (congrArg some (by kernel_rfl))⟩
 f12:=⟨Tryz.f270.name,by decide,Tryz.func270.trans (congrArg some (by kernel_rfl))⟩
 f13:=⟨Tryz.f271.name,by decide,Tryz.func271.trans (congrArg some (by kernel_rfl))⟩
 f14:=⟨Tryz.f272.name,by decide,Tryz.func272.trans (congrArg some (by kernel_rfl))⟩
 f15:=⟨Tryz.f273.name,by decide,Tryz.func273.trans (congrArg some (by kernel_rfl))⟩
 f16:=⟨Tryz.f258.name,by decide,Tryz.func258.trans (congrArg some (by kernel_rfl))⟩
 f17:=⟨Tryz.f274.name,by decide,Tryz.func274.trans (congrArg some (by kernel_rfl))⟩
 f18:=⟨Tryz.f275.name,by decide,Tryz.func275.trans (congrArg some (by kernel_rfl))⟩
 f19:=Tryz.func276.trans (congrArg some (by kernel_rfl))
 f20:=Tryz.func277.trans (congrArg some (by kernel_rfl))
 f30:=⟨Tryz.f291.name,by decide,Tryz.func291.trans (congrArg some (by kernel_rfl))⟩
 f31:=Tryz.func292.trans (congrArg some (by kernel_rfl))
 f32:=Tryz.func293.trans (congrArg some (by kernel_rfl))
 f33:=⟨Tryz.f294.name,by decide,Tryz.func294.trans (congrArg some (by kernel_rfl))⟩
 f34:=⟨Tryz.f295.name,by decide,Tryz.func295.trans (congrArg some (by kernel_rfl))⟩
 f35:=⟨Tryz.f287.name,by decide,Tryz.func287.trans (congrArg some (by kernel_rfl))⟩
 f40:=⟨Tryz.f302.name,by decide,Tryz.func302.trans (congrArg some (by kernel_rfl))⟩
 t0:=Tryz.underlying0
 a0:=Tryz.isAgg0
 z0:=Tryz.sizeOf0
 v0:=Tryz.zeroValue0
 t3:=Tryz.underlying3
 a3:=Tryz.isAgg3
 z3:=Tryz.sizeOf3
 v3:=Tryz.zeroValue3
 t4:=Tryz.underlying4
 a4:=Tryz.isAgg4
 z4:=Tryz.sizeOf4
 v4:=Tryz.zeroValue4
 t5:=Tryz.underlying5
 a5:=Tryz.isAgg5
 z5:=Tryz.sizeOf5
 v5:=Tryz.zeroValue5
 t9:=Tryz.underlying9
 a9:=Tryz.isAgg9
 z9:=Tryz.sizeOf9
 v9:=Tryz.zeroValue9
 t22:=Tryz.underlying36
 a22:=Tryz.isAgg36
 z22:=Tryz.sizeOf36
 v22:=Tryz.zeroValue36
 t23:=Tryz.underlying36
 a23:=Tryz.isAgg36
 z23:=Tryz.sizeOf36
 v23:=Tryz.zeroValue36
 t25:=Tryz.underlying3
 a25:=Tryz.isAgg3
 z25:=Tryz.sizeOf3
 v25:=Tryz.zeroValue3
 t32:=Tryz.underlying228
 a32:=Tryz.isAgg228
 z32:=Tryz.sizeOf228
 v32:=Tryz.zeroValue228
 t35:=Tryz.underlying248
 a35:=Tryz.isAgg248
 z35:=Tryz.sizeOf248
 v35:=Tryz.zeroValue248
 t36:=Tryz.underlying249
 a36:=Tryz.isAgg249
 z36:=Tryz.sizeOf249
 v36:=Tryz.zeroValue249
 t41:=Tryz.underlying217
 a41:=Tryz.isAgg217
 z41:=Tryz.sizeOf217
 v41:=Tryz.zeroValue217
 t44:=Tryz.underlying255
 a44:=Tryz.isAgg255
 z44:=Tryz.sizeOf255
 v44:=Tryz.zeroValue255
 t46:=Tryz.underlying257
 a46:=Tryz.isAgg257
 z46:=Tryz.sizeOf257
 v46:=Tryz.zeroValue257
 t53:=Tryz.underlying260
 a53:=Tryz.isAgg260
 z53:=Tryz.sizeOf260
 v53:=Tryz.zeroValue260
 t57:=Tryz.underlying264
 a57:=Tryz.isAgg264
 z57:=Tryz.sizeOf264
 v57:=Tryz.zeroValue264
 t63:=Tryz.underlying266
 a63:=Tryz.isAgg266
 z63:=Tryz.sizeOf266
 v63:=Tryz.zeroValue266
 t64:=Tryz.underlying153
 a64:=Tryz.isAgg153
 z64:=Tryz.sizeOf153
 v64:=Tryz.zeroValue153}
open Go.RowKit Go.Maps Go.Sort Go.Shelf
attribute [local go_sem] Oper.semAt_some
abbrev CoI:={x:Int // (Lit.int .i64 x).wf=true}
def aFc(zs:List Int)(hw:∀j:Nat,(Lit.int .i64 (zs[j]?.getD 0)).wf=true)(j:Nat): CoI:=⟨zs[j]?.getD 0,hw j⟩
def oD(zs:List Int)(hw:∀j:Nat,(Lit.int .i64 (zs[j]?.getD 0)).wf=true)(o k:Nat): List CoI:=((List.range k).filter λj=>decide (j≠o)).map (aFc zs hw)
def OA(zs:List Int)(hw:∀j:Nat,(Lit.int .i64 (zs[j]?.getD 0)).wf=true)(o k:Nat): (oD zs hw o k).length<=k:=by
 unfold oD;rw[List.length_map];exact Nat.le_trans (List.length_filter_le _ _) (by rw[List.length_range];exact Nat.le_refl _)
def OB{zs:List Int}{hw:∀j:Nat,(Lit.int .i64 (zs[j]?.getD 0)).wf=true}{o k:Nat}(h:k≠o): oD zs hw o (k+1)=oD zs hw o k++[aFc zs hw k]:=by
 unfold oD;rw[List.range_succ,List.filter_append,List.map_append,List.filter_cons,if_pos (by simp[h])];rfl
def Vd{zs:List Int}{hw:∀j:Nat,(Lit.int .i64 (zs[j]?.getD 0)).wf=true}{o k:Nat}(h:k=o): oD zs hw o (k+1)=oD zs hw o k:=by
 unfold oD;rw[List.range_succ,List.filter_append,List.map_append,List.filter_cons,if_neg (by simp[h])];exact List.append_nil _
def aCz{zs:List Int}{hw:∀j:Nat,(Lit.int .i64 (zs[j]?.getD 0)).wf=true}{o k:Nat}(h:k<zs.length)(ho:k≠o): (oD zs hw o k).length<(oD zs hw o zs.length).length:=by
 have e:zs.length=k+1+(zs.length-(k+1)):=by omega
 have:oD zs hw o (k+1) <+: oD zs hw o zs.length:=by
  have g:∀m:Nat,oD zs hw o (k+1) <+: oD zs hw o (k+1+m):=λm=>by
   unfold oD;rw[List.range_add (n:=k+1),List.filter_append,List.map_append];exact List.prefix_append _ _
  rw[e];exact g _
 have:=this.length_le;rw[OB ho,List.length_append]at this;simp at this;omega
def Aw(n₀:Nat)(W:World)(B1 B2 o:Nat)(zs:List Int): Prop:=
 B1<n₀/\B2<n₀/\W.cell? ⟨B2,0,none⟩=some (.int .i64 o)/\∃(b1 o1 n1 c1:Nat) (a2:Option Addr) (c2:Nat),W.cell? ⟨B1,2,none⟩=some (.slice (some ⟨b1,o1,none⟩) n1 c1)/\o<n1/\b1<n₀/\
  W.cell? ⟨b1,o1+o,none⟩=some (.slice a2 zs.length c2)/\(zs.length=0\/∃b2 o2,a2=some ⟨b2,o2,none⟩/\b2<n₀/\∀j,j<zs.length->W.cell? ⟨b2,o2+j,none⟩=some (.int .i64 (zs[j]?.getD 0)))
def Aw.below {n₀:Nat} {A B:World} (h:Below n₀ A B) {B1 B2 o:Nat} {zs:List Int}:Aw n₀ A B1 B2 o zs->Aw n₀ B B1 B2 o zs:=by
 rintro⟨h1,h2,h3,b1,o1,n1,c1,a2,c2,h4,h5,h6,h7,h8⟩;refine⟨h1,h2,(h.cell (p:=⟨B2,0,none⟩) h2).trans h3,b1,o1,n1,c1,a2,c2,(h.cell (p:=⟨B1,2,none⟩) h1).trans h4,h5,h6,(h.cell (p:=⟨b1,o1+o,none⟩) h6).trans h7,?_⟩;rcases h8 with h8 | ⟨b2,o2,h8,h9,h10⟩
 .exact .inl h8
 .exact .inr ⟨b2,o2,h8,h9,λj hj=>(h.cell (p:=⟨b2,o2+j,none⟩) h9).trans (h10 j hj)⟩
def Aw.mono {n₀ n₁:Nat} (h:n₀<=n₁) {W:World} {B1 B2 o:Nat} {zs:List Int}:Aw n₀ W B1 B2 o zs->Aw n₁ W B1 B2 o zs:=by
 rintro⟨h1,h2,h3,b1,o1,n1,c1,a2,c2,h4,h5,h6,h7,h8⟩;refine⟨by omega,by omega,h3,b1,o1,n1,c1,a2,c2,h4,h5,by omega,h7,?_⟩;rcases h8 with h8 | ⟨b2,o2,h8,h9,h10⟩
 .exact .inl h8
 .exact .inr ⟨b2,o2,h8,by omega,h10⟩
set_option maxRecDepth 100000 in
set_option maxHeartbeats 4000000 in
def YU(n:Nat)(hn:1<=n)(l B1 B2 o n₀:Nat)(zs:List Int)(hw:∀j:Nat,(Lit.int .i64 (zs[j]?.getD 0)).wf=true)(hreach:zs.length<=1000000)(J Jx:List CoI->World->Prop)
  (hY:∀pre x W,J pre W->pre.length<(oD zs hw o zs.length).length->YieldAt Fence.wide (n-1) Tryz.prog l #[.int .i64 x.1] W λe W' =>
   (e=.returned (.bool true)/\J (pre++[x]) W'/\Below n₀ W W')\/(e=.returned (.bool false)/\Jx (pre++[x]) W'))
  (W:World) (hR:Aw n₀ W B1 B2 o zs) (h0:J [] W):
  CallsIn Fence.wide n Tryz.prog 110 #[.func (.yield l) #[] #[],.pointer (some ⟨B1,0,none⟩),.pointer (some ⟨B2,0,none⟩)] W λe W'=>(∃v,e=.returned v)/\
   ((∃ys,ys=oD zs hw o zs.length/\J ys W')\/(∃pre,True/\Jx pre W')):=by
 obtain⟨h1,h2,hO,b1,o1,n1,c1,a2,c2,hN,hon,hb1,hS,hZ⟩:=hR;refine callsIn_of_wp Tryz.func110 rfl trivial ?_ rfl;simp only[Tryz.ntmps110,List.size_toArray,List.length_cons,List.length_nil,Nat.reduceAdd,Nat.reduceSub,Array.replicate_succ,Array.replicate_zero,List.push_toArray,List.append_toArray,List.nil_append,List.cons_append];have ho63:(o:Int)<n1:=by omega
 gi_wp2
 gi_loopw [12] (λi wr=>∃k:Nat,k<=zs.length/\i=.int .i64 k/\J (oD zs hw o k) wr/\Below n₀ W wr)
  (λi _=>zs.length-(intOf i).toNat)
 case atStart=>exact⟨0,Nat.zero_le _,rfl,h0,Below.refl _ _⟩
 case round=>
  obtain⟨k,hk,rfl,hJs,hnx⟩:=hrel;by_cases hlt:k<zs.length
  .rcases hZ with hZ | ⟨b2,o2,rfl,hb2,hZ⟩
   .omega
   have hcx':wr.cell? ⟨b2,o2+k,none⟩=some (.int .i64 (zs[k]?.getD 0)):=(hnx.cell (p:=⟨b2,o2+k,none⟩) hb2).trans (hZ k hlt);have hO':wr.cell? ⟨B2,0,none⟩=some (.int .i64 o):=(hnx.cell (p:=⟨B2,0,none⟩) h2).trans hO;by_cases hko:k=o
   .subst hko
    gi_wp2
    refine⟨λ_ h=>(by cases h),?_⟩
    gi_wp2
    go_roundw
    case rel=>exact⟨k+1,by omega,by simp,by rw[Vd rfl];exact hJs,hnx⟩
    case measure=>simp[intOf];omega
   .obtain⟨fn,tmps,assign,body,hy,hR⟩:=hY _ (aFc zs hw k) wr hJs (aCz hlt hko);dsimp only[aFc]at hy;generalize hx:zs[k]?.getD 0=x at hcx' hy;have hne:((k:Int) != (o:Int))=true:=by rw[bne_iff_ne];omega
    gi_wp2
    refine hR.mono ?_;rintro e W3 (⟨rfl,hJ3,hk3⟩ | ⟨rfl,hJx3⟩)
    .gi_wp2
     go_roundw
     case rel=>exact⟨k+1,by omega,by simp,by rw[OB hko];exact hJ3,hnx.trans hk3⟩
     case measure=>simp[intOf];omega
    .gi_wp2
     refine bodyPost_ret (results_none rfl _ _ _) rfl ?_;exact⟨⟨_,rfl⟩,.inr ⟨_,trivial,hJx3⟩⟩
  .obtain rfl:k=zs.length:=by omega
   gi_wp2
   go_end0
   exact⟨⟨_,rfl⟩,.inl ⟨_,rfl,hJs⟩⟩
def YT(n:Nat)(hn:1<=n)(B1 B2 o n₀:Nat)(zs:List Int)(hw:∀j:Nat,(Lit.int .i64 (zs[j]?.getD 0)).wf=true)(hreach:zs.length<=1000000)(w:World)(hn₀:n₀<=w.heap.size)(hR:Aw n₀ w B1 B2 o zs):
  SeqStopsK Fence.wide n Tryz.prog 110 #[.pointer (some ⟨B1,0,none⟩),.pointer (some ⟨B2,0,none⟩)] (λx:CoI=>#[Value.int .i64 x.1]) (Below n₀) (λys=>ys=oD zs hw o zs.length) (λ_=>True) (oD zs hw o zs.length).length w:=λl J Jx W hW _ _ hY h0=>
 YU n hn l B1 B2 o n₀ zs hw hreach J Jx hY W (hR.below (hW.mono hn₀)) h0
set_option maxHeartbeats 1000000 in
def aCy(n:Nat)(x:Int)(w:World): CallsIn Fence.wide n Tryz.prog 114 #[.int .i64 x] w λe w'=>e=.returned (.bool (x != -1))/\w'=w:=by
 refine callsIn_of_wp Tryz.func114 rfl trivial ?_ rfl;simp only[Tryz.ntmps114,List.size_toArray,List.length_cons,List.length_nil,Nat.reduceAdd,Nat.reduceSub,Array.replicate_succ,Array.replicate_zero,List.push_toArray,List.append_toArray,List.nil_append,List.cons_append]
 gi_wp2
 go_ret
 exact⟨rfl,rfl⟩
def cell_of_box_c{W:World}{B:Nat}{v:Value}{t:TypeId}(h:W.heap[B]?=some (.cells #[v] t (0,0))): W.cell? ⟨B,0,none⟩=some v/\W.frozen? ⟨B,0,none⟩=false:=by
 constructor<;>simp[World.cell?,World.frozen?,h]
def cell_new_c(W:World)(v:Value)(t:TypeId): (W.alloc (.cells #[v] t)).cell? ⟨W.heap.size,0,none⟩=some v/\(W.alloc (.cells #[v] t)).frozen? ⟨W.heap.size,0,none⟩=false:=
 cell_of_box_c (World.alloc_heap_new W _)
def cell_alloc_c{W:World}{a:Addr}{v:Value}(o:Obj)(h:W.cell? a=some v): (W.alloc o).cell? a=some v:=cell_kept h (World.grownBy_alloc W o none) (λr e=>by cases e)
def coD(xs:List CoI): DataW Unit:=xs.foldl (λD x=>if x.1=-1 then D else D.put (.int .i64 x.1) (.lit (.bool true))) (.map [])
def OC(pre:List CoI)(x:CoI): coD (pre++[x])=if x.1=-1 then coD pre else(coD pre).put (.int .i64 x.1) (.lit (.bool true)):=by simp[coD]
set_option maxRecDepth 100000 in
set_option maxHeartbeats 4000000 in
def Qx(n:Nat)(hn:3<=n)(B1 B2 o:Nat)(zs:List Int)(hw:∀j:Nat,(Lit.int .i64 (zs[j]?.getD 0)).wf=true)(hreach:zs.length<=1000000)(w:World)(hR:Aw w.heap.size w B1 B2 o zs):
  CallsIn Fence.wide n Tryz.prog 113 #[.func (.func 110) #[] #[.pointer (some ⟨B1,0,none⟩),.pointer (some ⟨B2,0,none⟩)],.func (.func 114) #[] #[]] w λe W'=>e=.returned (.map (some (w.heap.size+1)))/\
   W'.ownsMap Tryz.prog 3 (plainElem (H:=Unit) Tryz.prog 4) (w.heap.size+1) (oD zs hw o zs.length).length (coD (oD zs hw o zs.length))/\Below w.heap.size w W':=by
 have h1:1<=n:=by omega
 have hmm:=@run_makeMap Tryz.prog;refine callsIn_of_wp_marks Tryz.func113 rfl trivial ?_ rfl;simp only[Tryz.ntmps113,List.size_toArray,List.length_cons,List.length_nil,Nat.reduceAdd,Nat.reduceSub,Array.replicate_succ,Array.replicate_zero,List.push_toArray,List.append_toArray,List.nil_append,List.cons_append]
 gi_wp2
 have cG:=cell_new_c w (.func (.func 114) #[] #[]) 143;have hm0:=World.ownsMap_made (w.alloc (.cells #[.func (.func 114) #[] #[]] 143)) Tryz.prog 3 (plainElem (H:=Unit) Tryz.prog 4);have cS:=cell_new_c ((w.alloc (.cells #[.func (.func 114) #[] #[]] 143)).alloc (.map #[] 0)) (.map (some (w.heap.size+1))) 165;simp only[World.size_alloc]at cS hm0
 have hB0:Below w.heap.size w (((w.alloc (.cells #[.func (.func 114) #[] #[]] 143)).alloc (.map #[] 0)).alloc (.cells #[.map (some (w.heap.size+1))] 165)):=(((Below.refl _ w).alloc (Nat.le_refl _) _).alloc (by simp) _).alloc (by simp;omega) _
 refine wpIn_rangeFunc_ownG rfl h1 (gf:=110) (lb:=#[.pointer (some ⟨B1,0,none⟩),.pointer (some ⟨B2,0,none⟩)]) rfl trivial (enters_of Tryz.func110 (by kernel_rfl) rfl)
  (YT (n-1) (by omega) B1 B2 o w.heap.size zs hw hreach _ (by simp;omega) (hR.below hB0)) belowK_t (belowK_b (by simp;omega)) (Below.refl _ _) (λ_=>rfl)
  (λpre W=>(W.cell? ⟨w.heap.size,0,none⟩=some (.func (.func 114) #[] #[])/\W.cell? ⟨w.heap.size+1+1,0,none⟩=some (.map (some (w.heap.size+1)))/\W.ownsMap Tryz.prog 3 (plainElem (H:=Unit) Tryz.prog 4) (w.heap.size+1) pre.length (coD pre))/\Below w.heap.size w W)
  (λ_ _ _=>False)
  (OwnFrom.and (λs A B row hs hg hr=>⟨cell_kept hs.1 hg (λr e=>(hr r e).2),cell_kept hs.2.1 hg (λr e=>(hr r e).2),hs.2.2.kept hg (λe=>by have:=(hr _ e.symm).1;simp at this;omega)⟩) (ownFrom_below (Nat.le_refl _) (by simp;omega)))
  (λ_ _ _ _ _ hs _ _=>hs)
  ⟨⟨cell_alloc_c _ (cell_alloc_c _ cG.1),cS.1,hm0.alloc _⟩,hB0⟩
  (λx=>{tmps:=#[.func (.func 110) #[] #[.pointer (some ⟨B1,0,none⟩),.pointer (some ⟨B2,0,none⟩)],.func (.func 114) #[] #[],undef,.pointer (some ⟨w.heap.size,0,none⟩),.map none,.pointer (some ⟨w.heap.size+1+1,0,none⟩),.int .i64 x.1,.map (some (w.heap.size+1)),.func (.func 110) #[] #[.pointer (some ⟨B1,0,none⟩),.pointer (some ⟨B2,0,none⟩)],.int .i64 x.1,undef,undef,undef,undef,undef,undef],defers:=[]}) ?assign ?body ?done ?stop
 case assign=>
  intro l x W K hK
  gi_wp2
  exact hK
 case body=>
  rintro l pre x W ⟨⟨hg,hc,hown⟩,hB⟩ hlt;have hlen:=OA zs hw o zs.length;have hmax:pre.length<maxLen:=by unfold maxLen;omega
  gi_wp2
  refine⟨trivial,λ_=>by omega,(CallsIn.inRound l (aCy _ x.1 _)).mono ?_⟩;rintro e w' ⟨rfl,rfl⟩
  gi_wp2_with (gi_at_mapUpdate;refine wpListIn_mapUpdate_own _ rfl _ _ _ 165 rfl 3 4 (Maps.int_keyed Tryz.underlying3) Tryz.underlying165 _ (w.heap.size+1) pre.length _ rfl hown hmax _ _ _ rfl rfl (Maps.keyOf_int_mk Tryz.underlying3 x.2) _ [] (plainElem_bool Tryz.underlying4 true) ?_;intro w1 hown1 hgrow1)
  .have hx:x.1≠-1:=by rename_i h;simpa using h
   obtain⟨es,ck,hh,_⟩:=hown;refine⟨KeepsFrom.of_grownBy hgrow1 (λj e=>by cases e;simp),(Below.refl _ _).grown hgrow1 hB.size (λk e=>by cases e;omega),
    ⟨cell_kept hg hgrow1 (λr e=>by cases e;exact⟨_,hh,rfl⟩),cell_kept hc hgrow1 (λr e=>by cases e;exact⟨_,hh,rfl⟩),by rw[OC,if_neg hx,List.length_append];exact hown1⟩,hB.grown hgrow1 hB.size (λk e=>by cases e;omega)⟩
  .have hx:x.1=-1:=by rename_i h;simpa using h
   exact⟨KeepsFrom.refl _ _,Below.refl _ _,⟨hg,hc,by rw[OC,if_pos hx,List.length_append];exact hown.mono (Nat.le_add_right _ _)⟩,hB⟩
 case done=>
  rintro D ys W hD rfl ⟨⟨hg,hc,hown⟩,hB⟩ hK
  gi_wp2
  refine⟨by simp,.inl ⟨_,_,rfl,run_takeDeferred hK,?_⟩⟩;exact⟨_,results_tmp rfl _ _ _,rfl,hown.kept (grownBy_putObj' _ D _) (λe=>by cases e;simp at hD;omega),hB.trans (belowK_b (w:=w) (Nat.le_refl _) W D _ _ (by simp at hD;omega) hK rfl rfl)⟩
 case stop=>
  rintro D c pre W _ _ h _;exact h.elim
def Tryz.sortsA (m:Nat):AnyZI.SortsIn Tryz.prog Tryz.sortedA_ren Fence.wide m:=
 ⟨λblk off cap ss W hH hblk hsz=>callsIn_wide.2 (AnyM.slices_Sort_int Tryz.sortA blk off cap ss W hH hblk hsz),
  λp cap W=>callsIn_wide.2 (AnyM.slices_Sort_int_none Tryz.sortA p cap W)⟩
def LN{y:Int}: ∀(xs:List CoI) (D:DataW Unit),IsMap D->(has (xs.foldl (λD x=>if x.1=-1 then D else D.put (.int .i64 x.1) (.lit (.bool true))) D) (.int .i64 y)=true↔has D (.int .i64 y)=true\/(y≠-1/\y∈xs.map Subtype.val))
 | [],D,_=>by simp
 | x::xs,D,hD=>by
  rw[List.foldl_cons];by_cases hx:x.1=-1
  .rw[if_pos hx,LN xs D hD,List.map_cons,List.mem_cons,hx];constructor
   .rintro(h | ⟨h,g⟩)
    .exact .inl h
    .exact .inr ⟨h,.inr g⟩
   .rintro(h | ⟨h,g | g⟩)
    .exact .inl h
    .exact absurd g h
    .exact .inr ⟨h,g⟩
  .rw[if_neg hx,LN xs _ (hD.put _ _),List.map_cons,List.mem_cons];by_cases hy:y=x.1
   .subst hy;rw[has_put_same hD (by simp[WideAt.IsKeyLit])];exact⟨λ_=>.inr ⟨hx,.inl rfl⟩,λ_=>.inl rfl⟩
   .rw[has_put_other (by simpa using hy)];constructor
    .rintro(h | ⟨h,g⟩)
     .exact .inl h
     .exact .inr ⟨h,.inr g⟩
    .rintro(h | ⟨h,g | g⟩)
     .exact .inl h
     .exact absurd g hy
     .exact .inr ⟨h,g⟩
set_option maxRecDepth 100000 in
set_option maxHeartbeats 4000000 in
def YV(cs:Array Value)(o:Nat)(zs:List Int)(hw:∀j:Nat,(Lit.int .i64 (zs[j]?.getD 0)).wf=true)(hreach:zs.length<=1000000)(gs:List Int)(hgs:gs.Pairwise (· < ·))(hmem:∀y,y∈gs↔y≠-1/\y∈(oD zs hw o zs.length).map Subtype.val)(w:World)
  (hR:∀w1,w1=(w.alloc (.cells cs 35)).alloc (.cells #[.int .i64 o] 3)->Aw w1.heap.size w1 w.heap.size (w.heap.size+1) o zs):
  Calls Tryz.prog 45 #[.agg cs,.int .i64 o] w λe w'=>∃(v:Value),e=.returned v/\
   w'.ownsRow w.heap.size 3 1 v gs.length (gs.map encZ)/\(v=.slice none 0 0↔gs=[])/\Below w.heap.size w w':=by
 refine(callsIn_wide (n:=6)).1 ?_;refine callsIn_of_wp Tryz.func45 rfl trivial ?_ rfl;simp only[Tryz.ntmps45,List.size_toArray,List.length_cons,List.length_nil,Nat.reduceAdd,Nat.reduceSub,Array.replicate_succ,Array.replicate_zero,List.push_toArray,List.append_toArray,List.nil_append,List.cons_append]
 gi_wp2
 obtain⟨w1,hw1⟩:∃w1,(w.alloc (.cells cs 35)).alloc (.cells #[.int .i64 o] 3)=w1:=⟨_,rfl⟩;have hR:=hR w1 hw1.symm;have hs1:w1.heap.size=w.heap.size+1+1:=by rw[<- hw1];simp
 have hB1:Below w.heap.size w w1:=by rw[<- hw1];exact((Below.refl _ w).alloc (Nat.le_refl _) _).alloc (by simp) _
 rw[hw1];refine⟨trivial,(Qx 5 (by omega) w.heap.size (w.heap.size+1) o zs hw hreach w1 hR).mono ?_⟩;rintro e w2 ⟨rfl,hown,hB2⟩;rw[hs1]at hB2 hown;have hcl:=OA zs hw o zs.length;have hmax:Maps.size (coD (oD zs hw o zs.length))<=maxLen:=Nat.le_trans hown.size_le (by unfold maxLen;omega)
 have hbytes:Maps.size (coD (oD zs hw o zs.length))*8<=140737488355328:=Nat.le_trans (Nat.mul_le_mul_right 8 hown.size_le) (by omega);have hbl:=hown.lt;have hseq:SeqGives Fence.wide 2 Tryz.prog 172 #[.pointer (some ⟨w2.heap.size,0,none⟩)] encZ (λss=>ss.Perm (intKeys (coD (oD zs hw o zs.length)))) (Maps.size (coD (oD zs hw o zs.length))) (w2.alloc (.cells #[.map (some (w.heap.size+1+1+1))] 165)):=
  AnyZI.keys_gives (ρ:=Tryz.keysA_ren) {Tryz.keysA with} Fence.wide _ trivial rfl (by omega) w2.heap.size (w.heap.size+1+1+1) (oD zs hw o zs.length).length (coD (oD zs hw o zs.length)) _ (by simp) (by simp) (by
   obtain⟨es,clock,hb,Ft,hs,hD⟩:=hown;exact⟨es,clock,(Below.heap_alloc _ _ _ hbl).trans hb,Ft,hs,hD⟩)
 have cK:∀mb W,CallsIn Fence.wide 5 Tryz.prog 112 #[.map mb] W λe w'=>e=.returned (.func (.func 172) #[] #[.pointer (some ⟨W.heap.size,0,none⟩)])/\w'=W.alloc (.cells #[.map mb] 165):=λmb W=>AnyZI.keys_in Tryz.keysA Fence.wide 5 trivial rfl mb W
 have cS:=AnyZI.sorted_in Tryz.sortedA Fence.wide 5 trivial trivial trivial trivial rfl (by omega) (Tryz.sortsA _) (enters_of Tryz.func171 (by kernel_rfl) rfl) 172 #[.pointer (some ⟨w2.heap.size,0,none⟩)] trivial (enters_of Tryz.func172 (by kernel_rfl) rfl) _ _ hmax hbytes _ hseq
 change CallsIn _ _ Tryz.prog 111 _ _ _ at cS
 have hfK:Fence.wide.fn 112:=trivial;have hfS:Fence.wide.fn 111:=trivial
 gi_wp2_with (first
  | (gi_at_call 112;refine(cK _ _).mono ?_;rintro e w' ⟨rfl,rfl⟩)
  | (gi_at_call 111;refine cS.mono ?_;rintro e w' ⟨v,ss,rfl,hS,hrow,hnil,hb⟩))
 go_ret
 have hP:gs.Perm (intKeys (coD (oD zs hw o zs.length))):=CollectedI.perm (left:=λ_=>false) ⟨hgs.imp (λh=>Int.ne_of_lt h),λx=>by
  rw[hmem x];unfold coD;rw[LN _ _ isMap_empty];exact⟨λh=>⟨.inr h,rfl⟩,λ⟨h,_⟩=>h.resolve_left (by simp[has_eq])⟩⟩ hown (Maps.int_keyed Tryz.underlying3) Tryz.underlying3 (λ_=>rfl)
 have hP:gs.Perm ss:=hP.trans hS.symm;have hM:ss.mergeSort (λx y=>decide (x<=y))=gs:=(mergeSort_of_perm_i hP.symm).trans (List.mergeSort_of_pairwise (hgs.imp (λh=>decide_eq_true (Int.le_of_lt h))));rw[hM]at hrow;have hl:=hP.length_eq;rw[<- hl]at hrow;have hB3:Below w.heap.size w w2:=hB1.trans (hB2.mono (by omega));have hs2:=hB3.size
 refine⟨v,rfl,ownsRow_base_a hrow (by simp;omega),hnil.trans ⟨λh=>(by subst h;exact hP.eq_nil),λh=>(by subst h;exact hP.symm.eq_nil)⟩,(hB3.alloc (by omega) _).trans (hb.mono (by simp;omega))⟩
end Go.Proofs
namespace Go.Eng.Sv
open Go.Proofs
open Go.RowKit
def V4{x:Int}(h:-1<=x/\x<=1000000): (Lit.int .i64 x).wf=true:=by
 have e:IntKind.min .i64=-9223372036854775808:=by decide
 have b:IntKind.max .i64=9223372036854775807:=by decide
 simp only[Lit.wf,e,b,qC,qE];omega
def Bn: oR:=by
 rintro p o ⟨o0,o1,o2,o3⟩ w D E us hD hG O hH;obtain⟨u1,us,rfl,⟨ps,rfl,hps⟩,u2,us,rfl,h2,rfl⟩:=O;obtain⟨v1,_,rfl,_,v2,_,rfl,_,v3,_,rfl,h3,v4,_,rfl,_,rfl⟩:=hps;have h2:[u2]=[Value.int .i64 o]:=h2;cases h2;obtain⟨ao,r,e3,_,_,hsp,x⟩:=h3;cases e3;have at_:(p.2.2.1)[o.toNat]?=some (ca p o):=by
  unfold ca;rw[qA,qB Z,qK]
 obtain⟨a,ue,rfl,ha,hca,bo,cp2,rfl,_,_,V,X⟩:=x o.toNat (ca p o) at_;have sp:=hsp a rfl Z;have hw:∀j:Nat,(Lit.int .i64 ((ca p o)[j]?.getD 0)).wf=true:=λj=>by
  have:=o3 j;rw[qA]at this;exact V4 this
 have eo:((o.toNat:Nat):Int)=o:=Z;have mem:∀y,y∈tU p o↔y≠-1/\y∈(oD (ca p o) hw o.toNat (ca p o).length).map Subtype.val:=λy=>by
  unfold tU Wh oD;rw[EY,yS,qE,and_comm,List.map_map];have e:((List.range (ca p o).length).filter λd:Nat=>decide ((d:Int)≠o))=(List.range (ca p o).length).filter λd=>decide (d≠o.toNat):=by
   congr 1;funext d
   rw[qBk];omega
  rw[e];have f:(λd:Nat=>(ca p o).getD d 0)=Subtype.val∘aFc (ca p o) hw:=by
   funext d
   exact qA
  rw[f]
 have hc:=YV #[v1,v2,.slice (some a) p.2.2.1.length r,v4] o.toNat (ca p o) hw Z (tU p o) (lU _) mem w λw1 z=>by
  have hB:Go.RowKit.Below w.heap.size w w1:=by rw[z];exact((Go.RowKit.Below.refl _ w).alloc (qJ _) _).alloc (by simp) _
  have s1:w1.heap.size=w.heap.size+1+1:=by rw[z];simp
  have c1:w1.heap[w.heap.size]?=some (.cells #[v1,v2,.slice (some a) p.2.2.1.length r,v4] 35 (0,0)):=by
   rw[z];exact(Go.RowKit.Below.heap_alloc _ _ _ (by simp)).trans (World.alloc_heap_new w _)
  have c2:w1.heap[w.heap.size+1]?=some (.cells #[.int .i64 o] 3 (0,0)):=by
   have:=World.alloc_heap_new (w.alloc (.cells #[v1,v2,.slice (some a) p.2.2.1.length r,v4] 35)) (.cells #[.int .i64 ((o.toNat:Nat):Int)] 3);rw[yE,eo]at this;rw[z,eo];exact this
  refine⟨Z,Z,by rw[eo];simp[World.cell?,c2],a.block,a.off,p.2.2.1.length,r,bo,cp2,?_,Z,by have:=hD _ ha;omega,?_,?_⟩
  .obtain⟨b,f,s⟩:=a;have sp:s=none:=sp;subst sp;simp[World.cell?,c1]
  .have:=hca 0 _ rfl;exact(hB.cell (p:=⟨a.block,a.off+o.toNat*1+0,none⟩) (hD _ ha)).trans this |> λh=>by
    rw[show a.off+o.toNat*1+0=a.off+o.toNat by omega]at h;exact h
  .by_cases hz:(ca p o).length=0
   .exact .inl hz
   .have at0:(ca p o)[0]?=some ((ca p o).getD 0 0):=by
     rw[qA,qB Z,qK]
    obtain⟨A,_,e2,hb2,_⟩:=X 0 _ at0;subst e2;have G:=V A rfl Z;refine .inr ⟨A.block,A.off,?_,by have:=hD _ hb2;omega,λj T=>?_⟩
    .obtain⟨b,f,s⟩:=A;have G:s=none:=G;subst G;rfl
    .have atj:(ca p o)[j]?=some ((ca p o)[j]?.getD 0):=by
      rw[qB T,qK]
     obtain⟨a3,ue3,e3,hb3,hc3,L⟩:=X j _ atj;cases e3;have L:ue3=[Value.int .i64 ((ca p o)[j]?.getD 0)]:=L;subst L;have:=hc3 0 _ rfl;have h:=(hB.cell (p:=⟨A.block,A.off+j*1+0,none⟩) (hD _ hb3)).trans this;rw[show A.off+j*1+0=A.off+j by omega]at h;exact h
 rw[eo]at hc;refine hc.mono ?_;rintro e w' ⟨v,rfl,x,hnil,hB⟩;refine⟨v,λb=>D b\/iH w w' b,E,rfl,⟨(Chg.refl _ _).below hB,λ_ h=>.inl h,λb h=>h.imp id λh=>.inl h.1,λb h=>h.elim (λh=>qX (hD b h) hB.size) λh=>h.2,Held.none _ _ _ _,λnm b b' g=>(by cases g),λnm b b' g=>(by cases g),λnm b _ g=>(by cases g),λnm i b g=>(lN g).elim⟩,?_⟩;show ∃(ao:Option Addr) (r:Nat),[v]=[.slice ao (tU p o).length r]/\_
 obtain⟨_,⟨rfl,h0⟩ | ⟨g,r,cur,rfl,hg,hb,hcap,_,hsz,htk⟩⟩:=x
 .have h0:tU p o=[]:=vW h0;rw[h0];exact⟨none,0,rfl,qJ _,λ_=>rfl,λ_ h=>(by cases h),λi y h=>(by cases h)⟩
 .refine⟨_,r,rfl,hcap,λh=>(by cases h),λa h _=>(by cases h;rfl),λi y hy=>⟨_,[Value.int .i64 y],rfl,.inr ⟨hg,(vT.1 hb).1⟩,λj u T=>?_,rfl⟩⟩;cases j with
  | succ j=>cases T
  | zero=>
   have T:some (Value.int .i64 y)=some u:=T;cases T;show w'.cell? ⟨g,0+i*1+0,none⟩=_;have hi:i<(tU p o).length:=(qG.1 hy).1;have e:(cur.toList.take ((tU p o).length*1))[i]?=some (Value.int .i64 y):=by
    rw[htk,qR,hy];rfl
   rw[List.getElem?_take_of_lt Z,yM]at e;have hi2:0+i*1+0<cur.size:=Z;rw[show 0+i*1+0=i by omega]at hi2 ⊢;simp[World.cell?,hb,e]
end Go.Eng.Sv
namespace Go.Eng.In
open Go.Proofs
abbrev Of: Ty:=.pair S (.pair I (.pair I (.pair I (.pair I (.pair I (.sl S))))))
abbrev Ln: Ty:=.pair S (.pair I (.pair I (.pair I (.pair I I))))
abbrev Kl: Ty:=.pair S (.pair I I)
abbrev N: Ty:=.pair (.sl C) (.pair (.sl S) (.pair (.sl S) (.pair (.sl Of) (.pair (.sl Ln) (.sl Kl)))))
abbrev Cal:=Int×List Bool×Li
abbrev Off:=ByteArray×Int×Int×Int×Int×Int×List ByteArray
abbrev Line:=ByteArray×Int×Int×Int×Int×Int
abbrev Cla:=ByteArray×Int×Int
abbrev Net:=List Cal×List ByteArray×List ByteArray×List Off×List Line×List Cla
def o9(c:Cal): Bool:=gq c.1 c.2.1 c.2.2
def mO(n:Net)(o:Off): Bool:=(btw o.2.2.1 0 ((n.1.length:Int)-1)&&btw o.2.2.2.2.1 1 1000)&&btw o.2.2.2.2.2.1 1 1000
def oQ(n:Net)(x:Int): Bool:=btw x 0 ((n.2.2.2.1.length:Int)-1)
def mU(n:Net)(l:Line): Bool:=((oQ n l.2.1&&oQ n l.2.2.1)&&btw l.2.2.2.1 0 1439)&&btw l.2.2.2.2.1 1 100000
def nj(k:Cla): Bool:=btw k.2.1 0 1439&&btw k.2.2 0 1439
def usF(n:Net): Bool:=((n.1.all o9&&n.2.2.2.1.all (mO n))&&n.2.2.2.2.1.all (mU n))&&n.2.2.2.2.2.all nj
def F5(n:Net): Prop:=((n.1.length<=2000000000000000/\n.2.2.2.1.length<=2000000000000000)/\n.2.2.2.2.1.length<=2000000000000000)/\n.2.2.2.2.2.length<=2000000000000000
def Y5(n:Net)(k:Int): Prop:=0<=k/\k<=n.1.length/\(n.1.take k.toNat).all o9=true
def XU(n:Net)(k:Int): Prop:=0<=k/\k<=n.2.2.2.1.length/\(n.2.2.2.1.take k.toNat).all (mO n)=true
def Yb(n:Net)(k:Int): Prop:=0<=k/\k<=n.2.2.2.2.1.length/\(n.2.2.2.2.1.take k.toNat).all (mU n)=true
def YZ(n:Net)(k:Int): Prop:=0<=k/\k<=n.2.2.2.2.2.length/\(n.2.2.2.2.2.take k.toNat).all nj=true
def fE(n:Net)(l:Int): Line:=n.2.2.2.2.1.getD l.toNat (⟨#[]⟩,0,0,0,0,0)
def l7(n:Net)(o l:Int): Bool:=decide (l=-1)||(decide (l<n.2.2.2.2.1.length)&&decide ((fE n l).2.1=o))
def oM(n:Net)(o:Int)(r:Li): Bool:=r.all (l7 n o)
def Om(n:Net)(p:Plan): Bool:=(decide (p.2.2.1.length=n.2.2.2.1.length)&&decide (p.2.2.2.length=n.2.2.2.2.2.length))&&(List.range p.2.2.1.length).all λi=>oM n i (p.2.2.1.getD i [])
def nxP(p:Plan): Prop:=p.2.2.1.length<=2000000000000000/\∀r∈p.2.2.1,r.length<=2000000000000000/\∀x∈r,-1<=x
def aFU(n:Net)(p:Plan)(k:Int): Prop:=0<=k/\k<=p.2.2.1.length/\∀i:Nat,(i:Int)<k->oM n i (p.2.2.1.getD i [])=true
def XX(n:Net)(o:Int)(r:Li)(k:Int): Prop:=0<=k/\k<=r.length/\(r.take k.toNat).all (l7 n o)=true
def lg(c:Li×Int): Bool:=gv c.1 c.2&&pj c.1
def Ek(c:Li×Int): Int:=if gv c.1 c.2 then 190 else 180
def HE(c:Li×Int): Prop:=Ua c.1
def LM(args:List AV)(m:Mem): Option jG:=match args,m with
 | [.ifc t (.dat (.int .i64) e)],[]=>if t=39 then some ⟨True,.dat I e,[]⟩else none
 | _,_=>none
def aIw: Kt:=kOr 70 LM aJt
def c9: Cfg:=PX aIw (λt=>t==12) KP8 (λf=>f==79||f==142)
abbrev Nx:=al [.val I] (λ_=>True) λ(x,_)=>.dat .bool (btw x 0 1439)
abbrev Nw:=al [.val I,.bp N] (λ(_,n,_)=>F5 n) λ(x,n,_)=>.dat .bool (oQ n x)
def aFH: Kt:=kOr 147 Nx <|
 kOr 149 Nw aIw
def usA(n:Net): Ann:=⟨λb s=>match b with
 | 4=>some {α:=Int,inv:=λk=>Y5 n k,st:=λk=>put {ic s with mem:=[]} [(19,.dat I k),(6,.top)],μ:=λk=>Dc (Di (Df n.1) k)}
 | 10=>some {α:=Int,inv:=λk=>XU n k,st:=λk=>put {ic s with mem:=[]} [(32,.dat I k),(8,.top)],μ:=λk=>Dc (Di (Df n.2.2.2.1) k)}
 | 16=>some {α:=Int,inv:=λk=>Yb n k,st:=λk=>put {ic s with mem:=[]} [(64,.dat I k),(10,.top)],μ:=λk=>Dc (Di (Df n.2.2.2.2.1) k)}
 | 22=>some {α:=Int,inv:=λk=>YZ n k,st:=λk=>put {ic s with mem:=[]} [(99,.dat I k),(12,.top)],μ:=λk=>Dc (Di (Df n.2.2.2.2.2) k)}
 | _=>none,λ_ _=>none,λ_ _=>none⟩
def aJN(n:Net)(p:Plan): Ann:=⟨λb s=>match b with
 | 4=>some {α:=Int,inv:=λk=>aFU n p k,st:=λk=>put (ic s) [(38,.dat I k)],μ:=λk=>Dc (Di (Df p.2.2.1) k)}
 | 7=>match s.sig.T 5,s.sig.T 6 with
  | .dat (.int .i64) o,.dat (.sl (.int .i64)) r=>some {α:=Int,inv:=λk=>XX n o r k,st:=λk=>put (ic s) [(45,.dat I k)],μ:=λk=>Dc (Di (Df r) k)}
  | _,_=>none
 | _=>none,λ_ _=>none,λ_ _=>none⟩
def Qv: ∀args m c,LM args m=some c->ah Tryz.prog iR 70 args m c:=by
 intro args m c h;unfold LM at h;split at h
 .split at h
  .rename_i e;subst e;cases h;exact aDO _
  .cases h
 .cases h
def Zl: ai Tryz.prog iR aIw:=af Qv aIm
def Zx(s:Int)(l:Li): ah Tryz.prog iR 71 [.agg [.dat R l,.dat I s]] [] ⟨HE (l,s)/\lg (l,s)=true,.tup [.agg [.dat I (aA l).1,.dat I (aA l).2.1,.dat M (aA l).2.2.1,.dat (.sl M) (aA l).2.2.2],.ptr 1 1 0 0],[(1,.var [.dat R (cy l)])]⟩/\
  dt Tryz.prog iR 71 [.agg [.dat R l,.dat I s]] [] ⟨HE (l,s),lg (l,s),d6 39 (Ek (l,s))⟩:=by
 refine zM (c:=c9) (A:=az) (q:=⟨HE (l,s),lg (l,s),d6 39 (Ek (l,s))⟩) Zl iI hm aFA (p:=let b:=(l,s);let e:=lg b;let g:=chainOf (Value.iface 39 (Value.int .i64 (Ek b)));let j:=(aA l).1;let h:=(aA l).2;let r:=h.1;let i:=h.2;let f:=i.1;let u:=i.2;true/\(HE b->Ua l/\(true->True/\(gv l s=false->e=false/\true/\chainOf (Value.iface 39 (Value.int .i64 (180:Int)))=g))/\((true->gv l s)->(True/\gv l s)/\(true->fb l/\(pj l=false->e=false/\true/\chainOf (Value.iface 39 (Value.int .i64 (190:Int)))=g))/\((true->pj l)->(fb l/\pj l)/\T4 1 1 0 1 0 1 0 (e/\L3 1 0 j r f u 1 0 0 (T3 (cy l))))))) ⟨rfl,λe=>?_⟩
 refine Z9 ?_;refine⟨e,λh=>⟨?_,?_⟩,λh=>⟨h,⟨?_,λb=>⟨?_,?_⟩⟩,λb=>⟨⟨?_,b⟩,?_⟩⟩⟩
 .unfold lg;rw[h];rfl
 .unfold Ek;rw[h];rfl
 .exact⟨by unfold gv at h;rw[qC]at h;exact h.1,e⟩
 .unfold lg;rw[b];simp
 .unfold Ek;rw[h];rfl
 .exact⟨by unfold gv at h;rw[qC]at h;exact h.1,e⟩
 .unfold lg;rw[h,b];rfl
def aGw: eO 147 Nx:=ae λ((x:Int),_)=>zE (A:=az) (p:=let b:=btw x 0 1439;(True->True/\T3 b)) Zl λ_=>⟨trivial,rfl,trivial⟩
def aGv: eO 149 Nw:=ae λ((x:Int),(n:Net),_)=>by
 refine zE (A:=az) (p:=let b:=Df n.2.2.2.1-1;(F5 n->inR .i64 b/\True/\btw x 0 b=oQ n x/\True)) Zl λb=>⟨aE ?_,trivial,rfl,trivial⟩
 have:=b.1.1.2;simp only[Di,Df];omega
def C6: ai Tryz.prog iR aFH:=af aGw<|af aGv Zl
def rn{α:Type}{p:α->Bool}{l:List α}{k:Int}(d:α)(g:0<=k)(f:k<l.length)(e:(l.take k.toNat).all p=true)(b:p (l.getD k.toNat d)=true): (l.take (k+1).toNat).all p=true:=by
 rw[show(k+1).toNat=k.toNat+1 by omega,wU,gZ,e];rw[qA,qB (by omega:k.toNat<l.length)]at b;rw[qB (by omega:k.toNat<l.length)];simpa using b
def Jn{α:Type}{p:α->Bool}{l:List α}{k:Int}(d:α)(g:0<=k)(f:k<l.length)(b:p (l.getD k.toNat d)=false): l.all p=false:=by
 cases e:l.all p with
 | false=>rfl
 | true=>rw[qO.1 e _ (bg (d:=d) Z)]at b;cases b
def zu{α:Type}{p:α->Bool}{l:List α}{k:Int}(b:(l.take k.toNat).all p=true)(e:¬k<l.length): l.all p=true:=by
 rwa [qN Z]at b
abbrev Ui:=al [.ptr N] (λ(n,_)=>F5 n) λ(n,_)=>.dat .bool (usF n)
def aJz: eO 80 Ui:=ae λ((n:Net),_)=>by
 refine zE (A:=(lvA [(4,[1,2,3,4,6,8,10,12,17,18,19,30,31,32,62,63,64,97,98,99]),(10,[1,2,3,4,8,10,12,30,31,32,62,63,64,97,98,99]),(16,[1,2,3,4,10,12,62,63,64,97,98,99]),(22,[2,3,12,97,98,99])] (usA n))) (p:=let b:=n.2.2.2;let e:=Df n.1;let h:=Df b.1;let z:=e-1;let L:=Df b.2.1;let c11:=((0:Int),(0:Int));let u:=Df b.2.2;(F5 n->(∃x,Y5 n x/\Q3 n n n.1 e (0=x/\True))/\∀(x:Int),let c16:=Du n.1 (Dc x) ((0:Int),Dt Bool,Dt Int);let c18:=Dj (gq c16.1 c16.2.1 c16.2.2);let c19:=x+1;Y5 n x->(Dp x e->0<=x/\x<e/\Q3 1 0 1 0 (True/\(c18->false=usF n/\True)/\(c18=false->inR .i64 c19/\∃y,Y5 n y/\(Q3 n n n.1 e (c19=y/\True))/\Dc (e-y)<Dc (e-x))))/\(Dp x e=false->(∃x,XU n x/\Q3 n n b.1 h (0=x/\True))/\∀(x:Int),let c20:=(Du b.1 (Dc x) (ByteArray.mk #[],(0:Int),(0:Int),(0:Int),(0:Int),(0:Int),Dt ByteArray)).2.2;let c21:=Dj (btw c20.1 0 z);let v:=Dj c21;let c24:=Ea c21 true (Dj (btw c20.2.2.1 1 1000));let r:=Dj c24;let c26:=Ea c24 true (Dj (btw c20.2.2.2.1 1 1000));let c27:=x+1;XU n x->(Dp x h->0<=x/\x<h/\T2 1 0 1 1 0 (inR .i64 z/\True/\(v->1=1)/\L4 v ((v->1=1)/\(v->0=0)/\L4 v ((v->True)/\L4 v ((Dh true v->v)/\(r->1=1)/\L4 r ((r->1=1)/\(r->0=0)/\L4 r ((r->True)/\L4 r ((Dh true r->r)/\(c26->false=usF n/\True)/\(c26=false->inR .i64 c27/\∃y,XU n y/\(Q3 n n b.1 h (c27=y/\True))/\Dc (h-y)<Dc (h-x))))))))))/\(Dp x h=false->(∃x,Yb n x/\Q3 n n b.2.1 L (0=x/\True))/\∀(x:Int),let O:=(Du b.2.1 (Dc x) (ByteArray.mk #[],(0:Int),(0:Int),(0:Int),c11)).2;let c29:=Dj (oQ n O.1);let j:=Dj c29;let c32:=Ea c29 true (Dj (oQ n O.2.1));let i:=Dj c32;let c35:=Ea c32 true (Dj (btw O.2.2.1 0 1439));let g:=Dj c35;let c37:=Ea c35 true (Dj (btw O.2.2.2.1 1 100000));let c38:=x+1;
  Yb n x->(Dp x L->0<=x/\x<L/\T2 1 0 1 1 0 (F5 n/\(j->1=1)/\L4 j ((j->1=1)/\(j->0=0)/\Q2 j ((j->F5 n)/\L4 j ((Dh true j->j)/\(i->1=1)/\L4 i ((i->1=1)/\(i->0=0)/\Q2 i ((i->True)/\L4 i ((Dh true i->i)/\(g->1=1)/\L4 g ((g->1=1)/\(g->0=0)/\L4 g ((g->True)/\L4 g ((Dh true g->g)/\(c37->false=usF n/\True)/\(c37=false->inR .i64 c38/\∃y,Yb n y/\(Q3 n n b.2.1 L (c38=y/\True))/\Dc (L-y)<Dc (L-x)))))))))))))/\(Dp x L=false->(∃x,YZ n x/\L5 b.2.2 u (0=x/\True))/\∀(x:Int),let c39:=(Du b.2.2 (Dc x) (ByteArray.mk #[],c11)).2;let c40:=Dj (btw c39.1 0 1439);let f:=Dj c40;let c42:=Ea c40 true (Dj (btw c39.2 0 1439));let c43:=x+1;YZ n x->(Dp x u->0<=x/\x<u/\T2 1 0 1 1 0 (True/\(f->1=1)/\L4 f ((f->1=1)/\(f->0=0)/\Q2 f ((f->True)/\L4 f ((Dh true f->f)/\(c42->false=usF n/\True)/\(c42=false->inR .i64 c43/\∃y,YZ n y/\(L5 b.2.2 u (c43=y/\True))/\Dc (u-y)<Dc (u-x)))))))/\(Dp x u=false->true=usF n/\True)))))) C6 λhp=>?_
 obtain⟨⟨⟨l1,l2⟩,l3⟩,l4⟩:=id hp;obtain⟨cs,ns,os,fs,T,V⟩:=n;simp only at l1 l2 l3 l4;refine Z9 ?_;refine⟨⟨qH _,qM _,rfl⟩,λx hx=>?_⟩;have hx0:0<=x:=hx.1;have hx1:x<=cs.length:=hx.2.1;refine⟨λb=>⟨hx0,b,λe=>?_,λe=>⟨aE Z,x+1,⟨Z,by show x+1<=(cs.length:Int);omega,rn (0,[],[]) hx0 b hx.2.2 e⟩,rfl,Z⟩⟩,λG=>?_⟩
 .unfold usF;rw[Jn (p:=o9) (0,[],[]) hx0 b e];rfl
 have e1:=zu hx.2.2 G;refine⟨⟨qH _,qM _,rfl⟩,λy hy=>?_⟩;have hy0:0<=y:=hy.1;have hy1:y<=fs.length:=hy.2.1;refine⟨λb=>⟨hy0,b,aE Z,λe=>?_,λe=>⟨aE Z,y+1,⟨Z,by show y+1<=(fs.length:Int);omega,rn (⟨#[]⟩,0,0,0,0,0,[]) hy0 b hy.2.2 ?_⟩,rfl,Z⟩⟩,λG=>?_⟩
 .have:mO (cs,ns,os,fs,T,V) (fs.getD y.toNat (⟨#[]⟩,0,0,0,0,0,[]))=false:=by
   unfold mO;rcases e with(h | h) | h<;>rw[h]<;>simp
  unfold usF;rw[Jn (p:=mO (cs,ns,os,fs,T,V)) (⟨#[]⟩,0,0,0,0,0,[]) hy0 b this];simp
 .unfold mO;rw[e.1.1,e.1.2,e.2];rfl
 have e2:=zu hy.2.2 G;refine⟨⟨qH _,qM _,rfl⟩,λz hz=>?_⟩;have X:0<=z:=hz.1;have hz1:z<=T.length:=hz.2.1;refine⟨λb=>⟨X,b,hp,λ_=>hp,λe=>?_,λe=>⟨aE Z,z+1,⟨Z,by show z+1<=(T.length:Int);omega,rn (⟨#[]⟩,0,0,0,0,0) X b hz.2.2 ?_⟩,rfl,Z⟩⟩,λG=>?_⟩
 .have:mU (cs,ns,os,fs,T,V) (T.getD z.toNat (⟨#[]⟩,0,0,0,0,0))=false:=by
   unfold mU;rcases e with((h | h) | h) | h<;>rw[h]<;>simp
  unfold usF;rw[Jn (p:=mU (cs,ns,os,fs,T,V)) (⟨#[]⟩,0,0,0,0,0) X b this];simp
 .unfold mU;rw[e.1.1.1,e.1.1.2,e.1.2,e.2];rfl
 have e3:=zu hz.2.2 G;refine⟨⟨qH _,qM _,rfl⟩,λu hu=>?_⟩;have hu0:0<=u:=hu.1;have hu1:u<=V.length:=hu.2.1;refine⟨λb=>⟨hu0,b,λe=>?_,λe=>⟨aE Z,u+1,⟨Z,by show u+1<=(V.length:Int);omega,rn (⟨#[]⟩,0,0) hu0 b hu.2.2 ?_⟩,rfl,Z⟩⟩,λG=>?_⟩
 .have:nj (V.getD u.toNat (⟨#[]⟩,0,0))=false:=by
   unfold nj;rcases e with h | h<;>rw[h]<;>simp
  unfold usF;rw[Jn (p:=nj) (⟨#[]⟩,0,0) hu0 b this];simp
 .unfold nj;rw[e.1,e.2];rfl
 have e4:=zu hu.2.2 G;unfold usF;rw[e1,e2,e3,e4];rfl
def aET{n:Net}{p:Plan}{i:Nat}(b:i<p.2.2.1.length)(h:oM n i (p.2.2.1.getD i [])=false): Om n p=false:=by
 cases e:Om n p with
 | false=>rfl
 | true=>
  unfold Om at e;rw[qC,qO]at e;rw[e.2 i (qZ.2 b)]at h;cases h
abbrev N5:=al [.ptr N,.ptr Pl] (λ(n,p,_)=>F5 n/\nxP p) λ(n,p,_)=>.dat .bool (Om n p)
def aG6: eO 81 N5:=ae λ((n:Net),(p:Plan),_)=>by
 refine zE (A:=(lvA [(4,[0,4,5,6,8,36,37,38,43,44,45]),(7,[0,4,5,6,8,36,37,38,43,44,45])] (aJN n p))) (p:=let v:=n.2.2.2;let i:=p.2.2.1;let g:=Df i;let A:=Dw g (Df v.1);let j:=Dj A;let c8:=Ea A true (Dw (Df p.2.2.2) (Df v.2.2));let c10:=Df v.2.1;(F5 n/\nxP p->L4 j (Q4 j (Q4 j (Q4 j ((Dh true j->j)/\(c8->false=Om n p/\True)/\(c8=false->(∃x,aFU n p x/\L7 n i g (0=x/\True))/\∀(x:Int),let f:=Du i (Dc x) [];let h:=Df f;let G:=x+1;aFU n p x->(Dp x g->0<=x/\x<g/\(∃b,XX n x f b/\T5 n x f i g x f h (0=b/\True))/\∀(b:Int),let r:=Du f (Dc b) 0;let e:=Dw r (-1);let X:=Ed r c10;let u:=Dj X;let z:=Dh e u;let V:=Ea e (Ea X true (Dw (Du v.2.1 (Dc r) (ByteArray.mk #[],(0:Int),(0:Int),(0:Int),(0:Int),(0:Int))).2.1 x)) false;let T:=b+1;XX n x f b->(Dp b h->0<=b/\b<h/\L4 e (Q4 e (Q4 e (Q2 z (Q4 z ((Dh e u->0<=r)/\(Dh e u->r<c10)/\L4 z (Q4 z (L4 e ((e->Dh e u->Dh e u)/\(Dh true e->e)/\(V->false=Om n p/\True)/\(V=false->inR IntKind.i64 T/\∃y,XX n x f y/\(T5 n x f i g x f h (T=y/\True))/\Dc (h-y)<Dc (h-b)))))))))))/\(Dp b h=false->inR .i64 G/\∃y,aFU n p y/\(L7 n i g (G=y/\True))/\Dc (g-y)<Dc (g-x)))/\(Dp x g=false->true=Om n p/\True)))))))) C6 λ⟨hn,hp⟩=>?_
 obtain⟨⟨⟨l1,l2⟩,l3⟩,l4⟩:=id hn;obtain⟨cs,ns,os,fs,z,ks⟩:=n;obtain⟨p1,p2,nx,dy⟩:=p;simp only at l1 l2 l3 l4;refine Z9 ?_;obtain⟨q1,q2⟩:nx.length<=2000000000000000/\∀r∈nx,r.length<=2000000000000000/\∀x∈r,-1<=x:=hp;refine⟨λh=>?_,λ⟨h1,h2⟩=>⟨⟨qH _,qM _,λi hi=>Z⟩,λx hx=>?_⟩⟩
 .unfold Om;rcases h with h | h
  .rw[vC (p:=nx.length=fs.length) Z];simp
  .rw[vC (p:=dy.length=ks.length) Z];simp
 have L:0<=x:=hx.1;have hx1:x<=nx.length:=hx.2.1;refine⟨λhlt=>⟨L,hlt,⟨qH _,qM _,rfl⟩,λy G=>?_⟩,λhge=>?_⟩
 .obtain⟨r1,r2⟩:=q2 _ (bg (l:=nx) (i:=x.toNat) (d:=[]) Z);obtain⟨r,hr⟩:∃r,r=nx.getD x.toNat []:=⟨_,rfl⟩;rw[<- hr]at r1 r2 G ⊢;have j:0<=y:=G.1;have hy1:y<=r.length:=G.2.1;refine⟨λg=>?_,λO=>?_⟩
  .have hv:=r2 _ (bg (l:=r) (i:=y.toNat) (d:=0) Z);obtain⟨v,u⟩:∃v,v=r.getD y.toNat 0:=⟨_,rfl⟩;rw[<- u]at hv ⊢;have cg:l7 (cs,ns,os,fs,z,ks) x v=(decide (v=-1)||(decide (v<z.length)&&decide ((z.getD v.toNat (⟨#[]⟩,0,0,0,0,0)).2.1=x))):=rfl;refine⟨j,g,λh=>Z,λh=>Z,λh=>?_,λh=>⟨aE Z,y+1,⟨Z,Z,rn 0 j g G.2.2 ?_⟩,rfl,Z⟩⟩
   .have:l7 (cs,ns,os,fs,z,ks) x v=false:=by
     rw[cg,vC h.1];rcases h.2 with h3 | h3
     .rw[vC Z];rfl
     .rw[vC h3];simp
    refine(aET (i:=x.toNat) (by show x.toNat<nx.length;omega) ?_).symm;show oM _ _ (nx.getD x.toNat [])=false;rw[<- hr];unfold oM;rw[vI L];exact Jn 0 j g (by rw[<- u];exact this)
   .rw[<- u,cg];by_cases hm:v=-1
    .rw[qW hm];rfl
    .obtain⟨g1,g2⟩:=h hm;rw[qW (p:=v<z.length) Z,qW g2];simp
  .have e1:=zu G.2.2 O;refine⟨aE Z,x+1,⟨Z,by show x+1<=(nx.length:Int);omega,λi hi=>?_⟩,rfl,Z⟩;by_cases e:(i:Int)<x
   .exact hx.2.2 i e
   .have:(i:Int)=x:=by omega
    rw[this];show oM _ _ (nx.getD i [])=true;have e2:i=x.toNat:=Z;rw[e2,<- hr];exact e1
 .unfold Om;rw[qW (p:=nx.length=fs.length) Z,qW (p:=dy.length=ks.length) Z]
  symm
  simp only[zX];exact qO.2 λi hi=>hx.2.2 i (by have:i<nx.length:=qZ.1 hi;omega)
def cq(n:Net)(o:Int): Off:=n.2.2.2.1.getD o.toNat (⟨#[]⟩,0,0,0,0,0,[])
def ax(n:Net)(o:Int): Cal:=n.1.getD (cq n o).2.2.1.toNat (0,[],[])
def fH(n:Net)(k:Int): Cla:=n.2.2.2.2.2.getD k.toNat (⟨#[]⟩,0,0)
def usP(n:Net): Prop:=usF n=true/\F5 n
def lP(n:Net)(o:Int): Prop:=0<=o/\o<n.2.2.2.1.length
def Y0(n:Net)(k:Int): Prop:=0<=k/\k<n.2.2.2.2.2.length
def tOk(t:Int): Prop:=-3000000000<=t/\t<=3000000000
def Ad(n:Net)(o t:Int): Int:=t+(cq n o).2.2.2.2.1*(cq n o).2.2.2.2.2.1
def aC4(n:Net)(o t:Int): Prop:=usP n/\lP n o/\tOk t
def cellAt(p:Plan)(o d:Int): Int:=(p.2.2.1.getD o.toNat []).getD d.toNat 0
def kb(p:Plan)(k o d:Int): Int:=((p.2.2.2.getD k.toNat []).getD o.toNat []).getD d.toNat 0
def plP(n:Net)(p:Plan): Prop:=(0<=p.1/\p.1<=p.2.1/\p.2.1<=600)/\(p.2.2.1.length=n.2.2.2.1.length/\∀r∈p.2.2.1,r.length=n.2.2.2.1.length)/\(∀i j:Int,lP n i->lP n j->l7 n i (cellAt p i j)=true/\-1<=cellAt p i j)/\
 p.2.2.2.length=n.2.2.2.2.2.length/\∀t∈p.2.2.2,t.length=n.2.2.2.1.length/\∀r∈t,r.length=n.2.2.2.1.length
def wn(n:Net)(o l:Int)(p:Plan)(x t:Int): Bool:=wkF (ax n o).2.1 (ax n o).2.2 (x-2+p.1)&&decide (F6 (ax n o).1 (x-2+p.1) (fE n l).2.2.2.1≥Ad n o t)
def Lu(n:Net)(p:Plan)(d:Int): Nat->Int->Int->Li->Bool×Int×Li
 | 0,o,t,xs=>(decide (o=d),t,xs)
 | f+1,o,t,xs=>if o=d then(true,t,xs)else if cellAt p o d=-1 then(false,t,xs)else if bX xs=false then(false,t,xs)else
  if wn n o (cellAt p o d) p (hd xs) t=true then Lu n p d f (fE n (cellAt p o d)).2.2.1 (F6 (ax n o).1 (hd xs-2+p.1) (fE n (cellAt p o d)).2.2.2.1+(fE n (cellAt p o d)).2.2.2.2.1) (tl xs)else(false,t,tl xs)
def Am(n:Net)(p:Plan)(o d t:Int)(xs:Li): Bool:=(Lu n p d 19 o t xs).1
def CO(n:Net)(p:Plan)(o d t:Int)(xs:Li): Int:=(Lu n p d 19 o t xs).2.1
def QT(n:Net)(p:Plan)(o d t:Int)(xs:Li): Li:=(Lu n p d 19 o t xs).2.2
def Ol(n:Net)(p:Plan)(o d t:Int)(xs:Li): Prop:=((usP n/\plP n p)/\lP n o/\lP n d)/\tOk t/\fb xs
def Yx(n:Net)(p:Plan)(d f e:Int)(b:Li)(k o t:Int)(xs:Li): Prop:=(0<=k/\k<=19/\Ol n p o d t xs)/\Lu n p d (19-k).toNat o t xs=Lu n p d 19 f e b
def VW(c:Cal)(m t:Int): Int:=if m<dN c.1 t then bz c.1 t+1 else bz c.1 t
def aC9(c:Cal)(m t:Int): Option Int:=(jo c.2.1 c.2.2 (VW c m t) (VW c m t+59)).head?
def oZ(c:Cal)(m t:Int): Bool:=(aC9 c m t).isSome
def QV(c:Cal)(m t:Int): Int:=(aC9 c m t).getD 0
def YI(c:Cal)(t:Int): Prop:=o9 c=true/\big t
def EN(k:Nat): Prop:=k=0
def Zb(n:Net)(d cut:Int): Int:=bz (ax n d).1 cut
def P8(n:Net)(p:Plan)(k o d cut:Int)(xs:Li): Int:=QV (ax n d) (fH n k).2.2 (Ad n d (CO n p o d cut xs))
def X3(n:Net)(p:Plan)(k o d cut:Int)(xs:Li): Li:=jo (ax n d).2.1 (ax n d).2.2 (Zb n d cut+1) (P8 n p k o d cut xs)
def Ae(n:Net)(p:Plan)(k o d cut:Int)(xs:Li): Bool:=Am n p o d cut xs&&(oZ (ax n d) (fH n k).2.2 (Ad n d (CO n p o d cut xs))&&(decide (P8 n p k o d cut xs-Zb n d cut<=2000)&&decide (((X3 n p k o d cut xs).length:Int)<=kb p k o d)))
def ZL(n:Net)(p:Plan)(k o d cut:Int)(xs:Li): Prop:=Ol n p o d cut xs/\Y0 n k
def Vf(k:Nat): Prop:=k<=4000000000000
def y7(p:Plan)(t:Int): Bool:=decide (1440*p.1<=t)&&decide (t<1440*p.2.1)
def Qp(n:Net)(p:Plan)(o:Int): Li:=jo (ax n o).2.1 (ax n o).2.2 (p.1-1) (p.2.1+1)
def Qo(n:Net)(k o d:Int): Int:=F6 (ax n o).1 d (fH n k).2.1
def lZ(n:Net)(p:Plan)(k o:Int): Li:=((Qp n p o).map λd=>Qo n k o d).filter (y7 p)
def mh(n:Net)(p:Plan)(k o:Int)(j:Nat): Nat:=((((Qp n p o).take j).map λd=>Qo n k o d).filter (y7 p)).length
def aF3(n:Net)(p:Plan)(k o:Int): Prop:=(usP n/\plP n p)/\lP n o/\Y0 n k
abbrev BI:=al [.pvf N Pl,.val I,.val I] (λ((n,_),o,t,_)=>aC4 n o t) λ((n,_),o,t,_)=>.dat I (Ad n o t)
abbrev tM:=al [.pvf N Pl,.val I] (λ((n,_),o,_)=>usP n/\lP n o) λ((n,_),o,_)=>.ip C (ax n o)
abbrev Iq:=al [.pvf N Pl,.val I,.val I] (λ_=>True) λ((n,p),k,o,_)=>.fn 151 [.ipv (.ips [.ip N n,.ip Pl p,.top]),.ip I o,.ip I k]
def VN: Kt:=kOr 157 BI <|
 kOr 152 tM <|
 kOr 82 Iq aFH
def KI1: FuncId->List AV->Option jF:=λf e=>if f=219 then match ofK [.ptr I,.ptr I,.bp C] e with
 | some (a,b,c,_)=>some ⟨wdP c.2.1 c.2.2 a b,I,jo c.2.1 c.2.2 a b⟩
 | none=>none
 else none
noncomputable def aBY(K:Kt)(f:FuncId->List AV->Option jF)(e:KPt)(b:FuncId->Bool): Cfg:=⟨Tryz.prog,iR,K,λ_=>false,f,true,e,b⟩
def mki(K:Kt)(KI:FuncId->List AV->Option jF): Cfg:={mkc K with KI:=KI}
def aJS(n:Net)(p:Plan)(k o:Int): tF:=⟨az,⟨λ_ _=>none,λ_ _=>none,λb=>b==6⟩,λs=>some (frz (allNames s) s),λj=>mh n p k o j⟩
def aJM(n:Net)(p:Plan)(d f e:Int)(b:Li): Ann:=Z8 2 (Int×Int×Int×Li) (λx=>Yx n p d f e b x.1 x.2.1 x.2.2.1 x.2.2.2) (λs x=>fu (put (ic s) [(9,.dat I x.1),(1,.dat I x.2.1),(3,.dat I x.2.2.1)]) 1 (.var [.dat R x.2.2.2])) λx=>Dc (Di 19 x.1)
def aFG: Kt:=kOr 207 (ZS 1 R [.mp 1] (λ_ b=>True/\bX b=true) (λ_ b=>.dat I (hd b)) λ_ b=>tl b) VN
def c12: Cfg:=PX aFG (λ_=>false) KP6 (λf=>f==79||f==207)
def aJR: Ann:=Z8 5 Nat EN (λs _=>ic s) λk=>k
def aCW: Kt:=kOr 155 (ZS 1 R [.pv 1 N Pl,.val I,.val I,.val I] (λ((n,p),o,d,t,_) b=>Ol n p o d t b/\Am n p o d t b=true) (λ((n,p),o,d,t,_) b=>.dat I (CO n p o d t b)) λ((n,p),o,d,t,_) b=>QT n p o d t b) <|
 kOr 156 (al [.ptr C,.val I,.val I] (λ(c,m,t,_)=>YI c t/\oZ c m t=true) λ(c,m,t,_)=>.dat I (QV c m t)) VN
def aJq: KPt:=pOr 155 (aBZ 1 R [.pv 1 N Pl,.val I,.val I,.val I] λ((n,p),o,d,t,_) b=>⟨Ol n p o d t b,Am n p o d t b,d6 39 190⟩) <|
 pOr 156 (Ao [.ptr C,.val I,.val I] λ(c,m,t,_)=>⟨YI c t,oZ c m t,d6 39 190⟩) KPr
def c13: Cfg:=aBY aCW KI1 aJq (λf=>f==79||f==155||f==156)
def aJD: Ann:=⟨λe s=>match e with
 | 7=>match s.sig.T 15 with
  | .ptr b _ _ _=>some {α:=Nat,inv:=λk=>Vf k,st:=λk=>fu (ic s) b (.var [.dat I (Dz k)]),μ:=λk=>k}
  | _=>none
 | _=>none,λ_ _=>none,λ_ _=>none⟩
def Mc{n:Net}(h:usP n): ((∀c∈n.1,o9 c=true)/\(∀o∈n.2.2.2.1,mO n o=true))/\(∀l∈n.2.2.2.2.1,mU n l=true)/\∀k∈n.2.2.2.2.2,nj k=true:=by
 have:=h.1;unfold usF at this;simp only[qC,qO]at this;exact⟨⟨this.1.1.1,this.1.1.2⟩,this.1.2,this.2⟩
def Q0{n:Net}{o:Int}(h:usP n)(b:lP n o): (0<=(cq n o).2.2.1/\(cq n o).2.2.1<n.1.length)/\(1<=(cq n o).2.2.2.2.1/\(cq n o).2.2.2.2.1<=1000)/\1<=(cq n o).2.2.2.2.2.1/\(cq n o).2.2.2.2.2.1<=1000:=by
 have:=(Mc h).1.2 (cq n o) (bg (by have:=b.1;have:=b.2;omega));unfold mO at this;simp only[qC,pg]at this;omega
def L9{n:Net}{o:Int}(h:usP n)(b:lP n o): o9 (ax n o)=true:=
 (Mc h).1.1 _ (bg (by have:=(Q0 h b).1;omega))
def Zq{n:Net}{l:Int}(h:usP n)(e:0<=l)(b:l<n.2.2.2.2.1.length): lP n (fE n l).2.1/\lP n (fE n l).2.2.1/\(0<=(fE n l).2.2.2.1/\(fE n l).2.2.2.1<=1439)/\1<=(fE n l).2.2.2.2.1/\(fE n l).2.2.2.2.1<=100000:=by
 have:=(Mc h).2.1 (fE n l) (bg Z);unfold mU oQ at this;simp only[qC,pg]at this;unfold lP;omega
def Zr{n:Net}{k:Int}(h:usP n)(b:Y0 n k): (0<=(fH n k).2.1/\(fH n k).2.1<=1439)/\0<=(fH n k).2.2/\(fH n k).2.2<=1439:=by
 have:=(Mc h).2.2 (fH n k) (bg (by have:=b.1;have:=b.2;omega));unfold nj at this;simp only[qC,pg]at this;omega
def np{c:Cal}(h:o9 c=true): (-720<=c.1/\c.1<=840)/\c.2.1.length=7/\srt c.2.2:=by
 have:=(jM.1 h).1;exact⟨⟨this.1,this.2.1⟩,this.2.2.1,QZ h⟩
def ZI{n:Net}{o t:Int}(h:usP n)(b:lP n o): t+1<=Ad n o t/\Ad n o t<=t+1000000:=by
 obtain⟨_,⟨i,g⟩,f,e⟩:=Q0 h b;unfold Ad;have r:1*1<=(cq n o).2.2.2.2.1*(cq n o).2.2.2.2.2.1:=kL i f (by decide) Z;have j:(cq n o).2.2.2.2.1*(cq n o).2.2.2.2.2.1<=1000*1000:=kL g e Z (by decide);omega
def aAy: eO 157 BI:=ae λ(((n:Net),(p:Plan)),(o:Int),(t:Int),_)=>by
 refine zE (A:=az) (p:=let b:=(Du n.2.2.2.1 (Dc o) (ByteArray.mk #[],(0:Int),(0:Int),(0:Int),(0:Int),(0:Int),Dt ByteArray)).2.2.2.2;let e:=b.1*b.2.1;let f:=t+e;(aC4 n o t->0<=o/\o<Df n.2.2.2.1/\inR .i64 e/\inR .i64 f/\f=Ad n o t/\True)) C6 λ⟨f,b,g⟩=>?_
 obtain⟨i,h⟩:=ZI (t:=t) f b;obtain⟨t1,t2⟩:=g;have e:Ad n o t=t+(cq n o).2.2.2.2.1*(cq n o).2.2.2.2.2.1:=rfl;refine⟨b.1,b.2,aE ?_,aE ?_,rfl,trivial⟩
 .show _<=(cq n o).2.2.2.2.1*(cq n o).2.2.2.2.2.1/\(cq n o).2.2.2.2.1*(cq n o).2.2.2.2.2.1<=_;omega
 .show _<=t+(cq n o).2.2.2.2.1*(cq n o).2.2.2.2.2.1/\t+(cq n o).2.2.2.2.1*(cq n o).2.2.2.2.2.1<=_;omega
def RX: eO 152 tM:=ae λ(((n:Net),(p:Plan)),(o:Int),_)=>by
 refine zE (A:=az) (p:=let b:=(Du n.2.2.2.1 (Dc o) (ByteArray.mk #[],(0:Int),(0:Int),(0:Int),(0:Int),(0:Int),Dt ByteArray)).2.2.1;(usP n/\lP n o->0<=o/\o<Df n.2.2.2.1/\0<=b/\b<Df n.1/\Du n.1 (Dc b) ((0:Int),Dt Bool,Dt Int)=ax n o/\True)) C6 λ⟨e,b⟩=>?_
 have:=(Q0 e b).1;exact⟨b.1,b.2,this.1,this.2,rfl,trivial⟩
def aDK: eO 82 Iq:=ae λ(((n:Net),(p:Plan)),(k:Int),(o:Int),_)=>zE (A:=az) (p:=(True->z8 n p o k)) C6 λ_=>by simp
def OR: ai Tryz.prog iR VN:=af aAy<|af RX<|af aDK C6
def mA.args {P:Program} {G:List (Nat×AV)} {gf:FuncId} {xs f:List AV} {g:jF} (h:mA P G gf f g) (e:∀(C:Ctx) b,AV.relL P C xs b->AV.relL P C f b):mA P G gf xs g:=
 λj l J JX JP w D b u r i=>h j l J JX JP w D b u r (e _ b i)
def aGg: bf Tryz.prog iR KI1:=by
 intro f g u h;unfold KI1 at h;split at h
 .rename_i e;subst e;split at h
  .rename_i a b c _ i;cases h;exact mA.args (aGu c.1 a b c.2.1 c.2.2) λC r j=>fS i j
  .cases h
 .cases h
def YN(n:Net)(p:Plan)(k o:Int): mh n p k o (Qp n p o).length=(lZ n p k o).length:=by
 unfold mh lZ;rw[qN (qJ _)]
def U8{n:Net}{p:Plan}{k o:Int}{j:Nat}{y:Int}(h:m4 (Qp n p o) j y): mh n p k o (j+1)=mh n p k o j+(if y7 p (Qo n k o y)=true then 1 else 0):=by
 have h:(Qp n p o)[j]?=some y:=h;unfold mh;rw[wU,h,zZ,yL,qF]
 congr 1
 simp only[Option.toList,zB,qBv,yN,gI];split<;>rfl
def aCu{n:Net}{p:Plan}{k o:Int}{j:Nat}{y:Int}(h:m4 (Qp n p o) j y)(f:y7 p (Qo n k o y)=true): m4 (lZ n p k o) (mh n p k o j) (Qo n k o y):=by
 have h:(Qp n p o)[j]?=some y:=h;obtain⟨i,b⟩:=qG.1 h;have e:Qp n p o=(Qp n p o).take j++y::(Qp n p o).drop (j+1):=by rw[<- b,List.getElem_cons_drop,kH]
 have g:lZ n p k o=(((Qp n p o).take j).map λd=>Qo n k o d).filter (y7 p)++((y::(Qp n p o).drop (j+1)).map λd=>Qo n k o d).filter (y7 p):=by
  unfold lZ
  conv=>lhs;rw[e]
  rw[zZ,yL]
 unfold m4;rw[g];unfold mh;rw[vH (qJ _),qBf,zB,yN,if_pos f];rfl
def Zp{w:List Bool}{h:Li}{a b x:Int}(e:x∈jo w h a b): a<=x/\x<=b/\wkF w h x=true:=by
 unfold jo at e;rw[yS,vM]at e;obtain⟨⟨i,f,rfl⟩,g⟩:=e;have:=qZ.1 f;exact⟨Z,Z,g⟩
theorem aDL (n : Net) (p : Plan) (k o : Int) : mA Tryz.prog iR 151 [.ipv (.ips [.ip N n, .ip Pl p, .top]), .ip I o, .ip I k] ⟨aF3 n p k o, I, lZ n p k o⟩ := by
  refine zN (c := mki VN KI1) (A := (aJS n p k o)) OR aGg hm (p :=
 let c1 := p.fst;
 let c2 := Eh (1440 : Int) c1;
 let c3 := p.snd;
 let c4 := c3.fst;
 let c5 := Eh (1440 : Int) c4;
 let aV := Di c1 (1 : Int);
 let c7 := Dq c4 (1 : Int);
 let c8 := (ax n o).snd;
 let c9 := c8.fst;
 let c10 := c8.snd;
 let c11 := jo c9 c10 aV c7;
 let c12 := lZ n p k o;
 let c13 := Dk c12;
 let c14 := n.snd.snd.snd.snd.snd;
 let c15 := (ax n o).fst;
 let c16 := (Du c14 (Dc k) (ByteArray.mk (Dt UInt8).toArray, (0 : Int), (0 : Int))).snd.fst; true = true ∧ true = true ∧ true = true ∧ false = false ∧ ∀
  (l : Nat), aF3 n p k o → (usP n ∧ lP n o) ∧ 1 = 1 ∧ 0 = 0 ∧ inR .i64 c2 ∧ inR .i64 c5 ∧ 1 = 1 ∧ 0 = 0 ∧ 1 = 1 ∧ 0 = 0 ∧ 1 = 1 ∧ 0 = 0 ∧ inR
  IntKind.i64 aV ∧ inR .i64 c7 ∧ True ∧ l = l ∧ n = n ∧ p = p ∧ o = o ∧ k = k ∧ l = l ∧ 1 = 1 ∧ 0 = 0 ∧ AV.ip ((Ty.int .i64).pair (Ty.bool.sl.pair
  (Ty.int .i64).sl)) (ax n o) = AV.ip ((Ty.int .i64).pair (Ty.bool.sl.pair (Ty.int .i64).sl)) (ax n o) ∧ 1 = 1 ∧ 0 = 0 ∧ c2 = c2 ∧ 1 =
  1 ∧ 0 = 0 ∧ c5 = c5 ∧ n = n ∧ p = p ∧ o = o ∧ ax n o = ax n o ∧ n = n ∧ p = p ∧ n = n ∧ p = p ∧ p = p ∧ p = p ∧ p = p ∧ p = p ∧ c1 = c1 ∧ c2 = c2 ∧ n = n
  ∧ p = p ∧ n = n ∧ p = p ∧ p = p ∧ p = p ∧ p = p ∧ c3 = c3 ∧ c4 = c4 ∧ c5 = c5 ∧ ax n o = ax n o ∧ n = n ∧ p = p ∧ n = n ∧ p = p ∧ p = p ∧ p = p ∧ p = p ∧
  p = p ∧ c1 = c1 ∧ aV = aV ∧ n = n ∧ p = p ∧ n = n ∧ p = p ∧ p = p ∧ p = p ∧ p = p ∧ c3 = c3 ∧ c4 = c4 ∧ c7 = c7 ∧ aV = aV ∧ c7 = c7 ∧ ax n o = ax n o ∧
  wdP c9 c10 aV c7 ∧ mh n p k o (0) = 0 ∧ mh n p k o (Dk c11) = c13 ∧ ∀ (j : Nat),
 let c17 := mh n p k o j;
 let c18 := Eb c17 (1);
 let c19 := mh n p k o (Eb j (1)); ∀ (y : Int),
 let c20 := Ed (F6 c15 y c16) c2;
 let c21 := Ea c20 (Dp (F6 c15 y c16) c5) false;
 let c22 := Ea c21 (Dj false) false; m4 c11 j y → true = true ∧ Dl (0 : Int) k ∧ Dn k (Df c14) ∧ (big c15 ∧ big y ∧ big c16) ∧ (c20 = true →
  c20 = true → c20 = true) ∧ (c20 = true → c20 = true → c20 = true) ∧ (Dh true c20 = true → c20 = true) ∧ (c21 = true → (c21 = true → c21 = true) ∧ (c21 =
  true → c21 = true) ∧ l = l ∧ true = true ∧ m4 c12 c17 (F6 c15 y c16) ∧ ∀ (b : Bool),
 let c23 := Ea c21 (Dj b) false; (Dh true c21 = true → c21 = true) ∧ (c23 = true → b = true → c18 = c13) ∧ (c23 = false → b = true ∧ c18 = c19)) ∧ (c21
  = false → (c21 = true → c21 = true → c21 = true) ∧ (Dh true c21 = true → c21 = true) ∧ (c22 = true → true = true → c17 = c13) ∧ (c22 = false → true = true ∧
  c17 = c19))) ⟨rfl, rfl, rfl, rfl, fun l ⟨⟨hu, hp⟩, ho, hk⟩ => ?_⟩
  obtain ⟨⟨p0, p1, p2⟩, _⟩ := hp
  have hc := L9 hu ho
  obtain ⟨⟨z1, z2⟩, hw, hs⟩ := np hc
  have hcl := Zr hu hk
  simp only [qBe, yB, vU]
  refine ⟨⟨hu, ho⟩, aE (by simp only [Eh]; omega), aE (by simp only [Eh]; omega), aE (by simp only [Di]; omega), aE (by simp only [Dq]; omega), ⟨hw, hs, ⟨by simp only [Di]; omega, by simp only [Di]; omega⟩, ⟨by simp only [Dq]; omega, by simp only [Dq]; omega⟩⟩, rfl, YN n p k o, fun j y hy => ?_⟩
  have hy' : m4 (Qp n p o) j y := hy
  have hm2 := Zp (zV hy')
  have hk2 := U8 (k := k) hy'
  have eM : F6 (ax n o).1 y (fH n k).2.1 = Qo n k o y := rfl
  have eC : Ea (Ed (Qo n k o y) (Eh 1440 p.1)) (Dp (Qo n k o y) (Eh 1440 p.2.1)) false = y7 p (Qo n k o y) := by
    rw [Vg]; rfl
  have two : ∀ {q : Prop}, q → (q ∧ q) := fun h => ⟨h, h⟩
  refine ⟨hk.1, hk.2, ⟨⟨by omega, by omega⟩, ⟨by omega, by omega⟩, ⟨by show _ ≤ (fH n k).2.1; omega, by show (fH n k).2.1 ≤ _; omega⟩⟩, ?_⟩
  simp only [qAj, kJ, yB, vU]
  refine ⟨fun h => by simpa [Dh] using h, fun hc1 => ?_, fun hc1 => ?_⟩
  · have hin : y7 p (Qo n k o y) = true := by rw [← eC]; exact hc1
    rw [if_pos hin] at hk2
    refine ⟨aCu hy' hin, fun b => ⟨fun _ => hc1, fun h1 h2 => ?_, fun h1 => ?_⟩⟩
    · rw [h2] at h1
      rw [hc1] at h1; cases h1
    · rw [hc1] at h1
      have : b = true := by simpa [Ea, Dj] using h1
      exact ⟨this, hk2.symm⟩
  · have hin : y7 p (Qo n k o y) = false := by rw [← eC]; exact hc1
    rw [if_neg (by rw [hin]; exact Bool.false_ne_true)] at hk2
    refine ⟨fun h => by simpa [Dh] using h, ?_, ?_⟩
    · intro h
      rw [hc1] at h; cases h
    · intro _
      exact hk2.symm
def aFz: ai Tryz.prog iR aFG:=af (rQ λ_ b=>(uZ b).1) OR
def MB(n:Net)(p:Plan)(o d t:Int)(xs:Li): ah Tryz.prog iR 155 [.ips [.ip N n,.ip Pl p,.ptr 1 1 0 0],.dat I o,.dat I d,.dat I t] [(1,.var [.dat R xs])] ⟨Ol n p o d t xs/\Am n p o d t xs=true,.dat I (CO n p o d t xs),[(1,.var [.dat R (QT n p o d t xs)])]⟩/\
  dt Tryz.prog iR 155 [.ips [.ip N n,.ip Pl p,.ptr 1 1 0 0],.dat I o,.dat I d,.dat I t] [(1,.var [.dat R xs])] ⟨Ol n p o d t xs,Am n p o d t xs,d6 39 190⟩:=by
 refine zM (c:=c12) (A:=(aJM n p d o t xs)) (q:=⟨Ol n p o d t xs,Am n p o d t xs,d6 39 190⟩) aFz iI hm VM (p:=let i:=p.2.2.1;let g:=Am n p o d t xs;let f:=chainOf (Value.iface 39 (Value.int .i64 (190:Int)));let j:=n.2.2.2.2.1;let O:=p.1;let T:=(ByteArray.mk #[],(0:Int),(0:Int),(0:Int),(0:Int),(0:Int));true/\(Ol n p o d t xs->1=1/\(∃(x:Int×Int×Int×Li),let r:=x.1;let c8:=x.2;let v:=c8.1;let c10:=c8.2;let c11:=c10.1;let z:=c10.2;Yx n p d o t xs r v c11 z/\T2 n p 1 0 0 (o=v/\d=d/\t=c11/\(0:Int)=(0:Int)/\0=r/\xs=z/\T3 1))/\∀(x:Int×Int×Int×Li),let h:=x.1;let A:=x.2;let e:=A.1;let c16:=A.2;let c17:=c16.1;let L:=c16.2;let c19:=Dw e d;let c20:=Du i (Dc e) [];let u:=Dp h 19;let X:=Du c20 (Dc d) 0;let c23:=Ea u (Dw X (-1)) false;let c24:=bX L;let c25:=hd L-2;let G:=c25+O;let c27:=ax n e;let c28:=c27.1;let c29:=(Du j (Dc X) T).2.2;let c30:=c29.2;let c31:=c30.1;let c32:=c27.2;let c33:=c32.1;let c34:=c32.2;let b:=wkF c33 c34 G;let c36:=F6 c28 G c31;let c37:=Ea b (Ed c36 (Ad n e c17)) false;let c38:=c36+c30.2.1;let c39:=h+1;
  Yx n p d o t xs h e c17 L->(c19->0<=e/\e<Df i/\0<=d/\d<Df c20/\(u->u->u)/\(Dh true u->u)/\(true->True/\(c23=false->g=false/\true/\f=f))/\((true->c23)->(True/\c23)/\0<=X/\X<Df j/\(usP n/\lP n e)/\True/\(c24->(True/\c24)/\1=1/\inR .i64 c25/\inR .i64 G/\(big c28/\big G/\big c31)/\wkP c33 c34 G/\(b->b->b)/\(b->b->b)/\(b->b->b)/\(b->aC4 n e c17)/\(b->b->b)/\(b->b->b)/\(Dh true b->b)/\(true->True/\(c37=false->g=false/\true/\f=f))/\((true->c37)->(True/\c37)/\inR .i64 c38/\inR .i64 c39/\∃(y:Int×Int×Int×Li),let c40:=y.1;let c41:=y.2;let c42:=c41.1;let c43:=c41.2;let c44:=c43.1;let c45:=c43.2;Yx n p d o t xs c40 c42 c44 c45/\(T2 n p 1 0 0 (c29.1=c42/\d=d/\c38=c44/\(0:Int)=(0:Int)/\c39=c40/\tl L=c45/\T3 1))/\Dc (19-c40)<Dc (19-h)))/\(c24=false->g=false/\true/\f=f)))/\(c19=false->g/\c17=CO n p o d t xs/\L=QT n p o d t xs/\T3 1))) ⟨rfl,λhp=>?_⟩
 refine Z9 ?_;refine⟨⟨(0,o,t,xs),⟨⟨qH _,show(0:Int)<=19 by decide,hp⟩,rfl⟩,rfl,rfl,rfl,rfl⟩,λ⟨k,j,t2,g⟩ hi=>?_⟩;obtain⟨⟨k0,k1,hq⟩,he⟩:=hi;simp only at k0 k1 hq he;obtain⟨⟨⟨hu,hpl⟩,r,T⟩,ht2,hys⟩:=id hq;obtain⟨⟨p0,p1,p2⟩,⟨q1,q2⟩,q3,_⟩:=id hpl;obtain⟨c,ec⟩:∃c,c=cellAt p j d:=⟨_,rfl⟩;have eC:(p.2.2.1.getD j.toNat []).getD d.toNat 0=c:=ec.symm;obtain⟨v,el⟩:∃v,v=fE n c:=⟨_,rfl⟩
 have eL:n.2.2.2.2.1.getD c.toNat (⟨#[]⟩,0,0,0,0,0)=v:=el.symm;simp only[eC,eL];obtain⟨g1,g2⟩:=q3 j d r T;rw[<- ec]at g1 g2;have V:Am n p o d t xs=(Lu n p d (19-k).toNat j t2 g).1:=by rw[he];rfl
 have eT:CO n p o d t xs=(Lu n p d (19-k).toNat j t2 g).2.1:=by rw[he];rfl
 have eR:QT n p o d t xs=(Lu n p d (19-k).toNat j t2 g).2.2:=by rw[he];rfl
 have hf:k<19->(19-k).toNat=(19-(k+1)).toNat+1:=λh=>Z
 have eS:∀f,Lu n p d (f+1) j t2 g=if j=d then(true,t2,g)else if c=-1 then(false,t2,g)else if bX g=false then(false,t2,g)else
   if wn n j c p (hd g) t2=true then Lu n p d f v.2.2.1 (F6 (ax n j).1 (hd g-2+p.1) v.2.2.2.1+v.2.2.2.2.1) (tl g)else(false,t2,tl g):=λf=>by rw[el,ec];rfl
 have eD:wn n j c p (hd g) t2=(wkF (ax n j).2.1 (ax n j).2.2 (hd g-2+p.1)&&decide (F6 (ax n j).1 (hd g-2+p.1) v.2.2.2.1≥Ad n j t2)):=by rw[el];rfl
 refine⟨λz=>?_,λheq=>?_⟩
 .have hrow:=q2 _ (bg (l:=p.2.2.1) (i:=j.toNat) (d:=[]) (by have:=r.1;have:=r.2;omega));refine⟨r.1,by rw[q1];exact r.2,T.1,by rw[hrow];exact T.2,λh=>?_,λ⟨O,hc⟩=>?_⟩
  .rw[V];by_cases O:k<19
   .rw[hf O,eS,if_neg z,if_pos (h O)]
   .rw[show(19-k).toNat=0 by omega];exact vC z
  .have hl:c<n.2.2.2.2.1.length:=by
    unfold l7 at g1;rw[vC hc,kT,qC,qE]at g1;exact g1.1
   obtain⟨_,lo,⟨m0,m1⟩,r0,r1⟩:=Zq hu (by omega:0<=c) hl;rw[<- el]at lo m0 m1 r0 r1;obtain⟨⟨z1,z2⟩,hw,hs⟩:=np (L9 hu r);refine⟨⟨O,hc⟩,Z,hl,⟨hu,r⟩,λh1=>?_,λh1=>?_⟩
   .have hm1:0<=hd g/\hd g<=65519:=fz.1 hys.1 _ (bg (vN h1));have hm2:-1000000<=F6 (ax n j).1 (hd g-2+p.1) v.2.2.2.1/\F6 (ax n j).1 (hd g-2+p.1) v.2.2.2.1<=100000000:=by unfold F6;omega
    refine⟨h1,aE Z,aE Z,⟨⟨Z,Z⟩,⟨Z,Z⟩,⟨Z,Z⟩⟩,⟨hw,hs,⟨Z,Z⟩⟩,λ_=>⟨hu,r,ht2⟩,λh=>?_,λh=>?_⟩
    .rw[V,hf O,eS,if_neg z,if_neg hc,if_neg (by rw[h1];exact Bool.noConfusion),if_neg];rw[eD];simpa using h
    .have hy:wn n j c p (hd g) t2=true:=by rw[eD];simpa using h
     refine⟨h,aE Z,aE Z,⟨(k+1,v.2.2.1,F6 (ax n j).1 (hd g-2+p.1) v.2.2.2.1+v.2.2.2.2.1,tl g),⟨⟨by show 0<=k+1;omega,by show k+1<=19;omega,⟨⟨hu,hpl⟩,lo,T⟩,⟨by show -3000000000<=_+_;omega,by show _+_<=3000000000;omega⟩,fU hys 1⟩,?_⟩,⟨rfl,rfl,rfl,rfl⟩,by show(19-(k+1)).toNat<_;omega⟩⟩;rw[<- he,hf O,eS,if_neg z,if_neg hc,if_neg (by rw[h1];exact Bool.noConfusion),if_pos hy]
   .rw[V,hf O,eS,if_neg z,if_neg hc,if_pos h1]
 .have e:Lu n p d (19-k).toNat j t2 g=(true,t2,g):=by
   by_cases O:k<19
   .rw[hf O,eS,if_pos heq]
   .rw[show(19-k).toNat=0 by omega];show(decide (j=d),t2,g)=_;rw[qW heq]
  rw[V,eT,eR,e];exact⟨rfl,rfl,rfl⟩
def RS(c:Cal)(m t:Int): ah Tryz.prog iR 156 [.ip C c,.dat I m,.dat I t] [] ⟨YI c t/\oZ c m t=true,.dat I (QV c m t),[]⟩/\
  dt Tryz.prog iR 156 [.ip C c,.dat I m,.dat I t] [] ⟨YI c t,oZ c m t,d6 39 190⟩:=by
 obtain⟨z,w,h⟩:=c
 refine zC (c:=aBY VN KI1 noP (λ_=>false)) (A:=aJR) (q:=⟨YI (z,w,h) t,oZ (z,w,h) m t,d6 39 190⟩) OR aGg hm sU (p:=let b:=(z,w,h);let i:=Dp m (dN z t);let e:=bz z t+1;let j:=e+60;let g:=j-1;let A:=jo w h e g;let v:=oZ b m t;let X:=chainOf (Value.iface 39 (Value.int .i64 (190:Int)));let G:=true->True/\(false=false->v=false/\true/\X=X);let u:=bz z t+60;let f:=u-1;let r:=jo w h (bz z t) f;true/\(YI b t->(big z/\big t)/\(i->inR .i64 e/\inR .i64 j/\inR .i64 g/\True/\wdP w h e g/\(∃x,EN x/\x=0/\b=b/\m=m/\t=t/\1=1/\0=0/\0=0/\e=e/\dN z t=dN z t/\bz z t=bz z t/\dN z t=dN z t/\b=b/\t=t/\bz z t=bz z t/\dN z t=dN z t/\bz z t=bz z t/\dN z t=dN z t/\m=m/\dN z t=dN z t/\i=i/\bz z t=bz z t/\e=e/\b=b/\e=e/\e=e/\j=j/\g=g/\e=e/\g=g/\b=b/\(0:Int)=(0:Int)/\True)/\(∀(x:Nat) (y:Int),EN x->m4 A x y->L5 1 0 (v/\L5 1 0 (y=QV b m t/\True)))/\∀(x:Nat),EN x->x=Dk A->G/\True)/\(i=false->inR .i64 u/\inR .i64 f/\True/\wdP w h (bz z t) f/\(∃x,EN x/\x=0/\b=b/\m=m/\t=t/\1=1/\0=0/\0=0/\bz z t=bz z t/\dN z t=dN z t/\bz z t=bz z t/\dN z t=dN z t/\b=b/\t=t/\bz z t=bz z t/\dN z t=dN z t/\bz z t=bz z t/\dN z t=dN z t/\m=m/\dN z t=dN z t/\i=i/\b=b/\bz z t=bz z t/\bz z t=bz z t/\u=u/\f=f/\bz z t=bz z t/\f=f/\b=b/\(0:Int)=(0:Int)/\True)/\(∀(x:Nat) (y:Int),EN x->m4 r x y->L5 1 0 (v/\L5 1 0 (y=QV b m t/\True)))/\∀(x:Nat),EN x->x=Dk r->G/\True))) ⟨rfl,λhp=>?_⟩
 refine Z9 ?_;obtain⟨hc,t1,t2⟩:=id hp;obtain⟨⟨z1,z2⟩,G,L⟩:=np hc;simp only at z1 z2 G L;have V:-1000000000<=bz z t/\bz z t<=1000000000:=by unfold bz;omega
 have i:∀b:Int,VW (z,w,h) m t=b->(∀(x:Nat) (y:Int),EN x->m4 (jo w h b (b+60-1)) x y->oZ (z,w,h) m t=true/\y=QV (z,w,h) m t)/\∀x:Nat,EN x->x=(jo w h b (b+60-1)).length->oZ (z,w,h) m t=false:=λb hb=>by
  have e:aC9 (z,w,h) m t=(jo w h b (b+60-1)).head?:=by
   unfold aC9;rw[hb,show b+60-1=b+59 by omega]
  refine⟨λx y g j=>?_,λx g j=>?_⟩
  .have g:x=0:=g;have j:(jo w h b (b+60-1))[x]?=some y:=j;rw[g,<- List.head?_eq_getElem?,<- e]at j;unfold oZ QV;rw[j];exact⟨rfl,rfl⟩
  .have g:x=0:=g;have:jo w h b (b+60-1)=[]:=vW Z;unfold oZ;rw[e,this];rfl
 refine⟨⟨⟨Z,Z⟩,t1,t2⟩,λO=>?_,λT=>?_⟩
 .obtain⟨v,u⟩:=i (bz z t+1) (by unfold VW;exact if_pos O);exact⟨aE Z,aE Z,aE Z,⟨G,L,⟨Z,Z⟩,⟨Z,Z⟩⟩,rfl,v,u⟩
 .obtain⟨v,u⟩:=i (bz z t) (by unfold VW;exact if_neg T);exact⟨aE Z,aE Z,⟨G,L,⟨Z,Z⟩,⟨Z,Z⟩⟩,rfl,v,u⟩
def oB: ai Tryz.prog iR aCW:=af (rQ λ((n,p),o,d,t,_) b=>(MB n p o d t b).1)<|af (ae λ(c,m,t,_)=>(RS c m t).1) OR
def aCT: bJ Tryz.prog iR aJq:=jt (wA λ((n,p),o,d,t,_) b=>(MB n p o d t b).2)<|jt (kg λ(c,m,t,_)=>(RS c m t).2) OS
def Yw{n:Net}{p:Plan}{o d t:Int}{xs:Li}(x:Ol n p o d t xs)(z:cellAt p o d≠-1)(A:bX xs=true): (0<=cellAt p o d/\cellAt p o d<n.2.2.2.2.1.length)/\Ol n p (fE n (cellAt p o d)).2.2.1 d (F6 (ax n o).1 (hd xs-2+p.1) (fE n (cellAt p o d)).2.2.2.1+(fE n (cellAt p o d)).2.2.2.2.1) (tl xs):=by
 obtain⟨⟨⟨h,e⟩,f,g⟩,v,b⟩:=x;obtain⟨⟨p0,p1,p2⟩,⟨X,V⟩,r,_⟩:=id e;obtain⟨g1,g2⟩:=r o d f g;have i:cellAt p o d<n.2.2.2.2.1.length:=by
  unfold l7 at g1;rw[vC z,kT,qC,qE]at g1;exact g1.1
 have j:0<=cellAt p o d:=Z;obtain⟨_,u,⟨m0,m1⟩,T,O⟩:=Zq h j i;obtain⟨⟨L,G⟩,hw,hs⟩:=np (L9 h f);have y:0<=hd xs/\hd xs<=65519:=fz.1 b.1 _ (bg (vN A));refine⟨⟨j,i⟩,⟨⟨h,e⟩,u,g⟩,⟨?_,?_⟩,fU b 1⟩<;>unfold F6<;>omega
def Lt{n:Net}{p:Plan}{d:Int}: ∀(f:Nat) {o t:Int} {xs:Li},Ol n p o d t xs->tOk (Lu n p d f o t xs).2.1/\fb (Lu n p d f o t xs).2.2
 | 0,o,t,xs,h=>⟨h.2.1,h.2.2⟩
 | f+1,o,t,xs,h=>by
  unfold Lu;by_cases i:o=d
  .rw[if_pos i];exact⟨h.2.1,h.2.2⟩
  rw[if_neg i];by_cases e:cellAt p o d=-1
  .rw[if_pos e];exact⟨h.2.1,h.2.2⟩
  rw[if_neg e];by_cases b:bX xs=false
  .rw[if_pos b];exact⟨h.2.1,h.2.2⟩
  rw[if_neg b];by_cases g:wn n o (cellAt p o d) p (hd xs) t=true
  .rw[if_pos g];exact Lt f (Yw h e (by simpa using b)).2
  .rw[if_neg g];exact⟨h.2.1,fU h.2.2 1⟩
def aCs{c:Cal}{m t:Int}(h:oZ c m t=true): VW c m t<=QV c m t/\QV c m t<=VW c m t+59:=by
 unfold oZ at h;unfold QV;cases e:aC9 c m t with
 | none=>rw[e]at h;cases h
 | some y=>
  unfold aC9 at e;have:=Zp (qCj e);exact⟨this.1,this.2.1⟩
def aDg(w:List Bool)(h:Li)(a b:Int): (jo w h a b).length<=(b+1-a).toNat:=by
 unfold jo;refine wH (zQ _ _) ?_;rw[qY,qU];exact qJ _
def RB(n:Net)(p:Plan)(k o d cut:Int)(xs:Li): ah Tryz.prog iR 83 [.ips [.ip N n,.ip Pl p,.ptr 1 1 0 0],.dat I k,.dat I o,.dat I d,.dat I cut] [(1,.var [.dat R xs])] ⟨ZL n p k o d cut xs/\Ae n p k o d cut xs=true,.tup [],[(1,.var [.dat R (QT n p o d cut xs)])]⟩/\
  dt Tryz.prog iR 83 [.ips [.ip N n,.ip Pl p,.ptr 1 1 0 0],.dat I k,.dat I o,.dat I d,.dat I cut] [(1,.var [.dat R xs])] ⟨ZL n p k o d cut xs,Ae n p k o d cut xs,d6 39 190⟩:=by
 refine zM (c:=c13) (A:=aJD) (q:=⟨ZL n p k o d cut xs,Ae n p k o d cut xs,d6 39 190⟩) oB aGg hm aCT (p:=let c1:=Am n p o d cut xs;let V:=Ae n p k o d cut xs;let i:=chainOf (Value.iface 39 (Value.int .i64 (190:Int)));let A:=n.2.2.2.2.2;let h:=CO n p o d cut xs;let T:=Ad n d h;let c7:=Du A (Dc k) (ByteArray.mk #[],(0:Int),(0:Int));let L:=c7.2.2;let c9:=oZ (ax n d) L T;let G:=(ax n d).1;let b:=QV (ax n d) L T;let f:=bz G cut;let c13:=b-f;let X:=Ee c13 2000;let O:=f+1;let c16:=(ax n d).2;let c17:=c16.1;let c18:=c16.2;let e:=dN G cut;let v:=QT n p o d cut xs;let c21:=jo c17 c18 O b;let u:=p.2.2.2;let r:=Du u (Dc k) (Dt (Li));let j:=Du r (Dc o) [];let g:=Du j (Dc d) 0;true/\(ZL n p k o d cut xs->1=1/\(true->Ol n p o d cut xs/\(c1=false->V=false/\true/\i=i))/\((true->c1)->(Ol n p o d cut xs/\c1)/\1=1/\(usP n/\lP n d)/\0<=k/\k<Df A/\aC4 n d h/\YI (ax n d) T/\(c9->0<=k/\k<Df A/\aC4 n d h/\(YI (ax n d) T/\c9)/\(big G/\big cut)/\inR .i64 c13/\(true->True/\(X=false->V=false/\true/\i=i))/\((true->X)->(True/\X)/\L5 1 0 (inR .i64 O/\True/\wdP c17 c18 O b/\(∃x,Vf x/\x=0/\L3 n p 1 0 0 k o d cut (L3 h (ax n d) b f e 1 0 0 n (L3 p 1 0 0 o d cut h n (L3 p 1 0 0 d (ax n d) (ax n d) n p (L3 1 0 0 n p 1 0 0 n (L3 p 1 0 0 n n A A k (L3 c7 L L n p 1 0 0 d (L3 h T b f e (ax n d) cut f e (L3 f e b f c13 X (ax n d) f O (T2 b O b (ax n d) v (0=Dz x/\T3 1)))))))))))/\(∀(x:Nat),let c26:=Dz x+1;
  ∀(y:Int),Vf x->m4 c21 x y->L5 1 0 (inR .i64 c26/\L5 1 0 (∃z,Vf z/\z=x+1/\L3 n p 1 0 0 k o d cut (L3 h (ax n d) b f e 1 0 0 n (L3 p 1 0 0 o d cut h n (L3 p 1 0 0 d (ax n d) (ax n d) n p (L3 1 0 0 n p 1 0 0 n (L3 p 1 0 0 n n A A k (L3 c7 L L n p 1 0 0 d (L3 h T b f e (ax n d) cut f e (L3 f e b f c13 X (ax n d) f O (T2 b O b (ax n d) v (c26=Dz z/\T3 1)))))))))))))/\∀(x:Nat),Vf x->x=Dk c21->L5 1 0 (0<=k/\k<Df u/\0<=o/\o<Df r/\0<=d/\d<Df j/\True/\(Ee (Dz x) g->L5 1 0 (0<=k/\k<Df u/\0<=o/\o<Df r/\0<=d/\d<Df j/\(True/\Ee (Dz x) g)/\V/\T7 v 1))/\(Ee (Dz x) g=false->V=false/\true/\i=i)))))/\(c9=false->V=false/\true/\i=i)))) ⟨rfl,λhp=>?_⟩
 refine Z9 ?_;obtain⟨hf,f⟩:=id hp;obtain⟨⟨⟨O,hpl⟩,ho,hd⟩,ht,hys⟩:=id hf;obtain⟨⟨p0,p1,p2⟩,⟨q1,q2⟩,q3,q4,q5⟩:=id hpl;obtain⟨ft,_⟩:=Lt 19 hf;have hcl:=Zr O f;have hc:=L9 O hd;obtain⟨⟨z1,z2⟩,hw,hs⟩:=np hc;have hr:=ZI (t:=CO n p o d cut xs) O hd;have ft:-3000000000<=CO n p o d cut xs/\CO n p o d cut xs<=3000000000:=ft;have ht2:-3000000000<=cut/\cut<=3000000000:=ht
 have eK:n.2.2.2.2.2.getD k.toNat (⟨#[]⟩,0,0)=fH n k:=rfl;have eL:QV (ax n d) (fH n k).2.2 (Ad n d (CO n p o d cut xs))=P8 n p k o d cut xs:=rfl;have eB:bz (ax n d).1 cut=Zb n d cut:=rfl;have eN:jo (ax n d).2.1 (ax n d).2.2 (Zb n d cut+1) (P8 n p k o d cut xs)=X3 n p k o d cut xs:=rfl;have eY:((p.2.2.2.getD k.toNat []).getD o.toNat []).getD d.toNat 0=kb p k o d:=rfl
 have eP:Ae n p k o d cut xs=(Am n p o d cut xs&&(oZ (ax n d) (fH n k).2.2 (Ad n d (CO n p o d cut xs))&&(decide (P8 n p k o d cut xs-Zb n d cut<=2000)&&decide (((X3 n p k o d cut xs).length:Int)<=kb p k o d)))):=rfl;simp only[eK,eL,eB,eN,eY];have T:aC4 n d (CO n p o d cut xs):=⟨O,hd,ft⟩;have hdp:YI (ax n d) (Ad n d (CO n p o d cut xs)):=⟨hc,⟨Z,Z⟩⟩
 have hB:-10000000<=Zb n d cut/\Zb n d cut<=10000000:=by unfold Zb bz;omega
 refine⟨⟨hf,λh=>by rw[eP,h];rfl⟩,λh1=>⟨⟨hf,h1⟩,⟨O,hd⟩,f.1,f.2,T,hdp,λh2=>⟨f.1,f.2,T,⟨hdp,h2⟩,⟨⟨Z,Z⟩,⟨Z,Z⟩⟩,?_⟩,λh=>by rw[eP,h1,h];rfl⟩⟩;have hD:=aCs h2;rw[eL]at hD
 have hbg:bz (ax n d).1 (Ad n d (CO n p o d cut xs))<=VW (ax n d) (fH n k).2.2 (Ad n d (CO n p o d cut xs))/\VW (ax n d) (fH n k).2.2 (Ad n d (CO n p o d cut xs))<=bz (ax n d).1 (Ad n d (CO n p o d cut xs))+1:=by unfold VW;split<;>omega
 have hbd:-10000000<=bz (ax n d).1 (Ad n d (CO n p o d cut xs))/\bz (ax n d).1 (Ad n d (CO n p o d cut xs))<=10000000:=by unfold bz;omega
 refine⟨aE Z,λh=>by rw[eP,h1,h2,vC h];rfl,λh3=>⟨h3,aE Z,⟨hw,hs,⟨Z,Z⟩,⟨Z,Z⟩⟩,⟨0,zA _,rfl,rfl⟩,λx y hx hy=>?_,λx hx hlen=>?_⟩⟩
 .have hlt:x<(X3 n p k o d cut xs).length:=(qG.1 hy).1;have:=aDg (ax n d).2.1 (ax n d).2.2 (Zb n d cut+1) (P8 n p k o d cut xs);rw[eN]at this;exact⟨aE Z,x+1,by show x+1<=4000000000000;omega,rfl,Z⟩
 .have X:=f.1;have hk2:=f.2;have V:=ho.1;have ho2:=ho.2;have hd1:=hd.1;have hd2:=hd.2;obtain⟨w1,w2⟩:=q5 _ (bg (l:=p.2.2.2) (i:=k.toNat) (d:=[]) Z);have w3:=w2 _ (bg (l:=p.2.2.2.getD k.toNat []) (i:=o.toNat) (d:=[]) Z);refine⟨X,Z,V,Z,hd1,Z,λh=>⟨X,Z,V,Z,hd1,Z,h,?_⟩,λh=>?_⟩
  .rw[eP,h1,h2,qW h3,qW Z];rfl
  .rw[eP,h1,h2,qW h3,vC Z];rfl
def cellsD(p:Plan)(k o:Int): Li:=(p.2.2.2.getD k.toNat []).getD o.toNat []
def fD(p:Plan)(k:Int): Lj:=p.2.2.2.getD k.toNat []
def runN(f:Nat->Li->Option (Li)): Nat->Li->Option (Li)
 | 0,x=>some x
 | m+1,x=>(runN f m x).bind (f m)
def Bf(n:Net)(p:Plan)(k o d:Int)(j:Nat)(xs:Li): Option (Li):=if Ae n p k o d ((lZ n p k o).getD j 0) xs=true then some (QT n p o d ((lZ n p k o).getD j 0) xs)else none
def FO(n:Net)(p:Plan)(k o d:Int)(xs:Li): Option (Li):=if kb p k o d=-1 then some xs else runN (Bf n p k o d) (lZ n p k o).length xs
def ZD(n:Net)(p:Plan)(k o:Int)(xs:Li): Option (Li):=runN (λd=>FO n p k o (d:Int)) (cellsD p k o).length xs
def aDq(n:Net)(p:Plan)(k:Int)(xs:Li): Option (Li):=runN (λo=>ZD n p k (o:Int)) (fD p k).length xs
def st1(n:Net)(p:Plan)(l:Li)(k:Int): Option (Li):=runN (λk=>aDq n p (k:Int)) k.toNat l
def st2(n:Net)(p:Plan)(l:Li)(k o:Int): Option (Li):=(st1 n p l k).bind (runN (λo=>ZD n p k (o:Int)) o.toNat)
def st3(n:Net)(p:Plan)(l:Li)(k o d:Int): Option (Li):=(st2 n p l k o).bind (runN (λd=>FO n p k o (d:Int)) d.toNat)
def st4(n:Net)(p:Plan)(l:Li)(k o d:Int)(j:Nat): Option (Li):=(st3 n p l k o d).bind (runN (Bf n p k o d) j)
def Jo(n:Net)(p:Plan)(l:Li): Option (Li):=st1 n p l p.2.2.2.length
def Wp(n:Net)(p:Plan)(l:Li)(k:Int)(xs:Li): Prop:=(0<=k/\k<=p.2.2.2.length)/\st1 n p l k=some xs/\fb xs
def to2(n:Net)(p:Plan)(l:Li)(k o:Int)(xs:Li): Prop:=((0<=k/\k<p.2.2.2.length)/\0<=o/\o<=(fD p k).length)/\st2 n p l k o=some xs/\fb xs
def to3(n:Net)(p:Plan)(l:Li)(k o d:Int)(xs:Li): Prop:=((0<=k/\k<p.2.2.2.length)/\(0<=o/\o<(fD p k).length)/\0<=d/\d<=(cellsD p k o).length)/\st3 n p l k o d=some xs/\fb xs
def to4(n:Net)(p:Plan)(l:Li)(k o d j:Int)(xs:Li): Prop:=0<=j/\st4 n p l k o d j.toNat=some xs/\fb xs
def Sz(l:Li): Bool:=decide (l.length<=40000)
def r6(n:Net)(l:Li): Bool:=Om n (aA l)&&Sz l
def aIB(n:Net)(l:Li): Int:=if Jo n (aA l) (cy l)=some []then 0 else 190
def je(n:Net)(l:Li)(s:Int): Int:=if lg (l,s)=true then if usF n=true then if r6 n l=true then aIB n l else 190 else 1 else Ek (l,s)
def aBP(args:List AV)(m:Mem): Option jG:=match args,m with
 | [.agg [.dat (.sl (.int .i64)) l,.dat (.int .i64) s]],[]=>some ⟨HE (l,s)/\lg (l,s)=true,.tup [.agg [.dat I (aA l).1,.dat I (aA l).2.1,.dat M (aA l).2.2.1,.dat (.sl M) (aA l).2.2.2],.ptr 1 1 0 0],[(1,.var [.dat R (cy l)])]⟩
 | _,_=>none
def aCV: Kt:=kOr 71 aBP <|
 kOr 80 Ui <|
 kOr 81 N5 <|
 kOr 83 (ZS 1 R [.pv 1 N Pl,.val I,.val I,.val I,.val I] (λ((n,p),k,o,d,cut,_) b=>ZL n p k o d cut b/\Ae n p k o d cut b=true) (λ_ _=>.tup []) λ((n,p),k,o,d,cut,_) b=>QT n p o d cut b) aCW
def aIs: KPt:=pOr 71 (Ao [.row Ce] λ(c,_)=>⟨HE c,lg c,d6 39 (Ek c)⟩) <|
 pOr 83 (aBZ 1 R [.pv 1 N Pl,.val I,.val I,.val I,.val I] λ((n,p),k,o,d,cut,_) b=>⟨ZL n p k o d cut b,Ae n p k o d cut b,d6 39 190⟩) KPr
def KI2: FuncId->List AV->Option jF:=λf b=>if f=151 then match ofK [.pvb N Pl,.ptr I,.ptr I] b with
 | some ((n,p),o,k,_)=>some ⟨aF3 n p k o,I,lZ n p k o⟩
 | none=>none
 else KI1 f b
def c14: Cfg:=PX aCV (λ_=>false) aIs (λf=>f==79||f==71)
def c15: Cfg:=aBY aCV KI2 aIs (λf=>f==79||f==71||f==83)
def keep(s:St)(x:Li): St:={ic s with mem:=wz (s.mem.filter λb=>b.1<=2) 1 (.var [.dat R x])}
def aJT(n:Net)(l:Li): Ann:=⟨λe s=>match e with
 | 7=>some {α:=Int×Li,inv:=λx=>Wp n (aA l) (cy l) x.1 x.2,st:=λx=>fu (put (ic s) [(37,.dat I x.1)]) 1 (.var [.dat R x.2]),μ:=λx=>Dc (Di (Df (aA l).2.2.2) x.1)}
 | 10=>match s.sig.T 39 with
  | .dat (.int .i64) k=>some {α:=Int×Li,inv:=λx=>to2 n (aA l) (cy l) k x.1 x.2,st:=λx=>fu (put (ic s) [(44,.dat I x.1)]) 1 (.var [.dat R x.2]),μ:=λx=>Dc (Di (Df (fD (aA l) k)) x.1)}
  | _=>none
 | 13=>match s.sig.T 39,s.sig.T 46 with
  | .dat (.int .i64) k,.dat (.int .i64) o=>some {α:=Int×Li,inv:=λx=>to3 n (aA l) (cy l) k o x.1 x.2,st:=λx=>fu (put (ic s) [(51,.dat I x.1)]) 1 (.var [.dat R x.2]),μ:=λx=>Dc (Di (Df (cellsD (aA l) k o)) x.1)}
  | _,_=>none
 | 17=>match s.sig.T 39,s.sig.T 46,s.sig.T 53 with
  | .dat (.int .i64) k,.dat (.int .i64) o,.dat (.int .i64) d=>some {α:=Int×Li,inv:=λx=>to4 n (aA l) (cy l) k o d x.1 x.2,st:=λx=>fu (ic s) 1 (.var [.dat R x.2]),μ:=λx=>Dc x.1}
  | _,_,_=>none
 | _=>none,λe s=>match e with
 | 3=>some (put {s with mem:=s.mem.filter λb=>b.1 != 2} [(5,.ip Pl (aA l))])
 | _=>none,λ_ _=>none⟩
def XQ: ∀args m c,aBP args m=some c->ah Tryz.prog iR 71 args m c:=by
 intro args m c h;unfold aBP at h;split at h
 .cases h;exact(Zx _ _).1
 .cases h
def oA: ai Tryz.prog iR aCV:=af XQ<|af aJz<|af aG6<|af (rQ λ((n,p),k,o,d,cut,_) b=>(RB n p k o d cut b).1) oB
def aCS: bJ Tryz.prog iR aIs:=jt (kg λ(c,_)=>(Zx c.2 c.1).2)<|jt (wA λ((n,p),k,o,d,cut,_) b=>(RB n p k o d cut b).2) OS
def aJ3: bf Tryz.prog iR KI2:=by
 intro f b g h;unfold KI2 at h;split at h
 .rename_i e;subst e;split at h
  .rename_i n p o k _ i;cases h;exact mA.args (aDL n p k o) λC r j=>fS i j
  .cases h
 .exact aGg f b g h
def A8{l:Li}(b:fb l)(h:pj l=true): (0<=l.getD 2 0/\l.getD 2 0<=12)/\(0<=l.getD 3 0/\l.getD 3 0<=4)/\0<=l.getD 0 0/\l.getD 0 0<l.getD 1 0/\l.getD 1 0<=600:=by
 have bd:∀k:Nat,0<=l.getD k 0:=λk=>by
  by_cases e:k<l.length
  .exact(fz.1 b.1 _ (bg e)).1
  .rw[qA,zH Z];exact qH _
 unfold pj wa at h;simp only[qC,qE]at h;exact⟨⟨bd 2,h.1.2.1⟩,⟨bd 3,h.1.2.2.1⟩,bd 0,h.1.2.2.2.1,h.1.2.2.2.2.2⟩
def zi(g:Int->Int->Int)(n:Int): (eH g n).length=n.toNat:=by unfold eH;simp
def ri{g:Int->Int->Int}{n:Int}{r:Li}(h:r∈eH g n): r.length=n.toNat/\∀x∈r,∃i j,x=g i j:=by
 unfold eH at h;obtain⟨i,_,rfl⟩:=vM.1 h;refine⟨by simp,λx b=>?_⟩;obtain⟨j,_,rfl⟩:=vM.1 b;exact⟨_,_,rfl⟩
def Y7{g:Int->Int->Int}{n i j:Int}(f:0<=i/\i<n)(b:0<=j/\j<n): ((eH g n).getD i.toNat []).getD j.toNat 0=g i j:=by
 unfold eH;have r:i.toNat<n.toNat:=Z;have h:j.toNat<n.toNat:=Z;have e:((List.range n.toNat).map λi:Nat=>(List.range n.toNat).map λj:Nat=>g i j).getD i.toNat []=(List.range n.toNat).map λj:Nat=>g (i.toNat:Nat) j:=by
  rw[qA,qR,vO r];rfl
 rw[e,qA,qR,vO h,vI f.1];show g i (j.toNat:Nat)=_;rw[vI b.1]
def aDm{l:Li}(b:fb l)(m i j:Int): -1<=tg l m i j:=by
 unfold tg;have:0<=l.getD (i*m+j).toNat 0:=by
  by_cases e:(i*m+j).toNat<l.length
  .exact(fz.1 b.1 _ (bg e)).1
  .rw[qA,zH Z];exact qH _
 omega
def Ws{q m:Int}{l:Li}{t:Lj}(h:t∈Aa q m l): ∃k,t=oh m (bV l k):=by
 unfold Aa at h;obtain⟨i,_,rfl⟩:=vM.1 h;exact⟨_,rfl⟩
def Wu(q m:Int)(l:Li): (Aa q m l).length=q.toNat:=by unfold Aa;simp
def aBN{l:Li}(b:fb l)(h:pj l=true): nxP (aA l):=by
 obtain⟨⟨v,u⟩,_⟩:=A8 b h;refine⟨?_,λr f=>?_⟩
 .show(eH _ _).length<=_;rw[zi];omega
 .obtain⟨y,g⟩:=ri f;refine⟨Z,λx e=>?_⟩;obtain⟨i,j,rfl⟩:=g x e;exact aDm (fU b 4) _ _ _
def XJ{n:Net}{l:Li}(y:fb l)(h:pj l=true)(v:Om n (aA l)=true): plP n (aA l):=by
 obtain⟨⟨m0,m1⟩,⟨q0,q1⟩,a0,a1,a2⟩:=A8 y h;unfold Om at v;simp only[qC,qE,qO,qZ]at v;obtain⟨⟨V,T⟩,O⟩:=v;have e1:(aA l).2.2.1.length=(l.getD 2 0).toNat:=zi _ _;have e2:(aA l).2.2.2.length=(l.getD 3 0).toNat:=Wu _ _ _;refine⟨⟨a0,by show l.getD 0 0<=l.getD 1 0;omega,a2⟩,⟨V,λr b=>?_⟩,λi j L G=>?_,T,λt A=>?_⟩
 .have h1:=(ri b).1;omega
 .obtain⟨x,i1⟩:=L;obtain⟨z,j1⟩:=G;have u:i<l.getD 2 0:=Z;have f:j<l.getD 2 0:=Z;have X:cellAt (aA l) i j=tg (bV l 4) (l.getD 2 0) i j:=Y7 ⟨x,u⟩ ⟨z,f⟩;have:=O i.toNat Z;unfold oM at this;rw[qO,vI x]at this;have b:=(ri (g:=tg (bV l 4) (l.getD 2 0)) (n:=l.getD 2 0) (r:=(aA l).2.2.1.getD i.toNat []) (bg (by omega:i.toNat<(aA l).2.2.1.length))).1;refine⟨this _ (bg Z),?_⟩;rw[X]
  exact aDm (fU y 4) _ _ _
 .obtain⟨k,rfl⟩:=Ws A;have e:(oh (l.getD 2 0) (bV (bV l (4+l.getD 2 0*l.getD 2 0)) k)).length=(l.getD 2 0).toNat:=zi _ _;refine⟨Z,λr b=>?_⟩;have:=(ri b).1;omega
def pH{f:Nat->Li->Option (Li)}{m:Nat}{x:Li}(h:runN f m x=none): ∀{k:Nat},m<=k->runN f k x=none:=by
 intro k e;induction e with
 | refl=>exact h
 | step _ b=>rw[runN,b];rfl
def nS{α:Type}(x:Option α): (x.bind λy=>some y)=x:=by cases x<;>rfl
def bind_none{α:Type}{x:Option α}{f g:α->Option α}(h:x.bind f=none)(b:∀y,f y=none->g y=none): x.bind g=none:=by
 cases x with
 | none=>rfl
 | some y=>exact b y h
section
variable {n:Net} {p:Plan} {l:Li} {k o d:Int}
def Xd: st2 n p l k 0=st1 n p l k:=nS _
def Xa: st3 n p l k o 0=st2 n p l k o:=nS _
def W7: st4 n p l k o d 0=st3 n p l k o d:=nS _
def MH(b:0<=k): st1 n p l (k+1)=st2 n p l k (fD p k).length:=by
 unfold st2;rw[qP];show runN _ (k+1).toNat l=_;rw[show(k+1).toNat=k.toNat+1 by omega,runN,vI b];rfl
def MG(b:0<=o): st2 n p l k (o+1)=st3 n p l k o (cellsD p k o).length:=by
 unfold st3 st2;rw[qP,show(o+1).toNat=o.toNat+1 by omega,qCx]
 congr 1
 funext x
 rw[runN,vI b];rfl
def Xb(e:0<=d)(h:kb p k o d=-1): st3 n p l k o (d+1)=st3 n p l k o d:=by
 unfold st3;rw[show(d+1).toNat=d.toNat+1 by omega]
 congr 1
 funext x
 rw[runN,vI e,show FO n p k o d=λb=>some b from funext λb=>if_pos h];exact nS _
def MF(e:0<=d)(h:kb p k o d≠-1): st3 n p l k o (d+1)=st4 n p l k o d (lZ n p k o).length:=by
 unfold st4 st3;rw[show(d+1).toNat=d.toNat+1 by omega,qCx]
 congr 1
 funext x
 rw[runN,vI e,show FO n p k o d=λb=>runN (Bf n p k o d) (lZ n p k o).length b from funext λb=>if_neg h]
def W8(j:Nat): st4 n p l k o d (j+1)=(st4 n p l k o d j).bind (Bf n p k o d j):=by
 unfold st4;rw[qCx];rfl
def Xf{b:Int}(h:st1 n p l k=none)(e:k<=b): st1 n p l b=none:=pH h Z
def Xe{o':Int}(h:st2 n p l k o=none)(e:o<=o'): st2 n p l k o'=none:=bind_none h λy b=>pH b Z
def Xc{d':Int}(h:st3 n p l k o d=none)(e:d<=d'): st3 n p l k o d'=none:=bind_none h λy b=>pH b Z
def W9{j b:Nat}(h:st4 n p l k o d j=none)(f:j<=b): st4 n p l k o d b=none:=bind_none h λy e=>pH e f
def aBe{j:Nat}(h:st4 n p l k o d j=none)(r:j<=(lZ n p k o).length)(hd:kb p k o d≠-1)(u:0<=d)(y:d<(cellsD p k o).length)(g:0<=o)(v:o<(fD p k).length)(i:0<=k)(x:k<p.2.2.2.length): Jo n p l=none:=by
 have f:=W9 h r;rw[<- MF u hd]at f;have e:=Xc f (d':=(cellsD p k o).length) Z;rw[<- MG g]at e;have b:=Xe e (o':=(fD p k).length) Z;rw[<- MH i]at b;exact Xf b Z
end
def aBa(s:Int)(l:Li)(cs:List Cal)(ns V:List ByteArray)(X:List Off)(ls:List Line)(ks:List Cla): ah Tryz.prog iR 26 [.agg [.dat (.sl C) cs,.dat (.sl S) ns,.dat (.sl S) V,.dat (.sl Of) X,.dat (.sl Ln) ls,.dat (.sl Kl) ks],.agg [.dat R l,.dat I s]] [] ⟨Ua l/\F5 (cs,ns,V,X,ls,ks),.dat I (je (cs,ns,V,X,ls,ks) l s),[]⟩:=by
 refine zR (c:=c15) (A0:=az) (A:=(aJT (cs,ns,V,X,ls,ks) l)) (Ac:=az) oA oA aJ3 hm aCS (p:=let e:=(cs,ns,V,X,ls,ks);let c2:=(l,s);let c3:=lg c2;let c4:=je e l s;let h:=(aA l).1;let aV:=(aA l).2;let j:=aV.1;let c8:=aV.2;let r:=c8.1;let b:=c8.2;let G:=usF e;let A:=Om e (aA l);let c13:=Ea A (Ee (Df l) 40000) false;let c14:=Df b;(true/\true)/\(Ua l/\F5 e->true/\(true->HE c2/\(c3=false->true/\true/\(Dj false->True/\Q3 1 0 1 0 (Ek c2=c4/\True))/\(Dj false=false->L5 1 0 (0=c4/\True))))/\((true->c3)->(HE c2/\c3)/\L3 1 0 cs ns V X ls ks l (T5 s e c2 1 0 0 1 0 ((h,j,r,b)=aA l/\L3 1 0 0 undef undef undef undef undef undef (L3 undef undef 1 0 0 h j r b (L3 1 0 0 l s h j r b (L3 1 0 0 h j r b 1 0 (L3 0 undef undef undef undef undef undef undef undef (L3 undef undef undef undef undef undef undef undef undef (L3 undef undef undef undef undef undef undef undef undef (L3 undef undef undef undef undef undef undef undef undef (L3 undef undef undef undef undef undef undef undef undef (L3 undef undef undef undef undef undef undef undef undef (L3 undef undef undef undef undef Q1 (cy l) 1 0 (0=0/\F5 e/\(true->True/\(G=false->true/\true/\(Dj false->True/\Q3 1 0 1 0 (1=c4/\True))/\(Dj false=false->L5 1 0 (0=c4/\True))))/\((true->G)->(True/\G)/\(F5 e/\nxP (aA l))/\(A->A->A)/\(A->A->A)/\(A->A->A)/\(Dh true A->A)/\(true->True/\(c13=false->true/\true/\(Dj false->True/\Q3 1 0 1 0 (190=c4/\True))/\(Dj false=false->L5 1 0 (0=c4/\True))))/\((true->c13)->(True/\c13)/\Q3 1 1 1 0 ((∃(x:Int×Li),let c15:=x.1;let c16:=x.2;
  Wp e (aA l) (cy l) c15 c16/\L3 cs ns V X ls ks l s e (L3 c2 1 0 0 (aA l) 1 0 0 1 (L3 0 0 1 0 0 h j r b (L3 1 0 0 l s h j r b (L3 1 0 0 h j r b 1 0 (L3 0 G A A c13 1 0 0 e (L3 (aA l) 1 0 0 e (aA l) 1 0 0 (L7 b b c14 (0=c15/\(0:Int)=(0:Int)/\cy l=c16/\w7 e (aA l) 1 0 0 1 0 0)))))))))/\∀(x:Int×Li),let f:=x.1;let c18:=x.2;let T:=Dp f c14;let i:=Du b (Dc f) (Dt (Li));let O:=Df i;let c22:=Df (fD (aA l) f);let c23:=f+1;let c24:=Ec (Df c18) 0;Wp e (aA l) (cy l) f c18->(T->0<=f/\f<c14/\L5 1 0 ((∃(x:Int×Li),let c25:=x.1;let c26:=x.2;to2 e (aA l) (cy l) f c25 c26/\L3 cs ns V X ls ks l s e (L3 c2 1 0 0 (aA l) 1 0 0 1 (L3 0 0 1 0 0 i 1 0 0 (L3 h j r b 1 0 0 l s (L3 h j r b 1 0 0 h j (L3 r b 1 0 0 G A A c13 (L3 1 0 0 e (aA l) 1 0 0 e (L3 (aA l) 1 0 0 b b c14 f T (T2 f i i i O (0=c25/\(0:Int)=(0:Int)/\c18=c26/\w6 e (aA l) 1 0 0 f 1 0 0))))))))))/\∀(x:Int×Li),let g:=x.1;let c28:=x.2;let c29:=Dp g O;let v:=Du i (Dc g) [];let c31:=Df v;let c32:=Df (cellsD (aA l) f g);let c33:=lZ e (aA l) f g;let c34:=g+1;to2 e (aA l) (cy l) f g c28->(c29->0<=g/\g<O/\L5 1 0 ((∃(x:Int×List Int),let c35:=x.1;let c36:=x.2;
  to3 e (aA l) (cy l) f g c35 c36/\L3 cs ns V X ls ks l s e (L3 c2 1 0 0 (aA l) 1 0 0 1 (L3 0 0 1 0 0 i 1 0 0 (L3 v 1 0 0 h j r b 1 (L3 0 0 l s h j r b 1 (L3 0 0 h j r b 1 0 0 (L3 G A A c13 1 0 0 e (aA l) (L3 1 0 0 e (aA l) 1 0 0 b (L3 b c14 f T f i i i O (T4 g c29 g v v v c31 (0=c35/\(0:Int)=(0:Int)/\c28=c36/\L3 e (aA l) 1 0 0 f g 1 0 (T3 0))))))))))))/\∀(x:Int×Li),let u:=x.1;let c38:=x.2;let c39:=Dp u c31;let L:=Du v (Dc u) 0;let c41:=Ec L (-1);let c42:=u+1;to3 e (aA l) (cy l) f g u c38->(c39->0<=u/\u<c31/\L5 1 0 ((c41->inR .i64 c42/\∃(y:Int×Li),let c43:=y.1;let c44:=y.2;to3 e (aA l) (cy l) f g c43 c44/\(L3 cs ns V X ls ks l s e (L3 c2 1 0 0 (aA l) 1 0 0 1 (L3 0 0 1 0 0 i 1 0 0 (L3 v 1 0 0 h j r b 1 (L3 0 0 l s h j r b 1 (L3 0 0 h j r b 1 0 0 (L3 G A A c13 1 0 0 e (aA l) (L3 1 0 0 e (aA l) 1 0 0 b (L3 b c14 f T f i i i O (T4 g c29 g v v v c31 (c42=c43/\(0:Int)=(0:Int)/\c38=c44/\L3 e (aA l) 1 0 0 f g 1 0 (T3 0))))))))))))/\Dc (c32-c43)<Dc (c32-u))/\(c41=false->T6 1 0 1 0 1 0 (True/\aF3 e (aA l) f g/\(∃(x:Int×Li),let c45:=x.1;let c46:=x.2;
  to4 e (aA l) (cy l) f g u c45 c46/\Dc c45=0/\L3 cs ns V X ls ks l s e (L3 c2 1 0 0 (aA l) 1 0 0 1 (L3 0 0 1 0 0 i 1 0 0 (L3 v 1 0 0 L 1 0 0 h (L3 j r b 1 0 0 l s h (L3 j r b 1 0 0 h j r (L3 b 1 0 0 G A A c13 1 (L3 0 0 e (aA l) 1 0 0 e (aA l) (L3 1 0 0 b b c14 f T f (L3 i i i O g c29 g v v (L3 v c31 u c39 u L L L c41 (L3 e (aA l) 1 0 0 f g e (aA l) (L7 g f Q1 (c38=c46/\L3 e (aA l) 1 0 0 f g u 1 (T7 0 0)))))))))))))))/\(∀(x:Int×Li),let c47:=x.1;let c48:=x.2;let c49:=Dc c47;∀(y:Int),let c50:=Ae e (aA l) f g u y c48;to4 e (aA l) (cy l) f g u c47 c48->m4 c33 c49 y->T5 1 0 1 0 1 0 1 0 ((true->ZL e (aA l) f g u y c48/\(c50=false->true/\true/\(Dj false->True/\Q3 1 0 1 0 (190=c4/\True))/\(Dj false=false->L5 1 0 (0=c4/\True))))/\((true->c50)->(ZL e (aA l) f g u y c48/\c50)/\1=1/\∃(z:Int×Li),let c51:=z.1;let c52:=z.2;
  to4 e (aA l) (cy l) f g u c51 c52/\Dc c51=c49+1/\L3 cs ns V X ls ks l s e (L3 c2 1 0 0 (aA l) 1 0 0 1 (L3 0 0 1 0 0 i 1 0 0 (L3 v 1 0 0 L 1 0 0 h (L3 j r b 1 0 0 l s h (L3 j r b 1 0 0 h j r (L3 b 1 0 0 G A A c13 1 (L3 0 0 e (aA l) 1 0 0 e (aA l) (L3 1 0 0 b b c14 f T f (L3 i i i O g c29 g v v (L3 v c31 u c39 u L L L c41 (L3 e (aA l) 1 0 0 f g e (aA l) (L7 g f Q1 (QT e (aA l) g u y c48=c52/\L3 e (aA l) 1 0 0 f g u 1 (T7 0 0)))))))))))))))))/\∀(x:Int×List Int),let c53:=x.1;let c54:=x.2;to4 e (aA l) (cy l) f g u c53 c54->Dc c53=Dk c33->inR .i64 c42/\∃(y:Int×Li),let c55:=y.1;let c56:=y.2;to3 e (aA l) (cy l) f g c55 c56/\(L3 cs ns V X ls ks l s e (L3 c2 1 0 0 (aA l) 1 0 0 1 (L3 0 0 1 0 0 i 1 0 0 (L3 v 1 0 0 h j r b 1 (L3 0 0 l s h j r b 1 (L3 0 0 h j r b 1 0 0 (L3 G A A c13 1 0 0 e (aA l) (L3 1 0 0 e (aA l) 1 0 0 b (L3 b c14 f T f i i i O (T4 g c29 g v v v c31 (c42=c55/\(0:Int)=(0:Int)/\c54=c56/\L3 e (aA l) 1 0 0 f g 1 0 (T3 0))))))))))))/\Dc (c32-c55)<Dc (c32-u)))))/\(c39=false->inR .i64 c34/\∃(y:Int×Li),let c57:=y.1;let c58:=y.2;
  to2 e (aA l) (cy l) f c57 c58/\(L3 cs ns V X ls ks l s e (L3 c2 1 0 0 (aA l) 1 0 0 1 (L3 0 0 1 0 0 i 1 0 0 (L3 h j r b 1 0 0 l s (L3 h j r b 1 0 0 h j (L3 r b 1 0 0 G A A c13 (L3 1 0 0 e (aA l) 1 0 0 e (L3 (aA l) 1 0 0 b b c14 f T (T2 f i i i O (c34=c57/\(0:Int)=(0:Int)/\c38=c58/\w6 e (aA l) 1 0 0 f 1 0 0))))))))))/\Dc (c22-c57)<Dc (c22-g))))/\(c29=false->inR .i64 c23/\∃(y:Int×Li),let c59:=y.1;let c60:=y.2;Wp e (aA l) (cy l) c59 c60/\(L3 cs ns V X ls ks l s e (L3 c2 1 0 0 (aA l) 1 0 0 1 (L3 0 0 1 0 0 h j r b (L3 1 0 0 l s h j r b (L3 1 0 0 h j r b 1 0 (L3 0 G A A c13 1 0 0 e (L3 (aA l) 1 0 0 e (aA l) 1 0 0 (L7 b b c14 (c23=c59/\(0:Int)=(0:Int)/\c28=c60/\w7 e (aA l) 1 0 0 1 0 0)))))))))/\Dc (c14-c59)<Dc (c14-f))))/\(T=false->Q3 1 1 1 0 ((true->True/\(c24=false->true/\true/\(Dj false->True/\Q3 1 0 1 0 (190=c4/\True))/\(Dj false=false->L5 1 0 (0=c4/\True))))/\((true->c24)->(True/\c24)/\L5 1 0 (true/\true/\(Dj true->False)/\(Dj true=false->L5 1 0 (0=c4/\True))))))))))))))))))))))))) ⟨⟨rfl,rfl⟩,λhp=>?_⟩
 refine Z9 ?_;obtain⟨hl,hn⟩:=hp;generalize (cs,ns,V,X,ls,ks)=n at hn ⊢;have two:∀{p q:Prop},p->(p/\(false=true->q)):=λh=>⟨h,λh=>by cases h⟩
 have eF:je n l s=if lg (l,s)=true then if usF n=true then if r6 n l=true then aIB n l else 190 else 1 else Ek (l,s):=rfl
 refine⟨⟨hl,λh=>two (by rw[eF,if_neg (by rw[h];exact Bool.noConfusion)])⟩,λh1=>⟨⟨hl,h1⟩,hn,λh=>two (by rw[eF,if_pos h1,if_neg (by rw[h];exact Bool.noConfusion)]),λh2=>?_⟩⟩;have hs:gv l s=true/\pj l=true:=by
  unfold lg at h1
  rwa [qC]at h1
 have hnum:fb l:=⟨by have:=hs.1;unfold gv at this;rw[qC]at this;exact this.1,hl⟩;have hnx:=aBN hnum hs.2;refine⟨h2,⟨hn,hnx⟩,λh=>two ?_,λh3=>⟨h3,?_⟩⟩
 .have:r6 n l=false:=by
   unfold r6 Sz;cases e:Om n (aA l)with
   | false=>rfl
   | true=>rw[vC (by have:=h e;omega)];rfl
  rw[eF,if_pos h1,if_pos h2,if_neg (by rw[this];exact Bool.noConfusion)]
 have hfa:r6 n l=true:=by
  unfold r6 Sz;rw[h3.1,qW (by have:=h3.2;omega)];rfl
 have hpl:=XJ hnum hs.2 h3.1;have eC:je n l s=if Jo n (aA l) (cy l)=some []then 0 else 190:=by rw[eF,if_pos h1,if_pos h2,if_pos hfa];rfl
 have hrest:fb (cy l):=fU hnum _;obtain⟨p,ep⟩:∃p,p=aA l:=⟨_,rfl⟩;obtain⟨r,er⟩:∃r,r=cy l:=⟨_,rfl⟩;rw[<- ep]at hpl;rw[<- er]at hrest;rw[eC];rw[<- ep,<- er];clear eC eF hnx hfa h3 hs h1;obtain⟨⟨p0,p1,p2⟩,⟨q1,q2⟩,q3,q4,q5⟩:=id hpl;have eRow:∀k:Int,p.2.2.2.getD k.toNat []=fD p k:=λ_=>rfl
 have eCel:∀k o:Int,(fD p k).getD o.toNat []=cellsD p k o:=λ_ _=>rfl
 have eDay:∀k o d:Int,(cellsD p k o).getD d.toNat 0=kb p k o d:=λ_ _ _=>rfl
 simp only[eRow,eCel,eDay];have hu:usP n:=⟨h2,hn⟩;have hno:n.2.2.2.1.length<=2000000000000000:=hn.1.1.2;have hnk:n.2.2.2.2.2.length<=2000000000000000:=hn.2;refine⟨⟨(0,r),⟨⟨qH _,qM _⟩,rfl,hrest⟩,rfl,rfl⟩,λ⟨k,xs⟩ ⟨⟨k0,k1⟩,kx,kn⟩=>⟨λhk=>?_,λhk=>?_⟩⟩
 .have hk:k<p.2.2.2.length:=hk;have hrw:(fD p k).length=n.2.2.2.1.length/\∀r∈fD p k,r.length=n.2.2.2.1.length:=q5 _ (bg Z);refine⟨k0,hk,⟨(0,xs),⟨⟨⟨k0,hk⟩,qH _,qM _⟩,by rw[Xd];exact kx,kn⟩,rfl,rfl⟩,λ⟨o,ys⟩ ⟨⟨_,o0,o1⟩,ox,on⟩=>⟨λho=>?_,λho=>?_⟩⟩
  .have ho:o<(fD p k).length:=ho;have hcl:(cellsD p k o).length=n.2.2.2.1.length:=hrw.2 _ (bg Z);refine⟨o0,ho,⟨(0,ys),⟨⟨⟨k0,hk⟩,⟨o0,ho⟩,qH _,qM _⟩,by rw[Xa];exact ox,on⟩,rfl,rfl⟩,λ⟨d,zs⟩ ⟨⟨_,_,d0,d1⟩,dx,dn⟩=>⟨λhd=>?_,λhd=>?_⟩⟩
   .have hd:d<(cellsD p k o).length:=hd;have d0:0<=d:=d0;have offO:lP n o:=⟨o0,by show o<_;omega⟩;have offD:lP n d:=⟨d0,Z⟩;have cla:Y0 n k:=⟨k0,by show k<_;omega⟩
    refine⟨d0,hd,λhm1=>⟨aE Z,⟨(d+1,zs),⟨⟨⟨k0,hk⟩,⟨o0,ho⟩,by show 0<=d+1;omega,by show d+1<=_;omega⟩,by rw[Xb d0 hm1];exact dx,dn⟩,⟨rfl,rfl⟩,by show(_-(d+1)).toNat<_;omega⟩⟩,λhm1=>⟨⟨⟨hu,hpl⟩,offO,cla⟩,⟨(0,zs),⟨qH _,by show st4 n p r k o d 0=_;rw[W7];exact dx,dn⟩,rfl,rfl⟩,λ⟨j,us⟩ y ⟨j0,jx,jn⟩ hy=>?_,λ⟨j,us⟩ ⟨j0,jx,jn⟩ hj=>?_⟩⟩
    .have hy:(lZ n p k o)[j.toNat]?=some y:=hy;obtain⟨jl,_⟩:=qG.1 hy;have hyd:(lZ n p k o).getD j.toNat 0=y:=by rw[qA,hy];rfl
     have hin:y7 p y=true:=by
      have:=zV hy;unfold lZ at this;exact(yS.1 this).2
     have hin2:1440*p.1<=y/\y<1440*p.2.1:=by
      unfold y7 at hin
      rwa [qC,qE,qE]at hin
     have hf:Ol n p o d y us:=⟨⟨⟨hu,hpl⟩,offO,offD⟩,⟨Z,Z⟩,jn⟩;have jx:st4 n p r k o d j.toNat=some us:=jx;have ju:st4 n p r k o d (j.toNat+1)=if Ae n p k o d y us=true then some (QT n p o d y us)else none:=by
      rw[W8,jx];show Bf n p k o d j.toNat us=_;unfold Bf;rw[hyd]
     refine⟨⟨⟨hf,cla⟩,λhno=>two ?_⟩,λhok=>⟨⟨⟨hf,cla⟩,hok⟩,⟨(j+1,QT n p o d y us),⟨by show 0<=j+1;have:0<=j:=j0;omega,by rw[show((j+1,QT n p o d y us).1).toNat=j.toNat+1 by show(j+1).toNat=_;have:0<=j:=j0;omega,ju,if_pos hok],(Lt 19 hf).2⟩,by show(j+1).toNat=_;have:0<=j:=j0;omega,rfl⟩⟩⟩;rw[if_neg (by rw[hno];exact Bool.noConfusion)]at ju;rw[aBe ju Z hm1 d0 hd o0 ho k0 hk]
     exact(if_neg (λh=>by cases h)).symm
    .have hj:j.toNat=(lZ n p k o).length:=hj;have jx:st4 n p r k o d j.toNat=some us:=jx;refine⟨aE Z,⟨(d+1,us),⟨⟨⟨k0,hk⟩,⟨o0,ho⟩,by show 0<=d+1;omega,by show d+1<=_;omega⟩,by rw[MF d0 hm1,<- hj];exact jx,jn⟩,⟨rfl,rfl⟩,by show(_-(d+1)).toNat<_;omega⟩⟩
   .have d1:d<=(cellsD p k o).length:=d1;have hd:¬d<(cellsD p k o).length:=hd;have de:d=(cellsD p k o).length:=Z;have o0:0<=o:=o0;refine⟨aE Z,⟨(o+1,zs),⟨⟨⟨k0,hk⟩,by show 0<=o+1;omega,by show o+1<=_;omega⟩,by rw[MG o0,<- de];exact dx,dn⟩,⟨rfl,rfl⟩,by show(_-(o+1)).toNat<_;omega⟩⟩
  .have o1:o<=(fD p k).length:=o1;have ho:¬o<(fD p k).length:=ho;have oe:o=(fD p k).length:=Z;have k0:0<=k:=k0;refine⟨aE Z,⟨(k+1,ys),⟨⟨by show 0<=k+1;omega,by show k+1<=_;omega⟩,by rw[MH k0,<- oe];exact ox,on⟩,⟨rfl,rfl⟩,by show(_-(k+1)).toNat<_;omega⟩⟩
 .have k1:k<=p.2.2.2.length:=k1;have hk:¬k<p.2.2.2.length:=hk;have ke:k=p.2.2.2.length:=Z;have ka:Jo n p r=some xs:=by unfold Jo;rw[<- ke];exact kx
  rw[ka];have xl:∀xs:Li,(some xs=some [])↔xs.length=0:=λxs=>by
   rw[wM,List.length_eq_zero_iff]
  refine⟨λh=>two ?_,λh=>⟨h,(λh=>by cases h),?_⟩⟩
  .have h:(xs.length:Int)≠0:=h;rw[if_neg (by rw[xl];omega)]
  .have h:(xs.length:Int)=0:=h;rw[if_pos (by rw[xl];omega)]
end Go.Eng.In
namespace Go.Eng.Sv
open Go.Proofs
def xCs: List (Int×List Bool×Li):=[(0,[true,true,true,true,true,true,true],[])]
def xNs: List ByteArray:=[⟨#[99]⟩]
def xOs: List ByteArray:=[⟨#[112]⟩]
def xFs: Lo:=[(⟨#[97]⟩,0,0,2,1,10,[]),(⟨#[98]⟩,0,0,2,1,10,[])]
def xLs: Ll:=[(⟨#[120]⟩,0,1,600,60,1),(⟨#[121]⟩,1,0,600,60,1)]
def xKs: Lk:=[(⟨#[107]⟩,300,720)]
def yFs: Lo:=[(⟨#[97]⟩,0,0,2,1,10,[]),(⟨#[98]⟩,0,0,2,1,10,[]),(⟨#[99]⟩,0,0,2,1,10,[])]
def yLs: Ll:=[(⟨#[120]⟩,0,1,600,60,1),(⟨#[121]⟩,1,0,600,60,1),(⟨#[122]⟩,0,2,600,60,1),(⟨#[119]⟩,2,0,600,60,1)]
def rE(a b:Li): Bool:=a==b
def DV(a b:Li)(k:Int): Prop:=0<=k/\k<=a.length/\a.length=b.length/\a.length<=1000000/\a.take k.toNat=b.take k.toNat
def pV(a:Li): Prop:=a.length<=1000000
def DR(a b:List (Lj)): Bool:=a==b
def DO(a b:List (Lj))(k:Int): Prop:=0<=k/\k<=a.length/\a.length=b.length/\a.take k.toNat=b.take k.toNat
def TW(a:List (Lj)): Prop:=a.length<=1000000/\∀t∈a,mild t
def smF(n:Net)(nx:Lj): Bool:=(UR n&&decide ((n.2.2.2.1.length:Int)<=6))&&(decide ((nx.length:Int)<=10)&&nx.all λr=>decide ((r.length:Int)<=10))
def aFN(nx:Lj)(k:Int): Prop:=0<=k/\k<=nx.length/\nx.length<=10/\∀i:Nat,(i:Int)<k->(nx.getD i []).length<=10
def w9(a b:Int): Bool:=decide (b<=IntKind.i64.wrap (a+9))||decide (b>IntKind.i64.wrap (a+60))
def aFO(n:Net)(a b:Int): Bool:=(smF n []&&decide ((n.2.2.2.2.2.length:Int)<=3))&&w9 a b
def KL1: Kt:=KC8
def aD0(a b:Li): Ann:=Z8 4 Int (DV a b) (λe k=>put e [(5,.dat I k)]) λk=>Dc (Di (Df a) k)
abbrev NV:=al [.val M,.val M] (λ(a,_,_)=>mild a) λ(a,b,_)=>.dat .bool (uk a b)
abbrev NW:=al [.val R,.val R] (λ(a,_,_)=>pV a) λ(a,b,_)=>.dat .bool (rE a b)
def KL2: Kt:=kOr 22 NV <|
 kOr 35 NW KC8
def aDY(a b:List (Lj)): Ann:=Z8 4 Int (DO a b) (λe k=>put e [(5,.dat I k)]) λk=>Dc (Di (Df a) k)
abbrev NU:=al [.val (.sl M),.val (.sl M)] (λ(a,_,_)=>TW a) λ(a,b,_)=>.dat .bool (DR a b)
def KL3: Kt:=kOr 24 NU KL2
def smA(nx:Lj): Ann:=Z8 4 Int (aFN nx) (λs k=>put s [(5,.dat I k)]) λk=>Dc (Di (Df nx) k)
abbrev BR:=al [.row N,.val M] (λ_=>True) λ(n,nx,_)=>.dat .bool (smF n nx)
def KL4: Kt:=kOr 37 BR KL3
abbrev BQ:=al [.row N,.val I,.val I] (λ_=>True) λ(n,a,b,_)=>.dat .bool (aFO n a b)
abbrev NY:=al [] (λ_=>True) λ_=>.agg [.dat (.sl C) xCs,.dat (.sl S) xNs,.dat (.sl S) xOs,.dat (.sl Of) xFs,.dat (.sl Ln) xLs,.dat (.sl Kl) xKs]
def KL5: Kt:=kOr 10 BQ <|
 kOr 34 NY <|
 kOr 11 tL <|
 kOr 12 x6 <|
 kOr 26 (al [.row N,.row (.pair R I)] (λ(n,c,_)=>Go.Eng.In.Ua c.1/\Go.Eng.In.F5 n) λ(n,c,_)=>.dat I (Go.Eng.In.je n c.1 c.2)) <|
 kOr 36 (al [.val R] (λ(l,_)=>Go.Eng.In.ZT l) λ(l,_)=>.dat I (Go.Eng.In.rD l)) KL4
def aJI: Ann:=⟨λ_ _=>none,λb s=>match b with
 | 8=>some (aEG [1,2,3,4,5,6,9,10] (frz ((s.mem.filter λp=>match p.2 with
  | .buf ..=>true
  | _=>false).map (·.1)) s))
 | _=>none,λ_ _=>none⟩
abbrev x4:=al [] (λ_=>True) λ_=>.dat .bool true
def KL6: Kt:=kOr 9 x4 KL5
def aJa: ai Tryz.prog G0 KL1:=VY
def aGZ: eO 22 NV:=ae λ((a:Lj),(b:Lj),_)=>by
 refine zE (A:=(lvA [(4,[0,1,4,5,6]),(9,[0,1,4,5,6])] (aDZ a b))) (p:=let g:=Dw (Df a) (Df b);(mild a->(g->false=uk a b/\True)/\(g=false->(∃x,DU a b x/\L5 a b (0=x/\True))/\∀(x:Int),let h:=Dp x (Df a);let i:=Du a (Dc x) [];let e:=Df i;let j:=Du b (Dc x) [];let u:=Df j;let v:=Dw e u;let T:=x+1;DU a b x->(h->0<=x/\x<Df a/\0<=x/\x<Df b/\(v->false=uk a b/\True)/\(v=false->(∃f,DW a b x f/\L7 a b x (0=f/\True))/\∀(f:Int),let z:=Dw (Du i (Dc f) 0) (Du j (Dc f) 0);let r:=f+1;DW a b x f->0<=x/\x<Df a/\(Dp f e->0<=x/\x<Df a/\0<=f/\f<e/\0<=x/\x<Df b/\0<=f/\f<u/\(z->false=uk a b/\True)/\(z=false->inR .i64 r/\∃y,DW a b x y/\(L7 a b x (r=y/\True))/\Dc (e-y)<Dc (e-f)))/\(Dp f e=false->inR .i64 T/\∃y,DU a b y/\(L5 a b (T=y/\True))/\Dc (Df a-y)<Dc (Df a-x))))/\(h=false->true=uk a b/\True)))) aJa λ⟨V,u⟩=>?_
 refine Z9 ?_;refine⟨λh=>DT λe=>h (by rw[e]),λh=>⟨⟨qH _,qM _,Z,V,rfl⟩,λx ⟨j,g1,g2,g3,g4⟩=>⟨λg=>⟨j,g,j,Z,λhd=>DT λe=>hd (by rw[e]),λhd=>?_⟩,λX=>?_⟩⟩⟩
 .have v:=u _ (getD_mem (l:=a) (i:=x.toNat) (d:=[]) Z);refine⟨⟨qH _,qM _,Z,v,rfl⟩,λz ⟨O,f1,f2,f3,G⟩=>⟨j,g,λL=>⟨j,g,O,L,j,Z,O,Z,λhd=>DT λe=>hd (by rw[e]),λhe=>⟨⟨Z,Z⟩,z+1,⟨Z,Z,f2,f3,?_⟩,rfl,Z⟩⟩,λL=>⟨⟨Z,Z⟩,x+1,⟨Z,Z,g2,g3,?_⟩,rfl,Z⟩⟩⟩
  .rw[show(z+1).toNat=z.toNat+1 by omega];exact jN G Z Z he
  .rw[show(x+1).toNat=x.toNat+1 by omega];refine jN (d:=[]) g4 Z Z ?_;rw[qN Z,qN Z]at G;exact G
 .rw[qN Z,qN Z]at g4;subst g4;unfold uk;simp
def MM{a b:Li}(h:a≠b): false=rE a b:=by unfold rE;exact(qAp.2 h).symm
def aG0: eO 35 NW:=ae λ((a:Li),(b:Li),_)=>by
 refine zE (A:=(lvA [(4,[0,1,4,5])] (aD0 a b))) (p:=let e:=Dw (Df a) (Df b);(pV a->(e->false=rE a b/\True)/\(e=false->(∃x,DV a b x/\L5 a b (0=x/\True))/\∀(x:Int),let f:=Dp x (Df a);let g:=Dw (Du a (Dc x) 0) (Du b (Dc x) 0);let h:=x+1;DV a b x->(f->0<=x/\x<Df a/\0<=x/\x<Df b/\(g->false=rE a b/\True)/\(g=false->inR .i64 h/\∃y,DV a b y/\(L5 a b (h=y/\True))/\Dc (Df a-y)<Dc (Df a-x)))/\(f=false->true=rE a b/\True)))) aJa λi=>?_
 refine Z9 ?_;refine⟨λh=>MM λe=>h (by rw[e]),λh=>⟨⟨qH _,qM _,Z,i,rfl⟩,λx ⟨g,g1,g2,g3,g4⟩=>⟨λf=>⟨g,f,g,Z,λhd=>MM λe=>hd (by rw[e]),λhd=>⟨⟨Z,Z⟩,x+1,⟨Z,Z,g2,g3,?_⟩,rfl,Z⟩⟩,λj=>?_⟩⟩⟩
 .rw[show(x+1).toNat=x.toNat+1 by omega];exact jN g4 Z Z hd
 .rw[qN Z,qN Z]at g4;subst g4;unfold rE;simp
def aI9: ai Tryz.prog G0 KL2:=af aGZ<|af aG0 VY
def ML{a b:List (Lj)}(h:a≠b): false=DR a b:=by unfold DR;exact(qAp.2 h).symm
def G7{a b:Lj}: uk a b=true↔a=b:=kK
def aGY: eO 24 NU:=ae λ((a:List (Lj)),(b:List (Lj)),_)=>by
 refine zE (A:=(lvA [(4,[0,1,4,5])] (aDY a b))) (p:=let e:=Df a;let f:=Df b;let g:=Dw e f;(TW a->(g->false=DR a b/\True)/\(g=false->(∃x,DO a b x/\L5 a b (0=x/\True))/\∀(x:Int),let h:=Du a (Dc x) (Dt (Li));let i:=Dj (uk h (Du b (Dc x) (Dt (Li))));let j:=x+1;DO a b x->(Dp x e->0<=x/\x<e/\0<=x/\x<f/\mild h/\(i->false=DR a b/\True)/\(i=false->inR .i64 j/\∃y,DO a b y/\(L5 a b (j=y/\True))/\Dc (e-y)<Dc (e-x)))/\(Dp x e=false->true=DR a b/\True)))) aI9 λr=>?_
 refine Z9 ?_;obtain⟨j,f⟩:=r;refine⟨λh=>ML λe=>h (by rw[e]),λh=>⟨⟨qH _,qM _,Z,rfl⟩,λx ⟨i,g1,g2,g3⟩=>⟨λg=>⟨i,g,i,Z,f _ (getD_mem Z),λhd=>ML λe=>?_,λhd=>⟨aB Z,x+1,⟨Z,Z,g2,?_⟩,rfl,Z⟩⟩,λu=>?_⟩⟩⟩
 .rw[e,G7.2 rfl]at hd;cases hd
 .rw[show(x+1).toNat=x.toNat+1 by omega];exact jN g3 Z Z (G7.1 hd)
 .rw[qN Z,qN Z]at g3;subst g3;unfold DR;simp
def aI8: ai Tryz.prog G0 KL3:=af aGY aI9
def aAM: eO 37 BR:=ae λ(((L,u,j,f,v,z):Net),(nx:Lj),_)=>by
 refine zE (A:=(lvA [(4,[1,4,5])] (smA nx))) (p:=let i:=(L,u,j,f,v,z);let r:=Dj (UR i);let b:=Dj r;let A:=Ea r true (Ei (Df f) 6);let e:=Dj A;let G:=Ea A true (Ei (Df nx) 10);let h:=smF i nx;(True->True/\Q4 b ((Dh true b->b)/\Q2 e ((Dh true e->e)/\(G->false=h/\True)/\(G=false->(∃x,aFN nx x/\nx=nx/\0=x/\True)/\∀(x:Int),let T:=Dp x (Df nx);let O:=Ei (Df (Du nx (Dc x) [])) 10;let g:=x+1;aFN nx x->(T->0<=x/\x<Df nx/\(O->false=h/\True)/\(O=false->inR .i64 g/\∃y,aFN nx y/\(nx=nx/\g=y/\True)/\Dc (Df nx-y)<Dc (Df nx-x)))/\(T=false->true=h/\True)))))) aI8 λ_=>?_
 refine Z9 ?_;have e:smF (L,u,j,f,v,z) nx=((UR (L,u,j,f,v,z)&&decide ((f.length:Int)<=6))&&(decide ((nx.length:Int)<=10)&&nx.all λr=>decide ((r.length:Int)<=10))):=rfl;refine⟨λh=>?_,λ⟨⟨h1,h2⟩,h3⟩=>⟨⟨qH _,qM _,Z,λi h=>Z⟩,λx b=>⟨λG=>⟨b.1,G,λhb=>?_,λhb=>⟨aB (by have:=b.1;omega),x+1,⟨by have:=b.1;omega,Z,b.2.2.1,λi O=>?_⟩,rfl,by have:=b.1;omega⟩⟩,λX=>?_⟩⟩⟩
 .rw[e];rcases h with(h | h) | h
  .rw[h];rfl
  .rw[vC Z,yH];rfl
  .rw[vC (p:=(nx.length:Int)<=10) Z,gW,yH]
 .rw[e];have:(nx.all λr=>decide ((r.length:Int)<=10))=false:=by
   refine qDa.2 ⟨nx.getD x.toNat [],?_,by simp only[qE];omega⟩;rw[qA,qB (by have:=b.1;omega),qK];exact wL _
  rw[this,yH,yH]
 .by_cases h:(i:Int)<x
  .exact b.2.2.2 i h
  .have:i=x.toNat:=by have:=b.1;omega
   rw[this];omega
 .rw[e,h1,qW Z,qW (p:=(nx.length:Int)<=10) Z];refine(qO.2 λr V=>?_).symm;obtain⟨i,O,rfl⟩:=wZ.1 V;have:=b.2.2.2 i Z;rw[qA,qB O,qK]at this;simp only[qE];omega
def aIf: ai Tryz.prog G0 KL4:=af aAM aI8
def aAL: eO 10 BQ:=ae λ(((j,g,f,i,h,e):Net),(a:Int),(b:Int),_)=>by
 refine zF (c:={mkc KL4 with mb:=λt=>t==18||t==23}) (A:=az) aIf iI hm (p:=let x:=(j,g,f,i,h,e);let u:=smF x (Dt (Li));let r:=Ea u (Ee (Df e) 3) false;let y:=Ee b (Ep IntKind.i64 (a+9));let v:=Dj y;true/\(True->True/\Q4 u ((Dh true u->u)/\L4 r (Q4 r (Q4 (Dh r v) (L4 r ((r->Dh r v->Dh r v)/\(Dh true r->r)/\Ea r (Ea y true (Ei b (Ep IntKind.i64 (a+60)))) false=aFO x a b/\True))))))) ⟨rfl,λ_=>?_⟩
 refine Z9 ?_;rfl
def aG1: eO 34 NY:=ae λ_=>by
 refine zE (A:=az) (p:=let b:=((0:Int),(0:Int),(2:Int),(1:Int),(10:Int),Dt ByteArray);let e:=((600:Int),(60:Int),(1:Int));(True->L3 1 0 1 0 1 0 1 1 0 (L3 1 1 0 1 1 0 1 0 1 (L7 0 1 0 ([((0:Int),[true,true,true,true,true,true,true],Dt Int)]=xCs/\[ByteArray.mk #[(99:UInt8)]]=xNs/\[ByteArray.mk #[(112:UInt8)]]=xOs/\[(ByteArray.mk #[(97:UInt8)],b),(ByteArray.mk #[(98:UInt8)],b)]=xFs/\[(ByteArray.mk #[(120:UInt8)],(0:Int),(1:Int),e),(ByteArray.mk #[(121:UInt8)],(1:Int),(0:Int),e)]=xLs/\[(ByteArray.mk #[(107:UInt8)],(300:Int),(720:Int))]=xKs/\True))))) aIf λ_=>?_
 refine Z9 ?_;exact⟨rfl,rfl,rfl,rfl,rfl,rfl⟩
def aI7: ai Tryz.prog G0 KL5:=af aAL<|af aG1<|af (RU Bn)<|af (WV Bn)<|af (ae λ((i,e,b,h,f,g),c,_)=>aCe (Go.Eng.In.aBa c.2 c.1 i e b h f g))<|af (λa m c h=>aCe (Go.Eng.In.JR a m c h)) aIf
noncomputable abbrev xN: Net:=(xCs,xNs,xOs,xFs,xLs,xKs)
abbrev xP: Plan:=(0,1,[[-1,0],[1,-1]],[[[0,0],[0,0]]])
abbrev xL: Li:=[0,1,2,1,0,1,2,0,1,1,1,1,2,2]
def WU: eO 9 x4:=ae λ_=>by
 refine zF (c:={mkc KL5 with mb:=λt=>t==46}) (A:=aJI) aI7 iI hm (p:=let h:=(xCs,xNs,xOs,xFs,xLs,xKs);let c2:=OG h 0 1;let c3:=c2.1;let c4:=c2.2;let c5:=c4.1;let c6:=c4.2;let A:=c6.1;let c8:=c6.2;let c9:=(c3,c5,A,c8);let c10:=Df xFs;let O:=0+Dk xLs;let c12:=Ef (Dt (ByteArray×Int×Int×Int×Int×Int)) xLs;let c13:=((600:Int),(60:Int),(1:Int));let c14:=[(ByteArray.mk #[(122:UInt8)],(0:Int),(2:Int),c13),(ByteArray.mk #[(119:UInt8)],(2:Int),(0:Int),c13)];let V:=O+Dk c14;let L:=Ef c12 c14;let c17:=zy h 0 1;let G:=gsF h c9 0;let z:=ofF h c9 0;let X:=zy h 0 61;let T:=VV h 0 1;let j:=T.1;let y:=T.2;let c24:=OG h 0 61;let c25:=c24.1;let c26:=c24.2;let c27:=c26.1;let c28:=c26.2;let c29:=c28.1;let c30:=c28.2;let c31:=VV h 0 61;let c32:=c31.1;let c33:=c31.2;let c34:=(ByteArray.mk #[],(0:Int),(0:Int),(0:Int),(0:Int),(0:Int),Dt ByteArray);let c35:=Du xFs (Dc 0) c34;let c36:=c35.2;let c37:=c36.2;let c38:=c37.2;let c39:=c38.2;let c40:=c39.2;let c41:=Du xFs (Dc 1) c34;let c42:=c41.2;let c43:=c42.2;let c44:=c43.2;let c45:=c44.2;let c46:=c45.2;let c47:=[(c35.1,c36.1,c37.1,c38.1,c39.1,c40.1,c40.2),(c41.1,c42.1,c43.1,c44.1,c45.1,c46.1,c46.2),(ByteArray.mk #[(99:UInt8)],(0:Int),(0:Int),(2:Int),(1:Int),(10:Int),Dt ByteArray)];let f:=Ec c17 0;let c49:=[(0:Int)];let c50:=(-1:Int)::c49;let e:=Ea f (uk A [c50,[(1:Int),(-1:Int)]]) false;let c52:=(0:Int)::c49;let i:=Ea e (DR c8 [[c52,c52]]) false;
  let b:=Ea i (rE j [(0:Int),(1:Int),(2:Int),(1:Int),(0:Int),(1:Int),(2:Int),(0:Int),(1:Int),(1:Int),(1:Int),(1:Int),(2:Int),(2:Int)]) false;let u:=Ea b (Ec y (In.rD j)) false;let r:=Ea u (rE G c50) false;let x:=Ea r (rE z [(0:Int),(1:Int)]) false;let v:=Ea x (Ec X 1) false;let g:=Ea v (Ec (zy (xCs,xNs,xOs,c47,L,xKs) 0 1) 140) false;
  true/\(True->True/\Q3 1 0 1 0 (True/\T5 1 0 1 0 1 0 1 0 (lu c9/\L5 1 0 (True/\L3 1 0 1 0 1 0 1 0 1 (L5 1 0 (Dl 0 0/\0<c10/\L7 1 1 0 (Dl 0 1/\1<c10/\T6 1 1 0 1 1 0 (Dk (Dt (ByteArray×Int×Int×Int×Int×Int))=0/\(O*56)<=140737488355328/\O<=9223372036854775807/\Dk c12=O/\(V*56)<=140737488355328/\V<=9223372036854775807/\L7 1 1 0 (Dk L=V/\L3 1 0 0 1 0 0 1 0 0 (L3 c17 G z X 1 0 0 xCs xNs (L3 xOs xFs xLs xKs c3 c5 A c8 j (L3 y c25 c27 c29 c30 c32 c33 xCs xNs (L5 xOs c47 (Dk L=V/\Q3 L xKs 1 0 (True/\Q3 1 0 1 0 ((f->1=1)/\(f->f->f)/\(f->1=1)/\(f->0=0)/\(f->f->f)/\(f->f->f)/\(f->f->f)/\(f->f->f)/\(f->mild A)/\(Dh true f->f)/\(e->1=1)/\(e->e->e)/\(e->1=1)/\(e->0=0)/\(e->e->e)/\(e->e->e)/\(e->e->e)/\(e->e->e)/\(e->e->e)/\(e->TW c8)/\(Dh true e->e)/\(i->1=1)/\(i->i->i)/\(i->1=1)/\(i->0=0)/\(i->i->i)/\(i->i->i)/\(i->pV j)/\(Dh true i->i)/\(b->1=1)/\(b->b->b)/\(b->1=1)/\(b->0=0)/\(b->1=1)/\(b->b->b)/\(b->1=1)/\(b->0=0)/\(b->b->b)/\(b->In.ZT j)/\(b->b->b)/\(b->b->b)/\(Dh true b->b)/\(u->u->u)/\(u->u->u)/\(u->pV G)/\(Dh true u->u)/\(r->r->r)/\(r->r->r)/\(r->pV z)/\(Dh true r->r)/\(x->x->x)/\(Dh true x->x)/\(v->v->v)/\(Dh true v->v)/\(g->1=1)/\(g->0=0)/\(g->1=1)/\(g->0=0)/\(g->g->g)/\(g->g->g)/\(g->In.Ua j/\In.F5 h)/\(g->g->g)/\(Dh true g->g)/\Ea g (Ec (In.je h j y) 0) false/\True))))))))))))))))) ?_
 intro c1 c2 c3 c4 c5 c6 c7 c8 c9 c10 O c12 c13 c14 c15 L c17 G z X T j y c24 c25 c26 c27 c28 c29 c30 c31 c32 c33 c34 c35 c36 c37 c38 c39 c40 c41 c42 c43 c44 c45 c46 c47 f c49 c50 e c52 i b u r x v g;have q2:c2=xP:=by decide +kernel
 have q7:c7=[[-1,0],[1,-1]]:=by show c2.2.2.1=_;rw[q2]
 have q8:c8=[[[0,0],[0,0]]]:=by show c2.2.2.2=_;rw[q2]
 have q9:c9=xP:=by show(c2.1,c2.2.1,c2.2.2.1,c2.2.2.2)=_;rw[q2]
 have q17:c17=0:=by decide +kernel
 have q18:G=[-1,0]:=by show gsF xN c9 0=_;rw[q9];decide +kernel
 have q19:z=[0,1]:=by show ofF xN c9 0=_;rw[q9];decide +kernel
 have q20:X=1:=by decide +kernel
 have q21:T=(xL,Go.Eng.In.rD xL):=by decide +kernel
 have V:j=xL:=by show T.1=_;rw[q21]
 have q23:y=Go.Eng.In.rD xL:=by show T.2=_;rw[q21]
 have h5:zy (xCs,xNs,xOs,c47,L,xKs) 0 1=140:=by
  show zy (xCs,xNs,xOs,yFs,yLs,xKs) 0 1=140
  decide +kernel
 have h8:Go.Eng.In.je xN xL (Go.Eng.In.rD xL)=0:=by decide +kernel
 have e48:f=true:=by show Ec c17 0=true;rw[q17];rfl
 have e51:e=true:=by show Ea f (uk c7 [[-1,0],[1,-1]]) false=true;rw[e48,q7];rfl
 have e53:i=true:=by show Ea e (DR c8 [[[0,0],[0,0]]]) false=true;rw[e51,q8];rfl
 have e54:b=true:=by show Ea i (rE j xL) false=true;rw[e53,V];rfl
 have e55:u=true:=by show Ea b (Ec y (In.rD j)) false=true;rw[e54,V,q23];show decide (In.rD xL=In.rD xL)=true;exact qW rfl
 have e56:r=true:=by show Ea u (rE G [-1,0]) false=true;rw[e55,q18];rfl
 have e57:x=true:=by show Ea r (rE z [0,1]) false=true;rw[e56,q19];rfl
 have e58:v=true:=by show Ea x (Ec X 1) false=true;rw[e57,q20];rfl
 have e59:g=true:=by show Ea v (Ec (zy (xCs,xNs,xOs,c47,L,xKs) 0 1) 140) false=true;rw[e58,h5];rfl
 have e60:Ea g (Ec (In.je c1 j y) (0:Int)) false=true:=by
  show Ea g (Ec (In.je xN j y) (0:Int)) false=true;rw[e59,V,q23,h8];rfl
 have m7:mild c7:=by rw[q7];unfold mild;decide
 have m8:TW c8:=by rw[q8];unfold TW mild;decide
 have m9:lu c9:=by rw[q9];unfold lu dw;decide
 have m22:pV j:=by rw[V];unfold pV;decide
 have s22:In.ZT j:=by rw[V];unfold In.ZT;decide
 have l22:In.Ua j/\In.F5 c1:=⟨by rw[V];unfold In.Ua;decide,by show In.F5 xN;unfold In.F5;decide⟩;have m18:pV G:=by rw[q18];unfold pV;decide
 have m19:pV z:=by rw[q19];unfold pV;decide
 have k10:Dn (0:Int) c10/\Dn (1:Int) c10:=by constructor<;>decide
 have k11:Dy (Ej O (56)) (140737488355328)/\Dy O (9223372036854775807):=by constructor<;>decide
 have k15:Dy (Ej c15 (56)) (140737488355328)/\Dy c15 (9223372036854775807):=by constructor<;>decide
 have k16:Dk c12=O/\Dk L=c15:=⟨rfl,rfl⟩;clear_value g v x r u b i e f c31 c24 y j T X z G c17 c9 c8 c7 c2;subst e48 e51 e53 e54 e55 e56 e57 e58 e59;refine⟨rfl,λ_=>?_⟩;generalize lu c9=F9 at m9 ⊢
 and_intros
 all_goals first
  | with_reducible exact trivial
  | with_reducible rfl
  | with_reducible exact e60
  | with_reducible exact m9
  | with_reducible exact λ_=>m7
  | with_reducible exact λ_=>m8
  | with_reducible exact λ_=>m22
  | with_reducible exact λ_=>s22
  | with_reducible exact λ_=>l22
  | with_reducible exact λ_=>m18
  | with_reducible exact λ_=>m19
  | with_reducible exact k10.1
  | with_reducible exact k10.2
  | with_reducible exact k11.1
  | with_reducible exact k11.2
  | with_reducible exact k15.1
  | with_reducible exact k15.2
  | with_reducible exact k16.1
  | with_reducible exact k16.2
  | with_reducible exact λ_=>rfl
  | with_reducible exact λh _=>h
  | with_reducible exact λh=>h
  | decide
  | rfl
def aJZ: ai Tryz.prog G0 KL6:=af WU aI7
def aES(a b:Int): Int:=a/b
def IT(a b:Int): Prop:=uq a/\PN b
def aC8(h:Li)(d:Int): Bool:=h.contains d
def Ys(h:Li)(d k:Int): Prop:=0<=k/\k<=h.length/\h.length<=1000000/\(h.take k.toNat).contains d=false
def C7(z:Int)(w:List Bool)(h:Li)(d:Int): Prop:=ay z w h=true/\bC d=true
def f9(n:Net)(line t:Int): Bool:=aR n&&du line n.2.2.2.2.1.length&&ct t
def onP(n:Net)(line d:Int): Prop:=KT n line/\bC d=true
def onB(n:Net)(line d:Int): Bool:=aW (dJ n line).2.1 (dJ n line).2.2 d
def MW(n:Net)(line t d:Int): Prop:=m6 n line t/\f9 n line t=true/\bE (dJ n line).1 t<=d/\d<=bE (dJ n line).1 t+62/\∀e,bE (dJ n line).1 t<=e->e<d->onB n line e=true->aU n line e<t\/t+86400<=aU n line e
def ie(n:Net)(line a b d:Int): Li:=((cC (dJ n line).2.1 (dJ n line).2.2 (bE (dJ n line).1 a) (d-bE (dJ n line).1 a)).map (aU n line)).filter λt=>decide (a<=t)&&decide (t<b)
def rI(n:Net)(line a b d:Int): Prop:=m6 n line a/\m6 n line b/\f9 n line a=true/\f9 n line b=true/\b<=a+86400/\bE (dJ n line).1 a<=d/\(d<=bE (dJ n line).1 b+1\/d=bE (dJ n line).1 a)
def atF(l:Li)(a i:Int): Int:=if i=0 then a else l.getD (i-1).toNat 0+1
def rstart(n:Net)(line a b i:Int): Int:=([a-1]++cY n line a b).getD i.toNat 0+1
def vm(n:Net)(line a b m i:Int): Prop:=jL n line a b=true/\0<=i/\i<=(cY n line a b).length+1/\0<=m/\m<=86400/\
 (i<=(cY n line a b).length->waitGo n line b (b-rstart n line a b i).toNat (rstart n line a b i) m=ui n line a b)/\(i=(cY n line a b).length+1->ui n line a b=some m)
def KY0: Kt:=KL6
def aJJ(h:Li)(d:Int): Ann:=Z8 2 Int (Ys h d) (λs k=>put s [(5,.dat I k)]) λk=>Dc (Di (Df h) k)
abbrev xm:=al [.val I,.val I] (λ(a,b,_)=>IT a b) λ(a,b,_)=>.tup [.dat I (aES a b),.dat I (JA a b)]
abbrev xj:=al [.val I] (λ_=>True) λ(a,_)=>.dat .bool (bC a)
abbrev qj:=al [.row C,.val I] (λ(c,_,_)=>pV c.2.2) λ(c,d,_)=>.dat .bool (aC8 c.2.2 d)
def KY1: Kt:=kOr 174 xm <|
 kOr 119 xj <|
 kOr 175 qj KY0
abbrev qi:=al [.row C,.val I] (λ(c,d,_)=>C7 c.1 c.2.1 c.2.2 d) λ(c,d,_)=>.dat .bool (aW c.2.1 c.2.2 d)
def KY2: Kt:=kOr 120 qi KY1
abbrev BB:=al [.row C,.val I] (λ(c,d,_)=>C7 c.1 c.2.1 c.2.2 d) λ(c,d,_)=>.dat .bool (aW c.2.1 c.2.2 d)
abbrev xk:=al [.row C,.val I] (λ(c,t,_)=>dW c.1 c.2.1 c.2.2 t) λ(c,t,_)=>.tup [.dat I (bE c.1 t),.dat I (JC c.1 t)]
abbrev BE:=al [.row C,.val I,.val I] (λ(c,d,m,_)=>iV c.1 c.2.1 c.2.2 d m) λ(c,d,m,_)=>.dat I (fx c.1 d m)
abbrev BH:=al [.row N,.val I,.val I] (λ(n,_,_,_)=>dI n=true) λ(n,l,t,_)=>.dat .bool (f9 n l t)
def KY3: Kt:=kOr 57 BB <|
 kOr 184 xk <|
 kOr 56 BE <|
 kOr 229 BH KY2
abbrev Uj:=al [.row N,.val I,.val I] (λ(n,l,d,_)=>onP n l d) λ(n,l,d,_)=>.tup [.dat I (aU n l d),.dat .bool (onB n l d)]
def KY4: Kt:=kOr 280 Uj KY3
def aHm(n:Net)(line t:Int): Ann:=Z8 6 Int (MW n line t) (λs d=>put s [(11,.dat I d)]) λd=>Dc (Di (Dq (bE (dJ n line).1 t) 62) d)
def aEn(n:Net)(line a b:Int): Ann:=⟨λf s=>match f with
 | 8=>match s.sig.T 18 with
  | .buf e _=>some {α:=Int,inv:=λd=>rI n line a b d,st:=λd=>fu (put (flat s) [(15,.dat I d),(9,.buf e (Dk (ie n line a b d)))]) e (.buf 3 I (ie n line a b d) []),μ:=λd=>Dc (Di (Dq (bE (dJ n line).1 b) 1) d)}
  | _=>none
 | _=>none,λ_ _=>none,λ_ _=>none⟩
abbrev ti:=al [.row N,.val I,.val I] (λ(n,_,_,_)=>dI n=true) λ(n,l,t,_)=>.tup [.dat I (dH n l t),.dat I (fX n l t)]
abbrev BK:=al [.row N,.val I,.val I,.val I] (λ(n,_,_,_,_)=>dI n=true) λ(n,l,a,b,_)=>.dat R (cY n l a b)
def KY5: Kt:=kOr 231 ti <|
 kOr 230 BK KY4
def aEe(n:Net)(line a b:Int): Ann:=⟨λe s=>match e with
 | 6=>some {α:=Int×Int,inv:=λx=>vm n line a b x.1 x.2,st:=λx=>put s [(11,.dat I x.1),(12,.dat I x.2)],μ:=λx=>Dc (Di (Dq (Df (cY n line a b)) 1) x.2)}
 | _=>none,λe s=>match e with
 | 4=>some (put (frz (allNames s) s) [(40,.top)])
 | _=>none,λ_ _=>none⟩
abbrev BD:=al [.row N,.val I,.val I,.val I] (λ(n,_,_,_,_)=>dI n=true) λ(n,l,a,b,_)=>.tup [.dat I (mq n l a b),.dat I (nU n l a b)]
def KY6: Kt:=kOr 179 BD KY5
def aGc: ai Tryz.prog G0 KY0:=aJZ
def LH{n:Net}{l t:Int}(b:bO n l [t]=true)(h:fX n l t=0): bG n l t=some (dH n l t):=by
 unfold fX at h;unfold dH lv;rw[if_pos b]at h ⊢;unfold jZ at h;cases e:bG n l t with
 | none=>rw[e]at h;cases h
 | some u=>rfl
def LI{n:Net}{l t:Int}(b:bO n l [t]=true)(h:fX n l t≠0): bG n l t=none/\fX n l t=20:=by
 unfold fX at h ⊢;rw[if_pos b]at h ⊢;unfold jZ at h ⊢;cases e:bG n l t with
 | none=>exact⟨rfl,rfl⟩
 | some u=>rw[e]at h;exact(h rfl).elim
def U1{n:Net}{l t u:Int}(b:bO n l [t]=true)(h:bG n l t=some u): dH n l t=u/\fX n l t=0:=by
 unfold dH fX lv jZ;rw[if_pos b,if_pos b,h];exact⟨rfl,rfl⟩
def dlt{a b:Int}(h:a<b): Dp a b=true:=qW h
def zh(e:LC)(g f:LB)(b:Lo)(h:Ll)(i:Lk)(line:Int): e.getD (b.getD (ak (e,g,f,b,h,i) line).2.1.toNat (⟨#[]⟩,0,0,0,0,0,[])).2.2.1.toNat (0,[],[])=dJ (e,g,f,b,h,i) line:=rfl
def sf(y:LC)(g f:LB)(x:Lo)(r:Ll)(u:Lk){line a b i:Int}(ha:atOk (y,g,f,x,r,u) line)(X:I0 (y,g,f,x,r,u) line a b)(hab:a<=b)(i0:0<=i)(i1:i<(cY (y,g,f,x,r,u) line a b).length):
  bG (y,g,f,x,r,u) line (atF (cY (y,g,f,x,r,u) line a b) a i)=some ((cY (y,g,f,x,r,u) line a b).getD i.toNat 0)/\a<=atF (cY (y,g,f,x,r,u) line a b) a i/\atF (cY (y,g,f,x,r,u) line a b) a i<=b/\(cY (y,g,f,x,r,u) line a b).getD i.toNat 0<b:=by
 have hs:=y6 (y,g,f,x,r,u) line a b;have hm:=λv=>Nn (v:=v) ha X
 have hb:=X.2;generalize hl:cY (y,g,f,x,r,u) line a b=l at *;have L:l.getD i.toNat 0=l[i.toNat]'zoo:=by rw[qA,qB Z,qK]
 obtain⟨g1,g2,g3⟩:=(hm _).1 (L▸wL Z);have z:a<=atF l a i/\atF l a i<=l.getD i.toNat 0/\∀v∈l,atF l a i<=v->l.getD i.toNat 0<=v:=by
  have e:∀j k:Nat,(A:j<k)->(T:k<l.length)->l[j]'zoo<l[k]'T:=λj k A T=>List.pairwise_iff_getElem.1 hs j k Z T A
  unfold atF;split
  .rename_i h0;subst h0;refine⟨qH _,g1,λv G _=>?_⟩;obtain⟨j,A,rfl⟩:=List.getElem_of_mem G;rw[L];rcases Nat.eq_zero_or_pos j with h | h
   .subst h;exact qH _
   .have:=e 0 j h A;exact Int.le_of_lt this
  .rename_i h0;have V:l.getD (i-1).toNat 0=l[(i-1).toNat]'zoo:=by rw[qA,qB Z,qK]
   obtain⟨k1,k2,k3⟩:=(hm _).1 (V▸wL Z);have O:=e (i-1).toNat i.toNat Z Z;rw[<- V,<- L]at O;refine⟨Z,Z,λv G hle=>?_⟩;obtain⟨j,A,rfl⟩:=List.getElem_of_mem G;rw[L];rcases qCy j i.toNat with h | h | h
   .exfalso;rcases zO j (i-1).toNat with q | q
    .have:=e j (i-1).toNat q Z;omega
    .have:j=(i-1).toNat:=by omega
     subst this;omega
   .subst h;exact qH _
   .exact Int.le_of_lt (e i.toNat j h A)
 refine⟨uM ha z.2.1 Z g3 λv v1 v2 G=>?_,z.1,Z,g2⟩;have:=z.2.2 v ((hm v).2 ⟨Z,Z,G⟩) v1;omega
def UZ(x:LC)(f e:LB)(r:Lo)(g:Ll)(i:Lk){line a b u:Int}(V:atOk (x,f,e,r,g,i) line)(ho:I0 (x,f,e,r,g,i) line a b)(T:a<=b)(h:bG (x,f,e,r,g,i) line (atF (cY (x,f,e,r,g,i) line a b) a (cY (x,f,e,r,g,i) line a b).length)=some u): b<=u/\a<=atF (cY (x,f,e,r,g,i) line a b) a (cY (x,f,e,r,g,i) line a b).length/\atF (cY (x,f,e,r,g,i) line a b) a (cY (x,f,e,r,g,i) line a b).length<=b:=by
 have hs:=y6 (x,f,e,r,g,i) line a b;have hm:=λv=>Nn (v:=v) V ho
 obtain⟨u1,u2,X,u4⟩:=first_some V h;generalize hl:cY (x,f,e,r,g,i) line a b=l at *;have y:a<=atF l a l.length/\atF l a l.length<=b/\∀v∈l,v<atF l a l.length:=by
  have z:∀j k:Nat,(O:j<k)->(L:k<l.length)->l[j]'zoo<l[k]'L:=λj k O L=>List.pairwise_iff_getElem.1 hs j k Z L O
  unfold atF;split
  .rename_i h0;have:l=[]:=vW Z;subst this;exact⟨qH _,T,λv A=>by cases A⟩
  .rename_i h0;have hp:l.getD ((l.length:Int)-1).toNat 0=l[((l.length:Int)-1).toNat]'zoo:=by rw[qA,qB Z,qK]
   obtain⟨k1,k2,k3⟩:=(hm _).1 (hp▸wL Z);refine⟨Z,Z,λv A=>?_⟩;obtain⟨j,O,rfl⟩:=List.getElem_of_mem A;rcases zO j ((l.length:Int)-1).toNat with q | q
   .have:=z j _ q Z;omega
   .have:j=((l.length:Int)-1).toNat:=by omega
    subst this;omega
 refine⟨Int.not_lt.1 λG=>?_,y.1,y.2.1⟩;have:=y.2.2 u ((hm u).2 ⟨Z,G,X⟩);omega
def jy{x:Int}(h:-4000000000000<=x/\x<=4000000000000): inR .i64 x:=by unfold inR;simp only;omega
def WH: eO 174 xm:=ae λ((a:Int),(b:Int),_)=>by
 refine zE (A:=az) (p:=let e:=Dp (Fq a b) 0;let f:=Gg a b-1;let g:=Fq a b+b;(IT a b->b≠0/\inR .i64 (Gg a b)/\b≠0/\(e->inR .i64 f/\inR .i64 g/\f=aES a b/\g=JA a b/\True)/\(e=false->Gg a b=aES a b/\Fq a b=JA a b/\True))) aGc λ⟨⟨z,y⟩,j,x⟩=>?_
 refine Z9 ?_;simp only[qc,Gg,Fq,aES,JA];have e:=qAm (a:=a) (b:=b);have T:=kP a (show b≠0 by omega);have O:=xK a j;have u:(b.natAbs:Int)=b:=Int.natAbs_of_nonneg Z;have L:=Int.mul_ediv_add_emod a b;have G:=Int.mul_tdiv_add_tmod a b;have g:(a.tdiv b).natAbs<=a.natAbs:=Int.natAbs_tdiv_le_natAbs a b;by_cases f:0<=a\/b ∣ a
 .rw[if_pos f]at e;have i:a.tdiv b=a/b:=by
   have:b*a.tdiv b=b*(a/b):=Z;exact qDe Z this
  refine⟨Z,jy Z,Z,λh=>Z,λ_=>⟨i,Z⟩⟩
 .rw[if_neg f,u]at e;have v:a%b≠0:=λr=>f (.inr (qDp r))
  have i:a.tdiv b=a/b+1:=by
   have:b*a.tdiv b=b*(a/b+1):=by rw[Int.mul_add];omega
   exact qDe Z this
  refine⟨Z,jy Z,Z,λh=>⟨jy Z,aD Z,Z,Z⟩,λh=>Z⟩
def WE: eO 119 xj:=ae λ((a:Int),_)=>by
 refine zE (A:=az) (p:=let b:=Ed a (-1000000);(True->L4 b ((Dh true b->b)/\Ea b (Ee a 1000000) false=bC a/\True))) aGc λ_=>⟨λh _=>h,λh=>by simpa[Dh]using h,?_,trivial⟩
 rw[jA];simp[bC,Ed,Ee]
def O5: eO 175 qj:=ae λ(((z:Int),(w:List Bool),(h:Li)),(d:Int),_)=>by
 refine zE (A:=(lvA [(2,[1,2,4,5])] (aJJ h d))) (p:=let b:=(z,w,h);(pV h->(∃x,Ys h d x/\L5 d b (0=x/\True))/\∀(x:Int),let e:=Dp x (Df h);let f:=Ec (Du h (Dc x) 0) d;let g:=x+1;Ys h d x->(e->0<=x/\x<Df h/\(f->true=aC8 h d/\True)/\(f=false->inR IntKind.i64 g/\∃y,Ys h d y/\(L5 d b (g=y/\True))/\Dc (Df h-y)<Dc (Df h-x)))/\(e=false->false=aC8 h d/\True))) aGc λf=>?_
 have f:h.length<=1000000:=f;refine Z9 ?_;refine⟨⟨qH _,qM _,f,rfl⟩,λx ⟨u,L,G,e⟩=>⟨λi=>?_,λv=>?_⟩⟩
 .have b:x.toNat<h.length:=by omega
  have r:h.getD x.toNat 0=h[x.toNat]:=by rw[qA,qB b,qK]
  refine⟨u,i,λj=>?_,λj=>⟨aD Z,x+1,⟨Z,Z,f,?_⟩,rfl,Z⟩⟩
  .unfold aC8
   symm
   rw[qBi,<- j,r];exact wL _
  .rw[show(x+1).toNat=x.toNat+1 by omega,wU,qB b,<- xU,qBi,qI];rw[<- xU,qBi]at e;rintro(g | g)
   .exact e g
   .rw[qAy,vG]at g;exact j (r.trans g.symm)
 .unfold aC8;rw[qN Z]at e;exact e.symm
def aIT: ai Tryz.prog G0 KY1:=af WH<|af WE<|af O5 aGc
def aE2{d:Int}(h:bC d=true): IT d 7:=by
 have:=dU.1 h;exact⟨⟨Z,Z⟩,by decide,by decide⟩
def O4: eO 120 qi:=ae λ(((z:Int),(w:List Bool),(h:Li)),(d:Int),_)=>by
 refine zE (A:=az) (p:=let e:=JA d 7;let b:=Du w (Dc e) false;(C7 z w h d->IT d 7/\0<=e/\e<Df w/\Q2 b ((b->pV h)/\L4 b ((Dh true b->b)/\Ea b (Dj (aC8 h d)) false=aW w h d/\True)))) aIT λ⟨b,hd⟩=>?_
 refine Z9 ?_;obtain⟨_,_,g,f⟩:=(bM.1 b).1;have e:0<=JA d 7:=kP d Z;have i:JA d 7<7:=xK d Z;refine⟨aE2 hd,e,Z,λ_=>(show h.length<=1000000 by omega),?_⟩;rfl
def aFm: ai Tryz.prog G0 KY2:=af O4 aIT
def aAo: eO 57 BB:=ae λ(((z:Int),(w:List Bool),(h:Li)),(d:Int),_)=>by
 refine zE (A:=az) (p:=let e:=ay z w h;let b:=Ea e (bC d) false;(C7 z w h d->True/\L4 e ((ay z w h->True)/\(Dh true e->ay z w h)/\Q2 b ((b->C7 z w h d)/\(Dh true b->b)/\Ea b (aW w h d) false=aW w h d/\True)))) aFm λ⟨b,hd⟩=>?_
 refine Z9 ?_;simp only[qc,b,hd];exact⟨b,hd⟩
def WG: eO 184 xk:=ae λ(((z:Int),(w:List Bool),(h:Li)),(t:Int),_)=>by
 refine zE (A:=az) (p:=let f:=Dj (ay z w h);let b:=Dj f;let g:=Ea f true (Dp t (-2000000000));let e:=Dj g;let i:=Ea g true (Ei t 2000000000);(dW z w h t->True/\L4 b ((Dh true b->b)/\L4 e ((Dh true e->e)/\(i->0=bE z t/\0=JC z t/\True)/\(i=false->inR .i64 (t+z)/\IT (t+z) 1440/\aES (t+z) 1440=bE z t/\JA (t+z) 1440=JC z t/\True))))) aFm λ⟨b,u,r⟩=>?_
 obtain⟨j,i,_⟩:=(bM.1 b).1;have f:¬t < -2000000000:=Z;have e:¬t>2000000000:=Z;refine Z9 ?_;simp only[qc,b,f,e];refine⟨λg=>?_,λ_=>⟨jy Z,⟨⟨Z,Z⟩,by decide,by decide⟩,rfl,rfl⟩⟩;rcases g with(g | g) | g<;>cases g
def aAq: eO 56 BE:=ae λ(((z:Int),(w:List Bool),(h:Li)),(d:Int),(m:Int),_)=>by
 refine zE (A:=az) (p:=let j:=Dj (ay z w h);let e:=Dj j;let r:=Ea j true (Dj (bC d));let g:=Dj r;let u:=Ea r true (Dp m 0);let i:=Dj u;let v:=Ea u true (Ei m 1439);let f:=1440*d;let x:=f+m;let b:=x-z;(iV z w h d m->True/\L4 e ((e->True)/\L4 e ((Dh true e->e)/\L4 g ((Dh true g->g)/\L4 i ((Dh true i->i)/\(v->0=fx z d m/\True)/\(v=false->inR .i64 f/\inR .i64 x/\inR .i64 b/\b=fx z d m/\True))))))) aFm λ⟨e,hd,y,x⟩=>?_
 obtain⟨v,u,_⟩:=(bM.1 e).1;have r:¬m<0:=Z;have j:¬m>1439:=Z;have i:=dU.1 hd;refine Z9 ?_;simp only[qc,e,hd,r,j];refine⟨λg=>?_,λ_=>⟨jy Z,jy Z,jy Z,by unfold fx;omega⟩⟩;rcases g with((g | g) | g) | g<;>cases g
def aAw: eO 229 BH:=ae λ(((r,h,g,j,f,i):Net),(b:Int),(t:Int),_)=>by
 refine zE (A:=az) (p:=let u:=(r,h,g,j,f,i);let v:=aR u;let e:=Ea v (Ed b 0) false;let x:=Ea e (Dp b (Df f)) false;let y:=Ea x (Ed t 0) false;(dI u->dI u/\L4 v ((Dh true v->v)/\L4 e (Q4 e ((Dh true e->e)/\L4 x ((Dh true x->x)/\L4 y ((Dh true y->y)/\Ea y (Ee t 2000000) false=f9 u b t/\True))))))) aFm λu=>?_
 have e:f9 (r,h,g,j,f,i) b t=(aR (r,h,g,j,f,i)&&(decide (0<=b)&&decide (b<(f.length:Int)))&&(decide (0<=t)&&decide (t<=2000000))):=by
  unfold f9 du ct;simp
 rw[e];refine Z9 ?_;refine⟨u,?_⟩;simp[Bool.and_assoc]
def aIS: ai Tryz.prog G0 KY3:=af aAo<|af WG<|af aAq<|af aAw aFm
def aJA: eO 280 Uj:=ae λ(((g,i,h,f,e,j):Net),(b:Int),(d:Int),_)=>by
 refine zE (A:=az) (p:=let v:=(g,i,h,f,e,j);let u:=(Du e (Dc b) (ByteArray.mk #[],(0:Int),(0:Int),(0:Int),(0:Int),(0:Int))).2;let x:=(Du f (Dc u.1) (ByteArray.mk #[],(0:Int),(0:Int),(0:Int),(0:Int),(0:Int),Dt ByteArray)).2.2.1;let r:=Du g (Dc x) ((0:Int),Dt Bool,Dt Int);(onP v b d->0<=b/\b<Df e/\T2 1 0 1 1 0 (0<=u.1/\u.1<Df f/\0<=x/\x<Df g/\T4 1 0 1 0 1 1 0 (iV r.1 r.2.1 r.2.2 d u.2.2.1/\L5 1 0 (C7 r.1 r.2.1 r.2.2 d/\fx r.1 d u.2.2.1=aU v b d/\aW r.2.1 r.2.2 d=onB v b d/\True))))) aIS λ⟨r,hd⟩=>?_
 refine Z9 ?_;simp only[qc,dF g i h f e j,zh g i h f e j];obtain⟨u,z,y,x,v,G,L⟩:=CZ g i h f e j r;exact⟨r.2.1,r.2.2,z,y,x,v,⟨u,hd,G,Z⟩,⟨u,hd⟩,rfl,rfl⟩
def aH6: ai Tryz.prog G0 KY4:=af aJA aIS
def iK{n:Net}{line t:Int}: f9 n line t=bO n line [t]:=by
 unfold f9 bO;cases aR n<;>cases du line n.2.2.2.2.1.length<;>simp
def kO{n:Net}{line a b:Int}: bO n line [a,b]=(f9 n line a&&f9 n line b):=by
 unfold f9 bO;cases aR n<;>cases du line n.2.2.2.2.1.length<;>simp
def Rx: eO 231 ti:=ae λ(((i,r,j,h,f,u):Net),(b:Int),(t:Int),_)=>by
 refine zE (A:=(lvA [(6,[1,2,3,6,7,9,11,12,13])] (aHm (i,r,j,h,f,u) b t))) (p:=let e:=(i,r,j,h,f,u);let V:=Dj (f9 e b t);let A:=dH e b t;let G:=fX e b t;let L:=(Du f (Dc b) (ByteArray.mk #[],(0:Int),(0:Int),(0:Int),(0:Int),(0:Int))).2.1;let O:=(Du h (Dc L) (ByteArray.mk #[],(0:Int),(0:Int),(0:Int),(0:Int),(0:Int),Dt ByteArray)).2.2.1;let g:=Du i (Dc O) ((0:Int),Dt Bool,Dt Int);let v:=bE g.1 t;let T:=v+61;let X:=t+86400;let c15:=bE (dJ e b).1 t+62;(dI e->dI e/\(V->0=A/\1=G/\True)/\(V=false->0<=b/\b<Df f/\0<=L/\L<Df h/\0<=O/\O<Df i/\Q3 1 0 1 0 (dW g.1 g.2.1 g.2.2 t/\(∃x,MW e b t x/\Q3 b t e v (v=x/\z6 g.1 g.2.1 g.2.2))/\∀(x:Int),let z:=Ea (onB e b x) (Ed (aU e b x) t) false;let c17:=Ea z (Dp (aU e b x) X) false;let c18:=x+1;MW e b t x->inR .i64 T/\(Ee x T->onP e b x/\Q2 (onB e b x) ((Dh true (onB e b x)->onB e b x)/\L4 z ((z->inR .i64 X)/\Q2 z ((Dh true z->z)/\(c17->aU e b x=A/\0=G/\True)/\(c17=false->inR .i64 c18/\∃y,MW e b t y/\(Q3 b t e v (c18=y/\z6 g.1 g.2.1 g.2.2))/\Dc (c15-y)<Dc (c15-x))))))/\(Ee x T=false->0=A/\20=G/\True))))) aH6 λhp=>?_
 refine Z9 ?_;simp only[qc,dF i r j h f u,zh i r j h f u];refine⟨hp,λhr=>?_,λhr=>?_⟩
 .rw[iK]at hr;unfold dH fX;rw[hr];exact⟨rfl,rfl⟩
 .have hu:=hr;rw[iK]at hu;obtain⟨V,t0,t1⟩:=fZ i r j h f u hu (vG.2 rfl);have ha:=EI i r j h f u V;obtain⟨L,q1,q2,q3,q4,m0,m1⟩:=CZ i r j h f u V;obtain⟨d0,d1⟩:=uC L t0 t1;obtain⟨v1,v2,_⟩:=(bM.1 L).1;refine⟨V.2.1,V.2.2,q1,q2,q3,q4,⟨L,Z,Z⟩,⟨⟨V,t0,t1⟩,hr,qH _,Z,λe e1 e2=>Z⟩,λx hx=>⟨aD Z,λT=>?_,λX=>?_⟩⟩
  .obtain⟨_,_,x0,x1,x2⟩:=hx;have T:x<=bE (dJ (i,r,j,h,f,u) b).1 t+61:=by first | exact T | exact vN T
   have O:∀e,aU (i,r,j,h,f,u) b e<aU (i,r,j,h,f,u) b x↔e<x:=λe=>by unfold aU fx;omega
   refine⟨⟨V,dU.2 Z⟩,λ_=>aD Z,λ⟨⟨h1,h2⟩,h3⟩=>?_,λh1=>⟨aD Z,x+1,⟨⟨V,t0,t1⟩,hr,Z,Z,λe e1 e2 hw=>?_⟩,rfl,Z⟩⟩
   .have hf:bG (i,r,j,h,f,u) b t=some (aU (i,r,j,h,f,u) b x):=uM ha h2 h3 (qf ha h1) λv v1 v2 L=>by
     have G:=ng L;have h5:bE (dJ (i,r,j,h,f,u) b).1 v<x:=(O _).1 (by rw[G];exact v2);have h6:bE (dJ (i,r,j,h,f,u) b).1 t<=bE (dJ (i,r,j,h,f,u) b).1 v:=by unfold bE;omega
     rcases x2 _ h6 h5 L.1 with g | g
     .rw[G]at g;omega
     .rw[G]at g;omega
    obtain⟨k1,k2⟩:=U1 hu hf;exact⟨k1.symm,k2.symm⟩
   .by_cases he:e=x
    .subst he;by_cases g:aU (i,r,j,h,f,u) b e<t
     .exact .inl g
     .right
      refine Int.not_lt.1 λg2=>?_
      have:=h1 ⟨hw,Z⟩;omega
    .exact x2 e e1 Z hw
  .obtain⟨_,_,x0,x1,x2⟩:=hx;have X:¬x<=bE (dJ (i,r,j,h,f,u) b).1 t+61:=by first | exact X | exact xJ X
   have hf:bG (i,r,j,h,f,u) b t=none:=On ha λv v1 v2 L=>by
    have G:=ng L;have h6:bE (dJ (i,r,j,h,f,u) b).1 t<=bE (dJ (i,r,j,h,f,u) b).1 v/\bE (dJ (i,r,j,h,f,u) b).1 v<x:=by
     unfold bE at *;omega
    rcases x2 _ h6.1 h6.2 L.1 with g | g<;>(rw[G]at g;omega)
   unfold dH fX lv jZ;rw[hu,hf];exact⟨rfl,rfl⟩
def jg{w:List Bool}{h:Li}{a n:Int}(b:0<=n): cC w h a (n+1)=cC w h a n++(if aW w h (a+n)then[a+n]else[]):=by
 unfold cC;rw[show(n+1).toNat=n.toNat+1 by omega,zJ,zZ,yL]
 congr 1
 simp only[zB,qBv,yN,gI,show a+((n.toNat:Nat):Int)=a+n by omega]
def I2{n:Net}{line a b x:Int}(h:bE (dJ n line).1 a<=x): ie n line a b (x+1)=ie n line a b x++(if(onB n line x=true/\a<=aU n line x)/\aU n line x<b then[aU n line x]else[]):=by
 unfold ie;rw[show x+1-bE (dJ n line).1 a=(x-bE (dJ n line).1 a)+1 by omega,jg Z,zZ,yL,show bE (dJ n line).1 a+(x-bE (dJ n line).1 a)=x by omega]
 congr 1
 unfold onB;by_cases f:aW (dJ n line).2.1 (dJ n line).2.2 x=true
 .rw[if_pos f,qCs,yN,gI];by_cases e:a<=aU n line x/\aU n line x<b
  .rw[if_pos (show(decide (a<=aU n line x)&&decide (aU n line x<b))=true by rw[qW e.1,qW e.2];rfl),if_pos ⟨⟨f,e.1⟩,e.2⟩]
  .rw[if_neg (show ¬(decide (a<=aU n line x)&&decide (aU n line x<b))=true by rw[qC,qE,qE];exact e),if_neg (λg=>e ⟨g.1.2,g.2⟩)]
 .rw[if_neg f,if_neg (λg=>f g.1.1)];rfl
def tZ(n:Net)(line a b:Int): ie n line a b (bE (dJ n line).1 a)=[]:=by
 unfold ie cC;rw[show(bE (dJ n line).1 a-bE (dJ n line).1 a).toNat=0 by omega];rfl
def LJ{n:Net}{line a b x:Int}: (ie n line a b x).length<=(x-bE (dJ n line).1 a).toNat:=by
 unfold ie cC;refine wH (zQ _ _) ?_;rw[qY];refine wH (zQ _ _) ?_;rw[qY,qU];exact qJ _
def aAA: eO 230 BK:=ae λ(((j,u,r,i,f,v):Net),(line:Int),(a:Int),(b:Int),_)=>by
 refine zF (c:={mkc KY4 with mb:=λt=>t==18}) (A:=(lvA [(8,[1,2,3,4,8,9,13,15,16,17])] (aEn (j,u,r,i,f,v) line a b))) aH6 iI hm (p:=let g:=(j,u,r,i,f,v);let L:=Dj (f9 g line a);let h:=Dj L;let c4:=Ea L true (Dj (f9 g line b));let z:=Dj c4;let c6:=a+86400;let c7:=Ea c4 true (Ei b c6);let c8:=cY g line a b;let A:=(Du f (Dc line) (ByteArray.mk #[],(0:Int),(0:Int),(0:Int),(0:Int),(0:Int))).2.1;let c10:=(Du i (Dc A) (ByteArray.mk #[],(0:Int),(0:Int),(0:Int),(0:Int),(0:Int),Dt ByteArray)).2.2.1;let e:=Du j (Dc c10) ((0:Int),Dt Bool,Dt Int);let G:=bE e.1 b;let c17:=bE (dJ g line).1 b+1;true/\(dI g->dI g/\Q4 h ((h->dI g)/\L4 h ((Dh true h->h)/\L4 z ((z->inR .i64 c6)/\Q2 z ((Dh true z->z)/\(c7->Dk (Dt Int)=0/\Dt Int=c8/\True)/\(c7=false->0<=line/\line<Df f/\0<=A/\A<Df i/\0<=c10/\c10<Df j/\Q3 1 0 1 0 (dW e.1 e.2.1 e.2.2 a/\L5 1 0 (dW e.1 e.2.1 e.2.2 b/\(∃x,let c18:=ie g line a b x;rI g line a b x/\T2 line a b g Z0 (0=Dk c18/\G=G/\bE e.1 a=x/\Dt Int=c18/\z6 e.1 e.2.1 e.2.2))/\∀(x:Int),let X:=Ea (onB g line x) (Ed (aU g line x) a) false;let c20:=Ea X (Dp (aU g line x) b) false;let V:=ie g line a b x;let O:=Dk V;let c23:=[aU g line x];let c24:=O+Dk c23;let T:=x+1;rI g line a b x->(Ee x G->onP g line x/\Q2 (onB g line x) ((Dh true (onB g line x)->onB g line x)/\Q2 X ((Dh true X->X)/\(c20->O=O/\(c24*8)<=140737488355328/\c24<=9223372036854775807/\inR .i64 T/\∃y,let c26:=ie g line a b y;
  rI g line a b y/\(T2 line a b g Z0 (c24=Dk c26/\G=G/\T=y/\Ef V c23=c26/\z6 e.1 e.2.1 e.2.2))/\Dc (c17-y)<Dc (c17-x))/\(c20=false->inR .i64 T/\∃y,let c27:=ie g line a b y;rI g line a b y/\(T2 line a b g Z0 (O=Dk c27/\G=G/\T=y/\V=c27/\z6 e.1 e.2.1 e.2.2))/\Dc (c17-y)<Dc (c17-x)))))/\(Ee x G=false->O=O/\V=c8/\True)))))))))) ⟨rfl,λhp=>?_⟩
 refine Z9 ?_;simp only[qc,dF j u r i f v,zh j u r i f v];have z:∀t,f9 (j,u,r,i,f,v) line t=true->m6 (j,u,r,i,f,v) line t:=λt ht=>fZ j u r i f v (iK▸ht) (vG.2 rfl)
 refine⟨hp,λ_=>hp,λh=>?_,λh=>?_,λh=>?_⟩
 .obtain⟨_,a0,a1⟩:=z a h.1;exact aD Z
 .refine⟨rfl,?_⟩;unfold cY;rcases h with(h | h) | h
  .rw[kO,h];rfl
  .rw[kO,h,yH];rfl
  .rw[vC (show ¬b<=a+86400 by omega),yH];rfl
 .obtain⟨⟨ra,rb⟩,hb⟩:=h;obtain⟨hl,a0,a1⟩:=z a ra;obtain⟨_,b0,b1⟩:=z b rb;have hb:b<=a+86400:=by first | omega | (have:=xJ hb;omega)
  obtain⟨hv,q1,q2,q3,q4,m0,m1⟩:=CZ j u r i f v hl;obtain⟨d0,d1⟩:=uC hv a0 a1;obtain⟨e0,e1⟩:=uC hv b0 b1;refine⟨hl.2.1,hl.2.2,q1,q2,q3,q4,⟨hv,Z,Z⟩,⟨hv,Z,Z⟩,⟨_,⟨⟨hl,a0,a1⟩,⟨hl,b0,b1⟩,ra,rb,hb,qH _,.inr rfl⟩,by rw[tZ];rfl,rfl,by rw[tZ]⟩,λx hx=>⟨λhle=>?_,λhgt=>?_⟩⟩
  .have hle:x<=bE (dJ (j,u,r,i,f,v) line).1 b:=by first | exact hle | exact vN hle
   have x0:=hx.2.2.2.2.2.1;have L:=I2 (n:=(j,u,r,i,f,v)) (line:=line) (b:=b) x0;have hln:=LJ (n:=(j,u,r,i,f,v)) (line:=line) (a:=a) (b:=b) (x:=x);have hx1:rI (j,u,r,i,f,v) line a b (x+1):=⟨⟨hl,a0,a1⟩,⟨hl,b0,b1⟩,ra,rb,hb,Z,.inl Z⟩;refine⟨⟨hl,dU.2 Z⟩,λh=>?_,λh=>?_⟩
   .rw[if_pos h]at L;simp only[qV];exact⟨Z,Z,aD Z,x+1,hx1,⟨by rw[L,qF];rfl,rfl,L.symm⟩,Z⟩
   .have h':¬((onB (j,u,r,i,f,v) line x=true/\a<=aU (j,u,r,i,f,v) line x)/\aU (j,u,r,i,f,v) line x<b):=λg=>h ⟨g.1.1,g.1.2⟩ g.2
    rw[if_neg h',vY]at L;exact⟨aD Z,x+1,hx1,⟨by rw[L],rfl,L.symm⟩,Z⟩
  .have hgt:¬x<=bE (dJ (j,u,r,i,f,v) line).1 b:=by first | exact hgt | exact xJ hgt
   have hx2:=hx.2.2.2.2.2.2;have hu:bO (j,u,r,i,f,v) line [a,b]=true:=by rw[kO,ra,rb];rfl
   rw[FI ⟨hu,hb⟩];unfold ie Pj jm;rcases hx2 with g | g
   .rw[show x=bE (dJ (j,u,r,i,f,v) line).1 b+1 by omega,show bE (dJ (j,u,r,i,f,v) line).1 b+1-bE (dJ (j,u,r,i,f,v) line).1 a=bE (dJ (j,u,r,i,f,v) line).1 b-bE (dJ (j,u,r,i,f,v) line).1 a+1 by omega]
   .subst g;unfold cC;rw[show(bE (dJ (j,u,r,i,f,v) line).1 a-bE (dJ (j,u,r,i,f,v) line).1 a).toNat=0 by omega,show(bE (dJ (j,u,r,i,f,v) line).1 b-bE (dJ (j,u,r,i,f,v) line).1 a+1).toNat=0 by omega]
def aIR: ai Tryz.prog G0 KY5:=af Rx<|af aAA aH6
def He{n:Net}{line a b i:Int}(e:0<=i): rstart n line a b i=atF (cY n line a b) a i:=by
 unfold rstart atF;by_cases h:i=0
 .subst h;rw[if_pos rfl];show a-1+1=a;omega
 .rw[if_neg h,show i.toNat=(i-1).toNat+1 by omega];show((a-1)::cY n line a b).getD ((i-1).toNat+1) 0+1=_;rw[List.getD_cons_succ]
def J5{n:Net}{line a b i:Int}(e:0<=i): rstart n line a b (i+1)=(cY n line a b).getD i.toNat 0+1:=by
 rw[He Z];unfold atF;rw[if_neg Z,show i+1-1=i by omega]
def aAp: eO 179 BD:=ae λ(((u,f,e,r,g,j):Net),(line:Int),(a:Int),(b:Int),_)=>by
 refine zF (c:={mkc KY5 with mb:=λt=>t==40}) (A:=(lvA [(6,[1,3,4,8,9,10,11,12,13,14])] (aEe (u,f,e,r,g,j) line a b))) aIR iI hm (p:=let h:=(u,f,e,r,g,j);let c2:=f9 h line a;let z:=Dj c2;let i:=Dj z;let A:=Ea z true (Dj (f9 h line b));let O:=Dj A;let G:=Ea A true (Ee b a);let c8:=Dj G;let c9:=a+86400;let c10:=Ea G true (Ei b c9);let c11:=mq h line a b;let T:=nU h line a b;let X:=a-1;let c14:=[X];let L:=cY h line a b;let c16:=1+Dk L;let v:=Ef c14 L;let c18:=Df v;let c19:=Df L+1;true/\(dI h->dI h/\Q4 i ((i->dI h)/\L4 i ((Dh true i->i)/\Q2 O ((Dh true O->O)/\L4 c8 ((c8->inR .i64 c9)/\Q2 c8 ((Dh true c8->c8)/\(c10->0=c11/\1=T/\True)/\(c10=false->inR .i64 X/\dI h/\Dk c14=1/\(c16*8)<=140737488355328/\c16<=9223372036854775807/\L3 u f e r g j line a b (L7 h Q1 Q1 (Dk v=c16/\L3 v u f e r g j line a (L3 c2 z z A A G G c10 a (L3 X u f e r g j line a (L5 b L (Dk v=c16/\v=v/\(∃(x:Int×Int),vm h line a b x.1 x.2/\Q3 line b h v (0=x.1/\0=x.2/\True))/\∀(x:Int×Int),let c20:=Dp x.2 c18;let c21:=Du v (Dc x.2) 0;let V:=c21+1;let c23:=Dp V b;let c24:=fX h line V;let c25:=Dw c24 0;let c26:=dH h line V-c21;let c27:=c26-1;let c28:=x.2+1;
  vm h line a b x.1 x.2->(c20->0<=x.2/\x.2<c18/\inR .i64 V/\(c23->0<=x.2/\x.2<c18/\inR .i64 V/\dI h/\(c25->0=c11/\c24=T/\True)/\(c25=false->0<=x.2/\x.2<c18/\inR .i64 c26/\inR .i64 c27/\inR .i64 c28/\∃(y:Int×Int),vm h line a b y.1 y.2/\(Q3 line b h v (Ew x.1 c27=y.1/\c28=y.2/\True))/\Dc (c19-y.2)<Dc (c19-x.2)))/\(c23=false->inR .i64 c28/\∃(y:Int×Int),vm h line a b y.1 y.2/\(Q3 line b h v (x.1=y.1/\c28=y.2/\True))/\Dc (c19-y.2)<Dc (c19-x.2)))/\(c20=false->x.1=c11/\0=T/\True))))))))))))))) ⟨rfl,λhp=>?_⟩
 refine Z9 ?_;have z:∀t,f9 (u,f,e,r,g,j) line t=true->m6 (u,f,e,r,g,j) line t:=λt ht=>fZ u f e r g j (iK▸ht) (vG.2 rfl)
 refine⟨hp,λ_=>hp,λh=>?_,λh=>?_,λh=>?_⟩
 .obtain⟨_,a0,a1⟩:=z a h.1.1;exact aD Z
 .have:jL (u,f,e,r,g,j) line a b=false:=by
   unfold jL;rcases h with((h | h) | h) | h
   .rw[kO,h];rfl
   .rw[kO,h,yH];rfl
   .rw[vC (show ¬a<b by omega),yH];rfl
   .rw[vC (show ¬b<=a+86400 by omega),yH]
  unfold mq nU;rw[this];exact⟨rfl,rfl⟩
 .obtain⟨⟨⟨ra,rb⟩,hab⟩,hb⟩:=h;have hab:a<b:=Z;have hb:b<=a+86400:=Z;obtain⟨hl,a0,a1⟩:=z a ra;obtain⟨_,b0,b1⟩:=z b rb;have ha:=EI u f e r g j hl;have hu:bO (u,f,e,r,g,j) line [a,b]=true:=by rw[kO,ra,rb];rfl
  have O:jL (u,f,e,r,g,j) line a b=true:=by
   unfold jL;rw[hu,qW hab,qW hb];rfl
  have T:I0 (u,f,e,r,g,j) line a b:=⟨hu,hb⟩;have hut:∀t,0<=t->t<=2000000->bO (u,f,e,r,g,j) line [t]=true:=λt g0 g1=>by
   rw[<- iK];unfold f9 at ra ⊢;rw[qC]at ra;rw[ra.1];unfold ct;exact qW ⟨g0,g1⟩
  have dl:(cY (u,f,e,r,g,j) line a b).length<=100:=by
   rw[FI T];refine wH (zQ _ _) ?_;rw[qY];refine wH Sl ?_;unfold bE;omega
  have hl1:([a-1]++cY (u,f,e,r,g,j) line a b).length=1+(cY (u,f,e,r,g,j) line a b).length:=by rw[qF];rfl
  refine⟨aD Z,hp,rfl,Z,Z,hl1,hl1,⟨(0,0),⟨O,qH _,Z,qH _,(by show(0:Int)<=86400;omega),λ_=>?_,λh=>(by have h:(0:Int)=_:=h;omega)⟩,rfl,rfl⟩,λx=>?_⟩
  .show waitGo _ _ _ (b-(a-1+1)).toNat (a-1+1) 0=_;rw[show a-1+1=a by omega];rfl
  obtain⟨m,i⟩:=x;simp only;rintro⟨_,i0,i1,m0,m1,hg,he⟩;refine⟨λX=>?_,λhge=>?_⟩
  .have hi:i<=(cY (u,f,e,r,g,j) line a b).length:=by rw[hl1]at X;omega
   have L:=hg hi;have hst:([a-1]++cY (u,f,e,r,g,j) line a b).getD i.toNat 0+1=rstart (u,f,e,r,g,j) line a b i:=rfl;have G:=He (n:=(u,f,e,r,g,j)) (line:=line) (a:=a) (b:=b) i0;have hrange:a<=rstart (u,f,e,r,g,j) line a b i/\rstart (u,f,e,r,g,j) line a b i<=b:=by
    by_cases hz:i=0
    .subst hz;rw[G];unfold atF;rw[if_pos rfl];omega
    .obtain⟨g1,g2,g3,g4⟩:=sf u f e r g j (line:=line) (a:=a) (b:=b) (i:=i-1) ha T Z Z Z;have gr:=fi g1;rw[G];unfold atF;rw[if_neg hz];omega
   rw[hst];have hvx:([a-1]++cY (u,f,e,r,g,j) line a b).getD i.toNat 0=rstart (u,f,e,r,g,j) line a b i-1:=Z;rw[hvx];refine⟨i0,X,aD Z,λht=>⟨i0,X,aD Z,hp,λhE=>?_,λhE=>?_⟩,λht=>⟨aD Z,(m,i+1),⟨O,Z,Z,m0,m1,λh=>?_,λh=>?_⟩,⟨rfl,rfl⟩,Z⟩⟩
   .obtain⟨hn,e20⟩:=LI (hut _ Z Z) hE;rw[show(b-rstart (u,f,e,r,g,j) line a b i).toNat=(b-rstart (u,f,e,r,g,j) line a b i).toNat-1+1 by omega,waitGo,if_pos ht,hn]at L;have L:ui (u,f,e,r,g,j) line a b=none:=L.symm;unfold mq nU;rw[O,L,e20];exact⟨rfl,rfl⟩
   .have hs:=LH (hut _ Z Z) hE;obtain⟨u0,u1⟩:=fi hs;rw[show(b-rstart (u,f,e,r,g,j) line a b i).toNat=(b-rstart (u,f,e,r,g,j) line a b i).toNat-1+1 by omega,waitGo,if_pos ht,hs]at L
    have L:waitGo (u,f,e,r,g,j) line b ((b-rstart (u,f,e,r,g,j) line a b i).toNat-1) (dH (u,f,e,r,g,j) line (rstart (u,f,e,r,g,j) line a b i)+1) (mT m (dH (u,f,e,r,g,j) line (rstart (u,f,e,r,g,j) line a b i)-rstart (u,f,e,r,g,j) line a b i))=ui (u,f,e,r,g,j) line a b:=L
    have emx:Ew m (dH (u,f,e,r,g,j) line (rstart (u,f,e,r,g,j) line a b i)-(rstart (u,f,e,r,g,j) line a b i-1)-1)=mT m (dH (u,f,e,r,g,j) line (rstart (u,f,e,r,g,j) line a b i)-rstart (u,f,e,r,g,j) line a b i):=by
     unfold mT;show max m _=_;split<;>omega
    have hmx:0<=mT m (dH (u,f,e,r,g,j) line (rstart (u,f,e,r,g,j) line a b i)-rstart (u,f,e,r,g,j) line a b i)/\mT m (dH (u,f,e,r,g,j) line (rstart (u,f,e,r,g,j) line a b i)-rstart (u,f,e,r,g,j) line a b i)<=86400:=by unfold mT;split<;>omega
    refine⟨i0,X,aD Z,aD Z,aD Z,(mT m (dH (u,f,e,r,g,j) line (rstart (u,f,e,r,g,j) line a b i)-rstart (u,f,e,r,g,j) line a b i),i+1),⟨O,Z,Z,hmx.1,hmx.2,λh=>?_,λh=>?_⟩,⟨emx,rfl⟩,Z⟩
    .have h:i+1<=(cY (u,f,e,r,g,j) line a b).length:=h;obtain⟨g1,g2,g3,g4⟩:=sf u f e r g j (line:=line) (a:=a) (b:=b) (i:=i) ha T Z i0 Z;rw[<- G,hs]at g1;have g1:=wW g1;rw[J5 i0,<- g1,<- L];exact oI _ _ _ _ (qJ _) Z
    .have h:i+1=(cY (u,f,e,r,g,j) line a b).length+1:=h;have hi2:i=(cY (u,f,e,r,g,j) line a b).length:=Z;have hs2:=hs;rw[G,hi2]at hs2;obtain⟨g1,_⟩:=UZ u f e r g j (line:=line) (a:=a) (b:=b) ha T Z hs2;rw[<- hi2,<- G]at g1;rw[<- L];cases(b-rstart (u,f,e,r,g,j) line a b i).toNat-1 with
     | zero=>rfl
     | succ k=>rw[waitGo,if_neg Z]
   .have h:i+1<=(cY (u,f,e,r,g,j) line a b).length:=h;exfalso;obtain⟨g1,g2,g3,g4⟩:=sf u f e r g j (line:=line) (a:=a) (b:=b) (i:=i) ha T Z i0 Z;have gr:=fi g1;rw[<- G]at gr;omega
   .rw[<- L,show(b-rstart (u,f,e,r,g,j) line a b i).toNat=0 by omega];rfl
  .have hi:i=(cY (u,f,e,r,g,j) line a b).length+1:=by rw[hl1]at hge;omega
   have L:=he hi;unfold mq nU;rw[O,L];exact⟨rfl,rfl⟩
def aIQ: ai Tryz.prog G0 KY6:=af aAp aIR
abbrev BF:=al [.val I,.val I] (λ_=>True) λ(a,b,_)=>.dat .bool (MU a b)
noncomputable def KQ5: Kt:=kOr 178 BF KY6
abbrev tc:=al [.row N,.val I,.val I] (λ(n,_,_,_)=>dI n=true) λ(n,a,b,_)=>.dat .bool (fC n a b)
noncomputable def KQ6: Kt:=kOr 122 tc KQ5
def aAu: eO 178 BF:=ae λ((a:Int),(b:Int),_)=>by
 refine zF (c:={mkc KY6 with mb:=λt=>t==15}) (A:=az) aIQ iI hm (p:=let e:=Ed a 0;let f:=Ea e (Dp a b) false;let g:=Ea f (Ee b (Ep IntKind.i64 (a+86400))) false;true/\(True->Q2 e ((Dh true e->e)/\Q4 f ((Dh true f->f)/\L4 g ((Dh true g->g)/\Ea g (Ee b 2000000) false=MU a b/\True))))) ⟨rfl,λ_=>?_⟩
 have e:Ea (Ea (Ea (Ed a 0) (Dp a b) false) (Ee b (Ep .i64 (Dq a 86400))) false) (Ee b 2000000) false=MU a b:=by
  rw[kG,rG];by_cases h:0<=a/\a<b/\b<=2000000
  .have j:Ep .i64 (Dq a 86400)=a+86400:=by
    unfold Ep;exact gn (by unfold Dq;exact aD Z)
   rw[j];simp only[qc,Dh,Eu,Dj,qd,Dt,Ec,Dw,Dp,Ei,Ee,Ed,Ez,Df,Eo,Dl,Dn,Es,Dy,Dx,Di,Dq,Eh,Fh,Dc,Dz,Dk,Eb,Ej,Du,Ey,Ew,Em,Ef,Fg,Fj,Fe,Et,En,Ep,Fb];omega
  .generalize Ep .i64 (Dq a 86400)=q;refine Z9 ?_;constructor
   .rintro⟨⟨⟨i,g⟩,_⟩,f⟩;exact(h ⟨i,g,f⟩).elim
   .rintro⟨i,g,f,_⟩;exact(h ⟨i,g,f⟩).elim
 generalize Ep .i64 (Dq a 86400)=q at *;unfold Q2 Q4 L4;simp only[qAj,kJ,yB,vU,Dh,zX];exact e
def aI4: ai Tryz.prog G0 KQ5:=af aAu aIQ
def Rt: eO 122 tc:=ae λ(((r,f,e,j,g,h):Net),(a:Int),(b:Int),_)=>by
 refine zE (A:=az) (p:=let i:=(r,f,e,j,g,h);(dI i->True/\L4 (MU a b) ((MU a b->dI i)/\(Dh true (MU a b)->MU a b)/\Ea (MU a b) (aR i) false=fC i a b/\True))) aI4 λi=>?_
 refine Z9 ?_;exact⟨λ_=>i,rfl⟩
def aI3: ai Tryz.prog G0 KQ6:=af Rt aI4
end Go.Eng.Sv
