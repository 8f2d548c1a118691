/- PeInAn PeMxn PeMxSn PeTt3n PeTt4n PeTt7n PeRo2n PeRo5n PeCoL0 PeCoL1 PeCo1n PeCo2n PeCo3n PeCo4n -/
import Derived.Test.YtlakcpmgefpfaaaGreatDoorECPlansA
import Derived.Test.YtlakcpmgefpfaaaGreatDoorECPlansB
import Derived.Test.YtlakcpmgefpfaaaGreatDoorECPlansC
import Derived.Test.YtlakcpmgefpfaaaGreatDoorECPlansD
import Derived.Test.YtlakcpmgefpfaaaGreatDoorECPlansE
import Derived.Shelf.SlGeneric
import Derived.Shelf.SlIterI.Nil
import Derived.Shelf.SortM.Plain
import Derived.Shelf.SortM.SortNone
import Derived.Ground.GgzProg
import Derived.Ground.SlgmProg
import Derived.Test.YtlakcpmgefpfaaaGreatDoorProg
import Derived.RangeFuncNested
import Derived.RangeFuncBound
import Derived.RangeFuncCalls
import Derived.RangeFuncLeaves
import Derived.RangeFuncWrites
import Derived.Shelf.Abstract
import Derived.Shelf.RegionOpen
import Derived.WalkKit
import Derived.OwnWalkIn
import Derived.TacticsInMore
import Derived.LoopNIn
import Derived.LoopIn
import Derived.Maps.OwnIn
set_option linter.unusedSimpArgs false
set_option linter.unusedVariables false
set_option maxRecDepth 100000
namespace Go.Eng.In
open Go.Proofs
theorem vm: ∀{l1 l2:Li},l1.Pairwise (· < ·)->l2.Pairwise (· < ·)->(∀x,x∈l1↔x∈l2)->l1=l2
 | [],[],_,_,_=>rfl
 | [],b::_,_,_,h=>by have:=(h b).2 (vS ..);cases this
 | a::_,[],_,_,h=>by have:=(h a).1 (vS ..);cases this
 | a::l1,b::l2,h1,h2,h=>by
  obtain⟨p1,q1⟩:=yL.1 h1;obtain⟨p2,q2⟩:=yL.1 h2;have e:a=b:=by
   rcases zA.1 ((h a).1 (vS ..))with g | g
   .exact g
   .rcases zA.1 ((h b).2 (vS ..))with g2 | g2
    .exact g2.symm
    .have:=p1 _ g2;have:=p2 _ g;omega
  subst e
  congr 1
  refine vm q1 q2 λx=>⟨λg=>?_,λg=>?_⟩
  .rcases zA.1 ((h x).1 (wM _ g))with g2 | g2
   .have:=p1 _ g;omega
   .exact g2
  .rcases zA.1 ((h x).2 (wM _ g))with g2 | g2
   .have:=p2 _ g;omega
   .exact g2
theorem Aq(w:List Bool)(h:Li)(a b:Int): (dc w h a b).Pairwise (· < ·):=by
 unfold dc;exact List.Pairwise.filter _ (qBv.2 (List.pairwise_lt_range.imp λh=>by omega))
theorem CJ(n:Net)(p:Plan)(k o:Int): (gP n p k o).Pairwise (· < ·):=by
 unfold gP;refine List.Pairwise.filter _ (qBv.2 ?_);unfold F2;exact(Aq _ _ _ _).imp λh=>by unfold um lh;omega
theorem CM(n:Net)(p:Plan)(c o:Int)(f:Nat)(t:Int): Sv.FZ n p c o (f+1) t=if Sv.jF (ah n o) (aM n c).2.1 t=0 then if Sv.fM (ah n o) (aM n c).2.1 t<1440*p.2.1 then Sv.fM (ah n o) (aM n c).2.1 t::Sv.FZ n p c o f (Sv.fM (ah n o) (aM n c).2.1 t+1)else[]else[]:=rfl
theorem zc{c:Cal}{m t:Int}(he:Sv.jF c m t=0): ∃D,wkF c.2.1 c.2.2 D=true/\Sv.fM c m t=lh c.1 D m/\D=Sv.fV c.2.1 c.2.2 (Sv.d0F c m t):=by
 obtain⟨_,_,n3⟩:=Sv.lP (w:=c.2.1) (h:=c.2.2) (d:=Sv.d0F c m t) he;exact⟨_,n3,if_pos he,rfl⟩
theorem zw{n:Net}{p:Plan}{c o:Int}(hc:Sv.md n p c o): ∀(f:Nat) (t:Int),(Sv.FZ n p c o f t).Pairwise (· < ·)/\∀x∈Sv.FZ n p c o f t,t<=x/\x<1440*p.2.1/\∃D,wkF (ah n o).2.1 (ah n o).2.2 D=true/\x=um n c o D
 | 0,t=>⟨zX,λx h=>by cases h⟩
 | f+1,t=>by
  have hv:Sv.ax (ah n o).1 (ah n o).2.1 (ah n o).2.2=true:=(Sv.dZ n.1 n.2.1 n.2.2.1 n.2.2.2.1 n.2.2.2.2.1 n.2.2.2.2.2 hc.1).2.2.1;obtain⟨⟨m0,m1⟩,_⟩:=Sv.me n.1 n.2.1 n.2.2.1 n.2.2.2.1 n.2.2.2.2.1 n.2.2.2.2.2 hc.1.1 hc.2.1;have m0:0<=(aM n c).2.1:=m0;have m1:(aM n c).2.1<=1439:=m1;obtain⟨i1,i2⟩:=zw hc f (Sv.fM (ah n o) (aM n c).2.1 t+1);rw[CM];split
  .rename_i he;obtain⟨b1,b2⟩:=Sv.iG hv he m0 m1;split
   .rename_i hl;refine⟨yL.2 ⟨λx hx=>?_,i1⟩,λx hx=>?_⟩
    .have:=(i2 x hx).1;omega
    .rcases zA.1 hx with rfl | hx
     .obtain⟨D,d1,d2,_⟩:=zc he;exact⟨b1,hl,D,d1,d2⟩
     .obtain⟨j1,j2,j3⟩:=i2 x hx;exact⟨by omega,j2,j3⟩
   .exact⟨zX,λx h=>by cases h⟩
  .exact⟨zX,λx h=>by cases h⟩
theorem HZ{n:Net}{p:Plan}{c o D:Int}(hc:Sv.md n p c o)(hw:wkF (ah n o).2.1 (ah n o).2.2 D=true)(h2:um n c o D<1440*p.2.1): ∀(f:Nat) (t:Int),1440*p.1<=t->t<=um n c o D->um n c o D-t<f->um n c o D∈Sv.FZ n p c o f t
 | 0,t,_,_,h=>by omega
 | f+1,t,h0,h1,hf=>by
  have hR:0<=p.1/\p.1<p.2.1/\p.2.1<=600/\p.2.1-p.1<=60:=vO hc.2.2;have hv:Sv.ax (ah n o).1 (ah n o).2.1 (ah n o).2.2=true:=(Sv.dZ n.1 n.2.1 n.2.2.1 n.2.2.2.1 n.2.2.2.2.1 n.2.2.2.2.2 hc.1).2.2.1;obtain⟨⟨m0,m1⟩,_⟩:=Sv.me n.1 n.2.1 n.2.2.1 n.2.2.2.1 n.2.2.2.2.1 n.2.2.2.2.2 hc.1.1 hc.2.1;have m0:0<=(aM n c).2.1:=m0;have m1:(aM n c).2.1<=1439:=m1
  have hd:Sv.d0F (ah n o) (aM n c).2.1 t<=D/\D<Sv.d0F (ah n o) (aM n c).2.1 t+60:=by
   unfold um lh at h1 h2;unfold Sv.d0F Sv.fu Sv.J9;split<;>omega
  have hm:D∈Sv.dN (ah n o).2.1 (ah n o).2.2 (Sv.d0F (ah n o) (aM n c).2.1 t) 60:=by
   unfold Sv.dN;exact yG.2 ⟨vZ.2 ⟨(D-Sv.d0F (ah n o) (aM n c).2.1 t).toNat,qU.2 (by omega),by omega⟩,hw⟩
  have he:Sv.jF (ah n o) (aM n c).2.1 t=0:=by
   unfold Sv.jF Sv.fU Sv.lQ;cases hl:Sv.dN (ah n o).2.1 (ah n o).2.2 (Sv.d0F (ah n o) (aM n c).2.1 t) 60 with
   | nil=>rw[hl]at hm;cases hm
   | cons y tl=>rfl
  have hle:Sv.fM (ah n o) (aM n c).2.1 t<=um n c o D:=Cc m1 he hw h1;obtain⟨b1,b2⟩:=Sv.iG hv he m0 m1;rw[CM,if_pos he,if_pos (by omega)]
  by_cases e:um n c o D=Sv.fM (ah n o) (aM n c).2.1 t
  .rw[e];exact vS ..
  .exact wM _ (HZ hc hw h2 f _ (by omega) (by omega) (by omega))
theorem OG{n:Net}{p:Plan}{c o:Int}(hc:Sv.md n p c o): gP n p c o=Sv.jP n p c o:=by
 have hR:0<=p.1/\p.1<p.2.1/\p.2.1<=600/\p.2.1-p.1<=60:=vO hc.2.2;have hv:Sv.ax (ah n o).1 (ah n o).2.1 (ah n o).2.2=true:=(Sv.dZ n.1 n.2.1 n.2.2.1 n.2.2.2.1 n.2.2.2.2.1 n.2.2.2.2.2 hc.1).2.2.1;obtain⟨⟨z1,z2,_,_⟩,_⟩:=Sv.bM.1 hv;obtain⟨⟨m0,m1⟩,_⟩:=Sv.me n.1 n.2.1 n.2.2.1 n.2.2.2.1 n.2.2.2.2.1 n.2.2.2.2.2 hc.1.1 hc.2.1;have m0:0<=(aM n c).2.1:=m0;have m1:(aM n c).2.1<=1439:=m1
 refine vm (CJ n p c o) (zw hc _ _).1 λx=>⟨λh=>?_,λh=>?_⟩
 .unfold gP at h;obtain⟨h1,h2⟩:=yG.1 h;obtain⟨D,hD,rfl⟩:=vZ.1 h1;unfold pO at h2;simp only[qC,qE]at h2;unfold F2 dc at hD;have hw:=(yG.1 hD).2;exact HZ hc hw h2.2 _ _ (qM _) h2.1 (by unfold Sv.Ui;omega)
 .obtain⟨a1,a2,D,d1,rfl⟩:=(zw hc _ _).2 x h;unfold gP;refine yG.2 ⟨vZ.2 ⟨D,?_,rfl⟩,?_⟩
  .unfold um lh at a1 a2;exact VZ (by omega) (by omega) d1
  .unfold pO;rw[qW a1,qW a2];rfl
theorem OE{z D m:Int}(m0:0<=m)(m1:m<=1439): Sv.fu z (lh z D m)=D:=by
 unfold Sv.fu lh;omega
theorem Om{n:Net}{p:Plan}{d:Int}: ∀(k:Nat) (o t:Int) (rest:Li),Sv.Aj n p.2.2.1 o d t->(Sv.ig n p.2.2.1 d k o t).2=0->
  lx n p d k o t (Sv.iO n p.1 (Sv.ig n p.2.2.1 d k o t).1.dropLast++rest)=(true,((Sv.ig n p.2.2.1 d k o t).1.getLastD (0,0,0,0)).2.1,rest)
 | k,o,t,rest,hp,h=>by
  obtain⟨hs,ht,u0,u1,o0,o1,v0,v1⟩:=id hp;by_cases he:o=d
  .rw[Sv.rY k he];cases k with
   | zero=>show(decide (o=d),t,rest)=_;rw[qW he];rfl
   | succ k=>show lx n p d (k+1) o t rest=_;unfold lx;rw[if_pos he];rfl
  by_cases hm:Sv.nxt p.2.2.1 o d=-1
  .rw[Sv.ji k he hm]at h;cases h
  by_cases h6:Sv.ni n (Sv.nxt p.2.2.1 o d) (Sv.ak n o t)=0
  case neg=>rw[Sv.lz k he hm h6]at h;exact absurd h h6
  cases k with
  | zero=>rw[Sv.jS he hm h6]at h;cases h
  | succ k=>
   have hno:Sv.noF n=true:=Sv.bm n.1 n.2.1 n.2.2.1 n.2.2.2.1 n.2.2.2.2.1 n.2.2.2.2.2 hs;obtain⟨_,_,c3⟩:(p.2.2.1.length:Int)=n.2.2.2.1.length/\((p.2.2.1.getD o.toNat []).length:Int)=n.2.2.2.1.length/\(Sv.nxt p.2.2.1 o d≠-1->(0<=Sv.nxt p.2.2.1 o d/\Sv.nxt p.2.2.1 o d<n.2.2.2.2.1.length)/\Sv.b9 n (Sv.nxt p.2.2.1 o d)=o):=Sv.gW n.1 n.2.1 n.2.2.1 n.2.2.2.1 n.2.2.2.2.1 n.2.2.2.2.2 ht u0 u1 o0 o1
   obtain⟨⟨l0,l1⟩,lf⟩:=c3 hm;have hlin:Sv.Jl n (Sv.nxt p.2.2.1 o d):=⟨hno,l0,l1⟩
   obtain⟨g1,g2,g3,g4,g5,g6,g7,g8⟩:0<=Sv.b9 n (Sv.nxt p.2.2.1 o d)/\Sv.b9 n (Sv.nxt p.2.2.1 o d)<n.2.2.2.1.length/\0<=Sv.pC n (Sv.nxt p.2.2.1 o d)/\Sv.pC n (Sv.nxt p.2.2.1 o d)<n.2.2.2.1.length/\0<=Sv.BM n (Sv.nxt p.2.2.1 o d)/\Sv.BM n (Sv.nxt p.2.2.1 o d)<=1439/\1<=Sv.cM n (Sv.nxt p.2.2.1 o d)/\Sv.cM n (Sv.nxt p.2.2.1 o d)<=5000:=Sv.tK n.1 n.2.1 n.2.2.1 n.2.2.2.1 n.2.2.2.2.1 n.2.2.2.2.2 hlin
   obtain⟨b1,b2,b3,b4⟩:0<=Sv.ak n o t/\Sv.ak n o t<=2000000/\Sv.ak n o t<=Sv.iN n (Sv.nxt p.2.2.1 o d) (Sv.ak n o t)/\Sv.iN n (Sv.nxt p.2.2.1 o d) (Sv.ak n o t)<=Sv.ak n o t+90000:=Sv.mM n.1 n.2.1 n.2.2.1 n.2.2.2.1 n.2.2.2.2.1 n.2.2.2.2.2 hlin h6;have htm:Sv.cH (Sv.ak n o t)=true:=by unfold Sv.cH;rw[qE];omega
   have eE:Sv.ni n (Sv.nxt p.2.2.1 o d) (Sv.ak n o t)=Sv.jF (ah n o) (aU n (cellAt p o d)).2.2.2.1 (Sv.ak n o t):=by unfold Sv.ni;rw[if_pos htm,lf];rfl
   have eD:Sv.iN n (Sv.nxt p.2.2.1 o d) (Sv.ak n o t)=Sv.fM (ah n o) (aU n (cellAt p o d)).2.2.2.1 (Sv.ak n o t):=by unfold Sv.iN;rw[if_pos htm,lf];rfl
   obtain⟨D,d1,d2,_⟩:=zc (eE.symm.trans h6);rw[Sv.jR k he hm h6]at h ⊢;by_cases h7:(Sv.ig n p.2.2.1 d k (Sv.pC n (Sv.nxt p.2.2.1 o d)) (Sv.iN n (Sv.nxt p.2.2.1 o d) (Sv.ak n o t)+Sv.cM n (Sv.nxt p.2.2.1 o d))).2=0
   case neg=>rw[Sv.rL h7]at h;exact absurd h h7
   have hp':Sv.Aj n p.2.2.1 (Sv.pC n (Sv.nxt p.2.2.1 o d)) d (Sv.iN n (Sv.nxt p.2.2.1 o d) (Sv.ak n o t)+Sv.cM n (Sv.nxt p.2.2.1 o d)):=⟨hs,ht,g3,g4,o0,o1,by omega,by omega⟩
   have ih:=Om k _ _ rest hp' h7;obtain⟨_,i2,_⟩:=Sv.rZ k _ _ hp' h7;rw[Sv.EJ h7];generalize hr:Sv.ig n p.2.2.1 d k (Sv.pC n (Sv.nxt p.2.2.1 o d)) (Sv.iN n (Sv.nxt p.2.2.1 o d) (Sv.ak n o t)+Sv.cM n (Sv.nxt p.2.2.1 o d))=r at ih i2 ⊢;have g5':0<=(aU n (cellAt p o d)).2.2.2.1:=g5;have g6':(aU n (cellAt p o d)).2.2.2.1<=1439:=g6
   have eL:Sv.aDX n p.1 (o,t,Sv.iN n (Sv.nxt p.2.2.1 o d) (Sv.ak n o t),Sv.nxt p.2.2.1 o d)=D+(2-p.1):=by
    show Sv.fu (ah n o).1 (Sv.iN n (Sv.nxt p.2.2.1 o d) (Sv.ak n o t))+(2-p.1)=_;rw[eD,d2,OE g5' g6']
   have e1:Sv.iO n p.1 (([(o,t,Sv.iN n (Sv.nxt p.2.2.1 o d) (Sv.ak n o t),Sv.nxt p.2.2.1 o d)]++r.1).dropLast)++rest=(D+(2-p.1))::(Sv.iO n p.1 r.1.dropLast++rest):=by
    rw[gJ,List.dropLast_cons_of_ne_nil i2];unfold Sv.iO;rw[zF,eL];rfl
   show lx n p d (k+1) o t (Sv.iO n p.1 (([_]++r.1).dropLast)++rest)=(true,(([_]++r.1).getLastD (0,0,0,0)).2.1,rest);rw[e1];have e2:(([(o,t,Sv.iN n (Sv.nxt p.2.2.1 o d) (Sv.ak n o t),Sv.nxt p.2.2.1 o d)]++r.1).getLastD (0,0,0,0)).2.1=(r.1.getLastD (0,0,0,0)).2.1:=by
    rw[gJ,qCp,yO,yO,xK i2];rfl
   rw[e2];have e3:D+(2-p.1)-2+p.1=D:=by omega
   have ok:dI n o (cellAt p o d) p (D+(2-p.1)) t=true:=by
    unfold dI;rw[e3,d1,qW (show lh (ah n o).1 D (aU n (cellAt p o d)).2.2.2.1≥mC n o t by rw[<- d2,<- eD];exact b3)];rfl
   have hm':¬cellAt p o d=-1:=hm;unfold lx;rw[if_neg he,if_neg hm',if_neg (show ¬bq ((D+(2-p.1))::(Sv.iO n p.1 r.1.dropLast++rest))=false by unfold bq;simp)]
   show(if dI n o (cellAt p o d) p (D+(2-p.1)) t=true then lx n p d k (aU n (cellAt p o d)).2.2.1 (lh (ah n o).1 (D+(2-p.1)-2+p.1) (aU n (cellAt p o d)).2.2.2.1+(aU n (cellAt p o d)).2.2.2.2.1) (Sv.iO n p.1 r.1.dropLast++rest)else _)=_
   rw[if_pos ok,e3,<- d2,<- eD];exact ih
theorem ZB(w:List Bool)(h:Li)(a m:Int): dc w h a (a+m-1)=Sv.dN w h a m:=by
 unfold dc Sv.dN;rw[show(a+m-1+1-a).toNat=m.toNat by omega];rfl
theorem X9{n:Net}{p:Plan}{c o d x:Int}(rest:Li)(hp:Sv.lu n p)(hc:Sv.md n p c o)(hd:Sv.lO n d)(hx:x∈Sv.jP n p c o)(h0:Sv.CN n p c o d x=0):
  rA n p c o d x (Sv.uZ n p o d x++rest)=true/\DK n p o d x (Sv.uZ n p o d x++rest)=rest:=by
 obtain⟨e1,e2,e3⟩:=Sv.zx h0;have hwP:=Sv.zu hp hc hd hx;have hf:lx n p d 19 o x (Sv.uZ n p o d x++rest)=(true,Sv.k9 n p o d x,rest):=Om 19 o x rest hwP e1;obtain⟨x0,x1⟩:=Sv.zv hc hx;have hR:0<=p.1/\p.1<p.2.1/\p.2.1<=600/\p.2.1-p.1<=60:=vO hc.2.2;obtain⟨_,w1,w2⟩:=Sv.xk hwP e1
 have hv:Sv.ax (ah n d).1 (ah n d).2.1 (ah n d).2.2=true:=(Sv.dZ n.1 n.2.1 n.2.2.1 n.2.2.2.1 n.2.2.2.2.1 n.2.2.2.2.2 hd).2.2.1;obtain⟨⟨z1,z2,_,_⟩,_⟩:=Sv.bM.1 hv;obtain⟨_,m0,m1⟩:=Sv.me n.1 n.2.1 n.2.2.1 n.2.2.2.1 n.2.2.2.2.1 n.2.2.2.2.2 hc.1.1 hc.2.1;have m0:0<=(aM n c).2.2:=m0;have m1:(aM n c).2.2<=1439:=m1
 obtain⟨_,_,r1,r2⟩:inR .i64 ((Sv.bO n d).2.2.2.2.1*(Sv.bO n d).2.2.2.2.2.1)/\inR .i64 (Sv.ak n d (Sv.k9 n p o d x))/\Sv.k9 n p o d x<=Sv.ak n d (Sv.k9 n p o d x)/\Sv.ak n d (Sv.k9 n p o d x)<=Sv.k9 n p o d x+960:=Sv.ny n.1 n.2.1 n.2.2.1 n.2.2.2.1 n.2.2.2.2.1 n.2.2.2.2.2 ⟨hd,by omega,by omega⟩
 have e2':Sv.jF (ah n d) (aM n c).2.2 (mC n d (Sv.k9 n p o d x))=0:=e2;obtain⟨D,d1,d2,d3⟩:=zc e2';obtain⟨b1,b2⟩:=Sv.iG hv e2' m0 m1;have eO:VE (ah n d) (aM n c).2.2 (mC n d (Sv.k9 n p o d x))=Sv.lQ (ah n d).2.1 (ah n d).2.2 (Sv.d0F (ah n d) (aM n c).2.2 (mC n d (Sv.k9 n p o d x))):=by
  unfold VE Sv.lQ;rw[<- ZB]
  congr 2
  show Ks _ _ _+59=_;have:Ks (ah n d) (aM n c).2.2 (mC n d (Sv.k9 n p o d x))=Sv.d0F (ah n d) (aM n c).2.2 (mC n d (Sv.k9 n p o d x)):=rfl;omega
 have eS:(Sv.lQ (ah n d).2.1 (ah n d).2.2 (Sv.d0F (ah n d) (aM n c).2.2 (mC n d (Sv.k9 n p o d x)))).isSome=true:=by
  cases hs:(Sv.lQ (ah n d).2.1 (ah n d).2.2 (Sv.d0F (ah n d) (aM n c).2.2 (mC n d (Sv.k9 n p o d x)))).isSome with
  | true=>rfl
  | false=>
   have:Sv.fU (ah n d).2.1 (ah n d).2.2 (Sv.d0F (ah n d) (aM n c).2.2 (mC n d (Sv.k9 n p o d x)))=0:=e2';unfold Sv.fU at this;rw[hs]at this;cases this
 have eT:ud n p o d x (Sv.uZ n p o d x++rest)=Sv.k9 n p o d x:=by unfold ud;rw[hf]
 have eL:BU n p c o d x (Sv.uZ n p o d x++rest)=D:=by
  unfold BU HW;rw[eT,eO,d3];rfl
 have eD:Sv.fu (ah n d).1 (Sv.aBp n p c o d x)=D:=by
  have:Sv.aBp n p c o d x=lh (ah n d).1 D (aM n c).2.2:=d2;rw[this,OE m0 m1]
 have eB:C7 n d x=Sv.fu (ah n d).1 x:=rfl;have er:mC n d (Sv.k9 n p o d x)=Sv.ak n d (Sv.k9 n p o d x):=rfl;have hB:D-C7 n d x<=2000:=by
  have:lh (ah n d).1 D (aM n c).2.2<=2400000:=by rw[<- d2];omega
  unfold lh at this;rw[eB];unfold Sv.fu;omega
 have hN:((Je n p c o d x (Sv.uZ n p o d x++rest)).length:Int)<=fG p c o d:=by
  unfold Je;rw[eL];have e4:dc (ah n d).2.1 (ah n d).2.2 (C7 n d x+1) D=Sv.dN (ah n d).2.1 (ah n d).2.2 (C7 n d x+1) (D-C7 n d x):=by
   rw[<- ZB]
   congr 1;omega
  rw[e4];have e5:Sv.Uw n p c o d x=((Sv.dN (ah n d).2.1 (ah n d).2.2 (C7 n d x+1) (D-C7 n d x)).length:Int):=by
   show Sv.nj (ah n d).2.1 (ah n d).2.2 (Sv.fu (ah n d).1 x) (Sv.fu (ah n d).1 (Sv.aBp n p c o d x))=_;rw[eD];exact if_pos (show D<=C7 n d x+2000 by omega)
  rw[<- e5];exact e3
 refine⟨?_,by unfold DK;rw[hf]⟩
 unfold rA uf mV;rw[eT,eO,eL,hf,eS,qW hB,qW hN];rfl
theorem od{f:Nat->Li->Option (Li)}{g:Nat->Li}: ∀(m:Nat) (rest:Li),(∀i,i<m->∀rest,f i (g i++rest)=some rest)->runN f m ((List.range m).flatMap g++rest)=some rest
 | 0,rest,_=>rfl
 | m+1,rest,h=>by
  rw[zV,kX,vU,runN,od m _ λi hi=>h i (by omega)]
  simpa using h m (by omega) rest
theorem JA{g:Int->Li}(l:Li): l.flatMap g=(List.range l.length).flatMap λi=>g (l.getD i 0):=by
 have:l=(List.range l.length).map λi=>l.getD i 0:=by
  apply kY
  .simp
  .intro i h1 h2;simp[h1]
 conv=>lhs;rw[this]
 rw[List.flatMap_map]
theorem UC{n:Net}{p:Plan}{c o d:Int}(hp:Sv.lu n p)(hc:Sv.md n p c o)(hd:Sv.lO n d)(h0:Sv.rG n p c o d=0)(rest:Li): pP n p c o d (Sv.rF n p c o d++rest)=some rest:=by
 unfold pP Sv.rF;unfold Sv.rG at h0;have ed:Sv.li p c o d=fG p c o d:=rfl;rw[ed]at h0 ⊢;by_cases h1:fG p c o d=-1
 .rw[if_pos h1,if_pos h1];rfl
 .rw[if_neg h1]at h0;rw[if_neg h1,if_neg h1,OG hc];have e:Sv.keepA n p c o d=(List.range (Sv.jP n p c o).length).flatMap λi=>Sv.uZ n p o d ((Sv.jP n p c o).getD i 0):=by
   unfold Sv.keepA Sv.mU;rw[yI,JA]
  rw[e];refine od _ _ λi hi rest=>?_
  obtain⟨q1,q2⟩:=X9 rest hp hc hd (aJ hi) (Sv.tO h0 _ (aJ hi));unfold s7;rw[OG hc,if_pos q1,q2]
theorem Y6{n:Net}{p:Plan}(hp:Sv.lu n p)(h0:Sv.If n p p.2.2.2.length=0): rx n p (Sv.Ku n p p.2.2.2.length)=some []:=by
 have hsh:=Sv.sZ hp;have dl:=hsh.dl;have hno:Sv.noF n=true:=Sv.bm n.1 n.2.1 n.2.2.1 n.2.2.2.1 n.2.2.2.2.1 n.2.2.2.2.2 hp.1;have hR:=(Sv.da hp.2).1;have key:∀rest,runN (λk=>LA n p (k:Int)) p.2.2.2.length (Sv.Ku n p p.2.2.2.length++rest)=some rest:=λrest=>od _ rest λc hc rest=>by
  have hcl:Sv.Ao n (c:Int):=⟨by omega,by omega⟩
  have hc0:Sv.Rw n p (c:Int) (p.2.2.2.getD c []).length=0:=Sv.ew h0 _ (vZ.2 ⟨c,qU.2 hc,rfl⟩);obtain⟨q1,q2⟩:=hsh.dr _ (aJ (l:=p.2.2.2) (i:=c) (d:=[]) hc);unfold LA dG;rw[qQ];refine od _ rest λo ho rest=>?_
  have ho0:Sv.Vi n p (c:Int) (o:Int) ((p.2.2.2.getD c []).getD o []).length=0:=by
   have:=Sv.ew hc0 _ (vZ.2 ⟨o,qU.2 ho,rfl⟩)
   rwa [qQ]at this
  obtain⟨q3,_⟩:=q2 _ (aJ (l:=p.2.2.2.getD c []) (i:=o) (d:=[]) ho);unfold M5 cellsD;rw[qQ,qQ];refine od _ rest λd hd rest=>?_
  have hd0:Sv.rG n p (c:Int) (o:Int) (d:Int)=0:=Sv.ew ho0 _ (vZ.2 ⟨d,qU.2 hd,rfl⟩);exact UC hp ⟨⟨hno,by omega,by omega⟩,hcl,hR⟩ ⟨hno,by omega,by omega⟩ hd0 rest
 unfold rx st1;rw[qQ];simpa using key []
theorem ui{α:Type}{f:α->Li}{s:Nat}(rest:Li): ∀(l:List α) (k:Nat),(∀x∈l,(f x).length=s)->k<=l.length->(l.flatMap f++rest).drop (k*s)=(l.drop k).flatMap f++rest
 | l,0,_,_=>by simp
 | [],k+1,_,h=>by simp at h
 | a::l,k+1,h,hk=>by
  have ha:=h a (vS ..);rw[yQ,vU,show(k+1)*s=(f a).length+k*s by rw[ha,Nat.succ_mul];omega,qAj,List.drop_eq_nil_of_le (by omega),Nat.add_sub_cancel_left,xH,ui rest l k (λx hx=>h x (wM _ hx)) (by simpa using hk)]
  rfl
theorem U4{m:Nat}{t:Lj}(rest:Li)(h1:t.length=m)(h2:∀r∈t,r.length=m): jk (m:Int) (t.flatMap Sv.up1++rest)=t:=by
 unfold jk cU;apply kY
 .simp[h1]
 intro i i1 i2;have hr:(t[i]).length=m:=h2 _ (wO i2);rw[xM,kK];apply kY
 .simp[hr]
 intro j j1 j2;rw[xM,kK];unfold tg;have e1:((i:Int)*(m:Int)+(j:Int)).toNat=i*m+j:=by
  rw[<- qAb,<- Int.natCast_add,qQ]
 rw[e1];have e2:(t.flatMap Sv.up1++rest).getD (i*m+j) 0=((t.flatMap Sv.up1++rest).drop (i*m)).getD j 0:=by
  rw[qA,qA,qY]
 rw[e2,ui rest t i (λr hr=>by rw[Sv.sa,h2 r hr]) (by omega),List.drop_eq_getElem_cons i2,yQ,vU]
 have e3:j<(Sv.up1 t[i]).length:=by rw[Sv.sa];exact j2
 rw[qA,vH e3,qB e3,qR];have e4:Sv.up1 t[i]=(t[i]).map λx=>x+1:=by unfold Sv.up1 Sv.upR;rw[qQ,yI]
 have e5:(Sv.up1 t[i])[j]=t[i][j]+1:=by
  have:=xM (λx:Int=>x+1) (l:=t[i]) (i:=j) (h:=by rw[vY];exact j2)
  rw[<- this]
  congr 1
 rw[e5];omega
theorem oM{α:Type}{f:α->Li}{s:Nat}: ∀{l:List α},(∀x∈l,(f x).length=s)->(l.flatMap f).length=l.length*s
 | [],_=>by simp
 | a::l,h=>by
  rw[yQ,qF,h a (vS ..),oM λx hx=>h x (wM _ hx),wS,Nat.succ_mul]
  omega
theorem Nw{n:Net}{p:Plan}: Sv.g9 n p=p.1::p.2.1::(n.2.2.2.1.length:Int)::(n.2.2.2.2.2.length:Int)::(p.2.2.1.flatMap Sv.up1++((p.2.2.2.flatMap λt=>t.flatMap Sv.up1)++Sv.Ku n p p.2.2.2.length)):=by
 unfold Sv.g9 Sv.hdN Sv.h2N Sv.h1N Sv.h4N;rw[qQ,qQ,yI,yI];simp
theorem Nb{n:Net}{p:Plan}(hp:Sv.lu n p): mD (Sv.g9 n p)=true/\aw (Sv.g9 n p)=p/\bK (Sv.g9 n p)=Sv.Ku n p p.2.2.2.length:=by
 have hsh:=Sv.sZ hp;have hR:0<=p.1/\p.1<p.2.1/\p.2.1<=600/\p.2.1-p.1<=60:=vO (Sv.da hp.2).1;have m12:=hsh.m;have q4:=hsh.q;obtain⟨p1,p2,nx,dy⟩:=p;have nl:nx.length=n.2.2.2.1.length:=hsh.nl;have dl:dy.length=n.2.2.2.2.2.length:=hsh.dl;have lA:(nx.flatMap Sv.up1).length=n.2.2.2.1.length*n.2.2.2.1.length:=by rw[oM λr hr=>(Sv.sa r).trans (hsh.nr r hr).1,nl]
 have lT:∀t∈dy,(t.flatMap Sv.up1).length=n.2.2.2.1.length*n.2.2.2.1.length:=λt ht=>by
  obtain⟨g1,g2⟩:=hsh.dr t ht;rw[oM λr hr=>(Sv.sa r).trans (g2 r hr).1,g1]
 have lB:(dy.flatMap λt=>t.flatMap Sv.up1).length=n.2.2.2.2.2.length*(n.2.2.2.1.length*n.2.2.2.1.length):=by rw[oM lT,dl]
 rw[Nw];generalize Sv.Ku n (p1,p2,nx,dy) dy.length=G;generalize hm:n.2.2.2.1.length=m at *;generalize hq:n.2.2.2.2.2.length=q at *;have eM:(m:Int)*(m:Int)=((m*m:Nat):Int):=(qAb m m).symm;have eQ:(q:Int)*(((m*m:Nat):Int))=((q*(m*m):Nat):Int):=(qAb q (m*m)).symm
 have d4:bB (p1::p2::(m:Int)::(q:Int)::(nx.flatMap Sv.up1++((dy.flatMap λt=>t.flatMap Sv.up1)++G))) 4=nx.flatMap Sv.up1++((dy.flatMap λt=>t.flatMap Sv.up1)++G):=rfl
 have dA:bB (p1::p2::(m:Int)::(q:Int)::(nx.flatMap Sv.up1++((dy.flatMap λt=>t.flatMap Sv.up1)++G))) (4+(m:Int)*m)=(dy.flatMap λt=>t.flatMap Sv.up1)++G:=by
  unfold bB;rw[eM,show(4+((m*m:Nat):Int)).toNat=m*m+1+1+1+1 by omega]
  simp only[List.drop_succ_cons];rw[<- lA,qAj,qAx,List.drop_length];rfl
 have dB:bB (p1::p2::(m:Int)::(q:Int)::(nx.flatMap Sv.up1++((dy.flatMap λt=>t.flatMap Sv.up1)++G))) (4+(m:Int)*m+(q:Int)*((m:Int)*m))=G:=by
  unfold bB;rw[eM,eQ,show(4+((m*m:Nat):Int)+((q*(m*m):Nat):Int)).toNat=(m*m+q*(m*m))+1+1+1+1 by omega]
  simp only[List.drop_succ_cons];rw[<- lA,<- vU,show(nx.flatMap Sv.up1).length+q*(nx.flatMap Sv.up1).length=(nx.flatMap Sv.up1++dy.flatMap λt=>t.flatMap Sv.up1).length by rw[qF,lB,lA],qAj,qAx,List.drop_length];rfl
 refine⟨?_,?_,dB⟩
 .unfold mD ql;show(decide (4<=(p1::p2::(m:Int)::(q:Int)::(nx.flatMap Sv.up1++((dy.flatMap λt=>t.flatMap Sv.up1)++G))).length)&&decide ((m:Int)<=12/\(q:Int)<=4/\p1<p2/\p2<=p1+60/\p2<=600)&&decide (4+(m:Int)*m+(q:Int)*((m:Int)*m)<=((p1::p2::(m:Int)::(q:Int)::(nx.flatMap Sv.up1++((dy.flatMap λt=>t.flatMap Sv.up1)++G))).length:Int)))=true
  simp only[qC,qE,wS,qF,lA,lB,eM,eQ];simp only at hR;omega
 .unfold aw;rw[show(p1::p2::(m:Int)::(q:Int)::(nx.flatMap Sv.up1++((dy.flatMap λt=>t.flatMap Sv.up1)++G))).getD 2 0=(m:Int)from rfl,show(p1::p2::(m:Int)::(q:Int)::(nx.flatMap Sv.up1++((dy.flatMap λt=>t.flatMap Sv.up1)++G))).getD 3 0=(q:Int)from rfl,d4,dA,U4 _ nl λr hr=>(hsh.nr r hr).1.trans hm]
  have:rz (q:Int) (m:Int) ((dy.flatMap λt=>t.flatMap Sv.up1)++G)=dy:=by
   unfold rz;apply kY
   .simp[dl]
   intro k k1 k2;obtain⟨g1,g2⟩:=hsh.dr _ (wO k2);rw[xM,kK];unfold bB;rw[eM,<- qAb,qQ,ui G dy k lT (by omega),List.drop_eq_getElem_cons k2,yQ,vU]
   exact U4 _ (g1.trans hm) λr hr=>(g2 r hr).1.trans hm
  rw[this];rfl
theorem HA{n:Net}{p:Plan}{d:Int}(h1:0<=p.1/\p.1<=600): ∀(k:Nat) (o t:Int),Sv.Aj n p.2.2.1 o d t->1440*p.1<=t->(Sv.ig n p.2.2.1 d k o t).2=0->∀x∈Sv.iO n p.1 (Sv.ig n p.2.2.1 d k o t).1.dropLast,0<=x/\x<=65519
 | k,o,t,hp,h0,h,x,hx=>by
  obtain⟨hs,ht,u0,u1,o0,o1,v0,v1⟩:=id hp;by_cases he:o=d
  .rw[Sv.rY k he]at hx;cases hx
  by_cases hm:Sv.nxt p.2.2.1 o d=-1
  .rw[Sv.ji k he hm]at h;cases h
  by_cases h6:Sv.ni n (Sv.nxt p.2.2.1 o d) (Sv.ak n o t)=0
  case neg=>rw[Sv.lz k he hm h6]at h;exact absurd h h6
  cases k with
  | zero=>rw[Sv.jS he hm h6]at h;cases h
  | succ k=>
   have hno:Sv.noF n=true:=Sv.bm n.1 n.2.1 n.2.2.1 n.2.2.2.1 n.2.2.2.2.1 n.2.2.2.2.2 hs;obtain⟨_,_,c3⟩:(p.2.2.1.length:Int)=n.2.2.2.1.length/\((p.2.2.1.getD o.toNat []).length:Int)=n.2.2.2.1.length/\(Sv.nxt p.2.2.1 o d≠-1->(0<=Sv.nxt p.2.2.1 o d/\Sv.nxt p.2.2.1 o d<n.2.2.2.2.1.length)/\Sv.b9 n (Sv.nxt p.2.2.1 o d)=o):=Sv.gW n.1 n.2.1 n.2.2.1 n.2.2.2.1 n.2.2.2.2.1 n.2.2.2.2.2 ht u0 u1 o0 o1
   obtain⟨⟨l0,l1⟩,lf⟩:=c3 hm;have hlin:Sv.Jl n (Sv.nxt p.2.2.1 o d):=⟨hno,l0,l1⟩
   obtain⟨g1,g2,g3,g4,g5,g6,g7,g8⟩:0<=Sv.b9 n (Sv.nxt p.2.2.1 o d)/\Sv.b9 n (Sv.nxt p.2.2.1 o d)<n.2.2.2.1.length/\0<=Sv.pC n (Sv.nxt p.2.2.1 o d)/\Sv.pC n (Sv.nxt p.2.2.1 o d)<n.2.2.2.1.length/\0<=Sv.BM n (Sv.nxt p.2.2.1 o d)/\Sv.BM n (Sv.nxt p.2.2.1 o d)<=1439/\1<=Sv.cM n (Sv.nxt p.2.2.1 o d)/\Sv.cM n (Sv.nxt p.2.2.1 o d)<=5000:=Sv.tK n.1 n.2.1 n.2.2.1 n.2.2.2.1 n.2.2.2.2.1 n.2.2.2.2.2 hlin
   obtain⟨b1,b2,b3,b4⟩:0<=Sv.ak n o t/\Sv.ak n o t<=2000000/\Sv.ak n o t<=Sv.iN n (Sv.nxt p.2.2.1 o d) (Sv.ak n o t)/\Sv.iN n (Sv.nxt p.2.2.1 o d) (Sv.ak n o t)<=Sv.ak n o t+90000:=Sv.mM n.1 n.2.1 n.2.2.1 n.2.2.2.1 n.2.2.2.2.1 n.2.2.2.2.2 hlin h6
   obtain⟨_,_,r1,r2⟩:inR .i64 ((Sv.bO n o).2.2.2.2.1*(Sv.bO n o).2.2.2.2.2.1)/\inR .i64 (Sv.ak n o t)/\t<=Sv.ak n o t/\Sv.ak n o t<=t+960:=Sv.ny n.1 n.2.1 n.2.2.1 n.2.2.2.1 n.2.2.2.2.1 n.2.2.2.2.2 ⟨⟨hno,u0,u1⟩,by omega,by omega⟩
   have hv:Sv.ax (ah n o).1 (ah n o).2.1 (ah n o).2.2=true:=(Sv.dZ n.1 n.2.1 n.2.2.1 n.2.2.2.1 n.2.2.2.2.1 n.2.2.2.2.2 ⟨hno,u0,u1⟩).2.2.1;obtain⟨⟨z1,z2,_,_⟩,_⟩:=Sv.bM.1 hv;rw[Sv.jR k he hm h6]at h hx;by_cases h7:(Sv.ig n p.2.2.1 d k (Sv.pC n (Sv.nxt p.2.2.1 o d)) (Sv.iN n (Sv.nxt p.2.2.1 o d) (Sv.ak n o t)+Sv.cM n (Sv.nxt p.2.2.1 o d))).2=0
   case neg=>rw[Sv.rL h7]at h;exact absurd h h7
   have hp':Sv.Aj n p.2.2.1 (Sv.pC n (Sv.nxt p.2.2.1 o d)) d (Sv.iN n (Sv.nxt p.2.2.1 o d) (Sv.ak n o t)+Sv.cM n (Sv.nxt p.2.2.1 o d)):=⟨hs,ht,g3,g4,o0,o1,by omega,by omega⟩
   obtain⟨_,i2,_⟩:=Sv.rZ k _ _ hp' h7;rw[Sv.EJ h7]at hx;have hx:x∈Sv.iO n p.1 (([(o,t,Sv.iN n (Sv.nxt p.2.2.1 o d) (Sv.ak n o t),Sv.nxt p.2.2.1 o d)]++(Sv.ig n p.2.2.1 d k (Sv.pC n (Sv.nxt p.2.2.1 o d)) (Sv.iN n (Sv.nxt p.2.2.1 o d) (Sv.ak n o t)+Sv.cM n (Sv.nxt p.2.2.1 o d))).1).dropLast):=hx;rw[gJ,List.dropLast_cons_of_ne_nil i2]at hx;rcases zA.1 hx with rfl | hx
   .show 0<=Sv.fu (ah n o).1 (Sv.iN n (Sv.nxt p.2.2.1 o d) (Sv.ak n o t))+(2-p.1)/\Sv.fu (ah n o).1 (Sv.iN n (Sv.nxt p.2.2.1 o d) (Sv.ak n o t))+(2-p.1)<=65519;unfold Sv.fu;omega
   .exact HA h1 k _ _ hp' (by omega) h7 x hx
theorem Yf{n:Net}(h:Sv.noF n=true): usF n=true:=by
 have hc:=((Sv.oI (by decide)).1 (Sv.hC n.1 n.2.1 n.2.2.1 n.2.2.2.1 n.2.2.2.2.1 n.2.2.2.2.2 h).2.1).2.2.2
 have ho:=(Sv.gb n.1 n.2.1 n.2.2.1 n.2.2.2.1 n.2.2.2.2.1 n.2.2.2.2.2 h).2.2.2;have hl:=(Sv.jy n.1 n.2.1 n.2.2.1 n.2.2.2.1 n.2.2.2.2.1 n.2.2.2.2.2 h).2.2.2;have hk:=Sv.Hu n.1 n.2.1 n.2.2.1 n.2.2.2.1 n.2.2.2.2.1 n.2.2.2.2.2 h;unfold usF;simp only[qC,qL];refine⟨⟨⟨λc hcm=>?_,λo hom=>?_⟩,λl hlm=>?_⟩,λk hkm=>?_⟩
 .obtain⟨i,hi,rfl⟩:=wX.1 hcm;have hcl:(Sv.az n.1 n.2.1).length=n.1.length:=by unfold Sv.az;simp
  have:=hc i (by omega)
  unfold Sv.bh at this;rw[Sv.km (λc:Int×List Bool×Li=>Sv.ax c.1 c.2.1 c.2.2) n.1 _ (0,[],[]) false (by omega),qA,qB hi]at this
  exact this
 .have:=ho o hom;unfold Sv.cT Sv.dO Sv.dD at this;simp only[qC,qE]at this;unfold kb btw;simp only[qC,qE];omega
 .obtain⟨g1,g2,g3,g4,g5,g6,g7,g8⟩:=Sv.gn (hl l hlm);have a1:0<=l.2.1:=g1;have a2:l.2.1<n.2.2.2.1.length:=g2;have a3:0<=l.2.2.1:=g3;have a4:l.2.2.1<n.2.2.2.1.length:=g4;have a5:0<=l.2.2.2.1/\l.2.2.2.1<=1439:=g6;have a6:1<=l.2.2.2.2.1:=g7;have a7:l.2.2.2.2.1<=5000:=g8;unfold ko je btw;simp only[qC,qE];omega
 .have:=hk k hkm;unfold Sv.gA Sv.dD at this;simp only[qC,qE]at this;unfold kz btw;simp only[qC,qE];omega
theorem T9{n:Net}{p:Plan}(hp:Sv.lu n p): zg n p=true:=by
 have hsh:=Sv.sZ hp;have hT:=(Sv.da hp.2).2.1;have hl:(p.2.2.1.length:Int)=n.2.2.2.1.length:=by have:=hsh.nl;omega
 unfold zg;simp only[qC,qE,qL,qU];refine⟨⟨hsh.nl,hsh.dl⟩,λi hi=>?_⟩
 have h1:=(Sv.pq (n:=n) hl).1 hT i (by omega)
 unfold Sv.rowOk at h1;simp only[qC,qE,qL]at h1;unfold lJ;rw[qL];intro x hx;have h2:=h1.2 x hx;unfold Sv.aT Sv.dO at h2;simp only[zW,qC,qE]at h2;unfold ie;simp only[zW,qC,qE];rcases h2 with h2 | ⟨h2,h3⟩
 .exact .inl h2
 .exact .inr ⟨h2.2,h3⟩
theorem Pv{n:Net}{p:Plan}(h:Sv.wrE n p=0): Acc n (Sv.g9 n p)/\aw (Sv.g9 n p)=p:=by
 have hp:Sv.lu n p:=by
  refine Classical.byContradiction λg=>?_
  have:Sv.wrE n p=1:=if_neg g;omega
 have hW:Sv.wrE n p=if Sv.If n p p.2.2.2.length≠0 then Sv.If n p p.2.2.2.length else if(Sv.g9 n p).length>40000 then 2 else 0:=if_pos hp
 rw[h]at hW;have h0:Sv.If n p p.2.2.2.length=0:=Decidable.byContradiction λg=>by
  rw[if_pos g]at hW;exact g hW.symm
 rw[if_neg (λg=>g h0)]at hW
 have hlen:(Sv.g9 n p).length<=40000:=Decidable.byContradiction λg=>by
  rw[if_pos (by omega)]at hW;cases hW
 obtain⟨r1,r2,r3⟩:=Nb hp;have hsh:=Sv.sZ hp;have hno:Sv.noF n=true:=Sv.bm n.1 n.2.1 n.2.2.1 n.2.2.2.1 n.2.2.2.2.1 n.2.2.2.2.2 hp.1;have hRp:=(Sv.da hp.2).1;have hR:0<=p.1/\p.1<p.2.1/\p.2.1<=600/\p.2.1-p.1<=60:=vO hRp;have m12:=hsh.m;have q4:=hsh.q;have dl:=hsh.dl;have hup:∀(r:Li) (x:Int),(∀y∈r,-1<=y/\y<=65518)->x∈Sv.up1 r->0<=x/\x<=65519:=λr x hr hx=>by
  unfold Sv.up1 Sv.upR at hx;obtain⟨y,hy,rfl⟩:=vZ.1 hx;have:=hr y (kR hy);omega
 refine⟨⟨cN.2 λx hx=>?_,r1,Yf hno,by rw[r2];exact T9 hp,hlen,by rw[r2,r3];exact Y6 hp h0⟩,r2⟩
 rw[Nw]at hx;simp only[zA,qH]at hx;rcases hx with rfl | rfl | rfl | rfl | hx | hx | hx
 .omega
 .omega
 .omega
 .omega
 .obtain⟨r,hr,hx⟩:=zH.1 hx;exact hup r x (λy hy=>by have:=(hsh.nr r hr).2 y hy;omega) hx
 .obtain⟨t,ht,hx⟩:=zH.1 hx;obtain⟨r,hr,hx⟩:=zH.1 hx;exact hup r x ((hsh.dr t ht).2 r hr).2 hx
 .obtain⟨c,hc,hx⟩:=zH.1 hx;have hc:=qU.1 hc;have hcl:Sv.Ao n (c:Int):=⟨by omega,by omega⟩
  have hc0:Sv.Rw n p (c:Int) (p.2.2.2.getD c []).length=0:=Sv.ew h0 _ (vZ.2 ⟨c,qU.2 hc,rfl⟩);obtain⟨q1,q2⟩:=hsh.dr _ (aJ (l:=p.2.2.2) (i:=c) (d:=[]) hc);obtain⟨o,ho,hx⟩:=zH.1 hx;have ho:=qU.1 ho;rw[qQ]at hx;have ho0:Sv.Vi n p (c:Int) (o:Int) ((p.2.2.2.getD c []).getD o []).length=0:=by
   have:=Sv.ew hc0 _ (vZ.2 ⟨o,qU.2 ho,rfl⟩)
   rwa [qQ]at this
  obtain⟨q3,_⟩:=q2 _ (aJ (l:=p.2.2.2.getD c []) (i:=o) (d:=[]) ho);obtain⟨d,hd,hx⟩:=zH.1 hx;have hd:=qU.1 hd;have hd0:Sv.rG n p (c:Int) (o:Int) (d:Int)=0:=Sv.ew ho0 _ (vZ.2 ⟨d,qU.2 hd,rfl⟩);have hcp:Sv.md n p (c:Int) (o:Int):=⟨⟨hno,by omega,by omega⟩,hcl,hRp⟩
  unfold Sv.rF at hx;unfold Sv.rG at hd0;split at hx
  .cases hx
  .rename_i hne;rw[if_neg hne]at hd0;obtain⟨cut,hcut,hx⟩:=zH.1 hx;have hcut:=kR hcut;exact HA ⟨hR.1,by omega⟩ 19 (o:Int) cut (Sv.zu hp hcp ⟨hno,by omega,by omega⟩ hcut) (Sv.zv hcp hcut).1 (Sv.zx (Sv.tO hd0 _ hcut)).1 x hx
end Go.Eng.In
set_option maxRecDepth 100000
noncomputable section
namespace Go.Eng.Mp
open Go.Proofs
open Go.Eng.Sv (I R M G0 KI0)
open Go.Eng.Sv (aL hm)
def dt(x:Int): Bool:=decide (x<=-549755813888)
def pL(x:Int): Bool:=dt x||(decide (x≥-1000000000)&&decide (x<=1000000000))
def jd(x y:Int): Int:=bif dt x&&dt y then -1099511627776 else max x y
def iR(x y:Int): Int:=bif dt x||dt y then -1099511627776 else x+y
def sc(x y:Int): Prop:=dt x=false->dt y=false->inR .i64 (x+y)
def dR(x y:Bool): Bool:=x||y
def nF{α:Type}(op:α->α->α)(g:Int->α)(z:α): Nat->α
 | 0=>z
 | k+1=>op (nF op g z k) (g k)
def iH(op:Bool->Bool->Bool)(g:Int->Bool)(z:Bool)(n:Int): Bool:=nF op g z n.toNat
def gZ(n:Int)(preP:Bool->Bool->Prop)(preT:Int->Prop)(g:Int->Bool): Prop:=n<=9223372036854775807/\∀k,0<=k->k<n->preT k/\∀x,preP x (g k)
def upto(k n:Int): Prop:=0<=k/\(k<=n\/k=0)
def idx(k:Int)(row:Li): Prop:=0<=k/\k<(row.length:Int)
def at1(row:Li)(k:Int): Int:=row.getD k.toNat 0
def ki(row:Li)(k:Int): Bool:=!(pL (at1 row k))
def mX(row:Li): Bool:=iH dR (ki row) false row.length
def NN(row:Li): Prop:=(row.length:Int)<=9223372036854775807
def K0: Kt:=λ_ _ _=>none
def c0: Cfg:=Sv.mkc K0
theorem iA(x:Int)(hvc:
 true/\(True->Eh x (-549755813888)=dt x/\True)):
  evF c0 aA 260 [.dat I x] [] ⟨True,.dat .bool (dt x),[]⟩:=oE hvc
theorem KS0: al Tryz.prog G0 K0:=λf args m c h=>by cases h
theorem aDL(x:Int): af Tryz.prog G0 260 [.dat I x] [] ⟨True,.dat .bool (dt x),[]⟩:=
 ae (c:=c0) KS0 aL hm (iA x ⟨rfl,λ_=>⟨rfl,trivial⟩⟩)
theorem KY(x y:Bool)(hvc:
 true/\(True->(Dk true (Di x)->Di x)/\Eb x true y=dR x y/\True)):
  evF c0 aA 262 [.dat .bool x,.dat .bool y] [] ⟨True,.dat .bool (dR x y),[]⟩:=oE hvc
theorem G6(x y:Bool): af Tryz.prog G0 262 [.dat .bool x,.dat .bool y] [] ⟨True,.dat .bool (dR x y),[]⟩:=
 ae (c:=c0) KS0 aL hm (KY x y (by cases x<;>cases y<;>simp[dR]))
def aBm(n:Int)(z:Bool)(op:Bool->Bool->Bool)(g:Int->Bool): Ann:=⟨λid s=>match id with
 | 3=>some {α:=Int,inv:=λk=>upto k n,st:=λk=>put s [(13,.dat I k),(9,.dat .bool (iH op g z k))],μ:=λk=>Dc (Dh n k)}
 | _=>none,λ_ _=>none,λ_ _=>none⟩
theorem QR(n:Int)(z:Bool)(preP:Bool->Bool->Prop)(op:Bool->Bool->Bool)(preT:Int->Prop)(g:Int->Bool)(hvc:
 true/\(gZ n preP preT g->(∃x,upto x n/\AV.clo2 Ty.bool Ty.bool Ty.bool preP op=AV.clo2 Ty.bool Ty.bool Ty.bool preP op/\AV.clo1 (Ty.int IntKind.i64) Ty.bool preT g=AV.clo1 (Ty.int IntKind.i64) Ty.bool preT g/\false=false/\z=iH op g z x/\n=n/\0=x/\True)/\∀(x:Int),let c1:=iH op g z x;let c2:=x+1;upto x n->(Dp x n->preT x/\preP c1 (g x)/\inR .i64 c2/\∃y,upto y n/\(AV.clo2 Ty.bool Ty.bool Ty.bool preP op=AV.clo2 Ty.bool Ty.bool Ty.bool preP op/\AV.clo1 (Ty.int IntKind.i64) Ty.bool preT g=AV.clo1 (Ty.int IntKind.i64) Ty.bool preT g/\false=false/\op c1 (g x)=iH op g z y/\n=n/\c2=y/\True)/\Dc (n-y)<Dc (n-x))/\(Dp x n=false->c1=iH op g z n/\True))):
  evF c0 (lvA [(3,[2,3,8,9,10,12,13])] (aBm n z op g)) 261 [.dat I n,.dat .bool z,.clo2 .bool .bool .bool preP op,.clo1 I .bool preT g] [] ⟨gZ n preP preT g,.dat .bool (iH op g z n),[]⟩:=oE hvc
theorem Jy(op:Bool->Bool->Bool)(g:Int->Bool)(z:Bool): iH op g z 0=z:=rfl
theorem Jz(op:Bool->Bool->Bool)(g:Int->Bool)(z:Bool)(k:Int)(h:0<=k): iH op g z (k+1)=op (iH op g z k) (g k):=by
 unfold iH;have e:(k+1).toNat=k.toNat+1:=by omega
 rw[e];show op _ (g (k.toNat:Int))=_;rw[vF h]
theorem Ol(op:Bool->Bool->Bool)(g:Int->Bool)(z:Bool)(k n:Int)(h:upto k n)(h2:¬k<n): iH op g z k=iH op g z n:=by
 unfold iH;unfold upto at h;have e:k.toNat=n.toNat:=by omega
 rw[e]
theorem XX(n:Int)(z:Bool)(preP:Bool->Bool->Prop)(op:Bool->Bool->Bool)(preT:Int->Prop)(g:Int->Bool):
  af Tryz.prog G0 261 [.dat I n,.dat .bool z,.clo2 .bool .bool .bool preP op,.clo1 I .bool preT g] [] ⟨gZ n preP preT g,.dat .bool (iH op g z n),[]⟩:=by
 refine ae (c:=c0) KS0 aL hm (QR n z preP op preT g ⟨rfl,λhp=>⟨⟨0,⟨by omega,.inr rfl⟩,?_⟩,λx hx=>⟨λhlt=>?_,λhge=>?_⟩⟩⟩)
 .simp[Jy]
 .have hlt:x<n:=by simpa using hlt
  have h0:=hx.1;obtain⟨p1,p2⟩:=hp.2 x h0 hlt;refine⟨p1,p2 _,?_,x+1,⟨by omega,.inl (by omega)⟩,?_,?_⟩
  .have:=hp.1;simp only[inR];omega
  .simp[Jz op g z x h0]
  .simp only[Dc];omega
 .have hge:¬x<n:=by simpa using hge
  exact⟨Ol op g z x n hx hge,trivial⟩
def K1: Kt:=λf args m=>match f,args,m with
 | 260,[.dat (.int .i64) x],[]=>some ⟨True,.dat .bool (dt x),[]⟩
 | 262,[.dat .bool x,.dat .bool y],[]=>some ⟨True,.dat .bool (dR x y),[]⟩
 | _,_,_=>none
def c1: Cfg:=Sv.mkc K1
theorem WG(x:Int)(hvc:
 let c1:=Ed x (-1000000000);true/\(True->True/\(Di (dt x)->Di (dt x)->Di (dt x))/\(Di (dt x)->Di (dt x)->Di (dt x))/\(Dk (Di (dt x)) c1->Dk (Di (dt x)) c1->Dk (Di (dt x)) c1)/\(Di (dt x)->Di (dt x)->Di (dt x))/\(Di (dt x)->Dk (Di (dt x)) c1->Dk (Di (dt x)) c1)/\(Dk true (Di (dt x))->Di (dt x))/\Eb (dt x) true (Eb c1 (Eh x 1000000000) false)=pL x/\True)):
  evF c1 aA 289 [.dat I x] [] ⟨True,.dat .bool (pL x),[]⟩:=oE hvc
theorem KS1: al Tryz.prog G0 K1:=by
 intro f args m c h;unfold K1 at h;split at h
 .cases h;exact aDL _
 .cases h;exact G6 _ _
 .cases h
theorem aAN(x:Int): af Tryz.prog G0 289 [.dat I x] [] ⟨True,.dat .bool (pL x),[]⟩:=
 ae (c:=c1) KS1 aL hm (WG x (by cases h:dt x<;>simp[pL,h,Bool.cond_eq_ite]))
theorem Wl(x y:Int)(hvc:
 let c1:=Eb (dt x) (dt y) false;true/\(True->True/\(dt x->dt x->dt x)/\(dt x->True)/\(Dk true (dt x)->dt x)/\(c1->(-1099511627776:Int)=jd x y/\True)/\(c1=false->Ez x y=jd x y/\True))):
  evF c1 aA 215 [.dat I x,.dat I y] [] ⟨True,.dat I (jd x y),[]⟩:=oE hvc
theorem aAI(x y:Int): af Tryz.prog G0 215 [.dat I x,.dat I y] [] ⟨True,.dat I (jd x y),[]⟩:=
 ae (c:=c1) KS1 aL hm (Wl x y (by cases h:dt x<;>cases h2:dt y<;>simp[jd,h,h2]))
theorem Ql(x y:Int)(hvc:
 let c1:=Eb (dt x) true (dt y);true/\(sc x y->True/\(Di (dt x)->Di (dt x)->Di (dt x))/\(Di (dt x)->True)/\(Dk true (Di (dt x))->Di (dt x))/\(c1->(-1099511627776:Int)=iR x y/\True)/\(c1=false->inR .i64 (x+y)/\x+y=iR x y/\True))):
  evF c1 aA 218 [.dat I x,.dat I y] [] ⟨sc x y,.dat I (iR x y),[]⟩:=oE hvc
theorem XR(x y:Int): af Tryz.prog G0 218 [.dat I x,.dat I y] [] ⟨sc x y,.dat I (iR x y),[]⟩:=
 ae (c:=c1) KS1 aL hm (Ql x y (by cases h:dt x<;>cases h2:dt y<;>simp[iR,sc,h,h2]))
def K2: Kt:=λf args m=>match f,args,m with
 | 289,[.dat (.int .i64) x],[]=>some ⟨True,.dat .bool (pL x),[]⟩
 | 215,[.dat (.int .i64) x,.dat (.int .i64) y],[]=>some ⟨True,.dat I (jd x y),[]⟩
 | 218,[.dat (.int .i64) x,.dat (.int .i64) y],[]=>some ⟨sc x y,.dat I (iR x y),[]⟩
 | _,_,_=>K1 f args m
def c2: Cfg:=Sv.mkc K2
theorem Kx(k:Int)(row:Li)(hvc:
 true/\(idx k row->0<=k/\k<Df row/\True/\Di (pL (Du row (Dc k) 0))=ki row k/\True)):
  evF c2 aA 288 [.dat I k,.ip R row] [] ⟨idx k row,.dat .bool (ki row k),[]⟩:=oE hvc
theorem KS2: al Tryz.prog G0 K2:=by
 intro f args m c h;unfold K2 at h;split at h
 .cases h;exact aAN _
 .cases h;exact aAI _ _
 .cases h;exact XR _ _
 .exact KS1 _ _ _ _ h
theorem Sl(k:Int)(row:Li): af Tryz.prog G0 288 [.dat I k,.ip R row] [] ⟨idx k row,.dat .bool (ki row k),[]⟩:=
 ae (c:=c2) KS2 aL hm (Kx k row ⟨rfl,λh=>⟨h.1,h.2,trivial,rfl,trivial⟩⟩)
theorem M8{P:Program}{C:Ctx}{a b x y x' y':AV}{us:Lv}(h:AV.relL P C [a,b,x,y] us)(hx:∀v,x.rel P C v->x'.rel P C v)(hy:∀v,y.rel P C v->y'.rel P C v): AV.relL P C [a,b,x',y'] us:=by
 obtain⟨u,us,rfl,h1,u2,us,rfl,h2,u3,us,rfl,h3,u4,us,rfl,h4,h5⟩:=h;exact⟨_,_,rfl,h1,_,_,rfl,h2,_,_,rfl,hx _ h3,_,_,rfl,hy _ h4,h5⟩
theorem JC{C:Ctx}(hG:jX Tryz.prog C G0){v:Value}(h:(AV.fn 262 []).rel Tryz.prog C v): (AV.clo2 .bool .bool .bool (λ_ _=>True) dR).rel Tryz.prog C v:=
 jJ (by kernel_rfl) rfl (λx y=>G6 x y) hG h
theorem vw(n:Int)(z:Bool){f:FuncId}{caps:List AV}(preT:Int->Prop)(g:Int->Bool)(hg:goes Tryz.prog f=true)(hn:AV.namesL caps=[])(h:∀k,af Tryz.prog G0 f (.dat I k::caps) [] ⟨preT k,.dat .bool (g k),[]⟩):
  af Tryz.prog G0 261 [.dat I n,.dat .bool z,.fn 262 [],.fn f caps] [] ⟨gZ n (λ_ _=>True) preT g,.dat .bool (iH dR g z n),[]⟩:=
 (XX n z _ dR preT g).args λ_ _ hG hu=>M8 hu (λ_ h=>JC hG h) (λ_ hv=>jK hg hn h hG hv)
def K3: Kt:=λf args m=>match f,args,m with
 | 261,[.dat (.int .i64) n,.dat .bool z,.fn 262 [],.fn 288 [.ip (.sl (.int .i64)) row]],[]=>some ⟨gZ n (λ_ _=>True) (λk=>idx k row) (ki row),.dat .bool (iH dR (ki row) z n),[]⟩
 | _,_,_=>K2 f args m
def c3: Cfg:=Sv.mkc K3
theorem P9(row:Li)(hvc:
 true/\(NN row->gZ (Df row) (λx x_1↦True) (λk↦idx k row) (ki row)/\iH dR (ki row) false (Df row)=mX row/\True)):
  evF c3 aA 259 [.dat R row] [] ⟨NN row,.dat .bool (mX row),[]⟩:=oE hvc
theorem KS3: al Tryz.prog G0 K3:=by
 intro f args m c h;unfold K3 at h;split at h
 .cases h;exact vw _ _ _ _ (by kernel_rfl) rfl (λk=>Sl k _)
 .exact KS2 _ _ _ _ h
theorem XP(row:Li): af Tryz.prog G0 259 [.dat R row] [] ⟨NN row,.dat .bool (mX row),[]⟩:=
 ae (c:=c3) KS3 aL hm (P9 row ⟨rfl,λh=>⟨⟨h,λk h0 h1=>⟨⟨h0,h1⟩,λ_=>trivial⟩⟩,rfl,trivial⟩⟩)
def aK(g:Int->Int->Int)(n:Int): Lj:=(List.range n.toNat).map λi:Nat=>(List.range n.toNat).map λj:Nat=>g i j
def cq(g:Int->Int->Int)(n i:Int): Lj:=(aK g n).take i.toNat++List.replicate (n.toNat-i.toNat) []
def qf(g:Int->Int->Int)(n i j:Int): Li:=((List.range n.toNat).map λj:Nat=>g i j).take j.toNat++List.replicate (n.toNat-j.toNat) 0
def bz(n:Int)(preT:Int->Int->Prop): Prop:=0<=n/\n<=1000000/\∀i j,0<=i->i<n->0<=j->j<n->preT i j
def aBG(n:Int)(g:Int->Int->Int): Ann:=⟨λid s=>match id with
 | 3=>some {α:=Int,inv:=λk=>upto k n,st:=λk=>iM (put s [(11,.dat I k),(5,.buf 0 (Dc n))]) 0 (.buf 36 R (cq g n k) []),μ:=λk=>Dc (Dh n k)}
 | 7=>match s.sig.T 6 with
  | .dat (.int .i64) i=>some {α:=Int,inv:=λk=>upto k n,st:=λk=>iM (put s [(20,.dat I k)]) 1 (.buf 3 I (qf g n i k) []),μ:=λk=>Dc (Dh n k)}
  | _=>none
 | _=>none,λ_ _=>none,λ_ _=>none⟩
theorem Q7 (n : Int) (preT : Int → Int → Prop) (g : Int → Int → Int) (hvc :
 let c1 := Ep n (0 : Int); true = true ∧ (bz n preT → Dl (0 : Int) n ∧ Dl (Ee (Dx (24)) n) (281474976710656 : Int) ∧ Dl n
  (9223372036854775807 : Int) ∧ (∃ x, upto x n ∧ n = n ∧ AV.clo2 (Ty.int IntKind.i64) (Ty.int IntKind.i64) (Ty.int IntKind.i64) preT g = AV.clo2 (Ty.int
  IntKind.i64) (Ty.int IntKind.i64) (Ty.int IntKind.i64) preT g ∧ Value.slice none (0) (0) = Value.slice none (0) (0) ∧ Dc n = Dc n ∧ n = n ∧ (0 : Int) = x
  ∧ Ep n (Dt Int) = cq g n x ∧ True) ∧ ∀ (x : Int),
 let c2 := Dj (cq g n x);
 let c3 := Dq x (1 : Int); upto x n → (Dp x n = true → Dl (0 : Int) n ∧ Dl (Ee (Dx (8)) n) (281474976710656 : Int) ∧ Dl n
  (9223372036854775807 : Int) ∧ c2 = Dc n ∧ Dl (0 : Int) x ∧ Dn x (Dx c2) ∧ c2 = Dc n ∧ Dj c1 = Dc n ∧ (∃ x_3, upto x_3 n ∧ n = n ∧ AV.clo2
  (Ty.int IntKind.i64) (Ty.int IntKind.i64) (Ty.int IntKind.i64) preT g = AV.clo2 (Ty.int IntKind.i64) (Ty.int IntKind.i64) (Ty.int IntKind.i64) preT g ∧
  Value.slice none (0) (0) = Value.slice none (0) (0) ∧ Dc n = Dc n ∧ x = x ∧ n = n ∧ x = x ∧ n = n ∧ (0 : Int) = x_3 ∧ cq g n x = cq g n x ∧ Dc x
  = Dc x ∧ Dc n = Dc n ∧ c1 = qf g n x x_3 ∧ True) ∧ ∀ (x_3 : Int),
 let c4 := qf g n x x_3;
 let c5 := Dj c4;
 let c6 := Dq x_3 (1 : Int); upto x_3 n → (Dp x_3 n = true → c2 = Dc n ∧ Dl (0 : Int) x ∧ Dn x (Dx c2) ∧ c2 = Dc n ∧ Dc x = Dc x ∧ preT
  x x_3 ∧ c5 = Dc n ∧ Dl (0 : Int) x_3 ∧ Dn x_3 (Dx c5) ∧ c5 = Dc n ∧ inR .i64 c6 ∧ ∃ y, upto y n ∧ (n = n ∧ AV.clo2 (Ty.int IntKind.i64)
  (Ty.int IntKind.i64) (Ty.int IntKind.i64) preT g = AV.clo2 (Ty.int IntKind.i64) (Ty.int IntKind.i64) (Ty.int IntKind.i64) preT g ∧ Value.slice none (0) (0) =
  Value.slice none (0) (0) ∧ Dc n = Dc n ∧ x = x ∧ n = n ∧ x = x ∧ n = n ∧ c6 = y ∧ cq g n x = cq g n x ∧ Dc x = Dc x ∧ Dc n = Dc n ∧
  En c4 (Dc x_3) (g x x_3) = qf g n x y ∧ True) ∧ Dw (Dc (Dh n y)) (Dc (Dh n x_3))) ∧ (Dp x_3 n = false → inR .i64 c3 ∧ ∃ y, upto
  y n ∧ (n = n ∧ AV.clo2 (Ty.int IntKind.i64) (Ty.int IntKind.i64) (Ty.int IntKind.i64) preT g = AV.clo2 (Ty.int IntKind.i64) (Ty.int IntKind.i64) (Ty.int
  IntKind.i64) preT g ∧ Value.slice none (0) (0) = Value.slice none (0) (0) ∧ Dc n = Dc n ∧ n = n ∧ c3 = y ∧ c5 = Dc n ∧ En (cq g n x) (Dc x)
  c4 = cq g n y ∧ True) ∧ Dw (Dc (Dh n y)) (Dc (Dh n x)))) ∧ (Dp x n = false → c2 = Dc n ∧ cq g n x = aK g n ∧ True))) :
    evF c0 (lvA [(3, [0, 1, 4, 5, 6, 7, 10, 11, 19, 20]), (7, [0, 1, 4, 5, 6, 7, 10, 11, 19, 20])] (aBG n g)) 213 [.dat I n, .clo2 I I I preT g] [] ⟨bz n preT, .dat M (aK g n), []⟩ := oE hvc
theorem zi{α:Type}(xs:List α)(d v:α)(k:Nat)(hk:xs[k]?=some v): (xs.take k++List.replicate (xs.length-k) d).set k v=xs.take (k+1)++List.replicate (xs.length-(k+1)) d:=by
 obtain⟨h,e⟩:=qG.1 hk;have e2:xs.length-k=(xs.length-(k+1))+1:=by omega
 rw[e2,qBn,List.set_append_right _ _ (by simp;omega)]
 simp[wZ,hk,xG (Nat.le_of_lt h)]
theorem fK(g:Int->Int->Int)(n:Int): (aK g n).length=n.toNat:=by simp[aK]
theorem lI(g:Int->Int->Int)(n x:Int)(h:upto x n): (cq g n x).length=n.toNat:=by
 have:=h.1;have:=h.2;simp only[cq,qF,qI,wQ,fK];omega
theorem mB(g:Int->Int->Int)(n i x:Int)(h:upto x n): (qf g n i x).length=n.toNat:=by
 have:=h.1;have:=h.2;simp only[qf,qF,qI,wQ,vY,wG];omega
theorem mA(g:Int->Int->Int)(n:Int): cq g n 0=List.replicate n.toNat []:=by simp[cq]
theorem sJ(g:Int->Int->Int)(n i:Int): qf g n i 0=List.replicate n.toNat 0:=by simp[qf]
theorem sM(g:Int->Int->Int)(n i j:Int)(h0:0<=j)(h1:j<n): (qf g n i j).set j.toNat (g i j)=qf g n i (j+1):=by
 have e:(j+1).toNat=j.toNat+1:=by omega
 have:=zi ((List.range n.toNat).map λj:Nat=>g i j) 0 (g i j) j.toNat (by
  rw[qP,wJ (by omega)];simp[vF h0])
 simp only[vY,wG]at this;unfold qf;rw[e];exact this
theorem SQ(g:Int->Int->Int)(n i j:Int)(h:upto j n)(h1:¬j<n): qf g n i j=(List.range n.toNat).map λj:Nat=>g i j:=by
 have:=h.1;have:=h.2;have e:j.toNat=n.toNat:=by omega
 unfold qf;rw[e,qO (by simp)];simp
theorem pu(g:Int->Int->Int)(n i j:Int)(h0:0<=i)(h1:i<n)(h:upto j n)(h2:¬j<n): (cq g n i).set i.toNat (qf g n i j)=cq g n (i+1):=by
 have e:(i+1).toNat=i.toNat+1:=by omega
 rw[SQ g n i j h h2];have:=zi (aK g n) [] ((List.range n.toNat).map λj:Nat=>g i j) i.toNat (by
  unfold aK;rw[qP,wJ (by omega)];simp[vF h0])
 rw[fK]at this;unfold cq;rw[e];exact this
theorem sH(g:Int->Int->Int)(n i:Int)(h:upto i n)(h1:¬i<n): cq g n i=aK g n:=by
 have:=h.1;have:=h.2;have e:i.toNat=n.toNat:=by omega
 unfold cq;rw[e,qO (by rw[fK];exact qK _)];simp
theorem XY (n : Int) (preT : Int → Int → Prop) (g : Int → Int → Int) : af Tryz.prog G0 213 [.dat I n, .clo2 I I I preT g] [] ⟨bz n preT, .dat M (aK g n), []⟩ := by
  refine ae (c := c0) KS0 aL hm (Q7 n preT g ⟨rfl, fun hp => ?_⟩)
  obtain ⟨p1, p2, p3⟩ := hp
  refine ⟨p1, by simp only [Dl, Ee, Dx]; omega, by simp only [Dl]; omega, ⟨0, ⟨by omega, .inr rfl⟩, ?_⟩, fun x hx => ⟨fun hlt => ?_, fun hge => ?_⟩⟩
  · simp [mA]
  · have hlt : x < n := by simpa using hlt
    have h0 := hx.1
    have hl := lI g n x hx
    refine ⟨p1, by simp only [Dl, Ee, Dx]; omega, by simp only [Dl]; omega, hl, h0, by simp only [Dn, Dx, Dj]; omega, hl, by simp, ⟨0, ⟨by omega, .inr rfl⟩, ?_⟩, fun y hy => ⟨fun hlt2 => ?_, fun hge => ?_⟩⟩
    · simp [sJ]
    · have hlt2 : y < n := by simpa using hlt2
      have h2 := hy.1
      have hl2 := mB g n x y hy
      refine ⟨hl, h0, by simp only [Dn, Dx, Dj]; omega, hl, rfl, p3 x y h0 hlt h2 hlt2, hl2, h2, by simp only [Dn, Dx, Dj]; omega, hl2, by simp only [inR, Dq]; omega, y + 1, ⟨by omega, .inl (by omega)⟩, ?_, ?_⟩
      · simp [sM g n x y h2 hlt2]
      · simp only [Dw, Dc, Dh]; omega
    · have hge : ¬ y < n := by simpa using hge
      refine ⟨by simp only [inR, Dq]; omega, x + 1, ⟨by omega, .inl (by omega)⟩, ?_, ?_⟩
      · simp [pu g n x y h0 hlt hy hge, mB g n x y hy]
      · simp only [Dw, Dc, Dh]; omega
  · have hge : ¬ x < n := by simpa using hge
    exact ⟨lI g n x hx, sH g n x hx hge, trivial⟩
def m4(m:Lj)(row:Li): Bool:=decide ((row.length:Int)≠m.length)||mX row
def ax(m:Lj): Bool:=!decide ((m.length:Int)>40)&&!m.any (m4 m)
def PR(m:Lj)(k:Int): Prop:=0<=k/\k<=m.length/\m.length<=40/\(m.take k.toNat).any (m4 m)=false
def oL(i j:Int)(a:Lj): Prop:=0<=i/\i<(a.length:Int)/\idx j (a.getD i.toNat [])
def at2(a:Lj)(i j:Int): Int:=(a.getD i.toNat []).getD j.toNat 0
def diag(m:Lj)(k:Int): Bool:=decide (at2 m k k>0)
def fY(m:Lj): Bool:=iH dR (diag m) false m.length
def VH(m:Lj): Prop:=gZ m.length (λ_ _=>True) (λk=>oL k k m) (diag m)
def mR(m:Lj)(i j:Int): Int:=bif decide (i=j)then jd 0 (at2 m i j)else jd (-1099511627776) (at2 m i j)
def nt(m:Lj)(k i j:Int): Int:=jd (at2 m i j) (iR (at2 m i k) (at2 m k j))
def AO(m:Lj)(k i j:Int): Prop:=oL i j m/\oL i k m/\oL k j m/\sc (at2 m i k) (at2 m k j)
def K4: Kt:=λf args m=>match f,args,m with
 | 259,[.dat (.sl (.int .i64)) row],[]=>some ⟨NN row,.dat .bool (mX row),[]⟩
 | _,_,_=>K3 f args m
def c4: Cfg:=Sv.mkc K4
def GK(m:Lj): Ann:=⟨λid s=>match id with
 | 4=>some {α:=Int,inv:=λk=>PR m k,st:=λk=>put s [(10,.dat I k)],μ:=λk=>Dc (Dh (Df m) k)}
 | _=>none,λ_ _=>none,λ_ _=>none⟩
theorem xm(m:Lj)(hvc:
 let c1:=Ei (Df m) 40;true/\(True->(c1->false=ax m/\True)/\(c1=false->(∃x,PR m x/\m=m/\m=m/\Df m=Df m/\0=x/\True)/\∀(x:Int),let c2:=Dp x (Df m);let c3:=Du m (Dc x) [];let c4:=Ea (Df c3) (Df m);let c5:=Di c4;let c6:=Eb c4 true (mX c3);let c7:=x+1;PR m x->(c2->0<=x/\x<Df m/\(c5->c5->c5)/\(c5->NN c3)/\(Dk true c5->c5)/\(c6->false=ax m/\True)/\(c6=false->inR .i64 c7/\∃y,PR m y/\(m=m/\m=m/\Df m=Df m/\c7=y/\True)/\Dc (Df m-y)<Dc (Df m-x)))/\(c2=false->true=ax m/\True)))):
  evF c4 (lvA [(4,[0,2,4,8,9,10])] (GK m)) 212 [.dat M m] [] ⟨True,.dat .bool (ax m),[]⟩:=oE hvc
theorem WH(k:Int)(m:Lj)(hvc:
 let c1:=Du m (Dc k) [];true/\(oL k k m->0<=k/\k<Df m/\0<=k/\k<Df c1/\Ei (Du c1 (Dc k) 0) 0=diag m k/\True)):
  evF c4 aA 263 [.dat I k,.ip M m] [] ⟨oL k k m,.dat .bool (diag m k),[]⟩:=oE hvc
theorem Qo(i j:Int)(m:Lj)(hvc:
 let c1:=Du m (Dc i) [];let c2:=Du c1 (Dc j) 0;true/\(oL i j m->(Dy i j->0<=i/\i<Df m/\0<=j/\j<Df c1/\True/\jd 0 c2=mR m i j/\True)/\(Dy i j=false->0<=i/\i<Df m/\0<=j/\j<Df c1/\True/\jd (-1099511627776) c2=mR m i j/\True))):
  evF c4 aA 214 [.dat I i,.dat I j,.ip M m] [] ⟨oL i j m,.dat I (mR m i j),[]⟩:=oE hvc
theorem Qn(k i j:Int)(m:Lj)(hvc:
 let c1:=Du m (Dc i) [];let c2:=Df c1;let c3:=Du m (Dc k) [];let c4:=Du c1 (Dc k) 0;let c5:=Du c3 (Dc j) 0;true/\(AO m k i j->0<=i/\i<Df m/\0<=j/\j<c2/\0<=i/\i<Df m/\0<=k/\k<c2/\0<=k/\k<Df m/\0<=j/\j<Df c3/\sc c4 c5/\True/\jd (Du c1 (Dc j) 0) (iR c4 c5)=nt m k i j/\True)):
  evF c4 aA 217 [.dat I i,.dat I j,.ip M m,.ip I k] [] ⟨AO m k i j,.dat I (nt m k i j),[]⟩:=oE hvc
theorem KS4: al Tryz.prog G0 K4:=by
 intro f args m c h;unfold K4 at h;split at h
 .cases h;exact XP _
 .exact KS3 _ _ _ _ h
theorem Ns{m:Lj}(h:¬(m.length:Int)>40): PR m 0:=⟨by omega,by omega,by omega,by simp⟩
theorem Hq{m:Lj}{k:Int}(h:PR m k)(hk:k<m.length): m.getD k.toNat []∈m/\m.take (k+1).toNat=m.take k.toNat++[m.getD k.toNat []]:=by
 have h0:=h.1;have hlt:k.toNat<m.length:=by omega
 have e:(k+1).toNat=k.toNat+1:=by omega
 rw[qA,qB hlt,e];exact⟨wO hlt,by rw[wZ,qB hlt];rfl⟩
theorem Nu{m:Lj}{k:Int}(h:PR m k)(hk:k<m.length)(hr:m4 m (m.getD k.toNat [])=false): PR m (k+1):=by
 obtain⟨h0,h1,h2,h3⟩:=h;refine⟨by omega,by omega,h2,?_⟩
 rw[(Hq ⟨h0,h1,h2,h3⟩ hk).2,List.any_append,h3,qDr,hr];rfl
theorem IJ{m:Lj}{k:Int}(h:PR m k)(hk:k<m.length)(hr:m4 m (m.getD k.toNat [])=true): ax m=false:=by
 unfold ax;have:m.any (m4 m)=true:=kG.2 ⟨_,(Hq h hk).1,hr⟩;rw[this];simp
theorem II{m:Lj}{k:Int}(h:PR m k)(hk:¬k<m.length): ax m=true:=by
 obtain⟨h0,h1,h2,h3⟩:=h;unfold ax;have e:k.toNat=m.length:=by omega
 rw[e,yI]at h3;rw[h3];have:¬((m.length:Int)>40):=by omega
 simp only[this,kQ];rfl
theorem w8(m:Lj)(r:Li): Eb (Ea (Df r) (Df m)) true (mX r)=m4 m r:=by
 unfold m4 Eb Ea Df;by_cases h:(r.length:Int)=m.length<;>simp[h]
theorem EA(m:Lj): af Tryz.prog G0 212 [.dat M m] [] ⟨True,.dat .bool (ax m),[]⟩:=by
 refine ae (c:=c4) KS4 aL hm (xm m ⟨rfl,λ_=>⟨λh=>⟨?_,trivial⟩,λh=>⟨⟨0,Ns (by simpa using h),by simp⟩,λx hx=>⟨λhlt=>?_,λhge=>?_⟩⟩⟩⟩)
 .have:(m.length:Int)>40:=by simpa using h
  unfold ax;simp only[this,qAu];rfl
 .have hlt:x<m.length:=by simpa using hlt
  refine⟨hx.1,hlt,λ_ h=>h,λhne=>?_,λh=>?_,λhb=>⟨?_,trivial⟩,λhb=>⟨?_,x+1,?_,by simp,?_⟩⟩
  .have:((m.getD x.toNat []).length:Int)=m.length:=by simpa using hne
   have:=hx.2.2.1;show((m.getD x.toNat []).length:Int)<=_;omega
  .simpa using h
  .rw[w8 m]at hb;exact(IJ hx hlt hb).symm
  .have:=hx.2.2.1;have:=hx.1;simp only[inR];omega
  .rw[w8 m]at hb;exact Nu hx hlt hb
  .have:=hx.1;simp only[Dc,Df];omega
 .have hge:¬x<m.length:=by simpa using hge
  exact⟨(II hx hge).symm,trivial⟩
theorem aAO(k:Int)(m:Lj): af Tryz.prog G0 263 [.dat I k,.ip M m] [] ⟨oL k k m,.dat .bool (diag m k),[]⟩:=
 ae (c:=c4) KS4 aL hm (WH k m ⟨rfl,λh1=>⟨h1.1,h1.2.1,h1.2.2.1,h1.2.2.2,rfl,trivial⟩⟩)
theorem XT(i j:Int)(m:Lj): af Tryz.prog G0 214 [.dat I i,.dat I j,.ip M m] [] ⟨oL i j m,.dat I (mR m i j),[]⟩:=
 ae (c:=c4) KS4 aL hm (Qo i j m ⟨rfl,λh1=>⟨λe=>⟨h1.1,h1.2.1,h1.2.2.1,h1.2.2.2,trivial,by
   have e:i=j:=by simpa using e
   simp[mR,e,at2],trivial⟩,
  λe=>⟨h1.1,h1.2.1,h1.2.2.1,h1.2.2.2,trivial,by
   have e:¬i=j:=by simpa using e
   simp[mR,e,at2],trivial⟩⟩⟩)
theorem XS(k i j:Int)(m:Lj): af Tryz.prog G0 217 [.dat I i,.dat I j,.ip M m,.ip I k] [] ⟨AO m k i j,.dat I (nt m k i j),[]⟩:=
 ae (c:=c4) KS4 aL hm (Qn k i j m ⟨rfl,λ⟨h1,h2,h3,h4⟩=>⟨h1.1,h1.2.1,h1.2.2.1,h1.2.2.2,h2.1,h2.2.1,h2.2.2.1,h2.2.2.2,h3.1,h3.2.1,h3.2.2.1,h3.2.2.2,h4,trivial,rfl,trivial⟩⟩)
theorem vy(n:Int){f:FuncId}{caps:List AV}(preT:Int->Int->Prop)(g:Int->Int->Int)(hg:goes Tryz.prog f=true)(hn:AV.namesL caps=[])(h:∀i j,af Tryz.prog G0 f (.dat I i::.dat I j::caps) [] ⟨preT i j,.dat I (g i j),[]⟩):
  af Tryz.prog G0 213 [.dat I n,.fn f caps] [] ⟨bz n preT,.dat M (aK g n),[]⟩:=
 (XY n preT g).args λ_ _ hG ⟨_,_,e1,h1,_,_,e2,h2,h3⟩=>⟨_,_,e1,h1,_,_,e2,jJ hg hn h hG h2,h3⟩
def K5: Kt:=λf args m=>match f,args,m with
 | 212,[.dat (.sl (.sl (.int .i64))) m],[]=>some ⟨True,.dat .bool (ax m),[]⟩
 | 261,[.dat (.int .i64) n,.dat .bool z,.fn 262 [],.fn 263 [.ip (.sl (.sl (.int .i64))) m]],[]=>some ⟨gZ n (λ_ _=>True) (λk=>oL k k m) (diag m),.dat .bool (iH dR (diag m) z n),[]⟩
 | 213,[.dat (.int .i64) n,.fn 214 [.ip (.sl (.sl (.int .i64))) m]],[]=>some ⟨bz n (λi j=>oL i j m),.dat M (aK (mR m) n),[]⟩
 | 213,[.dat (.int .i64) n,.fn 217 [.ip (.sl (.sl (.int .i64))) m,.ip (.int .i64) k]],[]=>some ⟨bz n (AO m k),.dat M (aK (nt m k) n),[]⟩
 | _,_,_=>K4 f args m
def c5: Cfg:=Sv.mkc K5
theorem KZ(m:Lj)(hvc:
 true/\(VH m->gZ (Df m) (λx x_1↦True) (λk↦oL k k m) (diag m)/\iH dR (diag m) false (Df m)=fY m/\True)):
  evF c5 aA 216 [.dat M m] [] ⟨VH m,.dat .bool (fY m),[]⟩:=oE hvc
theorem KS5: al Tryz.prog G0 K5:=by
 intro f args m c h;unfold K5 at h;split at h
 .cases h;exact EA _
 .cases h;exact vw _ _ _ _ (by kernel_rfl) rfl (λk=>aAO k _)
 .cases h;exact vy _ _ _ (by kernel_rfl) rfl (λi j=>XT i j _)
 .cases h;exact vy _ _ _ (by kernel_rfl) rfl (λi j=>XS _ i j _)
 .exact KS4 _ _ _ _ h
theorem SD(m:Lj): af Tryz.prog G0 216 [.dat M m] [] ⟨VH m,.dat .bool (fY m),[]⟩:=
 ae (c:=c5) KS5 aL hm (KZ m ⟨rfl,λh=>⟨h,rfl,trivial⟩⟩)
def cI(m:Lj): Nat->Lj
 | 0=>aK (mR m) m.length
 | k+1=>aK (nt (cI m k) k) m.length
def nX(m:Lj)(k:Int): Lj:=cI m k.toNat
def sk(m:Lj): Bool:=(List.range (m.length+1)).any λk=>fY (cI m k)
def D7(m:Lj): Lj×Int:=bif ax m then bif sk m then([],120)else(cI m m.length,0)else([],1)
def jq(m:Lj): Lj:=(D7 m).1
def jr(m:Lj): Int:=(D7 m).2
def xx(m:Lj): Prop:=m.length<=20
def GX(m:Lj)(k:Int): Prop:=0<=k/\k<=m.length/\ax m=true/\∀j:Nat,(j:Int)<=k->fY (cI m j)=false
def K6: Kt:=λf args m=>match f,args,m with
 | 216,[.dat (.sl (.sl (.int .i64))) m],[]=>some ⟨VH m,.dat .bool (fY m),[]⟩
 | _,_,_=>K5 f args m
def c6: Cfg:=Sv.mkc K6
def aDJ(m:Lj): Ann:=⟨λid s=>match id with
 | 8=>some {α:=Int,inv:=λk=>GX m k,st:=λk=>put s [(19,.dat I k),(5,.dat M (nX m k))],μ:=λk=>Dc (Dh (Df m) k)}
 | _=>none,λid s=>match id with
 | 11=>some (frz [0,1] s)
 | _=>none,λ_ _=>none⟩
theorem Wi(m:Lj)(hvc:
 let c1:=aK (mR m) (Df m);let c2:=fY c1;true/\(xx m->True/\(Di (ax m)->jq m=Dt (Li)/\1=jr m/\True)/\(Di (ax m)=false->(bz (Df m) λi j↦oL i j m)/\VH c1/\(c2->jq m=Dt (Li)/\120=jr m/\True)/\(c2=false->(∃x,GX m x/\Df m=Df m/\c1=nX m x/\Df m=Df m/\0=x/\True)/\∀(x:Int),let c3:=Dp x (Df m);let c4:=aK (nt (nX m x) x) (Df m);let c5:=fY c4;let c6:=x+1;GX m x->(c3->1=1/\0=0/\1=1/\0=0/\Df m=Df m/\nX m x=nX m x/\1=1/\0=0/\x=x/\1=1/\0=0/\nX m x=nX m x/\Df m=Df m/\x=x/\c3=c3/\x=x/\nX m x=nX m x/\bz (Df m) (AO (nX m x) x)/\VH c4/\(c5->jq m=Dt (Li)/\120=jr m/\True)/\(c5=false->inR .i64 c6/\∃y,GX m y/\(Df m=Df m/\c4=nX m y/\Df m=Df m/\c6=y/\True)/\Dc (Df m-y)<Dc (Df m-x)))/\(c3=false->nX m x=jq m/\0=jr m/\True))))):
  evF c6 (lvA [(8,[2,3,4,5,6,7,18,19])] (aDJ m)) 145 [.dat M m] [] ⟨xx m,.tup [.dat M (jq m),.dat I (jr m)],[]⟩:=oE hvc
theorem Cf{g:Int->Bool}(n:Nat): nF dR g false n=false↔∀k:Nat,k<n->g k=false:=by
 induction n with
 | zero=>simp[nF]
 | succ n ih=>
  simp only[nF,dR,qBj,ih];constructor
  .rintro⟨h1,h2⟩ k hk;by_cases e:k=n
   .subst e;exact h2
   .exact h1 k (by omega)
  .exact λh=>⟨λk hk=>h k (by omega),h n (by omega)⟩
theorem qT{g:Int->Bool}{n:Int}: iH dR g false n=false↔∀k:Int,0<=k->k<n->g k=false:=by
 unfold iH;rw[Cf];constructor
 .intro h k h0 h1;have:=h k.toNat (by omega)
  rwa [vF h0]at this
 .exact λh k hk=>h k (by omega) (by omega)
theorem pV{row:Li}: mX row=false↔∀k:Int,0<=k->k<row.length->pL (at1 row k)=true:=by
 unfold mX;rw[qT];simp[ki]
structure Sq (n:Nat) (m:Lj):Prop where
 len:m.length=n
 row:∀i:Int,0<=i->i<n->(m.getD i.toNat []).length=n
theorem Sq.oL {n:Nat} {m:Lj} (h:Sq n m) {i j:Int} (h0:0<=i) (h1:i<n) (h2:0<=j) (h3:j<n):oL i j m:=
 ⟨h0,by rw[h.len];exact h1,h2,by rw[h.row i h0 h1];exact h3⟩
theorem GI{m:Lj}(h:ax m=true): Sq m.length m/\m.length<=40/\∀i j:Int,0<=i->i<m.length->0<=j->j<m.length->pL (at2 m i j)=true:=by
 unfold ax at h;simp only[qC,zL,vW]at h;obtain⟨h1,h2⟩:=h;have hrow:∀i:Int,0<=i->i<m.length->m4 m (m.getD i.toNat [])=false:=by
  intro i h0 hi;have hlt:i.toNat<m.length:=by omega
  rw[qBx]at h2;rw[qA,qB hlt];simpa using h2 _ (wO hlt)
 have hr2:∀i:Int,0<=i->i<m.length->(m.getD i.toNat []).length=m.length/\mX (m.getD i.toNat [])=false:=by
  intro i h0 hi;have:=hrow i h0 hi;unfold m4 at this;simp only[qBj,vW,ne_eq,qBy]at this;exact⟨by have:=this.1;omega,this.2⟩
 refine⟨⟨rfl,λi h0 hi=>(hr2 i h0 hi).1⟩,by omega,λi j h0 hi h3 hj=>?_⟩
 obtain⟨g1,g2⟩:=hr2 i h0 hi;exact pV.1 g2 j h3 (by rw[g1];exact hj)
theorem pR(g:Int->Int->Int)(n:Nat)(i:Int)(h0:0<=i)(hi:i<n): (aK g n).getD i.toNat []=(List.range n).map λj:Nat=>g i j:=by
 unfold aK;simp only[qQ];rw[qA,qP,wJ (by omega)]
 simp[vF h0]
theorem uy(g:Int->Int->Int)(n:Nat): Sq n (aK g n):=⟨by simp[aK],λi h0 hi=>by rw[pR g n i h0 hi];simp⟩
theorem jM(g:Int->Int->Int)(n:Nat)(i j:Int)(h0:0<=i)(hi:i<n)(h1:0<=j)(hj:j<n): at2 (aK g n) i j=g i j:=by
 unfold at2;rw[pR g n i h0 hi,qA,qP,wJ (by omega)]
 simp[vF h1]
theorem KS6: al Tryz.prog G0 K6:=by
 intro f args m c h;unfold K6 at h;split at h
 .cases h;exact SD _
 .exact KS5 _ _ _ _ h
theorem rI(m:Lj)(k:Nat): Sq m.length (cI m k):=by
 cases k<;>exact uy _ _
def bd(k:Nat): Int:=((1099511627776*2 ^ k:Nat):Int)
theorem aBK(k:Nat): 1099511627776<=bd k:=by
 unfold bd;have:1<=2 ^ k:=Nat.one_le_two_pow;omega
theorem Y0(k:Nat): bd (k+1)=2*bd k:=by
 unfold bd;rw[Nat.pow_succ];omega
theorem VM{k:Nat}(h:k<=20): bd k<=1152921504606846976:=by
 unfold bd;have:=Nat.pow_le_pow_right (n:=2) (by omega) h
 omega
theorem SV{x y b:Int}(hb:1099511627776<=b)(hx:-b<=x/\x<=b)(hy:-b<=y/\y<=b): -b<=jd x y/\jd x y<=b:=by
 unfold jd;cases dt x&&dt y
 .simp only[qBe];omega
 .simp only[qBc];omega
theorem Lt{x y b:Int}(hb:1099511627776<=b)(hx:-b<=x/\x<=b)(hy:-b<=y/\y<=b): -(2*b)<=iR x y/\iR x y<=2*b:=by
 unfold iR;cases dt x||dt y
 .simp only[qBe];omega
 .simp only[qBc];omega
theorem Hj{c x:Int}(hc:-1099511627776<=c/\c<=0)(hx:pL x=true): -1099511627776<=jd c x/\jd c x<=1099511627776:=by
 unfold jd;cases h:dt x
 .simp only[pL,h,xR,qC,qE]at hx;simp only[xX,qBe];omega
 .simp only[dt,qE]at h;cases dt c&&true
  .simp only[qBe];omega
  .simp only[qBc];omega
theorem mq{m:Lj}(h:ax m=true): ∀(k:Nat),k<=m.length->∀i j:Int,0<=i->i<m.length->0<=j->j<m.length->-(bd k)<=at2 (cI m k) i j/\at2 (cI m k) i j<=bd k
 | 0,_,i,j,h0,hi,h1,hj=>by
  have e:=(GI h).2.2 i j h0 hi h1 hj;show -(bd 0)<=at2 (aK (mR m) m.length) i j/\at2 (aK (mR m) m.length) i j<=bd 0;rw[jM _ _ _ _ h0 hi h1 hj];have e0:bd 0=1099511627776:=rfl;rw[e0];unfold mR;cases decide (i=j)
  .exact Hj (c:=-1099511627776) (by omega) e
  .exact Hj (c:=0) (by omega) e
 | k+1,hk,i,j,h0,hi,h1,hj=>by
  show -(bd (k+1))<=at2 (aK (nt (cI m k) k) m.length) i j/\at2 (aK (nt (cI m k) k) m.length) i j<=bd (k+1);rw[jM _ _ _ _ h0 hi h1 hj,Y0];have hb:=aBK k;have g1:=mq h k (by omega) i j h0 hi h1 hj
  have g2:=mq h k (by omega) i k h0 hi (by omega) (by omega)
  have g3:=mq h k (by omega) k j (by omega) (by omega) h1 hj
  exact SV (by omega) (by omega) (Lt hb g2 g3)
theorem aBt{n:Nat}{m:Lj}(h:Sq n m)(hn:n<=20): VH m:=
 ⟨by rw[h.len];omega,λk h0 hk=>⟨h.oL h0 (by rw[<- h.len];exact hk) h0 (by rw[<- h.len];exact hk),λ_=>trivial⟩⟩
theorem IV{m:Lj}(k:Nat)(hk:k<=m.length)(h:fY (cI m k)=true): sk m=true:=
 kG.2 ⟨k,qU.2 (by omega),h⟩
theorem aAH(m:Lj): af Tryz.prog G0 145 [.dat M m] [] ⟨xx m,.tup [.dat M (jq m),.dat I (jr m)],[]⟩:=by
 refine ae (c:=c6) KS6 aL hm (Wi m ⟨rfl,λhp=>⟨trivial,λh=>?_,λh=>?_⟩⟩)
 .have h:ax m=false:=by simpa using h
  simp[jq,jr,D7,h]
 .have h:ax m=true:=by simpa using h
  unfold xx at hp;obtain⟨sq,_,el⟩:=GI h;have sK:∀k:Nat,VH (cI m k):=λk=>aBt (rI m k) hp
  have bad:∀k:Nat,k<=m.length->fY (cI m k)=true->jq m=[]/\(120:Int)=jr m/\True:=λk hk hc=>by
   have:=IV k hk hc;simp[jq,jr,D7,h,this]
  refine⟨⟨by simp only[Df];omega,by simp only[Df];omega,λi j h0 hi h1 hj=>sq.oL h0 hi h1 hj⟩,sK 0,bad 0 (by omega),λh0=>⟨⟨0,⟨by omega,by omega,h,λj hj=>?_⟩,?_⟩,λx hx=>⟨λhlt=>?_,λhge=>?_⟩⟩⟩
  .have:j=0:=by omega
   subst this;exact h0
  .simp only[zS,vN];rfl
  .have hlt:x<m.length:=by simpa using hlt
   obtain⟨g0,g1,g2,g3⟩:=hx;have ex:nX m x=cI m x.toNat:=rfl;have es:aK (nt (nX m x) x) (Df m)=cI m (x.toNat+1):=by
    rw[ex];show aK (nt (cI m x.toNat) x) m.length=aK (nt (cI m x.toNat) (x.toNat:Int)) m.length;rw[vF g0]
   rw[es];simp only[zS,vN];refine⟨⟨by simp only[Df];omega,by simp only[Df];omega,λi j h0 hi h1 hj=>?_⟩,sK _,λhc=>by simpa using bad (x.toNat+1) (by omega) hc,λhc=>⟨by simp only[inR];omega,x+1,⟨by omega,by omega,h,λj hj=>?_⟩,⟨?_,rfl⟩,?_⟩⟩
   .rw[ex];have sN:=rI m x.toNat;refine⟨sN.oL h0 hi h1 hj,sN.oL h0 hi g0 hlt,sN.oL g0 hlt h1 hj,λ_ _=>?_⟩
    have b1:=mq h x.toNat (by omega) i x h0 hi g0 hlt
    have b2:=mq h x.toNat (by omega) x j g0 hlt h1 hj
    have b3:=VM (k:=x.toNat) (by omega)
    simp only[inR];omega
   .by_cases e:(j:Int)<=x
    .exact g3 j e
    .have:j=x.toNat+1:=by omega
     rw[this];exact hc
   .show cI m (x.toNat+1)=cI m (x+1).toNat;rw[show(x+1).toNat=x.toNat+1 by omega]
   .simp only[Dc,Df];omega
  .have hge:¬x<m.length:=by simpa using hge
   obtain⟨g0,g1,g2,g3⟩:=hx;have hb:sk m=false:=by
    unfold sk;rw[qBx];intro k hk;have:=g3 k (by have:=qU.1 hk;omega)
    simp[this]
   have e:x.toNat=m.length:=by omega
   have:D7 m=(cI m m.length,0):=by simp[D7,h,hb]
   refine⟨?_,?_,trivial⟩
   .unfold jq;rw[this];show cI m x.toNat=_;rw[e]
   .unfold jr;rw[this]
end Go.Eng.Mp
namespace Go.Eng.Mp
def le(z x:Int): Prop:=dt x=false/\z<=x
theorem wv{x:Int}: dt x=false↔-549755813888<x:=by
 simp only[dt,vW];omega
theorem le_iff{z x:Int}: le z x↔-549755813888<x/\z<=x:=by unfold le;rw[wv]
theorem NR{y z x:Int}(h:y<=z)(hz:le z x): le y x:=⟨hz.1,by have:=hz.2;omega⟩
theorem Yr{x:Int}(h:dt x=false): le x x:=⟨h,by omega⟩
theorem lU{z x y:Int}: le z (jd x y)↔le z x\/le z y:=by
 simp only[le_iff,jd,dt,Bool.cond_eq_ite,qC,qE];split<;>omega
theorem HB{z x y:Int}(h:dt x=false->dt y=false->-549755813888<x+y): le z (iR x y)↔∃u v,le u x/\le v y/\z<=u+v:=by
 constructor
 .intro hz;simp only[wv]at h;simp only[le_iff,iR,dt,Bool.cond_eq_ite,zW,qE]at hz;split at hz
  .omega
  .exact⟨x,y,le_iff.2 ⟨by omega,by omega⟩,le_iff.2 ⟨by omega,by omega⟩,hz.2⟩
 .rintro⟨u,v,hu,hv,hz⟩;have:=h hu.1 hv.1;simp only[le_iff]at hu hv;simp only[le_iff,iR,dt,Bool.cond_eq_ite,zW,qE];split<;>omega
theorem TF{g:Int->Int}{z:Int}: ∀n:Nat,le z (nF jd g (-1099511627776) n)↔∃k:Nat,k<n/\le z (g k)
 | 0=>by simp[nF,le,dt]
 | n+1=>by
  simp only[nF,lU,TF n];constructor
  .rintro(⟨k,hk,h⟩ | h)
   .exact⟨k,by omega,h⟩
   .exact⟨n,by omega,h⟩
  .rintro⟨k,hk,h⟩;by_cases e:k=n
   .subst e;exact .inr h
   .exact .inl ⟨k,by omega,h⟩
structure Bd (n:Nat) (L:Int) (m:Lj):Prop where
 sq:Sq n m
 le:n<=40
 el:∀i j:Int,0<=i->i<n->0<=j->j<n->dt (at2 m i j)=false->-L<=at2 m i j/\at2 m i j<=L
theorem Bd.up {n:Nat} {L L':Int} {m:Lj} (h:Bd n L m) (hl:L<=L'):Bd n L' m:=
 ⟨h.sq,h.le,λi j h0 hi h1 hj hf=>by have:=h.el i j h0 hi h1 hj hf;omega⟩
abbrev In(n:Nat)(i:Int): Prop:=0<=i/\i<(n:Int)
def PW(m:Lj)(p:Nat->Int): Nat->Int->Prop
 | 0,z=>z<=0
 | k+1,z=>∃u v,PW m p k u/\le v (at2 m (p k) (p (k+1)))/\z<=u+v
section
variable {m:Lj} {p q:Nat->Int}
theorem PW.down:∀{k:Nat} {y z:Int},PW m p k z->y<=z->PW m p k y
 | 0,_,_,h,hy=>Int.le_trans hy h
 | _+1,_,_,⟨u,v,h1,h2,h3⟩,hy=>⟨u,v,h1,h2,by omega⟩
theorem PW.congr:∀{k:Nat} {z:Int},(∀t,t<=k->p t=q t)->PW m p k z->PW m q k z
 | 0,_,_,h=>h
 | k+1,_,e,⟨u,v,h1,h2,h3⟩=>⟨u,v,PW.congr (λt ht=>e t (by omega)) h1,by rw[<- e k (by omega),<- e (k+1) (by omega)];exact h2,h3⟩
theorem PW.split (a:Nat):∀(b:Nat) {z:Int},PW m p (a+b) z->∃u v,PW m p a u/\PW m (λt=>p (a+t)) b v/\z<=u+v
 | 0,z,h=>⟨z,0,h,qM _,by omega⟩
 | b+1,z,⟨u,v,h1,h2,h3⟩=>by
  obtain⟨u',v',g1,g2,g3⟩:=PW.split a b h1;exact⟨u',v'+v,g1,⟨v',v,g2,h2,qM _⟩,by omega⟩
def glue(p q:Nat->Int)(a:Nat): Nat->Int:=λt=>if t<=a then p t else q (t-a)
theorem lY{a t:Nat}(h:t<=a): glue p q a t=p t:=if_pos h
theorem iY{a b:Nat}(e:p a=q 0): glue p q a (a+b)=q b:=by
 unfold glue;split
 .have:b=0:=by omega
  subst this;simpa using e
 .congr 1;omega
theorem PW.join {a:Nat} {u:Int} (h:PW m p a u) (e:p a=q 0):∀(b:Nat) {v:Int},PW m q b v->PW m (glue p q a) (a+b) (u+v)
 | 0,v,hv=>by
  have hv:v<=0:=hv;exact(h.congr (λt ht=>(lY ht).symm)).down (by omega)
 | b+1,v,⟨x,y,h1,h2,h3⟩=>by
  refine⟨u+x,y,PW.join h e b h1,?_,by omega⟩
  show le y (at2 m (glue p q a (a+b)) (glue p q a (a+(b+1))));rw[iY e,iY e];exact h2
def W(m:Lj)(n:Nat)(t:Int)(k:Nat)(i j z:Int): Prop:=
 ∃p:Nat->Int,p 0=i/\p k=j/\(∀s,s<=k->In n (p s))/\(∀s,0<s->s<k->p s<t)/\PW m p k z
variable {n:Nat} {t:Int}
theorem W.ins {k:Nat} {i j z:Int} (h:W m n t k i j z):In n i/\In n j:=by
 obtain⟨p,rfl,rfl,h,_⟩:=h;exact⟨h 0 (by omega),h k (by omega)⟩
theorem W.zero {i z:Int} (hi:In n i) (hz:z<=0):W m n t 0 i i z:=⟨λ_=>i,rfl,rfl,λ_ _=>hi,λs h1 h2=>by omega,hz⟩
theorem W.one {i j z:Int} (hi:In n i) (hj:In n j) (h:le z (at2 m i j)):W m n t 1 i j z:=
 ⟨λs=>if s=0 then i else j,rfl,rfl,λs _=>by show In n (if s=0 then i else j);split<;>assumption,λs h1 h2=>by omega,0,z,qM _,h,by omega⟩
theorem W.down {k:Nat} {i j y z:Int} (h:W m n t k i j z) (hy:y<=z):W m n t k i j y:=by
 obtain⟨p,h1,h2,h3,h4,h5⟩:=h;exact⟨p,h1,h2,h3,h4,h5.down hy⟩
theorem W.mono {t':Int} {k:Nat} {i j z:Int} (h:W m n t k i j z) (ht:t<=t'):W m n t' k i j z:=by
 obtain⟨p,h1,h2,h3,h4,h5⟩:=h;exact⟨p,h1,h2,h3,λs s1 s2=>by have:=h4 s s1 s2;omega,h5⟩
theorem W.all {k:Nat} {i j z:Int} (h:W m n t k i j z):W m n n k i j z:=by
 obtain⟨p,h1,h2,h3,h4,h5⟩:=h;exact⟨p,h1,h2,h3,λs s1 s2=>(h3 s (by omega)).2,h5⟩
theorem W.trans {a b:Nat} {i l j u v:Int} (h:W m n t a i l u) (h':W m n t b l j v) (hl:l<t):W m n t (a+b) i j (u+v):=by
 obtain⟨p,h1,h2,h3,h4,h5⟩:=h;obtain⟨q,g1,g2,g3,g4,g5⟩:=h';have e:p a=q 0:=by rw[h2,g1]
 refine⟨glue p q a,by rw[lY (by omega)];exact h1,by rw[iY e];exact g2,λs hs=>?_,λs s1 s2=>?_,h5.join e b g5⟩
 .by_cases h:s<=a
  .rw[lY h];exact h3 s h
  .rw[show s=a+(s-a) by omega,iY e];exact g3 _ (by omega)
 .by_cases h:s<a
  .rw[lY (by omega)];exact h4 s s1 h
  .by_cases h':s=a
   .subst h';rw[lY (by omega),h2];exact hl
   .rw[show s=a+(s-a) by omega,iY e];exact g4 _ (by omega) (by omega)
theorem W.trans' {a b:Nat} {i l j u v:Int} (h:W m n n a i l u) (h':W m n n b l j v):W m n n (a+b) i j (u+v):=h.trans h' h.ins.2.2
theorem Vq: ∀(n:Nat) (f:Nat->Nat),(∀i,i<=n->f i<n)->∃a b,a<b/\b<=n/\f a=f b
 | 0,f,h=>by have:=h 0 (by omega);omega
 | n+1,f,h=>by
  by_cases he:∃i,i<=n/\f i=f (n+1)
  .obtain⟨i,hi,e⟩:=he;exact⟨i,n+1,by omega,by omega,e⟩
  .have hne:∀i,i<=n->f i≠f (n+1):=λi hi e=>he ⟨i,hi,e⟩
   have hl:=h (n+1) (by omega)
   obtain⟨a,b,h1,h2,h3⟩:=Vq n (λi=>if f i=n then f (n+1)else f i) (λi hi=>by
    have h1:=h i (by omega)
    have h2:=hne i hi;show(if f i=n then f (n+1)else f i)<n
    split<;>omega)
   have ha:=hne a (by omega)
   have hb:=hne b (by omega)
   refine⟨a,b,h1,by omega,?_⟩
   have h3:(if f a=n then f (n+1)else f a)=(if f b=n then f (n+1)else f b):=h3
   split at h3<;>split at h3<;>omega
theorem W.short:∀(k:Nat) {i j z:Int},W m n t k i j z->∃k' z',k'<n/\W m n t k' i j z'/\((∀k x u,W m n t k x x u->u<=0)->z<=z')
 | k,i,j,z,h=>by
  by_cases hk:k<n
  .exact⟨k,z,hk,h,λ_=>qM _⟩
  .obtain⟨p,h1,h2,h3,h4,h5⟩:=h;obtain⟨a,b,hab,hbn,e⟩:=Vq n (λs=>(p s).toNat) (λs hs=>by have:=h3 s (by omega);omega)
   have e:(p a).toNat=(p b).toNat:=e;have e:p a=p b:=by have:=h3 a (by omega);have:=h3 b (by omega);omega
   have h5':PW m p (a+(k-a)) z:=by rw[show a+(k-a)=k by omega];exact h5
   obtain⟨u1,w,q1,q2,q3⟩:=PW.split a (k-a) h5';have q2':PW m (λt=>p (a+t)) ((b-a)+(k-b)) w:=by rw[show(b-a)+(k-b)=k-a by omega];exact q2
   obtain⟨u2,u3,r1,r2,r3⟩:=PW.split (b-a) (k-b) q2';have r2:PW m (λt=>p (b+t)) (k-b) u3:=r2.congr (λt _=>by show p (a+(b-a+t))=p (b+t);congr 1;omega)
   have closed:W m n t (b-a) (p a) (p a) u2:=
    ⟨λt=>p (a+t),rfl,by show p (a+(b-a))=p a;rw[show a+(b-a)=b by omega,e],λs hs=>h3 _ (by omega),λs s1 s2=>h4 _ (by omega) (by omega),r1⟩
   have ej:p a=(λt=>p (b+t)) 0:=by show p a=p (b+0);rw[xB];exact e
   have hw:W m n t (a+(k-b)) i j (u1+u3):=by
    refine⟨glue p (λt=>p (b+t)) a,by rw[lY (by omega)];exact h1,?_,λs hs=>?_,λs s1 s2=>?_,q1.join ej _ r2⟩
    .rw[iY ej];show p (b+(k-b))=j;rw[show b+(k-b)=k by omega];exact h2
    .by_cases h:s<=a
     .rw[lY h];exact h3 s (by omega)
     .rw[show s=a+(s-a) by omega,iY ej];exact h3 _ (by omega)
    .by_cases h:s<=a
     .rw[lY h];exact h4 s s1 (by omega)
     .rw[show s=a+(s-a) by omega,iY ej];exact h4 _ (by omega) (by omega)
   obtain⟨k',z',w1,w2,w3⟩:=W.short (a+(k-b)) hw;refine⟨k',z',w1,w2,λhc=>?_⟩
   have:=w3 hc;have:=hc _ _ _ closed;omega
termination_by k=>k
decreasing_by omega
theorem HQ(P:Nat->Prop): ∀k:Nat,P k->∃a,a<=k/\P a/\∀b,b<a->¬P b
 | k,h=>by
  by_cases he:∃b,b<k/\P b
  .obtain⟨b,hb,hp⟩:=he;obtain⟨a,h1,h2,h3⟩:=HQ P b hp;exact⟨a,by omega,h2,h3⟩
  .exact⟨k,by omega,h,λb hb hp=>he ⟨b,hb,hp⟩⟩
termination_by k=>k
decreasing_by omega
theorem W.cut {k:Nat} {i j z:Int} (h:W m n (t+1) k i j z):W m n t k i j z\/∃a b u v,b<k/\W m n t a i t u/\W m n (t+1) b t j v/\z<=u+v:=by
 obtain⟨p,h1,h2,h3,h4,h5⟩:=h;by_cases he:∃s,0<s/\s<k/\p s=t
 .obtain⟨s,s0,s1,s2⟩:=he;obtain⟨a,a1,⟨a2,a3⟩,a4⟩:=HQ (λs=>0<s/\p s=t) s ⟨s0,s2⟩
  have h5':PW m p (a+(k-a)) z:=by rw[show a+(k-a)=k by omega];exact h5
  obtain⟨u,v,q1,q2,q3⟩:=PW.split a (k-a) h5';refine .inr ⟨a,k-a,u,v,by omega,⟨p,h1,a3,λs hs=>h3 s (by omega),λs s1 s2=>?_,q1⟩,⟨λs=>p (a+s),a3,?_,λs hs=>h3 _ (by omega),λs s1 s2=>h4 _ (by omega) (by omega),q2⟩,q3⟩
  .have:=h4 s s1 (by omega)
   have:=a4 s s2;have:p s≠t:=λe=>this ⟨s1,e⟩
   omega
  .show p (a+(k-a))=j;rw[show a+(k-a)=k by omega];exact h2
 .refine .inl ⟨p,h1,h2,h3,λs s1 s2=>?_,h5⟩
  have:=h4 s s1 s2;have:p s≠t:=λe=>he ⟨s,s1,s2,e⟩
  omega
theorem PW.low {L:Int} (hm:Bd n L m):∀{k:Nat} {z:Int},(∀s,s<=k->In n (p s))->PW m p k z->PW m p k (-((k:Int)*L))
 | 0,_,_,_=>by show -(((0:Nat):Int)*L)<=0;simp
 | k+1,_,hp,⟨u,v,h1,h2,h3⟩=>by
  have a:=hp k (by omega)
  have b:=hp (k+1) (by omega)
  have:=hm.el _ _ a.1 a.2 b.1 b.2 h2.1;refine⟨-((k:Int)*L),-L,PW.low hm (λs hs=>hp s (by omega)) h1,⟨h2.1,by omega⟩,?_⟩
  have:((k+1:Nat):Int)*L=(k:Int)*L+L:=by
   rw[Int.natCast_add,Int.add_mul];simp
  omega
theorem W.low {L:Int} (hm:Bd n L m) {k:Nat} {i j z:Int} (h:W m n t k i j z):W m n t k i j (-((k:Int)*L)):=by
 obtain⟨p,h1,h2,h3,h4,h5⟩:=h;exact⟨p,h1,h2,h3,h4,h5.low hm h3⟩
theorem PW.high {L:Int} (hm:Bd n L m):∀{k:Nat} {z:Int},(∀s,s<=k->In n (p s))->PW m p k z->z<=(k:Int)*L
 | 0,z,_,h=>by have h:z<=0:=h;simpa using h
 | k+1,z,hp,⟨u,v,h1,h2,h3⟩=>by
  have a:=hp k (by omega)
  have b:=hp (k+1) (by omega)
  have:=hm.el _ _ a.1 a.2 b.1 b.2 h2.1;have:=PW.high hm (λs hs=>hp s (by omega)) h1
  have:=h2.2;have:((k+1:Nat):Int)*L=(k:Int)*L+L:=by
   rw[Int.natCast_add,Int.add_mul];simp
  omega
theorem W.high {L:Int} (hm:Bd n L m) {k:Nat} {i j z:Int} (h:W m n t k i j z):z<=(k:Int)*L:=by
 obtain⟨p,h1,h2,h3,h4,h5⟩:=h;exact h5.high hm h3
theorem AN(hl:m.length=n){i j:Int}(hi:In n i)(hj:In n j): at2 (cI m 0) i j=mR m i j:=by
 show at2 (aK (mR m) m.length) i j=_;rw[hl];exact jM _ _ _ _ hi.1 hi.2 hj.1 hj.2
theorem GY(hl:m.length=n)(t:Nat){i j:Int}(hi:In n i)(hj:In n j): at2 (cI m (t+1)) i j=nt (cI m t) t i j:=by
 show at2 (aK (nt (cI m t) t) m.length) i j=_;rw[hl];exact jM _ _ _ _ hi.1 hi.2 hj.1 hj.2
structure Fw (m:Lj) (n:Nat) (B:Int) (t:Nat):Prop where
 s:∀i j z,In n i->In n j->le z (at2 (cI m t) i j)->∃k,W m n t k i j z
 c:∀k i j z,W m n t k i j z->le z (at2 (cI m t) i j)
 lb:∀i j,In n i->In n j->dt (at2 (cI m t) i j)=false->-B<=at2 (cI m t) i j
theorem aBj{L:Int}(hm:Bd n L m)(hL:0<=L)(t:Nat)(s:∀i j z,In n i->In n j->le z (at2 (cI m t) i j)->∃k,W m n t k i j z)
  (c:∀k i j z,W m n t k i j z->le z (at2 (cI m t) i j)):Fw m n (n*L) t:=
 ⟨s,c,λi j hi hj hf=>by
  obtain⟨k,hw⟩:=s i j _ hi hj (Yr hf);obtain⟨k',z',h1,h2,_⟩:=hw.short;have:=(c _ _ _ _ (h2.low hm)).2;have h4:(k':Int)*L<=n*L:=qAt (by omega) hL
  omega⟩
theorem fw0{L:Int}(hm:Bd n L m)(hL:0<=L): Fw m n (n*L) 0:=by
 refine aBj hm hL 0 (λi j z hi hj h=>?_) (λk i j z h=>?_)
 .rw[AN hm.sq.len hi hj]at h;unfold mR at h;by_cases e:i=j
  .subst e;simp only[qAu,qBc,lU]at h;rcases h with h | h
   .exact⟨0,W.zero hi h.2⟩
   .exact⟨1,W.one hi hj h⟩
  .simp only[e,kQ,qBe,lU]at h;rcases h with h | h
   .simp[le,dt]at h
   .exact⟨1,W.one hi hj h⟩
 .obtain⟨hi,hj⟩:=h.ins;rw[AN hm.sq.len hi hj];obtain⟨p,h1,h2,h3,h4,h5⟩:=h;unfold mR
  match k,h2,h3,h4,h5 with
  | 0,h2,_,_,h5=>
   have e:i=j:=by rw[<- h1,<- h2]
   have h5:z<=0:=h5;simp only[e,qAu,qBc,lU];exact .inl ⟨by decide,h5⟩
  | 1,h2,_,_,h5=>
   obtain⟨u,v,g1,g2,g3⟩:=h5;have g1:u<=0:=g1;simp only[zB,h1,h2]at g2;have g4:le z (at2 m i j):=NR (by omega) g2
   cases decide (i=j)
   .simp only[qBe,lU];exact .inr g4
   .simp only[qBc,lU];exact .inr g4
  | k+2,_,h3,h4,_=>
   have:=h4 1 (by omega) (by omega)
   have:=(h3 1 (by omega)).1
   simp only[Int.natCast_zero]at *;omega
theorem YB{L:Int}(hm:Bd n L m)(hL:0<=L)(hB:n*L<=100000000000){t:Nat}(ht:t<n)(h:Fw m n (n*L) t)(hd:at2 (cI m t) t t<=0\/dt (at2 (cI m t) t t)=true): Fw m n (n*L) (t+1):=by
 have hit:In n t:=⟨by omega,by omega⟩
 have no:∀{i j:Int},In n i->In n j->dt (at2 (cI m t) i t)=false->dt (at2 (cI m t) t j)=false->-549755813888<at2 (cI m t) i t+at2 (cI m t) t j:=λhi hj e1 e2=>by
  have:=h.lb _ _ hi hit e1;have:=h.lb _ _ hit hj e2;omega
 have ret:∀(k:Nat) (j z:Int),W m n ((t:Int)+1) k t j z->le z (at2 (cI m t) t j):=by
  intro k;induction k using Nat.strongRecOn with
  | ind k ih=>
   intro j z hw;rcases hw.cut with hw | ⟨a,b,u,v,hb,w1,w2,hz⟩
   .exact h.c _ _ _ _ hw
   .have h1:=h.c _ _ _ _ w1;have h2:=ih b hb j v w2;have:u<=0:=by
     rcases hd with hd | hd
     .have:=h1.2;omega
     .rw[h1.1]at hd;cases hd
    exact NR (by omega) h2
 refine aBj hm hL (t+1) (λi j z hi hj hz=>?_) (λk i j z hw=>?_)
 .rw[GY hm.sq.len t hi hj]at hz;unfold nt at hz;rw[lU]at hz;rcases hz with hz | hz
  .obtain⟨k,hk⟩:=h.s _ _ _ hi hj hz;exact⟨k,hk.mono (by omega)⟩
  .obtain⟨u,v,hu,hv,hz⟩:=(HB (no hi hj)).1 hz;obtain⟨k,hk⟩:=h.s _ _ _ hi hit hu;obtain⟨k',hk'⟩:=h.s _ _ _ hit hj hv;exact⟨k+k',((hk.mono (t':=((t+1:Nat):Int)) (by omega)).trans (hk'.mono (by omega)) (by omega)).down hz⟩
 .obtain⟨hi,hj⟩:=hw.ins;rw[GY hm.sq.len t hi hj];unfold nt;rw[lU];have hw':W m n ((t:Int)+1) k i j z:=by simpa using hw
  rcases hw'.cut with hw | ⟨a,b,u,v,_,w1,w2,hz⟩
  .exact .inl (h.c _ _ _ _ hw)
  .exact .inr ((HB (no hi hj)).2 ⟨u,v,h.c _ _ _ _ w1,ret _ _ _ w2,hz⟩)
def UT(m:Lj)(n:Nat): Prop:=∀k x u,W m n n k x x u->u<=0
theorem JE{s:Lj}(hs:s.length=n): fY s=false↔∀i,In n i->at2 s i i<=0:=by
 unfold fY;rw[qT,hs];constructor
 .intro h i hi;have:=h i hi.1 hi.2;simp only[diag,vW]at this;omega
 .intro h k h0 hk;have:=h k ⟨h0,hk⟩;simp only[diag,vW];omega
theorem aBk{L:Int}(hm:Bd n L m)(hL:0<=L)(hB:n*L<=100000000000): ∀t,t<=n->(∀s,s<t->fY (cI m s)=false)->Fw m n (n*L) t
 | 0,_,_=>fw0 hm hL
 | t+1,ht,h=>by
  refine YB hm hL hB (by omega) (aBk hm hL hB t (by omega) (λs hs=>h s (by omega))) (.inl ?_)
  have hl:(cI m t).length=n:=by rw[(rI m t).len,hm.sq.len]
  exact(JE hl).1 (h t (by omega)) t ⟨by omega,by omega⟩
theorem UT.short (h:UT m n) {k:Nat} {i j z:Int} (hw:W m n n k i j z):∃k',k'<n/\W m n n k' i j z:=by
 obtain⟨k',z',h1,h2,h3⟩:=hw.short;exact⟨k',h1,h2.down (h3 h)⟩
end
end Go.Eng.Mp
set_option maxRecDepth 100000
noncomputable section
namespace Go.Eng.Sv
open Go.Proofs
def Ar(z:Int)(w:List Bool)(h:Li)(a b:Int): Prop:=ax z w h=true/\bW a=true/\bW b=true
def pW(w:List Bool)(h:Li)(a b:Int): Li:=dN w h a (b-a+1)
def BO(n:Net)(line:Int): Prop:=noF n=true/\0<=line/\line<n.2.2.2.2.1.length
def aN(n:Net)(line:Int): Line:=n.2.2.2.2.1.getD line.toNat (⟨#[]⟩,0,0,0,0,0)
def zR(n:Net)(line:Int): Int×List Bool×Li:=n.1.getD (n.2.2.2.1.getD (aN n line).2.1.toNat (⟨#[]⟩,0,0,0,0,0,[])).2.2.1.toNat (0,[],[])
def fx(n:Net)(line:Int)(ts:Li): Bool:=dO line n.2.2.2.2.1.length&&ts.all cH&&bn n
def xr(ts:Li)(k:Int): Prop:=0<=k/\k<=ts.length/\(ts.take k.toNat).all cH=true
def JB(ts:Li): Prop:=ts.length<=1000000
def rc(n:Net)(line time:Int): Prop:=BO n line/\0<=time/\time<=2000000
def gU(n:Net)(line d:Int): Int:=jb (zR n line).1 d (aN n line).2.2.2.1
def vf(n:Net)(line time:Int): Li:=pW (zR n line).2.1 (zR n line).2.2 (fu (zR n line).1 time) (fu (zR n line).1 time+60)
def gq(n:Net)(line time:Int): Option Int:=(((vf n line time).map (gU n line)).find? λt=>decide (time<=t)).bind λt=>if t<time+86400 then some t else none
def ng(n:Net)(line time:Int): Int:=(gq n line time).getD 0
def nh(n:Net)(line time:Int): Bool:=(gq n line time).isSome
def firstTo(n:Net)(line time:Int)(k:Nat): Prop:=k<=(vf n line time).length/\((vf n line time).take k).all (λd=>decide (gU n line d<time))=true
def KT5: Kt:=kOr 286 (ay [.row C,.val I] (λ(c,d,_)=>ax c.1 c.2.1 c.2.2=true/\bW d=true) λ(c,d,_)=>.dat .bool (bP c.2.1 c.2.2 d)) KT4
def WX(ts:Li): Ann:=⟨λid s=>match id with
 | 4=>some {α:=Int,inv:=λk=>xr ts k,st:=λk=>put s [(20,.dat I k)],μ:=λk=>Dc (Dh (Df ts) k)}
 | _=>none,λ_ _=>none,λ_ _=>none⟩
theorem KB(line:Int)(ts:Li)(cs:LC)(ns os:LB)(fs:Lo)(ls:Ll)(ks:Lk)(hvc:
 let c1:=Dp line 0;let c2:=Di c1;let c12:=c2->c2->c2;let c3:=Eb c1 true (Ed line (Df ls));let c4:=(cs,ns,os,fs,ls,ks);let c5:=fx c4 line ts;true/\(JB ts->c12/\c12/\c12/\c12/\(Dk true c2->c2)/\(c3->false=c5/\True)/\(c3=false->(∃x,xr ts x/\c4=c4/\ts=ts/\Df ts=Df ts/\0=x/\True)/\∀(x:Int),let c6:=Dp x (Df ts);let c7:=Du ts (Dc x) 0;let c8:=Dp c7 0;let c9:=Di c8;let c10:=Eb c8 true (Ei c7 2000000);let c11:=x+1;xr ts x->(c6->0<=x/\x<Df ts/\(c9->c9->c9)/\(Dk true c9->c9)/\(c10->false=c5/\True)/\(c10=false->inR .i64 c11/\∃y,xr ts y/\(c4=c4/\ts=ts/\Df ts=Df ts/\c11=y/\True)/\Dc (Df ts-y)<Dc (Df ts-x)))/\(c6=false->True/\Dy (Df (fm c4)) 0=c5/\True)))):
  evF (mkc KT5) (lvA [(4,[3,6,8,18,19,20])] (WX ts)) 209 [net cs ns os fs ls ks,.dat I line,.dat R ts] [] ⟨JB ts,.dat .bool (fx (cs,ns,os,fs,ls,ks) line ts),[]⟩:=oE hvc
theorem Q6(line:Int)(cs:LC)(ns os:LB)(fs:Lo)(ls:Ll)(ks:Lk)(hvc:
 let c1:=(cs,ns,os,fs,ls,ks);let c2:=(Du ls (Dc line) (ByteArray.mk #[],(0:Int),(0:Int),(0:Int),(0:Int),(0:Int))).2.1;let c3:=(Du fs (Dc c2) (ByteArray.mk #[],(0:Int),(0:Int),(0:Int),(0:Int),(0:Int),Dt ByteArray)).2.2.1;let c4:=Du cs (Dc c3) ((0:Int),Dt Bool,Dt Int);let c5:=zR c1 line;true/\(BO c1 line->0<=line/\line<Df ls/\0<=c2/\c2<Df fs/\0<=c3/\c3<Df cs/\1=1/\0=0/\1=1/\0=0/\c4.1=c5.1/\c4.2.1=c5.2.1/\c4.2.2=c5.2.2/\True)):
  evF (mkc KT5) aA 256 [net cs ns os fs ls ks,.dat I line] [] ⟨BO (cs,ns,os,fs,ls,ks) line,cal (zR (cs,ns,os,fs,ls,ks) line).1 (zR (cs,ns,os,fs,ls,ks) line).2.1 (zR (cs,ns,os,fs,ls,ks) line).2.2,[]⟩:=oE hvc
theorem DR(z a b:Int)(w:List Bool)(h:Li)(hvc:
 let c1:=(z,w,h);true/\(True->a=a/\b=b/\c1=c1/\True)):
  evF (mkc KT5) aA 257 [cal z w h,.dat I a,.dat I b] [] ⟨True,.fn 285 [.ip I a,.ip I b,.ip C (z,w,h)],[]⟩:=oE hvc
def UZ(w:List Bool)(h:Li)(a b:Int): GG:=⟨λid y=>match id with
 | 1=>some {α:=Int,inv:=λd=>mc a (Dq (Dh b a) 1) d,st:=λd=>⟨put y.s [(5,.dat I d)],ly w h a d,true⟩,μ:=λd=>Dc (Dh (Dq b 1) d)}
 | _=>none,λ_ _=>none,λid=>id==3⟩
theorem Qh(z a b:Int)(w:List Bool)(h:Li)(hvc:
 let c1:=(z,w,h);let c2:=pW w h a b;let c3:=Dj c2;let c4:=b+1;true/\true/\true/\false=false/\∀(l:Nat),Ar z w h a b->(∃x,mc a ((b-a)+1) x/\(l=l/\a=a/\b=b/\c1=c1/\a=x/\a=a/\True)/\0=ly w h a x/\true)/\∀(x:Int),let c5:=(b-a)+1;let c6:=ly w h a x;let c7:=c6+(1);let c8:=x+1;let c9:=Eb (bP w h x) (Di false) false;mc a c5 x->(Eh x b->(ax z w h/\bW x)/\(bP w h x->(bP w h x->bP w h x)/\(bP w h x->bP w h x)/\l=l/\true/\lX c2 c6 x/\∀(b_1:Bool),let c10:=Eb (bP w h x) (Di b_1) false;(Dk true (bP w h x)->bP w h x)/\(c10->b_1->c7=c3)/\(c10=false->inR .i64 c8/\∃y,mc a c5 y/\((l=l/\a=a/\b=b/\c1=c1/\c8=y/\a=a/\True)/\c7=ly w h a y/\b_1)/\Dc (c4-y)<Dc (c4-x)))/\(bP w h x=false->(bP w h x->bP w h x->bP w h x)/\(Dk true (bP w h x)->bP w h x)/\(c9->true->c6=c3)/\(c9=false->inR .i64 c8/\∃y,mc a c5 y/\((l=l/\a=a/\b=b/\c1=c1/\c8=y/\a=a/\True)/\c6=ly w h a y/\true)/\Dc (c4-y)<Dc (c4-x))))/\(Eh x b=false->true->c6=c3)):
  evI (mkc KT5) (UZ w h a b) 285 [.ip I a,.ip I b,.ip C (z,w,h)] ⟨Ar z w h a b,I,pW w h a b⟩:=oE hvc
def KT6: Kt:=kOr 256 (ay [.row N,.val I] (λ(n,l,_)=>BO n l) λ(n,l,_)=>cal (zR n l).1 (zR n l).2.1 (zR n l).2.2) <|
 kOr 257 (ay [.row C,.val I,.val I] (λ_=>True) λ(c,a,b,_)=>.fn 285 [.ip I a,.ip I b,.ip C (c.1,c.2.1,c.2.2)]) <|
 kOr 209 (ay [.row N,.val I,.val R] (λ(_,_,ts,_)=>JB ts) λ(n,l,ts,_)=>.dat .bool (fx n l ts)) KT5
def aEA: FuncId->List AV->Option ja:=λf caps=>match f,caps with
 | 285,[.ip (.int .i64) a,.ip (.int .i64) b,.ip (.pair (.int .i64) (.pair (.sl .bool) (.sl (.int .i64)))) c]=>some ⟨Ar c.1 c.2.1 c.2.2 a b,I,pW c.2.1 c.2.2 a b⟩
 | _,_=>none
noncomputable def mkr(K:Kt)(mb:Tmp->Bool): Cfg:=⟨Tryz.prog,G0,K,mb,aEA,true,λ_ _ _=>none,λ_=>false⟩
def aBo(n:Net)(line time:Int): Ann:=⟨λid s=>match id with
 | 4=>some {α:=Nat,inv:=λk=>firstTo n line time k,st:=λ_=>flat s,μ:=λk=>k}
 | _=>none,λ_ _=>none,λ_ _=>none⟩
theorem QS(line time:Int)(cs:LC)(ns os:LB)(fs:Lo)(ls:Ll)(ks:Lk)(hvc:
 let c1:=(cs,ns,os,fs,ls,ks);let c2:=zR c1 line;let c3:=c2.1;let c4:=c2.2;let c5:=c4.1;let c6:=c4.2;let c7:=fu c3 time;let c8:=c7+60;let c9:=J9 c3 time;let c10:=(c3,c5,c6);let c11:=pW c5 c6 c7 c8;let c12:=(Du ls (Dc line) (ByteArray.mk #[],(0:Int),(0:Int),(0:Int),(0:Int),(0:Int))).2.2.2.1;let c13:=time+86400;let c14:=ng c1 line time;let c15:=nh c1 line time;true/\(rc c1 line time->BO c1 line/\1=1/\0=0/\1=1/\0=0/\gw c3 c5 c6 time/\1=1/\0=0/\inR IntKind.i64 c8/\True/\Ar c3 c5 c6 c7 c8/\(∃x,firstTo c1 line time x/\x=0/\cs=cs/\ns=ns/\os=os/\fs=fs/\ls=ls/\ks=ks/\line=line/\time=time/\c1=c1/\line=line/\time=time/\1=1/\0=0/\0=0/\1=1/\0=0/\0=0/\1=1/\0=0/\0=0/\c7=c7/\c9=c9/\cs=cs/\ns=ns/\os=os/\fs=fs/\ls=ls/\ks=ks/\line=line/\c3=c3/\c5=c5/\c6=c6/\c7=c7/\c9=c9/\c3=c3/\c5=c5/\c6=c6/\time=time/\c7=c7/\c9=c9/\c7=c7/\c9=c9/\c3=c3/\c5=c5/\c6=c6/\c7=c7/\c7=c7/\c8=c8/\c7=c7/\c8=c8/\c10=c10/\(0:Int)=(0:Int)/\false=false/\c3=c3/\c5=c5/\c6=c6/\True)/\(∀(x:Nat) (y:Int),let c16:=Dp (jb c3 y c12) time;let c17:=Ed (jb c3 y c12) c13;
 firstTo c1 line time x->lX c11 x y->1=1/\0=0/\0<=line/\line<Df ls/\lN c3 c5 c6 y c12/\(c16->∃z,firstTo c1 line time z/\z=x+(1)/\cs=cs/\ns=ns/\os=os/\fs=fs/\ls=ls/\ks=ks/\line=line/\time=time/\c1=c1/\line=line/\time=time/\1=1/\0=0/\0=0/\1=1/\0=0/\0=0/\1=1/\0=0/\0=0/\c7=c7/\c9=c9/\cs=cs/\ns=ns/\os=os/\fs=fs/\ls=ls/\ks=ks/\line=line/\c3=c3/\c5=c5/\c6=c6/\c7=c7/\c9=c9/\c3=c3/\c5=c5/\c6=c6/\time=time/\c7=c7/\c9=c9/\c7=c7/\c9=c9/\c3=c3/\c5=c5/\c6=c6/\c7=c7/\c7=c7/\c8=c8/\c7=c7/\c8=c8/\c10=c10/\(0:Int)=(0:Int)/\false=false/\c3=c3/\c5=c5/\c6=c6/\True)/\(c16=false->inR .i64 c13/\(c17->1=1/\0=0/\1=1/\0=0/\1=1/\0=0/\1=1/\0=0/\0=c14/\false=c15/\True)/\(c17=false->1=1/\0=0/\1=1/\0=0/\1=1/\0=0/\1=1/\0=0/\jb c3 y c12=c14/\true=c15/\True)))/\∀(x:Nat),firstTo c1 line time x->x=Dj c11->1=1/\0=0/\1=1/\0=0/\1=1/\0=0/\1=1/\0=0/\0=c14/\false=c15/\True)):
  evF (mkr KT6 λ_=>false) (aBo (cs,ns,os,fs,ls,ks) line time) 210 [net cs ns os fs ls ks,.dat I line,.dat I time] [] ⟨rc (cs,ns,os,fs,ls,ks) line time,.tup [.dat I (ng (cs,ns,os,fs,ls,ks) line time),.dat .bool (nh (cs,ns,os,fs,ls,ks) line time)],[]⟩:=oE hvc
def KT7: Kt:=kOr 210 (ay [.row N,.val I,.val I] (λ(n,l,t,_)=>rc n l t) λ(n,l,t,_)=>.tup [.dat I (ng n l t),.dat .bool (nh n l t)]) KT6
theorem aBP: al Tryz.prog G0 KT5:=aj (ag λ((z,w,h),d,_)=>aAQ z w h d) aBQ
theorem OU(cs:LC)(ns os:LB)(fs:Lo)(ls:Ll)(ks:Lk){line:Int}(h:BO (cs,ns,os,fs,ls,ks) line): ax (zR (cs,ns,os,fs,ls,ks) line).1 (zR (cs,ns,os,fs,ls,ks) line).2.1 (zR (cs,ns,os,fs,ls,ks) line).2.2=true/\0<=(aN (cs,ns,os,fs,ls,ks) line).2.1/\(aN (cs,ns,os,fs,ls,ks) line).2.1<fs.length/\
  0<=(fs.getD (aN (cs,ns,os,fs,ls,ks) line).2.1.toNat (⟨#[]⟩,0,0,0,0,0,[])).2.2.1/\(fs.getD (aN (cs,ns,os,fs,ls,ks) line).2.1.toNat (⟨#[]⟩,0,0,0,0,0,[])).2.2.1<cs.length/\0<=(aN (cs,ns,os,fs,ls,ks) line).2.2.2.1/\(aN (cs,ns,os,fs,ls,ks) line).2.2.2.1<=1439:=by
 obtain⟨hno,l0,l1⟩:=h;have l1:line<ls.length:=l1;have hl:aN (cs,ns,os,fs,ls,ks) line∈ls:=by
  unfold aN;show ls.getD line.toNat _∈ls;rw[qA,qB (by omega),qR]
  exact wO _
 obtain⟨g1,g2,g3,g4,g5,g6,_⟩:=gn ((jy cs ns os fs ls ks hno).2.2.2 _ hl);have f0:0<=(aN (cs,ns,os,fs,ls,ks) line).2.1:=g1;have f1:(aN (cs,ns,os,fs,ls,ks) line).2.1<fs.length:=g2;have ho:fs.getD (aN (cs,ns,os,fs,ls,ks) line).2.1.toNat (⟨#[]⟩,0,0,0,0,0,[])∈fs:=by
  rw[qA,qB (by omega),qR]
  exact wO _
 have gc:=(gb cs ns os fs ls ks hno).2.2.2 _ ho;unfold cT dO at gc;simp only[qC,qE]at gc;have gc:0<=(fs.getD (aN (cs,ns,os,fs,ls,ks) line).2.1.toNat (⟨#[]⟩,0,0,0,0,0,[])).2.2.1/\(fs.getD (aN (cs,ns,os,fs,ls,ks) line).2.1.toNat (⟨#[]⟩,0,0,0,0,0,[])).2.2.1<(cs.length:Int):=gc.1.1.1.1.1.2;have hc:=((oI (by decide)).1 (hC cs ns os fs ls ks hno).2.1).2.2.2
 have hcl:(az cs ns).length=cs.length:=by unfold az;simp
 have:=hc (fs.getD (aN (cs,ns,os,fs,ls,ks) line).2.1.toNat (⟨#[]⟩,0,0,0,0,0,[])).2.2.1.toNat (by omega)
 unfold bh at this;rw[km (λc:Int×List Bool×Li=>ax c.1 c.2.1 c.2.2) cs _ (0,[],[]) false (by omega)]at this
 exact⟨this,f0,f1,gc.1,gc.2,g6.1,g6.2⟩
theorem XF(line:Int)(cs:LC)(ns os:LB)(fs:Lo)(ls:Ll)(ks:Lk): af Tryz.prog G0 256 [net cs ns os fs ls ks,.dat I line] [] ⟨BO (cs,ns,os,fs,ls,ks) line,cal (zR (cs,ns,os,fs,ls,ks) line).1 (zR (cs,ns,os,fs,ls,ks) line).2.1 (zR (cs,ns,os,fs,ls,ks) line).2.2,[]⟩:=by
 refine ae (c:=mkc KT5) aBP aL hm (Q6 line cs ns os fs ls ks ⟨rfl,λhp=>?_⟩)
 obtain⟨_,h1,h2,h3,h4,_⟩:=OU cs ns os fs ls ks hp;exact⟨hp.2.1,hp.2.2,h1,h2,h3,h4,rfl,rfl,rfl,rfl,rfl,rfl,rfl,trivial⟩
theorem IP(z a b:Int)(w:List Bool)(h:Li): af Tryz.prog G0 257 [cal z w h,.dat I a,.dat I b] [] ⟨True,.fn 285 [.ip I a,.ip I b,.ip C (z,w,h)],[]⟩:=
 ae (c:=mkc KT5) aBP aL hm (DR z a b w h ⟨rfl,λ_=>⟨rfl,rfl,rfl,trivial⟩⟩)
theorem vg{t:Int}: cH t=true↔¬t<0/\¬t>2000000:=by unfold cH;rw[qE];omega
theorem Ry(line:Int)(ts:Li)(cs:LC)(ns os:LB)(fs:Lo)(ls:Ll)(ks:Lk): af Tryz.prog G0 209 [net cs ns os fs ls ks,.dat I line,.dat R ts] [] ⟨JB ts,.dat .bool (fx (cs,ns,os,fs,ls,ks) line ts),[]⟩:=by
 refine ae (c:=mkc KT5) aBP aL hm (KB line ts cs ns os fs ls ks ⟨rfl,λhp=>?_⟩)
 simp only[qc,Dk,Di,qd,Dy,Dp,Ei,Ed,Df,Dc,Du];have hp':ts.length<=1000000:=hp;refine⟨λh=>?_,λ⟨h1,h2⟩=>⟨⟨qM _,vC _,rfl⟩,λk ⟨k0,k1,k2⟩=>⟨λhk=>?_,λhk=>?_⟩⟩⟩
 .unfold fx;have:dO line (ls.length:Nat)=false:=by unfold dO;exact vK (by omega)
  show false=(dO line (ls.length:Nat)&&_&&_);rw[this];rfl
 .have hg:ts.getD k.toNat 0=ts[k.toNat]:=by rw[qA,qB (by omega),qR]
  refine⟨k0,hk,λh=>?_,λh=>⟨bA (by omega),k+1,⟨by omega,by omega,?_⟩,rfl,by omega⟩⟩
  .have hn:ts.all cH=false:=by
    rw[qCx];refine⟨ts[k.toNat],wO _,λg=>?_⟩
    rw[<- hg,vg]at g;omega
   unfold fx;rw[hn,xX];rfl
  .rw[show(k+1).toNat=k.toNat+1 by omega,wZ,qB (by omega),qBs,qAa,k2,<- hg]
   show(true&&(cH _&&true))=true;rw[vg.2 h];rfl
 .have e1:dO line (ls.length:Nat)=true:=by unfold dO;exact qW (by omega)
  have e2:ts.all cH=true:=by
   rw[qO (by omega)]at k2;exact k2
  unfold fx bn;show _=(dO line (ls.length:Nat)&&ts.all cH&&_);rw[e1,e2];cases fm (cs,ns,os,fs,ls,ks)with
  | nil=>rfl
  | cons a l=>
   show decide _=false;rw[vW];show ¬((((a::l).length:Nat):Int)=0);rw[wS];omega
theorem ij{d:Int}: bW d=true↔-1000000<=d/\d<=1000000:=by unfold bW;rw[qE]
theorem W6(a b:Int)(c:C.den): mW Tryz.prog G0 285 [.ip I a,.ip I b,.ip C c] ⟨Ar c.1 c.2.1 c.2.2 a b,I,pW c.2.1 c.2.2 a b⟩:=by
 obtain⟨z,w,h⟩:=c;refine jC (c:=mkc KT5) (A:=UZ w h a b) aBP aL hm ?_;refine Qh z a b w h ⟨rfl,rfl,rfl,rfl,λl ⟨hv,ha,hb⟩=>?_⟩
 simp only[qc,Dk,Di,qd,Eh,Dc,Dj];have ha':=ij.1 ha;have hb':=ij.1 hb;refine⟨⟨a,⟨qM _,.inr rfl⟩,rfl,(H5 w h a).symm⟩,λx hx=>?_⟩
 have hx1:=hx.1;have hx2:=hx.2;refine⟨λhle=>⟨⟨hv,ij.2 (by omega)⟩,λhw=>⟨O7 hx1 (by omega) hw,λs=>⟨λg1 g2=>(by rw[g1.2]at g2;cases g2),λg=>⟨bA (by omega),x+1,⟨by omega,.inl (by omega)⟩,⟨rfl,?_,g hw⟩,by omega⟩⟩⟩,λhw=>⟨λg=>(by rw[hw]at g;cases g),λ_=>⟨bA (by omega),x+1,⟨by omega,.inl (by omega)⟩,⟨rfl,?_⟩,by omega⟩⟩⟩,λhge=>?_⟩
 .rw[rQ hx1,hw];rfl
 .rw[rQ hx1,hw];rfl
 .exact cnt_end (n:=b-a+1) hx (by omega)
theorem aEW: al Tryz.prog G0 KT6:=aj (ag λ((cs,ns,os,fs,ls,ks),l,_)=>XF l cs ns os fs ls ks)<|aj (ag λ((z,w,h),a,b,_)=>IP z a b w h)<|aj (ag λ((cs,ns,os,fs,ls,ks),l,ts,_)=>Ry l ts cs ns os fs ls ks) aBP
theorem aB2: bu Tryz.prog G0 aEA:=by
 intro f caps c h;unfold aEA at h;split at h
 .cases h;exact W6 _ _ _
 .cases h
theorem FT{f:Int->Int}{time y:Int}(hy:¬f y<time): ∀{L:Li} {x:Nat},L[x]?=some y->(L.take x).all (λd=>decide (f d<time))=true->(L.map f).find? (λt=>decide (time<=t))=some (f y)
 | [],x,h,_=>by simp at h
 | a::L,0,h,_=>by
  have:a=y:=by simpa using h
  subst this;rw[zF,qBp,qW (show time<=f a by omega)]
 | a::L,x+1,h,g=>by
  rw[List.take_succ_cons,qAr,qC,qE]at g;rw[zF,qBp,vK (show ¬time<=f a by omega)]
  exact FT hy (by simpa using h) g.2
theorem Oq{f:Int->Int}{time:Int}: ∀{L:Li},L.all (λd=>decide (f d<time))=true->(L.map f).find? (λt=>decide (time<=t))=none
 | [],_=>rfl
 | a::L,g=>by
  rw[qAr,qC,qE]at g;rw[zF,qBp,vK (show ¬time<=f a by omega)]
  exact Oq g.2
theorem Ij{w:List Bool}{h:Li}{a b y:Int}(hy:y∈pW w h a b): a<=y/\y<=b/\bP w h y=true:=by
 unfold pW dN at hy;rw[yG]at hy;obtain⟨hy,hw⟩:=hy;obtain⟨i,hi,rfl⟩:=vZ.1 hy;have:=qU.1 hi;exact⟨by omega,by omega,hw⟩
theorem Rm{z:Int}{w:List Bool}{h:Li}{t:Int}(hv:ax z w h=true)(t0:0<=t)(t1:t<=2000000): -2<=fu z t/\fu z t<=2000:=by
 obtain⟨⟨v1,v2,_⟩,_⟩:=bM.1 hv;unfold fu;omega
theorem Xx(line time:Int)(cs:LC)(ns os:LB)(fs:Lo)(ls:Ll)(ks:Lk): af Tryz.prog G0 210 [net cs ns os fs ls ks,.dat I line,.dat I time] [] ⟨rc (cs,ns,os,fs,ls,ks) line time,.tup [.dat I (ng (cs,ns,os,fs,ls,ks) line time),.dat .bool (nh (cs,ns,os,fs,ls,ks) line time)],[]⟩:=by
 refine ae (c:=mkr KT6 λ_=>false) aEW aB2 hm (QS line time cs ns os fs ls ks ⟨rfl,λhp=>?_⟩)
 simp only[qc,qd,Dp,Ed,Df,Dc,Dj,Du];obtain⟨hl,t0,t1⟩:=hp;obtain⟨hv,_,_,_,_,m0,m1⟩:=OU cs ns os fs ls ks hl;obtain⟨d0,d1⟩:=Rm hv t0 t1;refine⟨hl,⟨hv,by omega,by omega⟩,bA (by omega),⟨hv,ij.2 (by omega),ij.2 (by omega)⟩,⟨wY _,rfl⟩,λx y hx hy=>?_,λx hx hl=>?_⟩
 .have hy':(vf (cs,ns,os,fs,ls,ks) line time)[x]?=some y:=hy;obtain⟨y0,y1,yw⟩:=Ij (zJ hy);obtain⟨x1,x2⟩:=hx;refine⟨hl.2.1,hl.2.2,⟨hv,ij.2 (by omega),m0,(by show(aN (cs,ns,os,fs,ls,ks) line).2.2.2.1<1440;omega)⟩,λhlt=>⟨(qG.1 hy').1,?_⟩,λhge=>⟨bA (by omega),λhfar=>?_,λhnear=>?_⟩⟩
  .rw[wZ,hy',qBs,qAa,x2];show(true&&(decide (gU (cs,ns,os,fs,ls,ks) line y<time)&&true))=true;rw[qW (show gU (cs,ns,os,fs,ls,ks) line y<time from hlt)];rfl
  .have hf:gq (cs,ns,os,fs,ls,ks) line time=none:=by
    unfold gq;rw[FT (f:=gU (cs,ns,os,fs,ls,ks) line) hge hy' x2];show(if gU (cs,ns,os,fs,ls,ks) line y<time+86400 then some (gU (cs,ns,os,fs,ls,ks) line y)else none)=none
    rw[if_neg (show ¬gU (cs,ns,os,fs,ls,ks) line y<time+86400 from by have:gU (cs,ns,os,fs,ls,ks) line y≥time+86400:=hfar;omega)]
   unfold ng nh;rw[hf];exact⟨rfl,rfl⟩
  .have hf:gq (cs,ns,os,fs,ls,ks) line time=some (gU (cs,ns,os,fs,ls,ks) line y):=by
    unfold gq;rw[FT (f:=gU (cs,ns,os,fs,ls,ks) line) hge hy' x2];show(if gU (cs,ns,os,fs,ls,ks) line y<time+86400 then some (gU (cs,ns,os,fs,ls,ks) line y)else none)=_
    rw[if_pos (show gU (cs,ns,os,fs,ls,ks) line y<time+86400 from by have:¬gU (cs,ns,os,fs,ls,ks) line y≥time+86400:=hnear;omega)]
   unfold ng nh;rw[hf];exact⟨rfl,rfl⟩
 .obtain⟨x1,x2⟩:=hx;have hx':x=(vf (cs,ns,os,fs,ls,ks) line time).length:=hl;rw[hx',yI]at x2;have hf:gq (cs,ns,os,fs,ls,ks) line time=none:=by
   unfold gq;rw[Oq x2];rfl
  unfold ng nh;rw[hf];exact⟨rfl,rfl⟩
theorem aFE: al Tryz.prog G0 KT7:=aj (ag λ((cs,ns,os,fs,ls,ks),l,t,_)=>Xx l t cs ns os fs ls ks) aEW
end Go.Eng.Sv
set_option maxRecDepth 100000
noncomputable section
namespace Go.Eng.Sv
open Go.Proofs
def rN(a b:Int): Int:=if a<b then b else a
def KT8: Kt:=KT7
theorem gE(x:Int)(hvc:
 true/\(True->Ea x x=false/\True)):
  evF (mkc KT8) aA 287 [.dat I x] [] ⟨True,.dat .bool false,[]⟩:=oE hvc
def KT9: Kt:=kOr 287 (ay [.val I] (λ_=>True) λ_=>.dat .bool false) KT8
theorem Wy(x y:Int)(hvc:
 let c3:=false->false->false;let c1:=Eb false (Di false) false;let c2:=Di c1;true/\(True->True/\c3/\(false->True)/\c3/\(Dk true false->false)/\(c2->c2->c2)/\(c2->c2->c2)/\(Dk true c2->c2)/\Eb c1 true (Dp x y)=Dp x y/\True)):
  evF (mkc KT9) aA 258 [.dat I x,.dat I y] [] ⟨True,.dat .bool (Dp x y),[]⟩:=oE hvc
def aCz: Kt:=kOr 258 (ay [.val I,.val I] (λ_=>True) λ(x,y,_)=>.dat .bool (Dp x y)) KT9
theorem IB(x y:Int)(hvc:
 true/\(True->True/\(Dp x y->y=rN x y/\True)/\(Dp x y=false->x=rN x y/\True))):
  evF (mkc aCz) aA 211 [.dat I x,.dat I y] [] ⟨True,.dat I (rN x y),[]⟩:=oE hvc
def aER: Kt:=kOr 211 (ay [.val I,.val I] (λ_=>True) λ(x,y,_)=>.dat I (rN x y)) aCz
theorem lC(cs:LC)(ns os:LB)(fs:Lo)(ls:Ll)(ks:Lk){line time:Int}{ts:Li}(h:fx (cs,ns,os,fs,ls,ks) line ts=true)(ht:time∈ts): rc (cs,ns,os,fs,ls,ks) line time:=by
 unfold fx at h;rw[qC,qC]at h;obtain⟨⟨h1,h2⟩,h3⟩:=h;have h1:=vO h1;have hs:=((xb cs ns os fs ls ks).1 (wU.1 h3)).1;have ht':=vO (qL.1 h2 time ht);exact⟨⟨hs,h1.1,h1.2⟩,ht'.1,ht'.2⟩
theorem aEV: al Tryz.prog G0 KT8:=aFE
theorem aDo(x:Int): af Tryz.prog G0 287 [.dat I x] [] ⟨True,.dat .bool false,[]⟩:=
 ae (c:=mkc KT8) aEV aL hm (gE x ⟨rfl,λ_=>⟨by simp[Ea],trivial⟩⟩)
theorem aEU: al Tryz.prog G0 KT9:=aj (ag λ(x,_)=>aDo x) aEV
theorem aAn(x y:Int): af Tryz.prog G0 258 [.dat I x,.dat I y] [] ⟨True,.dat .bool (Dp x y),[]⟩:=by
 refine ae (c:=mkc KT9) aEU aL hm (Wy x y ⟨rfl,λ_=>?_⟩)
 exact⟨trivial,λh=>(by cases h),λ_=>trivial,λh=>(by cases h),λh=>(by cases h),λh _=>h,λh _=>h,λh=>h,rfl,trivial⟩
theorem aBS: al Tryz.prog G0 aCz:=aj (ag λ(x,y,_)=>aAn x y) aEU
theorem LW(x y:Int): af Tryz.prog G0 211 [.dat I x,.dat I y] [] ⟨True,.dat I (rN x y),[]⟩:=by
 refine ae (c:=mkc aCz) aBS aL hm (IB x y ⟨rfl,λ_=>⟨trivial,λh=>⟨?_,trivial⟩,λh=>⟨?_,trivial⟩⟩⟩)
 .unfold rN;rw[if_pos (vO h)]
 .unfold rN;rw[if_neg (qCn h)]
theorem aEj: al Tryz.prog G0 aER:=aj (ag λ(x,y,_)=>LW x y) aBS
end Go.Eng.Sv
set_option maxRecDepth 100000
noncomputable section
namespace Go.Eng.Sv
open Go.Proofs
def waitGo(n:Net)(line till:Int): Nat->Int->Int->Option Int
 | 0,_,m=>some m
 | k+1,t,m=>if t<till then(gq n line t).bind λu=>waitGo n line till k (u+1) (rN m (u-t))else some m
def As(n:Net)(line a b:Int): Option Int:=waitGo n line b (b-a).toNat a 0
def nO(n:Net)(line a b:Int): Bool:=fx n line [a,b]&&decide (a<b)&&decide (b<=a+86400)
def pg(n:Net)(line a b:Int): Int:=if nO n line a b then(As n line a b).getD 0 else 0
def ry(n:Net)(line a b:Int): Int:=if nO n line a b then(if(As n line a b).isSome then 0 else 20)else 1
def GH(n:Net)(line a b m t:Int): Prop:=nO n line a b=true/\a<=t/\t<=b+86400/\0<=m/\m<=86400/\waitGo n line b (b-t).toNat t m=As n line a b
def aCy: Kt:=aER
def aCL(n:Net)(line a b:Int): Ann:=⟨λid s=>match id with
 | 5=>some {α:=Int×Int,inv:=λx=>GH n line a b x.1 x.2,st:=λx=>put s [(10,.dat I x.1),(11,.dat I x.2)],μ:=λx=>Dc (Dh b x.2)}
 | _=>none,λ_ _=>none,λ_ _=>none⟩
theorem V9(line a b:Int)(cs:LC)(ns os:LB)(fs:Lo)(ls:Ll)(ks:Lk)(hvc:
 let c1:=[a,b];let c2:=(cs,ns,os,fs,ls,ks);let c3:=Di (fx c2 line c1);let c4:=Di c3;let c5:=Eb c3 true (Eh b a);let c6:=Di c5;let c16:=c6->c6->c6;let c7:=a+86400;let c8:=Eb c5 true (Ei b c7);let c9:=pg c2 line a b;let c10:=ry c2 line a b;true/\(True->JB c1/\(c4->c4->c4)/\(c4->c4->c4)/\(Dk true c4->c4)/\c16/\(c6->inR .i64 c7)/\c16/\c16/\(Dk true c6->c6)/\(c8->0=c9/\1=c10/\True)/\(c8=false->(∃(x:Int×Int),GH c2 line a b x.1 x.2/\line=line/\b=b/\c2=c2/\0=x.1/\a=x.2/\True)/\∀(x:Int×Int),let c11:=Dp x.2 b;let c12:=Di (nh c2 line x.2);let c13:=ng c2 line x.2;let c14:=c13-x.2;let c15:=c13+1;GH c2 line a b x.1 x.2->(c11->rc c2 line x.2/\(c12->0=c9/\20=c10/\True)/\(c12=false->inR .i64 c14/\True/\inR .i64 c15/\∃(y:Int×Int),GH c2 line a b y.1 y.2/\(line=line/\b=b/\c2=c2/\rN x.1 c14=y.1/\c15=y.2/\True)/\Dc (b-y.2)<Dc (b-x.2)))/\(c11=false->x.1=c9/\0=c10/\True)))):
  evF (mkr aCy λ_=>false) (lvA [(5,[1,3,4,8,9,10,11,12,13])] (aCL (cs,ns,os,fs,ls,ks) line a b)) 143 [net cs ns os fs ls ks,.dat I line,.dat I a,.dat I b] [] ⟨True,.tup [.dat I (pg (cs,ns,os,fs,ls,ks) line a b),.dat I (ry (cs,ns,os,fs,ls,ks) line a b)],[]⟩:=oE hvc
def aEQ: Kt:=kOr 143 (ay [.row N,.val I,.val I,.val I] (λ_=>True) λ(n,l,a,b,_)=>.tup [.dat I (pg n l a b),.dat I (ry n l a b)]) aCy
theorem aBR: al Tryz.prog G0 aCy:=aEj
theorem u7(cs:LC)(ns os:LB)(fs:Lo)(ls:Ll)(ks:Lk){line a b:Int}(h:fx (cs,ns,os,fs,ls,ks) line [a,b]=true): rc (cs,ns,os,fs,ls,ks) line a/\rc (cs,ns,os,fs,ls,ks) line b:=
 ⟨lC cs ns os fs ls ks h (by simp),lC cs ns os fs ls ks h (by simp)⟩
theorem l7{n:Net}{l t u:Int}(h:gq n l t=some u): t<=u/\u<t+86400:=by
 unfold gq at h;cases e:((vf n l t).map (gU n l)).find? (λv=>decide (t<=v))with
 | none=>rw[e]at h;cases h
 | some v=>
  rw[e]at h;have h1:=vO (List.find?_some (p:=λv=>decide (t<=v)) e)
  have h:(if v<t+86400 then some v else none)=some u:=h
  split at h
  .cases h;exact⟨h1,by assumption⟩
  .cases h
theorem r6{n:Net}{l b:Int}: ∀(k j:Nat) (t m:Int),(b-t).toNat<=k->(b-t).toNat<=j->waitGo n l b k t m=waitGo n l b j t m
 | 0,0,_,_,_,_=>rfl
 | 0,j+1,t,m,h,_=>by rw[waitGo,waitGo,if_neg (by omega)]
 | k+1,0,t,m,_,h=>by rw[waitGo,waitGo,if_neg (by omega)]
 | k+1,j+1,t,m,h1,h2=>by
  rw[waitGo,waitGo];by_cases g:t<b
  .rw[if_pos g,if_pos g];cases e:gq n l t with
   | none=>rfl
   | some u=>
    have:=l7 e;exact r6 k j (u+1) _ (by omega) (by omega)
  .rw[if_neg g,if_neg g]
theorem aAc(line a b:Int)(cs:LC)(ns os:LB)(fs:Lo)(ls:Ll)(ks:Lk): af Tryz.prog G0 143 [net cs ns os fs ls ks,.dat I line,.dat I a,.dat I b] [] ⟨True,.tup [.dat I (pg (cs,ns,os,fs,ls,ks) line a b),.dat I (ry (cs,ns,os,fs,ls,ks) line a b)],[]⟩:=by
 refine ae (c:=mkr aCy λ_=>false) aBR aB2 hm (V9 line a b cs ns os fs ls ks ⟨rfl,λ_=>?_⟩)
 simp only[qc,Dk,Di,qd,Dp,Ei,Eh,Dc];have h2:JB [a,b]:=(by show(2:Nat)<=1000000;decide)
 refine⟨h2,λ⟨hu,_⟩=>?_,λh=>?_,λ⟨⟨hu,hab⟩,hb⟩=>?_⟩
 .obtain⟨⟨_,a0,a1⟩,_⟩:=u7 cs ns os fs ls ks hu;exact bA (by omega)
 .have hn:nO (cs,ns,os,fs,ls,ks) line a b=false:=by
   unfold nO;rcases h with(h | h) | h
   .rw[h];rfl
   .rw[vK (show ¬a<b by omega),xX];rfl
   .rw[vK (show ¬b<=a+86400 by omega),xX]
  unfold pg ry;rw[hn];exact⟨rfl,rfl⟩
 .obtain⟨⟨hl,a0,a1⟩,_,b0,b1⟩:=u7 cs ns os fs ls ks hu;have hok:nO (cs,ns,os,fs,ls,ks) line a b=true:=by
   unfold nO;rw[hu,qW (show a<b by omega),qW (show b<=a+86400 by omega)];rfl
  refine⟨⟨(0,a),⟨hok,qM _,(by show a<=b+86400;omega),qM _,(by show(0:Int)<=86400;omega),rfl⟩,rfl,rfl⟩,λx=>?_⟩
  obtain⟨m,t⟩:=x;simp only;rintro⟨_,t0,t1,m0,m1,hw⟩;refine⟨λht=>?_,λht=>?_⟩
  .have hk:(b-t).toNat=(b-t).toNat-1+1:=by omega
   rw[hk,waitGo,if_pos ht]at hw;refine⟨⟨hl,by omega,by omega⟩,λhf=>?_,λhf=>?_⟩
   .have e:gq (cs,ns,os,fs,ls,ks) line t=none:=by
     unfold nh at hf;cases e:gq (cs,ns,os,fs,ls,ks) line t with
     | none=>rfl
     | some u=>rw[e]at hf;cases hf
    rw[e]at hw;have hw:As (cs,ns,os,fs,ls,ks) line a b=none:=hw.symm;unfold pg ry;rw[hok,hw];exact⟨rfl,rfl⟩
   .obtain⟨u,e⟩:∃u,gq (cs,ns,os,fs,ls,ks) line t=some u:=by
     unfold nh at hf;cases e:gq (cs,ns,os,fs,ls,ks) line t with
     | none=>rw[e]at hf;cases hf
     | some u=>exact⟨u,rfl⟩
    obtain⟨u0,u1⟩:=l7 e;have hd:ng (cs,ns,os,fs,ls,ks) line t=u:=by unfold ng;rw[e];rfl
    rw[e]at hw;have hw:waitGo (cs,ns,os,fs,ls,ks) line b ((b-t).toNat-1) (u+1) (rN m (u-t))=As (cs,ns,os,fs,ls,ks) line a b:=hw;have hmx:0<=rN m (u-t)/\rN m (u-t)<=86400:=by unfold rN;split<;>omega
    rw[hd];refine⟨bA (by omega),bA (by omega),(rN m (u-t),u+1),⟨hok,(by show a<=u+1;omega),(by show u+1<=b+86400;omega),hmx.1,hmx.2,?_⟩,⟨rfl,rfl⟩,(by show(b-(u+1)).toNat<_;omega)⟩
    rw[<- hw];exact r6 _ _ _ _ (qK _) (by show(b-(u+1)).toNat<=_;omega)
  .have hk:(b-t).toNat=0:=by omega
   rw[hk,waitGo]at hw;unfold pg ry;rw[hok,<- hw];exact⟨rfl,rfl⟩
theorem aEi: al Tryz.prog G0 aEQ:=aj (ag λ((cs,ns,os,fs,ls,ks),l,a,b,_)=>aAc l a b cs ns os fs ls ks) aBR
end Go.Eng.Sv
set_option maxRecDepth 100000
noncomputable section
namespace Go.Eng.Sv
open Go.Proofs
open Go.Eng.Mp (aK cq qf bz upto at2 oL jq jr xx)
def fS: Int:=-1099511627776
def aCh(a b:Int): Bool:=decide (0<=a)&&decide (a<b)&&decide (b<=2000000)&&decide (b<=a+86400)
def ix(n:Net)(a b:Int): Bool:=aCh a b&&bn n
def MO(n:Net)(a b:Int): Prop:=ix n a b=true
def td(n:Net)(o:Int): Off:=n.2.2.2.1.getD o.toNat (⟨#[]⟩,0,0,0,0,0,[])
def zy(n:Net)(a b i:Int): Int:=if ry n i a b=0 then pg n i a b+(aN n i).2.2.2.2.1+(td n (aN n i).2.2.1).2.2.2.2.1*(td n (aN n i).2.2.1).2.2.2.2.2.1 else fS
def fH(n:Net)(a b:Int): Li:=(List.range n.2.2.2.2.1.length).map λi:Nat=>zy n a b i
def gQ(n:Net)(a b k:Int): Li:=(fH n a b).take k.toNat++List.replicate (n.2.2.2.2.1.length-k.toNat) 0
def CO(n:Net)(a b k:Int): Prop:=ix n a b=true/\0<=k/\k<=n.2.2.2.2.1.length
def fZ(n:Net)(c:Li): Prop:=bn n=true/\c.length=n.2.2.2.2.1.length/\∀i:Int,0<=i->i<c.length->c.getD i.toNat 0=fS\/(0<c.getD i.toNat 0/\c.getD i.toNat 0<=1000000)
def ES(_ _:Int): Int:=fS
def aA6(_ _:Int): Prop:=True
def gk(ls:Ll)(c:Li): Nat->Int->Int->Int
 | 0,_,_=>fS
 | k+1,o,d=>if c.getD k 0≠fS/\(ls.getD k (⟨#[]⟩,0,0,0,0,0)).2.1=o/\(ls.getD k (⟨#[]⟩,0,0,0,0,0)).2.2.1=d then max (gk ls c k o d) (-(c.getD k 0))else gk ls c k o d
def aW(n:Net)(c:Li)(k:Int): Lj:=aK (gk n.2.2.2.2.1 c k.toNat) n.2.2.2.1.length
def jA(n:Net)(c:Li): Lj:=aW n c n.2.2.2.2.1.length
def NH(n:Net)(c:Li)(k:Int): Prop:=fZ n c/\0<=k/\k<=n.2.2.2.2.1.length
def PZ(e:Int)(s:Lj)(o d:Int): Int:=if e=0 then(if at2 s o d=fS then -1 else -(at2 s o d))else -1
def Gt(e:Int)(s:Lj)(o d:Int): Prop:=e=0->oL o d s/\(at2 s o d=fS\/(-1152921504606846976<=at2 s o d/\at2 s o d<=1152921504606846976))
def iJ(n:Net)(c:Li): Lj:=aK (PZ (jr (jA n c)) (jq (jA n c))) n.2.2.2.1.length
def qy(n:Net)(c:Li)(b:Lj)(o d i:Int): Bool:=decide ((aN n i).2.1=o)&&decide (c.getD i.toNat 0≠fS)&&decide (0<=at2 b (aN n i).2.2.1 d)&&decide (c.getD i.toNat 0+at2 b (aN n i).2.2.1 d=at2 b o d)
def uW(n:Net)(c:Li)(b:Lj)(o d:Int): Int:=match(List.range n.2.2.2.2.1.length).find? λi:Nat=>qy n c b o d i with
 | some i=>i
 | none=>-1
def O1(n:Net)(b:Lj): Prop:=∀o d:Int,0<=o->o<n.2.2.2.1.length->0<=d->d<n.2.2.2.1.length->oL o d b/\-1152921504606846976<=at2 b o d/\at2 b o d<=1152921504606846976
def uB(n:Net)(c:Li)(b:Lj)(o d:Int): Prop:=fZ n c/\O1 n b/\0<=o/\o<n.2.2.2.1.length/\0<=d/\d<n.2.2.2.1.length
def uA(n:Net)(c:Li)(b:Lj)(o d k:Int): Prop:=uB n c b o d/\0<=k/\k<=n.2.2.2.2.1.length/\(List.range k.toNat).all (λi:Nat=>!qy n c b o d i)=true
def tn(n:Net)(c:Li)(b:Lj)(o d:Int): Int:=if o=d\/at2 b o d<0 then -1 else uW n c b o d
def Yh(n:Net)(c:Li): Lj:=aK (tn n c (iJ n c)) n.2.2.2.1.length
def jw(n:Net)(a b:Int): Lj:=if ix n a b then Yh n (fH n a b)else[]
def KQ0: Kt:=kOr 145 (ay [.val M] (λ(m,_)=>xx m) λ(m,_)=>.tup [.dat M (jq m),.dat I (jr m)]) aEQ
theorem Wj(a b:Int)(cs:LC)(ns os:LB)(fs:Lo)(ls:Ll)(ks:Lk)(hvc:
 let c1:=Dp a 0;let c2:=Di c1;let c3:=Eb c1 true (Eh b a);let c4:=Di c3;let c5:=Eb c3 true (Ei b 2000000);let c6:=Di c5;let c10:=c6->c6->c6;let c7:=Eb c5 true (Ei (b-a) 86400);let c8:=(cs,ns,os,fs,ls,ks);let c9:=ix c8 a b;true/\(True->(c2->c2->c2)/\(c2->c2->c2)/\(Dk true c2->c2)/\(c4->c4->c4)/\(Dk true c4->c4)/\c10/\c10/\(c6->inR .i64 (b-a))/\c10/\(Dk true c6->c6)/\(c7->false=c9/\True)/\(c7=false->True/\Dy (Df (fm c8)) 0=c9/\True))):
  evF (mkc KQ0) aA 72 [net cs ns os fs ls ks,.dat I a,.dat I b] [] ⟨True,.dat .bool (ix (cs,ns,os,fs,ls,ks) a b),[]⟩:=oE hvc
def aBx(n:Net)(a b:Int): Ann:=⟨λid s=>match id with
 | 3=>match s.sig.T 16 with
  | .buf nm _=>some {α:=Int,inv:=λk=>CO n a b k,st:=λk=>iM (put s [(20,.dat I k)]) nm (.buf 3 I (gQ n a b k) []),μ:=λk=>Dc (Dh (Df n.2.2.2.2.1) k)}
  | _=>none
 | _=>none,λ_ _=>none,λ_ _=>none⟩
theorem QX(a b:Int)(cs:LC)(ns os:LB)(fs:Lo)(ls:Ll)(ks:Lk)(hvc:
 let c1:=(cs,ns,os,fs,ls,ks);let c2:=Df ls;let c3:=Dc c2;true/\(MO c1 a b->0<=c2/\(Dx (8)*c2)<=281474976710656/\c2<=9223372036854775807/\(∃x,CO c1 a b x/\a=a/\b=b/\c1=c1/\Value.slice none (0) (0)=Value.slice none (0) (0)/\c3=c3/\ls=ls/\c2=c2/\0=x/\Ep c2 (0:Int)=gQ c1 a b x/\True)/\∀(x:Int),let c6:=Ea (ry c1 x a b) 0;let c7:=gQ c1 a b x;let c8:=Dj c7;let c9:=x+1;let c10:=(Du ls (Dc x) (ByteArray.mk #[],(0:Int),(0:Int),(0:Int),(0:Int),(0:Int))).2.2;let c12:=pg c1 x a b+c10.2.2.1;let c13:=(Du fs (Dc c10.1) (ByteArray.mk #[],(0:Int),(0:Int),(0:Int),(0:Int),(0:Int),Dt ByteArray)).2.2.2.2;let c14:=c13.1*c13.2.1;let c15:=c12+c14;CO c1 a b x->(Dp x c2->0<=x/\x<c2/\1=1/\0=0/\True/\(c6->c8=c3/\0<=x/\x<Dx c8/\c8=c3/\inR .i64 c9/\∃y,CO c1 a b y/\(a=a/\b=b/\c1=c1/\Value.slice none (0) (0)=Value.slice none (0) (0)/\c3=c3/\ls=ls/\c2=c2/\c9=y/\En c7 (Dc x) (-1099511627776)=gQ c1 a b y/\True)/\Dc (c2-y)<Dc (c2-x))/\(c6=false->1=1/\1=1/\0=0/\0<=c10.1/\c10.1<Df fs/\1=1/\0=0/\1=1/\1=1/\0=0/\inR .i64 c12/\1=1/\1=1/\0=0/\1=1/\1=1/\0=0/\inR .i64 c14/\inR .i64 c15/\c8=c3/\0<=x/\x<Dx c8/\c8=c3/\inR .i64 c9/\∃y,CO c1 a b y/\(a=a/\b=b/\c1=c1/\Value.slice none (0) (0)=Value.slice none (0) (0)/\c3=c3/\ls=ls/\c2=c2/\c9=y/\En c7 (Dc x) c15=gQ c1 a b y/\True)/\Dc (c2-y)<Dc (c2-x)))/\(Dp x c2=false->c8=c3/\c7=fH c1 a b/\True))):
  evF (mkc KQ0) (lvA [(3,[1,2,3,6,7,8,9,10,11,12,18,19,20])] (aBx (cs,ns,os,fs,ls,ks) a b)) 73 [net cs ns os fs ls ks,.dat I a,.dat I b] [] ⟨MO (cs,ns,os,fs,ls,ks) a b,.dat R (fH (cs,ns,os,fs,ls,ks) a b),[]⟩:=oE hvc
def xS(n:Int)(g:Int->Int->Int): Ann:=⟨λid s=>match id with
 | 3=>match s.sig.T 11 with
  | .buf nm _=>some {α:=Int,inv:=λk=>upto k n,st:=λk=>iM (put s [(14,.dat I k),(5,.buf nm (Dc n))]) nm (.buf 36 R (cq g n k) []),μ:=λk=>Dc (Dh n k)}
  | _=>none
 | 7=>match s.sig.T 6,s.sig.T 22 with
  | .dat (.int .i64) i,.buf nm _=>some {α:=Int,inv:=λk=>upto k n,st:=λk=>iM (put s [(29,.dat I k)]) nm (.buf 3 I (qf g n i k) []),μ:=λk=>Dc (Dh n k)}
  | _,_=>none
 | _=>none,λ_ _=>none,λ_ _=>none⟩
theorem Qm(preT:Int->Int->Prop)(g:Int->Int->Int)(cs:LC)(ns os:LB)(fs:Lo)(ls:Ll)(ks:Lk)(hvc:
 let c12:=Ty.int IntKind.i64;let c1:=Df fs;let c2:=Ep c1 (Dt Int);let c3:=Dc c1;let c4:=(cs,ns,os,fs,ls,ks);let c5:=Int.ofNat c3;let c6:=Ep c1 (0:Int);true/\(bz c1 preT->0<=c1/\(Dx (24)*c1)<=281474976710656/\c1<=9223372036854775807/\Dj c2=c3/\(∃x,upto x c1/\AV.clo2 c12 c12 c12 preT g=AV.clo2 c12 c12 c12 preT g/\c4=c4/\Value.slice none (0) (0)=Value.slice none (0) (0)/\c3=c3/\c5=c5/\0=x/\c2=cq g c1 x/\True)/\∀(x:Int),let c7:=Dj (cq g c1 x);let c8:=x+1;upto x c1->(Dp x c5->0<=c1/\(Dx (8)*c1)<=281474976710656/\c1<=9223372036854775807/\c7=c3/\0<=x/\x<Dx c7/\c7=c3/\Dj c6=c3/\c7=c3/\0<=x/\x<Dx c7/\c7=c3/\Dc x=Dc x/\Dj c6=c3/\(∃x_3,upto x_3 c1/\AV.clo2 c12 c12 c12 preT g=AV.clo2 c12 c12 c12 preT g/\c4=c4/\Value.slice none (0) (0)=Value.slice none (0) (0)/\c3=c3/\x=x/\c5=c5/\x=x/\c5=c5/\0=x_3/\cq g c1 x=cq g c1 x/\Dc x=Dc x/\c3=c3/\c6=qf g c1 x x_3/\True)/\∀(x_3:Int),let c9:=qf g c1 x x_3;let c10:=Dj c9;let c11:=x_3+1;
 upto x_3 c1->(Dp x_3 c5->c7=c3/\0<=x/\x<Dx c7/\c7=c3/\Dc x=Dc x/\preT x x_3/\c10=c3/\0<=x_3/\x_3<Dx c10/\c10=c3/\inR .i64 c11/\∃y,upto y c1/\(AV.clo2 c12 c12 c12 preT g=AV.clo2 c12 c12 c12 preT g/\c4=c4/\Value.slice none (0) (0)=Value.slice none (0) (0)/\c3=c3/\x=x/\c5=c5/\x=x/\c5=c5/\c11=y/\cq g c1 x=cq g c1 x/\Dc x=Dc x/\c3=c3/\En c9 (Dc x_3) (g x x_3)=qf g c1 x y/\True)/\Dc (c1-y)<Dc (c1-x_3))/\(Dp x_3 c5=false->inR .i64 c8/\∃y,upto y c1/\(AV.clo2 c12 c12 c12 preT g=AV.clo2 c12 c12 c12 preT g/\c4=c4/\Value.slice none (0) (0)=Value.slice none (0) (0)/\c3=c3/\c5=c5/\c8=y/\c10=c3/\En (cq g c1 x) (Dc x) c9=cq g c1 y/\True)/\Dc (c1-y)<Dc (c1-x)))/\(Dp x c5=false->c7=c3/\cq g c1 x=aK g c1/\True))):
  evF (mkc KQ0) (lvA [(3,[1,2,4,5,6,7,13,14,28,29]),(7,[1,2,4,5,6,7,13,14,28,29])] (xS (Df fs) g)) 75 [net cs ns os fs ls ks,.clo2 I I I preT g] [] ⟨bz (Df fs) preT,.dat M (aK g (Df fs)),[]⟩:=oE hvc
def xD(n:Int)(g:Int->Int->Int): Ann:=⟨λid s=>match id with
 | 3=>match s.sig.T 11 with
  | .buf nm _=>some {α:=Int,inv:=λk=>upto k n,st:=λk=>iM (put s [(14,.dat I k),(5,.buf nm (Dc n))]) nm (.mat 36 3 I (cq g n k) []),μ:=λk=>Dc (Dh n k)}
  | _=>none
 | 7=>match s.sig.T 6,s.sig.T 22 with
  | .dat (.int .i64) i,.buf nm _=>some {α:=Int,inv:=λk=>upto k n,st:=λk=>iM (put s [(29,.dat I k)]) nm (.buf 3 I (qf g n i k) []),μ:=λk=>Dc (Dh n k)}
  | _,_=>none
 | _=>none,λ_ _=>none,λ_ _=>none⟩
theorem KC(preT:Int->Int->Prop)(g:Int->Int->Int)(cs:LC)(ns os:LB)(fs:Lo)(ls:Ll)(ks:Lk)(hvc:
 let c13:=Ty.int IntKind.i64;let c1:=Df fs;let c2:=Ep c1 (Dt Int);let c3:=Dc c1;let c4:=(cs,ns,os,fs,ls,ks);let c5:=Int.ofNat c3;let c6:=Ep c1 (0:Int);let c7:=aK g c1;true/\(bz c1 preT->0<=c1/\(Dx (24)*c1)<=281474976710656/\c1<=9223372036854775807/\Dj c2=c3/\(∃x,upto x c1/\AV.clo2 c13 c13 c13 preT g=AV.clo2 c13 c13 c13 preT g/\c4=c4/\Value.slice none (0) (0)=Value.slice none (0) (0)/\c3=c3/\c5=c5/\0=x/\c2=cq g c1 x/\Fb (cq g c1 x)/\True)/\∀(x:Int),let c8:=Dj (cq g c1 x);let c9:=x+1;upto x c1->(Dp x c5->0<=c1/\(Dx (8)*c1)<=281474976710656/\c1<=9223372036854775807/\c8=c3/\0<=x/\x<Dx c8/\c8=c3/\Dj c6=c3/\c8=c3/\0<=x/\x<Dx c8/\c8=c3/\Dc x=Dc x/\Dj c6=c3/\(∃x_3,upto x_3 c1/\AV.clo2 c13 c13 c13 preT g=AV.clo2 c13 c13 c13 preT g/\c4=c4/\Value.slice none (0) (0)=Value.slice none (0) (0)/\c3=c3/\x=x/\c5=c5/\x=x/\c5=c5/\0=x_3/\cq g c1 x=cq g c1 x/\Dc x=Dc x/\c3=c3/\c6=qf g c1 x x_3/\True)/\∀(x_3:Int),let c10:=qf g c1 x x_3;let c11:=Dj c10;let c12:=x_3+1;
 upto x_3 c1->(Dp x_3 c5->c8=c3/\0<=x/\x<Dx c8/\c8=c3/\Dc x=Dc x/\preT x x_3/\c11=c3/\0<=x_3/\x_3<Dx c11/\c11=c3/\inR .i64 c12/\∃y,upto y c1/\(AV.clo2 c13 c13 c13 preT g=AV.clo2 c13 c13 c13 preT g/\c4=c4/\Value.slice none (0) (0)=Value.slice none (0) (0)/\c3=c3/\x=x/\c5=c5/\x=x/\c5=c5/\c12=y/\cq g c1 x=cq g c1 x/\Dc x=Dc x/\c3=c3/\En c10 (Dc x_3) (g x x_3)=qf g c1 x y/\True)/\Dc (c1-y)<Dc (c1-x_3))/\(Dp x_3 c5=false->inR .i64 c9/\∃y,upto y c1/\(AV.clo2 c13 c13 c13 preT g=AV.clo2 c13 c13 c13 preT g/\c4=c4/\Value.slice none (0) (0)=Value.slice none (0) (0)/\c3=c3/\c5=c5/\c9=y/\Dj c10=c3/\En (cq g c1 x) (Dc x) c10=cq g c1 y/\True)/\Dc (c1-y)<Dc (c1-x)))/\(Dp x c5=false->c3=Dj c7/\cq g c1 x=c7/\True))):
  evF (mkc KQ0) (lvA [(3,[1,2,4,5,6,7,13,14,28,29]),(7,[1,2,4,5,6,7,13,14,28,29])] (xD (Df fs) g)) 75 [net cs ns os fs ls ks,.clo2 I I I preT g] [] ⟨bz (Df fs) preT,.buf 0 (Dj (aK g (Df fs))),[(0,.mat 36 3 I (aK g (Df fs)) [])]⟩:=oE hvc
theorem IG(o d:Int)(hvc:
 true/\(aA6 o d->(-1099511627776:Int)=ES o d/\True)):
  evF (mkc KQ0) aA 144 [.dat I o,.dat I d] [] ⟨aA6 o d,.dat I (ES o d),[]⟩:=oE hvc
theorem IE(e:Int)(s:Lj)(o d:Int)(hvc:
 let c1:=Ea e 0;let c2:=Di c1;let c8:=c2->c2->c2;let c3:=Du s (Dc o) [];let c4:=Du c3 (Dc d) 0;let c5:=Eb c1 true (Dy c4 (-1099511627776));let c6:=PZ e s o d;let c7:=Fh c4;true/\(Gt e s o d->c8/\c8/\(c2->0<=o)/\(c2->o<Df s)/\c8/\c8/\c8/\(c2->0<=d)/\(c2->d<Df c3)/\c8/\c8/\(Dk true c2->c2)/\(c5->(-1:Int)=c6/\True)/\(c5=false->0<=o/\o<Df s/\0<=d/\d<Df c3/\inR IntKind.i64 c7/\c7=c6/\True))):
  evF (mkc KQ0) aA 146 [.dat I o,.dat I d,.ip I e,.ip M s] [] ⟨Gt e s o d,.dat I (PZ e s o d),[]⟩:=oE hvc
def Lx(args:List AV)(m:Mem): Option jO:=match m,args with
 | [],[.agg [.dat (.sl (.pair (.int .i64) (.pair (.sl .bool) (.sl (.int .i64))))) cs,.dat (.sl .str) ns,.dat (.sl .str) os,.dat (.sl (.pair .str (.pair (.int .i64) (.pair (.int .i64) (.pair (.int .i64) (.pair (.int .i64) (.pair (.int .i64) (.sl .str)))))))) fs,.dat (.sl (.pair .str (.pair (.int .i64) (.pair (.int .i64) (.pair (.int .i64) (.pair (.int .i64) (.int .i64))))))) ls,.dat (.sl (.pair .str (.pair (.int .i64) (.int .i64)))) ks],.fn 144 []]=>some ⟨bz (Df fs) aA6,.buf 0 (Dj (aK ES (Df fs))),[(0,.mat 36 3 I (aK ES (Df fs)) [])]⟩
 | [],[.agg [.dat (.sl (.pair (.int .i64) (.pair (.sl .bool) (.sl (.int .i64))))) cs,.dat (.sl .str) ns,.dat (.sl .str) os,.dat (.sl (.pair .str (.pair (.int .i64) (.pair (.int .i64) (.pair (.int .i64) (.pair (.int .i64) (.pair (.int .i64) (.sl .str)))))))) fs,.dat (.sl (.pair .str (.pair (.int .i64) (.pair (.int .i64) (.pair (.int .i64) (.pair (.int .i64) (.int .i64))))))) ls,.dat (.sl (.pair .str (.pair (.int .i64) (.int .i64)))) ks],.fn 146 [.ip (.int .i64) e,.ip (.sl (.sl (.int .i64))) s]]=>some ⟨bz (Df fs) (Gt e s),.dat M (aK (PZ e s) (Df fs)),[]⟩
 | _,_=>none
def KQ1: Kt:=kOr 75 Lx <|
 kOr 72 (ay [.row N,.val I,.val I] (λ_=>True) λ(n,a,b,_)=>.dat .bool (ix n a b)) <|
 kOr 73 (ay [.row N,.val I,.val I] (λ(n,a,b,_)=>MO n a b) λ(n,a,b,_)=>.dat R (fH n a b)) KQ0
def Tz(s:St): List Nat:=s.mem.filterMap λp=>match p.2 with
 | .mat _ _ _ _ _=>some p.1
 | _=>none
def YZ(n:Net)(c:Li): Ann:=⟨λid s=>match id with
 | 3=>match s.sig.T 11 with
  | .buf nm _=>some {α:=Int,inv:=λk=>NH n c k,st:=λk=>iM (put s [(15,.dat I k)]) nm (.mat 36 3 I (aW n c k) []),μ:=λk=>Dc (Dh (Df n.2.2.2.2.1) k)}
  | _=>none
 | _=>none,λid s=>match id with
 | 8=>some (frz (Tz s) s)
 | 9=>some (frz (allNames s) s)
 | _=>none,λ_ _=>none⟩
theorem Iq(c:Li)(cs:LC)(ns os:LB)(fs:Lo)(ls:Ll)(ks:Lk)(hvc:
 let c1:=(cs,ns,os,fs,ls,ks);let c2:=Df fs;let c3:=aK ES c2;let c4:=Dj c3;let c5:=Df ls;true/\(fZ c1 c->bz c2 aA6/\(∃x,NH c1 c x/\c=c/\c1=c1/\Value.slice none (0) (0)=Value.slice none (0) (0)/\c4=c4/\ls=ls/\c5=c5/\0=x/\c3=aW c1 c x/\True)/\∀(x:Int),let c7:=Du c (Dc x) 0;let c8:=Ea c7 (-1099511627776);let c9:=Dj (aW c1 c x);let c10:=(Du ls (Dc x) (ByteArray.mk #[],(0:Int),(0:Int),(0:Int),(0:Int),(0:Int))).2;let c13:=Dc c10.1;let c14:=Du (aW c1 c x) c13 [];let c15:=Dj c14;let c16:=Fh c7;let c17:=x+1;let c18:=Dc c10.2.1;let c19:=jq (aW c1 c x);let c20:=jr (aW c1 c x);
 NH c1 c x->(Dp x c5->0<=x/\x<c5/\1=1/\0=0/\0<=x/\x<Df c/\(c8->1=1/\1=1/\0=0/\c9=c4/\0<=c10.1/\c10.1<Dx c9/\c9=c4/\1=1/\1=1/\0=0/\1=1/\1=1/\0=0/\c9=c4/\0<=c10.1/\c10.1<Dx c9/\c9=c4/\1=1/\1=1/\0=0/\c9=c4/\0<=c10.2.1/\c10.2.1<Dx c15/\c9=c4/\c15=c15/\0<=x/\x<Df c/\inR .i64 c16/\c9=c4/\0<=c10.2.1/\c10.2.1<Dx c15/\c9=c4/\c15=c15/\inR .i64 c17/\∃y,NH c1 c y/\(c=c/\c1=c1/\Value.slice none (0) (0)=Value.slice none (0) (0)/\c4=c4/\ls=ls/\c5=c5/\c17=y/\En (aW c1 c x) c13 (En c14 c18 (Ez (Du c14 c18 0) c16))=aW c1 c y/\True)/\Dc (c5-y)<Dc (c5-x))/\(c8=false->inR IntKind.i64 c17/\∃y,NH c1 c y/\(c=c/\c1=c1/\Value.slice none (0) (0)=Value.slice none (0) (0)/\c4=c4/\ls=ls/\c5=c5/\c17=y/\aW c1 c x=aW c1 c y/\True)/\Dc (c5-y)<Dc (c5-x)))/\(Dp x c5=false->c=c/\c1=c1/\Value.slice none (0) (0)=Value.slice none (0) (0)/\Dj (aW c1 c x)=c4/\aW c1 c x=aW c1 c x/\ls=ls/\c5=c5/\x=x/\Dp x c5=Dp x c5/\xx (aW c1 c x)/\1=1/\0=0/\1=1/\0=0/\c=c/\c1=c1/\Value.slice none (0) (0)=Value.slice none (0) (0)/\aW c1 c x=aW c1 c x/\1=1/\0=0/\c19=c19/\1=1/\0=0/\c20=c20/\ls=ls/\c5=c5/\x=x/\Dp x c5=Dp x c5/\c19=c19/\c20=c20/\aW c1 c x=aW c1 c x/\c19=c19/\c20=c20/\c19=c19/\c20=c20/\bz c2 (Gt c20 c19)/\aK (PZ c20 c19) c2=iJ c1 c/\True))):
  evF (mkc KQ1) (lvA [(3,[1,2,4,5,6,7,8,9,13,14,15])] (YZ (cs,ns,os,fs,ls,ks) c)) 74 [net cs ns os fs ls ks,.dat R c] [] ⟨fZ (cs,ns,os,fs,ls,ks) c,.dat M (iJ (cs,ns,os,fs,ls,ks) c),[]⟩:=oE hvc
def aEb(n:Net)(c:Li)(b:Lj)(o d:Int): Ann:=⟨λid s=>match id with
 | 3=>some {α:=Int,inv:=λk=>uA n c b o d k,st:=λk=>put s [(17,.dat I k),(11,.dat I (-1))],μ:=λk=>Dc (Dh (Df n.2.2.2.2.1) k)}
 | _=>none,λ_ _=>none,λ_ _=>none⟩
theorem WT(c:Li)(b:Lj)(o d:Int)(cs:LC)(ns os:LB)(fs:Lo)(ls:Ll)(ks:Lk)(hvc:
 let c1:=(cs,ns,os,fs,ls,ks);let c2:=Df ls;let c4:=Du b (Dc o) [];let c5:=uW c1 c b o d;true/\(uB c1 c b o d->(∃x,uA c1 c b o d x/\c=c/\b=b/\o=o/\d=d/\(0:Int)=(0:Int)/\(-1:Int)=(-1:Int)/\ls=ls/\c2=c2/\0=x/\True)/\∀(x:Int),let c6:=(Du ls (Dc x) (ByteArray.mk #[],(0:Int),(0:Int),(0:Int),(0:Int),(0:Int))).2;let c7:=Ea c6.1 o;let c8:=Di c7;let c12:=c8->c8->c8;let c9:=Du c (Dc x) 0;let c10:=Eb c7 true (Dy c9 (-1099511627776));let c11:=Di c10;let c3:=c11->c11->c11;let c13:=Du b (Dc c6.2.1) [];let c14:=Du c13 (Dc d) 0;let c15:=Eb c10 true (Dp c14 0);let c16:=x+1;let c17:=c9+c14;let c18:=Dy c17 (Du c4 (Dc d) 0);uA c1 c b o d x->(Dp x c2->0<=x/\x<c2/\1=1/\0=0/\1=1/\1=1/\0=0/\c12/\c12/\(c8->0<=x)/\(c8->x<Df c)/\c12/\c12/\(Dk true c8->c8)/\(c11->1=1)/\c3/\(c11->1=1)/\(c11->0=0)/\c3/\c3/\(c11->0<=c6.2.1)/\(c11->c6.2.1<Df b)/\c3/\c3/\c3/\(c11->0<=d)/\(c11->d<Df c13)/\c3/\c3/\(Dk true c11->c11)/\(c15->inR .i64 c16/\∃y,uA c1 c b o d y/\(c=c/\b=b/\o=o/\d=d/\(0:Int)=(0:Int)/\(-1:Int)=(-1:Int)/\ls=ls/\c2=c2/\c16=y/\True)/\Dc (c2-y)<Dc (c2-x))/\(c15=false->0<=x/\x<Df c/\1=1/\1=1/\0=0/\0<=c6.2.1/\c6.2.1<Df b/\0<=d/\d<Df c13/\inR IntKind.i64 c17/\0<=o/\o<Df b/\0<=d/\d<Df c4/\(c18->x=c5/\True)/\(c18=false->inR IntKind.i64 c16/\∃y,uA c1 c b o d y/\(c=c/\b=b/\o=o/\d=d/\(0:Int)=(0:Int)/\(-1:Int)=(-1:Int)/\ls=ls/\c2=c2/\c16=y/\True)/\Dc (c2-y)<Dc (c2-x))))/\(Dp x c2=false->(-1:Int)=c5/\True))):
  evF (mkc KQ1) (lvA [(3,[1,2,3,4,10,11,12,13,15,16,17])] (aEb (cs,ns,os,fs,ls,ks) c b o d)) 77 [net cs ns os fs ls ks,.dat R c,.dat M b,.dat I o,.dat I d] [] ⟨uB (cs,ns,os,fs,ls,ks) c b o d,.dat I (uW (cs,ns,os,fs,ls,ks) c b o d),[]⟩:=oE hvc
def KQ2: Kt:=kOr 74 (ay [.row N,.val R] (λ(n,c,_)=>fZ n c) λ(n,c,_)=>.dat M (iJ n c)) <|
 kOr 77 (ay [.row N,.val R,.val M,.val I,.val I] (λ(n,c,b,o,d,_)=>uB n c b o d) λ(n,c,b,o,d,_)=>.dat I (uW n c b o d)) KQ1
theorem QF(b:Lj)(c:Li)(o d:Int)(cs:LC)(ns os:LB)(fs:Lo)(ls:Ll)(ks:Lk)(hvc:
 let c6:=Dy o d;let c5:=Di c6->Di c6->Di c6;let c1:=(cs,ns,os,fs,ls,ks);let c2:=Du b (Dc o) [];let c3:=Eb c6 true (Dp (Du c2 (Dc d) 0) 0);let c4:=tn c1 c b o d;true/\(uB c1 c b o d->c5/\c5/\(Di c6->0<=o)/\(Di c6->o<Df b)/\c5/\c5/\c5/\(Di c6->0<=d)/\(Di c6->d<Df c2)/\c5/\c5/\(Dk true (Di c6)->Di c6)/\(c3->(-1:Int)=c4/\True)/\(c3=false->uB c1 c b o d/\uW c1 c b o d=c4/\True))):
  evF (mkc KQ2) aA 76 [.dat I o,.dat I d,.ip M b,.ip N (cs,ns,os,fs,ls,ks),.ip R c] [] ⟨uB (cs,ns,os,fs,ls,ks) c b o d,.dat I (tn (cs,ns,os,fs,ls,ks) c b o d),[]⟩:=oE hvc
def KQ3: Kt:=kOr 75 (λargs m=>match m,args with
 | [],[.agg [.dat (.sl (.pair (.int .i64) (.pair (.sl .bool) (.sl (.int .i64))))) cs,.dat (.sl .str) ns,.dat (.sl .str) os,.dat (.sl (.pair .str (.pair (.int .i64) (.pair (.int .i64) (.pair (.int .i64) (.pair (.int .i64) (.pair (.int .i64) (.sl .str)))))))) fs,.dat (.sl (.pair .str (.pair (.int .i64) (.pair (.int .i64) (.pair (.int .i64) (.pair (.int .i64) (.int .i64))))))) ls,.dat (.sl (.pair .str (.pair (.int .i64) (.int .i64)))) ks],.fn 76 [.ip (.sl (.sl (.int .i64))) b,.ip (.pair (.sl (.pair (.int .i64) (.pair (.sl .bool) (.sl (.int .i64))))) (.pair (.sl .str) (.pair (.sl .str) (.pair (.sl (.pair .str (.pair (.int .i64) (.pair (.int .i64) (.pair (.int .i64) (.pair (.int .i64) (.pair (.int .i64) (.sl .str)))))))) (.pair (.sl (.pair .str (.pair (.int .i64) (.pair (.int .i64) (.pair (.int .i64) (.pair (.int .i64) (.int .i64))))))) (.sl (.pair .str (.pair (.int .i64) (.int .i64))))))))) n,.ip (.sl (.int .i64)) c]]=>some ⟨bz (Df fs) (uB n c b),.dat M (aK (tn n c b) (Df fs)),[]⟩
 | _,_=>none) KQ2
def aAW: Ann:=⟨λ_ _=>none,λid s=>match id with
 | 5=>some (frz (allNames s) s)
 | _=>none,λ_ _=>none⟩
theorem Qu(a b:Int)(cs:LC)(ns os:LB)(fs:Lo)(ls:Ll)(ks:Lk)(hvc:
 let c1:=(cs,ns,os,fs,ls,ks);let c2:=ix c1 a b;let c3:=Di c2;let c4:=jw c1 a b;let c5:=fH c1 a b;let c6:=iJ c1 c5;let c7:=Df fs;true/\(True->True/\(c3->c4=Dt (Li)/\True)/\(c3=false->MO c1 a b/\1=1/\0=0/\1=1/\0=0/\fZ c1 c5/\1=1/\0=0/\cs=cs/\ns=ns/\os=os/\fs=fs/\ls=ls/\ks=ks/\a=a/\b=b/\c1=c1/\Value.slice none (0) (0)=Value.slice none (0) (0)/\1=1/\0=0/\c5=c5/\1=1/\0=0/\c6=c6/\cs=cs/\ns=ns/\os=os/\fs=fs/\ls=ls/\ks=ks/\a=a/\b=b/\c2=c2/\c3=c3/\cs=cs/\ns=ns/\os=os/\fs=fs/\ls=ls/\ks=ks/\a=a/\b=b/\c5=c5/\cs=cs/\ns=ns/\os=os/\fs=fs/\ls=ls/\ks=ks/\c5=c5/\c6=c6/\bz c7 (uB c1 c5 c6)/\aK (tn c1 c5 c6) c7=c4/\True))):
  evF (mkc KQ3) aAW 23 [net cs ns os fs ls ks,.dat I a,.dat I b] [] ⟨True,.dat M (jw (cs,ns,os,fs,ls,ks) a b),[]⟩:=oE hvc
theorem nC(cs:LC)(ns os:LB)(fs:Lo)(ls:Ll)(ks:Lk)(line:Int): ls.getD line.toNat (⟨#[]⟩,0,0,0,0,0)=aN (cs,ns,os,fs,ls,ks) line:=rfl
def atOk(n:Net)(l:Int): Prop:=0<=(aN n l).2.2.2.1/\(aN n l).2.2.2.1<=1439
theorem Yn(cs:LC)(ns os:LB)(fs:Lo)(ls:Ll)(ks:Lk){line:Int}(h:BO (cs,ns,os,fs,ls,ks) line): atOk (cs,ns,os,fs,ls,ks) line:=by
 obtain⟨_,_,_,_,_,m0,m1⟩:=OU cs ns os fs ls ks h;exact⟨m0,m1⟩
theorem u5{n:Net}{l b:Int}: ∀(k:Nat) (t m w:Int),0<=m->m<=86400->waitGo n l b k t m=some w->0<=w/\w<=86400
 | 0,t,m,w,h0,h1,h=>by rw[waitGo]at h;cases h;exact⟨h0,h1⟩
 | k+1,t,m,w,h0,h1,h=>by
  rw[waitGo]at h;split at h
  .cases e:gq n l t with
   | none=>rw[e]at h;cases h
   | some u=>
    rw[e]at h;have:=l7 e;exact u5 k (u+1) (rN m (u-t)) w (by unfold rN;split<;>omega) (by unfold rN;split<;>omega) h
  .cases h;exact⟨h0,h1⟩
theorem Zb: al Tryz.prog G0 KQ0:=aj (ag λ(m,_)=>Mp.aAH m) aEi
theorem sQ{a b:Int}: aCh a b=true↔0<=a/\a<b/\b<=2000000/\b<=a+86400:=by
 unfold aCh;simp only[qC,qE,qDg]
theorem AW{n:Net}: bn n=decide (((fm n).length:Int)=0):=by
 unfold bn;cases fm n with
 | nil=>rfl
 | cons a l=>
  symm
  show decide _=false;rw[vW,wS];omega
theorem rK{n:Net}{a b:Int}: ix n a b=true↔(0<=a/\a<b/\b<=2000000/\b<=a+86400)/\bn n=true:=by
 unfold ix;rw[qC,sQ]
theorem aAg(a b:Int)(cs:LC)(ns os:LB)(fs:Lo)(ls:Ll)(ks:Lk): af Tryz.prog G0 72 [net cs ns os fs ls ks,.dat I a,.dat I b] [] ⟨True,.dat .bool (ix (cs,ns,os,fs,ls,ks) a b),[]⟩:=by
 refine ae (c:=mkc KQ0) Zb aL hm (Wj a b cs ns os fs ls ks ⟨rfl,λ_=>?_⟩)
 simp only[qc,Dk,Di,qd,Dy,Dp,Ei,Eh,Df];refine⟨λh=>bA (by omega),λh=>?_,λh=>?_⟩
 .unfold ix;have:aCh a b=false:=by
   rw[<- kZ,sQ];omega
  rw[this];rfl
 .unfold ix;rw[sQ.2 (by omega),zQ,AW];rfl
theorem js(cs:LC)(ns os:LB)(fs:Lo)(ls:Ll)(ks:Lk){i:Int}(h:bn (cs,ns,os,fs,ls,ks)=true)(i0:0<=i)(i1:i<ls.length): 0<=(aN (cs,ns,os,fs,ls,ks) i).2.1/\(aN (cs,ns,os,fs,ls,ks) i).2.1<fs.length/\0<=(aN (cs,ns,os,fs,ls,ks) i).2.2.1/\(aN (cs,ns,os,fs,ls,ks) i).2.2.1<fs.length/\(aN (cs,ns,os,fs,ls,ks) i).2.1≠(aN (cs,ns,os,fs,ls,ks) i).2.2.1/\1<=(aN (cs,ns,os,fs,ls,ks) i).2.2.2.2.1/\(aN (cs,ns,os,fs,ls,ks) i).2.2.2.2.1<=5000:=by
 have hno:=bm cs ns os fs ls ks h;have hl:aN (cs,ns,os,fs,ls,ks) i∈ls:=by
  unfold aN;show ls.getD i.toNat _∈ls;rw[qA,qB (by omega),qR]
  exact wO _
 obtain⟨g1,g2,g3,g4,g5,g6,g7,g8⟩:=gn ((jy cs ns os fs ls ks hno).2.2.2 _ hl);exact⟨g1,g2,g3,g4,g5,g7,g8⟩
theorem AS(cs:LC)(ns os:LB)(fs:Lo)(ls:Ll)(ks:Lk){o:Int}(h:bn (cs,ns,os,fs,ls,ks)=true)(o0:0<=o)(o1:o<fs.length): 0<(td (cs,ns,os,fs,ls,ks) o).2.2.2.2.1*(td (cs,ns,os,fs,ls,ks) o).2.2.2.2.2.1/\(td (cs,ns,os,fs,ls,ks) o).2.2.2.2.1*(td (cs,ns,os,fs,ls,ks) o).2.2.2.2.2.1<=960:=by
 have hno:=bm cs ns os fs ls ks h;have ho:td (cs,ns,os,fs,ls,ks) o∈fs:=by
  unfold td;show fs.getD o.toNat _∈fs;rw[qA,qB (by omega),qR]
  exact wO _
 have gc:=(gb cs ns os fs ls ks hno).2.2.2 _ ho;unfold cT dO dD at gc;simp only[qC,qE]at gc;obtain⟨⟨_,p0,p1⟩,q0,q1⟩:=gc;generalize (td (cs,ns,os,fs,ls,ks) o).2.2.2.2.1=p at *;generalize (td (cs,ns,os,fs,ls,ks) o).2.2.2.2.2.1=q at *;refine⟨Int.mul_pos (by omega) (by omega),?_⟩
 have:=xW (a:=p) (b:=q) (c:=4) (d:=240) p1 q1 (by omega) (by omega)
 omega
theorem Kw(cs:LC)(ns os:LB)(fs:Lo)(ls:Ll)(ks:Lk){i a b:Int}(h:ix (cs,ns,os,fs,ls,ks) a b=true)(i0:0<=i)(i1:i<ls.length): (ry (cs,ns,os,fs,ls,ks) i a b=0/\As (cs,ns,os,fs,ls,ks) i a b=some (pg (cs,ns,os,fs,ls,ks) i a b)/\0<=pg (cs,ns,os,fs,ls,ks) i a b/\pg (cs,ns,os,fs,ls,ks) i a b<=86400)\/(ry (cs,ns,os,fs,ls,ks) i a b=20/\As (cs,ns,os,fs,ls,ks) i a b=none):=by
 obtain⟨⟨a0,ab,b1,hb⟩,hs⟩:=rK.1 h;have hu:fx (cs,ns,os,fs,ls,ks) i [a,b]=true:=by
  unfold fx dO;rw[hs,qAe,qC];exact⟨qW ⟨i0,i1⟩,by simp[cH];omega⟩
 have hok:nO (cs,ns,os,fs,ls,ks) i a b=true:=by
  unfold nO;rw[hu,qW ab,qW hb];rfl
 have ha:=Yn cs ns os fs ls ks (lC cs ns os fs ls ks hu (vS)).1;unfold ry pg;rw[if_pos hok,if_pos hok];cases e:As (cs,ns,os,fs,ls,ks) i a b with
 | none=>exact .inr ⟨rfl,rfl⟩
 | some w=>
  have:=u5 _ _ _ _ (by omega) (by omega) e
  exact .inl ⟨rfl,rfl,this.1,this.2⟩
theorem JI(cs:LC)(ns os:LB)(fs:Lo)(ls:Ll)(ks:Lk){i a b:Int}(h:ix (cs,ns,os,fs,ls,ks) a b=true)(i0:0<=i)(i1:i<ls.length): zy (cs,ns,os,fs,ls,ks) a b i=fS\/(0<zy (cs,ns,os,fs,ls,ks) a b i/\zy (cs,ns,os,fs,ls,ks) a b i<=100000):=by
 obtain⟨_,hs⟩:=rK.1 h;obtain⟨l0,l1,l2,l3,l4,l5,l6⟩:=js cs ns os fs ls ks hs i0 i1;obtain⟨o0,o1⟩:=AS cs ns os fs ls ks hs l2 l3;unfold zy;rcases Kw cs ns os fs ls ks h i0 i1 with⟨e,_,w0,w1⟩ | ⟨e,_⟩
 .rw[if_pos e];right;omega
 .rw[if_neg (by omega)];exact .inl rfl
theorem jI(n:Net)(a b:Int): (fH n a b).length=n.2.2.2.2.1.length:=by simp[fH]
theorem OL(cs:LC)(ns os:LB)(fs:Lo)(ls:Ll)(ks:Lk)(a b:Int){i:Int}(i0:0<=i)(i1:i<ls.length): (fH (cs,ns,os,fs,ls,ks) a b).getD i.toNat 0=zy (cs,ns,os,fs,ls,ks) a b i:=by
 unfold fH;rw[qA,qP,wJ (by show i.toNat<ls.length;omega)]
 simp[vF i0]
theorem Uk(cs:LC)(ns os:LB)(fs:Lo)(ls:Ll)(ks:Lk){a b:Int}(h:ix (cs,ns,os,fs,ls,ks) a b=true): fZ (cs,ns,os,fs,ls,ks) (fH (cs,ns,os,fs,ls,ks) a b):=by
 refine⟨(rK.1 h).2,jI _ _ _,λi i0 i1=>?_⟩
 have i1:i<ls.length:=by rw[jI]at i1;exact i1
 rw[OL cs ns os fs ls ks a b i0 i1];rcases JI cs ns os fs ls ks h i0 i1 with g | g
 .exact .inl g
 .right;omega
theorem uo(cs:LC)(ns os:LB)(fs:Lo)(ls:Ll)(ks:Lk){a b k:Int}(h:0<=k/\k<=ls.length): (gQ (cs,ns,os,fs,ls,ks) a b k).length=ls.length:=by
 unfold gQ;rw[qF,qI,wQ,jI];show min k.toNat ls.length+(ls.length-k.toNat)=ls.length;omega
theorem rh(cs:LC)(ns os:LB)(fs:Lo)(ls:Ll)(ks:Lk){a b k v:Int}(k0:0<=k)(k1:k<ls.length)(hv:v=zy (cs,ns,os,fs,ls,ks) a b k): (gQ (cs,ns,os,fs,ls,ks) a b k).set k.toNat v=gQ (cs,ns,os,fs,ls,ks) a b (k+1):=by
 have e:(k+1).toNat=k.toNat+1:=by omega
 have:=Mp.zi (fH (cs,ns,os,fs,ls,ks) a b) 0 v k.toNat (by
  unfold fH;rw[qP,wJ (by show k.toNat<ls.length;omega),hv];simp[vF k0])
 rw[jI]at this;unfold gQ;rw[e];exact this
theorem XA(a b:Int)(cs:LC)(ns os:LB)(fs:Lo)(ls:Ll)(ks:Lk): af Tryz.prog G0 73 [net cs ns os fs ls ks,.dat I a,.dat I b] [] ⟨MO (cs,ns,os,fs,ls,ks) a b,.dat R (fH (cs,ns,os,fs,ls,ks) a b),[]⟩:=by
 refine ae (c:=mkc KQ0) Zb aL hm (QX a b cs ns os fs ls ks ⟨rfl,λhp=>?_⟩)
 have hp:ix (cs,ns,os,fs,ls,ks) a b=true:=hp;obtain⟨_,hs⟩:=rK.1 hp;have l40:=(oC cs ns os fs ls ks (bm cs ns os fs ls ks hs)).2;simp only[qc,qd,Dt,Ea,Dp,Df,Dc,Dx,Dj,Du,En,Ep,nC cs ns os fs ls ks]
 have lf:∀x:Int,fs.getD (aN (cs,ns,os,fs,ls,ks) x).2.2.1.toNat (⟨#[]⟩,0,0,0,0,0,[])=td (cs,ns,os,fs,ls,ks) (aN (cs,ns,os,fs,ls,ks) x).2.2.1:=λ_=>rfl
 refine⟨by omega,by omega,by omega,⟨0,⟨hp,by omega,by omega⟩,rfl,by simp[gQ]⟩,λx hx=>⟨λhlt=>?_,λhge=>?_⟩⟩
 .obtain⟨_,x0,x1⟩:=hx;have hl:=uo cs ns os fs ls ks (a:=a) (b:=b) ⟨x0,x1⟩;obtain⟨l0,l1,l2,l3,l4,l5,l6⟩:=js cs ns os fs ls ks hs x0 hlt;obtain⟨o0,o1⟩:=AS cs ns os fs ls ks hs l2 l3;refine⟨x0,hlt,λhw=>?_,λhw=>?_⟩
  .refine⟨hl,x0,by omega,hl,bA (by omega),x+1,⟨hp,by omega,(by show x+1<=(ls.length:Int);omega)⟩,⟨rfl,rh cs ns os fs ls ks x0 hlt ?_⟩,by omega⟩
   unfold zy;rw[if_neg hw];rfl
  .rcases Kw cs ns os fs ls ks hp x0 hlt with⟨e,_,w0,w1⟩ | ⟨e,_⟩
   .refine⟨l2,l3,bA (by omega),bA (by rw[lf];omega),bA (by rw[lf];omega),hl,x0,by omega,hl,bA (by omega),x+1,⟨hp,by omega,(by show x+1<=(ls.length:Int);omega)⟩,⟨rfl,rh cs ns os fs ls ks x0 hlt ?_⟩,by omega⟩
    unfold zy;rw[if_pos e];rfl
   .exfalso;omega
 .obtain⟨_,x0,x1⟩:=hx;have x1:x<=ls.length:=x1;have e:x.toNat=ls.length:=by omega
  refine⟨uo cs ns os fs ls ks ⟨x0,x1⟩,?_⟩;unfold gQ;rw[e,qO (by rw[jI];exact qK _)]
  show _++List.replicate (ls.length-ls.length) 0=_;simp
theorem LL(preT:Int->Int->Prop)(g:Int->Int->Int)(cs:LC)(ns os:LB)(fs:Lo)(ls:Ll)(ks:Lk): af Tryz.prog G0 75 [net cs ns os fs ls ks,.clo2 I I I preT g] [] ⟨bz (Df fs) preT,.dat M (aK g (Df fs)),[]⟩:=by
 refine ae (c:=mkc KQ0) Zb aL hm (Qm preT g cs ns os fs ls ks ⟨rfl,λhp=>?_⟩)
 obtain⟨p1,p2,p3⟩:=hp;simp only[qc,qd,Dt,Dp,Df,Dc,Dx,Dj,En,Ep]at p1 p2 p3 ⊢;have en:(fs.length:Int).toNat=fs.length:=qQ _;refine⟨by omega,by omega,by omega,by simp,⟨0,⟨by omega,.inr rfl⟩,by simp,by rw[Mp.mA];simp⟩,λx hx=>⟨λhlt=>?_,λhge=>?_⟩⟩
 .have h0:=hx.1;have hl:=Mp.lI g fs.length x hx;rw[en]at hl;refine⟨by omega,by omega,by omega,hl,h0,by omega,hl,by simp,hl,h0,by omega,hl,by simp,⟨0,⟨by omega,.inr rfl⟩,by simp,by rw[Mp.sJ];simp⟩,λy hy=>⟨λhlt2=>?_,λhge=>?_⟩⟩
  .have h2:=hy.1;have hl2:=Mp.mB g fs.length x y hy;rw[en]at hl2;refine⟨hl,h0,by omega,hl,p3 x y h0 hlt h2 hlt2,hl2,h2,by omega,hl2,bA (by omega),y+1,⟨by omega,.inl (by omega)⟩,⟨rfl,?_⟩,by omega⟩
   exact Mp.sM g fs.length x y h2 hlt2
  .have hl2:=Mp.mB g fs.length x y hy;rw[en]at hl2;refine⟨bA (by omega),x+1,⟨by omega,.inl (by omega)⟩,⟨rfl,hl2,?_⟩,by omega⟩
   exact Mp.pu g fs.length x y h0 hlt hy hge
 .have hl:=Mp.lI g fs.length x hx;rw[en]at hl;exact⟨hl,Mp.sH g fs.length x hx hge⟩
theorem Rz(preT:Int->Int->Prop)(g:Int->Int->Int)(cs:LC)(ns os:LB)(fs:Lo)(ls:Ll)(ks:Lk): af Tryz.prog G0 75 [net cs ns os fs ls ks,.clo2 I I I preT g] [] ⟨bz (Df fs) preT,.buf 0 (Dj (aK g (Df fs))),[(0,.mat 36 3 I (aK g (Df fs)) [])]⟩:=by
 refine ae (c:=mkc KQ0) Zb aL hm (KC preT g cs ns os fs ls ks ⟨rfl,λhp=>?_⟩)
 obtain⟨p1,p2,p3⟩:=hp;simp only[qc,qd,Dt,Dp,Df,Dc,Dx,Dj,En,Ep,Fb]at p1 p2 p3 ⊢;have en:(fs.length:Int).toNat=fs.length:=qQ _;refine⟨by omega,by omega,by omega,by simp,⟨0,⟨by omega,.inr rfl⟩,by simp,by rw[Mp.mA];simp,?_⟩,λx hx=>⟨λhlt=>?_,λhge=>?_⟩⟩
 .rw[Mp.mA];intro r hr;exact kT hr
 .have h0:=hx.1;have hl:=Mp.lI g fs.length x hx;rw[en]at hl;refine⟨by omega,by omega,by omega,hl,h0,by omega,hl,by simp,hl,h0,by omega,hl,by simp,⟨0,⟨by omega,.inr rfl⟩,by simp,by rw[Mp.sJ];simp⟩,λy hy=>⟨λhlt2=>?_,λhge=>?_⟩⟩
  .have h2:=hy.1;have hl2:=Mp.mB g fs.length x y hy;rw[en]at hl2;refine⟨hl,h0,by omega,hl,p3 x y h0 hlt h2 hlt2,hl2,h2,by omega,hl2,bA (by omega),y+1,⟨by omega,.inl (by omega)⟩,⟨rfl,?_⟩,by omega⟩
   exact Mp.sM g fs.length x y h2 hlt2
  .have hl2:=Mp.mB g fs.length x y hy;rw[en]at hl2;refine⟨bA (by omega),x+1,⟨by omega,.inl (by omega)⟩,⟨rfl,hl2,?_⟩,by omega⟩
   exact Mp.pu g fs.length x y h0 hlt hy hge
 .have e:=Mp.sH g fs.length x hx hge;refine⟨?_,e⟩;rw[Mp.fK,en]
theorem L1(o d:Int): af Tryz.prog G0 144 [.dat I o,.dat I d] [] ⟨aA6 o d,.dat I (ES o d),[]⟩:=
 ae (c:=mkc KQ0) Zb aL hm (IG o d ⟨rfl,λ_=>⟨rfl,trivial⟩⟩)
theorem L0(e:Int)(s:Lj)(o d:Int): af Tryz.prog G0 146 [.dat I o,.dat I d,.ip I e,.ip M s] [] ⟨Gt e s o d,.dat I (PZ e s o d),[]⟩:=by
 refine ae (c:=mkc KQ0) Zb aL hm (IE e s o d ⟨rfl,λhp=>?_⟩)
 have hat:(s.getD o.toNat []).getD d.toNat 0=at2 s o d:=rfl;simp only[qc,Dk,Di,qd,Dy,Ea,Df,Fh,Dc,Du,hat];refine⟨λh=>(hp h).1.1,λh=>(hp h).1.2.1,λh=>(hp h).1.2.2.1,λh=>(hp h).1.2.2.2,λh=>?_,λh=>?_⟩
 .unfold PZ;rcases h with h | h
  .rw[if_neg h]
  .split
   .exact(if_pos h).symm
   .rfl
 .obtain⟨⟨q1,q2,q3,q4⟩,q5⟩:=hp h.1;refine⟨q1,q2,q3,q4,?_,?_⟩
  .rcases q5 with q5 | q5
   .exact(h.2 q5).elim
   .unfold inR;simp only;omega
  .unfold PZ;rw[if_pos h.1];exact(if_neg h.2).symm
theorem fR{P:Program}{C:Ctx}{a x x':AV}{us:Lv}(h:AV.relL P C [a,x] us)(hx:∀v,x.rel P C v->x'.rel P C v): AV.relL P C [a,x'] us:=by
 obtain⟨u,us,rfl,h1,u2,us,rfl,h2,h3⟩:=h;exact⟨_,_,rfl,h1,_,_,rfl,hx _ h2,h3⟩
theorem Lu: ∀args m c,Lx args m=some c->af Tryz.prog G0 75 args m c:=by
 intro args m c hc;unfold Lx at hc;split at hc
 .rename_i cs ns os fs ls ks;cases hc;exact(Rz _ _ cs ns os fs ls ks).args λC us hG hu=>fR hu λv hv=>jJ (by kernel_rfl) rfl (λx y=>L1 x y) hG hv
 .rename_i cs ns os fs ls ks e s;cases hc;exact(LL _ _ cs ns os fs ls ks).args λC us hG hu=>fR hu λv hv=>jJ (by kernel_rfl) rfl (λx y=>L0 e s x y) hG hv
 .cases hc
theorem rk{g g':Int->Int->Int}{m:Nat}(h:∀i j:Int,0<=i->i<m->0<=j->j<m->g i j=g' i j): aK g m=aK g' m:=by
 unfold aK;simp only[qQ];refine zT λi hi=>zT λj hj=>?_
 have:=qU.1 hi;have:=qU.1 hj;exact h _ _ (by omega) (by omega) (by omega) (by omega)
theorem JV{g:Int->Int->Int}{m:Nat}{a b v:Int}(a0:0<=a)(a1:a<m)(b0:0<=b)(b1:b<m):
  (aK g m).set a.toNat (((aK g m).getD a.toNat []).set b.toNat v)=aK (λo d=>if o=a/\d=b then v else g o d) m:=by
 rw[Mp.pR g m a a0 a1];unfold aK;simp only[qQ];refine kY (by simp) λi h1 h2=>?_
 rw[vY,wG]at h2;rw[List.getElem_set];by_cases e:a.toNat=i
 .rw[if_pos e];rw[xM,kK];refine kY (by simp) λj h3 h4=>?_
  rw[vY,wG]at h4;rw[List.getElem_set,xM,kK,xM,kK];have ei:(i:Int)=a:=by omega
  by_cases e2:b.toNat=j
  .rw[if_pos e2,if_pos ⟨ei,by omega⟩]
  .rw[if_neg e2,if_neg (λq=>e2 (by omega)),ei]
 .rw[if_neg e];rw[xM,xM,kK];refine zT λj hj=>?_
  rw[if_neg (λq=>e (by omega))]
theorem Rb{m:Lj}(sq:Mp.Sq m.length m)(hl:m.length<=40)(h:∀i j:Int,0<=i->i<m.length->0<=j->j<m.length->Mp.pL (at2 m i j)=true): Mp.ax m=true:=by
 unfold Mp.ax;rw[qC,zL,zL,vW,qBx];refine⟨by omega,λr hr=>?_⟩
 obtain⟨i,hi,rfl⟩:=List.getElem_of_mem hr;have e:m[i]=m.getD (i:Int).toNat []:=by rw[qQ,qA,qB hi,qR]
 have hrow:=sq.row i (by omega) (by omega)
 rw[e];unfold Mp.m4;rw[kZ,qBj,vW,Mp.pV];refine⟨by omega,λk k0 k1=>?_⟩
 rw[hrow]at k1;exact h i k (by omega) (by omega) k0 k1
theorem iF(ls:Ll)(c:Li)(k:Nat)(o d:Int): gk ls c (k+1) o d=if c.getD k 0≠fS/\(ls.getD k (⟨#[]⟩,0,0,0,0,0)).2.1=o/\(ls.getD k (⟨#[]⟩,0,0,0,0,0)).2.2.1=d then max (gk ls c k o d) (-(c.getD k 0))else gk ls c k o d:=rfl
theorem qu{n:Net}{c:Li}(h:fZ n c)(ls:Ll)(o d:Int): ∀k:Nat,k<=c.length->gk ls c k o d=fS\/(-1000000<=gk ls c k o d/\gk ls c k o d<=-1)
 | 0,_=>.inl rfl
 | k+1,hk=>by
  have ih:=qu h ls o d k (by omega)
  have hc:=h.2.2 k (by omega) (by omega)
  rw[qQ]at hc;rw[iF];split
  .rename_i g;rcases hc with hc | hc
   .exact(g.1 hc).elim
   .right
    rcases ih with ih | ih
    .rw[ih];unfold fS;omega
    .omega
  .exact ih
theorem pE(cs:LC)(ns os:LB)(fs:Lo)(ls:Ll)(ks:Lk)(c:Li)(k:Int): Mp.Sq fs.length (aW (cs,ns,os,fs,ls,ks) c k):=Mp.uy _ _
theorem wj(cs:LC)(ns os:LB)(fs:Lo)(ls:Ll)(ks:Lk)(c:Li)(k:Int){o d:Int}(o0:0<=o)(o1:o<fs.length)(d0:0<=d)(d1:d<fs.length): at2 (aW (cs,ns,os,fs,ls,ks) c k) o d=gk ls c k.toNat o d:=Mp.jM _ _ o d o0 o1 d0 d1
theorem yz(cs:LC)(ns os:LB)(fs:Lo)(ls:Ll)(ks:Lk){c:Li}{k:Int}(h:fZ (cs,ns,os,fs,ls,ks) c)(k0:0<=k)(k1:k<=ls.length): Mp.ax (aW (cs,ns,os,fs,ls,ks) c k)=true:=by
 have sq:=pE cs ns os fs ls ks c k;have l12:=(gb cs ns os fs ls ks (bm cs ns os fs ls ks h.1)).1;have hcl:c.length=ls.length:=h.2.1;refine Rb (by rw[sq.len];exact sq) (by rw[sq.len];omega) λi j i0 i1 j0 j1=>?_
 rw[sq.len]at i1 j1;rw[wj cs ns os fs ls ks c k i0 i1 j0 j1];unfold Mp.pL Mp.dt;rcases qu h ls i j k.toNat (by omega)with g | g
 .rw[g];rfl
 .simp only[zW,qC,qE];right;omega
theorem aAC{m:Lj}(h:Mp.ax m=true)(he:jr m=0): jq m=Mp.cI m m.length:=by
 unfold jr jq Mp.D7 at *;rw[h]at he ⊢;simp only[qBc]at he ⊢;cases hb:Mp.sk m with
 | true=>rw[hb]at he;simp only[qBc]at he;omega
 | false=>rfl
theorem NP(cs:LC)(ns os:LB)(fs:Lo)(ls:Ll)(ks:Lk){c:Li}(h:fZ (cs,ns,os,fs,ls,ks) c){o d:Int}(o0:0<=o)(o1:o<fs.length)(d0:0<=d)(d1:d<fs.length): Gt (jr (jA (cs,ns,os,fs,ls,ks) c)) (jq (jA (cs,ns,os,fs,ls,ks) c)) o d:=by
 intro he;have hv:Mp.ax (jA (cs,ns,os,fs,ls,ks) c)=true:=yz cs ns os fs ls ks h (by omega) (qM _)
 have sq:Mp.Sq fs.length (jA (cs,ns,os,fs,ls,ks) c):=pE cs ns os fs ls ks c _;have l12:=(gb cs ns os fs ls ks (bm cs ns os fs ls ks h.1)).1;rw[aAC hv he];have sN:=Mp.rI (jA (cs,ns,os,fs,ls,ks) c) (jA (cs,ns,os,fs,ls,ks) c).length;have b1:=Mp.mq hv (jA (cs,ns,os,fs,ls,ks) c).length (qK _) o d o0 (by rw[sq.len];exact o1) d0 (by rw[sq.len];exact d1)
 have b3:=Mp.VM (k:=(jA (cs,ns,os,fs,ls,ks) c).length) (by rw[sq.len];omega)
 refine⟨sN.oL o0 (by rw[sq.len];exact o1) d0 (by rw[sq.len];exact d1),.inr ?_⟩
 omega
theorem Jr(cs:LC)(ns os:LB)(fs:Lo)(ls:Ll)(ks:Lk){c:Li}{k:Int}(h:fZ (cs,ns,os,fs,ls,ks) c)(k0:0<=k)(k1:k<ls.length)(hc:c.getD k.toNat 0≠fS):
  (aW (cs,ns,os,fs,ls,ks) c k).set (aN (cs,ns,os,fs,ls,ks) k).2.1.toNat (((aW (cs,ns,os,fs,ls,ks) c k).getD (aN (cs,ns,os,fs,ls,ks) k).2.1.toNat []).set (aN (cs,ns,os,fs,ls,ks) k).2.2.1.toNat (max (((aW (cs,ns,os,fs,ls,ks) c k).getD (aN (cs,ns,os,fs,ls,ks) k).2.1.toNat []).getD (aN (cs,ns,os,fs,ls,ks) k).2.2.1.toNat 0) (-(c.getD k.toNat 0))))=aW (cs,ns,os,fs,ls,ks) c (k+1):=by
 obtain⟨l0,l1,l2,l3,_⟩:=js cs ns os fs ls ks h.1 k0 k1;have e1:(k+1).toNat=k.toNat+1:=by omega
 have ha:=wj cs ns os fs ls ks c k l0 l1 l2 l3;have ha':((aW (cs,ns,os,fs,ls,ks) c k).getD (aN (cs,ns,os,fs,ls,ks) k).2.1.toNat []).getD (aN (cs,ns,os,fs,ls,ks) k).2.2.1.toNat 0=gk ls c k.toNat (aN (cs,ns,os,fs,ls,ks) k).2.1 (aN (cs,ns,os,fs,ls,ks) k).2.2.1:=ha;rw[ha'];unfold aW;rw[e1];show(aK _ (fs.length:Int)).set _ (((aK _ (fs.length:Int)).getD _ _).set _ _)=aK _ (fs.length:Int)
 rw[JV l0 l1 l2 l3];refine rk λi j i0 i1 j0 j1=>?_
 show _=gk ls c (k.toNat+1) i j;rw[iF];by_cases g:i=(aN (cs,ns,os,fs,ls,ks) k).2.1/\j=(aN (cs,ns,os,fs,ls,ks) k).2.2.1
 .rw[if_pos g,if_pos ⟨hc,g.1.symm,g.2.symm⟩,g.1,g.2]
 .rw[if_neg g,if_neg (λq=>g ⟨q.2.1.symm,q.2.2.symm⟩)]
theorem Jq(cs:LC)(ns os:LB)(fs:Lo)(ls:Ll)(ks:Lk){c:Li}{k:Int}(k0:0<=k)(hc:c.getD k.toNat 0=fS): aW (cs,ns,os,fs,ls,ks) c k=aW (cs,ns,os,fs,ls,ks) c (k+1):=by
 have e1:(k+1).toNat=k.toNat+1:=by omega
 unfold aW;rw[e1];refine rk λi j i0 i1 j0 j1=>?_
 show _=gk ls c (k.toNat+1) i j;rw[iF,if_neg (λq=>q.1 hc)]
theorem aEm: al Tryz.prog G0 KQ1:=aj Lu<|aj (ag λ((cs,ns,os,fs,ls,ks),a,b,_)=>aAg a b cs ns os fs ls ks)<|aj (ag λ((cs,ns,os,fs,ls,ks),a,b,_)=>XA a b cs ns os fs ls ks) Zb
theorem LN(c:Li)(cs:LC)(ns os:LB)(fs:Lo)(ls:Ll)(ks:Lk): af Tryz.prog G0 74 [net cs ns os fs ls ks,.dat R c] [] ⟨fZ (cs,ns,os,fs,ls,ks) c,.dat M (iJ (cs,ns,os,fs,ls,ks) c),[]⟩:=by
 refine ae (c:=mkc KQ1) aEm aL hm (Iq c cs ns os fs ls ks ⟨rfl,λhp=>?_⟩)
 have hno:=bm cs ns os fs ls ks hp.1;have l40:=(oC cs ns os fs ls ks hno).2;have l12:=(gb cs ns os fs ls ks hno).1;have hcl:c.length=ls.length:=hp.2.1;simp only[qc,qd,Ea,Dp,Df,Fh,Dc,Dx,Dj,Du,Ez,En,nC cs ns os fs ls ks];have en:(fs.length:Int).toNat=fs.length:=qQ _
 have bl:∀g:Int->Int->Int,(aK g fs.length).length=fs.length:=λg=>by rw[Mp.fK,en]
 have ll:∀x,(aW (cs,ns,os,fs,ls,ks) c x).length=fs.length:=λx=>bl _
 refine⟨⟨by omega,by omega,λ_ _ _ _ _ _=>trivial⟩,⟨0,⟨hp,by omega,by omega⟩,rfl,rfl⟩,λx hx=>⟨λhlt=>?_,λhge=>?_⟩⟩
 .obtain⟨_,x0,x1⟩:=hx;obtain⟨l0,l1,l2,l3,_⟩:=js cs ns os fs ls ks hp.1 x0 hlt;have hrow:=(pE cs ns os fs ls ks c x).row _ l0 l1;have hc:=hp.2.2 x x0 (by omega)
  have hx1:x+1<=(((cs,ns,os,fs,ls,ks):Net).2.2.2.2.1.length:Int):=(by show x+1<=(ls.length:Int);omega)
  refine⟨x0,hlt,x0,by omega,λhn=>?_,λhn=>?_⟩
  .have hl:(aW (cs,ns,os,fs,ls,ks) c x).length=(aK ES fs.length).length:=by rw[ll,bl]
   have hb:(aN (cs,ns,os,fs,ls,ks) x).2.1<((aW (cs,ns,os,fs,ls,ks) c x).length:Int):=by rw[ll];exact l1
   have hr:(aN (cs,ns,os,fs,ls,ks) x).2.2.1<(((aW (cs,ns,os,fs,ls,ks) c x).getD (aN (cs,ns,os,fs,ls,ks) x).2.1.toNat []).length:Int):=by rw[hrow];exact l3
   refine⟨hl,l0,hb,hl,hl,l0,hb,hl,hl,l2,hr,hl,x0,by omega,?_,hl,l2,hr,hl,bA (by omega),x+1,⟨hp,by omega,hx1⟩,⟨rfl,Jr cs ns os fs ls ks hp x0 hlt hn⟩,by omega⟩
   rcases hc with hc | hc
   .exact(hn hc).elim
   .exact bA (by omega)
  .exact⟨bA (by omega),x+1,⟨hp,by omega,hx1⟩,⟨rfl,Jq cs ns os fs ls ks x0 hn⟩,by omega⟩
 .obtain⟨_,x0,x1⟩:=hx;have x1:x<=ls.length:=x1;have e:x=ls.length:=by omega
  have el:aW (cs,ns,os,fs,ls,ks) c x=jA (cs,ns,os,fs,ls,ks) c:=by rw[e];rfl
  rw[el];refine⟨?_,?_,?_,?_⟩
  all_goals first
   | (rw[<- el,ll,bl])
   | (show List.length _<=20;rw[<- el,ll];omega)
   | exact⟨by omega,by omega,λi j i0 i1 j0 j1=>NP cs ns os fs ls ks hp i0 i1 j0 j1⟩
   | rfl
theorem find_range{m:Nat}{p:Nat->Bool}{i:Nat}(hi:i<m)(hp:p i=true)(h:(List.range i).all (λj=>!p j)=true): (List.range m).find? p=some i:=by
 have e:m=i+(m-i-1+1):=by omega
 rw[e,List.range_add,List.find?_append];have:(List.range i).find? p=none:=by
  rw[qCq];intro x hx;have:=qL.1 h x hx;simpa using this
 rw[this,List.range_succ_eq_map,zF,qBp];simp[hp]
theorem zh{m:Nat}{p:Nat->Bool}(h:(List.range m).all (λj=>!p j)=true): (List.range m).find? p=none:=by
 rw[qCq];intro x hx;have:=qL.1 h x hx;simpa using this
theorem uz{n:Net}{c:Li}{b:Lj}{o d x:Int}(hx:uA n c b o d x)(x1:x<n.2.2.2.2.1.length)(h:qy n c b o d x=false): uA n c b o d (x+1):=by
 obtain⟨hp,x0,_,ha⟩:=hx;refine⟨hp,by omega,by omega,?_⟩
 rw[show(x+1).toNat=x.toNat+1 by omega,zV,qAa,ha,qAr,vF x0,h];rfl
theorem wt{n:Net}{c:Li}{b:Lj}{o d i:Int}: qy n c b o d i=true↔(aN n i).2.1=o/\c.getD i.toNat 0≠fS/\0<=at2 b (aN n i).2.2.1 d/\c.getD i.toNat 0+at2 b (aN n i).2.2.1 d=at2 b o d:=by
 unfold qy;simp only[qC,qE,qDg]
theorem BY{n:Net}{c:Li}{b:Lj}{o d i:Int}(h:¬((aN n i).2.1=o/\c.getD i.toNat 0≠fS/\0<=at2 b (aN n i).2.2.1 d/\c.getD i.toNat 0+at2 b (aN n i).2.2.1 d=at2 b o d)): qy n c b o d i=false:=by
 rw[<- kZ,wt];exact h
theorem aAz(c:Li)(b:Lj)(o d:Int)(cs:LC)(ns os:LB)(fs:Lo)(ls:Ll)(ks:Lk): af Tryz.prog G0 77 [net cs ns os fs ls ks,.dat R c,.dat M b,.dat I o,.dat I d] [] ⟨uB (cs,ns,os,fs,ls,ks) c b o d,.dat I (uW (cs,ns,os,fs,ls,ks) c b o d),[]⟩:=by
 refine ae (c:=mkc KQ1) aEm aL hm (WT c b o d cs ns os fs ls ks ⟨rfl,λhp=>?_⟩)
 obtain⟨hc,hb,o0,o1,d0,d1⟩:=hp;have hno:=bm cs ns os fs ls ks hc.1;have l40:=(oC cs ns os fs ls ks hno).2;have hcl:c.length=ls.length:=hc.2.1;have hat:∀i j:Int,(b.getD i.toNat []).getD j.toNat 0=at2 b i j:=λ_ _=>rfl
 simp only[qc,Dk,Di,qd,Dy,Ea,Dp,Df,Dc,Du,nC cs ns os fs ls ks,hat];refine⟨⟨⟨hc,hb,o0,o1,d0,d1⟩,by omega,by omega,rfl⟩,λx hx=>⟨λhlt=>?_,λhge=>?_⟩⟩
 .obtain⟨hp,x0,x1,ha⟩:=id hx;obtain⟨l0,l1,l2,l3,_⟩:=js cs ns os fs ls ks hc.1 x0 hlt;obtain⟨⟨i1,i2,i3,i4⟩,i5,i6⟩:=hb _ _ l2 l3 d0 d1;obtain⟨⟨j1,j2,j3,j4⟩,j5,j6⟩:=hb _ _ o0 o1 d0 d1;have hcx:=hc.2.2 x x0 (by omega)
  have hx1:x+1<=(((cs,ns,os,fs,ls,ks):Net).2.2.2.2.1.length:Int):=(by show x+1<=(ls.length:Int);omega)
  refine⟨x0,hlt,λ_=>x0,λ_=>by omega,λ_=>l2,λ_=>i2,λ_=>d0,λ_=>i4,λh=>⟨bA (by omega),x+1,uz hx hlt (BY λq=>?_),rfl,by omega⟩,λh=>⟨x0,by omega,l2,i2,d0,i4,?_,o0,j2,d0,j4,λh2=>?_,λh2=>⟨bA (by omega),x+1,uz hx hlt (BY λq=>h2 q.2.2.2),rfl,by omega⟩⟩⟩
  .rcases h with(h | h) | h
   .exact h q.1
   .exact q.2.1 h
   .omega
  .rcases hcx with hcx | hcx
   .exact(h.1.2 hcx).elim
   .unfold inR;simp only;omega
  .have hbst:qy (cs,ns,os,fs,ls,ks) c b o d x=true:=wt.2 ⟨by first | exact h.1.1 | exact qBy.1 h.1.1,h.1.2,by omega,h2⟩
   unfold uW;rw[find_range (i:=x.toNat) (by show x.toNat<ls.length;omega) (by rw[vF x0];exact hbst) ha]
   show x=((x.toNat:Nat):Int);omega
 .obtain⟨hp,x0,x1,ha⟩:=hx;have x1:x<=ls.length:=x1;have e:x.toNat=ls.length:=by omega
  rw[e]at ha;unfold uW;rw[zh (show(List.range ((cs,ns,os,fs,ls,ks):Net).2.2.2.2.1.length).all _=true from ha)]
theorem aE0: al Tryz.prog G0 KQ2:=aj (ag λ((cs,ns,os,fs,ls,ks),c,_)=>LN c cs ns os fs ls ks)<|aj (ag λ((cs,ns,os,fs,ls,ks),c,b,o,d,_)=>aAz c b o d cs ns os fs ls ks) aEm
theorem Xm(b:Lj)(c:Li)(o d:Int)(cs:LC)(ns os:LB)(fs:Lo)(ls:Ll)(ks:Lk): af Tryz.prog G0 76 [.dat I o,.dat I d,.ip M b,.ip N (cs,ns,os,fs,ls,ks),.ip R c] [] ⟨uB (cs,ns,os,fs,ls,ks) c b o d,.dat I (tn (cs,ns,os,fs,ls,ks) c b o d),[]⟩:=by
 refine ae (c:=mkc KQ2) aE0 aL hm (QF b c o d cs ns os fs ls ks ⟨rfl,λhp=>?_⟩)
 obtain⟨⟨j1,j2,j3,j4⟩,j5,j6⟩:=hp.2.1 o d hp.2.2.1 hp.2.2.2.1 hp.2.2.2.2.1 hp.2.2.2.2.2;have hat:∀i j:Int,(b.getD i.toNat []).getD j.toNat 0=at2 b i j:=λ_ _=>rfl
 simp only[qc,Dk,Di,qd,Dy,Dp,Df,Dc,Du,hat];refine⟨λ_=>j1,λ_=>j2,λ_=>j3,λ_=>j4,λh=>?_,λh=>⟨hp,?_⟩⟩
 .unfold tn;exact(if_pos h).symm
 .unfold tn;exact(if_neg (by omega)).symm
theorem aEZ: al Tryz.prog G0 KQ3:=aj (λargs m c hc=>by
 split at hc
 .rename_i cs ns os fs ls ks b n c;cases hc;exact(LL _ _ cs ns os fs ls ks).args λC us hG hu=>fR hu λv hv=>jJ (by kernel_rfl) rfl (λx y=>by obtain⟨a1,a2,a3,a4,a5,a6⟩:=n;exact Xm b c x y a1 a2 a3 a4 a5 a6) hG hv
 .cases hc) aE0
theorem aBI(cs:LC)(ns os:LB)(fs:Lo)(ls:Ll)(ks:Lk){c:Li}(h:fZ (cs,ns,os,fs,ls,ks) c): O1 (cs,ns,os,fs,ls,ks) (iJ (cs,ns,os,fs,ls,ks) c):=by
 intro o d o0 o1 d0 d1;have sq:Mp.Sq fs.length (iJ (cs,ns,os,fs,ls,ks) c):=Mp.uy _ _;refine⟨sq.oL o0 o1 d0 d1,?_⟩;have ha:at2 (iJ (cs,ns,os,fs,ls,ks) c) o d=PZ (jr (jA (cs,ns,os,fs,ls,ks) c)) (jq (jA (cs,ns,os,fs,ls,ks) c)) o d:=Mp.jM _ _ o d o0 o1 d0 d1;have hp:=NP cs ns os fs ls ks h o0 o1 d0 d1;rw[ha];unfold Gt at hp;unfold PZ;split
 .rename_i he;obtain⟨_,hp⟩:=hp he;split
  .omega
  .rcases hp with hp | hp
   .contradiction
   .omega
 .omega
theorem Xd(a b:Int)(cs:LC)(ns os:LB)(fs:Lo)(ls:Ll)(ks:Lk): af Tryz.prog G0 23 [net cs ns os fs ls ks,.dat I a,.dat I b] [] ⟨True,.dat M (jw (cs,ns,os,fs,ls,ks) a b),[]⟩:=by
 refine ae (c:=mkc KQ3) aEZ aL hm (Qu a b cs ns os fs ls ks ⟨rfl,λ_=>?_⟩)
 simp only[qc,Di,Dt,Df];refine⟨λh=>?_,λh=>?_⟩
 .unfold jw;rw[h];rfl
 .have hc:=Uk cs ns os fs ls ks h;have l12:=(gb cs ns os fs ls ks (bm cs ns os fs ls ks hc.1)).1;refine⟨h,hc,⟨by omega,by omega,λi j i0 i1 j0 j1=>⟨hc,aBI cs ns os fs ls ks hc,i0,i1,j0,j1⟩⟩,?_⟩
  unfold jw;rw[h];rfl
end Go.Eng.Sv
set_option maxRecDepth 100000
namespace Go.Eng.Sv
open Go.Proofs
open Go.Eng.Mp (aK cq qf bz upto at2 oL jq jr xx)
open Go.Eng.Mp (W PW UT)
structure J7 (q:Nat) (ls:Ll) (c:Li) (B:Int->Int->Int):Prop where
 lo:∀o d:Int,0<=o->o<q->0<=d->d<q->-1<=B o d
 same:∀o:Int,0<=o->o<q->B o o=0
 step:∀(k:Nat) (l:Line),ls[k]?=some l->c.getD k 0≠fS->∀d:Int,0<=d->d<q->0<=B (lTo l) d->0<=B (br l) d/\B (br l) d<=c.getD k 0+B (lTo l) d
 from_:∀o d:Int,0<=o->o<q->0<=d->d<q->o≠d->0<=B o d->∃(k:Nat) (l:Line),ls[k]?=some l/\c.getD k 0≠fS/\br l=o/\0<=B (lTo l) d/\B o d=c.getD k 0+B (lTo l) d
structure PK (q:Nat) (ls:Ll) (c:Li):Prop where
 pos:∀(k:Nat) (l:Line),ls[k]?=some l->c.getD k 0≠fS->0<c.getD k 0
 ends:∀(k:Nat) (l:Line),ls[k]?=some l->(0<=br l/\br l<q)/\0<=lTo l/\lTo l<q
theorem J7.mono {q:Nat} {ls ls':Ll} {c c':Li} {B B':Int->Int->Int} (h:J7 q ls c B) (hc:PK q ls c) (h':J7 q ls' c' B')
  (hl:∀(k:Nat) (l:Line),ls[k]?=some l->c.getD k 0≠fS->∃(k':Nat) (l':Line),ls'[k']?=some l'/\c'.getD k' 0≠fS/\br l'=br l/\lTo l'=lTo l/\c'.getD k' 0<=c.getD k 0):
  ∀(f:Nat) (o d:Int),0<=o->o<q->0<=d->d<q->0<=B o d->(B o d).toNat<=f->0<=B' o d/\B' o d<=B o d
 | f,o,d,o0,o1,d0,d1,hB,hf=>by
  by_cases e:o=d
  .subst e;rw[h.same o o0 o1,h'.same o o0 o1];omega
  .obtain⟨k,l,k1,k2,k3,k4,k5⟩:=h.from_ o d o0 o1 d0 d1 e hB;have hp:=hc.pos k l k1 k2;obtain⟨_,t0,t1⟩:=hc.ends k l k1
   match f,hf with
   | 0,hf=>omega
   | f+1,hf=>
    obtain⟨i1,i2⟩:=h.mono hc h' hl f (lTo l) d t0 t1 d0 d1 k4 (by omega)
    obtain⟨k',l',g1,g2,g3,g4,g5⟩:=hl k l k1 k2;obtain⟨s1,s2⟩:=h'.step k' l' g1 g2 d d0 d1 (by rw[g4];exact i1)
    rw[g3,k3,g4]at s2;rw[g3,k3]at s1;exact⟨s1,by omega⟩
theorem J7.le {q:Nat} {ls ls':Ll} {c c':Li} {B B':Int->Int->Int} (h:J7 q ls c B) (hc:PK q ls c) (h':J7 q ls' c' B')
  (hl:∀(k:Nat) (l:Line),ls[k]?=some l->c.getD k 0≠fS->∃(k':Nat) (l':Line),ls'[k']?=some l'/\c'.getD k' 0≠fS/\br l'=br l/\lTo l'=lTo l/\c'.getD k' 0<=c.getD k 0)
  {o d:Int} (o0:0<=o) (o1:o<q) (d0:0<=d) (d1:d<q) (hB:0<=B o d):0<=B' o d/\B' o d<=B o d:=h.mono hc h' hl _ o d o0 o1 d0 d1 hB (qK _)
theorem NQ{ls:Ll}{c:Li}{l:Line}: ∀(m k:Nat),k<m->ls[k]?=some l->c.getD k 0≠fS->-(c.getD k 0)<=gk ls c m (br l) (lTo l)
 | m+1,k,hk,hl,hc=>by
  rw[iF];by_cases e:k=m
  .subst e;rw[if_pos ⟨hc,by rw[qA,hl];rfl,by rw[qA,hl];rfl⟩]
   omega
  .have ih:=NQ m k (by omega) hl hc
   split<;>omega
theorem BS{ls:Ll}{c:Li}{o d:Int}: ∀m:Nat,m<=ls.length->gk ls c m o d=fS\/∃(k:Nat) (l:Line),ls[k]?=some l/\c.getD k 0≠fS/\br l=o/\lTo l=d/\gk ls c m o d=-(c.getD k 0)
 | 0,_=>.inl rfl
 | m+1,hm=>by
  rw[iF];have hg:ls[m]?=some (ls[m]'(by omega)):=qB _
  have ed:ls.getD m (⟨#[]⟩,0,0,0,0,0)=ls[m]'(by omega):=by rw[qA,hg];rfl
  split
  .rename_i g;rw[ed]at g;rcases BS (ls:=ls) (c:=c) (o:=o) (d:=d) m (by omega)with h | ⟨k,l,h1,h2,h3,h4,h5⟩
   .by_cases q:fS<=-(c.getD m 0)
    .exact .inr ⟨m,_,hg,g.1,g.2.1,g.2.2,by rw[h];omega⟩
    .left;rw[h];omega
   .by_cases q:gk ls c m o d<=-(c.getD m 0)
    .exact .inr ⟨m,_,hg,g.1,g.2.1,g.2.2,by omega⟩
    .exact .inr ⟨k,l,h1,h2,h3,h4,by omega⟩
  .exact BS m (by omega)
theorem aBO{m:Lj}{p:Nat->Int}{q:Nat}(hm:∀i j:Int,0<=i->i<q->0<=j->j<q->at2 m i j<=-1): ∀(k:Nat) (z:Int),(∀s,s<=k->Mp.In q (p s))->PW m p k z->z<=-(k:Int)
 | 0,z,_,h=>by have h:z<=0:=h;omega
 | k+1,z,hp,⟨u,v,h1,h2,h3⟩=>by
  have ih:=aBO hm k u (λs hs=>hp s (by omega)) h1
  have a:=hp k (by omega)
  have b:=hp (k+1) (by omega)
  have:=hm _ _ a.1 a.2 b.1 b.2;have:=h2.2;omega
end Go.Eng.Sv
/-
 DERIVED: THE SHELF's CONTRACTS AT THIS DUMP,IN PLAIN WORDS (tools/lay-plain.mjs out of 'TryzLines.lean',which tools/lay-shelf.mjs wrote): THE SAME DECLARATIONS UNDER THE SAME NAMES: 'import','namespace','open','def','theorem' AND NOTHING ELSE: no command of the shelf's: FOR A HAND-IN. Each laying: the table of numbers ('.._ren') and one theorem,a field a fact of the dump's own or the kernel's comparison;each contract: ONE APPLICATION.
-/
namespace Go.Proofs
open Go.Shelf
def Tryz.keysA_ren:Go.Shelf.Ren:=⟨fun | 7=>112 | 10=>172 | n=>n,fun | 23=>165 | 26=>3 | 3=>4 | 28=>138 | 0=>0 | 27=>137 | 33=>143 | 4=>4 | n=>n,fun | n=>n⟩
theorem Tryz.keysA:Go.Proofs.SlLaysZI.n7 Tryz.prog Tryz.keysA_ren:={
 mixed:=by kernel_rfl
 f7:=⟨Tryz.f112.name,by decide,Tryz.func112.trans (congrArg some (by kernel_rfl))⟩
 f10:=⟨Tryz.f172.name,by decide,Tryz.func172.trans (congrArg some (by kernel_rfl))⟩
 t0:=Tryz.underlying0
 a0:=Tryz.isAgg0
 z0:=Tryz.sizeOf0
 v0:=Tryz.zeroValue0
 t4:=Tryz.underlying4
 a4:=Tryz.isAgg4
 z4:=Tryz.sizeOf4
 v4:=Tryz.zeroValue4
 t23:=Tryz.underlying165
 a23:=Tryz.isAgg165
 z23:=Tryz.sizeOf165
 v23:=Tryz.zeroValue165
 t26:=Tryz.underlying3
 a26:=Tryz.isAgg3
 z26:=Tryz.sizeOf3
 v26:=Tryz.zeroValue3
 t27:=Tryz.underlying137
 a27:=Tryz.isAgg137
 z27:=Tryz.sizeOf137
 v27:=Tryz.zeroValue137
 t28:=Tryz.underlying138
 a28:=Tryz.isAgg138
 z28:=Tryz.sizeOf138
 v28:=Tryz.zeroValue138
 t33:=Tryz.underlying143
 a33:=Tryz.isAgg143
 z33:=Tryz.sizeOf143
 v33:=Tryz.zeroValue143}
def Tryz.sortedA_ren:Go.Shelf.Ren:=⟨fun | 6=>111 | 8=>170 | 9=>171 | 11=>223 | 13=>225 | 12=>224 | 23=>276 | 24=>277 | 14=>268 | 15=>269 | 16=>270 | 17=>271 | 18=>272 | 19=>273 | 20=>258 | 21=>274 | 22=>275 | 25=>291 | 26=>292 | 27=>293 | 28=>294 | 29=>295 | 30=>287 | 31=>302 | n=>n,fun | 26=>3 | 28=>138 | 24=>36 | 0=>0 | 3=>3 | 37=>228 | 48=>255 | 50=>257 | 4=>4 | 40=>249 | 39=>248 | 45=>217 | 5=>5 | 9=>9 | 51=>260 | 55=>264 | 57=>266 | 58=>153 | 33=>143 | n=>n,fun | n=>n⟩
theorem Tryz.sortedA:Go.Proofs.SlLaysZI.n6 Tryz.prog Tryz.sortedA_ren:={
 mixed:=by kernel_rfl
 f6:=⟨Tryz.f111.name,by decide,Tryz.func111.trans (congrArg some (by kernel_rfl))⟩
 f8:=⟨Tryz.f170.name,by decide,Tryz.func170.trans (congrArg some (by kernel_rfl))⟩
 f11:=⟨Tryz.f223.name,by decide,Tryz.func223.trans (congrArg some (by kernel_rfl))⟩
 t0:=Tryz.underlying0
 a0:=Tryz.isAgg0
 z0:=Tryz.sizeOf0
 v0:=Tryz.zeroValue0
 t24:=Tryz.underlying36
 a24:=Tryz.isAgg36
 z24:=Tryz.sizeOf36
 v24:=Tryz.zeroValue36
 t26:=Tryz.underlying3
 a26:=Tryz.isAgg3
 z26:=Tryz.sizeOf3
 v26:=Tryz.zeroValue3
 t28:=Tryz.underlying138
 a28:=Tryz.isAgg138
 z28:=Tryz.sizeOf138
 v28:=Tryz.zeroValue138
 i26:=by kernel_rfl}
def Tryz.sortA_ren:Go.Shelf.Ren:=⟨fun | 5=>171 | 8=>225 | 7=>224 | 19=>276 | 20=>277 | 10=>268 | 11=>269 | 12=>270 | 13=>271 | 14=>272 | 15=>273 | 16=>258 | 17=>274 | 18=>275 | 30=>291 | 31=>292 | 32=>293 | 33=>294 | 34=>295 | 35=>287 | 40=>302 | n=>n,fun | 23=>36 | 25=>3 | 3=>3 | 32=>228 | 22=>36 | 0=>0 | 44=>255 | 46=>257 | 4=>4 | 36=>249 | 35=>248 | 41=>217 | 5=>5 | 9=>9 | 53=>260 | 57=>264 | 63=>266 | 64=>153 | n=>n,fun | n=>n⟩
theorem Tryz.sortA:Go.Proofs.SlLaysM.n5 Tryz.prog Tryz.sortA_ren:={
 mixed:=by kernel_rfl
 f5:=⟨Tryz.f171.name,by decide,Tryz.func171.trans (congrArg some (by kernel_rfl))⟩
 f7:=⟨Tryz.f224.name,by decide,Tryz.func224.trans (congrArg some (by kernel_rfl))⟩
 f8:=Tryz.func225.trans (congrArg some (by kernel_rfl))
 f10:=⟨Tryz.f268.name,by decide,Tryz.func268.trans (congrArg some (by kernel_rfl))⟩
 f11:=⟨Tryz.f269.name,by decide,Tryz.func269.trans (congrArg some (by kernel_rfl))⟩
 f12:=⟨Tryz.f270.name,by decide,Tryz.func270.trans (congrArg some (by kernel_rfl))⟩
 f13:=⟨Tryz.f271.name,by decide,Tryz.func271.trans (congrArg some (by kernel_rfl))⟩
 f14:=⟨Tryz.f272.name,by decide,Tryz.func272.trans (congrArg some (by kernel_rfl))⟩
 f15:=⟨Tryz.f273.name,by decide,Tryz.func273.trans (congrArg some (by kernel_rfl))⟩
 f16:=⟨Tryz.f258.name,by decide,Tryz.func258.trans (congrArg some (by kernel_rfl))⟩
 f17:=⟨Tryz.f274.name,by decide,Tryz.func274.trans (congrArg some (by kernel_rfl))⟩
 f18:=⟨Tryz.f275.name,by decide,Tryz.func275.trans (congrArg some (by kernel_rfl))⟩
 f19:=Tryz.func276.trans (congrArg some (by kernel_rfl))
 f20:=Tryz.func277.trans (congrArg some (by kernel_rfl))
 f30:=⟨Tryz.f291.name,by decide,Tryz.func291.trans (congrArg some (by kernel_rfl))⟩
 f31:=Tryz.func292.trans (congrArg some (by kernel_rfl))
 f32:=Tryz.func293.trans (congrArg some (by kernel_rfl))
 f33:=⟨Tryz.f294.name,by decide,Tryz.func294.trans (congrArg some (by kernel_rfl))⟩
 f34:=⟨Tryz.f295.name,by decide,Tryz.func295.trans (congrArg some (by kernel_rfl))⟩
 f35:=⟨Tryz.f287.name,by decide,Tryz.func287.trans (congrArg some (by kernel_rfl))⟩
 f40:=⟨Tryz.f302.name,by decide,Tryz.func302.trans (congrArg some (by kernel_rfl))⟩
 t0:=Tryz.underlying0
 a0:=Tryz.isAgg0
 z0:=Tryz.sizeOf0
 v0:=Tryz.zeroValue0
 t3:=Tryz.underlying3
 a3:=Tryz.isAgg3
 z3:=Tryz.sizeOf3
 v3:=Tryz.zeroValue3
 t4:=Tryz.underlying4
 a4:=Tryz.isAgg4
 z4:=Tryz.sizeOf4
 v4:=Tryz.zeroValue4
 t5:=Tryz.underlying5
 a5:=Tryz.isAgg5
 z5:=Tryz.sizeOf5
 v5:=Tryz.zeroValue5
 t9:=Tryz.underlying9
 a9:=Tryz.isAgg9
 z9:=Tryz.sizeOf9
 v9:=Tryz.zeroValue9
 t22:=Tryz.underlying36
 a22:=Tryz.isAgg36
 z22:=Tryz.sizeOf36
 v22:=Tryz.zeroValue36
 t23:=Tryz.underlying36
 a23:=Tryz.isAgg36
 z23:=Tryz.sizeOf36
 v23:=Tryz.zeroValue36
 t25:=Tryz.underlying3
 a25:=Tryz.isAgg3
 z25:=Tryz.sizeOf3
 v25:=Tryz.zeroValue3
 t32:=Tryz.underlying228
 a32:=Tryz.isAgg228
 z32:=Tryz.sizeOf228
 v32:=Tryz.zeroValue228
 t35:=Tryz.underlying248
 a35:=Tryz.isAgg248
 z35:=Tryz.sizeOf248
 v35:=Tryz.zeroValue248
 t36:=Tryz.underlying249
 a36:=Tryz.isAgg249
 z36:=Tryz.sizeOf249
 v36:=Tryz.zeroValue249
 t41:=Tryz.underlying217
 a41:=Tryz.isAgg217
 z41:=Tryz.sizeOf217
 v41:=Tryz.zeroValue217
 t44:=Tryz.underlying255
 a44:=Tryz.isAgg255
 z44:=Tryz.sizeOf255
 v44:=Tryz.zeroValue255
 t46:=Tryz.underlying257
 a46:=Tryz.isAgg257
 z46:=Tryz.sizeOf257
 v46:=Tryz.zeroValue257
 t53:=Tryz.underlying260
 a53:=Tryz.isAgg260
 z53:=Tryz.sizeOf260
 v53:=Tryz.zeroValue260
 t57:=Tryz.underlying264
 a57:=Tryz.isAgg264
 z57:=Tryz.sizeOf264
 v57:=Tryz.zeroValue264
 t63:=Tryz.underlying266
 a63:=Tryz.isAgg266
 z63:=Tryz.sizeOf266
 v63:=Tryz.zeroValue266
 t64:=Tryz.underlying153
 a64:=Tryz.isAgg153
 z64:=Tryz.sizeOf153
 v64:=Tryz.zeroValue153}
end Go.Proofs
namespace Go.Proofs
open Go.RowKit Go.Maps Go.Sort Go.Shelf
attribute [local go_sem] Oper.semAt_some
abbrev CoI:={x:Int // (Lit.int .i64 x).wf=true}
def aBA(zs:List Int)(hw:∀j:Nat,(Lit.int .i64 (zs[j]?.getD 0)).wf=true)(j:Nat): CoI:=⟨zs[j]?.getD 0,hw j⟩
def np(zs:List Int)(hw:∀j:Nat,(Lit.int .i64 (zs[j]?.getD 0)).wf=true)(o k:Nat): List CoI:=((List.range k).filter λj=>decide (j≠o)).map (aBA zs hw)
theorem H2(zs:List Int)(hw:∀j:Nat,(Lit.int .i64 (zs[j]?.getD 0)).wf=true)(o k:Nat): (np zs hw o k).length<=k:=by
 unfold np;rw[List.length_map];exact Nat.le_trans (List.length_filter_le _ _) (by rw[List.length_range];exact Nat.le_refl _)
theorem H3{zs:List Int}{hw:∀j:Nat,(Lit.int .i64 (zs[j]?.getD 0)).wf=true}{o k:Nat}(h:k≠o): np zs hw o (k+1)=np zs hw o k++[aBA zs hw k]:=by
 unfold np;rw[List.range_succ,List.filter_append,List.map_append,List.filter_cons,if_pos (by simp[h])]
 rfl
theorem OP{zs:List Int}{hw:∀j:Nat,(Lit.int .i64 (zs[j]?.getD 0)).wf=true}{o k:Nat}(h:k=o): np zs hw o (k+1)=np zs hw o k:=by
 unfold np;rw[List.range_succ,List.filter_append,List.map_append,List.filter_cons,if_neg (by simp[h])]
 exact List.append_nil _
theorem YV{zs:List Int}{hw:∀j:Nat,(Lit.int .i64 (zs[j]?.getD 0)).wf=true}{o k:Nat}(h:k<zs.length)(ho:k≠o): (np zs hw o k).length<(np zs hw o zs.length).length:=by
 have e:zs.length=k+1+(zs.length-(k+1)):=by omega
 have:np zs hw o (k+1) <+: np zs hw o zs.length:=by
  have g:∀m:Nat,np zs hw o (k+1) <+: np zs hw o (k+1+m):=λm=>by
   unfold np;rw[List.range_add (n:=k+1),List.filter_append,List.map_append];exact List.prefix_append _ _
  rw[e];exact g _
 have:=this.length_le;rw[H3 ho,List.length_append]at this;simp at this;omega
def uY(n₀:Nat)(W:World)(B1 B2 o:Nat)(zs:List Int): Prop:=
 B1<n₀/\B2<n₀/\W.cell? ⟨B2,0,none⟩=some (.int .i64 o)/\∃(b1 o1 n1 c1:Nat) (a2:Option Addr) (c2:Nat),W.cell? ⟨B1,2,none⟩=some (.slice (some ⟨b1,o1,none⟩) n1 c1)/\o<n1/\b1<n₀/\
  W.cell? ⟨b1,o1+o,none⟩=some (.slice a2 zs.length c2)/\(zs.length=0\/∃b2 o2,a2=some ⟨b2,o2,none⟩/\b2<n₀/\∀j,j<zs.length->W.cell? ⟨b2,o2+j,none⟩=some (.int .i64 (zs[j]?.getD 0)))
theorem uY.below {n₀:Nat} {A B:World} (h:Below n₀ A B) {B1 B2 o:Nat} {zs:List Int}:uY n₀ A B1 B2 o zs->uY n₀ B B1 B2 o zs:=by
 rintro⟨h1,h2,h3,b1,o1,n1,c1,a2,c2,h4,h5,h6,h7,h8⟩;refine⟨h1,h2,(h.cell (p:=⟨B2,0,none⟩) h2).trans h3,b1,o1,n1,c1,a2,c2,(h.cell (p:=⟨B1,2,none⟩) h1).trans h4,h5,h6,(h.cell (p:=⟨b1,o1+o,none⟩) h6).trans h7,?_⟩;rcases h8 with h8 | ⟨b2,o2,h8,h9,h10⟩
 .exact .inl h8
 .exact .inr ⟨b2,o2,h8,h9,λj hj=>(h.cell (p:=⟨b2,o2+j,none⟩) h9).trans (h10 j hj)⟩
theorem uY.mono {n₀ n₁:Nat} (h:n₀<=n₁) {W:World} {B1 B2 o:Nat} {zs:List Int}:uY n₀ W B1 B2 o zs->uY n₁ W B1 B2 o zs:=by
 rintro⟨h1,h2,h3,b1,o1,n1,c1,a2,c2,h4,h5,h6,h7,h8⟩;refine⟨by omega,by omega,h3,b1,o1,n1,c1,a2,c2,h4,h5,by omega,h7,?_⟩
 rcases h8 with h8 | ⟨b2,o2,h8,h9,h10⟩
 .exact .inl h8
 .exact .inr ⟨b2,o2,h8,by omega,h10⟩
set_option maxRecDepth 100000 in
set_option maxHeartbeats 4000000 in
theorem Ut(n:Nat)(hn:1<=n)(l B1 B2 o n₀:Nat)(zs:List Int)(hw:∀j:Nat,(Lit.int .i64 (zs[j]?.getD 0)).wf=true)(hreach:zs.length<=1000000)(J Jx:List CoI->World->Prop)
  (hY:∀pre x W,J pre W->pre.length<(np zs hw o zs.length).length->YieldAt Fence.wide (n-1) Tryz.prog l #[.int .i64 x.1] W λe W' =>
   (e=.returned (.bool true)/\J (pre++[x]) W'/\Below n₀ W W')\/(e=.returned (.bool false)/\Jx (pre++[x]) W'))
  (W:World) (hR:uY n₀ W B1 B2 o zs) (h0:J [] W):
  CallsIn Fence.wide n Tryz.prog 110 #[.func (.yield l) #[] #[],.pointer (some ⟨B1,0,none⟩),.pointer (some ⟨B2,0,none⟩)] W λe W'=>(∃v,e=.returned v)/\
   ((∃ys,ys=np zs hw o zs.length/\J ys W')\/(∃pre,True/\Jx pre W')):=by
 obtain⟨h1,h2,hO,b1,o1,n1,c1,a2,c2,hN,hon,hb1,hS,hZ⟩:=hR;refine callsIn_of_wp Tryz.func110 rfl trivial ?_ rfl;simp only[Tryz.ntmps110,List.size_toArray,List.length_cons,List.length_nil,Nat.reduceAdd,Nat.reduceSub,Array.replicate_succ,Array.replicate_zero,List.push_toArray,List.append_toArray,List.nil_append,List.cons_append];have ho63:(o:Int)<n1:=by omega
 gi_wp2
 gi_loopw [12] (λi wr=>∃k:Nat,k<=zs.length/\i=.int .i64 k/\J (np zs hw o k) wr/\Below n₀ W wr)
  (λi _=>zs.length-(intOf i).toNat)
 case atStart=>exact⟨0,Nat.zero_le _,rfl,h0,Below.refl _ _⟩
 case round=>
  obtain⟨k,hk,rfl,hJs,hnx⟩:=hrel;by_cases hlt:k<zs.length
  .rcases hZ with hZ | ⟨b2,o2,rfl,hb2,hZ⟩
   .omega
   have hcx':wr.cell? ⟨b2,o2+k,none⟩=some (.int .i64 (zs[k]?.getD 0)):=(hnx.cell (p:=⟨b2,o2+k,none⟩) hb2).trans (hZ k hlt);have hO':wr.cell? ⟨B2,0,none⟩=some (.int .i64 o):=(hnx.cell (p:=⟨B2,0,none⟩) h2).trans hO;by_cases hko:k=o
   .subst hko
    gi_wp2
    refine⟨λ_ h=>(by cases h),?_⟩
    gi_wp2
    go_roundw
    case rel=>exact⟨k+1,by omega,by simp,by rw[OP rfl];exact hJs,hnx⟩
    case measure=>simp[intOf];omega
   .obtain⟨fn,tmps,assign,body,hy,hR⟩:=hY _ (aBA zs hw k) wr hJs (YV hlt hko);dsimp only[aBA]at hy;generalize hx:zs[k]?.getD 0=x at hcx' hy;have hne:((k:Int) != (o:Int))=true:=by rw[bne_iff_ne];omega
    gi_wp2
    refine hR.mono ?_;rintro e W3 (⟨rfl,hJ3,hk3⟩ | ⟨rfl,hJx3⟩)
    .gi_wp2
     go_roundw
     case rel=>exact⟨k+1,by omega,by simp,by rw[H3 hko];exact hJ3,hnx.trans hk3⟩
     case measure=>simp[intOf];omega
    .gi_wp2
     refine bodyPost_ret (results_none rfl _ _ _) rfl ?_;exact⟨⟨_,rfl⟩,.inr ⟨_,trivial,hJx3⟩⟩
  .obtain rfl:k=zs.length:=by omega
   gi_wp2
   go_end0
   exact⟨⟨_,rfl⟩,.inl ⟨_,rfl,hJs⟩⟩
theorem Us(n:Nat)(hn:1<=n)(B1 B2 o n₀:Nat)(zs:List Int)(hw:∀j:Nat,(Lit.int .i64 (zs[j]?.getD 0)).wf=true)(hreach:zs.length<=1000000)(w:World)(hn₀:n₀<=w.heap.size)(hR:uY n₀ w B1 B2 o zs):
  SeqStopsK Fence.wide n Tryz.prog 110 #[.pointer (some ⟨B1,0,none⟩),.pointer (some ⟨B2,0,none⟩)] (λx:CoI=>#[Value.int .i64 x.1]) (Below n₀) (λys=>ys=np zs hw o zs.length) (λ_=>True) (np zs hw o zs.length).length w:=λl J Jx W hW _ _ hY h0=>
 Ut n hn l B1 B2 o n₀ zs hw hreach J Jx hY W (hR.below (hW.mono hn₀)) h0
set_option maxHeartbeats 1000000 in
theorem YU(n:Nat)(x:Int)(w:World): CallsIn Fence.wide n Tryz.prog 114 #[.int .i64 x] w λe w'=>e=.returned (.bool (x != -1))/\w'=w:=by
 refine callsIn_of_wp Tryz.func114 rfl trivial ?_ rfl;simp only[Tryz.ntmps114,List.size_toArray,List.length_cons,List.length_nil,Nat.reduceAdd,Nat.reduceSub,Array.replicate_succ,Array.replicate_zero,List.push_toArray,List.append_toArray,List.nil_append,List.cons_append]
 gi_wp2
 go_ret
 exact⟨rfl,rfl⟩
theorem cell_of_box_c{W:World}{B:Nat}{v:Value}{t:TypeId}(h:W.heap[B]?=some (.cells #[v] t (0,0))): W.cell? ⟨B,0,none⟩=some v/\W.frozen? ⟨B,0,none⟩=false:=by
 constructor<;>simp[World.cell?,World.frozen?,h]
theorem cell_new_c(W:World)(v:Value)(t:TypeId): (W.alloc (.cells #[v] t)).cell? ⟨W.heap.size,0,none⟩=some v/\(W.alloc (.cells #[v] t)).frozen? ⟨W.heap.size,0,none⟩=false:=
 cell_of_box_c (World.alloc_heap_new W _)
theorem cell_alloc_c{W:World}{a:Addr}{v:Value}(o:Obj)(h:W.cell? a=some v): (W.alloc o).cell? a=some v:=cell_kept h (World.grownBy_alloc W o none) (λr e=>by cases e)
def coD(xs:List CoI): DataW Unit:=xs.foldl (λD x=>if x.1=-1 then D else D.put (.int .i64 x.1) (.lit (.bool true))) (.map [])
theorem H4(pre:List CoI)(x:CoI): coD (pre++[x])=if x.1=-1 then coD pre else(coD pre).put (.int .i64 x.1) (.lit (.bool true)):=by simp[coD]
set_option maxRecDepth 100000 in
set_option maxHeartbeats 4000000 in
theorem JO(n:Nat)(hn:3<=n)(B1 B2 o:Nat)(zs:List Int)(hw:∀j:Nat,(Lit.int .i64 (zs[j]?.getD 0)).wf=true)(hreach:zs.length<=1000000)(w:World)(hR:uY w.heap.size w B1 B2 o zs):
  CallsIn Fence.wide n Tryz.prog 113 #[.func (.func 110) #[] #[.pointer (some ⟨B1,0,none⟩),.pointer (some ⟨B2,0,none⟩)],.func (.func 114) #[] #[]] w λe W'=>e=.returned (.map (some (w.heap.size+1)))/\
   W'.ownsMap Tryz.prog 3 (plainElem (H:=Unit) Tryz.prog 4) (w.heap.size+1) (np zs hw o zs.length).length (coD (np zs hw o zs.length))/\Below w.heap.size w W':=by
 have h1:1<=n:=by omega
 have hmm:=@run_makeMap Tryz.prog;refine callsIn_of_wp_marks Tryz.func113 rfl trivial ?_ rfl;simp only[Tryz.ntmps113,List.size_toArray,List.length_cons,List.length_nil,Nat.reduceAdd,Nat.reduceSub,Array.replicate_succ,Array.replicate_zero,List.push_toArray,List.append_toArray,List.nil_append,List.cons_append]
 gi_wp2
 have cG:=cell_new_c w (.func (.func 114) #[] #[]) 143;have hm0:=World.ownsMap_made (w.alloc (.cells #[.func (.func 114) #[] #[]] 143)) Tryz.prog 3 (plainElem (H:=Unit) Tryz.prog 4);have cS:=cell_new_c ((w.alloc (.cells #[.func (.func 114) #[] #[]] 143)).alloc (.map #[] 0)) (.map (some (w.heap.size+1))) 165;simp only[World.size_alloc]at cS hm0
 have hB0:Below w.heap.size w (((w.alloc (.cells #[.func (.func 114) #[] #[]] 143)).alloc (.map #[] 0)).alloc (.cells #[.map (some (w.heap.size+1))] 165)):=(((Below.refl _ w).alloc (Nat.le_refl _) _).alloc (by simp) _).alloc (by simp;omega) _
 refine wpIn_rangeFunc_ownG rfl h1 (gf:=110) (lb:=#[.pointer (some ⟨B1,0,none⟩),.pointer (some ⟨B2,0,none⟩)]) rfl trivial (enters_of Tryz.func110 (by kernel_rfl) rfl)
  (Us (n-1) (by omega) B1 B2 o w.heap.size zs hw hreach _ (by simp;omega) (hR.below hB0)) belowK_t (belowK_b (by simp;omega)) (Below.refl _ _) (λ_=>rfl)
  (λpre W=>(W.cell? ⟨w.heap.size,0,none⟩=some (.func (.func 114) #[] #[])/\W.cell? ⟨w.heap.size+1+1,0,none⟩=some (.map (some (w.heap.size+1)))/\W.ownsMap Tryz.prog 3 (plainElem (H:=Unit) Tryz.prog 4) (w.heap.size+1) pre.length (coD pre))/\Below w.heap.size w W)
  (λ_ _ _=>False)
  (OwnFrom.and (λs A B row hs hg hr=>⟨cell_kept hs.1 hg (λr e=>(hr r e).2),cell_kept hs.2.1 hg (λr e=>(hr r e).2),hs.2.2.kept hg (λe=>by have:=(hr _ e.symm).1;simp at this;omega)⟩) (ownFrom_below (Nat.le_refl _) (by simp;omega)))
  (λ_ _ _ _ _ hs _ _=>hs)
  ⟨⟨cell_alloc_c _ (cell_alloc_c _ cG.1),cS.1,hm0.alloc _⟩,hB0⟩
  (λx=>{tmps:=#[.func (.func 110) #[] #[.pointer (some ⟨B1,0,none⟩),.pointer (some ⟨B2,0,none⟩)],.func (.func 114) #[] #[],undef,.pointer (some ⟨w.heap.size,0,none⟩),.map none,.pointer (some ⟨w.heap.size+1+1,0,none⟩),.int .i64 x.1,.map (some (w.heap.size+1)),.func (.func 110) #[] #[.pointer (some ⟨B1,0,none⟩),.pointer (some ⟨B2,0,none⟩)],.int .i64 x.1,undef,undef,undef,undef,undef,undef],defers:=[]}) ?assign ?body ?done ?stop
 case assign=>
  intro l x W K hK
  gi_wp2
  exact hK
 case body=>
  rintro l pre x W ⟨⟨hg,hc,hown⟩,hB⟩ hlt;have hlen:=H2 zs hw o zs.length;have hmax:pre.length<maxLen:=by unfold maxLen;omega
  gi_wp2
  refine⟨trivial,λ_=>by omega,(CallsIn.inRound l (YU _ x.1 _)).mono ?_⟩
  rintro e w' ⟨rfl,rfl⟩
  gi_wp2_with (gi_at_mapUpdate;refine wpListIn_mapUpdate_own _ rfl _ _ _ 165 rfl 3 4 (Maps.int_keyed Tryz.underlying3) Tryz.underlying165 _ (w.heap.size+1) pre.length _ rfl hown hmax _ _ _ rfl rfl (Maps.keyOf_int_mk Tryz.underlying3 x.2) _ [] (plainElem_bool Tryz.underlying4 true) ?_;intro w1 hown1 hgrow1)
  .have hx:x.1≠-1:=by rename_i h;simpa using h
   obtain⟨es,ck,hh,_⟩:=hown;refine⟨KeepsFrom.of_grownBy hgrow1 (λj e=>by cases e;simp),(Below.refl _ _).grown hgrow1 hB.size (λk e=>by cases e;omega),
    ⟨cell_kept hg hgrow1 (λr e=>by cases e;exact⟨_,hh,rfl⟩),cell_kept hc hgrow1 (λr e=>by cases e;exact⟨_,hh,rfl⟩),by rw[H4,if_neg hx,List.length_append];exact hown1⟩,hB.grown hgrow1 hB.size (λk e=>by cases e;omega)⟩
  .have hx:x.1=-1:=by rename_i h;simpa using h
   exact⟨KeepsFrom.refl _ _,Below.refl _ _,⟨hg,hc,by rw[H4,if_pos hx,List.length_append];exact hown.mono (Nat.le_add_right _ _)⟩,hB⟩
 case done=>
  rintro D ys W hD rfl ⟨⟨hg,hc,hown⟩,hB⟩ hK
  gi_wp2
  refine⟨by simp,.inl ⟨_,_,rfl,run_takeDeferred hK,?_⟩⟩
  exact⟨_,results_tmp rfl _ _ _,rfl,hown.kept (grownBy_putObj' _ D _) (λe=>by cases e;simp at hD;omega),hB.trans (belowK_b (w:=w) (Nat.le_refl _) W D _ _ (by simp at hD;omega) hK rfl rfl)⟩
 case stop=>
  rintro D c pre W _ _ h _;exact h.elim
theorem Tryz.sortsA (m:Nat):AnyZI.SortsIn Tryz.prog Tryz.sortedA_ren Fence.wide m:=
 ⟨λblk off cap ss W hH hblk hsz=>callsIn_wide.2 (AnyM.slices_Sort_int Tryz.sortA blk off cap ss W hH hblk hsz),
  λp cap W=>callsIn_wide.2 (AnyM.slices_Sort_int_none Tryz.sortA p cap W)⟩
theorem F8{y:Int}: ∀(xs:List CoI) (D:DataW Unit),IsMap D->(has (xs.foldl (λD x=>if x.1=-1 then D else D.put (.int .i64 x.1) (.lit (.bool true))) D) (.int .i64 y)=true↔has D (.int .i64 y)=true\/(y≠-1/\y∈xs.map Subtype.val))
 | [],D,_=>by simp
 | x::xs,D,hD=>by
  rw[List.foldl_cons];by_cases hx:x.1=-1
  .rw[if_pos hx,F8 xs D hD,List.map_cons,List.mem_cons,hx];constructor
   .rintro(h | ⟨h,g⟩)
    .exact .inl h
    .exact .inr ⟨h,.inr g⟩
   .rintro(h | ⟨h,g | g⟩)
    .exact .inl h
    .exact absurd g h
    .exact .inr ⟨h,g⟩
  .rw[if_neg hx,F8 xs _ (hD.put _ _),List.map_cons,List.mem_cons];by_cases hy:y=x.1
   .subst hy;rw[has_put_same hD (by simp[WideAt.IsKeyLit])]
    exact⟨λ_=>.inr ⟨hx,.inl rfl⟩,λ_=>.inl rfl⟩
   .rw[has_put_other (by simpa using hy)]
    constructor
    .rintro(h | ⟨h,g⟩)
     .exact .inl h
     .exact .inr ⟨h,.inr g⟩
    .rintro(h | ⟨h,g | g⟩)
     .exact .inl h
     .exact absurd g hy
     .exact .inr ⟨h,g⟩
set_option maxRecDepth 100000 in
set_option maxHeartbeats 4000000 in
theorem Uu(cs:Array Value)(o:Nat)(zs:List Int)(hw:∀j:Nat,(Lit.int .i64 (zs[j]?.getD 0)).wf=true)(hreach:zs.length<=1000000)(gs:List Int)(hgs:gs.Pairwise (· < ·))(hmem:∀y,y∈gs↔y≠-1/\y∈(np zs hw o zs.length).map Subtype.val)(w:World)
  (hR:∀w1,w1=(w.alloc (.cells cs 35)).alloc (.cells #[.int .i64 o] 3)->uY w1.heap.size w1 w.heap.size (w.heap.size+1) o zs):
  Calls Tryz.prog 45 #[.agg cs,.int .i64 o] w λe w'=>∃(v:Value),e=.returned v/\
   w'.ownsRow w.heap.size 3 1 v gs.length (gs.map encZ)/\(v=.slice none 0 0↔gs=[])/\Below w.heap.size w w':=by
 refine(callsIn_wide (n:=6)).1 ?_;refine callsIn_of_wp Tryz.func45 rfl trivial ?_ rfl;simp only[Tryz.ntmps45,List.size_toArray,List.length_cons,List.length_nil,Nat.reduceAdd,Nat.reduceSub,Array.replicate_succ,Array.replicate_zero,List.push_toArray,List.append_toArray,List.nil_append,List.cons_append]
 gi_wp2
 obtain⟨w1,hw1⟩:∃w1,(w.alloc (.cells cs 35)).alloc (.cells #[.int .i64 o] 3)=w1:=⟨_,rfl⟩;have hR:=hR w1 hw1.symm;have hs1:w1.heap.size=w.heap.size+1+1:=by rw[<- hw1];simp
 have hB1:Below w.heap.size w w1:=by rw[<- hw1];exact((Below.refl _ w).alloc (Nat.le_refl _) _).alloc (by simp) _
 rw[hw1];refine⟨trivial,(JO 5 (by omega) w.heap.size (w.heap.size+1) o zs hw hreach w1 hR).mono ?_⟩
 rintro e w2 ⟨rfl,hown,hB2⟩;rw[hs1]at hB2 hown;have hcl:=H2 zs hw o zs.length;have hmax:Maps.size (coD (np zs hw o zs.length))<=maxLen:=Nat.le_trans hown.size_le (by unfold maxLen;omega)
 have hbytes:Maps.size (coD (np zs hw o zs.length))*8<=140737488355328:=Nat.le_trans (Nat.mul_le_mul_right 8 hown.size_le) (by omega)
 have hbl:=hown.lt;have hseq:SeqGives Fence.wide 2 Tryz.prog 172 #[.pointer (some ⟨w2.heap.size,0,none⟩)] encZ (λss=>ss.Perm (intKeys (coD (np zs hw o zs.length)))) (Maps.size (coD (np zs hw o zs.length))) (w2.alloc (.cells #[.map (some (w.heap.size+1+1+1))] 165)):=
  AnyZI.keys_gives (ρ:=Tryz.keysA_ren) {Tryz.keysA with} Fence.wide _ trivial rfl (by omega) w2.heap.size (w.heap.size+1+1+1) (np zs hw o zs.length).length (coD (np zs hw o zs.length)) _ (by simp) (by simp) (by
   obtain⟨es,clock,hb,Ft,hs,hD⟩:=hown;exact⟨es,clock,(Below.heap_alloc _ _ _ hbl).trans hb,Ft,hs,hD⟩)
 have cK:∀mb W,CallsIn Fence.wide 5 Tryz.prog 112 #[.map mb] W λe w'=>e=.returned (.func (.func 172) #[] #[.pointer (some ⟨W.heap.size,0,none⟩)])/\w'=W.alloc (.cells #[.map mb] 165):=λmb W=>AnyZI.keys_in Tryz.keysA Fence.wide 5 trivial rfl mb W
 have cS:=AnyZI.sorted_in Tryz.sortedA Fence.wide 5 trivial trivial trivial trivial rfl (by omega) (Tryz.sortsA _) (enters_of Tryz.func171 (by kernel_rfl) rfl) 172 #[.pointer (some ⟨w2.heap.size,0,none⟩)] trivial (enters_of Tryz.func172 (by kernel_rfl) rfl) _ _ hmax hbytes _ hseq
 change CallsIn _ _ Tryz.prog 111 _ _ _ at cS
 have hfK:Fence.wide.fn 112:=trivial;have hfS:Fence.wide.fn 111:=trivial
 gi_wp2_with (first
  | (gi_at_call 112;refine(cK _ _).mono ?_;rintro e w' ⟨rfl,rfl⟩)
  | (gi_at_call 111;refine cS.mono ?_;rintro e w' ⟨v,ss,rfl,hS,hrow,hnil,hb⟩))
 go_ret
 have hP:gs.Perm (intKeys (coD (np zs hw o zs.length))):=CollectedI.perm (left:=λ_=>false) ⟨hgs.imp (λh=>Int.ne_of_lt h),λx=>by
  rw[hmem x];unfold coD;rw[F8 _ _ isMap_empty];exact⟨λh=>⟨.inr h,rfl⟩,λ⟨h,_⟩=>h.resolve_left (by simp[has_eq])⟩⟩ hown (Maps.int_keyed Tryz.underlying3) Tryz.underlying3 (λ_=>rfl)
 have hP:gs.Perm ss:=hP.trans hS.symm;have hM:ss.mergeSort (λx y=>decide (x<=y))=gs:=(mergeSort_of_perm_i hP.symm).trans (List.mergeSort_of_pairwise (hgs.imp (λh=>decide_eq_true (Int.le_of_lt h))))
 rw[hM]at hrow;have hl:=hP.length_eq;rw[<- hl]at hrow;have hB3:Below w.heap.size w w2:=hB1.trans (hB2.mono (by omega))
 have hs2:=hB3.size;refine⟨v,rfl,ownsRow_base_a hrow (by simp;omega),hnil.trans ⟨λh=>(by subst h;exact hP.eq_nil),λh=>(by subst h;exact hP.symm.eq_nil)⟩,(hB3.alloc (by omega) _).trans (hb.mono (by simp;omega))⟩
end Go.Proofs
set_option maxRecDepth 100000
noncomputable section
namespace Go.Eng.Sv
open Go.Proofs
def pN(nx:Lj): Plan:=(0,0,nx,[])
def aBr(n:Net)(k o t:Int): Prop:=(lO n o/\Ao n k)/\0<=t/\t<=2200000
def FY(n:Net)(k o a b:Int): Li:=VI (aC n o) (bI n k).2.1 b ((b-a).toNat+1) a
def FX(n:Net)(k o a b:Int): Prop:=lO n o/\Ao n k/\0<=a/\a<b/\b<=1000000
def CL(n:Net)(k o a b:Int)(x:Nat×Int): Prop:=(a+x.1<=x.2/\x.2<=b)/\x.1<=(FY n k o a b).length/\(FY n k o a b).drop x.1=VI (aC n o) (bI n k).2.1 b ((b-a).toNat+1-x.1) x.2
def wA(n:Net)(nx:Lj)(k o d cut:Int): Int:=if jh n nx o d cut≠0 then jh n nx o d cut else if FW n (pN nx) k o d cut≠0 then FW n (pN nx) k o d cut else if Uw n (pN nx) k o d cut<0 then 1 else 0
def YN(n:Net)(nx:Lj)(k o d cut:Int): Int:=Uw n (pN nx) k o d cut
def zr(n:Net)(nx:Lj)(k o d cut:Int): Prop:=Aj n nx o d cut/\Ao n k
def aCU(n:Net)(nx:Lj)(a b:Int): Prop:=bn n=true/\nN n nx=true/\0<=a/\a<b/\b<=600/\b-a<=60
def aDS(n:Net)(o:Int): Prop:=0<=o/\o<n.2.2.2.1.length
def cellP(n:Net)(nx:Lj)(k o d a b:Int): Prop:=aCU n nx a b/\Ao n k/\aDS n o/\aDS n d
def JF(n:Net)(k o a b:Int): Li:=FY n k o (1440*a) (1440*b)
def PS(n:Net)(nx:Lj)(k o d a b:Int)(j:Nat): Int:=(((JF n k o a b).take j).map (YN n nx k o d)).foldl max (-1)
def ND(n:Net)(nx:Lj)(k o d a b:Int): Int:=HK ((JF n k o a b).map (wA n nx k o d))
def tr(n:Net)(nx:Lj)(k o d a b:Int): Int:=if ND n nx k o d a b=0 then PS n nx k o d a b (JF n k o a b).length else -1
def BH(n:Net)(nx:Lj)(k o d a b:Int)(j:Nat): Prop:=cellP n nx k o d a b/\j<=(JF n k o a b).length/\∀i:Nat,i<j->wA n nx k o d ((JF n k o a b).getD i 0)=0
theorem Wn(k o t:Int)(cs:LC)(ns os:LB)(fs:Lo)(ls:Ll)(ks:Lk)(hvc:
 let c1:=(cs,ns,os,fs,ls,ks);let c4:=(aC c1 o);let c5:=(Du ks (Dc k) (ByteArray.mk #[],(0:Int),(0:Int))).2.2;let c6:=ak c1 o t;true/\(aBr c1 k o t->lO c1 o/\0<=k/\k<Df ks/\fB c1 o t/\An c4 c5 c6/\fM c4 c5 c6=Ud c1 k o t/\jF c4 c5 c6=Zv c1 k o t/\True)):
  evF (mkc KR5) aA 103 [.ip N (cs,ns,os,fs,ls,ks),.dat I k,.dat I o,.dat I t] [] ⟨aBr (cs,ns,os,fs,ls,ks) k o t,.tup [.dat I (Ud (cs,ns,os,fs,ls,ks) k o t),.dat I (Zv (cs,ns,os,fs,ls,ks) k o t)],[]⟩:=oE hvc
theorem QC(k o a b:Int)(n:Net)(hvc:
 true/\(True->a=a/\n=n/\o=o/\k=k/\b=b/\True)):
  evF (mkc KR2) aA 116 [.ip N n,.dat I k,.dat I o,.dat I a,.dat I b] [] ⟨True,.fn 173 [.ip I a,.ipv (.ip N n),.ip I o,.ip I k,.ip I b],[]⟩:=oE hvc
def aA1(n:Net)(k o a b:Int): GG:=⟨λid y=>match id with
 | 1=>some {α:=Nat×Int,inv:=λx=>CL n k o a b x,st:=λx=>⟨put y.s [(7,.dat I x.2)],x.1,true⟩,μ:=λx=>Dc (Dh (Dq b 1) x.2)}
 | _=>none,λ_ _=>none,λid=>id==2⟩
theorem QD(k o a b:Int)(n:Net)(hvc:
 let c2:=(aC n o).2;let c3:=((aC n o).1,c2.1,c2.2);let c4:=(Du n.2.2.2.2.2 (Dc k) (ByteArray.mk #[],(0:Int),(0:Int))).2.1;let c5:=FY n k o a b;let c6:=Dj c5;let c7:=b+1;true/\true/\true/\false=false/\∀(l:Nat),FX n k o a b->(∃(x:Nat×Int),CL n k o a b x/\(l=l/\a=a/\n=n/\o=o/\k=k/\b=b/\a=x.2/\a=a/\True)/\0=x.1/\true)/\∀(x:Nat×Int),let c8:=Ea (jF c3 c4 x.2) 0;let c9:=Di c8;let c10:=fM c3 c4 x.2;let c11:=Eb c8 true (Ed c10 b);let c12:=Di c11;let c1:=Dk true c12->c12;let c13:=x.1+(1);let c14:=c10+1;let c15:=Eb c11 true (Di false);CL n k o a b x->lO n o/\0<=k/\k<Df n.2.2.2.2.2/\An c3 c4 x.2/\(c9->c9->c9)/\(c9->c9->c9)/\(Dk true c9->c9)/\(c12->(c12->c12)/\(c12->c12)/\l=l/\true/\lX c5 x.1 c10/\∀(b_1:Bool),let c16:=Eb c11 true (Di b_1);c1/\(c16->b_1->c13=c6)/\(c16=false->inR .i64 c14/\∃(y:Nat×Int),CL n k o a b y/\((l=l/\a=a/\n=n/\o=o/\k=k/\b=b/\c14=y.2/\a=a/\True)/\c13=y.1/\b_1)/\Dc (c7-y.2)<Dc (c7-x.2)))/\(c12=false->(c12->c12->c12)/\c1/\(c15->true->x.1=c6)/\(c15=false->inR .i64 c14/\∃(y:Nat×Int),CL n k o a b y/\((l=l/\a=a/\n=n/\o=o/\k=k/\b=b/\c14=y.2/\a=a/\True)/\x.1=y.1/\true)/\Dc (c7-y.2)<Dc (c7-x.2)))):
  evI (mkc KR3) (aA1 n k o a b) 173 [.ip I a,.ipv (.ip N n),.ip I o,.ip I k,.ip I b] ⟨FX n k o a b,I,FY n k o a b⟩:=oE hvc
def KC0: Kt:=kOr 140 (ay [.row C,.val I,.val I] (λ(c,a,b,_)=>countP c.1 c.2.1 c.2.2 a b) λ(c,a,b,_)=>.dat I (nj c.2.1 c.2.2 a b)) <|
 kOr 103 (ay [.ptr N,.val I,.val I,.val I] (λ(n,k,o,t,_)=>aBr n k o t) λ(n,k,o,t,_)=>.tup [.dat I (Ud n k o t),.dat I (Zv n k o t)]) <|
 kOr 116 (ay [.ptr N,.val I,.val I,.val I,.val I] (λ_=>True) λ(n,k,o,a,b,_)=>.fn 173 [.ip I a,.ipv (.ip N n),.ip I o,.ip I k,.ip I b]) KR5
def aBF: Cfg:=mkp KC0 (λ_=>false) KPw (λf=>f==97||f==95||f==102)
theorem QB(k o d cut:Int)(nx:Lj)(cs:LC)(ns os:LB)(fs:Lo)(ls:Ll)(ks:Lk)(hvc:
 let c1:=(cs,ns,os,fs,ls,ks);let c2:=jh c1 nx o d cut;let c3:=isZero c2;let c4:=wA c1 nx k o d cut;let c5:=isZero c4;let c6:=chainOf (Value.iface (39) (Value.int IntKind.i64 c4));let c7:=uK c1 nx o d cut;let c8:=Df c7;let c9:=c8-1;let c10:=(Du c7 (Dc c9) ((0:Int),(0:Int),(0:Int),(0:Int))).2.1;let c11:=Zv c1 k d c10;let c12:=isZero c11;let c13:=aC c1 d;let c18:=Ud c1 k d c10;let c19:=fu c13.1 cut;let c20:=fu c13.1 c18;let c21:=nj c13.2.1 c13.2.2 c19 c20;let c22:=Ed c21 0;true/\(zr c1 nx k o d cut->(true->Aj c1 nx o d cut/\(c3=false->c5=false/\true/\chainOf (Value.iface (39) (Value.int IntKind.i64 c2))=c6))/\((true->c3)->(Aj c1 nx o d cut/\c3)/\inR .i64 c9/\0<=c9/\c9<c8/\aBr c1 k d c10/\(true->True/\(c12=false->c5=false/\true/\chainOf (Value.iface (39) (Value.int IntKind.i64 c11))=c6))/\((true->c12)->(True/\c12)/\lO c1 d/\1=1/\0=0/\1=1/\0=0/\gw c13.1 c13.2.1 c13.2.2 cut/\1=1/\0=0/\gw c13.1 c13.2.1 c13.2.2 c18/\1=1/\0=0/\countP c13.1 c13.2.1 c13.2.2 c19 c20/\(true->True/\(c22=false->c5=false/\true/\chainOf (Value.iface (39) (Value.int IntKind.i64 (1:Int)))=c6))/\((true->c22)->(True/\c22)/\c5/\c21=YN c1 nx k o d cut/\True))))):
  evC aBF aA 117 [.ip N (cs,ns,os,fs,ls,ks),.dat M nx,.dat I k,.dat I o,.dat I d,.dat I cut] (.dat I (YN (cs,ns,os,fs,ls,ks) nx k o d cut)) ⟨zr (cs,ns,os,fs,ls,ks) nx k o d cut,isZero (wA (cs,ns,os,fs,ls,ks) nx k o d cut),uJ 39 (wA (cs,ns,os,fs,ls,ks) nx k o d cut)⟩:=oE hvc
def KC1: Kt:=kOr 117 (ay [.ptr N,.val M,.val I,.val I,.val I,.val I] (λ(n,nx,k,o,d,c,_)=>zr n nx k o d c/\isZero (wA n nx k o d c)=true) λ(n,nx,k,o,d,c,_)=>.dat I (YN n nx k o d c)) KC0
def aFc: KPt:=pOr 117 (uS [.ptr N,.val M,.val I,.val I,.val I,.val I] λ(n,nx,k,o,d,c,_)=>⟨zr n nx k o d c,isZero (wA n nx k o d c),uJ 39 (wA n nx k o d c)⟩) KPw
def KIC: FuncId->List AV->Option ja:=λf caps=>if f=173 then match ofK [.ptr I,.bp N,.ptr I,.ptr I,.ptr I] caps with
 | some (a,n,o,k,b,_)=>some ⟨FX n k o a b,I,FY n k o a b⟩
 | none=>none
 else none
noncomputable def aBD: Cfg:=⟨Tryz.prog,G0,KC1,λ_=>false,KIC,true,aFc,λf=>f==117⟩
def aDU(n:Net)(nx:Lj)(k o d a b:Int): Ann:=⟨λid s=>match id with
 | 4=>some {α:=Nat,inv:=λj=>BH n nx k o d a b j,st:=λj=>iM (flat s) 0 (.var [.dat I (PS n nx k o d a b j)]),μ:=λj=>j}
 | _=>none,λ_ _=>none,λ_ _=>none⟩
theorem QA(k o d a b:Int)(nx:Lj)(n:Net)(hvc:
 let c1:=1440*a;let c2:=1440*b;let c3:=FY n k o c1 c2;let c4:=tr n nx k o d a b;(true/\true)/\(cellP n nx k o d a b->true/\1=1/\0=0/\inR .i64 c1/\inR .i64 c2/\True/\FX n k o c1 c2/\(∃x,BH n nx k o d a b x/\x=0/\n=n/\nx=nx/\k=k/\o=o/\d=d/\a=a/\b=b/\n=n/\nx=nx/\k=k/\o=o/\d=d/\1=1/\0=0/\0=0/\1=1/\0=0/\0=0/\n=n/\k=k/\o=o/\a=a/\c1=c1/\b=b/\c2=c2/\c1=c1/\n=n/\o=o/\k=k/\c2=c2/\(-1:Int)=PS n nx k o d a b x/\1=1/\0=0/\0=0/\True)/\(∀(x:Nat),let c5:=PS n nx k o d a b x;∀(y:Int),let c6:=isZero (wA n nx k o d y);BH n nx k o d a b x->lX c3 x y->1=1/\0=0/\zr n nx k o d y/\(c6->1=1/\0=0/\(zr n nx k o d y/\c6)/\1=1/\0=0/\∃z,BH n nx k o d a b z/\z=x+(1)/\n=n/\nx=nx/\k=k/\o=o/\d=d/\a=a/\b=b/\n=n/\nx=nx/\k=k/\o=o/\d=d/\1=1/\0=0/\0=0/\1=1/\0=0/\0=0/\n=n/\k=k/\o=o/\a=a/\c1=c1/\b=b/\c2=c2/\c1=c1/\n=n/\o=o/\k=k/\c2=c2/\Ez c5 (YN n nx k o d y)=PS n nx k o d a b z/\1=1/\0=0/\0=0/\True)/\(c6=false->true/\true/\(Di false->1=1/\0=0/\1=1/\0=0/\(-1:Int)=c4/\True)/\(Di false=false->1=1/\0=0/\c5=c4/\True)))/\∀(x:Nat),BH n nx k o d a b x->x=Dj c3->1=1/\0=0/\1=1/\0=0/\true/\true/\(Di true->1=1/\0=0/\1=1/\0=0/\(-1:Int)=c4/\True)/\(Di true=false->1=1/\0=0/\PS n nx k o d a b x=c4/\True))):
  evR aBD (λ_ _ _=>none) aA (aDU n nx k o d a b) aA 55 [.ip N n,.dat M nx,.dat I k,.dat I o,.dat I d,.dat I a,.dat I b] ⟨cellP n nx k o d a b,.dat I (tr n nx k o d a b),[]⟩:=oE hvc
theorem Xh(k o t:Int)(cs:LC)(ns os:LB)(fs:Lo)(ls:Ll)(ks:Lk): af Tryz.prog G0 103 [.ip N (cs,ns,os,fs,ls,ks),.dat I k,.dat I o,.dat I t] [] ⟨aBr (cs,ns,os,fs,ls,ks) k o t,.tup [.dat I (Ud (cs,ns,os,fs,ls,ks) k o t),.dat I (Zv (cs,ns,os,fs,ls,ks) k o t)],[]⟩:=by
 refine ae (c:=mkc KR5) aEX aL hm (Wn k o t cs ns os fs ls ks ⟨rfl,λhp=>?_⟩)
 simp only[qc,Df,Dc,Du];obtain⟨⟨ho,hk⟩,t0,t1⟩:=hp;have hr:=Na (t:=t) cs ns os fs ls ks ho;have hv:=(dZ cs ns os fs ls ks ho).2.2.1;have hc:=(me cs ns os fs ls ks ho.1 hk).2
 exact⟨ho,hk.1,hk.2,⟨ho,by omega,by omega⟩,⟨hv,hc.1,by show(bI (cs,ns,os,fs,ls,ks) k).2.2<1440;omega,by omega,by omega⟩,rfl,rfl⟩
theorem Xi(k o a b:Int)(n:Net): af Tryz.prog G0 116 [.ip N n,.dat I k,.dat I o,.dat I a,.dat I b] [] ⟨True,.fn 173 [.ip I a,.ipv (.ip N n),.ip I o,.ip I k,.ip I b],[]⟩:=
 ae (c:=mkc KR2) uX aL hm (QC k o a b n ⟨rfl,λ_=>⟨rfl,rfl,rfl,rfl,rfl,trivial⟩⟩)
theorem Xj(k o a b:Int)(n:Net): mW Tryz.prog G0 173 [.ip I a,.ipv (.ip N n),.ip I o,.ip I k,.ip I b] ⟨FX n k o a b,I,FY n k o a b⟩:=by
 refine jC (c:=mkc KR3) (A:=aA1 n k o a b) aCB aL hm (QD k o a b n ⟨rfl,rfl,rfl,rfl,λl ⟨hoff,hcl,a0,hab,b1⟩=>?_⟩)
 have eN:(n.1,n.2.1,n.2.2.1,n.2.2.2.1,n.2.2.2.2.1,n.2.2.2.2.2)=n:=rfl;have eC:∀c:Int×List Bool×Li,(c.1,c.2.1,c.2.2)=c:=λ_=>rfl
 have eK:n.2.2.2.2.2.getD k.toNat (⟨#[]⟩,0,0)=bI n k:=rfl;have hv:ax (aC n o).1 (aC n o).2.1 (aC n o).2.2=true:=(dZ n.1 n.2.1 n.2.2.1 n.2.2.2.1 n.2.2.2.2.1 n.2.2.2.2.2 hoff).2.2.1;obtain⟨⟨m0,m1⟩,_⟩:=me n.1 n.2.1 n.2.2.1 n.2.2.2.1 n.2.2.2.2.1 n.2.2.2.2.2 hoff.1 hcl;have m0:0<=(bI n k).2.1:=m0;have m1:(bI n k).2.1<=1439:=m1
 simp only[qc,Dk,Di,qd,Ea,Ed,Df,Dc,Dj,Du,eC,eK,yF,xQ,and_false,qCr];refine⟨⟨(0,a),⟨⟨by simp only;omega,by simp only;omega⟩,wY _,rfl⟩,rfl,rfl⟩,?_⟩
 rintro⟨j,t⟩ ⟨⟨t0,t1⟩,k1,hk⟩;simp only at t0 t1 k1 hk ⊢;have hU:(b-a).toNat+1-j=((b-a).toNat+1-(j+1))+1:=by omega
 have hst:VI (aC n o) (bI n k).2.1 b ((b-a).toNat+1-j) t=if jF (aC n o) (bI n k).2.1 t=0 then if fM (aC n o) (bI n k).2.1 t<b then fM (aC n o) (bI n k).2.1 t::VI (aC n o) (bI n k).2.1 b ((b-a).toNat+1-(j+1)) (fM (aC n o) (bI n k).2.1 t+1)else[]else[]:=by rw[hU];rfl
 rw[hst]at hk;have hlen:∀{l:Li},(FY n k o a b).drop j=l->(FY n k o a b).length=j+l.length:=λh=>by
  have:=yD List.length h;rw[wB]at this;omega
 refine⟨hoff,hcl.1,hcl.2,⟨hv,m0,by omega,by omega,by omega⟩,λ⟨h1,h2⟩=>?_,λh=>?_⟩
 .have h2':fM (aC n o) (bI n k).2.1 t<b:=by omega
  obtain⟨b1,b2⟩:=iG hv h1 m0 m1;rw[if_pos h1,if_pos h2']at hk;have hl:=hlen hk;rw[wS]at hl;refine⟨?_,λbb=>⟨λh hb=>?_,λ⟨_,hb⟩=>⟨aO (by omega),(j+1,fM (aC n o) (bI n k).2.1 t+1),⟨⟨by simp only;omega,by simp only;omega⟩,by simp only;omega,?_⟩,⟨rfl,rfl,hb⟩,by simp only;omega⟩⟩⟩
  .show(FY n k o a b)[j]?=some _;have:=yD (λl=>l[0]?) hk
   simpa[qY]using this
  .rcases h with(h | h) | h
   .exact absurd h1 h
   .omega
   .rw[h]at hb;cases hb
  .show(FY n k o a b).drop (j+1)=_;have:=yD (List.drop 1) hk
   rwa [yK]at this
 .have:(FY n k o a b).drop j=[]:=by
   rw[hk];by_cases h1:jF (aC n o) (bI n k).2.1 t=0
   .rw[if_pos h1,if_neg (by omega)]
   .rw[if_neg h1]
  have hl:=hlen this;rw[yU]at hl;omega
theorem aE7: al Tryz.prog G0 KC0:=aj (ag λ((z,w,h),a,b,_)=>MJ z w h a b)<|aj (ag λ((cs,ns,os,fs,ls,ks),k,o,t,_)=>Xh k o t cs ns os fs ls ks)<|aj (ag λ(n,k,o,a,b,_)=>Xi k o a b n) aEX
theorem Kv{n:Net}{nx:Lj}{o d t:Int}(h:uK n nx o d t≠[]): ((uK n nx o d t).getD ((uK n nx o d t).length-1) (0,0,0,0)).2.1=k9 n (pN nx) o d t:=by
 show _=((uK n nx o d t).getLastD (0,0,0,0)).2.1;rw[yO,List.getLast?_eq_getElem?,qA]
theorem Uf{n:Net}{nx:Lj}{k o d cut:Int}(h:jh n nx o d cut≠0): wA n nx k o d cut=jh n nx o d cut:=if_pos h
theorem Ug{n:Net}{nx:Lj}{k o d cut:Int}(h:jh n nx o d cut=0)(h2:FW n (pN nx) k o d cut≠0): wA n nx k o d cut=FW n (pN nx) k o d cut:=by
 unfold wA;rw[if_neg (λg=>g h),if_pos h2]
theorem HY{n:Net}{nx:Lj}{k o d cut:Int}(h:jh n nx o d cut=0)(h2:FW n (pN nx) k o d cut=0): wA n nx k o d cut=if Uw n (pN nx) k o d cut<0 then 1 else 0:=by
 unfold wA;rw[if_neg (λg=>g h),if_neg (λg=>g h2)]
theorem LV(k o d cut:Int)(nx:Lj)(cs:LC)(ns os:LB)(fs:Lo)(ls:Ll)(ks:Lk): af Tryz.prog G0 117 [.ip N (cs,ns,os,fs,ls,ks),.dat M nx,.dat I k,.dat I o,.dat I d,.dat I cut] [] ⟨zr (cs,ns,os,fs,ls,ks) nx k o d cut/\isZero (wA (cs,ns,os,fs,ls,ks) nx k o d cut)=true,.dat I (YN (cs,ns,os,fs,ls,ks) nx k o d cut),[]⟩/\cX Tryz.prog G0 117 [.ip N (cs,ns,os,fs,ls,ks),.dat M nx,.dat I k,.dat I o,.dat I d,.dat I cut] [] ⟨zr (cs,ns,os,fs,ls,ks) nx k o d cut,isZero (wA (cs,ns,os,fs,ls,ks) nx k o d cut),uJ 39 (wA (cs,ns,os,fs,ls,ks) nx k o d cut)⟩:=by
 refine dE (c:=aBF) aE7 aL hm VR (QB k o d cut nx cs ns os fs ls ks ⟨rfl,λhp=>?_⟩)
 obtain⟨n,hn⟩:∃n:Net,n=(cs,ns,os,fs,ls,ks):=⟨_,rfl⟩;rw[<- hn]at hp ⊢;obtain⟨hW,hcl⟩:=id hp;obtain⟨hs,ht,u0,u1,o0,o1,v0,v1⟩:=id hW;have hno:noF n=true:=bm n.1 n.2.1 n.2.2.1 n.2.2.2.1 n.2.2.2.2.1 n.2.2.2.2.2 hs;have hd:lO n d:=⟨hno,o0,o1⟩;have hv:ax (aC n d).1 (aC n d).2.1 (aC n d).2.2=true:=(dZ n.1 n.2.1 n.2.2.1 n.2.2.2.1 n.2.2.2.2.1 n.2.2.2.2.2 hd).2.2.1;obtain⟨⟨z1,z2,_,_⟩,_⟩:=bM.1 hv
 obtain⟨_,⟨m0,m1⟩⟩:=me n.1 n.2.1 n.2.2.1 n.2.2.2.1 n.2.2.2.2.1 n.2.2.2.2.2 hno hcl;have m0:0<=(bI n k).2.2:=m0;have m1:(bI n k).2.2<=1439:=m1;simp only[qc,qd,Ed,Df,Dc,Du];refine⟨⟨hW,λhz=>?_⟩,λhz=>⟨⟨hW,hz⟩,?_⟩⟩
 .have hz0:=fj.1 hz;rw[Uf hz0];exact⟨hz,rfl⟩
 have hz0:=cZ.1 hz;obtain⟨w1,w2,w3,w4⟩:(uK n nx o d cut).length<=20/\uK n nx o d cut≠[]/\cut<=k9 n (pN nx) o d cut/\k9 n (pN nx) o d cut<=2200000:=rZ 19 o cut hW hz0;have hlen:0<(uK n nx o d cut).length:=List.length_pos_iff.2 w2;have eI:((uK n nx o d cut).length-1:Int).toNat=(uK n nx o d cut).length-1:=by omega
 rw[eI,Kv w2];obtain⟨T,hT⟩:∃T,T=k9 n (pN nx) o d cut:=⟨_,rfl⟩;rw[<- hT]at w3 w4 ⊢;have eE:Zv n k d T=FW n (pN nx) k o d cut:=by rw[hT];rfl
 have eD:Ud n k d T=aBp n (pN nx) k o d cut:=by rw[hT];rfl
 refine⟨aO (by omega),by omega,by omega,⟨⟨hd,hcl⟩,by omega,w4⟩,λh0=>?_,λh0=>⟨h0,hd,?_⟩⟩
 .have h00:=fj.1 h0;rw[eE]at h00 h0 ⊢;rw[Ug hz0 h00];exact⟨h0,rfl⟩
 have h00:=cZ.1 h0;have hf0:jF (aC n d) (bI n k).2.2 (ak n d T)=0:=h00;obtain⟨b1,b2⟩:=iG hv hf0 m0 m1;have hr:fB n d T:=⟨hd,by omega,by omega⟩
 obtain⟨_,_,r1,r2⟩:inR .i64 ((bO n d).2.2.2.2.1*(bO n d).2.2.2.2.2.1)/\inR .i64 (ak n d T)/\T<=ak n d T/\ak n d T<=T+960:=ny n.1 n.2.1 n.2.2.1 n.2.2.2.1 n.2.2.2.2.1 n.2.2.2.2.2 hr;have b1:ak n d T<=Ud n k d T:=b1;have b2:Ud n k d T<=ak n d T+90000:=b2;have dB:∀t:Int,0<=t->t<=3000000->bW (fu (aC n d).1 t)=true:=λt t0 t1=>jD (by unfold fu;omega) (by unfold fu;omega)
 have eV:nj (aC n d).2.1 (aC n d).2.2 (fu (aC n d).1 cut) (fu (aC n d).1 (Ud n k d T))=Uw n (pN nx) k o d cut:=by rw[eD];rfl
 have eR:FW n (pN nx) k o d cut=0:=eE▸h00;refine⟨⟨hv,by omega,by omega⟩,⟨hv,by omega,by omega⟩,⟨hv,dB _ (by omega) (by omega),dB _ (by omega) (by omega)⟩,λh1=>?_,λh1=>⟨h1,?_,eV⟩⟩
 .rw[eV]at h1;rw[HY hz0 eR,if_pos (by omega)];exact⟨rfl,rfl⟩
 .rw[eV]at h1;rw[HY hz0 eR,if_neg (by omega)];rfl
theorem aBU: al Tryz.prog G0 KC1:=aj (ag λ((cs,ns,os,fs,ls,ks),nx,k,o,d,c,_)=>(LV k o d c nx cs ns os fs ls ks).1) aE7
theorem Zf: bL Tryz.prog G0 aFc:=iC (i7 λ((cs,ns,os,fs,ls,ks),nx,k,o,d,c,_)=>(LV k o d c nx cs ns os fs ls ks).2) VR
theorem aB5: bu Tryz.prog G0 KIC:=by
 intro f caps it h;unfold KIC at h;split at h
 case isFalse=>cases h
 rename_i hf;subst hf;split at h
 case h_2=>cases h
 rename_i a n o k b _ hx;cases h;exact λhp l J JX JP w D us hD hG hu=>Xj k o a b n hp l J JX JP w D us hD hG (eZ hx hu)
theorem Uh{n:Net}{k o a b x:Int}(h:FX n k o a b)(hx:x∈FY n k o a b): a<=x/\x<b:=by
 have hv:ax (aC n o).1 (aC n o).2.1 (aC n o).2.2=true:=(dZ n.1 n.2.1 n.2.2.1 n.2.2.2.1 n.2.2.2.2.1 n.2.2.2.2.2 h.1).2.2.1;obtain⟨⟨m0,m1⟩,_⟩:=me n.1 n.2.1 n.2.2.1 n.2.2.2.1 n.2.2.2.2.1 n.2.2.2.2.2 h.1.1 h.2.1;have m0:0<=(bI n k).2.1:=m0;have m1:(bI n k).2.1<=1439:=m1;have:∀(f:Nat) (t:Int),x∈VI (aC n o) (bI n k).2.1 b f t->t<=x/\x<b:=λf=>by
  induction f with
  | zero=>intro t h;cases h
  | succ f ih=>
   intro t h;rw[VI]at h;split at h
   .rename_i he;obtain⟨b1,b2⟩:=iG hv he m0 m1;split at h
    .rcases zA.1 h with rfl | h
     .exact⟨b1,by assumption⟩
     .have:=ih _ h;omega
    .cases h
   .cases h
 exact this _ _ hx
theorem Yi{n:Net}{nx:Lj}{k o d a b y:Int}{j:Nat}(h:(JF n k o a b)[j]?=some y): PS n nx k o d a b (j+1)=max (PS n nx k o d a b j) (YN n nx k o d y):=by
 unfold PS;rw[wZ,h,qBs,yS,qBw];rfl
theorem Xg(k o d a b:Int)(nx:Lj)(n:Net): af Tryz.prog G0 55 [.ip N n,.dat M nx,.dat I k,.dat I o,.dat I d,.dat I a,.dat I b] [] ⟨cellP n nx k o d a b,.dat I (tr n nx k o d a b),[]⟩:=by
 refine qa (c:=aBD) (λ_ _ _ _ h=>by cases h) aBU aB5 hm Zf (QA k o d a b nx n ⟨⟨rfl,rfl⟩,λhp=>?_⟩)
 simp only[qc,Di,Dj,Ez];obtain⟨⟨hs,ht,a0,ab,b6,b60⟩,hcl,ho,hd⟩:=id hp;have hno:noF n=true:=bm n.1 n.2.1 n.2.2.1 n.2.2.2.1 n.2.2.2.2.1 n.2.2.2.2.2 hs;have hX:FX n k o (1440*a) (1440*b):=⟨⟨hno,ho.1,ho.2⟩,hcl,by omega,by omega,by omega⟩
 have hcB:FY n k o (1440*a) (1440*b)=JF n k o a b:=rfl;refine⟨aO (by omega),aO (by omega),hX,⟨0,⟨hp,wY _,λi hi=>by omega⟩,rfl,rfl⟩,λx y hx hy=>?_,λx hx hl=>?_⟩
 .have hy:(JF n k o a b)[x]?=some y:=hy;have hxl:x<(JF n k o a b).length:=(qG.1 hy).1;have ey:(JF n k o a b).getD x 0=y:=by rw[qA,hy];rfl
  obtain⟨y0,y1⟩:=Uh hX (zJ hy);have hD:zr n nx k o d y:=⟨⟨hs,ht,ho.1,ho.2,hd.1,hd.2,by omega,by omega⟩,hcl⟩
  refine⟨hD,λhz=>⟨⟨hD,hz⟩,x+1,⟨hp,hxl,λi hi=>?_⟩,rfl,(Yi hy).symm⟩,λhz=>?_⟩
  .by_cases h3:i<x
   .exact hx.2.2 i h3
   .have:i=x:=by omega
    rw[this,ey];exact cZ.1 hz
  .have hz0:=fj.1 hz;have eg:∀i:Nat,i<(JF n k o a b).length->((JF n k o a b).map (wA n nx k o d)).getD i 0=wA n nx k o d ((JF n k o a b).getD i 0):=λi hi=>by
    rw[qA,qP,qA,qB hi];rfl
   have hE:ND n nx k o d a b=wA n nx k o d y:=by
    unfold ND;rw[ze (j:=x) (by rw[vY];exact hxl) (λi hi=>by rw[eg i (by omega)];exact hx.2.2 i hi) (by rw[eg x hxl,ey];exact hz0),eg x hxl,ey]
   have hF:tr n nx k o d a b=-1:=by
    unfold tr;rw[if_neg (by rw[hE];exact hz0)]
   rw[hF];simp
 .have hE:ND n nx k o d a b=0:=by
   unfold ND;refine t7 λi hi=>?_
   rw[vY]at hi;rw[qA,qP,qB hi];have:=hx.2.2 i (by rw[hl];exact hi)
   rw[qA,qB hi]at this;exact this
  have hF:tr n nx k o d a b=PS n nx k o d a b x:=by
   unfold tr;rw[if_pos hE,hl];rfl
  rw[hF];simp
end Go.Eng.Sv
set_option maxRecDepth 100000
noncomputable section
namespace Go.Eng.Sv
open Go.Proofs
def aCg(n:Net)(nx:Lj)(k o a b:Int): Li:=(List.range n.2.2.2.1.length).map λd:Nat=>tr n nx k o d a b
def aCb(n:Net)(nx:Lj)(k a b:Int): Lj:=(List.range n.2.2.2.1.length).map λo:Nat=>aCg n nx k o a b
def Ro(n:Net)(nx:Lj)(a b:Int): Bool:=decide (0<=a/\a<b/\b<=600/\b-a<=60)&&(bn n&&nN n nx)
def IM(n:Net)(nx:Lj)(a b:Int): List (Lj):=if Ro n nx a b=true then(List.range n.2.2.2.2.2.length).map λk:Nat=>aCb n nx k a b else[]
def upF{α:Type}(g:Int->α)(z:α)(l k:Int): List α:=((List.range k.toNat).map λi:Nat=>g i)++List.replicate (l-k).toNat z
def upI(g:Int->Int)(l k:Int): Li:=upF g 0 l k
def J8(g:Int->Li)(l k:Int): Lj:=upF g [] l k
def upM(g:Int->Lj)(l k:Int): List (Lj):=upF g [] l k
def nw(l:Int)(p:Int->Prop): Prop:=(0<=l/\l<=1000000)/\∀i,0<=i->i<l->p i
def toI(l k:Int): Prop:=0<=k/\k<=l
def NB(n:Net)(nx:Lj)(k o a b d:Int): Prop:=cellP n nx k o d a b
def NC(n:Net)(nx:Lj)(k o a b d:Int): Int:=tr n nx k o d a b
def M6(n:Net)(nx:Lj)(k a b o:Int): Prop:=aCU n nx a b/\Ao n k/\aDS n o
def I2(n:Net)(nx:Lj)(k a b o:Int): Li:=aCg n nx k o a b
def LD(n:Net)(nx:Lj)(a b k:Int): Prop:=aCU n nx a b/\Ao n k
def DZ(n:Net)(nx:Lj)(a b k:Int): Lj:=aCb n nx k a b
def aAU(l:Int)(g:Int->Int): Ann:=⟨λid s=>match id with
 | 3=>match s.sig.T 5 with
  | .buf nm _=>some {α:=Int,inv:=λk=>toI l k,st:=λk=>iM (put s [(11,.dat I k)]) nm (.buf 3 I (upI g l k) []),μ:=λk=>Dc (Dh l k)}
  | _=>none
 | _=>none,λ_ _=>none,λ_ _=>none⟩
def aAS(l:Int)(g:Int->Li): Ann:=⟨λid s=>match id with
 | 3=>match s.sig.T 5 with
  | .buf nm _=>some {α:=Int,inv:=λk=>toI l k,st:=λk=>iM (put s [(11,.dat I k)]) nm (.buf 36 R (J8 g l k) []),μ:=λk=>Dc (Dh l k)}
  | _=>none
 | _=>none,λ_ _=>none,λ_ _=>none⟩
def aAT(l:Int)(g:Int->Lj): Ann:=⟨λid s=>match id with
 | 3=>match s.sig.T 5 with
  | .buf nm _=>some {α:=Int,inv:=λk=>toI l k,st:=λk=>iM (put s [(11,.dat I k)]) nm (.buf 32 M (upM g l k) []),μ:=λk=>Dc (Dh l k)}
  | _=>none
 | _=>none,λ_ _=>none,λ_ _=>none⟩
theorem Qs(l:Int)(p:Int->Prop)(g:Int->Int)(hvc:
 let c6:=Dc l;let c5:=Ty.int IntKind.i64;let c1:=Ep l (0:Int);true/\(nw l p->0<=l/\(Dx (8)*l)<=281474976710656/\l<=9223372036854775807/\Dj c1=Dc l/\(∃x,toI l x/\AV.clo1 c5 c5 p g=AV.clo1 c5 c5 p g/\Value.slice none (0) (0)=Value.slice none (0) (0)/\Dc l=Dc l/\Int.ofNat c6=Int.ofNat c6/\0=x/\c1=upI g l x/\True)/\∀(x:Int),let c2:=Dp x (Int.ofNat c6);let c3:=Dj (upI g l x);let c4:=x+1;toI l x->(c2->p x/\c3=Dc l/\0<=x/\x<Dx c3/\c3=Dc l/\inR .i64 c4/\∃y,toI l y/\(AV.clo1 c5 c5 p g=AV.clo1 c5 c5 p g/\Value.slice none (0) (0)=Value.slice none (0) (0)/\Dc l=Dc l/\Int.ofNat c6=Int.ofNat c6/\c4=y/\En (upI g l x) (Dc x) (g x)=upI g l y/\True)/\Dc (l-y)<Dc (l-x))/\(c2=false->c3=Dc l/\upI g l x=upI g l l/\True))):
  evF (mkc KC1) (lvA [(3,[1,4,5,6,10,11])] (aAU l g)) 53 [.dat I l,.clo1 I I p g] [] ⟨nw l p,.dat R (upI g l l),[]⟩:=oE hvc
theorem Qq (l : Int) (p : Int → Prop) (g : Int → Li) (hvc :
 let c1 := Ep l (Dt Int); true = true ∧ (nw l p → Dl (0 : Int) l ∧ Dl (Ee (Dx (24)) l) (281474976710656 : Int) ∧ Dl l
  (9223372036854775807 : Int) ∧ Dj c1 = Dc l ∧ (∃ x, toI l x ∧ AV.clo1 (Ty.int IntKind.i64) (Ty.int IntKind.i64).sl p g = AV.clo1 (Ty.int IntKind.i64)
  (Ty.int IntKind.i64).sl p g ∧ Value.slice none (0) (0) = Value.slice none (0) (0) ∧ Dc l = Dc l ∧ Int.ofNat (Dc l) = Int.ofNat (Dc l) ∧ (0 : Int) =
  x ∧ c1 = J8 g l x ∧ True) ∧ ∀ (x : Int),
 let c2 := Dp x (Int.ofNat (Dc l));
 let c3 := Dj (J8 g l x);
 let c4 := Dq x (1 : Int); toI l x → (c2 = true → p x ∧ c3 = Dc l ∧ Dl (0 : Int) x ∧ Dn x (Dx c3) ∧ c3 = Dc l ∧ inR .i64 c4 ∧ ∃ y, toI l
  y ∧ (AV.clo1 (Ty.int IntKind.i64) (Ty.int IntKind.i64).sl p g = AV.clo1 (Ty.int IntKind.i64) (Ty.int IntKind.i64).sl p g ∧ Value.slice none (0) (0) =
  Value.slice none (0) (0) ∧ Dc l = Dc l ∧ Int.ofNat (Dc l) = Int.ofNat (Dc l) ∧ c4 = y ∧ En (J8 g l x) (Dc x) (g x) = J8 g l y ∧ True) ∧
  Dw (Dc (Dh l y)) (Dc (Dh l x))) ∧ (c2 = false → c3 = Dc l ∧ J8 g l x = J8 g l l ∧ True))) :
    evF (mkc KC1) (lvA [(3, [1, 4, 5, 6, 10, 11])] (aAS l g)) 51 [.dat I l, .clo1 I R p g] [] ⟨nw l p, .dat M (J8 g l l), []⟩ := oE hvc
theorem Qr (l : Int) (p : Int → Prop) (g : Int → Lj) (hvc :
 let c1 := Ep l (Dt (Li)); true = true ∧ (nw l p → Dl (0 : Int) l ∧ Dl (Ee (Dx (24)) l) (281474976710656 : Int) ∧ Dl l
  (9223372036854775807 : Int) ∧ Dj c1 = Dc l ∧ (∃ x, toI l x ∧ AV.clo1 (Ty.int IntKind.i64) (Ty.int IntKind.i64).sl.sl p g = AV.clo1 (Ty.int IntKind.i64)
  (Ty.int IntKind.i64).sl.sl p g ∧ Value.slice none (0) (0) = Value.slice none (0) (0) ∧ Dc l = Dc l ∧ Int.ofNat (Dc l) = Int.ofNat (Dc l) ∧ (0 :
  Int) = x ∧ c1 = upM g l x ∧ True) ∧ ∀ (x : Int),
 let c2 := Dp x (Int.ofNat (Dc l));
 let c3 := Dj (upM g l x);
 let c4 := Dq x (1 : Int); toI l x → (c2 = true → p x ∧ c3 = Dc l ∧ Dl (0 : Int) x ∧ Dn x (Dx c3) ∧ c3 = Dc l ∧ inR .i64 c4 ∧ ∃ y, toI l
  y ∧ (AV.clo1 (Ty.int IntKind.i64) (Ty.int IntKind.i64).sl.sl p g = AV.clo1 (Ty.int IntKind.i64) (Ty.int IntKind.i64).sl.sl p g ∧ Value.slice none (0) (0) =
  Value.slice none (0) (0) ∧ Dc l = Dc l ∧ Int.ofNat (Dc l) = Int.ofNat (Dc l) ∧ c4 = y ∧ En (upM g l x) (Dc x) (g x) = upM g l y ∧ True) ∧
  Dw (Dc (Dh l y)) (Dc (Dh l x))) ∧ (c2 = false → c3 = Dc l ∧ upM g l x = upM g l l ∧ True))) :
    evF (mkc KC1) (lvA [(3, [1, 4, 5, 6, 10, 11])] (aAT l g)) 49 [.dat I l, .clo1 I M p g] [] ⟨nw l p, .dat (.sl M) (upM g l l), []⟩ := oE hvc
def KC2: Kt:=kOr 55 (ay [.ptr N,.val M,.val I,.val I,.val I,.val I,.val I] (λ(n,nx,k,o,d,a,b,_)=>cellP n nx k o d a b) λ(n,nx,k,o,d,a,b,_)=>.dat I (tr n nx k o d a b)) KC1
theorem Wc(d k o a b:Int)(nx:Lj)(n:Net)(hvc:
 true/\(NB n nx k o a b d->cellP n nx k o d a b/\tr n nx k o d a b=NC n nx k o a b d/\True)):
  evF (mkc KC2) aA 54 [.dat I d,.ip N n,.ip M nx,.ip I k,.ip I o,.ip I a,.ip I b] [] ⟨NB n nx k o a b d,.dat I (NC n nx k o a b d),[]⟩:=oE hvc
def MZ(args:List AV)(m:Mem): Option jO:=match m,args with
 | [],[.dat (.int .i64) l,.fn f caps]=>if f=54 then match ofK [.ptr N,.ptr M,.ptr I,.ptr I,.ptr I,.ptr I] caps with
  | some (n,nx,k,o,a,b,_)=>some ⟨nw l (NB n nx k o a b),.dat R (upI (NC n nx k o a b) l l),[]⟩
  | none=>none
  else none
 | _,_=>none
def KC3: Kt:=kOr 53 MZ KC2
theorem Wg(o k a b:Int)(nx:Lj)(n:Net)(hvc:
 let c1:=Df n.2.2.2.1;true/\(M6 n nx k a b o->nw c1 (NB n nx k o a b)/\upI (NC n nx k o a b) c1 c1=I2 n nx k a b o/\True)):
  evF (mkc KC3) aA 52 [.dat I o,.ip N n,.ip M nx,.ip I k,.ip I a,.ip I b] [] ⟨M6 n nx k a b o,.dat R (I2 n nx k a b o),[]⟩:=oE hvc
def MV(args:List AV)(m:Mem): Option jO:=match m,args with
 | [],[.dat (.int .i64) l,.fn f caps]=>if f=52 then match ofK [.ptr N,.ptr M,.ptr I,.ptr I,.ptr I] caps with
  | some (n,nx,k,a,b,_)=>some ⟨nw l (M6 n nx k a b),.dat M (J8 (I2 n nx k a b) l l),[]⟩
  | none=>none
  else none
 | _,_=>none
def KC4: Kt:=kOr 51 MV KC3
theorem Wh(k a b:Int)(nx:Lj)(n:Net)(hvc:
 let c1:=Df n.2.2.2.1;true/\(LD n nx a b k->nw c1 (M6 n nx k a b)/\J8 (I2 n nx k a b) c1 c1=DZ n nx a b k/\True)):
  evF (mkc KC4) aA 50 [.dat I k,.ip N n,.ip M nx,.ip I a,.ip I b] [] ⟨LD n nx a b k,.dat M (DZ n nx a b k),[]⟩:=oE hvc
def MX(args:List AV)(m:Mem): Option jO:=match m,args with
 | [],[.dat (.int .i64) l,.fn f caps]=>if f=50 then match ofK [.ptr N,.ptr M,.ptr I,.ptr I] caps with
  | some (n,nx,a,b,_)=>some ⟨nw l (LD n nx a b),.dat (.sl M) (upM (DZ n nx a b) l l),[]⟩
  | none=>none
  else none
 | _,_=>none
def KC5: Kt:=kOr 49 MX KC4
theorem KG(nx:Lj)(a b:Int)(cs:LC)(ns os:LB)(fs:Lo)(ls:Ll)(ks:Lk)(hvc:
 let c1:=Dp a 0;let c2:=Di c1;let c3:=Eb c1 true (Eh b a);let c4:=Di c3;let c5:=Eb c3 true (Ei b 600);let c6:=Di c5;let c14:=c6->c6->c6;let c7:=Eb c5 true (Ei (b-a) 60);let c8:=(cs,ns,os,fs,ls,ks);let c9:=IM c8 nx a b;let c10:=Di (bn c8);let c11:=Di c10;let c12:=Eb c10 true (Di (nN c8 nx));let c13:=Df ks;true/\(cz nx->(c2->c2->c2)/\(c2->c2->c2)/\(Dk true c2->c2)/\(c4->c4->c4)/\(Dk true c4->c4)/\c14/\c14/\(c6->inR .i64 (b-a))/\c14/\(Dk true c6->c6)/\(c7->c9=Dt (Lj)/\True)/\(c7=false->True/\(c11->c11->c11)/\(c11->cz nx)/\(c11->c11->c11)/\(Dk true c11->c11)/\(c12->c9=Dt (Lj)/\True)/\(c12=false->nw c13 (LD c8 nx a b)/\upM (DZ c8 nx a b) c13 c13=c9/\True)))):
  evF (mkc KC5) aA 13 [net cs ns os fs ls ks,.dat M nx,.dat I a,.dat I b] [] ⟨cz nx,.dat (.sl M) (IM (cs,ns,os,fs,ls,ks) nx a b),[]⟩:=oE hvc
theorem r7{α:Type}{g:Int->α}{z:α}{l k:Int}(h:toI l k): (upF g z l k).length=l.toNat:=by
 obtain⟨h1,h2⟩:=h;unfold upF;rw[qF,vY,wG,wQ];omega
theorem nQ{α:Type}{g:Int->α}{z:α}{l:Int}: List.replicate l.toNat z=upF g z l 0:=by
 unfold upF;simp
theorem po{α:Type}{g:Int->α}{z:α}{l:Int}: upF g z l l=(List.range l.toNat).map λi:Nat=>g i:=by
 unfold upF;simp
theorem xo{α:Type}{g:Int->α}{z:α}{l k:Int}(k0:0<=k)(k1:k<l): (upF g z l k).set k.toNat (g k)=upF g z l (k+1):=by
 unfold upF;have e:(k+1).toNat=k.toNat+1:=by omega
 have e2:(l-k).toNat=(l-(k+1)).toNat+1:=by omega
 rw[e,e2,zV,yS,qBn,List.set_append,if_neg (by simp)]
 rw[vY,wG,qAx,List.set_cons_zero,List.map_singleton,vU];have e3:((k.toNat:Nat):Int)=k:=by omega
 rw[e3];rfl
theorem rows_ok{α:Type}{g:Int->α}{z:α}{l:Int}{p:Int->Prop}(l0:0<=l)(l1:l<=1000000)(hp:∀i,0<=i->i<l->p i){q:Int->Prop}{m:Int}(hm:m<=100)(m0:0<=m)(hq:∀x,0<=x/\x<=1000001->q x):
  0<=l/\m*l<=281474976710656/\l<=9223372036854775807/\(List.replicate l.toNat z).length=l.toNat/\(∃x,toI l x/\0=x/\List.replicate l.toNat z=upF g z l x)/\
  ∀x,toI l x->(x<((l.toNat:Nat):Int)->p x/\(upF g z l x).length=l.toNat/\0<=x/\x<((upF g z l x).length:Int)/\(upF g z l x).length=l.toNat/\q (x+1)/\∃y,toI l y/\(x+1=y/\(upF g z l x).set x.toNat (g x)=upF g z l y)/\(l-y).toNat<(l-x).toNat)/\
   (¬x<((l.toNat:Nat):Int)->(upF g z l x).length=l.toNat/\upF g z l x=upF g z l l):=by
 have hml:m*l<=100*1000000:=xW hm l1 l0 (by omega)
 refine⟨l0,by omega,by omega,by simp,⟨0,⟨by omega,l0⟩,rfl,nQ⟩,λx hx=>⟨λhlt=>?_,λhge=>?_⟩⟩
 .have hl:=r7 (g:=g) (z:=z) hx;have h0:=hx.1;exact⟨hp x h0 (by omega),hl,h0,by omega,hl,hq _ (by omega),x+1,⟨by omega,by omega⟩,⟨rfl,xo h0 (by omega)⟩,by omega⟩
 .have hl:=r7 (g:=g) (z:=z) hx;obtain⟨h0,h1⟩:=hx;exact⟨hl,by rw[show x=l by omega]⟩
theorem Xc(l:Int)(p:Int->Prop)(g:Int->Int): af Tryz.prog G0 53 [.dat I l,.clo1 I I p g] [] ⟨nw l p,.dat R (upI g l l),[]⟩:=by
 refine ae (c:=mkc KC1) aBU aL hm (Qs l p g ⟨rfl,λhp=>?_⟩)
 obtain⟨⟨l0,l1⟩,hp⟩:=hp;simp only[qc,qd,Dp,Dc,Dx,Dj,En,Ep];exact rows_ok l0 l1 hp (by omega) (by omega) (λx hx=>aO (by omega))
theorem Xa (l : Int) (p : Int → Prop) (g : Int → Li) : af Tryz.prog G0 51 [.dat I l, .clo1 I R p g] [] ⟨nw l p, .dat M (J8 g l l), []⟩ := by
  refine ae (c := mkc KC1) aBU aL hm (Qq l p g ⟨rfl, fun hp => ?_⟩)
  obtain ⟨⟨l0, l1⟩, hp⟩ := hp
  simp only [qc, qd, Dt, Dp, Dl, Dn, Dw, Dh, Dq, Ee, Dc, Dx, Dj, En, Ep]
  exact rows_ok l0 l1 hp (by omega) (by omega) (fun x hx => aO (by omega))
theorem Xb (l : Int) (p : Int → Prop) (g : Int → Lj) : af Tryz.prog G0 49 [.dat I l, .clo1 I M p g] [] ⟨nw l p, .dat (.sl M) (upM g l l), []⟩ := by
  refine ae (c := mkc KC1) aBU aL hm (Qr l p g ⟨rfl, fun hp => ?_⟩)
  obtain ⟨⟨l0, l1⟩, hp⟩ := hp
  simp only [qc, qd, Dt, Dp, Dl, Dn, Dw, Dh, Dq, Ee, Dc, Dx, Dj, En, Ep]
  exact rows_ok l0 l1 hp (by omega) (by omega) (fun x hx => aO (by omega))
theorem aE6: al Tryz.prog G0 KC2:=aj (ag λ(n,nx,k,o,d,a,b,_)=>Xg k o d a b nx n) aBU
theorem aAd(d k o a b:Int)(nx:Lj)(n:Net): af Tryz.prog G0 54 [.dat I d,.ip N n,.ip M nx,.ip I k,.ip I o,.ip I a,.ip I b] [] ⟨NB n nx k o a b d,.dat I (NC n nx k o a b d),[]⟩:=
 ae (c:=mkc KC2) aE6 aL hm (Wc d k o a b nx n ⟨rfl,λhp=>⟨hp,rfl,trivial⟩⟩)
theorem uh{P:Program}{C:Ctx}{f:FuncId}{l:List AK}{caps:List AV}{x:AKs l}{v:Value}(h:ofK l caps=some x)(hv:(AV.fn f caps).rel P C v): (AV.fn f (avK l x)).rel P C v:=by
 obtain⟨us,rfl,hc⟩:=hv;exact⟨us,rfl,eZ h hc⟩
theorem MY: ∀args m c,MZ args m=some c->af Tryz.prog G0 53 args m c:=by
 intro args m c hc;unfold MZ at hc;split at hc
 case h_2=>cases hc
 rename_i l f caps;split at hc
 case isFalse=>cases hc
 rename_i hf;subst hf;split at hc
 case h_2=>cases hc
 rename_i n nx k o a b _ hx;cases hc;exact(Xc _ _ _).args λC us hG hu=>fR hu λv hv=>jK (by kernel_rfl) rfl (λx=>aAd x k o a b nx n) hG (uh hx hv)
theorem aE5: al Tryz.prog G0 KC3:=aj MY aE6
theorem YW(cs:LC)(ns os:LB)(fs:Lo)(ls:Ll)(ks:Lk)(h:noF (cs,ns,os,fs,ls,ks)=true): (ks.length:Int)<=4:=by
 have:=((oI (by decide)).1 (hC cs ns os fs ls ks h).2.2.2.2.2).1
 simpa[aF]using this
theorem nA(cs:LC)(ns os:LB)(fs:Lo)(ls:Ll)(ks:Lk)(h:bn (cs,ns,os,fs,ls,ks)=true): (fs.length:Int)<=12/\(ks.length:Int)<=1000000:=by
 have hno:=bm cs ns os fs ls ks h;exact⟨(gb cs ns os fs ls ks hno).1,by have:=YW cs ns os fs ls ks hno;omega⟩
theorem aAe(o k a b:Int)(nx:Lj)(n:Net): af Tryz.prog G0 52 [.dat I o,.ip N n,.ip M nx,.ip I k,.ip I a,.ip I b] [] ⟨M6 n nx k a b o,.dat R (I2 n nx k a b o),[]⟩:=by
 refine ae (c:=mkc KC3) aE5 aL hm (Wg o k a b nx n ⟨rfl,λ⟨ht,hk,ho⟩=>?_⟩)
 simp only[qc,Df];obtain⟨q1,q2⟩:=nA n.1 n.2.1 n.2.2.1 n.2.2.2.1 n.2.2.2.2.1 n.2.2.2.2.2 ht.1;have q1:(n.2.2.2.1.length:Int)<=12:=q1;refine⟨⟨⟨by omega,by omega⟩,λd d0 d1=>⟨ht,hk,ho,d0,d1⟩⟩,?_⟩
 unfold upI I2 aCg;rw[po,qQ];rfl
theorem MU: ∀args m c,MV args m=some c->af Tryz.prog G0 51 args m c:=by
 intro args m c hc;unfold MV at hc;split at hc
 case h_2=>cases hc
 rename_i l f caps;split at hc
 case isFalse=>cases hc
 rename_i hf;subst hf;split at hc
 case h_2=>cases hc
 rename_i n nx k a b _ hx;cases hc;exact(Xa _ _ _).args λC us hG hu=>fR hu λv hv=>jK (by kernel_rfl) rfl (λx=>aAe x k a b nx n) hG (uh hx hv)
theorem aE4: al Tryz.prog G0 KC4:=aj MU aE5
theorem aAf(k a b:Int)(nx:Lj)(n:Net): af Tryz.prog G0 50 [.dat I k,.ip N n,.ip M nx,.ip I a,.ip I b] [] ⟨LD n nx a b k,.dat M (DZ n nx a b k),[]⟩:=by
 refine ae (c:=mkc KC4) aE4 aL hm (Wh k a b nx n ⟨rfl,λ⟨ht,hk⟩=>?_⟩)
 simp only[qc,Df];obtain⟨q1,q2⟩:=nA n.1 n.2.1 n.2.2.1 n.2.2.2.1 n.2.2.2.2.1 n.2.2.2.2.2 ht.1;have q1:(n.2.2.2.1.length:Int)<=12:=q1;refine⟨⟨⟨by omega,by omega⟩,λo o0 o1=>⟨ht,hk,o0,o1⟩⟩,?_⟩
 unfold J8 DZ aCb;rw[po,qQ];rfl
theorem MW: ∀args m c,MX args m=some c->af Tryz.prog G0 49 args m c:=by
 intro args m c hc;unfold MX at hc;split at hc
 case h_2=>cases hc
 rename_i l f caps;split at hc
 case isFalse=>cases hc
 rename_i hf;subst hf;split at hc
 case h_2=>cases hc
 rename_i n nx a b _ hx;cases hc;exact(Xb _ _ _).args λC us hG hu=>fR hu λv hv=>jK (by kernel_rfl) rfl (λx=>aAf x a b nx n) hG (uh hx hv)
theorem aFG: al Tryz.prog G0 KC5:=aj MW aE4
theorem RB(nx:Lj)(a b:Int)(cs:LC)(ns os:LB)(fs:Lo)(ls:Ll)(ks:Lk): af Tryz.prog G0 13 [net cs ns os fs ls ks,.dat M nx,.dat I a,.dat I b] [] ⟨cz nx,.dat (.sl M) (IM (cs,ns,os,fs,ls,ks) nx a b),[]⟩:=by
 refine ae (c:=mkc KC5) aFG aL hm (KG nx a b cs ns os fs ls ks ⟨rfl,λhp=>?_⟩)
 simp only[qc,Dk,Di,qd,Dt,Dp,Ei,Eh,Df];have no:¬Ro (cs,ns,os,fs,ls,ks) nx a b=true->IM (cs,ns,os,fs,ls,ks) nx a b=[]:=λh=>if_neg h
 have iff:Ro (cs,ns,os,fs,ls,ks) nx a b=true↔(0<=a/\a<b/\b<=600/\b-a<=60)/\bn (cs,ns,os,fs,ls,ks)=true/\nN (cs,ns,os,fs,ls,ks) nx=true:=by
  unfold Ro;rw[qC,qC,qE]
 refine⟨λh=>aO (by omega),λh=>no (λg=>by have:=(iff.1 g).1;omega),λh=>⟨λ_=>hp,λg=>no (λq=>?_),λ⟨g1,g2⟩=>?_⟩⟩
 .have:=(iff.1 q).2;rcases g with g | g<;>simp[g]at this
 .obtain⟨q1,q2⟩:=nA cs ns os fs ls ks g1;refine⟨⟨⟨by omega,by omega⟩,λk k0 k1=>⟨⟨g1,g2,by omega,by omega,by omega,by omega⟩,k0,k1⟩⟩,?_⟩
  unfold IM;rw[if_pos (iff.2 ⟨by omega,g1,g2⟩)]
  unfold upM DZ;rw[po,qQ]
end Go.Eng.Sv
set_option maxRecDepth 100000
noncomputable section
namespace Go.Eng.Sv
open Go.Proofs
open Go.Eng.Mp (aK cq qf upto at2 oL)
def oz(p:Int): Bool:=decide (2<=p)&&decide (p<=64)
def qk(b e:Int): Int:=b ^ e.toNat
def Ya(b e:Int): Prop:=0<=b/\b<=64/\e<=4
def SU(b e k:Int): Prop:=Ya b e/\0<=k/\(k<=e\/k=0)
def MD(p q n:Int): Bool:=(((oz p&&decide (1<=q))&&decide (q<=4))&&decide (0<=n))&&decide (n<=2000)
def Ek(p q n:Int): Int:=if MD p q n=true then if qk p q<n then 140 else 0 else 1
def aCd(p k d:Int): Int:=Int.tmod (Int.tdiv d (qk p k)) p
def Ve(p q n:Int): Lj:=if Ek p q n=0 then(List.range q.toNat).map λk:Nat=>(List.range n.toNat).map λd:Nat=>aCd p k d else[]
def XN(p q n k:Int): Lj:=((List.range k.toNat).map λj:Nat=>(List.range n.toNat).map λd:Nat=>aCd p j d)++List.replicate (q-k).toNat []
def Zp(p n j k:Int): Li:=upF (aCd p j) 0 n k
def MC(p q n k:Int): Prop:=Ek p q n=0/\0<=k/\k<=q
def Si(p q n j k:Int): Prop:=MC p q n j/\j<q/\0<=k/\k<=n
def lj(a b:Int): Bool:=((decide (0<=a)&&decide (a<b))&&decide (b<=600))&&decide (b-a<=60)
def KC6: Kt:=kOr 20 (ay [.row N,.row Pl] (λ(_,p,_)=>fq p) λ(n,p,_)=>.tup [.agg [.dat R (wrN n p),.dat I (wrS n p)],.dat I (wrE n p)]) <|
 kOr 13 (ay [.row N,.val M,.val I,.val I] (λ(_,nx,_,_,_)=>cz nx) λ(n,nx,a,b,_)=>.dat (.sl M) (IM n nx a b)) <|
 kOr 23 (ay [.row N,.val I,.val I] (λ_=>True) λ(n,a,b,_)=>.dat M (jw n a b)) KQ3
theorem Wv(p:Int)(hvc:
 let c1:=Ed p 2;true/\(True->(c1->c1->c1)/\(Dk true c1->c1)/\Eb c1 (Eh p 64) false=oz p/\True)):
  evF (mkc KC6) aA 84 [.dat I p] [] ⟨True,.dat .bool (oz p),[]⟩:=oE hvc
def aFm(b e:Int): Ann:=⟨λid s=>match id with
 | 3=>some {α:=Int,inv:=λk=>SU b e k,st:=λk=>put s [(7,.dat I k),(5,.dat I (qk b k))],μ:=λk=>Dc (Dh e k)}
 | _=>none,λ_ _=>none,λ_ _=>none⟩
theorem Z7(b e:Int)(hvc:
 true/\(Ya b e->(∃x,SU b e x/\b=b/\(0:Int)=(0:Int)/\1=qk b x/\e=e/\0=x/\True)/\∀(x:Int),let c1:=qk b x*b;let c2:=x+1;SU b e x->(Dp x e->inR .i64 c1/\inR .i64 c2/\∃y,SU b e y/\(b=b/\(0:Int)=(0:Int)/\c1=qk b y/\e=e/\c2=y/\True)/\Dc (e-y)<Dc (e-x))/\(Dp x e=false->qk b x=qk b e/\True))):
  evF (mkc KC6) (lvA [(3,[0,4,5,6,7])] (aFm b e)) 85 [.dat I b,.dat I e] [] ⟨Ya b e,.dat I (qk b e),[]⟩:=oE hvc
def KC7: Kt:=kOr 84 (ay [.val I] (λ_=>True) λ(p,_)=>.dat .bool (oz p)) <|
 kOr 85 (ay [.val I,.val I] (λ(b,e,_)=>Ya b e) λ(b,e,_)=>.dat I (qk b e)) KC6
def aFk(p q n:Int): Ann:=⟨λid s=>match id with
 | 7=>match s.sig.T 8 with
  | .buf nm _=>some {α:=Int,inv:=λk=>MC p q n k,st:=λk=>iM (put s [(38,.dat I k)]) nm (.mat 36 3 I (XN p q n k) []),μ:=λk=>Dc (Dh q k)}
  | _=>none
 | 11=>match s.sig.T 9,s.sig.T 8,s.sig.T 44 with
  | .dat (.int .i64) j,.buf nm _,.buf nm2 n2=>some {α:=Int,inv:=λk=>Si p q n j k,st:=λk=>iM (iM (put s [(47,.dat I k)]) nm (.mat 36 3 I (XN p q n j) [(Dc j,.buf nm2 n2)])) nm2 (.buf 3 I (Zp p n j k) []),μ:=λk=>Dc (Dh n k)}
  | _,_,_=>none
 | _=>none,λ_ _=>none,λ_ _=>none⟩
theorem ZN(p q n:Int)(hvc:
 let c18:=Di (oz p);let c1:=Eb c18 true (Dp q 1);let c2:=Di c1;let c3:=Eb c1 true (Ei q 4);let c4:=Di c3;let c5:=Eb c3 true (Dp n 0);let c6:=Di c5;let c7:=Eb c5 true (Ei n 2000);let c8:=Dp (qk p q) n;let c9:=Ep n (0:Int);true/\(True->True/\(Di c18->Di c18->Di c18)/\(Dk true (Di c18)->Di c18)/\(c2->c2->c2)/\(Dk true c2->c2)/\(c4->c4->c4)/\(Dk true c4->c4)/\(c6->c6->c6)/\(Dk true c6->c6)/\(c7->Ve p q n=Dt (Li)/\1=Ek p q n/\True)/\(c7=false->Ya p q/\(c8->Ve p q n=Dt (Li)/\140=Ek p q n/\True)/\(c8=false->0<=q/\(Dx (24)*q)<=281474976710656/\q<=9223372036854775807/\(∃x,let c10:=XN p q n x;MC p q n x/\p=p/\n=n/\Value.slice none (0) (0)=Value.slice none (0) (0)/\(0:Int)=(0:Int)/\Dc q=Dc q/\q=q/\0=x/\Ep q (Dt Int)=c10/\Fb c10/\True)/\∀(x:Int),let c11:=XN p q n x;let c12:=Dj c11;let c13:=x+1;MC p q n x->(Dp x q->0<=n/\(Dx (8)*n)<=281474976710656/\n<=9223372036854775807/\c12=Dc q/\0<=x/\x<Dx c12/\c12=Dc q/\Dj c9=Dc n/\(∃x_3,Si p q n x x_3/\p=p/\n=n/\Value.slice none (0) (0)=Value.slice none (0) (0)/\(0:Int)=(0:Int)/\Dc q=Dc q/\x=x/\q=q/\x=x/\n=n/\0=x_3/\c11=c11/\Dc x=Dc x/\Dc n=Dc n/\c9=Zp p n x x_3/\True)/\∀(x_3:Int),let c14:=Gg x_3 (qk p x);let c15:=Zp p n x x_3;let c16:=Dj c15;let c17:=x_3+1;
 Si p q n x x_3->(Dp x_3 n->c12=Dc q/\0<=x/\x<Dx c12/\c12=Dc q/\Dc x=Dc x/\Ya p x/\qk p x≠0/\inR .i64 c14/\p≠0/\c16=Dc n/\0<=x_3/\x_3<Dx c16/\c16=Dc n/\inR .i64 c17/\∃y,Si p q n x y/\(p=p/\n=n/\Value.slice none (0) (0)=Value.slice none (0) (0)/\(0:Int)=(0:Int)/\Dc q=Dc q/\x=x/\q=q/\x=x/\n=n/\c17=y/\c11=c11/\Dc x=Dc x/\Dc n=Dc n/\En c15 (Dc x_3) (Fq c14 p)=Zp p n x y/\True)/\Dc (n-y)<Dc (n-x_3))/\(Dp x_3 n=false->inR .i64 c13/\∃y,MC p q n y/\(p=p/\n=n/\Value.slice none (0) (0)=Value.slice none (0) (0)/\(0:Int)=(0:Int)/\Dc q=Dc q/\q=q/\c13=y/\Dj c15=Dc n/\En c11 (Dc x) c15=XN p q n y/\True)/\Dc (q-y)<Dc (q-x)))/\(Dp x q=false->Dj c11=Dc q/\c11=Ve p q n/\0=Ek p q n/\True))))):
  evF (mkc KC7) (lvA [(7,[0,2,6,7,8,9,10,37,38,46,47]),(11,[0,2,6,7,8,9,10,37,38,46,47])] (aFk p q n)) 28 [.dat I p,.dat I q,.dat I n] [] ⟨True,.tup [.dat M (Ve p q n),.dat I (Ek p q n)],[]⟩:=oE hvc
theorem Q0(a b:Int)(hvc:
 let c1:=Ed a 0;let c2:=Eb c1 (Ei b a) false;let c3:=Eb c2 (Eh b 600) false;let c4:=c3->c3->c3;true/\(True->(c1->c1->c1)/\(c1->c1->c1)/\(Dk true c1->c1)/\(c2->c2->c2)/\(Dk true c2->c2)/\c4/\c4/\(c3->inR .i64 (b-a))/\c4/\(Dk true c3->c3)/\Eb c3 (Eh (b-a) 60) false=lj a b/\True)):
  evF (mkc KC7) aA 105 [.dat I a,.dat I b] [] ⟨True,.dat .bool (lj a b),[]⟩:=oE hvc
theorem K9(cs:LC)(ns os:LB)(fs:Lo)(ls:Ll)(ks:Lk)(hvc:
 let c1:=(cs,ns,os,fs,ls,ks);true/\(True->True/\Dy (Df (fm c1)) 0=bn c1/\True)):
  evF (mkc KC7) aA 43 [net cs ns os fs ls ks] [] ⟨True,.dat .bool (bn (cs,ns,os,fs,ls,ks)),[]⟩:=oE hvc
theorem aEq: al Tryz.prog G0 KC6:=aj (ag λ((cs,ns,os,fs,ls,ks),(p1,p2,nx,dy),_)=>W0 cs ns os fs ls ks p1 p2 nx dy)<|aj (ag λ((cs,ns,os,fs,ls,ks),nx,a,b,_)=>RB nx a b cs ns os fs ls ks)<|aj (ag λ((cs,ns,os,fs,ls,ks),a,b,_)=>Xd a b cs ns os fs ls ks) aEZ
theorem aAk(p:Int): af Tryz.prog G0 84 [.dat I p] [] ⟨True,.dat .bool (oz p),[]⟩:=by
 refine ae (c:=mkc KC6) aEq aL hm (Wv p ⟨rfl,λ_=>?_⟩)
 refine⟨λh _=>h,λh=>h,?_,trivial⟩
 unfold oz;cases e:decide (2<=p)<;>simp[Eb,Ed,Eh,e]<;>simpa using e
theorem EK{b:Int}(h0:0<=b)(h1:b<=64): ∀k:Nat,0<=b ^ k/\b ^ k<=64 ^ k
 | 0=>by simp
 | k+1=>by
  obtain⟨i0,i1⟩:=EK h0 h1 k;rw[Int.pow_succ,Int.pow_succ];exact⟨qAh i0 h0,xW i1 h1 h0 (Int.le_trans i0 i1)⟩
theorem aAZ{b e:Int}(h0:0<=b)(h1:b<=64)(he:e<=4): 0<=qk b e/\qk b e<=16777216:=by
 unfold qk;obtain⟨i0,i1⟩:=EK h0 h1 e.toNat;have:e.toNat<=4:=by omega
 refine⟨i0,Int.le_trans i1 ?_⟩;rcases(by omega:e.toNat=0\/e.toNat=1\/e.toNat=2\/e.toNat=3\/e.toNat=4)with h | h | h | h | h<;>rw[h]<;>decide
theorem Hh{b k:Int}(h:0<=k): qk b (k+1)=qk b k*b:=by
 unfold qk;rw[show(k+1).toNat=k.toNat+1 by omega,Int.pow_succ]
theorem aDi(b e:Int): af Tryz.prog G0 85 [.dat I b,.dat I e] [] ⟨Ya b e,.dat I (qk b e),[]⟩:=by
 refine ae (c:=mkc KC6) aEq aL hm (Z7 b e ⟨rfl,λhp=>?_⟩)
 simp only[qc,qd,Dp,Dc];obtain⟨b0,b1,e1⟩:=id hp;refine⟨⟨0,⟨hp,by omega,.inr rfl⟩,by unfold qk;simp,rfl⟩,λx ⟨_,x0,x1⟩=>⟨λhlt=>?_,λhge=>?_⟩⟩
 .obtain⟨q0,q1⟩:=aAZ b0 b1 (e:=x+1) (by omega)
  rw[Hh x0]at q0 q1;exact⟨aO (by omega),aO (by omega),x+1,⟨hp,by omega,by omega⟩,⟨(Hh x0).symm,rfl⟩,by omega⟩
 .unfold qk;rw[show x.toNat=e.toNat by omega]
theorem Zc: al Tryz.prog G0 KC7:=aj (ag λ(p,_)=>aAk p)<|aj (ag λ(b,e,_)=>aDi b e) aEq
def aEH(p n j:Int): Li:=(List.range n.toNat).map λd:Nat=>aCd p j d
theorem sx(p q n k:Int): XN p q n k=upF (aEH p n) [] q k:=rfl
theorem R9(p n j:Int): Zp p n j n=aEH p n j:=po
theorem aC1(p q n:Int): af Tryz.prog G0 28 [.dat I p,.dat I q,.dat I n] [] ⟨True,.tup [.dat M (Ve p q n),.dat I (Ek p q n)],[]⟩:=by
 refine ae (c:=mkc KC7) Zc aL hm (ZN p q n ⟨rfl,λ_=>?_⟩)
 simp only[qc,Dk,Di,qd,Dt,Dp,Ei,Dc,Dx,Dj,En,Ep,Fb];have no:Ek p q n≠0->Ve p q n=[]:=λh=>if_neg h
 have hM:oz p=true↔2<=p/\p<=64:=by unfold oz;rw[qC,qE,qE]
 have eO:MD p q n=true↔((((2<=p/\p<=64)/\1<=q)/\q<=4)/\0<=n)/\n<=2000:=by
  unfold MD;simp only[qC,qE,hM]
 refine⟨λh=>?_,λ⟨⟨⟨⟨h1,h2⟩,h3⟩,h4⟩,h5⟩=>?_⟩
 .have hO:¬MD p q n=true:=λg=>by
   have g:=eO.1 g;rcases h with(((h | h) | h) | h) | h
   .rw[hM.2 ⟨by omega,by omega⟩]at h;cases h
   all_goals omega
  have:Ek p q n=1:=if_neg hO;exact⟨no (by rw[this];decide),this.symm⟩
 obtain⟨m0,m1⟩:=hM.1 h1;have hO:MD p q n=true:=eO.2 (by omega)
 have hEd:Ek p q n=if qk p q<n then 140 else 0:=if_pos hO
 refine⟨⟨by omega,by omega,by omega⟩,λh=>?_,λh=>?_⟩
 .have:Ek p q n=140:=by rw[hEd,if_pos h]
  exact⟨no (by rw[this];decide),this.symm⟩
 have hE:Ek p q n=0:=by rw[hEd,if_neg h]
 have l1:∀{x:Int},0<=x->x<=q->(XN p q n x).length=q.toNat:=λa b=>by rw[sx];exact r7 ⟨a,b⟩
 have l2:∀{j x:Int},0<=x->x<=n->(Zp p n j x).length=n.toNat:=λa b=>r7 ⟨a,b⟩
 refine⟨by omega,by omega,by omega,⟨0,⟨hE,by omega,by omega⟩,rfl,by rw[sx,<- nQ],?_⟩,λx ⟨_,x0,x1⟩=>⟨λhlt=>?_,λhge=>?_⟩⟩
 .rw[sx,<- nQ];exact λr hr=>kT hr
 .have hl:=l1 x0 x1;refine⟨by omega,by omega,by omega,hl,x0,by omega,hl,by simp,⟨0,⟨⟨hE,x0,x1⟩,hlt,by omega,by omega⟩,rfl,nQ⟩,λy ⟨_,_,y0,y1⟩=>⟨λhlt2=>?_,λhge=>?_⟩⟩
  .have hl2:=l2 (j:=x) y0 y1;obtain⟨w0,w1⟩:=EK (b:=p) (by omega) (by omega) x.toNat
   have wne:qk p x≠0:=λe=>by
    have:p ^ x.toNat≠0:=Int.pow_ne_zero (by omega)
    exact this e
   have hq:0<=Gg y (qk p x)/\Gg y (qk p x)<=y:=⟨Int.tdiv_nonneg y0 w0,Int.tdiv_le_self _ y0⟩;exact⟨hl,x0,by omega,hl,⟨by omega,by omega,by omega⟩,wne,aO (by omega),by omega,hl2,y0,by omega,hl2,aO (by omega),y+1,⟨⟨hE,x0,x1⟩,hlt,by omega,by omega⟩,⟨rfl,xo y0 hlt2⟩,by omega⟩
  .have hy:y=n:=by omega
   subst hy;exact⟨aO (by omega),x+1,⟨hE,by omega,by omega⟩,⟨rfl,l2 y0 y1,by rw[R9,sx];exact xo x0 hlt⟩,by omega⟩
 .have hx:x=q:=by omega
  subst hx;refine⟨l1 x0 x1,?_,hE.symm⟩;unfold Ve;rw[if_pos hE,sx,po];rfl
theorem XD(a b:Int): af Tryz.prog G0 105 [.dat I a,.dat I b] [] ⟨True,.dat .bool (lj a b),[]⟩:=by
 refine ae (c:=mkc KC7) Zc aL hm (Q0 a b ⟨rfl,λ_=>?_⟩)
 simp only[qc,Dk,qd,Ei,Eh,Ed];exact⟨λh=>aO (by omega),rfl⟩
theorem RN(cs:LC)(ns os:LB)(fs:Lo)(ls:Ll)(ks:Lk): af Tryz.prog G0 43 [net cs ns os fs ls ks] [] ⟨True,.dat .bool (bn (cs,ns,os,fs,ls,ks)),[]⟩:=by
 refine ae (c:=mkc KC7) Zc aL hm (K9 cs ns os fs ls ks ⟨rfl,λ_=>⟨trivial,?_,trivial⟩⟩)
 rw[AW];rfl
end Go.Eng.Sv
set_option maxRecDepth 100000
noncomputable section
namespace Go.Eng.Sv
open Go.Proofs
def H7(n:Net)(p:Plan): Int:=if(lj p.1 p.2.1&&bn n)=true then 0 else 1
def YQ(n:Net)(p:Plan): Plan:=(p.1,p.2.1,jw n (1440*p.1) (1440*p.2.1),p.2.2.2)
def YR(n:Net)(p:Plan): Plan:=(p.1,p.2.1,p.2.2.1,IM n p.2.2.1 p.1 p.2.1)
def aBv(p:Plan): Prop:=0<=p.1/\p.1<=1000/\0<=p.2.1/\p.2.1<=1000
abbrev jg:=Li×Int
def OW(n:Net)(p:Plan)(c:jg): List AV:=[.dat (.sl C) n.1,.dat (.sl S) n.2.1,.dat (.sl S) n.2.2.1,.dat (.sl Of) n.2.2.2.1,.dat (.sl Ln) n.2.2.2.2.1,.dat (.sl Kl) n.2.2.2.2.2,.dat I p.1,.dat I p.2.1,.dat M p.2.2.1,.dat (.sl M) p.2.2.2,.dat R c.1,.dat I c.2]
def rU(n:Net)(p:Plan)(c:jg): Mem:=[(2,.var (OW n p c))]
def asC: Mem->Option (Net×Plan×jg)
 | [(2,.var [a1,a2,a3,a4,a5,a6,a7,a8,a9,a10,a11,a12])]=>match gK (.sl C) a1,gK (.sl S) a2,gK (.sl S) a3,gK (.sl Of) a4,gK (.sl Ln) a5,gK (.sl Kl) a6,gK I a7,gK I a8,gK M a9,gK (.sl M) a10,gK R a11,gK I a12 with
  | some cs,some ns,some os,some fs,some ls,some ks,some p1,some p2,some p3,some p4,some c1,some c2=>some ((cs,ns,os,fs,ls,ks),(p1,p2,p3,p4),(c1,c2))
  | _,_,_,_,_,_,_,_,_,_,_,_=>none
 | _=>none
def cK(pre:Net->Plan->Prop)(ret:Net->Plan->Int)(nxt:Net->Plan->jg->Plan×jg)(args:List AV)(m:Mem): Option jO:=match asC m,args with
 | some (n,p,c),[.ptr 2 1 0 0]=>some ⟨pre n p,.dat I (ret n p),rU n (nxt n p c).1 (nxt n p c).2⟩
 | _,_=>none
def KC8: Kt:=kOr 105 (ay [.val I,.val I] (λ_=>True) λ(a,b,_)=>.dat .bool (lj a b)) <|
 kOr 43 (ay [.row N] (λ_=>True) λ(n,_)=>.dat .bool (bn n)) <|
 kOr 28 (ay [.val I,.val I,.val I] (λ_=>True) λ(p,q,n,_)=>.tup [.dat M (Ve p q n),.dat I (Ek p q n)]) KC7
theorem Lc(n:Net)(p:Plan)(c:jg)(hvc:
 let c6:=p.2.1;let c3:=n.2.2.1;let c2:=p.2.2;let c1:=n.2.2.2;let c4:=Di (lj p.1 c6);let c5:=Di c4;let c8:=c5->1=1;let c7:=c5->c5->c5;let c16:=Eb c4 true (Di (bn n));true/\(True->1=1/\1=1/\1=1/\1=1/\1=1/\0=0/\1=1/\1=1/\1=1/\1=1/\0=0/\True/\c7/\c8/\c7/\c8/\c7/\c8/\(c5->0=0)/\c7/\(c5->True)/\c7/\(Dk true c5->c5)/\(c16->1=H7 n p/\n.1=n.1/\n.2.1=n.2.1/\c3=c3/\c1.1=c1.1/\c1.2.1=c1.2.1/\c1.2.2=c1.2.2/\p.1=p.1/\c6=c6/\c2.1=c2.1/\c2.2=c2.2/\c.1=c.1/\c.2=c.2/\1=1/\True)/\(c16=false->0=H7 n p/\n.1=n.1/\n.2.1=n.2.1/\c3=c3/\c1.1=c1.1/\c1.2.1=c1.2.1/\c1.2.2=c1.2.2/\p.1=p.1/\c6=c6/\c2.1=c2.1/\c2.2=c2.2/\c.1=c.1/\c.2=c.2/\1=1/\True))):
  evF (mkc KC8) aA 38 [.ptr 2 1 0 0] (rU n p c) ⟨True,.dat I (H7 n p),rU n p c⟩:=oE hvc
theorem La(n:Net)(p:Plan)(c:jg)(hvc:
 let c1:=n.2.2.2;let c2:=1440*p.1;let c5:=1440*p.2.1;let c16:=(YQ n p).2;true/\(aBv p->1=1/\1=1/\1=1/\1=1/\0=0/\1=1/\1=1/\1=1/\1=1/\0=0/\inR .i64 c2/\1=1/\1=1/\1=1/\1=1/\0=0/\inR .i64 c5/\True/\1=1/\1=1/\1=1/\1=1/\0=0/\(0:Int)=(0:Int)/\n.1=n.1/\n.2.1=n.2.1/\n.2.2.1=n.2.2.1/\c1.1=c1.1/\c1.2.1=c1.2.1/\c1.2.2=c1.2.2/\p.1=(YQ n p).1/\p.2.1=c16.1/\jw n c2 c5=c16.2.1/\p.2.2.2=c16.2.2/\c.1=c.1/\c.2=c.2/\1=1/\True)):
  evF (mkc KC7) aA 39 [.ptr 2 1 0 0] (rU n p c) ⟨aBv p,.dat I 0,rU n (YQ n p) c⟩:=oE hvc
theorem QV(n:Net)(p:Plan)(c:jg)(hvc:
 let c2:=p.2.2.1;let c1:=n.2.2.2;let c15:=(YR n p).2;true/\(cz c2->1=1/\1=1/\1=1/\1=1/\0=0/\1=1/\1=1/\1=1/\1=1/\0=0/\1=1/\1=1/\1=1/\1=1/\0=0/\1=1/\1=1/\1=1/\1=1/\0=0/\cz c2/\1=1/\1=1/\1=1/\1=1/\0=0/\(0:Int)=(0:Int)/\n.1=n.1/\n.2.1=n.2.1/\n.2.2.1=n.2.2.1/\c1.1=c1.1/\c1.2.1=c1.2.1/\c1.2.2=c1.2.2/\p.1=(YR n p).1/\p.2.1=c15.1/\c2=c15.2.1/\IM n c2 p.1 p.2.1=c15.2.2/\c.1=c.1/\c.2=c.2/\1=1/\True)):
  evF (mkc KC7) aA 41 [.ptr 2 1 0 0] (rU n p c) ⟨cz p.2.2.1,.dat I 0,rU n (YR n p) c⟩:=oE hvc
theorem Q5(n:Net)(p:Plan)(c:jg)(hvc:
 let c1:=n.2.2.2;true/\(fq p->1=1/\1=1/\1=1/\1=1/\0=0/\1=1/\1=1/\1=1/\0=0/\fq p/\1=1/\1=1/\1=1/\0=0/\wrE n p=wrE n p/\n.1=n.1/\n.2.1=n.2.1/\n.2.2.1=n.2.2.1/\c1.1=c1.1/\c1.2.1=c1.2.1/\c1.2.2=c1.2.2/\p.1=p.1/\p.2.1=p.2.1/\p.2.2.1=p.2.2.1/\p.2.2.2=p.2.2.2/\wrN n p=wrN n p/\wrS n p=wrS n p/\1=1/\True)):
  evF (mkc KC7) aA 42 [.ptr 2 1 0 0] (rU n p c) ⟨fq p,.dat I (wrE n p),rU n p (wrN n p,wrS n p)⟩:=oE hvc
theorem P2: al Tryz.prog G0 KC8:=aj (ag λ(a,b,_)=>XD a b)<|aj (ag λ((cs,ns,os,fs,ls,ks),_)=>RN cs ns os fs ls ks)<|aj (ag λ(p,q,n,_)=>aC1 p q n) Zc
theorem aBM{m:Mem}{n:Net}{p:Plan}{c:jg}(h:asC m=some (n,p,c)): m=rU n p c:=by
 unfold asC at h;split at h
 case h_2=>cases h
 split at h
 case h_2=>cases h
 rename_i h1 h2 h3 h4 h5 h6 h7 h8 h9 h10 h11 h12;cases h;rw[bC h1,bC h2,bC h3,bC h4,bC h5,bC h6,bC h7,bC h8,bC h9,bC h10,bC h11,bC h12];rfl
theorem OV{f:FuncId}{pre:Net->Plan->Prop}{ret:Net->Plan->Int}{nxt:Net->Plan->jg->Plan×jg}
  (h:∀n p c,af Tryz.prog G0 f [.ptr 2 1 0 0] (rU n p c) ⟨pre n p,.dat I (ret n p),rU n (nxt n p c).1 (nxt n p c).2⟩):∀args m c,cK pre ret nxt args m=some c->af Tryz.prog G0 f args m c:=by
 intro args m c hc;unfold cK at hc;split at hc
 case h_2=>cases hc
 rename_i n p c h1;cases hc;rw[aBM h1];exact h n p c
theorem RP(n:Net)(p:Plan)(c:jg): af Tryz.prog G0 38 [.ptr 2 1 0 0] (rU n p c) ⟨True,.dat I (H7 n p),rU n p c⟩:=by
 refine ae (c:=mkc KC8) P2 aL hm (Lc n p c ⟨rfl,λ_=>?_⟩)
 have eN:(n.1,n.2.1,n.2.2.1,n.2.2.2.1,n.2.2.2.2.1,n.2.2.2.2.2)=n:=rfl;simp only[qc,Dk,Di];refine⟨λh=>?_,λ⟨h1,h2⟩=>?_⟩
 .have:¬(lj p.1 p.2.1&&bn n)=true:=λg=>by
   rw[qC]at g;rcases h with h | h
   .rw[g.1]at h;cases h
   .rw[g.2]at h;cases h
  exact(if_neg this).symm
 .exact(if_pos (by rw[h1,h2];rfl)).symm
theorem RO(n:Net)(p:Plan)(c:jg): af Tryz.prog G0 39 [.ptr 2 1 0 0] (rU n p c) ⟨aBv p,.dat I 0,rU n (YQ n p) c⟩:=by
 refine ae (c:=mkc KC7) Zc aL hm (La n p c ⟨rfl,λ⟨h1,h2,h3,h4⟩=>?_⟩)
 simp only[qc];exact⟨aO (by omega),aO (by omega),rfl,rfl,rfl,rfl⟩
theorem Xz(n:Net)(p:Plan)(c:jg): af Tryz.prog G0 41 [.ptr 2 1 0 0] (rU n p c) ⟨cz p.2.2.1,.dat I 0,rU n (YR n p) c⟩:=by
 refine ae (c:=mkc KC7) Zc aL hm (QV n p c ⟨rfl,λh=>?_⟩)
 simp only[qc];exact⟨h,rfl,rfl,rfl,rfl⟩
theorem XE(n:Net)(p:Plan)(c:jg): af Tryz.prog G0 42 [.ptr 2 1 0 0] (rU n p c) ⟨fq p,.dat I (wrE n p),rU n p (wrN n p,wrS n p)⟩:=by
 refine ae (c:=mkc KC7) Zc aL hm (Q5 n p c ⟨rfl,λh=>?_⟩)
 simp only[qc];exact h
end Go.Eng.Sv
