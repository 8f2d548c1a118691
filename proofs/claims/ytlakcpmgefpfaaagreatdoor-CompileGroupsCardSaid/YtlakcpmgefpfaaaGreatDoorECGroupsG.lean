/- PeIn5bn PeCo6n PeCo7n PeCo8n PeCoPn PeCoBn PeH19 PeH20 -/
import Derived.Test.YtlakcpmgefpfaaaGreatDoorECGroupsA
import Derived.Test.YtlakcpmgefpfaaaGreatDoorECGroupsB
import Derived.Test.YtlakcpmgefpfaaaGreatDoorECGroupsC
import Derived.Test.YtlakcpmgefpfaaaGreatDoorECGroupsD
import Derived.Test.YtlakcpmgefpfaaaGreatDoorECGroupsE
import Derived.Test.YtlakcpmgefpfaaaGreatDoorECGroupsF
import Derived.ChangeSame
import Derived.Carry
import Derived.Deep.Slices
import Derived.ChangeArms
import Derived.OpenShut
set_option linter.unusedSimpArgs false
set_option linter.unusedVariables false
set_option maxRecDepth 100000
namespace Go.Eng.In
open Go.Proofs
theorem vk{l:Li}(hl:dE l)(h:nt l=true): (0<=l.getD 2 0/\l.getD 2 0<=12)/\(0<=l.getD 3 0/\l.getD 3 0<=4)/\0<=l.getD 0 0/\l.getD 0 0<l.getD 1 0/\l.getD 1 0<=600:=by
 have bd:∀k:Nat,0<=l.getD k 0:=λk=>by
  by_cases hk:k<l.length
  .exact(dP.1 hl.1 _ (aS hk)).1
  .rw[qA,wH (by omega)];exact qL _
 unfold nt sA at h;simp only[qC,qE]at h;exact⟨⟨bd 2,h.1.2.1⟩,⟨bd 3,h.1.2.2.1⟩,bd 0,h.1.2.2.2.1,h.1.2.2.2.2.2⟩
theorem t6(g:Int->Int->Int)(n:Int): (dt g n).length=n.toNat:=by unfold dt;simp
theorem oG{g:Int->Int->Int}{n:Int}{r:Li}(h:r∈dt g n): r.length=n.toNat/\∀x∈r,∃i j,x=g i j:=by
 unfold dt at h;obtain⟨i,_,rfl⟩:=zA.1 h;refine⟨by simp,λx hx=>?_⟩
 obtain⟨j,_,rfl⟩:=zA.1 hx;exact⟨_,_,rfl⟩
theorem Um{g:Int->Int->Int}{n i j:Int}(hi:0<=i/\i<n)(hj:0<=j/\j<n): ((dt g n).getD i.toNat []).getD j.toNat 0=g i j:=by
 unfold dt;have e1:i.toNat<n.toNat:=by omega
 have e2:j.toNat<n.toNat:=by omega
 have e:((List.range n.toNat).map λi:Nat=>(List.range n.toNat).map λj:Nat=>g i j).getD i.toNat []=(List.range n.toNat).map λj:Nat=>g (i.toNat:Nat) j:=by
  rw[qA,qP,vY e1];rfl
 rw[e,qA,qP,vY e2,qR hi.1];show g i (j.toNat:Nat)=_;rw[qR hj.1]
theorem gO{l:Li}(hl:dE l)(m i j:Int): -1<=tg l m i j:=by
 unfold tg;have:0<=l.getD (i*m+j).toNat 0:=by
  by_cases hk:(i*m+j).toNat<l.length
  .exact(dP.1 hl.1 _ (aS hk)).1
  .rw[qA,wH (by omega)];exact qL _
 omega
theorem Q0{q m:Int}{l:Li}{t:Lj}(h:t∈uw q m l): ∃k,t=kA m (bK l k):=by
 unfold uw at h;obtain⟨i,_,rfl⟩:=zA.1 h;exact⟨_,rfl⟩
theorem Q5(q m:Int)(l:Li): (uw q m l).length=q.toNat:=by unfold uw;simp
theorem XV{l:Li}(hl:dE l)(h:nt l=true): nxP (au l):=by
 obtain⟨⟨m0,m1⟩,_⟩:=vk hl h;refine⟨?_,λr hr=>?_⟩
 .show(dt _ _).length<=_;rw[t6];omega
 .obtain⟨h1,h2⟩:=oG hr;refine⟨by omega,λx hx=>?_⟩
  obtain⟨i,j,rfl⟩:=h2 x hx;exact gO (fa hl 4) _ _ _
theorem Sz{n:Net}{l:Li}(hl:dE l)(h:nt l=true)(hf:CU n (au l)=true): plP n (au l):=by
 obtain⟨⟨m0,m1⟩,⟨q0,q1⟩,a0,a1,a2⟩:=vk hl h;unfold CU at hf;simp only[qC,qE,qN,qX]at hf;obtain⟨⟨f1,f2⟩,f3⟩:=hf;have e1:(au l).2.2.1.length=(l.getD 2 0).toNat:=t6 _ _;have e2:(au l).2.2.2.length=(l.getD 3 0).toNat:=Q5 _ _ _;refine⟨⟨a0,by show l.getD 0 0<=l.getD 1 0;omega,a2⟩,⟨f1,λr hr=>?_⟩,λi j hi hj=>?_,f2,λt ht=>?_⟩
 .have h1:=(oG hr).1;omega
 .obtain⟨i0,i1⟩:=hi;obtain⟨j0,j1⟩:=hj;have hi2:i<l.getD 2 0:=by omega
  have hj2:j<l.getD 2 0:=by omega
  have ec:cellAt (au l) i j=tg (bK l 4) (l.getD 2 0) i j:=Um ⟨i0,hi2⟩ ⟨j0,hj2⟩;have:=f3 i.toNat (by omega)
  unfold mV at this;rw[qN,qR i0]at this;have hr:=(oG (g:=tg (bK l 4) (l.getD 2 0)) (n:=l.getD 2 0) (r:=(au l).2.2.1.getD i.toNat []) (aS (by omega:i.toNat<(au l).2.2.1.length))).1
  refine⟨this _ (aS (by omega)),?_⟩
  rw[ec];exact gO (fa hl 4) _ _ _
 .obtain⟨k,rfl⟩:=Q0 ht;have e:(kA (l.getD 2 0) (bK (bK l (4+l.getD 2 0*l.getD 2 0)) k)).length=(l.getD 2 0).toNat:=t6 _ _;refine⟨by omega,λr hr=>?_⟩
  have:=(oG hr).1;omega
theorem nK{f:Nat->Li->Option (Li)}{m:Nat}{x:Li}(h:runN f m x=none): ∀{k:Nat},m<=k->runN f k x=none:=by
 intro k hk;induction hk with
 | refl=>exact h
 | step _ ih=>rw[runN,ih];rfl
theorem mq{α:Type}(x:Option α): (x.bind λy=>some y)=x:=by cases x<;>rfl
theorem bind_none{α:Type}{x:Option α}{f g:α->Option α}(h:x.bind f=none)(hg:∀y,f y=none->g y=none): x.bind g=none:=by
 cases x with
 | none=>rfl
 | some y=>exact hg y h
section
variable {n:Net} {p:Plan} {l:Li} {k o d:Int}
theorem RD: st2 n p l k 0=st1 n p l k:=mq _
theorem Rz: st3 n p l k o 0=st2 n p l k o:=mq _
theorem Rw: st4 n p l k o d 0=st3 n p l k o d:=mq _
theorem GK(k0:0<=k): st1 n p l (k+1)=st2 n p l k (dV p k).length:=by
 unfold st2;rw[qW];show runN _ (k+1).toNat l=_;rw[show(k+1).toNat=k.toNat+1 by omega,runN,qR k0];rfl
theorem GI(o0:0<=o): st2 n p l k (o+1)=st3 n p l k o (cellsD p k o).length:=by
 unfold st3 st2;rw[qW,show(o+1).toNat=o.toNat+1 by omega,qCq]
 congr 1
 funext x
 rw[runN,qR o0];rfl
theorem RA(d0:0<=d)(h:iY p k o d=-1): st3 n p l k o (d+1)=st3 n p l k o d:=by
 unfold st3;rw[show(d+1).toNat=d.toNat+1 by omega]
 congr 1
 funext x
 rw[runN,qR d0,show zf n p k o d=λxs=>some xs from funext λxs=>if_pos h]
 exact mq _
theorem GH(d0:0<=d)(h:iY p k o d≠-1): st3 n p l k o (d+1)=st4 n p l k o d (jw n p k o).length:=by
 unfold st4 st3;rw[show(d+1).toNat=d.toNat+1 by omega,qCq]
 congr 1
 funext x
 rw[runN,qR d0,show zf n p k o d=λxs=>runN (vq n p k o d) (jw n p k o).length xs from funext λxs=>if_neg h]
theorem Rx(j:Nat): st4 n p l k o d (j+1)=(st4 n p l k o d j).bind (vq n p k o d j):=by
 unfold st4;rw[qCq];rfl
theorem RF{k':Int}(h:st1 n p l k=none)(hk:k<=k'): st1 n p l k'=none:=nK h (by omega)
theorem RE{o':Int}(h:st2 n p l k o=none)(hk:o<=o'): st2 n p l k o'=none:=bind_none h λy hy=>nK hy (by omega)
theorem RB{d':Int}(h:st3 n p l k o d=none)(hk:d<=d'): st3 n p l k o d'=none:=bind_none h λy hy=>nK hy (by omega)
theorem Ry{j j':Nat}(h:st4 n p l k o d j=none)(hk:j<=j'): st4 n p l k o d j'=none:=bind_none h λy hy=>nK hy hk
theorem Xt{j:Nat}(h:st4 n p l k o d j=none)(hj:j<=(jw n p k o).length)(hd:iY p k o d≠-1)(d0:0<=d)(d1:d<(cellsD p k o).length)(o0:0<=o)(o1:o<(dV p k).length)(k0:0<=k)(k1:k<p.2.2.2.length): CL n p l=none:=by
 have h1:=Ry h hj;rw[<- GH d0 hd]at h1;have h2:=RB h1 (d':=(cellsD p k o).length) (by omega)
 rw[<- GI o0]at h2;have h3:=RE h2 (o':=(dV p k).length) (by omega)
 rw[<- GK k0]at h3;exact RF h3 (by omega)
end
theorem Xp(s:Int)(l:Li)(cs:List Cal)(ns ps:List ByteArray)(os:List Off)(ls:List Line)(ks:List Cla): af Tryz.prog dS 26 [.agg [.dat (.sl C) cs,.dat (.sl S) ns,.dat (.sl S) ps,.dat (.sl Of) os,.dat (.sl Ln) ls,.dat (.sl Kl) ks],.agg [.dat R l,.dat I s]] [] ⟨Hm l/\qx (cs,ns,ps,os,ls,ks),.dat I (fW (cs,ns,ps,os,ls,ks) l s),[]⟩:=by
 refine pK (c:=c15) Vz Vz aFr hm YX (QN s l cs ns ps os ls ks ⟨⟨rfl,rfl⟩,λhp=>?_⟩)
 simp only[qc,Dh,Es,Di,qd,Dt,Eb,Dy,Dp,Ei,Eh,Ed,Ew,Df,Et,Dl,Dn,Eo,Dz,Dw,Dj,Dq,Ee,Fe,Dc,Dx,Dk,Ec,Em,Du,Eu,Ez,En,Ef,Fg,Fj,Fh,Ep,Ej,Ey,Fb];obtain⟨hl,hn⟩:=hp;generalize (cs,ns,ps,os,ls,ks)=n at hn ⊢;have two:∀{p q:Prop},p->(p/\(false=true->q)):=λh=>⟨h,λh=>by cases h⟩
 have eF:fW n l s=if jk (l,s)=true then if ko n=true then if pn n l=true then aEl n l else 190 else 1 else x6 (l,s):=rfl
 refine⟨⟨hl,λh=>two (by rw[eF,if_neg (by rw[h];exact Bool.noConfusion)])⟩,λh1=>⟨⟨hl,h1⟩,hn,λh=>two (by rw[eF,if_pos h1,if_neg (by rw[h];exact Bool.noConfusion)]),λh2=>?_⟩⟩
 have hs:dU l s=true/\nt l=true:=by
  unfold jk at h1
  rwa [qC]at h1
 have hnum:dE l:=⟨by have:=hs.1;unfold dU at this;rw[qC]at this;exact this.1,hl⟩
 have hnx:=XV hnum hs.2;refine⟨h2,⟨hn,hnx⟩,λh=>two ?_,λh3=>⟨h3,?_⟩⟩
 .have:pn n l=false:=by
   unfold pn LV;cases e:CU n (au l)with
   | false=>rfl
   | true=>rw[vK (by have:=h e;omega)];rfl
  rw[eF,if_pos h1,if_pos h2,if_neg (by rw[this];exact Bool.noConfusion)]
 have hfa:pn n l=true:=by
  unfold pn LV;rw[h3.1,vF (by have:=h3.2;omega)];rfl
 have hpl:=Sz hnum hs.2 h3.1;have eC:fW n l s=if CL n (au l) (bM l)=some []then 0 else 190:=by rw[eF,if_pos h1,if_pos h2,if_pos hfa];rfl
 have hrest:dE (bM l):=fa hnum _;obtain⟨p,ep⟩:∃p,p=au l:=⟨_,rfl⟩;obtain⟨r,er⟩:∃r,r=bM l:=⟨_,rfl⟩;rw[<- ep]at hpl;rw[<- er]at hrest;rw[eC];rw[<- ep,<- er];clear eC eF hnx hfa h3 hs h1;obtain⟨⟨p0,p1,p2⟩,⟨q1,q2⟩,q3,q4,q5⟩:=id hpl;have eRow:∀k:Int,p.2.2.2.getD k.toNat []=dV p k:=λ_=>rfl
 have eCel:∀k o:Int,(dV p k).getD o.toNat []=cellsD p k o:=λ_ _=>rfl
 have eDay:∀k o d:Int,(cellsD p k o).getD d.toNat 0=iY p k o d:=λ_ _ _=>rfl
 simp only[eRow,eCel,eDay];have hu:usP n:=⟨h2,hn⟩;have hno:n.2.2.2.1.length<=2000000000000000:=hn.1.1.2;have hnk:n.2.2.2.2.2.length<=2000000000000000:=hn.2;refine⟨⟨(0,r),⟨⟨qL _,vC _⟩,rfl,hrest⟩,rfl,rfl⟩,λ⟨k,xs⟩ ⟨⟨k0,k1⟩,kx,kn⟩=>⟨λhk=>?_,λhk=>?_⟩⟩
 .have hk:k<p.2.2.2.length:=hk;have hrw:(dV p k).length=n.2.2.2.1.length/\∀r∈dV p k,r.length=n.2.2.2.1.length:=q5 _ (aS (by omega))
  refine⟨k0,hk,⟨(0,xs),⟨⟨⟨k0,hk⟩,qL _,vC _⟩,by rw[RD];exact kx,kn⟩,rfl,rfl⟩,λ⟨o,ys⟩ ⟨⟨_,o0,o1⟩,ox,on⟩=>⟨λho=>?_,λho=>?_⟩⟩
  .have ho:o<(dV p k).length:=ho;have hcl:(cellsD p k o).length=n.2.2.2.1.length:=hrw.2 _ (aS (by omega))
   refine⟨o0,ho,⟨(0,ys),⟨⟨⟨k0,hk⟩,⟨o0,ho⟩,qL _,vC _⟩,by rw[Rz];exact ox,on⟩,rfl,rfl⟩,λ⟨d,zs⟩ ⟨⟨_,_,d0,d1⟩,dx,dn⟩=>⟨λhd=>?_,λhd=>?_⟩⟩
   .have hd:d<(cellsD p k o).length:=hd;have d0:0<=d:=d0;have offO:ja n o:=⟨o0,by show o<_;omega⟩
    have offD:ja n d:=⟨d0,by omega⟩
    have cla:Uf n k:=⟨k0,by show k<_;omega⟩
    refine⟨d0,hd,λhm1=>⟨ay (by omega),⟨(d+1,zs),⟨⟨⟨k0,hk⟩,⟨o0,ho⟩,by show 0<=d+1;omega,by show d+1<=_;omega⟩,by rw[RA d0 hm1];exact dx,dn⟩,⟨rfl,rfl⟩,by show(_-(d+1)).toNat<_;omega⟩⟩,λhm1=>⟨⟨⟨hu,hpl⟩,offO,cla⟩,⟨(0,zs),⟨qL _,by show st4 n p r k o d 0=_;rw[Rw];exact dx,dn⟩,rfl,rfl⟩,λ⟨j,us⟩ y ⟨j0,jx,jn⟩ hy=>?_,λ⟨j,us⟩ ⟨j0,jx,jn⟩ hj=>?_⟩⟩
    .have hy:(jw n p k o)[j.toNat]?=some y:=hy;obtain⟨jl,_⟩:=qF.1 hy;have hyd:(jw n p k o).getD j.toNat 0=y:=by rw[qA,hy];rfl
     have hin:tR p y=true:=by
      have:=zH hy;unfold jw at this;exact(xK.1 this).2
     have hin2:1440*p.1<=y/\y<1440*p.2.1:=by
      unfold tR at hin
      rwa [qC,qE,qE]at hin
     have hf:HE n p o d y us:=⟨⟨⟨hu,hpl⟩,offO,offD⟩,⟨by omega,by omega⟩,jn⟩
     have jx:st4 n p r k o d j.toNat=some us:=jx;have ju:st4 n p r k o d (j.toNat+1)=if ux n p k o d y us=true then some (HD n p o d y us)else none:=by
      rw[Rx,jx];show vq n p k o d j.toNat us=_;unfold vq;rw[hyd]
     refine⟨⟨⟨hf,cla⟩,λhno=>two ?_⟩,λhok=>⟨⟨⟨hf,cla⟩,hok⟩,⟨(j+1,HD n p o d y us),⟨by show 0<=j+1;have:0<=j:=j0;omega,by rw[show((j+1,HD n p o d y us).1).toNat=j.toNat+1 by show(j+1).toNat=_;have:0<=j:=j0;omega,ju,if_pos hok],(Ff 19 hf).2⟩,by show(j+1).toNat=_;have:0<=j:=j0;omega,rfl⟩⟩⟩
     rw[if_neg (by rw[hno];exact Bool.noConfusion)]at ju
     rw[Xt ju (by omega) hm1 d0 hd o0 ho k0 hk]
     exact(if_neg (λh=>by cases h)).symm
    .have hj:j.toNat=(jw n p k o).length:=hj;have jx:st4 n p r k o d j.toNat=some us:=jx;refine⟨ay (by omega),⟨(d+1,us),⟨⟨⟨k0,hk⟩,⟨o0,ho⟩,by show 0<=d+1;omega,by show d+1<=_;omega⟩,by rw[GH d0 hm1,<- hj];exact jx,jn⟩,⟨rfl,rfl⟩,by show(_-(d+1)).toNat<_;omega⟩⟩
   .have d1:d<=(cellsD p k o).length:=d1;have hd:¬d<(cellsD p k o).length:=hd;have de:d=(cellsD p k o).length:=by omega
    have o0:0<=o:=o0;refine⟨ay (by omega),⟨(o+1,zs),⟨⟨⟨k0,hk⟩,by show 0<=o+1;omega,by show o+1<=_;omega⟩,by rw[GI o0,<- de];exact dx,dn⟩,⟨rfl,rfl⟩,by show(_-(o+1)).toNat<_;omega⟩⟩
  .have o1:o<=(dV p k).length:=o1;have ho:¬o<(dV p k).length:=ho;have oe:o=(dV p k).length:=by omega
   have k0:0<=k:=k0;refine⟨ay (by omega),⟨(k+1,ys),⟨⟨by show 0<=k+1;omega,by show k+1<=_;omega⟩,by rw[GK k0,<- oe];exact ox,on⟩,⟨rfl,rfl⟩,by show(_-(k+1)).toNat<_;omega⟩⟩
 .have k1:k<=p.2.2.2.length:=k1;have hk:¬k<p.2.2.2.length:=hk;have ke:k=p.2.2.2.length:=by omega
  have ka:CL n p r=some xs:=by unfold CL;rw[<- ke];exact kx
  rw[ka];have xl:∀xs:Li,(some xs=some [])↔xs.length=0:=λxs=>by
   rw[wB,List.length_eq_zero_iff]
  refine⟨λh=>two ?_,λh=>⟨h,(λh=>by cases h),?_⟩⟩
  .have h:(xs.length:Int)≠0:=h;rw[if_neg (by rw[xl];omega)]
  .have h:(xs.length:Int)=0:=h;rw[if_pos (by rw[xl];omega)]
end Go.Eng.In
set_option maxRecDepth 100000
noncomputable section
namespace Go.Eng.Sv
open Go.Proofs
def p0F(a b:Int): Plan:=(a,b,[],[])
def p1F(n:Net)(a b:Int): Plan:=Yy n (p0F a b)
def p2F(n:Net)(a b:Int): Plan:=Yz n (p1F n a b)
def Jy(n:Net)(a b:Int): Nat->Plan
 | 0=>p0F a b
 | 1=>p0F a b
 | 2=>p1F n a b
 | 3=>p1F n a b
 | _=>p2F n a b
def JG(n:Net)(a b:Int): Nat->jd
 | 5=>(wrN n (p2F n a b),wrS n (p2F n a b))
 | _=>([],0)
def qS(n:Net)(a b:Int): Int:=if HW n (p0F a b)≠0 then HW n (p0F a b)else if nH n (p1F n a b)≠0 then nH n (p1F n a b)else wrE n (p2F n a b)
def cO(n:Net)(a b:Int): Plan:=if qS n a b=0 then p2F n a b else(0,0,[],[])
def HT(n:Net)(a b:Int): jd:=if qS n a b=0 then(wrN n (p2F n a b),wrS n (p2F n a b))else([],0)
def oy(n:Net)(a b:Int)(j:Nat): Prop:=j<=5/\(1<=j->HW n (p0F a b)=0)/\(3<=j->nH n (p1F n a b)=0)/\(5<=j->wrE n (p2F n a b)=0)
def aEh: Kt:=kOr 38 (cK (λ_ _=>True) HW λ_ p c=>(p,c)) <|
 kOr 39 (cK (λ_ p=>aBe p) (λ_ _=>0) λn p c=>(Yy n p,c)) <|
 kOr 40 (cK uW nH λ_ p c=>(p,c)) <|
 kOr 41 (cK (λ_ p=>cC p.2.2.1) (λ_ _=>0) λn p c=>(Yz n p,c)) <|
 kOr 42 (cK (λ_ p=>fe p) wrE λn p _=>(p,(wrN n p,wrS n p))) KC9
def cComp: Cfg:=mkp aEh (λt=>t==19) Go.Eng.noP (λ_=>false)
def aBh(n:Net)(a b:Int): Ann:=⟨λid s=>match id with
 | 4=>some {α:=Nat,inv:=λj=>oy n a b j,st:=λj=>ie (put s [(28,.dat I (Int.ofNat j))]) 2 (.var (OE n (Jy n a b j) (JG n a b j))),μ:=λj=>Dc (Dj 5 (Int.ofNat j)),fin:=[0,1,2,3,4,5]}
 | _=>none,λ_ _=>none,λ_ _=>none⟩
set_option maxHeartbeats 4000000 in
theorem It(a b:Int)(cs:LC)(ns os:LB)(fs:Lo)(ls:Ll)(ks:Lk)(hvc:
 let c1:=(cs,ns,os,fs,ls,ks);let c2:=Dp 0 5;let c3:=Jy c1 a b (0);let c10:=HW c1 c3;let c11:=Dy c10 0;let c12:=cO c1 a b;let c19:=HT c1 a b;let c22:=qS c1 a b;let c23:=Dq 0 1;let c24:=JG c1 a b (0);let c27:=Dp 1 5;let c28:=Jy c1 a b (1);let c36:=Dy 0 0;let c4:=c36->1=1/\0=0/\1=1/\0=0/\1=1/\0=0/\1=1/\0=0/\0=c12.1/\0=c12.2.1/\c12.2.2.1=Dt (Li)/\c12.2.2.2=Dt (Lj)/\c19.1=Dt Int/\0=c19.2/\0=c22/\True;let c37:=Dq 1 1;let c38:=Yy c1 c28;let c41:=JG c1 a b (1);let c44:=Dp 2 5;let c45:=Jy c1 a b (2);let c53:=nH c1 c45;let c54:=Dy c53 0;let c55:=Dq 2 1;let c56:=JG c1 a b (2);let c59:=Dp 3 5;let c60:=Jy c1 a b (3);let c64:=Dq 3 1;let c68:=Yz c1 c60;let c71:=JG c1 a b (3);let c74:=Dp 4 5;let c75:=Jy c1 a b (4);let c83:=wrE c1 c75;let c84:=Dy c83 0;let c85:=Dq 4 1;let c86:=JG c1 a b (4);let c87:=Dp 5 5;let c88:=Jy c1 a b (5);let c91:=JG c1 a b (5);true/\(True->(∃x,let c92:=Jy c1 a b x;let c95:=JG c1 a b x;
 oy c1 a b x/\1=1/\0=0/\0=0/\1=1/\0=0/\0=0/\1=1/\0=0/\0=0/\(5:Int)=(5:Int)/\0=Int.ofNat x/\(0:Int)=(0:Int)/\(0:Int)=(0:Int)/\Value.slice none (0) (0)=Value.slice none (0) (0)/\Value.slice none (0) (0)=Value.slice none (0) (0)/\Value.slice none (0) (0)=Value.slice none (0) (0)/\(0:Int)=(0:Int)/\cs=cs/\ns=ns/\os=os/\fs=fs/\ls=ls/\ks=ks/\a=c92.1/\b=c92.2.1/\c92.2.2.1=Dt (Li)/\c92.2.2.2=Dt (Lj)/\c95.1=Dt Int/\0=c95.2/\True)/\(∀(x:Nat),oy c1 a b x->x∈[0,1,2,3,4,5])/\(oy c1 a b (0)->(c2->Dl 0 0/\0<Dx (5)/\1=1/\0=0/\1=1/\1=1/\0=0/\True/\1=1/\(c11->1=1/\0=0/\1=1/\0=0/\1=1/\0=0/\1=1/\0=0/\0=c12.1/\0=c12.2.1/\c12.2.2.1=Dt (Li)/\c12.2.2.2=Dt (Lj)/\c19.1=Dt Int/\0=c19.2/\c10=c22/\True)/\(c11=false->inR .i64 c23/\∃y,let c96:=Jy c1 a b y;let c99:=JG c1 a b y;oy c1 a b y/\(1=1/\0=0/\0=0/\1=1/\0=0/\0=0/\1=1/\0=0/\0=0/\(5:Int)=(5:Int)/\c23=Int.ofNat y/\(0:Int)=(0:Int)/\(0:Int)=(0:Int)/\Value.slice none (0) (0)=Value.slice none (0) (0)/\Value.slice none (0) (0)=Value.slice none (0) (0)/\Value.slice none (0) (0)=Value.slice none (0) (0)/\(0:Int)=(0:Int)/\cs=cs/\ns=ns/\os=os/\fs=fs/\ls=ls/\ks=ks/\c3.1=c96.1/\c3.2.1=c96.2.1/\c3.2.2.1=c96.2.2.1/\c3.2.2.2=c96.2.2.2/\c24.1=c99.1/\c24.2=c99.2/\True)/\Dc (5-Int.ofNat y)<Dc (Dj 5 0)))/\(c2=false->1=1/\1=1/\1=1/\0=0/\1=1/\1=1/\1=1/\0=0/\1=1/\0=0/\1=1/\0=0/\1=1/\0=0/\1=1/\0=0/\c3.1=c12.1/\c3.2.1=c12.2.1/\c3.2.2.1=c12.2.2.1/\c3.2.2.2=c12.2.2.2/\c24.1=c19.1/\c24.2=c19.2/\0=c22/\True))/\(oy c1 a b (1)->(c27->Dl 0 1/\1<Dx (5)/\1=1/\0=0/\1=1/\1=1/\0=0/\aBe c28/\1=1/\c4/\(c36=false->inR .i64 c37/\∃y,let c100:=Jy c1 a b y;let c103:=JG c1 a b y;
 oy c1 a b y/\(1=1/\0=0/\0=0/\1=1/\0=0/\0=0/\1=1/\0=0/\0=0/\(5:Int)=(5:Int)/\c37=Int.ofNat y/\(0:Int)=(0:Int)/\(0:Int)=(0:Int)/\Value.slice none (0) (0)=Value.slice none (0) (0)/\Value.slice none (0) (0)=Value.slice none (0) (0)/\Value.slice none (0) (0)=Value.slice none (0) (0)/\(0:Int)=(0:Int)/\cs=cs/\ns=ns/\os=os/\fs=fs/\ls=ls/\ks=ks/\c38.1=c100.1/\c38.2.1=c100.2.1/\c38.2.2.1=c100.2.2.1/\c38.2.2.2=c100.2.2.2/\c41.1=c103.1/\c41.2=c103.2/\True)/\Dc (5-Int.ofNat y)<Dc (Dj 5 1)))/\(c27=false->1=1/\1=1/\1=1/\0=0/\1=1/\1=1/\1=1/\0=0/\1=1/\0=0/\1=1/\0=0/\1=1/\0=0/\1=1/\0=0/\c28.1=c12.1/\c28.2.1=c12.2.1/\c28.2.2.1=c12.2.2.1/\c28.2.2.2=c12.2.2.2/\c41.1=c19.1/\c41.2=c19.2/\0=c22/\True))/\(oy c1 a b (2)->(c44->Dl 0 2/\2<Dx (5)/\1=1/\0=0/\1=1/\1=1/\0=0/\uW c1 c45/\1=1/\(c54->1=1/\0=0/\1=1/\0=0/\1=1/\0=0/\1=1/\0=0/\0=c12.1/\0=c12.2.1/\c12.2.2.1=Dt (Li)/\c12.2.2.2=Dt (Lj)/\c19.1=Dt Int/\0=c19.2/\c53=c22/\True)/\(c54=false->inR .i64 c55/\∃y,let c104:=Jy c1 a b y;let c107:=JG c1 a b y;
 oy c1 a b y/\(1=1/\0=0/\0=0/\1=1/\0=0/\0=0/\1=1/\0=0/\0=0/\(5:Int)=(5:Int)/\c55=Int.ofNat y/\(0:Int)=(0:Int)/\(0:Int)=(0:Int)/\Value.slice none (0) (0)=Value.slice none (0) (0)/\Value.slice none (0) (0)=Value.slice none (0) (0)/\Value.slice none (0) (0)=Value.slice none (0) (0)/\(0:Int)=(0:Int)/\cs=cs/\ns=ns/\os=os/\fs=fs/\ls=ls/\ks=ks/\c45.1=c104.1/\c45.2.1=c104.2.1/\c45.2.2.1=c104.2.2.1/\c45.2.2.2=c104.2.2.2/\c56.1=c107.1/\c56.2=c107.2/\True)/\Dc (5-Int.ofNat y)<Dc (Dj 5 2)))/\(c44=false->1=1/\1=1/\1=1/\0=0/\1=1/\1=1/\1=1/\0=0/\1=1/\0=0/\1=1/\0=0/\1=1/\0=0/\1=1/\0=0/\c45.1=c12.1/\c45.2.1=c12.2.1/\c45.2.2.1=c12.2.2.1/\c45.2.2.2=c12.2.2.2/\c56.1=c19.1/\c56.2=c19.2/\0=c22/\True))/\(oy c1 a b (3)->(c59->Dl 0 3/\3<Dx (5)/\1=1/\0=0/\1=1/\1=1/\0=0/\cC c60.2.2.1/\1=1/\c4/\(c36=false->inR .i64 c64/\∃y,let c108:=Jy c1 a b y;let c111:=JG c1 a b y;
 oy c1 a b y/\(1=1/\0=0/\0=0/\1=1/\0=0/\0=0/\1=1/\0=0/\0=0/\(5:Int)=(5:Int)/\c64=Int.ofNat y/\(0:Int)=(0:Int)/\(0:Int)=(0:Int)/\Value.slice none (0) (0)=Value.slice none (0) (0)/\Value.slice none (0) (0)=Value.slice none (0) (0)/\Value.slice none (0) (0)=Value.slice none (0) (0)/\(0:Int)=(0:Int)/\cs=cs/\ns=ns/\os=os/\fs=fs/\ls=ls/\ks=ks/\c68.1=c108.1/\c68.2.1=c108.2.1/\c68.2.2.1=c108.2.2.1/\c68.2.2.2=c108.2.2.2/\c71.1=c111.1/\c71.2=c111.2/\True)/\Dc (5-Int.ofNat y)<Dc (Dj 5 3)))/\(c59=false->1=1/\1=1/\1=1/\0=0/\1=1/\1=1/\1=1/\0=0/\1=1/\0=0/\1=1/\0=0/\1=1/\0=0/\1=1/\0=0/\c60.1=c12.1/\c60.2.1=c12.2.1/\c60.2.2.1=c12.2.2.1/\c60.2.2.2=c12.2.2.2/\c71.1=c19.1/\c71.2=c19.2/\0=c22/\True))/\(oy c1 a b (4)->(c74->Dl 0 4/\4<Dx (5)/\1=1/\0=0/\1=1/\1=1/\0=0/\fe c75/\1=1/\(c84->1=1/\0=0/\1=1/\0=0/\1=1/\0=0/\1=1/\0=0/\0=c12.1/\0=c12.2.1/\c12.2.2.1=Dt (Li)/\c12.2.2.2=Dt (Lj)/\c19.1=Dt Int/\0=c19.2/\c83=c22/\True)/\(c84=false->inR .i64 c85/\∃y,let c112:=Jy c1 a b y;let c115:=JG c1 a b y;
 oy c1 a b y/\(1=1/\0=0/\0=0/\1=1/\0=0/\0=0/\1=1/\0=0/\0=0/\(5:Int)=(5:Int)/\c85=Int.ofNat y/\(0:Int)=(0:Int)/\(0:Int)=(0:Int)/\Value.slice none (0) (0)=Value.slice none (0) (0)/\Value.slice none (0) (0)=Value.slice none (0) (0)/\Value.slice none (0) (0)=Value.slice none (0) (0)/\(0:Int)=(0:Int)/\cs=cs/\ns=ns/\os=os/\fs=fs/\ls=ls/\ks=ks/\c75.1=c112.1/\c75.2.1=c112.2.1/\c75.2.2.1=c112.2.2.1/\c75.2.2.2=c112.2.2.2/\wrN c1 c75=c115.1/\wrS c1 c75=c115.2/\True)/\Dc (5-Int.ofNat y)<Dc (Dj 5 4)))/\(c74=false->1=1/\1=1/\1=1/\0=0/\1=1/\1=1/\1=1/\0=0/\1=1/\0=0/\1=1/\0=0/\1=1/\0=0/\1=1/\0=0/\c75.1=c12.1/\c75.2.1=c12.2.1/\c75.2.2.1=c12.2.2.1/\c75.2.2.2=c12.2.2.2/\c86.1=c19.1/\c86.2=c19.2/\0=c22/\True))/\(oy c1 a b (5)->(c87->False)/\(c87=false->1=1/\1=1/\1=1/\0=0/\1=1/\1=1/\1=1/\0=0/\1=1/\0=0/\1=1/\0=0/\1=1/\0=0/\1=1/\0=0/\c88.1=c12.1/\c88.2.1=c12.2.1/\c88.2.2.1=c12.2.2.1/\c88.2.2.2=c12.2.2.2/\c91.1=c19.1/\c91.2=c19.2/\0=c22/\True))/\True)):
  evF cComp (lvA [(4,[6,7,8,9,12,13,26,27,28])] (aBh (cs,ns,os,fs,ls,ks) a b)) 11 [net cs ns os fs ls ks,.dat I a,.dat I b] [] ⟨True,.tup [.agg [.dat I (cO (cs,ns,os,fs,ls,ks) a b).1,.dat I (cO (cs,ns,os,fs,ls,ks) a b).2.1,.dat M (cO (cs,ns,os,fs,ls,ks) a b).2.2.1,.dat (.sl M) (cO (cs,ns,os,fs,ls,ks) a b).2.2.2],.agg [.dat R (HT (cs,ns,os,fs,ls,ks) a b).1,.dat I (HT (cs,ns,os,fs,ls,ks) a b).2],.dat I (qS (cs,ns,os,fs,ls,ks) a b)],[]⟩:=oE hvc
theorem aBA(h:mX): aj Tryz.prog G0 aEh:=ai (OD λn p c=>Rt n p c)<|ai (OD λn p c=>Rr n p c)<|ai (OD λn p c=>Xh h n p c)<|ai (OD λn p c=>Xi n p c)<|ai (OD λn p c=>Xn n p c) (aEL h)
theorem OP{n:Net}{c:Li}{bd:Lj}{o d:Int}: aT n o (qT n c bd o d)=true:=by
 unfold qT aT;split
 .rename_i i h;have hm:=qX.1 (List.mem_of_find?_eq_some h);have hb:=qDh h;unfold ki at hb;simp only[qC,qE]at hb;rw[yD,qC];refine .inr ⟨?_,vF hb.1.1.1⟩;unfold dM;exact vF ⟨by omega,by omega⟩
 .rfl
theorem MP{n:Net}{a b:Int}(hu:gA n a b=true): mQ n (lj n a b)=true:=by
 have e:lj n a b=Go.Eng.Mp.aK (mA n (bm n a b) (aN n (bm n a b))) n.2.2.2.1.length:=by
  unfold lj Eg;rw[if_pos hu]
 rw[e];generalize hg:mA n (bm n a b) (aN n (bm n a b))=g;have hc:∀o d:Int,aT n o (g o d)=true:=λo d=>by
  rw[<- hg];unfold mA;split
  .rfl
  .exact OP
 unfold mQ Go.Eng.Mp.aK;rw[qC];refine⟨vF (by simp),qN.2 λi hi=>?_⟩
 have hi:i<n.2.2.2.1.length:=by simpa using hi
 rw[qA,qP,vY (by simpa using hi)]
 unfold rowOk;rw[qC];refine⟨vF (by simp),qN.2 λl hl=>?_⟩
 obtain⟨d,_,rfl⟩:=zA.1 hl;exact hc _ _
theorem wT{n:Net}{nx:Lj}(hs:bj n=true)(ht:mQ n nx=true): cC nx:=by
 obtain⟨q1,_⟩:=lu n.1 n.2.1 n.2.2.1 n.2.2.2.1 n.2.2.2.2.1 n.2.2.2.2.2 hs;have q1:(n.2.2.2.1.length:Int)<=12:=q1;unfold mQ at ht;rw[qC,qE]at ht;refine⟨by have:=ht.1;omega,λr hr=>?_⟩
 obtain⟨i,hi,rfl⟩:=wY.1 hr;have:=qN.1 ht.2 i (qX.2 hi);unfold rowOk at this;rw[qC,qE,qA,qB hi,qQ]at this;have:=this.1;omega
theorem Gy{n:Net}{nx:Lj}{a b:Int}(hs:bj n=true): (JY n nx a b).length<=1000000/\∀t∈JY n nx a b,cC t:=by
 obtain⟨q1,q2⟩:=lu n.1 n.2.1 n.2.2.1 n.2.2.2.1 n.2.2.2.2.1 n.2.2.2.2.2 hs;have q1:(n.2.2.2.1.length:Int)<=12:=q1;have q2:(n.2.2.2.2.2.length:Int)<=1000000:=q2;unfold JY;split
 .refine⟨by rw[vV,vX];omega,λt ht=>?_⟩
  obtain⟨k,_,rfl⟩:=zA.1 ht;unfold aBT;refine⟨by rw[vV,vX];omega,λr hr=>?_⟩
  obtain⟨o,_,rfl⟩:=zA.1 hr;unfold aBX;rw[vV,vX];omega
 .exact⟨wW _,λt ht=>by cases ht⟩
theorem aBk{n:Net}{p:Plan}: HW n p=0↔(0<=p.1/\p.1<p.2.1/\p.2.1<=600/\p.2.1-p.1<=60)/\bj n=true:=by
 unfold HW kj;simp only[qC,qE];split
 .rename_i h;exact⟨λ_=>⟨by omega,h.2⟩,λ_=>rfl⟩
 .rename_i h;constructor
  .intro g;cases g
  .intro g;exact absurd ⟨by omega,g.2⟩ h
theorem B5{n:Net}{a b:Int}(h:HW n (p0F a b)=0): (0<=a/\a<b/\b<=600/\b-a<=60)/\bj n=true/\gA n (1440*a) (1440*b)=true/\mQ n (p1F n a b).2.2.1=true:=by
 obtain⟨h1,h2⟩:=aBk.1 h;have h1:0<=a/\a<b/\b<=600/\b-a<=60:=h1;have hu:gA n (1440*a) (1440*b)=true:=by
  unfold gA;rw[qC];exact⟨si.2 (by omega),h2⟩
 exact⟨h1,h2,hu,MP hu⟩
theorem LK(h:mX)(a b:Int)(cs:LC)(ns os:LB)(fs:Lo)(ls:Ll)(ks:Lk): af Tryz.prog G0 11 [net cs ns os fs ls ks,.dat I a,.dat I b] [] ⟨True,.tup [.agg [.dat I (cO (cs,ns,os,fs,ls,ks) a b).1,.dat I (cO (cs,ns,os,fs,ls,ks) a b).2.1,.dat M (cO (cs,ns,os,fs,ls,ks) a b).2.2.1,.dat (.sl M) (cO (cs,ns,os,fs,ls,ks) a b).2.2.2],.agg [.dat R (HT (cs,ns,os,fs,ls,ks) a b).1,.dat I (HT (cs,ns,os,fs,ls,ks) a b).2],.dat I (qS (cs,ns,os,fs,ls,ks) a b)],[]⟩:=by
 refine ae (c:=cComp) (aBA h) aL hm (It a b cs ns os fs ls ks ⟨rfl,λ_=>?_⟩)
 obtain⟨n,hn⟩:∃n:Net,n=(cs,ns,os,fs,ls,ks):=⟨_,rfl⟩;simp only[<- hn];have eP:∀p:Plan,(p.1,p.2.1,p.2.2.1,p.2.2.2)=p:=λ_=>rfl
 simp only[qc,Dh,Es,Di,qd,Dt,Eb,Dy,Dp,Ei,Eh,Ed,Ew,Df,Et,Dl,Dn,Eo,Dz,Dw,Dj,Dq,Ee,Fe,Dc,Dx,Dk,Ec,Em,Du,Eu,Ez,En,Ef,Fg,Fj,Fh,Ep,Ej,Ey,Fb,eP];have bad:∀e:Int,e≠0->e=qS n a b->0=(cO n a b).1/\0=(cO n a b).2.1/\(cO n a b).2.2.1=[]/\(cO n a b).2.2.2=[]/\(HT n a b).1=[]/\0=(HT n a b).2/\e=qS n a b:=λe he h=>by
  have hne:¬qS n a b=0:=by rw[<- h];exact he
  unfold cO HT;rw[if_neg hne,if_neg hne];exact⟨rfl,rfl,rfl,rfl,rfl,rfl,h⟩
 refine⟨⟨0,⟨by omega,λh=>by omega,λh=>by omega,λh=>by omega⟩,rfl,rfl,rfl,rfl,rfl,rfl,rfl⟩,λx hx=>?_,λ_=>?_,λh1=>?_,λh2=>?_,λh3=>?_,λh4=>?_,λh5=>?_⟩
 .have:=hx.1;rcases(by omega:x=0\/x=1\/x=2\/x=3\/x=4\/x=5)with rfl | rfl | rfl | rfl | rfl | rfl<;>simp
 .refine⟨λ_=>⟨by omega,by omega,λg=>bad _ g ?_,λg=>⟨aM (by omega),1,⟨by omega,λ_=>g,λh=>by omega,λh=>by omega⟩,⟨rfl,rfl,rfl,rfl,rfl,rfl,rfl⟩,by decide⟩⟩,λh=>absurd (by decide) h⟩
  unfold qS;rw[if_pos (show HW n (p0F a b)≠0 from g)];rfl
 .have hk:=h1.2.1 (by omega)
  obtain⟨hr,hs,hu,ht⟩:=B5 hk;exact⟨λ_=>⟨by omega,by omega,⟨by show 0<=a;omega,by show a<=1000;omega,by show 0<=b;omega,by show b<=1000;omega⟩,λh=>absurd rfl h,aM (by omega),2,⟨by omega,λ_=>hk,λh=>by omega,λh=>by omega⟩,⟨rfl,rfl,rfl,rfl,rfl,rfl,rfl⟩,by decide⟩,λh=>absurd (by decide) h⟩
 .have hk:=h2.2.1 (by omega)
  obtain⟨hr,hs,hu,ht⟩:=B5 hk;refine⟨λ_=>⟨by omega,by omega,⟨hs,ht⟩,λg=>bad _ g ?_,λg=>⟨aM (by omega),3,⟨by omega,λ_=>hk,λ_=>g,λh=>by omega⟩,⟨rfl,rfl,rfl,rfl,rfl,rfl,rfl⟩,by decide⟩⟩,λh=>absurd (by decide) h⟩
  unfold qS;rw[if_neg (λh=>h hk),if_pos (show nH n (p1F n a b)≠0 from g)];rfl
 .have hk:=h3.2.1 (by omega)
  obtain⟨hr,hs,hu,ht⟩:=B5 hk;exact⟨λ_=>⟨by omega,by omega,wT hs ht,λh=>absurd rfl h,aM (by omega),4,⟨by omega,λ_=>hk,λ_=>h3.2.2.1 (by omega),λh=>by omega⟩,⟨rfl,rfl,rfl,rfl,rfl,rfl,rfl⟩,by decide⟩,λh=>absurd (by decide) h⟩
 .have hk:=h4.2.1 (by omega)
  have hso:=h4.2.2.1 (by omega)
  obtain⟨hr,hs,hu,ht⟩:=B5 hk;obtain⟨t1,t2⟩:=Gy (nx:=(p1F n a b).2.2.1) (a:=(p1F n a b).1) (b:=(p1F n a b).2.1) hs;refine⟨λ_=>⟨by omega,by omega,⟨wT hs ht,t1,t2⟩,λg=>bad _ g ?_,λg=>⟨aM (by omega),5,⟨by omega,λ_=>hk,λ_=>hso,λ_=>g⟩,⟨rfl,rfl,rfl,rfl,rfl,rfl,rfl⟩,by decide⟩⟩,λh=>absurd (by decide) h⟩
  unfold qS;rw[if_neg (λh=>h hk),if_neg (λh=>h hso)];rfl
 .have hk:=h5.2.1 (by omega)
  have hso:=h5.2.2.1 (by omega)
  have hw:=h5.2.2.2 (by omega)
  have hE:qS n a b=0:=by
   unfold qS;rw[if_neg (λh=>h hk),if_neg (λh=>h hso)];exact hw
  unfold cO HT;rw[if_pos hE,if_pos hE,hE];exact⟨λh=>absurd h (by decide),λ_=>⟨rfl,rfl,rfl,rfl,rfl,rfl,rfl⟩⟩
end Go.Eng.Sv
set_option maxRecDepth 100000
noncomputable section
namespace Go.Eng.Sv
open Go.Proofs
def ru(x:Int): Li->Nat
 | []=>0
 | a::l=>if a=x then 0 else ru x l+1
def JZ(l:Li)(x:Int): Int:=if ru x l<l.length then(ru x l:Int)else -1
def Tz(l:Li)(x k:Int): Prop:=0<=k/\k<=l.length/\k<=ru x l
def Yq(l:Li): Prop:=(l.length:Int)<=1000000000
def gOk(n:Net)(p:Plan)(o:Int): Bool:=(dM o n.2.2.2.1.length&&bj n)&&fG n p
def gsF(n:Net)(p:Plan)(o:Int): Li:=if gOk n p o=true then -1::gi p o else[]
def uD(p:Plan)(o d:Int): Int:=if d=o then 0 else if(dY p o).getD d.toNat 0=-1 then -1 else JZ (-1::gi p o) ((dY p o).getD d.toNat 0)
def ofF(n:Net)(p:Plan)(o:Int): Li:=if gOk n p o=true then(List.range n.2.2.2.1.length).map λd:Nat=>uD p o d else[]
def M8(n:Net)(p:Plan)(o k:Int): Li:=upF (uD p o) 0 n.2.2.2.1.length k
def gTo(n:Net)(p:Plan)(o k:Int): Prop:=gOk n p o=true/\0<=k/\k<=n.2.2.2.1.length
theorem Wv(o x:Int)(cs:LC)(ns os:LB)(fs:Lo)(ls:Ll)(ks:Lk)(hvc:
 let c1:=Eb x (-1);let c2:=Di c1;let c8:=c2->c2->c2;let c3:=Ed x 0;let c7:=Dh c2 c3->Dh c2 c3->Dh c2 c3;let c4:=Df ls;let c5:=Ea c3 (Dp x c4) false;let c6:=Dh c2 c5->Dh c2 c5->Dh c2 c5;true/\(True->c8/\c8/\c7/\c7/\c7/\c7/\c8/\(c2->Dh c2 c3->Dh c2 c3)/\c8/\c6/\c6/\c6/\(Dh c2 c5->0<=x)/\(Dh c2 c5->x<c4)/\c6/\c6/\c6/\c6/\c8/\(c2->Dh c2 c5->Dh c2 c5)/\(Dh true c2->c2)/\Ea c1 true (Ea c5 (Eb (Du ls (Dc x) (ByteArray.mk #[],(0:Int),(0:Int),(0:Int),(0:Int),(0:Int))).2.1 o) false)=aT (cs,ns,os,fs,ls,ks) o x/\True)):
  evF (mkc KC8) az 107 [.dat I o,.dat I x,.ip N (cs,ns,os,fs,ls,ks)] [] ⟨True,.dat .bool (aT (cs,ns,os,fs,ls,ks) o x),[]⟩:=oE hvc
theorem Wu(o x:Int)(hvc:
 let c1:=Ed x (-1);true/\(True->(c1->c1->c1)/\(Dh true c1->c1)/\Ea c1 (Eh x 65518) false=gj o x/\True)):
  evF (mkc KC8) az 108 [.dat I o,.dat I x] [] ⟨True,.dat .bool (gj o x),[]⟩:=oE hvc
def Zk: Kt:=kOr 107 (ax [.val I,.val I,.ptr N] (λ_=>True) λ(o,x,n,_)=>.dat .bool (aT n o x)) <|
 kOr 108 (ax [.val I,.val I] (λ_=>True) λ(o,x,_)=>.dat .bool (gj o x)) KC8
theorem Wp(t:Lj)(m:Int)(n:Net)(hvc:
 let c1:=Dy (Df t) m;let c2:=sgF (aT n) t m;true/\(cC t->(c1->false=c2/\True)/\(c1=false->(∃x,CS (aT n) t m x/\m=m/\n=n/\t=t/\Df t=Df t/\0=x/\True)/\∀(x:Int),let c3:=Dp x (Df t);let c4:=Du t (Dc x) [];let c5:=Df c4;let c6:=Dy c5 m;let c7:=x+1;CS (aT n) t m x->(c3->0<=x/\x<Df t/\(c6->false=c2/\True)/\(c6=false->(∃x_4,mx (aT n) c4 m x x_4/\m=m/\n=n/\x=x/\c4=c4/\t=t/\Df t=Df t/\x=x/\c4=c4/\c5=c5/\0=x_4/\True)/\∀(x_4:Int),let c8:=Di (aT n x (Du c4 (Dc x_4) 0));let c9:=x_4+1;mx (aT n) c4 m x x_4->(Dp x_4 c5->0<=x_4/\x_4<c5/\True/\(c8->false=c2/\True)/\(c8=false->inR .i64 c9/\∃y,mx (aT n) c4 m x y/\(m=m/\n=n/\x=x/\c4=c4/\t=t/\Df t=Df t/\x=x/\c4=c4/\c5=c5/\c9=y/\True)/\Dc (c5-y)<Dc (c5-x_4)))/\(Dp x_4 c5=false->inR .i64 c7/\∃y,CS (aT n) t m y/\(m=m/\n=n/\t=t/\Df t=Df t/\c7=y/\True)/\Dc (Df t-y)<Dc (Df t-x))))/\(c3=false->true=c2/\True)))):
  evF (mkc Zk) (lvA [(4,[1,2,6,7,8,10,15,16,17,26,27,28]),(9,[1,2,6,7,8,10,15,16,17,26,27,28])] (sgA (aT n) t m)) 109 [.dat M t,.dat I m,.fn 107 [.ip N n]] [] ⟨cC t,.dat .bool (sgF (aT n) t m),[]⟩:=oE hvc
theorem Wq(t:Lj)(m:Int)(hvc:
 let c1:=Dy (Df t) m;true/\(cC t->(c1->false=sgF gj t m/\True)/\(c1=false->(∃x,CS gj t m x/\m=m/\t=t/\Df t=Df t/\0=x/\True)/\∀(x:Int),let c2:=Dp x (Df t);let c3:=Du t (Dc x) [];let c4:=Df c3;let c5:=Dy c4 m;let c6:=x+1;CS gj t m x->(c2->0<=x/\x<Df t/\(c5->false=sgF gj t m/\True)/\(c5=false->(∃x_4,mx gj c3 m x x_4/\m=m/\x=x/\c3=c3/\t=t/\Df t=Df t/\x=x/\c3=c3/\c4=c4/\0=x_4/\True)/\∀(x_4:Int),let c7:=Di (gj x (Du c3 (Dc x_4) 0));let c8:=x_4+1;mx gj c3 m x x_4->(Dp x_4 c4->0<=x_4/\x_4<c4/\True/\(c7->false=sgF gj t m/\True)/\(c7=false->inR .i64 c8/\∃y,mx gj c3 m x y/\(m=m/\x=x/\c3=c3/\t=t/\Df t=Df t/\x=x/\c3=c3/\c4=c4/\c8=y/\True)/\Dc (c4-y)<Dc (c4-x_4)))/\(Dp x_4 c4=false->inR .i64 c6/\∃y,CS gj t m y/\(m=m/\t=t/\Df t=Df t/\c6=y/\True)/\Dc (Df t-y)<Dc (Df t-x))))/\(c2=false->true=sgF gj t m/\True)))):
  evF (mkc Zk) (lvA [(4,[1,2,6,7,8,10,15,16,17,26,27,28]),(9,[1,2,6,7,8,10,15,16,17,26,27,28])] (sgA gj t m)) 109 [.dat M t,.dat I m,.fn 108 []] [] ⟨cC t,.dat .bool (sgF gj t m),[]⟩:=oE hvc
def aDM(args:List AV)(m:Mem): Option jD:=match m,args with
 | [],[.dat (.sl (.sl (.int .i64))) t,.dat (.int .i64) k,.fn f caps]=>if f=107 then match ofK [.ptr N] caps with
   | some (n,_)=>some ⟨cC t,.dat .bool (sgF (aT n) t k),[]⟩
   | none=>none
  else if f=108 then match ofK [] caps with
   | some _=>some ⟨cC t,.dat .bool (sgF gj t k),[]⟩
   | none=>none
  else none
 | _,_=>none
def aEg: Kt:=kOr 109 aDM Zk
def aBl(n:Net)(p:Plan): Ann:=⟨λid s=>match id with
 | 6=>some {α:=Int,inv:=λk=>qg n p k,st:=λk=>put s [(38,.dat I k)],μ:=λk=>Dc (Dj (Df p.2.2.2) k)}
 | _=>none,λ_ _=>none,λ_ _=>none⟩
theorem QH(cs:LC)(ns os:LB)(fs:Lo)(ls:Ll)(ks:Lk)(p1 p2:Int)(nx:Lj)(dy:List (Lj))(hvc:
 let c15:=Di (kj p1 p2);let c1:=(p1,p2,nx,dy);let c2:=Di c15;let c14:=c2->c2->c2;let c3:=Df dy;let c4:=Ea c15 true (Dy c3 (Df ks));let c5:=Di c4;let c13:=c5->c5->c5;let c6:=(cs,ns,os,fs,ls,ks);let c7:=Df fs;let c8:=Ea c4 true (Di (sgF (aT c6) nx c7));let c9:=fG c6 c1;true/\(fe c1->True/\c14/\c14/\c14/\c14/\c14/\c14/\(Dh true c2->c2)/\c13/\c13/\c13/\c13/\c13/\c13/\(c5->cC nx)/\c13/\(Dh true c5->c5)/\(c8->false=c9/\True)/\(c8=false->(∃x,qg c6 c1 x/\c6=c6/\dy=dy/\c3=c3/\0=x/\True)/\∀(x:Int),let c10:=Du dy (Dc x) (Dt (Li));let c11:=Di (sgF gj c10 c7);let c12:=x+1;qg c6 c1 x->(Dp x c3->0<=x/\x<c3/\cC c10/\(c11->false=c9/\True)/\(c11=false->inR .i64 c12/\∃y,qg c6 c1 y/\(c6=c6/\dy=dy/\c3=c3/\c12=y/\True)/\Dc (c3-y)<Dc (c3-x)))/\(Dp x c3=false->true=c9/\True)))):
  evF (mkc aEg) (lvA [(6,[2,4,6,8,36,37,38])] (aBl (cs,ns,os,fs,ls,ks) (p1,p2,nx,dy))) 44 [net cs ns os fs ls ks,.agg [.dat I p1,.dat I p2,.dat M nx,.dat (.sl M) dy]] [] ⟨fe (p1,p2,nx,dy),.dat .bool (fG (cs,ns,os,fs,ls,ks) (p1,p2,nx,dy)),[]⟩:=oE hvc
def aE7(l:Li)(x:Int): Ann:=⟨λid s=>match id with
 | 2=>some {α:=Int,inv:=λk=>Tz l x k,st:=λk=>put s [(8,.dat I k)],μ:=λk=>Dc (Dj (Df l) k)}
 | _=>none,λ_ _=>none,λ_ _=>none⟩
theorem Qx(l:Li)(x:Int)(hvc:
 true/\(Yq l->(∃x_2,Tz l x x_2/\l=l/\x=x/\Df l=Df l/\0=x_2/\True)/\∀(x_2:Int),let c1:=Dp x_2 (Df l);let c2:=Eb x (Du l (Dc x_2) 0);let c3:=x_2+1;Tz l x x_2->(c1->0<=x_2/\x_2<Df l/\(c2->x_2=JZ l x/\True)/\(c2=false->inR IntKind.i64 c3/\∃y,Tz l x y/\(l=l/\x=x/\Df l=Df l/\c3=y/\True)/\Dc (Df l-y)<Dc (Df l-x_2)))/\(c1=false->(-1:Int)=JZ l x/\True))):
  evF (mkc KC8) (lvA [(2,[0,1,4,5,7,8])] (aE7 l x)) 46 [.dat R l,.dat I x] [] ⟨Yq l,.dat I (JZ l x),[]⟩:=oE hvc
def aEW: Kt:=kOr 44 (ax [.row N,.row Pl] (λ(_,p,_)=>fe p) λ(n,p,_)=>.dat .bool (fG n p)) <|
 kOr 46 (ax [.val R,.val I] (λ(l,_,_)=>Yq l) λ(l,x,_)=>.dat I (JZ l x)) aEh
def aE9(n:Net)(p:Plan)(o:Int): Ann:=⟨λid s=>match id with
 | 6=>match s.sig.T 9 with
  | .buf nm _=>some {α:=Int,inv:=λk=>gTo n p o k,st:=λk=>ie (put s [(47,.dat I k)]) nm (.buf 3 I (M8 n p o k) []),μ:=λk=>Dc (Dj (Df n.2.2.2.1) k)}
  | _=>none
 | _=>none,λ_ _=>none,λ_ _=>none⟩
def aEv: Cfg:=mkp aEW (λt=>t==32) Go.Eng.noP (λ_=>false)
theorem KG(o:Int)(cs:LC)(ns os:LB)(fs:Lo)(ls:Ll)(ks:Lk)(p1 p2:Int)(nx:Lj)(dy:List (Lj))(hvc:
 let c1:=(p1,p2,nx,dy);let c2:=Dp o 0;let c3:=Di c2;let c25:=c3->c3->c3;let c4:=Df fs;let c5:=Ea c2 true (Ed o c4);let c6:=Di c5;let c7:=(cs,ns,os,fs,ls,ks);let c8:=Ea c5 true (Di (bj c7));let c9:=Di c8;let c26:=c9->c9->c9;let c10:=Ea c8 true (Di (fG c7 c1));let c11:=gsF c7 c1 o;let c12:=ofF c7 c1 o;let c13:=[(-1:Int)];let c14:=gi c1 o;let c15:=(1)+Dk c14;let c16:=Dc c4;let c17:=Du nx (Dc o) [];let c18:=Df c17;let c19:=Ef c13 c14;true/\(fe c1->c25/\c25/\c25/\c25/\(Dh true c3->c3)/\(c6->c6->c6)/\(c6->True)/\(c6->c6->c6)/\(Dh true c6->c6)/\c26/\c26/\(c9->fe c1)/\c26/\(Dh true c9->c9)/\(c10->c11=Dt Int/\c12=Dt Int/\True)/\(c10=false->QR c1 o/\Dk c13=1/\(c15*(8))<=(140737488355328)/\c15<=(9223372036854775807)/\0<=c4/\(Dx (8)*c4)<=281474976710656/\c4<=9223372036854775807/\0<=o/\o<Df nx/\(∃x,gTo c7 c1 o x/\o=o/\Value.slice none (0) (0)=Value.slice none (0) (0)/\Value.slice none (0) (0)=Value.slice none (0) (0)/\c15=c15/\c16=c16/\c17=c17/\c18=c18/\0=x/\c19=c19/\Ep c4 (0:Int)=M8 c7 c1 o x/\True)/\∀(x:Int),let c20:=M8 c7 c1 o x;let c21:=Dk c20;let c22:=x+1;let c23:=Du c17 (Dc x) 0;let c24:=Eb c23 (-1);
 gTo c7 c1 o x->(Dp x c18->0<=x/\x<c18/\(Eb x o->c21=c16/\0<=x/\x<Dx c21/\c21=c16/\inR .i64 c22/\∃y,gTo c7 c1 o y/\(o=o/\Value.slice none (0) (0)=Value.slice none (0) (0)/\Value.slice none (0) (0)=Value.slice none (0) (0)/\c15=c15/\c16=c16/\c17=c17/\c18=c18/\c22=y/\c19=c19/\En c20 (Dc x) 0=M8 c7 c1 o y/\True)/\Dc (c4-y)<Dc (c4-x))/\(Eb x o=false->(c24->c21=c16/\0<=x/\x<Dx c21/\c21=c16/\inR IntKind.i64 c22/\∃y,gTo c7 c1 o y/\(o=o/\Value.slice none (0) (0)=Value.slice none (0) (0)/\Value.slice none (0) (0)=Value.slice none (0) (0)/\c15=c15/\c16=c16/\c17=c17/\c18=c18/\c22=y/\c19=c19/\En c20 (Dc x) (-1)=M8 c7 c1 o y/\True)/\Dc (c4-y)<Dc (c4-x))/\(c24=false->Yq c19/\Dk c19=c15/\c21=c16/\0<=x/\x<Dx c21/\c21=c16/\inR .i64 c22/\∃y,gTo c7 c1 o y/\(o=o/\Value.slice none (0) (0)=Value.slice none (0) (0)/\Value.slice none (0) (0)=Value.slice none (0) (0)/\c15=c15/\c16=c16/\c17=c17/\c18=c18/\c22=y/\c19=c19/\En c20 (Dc x) (JZ c19 c23)=M8 c7 c1 o y/\True)/\Dc (c4-y)<Dc (c4-x))))/\(Dp x c18=false->Dk c19=c15/\c19=c11/\c21=c16/\c20=c12/\True)))):
  evF aEv (lvA [(6,[2,6,7,8,9,10,11,45,46,47])] (aE9 (cs,ns,os,fs,ls,ks) (p1,p2,nx,dy) o)) 12 [net cs ns os fs ls ks,.agg [.dat I p1,.dat I p2,.dat M nx,.dat (.sl M) dy],.dat I o] [] ⟨fe (p1,p2,nx,dy),.tup [.dat R (gsF (cs,ns,os,fs,ls,ks) (p1,p2,nx,dy) o),.dat R (ofF (cs,ns,os,fs,ls,ks) (p1,p2,nx,dy) o)],[]⟩:=oE hvc
theorem aAi(o x:Int)(cs:LC)(ns os:LB)(fs:Lo)(ls:Ll)(ks:Lk): af Tryz.prog G0 107 [.dat I o,.dat I x,.ip N (cs,ns,os,fs,ls,ks)] [] ⟨True,.dat .bool (aT (cs,ns,os,fs,ls,ks) o x),[]⟩:=by
 refine ae (c:=mkc KC8) PE aL hm (Wv o x cs ns os fs ls ks ⟨rfl,λ_=>?_⟩)
 simp only[qc,Dh,Es,Di,qd,Dt,Eb,Dy,Dp,Ei,Eh,Ed,Ew,Df,Et,Dl,Dn,Eo,Dz,Dw,Dj,Dq,Ee,Fe,Dc,Dx,Dk,Ec,Em,Du,Eu,Ez,En,Ef,Fg,Fj,Fh,Ep,Ej,Ey,Fb];refine⟨λh=>h.2.1,λh=>h.2.2,?_⟩
 unfold aT dM;rw[qBi];simp only[yD,qC,xH,qE];exact Iff.rfl
theorem aAh(o x:Int): af Tryz.prog G0 108 [.dat I o,.dat I x] [] ⟨True,.dat .bool (gj o x),[]⟩:=by
 refine ae (c:=mkc KC8) PE aL hm (Wu o x ⟨rfl,λ_=>⟨λh _=>h,λh=>by simpa[Dh]using h,?_,trivial⟩⟩)
 unfold gj tO;simp only[Ea,Ed,Eh,kN];by_cases h:-1<=x<;>simp[h]
theorem YU: aj Tryz.prog G0 Zk:=ai (ag λ(o,x,(cs,ns,os,fs,ls,ks),_)=>aAi o x cs ns os fs ls ks)<|ai (ag λ(o,x,_)=>aAh o x) PE
theorem aAe(t:Lj)(m:Int)(n:Net): af Tryz.prog G0 109 [.dat M t,.dat I m,.fn 107 [.ip N n]] [] ⟨cC t,.dat .bool (sgF (aT n) t m),[]⟩:=by
 refine ae (c:=mkc Zk) YU aL hm (Wp t m n ⟨rfl,λhf=>?_⟩)
 simp only[qc,Dh,Es,Di,qd,Dt,Eb,Dy,Dp,Ei,Eh,Ed,Ew,Df,Et,Dl,Dn,Eo,Dz,Dw,Dj,Dq,Ee,Fe,Dc,Dx,Dk,Ec,Em,Du,Eu,Ez,En,Ef,Fg,Fj,Fh,Ep,Ej,Ey,Fb];exact xf (aT n) hf
theorem aAf(t:Lj)(m:Int): af Tryz.prog G0 109 [.dat M t,.dat I m,.fn 108 []] [] ⟨cC t,.dat .bool (sgF gj t m),[]⟩:=by
 refine ae (c:=mkc Zk) YU aL hm (Wq t m ⟨rfl,λhf=>?_⟩)
 simp only[qc,Dh,Es,Di,qd,Dt,Eb,Dy,Dp,Ei,Eh,Ed,Ew,Df,Et,Dl,Dn,Eo,Dz,Dw,Dj,Dq,Ee,Fe,Dc,Dx,Dk,Ec,Em,Du,Eu,Ez,En,Ef,Fg,Fj,Fh,Ep,Ej,Ey,Fb];exact xf gj hf
theorem vg{P:Program}{C:Ctx}{a b x x':AV}{us:Lv}(h:AV.relL P C [a,b,x] us)(hx:∀v,x.rel P C v->x'.rel P C v): AV.relL P C [a,b,x'] us:=by
 obtain⟨u,us,rfl,h1,h2⟩:=h;exact⟨_,_,rfl,h1,fQ h2 hx⟩
theorem Yx: ∀args m c,aDM args m=some c->af Tryz.prog G0 109 args m c:=by
 intro args m c hc;unfold aDM at hc;split at hc
 case h_2=>cases hc
 rename_i t k f caps;split at hc
 .rename_i hf;subst hf;split at hc
  case h_2=>cases hc
  rename_i n _ hx;cases hc;exact(aAe t k n).args λC us hG hu=>vg hu λv hv=>tL hx hv
 .split at hc
  case isFalse=>cases hc
  rename_i hf;subst hf;split at hc
  case h_2=>cases hc
  rename_i x hx;cases hc;exact(aAf t k).args λC us hG hu=>vg hu λv hv=>tL hx hv
theorem aD6: aj Tryz.prog G0 aEg:=ai Yx YU
theorem Xl(cs:LC)(ns os:LB)(fs:Lo)(ls:Ll)(ks:Lk)(p1 p2:Int)(nx:Lj)(dy:List (Lj)): af Tryz.prog G0 44 [net cs ns os fs ls ks,.agg [.dat I p1,.dat I p2,.dat M nx,.dat (.sl M) dy]] [] ⟨fe (p1,p2,nx,dy),.dat .bool (fG (cs,ns,os,fs,ls,ks) (p1,p2,nx,dy)),[]⟩:=by
 refine ae (c:=mkc aEg) aD6 aL hm (QH cs ns os fs ls ks p1 p2 nx dy ⟨rfl,λhf=>?_⟩)
 simp only[qc,Dh,Es,Di,qd,Dt,Eb,Dy,Dp,Ei,Eh,Ed,Ew,Df,Et,Dl,Dn,Eo,Dz,Dw,Dj,Dq,Ee,Fe,Dc,Dx,Dk,Ec,Em,Du,Eu,Ez,En,Ef,Fg,Fj,Fh,Ep,Ej,Ey,Fb];obtain⟨a3,a4,a5⟩:=id hf;have a3:cC nx:=a3;have a4:dy.length<=1000000:=a4;have eT:sgF (aT (cs,ns,os,fs,ls,ks)) nx fs.length=mQ (cs,ns,os,fs,ls,ks) nx:=rfl;have eR:kj p1 p2=mH (p1,p2,nx,dy):=by
  unfold kj mH;rw[qBi];simp only[qC,qE];omega
 rw[eT,eR];have eF:fG (cs,ns,os,fs,ls,ks) (p1,p2,nx,dy)=(mH (p1,p2,nx,dy)&&(mQ (cs,ns,os,fs,ls,ks) nx&&pw (cs,ns,os,fs,ls,ks) (p1,p2,nx,dy))):=rfl;have eD:(dy.length:Int)=ks.length->(pw (cs,ns,os,fs,ls,ks) (p1,p2,nx,dy)=true↔∀i:Nat,(i:Int)<dy.length->sgF gj (dy.getD i []) fs.length=true):=λhl=>by
  unfold pw;simp only[qC,qE,qN];refine⟨λh i hi=>h.2 _ (getD_mem (by omega)),λh=>⟨hl,λx hx=>?_⟩⟩
  obtain⟨i,hi,rfl⟩:=wY.1 hx;have:=h i (by omega)
  rw[qA,qB hi,qQ]at this;exact this
 refine⟨λ_=>a3,λh=>?_,λ⟨⟨hR,h2⟩,h3⟩=>⟨⟨qL _,vC _,hR,h3,h2,λi hi=>by omega⟩,λx ⟨x0,x1,_,_,_,x5⟩=>⟨λhx=>⟨x0,hx,a5 _ (getD_mem (l:=dy) (i:=x.toNat) (d:=[]) (by omega)),λh4=>?_,λh4=>?_⟩,λhx=>?_⟩⟩⟩
 .rw[eF];rcases h with(h | h) | h
  .rw[h];rfl
  .have:pw (cs,ns,os,fs,ls,ks) (p1,p2,nx,dy)=false:=by
    unfold pw;rw[vK h];rfl
   rw[this];simp
  .rw[h];simp
 .refine(kM.2 λht=>?_).symm
  rw[eF]at ht;simp only[qC]at ht;have:=(eD h2).1 ht.2.2 x.toNat (by omega)
  rw[h4]at this;cases this
 .refine⟨aM (by omega),x+1,⟨by omega,by show x+1<=(dy.length:Int);omega,hR,h3,h2,λi hi=>?_⟩,rfl,by omega⟩
  by_cases h5:(i:Int)<x
  .exact x5 i h5
  .have:i=x.toNat:=by omega
   subst this;exact h4
 .rw[eF,hR,h3,(eD h2).2 λi hi=>x5 i (by omega)];rfl
theorem NT(x:Int): ∀l:Li,ru x l<=l.length
 | []=>qJ _
 | a::l=>by
  unfold ru;split
  .exact wW _
  .exact qBy (NT x l)
theorem Vg{x:Int}: ∀{l:Li} {k:Nat},k<l.length->l.getD k 0=x->ru x l<=k
 | [],k,h,_=>by simp at h
 | a::l,k,h,e=>by
  unfold ru;split
  .exact wW _
  .cases k with
   | zero=>contradiction
   | succ k=>exact qBy (Vg (by simpa using h) (by simpa using e))
theorem Vf{x:Int}: ∀{l:Li} {k:Nat},k<=ru x l->l.getD k 0≠x->k<l.length->k+1<=ru x l
 | [],k,_,_,h=>by simp at h
 | a::l,k,h,e,hk=>by
  unfold ru at h ⊢;split
  .rename_i ha;rw[if_pos ha]at h;have:k=0:=by omega
   subst this;exact absurd ha e
  .rename_i ha;rw[if_neg ha]at h;cases k with
   | zero=>omega
   | succ k=>exact qBy (Vf (by omega) (by simpa using e) (by simpa using hk))
theorem Xe(l:Li)(x:Int): af Tryz.prog G0 46 [.dat R l,.dat I x] [] ⟨Yq l,.dat I (JZ l x),[]⟩:=by
 refine ae (c:=mkc KC8) PE aL hm (Qx l x ⟨rfl,λhf=>?_⟩)
 simp only[qc,Dh,Es,Di,qd,Dt,Eb,Dy,Dp,Ei,Eh,Ed,Ew,Df,Et,Dl,Dn,Eo,Dz,Dw,Dj,Dq,Ee,Fe,Dc,Dx,Dk,Ec,Em,Du,Eu,Ez,En,Ef,Fg,Fj,Fh,Ep,Ej,Ey,Fb];unfold Yq at hf;refine⟨⟨by omega,by omega,by omega⟩,λk ⟨k0,k1,k2⟩=>⟨λhlt=>⟨k0,hlt,λhe=>?_,λhne=>⟨aM (by omega),k+1,⟨by omega,by omega,?_⟩,rfl,by omega⟩⟩,λhge=>?_⟩⟩
 .have hk:k.toNat<l.length:=by omega
  have h1:=Vg hk he.symm;have e:ru x l=k.toNat:=by omega
  unfold JZ;rw[e,if_pos hk];omega
 .have h1:=Vf (x:=x) (l:=l) (k:=k.toNat) (by omega) (λe=>hne e.symm) (by omega)
  omega
 .have h1:=NT x l;unfold JZ;rw[if_neg (by omega)]
theorem aD5(h:mX): aj Tryz.prog G0 aEW:=ai (ag λ((cs,ns,os,fs,ls,ks),(p1,p2,nx,dy),_)=>Xl cs ns os fs ls ks p1 p2 nx dy)<|ai (ag λ(l,x,_)=>Xe l x) (aBA h)
theorem Ro(h:mX)(o:Int)(cs:LC)(ns os:LB)(fs:Lo)(ls:Ll)(ks:Lk)(p1 p2:Int)(nx:Lj)(dy:List (Lj)): af Tryz.prog G0 12 [net cs ns os fs ls ks,.agg [.dat I p1,.dat I p2,.dat M nx,.dat (.sl M) dy],.dat I o] [] ⟨fe (p1,p2,nx,dy),.tup [.dat R (gsF (cs,ns,os,fs,ls,ks) (p1,p2,nx,dy) o),.dat R (ofF (cs,ns,os,fs,ls,ks) (p1,p2,nx,dy) o)],[]⟩:=by
 refine ae (c:=aEv) (aD5 h) aL hm (KG o cs ns os fs ls ks p1 p2 nx dy ⟨rfl,λhf=>?_⟩)
 simp only[qc,Dh,Es,Di,qd,Dt,Eb,Dy,Dp,Ei,Eh,Ed,Ew,Df,Et,Dl,Dn,Eo,Dz,Dw,Dj,Dq,Ee,Fe,Dc,Dx,Dk,Ec,Em,Du,Eu,Ez,En,Ef,Fg,Fj,Fh,Ep,Ej,Ey,Fb];have ok:gOk (cs,ns,os,fs,ls,ks) (p1,p2,nx,dy) o=true↔((0<=o/\o<fs.length)/\bj (cs,ns,os,fs,ls,ks)=true)/\fG (cs,ns,os,fs,ls,ks) (p1,p2,nx,dy)=true:=by
  unfold gOk dM;rw[qC,qC,qE]
 refine⟨λ_=>hf,λh=>?_,λ⟨⟨⟨h0,h1⟩,hs⟩,hfm⟩=>?_⟩
 .have hn:¬gOk (cs,ns,os,fs,ls,ks) (p1,p2,nx,dy) o=true:=λg=>by
   obtain⟨⟨⟨g0,g1⟩,g2⟩,g3⟩:=ok.1 g;rcases h with((h | h) | h) | h
   .omega
   .omega
   .rw[g2]at h;cases h
   .rw[g3]at h;cases h
  exact⟨if_neg hn,if_neg hn⟩
 have o0:0<=o:=by omega
 have o1:o<fs.length:=by omega
 have hg:gOk (cs,ns,os,fs,ls,ks) (p1,p2,nx,dy) o=true:=ok.2 ⟨⟨⟨o0,o1⟩,hs⟩,hfm⟩;have ht:mQ (cs,ns,os,fs,ls,ks) nx=true:=(gX hfm).2.1;obtain⟨q1,_⟩:=lu cs ns os fs ls ks hs;obtain⟨r1,r2,_⟩:=fV cs ns os fs ls ks ht o0 o1 o0 o1;have r2:((dY (p1,p2,nx,dy) o).length:Int)=fs.length:=r2;have gl:=E7 (p1,p2,nx,dy) o;have eR:nx.getD o.toNat []=dY (p1,p2,nx,dy) o:=rfl;rw[eR]
 have len:∀{k:Int},0<=k->k<=fs.length->(M8 (cs,ns,os,fs,ls,ks) (p1,p2,nx,dy) o k).length=fs.length:=λa b=>by
  have:=rI (g:=uD (p1,p2,nx,dy) o) (z:=0) (l:=fs.length) (k:=_) ⟨a,b⟩;rw[qW]at this;exact this
 have nxt_:∀{k v:Int},0<=k->k<fs.length->v=uD (p1,p2,nx,dy) o k->(M8 (cs,ns,os,fs,ls,ks) (p1,p2,nx,dy) o k).set k.toNat v=M8 (cs,ns,os,fs,ls,ks) (p1,p2,nx,dy) o (k+1):=λa b e=>by
  rw[e];exact wy a b
 have e0:List.replicate fs.length (0:Int)=M8 (cs,ns,os,fs,ls,ks) (p1,p2,nx,dy) o 0:=by
  have:=nz (g:=uD (p1,p2,nx,dy) o) (z:=(0:Int)) (l:=fs.length);rw[qW]at this;exact this
 have e1:M8 (cs,ns,os,fs,ls,ks) (p1,p2,nx,dy) o fs.length=ofF (cs,ns,os,fs,ls,ks) (p1,p2,nx,dy) o:=by
  unfold ofF;rw[if_pos hg];have:=oQ (g:=uD (p1,p2,nx,dy) o) (z:=(0:Int)) (l:=fs.length);rw[qW]at this;exact this
 have e2:gsF (cs,ns,os,fs,ls,ks) (p1,p2,nx,dy) o=-1::gi (p1,p2,nx,dy) o:=if_pos hg;refine⟨⟨o0,by show o<(nx.length:Int);omega,by omega,UL cs ns os fs ls ks hs ht o0 o1⟩,rfl,by omega,by omega,by omega,by omega,by omega,o0,by omega,⟨0,⟨hg,by omega,by show(0:Int)<=(fs.length:Int);omega⟩,rfl,e0⟩,λx ⟨_,x0,x1⟩=>⟨λhlt=>⟨x0,hlt,λhe=>?_,λhne=>⟨λhl=>?_,λhl=>?_⟩⟩,λhge=>?_⟩⟩
 .have hx:x<fs.length:=by omega
  have hl:=len x0 x1;exact⟨hl,x0,by omega,hl,aM (by omega),x+1,⟨hg,by omega,by show x+1<=(fs.length:Int);omega⟩,⟨rfl,nxt_ x0 hx (by unfold uD;rw[if_pos he])⟩,by omega⟩
 .have hx:x<fs.length:=by omega
  have hl':=len x0 x1;exact⟨hl',x0,by omega,hl',aM (by omega),x+1,⟨hg,by omega,by show x+1<=(fs.length:Int);omega⟩,⟨rfl,nxt_ x0 hx (by unfold uD;rw[if_neg hne,if_pos hl])⟩,by omega⟩
 .have hx:x<fs.length:=by omega
  have hl':=len x0 x1;exact⟨by unfold Yq;simp only[qG,wC];omega,by simp[qAt],hl',x0,by omega,hl',aM (by omega),x+1,⟨hg,by omega,by show x+1<=(fs.length:Int);omega⟩,⟨rfl,nxt_ x0 hx (by unfold uD;rw[if_neg hne,if_neg hl];rfl)⟩,by omega⟩
 .have x1:x<=(fs.length:Int):=x1;have hx:x=fs.length:=by omega
  rw[hx];exact⟨by simp[qAt],by rw[e2];rfl,len (by omega) (by omega),e1⟩
end Go.Eng.Sv
set_option maxRecDepth 100000
noncomputable section
namespace Go.Eng.Sv
open Go.Proofs
def xCs: List (Int×List Bool×Li):=[(0,[true,true,true,true,true,true,true],[])]
def xNs: List ByteArray:=[⟨#[99]⟩]
def xOs: List ByteArray:=[⟨#[112]⟩]
def xFs: Lo:=[(⟨#[97]⟩,0,0,2,1,10,[]),(⟨#[98]⟩,0,0,2,1,10,[])]
def xLs: Ll:=[(⟨#[120]⟩,0,1,600,60,1),(⟨#[121]⟩,1,0,600,60,1)]
def xKs: Lk:=[(⟨#[107]⟩,300,720)]
def yFs: Lo:=[(⟨#[97]⟩,0,0,2,1,10,[]),(⟨#[98]⟩,0,0,2,1,10,[]),(⟨#[99]⟩,0,0,2,1,10,[])]
def yLs: Ll:=[(⟨#[120]⟩,0,1,600,60,1),(⟨#[121]⟩,1,0,600,60,1),(⟨#[122]⟩,0,2,600,60,1),(⟨#[119]⟩,2,0,600,60,1)]
def mT(a b:Li): Bool:=a==b
def xm(a b:Li)(k:Int): Prop:=0<=k/\k<=a.length/\a.length=b.length/\a.length<=1000000/\a.take k.toNat=b.take k.toNat
def oY(a:Li): Prop:=a.length<=1000000
def rZ(a b:List (Lj)): Bool:=a==b
def xi(a b:List (Lj))(k:Int): Prop:=0<=k/\k<=a.length/\a.length=b.length/\a.take k.toNat=b.take k.toNat
def EH(a:List (Lj)): Prop:=a.length<=1000000/\∀t∈a,mild t
def smF(n:Net)(nx:Lj): Bool:=(J0 n&&decide ((n.2.2.2.1.length:Int)<=6))&&(decide ((nx.length:Int)<=10)&&nx.all λr=>decide ((r.length:Int)<=10))
def aBU(nx:Lj)(k:Int): Prop:=0<=k/\k<=nx.length/\nx.length<=10/\∀i:Nat,(i:Int)<k->(nx.getD i []).length<=10
def w9(a b:Int): Bool:=decide (b<=IntKind.i64.wrap (a+9))||decide (b>IntKind.i64.wrap (a+60))
def aAm(n:Net)(a b:Int): Bool:=(smF n []&&decide ((n.2.2.2.2.2.length:Int)<=3))&&w9 a b
theorem V6(z:Int)(w:List Bool)(h:Li)(hvc:
 let c1:=Eh (Df w) 20;let c2:=c1->c1->c1;true/\(True->c2/\c2/\c2/\(Dh true c1->c1)/\Ea c1 (Eh (Df h) 60) false=gn w h/\True)):
  evF (mkc KC8) az 167 [cal z w h] [] ⟨True,.dat .bool (gn w h),[]⟩:=oE hvc
def KL1: Kt:=kOr 167 (ax [.row C] (λ_=>True) λ((_,w,h),_)=>.dat .bool (gn w h)) KC8
theorem Z2(k:Int)(cs:LC)(ns os:LB)(fs:Lo)(ls:Ll)(ks:Lk)(hvc:
 let c5:=ByteArray.mk #[];let c1:=(cs,ns,os,fs,ls,ks);let c2:=Eb k 1;let c3:=Df (aP c1 1);let c4:=[ByteArray.mk #[]];let c6:=aP c1 k;let c7:=Eb k 2;let c8:=Df (aP c1 2);let c9:=Eb k 3;let c10:=Df (aP c1 3);let c11:=Df fs;let c13:=Eb k 4;let c14:=Df (aP c1 4);let c15:=Df ls;let c16:=((0:Int),(0:Int));let c18:=Eb k 5;let c19:=Df (aP c1 5);let c20:=Df ks;true/\(mN c1->(c2->(∃x,let c22:=aW c1 1 x;upN x c3/\c1=c1/\Value.slice none (0) (0)=Value.slice none (0) (0)/\Dk c22=0/\c22=Dt ByteArray/\0=x/\k=k/\c22=Dt ByteArray/\True)/\∀(x:Int),let c23:=Dp x (Df cs);let c24:=Dp x (Df ns);let c25:=aW c1 1 x;let c26:=Dk c25;let c27:=[Du ns (Dc x) c5];let c28:=c26+Dk c27;let c29:=x+1;let c30:=c26+(Dk c4);upN x c3->(c23->(c24->0<=x/\x<Df ns/\c26=c26/\(c28*(16))<=(140737488355328)/\c28<=(9223372036854775807)/\inR .i64 c29/\∃y,let c31:=aW c1 1 y;upN y c3/\(c1=c1/\Value.slice none (0) (0)=Value.slice none (0) (0)/\c28=Dk c31/\c29=y/\k=k/\Ef c25 c27=c31/\True)/\Dc (c3-y)<Dc (c3-x))/\(c24=false->c26=c26/\(c30*(16))<=(140737488355328)/\c30<=(9223372036854775807)/\inR .i64 c29/\∃y,let c32:=aW c1 1 y;upN y c3/\(c1=c1/\Value.slice none (0) (0)=Value.slice none (0) (0)/\c30=Dk c32/\c29=y/\k=k/\Ef c25 c4=c32/\True)/\Dc (c3-y)<Dc (c3-x)))/\(c23=false->c26=c26/\c25=c6/\True))/\(c2=false->(c7->(∃x,let c33:=aW c1 2 x;upN x c8/\c1=c1/\Value.slice none (0) (0)=Value.slice none (0) (0)/\Dk c33=0/\c33=Dt ByteArray/\0=x/\k=k/\c33=Dt ByteArray/\True)/\∀(x:Int),let c34:=Dp x (Df os);let c35:=aW c1 2 x;let c36:=Dk c35;let c37:=[Du os (Dc x) c5];let c38:=c36+Dk c37;
 let c39:=x+1;upN x c8->(c34->0<=x/\x<Df os/\c36=c36/\(c38*(16))<=(140737488355328)/\c38<=(9223372036854775807)/\inR .i64 c39/\∃y,let c40:=aW c1 2 y;upN y c8/\(c1=c1/\Value.slice none (0) (0)=Value.slice none (0) (0)/\c38=Dk c40/\c39=y/\k=k/\Ef c35 c37=c40/\True)/\Dc (c8-y)<Dc (c8-x))/\(c34=false->c36=c36/\c35=c6/\True))/\(c7=false->(c9->(∃x,let c41:=aW c1 3 x;upN x c10/\c1=c1/\Value.slice none (0) (0)=Value.slice none (0) (0)/\Dk c41=0/\c41=Dt ByteArray/\0=x/\k=k/\c41=Dt ByteArray/\True)/\∀(x:Int),let c42:=aW c1 3 x;let c43:=Dk c42;let c44:=[(Du fs (Dc x) (ByteArray.mk #[],(0:Int),(0:Int),(0:Int),(0:Int),(0:Int),Dt ByteArray)).1];let c45:=c43+Dk c44;let c46:=x+1;upN x c10->(Dp x c11->0<=x/\x<c11/\c43=c43/\(c45*(16))<=(140737488355328)/\c45<=(9223372036854775807)/\inR .i64 c46/\∃y,let c47:=aW c1 3 y;upN y c10/\(c1=c1/\Value.slice none (0) (0)=Value.slice none (0) (0)/\c45=Dk c47/\c46=y/\k=k/\Ef c42 c44=c47/\True)/\Dc (c10-y)<Dc (c10-x))/\(Dp x c11=false->c43=c43/\c42=c6/\True))/\(c9=false->(c13->(∃x,let c48:=aW c1 4 x;upN x c14/\c1=c1/\Value.slice none (0) (0)=Value.slice none (0) (0)/\Dk c48=0/\c48=Dt ByteArray/\0=x/\k=k/\c48=Dt ByteArray/\True)/\∀(x:Int),let c49:=aW c1 4 x;let c50:=Dk c49;let c51:=[(Du ls (Dc x) (ByteArray.mk #[],(0:Int),(0:Int),(0:Int),c16)).1];let c52:=c50+Dk c51;let c53:=x+1;upN x c14->(Dp x c15->0<=x/\x<c15/\c50=c50/\(c52*(16))<=(140737488355328)/\c52<=(9223372036854775807)/\inR .i64 c53/\∃y,let c54:=aW c1 4 y;
 upN y c14/\(c1=c1/\Value.slice none (0) (0)=Value.slice none (0) (0)/\c52=Dk c54/\c53=y/\k=k/\Ef c49 c51=c54/\True)/\Dc (c14-y)<Dc (c14-x))/\(Dp x c15=false->c50=c50/\c49=c6/\True))/\(c13=false->(c18->(∃x,let c55:=aW c1 5 x;upN x c19/\c1=c1/\Value.slice none (0) (0)=Value.slice none (0) (0)/\Dk c55=0/\c55=Dt ByteArray/\0=x/\c55=Dt ByteArray/\True)/\∀(x:Int),let c56:=aW c1 5 x;let c57:=Dk c56;let c58:=[(Du ks (Dc x) (ByteArray.mk #[],c16)).1];let c59:=c57+Dk c58;let c60:=x+1;upN x c19->(Dp x c20->0<=x/\x<c20/\c57=c57/\(c59*(16))<=(140737488355328)/\c59<=(9223372036854775807)/\inR .i64 c60/\∃y,let c61:=aW c1 5 y;upN y c19/\(c1=c1/\Value.slice none (0) (0)=Value.slice none (0) (0)/\c59=Dk c61/\c60=y/\Ef c56 c58=c61/\True)/\Dc (c19-y)<Dc (c19-x))/\(Dp x c20=false->c57=c57/\c56=c6/\True))/\(c18=false->c6=Dt ByteArray/\True))))))):
  evF (mkc KL1) (lvA [(5,[2,4,5,6,7,8,9,10,11]),(12,[2,4,5,7,8,9,10,11]),(17,[2,4,5,8,9,10,11]),(22,[2,4,5,9,10,11]),(27,[2,4,5,10])] (aAS (cs,ns,os,fs,ls,ks))) 168 [net cs ns os fs ls ks,.dat I k] [] ⟨mN (cs,ns,os,fs,ls,ks)=true,.dat (.sl S) (aP (cs,ns,os,fs,ls,ks) k),[]⟩:=oE hvc
theorem ZZ(a b:Lj)(hvc:
 let c1:=Dy (Df a) (Df b);true/\(mild a->(c1->false=nJ a b/\True)/\(c1=false->(∃x,xk a b x/\a=a/\b=b/\0=x/\True)/\∀(x:Int),let c2:=Dp x (Df a);let c3:=Du a (Dc x) [];let c4:=Df c3;let c5:=Du b (Dc x) [];let c6:=Df c5;let c7:=Dy c4 c6;let c8:=x+1;xk a b x->(c2->0<=x/\x<Df a/\0<=x/\x<Df b/\(c7->false=nJ a b/\True)/\(c7=false->(∃x_4,xn a b x x_4/\a=a/\b=b/\x=x/\0=x_4/\True)/\∀(x_4:Int),let c9:=Dy (Du c3 (Dc x_4) 0) (Du c5 (Dc x_4) 0);let c10:=x_4+1;xn a b x x_4->0<=x/\x<Df a/\(Dp x_4 c4->0<=x/\x<Df a/\0<=x_4/\x_4<c4/\0<=x/\x<Df b/\0<=x_4/\x_4<c6/\(c9->false=nJ a b/\True)/\(c9=false->inR .i64 c10/\∃y,xn a b x y/\(a=a/\b=b/\x=x/\c10=y/\True)/\Dc (c4-y)<Dc (c4-x_4)))/\(Dp x_4 c4=false->inR .i64 c8/\∃y,xk a b y/\(a=a/\b=b/\c8=y/\True)/\Dc (Df a-y)<Dc (Df a-x))))/\(c2=false->true=nJ a b/\True)))):
  evF (mkc KL1) (lvA [(4,[0,1,4,5,6]),(9,[0,1,4,5,6])] (aAp a b)) 22 [.dat M a,.dat M b] [] ⟨mild a,.dat .bool (nJ a b),[]⟩:=oE hvc
def aAq(a b:Li): Ann:=⟨λid st=>match id with
 | 4=>some {α:=Int,inv:=λk=>xm a b k,st:=λk=>put st [(5,.dat I k)],μ:=λk=>Dc (Dj (Df a) k)}
 | _=>none,λ_ _=>none,λ_ _=>none⟩
theorem Z1(a b:Li)(hvc:
 let c1:=Dy (Df a) (Df b);true/\(oY a->(c1->false=mT a b/\True)/\(c1=false->(∃x,xm a b x/\a=a/\b=b/\0=x/\True)/\∀(x:Int),let c2:=Dp x (Df a);let c3:=Dy (Du a (Dc x) 0) (Du b (Dc x) 0);let c4:=x+1;xm a b x->(c2->0<=x/\x<Df a/\0<=x/\x<Df b/\(c3->false=mT a b/\True)/\(c3=false->inR .i64 c4/\∃y,xm a b y/\(a=a/\b=b/\c4=y/\True)/\Dc (Df a-y)<Dc (Df a-x)))/\(c2=false->true=mT a b/\True)))):
  evF (mkc KL1) (lvA [(4,[0,1,4,5])] (aAq a b)) 35 [.dat R a,.dat R b] [] ⟨oY a,.dat .bool (mT a b),[]⟩:=oE hvc
def KL2: Kt:=kOr 168 (ax [.row N,.val I] (λ(n,_,_)=>mN n=true) λ(n,k,_)=>.dat (.sl S) (aP n k)) <|
 kOr 22 (ax [.val M,.val M] (λ(a,_,_)=>mild a) λ(a,b,_)=>.dat .bool (nJ a b)) <|
 kOr 35 (ax [.val R,.val R] (λ(a,_,_)=>oY a) λ(a,b,_)=>.dat .bool (mT a b)) KL1
theorem V7(cs:LC)(ns os:LB)(fs:Lo)(ls:Ll)(ks:Lk)(hvc:
 let c1:=Df cs;let c2:=Ei c1 10;let c3:=Di c2;let c28:=c3->c3->c3;let c4:=Ea c2 true (Ei (Df ns) 10);let c5:=Di c4;let c29:=c5->c5->c5;let c6:=Ea c4 true (Ei (Df os) 10);let c7:=Di c6;let c30:=c7->c7->c7;let c8:=Df fs;let c9:=Ea c6 true (Ei c8 16);let c10:=Di c9;let c26:=c10->c10->c10;let c11:=Ea c9 true (Ei (Df ls) 50);let c12:=Di c11;let c27:=c12->c12->c12;let c13:=Ea c11 true (Ei (Df ks) 8);let c14:=(cs,ns,os,fs,ls,ks);let c15:=J0 c14;true/\(True->c28/\c28/\c28/\(Dh true c3->c3)/\c29/\c29/\c29/\(Dh true c5->c5)/\c30/\c30/\c30/\(Dh true c7->c7)/\c26/\c26/\c26/\(Dh true c10->c10)/\c27/\c27/\c27/\(Dh true c12->c12)/\(c13->false=c15/\True)/\(c13=false->(∃x,HY cs x/\c14=c14/\0=x/\True)/\∀(x:Int),let c16:=(Du cs (Dc x) ((0:Int),Dt Bool,Dt Int)).2;let c17:=Di (gn c16.1 c16.2);let c18:=x+1;HY cs x->(Dp x c1->0<=x/\x<c1/\True/\(c17->false=c15/\True)/\(c17=false->inR IntKind.i64 c18/\∃y,HY cs y/\(c14=c14/\c18=y/\True)/\Dc (c1-y)<Dc (c1-x)))/\(Dp x c1=false->(∃x,Hg fs x/\c14=c14/\0=x/\True)/\∀(x:Int),let c19:=Ei (Df (Du fs (Dc x) (ByteArray.mk #[],(0:Int),(0:Int),(0:Int),(0:Int),(0:Int),Dt ByteArray)).2.2.2.2.2.2) 30;let c20:=x+1;Hg fs x->(Dp x c8->0<=x/\x<c8/\(c19->false=c15/\True)/\(c19=false->inR IntKind.i64 c20/\∃y,Hg fs y/\(c14=c14/\c20=y/\True)/\Dc (c8-y)<Dc (c8-x)))/\(Dp x c8=false->(∃x,yh c14 x/\c14=c14/\1=x/\True)/\∀(x:Int),let c21:=Eh x 5;let c22:=Df (aP c14 x);let c23:=x+1;yh c14 x->(c21->mN c14/\(∃x_5,SZ (aP c14 x) x_5/\c14=c14/\x=x/\aP c14 x=aP c14 x/\0=x_5/\True)/\∀(x_5:Int),let c24:=Ei (Et (Du (aP c14 x) (Dc x_5) (ByteArray.mk #[]))) 40;let c25:=x_5+1;
 SZ (aP c14 x) x_5->(Dp x_5 c22->0<=x_5/\x_5<c22/\(c24->false=c15/\True)/\(c24=false->inR .i64 c25/\∃y,SZ (aP c14 x) y/\(c14=c14/\x=x/\aP c14 x=aP c14 x/\c25=y/\True)/\Dc (c22-y)<Dc (c22-x_5)))/\(Dp x_5 c22=false->inR .i64 c23/\∃y,yh c14 y/\(c14=c14/\c23=y/\True)/\Dc (6-y)<Dc (6-x)))/\(c21=false->true=c15/\True)))))):
  evF (mkc KL2) (lvA [(4,[1,2,3,4,5,6,7]),(9,[1,2,4,5,6,7]),(14,[1,2,5,6,7]),(18,[1,2,5,6,7])] (aFd (cs,ns,os,fs,ls,ks))) 104 [net cs ns os fs ls ks] [] ⟨True,.dat .bool (J0 (cs,ns,os,fs,ls,ks)),[]⟩:=oE hvc
def aAo(a b:List (Lj)): Ann:=⟨λid st=>match id with
 | 4=>some {α:=Int,inv:=λk=>xi a b k,st:=λk=>put st [(5,.dat I k)],μ:=λk=>Dc (Dj (Df a) k)}
 | _=>none,λ_ _=>none,λ_ _=>none⟩
theorem ZY(a b:List (Lj))(hvc:
 let c1:=Df a;let c2:=Df b;let c3:=Dy c1 c2;true/\(EH a->(c3->false=rZ a b/\True)/\(c3=false->(∃x,xi a b x/\a=a/\b=b/\0=x/\True)/\∀(x:Int),let c4:=Du a (Dc x) (Dt (Li));let c5:=Di (nJ c4 (Du b (Dc x) (Dt (Li))));let c6:=x+1;xi a b x->(Dp x c1->0<=x/\x<c1/\0<=x/\x<c2/\mild c4/\(c5->false=rZ a b/\True)/\(c5=false->inR .i64 c6/\∃y,xi a b y/\(a=a/\b=b/\c6=y/\True)/\Dc (c1-y)<Dc (c1-x)))/\(Dp x c1=false->true=rZ a b/\True)))):
  evF (mkc KL2) (lvA [(4,[0,1,4,5])] (aAo a b)) 24 [.dat (.sl M) a,.dat (.sl M) b] [] ⟨EH a,.dat .bool (rZ a b),[]⟩:=oE hvc
def KL3: Kt:=kOr 104 (ax [.row N] (λ_=>True) λ(n,_)=>.dat .bool (J0 n)) <|
 kOr 24 (ax [.val (.sl M),.val (.sl M)] (λ(a,_,_)=>EH a) λ(a,b,_)=>.dat .bool (rZ a b)) KL2
def smA(nx:Lj): Ann:=⟨λid s=>match id with
 | 4=>some {α:=Int,inv:=λk=>aBU nx k,st:=λk=>put s [(5,.dat I k)],μ:=λk=>Dc (Dj (Df nx) k)}
 | _=>none,λ_ _=>none,λ_ _=>none⟩
theorem Qq(nx:Lj)(cs:LC)(ns os:LB)(fs:Lo)(ls:Ll)(ks:Lk)(hvc:
 let c1:=(cs,ns,os,fs,ls,ks);let c2:=Di (J0 c1);let c3:=Di c2;let c11:=c3->c3->c3;let c4:=Ea c2 true (Ei (Df fs) 6);let c5:=Di c4;let c6:=Ea c4 true (Ei (Df nx) 10);let c7:=smF c1 nx;true/\(True->True/\c11/\c11/\c11/\(Dh true c3->c3)/\(c5->c5->c5)/\(c5->c5->c5)/\(Dh true c5->c5)/\(c6->false=c7/\True)/\(c6=false->(∃x,aBU nx x/\nx=nx/\0=x/\True)/\∀(x:Int),let c8:=Dp x (Df nx);let c9:=Ei (Df (Du nx (Dc x) [])) 10;let c10:=x+1;aBU nx x->(c8->0<=x/\x<Df nx/\(c9->false=c7/\True)/\(c9=false->inR .i64 c10/\∃y,aBU nx y/\(nx=nx/\c10=y/\True)/\Dc (Df nx-y)<Dc (Df nx-x)))/\(c8=false->true=c7/\True)))):
  evF (mkc KL3) (lvA [(4,[1,4,5])] (smA nx)) 37 [net cs ns os fs ls ks,.dat M nx] [] ⟨True,.dat .bool (smF (cs,ns,os,fs,ls,ks) nx),[]⟩:=oE hvc
def KL4: Kt:=kOr 37 (ax [.row N,.val M] (λ_=>True) λ(n,nx,_)=>.dat .bool (smF n nx)) KL3
theorem Qp(a b:Int)(cs:LC)(ns os:LB)(fs:Lo)(ls:Ll)(ks:Lk)(hvc:
 let c1:=(cs,ns,os,fs,ls,ks);let c2:=smF c1 (Dt (Li));let c8:=c2->c2->c2;let c3:=Ea c2 (Eh (Df ks) 3) false;let c6:=c3->c3->c3;let c4:=Eh b (Ey IntKind.i64 (a+9));let c7:=Di c4;let c5:=Dh c3 c7->Dh c3 c7->Dh c3 c7;true/\(True->True/\c8/\c8/\c8/\(Dh true c2->c2)/\c6/\c6/\c6/\c6/\c5/\c5/\c5/\c6/\(c3->Dh c3 c7->Dh c3 c7)/\(Dh true c3->c3)/\Ea c3 (Ea c4 true (Ei b (Ey IntKind.i64 (a+60)))) false=aAm c1 a b/\True)):
  evF {mkc KL4 with mb:=λt=>t==18||t==23} az 10 [net cs ns os fs ls ks,.dat I a,.dat I b] [] ⟨True,.dat .bool (aAm (cs,ns,os,fs,ls,ks) a b),[]⟩:=oE hvc
theorem Z3(hvc:
 let c1:=((0:Int),(0:Int),(2:Int),(1:Int),(10:Int),Dt ByteArray);let c2:=((600:Int),(60:Int),(1:Int));true/\(True->1=1/\0=0/\1=1/\0=0/\1=1/\0=0/\1=1/\1=1/\0=0/\1=1/\1=1/\0=0/\1=1/\1=1/\0=0/\1=1/\0=0/\1=1/\0=0/\1=1/\0=0/\[((0:Int),[true,true,true,true,true,true,true],Dt Int)]=xCs/\[ByteArray.mk #[(99:UInt8)]]=xNs/\[ByteArray.mk #[(112:UInt8)]]=xOs/\[(ByteArray.mk #[(97:UInt8)],c1),(ByteArray.mk #[(98:UInt8)],c1)]=xFs/\[(ByteArray.mk #[(120:UInt8)],(0:Int),(1:Int),c2),(ByteArray.mk #[(121:UInt8)],(1:Int),(0:Int),c2)]=xLs/\[(ByteArray.mk #[(107:UInt8)],(300:Int),(720:Int))]=xKs/\True)):
  evF (mkc KL4) az 34 [] [] ⟨True,.agg [.dat (.sl C) xCs,.dat (.sl S) xNs,.dat (.sl S) xOs,.dat (.sl Of) xFs,.dat (.sl Ln) xLs,.dat (.sl Kl) xKs],[]⟩:=oE hvc
def KL5: Kt:=kOr 10 (ax [.row N,.val I,.val I] (λ_=>True) λ(n,a,b,_)=>.dat .bool (aAm n a b)) <|
 kOr 34 (ax [] (λ_=>True) λ_=>.agg [.dat (.sl C) xCs,.dat (.sl S) xNs,.dat (.sl S) xOs,.dat (.sl Of) xFs,.dat (.sl Ln) xLs,.dat (.sl Kl) xKs]) <|
 kOr 11 (ax [.row N,.val I,.val I] (λ_=>True) λ(n,a,b,_)=>.tup [.agg [.dat I (cO n a b).1,.dat I (cO n a b).2.1,.dat M (cO n a b).2.2.1,.dat (.sl M) (cO n a b).2.2.2],.agg [.dat R (HT n a b).1,.dat I (HT n a b).2],.dat I (qS n a b)]) <|
 kOr 12 (ax [.row N,.row Pl,.val I] (λ(_,p,_,_)=>fe p) λ(n,p,o,_)=>.tup [.dat R (gsF n p o),.dat R (ofF n p o)]) <|
 kOr 26 (ax [.row N,.row (.pair R I)] (λ(n,c,_)=>Go.Eng.In.Hm c.1/\Go.Eng.In.qx n) λ(n,c,_)=>.dat I (Go.Eng.In.fW n c.1 c.2)) <|
 kOr 36 (ax [.val R] (λ(l,_)=>Go.Eng.In.Pm l) λ(l,_)=>.dat I (Go.Eng.In.mS l)) KL4
def aE8: Ann:=⟨λ_ _=>none,λid s=>match id with
 | 8=>some (aAW [1,2,3,4,5,6,9,10] (frz ((s.mem.filter λp=>match p.2 with
  | .buf ..=>true
  | _=>false).map (·.1)) s))
 | _=>none,λ_ _=>none⟩
theorem KF(hvc:
 let c1:=(xCs,xNs,xOs,xFs,xLs,xKs);let c2:=cO c1 0 1;let c3:=c2.1;let c4:=c2.2;let c5:=c4.1;let c6:=c4.2;let c7:=c6.1;let c8:=c6.2;let c9:=(c3,c5,c7,c8);let c10:=Df xFs;let c11:=(0)+Dk xLs;let c12:=Ef (Dt (ByteArray×Int×Int×Int×Int×Int)) xLs;let c13:=((600:Int),(60:Int),(1:Int));let c14:=[(ByteArray.mk #[(122:UInt8)],(0:Int),(2:Int),c13),(ByteArray.mk #[(119:UInt8)],(2:Int),(0:Int),c13)];let c15:=c11+Dk c14;let c16:=Ef c12 c14;let c17:=qS c1 0 1;let c18:=gsF c1 c9 0;let c19:=ofF c1 c9 0;let c20:=qS c1 0 61;let c21:=HT c1 0 1;let c22:=c21.1;let c23:=c21.2;let c24:=cO c1 0 61;let c25:=c24.1;let c26:=c24.2;let c27:=c26.1;let c28:=c26.2;let c29:=c28.1;let c30:=c28.2;let c31:=HT c1 0 61;let c32:=c31.1;let c33:=c31.2;let c34:=(ByteArray.mk #[],(0:Int),(0:Int),(0:Int),(0:Int),(0:Int),Dt ByteArray);let c35:=Du xFs (Dc 0) c34;let c36:=c35.2;let c37:=c36.2;let c38:=c37.2;let c39:=c38.2;let c40:=c39.2;let c41:=Du xFs (Dc 1) c34;let c42:=c41.2;let c43:=c42.2;let c44:=c43.2;let c45:=c44.2;let c46:=c45.2;let c47:=[(c35.1,c36.1,c37.1,c38.1,c39.1,c40.1,c40.2),(c41.1,c42.1,c43.1,c44.1,c45.1,c46.1,c46.2),(ByteArray.mk #[(99:UInt8)],(0:Int),(0:Int),(2:Int),(1:Int),(10:Int),Dt ByteArray)];let c48:=Eb c17 0;let c49:=[(0:Int)];let c50:=(-1:Int)::c49;let c51:=Ea c48 (nJ c7 [c50,[(1:Int),(-1:Int)]]) false;let c52:=(0:Int)::c49;let c53:=Ea c51 (rZ c8 [[c52,c52]]) false;
 let c54:=Ea c53 (mT c22 [(0:Int),(1:Int),(2:Int),(1:Int),(0:Int),(1:Int),(2:Int),(0:Int),(1:Int),(1:Int),(1:Int),(1:Int),(2:Int),(2:Int)]) false;let c55:=Ea c54 (Eb c23 (In.mS c22)) false;let c56:=Ea c55 (mT c18 c50) false;let c57:=Ea c56 (mT c19 [(0:Int),(1:Int)]) false;let c58:=Ea c57 (Eb c20 1) false;let c59:=Ea c58 (Eb (qS (xCs,xNs,xOs,c47,c16,xKs) 0 1) 140) false;
 true/\(True->True/\1=1/\0=0/\1=1/\0=0/\True/\1=1/\0=0/\1=1/\0=0/\1=1/\0=0/\1=1/\0=0/\fe c9/\1=1/\0=0/\True/\1=1/\0=0/\1=1/\0=0/\1=1/\0=0/\1=1/\0=0/\1=1/\1=1/\0=0/\Dl 0 0/\0<c10/\1=1/\1=1/\0=0/\Dl 0 1/\1<c10/\1=1/\1=1/\0=0/\1=1/\1=1/\0=0/\Dk (Dt (ByteArray×Int×Int×Int×Int×Int))=0/\(c11*(56))<=(140737488355328)/\c11<=(9223372036854775807)/\Dk c12=c11/\(c15*(56))<=(140737488355328)/\c15<=(9223372036854775807)/\1=1/\1=1/\0=0/\Dk c16=c15/\1=1/\0=0/\0=0/\1=1/\0=0/\0=0/\1=1/\0=0/\0=0/\c17=c17/\c18=c18/\c19=c19/\c20=c20/\1=1/\0=0/\0=0/\xCs=xCs/\xNs=xNs/\xOs=xOs/\xFs=xFs/\xLs=xLs/\xKs=xKs/\c3=c3/\c5=c5/\c7=c7/\c8=c8/\c22=c22/\c23=c23/\c25=c25/\c27=c27/\c29=c29/\c30=c30/\c32=c32/\c33=c33/\xCs=xCs/\xNs=xNs/\xOs=xOs/\c47=c47/\Dk c16=c15/\c16=c16/\xKs=xKs/\1=1/\0=0/\True/\1=1/\0=0/\1=1/\0=0/\(c48->1=1)/\(c48->c48->c48)/\(c48->1=1)/\(c48->0=0)/\(c48->c48->c48)/\(c48->c48->c48)/\(c48->c48->c48)/\(c48->c48->c48)/\(c48->mild c7)/\(Dh true c48->c48)/\(c51->1=1)/\(c51->c51->c51)/\(c51->1=1)/\(c51->0=0)/\(c51->c51->c51)/\(c51->c51->c51)/\(c51->c51->c51)/\(c51->c51->c51)/\(c51->c51->c51)/\(c51->EH c8)/\(Dh true c51->c51)/\(c53->1=1)/\(c53->c53->c53)/\(c53->1=1)/\(c53->0=0)/\(c53->c53->c53)/\(c53->c53->c53)/\(c53->oY c22)/\(Dh true c53->c53)/\(c54->1=1)/\(c54->c54->c54)/\(c54->1=1)/\(c54->0=0)/\(c54->1=1)/\(c54->c54->c54)/\(c54->1=1)/\(c54->0=0)/\(c54->c54->c54)/\(c54->In.Pm c22)/\(c54->c54->c54)/\(c54->c54->c54)/\(Dh true c54->c54)/\(c55->c55->c55)/\(c55->c55->c55)/\(c55->oY c18)/\(Dh true c55->c55)/\(c56->c56->c56)/\(c56->c56->c56)/\(c56->oY c19)/\(Dh true c56->c56)/\(c57->c57->c57)/\(Dh true c57->c57)/\(c58->c58->c58)/\(Dh true c58->c58)/\(c59->1=1)/\(c59->0=0)/\(c59->1=1)/\(c59->0=0)/\(c59->c59->c59)/\(c59->c59->c59)/\(c59->In.Hm c22/\
 In.qx c1)/\(c59->c59->c59)/\(Dh true c59->c59)/\Ea c59 (Eb (In.fW c1 c22 c23) 0) false/\True)):
  evF {mkc KL5 with mb:=λt=>t==46} aE8 9 [] [] ⟨True,.dat .bool true,[]⟩:=oE hvc
def KL6: Kt:=kOr 9 (ax [] (λ_=>True) λ_=>.dat .bool true) KL5
theorem tT(z:Int)(w:List Bool)(h:Li): af Tryz.prog G0 167 [cal z w h] [] ⟨True,.dat .bool (gn w h),[]⟩:=by
 refine ae (c:=mkc KC8) PE aL hm (V6 z w h ⟨rfl,λ_=>?_⟩)
 simp only[qc,Dh,Es,Di,gn,Eh,Df]
 congr 1<;>congr 1<;>exact propext (by omega)
theorem aCj: aj Tryz.prog G0 KL1:=ai (ag λ((z,w,h),_)=>tT z w h) PE
theorem aDa(k:Int)(cs:LC)(ns os:LB)(fs:Lo)(ls:Ll)(ks:Lk): af Tryz.prog G0 168 [net cs ns os fs ls ks,.dat I k] [] ⟨mN (cs,ns,os,fs,ls,ks)=true,.dat (.sl S) (aP (cs,ns,os,fs,ls,ks) k),[]⟩:=by
 refine ae (c:=mkc KL1) aCj aL hm (Z2 k cs ns os fs ls ks ⟨rfl,λhp=>?_⟩)
 obtain⟨l1,l2,l3,l4,l5,l6⟩:=yW cs ns os fs ls ks hp;simp only[qc,Dh,Es,Di,qd,Dt,Eb,Dy,Dp,Ei,Eh,Ed,Ew,Df,Et,Dl,Dn,Eo,Dz,Dw,Dj,Dq,Ee,Fe,Dc,Dx,Dk,Ec,Em,Du,Eu,Ez,En,Ef,Fg,Fj,Fh,Ep,Ej,Ey,Fb];refine⟨λhk=>?_,λh1=>⟨λhk=>?_,λh2=>⟨λhk=>?_,λh3=>⟨λhk=>?_,λh4=>⟨λhk=>?_,λh5=>?_⟩⟩⟩⟩⟩
 .subst hk;have hl:(aP (cs,ns,os,fs,ls,ks) 1).length=cs.length:=fJ cs ns;obtain⟨b1,b2⟩:=Be (n:=(cs,ns,os,fs,ls,ks)) (k:=1) (el:=λx=>ns.getD x.toNat ⟨#[]⟩) (R:=aP (cs,ns,os,fs,ls,ks) 1) hl (by omega) (λx h0 h1=>tZ h0 h1) rfl
  refine⟨b1,λx hx=>⟨λhlt=>⟨λhn=>⟨hx.1,hn,((b2 x hx).1 hlt).2.2⟩,λhn=>?_⟩,(b2 x hx).2⟩⟩
  have e:ns.getD x.toNat ⟨#[]⟩=⟨#[]⟩:=by rw[qA,wH (by have:=hx.1;omega)];rfl
  have:=((b2 x hx).1 hlt).2.2;simp only[e]at this;exact this
 .subst hk;exact Be (n:=(cs,ns,os,fs,ls,ks)) (k:=2) (m:=os.length) (el:=λx=>os.getD x.toNat ⟨#[]⟩) rfl (by omega) (λx _ _=>rfl) rfl
 .subst hk;exact Be (n:=(cs,ns,os,fs,ls,ks)) (k:=3) (m:=fs.length) (el:=λx=>(fs.getD x.toNat (⟨#[]⟩,0,0,0,0,0,[])).1) (map_length _ fs) (by omega) (λx h0 h1=>I3 _ h0 h1) rfl
 .subst hk;exact Be (n:=(cs,ns,os,fs,ls,ks)) (k:=4) (m:=ls.length) (el:=λx=>(ls.getD x.toNat (⟨#[]⟩,0,0,0,0,0)).1) (map_length _ ls) (by omega) (λx h0 h1=>I3 _ h0 h1) rfl
 .subst hk;exact Be (n:=(cs,ns,os,fs,ls,ks)) (k:=5) (m:=ks.length) (el:=λx=>(ks.getD x.toNat (⟨#[]⟩,0,0)).1) (map_length _ ks) (by omega) (λx h0 h1=>I3 _ h0 h1) rfl
 .unfold aP;rw[if_neg h1,if_neg h2,if_neg h3,if_neg h4,if_neg h5]
theorem aC8(a b:Lj): af Tryz.prog G0 22 [.dat M a,.dat M b] [] ⟨mild a,.dat .bool (nJ a b),[]⟩:=by
 refine ae (c:=mkc KL1) aCj aL hm (ZZ a b ⟨rfl,λ⟨hp,hp2⟩=>?_⟩)
 simp only[qc,Dh,Es,Di,qd,Dt,Eb,Dy,Dp,Ei,Eh,Ed,Ew,Df,Et,Dl,Dn,Eo,Dz,Dw,Dj,Dq,Ee,Fe,Dc,Dx,Dk,Ec,Em,Du,Eu,Ez,En,Ef,Fg,Fj,Fh,Ep,Ej,Ey,Fb];refine⟨λh=>xj λe=>h (by rw[e]),λh=>⟨⟨qL _,vC _,by omega,hp,rfl⟩,λx ⟨g0,g1,g2,g3,g4⟩=>⟨λhlt=>⟨g0,hlt,g0,by omega,λhd=>xj λe=>hd (by rw[e]),λhd=>?_⟩,λhge=>?_⟩⟩⟩
 .have hm2:=hp2 _ (getD_mem (l:=a) (i:=x.toNat) (d:=[]) (by omega))
  refine⟨⟨qL _,vC _,by omega,hm2,rfl⟩,λz ⟨f0,f1,f2,f3,f4⟩=>⟨g0,hlt,λhz=>⟨g0,hlt,f0,hz,g0,by omega,f0,by omega,λhd=>xj λe=>hd (by rw[e]),λhe=>⟨⟨by omega,by omega⟩,z+1,⟨by omega,by omega,f2,f3,?_⟩,rfl,by omega⟩⟩,λhz=>⟨⟨by omega,by omega⟩,x+1,⟨by omega,by omega,g2,g3,?_⟩,rfl,by omega⟩⟩⟩
  .rw[show(z+1).toNat=z.toNat+1 by omega]
   exact iK f4 (by omega) (by omega) he
  .rw[show(x+1).toNat=x.toNat+1 by omega]
   refine iK (d:=[]) g4 (by omega) (by omega) ?_
   rw[qO (by omega),qO (by omega)]at f4
   exact f4
 .rw[qO (by omega),qO (by omega)]at g4
  subst g4;unfold nJ;simp
theorem GQ{a b:Li}(h:a≠b): false=mT a b:=by unfold mT;exact(qAf.2 h).symm
theorem aC9(a b:Li): af Tryz.prog G0 35 [.dat R a,.dat R b] [] ⟨oY a,.dat .bool (mT a b),[]⟩:=by
 refine ae (c:=mkc KL1) aCj aL hm (Z1 a b ⟨rfl,λhp=>?_⟩)
 simp only[qc,Dh,Es,Di,qd,Dt,Eb,Dy,Dp,Ei,Eh,Ed,Ew,Df,Et,Dl,Dn,Eo,Dz,Dw,Dj,Dq,Ee,Fe,Dc,Dx,Dk,Ec,Em,Du,Eu,Ez,En,Ef,Fg,Fj,Fh,Ep,Ej,Ey,Fb];refine⟨λh=>GQ λe=>h (by rw[e]),λh=>⟨⟨qL _,vC _,by omega,hp,rfl⟩,λx ⟨g0,g1,g2,g3,g4⟩=>⟨λhlt=>⟨g0,hlt,g0,by omega,λhd=>GQ λe=>hd (by rw[e]),λhd=>⟨⟨by omega,by omega⟩,x+1,⟨by omega,by omega,g2,g3,?_⟩,rfl,by omega⟩⟩,λhge=>?_⟩⟩⟩
 .rw[show(x+1).toNat=x.toNat+1 by omega]
  exact iK g4 (by omega) (by omega) hd
 .rw[qO (by omega),qO (by omega)]at g4
  subst g4;unfold mT;simp
theorem aD3: aj Tryz.prog G0 KL2:=ai (ag λ((cs,ns,os,fs,ls,ks),k,_)=>aDa k cs ns os fs ls ks)<|ai (ag λ(a,b,_)=>aC8 a b)<|ai (ag λ(a,b,_)=>aC9 a b) aCj
theorem aAR{n:Net}(q:mN n=true)(k:Int): (aP n k).length<=100:=by
 obtain⟨cs,ns,os,fs,ls,ks⟩:=n;obtain⟨l1,l2,l3,l4,l5,l6⟩:=yW cs ns os fs ls ks q;unfold aP;split
 .exact wF (zW (fJ cs ns)) (by omega)
 split
 .show os.length<=100;omega
 split
 .exact wF (zW (map_length _ fs)) (by omega)
 split
 .exact wF (zW (map_length _ ls)) (by omega)
 split
 .exact wF (zW (map_length _ ks)) (by omega)
 .exact wW _
theorem wD(cs:LC)(ns os:LB)(fs:Lo)(ls:Ll)(ks:Lk): af Tryz.prog G0 104 [net cs ns os fs ls ks] [] ⟨True,.dat .bool (J0 (cs,ns,os,fs,ls,ks)),[]⟩:=by
 refine ae (c:=mkc KL2) aD3 aL hm (V7 cs ns os fs ls ks ⟨rfl,λhp=>?_⟩)
 simp only[qc,Dh,Es,Di,qd,Dt,Eb,Dy,Dp,Ei,Eh,Ed,Ew,Df,Et,Dl,Dn,Eo,Dz,Dw,Dj,Dq,Ee,Fe,Dc,Dx,Dk,Ec,Em,Du,Eu,Ez,En,Ef,Fg,Fj,Fh,Ep,Ej,Ey,Fb];refine⟨λh=>HI λg=>?_,λh=>?_⟩
 .obtain⟨l1,l2,l3,l4,l5,l6⟩:=yW cs ns os fs ls ks (oj.1 g).1;omega
 have hl:mN (cs,ns,os,fs,ls,ks)=true:=vF (by show cs.length<=10/\ns.length<=10/\os.length<=10/\fs.length<=16/\ls.length<=50/\ks.length<=8;omega)
 refine⟨⟨qL _,vC _,by simp⟩,λx ⟨x0,x1,x2⟩=>⟨λhlt=>⟨x0,hlt,λhb=>HI λg=>?_,λhg=>⟨⟨by omega,by omega⟩,x+1,⟨by omega,by omega,?_⟩,rfl,by omega⟩⟩,λhge=>?_⟩⟩
 .have:=pD (l:=cs) (p:=λc=>gn c.2.1 c.2.2) (d:=(0,[],[])) (k:=x.toNat) (by omega) hb
  rw[(oj.1 g).2.1]at this;cases this
 .rw[show(x+1).toNat=x.toNat+1 by omega]
  exact gZ (d:=(0,[],[])) x2 (by omega) hg
 have hcs:(cs.all λc=>gn c.2.1 c.2.2)=true:=by rwa [qO (by omega)]at x2
 refine⟨⟨qL _,vC _,by simp⟩,λz ⟨z0,z1,z2⟩=>⟨λhlt=>⟨z0,hlt,λhb=>HI λg=>?_,λhg=>⟨⟨by omega,by omega⟩,z+1,⟨by omega,by omega,?_⟩,rfl,by omega⟩⟩,λhge=>?_⟩⟩
 .have:=pD (l:=fs) (p:=λo=>decide (o.2.2.2.2.2.2.length<=30)) (d:=(⟨#[]⟩,0,0,0,0,0,[])) (k:=z.toNat) (by omega) (vK (by omega))
  rw[(oj.1 g).2.2.1]at this;cases this
 .rw[show(z+1).toNat=z.toNat+1 by omega]
  exact gZ (d:=(⟨#[]⟩,0,0,0,0,0,[])) z2 (by omega) (vF (by omega))
 have hfs:(fs.all λo=>decide (o.2.2.2.2.2.2.length<=30))=true:=by rwa [qO (by omega)]at z2
 refine⟨⟨qL _,by decide,λj h1 h2=>by omega⟩,λk ⟨k0,k1,k2⟩=>⟨λhk=>?_,λhk=>?_⟩⟩
 .have hlen:(aP (cs,ns,os,fs,ls,ks) k).length<=100:=aAR hl k;refine⟨hl,⟨qL _,vC _,by simp[mF]⟩,λi ⟨i0,i1,i2⟩=>⟨λhlt=>⟨i0,hlt,λhb=>HI λg=>?_,λhg=>⟨⟨by omega,by omega⟩,i+1,⟨by omega,by omega,?_⟩,rfl,by omega⟩⟩,λhge=>⟨⟨by omega,by omega⟩,k+1,⟨by omega,by omega,λj h1 h2=>?_⟩,rfl,by omega⟩⟩⟩
  .have:=pD (l:=aP (cs,ns,os,fs,ls,ks) k) (p:=λs=>decide (s.size<=40)) (d:=⟨#[]⟩) (k:=i.toNat) (by omega) (vK (by omega))
   have h2:=(oj.1 g).2.2.2 k k0 (by omega)
   unfold mF at h2;rw[h2]at this;cases this
  .rw[show(i+1).toNat=i.toNat+1 by omega]
   exact gZ (d:=⟨#[]⟩) i2 (by omega) (vF (by omega))
  .by_cases e:j=k
   .subst e
    rwa [qO (by omega)]at i2
   .exact k2 j h1 (by omega)
 .exact(oj.2 ⟨hl,hcs,hfs,λj h1 h2=>k2 j h1 (by omega)⟩).symm
theorem GN{a b:List (Lj)}(h:a≠b): false=rZ a b:=by unfold rZ;exact(qAf.2 h).symm
theorem Ax{a b:Lj}: nJ a b=true↔a=b:=xH
theorem aC7(a b:List (Lj)): af Tryz.prog G0 24 [.dat (.sl M) a,.dat (.sl M) b] [] ⟨EH a,.dat .bool (rZ a b),[]⟩:=by
 refine ae (c:=mkc KL2) aD3 aL hm (ZY a b ⟨rfl,λhp=>?_⟩)
 simp only[qc,Dh,Es,Di,qd,Dt,Eb,Dy,Dp,Ei,Eh,Ed,Ew,Df,Et,Dl,Dn,Eo,Dz,Dw,Dj,Dq,Ee,Fe,Dc,Dx,Dk,Ec,Em,Du,Eu,Ez,En,Ef,Fg,Fj,Fh,Ep,Ej,Ey,Fb];obtain⟨hp1,hp2⟩:=hp;refine⟨λh=>GN λe=>h (by rw[e]),λh=>⟨⟨qL _,vC _,by omega,rfl⟩,λx ⟨g0,g1,g2,g3⟩=>⟨λhlt=>⟨g0,hlt,g0,by omega,hp2 _ (getD_mem (by omega)),λhd=>GN λe=>?_,λhd=>⟨aM (by omega),x+1,⟨by omega,by omega,g2,?_⟩,rfl,by omega⟩⟩,λhge=>?_⟩⟩⟩
 .rw[e,Ax.2 rfl]at hd;cases hd
 .rw[show(x+1).toNat=x.toNat+1 by omega]
  exact iK g3 (by omega) (by omega) (Ax.1 hd)
 .rw[qO (by omega),qO (by omega)]at g3
  subst g3;unfold rZ;simp
theorem aEK: aj Tryz.prog G0 KL3:=ai (ag λ((cs,ns,os,fs,ls,ks),_)=>wD cs ns os fs ls ks)<|ai (ag λ(a,b,_)=>aC7 a b) aD3
theorem Xa(nx:Lj)(cs:LC)(ns os:LB)(fs:Lo)(ls:Ll)(ks:Lk): af Tryz.prog G0 37 [net cs ns os fs ls ks,.dat M nx] [] ⟨True,.dat .bool (smF (cs,ns,os,fs,ls,ks) nx),[]⟩:=by
 refine ae (c:=mkc KL3) aEK aL hm (Qq nx cs ns os fs ls ks ⟨rfl,λ_=>?_⟩)
 simp only[qc,Dh,Es,Di,qd,Dt,Eb,Dy,Dp,Ei,Eh,Ed,Ew,Df,Et,Dl,Dn,Eo,Dz,Dw,Dj,Dq,Ee,Fe,Dc,Dx,Dk,Ec,Em,Du,Eu,Ez,En,Ef,Fg,Fj,Fh,Ep,Ej,Ey,Fb];have e:smF (cs,ns,os,fs,ls,ks) nx=((J0 (cs,ns,os,fs,ls,ks)&&decide ((fs.length:Int)<=6))&&(decide ((nx.length:Int)<=10)&&nx.all λr=>decide ((r.length:Int)<=10))):=rfl
 refine⟨λh=>?_,λ⟨⟨h1,h2⟩,h3⟩=>⟨⟨qL _,vC _,by omega,λi h=>by omega⟩,λx hx=>⟨λhlt=>⟨hx.1,hlt,λhb=>?_,λhb=>⟨aM (by have:=hx.1;omega),x+1,⟨by have:=hx.1;omega,by omega,hx.2.2.1,λi hi=>?_⟩,rfl,by have:=hx.1;omega⟩⟩,λhge=>?_⟩⟩⟩
 .rw[e];rcases h with(h | h) | h
  .rw[h];rfl
  .rw[vK (by omega),kU];rfl
  .rw[vK (p:=(nx.length:Int)<=10) (by omega),kT,kU]
 .rw[e];have:(nx.all λr=>decide ((r.length:Int)<=10))=false:=by
   refine qCt.2 ⟨nx.getD x.toNat [],?_,by simp only[qE];omega⟩
   rw[qA,qB (by have:=hx.1;omega),qQ];exact wQ _
  rw[this,kU,kU]
 .by_cases h:(i:Int)<x
  .exact hx.2.2.2 i h
  .have:i=x.toNat:=by have:=hx.1;omega
   rw[this];omega
 .rw[e,h1,vF (by omega),vF (p:=(nx.length:Int)<=10) (by omega)]
  refine(qN.2 λr hr=>?_).symm
  obtain⟨i,hi,rfl⟩:=wY.1 hr;have:=hx.2.2.2 i (by omega)
  rw[qA,qB hi,qQ]at this;simp only[qE];omega
theorem aD2: aj Tryz.prog G0 KL4:=ai (ag λ((cs,ns,os,fs,ls,ks),nx,_)=>Xa nx cs ns os fs ls ks) aEK
theorem W9(a b:Int)(cs:LC)(ns os:LB)(fs:Lo)(ls:Ll)(ks:Lk): af Tryz.prog G0 10 [net cs ns os fs ls ks,.dat I a,.dat I b] [] ⟨True,.dat .bool (aAm (cs,ns,os,fs,ls,ks) a b),[]⟩:=by
 refine ae (c:={mkc KL4 with mb:=λt=>t==18||t==23}) aD2 aL hm (Qp a b cs ns os fs ls ks ⟨rfl,λ_=>?_⟩)
 simp only[qc,Dh,Es,Di,qd,Dt,Eb,Dy,Dp,Ei,Eh,Ed,Ew,Df,Et,Dl,Dn,Eo,Dz,Dw,Dj,Dq,Ee,Fe,Dc,Dx,Dk,Ec,Em,Du,Eu,Ez,En,Ef,Fg,Fj,Fh,Ep,Ej,Ey,Fb];rfl
theorem aDb: af Tryz.prog G0 34 [] [] ⟨True,.agg [.dat (.sl C) xCs,.dat (.sl S) xNs,.dat (.sl S) xOs,.dat (.sl Of) xFs,.dat (.sl Ln) xLs,.dat (.sl Kl) xKs],[]⟩:=by
 refine ae (c:=mkc KL4) aD2 aL hm (Z3 ⟨rfl,λ_=>?_⟩)
 simp only[qc,Dh,Es,Di,qd,Dt,Eb,Dy,Dp,Ei,Eh,Ed,Ew,Df,Et,Dl,Dn,Eo,Dz,Dw,Dj,Dq,Ee,Fe,Dc,Dx,Dk,Ec,Em,Du,Eu,Ez,En,Ef,Fg,Fj,Fh,Ep,Ej,Ey,Fb];exact⟨rfl,rfl,rfl,rfl,rfl,rfl⟩
theorem aEJ: aj Tryz.prog G0 KL5:=ai (ag λ((cs,ns,os,fs,ls,ks),a,b,_)=>W9 a b cs ns os fs ls ks)<|ai (ag λ_=>aDb)<|ai (ag λ((cs,ns,os,fs,ls,ks),a,b,_)=>LK vw a b cs ns os fs ls ks) <|
 ai (ag λ((cs,ns,os,fs,ls,ks),(p1,p2,nx,dy),o,_)=>Ro vw o cs ns os fs ls ks p1 p2 nx dy)<|ai (ag λ((cs,ns,os,fs,ls,ks),c,_)=>Yi (Go.Eng.In.Xp c.2 c.1 cs ns os fs ls ks))<|ai (ag λ(l,_)=>Yi (Go.Eng.In.Da l)) aD2
noncomputable abbrev xN: Net:=(xCs,xNs,xOs,xFs,xLs,xKs)
abbrev xP: Plan:=(0,1,[[-1,0],[1,-1]],[[[0,0],[0,0]]])
abbrev xL: Li:=[0,1,2,1,0,1,2,0,1,1,1,1,2,2]
set_option maxHeartbeats 4000000 in
theorem Rn: af Tryz.prog G0 9 [] [] ⟨True,.dat .bool true,[]⟩:=by
 refine ae (c:={mkc KL5 with mb:=λt=>t==46}) aEJ aL hm (KF ?_)
 intro c1 c2 c3 c4 c5 c6 c7 c8 c9 c10 c11 c12 c13 c14 c15 c16 c17 c18 c19 c20 c21 c22 c23 c24 c25 c26 c27 c28 c29 c30 c31 c32 c33 c34 c35 c36 c37 c38 c39 c40 c41 c42 c43 c44 c45 c46 c47 c48 c49 c50 c51 c52 c53 c54 c55 c56 c57 c58 c59;have q2:c2=xP:=by decide +kernel
 have q7:c7=[[-1,0],[1,-1]]:=by show c2.2.2.1=_;rw[q2]
 have q8:c8=[[[0,0],[0,0]]]:=by show c2.2.2.2=_;rw[q2]
 have q9:c9=xP:=by show(c2.1,c2.2.1,c2.2.2.1,c2.2.2.2)=_;rw[q2]
 have q17:c17=0:=by decide +kernel
 have q18:c18=[-1,0]:=by show gsF xN c9 0=_;rw[q9];decide +kernel
 have q19:c19=[0,1]:=by show ofF xN c9 0=_;rw[q9];decide +kernel
 have q20:c20=1:=by decide +kernel
 have q21:c21=(xL,Go.Eng.In.mS xL):=by decide +kernel
 have q22:c22=xL:=by show c21.1=_;rw[q21]
 have q23:c23=Go.Eng.In.mS xL:=by show c21.2=_;rw[q21]
 have h5:qS (xCs,xNs,xOs,c47,c16,xKs) 0 1=140:=by
  show qS (xCs,xNs,xOs,yFs,yLs,xKs) 0 1=140
  decide +kernel
 have h8:Go.Eng.In.fW xN xL (Go.Eng.In.mS xL)=0:=by decide +kernel
 have e48:c48=true:=by show Eb c17 0=true;rw[q17];rfl
 have e51:c51=true:=by show Ea c48 (nJ c7 [[-1,0],[1,-1]]) false=true;rw[e48,q7];rfl
 have e53:c53=true:=by show Ea c51 (rZ c8 [[[0,0],[0,0]]]) false=true;rw[e51,q8];rfl
 have e54:c54=true:=by show Ea c53 (mT c22 xL) false=true;rw[e53,q22];rfl
 have e55:c55=true:=by show Ea c54 (Eb c23 (In.mS c22)) false=true;rw[e54,q22,q23];show decide (In.mS xL=In.mS xL)=true;exact vF rfl
 have e56:c56=true:=by show Ea c55 (mT c18 [-1,0]) false=true;rw[e55,q18];rfl
 have e57:c57=true:=by show Ea c56 (mT c19 [0,1]) false=true;rw[e56,q19];rfl
 have e58:c58=true:=by show Ea c57 (Eb c20 1) false=true;rw[e57,q20];rfl
 have e59:c59=true:=by show Ea c58 (Eb (qS (xCs,xNs,xOs,c47,c16,xKs) 0 1) 140) false=true;rw[e58,h5];rfl
 have e60:Ea c59 (Eb (In.fW c1 c22 c23) (0:Int)) false=true:=by
  show Ea c59 (Eb (In.fW xN c22 c23) (0:Int)) false=true;rw[e59,q22,q23,h8];rfl
 have m7:mild c7:=by rw[q7];unfold mild;decide
 have m8:EH c8:=by rw[q8];unfold EH mild;decide
 have m9:fe c9:=by rw[q9];unfold fe cC;decide
 have m22:oY c22:=by rw[q22];unfold oY;decide
 have s22:In.Pm c22:=by rw[q22];unfold In.Pm;decide
 have l22:In.Hm c22/\In.qx c1:=⟨by rw[q22];unfold In.Hm;decide,by show In.qx xN;unfold In.qx;decide⟩
 have m18:oY c18:=by rw[q18];unfold oY;decide
 have m19:oY c19:=by rw[q19];unfold oY;decide
 have k10:Dn (0:Int) c10/\Dn (1:Int) c10:=by constructor<;>decide
 have k11:Dz (Em c11 (56)) (140737488355328)/\Dz c11 (9223372036854775807):=by constructor<;>decide
 have k15:Dz (Em c15 (56)) (140737488355328)/\Dz c15 (9223372036854775807):=by constructor<;>decide
 have k16:Dk c12=c11/\Dk c16=c15:=⟨rfl,rfl⟩;clear_value c59 c58 c57 c56 c55 c54 c53 c51 c48 c31 c24 c23 c22 c21 c20 c19 c18 c17 c9 c8 c7 c2;subst e48 e51 e53 e54 e55 e56 e57 e58 e59;refine⟨rfl,λ_=>?_⟩
 generalize fe c9=F9 at m9 ⊢
 and_intros
 all_goals first
  | with_reducible exact trivial
  | with_reducible rfl
  | with_reducible exact e60
  | with_reducible exact m9
  | with_reducible exact λ_=>m7
  | with_reducible exact λ_=>m8
  | with_reducible exact λ_=>m22
  | with_reducible exact λ_=>s22
  | with_reducible exact λ_=>l22
  | with_reducible exact λ_=>m18
  | with_reducible exact λ_=>m19
  | with_reducible exact k10.1
  | with_reducible exact k10.2
  | with_reducible exact k11.1
  | with_reducible exact k11.2
  | with_reducible exact k15.1
  | with_reducible exact k15.2
  | with_reducible exact k16.1
  | with_reducible exact k16.2
  | with_reducible exact λ_=>rfl
  | with_reducible exact λh _=>h
  | with_reducible exact λh=>h
  | decide
  | rfl
theorem aFm: aj Tryz.prog G0 KL6:=ai (ag λ_=>Rn) aEJ
end Go.Eng.Sv
set_option maxRecDepth 100000
namespace Go.Eng.Sv
open Go.Proofs
noncomputable def u8P(a:Int): Prop:=0<=a/\a<=255
noncomputable def bB(n:Net)(a b:Int)(o d:Int): Int:=Go.Eng.Mp.at2 (aN n (bm n a b)) o d
noncomputable def cnt(n:Net)(a b o d:Int): Nat:=(List.range n.2.2.2.1.length).countP λx:Nat=>decide (bB n a b o d<bB n a b x d)
open Go.Eng.Mp (aK ct pM bz upto at2 oi dO gy xb)
open Go.Eng.Mp (W PW uj)
theorem B0{n:Net}{f t:Int}(hc:qS n f t=0): (0<=f/\f<t/\t<=600/\t-f<=60)/\bj n=true/\mQ n (cO n f t).2.2.1=true/\(cO n f t).2.2.2=JY n (cO n f t).2.2.1 f t/\nH n (p1F n f t)=0/\wrE n (p2F n f t)=0/\cO n f t=p2F n f t:=by
 have e:cO n f t=p2F n f t:=if_pos hc;unfold qS at hc;split at hc
 .rename_i h;exact absurd hc h
 .rename_i h;have h:HW n (p0F f t)=0:=qBs.1 h;obtain⟨h1,h2,h3,h4⟩:=B5 h;split at hc
  .rename_i g;exact absurd hc g
  .rename_i g;rw[e];exact⟨h1,h2,h4,rfl,qBs.1 g,hc,rfl⟩
theorem VH{n:Net}{p:Plan}(h:wrE n p=0): bj n=true/\fG n p=true:=by
 unfold wrE at h;split at h
 .assumption
 .cases h
theorem Uc{n:Net}{f t:Int}(hc:qS n f t=0): gA n (1440*f) (1440*t)=true/\(cO n f t).2.2.1=Eg n (bm n (1440*f) (1440*t))/\fG n (cO n f t)=true/\fe (cO n f t):=by
 obtain⟨hr,hs,ht,hD,_,hw,e⟩:=B0 hc;have hu:gA n (1440*f) (1440*t)=true:=by
  unfold gA;rw[qC];exact⟨si.2 (by omega),hs⟩
 refine⟨hu,?_,?_,wT hs ht,by rw[hD];exact Gy hs⟩
 .rw[e];exact if_pos hu
 .rw[e];exact(VH hw).2
theorem tU{α:Type}{p q:α->Bool}: ∀{l:List α},(∀x∈l,p x=true->q x=true)->(∃x∈l,q x=true/\p x=false)->l.countP p+1<=l.countP q
 | [],_,h=>by obtain⟨x,hx,_⟩:=h;cases hx
 | y::l,h1,h2=>by
  have hle:l.countP p<=l.countP q:=List.countP_mono_left λx hx=>h1 x (zD _ hx)
  rw[List.countP_cons,List.countP_cons];obtain⟨x,hx,g1,g2⟩:=h2;rcases zL.1 hx with rfl | hx
  .rw[if_pos g1,if_neg (by rw[g2];decide)];omega
  .have ih:=tU (λx hx=>h1 x (zD _ hx)) ⟨x,hx,g1,g2⟩
   have:=h1 y wS;by_cases hy:p y=true
   .rw[if_pos hy,if_pos (this hy)];omega
   .rw[if_neg hy];omega
theorem cnt_lt(cs:LC)(ns os:LB)(fs:Lo)(ls:Ll)(ks:Lk){a b o d:Int}(o0:0<=o)(o1:o<fs.length): cnt (cs,ns,os,fs,ls,ks) a b o d+1<=fs.length:=by
 have h:=tU (p:=λx:Nat=>decide (bB (cs,ns,os,fs,ls,ks) a b o d<bB (cs,ns,os,fs,ls,ks) a b x d)) (q:=λ_=>true) (l:=List.range fs.length) (λ_ _ _=>rfl) ⟨o.toNat,qX.2 (by omega),rfl,by
  rw[vN,qR o0];omega⟩
 have e:(List.range fs.length).countP (λ_=>true)=fs.length:=by simp
 rw[e]at h;exact h
theorem Ub(cs:LC)(ns os:LB)(fs:Lo)(ls:Ll)(ks:Lk){a b o o' d:Int}(o0:0<=o)(o1:o<fs.length)(h:bB (cs,ns,os,fs,ls,ks) a b o' d<bB (cs,ns,os,fs,ls,ks) a b o d): cnt (cs,ns,os,fs,ls,ks) a b o d+1<=cnt (cs,ns,os,fs,ls,ks) a b o' d:=by
 refine tU (λx _ hx=>?_) ⟨o.toNat,qX.2 (by show o.toNat<fs.length;omega),?_,?_⟩
 .have:=wJ hx;exact vF (by omega)
 .rw[qE,qR o0];exact h
 .rw[vN,qR o0];omega
theorem OO(cs:LC)(ns os:LB)(fs:Lo)(ls:Ll)(ks:Lk){a b o d:Int}(h:gA (cs,ns,os,fs,ls,ks) a b=true)(o0:0<=o)(o1:o<fs.length)(d0:0<=d)(d1:d<fs.length)(hne:o≠d)(hB:0<=bB (cs,ns,os,fs,ls,ks) a b o d):
  ∃i:Int,at2 (Eg (cs,ns,os,fs,ls,ks) (bm (cs,ns,os,fs,ls,ks) a b)) o d=i/\0<=i/\i<ls.length/\(aG (cs,ns,os,fs,ls,ks) i).2.1=o/\(bm (cs,ns,os,fs,ls,ks) a b).getD i.toNat 0≠cZ/\0<(bm (cs,ns,os,fs,ls,ks) a b).getD i.toNat 0/\0<=bB (cs,ns,os,fs,ls,ks) a b (aG (cs,ns,os,fs,ls,ks) i).2.2.1 d/\bB (cs,ns,os,fs,ls,ks) a b o d=(bm (cs,ns,os,fs,ls,ks) a b).getD i.toNat 0+bB (cs,ns,os,fs,ls,ks) a b (aG (cs,ns,os,fs,ls,ks) i).2.2.1 d:=by
 have hc:=zc cs ns os fs ls ks h;have hat:at2 (Eg (cs,ns,os,fs,ls,ks) (bm (cs,ns,os,fs,ls,ks) a b)) o d=mA (cs,ns,os,fs,ls,ks) (bm (cs,ns,os,fs,ls,ks) a b) (aN (cs,ns,os,fs,ls,ks) (bm (cs,ns,os,fs,ls,ks) a b)) o d:=Mp.fL _ _ o d o0 o1 d0 d1
 have hn:mA (cs,ns,os,fs,ls,ks) (bm (cs,ns,os,fs,ls,ks) a b) (aN (cs,ns,os,fs,ls,ks) (bm (cs,ns,os,fs,ls,ks) a b)) o d=qT (cs,ns,os,fs,ls,ks) (bm (cs,ns,os,fs,ls,ks) a b) (aN (cs,ns,os,fs,ls,ks) (bm (cs,ns,os,fs,ls,ks) a b)) o d:=by
  unfold mA;rw[if_neg (λq=>q.elim hne (λg=>by have g:bB (cs,ns,os,fs,ls,ks) a b o d<0:=g;omega))]
 rw[hat,hn];obtain⟨k,l,k1,k2,k3,k4,k5⟩:=(Cc cs ns os fs ls ks hc).1.from_ o d o0 o1 d0 d1 hne hB;have hlt:k<ls.length:=(qF.1 k1).1;have el:∀j:Nat,∀l,ls[j]?=some l->aG (cs,ns,os,fs,ls,ks) j=l:=λj l hj=>by
  unfold aG;show ls.getD (j:Int).toNat _=l;rw[qW,qA,hj];rfl
 have hb:ki (cs,ns,os,fs,ls,ks) (bm (cs,ns,os,fs,ls,ks) a b) (aN (cs,ns,os,fs,ls,ks) (bm (cs,ns,os,fs,ls,ks) a b)) o d k=true:=md.2 ⟨by rw[el k l k1];exact k3,by rw[qW];exact k2,by rw[el k l k1];exact k4,by rw[qW,el k l k1];exact k5.symm⟩
 unfold qT;cases hf:(List.range ls.length).find? (λi:Nat=>ki (cs,ns,os,fs,ls,ks) (bm (cs,ns,os,fs,ls,ks) a b) (aN (cs,ns,os,fs,ls,ks) (bm (cs,ns,os,fs,ls,ks) a b)) o d i)with
 | none=>exact(qBn.1 hf k (qX.2 hlt) hb).elim
 | some i=>
  have hi:=qX.1 (List.mem_of_find?_eq_some hf);have hp:ki (cs,ns,os,fs,ls,ks) (bm (cs,ns,os,fs,ls,ks) a b) (aN (cs,ns,os,fs,ls,ks) (bm (cs,ns,os,fs,ls,ks) a b)) o d i=true:=qDh (p:=λi:Nat=>ki (cs,ns,os,fs,ls,ks) (bm (cs,ns,os,fs,ls,ks) a b) (aN (cs,ns,os,fs,ls,ks) (bm (cs,ns,os,fs,ls,ks) a b)) o d i) hf
  obtain⟨p1,p2,p3,p4⟩:=md.1 hp;have hc2:=hc.2.2 i (by omega) (by rw[hc.2.1];show(i:Int)<ls.length;omega)
  refine⟨i,?_,by omega,by omega,p1,p2,?_,p3,p4.symm⟩
  .rfl
  .rcases hc2 with g | g
   .exact(p2 g).elim
   .exact g.1
theorem Nh(cs:LC)(ns os:LB)(fs:Lo)(ls:Ll)(ks:Lk){a b o d:Int}(o0:0<=o)(o1:o<fs.length)(d0:0<=d)(d1:d<fs.length)(h:o=d\/bB (cs,ns,os,fs,ls,ks) a b o d<0): at2 (Eg (cs,ns,os,fs,ls,ks) (bm (cs,ns,os,fs,ls,ks) a b)) o d=-1:=by
 have:at2 (Eg (cs,ns,os,fs,ls,ks) (bm (cs,ns,os,fs,ls,ks) a b)) o d=mA (cs,ns,os,fs,ls,ks) (bm (cs,ns,os,fs,ls,ks) a b) (aN (cs,ns,os,fs,ls,ks) (bm (cs,ns,os,fs,ls,ks) a b)) o d:=Mp.fL _ _ o d o0 o1 d0 d1;rw[this];unfold mA;exact if_pos h
theorem E8{p:Plan}{o x:Int}: x∈gi p o↔x≠-1/\∃d:Int,0<=d/\d<(dY p o).length/\d≠o/\(dY p o).getD d.toNat 0=x:=by
 unfold gi QS;rw[yq,xK,zA];simp only[xK,qX,qE];constructor
 .rintro⟨⟨d,⟨h1,h2⟩,h3⟩,h4⟩;exact⟨h4,d,by omega,by omega,h2,by rw[qW];exact h3⟩
 .rintro⟨h4,d,h0,h1,h2,h3⟩;exact⟨⟨d.toNat,⟨by omega,by rw[qR h0];exact h2⟩,h3⟩,h4⟩
theorem vQ(p:Plan)(o:Int): (gi p o).Pairwise (· < ·):=m5 _
theorem Yg{l:Li}{x:Int}(h:x∈l): ru x l<l.length/\l.getD (ru x l) 0=x:=by
 induction l with
 | nil=>cases h
 | cons a l ih=>
  unfold ru;by_cases ha:a=x
  .rw[if_pos ha];exact⟨by simp,ha⟩
  .rw[if_neg ha];rcases zL.1 h with g | g
   .exact absurd g.symm ha
   .obtain⟨h1,h2⟩:=ih g;exact⟨by simp only[vW];omega,by simpa using h2⟩
structure aBO (n:Net) (p:Plan) (o:Int):Prop where
 gs:gsF n p o=-1::gi p o
 len:((ofF n p o).length:Int)=n.2.2.2.1.length
 at_:∀i:Int,0<=i->i<n.2.2.2.1.length->(ofF n p o).getD i.toNat 0=uD p o i
 self:uD p o o=0
 none_:∀i:Int,0<=i->i<n.2.2.2.1.length->i≠o->nxt p.2.2.1 o i=-1->uD p o i=-1
 some_:∀i:Int,0<=i->i<n.2.2.2.1.length->i≠o->nxt p.2.2.1 o i≠-1->1<=uD p o i/\uD p o i<(gsF n p o).length/\(gsF n p o).getD (uD p o i).toNat 0=nxt p.2.2.1 o i/\0<=nxt p.2.2.1 o i/\nxt p.2.2.1 o i<n.2.2.2.2.1.length/\cN n (nxt p.2.2.1 o i)=o
 small:(gsF n p o).length<=n.2.2.2.1.length+1
 lines:∀j:Int,1<=j->j<(gsF n p o).length->0<=(gsF n p o).getD j.toNat 0/\(gsF n p o).getD j.toNat 0<n.2.2.2.2.1.length/\cN n ((gsF n p o).getD j.toNat 0)=o/\(gsF n p o).getD (j-1).toNat 0<(gsF n p o).getD j.toNat 0/\∃i:Int,0<=i/\i<n.2.2.2.1.length/\uD p o i=j
theorem aA2(cs:LC)(ns os:LB)(fs:Lo)(ls:Ll)(ks:Lk){p:Plan}{o:Int}(hs:bj (cs,ns,os,fs,ls,ks)=true)(hf:fG (cs,ns,os,fs,ls,ks) p=true)(o0:0<=o)(o1:o<fs.length): aBO (cs,ns,os,fs,ls,ks) p o:=by
 have hg:gOk (cs,ns,os,fs,ls,ks) p o=true:=by
  unfold gOk dM;rw[qC,qC,qE];exact⟨⟨⟨o0,o1⟩,hs⟩,hf⟩
 have ht:mQ (cs,ns,os,fs,ls,ks) p.2.2.1=true:=by
  unfold fG at hf;rw[qC,qC]at hf;exact hf.2.1
 have hrow:((dY p o).length:Int)=fs.length:=(fV cs ns os fs ls ks ht o0 o1 o0 o1).2.1;have hcell:∀i:Int,(dY p o).getD i.toNat 0=nxt p.2.2.1 o i:=λ_=>rfl
 have e1:gsF (cs,ns,os,fs,ls,ks) p o=-1::gi p o:=if_pos hg;have e2:ofF (cs,ns,os,fs,ls,ks) p o=(List.range fs.length).map λd:Nat=>uD p o d:=if_pos hg
 have hmem:∀i:Int,0<=i->i<fs.length->i≠o->nxt p.2.2.1 o i≠-1->nxt p.2.2.1 o i∈gi p o:=λi i0 i1 hne h=>E8.2 ⟨h,i,i0,by omega,hne,rfl⟩
 have hone:∀i:Int,i≠o->nxt p.2.2.1 o i≠-1->uD p o i=JZ (-1::gi p o) (nxt p.2.2.1 o i):=λi hne h=>by
  unfold uD;rw[if_neg hne,hcell,if_neg h]
 have hidx:∀x:Int,x≠-1->x∈gi p o->JZ (-1::gi p o) x=((ru x (gi p o):Nat):Int)+1/\ru x (gi p o)<(gi p o).length/\(gi p o).getD (ru x (gi p o)) 0=x:=λx hx h=>by
  obtain⟨g1,g2⟩:=Yg h;refine⟨?_,g1,g2⟩;have e:ru x (-1::gi p o)=ru x (gi p o)+1:=by
   show(if(-1:Int)=x then 0 else ru x (gi p o)+1)=_
   rw[if_neg (λh=>hx h.symm)]
  unfold JZ;rw[e,if_pos (by simp only[vW];omega)]
  omega
 have hline:∀x∈gi p o,0<=x/\x<ls.length/\cN (cs,ns,os,fs,ls,ks) x=o:=λx hx=>by
  obtain⟨h1,d,d0,d1,_,h3⟩:=E8.1 hx;rw[hcell]at h3;obtain⟨_,_,g⟩:=fV cs ns os fs ls ks ht o0 o1 d0 (by omega:d<fs.length)
  obtain⟨⟨g1,g2⟩,g3⟩:=g (by rw[h3];exact h1)
  rw[h3]at g1 g2 g3;exact⟨g1,g2,g3⟩
 have hget:∀j:Int,1<=j->j<((-1::gi p o).length:Int)->((-1::gi p o).getD j.toNat 0)∈gi p o/\(-1::gi p o).getD j.toNat 0=(gi p o).getD (j-1).toNat 0:=λj j1 j2=>by
  obtain⟨k,rfl⟩:∃k:Nat,j=(k:Int)+1:=⟨(j-1).toNat,by omega⟩
  have h:k<(gi p o).length:=by simp only[vW]at j2;omega
  rw[show((k:Int)+1).toNat=k+1 by omega,show((k:Int)+1-1).toNat=k by omega]
  refine⟨?_,rfl⟩;show(gi p o).getD k 0∈_;rw[qA,qB h];exact wQ h
 refine⟨e1,by rw[e2,vV,vX],λi i0 i1=>?_,?_,λi i0 i1 hne h=>?_,λi i0 i1 hne h=>?_,?_,λj j1 j2=>?_⟩
 .have i1:i<fs.length:=i1;rw[e2,qA,qP,vY (by omega),zO,qQ,qR i0]
 .unfold uD;rw[if_pos rfl]
 .unfold uD;rw[if_neg hne,hcell,if_pos h]
 .have hm:=hmem i i0 i1 hne h;obtain⟨g1,g2,g3⟩:=hidx _ h hm;obtain⟨k1,k2,k3⟩:=hline _ hm;rw[hone i hne h,g1,e1];refine⟨by omega,by simp only[vW];omega,?_,k1,k2,k3⟩
  rw[show(((ru (nxt p.2.2.1 o i) (gi p o):Nat):Int)+1).toNat=ru (nxt p.2.2.1 o i) (gi p o)+1 by omega]
  exact g3
 .rw[e1];have:=E7 p o;simp only[vW];show _<=fs.length+1;omega
 .rw[e1]at j2 ⊢;obtain⟨hm,he⟩:=hget j j1 j2;obtain⟨k1,k2,k3⟩:=hline _ hm;refine⟨k1,k2,k3,?_,?_⟩
  .by_cases hj:j=1
   .rw[hj]at k1 ⊢;show(-1:Int)<_;omega
   .obtain⟨hm',he'⟩:=hget (j-1) (by omega) (by omega)
    rw[he,he'];have hl:(j-1).toNat<(gi p o).length:=by simp only[vW]at j2;omega
    have hl':(j-1-1).toNat<(gi p o).length:=by omega
    have:=List.pairwise_iff_getElem.1 (vQ p o) (j-1-1).toNat (j-1).toNat hl' hl (by omega)
    rw[qA,qA,qB hl,qB hl'];exact this
  .obtain⟨h1,d,d0,d1,d2,h3⟩:=E8.1 hm;rw[hcell]at h3;refine⟨d,d0,by show d<fs.length;omega,?_⟩
   rw[hone d d2 (by rw[h3];exact h1),h3]
   obtain⟨g1,g2,g3⟩:=hidx _ h1 hm;rw[g1];rw[he]at g2 g3 ⊢;have hl:(j-1).toNat<(gi p o).length:=by simp only[vW]at j2;omega
   generalize hy:ru ((gi p o).getD (j-1).toNat 0) (gi p o)=y at g2 g3 ⊢;have hp:=vQ p o;rw[qA,qA,qB hl,qB g2]at g3;have g3:(gi p o)[y]=(gi p o)[(j-1).toNat]:=g3;rcases qCr y (j-1).toNat with q | q | q
   .have:=List.pairwise_iff_getElem.1 hp y _ g2 hl q;omega
   .omega
   .have:=List.pairwise_iff_getElem.1 hp _ y hl g2 q;omega
end Go.Eng.Sv
set_option maxRecDepth 100000
noncomputable section
namespace Go.Eng.Sv
open Go.Proofs
def atF(n:Net)(o:Int): Int:=Int.tmod o n.2.2.2.1.length
def gvO(n:Net)(f t o:Int): Li:=gsF n (cO n f t) o
def gvD(n:Net)(f t o:Int): Li:=ofF n (cO n f t) o
def usF(g:Li)(m:Nat)(k:Int): List Bool:=(List.range m).map λj:Nat=>(List.range k.toNat).any λi:Nat=>decide (g.getD i 0=(j:Int))
def Ze(n:Net)(f t o:Int): Prop:=qS n f t=0/\0<=o/\o<n.2.2.2.1.length
def Zd(n:Net)(f t o k:Int): Prop:=Ze n f t o/\0<=k/\k<=(gvD n f t o).length
def NW(n:Net)(f t o k:Int): Prop:=Ze n f t o/\0<=k/\k<=(gvO n f t o).length
def NV(n:Net)(f t d o s:Int): Prop:=Ze n f t o/\0<=d/\d<n.2.2.2.1.length/\0<=s/\0<=bB n (1440*f) (1440*t) o d/\s<=cnt n (1440*f) (1440*t) o d
def glA(n:Net)(f t o d:Int): Ann:=⟨λid s=>match id with
 | 14=>match s.sig.T 19 with
  | .buf nm _=>some {α:=Int,inv:=λk=>Zd n f t (atF n o) k,st:=λk=>ie (put s [(20,.dat I k)]) nm (.buf 4 .bool (usF (gvD n f t (atF n o)) (Dk (gvO n f t (atF n o))) k) []),μ:=λk=>Dc (Dj (Df (gvD n f t (atF n o))) k)}
  | _=>none
 | 21=>some {α:=Int,inv:=λk=>NW n f t (atF n o) k,st:=λk=>put s [(21,.dat I k)],μ:=λk=>Dc (Dj (Df (gvO n f t (atF n o))) k)}
 | 28=>some {α:=Int×Int,inv:=λx=>NV n f t (atF n d) x.1 x.2,st:=λx=>put s [(15,.dat I x.1),(22,.dat I x.2)],μ:=λx=>Dc (Dj (Df n.2.2.2.1) x.2)}
 | _=>none,λ_ _=>none,λ_ _=>none⟩
set_option maxHeartbeats 4000000 in
theorem V9(f t o d:Int)(cs:LC)(ns os:LB)(fs:Lo)(ls:Ll)(ks:Lk)(hvc:
 let c1:=(cs,ns,os,fs,ls,ks);let c2:=Di (aAm c1 f t);let c3:=Di c2;let c4:=Df fs;let c5:=Ea c2 true (Eb c4 0);let c6:=Dy (qS c1 f t) 0;let c7:=cO c1 f t;let c8:=c7.1;let c9:=c7.2;let c10:=c9.1;let c11:=c9.2;let c12:=c11.1;let c13:=c11.2;let c14:=(c8,c10,c12,c13);let c15:=Fq o c4;let c16:=gsF c1 c14 c15;let c17:=Df c16;let c18:=Eb c17 0;let c19:=Di c18;let c20:=Ea c18 true (Dy (Du c16 (Dc 0) 0) (-1));let c21:=Di c20;let c22:=ofF c1 c14 c15;let c23:=Df c22;let c24:=Ea c20 true (Dy c23 c4);let c25:=Di c24;let c26:=Dc c15;let c27:=Ea c24 true (Dy (Du c22 c26 0) 0);let c28:=atF c1 o;let c29:=Fq d c4;let c30:=Dc c17;let c31:=HT c1 f t;let c32:=c31.1;let c33:=c31.2;let c34:=gvD c1 f t c28;let c35:=gvO c1 f t c28;let c36:=Dk c35;let c37:=Du c12 c26 [];let c38:=Df c34;let c39:=Df ls;let c40:=(ByteArray.mk #[],(0:Int),(0:Int),(0:Int),(0:Int),(0:Int));let c41:=Df c35;let c42:=Dc c29;let c43:=Dp (Du c22 c42 0) 0;
 true/\(u8P o/\u8P d->True/\True/\(c3->c3->c3)/\(c3->c3->c3)/\(c3->c3->c3)/\(Dh true c3->c3)/\(c5->true/\True)/\(c5=false->True/\1=1/\0=0/\1=1/\0=0/\(c6->true/\True)/\(c6=false->inR .i64 o/\c4≠0/\inR .i64 d/\c4≠0/\1=1/\0=0/\fe c14/\(c19->c19->c19)/\(c19->Dl 0 0)/\(c19->0<c17)/\(c19->c19->c19)/\(c19->c19->c19)/\(Dh true c19->c19)/\(c21->c21->c21)/\(c21->c21->c21)/\(c21->c21->c21)/\(c21->c21->c21)/\(c21->c21->c21)/\(Dh true c21->c21)/\(c25->c25->c25)/\(c25->c25->c25)/\(c25->0<=c15)/\(c25->c15<c23)/\(c25->c25->c25)/\(c25->c25->c25)/\(Dh true c25->c25)/\(c27->false/\True)/\(c27=false->0<=c17/\(Dx (1)*c17)<=281474976710656/\c17<=9223372036854775807/\(∃x,Zd c1 f t c28 x/\c1=c1/\true/\1=1/\0=0/\0=0/\c15=c15/\c29=c29/\c16=c16/\c22=c22/\c30=c30/\0=x/\c8=c8/\c10=c10/\c12=c12/\c13=c13/\c32=c32/\c33=c33/\Ep c17 false=usF c34 c36 x/\True)/\∀(x:Int),let c44:=Du c22 (Dc x) 0;let c45:=Dp c44 (-1);let c46:=Di c45;let c47:=Ea c45 true (Ed c44 c17);let c48:=Di c47;let c49:=Eb c44 0;let c50:=Ea c47 true (Ea c49 (Dy x c15) false);let c51:=Di c50;let c52:=Du c37 (Dc x) 0;let c53:=Ea c50 true (Di (Ew (Dp c44 0) (Ea (Dy x c15) (Dp c52 0) false)));let c54:=Di c53;let c55:=Ei c44 0;let c56:=Dc c44;let c57:=Ea c53 true (Ea c55 (Dy (Du c16 c56 0) c52) false);let c58:=Ed c44 0;let c59:=Dk (usF c34 c36 x);let c60:=Dx c59;let c61:=x+1;
 Zd c1 f t c28 x->(Dp x c23->0<=x/\x<c23/\(c46->c46->c46)/\(c46->c46->c46)/\(c46->0<=x)/\(c46->x<c23)/\(c46->c46->c46)/\(c46->c46->c46)/\(c46->c46->c46)/\(c46->c46->c46)/\(Dh true c46->c46)/\(c48->c48->c48)/\(c48->c48->c48)/\(c48->0<=x)/\(c48->x<c23)/\(c48->c48->c48)/\(c48->c48->c48)/\(c48->c48->c48)/\(Dh c48 c49->Dh c48 c49->Dh c48 c49)/\(Dh c48 c49->Dh c48 c49->Dh c48 c49)/\(c48->c48->c48)/\(c48->Dh c48 c49->Dh c48 c49)/\(Dh true c48->c48)/\(c51->c51->c51)/\(c51->c51->c51)/\(c51->0<=x)/\(c51->x<c23)/\(c51->c51->c51)/\(c51->c51->c51)/\(c51->c51->c51)/\(c51->c51->c51)/\(c51->c51->c51)/\(Dh c51 (Dy x c15)->1=1)/\(Dh c51 (Dy x c15)->Dh c51 (Dy x c15)->Dh c51 (Dy x c15))/\(Dh c51 (Dy x c15)->1=1)/\(Dh c51 (Dy x c15)->0=0)/\(Dh c51 (Dy x c15)->Dh c51 (Dy x c15)->Dh c51 (Dy x c15))/\(Dh c51 (Dy x c15)->Dh c51 (Dy x c15)->Dh c51 (Dy x c15))/\(Dh c51 (Dy x c15)->0<=c15)/\(Dh c51 (Dy x c15)->c15<Df c12)/\(Dh c51 (Dy x c15)->Dh c51 (Dy x c15)->Dh c51 (Dy x c15))/\(Dh c51 (Dy x c15)->Dh c51 (Dy x c15)->Dh c51 (Dy x c15))/\(Dh c51 (Dy x c15)->Dh c51 (Dy x c15)->Dh c51 (Dy x c15))/\(Dh c51 (Dy x c15)->0<=x)/\(Dh c51 (Dy x c15)->x<Df c37)/\(Dh c51 (Dy x c15)->Dh c51 (Dy x c15)->Dh c51 (Dy x c15))/\(Dh c51 (Dy x c15)->Dh c51 (Dy x c15)->Dh c51 (Dy x c15))/\(c51->c51->c51)/\(c51->Dh c51 (Dy x c15)->Dh c51 (Dy x c15))/\(c51->c51->c51)/\(c51->c51->c51)/\(Dh true c51->c51)/\(c54->c54->c54)/\(c54->c54->c54)/\(c54->0<=x)/\(c54->x<c23)/\(c54->c54->c54)/\(c54->c54->c54)/\(c54->c54->c54)/\(Dh c54 c55->Dh c54 c55->Dh c54 c55)/\(Dh c54 c55->Dh c54 c55->Dh c54 c55)/\(Dh c54 c55->0<=x)/\(Dh c54 c55->x<c23)/\(Dh c54 c55->Dh c54 c55->Dh c54 c55)/\
 (Dh c54 c55->Dh c54 c55->Dh c54 c55)/\(Dh c54 c55->Dh c54 c55->Dh c54 c55)/\(Dh c54 c55->0<=c44)/\(Dh c54 c55->c44<c17)/\(Dh c54 c55->Dh c54 c55->Dh c54 c55)/\(Dh c54 c55->1=1)/\(Dh c54 c55->Dh c54 c55->Dh c54 c55)/\(Dh c54 c55->1=1)/\(Dh c54 c55->0=0)/\(Dh c54 c55->Dh c54 c55->Dh c54 c55)/\(Dh c54 c55->Dh c54 c55->Dh c54 c55)/\(Dh c54 c55->0<=c15)/\(Dh c54 c55->c15<Df c12)/\(Dh c54 c55->Dh c54 c55->Dh c54 c55)/\(Dh c54 c55->Dh c54 c55->Dh c54 c55)/\(Dh c54 c55->Dh c54 c55->Dh c54 c55)/\(Dh c54 c55->0<=x)/\(Dh c54 c55->x<Df c37)/\(Dh c54 c55->Dh c54 c55->Dh c54 c55)/\(Dh c54 c55->Dh c54 c55->Dh c54 c55)/\(Dh c54 c55->Dh c54 c55->Dh c54 c55)/\(c54->c54->c54)/\(c54->Dh c54 c55->Dh c54 c55)/\(Dh true c54->c54)/\(c57->false/\True)/\(c57=false->0<=x/\x<c23/\(c58->0<=x/\x<c23/\c59=c30/\0<=c44/\c44<c60/\c59=c30/\inR .i64 c61/\∃y,Zd c1 f t c28 y/\(c1=c1/\true/\1=1/\0=0/\0=0/\c15=c15/\c29=c29/\c16=c16/\c22=c22/\c30=c30/\c61=y/\c8=c8/\c10=c10/\c12=c12/\c13=c13/\c32=c32/\c33=c33/\En (usF c34 c36 x) c56 true=usF c34 c36 y/\True)/\Dc (c38-y)<Dc (c38-x))/\(c58=false->inR IntKind.i64 c61/\∃y,Zd c1 f t c28 y/\(c1=c1/\true/\1=1/\0=0/\0=0/\c15=c15/\c29=c29/\c16=c16/\c22=c22/\c30=c30/\c61=y/\c8=c8/\c10=c10/\c12=c12/\c13=c13/\c32=c32/\c33=c33/\usF c34 c36 x=usF c34 c36 y/\True)/\Dc (c38-y)<Dc (c38-x))))/\(Dp x c23=false->(∃x_3,NW c1 f t c28 x_3/\c1=c1/\true/\1=1/\0=0/\0=0/\c15=c15/\c29=c29/\c16=c16/\c22=c22/\c30=c30/\0=x_3/\c8=c8/\c10=c10/\c12=c12/\c13=c13/\c32=c32/\c33=c33/\usF c34 c36 x=usF c34 c36 x/\True)/\∀(x_3:Int),let c62:=Di (Du (usF c34 c36 x) (Dc x_3) false);let c63:=Di c62;let c64:=Ei x_3 0;let c65:=Dh c63 c64;
 let c66:=x_3-1;let c67:=Du c16 (Dc x_3) 0;let c68:=Eh c67 (Du c16 (Dc c66) 0);let c69:=Ea c68 true (Ed c67 c39);let c70:=Ea c62 true (Ea c64 (Ea c69 true (Dy (Du ls (Dc c67) c40).2.1 c15)) false);let c71:=x_3+1;
 NW c1 f t c28 x_3->(Dp x_3 c17->c59=c30/\0<=x_3/\x_3<c60/\c59=c30/\(c63->c63->c63)/\(c63->c63->c63)/\(c65->c65->c65)/\(c65->c65->c65)/\(c65->0<=x_3)/\(c65->x_3<c17)/\(c65->c65->c65)/\(c65->c65->c65)/\(c65->inR IntKind.i64 c66)/\(c65->c65->c65)/\(c65->c65->c65)/\(c65->0<=c66)/\(c65->c66<c17)/\(c65->c65->c65)/\(c65->c65->c65)/\(c65->c65->c65)/\(c65->c65->c65)/\(Dh c65 (Di c68)->Dh c65 (Di c68)->Dh c65 (Di c68))/\(Dh c65 (Di c68)->Dh c65 (Di c68)->Dh c65 (Di c68))/\(Dh c65 (Di c68)->0<=x_3)/\(Dh c65 (Di c68)->x_3<c17)/\(Dh c65 (Di c68)->Dh c65 (Di c68)->Dh c65 (Di c68))/\(Dh c65 (Di c68)->Dh c65 (Di c68)->Dh c65 (Di c68))/\(Dh c65 (Di c68)->Dh c65 (Di c68)->Dh c65 (Di c68))/\(Dh c65 (Di c68)->Dh c65 (Di c68)->Dh c65 (Di c68))/\(Dh c65 (Di c68)->Dh c65 (Di c68)->Dh c65 (Di c68))/\(c65->c65->c65)/\(c65->Dh c65 (Di c68)->Dh c65 (Di c68))/\(c65->c65->c65)/\(Dh c65 (Di c69)->Dh c65 (Di c69)->Dh c65 (Di c69))/\(Dh c65 (Di c69)->Dh c65 (Di c69)->Dh c65 (Di c69))/\(Dh c65 (Di c69)->Dh c65 (Di c69)->Dh c65 (Di c69))/\(Dh c65 (Di c69)->0<=x_3)/\(Dh c65 (Di c69)->x_3<c17)/\(Dh c65 (Di c69)->Dh c65 (Di c69)->Dh c65 (Di c69))/\(Dh c65 (Di c69)->Dh c65 (Di c69)->Dh c65 (Di c69))/\(Dh c65 (Di c69)->Dh c65 (Di c69)->Dh c65 (Di c69))/\(Dh c65 (Di c69)->0<=c67)/\(Dh c65 (Di c69)->c67<c39)/\(Dh c65 (Di c69)->Dh c65 (Di c69)->Dh c65 (Di c69))/\(Dh c65 (Di c69)->Dh c65 (Di c69)->Dh c65 (Di c69))/\(Dh c65 (Di c69)->Dh c65 (Di c69)->Dh c65 (Di c69))/\(Dh c65 (Di c69)->Dh c65 (Di c69)->Dh c65 (Di c69))/\(c65->c65->c65)/\(c65->Dh c65 (Di c69)->Dh c65 (Di c69))/\(c63->c63->c63)/\(c63->c65->c65)/\(Dh true c63->c63)/\(c70->false/\True)/\
 (c70=false->inR .i64 c71/\∃y,NW c1 f t c28 y/\(c1=c1/\true/\1=1/\0=0/\0=0/\c15=c15/\c29=c29/\c16=c16/\c22=c22/\c30=c30/\c71=y/\c8=c8/\c10=c10/\c12=c12/\c13=c13/\c32=c32/\c33=c33/\usF c34 c36 x=usF c34 c36 x/\True)/\Dc (c41-y)<Dc (c41-x_3)))/\(Dp x_3 c17=false->0<=c29/\c29<c23/\(c43->true/\True)/\(c43=false->(∃(x_7:Int×Int),NV c1 f t (atF c1 d) x_7.1 x_7.2/\c1=c1/\true/\1=1/\0=0/\0=0/\c15=x_7.1/\c29=c29/\0=x_7.2/\c8=c8/\c10=c10/\c12=c12/\c13=c13/\c32=c32/\c33=c33/\usF c34 c36 x=usF c34 c36 x/\True)/\∀(x_7:Int×Int),let c72:=Dp x_7.2 c4;let c73:=Eb x_7.1 c29;let c74:=ofF c1 c14 x_7.1;let c75:=Df c74;let c76:=Ea true (Eb c75 c4) false;let c77:=Du c74 c42 0;let c78:=Dy c75 c4;let c79:=Di c78;let c80:=Ea c78 true (Dp c77 1);let c81:=Di c80;let c82:=gsF c1 c14 x_7.1;let c83:=Df c82;let c84:=Ea c80 true (Ed c77 c83);let c85:=Di c84;let c86:=Du c82 (Dc c77) 0;let c87:=Ea c84 true (Dp c86 0);let c88:=Di c87;let c89:=Ea c87 true (Ed c86 c39);let c90:=x_7.2+1;
 NV c1 f t (atF c1 d) x_7.1 x_7.2->(c72->1=1/\0=0/\fe c14/\(c73->(true->true->true)/\(true->true->true)/\(true->true->true)/\(true->true->true)/\(true->true->true)/\(Dh true true->true)/\(c76->c76->c76)/\(c76->c76->c76)/\(c76->0<=c29)/\(c76->c29<c75)/\(c76->c76->c76)/\(c76->c76->c76)/\(Dh true c76->c76)/\Ea c76 (Eb c77 0) false/\True)/\(c73=false->(c79->c79->c79)/\(c79->c79->c79)/\(c79->0<=c29)/\(c79->c29<c75)/\(c79->c79->c79)/\(c79->c79->c79)/\(Dh true c79->c79)/\(c81->c81->c81)/\(c81->c81->c81)/\(c81->0<=c29)/\(c81->c29<c75)/\(c81->c81->c81)/\(c81->c81->c81)/\(c81->c81->c81)/\(c81->c81->c81)/\(Dh true c81->c81)/\(c85->c85->c85)/\(c85->c85->c85)/\(c85->0<=c29)/\(c85->c29<c75)/\(c85->c85->c85)/\(c85->c85->c85)/\(c85->c85->c85)/\(c85->0<=c77)/\(c85->c77<c83)/\(c85->c85->c85)/\(c85->c85->c85)/\(Dh true c85->c85)/\(c88->c88->c88)/\(c88->c88->c88)/\(c88->0<=c29)/\(c88->c29<c75)/\(c88->c88->c88)/\(c88->c88->c88)/\(c88->c88->c88)/\(c88->0<=c77)/\(c88->c77<c83)/\(c88->c88->c88)/\(c88->c88->c88)/\(c88->c88->c88)/\(c88->c88->c88)/\(c88->c88->c88)/\(Dh true c88->c88)/\(c89->false/\True)/\(c89=false->0<=c29/\c29<c75/\0<=c77/\c77<c83/\0<=c86/\c86<c39/\inR .i64 c90/\∃(y:Int×Int),NV c1 f t (atF c1 d) y.1 y.2/\(c1=c1/\true/\1=1/\0=0/\0=0/\(Du ls (Dc c86) c40).2.2.1=y.1/\c29=c29/\c90=y.2/\c8=c8/\c10=c10/\c12=c12/\c13=c13/\c32=c32/\c33=c33/\usF c34 c36 x=usF c34 c36 x/\True)/\Dc (c4-y.2)<Dc (c4-x_7.2))))/\(c72=false->(true->true->true)/\(true->true->true)/\(Dh true true->true)/\Ea true c73 false/\True))))))))):
  evF (mkc KL6) (lvA [(14,[5,10,11,12,15,16,17,18,19,20,21,22,23,24]),(21,[5,10,11,12,15,16,17,18,19,21,22,23,24]),(28,[5,10,11,12,15,16,22,23,24])] (glA (cs,ns,os,fs,ls,ks) f t o d)) 3 [net cs ns os fs ls ks,.dat I f,.dat I t,.dat U o,.dat U d] [] ⟨u8P o/\u8P d,.dat .bool true,[]⟩:=oE hvc
theorem pH(g:Li)(m:Nat)(k:Int): (usF g m k).length=m:=by unfold usF;rw[vV,vX]
theorem IB{g:Li}{m j:Nat}{k:Int}(hj:j<m): (usF g m k)[j]?=some ((List.range k.toNat).any λi:Nat=>decide (g.getD i 0=(j:Int))):=by
 unfold usF;rw[qP,vY hj];rfl
theorem WA(g:Li)(m:Nat): List.replicate m false=usF g m 0:=by
 apply yG;intro j;by_cases hj:j<m
 .rw[IB hj,wO,if_pos hj];rfl
 .rw[wH (by rw[wG];omega),wH (by rw[pH];omega)]
theorem UJ{g:Li}{j:Nat}{k:Int}(k0:0<=k): ((List.range (k+1).toNat).any λi:Nat=>decide (g.getD i 0=(j:Int)))=(((List.range k.toNat).any λi:Nat=>decide (g.getD i 0=(j:Int)))||decide (g.getD k.toNat 0=(j:Int))):=by
 rw[show(k+1).toNat=k.toNat+1 by omega,zT,qDi,qCk,List.any_nil,kP]
theorem WB{g:Li}{m:Nat}{k:Int}(k0:0<=k)(h:g.getD k.toNat 0<0): usF g m k=usF g m (k+1):=by
 apply yG;intro j;by_cases hj:j<m
 .rw[IB hj,IB hj,UJ k0,vK (by omega:¬g.getD k.toNat 0=(j:Int)),kP]
 .rw[wH (by rw[pH];omega),wH (by rw[pH];omega)]
theorem gM{g:Li}{m:Nat}{k:Int}(k0:0<=k)(h:0<=g.getD k.toNat 0): (usF g m k).set (g.getD k.toNat 0).toNat true=usF g m (k+1):=by
 apply yG;intro j;by_cases hj:j<m
 .rw[IB hj,UJ k0,yM];by_cases he:(g.getD k.toNat 0).toNat=j
  .rw[if_pos he,if_pos (by rw[pH];omega),vF (by omega:g.getD k.toNat 0=(j:Int)),Bool.or_true]
  .rw[if_neg he,IB hj,vK (by omega:¬g.getD k.toNat 0=(j:Int)),kP]
 .rw[wH (by rw[zX,pH];omega),wH (by rw[pH];omega)]
theorem UK{g:Li}{m:Nat}{k j i:Int}(j0:0<=j)(j1:j<m)(i0:0<=i)(i1:i<k)(h:g.getD i.toNat 0=j): (usF g m k).getD j.toNat false=true:=by
 rw[qA,IB (by omega),qQ,xE]
 exact⟨i.toNat,qX.2 (by omega),vF (by omega)⟩
set_option maxHeartbeats 4000000 in
theorem xS(f t o d:Int)(cs:LC)(ns os:LB)(fs:Lo)(ls:Ll)(ks:Lk): af Tryz.prog G0 3 [net cs ns os fs ls ks,.dat I f,.dat I t,.dat U o,.dat U d] [] ⟨u8P o/\u8P d,.dat .bool true,[]⟩:=by
 refine ae (c:=mkc KL6) aFm aL hm (V9 f t o d cs ns os fs ls ks ⟨rfl,λhp=>?_⟩)
 obtain⟨n,hn⟩:∃n:Net,n=(cs,ns,os,fs,ls,ks):=⟨_,rfl⟩;simp only[<- hn];have eF:fs=n.2.2.2.1:=by rw[hn]
 have eL:ls=n.2.2.2.2.1:=by rw[hn]
 rw[eF,eL];have eA:Fq o n.2.2.2.1.length=atF n o:=rfl;have eB:Fq d n.2.2.2.1.length=atF n d:=rfl;have eP:((cO n f t).1,(cO n f t).2.1,(cO n f t).2.2.1,(cO n f t).2.2.2)=cO n f t:=rfl;simp only[qc,Dh,Es,Di,qd,Dt,Eb,Dy,Dp,Ei,Eh,Ed,Ew,Df,Et,Dl,Dn,Eo,Dz,Dw,Dj,Dq,Ee,Fe,Dc,Dx,Dk,Ec,Em,Du,Eu,Ez,En,Ef,Fg,Fj,Fh,Ep,Ej,Ey,Fb,eA,eB,eP];intro⟨_,hne⟩ hc;obtain⟨⟨l0,l1⟩,m0,m1⟩:=hp;obtain⟨hr,hs,ht,_⟩:=B0 hc
 obtain⟨hu,hnx,hform,hfit⟩:=Uc hc;obtain⟨q1,_⟩:=lu n.1 n.2.1 n.2.2.1 n.2.2.2.1 n.2.2.2.2.1 n.2.2.2.2.2 hs;have q1:(n.2.2.2.1.length:Int)<=12:=q1;have a0:0<=atF n o:=Int.tmod_nonneg _ l0;have a1:atF n o<n.2.2.2.1.length:=Int.tmod_lt_of_pos _ (by omega)
 have b0:0<=atF n d:=Int.tmod_nonneg _ m0;have b1:atF n d<n.2.2.2.1.length:=Int.tmod_lt_of_pos _ (by omega)
 have hgrp:∀o:Int,0<=o->o<n.2.2.2.1.length->aBO n (cO n f t) o:=λo o0 o1=>aA2 n.1 n.2.1 n.2.2.1 n.2.2.2.1 n.2.2.2.2.1 n.2.2.2.2.2 hs hform o0 o1
 have hcell:∀o d:Int,0<=o->o<n.2.2.2.1.length->0<=d->d<n.2.2.2.1.length->((cO n f t).2.2.1.length:Int)=n.2.2.2.1.length/\(((cO n f t).2.2.1.getD o.toNat []).length:Int)=n.2.2.2.1.length/\(nxt (cO n f t).2.2.1 o d≠-1->(0<=nxt (cO n f t).2.2.1 o d/\nxt (cO n f t).2.2.1 o d<n.2.2.2.2.1.length)/\cN n (nxt (cO n f t).2.2.1 o d)=o):=λo d o0 o1 d0 d1=>fV n.1 n.2.1 n.2.2.1 n.2.2.2.1 n.2.2.2.2.1 n.2.2.2.2.2 ht o0 o1 d0 d1
 have g:=hgrp _ a0 a1;obtain⟨c1,c2,_⟩:=hcell _ _ a0 a1 b0 b1;have iT:∀k,Zd n f t (atF n o) k↔Ze n f t (atF n o)/\0<=k/\k<=(ofF n (cO n f t) (atF n o)).length:=λ_=>Iff.rfl
 have iT2:∀k,NW n f t (atF n o) k↔Ze n f t (atF n o)/\0<=k/\k<=(gsF n (cO n f t) (atF n o)).length:=λ_=>Iff.rfl
 have hok:Ze n f t (atF n o):=⟨hc,a0,a1⟩;have hnxt:∀x:Int,((cO n f t).2.2.1.getD (atF n o).toNat []).getD x.toNat 0=nxt (cO n f t).2.2.1 (atF n o) x:=λ_=>rfl
 have eD1:gvD n f t (atF n o)=ofF n (cO n f t) (atF n o):=rfl;have eO1:gvO n f t (atF n o)=gsF n (cO n f t) (atF n o):=rfl;have gl:1<=(gsF n (cO n f t) (atF n o)).length:=by rw[g.gs];simp
 have g0:(gsF n (cO n f t) (atF n o)).getD (Int.toNat 0) 0=-1:=by rw[g.gs];rfl
 have gsm:=g.small;have glen:=g.len;have gself:(ofF n (cO n f t) (atF n o)).getD (atF n o).toNat 0=0:=(g.at_ _ a0 a1).trans g.self;simp only[iT,iT2,hnxt,eD1,eO1]
 have hv:∀x:Int,0<=x->x<n.2.2.2.1.length->-1<=(ofF n (cO n f t) (atF n o)).getD x.toNat 0/\(ofF n (cO n f t) (atF n o)).getD x.toNat 0<(gsF n (cO n f t) (atF n o)).length/\((ofF n (cO n f t) (atF n o)).getD x.toNat 0=0->x=atF n o)/\(x=atF n o->(ofF n (cO n f t) (atF n o)).getD x.toNat 0=0)/\(x≠atF n o->((ofF n (cO n f t) (atF n o)).getD x.toNat 0<0↔nxt (cO n f t).2.2.1 (atF n o) x<0))/\((ofF n (cO n f t) (atF n o)).getD x.toNat 0>0->(gsF n (cO n f t) (atF n o)).getD ((ofF n (cO n f t) (atF n o)).getD x.toNat 0).toNat 0=nxt (cO n f t).2.2.1 (atF n o) x):=λx x0 x1=>by
  rw[g.at_ x x0 x1];by_cases he:x=atF n o
  .rw[he,g.self];exact⟨by omega,by omega,λ_=>rfl,λ_=>rfl,λh=>absurd rfl h,λh=>by omega⟩
  .by_cases hn:nxt (cO n f t).2.2.1 (atF n o) x=-1
   .rw[g.none_ x x0 x1 he hn,hn];exact⟨by omega,by omega,λh=>by omega,λh=>absurd h he,λ_=>⟨λ_=>by omega,λ_=>by omega⟩,λh=>by omega⟩
   .obtain⟨k1,k2,k3,k4,_⟩:=g.some_ x x0 x1 he hn;exact⟨by omega,k2,λh=>by omega,λh=>absurd h he,λ_=>⟨λ_=>by omega,λ_=>by omega⟩,λ_=>k3⟩
 refine⟨aM (by omega),by omega,aM (by omega),by omega,hfit,λ_=>by omega,λ_=>by omega,λ_=>a0,λ_=>by omega,λh=>?_,λ_=>⟨by omega,by omega,by omega,⟨0,⟨hok,by omega,by omega⟩,rfl,WA _ _⟩,λx ⟨_,x0,x1⟩=>⟨λhx=>?_,λhx=>?_⟩⟩⟩
 .rcases h with((h | h) | h) | h
  .omega
  .exact absurd g0 h
  .omega
  .exact absurd gself h
 .obtain⟨v1,v2,v3,v4,v5,v6⟩:=hv x x0 (by omega)
  have hb:atF n o<(cO n f t).2.2.1.length:=by omega
  generalize hV:(ofF n (cO n f t) (atF n o)).getD x.toNat 0=v at *;have hsz:=pH (ofF n (cO n f t) (atF n o)) (gsF n (cO n f t) (atF n o)).length x
  and_intros
  all_goals try (intros;omega)
  .intro h;exfalso;rcases h with((h | h) | h) | h
   .omega
   .omega
   .apply h;rw[qBi,qC,qE,qE,qCb];exact⟨λh=>⟨λe=>by have:=v4 e;omega,(v5 (λe=>by have:=v4 e;omega)).1 h⟩,λh=>(v5 h.1).2 h.2⟩
   .exact h.2 (v6 h.1)
  .intro _;refine⟨x0,by omega,λh=>⟨x0,by omega,hsz,h,by rw[hsz];exact v2,hsz,aM (by omega),x+1,⟨hok,by omega,by omega⟩,⟨rfl,?_⟩,by omega⟩,λh=>⟨aM (by omega),x+1,⟨hok,by omega,by omega⟩,⟨rfl,?_⟩,by omega⟩⟩
   .rw[<- hV]at h ⊢;exact gM x0 h
   .rw[<- hV]at h;exact WB x0 (by omega)
 .refine⟨⟨hok,by omega,by omega⟩,λy ⟨_,y0,y1⟩=>⟨λhy=>?_,λhy=>?_⟩⟩
  .have hsz:=pH (ofF n (cO n f t) (atF n o)) (gsF n (cO n f t) (atF n o)).length x;have hall:(usF (ofF n (cO n f t) (atF n o)) (gsF n (cO n f t) (atF n o)).length x).getD y.toNat false=true:=by
    by_cases h:y=0
    .exact UK y0 hy a0 (by omega) (gself.trans h.symm)
    .obtain⟨_,_,_,_,i,i0,i1,hi⟩:=g.lines y (by omega) hy
     exact UK y0 hy i0 (by omega) ((g.at_ i i0 i1).trans hi)
   have hline:=λh:1<=y=>g.lines y h hy
   have hfr:((n.2.2.2.2.1.getD ((gsF n (cO n f t) (atF n o)).getD y.toNat 0).toNat (ByteArray.mk #[],0,0,0,0,0)).2.1)=cN n ((gsF n (cO n f t) (atF n o)).getD y.toNat 0):=rfl;simp only[hall,hsz];generalize (gsF n (cO n f t) (atF n o)).getD (y-1).toNat 0=w at *;generalize (gsF n (cO n f t) (atF n o)).getD y.toNat 0=v at *;have hin:inR .i64 (y-1):=aM (by omega)
   and_intros
   all_goals try (intros;first | trivial | omega | assumption)
   .intro h;exfalso;rcases h with h | ⟨h,h2⟩
    .cases h
    .obtain⟨k1,k2,k3,k4,_⟩:=hline (by omega)
     rcases h2 with(h2 | h2) | h2
     .omega
     .omega
     .exact h2 k3
   .exact λ_=>⟨aM (by omega),y+1,⟨hok,by omega,by omega⟩,rfl,by omega⟩
  .have hBo:=(Cc n.1 n.2.1 n.2.2.1 n.2.2.2.1 n.2.2.2.2.1 n.2.2.2.2.2 (zc n.1 n.2.1 n.2.2.1 n.2.2.2.1 n.2.2.2.2.1 n.2.2.2.2.2 hu)).1;refine⟨b0,by omega,λh=>⟨⟨(atF n o,0),⟨hok,b0,b1,qL _,?_,vC _⟩,rfl,rfl⟩,λ⟨u,s⟩=>?_⟩⟩
   .obtain⟨v1,v2,v3,v4,v5,v6⟩:=hv _ b0 b1;by_cases he:atF n d=atF n o
    .rw[he];exact Int.le_of_eq (hBo.same _ a0 a1).symm
    .refine Int.not_lt.1 λhneg=>h ((v5 he).2 ?_)
     have:nxt (cO n f t).2.2.1 (atF n o) (atF n d)=-1:=by rw[hnx];exact Nh n.1 n.2.1 n.2.2.1 n.2.2.2.1 n.2.2.2.2.1 n.2.2.2.2.2 a0 a1 b0 b1 (.inr hneg)
     omega
   .simp only;rintro⟨⟨_,u0,u1⟩,_,_,s0,sB,sc⟩;have g':=hgrp u u0 u1;have gl':=g'.len;have gd:=g'.at_ _ b0 b1;have hcn:=cnt_lt n.1 n.2.1 n.2.2.1 n.2.2.2.1 n.2.2.2.2.1 n.2.2.2.2.2 (a:=1440*f) (b:=1440*t) (d:=atF n d) u0 u1;have hcn:cnt n (1440*f) (1440*t) u (atF n d)+1<=n.2.2.2.1.length:=hcn;refine⟨λhlt=>⟨hfit,λhe=>?_,λhne=>?_⟩,λhge=>?_⟩
    .rw[he]at gd gl' ⊢;have:=(hgrp _ b0 b1).self;rw[this]at gd;exact⟨λ_=>b0,λ_=>by omega,gl',gd⟩
    .obtain⟨k,k1,k2,k3,k4,_,k5,k6,k7⟩:=OO n.1 n.2.1 n.2.2.1 n.2.2.2.1 n.2.2.2.2.1 n.2.2.2.2.2 hu u0 u1 b0 b1 hne sB;have k1:nxt (cO n f t).2.2.1 u (atF n d)=k:=by rw[hnx];exact k1
     obtain⟨r1,r2,r3,_⟩:=g'.some_ _ b0 b1 (λh=>hne h.symm) (by rw[k1];omega)
     obtain⟨_,_,t0,t1,_⟩:=fO n.1 n.2.1 n.2.2.1 n.2.2.2.1 n.2.2.2.2.1 n.2.2.2.2.2 hs k2 k3;have hto:(n.2.2.2.2.1.getD k.toNat (ByteArray.mk #[],0,0,0,0,0)).2.2.1=(aG n k).2.2.1:=rfl;rw[k1]at r3;rw[<- gd]at r1 r2 r3;generalize (ofF n (cO n f t) u).getD (atF n d).toNat 0=v at *;rw[r3,hto]
     have hnx2:=Ub n.1 n.2.1 n.2.2.1 n.2.2.2.1 n.2.2.2.2.1 n.2.2.2.2.2 (a:=1440*f) (b:=1440*t) (o:=u) (o':=(aG n k).2.2.1) (d:=atF n d) u0 u1 (by
      show bB n (1440*f) (1440*t) (aG n k).2.2.1 (atF n d)<bB n (1440*f) (1440*t) u (atF n d);have k5:0<(bm n (1440*f) (1440*t)).getD k.toNat 0:=k5;have k7:bB n (1440*f) (1440*t) u (atF n d)=(bm n (1440*f) (1440*t)).getD k.toNat 0+bB n (1440*f) (1440*t) (aG n k).2.2.1 (atF n d):=k7;omega)
     have hnx2:cnt n (1440*f) (1440*t) u (atF n d)+1<=cnt n (1440*f) (1440*t) (aG n k).2.2.1 (atF n d):=hnx2
     have hlast:inR .i64 (s+1)/\∃y:Int×Int,NV n f t (atF n d) y.1 y.2/\((aG n k).2.2.1=y.1/\s+1=y.2)/\((n.2.2.2.1.length:Int)-y.2).toNat<((n.2.2.2.1.length:Int)-s).toNat:=⟨aM (by omega),((aG n k).2.2.1,s+1),⟨⟨hc,t0,t1⟩,b0,b1,by show 0<=s+1;omega,k6,by show s+1<=((cnt n (1440*f) (1440*t) (aG n k).2.2.1 (atF n d):Nat):Int);omega⟩,⟨rfl,rfl⟩,by show((n.2.2.2.1.length:Int)-(s+1)).toNat<_;omega⟩
     and_intros
     all_goals try (intros;first | trivial | omega | exact hlast.1 | exact hlast.2)
     exact λ_=>⟨b0,by omega,by omega,r2,k2,k3,hlast.1,hlast.2⟩
    .exfalso;omega
end Go.Eng.Sv
namespace Go.Eng
open Go.RowKit Go.ChangeShapes
theorem x4{H:Type}{enc:TypeId×Value->H}{P:Program}{f:Func}{s:ChangeSpec}{apart fresh handsOn again:Bool}{W W':World}{args:Array Value}{v:Value}{ds gs:List (DataW H)}{before pa pv:List MemPlace}
  (hW:DataW.Whole enc P f.params.toList s.vars apart W args.toList ds gs before) (hb:Below W.heap.size W W')
  (hres:∀(b:Nat) (sp:Nat->Bool) (hd:Bool),DataW.TrodAll enc P W' b sp hd f.resultTypes.toList (v.resultList f.resultTypes.size) (s.fn H (ds++gs)).results [])
  (hargs:∀sp:Nat->Bool,(∀p∈before,sp p.block=true)->DataW.TrodAll enc P W' 0 sp true f.params.toList args.toList (s.fn H (ds++gs)).args pa)
  (hvars:∀sp:Nat->Bool,(∀p∈before,sp p.block=true)->DataW.TrodVars enc P W' sp s.vars (s.fn H (ds++gs)).vars pv)
  (hps:before=pa++pv)
  (hok:∀(j:Nat) (t:TypeId) (r:Value),f.resultTypes[j]?=some t->(v.resultList f.resultTypes.size)[j]?=some r->Value.okWide P W' .any 0 t r):
  s.post enc P f apart fresh handsOn again W args v W':=by
 have hlt:∀p∈before,p.block<W.heap.size:=λp hp=>hW.lt p hp
 have hold:∀p∈before,(λb=>decide (b<W.heap.size)) p.block=true:=λp hp=>by simpa using hlt p hp
 refine⟨ds,gs,before,[],pa,pv,hW,hres _ _ _,hargs _ hold,hvars _ hold,hb.frame _,λ_=>?_⟩
 obtain⟨_,_,_,_,_,hz,hn⟩:=hW;refine⟨hok,_,_,([]++pa)++pv,⟨[]++pa,pv,trodAll_append (hargs _ (λ_ _=>rfl)) (hres _ _ _),hvars _ (λ_ _=>rfl),rfl,?_,?_⟩,?_⟩
 .intro b off hp;have hp':MemPlace.cell b off∈before:=by rw[hps];simpa using hp
  rw[hb.frozen (hlt _ hp')];exact hz b off hp'
 .intro ha;have:=hn ha;rw[hps]at this;simpa using this
 .intro p hp _;rw[hps];simpa using hp
end Go.Eng
namespace Go.Eng
open Go.RowKit Go.ChangeShapes
def okT: (t:Ty)->t.den->Prop
 | .int k,x=>inR k x
 | .bool,_=>True
 | .str,s=>s.size<=9223372036854775807
 | .sl e,xs=>List.length xs<=9223372036854775807/\∀x∈(xs:List e.den),okT e x
 | .pair a b,x=>okT a x.1/\okT b x.2
def jB: (t:Ty)->t.den->Nat
 | .int _,_=>1
 | .bool,_=>1
 | .str,s=>s.size+1
 | .sl e,xs=>((xs:List e.den).map λx=>jB e x).sum+1
 | .pair a b,x=>jB a x.1+jB b x.2
mutual
def pz{H:Type}: DataW H->Nat
 | .lit (.string bytes)=>bytes.length+1
 | .slice elems _=>km elems+1
 | .agg parts=>km parts+1
 | _=>1
def km{H:Type}: List (DataW H)->Nat
 | []=>0
 | d::r=>pz d+km r
end
theorem A6{H:Type}(d:DataW H): 1<=pz d:=by
 cases d with
 | lit l=>cases l<;>simp[pz]
 | _=>simp[pz]
def IQ: (a c:Ty)->a.den->c.den->(li a c).den
 | .pair _ b,c,x,y=>(x.1,IQ b c x.2 y)
 | .int _,_,x,y=>(x,y)
 | .bool,_,x,y=>(x,y)
 | .str,_,x,y=>(x,y)
 | .sl _,_,x,y=>(x,y)
theorem AI: ∀(a c:Ty),(li a c).sz=a.sz+c.sz
 | .pair a b,c=>by simp only[li,Ty.sz,AI b c];omega
 | .int _,_ | .bool,_ | .str,_ | .sl _,_=>by simp[li,Ty.sz]
theorem AH{w:World}{D:Nat->Prop}: ∀{a c:Ty} {x:a.den} {y:c.den} {us vs:Lv},ah w D a x us->ah w D c y vs->ah w D (li a c) (IQ a c x y) (us++vs)
 | .pair a b,c,x,y,us,vs,h1,h2=>by
  obtain⟨u1,u2,e,g1,g2⟩:=h1;subst e;exact⟨u1,u2++vs,by simp,g1,AH g2 h2⟩
 | .int _,_,_,_,us,vs,h1,h2=>⟨us,vs,rfl,h1,h2⟩
 | .bool,_,_,_,us,vs,h1,h2=>⟨us,vs,rfl,h1,h2⟩
 | .str,_,_,_,us,vs,h1,h2=>⟨us,vs,rfl,h1,h2⟩
 | .sl _,_,_,_,us,vs,h1,h2=>⟨us,vs,rfl,h1,h2⟩
theorem GY: ∀{a c:Ty} {x:a.den} {y:c.den},okT a x->okT c y->okT (li a c) (IQ a c x y)
 | .pair _ _,_,_,_,h1,h2=>⟨h1.1,GY h1.2 h2⟩
 | .int _,_,_,_,h1,h2=>⟨h1,h2⟩
 | .bool,_,_,_,h1,h2=>⟨h1,h2⟩
 | .str,_,_,_,h1,h2=>⟨h1,h2⟩
 | .sl _,_,_,_,h1,h2=>⟨h1,h2⟩
theorem vb: ∀{a c:Ty} {x:a.den} {y:c.den},jB (li a c) (IQ a c x y)=jB a x+jB c y
 | .pair a b,c,x,y=>by
  show jB a x.1+jB (li b c) (IQ b c x.2 y)=jB a x.1+jB b x.2+jB c y;rw[vb];omega
 | .int _,_,_,_=>rfl
 | .bool,_,_,_=>rfl
 | .str,_,_,_=>rfl
 | .sl _,_,_,_=>rfl
def fieldsB(P:Program)(T:TypeId->Option Ty): Nat->List Field->Option Ty
 | _,[]=>none
 | off,f::r=>if f.offset=off then match T f.type with
  | some a=>if P.cellsOf f.type=a.sz then match r with
   | []=>some a
   | g::r'=>match fieldsB P T (off+a.sz) (g::r')with
    | some c=>some (li a c)
    | none=>none
   else none
  | none=>none
  else none
def tyB(P:Program): Nat->TypeId->Option Ty
 | 0,_=>none
 | n+1,t=>match P.underlying t with
  | some (.int k)=>some (.int k)
  | some .bool=>some .bool
  | some .string=>some .str
  | some (.slice e)=>match tyB P n e with
   | some ty=>if P.cellsOf e=ty.sz then some (.sl ty)else none
   | none=>none
  | some (.struct fs)=>match fieldsB P (tyB P n) 0 fs.toList with
   | some ty=>if P.cellsOf t=ty.sz then some ty else none
   | none=>none
  | _=>none
abbrev M5(w:World): Nat->Prop:=λb=>b<w.heap.size
theorem aA0{k:IntKind}{n:Int}(h:(Lit.int k n).wf=true): inR k n:=by
 simp only[Lit.wf,qC,qE]at h;cases k<;>simpa[IntKind.min,IntKind.max,IntKind.signed,IntKind.bits,inR]using h
section
variable {H:Type} {enc:TypeId×Value->H} {P:Program} {w:World}
def Opened(w:World)(ty:Ty)(cs:Lv)(n:Nat): Prop:=∃d:ty.den,ah w (M5 w) ty d cs/\okT ty d/\jB ty d<=n
theorem sD{T:TypeId->Option Ty}{n:Nat}{cs:Lv}
  (hT:∀t ty,T t=some ty->∀cs x,DataW.trod enc P w 0 (λ_=>true) true n t cs=some x->Opened w ty cs (pz x.1)):
  ∀(fs:List Field) (off:Nat) (ty:Ty) (xs:List (DataW H×List MemPlace)),fieldsB P T off fs=some ty->xs.length=fs.length->
   (∀(i:Nat) (f:Field),fs[i]?=some f->DataW.trod enc P w 0 (λ_=>true) true n f.type ((cs.drop f.offset).take (P.cellsOf f.type))=xs[i]?)->
   cs.length=off+ty.sz->Opened w ty (cs.drop off) (km (xs.map (·.1)))
 | [],_,_,_,h,_,_,_=>by simp[fieldsB]at h
 | f::r,off,ty,xs,h,hl,hf,hc=>by
  rw[fieldsB.eq_2]at h;split at h
  case isFalse=>cases h
  rename_i hoff;split at h
  case h_2=>cases h
  rename_i a ha;split at h
  case isFalse=>cases h
  rename_i hsz
  match xs,hl with
  | y::ys,hl=>
   have h0:=hf 0 f rfl;simp only[qAi]at h0;rw[hoff,hsz]at h0;obtain⟨d,d1,d2,d3⟩:=hT _ _ ha _ _ h0;split at h
   .cases h;refine⟨d,?_,d2,?_⟩
    .rw[qO (by rw[vZ];omega)]at d1
     exact d1
    .simp only[zG,km];omega
   .rename_i g r' _;split at h
    case h_2=>cases h
    rename_i c hc';cases h;rw[AI]at hc;obtain⟨e,e1,e2,e3⟩:=sD hT (g::r') (off+a.sz) c ys hc' (by simpa using hl) (λi f' hi=>by simpa using hf (i+1) f' (by simpa using hi)) (by omega)
    refine⟨IQ a c d e,?_,GY d2 e2,?_⟩
    .have:=AH d1 e1
     rwa [<- yH,yZ]at this
    .rw[vb];simp only[zG,km];omega
theorem B9{e:Ty}(f:Nat->e.den)(D:Nat->DataW H): ∀l:List Nat,(∀i∈l,jB e (f i)<=pz (D i))->((l.map f).map λx=>jB e x).sum<=km (l.map D)
 | [],_=>by simp[km]
 | i::l,h=>by
  have h0:=h i (by simp)
  have h1:=B9 f D l (λj hj=>h j (by simp[hj]))
  simp only[zG,List.sum_cons,km];omega
theorem sE: ∀(n:Nat) {t:TypeId} {ty:Ty},tyB P n t=some ty->∀(fuel:Nat) (cs:Lv) (x:DataW H×List MemPlace),
  DataW.trod enc P w 0 (λ_=>true) true fuel t cs=some x->Opened w ty cs (pz x.1)
 | 0,_,_,h,_,_,_,_=>by simp[tyB]at h
 | n+1,t,ty,h,fuel,cs,x,hx=>by
  simp only[tyB]at h;split at h
  .rename_i k hu;cases h;obtain⟨m,rfl,rfl,hw⟩:=DataW.trod_int hu hx;exact⟨m,rfl,aA0 hw,A6 _⟩
  .rename_i hu;cases h;obtain⟨b,rfl,rfl⟩:=DataW.trod_bool hu hx;exact⟨b,rfl,trivial,A6 _⟩
  .rename_i hu;cases h;obtain⟨s,rfl,rfl,hs⟩:=DataW.trod_string hu hx;refine⟨s,rfl,by simpa[okT,maxLen]using hs,?_⟩
   simp only[jB,pz];have:s.data.toList.length=s.size:=by rw[vH];rfl
   omega
  .rename_i e hu;split at h
   case h_2=>cases h
   rename_i ety he;split at h
   case isFalse=>cases h
   rename_i hsz;cases h;rcases Deep.open_slice hu hx with⟨rfl,rfl⟩ | ⟨a,len,cap,m,n',Dd,Pl,rfl,hb,hl,hm,hmm,rfl,hel⟩
   .exact⟨[],bg _ _ _,⟨wW _,λx hx=>by cases hx⟩,by simp[jB,pz]⟩
   .have hlm:len<=m:=by rw[hmm];simpa using hl
    haveI:Inhabited ety.den:=⟨ety.dflt⟩
    obtain⟨f,hf⟩:=Deep.choose_lt (α:=ety.den) (n:=len) (p:=λi d=>∃cs',w.cells? 0 (a.add (i*ety.sz)) ety.sz=some cs'/\ah w (M5 w) ety d cs'/\okT ety d/\jB ety d<=pz (Dd i)) (λi hi=>by
     obtain⟨cs',h1,h2⟩:=hel i (by omega)
     rw[hsz]at h1;obtain⟨d,d1,d2,d3⟩:=sE n he _ _ _ h2;exact⟨d,cs',h1,d1,d2,d3⟩)
    have hp:=Ty.sz_pos ety;have spot:0<len->a.spot=none/\a.block<w.heap.size:=λh0=>by
     obtain⟨cs',h1,d1,_⟩:=hf 0 h0;obtain⟨_,hcl,hcc⟩:=World.cells?_some h1;have:=hcc 0 hp;have hlt:0<cs'.length:=by omega
     rw[qB hlt]at this;simp only[yR]at this;have e0:(a.add 0).add 0=a:=by simp[Addr.add]
     rw[e0]at this;unfold World.cell? at this;split at this
     .rename_i c t' fr hc;refine⟨?_,(vJ.1 hc).1⟩;split at this
      .cases this
      .rename_i hs;cases hsp:a.spot with
       | none=>rfl
       | some _=>rw[hsp]at hs;simp at hs
     .cases this
    have hlen:List.length ((List.range len).map f)=len:=by simp
    refine⟨(List.range len).map f,⟨some a,cap,by rw[hlen],by rw[hlen];exact hl,(λh=>by cases h),λa' ha' hpos=>?_,λi y hy=>?_⟩,⟨?_,λy hy=>?_⟩,?_⟩
    .cases ha';rw[hlen]at hpos;exact(spot hpos).1
    .have hi:i<len:=by
      have:=(qF.1 hy).1
      rwa [hlen]at this
     have ey:y=f i:=by
      rw[qP,vY hi]at hy;exact(wV hy).symm
     subst ey;obtain⟨cs',h1,d1,_⟩:=hf i hi;obtain⟨hsp,hbk⟩:=spot (by omega)
     refine⟨a,cs',rfl,hbk,λj u hj=>?_,d1⟩
     obtain⟨_,hcl,hcc⟩:=World.cells?_some h1;have hjl:=(qF.1 hj).1;have:=hcc j (by omega)
     rw[hj,Deep.add_add]at this;have e1:a.add (i*ety.sz+j)=⟨a.block,a.off+i*ety.sz+j,none⟩:=by
      cases a with | mk b o s=>simp only at hsp;subst hsp;rw[yO,gB]
     rw[e1]at this;exact this
    .rw[hlen];unfold maxLen at hm;omega
    .obtain⟨i,hi,rfl⟩:=zA.1 hy;obtain⟨_,_,_,h2,_⟩:=hf i (qX.1 hi);exact h2
    .have:=B9 f Dd (List.range len) (λi hi=>by
      obtain⟨_,_,_,_,h3⟩:=hf i (qX.1 hi);exact h3)
     simp only[jB,pz];omega
  .rename_i fs hu;split at h
   case h_2=>cases h
   rename_i ty' hfs;split at h
   case isFalse=>cases h
   rename_i hsz;cases h;obtain⟨xs,m,_,rfl,hcl,hxl,hf⟩:=DataW.trod_struct hu hx;obtain⟨d,d1,d2,d3⟩:=sD (cs:=cs) (n:=m) (T:=tyB P n) (λt' ty' ht' cs' x' hx'=>sE n ht' _ _ _ hx') fs.toList 0 ty xs hfs (by simpa using hxl)
    (λi f' hi=>hf i f' (by simpa using hi)) (by omega)
   refine⟨d,by simpa using d1,d2,?_⟩
   simp only[pz];omega
  .cases h
abbrev TT:=Bool×Ty
def VF: List TT->Type
 | []=>PUnit
 | p::r=>p.2.den×VF r
def aBu(p:TT)(x:p.2.den): AV:=match p.1 with
 | true=>.agg (cellsOf p.2 x)
 | false=>.dat p.2 x
def avs: (l:List TT)->VF l->List AV
 | [],_=>[]
 | p::r,x=>aBu p x.1::avs r x.2
def okL: (l:List TT)->VF l->Prop
 | [],_=>True
 | p::r,x=>okT p.2 x.1/\okL r x.2
def Ul: (l:List TT)->VF l->Nat
 | [],_=>0
 | p::r,x=>jB p.2 x.1+Ul r x.2
def ttB(P:Program)(t:TypeId)(p:TT): Bool:=decide (tyB P 12 t=some p.2)&&(match P.underlying t with
 | some (.struct _)=>p.1
 | some (.int _) | some .bool | some .string | some (.slice _)=>!p.1
 | _=>false)
def O8(P:Program): List TypeId->List TT->Bool
 | [],[]=>true
 | t::ts,p::ps=>ttB P t p&&O8 P ts ps
 | _,_=>false
theorem open_arg{t:TypeId}{p:TT}{base:Nat}{v:Value}{d:DataW H}{ps:List MemPlace}(ht:ttB P t p=true)(hv:Value.okWide P w .any base t v)
  (h:DataW.Trod enc P w 0 (λ_=>true) true t v d ps):∃x:p.2.den,(aBu p x).rel P ⟨w,M5 w,noM,noE⟩ v/\okT p.2 x/\jB p.2 x<=pz d:=by
 unfold ttB at ht;simp only[qC,qE]at ht;obtain⟨hty,hk⟩:=ht;obtain⟨fuel,hf⟩:=h;obtain⟨x,x1,x2,x3⟩:=sE 12 hty _ _ _ hf;refine⟨x,?_,x2,x3⟩;have plain:(∀cs,v≠.agg cs)->p.1=false->(aBu p x).rel P ⟨w,M5 w,noM,noE⟩ v:=λhn h0=>by
  have e:v.cells.toList=[v]:=by cases v<;>first | rfl | exact(hn _ rfl).elim
  rw[e]at x1;unfold aBu;rw[h0];exact x1
 split at hk
 .rename_i fs hu;have:∃cs,v=.agg cs:=by
   unfold Value.okWide at hv;rw[hu]at hv;obtain⟨cs,e,_⟩:=hv;exact⟨cs,e⟩
  obtain⟨cs,rfl⟩:=this;unfold aBu;rw[hk];refine⟨cs.toList,rfl,bW (C:=⟨w,M5 w,noM,noE⟩) ?_⟩;exact x1
 all_goals first
  | cases hk
  | (rename_i hu
     refine plain (λcs e=>?_) (by simpa using hk)
     subst e;simp[Value.okWide,hu,Cell.okWide,Cell.ok]at hv)
theorem A2: ∀{ts:List TypeId} {l:List TT} {vs:Lv} {ds:List (DataW H)} {ps:List MemPlace} {base:Nat},O8 P ts l=true->
  (∀(j:Nat) t v,ts[j]?=some t->vs[j]?=some v->Value.okWide P w .any base t v)->DataW.TrodAll enc P w 0 (λ_=>true) true ts vs ds ps->
  ∃x:VF l,AV.relL P ⟨w,M5 w,noM,noE⟩ (avs l x) vs/\okL l x/\Ul l x<=km ds
 | [],[],vs,ds,ps,base,_,_,h=>by
  obtain⟨rfl,rfl,rfl⟩:=trodAll_nil h;exact⟨PUnit.unit,rfl,trivial,wW _⟩
 | t::ts,p::l,vs,ds,ps,base,ht,hv,h=>by
  obtain⟨v,vs',d,ds',p1,q,rfl,rfl,rfl,h1,h2⟩:=trodAll_cons h;simp only[O8,qC]at ht;obtain⟨x,x1,x2,x3⟩:=open_arg ht.1 (hv 0 t v rfl rfl) h1;obtain⟨y,y1,y2,y3⟩:=A2 ht.2 (λj t' v' hj hj'=>hv (j+1) t' v' (by simpa using hj) (by simpa using hj')) h2
  exact⟨(x,y),⟨v,vs',rfl,x1,y1⟩,⟨x2,y2⟩,by simp only[Ul,km];omega⟩
 | [],_::_,_,_,_,_,ht,_,_=>by simp[O8]at ht
 | _::_,[],_,_,_,_,ht,_,_=>by simp[O8]at ht
theorem BB{W W':World}(hl:laidOutB P=true)(hb:Below W.heap.size W W'): ∀{ts:List TypeId} {vs:Lv} {ds:List (DataW H)} {ps:List MemPlace},
  (ts.all λt=>P.readableRec t&&decide (t<P.types.size))=true->DataW.TrodAll enc P W 0 (λ_=>true) true ts vs ds ps->(∀x∈ps,x.block<W.heap.size)->
  ∀sp:Nat->Bool,(∀x∈ps,sp x.block=true)->DataW.TrodAll enc P W' 0 sp true ts vs ds ps
 | [],vs,ds,ps,_,h,_,sp,_=>by
  obtain⟨rfl,rfl,rfl⟩:=trodAll_nil h;exact trodAll_mk0
 | t::ts,vs,ds,ps,ht,h,hlt,sp,hsp=>by
  obtain⟨v,vs',d,ds',p1,q,rfl,rfl,rfl,h1,h2⟩:=trodAll_cons h;simp only[qAk,qC,qE]at ht;have g1:=WideElems.Trod_stays (enc:=enc) (sp':=sp) hl ht.1.1 ht.1.2 h1 (λx hx=>hb.same (hlt x (qH.2 (.inl hx)))) (λx hx=>hsp x (qH.2 (.inl hx)))
  exact⟨p1,q,g1,BB hl hb (by simpa using ht.2) h2 (λx hx=>hlt x (qH.2 (.inr hx))) sp (λx hx=>hsp x (qH.2 (.inr hx))),rfl⟩
theorem law_contractG{G:List (Nat×AV)}{f:FuncId}{fn:Func}{s:ChangeSpec}{apart fresh handsOn again:Bool}{l:List TT}{X:VF l->Prop}{rt:TypeId}(hf:∀x:VF l,X x->af P G f (avs l x) [] ⟨True,.dat .bool true,[]⟩)
  (htt:O8 P fn.params.toList l=true) (hl:laidOutB P=true) (hrd:(fn.params.toList.all λt=>P.readableRec t&&decide (t<P.types.size))=true)
  (hrt:fn.resultTypes=#[rt]) (hbool:P.underlying rt=some .bool) (hvars:s.vars=[])
  {W:World} {base:Nat} {args:Array Value} {ds gs:List (DataW H)} {before:List MemPlace}
  (hspec:ds.length=l.length->s.fn H ds={results:=[.lit (.bool true)],args:=ds})
  (hval:∀(j:Nat) t v,fn.params[j]?=some t->args[j]?=some v->Value.okWide P W .any base t v)
  (hW:DataW.Whole enc P fn.params.toList s.vars apart W args.toList ds gs before)
  (hX:∀x:VF l,okL l x->Ul l x<=km ds->X x) (hG:jK P ⟨W,M5 W,noM,noE⟩ G):
  Calls P f args W λe W'=>∃v,e=.returned v/\s.post enc P fn apart fresh handsOn again W args v W':=by
 obtain⟨p,q,hA,hV,hbef,hfz,hnd⟩:=id hW;rw[hvars]at hV;obtain⟨rfl,rfl⟩:=trodVars_none hV;rw[wM]at hbef;subst hbef;have hlt:∀x∈before,x.block<W.heap.size:=λx hx=>hW.lt x hx
 obtain⟨x,x1,x2,x3⟩:=A2 (l:=l) htt (λj t v h1 h2=>hval j t v (by simpa using h1) (by simpa using h2)) hA
 have hsl:∀{ts:List TypeId} {l:List TT} {vs:Lv} {ds:List (DataW H)} {p:List MemPlace},O8 P ts l=true->DataW.TrodAll enc P W 0 (λ_=>true) true ts vs ds p->ds.length=l.length:=by
  intro ts;induction ts with
  | nil=>
   intro l vs ds p ht h;obtain⟨rfl,rfl,rfl⟩:=trodAll_nil h;cases l with
   | nil=>rfl
   | cons _ _=>simp[O8]at ht
  | cons t ts ih=>
   intro l vs ds p ht h;obtain⟨v,vs',d,ds',p1,q,rfl,rfl,rfl,h1,h2⟩:=trodAll_cons h;cases l with
   | nil=>simp[O8]at ht
   | cons _ l=>
    simp only[O8,qC]at ht;simp[ih ht.2 h2]
 have hfn:=hspec (hsl htt hA);have hcall:=(hf x (hX x x2 x3)).data trivial (w:=W) (D:=M5 W) (us:=args.toList) (λb hb=>hb) hG x1
 refine hcall.mono λe W' he=>?_
 obtain⟨v,rfl,hb,hv⟩:=he;have hv:v=.bool true:=by simpa[AV.rel,ah]using hv
 subst hv;refine⟨_,rfl,x4 (pa:=before) (pv:=[]) hW hb (λb sp hd=>?_) (λsp hsp=>?_) (λsp _=>?_) (by simp) (ok_one hrt rfl (okWide_bool_mk hbool _))⟩
 .rw[wM,hfn,hrt];exact trodAll_mk1 (shut_bool hbool true)
 .rw[wM,hfn];exact BB hl hb hrd hA hlt sp hsp
 .rw[hvars,wM,hfn];exact rfl
theorem laid_strs{n:String}{g:Nat}{ta te m:Nat}{w:World}{xs:List ByteArray}(hg:P.globalNamed n=some g)(ht:(P.globals[g]?).map (·.type)=some ta)(ha:P.underlying ta=some (.array m te))
  (he:P.underlying te=some .string) (hc:P.cellsOf te=1) (hsz:m<=9223372036854775807) (hne:0<m) {r:List (String×DataW Unit)} {ps:List MemPlace}
  (h:DataW.LaidVars P w ((n,.agg (xs.map λs=>.lit (.string s.data.toList)))::r) ps):jK P ⟨w,M5 w,noM,noE⟩ [(g,.ia .str xs)]/\∃ps',DataW.LaidVars P w r ps':=by
 obtain⟨g',t',cs,fuel,p,q',hg',ht',hv,hd,hr,_⟩:=h;obtain rfl:=wV (hg.symm.trans hg');obtain rfl:=wV (ht.symm.trans ht');refine⟨λz hz=>?_,q',hr⟩
 obtain rfl:=vG.1 hz;obtain⟨ys,f,rfl,hx,hlen,hm,hel⟩:=DataW.trod_array ha hd;simp only[qBx,DataW.agg.injEq]at hx;have hxl:xs.length=m:=by
  have:=yA List.length hx.1;simpa[hm]using this
 have cell:∀i (hi:i<m),∃y,xs[i]?=some y/\w.cell? ⟨g,i,none⟩=some (.string y):=by
  intro i hi;have h1:=hel i hi;rw[hc,yJ,qB (by omega)]at h1
  obtain⟨s,e1,e2,_⟩:=DataW.trod_string he h1;have h2:cs[i]?=some (.string s):=by
   have:=yA (·[0]?) e1
   simpa[vM,qY]using this
  refine⟨s,?_,by rw[World.var?_cell hg hv];exact h2⟩
  have h3:=yA (·[i]?) hx.1
  simp only[qP,qB (show i<ys.length by omega),qB (show i<xs.length by omega),zO,wB]at h3
  rw[e2]at h3;simp only[DataW.lit.injEq,Lit.string.injEq]at h3;rw[qB (by omega)]
  have:xs[i].data=s.data:=Array.toList_inj.1 h3;cases hx':xs[i]with | mk d=>cases s with | mk d'=>rw[hx']at this;exact yA some (yA ByteArray.mk this)
 have hblk:M5 w g:=by
  obtain⟨y,_,h2⟩:=cell 0 hne;show g<w.heap.size;unfold World.cell? at h2;split at h2
  .rename_i c t' fr hcc;exact(vJ.1 hcc).1
  .cases h2
 refine⟨rfl,g,0,rfl,some ⟨g,0,none⟩,xs.length,by rfl,qJ _,(λh=>by cases h),λa' ha' _=>by cases ha';rfl,λi y hy=>?_⟩
 have hi:=(qF.1 hy).1;obtain⟨y',e1,e2⟩:=cell i (by omega)
 obtain rfl:=wV (hy.symm.trans e1);refine⟨⟨g,0,none⟩,[.string y],rfl,hblk,λj u hj=>?_,rfl⟩
 have:j=0:=by
  have:=(qF.1 hj).1;simp at this;omega
 subst this;obtain rfl:Value.string y=u:=by simpa using hj
 simpa[Ty.sz]using e2
end
end Go.Eng
