/- PeSv5n PeSvKn PeSvSn PeTt1n PeTt2n PeTr1n PeTr2n PeTr3n PeTr4n PeTr5n PeTrDn PeWa1n PeWa2n PeWa3n PeWa4n PeWa5n PeWa6n PeCo1n -/
import Derived.Test.YtlakcpmgefpfaaaGreatDoorECDaysA
import Derived.Test.YtlakcpmgefpfaaaGreatDoorECDaysB
import Derived.Test.YtlakcpmgefpfaaaGreatDoorECDaysC
import Derived.Test.YtlakcpmgefpfaaaGreatDoorECDaysD
set_option linter.unusedSimpArgs false
set_option linter.unusedVariables false
set_option maxRecDepth 100000
namespace Go.Eng.Sv
open Go.Proofs
theorem aVi{n:Net}(h:¬(((lU n).length:Nat):Int)>0): noF n=true:=aFl.2 (vT (by omega))
theorem aQ4{n:Net}(h:(((lU n).length:Nat):Int)>0): noF n=false:=by
 cases e:noF n with
 | false=>rfl
 | true=>rw[aFl.1 e]at h;simp at h
theorem aMC: (Fz 144 (0:Int)).length=144:=wJ
theorem aJf(ls:List Line): (dY ls).length=144:=aDo ls _
theorem aDI(m:Int)(ls:List Line): dX m ls 0=[]:=rfl
theorem aK7(m:Int)(ls:List Line)(k:Int): (dX m ls k).length<=k.toNat:=by
 unfold dX;exact wC (qDb _ _) (by rw[vK];exact qK _)
theorem aK6{m:Int}{ls:List Line}{k:Int}(h0:0<=k)(h:aGP m.toNat ls k.toNat=true): dX m ls (k+1)=dX m ls k++[(3,k,111)]:=by
 unfold dX;rw[show(k+1).toNat=k.toNat+1 by omega,zT,qAq]
 simp[vC h0,h]
theorem aOa{m:Int}{ls:List Line}{k:Int}(h:aGP m.toNat ls k.toNat=false)(h0:0<=k): dX m ls (k+1)=dX m ls k:=by
 unfold dX;rw[show(k+1).toNat=k.toNat+1 by omega,zT,qAq]
 simp[h]
theorem aOb{m:Int}{ls:List Line}{a b:Int}(a0:0<=a)(a1:a<m)(h:(dY ls).getD (a.toNat*12+b.toNat) 0=-1): aGP m.toNat ls b.toNat=true:=
 kD.2 ⟨a.toNat,vN.2 (by omega),qW h⟩
theorem aLp{m:Int}{ls:List Line}{a b:Int}(hm:aFp m ls b a)(a1:a<m)(h:(dY ls).getD (a.toNat*12+b.toNat) 0≠-1): aFp m ls b (a+1):=by
 obtain⟨h0,h1,h2⟩:=hm;refine⟨by omega,by omega,?_⟩
 rw[show(a+1).toNat=a.toNat+1 by omega,zT,kX,h2]
 simp only[qAi,List.all_nil,kZ,zQ];exact qW h
theorem aOi{m:Int}{ls:List Line}{a b:Int}(hm:aFp m ls b a)(a1:¬a<m): aGP m.toNat ls b.toNat=false:=by
 obtain⟨h0,h1,h2⟩:=hm;have:a=m:=by omega
 subst this;unfold aGP;rw[qBm];intro x hx;have:=qM.1 h2 x hx;simpa using this
theorem aYZ(cs:LC)(ns os:LB)(fs:List Off)(ls:List Line)(ks:List Cla): aB Tryz.prog G0 64 [net cs ns os fs ls ks] [] ⟨True,.dat (.sl Fa) (mD (cs,ns,os,fs,ls,ks)),[]⟩:=by
 refine aA (c:=mkc K14) bG6 bD hm (aTP cs ns os fs ls ks ⟨rfl,λ_=>?_⟩)
 simp only[qc,Di,Es,Dk,qd,Dt,Ea,Eb,Dp,Ei,Eh,Ed,Ew,Df,Et,Dl,Dn,Eo,Dy,Dw,Dh,Dq,Ee,Fg,Dc,Dx,Dj,Dz,Ej,Du,Eu,Ez,En,Ef,Fe,Fj,Fh,Ep,Em,Ey,Fb];refine⟨λh=>by unfold mD;rw[aQ4 h];rfl,λh=>?_⟩
 have hno:=aVi h;have hf:=aFl.1 hno;obtain⟨ok,hls⟩:=aCG cs ns os fs ls ks hno;have hn:=ok.n12;have e1:=aJf ls;refine⟨hno,aMC,aMC,e1,⟨0,⟨qL _,qR _⟩,by rw[hf,aDI],rfl,by rw[hf,aDI]⟩,λb ⟨b0,b1⟩=>⟨λhb=>⟨⟨qL _,qR _,by simp⟩,λa ha=>⟨λhlt=>?_,λhge=>?_⟩⟩,λhb=>?_⟩⟩
 .have a0:=ha.1;have hl:=aK7 (fs.length:Int) ls b
  and_intros
  all_goals try (intros;omega)
  .intro he;have e2:=aK6 b0 (aOb a0 hlt he);exact⟨by simp only[vV];omega,by simp only[vV];omega,⟨by omega,by omega⟩,b+1,⟨by omega,by omega⟩,⟨by rw[e2,qF],rfl,e2.symm⟩,by omega⟩
  .intro hne;exact⟨⟨by omega,by omega⟩,a+1,aLp ha hlt hne,rfl,by omega⟩
 .have e2:=aOa (aOi ha hge) b0;exact⟨⟨by omega,by omega⟩,b+1,⟨by omega,by omega⟩,⟨by rw[e2],rfl,e2.symm⟩,by omega⟩
 .have:b=fs.length:=by omega
  subst this;unfold mD;rw[hno];rfl
theorem aC3: ∀(rs:List Line) (row:List Int),(rs.foldl oU row).length=row.length
 | [],_=>rfl
 | l::rs,row=>by rw[xB,aC3 rs,aAx]
theorem aHi(ls:List Line)(m a:Nat): ∀r,(bfN ls m a r).length=m
 | 0=>by show(aC2 m a).length=m;simp[aC2]
 | r+1=>by rw[aIC];unfold aIB;rw[aC3,aHi ls m a r]
theorem aSl{m:Nat}{ls:List Line}(ok:iE m ls){row:List Int}(hr:row.length=m){l:Line}(hl:l∈ls){K:Int}(h:∀b,at1 row b<=K): ∀b,at1 (oU row l) b<=K+5000:=by
 intro b;have o:=ok.at_ l hl;rw[aC1 (by rw[hr];omega)]
 have h1:=h b;have h2:=h (fA l).toNat;split<;>omega
theorem aKr{m:Nat}{ls:List Line}(ok:iE m ls): ∀(rs:List Line) (row:List Int) (K:Int),(∀l∈rs,l∈ls)->row.length=m->(∀b,at1 row b<=K)->∀b,at1 (rs.foldl oU row) b<=K+5000*rs.length
 | [],_,_,_,_,h=>λb=>by have:=h b;simpa using this
 | l::rs,row,K,hs,hr,h=>λb=>by
  have:=aKr ok rs (oU row l) (K+5000) (λx hx=>hs x (by simp[hx])) (by rw[aAx];exact hr) (aSl ok hr (hs l (by simp)) h) b
  rw[xB,wW];omega
theorem bDB{m:Nat}{ls:List Line}(ok:iE m ls)(hls:ls.length<=40)(a:Nat): ∀(r:Nat) b,at1 (bfN ls m a r) b<=200000*r
 | 0,b=>by
  show at1 (aC2 m a) b<=_;unfold at1 aC2;rw[qA,qP];by_cases h:b<m
  .rw[vX h];simp only[zK,qQ];split<;>omega
  .rw[zD (by rw[vK];omega)]
   simp
 | r+1,b=>by
  rw[aIC];have:=aKr ok ls (bfN ls m a r) (200000*r) (λ_ h=>h) (aHi ls m a r) (bDB ok hls a r) b
  unfold aIB;omega
theorem bHG: aI Tryz.prog G0 K15:=
 aH (aC λ((cs,ns,os,fs,ls,ks),_)=>aYZ cs ns os fs ls ks) bG6
theorem any_congr{α:Type}{p q:α->Bool}: ∀{l:List α},(∀x∈l,p x=q x)->l.any p=l.any q
 | [],_=>rfl
 | a::l,h=>by rw[qDu,qDu,h a (by simp),any_congr λx hx=>h x (by simp[hx])]
theorem bHF: aI Tryz.prog G0 K16:=bHG
end Go.Eng.Sv
set_option maxRecDepth 100000
namespace Go.Eng.Sv
open Go.Proofs
theorem aW0{l:List ByteArray}: (∀i:Int,0<=i->i<l.length->rule2 l i=0)↔l.Pairwise (λa b=>a.toList≠b.toList):=by
 have key:∀i:Nat,∀h:i<l.length,rule2 l (i:Int)=0↔∀j,∀hj:j<i,(l[j]'(by omega)).toList≠l[i].toList:=by
  intro i hi;unfold rule2 oH;rw[vO,qA,qB hi,qQ];constructor
  .intro h j hj e;split at h
   .cases h
   .rename_i hn;refine hn (kD.2 ⟨l[j]'(by omega),wY.2 ⟨j,by rw[qI];omega,by rw[qCs]⟩,?_⟩)
    rw[e];exact yH _
  .intro h;rw[if_neg];intro hn;obtain⟨w,hw,he⟩:=kD.1 hn;obtain⟨j,hj,rfl⟩:=wY.1 hw;rw[qI]at hj;rw[qCs]at he;exact h j (by omega) (xJ.1 he)
 rw[List.pairwise_iff_getElem];constructor
 .intro h i j hi hj hij;exact(key j hj).1 (h j (by omega) (by omega)) i hij
 .intro h i i0 i1;have:=(key i.toNat (by omega)).2 λj hj=>h j i.toNat (by omega) (by omega) hj
  rwa [vC i0]at this
theorem aEn{kind lim:Int}{l:List ByteArray}{g:List Bool}(h0:0<=lim): dS kind lim l g=[]↔(l.length:Int)<=lim/\(∀x∈l,gV x=true)/\l.Pairwise (λa b=>a.toList≠b.toList)/\∀i,i<l.length->g.getD i false=true:=by
 have nm:∀i:Nat,∀h:i<l.length,oH l (i:Int)=l[i]:=λi hi=>by
  unfold oH;rw[vO,qA,qB hi,qQ]
 constructor
 .intro h;obtain⟨h1,h2⟩:=aFz h0 h;refine⟨h1,λx hx=>?_,aW0.1 λi i0 i1=>(aCP (h2 i i0 i1)).2.1,λi hi=>?_⟩
  .obtain⟨i,hi,rfl⟩:=wY.1 hx;have:=(aCP (h2 i (by omega) (by omega))).1
   unfold dV at this;rw[nm i hi]at this;split at this
   .assumption
   .cases this
  .have:=aGK (aCP (h2 i (by omega) (by omega))).2.2
   rwa [vO]at this
 .rintro⟨h1,h2,h3,h4⟩;unfold dS bQ aOe;rw[if_neg (by omega),wE,qCw]
  intro i hi;have hi:=vN.1 hi;have hlt:i<l.length:=by omega
  have e1:dV l (i:Int)=0:=by unfold dV;rw[nm i hlt,if_pos (h2 _ (wH hlt))]
  have e2:=aW0.2 h3 (i:Int) (by omega) (by omega)
  have e3:fF g (i:Int)=0:=by unfold fF;rw[vO,if_pos (h4 i hlt)]
  have:aM9 l g (i:Int)=0:=by unfold aM9;rw[e1,e2,e3];rfl
  rw[if_pos this]
theorem aAo{α:Type}{kind lim:Int}(h0:0<=lim)(nm:α->ByteArray)(good:α->Bool)(xs:List α): dS kind lim (xs.map nm) (xs.map good)=[] ↔
  (xs.length:Int)<=lim/\(∀x∈xs,gV (nm x)=true)/\xs.Pairwise (λa b=>(nm a).toList≠(nm b).toList)/\∀x∈xs,good x=true:=by
 rw[aEn h0,vF,List.pairwise_map];constructor
 .rintro⟨h1,h2,h3,h4⟩;refine⟨h1,λx hx=>h2 _ (qBd hx),h3,λx hx=>?_⟩
  obtain⟨i,hi,rfl⟩:=wY.1 hx;have:=h4 i hi
  rwa [qA,qP,qB hi,zK,qQ]at this
 .rintro⟨h1,h2,h3,h4⟩;refine⟨h1,λx hx=>?_,h3,λi hi=>?_⟩
  .obtain⟨y,hy,rfl⟩:=wO.1 hx;exact h2 y hy
  .rw[qA,qP,qB hi,zK,qQ];exact h4 _ (wH hi)
theorem aA1(cs:LC)(ns os:LB)(fs:List Off)(ls:List Line)(ks:List Cla)(h:noF (cs,ns,os,fs,ls,ks)=true): (ls.length:Int)<=40/\(∀x∈ls,gV x.1=true)/\ls.Pairwise (λa b=>a.1.toList≠b.1.toList)/\∀x∈ls,jA (cs,ns,os,fs,ls,ks) x=true:=
 (aAo (by decide) (λl:Line=>l.1) (jA (cs,ns,os,fs,ls,ks)) ls).1 (rZ cs ns os fs ls ks h).2.2.2.2.1
theorem Walk.map {ls rs:List Line} (h:∀l∈ls,∃r∈rs,fA r=fA l/\lTo r=lTo l/\cZ r<=cZ l) {a b:Nat} {n:Int} (w:Walk ls a b n):∃m,m<=n/\Walk rs a b m:=by
 induction w with
 | nil=>exact⟨0,qL _,.nil _⟩
 | snoc l hl _ ih=>
  obtain⟨m,hm,g⟩:=ih;obtain⟨r,hr,e1,e2,e3⟩:=h l hl;rw[<- e1]at g;exact⟨m+cZ r,by omega,e2▸.snoc r hr g⟩
theorem Walk.ends {ls rs:List Line} (h:∀l∈ls,∃r∈rs,fA r=fA l/\lTo r=lTo l) {a b:Nat} {n:Int} (w:Walk ls a b n):∃m,Walk rs a b m:=by
 induction w with
 | nil=>exact⟨0,.nil _⟩
 | snoc l hl _ ih=>
  obtain⟨m,g⟩:=ih;obtain⟨r,hr,e1,e2⟩:=h l hl;rw[<- e1]at g;exact⟨m+cZ r,e2▸.snoc r hr g⟩
end Go.Eng.Sv
set_option maxRecDepth 100000
namespace Go.Eng.Sv
open Go.Proofs
noncomputable def K18: Kt:=K16
noncomputable def K19: Kt:=K18
theorem bGp: aI Tryz.prog G0 K18:=bHF
theorem dJ{x:Int}(h:-1000000000<=x/\x<=1000000000): inR .i64 x:=by unfold inR;simp only;omega
theorem pG(cs:LC)(ns os:LB)(fs:List Off)(ls:List Line)(ks:List Cla)(h:noF (cs,ns,os,fs,ls,ks)=true): (fs.length:Int)<=12/\(∀x∈fs,gV x.1=true)/\fs.Pairwise (λa b=>a.1.toList≠b.1.toList)/\∀x∈fs,iZ (cs,ns,os,fs,ls,ks) x=true:=
 (aAo (by decide) (λl:Off=>l.1) (iZ (cs,ns,os,fs,ls,ks)) fs).1 (rZ cs ns os fs ls ks h).2.2.2.1
theorem bGo: aI Tryz.prog G0 K19:=bGp
theorem aHf(cs:LC)(ns os:LB)(fs:List Off)(ls:List Line)(ks:List Cla): mD (cs,ns,os,fs,ls,ks)=[]↔noF (cs,ns,os,fs,ls,ks)=true/\dX fs.length ls fs.length=[]:=by
 unfold mD;cases h:noF (cs,ns,os,fs,ls,ks)with
 | true=>exact⟨λg=>⟨rfl,g⟩,λg=>g.2⟩
 | false=>
  constructor
  .intro g;have:noF (cs,ns,os,fs,ls,ks)=true:=aFl.2 g;rw[h]at this;cases this
  .intro g;cases g.1
end Go.Eng.Sv
set_option maxRecDepth 100000
noncomputable section
namespace Go.Eng.Sv
open Go.Proofs
def aHL(a b:Int): Int:=a%b
def dK(d:Int): Bool:=decide (-1000000<=d/\d<=1000000)
def aB0(d:Int): Prop:=-1000000000000<=d/\d<=1000000000000
def aJw(b:Int): Prop:=0<b/\b<=1000000
def oG(z:Int)(w:List Bool)(h:List Int)(t:Int): Prop:=aO z w h=true/\-2000000000<=t/\t<=2000000000
def oO(z:Int)(w:List Bool)(h:List Int)(d m:Int): Prop:=aO z w h=true/\dK d=true/\0<=m/\m<1440
def pJ(z t:Int): Int:=(t+z)/1440
def aRc(z t:Int): Int:=(t+z)%1440
def iK(z d m:Int): Int:=d*1440+m-z
theorem bA9(a b:Int)(hvc:
 let c1:=Dp (Fp a b) 0;let c2:=Fp a b+b;true/\(aB0 a/\aJw b->b≠0/\(c1->inR IntKind.i64 c2/\c2=aHL a b/\True)/\(c1=false->Fp a b=aHL a b/\True))):
  evF (mkc K19) aQ 162 [.dat I a,.dat I b] [] ⟨aB0 a/\aJw b,.dat I (aHL a b),[]⟩:=@of_eq _ _ (by kernel_rfl) hvc
theorem aNJ(a:Int)(hvc:
 let c1:=Ed a (-1000000);true/\(True->(c1->c1->c1)/\(Di true c1->c1)/\Ec c1 (Eh a 1000000) false=dK a/\True)):
  evF (mkc K19) aQ 163 [.dat I a] [] ⟨True,.dat .bool (dK a),[]⟩:=@of_eq _ _ (by kernel_rfl) hvc
def KT1: Kt:=kOr 162 (aP [.val I,.val I] (λ(a,b,_)=>aB0 a/\aJw b) λ(a,b,_)=>.dat I (aHL a b)) <|
 kOr 163 (aP [.val I] (λ_=>True) λ(a,_)=>.dat .bool (dK a)) K19
theorem aTA(z:Int)(w:List Bool)(h:List Int)(t:Int)(hvc:
 let c1:=Dk (aO z w h);let c2:=Dk c1;let c3:=Ec c1 true (Dp t (-2000000000));let c4:=Dk c3;let c5:=Ec c3 true (Ei t 2000000000);let c6:=aHL (t+z) 1440;let c7:=(t+z)-c6;let c8:=Gf c7 1440;true/\(oG z w h t->True/\(c2->c2->c2)/\(Di true c2->c2)/\(c4->c4->c4)/\(Di true c4->c4)/\(c5->0=pJ z t/\0=aRc z t/\True)/\(c5=false->inR IntKind.i64 (t+z)/\(aB0 (t+z)/\aJw 1440)/\inR IntKind.i64 c7/\Eo 1440 0/\inR IntKind.i64 c8/\c8=pJ z t/\c6=aRc z t/\True))):
  evF (mkc KT1) aQ 98 [cal z w h,.dat I t] [] ⟨oG z w h t,.tup [.dat I (pJ z t),.dat I (aRc z t)],[]⟩:=@of_eq _ _ (by kernel_rfl) hvc
theorem aXI(z:Int)(w:List Bool)(h:List Int)(d m:Int)(hvc:
 let c1:=Dk (aO z w h);let c2:=Dk c1;let c3:=Ec c1 true (Dk (dK d));let c4:=Dk c3;let c5:=Ec c3 true (Dp m 0);let c6:=Dk c5;let c7:=Ec c5 true (Ed m 1440);let c8:=d*1440;let c9:=c8+m;let c10:=c9-z;true/\(oO z w h d m->True/\(c2->c2->c2)/\(c2->True)/\(c2->c2->c2)/\(Di true c2->c2)/\(c4->c4->c4)/\(Di true c4->c4)/\(c6->c6->c6)/\(Di true c6->c6)/\(c7->0=iK z d m/\True)/\(c7=false->inR IntKind.i64 c8/\inR IntKind.i64 c9/\inR IntKind.i64 c10/\c10=iK z d m/\True))):
  evF (mkc KT1) aQ 99 [cal z w h,.dat I d,.dat I m] [] ⟨oO z w h d m,.dat I (iK z d m),[]⟩:=@of_eq _ _ (by kernel_rfl) hvc
def KT2: Kt:=kOr 98 (aP [.row C,.val I] (λ(c,t,_)=>oG c.1 c.2.1 c.2.2 t) λ(c,t,_)=>.tup [.dat I (pJ c.1 t),.dat I (aRc c.1 t)]) <|
 kOr 99 (aP [.row C,.val I,.val I] (λ(c,d,m,_)=>oO c.1 c.2.1 c.2.2 d m) λ(c,d,m,_)=>.dat I (iK c.1 d m)) KT1
theorem bFA(a b:Int): aB Tryz.prog G0 162 [.dat I a,.dat I b] [] ⟨aB0 a/\aJw b,.dat I (aHL a b),[]⟩:=by
 refine aA (c:=mkc K19) bGo bD hm (bA9 a b ⟨rfl,λ⟨⟨h1,h2⟩,h3,h4⟩=>?_⟩)
 have e:=qAb (a:=a) (b:=b);have e1:=xU a (show b≠0 by omega)
 have e2:=yR a h3;have e3:(b.natAbs:Int)=b:=Int.natAbs_of_nonneg (by omega)
 simp only[Eo,Dp,Fp,Dq,aHL,inR,qE,wF];by_cases hc:0<=a\/b ∣ a
 .rw[if_pos hc]at e;refine⟨by omega,λh=>by omega,λh=>⟨by omega,trivial⟩⟩
 .rw[if_neg hc,e3]at e;have hz:a%b≠0:=λh0=>hc (.inr (qDh h0))
  refine⟨by omega,λh=>⟨by omega,by omega,trivial⟩,λh=>by omega⟩
theorem aQq(a:Int): aB Tryz.prog G0 163 [.dat I a] [] ⟨True,.dat .bool (dK a),[]⟩:=by
 refine aA (c:=mkc K19) bGo bD hm (aNJ a ⟨rfl,λ_=>⟨λh _=>h,λh=>by simpa[Di]using h,?_,trivial⟩⟩)
 rw[rH];simp[dK,Ed,Eh]
theorem bGc: aI Tryz.prog G0 KT1:=aH (aC λ(a,b,_)=>bFA a b)<|aH (aC λ(a,_)=>aQq a) bGo
theorem aZj(z:Int)(w:List Bool)(h:List Int)(t:Int): aB Tryz.prog G0 98 [cal z w h,.dat I t] [] ⟨oG z w h t,.tup [.dat I (pJ z t),.dat I (aRc z t)],[]⟩:=by
 refine aA (c:=mkc KT1) bGc bD hm (aTA z w h t ⟨rfl,λ⟨hv,h1,h2⟩=>?_⟩)
 obtain⟨⟨v1,v2,v3,v4⟩,_⟩:=fQ.1 hv;have a1:¬t < -2000000000:=by omega
 have a2:¬t>2000000000:=by omega
 simp only[hv,a1,a2,aD0,rH,Di,Dk,zQ,qAn,zS,vP,qBg,kU,zY,xZ,yB,Dp,Ei,kV,zJ,vU,kT,kZ,qBb,qAj,qAs,qAh,kM,Eo,Dh,Dq,Gf,inR,aHL,pJ,aRc,aB0,aJw];have e0:=xU (t+z) (show(1440:Int)≠0 by omega)
 have e1:=yR (t+z) (show(0:Int)<1440 by omega)
 have e3:t+z-(t+z)%1440=1440*((t+z)/1440):=by omega
 rw[e3,qDf _ (by omega)]
 omega
theorem bCx(z:Int)(w:List Bool)(h:List Int)(d m:Int): aB Tryz.prog G0 99 [cal z w h,.dat I d,.dat I m] [] ⟨oO z w h d m,.dat I (iK z d m),[]⟩:=by
 refine aA (c:=mkc KT1) bGc bD hm (aXI z w h d m ⟨rfl,λ⟨hv,hd,h1,h2⟩=>?_⟩)
 obtain⟨⟨v1,v2,v3,v4⟩,_⟩:=fQ.1 hv;have a1:¬m<0:=by omega
 have a2:¬m≥1440:=by omega
 simp only[hv,hd,a1,a2,aD0,rH,Di,Dk,zQ,qAn,zS,vP,qBg,kU,zY,xZ,yB,Dp,Ed,kV,zJ,vU,kT,kZ,qBb,qAj,qAs,qAh,kM,Dh,Dq,Ee,inR,iK];unfold dK at hd;have:=wM hd;omega
theorem bF9: aI Tryz.prog G0 KT2:=aH (aC λ((z,w,h),t,_)=>aZj z w h t)<|aH (aC λ((z,w,h),d,m,_)=>bCx z w h d m) bGc
end Go.Eng.Sv
set_option maxRecDepth 100000
noncomputable section
namespace Go.Eng.Sv
open Go.Proofs
def aJ1(h:List Int)(d i:Int): Bool:=decide (h.getD i.toNat 0≥d)
def aSL(h:List Int)(i:Int): Prop:=0<=i/\i<h.length
def pV(g:Int->Bool)(n:Int): Int:=(((List.range n.toNat).filter λ(i:Nat)=>!g (i:Int)).length:Int)
def aAf(g:Int->Bool)(pre:Int->Prop)(n:Int): Prop:=0<=n/\n<=1000000/\(∀i,0<=i->i<n->pre i)/\∀i j,0<=i->i<=j->j<n->g i=true->g j=true
def aBm(g:Int->Bool)(n i j:Int): Prop:=0<=i/\i<=j/\j<=n/\(0<i->g (i-1)=false)/\(j<n->g j=true)
def atS(h:List Int)(d:Int): Int:=pV (aJ1 h d) h.length
def bV(w:List Bool)(h:List Int)(d:Int): Bool:=w.getD (d%7).toNat false&&!h.contains d
def p1(x:Int×Int): Int:=x.1
def p2(x:Int×Int): Int:=x.2
def aGp(w:List Bool)(h:List Int): Prop:=w.length=7/\h.length<=40/\∀i:Nat,i+1<h.length->h.getD i 0<h.getD (i+1) 0
theorem bEH(i d z:Int)(w:List Bool)(h:List Int)(hvc:
 true/\(aSL h i->0<=i/\i<Df h/\Ed (Du h (Dc i) 0) d=aJ1 h d i/\True)):
  evF (mkc KT2) aQ 267 [.dat I i,.ip C (z,w,h),.ip I d] [] ⟨aSL h i,.dat .bool (aJ1 h d i),[]⟩:=@of_eq _ _ (by kernel_rfl) hvc
def aZa(g:Int->Bool)(n:Int): Ann:=⟨λid s=>match id with
 | 2=>some {α:=Int×Int,inv:=λx=>aBm g n (p1 x) (p2 x),st:=λx=>put s [(5,.dat I (p1 x)),(6,.dat I (p2 x))],μ:=λx=>Dc (Dh (p2 x) (p1 x))}
 | _=>none,λ_ _=>none,λ_ _=>none⟩
theorem aPf(n:Int)(pre:Int->Prop)(g:Int->Bool)(hvc:
 true/\(aAf g pre n->(∃x,aBm g n (p1 x) (p2 x)/\AV.clo1 (Ty.int IntKind.i64) Ty.bool pre g=AV.clo1 (Ty.int IntKind.i64) Ty.bool pre g/\(0:Int)=(0:Int)/\0=p1 x/\n=p2 x/\True)/\∀(x:Int×Int),let c1:=Dp (p1 x) (p2 x);let c2:=p1 x+p2 x;let c3:=Gj c2 1;let c4:=Dk (g c3);let c5:=c3+1;aBm g n (p1 x) (p2 x)->(c1->inR IntKind.i64 c2/\inR IntKind.u64 c2/\Dl 0 1/\Dc 1<=(64)/\inR IntKind.i64 c3/\pre c3/\(c4->inR IntKind.i64 c5/\∃y,aBm g n (p1 y) (p2 y)/\(AV.clo1 (Ty.int IntKind.i64) Ty.bool pre g=AV.clo1 (Ty.int IntKind.i64) Ty.bool pre g/\(0:Int)=(0:Int)/\c5=p1 y/\p2 x=p2 y/\True)/\Dc (p2 y-p1 y)<Dc (p2 x-p1 x))/\(c4=false->∃y,aBm g n (p1 y) (p2 y)/\(AV.clo1 (Ty.int IntKind.i64) Ty.bool pre g=AV.clo1 (Ty.int IntKind.i64) Ty.bool pre g/\(0:Int)=(0:Int)/\p1 x=p1 y/\c3=p2 y/\True)/\Dc (p2 y-p1 y)<Dc (p2 x-p1 x)))/\(c1=false->p1 x=pV g n/\True))):
  evF (mkc KT2) (lvA [(2,[1,4,5,6,7])] (aZa g n)) 266 [.dat I n,.clo1 I .bool pre g] [] ⟨aAf g pre n,.dat I (pV g n),[]⟩:=@of_eq _ _ (by kernel_rfl) hvc
def KT3: Kt:=λf args m=>match f,args,m with
 | 267,[.dat (.int .i64) i,.ip (.pair (.int .i64) (.pair (.sl .bool) (.sl (.int .i64)))) c,.ip (.int .i64) d],[]=>some ⟨aSL c.2.2 i,.dat .bool (aJ1 c.2.2 d i),[]⟩
 | 266,[.dat (.int .i64) n,.fn 267 [.ip (.pair (.int .i64) (.pair (.sl .bool) (.sl (.int .i64)))) c,.ip (.int .i64) d]],[]=>some ⟨aAf (aJ1 c.2.2 d) (aSL c.2.2) n,.dat I (pV (aJ1 c.2.2 d) n),[]⟩
 | _,_,_=>KT2 f args m
def bEz: Ann:=⟨λ_ _=>none,λid s=>match id with
 | 3=>some (frz (allNames s) s)
 | _=>none,λ_ _=>none⟩
theorem aS2(d z:Int)(w wk:List Bool)(h:List Int)(hvc:
 let c1:=aHL d 7;let c2:=Du wk (Dc c1) false;let c3:=Dk c2;let c4:=(z,w,h);let c5:=pV (aJ1 h d) (Df h);let c6:=Ea c5 (Df h);let c7:=Dk c6;true/\(aGp wk h/\aB0 d->(aB0 d/\aJw 7)/\Dj wk=7/\0<=c1/\c1<Dx (7)/\(c3->false=bV wk h d/\True)/\(c3=false->d=d/\wk=wk/\c4=c4/\d=d/\false=false/\d=d/\c1=c1/\c2=c2/\c2=c2/\c3=c3/\aAf (aJ1 h d) (aSL h) (Df h)/\(c7->c7->c7)/\(c7->c7->c7)/\(c7->c7->c7)/\(c7->0<=c5)/\(c7->c5<Df h)/\(c7->c7->c7)/\(c7->c7->c7)/\(c7->c7->c7)/\(Di true c7->c7)/\Ec c6 true (Eb (Du h (Dc c5) 0) d)=bV wk h d/\True))):
  evF (mkc KT3) bEz 265 [.dat I d,.ia .bool wk,.ip C (z,w,h)] [] ⟨aGp wk h/\aB0 d,.dat .bool (bV wk h d),[]⟩:=@of_eq _ _ (by kernel_rfl) hvc
theorem aPb(z:Int)(w:List Bool)(h:List Int)(hvc:
 let c1:=Gl (Fz (7) false) w;let c2:=(z,w,h);true/\(Dj w=7->0=0/\7=7/\Dj (Fz (7) false)=7/\Dj (Fz (7) false)=7/\Dj c1=7/\0=0/\c1=w/\c2=c2/\True)):
  evF (mkc KT3) aQ 221 [cal z w h] [] ⟨Dj w=7,.fn 265 [.ia .bool w,.ip C (z,w,h)],[]⟩:=@of_eq _ _ (by kernel_rfl) hvc
def KT4: Kt:=λf args m=>match f,args,m with
 | 265,[.dat (.int .i64) d,.ia .bool w,.ip (.pair (.int .i64) (.pair (.sl .bool) (.sl (.int .i64)))) c],[]=>some ⟨aGp w c.2.2/\aB0 d,.dat .bool (bV w c.2.2 d),[]⟩
 | 221,[.agg [.dat (.int .i64) z,.dat (.sl .bool) w,.dat (.sl (.int .i64)) h]],[]=>some ⟨Dj w=7,.fn 265 [.ia .bool w,.ip C (z,w,h)],[]⟩
 | _,_,_=>KT3 f args m
theorem aYh(z:Int)(w:List Bool)(h:List Int)(d:Int)(hvc:
 let c1:=Ec (aO z w h) (dK d) false;true/\(aO z w h/\dK d->True/\(aO z w h->aO z w h->aO z w h)/\(aO z w h->True)/\(Di true (aO z w h)->aO z w h)/\(c1->c1->c1)/\(c1->Dj w=7)/\(c1->c1->c1)/\(c1->c1->c1)/\(c1->aGp w h/\aB0 d)/\(Di true c1->c1)/\Ec c1 (bV w h d) false=bV w h d/\True)):
  evF (mkc KT4) aQ 286 [cal z w h,.dat I d] [] ⟨aO z w h=true/\dK d=true,.dat .bool (bV w h d),[]⟩:=@of_eq _ _ (by kernel_rfl) hvc
theorem aW8{h:List Int}(hi:∀i:Nat,i+1<h.length->h.getD i 0<h.getD (i+1) 0): ∀(k i:Nat),i+k+1<h.length->h.getD i 0<h.getD (i+k+1) 0
 | 0,i,hl=>hi i hl
 | k+1,i,hl=>by
  have h1:=aW8 hi k i (by omega)
  have h2:=hi (i+k+1) (by omega)
  have e:i+(k+1)+1=i+k+1+1:=by omega
  rw[e];omega
theorem aLF{h:List Int}(hi:∀i:Nat,i+1<h.length->h.getD i 0<h.getD (i+1) 0){i j:Nat}(hij:i<j)(hj:j<h.length): h.getD i 0<h.getD j 0:=by
 have:=aW8 hi (j-i-1) i (by omega)
 rwa [show i+(j-i-1)+1=j by omega]at this
theorem aCa{g:Int->Bool}{i:Nat}: ∀N:Nat,(∀x:Nat,x<N->g (x:Int)=decide (i<=x))->((List.range N).filter λ(x:Nat)=>!g (x:Int)).length=min i N
 | 0,_=>by simp
 | N+1,h=>by
  rw[zT,yQ,qF,aCa N λx hx=>h x (by omega)]
  by_cases hN:i<=N
  .have e:g (N:Int)=true:=by rw[h N (by omega)];simpa using hN
   simp only[yU,e,zY,qBf,vU,yS,yO];omega
  .have e:g (N:Int)=false:=by rw[h N (by omega)];simpa using hN
   simp only[yU,e,yB,qBf,xX,wW,yO];omega
theorem search_end{g:Int->Bool}{pre:Int->Prop}{n i j:Int}(hp:aAf g pre n)(ht:aBm g n i j)(he:¬i<j): i=pV g n:=by
 obtain⟨p0,_,_,p3⟩:=hp;obtain⟨t0,t1,t2,t3,t4⟩:=ht;have hij:i=j:=by omega
 subst hij;have key:∀x:Nat,x<n.toNat->g (x:Int)=decide (i.toNat<=x):=λx hx=>by
  by_cases hxi:i.toNat<=x
  .rw[qW hxi];exact p3 i x t0 (by omega) (by omega) (t4 (by omega))
  .rw[vG hxi];cases hg:g (x:Int)with
   | false=>rfl
   | true=>
    have:=p3 x (i-1) (by omega) (by omega) (by omega) hg
    rw[t3 (by omega)]at this
    cases this
 unfold pV;rw[aCa _ key];omega
theorem aUJ(n:Int)(pre:Int->Prop)(g:Int->Bool): aB Tryz.prog G0 266 [.dat I n,.clo1 I .bool pre g] [] ⟨aAf g pre n,.dat I (pV g n),[]⟩:=by
 refine aA (c:=mkc KT2) bF9 bD hm (aPf n pre g ⟨rfl,λhp=>?_⟩)
 have hp0:=hp.1;have hp1:=hp.2.1;have hsh:∀x:Int,0<=x->Gj x 1=x/2:=λx hx=>by
  simp only[Gj];rw[show(2:Int) ^ (1:Int).toNat=2 by decide,qCp _ (by omega)]
 simp only[Dk,qAn,zS,vP,zJ,kK,Dp,Dl,Dy,Dh,Dq,Dw,Dc,qE,wF];refine⟨⟨(0,n),⟨qL _,hp0,qL _,λh=>absurd h (by simp only[p1];omega),λh=>absurd h (by simp only[p2];omega)⟩,rfl,rfl⟩,λx hx=>⟨λhlt=>?_,λhge=>search_end hp hx hge⟩⟩
 obtain⟨i,j⟩:=x;obtain⟨t0,t1,t2,t3,t4⟩:=hx;simp only[p1,p2]at t0 t1 t2 t3 t4 hlt ⊢;rw[hsh (i+j) (by omega)]
 simp only[inR];refine⟨by omega,by omega,by omega,by decide,by omega,hp.2.2.1 _ (by omega) (by omega),λhg=>⟨by omega,((i+j)/2+1,j),⟨by simp only;omega,by simp only;omega,t2,λ_=>?_,t4⟩,⟨rfl,rfl⟩,by simp only;omega⟩,
  λhg=>⟨(i,(i+j)/2),⟨t0,by simp only;omega,by simp only;omega,t3,λ_=>hg⟩,⟨rfl,rfl⟩,by simp only;omega⟩⟩
 simp only[Int.add_sub_cancel];exact hg
theorem bGz(i d:Int)(c:C.den): aB Tryz.prog G0 267 [.dat I i,.ip C c,.ip I d] [] ⟨aSL c.2.2 i,.dat .bool (aJ1 c.2.2 d i),[]⟩:=
 aA (c:=mkc KT2) bF9 bD hm (bEH i d c.1 c.2.1 c.2.2 ⟨rfl,λh=>⟨h.1,h.2,rfl,trivial⟩⟩)
theorem aQn(n d:Int)(c:C.den): aB Tryz.prog G0 266 [.dat I n,.fn 267 [.ip C c,.ip I d]] [] ⟨aAf (aJ1 c.2.2 d) (aSL c.2.2) n,.dat I (pV (aJ1 c.2.2 d) n),[]⟩:=
 (aUJ n (aSL c.2.2) (aJ1 c.2.2 d)).args λC us hG hr=>by
  obtain⟨u,us',e,g1,u2,us2,e2,g3,g4⟩:=hr;exact⟨u,us',e,g1,u2,us2,e2,uY (by kernel_rfl) rfl (λx=>bGz x d c) hG g3,g4⟩
theorem bF8: aI Tryz.prog G0 KT3:=by
 intro f args m c h;unfold KT3 at h;split at h
 .cases h;exact bGz _ _ _
 .cases h;exact aQn _ _ _
 .exact bF9 _ _ _ _ h
theorem aNn{h:List Int}(hi:∀i:Nat,i+1<h.length->h.getD i 0<h.getD (i+1) 0)(d:Int):
  0<=atS h d/\atS h d<=h.length/\(∀i:Nat,(i:Int)<atS h d->h.getD i 0<d)/\∀i:Nat,atS h d<=i->i<h.length->d<=h.getD i 0:=by
 have hex:∃k:Nat,k<=h.length/\(∀i:Nat,i<k->h.getD i 0<d)/\∀i:Nat,k<=i->i<h.length->d<=h.getD i 0:=by
  have:∀N:Nat,N<=h.length->∃k:Nat,k<=N/\(∀i:Nat,i<k->h.getD i 0<d)/\∀i:Nat,k<=i->i<N->d<=h.getD i 0:=by
   intro N;induction N with
   | zero=>intro _;exact⟨0,qK _,λi hi=>by omega,λi _ hi=>by omega⟩
   | succ N ih=>
    intro hN;obtain⟨k,k1,k2,k3⟩:=ih (by omega)
    by_cases hk:k<N
    .refine⟨k,by omega,k2,λi h1 h2=>?_⟩
     rcases zB i N with h3 | h3
     .exact k3 i h1 h3
     .have hin:i=N:=by omega
      have:=k3 k (qK _) hk;have:=aLF hi hk (show N<h.length by omega)
      rw[hin];omega
    .have ek:k=N:=by omega
     subst ek;by_cases hd:h.getD k 0<d
     .refine⟨k+1,qK _,λi hi2=>?_,λi h1 h2=>by omega⟩
      rcases zB i k with h3 | h3
      .exact k2 i h3
      .rw[show i=k by omega];exact hd
     .exact⟨k,by omega,k2,λi h1 h2=>by rw[show i=k by omega];omega⟩
  exact this h.length (qK _)
 obtain⟨k,k1,k2,k3⟩:=hex;have e:atS h d=k:=by
  unfold atS pV;rw[aCa (i:=k) _ (λx hx=>?_)]
  .omega
  .unfold aJ1;simp only[vO];by_cases hx2:k<=x
   .rw[qW hx2];exact qW (k3 x hx2 (by omega))
   .have:=k2 x (by omega)
    rw[vG hx2];exact vG (by omega)
 rw[e];exact⟨by omega,by omega,λi hi=>k2 i (by omega),λi h1 h2=>k3 i (by omega) h2⟩
theorem aRF{w:List Bool}{h:List Int}(hc:aGp w h)(d:Int): aAf (aJ1 h d) (aSL h) h.length:=by
 refine⟨by omega,by have:=hc.2.1;omega,λi h0 h1=>⟨h0,h1⟩,λi j h0 hij hj hg=>?_⟩
 unfold aJ1 at hg ⊢;simp only[qE]at hg ⊢;rcases Int.lt_or_le i j with hlt | hge
 .have:=aLF hc.2.2 (show i.toNat<j.toNat by omega) (by omega)
  omega
 .rw[show j=i by omega];exact hg
theorem aXB{w:List Bool}{h:List Int}(hc:aGp w h)(d:Int): (decide (atS h d=h.length)||(h.getD (atS h d).toNat 0 != d))=!h.contains d:=by
 obtain⟨g0,g1,g2,g3⟩:=aNn hc.2.2 d;obtain⟨k,hk⟩:∃k,k=atS h d:=⟨_,rfl⟩;rw[<- hk]at g0 g1 g2 g3 ⊢;have hmem:d∈h↔k<h.length/\h.getD k.toNat 0=d:=by
  constructor
  .intro hm;obtain⟨i,hi⟩:=kH.1 hm;have hil:=(qG.1 hi).1;have e:h.getD i 0=d:=by rw[qA,hi];rfl
   have h1:k<=i:=by
    rcases Int.lt_or_le (i:Int) k with hlt | hge
    .have:=g2 i hlt;omega
    .exact hge
   have h2:k.toNat=i:=by
    rcases zB k.toNat i with hlt | hge
    .have:=aLF hc.2.2 hlt hil;have:=g3 k.toNat (by omega) (by omega)
     omega
    .omega
   exact⟨by omega,by rw[h2];exact e⟩
  .rintro⟨h1,h2⟩;have hlt:k.toNat<h.length:=by omega
   rw[qA,qB hlt]at h2;simp only[qQ]at h2;rw[<- h2];exact wH _
 by_cases hd:d∈h
 .obtain⟨h1,h2⟩:=hmem.1 hd;have:h.contains d=true:=by simpa using hd
  rw[this,h2];have:¬k=h.length:=by omega
  simp[this]
 .have:h.contains d=false:=by simpa using hd
  rw[this];by_cases hk2:k=h.length
  .simp[hk2]
  .have:h.getD k.toNat 0≠d:=λe=>hd (hmem.2 ⟨by omega,e⟩)
   simp only[hk2,kV,xZ,yB,qCv,ne_eq];exact this
theorem aZe(d:Int)(wk:List Bool)(c:C.den): aB Tryz.prog G0 265 [.dat I d,.ia .bool wk,.ip C c] [] ⟨aGp wk c.2.2/\aB0 d,.dat .bool (bV wk c.2.2 d),[]⟩:=by
 obtain⟨z,w,h⟩:=c;refine aA (c:=mkc KT3) bF8 bD hm (aS2 d z w wk h ⟨rfl,λ⟨hc,hd⟩=>?_⟩)
 have hs:=aRF hc d;obtain⟨g0,g1,g2,g3⟩:=aNn hc.2.2 d;have e0:=xU d (show(7:Int)≠0 by omega)
 have e1:=yR d (show(0:Int)<7 by omega)
 have ea:pV (aJ1 h d) (Df h)=atS h d:=rfl;have hs':aAf (aJ1 h d) (aSL h) (Df h):=hs;simp only[ea,hs',aD0,rH,Di,Dk,zQ,qAn,zS,vP,qBg,kU,zJ,kK,aHL,Du,Dc,Ea,Eb,Dl,Dn,Df,Dx,Dj,qAd];refine⟨⟨hd,by omega,by omega⟩,hc.1,e0,by exact_mod_cast e1,λhw=>?_,λhw=>⟨λ_=>g0,λhne=>by omega,?_⟩⟩
 .unfold bV;rw[hw];rfl
 .unfold bV;rw[hw,zQ,<- aXB hc d]
  congr 1
theorem aUI(z:Int)(w:List Bool)(h:List Int): aB Tryz.prog G0 221 [cal z w h] [] ⟨Dj w=7,.fn 265 [.ia .bool w,.ip C (z,w,h)],[]⟩:=by
 refine aA (c:=mkc KT3) bF8 bD hm (aPb z w h ⟨rfl,λhw=>?_⟩)
 have hw:w.length=7:=hw;have e:Gl (Fz 7 false) w=w:=by
  simp only[Gl,Fz,wJ,<- hw,xG];rw[zN (by simp),wE]
 refine⟨rfl,rfl,by simp[Dj,Fz],by simp[Dj,Fz],by rw[e];exact hw,rfl,e,rfl,trivial⟩
theorem bDG: aI Tryz.prog G0 KT4:=by
 intro f args m c h;unfold KT4 at h;split at h
 .cases h;exact aZe _ _ _
 .cases h;exact aUI _ _ _
 .exact bF8 _ _ _ _ h
theorem aIv{z:Int}{w:List Bool}{h:List Int}(hv:aO z w h=true): aGp w h:=by
 obtain⟨⟨_,_,v3,v4⟩,v5⟩:=fQ.1 hv;exact⟨v3,v4,v5⟩
theorem aVd{d:Int}(hd:dK d=true): aB0 d:=by
 unfold dK at hd;have:=wM hd;exact⟨by omega,by omega⟩
theorem bCH(z:Int)(w:List Bool)(h:List Int)(d:Int): aB Tryz.prog G0 286 [cal z w h,.dat I d] [] ⟨aO z w h=true/\dK d=true,.dat .bool (bV w h d),[]⟩:=by
 refine aA (c:=mkc KT4) bDG bD hm (aYh z w h d ⟨rfl,λ⟨hv,hd⟩=>?_⟩)
 have hc:=aIv hv;simp only[hv,hd,rH,Di,zQ,qAn,zS,vP,qBg,kU,kM,Dj];exact⟨hc.1,hc,aVd hd⟩
end Go.Eng.Sv
set_option maxRecDepth 100000
noncomputable section
namespace Go.Eng.Sv
open Go.Proofs
def nP(w:List Bool)(h:List Int)(a n:Int): List Int:=((List.range n.toNat).map λ(i:Nat)=>a+(i:Int)).filter λd=>bV w h d
def aAJ(w:List Bool)(h:List Int)(a d:Int): Nat:=(((List.range (d-a).toNat).map λ(i:Nat)=>a+(i:Int)).filter λd=>bV w h d).length
def aOE(w:List Bool)(h:List Int)(a n:Int): Prop:=aGp w h/\-1000000000<=a/\a<=1000000000/\-100000000<=n/\n<=100000000
def aBa(a n d:Int): Prop:=a<=d/\(d<=a+n\/d=a)
def aFm(w:List Bool)(h:List Int)(d:Int): Option Int:=(nP w h d 60).head?
def nY(w:List Bool)(h:List Int)(d:Int): Int:=(aFm w h d).getD 0
def oI(w:List Bool)(h:List Int)(d:Int): Int:=if(aFm w h d).isSome then 0 else 20
def aSR(z:Int)(w:List Bool)(h:List Int)(d:Int): Prop:=aO z w h=true/\dK d=true
def isZ(k:Nat): Prop:=k=0
theorem aX7(z:Int)(w:List Bool)(h:List Int)(a n:Int)(hvc:
 true/\(Dj w=7->Dj w=7/\1=1/\0=0/\a=a/\n=n/\1=1/\0=0/\AV.fn (265) [AV.ia Ty.bool w,AV.ip ((Ty.int IntKind.i64).pair (Ty.bool.sl.pair (Ty.int IntKind.i64).sl)) (z,w,h)]=AV.fn (265) [AV.ia Ty.bool w,AV.ip ((Ty.int IntKind.i64).pair (Ty.bool.sl.pair (Ty.int IntKind.i64).sl)) (z,w,h)]/\True)):
  evF (mkc KT4) aQ 164 [cal z w h,.dat I a,.dat I n] [] ⟨Dj w=7,.fn 222 [.ip I a,.ip I n,.ipv (.fn 265 [.ia .bool w,.ip C (z,w,h)])],[]⟩:=@of_eq _ _ (by kernel_rfl) hvc
def bDi(w:List Bool)(h:List Int)(a n:Int): aL9:=⟨λid y=>match id with
 | 1=>some {α:=Int,inv:=λd=>aBa a n d,st:=λd=>⟨put y.s [(5,.dat I d)],aAJ w h a d,true⟩,μ:=λd=>Dc (Dh (Dq a n) d)}
 | _=>none,λ_ _=>none,λid=>id==3⟩
theorem aTF(z a n:Int)(w w':List Bool)(h:List Int)(hvc:
 let c1:=(z,w',h);let c2:=nP w h a n;let c3:=Dj c2;true/\true/\true/\false=false/\∀(l:Nat),aOE w h a n->(∃x,aBa a n x/\(l=l/\a=a/\n=n/\w=w/\c1=c1/\a=x/\a=a/\True)/\0=aAJ w h a x/\true)/\∀(x:Int),let c4:=Dp x (a+n);let c5:=aAJ w h a x;let c6:=c5+(1);let c7:=x+1;let c8:=Ec (bV w h x) (Dk false) false;aBa a n x->inR IntKind.i64 (a+n)/\(c4->(aGp w h/\aB0 x)/\(bV w h x->(bV w h x->bV w h x)/\(bV w h x->bV w h x)/\l=l/\true/\aA7 c2 c5 x/\∀(b:Bool),let c9:=Ec (bV w h x) (Dk b) false;(Di true (bV w h x)->bV w h x)/\(c9->b->c6=c3)/\(c9=false->inR IntKind.i64 c7/\∃y,aBa a n y/\((l=l/\a=a/\n=n/\w=w/\c1=c1/\c7=y/\a=a/\True)/\c6=aAJ w h a y/\b)/\Dc ((a+n)-y)<Dc ((a+n)-x)))/\(bV w h x=false->(bV w h x->bV w h x->bV w h x)/\(Di true (bV w h x)->bV w h x)/\(c8->true->c5=c3)/\(c8=false->inR IntKind.i64 c7/\∃y,aBa a n y/\((l=l/\a=a/\n=n/\w=w/\c1=c1/\c7=y/\a=a/\True)/\c5=aAJ w h a y/\true)/\Dc ((a+n)-y)<Dc ((a+n)-x))))/\(c4=false->true->c5=c3)):
  evI (mkc KT4) (bDi w h a n) 222 [.ip I a,.ip I n,.ipv (.fn 265 [.ia .bool w,.ip C (z,w',h)])] ⟨aOE w h a n,I,nP w h a n⟩:=@of_eq _ _ (by kernel_rfl) hvc
def KR1: Kt:=kOr 164 (aP [.row C,.val I,.val I] (λ(c,_,_,_)=>Dj c.2.1=7) λ(c,a,n,_)=>.fn 222 [.ip I a,.ip I n,.ipv (.fn 265 [.ia .bool c.2.1,.ip C c])]) KT4
def bGu: FuncId->List AV->Option sV:=λf caps=>match f,caps with
 | 222,[.ip (.int .i64) a,.ip (.int .i64) n,.ipv (.fn 265 [.ia .bool w,.ip (.pair (.int .i64) (.pair (.sl .bool) (.sl (.int .i64)))) c])]=>some ⟨aOE w c.2.2 a n,I,nP w c.2.2 a n⟩
 | _,_=>none
def flat(s:St): St:={s with tm:=s.tm.map bBR}
def bFK: Ann:=⟨λid s=>match id with
 | 4=>some {α:=Nat,inv:=λk=>isZ k,st:=λ_=>flat s,μ:=λk=>k}
 | _=>none,λ_ _=>none,λ_ _=>none⟩
noncomputable def bD9(K:Kt): Cfg:=⟨Tryz.prog,G0,K,λ_=>false,bGu,true,λ_ _ _=>none,λ_=>false⟩
theorem aXS(z:Int)(w:List Bool)(h:List Int)(d:Int)(hvc:
 let c1:=Dk (aO z w h);let c2:=Dk c1;let c3:=Ec c1 true (Dk (dK d));let c4:=(z,w,h);let c5:=nP w h d 60;true/\(aSR z w h d->True/\(c2->c2->c2)/\(c2->True)/\(c2->c2->c2)/\(Di true c2->c2)/\(c3->1=1/\0=0/\1=1/\0=0/\1=1/\0=0/\1=1/\0=0/\0=nY w h d/\1=oI w h d/\True)/\(c3=false->Dj w=7/\aOE w h d 60/\(∃x,isZ x/\x=0/\z=z/\w=w/\h=h/\d=d/\c4=c4/\1=1/\0=0/\0=0/\1=1/\0=0/\0=0/\z=z/\w=w/\h=h/\aO z w h=aO z w h/\c1=c1/\c1=c1/\c3=c3/\z=z/\w=w/\h=h/\d=d/\d=d/\(60:Int)=(60:Int)/\w=w/\c4=c4/\(0:Int)=(0:Int)/\(0:Int)=(0:Int)/\True)/\(∀(x:Nat) (y:Int),isZ x->aA7 c5 x y->1=1/\0=0/\1=1/\0=0/\1=1/\0=0/\1=1/\0=0/\y=nY w h d/\0=oI w h d/\True)/\∀(x:Nat),isZ x->x=Dj c5->1=1/\0=0/\1=1/\0=0/\1=1/\0=0/\1=1/\0=0/\0=nY w h d/\20=oI w h d/\True))):
  evF (bD9 KR1) bFK 160 [cal z w h,.dat I d] [] ⟨aSR z w h d,.tup [.dat I (nY w h d),.dat I (oI w h d)],[]⟩:=@of_eq _ _ (by kernel_rfl) hvc
theorem bCG(z:Int)(w:List Bool)(h:List Int)(a n:Int): aB Tryz.prog G0 164 [cal z w h,.dat I a,.dat I n] [] ⟨Dj w=7,.fn 222 [.ip I a,.ip I n,.ipv (.fn 265 [.ia .bool w,.ip C (z,w,h)])],[]⟩:=by
 refine aA (c:=mkc KT4) bDG bD hm (aX7 z w h a n ⟨rfl,λhw=>?_⟩)
 exact⟨hw,rfl,rfl,rfl,rfl,rfl,rfl,rfl,trivial⟩
theorem bGd: aI Tryz.prog G0 KR1:=aH (aC λ((z,w,h),a,n,_)=>bCG z w h a n) bDG
theorem aRO{α:Type}{f:Nat->α}{p:α->Bool}{k:Nat}(hp:p (f k)=true): ∀N:Nat,k<N->(((List.range N).map f).filter p)[(((List.range k).map f).filter p).length]?=some (f k)
 | 0,h=>by omega
 | N+1,h=>by
  rw[zT,yG,yQ];rcases zB k N with hk | hk
  .have ih:=aRO hp N hk;rw[vI (qG.1 ih).1];exact ih
  .have e:N=k:=by omega
   subst e;rw[qV (qK _),qBz];simp[hp]
theorem aSp{w:List Bool}{h:List Int}{a n x:Int}(h1:a<=x)(h2:x<a+n)(hw:bV w h x=true): aA7 (nP w h a n) (aAJ w h a x) x:=by
 have e:a+((x-a).toNat:Int)=x:=by omega
 have:=aRO (f:=λ(i:Nat)=>a+(i:Int)) (p:=λd=>bV w h d) (k:=(x-a).toNat) (by simp only[e];exact hw) n.toNat (by omega)
 simp only[e]at this;exact this
theorem aEr{w:List Bool}{h:List Int}{a x:Int}(h1:a<=x): aAJ w h a (x+1)=aAJ w h a x+(if bV w h x then 1 else 0):=by
 unfold aAJ;rw[show(x+1-a).toNat=(x-a).toNat+1 by omega,zT,yG,yQ,qF]
 have e:a+((x-a).toNat:Int)=x:=by omega
 congr 1
 simp only[zG,qCa,e,yU,qBf];split<;>simp_all
theorem aNg(w:List Bool)(h:List Int)(a:Int): aAJ w h a a=0:=by
 unfold aAJ;rw[show(a-a).toNat=0 by omega];rfl
theorem cnt_end{w:List Bool}{h:List Int}{a n x:Int}(hx:aBa a n x)(hge:¬x<a+n): aAJ w h a x=(nP w h a n).length:=by
 unfold aAJ nP;obtain⟨g1,g2⟩:=hx;rw[show(x-a).toNat=n.toNat by omega]
theorem bCC(a n:Int)(w:List Bool)(c:C.den): aBG Tryz.prog G0 222 [.ip I a,.ip I n,.ipv (.fn 265 [.ia .bool w,.ip C c])] ⟨aOE w c.2.2 a n,I,nP w c.2.2 a n⟩:=by
 obtain⟨z,w',h⟩:=c;refine uO (c:=mkc KT4) (A:=bDi w h a n) bDG bD hm ?_;refine aTF z a n w w' h ⟨rfl,rfl,rfl,rfl,λl ⟨hc,b1,b2,b3,b4⟩=>?_⟩
 simp only[aD0,rH,Di,Dk,zQ,qAn,zS,vP,qBg,kU,zY,yB,xZ,qBb,qAs,qAj,kZ,kT,zJ,kK,vU,xH,reduceCtorEq,qAh,kM,Dp,Ei,Ed,Eh,Dh,Dq,Dw,Dc,Dj,Dx,Dz,qE,wF,kV,qBp];refine⟨⟨a,⟨qL _,.inr rfl⟩,rfl,(aNg w h a).symm⟩,λx hx=>?_⟩
 have hx1:=hx.1;have hx2:=hx.2;refine⟨⟨by omega,by omega⟩,λhlt=>⟨⟨hc,by omega,by omega⟩,λhw=>?_,λhw=>?_⟩,λhge=>cnt_end hx hge⟩
 .simp only[hw,aD0,rH,Di,Dk,zQ,qAn,zS,vP,qBg,kU,zY,yB,xZ,qBb,qAs,qAj,kZ,kT,zJ,kK,vU,xH,reduceCtorEq,qAh,kM,Dp,Ei,Ed,Eh,Dh,Dq,Dw,Dc,Dj,Dx,Dz,qE,wF,kV,qBp];refine⟨aSp hx1 hlt hw,λb=>⟨λe1 e2=>(by rw[e1]at e2;cases e2),λhb=>⟨⟨by omega,by omega⟩,x+1,⟨by omega,.inl (by omega)⟩,⟨rfl,?_,hb⟩,by omega⟩⟩⟩
  rw[aEr hx1,hw];rfl
 .simp only[hw,aD0,rH,Di,Dk,zQ,qAn,zS,vP,qBg,kU,zY,yB,xZ,qBb,qAs,qAj,kZ,kT,zJ,kK,vU,xH,reduceCtorEq,qAh,kM,Dp,Ei,Ed,Eh,Dh,Dq,Dw,Dc,Dj,Dx,Dz,qE,wF,kV,qBp];refine⟨⟨by omega,by omega⟩,x+1,⟨by omega,.inl (by omega)⟩,⟨rfl,?_⟩,by omega⟩
  rw[aEr hx1,hw];rfl
theorem bDT: dI Tryz.prog G0 bGu:=by
 intro f caps c h;unfold bGu at h;split at h
 .cases h;exact bCC _ _ _ _
 .cases h
theorem okd{d:Int}(hd:dK d=true): -1000000<=d/\d<=1000000:=by
 unfold dK at hd;exact wM hd
theorem bCA(z:Int)(w:List Bool)(h:List Int)(d:Int): aB Tryz.prog G0 160 [cal z w h,.dat I d] [] ⟨aSR z w h d,.tup [.dat I (nY w h d),.dat I (oI w h d)],[]⟩:=by
 refine aA (c:=bD9 KR1) bGd bDT hm (aXS z w h d ⟨rfl,λ⟨hv,hd⟩=>?_⟩)
 have hc:=aIv hv;have hd':=okd hd;simp only[hv,hd,aD0,rH,Di,Dk,zQ,qAn,zS,vP,qBg,kU,zY,yB,xZ,qBb,qAs,qAj,kZ,kT,zJ,kK,vU,xH,reduceCtorEq,qAh,kM,Dp,Ei,Ed,Eh,Dh,Dq,Dw,Dc,Dj,Dx,Dz,qE,wF,kV,qBp];refine⟨hc.1,⟨hc,by omega,by omega,by omega,by omega⟩,⟨0,rfl,rfl⟩,λx y hx hy=>?_,λx hx hl=>?_⟩
 .have hx:x=0:=hx;subst hx;have:aFm w h d=some y:=by
   have hy:(nP w h d 60)[0]?=some y:=hy;unfold aFm;rw[List.head?_eq_getElem?];exact hy
  simp[nY,oI,this]
 .have hx:x=0:=hx;subst hx;have:aFm w h d=none:=by
   unfold aFm;rw[vT hl.symm];rfl
  simp[nY,oI,this]
theorem aJK{w:List Bool}{h:List Int}{a n y:Int}(hy:y∈nP w h a n): a<=y/\y<a+n/\bV w h y=true:=by
 unfold nP at hy;obtain⟨h1,h2⟩:=xR.1 hy;obtain⟨i,hi,rfl⟩:=wO.1 h1;have:=vN.1 hi;exact⟨by omega,by omega,h2⟩
end Go.Eng.Sv
set_option maxRecDepth 100000
noncomputable section
namespace Go.Eng.Sv
open Go.Proofs
abbrev aF9(t:TypeId)(e:Int): Value:=.iface t (.int .i64 e)
abbrev Stp: Ty:=.pair I (.pair I (.pair I I))
abbrev Stop:=Int×Int×Int×Int
abbrev Pl: Ty:=.pair I (.pair I (.pair M (.sl M)))
abbrev Plan:=Int×Int×List (List Int)×List (List (List Int))
def jF(t:Int): Bool:=decide (0<=t/\t<=2000000)
def fV(n:Net)(o:Int): Off:=n.2.2.2.1.getD o.toNat (⟨#[]⟩,0,0,0,0,0,[])
def aDh(n:Net)(l:Int): Line:=n.2.2.2.2.1.getD l.toNat (⟨#[]⟩,0,0,0,0,0)
def aS(n:Net)(o:Int): Int×List Bool×List Int:=n.1.getD (fV n o).2.2.1.toNat (0,[],[])
def lH(n:Net)(l:Int): Int:=(aDh n l).2.1
def aMS(n:Net)(l:Int): Int:=(aDh n l).2.2.1
def aOk(n:Net)(l:Int): Int:=(aDh n l).2.2.2.1
def sD(n:Net)(l:Int): Int:=(aDh n l).2.2.2.2.1
def aAL(n:Net)(o:Int): Prop:=noF n=true/\0<=o/\o<n.2.2.2.1.length
def aRh(n:Net)(l:Int): Prop:=noF n=true/\0<=l/\l<n.2.2.2.2.1.length
def bU(n:Net)(o l:Int): Bool:=decide (l=-1)||(jT l n.2.2.2.2.1.length&&decide (lH n l=o))
def rowOk(n:Net)(o:Int)(row:List Int): Bool:=decide ((row.length:Int)=n.2.2.2.1.length)&&row.all (bU n o)
def aBk(n:Net)(nx:List (List Int)): Bool:=decide ((nx.length:Int)=n.2.2.2.1.length)&&(List.range nx.length).all λi=>rowOk n i (nx.getD i [])
def gZ(nx:List (List Int)): Prop:=nx.length<=1000000/\∀r∈nx,r.length<=1000000
def aMy(n:Net)(nx:List (List Int))(k:Int): Prop:=0<=k/\k<=nx.length/\(nx.length:Int)=n.2.2.2.1.length/\∀i:Nat,(i:Int)<k->rowOk n i (nx.getD i [])=true
def aUW(n:Net)(o:Int)(row:List Int)(k:Int): Prop:=0<=k/\k<=row.length/\(row.length:Int)=n.2.2.2.1.length/\∀i:Nat,(i:Int)<k->bU n o (row.getD i 0)=true
def d0F(c:Int×List Bool×List Int)(m t:Int): Int:=if m<aRc c.1 t then pJ c.1 t+1 else pJ c.1 t
def oQ(c:Int×List Bool×List Int)(m t:Int): Int:=if oI c.2.1 c.2.2 (d0F c m t)=0 then iK c.1 (nY c.2.1 c.2.2 (d0F c m t)) m else 0
def aBy(c:Int×List Bool×List Int)(m t:Int): Int:=oI c.2.1 c.2.2 (d0F c m t)
def aIF(c:Int×List Bool×List Int)(m t:Int): Prop:=aO c.1 c.2.1 c.2.2=true/\0<=m/\m<1440/\-1000000<=t/\t<=100000000
def aZ(n:Net)(o t:Int): Int:=t+(fV n o).2.2.2.2.1*(fV n o).2.2.2.2.2.1
def mQ(n:Net)(o t:Int): Prop:=aAL n o/\-1000000000<=t/\t<=1000000000
def aFP(n:Net)(l t:Int): Int:=if jF t=true then oQ (aS n (lH n l)) (aOk n l) t else 0
def aEp(n:Net)(l t:Int): Int:=if jF t=true then aBy (aS n (lH n l)) (aOk n l) t else 1
def isZero(e:Int): Bool:=decide (e=0)
def KR2: Kt:=kOr 160 (aP [.row C,.val I] (λ(c,d,_)=>aSR c.1 c.2.1 c.2.2 d) λ(c,d,_)=>.tup [.dat I (nY c.2.1 c.2.2 d),.dat I (oI c.2.1 c.2.2 d)]) KR1
theorem aNB(i l:Int)(hvc:
 let c1:=Ed i 0;true/\(True->(c1->c1->c1)/\(c1->c1->c1)/\(Di true c1->c1)/\Ec c1 (Dp i l) false=jT i l/\True)):
  evF (mkc KR2) aQ 89 [.dat I i,.dat I l] [] ⟨True,.dat .bool (jT i l),[]⟩:=@of_eq _ _ (by kernel_rfl) hvc
theorem aKK(t:Int)(hvc:
 let c1:=Ed t 0;true/\(True->(c1->c1->c1)/\(Di true c1->c1)/\Ec c1 (Eh t 2000000) false=jF t/\True)):
  evF (mkc KR2) aQ 90 [.dat I t] [] ⟨True,.dat .bool (jF t),[]⟩:=@of_eq _ _ (by kernel_rfl) hvc
theorem aTn(v e:Int)(hvc:
 let c1:=Eb e 0;let c2:=chainOf (Value.iface (39) (Value.int IntKind.i64 e));true/\(True->(c1->(true->True/\(false=false->isZero e=false/\true/\c2=c2))/\True)/\(c1=false->isZero e/\v=v/\True))):
  evC (mkc KR2) aQ 97 [.dat I v,.dat I e] (.dat I v) ⟨True,isZero e,aF9 39 e⟩:=@of_eq _ _ (by kernel_rfl) hvc
theorem aNE(b:Bool)(hvc:
 let c1:=chainOf (Value.iface (39) (Value.int IntKind.i64 (1:Int)));true/\(True->(Dk b->(true->True/\(false=false->b=false/\true/\c1=c1))/\True)/\(Dk b=false->b/\True))):
  evC (mkc KR2) aQ 95 [.dat .bool b] (.tup []) ⟨True,b,aF9 39 1⟩:=@of_eq _ _ (by kernel_rfl) hvc
theorem aTs(e:Int)(hvc:
 true/\(True->(true->e=e/\True)/\(true=false->1=e/\True))):
  evF (mkc KR2) aQ 94 [.ifc 39 (.dat I e)] [] ⟨True,.dat I e,[]⟩:=@of_eq _ _ (by kernel_rfl) hvc
theorem aPj(cs:LC)(ns os:LB)(fs:List Off)(ls:List Line)(ks:List Cla)(hvc:
 let c1:=(cs,ns,os,fs,ls,ks);true/\(True->True/\Ea (Df (mD c1)) 0=bZ c1/\True)):
  evF (mkc KR2) aQ 47 [.ip N (cs,ns,os,fs,ls,ks)] [] ⟨True,.dat .bool (bZ (cs,ns,os,fs,ls,ks)),[]⟩:=@of_eq _ _ (by kernel_rfl) hvc
theorem aPm(o:Int)(cs:LC)(ns os:LB)(fs:List Off)(ls:List Line)(ks:List Cla)(hvc:
 let c1:=(cs,ns,os,fs,ls,ks);let c2:=(Du fs (Dc o) (ByteArray.mk #[],(0:Int),(0:Int),(0:Int),(0:Int),(0:Int),Dt ByteArray)).2.2.1;let c3:=Du cs (Dc c2) ((0:Int),Dt Bool,Dt Int);let c4:=aS c1 o;true/\(aAL c1 o->0<=o/\o<Df fs/\0<=c2/\c2<Df cs/\1=1/\0=0/\1=1/\0=0/\c3.1=c4.1/\c3.2.1=c4.2.1/\c3.2.2=c4.2.2/\True)):
  evF (mkc KR2) aQ 92 [.ip N (cs,ns,os,fs,ls,ks),.dat I o] [] ⟨aAL (cs,ns,os,fs,ls,ks) o,cal (aS (cs,ns,os,fs,ls,ks) o).1 (aS (cs,ns,os,fs,ls,ks) o).2.1 (aS (cs,ns,os,fs,ls,ks) o).2.2,[]⟩:=@of_eq _ _ (by kernel_rfl) hvc
theorem aPl(z m t:Int)(w:List Bool)(h:List Int)(hvc:
 let c1:=(z,w,h);let c2:=Dp m (aRc z t);let c3:=pJ z t+1;let c4:=oI w h c3;let c5:=Eb c4 0;let c6:=oQ c1 m t;let c7:=aBy c1 m t;let c8:=nY w h c3;let c9:=oI w h (pJ z t);let c10:=Eb c9 0;let c11:=nY w h (pJ z t);true/\(aIF c1 m t->oG z w h t/\(c2->inR IntKind.i64 c3/\aSR z w h c3/\(c5->0=c6/\c4=c7/\True)/\(c5=false->oO z w h c8 m/\iK z c8 m=c6/\0=c7/\True))/\(c2=false->aSR z w h (pJ z t)/\(c10->0=c6/\c9=c7/\True)/\(c10=false->oO z w h c11 m/\iK z c11 m=c6/\0=c7/\True)))):
  evF (mkc KR2) aQ 91 [cal z w h,.dat I m,.dat I t] [] ⟨aIF (z,w,h) m t,.tup [.dat I (oQ (z,w,h) m t),.dat I (aBy (z,w,h) m t)],[]⟩:=@of_eq _ _ (by kernel_rfl) hvc
theorem aPk(o t:Int)(cs:LC)(ns os:LB)(fs:List Off)(ls:List Line)(ks:List Cla)(hvc:
 let c1:=(cs,ns,os,fs,ls,ks);let c2:=(Du fs (Dc o) (ByteArray.mk #[],(0:Int),(0:Int),(0:Int),(0:Int),(0:Int),Dt ByteArray)).2.2.2.2;let c3:=c2.1*c2.2.1;let c4:=t+c3;true/\(mQ c1 o t->0<=o/\o<Df fs/\0<=o/\o<Df fs/\inR IntKind.i64 c3/\inR IntKind.i64 c4/\c4=aZ c1 o t/\True)):
  evF (mkc KR2) aQ 166 [.ip N (cs,ns,os,fs,ls,ks),.dat I o,.dat I t] [] ⟨mQ (cs,ns,os,fs,ls,ks) o t,.dat I (aZ (cs,ns,os,fs,ls,ks) o t),[]⟩:=@of_eq _ _ (by kernel_rfl) hvc
def aZZ(n:Net)(nx:List (List Int)): Ann:=⟨λid s=>match id with
 | 4=>some {α:=Int,inv:=λk=>aMy n nx k,st:=λk=>put s [(19,.dat I k)],μ:=λk=>Dc (Dh (Df nx) k)}
 | 9=>match s.sig.T 19,s.sig.T 32 with
  | .dat (.int .i64) o,.dat (.sl (.int .i64)) row=>some {α:=Int,inv:=λk=>aUW n o row k,st:=λk=>put s [(34,.dat I k)],μ:=λk=>Dc (Dh (Df row) k)}
  | _,_=>none
 | _=>none,λ_ _=>none,λ_ _=>none⟩
def KR3: Kt:=kOr 89 (aP [.val I,.val I] (λ_=>True) λ(i,l,_)=>.dat .bool (jT i l)) <|
 kOr 90 (aP [.val I] (λ_=>True) λ(t,_)=>.dat .bool (jF t)) <|
 kOr 47 (aP [.ptr N] (λ_=>True) λ(n,_)=>.dat .bool (bZ n)) <|
 kOr 92 (aP [.ptr N,.val I] (λ(n,o,_)=>aAL n o) λ(n,o,_)=>cal (aS n o).1 (aS n o).2.1 (aS n o).2.2) <|
 kOr 91 (aP [.row C,.val I,.val I] (λ(c,m,t,_)=>aIF c m t) λ(c,m,t,_)=>.tup [.dat I (oQ c m t),.dat I (aBy c m t)]) <|
 kOr 166 (aP [.ptr N,.val I,.val I] (λ(n,o,t,_)=>mQ n o t) λ(n,o,t,_)=>.dat I (aZ n o t)) <|
 kOr 97 (aP [.val I,.val I] (λ(_,e,_)=>True/\isZero e=true) λ(v,_,_)=>.dat I v) <|
 kOr 95 (aP [.val .bool] (λ(b,_)=>True/\b=true) λ_=>.tup []) KR2
theorem aNC(nx:List (List Int))(cs:LC)(ns os:LB)(fs:List Off)(ls:List Line)(ks:List Cla)(hvc:
 let c1:=Df fs;let c2:=Eb (Df nx) c1;let c3:=(cs,ns,os,fs,ls,ks);let c4:=aBk c3 nx;let c5:=Df ls;true/\(gZ nx->(c2->false=c4/\True)/\(c2=false->(∃x,aMy c3 nx x/\c3=c3/\nx=nx/\Df nx=Df nx/\0=x/\True)/\∀(x:Int),let c6:=Dp x (Df nx);let c7:=Du nx (Dc x) [];let c8:=Df c7;let c9:=Eb c8 c1;let c10:=x+1;aMy c3 nx x->(c6->0<=x/\x<Df nx/\(c9->false=c4/\True)/\(c9=false->(∃x_4,aUW c3 x c7 x_4/\c3=c3/\x=x/\c7=c7/\nx=nx/\Df nx=Df nx/\x=x/\c7=c7/\c8=c8/\0=x_4/\True)/\∀(x_4:Int),let c11:=Du c7 (Dc x_4) 0;let c12:=Eb c11 (-1);let c13:=Dk (jT c11 c5);let c14:=Ec c12 (Ec c13 true (Eb (Du ls (Dc c11) (ByteArray.mk #[],(0:Int),(0:Int),(0:Int),(0:Int),(0:Int))).2.1 x)) false;let c15:=x_4+1;
 aUW c3 x c7 x_4->(Dp x_4 c8->0<=x_4/\x_4<c8/\(c12->c12->c12)/\(c12->c12->c12)/\(c12->c12->c12)/\(c12->c12->c12)/\(c12->c12->c12)/\(c12->c12->c12)/\(c12->True)/\(c12->c12->c12)/\(c12->c12->c12)/\(Di c12 (Dk c13)->Di c12 (Dk c13)->Di c12 (Dk c13))/\(Di c12 (Dk c13)->Di c12 (Dk c13)->Di c12 (Dk c13))/\(Di c12 (Dk c13)->Di c12 (Dk c13)->Di c12 (Dk c13))/\(Di c12 (Dk c13)->Di c12 (Dk c13)->Di c12 (Dk c13))/\(Di c12 (Dk c13)->Di c12 (Dk c13)->Di c12 (Dk c13))/\(Di c12 (Dk c13)->0<=c11)/\(Di c12 (Dk c13)->c11<c5)/\(Di c12 (Dk c13)->Di c12 (Dk c13)->Di c12 (Dk c13))/\(Di c12 (Dk c13)->Di c12 (Dk c13)->Di c12 (Dk c13))/\(Di c12 (Dk c13)->Di c12 (Dk c13)->Di c12 (Dk c13))/\(Di c12 (Dk c13)->Di c12 (Dk c13)->Di c12 (Dk c13))/\(c12->c12->c12)/\(c12->Di c12 (Dk c13)->Di c12 (Dk c13))/\(Di true c12->c12)/\(c14->false=c4/\True)/\(c14=false->inR IntKind.i64 c15/\∃y,aUW c3 x c7 y/\(c3=c3/\x=x/\c7=c7/\nx=nx/\Df nx=Df nx/\x=x/\c7=c7/\c8=c8/\c15=y/\True)/\Dc (c8-y)<Dc (c8-x_4)))/\(Dp x_4 c8=false->inR IntKind.i64 c10/\∃y,aMy c3 nx y/\(c3=c3/\nx=nx/\Df nx=Df nx/\c10=y/\True)/\Dc (Df nx-y)<Dc (Df nx-x))))/\(c6=false->true=c4/\True)))):
  evF (mkc KR3) (lvA [(4,[0,4,5,6,8,17,18,19,32,33,34]),(9,[0,4,5,6,8,17,18,19,32,33,34])] (aZZ (cs,ns,os,fs,ls,ks) nx)) 48 [.ip N (cs,ns,os,fs,ls,ks),.dat M nx] [] ⟨gZ nx,.dat .bool (aBk (cs,ns,os,fs,ls,ks) nx),[]⟩:=@of_eq _ _ (by kernel_rfl) hvc
theorem aND(l t:Int)(cs:LC)(ns os:LB)(fs:List Off)(ls:List Line)(ks:List Cla)(hvc:
 let c1:=(cs,ns,os,fs,ls,ks);let c2:=aFP c1 l t;let c3:=aEp c1 l t;let c4:=(Du ls (Dc l) (ByteArray.mk #[],(0:Int),(0:Int),(0:Int),(0:Int),(0:Int))).2;let c8:=(aS c1 c4.1);true/\(aRh c1 l->True/\(Dk (jF t)->0=c2/\1=c3/\True)/\(Dk (jF t)=false->0<=l/\l<Df ls/\aAL c1 c4.1/\0<=l/\l<Df ls/\aIF c8 c4.2.2.1 t/\oQ c8 c4.2.2.1 t=c2/\aBy c8 c4.2.2.1 t=c3/\True))):
  evF (mkc KR3) aQ 165 [.ip N (cs,ns,os,fs,ls,ks),.dat I l,.dat I t] [] ⟨aRh (cs,ns,os,fs,ls,ks) l,.tup [.dat I (aFP (cs,ns,os,fs,ls,ks) l t),.dat I (aEp (cs,ns,os,fs,ls,ks) l t)],[]⟩:=@of_eq _ _ (by kernel_rfl) hvc
theorem aGr: aI Tryz.prog G0 KR2:=aH (aC λ((z,w,h),d,_)=>bCA z w h d) bGd
theorem nK(cs:LC)(ns os:LB)(fs:List Off)(ls:List Line)(ks:List Cla){o:Int}(h:aAL (cs,ns,os,fs,ls,ks) o): 0<=(fV (cs,ns,os,fs,ls,ks) o).2.2.1/\(fV (cs,ns,os,fs,ls,ks) o).2.2.1<cs.length/\aO (aS (cs,ns,os,fs,ls,ks) o).1 (aS (cs,ns,os,fs,ls,ks) o).2.1 (aS (cs,ns,os,fs,ls,ks) o).2.2=true/\1<=(fV (cs,ns,os,fs,ls,ks) o).2.2.2.2.1/\(fV (cs,ns,os,fs,ls,ks) o).2.2.2.2.1<=4/\1<=(fV (cs,ns,os,fs,ls,ks) o).2.2.2.2.2.1/\(fV (cs,ns,os,fs,ls,ks) o).2.2.2.2.2.1<=240:=by
 obtain⟨hno,l0,l1⟩:=h;have l1:o<fs.length:=l1;have ho:fV (cs,ns,os,fs,ls,ks) o∈fs:=by
  show fs.getD o.toNat _∈fs;rw[qA,qB (by omega),qQ]
  exact wH _
 have gc:=(pG cs ns os fs ls ks hno).2.2.2 _ ho;unfold iZ jT jU at gc;simp only[qC,qE]at gc;obtain⟨⟨⟨⟨⟨⟨_,g1⟩,_⟩,_⟩,_⟩,g2⟩,g3⟩:=gc;have g1:0<=(fV (cs,ns,os,fs,ls,ks) o).2.2.1/\(fV (cs,ns,os,fs,ls,ks) o).2.2.1<(cs.length:Int):=g1;have hc:=((aEn (by decide)).1 (rZ cs ns os fs ls ks hno).2.1).2.2.2
 have hcl:(aU cs ns).length=cs.length:=by unfold aU;simp
 have:=hc (fV (cs,ns,os,fs,ls,ks) o).2.2.1.toNat (by omega)
 unfold dH at this;rw[aBt (λc:Int×List Bool×List Int=>aO c.1 c.2.1 c.2.2) cs _ (0,[],[]) false (by omega)]at this
 exact⟨g1.1,g1.2,this,g2.1,g2.2,g3.1,g3.2⟩
theorem aJM(cs:LC)(ns os:LB)(fs:List Off)(ls:List Line)(ks:List Cla){l:Int}(h:aRh (cs,ns,os,fs,ls,ks) l): 0<=lH (cs,ns,os,fs,ls,ks) l/\lH (cs,ns,os,fs,ls,ks) l<fs.length/\0<=aMS (cs,ns,os,fs,ls,ks) l/\aMS (cs,ns,os,fs,ls,ks) l<fs.length/\0<=aOk (cs,ns,os,fs,ls,ks) l/\aOk (cs,ns,os,fs,ls,ks) l<=1439/\1<=sD (cs,ns,os,fs,ls,ks) l/\sD (cs,ns,os,fs,ls,ks) l<=5000:=by
 obtain⟨hno,l0,l1⟩:=h;have l1:l<ls.length:=l1;have hl:aDh (cs,ns,os,fs,ls,ks) l∈ls:=by
  show ls.getD l.toNat _∈ls;rw[qA,qB (by omega),qQ]
  exact wH _
 obtain⟨g1,g2,g3,g4,g5,g6,g7,g8⟩:=sH ((aA1 cs ns os fs ls ks hno).2.2.2 _ hl);exact⟨g1,g2,g3,g4,g6.1,g6.2,g7,g8⟩
theorem aCz{w:List Bool}{h:List Int}{d:Int}(he:oI w h d=0): d<=nY w h d/\nY w h d<d+60/\bV w h (nY w h d)=true:=by
 unfold oI at he;unfold nY;cases hn:aFm w h d with
 | none=>rw[hn]at he;simp at he
 | some y=>
  have:y∈nP w h d 60:=qBx (by unfold aFm at hn;rw[hn];rfl)
  exact aJK this
theorem aXi{c:Int×List Bool×List Int}{m t:Int}(hp:aIF c m t): -1000<=d0F c m t/\d0F c m t<=100000:=by
 obtain⟨hv,h1,h2,h3,h4⟩:=hp;obtain⟨⟨v1,v2,_,_⟩,_⟩:=fQ.1 hv;unfold d0F pJ;split<;>omega
theorem rE{d:Int}(h1:-1000000<=d)(h2:d<=1000000): dK d=true:=by
 unfold dK;exact qW ⟨h1,h2⟩
theorem aP1(i l:Int): aB Tryz.prog G0 89 [.dat I i,.dat I l] [] ⟨True,.dat .bool (jT i l),[]⟩:=by
 refine aA (c:=mkc KR2) aGr bD hm (aNB i l ⟨rfl,λ_=>⟨λh _=>h,λh _=>h,λh=>by simpa[Di]using h,?_,trivial⟩⟩)
 unfold jT;simp only[Ec,Ed,Dp,kQ];by_cases h:0<=i<;>simp[h]
theorem aNV(t:Int): aB Tryz.prog G0 90 [.dat I t] [] ⟨True,.dat .bool (jF t),[]⟩:=by
 refine aA (c:=mkc KR2) aGr bD hm (aKK t ⟨rfl,λ_=>⟨λh _=>h,λh=>by simpa[Di]using h,?_,trivial⟩⟩)
 unfold jF;simp only[Ec,Ed,Eh,kQ];by_cases h:0<=t<;>simp[h]
theorem aP0(v e:Int): aB Tryz.prog G0 97 [.dat I v,.dat I e] [] ⟨True/\isZero e=true,.dat I v,[]⟩/\iT Tryz.prog G0 97 [.dat I v,.dat I e] [] ⟨True,isZero e,aF9 39 e⟩:=by
 refine jG (c:=mkc KR2) aGr bD hm aDM (aTn v e ⟨rfl,λ_=>⟨λh=>⟨λ_=>⟨trivial,λ_=>⟨?_,rfl,rfl⟩⟩,trivial⟩,λh=>⟨?_,rfl,trivial⟩⟩⟩)
 .unfold isZero;simpa[Eb]using h
 .unfold isZero;simpa[Eb]using h
theorem aIN(b:Bool): aB Tryz.prog G0 95 [.dat .bool b] [] ⟨True/\b=true,.tup [],[]⟩/\iT Tryz.prog G0 95 [.dat .bool b] [] ⟨True,b,aF9 39 1⟩:=by
 refine jG (c:=mkc KR2) aGr bD hm aDM (aNE b ⟨rfl,λ_=>⟨λh=>⟨λ_=>⟨trivial,λ_=>⟨?_,rfl,rfl⟩⟩,trivial⟩,λh=>⟨?_,trivial⟩⟩⟩)
 .simpa[Dk]using h
 .simpa[Dk]using h
theorem aYG(e:Int): aB Tryz.prog G0 94 [.ifc 39 (.dat I e)] [] ⟨True,.dat I e,[]⟩:=
 aA (c:=mkc KR2) aGr bD hm (aTs e ⟨rfl,λ_=>⟨λ_=>⟨rfl,trivial⟩,λh=>by cases h⟩⟩)
theorem aGC{n:Net}: bZ n=decide (((mD n).length:Int)=0):=by
 unfold bZ;cases mD n with
 | nil=>rfl
 | cons a l=>simp;omega
theorem aUh(cs:LC)(ns os:LB)(fs:List Off)(ls:List Line)(ks:List Cla): aB Tryz.prog G0 47 [.ip N (cs,ns,os,fs,ls,ks)] [] ⟨True,.dat .bool (bZ (cs,ns,os,fs,ls,ks)),[]⟩:=
 aA (c:=mkc KR2) aGr bD hm (aPj cs ns os fs ls ks ⟨rfl,λ_=>⟨trivial,by rw[aGC];rfl,trivial⟩⟩)
theorem aUk(o:Int)(cs:LC)(ns os:LB)(fs:List Off)(ls:List Line)(ks:List Cla): aB Tryz.prog G0 92 [.ip N (cs,ns,os,fs,ls,ks),.dat I o] [] ⟨aAL (cs,ns,os,fs,ls,ks) o,cal (aS (cs,ns,os,fs,ls,ks) o).1 (aS (cs,ns,os,fs,ls,ks) o).2.1 (aS (cs,ns,os,fs,ls,ks) o).2.2,[]⟩:=by
 refine aA (c:=mkc KR2) aGr bD hm (aPm o cs ns os fs ls ks ⟨rfl,λhp=>?_⟩)
 obtain⟨g1,g2,_⟩:=nK cs ns os fs ls ks hp;exact⟨hp.2.1,hp.2.2,g1,g2,rfl,rfl,rfl,rfl,rfl,rfl,rfl,trivial⟩
theorem aUj(m t:Int)(c:C.den): aB Tryz.prog G0 91 [cal c.1 c.2.1 c.2.2,.dat I m,.dat I t] [] ⟨aIF c m t,.tup [.dat I (oQ c m t),.dat I (aBy c m t)],[]⟩:=by
 obtain⟨z,w,h⟩:=c;refine aA (c:=mkc KR2) aGr bD hm (aPl z m t w h ⟨rfl,λhp=>?_⟩)
 obtain⟨b1,b2⟩:=aXi hp;obtain⟨hv,h1,h2,h3,h4⟩:=id hp;simp only[qc,Di,Es,Dk,qd,Dt,Ea,Eb,Dp,Ei,Eh,Ed,Ew,Df,Et,Dl,Dn,Eo,Dy,Dw,Dh,Dq,Ee,Fg,Dc,Dx,Dj,Dz,Ej,Du,Eu,Ez,En,Ef,Fe,Fj,Fh,Ep,Em,Ey,Fb];have key:∀d,d=d0F (z,w,h) m t->aSR z w h d/\(¬oI w h d=0->(0:Int)=oQ (z,w,h) m t/\oI w h d=aBy (z,w,h) m t)/\(oI w h d=0->oO z w h (nY w h d) m/\iK z (nY w h d) m=oQ (z,w,h) m t/\(0:Int)=aBy (z,w,h) m t):=by
  rintro d rfl;refine⟨⟨hv,rE (by omega) (by omega)⟩,λh0=>⟨(if_neg h0).symm,rfl⟩,λh0=>?_⟩
  obtain⟨q1,q2,q3⟩:=aCz h0;exact⟨⟨hv,rE (by omega) (by omega),h1,h2⟩,(if_pos h0).symm,h0.symm⟩
 refine⟨⟨hv,by omega,by omega⟩,λhlt=>?_,λhge=>?_⟩
 .have e:pJ z t+1=d0F (z,w,h) m t:=(if_pos hlt).symm;obtain⟨q1,q2,q3⟩:=key _ e;exact⟨by unfold inR;simp only;omega,q1,q2,q3⟩
 .have e:pJ z t=d0F (z,w,h) m t:=(if_neg hge).symm;exact key _ e
theorem aUi(o t:Int)(cs:LC)(ns os:LB)(fs:List Off)(ls:List Line)(ks:List Cla): aB Tryz.prog G0 166 [.ip N (cs,ns,os,fs,ls,ks),.dat I o,.dat I t] [] ⟨mQ (cs,ns,os,fs,ls,ks) o t,.dat I (aZ (cs,ns,os,fs,ls,ks) o t),[]⟩:=by
 refine aA (c:=mkc KR2) aGr bD hm (aPk o t cs ns os fs ls ks ⟨rfl,λhp=>?_⟩)
 obtain⟨ho,b1,b2⟩:=hp;obtain⟨_,_,_,g1,g2,g3,g4⟩:=nK cs ns os fs ls ks ho;obtain⟨x,hx⟩:∃x,x=(fV (cs,ns,os,fs,ls,ks) o).2.2.2.2.1:=⟨_,rfl⟩;obtain⟨y,hy⟩:∃y,y=(fV (cs,ns,os,fs,ls,ks) o).2.2.2.2.2.1:=⟨_,rfl⟩;rw[<- hx]at g1 g2;rw[<- hy]at g3 g4;have m1:0<=x*y:=gJ (by omega) (by omega)
 have m2:x*y<=4*240:=xK g2 g4 (by omega) (by omega)
 have e:aZ (cs,ns,os,fs,ls,ks) o t=t+x*y:=by rw[hx,hy];rfl
 refine⟨ho.2.1,ho.2.2,ho.2.1,ho.2.2,?_,?_,rfl,trivial⟩
 .show inR .i64 ((fV (cs,ns,os,fs,ls,ks) o).2.2.2.2.1*(fV (cs,ns,os,fs,ls,ks) o).2.2.2.2.2.1);rw[<- hx,<- hy];unfold inR;simp only;omega
 .show inR .i64 (t+(fV (cs,ns,os,fs,ls,ks) o).2.2.2.2.1*(fV (cs,ns,os,fs,ls,ks) o).2.2.2.2.2.1);rw[<- hx,<- hy];unfold inR;simp only;omega
end Go.Eng.Sv
set_option maxRecDepth 100000
namespace Go.Eng.Sv
open Go.Proofs
theorem bEq: aI Tryz.prog G0 KR3:=aH (aC λ(i,l,_)=>aP1 i l)<|aH (aC λ(t,_)=>aNV t)<|aH (aC λ((cs,ns,os,fs,ls,ks),_)=>aUh cs ns os fs ls ks) <|
 aH (aC λ((cs,ns,os,fs,ls,ks),o,_)=>aUk o cs ns os fs ls ks)<|aH (aC λ(c,m,t,_)=>aUj m t c)<|aH (aC λ((cs,ns,os,fs,ls,ks),o,t,_)=>aUi o t cs ns os fs ls ks) <|
 aH (aC λ(v,e,_)=>(aP0 v e).1)<|aH (aC λ(b,_)=>(aIN b).1) aGr
theorem aEG{n:Net}{nx:List (List Int)}(hl:(nx.length:Int)=n.2.2.2.1.length): aBk n nx=true↔∀i:Nat,(i:Int)<nx.length->rowOk n i (nx.getD i [])=true:=by
 unfold aBk;simp only[qC,qE,qM,vN];exact⟨λh i hi=>h.2 i (by omega),λh=>⟨hl,λi hi=>h i (by omega)⟩⟩
theorem aHJ{n:Net}{o:Int}{row:List Int}(hl:(row.length:Int)=n.2.2.2.1.length): rowOk n o row=true↔∀i:Nat,(i:Int)<row.length->bU n o (row.getD i 0)=true:=by
 unfold rowOk;simp only[qC,qE,qM];refine⟨λh i hi=>h.2 _ ?_,λh=>⟨hl,λx hx=>?_⟩⟩
 .rw[qA,qB (by omega),qQ];exact wH _
 .obtain⟨i,hi,rfl⟩:=wY.1 hx;have:=h i (by omega)
  rw[qA,qB hi,qQ]at this;exact this
theorem aWi(n:Net)(o l:Int): Ec (Eb l (-1)) (Ec (Dk (jT l (Df n.2.2.2.2.1))) true (Eb (lH n l) o)) false=!bU n o l:=by
 unfold bU;simp only[Ec,Eb,Dk,Df];by_cases h:l=-1
 .simp[h]
 .have hb:(l != -1)=true:=by simpa using h
  rw[hb];cases hi:jT l n.2.2.2.2.1.length
  .simp[h]
  .by_cases hf:lH n l=o<;>simp[h,hf]
theorem aP2(nx:List (List Int))(cs:LC)(ns os:LB)(fs:List Off)(ls:List Line)(ks:List Cla): aB Tryz.prog G0 48 [.ip N (cs,ns,os,fs,ls,ks),.dat M nx] [] ⟨gZ nx,.dat .bool (aBk (cs,ns,os,fs,ls,ks) nx),[]⟩:=by
 refine aA (c:=mkc KR3) bEq bD hm (aNC nx cs ns os fs ls ks ⟨rfl,λhf=>?_⟩)
 have ec:∀l x:Int,Ec (Eb l (-1)) (Ec (Dk (jT l (Df ls))) true (Eb (Du ls (Dc l) (ByteArray.mk (Dt UInt8).toArray,(0:Int),(0:Int),(0:Int),(0:Int),(0:Int))).snd.fst x)) false=!bU (cs,ns,os,fs,ls,ks) x l:=λl x=>aWi (cs,ns,os,fs,ls,ks) x l
 simp only[ec];simp only[qc,Di,Es,Dk,qd,Dt,Ea,Eb,Dp,Ei,Eh,Ed,Ew,Df,Et,Dl,Dn,Eo,Dy,Dw,Dh,Dq,Ee,Fg,Dc,Dx,Dj,Dz,Ej,Du,Eu,Ez,En,Ef,Fe,Fj,Fh,Ep,Em,Ey,Fb];obtain⟨hf1,hf2⟩:=hf;have hz:∀x l:Int,¬l=-1/\jT l ls.length=true->0<=l/\l<ls.length:=λx l h=>by
  have:=h.2;unfold jT at this;simpa using this
 have hr:∀x:Int,0<=x->x<nx.length->(nx.getD x.toNat []).length<=1000000:=λx h0 h1=>hf2 _ (by
  rw[qA,qB (by omega),qQ];exact wH _)
 have hct:∀x:Int,0<=x->((x.toNat:Nat):Int)=x:=λx h=>by omega
 refine⟨λhne=>?_,λhe=>⟨⟨qL _,by omega,he,λi h=>by omega⟩,λx hx=>⟨λhlt=>⟨hx.1,hlt,λhr'=>?_,λhr'=>⟨⟨qL _,by omega,hr',λi h=>by omega⟩,λy hy=>⟨λhlty=>⟨hy.1,hlty,λh=>(hz x _ h).1,λh=>(hz x _ h).2,λhc=>?_,λhc=>?_⟩,λhgey=>?_⟩⟩⟩,λhge=>?_⟩⟩⟩
 .unfold aBk;rw[vG hne];rfl
 .refine(kP.2 λht=>hr' ?_).symm
  have h:=(aEG he).1 ht x.toNat (by have:=hx.1;omega)
  unfold rowOk at h;simp only[qC,qE]at h;exact h.1
 .refine(kP.2 λht=>?_).symm
  have h:=(aEG he).1 ht x.toNat (by have:=hx.1;omega)
  rw[hct x hx.1]at h;have h2:=(aHJ (n:=(cs,ns,os,fs,ls,ks)) hr').1 h y.toNat (by have:=hy.1;omega)
  rw[h2]at hc;cases hc
 .have h1:=hr x hx.1 hlt;refine⟨by unfold inR;simp only;have:=hy.1;omega,y+1,⟨by have:=hy.1;omega,by omega,hr',λi hi=>?_⟩,rfl,by have:=hy.1;omega⟩
  by_cases h:(i:Int)<y
  .exact hy.2.2.2 i h
  .have:i=y.toNat:=by omega
   rw[this];exact hc
 .refine⟨by unfold inR;simp only;have:=hx.1;omega,x+1,⟨by have:=hx.1;omega,by omega,he,λi hi=>?_⟩,rfl,by have:=hx.1;omega⟩
  by_cases h:(i:Int)<x
  .exact hx.2.2.2 i h
  .have:i=x.toNat:=by have:=hx.1;omega
   rw[this,hct x hx.1];exact(aHJ (n:=(cs,ns,os,fs,ls,ks)) hr').2 λj hj=>hy.2.2.2 j (by omega)
 .exact((aEG he).2 λi hi=>hx.2.2.2 i (by omega)).symm
theorem aP3(l t:Int)(cs:LC)(ns os:LB)(fs:List Off)(ls:List Line)(ks:List Cla): aB Tryz.prog G0 165 [.ip N (cs,ns,os,fs,ls,ks),.dat I l,.dat I t] [] ⟨aRh (cs,ns,os,fs,ls,ks) l,.tup [.dat I (aFP (cs,ns,os,fs,ls,ks) l t),.dat I (aEp (cs,ns,os,fs,ls,ks) l t)],[]⟩:=by
 refine aA (c:=mkc KR3) bEq bD hm (aND l t cs ns os fs ls ks ⟨rfl,λhp=>?_⟩)
 simp only[qc,Di,Es,Dk,qd,Dt,Ea,Eb,Dp,Ei,Eh,Ed,Ew,Df,Et,Dl,Dn,Eo,Dy,Dw,Dh,Dq,Ee,Fg,Dc,Dx,Dj,Dz,Ej,Du,Eu,Ez,En,Ef,Fe,Fj,Fh,Ep,Em,Ey,Fb];refine⟨λh=>?_,λh=>?_⟩
 .unfold aFP aEp;rw[h];exact⟨rfl,rfl⟩
 .obtain⟨g1,g2,g3,g4,g5,g6,g7,g8⟩:=aJM cs ns os fs ls ks hp;have ho:aAL (cs,ns,os,fs,ls,ks) (lH (cs,ns,os,fs,ls,ks) l):=⟨hp.1,g1,g2⟩;have hv:=(nK cs ns os fs ls ks ho).2.2.1;have ht:0<=t/\t<=2000000:=wM h;have hf:aIF (aS (cs,ns,os,fs,ls,ks) (lH (cs,ns,os,fs,ls,ks) l)) (aOk (cs,ns,os,fs,ls,ks) l) t:=⟨hv,g5,by omega,by omega,by omega⟩
  have e1:aFP (cs,ns,os,fs,ls,ks) l t=oQ (aS (cs,ns,os,fs,ls,ks) (lH (cs,ns,os,fs,ls,ks) l)) (aOk (cs,ns,os,fs,ls,ks) l) t:=if_pos h;have e2:aEp (cs,ns,os,fs,ls,ks) l t=aBy (aS (cs,ns,os,fs,ls,ks) (lH (cs,ns,os,fs,ls,ks) l)) (aOk (cs,ns,os,fs,ls,ks) l) t:=if_pos h;exact⟨hp.2.1,hp.2.2,ho,hp.2.1,hp.2.2,hf,e1.symm,e2.symm⟩
end Go.Eng.Sv
set_option maxRecDepth 100000
noncomputable section
namespace Go.Eng.Sv
open Go.Proofs
def nxt(nx:List (List Int))(o d:Int): Int:=(nx.getD o.toNat []).getD d.toNat 0
def aAK(n:Net)(nx:List (List Int))(to:Int): Nat->Int->Int->List Stop×Int
 | 0,o,t=>if o=to then([(o,t,-1,-1)],0)else if nxt nx o to=-1 then([],170)else if aEp n (nxt nx o to) (aZ n o t)=0 then([],170)else([],aEp n (nxt nx o to) (aZ n o t))
 | k+1,o,t=>if o=to then([(o,t,-1,-1)],0)else if nxt nx o to=-1 then([],170)else if aEp n (nxt nx o to) (aZ n o t)=0 then
   if(aAK n nx to k (aMS n (nxt nx o to)) (aFP n (nxt nx o to) (aZ n o t)+sD n (nxt nx o to))).2=0 then
    ((o,t,aFP n (nxt nx o to) (aZ n o t),nxt nx o to)::(aAK n nx to k (aMS n (nxt nx o to)) (aFP n (nxt nx o to) (aZ n o t)+sD n (nxt nx o to))).1,0)
   else([],(aAK n nx to k (aMS n (nxt nx o to)) (aFP n (nxt nx o to) (aZ n o t)+sD n (nxt nx o to))).2)
  else([],aEp n (nxt nx o to) (aZ n o t))
def aGc(n:Net)(nx:List (List Int))(o to t:Int): List Stop:=(aAK n nx to 19 o t).1
def sZ(n:Net)(nx:List (List Int))(o to t:Int): Int:=(aAK n nx to 19 o t).2
def aMb(n:Net)(nx:List (List Int))(o to t:Int): Prop:=bZ n=true/\aBk n nx=true/\0<=o/\o<n.2.2.2.1.length/\0<=to/\to<n.2.2.2.1.length/\0<=t/\t<=2200000
def aJm(d:List Stop)(r:List Stop×Int): List Stop×Int:=if r.2=0 then(d++r.1,0)else([],r.2)
def aWE(n:Net)(nx:List (List Int))(o0 to t0:Int)(x:List Stop×Int×Int): Prop:=aMb n nx x.2.1 to x.2.2/\x.1.length<=19/\aAK n nx to 19 o0 t0=aJm x.1 (aAK n nx to (19-x.1.length) x.2.1 x.2.2)
def wSt(x:List Stop×Int×Int): List Stop:=x.1++[(x.2.1,x.2.2,-1,-1)]
def bEA(n:Net)(nx:List (List Int))(o0 to t0:Int): Ann:=⟨λid s=>match id with
 | 3=>match s.sig.T 19 with
  | .buf nm _=>some {α:=List Stop×Int×Int,inv:=λx=>aWE n nx o0 to t0 x,st:=λx=>pX (put (flat s) [(11,.buf nm (Dj (wSt x))),(12,.dat I (Df x.1))]) nm (.buf 81 Stp (wSt x) []),μ:=λx=>Dc (Dh 20 (Df x.1))}
  | _=>none
 | _=>none,λ_ _=>none,λ_ _=>none⟩
def KR4: Kt:=kOr 48 (aP [.ptr N,.val M] (λ(_,nx,_)=>gZ nx) λ(n,nx,_)=>.dat .bool (aBk n nx)) <|
 kOr 165 (aP [.ptr N,.val I,.val I] (λ(n,l,_)=>aRh n l) λ(n,l,t,_)=>.tup [.dat I (aFP n l t),.dat I (aEp n l t)]) KR3
def KPm: KPt:=pOr 97 (aGm [.val I,.val I] λ(_,e,_)=>⟨True,isZero e,aF9 39 e⟩) Go.Eng.noP
noncomputable def mkp(K:Kt)(mb:Tmp->Bool)(KP:KPt)(pf:FuncId->Bool): Cfg:=⟨Tryz.prog,G0,K,mb,KI0,false,KP,pf⟩
def cW: Cfg:=mkp KR4 (λt=>t==19) KPm (λf=>f==97)
theorem aTl(nx:List (List Int))(o to t:Int)(cs:LC)(ns os:LB)(fs:List Off)(ls:List Line)(ks:List Cla)(hvc:
 let c1:=(cs,ns,os,fs,ls,ks);let c2:=((-1:Int),(-1:Int));let c3:=((0:Int),(0:Int),(0:Int),(0:Int));let c4:=sZ c1 nx o to t;let c5:=isZero c4;let c6:=chainOf (Value.iface (39) (Value.int IntKind.i64 c4));let c7:=(ByteArray.mk #[],(0:Int),c3);true/\(aMb c1 nx o to t->(∃(x:List Stop×Int×Int),aWE c1 nx o to t x/\c1=c1/\nx=nx/\o=o/\to=to/\t=t/\Value.slice none (0) (0)=Value.slice none (0) (0)/\1=Dj (wSt x)/\0=Df x.1/\o=o/\t=t/\o=o/\t=t/\(-1:Int)=(-1:Int)/\(-1:Int)=(-1:Int)/\1=1/\[(o,t,c2)]=wSt x/\True)/\∀(x:List (Int×Int×Int×Int)×Int×Int),let c8:=Dj (wSt x);let c9:=Df x.1;let c10:=Dc c9;let c11:=Du (wSt x) c10 c3;let c12:=c11.1;let c13:=Eb c12 to;let c14:=Du nx (Dc c12) [];let c15:=Du c14 (Dc to) 0;let c16:=Ea c15 (-1);let c17:=c11.2;let c18:=En (wSt x) c10 (c12,c17.1,c17.2.1,c15);let c19:=Du c18 c10 c3;let c20:=c19.1;let c21:=c19.2;let c22:=c21.1;let c23:=aZ c1 c20 c22;let c24:=aEp c1 c15 c23;let c25:=isZero c24;let c26:=En c18 c10 (c20,c22,aFP c1 c15 c23,c21.2.2);let c27:=Ea (Int.ofNat c8) 20;let c28:=(Du ls (Dc c15) c7).2.2;let c29:=(Du c26 c10 c3).2.2.1+c28.2.2.1;let c30:=[(c28.1,c29,c2)];let c31:=c8+Dj c30;let c32:=c9+1;
 aWE c1 nx o to t x->c8=c8/\0<=c9/\c9<Dx c8/\c8=c8/\c8=c8/\(c13->c8=c8/\0<=c9/\c9<Dx c8/\c8=c8/\c8=c8/\c8=c8/\0<=c12/\c12<Df nx/\0<=to/\to<Df c14/\(c16->(true->True/\(false=false->c5=false/\true/\chainOf (Value.iface (39) (Value.int IntKind.i64 (170:Int)))=c6))/\True)/\(c16=false->c8=c8/\c8=c8/\c8=c8/\Dj c18=c8/\Dj c18=c8/\Dj c18=c8/\Dj c18=c8/\Dj c18=c8/\Dj c18=c8/\mQ c1 c20 c22/\aRh c1 c15/\True/\(c25->Dj c18=c8/\Dj c18=c8/\Dj c18=c8/\Dj c18=c8/\Dj c18=c8/\Dj c18=c8/\mQ c1 c20 c22/\aRh c1 c15/\(True/\c25)/\Dj c18=c8/\Dj c18=c8/\Dj c18=c8/\Dj c26=c8/\(c27->(true->True/\(false=false->c5=false/\true/\chainOf (Value.iface (39) (Value.int IntKind.i64 (170:Int)))=c6))/\True)/\(c27=false->0<=c15/\c15<Df ls/\1=1/\0=0/\1=1/\1=1/\0=0/\Dj c26=c8/\Dj c26=c8/\Dj c26=c8/\1=1/\1=1/\0=0/\inR IntKind.i64 c29/\Dj c26=c8/\(c31*(32))<=(140737488355328)/\c31<=(9223372036854775807)/\inR IntKind.i64 c32/\∃(y:List Stop×Int×Int),let c33:=Df y.1;aWE c1 nx o to t y/\(c1=c1/\nx=nx/\o=o/\to=to/\t=t/\Value.slice none (0) (0)=Value.slice none (0) (0)/\c31=Dj (wSt y)/\c32=c33/\o=o/\t=t/\o=o/\t=t/\(-1:Int)=(-1:Int)/\(-1:Int)=(-1:Int)/\1=1/\Ef c26 c30=wSt y/\True)/\Dc (20-c33)<Dc (20-c9)))/\(c25=false->c5=false/\true/\chainOf (Value.iface (39) (Value.int IntKind.i64 c24))=c6)))/\(c13=false->c5/\c8=c8/\wSt x=aGc c1 nx o to t/\True))):
  evC cW (bEA (cs,ns,os,fs,ls,ks) nx o to t) 102 [.ip N (cs,ns,os,fs,ls,ks),.dat M nx,.dat I o,.dat I to,.dat I t] (.dat (.sl Stp) (aGc (cs,ns,os,fs,ls,ks) nx o to t)) ⟨aMb (cs,ns,os,fs,ls,ks) nx o to t,isZero (sZ (cs,ns,os,fs,ls,ks) nx o to t),aF9 39 (sZ (cs,ns,os,fs,ls,ks) nx o to t)⟩:=@of_eq _ _ (by kernel_rfl) hvc
theorem bGV: aI Tryz.prog G0 KR4:=aH (aC λ((cs,ns,os,fs,ls,ks),nx,_)=>aP2 nx cs ns os fs ls ks)<|aH (aC λ((cs,ns,os,fs,ls,ks),l,t,_)=>aP3 l t cs ns os fs ls ks) bEq
theorem aXw: fC Tryz.prog G0 KPm:=rC (sQ λ(v,e,_)=>(aP0 v e).2) aDM
theorem bED(d:List Stop)(o t:Int)(z:Stop): (wSt (d,o,t)).getD d.length z=(o,t,-1,-1):=by simp[wSt,qA]
theorem bEC(d:List Stop)(o t:Int)(v:Stop): (wSt (d,o,t)).set d.length v=d++[v]:=by simp[wSt]
theorem bF6(d:List Stop)(v z:Stop): (d++[v]).getD d.length z=v:=by simp[qA]
theorem bF5(d:List Stop)(v w:Stop): (d++[v]).set d.length w=d++[w]:=by simp
theorem bAZ(d:List Stop)(o t:Int): (wSt (d,o,t)).length=d.length+1:=by simp[wSt]
theorem iV{e:Int}: isZero e=true↔e=0:=by simp[isZero]
theorem lX{e:Int}: isZero e=false↔e≠0:=by simp[isZero]
theorem dP(cs:LC)(ns os:LB)(fs:List Off)(ls:List Line)(ks:List Cla)(h:bZ (cs,ns,os,fs,ls,ks)=true): noF (cs,ns,os,fs,ls,ks)=true:=((aHf cs ns os fs ls ks).1 (wQ.1 h)).1
theorem tJ{c:Int×List Bool×List Int}{m t:Int}(hv:aO c.1 c.2.1 c.2.2=true)(he:aBy c m t=0)(m0:0<=m)(m1:m<=1439): t<=oQ c m t/\oQ c m t<=t+90000:=by
 obtain⟨z,w,h⟩:=c;obtain⟨⟨v1,v2,_,_⟩,_⟩:=fQ.1 hv;have he':oI w h (d0F (z,w,h) m t)=0:=he;obtain⟨q1,q2,_⟩:=aCz he';have e:oQ (z,w,h) m t=iK z (nY w h (d0F (z,w,h) m t)) m:=if_pos he';rw[e];unfold iK;generalize nY w h (d0F (z,w,h) m t)=nd at *;have hd:d0F (z,w,h) m t=if m<(t+z)%1440 then(t+z)/1440+1 else(t+z)/1440:=rfl
 rw[hd]at q1 q2;simp only at v1 v2;split at q1<;>rename_i hs<;>simp only[hs,xX,yS]at q2<;>omega
theorem aHb(cs:LC)(ns os:LB)(fs:List Off)(ls:List Line)(ks:List Cla){l t:Int}(hl:aRh (cs,ns,os,fs,ls,ks) l)(he:aEp (cs,ns,os,fs,ls,ks) l t=0): 0<=t/\t<=2000000/\t<=aFP (cs,ns,os,fs,ls,ks) l t/\aFP (cs,ns,os,fs,ls,ks) l t<=t+90000:=by
 obtain⟨g1,g2,g3,g4,g5,g6,g7,g8⟩:=aJM cs ns os fs ls ks hl;have ho:aAL (cs,ns,os,fs,ls,ks) (lH (cs,ns,os,fs,ls,ks) l):=⟨hl.1,g1,g2⟩;have hv:=(nK cs ns os fs ls ks ho).2.2.1;have hk:jF t=true:=by
  cases h:jF t with
  | true=>rfl
  | false=>unfold aEp at he;rw[h]at he;cases he
 have ht:0<=t/\t<=2000000:=wM hk;have e1:aFP (cs,ns,os,fs,ls,ks) l t=oQ (aS (cs,ns,os,fs,ls,ks) (lH (cs,ns,os,fs,ls,ks) l)) (aOk (cs,ns,os,fs,ls,ks) l) t:=if_pos hk;have e2:aEp (cs,ns,os,fs,ls,ks) l t=aBy (aS (cs,ns,os,fs,ls,ks) (lH (cs,ns,os,fs,ls,ks) l)) (aOk (cs,ns,os,fs,ls,ks) l) t:=if_pos hk;rw[e2]at he;rw[e1];exact⟨ht.1,ht.2,tJ hv he g5 g6⟩
theorem aMa{n:Net}{nx:List (List Int)}{to o t:Int}(k:Nat)(h:o=to): aAK n nx to k o t=([(o,t,-1,-1)],0):=by cases k<;>exact if_pos h
theorem aCh{n:Net}{nx:List (List Int)}{to o t:Int}(k:Nat)(h:o≠to)(h1:nxt nx o to=-1): aAK n nx to k o t=([],170):=by cases k<;>(unfold aAK;rw[if_neg h,if_pos h1])
theorem aEz{n:Net}{nx:List (List Int)}{to o t:Int}(k:Nat)(h:o≠to)(h1:nxt nx o to≠-1)(h2:aEp n (nxt nx o to) (aZ n o t)≠0): aAK n nx to k o t=([],aEp n (nxt nx o to) (aZ n o t)):=by cases k<;>(unfold aAK;rw[if_neg h,if_neg h1,if_neg h2])
theorem aEh{n:Net}{nx:List (List Int)}{to o t:Int}(h:o≠to)(h1:nxt nx o to≠-1)(h2:aEp n (nxt nx o to) (aZ n o t)=0): aAK n nx to 0 o t=([],170):=by unfold aAK;rw[if_neg h,if_neg h1,if_pos h2]
theorem aEg{n:Net}{nx:List (List Int)}{to o t:Int}(k:Nat)(h:o≠to)(h1:nxt nx o to≠-1)(h2:aEp n (nxt nx o to) (aZ n o t)=0):
  aAK n nx to (k+1) o t=aJm [(o,t,aFP n (nxt nx o to) (aZ n o t),nxt nx o to)] (aAK n nx to k (aMS n (nxt nx o to)) (aFP n (nxt nx o to) (aZ n o t)+sD n (nxt nx o to))):=by
 rw[aAK,if_neg h,if_neg h1,if_pos h2];rfl
theorem aME{d:List Stop}{r:List Stop×Int}(h:r.2≠0): (aJm d r).2=r.2:=by unfold aJm;rw[if_neg h]
theorem aZv{d:List Stop}{r:List Stop×Int}(h:r.2=0): aJm d r=(d++r.1,0):=by unfold aJm;rw[if_pos h]
theorem aHQ(d e:List Stop)(r:List Stop×Int): aJm d (aJm e r)=aJm (d++e) r:=by
 unfold aJm;by_cases h:r.2=0
 .simp[h]
 .simp[h]
theorem aMD{n:Net}{nx:List (List Int)}{to:Int}: ∀(k:Nat) (o t:Int),aJm [] (aAK n nx to k o t)=aAK n nx to k o t:=λk o t=>by
 by_cases h:o=to
 .rw[aMa k h];rfl
 .by_cases h1:nxt nx o to=-1
  .rw[aCh k h h1];rfl
  .by_cases h2:aEp n (nxt nx o to) (aZ n o t)=0
   .cases k with
    | zero=>rw[aEh h h1 h2];rfl
    | succ k=>rw[aEg k h h1 h2,aHQ];rfl
   .rw[aEz k h h1 h2];unfold aJm;rw[if_neg h2]
theorem aAd(cs:LC)(ns os:LB)(fs:List Off)(ls:List Line)(ks:List Cla){nx:List (List Int)}(ht:aBk (cs,ns,os,fs,ls,ks) nx=true){o d:Int}(o0:0<=o)(o1:o<fs.length)(d0:0<=d)(d1:d<fs.length): (nx.length:Int)=fs.length/\((nx.getD o.toNat []).length:Int)=fs.length/\(nxt nx o d≠-1->(0<=nxt nx o d/\nxt nx o d<ls.length)/\lH (cs,ns,os,fs,ls,ks) (nxt nx o d)=o):=by
 have hl:(nx.length:Int)=fs.length:=by
  unfold aBk at ht;simp only[qC,qE]at ht;exact ht.1
 have h:=(aEG (n:=(cs,ns,os,fs,ls,ks)) hl).1 ht o.toNat (by omega)
 have hr:((nx.getD o.toNat []).length:Int)=fs.length:=by
  unfold rowOk at h;simp only[qC,qE]at h;exact h.1
 refine⟨hl,hr,λhne=>?_⟩
 have h2:=(aHJ (n:=(cs,ns,os,fs,ls,ks)) hr).1 h d.toNat (by omega)
 unfold bU jT at h2;simp only[yP,qC,qE]at h2;rcases h2 with h2 | ⟨h2,h3⟩
 .exact absurd h2 hne
 .exact⟨h2,h3.trans (by omega)⟩
theorem bC{x:Int}(h:-1000000000000<=x/\x<=1000000000000): inR .i64 x:=by unfold inR;simp only;omega
theorem aPY(nx:List (List Int))(o to t:Int)(cs:LC)(ns os:LB)(fs:List Off)(ls:List Line)(ks:List Cla): aB Tryz.prog G0 102 [.ip N (cs,ns,os,fs,ls,ks),.dat M nx,.dat I o,.dat I to,.dat I t] [] ⟨aMb (cs,ns,os,fs,ls,ks) nx o to t/\isZero (sZ (cs,ns,os,fs,ls,ks) nx o to t)=true,.dat (.sl Stp) (aGc (cs,ns,os,fs,ls,ks) nx o to t),[]⟩/\iT Tryz.prog G0 102 [.ip N (cs,ns,os,fs,ls,ks),.dat M nx,.dat I o,.dat I to,.dat I t] [] ⟨aMb (cs,ns,os,fs,ls,ks) nx o to t,isZero (sZ (cs,ns,os,fs,ls,ks) nx o to t),aF9 39 (sZ (cs,ns,os,fs,ls,ks) nx o to t)⟩:=by
 refine jG (c:=cW) bGV bD hm aXw (aTl nx o to t cs ns os fs ls ks ⟨rfl,λhp=>?_⟩)
 simp only[qc,Di,Es,Dk,qd,Dt,Ea,Eb,Dp,Ei,Eh,Ed,Ew,Df,Et,Dl,Dn,Eo,Dy,Dw,Dh,Dq,Ee,Fg,Dc,Dx,Dj,Dz,Ej,Du,Eu,Ez,En,Ef,Fe,Fj,Fh,Ep,Em,Ey,Fb];refine⟨?_,?_⟩
 .exact⟨([],o,t),⟨hp,by simp,(aMD 19 o t).symm⟩,rfl,rfl,rfl⟩
 rintro⟨d,u,v⟩ hx;simp only[bED,bEC,bF6,bF5,bAZ,qF,vV,zS];obtain⟨⟨hs,ht,u0,u1,o0,o1,v0,v1⟩,hd,hw⟩:=hx;simp only at u0 u1 o0 o1 v0 v1 hd hw;have hno:=dP cs ns os fs ls ks hs;obtain⟨c1,c2,c3⟩:=aAd cs ns os fs ls ks ht u0 u1 o0 o1;have ec:(nx.getD u.toNat []).getD to.toNat 0=nxt nx u to:=rfl;rw[ec];generalize hln:nxt nx u to=ln at *;have hoff:aAL (cs,ns,os,fs,ls,ks) u:=⟨hno,u0,u1⟩
 have hW:sZ (cs,ns,os,fs,ls,ks) nx o to t=(aJm d (aAK (cs,ns,os,fs,ls,ks) nx to (19-d.length) u v)).2:=by unfold sZ;rw[hw]
 have hL:aGc (cs,ns,os,fs,ls,ks) nx o to t=(aJm d (aAK (cs,ns,os,fs,ls,ks) nx to (19-d.length) u v)).1:=by unfold aGc;rw[hw]
 have hroute:u≠to->aAK (cs,ns,os,fs,ls,ks) nx to (19-d.length) u v=([],170)->isZero (sZ (cs,ns,os,fs,ls,ks) nx o to t)=false/\chainOf (Value.iface 39 (Value.int IntKind.i64 170))=chainOf (aF9 39 (sZ (cs,ns,os,fs,ls,ks) nx o to t)):=λ_ h=>by
  have:sZ (cs,ns,os,fs,ls,ks) nx o to t=170:=by rw[hW,h];rfl
  rw[this];exact⟨rfl,rfl⟩
 refine⟨by omega,by omega,λhne=>⟨by omega,by omega,u0,by rw[c1];exact u1,o0,by rw[c2];exact o1,λhm=>hroute hne (aCh _ hne (hln.trans hm)),λhm=>?_⟩,λhe=>?_⟩
 .have hm':nxt nx u to≠-1:=by rw[hln];exact hm
  obtain⟨⟨l0,l1⟩,lf⟩:=c3 hm;have hlin:aRh (cs,ns,os,fs,ls,ks) ln:=⟨hno,l0,l1⟩;have hr:mQ (cs,ns,os,fs,ls,ks) u v:=⟨hoff,by omega,by omega⟩
  refine⟨hr,hlin,λhz=>⟨hr,hlin,hz,λh20=>hroute hne ?_,λh20=>?_⟩,λhz=>?_⟩
  .rw[show 19-d.length=0 by omega]
   exact aEh hne hm' (by rw[hln];exact iV.1 hz)
  .have hz0:=iV.1 hz;obtain⟨b1,b2,b3,b4⟩:=aHb cs ns os fs ls ks hlin hz0;obtain⟨g1,g2,g3,g4,g5,g6,g7,g8⟩:=aJM cs ns os fs ls ks hlin;have et:(ls.getD ln.toNat (⟨#[]⟩,0,0,0,0,0)).2.2.2.2.1=sD (cs,ns,os,fs,ls,ks) ln:=rfl;have eo:(ls.getD ln.toNat (⟨#[]⟩,0,0,0,0,0)).2.2.1=aMS (cs,ns,os,fs,ls,ks) ln:=rfl;rw[et,eo]
   have hnx:=aEg (n:=(cs,ns,os,fs,ls,ks)) (nx:=nx) (to:=to) (o:=u) (t:=v) (19-(d.length+1)) hne hm' (by rw[hln];exact hz0)
   rw[show 19-(d.length+1)+1=19-d.length by omega,hln]at hnx
   refine⟨l0,l1,bC (by omega),by omega,by omega,bC (by omega),(d++[(u,v,aFP (cs,ns,os,fs,ls,ks) ln (aZ (cs,ns,os,fs,ls,ks) u v),ln)],aMS (cs,ns,os,fs,ls,ks) ln,aFP (cs,ns,os,fs,ls,ks) ln (aZ (cs,ns,os,fs,ls,ks) u v)+sD (cs,ns,os,fs,ls,ks) ln),⟨⟨hs,ht,g3,g4,o0,o1,by simp only;omega,by simp only;omega⟩,by simp;omega,?_⟩,⟨by rw[bAZ];simp,by simp,rfl⟩,by simp;omega⟩
   show aAK (cs,ns,os,fs,ls,ks) nx to 19 o t=_;rw[hw,hnx,aHQ];simp
  .have hz0:=lX.1 hz;have:=aEz (n:=(cs,ns,os,fs,ls,ks)) (nx:=nx) (to:=to) (o:=u) (t:=v) (19-d.length) hne hm' (by rw[hln];exact hz0)
   rw[hln]at this;have:sZ (cs,ns,os,fs,ls,ks) nx o to t=aEp (cs,ns,os,fs,ls,ks) ln (aZ (cs,ns,os,fs,ls,ks) u v):=by rw[hW,this];exact aME hz0
   rw[this];exact⟨hz,rfl⟩
 .have:=aMa (n:=(cs,ns,os,fs,ls,ks)) (nx:=nx) (to:=to) (o:=u) (t:=v) (19-d.length) he;rw[hW,hL,this];exact⟨rfl,rfl⟩
end Go.Eng.Sv
set_option maxRecDepth 100000
namespace Go.Eng.Sv
open Go.Proofs
noncomputable def aON(args:List AV)(m:Mem): Option aAb:=match args,m with
 | [.ifc t (.dat (.int .i64) e)],[]=>if t=39 then some ⟨True,.dat I e,[]⟩else none
 | _,_=>none
noncomputable def KR5: Kt:=kOr 94 aON <|
 kOr 102 (aP [.ptr N,.val M,.val I,.val I,.val I] (λ(n,nx,o,to,t,_)=>aMb n nx o to t/\isZero (sZ n nx o to t)=true) λ(n,nx,o,to,t,_)=>.dat (.sl Stp) (aGc n nx o to t)) KR4
noncomputable def KPw: KPt:=pOr 102 (aGm [.ptr N,.val M,.val I,.val I,.val I] λ(n,nx,o,to,t,_)=>⟨aMb n nx o to t,isZero (sZ n nx o to t),aF9 39 (sZ n nx o to t)⟩) <|
 pOr 95 (aGm [.val .bool] λ(b,_)=>⟨True,b,aF9 39 1⟩) KPm
theorem aV7: ∀args m c,aON args m=some c->aB Tryz.prog G0 94 args m c:=by
 intro args m c h;unfold aON at h;split at h
 .split at h
  .rename_i e;subst e;cases h;exact aYG _
  .cases h
 .cases h
theorem bGU: aI Tryz.prog G0 KR5:=aH aV7<|aH (aC λ((cs,ns,os,fs,ls,ks),nx,o,to,t,_)=>(aPY nx o to t cs ns os fs ls ks).1) bGV
theorem aXv: fC Tryz.prog G0 KPw:=rC (sQ λ((cs,ns,os,fs,ls,ks),nx,o,to,t,_)=>(aPY nx o to t cs ns os fs ls ks).2)<|rC (sQ λ(b,_)=>(aIN b).2) aXw
end Go.Eng.Sv
set_option maxRecDepth 100000
noncomputable section
namespace Go.Eng.Sv
open Go.Proofs
def bF4(w:List Bool)(h:List Int): Nat->Int->Option Int
 | 0,d=>some d
 | n+1,d=>(aFm w h (d+1)).bind (bF4 w h n)
def dM(n:Net)(k:Int): Cla:=n.2.2.2.2.2.getD k.toNat (⟨#[]⟩,0,0)
def aIq(n:Net)(k:Int): Prop:=0<=k/\k<n.2.2.2.2.2.length
def aVW(n:Net)(k o t:Int): Int:=oQ (aS n o) (dM n k).2.2 (aZ n o t)
def bAO(n:Net)(k o t:Int): Int:=aBy (aS n o) (dM n k).2.2 (aZ n o t)
theorem aVj(cs:LC)(ns os:LB)(fs:List Off)(ls:List Line)(ks:List Cla)(h:noF (cs,ns,os,fs,ls,ks)=true): ∀x∈ks,rF x=true:=
 ((aAo (by decide) (λl:Cla=>l.1) rF ks).1 (rZ cs ns os fs ls ks h).2.2.2.2.2).2.2.2
theorem aCY(cs:LC)(ns os:LB)(fs:List Off)(ls:List Line)(ks:List Cla){k:Int}(h:noF (cs,ns,os,fs,ls,ks)=true)(hk:aIq (cs,ns,os,fs,ls,ks) k): (0<=(dM (cs,ns,os,fs,ls,ks) k).2.1/\(dM (cs,ns,os,fs,ls,ks) k).2.1<=1439)/\0<=(dM (cs,ns,os,fs,ls,ks) k).2.2/\(dM (cs,ns,os,fs,ls,ks) k).2.2<=1439:=by
 obtain⟨k0,k1⟩:=hk;have k1:k<(ks.length:Int):=k1;have hm:dM (cs,ns,os,fs,ls,ks) k∈ks:=by
  show ks.getD k.toNat _∈ks;rw[qA,qB (by omega),qQ]
  exact wH _
 have:=aVj cs ns os fs ls ks h _ hm;unfold rF jU at this;simp only[qC,qE]at this;omega
theorem aQN(cs:LC)(ns os:LB)(fs:List Off)(ls:List Line)(ks:List Cla){o t:Int}(h:aAL (cs,ns,os,fs,ls,ks) o): t+1<=aZ (cs,ns,os,fs,ls,ks) o t/\aZ (cs,ns,os,fs,ls,ks) o t<=t+960:=by
 obtain⟨_,_,_,g1,g2,g3,g4⟩:=nK cs ns os fs ls ks h;unfold aZ;have h1:1*1<=(fV (cs,ns,os,fs,ls,ks) o).2.2.2.2.1*(fV (cs,ns,os,fs,ls,ks) o).2.2.2.2.2.1:=xK g1 g3 (by decide) (by omega)
 have h2:(fV (cs,ns,os,fs,ls,ks) o).2.2.2.2.1*(fV (cs,ns,os,fs,ls,ks) o).2.2.2.2.2.1<=4*240:=xK g2 g4 (by omega) (by decide)
 omega
theorem bAp{w:List Bool}{h:List Int}: ∀(k:Nat) {d e:Int},bF4 w h k d=some e->d<=e/\e<=d+61*k
 | 0,d,e,g=>by cases g;omega
 | k+1,d,e,g=>by
  unfold bF4 at g;obtain⟨y,h1,h2⟩:=qDg.1 g;have hm:y∈nP w h (d+1) 60:=qBx (by unfold aFm at h1;rw[h1];rfl)
  have:=aJK hm;have:=bAp k h2;omega
end Go.Eng.Sv
set_option maxRecDepth 100000
noncomputable section
namespace Go.Eng.Sv
open Go.Proofs
def bAF(xs:List Int)(k:Nat): Prop:=xs.length=k
def aNv(xs ys:List Int): Prop:=xs.length+ys.length<=1000000000000
def upR(l:List Int)(b k:Int): List Int:=(l.take k.toNat).map λx=>x+b
def upTo(l:List Int)(k:Int): Prop:=0<=k/\k<=l.length
def rsP(b:Int)(l xs:List Int)(k:Nat): Prop:=(xs.length=k/\xs.length+l.length<=1000000000000)/\-1000000<=b/\b<=1000000/\∀x∈l,-1000000000<=x/\x<=1000000000
def wHd(n:Net)(p:Plan)(a:AV): List AV:=[.dat (.sl C) n.1,.dat (.sl S) n.2.1,.dat (.sl S) n.2.2.1,.dat (.sl (.pair S (.pair I (.pair I (.pair I (.pair I (.pair I (.sl S)))))))) n.2.2.2.1,.dat (.sl (.pair S (.pair I (.pair I (.pair I (.pair I I)))))) n.2.2.2.2.1,.dat (.sl (.pair S (.pair I I))) n.2.2.2.2.2,.dat I p.1,.dat I p.2.1,.dat M p.2.2.1,.dat (.sl M) p.2.2.2,a]
def aBD(n:Net)(p:Plan)(k:Nat)(xs:List Int): Mem:=[(2,.var (wHd n p (.buf 3 k))),(3,.buf 3 I xs [])]
def oL(t:Ty): AV->Option t.den
 | .dat t' x=>if h:t'=t then some (h▸x)else none
 | _=>none
def bEj: List AV->Option (Net×Plan×AV)
 | [a1,a2,a3,a4,a5,a6,a7,a8,a9,a10,a]=>match oL (.sl C) a1,oL (.sl S) a2,oL (.sl S) a3,oL (.sl Of) a4,oL (.sl Ln) a5,oL (.sl Kl) a6,oL I a7,oL I a8,oL M a9,oL (.sl M) a10 with
  | some cs,some ns,some os,some fs,some ls,some ks,some p1,some p2,some p3,some p4=>some ((cs,ns,os,fs,ls,ks),(p1,p2,p3,p4),a)
  | _,_,_,_,_,_,_,_,_,_=>none
 | _=>none
def asW(m:Mem): Option (Net×Plan×Nat×List Int):=match m with
 | [(2,.var cells),(3,.buf el tx xs [])]=>match bEj cells,oL R (.dat (.sl tx) xs)with
  | some (n,p,.buf 3 k),some ys=>if el=3 then some (n,p,k,ys)else none
  | _,_=>none
 | _=>none
def bEa(a b:List AV->Mem->Option aAb): List AV->Mem->Option aAb:=λargs m=>match a args m with
 | some c=>some c
 | none=>b args m
def wK(l:List AK)(pre:AKs l->Net->Plan->Nat->List Int->Prop)(ret:AKs l->Net->Plan->AV)(add:AKs l->Net->Plan->List Int)(args:List AV)(m:Mem): Option aAb:=match asW m,ofK l args with
 | some (n,p,k,xs),some x=>some ⟨pre x n p k xs,ret x n p,aBD n p (Dz k (Dj (add x n p))) (Ef xs (add x n p))⟩
 | _,_=>none
def wR(l:List AK)(pre:AKs l->Net->Plan->Nat->List Int->Prop)(ret:AKs l->Net->Plan->AV)(args:List AV)(m:Mem): Option aAb:=match asW m,ofK l args with
 | some (n,p,k,xs),some x=>some ⟨pre x n p k xs,ret x n p,[]⟩
 | _,_=>none
def wP(l:List AK)(q:AKs l->Net->Plan->Nat->List Int->aHl)(args:List AV)(m:Mem): Option aHl:=match asW m,ofK l args with
 | some (n,p,k,xs),some x=>some (q x n p k xs)
 | _,_=>none
def asI: AV->Option (Net×Plan)
 | .ips cells=>match bEj cells with
  | some (n,p,.top)=>some (n,p)
  | _=>none
 | _=>none
def wI(l:List AK)(pre:AKs l->Net->Plan->Prop)(ret:AKs l->Net->Plan->AV)(args:List AV)(m:Mem): Option aAb:=match m,args with
 | [],a::ar=>match asI a,ofK l ar with
  | some (n,p),some x=>some ⟨pre x n p,ret x n p,[]⟩
  | _,_=>none
 | _,_=>none
theorem bBp(k:Nat)(xs ys:List Int)(n:Net)(p:Plan)(hvc:
 let c3:=n.2.2.2;let c1:=Dj (Ef xs ys);let c2:=k+Dj ys;true/\(bAF xs k/\aNv xs ys->1=1/\Dj xs<=c1/\1=1/\1=1/\1=1/\0=0/\Dj xs=k/\(c2*(8))<=(140737488355328)/\c2<=(9223372036854775807)/\1=1/\1=1/\1=1/\0=0/\c1=c2/\n.1=n.1/\n.2.1=n.2.1/\n.2.2.1=n.2.2.1/\c3.1=c3.1/\c3.2.1=c3.2.1/\c3.2.2=c3.2.2/\p.1=p.1/\p.2.1=p.2.1/\p.2.2.1=p.2.2.1/\p.2.2.2=p.2.2.2/\c2=c2/\Ef xs ys=Ef xs ys/\1=1/\Dj xs=Dj xs/\True)):
  evF (mkc KR2) aQ 66 [.ptr 2 1 0 0,.dat R ys] (aBD n p k xs) ⟨bAF xs k/\aNv xs ys,.tup [],aBD n p (Dz k (Dj ys)) (Ef xs ys)⟩:=@of_eq _ _ (by kernel_rfl) hvc
def KW1: Kt:=kOr 66 (wK [.mp 2,.val R] (λ(_,ys,_) _ _ k xs=>bAF xs k/\aNv xs ys) (λ_ _ _=>.tup []) λ(_,ys,_) _ _=>ys) KR2
def rsA(b:Int)(l xs:List Int)(n:Net)(p:Plan): Ann:=⟨λid s=>match id with
 | 1=>some {α:=Int,inv:=λj=>upTo l j,st:=λj=>{put (flat s) [(10,.dat I j)]with mem:=aBD n p (Dz (Dj xs) (Dj (upR l b j))) (Ef xs (upR l b j))},μ:=λj=>Dc (Dh (Df l) j)}
 | _=>none,λ_ _=>none,λ_ _=>none⟩
theorem aPh(b:Int)(k:Nat)(l xs:List Int)(n:Net)(p:Plan)(hvc:
 let c7:=n.2.1;let c6:=p.2.1;let c5:=n.2.2.1;let c4:=p.2.2;let c3:=n.2.2.2;let c1:=upR l b (Df l);let c2:=Ef xs c1;true/\(rsP b l xs k->1=1/\Dj xs<=Dj c2/\(∃x,upTo l x/\1=1/\0=0/\0=0/\b=b/\l=l/\Df l=Df l/\0=x/\n.1=n.1/\c7=c7/\c5=c5/\c3.1=c3.1/\c3.2.1=c3.2.1/\c3.2.2=c3.2.2/\p.1=p.1/\c6=c6/\c4.1=c4.1/\c4.2=c4.2/\k=Dj xs+Dj (upR l b x)/\xs=Ef xs (upR l b x)/\1=1/\Dj xs=Dj xs/\True)/\∀(x:Int),let c19:=Dp x (Df l);let c20:=Du l (Dc x) 0+b;let c21:=Ef xs (upR l b x);let c22:=Dj xs+Dj (upR l b x);let c23:=[c20];let c24:=Ef c21 c23;let c25:=x+1;upTo l x->(c19->0<=x/\x<Df l/\inR IntKind.i64 c20/\(bAF c21 c22/\aNv c21 c23)/\1=1/\Dj c21<=Dj c24/\inR IntKind.i64 c25/\∃y,upTo l y/\(1=1/\0=0/\0=0/\b=b/\l=l/\Df l=Df l/\c25=y/\n.1=n.1/\c7=c7/\c5=c5/\c3.1=c3.1/\c3.2.1=c3.2.1/\c3.2.2=c3.2.2/\p.1=p.1/\c6=c6/\c4.1=c4.1/\c4.2=c4.2/\c22+Dj c23=Dj xs+Dj (upR l b y)/\c24=Ef xs (upR l b y)/\1=1/\Dj xs=Dj xs/\True)/\Dc (Df l-y)<Dc (Df l-x))/\(c19=false->n.1=n.1/\c7=c7/\c5=c5/\c3.1=c3.1/\c3.2.1=c3.2.1/\c3.2.2=c3.2.2/\p.1=p.1/\c6=c6/\c4.1=c4.1/\c4.2=c4.2/\c22=k+Dj c1/\c21=c2/\1=1/\Dj xs=Dj xs/\True))):
  evF (mkc KW1) (lvA [(1,[0,1,7,8,9,10])] (rsA b l xs n p)) 67 [.ptr 2 1 0 0,.dat I b,.dat R l] (aBD n p k xs) ⟨rsP b l xs k,.tup [],aBD n p (Dz k (Dj (upR l b (Df l)))) (Ef xs (upR l b (Df l)))⟩:=@of_eq _ _ (by kernel_rfl) hvc
def KW2: Kt:=kOr 67 (wK [.mp 2,.val I,.val R] (λ(_,b,l,_) _ _ k xs=>rsP b l xs k) (λ_ _ _=>.tup []) λ(_,b,l,_) _ _=>upR l b (Df l)) KW1
theorem aXG(o:Int)(k:Nat)(xs:List Int)(n:Net)(p:Plan)(hvc:
 let c1:=n.2.2.2;let c5:=(Du c1.1 (Dc o) (ByteArray.mk #[],(0:Int),(0:Int),(0:Int),(0:Int),(0:Int),Dt ByteArray)).2.2.1;let c7:=Du n.1 (Dc c5) ((0:Int),Dt Bool,Dt Int);let c9:=(aS n o).2;true/\(aAL n o->1=1/\1=1/\1=1/\1=1/\0=0/\1=1/\1=1/\1=1/\1=1/\0=0/\0<=o/\o<Df c1.1/\0<=c5/\c5<Df n.1/\1=1/\0=0/\1=1/\0=0/\c7.1=(aS n o).1/\c7.2.1=c9.1/\c7.2.2=c9.2/\n.1=n.1/\n.2.1=n.2.1/\n.2.2.1=n.2.2.1/\c1.1=c1.1/\c1.2.1=c1.2.1/\c1.2.2=c1.2.2/\p.1=p.1/\p.2.1=p.2.1/\p.2.2.1=p.2.2.1/\p.2.2.2=p.2.2.2/\k=k/\xs=xs/\1=1/\Dj xs=Dj xs/\True)):
  evF (mkc KR2) aQ 136 [.ptr 2 1 0 0,.dat I o] (aBD n p k xs) ⟨aAL n o,cal (aS n o).1 (aS n o).2.1 (aS n o).2.2,[]⟩:=@of_eq _ _ (by kernel_rfl) hvc
theorem aS9(o:Int)(n:Net)(p:Plan)(hvc:
 let c2:=(Du n.2.2.2.1 (Dc o) (ByteArray.mk #[],(0:Int),(0:Int),(0:Int),(0:Int),(0:Int),Dt ByteArray)).2.2.1;let c4:=Du n.1 (Dc c2) ((0:Int),Dt Bool,Dt Int);let c6:=(aS n o).2;true/\(aAL n o->0<=o/\o<Df n.2.2.2.1/\0<=c2/\c2<Df n.1/\1=1/\0=0/\1=1/\0=0/\c4.1=(aS n o).1/\c4.2.1=c6.1/\c4.2.2=c6.2/\True)):
  evF (mkc KR2) aQ 136 [.ips (wHd n p .top),.dat I o] [] ⟨aAL n o,cal (aS n o).1 (aS n o).2.1 (aS n o).2.2,[]⟩:=@of_eq _ _ (by kernel_rfl) hvc
theorem aXE(o t:Int)(k:Nat)(xs:List Int)(n:Net)(p:Plan)(hvc:
 let c1:=n.2.2.2;let c5:=(Du c1.1 (Dc o) (ByteArray.mk #[],(0:Int),(0:Int),(0:Int),(0:Int),(0:Int),Dt ByteArray)).2.2.2.2;let c6:=c5.1*c5.2.1;let c7:=t+c6;true/\(mQ n o t->1=1/\1=1/\1=1/\1=1/\0=0/\0<=o/\o<Df c1.1/\1=1/\1=1/\1=1/\1=1/\0=0/\0<=o/\o<Df c1.1/\inR IntKind.i64 c6/\inR IntKind.i64 c7/\c7=aZ n o t/\n.1=n.1/\n.2.1=n.2.1/\n.2.2.1=n.2.2.1/\c1.1=c1.1/\c1.2.1=c1.2.1/\c1.2.2=c1.2.2/\p.1=p.1/\p.2.1=p.2.1/\p.2.2.1=p.2.2.1/\p.2.2.2=p.2.2.2/\k=k/\xs=xs/\1=1/\Dj xs=Dj xs/\True)):
  evF (mkc KR2) aQ 139 [.ptr 2 1 0 0,.dat I o,.dat I t] (aBD n p k xs) ⟨mQ n o t,.dat I (aZ n o t),[]⟩:=@of_eq _ _ (by kernel_rfl) hvc
theorem aPc(z m t:Int)(w:List Bool)(h:List Int)(hvc:
 let c1:=(z,w,h);let c2:=Dp m (aRc z t);let c3:=pJ z t+1;let c4:=oI w h c3;let c5:=Eb c4 0;let c6:=oQ c1 m t;let c7:=aBy c1 m t;let c8:=nY w h c3;let c9:=oI w h (pJ z t);let c10:=Eb c9 0;let c11:=nY w h (pJ z t);true/\(aIF c1 m t->oG z w h t/\(c2->inR IntKind.i64 c3/\aSR z w h c3/\(c5->0=c6/\c4=c7/\True)/\(c5=false->oO z w h c8 m/\iK z c8 m=c6/\0=c7/\True))/\(c2=false->aSR z w h (pJ z t)/\(c10->0=c6/\c9=c7/\True)/\(c10=false->oO z w h c11 m/\iK z c11 m=c6/\0=c7/\True)))):
  evF (mkc KR2) aQ 138 [cal z w h,.dat I m,.dat I t] [] ⟨aIF (z,w,h) m t,.tup [.dat I (oQ (z,w,h) m t),.dat I (aBy (z,w,h) m t)],[]⟩:=@of_eq _ _ (by kernel_rfl) hvc
theorem aS3(v e:Int)(hvc:
 let c1:=Eb e 0;let c2:=chainOf (Value.iface (39) (Value.int IntKind.i64 e));true/\(True->(c1->(true->True/\(false=false->isZero e=false/\true/\c2=c2))/\True)/\(c1=false->isZero e/\v=v/\True))):
  evC (mkc KR2) aQ 137 [.dat I v,.dat I e] (.dat I v) ⟨True,isZero e,aF9 39 e⟩:=@of_eq _ _ (by kernel_rfl) hvc
theorem aS8(e:Int)(hvc:
 true/\(True->(true->e=e/\True)/\(true=false->1=e/\True))):
  evF (mkc KR2) aQ 63 [.ifc 39 (.dat I e)] [] ⟨True,.dat I e,[]⟩:=@of_eq _ _ (by kernel_rfl) hvc
theorem aNw(i l:Int)(hvc:
 let c1:=Ed i 0;true/\(True->(c1->c1->c1)/\(c1->c1->c1)/\(Di true c1->c1)/\Ec c1 (Dp i l) false=jT i l/\True)):
  evF (mkc KR2) aQ 205 [.dat I i,.dat I l] [] ⟨True,.dat .bool (jT i l),[]⟩:=@of_eq _ _ (by kernel_rfl) hvc
theorem aXF(c o:Int)(k:Nat)(xs:List Int)(n:Net)(p:Plan)(hvc:
 let c1:=n.2.2.2;true/\(True->1=1/\0=0/\0=0/\o=o/\c=c/\n.1=n.1/\n.2.1=n.2.1/\n.2.2.1=n.2.2.1/\c1.1=c1.1/\c1.2.1=c1.2.1/\c1.2.2=c1.2.2/\p.1=p.1/\p.2.1=p.2.1/\p.2.2.1=p.2.2.1/\p.2.2.2=p.2.2.2/\k=k/\xs=xs/\1=1/\Dj xs=Dj xs/\True)):
  evF (mkc KR2) aQ 134 [.ptr 2 1 0 0,.dat I c,.dat I o] (aBD n p k xs) ⟨True,.fn 206 [.ipv (.ptr 2 1 0 0),.ip I o,.ip I c],[]⟩:=@of_eq _ _ (by kernel_rfl) hvc
def KW3: Kt:=kOr 136 (bEa (wR [.mp 2,.val I] (λ(_,o,_) n _ _ _=>aAL n o) λ(_,o,_) n _=>cal (aS n o).1 (aS n o).2.1 (aS n o).2.2) (wI [.val I] (λ(o,_) n _=>aAL n o) λ(o,_) n _=>cal (aS n o).1 (aS n o).2.1 (aS n o).2.2)) <|
 kOr 139 (wR [.mp 2,.val I,.val I] (λ(_,o,t,_) n _ _ _=>mQ n o t) λ(_,o,t,_) n _=>.dat I (aZ n o t)) <|
 kOr 138 (aP [.row C,.val I,.val I] (λ(c,m,t,_)=>aIF c m t) λ(c,m,t,_)=>.tup [.dat I (oQ c m t),.dat I (aBy c m t)]) <|
 kOr 137 (aP [.val I,.val I] (λ(_,e,_)=>True/\isZero e=true) λ(v,_,_)=>.dat I v) <|
 kOr 205 (aP [.val I,.val I] (λ_=>True) λ(i,l,_)=>.dat .bool (jT i l)) <|
 kOr 134 (wR [.mp 2,.val I,.val I] (λ_ _ _ _ _=>True) λ(_,c,o,_) _ _=>.fn 206 [.ipv (.ptr 2 1 0 0),.ip I o,.ip I c]) KW2
def bGr: KPt:=pOr 137 (aGm [.val I,.val I] λ(_,e,_)=>⟨True,isZero e,aF9 39 e⟩) Go.Eng.noP
theorem aRp{P:Program}{G:List (Nat×AV)}{f:FuncId}{a b:List AV->Mem->Option aAb}(ha:∀args m c,a args m=some c->aB P G f args m c)(hb:∀args m c,b args m=some c->aB P G f args m c): ∀args m c,bEa a b args m=some c->aB P G f args m c:=by
 intro args m c h;unfold bEa at h;split at h
 .rename_i h1;cases h;exact ha _ _ _ h1
 .exact hb _ _ _ h
theorem dR{t:Ty}{a:AV}{x:t.den}(h:oL t a=some x): a=.dat t x:=by
 unfold oL at h;split at h
 .split at h
  .rename_i e;subst e;cases h;rfl
  .cases h
 .cases h
theorem aSt{l:List AV}{n:Net}{p:Plan}{a:AV}(h:bEj l=some (n,p,a)): l=wHd n p a:=by
 unfold bEj at h;split at h
 .split at h
  .rename_i h1 h2 h3 h4 h5 h6 h7 h8 h9 h10;cases h;rw[dR h1,dR h2,dR h3,dR h4,dR h5,dR h6,dR h7,dR h8,dR h9,dR h10];rfl
  .cases h
 .cases h
theorem aSr{m:Mem}{n:Net}{p:Plan}{k:Nat}{xs:List Int}(h:asW m=some (n,p,k,xs)): m=aBD n p k xs:=by
 unfold asW at h;split at h
 .split at h
  .rename_i h1 h2;split at h
   .rename_i e;cases h;rw[aSt h1,e];have:=dR h2;cases this;rfl
   .cases h
  .cases h
 .cases h
theorem aXq{a:AV}{n:Net}{p:Plan}(h:asI a=some (n,p)): a=.ips (wHd n p .top):=by
 unfold asI at h;split at h
 .split at h
  .rename_i h1;cases h;rw[aSt h1]
  .cases h
 .cases h
theorem aSX{P:Program}{G:List (Nat×AV)}{f:FuncId}{l:List AK}{pre:AKs l->Net->Plan->Nat->List Int->Prop}{ret:AKs l->Net->Plan->AV}{add:AKs l->Net->Plan->List Int}
  (h:∀x n p k xs,aB P G f (avK l x) (aBD n p k xs) ⟨pre x n p k xs,ret x n p,aBD n p (Dz k (Dj (add x n p))) (Ef xs (add x n p))⟩):∀args m c,wK l pre ret add args m=some c->aB P G f args m c:=by
 intro args m c hc;unfold wK at hc;split at hc
 .rename_i n p k xs x h1 h2;cases hc;rw[aSr h1];exact(h x n p k xs).args λC us _ hu=>lQ h2 hu
 .cases hc
theorem aXC{P:Program}{G:List (Nat×AV)}{f:FuncId}{l:List AK}{pre:AKs l->Net->Plan->Nat->List Int->Prop}{ret:AKs l->Net->Plan->AV}
  (h:∀x n p k xs,aB P G f (avK l x) (aBD n p k xs) ⟨pre x n p k xs,ret x n p,[]⟩):∀args m c,wR l pre ret args m=some c->aB P G f args m c:=by
 intro args m c hc;unfold wR at hc;split at hc
 .rename_i n p k xs x h1 h2;cases hc;rw[aSr h1];exact(h x n p k xs).args λC us _ hu=>lQ h2 hu
 .cases hc
theorem bA1{P:Program}{G:List (Nat×AV)}{f:FuncId}{l:List AK}{q:AKs l->Net->Plan->Nat->List Int->aHl}(h:∀x n p k xs,iT P G f (avK l x) (aBD n p k xs) (q x n p k xs)): ∀args m r,wP l q args m=some r->iT P G f args m r:=by
 intro args m r hc;unfold wP at hc;split at hc
 .rename_i n p k xs x h1 h2;cases hc;rw[aSr h1];exact λhp hk w D E us hD hG hu hH=>h x n p k xs hp hk w D E us hD hG (lQ h2 hu) hH
 .cases hc
theorem bEE{P:Program}{G:List (Nat×AV)}{f:FuncId}{l:List AK}{pre:AKs l->Net->Plan->Prop}{ret:AKs l->Net->Plan->AV}
  (h:∀x n p,aB P G f (.ips (wHd n p .top)::avK l x) [] ⟨pre x n p,ret x n p,[]⟩):∀args m c,wI l pre ret args m=some c->aB P G f args m c:=by
 intro args m c hc;unfold wI at hc;split at hc
 .split at hc
  .rename_i n p x h1 h2;cases hc;rw[aXq h1];refine(h x n p).args λC us _ hu=>?_
   obtain⟨u,us',e,g1,g2⟩:=hu;exact⟨u,us',e,g1,lQ h2 g2⟩
  .cases hc
 .cases hc
theorem bE7(k:Nat)(xs ys:List Int)(n:Net)(p:Plan): aB Tryz.prog G0 66 [.ptr 2 1 0 0,.dat R ys] (aBD n p k xs) ⟨bAF xs k/\aNv xs ys,.tup [],aBD n p (Dz k (Dj ys)) (Ef xs ys)⟩:=by
 refine aA (c:=mkc KR2) aGr bD hm (bBp k xs ys n p ⟨rfl,λ⟨hk,hr⟩=>?_⟩)
 have hk:xs.length=k:=hk;have hr:xs.length+ys.length<=1000000000000:=hr;simp only[qc,Di,Es,Dk,qd,Dt,Ea,Eb,Dp,Ei,Eh,Ed,Ew,Df,Et,Dl,Dn,Eo,Dy,Dw,Dh,Dq,Ee,Fg,Dc,Dx,Dj,Dz,Ej,Du,Eu,Ez,En,Ef,Fe,Fj,Fh,Ep,Em,Ey,Fb,qF];exact⟨by omega,hk,by omega,by omega,by omega⟩
theorem bGQ: aI Tryz.prog G0 KW1:=aH (aSX λ(_,ys,_) n p k xs=>bE7 k xs ys n p) aGr
theorem aPE{l:List Int}{b k:Int}(h:upTo l k): (upR l b k).length=k.toNat:=by
 unfold upR;rw[vF,qI];have:=h.1;have:=h.2;omega
theorem aT2{l:List Int}{b k:Int}(h0:0<=k)(h1:k<l.length): upR l b (k+1)=upR l b k++[l.getD k.toNat 0+b]:=by
 unfold upR;rw[show(k+1).toNat=k.toNat+1 by omega,wV,qA,qB (show k.toNat<l.length by omega),yG]
 rfl
theorem aUf(b:Int)(k:Nat)(l xs:List Int)(n:Net)(p:Plan): aB Tryz.prog G0 67 [.ptr 2 1 0 0,.dat I b,.dat R l] (aBD n p k xs) ⟨rsP b l xs k,.tup [],aBD n p (Dz k (Dj (upR l b (Df l)))) (Ef xs (upR l b (Df l)))⟩:=by
 refine aA (c:=mkc KW1) bGQ bD hm (aPh b k l xs n p ⟨rfl,λhp=>?_⟩)
 simp only[qc,Di,Es,Dk,qd,Dt,Ea,Eb,Dp,Ei,Eh,Ed,Ew,Df,Et,Dl,Dn,Eo,Dy,Dw,Dh,Dq,Ee,Fg,Dc,Dx,Dj,Dz,Ej,Du,Eu,Ez,En,Ef,Fe,Fj,Fh,Ep,Em,Ey,Fb,qF];obtain⟨⟨hk,hr⟩,b0,b1,hl⟩:=hp;have eN:upTo l l.length:=⟨qR _,qL _⟩;refine⟨by omega,⟨0,⟨qL _,qR _⟩,rfl,by show k=xs.length+0;omega,(wE _).symm⟩,λx hx=>⟨λhlt=>?_,λhge=>?_⟩⟩
 .have h0:=hx.1;have e1:=aPE (b:=b) hx;have e2:=aT2 (b:=b) h0 hlt;have hv:=hl _ (getD_mem (l:=l) (i:=x.toNat) (d:=0) (by omega))
  refine⟨h0,hlt,bC (by omega),⟨by show(xs++upR l b x).length=_;rw[qF],by show(xs++upR l b x).length+_<=1000000000000;rw[qF,vV];omega⟩,by omega,bC (by omega),x+1,⟨by omega,by omega⟩,⟨rfl,by rw[e2,qF];rfl,by rw[e2,wG]⟩,by omega⟩
 .have hx1:=hx.2;have:x=l.length:=by omega
  rw[this,aPE eN];exact⟨by omega,rfl⟩
theorem bHB: aI Tryz.prog G0 KW2:=aH (aSX λ(_,b,l,_) n p k xs=>aUf b k l xs n p) bGQ
theorem bBY(o:Int)(k:Nat)(xs:List Int)(n:Net)(p:Plan): aB Tryz.prog G0 136 [.ptr 2 1 0 0,.dat I o] (aBD n p k xs) ⟨aAL n o,cal (aS n o).1 (aS n o).2.1 (aS n o).2.2,[]⟩:=by
 refine aA (c:=mkc KR2) aGr bD hm (aXG o k xs n p ⟨rfl,λhp=>?_⟩)
 obtain⟨cs,ns,os,fs,ls,ks⟩:=n;obtain⟨g1,g2,_⟩:=nK cs ns os fs ls ks hp;simp only[qc,Di,Es,Dk,qd,Dt,Ea,Eb,Dp,Ei,Eh,Ed,Ew,Df,Et,Dl,Dn,Eo,Dy,Dw,Dh,Dq,Ee,Fg,Dc,Dx,Dj,Dz,Ej,Du,Eu,Ez,En,Ef,Fe,Fj,Fh,Ep,Em,Ey,Fb];exact⟨hp.2.1,hp.2.2,g1,g2,rfl,rfl,rfl⟩
theorem aYv(o:Int)(n:Net)(p:Plan): aB Tryz.prog G0 136 [.ips (wHd n p .top),.dat I o] [] ⟨aAL n o,cal (aS n o).1 (aS n o).2.1 (aS n o).2.2,[]⟩:=by
 refine aA (c:=mkc KR2) aGr bD hm (aS9 o n p ⟨rfl,λhp=>?_⟩)
 obtain⟨cs,ns,os,fs,ls,ks⟩:=n;obtain⟨g1,g2,_⟩:=nK cs ns os fs ls ks hp;simp only[qc,Di,Es,Dk,qd,Dt,Ea,Eb,Dp,Ei,Eh,Ed,Ew,Df,Et,Dl,Dn,Eo,Dy,Dw,Dh,Dq,Ee,Fg,Dc,Dx,Dj,Dz,Ej,Du,Eu,Ez,En,Ef,Fe,Fj,Fh,Ep,Em,Ey,Fb];exact⟨hp.2.1,hp.2.2,g1,g2,rfl,rfl,rfl⟩
theorem aE9(cs:LC)(ns os:LB)(fs:List Off)(ls:List Line)(ks:List Cla){o t:Int}(hp:mQ (cs,ns,os,fs,ls,ks) o t): inR .i64 ((fV (cs,ns,os,fs,ls,ks) o).2.2.2.2.1*(fV (cs,ns,os,fs,ls,ks) o).2.2.2.2.2.1)/\inR .i64 (aZ (cs,ns,os,fs,ls,ks) o t)/\t<=aZ (cs,ns,os,fs,ls,ks) o t/\aZ (cs,ns,os,fs,ls,ks) o t<=t+960:=by
 obtain⟨ho,b1,b2⟩:=hp;obtain⟨_,_,_,g1,g2,g3,g4⟩:=nK cs ns os fs ls ks ho;unfold aZ;generalize (fV (cs,ns,os,fs,ls,ks) o).2.2.2.2.1=x at *;generalize (fV (cs,ns,os,fs,ls,ks) o).2.2.2.2.2.1=y at *;have m1:0<=x*y:=gJ (by omega) (by omega)
 have m2:x*y<=4*240:=xK g2 g4 (by omega) (by omega)
 exact⟨bC (by omega),bC (by omega),by omega,by omega⟩
theorem bBW(o t:Int)(k:Nat)(xs:List Int)(n:Net)(p:Plan): aB Tryz.prog G0 139 [.ptr 2 1 0 0,.dat I o,.dat I t] (aBD n p k xs) ⟨mQ n o t,.dat I (aZ n o t),[]⟩:=by
 refine aA (c:=mkc KR2) aGr bD hm (aXE o t k xs n p ⟨rfl,λhp=>?_⟩)
 obtain⟨cs,ns,os,fs,ls,ks⟩:=n;obtain⟨r1,r2,_⟩:=aE9 cs ns os fs ls ks hp;simp only[qc,Di,Es,Dk,qd,Dt,Ea,Eb,Dp,Ei,Eh,Ed,Ew,Df,Et,Dl,Dn,Eo,Dy,Dw,Dh,Dq,Ee,Fg,Dc,Dx,Dj,Dz,Ej,Du,Eu,Ez,En,Ef,Fe,Fj,Fh,Ep,Em,Ey,Fb];exact⟨hp.1.2.1,hp.1.2.2,hp.1.2.1,hp.1.2.2,r1,r2,rfl⟩
theorem aUc(m t:Int)(c:C.den): aB Tryz.prog G0 138 [cal c.1 c.2.1 c.2.2,.dat I m,.dat I t] [] ⟨aIF c m t,.tup [.dat I (oQ c m t),.dat I (aBy c m t)],[]⟩:=by
 obtain⟨z,w,h⟩:=c;refine aA (c:=mkc KR2) aGr bD hm (aPc z m t w h ⟨rfl,λhp=>?_⟩)
 obtain⟨b1,b2⟩:=aXi hp;obtain⟨hv,h1,h2,h3,h4⟩:=id hp;simp only[qc,Di,Es,Dk,qd,Dt,Ea,Eb,Dp,Ei,Eh,Ed,Ew,Df,Et,Dl,Dn,Eo,Dy,Dw,Dh,Dq,Ee,Fg,Dc,Dx,Dj,Dz,Ej,Du,Eu,Ez,En,Ef,Fe,Fj,Fh,Ep,Em,Ey,Fb];have key:∀d,d=d0F (z,w,h) m t->aSR z w h d/\(¬oI w h d=0->(0:Int)=oQ (z,w,h) m t/\oI w h d=aBy (z,w,h) m t)/\(oI w h d=0->oO z w h (nY w h d) m/\iK z (nY w h d) m=oQ (z,w,h) m t/\(0:Int)=aBy (z,w,h) m t):=by
  rintro d rfl;refine⟨⟨hv,rE (by omega) (by omega)⟩,λh0=>⟨(if_neg h0).symm,rfl⟩,λh0=>?_⟩
  obtain⟨q1,q2,q3⟩:=aCz h0;exact⟨⟨hv,rE (by omega) (by omega),h1,h2⟩,(if_pos h0).symm,h0.symm⟩
 refine⟨⟨hv,by omega,by omega⟩,λhlt=>?_,λhge=>?_⟩
 .have e:pJ z t+1=d0F (z,w,h) m t:=(if_pos hlt).symm;obtain⟨q1,q2,q3⟩:=key _ e;exact⟨by unfold inR;simp only;omega,q1,q2,q3⟩
 .have e:pJ z t=d0F (z,w,h) m t:=(if_neg hge).symm;exact key _ e
theorem aPR(v e:Int): aB Tryz.prog G0 137 [.dat I v,.dat I e] [] ⟨True/\isZero e=true,.dat I v,[]⟩/\iT Tryz.prog G0 137 [.dat I v,.dat I e] [] ⟨True,isZero e,aF9 39 e⟩:=by
 refine jG (c:=mkc KR2) aGr bD hm aDM (aS3 v e ⟨rfl,λ_=>⟨λh=>⟨λ_=>⟨trivial,λ_=>⟨?_,rfl,rfl⟩⟩,trivial⟩,λh=>⟨?_,rfl,trivial⟩⟩⟩)
 .unfold isZero;simpa[Eb]using h
 .unfold isZero;simpa[Eb]using h
theorem aYu(e:Int): aB Tryz.prog G0 63 [.ifc 39 (.dat I e)] [] ⟨True,.dat I e,[]⟩:=
 aA (c:=mkc KR2) aGr bD hm (aS8 e ⟨rfl,λ_=>⟨λ_=>⟨rfl,trivial⟩,λh=>by cases h⟩⟩)
theorem aPT(i l:Int): aB Tryz.prog G0 205 [.dat I i,.dat I l] [] ⟨True,.dat .bool (jT i l),[]⟩:=by
 refine aA (c:=mkc KR2) aGr bD hm (aNw i l ⟨rfl,λ_=>⟨λh _=>h,λh _=>h,λh=>by simpa[Di]using h,?_,trivial⟩⟩)
 unfold jT;simp only[Ec,Ed,Dp,kQ];by_cases h:0<=i<;>simp[h]
theorem bBX(c o:Int)(k:Nat)(xs:List Int)(n:Net)(p:Plan): aB Tryz.prog G0 134 [.ptr 2 1 0 0,.dat I c,.dat I o] (aBD n p k xs) ⟨True,.fn 206 [.ipv (.ptr 2 1 0 0),.ip I o,.ip I c],[]⟩:=by
 refine aA (c:=mkc KR2) aGr bD hm (aXF c o k xs n p ⟨rfl,λ_=>?_⟩)
 simp only[qc,Di,Es,Dk,qd,Dt,Ea,Eb,Dp,Ei,Eh,Ed,Ew,Df,Et,Dl,Dn,Eo,Dy,Dw,Dh,Dq,Ee,Fg,Dc,Dx,Dj,Dz,Ej,Du,Eu,Ez,En,Ef,Fe,Fj,Fh,Ep,Em,Ey,Fb]
theorem bAS: aI Tryz.prog G0 KW3:=aH (aRp (aXC λ(_,o,_) n p k xs=>bBY o k xs n p) (bEE λ(o,_) n p=>aYv o n p)) <|
 aH (aXC λ(_,o,t,_) n p k xs=>bBW o t k xs n p)<|aH (aC λ(c,m,t,_)=>aUc m t c)<|aH (aC λ(v,e,_)=>(aPR v e).1) <|
 aH (aC λ(i,l,_)=>aPT i l)<|aH (aXC λ(_,c,o,_) n p k xs=>bBX c o k xs n p) bHB
theorem aSC: fC Tryz.prog G0 bGr:=rC (sQ λ(v,e,_)=>(aPR v e).2) aDM
end Go.Eng.Sv
set_option maxRecDepth 100000
noncomputable section
namespace Go.Eng.Sv
open Go.Proofs
def aCS(w:List Bool)(h:List Int)(a b:Int): Int:=if b<=a+2000 then((nP w h (a+1) (b-a)).length:Int)else -1
def countP(z:Int)(w:List Bool)(h:List Int)(a b:Int): Prop:=aO z w h=true/\dK a=true/\dK b=true
def aPH(k:Nat)(l:List Int): Prop:=k<=l.length/\l.length<=100000
def aFR(x:Int): Bool:=decide (-1<=x/\x<=65518)
def oK(_o x:Int): Bool:=aFR x
def sgR(g:Int->Int->Bool)(m o:Int)(row:List Int): Bool:=decide ((row.length:Int)=m)&&row.all (g o)
def sgF(g:Int->Int->Bool)(t:List (List Int))(m:Int): Bool:=decide ((t.length:Int)=m)&&(List.range t.length).all λi=>sgR g m i (t.getD i [])
def aKC(g:Int->Int->Bool)(t:List (List Int))(m k:Int): Prop:=0<=k/\k<=t.length/\(t.length:Int)=m/\∀i:Nat,(i:Int)<k->sgR g m i (t.getD i [])=true
def aBE(g:Int->Int->Bool)(row:List Int)(m o k:Int): Prop:=0<=k/\k<=row.length/\(row.length:Int)=m/\∀i:Nat,(i:Int)<k->g o (row.getD i 0)=true
def mZ(p:Plan): Prop:=gZ p.2.2.1/\p.2.2.2.length<=1000000/\∀t∈p.2.2.2,gZ t
def aBL(p:Plan): Bool:=decide (0<=p.1/\p.1<p.2.1/\p.2.1<=600/\p.2.1-p.1<=60)
def aDt(n:Net)(p:Plan): Bool:=decide ((p.2.2.2.length:Int)=n.2.2.2.2.2.length)&&p.2.2.2.all λt=>sgF oK t n.2.2.2.1.length
def oJ(n:Net)(p:Plan): Bool:=aBL p&&(aBk n p.2.2.1&&aDt n p)
def aDW(n:Net)(p:Plan)(k:Int): Prop:=0<=k/\k<=p.2.2.2.length/\aBL p=true/\aBk n p.2.2.1=true/\(p.2.2.2.length:Int)=n.2.2.2.2.2.length/\∀i:Nat,(i:Int)<k->sgF oK (p.2.2.2.getD i []) n.2.2.2.1.length=true
def bDo(w:List Bool)(h:List Int)(a b:Int): Ann:=⟨λid s=>match id with
 | 5=>some {α:=Nat,inv:=λk=>aPH k (nP w h (Dq a 1) (Dh b a)),st:=λk=>pX (flat s) 0 (.var [.dat I (Dx k)]),μ:=λk=>k}
 | _=>none,λ_ _=>none,λ_ _=>none⟩
theorem aTN(z:Int)(w:List Bool)(h:List Int)(a b:Int)(hvc:
 let c1:=Dk (aO z w h);let c2:=Dk c1;let c3:=Ec c1 true (Dk (dK a));let c4:=Dk c3;let c5:=Ec c3 true (Dk (dK b));let c6:=Dk c5;let c7:=a+2000;let c8:=Ec c5 true (Ei b c7);let c9:=aCS w h a b;let c10:=a+1;let c11:=nP w h c10 (b-a);let c12:=(z,w,h);true/\(countP z w h a b->True/\(c2->c2->c2)/\(c2->True)/\(c2->c2->c2)/\(Di true c2->c2)/\(c4->c4->c4)/\(c4->True)/\(c4->c4->c4)/\(Di true c4->c4)/\(c6->c6->c6)/\(c6->inR IntKind.i64 c7)/\(c6->c6->c6)/\(c6->c6->c6)/\(Di true c6->c6)/\(c8->(-1:Int)=c9/\True)/\(c8=false->1=1/\0=0/\inR IntKind.i64 c10/\inR IntKind.i64 (b-a)/\Dj w=7/\aOE w h c10 (b-a)/\(∃x,aPH x c11/\x=0/\z=z/\w=w/\h=h/\a=a/\b=b/\c12=c12/\(0:Int)=(0:Int)/\1=1/\0=0/\0=0/\z=z/\w=w/\h=h/\aO z w h=aO z w h/\c1=c1/\c1=c1/\c3=c3/\c3=c3/\c5=c5/\c5=c5/\c8=c8/\z=z/\w=w/\h=h/\a=a/\c10=c10/\b=b/\a=a/\b-a=b-a/\c10=c10/\b-a=b-a/\w=w/\c12=c12/\0=Dx x/\True)/\(∀(x:Nat),let c13:=Dx x+1;∀(y:Int),aPH x c11->aA7 c11 x y->1=1/\0=0/\inR IntKind.i64 c13/\1=1/\0=0/\∃z_1,aPH z_1 c11/\z_1=x+(1)/\z=z/\w=w/\h=h/\a=a/\b=b/\c12=c12/\(0:Int)=(0:Int)/\1=1/\0=0/\0=0/\z=z/\w=w/\h=h/\aO z w h=aO z w h/\c1=c1/\c1=c1/\c3=c3/\c3=c3/\c5=c5/\c5=c5/\c8=c8/\z=z/\w=w/\h=h/\a=a/\c10=c10/\b=b/\a=a/\b-a=b-a/\c10=c10/\b-a=b-a/\w=w/\c12=c12/\c13=Dx z_1/\True)/\∀(x:Nat),aPH x c11->x=Dj c11->1=1/\0=0/\Dx x=c9/\True))):
  evF (bD9 KR1) (bDo w h a b) 140 [cal z w h,.dat I a,.dat I b] [] ⟨countP z w h a b,.dat I (aCS w h a b),[]⟩:=@of_eq _ _ (by kernel_rfl) hvc
theorem aX8(o x:Int)(hvc:
 let c1:=Ed x (-1);true/\(True->(c1->c1->c1)/\(Di true c1->c1)/\Ec c1 (Eh x 65518) false=oK o x/\True)):
  evF (mkc KW3) aQ 133 [.dat I o,.dat I x] [] ⟨True,.dat .bool (oK o x),[]⟩:=@of_eq _ _ (by kernel_rfl) hvc
theorem aTB(n:Net)(hvc:
 true/\(True->n=n/\True)):
  evF (mkc KW3) aQ 132 [.ip N n] [] ⟨True,.fn 204 [.ipv (.ip N n)],[]⟩:=@of_eq _ _ (by kernel_rfl) hvc
theorem aTC(o x:Int)(cs:LC)(ns os:LB)(fs:List Off)(ls:List Line)(ks:List Cla)(hvc:
 let c1:=Ea x (-1);let c2:=Dk c1;let c3:=Df ls;let c4:=jT x c3;true/\(True->(c2->c2->c2)/\(c2->c2->c2)/\(c2->c2->c2)/\(c2->c2->c2)/\(c2->c2->c2)/\(c2->c2->c2)/\(c2->True)/\(c2->c2->c2)/\(Di c2 c4->Di c2 c4->Di c2 c4)/\(Di c2 c4->Di c2 c4->Di c2 c4)/\(Di c2 c4->Di c2 c4->Di c2 c4)/\(Di c2 c4->Di c2 c4->Di c2 c4)/\(Di c2 c4->Di c2 c4->Di c2 c4)/\(Di c2 c4->0<=x)/\(Di c2 c4->x<c3)/\(Di c2 c4->Di c2 c4->Di c2 c4)/\(Di c2 c4->Di c2 c4->Di c2 c4)/\(Di c2 c4->Di c2 c4->Di c2 c4)/\(Di c2 c4->Di c2 c4->Di c2 c4)/\(c2->c2->c2)/\(c2->Di c2 c4->Di c2 c4)/\(Di true c2->c2)/\Ec c1 true (Ec c4 (Ea (Du ls (Dc x) (ByteArray.mk #[],(0:Int),(0:Int),(0:Int),(0:Int),(0:Int))).2.1 o) false)=bU (cs,ns,os,fs,ls,ks) o x/\True)):
  evF (mkc KW3) aQ 204 [.dat I o,.dat I x,.ipv (.ip N (cs,ns,os,fs,ls,ks))] [] ⟨True,.dat .bool (bU (cs,ns,os,fs,ls,ks) o x),[]⟩:=@of_eq _ _ (by kernel_rfl) hvc
def KW4: Kt:=kOr 133 (aP [.val I,.val I] (λ_=>True) λ(o,x,_)=>.dat .bool (oK o x)) <|
 kOr 132 (aP [.ptr N] (λ_=>True) λ(n,_)=>.fn 204 [.ipv (.ip N n)]) <|
 kOr 204 (aP [.val I,.val I,.bp N] (λ_=>True) λ(o,x,n,_)=>.dat .bool (bU n o x)) <|
 kOr 140 (aP [.row C,.val I,.val I] (λ(c,a,b,_)=>countP c.1 c.2.1 c.2.2 a b) λ(c,a,b,_)=>.dat I (aCS c.2.1 c.2.2 a b)) KW3
def sgA(g:Int->Int->Bool)(t:List (List Int))(m:Int): Ann:=⟨λid s=>match id with
 | 4=>some {α:=Int,inv:=λk=>aKC g t m k,st:=λk=>put s [(17,.dat I k)],μ:=λk=>Dc (Dh (Df t) k)}
 | 9=>match s.sig.T 17,s.sig.T 26 with
  | .dat (.int .i64) o,.dat (.sl (.int .i64)) row=>some {α:=Int,inv:=λk=>aBE g row m o k,st:=λk=>put s [(28,.dat I k)],μ:=λk=>Dc (Dh (Df row) k)}
  | _,_=>none
 | _=>none,λ_ _=>none,λ_ _=>none⟩
theorem bA5(t:List (List Int))(m:Int)(n:Net)(hvc:
 let c1:=Eb (Df t) m;let c2:=sgF (bU n) t m;true/\(gZ t->(c1->false=c2/\True)/\(c1=false->(∃x,aKC (bU n) t m x/\m=m/\n=n/\t=t/\Df t=Df t/\0=x/\True)/\∀(x:Int),let c3:=Dp x (Df t);let c4:=Du t (Dc x) [];let c5:=Df c4;let c6:=Eb c5 m;let c7:=x+1;aKC (bU n) t m x->(c3->0<=x/\x<Df t/\(c6->false=c2/\True)/\(c6=false->(∃x_4,aBE (bU n) c4 m x x_4/\m=m/\n=n/\x=x/\c4=c4/\t=t/\Df t=Df t/\x=x/\c4=c4/\c5=c5/\0=x_4/\True)/\∀(x_4:Int),let c8:=Dk (bU n x (Du c4 (Dc x_4) 0));let c9:=x_4+1;aBE (bU n) c4 m x x_4->(Dp x_4 c5->0<=x_4/\x_4<c5/\True/\(c8->false=c2/\True)/\(c8=false->inR IntKind.i64 c9/\∃y,aBE (bU n) c4 m x y/\(m=m/\n=n/\x=x/\c4=c4/\t=t/\Df t=Df t/\x=x/\c4=c4/\c5=c5/\c9=y/\True)/\Dc (c5-y)<Dc (c5-x_4)))/\(Dp x_4 c5=false->inR IntKind.i64 c7/\∃y,aKC (bU n) t m y/\(m=m/\n=n/\t=t/\Df t=Df t/\c7=y/\True)/\Dc (Df t-y)<Dc (Df t-x))))/\(c3=false->true=c2/\True)))):
  evF (mkc KW4) (lvA [(4,[1,2,6,7,8,10,15,16,17,26,27,28]),(9,[1,2,6,7,8,10,15,16,17,26,27,28])] (sgA (bU n) t m)) 131 [.dat M t,.dat I m,.fn 204 [.ipv (.ip N n)]] [] ⟨gZ t,.dat .bool (sgF (bU n) t m),[]⟩:=@of_eq _ _ (by kernel_rfl) hvc
theorem bA6(t:List (List Int))(m:Int)(hvc:
 let c1:=Eb (Df t) m;true/\(gZ t->(c1->false=sgF oK t m/\True)/\(c1=false->(∃x,aKC oK t m x/\m=m/\t=t/\Df t=Df t/\0=x/\True)/\∀(x:Int),let c2:=Dp x (Df t);let c3:=Du t (Dc x) [];let c4:=Df c3;let c5:=Eb c4 m;let c6:=x+1;aKC oK t m x->(c2->0<=x/\x<Df t/\(c5->false=sgF oK t m/\True)/\(c5=false->(∃x_4,aBE oK c3 m x x_4/\m=m/\x=x/\c3=c3/\t=t/\Df t=Df t/\x=x/\c3=c3/\c4=c4/\0=x_4/\True)/\∀(x_4:Int),let c7:=Dk (oK x (Du c3 (Dc x_4) 0));let c8:=x_4+1;aBE oK c3 m x x_4->(Dp x_4 c4->0<=x_4/\x_4<c4/\True/\(c7->false=sgF oK t m/\True)/\(c7=false->inR IntKind.i64 c8/\∃y,aBE oK c3 m x y/\(m=m/\x=x/\c3=c3/\t=t/\Df t=Df t/\x=x/\c3=c3/\c4=c4/\c8=y/\True)/\Dc (c4-y)<Dc (c4-x_4)))/\(Dp x_4 c4=false->inR IntKind.i64 c6/\∃y,aKC oK t m y/\(m=m/\t=t/\Df t=Df t/\c6=y/\True)/\Dc (Df t-y)<Dc (Df t-x))))/\(c2=false->true=sgF oK t m/\True)))):
  evF (mkc KW4) (lvA [(4,[1,2,6,7,8,10,15,16,17,26,27,28]),(9,[1,2,6,7,8,10,15,16,17,26,27,28])] (sgA oK t m)) 131 [.dat M t,.dat I m,.fn 133 []] [] ⟨gZ t,.dat .bool (sgF oK t m),[]⟩:=@of_eq _ _ (by kernel_rfl) hvc
def KW5: Kt:=kOr 131 (bEa (aP [.val M,.val I,.fnb 204 N] (λ(t,_,_,_)=>gZ t) λ(t,m,n,_)=>.dat .bool (sgF (bU n) t m)) (aP [.val M,.val I,.fn0 133] (λ(t,_,_)=>gZ t) λ(t,m,_)=>.dat .bool (sgF oK t m))) KW4
def bFV(n:Net)(p:Plan): Ann:=⟨λid s=>match id with
 | 7=>some {α:=Int,inv:=λk=>aDW n p k,st:=λk=>put s [(74,.dat I k)],μ:=λk=>Dc (Dh (Df p.2.2.2) k)}
 | _=>none,λ_ _=>none,λ_ _=>none⟩
theorem aS5(n:Net)(p:Plan)(hvc:
 let c1:=p.2.2.2;let c2:=Dp p.1 0;let c3:=Dk c2;let c6:=Ec c2 true (Eh p.2.1 p.1);let c7:=Dk c6;let c8:=Ec c6 true (Ei p.2.1 600);let c9:=Dk c8;let c10:=p.2.1-p.1;let c11:=Ec c8 true (Ei c10 60);let c14:=Df c1;let c16:=Eb c14 (Df n.2.2.2.2.2);let c17:=Dk c16;let c19:=Df n.2.2.2.1;let c20:=Ec c16 true (Dk (sgF (bU n) p.2.2.1 c19));true/\(mZ p->(c3->c3->c3)/\(c3->c3->c3)/\(c3->c3->c3)/\(c3->c3->c3)/\(c3->c3->c3)/\(c3->c3->c3)/\(c3->c3->c3)/\(c3->c3->c3)/\(Di true c3->c3)/\(c7->c7->c7)/\(c7->c7->c7)/\(c7->c7->c7)/\(c7->c7->c7)/\(Di true c7->c7)/\(c9->c9->c9)/\(c9->c9->c9)/\(c9->c9->c9)/\(c9->c9->c9)/\(c9->c9->c9)/\(c9->c9->c9)/\(c9->c9->c9)/\(c9->c9->c9)/\(c9->inR IntKind.i64 c10)/\(c9->c9->c9)/\(Di true c9->c9)/\(c11->false=oJ n p/\True)/\(c11=false->(c17->c17->c17)/\(c17->c17->c17)/\(c17->c17->c17)/\(c17->c17->c17)/\(c17->c17->c17)/\(c17->c17->c17)/\(c17->c17->c17)/\(c17->c17->c17)/\(c17->True)/\(c17->c17->c17)/\(c17->c17->c17)/\(c17->c17->c17)/\(c17->gZ p.2.2.1)/\(c17->c17->c17)/\(Di true c17->c17)/\(c20->false=oJ n p/\True)/\(c20=false->(∃x,aDW n p x/\n=n/\c1=c1/\c14=c14/\0=x/\True)/\∀(x:Int),let c21:=Du c1 (Dc x) (Dt (List Int));let c22:=Dk (sgF oK c21 c19);let c23:=x+1;aDW n p x->(Dp x c14->0<=x/\x<c14/\gZ c21/\(c22->false=oJ n p/\True)/\(c22=false->inR IntKind.i64 c23/\∃y,aDW n p y/\(n=n/\c1=c1/\c14=c14/\c23=y/\True)/\Dc (c14-y)<Dc (c14-x)))/\(Dp x c14=false->true=oJ n p/\True))))):
  evF (mkc KW5) (lvA [(7,[0,4,5,7,72,73,74])] (bFV n p)) 65 [.ip N n,.ip Pl p] [] ⟨mZ p,.dat .bool (oJ n p),[]⟩:=@of_eq _ _ (by kernel_rfl) hvc
theorem aQr(z:Int)(w:List Bool)(h:List Int)(a b:Int): aB Tryz.prog G0 140 [cal z w h,.dat I a,.dat I b] [] ⟨countP z w h a b,.dat I (aCS w h a b),[]⟩:=by
 refine aA (c:=bD9 KR1) bGd bDT hm (aTN z w h a b ⟨rfl,λ⟨hv,ha,hb⟩=>?_⟩)
 have hc:=aIv hv;have ha':=okd ha;have hb':=okd hb;have hl:(nP w h (a+1) (b-a)).length<=(b-a).toNat:=by
  unfold nP;exact wC (yM _ _) (by simp)
 simp only[hv,ha,hb,qc,Di,Es,Dk,qd,Dt,Ea,Eb,Dp,Ei,Eh,Ed,Ew,Df,Et,Dl,Dn,Eo,Dy,Dw,Dh,Dq,Ee,Fg,Dc,Dx,Dj,Dz,Ej,Du,Eu,Ez,En,Ef,Fe,Fj,Fh,Ep,Em,Ey,Fb,zY,yB,qAs,qAj,kT,vU,xH,reduceCtorEq,qAh,kV,qBp]
 refine⟨⟨by omega,by omega⟩,λhgt=>(if_neg (by omega)).symm,λhab=>⟨⟨by omega,by omega⟩,⟨by omega,by omega⟩,hc.1,⟨hc,by omega,by omega,by omega,by omega⟩,⟨0,⟨by omega,by omega⟩,rfl,rfl⟩,λk y hk hy=>?_,λk hk hlen=>?_⟩⟩
 .have hy:(nP w h (a+1) (b-a))[k]?=some y:=hy;have:=(qG.1 hy).1;obtain⟨k1,k2⟩:=hk;refine⟨⟨by omega,by omega⟩,k+1,⟨by omega,k2⟩,rfl,by omega⟩
 .rw[hlen];exact(if_pos (by omega)).symm
theorem bCh(o x:Int): aB Tryz.prog G0 133 [.dat I o,.dat I x] [] ⟨True,.dat .bool (oK o x),[]⟩:=by
 refine aA (c:=mkc KW3) bAS bD hm (aX8 o x ⟨rfl,λ_=>⟨λh _=>h,λh=>by simpa[Di]using h,?_,trivial⟩⟩)
 unfold oK aFR;simp only[Ec,Ed,Eh,kQ];by_cases h:-1<=x<;>simp[h]
theorem aYQ(n:Net): aB Tryz.prog G0 132 [.ip N n] [] ⟨True,.fn 204 [.ipv (.ip N n)],[]⟩:=
 aA (c:=mkc KW3) bAS bD hm (aTB n ⟨rfl,λ_=>⟨rfl,trivial⟩⟩)
theorem aYR(o x:Int)(cs:LC)(ns os:LB)(fs:List Off)(ls:List Line)(ks:List Cla): aB Tryz.prog G0 204 [.dat I o,.dat I x,.ipv (.ip N (cs,ns,os,fs,ls,ks))] [] ⟨True,.dat .bool (bU (cs,ns,os,fs,ls,ks) o x),[]⟩:=by
 refine aA (c:=mkc KW3) bAS bD hm (aTC o x cs ns os fs ls ks ⟨rfl,λ_=>?_⟩)
 have e:Ec (Ea x (-1)) true (Ec (jT x (Df ls)) (Ea (Du ls (Dc x) (ByteArray.mk (Dt UInt8).toArray,(0:Int),(0:Int),(0:Int),(0:Int),(0:Int))).snd.fst o) false)=bU (cs,ns,os,fs,ls,ks) o x:=by
  unfold bU;rw[aD0,rH]
  congr 1
 rw[e];simp only[qc,Di,Es,Dk,qd,Dt,Ea,Eb,Dp,Ei,Eh,Ed,Ew,Df,Et,Dl,Dn,Eo,Dy,Dw,Dh,Dq,Ee,Fg,Dc,Dx,Dj,Dz,Ej,Du,Eu,Ez,En,Ef,Fe,Fj,Fh,Ep,Em,Ey,Fb];unfold jT;simp only[qE];exact⟨λh=>h.2.1,λh=>h.2.2⟩
theorem bEp: aI Tryz.prog G0 KW4:=aH (aC λ(o,x,_)=>bCh o x)<|aH (aC λ(n,_)=>aYQ n)<|aH (aC λ(o,x,(cs,ns,os,fs,ls,ks),_)=>aYR o x cs ns os fs ls ks) <|
 aH (aC λ((z,w,h),a,b,_)=>aQr z w h a b) bAS
theorem aI5{g:Int->Int->Bool}{t:List (List Int)}{m:Int}(hl:(t.length:Int)=m): sgF g t m=true↔∀i:Nat,(i:Int)<t.length->sgR g m i (t.getD i [])=true:=by
 unfold sgF;simp only[qC,qE,qM,vN];exact⟨λh i hi=>h.2 i (by omega),λh=>⟨hl,λi hi=>h i (by omega)⟩⟩
theorem aKV{g:Int->Int->Bool}{m o:Int}{row:List Int}(hl:(row.length:Int)=m): sgR g m o row=true↔∀i:Nat,(i:Int)<row.length->g o (row.getD i 0)=true:=by
 unfold sgR;simp only[qC,qE,qM];refine⟨λh i hi=>h.2 _ ?_,λh=>⟨hl,λx hx=>?_⟩⟩
 .rw[qA,qB (by omega),qQ];exact wH _
 .obtain⟨i,hi,rfl⟩:=wY.1 hx;have:=h i (by omega)
  rw[qA,qB hi,qQ]at this;exact this
theorem aHy(g:Int->Int->Bool){t:List (List Int)}{m:Int}(hf:gZ t): ((t.length:Int)≠m->false=sgF g t m)/\((t.length:Int)=m->aKC g t m 0/\∀x:Int,aKC g t m x->
  (x<t.length->0<=x/\x<t.length/\(((t.getD x.toNat []).length:Int)≠m->false=sgF g t m)/\(((t.getD x.toNat []).length:Int)=m->aBE g (t.getD x.toNat []) m x 0/\∀y:Int,aBE g (t.getD x.toNat []) m x y->
   (y<(t.getD x.toNat []).length->0<=y/\y<(t.getD x.toNat []).length/\(g x ((t.getD x.toNat []).getD y.toNat 0)=false->false=sgF g t m)/\
    (g x ((t.getD x.toNat []).getD y.toNat 0)=true->inR .i64 (y+1)/\∃z,aBE g (t.getD x.toNat []) m x z/\y+1=z/\(((t.getD x.toNat []).length:Int)-z).toNat<(((t.getD x.toNat []).length:Int)-y).toNat))/\
   (¬y<(t.getD x.toNat []).length->inR .i64 (x+1)/\∃z,aKC g t m z/\x+1=z/\((t.length:Int)-z).toNat<((t.length:Int)-x).toNat)))/\(¬x<t.length->true=sgF g t m)):=by
 have hct:∀x:Int,0<=x->((x.toNat:Nat):Int)=x:=λx h=>by omega
 refine⟨λh=>?_,λhe=>⟨⟨qL _,by omega,he,λi h=>by omega⟩,λx ⟨x0,x1,_,x3⟩=>⟨λhx=>?_,λhx=>?_⟩⟩⟩
 .unfold sgF;rw[vG h];rfl
 .have hr:=hf.2 _ (getD_mem (l:=t) (i:=x.toNat) (d:=[]) (by omega))
  have hfl:=hf.1;refine⟨x0,hx,λh=>?_,λhm=>⟨⟨qL _,by omega,hm,λi h=>by omega⟩,λy ⟨y0,y1,_,y3⟩=>⟨λhy=>⟨y0,hy,λh=>?_,λh=>?_⟩,λhy=>?_⟩⟩⟩
  .refine(kP.2 λht=>h ?_).symm
   have h2:=(aI5 he).1 ht x.toNat (by omega)
   unfold sgR at h2;simp only[qC,qE]at h2;exact h2.1
  .refine(kP.2 λht=>?_).symm
   have h2:=(aKV hm).1 ((aI5 he).1 ht x.toNat (by omega)) y.toNat (by omega)
   rw[hct x x0,h]at h2;cases h2
  .refine⟨bC (by omega),y+1,⟨by omega,by omega,hm,λi hi=>?_⟩,rfl,by omega⟩
   by_cases h3:(i:Int)<y
   .exact y3 i h3
   .have:i=y.toNat:=by omega
    subst this;exact h
  .refine⟨bC (by omega),x+1,⟨by omega,by omega,he,λi hi=>?_⟩,rfl,by omega⟩
   by_cases h3:(i:Int)<x
   .exact x3 i h3
   .have:i=x.toNat:=by omega
    subst this;exact(aKV hm).2 λj hj=>by rw[hct x x0];exact y3 j (by omega)
 .exact((aI5 he).2 λi hi=>x3 i (by omega)).symm
theorem bEQ(t:List (List Int))(m:Int): aB Tryz.prog G0 131 [.dat M t,.dat I m,.fn 133 []] [] ⟨gZ t,.dat .bool (sgF oK t m),[]⟩:=by
 refine aA (c:=mkc KW4) bEp bD hm (bA6 t m ⟨rfl,λhf=>?_⟩)
 simp only[qc,Di,Es,Dk,qd,Dt,Ea,Eb,Dp,Ei,Eh,Ed,Ew,Df,Et,Dl,Dn,Eo,Dy,Dw,Dh,Dq,Ee,Fg,Dc,Dx,Dj,Dz,Ej,Du,Eu,Ez,En,Ef,Fe,Fj,Fh,Ep,Em,Ey,Fb];exact aHy oK hf
theorem bEP(t:List (List Int))(m:Int)(n:Net): aB Tryz.prog G0 131 [.dat M t,.dat I m,.fn 204 [.ipv (.ip N n)]] [] ⟨gZ t,.dat .bool (sgF (bU n) t m),[]⟩:=by
 refine aA (c:=mkc KW4) bEp bD hm (bA5 t m n ⟨rfl,λhf=>?_⟩)
 simp only[qc,Di,Es,Dk,qd,Dt,Ea,Eb,Dp,Ei,Eh,Ed,Ew,Df,Et,Dl,Dn,Eo,Dy,Dw,Dh,Dq,Ee,Fg,Dc,Dx,Dj,Dz,Ej,Du,Eu,Ez,En,Ef,Fe,Fj,Fh,Ep,Em,Ey,Fb];exact aHy (bU n) hf
theorem bGP: aI Tryz.prog G0 KW5:=aH (aRp (aC λ(t,m,n,_)=>bEP t m n) (aC λ(t,m,_)=>bEQ t m)) bEp
theorem aYr(n:Net)(p:Plan): aB Tryz.prog G0 65 [.ip N n,.ip Pl p] [] ⟨mZ p,.dat .bool (oJ n p),[]⟩:=by
 refine aA (c:=mkc KW5) bGP bD hm (aS5 n p ⟨rfl,λ⟨a3,a4,a5⟩=>?_⟩)
 simp only[qc,Di,Es,Dk,qd,Dt,Ea,Eb,Dp,Ei,Eh,Ed,Ew,Df,Et,Dl,Dn,Eo,Dy,Dw,Dh,Dq,Ee,Fg,Dc,Dx,Dj,Dz,Ej,Du,Eu,Ez,En,Ef,Fe,Fj,Fh,Ep,Em,Ey,Fb];have eT:sgF (bU n) p.2.2.1 n.2.2.2.1.length=aBk n p.2.2.1:=rfl;rw[eT];have e1:∀i:Nat,(i:Int)<p.2.2.2.length->p.2.2.2.getD i []∈p.2.2.2:=λi hi=>getD_mem (by omega)
 have eD:(p.2.2.2.length:Int)=n.2.2.2.2.2.length->(aDt n p=true↔∀i:Nat,(i:Int)<p.2.2.2.length->sgF oK (p.2.2.2.getD i []) n.2.2.2.1.length=true):=λhl=>by
  unfold aDt;simp only[qC,qE,qM];refine⟨λh i hi=>h.2 _ (e1 i hi),λh=>⟨hl,λx hx=>?_⟩⟩
  obtain⟨i,hi,rfl⟩:=wY.1 hx;have:=h i (by omega)
  rw[qA,qB hi,qQ]at this;exact this
 refine⟨λh=>bC (by omega),λh=>?_,λh=>⟨λ_=>a3,λh2=>?_,λ⟨h2,h3⟩=>?_⟩⟩
 .unfold oJ aBL;rw[vG (by omega)];rfl
 .unfold oJ aDt;rcases h2 with h2 | h2
  .rw[vG h2];simp
  .rw[h2];simp
 .have hR:aBL p=true:=by unfold aBL;exact qW (by omega)
  refine⟨⟨qL _,by omega,hR,h3,h2,λi hi=>by omega⟩,λx ⟨x0,x1,_,_,_,x5⟩=>⟨λhx=>⟨x0,hx,a5 _ (getD_mem (by omega)),λh4=>?_,λh4=>?_⟩,λhx=>?_⟩⟩
  .refine(kP.2 λht=>?_).symm
   unfold oJ at ht;simp only[qC]at ht;have:=(eD h2).1 ht.2.2 x.toNat (by omega)
   rw[h4]at this;cases this
  .refine⟨bC (by omega),x+1,⟨by omega,by omega,hR,h3,h2,λi hi=>?_⟩,rfl,by omega⟩
   by_cases h5:(i:Int)<x
   .exact x5 i h5
   .have:i=x.toNat:=by omega
    subst this;exact h4
  .unfold oJ;rw[hR,h3,(eD h2).2 λi hi=>x5 i (by omega)];rfl
end Go.Eng.Sv
set_option maxRecDepth 100000
noncomputable section
namespace Go.Eng.Sv
open Go.Proofs
def bGF(n:Net)(f:Int)(s:Stop): Int:=pJ (aS n s.1).1 s.2.2.1+(2-f)
def aDi(n:Net)(f:Int)(l:List Stop): List Int:=l.map (bGF n f)
def aNu(n:Net)(p:Plan)(o d t:Int): List Int:=aDi n p.1 (aGc n p.2.2.1 o d t).dropLast
def aGb(n:Net)(p:Plan)(o d t:Int): Int:=((aGc n p.2.2.1 o d t).getLastD (0,0,0,0)).2.1
def aHm(n:Net)(p:Plan)(o d t:Int)(k:Nat)(xs:List Int): Prop:=aMb n p.2.2.1 o d t/\(0<=p.1/\p.1<=600)/\xs.length=k/\xs.length<=950000000000
def bEy(n:Net)(p:Plan)(o0 d t0:Int)(xs:List Int): Ann:=⟨λid s=>match id with
 | 2=>some {α:=List Stop×Int×Int,inv:=λx=>aWE n p.2.2.1 o0 d t0 x,st:=λx=>{put (flat s) [(1,.dat I x.2.1),(3,.dat I x.2.2),(9,.dat I (Dq (Df x.1) 1))]with mem:=aBD n p (Dz (Dj xs) (Dj (aDi n p.1 x.1))) (Ef xs (aDi n p.1 x.1))},μ:=λx=>Dc (Dh 20 (Df x.1))}
 | _=>none,λ_ _=>none,λ_ _=>none⟩
def cWw: Cfg:=mkp KW3 (λ_=>false) bGr (λf=>f==137)
theorem aXD(o d t:Int)(k:Nat)(xs:List Int)(n:Net)(p:Plan)(hvc:
 let c1:=aNu n p o d t;let c2:=Ef xs c1;let c3:=p.2;let c4:=c3.2;let c5:=c4.1;let c6:=n.1;let c7:=n.2;let c8:=c7.1;let c9:=c7.2;let c10:=c9.1;let c11:=c9.2;let c12:=c11.1;let c13:=c11.2;let c14:=c13.1;let c15:=c13.2;let c16:=p.1;let c17:=c3.1;let c18:=c4.2;let c19:=sZ n c5 o d t;let c20:=isZero c19;let c21:=chainOf (Value.iface (39) (Value.int IntKind.i64 c19));let c22:=(c6,c8,c10,c12,c14,c15);let c23:=(ByteArray.mk #[],(0:Int),(0:Int),(0:Int),(0:Int),(0:Int));let c24:=2-c16;true/\(aHm n p o d t k xs->1=1/\Dj xs<=Dj c2/\(∃(x:List Stop×Int×Int),let c25:=x.2;let c26:=x.1;let c27:=aDi n c16 c26;aWE n c5 o d t x/\1=1/\0=0/\0=0/\o=c25.1/\d=d/\t=c25.2/\(0:Int)=(0:Int)/\1=Df c26+1/\c6=c6/\c8=c8/\c10=c10/\c12=c12/\c14=c14/\c15=c15/\c16=c16/\c17=c17/\c5=c5/\c18=c18/\k=Dj xs+Dj c27/\xs=Ef xs c27/\1=1/\Dj xs=Dj xs/\True)/\∀(x:List (Int×Int×Int×Int)×Int×Int),let c28:=x.2;let c29:=c28.1;let c30:=Eb c29 d;let c31:=Du c5 (Dc c29) [];let c32:=Du c31 (Dc d) 0;let c33:=Ea c32 (-1);let c34:=c28.2;let c35:=aZ c22 c29 c34;let c36:=Ei c35 2000000;let c37:=aS c22 c29;let c38:=c37.1;let c39:=c37.2;let c40:=c39.1;let c41:=c39.2;let c42:=(c38,c40,c41);let c43:=(Du c14 (Dc c32) c23).2.2;let c44:=c43.2;let c45:=c44.1;let c46:=aBy c42 c45 c35;let c47:=isZero c46;let c48:=x.1;let c49:=Df c48;let c50:=c49+1;let c51:=Ea c50 20;let c52:=oQ c42 c45 c35;let c53:=[pJ c38 c52];let c54:=aDi n c16 c48;let c55:=Ef xs c54;let c56:=Dj xs+Dj c54;let c57:=upR c53 c24 (Df c53);let c58:=Ef c55 c57;let c59:=c52+c44.2.1;let c60:=c50+1;
 aWE n c5 o d t x->(c30->1=1/\1=1/\1=1/\1=1/\0=0/\0<=c29/\c29<Df c5/\0<=d/\d<Df c31/\(c33->(true->True/\(false=false->c20=false/\true/\chainOf (Value.iface (39) (Value.int IntKind.i64 (170:Int)))=c21))/\True)/\(c33=false->mQ c22 c29 c34/\(c36->(true->True/\(false=false->c20=false/\true/\chainOf (Value.iface (39) (Value.int IntKind.i64 (1:Int)))=c21))/\True)/\(c36=false->1=1/\1=1/\1=1/\1=1/\0=0/\0<=c32/\c32<Df c14/\1=1/\0=0/\aAL c22 c29/\1=1/\0=0/\1=1/\0=0/\1=1/\1=1/\0=0/\aIF c42 c45 c35/\(true->True/\(c47=false->c20=false/\true/\chainOf (Value.iface (39) (Value.int IntKind.i64 c46))=c21))/\((true->c47)->(True/\c47)/\(c51->(true->True/\(false=false->c20=false/\true/\chainOf (Value.iface (39) (Value.int IntKind.i64 (170:Int)))=c21))/\True)/\(c51=false->1=1/\0=0/\oG c38 c40 c41 c52/\1=1/\1=1/\1=1/\1=1/\0=0/\inR IntKind.i64 c24/\rsP c24 c53 c55 c56/\1=1/\Dj c55<=Dj c58/\1=1/\1=1/\0=0/\1=1/\1=1/\0=0/\inR IntKind.i64 c59/\inR IntKind.i64 c60/\∃(y:List Stop×Int×Int),let c61:=y.2;let c62:=y.1;let c63:=Df c62;let c64:=aDi n c16 c62;aWE n c5 o d t y/\(1=1/\0=0/\0=0/\c43.1=c61.1/\d=d/\c59=c61.2/\(0:Int)=(0:Int)/\c60=c63+1/\c6=c6/\c8=c8/\c10=c10/\c12=c12/\c14=c14/\c15=c15/\c16=c16/\c17=c17/\c5=c5/\c18=c18/\c56+Dj c57=Dj xs+Dj c64/\c58=Ef xs c64/\1=1/\Dj xs=Dj xs/\True)/\Dc (20-c63)<Dc (20-c49))))))/\(c30=false->c20/\c34=aGb n p o d t/\c6=c6/\c8=c8/\c10=c10/\c12=c12/\c14=c14/\c15=c15/\c16=c16/\c17=c17/\c5=c5/\c18=c18/\c56=k+Dj c1/\c55=c2/\1=1/\Dj xs=Dj xs/\True))):
  evM cWw (bEy n p o d t xs) 135 [.ptr 2 1 0 0,.dat I o,.dat I d,.dat I t] (aBD n p k xs) (.dat I (aGb n p o d t)) (aBD n p (Dz k (Dj (aNu n p o d t))) (Ef xs (aNu n p o d t))) ⟨aHm n p o d t k xs,isZero (sZ n p.2.2.1 o d t),aF9 39 (sZ n p.2.2.1 o d t)⟩:=@of_eq _ _ (by kernel_rfl) hvc
theorem aWK(o d t:Int)(k:Nat)(xs:List Int)(n:Net)(p:Plan): aB Tryz.prog G0 135 [.ptr 2 1 0 0,.dat I o,.dat I d,.dat I t] (aBD n p k xs) ⟨aHm n p o d t k xs/\isZero (sZ n p.2.2.1 o d t)=true,.dat I (aGb n p o d t),aBD n p (Dz k (Dj (aNu n p o d t))) (Ef xs (aNu n p o d t))⟩/\
  iT Tryz.prog G0 135 [.ptr 2 1 0 0,.dat I o,.dat I d,.dat I t] (aBD n p k xs) ⟨aHm n p o d t k xs,isZero (sZ n p.2.2.1 o d t),aF9 39 (sZ n p.2.2.1 o d t)⟩:=by
 refine gX (c:=cWw) bAS bD hm aSC (aXD o d t k xs n p ⟨rfl,λhp=>?_⟩)
 obtain⟨hp,hp1,hk,hxl⟩:=hp;have eN:(n.1,n.2.1,n.2.2.1,n.2.2.2.1,n.2.2.2.2.1,n.2.2.2.2.2)=n:=rfl;have eC:∀c:Int×List Bool×List Int,(c.1,c.2.1,c.2.2)=c:=λ_=>rfl
 have eX:∀l:Int,n.2.2.2.2.1.getD l.toNat (⟨#[]⟩,0,0,0,0,0)=aDh n l:=λ_=>rfl
 have eM:∀u:Int,(p.2.2.1.getD u.toNat []).getD d.toNat 0=nxt p.2.2.1 u d:=λ_=>rfl
 have eU:∀x b:Int,upR [x] b (([x]:List Int).length:Int)=[x+b]:=λ_ _=>rfl
 simp only[qc,Di,Es,Dk,qd,Dt,Ea,Eb,Dp,Ei,Eh,Ed,Ew,Df,Et,Dl,Dn,Eo,Dy,Dw,Dh,Dq,Ee,Fg,Dc,Dx,Dj,Dz,Ej,Du,Eu,Ez,En,Ef,Fe,Fj,Fh,Ep,Em,Ey,Fb,eN,eC,eX,eM,eU];refine⟨by rw[qF];omega,⟨([],o,t),⟨hp,by simp,(aMD 19 o t).symm⟩,rfl,rfl,rfl,by rw[hk];rfl,(wE _).symm⟩,?_⟩
 rintro⟨l,u,v⟩ hx;simp only;generalize hln:nxt p.2.2.1 u d=ln at *;obtain⟨⟨hs,ht,u0,u1,o0,o1,v0,v1⟩,hd,hw⟩:=hx;simp only at u0 u1 o0 o1 v0 v1 hd hw;have hno:noF n=true:=dP n.1 n.2.1 n.2.2.1 n.2.2.2.1 n.2.2.2.2.1 n.2.2.2.2.2 hs
 obtain⟨c1,c2,c3⟩:(p.2.2.1.length:Int)=n.2.2.2.1.length/\((p.2.2.1.getD u.toNat []).length:Int)=n.2.2.2.1.length/\(nxt p.2.2.1 u d≠-1->(0<=nxt p.2.2.1 u d/\nxt p.2.2.1 u d<n.2.2.2.2.1.length)/\lH n (nxt p.2.2.1 u d)=u):=aAd n.1 n.2.1 n.2.2.1 n.2.2.2.1 n.2.2.2.2.1 n.2.2.2.2.2 ht u0 u1 o0 o1;rw[hln]at c3;have hoff:aAL n u:=⟨hno,u0,u1⟩;have hr:mQ n u v:=⟨hoff,by omega,by omega⟩
 obtain⟨_,_,r1,r2⟩:inR .i64 ((fV n u).2.2.2.2.1*(fV n u).2.2.2.2.2.1)/\inR .i64 (aZ n u v)/\v<=aZ n u v/\aZ n u v<=v+960:=aE9 n.1 n.2.1 n.2.2.1 n.2.2.2.1 n.2.2.2.2.1 n.2.2.2.2.2 hr;have hE:sZ n p.2.2.1 o d t=(aJm l (aAK n p.2.2.1 d (19-l.length) u v)).2:=by unfold sZ;rw[hw]
 have hL:aGc n p.2.2.1 o d t=(aJm l (aAK n p.2.2.1 d (19-l.length) u v)).1:=by unfold aGc;rw[hw]
 have herr:∀e:Int,e≠0->aAK n p.2.2.1 d (19-l.length) u v=([],e)->sZ n p.2.2.1 o d t=e:=λe he h=>by rw[hE,h];unfold aJm;rw[if_neg he]
 refine⟨λhne=>⟨u0,by rw[c1];exact u1,o0,by rw[c2];exact o1,λhm=>?_,λhm=>⟨hr,λhgt=>?_,λhle=>?_⟩⟩,λhe=>?_⟩
 .rw[herr 170 (by decide) (aCh _ hne (hln.trans hm))]
  exact⟨rfl,rfl⟩
 .have e1:aEp n ln (aZ n u v)=1:=if_neg (by unfold jF;rw[qE];omega)
  rw[herr 1 (by decide) ((aEz _ hne (by rw[hln];exact hm) (by rw[hln,e1];decide)).trans (by rw[hln,e1]))]
  exact⟨rfl,rfl⟩
 .obtain⟨⟨l0,l1⟩,lf⟩:=c3 hm;have hlin:aRh n ln:=⟨hno,l0,l1⟩;obtain⟨g1,g2,g3,g4,g5,g6,g7,g8⟩:0<=lH n ln/\lH n ln<n.2.2.2.1.length/\0<=aMS n ln/\aMS n ln<n.2.2.2.1.length/\0<=aOk n ln/\aOk n ln<=1439/\1<=sD n ln/\sD n ln<=5000:=aJM n.1 n.2.1 n.2.2.1 n.2.2.2.1 n.2.2.2.2.1 n.2.2.2.2.2 hlin;have htm:jF (aZ n u v)=true:=by unfold jF;rw[qE];omega
  have eE:aEp n ln (aZ n u v)=aBy (aS n u) (aDh n ln).2.2.2.1 (aZ n u v):=by unfold aEp;rw[if_pos htm,lf];rfl
  have eD:aFP n ln (aZ n u v)=oQ (aS n u) (aDh n ln).2.2.2.1 (aZ n u v):=by unfold aFP;rw[if_pos htm,lf];rfl
  have hv:aO (aS n u).1 (aS n u).2.1 (aS n u).2.2=true:=(nK n.1 n.2.1 n.2.2.1 n.2.2.2.1 n.2.2.2.2.1 n.2.2.2.2.2 hoff).2.2.1;have g5':0<=(aDh n ln).2.2.2.1:=g5;have g6':(aDh n ln).2.2.2.1<=1439:=g6;have g7':1<=(aDh n ln).2.2.2.2.1:=g7;have g8':(aDh n ln).2.2.2.2.1<=5000:=g8;refine⟨l0,l1,hoff,⟨hv,by omega,by omega,by omega,by omega⟩,λhz=>?_,λhz=>⟨hz,λh20=>?_,λh20=>?_⟩⟩
  .have hz0:=lX.1 hz;rw[herr _ hz0 ((aEz _ hne (by rw[hln];exact hm) (by rw[hln,eE];exact hz0)).trans (by rw[hln,eE]))]
   exact⟨hz,rfl⟩
  .have hz0:=iV.1 hz;rw[herr 170 (by decide) (by rw[show 19-l.length=0 by omega];exact aEh hne (by rw[hln];exact hm) (by rw[hln,eE];exact hz0))]
   exact⟨rfl,rfl⟩
  .have hz0:=iV.1 hz;obtain⟨b1,b2⟩:=tJ hv hz0 g5' g6';have hnx:=aEg (n:=n) (nx:=p.2.2.1) (to:=d) (o:=u) (t:=v) (19-(l.length+1)) hne (by rw[hln];exact hm) (by rw[hln,eE];exact hz0)
   rw[show 19-(l.length+1)+1=19-l.length by omega,hln,eD]at hnx
   have lD:(aDi n p.1 l).length=l.length:=by unfold aDi;rw[vF]
   generalize hq:oQ (aS n u) (aDh n ln).2.2.2.1 (aZ n u v)=q at *;have lA:aDi n p.1 (l++[(u,v,q,ln)])=aDi n p.1 l++[pJ (aS n u).1 q+(2-p.1)]:=by unfold aDi bGF;rw[yG];rfl
   have dq:-1000000<=pJ (aS n u).1 q/\pJ (aS n u).1 q<=1000000:=by
    obtain⟨⟨z1,z2,_,_⟩,_⟩:=fQ.1 hv;unfold pJ;omega
   refine⟨⟨hv,by omega,by omega⟩,bC (by omega),⟨⟨by rw[qF],by rw[qF,lD];show _+1<=_;omega⟩,by omega,by omega,λx hx=>by rw[qZ]at hx;omega⟩,by simp only[qF];omega,bC (by omega),bC (by omega),
    (l++[(u,v,q,ln)],aMS n ln,q+sD n ln),⟨⟨hs,ht,g3,g4,o0,o1,by simp only;omega,by simp only;omega⟩,by simp;omega,?_⟩,⟨rfl,rfl,by simp,by rw[lA];simp;omega,by rw[lA,wG]⟩,by simp;omega⟩
   show aAK n p.2.2.1 d 19 o t=_;rw[hw,hnx,aHQ];simp
 .rw[aMa _ he]at hE hL;have hL':aGc n p.2.2.1 o d t=l++[(u,v,-1,-1)]:=hL;have eG:aNu n p o d t=aDi n p.1 l:=by unfold aNu;rw[hL',List.dropLast_concat]
  have eT:aGb n p o d t=v:=by unfold aGb;rw[hL'];simp
  have hE':sZ n p.2.2.1 o d t=0:=hE;rw[hE',eG,eT];exact⟨rfl,rfl,by omega,rfl⟩
end Go.Eng.Sv
set_option maxRecDepth 100000
noncomputable section
namespace Go.Eng.Sv
open Go.Proofs
def aO7(c:Int×List Bool×List Int)(m till:Int): Nat->Int->List Int
 | 0,_=>[]
 | f+1,t=>if aBy c m t=0 then if oQ c m t<till then oQ c m t::aO7 c m till f (oQ c m t+1)else[]else[]
def aXl(p:Plan): Nat:=(1440*(p.2.1-p.1)).toNat+1
def aSN(n:Net)(p:Plan)(c o:Int)(f:Nat)(t:Int): List Int:=aO7 (aS n o) (dM n c).2.1 (1440*p.2.1) f t
def aAM(n:Net)(p:Plan)(c o:Int): List Int:=aSN n p c o (aXl p) (1440*p.1)
def aFS(n:Net)(p:Plan)(c o:Int): Prop:=aAL n o/\aIq n c/\aBL p=true
def aHc(n:Net)(p:Plan)(c o:Int)(x:Nat×Int): Prop:=(1440*p.1+x.1<=x.2/\x.2<=1440*p.2.1)/\x.1<=(aAM n p c o).length/\(aAM n p c o).drop x.1=aSN n p c o (aXl p-x.1) x.2
def bFP: AV->AV
 | .pin u a=>.pin u a
 | .yld l=>.yld l
 | _=>.top
def bAY(n:Net)(p:Plan)(c o:Int): aL9:=⟨λid y=>match id with
 | 1=>some {α:=Nat×Int,inv:=λx=>aHc n p c o x,st:=λx=>⟨put {y.s with tm:=y.s.tm.map bFP} [(5,.dat I x.2)],x.1,true⟩,μ:=λx=>Dc (Dh (Dq (Ee 1440 p.2.1) 1) x.2)}
 | _=>none,λ_ _=>none,λid=>id==2⟩
theorem aS7(c o:Int)(n:Net)(p:Plan)(hvc:
 let c6:=n.2.1;let c5:=p.2.1;let c4:=n.2.2.1;let c3:=p.2.2;let c1:=n.2.2.2;let c2:=1440*p.1;let c21:=(aS n o);let c22:=(Du c1.2.2 (Dc c) (ByteArray.mk #[],(0:Int),(0:Int))).2.1;let c23:=1440*c5;let c24:=aAM n p c o;let c25:=Dj c24;let c26:=c23+1;true/\true/\false=false/\∀(l:Nat) (u:Nat->Value),aFS n p c o->inR IntKind.i64 c2/\(∃(x:Nat×Int),aHc n p c o x/\(l=l/\u (0)=u (0)/\n.1=n.1/\c6=c6/\c4=c4/\c1.1=c1.1/\c1.2.1=c1.2.1/\c1.2.2=c1.2.2/\p.1=p.1/\c5=c5/\c3.1=c3.1/\c3.2=c3.2/\u (1)=u (1)/\o=o/\u (2)=u (2)/\c=c/\c2=x.2/\True)/\0=x.1/\true)/\∀(x:Nat×Int),let c27:=Eb (aBy c21 c22 x.2) 0;let c28:=Dk c27;let c29:=oQ c21 c22 x.2;let c30:=Ec c27 true (Ed c29 c23);let c31:=Dk c30;let c32:=Ec c30 true (Dk true);let c33:=x.1+(1);let c34:=c29+1;let c35:=Ec c30 true (Dk false);
 aHc n p c o x->aAL n o/\0<=c/\c<Df c1.2.2/\aIF c21 c22 x.2/\(c28->c28->c28)/\(c28->c28->c28)/\(c28->c28->c28)/\(c28->c28->c28)/\(c28->c28->c28)/\(c28->inR IntKind.i64 c23)/\(c28->c28->c28)/\(c28->c28->c28)/\(Di true c28->c28)/\(c31->(c31->c31)/\(c31->c31)/\u (0)=u (0)/\u (1)=u (1)/\u (2)=u (2)/\l=l/\true/\aA7 c24 x.1 c29/\((Di true c31->c31)/\(c32->true->c33=c25)/\(c32=false->inR IntKind.i64 c34/\∃(y:Nat×Int),aHc n p c o y/\((l=l/\u (0)=u (0)/\n.1=n.1/\c6=c6/\c4=c4/\c1.1=c1.1/\c1.2.1=c1.2.1/\c1.2.2=c1.2.2/\p.1=p.1/\c5=c5/\c3.1=c3.1/\c3.2=c3.2/\u (1)=u (1)/\o=o/\u (2)=u (2)/\c=c/\c34=y.2/\True)/\c33=y.1/\true)/\Dc (c26-y.2)<Dc (c26-x.2)))/\(Di true c31->c31)/\(c35->false->c33=c25)/\(c35=false->inR IntKind.i64 c34/\∃(y:Nat×Int),aHc n p c o y/\(False/\c33=y.1/\false)/\Dc (c26-y.2)<Dc (c26-x.2)))/\(c31=false->(c31->c31->c31)/\(Di true c31->c31)/\(c35->true->x.1=c25)/\(c35=false->inR IntKind.i64 c34/\∃(y:Nat×Int),aHc n p c o y/\((l=l/\u (0)=u (0)/\n.1=n.1/\c6=c6/\c4=c4/\c1.1=c1.1/\c1.2.1=c1.2.1/\c1.2.2=c1.2.2/\p.1=p.1/\c5=c5/\c3.1=c3.1/\c3.2=c3.2/\u (1)=u (1)/\o=o/\u (2)=u (2)/\c=c/\c34=y.2/\True)/\x.1=y.1/\true)/\Dc (c26-y.2)<Dc (c26-x.2)))):
  evL (mkc KW3) (bAY n p c o) 206 [.ipv (.ips (wHd n p .top)),.ip I o,.ip I c] ⟨aFS n p c o,I,aAM n p c o⟩:=@of_eq _ _ (by kernel_rfl) hvc
theorem aYt(c o:Int)(n:Net)(p:Plan): aL7 Tryz.prog G0 206 [.ipv (.ips (wHd n p .top)),.ip I o,.ip I c] ⟨aFS n p c o,I,aAM n p c o⟩:=by
 refine aLA (c:=mkc KW3) (A:=bAY n p c o) bAS bD hm (aS7 c o n p ⟨rfl,rfl,rfl,λl u ⟨hoff,hcl,hR⟩=>?_⟩)
 have eN:(n.1,n.2.1,n.2.2.1,n.2.2.2.1,n.2.2.2.2.1,n.2.2.2.2.2)=n:=rfl;have eC:∀c:Int×List Bool×List Int,(c.1,c.2.1,c.2.2)=c:=λ_=>rfl
 have eK:n.2.2.2.2.2.getD c.toNat (⟨#[]⟩,0,0)=dM n c:=rfl;have hR':0<=p.1/\p.1<p.2.1/\p.2.1<=600/\p.2.1-p.1<=60:=wM hR;have hv:aO (aS n o).1 (aS n o).2.1 (aS n o).2.2=true:=(nK n.1 n.2.1 n.2.2.1 n.2.2.2.1 n.2.2.2.2.1 n.2.2.2.2.2 hoff).2.2.1;obtain⟨⟨m0,m1⟩,_⟩:=aCY n.1 n.2.1 n.2.2.1 n.2.2.2.1 n.2.2.2.2.1 n.2.2.2.2.2 hoff.1 hcl;have m0:0<=(dM n c).2.1:=m0;have m1:(dM n c).2.1<=1439:=m1
 simp only[qc,Di,Es,Dk,qd,Dt,Ea,Eb,Dp,Ei,Eh,Ed,Ew,Df,Et,Dl,Dn,Eo,Dy,Dw,Dh,Dq,Ee,Fg,Dc,Dx,Dj,Dz,Ej,Du,Eu,Ez,En,Ef,Fe,Fj,Fh,Ep,Em,Ey,Fb,eN,eC,eK,zY,yB,vU,xH,false_and,and_false,exists_false,imp_false,qCm,reduceCtorEq];obtain⟨q,hq⟩:∃q,q=1440*p.1:=⟨_,rfl⟩;obtain⟨r,hr⟩:∃r,r=1440*p.2.1:=⟨_,rfl⟩;refine⟨bC (by omega),⟨(0,1440*p.1),⟨⟨by simp only;omega,by simp only;omega⟩,wX _,rfl⟩,rfl,rfl⟩,?_⟩
 rintro⟨k,t⟩ ⟨⟨t0,t1⟩,k1,hk⟩;simp only at t0 t1 k1 hk ⊢;have hU:aXl p-k=(aXl p-(k+1))+1:=by unfold aXl;omega
 have hst:aSN n p c o (aXl p-k) t=if aBy (aS n o) (dM n c).2.1 t=0 then if oQ (aS n o) (dM n c).2.1 t<1440*p.2.1 then oQ (aS n o) (dM n c).2.1 t::aSN n p c o (aXl p-(k+1)) (oQ (aS n o) (dM n c).2.1 t+1)else[]else[]:=by rw[hU];rfl
 rw[hst]at hk;have hlen:∀{l:List Int},(aAM n p c o).drop k=l->(aAM n p c o).length=k+l.length:=λh=>by
  have:=zZ List.length h;rw[vY]at this;omega
 refine⟨hoff,hcl.1,hcl.2,⟨hv,m0,by omega,by omega,by omega⟩,λ_=>bC (by omega),λ⟨h1,h2⟩=>?_,λh _=>?_⟩
 .have h2':oQ (aS n o) (dM n c).2.1 t<1440*p.2.1:=by omega
  obtain⟨b1,b2⟩:=tJ hv h1 m0 m1;rw[if_pos h1,if_pos h2']at hk;have hl:=hlen hk;rw[wW]at hl;refine⟨?_,λh=>absurd h (by omega),λ_=>⟨bC (by omega),(k+1,oQ (aS n o) (dM n c).2.1 t+1),⟨⟨by simp only;omega,by simp only;omega⟩,by simp only;omega,?_⟩,⟨rfl,rfl⟩,by simp only;omega⟩⟩
  .show(aAM n p c o)[k]?=some _;have:=zZ (λl=>l[0]?) hk
   simpa[qX]using this
  .show(aAM n p c o).drop (k+1)=_;have:=zZ (List.drop 1) hk
   rwa [yF]at this
 .have:(aAM n p c o).drop k=[]:=by
   rw[hk];by_cases h1:aBy (aS n o) (dM n c).2.1 t=0
   .rw[if_pos h1,if_neg (by omega)]
   .rw[if_neg h1]
  have hl:=hlen this;rw[yO]at hl;omega
theorem aRZ{n:Net}{p:Plan}{c o:Int}(h:aFS n p c o): (aAM n p c o).length<=86401:=by
 have hR:0<=p.1/\p.1<p.2.1/\p.2.1<=600/\p.2.1-p.1<=60:=wM h.2.2;have:∀(f:Nat) (t:Int),(aSN n p c o f t).length<=f:=λf=>by
  induction f with
  | zero=>intro t;exact qK _
  | succ f ih=>
   intro t;have e:aSN n p c o (f+1) t=if aBy (aS n o) (dM n c).2.1 t=0 then if oQ (aS n o) (dM n c).2.1 t<1440*p.2.1 then oQ (aS n o) (dM n c).2.1 t::aSN n p c o f (oQ (aS n o) (dM n c).2.1 t+1)else[]else[]:=rfl
   rw[e];split
   .split
    .rw[wW];exact qBv (ih _)
    .exact wX _
   .exact wX _
 refine wC (this _ _) ?_;unfold aXl;omega
theorem aRY{n:Net}{p:Plan}{c o x:Int}(h:aFS n p c o)(hx:x∈aAM n p c o): 1440*p.1<=x/\x<1440*p.2.1:=by
 have hv:aO (aS n o).1 (aS n o).2.1 (aS n o).2.2=true:=(nK n.1 n.2.1 n.2.2.1 n.2.2.2.1 n.2.2.2.2.1 n.2.2.2.2.2 h.1).2.2.1;obtain⟨⟨m0,m1⟩,_⟩:=aCY n.1 n.2.1 n.2.2.1 n.2.2.2.1 n.2.2.2.2.1 n.2.2.2.2.2 h.1.1 h.2.1;have m0:0<=(dM n c).2.1:=m0;have m1:(dM n c).2.1<=1439:=m1;have:∀(f:Nat) (t:Int),x∈aSN n p c o f t->t<=x/\x<1440*p.2.1:=λf=>by
  induction f with
  | zero=>intro t h;cases h
  | succ f ih=>
   intro t h;have e:aSN n p c o (f+1) t=if aBy (aS n o) (dM n c).2.1 t=0 then if oQ (aS n o) (dM n c).2.1 t<1440*p.2.1 then oQ (aS n o) (dM n c).2.1 t::aSN n p c o f (oQ (aS n o) (dM n c).2.1 t+1)else[]else[]:=rfl
   rw[e]at h;split at h
   .rename_i he;obtain⟨b1,b2⟩:=tJ hv he m0 m1;split at h
    .rcases zL.1 h with rfl | h
     .exact⟨b1,by assumption⟩
     .have:=ih _ h;omega
    .cases h
   .cases h
 exact this _ _ hx
end Go.Eng.Sv
set_option maxRecDepth 100000
noncomputable section
namespace Go.Eng.Sv
open Go.Proofs
def aBb(p:Plan)(k o d:Int): Int:=((p.2.2.2.getD k.toNat []).getD o.toNat []).getD d.toNat 0
def bGD(n:Net)(p:Plan)(o d cut:Int): Int:=aZ n d (aGb n p o d cut)
def bGJ(n:Net)(p:Plan)(c o d cut:Int): Int:=oQ (aS n d) (dM n c).2.2 (bGD n p o d cut)
def aKE(n:Net)(p:Plan)(c o d cut:Int): Int:=aBy (aS n d) (dM n c).2.2 (bGD n p o d cut)
def aWc(n:Net)(p:Plan)(c o d cut:Int): Int:=aCS (aS n d).2.1 (aS n d).2.2 (pJ (aS n d).1 cut) (pJ (aS n d).1 (bGJ n p c o d cut))
def aKF(n:Net)(p:Plan)(c o d cut:Int): Int:=if sZ n p.2.2.1 o d cut≠0 then sZ n p.2.2.1 o d cut else if aKE n p c o d cut≠0 then aKE n p c o d cut else if aWc n p c o d cut>aBb p c o d then 190 else 0
def aM2(l:List Int): Int:=(l.find? λe=>decide (e≠0)).getD 0
def rU(n:Net)(p:Plan)(c o d:Int): Int:=aM2 ((aAM n p c o).map (aKF n p c o d))
def aB5(n:Net)(p:Plan)(c o d:Int)(j:Nat): List Int:=((aAM n p c o).take j).flatMap (aNu n p o d)
def keepA(n:Net)(p:Plan)(c o d:Int): List Int:=aB5 n p c o d (aAM n p c o).length
def aD9(n:Net)(p:Plan): Prop:=bZ n=true/\oJ n p=true
def aBO(n:Net)(p:Plan)(c o d:Int)(k:Nat)(xs:List Int): Prop:=(aD9 n p/\aIq n c/\aAL n o/\aAL n d)/\xs.length=k/\xs.length<=900000000000
def aDR(n:Net)(p:Plan)(c o d:Int)(k:Nat)(xs:List Int)(j:Nat): Prop:=aBO n p c o d k xs/\j<=(aAM n p c o).length/\∀i:Nat,i<j->aKF n p c o d ((aAM n p c o).getD i 0)=0
def KIW: FuncId->List AV->Option sV:=λf caps=>if f=206+aGi then match caps with
  | [.ipv x,.ip (.int .i64) o,.ip (.int .i64) c]=>match asI x with
   | some (n,p)=>some ⟨aFS n p c o,I,aAM n p c o⟩
   | none=>none
  | _=>none
 else none
def KW6: Kt:=kOr 135 (wK [.mp 2,.val I,.val I,.val I] (λ(_,o,d,t,_) n p k xs=>aHm n p o d t k xs/\isZero (sZ n p.2.2.1 o d t)=true) (λ(_,o,d,t,_) n p=>.dat I (aGb n p o d t)) λ(_,o,d,t,_) n p=>aNu n p o d t) KW4
def bGq: KPt:=pOr 135 (wP [.mp 2,.val I,.val I,.val I] λ(_,o,d,t,_) n p k xs=>⟨aHm n p o d t k xs,isZero (sZ n p.2.2.1 o d t),aF9 39 (sZ n p.2.2.1 o d t)⟩) bGr
noncomputable def bDw: Cfg:=⟨Tryz.prog,G0,KW6,λ_=>false,KIW,true,bGq,λf=>f==137||f==135⟩
def bAW(n:Net)(p:Plan)(c o d:Int)(k:Nat)(xs:List Int): Ann:=⟨λid s=>match id with
 | 2=>some {α:=Nat,inv:=λj=>aDR n p c o d k xs j,st:=λj=>{flat s with mem:=aBD n p (Dz (Dj xs) (Dj (aB5 n p c o d j))) (Ef xs (aB5 n p c o d j))},μ:=λj=>j}
 | _=>none,λ_ _=>none,λ_ _=>none⟩
theorem aS4(c o d:Int)(k:Nat)(xs:List Int)(n:Net)(p:Plan)(hvc:
 let c7:=n.2.1;let c6:=p.2.1;let c5:=n.2.2.1;let c4:=p.2.2;let c3:=n.2.2.2;let c1:=keepA n p c o d;let c2:=Ef xs c1;let c21:=aAM n p c o;let c22:=rU n p c o d;let c23:=isZero c22;let c24:=chainOf (Value.iface (39) (Value.int IntKind.i64 c22));let c25:=aS n d;let c31:=(Du c3.2.2 (Dc c) (ByteArray.mk #[],(0:Int),(0:Int))).2.2;let c32:=Du c4.2 (Dc c) (Dt (List Int));let c33:=Du c32 (Dc o) [];
 true/\(aBO n p c o d k xs->1=1/\Dj xs<=Dj c2/\True/\true/\
 (∀(x:Nat),aDR n p c o d k xs x->some [(AV.ips [AV.dat ((Ty.int IntKind.i64).pair (Ty.bool.sl.pair (Ty.int IntKind.i64).sl)).sl n.1,AV.dat Ty.str.sl c7,AV.dat Ty.str.sl c5,AV.dat (Ty.str.pair ((Ty.int IntKind.i64).pair ((Ty.int IntKind.i64).pair ((Ty.int IntKind.i64).pair ((Ty.int IntKind.i64).pair ((Ty.int IntKind.i64).pair Ty.str.sl)))))).sl c3.1,AV.dat (Ty.str.pair ((Ty.int IntKind.i64).pair ((Ty.int IntKind.i64).pair ((Ty.int IntKind.i64).pair ((Ty.int IntKind.i64).pair (Ty.int IntKind.i64)))))).sl c3.2.1,AV.dat (Ty.str.pair ((Ty.int IntKind.i64).pair (Ty.int IntKind.i64))).sl c3.2.2,AV.dat (Ty.int IntKind.i64) p.1,AV.dat (Ty.int IntKind.i64) c6,AV.dat (Ty.int IntKind.i64).sl.sl c4.1,AV.dat (Ty.int IntKind.i64).sl.sl.sl c4.2,AV.top]).ipv,AV.ip (Ty.int IntKind.i64) o,AV.ip (Ty.int IntKind.i64) c]=some [(AV.ips [AV.dat ((Ty.int IntKind.i64).pair (Ty.bool.sl.pair (Ty.int IntKind.i64).sl)).sl n.1,AV.dat Ty.str.sl c7,AV.dat Ty.str.sl c5,AV.dat (Ty.str.pair ((Ty.int IntKind.i64).pair ((Ty.int IntKind.i64).pair ((Ty.int IntKind.i64).pair ((Ty.int IntKind.i64).pair ((Ty.int IntKind.i64).pair Ty.str.sl)))))).sl c3.1,AV.dat (Ty.str.pair ((Ty.int IntKind.i64).pair ((Ty.int IntKind.i64).pair ((Ty.int IntKind.i64).pair ((Ty.int IntKind.i64).pair (Ty.int IntKind.i64)))))).sl c3.2.1,AV.dat (Ty.str.pair ((Ty.int IntKind.i64).pair (Ty.int IntKind.i64))).sl c3.2.2,AV.dat (Ty.int IntKind.i64) p.1,AV.dat (Ty.int IntKind.i64) c6,AV.dat (Ty.int IntKind.i64).sl.sl c4.1,AV.dat (Ty.int IntKind.i64).sl.sl.sl c4.2,AV.top]).ipv,AV.ip (Ty.int IntKind.i64) o,AV.ip (Ty.int IntKind.i64) c])/\aFS n p c o/\(∃x,let c34:=aB5 n p c o d x;aDR n p c o d k xs x/\x=0/\1=1/\0=0/\0=0/\c=c/\o=o/\d=d/\1=1/\0=0/\0=0/\c=c/\o=o/\d=d/\1=1/\0=0/\0=0/\c=c/\o=o/\1=1/\0=0/\0=0/\o=o/\c=c/\n.1=n.1/\c7=c7/\c5=c5/\c3.1=c3.1/\c3.2.1=c3.2.1/\c3.2.2=c3.2.2/\p.1=p.1/\c6=c6/\c4.1=c4.1/\c4.2=c4.2/\k=Dj xs+Dj c34/\xs=Ef xs c34/\1=1/\Dj xs=Dj xs/\True)/\(∀(x:Nat),let c35:=aB5 n p c o d x;let c36:=Dj xs+Dj c35;let c37:=Ef xs c35;∀(y:Int),let c38:=sZ n c4.1 o d y;let c39:=isZero c38;let c40:=aNu n p o d y;let c41:=Ef c37 c40;let c42:=aGb n p o d y;let c43:=aZ n d c42;let c44:=aBy c25 c31 c43;let c45:=isZero c44;let c46:=oQ c25 c31 c43;let c47:=pJ c25.1 c46;let c48:=Ei (aCS c25.2.1 c25.2.2 (pJ c25.1 y) c47) (Du c33 (Dc d) 0);aDR n p c o d k xs x->aA7 c21 x y->(true->aHm n p o d y c36 c37/\(c39=false->c23=false/\true/\chainOf (Value.iface (39) (Value.int IntKind.i64 c38))=c24))/\((true->c39)->(aHm n p o d y c36 c37/\c39)/\1=1/\Dj c37<=Dj c41/\aAL n d/\1=1/\0=0/\1=1/\0=0/\1=1/\1=1/\1=1/\1=1/\0=0/\0<=c/\c<Df c3.2.2/\mQ n d c42/\aIF c25 c31 c43/\True/\(c45->1=1/\0=0/\1=1/\1=1/\1=1/\1=1/\0=0/\0<=c/\c<Df c3.2.2/\mQ n d c42/\aIF c25 c31 c43/\(True/\c45)/\1=1/\0=0/\oG c25.1 c25.2.1 c25.2.2 y/\1=1/\0=0/\oG c25.1 c25.2.1 c25.2.2 c46/\1=1/\0=0/\countP c25.1 c25.2.1 c25.2.2 (pJ c25.1 y) c47/\1=1/\1=1/\1=1/\1=1/\0=0/\0<=c/\c<Df c4.2/\0<=o/\o<Df c32/\0<=d/\d<Df c33/\(c48->(true->True/\(false=false->c23=false/\true/\chainOf (Value.iface (39) (Value.int IntKind.i64 (190:Int)))=c24))/\True)/\(c48=false->∃z,let c49:=aB5 n p c o d z;aDR n p c o d k xs z/\z=x+(1)/\1=1/\0=0/\0=0/\c=c/\o=o/\d=d/\1=1/\0=0/\0=0/\c=c/\o=o/\d=d/\1=1/\0=0/\0=0/\c=c/\o=o/\1=1/\0=0/\0=0/\o=o/\c=c/\n.1=n.1/\c7=c7/\c5=c5/\c3.1=c3.1/\c3.2.1=c3.2.1/\c3.2.2=c3.2.2/\p.1=p.1/\c6=c6/\c4.1=c4.1/\c4.2=c4.2/\c36+Dj c40=Dj xs+Dj c49/\c41=Ef xs c49/\1=1/\Dj xs=Dj xs/\True))/\(c45=false->c23=false/\true/\chainOf (Value.iface (39) (Value.int IntKind.i64 c44))=c24)))/\∀(x:Nat),let c50:=aB5 n p c o d x;aDR n p c o d k xs x->x=Dj c21->c23/\n.1=n.1/\c7=c7/\c5=c5/\c3.1=c3.1/\c3.2.1=c3.2.1/\c3.2.2=c3.2.2/\p.1=p.1/\c6=c6/\c4.1=c4.1/\c4.2=c4.2/\Dj xs+Dj c50=k+Dj c1/\Ef xs c50=c2/\1=1/\Dj xs=Dj xs/\True)):
  evM bDw (bAW n p c o d k xs) 68 [.ptr 2 1 0 0,.dat I c,.dat I o,.dat I d] (aBD n p k xs) (.tup []) (aBD n p (Dz k (Dj (keepA n p c o d))) (Ef xs (keepA n p c o d))) ⟨aBO n p c o d k xs,isZero (rU n p c o d),aF9 39 (rU n p c o d)⟩:=@of_eq _ _ (by kernel_rfl) hvc
theorem aIa{l:List Int}{j:Nat}(hj:j<l.length)(h0:∀i:Nat,i<j->l.getD i 0=0)(h1:l.getD j 0≠0): aM2 l=l.getD j 0:=by
 induction l generalizing j with
 | nil=>simp at hj
 | cons x l ih=>
  unfold aM2;rw[qBe];cases j with
  | zero=>
   have:x≠0:=h1;rw[qW this];rfl
  | succ j=>
   have hx:x=0:=h0 0 (by omega)
   rw[vG (by rw[hx];decide)]
   exact ih (by simpa using hj) (λi hi=>by simpa using h0 (i+1) (by omega)) (by simpa using h1)
theorem aCN{l:List Int}(h:∀i:Nat,i<l.length->l.getD i 0=0): aM2 l=0:=by
 unfold aM2;have:l.find? (λe=>decide (e≠0))=none:=by
  rw[qCk];intro x hx;obtain⟨i,hi,rfl⟩:=wY.1 hx;have:=h i hi;rw[qA,qB hi,qQ]at this;simp[this]
 rw[this];rfl
theorem aAq{l:List Int}(h:aM2 l=0): ∀x∈l,x=0:=by
 intro x hx;obtain⟨i,hi,rfl⟩:=wY.1 hx;induction i using Nat.strongRecOn with
 | ind i ih=>
  have e:∀j (hj:j<l.length),l.getD j 0=l[j]:=λj hj=>by rw[qA,qB hj,qQ]
  rw[<- e i hi];refine Decidable.byContradiction λhne=>?_
  have:=aIa hi (λj hj=>by rw[e j (by omega)];exact ih j hj (by omega) (wH _)) hne
  exact hne (this.symm.trans h)
theorem pO{n:Net}{p:Plan}(h:oJ n p=true): aBL p=true/\aBk n p.2.2.1=true/\aDt n p=true:=by
 unfold oJ at h;simpa only[qC]using h
theorem aRW{n:Net}{p:Plan}(h:aDt n p=true){c o d:Int}(hc:aIq n c)(o0:0<=o)(o1:o<n.2.2.2.1.length)(d0:0<=d)(d1:d<n.2.2.2.1.length):
  (c<p.2.2.2.length/\o<(p.2.2.2.getD c.toNat []).length/\d<((p.2.2.2.getD c.toNat []).getD o.toNat []).length)/\-1<=aBb p c o d/\aBb p c o d<=65518:=by
 obtain⟨c0,c1⟩:=hc;unfold aDt at h;simp only[qC,qE,qM]at h;obtain⟨h1,h2⟩:=h;have h3:=h2 _ (getD_mem (l:=p.2.2.2) (i:=c.toNat) (d:=[]) (by omega))
 have h4:((p.2.2.2.getD c.toNat []).length:Int)=n.2.2.2.1.length:=by
  unfold sgF at h3;simp only[qC,qE]at h3;exact h3.1
 have h5:=(aI5 h4).1 h3 o.toNat (by omega)
 have h6:(((p.2.2.2.getD c.toNat []).getD o.toNat []).length:Int)=n.2.2.2.1.length:=by
  unfold sgR at h5;simp only[qC,qE]at h5;exact h5.1
 have h7:oK ((o.toNat:Nat):Int) (aBb p c o d)=true:=(aKV h6).1 h5 d.toNat (by omega)
 unfold oK aFR at h7;rw[qE]at h7;exact⟨⟨by omega,by omega,by omega⟩,h7⟩
theorem aKI{n:Net}{nx:List (List Int)}{to:Int}: ∀(k:Nat) (o t:Int),aMb n nx o to t->(aAK n nx to k o t).2=0->
  (aAK n nx to k o t).1.length<=k+1/\(aAK n nx to k o t).1≠[]/\t<=((aAK n nx to k o t).1.getLastD (0,0,0,0)).2.1/\((aAK n nx to k o t).1.getLastD (0,0,0,0)).2.1<=2200000
 | k,o,t,hp,h=>by
  obtain⟨hs,ht,u0,u1,o0,o1,v0,v1⟩:=id hp;by_cases he:o=to
  .rw[aMa k he];exact⟨by simp,by simp,qL _,v1⟩
  by_cases hm:nxt nx o to=-1
  .rw[aCh k he hm]at h;cases h
  by_cases h6:aEp n (nxt nx o to) (aZ n o t)=0
  case neg=>rw[aEz k he hm h6]at h;exact absurd h h6
  cases k with
  | zero=>rw[aEh he hm h6]at h;cases h
  | succ k=>
   have hno:noF n=true:=dP n.1 n.2.1 n.2.2.1 n.2.2.2.1 n.2.2.2.2.1 n.2.2.2.2.2 hs;obtain⟨_,_,c3⟩:(nx.length:Int)=n.2.2.2.1.length/\((nx.getD o.toNat []).length:Int)=n.2.2.2.1.length/\(nxt nx o to≠-1->(0<=nxt nx o to/\nxt nx o to<n.2.2.2.2.1.length)/\lH n (nxt nx o to)=o):=aAd n.1 n.2.1 n.2.2.1 n.2.2.2.1 n.2.2.2.2.1 n.2.2.2.2.2 ht u0 u1 o0 o1;obtain⟨⟨l0,l1⟩,lf⟩:=c3 hm
   have hlin:aRh n (nxt nx o to):=⟨hno,l0,l1⟩;obtain⟨g1,g2,g3,g4,g5,g6,g7,g8⟩:0<=lH n (nxt nx o to)/\lH n (nxt nx o to)<n.2.2.2.1.length/\0<=aMS n (nxt nx o to)/\aMS n (nxt nx o to)<n.2.2.2.1.length/\0<=aOk n (nxt nx o to)/\aOk n (nxt nx o to)<=1439/\1<=sD n (nxt nx o to)/\sD n (nxt nx o to)<=5000:=aJM n.1 n.2.1 n.2.2.1 n.2.2.2.1 n.2.2.2.2.1 n.2.2.2.2.2 hlin
   obtain⟨b1,b2,b3,b4⟩:0<=aZ n o t/\aZ n o t<=2000000/\aZ n o t<=aFP n (nxt nx o to) (aZ n o t)/\aFP n (nxt nx o to) (aZ n o t)<=aZ n o t+90000:=aHb n.1 n.2.1 n.2.2.1 n.2.2.2.1 n.2.2.2.2.1 n.2.2.2.2.2 hlin h6
   obtain⟨_,_,r1,r2⟩:inR .i64 ((fV n o).2.2.2.2.1*(fV n o).2.2.2.2.2.1)/\inR .i64 (aZ n o t)/\t<=aZ n o t/\aZ n o t<=t+960:=aE9 n.1 n.2.1 n.2.2.1 n.2.2.2.1 n.2.2.2.2.1 n.2.2.2.2.2 ⟨⟨hno,u0,u1⟩,by omega,by omega⟩
   rw[aEg k he hm h6]at h ⊢;by_cases h7:(aAK n nx to k (aMS n (nxt nx o to)) (aFP n (nxt nx o to) (aZ n o t)+sD n (nxt nx o to))).2=0
   case neg=>rw[aME h7]at h;exact absurd h h7
   obtain⟨i1,i2,i3,i4⟩:=aKI k _ _ ⟨hs,ht,g3,g4,o0,o1,by omega,by omega⟩ h7
   rw[aZv h7];refine⟨by simp;omega,by simp,?_,?_⟩
   .show t<=(([_]++(aAK n nx to k _ _).1).getLastD (0,0,0,0)).2.1;rw[List.singleton_append,List.getLastD_cons,kL,kR i2];rw[kL,kR i2]at i3;simp only[qQ]at i3 ⊢;omega
   .show(([_]++(aAK n nx to k _ _).1).getLastD (0,0,0,0)).2.1<=_;rw[List.singleton_append,List.getLastD_cons,kL,kR i2];rw[kL,kR i2]at i4;exact i4
theorem aMc{n:Net}{p:Plan}{o d t:Int}(hp:aMb n p.2.2.1 o d t)(h:sZ n p.2.2.1 o d t=0): (aNu n p o d t).length<=19/\t<=aGb n p o d t/\aGb n p o d t<=2200000:=by
 obtain⟨h1,_,h3,h4⟩:=aKI 19 o t hp h;refine⟨?_,h3,h4⟩;unfold aNu aDi;rw[vF,List.length_dropLast];show(aAK n p.2.2.1 d 19 o t).1.length-1<=19;omega
theorem aRX{n:Net}{p:Plan}{c o d x:Int}(hp:aD9 n p)(hc:aFS n p c o)(hd:aAL n d)(hx:x∈aAM n p c o): aMb n p.2.2.1 o d x:=by
 obtain⟨b1,b2⟩:=aRY hc hx;have hR:0<=p.1/\p.1<p.2.1/\p.2.1<=600/\p.2.1-p.1<=60:=wM hc.2.2;exact⟨hp.1,(pO hp.2).2.1,hc.1.2.1,hc.1.2.2,hd.2.1,hd.2.2,by omega,by omega⟩
theorem aV1{n:Net}{p:Plan}{c o d x:Int}(h:aKF n p c o d x=0): sZ n p.2.2.1 o d x=0/\aKE n p c o d x=0/\aWc n p c o d x<=aBb p c o d:=by
 unfold aKF at h;by_cases h1:sZ n p.2.2.1 o d x=0
 .rw[if_neg (λg=>g h1)]at h
  by_cases h2:aKE n p c o d x=0
  .rw[if_neg (λg=>g h2)]at h
   split at h
   .cases h
   .exact⟨h1,h2,by omega⟩
  .rw[if_pos h2]at h;exact absurd h h2
 .rw[if_pos h1]at h;exact absurd h h1
theorem aFA{n:Net}{p:Plan}{c o d:Int}{k:Nat}{xs:List Int}: ∀{j:Nat},aDR n p c o d k xs j->(aB5 n p c o d j).length<=19*j
 | 0,_=>by unfold aB5;simp
 | j+1,⟨hp,hj,h0⟩=>by
  have ih:=aFA (j:=j) ⟨hp,by omega,λi hi=>h0 i (by omega)⟩
  have hc:aFS n p c o:=⟨hp.1.2.2.1,hp.1.2.1,(pO hp.1.1.2).1⟩;have hm:(aAM n p c o).getD j 0∈aAM n p c o:=getD_mem (by omega)
  have:=(aMc (aRX hp.1.1 hc hp.1.2.2.2 hm) (aV1 (h0 j (by omega))).1).1
  unfold aB5 at ih ⊢;rw[wV,qAe,qF,qB (show j<(aAM n p c o).length by omega)]
  rw[qA,qB (show j<(aAM n p c o).length by omega),qQ]at this
  simp only[qAk,gI,qDc,wE];omega
theorem bHA: aI Tryz.prog G0 KW6:=aH (aSX λ(_,o,d,t,_) n p k xs=>(aWK o d t k xs n p).1) bEp
theorem aSB: fC Tryz.prog G0 bGq:=rC (bA1 λ(_,o,d,t,_) n p k xs=>(aWK o d t k xs n p).2) aSC
theorem bAz{P:Program}{G:List (Nat×AV)}{g N:Nat}{caps:List AV}{it:sV}(h:aL7 P G g caps it): if g+N<N then aBG P G (g+N) caps it else aL7 P G (g+N-N) caps it:=by
 rw[if_neg (by omega),Nat.add_sub_cancel];exact h
theorem bDR: dI Tryz.prog G0 KIW:=by
 unfold dI KIW;generalize aGi=N;intro f caps it h;split at h
 case isFalse=>cases h
 rename_i hf;split at h
 case h_2=>cases h
 rename_i x o c;split at h
 case h_2=>cases h
 rename_i n p hx;cases h;subst hf;rw[aXq hx];exact bAz (aYt c o n p)
theorem aPS(c o d:Int)(k:Nat)(xs:List Int)(n:Net)(p:Plan): aB Tryz.prog G0 68 [.ptr 2 1 0 0,.dat I c,.dat I o,.dat I d] (aBD n p k xs) ⟨aBO n p c o d k xs/\isZero (rU n p c o d)=true,.tup [],aBD n p (Dz k (Dj (keepA n p c o d))) (Ef xs (keepA n p c o d))⟩/\
  iT Tryz.prog G0 68 [.ptr 2 1 0 0,.dat I c,.dat I o,.dat I d] (aBD n p k xs) ⟨aBO n p c o d k xs,isZero (rU n p c o d),aF9 39 (rU n p c o d)⟩:=by
 refine gX (c:=bDw) bHA bDR hm aSB (aS4 c o d k xs n p ⟨rfl,λhp=>?_⟩)
 have eN:(n.1,n.2.1,n.2.2.1,n.2.2.2.1,n.2.2.2.2.1,n.2.2.2.2.2)=n:=rfl;have eP:(p.1,p.2.1,p.2.2.1,p.2.2.2)=p:=rfl;have eC:∀c:Int×List Bool×List Int,(c.1,c.2.1,c.2.2)=c:=λ_=>rfl
 have eK:n.2.2.2.2.2.getD c.toNat (⟨#[]⟩,0,0)=dM n c:=rfl;have eA:((p.2.2.2.getD c.toNat []).getD o.toNat []).getD d.toNat 0=aBb p c o d:=rfl;simp only[qc,Di,Es,Dk,qd,Dt,Ea,Eb,Dp,Ei,Eh,Ed,Ew,Df,Et,Dl,Dn,Eo,Dy,Dw,Dh,Dq,Ee,Fg,Dc,Dx,Dj,Dz,Ej,Du,Eu,Ez,En,Ef,Fe,Fj,Fh,Ep,Em,Ey,Fb,eN,eP,eC,eK,eA];obtain⟨⟨hpl,hcl,ho,hd⟩,hk,hxl⟩:=id hp;obtain⟨hR,hT,hDy⟩:=pO hpl.2;have hc:aFS n p c o:=⟨ho,hcl,hR⟩
 have hR':0<=p.1/\p.1<p.2.1/\p.2.1<=600/\p.2.1-p.1<=60:=wM hR;have hlen:=aRZ hc;have hv:aO (aS n d).1 (aS n d).2.1 (aS n d).2.2=true:=(nK n.1 n.2.1 n.2.2.1 n.2.2.2.1 n.2.2.2.2.1 n.2.2.2.2.2 hd).2.2.1;obtain⟨⟨z1,z2,_,_⟩,_⟩:=fQ.1 hv;obtain⟨_,⟨m0,m1⟩⟩:=aCY n.1 n.2.1 n.2.2.1 n.2.2.2.1 n.2.2.2.2.1 n.2.2.2.2.2 hd.1 hcl;have m0:0<=(dM n c).2.2:=m0;have m1:(dM n c).2.2<=1439:=m1
 obtain⟨⟨q1,q2,q3⟩,q4⟩:=aRW hDy hcl ho.2.1 ho.2.2 hd.2.1 hd.2.2;have kE:∀(x:Nat),aDR n p c o d k xs x->x<(aAM n p c o).length->aKF n p c o d ((aAM n p c o).getD x 0)≠0->rU n p c o d=aKF n p c o d ((aAM n p c o).getD x 0):=λx hx hl hne=>by
  have eg:∀i:Nat,i<(aAM n p c o).length->((aAM n p c o).map (aKF n p c o d)).getD i 0=aKF n p c o d ((aAM n p c o).getD i 0):=λi hi=>by
   rw[qA,qP,qA,qB hi];rfl
  unfold rU;rw[aIa (j:=x) (by rw[vF];exact hl) (λi hi=>by rw[eg i (by omega)];exact hx.2.2 i hi) (by rw[eg x hl];exact hne),eg x hl]
 refine⟨by rw[qF];omega,hc,⟨0,⟨hp,wX _,λi hi=>by omega⟩,rfl,by rw[hk];rfl,(wE _).symm⟩,λx y hx hy=>?_,λx hx hl=>?_⟩
 .have hy:(aAM n p c o)[x]?=some y:=hy;have hxl2:x<(aAM n p c o).length:=(qG.1 hy).1;have ey:(aAM n p c o).getD x 0=y:=by rw[qA,hy];rfl
  have hym:y∈aAM n p c o:=zH hy;have kE:=kE x hx hxl2;rw[ey]at kE;obtain⟨y0,y1⟩:=aRY hc hym;have hgl:=aFA hx;have hwP:=aRX hpl hc hd hym;have hW:aHm n p o d y (xs.length+(aB5 n p c o d x).length) (xs++aB5 n p c o d x):=⟨hwP,⟨by omega,by omega⟩,by rw[qF],by rw[qF];omega⟩
  refine⟨⟨hW,λhz=>?_⟩,λhz=>?_⟩
  .have hz0:=lX.1 hz;have e:aKF n p c o d y=sZ n p.2.2.1 o d y:=if_pos hz0;rw[kE (by rw[e];exact hz0),e]
   exact⟨hz,rfl⟩
  .have hz0:=iV.1 hz;obtain⟨_,w1,w2⟩:=aMc hwP hz0;have hr:mQ n d (aGb n p o d y):=⟨hd,by omega,by omega⟩
   obtain⟨_,_,r1,r2⟩:inR .i64 ((fV n d).2.2.2.2.1*(fV n d).2.2.2.2.2.1)/\inR .i64 (aZ n d (aGb n p o d y))/\aGb n p o d y<=aZ n d (aGb n p o d y)/\aZ n d (aGb n p o d y)<=aGb n p o d y+960:=aE9 n.1 n.2.1 n.2.2.1 n.2.2.2.1 n.2.2.2.2.1 n.2.2.2.2.2 hr;have hf:aIF (aS n d) (dM n c).2.2 (aZ n d (aGb n p o d y)):=⟨hv,m0,by omega,by omega,by omega⟩
   refine⟨⟨hW,hz⟩,by simp only[qF];omega,hd,hcl.1,hcl.2,hr,hf,λh0=>?_,λh0=>?_⟩
   .have h00:=iV.1 h0;obtain⟨b1,b2⟩:=tJ hv h00 m0 m1;have dB:∀t:Int,0<=t->t<=3000000->dK (pJ (aS n d).1 t)=true:=λt t0 t1=>rE (by unfold pJ;omega) (by unfold pJ;omega)
    refine⟨hcl.1,hcl.2,hr,hf,h0,⟨hv,by omega,by omega⟩,⟨hv,by omega,by omega⟩,⟨hv,dB _ (by omega) (by omega),dB _ (by omega) (by omega)⟩,hcl.1,q1,ho.2.1,q2,hd.2.1,q3,λhgt=>?_,λhle=>?_⟩
    .have e:aKF n p c o d y=190:=by
      unfold aKF;rw[if_neg (λg=>g hz0),if_neg (λg=>g (show aKE n p c o d y=0 from h00)),if_pos (show aWc n p c o d y>aBb p c o d from hgt)]
     rw[kE (by rw[e];decide),e]
     exact⟨rfl,rfl⟩
    .have e:aKF n p c o d y=0:=by
      unfold aKF;rw[if_neg (λg=>g hz0),if_neg (λg=>g (show aKE n p c o d y=0 from h00)),if_neg (show ¬aWc n p c o d y>aBb p c o d from hle)]
     have eG:aB5 n p c o d (x+1)=aB5 n p c o d x++aNu n p o d y:=by
      unfold aB5;rw[wV,hy,qAe];simp
     refine⟨x+1,⟨hp,hxl2,λi hi=>?_⟩,rfl,by rw[eG,qF];omega,by rw[eG,wG]⟩
     by_cases h3:i<x
     .exact hx.2.2 i h3
     .have:i=x:=by omega
      rw[this,ey];exact e
   .have h00:=lX.1 h0;have e:aKF n p c o d y=aKE n p c o d y:=by
     unfold aKF;rw[if_neg (λg=>g hz0),if_pos (show aKE n p c o d y≠0 from h00)]
    rw[kE (by rw[e];exact h00),e]
    exact⟨h0,rfl⟩
 .have e:rU n p c o d=0:=by
   unfold rU;refine aCN λi hi=>?_
   rw[vF]at hi;rw[qA,qP,qB hi];have:=hx.2.2 i (by omega)
   rw[qA,qB hi]at this;exact this
  rw[e,hl];exact⟨rfl,by rw[hk];rfl,rfl⟩
end Go.Eng.Sv
set_option maxRecDepth 100000
noncomputable section
namespace Go.Eng.Sv
open Go.Proofs
def up1(r:List Int): List Int:=upR r 1 (r.length:Int)
def h4N(n:Net)(p:Plan): List Int:=[p.1,p.2.1,n.2.2.2.1.length,n.2.2.2.2.2.length]
def h1N(n:Net)(p:Plan)(j:Int): List Int:=h4N n p++(p.2.2.1.take j.toNat).flatMap up1
def h2N(n:Net)(p:Plan)(i:Int): List Int:=h1N n p p.2.2.1.length++(p.2.2.2.take i.toNat).flatMap λt=>t.flatMap up1
def h3N(n:Net)(p:Plan)(i j:Int): List Int:=h2N n p i++((p.2.2.2.getD i.toNat []).take j.toNat).flatMap up1
def hdN(n:Net)(p:Plan): List Int:=h2N n p p.2.2.2.length
def aIt(n:Net)(p:Plan)(c o d:Int): List Int:=if aBb p c o d=-1 then[]else keepA n p c o d
def aWU(n:Net)(p:Plan)(c o:Int)(k:Nat): List Int:=(List.range k).flatMap λd:Nat=>aIt n p c o (d:Int)
def aWJ(n:Net)(p:Plan)(c:Int)(k:Nat): List Int:=(List.range k).flatMap λo:Nat=>aWU n p c (o:Int) ((p.2.2.2.getD c.toNat []).getD o []).length
def bAo(n:Net)(p:Plan)(k:Nat): List Int:=(List.range k).flatMap λc:Nat=>aWJ n p (c:Int) (p.2.2.2.getD c []).length
def aLW(n:Net)(p:Plan)(c o d:Int): Int:=if aBb p c o d=-1 then 0 else rU n p c o d
def bAH(n:Net)(p:Plan)(c o:Int)(k:Nat): Int:=aM2 ((List.range k).map λd:Nat=>aLW n p c o (d:Int))
def aYo(n:Net)(p:Plan)(c:Int)(k:Nat): Int:=aM2 ((List.range k).map λo:Nat=>bAH n p c (o:Int) ((p.2.2.2.getD c.toNat []).getD o []).length)
def aSS(n:Net)(p:Plan)(k:Nat): Int:=aM2 ((List.range k).map λc:Nat=>aYo n p (c:Int) (p.2.2.2.getD c []).length)
def aLf(n:Net)(p:Plan): List Int:=hdN n p++bAo n p p.2.2.2.length
def k1N(n:Net)(p:Plan)(c:Int): List Int:=hdN n p++bAo n p c.toNat
def k2N(n:Net)(p:Plan)(c o:Int): List Int:=k1N n p c++aWJ n p c o.toNat
def k3N(n:Net)(p:Plan)(c o d:Int): List Int:=k2N n p c o++aWU n p c o d.toNat
def wrE(n:Net)(p:Plan): Int:=if bZ n=true/\oJ n p=true then if aSS n p p.2.2.2.length≠0 then aSS n p p.2.2.2.length else if(aLf n p).length>40000 then 2 else 0 else 1
def wrN(n:Net)(p:Plan): List Int:=if wrE n p=0 then aLf n p else[]
def wrS(n:Net)(p:Plan): Int:=if wrE n p=0 then Go.Eng.In.aBU (aLf n p)else 0
def tA(n:Net)(p:Plan)(k:Int): Prop:=aD9 n p/\0<=k/\k<=p.2.2.1.length
def tB(n:Net)(p:Plan)(i:Int): Prop:=aD9 n p/\0<=i/\i<=p.2.2.2.length
def tC(n:Net)(p:Plan)(i j:Int): Prop:=(aD9 n p/\0<=i/\i<p.2.2.2.length)/\0<=j/\j<=(p.2.2.2.getD i.toNat []).length
def t1(n:Net)(p:Plan)(c:Int): Prop:=tB n p c/\aSS n p c.toNat=0
def t2(n:Net)(p:Plan)(c o:Int): Prop:=tC n p c o/\aSS n p c.toNat=0/\aYo n p c o.toNat=0
def t3(n:Net)(p:Plan)(c o d:Int): Prop:=((tC n p c o/\o<(p.2.2.2.getD c.toNat []).length)/\0<=d/\d<=((p.2.2.2.getD c.toNat []).getD o.toNat []).length)/\aSS n p c.toNat=0/\aYo n p c o.toNat=0/\bAH n p c o d.toNat=0
def bCU(l:List Nat)(s:St): St:={s with tm:=(List.range s.tm.length).map λi=>if l.contains i then bBR (s.tm.getD i .top)else .top}
def bAK(s:St)(l:List Nat)(n:Net)(p:Plan)(sl:List (Tmp×AV))(xs:List Int): St:=pX (pX (put (bCU ([2,3,4,5,6]++l) s) sl) 2 (.var (wHd n p (.buf 3 (Dj xs))))) 3 (.buf 3 I xs [])
def wrA(n:Net)(p:Plan): Ann:=⟨λid s=>match id with
 | 7=>some {α:=Int,inv:=λj=>tA n p j,st:=λj=>bAK s [53,54] n p [(55,.dat I j)] (h1N n p j),μ:=λj=>Dc (Dh (Df p.2.2.1) j)}
 | 12=>some {α:=Int,inv:=λj=>tB n p j,st:=λj=>bAK s [64,65] n p [(66,.dat I j)] (h2N n p j),μ:=λj=>Dc (Dh (Df p.2.2.2) j)}
 | 15=>match s.sig.T 66,s.sig.T 70 with
  | .dat (.int .i64) i,.dat (.sl (.sl (.int .i64))) t=>some {α:=Int,inv:=λj=>tC n p i j,st:=λj=>bAK s [64,65,66,70,71] n p [(72,.dat I j)] (h3N n p i j),μ:=λj=>Dc (Dh (Df t) j)}
  | _,_=>none
 | 21=>some {α:=Int,inv:=λj=>t1 n p j,st:=λj=>bAK s [82,83] n p [(84,.dat I j)] (k1N n p j),μ:=λj=>Dc (Dh (Df p.2.2.2) j)}
 | 24=>match s.sig.T 84,s.sig.T 89 with
  | .dat (.int .i64) c,.dat (.sl (.sl (.int .i64))) t=>some {α:=Int,inv:=λj=>t2 n p c j,st:=λj=>bAK s [82,83,84,13,89,90] n p [(91,.dat I j)] (k2N n p c j),μ:=λj=>Dc (Dh (Df t) j)}
  | _,_=>none
 | 27=>match s.sig.T 84,s.sig.T 91,s.sig.T 96 with
  | .dat (.int .i64) c,.dat (.int .i64) o,.dat (.sl (.int .i64)) t=>some {α:=Int,inv:=λj=>t3 n p c o j,st:=λj=>bAK s [82,83,84,13,89,90,91,15,96,97] n p [(98,.dat I j)] (k3N n p c o j),μ:=λj=>Dc (Dh (Df t) j)}
  | _,_,_=>none
 | _=>none,λid s=>match id with
 | 5=>some (pX (pX (bCU [2,3,4,5,6] s) 2 (.var (wHd n p (.buf 3 0)))) 3 (.buf 3 I [] []))
 | 36=>some (frz [3] s)
 | _=>none,λ_ _=>none⟩
def KW7: Kt:=kOr 68 (wK [.mp 2,.val I,.val I,.val I] (λ(_,c,o,d,_) n p k xs=>aBO n p c o d k xs/\isZero (rU n p c o d)=true) (λ_ _ _=>.tup []) λ(_,c,o,d,_) n p=>keepA n p c o d) <|
 kOr 65 (aP [.ptr N,.ptr Pl] (λ(_,p,_)=>mZ p) λ(n,p,_)=>.dat .bool (oJ n p)) <|
 kOr 63 aON <|
 kOr 36 (aP [.val R] (λ(l,_)=>Go.Eng.In.aSJ l) λ(l,_)=>.dat I (Go.Eng.In.aBU l)) KW5
def bG9: KPt:=pOr 68 (wP [.mp 2,.val I,.val I,.val I] λ(_,c,o,d,_) n p k xs=>⟨aBO n p c o d k xs,isZero (rU n p c o d),aF9 39 (rU n p c o d)⟩) bGq
def cWr: Cfg:=mkp KW7 (λt=>t==32) bG9 (λf=>f==68)
set_option maxHeartbeats 4000000 in
theorem aS0(cs:LC)(ns os:LB)(fs:List Off)(ls:List Line)(ks:List Cla)(p1 p2:Int)(nx:List (List Int))(dy:List (List (List Int)))(hvc:
 let c1:=(p1,p2,nx,dy);let c2:=(cs,ns,os,fs,ls,ks);let c3:=Ei (Df (mD c2)) 0;let c4:=Dk c3;let c5:=Ec c3 true (Dk (oJ c2 c1));let c6:=wrN c2 c1;let c7:=wrS c2 c1;let c8:=wrE c2 c1;let c9:=[p1,p2,Df fs,Df ks];let c10:=Ef (Dt Int) c9;let c11:=Df dy;(false=false/\true)/\(mZ c1->true/\True/\(c4->mZ c1)/\(c4->c4->c4)/\(Di true c4->c4)/\(c5->(true->True/\(false=false->true/\true/\(Dk false->True/\1=1/\0=0/\1=1/\0=0/\1=1/\0=0/\1=1/\0=0/\c6=Dt Int/\0=c7/\1=c8/\True)/\(Dk false=false->1=1/\0=0/\1=1/\0=0/\c6=Dt Int/\0=c7/\0=c8/\True)))/\True)/\(c5=false->c2=c2/\c1=c1/\1=1/\0=0/\0=0/\1=1/\0=0/\0=0/\1=1/\0=0/\0=0/\Value.slice none (0) (0)=Value.slice none (0) (0)/\(0:Int)=(0:Int)/\(0:Int)=(0:Int)/\cs=cs/\ns=ns/\os=os/\fs=fs/\ls=ls/\ks=ks/\p1=p1/\p2=p2/\nx=nx/\dy=dy/\0=0/\Dt Int=Dt Int/\Dt Int=Dt Int/\1=1/\0=0/\0=0/\1=1/\0=0/\0=0/\1=1/\1=1/\1=1/\1=1/\0=0/\1=1/\1=1/\1=1/\1=1/\0=0/\(bAF [] (0)/\aNv [] c9)/\1=1/\Dj (Dt Int)<=Dj c10/\(∃x,tA c2 c1 x/\c1=c1/\1=1/\0=0/\0=0/\1=1/\0=0/\0=0/\1=1/\0=0/\0=0/\nx=nx/\Df nx=Df nx/\0=x/\Value.slice none (0) (0)=Value.slice none (0) (0)/\(0:Int)=(0:Int)/\(0:Int)=(0:Int)/\cs=cs/\ns=ns/\os=os/\fs=fs/\ls=ls/\ks=ks/\p1=p1/\p2=p2/\nx=nx/\dy=dy/\(0)+Dj c9=Dj (h1N c2 c1 x)/\c10=h1N c2 c1 x/\1=1/\0=0/\0=0/\1=1/\0=0/\0=0/\True)/\∀(x:Int),let c12:=Dp x (Df nx);let c13:=Du nx (Dc x) [];let c14:=Dj (h1N c2 c1 x);let c15:=upR c13 1 (Df c13);let c16:=Ef (h1N c2 c1 x) c15;let c17:=x+1;
 tA c2 c1 x->(c12->0<=x/\x<Df nx/\rsP 1 c13 (h1N c2 c1 x) c14/\1=1/\c14<=Dj c16/\inR IntKind.i64 c17/\∃y,tA c2 c1 y/\(c1=c1/\1=1/\0=0/\0=0/\1=1/\0=0/\0=0/\1=1/\0=0/\0=0/\nx=nx/\Df nx=Df nx/\c17=y/\Value.slice none (0) (0)=Value.slice none (0) (0)/\(0:Int)=(0:Int)/\(0:Int)=(0:Int)/\cs=cs/\ns=ns/\os=os/\fs=fs/\ls=ls/\ks=ks/\p1=p1/\p2=p2/\nx=nx/\dy=dy/\c14+Dj c15=Dj (h1N c2 c1 y)/\c16=h1N c2 c1 y/\1=1/\0=0/\0=0/\1=1/\0=0/\0=0/\True)/\Dc (Df nx-y)<Dc (Df nx-x))/\(c12=false->(∃x_3,tB c2 c1 x_3/\c1=c1/\1=1/\0=0/\0=0/\1=1/\0=0/\0=0/\1=1/\0=0/\0=0/\dy=dy/\c11=c11/\0=x_3/\Value.slice none (0) (0)=Value.slice none (0) (0)/\(0:Int)=(0:Int)/\(0:Int)=(0:Int)/\cs=cs/\ns=ns/\os=os/\fs=fs/\ls=ls/\ks=ks/\p1=p1/\p2=p2/\nx=nx/\dy=dy/\c14=Dj (h2N c2 c1 x_3)/\h1N c2 c1 x=h2N c2 c1 x_3/\1=1/\0=0/\0=0/\1=1/\0=0/\0=0/\True)/\∀(x:Int),let c18:=Du dy (Dc x) (Dt (List Int));let c19:=Df c18;let c20:=Dj (h2N c2 c1 x);let c21:=x+1;tB c2 c1 x->(Dp x c11->0<=x/\x<c11/\(∃x_5,let c22:=h3N c2 c1 x x_5;tC c2 c1 x x_5/\c1=c1/\1=1/\0=0/\0=0/\1=1/\0=0/\0=0/\1=1/\0=0/\0=0/\dy=dy/\c11=c11/\x=x/\c18=c18/\c19=c19/\0=x_5/\Value.slice none (0) (0)=Value.slice none (0) (0)/\(0:Int)=(0:Int)/\(0:Int)=(0:Int)/\cs=cs/\ns=ns/\os=os/\fs=fs/\ls=ls/\ks=ks/\p1=p1/\p2=p2/\nx=nx/\dy=dy/\c20=Dj c22/\h2N c2 c1 x=c22/\1=1/\0=0/\0=0/\1=1/\0=0/\0=0/\True)/\∀(x_5:Int),let c23:=Du c18 (Dc x_5) [];let c24:=h3N c2 c1 x x_5;let c25:=Dj c24;let c26:=upR c23 1 (Df c23);let c27:=Ef c24 c26;let c28:=x_5+1;tC c2 c1 x x_5->(Dp x_5 c19->0<=x_5/\x_5<c19/\rsP 1 c23 c24 c25/\1=1/\c25<=Dj c27/\inR IntKind.i64 c28/\∃y,let c29:=h3N c2 c1 x y;
 tC c2 c1 x y/\(c1=c1/\1=1/\0=0/\0=0/\1=1/\0=0/\0=0/\1=1/\0=0/\0=0/\dy=dy/\c11=c11/\x=x/\c18=c18/\c19=c19/\c28=y/\Value.slice none (0) (0)=Value.slice none (0) (0)/\(0:Int)=(0:Int)/\(0:Int)=(0:Int)/\cs=cs/\ns=ns/\os=os/\fs=fs/\ls=ls/\ks=ks/\p1=p1/\p2=p2/\nx=nx/\dy=dy/\c25+Dj c26=Dj c29/\c27=c29/\1=1/\0=0/\0=0/\1=1/\0=0/\0=0/\True)/\Dc (c19-y)<Dc (c19-x_5))/\(Dp x_5 c19=false->inR IntKind.i64 c21/\∃y,tB c2 c1 y/\(c1=c1/\1=1/\0=0/\0=0/\1=1/\0=0/\0=0/\1=1/\0=0/\0=0/\dy=dy/\c11=c11/\c21=y/\Value.slice none (0) (0)=Value.slice none (0) (0)/\(0:Int)=(0:Int)/\(0:Int)=(0:Int)/\cs=cs/\ns=ns/\os=os/\fs=fs/\ls=ls/\ks=ks/\p1=p1/\p2=p2/\nx=nx/\dy=dy/\c25=Dj (h2N c2 c1 y)/\c24=h2N c2 c1 y/\1=1/\0=0/\0=0/\1=1/\0=0/\0=0/\True)/\Dc (c11-y)<Dc (c11-x)))/\(Dp x c11=false->(∃x_5,t1 c2 c1 x_5/\1=1/\0=0/\0=0/\1=1/\0=0/\0=0/\1=1/\0=0/\0=0/\dy=dy/\c11=c11/\0=x_5/\Value.slice none (0) (0)=Value.slice none (0) (0)/\(0:Int)=(0:Int)/\(0:Int)=(0:Int)/\cs=cs/\ns=ns/\os=os/\fs=fs/\ls=ls/\ks=ks/\p1=p1/\p2=p2/\nx=nx/\dy=dy/\c20=Dj (k1N c2 c1 x_5)/\h2N c2 c1 x=k1N c2 c1 x_5/\1=1/\0=0/\0=0/\1=1/\0=0/\0=0/\True)/\∀(x:Int),let c30:=Du dy (Dc x) (Dt (List Int));let c31:=Df c30;let c32:=Dj (k1N c2 c1 x);let c33:=x+1;let c34:=Int.ofNat c32;let c35:=Ei c34 40000;t1 c2 c1 x->(Dp x c11->0<=x/\x<c11/\(∃x_7,let c36:=k2N c2 c1 x x_7;
 t2 c2 c1 x x_7/\1=1/\0=0/\0=0/\1=1/\0=0/\0=0/\1=1/\0=0/\0=0/\x=x/\dy=dy/\c11=c11/\x=x/\c30=c30/\c31=c31/\0=x_7/\Value.slice none (0) (0)=Value.slice none (0) (0)/\(0:Int)=(0:Int)/\(0:Int)=(0:Int)/\cs=cs/\ns=ns/\os=os/\fs=fs/\ls=ls/\ks=ks/\p1=p1/\p2=p2/\nx=nx/\dy=dy/\c32=Dj c36/\k1N c2 c1 x=c36/\1=1/\0=0/\0=0/\1=1/\0=0/\0=0/\True)/\∀(x_7:Int),let c37:=Du c30 (Dc x_7) [];let c38:=Df c37;let c39:=k2N c2 c1 x x_7;let c40:=Dj c39;let c41:=x_7+1;t2 c2 c1 x x_7->(Dp x_7 c31->0<=x_7/\x_7<c31/\(∃x_10,let c42:=k3N c2 c1 x x_7 x_10;t3 c2 c1 x x_7 x_10/\1=1/\0=0/\0=0/\1=1/\0=0/\0=0/\1=1/\0=0/\0=0/\x=x/\x_7=x_7/\dy=dy/\c11=c11/\x=x/\c30=c30/\c31=c31/\x_7=x_7/\c37=c37/\c38=c38/\0=x_10/\Value.slice none (0) (0)=Value.slice none (0) (0)/\(0:Int)=(0:Int)/\(0:Int)=(0:Int)/\cs=cs/\ns=ns/\os=os/\fs=fs/\ls=ls/\ks=ks/\p1=p1/\p2=p2/\nx=nx/\dy=dy/\c40=Dj c42/\c39=c42/\1=1/\0=0/\0=0/\1=1/\0=0/\0=0/\True)/\∀(x_10:Int),let c43:=Eb (Du c37 (Dc x_10) 0) (-1);let c44:=k3N c2 c1 x x_7 x_10;let c45:=Dj c44;let c46:=rU c2 c1 x x_7 x_10;let c47:=isZero c46;let c48:=keepA c2 c1 x x_7 x_10;let c49:=Ef c44 c48;let c50:=x_10+1;t3 c2 c1 x x_7 x_10->(Dp x_10 c38->0<=x_10/\x_10<c38/\(c43->(true->aBO c2 c1 x x_7 x_10 c45 c44/\(c47=false->true/\true/\(Dk false->True/\1=1/\0=0/\1=1/\0=0/\1=1/\0=0/\1=1/\0=0/\c6=Dt Int/\0=c7/\c46=c8/\True)/\(Dk false=false->1=1/\0=0/\1=1/\0=0/\c6=Dt Int/\0=c7/\0=c8/\True)))/\((true->c47)->(aBO c2 c1 x x_7 x_10 c45 c44/\c47)/\1=1/\c45<=Dj c49/\inR IntKind.i64 c50/\∃y,let c51:=k3N c2 c1 x x_7 y;
 t3 c2 c1 x x_7 y/\(1=1/\0=0/\0=0/\1=1/\0=0/\0=0/\1=1/\0=0/\0=0/\x=x/\x_7=x_7/\dy=dy/\c11=c11/\x=x/\c30=c30/\c31=c31/\x_7=x_7/\c37=c37/\c38=c38/\c50=y/\Value.slice none (0) (0)=Value.slice none (0) (0)/\(0:Int)=(0:Int)/\(0:Int)=(0:Int)/\cs=cs/\ns=ns/\os=os/\fs=fs/\ls=ls/\ks=ks/\p1=p1/\p2=p2/\nx=nx/\dy=dy/\c45+Dj c48=Dj c51/\c49=c51/\1=1/\0=0/\0=0/\1=1/\0=0/\0=0/\True)/\Dc (c38-y)<Dc (c38-x_10)))/\(c43=false->inR IntKind.i64 c50/\∃y,let c52:=k3N c2 c1 x x_7 y;t3 c2 c1 x x_7 y/\(1=1/\0=0/\0=0/\1=1/\0=0/\0=0/\1=1/\0=0/\0=0/\x=x/\x_7=x_7/\dy=dy/\c11=c11/\x=x/\c30=c30/\c31=c31/\x_7=x_7/\c37=c37/\c38=c38/\c50=y/\Value.slice none (0) (0)=Value.slice none (0) (0)/\(0:Int)=(0:Int)/\(0:Int)=(0:Int)/\cs=cs/\ns=ns/\os=os/\fs=fs/\ls=ls/\ks=ks/\p1=p1/\p2=p2/\nx=nx/\dy=dy/\c45=Dj c52/\c44=c52/\1=1/\0=0/\0=0/\1=1/\0=0/\0=0/\True)/\Dc (c38-y)<Dc (c38-x_10)))/\(Dp x_10 c38=false->inR IntKind.i64 c41/\∃y,let c53:=k2N c2 c1 x y;
 t2 c2 c1 x y/\(1=1/\0=0/\0=0/\1=1/\0=0/\0=0/\1=1/\0=0/\0=0/\x=x/\dy=dy/\c11=c11/\x=x/\c30=c30/\c31=c31/\c41=y/\Value.slice none (0) (0)=Value.slice none (0) (0)/\(0:Int)=(0:Int)/\(0:Int)=(0:Int)/\cs=cs/\ns=ns/\os=os/\fs=fs/\ls=ls/\ks=ks/\p1=p1/\p2=p2/\nx=nx/\dy=dy/\c45=Dj c53/\c44=c53/\1=1/\0=0/\0=0/\1=1/\0=0/\0=0/\True)/\Dc (c31-y)<Dc (c31-x_7)))/\(Dp x_7 c31=false->inR IntKind.i64 c33/\∃y,t1 c2 c1 y/\(1=1/\0=0/\0=0/\1=1/\0=0/\0=0/\1=1/\0=0/\0=0/\dy=dy/\c11=c11/\c33=y/\Value.slice none (0) (0)=Value.slice none (0) (0)/\(0:Int)=(0:Int)/\(0:Int)=(0:Int)/\cs=cs/\ns=ns/\os=os/\fs=fs/\ls=ls/\ks=ks/\p1=p1/\p2=p2/\nx=nx/\dy=dy/\c40=Dj (k1N c2 c1 y)/\c39=k1N c2 c1 y/\1=1/\0=0/\0=0/\1=1/\0=0/\0=0/\True)/\Dc (c11-y)<Dc (c11-x)))/\(Dp x c11=false->1=1/\1=1/\1=1/\0=0/\c32=c32/\(c35->(true->True/\(false=false->true/\true/\(Dk false->True/\1=1/\0=0/\1=1/\0=0/\1=1/\0=0/\1=1/\0=0/\c6=Dt Int/\0=c7/\2=c8/\True)/\(Dk false=false->1=1/\0=0/\1=1/\0=0/\c6=Dt Int/\0=c7/\0=c8/\True)))/\True)/\(c35=false->1=1/\0=0/\0=0/\1=1/\0=0/\0=0/\1=1/\0=0/\0=0/\dy=dy/\c11=c11/\x=x/\Dp x c11=Dp x c11/\1=1/\0=0/\0=0/\1=1/\0=0/\0=0/\1=1/\0=0/\10=10/\c32=c32/\k1N c2 c1 x=k1N c2 c1 x/\c34=c34/\c35=c35/\Value.slice none (0) (0)=Value.slice none (0) (0)/\(0:Int)=(0:Int)/\(0:Int)=(0:Int)/\cs=cs/\ns=ns/\os=os/\fs=fs/\ls=ls/\ks=ks/\p1=p1/\p2=p2/\nx=nx/\dy=dy/\c32=c32/\k1N c2 c1 x=k1N c2 c1 x/\1=1/\0=0/\0=0/\1=1/\0=0/\0=0/\1=1/\1=1/\1=1/\0=0/\1=1/\1=1/\1=1/\0=0/\In.aSJ (k1N c2 c1 x)/\1=1/\0=0/\1=1/\0=0/\true/\true/\(Dk true->False)/\(Dk true=false->1=1/\0=0/\1=1/\0=0/\k1N c2 c1 x=c6/\In.aBU (k1N c2 c1 x)=c7/\0=c8/\True)))))))):
  evG cWr (lvA [(7,[3,4,5,6,8,10,12,13,14,15,16,17,18,53,54,55,64,65,66,70,71,72,82,83,84,89,90,91,96,97,98]),(12,[3,4,5,6,10,12,13,14,15,16,17,18,64,65,66,70,71,72,82,83,84,89,90,91,96,97,98]),(15,[3,4,5,6,10,12,13,14,15,16,17,18,64,65,66,70,71,72,82,83,84,89,90,91,96,97,98]),(21,[4,5,6,13,14,15,16,17,18,82,83,84,89,90,91,96,97,98]),(24,[4,5,6,13,14,15,16,17,18,82,83,84,89,90,91,96,97,98]),(27,[4,5,6,13,14,15,16,17,18,82,83,84,89,90,91,96,97,98])] (wrA (cs,ns,os,fs,ls,ks) (p1,p2,nx,dy))) aQ 20 [net cs ns os fs ls ks,.agg [.dat I p1,.dat I p2,.dat M nx,.dat (.sl M) dy]] ⟨mZ (p1,p2,nx,dy),.tup [.agg [.dat R (wrN (cs,ns,os,fs,ls,ks) (p1,p2,nx,dy)),.dat I (wrS (cs,ns,os,fs,ls,ks) (p1,p2,nx,dy))],.dat I (wrE (cs,ns,os,fs,ls,ks) (p1,p2,nx,dy))],[]⟩:=@of_eq _ _ (by kernel_rfl) hvc
theorem aR5: ∀args m c,aON args m=some c->aB Tryz.prog G0 63 args m c:=by
 intro args m c h;unfold aON at h;split at h
 .split at h
  .rename_i e;subst e;cases h;exact aYu _
  .cases h
 .cases h
theorem aZU{P:Program}{G:List (Nat×AV)}{f:FuncId}{args:List AV}{m:Mem}{c:aAb}(h:aB P [] f args m c): aB P G f args m c:=
 λhp w D E us hD _ ha hH=>h hp w D E us hD (λp hp=>by cases hp) ha hH
theorem bHz: aI Tryz.prog G0 KW7:=aH (aSX λ(_,c,o,d,_) n p k xs=>(aPS c o d k xs n p).1)<|aH (aC λ(n,p,_)=>aYr n p)<|aH aR5<|aH (aC λ(l,_)=>aZU (Go.Eng.In.aKR l)) bGP
theorem bAv: fC Tryz.prog G0 bG9:=rC (bA1 λ(_,c,o,d,_) n p k xs=>(aPS c o d k xs n p).2) aSB
theorem aEF{α:Type}{l:List α}{f:α->List Int}{x:Int}(d:α)(h0:0<=x)(h1:x<l.length): (l.take (x+1).toNat).flatMap f=(l.take x.toNat).flatMap f++f (l.getD x.toNat d):=by
 rw[show(x+1).toNat=x.toNat+1 by omega,wV,qAe,qA,qB (show x.toNat<l.length by omega)]
 simp
theorem aDd{f:Nat->List Int}{x:Int}(h0:0<=x): (List.range (x+1).toNat).flatMap f=(List.range x.toNat).flatMap f++f x.toNat:=by
 rw[show(x+1).toNat=x.toNat+1 by omega,zT,qAe]
 simp
theorem aFJ{f:Nat->Int}{x:Int}(h0:0<=x)(h:aM2 ((List.range x.toNat).map f)=0)(h1:f x.toNat=0): aM2 ((List.range (x+1).toNat).map f)=0:=by
 refine aCN λi hi=>?_
 rw[vF,vK]at hi;rw[qA,qP,vX hi];show f i=0;by_cases e:i<x.toNat
 .exact aAq h _ (wO.2 ⟨i,vN.2 e,rfl⟩)
 .have:i=x.toNat:=by omega
  rw[this];exact h1
theorem aH9{f:Nat->Int}{k N:Nat}(hk:k<N)(h:aM2 ((List.range k).map f)=0)(h1:f k≠0): aM2 ((List.range N).map f)=f k:=by
 have eg:∀i,i<N->((List.range N).map f).getD i 0=f i:=λi hi=>by
  rw[qA,qP,vX hi];rfl
 rw[aIa (j:=k) (by simpa using hk) (λi hi=>by rw[eg i (by omega)];exact aAq h _ (wO.2 ⟨i,vN.2 hi,rfl⟩)) (by rw[eg k hk];exact h1),eg k hk]
theorem aBz{α:Type}{f:α->List Int}{B:Nat}: ∀{l:List α},(∀x∈l,(f x).length<=B)->(l.flatMap f).length<=l.length*B
 | [],_=>by simp
 | a::l,h=>by
  have:=aBz (l:=l) λx hx=>h x (zC _ hx)
  have:=h a (wL ..);rw[gI,qF,wW,Nat.succ_mul];omega
theorem aYk(r:List Int): (up1 r).length=r.length:=by unfold up1 upR;simp
structure bEm (n:Net) (p:Plan):Prop where
 m:n.2.2.2.1.length<=12
 q:n.2.2.2.2.2.length<=4
 nl:p.2.2.1.length=n.2.2.2.1.length
 nr:∀r∈p.2.2.1,r.length=n.2.2.2.1.length/\∀x∈r,-1<=x/\x<=40
 dl:p.2.2.2.length=n.2.2.2.2.2.length
 dr:∀t∈p.2.2.2,t.length=n.2.2.2.1.length/\∀r∈t,r.length=n.2.2.2.1.length/\∀x∈r,-1<=x/\x<=65518
theorem aLa{n:Net}{p:Plan}(h:aD9 n p): bEm n p:=by
 obtain⟨hs,hf⟩:=h;obtain⟨_,hT,hD⟩:=pO hf;have hno:noF n=true:=dP n.1 n.2.1 n.2.2.1 n.2.2.2.1 n.2.2.2.2.1 n.2.2.2.2.2 hs;have o12:(n.2.2.2.1.length:Int)<=12:=(pG n.1 n.2.1 n.2.2.1 n.2.2.2.1 n.2.2.2.2.1 n.2.2.2.2.2 hno).1;have l40:(n.2.2.2.2.1.length:Int)<=40:=(aA1 n.1 n.2.1 n.2.2.1 n.2.2.2.1 n.2.2.2.2.1 n.2.2.2.2.2 hno).1
 have c4:(n.2.2.2.2.2.length:Int)<=4:=((aAo (by decide) (λl:Cla=>l.1) rF n.2.2.2.2.2).1 (rZ n.1 n.2.1 n.2.2.1 n.2.2.2.1 n.2.2.2.2.1 n.2.2.2.2.2 hno).2.2.2.2.2).1
 have hl:(p.2.2.1.length:Int)=n.2.2.2.1.length:=by
  unfold aBk at hT;simp only[qC,qE]at hT;exact hT.1
 unfold aDt at hD;simp only[qC,qE,qM]at hD;refine⟨by omega,by omega,by omega,λr hr=>?_,by omega,λt ht=>?_⟩
 .obtain⟨i,hi,rfl⟩:=wY.1 hr;have h1:=(aEG (n:=n) hl).1 hT i (by omega)
  rw[qA,qB hi,qQ]at h1;unfold rowOk at h1;simp only[qC,qE,qM]at h1;refine⟨by omega,λx hx=>?_⟩
  have h2:=h1.2 x hx;unfold bU jT at h2;simp only[yP,qC,qE]at h2;omega
 .have h1:=hD.2 t ht;have h2:(t.length:Int)=n.2.2.2.1.length:=by
   unfold sgF at h1;simp only[qC,qE]at h1;exact h1.1
  refine⟨by omega,λr hr=>?_⟩
  obtain⟨i,hi,rfl⟩:=wY.1 hr;have h3:=(aI5 h2).1 h1 i (by omega)
  rw[qA,qB hi,qQ]at h3;unfold sgR at h3;simp only[qC,qE,qM]at h3;refine⟨by omega,λx hx=>?_⟩
  have h4:=h3.2 x hx;unfold oK aFR at h4;rw[qE]at h4;exact h4
theorem aHI{m:Nat}(hm:m<=12){l:List (List Int)}(hl:l.length<=12)(h:∀r∈l,r.length=m): (l.flatMap up1).length<=144:=by
 have h1:=aBz (l:=l) (f:=up1) (B:=12) λr hr=>by rw[aYk,h r hr];exact hm
 have:=vW 12 hl;omega
theorem aXd{n:Net}{p:Plan}(h:bEm n p)(j:Int): (h1N n p j).length<=148:=by
 have:=aHI h.m (l:=p.2.2.1.take j.toNat) (by rw[qI,h.nl];have:=h.m;omega) λr hr=>(h.nr r (qAw hr)).1
 unfold h1N h4N;rw[qF];simp only[wW,yO];omega
theorem aXc{n:Net}{p:Plan}(h:bEm n p)(i:Int): (h2N n p i).length<=724:=by
 have h0:=aXd h p.2.2.1.length;have h1:=aBz (l:=p.2.2.2.take i.toNat) (f:=λt:List (List Int)=>t.flatMap up1) (B:=144) λt ht=>by
  obtain⟨q1,q2⟩:=h.dr t (qAw ht);exact aHI h.m (by rw[q1];exact h.m) λr hr=>(q2 r hr).1
 have h2:(p.2.2.2.take i.toNat).length<=4:=by rw[qI,h.dl];have:=h.q;omega
 have:=vW 144 h2;unfold h2N;rw[qF];omega
theorem bDa{n:Net}{p:Plan}(h:bEm n p){i:Int}(j:Int)(h0:0<=i)(h1:i<p.2.2.2.length): (h3N n p i j).length<=868:=by
 have h2:=aXc h i;obtain⟨q1,q2⟩:=h.dr _ (getD_mem (l:=p.2.2.2) (i:=i.toNat) (d:=[]) (by omega))
 have:=aHI h.m (l:=(p.2.2.2.getD i.toNat []).take j.toNat) (by rw[qI,q1];have:=h.m;omega) λr hr=>(q2 r (qAw hr)).1
 unfold h3N;rw[qF];omega
theorem aRm{n:Net}{p:Plan}{c o d:Int}(h:rU n p c o d=0): ∀x∈aAM n p c o,aKF n p c o d x=0:=λx hx=>aAq h _ (wO.2 ⟨x,hx,rfl⟩)
theorem aWh{n:Net}{p:Plan}{c o d:Int}(hp:aD9 n p)(hc:aIq n c)(ho:0<=o/\o<n.2.2.2.1.length)(hd:0<=d/\d<n.2.2.2.1.length)(h:aLW n p c o d=0): (aIt n p c o d).length<=1641619:=by
 unfold aLW at h;unfold aIt;split
 .exact wX _
 .rename_i hne;rw[if_neg hne]at h;have hno:noF n=true:=dP n.1 n.2.1 n.2.2.1 n.2.2.2.1 n.2.2.2.2.1 n.2.2.2.2.2 hp.1;have hcp:aFS n p c o:=⟨⟨hno,ho⟩,hc,(pO hp.2).1⟩;have:=aFA (n:=n) (p:=p) (c:=c) (o:=o) (d:=d) (k:=0) (xs:=[]) (j:=(aAM n p c o).length) ⟨⟨⟨hp,hc,⟨hno,ho⟩,⟨hno,hd⟩⟩,rfl,wX _⟩,qK _,λi hi=>aRm h _ (getD_mem hi)⟩
  have h2:=aRZ hcp;unfold keepA;omega
theorem aQH{n:Net}{p:Plan}{c o:Int}{k:Nat}(hp:aD9 n p)(hc:aIq n c)(ho:0<=o/\o<n.2.2.2.1.length)(hk:k<=n.2.2.2.1.length)(h:bAH n p c o k=0): (aWU n p c o k).length<=19699428:=by
 have hs:=(aLa hp).m;have h1:=aBz (l:=List.range k) (f:=λd:Nat=>aIt n p c o (d:Int)) (B:=1641619) λd hd=>by
  have hd:=vN.1 hd;exact aWh hp hc ho ⟨by omega,by omega⟩ (aAq h _ (wO.2 ⟨d,vN.2 hd,rfl⟩))
 rw[vK]at h1;have:=vW 1641619 (show k<=12 by omega)
 unfold aWU;omega
theorem bEL{n:Net}{p:Plan}(hp:aD9 n p){c o:Int}(hc:aIq n c)(ho:0<=o/\o<n.2.2.2.1.length): (p.2.2.2.getD c.toNat []).length=n.2.2.2.1.length/\((p.2.2.2.getD c.toNat []).getD o.toNat []).length=n.2.2.2.1.length:=by
 have hs:=aLa hp;obtain⟨c0,c1⟩:=hc;have dl:=hs.dl;obtain⟨q1,q2⟩:=hs.dr _ (getD_mem (l:=p.2.2.2) (i:=c.toNat) (d:=[]) (by omega))
 exact⟨q1,(q2 _ (getD_mem (by omega))).1⟩
theorem aPO{n:Net}{p:Plan}{c:Int}{k:Nat}(hp:aD9 n p)(hc:aIq n c)(hk:k<=n.2.2.2.1.length)(h:aYo n p c k=0): (aWJ n p c k).length<=236393136:=by
 have hs:=(aLa hp).m;have h1:=aBz (l:=List.range k) (f:=λo:Nat=>aWU n p c (o:Int) ((p.2.2.2.getD c.toNat []).getD o []).length) (B:=19699428) λo ho=>by
  have ho:=vN.1 ho;have e:=(bEL hp hc (o:=(o:Int)) ⟨by omega,by omega⟩).2
  rw[vO]at e;exact aQH hp hc ⟨by omega,by omega⟩ (by omega) (aAq h _ (wO.2 ⟨o,vN.2 ho,rfl⟩))
 rw[vK]at h1;have:=vW 19699428 (show k<=12 by omega)
 unfold aWJ;omega
theorem aSx{n:Net}{p:Plan}{k:Nat}(hp:aD9 n p)(hk:k<=n.2.2.2.2.2.length)(h:aSS n p k=0): (bAo n p k).length<=945572544:=by
 have hs:=(aLa hp).q;have h1:=aBz (l:=List.range k) (f:=λc:Nat=>aWJ n p (c:Int) (p.2.2.2.getD c []).length) (B:=236393136) λc hc=>by
  have hc:=vN.1 hc;have hcl:aIq n (c:Int):=⟨by omega,by omega⟩
  have dl:=(aLa hp).dl;have q1:=((aLa hp).dr _ (getD_mem (l:=p.2.2.2) (i:=c) (d:=[]) (by omega))).1
  exact aPO hp hcl (by omega) (aAq h _ (wO.2 ⟨c,vN.2 hc,rfl⟩))
 rw[vK]at h1;have:=vW 236393136 (show k<=4 by omega)
 unfold bAo;omega
theorem aYp(cs:LC)(ns os:LB)(fs:List Off)(ls:List Line)(ks:List Cla)(p1 p2:Int)(nx:List (List Int))(dy:List (List (List Int))): aB Tryz.prog G0 20 [net cs ns os fs ls ks,.agg [.dat I p1,.dat I p2,.dat M nx,.dat (.sl M) dy]] [] ⟨mZ (p1,p2,nx,dy),.tup [.agg [.dat R (wrN (cs,ns,os,fs,ls,ks) (p1,p2,nx,dy)),.dat I (wrS (cs,ns,os,fs,ls,ks) (p1,p2,nx,dy))],.dat I (wrE (cs,ns,os,fs,ls,ks) (p1,p2,nx,dy))],[]⟩:=by
 refine aI0 (c:=cWr) bHz bD hm bAv (aS0 cs ns os fs ls ks p1 p2 nx dy ⟨⟨rfl,rfl⟩,λhp=>?_⟩)
 simp only[qc,Di,Es,Dk,qd,Dt,Ea,Eb,Dp,Ei,Eh,Ed,Ew,Df,Et,Dl,Dn,Eo,Dy,Dw,Dh,Dq,Ee,Fg,Dc,Dx,Dj,Dz,Ej,Du,Eu,Ez,En,Ef,Fe,Fj,Fh,Ep,Em,Ey,Fb,yB,zY,vU,xH,qCm,xQ,kM];obtain⟨n,hn⟩:∃n:Net,n=(cs,ns,os,fs,ls,ks):=⟨_,rfl⟩;obtain⟨p,hpe⟩:∃p:Plan,p=(p1,p2,nx,dy):=⟨_,rfl⟩;have e1:fs=n.2.2.2.1:=by rw[hn]
 have e2:ks=n.2.2.2.2.2:=by rw[hn]
 have e3:nx=p.2.2.1:=by rw[hpe]
 have e4:dy=p.2.2.2:=by rw[hpe]
 have e5:p1=p.1:=by rw[hpe]
 have e6:p2=p.2.1:=by rw[hpe]
 rw[<- hn,<- hpe]at *;clear hn hpe;subst e1 e2 e3 e4 e5 e6;have eS:bZ n=decide (((mD n).length:Int)=0):=aGC;have hbad:¬(bZ n=true/\oJ n p=true)->wrE n p=1:=λh=>if_neg h
 have hne:wrE n p≠0->wrN n p=[]/\(0:Int)=wrS n p:=λh=>⟨if_neg h,(if_neg h).symm⟩
 refine⟨λ_=>hp,λh=>?_,λ⟨h1,h2⟩=>?_⟩
 .have:wrE n p=1:=hbad λ⟨g1,g2⟩=>by
   rw[eS,qE]at g1;rcases h with h | h
   .omega
   .rw[h]at g2;cases g2
  obtain⟨q1,q2⟩:=hne (by rw[this];decide)
  exact⟨q1,q2,this.symm⟩
 have hpl:aD9 n p:=⟨by rw[eS,qE];omega,h2⟩
 have hsh:=aLa hpl;have hW:wrE n p=if aSS n p p.2.2.2.length≠0 then aSS n p p.2.2.2.length else if(aLf n p).length>40000 then 2 else 0:=if_pos hpl
 have hno:noF n=true:=dP n.1 n.2.1 n.2.2.1 n.2.2.2.1 n.2.2.2.2.1 n.2.2.2.2.2 hpl.1;have rs:∀(r:List Int) (xs:List Int),(∀x∈r,-1<=x/\x<=65518)->r.length<=12->xs.length<=10000->rsP 1 r xs xs.length:=λr xs q1 q2 q3=>⟨⟨rfl,by omega⟩,by decide,by decide,λx hx=>by have:=q1 x hx;omega⟩
 have m12:=hsh.m;have q04:=hsh.q;have nl:=hsh.nl;have dl:=hsh.dl;refine⟨⟨rfl,by show 0+4<=1000000000000;decide⟩,by simp,⟨0,⟨hpl,qL _,by omega⟩,rfl,rfl,rfl⟩,λx ⟨_,x0,x1⟩=>⟨λhx=>?_,λhx=>⟨⟨0,⟨hpl,qL _,by omega⟩,rfl,?_,?_⟩,?_⟩⟩⟩
 .obtain⟨q1,q2⟩:=hsh.nr _ (getD_mem (l:=p.2.2.1) (i:=x.toNat) (d:=[]) (by omega))
  have e:h1N n p (x+1)=h1N n p x++up1 (p.2.2.1.getD x.toNat []):=by unfold h1N;rw[aEF [] x0 hx,wG]
  refine⟨x0,hx,rs _ _ (λy hy=>by have:=q2 y hy;omega) (by omega) (by have:=aXd hsh x;omega),by rw[qF];omega,bC (by omega),x+1,⟨hpl,by omega,by omega⟩,⟨rfl,by rw[e,qF];rfl,e.symm⟩,by omega⟩
 .have:x=p.2.2.1.length:=by omega
  rw[this];simp[h2N]
 .have:x=p.2.2.1.length:=by omega
  rw[this];simp[h2N]
 rintro x ⟨_,x0,x1⟩;refine⟨λhx=>⟨x0,hx,⟨0,⟨⟨hpl,x0,hx⟩,qL _,by omega⟩,rfl,by simp[h3N],by simp[h3N]⟩,λy ⟨_,y0,y1⟩=>⟨λhy=>?_,λhy=>?_⟩⟩,λhx=>⟨⟨0,⟨⟨hpl,qL _,by omega⟩,rfl⟩,rfl,?_,?_⟩,?_⟩⟩
 .obtain⟨q1,q2⟩:=hsh.dr _ (getD_mem (l:=p.2.2.2) (i:=x.toNat) (d:=[]) (by omega))
  obtain⟨q3,q4⟩:=q2 _ (getD_mem (l:=p.2.2.2.getD x.toNat []) (i:=y.toNat) (d:=[]) (by omega))
  have e:h3N n p x (y+1)=h3N n p x y++up1 ((p.2.2.2.getD x.toNat []).getD y.toNat []):=by unfold h3N;rw[aEF [] y0 hy,wG]
  refine⟨y0,hy,rs _ _ q4 (by omega) (by have:=bDa hsh y x0 hx;omega),by rw[qF];omega,bC (by omega),y+1,⟨⟨hpl,x0,hx⟩,by omega,by omega⟩,⟨rfl,by rw[e,qF];rfl,e.symm⟩,by omega⟩
 .have ey:y=(p.2.2.2.getD x.toNat []).length:=by omega
  have e:h2N n p (x+1)=h3N n p x y:=by
   unfold h3N;rw[ey,vO,xG];unfold h2N;rw[aEF [] x0 hx,wG]
  exact⟨bC (by omega),x+1,⟨hpl,by omega,by omega⟩,⟨rfl,by rw[e],e.symm⟩,by omega⟩
 .have:x=p.2.2.2.length:=by omega
  rw[this];simp[k1N,hdN,bAo]
 .have:x=p.2.2.2.length:=by omega
  rw[this];simp[k1N,hdN,bAo]
 rintro x ⟨⟨_,x0,x1⟩,xa⟩;have hd2:=aXc hsh p.2.2.2.length;refine⟨λhx=>?_,λhx=>?_⟩
 .have hcl:aIq n x:=⟨x0,by omega⟩
  have xt:((x.toNat:Nat):Int)=x:=by omega
  have tl:=(bEL hpl hcl (o:=0));obtain⟨tr1,_⟩:=hsh.dr _ (getD_mem (l:=p.2.2.2) (i:=x.toNat) (d:=[]) (by omega))
  refine⟨x0,hx,⟨0,⟨⟨⟨hpl,x0,hx⟩,qL _,by omega⟩,xa,rfl⟩,rfl,by simp[k2N,aWJ],by simp[k2N,aWJ]⟩,λy ⟨⟨_,y0,y1⟩,_,ya⟩=>⟨λhy=>?_,λhy=>?_⟩⟩
  .have yt:((y.toNat:Nat):Int)=y:=by omega
   obtain⟨_,tr2⟩:=bEL hpl hcl (o:=y) ⟨y0,by omega⟩
   refine⟨y0,hy,⟨0,⟨⟨⟨⟨⟨hpl,x0,hx⟩,y0,by omega⟩,hy⟩,qL _,by omega⟩,xa,ya,rfl⟩,rfl,by simp[k3N,aWU],by simp[k3N,aWU]⟩,λz ⟨⟨_,z0,z1⟩,_,_,za⟩=>⟨λhz=>?_,λhz=>?_⟩⟩
   .have zt:((z.toNat:Nat):Int)=z:=by omega
    have eD:((p.2.2.2.getD x.toNat []).getD y.toNat []).getD z.toNat 0=aBb p x y z:=rfl;rw[eD];have hkl:(k3N n p x y z).length<=900000000000:=by
     have l1:=aSx hpl (k:=x.toNat) (by omega) xa
     have l2:=aPO hpl hcl (k:=y.toNat) (by omega) ya
     have l3:=aQH hpl hcl (o:=y) (k:=z.toNat) ⟨y0,by omega⟩ (by omega) za
     unfold k3N k2N k1N hdN;simp only[qF];omega
    have hK:aBO n p x y z (k3N n p x y z).length (k3N n p x y z):=⟨⟨hpl,hcl,⟨hno,y0,by omega⟩,⟨hno,z0,by omega⟩⟩,rfl,hkl⟩
    have step:aLW n p x y z=0->(∃w,t3 n p x y w/\(z+1=w/\(k3N n p x y z).length+(aIt n p x y z).length=(k3N n p x y w).length/\k3N n p x y z++aIt n p x y z=k3N n p x y w)/\(((p.2.2.2.getD x.toNat []).getD y.toNat []).length-w).toNat<(((p.2.2.2.getD x.toNat []).getD y.toNat []).length-z).toNat):=λh0=>by
     have e:k3N n p x y (z+1)=k3N n p x y z++aIt n p x y z:=by
      unfold k3N aWU;rw[aDd z0,zt,wG]
     exact⟨z+1,⟨⟨⟨⟨⟨hpl,x0,hx⟩,y0,by omega⟩,hy⟩,by omega,by omega⟩,xa,ya,aFJ z0 za (by rw[zt];exact h0)⟩,⟨rfl,by rw[e,qF],e.symm⟩,by omega⟩
    refine⟨z0,hz,λhne1=>⟨⟨hK,λhz0=>?_⟩,λhz0=>⟨⟨hK,hz0⟩,by rw[qF];omega,bC (by omega),?_⟩⟩,λh1=>⟨bC (by omega),?_⟩⟩
    .have hz1:=lX.1 hz0;have c1:aLW n p x y z=rU n p x y z:=if_neg hne1;have r1:bAH n p x y ((p.2.2.2.getD x.toNat []).getD y.toNat []).length=rU n p x y z:=by
      unfold bAH;rw[aH9 (k:=z.toNat) (by omega) za (by rw[zt,c1];exact hz1),zt,c1]
     have r2:aYo n p x (p.2.2.2.getD x.toNat []).length=rU n p x y z:=by
      unfold aYo;rw[aH9 (k:=y.toNat) (by omega) ya (by rw[yt,r1];exact hz1),yt,r1]
     have r3:aSS n p p.2.2.2.length=rU n p x y z:=by
      unfold aSS;rw[aH9 (k:=x.toNat) (by omega) xa (by rw[xt,r2];exact hz1),xt,r2]
     have r4:wrE n p=rU n p x y z:=by rw[hW,r3,if_pos hz1]
     obtain⟨q1,q2⟩:=hne (by rw[r4];exact hz1)
     exact⟨q1,q2,r4.symm⟩
    .have c1:aLW n p x y z=rU n p x y z:=if_neg hne1;have c2:aIt n p x y z=keepA n p x y z:=if_neg hne1;have:=step (by rw[c1];exact iV.1 hz0)
     rw[c2]at this;exact this
    .have c1:aLW n p x y z=0:=if_pos h1;have c2:aIt n p x y z=[]:=if_pos h1;have:=step c1;rw[c2]at this;simpa using this
   .have ez:z=((p.2.2.2.getD x.toNat []).getD y.toNat []).length:=by omega
    have e:k2N n p x (y+1)=k3N n p x y z:=by
     unfold k3N;rw[ez,vO];unfold k2N aWJ;rw[aDd y0,yt,wG]
    have za':bAH n p x y ((p.2.2.2.getD x.toNat []).getD y.toNat []).length=0:=by rw[ez,vO]at za;exact za
    exact⟨bC (by omega),y+1,⟨⟨⟨hpl,x0,hx⟩,by omega,by omega⟩,xa,aFJ y0 ya (by rw[yt];exact za')⟩,⟨rfl,by rw[e],e.symm⟩,by omega⟩
  .have ey:y=(p.2.2.2.getD x.toNat []).length:=by omega
   have e:k1N n p (x+1)=k2N n p x y:=by
    unfold k2N;rw[ey,vO];unfold k1N bAo;rw[aDd x0,xt,wG]
   have ya':aYo n p x (p.2.2.2.getD x.toNat []).length=0:=by rw[ey,vO]at ya;exact ya
   exact⟨bC (by omega),x+1,⟨⟨hpl,by omega,by omega⟩,aFJ x0 xa (by rw[xt];exact ya')⟩,⟨rfl,by rw[e],e.symm⟩,by omega⟩
 .have ex:x=p.2.2.2.length:=by omega
  have eN:k1N n p x=aLf n p:=by unfold k1N aLf;rw[ex,vO]
  rw[ex,vO]at xa;have hl:=aSx hpl (k:=p.2.2.2.length) (by omega) xa
  rw[eN];rw[xa,if_neg (λg=>g rfl)]at hW
  refine⟨λhgt=>?_,λhle=>?_⟩
  .rw[if_pos (by omega)]at hW
   obtain⟨q1,q2⟩:=hne (by rw[hW];decide)
   exact⟨q1,q2,hW.symm⟩
  .rw[if_neg (by omega)]at hW
   refine⟨?_,(if_pos hW).symm,(if_pos hW).symm,hW.symm⟩;show(aLf n p).length<=9223372036854775807;omega
end Go.Eng.Sv
set_option maxRecDepth 100000
noncomputable section
namespace Go.Eng.Sv
open Go.Proofs
def pN(nx:List (List Int)): Plan:=(0,0,nx,[])
def bDh(n:Net)(k o t:Int): Prop:=(aAL n o/\aIq n k)/\0<=t/\t<=2200000
def aLP(n:Net)(k o a b:Int): List Int:=aO7 (aS n o) (dM n k).2.1 b ((b-a).toNat+1) a
def aLO(n:Net)(k o a b:Int): Prop:=aAL n o/\aIq n k/\0<=a/\a<b/\b<=1000000
def aKc(n:Net)(k o a b:Int)(x:Nat×Int): Prop:=(a+x.1<=x.2/\x.2<=b)/\x.1<=(aLP n k o a b).length/\(aLP n k o a b).drop x.1=aO7 (aS n o) (dM n k).2.1 b ((b-a).toNat+1-x.1) x.2
def aFQ(n:Net)(nx:List (List Int))(k o d cut:Int): Int:=if sZ n nx o d cut≠0 then sZ n nx o d cut else if aKE n (pN nx) k o d cut≠0 then aKE n (pN nx) k o d cut else if aWc n (pN nx) k o d cut<0 then 1 else 0
def aXh(n:Net)(nx:List (List Int))(k o d cut:Int): Int:=aWc n (pN nx) k o d cut
def aIm(n:Net)(nx:List (List Int))(k o d cut:Int): Prop:=aMb n nx o d cut/\aIq n k
def bEK(n:Net)(nx:List (List Int))(a b:Int): Prop:=bZ n=true/\aBk n nx=true/\0<=a/\a<b/\b<=600/\b-a<=60
def bFJ(n:Net)(o:Int): Prop:=0<=o/\o<n.2.2.2.1.length
def cellP(n:Net)(nx:List (List Int))(k o d a b:Int): Prop:=bEK n nx a b/\aIq n k/\bFJ n o/\bFJ n d
def aEq(n:Net)(k o a b:Int): List Int:=aLP n k o (1440*a) (1440*b)
def aQ7(n:Net)(nx:List (List Int))(k o d a b:Int)(j:Nat): Int:=(((aEq n k o a b).take j).map (aXh n nx k o d)).foldl max (-1)
def aJF(n:Net)(nx:List (List Int))(k o d a b:Int): Int:=aM2 ((aEq n k o a b).map (aFQ n nx k o d))
def uI(n:Net)(nx:List (List Int))(k o d a b:Int): Int:=if aJF n nx k o d a b=0 then aQ7 n nx k o d a b (aEq n k o a b).length else -1
def aJE(n:Net)(nx:List (List Int))(k o d a b:Int)(j:Nat): Prop:=cellP n nx k o d a b/\j<=(aEq n k o a b).length/\∀i:Nat,i<j->aFQ n nx k o d ((aEq n k o a b).getD i 0)=0
theorem aXQ(k o t:Int)(cs:LC)(ns os:LB)(fs:List Off)(ls:List Line)(ks:List Cla)(hvc:
 let c1:=(cs,ns,os,fs,ls,ks);let c4:=(aS c1 o);let c5:=(Du ks (Dc k) (ByteArray.mk #[],(0:Int),(0:Int))).2.2;let c6:=aZ c1 o t;true/\(bDh c1 k o t->aAL c1 o/\0<=k/\k<Df ks/\mQ c1 o t/\aIF c4 c5 c6/\oQ c4 c5 c6=aVW c1 k o t/\aBy c4 c5 c6=bAO c1 k o t/\True)):
  evF (mkc KR5) aQ 103 [.ip N (cs,ns,os,fs,ls,ks),.dat I k,.dat I o,.dat I t] [] ⟨bDh (cs,ns,os,fs,ls,ks) k o t,.tup [.dat I (aVW (cs,ns,os,fs,ls,ks) k o t),.dat I (bAO (cs,ns,os,fs,ls,ks) k o t)],[]⟩:=@of_eq _ _ (by kernel_rfl) hvc
theorem aTq(k o a b:Int)(n:Net)(hvc:
 true/\(True->a=a/\n=n/\o=o/\k=k/\b=b/\True)):
  evF (mkc KR2) aQ 116 [.ip N n,.dat I k,.dat I o,.dat I a,.dat I b] [] ⟨True,.fn 173 [.ip I a,.ipv (.ip N n),.ip I o,.ip I k,.ip I b],[]⟩:=@of_eq _ _ (by kernel_rfl) hvc
def bCS(n:Net)(k o a b:Int): aL9:=⟨λid y=>match id with
 | 1=>some {α:=Nat×Int,inv:=λx=>aKc n k o a b x,st:=λx=>⟨put y.s [(7,.dat I x.2)],x.1,true⟩,μ:=λx=>Dc (Dh (Dq b 1) x.2)}
 | _=>none,λ_ _=>none,λid=>id==2⟩
theorem aTr(k o a b:Int)(n:Net)(hvc:
 let c2:=(aS n o).2;let c3:=((aS n o).1,c2.1,c2.2);let c4:=(Du n.2.2.2.2.2 (Dc k) (ByteArray.mk #[],(0:Int),(0:Int))).2.1;let c5:=aLP n k o a b;let c6:=Dj c5;let c7:=b+1;true/\true/\true/\false=false/\∀(l:Nat),aLO n k o a b->(∃(x:Nat×Int),aKc n k o a b x/\(l=l/\a=a/\n=n/\o=o/\k=k/\b=b/\a=x.2/\a=a/\True)/\0=x.1/\true)/\∀(x:Nat×Int),let c8:=Eb (aBy c3 c4 x.2) 0;let c9:=Dk c8;let c10:=oQ c3 c4 x.2;let c11:=Ec c8 true (Ed c10 b);let c12:=Dk c11;let c13:=x.1+(1);let c14:=c10+1;let c15:=Ec c11 true (Dk false);aKc n k o a b x->aAL n o/\0<=k/\k<Df n.2.2.2.2.2/\aIF c3 c4 x.2/\(c9->c9->c9)/\(c9->c9->c9)/\(Di true c9->c9)/\(c12->(c12->c12)/\(c12->c12)/\l=l/\true/\aA7 c5 x.1 c10/\∀(b_1:Bool),let c16:=Ec c11 true (Dk b_1);(Di true c12->c12)/\(c16->b_1->c13=c6)/\(c16=false->inR IntKind.i64 c14/\∃(y:Nat×Int),aKc n k o a b y/\((l=l/\a=a/\n=n/\o=o/\k=k/\b=b/\c14=y.2/\a=a/\True)/\c13=y.1/\b_1)/\Dc (c7-y.2)<Dc (c7-x.2)))/\(c12=false->(c12->c12->c12)/\(Di true c12->c12)/\(c15->true->x.1=c6)/\(c15=false->inR IntKind.i64 c14/\∃(y:Nat×Int),aKc n k o a b y/\((l=l/\a=a/\n=n/\o=o/\k=k/\b=b/\c14=y.2/\a=a/\True)/\x.1=y.1/\true)/\Dc (c7-y.2)<Dc (c7-x.2)))):
  evI (mkc KR3) (bCS n k o a b) 173 [.ip I a,.ipv (.ip N n),.ip I o,.ip I k,.ip I b] ⟨aLO n k o a b,I,aLP n k o a b⟩:=@of_eq _ _ (by kernel_rfl) hvc
def KC0: Kt:=kOr 140 (aP [.row C,.val I,.val I] (λ(c,a,b,_)=>countP c.1 c.2.1 c.2.2 a b) λ(c,a,b,_)=>.dat I (aCS c.2.1 c.2.2 a b)) <|
 kOr 103 (aP [.ptr N,.val I,.val I,.val I] (λ(n,k,o,t,_)=>bDh n k o t) λ(n,k,o,t,_)=>.tup [.dat I (aVW n k o t),.dat I (bAO n k o t)]) <|
 kOr 116 (aP [.ptr N,.val I,.val I,.val I,.val I] (λ_=>True) λ(n,k,o,a,b,_)=>.fn 173 [.ip I a,.ipv (.ip N n),.ip I o,.ip I k,.ip I b]) KR5
def bDx: Cfg:=mkp KC0 (λ_=>false) KPw (λf=>f==97||f==95||f==102)
theorem aTp(k o d cut:Int)(nx:List (List Int))(cs:LC)(ns os:LB)(fs:List Off)(ls:List Line)(ks:List Cla)(hvc:
 let c1:=(cs,ns,os,fs,ls,ks);let c2:=sZ c1 nx o d cut;let c3:=isZero c2;let c4:=aFQ c1 nx k o d cut;let c5:=isZero c4;let c6:=chainOf (Value.iface (39) (Value.int IntKind.i64 c4));let c7:=aGc c1 nx o d cut;let c8:=Df c7;let c9:=c8-1;let c10:=(Du c7 (Dc c9) ((0:Int),(0:Int),(0:Int),(0:Int))).2.1;let c11:=bAO c1 k d c10;let c12:=isZero c11;let c13:=aS c1 d;let c18:=aVW c1 k d c10;let c19:=pJ c13.1 cut;let c20:=pJ c13.1 c18;let c21:=aCS c13.2.1 c13.2.2 c19 c20;let c22:=Ed c21 0;true/\(aIm c1 nx k o d cut->(true->aMb c1 nx o d cut/\(c3=false->c5=false/\true/\chainOf (Value.iface (39) (Value.int IntKind.i64 c2))=c6))/\((true->c3)->(aMb c1 nx o d cut/\c3)/\inR IntKind.i64 c9/\0<=c9/\c9<c8/\bDh c1 k d c10/\(true->True/\(c12=false->c5=false/\true/\chainOf (Value.iface (39) (Value.int IntKind.i64 c11))=c6))/\((true->c12)->(True/\c12)/\aAL c1 d/\1=1/\0=0/\1=1/\0=0/\oG c13.1 c13.2.1 c13.2.2 cut/\1=1/\0=0/\oG c13.1 c13.2.1 c13.2.2 c18/\1=1/\0=0/\countP c13.1 c13.2.1 c13.2.2 c19 c20/\(true->True/\(c22=false->c5=false/\true/\chainOf (Value.iface (39) (Value.int IntKind.i64 (1:Int)))=c6))/\((true->c22)->(True/\c22)/\c5/\c21=aXh c1 nx k o d cut/\True))))):
  evC bDx aQ 117 [.ip N (cs,ns,os,fs,ls,ks),.dat M nx,.dat I k,.dat I o,.dat I d,.dat I cut] (.dat I (aXh (cs,ns,os,fs,ls,ks) nx k o d cut)) ⟨aIm (cs,ns,os,fs,ls,ks) nx k o d cut,isZero (aFQ (cs,ns,os,fs,ls,ks) nx k o d cut),aF9 39 (aFQ (cs,ns,os,fs,ls,ks) nx k o d cut)⟩:=@of_eq _ _ (by kernel_rfl) hvc
def KC1: Kt:=kOr 117 (aP [.ptr N,.val M,.val I,.val I,.val I,.val I] (λ(n,nx,k,o,d,c,_)=>aIm n nx k o d c/\isZero (aFQ n nx k o d c)=true) λ(n,nx,k,o,d,c,_)=>.dat I (aXh n nx k o d c)) KC0
def bHa: KPt:=pOr 117 (aGm [.ptr N,.val M,.val I,.val I,.val I,.val I] λ(n,nx,k,o,d,c,_)=>⟨aIm n nx k o d c,isZero (aFQ n nx k o d c),aF9 39 (aFQ n nx k o d c)⟩) KPw
def KIC: FuncId->List AV->Option sV:=λf caps=>if f=173 then match ofK [.ptr I,.bp N,.ptr I,.ptr I,.ptr I] caps with
 | some (a,n,o,k,b,_)=>some ⟨aLO n k o a b,I,aLP n k o a b⟩
 | none=>none
 else none
noncomputable def bDv: Cfg:=⟨Tryz.prog,G0,KC1,λ_=>false,KIC,true,bHa,λf=>f==117⟩
def bFM(n:Net)(nx:List (List Int))(k o d a b:Int): Ann:=⟨λid s=>match id with
 | 4=>some {α:=Nat,inv:=λj=>aJE n nx k o d a b j,st:=λj=>pX (flat s) 0 (.var [.dat I (aQ7 n nx k o d a b j)]),μ:=λj=>j}
 | _=>none,λ_ _=>none,λ_ _=>none⟩
theorem aTo(k o d a b:Int)(nx:List (List Int))(n:Net)(hvc:
 let c1:=1440*a;let c2:=1440*b;let c3:=aLP n k o c1 c2;let c4:=uI n nx k o d a b;(true/\true)/\(cellP n nx k o d a b->true/\1=1/\0=0/\inR IntKind.i64 c1/\inR IntKind.i64 c2/\True/\aLO n k o c1 c2/\(∃x,aJE n nx k o d a b x/\x=0/\n=n/\nx=nx/\k=k/\o=o/\d=d/\a=a/\b=b/\n=n/\nx=nx/\k=k/\o=o/\d=d/\1=1/\0=0/\0=0/\1=1/\0=0/\0=0/\n=n/\k=k/\o=o/\a=a/\c1=c1/\b=b/\c2=c2/\c1=c1/\n=n/\o=o/\k=k/\c2=c2/\(-1:Int)=aQ7 n nx k o d a b x/\1=1/\0=0/\0=0/\True)/\(∀(x:Nat),let c5:=aQ7 n nx k o d a b x;∀(y:Int),let c6:=isZero (aFQ n nx k o d y);aJE n nx k o d a b x->aA7 c3 x y->1=1/\0=0/\aIm n nx k o d y/\(c6->1=1/\0=0/\(aIm n nx k o d y/\c6)/\1=1/\0=0/\∃z,aJE n nx k o d a b z/\z=x+(1)/\n=n/\nx=nx/\k=k/\o=o/\d=d/\a=a/\b=b/\n=n/\nx=nx/\k=k/\o=o/\d=d/\1=1/\0=0/\0=0/\1=1/\0=0/\0=0/\n=n/\k=k/\o=o/\a=a/\c1=c1/\b=b/\c2=c2/\c1=c1/\n=n/\o=o/\k=k/\c2=c2/\Ez c5 (aXh n nx k o d y)=aQ7 n nx k o d a b z/\1=1/\0=0/\0=0/\True)/\(c6=false->true/\true/\(Dk false->1=1/\0=0/\1=1/\0=0/\(-1:Int)=c4/\True)/\(Dk false=false->1=1/\0=0/\c5=c4/\True)))/\∀(x:Nat),aJE n nx k o d a b x->x=Dj c3->1=1/\0=0/\1=1/\0=0/\true/\true/\(Dk true->1=1/\0=0/\1=1/\0=0/\(-1:Int)=c4/\True)/\(Dk true=false->1=1/\0=0/\aQ7 n nx k o d a b x=c4/\True))):
  evR bDv (λ_ _ _=>none) aQ (bFM n nx k o d a b) aQ 55 [.ip N n,.dat M nx,.dat I k,.dat I o,.dat I d,.dat I a,.dat I b] ⟨cellP n nx k o d a b,.dat I (uI n nx k o d a b),[]⟩:=@of_eq _ _ (by kernel_rfl) hvc
theorem aYD(k o t:Int)(cs:LC)(ns os:LB)(fs:List Off)(ls:List Line)(ks:List Cla): aB Tryz.prog G0 103 [.ip N (cs,ns,os,fs,ls,ks),.dat I k,.dat I o,.dat I t] [] ⟨bDh (cs,ns,os,fs,ls,ks) k o t,.tup [.dat I (aVW (cs,ns,os,fs,ls,ks) k o t),.dat I (bAO (cs,ns,os,fs,ls,ks) k o t)],[]⟩:=by
 refine aA (c:=mkc KR5) bGU bD hm (aXQ k o t cs ns os fs ls ks ⟨rfl,λhp=>?_⟩)
 simp only[qc,Di,Es,Dk,qd,Dt,Ea,Eb,Dp,Ei,Eh,Ed,Ew,Df,Et,Dl,Dn,Eo,Dy,Dw,Dh,Dq,Ee,Fg,Dc,Dx,Dj,Dz,Ej,Du,Eu,Ez,En,Ef,Fe,Fj,Fh,Ep,Em,Ey,Fb];obtain⟨⟨ho,hk⟩,t0,t1⟩:=hp;have hr:=aQN (t:=t) cs ns os fs ls ks ho;have hv:=(nK cs ns os fs ls ks ho).2.2.1;have hc:=(aCY cs ns os fs ls ks ho.1 hk).2
 exact⟨ho,hk.1,hk.2,⟨ho,by omega,by omega⟩,⟨hv,hc.1,by show(dM (cs,ns,os,fs,ls,ks) k).2.2<1440;omega,by omega,by omega⟩,rfl,rfl⟩
theorem aYE(k o a b:Int)(n:Net): aB Tryz.prog G0 116 [.ip N n,.dat I k,.dat I o,.dat I a,.dat I b] [] ⟨True,.fn 173 [.ip I a,.ipv (.ip N n),.ip I o,.ip I k,.ip I b],[]⟩:=
 aA (c:=mkc KR2) aGr bD hm (aTq k o a b n ⟨rfl,λ_=>⟨rfl,rfl,rfl,rfl,rfl,trivial⟩⟩)
theorem aYF(k o a b:Int)(n:Net): aBG Tryz.prog G0 173 [.ip I a,.ipv (.ip N n),.ip I o,.ip I k,.ip I b] ⟨aLO n k o a b,I,aLP n k o a b⟩:=by
 refine uO (c:=mkc KR3) (A:=bCS n k o a b) bEq bD hm (aTr k o a b n ⟨rfl,rfl,rfl,rfl,λl ⟨hoff,hcl,a0,hab,b1⟩=>?_⟩)
 have eN:(n.1,n.2.1,n.2.2.1,n.2.2.2.1,n.2.2.2.2.1,n.2.2.2.2.2)=n:=rfl;have eC:∀c:Int×List Bool×List Int,(c.1,c.2.1,c.2.2)=c:=λ_=>rfl
 have eK:n.2.2.2.2.2.getD k.toNat (⟨#[]⟩,0,0)=dM n k:=rfl;have hv:aO (aS n o).1 (aS n o).2.1 (aS n o).2.2=true:=(nK n.1 n.2.1 n.2.2.1 n.2.2.2.1 n.2.2.2.2.1 n.2.2.2.2.2 hoff).2.2.1;obtain⟨⟨m0,m1⟩,_⟩:=aCY n.1 n.2.1 n.2.2.1 n.2.2.2.1 n.2.2.2.2.1 n.2.2.2.2.2 hoff.1 hcl;have m0:0<=(dM n k).2.1:=m0;have m1:(dM n k).2.1<=1439:=m1
 simp only[qc,Di,Es,Dk,qd,Dt,Ea,Eb,Dp,Ei,Eh,Ed,Ew,Df,Et,Dl,Dn,Eo,Dy,Dw,Dh,Dq,Ee,Fg,Dc,Dx,Dj,Dz,Ej,Du,Eu,Ez,En,Ef,Fe,Fj,Fh,Ep,Em,Ey,Fb,eN,eC,eK,zY,yB,vU,xH,false_and,and_false,exists_false,imp_false,qCm,reduceCtorEq];refine⟨⟨(0,a),⟨⟨by simp only;omega,by simp only;omega⟩,wX _,rfl⟩,rfl,rfl⟩,?_⟩
 rintro⟨j,t⟩ ⟨⟨t0,t1⟩,k1,hk⟩;simp only at t0 t1 k1 hk ⊢;have hU:(b-a).toNat+1-j=((b-a).toNat+1-(j+1))+1:=by omega
 have hst:aO7 (aS n o) (dM n k).2.1 b ((b-a).toNat+1-j) t=if aBy (aS n o) (dM n k).2.1 t=0 then if oQ (aS n o) (dM n k).2.1 t<b then oQ (aS n o) (dM n k).2.1 t::aO7 (aS n o) (dM n k).2.1 b ((b-a).toNat+1-(j+1)) (oQ (aS n o) (dM n k).2.1 t+1)else[]else[]:=by rw[hU];rfl
 rw[hst]at hk;have hlen:∀{l:List Int},(aLP n k o a b).drop j=l->(aLP n k o a b).length=j+l.length:=λh=>by
  have:=zZ List.length h;rw[vY]at this;omega
 refine⟨hoff,hcl.1,hcl.2,⟨hv,m0,by omega,by omega,by omega⟩,λ⟨h1,h2⟩=>?_,λh=>?_⟩
 .have h2':oQ (aS n o) (dM n k).2.1 t<b:=by omega
  obtain⟨b1,b2⟩:=tJ hv h1 m0 m1;rw[if_pos h1,if_pos h2']at hk;have hl:=hlen hk;rw[wW]at hl;refine⟨?_,λbb=>⟨λh hb=>?_,λ⟨_,hb⟩=>⟨bC (by omega),(j+1,oQ (aS n o) (dM n k).2.1 t+1),⟨⟨by simp only;omega,by simp only;omega⟩,by simp only;omega,?_⟩,⟨rfl,rfl,hb⟩,by simp only;omega⟩⟩⟩
  .show(aLP n k o a b)[j]?=some _;have:=zZ (λl=>l[0]?) hk
   simpa[qX]using this
  .rcases h with(h | h) | h
   .exact absurd h1 h
   .omega
   .rw[h]at hb;cases hb
  .show(aLP n k o a b).drop (j+1)=_;have:=zZ (List.drop 1) hk
   rwa [yF]at this
 .have:(aLP n k o a b).drop j=[]:=by
   rw[hk];by_cases h1:aBy (aS n o) (dM n k).2.1 t=0
   .rw[if_pos h1,if_neg (by omega)]
   .rw[if_neg h1]
  have hl:=hlen this;rw[yO]at hl;omega
theorem bG5: aI Tryz.prog G0 KC0:=aH (aC λ((z,w,h),a,b,_)=>aQr z w h a b)<|aH (aC λ((cs,ns,os,fs,ls,ks),k,o,t,_)=>aYD k o t cs ns os fs ls ks)<|aH (aC λ(n,k,o,a,b,_)=>aYE k o a b n) bGU
theorem aO8{n:Net}{nx:List (List Int)}{o d t:Int}(h:aGc n nx o d t≠[]): ((aGc n nx o d t).getD ((aGc n nx o d t).length-1) (0,0,0,0)).2.1=aGb n (pN nx) o d t:=by
 show _=((aGc n nx o d t).getLastD (0,0,0,0)).2.1;rw[kL,List.getLast?_eq_getElem?,qA]
theorem aNb{n:Net}{nx:List (List Int)}{k o d cut:Int}(h:sZ n nx o d cut≠0): aFQ n nx k o d cut=sZ n nx o d cut:=if_pos h
theorem aNc{n:Net}{nx:List (List Int)}{k o d cut:Int}(h:sZ n nx o d cut=0)(h2:aKE n (pN nx) k o d cut≠0): aFQ n nx k o d cut=aKE n (pN nx) k o d cut:=by
 unfold aFQ;rw[if_neg (λg=>g h),if_pos h2]
theorem aIn{n:Net}{nx:List (List Int)}{k o d cut:Int}(h:sZ n nx o d cut=0)(h2:aKE n (pN nx) k o d cut=0): aFQ n nx k o d cut=if aWc n (pN nx) k o d cut<0 then 1 else 0:=by
 unfold aFQ;rw[if_neg (λg=>g h),if_neg (λg=>g h2)]
theorem aP4(k o d cut:Int)(nx:List (List Int))(cs:LC)(ns os:LB)(fs:List Off)(ls:List Line)(ks:List Cla): aB Tryz.prog G0 117 [.ip N (cs,ns,os,fs,ls,ks),.dat M nx,.dat I k,.dat I o,.dat I d,.dat I cut] [] ⟨aIm (cs,ns,os,fs,ls,ks) nx k o d cut/\isZero (aFQ (cs,ns,os,fs,ls,ks) nx k o d cut)=true,.dat I (aXh (cs,ns,os,fs,ls,ks) nx k o d cut),[]⟩/\iT Tryz.prog G0 117 [.ip N (cs,ns,os,fs,ls,ks),.dat M nx,.dat I k,.dat I o,.dat I d,.dat I cut] [] ⟨aIm (cs,ns,os,fs,ls,ks) nx k o d cut,isZero (aFQ (cs,ns,os,fs,ls,ks) nx k o d cut),aF9 39 (aFQ (cs,ns,os,fs,ls,ks) nx k o d cut)⟩:=by
 refine jG (c:=bDx) bG5 bD hm aXv (aTp k o d cut nx cs ns os fs ls ks ⟨rfl,λhp=>?_⟩)
 obtain⟨n,hn⟩:∃n:Net,n=(cs,ns,os,fs,ls,ks):=⟨_,rfl⟩;rw[<- hn]at hp ⊢;obtain⟨hW,hcl⟩:=id hp;obtain⟨hs,ht,u0,u1,o0,o1,v0,v1⟩:=id hW;have hno:noF n=true:=dP n.1 n.2.1 n.2.2.1 n.2.2.2.1 n.2.2.2.2.1 n.2.2.2.2.2 hs;have hd:aAL n d:=⟨hno,o0,o1⟩;have hv:aO (aS n d).1 (aS n d).2.1 (aS n d).2.2=true:=(nK n.1 n.2.1 n.2.2.1 n.2.2.2.1 n.2.2.2.2.1 n.2.2.2.2.2 hd).2.2.1;obtain⟨⟨z1,z2,_,_⟩,_⟩:=fQ.1 hv
 obtain⟨_,⟨m0,m1⟩⟩:=aCY n.1 n.2.1 n.2.2.1 n.2.2.2.1 n.2.2.2.2.1 n.2.2.2.2.2 hno hcl;have m0:0<=(dM n k).2.2:=m0;have m1:(dM n k).2.2<=1439:=m1;simp only[qc,Di,Es,Dk,qd,Dt,Ea,Eb,Dp,Ei,Eh,Ed,Ew,Df,Et,Dl,Dn,Eo,Dy,Dw,Dh,Dq,Ee,Fg,Dc,Dx,Dj,Dz,Ej,Du,Eu,Ez,En,Ef,Fe,Fj,Fh,Ep,Em,Ey,Fb];refine⟨⟨hW,λhz=>?_⟩,λhz=>⟨⟨hW,hz⟩,?_⟩⟩
 .have hz0:=lX.1 hz;rw[aNb hz0];exact⟨hz,rfl⟩
 have hz0:=iV.1 hz;obtain⟨w1,w2,w3,w4⟩:(aGc n nx o d cut).length<=20/\aGc n nx o d cut≠[]/\cut<=aGb n (pN nx) o d cut/\aGb n (pN nx) o d cut<=2200000:=aKI 19 o cut hW hz0;have hlen:0<(aGc n nx o d cut).length:=List.length_pos_iff.2 w2;have eI:((aGc n nx o d cut).length-1:Int).toNat=(aGc n nx o d cut).length-1:=by omega
 rw[eI,aO8 w2];obtain⟨T,hT⟩:∃T,T=aGb n (pN nx) o d cut:=⟨_,rfl⟩;rw[<- hT]at w3 w4 ⊢;have eE:bAO n k d T=aKE n (pN nx) k o d cut:=by rw[hT];rfl
 have eD:aVW n k d T=bGJ n (pN nx) k o d cut:=by rw[hT];rfl
 refine⟨bC (by omega),by omega,by omega,⟨⟨hd,hcl⟩,by omega,w4⟩,λh0=>?_,λh0=>⟨h0,hd,?_⟩⟩
 .have h00:=lX.1 h0;rw[eE]at h00 h0 ⊢;rw[aNc hz0 h00];exact⟨h0,rfl⟩
 have h00:=iV.1 h0;have hf0:aBy (aS n d) (dM n k).2.2 (aZ n d T)=0:=h00;obtain⟨b1,b2⟩:=tJ hv hf0 m0 m1;have hr:mQ n d T:=⟨hd,by omega,by omega⟩
 obtain⟨_,_,r1,r2⟩:inR .i64 ((fV n d).2.2.2.2.1*(fV n d).2.2.2.2.2.1)/\inR .i64 (aZ n d T)/\T<=aZ n d T/\aZ n d T<=T+960:=aE9 n.1 n.2.1 n.2.2.1 n.2.2.2.1 n.2.2.2.2.1 n.2.2.2.2.2 hr;have b1:aZ n d T<=aVW n k d T:=b1;have b2:aVW n k d T<=aZ n d T+90000:=b2;have dB:∀t:Int,0<=t->t<=3000000->dK (pJ (aS n d).1 t)=true:=λt t0 t1=>rE (by unfold pJ;omega) (by unfold pJ;omega)
 have eV:aCS (aS n d).2.1 (aS n d).2.2 (pJ (aS n d).1 cut) (pJ (aS n d).1 (aVW n k d T))=aWc n (pN nx) k o d cut:=by rw[eD];rfl
 have eR:aKE n (pN nx) k o d cut=0:=eE▸h00;refine⟨⟨hv,by omega,by omega⟩,⟨hv,by omega,by omega⟩,⟨hv,dB _ (by omega) (by omega),dB _ (by omega) (by omega)⟩,λh1=>?_,λh1=>⟨h1,?_,eV⟩⟩
 .rw[eV]at h1;rw[aIn hz0 eR,if_pos (by omega)];exact⟨rfl,rfl⟩
 .rw[eV]at h1;rw[aIn hz0 eR,if_neg (by omega)];rfl
theorem bDK: aI Tryz.prog G0 KC1:=aH (aC λ((cs,ns,os,fs,ls,ks),nx,k,o,d,c,_)=>(aP4 k o d c nx cs ns os fs ls ks).1) bG5
theorem bAw: fC Tryz.prog G0 bHa:=rC (sQ λ((cs,ns,os,fs,ls,ks),nx,k,o,d,c,_)=>(aP4 k o d c nx cs ns os fs ls ks).2) aXv
theorem bDV: dI Tryz.prog G0 KIC:=by
 intro f caps it h;unfold KIC at h;split at h
 case isFalse=>cases h
 rename_i hf;subst hf;split at h
 case h_2=>cases h
 rename_i a n o k b _ hx;cases h;exact λhp l J JX JP w D us hD hG hu=>aYF k o a b n hp l J JX JP w D us hD hG (lQ hx hu)
theorem aVY{n:Net}{k o a b x:Int}(h:aLO n k o a b)(hx:x∈aLP n k o a b): a<=x/\x<b:=by
 have hv:aO (aS n o).1 (aS n o).2.1 (aS n o).2.2=true:=(nK n.1 n.2.1 n.2.2.1 n.2.2.2.1 n.2.2.2.2.1 n.2.2.2.2.2 h.1).2.2.1;obtain⟨⟨m0,m1⟩,_⟩:=aCY n.1 n.2.1 n.2.2.1 n.2.2.2.1 n.2.2.2.2.1 n.2.2.2.2.2 h.1.1 h.2.1;have m0:0<=(dM n k).2.1:=m0;have m1:(dM n k).2.1<=1439:=m1;have:∀(f:Nat) (t:Int),x∈aO7 (aS n o) (dM n k).2.1 b f t->t<=x/\x<b:=λf=>by
  induction f with
  | zero=>intro t h;cases h
  | succ f ih=>
   intro t h;rw[aO7]at h;split at h
   .rename_i he;obtain⟨b1,b2⟩:=tJ hv he m0 m1;split at h
    .rcases zL.1 h with rfl | h
     .exact⟨b1,by assumption⟩
     .have:=ih _ h;omega
    .cases h
   .cases h
 exact this _ _ hx
theorem aZC{n:Net}{nx:List (List Int)}{k o d a b y:Int}{j:Nat}(h:(aEq n k o a b)[j]?=some y): aQ7 n nx k o d a b (j+1)=max (aQ7 n nx k o d a b j) (aXh n nx k o d y):=by
 unfold aQ7;rw[wV,h,qAk,yG,qBk];rfl
theorem aYC(k o d a b:Int)(nx:List (List Int))(n:Net): aB Tryz.prog G0 55 [.ip N n,.dat M nx,.dat I k,.dat I o,.dat I d,.dat I a,.dat I b] [] ⟨cellP n nx k o d a b,.dat I (uI n nx k o d a b),[]⟩:=by
 refine aDD (c:=bDv) (λ_ _ _ _ h=>by cases h) bDK bDV hm bAw (aTo k o d a b nx n ⟨⟨rfl,rfl⟩,λhp=>?_⟩)
 simp only[qc,Di,Es,Dk,qd,Dt,Ea,Eb,Dp,Ei,Eh,Ed,Ew,Df,Et,Dl,Dn,Eo,Dy,Dw,Dh,Dq,Ee,Fg,Dc,Dx,Dj,Dz,Ej,Du,Eu,Ez,En,Ef,Fe,Fj,Fh,Ep,Em,Ey,Fb];obtain⟨⟨hs,ht,a0,ab,b6,b60⟩,hcl,ho,hd⟩:=id hp;have hno:noF n=true:=dP n.1 n.2.1 n.2.2.1 n.2.2.2.1 n.2.2.2.2.1 n.2.2.2.2.2 hs;have hX:aLO n k o (1440*a) (1440*b):=⟨⟨hno,ho.1,ho.2⟩,hcl,by omega,by omega,by omega⟩
 have hcB:aLP n k o (1440*a) (1440*b)=aEq n k o a b:=rfl;refine⟨bC (by omega),bC (by omega),hX,⟨0,⟨hp,wX _,λi hi=>by omega⟩,rfl,rfl⟩,λx y hx hy=>?_,λx hx hl=>?_⟩
 .have hy:(aEq n k o a b)[x]?=some y:=hy;have hxl:x<(aEq n k o a b).length:=(qG.1 hy).1;have ey:(aEq n k o a b).getD x 0=y:=by rw[qA,hy];rfl
  obtain⟨y0,y1⟩:=aVY hX (zH hy);have hD:aIm n nx k o d y:=⟨⟨hs,ht,ho.1,ho.2,hd.1,hd.2,by omega,by omega⟩,hcl⟩
  refine⟨hD,λhz=>⟨⟨hD,hz⟩,x+1,⟨hp,hxl,λi hi=>?_⟩,rfl,(aZC hy).symm⟩,λhz=>?_⟩
  .by_cases h3:i<x
   .exact hx.2.2 i h3
   .have:i=x:=by omega
    rw[this,ey];exact iV.1 hz
  .have hz0:=lX.1 hz;have eg:∀i:Nat,i<(aEq n k o a b).length->((aEq n k o a b).map (aFQ n nx k o d)).getD i 0=aFQ n nx k o d ((aEq n k o a b).getD i 0):=λi hi=>by
    rw[qA,qP,qA,qB hi];rfl
   have hE:aJF n nx k o d a b=aFQ n nx k o d y:=by
    unfold aJF;rw[aIa (j:=x) (by rw[vF];exact hxl) (λi hi=>by rw[eg i (by omega)];exact hx.2.2 i hi) (by rw[eg x hxl,ey];exact hz0),eg x hxl,ey]
   have hF:uI n nx k o d a b=-1:=by
    unfold uI;rw[if_neg (by rw[hE];exact hz0)]
   rw[hF];simp
 .have hE:aJF n nx k o d a b=0:=by
   unfold aJF;refine aCN λi hi=>?_
   rw[vF]at hi;rw[qA,qP,qB hi];have:=hx.2.2 i (by rw[hl];exact hi)
   rw[qA,qB hi]at this;exact this
  have hF:uI n nx k o d a b=aQ7 n nx k o d a b x:=by
   unfold uI;rw[if_pos hE,hl];rfl
  rw[hF];simp
end Go.Eng.Sv
