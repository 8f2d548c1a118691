/- PeIn5bk, PeIn6k -/
import Derived.Test.YtlobbofhlcjlmaaGreatDoorH22
import Derived.Test.YtlobbofhlcjlmaaGreatDoorIn5k
set_option linter.unusedSimpArgs false
set_option linter.unusedVariables false
set_option maxRecDepth 100000
namespace Go.Eng.In
open Go.Proofs
theorem aCD {l:List Int} (hl:iR l) (h:uD l=true):(0≤l.getD 2 0∧l.getD 2 0≤12)∧(0≤l.getD 3 0∧l.getD 3 0≤4)∧0≤l.getD 0 0∧l.getD 0 0 < l.getD 1 0∧l.getD 1 0≤600:=by
 have bd:∀ k:Nat,0≤l.getD k 0:=fun k=>by
  by_cases hk:k < l.length
  ·exact (gK.1 hl.1 _ (aW hk)).1
  ·rw [List.getD_eq_getElem?_getD,List.getElem?_eq_none (by omega)];exact Int.le_refl _
 unfold uD aAe at h
 simp only [Bool.and_eq_true,decide_eq_true_eq] at h
 exact ⟨⟨bd 2,h.1.2.1⟩,⟨bd 3,h.1.2.2.1⟩,bd 0,h.1.2.2.2.1,h.1.2.2.2.2.2⟩
theorem aB2 (g:Int→Int→Int) (n:Int):(mP g n).length=n.toNat:=by unfold mP;simp
theorem yC {g:Int→Int→Int} {n:Int} {r:List Int} (h:r ∈ mP g n):r.length=n.toNat∧∀ x ∈ r,∃ i j,x=g i j:=by
 unfold mP at h
 obtain ⟨i,_,rfl⟩:=List.mem_map.1 h
 refine ⟨by simp,fun x hx=>?_⟩
 obtain ⟨j,_,rfl⟩:=List.mem_map.1 hx
 exact ⟨_,_,rfl⟩
theorem aOq {g:Int→Int→Int} {n i j:Int} (hi:0≤i∧i < n) (hj:0≤j∧j < n):((mP g n).getD i.toNat []).getD j.toNat 0=g i j:=by
 unfold mP
 have e1:i.toNat < n.toNat:=by omega
 have e2:j.toNat < n.toNat:=by omega
 have e:((List.range n.toNat).map fun i:Nat=>(List.range n.toNat).map fun j:Nat=>g i j).getD i.toNat []=(List.range n.toNat).map fun j:Nat=>g (i.toNat:Nat) j:=by
  rw [List.getD_eq_getElem?_getD,List.getElem?_map,List.getElem?_range e1];rfl
 rw [e,List.getD_eq_getElem?_getD,List.getElem?_map,List.getElem?_range e2,Int.toNat_of_nonneg hi.1]
 show g i (j.toNat:Nat)=_
 rw [Int.toNat_of_nonneg hj.1]
theorem aSG {l:List Int} (hl:iR l) (m i j:Int):-1≤tg l m i j:=by
 unfold tg
 have:0≤l.getD (i * m + j).toNat 0:=by
  by_cases hk:(i * m + j).toNat < l.length
  ·exact (gK.1 hl.1 _ (aW hk)).1
  ·rw [List.getD_eq_getElem?_getD,List.getElem?_eq_none (by omega)];exact Int.le_refl _
 omega
theorem aMN {q m:Int} {l:List Int} {t:List (List Int)} (h:t ∈ aAu q m l):∃ k,t=nX m (dG l k):=by
 unfold aAu at h
 obtain ⟨i,_,rfl⟩:=List.mem_map.1 h
 exact ⟨_,rfl⟩
theorem aMO (q m:Int) (l:List Int):(aAu q m l).length=q.toNat:=by unfold aAu;simp
theorem aQK {l:List Int} (hl:iR l) (h:uD l=true):nxP (aI l):=by
 obtain ⟨⟨m0,m1⟩,_⟩:=aCD hl h
 refine ⟨?_,fun r hr=>?_⟩
 ·show (mP _ _).length≤_
  rw [aB2];omega
 ·obtain ⟨h1,h2⟩:=yC hr
  refine ⟨by omega,fun x hx=>?_⟩
  obtain ⟨i,j,rfl⟩:=h2 x hx
  exact aSG (jS hl 4) _ _ _
theorem aNt {n:Net} {l:List Int} (hl:iR l) (h:uD l=true) (hf:aDG n (aI l)=true):plP n (aI l):=by
 obtain ⟨⟨m0,m1⟩,⟨q0,q1⟩,a0,a1,a2⟩:=aCD hl h
 unfold aDG at hf
 simp only [Bool.and_eq_true,decide_eq_true_eq,List.all_eq_true,List.mem_range] at hf
 obtain ⟨⟨f1,f2⟩,f3⟩:=hf
 have e1:(aI l).2.2.1.length=(l.getD 2 0).toNat:=aB2 _ _
 have e2:(aI l).2.2.2.length=(l.getD 3 0).toNat:=aMO _ _ _
 refine ⟨⟨a0,by show l.getD 0 0≤l.getD 1 0;omega,a2⟩,⟨f1,fun r hr=>?_⟩,fun i j hi hj=>?_,f2,fun t ht=>?_⟩
 ·have h1:=(yC hr).1
  omega
 ·obtain ⟨i0,i1⟩:=hi
  obtain ⟨j0,j1⟩:=hj
  have hi2:i < l.getD 2 0:=by omega
  have hj2:j < l.getD 2 0:=by omega
  have ec:cellAt (aI l) i j=tg (dG l 4) (l.getD 2 0) i j:=aOq ⟨i0,hi2⟩ ⟨j0,hj2⟩
  have:=f3 i.toNat (by omega)
  unfold rO at this
  rw [List.all_eq_true,Int.toNat_of_nonneg i0] at this
  have hr:=(yC (g:=tg (dG l 4) (l.getD 2 0)) (n:=l.getD 2 0) (r:=(aI l).2.2.1.getD i.toNat []) (aW (by omega:i.toNat < (aI l).2.2.1.length))).1
  refine ⟨this _ (aW (by omega)),?_⟩
  rw [ec]
  exact aSG (jS hl 4) _ _ _
 ·obtain ⟨k,rfl⟩:=aMN ht
  have e:(nX (l.getD 2 0) (dG (dG l (4 + l.getD 2 0 * l.getD 2 0)) k)).length=(l.getD 2 0).toNat:=aB2 _ _
  refine ⟨by omega,fun r hr=>?_⟩
  have:=(yC hr).1
  omega
theorem wS {f:Nat→List Int→Option (List Int)} {m:Nat} {x:List Int} (h:runN f m x=none):∀ {k:Nat},m≤k→runN f k x=none:=by
 intro k hk
 induction hk with
 | refl=>exact h
 | step _ ih=>rw [runN,ih];rfl
theorem uT {α:Type} (x:Option α):(x.bind fun y=>some y)=x:=by cases x <;> rfl
theorem bind_none {α:Type} {x:Option α} {f g:α→Option α} (h:x.bind f=none) (hg:∀ y,f y=none→g y=none):x.bind g=none:=by
 cases x with
 | none=>rfl
 | some y=>exact hg y h
section
variable {n:Net} {p:Plan} {l:List Int} {k o d:Int}
theorem aM4:st2 n p l k 0=st1 n p l k:=uT _
theorem aM1:st3 n p l k o 0=st2 n p l k o:=uT _
theorem aMY:st4 n p l k o d 0=st3 n p l k o d:=uT _
theorem aG6 (k0:0≤k):st1 n p l (k + 1)=st2 n p l k (iO p k).length:=by
 unfold st2
 rw [Int.toNat_natCast]
 show runN _ (k + 1).toNat l=_
 rw [show (k + 1).toNat=k.toNat + 1 by omega,runN,Int.toNat_of_nonneg k0];rfl
theorem aG5 (o0:0≤o):st2 n p l k (o + 1)=st3 n p l k o (cellsD p k o).length:=by
 unfold st3 st2
 rw [Int.toNat_natCast,show (o + 1).toNat=o.toNat + 1 by omega,Option.bind_assoc]
 congr 1
 funext x
 rw [runN,Int.toNat_of_nonneg o0];rfl
theorem aM2 (d0:0≤d) (h:kR p k o d=-1):st3 n p l k o (d + 1)=st3 n p l k o d:=by
 unfold st3
 rw [show (d + 1).toNat=d.toNat + 1 by omega]
 congr 1
 funext x
 rw [runN,Int.toNat_of_nonneg d0,show zK n p k o d=fun xs=>some xs from funext fun xs=>if_pos h]
 exact uT _
theorem aG4 (d0:0≤d) (h:kR p k o d≠-1):st3 n p l k o (d + 1)=st4 n p l k o d (lN n p k o).length:=by
 unfold st4 st3
 rw [show (d + 1).toNat=d.toNat + 1 by omega,Option.bind_assoc]
 congr 1
 funext x
 rw [runN,Int.toNat_of_nonneg d0,show zK n p k o d=fun xs=>runN (aBk n p k o d) (lN n p k o).length xs from funext fun xs=>if_neg h]
theorem aMZ (j:Nat):st4 n p l k o d (j + 1)=(st4 n p l k o d j).bind (aBk n p k o d j):=by
 unfold st4
 rw [Option.bind_assoc];rfl
theorem aM6 {k':Int} (h:st1 n p l k=none) (hk:k≤k'):st1 n p l k'=none:=wS h (by omega)
theorem aM5 {o':Int} (h:st2 n p l k o=none) (hk:o≤o'):st2 n p l k o'=none:=bind_none h fun y hy=>wS hy (by omega)
theorem aM3 {d':Int} (h:st3 n p l k o d=none) (hk:d≤d'):st3 n p l k o d'=none:=bind_none h fun y hy=>wS hy (by omega)
theorem aM0 {j j':Nat} (h:st4 n p l k o d j=none) (hk:j≤j'):st4 n p l k o d j'=none:=bind_none h fun y hy=>wS hy hk
theorem aQl {j:Nat} (h:st4 n p l k o d j=none) (hj:j≤(lN n p k o).length) (hd:kR p k o d≠-1) (d0:0≤d) (d1:d < (cellsD p k o).length) (o0:0≤o) (o1:o < (iO p k).length) (k0:0≤k) (k1:k < p.2.2.2.length):aAt n p l=none:=by
 have h1:=aM0 h hj
 rw [← aG4 d0 hd] at h1
 have h2:=aM3 h1 (d':=(cellsD p k o).length) (by omega)
 rw [← aG5 o0] at h2
 have h3:=aM5 h2 (o':=(iO p k).length) (by omega)
 rw [← aG6 k0] at h3
 exact aM6 h3 (by omega)
end
theorem aQj (s:Int) (l:List Int) (cs:List Cal) (ns ps:List ByteArray) (os:List Off) (ls:List Line) (ks:List Cla):aC Tryz.prog fC 9 [.agg [.dat (.sl C) cs,.dat (.sl S) ns,.dat (.sl S) ps,.dat (.sl Of) os,.dat (.sl Ln) ls,.dat (.sl Kl) ks],.agg [.dat R l,.dat I s]] [] ⟨xJ l∧uH (cs,ns,ps,os,ls,ks),.dat I (dD (cs,ns,ps,os,ls,ks) l s),[]⟩:=by
 refine aEk (c:=c15) aHT aWt hm aLN (aMF s l cs ns ps os ls ks ⟨⟨rfl,rfl,rfl⟩,fun hp=>?_⟩)
 simp only [gQ,D.and,D.not,Bool.true_and,eq_self,true_and,and_true,imp_self,implies_true,Bool.not_eq_true',Bool.not_eq_false',Bool.and_eq_true,Bool.and_eq_false_imp,forall_const,D.nil,D.eq,D.lt,D.le,D.ilen,D.ile,D.ilt,D.nlt,D.sub,D.add,D.nat,D.len,D.fE,D.get,decide_eq_true_eq,decide_eq_false_iff_not,beq_iff_eq,beq_eq_false_iff_ne]
 obtain ⟨hl,hn⟩:=hp
 generalize (cs,ns,ps,os,ls,ks)=n at hn ⊢
 have two:∀ {p q:Prop},p→(p∧(false=true→q)):=fun h=>⟨h,fun h=>by cases h⟩
 have eF:dD n l s=if jX (l,s)=true then if usF n=true then if sJ n l=true then aT1 n l else 190 else 1 else aAw (l,s):=rfl
 refine ⟨⟨hl,fun h=>two (by rw [eF,if_neg (by rw [h];exact Bool.noConfusion)])⟩,fun h1=>⟨⟨hl,h1⟩,hn,fun h=>two (by rw [eF,if_pos h1,if_neg (by rw [h];exact Bool.noConfusion)]),fun h2=>?_⟩⟩
 have hs:fP l s=true∧uD l=true:=by
  unfold jX at h1
  rwa [Bool.and_eq_true] at h1
 have hnum:iR l:=⟨by have:=hs.1;unfold fP at this;rw [Bool.and_eq_true] at this;exact this.1,hl⟩
 have hnx:=aQK hnum hs.2
 refine ⟨h2,⟨hn,hnx⟩,fun h=>two ?_,fun h3=>⟨h3,?_⟩⟩
 ·have:sJ n l=false:=by
   unfold sJ aEp
   cases e:aDG n (aI l) with
   | false=>rfl
   | true=>rw [decide_eq_false (by have:=h e;omega)];rfl
  rw [eF,if_pos h1,if_pos h2,if_neg (by rw [this];exact Bool.noConfusion)]
 have hfa:sJ n l=true:=by
  unfold sJ aEp
  rw [h3.1,decide_eq_true (by have:=h3.2;omega)];rfl
 have hpl:=aNt hnum hs.2 h3.1
 have eC:dD n l s=if aAt n (aI l) (dP l)=some [] then 0 else 190:=by rw [eF,if_pos h1,if_pos h2,if_pos hfa];rfl
 have hrest:iR (dP l):=jS hnum _
 obtain ⟨p,ep⟩:∃ p,p=aI l:=⟨_,rfl⟩
 obtain ⟨r,er⟩:∃ r,r=dP l:=⟨_,rfl⟩
 rw [← ep] at hpl
 rw [← er] at hrest
 rw [eC]
 rw [← ep,← er]
 clear eC eF hnx hfa h3 hs h1
 obtain ⟨⟨p0,p1,p2⟩,⟨q1,q2⟩,q3,q4,q5⟩:=id hpl
 have eRow:∀ k:Int,p.2.2.2.getD k.toNat []=iO p k:=fun _=>rfl
 have eCel:∀ k o:Int,(iO p k).getD o.toNat []=cellsD p k o:=fun _ _=>rfl
 have eDay:∀ k o d:Int,(cellsD p k o).getD d.toNat 0=kR p k o d:=fun _ _ _=>rfl
 simp only [eRow,eCel,eDay]
 have hu:usP n:=⟨h2,hn⟩
 have hno:n.2.2.2.1.length≤2000000000000000:=hn.1.1.2
 have hnk:n.2.2.2.2.2.length≤2000000000000000:=hn.2
 refine ⟨⟨(0,r),⟨⟨Int.le_refl _,Int.natCast_nonneg _⟩,rfl,hrest⟩,rfl,rfl⟩,fun ⟨k,xs⟩ ⟨⟨k0,k1⟩,kx,kn⟩=>⟨fun hk=>?_,fun hk=>?_⟩⟩
 ·have hk:k < p.2.2.2.length:=hk
  have hrw:(iO p k).length=n.2.2.2.1.length∧∀ r ∈ iO p k,r.length=n.2.2.2.1.length:=q5 _ (aW (by omega))
  refine ⟨k0,hk,⟨(0,xs),⟨⟨⟨k0,hk⟩,Int.le_refl _,Int.natCast_nonneg _⟩,by rw [aM4];exact kx,kn⟩,rfl,rfl⟩,fun ⟨o,ys⟩ ⟨⟨_,o0,o1⟩,ox,on⟩=>⟨fun ho=>?_,fun ho=>?_⟩⟩
  ·have ho:o < (iO p k).length:=ho
   have hcl:(cellsD p k o).length=n.2.2.2.1.length:=hrw.2 _ (aW (by omega))
   refine ⟨o0,ho,⟨(0,ys),⟨⟨⟨k0,hk⟩,⟨o0,ho⟩,Int.le_refl _,Int.natCast_nonneg _⟩,by rw [aM1];exact ox,on⟩,rfl,rfl⟩,fun ⟨d,zs⟩ ⟨⟨_,_,d0,d1⟩,dx,dn⟩=>⟨fun hd=>?_,fun hd=>?_⟩⟩
   ·have hd:d < (cellsD p k o).length:=hd
    have d0:0≤d:=d0
    have offO:mJ n o:=⟨o0,by show o < _;omega⟩
    have offD:mJ n d:=⟨d0,by omega⟩
    have cla:aOj n k:=⟨k0,by show k < _;omega⟩
    refine ⟨d0,hd,fun hm1=>⟨aN (by omega),⟨(d + 1,zs),⟨⟨⟨k0,hk⟩,⟨o0,ho⟩,by show 0≤d + 1;omega,by show d + 1≤_;omega⟩,by rw [aM2 d0 hm1];exact dx,dn⟩,⟨rfl,rfl⟩,by show (_ - (d + 1)).toNat < _;omega⟩⟩,fun hm1=>⟨⟨⟨hu,hpl⟩,offO,cla⟩,⟨(0,zs),⟨Int.le_refl _,by show st4 n p r k o d 0=_;rw [aMY];exact dx,dn⟩,rfl,rfl⟩,fun ⟨j,us⟩ y ⟨j0,jx,jn⟩ hy=>?_,fun ⟨j,us⟩ ⟨j0,jx,jn⟩ hj=>?_⟩⟩
    ·have hy:(lN n p k o)[j.toNat]?=some y:=hy
     obtain ⟨jl,_⟩:=List.getElem?_eq_some_iff.1 hy
     have hyd:(lN n p k o).getD j.toNat 0=y:=by rw [List.getD_eq_getElem?_getD,hy];rfl
     have hin:zI p y=true:=by
      have:=List.mem_of_getElem? hy
      unfold lN at this
      exact (List.mem_filter.1 this).2
     have hin2:1440 * p.1≤y∧y < 1440 * p.2.1:=by
      unfold zI at hin
      rwa [Bool.and_eq_true,decide_eq_true_eq,decide_eq_true_eq] at hin
     have hf:aHD n p o d y us:=⟨⟨⟨hu,hpl⟩,offO,offD⟩,⟨by omega,by omega⟩,jn⟩
     have jx:st4 n p r k o d j.toNat=some us:=jx
     have ju:st4 n p r k o d (j.toNat + 1)=if aAv n p k o d y us=true then some (aFL n p o d y us) else none:=by
      rw [aMZ,jx]
      show aBk n p k o d j.toNat us=_
      unfold aBk
      rw [hyd]
     refine ⟨⟨⟨hf,cla⟩,fun hno=>two ?_⟩,fun hok=>⟨⟨⟨hf,cla⟩,hok⟩,⟨(j + 1,aFL n p o d y us),⟨by show 0≤j + 1;have:0≤j:=j0;omega,by rw [show ((j + 1,aFL n p o d y us).1).toNat=j.toNat + 1 by show (j + 1).toNat=_;have:0≤j:=j0;omega,ju,if_pos hok],(aGB 19 hf).2⟩,by show (j + 1).toNat=_;have:0≤j:=j0;omega,rfl⟩⟩⟩
     rw [if_neg (by rw [hno];exact Bool.noConfusion)] at ju
     rw [aQl ju (by omega) hm1 d0 hd o0 ho k0 hk]
     exact (if_neg (fun h=>by cases h)).symm
    ·have hj:j.toNat=(lN n p k o).length:=hj
     have jx:st4 n p r k o d j.toNat=some us:=jx
     refine ⟨aN (by omega),⟨(d + 1,us),⟨⟨⟨k0,hk⟩,⟨o0,ho⟩,by show 0≤d + 1;omega,by show d + 1≤_;omega⟩,by rw [aG4 d0 hm1,← hj];exact jx,jn⟩,⟨rfl,rfl⟩,by show (_ - (d + 1)).toNat < _;omega⟩⟩
   ·have d1:d≤(cellsD p k o).length:=d1
    have hd:¬ d < (cellsD p k o).length:=hd
    have de:d=(cellsD p k o).length:=by omega
    have o0:0≤o:=o0
    refine ⟨aN (by omega),⟨(o + 1,zs),⟨⟨⟨k0,hk⟩,by show 0≤o + 1;omega,by show o + 1≤_;omega⟩,by rw [aG5 o0,← de];exact dx,dn⟩,⟨rfl,rfl⟩,by show (_ - (o + 1)).toNat < _;omega⟩⟩
  ·have o1:o≤(iO p k).length:=o1
   have ho:¬ o < (iO p k).length:=ho
   have oe:o=(iO p k).length:=by omega
   have k0:0≤k:=k0
   refine ⟨aN (by omega),⟨(k + 1,ys),⟨⟨by show 0≤k + 1;omega,by show k + 1≤_;omega⟩,by rw [aG6 k0,← oe];exact ox,on⟩,⟨rfl,rfl⟩,by show (_ - (k + 1)).toNat < _;omega⟩⟩
 ·have k1:k≤p.2.2.2.length:=k1
  have hk:¬ k < p.2.2.2.length:=hk
  have ke:k=p.2.2.2.length:=by omega
  have ka:aAt n p r=some xs:=by unfold aAt;rw [← ke];exact kx
  rw [ka]
  have xl:∀ xs:List Int,(some xs=some [])↔xs.length=0:=fun xs=>by
   rw [Option.some.injEq,List.length_eq_zero_iff]
  refine ⟨fun h=>two ?_,fun h=>⟨h,(fun h=>by cases h),?_⟩⟩
  ·have h:(xs.length:Int)≠0:=h
   rw [if_neg (by rw [xl];omega)]
  ·have h:(xs.length:Int)=0:=h
   rw [if_pos (by rw [xl];omega)]
end Go.Eng.In

set_option maxRecDepth 100000
noncomputable section
namespace Go.Eng.In
open Go.Proofs
def kQ (n:Net):Bool:=decide (n.1.length≤10∧n.2.1.length≤10∧n.2.2.1.length≤10∧n.2.2.2.1.length≤16∧n.2.2.2.2.1.length≤50∧n.2.2.2.2.2.length≤8)
def kH (w:List Bool) (h:List Int):Bool:=decide (w.length≤20) && decide (h.length≤60)
def oQ (cs:List Cal) (ns:List ByteArray):List ByteArray:=(List.range cs.length).map fun i=>ns.getD i ⟨#[]⟩
def aIr (fs:List Off):List ByteArray:=fs.map (·.1)
def aIA (ls:List Line):List ByteArray:=ls.map (·.1)
def aIU (ks:List Cla):List ByteArray:=ks.map (·.1)
def aKB (l:List ByteArray) (i:Int):ByteArray:=l.getD i.toNat ⟨#[]⟩
def aO (n:Net) (k:Int):List ByteArray:=if k=1 then oQ n.1 n.2.1 else if k=2 then n.2.2.1 else if k=3 then aIr n.2.2.2.1 else if k=4 then aIA n.2.2.2.2.1 else if k=5 then aIU n.2.2.2.2.2 else []
def nU (k n:Int):Prop:=0≤k∧k≤n
def aX (n:Net) (k i:Int):List ByteArray:=(aO n k).take i.toNat
def aAP (cs:List (Int×List Bool×List Int)) (k:Int):Prop:=0≤k∧k≤cs.length∧(cs.take k.toNat).all (fun c=>kH c.2.1 c.2.2)=true
def aAI (fs:List Off) (k:Int):Prop:=0≤k∧k≤fs.length∧(fs.take k.toNat).all (fun o=>decide (o.2.2.2.2.2.2.length≤30))=true
def lC (l:List ByteArray):Bool:=l.all fun s=>decide (s.size≤40)
def xM (n:Net) (k:Int):Prop:=1≤k∧k≤6∧∀ j:Int,1≤j→j < k→lC (aO n j)=true
def aDq (l:List ByteArray) (i:Int):Prop:=0≤i∧i≤l.length∧lC (l.take i.toNat)=true
def qU (n:Net):Bool:=kQ n && (n.1.all fun c=>kH c.2.1 c.2.2) && (n.2.2.2.1.all fun o=>decide (o.2.2.2.2.2.2.length≤30)) && lC (aO n 1) && lC (aO n 2) && lC (aO n 3) && lC (aO n 4) && lC (aO n 5)
def kJ (a b:List (List Int)):Bool:=a == b
def wM (a b:List (List Int)) (k:Int):Prop:=0≤k∧k≤a.length∧a.length=b.length∧a.length≤1000000∧a.take k.toNat=b.take k.toNat
def wO (a b:List (List Int)) (i k:Int):Prop:=0≤k∧k≤(a.getD i.toNat []).length∧(a.getD i.toNat []).length=(b.getD i.toNat []).length∧(a.getD i.toNat []).length≤1000000∧(a.getD i.toNat []).take k.toNat=(b.getD i.toNat []).take k.toNat
def xB (a:List (List Int)):Prop:=a.length≤1000000∧∀ r ∈ a,r.length≤1000000
def aA4 (a b:List (List (List Int))):Bool:=a == b
def aDc (a b:List (List (List Int))) (k:Int):Prop:=0≤k∧k≤a.length∧a.length=b.length∧a.take k.toNat=b.take k.toNat
def aGi (a:List (List (List Int))):Prop:=a.length≤1000000∧∀ t ∈ a,xB t
def aFY (p q:Plan):Bool:=decide (p=q)
def aDr (p:Plan):Prop:=xB p.2.2.1∧aGi p.2.2.2
def smF (n:Net) (nx:List (List Int)):Bool:=(qU n && decide ((n.2.2.2.1.length:Int)≤6)) && (decide ((nx.length:Int)≤10) && nx.all fun r=>decide ((r.length:Int)≤10))
def aTZ (nx:List (List Int)) (k:Int):Prop:=0≤k∧k≤nx.length∧nx.length≤10∧∀ i:Nat,(i:Int) < k→(nx.getD i []).length≤10
def aHF (n:Net) (l:List Int):Bool:=smF n [] && decide ((l.length:Int)≤3000)
theorem aJp (z:Int) (w:List Bool) (h:List Int) (hvc :
 let c1:=D.le (D.ilen w) (20:Int);true=true∧(True→(c1=true→c1=true→c1=true)∧(c1=true→c1=true→c1=true)∧(c1=true→c1=true →
 c1=true)∧(D.and true c1=true→c1=true)∧D.cnd c1 (D.le (D.ilen h) (60:Int)) false=kH w h∧True)) :
  evF (mkc aI9) bF 93 [.agg [.dat I z,.dat B w,.dat R h]] [] ⟨True,.dat .bool (kH w h),[]⟩:=@of_eq _ _ (by kernel_rfl) hvc
def aI8:Kt:=kOr 93 (bD [.row C] (fun _=>True) fun ((_,w,h),_)=>.dat .bool (kH w h)) aI9
def aBs (n:Net) (k:Int) (loop slot:Nat) (st:St) (xs:List ByteArray):Option Spec:=some { α:=Int,inv:=fun i=>nU i (D.ilen (aO n k)),st:=fun i=>aAd (put st [(slot,.dat I i),(5,.buf 100 (D.len (aX n k i)))]) 100 (.buf 9 S (aX n k i) []),μ:=fun i=>D.nat (D.sub (D.ilen (aO n k)) i) }
def aNF (n:Net):Ann:=⟨fun id st=>match id with
 | 5=>aBs n 1 5 6 st []
 | 12=>aBs n 2 12 7 st []
 | 17=>aBs n 3 17 8 st []
 | 22=>aBs n 4 22 9 st []
 | 27=>aBs n 5 27 10 st []
 | _=>none,fun _ _=>none,fun _ _=>none⟩
theorem aMs (k:Int) (cs:List Cal) (ns os:List ByteArray) (fs:List Off) (ls:List Line) (ks:List Cla) (hvc :
 let c1:=(cs,ns,os,fs,ls,ks);
 let c2:=D.eq k (1:Int);
 let c3:=D.ilen (aO c1 (1:Int));
 let c4:=[ByteArray.mk (D.nil UInt8).toArray];
 let c5:=D.len c4;
 let c6:=aO c1 k;
 let c7:=D.eq k (2:Int);
 let c8:=D.ilen (aO c1 (2:Int));
 let c9:=D.eq k (3:Int);
 let c10:=D.ilen (aO c1 (3:Int));
 let c11:=D.ilen fs;
 let c12:=(ByteArray.mk (D.nil UInt8).toArray,(0:Int),(0:Int),(0:Int),(0:Int),(0:Int),D.nil ByteArray);
 let c13:=D.eq k (4:Int);
 let c14:=D.ilen (aO c1 (4:Int));
 let c15:=D.ilen ls;
 let c16:=((0:Int),(0:Int));
 let c17:=(ByteArray.mk (D.nil UInt8).toArray,(0:Int),(0:Int),(0:Int),c16);
 let c18:=D.eq k (5:Int);
 let c19:=D.ilen (aO c1 (5:Int));
 let c20:=D.ilen ks;
 let c21:=(ByteArray.mk (D.nil UInt8).toArray,c16);true=true∧(kQ c1=true→(c2=true→(∃ x,
 let c22:=aX c1 (1:Int) x;nU x c3∧c1=c1∧Value.slice none (0) (0)=Value.slice none (0) (0)∧D.len c22=0∧c22=D.nil ByteArray∧(0:Int)
 = x∧k=k∧c22=D.nil ByteArray∧True)∧∀ (x:Int),
 let c23:=D.lt x (D.ilen cs);
 let c24:=D.lt x (D.ilen ns);
 let c25:=aX c1 (1:Int) x;
 let c26:=D.len c25;
 let c27:=[D.get ns (D.nat x) (ByteArray.mk (D.nil UInt8).toArray)];
 let c28:=D.fE c26 (D.len c27);
 let c29:=D.add x (1:Int);
 let c30:=D.fE c26 c5;nU x c3→(c23=true→(c24=true→D.ile (0:Int) x∧D.ilt x (D.ilen ns)∧c26=c26∧D.nle (D.nI c28 (16)) (140737488355328)
 ∧ D.nle c28 (9223372036854775807)∧inR IntKind.i64 c29∧∃ y,
 let c31:=aX c1 (1:Int) y;nU y c3∧(c1=c1∧Value.slice none (0) (0)=Value.slice none (0) (0)∧c28=D.len c31∧c29=y∧k=k∧D.app c25 c27
 = c31∧True)∧D.nlt (D.nat (D.sub c3 y)) (D.nat (D.sub c3 x)))∧(c24=false→c26=c26∧D.nle (D.nI c30 (16)) (140737488355328)∧D.nle c30
 (9223372036854775807)∧inR IntKind.i64 c29∧∃ y,
 let c32:=aX c1 (1:Int) y;nU y c3∧(c1=c1∧Value.slice none (0) (0)=Value.slice none (0) (0)∧c30=D.len c32∧c29=y∧k=k∧D.app c25 c4
 = c32∧True)∧D.nlt (D.nat (D.sub c3 y)) (D.nat (D.sub c3 x))))∧(c23=false→c26=c26∧c25=c6∧True))∧(c2=false→(c7=true→(∃ x,
 let c33:=aX c1 (2:Int) x;nU x c8∧c1=c1∧Value.slice none (0) (0)=Value.slice none (0) (0)∧D.len c33=0∧c33=D.nil ByteArray∧(0:Int)
 = x∧k=k∧c33=D.nil ByteArray∧True)∧∀ (x:Int),
 let c34:=D.lt x (D.ilen os);
 let c35:=aX c1 (2:Int) x;
 let c36:=D.len c35;
 let c37:=[D.get os (D.nat x) (ByteArray.mk (D.nil UInt8).toArray)];
 let c38:=D.fE c36 (D.len c37);
 let c39:=D.add x (1:Int);nU x c8→(c34=true→D.ile (0:Int) x∧D.ilt x (D.ilen os)∧c36=c36∧D.nle (D.nI c38 (16)) (140737488355328)∧D.nle
 c38 (9223372036854775807)∧inR IntKind.i64 c39∧∃ y,
 let c40:=aX c1 (2:Int) y;nU y c8∧(c1=c1∧Value.slice none (0) (0)=Value.slice none (0) (0)∧c38=D.len c40∧c39=y∧k=k∧D.app c35 c37
 = c40∧True)∧D.nlt (D.nat (D.sub c8 y)) (D.nat (D.sub c8 x)))∧(c34=false→c36=c36∧c35=c6∧True))∧(c7=false→(c9=true→(∃ x,
 let c41:=aX c1 (3:Int) x;nU x c10∧c1=c1∧Value.slice none (0) (0)=Value.slice none (0) (0)∧D.len c41=0∧c41=D.nil ByteArray∧(0:Int)
 = x∧k=k∧c41=D.nil ByteArray∧True)∧∀ (x:Int),
 let c42:=aX c1 (3:Int) x;
 let c43:=D.len c42;
 let c44:=[(D.get fs (D.nat x) c12).fst];
 let c45:=D.fE c43 (D.len c44);
 let c46:=D.add x (1:Int);nU x c10→(D.lt x c11=true→D.ile (0:Int) x∧D.ilt x c11∧c43=c43∧D.nle (D.nI c45 (16)) (140737488355328)∧D.nle
 c45 (9223372036854775807)∧inR IntKind.i64 c46∧∃ y,
 let c47:=aX c1 (3:Int) y;nU y c10∧(c1=c1∧Value.slice none (0) (0)=Value.slice none (0) (0)∧c45=D.len c47∧c46=y∧k=k∧D.app c42
 c44=c47∧True)∧D.nlt (D.nat (D.sub c10 y)) (D.nat (D.sub c10 x)))∧(D.lt x c11=false→c43=c43∧c42=c6∧True))∧(c9=false→(c13=true→(∃
 x,
 let c48:=aX c1 (4:Int) x;nU x c14∧c1=c1∧Value.slice none (0) (0)=Value.slice none (0) (0)∧D.len c48=0∧c48=D.nil ByteArray∧(0:Int)
 = x∧k=k∧c48=D.nil ByteArray∧True)∧∀ (x:Int),
 let c49:=aX c1 (4:Int) x;
 let c50:=D.len c49;
 let c51:=[(D.get ls (D.nat x) c17).fst];
 let c52:=D.fE c50 (D.len c51);
 let c53:=D.add x (1:Int);nU x c14→(D.lt x c15=true→D.ile (0:Int) x∧D.ilt x c15∧c50=c50∧D.nle (D.nI c52 (16)) (140737488355328)∧D.nle
 c52 (9223372036854775807)∧inR IntKind.i64 c53∧∃ y,
 let c54:=aX c1 (4:Int) y;nU y c14∧(c1=c1∧Value.slice none (0) (0)=Value.slice none (0) (0)∧c52=D.len c54∧c53=y∧k=k∧D.app c49
 c51=c54∧True)∧D.nlt (D.nat (D.sub c14 y)) (D.nat (D.sub c14 x)))∧(D.lt x c15=false→c50=c50∧c49=c6∧True))∧(c13=false→(c18=true→(∃
 x,
 let c55:=aX c1 (5:Int) x;nU x c19∧c1=c1∧Value.slice none (0) (0)=Value.slice none (0) (0)∧D.len c55=0∧c55=D.nil ByteArray∧(0:Int)
 = x∧c55=D.nil ByteArray∧True)∧∀ (x:Int),
 let c56:=aX c1 (5:Int) x;
 let c57:=D.len c56;
 let c58:=[(D.get ks (D.nat x) c21).fst];
 let c59:=D.fE c57 (D.len c58);
 let c60:=D.add x (1:Int);nU x c19→(D.lt x c20=true→D.ile (0:Int) x∧D.ilt x c20∧c57=c57∧D.nle (D.nI c59 (16)) (140737488355328)∧D.nle
 c59 (9223372036854775807)∧inR IntKind.i64 c60∧∃ y,
 let c61:=aX c1 (5:Int) y;nU y c19∧(c1=c1∧Value.slice none (0) (0)=Value.slice none (0) (0)∧c59=D.len c61∧c60=y∧D.app c56 c58=c61
 ∧ True)∧D.nlt (D.nat (D.sub c19 y)) (D.nat (D.sub c19 x)))∧(D.lt x c20=false→c57=c57∧c56=c6∧True))∧(c18=false→c6=D.nil ByteArray ∧
 True))))))) :
  evF (mkc aI8) (lvA [(5,[2,4,5,6,7,8,9,10,11]),(12,[2,4,5,7,8,9,10,11]),(17,[2,4,5,8,9,10,11]),(22,[2,4,5,9,10,11]),(27,[2,4,5,10])] (aNF (cs,ns,os,fs,ls,ks))) 94 [.agg [.dat (.sl C) cs,.dat (.sl S) ns,.dat (.sl S) os,.dat (.sl Of) fs,.dat (.sl Ln) ls,.dat (.sl Kl) ks],.dat I k] [] ⟨kQ (cs,ns,os,fs,ls,ks)=true,.dat (.sl S) (aO (cs,ns,os,fs,ls,ks) k),[]⟩:=@of_eq _ _ (by kernel_rfl) hvc
def aM8 (a b:List (List Int)):Ann:=⟨fun id st=>match id with
 | 4=>some { α:=Int,inv:=fun k=>wM a b k,st:=fun k=>put st [(5,.dat I k)],μ:=fun k=>D.nat (D.sub (D.ilen a) k) }
 | 9=>match st.sig.T 5 with
  | .dat (.int .i64) i=>some { α:=Int,inv:=fun k=>wO a b i k,st:=fun k=>put st [(6,.dat I k)],μ:=fun k=>D.nat (D.sub (D.ilen (D.get a (D.nat i) [])) k) }
  | _=>none
 | _=>none,fun _ _=>none,fun _ _=>none⟩
theorem aMl (a b:List (List Int)) (hvc :
 let c1:=D.ne (D.ilen a) (D.ilen b);true=true∧(xB a→(c1=true→false=kJ a b∧True)∧(c1=false→(∃ x,wM a b x∧a=a∧b=b∧(0 :
 Int)=x∧True)∧∀ (x:Int),
 let c2:=D.lt x (D.ilen a);
 let c3:=D.get a (D.nat x) (D.nil Int);
 let c4:=D.ilen c3;
 let c5:=D.get b (D.nat x) (D.nil Int);
 let c6:=D.ilen c5;
 let c7:=D.ne c4 c6;
 let c8:=D.add x (1:Int);wM a b x→(c2=true→D.ile (0:Int) x∧D.ilt x (D.ilen a)∧D.ile (0:Int) x∧D.ilt x (D.ilen b)∧(c7=true→false =
 kJ a b∧True)∧(c7=false→(∃ x_4,wO a b x x_4∧a=a∧b=b∧x=x∧(0:Int)=x_4∧True)∧∀ (x_4:Int),
 let c9:=D.ne (D.get c3 (D.nat x_4) (0:Int)) (D.get c5 (D.nat x_4) (0:Int));
 let c10:=D.add x_4 (1:Int);wO a b x x_4→D.ile (0:Int) x∧D.ilt x (D.ilen a)∧(D.lt x_4 c4=true→D.ile (0:Int) x∧D.ilt x (D.ilen a) ∧
 D.ile (0:Int) x_4∧D.ilt x_4 c4∧D.ile (0:Int) x∧D.ilt x (D.ilen b)∧D.ile (0:Int) x_4∧D.ilt x_4 c6∧(c9=true→false=kJ a b∧True)∧(c9
 = false→inR IntKind.i64 c10∧∃ y,wO a b x y∧(a=a∧b=b∧x=x∧c10=y∧True)∧D.nlt (D.nat (D.sub c4 y)) (D.nat (D.sub c4 x_4))))∧(D.lt
 x_4 c4=false→inR IntKind.i64 c8∧∃ y,wM a b y∧(a=a∧b=b∧c8=y∧True)∧D.nlt (D.nat (D.sub (D.ilen a) y)) (D.nat (D.sub (D.ilen a) x)))))
 ∧ (c2=false→true=kJ a b∧True)))) :
  evF (mkc aI8) (lvA [(4,[0,1,4,5,6]),(9,[0,1,4,5,6])] (aM8 a b)) 55 [.dat M a,.dat M b] [] ⟨xB a,.dat .bool (kJ a b),[]⟩:=@of_eq _ _ (by kernel_rfl) hvc
def aI7:Kt:=kOr 94 (bD [.row N,.val I] (fun (n,_,_)=>kQ n=true) fun (n,k,_)=>.dat (.sl S) (aO n k)) <|
 kOr 55 (bD [.val M,.val M] (fun (a,_,_)=>xB a) fun (a,b,_)=>.dat .bool (kJ a b)) aI8
def aTw (n:Net):Ann:=⟨fun id st=>match id with
 | 4=>some { α:=Int,inv:=fun k=>aAP n.1 k,st:=fun k=>put st [(3,.dat I k)],μ:=fun k=>D.nat (D.sub (D.ilen n.1) k) }
 | 9=>some { α:=Int,inv:=fun k=>aAI n.2.2.2.1 k,st:=fun k=>put st [(4,.dat I k)],μ:=fun k=>D.nat (D.sub (D.ilen n.2.2.2.1) k) }
 | 14=>some { α:=Int,inv:=fun k=>xM n k,st:=fun k=>put st [(5,.dat I k)],μ:=fun k=>D.nat (D.sub 6 k) }
 | 18=>match st.sig.T 5 with
  | .dat (.int .i64) k=>some { α:=Int,inv:=fun i=>aDq (aO n k) i,st:=fun i=>put st [(7,.dat I i)],μ:=fun i=>D.nat (D.sub (D.ilen (aO n k)) i) }
  | _=>none
 | _=>none,fun _ _=>none,fun _ _=>none⟩
theorem aSw (cs:List Cal) (ns os:List ByteArray) (fs:List Off) (ls:List Line) (ks:List Cla) (hvc :
 let c1:=D.ilen cs;
 let c2:=D.gt c1 (10:Int);
 let c3:=D.not c2;
 let c4:=D.cnd c2 true (D.gt (D.ilen ns) (10:Int));
 let c5:=D.not c4;
 let c6:=D.cnd c4 true (D.gt (D.ilen os) (10:Int));
 let c7:=D.not c6;
 let c8:=D.ilen fs;
 let c9:=D.cnd c6 true (D.gt c8 (16:Int));
 let c10:=D.not c9;
 let c11:=D.cnd c9 true (D.gt (D.ilen ls) (50:Int));
 let c12:=D.not c11;
 let c13:=D.cnd c11 true (D.gt (D.ilen ks) (8:Int));
 let c14:=(cs,ns,os,fs,ls,ks);
 let c15:=qU c14;true=true∧(True→(c3=true→c3=true→c3=true)∧(c3=true→c3=true→c3=true)∧(c3=true→c3=true→c3=true) ∧
 (D.and true c3=true→c3=true)∧(c5=true→c5=true→c5=true)∧(c5=true→c5=true→c5=true)∧(c5=true→c5=true→c5=true)∧(D.and
 true c5=true→c5=true)∧(c7=true→c7=true→c7=true)∧(c7=true→c7=true→c7=true)∧(c7=true→c7=true→c7=true)∧(D.and true c7
 = true→c7=true)∧(c10=true→c10=true→c10=true)∧(c10=true→c10=true→c10=true)∧(c10=true→c10=true→c10=true)∧(D.and true
 c10=true→c10=true)∧(c12=true→c12=true→c12=true)∧(c12=true→c12=true→c12=true)∧(c12=true→c12=true→c12=true)∧(D.and
 true c12=true→c12=true)∧(c13=true→false=c15∧True)∧(c13=false→(∃ x,aAP cs x∧c14=c14∧(0:Int)=x∧True)∧∀ (x:Int),
 let c16:=(D.get cs (D.nat x) ((0:Int),D.nil Bool,D.nil Int)).snd;
 let c17:=D.not (kH c16.fst c16.snd);
 let c18:=D.add x (1:Int);aAP cs x→(D.lt x c1=true→D.ile (0:Int) x∧D.ilt x c1∧True∧(c17=true→false=c15∧True)∧(c17=false→inR
 IntKind.i64 c18∧∃ y,aAP cs y∧(c14=c14∧c18=y∧True)∧D.nlt (D.nat (D.sub c1 y)) (D.nat (D.sub c1 x))))∧(D.lt x c1=false→(∃ x,aAI fs x
 ∧ c14=c14∧(0:Int)=x∧True)∧∀ (x:Int),
 let c19:=D.gt (D.ilen (D.get fs (D.nat x) (ByteArray.mk (D.nil UInt8).toArray,(0:Int),(0:Int),(0:Int),(0:Int),(0:Int),D.nil
 ByteArray)).snd.snd.snd.snd.snd.snd) (30:Int);
 let c20:=D.add x (1:Int);aAI fs x→(D.lt x c8=true→D.ile (0:Int) x∧D.ilt x c8∧(c19=true→false=c15∧True)∧(c19=false→inR
 IntKind.i64 c20∧∃ y,aAI fs y∧(c14=c14∧c20=y∧True)∧D.nlt (D.nat (D.sub c8 y)) (D.nat (D.sub c8 x))))∧(D.lt x c8=false→(∃ x,xM c14
 x∧c14=c14∧(1:Int)=x∧True)∧∀ (x:Int),
 let c21:=D.le x (5:Int);
 let c22:=D.ilen (aO c14 x);
 let c23:=D.add x (1:Int);xM c14 x→(c21=true→kQ c14=true∧(∃ x_5,aDq (aO c14 x) x_5∧c14=c14∧x=x∧aO c14 x=aO c14
 x∧(0:Int)=x_5∧True)∧∀ (x_5:Int),
 let c24:=D.gt (D.slen (D.get (aO c14 x) (D.nat x_5) (ByteArray.mk (D.nil UInt8).toArray))) (40:Int);
 let c25:=D.add x_5 (1:Int);aDq (aO c14 x) x_5→(D.lt x_5 c22=true→D.ile (0:Int) x_5∧D.ilt x_5 c22∧(c24=true→false=c15∧True)∧(c24
 = false→inR IntKind.i64 c25∧∃ y,aDq (aO c14 x) y∧(c14=c14∧x=x∧aO c14 x=aO c14 x∧c25=y∧True)∧D.nlt (D.nat (D.sub c22 y))
 (D.nat (D.sub c22 x_5))))∧(D.lt x_5 c22=false→inR IntKind.i64 c23∧∃ y,xM c14 y∧(c14=c14∧c23=y∧True)∧D.nlt (D.nat (D.sub (6:Int) y))
 (D.nat (D.sub (6:Int) x))))∧(c21=false→true=c15∧True)))))) :
  evF (mkc aI7) (lvA [(4,[1,2,3,4,5,6,7]),(9,[1,2,4,5,6,7]),(14,[1,2,5,6,7]),(18,[1,2,5,6,7])] (aTw (cs,ns,os,fs,ls,ks))) 57 [.agg [.dat (.sl C) cs,.dat (.sl S) ns,.dat (.sl S) os,.dat (.sl Of) fs,.dat (.sl Ln) ls,.dat (.sl Kl) ks]] [] ⟨True,.dat .bool (qU (cs,ns,os,fs,ls,ks)),[]⟩:=@of_eq _ _ (by kernel_rfl) hvc
def aS5 (a b:List (List (List Int))):Ann:=⟨fun id st=>match id with
 | 4=>some { α:=Int,inv:=fun k=>aDc a b k,st:=fun k=>put st [(5,.dat I k)],μ:=fun k=>D.nat (D.sub (D.ilen a) k) }
 | _=>none,fun _ _=>none,fun _ _=>none⟩
theorem aMk (a b:List (List (List Int))) (hvc :
 let c1:=D.ilen a;
 let c2:=D.ilen b;
 let c3:=D.ne c1 c2;true=true∧(aGi a→(c3=true→false=aA4 a b∧True)∧(c3=false→(∃ x,aDc a b x∧a=a∧b=b∧(0:Int)=x ∧
 True)∧∀ (x:Int),
 let c4:=D.get a (D.nat x) (D.nil (List Int));
 let c5:=D.not (kJ c4 (D.get b (D.nat x) (D.nil (List Int))));
 let c6:=D.add x (1:Int);aDc a b x→(D.lt x c1=true→D.ile (0:Int) x∧D.ilt x c1∧D.ile (0:Int) x∧D.ilt x c2∧xB c4∧(c5=true→false
 = aA4 a b∧True)∧(c5=false→inR IntKind.i64 c6∧∃ y,aDc a b y∧(a=a∧b=b∧c6=y∧True)∧D.nlt (D.nat (D.sub c1 y)) (D.nat (D.sub c1
 x))))∧(D.lt x c1=false→true=aA4 a b∧True)))) :
  evF (mkc aI7) (lvA [(4,[0,1,4,5])] (aS5 a b)) 56 [.dat (.sl M) a,.dat (.sl M) b] [] ⟨aGi a,.dat .bool (aA4 a b),[]⟩:=@of_eq _ _ (by kernel_rfl) hvc
def K17:Kt:=kOr 57 (bD [.row N] (fun _=>True) fun (n,_)=>.dat .bool (qU n)) <|
 kOr 56 (bD [.val (.sl M),.val (.sl M)] (fun (a,_,_)=>aGi a) fun (a,b,_)=>.dat .bool (aA4 a b)) aI7
theorem aMm (p1 p2 q1 q2:Int) (p3 q3:List (List Int)) (p4 q4:List (List (List Int))) (hvc :
 let c1:=(p1,p2,p3,p4);
 let c2:=D.cnd (D.eq p1 q1) (D.eq p2 q2) false;
 let c3:=D.cnd c2 (kJ p3 q3) false;true=true∧(aDr c1→(D.eq p1 q1=true→D.eq p1 q1=true→D.eq p1 q1=true)∧(D.eq p1 q1=true→D.eq p1 q1
 = true→D.eq p1 q1=true)∧(D.eq p1 q1=true→D.eq p1 q1=true→D.eq p1 q1=true)∧(D.eq p1 q1=true→D.eq p1 q1=true→D.eq p1 q1=true) ∧
 (D.and true (D.eq p1 q1)=true→D.eq p1 q1=true)∧(c2=true→c2=true→c2=true)∧(c2=true→c2=true→c2=true)∧(c2=true→c2=true→c2
 = true)∧(c2=true→c2=true→c2=true)∧(c2=true→xB p3)∧(D.and true c2=true→c2=true)∧(c3=true→c3=true→c3=true)∧(c3=true →
 c3=true→c3=true)∧(c3=true→c3=true→c3=true)∧(c3=true→c3=true→c3=true)∧(c3=true→aGi p4)∧(D.and true c3=true→c3 =
 true)∧D.cnd c3 (aA4 p4 q4) false=aFY c1 (q1,q2,q3,q4)∧True)) :
  evF (mkc K17) bF 17 [.agg [.dat I p1,.dat I p2,.dat M p3,.dat (.sl M) p4],.agg [.dat I q1,.dat I q2,.dat M q3,.dat (.sl M) q4]] [] ⟨aDr (p1,p2,p3,p4),.dat .bool (aFY (p1,p2,p3,p4) (q1,q2,q3,q4)),[]⟩:=@of_eq _ _ (by kernel_rfl) hvc
def smA (nx:List (List Int)):Ann:=⟨fun id s=>match id with
 | 4=>some { α:=Int,inv:=fun k=>aTZ nx k,st:=fun k=>put s [(5,.dat I k)],μ:=fun k=>D.nat (D.sub (D.ilen nx) k) }
 | _=>none,fun _ _=>none,fun _ _=>none⟩
theorem aMn (nx:List (List Int)) (cs:List Cal) (ns os:List ByteArray) (fs:List Off) (ls:List Line) (ks:List Cla) (hvc :
 let c1:=(cs,ns,os,fs,ls,ks);
 let c2:=D.not (qU c1);
 let c3:=D.not c2;
 let c4:=D.cnd c2 true (D.gt (D.ilen fs) (6:Int));
 let c5:=D.not c4;
 let c6:=D.cnd c4 true (D.gt (D.ilen nx) (10:Int));
 let c7:=smF c1 nx;true=true∧(True→True∧(c3=true→c3=true→c3=true)∧(c3=true→c3=true→c3=true)∧(c3=true→c3=true→c3 =
 true)∧(D.and true c3=true→c3=true)∧(c5=true→c5=true→c5=true)∧(c5=true→c5=true→c5=true)∧(D.and true c5=true→c5=true) ∧
 (c6=true→false=c7∧True)∧(c6=false→(∃ x,aTZ nx x∧nx=nx∧(0:Int)=x∧True)∧∀ (x:Int),
 let c8:=D.lt x (D.ilen nx);
 let c9:=D.gt (D.ilen (D.get nx (D.nat x) (D.nil Int))) (10:Int);
 let c10:=D.add x (1:Int);aTZ nx x→(c8=true→D.ile (0:Int) x∧D.ilt x (D.ilen nx)∧(c9=true→false=c7∧True)∧(c9=false→inR IntKind.i64
 c10∧∃ y,aTZ nx y∧(nx=nx∧c10=y∧True)∧D.nlt (D.nat (D.sub (D.ilen nx) y)) (D.nat (D.sub (D.ilen nx) x))))∧(c8=false→true=c7∧True)))) :
  evF (mkc K17) (lvA [(4,[1,4,5])] (smA nx)) 20 [.agg [.dat (.sl C) cs,.dat (.sl S) ns,.dat (.sl S) os,.dat (.sl Of) fs,.dat (.sl Ln) ls,.dat (.sl Kl) ks],.dat M nx] [] ⟨True,.dat .bool (smF (cs,ns,os,fs,ls,ks) nx),[]⟩:=@of_eq _ _ (by kernel_rfl) hvc
def uZ:Kt:=kOr 17 (bD [.row Pl,.row Pl] (fun (p,_,_)=>aDr p) fun (p,q,_)=>.dat .bool (aFY p q)) <|
 kOr 20 (bD [.row N,.val M] (fun _=>True) fun (n,nx,_)=>.dat .bool (smF n nx)) K17
theorem aJy (s:Int) (l:List Int) (cs:List Cal) (ns os:List ByteArray) (fs:List Off) (ls:List Line) (ks:List Cla) (hvc :
 let c1:=(cs,ns,os,fs,ls,ks);
 let c2:=smF c1 (D.nil (List Int));true=true∧(True→True∧(c2=true→c2=true→c2=true)∧(c2=true→c2=true→c2=true)∧(c2=true→c2 =
 true→c2=true)∧(D.and true c2=true→c2=true)∧D.cnd c2 (D.le (D.ilen l) (3000:Int)) false=aHF c1 l∧True)) :
  evF (mkc uZ) bF 7 [.agg [.dat (.sl C) cs,.dat (.sl S) ns,.dat (.sl S) os,.dat (.sl Of) fs,.dat (.sl Ln) ls,.dat (.sl Kl) ks],.agg [.dat R l,.dat I s]] [] ⟨True,.dat .bool (aHF (cs,ns,os,fs,ls,ks) l),[]⟩:=@of_eq _ _ (by kernel_rfl) hvc
theorem aMt (l:List Int) (hvc :
 true=true∧(qA l→qA l∧1=1∧0=0∧1=1∧0=0∧l=l∧bZ l=bZ l∧True)) :
  evF (mkc uZ) bF 6 [.dat R l] [] ⟨qA l,.agg [.dat R l,.dat I (bZ l)],[]⟩:=@of_eq _ _ (by kernel_rfl) hvc
theorem sZ {α:Type} {l:List α} {p:α→Bool} {d:α} {k:Nat} (h:(l.take k).all p=true) (hk:k < l.length) (hp:p (l.getD k d)=true):(l.take (k + 1)).all p=true:=by
 rw [List.take_add_one,List.getElem?_eq_getElem hk,List.all_append,h]
 rw [List.getD_eq_getElem?_getD,List.getElem?_eq_getElem hk] at hp
 simpa using hp
theorem aB7 {α:Type} {l:List α} {p:α→Bool} {d:α} {k:Nat} (hk:k < l.length) (hp:p (l.getD k d)=false):l.all p=false:=by
 rw [List.getD_eq_getElem?_getD,List.getElem?_eq_getElem hk] at hp
 rw [List.all_eq_false]
 exact ⟨l[k],List.getElem_mem hk,by simpa using hp⟩
theorem aCI {α β:Type} (f:α→β) (l:List α) (i:Nat) (d:α) (d':β) (h:i < l.length):(l.map f).getD i d'=f (l.getD i d):=by
 rw [List.getD_eq_getElem?_getD,List.getElem?_map,List.getElem?_eq_getElem h,List.getD_eq_getElem?_getD,List.getElem?_eq_getElem h];rfl
theorem aDX {cs:List (Int×List Bool×List Int)} {ns:List ByteArray} {i:Int} (h0:0≤i) (h1:i < cs.length):aKB (oQ cs ns) i=ns.getD i.toNat ⟨#[]⟩:=by
 unfold aKB oQ
 rw [aCI (fun i=>ns.getD i ⟨#[]⟩) _ _ 0 _ (by rw [List.length_range];omega)]
 show ns.getD ((List.range cs.length).getD i.toNat 0) _=_
 rw [show (List.range cs.length).getD i.toNat 0=i.toNat by rw [List.getD_eq_getElem?_getD,List.getElem?_range (by omega)];rfl]
theorem aGb {α:Type} {f:α→ByteArray} {l:List α} {i:Int} (d:α) (h0:0≤i) (h1:i < l.length):aKB (l.map f) i=f (l.getD i.toNat d):=aCI _ _ _ _ _ (by omega)
theorem oP (cs:List (Int×List Bool×List Int)) (ns:List ByteArray):(oQ cs ns).length=cs.length:=by simp [oQ]
theorem jY {α β:Type} (f:α→β) (l:List α):(l.map f).length=l.length:=List.length_map f
theorem aMS (z:Int) (w:List Bool) (h:List Int):aC Tryz.prog fC 93 [.agg [.dat I z,.dat B w,.dat R h]] [] ⟨True,.dat .bool (kH w h),[]⟩:=by
 refine aA (c:=mkc aI9) aHT cO hm (aJp z w h ⟨rfl,fun _=>?_⟩)
 simp only [gQ,D.and,Bool.true_and,true_and,and_true,imp_self,implies_true,kH,D.le,D.ilen]
 congr 1 <;> congr 1 <;> exact propext (by omega)
theorem aLJ:aQ Tryz.prog fC aI8:=aJ (aG fun ((z,w,h),_)=>aMS z w h) aHT
theorem aDo {n:Net} {k i:Int} (h0:0≤i) (h1:i≤(aO n k).length):(aX n k i).length=i.toNat:=by
 unfold aX;rw [List.length_take];omega
theorem aCg {n:Net} {k i:Int} (h0:0≤i) (h1:i < (aO n k).length):aX n k (i + 1)=aX n k i ++ [(aO n k).getD i.toNat ⟨#[]⟩]:=by
 unfold aX
 rw [show (i + 1).toNat=i.toNat + 1 by omega,List.take_add_one,List.getD_eq_getElem?_getD,List.getElem?_eq_getElem (show i.toNat < (aO n k).length by omega)]
 rfl
theorem aDp {n:Net} {k i:Int} (h1:i≤(aO n k).length) (h2:¬ i < (aO n k).length):aX n k i=aO n k:=by
 unfold aX;exact List.take_of_length_le (by omega)
theorem wX {n:Net} {k:Int} {m:Nat} {el:Int→ByteArray} (hl:(aO n k).length=m) (hm:m≤100) (he:∀ x,0≤x→x < (m:Int)→(aO n k).getD x.toNat ⟨#[]⟩=el x) {R:List ByteArray} (hR:R=aO n k) :
  (∃ x,nU x (aO n k).length∧(aX n k x).length=0∧aX n k x=[]∧0=x∧aX n k x=[]) ∧
   ∀ (x:Int),nU x (aO n k).length →
    (x < (m:Int)→0≤x∧x < (m:Int)∧((aX n k x).length + [el x].length) * 16≤140737488355328∧(aX n k x).length + [el x].length≤9223372036854775807∧inR IntKind.i64 (x + 1) ∧
     ∃ y,nU y (aO n k).length∧((aX n k x).length + [el x].length=(aX n k y).length∧x + 1=y∧aX n k x ++ [el x]=aX n k y)∧(((aO n k).length:Int) - y).toNat < (((aO n k).length:Int) - x).toNat) ∧
    (¬x < (m:Int)→aX n k x=R):=by
 refine ⟨⟨0,⟨Int.le_refl _,Int.natCast_nonneg _⟩,rfl,rfl,rfl,rfl⟩,fun x ⟨h0,h1⟩=>⟨fun hlt=>?_,fun hge=>by rw [hR];exact aDp h1 (by omega)⟩⟩
 have e1:=aDo h0 h1
 have e2:=aCg h0 (show x < ((aO n k).length:Int) by omega)
 rw [he x h0 hlt] at e2
 refine ⟨h0,hlt,by simp only [List.length_singleton];omega,by simp only [List.length_singleton];omega,⟨by omega,by omega⟩,x + 1,⟨by omega,by omega⟩,⟨by rw [e2,List.length_append],rfl,e2.symm⟩,by omega⟩
theorem zF (cs:List Cal) (ns os:List ByteArray) (fs:List Off) (ls:List Line) (ks:List Cla) (hp:kQ (cs,ns,os,fs,ls,ks)=true):cs.length≤10∧ns.length≤10∧os.length≤10∧fs.length≤16∧ls.length≤50∧ks.length≤8:=of_decide_eq_true hp
theorem aQb (k:Int) (cs:List Cal) (ns os:List ByteArray) (fs:List Off) (ls:List Line) (ks:List Cla):aC Tryz.prog fC 94 [.agg [.dat (.sl C) cs,.dat (.sl S) ns,.dat (.sl S) os,.dat (.sl Of) fs,.dat (.sl Ln) ls,.dat (.sl Kl) ks],.dat I k] [] ⟨kQ (cs,ns,os,fs,ls,ks)=true,.dat (.sl S) (aO (cs,ns,os,fs,ls,ks) k),[]⟩:=by
 refine aA (c:=mkc aI8) aLJ cO hm (aMs k cs ns os fs ls ks ⟨rfl,fun hp=>?_⟩)
 obtain ⟨l1,l2,l3,l4,l5,l6⟩:=zF cs ns os fs ls ks hp
 simp only [eq_self,true_and,and_true,D.nil,D.eq,D.lt,D.ilen,D.ile,D.ilt,D.nle,D.nlt,D.sub,D.add,D.nat,D.len,D.fE,D.nI,D.get,D.app,decide_eq_true_eq,decide_eq_false_iff_not,beq_iff_eq,beq_eq_false_iff_ne]
 refine ⟨fun hk=>?_,fun h1=>⟨fun hk=>?_,fun h2=>⟨fun hk=>?_,fun h3=>⟨fun hk=>?_,fun h4=>⟨fun hk=>?_,fun h5=>?_⟩⟩⟩⟩⟩
 ·subst hk
  have hl:(aO (cs,ns,os,fs,ls,ks) 1).length=cs.length:=oP cs ns
  obtain ⟨b1,b2⟩:=wX (n:=(cs,ns,os,fs,ls,ks)) (k:=1) (el:=fun x=>ns.getD x.toNat ⟨#[]⟩) (R:=aO (cs,ns,os,fs,ls,ks) 1) hl (by omega) (fun x h0 h1=>aDX h0 h1) rfl
  refine ⟨b1,fun x hx=>⟨fun hlt=>⟨fun hn=>⟨hx.1,hn,((b2 x hx).1 hlt).2.2⟩,fun hn=>?_⟩,(b2 x hx).2⟩⟩
  have e:ns.getD x.toNat ⟨#[]⟩=⟨#[]⟩:=by rw [List.getD_eq_getElem?_getD,List.getElem?_eq_none (by have:=hx.1;omega)];rfl
  have:=((b2 x hx).1 hlt).2.2
  simp only [e] at this
  exact this
 ·subst hk
  exact wX (n:=(cs,ns,os,fs,ls,ks)) (k:=2) (m:=os.length) (el:=fun x=>os.getD x.toNat ⟨#[]⟩) rfl (by omega) (fun x _ _=>rfl) rfl
 ·subst hk
  exact wX (n:=(cs,ns,os,fs,ls,ks)) (k:=3) (m:=fs.length) (el:=fun x=>(fs.getD x.toNat (⟨#[]⟩,0,0,0,0,0,[])).1) (jY _ fs) (by omega) (fun x h0 h1=>aGb _ h0 h1) rfl
 ·subst hk
  exact wX (n:=(cs,ns,os,fs,ls,ks)) (k:=4) (m:=ls.length) (el:=fun x=>(ls.getD x.toNat (⟨#[]⟩,0,0,0,0,0)).1) (jY _ ls) (by omega) (fun x h0 h1=>aGb _ h0 h1) rfl
 ·subst hk
  exact wX (n:=(cs,ns,os,fs,ls,ks)) (k:=5) (m:=ks.length) (el:=fun x=>(ks.getD x.toNat (⟨#[]⟩,0,0)).1) (jY _ ks) (by omega) (fun x h0 h1=>aGb _ h0 h1) rfl
 ·unfold aO
  rw [if_neg h1,if_neg h2,if_neg h3,if_neg h4,if_neg h5]
theorem nP {α:Type} {a b:List α} {k:Nat} {d:α} (h:a.take k=b.take k) (ha:k < a.length) (hb:k < b.length) (he:a.getD k d=b.getD k d):a.take (k + 1)=b.take (k + 1):=by
 rw [List.getD_eq_getElem?_getD,List.getD_eq_getElem?_getD,List.getElem?_eq_getElem ha,List.getElem?_eq_getElem hb] at he
 have he':a[k]=b[k]:=he
 rw [List.take_add_one,List.take_add_one,List.getElem?_eq_getElem ha,List.getElem?_eq_getElem hb,h,he']
theorem yL {a b:List (List Int)} (h:a≠b):false=kJ a b:=by unfold kJ;exact (beq_eq_false_iff_ne.2 h).symm
theorem aP5 (a b:List (List Int)):aC Tryz.prog fC 55 [.dat M a,.dat M b] [] ⟨xB a,.dat .bool (kJ a b),[]⟩:=by
 refine aA (c:=mkc aI8) aLJ cO hm (aMl a b ⟨rfl,fun ⟨hp,hp2⟩=>?_⟩)
 simp only [eq_self,true_and,and_true,exists_eq_right',D.nil,D.ne,D.lt,D.ilen,D.ile,D.ilt,D.nlt,D.sub,D.add,D.nat,D.get,decide_eq_true_eq,decide_eq_false_iff_not,bne_iff_ne,bne_eq_false_iff_eq]
 refine ⟨fun h=>yL fun e=>h (by rw [e]),fun h=>⟨⟨Int.le_refl _,Int.natCast_nonneg _,by omega,hp,rfl⟩,fun x ⟨g0,g1,g2,g3,g4⟩=>⟨fun hlt=>⟨g0,hlt,g0,by omega,fun hd=>yL fun e=>hd (by rw [e]),fun hd=>?_⟩,fun hge=>?_⟩⟩⟩
 ·have hm2:=hp2 _ (aW (l:=a) (i:=x.toNat) (d:=[]) (by omega))
  refine ⟨⟨Int.le_refl _,Int.natCast_nonneg _,by omega,hm2,rfl⟩,fun z ⟨f0,f1,f2,f3,f4⟩=>⟨g0,hlt,fun hz=>⟨g0,hlt,f0,hz,g0,by omega,f0,by omega,fun hd=>yL fun e=>hd (by rw [e]),fun he=>⟨⟨by omega,by omega⟩,z + 1,⟨by omega,by omega,f2,f3,?_⟩,rfl,by omega⟩⟩,fun hz=>⟨⟨by omega,by omega⟩,x + 1,⟨by omega,by omega,g2,g3,?_⟩,rfl,by omega⟩⟩⟩
  ·rw [show (z + 1).toNat=z.toNat + 1 by omega]
   exact nP f4 (by omega) (by omega) he
  ·rw [show (x + 1).toNat=x.toNat + 1 by omega]
   refine nP (d:=[]) g4 (by omega) (by omega) ?_
   rw [List.take_of_length_le (by omega),List.take_of_length_le (by omega)] at f4
   exact f4
 ·rw [List.take_of_length_le (by omega),List.take_of_length_le (by omega)] at g4
  subst g4
  unfold kJ;simp
theorem aLI:aQ Tryz.prog fC aI7:=aJ (aG fun ((cs,ns,os,fs,ls,ks),k,_)=>aQb k cs ns os fs ls ks) <| aJ (aG fun (a,b,_)=>aP5 a b) aLJ
theorem aTl {n:Net} (q:kQ n=true) (k:Int):(aO n k).length≤100:=by
 obtain ⟨cs,ns,os,fs,ls,ks⟩:=n
 obtain ⟨l1,l2,l3,l4,l5,l6⟩:=zF cs ns os fs ls ks q
 unfold aO
 split
 ·exact Nat.le_trans (Nat.le_of_eq (oP cs ns)) (by omega)
 split
 ·show os.length≤100;omega
 split
 ·exact Nat.le_trans (Nat.le_of_eq (jY _ fs)) (by omega)
 split
 ·exact Nat.le_trans (Nat.le_of_eq (jY _ ls)) (by omega)
 split
 ·exact Nat.le_trans (Nat.le_of_eq (jY _ ks)) (by omega)
 ·exact Nat.zero_le _
theorem aAL {n:Net} (h:qU n=true→False):false=qU n:=by
 cases e:qU n with
 | false=>rfl
 | true=>exact (h e).elim
theorem lX {n:Net}:qU n=true↔kQ n=true∧(n.1.all fun c=>kH c.2.1 c.2.2)=true∧(n.2.2.2.1.all fun o=>decide (o.2.2.2.2.2.2.length≤30))=true∧∀ j:Int,1≤j→j < 6→lC (aO n j)=true:=by
 unfold qU
 simp only [Bool.and_eq_true,and_assoc]
 constructor
 ·rintro ⟨h1,h2,h3,h4,h5,h6,h7,h8⟩
  refine ⟨h1,h2,h3,fun j j1 j2=>?_⟩
  have hc:j=1∨j=2∨j=3∨j=4∨j=5:=by omega
  rcases hc with rfl | rfl | rfl | rfl | rfl <;> assumption
 ·rintro ⟨h1,h2,h3,h4⟩
  exact ⟨h1,h2,h3,h4 1 (by decide) (by decide),h4 2 (by decide) (by decide),h4 3 (by decide) (by decide),h4 4 (by decide) (by decide),h4 5 (by decide) (by decide)⟩
theorem aU3 (cs:List Cal) (ns os:List ByteArray) (fs:List Off) (ls:List Line) (ks:List Cla):aC Tryz.prog fC 57 [.agg [.dat (.sl C) cs,.dat (.sl S) ns,.dat (.sl S) os,.dat (.sl Of) fs,.dat (.sl Ln) ls,.dat (.sl Kl) ks]] [] ⟨True,.dat .bool (qU (cs,ns,os,fs,ls,ks)),[]⟩:=by
 refine aA (c:=mkc aI7) aLI cO hm (aSw cs ns os fs ls ks ⟨rfl,fun hp=>?_⟩)
 simp only [qI,D.and,D.not,Bool.true_and,eq_self,true_and,and_true,imp_self,implies_true,Bool.not_eq_true',Bool.or_eq_true,Bool.or_eq_false_iff,Bool.not_eq_false',exists_eq_right',D.nil,D.lt,D.gt,D.le,D.ilen,D.slen,D.ile,D.ilt,D.nlt,D.sub,D.add,D.nat,D.get,decide_eq_true_eq,decide_eq_false_iff_not]
 refine ⟨fun h=>aAL fun g=>?_,fun h=>?_⟩
 ·obtain ⟨l1,l2,l3,l4,l5,l6⟩:=zF cs ns os fs ls ks (lX.1 g).1
  omega
 have hl:kQ (cs,ns,os,fs,ls,ks)=true:=decide_eq_true (by show cs.length≤10∧ns.length≤10∧os.length≤10∧fs.length≤16∧ls.length≤50∧ks.length≤8;omega)
 refine ⟨⟨Int.le_refl _,Int.natCast_nonneg _,by simp⟩,fun x ⟨x0,x1,x2⟩=>⟨fun hlt=>⟨x0,hlt,fun hb=>aAL fun g=>?_,fun hg=>⟨⟨by omega,by omega⟩,x + 1,⟨by omega,by omega,?_⟩,rfl,by omega⟩⟩,fun hge=>?_⟩⟩
 ·have:=aB7 (l:=cs) (p:=fun c=>kH c.2.1 c.2.2) (d:=(0,[],[])) (k:=x.toNat) (by omega) hb
  rw [(lX.1 g).2.1] at this;cases this
 ·rw [show (x + 1).toNat=x.toNat + 1 by omega]
  exact sZ (d:=(0,[],[])) x2 (by omega) hg
 have hcs:(cs.all fun c=>kH c.2.1 c.2.2)=true:=by rwa [List.take_of_length_le (by omega)] at x2
 refine ⟨⟨Int.le_refl _,Int.natCast_nonneg _,by simp⟩,fun z ⟨z0,z1,z2⟩=>⟨fun hlt=>⟨z0,hlt,fun hb=>aAL fun g=>?_,fun hg=>⟨⟨by omega,by omega⟩,z + 1,⟨by omega,by omega,?_⟩,rfl,by omega⟩⟩,fun hge=>?_⟩⟩
 ·have:=aB7 (l:=fs) (p:=fun o=>decide (o.2.2.2.2.2.2.length≤30)) (d:=(⟨#[]⟩,0,0,0,0,0,[])) (k:=z.toNat) (by omega) (decide_eq_false (by omega))
  rw [(lX.1 g).2.2.1] at this;cases this
 ·rw [show (z + 1).toNat=z.toNat + 1 by omega]
  exact sZ (d:=(⟨#[]⟩,0,0,0,0,0,[])) z2 (by omega) (decide_eq_true (by omega))
 have hfs:(fs.all fun o=>decide (o.2.2.2.2.2.2.length≤30))=true:=by rwa [List.take_of_length_le (by omega)] at z2
 refine ⟨⟨Int.le_refl _,by decide,fun j h1 h2=>by omega⟩,fun k ⟨k0,k1,k2⟩=>⟨fun hk=>?_,fun hk=>?_⟩⟩
 ·have hlen:(aO (cs,ns,os,fs,ls,ks) k).length≤100:=aTl hl k
  refine ⟨hl,⟨Int.le_refl _,Int.natCast_nonneg _,by simp [lC]⟩,fun i ⟨i0,i1,i2⟩=>⟨fun hlt=>⟨i0,hlt,fun hb=>aAL fun g=>?_,fun hg=>⟨⟨by omega,by omega⟩,i + 1,⟨by omega,by omega,?_⟩,rfl,by omega⟩⟩,fun hge=>⟨⟨by omega,by omega⟩,k + 1,⟨by omega,by omega,fun j h1 h2=>?_⟩,rfl,by omega⟩⟩⟩
  ·have:=aB7 (l:=aO (cs,ns,os,fs,ls,ks) k) (p:=fun s=>decide (s.size≤40)) (d:=⟨#[]⟩) (k:=i.toNat) (by omega) (decide_eq_false (by omega))
   have h2:=(lX.1 g).2.2.2 k k0 (by omega)
   unfold lC at h2
   rw [h2] at this;cases this
  ·rw [show (i + 1).toNat=i.toNat + 1 by omega]
   exact sZ (d:=⟨#[]⟩) i2 (by omega) (decide_eq_true (by omega))
  ·by_cases e:j=k
   ·subst e
    rwa [List.take_of_length_le (by omega)] at i2
   ·exact k2 j h1 (by omega)
 ·exact (lX.2 ⟨hl,hcs,hfs,fun j h1 h2=>k2 j h1 (by omega)⟩).symm
theorem aG9 {a b:List (List (List Int))} (h:a≠b):false=aA4 a b:=by unfold aA4;exact (beq_eq_false_iff_ne.2 h).symm
theorem aEs {a b:List (List Int)}:kJ a b=true↔a=b:=beq_iff_eq
theorem aP4 (a b:List (List (List Int))):aC Tryz.prog fC 56 [.dat (.sl M) a,.dat (.sl M) b] [] ⟨aGi a,.dat .bool (aA4 a b),[]⟩:=by
 refine aA (c:=mkc aI7) aLI cO hm (aMk a b ⟨rfl,fun hp=>?_⟩)
 simp only [D.not,eq_self,true_and,and_true,Bool.not_eq_true',Bool.not_eq_false',exists_eq_right',D.nil,D.ne,D.lt,D.ilen,D.ile,D.ilt,D.nlt,D.sub,D.add,D.nat,D.get,decide_eq_true_eq,decide_eq_false_iff_not,bne_iff_ne,bne_eq_false_iff_eq]
 obtain ⟨hp1,hp2⟩:=hp
 refine ⟨fun h=>aG9 fun e=>h (by rw [e]),fun h=>⟨⟨Int.le_refl _,Int.natCast_nonneg _,by omega,rfl⟩,fun x ⟨g0,g1,g2,g3⟩=>⟨fun hlt=>⟨g0,hlt,g0,by omega,hp2 _ (aW (by omega)),fun hd=>aG9 fun e=>?_,fun hd=>⟨aN (by omega),x + 1,⟨by omega,by omega,g2,?_⟩,rfl,by omega⟩⟩,fun hge=>?_⟩⟩⟩
 ·rw [e,aEs.2 rfl] at hd;cases hd
 ·rw [show (x + 1).toNat=x.toNat + 1 by omega]
  exact nP g3 (by omega) (by omega) (aEs.1 hd)
 ·rw [List.take_of_length_le (by omega),List.take_of_length_le (by omega)] at g3
  subst g3
  unfold aA4;simp
theorem aVK:aQ Tryz.prog fC K17:=aJ (aG fun ((cs,ns,os,fs,ls,ks),_)=>aU3 cs ns os fs ls ks) <| aJ (aG fun (a,b,_)=>aP4 a b) aLI
theorem aP6 (p q:Plan):aC Tryz.prog fC 17 [.agg [.dat I p.1,.dat I p.2.1,.dat M p.2.2.1,.dat (.sl M) p.2.2.2],.agg [.dat I q.1,.dat I q.2.1,.dat M q.2.2.1,.dat (.sl M) q.2.2.2]] [] ⟨aDr p,.dat .bool (aFY p q),[]⟩:=by
 obtain ⟨p1,p2,p3,p4⟩:=p
 obtain ⟨q1,q2,q3,q4⟩:=q
 refine aA (c:=mkc K17) aVK cO hm (aMm p1 p2 q1 q2 p3 q3 p4 q4 ⟨rfl,fun hp=>?_⟩)
 simp only [gQ,D.and,Bool.true_and,true_and,and_true,imp_self,implies_true,Bool.and_eq_true,D.eq,beq_iff_eq]
 refine ⟨fun _=>hp.1,fun _=>hp.2,?_⟩
 unfold aFY kJ aA4
 rw [Bool.eq_iff_iff]
 simp [and_assoc]
theorem aP7 (nx:List (List Int)) (cs:List Cal) (ns os:List ByteArray) (fs:List Off) (ls:List Line) (ks:List Cla):aC Tryz.prog fC 20 [.agg [.dat (.sl C) cs,.dat (.sl S) ns,.dat (.sl S) os,.dat (.sl Of) fs,.dat (.sl Ln) ls,.dat (.sl Kl) ks],.dat M nx] [] ⟨True,.dat .bool (smF (cs,ns,os,fs,ls,ks) nx),[]⟩:=by
 refine aA (c:=mkc K17) aVK cO hm (aMn nx cs ns os fs ls ks ⟨rfl,fun _=>?_⟩)
 simp only [qI,D.and,D.not,Bool.true_and,eq_self,true_and,and_true,imp_self,implies_true,Bool.not_eq_true',Bool.or_eq_true,Bool.or_eq_false_iff,Bool.not_eq_false',Bool.not_not,exists_eq_right',D.nil,D.lt,D.gt,D.ilen,D.ile,D.ilt,D.nlt,D.sub,D.add,D.nat,D.get,decide_eq_true_eq,decide_eq_false_iff_not]
 have e:smF (cs,ns,os,fs,ls,ks) nx=((qU (cs,ns,os,fs,ls,ks) && decide ((fs.length:Int)≤6)) && (decide ((nx.length:Int)≤10) && nx.all fun r=>decide ((r.length:Int)≤10))):=rfl
 refine ⟨fun h=>?_,fun ⟨⟨h1,h2⟩,h3⟩=>⟨⟨Int.le_refl _,Int.natCast_nonneg _,by omega,fun i h=>by omega⟩,fun x hx=>⟨fun hlt=>⟨hx.1,hlt,fun hb=>?_,fun hb=>⟨aN (by have:=hx.1;omega),x + 1,⟨by have:=hx.1;omega,by omega,hx.2.2.1,fun i hi=>?_⟩,rfl,by have:=hx.1;omega⟩⟩,fun hge=>?_⟩⟩⟩
 ·rw [e]
  rcases h with (h | h) | h
  ·rw [h];rfl
  ·rw [decide_eq_false (by omega),Bool.and_false];rfl
  ·rw [decide_eq_false (p:=(nx.length:Int)≤10) (by omega),Bool.false_and,Bool.and_false]
 ·rw [e]
  have:(nx.all fun r=>decide ((r.length:Int)≤10))=false:=by
   refine List.all_eq_false.2 ⟨nx.getD x.toNat [],?_,by simp only [decide_eq_true_eq];omega⟩
   rw [List.getD_eq_getElem?_getD,List.getElem?_eq_getElem (by have:=hx.1;omega),Option.getD_some];exact List.getElem_mem _
  rw [this,Bool.and_false,Bool.and_false]
 ·by_cases h:(i:Int) < x
  ·exact hx.2.2.2 i h
  ·have:i=x.toNat:=by have:=hx.1;omega
   rw [this];omega
 ·rw [e,h1,decide_eq_true (by omega),decide_eq_true (p:=(nx.length:Int)≤10) (by omega)]
  refine (List.all_eq_true.2 fun r hr=>?_).symm
  obtain ⟨i,hi,rfl⟩:=List.mem_iff_getElem.1 hr
  have:=hx.2.2.2 i (by omega)
  rw [List.getD_eq_getElem?_getD,List.getElem?_eq_getElem hi,Option.getD_some] at this
  simp only [decide_eq_true_eq];omega
theorem aPl:aQ Tryz.prog fC uZ:=aJ (aG fun (p,q,_)=>aP6 p q) <| aJ (aG fun ((cs,ns,os,fs,ls,ks),nx,_)=>aP7 nx cs ns os fs ls ks) aVK
theorem aMV (s:Int) (l:List Int) (cs:List Cal) (ns os:List ByteArray) (fs:List Off) (ls:List Line) (ks:List Cla):aC Tryz.prog fC 7 [.agg [.dat (.sl C) cs,.dat (.sl S) ns,.dat (.sl S) os,.dat (.sl Of) fs,.dat (.sl Ln) ls,.dat (.sl Kl) ks],.agg [.dat R l,.dat I s]] [] ⟨True,.dat .bool (aHF (cs,ns,os,fs,ls,ks) l),[]⟩:=by
 refine aA (c:=mkc uZ) aPl cO hm (aJy s l cs ns os fs ls ks ⟨rfl,fun hp=>?_⟩)
 simp only [gQ,D.and,Bool.true_and,true_and,and_true,imp_self,implies_true,D.nil,D.le,D.ilen]
 rfl
theorem aQc (l:List Int):aC Tryz.prog fC 6 [.dat R l] [] ⟨qA l,.agg [.dat R l,.dat I (bZ l)],[]⟩:=by
 refine aA (c:=mkc uZ) aPl cO hm (aMt l ⟨rfl,fun hp=>?_⟩)
 simp only [eq_self,and_true]
 exact hp
end Go.Eng.In
