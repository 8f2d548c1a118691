/- PeSvKk, PeSvSk -/
import Derived.Test.YtlobbofhlcjlmaaGreatDoorH22
import Derived.Test.YtlobbofhlcjlmaaGreatDoorSv4k
set_option linter.unusedSimpArgs false
set_option linter.unusedVariables false
set_option maxRecDepth 100000
namespace Go.Eng.Sv
open Go.Proofs
theorem aND {n:Net} (h:¬ (((jU n).length:Nat):Int) > 0):noF n=true:=aBr.2 (List.eq_nil_of_length_eq_zero (by omega))
theorem aKA {n:Net} (h:(((jU n).length:Nat):Int) > 0):noF n=false:=by
 cases e:noF n with
 | false=>rfl
 | true=>rw [aBr.1 e] at h;simp at h
theorem aHg:(D.aIj 144 (0:Int)).length=144:=List.length_replicate
theorem aEz (ls:List Line):(dM ls).length=144:=zA ls _
theorem aAc (m:Int) (ls:List Line):dK m ls 0=[]:=rfl
theorem aF4 (m:Int) (ls:List Line) (k:Int):(dK m ls k).length≤k.toNat:=by
 unfold dK
 exact Nat.le_trans (List.length_filterMap_le _ _) (by rw [List.length_range];exact Nat.le_refl _)
theorem aF3 {m:Int} {ls:List Line} {k:Int} (h0:0≤k) (h:aCC m.toNat ls k.toNat=true):dK m ls (k + 1)=dK m ls k ++ [(3,k,111)]:=by
 unfold dK
 rw [show (k + 1).toNat=k.toNat + 1 by omega,List.range_succ,List.filterMap_append]
 simp [Int.toNat_of_nonneg h0,h]
theorem aIn {m:Int} {ls:List Line} {k:Int} (h:aCC m.toNat ls k.toNat=false) (h0:0≤k):dK m ls (k + 1)=dK m ls k:=by
 unfold dK
 rw [show (k + 1).toNat=k.toNat + 1 by omega,List.range_succ,List.filterMap_append]
 simp [h]
theorem aIo {m:Int} {ls:List Line} {a b:Int} (a0:0≤a) (a1:a < m) (h:(dM ls).getD (a.toNat * 12 + b.toNat) 0=-1):aCC m.toNat ls b.toNat=true :=
 List.any_eq_true.2 ⟨a.toNat,List.mem_range.2 (by omega),decide_eq_true h⟩
theorem aGh {m:Int} {ls:List Line} {a b:Int} (hm:aBt m ls b a) (a1:a < m) (h:(dM ls).getD (a.toNat * 12 + b.toNat) 0≠-1):aBt m ls b (a + 1):=by
 obtain ⟨h0,h1,h2⟩:=hm
 refine ⟨by omega,by omega,?_⟩
 rw [show (a + 1).toNat=a.toNat + 1 by omega,List.range_succ,List.all_append,h2]
 simp only [List.all_cons,List.all_nil,Bool.and_true,Bool.true_and]
 exact decide_eq_true h
theorem aIw {m:Int} {ls:List Line} {a b:Int} (hm:aBt m ls b a) (a1:¬ a < m):aCC m.toNat ls b.toNat=false:=by
 obtain ⟨h0,h1,h2⟩:=hm
 have:a=m:=by omega
 subst this
 unfold aCC
 rw [List.any_eq_false]
 intro x hx
 have:=List.all_eq_true.1 h2 x hx
 simpa using this
theorem aQh (cs:LC) (ns os:LB) (fs:List Off) (ls:List Line) (ks:List Cla):aC Tryz.prog G0 50 [net cs ns os fs ls ks] [] ⟨True,.dat (.sl Fa) (oO (cs,ns,os,fs,ls,ks)),[]⟩:=by
 refine aA (c:=mkc K14) aV2 cO hm (aMC cs ns os fs ls ks ⟨rfl,fun _=>?_⟩)
 simp only [eq_self,true_and,and_true,exists_eq_right',Int.toNat_natCast,Nat.zero_add,Nat.mul_one,Int.ofNat_eq_natCast,D.eq,D.lt,D.gt,D.ilen,D.ile,D.ilt,D.nle,D.nlt,D.sub,D.add,D.nat,D.ofN,D.len,D.fE,D.nI,D.get,D.app,D.at2,decide_eq_true_eq,decide_eq_false_iff_not,beq_iff_eq,beq_eq_false_iff_ne]
 refine ⟨fun h=>by unfold oO;rw [aKA h];rfl,fun h=>?_⟩
 have hno:=aND h
 have hf:=aBr.1 hno
 obtain ⟨ok,hls⟩:=aHs cs ns os fs ls ks hno
 have hn:=ok.n12
 have e1:=aEz ls
 refine ⟨hno,aHg,aHg,e1,⟨0,⟨Int.le_refl _,Int.natCast_nonneg _⟩,by rw [hf,aAc],rfl,by rw [hf,aAc]⟩,fun b ⟨b0,b1⟩=>⟨fun hb=>⟨⟨Int.le_refl _,Int.natCast_nonneg _,by simp⟩,fun a ha=>⟨fun hlt=>?_,fun hge=>?_⟩⟩,fun hb=>?_⟩⟩
 ·have a0:=ha.1
  have hl:=aF4 (fs.length:Int) ls b
  and_intros
  all_goals try (intros;omega)
  ·intro he
   have e2:=aF3 b0 (aIo a0 hlt he)
   exact ⟨by simp only [List.length_singleton];omega,by simp only [List.length_singleton];omega,⟨by omega,by omega⟩,b + 1,⟨by omega,by omega⟩,⟨by rw [e2,List.length_append],rfl,e2.symm⟩,by omega⟩
  ·intro hne
   exact ⟨⟨by omega,by omega⟩,a + 1,aGh ha hlt hne,rfl,by omega⟩
 ·have e2:=aIn (aIw ha hge) b0
  exact ⟨⟨by omega,by omega⟩,b + 1,⟨by omega,by omega⟩,⟨by rw [e2],rfl,e2.symm⟩,by omega⟩
 ·have:b=fs.length:=by omega
  subst this
  unfold oO;rw [hno];rfl
theorem yF:∀ (rs:List Line) (row:List Int),(rs.foldl lQ row).length=row.length
 | [],_=>rfl
 | l :: rs,row=>by rw [List.foldl_cons,yF rs,qN]
theorem aCY (ls:List Line) (m a:Nat):∀ r,(bfN ls m a r).length=m
 | 0=>by show (yE m a).length=m;simp [yE]
 | r + 1=>by rw [aD3];unfold aD2;rw [yF,aCY ls m a r]
theorem aLt {m:Nat} {ls:List Line} (ok:fV m ls) {row:List Int} (hr:row.length=m) {l:Line} (hl:l ∈ ls) {K:Int} (h:∀ b,at1 row b≤K):∀ b,at1 (lQ row l) b≤K + 5000:=by
 intro b
 have o:=ok.at_ l hl
 rw [yD (by rw [hr];omega)]
 have h1:=h b
 have h2:=h (dQ l).toNat
 split <;> omega
theorem aFA {m:Nat} {ls:List Line} (ok:fV m ls):∀ (rs:List Line) (row:List Int) (K:Int),(∀ l ∈ rs,l ∈ ls)→row.length=m→(∀ b,at1 row b≤K)→∀ b,at1 (rs.foldl lQ row) b≤K + 5000 * rs.length
 | [],_,_,_,_,h=>fun b=>by have:=h b;simpa using this
 | l :: rs,row,K,hs,hr,h=>fun b=>by
  have:=aFA ok rs (lQ row l) (K + 5000) (fun x hx=>hs x (by simp [hx])) (by rw [qN];exact hr) (aLt ok hr (hs l (by simp)) h) b
  rw [List.foldl_cons,List.length_cons]
  omega
theorem aTH {m:Nat} {ls:List Line} (ok:fV m ls) (hls:ls.length≤40) (a:Nat):∀ (r:Nat) b,at1 (bfN ls m a r) b≤200000 * r
 | 0,b=>by
  show at1 (yE m a) b≤_
  unfold at1 yE
  rw [List.getD_eq_getElem?_getD,List.getElem?_map]
  by_cases h:b < m
  ·rw [List.getElem?_range h]
   simp only [Option.map_some,Option.getD_some]
   split <;> omega
  ·rw [List.getElem?_eq_none (by rw [List.length_range];omega)]
   simp
 | r + 1,b=>by
  rw [aD3]
  have:=aFA ok ls (bfN ls m a r) (200000 * r) (fun _ h=>h) (aCY ls m a r) (aTH ok hls a r) b
  unfold aD2
  omega
theorem aWr:aQ Tryz.prog G0 K15 :=
 aJ (aG fun ((cs,ns,os,fs,ls,ks),_)=>aQh cs ns os fs ls ks) aV2
theorem any_congr {α:Type} {p q:α→Bool}:∀ {l:List α},(∀ x ∈ l,p x=q x)→l.any p=l.any q
 | [],_=>rfl
 | a :: l,h=>by rw [List.any_cons,List.any_cons,h a (by simp),any_congr fun x hx=>h x (by simp [hx])]
theorem aWq:aQ Tryz.prog G0 K16:=aWr
end Go.Eng.Sv

set_option maxRecDepth 100000
namespace Go.Eng.Sv
open Go.Proofs
theorem aOY {l:List ByteArray}:(∀ i:Int,0≤i→i < l.length→rule2 l i=0)↔l.Pairwise (fun a b=>a.toList≠b.toList):=by
 have key:∀ i:Nat,∀ h:i < l.length,rule2 l (i:Int)=0↔∀ j,∀ hj:j < i,(l[j]'(by omega)).toList≠l[i].toList:=by
  intro i hi
  unfold rule2 lK
  rw [Int.toNat_natCast,List.getD_eq_getElem?_getD,List.getElem?_eq_getElem hi,Option.getD_some]
  constructor
  ·intro h j hj e
   split at h
   ·cases h
   ·rename_i hn
    refine hn (List.any_eq_true.2 ⟨l[j]'(by omega),List.mem_iff_getElem.2 ⟨j,by rw [List.length_take];omega,by rw [List.getElem_take]⟩,?_⟩)
    rw [e];exact beq_self_eq_true _
  ·intro h
   rw [if_neg]
   intro hn
   obtain ⟨w,hw,he⟩:=List.any_eq_true.1 hn
   obtain ⟨j,hj,rfl⟩:=List.mem_iff_getElem.1 hw
   rw [List.length_take] at hj
   rw [List.getElem_take] at he
   exact h j (by omega) (beq_iff_eq.1 he)
 rw [List.pairwise_iff_getElem]
 constructor
 ·intro h i j hi hj hij
  exact (key j hj).1 (h j (by omega) (by omega)) i hij
 ·intro h i i0 i1
  have:=(key i.toNat (by omega)).2 fun j hj=>h j i.toNat (by omega) (by omega) hj
  rwa [Int.toNat_of_nonneg i0] at this
theorem aDy {kind lim:Int} {l:List ByteArray} {g:List Bool} (h0:0≤lim):dH kind lim l g=[]↔(l.length:Int)≤lim∧(∀ x ∈ l,fG x=true)∧l.Pairwise (fun a b=>a.toList≠b.toList)∧∀ i,i < l.length→g.getD i false=true:=by
 have nm:∀ i:Nat,∀ h:i < l.length,lK l (i:Int)=l[i]:=fun i hi=>by
  unfold lK;rw [Int.toNat_natCast,List.getD_eq_getElem?_getD,List.getElem?_eq_getElem hi,Option.getD_some]
 constructor
 ·intro h
  obtain ⟨h1,h2⟩:=aBD h0 h
  refine ⟨h1,fun x hx=>?_,aOY.1 fun i i0 i1=>(xU (h2 i i0 i1)).2.1,fun i hi=>?_⟩
  ·obtain ⟨i,hi,rfl⟩:=List.mem_iff_getElem.1 hx
   have:=(xU (h2 i (by omega) (by omega))).1
   unfold dJ at this
   rw [nm i hi] at this
   split at this
   ·assumption
   ·cases this
  ·have:=aCz (xU (h2 i (by omega) (by omega))).2.2
   rwa [Int.toNat_natCast] at this
 ·rintro ⟨h1,h2,h3,h4⟩
  unfold dH bH aIq
  rw [if_neg (by omega),List.append_nil,List.filterMap_eq_nil_iff]
  intro i hi
  have hi:=List.mem_range.1 hi
  have hlt:i < l.length:=by omega
  have e1:dJ l (i:Int)=0:=by unfold dJ;rw [nm i hlt,if_pos (h2 _ (List.getElem_mem hlt))]
  have e2:=aOY.2 h3 (i:Int) (by omega) (by omega)
  have e3:dR g (i:Int)=0:=by unfold dR;rw [Int.toNat_natCast,if_pos (h4 i hlt)]
  have:aHG l g (i:Int)=0:=by unfold aHG;rw [e1,e2,e3];rfl
  rw [if_pos this]
theorem qB {α:Type} {kind lim:Int} (h0:0≤lim) (nm:α→ByteArray) (good:α→Bool) (xs:List α):dH kind lim (xs.map nm) (xs.map good)=[] ↔
  (xs.length:Int)≤lim∧(∀ x ∈ xs,fG (nm x)=true)∧xs.Pairwise (fun a b=>(nm a).toList≠(nm b).toList)∧∀ x ∈ xs,good x=true:=by
 rw [aDy h0,List.length_map,List.pairwise_map]
 constructor
 ·rintro ⟨h1,h2,h3,h4⟩
  refine ⟨h1,fun x hx=>h2 _ (List.mem_map_of_mem hx),h3,fun x hx=>?_⟩
  obtain ⟨i,hi,rfl⟩:=List.mem_iff_getElem.1 hx
  have:=h4 i hi
  rwa [List.getD_eq_getElem?_getD,List.getElem?_map,List.getElem?_eq_getElem hi,Option.map_some,Option.getD_some] at this
 ·rintro ⟨h1,h2,h3,h4⟩
  refine ⟨h1,fun x hx=>?_,h3,fun i hi=>?_⟩
  ·obtain ⟨y,hy,rfl⟩:=List.mem_map.1 hx
   exact h2 y hy
  ·rw [List.getD_eq_getElem?_getD,List.getElem?_map,List.getElem?_eq_getElem hi,Option.map_some,Option.getD_some]
   exact h4 _ (List.getElem_mem hi)
theorem aBq (cs:LC) (ns os:LB) (fs:List Off) (ls:List Line) (ks:List Cla) (h:noF (cs,ns,os,fs,ls,ks)=true):(ls.length:Int)≤40∧(∀ x ∈ ls,fG x.1=true)∧ls.Pairwise (fun a b=>a.1.toList≠b.1.toList)∧∀ x ∈ ls,iI (cs,ns,os,fs,ls,ks) x=true :=
 (qB (by decide) (fun l:Line=>l.1) (iI (cs,ns,os,fs,ls,ks)) ls).1 (pX cs ns os fs ls ks h).2.2.2.2.1
theorem Walk.map {ls rs:List Line} (h:∀ l ∈ ls,∃ r ∈ rs,dQ r=dQ l∧lTo r=lTo l∧bP r≤bP l) {a b:Nat} {n:Int} (w:Walk ls a b n):∃ m,m≤n∧Walk rs a b m:=by
 induction w with
 | nil=>exact ⟨0,Int.le_refl _,.nil _⟩
 | snoc l hl _ ih =>
  obtain ⟨m,hm,g⟩:=ih
  obtain ⟨r,hr,e1,e2,e3⟩:=h l hl
  rw [← e1] at g
  exact ⟨m + bP r,by omega,e2 ▸ .snoc r hr g⟩
theorem Walk.ends {ls rs:List Line} (h:∀ l ∈ ls,∃ r ∈ rs,dQ r=dQ l∧lTo r=lTo l) {a b:Nat} {n:Int} (w:Walk ls a b n):∃ m,Walk rs a b m:=by
 induction w with
 | nil=>exact ⟨0,.nil _⟩
 | snoc l hl _ ih =>
  obtain ⟨m,g⟩:=ih
  obtain ⟨r,hr,e1,e2⟩:=h l hl
  rw [← e1] at g
  exact ⟨m + bP r,e2 ▸ .snoc r hr g⟩
end Go.Eng.Sv

set_option maxRecDepth 100000
namespace Go.Eng.Sv
open Go.Proofs
noncomputable def K18:Kt:=K16
noncomputable def K19:Kt:=K18
theorem aVJ:aQ Tryz.prog G0 K18:=aWq
theorem aDn (cs:LC) (ns os:LB) (fs:List Off) (ls:List Line) (ks:List Cla) (h:noF (cs,ns,os,fs,ls,ks)=true):(fs.length:Int)≤12∧(∀ x ∈ fs,fG x.1=true)∧fs.Pairwise (fun a b=>a.1.toList≠b.1.toList)∧∀ x ∈ fs,iV (cs,ns,os,fs,ls,ks) x=true :=
 (qB (by decide) (fun l:Off=>l.1) (iV (cs,ns,os,fs,ls,ks)) fs).1 (pX cs ns os fs ls ks h).2.2.2.1
theorem aVI:aQ Tryz.prog G0 K19:=aVJ
theorem aIV (cs:LC) (ns os:LB) (fs:List Off) (ls:List Line) (ks:List Cla):oO (cs,ns,os,fs,ls,ks)=[]↔noF (cs,ns,os,fs,ls,ks)=true∧dK fs.length ls fs.length=[]:=by
 unfold oO
 cases h:noF (cs,ns,os,fs,ls,ks) with
 | true=>exact ⟨fun g=>⟨rfl,g⟩,fun g=>g.2⟩
 | false =>
  constructor
  ·intro g
   have:noF (cs,ns,os,fs,ls,ks)=true:=aBr.2 g
   rw [h] at this;cases this
  ·intro g;cases g.1
end Go.Eng.Sv
