/- PeSvKj, PeSvSj -/
import Derived.Test.YtlobbofhlcjlmaaGreatDoorZ22
import Derived.Test.YtlobbofhlcjlmaaGreatDoorSv5j
set_option linter.unusedSimpArgs false
set_option linter.unusedVariables false
set_option maxRecDepth 100000
namespace Go.Eng.Sv
open Go.Proofs
theorem pw_iff {l:List ByteArray}:(∀ i:Int,0≤i→i < l.length→rule2 l i=0)↔l.Pairwise (fun a b=>a.toList≠b.toList):=by
 have key:∀ i:Nat,∀ h:i < l.length,rule2 l (i:Int)=0↔∀ j,∀ hj:j < i,(l[j]'(by omega)).toList≠l[i].toList:=by
  intro i hi
  unfold rule2 nmAt
  rw [Int.toNat_natCast,List.getD_eq_getElem?_getD,List.getElem?_eq_getElem hi,Option.getD_some]
  constructor
  ·intro h j hj e
   split at h
   ·cases h
   ·rename_i hn
    refine hn (List.any_eq_true.2 ⟨l[j]'(by omega),List.mem_iff_getElem.2 ⟨j,by rw [List.length_take];omega,by rw [List.getElem_take]⟩,?_⟩)
    rw [e];exact beq_self_eq_true _
  ·intro h
   rw [if_neg]
   intro hn
   obtain ⟨w,hw,he⟩:=List.any_eq_true.1 hn
   obtain ⟨j,hj,rfl⟩:=List.mem_iff_getElem.1 hw
   rw [List.length_take] at hj
   rw [List.getElem_take] at he
   exact h j (by omega) (beq_iff_eq.1 he)
 rw [List.pairwise_iff_getElem]
 constructor
 ·intro h i j hi hj hij
  exact (key j hj).1 (h j (by omega) (by omega)) i hij
 ·intro h i i0 i1
  have:=(key i.toNat (by omega)).2 fun j hj=>h j i.toNat (by omega) (by omega) hj
  rwa [Int.toNat_of_nonneg i0] at this
theorem kind_iff {kind lim:Int} {l:List ByteArray} {g:List Bool} (h0:0≤lim):kindF kind lim l g=[]↔(l.length:Int)≤lim∧(∀ x ∈ l,isNameF x=true)∧l.Pairwise (fun a b=>a.toList≠b.toList)∧∀ i,i < l.length→g.getD i false=true:=by
 have nm:∀ i:Nat,∀ h:i < l.length,nmAt l (i:Int)=l[i]:=fun i hi=>by
  unfold nmAt;rw [Int.toNat_natCast,List.getD_eq_getElem?_getD,List.getElem?_eq_getElem hi,Option.getD_some]
 constructor
 ·intro h
  obtain ⟨h1,h2⟩:=kindF_nil h0 h
  refine ⟨h1,fun x hx=>?_,pw_iff.1 fun i i0 i1=>(errF_zero (h2 i i0 i1)).2.1,fun i hi=>?_⟩
  ·obtain ⟨i,hi,rfl⟩:=List.mem_iff_getElem.1 hx
   have:=(errF_zero (h2 i (by omega) (by omega))).1
   unfold rule1 at this
   rw [nm i hi] at this
   split at this
   ·assumption
   ·cases this
  ·have:=rule3_zero (errF_zero (h2 i (by omega) (by omega))).2.2
   rwa [Int.toNat_natCast] at this
 ·rintro ⟨h1,h2,h3,h4⟩
  unfold kindF kindTo overF
  rw [if_neg (by omega),List.append_nil,List.filterMap_eq_nil_iff]
  intro i hi
  have hi:=List.mem_range.1 hi
  have hlt:i < l.length:=by omega
  have e1:rule1 l (i:Int)=0:=by unfold rule1;rw [nm i hlt,if_pos (h2 _ (List.getElem_mem hlt))]
  have e2:=pw_iff.2 h3 (i:Int) (by omega) (by omega)
  have e3:rule3 g (i:Int)=0:=by unfold rule3;rw [Int.toNat_natCast,if_pos (h4 i hlt)]
  have:errF l g (i:Int)=0:=by unfold errF;rw [e1,e2,e3];rfl
  rw [if_pos this]
theorem kindMap_iff {α:Type} {kind lim:Int} (h0:0≤lim) (nm:α→ByteArray) (good:α→Bool) (xs:List α):kindF kind lim (xs.map nm) (xs.map good)=[] ↔
  (xs.length:Int)≤lim∧(∀ x ∈ xs,isNameF (nm x)=true)∧xs.Pairwise (fun a b=>(nm a).toList≠(nm b).toList)∧∀ x ∈ xs,good x=true:=by
 rw [kind_iff h0,List.length_map,List.pairwise_map]
 constructor
 ·rintro ⟨h1,h2,h3,h4⟩
  refine ⟨h1,fun x hx=>h2 _ (List.mem_map_of_mem hx),h3,fun x hx=>?_⟩
  obtain ⟨i,hi,rfl⟩:=List.mem_iff_getElem.1 hx
  have:=h4 i hi
  rwa [List.getD_eq_getElem?_getD,List.getElem?_map,List.getElem?_eq_getElem hi,Option.map_some,Option.getD_some] at this
 ·rintro ⟨h1,h2,h3,h4⟩
  refine ⟨h1,fun x hx=>?_,h3,fun i hi=>?_⟩
  ·obtain ⟨y,hy,rfl⟩:=List.mem_map.1 hx
   exact h2 y hy
  ·rw [List.getD_eq_getElem?_getD,List.getElem?_map,List.getElem?_eq_getElem hi,Option.map_some,Option.getD_some]
   exact h4 _ (List.getElem_mem hi)
theorem noF_lines (cs:LC) (ns os:LB) (fs:List Off) (ls:List Line) (ks:List Cla) (h:noF (cs,ns,os,fs,ls,ks)=true):(ls.length:Int)≤40∧(∀ x ∈ ls,isNameF x.1=true)∧ls.Pairwise (fun a b=>a.1.toList≠b.1.toList)∧∀ x ∈ ls,goodLin (cs,ns,os,fs,ls,ks) x=true :=
 (kindMap_iff (by decide) (fun l:Line=>l.1) (goodLin (cs,ns,os,fs,ls,ks)) ls).1 (no_parts cs ns os fs ls ks h).2.2.2.2.1
theorem Walk.map {ls rs:List Line} (h:∀ l ∈ ls,∃ r ∈ rs,lFrom r=lFrom l∧lTo r=lTo l∧lTravel r≤lTravel l) {a b:Nat} {n:Int} (w:Walk ls a b n):∃ m,m≤n∧Walk rs a b m:=by
 induction w with
 | nil=>exact ⟨0,Int.le_refl _,.nil _⟩
 | snoc l hl _ ih =>
  obtain ⟨m,hm,g⟩:=ih
  obtain ⟨r,hr,e1,e2,e3⟩:=h l hl
  rw [← e1] at g
  exact ⟨m + lTravel r,by omega,e2 ▸ .snoc r hr g⟩
theorem Walk.ends {ls rs:List Line} (h:∀ l ∈ ls,∃ r ∈ rs,lFrom r=lFrom l∧lTo r=lTo l) {a b:Nat} {n:Int} (w:Walk ls a b n):∃ m,Walk rs a b m:=by
 induction w with
 | nil=>exact ⟨0,.nil _⟩
 | snoc l hl _ ih =>
  obtain ⟨m,g⟩:=ih
  obtain ⟨r,hr,e1,e2⟩:=h l hl
  rw [← e1] at g
  exact ⟨m + lTravel r,e2 ▸ .snoc r hr g⟩
end Go.Eng.Sv

set_option maxRecDepth 100000
namespace Go.Eng.Sv
open Go.Proofs
noncomputable def K18:Kt:=K16
theorem vc_sound (cs:LC) (ns os:LB) (fs:List Off) (ls:List Line) (ks:List Cla) (hvc :
 let c1:=(cs,ns,os,fs,ls,ks);true=true∧(fewC c1=true→fewC c1=true∧D.eq (D.ilen (checkF c1)) (0:Int)=soundF c1∧True)) :
  evF (mkc K18) noAnn 8 [net cs ns os fs ls ks] [] ⟨fewC (cs,ns,os,fs,ls,ks)=true,.dat .bool (soundF (cs,ns,os,fs,ls,ks)),[]⟩:=@of_eq _ _ (by kernel_rfl) hvc
noncomputable def K19:Kt:=kOr 8 (dataK [.row N] (fun (n,_)=>fewC n=true) fun (n,_)=>.dat .bool (soundF n)) K18
theorem KS18':KSound Tryz.prog G0 K18:=KS16
theorem noF_offs (cs:LC) (ns os:LB) (fs:List Off) (ls:List Line) (ks:List Cla) (h:noF (cs,ns,os,fs,ls,ks)=true):(fs.length:Int)≤12∧(∀ x ∈ fs,isNameF x.1=true)∧fs.Pairwise (fun a b=>a.1.toList≠b.1.toList)∧∀ x ∈ fs,goodOff (cs,ns,os,fs,ls,ks) x=true :=
 (kindMap_iff (by decide) (fun l:Off=>l.1) (goodOff (cs,ns,os,fs,ls,ks)) fs).1 (no_parts cs ns os fs ls ks h).2.2.2.1
theorem t_sound (cs:LC) (ns os:LB) (fs:List Off) (ls:List Line) (ks:List Cla):SoundC Tryz.prog G0 8 [net cs ns os fs ls ks] [] ⟨fewC (cs,ns,os,fs,ls,ks)=true,.dat .bool (soundF (cs,ns,os,fs,ls,ks)),[]⟩:=by
 refine sound_of_ev (c:=mkc K18) KS18' KI0s hm (vc_sound cs ns os fs ls ks ⟨rfl,fun hp=>?_⟩)
 simp only [and_true,D.eq,D.ilen]
 refine ⟨hp,?_⟩
 unfold soundF
 cases checkF (cs,ns,os,fs,ls,ks) with
 | nil=>rfl
 | cons a l =>
  show decide _=false
  rw [decide_eq_false_iff_not]
  show ¬ ((((a :: l).length:Nat):Int)=0)
  rw [List.length_cons];omega
theorem KS19:KSound Tryz.prog G0 K19:=kOr_ok (dataK_ok fun ((cs,ns,os,fs,ls,ks),_)=>t_sound cs ns os fs ls ks) KS18'
theorem checkF_nil (cs:LC) (ns os:LB) (fs:List Off) (ls:List Line) (ks:List Cla):checkF (cs,ns,os,fs,ls,ks)=[]↔noF (cs,ns,os,fs,ls,ks)=true∧reachTo fs.length ls fs.length=[]:=by
 unfold checkF
 cases h:noF (cs,ns,os,fs,ls,ks) with
 | true=>exact ⟨fun g=>⟨rfl,g⟩,fun g=>g.2⟩
 | false =>
  constructor
  ·intro g
   have:noF (cs,ns,os,fs,ls,ks)=true:=noF_iff.2 g
   rw [h] at this;cases this
  ·intro g;cases g.1
end Go.Eng.Sv
