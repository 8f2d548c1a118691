/- PeSv5j -/
import Derived.Test.YtlobbofhlcjlmaaGreatDoorZ22
import Derived.Test.YtlobbofhlcjlmaaGreatDoorSv4j
set_option linter.unusedSimpArgs false
set_option linter.unusedVariables false
set_option maxRecDepth 100000
namespace Go.Eng.Sv
open Go.Proofs
theorem noF_true {n:Net} (h:¬ (((faultsF n).length:Nat):Int) > 0):noF n=true:=noF_iff.2 (List.eq_nil_of_length_eq_zero (by omega))
theorem noF_false {n:Net} (h:(((faultsF n).length:Nat):Int) > 0):noF n=false:=by
 cases e:noF n with
 | false=>rfl
 | true=>rw [noF_iff.1 e] at h;simp at h
theorem reps_len:(D.reps 144 (0:Int)).length=144:=List.length_replicate
theorem relaxedD_len (ls:List Line):(relaxedD ls).length=144:=fwN_length ls _
theorem reachTo_zero (m:Int) (ls:List Line):reachTo m ls 0=[]:=rfl
theorem reachTo_len (m:Int) (ls:List Line) (k:Int):(reachTo m ls k).length≤k.toNat:=by
 unfold reachTo
 exact Nat.le_trans (List.length_filterMap_le _ _) (by rw [List.length_range];exact Nat.le_refl _)
theorem reachTo_yes {m:Int} {ls:List Line} {k:Int} (h0:0≤k) (h:reach1 m.toNat ls k.toNat=true):reachTo m ls (k + 1)=reachTo m ls k ++ [(3,k,111)]:=by
 unfold reachTo
 rw [show (k + 1).toNat=k.toNat + 1 by omega,List.range_succ,List.filterMap_append]
 simp [Int.toNat_of_nonneg h0,h]
theorem reachTo_no {m:Int} {ls:List Line} {k:Int} (h:reach1 m.toNat ls k.toNat=false) (h0:0≤k):reachTo m ls (k + 1)=reachTo m ls k:=by
 unfold reachTo
 rw [show (k + 1).toNat=k.toNat + 1 by omega,List.range_succ,List.filterMap_append]
 simp [h]
theorem reach1_yes {m:Int} {ls:List Line} {a b:Int} (a0:0≤a) (a1:a < m) (h:(relaxedD ls).getD (a.toNat * 12 + b.toNat) 0=-1):reach1 m.toNat ls b.toNat=true :=
 List.any_eq_true.2 ⟨a.toNat,List.mem_range.2 (by omega),decide_eq_true h⟩
theorem missTo_next {m:Int} {ls:List Line} {a b:Int} (hm:missTo m ls b a) (a1:a < m) (h:(relaxedD ls).getD (a.toNat * 12 + b.toNat) 0≠-1):missTo m ls b (a + 1):=by
 obtain ⟨h0,h1,h2⟩:=hm
 refine ⟨by omega,by omega,?_⟩
 rw [show (a + 1).toNat=a.toNat + 1 by omega,List.range_succ,List.all_append,h2]
 simp only [List.all_cons,List.all_nil,Bool.and_true,Bool.true_and]
 exact decide_eq_true h
theorem missTo_end {m:Int} {ls:List Line} {a b:Int} (hm:missTo m ls b a) (a1:¬ a < m):reach1 m.toNat ls b.toNat=false:=by
 obtain ⟨h0,h1,h2⟩:=hm
 have:a=m:=by omega
 subst this
 unfold reach1
 rw [List.any_eq_false]
 intro x hx
 have:=List.all_eq_true.1 h2 x hx
 simpa using this
theorem t_check (cs:LC) (ns os:LB) (fs:List Off) (ls:List Line) (ks:List Cla):SoundC Tryz.prog G0 50 [net cs ns os fs ls ks] [] ⟨True,.dat (.sl Fa) (checkF (cs,ns,os,fs,ls,ks)),[]⟩:=by
 refine sound_of_ev (c:=mkc K14) KS14 KI0s hm (vc_check cs ns os fs ls ks ⟨rfl,fun _=>?_⟩)
 simp only [eq_self,true_and,and_true,exists_eq_right',Int.toNat_natCast,Nat.zero_add,Nat.mul_one,Int.ofNat_eq_natCast,D.eq,D.lt,D.gt,D.ilen,D.ile,D.ilt,D.nle,D.nlt,D.sub,D.add,D.nat,D.ofN,D.len,D.nadd,D.nmul,D.get,D.app,D.at2,decide_eq_true_eq,decide_eq_false_iff_not,beq_iff_eq,beq_eq_false_iff_ne]
 refine ⟨fun h=>by unfold checkF;rw [noF_false h];rfl,fun h=>?_⟩
 have hno:=noF_true h
 have hf:=noF_iff.1 hno
 obtain ⟨ok,hls⟩:=lines_ok cs ns os fs ls ks hno
 have hn:=ok.n12
 have e1:=relaxedD_len ls
 refine ⟨hno,reps_len,reps_len,e1,⟨0,⟨Int.le_refl _,Int.natCast_nonneg _⟩,by rw [hf,reachTo_zero],rfl,by rw [hf,reachTo_zero]⟩,fun b ⟨b0,b1⟩=>⟨fun hb=>⟨⟨Int.le_refl _,Int.natCast_nonneg _,by simp⟩,fun a ha=>⟨fun hlt=>?_,fun hge=>?_⟩⟩,fun hb=>?_⟩⟩
 ·have a0:=ha.1
  have hl:=reachTo_len (fs.length:Int) ls b
  and_intros
  all_goals try (intros;omega)
  ·intro he
   have e2:=reachTo_yes b0 (reach1_yes a0 hlt he)
   exact ⟨by simp only [List.length_singleton];omega,by simp only [List.length_singleton];omega,⟨by omega,by omega⟩,b + 1,⟨by omega,by omega⟩,⟨by rw [e2,List.length_append],rfl,e2.symm⟩,by omega⟩
  ·intro hne
   exact ⟨⟨by omega,by omega⟩,a + 1,missTo_next ha hlt hne,rfl,by omega⟩
 ·have e2:=reachTo_no (missTo_end ha hge) b0
  exact ⟨⟨by omega,by omega⟩,b + 1,⟨by omega,by omega⟩,⟨by rw [e2],rfl,e2.symm⟩,by omega⟩
 ·have:b=fs.length:=by omega
  subst this
  unfold checkF;rw [hno];rfl
theorem rep_map {α:Type} (m:Nat) (x:α):List.replicate m x=(List.range m).map fun _=>x:=by
 apply List.ext_getElem?
 intro i
 rw [List.getElem?_replicate,List.getElem?_map]
 by_cases h:i < m
 ·rw [if_pos h,List.getElem?_range h];rfl
 ·rw [if_neg h,List.getElem?_eq_none (by rw [List.length_range];omega)];rfl
theorem set_map {α:Type} (f:Nat→α) (m i:Nat) (x:α):((List.range m).map f).set i x=(List.range m).map fun j=>if j=i then x else f j:=by
 apply List.ext_getElem?
 intro j
 rw [List.getElem?_set,List.getElem?_map,List.getElem?_map,List.length_map,List.length_range]
 by_cases h:j < m
 ·rw [List.getElem?_range h]
  by_cases e:i=j
  ·subst e;rw [if_pos rfl,if_pos h];simp
  ·rw [if_neg e]
   simp only [Option.map_some]
   rw [if_neg fun g:j=i=>e g.symm]
 ·rw [List.getElem?_eq_none (by rw [List.length_range];omega)]
  simp only [Option.map_none]
  split
  ·rw [if_neg (by omega)]
  ·rfl
theorem bfFold_length:∀ (rs:List Line) (row:List Int),(rs.foldl bfStep row).length=row.length
 | [],_=>rfl
 | l :: rs,row=>by rw [List.foldl_cons,bfFold_length rs,bfStep_length]
theorem bfN_length (ls:List Line) (m a:Nat):∀ r,(bfN ls m a r).length=m
 | 0=>by show (bfInit m a).length=m;simp [bfInit]
 | r + 1=>by rw [bfN_succ];unfold bfRound;rw [bfFold_length,bfN_length ls m a r]
theorem bfD_length (ls:List Line) (m:Nat) (a r i:Int):(bfD ls m a r i).length=m:=by
 unfold bfD;rw [bfFold_length,bfN_length,Int.toNat_natCast]
theorem bfStep_le {m:Nat} {ls:List Line} (ok:LinesOk m ls) {row:List Int} (hr:row.length=m) {l:Line} (hl:l ∈ ls) {K:Int} (h:∀ b,at1 row b≤K):∀ b,at1 (bfStep row l) b≤K + 5000:=by
 intro b
 have o:=ok.at_ l hl
 rw [bfStep_at (by rw [hr];omega)]
 have h1:=h b
 have h2:=h (lFrom l).toNat
 split <;> omega
theorem bfFold_le {m:Nat} {ls:List Line} (ok:LinesOk m ls):∀ (rs:List Line) (row:List Int) (K:Int),(∀ l ∈ rs,l ∈ ls)→row.length=m→(∀ b,at1 row b≤K)→∀ b,at1 (rs.foldl bfStep row) b≤K + 5000 * rs.length
 | [],_,_,_,_,h=>fun b=>by have:=h b;simpa using this
 | l :: rs,row,K,hs,hr,h=>fun b=>by
  have:=bfFold_le ok rs (bfStep row l) (K + 5000) (fun x hx=>hs x (by simp [hx])) (by rw [bfStep_length];exact hr) (bfStep_le ok hr (hs l (by simp)) h) b
  rw [List.foldl_cons,List.length_cons]
  omega
theorem bfN_le {m:Nat} {ls:List Line} (ok:LinesOk m ls) (hls:ls.length≤40) (a:Nat):∀ (r:Nat) b,at1 (bfN ls m a r) b≤200000 * r
 | 0,b=>by
  show at1 (bfInit m a) b≤_
  unfold at1 bfInit
  rw [List.getD_eq_getElem?_getD,List.getElem?_map]
  by_cases h:b < m
  ·rw [List.getElem?_range h]
   simp only [Option.map_some,Option.getD_some]
   split <;> omega
  ·rw [List.getElem?_eq_none (by rw [List.length_range];omega)]
   simp
 | r + 1,b=>by
  rw [bfN_succ]
  have:=bfFold_le ok ls (bfN ls m a r) (200000 * r) (fun _ h=>h) (bfN_length ls m a r) (bfN_le ok hls a r) b
  unfold bfRound
  omega
theorem bfD_le {m:Nat} {ls:List Line} (ok:LinesOk m ls) (hls:ls.length≤40) {a r i:Int} (r1:r≤m):∀ b,at1 (bfD ls m a r i) b≤3000000:=by
 intro b
 have h1:=bfFold_le ok (ls.take i.toNat) (bfN ls m a.toNat r.toNat) (200000 * r.toNat) (fun x hx=>List.mem_of_mem_take hx) (bfN_length ls m _ _) (bfN_le ok hls _ _) b
 have h2:(ls.take i.toNat).length≤40:=by rw [List.length_take];omega
 have hn:=ok.n12
 have h3:r.toNat≤12:=by omega
 have e:bfD ls m a r i=(ls.take i.toNat).foldl bfStep (bfN ls m a.toNat r.toNat):=by unfold bfD;rw [Int.toNat_natCast]
 rw [e]
 omega
theorem bfD_next {m:Nat} {ls:List Line} {a r i:Int} (h0:0≤i) (h1:i < ls.length) (d:Line):bfD ls m a r (i + 1)=bfStep (bfD ls m a r i) (ls.getD i.toNat d):=by
 unfold bfD
 rw [show (i + 1).toNat=i.toNat + 1 by omega,List.take_add_one,List.getD_eq_getElem?_getD,List.getElem?_eq_getElem (show i.toNat < ls.length by omega),List.foldl_append]
 rfl
theorem bfD_round {m:Nat} {ls:List Line} {a r i:Int} (r0:0≤r) (h1:¬ i < ls.length):bfD ls m a r i=bfD ls m a (r + 1) 0:=by
 unfold bfD
 rw [List.take_of_length_le (by omega),show (r + 1).toNat=r.toNat + 1 by omega,bfN_succ]
 rfl
theorem negD_len (m:Nat) (k:Int):(negD m k).length=m:=by unfold negD;simp
theorem negD_zero (m:Nat):List.replicate m 0=negD m 0:=by
 rw [rep_map];unfold negD
 apply List.map_congr_left
 intro i _
 rw [if_neg (by omega)]
theorem negD_set {m:Nat} {k:Int} (k0:0≤k):(negD m k).set k.toNat (-1)=negD m (k + 1):=by
 unfold negD
 rw [set_map]
 apply List.map_congr_left
 intro j _
 by_cases e:j=k.toNat
 ·have g:j < (k + 1).toNat:=by omega
  rw [if_pos e,if_pos g]
 ·rw [if_neg e]
  by_cases g:j < k.toNat
  ·have g':j < (k + 1).toNat:=by omega
   rw [if_pos g,if_pos g']
  ·have g':¬ j < (k + 1).toNat:=by omega
   rw [if_neg g,if_neg g']
theorem negD_init (ls:List Line) {m:Nat} {a b:Int} (hb:¬ b < m):(negD m b).set a.toNat 0=bfD ls m a 0 0:=by
 unfold negD
 rw [set_map]
 show _=bfInit (m:Int).toNat a.toNat
 unfold bfInit
 apply List.map_congr_left
 intro j hj
 have:=List.mem_range.1 hj
 rw [if_pos (show j < b.toNat by omega)]
theorem bfStep_yes {row:List Int} {l:Line} (h1:row.getD l.2.1.toNat 0 ≥ 0) (h2:row.getD l.2.2.1.toNat 0 < 0∨row.getD l.2.2.1.toNat 0 > row.getD l.2.1.toNat 0 + l.2.2.2.2.1) :
  row.set l.2.2.1.toNat (row.getD l.2.1.toNat 0 + l.2.2.2.2.1)=bfStep row l:=by
 unfold bfStep at1 lFrom lTo lTravel
 rw [show (decide (0≤row.getD l.2.1.toNat 0) && (decide (row.getD l.2.2.1.toNat 0 < 0) || decide (row.getD l.2.2.1.toNat 0 > row.getD l.2.1.toNat 0 + l.2.2.2.2.1)))=true by
  simp only [Bool.and_eq_true,Bool.or_eq_true,decide_eq_true_eq];exact ⟨h1,h2⟩]
 rfl
theorem bfStep_not {row:List Int} {l:Line} (h:row.getD l.2.1.toNat 0 ≥ 0→¬ row.getD l.2.2.1.toNat 0 < 0∧¬ row.getD l.2.2.1.toNat 0 > row.getD l.2.1.toNat 0 + l.2.2.2.2.1):row=bfStep row l:=by
 unfold bfStep at1 lFrom lTo lTravel
 rw [show (decide (0≤row.getD l.2.1.toNat 0) && (decide (row.getD l.2.2.1.toNat 0 < 0) || decide (row.getD l.2.2.1.toNat 0 > row.getD l.2.1.toNat 0 + l.2.2.2.2.1)))=false by
  rw [Bool.and_eq_false_imp];intro g;have:=h (of_decide_eq_true g);rw [decide_eq_false this.1,decide_eq_false this.2];rfl]
 rfl
theorem distTo_len (m:Int) (ls:List Line) (k:Int):(distTo m ls k).length=k.toNat:=by unfold distTo;simp
theorem distTo_next {m:Nat} {ls:List Line} (ok:LinesOk m ls) {a:Int} (a0:0≤a) (a1:a < m):distTo m ls a ++ [bfD ls m a m 0]=distTo m ls (a + 1):=by
 have e:bfD ls m a m 0=distRow m ls a.toNat:=by
  rw [← bfN_dist ok (show a.toNat < m by omega)];rfl
 rw [e]
 unfold distTo
 rw [show (a + 1).toNat=a.toNat + 1 by omega,List.range_succ,List.map_append,Int.toNat_natCast]
 rfl
theorem t_rdist (cs:LC) (ns os:LB) (fs:List Off) (ls:List Line) (ks:List Cla):SoundC Tryz.prog G0 59 [net cs ns os fs ls ks] [] ⟨fewC (cs,ns,os,fs,ls,ks)=true,.dat M (dist2 (cs,ns,os,fs,ls,ks)),[]⟩:=by
 refine sound_of_ev (c:=mkc K14) KS14 KI0s hm (vc_rdist cs ns os fs ls ks ⟨rfl,fun hp=>?_⟩)
 have z:upN 0 (fs.length:Int):=⟨Int.le_refl _,Int.natCast_nonneg _⟩
 have zl:upN 0 (ls.length:Int):=⟨Int.le_refl _,Int.natCast_nonneg _⟩
 simp only [cnd_or,cnd_and,D.and,D.not,Bool.true_and,eq_self,true_and,and_true,imp_self,implies_true,Bool.not_eq_true',Bool.or_eq_true,Bool.or_eq_false_iff,Bool.not_eq_false',Bool.and_eq_true,Bool.and_eq_false_imp,Int.toNat_natCast,Int.ofNat_eq_natCast,D.nil,D.lt,D.gt,D.ge,D.ilen,D.ile,D.ilt,D.nle,D.nlt,D.sub,D.add,D.mul,D.nat,D.ofN,D.len,D.nadd,D.nmul,D.get,D.set,D.app,D.rep,decide_eq_true_eq,decide_eq_false_iff_not]
 refine ⟨hp,fun h=>by unfold dist2;rw [h];rfl,fun hno=>⟨⟨0,z,rfl,rfl,rfl,rfl⟩,fun a ⟨a0,a1⟩=>⟨fun hlt=>?_,fun hge=>?_⟩⟩⟩
 ·obtain ⟨ok,hls⟩:=lines_ok cs ns os fs ls ks hno
  have hn:=ok.n12
  refine ⟨by omega,by omega,by omega,⟨0,z,rfl,negD_zero _⟩,fun b ⟨b0,b1⟩=>⟨negD_len _ _,fun hb=>?_,fun hb=>?_⟩⟩
  ·have e1:=negD_len fs.length b
   and_intros
   all_goals try (intros;omega)
   exact ⟨b + 1,⟨by omega,by omega⟩,⟨rfl,negD_set b0⟩,by omega⟩
  have e1:=negD_len fs.length b
  have e2:=negD_init ls (a:=a) hb
  and_intros
  all_goals try (intros;omega)
  ·exact ⟨0,z,rfl,e2⟩
  intro r ⟨r0,r1⟩
  have e3:=bfD_length ls fs.length a r 0
  refine ⟨e3,fun hr=>⟨⟨0,zl,rfl,rfl⟩,fun i ⟨i0,i1⟩=>⟨fun hi=>?_,fun hi=>⟨⟨by omega,by omega⟩,r + 1,⟨by omega,by omega⟩,⟨rfl,bfD_round r0 hi⟩,by omega⟩⟩⟩,fun hr=>?_⟩
  ·have e4:=bfD_length ls fs.length a r i
   have bd:=bfD_le ok hls (a:=a) (i:=i) r1
   have o:=ok.at_ _ (getD_mem (l:=ls) (i:=i.toNat) (d:=(⟨#[]⟩,0,0,0,0,0)) (by omega))
   have nx:=bfD_next (m:=fs.length) (a:=a) (r:=r) i0 hi (⟨#[]⟩,0,0,0,0,0)
   generalize ls.getD i.toNat (⟨#[]⟩,0,0,0,0,0)=l at *
   generalize bfD ls (fs.length:Int) a r i=row at *
   have b1':row.getD l.2.1.toNat 0≤3000000:=bd l.2.1.toNat
   unfold lFrom lTo lTravel at o
   and_intros
   all_goals try (intros;omega)
   ·rintro ⟨h1,h2⟩
    exact ⟨by omega,by omega⟩
   ·rintro ⟨h1,h2⟩
    and_intros
    all_goals try omega
    exact ⟨i + 1,⟨by omega,by omega⟩,⟨rfl,by rw [nx];exact bfStep_yes h1 h2⟩,by omega⟩
   ·intro h
    exact ⟨⟨by omega,by omega⟩,i + 1,⟨by omega,by omega⟩,⟨rfl,by rw [nx];exact bfStep_not h⟩,by omega⟩
  ·have:r=fs.length:=by omega
   subst this
   have e5:=distTo_len (fs.length:Int) ls a
   have e6:=distTo_next ok a0 hlt
   simp only [List.length_singleton]
   and_intros
   all_goals try (intros;omega)
   exact ⟨a + 1,⟨by omega,by omega⟩,⟨by rw [← e6,List.length_append];rfl,rfl,e6⟩,by omega⟩
 ·have:a=fs.length:=by omega
  subst this
  unfold dist2 distTo distF
  rw [if_pos hno,Int.toNat_natCast]
theorem KS15:KSound Tryz.prog G0 K15 :=
 kOr_ok (dataK_ok fun ((cs,ns,os,fs,ls,ks),_)=>t_check cs ns os fs ls ks) <|
 kOr_ok (dataK_ok fun ((cs,ns,os,fs,ls,ks),_)=>t_rdist cs ns os fs ls ks) KS14
theorem dist2_len (cs:LC) (ns os:LB) (fs:List Off) (ls:List Line) (ks:List Cla) (h:noF (cs,ns,os,fs,ls,ks)=true):(dist2 (cs,ns,os,fs,ls,ks)).length=fs.length:=by unfold dist2 distF;rw [if_pos h];simp
theorem dist2_row (cs:LC) (ns os:LB) (fs:List Off) (ls:List Line) (ks:List Cla) (h:noF (cs,ns,os,fs,ls,ks)=true) {a:Nat} (ha:a < fs.length):(dist2 (cs,ns,os,fs,ls,ks)).getD a []=distRow fs.length ls a:=by
 unfold dist2 distF
 rw [if_pos h]
 show ((List.range fs.length).map fun a=>distRow fs.length ls a).getD a []=_
 rw [List.getD_eq_getElem?_getD,List.getElem?_map,List.getElem?_range ha]
 rfl
theorem distRow_at {m:Nat} {ls:List Line} {a b:Nat} (hb:b < m):(distRow m ls a).getD b 0=cell (relaxedF ls) a b:=by
 unfold distRow
 rw [List.getD_eq_getElem?_getD,List.getElem?_map,List.getElem?_range hb,Option.map_some,Option.getD_some]
theorem distRow_len (m:Nat) (ls:List Line) (a:Nat):(distRow m ls a).length=m:=by unfold distRow;simp
theorem cutTo_next {d:List (List Int)} {b k:Int} (h0:0≤k):(cutTo d b k || decide ((d.getD k.toNat []).getD b.toNat 0 < 0))=cutTo d b (k + 1):=by
 unfold cutTo
 rw [show (k + 1).toNat=k.toNat + 1 by omega,List.range_succ,List.any_append]
 simp
theorem any_congr {α:Type} {p q:α→Bool}:∀ {l:List α},(∀ x ∈ l,p x=q x)→l.any p=l.any q
 | [],_=>rfl
 | a :: l,h=>by rw [List.any_cons,List.any_cons,h a (by simp),any_congr fun x hx=>h x (by simp [hx])]
theorem cut_reach (cs:LC) (ns os:LB) (fs:List Off) (ls:List Line) (ks:List Cla) (h:noF (cs,ns,os,fs,ls,ks)=true) {b:Int} (b0:0≤b) (b1:b < fs.length):cutTo (dist2 (cs,ns,os,fs,ls,ks)) b fs.length=reach1 fs.length ls b.toNat:=by
 obtain ⟨ok,_⟩:=lines_ok cs ns os fs ls ks h
 have hn:=ok.n12
 unfold cutTo reach1
 rw [Int.toNat_natCast]
 apply any_congr
 intro a ha
 have ha:=List.mem_range.1 ha
 rw [dist2_row cs ns os fs ls ks h ha,distRow_at (by omega)]
 have:=(relaxedF_dist ok (a:=a) (by omega)).low b.toNat (by omega)
 congr 1
 exact propext (by omega)
theorem t_rcheck (cs:LC) (ns os:LB) (fs:List Off) (ls:List Line) (ks:List Cla):SoundC Tryz.prog G0 21 [net cs ns os fs ls ks] [] ⟨fewC (cs,ns,os,fs,ls,ks)=true,.dat (.sl Fa) (checkF (cs,ns,os,fs,ls,ks)),[]⟩:=by
 refine sound_of_ev (c:=mkc K15) KS15 KI0s hm (vc_rcheck cs ns os fs ls ks ⟨rfl,fun hp=>?_⟩)
 have z:upN 0 (fs.length:Int):=⟨Int.le_refl _,Int.natCast_nonneg _⟩
 simp only [cnd_or,D.and,D.not,Bool.true_and,eq_self,true_and,and_true,imp_self,implies_true,Bool.not_eq_true',Int.ofNat_eq_natCast,D.nil,D.lt,D.gt,D.ilen,D.ile,D.ilt,D.nle,D.nlt,D.sub,D.add,D.nat,D.len,D.nadd,D.nmul,D.get,D.app,decide_eq_true_eq,decide_eq_false_iff_not]
 refine ⟨hp,fun h=>by unfold checkF;rw [noF_false h];rfl,fun h=>?_⟩
 have hno:=noF_true h
 have hf:=noF_iff.1 hno
 obtain ⟨ok,hls⟩:=lines_ok cs ns os fs ls ks hno
 have hn:=ok.n12
 have hd:=dist2_len cs ns os fs ls ks hno
 refine ⟨hp,⟨0,z,by rw [hf,reachTo_zero],rfl,by rw [hf,reachTo_zero]⟩,fun b ⟨b0,b1⟩=>⟨fun hb=>⟨⟨0,z,rfl,rfl⟩,fun a ⟨a0,a1⟩=>⟨fun ha=>?_,fun ha=>?_⟩⟩,fun hb=>?_⟩⟩
 ·have hr:=dist2_row cs ns os fs ls ks hno (a:=a.toNat) (by omega)
  have hrl:=distRow_len fs.length ls a.toNat
  rw [← hr] at hrl
  and_intros
  all_goals try (intros;omega)
  exact ⟨a + 1,⟨by omega,by omega⟩,⟨cutTo_next a0,rfl⟩,by omega⟩
 ·have:a=fs.length:=by omega
  subst this
  have hl:=reachTo_len (fs.length:Int) ls b
  rw [cut_reach cs ns os fs ls ks hno b0 (by omega)]
  refine ⟨fun hc=>?_,fun hc=>?_⟩
  ·have e2:=reachTo_yes (m:=fs.length) b0 (by rw [Int.toNat_natCast];exact hc)
   exact ⟨by simp only [List.length_singleton];omega,by simp only [List.length_singleton];omega,⟨by omega,by omega⟩,b + 1,⟨by omega,by omega⟩,⟨by rw [e2,List.length_append],rfl,e2.symm⟩,by omega⟩
  ·have e2:=reachTo_no (m:=fs.length) (by rw [Int.toNat_natCast];exact hc) b0
   exact ⟨⟨by omega,by omega⟩,b + 1,⟨by omega,by omega⟩,⟨by rw [e2],rfl,e2.symm⟩,by omega⟩
 ·have:b=fs.length:=by omega
  subst this
  unfold checkF;rw [hno];rfl
theorem KS16:KSound Tryz.prog G0 K16:=kOr_ok (dataK_ok fun ((cs,ns,os,fs,ls,ks),_)=>t_rcheck cs ns os fs ls ks) KS15
end Go.Eng.Sv
