/- PeTr3k, PeTr4k -/
import Derived.Test.YtlobbofhlcjlmaaGreatDoorH22
import Derived.Test.YtlobbofhlcjlmaaGreatDoorTr2k
set_option linter.unusedSimpArgs false
set_option linter.unusedVariables false
set_option maxRecDepth 100000
namespace Go.Eng.Sv
open Go.Proofs
theorem aFT {n:Net} {nx:List (List Int)} (hl:(nx.length:Int)=n.2.2.2.1.length):aLQ n nx=true↔∀ i:Nat,(i:Int) < nx.length→rowOk n i (nx.getD i [])=true:=by
 unfold aLQ
 simp only [Bool.and_eq_true,decide_eq_true_eq,List.all_eq_true,List.mem_range]
 exact ⟨fun h i hi=>h.2 i (by omega),fun h=>⟨hl,fun i hi=>h i (by omega)⟩⟩
theorem aNo {n:Net} {o:Int} {row:List Int} (hl:(row.length:Int)=n.2.2.2.1.length):rowOk n o row=true↔∀ i:Nat,(i:Int) < row.length→gX n o (row.getD i 0)=true:=by
 unfold rowOk
 simp only [Bool.and_eq_true,decide_eq_true_eq,List.all_eq_true]
 refine ⟨fun h i hi=>h.2 _ ?_,fun h=>⟨hl,fun x hx=>?_⟩⟩
 ·rw [List.getD_eq_getElem?_getD,List.getElem?_eq_getElem (by omega),Option.getD_some];exact List.getElem_mem _
 ·obtain ⟨i,hi,rfl⟩:=List.mem_iff_getElem.1 hx
  have:=h i (by omega)
  rw [List.getD_eq_getElem?_getD,List.getElem?_eq_getElem hi,Option.getD_some] at this
  exact this
end Go.Eng.Sv

set_option maxRecDepth 100000
noncomputable section
namespace Go.Eng.Sv
open Go.Proofs
def nxt (nx:List (List Int)) (o d:Int):Int:=(nx.getD o.toNat []).getD d.toNat 0
def nC (n:Net) (nx:List (List Int)) (to:Int):Nat→Int→Int→List Stop×Int
 | 0,o,t=>if o=to then ([(o,t,-1,-1)],0) else if nxt nx o to=-1 then ([],170) else if aAM n (nxt nx o to) (aK n o t)=0 then ([],170) else ([],aAM n (nxt nx o to) (aK n o t))
 | k + 1,o,t=>if o=to then ([(o,t,-1,-1)],0) else if nxt nx o to=-1 then ([],170) else if aAM n (nxt nx o to) (aK n o t)=0 then
   if (nC n nx to k (aAy n (nxt nx o to)) (rC n (nxt nx o to) (aK n o t) + iC n (nxt nx o to))).2=0 then
    ((o,t,rC n (nxt nx o to) (aK n o t),nxt nx o to) :: (nC n nx to k (aAy n (nxt nx o to)) (rC n (nxt nx o to) (aK n o t) + iC n (nxt nx o to))).1,0)
   else ([],(nC n nx to k (aAy n (nxt nx o to)) (rC n (nxt nx o to) (aK n o t) + iC n (nxt nx o to))).2)
  else ([],aAM n (nxt nx o to) (aK n o t))
def aRV (n:Net) (nx:List (List Int)) (o to t:Int):List Stop:=(nC n nx to 19 o t).1
def aCn (n:Net) (nx:List (List Int)) (o to t:Int):Int:=(nC n nx to 19 o t).2
def aL4 (n:Net) (nx:List (List Int)) (o to t:Int):Prop:=zW n=true∧aLQ n nx=true∧0≤o∧o < n.2.2.2.1.length∧0≤to∧to < n.2.2.2.1.length∧0≤t∧t≤2200000
def aFK (d:List Stop) (r:List Stop×Int):List Stop×Int:=if r.2=0 then (d ++ r.1,0) else ([],r.2)
def aTW (n:Net) (nx:List (List Int)) (o0 to t0:Int) (x:List Stop×Int×Int):Prop:=aL4 n nx x.2.1 to x.2.2∧x.1.length≤19∧nC n nx to 19 o0 t0=aFK x.1 (nC n nx to (19 - x.1.length) x.2.1 x.2.2)
noncomputable def mkp (K:Kt) (mb:Tmp→Bool) (KP:KPt) (pf:FuncId→Bool):Cfg:=⟨Tryz.prog,G0,K,mb,KI0,false,KP,pf⟩
theorem oJ {e:Int}:isZero e=true↔e=0:=by simp [isZero]
theorem uM {e:Int}:isZero e=false↔e≠0:=by simp [isZero]
theorem kG (cs:LC) (ns os:LB) (fs:List Off) (ls:List Line) (ks:List Cla) (h:zW (cs,ns,os,fs,ls,ks)=true):noF (cs,ns,os,fs,ls,ks)=true:=((aIV cs ns os fs ls ks).1 (List.isEmpty_iff.1 h)).1
theorem sG {c:Int×List Bool×List Int} {m t:Int} (hv:bM c.1 c.2.1 c.2.2=true) (he:zB c m t=0) (m0:0≤m) (m1:m≤1439):t≤nS c m t∧nS c m t≤t + 90000:=by
 obtain ⟨z,w,h⟩:=c
 obtain ⟨⟨v1,v2,_,_⟩,_⟩:=fJ.1 hv
 have he':mX w h (d0F (z,w,h) m t)=0:=he
 obtain ⟨q1,q2,_⟩:=wY he'
 have e:nS (z,w,h) m t=wE z (mM w h (d0F (z,w,h) m t)) m:=if_pos he'
 rw [e]
 unfold wE
 generalize mM w h (d0F (z,w,h) m t)=nd at *
 have hd:d0F (z,w,h) m t=if m < (t + z) % 1440 then (t + z) / 1440 + 1 else (t + z) / 1440:=rfl
 rw [hd] at q1 q2
 simp only at v1 v2
 split at q1 <;> rename_i hs <;> simp only [hs,if_true,if_false] at q2 <;> omega
theorem zG (cs:LC) (ns os:LB) (fs:List Off) (ls:List Line) (ks:List Cla) {l t:Int} (hl:aRL (cs,ns,os,fs,ls,ks) l) (he:aAM (cs,ns,os,fs,ls,ks) l t=0):0≤t∧t≤2000000∧t≤rC (cs,ns,os,fs,ls,ks) l t∧rC (cs,ns,os,fs,ls,ks) l t≤t + 90000:=by
 obtain ⟨g1,g2,g3,g4,g5,g6,g7,g8⟩:=aEX cs ns os fs ls ks hl
 have ho:aCe (cs,ns,os,fs,ls,ks) (jE (cs,ns,os,fs,ls,ks) l):=⟨hl.1,g1,g2⟩
 have hv:=(oG cs ns os fs ls ks ho).2.2.1
 have hk:rG t=true:=by
  cases h:rG t with
  | true=>rfl
  | false=>unfold aAM at he;rw [h] at he;cases he
 have ht:0≤t∧t≤2000000:=of_decide_eq_true hk
 have e1:rC (cs,ns,os,fs,ls,ks) l t=nS (bK (cs,ns,os,fs,ls,ks) (jE (cs,ns,os,fs,ls,ks) l)) (aHr (cs,ns,os,fs,ls,ks) l) t:=if_pos hk
 have e2:aAM (cs,ns,os,fs,ls,ks) l t=zB (bK (cs,ns,os,fs,ls,ks) (jE (cs,ns,os,fs,ls,ks) l)) (aHr (cs,ns,os,fs,ls,ks) l) t:=if_pos hk
 rw [e2] at he
 rw [e1]
 exact ⟨ht.1,ht.2,sG hv he g5 g6⟩
theorem aCl {n:Net} {nx:List (List Int)} {to o t:Int} (k:Nat) (h:o=to):nC n nx to k o t=([(o,t,-1,-1)],0):=by cases k <;> exact if_pos h
theorem rD {n:Net} {nx:List (List Int)} {to o t:Int} (k:Nat) (h:o≠to) (h1:nxt nx o to=-1):nC n nx to k o t=([],170):=by cases k <;> (unfold nC;rw [if_neg h,if_pos h1])
theorem vK {n:Net} {nx:List (List Int)} {to o t:Int} (k:Nat) (h:o≠to) (h1:nxt nx o to≠-1) (h2:aAM n (nxt nx o to) (aK n o t)≠0):nC n nx to k o t=([],aAM n (nxt nx o to) (aK n o t)):=by cases k <;> (unfold nC;rw [if_neg h,if_neg h1,if_neg h2])
theorem tK {n:Net} {nx:List (List Int)} {to o t:Int} (h:o≠to) (h1:nxt nx o to≠-1) (h2:aAM n (nxt nx o to) (aK n o t)=0):nC n nx to 0 o t=([],170):=by unfold nC;rw [if_neg h,if_neg h1,if_pos h2]
theorem tJ {n:Net} {nx:List (List Int)} {to o t:Int} (k:Nat) (h:o≠to) (h1:nxt nx o to≠-1) (h2:aAM n (nxt nx o to) (aK n o t)=0) :
  nC n nx to (k + 1) o t=aFK [(o,t,rC n (nxt nx o to) (aK n o t),nxt nx o to)] (nC n nx to k (aAy n (nxt nx o to)) (rC n (nxt nx o to) (aK n o t) + iC n (nxt nx o to))):=by
 rw [nC,if_neg h,if_neg h1,if_pos h2];rfl
theorem aDk {d:List Stop} {r:List Stop×Int} (h:r.2≠0):(aFK d r).2=r.2:=by unfold aFK;rw [if_neg h]
theorem aF5 {d:List Stop} {r:List Stop×Int} (h:r.2=0):aFK d r=(d ++ r.1,0):=by unfold aFK;rw [if_pos h]
theorem aHh (d e:List Stop) (r:List Stop×Int):aFK d (aFK e r)=aFK (d ++ e) r:=by
 unfold aFK
 by_cases h:r.2=0
 ·simp [h]
 ·simp [h]
theorem aNs {n:Net} {nx:List (List Int)} {to:Int}:∀ (k:Nat) (o t:Int),aFK [] (nC n nx to k o t)=nC n nx to k o t:=fun k o t=>by
 by_cases h:o=to
 ·rw [aCl k h];rfl
 ·by_cases h1:nxt nx o to=-1
  ·rw [rD k h h1];rfl
  ·by_cases h2:aAM n (nxt nx o to) (aK n o t)=0
   ·cases k with
    | zero=>rw [tK h h1 h2];rfl
    | succ k=>rw [tJ k h h1 h2,aHh];rfl
   ·rw [vK k h h1 h2];unfold aFK;rw [if_neg h2]
theorem aAG (cs:LC) (ns os:LB) (fs:List Off) (ls:List Line) (ks:List Cla) {nx:List (List Int)} (ht:aLQ (cs,ns,os,fs,ls,ks) nx=true) {o d:Int} (o0:0≤o) (o1:o < fs.length) (d0:0≤d) (d1:d < fs.length):(nx.length:Int)=fs.length∧((nx.getD o.toNat []).length:Int)=fs.length∧(nxt nx o d≠-1→(0≤nxt nx o d∧nxt nx o d < ls.length)∧jE (cs,ns,os,fs,ls,ks) (nxt nx o d)=o):=by
 have hl:(nx.length:Int)=fs.length:=by
  unfold aLQ at ht;simp only [Bool.and_eq_true,decide_eq_true_eq] at ht;exact ht.1
 have h:=(aFT (n:=(cs,ns,os,fs,ls,ks)) hl).1 ht o.toNat (by omega)
 have hr:((nx.getD o.toNat []).length:Int)=fs.length:=by
  unfold rowOk at h;simp only [Bool.and_eq_true,decide_eq_true_eq] at h;exact h.1
 refine ⟨hl,hr,fun hne=>?_⟩
 have h2:=(aNo (n:=(cs,ns,os,fs,ls,ks)) hr).1 h d.toNat (by omega)
 unfold gX mW at h2
 simp only [Bool.or_eq_true,Bool.and_eq_true,decide_eq_true_eq] at h2
 rcases h2 with h2 | ⟨h2,h3⟩
 ·exact absurd h2 hne
 ·exact ⟨h2,h3.trans (by omega)⟩
theorem jI {x:Int} (h:-1000000000000≤x∧x≤1000000000000):inR .i64 x:=by unfold inR;simp only;omega
end Go.Eng.Sv
