/- PeInAk, PeInBk -/
import Derived.Test.YtlobbofhlcjlmaaGreatDoorH22
import Derived.Test.YtlobbofhlcjlmaaGreatDoorWa6k
import Derived.Test.YtlobbofhlcjlmaaGreatDoorInTk
set_option linter.unusedSimpArgs false
set_option linter.unusedVariables false
set_option maxRecDepth 100000
namespace Go.Eng.In
open Go.Proofs
theorem aCt:∀ {l1 l2:List Int},l1.Pairwise (· < ·)→l2.Pairwise (· < ·)→(∀ x,x ∈ l1↔x ∈ l2)→l1=l2
 | [],[],_,_,_=>rfl
 | [],b :: _,_,_,h=>by have:=(h b).2 (List.mem_cons_self ..);cases this
 | a :: _,[],_,_,h=>by have:=(h a).1 (List.mem_cons_self ..);cases this
 | a :: l1,b :: l2,h1,h2,h=>by
  obtain ⟨p1,q1⟩:=List.pairwise_cons.1 h1
  obtain ⟨p2,q2⟩:=List.pairwise_cons.1 h2
  have e:a=b:=by
   rcases List.mem_cons.1 ((h a).1 (List.mem_cons_self ..)) with g | g
   ·exact g
   ·rcases List.mem_cons.1 ((h b).2 (List.mem_cons_self ..)) with g2 | g2
    ·exact g2.symm
    ·have:=p1 _ g2;have:=p2 _ g;omega
  subst e
  congr 1
  refine aCt q1 q2 fun x=>⟨fun g=>?_,fun g=>?_⟩
  ·rcases List.mem_cons.1 ((h x).1 (List.mem_cons_of_mem _ g)) with g2 | g2
   ·have:=p1 _ g;omega
   ·exact g2
  ·rcases List.mem_cons.1 ((h x).2 (List.mem_cons_of_mem _ g)) with g2 | g2
   ·have:=p2 _ g;omega
   ·exact g2
theorem aD7 (w:List Bool) (h:List Int) (a b:Int):(iG w h a b).Pairwise (· < ·):=by
 unfold iG
 exact List.Pairwise.filter _ (List.pairwise_map.2 (List.pairwise_lt_range.imp fun h=>by omega))
theorem aFo (n:Net) (p:Plan) (k o:Int):(lN n p k o).Pairwise (· < ·):=by
 unfold lN
 refine List.Pairwise.filter _ (List.pairwise_map.2 ?_)
 unfold aGF
 exact (aD7 _ _ _ _).imp fun h=>by unfold aBX qR;omega
theorem aFp (n:Net) (p:Plan) (c o:Int) (f:Nat) (t:Int):Sv.aGE n p c o (f + 1) t=if Sv.zB (aB n o) (bC n c).2.1 t=0 then if Sv.nS (aB n o) (bC n c).2.1 t < 1440 * p.2.1 then Sv.nS (aB n o) (bC n c).2.1 t :: Sv.aGE n p c o f (Sv.nS (aB n o) (bC n c).2.1 t + 1) else [] else []:=rfl
theorem aDE {c:Cal} {m t:Int} (he:Sv.zB c m t=0):∃ D,wkF c.2.1 c.2.2 D=true∧Sv.nS c m t=qR c.1 D m∧D=Sv.mM c.2.1 c.2.2 (Sv.d0F c m t):=by
 obtain ⟨_,_,n3⟩:=Sv.wY (w:=c.2.1) (h:=c.2.2) (d:=Sv.d0F c m t) he
 exact ⟨_,n3,if_pos he,rfl⟩
theorem aDS {n:Net} {p:Plan} {c o:Int} (hc:Sv.sN n p c o):∀ (f:Nat) (t:Int),(Sv.aGE n p c o f t).Pairwise (· < ·)∧∀ x ∈ Sv.aGE n p c o f t,t≤x∧x < 1440 * p.2.1∧∃ D,wkF (aB n o).2.1 (aB n o).2.2 D=true∧x=aBX n c o D
 | 0,t=>⟨List.Pairwise.nil,fun x h=>by cases h⟩
 | f + 1,t=>by
  have hv:Sv.bM (aB n o).1 (aB n o).2.1 (aB n o).2.2=true:=(Sv.oG n.1 n.2.1 n.2.2.1 n.2.2.2.1 n.2.2.2.2.1 n.2.2.2.2.2 hc.1).2.2.1
  obtain ⟨⟨m0,m1⟩,_⟩:=Sv.aB1 n.1 n.2.1 n.2.2.1 n.2.2.2.1 n.2.2.2.2.1 n.2.2.2.2.2 hc.1.1 hc.2.1
  have m0:0≤(bC n c).2.1:=m0
  have m1:(bC n c).2.1≤1439:=m1
  obtain ⟨i1,i2⟩:=aDS hc f (Sv.nS (aB n o) (bC n c).2.1 t + 1)
  rw [aFp]
  split
  ·rename_i he
   obtain ⟨b1,b2⟩:=Sv.sG hv he m0 m1
   split
   ·rename_i hl
    refine ⟨List.pairwise_cons.2 ⟨fun x hx=>?_,i1⟩,fun x hx=>?_⟩
    ·have:=(i2 x hx).1;omega
    ·rcases List.mem_cons.1 hx with rfl | hx
     ·obtain ⟨D,d1,d2,_⟩:=aDE he
      exact ⟨b1,hl,D,d1,d2⟩
     ·obtain ⟨j1,j2,j3⟩:=i2 x hx
      exact ⟨by omega,j2,j3⟩
   ·exact ⟨List.Pairwise.nil,fun x h=>by cases h⟩
  ·exact ⟨List.Pairwise.nil,fun x h=>by cases h⟩
theorem aHJ {n:Net} {p:Plan} {c o D:Int} (hc:Sv.sN n p c o) (hw:wkF (aB n o).2.1 (aB n o).2.2 D=true) (h2:aBX n c o D < 1440 * p.2.1):∀ (f:Nat) (t:Int),1440 * p.1≤t→t≤aBX n c o D→aBX n c o D - t < f→aBX n c o D ∈ Sv.aGE n p c o f t
 | 0,t,_,_,h=>by omega
 | f + 1,t,h0,h1,hf=>by
  have hR:0≤p.1∧p.1 < p.2.1∧p.2.1≤600∧p.2.1 - p.1≤60:=of_decide_eq_true hc.2.2
  have hv:Sv.bM (aB n o).1 (aB n o).2.1 (aB n o).2.2=true:=(Sv.oG n.1 n.2.1 n.2.2.1 n.2.2.2.1 n.2.2.2.2.1 n.2.2.2.2.2 hc.1).2.2.1
  obtain ⟨⟨m0,m1⟩,_⟩:=Sv.aB1 n.1 n.2.1 n.2.2.1 n.2.2.2.1 n.2.2.2.2.1 n.2.2.2.2.2 hc.1.1 hc.2.1
  have m0:0≤(bC n c).2.1:=m0
  have m1:(bC n c).2.1≤1439:=m1
  have hd:Sv.d0F (aB n o) (bC n c).2.1 t≤D∧D < Sv.d0F (aB n o) (bC n c).2.1 t + 60:=by
   unfold aBX qR at h1 h2
   unfold Sv.d0F Sv.nT Sv.aLU
   split <;> omega
  have hm:D ∈ Sv.jF (aB n o).2.1 (aB n o).2.2 (Sv.d0F (aB n o) (bC n c).2.1 t) 60:=by
   unfold Sv.jF
   exact List.mem_filter.2 ⟨List.mem_map.2 ⟨(D - Sv.d0F (aB n o) (bC n c).2.1 t).toNat,List.mem_range.2 (by omega),by omega⟩,hw⟩
  have he:Sv.zB (aB n o) (bC n c).2.1 t=0:=by
   unfold Sv.zB Sv.mX Sv.rY
   cases hl:Sv.jF (aB n o).2.1 (aB n o).2.2 (Sv.d0F (aB n o) (bC n c).2.1 t) 60 with
   | nil=>rw [hl] at hm;cases hm
   | cons y tl=>rfl
  have hle:Sv.nS (aB n o) (bC n c).2.1 t≤aBX n c o D:=aFd m1 he hw h1
  obtain ⟨b1,b2⟩:=Sv.sG hv he m0 m1
  rw [aFp,if_pos he,if_pos (by omega)]
  by_cases e:aBX n c o D=Sv.nS (aB n o) (bC n c).2.1 t
  ·rw [e];exact List.mem_cons_self ..
  ·exact List.mem_cons_of_mem _ (aHJ hc hw h2 f _ (by omega) (by omega) (by omega))
theorem aLf {n:Net} {p:Plan} {c o:Int} (hc:Sv.sN n p c o):lN n p c o=Sv.oZ n p c o:=by
 have hR:0≤p.1∧p.1 < p.2.1∧p.2.1≤600∧p.2.1 - p.1≤60:=of_decide_eq_true hc.2.2
 have hv:Sv.bM (aB n o).1 (aB n o).2.1 (aB n o).2.2=true:=(Sv.oG n.1 n.2.1 n.2.2.1 n.2.2.2.1 n.2.2.2.2.1 n.2.2.2.2.2 hc.1).2.2.1
 obtain ⟨⟨z1,z2,_,_⟩,_⟩:=Sv.fJ.1 hv
 obtain ⟨⟨m0,m1⟩,_⟩:=Sv.aB1 n.1 n.2.1 n.2.2.1 n.2.2.2.1 n.2.2.2.2.1 n.2.2.2.2.2 hc.1.1 hc.2.1
 have m0:0≤(bC n c).2.1:=m0
 have m1:(bC n c).2.1≤1439:=m1
 refine aCt (aFo n p c o) (aDS hc _ _).1 fun x=>⟨fun h=>?_,fun h=>?_⟩
 ·unfold lN at h
  obtain ⟨h1,h2⟩:=List.mem_filter.1 h
  obtain ⟨D,hD,rfl⟩:=List.mem_map.1 h1
  unfold zI at h2
  simp only [Bool.and_eq_true,decide_eq_true_eq] at h2
  unfold aGF iG at hD
  have hw:=(List.mem_filter.1 hD).2
  exact aHJ hc hw h2.2 _ _ (Int.le_refl _) h2.1 (by unfold Sv.aN9;omega)
 ·obtain ⟨a1,a2,D,d1,rfl⟩:=(aDS hc _ _).2 x h
  unfold lN
  refine List.mem_filter.2 ⟨List.mem_map.2 ⟨D,?_,rfl⟩,?_⟩
  ·unfold aBX qR at a1 a2
   exact aPs (by omega) (by omega) d1
  ·unfold zI
   rw [decide_eq_true a1,decide_eq_true a2];rfl
theorem aLe {z D m:Int} (m0:0≤m) (m1:m≤1439):Sv.nT z (qR z D m)=D:=by
 unfold Sv.nT qR
 omega
theorem aK2 {n:Net} {p:Plan} {d:Int}:∀ (k:Nat) (o t:Int) (rest:List Int),Sv.aL4 n p.2.2.1 o d t→(Sv.nC n p.2.2.1 d k o t).2=0 →
  qZ n p d k o t (Sv.mY n p.1 (Sv.nC n p.2.2.1 d k o t).1.dropLast ++ rest)=(true,((Sv.nC n p.2.2.1 d k o t).1.getLastD (0,0,0,0)).2.1,rest)
 | k,o,t,rest,hp,h=>by
  obtain ⟨hs,ht,u0,u1,o0,o1,v0,v1⟩:=id hp
  by_cases he:o=d
  ·rw [Sv.aCl k he]
   cases k with
   | zero=>show (decide (o=d),t,rest)=_;rw [decide_eq_true he];rfl
   | succ k=>show qZ n p d (k + 1) o t rest=_;unfold qZ;rw [if_pos he];rfl
  by_cases hm:Sv.nxt p.2.2.1 o d=-1
  ·rw [Sv.rD k he hm] at h;cases h
  by_cases h6:Sv.aAM n (Sv.nxt p.2.2.1 o d) (Sv.aK n o t)=0
  case neg=>rw [Sv.vK k he hm h6] at h;exact absurd h h6
  cases k with
  | zero=>rw [Sv.tK he hm h6] at h;cases h
  | succ k =>
   have hno:Sv.noF n=true:=Sv.kG n.1 n.2.1 n.2.2.1 n.2.2.2.1 n.2.2.2.2.1 n.2.2.2.2.2 hs
   obtain ⟨_,_,c3⟩:(p.2.2.1.length:Int)=n.2.2.2.1.length∧((p.2.2.1.getD o.toNat []).length:Int)=n.2.2.2.1.length∧(Sv.nxt p.2.2.1 o d≠-1→(0≤Sv.nxt p.2.2.1 o d∧Sv.nxt p.2.2.1 o d < n.2.2.2.2.1.length)∧Sv.jE n (Sv.nxt p.2.2.1 o d)=o):=Sv.aAG n.1 n.2.1 n.2.2.1 n.2.2.2.1 n.2.2.2.2.1 n.2.2.2.2.2 ht u0 u1 o0 o1
   obtain ⟨⟨l0,l1⟩,lf⟩:=c3 hm
   have hlin:Sv.aRL n (Sv.nxt p.2.2.1 o d):=⟨hno,l0,l1⟩
   obtain ⟨g1,g2,g3,g4,g5,g6,g7,g8⟩:0≤Sv.jE n (Sv.nxt p.2.2.1 o d)∧Sv.jE n (Sv.nxt p.2.2.1 o d) < n.2.2.2.1.length∧0≤Sv.aAy n (Sv.nxt p.2.2.1 o d)∧Sv.aAy n (Sv.nxt p.2.2.1 o d) < n.2.2.2.1.length∧0≤Sv.aHr n (Sv.nxt p.2.2.1 o d)∧Sv.aHr n (Sv.nxt p.2.2.1 o d)≤1439∧1≤Sv.iC n (Sv.nxt p.2.2.1 o d)∧Sv.iC n (Sv.nxt p.2.2.1 o d)≤5000:=Sv.aEX n.1 n.2.1 n.2.2.1 n.2.2.2.1 n.2.2.2.2.1 n.2.2.2.2.2 hlin
   obtain ⟨b1,b2,b3,b4⟩:0≤Sv.aK n o t∧Sv.aK n o t≤2000000∧Sv.aK n o t≤Sv.rC n (Sv.nxt p.2.2.1 o d) (Sv.aK n o t)∧Sv.rC n (Sv.nxt p.2.2.1 o d) (Sv.aK n o t)≤Sv.aK n o t + 90000:=Sv.zG n.1 n.2.1 n.2.2.1 n.2.2.2.1 n.2.2.2.2.1 n.2.2.2.2.2 hlin h6
   have htm:Sv.rG (Sv.aK n o t)=true:=by unfold Sv.rG;rw [decide_eq_true_eq];omega
   have eE:Sv.aAM n (Sv.nxt p.2.2.1 o d) (Sv.aK n o t)=Sv.zB (aB n o) (bI n (cellAt p o d)).2.2.2.1 (Sv.aK n o t):=by unfold Sv.aAM;rw [if_pos htm,lf];rfl
   have eD:Sv.rC n (Sv.nxt p.2.2.1 o d) (Sv.aK n o t)=Sv.nS (aB n o) (bI n (cellAt p o d)).2.2.2.1 (Sv.aK n o t):=by unfold Sv.rC;rw [if_pos htm,lf];rfl
   obtain ⟨D,d1,d2,_⟩:=aDE (eE.symm.trans h6)
   rw [Sv.tJ k he hm h6] at h ⊢
   by_cases h7:(Sv.nC n p.2.2.1 d k (Sv.aAy n (Sv.nxt p.2.2.1 o d)) (Sv.rC n (Sv.nxt p.2.2.1 o d) (Sv.aK n o t) + Sv.iC n (Sv.nxt p.2.2.1 o d))).2=0
   case neg=>rw [Sv.aDk h7] at h;exact absurd h h7
   have hp':Sv.aL4 n p.2.2.1 (Sv.aAy n (Sv.nxt p.2.2.1 o d)) d (Sv.rC n (Sv.nxt p.2.2.1 o d) (Sv.aK n o t) + Sv.iC n (Sv.nxt p.2.2.1 o d)):=⟨hs,ht,g3,g4,o0,o1,by omega,by omega⟩
   have ih:=aK2 k _ _ rest hp' h7
   obtain ⟨_,i2,_⟩:=Sv.aC2 k _ _ hp' h7
   rw [Sv.aF5 h7]
   generalize hr:Sv.nC n p.2.2.1 d k (Sv.aAy n (Sv.nxt p.2.2.1 o d)) (Sv.rC n (Sv.nxt p.2.2.1 o d) (Sv.aK n o t) + Sv.iC n (Sv.nxt p.2.2.1 o d))=r at ih i2 ⊢
   have g5':0≤(bI n (cellAt p o d)).2.2.2.1:=g5
   have g6':(bI n (cellAt p o d)).2.2.2.1≤1439:=g6
   have eL:Sv.aVm n p.1 (o,t,Sv.rC n (Sv.nxt p.2.2.1 o d) (Sv.aK n o t),Sv.nxt p.2.2.1 o d)=D + (2 - p.1):=by
    show Sv.nT (aB n o).1 (Sv.rC n (Sv.nxt p.2.2.1 o d) (Sv.aK n o t)) + (2 - p.1)=_
    rw [eD,d2,aLe g5' g6']
   have e1:Sv.mY n p.1 (([(o,t,Sv.rC n (Sv.nxt p.2.2.1 o d) (Sv.aK n o t),Sv.nxt p.2.2.1 o d)] ++ r.1).dropLast) ++ rest=(D + (2 - p.1)) :: (Sv.mY n p.1 r.1.dropLast ++ rest):=by
    rw [List.singleton_append,List.dropLast_cons_of_ne_nil i2]
    unfold Sv.mY
    rw [List.map_cons,eL];rfl
   show qZ n p d (k + 1) o t (Sv.mY n p.1 (([_] ++ r.1).dropLast) ++ rest)=(true,(([_] ++ r.1).getLastD (0,0,0,0)).2.1,rest)
   rw [e1]
   have e2:(([(o,t,Sv.rC n (Sv.nxt p.2.2.1 o d) (Sv.aK n o t),Sv.nxt p.2.2.1 o d)] ++ r.1).getLastD (0,0,0,0)).2.1=(r.1.getLastD (0,0,0,0)).2.1:=by
    rw [List.singleton_append,List.getLastD_cons,List.getLastD_eq_getLast?,List.getLastD_eq_getLast?,List.getLast?_eq_some_getLast i2];rfl
   rw [e2]
   have e3:D + (2 - p.1) - 2 + p.1=D:=by omega
   have ok:iQ n o (cellAt p o d) p (D + (2 - p.1)) t=true:=by
    unfold iQ
    rw [e3,d1,decide_eq_true (show qR (aB n o).1 D (bI n (cellAt p o d)).2.2.2.1 ≥ tZ n o t by rw [← d2,← eD];exact b3)];rfl
   have hm':¬ cellAt p o d=-1:=hm
   unfold qZ
   rw [if_neg he,if_neg hm',if_neg (show ¬ bW ((D + (2 - p.1)) :: (Sv.mY n p.1 r.1.dropLast ++ rest))=false by unfold bW;simp)]
   show (if iQ n o (cellAt p o d) p (D + (2 - p.1)) t=true then qZ n p d k (bI n (cellAt p o d)).2.2.1 (qR (aB n o).1 (D + (2 - p.1) - 2 + p.1) (bI n (cellAt p o d)).2.2.2.1 + (bI n (cellAt p o d)).2.2.2.2.1) (Sv.mY n p.1 r.1.dropLast ++ rest) else _)=_
   rw [if_pos ok,e3,← d2,← eD]
   exact ih
theorem aRR (w:List Bool) (h:List Int) (a m:Int):iG w h a (a + m - 1)=Sv.jF w h a m:=by
 unfold iG Sv.jF
 rw [show (a + m - 1 + 1 - a).toNat=m.toNat by omega];rfl
theorem aQJ {n:Net} {p:Plan} {c o d x:Int} (rest:List Int) (hp:Sv.qX n p) (hc:Sv.sN n p c o) (hd:Sv.aCe n d) (hx:x ∈ Sv.oZ n p c o) (h0:Sv.aFq n p c o d x=0) :
  aAv n p c o d x (Sv.aCm n p o d x ++ rest)=true∧aFL n p o d x (Sv.aCm n p o d x ++ rest)=rest:=by
 obtain ⟨e1,e2,e3⟩:=Sv.aDT h0
 have hwP:=Sv.aDQ hp hc hd hx
 have hf:qZ n p d 19 o x (Sv.aCm n p o d x ++ rest)=(true,Sv.tN n p o d x,rest):=aK2 19 o x rest hwP e1
 obtain ⟨x0,x1⟩:=Sv.aDR hc hx
 have hR:0≤p.1∧p.1 < p.2.1∧p.2.1≤600∧p.2.1 - p.1≤60:=of_decide_eq_true hc.2.2
 obtain ⟨_,w1,w2⟩:=Sv.aC4 hwP e1
 have hv:Sv.bM (aB n d).1 (aB n d).2.1 (aB n d).2.2=true:=(Sv.oG n.1 n.2.1 n.2.2.1 n.2.2.2.1 n.2.2.2.2.1 n.2.2.2.2.2 hd).2.2.1
 obtain ⟨⟨z1,z2,_,_⟩,_⟩:=Sv.fJ.1 hv
 obtain ⟨_,m0,m1⟩:=Sv.aB1 n.1 n.2.1 n.2.2.1 n.2.2.2.1 n.2.2.2.2.1 n.2.2.2.2.2 hc.1.1 hc.2.1
 have m0:0≤(bC n c).2.2:=m0
 have m1:(bC n c).2.2≤1439:=m1
 obtain ⟨_,_,r1,r2⟩:inR .i64 ((Sv.kX n d).2.2.2.2.1 * (Sv.kX n d).2.2.2.2.2.1)∧inR .i64 (Sv.aK n d (Sv.tN n p o d x))∧Sv.tN n p o d x≤Sv.aK n d (Sv.tN n p o d x)∧Sv.aK n d (Sv.tN n p o d x)≤Sv.tN n p o d x + 960:=Sv.yN n.1 n.2.1 n.2.2.1 n.2.2.2.1 n.2.2.2.2.1 n.2.2.2.2.2 ⟨hd,by omega,by omega⟩
 have e2':Sv.zB (aB n d) (bC n c).2.2 (tZ n d (Sv.tN n p o d x))=0:=e2
 obtain ⟨D,d1,d2,d3⟩:=aDE e2'
 obtain ⟨b1,b2⟩:=Sv.sG hv e2' m0 m1
 have eO:aPc (aB n d) (bC n c).2.2 (tZ n d (Sv.tN n p o d x))=Sv.rY (aB n d).2.1 (aB n d).2.2 (Sv.d0F (aB n d) (bC n c).2.2 (tZ n d (Sv.tN n p o d x))):=by
  unfold aPc Sv.rY
  rw [← aRR]
  congr 2
  show aJk _ _ _ + 59=_
  have:aJk (aB n d) (bC n c).2.2 (tZ n d (Sv.tN n p o d x))=Sv.d0F (aB n d) (bC n c).2.2 (tZ n d (Sv.tN n p o d x)):=rfl
  omega
 have eS:(Sv.rY (aB n d).2.1 (aB n d).2.2 (Sv.d0F (aB n d) (bC n c).2.2 (tZ n d (Sv.tN n p o d x)))).isSome=true:=by
  cases hs:(Sv.rY (aB n d).2.1 (aB n d).2.2 (Sv.d0F (aB n d) (bC n c).2.2 (tZ n d (Sv.tN n p o d x)))).isSome with
  | true=>rfl
  | false =>
   have:Sv.mX (aB n d).2.1 (aB n d).2.2 (Sv.d0F (aB n d) (bC n c).2.2 (tZ n d (Sv.tN n p o d x)))=0:=e2'
   unfold Sv.mX at this
   rw [hs] at this;cases this
 have eT:aBS n p o d x (Sv.aCm n p o d x ++ rest)=Sv.tN n p o d x:=by unfold aBS;rw [hf]
 have eL:aE1 n p c o d x (Sv.aCm n p o d x ++ rest)=D:=by
  unfold aE1 aHI
  rw [eT,eO,d3];rfl
 have eD:Sv.nT (aB n d).1 (Sv.aUa n p c o d x)=D:=by
  have:Sv.aUa n p c o d x=qR (aB n d).1 D (bC n c).2.2:=d2
  rw [this,aLe m0 m1]
 have eB:aFB n d x=Sv.nT (aB n d).1 x:=rfl
 have er:tZ n d (Sv.tN n p o d x)=Sv.aK n d (Sv.tN n p o d x):=rfl
 have hB:D - aFB n d x≤2000:=by
  have:qR (aB n d).1 D (bC n c).2.2≤2400000:=by rw [← d2];omega
  unfold qR at this
  rw [eB];unfold Sv.nT
  omega
 have hN:((aIt n p c o d x (Sv.aCm n p o d x ++ rest)).length:Int)≤kR p c o d:=by
  unfold aIt
  rw [eL]
  have e4:iG (aB n d).2.1 (aB n d).2.2 (aFB n d x + 1) D=Sv.jF (aB n d).2.1 (aB n d).2.2 (aFB n d x + 1) (D - aFB n d x):=by
   rw [← aRR]
   congr 1;omega
  rw [e4]
  have e5:Sv.aTE n p c o d x=((Sv.jF (aB n d).2.1 (aB n d).2.2 (aFB n d x + 1) (D - aFB n d x)).length:Int):=by
   show Sv.aBY (aB n d).2.1 (aB n d).2.2 (Sv.nT (aB n d).1 x) (Sv.nT (aB n d).1 (Sv.aUa n p c o d x))=_
   rw [eD]
   exact if_pos (show D≤aFB n d x + 2000 by omega)
  rw [← e5]
  exact e3
 refine ⟨?_,by unfold aFL;rw [hf]⟩
 unfold aAv aBT uY
 rw [eT,eO,eL,hf,eS,decide_eq_true hB,decide_eq_true hN];rfl
theorem wQ {f:Nat→List Int→Option (List Int)} {g:Nat→List Int}:∀ (m:Nat) (rest:List Int),(∀ i,i < m→∀ rest,f i (g i ++ rest)=some rest)→runN f m ((List.range m).flatMap g ++ rest)=some rest
 | 0,rest,_=>rfl
 | m + 1,rest,h=>by
  rw [List.range_succ,List.flatMap_append,List.append_assoc,runN,wQ m _ fun i hi=>h i (by omega)]
  simpa using h m (by omega) rest
theorem aIL {g:Int→List Int} (l:List Int):l.flatMap g=(List.range l.length).flatMap fun i=>g (l.getD i 0):=by
 have:l=(List.range l.length).map fun i=>l.getD i 0:=by
  apply List.ext_getElem
  ·simp
  ·intro i h1 h2
   simp [h1]
 conv=>lhs;rw [this]
 rw [List.flatMap_map]
theorem aOl {n:Net} {p:Plan} {c o d:Int} (hp:Sv.qX n p) (hc:Sv.sN n p c o) (hd:Sv.aCe n d) (h0:Sv.aAD n p c o d=0) (rest:List Int):zK n p c o d (Sv.aAC n p c o d ++ rest)=some rest:=by
 unfold zK Sv.aAC
 unfold Sv.aAD at h0
 have ed:Sv.qV p c o d=kR p c o d:=rfl
 rw [ed] at h0 ⊢
 by_cases h1:kR p c o d=-1
 ·rw [if_pos h1,if_pos h1];rfl
 ·rw [if_neg h1] at h0
  rw [if_neg h1,if_neg h1,aLf hc]
  have e:Sv.keepA n p c o d=(List.range (Sv.oZ n p c o).length).flatMap fun i=>Sv.aCm n p o d ((Sv.oZ n p c o).getD i 0):=by
   unfold Sv.keepA Sv.uX
   rw [List.take_length,aIL]
  rw [e]
  refine wQ _ _ fun i hi rest=>?_
  obtain ⟨q1,q2⟩:=aQJ rest hp hc hd (aW hi) (Sv.aBE h0 _ (aW hi))
  unfold aBk
  rw [aLf hc,if_pos q1,q2]
theorem aRt {n:Net} {p:Plan} (hp:Sv.qX n p) (h0:Sv.aHS n p p.2.2.2.length=0):aAt n p (Sv.aJl n p p.2.2.2.length)=some []:=by
 have hsh:=Sv.aBh hp
 have dl:=hsh.dl
 have hno:Sv.noF n=true:=Sv.kG n.1 n.2.1 n.2.2.1 n.2.2.2.1 n.2.2.2.2.1 n.2.2.2.2.2 hp.1
 have hR:=(Sv.jC hp.2).1
 have key:∀ rest,runN (fun k=>aJI n p (k:Int)) p.2.2.2.length (Sv.aJl n p p.2.2.2.length ++ rest)=some rest:=fun rest=>wQ _ rest fun c hc rest=>by
  have hcl:Sv.aJj n (c:Int):=⟨by omega,by omega⟩
  have hc0:Sv.aMQ n p (c:Int) (p.2.2.2.getD c []).length=0:=Sv.jP h0 _ (List.mem_map.2 ⟨c,List.mem_range.2 hc,rfl⟩)
  obtain ⟨q1,q2⟩:=hsh.dr _ (aW (l:=p.2.2.2) (i:=c) (d:=[]) hc)
  unfold aJI iO
  rw [Int.toNat_natCast]
  refine wQ _ rest fun o ho rest=>?_
  have ho0:Sv.aOS n p (c:Int) (o:Int) ((p.2.2.2.getD c []).getD o []).length=0:=by
   have:=Sv.jP hc0 _ (List.mem_map.2 ⟨o,List.mem_range.2 ho,rfl⟩)
   rwa [Int.toNat_natCast] at this
  obtain ⟨q3,_⟩:=q2 _ (aW (l:=p.2.2.2.getD c []) (i:=o) (d:=[]) ho)
  unfold aKj cellsD
  rw [Int.toNat_natCast,Int.toNat_natCast]
  refine wQ _ rest fun d hd rest=>?_
  have hd0:Sv.aAD n p (c:Int) (o:Int) (d:Int)=0:=Sv.jP ho0 _ (List.mem_map.2 ⟨d,List.mem_range.2 hd,rfl⟩)
  exact aOl hp ⟨⟨hno,by omega,by omega⟩,hcl,hR⟩ ⟨hno,by omega,by omega⟩ hd0 rest
 unfold aAt st1
 rw [Int.toNat_natCast]
 simpa using key []
theorem aBU {α:Type} {f:α→List Int} {s:Nat} (rest:List Int):∀ (l:List α) (k:Nat),(∀ x ∈ l,(f x).length=s)→k≤l.length→(l.flatMap f ++ rest).drop (k * s)=(l.drop k).flatMap f ++ rest
 | l,0,_,_=>by simp
 | [],k + 1,_,h=>by simp at h
 | a :: l,k + 1,h,hk=>by
  have ha:=h a (List.mem_cons_self ..)
  rw [List.flatMap_cons,List.append_assoc,show (k + 1) * s=(f a).length + k * s by rw [ha,Nat.succ_mul];omega,List.drop_append,List.drop_eq_nil_of_le (by omega),Nat.add_sub_cancel_left,List.nil_append,aBU rest l k (fun x hx=>h x (List.mem_cons_of_mem _ hx)) (by simpa using hk)]
  rfl
theorem aOH {m:Nat} {t:List (List Int)} (rest:List Int) (h1:t.length=m) (h2:∀ r ∈ t,r.length=m):nX (m:Int) (t.flatMap Sv.up1 ++ rest)=t:=by
 unfold nX mP
 apply List.ext_getElem
 ·simp [h1]
 intro i i1 i2
 have hr:(t[i]).length=m:=h2 _ (List.getElem_mem i2)
 rw [List.getElem_map,List.getElem_range]
 apply List.ext_getElem
 ·simp [hr]
 intro j j1 j2
 rw [List.getElem_map,List.getElem_range]
 unfold tg
 have e1:((i:Int) * (m:Int) + (j:Int)).toNat=i * m + j:=by
  rw [← Int.natCast_mul,← Int.natCast_add,Int.toNat_natCast]
 rw [e1]
 have e2:(t.flatMap Sv.up1 ++ rest).getD (i * m + j) 0=((t.flatMap Sv.up1 ++ rest).drop (i * m)).getD j 0:=by
  rw [List.getD_eq_getElem?_getD,List.getD_eq_getElem?_getD,List.getElem?_drop]
 rw [e2,aBU rest t i (fun r hr=>by rw [Sv.aAT,h2 r hr]) (by omega),List.drop_eq_getElem_cons i2,List.flatMap_cons,List.append_assoc]
 have e3:j < (Sv.up1 t[i]).length:=by rw [Sv.aAT];exact j2
 rw [List.getD_eq_getElem?_getD,List.getElem?_append_left e3,List.getElem?_eq_getElem e3,Option.getD_some]
 have e4:Sv.up1 t[i]=(t[i]).map fun x=>x + 1:=by unfold Sv.up1 Sv.upR;rw [Int.toNat_natCast,List.take_length]
 have e5:(Sv.up1 t[i])[j]=t[i][j] + 1:=by
  have:=List.getElem_map (fun x:Int=>x + 1) (l:=t[i]) (i:=j) (h:=by rw [List.length_map];exact j2)
  rw [← this]
  congr 1
 rw [e5];omega
theorem xR {α:Type} {f:α→List Int} {s:Nat}:∀ {l:List α},(∀ x ∈ l,(f x).length=s)→(l.flatMap f).length=l.length * s
 | [],_=>by simp
 | a :: l,h=>by
  rw [List.flatMap_cons,List.length_append,h a (List.mem_cons_self ..),xR fun x hx=>h x (List.mem_cons_of_mem _ hx),List.length_cons,Nat.succ_mul]
  omega
theorem aKx {n:Net} {p:Plan}:Sv.pW n p=p.1 :: p.2.1 :: (n.2.2.2.1.length:Int) :: (n.2.2.2.2.2.length:Int) :: (p.2.2.1.flatMap Sv.up1 ++ ((p.2.2.2.flatMap fun t=>t.flatMap Sv.up1) ++ Sv.aJl n p p.2.2.2.length)):=by
 unfold Sv.pW Sv.hdN Sv.h2N Sv.h1N Sv.h4N
 rw [Int.toNat_natCast,Int.toNat_natCast,List.take_length,List.take_length]
 simp
theorem aKn {n:Net} {p:Plan} (hp:Sv.qX n p):uD (Sv.pW n p)=true∧aI (Sv.pW n p)=p∧dP (Sv.pW n p)=Sv.aJl n p p.2.2.2.length:=by
 have hsh:=Sv.aBh hp
 have hR:0≤p.1∧p.1 < p.2.1∧p.2.1≤600∧p.2.1 - p.1≤60:=of_decide_eq_true (Sv.jC hp.2).1
 have m12:=hsh.m
 have q4:=hsh.q
 obtain ⟨p1,p2,nx,dy⟩:=p
 have nl:nx.length=n.2.2.2.1.length:=hsh.nl
 have dl:dy.length=n.2.2.2.2.2.length:=hsh.dl
 have lA:(nx.flatMap Sv.up1).length=n.2.2.2.1.length * n.2.2.2.1.length:=by rw [xR fun r hr=>(Sv.aAT r).trans (hsh.nr r hr).1,nl]
 have lT:∀ t ∈ dy,(t.flatMap Sv.up1).length=n.2.2.2.1.length * n.2.2.2.1.length:=fun t ht=>by
  obtain ⟨g1,g2⟩:=hsh.dr t ht
  rw [xR fun r hr=>(Sv.aAT r).trans (g2 r hr).1,g1]
 have lB:(dy.flatMap fun t=>t.flatMap Sv.up1).length=n.2.2.2.2.2.length * (n.2.2.2.1.length * n.2.2.2.1.length):=by rw [xR lT,dl]
 rw [aKx]
 generalize Sv.aJl n (p1,p2,nx,dy) dy.length=G
 generalize hm:n.2.2.2.1.length=m at *
 generalize hq:n.2.2.2.2.2.length=q at *
 have eM:(m:Int) * (m:Int)=((m * m:Nat):Int):=(Int.natCast_mul m m).symm
 have eQ:(q:Int) * (((m * m:Nat):Int))=((q * (m * m):Nat):Int):=(Int.natCast_mul q (m * m)).symm
 have d4:dG (p1 :: p2 :: (m:Int) :: (q:Int) :: (nx.flatMap Sv.up1 ++ ((dy.flatMap fun t=>t.flatMap Sv.up1) ++ G))) 4=nx.flatMap Sv.up1 ++ ((dy.flatMap fun t=>t.flatMap Sv.up1) ++ G):=rfl
 have dA:dG (p1 :: p2 :: (m:Int) :: (q:Int) :: (nx.flatMap Sv.up1 ++ ((dy.flatMap fun t=>t.flatMap Sv.up1) ++ G))) (4 + (m:Int) * m)=(dy.flatMap fun t=>t.flatMap Sv.up1) ++ G:=by
  unfold dG
  rw [eM,show (4 + ((m * m:Nat):Int)).toNat=m * m + 1 + 1 + 1 + 1 by omega]
  simp only [List.drop_succ_cons]
  rw [← lA,List.drop_append,Nat.sub_self,List.drop_length];rfl
 have dB:dG (p1 :: p2 :: (m:Int) :: (q:Int) :: (nx.flatMap Sv.up1 ++ ((dy.flatMap fun t=>t.flatMap Sv.up1) ++ G))) (4 + (m:Int) * m + (q:Int) * ((m:Int) * m))=G:=by
  unfold dG
  rw [eM,eQ,show (4 + ((m * m:Nat):Int) + ((q * (m * m):Nat):Int)).toNat=(m * m + q * (m * m)) + 1 + 1 + 1 + 1 by omega]
  simp only [List.drop_succ_cons]
  rw [← lA,← List.append_assoc,show (nx.flatMap Sv.up1).length + q * (nx.flatMap Sv.up1).length=(nx.flatMap Sv.up1 ++ dy.flatMap fun t=>t.flatMap Sv.up1).length by rw [List.length_append,lB,lA],List.drop_append,Nat.sub_self,List.drop_length];rfl
 refine ⟨?_,?_,dB⟩
 ·unfold uD aAe
  show (decide (4≤(p1 :: p2 :: (m:Int) :: (q:Int) :: (nx.flatMap Sv.up1 ++ ((dy.flatMap fun t=>t.flatMap Sv.up1) ++ G))).length) && decide ((m:Int)≤12∧(q:Int)≤4∧p1 < p2∧p2≤p1 + 60∧p2≤600) && decide (4 + (m:Int) * m + (q:Int) * ((m:Int) * m)≤((p1 :: p2 :: (m:Int) :: (q:Int) :: (nx.flatMap Sv.up1 ++ ((dy.flatMap fun t=>t.flatMap Sv.up1) ++ G))).length:Int)))=true
  simp only [Bool.and_eq_true,decide_eq_true_eq,List.length_cons,List.length_append,lA,lB,eM,eQ]
  simp only at hR
  omega
 ·unfold aI
  rw [show (p1 :: p2 :: (m:Int) :: (q:Int) :: (nx.flatMap Sv.up1 ++ ((dy.flatMap fun t=>t.flatMap Sv.up1) ++ G))).getD 2 0=(m:Int) from rfl,show (p1 :: p2 :: (m:Int) :: (q:Int) :: (nx.flatMap Sv.up1 ++ ((dy.flatMap fun t=>t.flatMap Sv.up1) ++ G))).getD 3 0=(q:Int) from rfl,d4,dA,aOH _ nl fun r hr=>(hsh.nr r hr).1.trans hm]
  have:aAu (q:Int) (m:Int) ((dy.flatMap fun t=>t.flatMap Sv.up1) ++ G)=dy:=by
   unfold aAu
   apply List.ext_getElem
   ·simp [dl]
   intro k k1 k2
   obtain ⟨g1,g2⟩:=hsh.dr _ (List.getElem_mem k2)
   rw [List.getElem_map,List.getElem_range]
   unfold dG
   rw [eM,← Int.natCast_mul,Int.toNat_natCast,aBU G dy k lT (by omega),List.drop_eq_getElem_cons k2,List.flatMap_cons,List.append_assoc]
   exact aOH _ (g1.trans hm) fun r hr=>(g2 r hr).1.trans hm
  rw [this];rfl
theorem aHu {n:Net} {p:Plan} {d:Int} (h1:0≤p.1∧p.1≤600):∀ (k:Nat) (o t:Int),Sv.aL4 n p.2.2.1 o d t→1440 * p.1≤t→(Sv.nC n p.2.2.1 d k o t).2=0→∀ x ∈ Sv.mY n p.1 (Sv.nC n p.2.2.1 d k o t).1.dropLast,0≤x∧x≤65519
 | k,o,t,hp,h0,h,x,hx=>by
  obtain ⟨hs,ht,u0,u1,o0,o1,v0,v1⟩:=id hp
  by_cases he:o=d
  ·rw [Sv.aCl k he] at hx;cases hx
  by_cases hm:Sv.nxt p.2.2.1 o d=-1
  ·rw [Sv.rD k he hm] at h;cases h
  by_cases h6:Sv.aAM n (Sv.nxt p.2.2.1 o d) (Sv.aK n o t)=0
  case neg=>rw [Sv.vK k he hm h6] at h;exact absurd h h6
  cases k with
  | zero=>rw [Sv.tK he hm h6] at h;cases h
  | succ k =>
   have hno:Sv.noF n=true:=Sv.kG n.1 n.2.1 n.2.2.1 n.2.2.2.1 n.2.2.2.2.1 n.2.2.2.2.2 hs
   obtain ⟨_,_,c3⟩:(p.2.2.1.length:Int)=n.2.2.2.1.length∧((p.2.2.1.getD o.toNat []).length:Int)=n.2.2.2.1.length∧(Sv.nxt p.2.2.1 o d≠-1→(0≤Sv.nxt p.2.2.1 o d∧Sv.nxt p.2.2.1 o d < n.2.2.2.2.1.length)∧Sv.jE n (Sv.nxt p.2.2.1 o d)=o):=Sv.aAG n.1 n.2.1 n.2.2.1 n.2.2.2.1 n.2.2.2.2.1 n.2.2.2.2.2 ht u0 u1 o0 o1
   obtain ⟨⟨l0,l1⟩,lf⟩:=c3 hm
   have hlin:Sv.aRL n (Sv.nxt p.2.2.1 o d):=⟨hno,l0,l1⟩
   obtain ⟨g1,g2,g3,g4,g5,g6,g7,g8⟩:0≤Sv.jE n (Sv.nxt p.2.2.1 o d)∧Sv.jE n (Sv.nxt p.2.2.1 o d) < n.2.2.2.1.length∧0≤Sv.aAy n (Sv.nxt p.2.2.1 o d)∧Sv.aAy n (Sv.nxt p.2.2.1 o d) < n.2.2.2.1.length∧0≤Sv.aHr n (Sv.nxt p.2.2.1 o d)∧Sv.aHr n (Sv.nxt p.2.2.1 o d)≤1439∧1≤Sv.iC n (Sv.nxt p.2.2.1 o d)∧Sv.iC n (Sv.nxt p.2.2.1 o d)≤5000:=Sv.aEX n.1 n.2.1 n.2.2.1 n.2.2.2.1 n.2.2.2.2.1 n.2.2.2.2.2 hlin
   obtain ⟨b1,b2,b3,b4⟩:0≤Sv.aK n o t∧Sv.aK n o t≤2000000∧Sv.aK n o t≤Sv.rC n (Sv.nxt p.2.2.1 o d) (Sv.aK n o t)∧Sv.rC n (Sv.nxt p.2.2.1 o d) (Sv.aK n o t)≤Sv.aK n o t + 90000:=Sv.zG n.1 n.2.1 n.2.2.1 n.2.2.2.1 n.2.2.2.2.1 n.2.2.2.2.2 hlin h6
   obtain ⟨_,_,r1,r2⟩:inR .i64 ((Sv.kX n o).2.2.2.2.1 * (Sv.kX n o).2.2.2.2.2.1)∧inR .i64 (Sv.aK n o t)∧t≤Sv.aK n o t∧Sv.aK n o t≤t + 960:=Sv.yN n.1 n.2.1 n.2.2.1 n.2.2.2.1 n.2.2.2.2.1 n.2.2.2.2.2 ⟨⟨hno,u0,u1⟩,by omega,by omega⟩
   have hv:Sv.bM (aB n o).1 (aB n o).2.1 (aB n o).2.2=true:=(Sv.oG n.1 n.2.1 n.2.2.1 n.2.2.2.1 n.2.2.2.2.1 n.2.2.2.2.2 ⟨hno,u0,u1⟩).2.2.1
   obtain ⟨⟨z1,z2,_,_⟩,_⟩:=Sv.fJ.1 hv
   rw [Sv.tJ k he hm h6] at h hx
   by_cases h7:(Sv.nC n p.2.2.1 d k (Sv.aAy n (Sv.nxt p.2.2.1 o d)) (Sv.rC n (Sv.nxt p.2.2.1 o d) (Sv.aK n o t) + Sv.iC n (Sv.nxt p.2.2.1 o d))).2=0
   case neg=>rw [Sv.aDk h7] at h;exact absurd h h7
   have hp':Sv.aL4 n p.2.2.1 (Sv.aAy n (Sv.nxt p.2.2.1 o d)) d (Sv.rC n (Sv.nxt p.2.2.1 o d) (Sv.aK n o t) + Sv.iC n (Sv.nxt p.2.2.1 o d)):=⟨hs,ht,g3,g4,o0,o1,by omega,by omega⟩
   obtain ⟨_,i2,_⟩:=Sv.aC2 k _ _ hp' h7
   rw [Sv.aF5 h7] at hx
   have hx:x ∈ Sv.mY n p.1 (([(o,t,Sv.rC n (Sv.nxt p.2.2.1 o d) (Sv.aK n o t),Sv.nxt p.2.2.1 o d)] ++ (Sv.nC n p.2.2.1 d k (Sv.aAy n (Sv.nxt p.2.2.1 o d)) (Sv.rC n (Sv.nxt p.2.2.1 o d) (Sv.aK n o t) + Sv.iC n (Sv.nxt p.2.2.1 o d))).1).dropLast):=hx
   rw [List.singleton_append,List.dropLast_cons_of_ne_nil i2] at hx
   rcases List.mem_cons.1 hx with rfl | hx
   ·show 0≤Sv.nT (aB n o).1 (Sv.rC n (Sv.nxt p.2.2.1 o d) (Sv.aK n o t)) + (2 - p.1)∧Sv.nT (aB n o).1 (Sv.rC n (Sv.nxt p.2.2.1 o d) (Sv.aK n o t)) + (2 - p.1)≤65519
    unfold Sv.nT
    omega
   ·exact aHu h1 k _ _ hp' (by omega) h7 x hx
theorem aQO {n:Net} (h:Sv.noF n=true):usF n=true:=by
 have hc:=((Sv.aDy (by decide)).1 (Sv.pX n.1 n.2.1 n.2.2.1 n.2.2.2.1 n.2.2.2.2.1 n.2.2.2.2.2 h).2.1).2.2.2
 have ho:=(Sv.aDn n.1 n.2.1 n.2.2.1 n.2.2.2.1 n.2.2.2.2.1 n.2.2.2.2.2 h).2.2.2
 have hl:=(Sv.aBq n.1 n.2.1 n.2.2.1 n.2.2.2.1 n.2.2.2.2.1 n.2.2.2.2.2 h).2.2.2
 have hk:=Sv.aHn n.1 n.2.1 n.2.2.1 n.2.2.2.1 n.2.2.2.2.1 n.2.2.2.2.2 h
 unfold usF
 simp only [Bool.and_eq_true,List.all_eq_true]
 refine ⟨⟨⟨fun c hcm=>?_,fun o hom=>?_⟩,fun l hlm=>?_⟩,fun k hkm=>?_⟩
 ·obtain ⟨i,hi,rfl⟩:=List.mem_iff_getElem.1 hcm
  have hcl:(Sv.aP n.1 n.2.1).length=n.1.length:=by unfold Sv.aP;simp
  have:=hc i (by omega)
  unfold Sv.bY at this
  rw [Sv.uI (fun c:Int×List Bool×List Int=>Sv.bM c.1 c.2.1 c.2.2) n.1 _ (0,[],[]) false (by omega),List.getD_eq_getElem?_getD,List.getElem?_eq_getElem hi] at this
  exact this
 ·have:=ho o hom
  unfold Sv.iV Sv.mW Sv.iW at this
  simp only [Bool.and_eq_true,decide_eq_true_eq] at this
  unfold pU btw
  simp only [Bool.and_eq_true,decide_eq_true_eq]
  omega
 ·obtain ⟨g1,g2,g3,g4,g5,g6,g7,g8⟩:=Sv.sF (hl l hlm)
  have a1:0≤l.2.1:=g1
  have a2:l.2.1 < n.2.2.2.1.length:=g2
  have a3:0≤l.2.2.1:=g3
  have a4:l.2.2.1 < n.2.2.2.1.length:=g4
  have a5:0≤l.2.2.2.1∧l.2.2.2.1≤1439:=g6
  have a6:1≤l.2.2.2.2.1:=g7
  have a7:l.2.2.2.2.1≤5000:=g8
  unfold pY nR btw
  simp only [Bool.and_eq_true,decide_eq_true_eq]
  omega
 ·have:=hk k hkm
  unfold Sv.lM Sv.iW at this
  simp only [Bool.and_eq_true,decide_eq_true_eq] at this
  unfold qJ btw
  simp only [Bool.and_eq_true,decide_eq_true_eq]
  omega
theorem aN3 {n:Net} {p:Plan} (hp:Sv.qX n p):aDG n p=true:=by
 have hsh:=Sv.aBh hp
 have hT:=(Sv.jC hp.2).2.1
 have hl:(p.2.2.1.length:Int)=n.2.2.2.1.length:=by have:=hsh.nl;omega
 unfold aDG
 simp only [Bool.and_eq_true,decide_eq_true_eq,List.all_eq_true,List.mem_range]
 refine ⟨⟨hsh.nl,hsh.dl⟩,fun i hi=>?_⟩
 have h1:=(Sv.aFT (n:=n) hl).1 hT i (by omega)
 unfold Sv.rowOk at h1
 simp only [Bool.and_eq_true,decide_eq_true_eq,List.all_eq_true] at h1
 unfold rO
 rw [List.all_eq_true]
 intro x hx
 have h2:=h1.2 x hx
 unfold Sv.gX Sv.mW at h2
 simp only [Bool.or_eq_true,Bool.and_eq_true,decide_eq_true_eq] at h2
 unfold lW
 simp only [Bool.or_eq_true,Bool.and_eq_true,decide_eq_true_eq]
 rcases h2 with h2 | ⟨h2,h3⟩
 ·exact .inl h2
 ·exact .inr ⟨h2.2,h3⟩
theorem aLF {n:Net} {p:Plan} (h:Sv.wrE n p=0):Acc n (Sv.pW n p)∧aI (Sv.pW n p)=p:=by
 have hp:Sv.qX n p:=by
  refine Classical.byContradiction fun g=>?_
  have:Sv.wrE n p=1:=if_neg g
  omega
 have hW:Sv.wrE n p=if Sv.aHS n p p.2.2.2.length≠0 then Sv.aHS n p p.2.2.2.length else if (Sv.pW n p).length > 40000 then 2 else 0:=if_pos hp
 rw [h] at hW
 have h0:Sv.aHS n p p.2.2.2.length=0:=Decidable.byContradiction fun g=>by
  rw [if_pos g] at hW;exact g hW.symm
 rw [if_neg (fun g=>g h0)] at hW
 have hlen:(Sv.pW n p).length≤40000:=Decidable.byContradiction fun g=>by
  rw [if_pos (by omega)] at hW;cases hW
 obtain ⟨r1,r2,r3⟩:=aKn hp
 have hsh:=Sv.aBh hp
 have hno:Sv.noF n=true:=Sv.kG n.1 n.2.1 n.2.2.1 n.2.2.2.1 n.2.2.2.2.1 n.2.2.2.2.2 hp.1
 have hRp:=(Sv.jC hp.2).1
 have hR:0≤p.1∧p.1 < p.2.1∧p.2.1≤600∧p.2.1 - p.1≤60:=of_decide_eq_true hRp
 have m12:=hsh.m
 have q4:=hsh.q
 have dl:=hsh.dl
 have hup:∀ (r:List Int) (x:Int),(∀ y ∈ r,-1≤y∧y≤65518)→x ∈ Sv.up1 r→0≤x∧x≤65519:=fun r x hr hx=>by
  unfold Sv.up1 Sv.upR at hx
  obtain ⟨y,hy,rfl⟩:=List.mem_map.1 hx
  have:=hr y (List.mem_of_mem_take hy)
  omega
 refine ⟨⟨gK.2 fun x hx=>?_,r1,aQO hno,by rw [r2];exact aN3 hp,hlen,by rw [r2,r3];exact aRt hp h0⟩,r2⟩
 rw [aKx] at hx
 simp only [List.mem_cons,List.mem_append] at hx
 rcases hx with rfl | rfl | rfl | rfl | hx | hx | hx
 ·omega
 ·omega
 ·omega
 ·omega
 ·obtain ⟨r,hr,hx⟩:=List.mem_flatMap.1 hx
  exact hup r x (fun y hy=>by have:=(hsh.nr r hr).2 y hy;omega) hx
 ·obtain ⟨t,ht,hx⟩:=List.mem_flatMap.1 hx
  obtain ⟨r,hr,hx⟩:=List.mem_flatMap.1 hx
  exact hup r x ((hsh.dr t ht).2 r hr).2 hx
 ·obtain ⟨c,hc,hx⟩:=List.mem_flatMap.1 hx
  have hc:=List.mem_range.1 hc
  have hcl:Sv.aJj n (c:Int):=⟨by omega,by omega⟩
  have hc0:Sv.aMQ n p (c:Int) (p.2.2.2.getD c []).length=0:=Sv.jP h0 _ (List.mem_map.2 ⟨c,List.mem_range.2 hc,rfl⟩)
  obtain ⟨q1,q2⟩:=hsh.dr _ (aW (l:=p.2.2.2) (i:=c) (d:=[]) hc)
  obtain ⟨o,ho,hx⟩:=List.mem_flatMap.1 hx
  have ho:=List.mem_range.1 ho
  rw [Int.toNat_natCast] at hx
  have ho0:Sv.aOS n p (c:Int) (o:Int) ((p.2.2.2.getD c []).getD o []).length=0:=by
   have:=Sv.jP hc0 _ (List.mem_map.2 ⟨o,List.mem_range.2 ho,rfl⟩)
   rwa [Int.toNat_natCast] at this
  obtain ⟨q3,_⟩:=q2 _ (aW (l:=p.2.2.2.getD c []) (i:=o) (d:=[]) ho)
  obtain ⟨d,hd,hx⟩:=List.mem_flatMap.1 hx
  have hd:=List.mem_range.1 hd
  have hd0:Sv.aAD n p (c:Int) (o:Int) (d:Int)=0:=Sv.jP ho0 _ (List.mem_map.2 ⟨d,List.mem_range.2 hd,rfl⟩)
  have hcp:Sv.sN n p (c:Int) (o:Int):=⟨⟨hno,by omega,by omega⟩,hcl,hRp⟩
  unfold Sv.aAC at hx
  unfold Sv.aAD at hd0
  split at hx
  ·cases hx
  ·rename_i hne
   rw [if_neg hne] at hd0
   obtain ⟨cut,hcut,hx⟩:=List.mem_flatMap.1 hx
   have hcut:=List.mem_of_mem_take hcut
   exact aHu ⟨hR.1,by omega⟩ 19 (o:Int) cut (Sv.aDQ hp hcp ⟨hno,by omega,by omega⟩ hcut) (Sv.aDR hcp hcut).1 (Sv.aDT (Sv.aBE hd0 _ hcut)).1 x hx
end Go.Eng.In

set_option maxRecDepth 100000
noncomputable section
namespace Go.Eng.In
open Go.Proofs
def w12 (p:Plan):Bool:=decide (p.2.1 > IntKind.i64.wrap (p.1 + 12)) && decide (p.2.1≤IntKind.i64.wrap (p.1 + 60))
def sxT (t:List (List Int)):Bool:=decide ((t.length:Int)≤10) && t.all fun r=>decide ((r.length:Int)≤10)
def sxB (n:Net) (p:Plan):Bool:=(smF n p.2.2.1 && decide ((n.2.2.2.2.2.length:Int)≤3)) && (!w12 p && decide ((p.2.2.2.length:Int)≤5))
def aM7 (n:Net) (p:Plan):Bool:=sxB n p && p.2.2.2.all sxT
def aS2 (n:Net) (p:Plan) (k:Int):Prop:=sxB n p=true∧(0≤k∧k≤p.2.2.2.length)∧∀ i:Nat,(i:Int) < k→sxT (p.2.2.2.getD i [])=true
def aMW (n:Net) (p:Plan) (k j:Int):Prop:=(aS2 n p k∧k < p.2.2.2.length)∧(((p.2.2.2.getD k.toNat []).length:Int)≤10∧0≤j∧j≤(p.2.2.2.getD k.toNat []).length)∧∀ i:Nat,(i:Int) < j→(((p.2.2.2.getD k.toNat []).getD i []).length:Int)≤10
def sxA (n:Net) (p:Plan):Ann:=⟨fun id s=>match id with
 | 4=>some { α:=Int,inv:=fun k=>aS2 n p k,st:=fun k=>put (jK s) [(5,.dat I k)],μ:=fun k=>D.nat (D.sub (D.ilen p.2.2.2) k) }
 | 9=>match s.sig.T 5 with
  | .dat (.int .i64) k=>some { α:=Int,inv:=fun j=>aMW n p k j,st:=fun j=>put (jK s) [(6,.dat I j)],μ:=fun j=>D.nat (D.sub 10 j) }
  | _=>none
 | _=>none,fun _ _=>none,fun _ _=>none⟩
theorem aPA (cs:List Cal) (ns os:List ByteArray) (fs:List Off) (ls:List Line) (ks:List Cla) (p1 p2:Int) (nx:List (List Int)) (dy:List (List (List Int))) (hvc :
 let c1:=(cs,ns,os,fs,ls,ks);
 let c2:=smF c1 nx;
 let c3:=D.not c2;
 let c4:=D.not c3;
 let c5:=D.cnd c3 true (D.gt (D.ilen ks) (3:Int));
 let c6:=D.not c5;
 let c7:=D.gt p2 (D.wrap IntKind.i64 (D.add p1 (12:Int)));
 let c8:=D.cnd c5 true (D.cnd c7 (D.le p2 (D.wrap IntKind.i64 (D.add p1 (60:Int)))) false);
 let c9:=D.not c8;
 let c10:=D.ilen dy;
 let c11:=D.cnd c8 true (D.gt c10 (5:Int));
 let c12:=(nx,dy);
 let c13:=(p1,p2,c12);
 let c14:=aM7 c1 c13;true=true∧(True→True∧(c4=true→c4=true→c4=true)∧(c4=true→c4=true→c4=true)∧(c4=true→c4=true→c4 =
 true)∧(D.and true c4=true→c4=true)∧(c6=true→c6=true→c6=true)∧(c6=true→c6=true→c6=true)∧(c6=true→c6=true→c6=true) ∧
 (c6=true→c6=true→c6=true)∧(c6=true→c6=true→c6=true)∧(c6=true→c6=true→c6=true)∧(D.and c6 c7=true→D.and c6 c7=true →
 D.and c6 c7=true)∧(D.and c6 c7=true→D.and c6 c7=true→D.and c6 c7=true)∧(D.and c6 c7=true→D.and c6 c7=true→D.and c6 c7=true)∧(D.and
 c6 c7=true→D.and c6 c7=true→D.and c6 c7=true)∧(D.and c6 c7=true→D.and c6 c7=true→D.and c6 c7=true)∧(c6=true→c6=true→c6=true)
 ∧ (c6=true→D.and c6 c7=true→D.and c6 c7=true)∧(D.and true c6=true→c6=true)∧(c9=true→c9=true→c9=true)∧(c9=true→c9=true →
 c9=true)∧(c9=true→c9=true→c9=true)∧(D.and true c9=true→c9=true)∧(c11=true→false=c14∧True)∧(c11=false→(∃ x,aS2 c1 c13 x
 ∧ cs=cs∧ns=ns∧os=os∧fs=fs∧ls=ls∧ks=ks∧p1=p1∧p2=p2∧nx=nx∧dy=dy∧c1=c1∧c13=c13∧(0:Int)=x∧cs=cs∧ns=ns ∧
 os=os∧fs=fs∧ls=ls∧ks=ks∧c12=c12∧nx=nx∧c2=c2∧c3=c3∧c3=c3∧c5=c5∧c5=c5∧c8=c8∧c8=c8∧c11=c11∧True)∧∀ (x :
 Int),
 let c15:=D.get dy (D.nat x) (D.nil (List Int));
 let c16:=D.ilen c15;
 let c17:=D.gt c16 (10:Int);
 let c18:=D.add x (1:Int);aS2 c1 c13 x→(D.lt x c10=true→D.ile (0:Int) x∧D.ilt x c10∧(c17=true→false=c14∧True)∧(c17=false→(∃ x_4,
 aMW c1 c13 x x_4∧cs=cs∧ns=ns∧os=os∧fs=fs∧ls=ls∧ks=ks∧p1=p1∧p2=p2∧nx=nx∧dy=dy∧c1=c1∧c13=c13∧x=x∧(0 :
 Int)=x_4∧cs=cs∧ns=ns∧os=os∧fs=fs∧ls=ls∧ks=ks∧c12=c12∧nx=nx∧c2=c2∧c3=c3∧c3=c3∧c5=c5∧c5=c5∧c8=c8∧c8 =
 c8∧c11=c11∧x=x∧dy=dy∧dy=dy∧c10=c10∧D.lt x c10=D.lt x c10∧dy=dy∧dy=dy∧x=x∧c15=c15∧c15=c15∧c16=c16∧c17=c17 ∧
 True)∧∀ (x_4:Int),
 let c19:=D.gt (D.ilen (D.get c15 (D.nat x_4) (D.nil Int))) (10:Int);
 let c20:=D.add x_4 (1:Int);aMW c1 c13 x x_4→D.ile (0:Int) x∧D.ilt x c10∧(D.lt x_4 c16=true→D.ile (0:Int) x∧D.ilt x c10∧D.ile (0:Int)
 x_4∧D.ilt x_4 c16∧(c19=true→false=c14∧True)∧(c19=false→inR IntKind.i64 c20∧∃ y,aMW c1 c13 x y∧(cs=cs∧ns=ns∧os=os∧fs=fs ∧
 ls=ls∧ks=ks∧p1=p1∧p2=p2∧nx=nx∧dy=dy∧c1=c1∧c13=c13∧x=x∧c20=y∧cs=cs∧ns=ns∧os=os∧fs=fs∧ls=ls∧ks=ks ∧
 c12=c12∧nx=nx∧c2=c2∧c3=c3∧c3=c3∧c5=c5∧c5=c5∧c8=c8∧c8=c8∧c11=c11∧x=x∧dy=dy∧dy=dy∧c10=c10∧D.lt x c10 =
 D.lt x c10∧dy=dy∧dy=dy∧x=x∧c15=c15∧c15=c15∧c16=c16∧c17=c17∧True)∧D.nlt (D.nat (D.sub (10:Int) y)) (D.nat (D.sub (10:Int)
 x_4))))∧(D.lt x_4 c16=false→inR IntKind.i64 c18∧∃ y,aS2 c1 c13 y∧(cs=cs∧ns=ns∧os=os∧fs=fs∧ls=ls∧ks=ks∧p1=p1∧p2=p2 ∧
 nx=nx∧dy=dy∧c1=c1∧c13=c13∧c18=y∧cs=cs∧ns=ns∧os=os∧fs=fs∧ls=ls∧ks=ks∧c12=c12∧nx=nx∧c2=c2∧c3=c3∧c3 =
 c3∧c5=c5∧c5=c5∧c8=c8∧c8=c8∧c11=c11∧True)∧D.nlt (D.nat (D.sub c10 y)) (D.nat (D.sub c10 x)))))∧(D.lt x c10=false→true=c14 ∧
 True)))) :
  evF { mkc KH with mb:=fun t=>t == 23 || t == 30 } (sxA (cs,ns,os,fs,ls,ks) (p1,p2,nx,dy)) 15 [.agg [.dat (.sl C) cs,.dat (.sl S) ns,.dat (.sl S) os,.dat (.sl Of) fs,.dat (.sl Ln) ls,.dat (.sl Kl) ks],.agg [.dat I p1,.dat I p2,.dat M nx,.dat (.sl M) dy]] [] ⟨True,.dat .bool (aM7 (cs,ns,os,fs,ls,ks) (p1,p2,nx,dy)),[]⟩:=@of_eq _ _ (by kernel_rfl) hvc
def KB:Kt:=kOr 16 (bD [.row N,.row Pl] (fun (_,p,_)=>Sv.aBV p) fun (n,p,_)=>.tup [.agg [.dat R (Sv.wrN n p),.dat I (Sv.wrS n p)],.dat I (Sv.wrE n p)]) <|
 kOr 15 (bD [.row N,.row Pl] (fun _=>True) fun (n,p,_)=>.dat .bool (aM7 n p)) KH
noncomputable def cB:Cfg:=⟨Tryz.prog,Sv.G0,KB,fun _=>false,KI0,false,fun _ _ _=>none,fun _=>false⟩
theorem aSD (cs:List Cal) (ns os:List ByteArray) (fs:List Off) (ls:List Line) (ks:List Cla) (p1 p2:Int) (nx:List (List Int)) (dy:List (List (List Int))) (hvc :
 let c1:=(cs,ns,os,fs,ls,ks);
 let c2:=(p1,p2,nx,dy);
 let c3:=D.not (aM7 c1 c2);
 let c4:=D.ne (Sv.wrE c1 c2) (0:Int);
 let c5:=Sv.wrN c1 c2;
 let c6:=Sv.wrS c1 c2;
 let c7:=(c5,c6);
 let c8:=D.cnd true (D.eq (yR c7) (0:Int)) false;
 let c9:=mG c7;
 let c10:=c9.snd;
 let c11:=c10.snd;
 let c12:=D.cnd c8 (aFY c2 (c9.fst,c10.fst,c11.fst,c11.snd)) false;true=true∧(True→True∧True∧(c3=true→true=true∧True)∧(c3=false →
 Sv.aBV c2∧1=1∧0=0∧(c4=true→true=true∧True)∧(c4=false→1=1∧0=0∧xJ c5∧1=1∧0=0∧(true=true→true=true→true =
 true)∧(D.and true true=true→true=true)∧(c8=true→1=1)∧(c8=true→0=0)∧(c8=true→c8=true→c8=true)∧(c8=true→c8=true→c8
 = true)∧(c8=true→aDr c2)∧(D.and true c8=true→c8=true)∧(c12=true→1=1)∧(c12=true→0=0)∧(c12=true→c12=true→c12=true) ∧
 (c12=true→c12=true→c12=true)∧(c12=true→xJ c5∧uH c1)∧(c12=true→c12=true→c12=true)∧(D.and true c12=true→c12=true) ∧
 D.cnd c12 (D.eq (dD c1 c5 c6) (0:Int)) false=true∧True)))) :
  evF cB bF 4 [.agg [.dat (.sl C) cs,.dat (.sl S) ns,.dat (.sl S) os,.dat (.sl Of) fs,.dat (.sl Ln) ls,.dat (.sl Kl) ks],.agg [.dat I p1,.dat I p2,.dat M nx,.dat (.sl M) dy]] [] ⟨True,.dat .bool true,[]⟩:=@of_eq _ _ (by kernel_rfl) hvc
theorem aVa {l:List (List Int)} (h:∀ i:Nat,(i:Int) < (l.length:Int)→((l.getD i []).length:Int)≤10):l.all (fun r=>decide ((r.length:Int)≤10))=true:=by
 refine List.all_eq_true.2 fun r hr=>?_
 obtain ⟨i,hi,rfl⟩:=List.mem_iff_getElem.1 hr
 have:=h i (by omega)
 rw [List.getD_eq_getElem?_getD,List.getElem?_eq_getElem hi,Option.getD_some] at this
 rw [decide_eq_true_eq];exact this
theorem aSL (cs:List Cal) (ns os:List ByteArray) (fs:List Off) (ls:List Line) (ks:List Cla) (p1 p2:Int) (nx:List (List Int)) (dy:List (List (List Int))):aC Tryz.prog fC 15 [.agg [.dat (.sl C) cs,.dat (.sl S) ns,.dat (.sl S) os,.dat (.sl Of) fs,.dat (.sl Ln) ls,.dat (.sl Kl) ks],.agg [.dat I p1,.dat I p2,.dat M nx,.dat (.sl M) dy]] [] ⟨True,.dat .bool (aM7 (cs,ns,os,fs,ls,ks) (p1,p2,nx,dy)),[]⟩:=by
 refine aA (c:={ mkc KH with mb:=fun t=>t == 23 || t == 30 }) KHs cO hm (aPA cs ns os fs ls ks p1 p2 nx dy ⟨rfl,fun _=>?_⟩)
 simp only [qI,gQ,D.and,D.not,Bool.true_and,eq_self,true_and,and_true,imp_self,implies_true,Bool.not_eq_true',Bool.or_eq_true,Bool.or_eq_false_iff,Bool.not_eq_false',Bool.and_eq_true,Bool.and_eq_false_imp,Bool.not_not,exists_eq_right',D.nil,D.lt,D.gt,D.le,D.ilen,D.ile,D.ilt,D.nlt,D.sub,D.add,D.nat,D.get,decide_eq_true_eq,decide_eq_false_iff_not,D.wrap]
 have e1:aM7 (cs,ns,os,fs,ls,ks) (p1,p2,nx,dy)=(sxB (cs,ns,os,fs,ls,ks) (p1,p2,nx,dy) && dy.all sxT):=rfl
 have e2:sxB (cs,ns,os,fs,ls,ks) (p1,p2,nx,dy)=((smF (cs,ns,os,fs,ls,ks) nx && decide ((ks.length:Int)≤3)) && (!w12 (p1,p2,nx,dy) && decide ((dy.length:Int)≤5))):=rfl
 have e3:w12 (p1,p2,nx,dy)=(decide (p2 > IntKind.i64.wrap (p1 + 12)) && decide (p2≤IntKind.i64.wrap (p1 + 60))):=rfl
 generalize aM7 (cs,ns,os,fs,ls,ks) (p1,p2,nx,dy)=W at e1
 generalize w12 (p1,p2,nx,dy)=w at e2 e3
 have e0:sxB (cs,ns,os,fs,ls,ks) (p1,p2,nx,dy)=false→false=W:=fun h=>by rw [e1,h];rfl
 have ef:dy.all sxT=false→false=W:=fun h=>by rw [e1,h,Bool.and_false]
 refine ⟨fun h=>e0 ?_,fun ⟨⟨⟨h1,h2⟩,h3⟩,h4⟩=>?_⟩
 ·rw [e2]
  rcases h with ((h | h) | ⟨h,h'⟩) | h
  ·rw [h];rfl
  ·rw [decide_eq_false (p:=(ks.length:Int)≤3) (by omega),Bool.and_false];rfl
  ·rw [e3,decide_eq_true h,decide_eq_true h',Bool.and_true,Bool.not_true,Bool.false_and,Bool.and_false]
  ·rw [decide_eq_false (p:=(dy.length:Int)≤5) (by omega),Bool.and_false,Bool.and_false]
 have eB:sxB (cs,ns,os,fs,ls,ks) (p1,p2,nx,dy)=true:=by
  have hw:w=false:=by
   rw [e3]
   by_cases h:p2 > IntKind.i64.wrap (p1 + 12)
   ·rw [decide_eq_false (p:=p2≤_) (h3 h),Bool.and_false]
   ·rw [decide_eq_false h];rfl
  rw [e2,h1,hw,decide_eq_true (p:=(ks.length:Int)≤3) (by omega),decide_eq_true (p:=(dy.length:Int)≤5) (by omega)];rfl
 refine ⟨⟨eB,⟨Int.le_refl _,Int.natCast_nonneg _⟩,fun i h=>by omega⟩,fun x hx=>⟨fun hlt=>?_,fun hge=>?_⟩⟩
 ·have x0:0≤x:=hx.2.1.1
  have hmem:dy.getD x.toNat [] ∈ dy:=by
   rw [List.getD_eq_getElem?_getD,List.getElem?_eq_getElem (show x.toNat < dy.length by omega),Option.getD_some];exact List.getElem_mem _
  have hbad:sxT (dy.getD x.toNat [])=false→false=W:=fun h=>ef (List.all_eq_false.2 ⟨_,hmem,by rw [h];decide⟩)
  refine ⟨x0,hlt,fun hb=>hbad ?_,fun hb=>⟨⟨⟨hx,hlt⟩,⟨by show ((dy.getD x.toNat []).length:Int)≤10;omega,Int.le_refl _,Int.natCast_nonneg _⟩,fun i h=>by omega⟩,fun y hy=>⟨x0,hlt,fun hy1=>⟨x0,hlt,hy.2.1.2.1,hy1,fun hb2=>hbad ?_,fun hb2=>?_⟩,fun hy1=>?_⟩⟩⟩
  ·unfold sxT;rw [decide_eq_false (by omega)];rfl
  ·have hm2:(dy.getD x.toNat []).getD y.toNat [] ∈ dy.getD x.toNat []:=by
    have:=hy.2.1.2.1
    exact aW (by omega)
   unfold sxT
   rw [show ((dy.getD x.toNat []).all fun r=>decide ((r.length:Int)≤10))=false from List.all_eq_false.2 ⟨_,hm2,by rw [decide_eq_true_eq];omega⟩,Bool.and_false]
  ·have y0:0≤y:=hy.2.1.2.1
   have y1:((dy.getD x.toNat []).length:Int)≤10:=hy.2.1.1
   refine ⟨aN (by omega),y + 1,⟨⟨hx,hlt⟩,⟨y1,by omega,by show y + 1≤((dy.getD x.toNat []).length:Int);omega⟩,fun i hi=>?_⟩,rfl,by omega⟩
   by_cases h:(i:Int) < y
   ·exact hy.2.2 i h
   ·have:i=y.toNat:=by omega
    rw [this]
    show (((dy.getD x.toNat []).getD y.toNat []).length:Int)≤10
    omega
  ·have hx1:x≤(dy.length:Int):=hx.2.1.2
   refine ⟨aN (by omega),x + 1,⟨eB,⟨by omega,by show x + 1≤(dy.length:Int);omega⟩,fun i hi=>?_⟩,rfl,by omega⟩
   by_cases h:(i:Int) < x
   ·exact hx.2.2 i h
   ·have:i=x.toNat:=by omega
    rw [this]
    show sxT (dy.getD x.toNat [])=true
    unfold sxT
    rw [decide_eq_true (by omega),Bool.true_and]
    refine aVa fun j hj=>?_
    exact hy.2.2 j (by omega)
 ·rw [e1,eB,Bool.true_and]
  refine (List.all_eq_true.2 fun r hr=>?_).symm
  obtain ⟨i,hi,rfl⟩:=List.mem_iff_getElem.1 hr
  have:=hx.2.2 i (by omega)
  rw [show ((p1,p2,nx,dy):Plan).2.2.2=dy from rfl,List.getD_eq_getElem?_getD,List.getElem?_eq_getElem hi,Option.getD_some] at this
  exact this
theorem KHg:aQ Tryz.prog Sv.G0 KH:=fun f args m c h=>Sv.aQ6 (KHs f args m c h)
theorem KBs:aQ Tryz.prog Sv.G0 KB:=aJ (aG fun ((cs,ns,os,fs,ls,ks),(p1,p2,nx,dy),_)=>Sv.aPX cs ns os fs ls ks p1 p2 nx dy) <|
 aJ (aG fun ((cs,ns,os,fs,ls,ks),(p1,p2,nx,dy),_)=>Sv.aQ6 (aSL cs ns os fs ls ks p1 p2 nx dy)) KHg
theorem aWs:dF Tryz.prog Sv.G0 KI0:=fun f args c h=>by cases h
theorem aOy {n:Net} {l:List Int} (h:Acc n l):mG (l,bZ l)=aI l∧yR (l,bZ l)=0:=by
 have:jX (l,bZ l)=true:=by
  unfold jX
  rw [show fP (l,bZ l).1 (l,bZ l).2=true from aCw h.ins,show uD (l,bZ l).1=true from h.pl];rfl
 unfold mG yR
 rw [if_pos this,if_pos this]
 exact ⟨rfl,rfl⟩
theorem aQk {n:Net} {p:Plan} (h:aM7 n p=true):uH n∧Sv.aBV p∧aDr p:=by
 unfold aM7 sxB smF at h
 simp only [Bool.and_eq_true,decide_eq_true_eq] at h
 obtain ⟨⟨⟨⟨⟨h1,_⟩,h2,h3⟩,_⟩,_,h5⟩,h6⟩:=h
 have h4:=(lX.1 h1).1
 unfold kQ at h4
 rw [decide_eq_true_eq] at h4
 have g1:p.2.2.1.length≤1000000∧∀ r ∈ p.2.2.1,r.length≤1000000:=⟨by omega,fun r hr=>by have:=List.all_eq_true.1 h3 r hr;rw [decide_eq_true_eq] at this;omega⟩
 have g2:∀ t ∈ p.2.2.2,t.length≤1000000∧∀ r ∈ t,r.length≤1000000:=fun t ht=>by
  have:=List.all_eq_true.1 h6 t ht
  unfold sxT at this
  rw [Bool.and_eq_true,decide_eq_true_eq] at this
  exact ⟨by omega,fun r hr=>by have:=List.all_eq_true.1 this.2 r hr;rw [decide_eq_true_eq] at this;omega⟩
 exact ⟨⟨⟨⟨by omega,by omega⟩,by omega⟩,by omega⟩,⟨g1,by omega,g2⟩,g1,by omega,g2⟩
theorem aTo (cs:List Cal) (ns os:List ByteArray) (fs:List Off) (ls:List Line) (ks:List Cla) (p1 p2:Int) (nx:List (List Int)) (dy:List (List (List Int))):aC Tryz.prog Sv.G0 4 [.agg [.dat (.sl C) cs,.dat (.sl S) ns,.dat (.sl S) os,.dat (.sl Of) fs,.dat (.sl Ln) ls,.dat (.sl Kl) ks],.agg [.dat I p1,.dat I p2,.dat M nx,.dat (.sl M) dy]] [] ⟨True,.dat .bool true,[]⟩:=by
 refine aA (c:=cB) KBs aWs hm (aSD cs ns os fs ls ks p1 p2 nx dy ⟨rfl,fun _=>?_⟩)
 simp only [gQ,D.and,D.not,Bool.true_and,Bool.and_true,eq_self,true_and,and_true,imp_self,implies_true,Bool.not_eq_true',Bool.not_eq_false',Bool.and_eq_true,D.eq,D.ne,beq_iff_eq,bne_iff_ne,bne_eq_false_iff_eq]
 intro h
 obtain ⟨hn,hf,hm⟩:=aQk h
 refine ⟨hf,fun h0=>?_⟩
 obtain ⟨ac,eP⟩:=aLF h0
 obtain ⟨eR,eC⟩:=aOy ac
 have eN:Sv.wrN (cs,ns,os,fs,ls,ks) (p1,p2,nx,dy)=Sv.pW (cs,ns,os,fs,ls,ks) (p1,p2,nx,dy):=if_pos h0
 have eS:Sv.wrS (cs,ns,os,fs,ls,ks) (p1,p2,nx,dy)=bZ (Sv.pW (cs,ns,os,fs,ls,ks) (p1,p2,nx,dy)):=if_pos h0
 have ll:xJ (Sv.pW (cs,ns,os,fs,ls,ks) (p1,p2,nx,dy)):=aQU (by have:=ac.len;omega)
 rw [eN,eS,eR,eC,eP]
 exact ⟨ll,fun _=>hm,fun _=>⟨ll,hn⟩,⟨rfl,decide_eq_true rfl⟩,aRu.2 ac⟩
end Go.Eng.In
