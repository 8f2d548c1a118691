/- The engine, part 21b: a function that is ranged over, and that itself ranges over another one, handing over in the rounds. -/
import Derived.Test.YtlobbofhlcjlmaaGreatDoorH21
set_option linter.unusedSimpArgs false
set_option linter.unusedVariables false
namespace Go.Eng
open Go.RowKit
structure aRD where
 A:Ann
 AY:aJm
 lp:St→Option St
 kf:Nat→Nat
def aVe (c:Cfg) (it:oW) (l:Nat) (A:aRD) (g:Operand) (ps:Array Tmp) (as b:Code) (s:St):Prop:=match evT c.G s.sig.T g,ps.toList with
 | .fn gf caps,[p]=>match c.KI gf caps with
  | some it2=>if aNY c.P gf && (AV.namesL caps).isEmpty && s.sv.isEmpty && s.mem.isEmpty && one1 it2.t && decide (p < s.tm.length) then
    it2.pre∧A.kf 0=0∧A.kf it2.L.length=it.L.length ∧
    (∀ j y,yY it2.L j y→ev c A.A as (aA8 p it2.t y s) (fun e s1=>match e with
     | .normal=>s1.mem.isEmpty=true∧evY c it l A.AY b ⟨s1,A.kf j,true⟩ (fun e y2=>match e with
      | .normal=>y2.on=true∧y2.k=A.kf (j + 1)
      | .ret=>y2.on=true→y2.k=it.L.length
      | _=>False)
     | _=>False))
   else False
  | none=>False
 | _,_=>False
def evN (c:Cfg) (it:oW) (l:Nat) (A:aRD):Code→St→Prop
 | .seq a b,s=>ev c A.A a s (fun e s'=>match e with | .normal=>evN c it l A b s' | _=>False)
 | .rangeFunc g ps as b,s=>match A.lp s with
  | some s1=>match aLV s s1 with
   | some ms=>all ms (aVe c it l A g ps as b s1)
   | none=>False
  | none=>False
 | .block _ x,s=>evN c it l A x s
 | _,_=>False
def aVv (c:Cfg) (A:aRD) (f:FuncId) (caps:List AV) (it:oW):Prop:=match c.P.funcs[f]? with
 | some fn=>match fn.body with
  | some b=>fn.results.toList.isEmpty=true∧(AV.namesL caps).isEmpty=true∧one1 it.t=true∧c.rng=false∧∀ l,it.pre→evN c it l A b (zU fn l caps).s
  | none=>False
 | none=>False
theorem Chg.put {V:Nat→Prop} {w:World} {k:Nat} {o:Obj} (h:V k):Chg V w (w.putObj k o)∧(w.putObj k o).heap.size=w.heap.size :=
 ⟨⟨rfl,rfl,rfl,by simp,fun q _ hq=>World.putObj_heap_other fun e=>hq (e ▸ h)⟩,by simp⟩
theorem aQF {c:Cfg} {it:oW} {l:Nat} {A:aRD} {J:Nat→World→(Nat→Prop)→(Nat→Prop)→Prop} {JX:World→(Nat→Prop)→(Nat→Prop)→Prop} {JP:List PanicEntry→World→(Nat→Prop)→(Nat→Prop)→Prop}
  (H:∀ (N:Nat) (fr:FrY),(fr.ro≠none→N≤fr.sv.length)→aL1 c it l N fr J JX JP) (hKI:dF c.P c.G c.KI)
  (j3:∀ k w1 w2 D1 V,J k w1 D1 V→Chg V w1 w2→w2.heap.size=w1.heap.size→J k w2 D1 V) (x3:∀ w1 w2 D1 V,JX w1 D1 V→Chg V w1 w2→w2.heap.size=w1.heap.size→JX w2 D1 V)
  (p3:∀ ch w1 w2 D1 V,JP ch w1 D1 V→Chg V w1 w2→w2.heap.size=w1.heap.size→JP ch w2 D1 V)
  {fn:Func} (hres:fn.results=#[]) {S:Base} (HO:OkS c S) (hSO:∀ b,¬ S.O b) (hSs:S.sv=[]) (hSr:S.rd=none) (hSg:S.gd=[]) (hSn:S.nod=true) {g:Operand} {ps:Array Tmp} {as b:Code} {s:St} (h:aVe c it l A g ps as b s) (hl:s.tm.length=S.N)
  {a:Act} {w:World} {D:Nat→Prop} {E:Nat→Ent} (hd:aZ S s.sig a w D E) (hJ0:J 0 S.w0 S.D0 noV) :
  At c.P none (.rangeFunc g ps as b) (bodyPostM Fence.wide 0 c.P fn fun e W'=>((∃ v,e=.returned v)∧((∃ D2,J it.L.length W' D2 noV)∨∃ D2,JX W' D2 noV))∨∃ ch,e=.panicked ch∧∃ D2 V2,JP ch W' D2 V2) a w:=by
 have H0:=H S.N { ro:=none,sv:=[],V:=noV,Dv:=noV,W:=w } (fun e=>(e rfl).elim)
 have hP:S.P=c.P:=HO.P.symm
 unfold aVe at h
 split at h
 case h_2=>exact h.elim
 rename_i gf caps p hev hps
 split at h
 case h_2=>exact h.elim
 rename_i it2 hki
 split at h
 case isFalse=>exact h.elim
 rename_i hc
 obtain ⟨hpre,hk0,hkn,hround⟩:=h
 simp only [Bool.and_eq_true,decide_eq_true_eq,List.isEmpty_iff] at hc
 obtain ⟨⟨⟨⟨⟨hgoes,hnm⟩,hsv⟩,hmem⟩,hone⟩,hp⟩:=hc
 simp only [aNY,Bool.and_eq_true,decide_eq_true_eq] at hgoes
 obtain ⟨hgoes,hgf⟩:=hgoes
 have hone:it2.t.sz=1:=by unfold one1 at hone;simpa using hone
 have hdef:a.defers=[]:=(hd.df.1.1 hSn).trans hSg
 have em:s.sig.m=fun _=>none:=by
  funext k
  show s.mem.lookup k=none
  rw [hmem];rfl
 have noAll:∀ (E:Nat→Ent) b,¬ aV s.sig.m E b:=fun E b g=>by
  rw [em] at g
  rcases g with ⟨_,_,g,_⟩ | ⟨nm,i,g⟩
  ·cases g
  ·exact vM g
 have hgv:=iZ hd g
 rw [← HO.G,hev] at hgv
 obtain ⟨cs,hga,hcaps⟩:=hgv
 rw [hP] at hcaps
 refine at_range fun fn2 hfn2=>?_
 obtain ⟨l2,hl2⟩:∃ l2,l2=w.heap.size + 1:=⟨_,rfl⟩
 obtain ⟨rec,hrec⟩:∃ rec:LoopState→Option Code→Loop,rec=fun st pe=>{ state:=st,pending:=pe,fn:=fn2,tmps:=a.tmps,params:=ps,assign:=as,body:=b,defers:=w.heap.size }:=⟨_,rfl⟩
 obtain ⟨W1,hW1⟩:∃ W1,(w.alloc (.deferred (some []))).alloc (.loop (rec .ready none))=W1:=⟨_,rfl⟩
 have hsz1:W1.heap.size=w.heap.size + 2:=by rw [← hW1];simp
 have hL1:W1.heap[l2]?=some (.loop (rec .ready none)):=by
  rw [← hW1,hl2];have:=World.alloc_heap_new (w.alloc (.deferred (some []))) (.loop (rec .ready none));rwa [World.size_alloc] at this
 have hK1:W1.heap[w.heap.size]?=some (.deferred (some [])):=by
  rw [← hW1];exact (Below.heap_alloc _ _ _ (by simp)).trans (World.alloc_heap_new w _)
 have hb1:Below w.heap.size w W1:=by
  rw [← hW1];exact ((Below.refl _ w).alloc (Nat.le_refl _) _).alloc (by simp) _
 refine ⟨l2,[{ target:=.collected w.heap.size,args:=#[] }],W1,{ target:=.fn (.func gf) cs.toArray,args:=#[.func (.yield l2) #[] #[]] },W1,gf,
  #[.func (.yield l2) #[] #[]] ++ cs.toArray,W1,?_,?_,?_,?_⟩
 ·rw [← hW1,hrec,hl2];exact run_enterLoop_outer _ _ _ _ _
 ·simp only [resolve,hga]
  simp [go_sem]
 ·have:=oK (P:=c.P) hgoes W1 (#[.func (.yield l2) #[] #[]] ++ cs.toArray)
  simp only [invoke]
  exact this
 have hsz0:a.tmps.size=S.N:=hd.sz
 have act0:a={ tmps:=a.tmps,defers:=[] }:=by cases a;simp only at hdef;rw [hdef]
 rw [act0] at hd
 have grow:∀ {S:Base} {a:Act} {W W2:World} {σ:Sig} {D:Nat→Prop} {E:Nat→Ent},aZ S σ a W D E→Below W.heap.size W W2→∀ X:Nat→Prop,aZ S σ a W2 (fun b=>D b∨(lI W W2 b∧¬ X b)) E:=fun {S a W W2 σ D E} h hb X =>
  h.world (D':=fun b=>D b∨(lI W W2 b∧¬ X b)) hb (fun b=>⟨fun g=>g.imp id fun g=>⟨g.1,.inr g⟩,fun g=>g.elim .inl (·.2)⟩) fun b g=>by
   rcases g with g | g
   ·exact Nat.lt_of_lt_of_le (h.dlt b g) hb.size
   ·exact g.1.2
 -- private to this function: the mark, the loop's record, what the inner function keeps
 obtain ⟨PV,hPV⟩:∃ PV:(Nat→Prop)→Nat→Prop,PV=fun V2 b=>b=w.heap.size∨b=l2∨V2 b:=⟨_,rfl⟩
 obtain ⟨Fm,hFm⟩:∃ Fm:World→(Nat→Prop)→(Nat→Prop)→(Nat→Prop)→Prop,Fm=fun W D Dit V2=>(∀ b,Dit b→D b)∧W.heap[w.heap.size]?=some (.deferred (some []))∧(∀ b,V2 b→l2 < b∧b < W.heap.size)∧(∀ b,PV V2 b→¬ D b)∧l2 < W.heap.size:=⟨_,rfl⟩
 obtain ⟨J2,hJ2⟩:∃ J2:Nat→World→(Nat→Prop)→(Nat→Prop)→Prop,J2=fun j W Dit V2=>∃ (w0:World) (D0 D:Nat→Prop) (E:Nat→Ent),aZ { S with w0:=w0,D0:=D0,O:=noV } s.sig { tmps:=a.tmps,defers:=[] } W D E∧Fm W D Dit V2 ∧
   W.heap[l2]?=some (.loop (rec .ready none))∧J (A.kf j) W D (PV V2):=⟨_,rfl⟩
 obtain ⟨JX2,hJX2⟩:∃ JX2:World→(Nat→Prop)→(Nat→Prop)→Prop,JX2=fun W Dit V2=>∃ (D:Nat→Prop),(∀ b,D b→b < W.heap.size)∧Fm W D Dit V2 ∧
   W.heap[l2]?=some (.loop (rec .done (some .ret)))∧(J it.L.length W D (PV V2)∨JX W D (PV V2)):=⟨_,rfl⟩
 obtain ⟨JP2,hJP2⟩:∃ JP2:List PanicEntry→World→(Nat→Prop)→(Nat→Prop)→Prop,JP2=fun ch W _ V2=>W.heap[w.heap.size]?=some (.deferred (some []))∧w.heap.size < W.heap.size∧(∀ b,V2 b→l2 < b)∧∃ D0 V0,JP ch W D0 V0∧V0 w.heap.size∧∀ b,V2 b→V0 b:=⟨_,rfl⟩
 -- a world that is told again: the slots' frame begins there
 have anew:∀ {S2:Base} {W W2:World} {D:Nat→Prop} {E:Nat→Ent},S2.P=S.P→S2.G=S.G→S2.N=S.N→S2.sv=[]→S2.rd=none→S2.nod=true→S2.gd=[]→aZ S2 s.sig { tmps:=a.tmps,defers:=[] } W D E→W.heap.size≤W2.heap.size→(∀ b,D b→W2.heap[b]?=W.heap[b]?) →
   aZ { S with w0:=W2,D0:=D,O:=noV } s.sig { tmps:=a.tmps,defers:=[] } W2 D E:=fun {S2 W W2 D E} e1 e2 e3 e4 e5 e6 e7 hh hs hk=>by
  have:=hh.behindYield hmem hs hk e6 e7
  have e:({ S2 with w0:=W2,D0:=D,O:=fun _=>False }:Base)={ S with w0:=W2,D0:=D,O:=noV }:=by
   cases S2;cases S;simp only at e1 e2 e3 e4 e5 e6 e7 hSs hSr hSn hSg;subst e1 e2 e3 e4 e5 e6 e7 hSs hSr hSn hSg;rfl
  rw [← e];exact this
 have incl:∀ {V2 V3:Nat→Prop},(∀ b,V2 b→V3 b)→∀ b,PV V2 b→PV V3 b:=fun {V2 V3} h b g=>by
  rw [hPV] at g ⊢
  rcases g with g | g | g
  ·exact .inl g
  ·exact .inr (.inl g)
  ·exact .inr (.inr (h b g))
 have pvx:∀ {W W2:World} {V2 X:Nat→Prop} {b:Nat},PV (fun b=>V2 b∨(lI W W2 b∧X b)) b→PV V2 b∨(lI W W2 b∧X b):=fun {W W2 V2 X b} g=>by
  rw [hPV] at g ⊢
  rcases g with g | g | g | g
  ·exact .inl (.inl g)
  ·exact .inl (.inr (.inl g))
  ·exact .inl (.inr (.inr g))
  ·exact .inr g
 have fmBelow:∀ {W W2:World} {D Dit V2:Nat→Prop},Fm W D Dit V2→(∀ b,D b→b < W.heap.size)→Below W.heap.size W W2→∀ X:Nat→Prop,Fm W2 (fun b=>D b∨(lI W W2 b∧¬ X b)) (fun b=>Dit b∨(lI W W2 b∧¬ X b)) (fun b=>V2 b∨(lI W W2 b∧X b)):=fun {W W2 D Dit V2} hf hlt hb X=>by
  rw [hFm] at hf ⊢
  obtain ⟨f1,f2,f3,f4,f5⟩:=hf
  refine ⟨fun b g=>g.imp (f1 b) id,(hb.block _ (by omega)).trans f2,fun b g=>?_,fun b g g2=>?_,Nat.lt_of_lt_of_le f5 hb.size⟩
  ·rcases g with g | g
   ·exact ⟨(f3 b g).1,Nat.lt_of_lt_of_le (f3 b g).2 hb.size⟩
   ·exact ⟨Nat.lt_of_lt_of_le f5 g.1.1,g.1.2⟩
  ·rcases pvx g with g | g
   ·rcases g2 with g2 | g2
    ·exact f4 b g g2
    ·have h1:=g2.1.1
     rw [hPV] at g
     rcases g with g | g | g
     ·omega
     ·omega
     ·have:=(f3 b g).2;omega
   ·rcases g2 with g2 | g2
    ·have:=hlt b g2;have:=g.1.1;omega
    ·exact g2.2 g.2
 have fmSub:∀ {W:World} {D Dit Dit2 V2 V3:Nat→Prop},Fm W D Dit V2→(∀ b,Dit2 b→Dit b)→(∀ b,V3 b→V2 b)→Fm W D Dit2 V3:=fun {W D Dit Dit2 V2 V3} hf h1 h2=>by
  rw [hFm] at hf ⊢
  obtain ⟨f1,f2,f3,f4,f5⟩:=hf
  exact ⟨fun b g=>f1 b (h1 b g),f2,fun b g=>f3 b (h2 b g),fun b g=>f4 b (incl h2 b g),f5⟩
 have fmChg:∀ {W W2:World} {D Dit V2:Nat→Prop},Fm W D Dit V2→Chg V2 W W2→W2.heap.size=W.heap.size→Fm W2 D Dit V2∧W2.heap[l2]?=W.heap[l2]?:=fun {W W2 D Dit V2} hf hc hs=>by
  rw [hFm] at hf ⊢
  obtain ⟨f1,f2,f3,f4,f5⟩:=hf
  exact ⟨⟨f1,(hc.block _ (by omega) fun g=>(by have:=(f3 _ g).1;omega)).trans f2,fun b g=>by rw [hs];exact f3 b g,f4,by rw [hs];exact f5⟩,hc.block _ f5 fun g=>(by have:=(f3 _ g).1;omega)⟩
 have chgPV:∀ {W W2:World} {V2:Nat→Prop},Chg V2 W W2→Chg (PV V2) W W2:=fun {W W2 V2} hc=>⟨hc.os,hc.tape,hc.output,hc.size,fun k hk hn=>hc.block k hk fun g=>hn (by rw [hPV];exact .inr (.inr g))⟩
 have pvF:∀ b,PV noV b→b=w.heap.size∨b=l2:=fun b g=>by
  rw [hPV] at g
  rcases g with g | g | g
  ·exact .inl g
  ·exact .inr g
  ·exact g.elim
 have hlow:Below S.w0.heap.size S.w0 W1:=by
  have h1:Below S.w0.heap.size S.w0 w:=⟨hd.low.os,hd.low.tape,hd.low.output,hd.low.size,fun k hk=>hd.low.block k hk (hSO k)⟩
  exact ⟨hb1.os.trans h1.os,hb1.tape.trans h1.tape,hb1.output.trans h1.output,Nat.le_trans h1.size hb1.size,fun k hk=>(hb1.block k (Nat.lt_of_lt_of_le hk h1.size)).trans (h1.block k hk)⟩
 have hbase:S.w0.heap.size≤w.heap.size:=hd.low.size
 have hJ1:J 0 W1 D (PV noV):=by
  refine H0.j2 _ _ _ _ _ _ (H0.j1 _ _ _ _ _ hJ0 hlow (PV noV)) (fun b hb=>?_) (fun b hb=>.inr ⟨?_,hb⟩)
  ·rcases hd.dhi b hb with g | g | g
   ·exact .inl g
   ·have:=hd.dlt b hb
    refine .inr ⟨⟨g,by omega⟩,fun g2=>?_⟩
    rcases pvF b g2 with g2 | g2 <;> omega
   ·exact (hSO b g).elim
  ·rcases pvF b hb with g | g
   ·exact ⟨by omega,by omega⟩
   ·exact ⟨by omega,by omega⟩
 have hd1:aZ { S with w0:=W1,D0:=D,O:=noV } s.sig { tmps:=a.tmps,defers:=[] } W1 D E:=anew rfl rfl rfl hSs hSr hSn hSg hd (by omega) fun b hb=>hb1.block b (hd.dlt b hb)
 have hcaps1:AV.relL c.P ⟨W1,D,noM,noE⟩ caps cs :=
  AV.relL_mono (C:=⟨w,D,s.sig.m,E⟩) (C':=⟨W1,D,noM,noE⟩) ⟨fun b g=>g,fun b g=>hb1.block b (hd.dlt b g)⟩ (fun k hk=>by rw [hnm] at hk;cases hk) hcaps
 have hG1:rU c.P ⟨W1,D,noM,noE⟩ c.G:=by
  have:=rU.mono (C:=⟨w,D,s.sig.m,E⟩) (C':=⟨W1,D,noM,noE⟩) ⟨fun b g=>g,fun b g=>hb1.block b (hd.dlt b g)⟩ hd.gl
  rw [hP,← HO.G] at this
  exact this
 refine (hKI.at hgf hki hpre l2 J2 JX2 JP2 W1 D cs (fun b g=>?_) hG1 hcaps1 ?_ ?_ ?_ ?_ ?_ ?_ ?_ ?_ ?_).mono ?_
 ·have:=hd.dlt b g;omega
 ·subst hJ2
  rintro k W W2 Dit V ⟨w0,D0,D',E',q1,q2,q3,q5⟩ hb X
  have hlt:l2 < W.heap.size:=(Array.getElem?_eq_some_iff.1 q3).1
  refine ⟨w0,D0,_,E',grow q1 hb X,fmBelow q2 q1.dlt hb X,(hb.block _ hlt).trans q3,?_⟩
  exact H0.j2 _ _ _ _ _ _ (H0.j1 _ _ _ _ _ q5 hb X) (fun b g=>g) fun b g=>pvx g
 ·subst hJ2
  rintro k W Dit Dit2 V V2 ⟨w0,D0,D',E',q1,q2,q3,q5⟩ hsub hsubV
  exact ⟨w0,D0,D',E',q1,fmSub q2 hsub hsubV,q3,H0.j2 _ _ _ _ _ _ q5 (fun _ g=>g) (incl hsubV)⟩
 ·subst hJ2
  rintro k W W2 Dit V ⟨w0,D0,D',E',q1,q2,q3,q5⟩ hc hsz
  obtain ⟨r1,r2⟩:=fmChg q2 hc hsz
  have q2':=q2
  rw [hFm] at q2'
  refine ⟨W2,D',D',E',anew (S2:={ S with w0:=w0,D0:=D0,O:=noV }) rfl rfl rfl hSs hSr hSn hSg q1 (by omega) fun b hb=>hc.block b (q1.dlt b hb) fun g=>q2'.2.2.2.1 b (by rw [hPV];exact .inr (.inr g)) hb,r1,r2.trans q3,j3 _ _ _ _ _ q5 (chgPV hc) hsz⟩
 ·subst hJX2
  rintro W W2 Dit V ⟨D',q1,q2,q3,q4⟩ hb X
  have hlt:l2 < W.heap.size:=(Array.getElem?_eq_some_iff.1 q3).1
  refine ⟨_,fun b g=>?_,fmBelow q2 q1 hb X,(hb.block _ hlt).trans q3,?_⟩
  ·rcases g with g | g
   ·exact Nat.lt_of_lt_of_le (q1 b g) hb.size
   ·exact g.1.2
  ·rcases q4 with q4 | q4
   ·exact .inl (H0.j2 _ _ _ _ _ _ (H0.j1 _ _ _ _ _ q4 hb X) (fun b g=>g) fun b g=>pvx g)
   ·exact .inr (H0.x2 _ _ _ _ _ (H0.x1 _ _ _ _ q4 hb X) (fun b g=>g) fun b g=>pvx g)
 ·subst hJX2
  rintro W Dit Dit2 V V2 ⟨D',q1,q2,q3,q4⟩ hsub hsubV
  exact ⟨D',q1,fmSub q2 hsub hsubV,q3,q4.imp (fun q=>H0.j2 _ _ _ _ _ _ q (fun _ g=>g) (incl hsubV)) fun q=>H0.x2 _ _ _ _ _ q (fun _ g=>g) (incl hsubV)⟩
 ·subst hJX2
  rintro W W2 Dit V ⟨D',q1,q2,q3,q4⟩ hc hsz
  obtain ⟨r1,r2⟩:=fmChg q2 hc hsz
  exact ⟨D',fun b g=>by rw [hsz];exact q1 b g,r1,r2.trans q3,q4.imp (fun q=>j3 _ _ _ _ _ q (chgPV hc) hsz) fun q=>x3 _ _ _ _ q (chgPV hc) hsz⟩
 ·subst hJP2
  rintro ch W W2 Dit V ⟨q1,q2,q3,D0,V0,q4,q5,q6⟩ hc hsz
  refine ⟨(hc.block _ q2 fun g=>(by have:=q3 _ g;omega)).trans q1,by rw [hsz];exact q2,q3,D0,V0,p3 _ _ _ _ _ q4 ⟨hc.os,hc.tape,hc.output,hc.size,fun k hk hn=>hc.block k hk fun g=>hn (q6 k g)⟩ hsz,q5,q6⟩
 ·-- one round
  intro k y W Dit V u hy hj hltd hu
  rw [hJ2] at hj
  obtain ⟨w0,D0,D',E',q1,q2,q3,q5⟩:=hj
  have q2':=q2
  rw [hFm] at q2'
  obtain ⟨f1,f2,f3,f4,f5⟩:=q2'
  have hpsz:ps.size=1:=by have:=congrArg List.length hps;simpa using this
  have hyl:=run_yield (P:=c.P) (args:=#[u]) q3 (by rw [hrec];simp [hpsz])
  rw [hrec] at hyl
  have htm:(ps.zip #[u]).foldl (fun t (p,v)=>t.setIfInBounds p v) a.tmps=a.tmps.setIfInBounds p u:=by
   have e:ps=#[p]:=by apply Array.ext';exact hps
   rw [e];simp
  refine ⟨fn2,_,as,b,hyl,?_⟩
  rw [htm]
  refine aHe hfn2 ?_
  have hpN:p < S.N:=by rw [← hl];exact hp
  have tms:∀ t,((aA8 p it2.t y s).sig.T t).rel S.P ⟨W,D',s.sig.m,E'⟩ ((a.tmps.setIfInBounds p u).getD t undef):=by
   intro t
   show ((s.tm.set p (.dat it2.t y)).getD t .top).rel S.P _ _
   by_cases e:t=p
   ·subst e
    have h1:(s.tm.set t (.dat it2.t y)).getD t .top=.dat it2.t y:=by
     rw [List.getD_eq_getElem?_getD,List.getElem?_set_self (by rw [hl];exact hpN)];rfl
    have h2:(a.tmps.setIfInBounds t u).getD t undef=u:=by simp [Array.getD,hsz0,hpN]
    rw [h1,h2]
    exact aH f1 (fun _ _=>rfl) hu
   ·have h1:(s.tm.set p (.dat it2.t y)).getD t .top=s.tm.getD t .top:=by
     simp only [List.getD_eq_getElem?_getD]
     rw [List.getElem?_set_ne (fun h=>e h.symm)]
    have h2:(a.tmps.setIfInBounds p u).getD t undef=a.tmps.getD t undef:=by
     simp only [Array.getD_eq_getD_getElem?,Array.getElem?_setIfInBounds]
     rw [if_neg (fun h=>e h.symm)]
    rw [h1,h2]
    exact q1.tm t
  have svs:AV.relL S.P ⟨W,D',s.sig.m,E'⟩ s.tm a.tmps.toList:=by
   refine AV.relL_mk (by rw [hl,Array.length_toList,hsz0]) fun i av v hi hv=>?_
   have:=q1.tm i
   have e1:s.sig.T i=av:=by show s.tm.getD i .top=av;rw [List.getD_eq_getElem?_getD,hi];rfl
   have e2:a.tmps.getD i undef=v:=by
    rw [Array.getD_eq_getD_getElem?]
    simp only [Array.getElem?_toList] at hv
    rw [hv];rfl
   rw [e1] at this
   simpa only [e2] using this
  have hent:=q1.enter l2 (tm:=(aA8 p it2.t y s).sig.T) (tmps:=a.tmps.setIfInBounds p u) (by simpa using hsz0) tms svs
  obtain ⟨Sr,hSr'⟩:∃ Sr:Base,Sr={ P:=S.P,w0:=W,D0:=D',N:=S.N,O:=aV s.sig.m E',G:=S.G,sv:=a.tmps.toList,rd:=some l2,nod:=true }:=⟨_,rfl⟩
  have hent:aZ Sr (aA8 p it2.t y s).sig { tmps:=a.tmps.setIfInBounds p u,defers:=[] } W D' E':=by rw [hSr'];exact hent
  have hSrO:∀ b,¬ Sr.O b:=fun b g=>by rw [hSr'] at g;exact noAll _ _ g
  have hNpos:S.N≤a.tmps.toList.length:=by rw [Array.length_toList,hsz0];omega
  have HOr:OkS c Sr:=by
   subst hSr'
   exact ⟨HO.P,HO.G,HO.K,HO.I,HO.m,fun _=>hNpos,fun h=>(by cases h),HO.KP⟩
  have hlr:(aA8 p it2.t y s).tm.length=Sr.N:=by
   subst hSr'
   show (s.tm.set p (.dat it2.t y)).length=S.N
   rw [List.length_set];exact hl
  have hrr:Sr.rd=some l2:=by rw [hSr']
  have hPr:Sr.P=c.P:=by rw [hSr'];exact hP
  rw [← hrr,← hPr]
  refine qF as Sr _ _ _ HOr (hround k y hy) hlr (fun e s1 hq hl1 a1 w1 hs1=>?_) _ W ⟨D',E',hent⟩
  cases e <;> first
   | exact hq.elim
   | skip
  obtain ⟨hm1,hq⟩:=hq
  have hm1:s1.mem=[]:=List.isEmpty_iff.1 hm1
  obtain ⟨D3,E3,h3⟩:=hs1
  have noAll1:∀ b,¬ aV s1.sig.m E3 b:=fun b g=>by
   have em1:s1.sig.m=fun _=>none:=by
    funext k
    show s1.mem.lookup k=none
    rw [hm1];rfl
   rw [em1] at g
   rcases g with ⟨_,_,g,_⟩ | ⟨nm,i,g⟩
   ·cases g
   ·exact vM g
  have same1:∀ b,b < W.heap.size→w1.heap[b]?=W.heap[b]?:=fun b hb=>by
   have:=h3.low.block b (by rw [hSr'];exact hb) (hSrO b)
   rw [this,hSr']
  have szW1:W.heap.size≤w1.heap.size:=by have:=h3.low.size;rw [hSr'] at this;exact this
  have bel1:Below W.heap.size W w1:=⟨by have:=h3.low.os;rw [hSr'] at this;exact this,by have:=h3.low.tape;rw [hSr'] at this;exact this,by have:=h3.low.output;rw [hSr'] at this;exact this,szW1,same1⟩
  have hdhi:∀ b,D3 b→D' b∨W.heap.size≤b:=fun b hb=>by
   have:=h3.dhi b hb
   rw [hSr'] at this
   rcases this with g | g | g
   ·exact .inl g
   ·exact .inr g
   ·exact (noAll _ _ g).elim
  have hl3:w1.heap[l2]?=some (.loop (rec .ready none)):=(same1 _ f5).trans q3
  have hlt3:l2 < w1.heap.size:=Nat.lt_of_lt_of_le f5 szW1
  have hdef3:a1.defers=[]:=(h3.df.1.1 (by rw [hSr'])).trans (by rw [hSr'])
  have hbr:=run_beginRound (P:=c.P) hl3 (by rw [hrec])
  rw [hPr]
  refine ⟨_,hbr,?_⟩
  have pvLt:∀ b,PV V b→b < W.heap.size:=fun b g=>by
   rw [hPV] at g
   rcases g with g | g | g
   ·omega
   ·omega
   ·exact (f3 b g).2
  have pvl2:PV V l2:=by rw [hPV];exact .inr (.inl rfl)
  have pvmk:PV V w.heap.size:=by rw [hPV];exact .inl rfl
  have nl3:¬ D3 l2:=fun g=>by
   rcases hdhi _ g with g | g
   ·exact f4 _ pvl2 g
   ·omega
  have h4:=h3.again (.loop { rec .ready none with state:=.busy }) (by rw [hSr']) hdef3 nl3 (noAll1 _)
  obtain ⟨Wb,hWb⟩:∃ Wb,Wb=w1.putObj l2 (.loop { rec .ready none with state:=.busy }):=⟨_,rfl⟩
  obtain ⟨Sq,hSq⟩:∃ Sq:Base,Sq={ Sr with w0:=Wb,D0:=D3,O:=aV s1.sig.m E3 }:=⟨_,rfl⟩
  rw [show ({ rec .ready none with state:=.busy }:Loop)={ rec .ready none with state:=.busy } from rfl,← hWb] at h4
  rw [← hSq] at h4
  rw [← hWb]
  have szb:Wb.heap.size=w1.heap.size:=by rw [hWb];simp
  obtain ⟨fr,hfr⟩:∃ fr:FrY,fr={ ro:=some l2,sv:=a.tmps.toList,V:=PV V,Dv:=D',W:=Wb }:=⟨_,rfl⟩
  have HF:=H S.N fr (fun _=>by rw [hfr];exact hNpos)
  have hOkq:OkY c S.N fr Sq:=by
   refine ⟨by rw [hSq,hSr'];exact hP,by rw [hSq,hSr'];exact HO.G.symm,by rw [hSq,hSr'],fun b g=>by rw [hSq] at g;exact noAll1 _ g,by rw [hSq,hSr',hfr],by rw [hSq,hSr',hfr],by rw [hSq,hSr'],by rw [hSq,hSr'],?_,fun b hb=>?_,fun b hb=>?_,fun b hb g=>?_⟩
   ·rw [hfr,hSq];exact ⟨Nat.le_refl _,fun _ _=>rfl⟩
   ·rw [hfr] at hb
    rw [hSq]
    show b < Wb.heap.size
    rw [szb]
    rcases hb with g | g
    ·exact Nat.lt_of_lt_of_le (q1.dlt b g) szW1
    ·exact Nat.lt_of_lt_of_le (pvLt b g) szW1
   ·rw [hfr] at hb
    rw [hSq]
    exact h3.dlo b (by rw [hSr'];exact hb)
   ·rw [hfr] at hb
    rw [hSq] at g
    rcases hdhi b g with g | g
    ·exact f4 b hb g
    ·have:=pvLt b hb;omega
  have hgq:aGX fr J JX ⟨s1,A.kf k,true⟩ Sq.w0 Sq.D0:=by
   refine ⟨fun _=>?_,fun e=>by cases e⟩
   rw [hfr,hSq]
   obtain ⟨c1,c2⟩:=Chg.put (V:=PV V) (w:=w1) (o:=.loop { rec .ready none with state:=.busy }) pvl2
   rw [← hWb] at c1 c2
   refine j3 _ _ _ _ _ (H0.j2 _ _ _ _ _ _ (H0.j1 _ _ _ _ _ q5 bel1 noV) (fun b hb=>?_) fun b hb=>.inl hb) c1 c2
   rcases hdhi b hb with g | g
   ·exact .inl g
   ·exact .inr ⟨⟨g,h3.dlt b hb⟩,id⟩
  have notl:∀ b,D' b→b≠l2:=fun b hb e=>f4 l2 pvl2 (by rw [← e];exact hb)
  have keptW:∀ {w2:World},Kept fr w2→(W.heap.size≤w2.heap.size)∧(∀ b,Dit b∨V b→w2.heap[b]?=W.heap[b]?)∧w2.heap[l2]?=some (.loop { rec .ready none with state:=.busy })∧w2.heap[w.heap.size]?=some (.deferred (some []))∧l2 < w2.heap.size∧∀ b,D' b→w2.heap[b]?=W.heap[b]?:=by
   intro w2 hk
   rw [hfr] at hk
   obtain ⟨k1,k2⟩:=hk
   have k1:Wb.heap.size≤w2.heap.size:=k1
   have k2:∀ b,D' b∨PV V b→w2.heap[b]?=Wb.heap[b]?:=k2
   have wb:∀ b,b≠l2→b < W.heap.size→Wb.heap[b]?=W.heap[b]?:=fun b h1 h2=>by
    rw [hWb,World.putObj_heap_other h1];exact same1 b h2
   have hD:∀ b,D' b→w2.heap[b]?=W.heap[b]?:=fun b hb=>(k2 b (.inl hb)).trans (wb b (notl b hb) (q1.dlt b hb))
   refine ⟨by omega,fun b hb=>?_,?_,?_,by omega,hD⟩
   ·rcases hb with hb | hb
    ·exact hD b (f1 b hb)
    ·exact (k2 b (.inr (by rw [hPV];exact .inr (.inr hb)))).trans (wb b (fun e=>by have:=(f3 b hb).1;omega) (f3 b hb).2)
   ·rw [k2 l2 (.inr pvl2),hWb];exact World.putObj_heap_same hlt3
   ·exact ((k2 _ (.inr pvmk)).trans (wb _ (by omega) (by omega))).trans f2
  have fin:∀ {w2:World} (jump:Option Code),Kept fr w2→(Instr.endRound l2 jump).run c.P w2=.ok (.bool jump.isNone) (w2.putObj l2 (.loop (rec (if jump.isNone then .ready else .done) jump))):=fun {w2} jump hk=>by
   have:=run_endRound (P:=c.P) jump (keptW hk).2.2.1
   rw [hrec] at this ⊢
   exact this
  have after:∀ {w2:World} (o:Obj),Kept fr w2→W.heap.size≤(w2.putObj l2 o).heap.size∧(∀ b,Dit b∨V b→(w2.putObj l2 o).heap[b]?=W.heap[b]?)∧Fm (w2.putObj l2 o) D' Dit V∧(w2.putObj l2 o).heap[l2]?=some o∧∀ b,D' b→(w2.putObj l2 o).heap[b]?=W.heap[b]?:=fun {w2} o hk=>by
   obtain ⟨k1,k2,k3,k4,k5,k6⟩:=keptW hk
   have hD:∀ b,D' b→(w2.putObj l2 o).heap[b]?=W.heap[b]?:=fun b hb=>by rw [World.putObj_heap_other (notl b hb)];exact k6 b hb
   refine ⟨by simpa using k1,fun b hb=>?_,?_,World.putObj_heap_same k5,hD⟩
   ·rcases hb with g | g
    ·exact hD b (f1 b g)
    ·rw [World.putObj_heap_other (fun e=>by have:=(f3 b g).1;omega)];exact k2 b (.inr g)
   ·rw [hFm]
    exact ⟨f1,by rw [World.putObj_heap_other (by omega)];exact k4,fun b g=>⟨(f3 b g).1,by have:=(f3 b g).2;simp;omega⟩,f4,by simpa using k5⟩
  have hsimq:Sim Sq s1.sig a1 Wb:=⟨D3,E3,h4⟩
  have hlq:s1.tm.length=S.N:=by rw [hl1,hSr']
  have hbody:=aPa (N:=S.N) HF b ⟨s1,A.kf k,true⟩ _ (aOT c.P l2 fun e W'=>W.heap.size≤W'.heap.size∧(∀ b,Dit b∨V b→W'.heap[b]?=W.heap[b]?)∧((e=.returned (.bool true)∧J2 (k + 1) W' Dit V)∨(e=.returned (.bool false)∧JX2 W' Dit V)∨∃ ch,e=.panicked ch∧JP2 ch W' Dit V)) hq hlq (fun e y2 hq2 hl2' a2 w2 hs2=>?_) (fun ch a2 w2 D2 hdf hj hk=>?_) a1 Wb ⟨Sq,hOkq,hgq,hsimq⟩
  ·have e1:fr.ro=some l2:=by rw [hfr]
   rw [e1] at hbody
   exact aLu (F:=Fr (some l2)) (by rw [hrr];exact aOD _) (aRC _) (aHV _) hbody
  ·obtain ⟨S5,ho5,hg5,D5,E5,h5⟩:=hs2
   have hnow:=hg5.now ho5 HF h5
   obtain ⟨o1,o2,o3,o4⟩:=ho5.now h5
   have hk:Kept fr w2:=⟨o4,fun b hb=>(o1 b hb).2⟩
   have sub5:∀ b,D' b→D5 b:=fun b hb=>o2 b (by rw [hfr];exact hb)
   have eV:fr.V=PV V:=by rw [hfr]
   cases e with
   | normal =>
    obtain ⟨n1,n2⟩:=hq2
    obtain ⟨r1,r2,r3,r4,r5⟩:=after (.loop (rec .ready none)) hk
    have hJ:=hnow.1 n1
    rw [n2,eV] at hJ
    obtain ⟨c1,c2⟩:=Chg.put (V:=PV V) (w:=w2) (o:=.loop (rec .ready none)) pvl2
    refine ⟨_,_,fin none hk,r1,r2,.inl ⟨rfl,?_⟩⟩
    rw [hJ2]
    exact ⟨_,D',D',E',anew (S2:={ S with w0:=w0,D0:=D0,O:=noV }) rfl rfl rfl hSs hSr hSn hSg q1 r1 r5,r3,r4,j3 _ _ _ _ _ (H0.j2 _ _ _ _ _ _ hJ sub5 fun _ g=>g) c1 c2⟩
   | ret =>
    obtain ⟨r1,r2,r3,r4,r5⟩:=after (.loop (rec .done (some .ret))) hk
    obtain ⟨c1,c2⟩:=Chg.put (V:=PV V) (w:=w2) (o:=.loop (rec .done (some .ret))) pvl2
    refine ⟨_,_,fin (some .ret) hk,r1,r2,.inr (.inl ⟨rfl,?_⟩)⟩
    rw [hJX2]
    refine ⟨D',fun b hb=>Nat.lt_of_lt_of_le (q1.dlt b hb) r1,r3,r4,?_⟩
    cases hon:y2.on with
    | true =>
     have hJ:=hnow.1 hon
     rw [hq2 hon,eV] at hJ
     exact .inl (j3 _ _ _ _ _ (H0.j2 _ _ _ _ _ _ hJ sub5 fun _ g=>g) c1 c2)
    | false =>
     have hJ:=hnow.2 hon
     rw [eV] at hJ
     exact .inr (x3 _ _ _ _ (H0.x2 _ _ _ _ _ hJ sub5 fun _ g=>g) c1 c2)
   | exit i=>exact hq2.elim
   | goto t=>exact hq2.elim
   | panic ch=>exact hq2.elim
   | outgrown=>exact hq2.elim
  ·obtain ⟨k1,k2,k3,k4,k5,k6⟩:=keptW hk
   refine ⟨hdf,k1,k2,.inr (.inr ⟨ch,rfl,?_⟩)⟩
   rw [hJP2]
   have eV:fr.V=PV V:=by rw [hfr]
   rw [eV] at hj
   exact ⟨k4,by omega,fun b g=>(f3 b g).1,D2,PV V,hj,pvmk,fun b g=>by rw [hPV];exact .inr (.inr g)⟩
 ·rw [hJ2]
  refine ⟨_,_,D,E,hd1,?_,hL1,by rw [hk0];exact hJ1⟩
  rw [hFm]
  refine ⟨fun _ g=>g,hK1,fun _ g=>g.elim,fun b g hb=>?_,by omega⟩
  have:=hd.dlt b hb
  rcases pvF b g with g | g <;> omega
 ·-- behind the inner function
  have runs:∀ w3:World,(results fn a.tmps).run c.P w3=.ok (.tuple #[]) w3:=fun w3=>by simp [results,hres]
  have marks:∀ {w3:World} {m:FrameMode} {POST:Ending→World→Prop},w3.heap[w.heap.size]?=some (.deferred (some []))→m≠.run→LeavesInM Fence.wide 0 c.P fn a.tmps POST [] m (w3.putObj w.heap.size (.deferred none))→LeavesInM Fence.wide 0 c.P fn a.tmps POST ([{ target:=.collected w.heap.size,args:=#[] }] ++ a.defers) m w3:=fun {w3 m POST} h1 hm h2=>by
   rw [hdef]
   exact ⟨hm,.inl ⟨w.heap.size,_,rfl,run_takeDeferred h1,h2⟩⟩
  have pvm:PV noV w.heap.size:=by rw [hPV];exact .inl rfl
  have pvl:PV noV l2:=by rw [hPV];exact .inr (.inl rfl)
  rintro e W2 (⟨⟨v,rfl⟩,hj⟩ | ⟨ch,rfl,D2,V2,hj⟩)
  case inr =>
   rw [hJP2] at hj
   obtain ⟨q1,q2,q3,D0,V0,q4,q5,q6⟩:=hj
   obtain ⟨c1,c2⟩:=Chg.put (V:=V0) (w:=W2) (o:=.deferred none) q5
   exact marks q1 (by simp) (.inr ⟨ch,rfl,D0,V0,p3 _ _ _ _ _ q4 c1 c2⟩)
  rcases hj with ⟨D2,hj⟩ | ⟨D2,hj⟩
  ·rw [hJ2] at hj
   obtain ⟨w0,D0,D',E',q1,q2,q3,q5⟩:=hj
   rw [hFm] at q2
   have hel:=run_endLoop (P:=c.P) q3 (by rw [hrec];simp)
   refine ⟨none,_,(by rw [hrec] at hel;exact hel),?_⟩
   refine marks (by rw [World.putObj_heap_other (by omega)];exact q2.2.1) (by simp) ⟨_,runs _,.inl ⟨⟨_,rfl⟩,.inl ⟨D',?_⟩⟩⟩
   rw [hkn] at q5
   exact H0.j2 _ _ _ _ _ _ (j3 _ _ _ _ _ (j3 _ _ _ _ _ q5 (Chg.put pvl).1 (Chg.put pvl).2) (Chg.put pvm).1 (Chg.put pvm).2) (fun _ g=>g) fun _ g=>g.elim
  ·rw [hJX2] at hj
   obtain ⟨D',q1,q2,q3,q5⟩:=hj
   rw [hFm] at q2
   have hel:=run_endLoop (P:=c.P) q3 (by rw [hrec];simp)
   refine ⟨some .ret,_,(by rw [hrec] at hel;exact hel),?_⟩
   refine aLu (F:=Fence.wide) (n:=0) rfl (fun _=>trivial) rfl (wpIn_ret ?_)
   refine marks (by rw [World.putObj_heap_other (by omega)];exact q2.2.1) (by simp) ⟨_,runs _,.inl ⟨⟨_,rfl⟩,?_⟩⟩
   rcases q5 with q5 | q5
   ·exact .inl ⟨D',H0.j2 _ _ _ _ _ _ (j3 _ _ _ _ _ (j3 _ _ _ _ _ q5 (Chg.put pvl).1 (Chg.put pvl).2) (Chg.put pvm).1 (Chg.put pvm).2) (fun _ g=>g) fun _ g=>g.elim⟩
   ·exact .inr ⟨D',H0.x2 _ _ _ _ _ (x3 _ _ _ _ (x3 _ _ _ _ q5 (Chg.put pvl).1 (Chg.put pvl).2) (Chg.put pvm).1 (Chg.put pvm).2) (fun _ g=>g) fun _ g=>g.elim⟩
theorem aK9 {c:Cfg} {it:oW} {l:Nat} {A:aRD} {J:Nat→World→(Nat→Prop)→(Nat→Prop)→Prop} {JX:World→(Nat→Prop)→(Nat→Prop)→Prop} {JP:List PanicEntry→World→(Nat→Prop)→(Nat→Prop)→Prop}
  (H:∀ (N:Nat) (fr:FrY),(fr.ro≠none→N≤fr.sv.length)→aL1 c it l N fr J JX JP) (hKI:dF c.P c.G c.KI)
  (j3:∀ k w1 w2 D1 V,J k w1 D1 V→Chg V w1 w2→w2.heap.size=w1.heap.size→J k w2 D1 V) (x3:∀ w1 w2 D1 V,JX w1 D1 V→Chg V w1 w2→w2.heap.size=w1.heap.size→JX w2 D1 V)
  (p3:∀ ch w1 w2 D1 V,JP ch w1 D1 V→Chg V w1 w2→w2.heap.size=w1.heap.size→JP ch w2 D1 V)
  {fn:Func} (hres:fn.results=#[]) {S:Base} (HO:OkS c S) (hSO:∀ b,¬ S.O b) (hSs:S.sv=[]) (hSr:S.rd=none) (hSg:S.gd=[]) (hSn:S.nod=true) (hJ0:J 0 S.w0 S.D0 noV) :
  ∀ (x:Code) (s:St),evN c it l A x s→s.tm.length=S.N→∀ a w,Sim S s.sig a w →
  At c.P none x (bodyPostM Fence.wide 0 c.P fn fun e W'=>((∃ v,e=.returned v)∧((∃ D2,J it.L.length W' D2 noV)∨∃ D2,JX W' D2 noV))∨∃ ch,e=.panicked ch∧∃ D2 V2,JP ch W' D2 V2) a w
 | .seq x y,s,h,hl,a,w,hs=>by
  unfold evN at h
  have hx:=qF (A:=A.A) x S s _ (Exit.then (At c.P none y (bodyPostM Fence.wide 0 c.P fn fun e W'=>((∃ v,e=.returned v)∧((∃ D2,J it.L.length W' D2 noV)∨∃ D2,JX W' D2 noV))∨∃ ch,e=.panicked ch∧∃ D2 V2,JP ch W' D2 V2))
   (bodyPostM Fence.wide 0 c.P fn fun e W'=>((∃ v,e=.returned v)∧((∃ D2,J it.L.length W' D2 noV)∨∃ D2,JX W' D2 noV))∨∃ ch,e=.panicked ch∧∃ D2 V2,JP ch W' D2 V2)) HO h hl (fun e s' hq hl' a' w' hs'=>by
    cases e <;> first
     | exact aK9 H hKI j3 x3 p3 hres HO hSO hSs hSr hSg hSn hJ0 y s' hq hl' a' w' hs'
     | exact hq.elim) a w hs
  rw [HO.P.symm,hSr] at hx
  exact aB3 hx
 | .rangeFunc g ps as b,s,h,hl,a,w,hs=>by
  unfold evN at h
  split at h
  case h_2=>exact h.elim
  rename_i s1 _
  split at h
  case h_2=>exact h.elim
  rename_i ms hms
  obtain ⟨g1,g2⟩:=dO h
  obtain ⟨D,E,hd⟩:=aG8 hs hms g1
  exact aQF H hKI j3 x3 p3 hres HO hSO hSs hSr hSg hSn g2 ((uJ hms).symm.trans hl) hd hJ0
 | .skip,_,h,_,_,_,_=>by unfold evN at h;exact h.elim
 | .region _ _ _,_,h,_,_,_,_=>by unfold evN at h;exact h.elim
 | .cond _ _ _,_,h,_,_,_,_=>by unfold evN at h;exact h.elim
 | .block id x,s,h,hl,a,w,hs=>by
  unfold evN at h
  refine aHO fun b k cs hb hf=>?_
  obtain ⟨e,a1,w1,hq,r⟩:=aK9 H hKI j3 x3 p3 hres HO hSO hSs hSr hSg hSn hJ0 x s h hl a w hs b k cs hb hf
  refine ⟨e,a1,w1,?_,r⟩
  cases e <;> first
   | exact hq
   | exact hq.elim
 | .exit _,_,h,_,_,_,_=>by unfold evN at h;exact h.elim
 | .ret,_,h,_,_,_,_=>by unfold evN at h;exact h.elim
 | .loop _,_,h,_,_,_,_=>by unfold evN at h;exact h.elim
 | .scope _,_,h,_,_,_,_=>by unfold evN at h;exact h.elim
 | .label _,_,h,_,_,_,_=>by unfold evN at h;exact h.elim
 | .goto _,_,h,_,_,_,_=>by unfold evN at h;exact h.elim
 | .refuse _,_,h,_,_,_,_=>by unfold evN at h;exact h.elim
theorem aGr {c:Cfg} {A:aRD} {f:FuncId} {caps:List AV} {it:oW} (hK:aQ c.P c.G c.K) (hI:dF c.P c.G c.KI) (hm:c.P.follows .mixedOrders=true) (h:aVv c A f caps it) (hKP:c.KP=fun _ _ _=>none:=by rfl):zQ c.P c.G f caps it:=by
 intro hpre l J JX JP w D us hD hG hcaps j1 j2 j3 x1 x2 x3 p3 hyld h0
 unfold aVv at h
 split at h
 case h_2=>exact h.elim
 rename_i fn hf
 split at h
 case h_2=>exact h.elim
 rename_i b hb
 obtain ⟨hres,hnm,hone,hrng,h⟩:=h
 have h:=h l hpre
 have hKP':fB c.P c.G c.KP:=fun f args m r h=>by rw [hKP] at h;cases h
 have H:∀ (N:Nat) (fr:FrY),(fr.ro≠none→N≤fr.sv.length)→aL1 c it l N fr J JX JP:=fun N fr hrs=>⟨hK,hI,hKP',hm,fun _=>hrng,hrs,by unfold one1 at hone;simpa using hone,j1,j2,x1,x2,hyld⟩
 have hlen:caps.length=us.length:=AV.relL_length hcaps
 have hargs:AV.relL c.P ⟨w,D,noM,noE⟩ (.yld l :: caps) (.func (.yield l) #[] #[] :: us):=⟨_,_,rfl,rfl,hcaps⟩
 have earr:#[Value.func (.yield l) #[] #[]] ++ us.toArray=(Value.func (.yield l) #[] #[] :: us).toArray:=by simp
 rw [earr]
 obtain ⟨S,hS⟩:∃ S:Base,S={ P:=c.P,w0:=w,D0:=D,N:=(caps.length + 1) + (fn.ntmps - (caps.length + 1)),O:=fun _=>False,G:=c.G,sv:=[],rd:=none,nod:=true }:=⟨_,rfl⟩
 have hstart:aZ S (zU fn l caps).s.sig { tmps:=(Value.func (.yield l) #[] #[] :: us).toArray ++ Array.replicate (fn.ntmps - (Value.func (.yield l) #[] #[] :: us).toArray.size) undef,defers:=[] } w D noE:=by
  rw [hS]
  refine ⟨?_,⟨⟨fun _=>rfl,⟨[],rfl⟩,List.Pairwise.nil⟩,fun d hd=>(by cases hd)⟩,fun t=>?_,fun nm b hm=>(by cases hm),fun nm b hm=>(by cases hm),fun nm nm' b b' hm=>(by cases hm),Chg.refl _ _,hD,fun b hb=>hb,fun b hb=>.inl hb,
   hG,rfl,jO.nil fun k i b g=>(by obtain ⟨_,_,_,_,_,_,g1,_⟩:=g;cases g1)⟩
  ·simp [hlen]
  ·show (((.yld l :: caps) ++ List.replicate (fn.ntmps - (caps.length + 1)) (AV.val undef)).getD t .top).rel c.P ⟨w,D,noM,noE⟩ _
   rw [List.getD_eq_getElem?_getD,Array.getD_eq_getD_getElem?]
   by_cases ht:t < (AV.yld l :: caps).length
   ·rw [List.getElem?_append_left ht,Array.getElem?_append_left (by simpa [hlen] using ht)]
    obtain ⟨u,g1,g2⟩:=AV.relL_get hargs (List.getElem?_eq_getElem ht)
    rw [List.getElem?_eq_getElem ht]
    simp only [List.getElem?_toArray,g1,Option.getD_some]
    exact g2
   ·rw [List.getElem?_append_right (by omega),Array.getElem?_append_right (by simp [← hlen] at ht ⊢;omega)]
    rw [List.getElem?_replicate,Array.getElem?_replicate]
    split
    ·rename_i h1
     rw [if_pos (by simp [← hlen] at h1 ⊢;omega)]
     rfl
    ·trivial
 have HO:OkS c S:=by
  rw [hS]
  exact ⟨rfl,rfl,hK,hI,hm,fun e=>(e rfl).elim,fun _=>by rw [hrng];rfl,hKP'⟩
 have hr:fn.results=#[]:=by
  apply Array.ext'
  exact List.isEmpty_iff.1 hres
 exact aAQ hf hb (aK9 H hI j3 x3 p3 hr HO (fun b g=>by rw [hS] at g;exact g) (by rw [hS]) (by rw [hS]) (by rw [hS]) (by rw [hS]) (by rw [hS];exact h0) b (zU fn l caps).s h (by rw [hS];simp [zU];omega) _ w ⟨D,noE,hstart⟩)
end Go.Eng
