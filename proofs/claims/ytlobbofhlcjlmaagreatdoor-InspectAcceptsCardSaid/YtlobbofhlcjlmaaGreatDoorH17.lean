/- The engine, part 17: a function keeps its contract. -/
import Derived.Test.YtlobbofhlcjlmaaGreatDoorH16
set_option linter.unusedSimpArgs false
set_option linter.unusedVariables false
namespace Go.Eng
open Go.RowKit
theorem aDu {P:Program} {t:TypeId} {v r:Value} {w w':World} (h:(Instr.loadAt t v).run P w=.ok r w'):(do loadVar t (← asAddr v):Sem Value).run P w=.ok r w':=by
 cases v with
 | pointer a =>
  cases a with
  | some a=>simpa [Instr.loadAt,Instr.sureAddr,asAddr] using h
  | none=>simp [Instr.loadAt,Instr.sureAddr,Sem.run_bind,stuck,Sem.run,Result.andThen] at h
 | _=>simp [Instr.loadAt,Instr.sureAddr,Sem.run_bind,stuck,Sem.run,Result.andThen] at h
theorem wW {S:Base} {s:St} {a:Act} {w:World} {D:Nat→Prop} {E:Nat→Ent} (h:aZ S s.sig a w D E):∀ {rs:List ResultVar} {ns:List Prop} {vs:List AV},aF1 S.P s rs=some (ns,vs)→(∀ q ∈ ns,q) →
  ∃ us:List Value,((rs.mapM fun | ResultVar.tmp t=>pure (a.tmps.getD t undef) | .cell ad t=>do loadVar t (← asAddr (a.tmps.getD ad undef))):Sem (List Value)).run S.P w=.ok us w∧AV.relL S.P ⟨w,D,s.sig.m,E⟩ vs us
 | [],ns,vs,hv,_=>by
  simp only [aF1] at hv
  cases hv
  exact ⟨[],by simp,rfl⟩
 | .tmp t :: rs,ns,vs,hv,hn=>by
  simp only [aF1] at hv
  split at hv
  case h_2=>cases hv
  rename_i ns' vs' hvs
  cases hv
  obtain ⟨us,g1,g2⟩:=wW h hvs hn
  refine ⟨a.tmps.getD t undef :: us,?_,_,us,rfl,h.tm t,g2⟩
  rw [List.mapM_cons]
  simp only [pure_bind,Sem.run_bind,g1,Result.andThen_ok,Sem.run_pure]
 | .cell ad t :: rs,ns,vs,hv,hn=>by
  simp only [aF1] at hv
  split at hv
  case h_2=>cases hv
  rename_i c ns' vs' hc hvs
  cases hv
  obtain ⟨us,g1,g2⟩:=wW h hvs (fun q hq=>hn q (List.mem_append.2 (.inr hq)))
  obtain ⟨r,r1,r2,_,_⟩:=aIx (p:=(s.sig.T ad,fD s.sig.m (s.sig.T ad))) h rfl hc (fun q hq=>hn q (List.mem_append.2 (.inl hq))) (h.tm ad)
  refine ⟨r :: us,?_,_,us,rfl,r2,g2⟩
  have r3:=aDu r1
  rw [List.mapM_cons,Sem.run_bind]
  rw [r3]
  simp only [Result.andThen_ok,Sem.run_bind,g1,Sem.run_pure]
theorem aA9 {P:Program} {fn:Func} {tmps:Array Value} {w:World} {us:List Value}
  (h:((fn.results.toList.mapM fun | ResultVar.tmp t=>pure (tmps.getD t undef) | .cell ad t=>do loadVar t (← asAddr (tmps.getD ad undef))):Sem (List Value)).run P w=.ok us w) :
  (results fn tmps).run P w=.ok (if h:us.toArray.size=1 then us.toArray[0] else .tuple us.toArray) w:=by
 have e:results fn tmps=(do
   let l ← ((fn.results.toList.mapM fun | ResultVar.tmp t=>pure (tmps.getD t undef) | .cell ad t=>do loadVar t (← asAddr (tmps.getD ad undef))):Sem (List Value))
   let vs:Array Value:=l.toArray
   pure (if h:vs.size=1 then vs[0] else .tuple vs)):=by
  unfold results
  rw [Array.mapM_eq_mapM_toList,map_eq_pure_bind,bind_assoc]
  simp only [pure_bind]
  rfl
 rw [e]
 simp only [Sem.run_bind,h,Result.andThen_ok,Sem.run_pure]
theorem aNq {S:Base} {s:St} {a:Act} {w:World} {D:Nat→Prop} {E:Nat→Ent} (h:aZ S s.sig a w D E) {fn:Func} {ns:List Prop} {v:AV} (hv:aVg S.P s fn.results.toList=some (ns,v)) (hn:∀ q ∈ ns,q) :
  ∃ u,(results fn a.tmps).run S.P w=.ok u w∧v.rel S.P ⟨w,D,s.sig.m,E⟩ u:=by
 unfold aVg at hv
 split at hv
 ·rename_i ns1 v1 hv1
  cases hv
  obtain ⟨us',g1,g2⟩:=wW h hv1 hn
  obtain ⟨u1,_,rfl,g3,g4⟩:=g2
  simp only [AV.relL] at g4
  subst g4
  exact ⟨u1,by simpa using aA9 g1,g3⟩
 ·rename_i vs hne hv1
  cases hv
  obtain ⟨us',g1,g2⟩:=wW h hv1 hn
  have hl2:=AV.relL_length g2
  have hne1:us'.toArray.size≠1:=by
   intro e
   have:vs.length=1:=by simpa [hl2] using e
   obtain ⟨v1,rfl⟩:=List.length_eq_one_iff.1 this
   exact hne v1 rfl
  exact ⟨.tuple us'.toArray,by have:=aA9 g1;rw [dif_neg hne1] at this;exact this,us',rfl,g2⟩
 ·cases hv
theorem vU (a:AV):iJ (qG a)=true:=by
 unfold qG
 split
 ·assumption
 ·rfl
theorem aBW {P:Program} {C:Ctx} {a:AV} {v:Value} (h:a.rel P C v):(qG a).rel P C v:=by
 unfold qG
 split
 ·exact h
 ·trivial
theorem aMX {S:Base} {rng:Bool} {s s1:St} (hgd:S.gd=[]) (hs:sweep rng s=some s1) (hnod:S.nod=!rng) (hD0:∀ b,S.D0 b→b < S.w0.heap.size) {a:Act} {w:World} {D:Nat→Prop} {E:Nat→Ent} (h:aZ S s.sig a w D E)
  {fn:Func} {R:Ending→World→Prop}
  (hR:∀ w2 D2,aZ { S with G:=[] } s1.sig { tmps:=a.tmps,defers:=[] } w2 D2 E→∃ v,(results fn a.tmps).run S.P w2=.ok v w2∧R (.returned v) w2) :
  LeavesInM Fence.wide 0 S.P fn a.tmps R a.defers .returning w:=by
 unfold sweep at hs
 split at hs
 ·split at hs
  case isFalse=>cases hs
  rename_i hp
  cases hs
  simp only [Bool.and_eq_true,List.all_eq_true] at hp
  have eT:∀ t,(s.tm.map qG).getD t .top=qG (s.tm.getD t .top):=fun t=>by
   simp only [List.getD_eq_getElem?_getD,List.getElem?_map]
   cases s.tm[t]? with
   | none=>rfl
   | some x=>rfl
  refine aEV hgd hD0 (σ:=(St.sig { s with tm:=s.tm.map qG })) (E:=E) ⟨fun t=>?_,fun nm b hm=>?_,hp.2⟩ a.defers w D ?_ hR
  ·show iJ ((s.tm.map qG).getD t .top)=true
   rw [eT];exact vU _
  ·exact hp.1 (nm,b) (gJ hm)
  ·refine ⟨h.sz,h.df,fun t=>?_,h.bl,h.own,h.inj,h.low,h.dlt,h.dlo,h.dhi,fun p hp=>(by cases hp),h.svr,h.pv⟩
   show ((s.tm.map qG).getD t .top).rel S.P _ _
   rw [eT];exact aBW (h.tm t)
 ·cases hs
  rename_i hr
  have hr:rng=false:=by simpa using hr
  rw [hr] at hnod
  have hd:a.defers=[]:=(h.df.1.1 (by rw [hnod];rfl)).trans hgd
  rw [hd]
  refine hR w D ⟨h.sz,⟨⟨fun _=>hgd.symm,⟨[],hgd.symm⟩,List.Pairwise.nil⟩,fun d hd=>(by cases hd)⟩,h.tm,h.bl,h.own,h.inj,h.low,h.dlt,h.dlo,h.dhi,fun p hp=>(by cases hp),h.svr,h.pv⟩
theorem xG (upd:Mem) (k:Nat):∀ m:Mem,(m.map fun p=>(p.1,(upd.lookup p.1).getD p.2)).lookup k=(m.lookup k).map fun b=>(upd.lookup k).getD b
 | []=>rfl
 | p :: m=>by
  obtain ⟨q,b⟩:=p
  simp only [List.map_cons,List.lookup]
  by_cases e:k=q
  ·subst e;simp
  ·have:(k == q)=false:=by simpa using e
   simp only [this]
   exact xG upd k m
theorem xW (upd:Mem) (k:Nat) {m:Mem} (h:m≠[]):(aFi m upd).lookup k=(m.lookup k).map fun b=>(upd.lookup k).getD b:=by
 unfold aFi
 split
 ·exact (h rfl).elim
 ·exact xG upd k m
theorem aHp {m upd:Mem} (hu:(m.isEmpty || upd.all fun p=>m.any fun q=>q.1 == p.1)=true) (k:Nat):dI (aFi m upd) k=upM (dI m) upd k:=by
 by_cases hm0:m=[]
 ·subst hm0
  show upd.lookup k=upM (dI []) upd k
  unfold upM dI
  cases upd.lookup k <;> rfl
 replace hu:upd.all (fun p=>m.any fun q=>q.1 == p.1)=true:=by
  cases m with
  | nil=>exact (hm0 rfl).elim
  | cons _ _=>simpa using hu
 unfold dI upM
 rw [xW upd k hm0]
 cases h:upd.lookup k with
 | none=>simp
 | some b =>
  have hm:=List.all_eq_true.1 hu _ (gJ h)
  rw [List.any_eq_true] at hm
  obtain ⟨q,q1,q2⟩:=hm
  have q2:q.1=k:=by simpa using q2
  have:∃ b,m.lookup k=some b:=by
   clear h hu hm0
   induction m with
   | nil=>cases q1
   | cons p m ih =>
    obtain ⟨p1,p2⟩:=p
    simp only [List.lookup]
    by_cases e:k=p1
    ·subst e;exact ⟨p2,by simp⟩
    ·have e':(k == p1)=false:=by simpa using e
     simp only [e']
     rcases List.mem_cons.1 q1 with g | g
     ·subst g;exact (e q2.symm).elim
     ·exact ih g
  obtain ⟨b0,hb0⟩:=this
  rw [hb0];rfl
theorem aCo {m:Mem}:∀ {u:Mem},(∀ p ∈ yJ m u,p)→∀ {k:Nat} {b:Blk},u.lookup k=some b→oH m k≤b.len
 | [],_,_,_,h=>by simp at h
 | (k',b') :: r,hn,k,b,h=>by
  simp only [yJ] at hn
  simp only [List.lookup] at h
  split at h
  ·rename_i e
   cases h
   have e:k=k':=by simpa using e
   subst e
   exact aHA (hn _ List.mem_cons_self)
  ·exact aCo (fun p hp=>hn p (List.mem_cons_of_mem _ hp)) h
theorem aCr {P:Program} {w:World} {D:Nat→Prop} {m:Mem} {E:Nat→Ent}:∀ l:Mem,AV.relL P ⟨w,D,dI m,E⟩ (l.map fun p=>.buf p.1 (oH m p.1)) (l.map fun p=>(E p.1).handle (oH m p.1))
 | []=>rfl
 | p :: l=>⟨_,_,rfl,fun b hb=>by
   have e:oH m p.1=b.len:=by
    unfold oH
    have hb':m.lookup p.1=some b:=hb
    rw [hb']
   exact ⟨Nat.le_of_eq e,fun _=>rfl⟩,aCr l⟩
theorem zT {P:Program} {w:World} {D:Nat→Prop} {m:Mem} {m':Nat→Option Blk} {E E':Nat→Ent}:∀ {l:Mem},AV.relL P ⟨w,D,m',E'⟩ (l.map fun p=>.buf p.1 (oH m p.1)) (l.map fun p=>(E p.1).handle (oH m p.1)) →
  ∀ p ∈ l,∀ b,m' p.1=some b→b.len=oH m p.1→aD5 (E p.1) (E' p.1)
 | [],_,p,hp,_,_,_=>by cases hp
 | q :: l,h,p,hp,b,hb,hl=>by
  obtain ⟨u,us,e,g1,g2⟩:=h
  simp only [List.map_cons,List.cons.injEq] at e
  obtain ⟨e1,e2⟩:=e
  rcases List.mem_cons.1 hp with g | g
  ·subst g
   have:=(g1 b hb).2 hl
   exact aM9 (e1.trans this)
  ·subst e2
   exact zT g2 p g b hb hl
theorem xE {S:Base} {fn:Func} {R:Ending→World→Prop} {ch:List PanicEntry} (hgd:S.gd=[]) (hD0:∀ b,S.D0 b→b < S.w0.heap.size) {σ:Sig} (hp:aFH σ) {E:Nat→Ent} {tmps:Array Value}:∀ (ds:List Deferred) (w:World) (D:Nat→Prop),
  aZ { S with G:=[] } σ { tmps:=tmps,defers:=ds } w D E→(∀ w2 D2,aZ { S with G:=[] } σ { tmps:=tmps,defers:=[] } w2 D2 E→R (.panicked ch) w2) →
  LeavesInM Fence.wide 0 S.P fn tmps R ds (.panicking ch) w
 | [],w,D,h,hR=>hR w D h
 | d :: ds,w,D,h,hR=>by
  rcases h.df.2 d List.mem_cons_self with ⟨g,_⟩ | ⟨k,rfl,_⟩
  ·have g:d ∈ S.gd:=g
   rw [hgd] at g;cases g
  obtain ⟨h1,h2⟩:=aZ.shr (a:={ tmps:=tmps,defers:=[] }) h hp hD0 (by rw [hgd];intro d hd;cases hd)
  exact ⟨by simp,.inl ⟨k,_,rfl,run_takeDeferred h1,xE hgd hD0 hp ds _ _ h2 hR⟩⟩
theorem aJT {S:Base} {rng:Bool} {s:St} (hgd:S.gd=[]) (hs:(sweep rng s).isSome=true) (hnod:S.nod=!rng) (hD0:∀ b,S.D0 b→b < S.w0.heap.size) {a:Act} {w:World} {D:Nat→Prop} {E:Nat→Ent} (h:aZ S s.sig a w D E)
  {fn:Func} {R:Ending→World→Prop} {ch:List PanicEntry} (hR:∀ w2,Chg S.O S.w0 w2→R (.panicked ch) w2):LeavesInM Fence.wide 0 S.P fn a.tmps R a.defers (.panicking ch) w:=by
 unfold sweep at hs
 split at hs
 ·split at hs
  case isFalse=>cases hs
  rename_i hp
  simp only [Bool.and_eq_true,List.all_eq_true] at hp
  have eT:∀ t,(s.tm.map qG).getD t .top=qG (s.tm.getD t .top):=fun t=>by
   simp only [List.getD_eq_getElem?_getD,List.getElem?_map]
   cases s.tm[t]? with
   | none=>rfl
   | some x=>rfl
  refine xE hgd hD0 (σ:=(St.sig { s with tm:=s.tm.map qG })) (E:=E) ⟨fun t=>?_,fun nm b hm=>?_,hp.2⟩ a.defers w D ?_ (fun w2 D2 h2=>hR w2 h2.low)
  ·show iJ ((s.tm.map qG).getD t .top)=true
   rw [eT];exact vU _
  ·exact hp.1 (nm,b) (gJ hm)
  ·refine ⟨h.sz,h.df,fun t=>?_,h.bl,h.own,h.inj,h.low,h.dlt,h.dlo,h.dhi,fun p hp=>(by cases hp),h.svr,h.pv⟩
   show ((s.tm.map qG).getD t .top).rel S.P _ _
   rw [eT];exact aBW (h.tm t)
 ·rename_i hr
  have hr:rng=false:=by simpa using hr
  rw [hr] at hnod
  have hd:a.defers=[]:=(h.df.1.1 (by rw [hnod];rfl)).trans hgd
  rw [hd]
  exact hR w h.low
theorem aGz {c:Cfg} {args:List AV} {m:Mem} {r:pF} {fn:Func} {X:List PanicEntry→Prop} {Z:Prop} (hK:aQ c.P c.G c.K) (hI:dF c.P c.G c.KI) (hm:c.P.follows .mixedOrders=true) (hKP:fB c.P c.G c.KP)
  (hu0:(m.isEmpty || ((r.upd.all fun p=>m.any fun q=>q.1 == p.1) && (lZ m && lZ r.upd && r.ret.simple)))=true) (hlens:∀ p ∈ aCJ m r.upd,p)
  (w:World) (D:Nat→Prop) (E:Nat→Ent) (us:List Value) (hD:∀ b,D b→b < w.heap.size) (hG:rU c.P ⟨w,D,dI m,E⟩ c.G) (hargs:AV.relL c.P ⟨w,D,dI m,E⟩ args us) (hH:Held c.P w D (dI m) E) :
  ∃ S:Base,S={ P:=c.P,w0:=w,D0:=D,N:=args.length + (fn.ntmps - args.length),O:=bV (dI m) E,G:=c.G,sv:=m.map fun p=>(E p.1).handle (oH m p.1),rd:=none,nod:=!c.rng }∧OkS c S∧(kV fn args m).tm.length=S.N∧aZ S (kV fn args m).sig { tmps:=us.toArray ++ Array.replicate (fn.ntmps - us.toArray.size) undef,defers:=[] } w D E ∧
   ∀ s' a' w',Sim S s'.sig a' w'→Z→aLS c.P c.rng fn m r s'→LeavesInM Fence.wide 0 c.P fn a'.tmps (fun e w'=>(Z∧∃ v D' E',e=.returned v∧Left c.P (dI m) r.upd w D E w' D' E'∧r.ret.rel c.P ⟨w',D',upM (dI m) r.upd,E'⟩ v)∨∃ ch,e=.panicked ch∧X ch∧Chg (bV (dI m) E) w w') a'.defers .returning w':=by
 have hu:(m.isEmpty || r.upd.all fun p=>m.any fun q=>q.1 == p.1)=true:=by
  rw [Bool.or_eq_true] at hu0 ⊢
  exact hu0.imp id fun g=>(Bool.and_eq_true _ _ ▸ g:_∧_).1
 have hsim:m≠[]→lZ m=true∧lZ r.upd=true∧r.ret.simple=true:=fun hne=>by
  rw [Bool.or_eq_true] at hu0
  rcases hu0 with g | g
  ·exact (hne (List.isEmpty_iff.1 g)).elim
  ·simp only [Bool.and_eq_true] at g
   exact ⟨g.2.1.1,g.2.1.2,g.2.2⟩
 have simB:∀ {m2:Mem} {nm:Nat} {b:Blk},lZ m2=true→m2.lookup nm=some b→b.simple=true:=fun {m2 nm b} hs hl=>by
  have:=List.all_eq_true.1 hs (nm,b) (gJ hl)
  exact this
 have pm0:∀ nm i b,dY (dI m) E nm i b→False:=fun nm i b g=>by
  obtain ⟨_,_,_,_,_,_,g1,_⟩:=g
  have g1':m.lookup nm=some _:=g1
  have hne:m≠[]:=fun e=>by subst e;cases g1'
  have:=simB (hsim hne).1 g1'
  cases this
 have hlen:args.length=us.length:=AV.relL_length hargs
 obtain ⟨S,hS⟩:∃ S:Base,S={ P:=c.P,w0:=w,D0:=D,N:=args.length + (fn.ntmps - args.length),O:=bV (dI m) E,G:=c.G,sv:=m.map fun p=>(E p.1).handle (oH m p.1),rd:=none,nod:=!c.rng }:=⟨_,rfl⟩
 have hSF:S.F=Fence.wide:=by rw [hS];rfl
 have hSP:S.P=c.P:=by rw [hS]
 have hstart:aZ S (kV fn args m).sig { tmps:=us.toArray ++ Array.replicate (fn.ntmps - us.toArray.size) undef,defers:=[] } w D E:=by
  rw [hS]
  refine ⟨?_,⟨⟨fun _=>rfl,⟨[],rfl⟩,List.Pairwise.nil⟩,fun d hd=>(by cases hd)⟩,fun t=>?_,hH.bl,fun nm b hm hi=>⟨.inr ⟨nm,b,hm,hi,rfl⟩,hH.own nm b hm hi⟩,hH.inj,Chg.refl _ _,hD,fun b hb=>hb,fun b hb=>.inl hb,hG,aCr m,jO.nil pm0⟩
  ·show (us.toArray ++ Array.replicate (fn.ntmps - us.toArray.size) undef).size=args.length + (fn.ntmps - args.length)
   simp [hlen]
  ·show ((args ++ List.replicate (fn.ntmps - args.length) (AV.val undef)).getD t .top).rel c.P ⟨w,D,dI m,E⟩ _
   rw [List.getD_eq_getElem?_getD,Array.getD_eq_getD_getElem?]
   by_cases ht:t < args.length
   ·rw [List.getElem?_append_left ht,Array.getElem?_append_left (by simpa using hlen ▸ ht)]
    obtain ⟨u,g1,g2⟩:=AV.relL_get hargs (List.getElem?_eq_getElem ht)
    rw [List.getElem?_eq_getElem ht]
    simp only [List.getElem?_toArray,g1,Option.getD_some]
    exact g2
   ·rw [List.getElem?_append_right (by omega),Array.getElem?_append_right (by simp;omega)]
    rw [List.getElem?_replicate,Array.getElem?_replicate]
    split
    ·rename_i h1
     rw [if_pos (by simp;omega)]
     rfl
    ·trivial
 have HO:OkS c S:=by
  rw [hS]
  exact ⟨rfl,rfl,hK,hI,hm,fun e=>(e rfl).elim,fun _=>rfl,hKP⟩
 have hln:(kV fn args m).tm.length=S.N:=by rw [hS];simp [kV]
 refine ⟨S,hS,HO,hln,hstart,fun s' a' w' hs' hz hq=>?_⟩
 unfold aLS at hq
 split at hq
 case h_2=>exact hq.elim
 rename_i s1 hs1
 split at hq
 case h_2=>exact hq.elim
 rename_i ns v hv
 split at hq
 case h_2=>exact hq.elim
 rename_i ms hms
 obtain ⟨hns,hq⟩:=dO hq
 obtain ⟨hms2,_⟩:=dO hq
 obtain ⟨D',E',hd⟩:=hs'
 rw [← hSP]
 refine aMX (by rw [hS]) hs1 (by rw [hS]) (by rw [hS];exact hD) hd (fun w2 D2 h2=>?_)
 rw [hSP]
 obtain ⟨u,hu1,hu2⟩:=aNq h2 (fn:=fn) (by rw [hS];exact hv) hns
 rw [hSP] at hu1 hu2
 refine ⟨u,hu1,?_⟩
 -- the end, as a state of one slot
 obtain ⟨S1,hS1⟩:∃ S1:Base,S1={ S with G:=[],N:=1 }:=⟨_,rfl⟩
 have h3:aZ S1 (St.sig { s1 with tm:=[v] }) { tmps:=#[u],defers:=[] } w2 D2 E':=by
  rw [hS1]
  refine ⟨rfl,h2.df,fun t=>?_,h2.bl,h2.own,h2.inj,h2.low,h2.dlt,h2.dlo,h2.dhi,h2.gl,h2.svr,h2.pv⟩
  cases t with
  | zero=>show AV.rel S.P _ v u;rw [hSP];exact hu2
  | succ t=>trivial
 obtain ⟨D3,E3,h4,_,_,_⟩:=aC9 h3 hms hms2
 have hP1:S1.P=c.P:=by rw [hS1,hS]
 have hm3:∀ k,(aRc r.ret m r.upd).sig.m k=upM (dI m) r.upd k:=fun k=>aHp hu k
 have hm4:(aRc r.ret m r.upd).sig.m=upM (dI m) r.upd:=funext hm3
 have hrel3:r.ret.rel c.P ⟨w2,D3,upM (dI m) r.upd,E3⟩ u:=by
  have:=h4.tm 0
  rw [hP1,hm4] at this
  exact this
 have hpv:jO w.heap.size (bV (dI m) E) (upM (dI m) r.upd) E3 w2.heap.size D3:=by
  have:=h4.pv
  rw [hS1,hS,hm4] at this
  exact this
 have hchg:Chg (bV (dI m) E) w w2:=by
  have:=h4.low
  rw [hS1,hS] at this
  exact this
 by_cases hm0:m=[]
 ·-- nothing was handed in
  subst hm0
  refine .inl ⟨hz,u,D3,E3,rfl,⟨hchg,fun b hb=>h4.dlo b (by rw [hS1,hS];exact hb),fun b hb=>?_,h4.dlt,⟨fun nm b hb=>?_,fun nm b hb hi=>(h4.own nm b (by rw [hm3];exact hb) hi).2,fun nm nm' b b' hb hb' hi hi' e=>h4.inj nm nm' b b' (by rw [hm3];exact hb) (by rw [hm3];exact hb') hi hi' e,⟨fun nm i b g=>⟨.inr trivial,(hpv.own nm i b g).2⟩,hpv.ent,hpv.inj⟩⟩,fun _ _ _ h0=>(by cases h0),fun _ _ _ h0=>(by cases h0),fun nm b _ hb hi=>?_,fun nm i b g=>.inr (by
   rcases (hpv.own nm i b g).1 with q | ⟨_,_,q,_⟩
   ·exact q
   ·cases q)⟩,hrel3⟩
  ·have:=h4.dhi b hb
   rw [hS1,hS] at this
   rcases this with g | g | ⟨nm,blk,g1,_⟩
   ·exact .inl g
   ·exact .inr (.inl g)
   ·cases g1
  ·have:=h4.bl nm b (by rw [hm3];exact hb)
   rw [hP1,hm4] at this
   exact this
  ·have:=(h4.own nm b (by rw [hm3];exact hb) hi).1
   rw [hS1,hS] at this
   rcases this with g | ⟨nm2,blk,g1,_⟩
   ·exact g
   ·cases g1
 have hlensM:∀ p ∈ yJ m r.upd,p:=by
  have e:aCJ m r.upd=yJ m r.upd:=by
   unfold aCJ
   split
   ·exact (hm0 rfl).elim
   ·rfl
  rw [← e];exact hlens
 have hlen4:∀ nm b,upM (dI m) r.upd nm=some b→∃ b0,m.lookup nm=some b0∧oH m nm≤b.len:=fun nm b hb=>by
  rw [← aHp hu] at hb
  have hb':(aFi m r.upd).lookup nm=some b:=hb
  rw [xW _ _ hm0] at hb'
  cases h0:m.lookup nm with
  | none=>rw [h0] at hb';cases hb'
  | some b0 =>
   rw [h0] at hb'
   refine ⟨b0,rfl,?_⟩
   cases h1:r.upd.lookup nm with
   | none =>
    rw [h1] at hb'
    simp only [Option.map_some,Option.getD_none,Option.some.injEq] at hb'
    subst hb'
    unfold oH;rw [h0];exact Nat.le_refl _
   | some b1 =>
    rw [h1] at hb'
    simp only [Option.map_some,Option.getD_some,Option.some.injEq] at hb'
    subst hb'
    exact aCo hlensM h1
 obtain ⟨E4,hE4⟩:∃ E4:Nat→Ent,E4=fun nm=>match upM (dI m) r.upd nm with | some b=>if b.len=oH m nm then E nm else E3 nm | none=>E3 nm:=⟨_,rfl⟩
 have e4s:∀ nm b,upM (dI m) r.upd nm=some b→b.len=oH m nm→E4 nm=E nm:=fun nm b hb hl=>by rw [hE4];simp only [hb];exact if_pos hl
 have e4n:∀ nm b,upM (dI m) r.upd nm=some b→b.len≠oH m nm→E4 nm=E3 nm:=fun nm b hb hl=>by rw [hE4];simp only [hb];exact if_neg hl
 have hsame:∀ nm b,upM (dI m) r.upd nm=some b→aD5 (E3 nm) (E4 nm):=fun nm b hb=>by
  by_cases hb1:b.len=oH m nm
  ·rw [e4s nm b hb hb1]
   obtain ⟨b0,hb0,_⟩:=hlen4 nm b hb
   have hsv:=h4.svr
   have e1:S1.sv=m.map fun p=>(E p.1).handle (oH m p.1):=by rw [hS1,hS]
   rw [e1] at hsv
   have:=zT hsv (nm,b0) (gJ hb0) b (by rw [hm3];exact hb) hb1
   exact ⟨this.1.symm,fun e=>by obtain ⟨q1,q2⟩:=this.2 (this.1.trans e);exact ⟨q1.symm,q2.symm⟩⟩
  ·rw [e4n nm b hb hb1];exact ⟨rfl,fun _=>⟨rfl,rfl⟩⟩
 have ownE:∀ nm b,upM (dI m) r.upd nm=some b→(E4 nm).isNil=false→(E4 nm).b < w2.heap.size∧¬ D3 (E4 nm).b:=fun nm b hb hi=>by
  obtain ⟨q1,q2⟩:=hsame nm b hb
  obtain ⟨g1,g2,g3⟩:=h4.own nm b (by rw [hm3];exact hb) (q1.trans hi)
  rw [(q2 (q1.trans hi)).1] at g2 g3
  exact ⟨g2,g3⟩
 have simU:∀ nm b,upM (dI m) r.upd nm=some b→b.simple=true:=fun nm b hb=>by
  rw [iE] at hb
  split at hb
  ·rename_i b1 h1
   cases hb
   exact simB (hsim hm0).2.1 h1
  ·exact simB (hsim hm0).1 hb
 have noPriv:∀ nm i b,dY (upM (dI m) r.upd) E4 nm i b→False:=fun nm i b g=>by
  obtain ⟨_,_,_,_,_,_,g1,_⟩:=g
  have:=simU nm _ g1
  cases this
 refine .inl ⟨hz,u,D3,E4,rfl,⟨hchg,fun b hb=>h4.dlo b (by rw [hS1,hS];exact hb),fun b hb=>?_,h4.dlt,⟨fun nm b hb=>?_,ownE,fun nm nm' b b' hb hb' hi hi' e=>?_,jO.nil noPriv⟩,fun nm b b' h0 hb' hl=>e4s nm b' hb' (by rw [hl];unfold oH;rw [show m.lookup nm=some b from h0]),fun nm b b' h0 hb' hi=>?_,fun nm b h0 hb=>?_,fun nm i b g=>(noPriv nm i b g).elim⟩,AV.rel_ent (s:=false) (fun nm b hb=>⟨hsame nm b hb,fun e=>by cases e⟩) (fun _=>(hsim hm0).2.2) hrel3⟩
 ·have:=h4.dhi b hb
  rw [hS1,hS] at this
  rcases this with g | g | ⟨nm,blk,g1,g2,g3⟩
  ·exact .inl g
  ·exact .inr (.inl g)
  ·exact .inr (.inr ⟨nm,blk,g1,g2,g3⟩)
 ·have:=h4.bl nm b (by rw [hm3];exact hb)
  rw [hP1,hm4] at this
  exact iL.ent (s:=false) (fun nm b hb=>⟨hsame nm b hb,fun e=>by cases e⟩) ⟨hsame nm b hb,fun e=>by cases e⟩ (fun _=>simU nm b hb) this
 ·obtain ⟨q1,q2⟩:=hsame nm b hb
  obtain ⟨q3,q4⟩:=hsame nm' b' hb'
  refine h4.inj nm nm' b b' (by rw [hm3];exact hb) (by rw [hm3];exact hb') (q1.trans hi) (q3.trans hi') ?_
  rw [(q2 (q1.trans hi)).1,(q4 (q3.trans hi')).1];exact e
 ·obtain ⟨q1,q2⟩:=hsame nm b' hb'
  have:=(h4.own nm b' (by rw [hm3];exact hb') (q1.trans hi)).1
  rw [hS1,hS,(q2 (q1.trans hi)).1] at this
  exact this.symm
 ·obtain ⟨b1,g1,_⟩:=hlen4 nm b hb
  have h0':m.lookup nm=none:=h0
  rw [g1] at h0';cases h0'
theorem aKX {c:Cfg} {A:Ann} {f:FuncId} {args:List AV} {m:Mem} {r:pF} {fn:Func} {b:Code} {Qg:Exit→St→Prop} {X:List PanicEntry→Prop} {Z:Prop} (hK:aQ c.P c.G c.K) (hI:dF c.P c.G c.KI) (hm:c.P.follows .mixedOrders=true) (hKP:fB c.P c.G c.KP)
  (hf:c.P.funcs[f]?=some fn) (hb:fn.body=some b) (hu0:(m.isEmpty || ((r.upd.all fun p=>m.any fun q=>q.1 == p.1) && (lZ m && lZ r.upd && r.ret.simple)))=true) (hlens:∀ p ∈ aCJ m r.upd,p)
  (h:ev c A b (kV fn args m) Qg) (hQ:∀ e s,Qg e s→((e=.normal∨e=.ret)∧Z∧aLS c.P c.rng fn m r s)∨∃ ch,e=.panic ch∧(sweep c.rng s).isSome=true∧X ch)
  (w:World) (D:Nat→Prop) (E:Nat→Ent) (us:List Value) (hD:∀ b,D b→b < w.heap.size) (hG:rU c.P ⟨w,D,dI m,E⟩ c.G) (hargs:AV.relL c.P ⟨w,D,dI m,E⟩ args us) (hH:Held c.P w D (dI m) E) :
  Calls c.P f us.toArray w fun e w'=>(Z∧∃ v D' E',e=.returned v∧Left c.P (dI m) r.upd w D E w' D' E'∧r.ret.rel c.P ⟨w',D',upM (dI m) r.upd,E'⟩ v)∨∃ ch,e=.panicked ch∧X ch∧Chg (bV (dI m) E) w w':=by
 obtain ⟨S,hS,HO,hln,hstart,key⟩:=aGz (fn:=fn) (X:=X) (Z:=Z) hK hI hm hKP hu0 hlens w D E us hD hG hargs hH
 have hSP:S.P=c.P:=by rw [hS]
 refine (callsIn_wide (n:=0)).1 (aAQ hf hb ?_)
 suffices hgo:At S.P S.rd b (bodyPostM Fence.wide 0 c.P fn fun e w'=>(Z∧∃ v D' E',e=.returned v∧Left c.P (dI m) r.upd w D E w' D' E'∧r.ret.rel c.P ⟨w',D',upM (dI m) r.upd,E'⟩ v)∨∃ ch,e=.panicked ch∧X ch∧Chg (bV (dI m) E) w w')
   { tmps:=us.toArray ++ Array.replicate (fn.ntmps - us.toArray.size) undef,defers:=[] } w by
  rw [hSP,show S.rd=none by rw [hS]] at hgo;exact hgo
 refine qF b S (kV fn args m) Qg _ HO h hln (fun e s' hq hl a' w' hs'=>?_) _ w ⟨D,E,hstart⟩
 rcases hQ e s' hq with ⟨he,hz,hq2⟩ | ⟨ch,rfl,hsw,hx⟩
 ·rcases he with rfl | rfl
  ·exact key s' a' w' hs' hz hq2
  ·exact key s' a' w' hs' hz hq2
 ·obtain ⟨D',E',hd⟩:=hs'
  show LeavesInM Fence.wide 0 c.P fn a'.tmps _ a'.defers (.panicking ch) w'
  rw [← hSP]
  refine aJT (by rw [hS]) hsw (by rw [hS]) (by rw [hS];exact hD) hd fun w2 h2=>?_
  rw [hS] at h2
  exact .inr ⟨ch,rfl,hx,h2⟩
theorem aEl {c:Cfg} {A:Ann} {f:FuncId} {args:List AV} {m:Mem} {r:pF} (hK:aQ c.P c.G c.K) (hI:dF c.P c.G c.KI) (hm:c.P.follows .mixedOrders=true) (hKP:fB c.P c.G c.KP) (h:evF c A f args m r):aC c.P c.G f args m r:=by
 intro hpre w D E us hD hG hargs hH
 unfold evF at h
 split at h
 case h_2=>exact h.elim
 rename_i fn hf
 split at h
 case h_2=>exact h.elim
 rename_i b hb
 obtain ⟨hu0,h⟩:=h
 obtain ⟨hlens,h⟩:=dO (h hpre)
 refine (aKX (X:=fun _=>False) (Z:=True) hK hI hm hKP hf hb hu0 hlens h (fun e s hq=>?_) w D E us hD hG hargs hH).mono fun e w' he=>?_
 ·cases e <;> first
   | exact .inl ⟨.inl rfl,trivial,hq⟩
   | exact .inl ⟨.inr rfl,trivial,hq⟩
   | exact hq.elim
 ·rcases he with ⟨_,g⟩ | ⟨_,_,g,_⟩
  ·exact g
  ·exact g.elim
def evM (c:Cfg) (A:Ann) (f:FuncId) (args:List AV) (m:Mem) (ret:AV) (upd:Mem) (q:aC1):Prop:=match c.P.funcs[f]? with
 | some fn=>match fn.body with
  | some b=>(m.isEmpty || ((upd.all fun p=>m.any fun q=>q.1 == p.1) && (lZ m && lZ upd && ret.simple)))=true∧(q.pre→all (aCJ m upd) (ev c A b (kV fn args m) (fun e s=>match e with
   | .normal=>q.ok=true∧aLS c.P c.rng fn m ⟨True,ret,upd⟩ s
   | .ret=>q.ok=true∧aLS c.P c.rng fn m ⟨True,ret,upd⟩ s
   | .panic ch=>q.ok=false∧(sweep c.rng s).isSome=true∧ch=chainOf q.pan
   | _=>False)))
  | none=>False
 | none=>False
abbrev evC (c:Cfg) (A:Ann) (f:FuncId) (args:List AV) (ret:AV) (q:aC1):Prop:=evM c A f args [] ret [] q
theorem fK {c:Cfg} {A:Ann} {f:FuncId} {args:List AV} {m:Mem} {ret:AV} {upd:Mem} {q:aC1} (hK:aQ c.P c.G c.K) (hI:dF c.P c.G c.KI) (hm:c.P.follows .mixedOrders=true) (hKP:fB c.P c.G c.KP) (h:evM c A f args m ret upd q) :
  aC c.P c.G f args m ⟨q.pre∧q.ok=true,ret,upd⟩∧jM c.P c.G f args m q:=by
 unfold evM at h
 split at h
 case h_2=>exact h.elim
 rename_i fn hf
 split at h
 case h_2=>exact h.elim
 rename_i b hb
 obtain ⟨hu0,h⟩:=h
 have key:=fun (hpre:q.pre)=>by
  obtain ⟨hlens,h⟩:=dO (h hpre)
  exact aKX (m:=m) (r:=⟨True,ret,upd⟩) (X:=fun ch=>q.ok=false∧ch=chainOf q.pan) (Z:=q.ok=true) hK hI hm hKP hf hb hu0 hlens h (fun e s hq=>by
   cases e <;> first
    | exact .inl ⟨.inl rfl,hq⟩
    | exact .inl ⟨.inr rfl,hq⟩
    | exact .inr ⟨_,rfl,hq.2.1,hq.1,hq.2.2⟩
    | exact hq.elim)
 refine ⟨fun ⟨hpre,hok⟩ w D E us hD hG hargs hH=>(key hpre w D E us hD hG hargs hH).mono fun e w' he=>?_,fun hpre hk w D E us hD hG hargs hH=>(key hpre w D E us hD hG hargs hH).mono fun e w' he=>?_⟩
 ·rcases he with ⟨_,g⟩ | ⟨_,_,⟨g,_⟩,_⟩
  ·exact g
  ·rw [hok] at g;cases g
 ·rcases he with ⟨g,_⟩ | ⟨ch,g1,⟨_,g2⟩,g3⟩
  ·rw [hk] at g;cases g
  ·subst g2
   exact ⟨g1,g3⟩
theorem rJ {c:Cfg} {A:Ann} {f:FuncId} {args:List AV} {ret:AV} {q:aC1} (hK:aQ c.P c.G c.K) (hI:dF c.P c.G c.KI) (hm:c.P.follows .mixedOrders=true) (hKP:fB c.P c.G c.KP) (h:evC c A f args ret q) :
  aC c.P c.G f args [] ⟨q.pre∧q.ok=true,ret,[]⟩∧jM c.P c.G f args [] q:=fK hK hI hm hKP h
theorem aA {c:Cfg} {A:Ann} {f:FuncId} {args:List AV} {m:Mem} {r:pF} (hK:aQ c.P c.G c.K) (hI:dF c.P c.G c.KI) (hm:c.P.follows .mixedOrders=true) (h:evF c A f args m r) (hKP:c.KP=fun _ _ _=>none:=by rfl):aC c.P c.G f args m r :=
 aEl hK hI hm (fun f args m r h=>by rw [hKP] at h;cases h) h
end Go.Eng
