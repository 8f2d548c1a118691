/- The engine, part 16: a function's contract out of its evaluated body. -/
import Derived.Test.YtlobbofhlcjlmaaGreatDoorH15b
set_option linter.unusedSimpArgs false
set_option linter.unusedVariables false
namespace Go.Eng
open Go.RowKit
theorem aKz {w:World} {k o:Nat} {x:Option (List Deferred)} (h:w.heap[k]?=some (.deferred x)):w.cell? ⟨k,o,none⟩=none:=by
 simp [World.cell?,h]
structure Shr (k:Nat) (C C':Ctx):Prop where
 at_:∃ x,C.w.heap[k]?=some (.deferred x)
 w:∀ b,b≠k→C'.w.heap[b]?=C.w.heap[b]?
 D:∀ b,C.D b→b≠k→C'.D b
 m:C'.m=C.m
 E:C'.E=C.E
theorem Shr.cells {k:Nat} {C C':Ctx} (L:Shr k C C') {b o:Nat} {us:List Value} (hc:gU C.w b o us) (hn:0 < us.length):b≠k∧gU C'.w b o us:=by
 have hb:b≠k:=fun e=>by
  obtain ⟨x,hx⟩:=L.at_
  subst e
  have:=hc 0 us[0] (by simp)
  rw [aKz hx] at this
  cases this
 exact ⟨hb,hc.same (L.w b hb)⟩
theorem gW {k:Nat} {C C':Ctx} (L:Shr k C C'):∀ {t:Ty} {x:t.den} {us:List Value},aF C.w C.D t x us→aF C'.w C'.D t x us
 | .int _,_,_,h=>h
 | .bool,_,_,h=>h
 | .str,_,_,h=>h
 | .sl e,xs,us,h=>by
  obtain ⟨ao,cap,h1,h2,h3,h4,h5⟩:=h
  refine ⟨ao,cap,h1,h2,h3,h4,fun i y hy=>?_⟩
  obtain ⟨a,ue,g1,g2,g3,g4⟩:=h5 i y hy
  obtain ⟨q1,q2⟩:=L.cells g3 (by rw [bG g4];exact Ty.sz_pos e)
  exact ⟨a,ue,g1,L.D _ g2 q1,q2,gW L g4⟩
 | .pair a b,_,_,h=>by
  obtain ⟨u1,u2,h,h1,h2⟩:=h
  exact ⟨u1,u2,h,gW L h1,gW L h2⟩
mutual
def iJ:AV→Bool
 | .clo1 _ _ _ _=>false
 | .clo2 _ _ _ _ _=>false
 | .agg cs=>nH cs
 | .tup cs=>nH cs
 | .fn _ cs=>nH cs
 | .ifc _ a=>iJ a
 | .grd _ a=>iJ a
 | .ipv a=>iJ a
 | .ips cs=>!cs.isEmpty && nH cs
 | .sel _ cs=>nH cs
 | .pin _ a=>iJ a
 | _=>true
def nH:List AV→Bool
 | []=>true
 | a :: as=>iJ a && nH as
end
mutual
theorem AV.rel_shr {P:Program} {k:Nat} {C C':Ctx} (L:Shr k C C'):∀ {a:AV} {v:Value},iJ a=true→a.rel P C v→a.rel P C' v
 | .top,_,_,_=>trivial
 | .dat _ _,_,_,h=>gW L h
 | .agg cs,_,hp,h=>by
  obtain ⟨us,h1,h2⟩:=h
  exact ⟨us,h1,AV.relL_shr L (by simpa [iJ] using hp) h2⟩
 | .tup cs,_,hp,h=>by
  obtain ⟨us,h1,h2⟩:=h
  exact ⟨us,h1,AV.relL_shr L (by simpa [iJ] using hp) h2⟩
 | .val _,_,_,h=>h
 | .buf nm n,v,_,h=>by
  simp only [AV.rel] at h ⊢
  rw [L.m,L.E];exact h
 | .ptr nm g i c,v,_,h=>by
  simp only [AV.rel] at h ⊢
  rw [L.m,L.E];exact h
 | .ip t x,_,_,h=>by
  obtain ⟨b,off,us,h1,h2,h3,h4⟩:=h
  obtain ⟨q1,q2⟩:=L.cells h3 (by rw [bG h4];exact Ty.sz_pos t)
  exact ⟨b,off,us,h1,L.D _ h2 q1,q2,gW L h4⟩
 | .fn f caps,_,hp,h=>by
  obtain ⟨us,h1,h2⟩:=h
  exact ⟨us,h1,AV.relL_shr L (by simpa [iJ] using hp) h2⟩
 | .clo1 a r pre g,_,hp,_=>by simp [iJ] at hp
 | .clo2 a b r pre g,_,hp,_=>by simp [iJ] at hp
 | .ifc t a,_,hp,h=>by
  obtain ⟨u,h1,h2⟩:=h
  exact ⟨u,h1,AV.rel_shr L (by simpa [iJ] using hp) h2⟩
 | .grd g a,_,hp,h=>⟨fun hg=>AV.rel_shr L (by simpa [iJ] using hp) (h.1 hg),h.2⟩
 | .ipv a,_,hp,h=>by
  obtain ⟨b,off,u,h1,h2,h3,h5⟩:=h
  have hb:b≠k:=fun e=>by
   obtain ⟨x,hx⟩:=L.at_
   subst e
   rw [aKz hx] at h3
   cases h3
  exact ⟨b,off,u,h1,L.D _ h2 hb,(cell?_same (L.w _ hb)).trans h3,AV.rel_shr L (by simpa [iJ] using hp) h5⟩
 | .ips cs,_,hp,h=>by
  obtain ⟨b,off,us,h1,h2,h3,h5⟩:=h
  simp only [iJ,Bool.and_eq_true,Bool.not_eq_true',List.isEmpty_eq_false_iff] at hp
  have hl:=AV.relL_length h5
  obtain ⟨q1,q2⟩:=L.cells h3 (by rw [← hl];exact List.length_pos_iff.2 hp.1)
  exact ⟨b,off,us,h1,L.D _ h2 q1,q2,AV.relL_shr L hp.2 h5⟩
 | .ia t xs,_,_,h=>by
  obtain ⟨b,off,h1,h2⟩:=h
  exact ⟨b,off,h1,gW L h2⟩
 | .yld _,_,_,h=>h
 | .view nm n,v,_,h=>by
  simp only [AV.rel] at h ⊢
  rw [L.m,L.E];exact h
 | .av _ _,_,_,h=>by
  obtain ⟨us,h1,h2,h3⟩:=h
  exact ⟨us,h1,h2,fun i y hy=>gW L (h3 i y hy)⟩
 | .sel i cs,_,hp,h=>by
  obtain ⟨us,h1,h2⟩:=h
  exact ⟨us,AV.relL_shr L (by simpa [iJ] using hp) h1,h2⟩
 | .row nm g i kk,v,_,h=>by
  simp only [AV.rel] at h ⊢
  rw [L.m,L.E];exact h
 | .rptr nm g i kk j,v,_,h=>by
  simp only [AV.rel] at h ⊢
  rw [L.m,L.E];exact h
 | .pin u a,_,hp,h=>⟨h.1,AV.rel_shr L (by simpa [iJ] using hp) h.2⟩
theorem AV.relL_shr {P:Program} {k:Nat} {C C':Ctx} (L:Shr k C C'):∀ {as:List AV} {us:List Value},nH as=true→AV.relL P C as us→AV.relL P C' as us
 | [],_,_,h=>h
 | a :: as,_,hp,h=>by
  obtain ⟨u,us',h1,h2,h3⟩:=h
  simp only [nH,Bool.and_eq_true] at hp
  exact ⟨u,us',h1,AV.rel_shr L hp.1 h2,AV.relL_shr L hp.2 h3⟩
end
def aKq:Blk→Bool
 | .var cs=>nH cs
 | .buf _ _ _ ov=>nH (ov.map (·.2))
 | .mat _ _ _ _ _=>false
theorem aNu {ov:List (Nat×AV)} {i:Nat} {a:AV} (hp:nH (ov.map (·.2))=true) (ho:ov.lookup i=some a):iJ a=true:=by
 induction ov with
 | nil=>simp at ho
 | cons p ov ih =>
  obtain ⟨j,b⟩:=p
  simp only [List.map_cons,nH,Bool.and_eq_true] at hp
  simp only [List.lookup] at ho
  split at ho
  ·cases ho;exact hp.1
  ·exact ih hp.2 ho
theorem iL.shr {P:Program} {base k:Nat} {C C':Ctx} (L:Shr k C C') {e:Ent} {b:Blk} (hp:aKq b=true) (he:e.isNil=false→e.b≠k) (h:iL P base C e b):iL P base C' e b:=by
 cases b with
 | var cs =>
  obtain ⟨h0,us,el,h1,h2⟩:=h
  exact ⟨h0,us,el,(L.w _ (he h0)).trans h1,AV.relL_shr L hp h2⟩
 | buf el t xs ov =>
  obtain ⟨raw,h1,h2⟩:=h
  refine ⟨raw,⟨h1.1,?_⟩,fun i y hy=>?_⟩
  ·rcases h1.2 with h | ⟨g,cap,cur,hv,hg,hh,r⟩
   ·exact .inl h
   ·refine .inr ⟨g,cap,cur,hv,hg,?_,r⟩
    unfold Ent.handle at hv
    split at hv
    ·cases hv
    ·rename_i hi
     simp only [Value.slice.injEq,Option.some.injEq,Addr.mk.injEq,and_true,true_and] at hv
     rw [← hv.1,L.w _ (he (by simpa using hi)),hv.1]
     exact hh
  ·have g:=h2 i y hy
   cases ho:ov.lookup i with
   | none=>rw [ho] at g;exact gW L g
   | some a =>
    rw [ho] at g
    obtain ⟨g1,u,g2,g4,g3⟩:=g
    exact ⟨g1,u,g2,g4,AV.rel_shr L (aNu hp ho) g3⟩
 | mat el eli t xss ov=>cases hp
def qG (a:AV):AV:=if iJ a then a else .top
def sweep (rng:Bool) (s:St):Option St :=
 if rng then
  if s.mem.all (fun p=>aKq p.2) && nH s.sv then some { s with tm:=s.tm.map qG } else none
 else some s
structure aFH (σ:Sig):Prop where
 T:∀ t,iJ (σ.T t)=true
 m:∀ nm b,σ.m nm=some b→aKq b=true
 sv:nH σ.sv=true
section
variable {S:Base}
theorem aZ.shr {σ:Sig} {a:Act} {w:World} {D:Nat→Prop} {E:Nat→Ent} {k:Nat} {ds:List Deferred} (h:aZ { S with G:=[] } σ { a with defers:={ target:=.collected k,args:=#[] } :: ds } w D E) (hp:aFH σ)
  (hD0:∀ b,S.D0 b→b < S.w0.heap.size) (hgn:∀ d ∈ S.gd,∀ k,d.target≠.collected k):w.heap[k]?=some (.deferred (some []))∧aZ { S with G:=[] } σ { a with defers:=ds } (w.putObj k (.deferred none)) (fun b=>D b∧b≠k) E:=by
 obtain ⟨⟨dn,⟨ms,dms⟩,dp⟩,dm⟩:=h.df
 rcases dm _ List.mem_cons_self with ⟨_,g⟩ | ⟨k',e1,e2,e3,e4⟩
 ·exact (g k rfl).elim
 simp only [Deferred.mk.injEq,Target.collected.injEq,and_true] at e1
 subst e1
 have L:Shr k ⟨w,D,σ.m,E⟩ ⟨w.putObj k (.deferred none),fun b=>D b∧b≠k,σ.m,E⟩ :=
  ⟨⟨_,e4⟩,fun b hb=>World.putObj_heap_other hb,fun b hb hk=>⟨hb,hk⟩,rfl,rfl⟩
 have ek:∀ nm b,σ.m nm=some b→(E nm).isNil=false→(E nm).b≠k:=fun nm b hm hi e=>(h.own nm b hm hi).2.2 (e ▸ e3)
 have noPriv:∀ nm i b,dY σ.m E nm i b→False:=fun nm i b g=>by
  obtain ⟨_,_,_,_,_,_,g1,_⟩:=g
  have:=hp.m nm _ g1
  cases this
 have hms:∃ ms',ds=ms' ++ S.gd:=by
  cases ms with
  | nil =>
   have hh:({ target:=.collected k,args:=#[] }:Deferred) ∈ S.gd:=by
    have:S.gd={ target:=.collected k,args:=#[] } :: ds:=dms.symm
    rw [this];exact List.mem_cons_self
   exact (hgn _ hh k rfl).elim
  | cons x ms=>exact ⟨ms,(List.cons.inj dms).2⟩
 refine ⟨e4,h.sz,⟨⟨fun e=>(by
  have h1:{ target:=.collected k,args:=#[] } :: ds=S.gd:=dn e
  exact (hgn _ (h1 ▸ List.mem_cons_self) k rfl).elim),hms,(List.pairwise_cons.1 dp).2⟩,fun d hd=>?_⟩,fun t=>AV.rel_shr L (hp.T t) (h.tm t),fun nm b hm=>(h.bl nm b hm).shr L (hp.m nm b hm) (ek nm b hm),fun nm b hm hi=>?_,h.inj,?_,fun b hb=>?_,fun b hb=>⟨h.dlo b hb,?_⟩,fun b hb=>h.dhi b hb.1,fun p hp=>(by cases hp),AV.relL_shr L hp.sv h.svr,⟨fun nm i b g=>(noPriv nm i b g).elim,fun nm i b g=>(noPriv nm i b g).elim,fun nm i b _ _ g=>(noPriv nm i b g).elim⟩⟩
 ·rcases dm d (List.mem_cons_of_mem _ hd) with g | ⟨q,q1,q2,q3,q4⟩
  ·exact .inl g
  have hne:q≠k:=fun e=>(List.pairwise_cons.1 dp).1 d hd (by rw [q1,e])
  exact .inr ⟨q,q1,q2,⟨q3,hne⟩,(World.putObj_heap_other hne).trans q4⟩
 ·obtain ⟨g1,g2,g3⟩:=h.own nm b hm hi
  exact ⟨g1,by simpa using g2,fun hd=>g3 hd.1⟩
 ·refine h.low.step rfl rfl rfl (by simp) fun q hq _=>World.putObj_heap_other fun e=>?_
  have:S.w0.heap.size≤k:=e2
  have:q < S.w0.heap.size:=hq
  omega
 ·have:=h.dlt b hb.1
  simpa using this
 ·intro e
  have h1:b < S.w0.heap.size:=hD0 b hb
  have h2:S.w0.heap.size≤k:=e2
  omega
theorem aEV {fn:Func} {R:Ending→World→Prop} (hgd:S.gd=[]) (hD0:∀ b,S.D0 b→b < S.w0.heap.size) {σ:Sig} (hp:aFH σ) {E:Nat→Ent} {tmps:Array Value}:∀ (ds:List Deferred) (w:World) (D:Nat→Prop),
  aZ { S with G:=[] } σ { tmps:=tmps,defers:=ds } w D E→(∀ w2 D2,aZ { S with G:=[] } σ { tmps:=tmps,defers:=[] } w2 D2 E→∃ v,(results fn tmps).run S.P w2=.ok v w2∧R (.returned v) w2) →
  LeavesInM Fence.wide 0 S.P fn tmps R ds .returning w
 | [],w,D,h,hR=>hR w D h
 | d :: ds,w,D,h,hR=>by
  rcases h.df.2 d List.mem_cons_self with ⟨g,_⟩ | ⟨k,rfl,_⟩
  ·have g:d ∈ S.gd:=g
   rw [hgd] at g;cases g
  obtain ⟨h1,h2⟩:=aZ.shr (a:={ tmps:=tmps,defers:=[] }) h hp hD0 (by rw [hgd];intro d hd;cases hd)
  exact ⟨by simp,.inl ⟨k,_,rfl,run_takeDeferred h1,aEV hgd hD0 hp ds _ _ h2 hR⟩⟩
end
def aF1 (P:Program) (s:St):List ResultVar→Option (List Prop×List AV)
 | []=>some ([],[])
 | .tmp t :: rs=>match aF1 P s rs with
  | some (ns,vs)=>some (ns,s.sig.T t :: vs)
  | none=>none
 | .cell a t :: rs=>match aGl P t (s.sig.T a,fD s.sig.m (s.sig.T a)),aF1 P s rs with
  | some c,some (ns,vs)=>some (c.need ++ ns,c.val :: vs)
  | _,_=>none
def aVg (P:Program) (s:St) (rs:List ResultVar):Option (List Prop×AV):=match aF1 P s rs with
 | some (ns,[v])=>some (ns,v)
 | some (ns,vs)=>some (ns,.tup vs)
 | none=>none
def oH (m:Mem) (k:Nat):Nat:=match m.lookup k with | some b=>b.len | none=>0
def tokens (m:Mem):List AV:=m.map fun p=>.buf p.1 (oH m p.1)
def aFi (m upd:Mem):Mem:=match m with
 | []=>upd
 | m=>m.map fun p=>(p.1,(upd.lookup p.1).getD p.2)
def aRc (ret:AV) (m upd:Mem):St:={ tm:=[ret],mem:=aFi m upd,nx:=0,sv:=tokens m }
def aLS (P:Program) (rng:Bool) (fn:Func) (m:Mem) (r:pF) (s:St):Prop:=match sweep rng s with
 | some s1=>match aVg P s1 fn.results.toList with
  | some (ns,v)=>match aLV { s1 with tm:=[v] } (aRc r.ret m r.upd) with
   | some ms=>all ns (all ms True)
   | none=>False
  | none=>False
 | none=>False
def aWj (P:Program) (rng:Bool) (fn:Func) (m:Mem) (r:pF):Exit→St→Prop
 | .normal,s=>aLS P rng fn m r s
 | .ret,s=>aLS P rng fn m r s
 | _,_=>False
def aO0:Mem→Nat
 | []=>0
 | p :: r=>max (p.1 + 1) (aO0 r)
def kV (fn:Func) (args:List AV) (m:Mem):St:=⟨args ++ List.replicate (fn.ntmps - args.length) (.val undef),m,aO0 m,tokens m⟩
def yJ (m:Mem):Mem→List Prop
 | []=>[]
 | (k,b) :: r=>aNX (oH m k) b :: yJ m r
def aCJ (m upd:Mem):List Prop:=match m with
 | []=>[]
 | m=>yJ m upd
def lZ (m:Mem):Bool:=m.all fun p=>p.2.simple
def evF (c:Cfg) (A:Ann) (f:FuncId) (args:List AV) (m:Mem) (r:pF):Prop:=match c.P.funcs[f]? with
 | some fn=>match fn.body with
  | some b=>(m.isEmpty || ((r.upd.all fun p=>m.any fun q=>q.1 == p.1) && (lZ m && lZ r.upd && r.ret.simple)))=true∧(r.pre→all (aCJ m r.upd) (ev c A b (kV fn args m) (aWj c.P c.rng fn m r)))
  | none=>False
 | none=>False
end Go.Eng
