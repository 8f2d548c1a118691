/- PeH16 PeH17 PeH17b PeH17c PeH18 PeH21 PeH21b PeH21c PeH22 PeIn1f PeInS PeIn2f PeSvT -/
import Derived.Test.YtdeeijhmpjbfcaaGreatDoorECMatD
import Derived.RecoverIn
import Derived.KernelRfl
import Derived.Test.YtdeeijhmpjbfcaaGreatDoorChecked
set_option linter.all false
namespace Go.Eng
open Go.RowKit
def UF{w:World}{k o:Nat}{x:Option (List Deferred)}(h:w.heap[k]?=some (.deferred x)):w.cell? ⟨k,o,none⟩=none:=by
 simp[World.cell?,h]
structure Shr(k:Nat)(C C':Ctx):Prop where
 at_:∃x,C.w.heap[k]?=some (.deferred x)
 w:∀b,b≠k->C'.w.heap[b]?=C.w.heap[b]?
 D:∀b,C.D b->b≠k->C'.D b
 m:C'.m=C.m
 E:C'.E=C.E
def Shr.cells{k:Nat}{C C':Ctx}(L:Shr k C C'){b o:Nat}{us:Lv}(f:cX C.w b o us)(h:0<us.length):b≠k/\cX C'.w b o us:=by
 have hb:b≠k:=λe=>by
  obtain⟨x,g⟩:=L.at_;subst e;have:=f 0 us[0] (by simp);rw[UF g]at this;cases this
 exact⟨hb,f.same (L.w b hb)⟩
def dH{k:Nat}{C C':Ctx}(L:Shr k C C'):∀{t:Ty}{x:t.den}{us:Lv},ag C.w C.D t x us->ag C'.w C'.D t x us
 |.int _,_,_,h=>h|.bool,_,_,h=>h|.str,_,_,h=>h|.sl e,xs,us,h=>by
  obtain⟨T,cap,g,f,O,G,A⟩:=h;refine⟨T,cap,g,f,O,G,λi y z=>?_⟩;obtain⟨a,ue,g1,g2,g3,g4⟩:=A i y z;obtain⟨v,u⟩:=L.cells g3 (by rw[aY g4];exact zA9 e);exact⟨a,ue,g1,L.D _ g2 v,u,dH L g4⟩
 |.pair a b,_,_,h=>by
  obtain⟨r,j,h,g,f⟩:=h;exact⟨r,j,h,dH L g,dH L f⟩
mutual
def d6:AV->Bool|.clo1 _ _ _ _=>false|.clo2 _ _ _ _ _=>false|.slv _=>false|.agg cs=>kt cs|.tup cs=>kt cs|.fn _ cs=>kt cs|.ifc _ a=>d6 a|.grd _ a=>d6 a|.ipv a=>d6 a|.ips cs=>!cs.isEmpty&&kt cs|.sel _ cs=>kt cs|.pin _ a=>d6 a|_=>true
def kt:List AV->Bool|[]=>true|a::aa=>d6 a&&kt aa
end
mutual
def zB9{P:Program}{k:Nat}{C C':Ctx}(L:Shr k C C'):∀{a:AV}{v:Value},d6 a=true->a.rel P C v->a.rel P C' v
 |.top,_,_,_=>trivial|.dat _ _,_,_,h=>dH L h|.agg cs,_,z,h=>by
  obtain⟨us,G,A⟩:=h;exact⟨us,G,zB4 L (by simpa[d6]using z) A⟩
 |.tup cs,_,z,h=>by
  obtain⟨us,G,A⟩:=h;exact⟨us,G,zB4 L (by simpa[d6]using z) A⟩
 |.val _,_,_,h=>h|.buf T n,v,_,h=>by
  simp only[AV.rel]at h ⊢;rw[L.m,L.E];exact h
 |.ptr T g i c,v,_,h=>by
  simp only[AV.rel]at h ⊢;rw[L.m,L.E];exact h
 |.ip t x,_,_,h=>by
  obtain⟨b,off,us,G,A,O,h4⟩:=h;obtain⟨q1,X⟩:=L.cells O (by rw[aY h4];exact zA9 t);exact⟨b,off,us,G,L.D _ A q1,X,dH L h4⟩
 |.fn f caps,_,z,h=>by
  obtain⟨us,G,A⟩:=h;exact⟨us,G,zB4 L (by simpa[d6]using z) A⟩
 |.clo1 a r pre g,_,z,_=>by simp[d6]at z|.clo2 a b r pre g,_,z,_=>by simp[d6]at z|.ifc t a,_,z,h=>by
  obtain⟨u,G,A⟩:=h;exact⟨u,G,zB9 L (by simpa[d6]using z) A⟩
 |.grd g a,_,z,h=>⟨λhg=>zB9 L (by simpa[d6]using z) (h.1 hg),h.2⟩|.ipv a,_,z,h=>by
  obtain⟨b,off,u,G,A,O,V⟩:=h;have hb:b≠k:=λe=>by
   obtain⟨x,hx⟩:=L.at_;subst e;rw[UF hx]at O;cases O
  exact⟨b,off,u,G,L.D _ A hb,(cell?_same (L.w _ hb)).trans O,zB9 L (by simpa[d6]using z) V⟩
 |.ips cs,_,z,h=>by
  obtain⟨b,off,us,G,A,O,V⟩:=h;simp only[d6,qC,yC,List.isEmpty_eq_false_iff]at z;have hl:=zA3 V;obtain⟨q1,X⟩:=L.cells O (by rw[<- hl];exact qCp.2 z.1);exact⟨b,off,us,G,L.D _ A q1,X,zB4 L z.2 V⟩
 |.ia t xs,_,_,h=>by
  obtain⟨b,off,G,A⟩:=h;exact⟨b,off,G,dH L A⟩
 |.yld _,_,_,h=>h|.view T n,v,_,h=>by
  simp only[AV.rel]at h ⊢;rw[L.m,L.E];exact h
 |.av _ _,_,_,h=>by
  obtain⟨us,G,A,O⟩:=h;exact⟨us,G,A,λi y hy=>dH L (O i y hy)⟩
 |.sel i cs,_,z,h=>by
  obtain⟨us,G,A⟩:=h;exact⟨us,zB4 L (by simpa[d6]using z) G,A⟩
 |.row T g i kk,v,_,h=>by
  simp only[AV.rel]at h ⊢;rw[L.m,L.E];exact h
 |.rptr T g i kk j,v,_,h=>by
  simp only[AV.rel]at h ⊢;rw[L.m,L.E];exact h
 |.pin u a,_,z,h=>⟨h.1,zB9 L (by simpa[d6]using z) h.2⟩
def zB4{P:Program}{k:Nat}{C C':Ctx}(L:Shr k C C'):∀{aa:List AV}{us:Lv},kt aa=true->zA1 P C aa us->zA1 P C' aa us
 |[],_,_,h=>h|a::aa,_,e,h=>by
  obtain⟨u,b,i,g,f⟩:=h;simp only[kt,qC]at e;exact⟨u,b,i,zB9 L e.1 g,zB4 L e.2 f⟩
end
def Um:Blk->Bool|.var cs=>kt cs|.buf _ _ _ ov=>kt (ov.map (·.2))|.mat _ _ _ _ _=>false
def Yr{ov:List (Nat×AV)}{i:Nat}{a:AV}(f:kt (ov.map (·.2))=true)(e:ov.lookup i=some a):d6 a=true:=by
 induction ov with
 |nil=>simp at e|cons p ov g=>
  obtain⟨j,b⟩:=p;simp only[zO,kt,qC]at f;simp only[List.lookup]at e;split at e;cases e;exact f.1;exact g f.2 e
def fe.shr{P:Program}{base k:Nat}{C C':Ctx}(L:Shr k C C'){e:Ent}{b:Blk}(v:Um b=true)(G:e.isNil=false->e.b≠k)(h:fe P base C e b):fe P base C' e b:=by
 cases b with
 |var cs=>
  obtain⟨O,us,el,j,z⟩:=h;exact⟨O,us,el,(L.w _ (G O)).trans j,zB4 L v z⟩
 |buf el t xs ov=>
  obtain⟨raw,j,z⟩:=h;refine⟨raw,⟨j.1,?_⟩,λi y T=>?_⟩;rcases j.2 with h|⟨g,cap,A,f,X,V,r⟩;exact .inl h;refine .inr ⟨g,cap,A,f,X,?_,r⟩;unfold Ent.handle at f;split at f;cases f;rename_i hi;simp only[yF,wQ,qAd,vW,yD]at f;rw[<- f.1,L.w _ (G (by simpa using hi)),f.1];exact V;have g:=z i y T;cases x:ov.lookup i with
  |none=>rw[x]at g;exact dH L g|some a=>
   rw[x]at g;obtain⟨g1,u,g2,g4,g3⟩:=g;exact⟨g1,u,g2,g4,zB9 L (Yr v x) g3⟩
 |mat el eli t xss ov=>cases v
def mC(a:AV):AV:=if d6 a then a else .top
def sweep(rng:Bool)(s:St):Option St:=
 if rng then
  if s.mem.all (λp=>Um p.2)&&kt s.sv then some {s with tm:=s.tm.map mC} else none
 else some s
structure Kp(σ:Sig):Prop where
 T:∀t,d6 (σ.T t)=true
 m:∀nm b,σ.m nm=some b->Um b=true
 sv:kt σ.sv=true
section
variable {S:Base}
def aQ.shr{σ:Sig}{a:Act}{w:World}{D:Nat->Prop}{E:Nat->Ent}{k:Nat}{ds:List Deferred}(h:aQ {S with G:=[]} σ {a with defers:={target:=.collected k,args:=#[]}::ds} w D E)(r:Kp σ)
  (O:∀b,S.D0 b->b<S.w0.heap.size) (v:∀d∈S.gd,∀k,d.target≠.collected k):w.heap[k]?=some (.deferred (some []))/\aQ {S with G:=[]} σ {a with defers:=ds} (w.putObj k (.deferred none)) (λb=>D b/\b≠k) E:=by
 obtain⟨⟨dn,⟨ms,y⟩,dp⟩,dm⟩:=h.df;rcases dm _ wF with⟨_,g⟩|⟨k',e1,e2,e3,e4⟩;exact(g k rfl).elim;simp only[Deferred.mk.injEq,Target.collected.injEq,vW]at e1;subst e1;have L:Shr k ⟨w,D,σ.m,E⟩ ⟨w.putObj k (.deferred none),λb=>D b/\b≠k,σ.m,E⟩:=
  ⟨⟨_,e4⟩,λb hb=>World.putObj_heap_other hb,λb hb hk=>⟨hb,hk⟩,rfl,rfl⟩
 have ek:∀f b,σ.m f=some b->(E f).isNil=false->(E f).b≠k:=λf b hm hi e=>(h.own f b hm hi).2.2 (e▸e3);have j:∀f i b,cB σ.m E f i b->False:=λf i b g=>by
  obtain⟨_,_,_,_,_,_,g1,_⟩:=g;have:=r.m f _ g1;cases this
 have A:∃z,ds=z++S.gd:=by
  cases ms with
  |nil=>
   have hh:({target:=.collected k,args:=#[]}:Deferred)∈S.gd:=by
    have:S.gd={target:=.collected k,args:=#[]}::ds:=y.symm;rw[this];exact wF
   exact(v _ hh k rfl).elim
  |cons x ms=>exact⟨ms,(List.cons.inj y).2⟩
 refine⟨e4,h.sz,⟨⟨λe=>(by
  have X:{target:=.collected k,args:=#[]}::ds=S.gd:=dn e;exact(v _ (X▸wF) k rfl).elim),A,(yV.1 dp).2⟩,λd hd=>?_⟩,λt=>zB9 L (r.T t) (h.tm t),λf b hm=>(h.bl f b hm).shr L (r.m f b hm) (ek f b hm),λf b hm hi=>?_,h.inj,?_,λb hb=>?_,λb hb=>⟨h.dlo b hb,?_⟩,λb hb=>h.dhi b hb.1,λp r=>(by cases r),zB4 L r.sv h.svr,⟨λf i b g=>(j f i b g).elim,λf i b g=>(j f i b g).elim,λf i b _ _ g=>(j f i b g).elim⟩⟩
 rcases dm d (zA _ hd)with g|⟨q,V,q2,q3,q4⟩;exact .inl g;have u:q≠k:=λe=>(yV.1 dp).1 d hd (by rw[V,e]);exact .inr ⟨q,V,q2,⟨q3,u⟩,(World.putObj_heap_other u).trans q4⟩;obtain⟨g1,g2,g3⟩:=h.own f b hm hi;exact⟨g1,by simpa using g2,λhd=>g3 hd.1⟩;refine h.low.step rfl rfl rfl (by simp) λq hq _=>World.putObj_heap_other λe=>?_;have:S.w0.heap.size<=k:=e2;have:q<S.w0.heap.size:=hq;omega;have:=h.dlt b hb.1;simpa using this;intro e;have X:b<S.w0.heap.size:=O b hb;have h2:S.w0.heap.size<=k:=e2;omega
def IH{fn:Func}{R:Ending->World->Prop}(e:S.gd=[])(f:∀b,S.D0 b->b<S.w0.heap.size){σ:Sig}(r:Kp σ){E:Nat->Ent}{tmps:Array Value}:∀(ds:List Deferred) (w:World) (D:Nat->Prop),
  aQ {S with G:=[]} σ {tmps:=tmps,defers:=ds} w D E->(∀i y,aQ {S with G:=[]} σ {tmps:=tmps,defers:=[]} i y E->∃v,(results fn tmps).run S.P i=.ok v i/\R (.returned v) i)->
  LeavesInM Fence.wide 0 S.P fn tmps R ds .returning w
 |[],w,D,h,j=>j w D h|d::ds,w,D,h,j=>by
  rcases h.df.2 d wF with⟨g,_⟩|⟨k,rfl,_⟩;have g:d∈S.gd:=g;rw[e]at g;cases g;obtain⟨x,u⟩:=aQ.shr (a:={tmps:=tmps,defers:=[]}) h r f (by rw[e];intro d hd;cases hd);exact⟨by simp,.inl ⟨k,_,rfl,run_takeDeferred x,IH e f r ds _ _ u j⟩⟩
end
def Lt(P:Program)(s:St):List ResultVar->Option (List Prop×List AV)
 |[]=>some ([],[])|.tmp t::rs=>match Lt P s rs with
  |some (ns,vs)=>some (ns,s.sig.T t::vs)|none=>none
 |.cell a t::rs=>match LW P t (s.sig.T a,cL s.sig.m (s.sig.T a)),Lt P s rs with
  |some c,some (ns,vs)=>some (c.need++ns,c.val::vs)|_,_=>none
def aIh(P:Program)(s:St)(rs:List ResultVar):Option (List Prop×AV):=match Lt P s rs with|some (ns,[v])=>some (ns,v)|some (ns,vs)=>some (ns,.tup vs)|none=>none
def lN(m:Mem)(k:Nat):Nat:=match m.lookup k with|some b=>b.len|none=>0
def tokens(m:Mem):List AV:=m.map λp=>.buf p.1 (lN m p.1)
def JA(m upd:Mem):Mem:=match m with|[]=>upd|m=>m.map λp=>(p.1,(upd.lookup p.1).getD p.2)
def aC7(ret:AV)(m upd:Mem):St:={tm:=[ret],mem:=JA m upd,nx:=0,sv:=tokens m}
def WJ(P:Program)(rng:Bool)(fn:Func)(m:Mem)(r:jY)(s:St):Prop:=match sweep rng s with
 |some s1=>match aIh P s1 fn.results.toList with
  |some (ns,v)=>match WM {s1 with tm:=[v]} (aC7 r.ret m r.upd)with
   |some ms=>all ns (all ms True)|none=>False
  |none=>False
 |none=>False
def aKL(P:Program)(rng:Bool)(fn:Func)(m:Mem)(r:jY):Exit->St->Prop|.normal,s=>WJ P rng fn m r s|.ret,s=>WJ P rng fn m r s|_,_=>False
def tT:Mem->Nat|[]=>0|p::r=>max (p.1+1) (tT r)
def fW(fn:Func)(args:List AV)(m:Mem):St:=⟨args++List.replicate (fn.ntmps-args.length) (.val undef),m,tT m,tokens m⟩
def sc(m:Mem):Mem->List Prop|[]=>[]|(k,b)::r=>Zb (lN m k) b::sc m r
def BY(m upd:Mem):List Prop:=match m with|[]=>[]|m=>sc m upd
def jH(m:Mem):Bool:=m.all λp=>p.2.simple
def evF(c:Cfg)(A:Ann)(f:FuncId)(args:List AV)(m:Mem)(r:jY):Prop:=match c.P.funcs[f]? with
 |some fn=>match fn.body with
  |some b=>(m.isEmpty||((r.upd.all λp=>m.any λq=>q.1==p.1)&&(jH m&&jH r.upd&&r.ret.simple)))=true/\(r.pre->all (BY m r.upd) (ev c A b (fW fn args m) (aKL c.P c.rng fn m r)))|none=>False
 |none=>False
end Go.Eng
namespace Go.Eng
open Go.RowKit
variable {P:Program}
def FW{t:TypeId}{v r:Value}{w w':World}(h:(Instr.loadAt t v).run P w=.ok r w'):(do loadVar t (<- asAddr v):Sem Value).run P w=.ok r w':=by
 cases v with
 |pointer a=>
  cases a with
  |some a=>simpa[Instr.loadAt,Instr.sureAddr,asAddr]using h|none=>simp[Instr.loadAt,Instr.sureAddr,wV,stuck,Sem.run,Result.andThen]at h
 |_=>simp[Instr.loadAt,Instr.sureAddr,wV,stuck,Sem.run,Result.andThen]at h
variable {S:Base}{D:Nat->Prop}{a:Act}{w:World}{E:Nat->Ent}
def qo{s:St}(h:aQ S s.sig a w D E):∀{rs:List ResultVar}{ns:List Prop}{vs:List AV},Lt S.P s rs=some (ns,vs)->(∀q∈ns,q)->
  ∃us:Lv,((rs.mapM fun|ResultVar.tmp t=>pure (a.tmps.getD t undef)|.cell f t=>do loadVar t (<- asAddr (a.tmps.getD f undef))):Sem (Lv)).run S.P w=.ok us w/\zA1 S.P ⟨w,D,s.sig.m,E⟩ vs us
 |[],ns,vs,b,_=>by
  simp only[Lt]at b;cases b;exact⟨[],by simp,rfl⟩
 |.tmp t::rs,ns,vs,b,g=>by
  simp only[Lt]at b;split at b;case h_2=>cases b
  rename_i j i e;cases b;obtain⟨us,g1,g2⟩:=qo h e g;refine⟨a.tmps.getD t undef::us,?_,_,us,rfl,h.tm t,g2⟩;rw[qEb];simp only[pure_bind,wV,g1,vZ,yN]
 |.cell f t::rs,ns,vs,b,g=>by
  simp only[Lt]at b;split at b;case h_2=>cases b
  rename_i c j i z e;cases b;obtain⟨us,g1,g2⟩:=qo h e (λq u=>g q (qJ.2 (.inr u)));obtain⟨r,y,x,_,_⟩:=QI (p:=(s.sig.T f,cL s.sig.m (s.sig.T f))) h rfl z (λq u=>g q (qJ.2 (.inl u))) (h.tm f);refine⟨r::us,?_,_,us,rfl,x,g2⟩;have v:=FW y;rw[qEb,wV];rw[v];simp only[vZ,wV,g1,yN]
variable {fn:Func}{tmps:Array Value}
def wA{us:Lv}
  (h:((fn.results.toList.mapM fun|ResultVar.tmp t=>pure (tmps.getD t undef)|.cell b t=>do loadVar t (<- asAddr (tmps.getD b undef))):Sem (Lv)).run P w=.ok us w):
  (results fn tmps).run P w=.ok (if h:us.toArray.size=1 then us.toArray[0]else .tuple us.toArray) w:=by
 have e:results fn tmps=(do
   let l <- ((fn.results.toList.mapM fun|ResultVar.tmp t=>pure (tmps.getD t undef)|.cell b t=>do loadVar t (<- asAddr (tmps.getD b undef))):Sem (Lv))
   let vs:Array Value:=l.toArray
   pure (if h:vs.size=1 then vs[0]else .tuple vs)):=by
  unfold results;rw[qDi,map_eq_pure_bind,bind_assoc];simp only[pure_bind];rfl
 rw[e];simp only[wV,h,vZ,yN]
def Yk{s:St}(h:aQ S s.sig a w D E){ns:List Prop}{v:AV}(g:aIh S.P s fn.results.toList=some (ns,v))(y:∀q∈ns,q):
  ∃u,(results fn a.tmps).run S.P w=.ok u w/\v.rel S.P ⟨w,D,s.sig.m,E⟩ u:=by
 unfold aIh at g;split at g;rename_i A x f;cases g;obtain⟨b,g1,g2⟩:=qo h f y;obtain⟨z,_,rfl,g3,g4⟩:=g2;simp only[zA1]at g4;subst g4;exact⟨z,by simpa using wA g1,g3⟩;rename_i vs j f;cases g;obtain⟨b,g1,g2⟩:=qo h f y;have r:=zA3 g2;have i:b.toArray.size≠1:=by
  intro e;have:vs.length=1:=by simpa[r]using e
  obtain⟨x,rfl⟩:=kU.1 this;exact j x rfl
 exact⟨.tuple b.toArray,by have:=wA g1;rw[dif_neg i]at this;exact this,b,rfl,g2⟩;cases g
def pJ(a:AV):d6 (mC a)=true:=by
 unfold mC;split;assumption;rfl
def zx{C:Ctx}{a:AV}{v:Value}(h:a.rel P C v):(mC a).rel P C v:=by
 unfold mC;split;exact h;trivial
variable {R:Ending->World->Prop}
def XP{rng:Bool}{s y:St}(e:S.gd=[])(i:sweep rng s=some y)(f:S.nod=!rng)(u:∀b,S.D0 b->b<S.w0.heap.size)(h:aQ S s.sig a w D E)
  (z:∀j O,aQ {S with G:=[]} y.sig {tmps:=a.tmps,defers:=[]} j O E->∃v,(results fn a.tmps).run S.P j=.ok v j/\R (.returned v) j):
  LeavesInM Fence.wide 0 S.P fn a.tmps R a.defers .returning w:=by
 unfold sweep at i;split at i;split at i;rename_i g;cases i;simp only[qC,qQ]at g;have A:∀t,(s.tm.map mC).getD t .top=mC (s.tm.getD t .top):=λt=>by
  simp only[qA,qX];cases s.tm[t]? with
  |none=>rfl|some x=>rfl
 refine IH e u (σ:=(St.sig {s with tm:=s.tm.map mC})) (E:=E) ⟨λt=>?_,λL b hm=>?_,g.2⟩ a.defers w D ?_ z;show d6 ((s.tm.map mC).getD t .top)=true;rw[A];exact pJ _;exact g.1 (L,b) (di hm);refine⟨h.sz,h.df,λt=>?_,h.bl,h.own,h.inj,h.low,h.dlt,h.dlo,h.dhi,λp g=>(by cases g),h.svr,h.pv⟩;show((s.tm.map mC).getD t .top).rel S.P _ _;rw[A];exact zx (h.tm t);cases i;cases i;rename_i r;have r:rng=false:=by simpa using r
 rw[r]at f;have hd:a.defers=[]:=(h.df.1.1 (by rw[f];rfl)).trans e;rw[hd];refine z w D ⟨h.sz,⟨⟨λ_=>e.symm,⟨[],e.symm⟩,yZ⟩,λd hd=>(by cases hd)⟩,h.tm,h.bl,h.own,h.inj,h.low,h.dlt,h.dlo,h.dhi,λp g=>(by cases g),h.svr,h.pv⟩
def qD(upd:Mem)(k:Nat):∀m:Mem,(m.map λp=>(p.1,(upd.lookup p.1).getD p.2)).lookup k=(m.lookup k).map λb=>(upd.lookup k).getD b
 |[]=>rfl|p::m=>by
  obtain⟨q,b⟩:=p;simp only[zO,List.lookup];by_cases e:k=q;subst e;simp;have:(k==q)=false:=by simpa using e
  simp only[this];exact qD upd k m
variable {m:Mem}
def rK(upd:Mem)(k:Nat)(h:m≠[]):(JA m upd).lookup k=(m.lookup k).map λb=>(upd.lookup k).getD b:=by
 unfold JA;split;exact(h rfl).elim;exact qD upd k m
def Ob{m upd:Mem}(i:(m.isEmpty||upd.all λp=>m.any λq=>q.1==p.1)=true)(k:Nat):bN (JA m upd) k=upM (bN m) upd k:=by
 by_cases f:m=[];subst f;show upd.lookup k=upM (bN []) upd k;unfold upM bN;cases upd.lookup k<;>rfl;replace i:upd.all (λp=>m.any λq=>q.1==p.1)=true:=by
  cases m with
  |nil=>exact(f rfl).elim|cons _ _=>simpa using i
 unfold bN upM;rw[rK upd k f];cases h:upd.lookup k with
 |none=>simp|some b=>
  have hm:=qQ.1 i _ (di h);rw[xI]at hm;obtain⟨q,u,j⟩:=hm;have j:q.1=k:=by simpa using j
  have:∃b,m.lookup k=some b:=by
   clear h i f;induction m with
   |nil=>cases u
   |cons p m v=>
    obtain⟨p1,p2⟩:=p;simp only[List.lookup];by_cases e:k=p1;subst e;exact⟨p2,by simp⟩;have x:(k==p1)=false:=by simpa using e
    simp only[x];rcases zH.1 u with g|g;subst g;exact(e j.symm).elim;exact v g
  obtain⟨y,r⟩:=this;rw[r];rfl
def Bi:∀{u:Mem},(∀p∈sc m u,p)->∀{k:Nat}{b:Blk},u.lookup k=some b->lN m k<=b.len
 |[],_,_,_,h=>by simp at h|(k',i)::r,f,k,b,h=>by
  simp only[sc]at f;simp only[List.lookup]at h;split at h;rename_i e;cases h;have e:k=k':=by simpa using e
  subst e;exact O3 (f _ wF);exact Bi (λp g=>f p (zA _ g)) h
def Bm:∀l:Mem,zA1 P ⟨w,D,bN m,E⟩ (l.map λp=>.buf p.1 (lN m p.1)) (l.map λp=>(E p.1).handle (lN m p.1))
 |[]=>rfl|p::l=>⟨_,_,rfl,λb hb=>by
   have e:lN m p.1=b.len:=by
    unfold lN;have f:m.lookup p.1=some b:=hb;rw[f]
   exact⟨xO e,λ_=>rfl⟩,Bm l⟩
def tc{m':Nat->Option Blk}{E E':Nat->Ent}:∀{l:Mem},zA1 P ⟨w,D,m',E'⟩ (l.map λp=>.buf p.1 (lN m p.1)) (l.map λp=>(E p.1).handle (lN m p.1))->
  ∀p∈l,∀b,m' p.1=some b->b.len=lN m p.1->G8 (E p.1) (E' p.1)
 |[],_,p,f,_,_,_=>by cases f
 |q::l,h,p,f,b,hb,i=>by
  obtain⟨u,us,e,g1,g2⟩:=h;simp only[zO,vH]at e;obtain⟨r,j⟩:=e;rcases zH.1 f with g|g;subst g;have:=(g1 b hb).2 i;exact X1 (r.trans this);subst j;exact tc g2 p g b hb i
def qz{u:List PanicEntry}(e:S.gd=[])(f:∀b,S.D0 b->b<S.w0.heap.size){σ:Sig}(r:Kp σ):∀(ds:List Deferred) (w:World) (D:Nat->Prop),
  aQ {S with G:=[]} σ {tmps:=tmps,defers:=ds} w D E->(∀j y,aQ {S with G:=[]} σ {tmps:=tmps,defers:=[]} j y E->R (.panicked u) j)->
  LeavesInM Fence.wide 0 S.P fn tmps R ds (.panicking u) w
 |[],w,D,h,i=>i w D h|d::ds,w,D,h,i=>by
  rcases h.df.2 d wF with⟨g,_⟩|⟨k,rfl,_⟩;have g:d∈S.gd:=g;rw[e]at g;cases g;obtain⟨x,v⟩:=aQ.shr (a:={tmps:=tmps,defers:=[]}) h r f (by rw[e];intro d hd;cases hd);exact⟨by simp,.inl ⟨k,_,rfl,run_takeDeferred x,qz e f r ds _ _ v i⟩⟩
def Tj{rng:Bool}{s:St}(g:S.gd=[])(j:(sweep rng s).isSome=true)(e:S.nod=!rng)(u:∀b,S.D0 b->b<S.w0.heap.size)(h:aQ S s.sig a w D E){z:List PanicEntry}(v:∀i,Chg S.O S.w0 i->R (.panicked z) i):LeavesInM Fence.wide 0 S.P fn a.tmps R a.defers (.panicking z) w:=by
 unfold sweep at j;split at j;split at j;rename_i f;simp only[qC,qQ]at f;have y:∀t,(s.tm.map mC).getD t .top=mC (s.tm.getD t .top):=λt=>by
  simp only[qA,qX];cases s.tm[t]? with
  |none=>rfl|some x=>rfl
 refine qz g u (σ:=(St.sig {s with tm:=s.tm.map mC})) (E:=E) ⟨λt=>?_,λA b hm=>?_,f.2⟩ a.defers w D ?_ (λi L G=>v i G.low);show d6 ((s.tm.map mC).getD t .top)=true;rw[y];exact pJ _;exact f.1 (A,b) (di hm);refine⟨h.sz,h.df,λt=>?_,h.bl,h.own,h.inj,h.low,h.dlt,h.dlo,h.dhi,λp f=>(by cases f),h.svr,h.pv⟩;show((s.tm.map mC).getD t .top).rel S.P _ _;rw[y];exact zx (h.tm t);cases j;rename_i r;have r:rng=false:=by simpa using r
 rw[r]at e;have hd:a.defers=[]:=(h.df.1.1 (by rw[e];rfl)).trans g;rw[hd];exact v w h.low
variable {args:List AV}{r:jY}{X:List PanicEntry->Prop}{c:Cfg}
def MG{Z:Prop}(hK:ai c.P c.G c.K)(hI:bh c.P c.G c.KI)(hm:c.P.follows .mixedOrders=true)(hKP:bJ c.P c.G c.KP)
  (hu0:(m.isEmpty||((r.upd.all λp=>m.any λq=>q.1==p.1)&&(jH m&&jH r.upd&&r.ret.simple)))=true) (hlens:∀p∈BY m r.upd,p)
  (w:World) (D:Nat->Prop) (E:Nat->Ent) (us:Lv) (hD:∀b,D b->b<w.heap.size) (hG:me c.P ⟨w,D,bN m,E⟩ c.G) (hargs:zA1 c.P ⟨w,D,bN m,E⟩ args us) (hH:Held c.P w D (bN m) E):
  ∃S:Base,S={P:=c.P,w0:=w,D0:=D,N:=args.length+(fn.ntmps-args.length),O:=bA (bN m) E,G:=c.G,sv:=m.map λp=>(E p.1).handle (lN m p.1),rd:=none,nod:=!c.rng}/\OkS c S/\(fW fn args m).tm.length=S.N/\aQ S (fW fn args m).sig {tmps:=us.toArray++Array.replicate (fn.ntmps-us.toArray.size) undef,defers:=[]} w D E/\
   ∀s' a' w',Sim S s'.sig a' w'->Z->WJ c.P c.rng fn m r s'->LeavesInM Fence.wide 0 c.P fn a'.tmps (λe w'=>(Z/\∃v D' E',e=.returned v/\Left c.P (bN m) r.upd w D E w' D' E'/\r.ret.rel c.P ⟨w',D',upM (bN m) r.upd,E'⟩ v)\/∃ch,e=.panicked ch/\X ch/\Chg (bA (bN m) E) w w') a'.defers .returning w':=by
 have hu:(m.isEmpty||r.upd.all λp=>m.any λq=>q.1==p.1)=true:=by
  rw[yH]at hu0 ⊢;exact hu0.imp id λg=>(qC _ _▸g:_/\_).1
 have T:m≠[]->jH m=true/\jH r.upd=true/\r.ret.simple=true:=λhne=>by
  rw[yH]at hu0;rcases hu0 with g|g;exact(hne (zB.1 g)).elim;simp only[qC]at g;exact⟨g.2.1.1,g.2.1.2,g.2.2⟩
 have simB:∀{m2:Mem}{f:Nat}{b:Blk},jH m2=true->m2.lookup f=some b->b.simple=true:=λ{m2 f b} hs hl=>by
  have:=qQ.1 hs (f,b) (di hl);exact this
 have pm0:∀f i b,cB (bN m) E f i b->False:=λf i b g=>by
  obtain⟨_,_,_,_,_,_,g1,_⟩:=g;have g1':m.lookup f=some _:=g1;have hne:m≠[]:=λe=>by subst e;cases g1'
  have:=simB (T hne).1 g1';cases this
 have hlen:args.length=us.length:=zA3 hargs;obtain⟨S,z⟩:∃S:Base,S={P:=c.P,w0:=w,D0:=D,N:=args.length+(fn.ntmps-args.length),O:=bA (bN m) E,G:=c.G,sv:=m.map λp=>(E p.1).handle (lN m p.1),rd:=none,nod:=!c.rng}:=⟨_,rfl⟩;have hSF:S.F=Fence.wide:=by rw[z];rfl
 have hSP:S.P=c.P:=by rw[z]
 have hstart:aQ S (fW fn args m).sig {tmps:=us.toArray++Array.replicate (fn.ntmps-us.toArray.size) undef,defers:=[]} w D E:=by
  rw[z];refine⟨?_,⟨⟨λ_=>rfl,⟨[],rfl⟩,yZ⟩,λd hd=>(by cases hd)⟩,λt=>?_,hH.bl,λf b hm hi=>⟨.inr ⟨f,b,hm,hi,rfl⟩,hH.own f b hm hi⟩,hH.inj,Chg.refl _ _,hD,λb hb=>hb,λb hb=>.inl hb,hG,Bm m,fU.nil pm0⟩;show(us.toArray++Array.replicate (fn.ntmps-us.toArray.size) undef).size=args.length+(fn.ntmps-args.length);simp[hlen];show((args++List.replicate (fn.ntmps-args.length) (AV.val undef)).getD t .top).rel c.P ⟨w,D,bN m,E⟩ _;rw[qA,qV];by_cases ht:t<args.length;rw[vS ht,kW (by simpa using hlen▸ht)];obtain⟨u,g1,g2⟩:=zA6 hargs (qB ht);rw[qB ht];simp only[kZ,g1,qK];exact g2;rw[vJ zoo,kS (by simp;omega)];rw[wY,yY];split;rename_i h1;rw[if_pos (by simp;omega)];rfl;trivial
 have HO:OkS c S:=by
  rw[z];exact⟨rfl,rfl,hK,hI,hm,λe=>(e rfl).elim,λ_=>rfl,hKP⟩
 have hln:(fW fn args m).tm.length=S.N:=by rw[z];simp[fW]
 refine⟨S,z,HO,hln,hstart,λs' a' w' hs' hz hq=>?_⟩;unfold WJ at hq;split at hq;case h_2=>exact hq.elim
 rename_i s1 hs1;split at hq;case h_2=>exact hq.elim
 rename_i ns v hv;split at hq;case h_2=>exact hq.elim
 rename_i ms hms;obtain⟨hns,hq⟩:=bR hq;obtain⟨hms2,_⟩:=bR hq;obtain⟨D',E',hd⟩:=hs';rw[<- hSP];refine XP (by rw[z]) hs1 (by rw[z]) (by rw[z];exact hD) hd (λw2 D2 h2=>?_);rw[hSP];obtain⟨u,hu1,hu2⟩:=Yk h2 (fn:=fn) (by rw[z];exact hv) hns;rw[hSP]at hu1 hu2;refine⟨u,hu1,?_⟩;obtain⟨S1,y⟩:∃S1:Base,S1={S with G:=[],N:=1}:=⟨_,rfl⟩;have h3:aQ S1 (St.sig {s1 with tm:=[v]}) {tmps:=#[u],defers:=[]} w2 D2 E':=by
  rw[y];refine⟨rfl,h2.df,λt=>?_,h2.bl,h2.own,h2.inj,h2.low,h2.dlt,h2.dlo,h2.dhi,h2.gl,h2.svr,h2.pv⟩;cases t with
  |zero=>show AV.rel S.P _ v u;rw[hSP];exact hu2|succ t=>trivial
 obtain⟨D3,E3,A,_,_,_⟩:=ET h3 hms hms2;have hP1:S1.P=c.P:=by rw[y,z]
 have x:∀k,(aC7 r.ret m r.upd).sig.m k=upM (bN m) r.upd k:=λk=>Ob hu k;have hm4:(aC7 r.ret m r.upd).sig.m=upM (bN m) r.upd:=funext x;have hrel3:r.ret.rel c.P ⟨w2,D3,upM (bN m) r.upd,E3⟩ u:=by
  have:=A.tm 0;rw[hP1,hm4]at this;exact this
 have hpv:fU w.heap.size (bA (bN m) E) (upM (bN m) r.upd) E3 w2.heap.size D3:=by
  have:=A.pv;rw[y,z,hm4]at this;exact this
 have hchg:Chg (bA (bN m) E) w w2:=by
  have:=A.low;rw[y,z]at this;exact this
 by_cases V:m=[]
 ·
  subst V;refine .inl ⟨hz,u,D3,E3,rfl,⟨hchg,λb hb=>A.dlo b (by rw[y,z];exact hb),λb hb=>?_,A.dlt,⟨λf b hb=>?_,λf b hb hi=>(A.own f b (by rw[x];exact hb) hi).2,λf nm' b b' hb h hi hi' e=>A.inj f nm' b b' (by rw[x];exact hb) (by rw[x];exact h) hi hi' e,⟨λf i b g=>⟨.inr trivial,(hpv.own f i b g).2⟩,hpv.ent,hpv.inj⟩⟩,λ_ _ _ h0=>(by cases h0),λ_ _ _ h0=>(by cases h0),λf b _ hb hi=>?_,λf i b g=>.inr (by
   rcases(hpv.own f i b g).1 with q|⟨_,_,q,_⟩;exact q;cases q)⟩,hrel3⟩
  have:=A.dhi b hb;rw[y,z]at this;rcases this with g|g|⟨f,blk,g1,_⟩;exact .inl g;exact .inr (.inl g);cases g1;have:=A.bl f b (by rw[x];exact hb);rw[hP1,hm4]at this;exact this;have:=(A.own f b (by rw[x];exact hb) hi).1;rw[y,z]at this;rcases this with g|⟨nm2,blk,g1,_⟩;exact g;cases g1
 have hlensM:∀p∈sc m r.upd,p:=by
  have e:BY m r.upd=sc m r.upd:=by
   unfold BY;split;exact(V rfl).elim;rfl
  rw[<- e];exact hlens
 have hlen4:∀f b,upM (bN m) r.upd f=some b->∃b0,m.lookup f=some b0/\lN m f<=b.len:=λf b hb=>by
  rw[<- Ob hu]at hb;have h:(JA m r.upd).lookup f=some b:=hb;rw[rK _ _ V]at h;cases h0:m.lookup f with
  |none=>rw[h0]at h;cases h
  |some b0=>
   rw[h0]at h;refine⟨b0,rfl,?_⟩;cases h1:r.upd.lookup f with
   |none=>
    rw[h1]at h;simp only[zY,Option.getD_none,wQ]at h;subst h;unfold lN;rw[h0];exact qM _
   |some b1=>
    rw[h1]at h;simp only[zY,qK,wQ]at h;subst h;exact Bi hlensM h1
 obtain⟨E4,hE4⟩:∃E4:Nat->Ent,E4=λf=>match upM (bN m) r.upd f with|some b=>if b.len=lN m f then E f else E3 f|none=>E3 f:=⟨_,rfl⟩
 have e4s:∀f b,upM (bN m) r.upd f=some b->b.len=lN m f->E4 f=E f:=λf b hb hl=>by rw[hE4];simp only[hb];exact if_pos hl
 have e4n:∀f b,upM (bN m) r.upd f=some b->b.len≠lN m f->E4 f=E3 f:=λf b hb hl=>by rw[hE4];simp only[hb];exact if_neg hl
 have j:∀f b,upM (bN m) r.upd f=some b->G8 (E3 f) (E4 f):=λf b hb=>by
  by_cases hb1:b.len=lN m f;rw[e4s f b hb hb1];obtain⟨b0,hb0,_⟩:=hlen4 f b hb;have hsv:=A.svr;have e1:S1.sv=m.map λp=>(E p.1).handle (lN m p.1):=by rw[y,z]
  rw[e1]at hsv;have:=tc hsv (f,b0) (di hb0) b (by rw[x];exact hb) hb1;exact⟨this.1.symm,λe=>by obtain⟨q1,q2⟩:=this.2 (this.1.trans e);exact⟨q1.symm,q2.symm⟩⟩;rw[e4n f b hb hb1];exact⟨rfl,λ_=>⟨rfl,rfl⟩⟩
 have ownE:∀f b,upM (bN m) r.upd f=some b->(E4 f).isNil=false->(E4 f).b<w2.heap.size/\¬D3 (E4 f).b:=λf b hb hi=>by
  obtain⟨q1,q2⟩:=j f b hb;obtain⟨g1,g2,g3⟩:=A.own f b (by rw[x];exact hb) (q1.trans hi);rw[(q2 (q1.trans hi)).1]at g2 g3;exact⟨g2,g3⟩
 have simU:∀f b,upM (bN m) r.upd f=some b->b.simple=true:=λf b hb=>by
  rw[dV]at hb;split at hb;rename_i b1 h1;cases hb;exact simB (T V).2.1 h1;exact simB (T V).1 hb
 have L:∀f i b,cB (upM (bN m) r.upd) E4 f i b->False:=λf i b g=>by
  obtain⟨_,_,_,_,_,_,g1,_⟩:=g;have:=simU f _ g1;cases this
 refine .inl ⟨hz,u,D3,E4,rfl,⟨hchg,λb hb=>A.dlo b (by rw[y,z];exact hb),λb hb=>?_,A.dlt,⟨λf b hb=>?_,ownE,λf nm' b b' hb h hi hi' e=>?_,fU.nil L⟩,λf b b' h0 h hl=>e4s f b' h (by rw[hl];unfold lN;rw[show m.lookup f=some b from h0]),λf b b' h0 h hi=>?_,λf b h0 hb=>?_,λf i b g=>(L f i b g).elim⟩,zB7 (s:=false) (λf b hb=>⟨j f b hb,λe=>by cases e⟩) (λ_=>(T V).2.2) hrel3⟩;have:=A.dhi b hb;rw[y,z]at this;rcases this with g|g|⟨f,blk,g1,g2,g3⟩;exact .inl g;exact .inr (.inl g);exact .inr (.inr ⟨f,blk,g1,g2,g3⟩);have:=A.bl f b (by rw[x];exact hb);rw[hP1,hm4]at this;exact fe.ent (s:=false) (λf b hb=>⟨j f b hb,λe=>by cases e⟩) ⟨j f b hb,λe=>by cases e⟩ (λ_=>simU f b hb) this;obtain⟨q1,q2⟩:=j f b hb;obtain⟨q3,q4⟩:=j nm' b' h;refine A.inj f nm' b b' (by rw[x];exact hb) (by rw[x];exact h) (q1.trans hi) (q3.trans hi') ?_;rw[(q2 (q1.trans hi)).1,(q4 (q3.trans hi')).1];exact e;obtain⟨q1,q2⟩:=j f b' h;have:=(A.own f b' (by rw[x];exact h) (q1.trans hi)).1;rw[y,z,(q2 (q1.trans hi)).1]at this;exact this.symm;obtain⟨b1,g1,_⟩:=hlen4 f b hb;have h0':m.lookup f=none:=h0;rw[g1]at h0';cases h0'
variable {A:Ann}{f:FuncId}
def Vo{b:Code}{Qg:Exit->St->Prop}{Z:Prop}(hK:ai c.P c.G c.K)(hI:bh c.P c.G c.KI)(hm:c.P.follows .mixedOrders=true)(hKP:bJ c.P c.G c.KP)
  (hf:c.P.funcs[f]?=some fn) (hb:fn.body=some b) (V:(m.isEmpty||((r.upd.all λp=>m.any λq=>q.1==p.1)&&(jH m&&jH r.upd&&r.ret.simple)))=true) (u:∀p∈BY m r.upd,p)
  (h:ev c A b (fW fn args m) Qg) (hQ:∀e s,Qg e s->((e=.normal\/e=.ret)/\Z/\WJ c.P c.rng fn m r s)\/∃g,e=.panic g/\(sweep c.rng s).isSome=true/\X g)
  (w:World) (D:Nat->Prop) (E:Nat->Ent) (us:Lv) (hD:∀b,D b->b<w.heap.size) (hG:me c.P ⟨w,D,bN m,E⟩ c.G) (x:zA1 c.P ⟨w,D,bN m,E⟩ args us) (hH:Held c.P w D (bN m) E):
  Calls c.P f us.toArray w λe w'=>(Z/\∃v D' E',e=.returned v/\Left c.P (bN m) r.upd w D E w' D' E'/\r.ret.rel c.P ⟨w',D',upM (bN m) r.upd,E'⟩ v)\/∃g,e=.panicked g/\X g/\Chg (bA (bN m) E) w w':=by
 obtain⟨S,y,HO,hln,i,key⟩:=MG (fn:=fn) (X:=X) (Z:=Z) hK hI hm hKP V u w D E us hD hG x hH;have O:S.P=c.P:=by rw[y]
 refine(callsIn_wide (n:=0)).1 (vt hf hb ?_);suffices L:At S.P S.rd b (bodyPostM Fence.wide 0 c.P fn λe w'=>(Z/\∃v D' E',e=.returned v/\Left c.P (bN m) r.upd w D E w' D' E'/\r.ret.rel c.P ⟨w',D',upM (bN m) r.upd,E'⟩ v)\/∃g,e=.panicked g/\X g/\Chg (bA (bN m) E) w w')
   {tmps:=us.toArray++Array.replicate (fn.ntmps-us.toArray.size) undef,defers:=[]} w by
  rw[O,show S.rd=none by rw[y]]at L;exact L
 refine mB b S (fW fn args m) Qg _ HO h hln (λe s' hq hl T w' j=>?_) _ w ⟨D,E,i⟩;rcases hQ e s' hq with⟨he,hz,z⟩|⟨g,rfl,hsw,hx⟩;rcases he with rfl|rfl;exact key s' T w' j hz z;exact key s' T w' j hz z;obtain⟨D',E',hd⟩:=j;show LeavesInM Fence.wide 0 c.P fn T.tmps _ T.defers (.panicking g) w';rw[<- O];refine Tj (by rw[y]) hsw (by rw[y]) (by rw[y];exact hD) hd λw2 h2=>?_;rw[y]at h2;exact .inr ⟨g,rfl,hx,h2⟩
def HE(O:ai c.P c.G c.K)(T:bh c.P c.G c.KI)(hm:c.P.follows .mixedOrders=true)(y:bJ c.P c.G c.KP)(h:evF c A f args m r):ah c.P c.G f args m r:=by
 intro u w D E us hD hG j V;unfold evF at h;split at h;case h_2=>exact h.elim
 rename_i fn z;split at h;case h_2=>exact h.elim
 rename_i b hb;obtain⟨v,h⟩:=h;obtain⟨i,h⟩:=bR (h u);refine(Vo (X:=λ_=>False) (Z:=True) O T hm y z hb v i h (λe s x=>?_) w D E us hD hG j V).mono λe w' L=>?_;cases e<;>first
  |exact .inl ⟨.inl rfl,trivial,x⟩
  |exact .inl ⟨.inr rfl,trivial,x⟩
  |exact x.elim
 rcases L with⟨_,g⟩|⟨_,_,g,_⟩;exact g;exact g.elim
def evM(c:Cfg)(A:Ann)(f:FuncId)(args:List AV)(m:Mem)(ret:AV)(upd:Mem)(q:AH):Prop:=match c.P.funcs[f]? with
 |some fn=>match fn.body with
  |some b=>(m.isEmpty||((upd.all λp=>m.any λq=>q.1==p.1)&&(jH m&&jH upd&&ret.simple)))=true/\(q.pre->all (BY m upd) (ev c A b (fW fn args m) (λe s=>match e with
   |.normal=>q.ok=true/\WJ c.P c.rng fn m ⟨True,ret,upd⟩ s|.ret=>q.ok=true/\WJ c.P c.rng fn m ⟨True,ret,upd⟩ s|.panic ch=>q.ok=false/\(sweep c.rng s).isSome=true/\ch=chainOf q.pan|_=>False)))
  |none=>False
 |none=>False
abbrev evC(c:Cfg)(A:Ann)(f:FuncId)(args:List AV)(ret:AV)(q:AH):Prop:=evM c A f args [] ret [] q
def ti{ret:AV}{upd:Mem}{q:AH}(hK:ai c.P c.G c.K)(hI:bh c.P c.G c.KI)(hm:c.P.follows .mixedOrders=true)(L:bJ c.P c.G c.KP)(h:evM c A f args m ret upd q):
  ah c.P c.G f args m ⟨q.pre/\q.ok=true,ret,upd⟩/\dA c.P c.G f args m q:=by
 unfold evM at h;split at h;case h_2=>exact h.elim
 rename_i fn hf;split at h;case h_2=>exact h.elim
 rename_i b hb;obtain⟨x,h⟩:=h;have key:=λ(i:q.pre)=>by
  obtain⟨u,h⟩:=bR (h i);exact Vo (m:=m) (r:=⟨True,ret,upd⟩) (X:=λch=>q.ok=false/\ch=chainOf q.pan) (Z:=q.ok=true) hK hI hm L hf hb x u h (λe s v=>by
   cases e<;>first
    |exact .inl ⟨.inl rfl,v⟩
    |exact .inl ⟨.inr rfl,v⟩
    |exact .inr ⟨_,rfl,v.2.1,v.1,v.2.2⟩
    |exact v.elim)
 refine⟨λ⟨i,y⟩ w D E us V T j O=>(key i w D E us V T j O).mono λe w' z=>?_,λi hk w D E us V T j O=>(key i w D E us V T j O).mono λe w' z=>?_⟩;rcases z with⟨_,g⟩|⟨_,_,⟨g,_⟩,_⟩;exact g;rw[y]at g;cases g;rcases z with⟨g,_⟩|⟨ch,g1,⟨_,g2⟩,g3⟩;rw[hk]at g;cases g;subst g2;exact⟨g1,g3⟩
def HH{ret:AV}{q:AH}(e:ai c.P c.G c.K)(g:bh c.P c.G c.KI)(hm:c.P.follows .mixedOrders=true)(b:bJ c.P c.G c.KP)(h:evC c A f args ret q):
  ah c.P c.G f args [] ⟨q.pre/\q.ok=true,ret,[]⟩/\dA c.P c.G f args [] q:=ti e g hm b h
def px(e:ai c.P c.G c.K)(g:bh c.P c.G c.KI)(hm:c.P.follows .mixedOrders=true)(h:evF c A f args m r)(b:c.KP=λ_ _ _=>none:=by rfl):ah c.P c.G f args m r:=
 HE e g hm (λf args m r h=>by rw[b]at h;cases h) h
end Go.Eng
namespace Go.Eng
open Go.RowKit
def gN:Code->Option (Code×Array Oper×Code)|.seq pre (.seq (.region _ ops false) rest)=>some (pre,ops,rest)|_=>none
def gO:Code->Option (Array Oper×Code)|.seq (.region _ ops false) rest=>some (ops,rest)|_=>none
def guardOf:List Oper->Option (Tmp×FuncId×List Operand)
 |[⟨some t,.makeFunc (.func cf) first caps,_,_,_,none⟩,⟨none,.defer ⟨.value (.tmp t'),dargs,_⟩,_,_,_,none⟩]=>if first.isEmpty&&t==t'&&dargs.isEmpty then some (t,cf,caps.toList)else none
 |_=>none
def Ic:List Oper->Option (Tmp×Tmp)|[⟨some t3,.call ⟨.builtin .recover,rargs,_⟩,_,_,_,none⟩,⟨some t2,.assign (.tmp t),_,_,_,none⟩]=>if t==t3&&rargs.isEmpty then some (t3,t2)else none|_=>none
def A2(G:List (Nat×AV))(t:Tmp)(cf:FuncId)(caps:List Operand)(s:St):St:={setSlot (some t) (.fn cf (caps.map (evT G s.sig.T))) s with sv:=caps.map (evT G s.sig.T)}
def ZG(fc:Func)(t3 t2:Tmp)(rec:AV)(s:St):St:=setSlot (some t2) rec (setSlot (some t3) rec ⟨s.sv++List.replicate (fc.ntmps-s.sv.length) (.val undef),s.mem,s.nx,s.tm⟩)
def Yw:List PanicEntry->Option AV|[⟨.iface t (.int k x),false,false⟩]=>some (.ifc t (.dat (.int k) x))|_=>none
def rQ(c:Cfg)(Ac:Ann)(fn fc:Func)(crest:Code)(t3 t2:Tmp)(r:jY)(rec:AV)(s:St):Prop:=
 pI (some t3) (s.sv.length+(fc.ntmps-s.sv.length))=true/\pI (some t2) (s.sv.length+(fc.ntmps-s.sv.length))=true/\ev c Ac crest (ZG fc t3 t2 rec s) (λe s3=>match e with
  |.normal=>WJ c.P c.rng fn [] r (EL s3)|.ret=>WJ c.P c.rng fn [] r (EL s3)|_=>False)
def aJE(c:Cfg)(Ac:Ann)(fn fc:Func)(crest:Code)(t3 t2:Tmp)(r:jY):Exit->St->Prop
 |.normal,s=>rQ c Ac fn fc crest t3 t2 r (.val .nilIface) s|.ret,s=>rQ c Ac fn fc crest t3 t2 r (.val .nilIface) s|.panic ch,s=>match Yw ch with
  |some v=>rQ c Ac fn fc crest t3 t2 r v s|none=>False
 |_,_=>False
structure WE where
 fn:Func
 pre:Code
 rest:Code
 t:Tmp
 cf:FuncId
 caps:List Operand
 fc:Func
 crest:Code
 t3:Tmp
 t2:Tmp
def NT(P:Program)(f:FuncId):Option WE:=match P.funcs[f]? with
 |some fn=>match fn.body with
  |some b=>match gN b with
   |some (pre,gops,rest)=>match guardOf gops.toList with
    |some (t,cf,caps)=>match P.funcs[cf]? with
     |some fc=>match fc.body with
      |some cb=>match gO cb with
       |some (rops,crest)=>match Ic rops.toList with
        |some (t3,t2)=>if fc.results.toList.isEmpty then some ⟨fn,pre,rest,t,cf,caps,fc,crest,t3,t2⟩else none|none=>none
       |none=>none
      |none=>none
     |none=>none
    |none=>none
   |none=>none
  |none=>none
 |none=>none
def evG(c:Cfg)(A Ac:Ann)(f:FuncId)(args:List AV)(r:jY):Prop:=match NT c.P f with
 |some g=>(c.rng=false/\goes c.P g.cf=true)/\(r.pre->ev c A g.pre (fW g.fn args []) (λe s=>match e with
   |.normal=>pI (some g.t) s.tm.length=true/\ev c A g.rest (A2 c.G g.t g.cf g.caps s) (aJE c Ac g.fn g.fc g.crest g.t3 g.t2 r)|_=>False))
 |none=>False
structure aGB(P:Program)(f:FuncId)(g:WE):Prop where
 f:P.funcs[f]?=some g.fn
 b:∃gid gops,g.fn.body=some (.seq g.pre (.seq (.region gid gops false) g.rest))/\guardOf gops.toList=some (g.t,g.cf,g.caps)
 cf:P.funcs[g.cf]?=some g.fc
 cb:∃cid rops,g.fc.body=some (.seq (.region cid rops false) g.crest)/\Ic rops.toList=some (g.t3,g.t2)
 res:g.fc.results=#[]
variable {P:Program}
def Ii{f:FuncId}{g:WE}(h:NT P f=some g):aGB P f g:=by
 unfold NT at h;split at h;case h_2=>cases h
 rename_i fn A;split at h;case h_2=>cases h
 rename_i b hb;split at h;case h_2=>cases h
 rename_i pre x rest j;split at h;case h_2=>cases h
 rename_i t cf caps z;split at h;case h_2=>cases h
 rename_i fc r;split at h;case h_2=>cases h
 rename_i cb u;split at h;case h_2=>cases h
 rename_i v crest e;split at h;case h_2=>cases h
 rename_i t3 t2 y;split at h;case isFalse=>cases h
 rename_i i;cases h;refine⟨A,?_,r,?_,yU (zB.1 i)⟩;unfold gN at j;split at j;cases j;exact⟨_,_,hb,z⟩;cases j;unfold gO at e;split at e;cases e;exact⟨_,_,u,y⟩;cases e
inductive aDX:FrameMode->Value->FrameMode->Prop where
 |ret:aDX .returning .nilIface .returning
 |pan (v:Value):aDX (.panicking [{v:=v,recovered:=false}]) v (.panicking [{v:=v,recovered:=true}])
def VY{cf:FuncId}{fc:Func}{cid:Nat}{O:Array Oper}{crest:Code}{t3 t2:Tmp}(hf:P.funcs[cf]?=some fc)(hb:fc.body=some (.seq (.region cid O false) crest))(X:Ic O.toList=some (t3,t2))(hres:fc.results=#[])
  {args:Array Value}{u y:FrameMode}{j:Value} (hrec:aDX u j y) {w:World}{R:World->Prop}{a0:Act} (ha0:a0={tmps:=args++Array.replicate (fc.ntmps-args.size) undef,defers:=[]})
  (h:At P none crest (λe a w=>(e=.normal\/e=.ret)/\a.defers=[]/\R w) ((a0.put (some t3) j).put (some t2) ((a0.put (some t3) j).eval (.tmp t3))) w):
  CallsDIn Fence.wide 0 P cf args u w λe u' w'=>(∃v,e=.returned v)/\u'=y/\R w':=by
 refine⟨trivial,λc cs hu hroom=>?_⟩;obtain⟨b,hB⟩:∃b:Frame,b={ (default:Frame)with fn:=cf,kind:=.deferred,roundOf:=none}:=⟨_,rfl⟩;have hfn:b.fn=cf:=by rw[hB]
 have hk:b.kind=.deferred:=by rw[hB]
 have z:b.roundOf=none:=by rw[hB]
 have e0:Frame.enter P cf args .deferred=b.atR a0 [.code (.seq (.region cid O false) crest)]:=by rw[hB,ha0];simp[Frame.enter,Frame.atR,hf,hb]
 unfold Ic at X;split at X;case h_2=>cases X
 rename_i t3' rargs at1 ty1 pos1 af1 i t ty2 pos2 af2 hl;split at X;case isFalse=>cases X
 rename_i hc;simp only[qC,kN,qDe]at hc;obtain⟨rfl,rfl⟩:=hc;simp only[wQ,qCf]at X;obtain⟨rfl,rfl⟩:=X;obtain⟨T,G⟩:∃T:Oper,T=⟨some t,.call ⟨.builtin .recover,#[],at1⟩,ty1,pos1,af1,none⟩:=⟨_,rfl⟩;obtain⟨L,A⟩:∃L:Oper,L=⟨some i,.assign (.tmp t),ty2,pos2,af2,none⟩:=⟨_,rfl⟩;have x:O=#[T,L]:=by
  apply yU;rw[G,A];exact hl
 have w1n:∀g,Region.wanted T g=true:=λg=>by rw[G];rfl
 have w2n:∀g,Region.wanted L g=true:=λg=>by rw[A];rfl
 have x1:∀a:Act,(execOp a.eval T).run P w=.ok .recover w:=λa=>by
  rw[G];simp[execOp,resolve,invoke,builtin]
 have x2:∀a:Act,(execOp a.eval L).run P w=.ok (.value (a.eval (.tmp t))) w:=λa=>by rw[A];rfl
 have d1:T.dst=some t:=by rw[G]
 have d2:L.dst=some i:=by rw[A]
 have hw:wpOpsSIn Fence.wide 0 P O (λe a' cs' w'=>e=.normal/\a'=(a0.put (some t) j).put (some i) ((a0.put (some t) j).eval (.tmp t))/\cs'={c with mode:=y}::cs/\w'=w) (List.range O.size) a0 (c::cs) w:=by
  have hsz:O.size=2:=by rw[x];rfl
  rw[hsz];have h0:O[0]?=some T:=by rw[x];rfl
  have h1:O[1]?=some L:=by rw[x];rfl
  show wpOpsSIn _ _ _ _ _ [0,1] _ _ _;simp only[wpOpsSIn,h0,h1,w1n,w2n,kT,x1,x2,d1,d2];refine⟨λ_ _=>trivial,?_⟩;cases hrec with
  |ret=>
   have V:recoverD (c::cs)=none:=by simp[recoverD,hu]
   rw[V];refine⟨λ_ _=>trivial,trivial,rfl,?_,trivial⟩;rw[<- hu]
  |pan v=>
   have V:recoverD (c::cs)=some (j,{c with mode:=.panicking [{v:=j,recovered:=true}]}::cs):=by simp[recoverD,hu]
   rw[V];exact⟨λ_ _=>trivial,trivial,rfl,rfl,trivial⟩
 obtain⟨e1,a1,cs1,w1,_,⟨rfl,rfl,rfl,rfl⟩,harr⟩:=wp_opsSIn _ a0 (c::cs) w hw b [.code crest] hk z trivial (room_wide _);have hs1:StepsIn Any P (lone (Frame.enter P cf args .deferred) (c::cs) w1) (lone (b.atR ((a0.put (some t) j).put (some i) ((a0.put (some t) j).eval (.tmp t))) [.code crest]) ({c with mode:=y}::cs) w1):=by
  rw[e0];exact(iI stepR_seq).trans ((iI stepR_region).trans (toAny harr))
 obtain⟨e,a',w',⟨he,hd,hR⟩,r⟩:=h b [] ({c with mode:=y}::cs) z (by rw[hfn,hf];rfl);have done:∀f,StepsIn Any P (lone (b.atR ((a0.put (some t) j).put (some i) ((a0.put (some t) j).eval (.tmp t))) [.code crest]) ({c with mode:=y}::cs) w1) (lone {b.atR a' f with mode:=.returning} ({c with mode:=y}::cs) w')->
   ∃e u' w2 fr,((∃v,e=.returned v)/\u'=y/\R w2)/\ComesIn (Machine.fenced P Fence.wide) P (lone (Frame.enter P cf args .deferred) (c::cs) w1) (lone fr ({c with mode:=u' }::cs) w2) e/\fr.kind=.deferred/\fr.fn=cf/\fr.going P w2 e:=
  λf hs=>⟨.returned (.tuple #[]),y,w',{b.atR a' f with mode:=.returning},⟨⟨_,rfl⟩,rfl,hR⟩,YB (hs1.trans hs),hk,hfn,rfl,hd,fc,(by rw[show({b.atR a' f with mode:=.returning}:Frame).fn=cf from hfn];exact hf),by simp[results,hres]⟩
 rcases he with rfl|rfl
 .exact done [] (StepsIn.trans r (iI (stepR_end z)))
 .obtain⟨f,hs⟩:=r.1 z;exact done f hs
def aQ.clo{S:Base}{σ:Sig}{a:Act}{w:World}{D:Nat->Prop}{E:Nat->Ent}(h:aQ S σ a w D E){N:Nat}{tm:Nat->AV}{tmps:Array Value}(j:tmps.size=N)
  (f:∀t,(tm t).rel S.P ⟨w,D,σ.m,E⟩ (tmps.getD t undef)) {sv:List AV}{vs:Lv} (r:zA1 S.P ⟨w,D,σ.m,E⟩ sv vs):
  aQ {P:=S.P,w0:=w,D0:=D,N:=N,O:=aJ σ.m E,G:=S.G,sv:=vs,rd:=none,nod:=true} ⟨tm,σ.m,sv⟩ {tmps:=tmps,defers:=[]} w D E:=
 ⟨j,⟨⟨λ_=>rfl,⟨[],rfl⟩,yZ⟩,λd hd=>by cases hd⟩,f,h.bl,λe b hm hi=>⟨.inr (.inl ⟨e,b,hm,hi,rfl⟩),(h.own e b hm hi).2⟩,h.inj,Chg.refl _ _,h.dlt,λ_ g=>g,λ_ g=>.inl g,h.gl,r,
  ⟨λe i b g=>⟨.inr (.inr ⟨e,i,g⟩),(h.pv.own e i b g).2⟩,h.pv.ent,h.pv.inj⟩⟩
variable {args:List AV}
def aEI{n:Nat}{us:Lv}{C:Ctx}(h:zA1 P C args us)(t:Nat):
  ((args++List.replicate (n-args.length) (AV.val undef)).getD t .top).rel P C ((us.toArray++Array.replicate (n-us.toArray.size) undef).getD t undef):=by
 have b:args.length=us.length:=zA3 h;rw[qA,qV];by_cases e:t<args.length;rw[vS e,kW (by simpa using b▸e)];obtain⟨u,g1,g2⟩:=zA6 h (qB e);rw[qB e];simp only[kZ,g1,qK];exact g2;rw[vJ zoo,kS (by simp;omega)];rw[wY,yY];split;rename_i f;rw[if_pos (by simp;omega)];rfl;trivial
def PI{c:Cfg}{Ac:Ann}{fn fc:Func}{cf:FuncId}{cid:Nat}{rops:Array Oper}{crest:Code}{t3 t2:Tmp}{r:jY}{S:Base}(HO:OkS c S)(hrng:c.rng=false)(hSs:S.sv=[])(hSr:S.rd=none)(hSn:S.nod=true)(hSg:S.gd=[])
  (hf:c.P.funcs[cf]?=some fc) (hb:fc.body=some (.seq (.region cid rops false) crest)) (hr:Ic rops.toList=some (t3,t2)) (hres:fc.results=#[]) (hgo:goes c.P cf=true) {POST:Ending->World->Prop}
  (key:∀s' a' w',Sim S s'.sig a' w'->True->WJ c.P c.rng fn [] r s'->LeavesInM Fence.wide 0 c.P fn a'.tmps POST a'.defers .returning w')
  {us:Lv}{d:Deferred} (hd:d={target:=.fn (.func cf) us.toArray,args:=#[]}) {u u2:FrameMode}{rv:Value} (hrec:aDX u rv u2) (hu2:settle u2=.returning) (hur:u≠.run) {rec:AV}{s:St}{a:Act}{w:World}
  (hs:Sim {S with gd:=[d],sv:=us} s.sig a w) (hl:s.tm.length=S.N) (hrv:∀C:Ctx,rec.rel c.P C rv) (h:rQ c Ac fn fc crest t3 t2 r rec s):LeavesInM Fence.wide 0 c.P fn a.tmps POST [d] u w:=by
 obtain⟨h1,h2,h3⟩:=h;obtain⟨D,E,f⟩:=hs;have hP:=HO.P;obtain⟨y,b⟩:∃y:Base,y={P:=S.P,w0:=w,D0:=D,N:=s.sv.length+(fc.ntmps-s.sv.length),O:=aJ s.sig.m E,G:=S.G,sv:=a.tmps.toList,rd:=none,nod:=true}:=⟨_,rfl⟩;obtain⟨a0,ha0⟩:∃a0:Act,a0={tmps:=us.toArray++Array.replicate (fc.ntmps-us.toArray.size) undef,defers:=[]}:=⟨_,rfl⟩;have L:zA1 S.P ⟨w,D,s.sig.m,E⟩ s.sv us:=f.svr;have hlen:s.sv.length=us.length:=zA3 L;have svs:zA1 S.P ⟨w,D,s.sig.m,E⟩ s.tm a.tmps.toList:=by
  have hsz:a.tmps.size=S.N:=f.sz;refine zB3 (by rw[hl,vU,hsz]) λi av v hi hv=>?_;have:=f.tm i;have e1:s.sig.T i=av:=by show s.tm.getD i .top=av;rw[qA,hi];rfl
  have e2:a.tmps.getD i undef=v:=by
   rw[qV];simp only[yP]at hv;rw[hv];rfl
  rw[e1]at this;simpa only[e2]using this
 obtain⟨s0,A⟩:∃s0:St,s0=⟨s.sv++List.replicate (fc.ntmps-s.sv.length) (.val undef),s.mem,s.nx,s.tm⟩:=⟨_,rfl⟩;have hc0:aQ y s0.sig a0 w D E:=by
  have hsz0:(us.toArray++Array.replicate (fc.ntmps-us.toArray.size) undef).size=s.sv.length+(fc.ntmps-s.sv.length):=by simp[hlen]
  have:=f.clo (N:=s.sv.length+(fc.ntmps-s.sv.length)) (tm:=s0.sig.T) (tmps:=us.toArray++Array.replicate (fc.ntmps-us.toArray.size) undef) hsz0 (λt=>by rw[A];exact aEI L t) svs;rw[b,ha0,A];rw[A]at this;exact this
 have X:s0.tm.length=y.N:=by rw[A,b];simp
 have hSP:y.P=S.P:=by rw[b]
 have hc1:aQ y (setSlot (some t3) rec s0).sig (a0.put (some t3) rv) w D E:=hc0.slot X (by rw[X,b];exact h1) (by rw[hSP,<- hP];exact hrv _);have hl1:(setSlot (some t3) rec s0).tm.length=y.N:=by simp[setSlot,X]
 have hc2:aQ y (ZG fc t3 t2 rec s).sig ((a0.put (some t3) rv).put (some t2) ((a0.put (some t3) rv).eval (.tmp t3))) w D E:=by
  have h5:=hc1.tm t3;have e5:(setSlot (some t3) rec s0).sig.T t3=rec:=by
   show(s0.tm.set t3 rec).getD t3 .top=rec;have ht:t3<s0.tm.length:=by rw[X,b];simpa[pI]using h1
   rw[qA,qCd ht];rfl
  rw[e5]at h5;have:=hc1.slot (d:=some t2) (x:=rec) (v:=(a0.put (some t3) rv).tmps.getD t3 undef) hl1 (by rw[hl1,b];exact h2) h5;rw[A]at this;exact this
 have HOc:OkS c y:=by
  rw[b];exact⟨HO.P,HO.G,HO.K,HO.I,HO.m,λe=>(e rfl).elim,λ_=>by rw[hrng];rfl,HO.KP⟩
 have hat:=mB crest y (ZG fc t3 t2 rec s) _ (λe a' w'=>(e=.normal\/e=.ret)/\a'.defers=[]/\LeavesInM Fence.wide 0 c.P fn a.tmps POST [] .returning w') HOc h3 (by show _=y.N;simp[ZG,setSlot];rw[b]) (λe s3 V hl3 a3 w3 hs3=>by
  obtain⟨D3,E3,h5⟩:=hs3;have hdef:a3.defers=[]:=(h5.df.1.1 (by rw[b])).trans (by rw[b]);have z:∀j,aJ s.sig.m E j->S.w0.heap.size<=j\/S.O j:=λj g0=>(f.ownAll g0).1;have hlow:Chg S.O S.w0 w3:=by
   have l1:Chg S.O S.w0 w:=f.low;have l2:Chg (aJ s.sig.m E) w w3:=by have:=h5.low;rw[b]at this;exact this
   refine l1.step l2.os l2.tape l2.output l2.size λq V hno=>l2.block q (qZ V l1.size) λg=>?_;rcases z q g with g|g;omega;exact hno g
  have hout:aQ S (EL s3).sig {tmps:=a.tmps,defers:=[]} w3 D3 E3:=
   h5.leave (S:=S) (a0:={tmps:=a.tmps,defers:=[]}) hSP (by rw[b]) (by rw[b]) f.sz (λj g=>by
    rw[b]at g;rcases g with g|g;exact .inl (wJ (show S.w0.heap.size<=w.heap.size from f.low.size) g);exact z j g) hlow (λj g=>h5.dlo j (by rw[b];exact f.dlo j g)) (λj g=>by
    have:=h5.dhi j g;rw[b]at this;rcases this with g|g|g;exact f.dhi j g;exact .inr (.inl (wJ (show S.w0.heap.size<=w.heap.size from f.low.size) g));exact(z j g).elim (λg=>.inr (.inl g)) (λg=>.inr (.inr g))) ⟨⟨λ_=>hSg.symm,⟨[],hSg.symm⟩,yZ⟩,λd hd=>(by cases hd)⟩ hSs
  have fin:=λV=>key (EL s3) {tmps:=a.tmps,defers:=[]} w3 ⟨D3,E3,hout⟩ trivial V;cases e<;>first
   |exact⟨.inl rfl,hdef,fin V⟩
   |exact⟨.inr rfl,hdef,fin V⟩
   |exact V.elim) _ w ⟨D,E,hc2⟩
 rw[show y.P=c.P by rw[hSP,hP],show y.rd=none by rw[b]]at hat;have hcall:=VY (args:=us.toArray) hf hb hr hres hrec ha0 hat;subst hd;refine⟨hur,.inr ⟨λh=>(by cases h),.func cf,us.toArray,cf,us.toArray,rfl,?_,λ_ _=>trivial,hcall.mono λe u' w' he=>?_⟩⟩;simp only[invoke,jA];exact lQ hgo w us.toArray;obtain⟨⟨v,rfl⟩,rfl,V⟩:=he;show LeavesInM _ _ _ _ _ _ _ (settle u') w';rw[hu2];exact V
def NU{e:List PanicEntry}{v:AV}(h:Yw e=some v):∃b,e=[{v:=b,recovered:=false}]/\∀(P:Program) (C:Ctx),v.rel P C b:=by
 unfold Yw at h;split at h;rename_i t k x;cases h;exact⟨_,rfl,λP C=>⟨_,rfl,rfl⟩⟩;cases h
def HG{c:Cfg}{A Ac:Ann}{f:FuncId}{r:jY}(hK:ai c.P c.G c.K)(hI:bh c.P c.G c.KI)(hm:c.P.follows .mixedOrders=true)(hKP:bJ c.P c.G c.KP)(h:evG c A Ac f args r):ah c.P c.G f args [] r:=by
 intro hpre w D E us hD hG hargs hH;unfold evG at h;split at h;case h_2=>exact h.elim
 rename_i g hg;obtain⟨⟨hrng,hgo⟩,h⟩:=h;have h:=h hpre;obtain⟨hf,⟨gid,i,hb,V⟩,hcf,⟨cid,rops,hcb,hrec⟩,hres⟩:=Ii hg;obtain⟨S,hS,HO,hln,hstart,key⟩:=MG (m:=[]) (r:=r) (fn:=g.fn) (X:=λ_=>False) (Z:=True) hK hI hm hKP rfl (λ_ h=>by cases h) w D E us hD hG hargs hH;have hSP:S.P=c.P:=by rw[hS]
 have hSr:S.rd=none:=by rw[hS]
 have hSs:S.sv=[]:=by rw[hS];rfl
 have hSg:S.gd=[]:=by rw[hS]
 have hSn:S.nod=true:=by rw[hS];show(!c.rng)=true;rw[hrng];rfl
 suffices hfin:Calls c.P f us.toArray w (λe w'=>(True/\∃v D' E',e=.returned v/\Left c.P (bN []) r.upd w D E w' D' E'/\r.ret.rel c.P ⟨w',D',upM (bN []) r.upd,E'⟩ v)\/∃ch,e=.panicked ch/\False/\Chg (bA (bN []) E) w w')from
  hfin.mono λe w' he=>by
   rcases he with⟨_,g⟩|⟨_,_,g,_⟩;exact g;exact g.elim
 refine(callsIn_wide (n:=0)).1 (vt hf hb ?_);suffices hgo2:At S.P S.rd (.seq g.pre (.seq (.region gid i false) g.rest)) (bodyPostM Fence.wide 0 c.P g.fn (λe w'=>(True/\∃v D' E',e=.returned v/\Left c.P (bN []) r.upd w D E w' D' E'/\r.ret.rel c.P ⟨w',D',upM (bN []) r.upd,E'⟩ v)\/∃ch,e=.panicked ch/\False/\Chg (bA (bN []) E) w w'))
   {tmps:=us.toArray++Array.replicate (g.fn.ntmps-us.toArray.size) undef,defers:=[]} w by
  rw[hSP,hSr]at hgo2;exact hgo2
 refine As (mB g.pre S (fW g.fn args []) _ _ HO h hln (λe s L hl O w1 hs=>?_) _ w ⟨D,E,hstart⟩);cases e<;>first|exact L.elim|skip
 obtain⟨hdt,hrest⟩:=L;obtain⟨D1,E1,hd1⟩:=hs;have hdef:O.defers=[]:=(hd1.df.1.1 hSn).trans hSg;unfold guardOf at V;split at V;case h_2=>cases V
 rename_i t cf first caps ty1 pos1 af1 t' dargs at2 ty2 pos2 af2 hl0
 split at V;case isFalse=>cases V
 rename_i hc;simp only[qC,kN,qDe]at hc;obtain⟨⟨rfl,rfl⟩,rfl⟩:=hc;simp only[wQ,qCf]at V;obtain⟨e1,e2,e3⟩:=V;obtain⟨o1,ho1⟩:∃o1:Oper,o1=⟨some t,.makeFunc (.func cf) #[] caps,ty1,pos1,af1,none⟩:=⟨_,rfl⟩;obtain⟨o2,ho2⟩:∃o2:Oper,o2=⟨none,.defer ⟨.value (.tmp t),#[],at2⟩,ty2,pos2,af2,none⟩:=⟨_,rfl⟩;have hops:i=#[o1,o2]:=by
  apply yU;rw[ho1,ho2];exact hl0
 have hcapv:zA1 S.P ⟨w1,D1,s.sig.m,E1⟩ (g.caps.map (evT c.G s.sig.T)) (g.caps.map O.eval):=by
  refine zB3 (by simp) λj av u h1 h2=>?_;simp only[qX,qCc]at h1 h2;obtain⟨x,hx,rfl⟩:=h1;obtain⟨x',hx',rfl⟩:=h2;rw[hx]at hx';cases hx';have:=fy hd1 x;rw[<- HO.G]at this;exact this
 obtain⟨fv,hfv⟩:∃fv:Value,fv=.func (.func cf) #[] (g.caps.map O.eval).toArray:=⟨_,rfl⟩;obtain⟨d,hd⟩:∃d:Deferred,d={target:=.fn (.func g.cf) (g.caps.map O.eval).toArray,args:=#[]}:=⟨_,rfl⟩;have ht:t<S.N:=by
  rw[e1];rw[<- hl];simpa[pI]using hdt
 have hsz1:O.tmps.size=S.N:=hd1.sz;have hev:(O.put (some t) fv).eval (.tmp t)=fv:=by
  show(O.tmps.setIfInBounds t fv).getD t undef=fv;simp[Array.getD,hsz1,ht]
 have x1:(execOp O.eval o1).run S.P w1=.ok (.value fv) w1:=by
  rw[ho1,hfv,<- e3,<- toList_map];simp[execOp,Instr.makeFunc]
 have x2:(execOp (O.put (some t) fv).eval o2).run S.P w1=.ok (.defer d) w1:=by
  rw[ho2,hd,<- e2];have:(O.put (some t) fv).eval (.tmp t)=.func (.func cf) #[] (g.caps.map O.eval).toArray:=by rw[hev,hfv]
  simp only[execOp,resolve,this,Deferred.ofValue];simp
 have hreg:At S.P S.rd (.region gid i false) (Exit.then (At S.P S.rd g.rest (bodyPostM Fence.wide 0 c.P g.fn λe w'=>(True/\∃v D' E',e=.returned v/\Left c.P (bN []) r.upd w D E w' D' E'/\r.ret.rel c.P ⟨w',D',upM (bN []) r.upd,E'⟩ v)\/∃ch,e=.panicked ch/\False/\Chg (bA (bN []) E) w w'))
   (bodyPostM Fence.wide 0 c.P g.fn λe w'=>(True/\∃v D' E',e=.returned v/\Left c.P (bN []) r.upd w D E w' D' E'/\r.ret.rel c.P ⟨w',D',upM (bN []) r.upd,E'⟩ v)\/∃ch,e=.panicked ch/\False/\Chg (bA (bN []) E) w w')) O w1:=by
  refine ZV (wpIn_region ?_);have hF:S.F=Fence.wide:=by unfold Base.F;rw[hSr]
  rw[hF];have hz:i.size=2:=by rw[hops];rfl
  rw[hz];have h0:i[0]?=some o1:=by rw[hops];rfl
  have h1:i[1]?=some o2:=by rw[hops];rfl
  show wpOpsIn _ _ _ _ _ [0,1] _ _;have w1n:∀g,Region.wanted o1 g=true:=λg=>by rw[ho1];rfl
  have w2n:∀g,Region.wanted o2 g=true:=λg=>by rw[ho2];rfl
  have d1:o1.dst=some t:=by rw[ho1]
  have d2:o2.dst=none:=by rw[ho2]
  simp only[wpOpsIn,h0,h1,w1n,w2n,kT,Oper.wpIn];refine⟨λ_ _=>trivial,?_⟩;rw[show Fence.wide.round=none from rfl,Oper.semAt_none,x1,Oper.uponIn_value,d1];refine⟨λ_ _=>trivial,?_⟩;rw[Oper.semAt_none,x2,Oper.uponIn_defer,d2];obtain⟨S2,z⟩:∃S2:Base,S2={S with gd:=[d],sv:=g.caps.map O.eval}:=⟨_,rfl⟩;have HO2:OkS c S2:=by
   rw[z];exact⟨HO.P,HO.G,HO.K,HO.I,HO.m,λe=>(e hSr).elim,λ_=>HO.nod hSr,HO.KP⟩
  have b:=hd1.slot (d:=some t) (v:=fv) (x:=.fn cf (g.caps.map (evT c.G s.sig.T))) hl (by rw[e1];exact hdt) ⟨_,hfv,hcapv⟩;have hd2:aQ S2 (A2 c.G g.t g.cf g.caps s).sig { (O.put (some t) fv)with defers:=d::(O.put (some t) fv).defers} w1 D1 E1:=by
   have hde:(O.put (some t) fv).defers=[]:=hdef;rw[hde,<- e1,<- e2,z];refine⟨b.sz,⟨⟨λ_=>rfl,⟨[],rfl⟩,qAt _ _⟩,λq L=>.inl ⟨L,λk e=>?_⟩⟩,b.tm,b.bl,b.own,b.inj,b.low,b.dlt,b.dlo,b.dhi,b.gl,hcapv,b.pv⟩;rw[vI]at L;rw[L,hd]at e;cases e
  have hl2:(A2 c.G g.t g.cf g.caps s).tm.length=S2.N:=by rw[z];simp[A2,setSlot,hl]
  have y:∀{u u2:FrameMode}{rv:Value}{rec:AV} (_:aDX u rv u2) (_:settle u2=.returning) (_:u≠.run) (_:∀C:Ctx,rec.rel c.P C rv) (s':St) (a':Act) (w':World),Sim S2 s'.sig a' w'->s'.tm.length=S2.N->rQ c Ac g.fn g.fc g.crest g.t3 g.t2 r rec s'->
    LeavesInM Fence.wide 0 c.P g.fn a'.tmps _ a'.defers u w':=λh1 h2 h3 h4 s' a' w' hs' hl' L=>by
   have hdd:a'.defers=[d]:=by
    obtain⟨D5,E5,h5⟩:=hs';have:=h5.df.1.1 (by rw[z];exact hSn);rw[this,z]
   rw[hdd];exact PI HO hrng hSs hSr hSn hSg hcf hcb hrec hres hgo key hd h1 h2 h3 (by rw[<- z];exact hs') (by rw[hl',z]) h4 L
  have hat:=mB g.rest S2 (A2 c.G g.t g.cf g.caps s) _ (bodyPostM Fence.wide 0 c.P g.fn λe w'=>(True/\∃v D' E',e=.returned v/\Left c.P (bN []) r.upd w D E w' D' E'/\r.ret.rel c.P ⟨w',D',upM (bN []) r.upd,E'⟩ v)\/∃ch,e=.panicked ch/\False/\Chg (bA (bN []) E) w w') HO2 hrest hl2 (λe s' L hl' a' w' hs'=>by
   cases e with
   |normal=>exact y (rec:=.val .nilIface) .ret rfl (by simp) (λ_=>rfl) s' a' w' hs' hl' L|ret=>exact y (rec:=.val .nilIface) .ret rfl (by simp) (λ_=>rfl) s' a' w' hs' hl' L|panic ch=>
    simp only[aJE]at L;split at L;case h_2=>exact L.elim
    rename_i v hv;obtain⟨rv,rfl,hrv⟩:=NU hv;exact y (.pan rv) rfl (by simp) (λC=>hrv c.P C) s' a' w' hs' hl' L
   |exit id=>exact L.elim|goto l=>exact L.elim|outgrown=>exact L.elim) _ w1 ⟨D1,E1,hd2⟩
  rw[show S2.P=S.P by rw[z],show S2.rd=S.rd by rw[z]]at hat;exact hat
 exact As hreg
end Go.Eng
namespace Go.Eng
open Go.RowKit
def Cfg.norng(c:Cfg):Cfg:={c with rng:=false}
def Cfg.bare(c:Cfg)(Kz:Kt):Cfg:=⟨c.P,[],Kz,c.mb,λ_ _=>none,false,λ_ _ _=>none,λ_=>false⟩
def Ht(c:Cfg)(s:St)(Q:St->Prop):Prop:=match sweep c.rng s with|some s1=>Q s1|none=>False
def aJD(c:Cfg)(Kz:Kt)(Ac:Ann)(fn fc:Func)(crest:Code)(t3 t2:Tmp)(r:jY):Exit->St->Prop
 |.normal,s=>Ht c s (rQ (c.bare Kz) Ac fn fc crest t3 t2 r (.val .nilIface))|.ret,s=>Ht c s (rQ (c.bare Kz) Ac fn fc crest t3 t2 r (.val .nilIface))|.panic ch,s=>match Yw ch with
  |some v=>Ht c s (rQ (c.bare Kz) Ac fn fc crest t3 t2 r v)|none=>False
 |_,_=>False
def evR(c:Cfg)(Kz:Kt)(A0 A Ac:Ann)(f:FuncId)(args:List AV)(r:jY):Prop:=match NT c.P f with
 |some g=>(c.rng=true/\goes c.P g.cf=true)/\(r.pre->ev c.norng A0 g.pre (fW g.fn args []) (λe s=>match e with
   |.normal=>pI (some g.t) s.tm.length=true/\ev c A g.rest (A2 c.G g.t g.cf g.caps s) (aJD c Kz Ac g.fn g.fc g.crest g.t3 g.t2 r)|_=>False))
 |none=>False
variable {E:Nat->Ent}
def Ti{S:Base}{rng:Bool}{s f:St}(e:sweep rng s=some f){a:Act}{w:World}{D:Nat->Prop}(h:aQ S s.sig a w D E)(r:rng=true):Kp f.sig/\aQ S f.sig a w D E/\f.tm.length=s.tm.length:=by
 subst r;unfold sweep at e;simp only[kT]at e;split at e;case isFalse=>cases e
 rename_i g;cases e;simp only[qC,qQ]at g;have i:∀t,(s.tm.map mC).getD t .top=mC (s.tm.getD t .top):=λt=>by
  simp only[qA,qX];cases s.tm[t]? with
  |none=>rfl|some x=>rfl
 refine⟨⟨λt=>?_,λj b hm=>g.1 (j,b) (di hm),g.2⟩,⟨h.sz,h.df,λt=>?_,h.bl,h.own,h.inj,h.low,h.dlt,h.dlo,h.dhi,h.gl,h.svr,h.pv⟩,by simp⟩;show d6 ((s.tm.map mC).getD t .top)=true;rw[i];exact pJ _;show((s.tm.map mC).getD t .top).rel S.P _ _;rw[i];exact zx (h.tm t)
def tJ{S:Base}{fn:Func}{R:Ending->World->Prop}{u:FrameMode}{gd:List Deferred}(f:S.gd=gd)(i:∀d∈gd,∀k,d.target≠.collected k)(j:∀b,S.D0 b->b<S.w0.heap.size){σ:Sig}(A:Kp σ)(z:u≠.run){tmps:Array Value}:∀(ds:List Deferred) (w:World) (D:Nat->Prop),
  aQ {S with G:=[]} σ {tmps:=tmps,defers:=ds} w D E->(∀y D2,aQ {S with G:=[]} σ {tmps:=tmps,defers:=gd} y D2 E->LeavesInM Fence.wide 0 S.P fn tmps R gd u y)->
  LeavesInM Fence.wide 0 S.P fn tmps R ds u w
 |[],w,D,h,r=>by
  have L:gd=[]:=by
   obtain⟨ms,e⟩:=h.df.1.2.1;have e:[]=ms++S.gd:=e;rw[f]at e;exact(qCe.1 e.symm).2
  have:=r w D (by rw[L];exact h);rw[L]at this;exact this
 |d::ds,w,D,h,r=>by
  rcases h.df.2 d wF with⟨g,_⟩|⟨k,rfl,_⟩;have g:d∈S.gd:=g;rw[f]at g;have e:d::ds=gd:=by
   obtain⟨⟨_,⟨ms,e⟩,v⟩,O⟩:=h.df;have e:d::ds=ms++gd:=by rw[<- f];exact e
   cases ms with
   |nil=>exact e|cons x ms=>
    exfalso;simp only[List.cons_append,vH]at e;obtain⟨rfl,X⟩:=e;have hm:d∈ds:=by rw[X];exact qJ.2 (.inr g)
    exact(yV.1 v).1 d hm rfl
  rw[e]at h ⊢;exact r w D h;obtain⟨V,T⟩:=aQ.shr (a:={tmps:=tmps,defers:=[]}) h A j (by rw[f];exact i);exact⟨z,.inl ⟨k,_,rfl,run_takeDeferred V,tJ f i j A z ds _ _ T r⟩⟩
def HD{c:Cfg}{Kz:Kt}{A A0 Ac:Ann}{f:FuncId}{args:List AV}{r:jY}(hKz:ai c.P [] Kz)(hK:ai c.P c.G c.K)(hI:bh c.P c.G c.KI)(hm:c.P.follows .mixedOrders=true)(hKP:bJ c.P c.G c.KP)(h:evR c Kz A0 A Ac f args r):ah c.P c.G f args [] r:=by
 intro hpre w D E us hD hG hargs hH;unfold evR at h;split at h;case h_2=>exact h.elim
 rename_i g hg;obtain⟨⟨hrng,hgo⟩,h⟩:=h;have h:=h hpre;obtain⟨hf,⟨gid,L,hb,hgd⟩,hcf,⟨cid,rops,hcb,hrec⟩,hres⟩:=Ii hg;obtain⟨Z,hZ,HOZ,hlnZ,b,key⟩:=MG (c:=c.bare Kz) (m:=[]) (r:=r) (fn:=g.fn) (X:=λ_=>False) (Z:=True) hKz (λ_ _ _ h=>by cases h) hm (λ_ _ _ _ h=>by cases h) rfl (λ_ h=>by cases h) w D E us hD (λp hp=>by cases hp) hargs hH;obtain⟨S,hS⟩:∃S:Base,S={Z with G:=c.G}:=⟨_,rfl⟩;have hZP:Z.P=c.P:=by rw[hZ];rfl
 have hZG:Z.G=[]:=by rw[hZ];rfl
 have hZr:Z.rd=none:=by rw[hZ]
 have hZs:Z.sv=[]:=by rw[hZ];rfl
 have hZg:Z.gd=[]:=by rw[hZ]
 have hZn:Z.nod=true:=by rw[hZ];rfl
 have hSP:S.P=c.P:=by rw[hS];exact hZP
 have HO:OkS c.norng S:=by
  rw[hS,hZ];exact⟨rfl,rfl,hK,hI,hm,λe=>(e rfl).elim,λ_=>rfl,hKP⟩
 have hln:(fW g.fn args []).tm.length=S.N:=by rw[hS];exact hlnZ
 have hstart:aQ S (fW g.fn args []).sig {tmps:=us.toArray++Array.replicate (g.fn.ntmps-us.toArray.size) undef,defers:=[]} w D E:=by
  rw[hS];exact⟨b.sz,b.df,λx=>by rw[show({Z with G:=c.G}:Base).P=Z.P from rfl];exact b.tm x,b.bl,b.own,b.inj,b.low,b.dlt,b.dlo,b.dhi,by show me Z.P _ c.G;rw[hZP];exact hG,b.svr,b.pv⟩
 have hSr:S.rd=none:=by rw[hS];exact hZr
 have hSg:S.gd=[]:=by rw[hS];exact hZg
 have hSn:S.nod=true:=by rw[hS];exact hZn
 suffices hfin:Calls c.P f us.toArray w (λe w'=>(True/\∃v D' E',e=.returned v/\Left c.P (bN []) r.upd w D E w' D' E'/\r.ret.rel c.P ⟨w',D',upM (bN []) r.upd,E'⟩ v)\/∃ch,e=.panicked ch/\False/\Chg (bA (bN []) E) w w')from
  hfin.mono λe w' he=>by
   rcases he with⟨_,g⟩|⟨_,_,g,_⟩;exact g;exact g.elim
 refine(callsIn_wide (n:=0)).1 (vt hf hb ?_);suffices hgo2:At S.P S.rd (.seq g.pre (.seq (.region gid L false) g.rest)) (bodyPostM Fence.wide 0 c.P g.fn (λe w'=>(True/\∃v D' E',e=.returned v/\Left c.P (bN []) r.upd w D E w' D' E'/\r.ret.rel c.P ⟨w',D',upM (bN []) r.upd,E'⟩ v)\/∃ch,e=.panicked ch/\False/\Chg (bA (bN []) E) w w'))
   {tmps:=us.toArray++Array.replicate (g.fn.ntmps-us.toArray.size) undef,defers:=[]} w by
  rw[hSP,hSr]at hgo2;exact hgo2
 refine As (mB (c:=c.norng) g.pre S (fW g.fn args []) _ _ HO h hln (λe s y hl V w1 hs=>?_) _ w ⟨D,E,hstart⟩);cases e<;>first|exact y.elim|skip
 obtain⟨hdt,hrest⟩:=y;obtain⟨D1,E1,hd1⟩:=hs;have hdef:V.defers=[]:=(hd1.df.1.1 hSn).trans hSg;unfold guardOf at hgd;split at hgd;case h_2=>cases hgd
 rename_i t cf first caps ty1 pos1 af1 t' dargs at2 ty2 pos2 af2 hl0
 split at hgd;case isFalse=>cases hgd
 rename_i hc;simp only[qC,kN,qDe]at hc;obtain⟨⟨rfl,rfl⟩,rfl⟩:=hc;simp only[wQ,qCf]at hgd;obtain⟨e1,e2,e3⟩:=hgd;obtain⟨o1,ho1⟩:∃o1:Oper,o1=⟨some t,.makeFunc (.func cf) #[] caps,ty1,pos1,af1,none⟩:=⟨_,rfl⟩;obtain⟨o2,ho2⟩:∃o2:Oper,o2=⟨none,.defer ⟨.value (.tmp t),#[],at2⟩,ty2,pos2,af2,none⟩:=⟨_,rfl⟩;have hops:L=#[o1,o2]:=by
  apply yU;rw[ho1,ho2];exact hl0
 have hcapv:zA1 S.P ⟨w1,D1,s.sig.m,E1⟩ (g.caps.map (evT c.G s.sig.T)) (g.caps.map V.eval):=by
  refine zB3 (by simp) λj av u h1 h2=>?_;simp only[qX,qCc]at h1 h2;obtain⟨x,hx,rfl⟩:=h1;obtain⟨x',hx',rfl⟩:=h2;rw[hx]at hx';cases hx';have:=fy hd1 x;rw[<- HO.G]at this;exact this
 obtain⟨fv,hfv⟩:∃fv:Value,fv=.func (.func cf) #[] (g.caps.map V.eval).toArray:=⟨_,rfl⟩;obtain⟨d,hd⟩:∃d:Deferred,d={target:=.fn (.func g.cf) (g.caps.map V.eval).toArray,args:=#[]}:=⟨_,rfl⟩;have ht:t<S.N:=by
  rw[e1];rw[<- hl];simpa[pI]using hdt
 have hsz1:V.tmps.size=S.N:=hd1.sz;have hev:(V.put (some t) fv).eval (.tmp t)=fv:=by
  show(V.tmps.setIfInBounds t fv).getD t undef=fv;simp[Array.getD,hsz1,ht]
 have x1:(execOp V.eval o1).run S.P w1=.ok (.value fv) w1:=by
  rw[ho1,hfv,<- e3,<- toList_map];simp[execOp,Instr.makeFunc]
 have x2:(execOp (V.put (some t) fv).eval o2).run S.P w1=.ok (.defer d) w1:=by
  rw[ho2,hd,<- e2];have:(V.put (some t) fv).eval (.tmp t)=.func (.func cf) #[] (g.caps.map V.eval).toArray:=by rw[hev,hfv]
  simp only[execOp,resolve,this,Deferred.ofValue];simp
 have hreg:At S.P S.rd (.region gid L false) (Exit.then (At S.P S.rd g.rest (bodyPostM Fence.wide 0 c.P g.fn λe w'=>(True/\∃v D' E',e=.returned v/\Left c.P (bN []) r.upd w D E w' D' E'/\r.ret.rel c.P ⟨w',D',upM (bN []) r.upd,E'⟩ v)\/∃ch,e=.panicked ch/\False/\Chg (bA (bN []) E) w w'))
   (bodyPostM Fence.wide 0 c.P g.fn λe w'=>(True/\∃v D' E',e=.returned v/\Left c.P (bN []) r.upd w D E w' D' E'/\r.ret.rel c.P ⟨w',D',upM (bN []) r.upd,E'⟩ v)\/∃ch,e=.panicked ch/\False/\Chg (bA (bN []) E) w w')) V w1:=by
  refine ZV (wpIn_region ?_);have hF:S.F=Fence.wide:=by unfold Base.F;rw[hSr]
  rw[hF];have hz:L.size=2:=by rw[hops];rfl
  rw[hz];have h0:L[0]?=some o1:=by rw[hops];rfl
  have h1:L[1]?=some o2:=by rw[hops];rfl
  show wpOpsIn _ _ _ _ _ [0,1] _ _;have w1n:∀g,Region.wanted o1 g=true:=λg=>by rw[ho1];rfl
  have w2n:∀g,Region.wanted o2 g=true:=λg=>by rw[ho2];rfl
  have d1:o1.dst=some t:=by rw[ho1]
  have d2:o2.dst=none:=by rw[ho2]
  simp only[wpOpsIn,h0,h1,w1n,w2n,kT,Oper.wpIn];refine⟨λ_ _=>trivial,?_⟩;rw[show Fence.wide.round=none from rfl,Oper.semAt_none,x1,Oper.uponIn_value,d1];refine⟨λ_ _=>trivial,?_⟩;rw[Oper.semAt_none,x2,Oper.uponIn_defer,d2];obtain⟨S2,z⟩:∃S2:Base,S2={S with gd:=[d],sv:=g.caps.map V.eval,nod:=false}:=⟨_,rfl⟩;have HO2:OkS c S2:=by
   rw[z];exact⟨HO.P,HO.G,HO.K,HO.I,HO.m,λe=>(e hSr).elim,λ_=>by rw[hrng];rfl,HO.KP⟩
  have i:=hd1.slot (d:=some t) (v:=fv) (x:=.fn cf (g.caps.map (evT c.G s.sig.T))) hl (by rw[e1];exact hdt) ⟨_,hfv,hcapv⟩;have hd2:aQ S2 (A2 c.G g.t g.cf g.caps s).sig { (V.put (some t) fv)with defers:=d::(V.put (some t) fv).defers} w1 D1 E1:=by
   have hde:(V.put (some t) fv).defers=[]:=hdef;rw[hde,<- e1,<- e2,z];refine⟨i.sz,⟨⟨λ_=>rfl,⟨[],rfl⟩,qAt _ _⟩,λq y=>.inl ⟨y,λk e=>?_⟩⟩,i.tm,i.bl,i.own,i.inj,i.low,i.dlt,i.dlo,i.dhi,i.gl,hcapv,i.pv⟩;rw[vI]at y;rw[y,hd]at e;cases e
  have hl2:(A2 c.G g.t g.cf g.caps s).tm.length=S2.N:=by rw[z];simp[A2,setSlot,hl]
  have hdn:∀k,d.target≠.collected k:=λk e=>by rw[hd]at e;cases e
  have O:∀{u u2:FrameMode}{rv:Value}{rec:AV} (_:aDX u rv u2) (_:settle u2=.returning) (_:u≠.run) (_:∀C:Ctx,rec.rel c.P C rv) (s':St) (a':Act) (w':World),Sim S2 s'.sig a' w'->s'.tm.length=S2.N->Ht c s' (rQ (c.bare Kz) Ac g.fn g.fc g.crest g.t3 g.t2 r rec)->
    LeavesInM Fence.wide 0 c.P g.fn a'.tmps _ a'.defers u w':=λh1 h2 h3 h4 s' a' w' hs' hl' y=>by
   unfold Ht at y;split at y;case h_2=>exact y.elim
   rename_i s1 hsw;obtain⟨D5,E5,h5⟩:=hs';obtain⟨p1,p2,p3⟩:=Ti hsw h5 hrng;have h6:aQ {S2 with G:=[]} s1.sig {tmps:=a'.tmps,defers:=a'.defers} w' D5 E5:=by
    exact⟨p2.sz,p2.df,p2.tm,p2.bl,p2.own,p2.inj,p2.low,p2.dlt,p2.dlo,p2.dhi,λp hp=>(by cases hp),p2.svr,p2.pv⟩
   rw[<- hSP,show S.P=S2.P by rw[z]];refine tJ (S:=S2) (gd:=[d]) (by rw[z]) (λq y k=>by rw[vI]at y;rw[y];exact hdn k) (by rw[z,hS,hZ];exact hD) p1 h3 a'.defers w' D5 h6 λw2 D2 h7=>?_;rw[show S2.P=c.P by rw[z];exact hSP];refine PI (c:=c.bare Kz) HOZ rfl hZs hZr hZn hZg hcf hcb hrec hres hgo key hd h1 h2 h3 (s:=s1) (a:={tmps:=a'.tmps,defers:=[d]}) ⟨D2,E5,?_⟩ (by rw[p3,hl',z,hS]) h4 y;have e8:({S2 with G:=[]}:Base)={Z with gd:=[d],sv:=(g.caps.map V.eval),nod:=false}:=by rw[z,hS];cases Z;simp only at hZG;subst hZG;rfl
   rw[e8]at h7;exact⟨h7.sz,⟨⟨λ_=>rfl,⟨[],rfl⟩,qAt _ _⟩,h7.df.2⟩,h7.tm,h7.bl,h7.own,h7.inj,h7.low,h7.dlt,h7.dlo,h7.dhi,h7.gl,h7.svr,h7.pv⟩
  have hat:=mB g.rest S2 (A2 c.G g.t g.cf g.caps s) _ (bodyPostM Fence.wide 0 c.P g.fn λe w'=>(True/\∃v D' E',e=.returned v/\Left c.P (bN []) r.upd w D E w' D' E'/\r.ret.rel c.P ⟨w',D',upM (bN []) r.upd,E'⟩ v)\/∃ch,e=.panicked ch/\False/\Chg (bA (bN []) E) w w') HO2 hrest hl2 (λe s' y hl' a' w' hs'=>by
   cases e with
   |normal=>exact O (rec:=.val .nilIface) .ret rfl (by simp) (λ_=>rfl) s' a' w' hs' hl' y|ret=>exact O (rec:=.val .nilIface) .ret rfl (by simp) (λ_=>rfl) s' a' w' hs' hl' y|panic ch=>
    simp only[aJD]at y;split at y;case h_2=>exact y.elim
    rename_i v hv;obtain⟨rv,rfl,hrv⟩:=NU hv;exact O (.pan rv) rfl (by simp) (λC=>hrv c.P C) s' a' w' hs' hl' y
   |exit id=>exact y.elim|goto l=>exact y.elim|outgrown=>exact y.elim) _ w1 ⟨D1,E1,hd2⟩
  rw[show S2.P=S.P by rw[z],show S2.rd=S.rd by rw[z]]at hat;exact hat
 exact As hreg
end Go.Eng
namespace Go.Eng
open Go.RowKit
def put(s:St)(l:List (Tmp×AV)):St:={s with tm:=l.foldl (λtm p=>tm.set p.1 p.2) s.tm}
def dD(s:St)(nm:Nat)(b:Blk):St:={s with mem:=xF s.mem nm b}
def az:Ann:=⟨λ_ _=>none,λ_ _=>none,λ_ _=>none⟩
def of_eq{p q:Prop}(h:q=p)(b:p):q:=h▸b
variable {P:Program}
def nj{w w':World}{D D':Nat->Prop}{aa:List AV}{us:Lv}(e:zA2 aa=[])(f:∀b,D b->D' b)(hw:∀b,D b->w'.heap[b]?=w.heap[b]?)
  {m:Nat->Option Blk}{E:Nat->Ent} (h:zA1 P ⟨w,D,m,E⟩ aa us):zA1 P ⟨w',D',noM,noE⟩ aa us:=
 zA4 (C:=⟨w,D,m,E⟩) (C':=⟨w',D',noM,noE⟩) ⟨f,hw⟩ (λg hm=>by rw[e]at hm;cases hm) h
def Left.pure{P:Program}{upd:Mem}{w w':World}{D D':Nat->Prop}{E E':Nat->Ent}(h:Left P (bN []) upd w D E w' D' E'):Below w.heap.size w w'/\∀b,D' b->D b\/iV w w' b:=by
 refine⟨⟨h.chg.os,h.chg.tape,h.chg.output,h.chg.size,λk e=>h.chg.block k e λ⟨i,f,g,_⟩=>(by cases g)⟩,λb hb=>?_⟩;rcases h.dhi b hb with g|g|⟨_,_,g,_⟩;exact .inl g;exact .inr ⟨g,h.dlt b hb⟩;cases g
def ah.data{P:Program}{G:List (Nat×AV)}{f:FuncId}{args:List AV}{pre:Prop}{r:Ty}{y:r.den}(h:ah P G f args [] ⟨pre,.dat r y,[]⟩)(u:pre){w:World}{D:Nat->Prop}{us:Lv}(A:∀b,D b->b<w.heap.size)
  (z:me P ⟨w,D,noM,noE⟩ G) (x:zA1 P ⟨w,D,noM,noE⟩ args us):Calls P f us.toArray w (M9 w D r y):=by
 refine(h u w D noE us A z x (zC9 _ _ _ _)).mono λe w' ⟨v,D',E',j,i,g⟩=>?_;obtain⟨g1,g2⟩:=i.pure;exact⟨v,j,g1,ax g2 (λ_ _=>rfl) g⟩
variable {caps:List AV}{G:List (Nat×AV)}
def lV{f:FuncId}{a b r:Ty}{pre:a.den->b.den->Prop}{g:a.den->b.den->r.den}(V:goes P f=true)(T:zA2 caps=[])
  (h:∀x y,ah P G f (.dat a x::.dat b y::caps) [] ⟨pre x y,.dat r (g x y),[]⟩) {C:Ctx} (hG:me P C G) {v:Value} (L:(AV.fn f caps).rel P C v):(AV.clo2 a b r pre g).rel P C v:=by
 obtain⟨us,rfl,X⟩:=L;refine⟨f,us.toArray,rfl,V,λw' D' g1 g2 g3 x y u v O A z=>?_⟩;have i:zA1 P ⟨w',D',noM,noE⟩ (.dat a x::.dat b y::caps) (u::v::us):=⟨u,_,rfl,A,v,_,rfl,z,nj T g1 g3 X⟩;have j:me P ⟨w',D',noM,noE⟩ G:=hG.mono ⟨g1,g3⟩;have e:(#[u,v]++us.toArray)=(u::v::us).toArray:=by simp
 rw[e];exact(h x y).data O g2 j i
def lW{f:FuncId}{a r:Ty}{pre:a.den->Prop}{g:a.den->r.den}(L:goes P f=true)(A:zA2 caps=[])
  (h:∀x,ah P G f (.dat a x::caps) [] ⟨pre x,.dat r (g x),[]⟩) {C:Ctx} (T:me P C G) {v:Value} (y:(AV.fn f caps).rel P C v):(AV.clo1 a r pre g).rel P C v:=by
 obtain⟨us,rfl,O⟩:=y;refine⟨f,us.toArray,rfl,L,λw' D' g1 g2 g3 x u z j=>?_⟩;have b:zA1 P ⟨w',D',noM,noE⟩ (.dat a x::caps) (u::us):=⟨u,_,rfl,j,nj A g1 g3 O⟩;have i:me P ⟨w',D',noM,noE⟩ G:=T.mono ⟨g1,g3⟩;have e:(#[u]++us.toArray)=(u::us).toArray:=by simp
 rw[e];exact(h x).data z g2 i b
def ah.args{P:Program}{G:List (Nat×AV)}{f:FuncId}{aa bs:List AV}{m:Mem}{c:jY}(h:ah P G f bs m c)(b:∀(C:Ctx) us,me P C G->zA1 P C aa us->zA1 P C bs us):ah P G f aa m c:=
 λi w D E us r e g j=>h i w D E us r e (b _ us e g) j
def zC2{P:Program}{G:List (Nat×AV)}{f:FuncId}{aa:List AV}{m:Mem}{c:jY}(h:c.pre->ah P G f aa m c):ah P G f aa m c:=λb=>h b b
def ah.weaken{P:Program}{G:List (Nat×AV)}{f:FuncId}{aa:List AV}{m:Mem}{p q:Prop}{r:AV}{u:Mem}(h:ah P G f aa m ⟨q,r,u⟩)(b:p->q):ah P G f aa m ⟨p,r,u⟩:=λe=>h (b e)
def zE1{P:Program}{G:List (Nat×AV)}{f:FuncId}{aa:List AV}{m:Mem}{p:Prop}{t:Ty}{x y:t.den}{u:Mem}(h:ah P G f aa m ⟨p,.dat t x,u⟩)(e:p->x=y):ah P G f aa m ⟨p,.dat t y,u⟩:=λb=>e b▸h b
mutual
def aJC(m:Mem)(nms:List Nat):AV->AV
 |.ptr nm g i c=>if nms.contains nm then match m.lookup nm with
  |some (.var [.dat t x])=>.ip t x|some (.var [v])=>if v.names.isEmpty then .ipv v else .top|some (.buf _ t xs [])=>.ia t xs|_=>.top
  else .ptr nm g i c
 |.buf nm n=>if nms.contains nm then match m.lookup nm with
  |some (.buf _ t xs [])=>.dat (.sl t) xs|some (.mat _ _ e xss [])=>.dat (.sl (.sl e)) xss|some (.buf _ (.sl e) xs [(i,.buf nm2 _)])=>match m.lookup nm2 with
   |some (.buf _ e' zs [])=>if h:e'=e then .dat (.sl (.sl e)) (Em (α:=List e.den) xs i (h▸zs))else .top|_=>.top
  |_=>.top
  else .buf nm n
 |.agg cs=>.agg (aIF m nms cs)|a=>if a.names.any nms.contains then .top else a
def aIF(m:Mem)(nms:List Nat):List AV->List AV|[]=>[]|a::aa=>aJC m nms a::aIF m nms aa
end
def aKH(m:Mem)(nms:List Nat):Blk->Blk|.var cs=>.var (aIF m nms cs)|b=>b
def frz(nms:List Nat)(s:St):St:={s with tm:=s.tm.map (λa=>aJC s.mem nms (aD7 a)),mem:=(s.mem.filter λp=>!nms.contains p.1).map λp=>(p.1,aKH s.mem nms p.2)}
def allNames(s:St):List Nat:=s.mem.map (·.1)
end Go.Eng
namespace Go.Eng
open Go.RowKit
structure Y where
 s:St
 k:Nat
 on:Bool
structure aIY where
 α:Type
 inv:α->Prop
 st:α->Y
 μ:α->Nat
structure Ku where
 loop:Nat->Y->Option aIY
 pre:Nat->St->Option St
 yr:Nat->Bool
def leY(y y':Y):Prop:=leP y.s y'.s/\y.k=y'.k/\y.on=y'.on
def yieldOf(G:List (Nat×AV))(T:Nat->AV)(g:Bool)(o:Op):Option (Nat×List Prop×List AV):=match o with
 |.call ⟨.value f,args,_⟩=>match ug g (evT G T f),args.toList with
  |(.yld l,n1),[a]=>match ug g (evT G T a)with
   |(v,n2)=>some (l,n1++n2,[v])
  |(.yld l,n1),[a,b]=>match ug g (evT G T a),ug g (evT G T b)with
   |(v,n2),(w,n3)=>some (l,n1++(n2++n3),[v,w])
  |_,_=>none
 |_=>none
def ZX(t:Ty)(v:AV):Option t.den:=if aGT t=true then(match v with
  |.agg cs=>match cU t cs with
   |some (x,[])=>some x|_=>none
  |_=>none)else v.aa t
def asY:(t:Ty)->List AV->Option t.den
 |.pair a b,[v,w]=>match ZX a v,ZX b w with
  |some x,some y=>some (x,y)|_,_=>none
 |.int k,[v]=>v.aa (.int k)|.bool,[v]=>v.aa .bool|.str,[v]=>v.aa .str|.sl e,[v]=>v.aa (.sl e)|_,_=>none
def J4{P:Program}{C:Ctx}{t:Ty}{v:AV}{x:t.den}{u:Value}(h:ZX t v=some x)(b:v.rel P C u):(tz t x).rel P C u:=by
 unfold ZX at h;unfold tz;split at h;rename_i e;rw[if_pos e];split at h;rename_i cs;split at h;rename_i y r;cases h;obtain⟨us,rfl,j⟩:=b;obtain⟨f,z,rfl,i,g⟩:=cH r j;cases g;refine⟨f++[],rfl,?_⟩;rw[wB];exact cy i;cases h;cases h;rename_i e;rw[if_neg e];exact zB8 h b
def Wm{P:Program}{C:Ctx}:∀{t:Ty}{vs:List AV}{x:t.den}{us:Lv},asY t vs=some x->zA1 P C vs us->zA1 P C (LG t x) us
 |.pair a b,[v,w],x,us,h,e=>by
  simp only[asY]at h;split at h;rename_i z y r j;cases h;obtain⟨u,f,rfl,g1,g2⟩:=e;obtain⟨i,g,rfl,g3,g4⟩:=g2;exact⟨u,_,rfl,J4 r g1,i,_,rfl,J4 j g3,g4⟩;cases h
 |.int _,[v],x,us,h,e|.bool,[v],x,us,h,e|.str,[v],x,us,h,e|.sl _,[v],x,us,h,e=>by
  obtain⟨u,f,rfl,g1,g2⟩:=e;exact⟨u,_,rfl,zB8 h g1,g2⟩
 |.pair _ _,[],_,_,h,_|.pair _ _,[_],_,_,h,_|.pair _ _,_::_::_::_,_,_,h,_=>by simp[asY]at h|.int _,[],_,_,h,_|.int _,_::_::_,_,_,h,_|.bool,[],_,_,h,_|.bool,_::_::_,_,_,h,_|.str,[],_,_,h,_|.str,_::_::_,_,_,h,_|.sl _,[],_,_,h,_|.sl _,_::_::_,_,_,h,_=>by simp[asY]at h
def vz{G:List (Nat×AV)}{T:Nat->AV}{g:Bool}{o:Op}{l:Nat}{ns:List Prop}{v:List AV}(h:yieldOf G T g o=some (l,ns,v)):
  ∃f args at_ i r,o=.call ⟨.value f,args,at_⟩/\ug g (evT G T f)=(.yld l,i)/\ns=i++r/\((∃a j,args.toList=[a]/\ug g (evT G T a)=(j,r)/\v=[j])\/∃a b j x z y,args.toList=[a,b]/\ug g (evT G T a)=(j,z)/\ug g (evT G T b)=(x,y)/\v=[j,x]/\r=z++y):=by
 unfold yieldOf at h;split at h;case h_2=>cases h
 rename_i f args at_;split at h;rename_i A i a u e;cases h;exact⟨f,args,at_,i,_,rfl,u,rfl,.inl ⟨a,_,e,rfl,rfl⟩⟩;rename_i A i a b u e;cases h;exact⟨f,args,at_,i,_,rfl,u,rfl,.inr ⟨a,b,_,_,_,_,e,rfl,rfl,rfl,rfl⟩⟩;cases h
def aB1(c:Cfg)(it:jX)(l:Nat)(ops:Array Oper):List Oper->Y->(Y->Prop)->Prop
 |[],y,Q=>Q y|o::os,y,Q=>match RO y.s.sig.T ops o.guard with
  |some g=>match yieldOf c.G y.s.sig.T g o.op with
   |some (l',ns,v)=>if pI o.dst y.s.tm.length=true/\y.s.mem.isEmpty=true then match asY it.t v with
    |some x=>Zz g (all ns (l'=l/\y.on=true/\nB it.L y.k x/\∀b:Bool,aB1 c it l ops os ⟨setSlot o.dst (.dat .bool b) y.s,y.k+1,b⟩ Q))
      (aB1 c it l ops os ⟨setSlot o.dst (.grd g (.dat .bool false)) y.s,y.k,y.on⟩ Q)
    |none=>False
    else False
   |none=>match iZ c.P c.G c.K (c.mt o) ops y.s.nx y.s.sig o with
    |some r=>if iJ r y.s.tm.length=true/\Iz r y.s=true then all r.need (aB1 c it l ops os ⟨cV r y.s,y.k,y.on⟩ Q)else False|none=>False
  |none=>False
def cT(o:Oper):Bool:=match o.op with|.call ⟨.value (.tmp _),_,_⟩=>true|_=>false
def aJA(tbl:List Nat)(q n:Nat):Bool:=(List.range n).all λj=>if j<q then(tbl.getD q 0).testBit j else j==q||(tbl.getD j 0).testBit q
def aC9(c:Cfg)(it:jX)(l:Nat)(ops:Array Oper)(y:Y)(Q:Y->Prop):Prop:=
 match ops[ops.toList.findIdx cT]?,iB c ops (ops.toList.take (ops.toList.findIdx cT)) y.s with
 |some o,some rs=>if aJA (jV [] ops.toList) (ops.toList.findIdx cT) ops.size=true/\o.guard.isNone=true/\pI o.dst y.s.tm.length=true/\(ie rs y.s (ops.toList.findIdx cT)).mem.isEmpty=true/\
    xn true (jV [] ops.toList) y.s (rs++List.replicate (ops.size-ops.toList.findIdx cT) dflt)=true/\o8 (jV [] ops.toList) ops.toList (rs++List.replicate (ops.size-ops.toList.findIdx cT) dflt)=true then
   match yieldOf c.G (ie rs y.s (ops.toList.findIdx cT)).sig.T true o.op with
   |some (l',ns,v)=>match asY it.t v with
    |some x=>all (rs.flatMap (·.need)) (all ns (l'=l/\y.on=true/\nB it.L y.k x/\∀b:Bool,
      match iB c ops (ops.toList.drop (ops.toList.findIdx cT+1)) (setSlot o.dst (.dat .bool b) (ie rs y.s (ops.toList.findIdx cT)))with
      |some rs2=>if xn true (jV [] ops.toList) (setSlot o.dst (.dat .bool b) (ie rs y.s (ops.toList.findIdx cT))) (List.replicate (ops.toList.findIdx cT+1) dflt++rs2)=true/\
         o8 (jV [] ops.toList) ops.toList (List.replicate (ops.toList.findIdx cT+1) dflt++rs2)=true then
        all (rs2.flatMap (·.need)) (Q ⟨ie rs2 (setSlot o.dst (.dat .bool b) (ie rs y.s (ops.toList.findIdx cT))) rs2.length,y.k+1,b⟩)else False
      |none=>False))
    |none=>False
   |none=>False
  else False
 |_,_=>False
def evZ(c:Cfg)(rg:Array Oper->Bool->Y->(Y->Prop)->Prop)(A:Ku):Code->Y->(Exit->Y->Prop)->Prop
 |.skip,y,Q=>Q .normal y|.region id ops draw,y,Q=>match A.pre id y.s with
  |some s1=>match WM y.s s1 with
   |some ms=>all ms (if A.yr id=true then rg ops draw ⟨s1,y.k,y.on⟩ (Q .normal)else aDP c ops draw s1 λs'=>Q .normal ⟨s',y.k,y.on⟩)|none=>False
  |none=>if A.yr id=true then rg ops draw y (Q .normal)else aDP c ops draw y.s λs'=>Q .normal ⟨s',y.k,y.on⟩
 |.seq a b,y,Q=>evZ c rg A a y (λe y'=>match e with|.normal=>evZ c rg A b y' Q|e=>Q e y')
 |.cond t a b,y,Q=>match Zy (evT c.G y.s.sig.T t)with
  |some (ns,x)=>all ns (Zz x (evZ c rg A a y Q) (evZ c rg A b y Q))|none=>False
 |.block id b,y,Q=>evZ c rg A b y (λe y'=>match e with|.exit id'=>if id'=id then Q .normal y' else Q (.exit id') y'|e=>Q e y')
 |.exit id,y,Q=>Q (.exit id) y|.ret,y,Q=>Q .ret y|.loop b,y,Q=>match fG b with
  |some id=>match A.loop id {y with s:=O1 b y.s} with
   |some sp=>(∃x,sp.inv x/\leY y (sp.st x))/\∀x,sp.inv x->evZ c rg A b (sp.st x) (λe y'=>match e with|.normal=>∃z,sp.inv z/\leY y' (sp.st z)/\sp.μ z<sp.μ x|e=>Q e y')
   |none=>False
  |none=>False
 |_,_,_=>False
def rgY(c:Cfg)(it:jX)(l:Nat)(ops:Array Oper)(draw:Bool)(y:Y)(Q:Y->Prop):Prop:=if draw=true then aC9 c it l ops y Q else aB1 c it l ops ops.toList y Q
def evY(c:Cfg)(it:jX)(l:Nat):Ku->Code->Y->(Exit->Y->Prop)->Prop:=evZ c (rgY c it l)
def aGW(it:jX):Exit->Y->Prop|.normal,y=>y.on=true->y.k=it.L.length|.ret,y=>y.on=true->y.k=it.L.length|_,_=>False
def tf(fn:Func)(l:Nat)(caps:List AV):Y:=⟨⟨(.yld l::caps)++List.replicate (fn.ntmps-(caps.length+1)) (.val undef),[],0,[]⟩,0,true⟩
def evI(c:Cfg)(A:Ku)(f:FuncId)(caps:List AV)(it:jX):Prop:=match c.P.funcs[f]? with
 |some fn=>match fn.body with
  |some b=>fn.results.toList.isEmpty=true/\(zA2 caps).isEmpty=true/\true=true/\c.rng=false/\∀l,it.pre->evY c it l A b (tf fn l caps) (aGW it)|none=>False
 |none=>False
section
structure FrY where
 ro:Option Nat
 sv:Lv
 V:Nat->Prop
 Dv:Nat->Prop
 W:World
def Fr:Option Nat->Fence|none=>Fence.wide|some l=>Fence.wide.inRound l
def aDH(ro:Option Nat)(f:FuncId):(Fr ro).fn f:=by cases ro<;>trivial
def P0(ro:Option Nat):(Fr ro).depth=none:=by cases ro<;>rfl
def Z7(ro:Option Nat):(Fr ro).round=ro:=by cases ro<;>rfl
def aCl{ro:Option Nat}{P:Program}{l:Nat}{f:FuncId}{tmps:Array Value}{assign body:Code}{w:World}{R:Ending->World->Prop}(h:RoundIn Fence.wide 0 P l f tmps assign body w R):RoundIn (Fr ro) 0 P l f tmps assign body w R:=by
 cases ro with
 |none=>exact h|some k=>exact h
def Kept(fr:FrY)(w:World):Prop:=fr.W.heap.size<=w.heap.size/\∀b,fr.Dv b\/fr.V b->w.heap[b]?=fr.W.heap[b]?
variable {c:Cfg}{it:jX}{l N:Nat}{fr:FrY}{J:Nat->World->(Nat->Prop)->(Nat->Prop)->Prop}{JX:World->(Nat->Prop)->(Nat->Prop)->Prop}{JP:List PanicEntry->World->(Nat->Prop)->(Nat->Prop)->Prop}
def Na(fr:FrY)(J:Nat->World->(Nat->Prop)->(Nat->Prop)->Prop)(JX:World->(Nat->Prop)->(Nat->Prop)->Prop)(y:Y)(w:World)(D:Nat->Prop):Prop:=(y.on=true->J y.k w D fr.V)/\(y.on=false->JX w D fr.V)
structure OkY(c:Cfg)(N:Nat)(fr:FrY)(S:Base):Prop where
 P:S.P=c.P
 G:S.G=c.G
 N:S.N=N
 O:∀b,¬S.O b
 sv:S.sv=fr.sv
 rd:S.rd=fr.ro
 nod:S.nod=true
 gd:S.gd=[]
 kept:Kept fr S.w0
 lt:∀b,fr.Dv b\/fr.V b->b<S.w0.heap.size
 dv:∀b,fr.Dv b->S.D0 b
 nv:∀b,fr.V b->¬S.D0 b
def aDx(c:Cfg)(N:Nat)(fr:FrY)(J:Nat->World->(Nat->Prop)->(Nat->Prop)->Prop)(JX:World->(Nat->Prop)->(Nat->Prop)->Prop)(y:Y)(a:Act)(w:World):Prop:=
 ∃S,OkY c N fr S/\Na fr J JX y S.w0 S.D0/\Sim S y.s.sig a w
structure WU(c:Cfg)(it:jX)(l N:Nat)(fr:FrY)(J:Nat->World->(Nat->Prop)->(Nat->Prop)->Prop)(JX:World->(Nat->Prop)->(Nat->Prop)->Prop)(JP:List PanicEntry->World->(Nat->Prop)->(Nat->Prop)->Prop):Prop where
 K:ai c.P c.G c.K
 I:bh c.P c.G c.KI
 KP:bJ c.P c.G c.KP
 m:c.P.follows .mixedOrders=true
 rng:fr.ro=none->c.rng=false
 rs:fr.ro≠none->N<=fr.sv.length
 j1:∀k w1 w2 D1 V,J k w1 D1 V->Below w1.heap.size w1 w2->∀X:Nat->Prop,J k w2 (λb=>D1 b\/(iV w1 w2 b/\¬X b)) (λb=>V b\/(iV w1 w2 b/\X b))
 j2:∀k w1 (D1 D2 V V2:Nat->Prop),J k w1 D1 V->(∀b,D2 b->D1 b)->(∀b,V2 b->V b)->J k w1 D2 V2
 x1:∀w1 w2 D1 V,JX w1 D1 V->Below w1.heap.size w1 w2->∀X:Nat->Prop,JX w2 (λb=>D1 b\/(iV w1 w2 b/\¬X b)) (λb=>V b\/(iV w1 w2 b/\X b))
 x2:∀w1 (D1 D2 V V2:Nat->Prop),JX w1 D1 V->(∀b,D2 b->D1 b)->(∀b,V2 b->V b)->JX w1 D2 V2
 yld:∀k y W D1 V vs,it.L[k]?=some y->J k W D1 V->(∀b,D1 b->b<W.heap.size)->zA1 c.P ⟨W,D1,noM,noE⟩ (LG it.t y) vs->YieldAt Fence.wide 0 c.P l vs.toArray W λe W' =>
   W.heap.size<=W'.heap.size/\(∀b,D1 b\/V b->W'.heap[b]?=W.heap[b]?)/\((e=.returned (.bool true)/\J (k+1) W' D1 V)\/(e=.returned (.bool false)/\JX W' D1 V)\/∃ch,e=.panicked ch/\JP ch W' D1 V)
def OkY.okS{S:Base}(h:OkY c N fr S)(H:WU c it l N fr J JX JP):OkS c S:=
 ⟨h.P.symm,h.G.symm,by rw[h.P,h.G];exact H.K,by rw[h.P,h.G];exact H.I,by rw[h.P];exact H.m,λe=>by rw[h.sv,h.N];exact H.rs (by rw[<- h.rd];exact e),λe=>by rw[h.nod,H.rng (by rw[<- h.rd];exact e)];rfl,by rw[h.P,h.G];exact H.KP⟩
def OkY.F{S:Base}(h:OkY c N fr S):S.F=Fr fr.ro:=by
 unfold Base.F;rw[h.rd];cases fr.ro<;>rfl
def OkY.now{S:Base}(h:OkY c N fr S){σ:Sig}{a:Act}{w:World}{D:Nat->Prop}{E:Nat->Ent}(hd:aQ S σ a w D E):(∀b,fr.Dv b\/fr.V b->b<w.heap.size/\w.heap[b]?=fr.W.heap[b]?)/\(∀b,fr.Dv b->D b)/\(∀b,fr.V b->¬D b)/\fr.W.heap.size<=w.heap.size:=by
 refine⟨λb hb=>⟨qZ (h.lt b hb) hd.low.size,(hd.low.block b (h.lt b hb) (h.O b)).trans (h.kept.2 b hb)⟩,λb hb=>hd.dlo b (h.dv b hb),λb hb g=>?_,wJ h.kept.1 hd.low.size⟩;rcases hd.dhi b g with g|g|g;exact h.nv b hb g;have:=h.lt b (.inr hb);omega;exact h.O b g
def OkY.next{S:Base}(h:OkY c N fr S){σ:Sig}{a:Act}{w w':World}{D:Nat->Prop}{E:Nat->Ent}(hd:aQ S σ a w D E)(i:w.heap.size<=w'.heap.size)(r:∀b,D b\/fr.V b->w'.heap[b]?=w.heap[b]?):OkY c N fr {S with w0:=w',D0:=D,O:=λ_=>False}:=by
 obtain⟨f,e,j,n4⟩:=h.now hd;exact⟨h.P,h.G,h.N,λ_ g=>g,h.sv,h.rd,h.nod,h.gd,⟨wJ n4 i,λb hb=>(r b (hb.imp (e b) id)).trans (f b hb).2⟩,λb hb=>qZ (f b hb).1 i,e,j⟩
def Na.now{S:Base}(i:OkY c N fr S)(H:WU c it l N fr J JX JP){y:Y}(f:Na fr J JX y S.w0 S.D0){σ:Sig}{a:Act}{w:World}{D:Nat->Prop}{E:Nat->Ent}(h:aQ S σ a w D E):Na fr J JX y w D:=by
 have hb:Below S.w0.heap.size S.w0 w:=⟨h.low.os,h.low.tape,h.low.output,h.low.size,λk r=>h.low.block k r (i.O k)⟩;have j:∀b,D b->S.D0 b\/(iV S.w0 w b/\¬noV b):=λb hb=>by
  rcases h.dhi b hb with g|g|g;exact .inl g;exact .inr ⟨⟨g,h.dlt b hb⟩,id⟩;exact(i.O b g).elim
 exact⟨λe=>H.j2 _ _ _ _ _ _ (H.j1 _ _ _ _ _ (f.1 e) hb noV) j λ_=>.inl,λe=>H.x2 _ _ _ _ _ (H.x1 _ _ _ _ (f.2 e) hb noV) j λ_=>.inl⟩
def aQ.behindYield{S:Base}{s:St}{a:Act}{w w':World}{D:Nat->Prop}{E:Nat->Ent}(h:aQ S s.sig a w D E)(hm:s.mem=[])(v:w.heap.size<=w'.heap.size)(x:∀b,D b->w'.heap[b]?=w.heap[b]?)(r:S.nod=true)(f:S.gd=[]):
  aQ {S with w0:=w',D0:=D,O:=λ_=>False} s.sig a w' D E:=by
 have em:s.sig.m=λ_=>none:=by
  funext k;show s.mem.lookup k=none;rw[hm];rfl
 have L:Later ⟨w,D,s.sig.m,E⟩ ⟨w',D,s.sig.m,E⟩:=⟨λ_ g=>g,x⟩;have e:∀k,pn ⟨w,D,s.sig.m,E⟩ ⟨w',D,s.sig.m,E⟩ k:=λk u j=>⟨u,j,rfl,qM _,λ_=>rfl⟩;have none:∀e b,s.sig.m e=some b->False:=λe b hb=>by rw[em]at hb;cases hb
 refine⟨h.sz,⟨⟨λ_=>h.df.1.1 r,h.df.1.2⟩,λd hd=>?_⟩,λt=>zA5 L (λk _=>e k) (h.tm t),λk b hb=>(none k b hb).elim,λk b hb=>(none k b hb).elim,λk k' b u hb=>(none k b hb).elim,Chg.refl _ _,
  λb hb=>qZ (h.dlt b hb) v,λ_ g=>g,λ_ g=>.inl g,h.gl.mono L,zA4 L (λk _=>e k) h.svr,fU.nil λk i b g=>by obtain⟨_,_,_,_,_,_,g1,_⟩:=g;exact none k _ g1⟩
 rw[h.df.1.1 r,f]at hd;cases hd
def Hg(H:WU c it l N fr J JX JP){y:Y}{S:Base}(X:OkY c N fr S)(hg:Na fr J JX y S.w0 S.D0){a:Act}{w:World}{D:Nat->Prop}{E:Nat->Ent}(hd:aQ S y.s.sig a w D E)(hmem:y.s.mem=[]){o:Oper}{l':Nat}{ns:List Prop}{v:List AV}
  (hy:yieldOf c.G y.s.sig.T true o.op=some (l',ns,v)) {x:it.t.den} (hx:asY it.t v=some x) (z:∀q∈ns,q) (hll:l'=l) (hon:y.on=true) (hat:nB it.L y.k x) {K:Act->World->Prop}{R:Exit->Act->World->Prop}
  (hP:∀ch a w D,a.defers=[]->JP ch w D fr.V->Kept fr w->R (.panic ch) a w)
  (hK:∀(b:Bool) (w':World) (s':St),Na fr J JX ⟨s',y.k+1,b⟩ w' D->OkY c N fr {S with w0:=w',D0:=D,O:=λ_=>False}->aQ {S with w0:=w',D0:=D,O:=λ_=>False} y.s.sig a w' D E->K (a.put o.dst (.bool b)) w'):o.wpIn (Fr fr.ro) 0 c.P a w K R:=by
 obtain⟨f,args,at_,n1,n2,hop,hf,rfl,hav⟩:=vz hy;rw[hll]at hf;have hfv:=fy hd f;rw[X.G]at hfv;have hfv2:=oR (g:=true) rfl (λq j=>z q (qJ.2 (.inl (by rw[hf]at j;exact j)))) hfv;rw[hf]at hfv2;have hfv3:a.eval f=.func (.yield l) #[] #[]:=hfv2;have one:∀(av:Operand) (v:AV) (m:List Prop),ug true (evT c.G y.s.sig.T av)=(v,m)->(∀q∈m,q)->v.rel S.P ⟨w,D,y.s.sig.m,E⟩ (a.eval av):=λav v m e hm=>by
  have h1:=fy hd av;rw[X.G]at h1;have h2:=oR (g:=true) rfl (λq j=>by rw[e]at j;exact hm q j) h1;rw[e]at h2;exact h2
 have A:zA1 S.P ⟨w,D,y.s.sig.m,E⟩ (LG it.t x) (args.toList.map a.eval):=by
  refine Wm hx ?_;rcases hav with⟨b,v1,i,e,rfl⟩|⟨b1,b2,v1,v2,m1,m2,i,e1,e2,rfl,rfl⟩;rw[i];exact⟨_,_,rfl,one b v1 n2 e λq j=>z q (qJ.2 (.inr j)),rfl⟩;rw[i];exact⟨_,_,rfl,one b1 v1 m1 e1 λq j=>z q (qJ.2 (.inr (qJ.2 (.inl j)))),_,_,rfl,one b2 v2 m2 e2 λq j=>z q (qJ.2 (.inr (qJ.2 (.inr j)))),rfl⟩
 have hgn:=hg.now X H hd;have hcell:zA1 c.P ⟨w,D,noM,noE⟩ (LG it.t x) (args.toList.map a.eval):=by rw[<- X.P];exact nj (BO _ _) (λ_ g=>g) (λ_ _=>rfl) A
 have hyl:=H.yld y.k x w D fr.V (args.toList.map a.eval) hat (hgn.1 hon) hd.dlt hcell;obtain⟨fn,tmps,assign,body,hrun,u⟩:=hyl;unfold Oper.wpIn;refine⟨λf _=>aDH _ f,?_⟩;have nodef:∀d,o.op≠.defer d:=λd e=>by rw[hop]at e;cases e
 rw[Oper.semAt_eq _ _ _ nodef];have hexec:(execOp a.eval o).run c.P w=.ok (.round l fn tmps assign body) w:=by
  obtain⟨dst,op,ty,pos,after,guard⟩:=o;simp only at hop;subst hop;have e1:args.map a.eval=(args.toList.map a.eval).toArray:=by
   apply yU;rw[qBu]
  simp only[execOp,resolve,e1,hfv3,Deferred.ofValue,wV,yN,vZ,invoke,jA];simpa using hrun
 rw[hexec,Oper.uponIn_round];refine⟨λh=>(by rw[P0]at h;cases h),?_⟩;refine RoundIn.mono (aCl u) ?_;rintro e w' ⟨hsz,r,hres⟩;have hb:=hd.behindYield hmem hsz (λb hb=>r b (.inl hb)) X.nod X.gd;have hnx:=X.next hd hsz r
 rcases hres with⟨rfl,hj⟩|⟨rfl,hj⟩|⟨ch,rfl,hj⟩;exact hK true w' y.s ⟨λ_=>hj,λe=>(by cases e)⟩ hnx hb;exact hK false w' y.s ⟨λe=>(by cases e),λ_=>hj⟩ hnx hb;exact hP ch a w' D ((hd.df.1.1 X.nod).trans X.gd) hj hnx.kept
def EV(H:WU c it l N fr J JX JP){ops:Array Oper}{Q:Y->Prop}{R:Exit->Act->World->Prop}(hR:∀y',Q y'->y'.s.tm.length=N->∀a w,aDx c N fr J JX y' a w->R .normal a w)(hP:∀ch a w D,a.defers=[]->JP ch w D fr.V->Kept fr w->R (.panic ch) a w):
  ∀(os:List Oper) (j:Nat) (y:Y),(∀i o,os[i]?=some o->ops[j+i]?=some o)->aB1 c it l ops os y Q->y.s.tm.length=N->∀a w,aDx c N fr J JX y a w->wpOpsIn (Fr fr.ro) 0 c.P ops R (List.range' j os.length) a w
 |[],j,y,_,h,hl,a,w,hs=>by
  simp only[xR,qCh,wpOpsIn];simp only[aB1]at h;exact hR y h hl a w hs
 |o::os,j,y,X,h,hl,a,w,hs=>by
  have ho:ops[j]?=some o:=by simpa using X 0 o rfl
  have hos:∀i o',os[i]?=some o'->ops[j+1+i]?=some o':=λi o' hi=>by
   have:=X (i+1) o' (by simpa using hi);rw[show j+1+i=j+(i+1) by omega];exact this
  obtain⟨S,T,hg,D,E,hd⟩:=hs;have hlS:y.s.tm.length=S.N:=hl.trans T.N.symm;simp only[aB1]at h;split at h;case h_2=>exact h.elim
  rename_i g hge;have hwant:=GH (o:=o) hd hge;rw[wO,qBp,wpOpsIn_cons];split at h
  ·
   rename_i l' ns v hy;split at h;case isFalse=>exact h.elim
   rename_i hc;obtain⟨z,L⟩:=hc;have L:y.s.mem=[]:=zB.1 L;split at h;case h_2=>exact h.elim
   rename_i x hx;unfold wpOpIn;rw[ho];simp only;rw[hwant];cases g with
   |false=>
    simp only[wG,xW];refine⟨λf _=>aDH _ f,EV H hR hP os (j+1) _ hos (h.2 rfl) (by simp[setSlot];split<;>simp[hl]) _ _ ⟨S,T,hg,D,E,?_⟩⟩;exact hd.slot hlS z ⟨λe=>(by cases e),λ_=>rfl⟩
   |true=>
    simp only[kT];obtain⟨hns,hll,hon,hat,u⟩:=bR (h.1 rfl);refine Hg H T hg hd L hy hx hns hll hon hat hP λb w' _ hgh hnx hb=>?_;exact EV H hR hP os (j+1) _ hos (u b) (by simp[setSlot];split<;>simp[hl]) _ _ ⟨{S with w0:=w',D0:=D,O:=λ_=>False},hnx,hgh,D,E,hb.slot hlS z rfl⟩
  ·
   split at h;case h_2=>exact h.elim
   rename_i r A;split at h;case isFalse=>exact h.elim
   rename_i hok;obtain⟨hns,u⟩:=bR h;have z:∀d,o.dst=some d->d<S.N:=by
    intro d hdd;have e:r.dst=o.dst:=by
     unfold iZ at A;split at A;split at A;unfold LQ at A;split at A;cases A;rfl;split at A;cases A;rfl;cases A;cases A;cases A
    have h2:=hok.1;unfold iJ at h2;simp only[qC]at h2;have:=h2.1;rw[e,hdd]at this;rw[<- hlS];simpa using this
   have hK:ai S.P S.G c.K:=(T.okS H).K;have hr':iZ S.P S.G c.K (c.mt o) ops y.s.nx y.s.sig o=some r:=by rw[T.P,T.G];exact A
   have:=qb (Q:=R) hK ho ⟨D,E,hd⟩ z hr' hns (λk hk=>by
    have:=hok.2;unfold Iz at this;rw[hk]at this;exact Nr this)
   rw[T.F,T.P]at this;refine wpOpIn_mono (λa' w' h'=>EV H hR hP os (j+1) _ hos u (by rw[jU];exact hl) a' w' ⟨S,T,hg,?_⟩) this;show Sim S (cV r y.s).sig a' w';rw[iL hok.1];exact h'
def wc(rs b:List Rec)(s:St){j:Nat}(h:j<=rs.length):ie (rs++b) s j=ie rs s j:=by
 unfold ie;rw[xK h]
def uL(s:St):cV dflt s=s:=rfl
def HB(s:St):∀n,ie (List.replicate n dflt) s n=s
 |0=>rfl|n+1=>by
  have h:=mX (List.replicate (n+1) dflt) s n dflt (by simp);rw[h,uL];have e:List.replicate (n+1) dflt=List.replicate n dflt++[dflt]:=by rw[List.replicate_succ']
  rw[e,wc _ _ _ (by simp)];exact HB s n
def HC(n:Nat)(rs:List Rec)(s:St)(j:Nat):ie (List.replicate n dflt++rs) s (n+j)=ie rs s j:=by
 have b:=HB s n;unfold ie at b ⊢;rw[qDj,qAg];simp only[wS,Nat.add_sub_cancel_left];rw[qO (by simp)];rw[qO (by simp)]at b;rw[b]
def HW{rs:List Rec}{d d':Nat->Bool}{σ:Sig}{n:Nat}(h:∀i,i<n->d i=d' i\/rs[i]?=some dflt):fY (cq rs) d n σ=fY (cq rs) d' n σ:=by
 induction n with
 |zero=>rfl|succ n b=>
  have b:=b λi hi=>h i Z;simp only[fY];rw[b];rcases h n Z with e|e;rw[e];have:∀σ,cq rs n σ=σ:=λσ=>by
   unfold cq;rw[e];show(⟨upT σ.T none .top,upM σ.m [],σ.sv⟩:Sig)=σ;have g:upT σ.T none .top=σ.T:=by funext t;simp[upT]
   have f:upM σ.m []=σ.m:=by funext t;simp[upM]
   rw[g,f]
  split<;>split<;>simp[this]
def Zo(H:WU c it l N fr J JX JP){ops:Array Oper}{Q:Y->Prop}{R:Exit->Act->World->Prop}(hR:∀y',Q y'->y'.s.tm.length=N->∀a w,aDx c N fr J JX y' a w->R .normal a w)(hP:∀ch a w D,a.defers=[]->JP ch w D fr.V->Kept fr w->R (.panic ch) a w)
  {y:Y} (h:aC9 c it l ops y Q) (hl:y.s.tm.length=N) {a:Act}{w:World} (hs:aDx c N fr J JX y a w) {id:Nat}:(Code.region id ops true).wpIn (Fr fr.ro) 0 c.P R a w:=by
 unfold aC9 at h;split at h;case h_2=>exact h.elim
 rename_i o rs ho hrs;obtain⟨q,hq⟩:∃q,q=ops.toList.findIdx cT:=⟨_,rfl⟩;obtain⟨tbl,htbl⟩:∃tbl,tbl=jV [] ops.toList:=⟨_,rfl⟩;rw[<- hq]at ho hrs;rw[<- hq,<- htbl]at h;split at h;case isFalse=>exact h.elim
 rename_i hc;obtain⟨n1,n2,n3,n4,n5,n6⟩:=hc;split at h;case h_2=>exact h.elim
 rename_i l' ns v hy;split at h;case h_2=>exact h.elim
 rename_i x hx;obtain⟨hrn,h⟩:=bR h;obtain⟨hns,hll,hon,hat,hcont⟩:=bR h;have X:q<ops.size:=(vV.1 ho).1;have hqs':q<ops.toList.length:=by simpa using X
 have hgd:o.guard=none:=by simpa using n2
 have nk:∀j,j<ops.size->(j<q->(tbl.getD q 0).testBit j=true)/\(q<j->(tbl.getD j 0).testBit q=true):=λj T=>by
  unfold aJA at n1;rw[qQ]at n1;have:=n1 j (by simpa using T);refine⟨λg=>?_,λg=>?_⟩;rw[if_pos g]at this;exact this;rw[if_neg Z]at this;simp only[yH,kN]at this;rcases this with e|e;omega;exact e
 obtain⟨S,hS,hg,D,E,hd⟩:=hs;have hlS:y.s.tm.length=S.N:=hl.trans hS.N.symm;have HO:=hS.okS H;obtain⟨hlen,hatr⟩:=wq hrs;have hlen:rs.length=q:=by rw[hlen,qP];omega
 obtain⟨rsA,hA⟩:∃rsA,rsA=rs++List.replicate (ops.size-q) dflt:=⟨_,rfl⟩;rw[<- hA]at n5 n6;have lenA:rsA.length=ops.size:=by rw[hA,qF,wS,hlen];omega
 have Ic:∀(j:Nat) o r,ops[j]?=some o->j<q->rsA[j]?=some r->rs[j]?=some r/\iZ S.P S.G c.K (aDS c.mb o) ops (ie rsA y.s j).nx (ie rsA y.s j).sig o=some r/\iJ r y.s.tm.length=true:=λj o r ho T z=>by
  have hr':rs[j]?=some r:=by rw[hA,vS Z]at z;exact z
  have h2:=hatr j o r (by rw[vX,if_pos T];simpa using ho) hr';rw[HO.P,HO.G]at h2;rw[hA,wc _ _ _ Z];exact⟨hr',h2⟩
 have okA:∀(j:Nat) (r:Rec),rsA[j]?=some r->iJ r y.s.tm.length=true:=λj r z=>by
  have T:j<ops.size:=by rw[<- lenA];exact(qG.1 z).1
  rcases zT j q with g|g;exact(Ic j _ r (yB T) g z).2.2;rw[hA,vJ Z,wY]at z;split at z;cases z;rfl;cases z
 have dstOf:∀{r:Rec}{o:Oper}{nx:Nat}{σ:Sig}{mt:Bool},iZ S.P S.G c.K mt ops nx σ o=some r->iJ r y.s.tm.length=true->∀d,o.dst=some d->d<S.N:=λ{r o nx σ mt} h1 h2 d hd=>by
  unfold iJ at h2;simp only[qC]at h2;have h3:=h2.1;rw[(lC h1).1,hd]at h3;rw[<- hlS];simpa using h3
 rw[<- hS.F,<- hS.P];refine wpIn_region_any HO.m ?_;have hsA:Sim S y.s.sig a {w with drawn:=w.drawn+1}:=Sim.draw ⟨D,E,hd⟩;refine GL (mb:=c.mb) (rs:=rsA) (k:=0) (q:=q) HO.K lenA hlS (λj o r ho z hlv=>?_) okA n5 n6 (λh=>absurd X Z) (λ_ n listed a1 w1 hsz hqf hcnt hanc hdesc hrok hsim=>?_)
  ops.size (Array.replicate ops.size false) a _ (by simp) (wJ (zU _ _) (by simp)) (λi hi=>Z) (λ_=>?_) (λi j hij T hb hl=>?_) ?_
 have T:j<ops.size:=(vV.1 ho).1;have hjq:j<q:=by
  rcases qDb j q with g|g|g;exact g;exact(hlv.2.1 g).elim;have:=(nk j T).2 g;rw[hlv.2.2]at this;cases this
 obtain⟨g0,g1,g2⟩:=Ic j o r ho hjq z;exact⟨g1,dstOf g1 g2,λp hp=>hrn p (xH.2 ⟨r,yA g0,hp⟩)⟩
 ·
  obtain⟨s1,hs1⟩:∃s1,s1=ie rs y.s q:=⟨_,rfl⟩;rw[<- hs1]at n4 hy hcont;have e1:fY (cq rsA) (λi=>listed.getD i false) ops.size y.s.sig=s1.sig:=by
   have e2:fY (cq rsA) (λi=>listed.getD i false) ops.size y.s.sig=fY (cq rsA) Ww ops.size y.s.sig:=HW λi hi=>by
    rcases zT i q with g|g;exact .inl (hanc i ((nk i hi).1 g));exact .inr (by rw[hA,vJ Z,wY,if_pos Z])
   rw[e2,nV okA ops.size (by rw[lenA];exact qM _),hs1];have e3:ie rsA y.s ops.size=ie rs y.s q:=by
    have:∀m,q+m<=ops.size->ie rsA y.s (q+m)=ie rs y.s q:=by
     intro m;induction m with
     |zero=>intro _;rw[hA];exact wc _ _ _ Z
     |succ m ih=>
      intro hm;have z:rsA[q+m]?=some dflt:=by rw[hA,vJ Z,wY,if_pos Z]
      rw[show q+(m+1)=(q+m)+1 by omega,mX _ _ _ _ z,uL];exact ih Z
    have:=this (ops.size-q) Z;rwa [show q+(ops.size-q)=ops.size by omega]at this
   rw[e3]
  rw[e1]at hsim;obtain⟨D1,E1,hd1⟩:=(show Sim _ _ _ _ from hsim);have l1:s1.tm.length=S.N:=by rw[hs1,l9];exact hlS
  unfold wpOpIn;rw[ho];simp only;rw[show Region.wanted o (yielded ops a1.tmps)=true by unfold Region.wanted;rw[hgd]];simp only[kT];rw[hS.F,hS.P];refine Hg (y:=⟨s1,y.k,y.on⟩) H hS hg hd1 (zB.1 n4) hy hx hns hll hon hat hP λb w' _ hgh hnx hb=>?_;have hc2:=hcont b;split at hc2;case h_2=>exact hc2.elim
  rename_i u hrs2;split at hc2;case isFalse=>exact hc2.elim
  rename_i hk2;obtain⟨m1,m2⟩:=hk2;obtain⟨g1,g2⟩:=bR hc2;obtain⟨A,hs2⟩:∃A,A=setSlot o.dst (.dat .bool b) s1:=⟨_,rfl⟩;rw[<- hs2]at hrs2 m1 g2;obtain⟨f,hB⟩:∃f,f=List.replicate (q+1) dflt++u:=⟨_,rfl⟩;rw[<- hB]at m1 m2;obtain⟨S2,hS2⟩:∃S2:Base,S2={S with w0:=w',D0:=D1,O:=λ_=>False}:=⟨_,rfl⟩;have hO2:OkY c N fr S2:=by rw[hS2];exact hnx
  have HO2:=hO2.okS H;have l2:A.tm.length=S2.N:=by rw[hs2,hS2];simp[setSlot];split<;>simp[l1]
  have hd2:aQ S2 A.sig (a1.put o.dst (.bool b)) w' D1 E1:=by
   rw[hs2,hS2];have n3':pI o.dst s1.tm.length=true:=by rw[l1,<- hlS];exact n3
   exact hb.slot (show s1.tm.length=S.N from l1) n3' rfl
  obtain⟨L,hatr2⟩:=wq hrs2;have L:u.length=ops.size-(q+1):=by rw[L,wM];simp
  have lenB:f.length=ops.size:=by rw[hB,qF,wS,L];omega
  have recB:∀(j:Nat) o r,ops[j]?=some o->q<j->f[j]?=some r->u[j-(q+1)]?=some r/\iZ S2.P S2.G c.K (aDS c.mb o) ops (ie f A j).nx (ie f A j).sig o=some r/\iJ r A.tm.length=true:=λj o r ho T z=>by
   have hr':u[j-(q+1)]?=some r:=by rw[hB,vJ (by simp;omega)]at z;simpa using z
   have h2:=hatr2 (j-(q+1)) o r (by rw[vM,show q+1+(j-(q+1))=j by omega];simpa using ho) hr';rw[HO2.P,HO2.G]at h2;have e5:ie f A j=ie u A (j-(q+1)):=by
    have:=HC (q+1) u A (j-(q+1));rw[show q+1+(j-(q+1))=j by omega]at this;rw[hB];exact this
   rw[e5];exact⟨hr',h2⟩
  have okB:∀(j:Nat) (r:Rec),f[j]?=some r->iJ r A.tm.length=true:=λj r z=>by
   have T:j<ops.size:=by rw[<- lenB];exact(qG.1 z).1
   rcases zT q j with g|g;exact(recB j _ r (yB T) g z).2.2;rw[hB,vS (by simp;omega),wY]at z;split at z;cases z;rfl;cases z
  have eset:∀i,(listed.setIfInBounds q true).getD i false=if i=q then true else listed.getD i false:=by
   intro i;simp only[qV,zW];by_cases e:q=i;subst e;simp[hsz,X];rw[if_neg e,if_neg (λh=>e h.symm)]
  have lst:∀i,i<ops.size->(listed.setIfInBounds q true).getD i false=decide (i<=q):=λi hi=>by
   rw[eset];rcases qDb i q with g|g|g;rw[if_neg Z,hanc i ((nk i hi).1 g)];simp;omega;rw[if_pos g];simp;omega;rw[if_neg Z,hdesc i ((nk i hi).2 g) hi];simp;omega
  rw[<- hO2.F,<- hO2.P];refine GL (mb:=c.mb) (rs:=f) (k:=q+1) (q:=ops.size) HO2.K lenB l2 (λj o r ho z hlv=>?_) okB m1 m2 (λ_ a3 w3 h3=>?_) (λh=>absurd h Z)
   n (listed.setIfInBounds q true) _ _ (by simpa using hsz) ?_ (λi hi hil=>?_) (λh=>absurd h Z) (λi j hij T hb hl=>?_) ?_
  obtain⟨q0,q1,q2⟩:=recB j o r ho (by have:=hlv.1;omega) z;refine⟨q1,λd hd=>?_,λp hp=>g1 p (xH.2 ⟨r,yA q0,hp⟩)⟩;unfold iJ at q2;simp only[qC]at q2;have h3:=q2.1;rw[(lC q1).1,hd]at h3;rw[<- l2];simpa using h3;refine hR _ g2 ?_ a3 w3 ⟨S2,hO2,?_,?_⟩;rw[show(Y.mk (ie u A u.length) (y.k+1) b).s=ie u A u.length from rfl,l9];exact l2.trans hO2.N;rw[hS2];exact hgh;have e6:ie f A f.length=ie u A u.length:=by
   have:=HC (q+1) u A u.length;rw[hB,qF,wS];exact this
  rw[e6]at h3;exact h3;have hun:listed.getD q true=false:=by
   have:listed.getD q true=listed.getD q false:=by simp[Array.getD,hsz,X]
   rw[this];exact hqf
  have:=Nq hsz X hun;omega;rw[lst i hil];simp;omega;rw[lst j T]at hl;rw[lst i Z];simp only[qE]at hl ⊢;omega;have e7:fY (cq f) (λi=>(listed.setIfInBounds q true).getD i false) ops.size A.sig=A.sig:=by
   have e8:fY (cq f) (λi=>(listed.setIfInBounds q true).getD i false) ops.size A.sig=fY (cq f) (λ_=>false) ops.size A.sig:=HW λi hi=>by
    rcases zT q i with g|g;refine .inl ?_;rw[lst i hi];simp;omega;exact .inr (by rw[hB,vS (by simp;omega),wY,if_pos Z])
   rw[e8];have:∀n,fY (cq f) (λ_=>false) n A.sig=A.sig:=by
    intro n;induction n with
    |zero=>rfl|succ n ih=>simp only[fY,wG,xW];exact ih
   exact this _
  rw[e7];exact⟨D1,E1,hd2⟩
 rw[qV];simp[X];rw[qV]at hl;simp[T]at hl;have:∀n,fY (cq rsA) (λi=>(Array.replicate ops.size false).getD i false) n y.s.sig=y.s.sig:=by
  intro n;induction n with
  |zero=>rfl|succ n ih=>
   have:(Array.replicate ops.size false).getD n false=false:=by
    rw[qV];cases h:(Array.replicate ops.size false)[n]? with
    |none=>rfl|some v=>rw[yY]at h;split at h<;>cases h;rfl
   simp only[fY,this,wG,xW];exact ih
 rw[this];exact hsA
def uz{rg:Array Oper->Bool->Y->(Y->Prop)->Prop}{F:Fence}{X:Y->Act->World->Prop}{PQ:List PanicEntry->Act->World->Prop}
  (HX:∀y a w,X y a w->∃S,OkS c S/\S.F=F/\S.N=N/\Sim S y.s.sig a w/\∀s' L w',Sim S s'.sig L w'->X ⟨s',y.k,y.on⟩ L w')
  (Hr:∀(id:Nat) (ops:Array Oper) (draw:Bool) (y:Y) (Q:Y->Prop) (R:Exit->Act->World->Prop),rg ops draw y Q->y.s.tm.length=N->(∀r,Q r->r.s.tm.length=N->∀a w,X r a w->R .normal a w)->(∀ch a w,PQ ch a w->R (.panic ch) a w)->∀a w,X y a w->(Code.region id ops draw).wpIn F 0 c.P R a w)
  {A:Ku}:∀(x:Code) (y:Y) (Q:Exit->Y->Prop) (R:Exit->Act->World->Prop),evZ c rg A x y Q->y.s.tm.length=N->
  (∀e r,Q e r->r.s.tm.length=N->∀a w,X r a w->R e a w)->(∀ch a w,PQ ch a w->R (.panic ch) a w)->∀a w,X y a w->x.wpIn F 0 c.P R a w
 |.skip,y,Q,R,h,V,u,hP,a,w,v=>by
  unfold evZ at h;exact wpIn_skip (u _ y h V a w v)
 |.region id ops draw,y,Q,R,h,V,u,hP,a,w,v=>by
  have key:∀y1:Y,y1.s.tm.length=N->X y1 a w->(if A.yr id=true then rg ops draw y1 (Q .normal)else aDP c ops draw y1.s λs'=>Q .normal ⟨s',y1.k,y1.on⟩)->(Code.region id ops draw).wpIn F 0 c.P R a w:=by
   intro y1 hl1 hs1 h1;split at h1;exact Hr id ops draw y1 _ R h1 hl1 (λr hq j L w' f=>u .normal r hq j L w' f) hP a w hs1;obtain⟨S,HO,hF,hN,O,i⟩:=HX _ _ _ hs1;unfold aDP at h1;split at h1;rename_i ns s' he;obtain⟨g1,g2⟩:=bR h1;have:=oF (S:=S) HO.P HO.G HO.K HO.m he g1 (hl1.trans hN.symm) O (id:=id) (Q:=R) (λL w' f=>u .normal ⟨s',y1.k,y1.on⟩ g2 ((Uf he).trans hl1) L w' (i s' L w' f));rw[hF,<- HO.P]at this;exact this;exact h1.elim
  unfold evZ at h;split at h;rename_i s1 _;split at h;rename_i ms hms;obtain⟨g1,g2⟩:=bR h;obtain⟨S,HO,hF,hN,O,i⟩:=HX _ _ _ v;exact key ⟨s1,y.k,y.on⟩ ((oi hms).symm.trans V) (i s1 a w (ND O hms g1)) g2;exact h.elim;exact key y V v h
 |.seq x z,y,Q,R,h,V,u,hP,a,w,v=>by
  unfold evZ at h;refine wpIn_seq (uz HX Hr x y _ (Exit.then (z.wpIn F 0 c.P R) R) h V (λe r hq j L w' f=>?_) (λch a w h1=>hP ch a w h1) a w v);cases e<;>first
   |exact uz HX Hr z r Q R hq j u hP L w' f
   |exact u _ r hq j L w' f
 |.cond t x z,y,Q,R,h,V,u,hP,a,w,v=>by
  unfold evZ at h;split at h;case h_2=>exact h.elim
  rename_i ns b hc;obtain⟨g1,g2,g3⟩:=bR h;obtain⟨S,HO,hF,hN,⟨D,E,hs0⟩,i⟩:=HX _ _ _ v;have T:=fy hs0 t;rw[<- HO.G]at T;have hb:a.eval t=.bool b:=by
   unfold Zy at hc;split at hc;rename_i b' hv;cases hc;rw[hv]at T;simpa only[AV.rel,ag,vH,vW]using T;rename_i g b' hv;cases hc;rw[hv]at T;have hg:g=true:=g1 _ (by simp);simpa only[AV.rel,ag,vH,vW]using T.1 hg;cases hc
  exact wpIn_cond_split hb (λe=>uz HX Hr x y Q R (g2 e) V u hP a w v) (λe=>uz HX Hr z y Q R (g3 e) V u hP a w v)
 |.block id x,y,Q,R,h,V,u,hP,a,w,v=>by
  unfold evZ at h;refine wpIn_block (uz HX Hr x y _ (Exit.inBlock id R) h V (λe r hq j L w' f=>?_) (λch a w h1=>hP ch a w h1) a w v);cases e<;>first
   |exact u _ r hq j L w' f
   |(rename_i id';simp only[Exit.inBlock];simp only at hq;split at hq;rename_i e;rw[if_pos e];exact u _ r hq j L w' f;rename_i e;rw[if_neg e];exact u _ r hq j L w' f)
 |.exit id,y,Q,R,h,V,u,hP,a,w,v=>by unfold evZ at h;exact wpIn_exit (u _ y h V a w v)|.ret,y,Q,R,h,V,u,hP,a,w,v=>by unfold evZ at h;exact wpIn_ret (u _ y h V a w v)|.loop x,y,Q,R,h,V,u,hP,a,w,v=>by
  unfold evZ at h;split at h;case h_2=>exact h.elim
  split at h;case h_2=>exact h.elim
  rename_i sp _;obtain⟨⟨x0,i1,i2⟩,h2⟩:=h;have le:∀{y r:Y}{a:Act}{w:World},leY y r->X y a w->X r a w:=by
   rintro y ⟨s',k',on'⟩ a w ⟨l1,l2,l3⟩ hx;obtain⟨S,_,_,_,O,i⟩:=HX _ _ _ hx;have:=i s' a w (F3 l1 O);rw[l2,l3]at this;exact this
  refine wpIn_loop_ghost (λn a w=>∃z,sp.inv z/\sp.μ z=n/\(sp.st z).s.tm.length=N/\X (sp.st z) a w) (sp.μ x0) ⟨x0,i1,rfl,(yh i2.1).symm.trans V,le i2 v⟩ ?_;rintro n a w ⟨z,j1,rfl,j2,j3⟩;refine uz HX Hr x (sp.st z) _ (Exit.then (λL w'=>∃n',n'<sp.μ z/\∃z,sp.inv z/\sp.μ z=n'/\(sp.st z).s.tm.length=N/\X (sp.st z) L w') R) (h2 z j1) j2 (λe r hq j L w' f=>?_) (λch a w h1=>hP ch a w h1) a w j3;cases e<;>first
   |(obtain⟨z',k1,k2,k3⟩:=hq;exact⟨sp.μ z',k3,z',k1,rfl,(yh k2.1).symm.trans j,le k2 f⟩)
   |exact u _ r hq j L w' f
 |.rangeFunc _ _ _ _,_,_,_,h,_,_,_,_,_,_=>by unfold evZ at h;exact h.elim|.scope _,_,_,_,h,_,_,_,_,_,_=>by unfold evZ at h;exact h.elim|.label _,_,_,_,h,_,_,_,_,_,_=>by unfold evZ at h;exact h.elim|.goto _,_,_,_,h,_,_,_,_,_,_=>by unfold evZ at h;exact h.elim|.refuse _,_,_,_,h,_,_,_,_,_,_=>by unfold evZ at h;exact h.elim
def aAh(H:WU c it l N fr J JX JP){A:Ku}(x:Code)(y:Y)(Q:Exit->Y->Prop)(R:Exit->Act->World->Prop)(h:evY c it l A x y Q)(v:y.s.tm.length=N)
  (G:∀e L,Q e L->L.s.tm.length=N->∀a w,aDx c N fr J JX L a w->R e a w) (T:∀f a w D,a.defers=[]->JP f w D fr.V->Kept fr w->R (.panic f) a w) (a:Act) (w:World) (r:aDx c N fr J JX y a w):x.wpIn (Fr fr.ro) 0 c.P R a w:=by
 refine uz (X:=aDx c N fr J JX) (PQ:=λf a w=>a.defers=[]/\∃D,JP f w D fr.V/\Kept fr w) (λy a w ⟨S,z,hg,g⟩=>⟨S,z.okS H,z.F,z.N,g,λs' a' w' O=>⟨S,z,hg,O⟩⟩)
  (λid ops draw y Q R u v G T a w r=>?_) x y Q R h v G (λf a w ⟨h1,D,h2,h3⟩=>T f a w D h1 h2 h3) a w r
 have j:∀f a w D,a.defers=[]->JP f w D fr.V->Kept fr w->R (.panic f) a w:=λf a w D h1 h2 h3=>T f a w ⟨h1,D,h2,h3⟩;unfold rgY at u;split at u;rename_i b;subst b;exact Zo H G j u v r;rename_i b;have b:draw=false:=by simpa using b
 subst b;refine wpIn_region ?_;have:=EV H (Q:=Q) (R:=R) G j ops.toList 0 y (λi o ho=>by simpa using ho) u v a w r;rw[qBn];simpa using this
end
def sF{c:Cfg}{A:Ku}{f:FuncId}{caps:List AV}{it:jX}(hK:ai c.P c.G c.K)(hI:bh c.P c.G c.KI)(hm:c.P.follows .mixedOrders=true)(h:evI c A f caps it)(hKP:c.KP=λ_ _ _=>none:=by rfl):mU c.P c.G f caps it:=by
 intro hpre l J JX JP w D us hD hG y j1 j2 _ x1 x2 _ _ hyld h0;unfold evI at h;split at h;case h_2=>exact h.elim
 rename_i fn hf;split at h;case h_2=>exact h.elim
 rename_i b hb;obtain⟨hres,hnm,hone,hrng,h⟩:=h;have h:=h l hpre;obtain⟨fr,x⟩:∃fr:FrY,fr={ro:=none,sv:=[],V:=noV,Dv:=noV,W:=w}:=⟨_,rfl⟩;have H:WU c it l ((caps.length+1)+(fn.ntmps-(caps.length+1))) fr J JX JP:=⟨hK,hI,(λf args m r h=>by rw[hKP]at h;cases h),hm,λ_=>hrng,λg=>(by rw[x]at g;exact(g rfl).elim),j1,j2,x1,x2,hyld⟩;have j:caps.length=us.length:=zA3 y;have hargs:zA1 c.P ⟨w,D,noM,noE⟩ (.yld l::caps) (.func (.yield l) #[] #[]::us):=⟨_,_,rfl,rfl,y⟩;have earr:#[Value.func (.yield l) #[] #[]]++us.toArray=(Value.func (.yield l) #[] #[]::us).toArray:=by simp
 rw[earr];obtain⟨S,hS⟩:∃S:Base,S={P:=c.P,w0:=w,D0:=D,N:=(caps.length+1)+(fn.ntmps-(caps.length+1)),O:=λ_=>False,G:=c.G,sv:=[],rd:=none,nod:=true}:=⟨_,rfl⟩;refine callsIn_of_wp_marks hf hb trivial ?_;suffices X:b.wpIn (Fr fr.ro) 0 c.P (bodyPostM Fence.wide 0 c.P fn λe W'=>((∃v,e=.returned v)/\((∃z,J it.L.length W' z noV)\/∃z,JX W' z noV))\/∃ch,e=.panicked ch/\∃z V2,JP ch W' z V2) {tmps:=(Value.func (.yield l) #[] #[]::us).toArray++Array.replicate (fn.ntmps-(Value.func (.yield l) #[] #[]::us).toArray.size) undef,defers:=[]} w by
  rw[x]at X;exact X
 have T:aQ S (tf fn l caps).s.sig {tmps:=(Value.func (.yield l) #[] #[]::us).toArray++Array.replicate (fn.ntmps-(Value.func (.yield l) #[] #[]::us).toArray.size) undef,defers:=[]} w D noE:=by
  rw[hS];refine⟨?_,⟨⟨λ_=>rfl,⟨[],rfl⟩,yZ⟩,λd hd=>(by cases hd)⟩,λt=>?_,λnm b hm=>(by cases hm),λnm b hm=>(by cases hm),λnm nm' b b' hm=>(by cases hm),Chg.refl _ _,hD,λb hb=>hb,λb hb=>.inl hb,
   hG,rfl,fU.nil λk i b g=>(by obtain⟨_,_,_,_,_,_,g1,_⟩:=g;cases g1)⟩
  simp[j];show(((.yld l::caps)++List.replicate (fn.ntmps-(caps.length+1)) (AV.val undef)).getD t .top).rel c.P ⟨w,D,noM,noE⟩ _;rw[qA,qV];by_cases ht:t<(AV.yld l::caps).length;rw[vS ht,kW (by simpa[j]using ht)];obtain⟨u,g1,g2⟩:=zA6 hargs (qB ht);rw[qB ht];simp only[kZ,g1,qK];exact g2;rw[vJ Z,kS (by simp[<- j]at ht ⊢;omega)];rw[wY,yY];split;rename_i h1;rw[if_pos (by simp[<- j]at h1 ⊢;omega)];rfl;trivial
 refine aAh (N:=(caps.length+1)+(fn.ntmps-(caps.length+1))) H b (tf fn l caps) (aGW it) _ h (by simp[tf];omega) (λe y' hq hl a' w' hs'=>?_) (λch a w D hd hj _=>?_) _ w ⟨S,by rw[hS,x];exact⟨rfl,rfl,rfl,λ_ g=>g,rfl,rfl,rfl,rfl,⟨qM _,λ_ g=>g.elim (λg=>g.elim) λg=>g.elim⟩,λ_ g=>g.elim (λg=>g.elim) λg=>g.elim,λ_ g=>g.elim,λ_ g=>g.elim⟩,⟨λ_=>by rw[hS,x];exact h0,λe=>by cases e⟩,D,noE,T⟩;have key:(y'.on=true->y'.k=it.L.length)->LeavesInM Fence.wide 0 c.P fn a'.tmps (λe W'=>((∃v,e=.returned v)/\((∃z,J it.L.length W' z noV)\/∃z,JX W' z noV))\/∃ch,e=.panicked ch/\∃z V2,JP ch W' z V2) a'.defers .returning w':=by
  intro hq;obtain⟨S',hS',hg,D',E',hd⟩:=hs';have hdef:a'.defers=[]:=(hd.df.1.1 hS'.nod).trans hS'.gd;rw[hdef];have hgn:=hg.now hS' H hd;have hr:fn.results=#[]:=by
   apply yU;exact zB.1 hres
  refine⟨.tuple #[],by simp[results,hr],.inl ⟨⟨_,rfl⟩,?_⟩⟩;cases hon:y'.on with
  |true=>exact .inl ⟨D',by have:=hgn.1 hon;rw[x]at this;rw[<- hq hon];exact this⟩|false=>exact .inr ⟨D',by have:=hgn.2 hon;rw[x]at this;exact this⟩
 cases e<;>first
  |exact key hq
  |exact hq.elim
 show LeavesInM _ _ _ _ _ _ _ _ _;rw[hd];exact .inr ⟨ch,rfl,D,_,hj⟩
end Go.Eng
namespace Go.Eng
open Go.RowKit
structure aAF where
 A:Ann
 AY:Ku
 lp:St->Option St
 kf:Nat->Nat
def aIg(c:Cfg)(it:jX)(l:Nat)(A:aAF)(g:Operand)(ps:Array Tmp)(aa b:Code)(s:St):Prop:=match evT c.G s.sig.T g,ps.toList with
 |.fn gf caps,[p]=>match c.KI gf caps with
  |some it2=>if Zc c.P gf&&(zA2 caps).isEmpty&&s.sv.isEmpty&&s.mem.isEmpty&&one1 it2.t&&decide (p<s.tm.length)then
    it2.pre/\A.kf 0=0/\A.kf it2.L.length=it.L.length/\
    (∀j y,nB it2.L j y->ev c A.A aa (wy p it2.t y s) (λe s1=>match e with
     |.normal=>s1.mem.isEmpty=true/\evY c it l A.AY b ⟨s1,A.kf j,true⟩ (λe y2=>match e with
      |.normal=>y2.on=true/\y2.k=A.kf (j+1)|.ret=>y2.on=true->y2.k=it.L.length|_=>False)
     |_=>False))
   else False
  |none=>False
 |_,_=>False
def Yu{P:Program}{C:Ctx}{t:Ty}{x:t.den}{vs:Lv}(h:one1 t=true)(f:zA1 P C (LG t x) vs):∃u,vs=[u]/\ag C.w C.D t x [u]:=by
 cases t with
 |pair a b=>simp[one1,aGT]at h|_=>
  obtain⟨u,us,e,g1,g2⟩:=f;cases g2;exact⟨u,e,g1⟩
def evN(c:Cfg)(it:jX)(l:Nat)(A:aAF):Code->St->Prop
 |.seq a b,s=>ev c A.A a s (λe s'=>match e with|.normal=>evN c it l A b s'|_=>False)
 |.rangeFunc g ps aa b,s=>match A.lp s with
  |some s1=>match WM s s1 with
   |some ms=>all ms (aIg c it l A g ps aa b s1)|none=>False
  |none=>False
 |.block _ x,s=>evN c it l A x s|_,_=>False
def aII(c:Cfg)(A:aAF)(f:FuncId)(caps:List AV)(it:jX):Prop:=match c.P.funcs[f]? with
 |some fn=>match fn.body with
  |some b=>fn.results.toList.isEmpty=true/\(zA2 caps).isEmpty=true/\one1 it.t=true/\c.rng=false/\∀l,it.pre->evN c it l A b (tf fn l caps).s|none=>False
 |none=>False
def Chg.put{V:Nat->Prop}{w:World}{k:Nat}{o:Obj}(h:V k):Chg V w (w.putObj k o)/\(w.putObj k o).heap.size=w.heap.size:=
 ⟨⟨rfl,rfl,rfl,by simp,λq _ b=>World.putObj_heap_other λe=>b (e▸h)⟩,by simp⟩
variable {JX:World->(Nat->Prop)->(Nat->Prop)->Prop}{JP:List PanicEntry->World->(Nat->Prop)->(Nat->Prop)->Prop}{A:aAF}{c:Cfg}{it:jX}{J:Nat->World->(Nat->Prop)->(Nat->Prop)->Prop}
def aCm{l:Nat}
  (H:∀(N:Nat) (fr:FrY),(fr.ro≠none->N<=fr.sv.length)->WU c it l N fr J JX JP) (hKI:bh c.P c.G c.KI)
  (j3:∀k w1 w2 D1 V,J k w1 D1 V->Chg V w1 w2->w2.heap.size=w1.heap.size->J k w2 D1 V) (x3:∀w1 w2 D1 V,JX w1 D1 V->Chg V w1 w2->w2.heap.size=w1.heap.size->JX w2 D1 V)
  (p3:∀ch w1 w2 D1 V,JP ch w1 D1 V->Chg V w1 w2->w2.heap.size=w1.heap.size->JP ch w2 D1 V)
  {fn:Func} (hres:fn.results=#[]) {S:Base} (HO:OkS c S) (hSO:∀b,¬S.O b) (hSs:S.sv=[]) (hSr:S.rd=none) (hSg:S.gd=[]) (hSn:S.nod=true) {g:Operand}{ps:Array Tmp}{aa b:Code}{s:St} (h:aIg c it l A g ps aa b s) (hl:s.tm.length=S.N)
  {a:Act}{w:World}{D:Nat->Prop}{E:Nat->Ent} (hd:aQ S s.sig a w D E) (hJ0:J 0 S.w0 S.D0 noV):
  At c.P none (.rangeFunc g ps aa b) (bodyPostM Fence.wide 0 c.P fn λe W'=>((∃v,e=.returned v)/\((∃D2,J it.L.length W' D2 noV)\/∃D2,JX W' D2 noV))\/∃ch,e=.panicked ch/\∃D2 z,JP ch W' D2 z) a w:=by
 have H0:=H S.N {ro:=none,sv:=[],V:=noV,Dv:=noV,W:=w} (λe=>(e rfl).elim);have hP:S.P=c.P:=HO.P.symm;unfold aIg at h;split at h;case h_2=>exact h.elim
 rename_i gf caps p hev hps;split at h;case h_2=>exact h.elim
 rename_i it2 hki;split at h;case isFalse=>exact h.elim
 rename_i hc;obtain⟨hpre,hk0,hkn,hround⟩:=h;simp only[qC,qE,zB]at hc;obtain⟨⟨⟨⟨⟨hgoes,hnm⟩,hsv⟩,hmem⟩,hone⟩,hp⟩:=hc;simp only[Zc,qC,qE]at hgoes;obtain⟨hgoes,hgf⟩:=hgoes;have hone1:=hone;have hdef:a.defers=[]:=(hd.df.1.1 hSn).trans hSg;have em:s.sig.m=λ_=>none:=by
  funext k;show s.mem.lookup k=none;rw[hmem];rfl
 have noAll:∀(E:Nat->Ent) b,¬aJ s.sig.m E b:=λE b g=>by
  rw[em]at g;rcases g with⟨_,_,g,_⟩|⟨nm,i,g⟩;cases g;exact mf g
 have hgv:=fy hd g;rw[<- HO.G,hev]at hgv;obtain⟨cs,hga,hcaps⟩:=hgv;rw[hP]at hcaps;refine at_range λfn2 hfn2=>?_;obtain⟨x,hl2⟩:∃x,x=w.heap.size+1:=⟨_,rfl⟩;obtain⟨rec,hrec⟩:∃rec:LoopState->Option Code->Loop,rec=λst pe=>{state:=st,pending:=pe,fn:=fn2,tmps:=a.tmps,params:=ps,assign:=aa,body:=b,defers:=w.heap.size}:=⟨_,rfl⟩;obtain⟨W1,hW1⟩:∃W1,(w.alloc (.deferred (some []))).alloc (.loop (rec .ready none))=W1:=⟨_,rfl⟩;have hsz1:W1.heap.size=w.heap.size+2:=by rw[<- hW1];simp
 have hL1:W1.heap[x]?=some (.loop (rec .ready none)):=by
  rw[<- hW1,hl2];have:=World.alloc_heap_new (w.alloc (.deferred (some []))) (.loop (rec .ready none));rwa [yG]at this
 have hK1:W1.heap[w.heap.size]?=some (.deferred (some [])):=by
  rw[<- hW1];exact(Below.heap_alloc _ _ _ (by simp)).trans (World.alloc_heap_new w _)
 have hb1:Below w.heap.size w W1:=by
  rw[<- hW1];exact((Below.refl _ w).alloc (qM _) _).alloc (by simp) _
 refine⟨x,[{target:=.collected w.heap.size,args:=#[]}],W1,{target:=.fn (.func gf) cs.toArray,args:=#[.func (.yield x) #[] #[]]},W1,gf,
  #[.func (.yield x) #[] #[]]++cs.toArray,W1,?_,?_,?_,?_⟩
 rw[<- hW1,hrec,hl2];exact run_enterLoop_outer _ _ _ _ _;simp only[resolve,hga];simp[go_sem];have:=lQ (P:=c.P) hgoes W1 (#[.func (.yield x) #[] #[]]++cs.toArray);simp only[invoke];exact this;have hsz0:a.tmps.size=S.N:=hd.sz;have act0:a={tmps:=a.tmps,defers:=[]}:=by cases a;simp only at hdef;rw[hdef]
 rw[act0]at hd;have grow:∀{S:Base}{a:Act}{W W2:World}{σ:Sig}{D:Nat->Prop}{E:Nat->Ent},aQ S σ a W D E->Below W.heap.size W W2->∀X:Nat->Prop,aQ S σ a W2 (λb=>D b\/(iV W W2 b/\¬X b)) E:=λ{S a W W2 σ D E} h hb X=>
  h.world (D':=λb=>D b\/(iV W W2 b/\¬X b)) hb (λb=>⟨λg=>g.imp id λg=>⟨g.1,.inr g⟩,λg=>g.elim .inl (·.2)⟩) λb g=>by
   rcases g with g|g;exact qZ (h.dlt b g) hb.size;exact g.1.2
 obtain⟨PV,hPV⟩:∃PV:(Nat->Prop)->Nat->Prop,PV=λz b=>b=w.heap.size\/b=x\/z b:=⟨_,rfl⟩;obtain⟨Fm,hFm⟩:∃Fm:World->(Nat->Prop)->(Nat->Prop)->(Nat->Prop)->Prop,Fm=λW D r z=>(∀b,r b->D b)/\W.heap[w.heap.size]?=some (.deferred (some []))/\(∀b,z b->x<b/\b<W.heap.size)/\(∀b,PV z b->¬D b)/\x<W.heap.size:=⟨_,rfl⟩;obtain⟨J2,hJ2⟩:∃J2:Nat->World->(Nat->Prop)->(Nat->Prop)->Prop,J2=λj W r z=>∃(w0:World) (D0 D:Nat->Prop) (E:Nat->Ent),aQ {S with w0:=w0,D0:=D0,O:=noV} s.sig {tmps:=a.tmps,defers:=[]} W D E/\Fm W D r z/\
   W.heap[x]?=some (.loop (rec .ready none))/\J (A.kf j) W D (PV z):=⟨_,rfl⟩
 obtain⟨JX2,hJX2⟩:∃JX2:World->(Nat->Prop)->(Nat->Prop)->Prop,JX2=λW r z=>∃(D:Nat->Prop),(∀b,D b->b<W.heap.size)/\Fm W D r z/\
   W.heap[x]?=some (.loop (rec .done (some .ret)))/\(J it.L.length W D (PV z)\/JX W D (PV z)):=⟨_,rfl⟩
 obtain⟨JP2,hJP2⟩:∃JP2:List PanicEntry->World->(Nat->Prop)->(Nat->Prop)->Prop,JP2=λch W _ z=>W.heap[w.heap.size]?=some (.deferred (some []))/\w.heap.size<W.heap.size/\(∀b,z b->x<b)/\∃D0 V0,JP ch W D0 V0/\V0 w.heap.size/\∀b,z b->V0 b:=⟨_,rfl⟩;have anew:∀{S2:Base}{W W2:World}{D:Nat->Prop}{E:Nat->Ent},S2.P=S.P->S2.G=S.G->S2.N=S.N->S2.sv=[]->S2.rd=none->S2.nod=true->S2.gd=[]->aQ S2 s.sig {tmps:=a.tmps,defers:=[]} W D E->W.heap.size<=W2.heap.size->(∀b,D b->W2.heap[b]?=W.heap[b]?)->
   aQ {S with w0:=W2,D0:=D,O:=noV} s.sig {tmps:=a.tmps,defers:=[]} W2 D E:=λ{S2 W W2 D E} e1 e2 e3 e4 e5 e6 e7 hh hs hk=>by
  have:=hh.behindYield hmem hs hk e6 e7;have e:({S2 with w0:=W2,D0:=D,O:=λ_=>False}:Base)={S with w0:=W2,D0:=D,O:=noV}:=by
   cases S2;cases S;simp only at e1 e2 e3 e4 e5 e6 e7 hSs hSr hSn hSg;subst e1 e2 e3 e4 e5 e6 e7 hSs hSr hSn hSg;rfl
  rw[<- e];exact this
 have incl:∀{z V3:Nat->Prop},(∀b,z b->V3 b)->∀b,PV z b->PV V3 b:=λ{z V3} h b g=>by
  rw[hPV]at g ⊢;rcases g with g|g|g;exact .inl g;exact .inr (.inl g);exact .inr (.inr (h b g))
 have pvx:∀{W W2:World}{z X:Nat->Prop}{b:Nat},PV (λb=>z b\/(iV W W2 b/\X b)) b->PV z b\/(iV W W2 b/\X b):=λ{W W2 z X b} g=>by
  rw[hPV]at g ⊢;rcases g with g|g|g|g;exact .inl (.inl g);exact .inl (.inr (.inl g));exact .inl (.inr (.inr g));exact .inr g
 have fmBelow:∀{W W2:World}{D r z:Nat->Prop},Fm W D r z->(∀b,D b->b<W.heap.size)->Below W.heap.size W W2->∀X:Nat->Prop,Fm W2 (λb=>D b\/(iV W W2 b/\¬X b)) (λb=>r b\/(iV W W2 b/\¬X b)) (λb=>z b\/(iV W W2 b/\X b)):=λ{W W2 D r z} hf hlt hb X=>by
  rw[hFm]at hf ⊢;obtain⟨f1,f2,f3,f4,f5⟩:=hf;refine⟨λb g=>g.imp (f1 b) id,(hb.block _ Z).trans f2,λb g=>?_,λb g g2=>?_,qZ f5 hb.size⟩;rcases g with g|g;exact⟨(f3 b g).1,qZ (f3 b g).2 hb.size⟩;exact⟨qZ f5 g.1.1,g.1.2⟩;rcases pvx g with g|g;rcases g2 with g2|g2;exact f4 b g g2;have h1:=g2.1.1;rw[hPV]at g;rcases g with g|g|g;omega;omega;have:=(f3 b g).2;omega;rcases g2 with g2|g2;have:=hlt b g2;have:=g.1.1;omega;exact g2.2 g.2
 have fmSub:∀{W:World}{D r Dit2 z V3:Nat->Prop},Fm W D r z->(∀b,Dit2 b->r b)->(∀b,V3 b->z b)->Fm W D Dit2 V3:=λ{W D r Dit2 z V3} hf h1 h2=>by
  rw[hFm]at hf ⊢;obtain⟨f1,f2,f3,f4,f5⟩:=hf;exact⟨λb g=>f1 b (h1 b g),f2,λb g=>f3 b (h2 b g),λb g=>f4 b (incl h2 b g),f5⟩
 have fmChg:∀{W W2:World}{D r z:Nat->Prop},Fm W D r z->Chg z W W2->W2.heap.size=W.heap.size->Fm W2 D r z/\W2.heap[x]?=W.heap[x]?:=λ{W W2 D r z} hf hc hs=>by
  rw[hFm]at hf ⊢;obtain⟨f1,f2,f3,f4,f5⟩:=hf;exact⟨⟨f1,(hc.block _ Z λg=>(by have:=(f3 _ g).1;omega)).trans f2,λb g=>by rw[hs];exact f3 b g,f4,by rw[hs];exact f5⟩,hc.block _ f5 λg=>(by have:=(f3 _ g).1;omega)⟩
 have chgPV:∀{W W2:World}{z:Nat->Prop},Chg z W W2->Chg (PV z) W W2:=λ{W W2 z} hc=>⟨hc.os,hc.tape,hc.output,hc.size,λk hk hn=>hc.block k hk λg=>hn (by rw[hPV];exact .inr (.inr g))⟩;have pvF:∀b,PV noV b->b=w.heap.size\/b=x:=λb g=>by
  rw[hPV]at g;rcases g with g|g|g;exact .inl g;exact .inr g;exact g.elim
 have hlow:Below S.w0.heap.size S.w0 W1:=by
  have h1:Below S.w0.heap.size S.w0 w:=⟨hd.low.os,hd.low.tape,hd.low.output,hd.low.size,λk hk=>hd.low.block k hk (hSO k)⟩;exact⟨hb1.os.trans h1.os,hb1.tape.trans h1.tape,hb1.output.trans h1.output,wJ h1.size hb1.size,λk hk=>(hb1.block k (qZ hk h1.size)).trans (h1.block k hk)⟩
 have hbase:S.w0.heap.size<=w.heap.size:=hd.low.size;have hJ1:J 0 W1 D (PV noV):=by
  refine H0.j2 _ _ _ _ _ _ (H0.j1 _ _ _ _ _ hJ0 hlow (PV noV)) (λb hb=>?_) (λb hb=>.inr ⟨?_,hb⟩);rcases hd.dhi b hb with g|g|g;exact .inl g;have:=hd.dlt b hb;refine .inr ⟨⟨g,Z⟩,λg2=>?_⟩;rcases pvF b g2 with g2|g2<;>omega;exact(hSO b g).elim;rcases pvF b hb with g|g;exact⟨Z,Z⟩;exact⟨Z,Z⟩
 have hd1:aQ {S with w0:=W1,D0:=D,O:=noV} s.sig {tmps:=a.tmps,defers:=[]} W1 D E:=anew rfl rfl rfl hSs hSr hSn hSg hd Z λb hb=>hb1.block b (hd.dlt b hb);have hcaps1:zA1 c.P ⟨W1,D,noM,noE⟩ caps cs:=
  zA4 (C:=⟨w,D,s.sig.m,E⟩) (C':=⟨W1,D,noM,noE⟩) ⟨λb g=>g,λb g=>hb1.block b (hd.dlt b g)⟩ (λk hk=>by rw[hnm]at hk;cases hk) hcaps
 have hG1:me c.P ⟨W1,D,noM,noE⟩ c.G:=by
  have:=me.mono (C:=⟨w,D,s.sig.m,E⟩) (C':=⟨W1,D,noM,noE⟩) ⟨λb g=>g,λb g=>hb1.block b (hd.dlt b g)⟩ hd.gl;rw[hP,<- HO.G]at this;exact this
 refine(hKI.at hgf hki hpre x J2 JX2 JP2 W1 D cs (λb g=>?_) hG1 hcaps1 ?_ ?_ ?_ ?_ ?_ ?_ ?_ ?_ ?_).mono ?_;have:=hd.dlt b g;omega;subst hJ2;rintro k W W2 r V ⟨w0,D0,D',E',q1,q2,q3,q5⟩ hb X;have hlt:x<W.heap.size:=(vV.1 q3).1;refine⟨w0,D0,_,E',grow q1 hb X,fmBelow q2 q1.dlt hb X,(hb.block _ hlt).trans q3,?_⟩;exact H0.j2 _ _ _ _ _ _ (H0.j1 _ _ _ _ _ q5 hb X) (λb g=>g) λb g=>pvx g;subst hJ2;rintro k W r Dit2 V z ⟨w0,D0,D',E',q1,q2,q3,q5⟩ hsub hsubV;exact⟨w0,D0,D',E',q1,fmSub q2 hsub hsubV,q3,H0.j2 _ _ _ _ _ _ q5 (λ_ g=>g) (incl hsubV)⟩;subst hJ2;rintro k W W2 r V ⟨w0,D0,D',E',q1,q2,q3,q5⟩ hc hsz;obtain⟨r1,r2⟩:=fmChg q2 hc hsz;have q2':=q2;rw[hFm]at q2';refine⟨W2,D',D',E',anew (S2:={S with w0:=w0,D0:=D0,O:=noV}) rfl rfl rfl hSs hSr hSn hSg q1 Z λb hb=>hc.block b (q1.dlt b hb) λg=>q2'.2.2.2.1 b (by rw[hPV];exact .inr (.inr g)) hb,r1,r2.trans q3,j3 _ _ _ _ _ q5 (chgPV hc) hsz⟩;subst hJX2;rintro W W2 r V ⟨D',q1,q2,q3,q4⟩ hb X;have hlt:x<W.heap.size:=(vV.1 q3).1;refine⟨_,λb g=>?_,fmBelow q2 q1 hb X,(hb.block _ hlt).trans q3,?_⟩;rcases g with g|g;exact qZ (q1 b g) hb.size;exact g.1.2;rcases q4 with q4|q4;exact .inl (H0.j2 _ _ _ _ _ _ (H0.j1 _ _ _ _ _ q4 hb X) (λb g=>g) λb g=>pvx g);exact .inr (H0.x2 _ _ _ _ _ (H0.x1 _ _ _ _ q4 hb X) (λb g=>g) λb g=>pvx g);subst hJX2;rintro W r Dit2 V z ⟨D',q1,q2,q3,q4⟩ hsub hsubV;exact⟨D',q1,fmSub q2 hsub hsubV,q3,q4.imp (λq=>H0.j2 _ _ _ _ _ _ q (λ_ g=>g) (incl hsubV)) λq=>H0.x2 _ _ _ _ _ q (λ_ g=>g) (incl hsubV)⟩
 subst hJX2;rintro W W2 r V ⟨D',q1,q2,q3,q4⟩ hc hsz;obtain⟨r1,r2⟩:=fmChg q2 hc hsz;exact⟨D',λb g=>by rw[hsz];exact q1 b g,r1,r2.trans q3,q4.imp (λq=>j3 _ _ _ _ _ q (chgPV hc) hsz) λq=>x3 _ _ _ _ q (chgPV hc) hsz⟩;subst hJP2;rintro ch W W2 r V ⟨q1,q2,q3,D0,V0,q4,q5,q6⟩ hc hsz;refine⟨(hc.block _ q2 λg=>(by have:=q3 _ g;omega)).trans q1,by rw[hsz];exact q2,q3,D0,V0,p3 _ _ _ _ _ q4 ⟨hc.os,hc.tape,hc.output,hc.size,λk hk hn=>hc.block k hk λg=>hn (q6 k g)⟩ hsz,q5,q6⟩
 ·
  intro k y W r V vs hy hj hltd hu0;obtain⟨u,rfl,hu⟩:=Yu hone1 hu0;rw[hJ2]at hj;obtain⟨w0,D0,D',E',q1,q2,q3,q5⟩:=hj;have q2':=q2;rw[hFm]at q2';obtain⟨f1,f2,f3,f4,f5⟩:=q2';have hpsz:ps.size=1:=by have:=yS List.length hps;simpa using this
  have hyl:=run_yield (P:=c.P) (args:=#[u]) q3 (by rw[hrec];simp[hpsz]);rw[hrec]at hyl;have htm:(ps.zip #[u]).foldl (λt (p,v)=>t.setIfInBounds p v) a.tmps=a.tmps.setIfInBounds p u:=by
   have e:ps=#[p]:=by apply yU;exact hps
   rw[e];simp
  refine⟨fn2,_,aa,b,hyl,?_⟩;rw[htm];refine NK hfn2 ?_;have hpN:p<S.N:=by rw[<- hl];exact hp
  have tms:∀t,((wy p it2.t y s).sig.T t).rel S.P ⟨W,D',s.sig.m,E'⟩ ((a.tmps.setIfInBounds p u).getD t undef):=by
   intro t;show((s.tm.set p (.dat it2.t y)).getD t .top).rel S.P _ _;by_cases e:t=p;subst e;have h1:(s.tm.set t (.dat it2.t y)).getD t .top=.dat it2.t y:=by
    rw[qA,qCd (by rw[hl];exact hpN)];rfl
   have h2:(a.tmps.setIfInBounds t u).getD t undef=u:=by simp[Array.getD,hsz0,hpN]
   rw[h1,h2];exact ax f1 (λ_ _=>rfl) hu;have h1:(s.tm.set p (.dat it2.t y)).getD t .top=s.tm.getD t .top:=by
    simp only[qA];rw[qBr (λh=>e h.symm)]
   have h2:(a.tmps.setIfInBounds p u).getD t undef=a.tmps.getD t undef:=by
    simp only[qV,zW];rw[if_neg (λh=>e h.symm)]
   rw[h1,h2];exact q1.tm t
  have svs:zA1 S.P ⟨W,D',s.sig.m,E'⟩ s.tm a.tmps.toList:=by
   refine zB3 (by rw[hl,vU,hsz0]) λi av v hi hv=>?_;have:=q1.tm i;have e1:s.sig.T i=av:=by show s.tm.getD i .top=av;rw[qA,hi];rfl
   have e2:a.tmps.getD i undef=v:=by
    rw[qV];simp only[yP]at hv;rw[hv];rfl
   rw[e1]at this;simpa only[e2]using this
  have hent:=q1.enter x (tm:=(wy p it2.t y s).sig.T) (tmps:=a.tmps.setIfInBounds p u) (by simpa using hsz0) tms svs;obtain⟨Sr,f⟩:∃Sr:Base,Sr={P:=S.P,w0:=W,D0:=D',N:=S.N,O:=aJ s.sig.m E',G:=S.G,sv:=a.tmps.toList,rd:=some x,nod:=true}:=⟨_,rfl⟩;have hent:aQ Sr (wy p it2.t y s).sig {tmps:=a.tmps.setIfInBounds p u,defers:=[]} W D' E':=by rw[f];exact hent
  have hSrO:∀b,¬Sr.O b:=λb g=>by rw[f]at g;exact noAll _ _ g
  have hNpos:S.N<=a.tmps.toList.length:=by rw[vU,hsz0];omega
  have HOr:OkS c Sr:=by
   subst f;exact⟨HO.P,HO.G,HO.K,HO.I,HO.m,λ_=>hNpos,λh=>(by cases h),HO.KP⟩
  have hlr:(wy p it2.t y s).tm.length=Sr.N:=by
   subst f;show(s.tm.set p (.dat it2.t y)).length=S.N;rw[yJ];exact hl
  have hrr:Sr.rd=some x:=by rw[f]
  have hPr:Sr.P=c.P:=by rw[f];exact hP
  rw[<- hrr,<- hPr];refine mB aa Sr _ _ _ HOr (hround k y hy) hlr (λe s1 hq hl1 a1 w1 hs1=>?_) _ W ⟨D',E',hent⟩;cases e<;>first
   |exact hq.elim
   |skip
  obtain⟨hm1,hq⟩:=hq;have hm1:s1.mem=[]:=zB.1 hm1;obtain⟨D3,E3,h3⟩:=hs1;have noAll1:∀b,¬aJ s1.sig.m E3 b:=λb g=>by
   have em1:s1.sig.m=λ_=>none:=by
    funext k;show s1.mem.lookup k=none;rw[hm1];rfl
   rw[em1]at g;rcases g with⟨_,_,g,_⟩|⟨nm,i,g⟩;cases g;exact mf g
  have same1:∀b,b<W.heap.size->w1.heap[b]?=W.heap[b]?:=λb hb=>by
   have:=h3.low.block b (by rw[f];exact hb) (hSrO b);rw[this,f]
  have szW1:W.heap.size<=w1.heap.size:=by have:=h3.low.size;rw[f]at this;exact this
  have bel1:Below W.heap.size W w1:=⟨by have:=h3.low.os;rw[f]at this;exact this,by have:=h3.low.tape;rw[f]at this;exact this,by have:=h3.low.output;rw[f]at this;exact this,szW1,same1⟩;have hdhi:∀b,D3 b->D' b\/W.heap.size<=b:=λb hb=>by
   have:=h3.dhi b hb;rw[f]at this;rcases this with g|g|g;exact .inl g;exact .inr g;exact(noAll _ _ g).elim
  have hl3:w1.heap[x]?=some (.loop (rec .ready none)):=(same1 _ f5).trans q3;have hlt3:x<w1.heap.size:=qZ f5 szW1;have hdef3:a1.defers=[]:=(h3.df.1.1 (by rw[f])).trans (by rw[f]);have hbr:=run_beginRound (P:=c.P) hl3 (by rw[hrec]);rw[hPr];refine⟨_,hbr,?_⟩;have pvLt:∀b,PV V b->b<W.heap.size:=λb g=>by
   rw[hPV]at g;rcases g with g|g|g;omega;omega;exact(f3 b g).2
  have pvl2:PV V x:=by rw[hPV];exact .inr (.inl rfl)
  have pvmk:PV V w.heap.size:=by rw[hPV];exact .inl rfl
  have nl3:¬D3 x:=λg=>by
   rcases hdhi _ g with g|g;exact f4 _ pvl2 g;omega
  have h4:=h3.again (.loop {rec .ready none with state:=.busy}) (by rw[f]) hdef3 nl3 (noAll1 _);obtain⟨Wb,hWb⟩:∃Wb,Wb=w1.putObj x (.loop {rec .ready none with state:=.busy}):=⟨_,rfl⟩;obtain⟨Sq,hSq⟩:∃Sq:Base,Sq={Sr with w0:=Wb,D0:=D3,O:=aJ s1.sig.m E3}:=⟨_,rfl⟩;rw[show({rec .ready none with state:=.busy}:Loop)={rec .ready none with state:=.busy} from rfl,<- hWb]at h4;rw[<- hSq]at h4;rw[<- hWb];have szb:Wb.heap.size=w1.heap.size:=by rw[hWb];simp
  obtain⟨fr,hfr⟩:∃fr:FrY,fr={ro:=some x,sv:=a.tmps.toList,V:=PV V,Dv:=D',W:=Wb}:=⟨_,rfl⟩;have HF:=H S.N fr (λ_=>by rw[hfr];exact hNpos);have hOkq:OkY c S.N fr Sq:=by
   refine⟨by rw[hSq,f];exact hP,by rw[hSq,f];exact HO.G.symm,by rw[hSq,f],λb g=>by rw[hSq]at g;exact noAll1 _ g,by rw[hSq,f,hfr],by rw[hSq,f,hfr],by rw[hSq,f],by rw[hSq,f],?_,λb hb=>?_,λb hb=>?_,λb hb g=>?_⟩;rw[hfr,hSq];exact⟨qM _,λ_ _=>rfl⟩;rw[hfr]at hb;rw[hSq];show b<Wb.heap.size;rw[szb];rcases hb with g|g;exact qZ (q1.dlt b g) szW1;exact qZ (pvLt b g) szW1;rw[hfr]at hb;rw[hSq];exact h3.dlo b (by rw[f];exact hb);rw[hfr]at hb;rw[hSq]at g;rcases hdhi b g with g|g;exact f4 b hb g;have:=pvLt b hb;omega
  have hgq:Na fr J JX ⟨s1,A.kf k,true⟩ Sq.w0 Sq.D0:=by
   refine⟨λ_=>?_,λe=>by cases e⟩;rw[hfr,hSq];obtain⟨c1,c2⟩:=Chg.put (V:=PV V) (w:=w1) (o:=.loop {rec .ready none with state:=.busy}) pvl2;rw[<- hWb]at c1 c2;refine j3 _ _ _ _ _ (H0.j2 _ _ _ _ _ _ (H0.j1 _ _ _ _ _ q5 bel1 noV) (λb hb=>?_) λb hb=>.inl hb) c1 c2;rcases hdhi b hb with g|g;exact .inl g;exact .inr ⟨⟨g,h3.dlt b hb⟩,id⟩
  have notl:∀b,D' b->b≠x:=λb hb e=>f4 x pvl2 (by rw[<- e];exact hb);have keptW:∀{w2:World},Kept fr w2->(W.heap.size<=w2.heap.size)/\(∀b,r b\/V b->w2.heap[b]?=W.heap[b]?)/\w2.heap[x]?=some (.loop {rec .ready none with state:=.busy})/\w2.heap[w.heap.size]?=some (.deferred (some []))/\x<w2.heap.size/\∀b,D' b->w2.heap[b]?=W.heap[b]?:=by
   intro w2 hk;rw[hfr]at hk;obtain⟨k1,k2⟩:=hk;have k1:Wb.heap.size<=w2.heap.size:=k1;have k2:∀b,D' b\/PV V b->w2.heap[b]?=Wb.heap[b]?:=k2;have wb:∀b,b≠x->b<W.heap.size->Wb.heap[b]?=W.heap[b]?:=λb h1 h2=>by
    rw[hWb,World.putObj_heap_other h1];exact same1 b h2
   have hD:∀b,D' b->w2.heap[b]?=W.heap[b]?:=λb hb=>(k2 b (.inl hb)).trans (wb b (notl b hb) (q1.dlt b hb));refine⟨Z,λb hb=>?_,?_,?_,Z,hD⟩;rcases hb with hb|hb;exact hD b (f1 b hb);exact(k2 b (.inr (by rw[hPV];exact .inr (.inr hb)))).trans (wb b (λe=>by have:=(f3 b hb).1;omega) (f3 b hb).2);rw[k2 x (.inr pvl2),hWb];exact World.putObj_heap_same hlt3;exact((k2 _ (.inr pvmk)).trans (wb _ Z Z)).trans f2
  have fin:∀{w2:World} (jump:Option Code),Kept fr w2->(Instr.endRound x jump).run c.P w2=.ok (.bool jump.isNone) (w2.putObj x (.loop (rec (if jump.isNone then .ready else .done) jump))):=λ{w2} jump hk=>by
   have:=run_endRound (P:=c.P) jump (keptW hk).2.2.1;rw[hrec]at this ⊢;exact this
  have after:∀{w2:World} (o:Obj),Kept fr w2->W.heap.size<=(w2.putObj x o).heap.size/\(∀b,r b\/V b->(w2.putObj x o).heap[b]?=W.heap[b]?)/\Fm (w2.putObj x o) D' r V/\(w2.putObj x o).heap[x]?=some o/\∀b,D' b->(w2.putObj x o).heap[b]?=W.heap[b]?:=λ{w2} o hk=>by
   obtain⟨k1,k2,k3,k4,k5,k6⟩:=keptW hk;have hD:∀b,D' b->(w2.putObj x o).heap[b]?=W.heap[b]?:=λb hb=>by rw[World.putObj_heap_other (notl b hb)];exact k6 b hb
   refine⟨by simpa using k1,λb hb=>?_,?_,World.putObj_heap_same k5,hD⟩;rcases hb with g|g;exact hD b (f1 b g);rw[World.putObj_heap_other (λe=>by have:=(f3 b g).1;omega)];exact k2 b (.inr g);rw[hFm];exact⟨f1,by rw[World.putObj_heap_other Z];exact k4,λb g=>⟨(f3 b g).1,by have:=(f3 b g).2;simp;omega⟩,f4,by simpa using k5⟩
  have hsimq:Sim Sq s1.sig a1 Wb:=⟨D3,E3,h4⟩;have hlq:s1.tm.length=S.N:=by rw[hl1,f]
  have hbody:=aAh (N:=S.N) HF b ⟨s1,A.kf k,true⟩ _ (oB c.P x λe W'=>W.heap.size<=W'.heap.size/\(∀b,r b\/V b->W'.heap[b]?=W.heap[b]?)/\((e=.returned (.bool true)/\J2 (k+1) W' r V)\/(e=.returned (.bool false)/\JX2 W' r V)\/∃ch,e=.panicked ch/\JP2 ch W' r V)) hq hlq (λe y2 hq2 hl2' a2 w2 hs2=>?_) (λch a2 w2 D2 hdf hj hk=>?_) a1 Wb ⟨Sq,hOkq,hgq,hsimq⟩;have e1:fr.ro=some x:=by rw[hfr]
  rw[e1]at hbody;exact Wi (F:=Fr (some x)) (by rw[hrr];exact Z7 _) (aDH _) (P0 _) hbody
  .obtain⟨S5,ho5,hg5,D5,E5,h5⟩:=hs2;have hnow:=hg5.now ho5 HF h5;obtain⟨o1,o2,o3,o4⟩:=ho5.now h5;have hk:Kept fr w2:=⟨o4,λb hb=>(o1 b hb).2⟩;have sub5:∀b,D' b->D5 b:=λb hb=>o2 b (by rw[hfr];exact hb);have eV:fr.V=PV V:=by rw[hfr]
   cases e with
   |normal=>
    obtain⟨n1,n2⟩:=hq2;obtain⟨r1,r2,r3,r4,r5⟩:=after (.loop (rec .ready none)) hk;have hJ:=hnow.1 n1;rw[n2,eV]at hJ;obtain⟨c1,c2⟩:=Chg.put (V:=PV V) (w:=w2) (o:=.loop (rec .ready none)) pvl2;refine⟨_,_,fin none hk,r1,r2,.inl ⟨rfl,?_⟩⟩;rw[hJ2];exact⟨_,D',D',E',anew (S2:={S with w0:=w0,D0:=D0,O:=noV}) rfl rfl rfl hSs hSr hSn hSg q1 r1 r5,r3,r4,j3 _ _ _ _ _ (H0.j2 _ _ _ _ _ _ hJ sub5 λ_ g=>g) c1 c2⟩
   |ret=>
    obtain⟨r1,r2,r3,r4,r5⟩:=after (.loop (rec .done (some .ret))) hk;obtain⟨c1,c2⟩:=Chg.put (V:=PV V) (w:=w2) (o:=.loop (rec .done (some .ret))) pvl2;refine⟨_,_,fin (some .ret) hk,r1,r2,.inr (.inl ⟨rfl,?_⟩)⟩;rw[hJX2];refine⟨D',λb hb=>qZ (q1.dlt b hb) r1,r3,r4,?_⟩;cases hon:y2.on with
    |true=>
     have hJ:=hnow.1 hon;rw[hq2 hon,eV]at hJ;exact .inl (j3 _ _ _ _ _ (H0.j2 _ _ _ _ _ _ hJ sub5 λ_ g=>g) c1 c2)
    |false=>
     have hJ:=hnow.2 hon;rw[eV]at hJ;exact .inr (x3 _ _ _ _ (H0.x2 _ _ _ _ _ hJ sub5 λ_ g=>g) c1 c2)
   |exit i=>exact hq2.elim|goto t=>exact hq2.elim|panic ch=>exact hq2.elim|outgrown=>exact hq2.elim
  obtain⟨k1,k2,k3,k4,k5,k6⟩:=keptW hk;refine⟨hdf,k1,k2,.inr (.inr ⟨ch,rfl,?_⟩)⟩;rw[hJP2];have eV:fr.V=PV V:=by rw[hfr]
  rw[eV]at hj;exact⟨k4,Z,λb g=>(f3 b g).1,D2,PV V,hj,pvmk,λb g=>by rw[hPV];exact .inr (.inr g)⟩
 rw[hJ2];refine⟨_,_,D,E,hd1,?_,hL1,by rw[hk0];exact hJ1⟩;rw[hFm];refine⟨λ_ g=>g,hK1,λ_ g=>g.elim,λb g hb=>?_,Z⟩;have:=hd.dlt b hb;rcases pvF b g with g|g<;>omega
 ·
  have runs:∀w3:World,(results fn a.tmps).run c.P w3=.ok (.tuple #[]) w3:=λw3=>by simp[results,hres]
  have marks:∀{w3:World}{m:FrameMode}{POST:Ending->World->Prop},w3.heap[w.heap.size]?=some (.deferred (some []))->m≠.run->LeavesInM Fence.wide 0 c.P fn a.tmps POST [] m (w3.putObj w.heap.size (.deferred none))->LeavesInM Fence.wide 0 c.P fn a.tmps POST ([{target:=.collected w.heap.size,args:=#[]}]++a.defers) m w3:=λ{w3 m POST} h1 hm h2=>by
   rw[hdef];exact⟨hm,.inl ⟨w.heap.size,_,rfl,run_takeDeferred h1,h2⟩⟩
  have pvm:PV noV w.heap.size:=by rw[hPV];exact .inl rfl
  have pvl:PV noV x:=by rw[hPV];exact .inr (.inl rfl)
  rintro e W2 (⟨⟨v,rfl⟩,hj⟩|⟨ch,rfl,D2,z,hj⟩);case inr=>
   rw[hJP2]at hj;obtain⟨q1,q2,q3,D0,V0,q4,q5,q6⟩:=hj;obtain⟨c1,c2⟩:=Chg.put (V:=V0) (w:=W2) (o:=.deferred none) q5;exact marks q1 (by simp) (.inr ⟨ch,rfl,D0,V0,p3 _ _ _ _ _ q4 c1 c2⟩)
  rcases hj with⟨D2,hj⟩|⟨D2,hj⟩;rw[hJ2]at hj;obtain⟨w0,D0,D',E',q1,q2,q3,q5⟩:=hj;rw[hFm]at q2;have hel:=run_endLoop (P:=c.P) q3 (by rw[hrec];simp);refine⟨none,_,(by rw[hrec]at hel;exact hel),?_⟩;refine marks (by rw[World.putObj_heap_other Z];exact q2.2.1) (by simp) ⟨_,runs _,.inl ⟨⟨_,rfl⟩,.inl ⟨D',?_⟩⟩⟩;rw[hkn]at q5;exact H0.j2 _ _ _ _ _ _ (j3 _ _ _ _ _ (j3 _ _ _ _ _ q5 (Chg.put pvl).1 (Chg.put pvl).2) (Chg.put pvm).1 (Chg.put pvm).2) (λ_ g=>g) λ_ g=>g.elim;rw[hJX2]at hj;obtain⟨D',q1,q2,q3,q5⟩:=hj;rw[hFm]at q2;have hel:=run_endLoop (P:=c.P) q3 (by rw[hrec];simp);refine⟨some .ret,_,(by rw[hrec]at hel;exact hel),?_⟩;refine Wi (F:=Fence.wide) (n:=0) rfl (λ_=>trivial) rfl (wpIn_ret ?_);refine marks (by rw[World.putObj_heap_other Z];exact q2.2.1) (by simp) ⟨_,runs _,.inl ⟨⟨_,rfl⟩,?_⟩⟩;rcases q5 with q5|q5;exact .inl ⟨D',H0.j2 _ _ _ _ _ _ (j3 _ _ _ _ _ (j3 _ _ _ _ _ q5 (Chg.put pvl).1 (Chg.put pvl).2) (Chg.put pvm).1 (Chg.put pvm).2) (λ_ g=>g) λ_ g=>g.elim⟩;exact .inr ⟨D',H0.x2 _ _ _ _ _ (x3 _ _ _ _ (x3 _ _ _ _ q5 (Chg.put pvl).1 (Chg.put pvl).2) (Chg.put pvm).1 (Chg.put pvm).2) (λ_ g=>g) λ_ g=>g.elim⟩
def Vz{l:Nat}
  (H:∀(N:Nat) (fr:FrY),(fr.ro≠none->N<=fr.sv.length)->WU c it l N fr J JX JP) (hKI:bh c.P c.G c.KI)
  (j3:∀k i j D1 V,J k i D1 V->Chg V i j->j.heap.size=i.heap.size->J k j D1 V) (x3:∀i j D1 V,JX i D1 V->Chg V i j->j.heap.size=i.heap.size->JX j D1 V)
  (p3:∀z i j D1 V,JP z i D1 V->Chg V i j->j.heap.size=i.heap.size->JP z j D1 V)
  {fn:Func} (u:fn.results=#[]) {S:Base} (HO:OkS c S) (hSO:∀b,¬S.O b) (hSs:S.sv=[]) (X:S.rd=none) (hSg:S.gd=[]) (hSn:S.nod=true) (hJ0:J 0 S.w0 S.D0 noV):
  ∀(x:Code) (s:St),evN c it l A x s->s.tm.length=S.N->∀a w,Sim S s.sig a w->
  At c.P none x (bodyPostM Fence.wide 0 c.P fn λe T=>((∃v,e=.returned v)/\((∃f,J it.L.length T f noV)\/∃f,JX T f noV))\/∃z,e=.panicked z/\∃f V2,JP z T f V2) a w
 |.seq x y,s,h,hl,a,w,hs=>by
  unfold evN at h;have hx:=mB (A:=A.A) x S s _ (Exit.then (At c.P none y (bodyPostM Fence.wide 0 c.P fn λe T=>((∃v,e=.returned v)/\((∃f,J it.L.length T f noV)\/∃f,JX T f noV))\/∃z,e=.panicked z/\∃f V2,JP z T f V2))
   (bodyPostM Fence.wide 0 c.P fn λe T=>((∃v,e=.returned v)/\((∃f,J it.L.length T f noV)\/∃f,JX T f noV))\/∃z,e=.panicked z/\∃f V2,JP z T f V2)) HO h hl (λe s' hq hl' a' w' hs'=>by
    cases e<;>first
     |exact Vz H hKI j3 x3 p3 u HO hSO hSs X hSg hSn hJ0 y s' hq hl' a' w' hs'
     |exact hq.elim) a w hs
  rw[HO.P.symm,X]at hx;exact As hx
 |.rangeFunc g ps aa b,s,h,hl,a,w,hs=>by
  unfold evN at h;split at h;case h_2=>exact h.elim
  rename_i s1 _;split at h;case h_2=>exact h.elim
  rename_i ms hms;obtain⟨g1,g2⟩:=bR h;obtain⟨D,E,hd⟩:=ND hs hms g1;exact aCm H hKI j3 x3 p3 u HO hSO hSs X hSg hSn g2 ((oi hms).symm.trans hl) hd hJ0
 |.skip,_,h,_,_,_,_=>by unfold evN at h;exact h.elim|.region _ _ _,_,h,_,_,_,_=>by unfold evN at h;exact h.elim|.cond _ _ _,_,h,_,_,_,_=>by unfold evN at h;exact h.elim|.block id x,s,h,hl,a,w,hs=>by
  unfold evN at h;refine PS λb k cs hb hf=>?_;obtain⟨e,a1,i,hq,r⟩:=Vz H hKI j3 x3 p3 u HO hSO hSs X hSg hSn hJ0 x s h hl a w hs b k cs hb hf;refine⟨e,a1,i,?_,r⟩;cases e<;>first
   |exact hq
   |exact hq.elim
 |.exit _,_,h,_,_,_,_=>by unfold evN at h;exact h.elim|.ret,_,h,_,_,_,_=>by unfold evN at h;exact h.elim|.loop _,_,h,_,_,_,_=>by unfold evN at h;exact h.elim|.scope _,_,h,_,_,_,_=>by unfold evN at h;exact h.elim|.label _,_,h,_,_,_,_=>by unfold evN at h;exact h.elim|.goto _,_,h,_,_,_,_=>by unfold evN at h;exact h.elim|.refuse _,_,h,_,_,_,_=>by unfold evN at h;exact h.elim
def Mc{f:FuncId}{caps:List AV}(hK:ai c.P c.G c.K)(hI:bh c.P c.G c.KI)(hm:c.P.follows .mixedOrders=true)(h:aII c A f caps it)(hKP:c.KP=λ_ _ _=>none:=by rfl):mU c.P c.G f caps it:=by
 intro hpre l J JX JP w D us hD hG v j1 j2 j3 x1 x2 x3 p3 V h0;unfold aII at h;split at h;case h_2=>exact h.elim
 rename_i fn hf;split at h;case h_2=>exact h.elim
 rename_i b hb;obtain⟨hres,hnm,hone,z,h⟩:=h;have h:=h l hpre;have L:bJ c.P c.G c.KP:=λf args m r h=>by rw[hKP]at h;cases h
 have H:∀(N:Nat) (fr:FrY),(fr.ro≠none->N<=fr.sv.length)->WU c it l N fr J JX JP:=λN fr hrs=>⟨hK,hI,L,hm,λ_=>z,hrs,j1,j2,x1,x2,V⟩;have j:caps.length=us.length:=zA3 v;have T:zA1 c.P ⟨w,D,noM,noE⟩ (.yld l::caps) (.func (.yield l) #[] #[]::us):=⟨_,_,rfl,rfl,v⟩;have earr:#[Value.func (.yield l) #[] #[]]++us.toArray=(Value.func (.yield l) #[] #[]::us).toArray:=by simp
 rw[earr];obtain⟨S,y⟩:∃S:Base,S={P:=c.P,w0:=w,D0:=D,N:=(caps.length+1)+(fn.ntmps-(caps.length+1)),O:=λ_=>False,G:=c.G,sv:=[],rd:=none,nod:=true}:=⟨_,rfl⟩;have x:aQ S (tf fn l caps).s.sig {tmps:=(Value.func (.yield l) #[] #[]::us).toArray++Array.replicate (fn.ntmps-(Value.func (.yield l) #[] #[]::us).toArray.size) undef,defers:=[]} w D noE:=by
  rw[y];refine⟨?_,⟨⟨λ_=>rfl,⟨[],rfl⟩,yZ⟩,λd hd=>(by cases hd)⟩,λt=>?_,λnm b hm=>(by cases hm),λnm b hm=>(by cases hm),λnm nm' b b' hm=>(by cases hm),Chg.refl _ _,hD,λb hb=>hb,λb hb=>.inl hb,
   hG,rfl,fU.nil λk i b g=>(by obtain⟨_,_,_,_,_,_,g1,_⟩:=g;cases g1)⟩
  simp[j];show(((.yld l::caps)++List.replicate (fn.ntmps-(caps.length+1)) (AV.val undef)).getD t .top).rel c.P ⟨w,D,noM,noE⟩ _;rw[qA,qV];by_cases X:t<(AV.yld l::caps).length;rw[vS X,kW (by simpa[j]using X)];obtain⟨u,g1,g2⟩:=zA6 T (qB X);rw[qB X];simp only[kZ,g1,qK];exact g2;rw[vJ Z,kS (by simp[<- j]at X ⊢;omega)];rw[wY,yY];split;rename_i h1;rw[if_pos (by simp[<- j]at h1 ⊢;omega)];rfl;trivial
 have HO:OkS c S:=by
  rw[y];exact⟨rfl,rfl,hK,hI,hm,λe=>(e rfl).elim,λ_=>by rw[z];rfl,L⟩
 have hr:fn.results=#[]:=by
  apply yU;exact zB.1 hres
 exact vt hf hb (Vz H hI j3 x3 p3 hr HO (λb g=>by rw[y]at g;exact g) (by rw[y]) (by rw[y]) (by rw[y]) (by rw[y]) (by rw[y];exact h0) b (tf fn l caps).s h (by rw[y];simp[tf];omega) _ w ⟨D,noE,x⟩)
end Go.Eng
namespace Go.Eng
open Go.RowKit
def aGF(u:Nat->Value)(n:Nat):Lv:=(List.range n).map u
def BN:Lv->List AV->List AV|u::us,a::aa=>.pin u a::BN us aa|_,_=>[]
def tw:Lv->List AV->Option (List Prop)
 |[],_=>some []|u::us,.pin u' _::aa=>match tw us aa with
  |some q=>some ((u'=u)::q)|none=>none
 |_,_=>none
def mR:AV->AV|.yld l=>.yld l|a=>Qo a
def anew(us:Lv)(caps:List AV)(s:St):St:={s with tm:=(s.tm.take 1).map mR++BN us caps++(s.tm.drop (caps.length+1)).map mR}
def bare(s:St):St:={s with tm:=s.tm.map mR}
def gT(c:Cfg)(it:jX)(l:Nat)(us:Lv)(caps:List AV)(ops:Array Oper):List Oper->Y->(Y->Prop)->Prop
 |[],y,Q=>Q y|o::os,y,Q=>match RO y.s.sig.T ops o.guard with
  |some g=>match yieldOf c.G y.s.sig.T g o.op with
   |some (l',ns,v)=>if pI o.dst y.s.tm.length=true/\(y.s.mem.isEmpty&&y.s.sv.isEmpty)=true/\caps.length<y.s.tm.length then match asY it.t v,tw us (y.s.tm.drop 1)with
    |some x,some ps=>Zz g (all (ns++ps) (l'=l/\y.on=true/\nB it.L y.k x/\gT c it l us caps ops os ⟨setSlot o.dst (.dat .bool true) (anew us caps y.s),y.k+1,true⟩ Q/\gT c it l us caps ops os ⟨setSlot o.dst (.dat .bool false) (bare y.s),y.k+1,false⟩ Q))
      (gT c it l us caps ops os ⟨setSlot o.dst (.grd g (.dat .bool false)) y.s,y.k,y.on⟩ Q)
    |_,_=>False
    else False
   |none=>match iZ c.P c.G c.K (c.mt o) ops y.s.nx y.s.sig o with
    |some r=>if iJ r y.s.tm.length=true/\Iz r y.s=true then all r.need (gT c it l us caps ops os ⟨cV r y.s,y.k,y.on⟩ Q)else False|none=>False
  |none=>False
def rgL(c:Cfg)(it:jX)(l:Nat)(us:Lv)(caps:List AV)(ops:Array Oper)(draw:Bool)(y:Y)(Q:Y->Prop):Prop:=if draw=true then False else gT c it l us caps ops ops.toList y Q
def Hz(fn:Func)(l:Nat)(us:Lv)(caps:List AV):Y:=⟨⟨(.yld l::BN us caps)++List.replicate (fn.ntmps-(caps.length+1)) (.val undef),[],0,[]⟩,0,true⟩
def evL(c:Cfg)(A:Ku)(f:FuncId)(caps:List AV)(it:jX):Prop:=match c.P.funcs[f]? with
 |some fn=>match fn.body with
  |some b=>fn.results.toList.isEmpty=true/\Gu it.t=true/\c.rng=false/\∀(l:Nat) (u:Nat->Value),it.pre->evZ c (rgL c it l (aGF u caps.length) caps) A b (Hz fn l (aGF u caps.length) caps) (aGW it)|none=>False
 |none=>False
def zi{P:Program}{C C':Ctx}{a:AV}{v:Value}(h:a.rel P C v):(mR a).rel P C' v:=by
 unfold mR;split;exact h;exact wj h
def jJ:∀{us:Lv}{aa:List AV},us.length=aa.length->(BN us aa).length=aa.length|[],[],_=>rfl|_::us,_::aa,h=>by simp[BN,jJ (us:=us) (aa:=aa) (by simpa using h)]
def LA:∀{us:Lv}{aa:List AV}{i:Nat}{x:AV},(BN us aa)[i]?=some x->∃u a,us[i]?=some u/\aa[i]?=some a/\x=.pin u a|[],_,_,_,h=>by simp[BN]at h|_::_,[],_,_,h=>by simp[BN]at h|u::us,a::aa,0,x,h=>by simp[BN]at h;exact⟨u,a,rfl,rfl,h.symm⟩|u::us,a::aa,i+1,x,h=>by simp only[BN,List.getElem?_cons_succ]at h ⊢;exact LA h
def Ih:∀{us:Lv}{aa:List AV}{q:List Prop},tw us aa=some q->(∀p∈q,p)->∀{i:Nat}{u:Value},us[i]?=some u->∃a,aa[i]?=some (.pin u a)
 |[],_,_,_,_,i,u,h=>by simp at h|u'::us,[],q,h,_,_,_,_=>by simp[tw]at h|u'::us,x::aa,q,h,f,i,u,hi=>by
  cases x<;>first
   |(simp[tw]at h;done)
   |skip
  rename_i g r;simp only[tw]at h;split at h;rename_i v b;cases h;have e:g=u':=f _ (wF ..);cases i with
  |zero=>simp at hi;subst hi e;exact⟨r,rfl⟩|succ i=>simpa using Ih b (λp j=>f p (zA _ j)) (by simpa using hi)
  cases h
def Zj{t:Ty}(h:Gu t=true){w:World}{D:Nat->Prop}{x:t.den}{us:Lv}(b:ag w D t x us):ag w noV t x us:=by
 cases t<;>first|exact b|cases h
section
variable {c:Cfg}{it:jX}{l N:Nat}{us:Lv}{caps:List AV}{J:Nat->World->Prop}{JX:World->Prop}{JP:List PanicEntry->World->Prop}
structure aD0(c:Cfg)(it:jX)(l:Nat)(us:Lv)(caps:List AV)(J:Nat->World->Prop)(JX:World->Prop)(JP:List PanicEntry->World->Prop):Prop where
 K:ai c.P c.G c.K
 I:bh c.P c.G c.KI
 KP:bJ c.P c.G c.KP
 m:c.P.follows .mixedOrders=true
 rng:c.rng=false
 flat:Gu it.t=true
 len:us.length=caps.length
 jc:∀k w1,J k w1->∃D:Nat->Prop,(∀b,D b->b<w1.heap.size)/\me c.P ⟨w1,D,noM,noE⟩ c.G/\zA1 c.P ⟨w1,D,noM,noE⟩ caps us
 xc:∀w1,JX w1->∃D:Nat->Prop,(∀b,D b->b<w1.heap.size)/\me c.P ⟨w1,D,noM,noE⟩ c.G
 j1:∀k w1 w2,J k w1->Below w1.heap.size w1 w2->J k w2
 x1:∀w1 w2,JX w1->Below w1.heap.size w1 w2->JX w2
 yld:∀k y W u,it.L[k]?=some y->J k W->ag W noV it.t y [u]->YieldAt Fence.wide 0 c.P l #[u] W λe W' =>
   W.heap.size<=W'.heap.size/\((e=.returned (.bool true)/\J (k+1) W')\/(e=.returned (.bool false)/\JX W')\/∃ch,e=.panicked ch/\JP ch W')
def rX(c:Cfg)(N:Nat)(w:World)(D:Nat->Prop):Base:={P:=c.P,w0:=w,D0:=D,N:=N,O:=λ_=>False,G:=c.G,sv:=[],rd:=none,nod:=true}
def Ks(J:Nat->World->Prop)(JX:World->Prop)(y:Y)(w:World):Prop:=(y.on=true->J y.k w)/\(y.on=false->JX w)
def aG4(c:Cfg)(N:Nat)(J:Nat->World->Prop)(JX:World->Prop)(y:Y)(a:Act)(w:World):Prop:=∃w0 D0,Ks J JX y w0/\Sim (rX c N w0 D0) y.s.sig a w
def aD0.okS(H:aD0 c it l us caps J JX JP)(w:World)(D:Nat->Prop):OkS c (rX c N w D):=
 ⟨rfl,rfl,H.K,H.I,H.m,λe=>(e rfl).elim,λ_=>by rw[H.rng];rfl,H.KP⟩
def aAp{w0:World}{D0:Nat->Prop}{σ:Sig}{a:Act}{w:World}{D:Nat->Prop}{E:Nat->Ent}(h:aQ (rX c N w0 D0) σ a w D E):Below w0.heap.size w0 w:=
 ⟨h.low.os,h.low.tape,h.low.output,h.low.size,λk b=>h.low.block k b id⟩
def Ks.now(H:aD0 c it l us caps J JX JP){y:Y}{w0 w:World}(b:Ks J JX y w0)(hb:Below w0.heap.size w0 w):Ks J JX y w:=
 ⟨λe=>H.j1 _ _ _ (b.1 e) hb,λe=>H.x1 _ _ (b.2 e) hb⟩
def TB{tm:List AV}{a:Act}{w:World}{D:Nat->Prop}(e:a.tmps.size=N)(hd:a.defers=[])(v:∀b,D b->b<w.heap.size)(u:me c.P ⟨w,D,noM,noE⟩ c.G)
  (r:∀t,(tm.getD t .top).rel c.P ⟨w,D,noM,noE⟩ (a.tmps.getD t undef)) (nx:Nat):aQ (rX c N w D) (St.sig ⟨tm,[],nx,[]⟩) a w D noE:=
 ⟨e,⟨⟨λ_=>hd,⟨[],hd⟩,by rw[hd];exact yZ⟩,λd h=>by rw[hd]at h;cases h⟩,r,λf b hm=>(by cases hm),λf b hm=>(by cases hm),λf j b x hm=>(by cases hm),Chg.refl _ _,v,λb hb=>hb,λb hb=>.inl hb,
  u,rfl,fU.nil λk i b g=>(by obtain⟨_,_,_,_,_,_,g1,_⟩:=g;cases g1)⟩
def getD_map{f:AV->AV}(b:f .top=.top)(l:List AV)(t:Nat):(l.map f).getD t .top=f (l.getD t .top):=by
 simp only[qA,qX];cases l[t]?<;>simp[b]
def Z1{P:Program}{C C':Ctx}{s:St}{tmps:Array Value}{q:List Prop}(L:us.length=caps.length)(G:caps.length<s.tm.length)(h:∀t,(s.tm.getD t .top).rel P C (tmps.getD t undef))
  (A:tw us (s.tm.drop 1)=some q) (z:∀p∈q,p) (O:zA1 P C' caps us) (t:Nat):((anew us caps s).tm.getD t .top).rel P C' (tmps.getD t undef):=by
 have f:mR .top=.top:=rfl;have b:((s.tm.take 1).map mR).length=1:=by rw[vG,qP];omega
 have y:(BN us caps).length=caps.length:=jJ L;show(((s.tm.take 1).map mR++BN us caps++(s.tm.drop (caps.length+1)).map mR).getD t .top).rel P C' _;rcases zT t 1 with g|g;have e:((s.tm.take 1).map mR++BN us caps++(s.tm.drop (caps.length+1)).map mR).getD t .top=mR (s.tm.getD t .top):=by
  rw[qA,vO,vS Z,<- qA,getD_map f];congr 1;rw[qA,qA,vX,if_pos g]
 rw[e];exact zi (h t);rcases zT t (caps.length+1)with g2|g2;have hi:t-1<(BN us caps).length:=by omega
 obtain⟨u,av,x,X,V⟩:=LA (qB hi);have e:((s.tm.take 1).map mR++BN us caps++(s.tm.drop (caps.length+1)).map mR).getD t .top=.pin u av:=by
  rw[qA,vO,vJ Z,b,vS hi,qB hi,V];rfl
 rw[e];obtain⟨ov,v⟩:=Ih A z x;rw[vM,show 1+(t-1)=t by omega]at v;have r:=h t;rw[qA,v]at r;have j:tmps.getD t undef=u:=r.1;obtain⟨u',i,T⟩:=zA6 O X;rw[x]at i;cases i;exact⟨j,by rw[j];exact T⟩;have e:((s.tm.take 1).map mR++BN us caps++(s.tm.drop (caps.length+1)).map mR).getD t .top=mR (s.tm.getD t .top):=by
  rw[qA,vO,vJ Z,b,vJ Z,y,<- qA,getD_map f];congr 1;rw[qA,qA,vM,show caps.length+1+(t-1-caps.length)=t by omega]
 rw[e];exact zi (h t)
def Zi:∀{t:Ty}{v w:AV}{x:t.den},Gu t=true->asY t [v,w]=some x->False
 |.pair _ _,_,_,_,h,_|.str,_,_,_,h,_|.sl _,_,_,_,h,_=>by cases h
 |.int _,_,_,_,_,h|.bool,_,_,_,_,h=>by simp[asY]at h
def Vr{P:Program}{C:Ctx}{t:Ty}{x:t.den}{u:Value}(h:Gu t=true)(g:zA1 P C (LG t x) [u]):ag C.w C.D t x [u]:=by
 cases t with
 |pair a b=>cases h
 |_=>
  obtain⟨i,f,e,g1,_⟩:=g;cases e;exact g1
def P1(H:aD0 c it l us caps J JX JP){y:Y}{w0:World}{D0:Nat->Prop}(hg:Ks J JX y w0){a:Act}{w:World}{D:Nat->Prop}{E:Nat->Ent}(hd:aQ (rX c N w0 D0) y.s.sig a w D E)(r:y.s.mem=[])(hsv:y.s.sv=[])(hlt:caps.length<y.s.tm.length)
  (hl:y.s.tm.length=N) {o:Oper} (hdst:pI o.dst y.s.tm.length=true) {l':Nat}{ns ps:List Prop}{v:List AV} (hy:yieldOf c.G y.s.sig.T true o.op=some (l',ns,v)) {x:it.t.den} (hx:asY it.t v=some x) (hps:tw us (y.s.tm.drop 1)=some ps) (X:∀q∈ns++ps,q) (hll:l'=l) (hon:y.on=true) (hat:nB it.L y.k x)
  {K:Act->World->Prop}{R:Exit->Act->World->Prop} (hP:∀ch a w,a.defers=[]->JP ch w->R (.panic ch) a w)
  (hK:∀(b:Bool) (s':St) (a':Act) (w':World),s'=setSlot o.dst (.dat .bool b) (if b=true then anew us caps y.s else bare y.s)->aG4 c N J JX ⟨s',y.k+1,b⟩ a' w'->K a' w'):o.wpIn Fence.wide 0 c.P a w K R:=by
 obtain⟨f,args,at_,n1,n2,V,hf,rfl,hav⟩:=vz hy;obtain⟨av,v1,hargs,ea,rfl⟩:∃av v1,args.toList=[av]/\ug true (evT c.G y.s.sig.T av)=(v1,n2)/\v=[v1]:=by
  rcases hav with g|⟨_,_,_,_,_,_,_,_,_,rfl,_⟩;exact g;exact(Zi H.flat hx).elim
 rw[hll]at hf;have hfv:=fy hd f;have hav0:=fy hd av;have u:=oR (g:=true) rfl (λq hq=>X q (qJ.2 (.inl (qJ.2 (.inl (by have i:=hq;rw[show(rX c N w0 D0).G=c.G from rfl,hf]at i;exact i)))))) hfv;have A:=oR (g:=true) rfl (λq hq=>X q (qJ.2 (.inl (qJ.2 (.inr (by have i:=hq;rw[show(rX c N w0 D0).G=c.G from rfl,ea]at i;exact i)))))) hav0;rw[show(rX c N w0 D0).G=c.G from rfl,hf]at u;have hfv3:a.eval f=.func (.yield l) #[] #[]:=u;rw[show(rX c N w0 D0).G=c.G from rfl,ea]at A;have hcell:=Zj H.flat (Vr H.flat (Wm hx (us:=[a.eval av]) ⟨_,_,rfl,A,rfl⟩));have hyl:=H.yld y.k x w (a.eval av) hat ((hg.now H (aAp hd)).1 hon) hcell;obtain⟨fn,tmps,assign,body,hrun,j⟩:=hyl;unfold Oper.wpIn;refine⟨λf _=>trivial,?_⟩;have O:∀d,o.op≠.defer d:=λd e=>by rw[V]at e;cases e
 rw[Oper.semAt_eq _ _ _ O];have hexec:(execOp a.eval o).run c.P w=.ok (.round l fn tmps assign body) w:=by
  obtain⟨dst,op,ty,pos,after,guard⟩:=o;simp only at V;subst V;have e1:args.map a.eval=#[a.eval av]:=by
   apply yU;rw[qBu,hargs];rfl
  simp only[execOp,resolve,e1,hfv3,Deferred.ofValue,wV,yN,vZ,invoke,jA];simpa using hrun
 rw[hexec,Oper.uponIn_round];refine⟨λh=>(by cases h),?_⟩;have z:a.defers=[]:=hd.df.1.1 rfl;have hsz:a.tmps.size=N:=hd.sz;have fin:∀(b:Bool) (tm:List AV) (w':World) (D':Nat->Prop),tm.length=N->(∀b,D' b->b<w'.heap.size)->me c.P ⟨w',D',noM,noE⟩ c.G->(∀t,(tm.getD t .top).rel c.P ⟨w',D',noM,noE⟩ (a.tmps.getD t undef))->
   Sim (rX c N w' D') (setSlot o.dst (.dat .bool b) ⟨tm,[],y.s.nx,[]⟩).sig (a.put o.dst (.bool b)) w':=λb tm w' D' h1 h2 h3 h4=>
  ⟨D',noE,(TB hsz z h2 h3 h4 y.s.nx).slot (s:=⟨tm,[],y.s.nx,[]⟩) h1 (by rw[show(St.mk tm [] y.s.nx []).tm.length=y.s.tm.length from h1.trans hl.symm];exact hdst) rfl⟩
 refine RoundIn.mono j ?_;rintro e w' ⟨hsz',hres⟩;rcases hres with⟨rfl,hj⟩|⟨rfl,hj⟩|⟨ch,rfl,hj⟩;obtain⟨D',d1,d2,d3⟩:=H.jc _ _ hj;refine hK true _ _ w' rfl ⟨w',D',⟨λ_=>hj,λe=>(by cases e)⟩,?_⟩;have e:(if true=true then anew us caps y.s else bare y.s)=⟨(anew us caps y.s).tm,[],y.s.nx,[]⟩:=by rw[if_pos rfl];unfold anew;rw[r,hsv]
 rw[e];refine fin true _ w' D' ?_ d1 d2 λt=>Z1 H.len hlt hd.tm hps (λp hp=>X p (qJ.2 (.inr hp))) d3 t;unfold anew;simp only[qF,vG,qP,wM,jJ H.len];omega;obtain⟨D',d1,d2⟩:=H.xc _ hj;refine hK false _ _ w' rfl ⟨w',D',⟨λe=>(by cases e),λ_=>hj⟩,?_⟩;have e:(if false=true then anew us caps y.s else bare y.s)=⟨(bare y.s).tm,[],y.s.nx,[]⟩:=by rw[if_neg (by decide)];unfold bare;rw[r,hsv]
 rw[e];refine fin false _ w' D' (by unfold bare;simp[hl]) d1 d2 λt=>?_;show((y.s.tm.map mR).getD t .top).rel _ _ _;rw[getD_map rfl];exact zi (hd.tm t);exact hP ch a w' z hj
def wd(H:aD0 c it l us caps J JX JP){ops:Array Oper}{Q:Y->Prop}{R:Exit->Act->World->Prop}(hR:∀y',Q y'->y'.s.tm.length=N->∀a w,aG4 c N J JX y' a w->R .normal a w)(hP:∀ch a w,a.defers=[]->JP ch w->R (.panic ch) a w):
  ∀(os:List Oper) (j:Nat) (y:Y),(∀i o,os[i]?=some o->ops[j+i]?=some o)->gT c it l us caps ops os y Q->y.s.tm.length=N->∀a w,aG4 c N J JX y a w->wpOpsIn Fence.wide 0 c.P ops R (List.range' j os.length) a w
 |[],j,y,_,h,G,a,w,hs=>by
  simp only[xR,qCh,wpOpsIn];simp only[gT]at h;exact hR y h G a w hs
 |o::os,j,y,A,h,G,a,w,hs=>by
  have ho:ops[j]?=some o:=by simpa using A 0 o rfl
  have z:∀i o',os[i]?=some o'->ops[j+1+i]?=some o':=λi o' hi=>by
   have:=A (i+1) o' (by simpa using hi);rw[show j+1+i=j+(i+1) by omega];exact this
  obtain⟨w0,D0,hg,D,E,hd⟩:=hs;simp only[gT]at h;split at h;case h_2=>exact h.elim
  rename_i g hge;have L:=GH (o:=o) hd hge;rw[wO,qBp,wpOpsIn_cons];split at h
  ·
   rename_i l' ns v hy;split at h;case isFalse=>exact h.elim
   rename_i hc;obtain⟨u,V,hlt⟩:=hc;simp only[qC,zB]at V;split at h;case h_2=>exact h.elim
   rename_i x ps hx hps;unfold wpOpIn;rw[ho];simp only;rw[L];cases g with
   |false=>
    simp only[wG,xW];refine⟨λf _=>trivial,wd H hR hP os (j+1) _ z (h.2 rfl) (by simp[setSlot];split<;>simp[G]) _ _ ⟨w0,D0,hg,D,E,?_⟩⟩;exact hd.slot G u ⟨λe=>(by cases e),λ_=>rfl⟩
   |true=>
    simp only[kT];obtain⟨T,hll,hon,hat,h1,h2⟩:=bR (h.1 rfl);refine P1 H hg hd V.1 V.2 hlt G u hy hx hps T hll hon hat hP λb s' a' w' es hs'=>?_;have ls:s'.tm.length=N:=by
     rw[es];cases b;rw[if_neg (by decide)];unfold setSlot bare;split<;>simp[G];rw[if_pos rfl];have:(anew us caps y.s).tm.length=N:=by
      unfold anew;simp only[qF,vG,qP,wM,jJ H.len];omega
     unfold setSlot;split<;>simp[this]
    cases b;subst es;exact wd H hR hP os (j+1) _ z h2 ls _ _ hs';subst es;exact wd H hR hP os (j+1) _ z h1 ls _ _ hs'
  ·
   split at h;case h_2=>exact h.elim
   rename_i r hr;split at h;case isFalse=>exact h.elim
   rename_i O;obtain⟨T,X⟩:=bR h;have u:∀d,o.dst=some d->d<(rX c N w0 D0).N:=by
    intro d hdd;have h2:=O.1;unfold iJ at h2;simp only[qC]at h2;have:=h2.1;rw[(lC hr).1,hdd]at this;rw[G]at this;exact vT this
   have:=qb (S:=rX c N w0 D0) (Q:=R) H.K ho ⟨D,E,hd⟩ u hr T (λk hk=>by
    have:=O.2;unfold Iz at this;rw[hk]at this;exact Nr this)
   refine wpOpIn_mono (λa' w' h'=>wd H hR hP os (j+1) _ z X (by rw[jU];exact G) a' w' ⟨w0,D0,hg,?_⟩) this;show Sim _ (cV r y.s).sig a' w';rw[iL O.1];exact h'
end
def Md{c:Cfg}{A:Ku}{f:FuncId}{caps:List AV}{it:jX}(hK:ai c.P c.G c.K)(hI:bh c.P c.G c.KI)(hm:c.P.follows .mixedOrders=true)(h:evL c A f caps it)(hKP:c.KP=λ_ _ _=>none:=by rfl):Kr c.P c.G f caps it:=by
 intro hpre l J JX JP w us jc xc j1 x1 hyld h0;unfold evL at h;split at h;case h_2=>exact h.elim
 rename_i fn hf;split at h;case h_2=>exact h.elim
 rename_i b hb;obtain⟨hres,V,hrng,h⟩:=h;obtain⟨D,hD,hG,j⟩:=jc 0 w h0;have g:us.length=caps.length:=(zA3 j).symm;obtain⟨u,hu⟩:∃u:Nat->Value,aGF u caps.length=us:=⟨λi=>us.getD i undef,by
  unfold aGF;apply qBs;simp[g];intro i h1 h2;simp[qA,h2]⟩
 have h:=h l u hpre;rw[hu]at h;have H:aD0 c it l us caps J JX JP:=⟨hK,hI,(λf args m r h=>by rw[hKP]at h;cases h),hm,hrng,V,g,jc,xc,j1,x1,hyld⟩;have earr:#[Value.func (.yield l) #[] #[]]++us.toArray=(Value.func (.yield l) #[] #[]::us).toArray:=by simp
 rw[earr];obtain⟨N,hN⟩:∃N,N=(caps.length+1)+(fn.ntmps-(caps.length+1)):=⟨_,rfl⟩;refine callsIn_of_wp_marks hf hb trivial ?_;have lp:(BN us caps).length=caps.length:=jJ g;have hlS:(Hz fn l us caps).s.tm.length=N:=by rw[hN];simp[Hz,lp];omega
 have pinR:zA1 c.P ⟨w,D,noM,noE⟩ (.yld l::BN us caps) (Value.func (.yield l) #[] #[]::us):=by
  refine⟨_,_,rfl,rfl,zB3 (by rw[lp,g]) λi a v h1 h2=>?_⟩;obtain⟨u',a',g1,g2,rfl⟩:=LA h1;rw[h2]at g1;cases g1;obtain⟨v',g3,g4⟩:=zA6 j g2;rw[h2]at g3;cases g3;exact⟨rfl,g4⟩
 have x:aQ (rX c N w D) (Hz fn l us caps).s.sig {tmps:=(Value.func (.yield l) #[] #[]::us).toArray++Array.replicate (fn.ntmps-(Value.func (.yield l) #[] #[]::us).toArray.size) undef,defers:=[]} w D noE:=by
  refine TB (by rw[hN];simp[g]) rfl hD hG (λt=>?_) 0;show(((.yld l::BN us caps)++List.replicate (fn.ntmps-(caps.length+1)) (AV.val undef)).getD t .top).rel c.P ⟨w,D,noM,noE⟩ _;rw[qA,qV];by_cases ht:t<(AV.yld l::BN us caps).length;rw[vS ht,kW (by simpa[g,lp]using ht)];obtain⟨u,g1,g2⟩:=zA6 pinR (qB ht);rw[qB ht];simp only[kZ,g1,qK];exact g2;rw[vJ Z,kS (by simp[g,lp]at ht ⊢;omega)];rw[wY,yY];split;rename_i h1;rw[if_pos (by simp[g,lp]at h1 ⊢;omega)];rfl;trivial
 refine uz (N:=N) (F:=Fence.wide) (X:=aG4 c N J JX) (PQ:=λz a w=>a.defers=[]/\JP z w) (λy a w ⟨w0,D0,hg,hs⟩=>⟨rX c N w0 D0,H.okS w0 D0,rfl,rfl,hs,λs' a' w' O=>⟨w0,D0,hg,O⟩⟩)
  (λid ops draw y Q R hr hl hR hP a w hs=>?_) b (Hz fn l us caps) (aGW it) _ h hlS (λe y' hq hl a' w' O=>?_) (λz a w ⟨hd,hj⟩=>?_) _ w ⟨w,D,⟨λ_=>h0,λe=>by cases e⟩,D,noE,x⟩
 unfold rgL at hr;split at hr;exact hr.elim;rename_i hdr;have hdr:draw=false:=by simpa using hdr
 subst hdr;refine wpIn_region ?_;have:=wd H hR (λz a w h1 h2=>hP z a w ⟨h1,h2⟩) ops.toList 0 y (λi o ho=>by simpa using ho) hr hl a w hs;rw[qBn];simpa using this;have key:(y'.on=true->y'.k=it.L.length)->LeavesInM Fence.wide 0 c.P fn a'.tmps (λe W'=>((∃v,e=.returned v)/\(J it.L.length W'\/JX W'))\/∃z,e=.panicked z/\JP z W') a'.defers .returning w':=by
  intro hq;obtain⟨w0,D0,hg,D',E',hd⟩:=O;have hdef:a'.defers=[]:=hd.df.1.1 rfl;rw[hdef];have hgn:=hg.now H (aAp hd);have hr:fn.results=#[]:=by
   apply yU;exact zB.1 hres
  refine⟨.tuple #[],by simp[results,hr],.inl ⟨⟨_,rfl⟩,?_⟩⟩;cases T:y'.on with
  |true=>exact .inl (by rw[<- hq T];exact hgn.1 T)|false=>exact .inr (hgn.2 T)
 cases e<;>first
  |exact key hq
  |exact hq.elim
 show LeavesInM _ _ _ _ _ _ _ _ _;rw[hd];exact .inr ⟨z,rfl,hj⟩
end Go.Eng
namespace Go.Eng
def oE_{p q:Prop}(h:p)(e:q=p:=by kernel_rfl):q:=of_eq e h
def oE{p q:Prop}(h:p)(e:q=p:=by kernel_rfl):q:=of_eq e h
open Go.RowKit
def aFA(l:List Nat)(s:St):St:={s with tm:=(List.range s.tm.length).map λi=>if l.contains i then s.tm.getD i .top else .top}
def lvA(L:List (Nat×List Nat))(A:Ann):Ann:=⟨λid s=>match L.lookup id with
 |none=>A.loop id s|some l=>match A.loop id s with
  |some sp=>some {sp with st:=λx=>aFA l (sp.st x)}
  |none=>none,A.pre,A.cut⟩
inductive AK where
 |val (t:Ty)
 |row (t:Ty)
 |ptr (t:Ty)
 |arr (t:Ty)
 |fn (g:FuncId) (t:Ty)
 |fnp (g:FuncId) (t:Ty)
 |fn0 (g:FuncId)
 |fnp0 (g:FuncId)
 |bp (t:Ty)
 |mp (nm:Nat)
 |pv (nm:Nat) (a b:Ty)
 |pvf (a b:Ty)
 |pvb (a b:Ty)
 |fnb (g:FuncId) (t:Ty)
@[reducible] def AK.den:AK->Type
 |.val t=>t.den|.row t=>t.den|.ptr t=>t.den|.arr t=>List t.den|.fn _ t=>t.den|.fnp _ t=>t.den|.fn0 _=>PUnit|.fnp0 _=>PUnit|.bp t=>t.den|.mp _=>PUnit|.pv _ a b=>a.den×b.den|.pvf a b=>a.den×b.den|.pvb a b=>a.den×b.den|.fnb _ t=>t.den
def AK.av:(k:AK)->k.den->AV|.val t,x=>.dat t x|.row t,x=>.agg (cellsOf t x)|.ptr t,x=>.ip t x|.arr t,x=>.ia t x|.fn g t,x=>.fn g [.ip t x]|.fnp g t,x=>.ipv (.fn g [.ip t x])|.fn0 g,_=>.fn g []|.fnp0 g,_=>.ipv (.fn g [])|.bp t,x=>.ipv (.ip t x)|.mp nm,_=>.ptr nm 1 0 0|.pv nm a b,x=>.ips [.ip a x.1,.ip b x.2,.ptr nm 1 0 0]|.pvf a b,x=>.ips [.ip a x.1,.ip b x.2,.top]|.pvb a b,x=>.ipv (.ips [.ip a x.1,.ip b x.2,.top])|.fnb g t,x=>.fn g [.ipv (.ip t x)]
def WR(t:Ty):AV->Option t.den|.ip t' x=>if h:t'=t then some (h▸x)else none|_=>none
def aG3(g:FuncId)(t:Ty):AV->Option t.den|.fn g' [a]=>if g'=g then WR t a else none|_=>none
def aDu(g:FuncId)(t:Ty):AV->Option t.den|.fn g' [.ipv a]=>if g'=g then WR t a else none|_=>none
def aG1(a b:Ty):AV->Option (a.den×b.den)
 |.ips [x,y,.top]=>match WR a x,WR b y with
  |some x,some y=>some (x,y)|_,_=>none
 |_=>none
def aDt(nm:Nat)(a b:Ty):AV->Option (a.den×b.den)
 |.ips [x,y,.ptr nm' 1 0 0]=>if nm'=nm then match WR a x,WR b y with
  |some x,some y=>some (x,y)|_,_=>none
  else none
 |_=>none
def ZZ(g:FuncId):AV->Option PUnit|.fn g' []=>if g'=g then some ⟨⟩else none|_=>none
def AK.of:(k:AK)->AV->Option k.den
 |.val t,a=>a.aa t|.row t,a=>match a with
  |.agg cs=>match cU t cs with
   |some (x,[])=>some x|_=>none
  |_=>none
 |.ptr t,a=>WR t a|.arr t,a=>match a with
  |.ia t' x=>if h:t'=t then some (h▸x)else none|_=>none
 |.fn g t,a=>aG3 g t a|.fnp g t,a=>match a with
  |.ipv b=>aG3 g t b|_=>none
 |.fn0 g,a=>ZZ g a|.fnp0 g,a=>match a with
  |.ipv b=>ZZ g b|_=>none
 |.bp t,a=>match a with
  |.ipv b=>WR t b|_=>none
 |.mp nm,a=>match a with
  |.ptr nm' 1 0 0=>if nm'=nm then some ⟨⟩else none|_=>none
 |.pv nm a b,x=>aDt nm a b x|.pvf a b,x=>aG1 a b x|.pvb a b,x=>match x with
  |.ipv y=>aG1 a b y|_=>none
 |.fnb g t,a=>aDu g t a
variable {a:AV}{t:Ty}
def nO{x:t.den}(h:WR t a=some x):a=.ip t x:=by
 unfold WR at h;split at h;split at h;rename_i e;subst e;cases h;rfl;cases h;cases h
variable {g:FuncId}
def Ws{x:t.den}(h:aG3 g t a=some x):a=.fn g [.ip t x]:=by
 unfold aG3 at h;split at h;split at h;rename_i e;subst e;rw[nO h];cases h;cases h
def ZY{x:t.den}(h:aDu g t a=some x):a=.fn g [.ipv (.ip t x)]:=by
 unfold aDu at h;split at h;split at h;rename_i e;subst e;rw[nO h];cases h;cases h
def Wp{t s:Ty}{x:t.den×s.den}(h:aG1 t s a=some x):a=.ips [.ip t x.1,.ip s x.2,.top]:=by
 unfold aG1 at h;split at h;split at h;rename_i e b;cases h;rw[nO e,nO b];cases h;cases h
def ZW{b:Nat}{t s:Ty}{x:t.den×s.den}(h:aDt b t s a=some x):a=.ips [.ip t x.1,.ip s x.2,.ptr b 1 0 0]:=by
 unfold aDt at h;split at h;split at h;rename_i e;subst e;split at h;rename_i g f;cases h;rw[nO g,nO f];cases h;cases h;cases h
def PX{x:PUnit}(h:ZZ g a=some x):a=.fn g []:=by
 unfold ZZ at h;split at h;split at h;rename_i e;subst e;rfl;cases h;cases h
def zD7{P:Program}{C:Ctx}{k:AK}{a:AV}{x:k.den}{v:Value}(h:k.of a=some x)(f:a.rel P C v):(k.av x).rel P C v:=by
 cases k with
 |val t=>exact zB8 h f|row t=>
  simp only[AK.of]at h;split at h;split at h;rename_i y A;cases h;obtain⟨us,e,g⟩:=f;obtain⟨u,j,G,g1,g2⟩:=cH A g;have i:j=[]:=g2;subst i G;exact⟨u++[],e,by rw[wB];exact cy g1⟩;cases h;cases h
 |ptr t=>rw[nO h]at f;exact f|arr t=>
  simp only[AK.of]at h;split at h;split at h;rename_i e;subst e;cases h;exact f;cases h;cases h
 |fn g t=>rw[Ws h]at f;exact f|fnp g t=>
  simp only[AK.of]at h;split at h;rw[Ws h]at f;exact f;cases h
 |fn0 g=>rw[PX h]at f;exact f|fnp0 g=>
  simp only[AK.of]at h;split at h;rw[PX h]at f;exact f;cases h
 |bp t=>
  simp only[AK.of]at h;split at h;rw[nO h]at f;exact f;cases h
 |mp z=>
  simp only[AK.of]at h;split at h;split at h;rename_i e;subst e;exact f;cases h;cases h
 |pv z a b=>rw[ZW h]at f;exact f|pvf a b=>rw[Wp h]at f;exact f|pvb a b=>
  simp only[AK.of]at h;split at h;rw[Wp h]at f;exact f;cases h
 |fnb g t=>rw[ZY h]at f;exact f
@[reducible] def AKs:List AK->Type
 |[]=>PUnit|k::r=>k.den×AKs r
def avK:(l:List AK)->AKs l->List AV|[],_=>[]|k::r,x=>k.av x.1::avK r x.2
def ofK:(l:List AK)->List AV->Option (AKs l)
 |[],[]=>some ⟨⟩|k::r,a::aa=>match k.of a,ofK r aa with
  |some x,some y=>some (x,y)|_,_=>none
 |_,_=>none
variable {P:Program}
def fZ{C:Ctx}:∀{l:List AK}{aa:List AV}{x:AKs l}{us:Lv},ofK l aa=some x->zA1 P C aa us->zA1 P C (avK l x) us
 |[],[],_,_,_,f=>f|k::r,a::aa,x,us,h,f=>by
  simp only[ofK]at h;split at h;rename_i y z i g;cases h;obtain⟨u,b,e,g1,g2⟩:=f;exact⟨u,b,e,zD7 i g1,fZ g g2⟩;cases h
 |[],_::_,_,_,h,_=>by simp[ofK]at h|_::_,[],_,_,h,_=>by simp[ofK]at h
noncomputable def aj(l:List AK)(pre:AKs l->Prop)(ret:AKs l->AV)(args:List AV)(m:Mem):Option jY:=match m with
 |[]=>match ofK l args with
  |some x=>some ⟨pre x,ret x,[]⟩|none=>none
 |_=>none
variable {G:List (Nat×AV)}{f:FuncId}{l:List AK}
def ae{pre:AKs l->Prop}{ret:AKs l->AV}(h:∀x,ah P G f (avK l x) [] ⟨pre x,ret x,[]⟩):
  ∀args m c,aj l pre ret args m=some c->ah P G f args m c:=by
 intro args m c b;unfold aj at b;split at b;split at b;rename_i x e;cases b;exact(h x).args λC us _ g=>fZ e g;cases b;cases b
def kOr(f0:FuncId)(k:List AV->Mem->Option jY)(K:Kt):Kt:=λf args m=>if f=f0 then k args m else K f args m
def af{i:FuncId}{k:List AV->Mem->Option jY}{K:Kt}(b:∀args m c,k args m=some c->ah P G i args m c)(g:ai P G K):ai P G (kOr i k K):=by
 intro f args m c h;unfold kOr at h;split at h;rename_i e;subst e;exact b args m c h;exact g f args m c h
def DT(l:List AK)(pre:AKs l->Prop)(ret:AKs l->AV)(b:AKs l->Blk)(args:List AV)(m:Mem):Option jY:=match m with
 |[]=>match ofK l args with
  |some x=>some ⟨pre x,ret x,[(0,b x)]⟩|none=>none
 |_=>none
def rI{pre:AKs l->Prop}{ret:AKs l->AV}{b:AKs l->Blk}(h:∀x,ah P G f (avK l x) [] ⟨pre x,ret x,[(0,b x)]⟩):
  ∀args m c,DT l pre ret b args m=some c->ah P G f args m c:=by
 intro args m c e;unfold DT at e;split at e;split at e;rename_i x g;cases e;exact(h x).args λC us _ i=>fZ g i;cases e;cases e
def A4(l:List AK)(q:AKs l->AH)(args:List AV)(m:Mem):Option AH:=match m with
 |[]=>match ofK l args with
  |some x=>some (q x)|none=>none
 |_=>none
def pOr(f0:FuncId)(k:List AV->Mem->Option AH)(KP:KPt):KPt:=λf args m=>if f=f0 then k args m else KP f args m
def lg{q:AKs l->AH}(h:∀x,dA P G f (avK l x) [] (q x)):∀args m r,A4 l q args m=some r->dA P G f args m r:=by
 intro args m r b;unfold A4 at b;split at b;split at b;rename_i x e;cases b;exact λi j w D E us y v g u=>h x i j w D E us y v (fZ e g) u;cases b;cases b
def jL{i:FuncId}{k:List AV->Mem->Option AH}{KP:KPt}(b:∀args m r,k args m=some r->dA P G i args m r)(g:bJ P G KP):bJ P G (pOr i k KP):=by
 intro f args m r h;unfold pOr at h;split at h;rename_i e;subst e;exact b args m r h;exact g f args m r h
def noP:KPt:=λ_ _ _=>none
def tG:bJ P G noP:=λf args m r h=>by cases h
def asVar(nm:Nat)(t:Ty):Mem->Option t.den|[(nm',.var [.dat t' x])]=>if nm'=nm then if h:t'=t then some (h▸x)else none else none|_=>none
variable {m:Mem}
def PU{b:Nat}{x:t.den}(h:asVar b t m=some x):m=[(b,.var [.dat t x])]:=by
 unfold asVar at h;split at h;split at h;rename_i e;split at h;rename_i f;subst e f;cases h;rfl;cases h;cases h;cases h
def xD(nm:Nat)(t:Ty)(l:List AK)(pre:AKs l->t.den->Prop)(ret:AKs l->t.den->AV)(upd:AKs l->t.den->t.den)(args:List AV)(m:Mem):Option jY:=match asVar nm t m,ofK l args with|some xs,some x=>some ⟨pre x xs,ret x xs,[(nm,.var [.dat t (upd x xs)])]⟩|_,_=>none
def sy{e:Nat}{pre:AKs l->t.den->Prop}{ret:AKs l->t.den->AV}{upd:AKs l->t.den->t.den}
  (h:∀x xs,ah P G f (avK l x) [(e,.var [.dat t xs])] ⟨pre x xs,ret x xs,[(e,.var [.dat t (upd x xs)])]⟩):∀args m c,xD e t l pre ret upd args m=some c->ah P G f args m c:=by
 intro args m c b;unfold xD at b;split at b;rename_i xs x j i;cases b;rw[PU j];exact(h x xs).args λC us _ g=>fZ i g;cases b
def aCI(nm:Nat)(t:Ty)(l:List AK)(q:AKs l->t.den->AH)(args:List AV)(m:Mem):Option AH:=match asVar nm t m,ofK l args with|some xs,some x=>some (q x xs)|_,_=>none
def x4{e:Nat}{q:AKs l->t.den->AH}(h:∀x xs,dA P G f (avK l x) [(e,.var [.dat t xs])] (q x xs)):∀args m r,aCI e t l q args m=some r->dA P G f args m r:=by
 intro args m r b;unfold aCI at b;split at b;rename_i xs x A z;cases b;rw[PU A];exact λi j w D E us y v g u=>h x xs i j w D E us y v (fZ z g) u;cases b
variable {p:Prop}{args:List AV}{A:Ann}{c:Cfg}
def zF{r:jY}(g:ai c.P c.G c.K)(i:bh c.P c.G c.KI)(hm:c.P.follows .mixedOrders=true)(h:p)(b:c.KP=λ_ _ _=>none:=by rfl)(e:evF c A f args m r=p:=by kernel_rfl):ah c.P c.G f args m r:=px g i hm (oE h e) b
def zM{ret:AV}{upd:Mem}{q:AH}(g:ai c.P c.G c.K)(i:bh c.P c.G c.KI)(hm:c.P.follows .mixedOrders=true)(b:bJ c.P c.G c.KP)(h:p)(e:evM c A f args m ret upd q=p:=by kernel_rfl):ah c.P c.G f args m ⟨q.pre/\q.ok=true,ret,upd⟩/\dA c.P c.G f args m q:=ti g i hm b (oE h e)
def zC{ret:AV}{q:AH}(g:ai c.P c.G c.K)(i:bh c.P c.G c.KI)(hm:c.P.follows .mixedOrders=true)(b:bJ c.P c.G c.KP)(h:p)(e:evC c A f args ret q=p:=by kernel_rfl):ah c.P c.G f args [] ⟨q.pre/\q.ok=true,ret,[]⟩/\dA c.P c.G f args [] q:=HH g i hm b (oE h e)
def zG{A Ac:Ann}{r:jY}(g:ai c.P c.G c.K)(i:bh c.P c.G c.KI)(hm:c.P.follows .mixedOrders=true)(b:bJ c.P c.G c.KP)(h:p)(e:evG c A Ac f args r=p:=by kernel_rfl):ah c.P c.G f args [] r:=HG g i hm b (oE h e)
variable {it:jX}
def zI{A:Ku}(g:ai c.P c.G c.K)(i:bh c.P c.G c.KI)(hm:c.P.follows .mixedOrders=true)(h:p)(b:c.KP=λ_ _ _=>none:=by rfl)(e:evI c A f args it=p:=by kernel_rfl):mU c.P c.G f args it:=sF g i hm (oE h e) b
def zN{A:aAF}(g:ai c.P c.G c.K)(i:bh c.P c.G c.KI)(hm:c.P.follows .mixedOrders=true)(h:p)(b:c.KP=λ_ _ _=>none:=by rfl)(e:aII c A f args it=p:=by kernel_rfl):mU c.P c.G f args it:=Mc g i hm (oE h e) b
def zL{A:Ku}(g:ai c.P c.G c.K)(i:bh c.P c.G c.KI)(hm:c.P.follows .mixedOrders=true)(h:p)(b:c.KP=λ_ _ _=>none:=by rfl)(e:evL c A f args it=p:=by kernel_rfl):Kr c.P c.G f args it:=Md g i hm (oE h e) b
def zR{Kz:Kt}{A A0 Ac:Ann}{r:jY}(b:ai c.P [] Kz)(i:ai c.P c.G c.K)(j:bh c.P c.G c.KI)(hm:c.P.follows .mixedOrders=true)(g:bJ c.P c.G c.KP)(h:p)(e:evR c Kz A0 A Ac f args r=p:=by kernel_rfl):ah c.P c.G f args [] r:=HD b i j hm g (oE h e)
abbrev EO(P:Program)(G:List (Nat×AV))(f:FuncId)(k:List AV->Mem->Option jY):Prop:=∀args m c,k args m=some c->ah P G f args m c
def T3{A:Type}(a:A):Prop:=a=a/\True
def L5{A B:Type}(a:A)(b:B)(r:Prop):Prop:=a=a/\b=b/\r
def T7{A B:Type}(a:A)(b:B):Prop:=a=a/\b=b/\True
def Q2{A B C:Type}(a:A)(b:B)(c:C)(r:Prop):Prop:=a=a/\b=b/\c=c/\r
def z6{A B C:Type}(a:A)(b:B)(c:C):Prop:=a=a/\b=b/\c=c/\True
def Q3{A B C D:Type}(a:A)(b:B)(c:C)(d:D)(r:Prop):Prop:=a=a/\b=b/\c=c/\d=d/\r
def z8{A B C D:Type}(a:A)(b:B)(c:C)(d:D):Prop:=a=a/\b=b/\c=c/\d=d/\True
def T2{A B C D E:Type}(a:A)(b:B)(c:C)(d:D)(e:E)(r:Prop):Prop:=a=a/\b=b/\c=c/\d=d/\e=e/\r
def v6{A B C D E:Type}(a:A)(b:B)(c:C)(d:D)(e:E):Prop:=a=a/\b=b/\c=c/\d=d/\e=e/\True
def T6{A B C D E F:Type}(a:A)(b:B)(c:C)(d:D)(e:E)(f:F)(r:Prop):Prop:=a=a/\b=b/\c=c/\d=d/\e=e/\f=f/\r
def z7{A B C D E F:Type}(a:A)(b:B)(c:C)(d:D)(e:E)(f:F):Prop:=a=a/\b=b/\c=c/\d=d/\e=e/\f=f/\True
def T4{A B C D E F G:Type}(a:A)(b:B)(c:C)(d:D)(e:E)(f:F)(g:G)(r:Prop):Prop:=a=a/\b=b/\c=c/\d=d/\e=e/\f=f/\g=g/\r
def k8{A B C D E F G:Type}(a:A)(b:B)(c:C)(d:D)(e:E)(f:F)(g:G):Prop:=a=a/\b=b/\c=c/\d=d/\e=e/\f=f/\g=g/\True
def T5{A B C D E F G H:Type}(a:A)(b:B)(c:C)(d:D)(e:E)(f:F)(g:G)(h:H)(r:Prop):Prop:=a=a/\b=b/\c=c/\d=d/\e=e/\f=f/\g=g/\h=h/\r
def w7{A B C D E F G H:Type}(a:A)(b:B)(c:C)(d:D)(e:E)(f:F)(g:G)(h:H):Prop:=a=a/\b=b/\c=c/\d=d/\e=e/\f=f/\g=g/\h=h/\True
def L3{A B C D E F G H I:Type}(a:A)(b:B)(c:C)(d:D)(e:E)(f:F)(g:G)(h:H)(i:I)(r:Prop):Prop:=a=a/\b=b/\c=c/\d=d/\e=e/\f=f/\g=g/\h=h/\i=i/\r
def w6{A B C D E F G H I:Type}(a:A)(b:B)(c:C)(d:D)(e:E)(f:F)(g:G)(h:H)(i:I):Prop:=a=a/\b=b/\c=c/\d=d/\e=e/\f=f/\g=g/\h=h/\i=i/\True
def L4(x r:Prop):Prop:=(x->x->x)/\r
def L7(x r:Prop):Prop:=(x->x->x)/\(x->x->x)/\r
def Q4(x r:Prop):Prop:=(x->x->x)/\(x->x->x)/\(x->x->x)/\r
attribute [simp] L4 L7 Q4 L5 Q2 Q3 T2 T6 T4 T5 L3 T3 T7 z6 z8 v6 z7 k8 w7 w6
theorem qc:((∀{A:Type} (a:A),T3 a=True)/\(∀{A B:Type} (a:A) (b:B) (r:Prop),L5 a b r=r)/\(∀{A B:Type} (a:A) (b:B),T7 a b=True)/\(∀{A B C:Type} (a:A) (b:B) (c:C) (r:Prop),Q2 a b c r=r)/\(∀{A B C:Type} (a:A) (b:B) (c:C),z6 a b c=True)/\(∀{A B C D:Type} (a:A) (b:B) (c:C) (d:D) (r:Prop),Q3 a b c d r=r)/\(∀{A B C D:Type} (a:A) (b:B) (c:C) (d:D),z8 a b c d=True)/\(∀{A B C D E:Type} (a:A) (b:B) (c:C) (d:D) (e:E) (r:Prop),T2 a b c d e r=r)/\(∀{A B C D E:Type} (a:A) (b:B) (c:C) (d:D) (e:E),v6 a b c d e=True)/\(∀{A B C D E F:Type} (a:A) (b:B) (c:C) (d:D) (e:E) (f:F) (r:Prop),T6 a b c d e f r=r)/\(∀{A B C D E F:Type} (a:A) (b:B) (c:C) (d:D) (e:E) (f:F),z7 a b c d e f=True)/\(∀{A B C D E F G:Type} (a:A) (b:B) (c:C) (d:D) (e:E) (f:F) (g:G) (r:Prop),T4 a b c d e f g r=r)/\(∀{A B C D E F G:Type} (a:A) (b:B) (c:C) (d:D) (e:E) (f:F) (g:G),k8 a b c d e f g=True)/\(∀{A B C D E F G H:Type} (a:A) (b:B) (c:C) (d:D) (e:E) (f:F) (g:G) (h:H) (r:Prop),T5 a b c d e f g h r=r)/\(∀{A B C D E F G H:Type} (a:A) (b:B) (c:C) (d:D) (e:E) (f:F) (g:G) (h:H),w7 a b c d e f g h=True)/\(∀{A B C D E F G H I:Type} (a:A) (b:B) (c:C) (d:D) (e:E) (f:F) (g:G) (h:H) (i:I) (r:Prop),L3 a b c d e f g h i r=r)/\(∀{A B C D E F G H I:Type} (a:A) (b:B) (c:C) (d:D) (e:E) (f:F) (g:G) (h:H) (i:I),w6 a b c d e f g h i=True)/\(∀x r:Prop,L4 x r=r)/\(∀x r:Prop,L7 x r=r)/\(∀x r:Prop,Q4 x r=r))/\((∀x y,Dz x true y=(x||y))/\(∀x y,Dz x y false=(x&&y))/\(∀{b:Prop}(α:Type)[Nonempty α],(∀_:α,b)↔b)/\(∀{b:Prop}(α:Prop)[Nonempty α],(α->b)↔b)/\(∀b,(true&&b)=b)/\(∀b,(b&&true)=b)/\(∀b,(false||b)=b)/\(∀b,(b||false)=b)/\(∀p,(True/\p)=p)/\(∀p,(p/\True)=p)/\(∀{a:Prop},a->a↔True)/\(∀α:Prop,(α->True)=True)/\(∀α:Type,(α->True)=True)/\(∀b,((!b)=true)=(b=false))/\(∀a b,((a||b)=true)=(a=true\/b=true))/\(∀{x y},(x||y)=false↔x=false/\y=false)/\(∀b,((!b)=false)=(b=true))/\(∀a b,((a&&b)=true)=(a=true/\b=true))/\(∀{x y},(x&&y)=false↔x=true->y=false)/\(∀b,(!!b)=b)/\(∀{α:Type}{p:α->Prop}{b},(∃a,p a/\a=b)↔p b)/\(∀{α:Type}{p:α->Prop}{b},(∃a,p a/\b=a)↔p b)/\(∀{α:Type}{p:α->Prop}{b},(∃a,a=b/\p a)↔p b)/\∀{α:Type}{p:α->Prop}{b},(∃a,b=a/\p a)↔p b):=⟨by simp[L4,L7,Q4,L5,Q2,Q3,T2,T6,T4,T5,L3,T3,T7,z6,z8,v6,z7,k8,w7,w6],⟨λx _=>by cases x<;>rfl,λx _=>by cases x<;>rfl,λα _=>gJ α,λα _=>gJ α,by simp⟩⟩
theorem qd:(∀n:Nat,(n:Int).toNat=n)/\(∀n,0+n=n)/\(∀n,n*1=n)/\(∀n:Nat,Int.ofNat n=n)/\(∀{p:Prop}[Decidable p],(decide p=true)=p)/\(∀{p:Prop}{x:Decidable p},decide p=false↔¬p)/\(∀{α:Type}[BEq α][LawfulBEq α]{a b:α},(a==b)=true↔a=b)/\(∀{α:Type}[BEq α][LawfulBEq α]{a b:α},(a != b)=true↔a≠b)/\(∀{α:Type}[BEq α][LawfulBEq α]{a b:α},(a==b)=false↔a≠b)/\∀{α:Type}[BEq α][LawfulBEq α]{a b:α},(a != b)=false↔a=b:=by simp;exact⟨kN,qDf,qAr,bne_eq_false_iff_eq⟩
def Z9{p q:Prop}(h:q)(e:p=q:=by conv=>lhs;simp only[qc,Dh,Eu,Dj,qd,Dt,Eb,Dw,Dn,Eh,Ef,Ed,Ez,Df,Eo,Dl,Dp,Es,Dy,Dx,Di,Dq,Ei,Fh,Dc,Ea,Dk,Ec,Ej,Du,Ey,Ew,Em,Ee,Fg,Fj,Fe,Et,En,Ep,Fb]):p:=e▸h
def Z8(i:Nat)(α:Type)(inv:α->Prop)(st:St->α->St)(μ:α->Nat):Ann:=⟨λid s=>if id=i then some {α:=α,inv:=inv,st:=st s,μ:=μ} else none,λ_ _=>none,λ_ _=>none⟩
abbrev Z0:=Value.slice none 0 0
abbrev Q1:=(0:Int)
end Go.Eng
set_option maxRecDepth 100000
noncomputable section
namespace Go.Eng.In
open Go.Proofs
noncomputable abbrev yv:=Tryz.prog
abbrev I:Ty:=.int .i64
abbrev B:Ty:=.sl .bool
abbrev R:Ty:=.sl I
abbrev M:Ty:=.sl R
abbrev LC:Type:=List (Int×List Bool×Li)
abbrev LB:Type:=List ByteArray
abbrev C:Ty:=.pair I (.pair B R)
abbrev S:Ty:=.str
abbrev eZ(t:TypeId)(e:Int):Value:=.iface t (.int .i64 e)
def big(x:Int):Prop:=-1000000000000<=x/\x<=1000000000000
def btw(x a b:Int):Bool:=decide (a<=x/\x<=b)
def bB(z t:Int):Int:=(t+z)/1440
def dS(z t:Int):Int:=(t+z)%1440
def Ha(z d m:Int):Int:=d*1440+m-z
def wkF(w:List Bool)(h:Li)(d:Int):Bool:=w.getD (d%7).toNat false&&!h.contains d
def ZQ(h:Li)(d:Int):Int:=((h.filter λx=>decide (x<d)).length:Int)
def srt(h:Li):Prop:=h.length<=1000000/\∀i j:Nat,i<j->j<h.length->h.getD i 0<h.getD j 0
def Rq(h:Li)(d i j:Int):Prop:=0<=i/\i<=j/\j<=h.length/\(∀k:Nat,(k:Int)<i->h.getD k 0<d)/\∀k:Nat,j<=k->k<h.length->d<=h.getD k 0
def Rr(h:Li)(d:Int):Bool:=h.contains d
def ic(z:Int)(w:List Bool)(h:Li):Bool:=decide (-720<=z/\z<=840/\w.length=7/\h.length<=40)&&(List.range (h.length-1)).all λi=>decide (h.getD i 0<h.getD (i+1) 0)
def F8(h:Li)(k:Int):Prop:=1<=k/\(k<=h.length\/k=1)/\h.length<=40/\∀i:Nat,(i:Int)+1<k->h.getD i 0<h.getD (i+1) 0
def wkP(w:List Bool)(h:Li)(d:Int):Prop:=w.length=7/\srt h/\big d
def jF(w:List Bool)(h:Li)(a b:Int):Li:=((List.range (b+1-a).toNat).map λ(i:Nat)=>a+(i:Int)).filter λd=>wkF w h d
def iT(w:List Bool)(h:Li)(a d:Int):Nat:=(((List.range (d-a).toNat).map λ(i:Nat)=>a+(i:Int)).filter λd=>wkF w h d).length
def wdP(w:List Bool)(h:Li)(a b:Int):Prop:=w.length=7/\srt h/\big a/\big b
def aDJ(a b d:Int):Prop:=a<=d/\(d<=b+1\/d=a)
def b7(xs:Li):Bool:=decide (0<xs.length)
def hd(xs:Li):Int:=xs.getD 0 0
def tl(xs:Li):Li:=xs.drop 1
def aKs:Kt:=λf args m=>none
def iU:List (Nat×AV):=[]
def KI0:FuncId->List AV->Option jX:=λ_ _=>none
noncomputable def mkc(K:Kt):Cfg:=⟨yv,iU,K,λ_=>false,KI0,false,λ_ _ _=>none,λ_=>false⟩
noncomputable def QG(K:Kt)(e:Tmp->Bool)(f:KPt)(b:FuncId->Bool):Cfg:=⟨yv,iU,K,e,KI0,false,f,b⟩
def gv(s:St):St:={s with tm:=s.tm.map aD7}
def W6(h:Li):Ann:=Z8 4 Int (F8 h) (λs k=>put s [(3,.dat I k)]) λk=>Dc (Di (Df h) k)
def bsA(h:Li)(d:Int):Ann:=Z8 3 (Int×Int) (λk=>Rq h d k.1 k.2) (λs k=>put s [(7,.dat I k.1),(8,.dat I k.2)]) λk=>Dc (Di k.2 k.1)
abbrev OX:=aj [.val I,.val I,.val I] (λ_=>True) λ(x,a,b,_)=>.dat .bool (btw x a b)
abbrev IX:=aj [.val I] (λ_=>True) λ_=>.dat .bool false
abbrev IW:=aj [.val I] (λ_=>True) λ_=>.dat .bool false
def aKr:Kt:=kOr 71 OX <|
 kOr 254 IX <|
 kOr 277 IW aKs
abbrev y4:=aj [.val I,.val I] (λ_=>True) λ(x,y,_)=>.dat .bool (Dn x y)
def aKq:Kt:=kOr 249 y4 aKr
abbrev U1:=aj [.val R,.val I] (λ(h,_,_)=>srt h) λ(h,d,_)=>.tup [.dat I (ZQ h d),.dat .bool (Rr h d)]
def aJv:Kt:=kOr 188 U1 aKq
def KPr:KPt:=pOr 37 (A4 [.val .bool,.val I] λ(b,e,_)=>⟨True,b,eZ 40 e⟩) noP
abbrev B5:=aj [.ptr C,.val I] (λ(c,d,_)=>wkP c.2.1 c.2.2 d) λ(c,d,_)=>.dat .bool (wkF c.2.1 c.2.2 d)
abbrev CO:=aj [.ptr C,.val I] (λ(c,t,_)=>big c.1/\big t) λ(c,t,_)=>.tup [.dat I (bB c.1 t),.dat I (dS c.1 t)]
abbrev OL:=aj [.ptr C,.val I,.val I] (λ(c,d,m,_)=>big c.1/\big d/\big m) λ(c,d,m,_)=>.dat I (Ha c.1 d m)
abbrev UY:=aj [.row C] (λ_=>True) λ(c,_)=>.dat .bool (ic c.1 c.2.1 c.2.2)
abbrev tM:=aj [.ptr C,.val I,.val I] (λ_=>True) λ(c,a,b,_)=>.fn 130 [.ip I a,.ip I b,.ipv (.ip C c)]
def aHb:Kt:=kOr 131 B5 <|
 kOr 81 CO <|
 kOr 77 OL <|
 kOr 73 UY <|
 kOr 76 tM <|
 kOr 37 (aj [.val .bool,.val I] (λ(b,_)=>True/\b=true) λ_=>.tup []) aJv
def wdA(w:List Bool)(h:Li)(a b:Int):Ku:=⟨λe y=>match e with
 |1=>some {α:=Int,inv:=λd=>aDJ a b d,st:=λd=>⟨put y.s [(5,.dat I d)],iT w h a d,true⟩,μ:=λd=>Dc (Di (Dq b 1) d)}|_=>none,λ_ _=>none,λe=>e==3⟩
def cR:Cfg:=QG aHb (λ_=>false) KPr (λf=>f==37)
def aGY(x y:Bool):Dz x true y=(x||y):=by cases x<;>rfl
def VX(x y:Bool):Dz x y false=(x&&y):=by cases x<;>rfl
def hm:yv.follows .mixedOrders=true:=by kernel_rfl
def Z5:ai yv iU aKs:=λf args m c h=>by cases h
def gC:bh yv iU KI0:=λf args c h=>by cases h
def zE{K:Kt}{A:Ann}{f:FuncId}{args:List AV}{m:Mem}{r:jY}{p:Prop}(b:ai yv iU K)(h:p)(e:evF (mkc K) A f args m r=(true=true/\p):=by kernel_rfl):ah yv iU f args m r:=px (c:=mkc K) b gC hm (by rw[e];exact⟨rfl,h⟩)
abbrev eO:=EO yv iU
def pP{x a b:Int}:btw x a b=true↔a<=x/\x<=b:=by unfold btw;rw[qE]
def bj{α:Type}{l:List α}{i:Nat}{d:α}(h:i<l.length):l.getD i d∈l:=by
 rw[qA,qB h];exact wL h
def aH9:eO 71 OX:=ae λ((x:Int),(a:Int),(b:Int),_)=>by
 refine zE (A:=az) (p:=let e:=Ed x a;(True->L7 e ((Dh true e->Ed x a)/\Dz e (Ef x b) false=btw x a b/\True))) Z5 λ_=>?_;refine Z9 ?_;unfold btw;simp
def aEn:eO 254 IX:=ae λ((x:Int),_)=>zE (A:=az) (p:=(True->Dw x x=false/\True)) Z5 λ_=>⟨by simp,trivial⟩
def aEm:eO 277 IW:=ae λ((x:Int),_)=>zE (A:=az) (p:=(True->Dw x x=false/\True)) Z5 λ_=>⟨by simp,trivial⟩
def aGq:ai yv iU aKr:=af aH9<|af aEn<|af aEm Z5
def XD:eO 249 y4:=ae λ((x:Int),(y:Int),_)=>by
 refine zE (A:=az) (p:=let e:=Dz false (Dj false) false;let b:=Dj e;(True->True/\L4 false ((false->True)/\L4 false ((Dh true false->false)/\L7 b ((Dh true b->b)/\Dz e true (Dn x y)=Dn x y/\True))))) aGq λ_=>?_;simp only[qc,Dh,Eu,Dj,yX,Dz,qAz,yL,wG,qCv]
def aGp:ai yv iU aKq:=af XD aGq
def Tt{h:Li}(b:srt h){i j:Nat}(f:i<=j)(e:j<h.length):h.getD i 0<=h.getD j 0:=by
 rcases zT i j with g|g;exact Int.le_of_lt (b.2 i j g e);have:i=j:=by omega
 rw[this];exact qH _
def aF9{h:Li}{d i:Int}(z:srt h)(G:Rq h d i i):i=ZQ h d/\(Rr h d=true↔i<h.length/\h.getD i.toNat 0=d):=by
 obtain⟨T,_,O,u,r⟩:=G;constructor;unfold ZQ;have e:h=h.take i.toNat++h.drop i.toNat:=(kJ _ _).symm;have y:(h.take i.toNat).filter (λx=>decide (x<d))=h.take i.toNat:=List.filter_eq_self.2 λx f=>by
  obtain⟨k,b,rfl⟩:=wX.1 f;rw[qP]at b;have:=u k Z;rw[qA,qB Z]at this;rw[qDc];exact qU this
 have v:(h.drop i.toNat).filter (λx=>decide (x<d))=[]:=qBd.2 λx f=>by
  obtain⟨k,b,rfl⟩:=wX.1 f;rw[wM]at b;have:=r (i.toNat+k) Z Z;rw[qA,qB Z]at this;rw[List.getElem_drop];simpa using this
 rw[e,yO,y,v,wB,qP];omega;unfold Rr;rw[qBj];constructor;intro hm;obtain⟨k,b,e⟩:=wX.1 hm;have V:h.getD k 0=d:=by rw[qA,qB b];exact e
 have L:¬(k:Int)<i:=λg=>by have:=u k g;omega
 refine⟨Z,?_⟩;have:=Tt z (i:=i.toNat) (j:=k) Z b;have:=r i.toNat Z Z;omega;rintro⟨A,e⟩;rw[<- e];exact bj Z
def aD{x:Int}(h:-4000000000000000<=x/\x<=4000000000000000):inR .i64 x:=⟨show(-9223372036854775808:Int)<=x by omega,show x<=9223372036854775807 by omega⟩
def aKx:eO 188 U1:=ae λ((h:Li),(d:Int),_)=>by
 refine zE (A:=(lvA [(3,[0,1,4,5,6,7,8,9])] (bsA h d))) (p:=(srt h->(∃(x:Int×Int),Rq h d x.1 x.2/\T2 h d Q1 false (Df h) (0=x.1/\Df h=x.2/\True))/\∀(x:Int×Int),let i:=Dn x.1 x.2;let g:=x.1+x.2;let f:=Gi g 1;let j:=Dn (Du h (Dc f) 0) d;let r:=f+1;let e:=Dn x.1 (Df h);let u:=Eb (Du h (Dc x.1) 0) d;let b:=Dh e (Dj u);Rq h d x.1 x.2->(i->inR .i64 g/\inR IntKind.u64 g/\Dl 0 1/\Dc 1<=64/\inR .i64 f/\0<=f/\f<Df h/\True/\(j->inR .i64 r/\∃(y:Int×Int),Rq h d y.1 y.2/\(T2 h d Q1 false (Df h) (r=y.1/\x.2=y.2/\True))/\Dc (y.2-y.1)<Dc (x.2-x.1))/\(j=false->∃(y:Int×Int),Rq h d y.1 y.2/\(T2 h d Q1 false (Df h) (x.1=y.1/\f=y.2/\True))/\Dc (y.2-y.1)<Dc (x.2-x.1)))/\(i=false->(e->e->e)/\(e->e->e)/\(e->0<=x.1)/\(e->x.1<Df h)/\(e->e->e)/\(e->e->e)/\(e->e->e)/\(e->e->e)/\(b->b->b)/\(b->b->b)/\(b->0<=x.1)/\(b->x.1<Df h)/\(b->b->b)/\(b->b->b)/\(b->True)/\(b->b->b)/\(Dh b false->Dh b false->Dh b false)/\(Dh b false->True)/\(b->b->b)/\(b->Dh b false->Dh b false)/\(e->e->e)/\(e->b->b)/\(Dh true e->e)/\x.1=ZQ h d/\Dz e (Dz u true (Dz false false false)) false=Rr h d/\True))) aGp λu=>?_;have hl:=u.1;refine⟨⟨(0,Df h),⟨qH _,qI _,qH _,λk g=>Z,λk g1 g2=>by simp only[Df]at g1;omega⟩,?_⟩,λ⟨i,j⟩=>?_⟩;simp;intro c1 c2 c3 c4 c5 aW c7 b G;have z:=G;obtain⟨L,h2,h3,h4,h5⟩:=G;have e3:c3=(i+j)/2:=by
  show(i+j).fdiv (2 ^ (1:Int).toNat)=_;rw[qCy _ (by decide)];rfl
 have X:c2=i+j:=rfl;have e5:c5=c3+1:=rfl;have e1:c1=decide (i<j):=rfl;have V:c4=decide (h.getD c3.toNat 0<d):=rfl;have v:inR .u64 c2:=by
  rw[X];exact⟨show(0:Int)<=i+j by omega,show i+j<=18446744073709551615 by omega⟩
 clear_value c1 c2 c3 c4 c5;constructor;intro f;rw[e1,qE]at f;refine⟨by rw[X];exact aD Z,v,by decide,by decide,aD Z,by show(0:Int)<=c3;omega,by show c3<(h.length:Int);omega,trivial,λe=>?_,λe=>?_⟩;rw[V,qE]at e;refine⟨by rw[e5];exact aD Z,(c5,j),⟨Z,Z,h3,λk hk=>?_,h5⟩,by simp,?_⟩;have:=Tt u (i:=k) (j:=c3.toNat) Z Z;omega;simp only[Dx,Dc,Di];omega;rw[V,wE]at e;refine⟨(i,c3),⟨L,Z,Z,h4,λk hk hk2=>?_⟩,by simp,?_⟩;have:=Tt u (i:=c3.toNat) (j:=k) Z Z;omega;simp only[Dx,Dc,Di];omega
 .intro f;rw[e1,wE]at f;have:i=j:=Z;subst this;obtain⟨b1,b2⟩:=aF9 u z;have T:aW=decide (i<h.length):=rfl;have e7:c7=decide (h.getD i.toNat 0=d):=rfl;have e8:b=(aW&&!c7):=rfl;clear_value aW c7 b;have r:aW=true->i<(h.length:Int):=λg=>by rw[T]at g;exact vT g
  have O:b=true->aW=true:=λg=>by rw[e8,qC]at g;exact g.1
  simp only[qc,Dh,Eu,Dj]
  and_intros
  all_goals first
   |exact λ_=>L
   |exact r
   |exact λg=>r (O g)
   |exact b1
   |exact λg=>O g
   |skip
  rw[xC,b2,T,e7];simp
def Kq:ai yv iU aJv:=af aKx aGp
def vf{a m:Int}(h:0<m):(a.tmod m+m).tmod m=a%m:=by
 have e:=gZ (a:=a) (b:=m);have r:=kH a (show m≠0 by omega);have j:=xB a h;have i:(m.natAbs:Int)=m:=Z;have f:a.tmod m=a%m\/a.tmod m=a%m-m:=by
  rw[e];split;exact .inl Z;exact .inr Z
 have g:0<=a.tmod m+m:=Z;rw[qCx g];rcases f with f|f<;>rw[f];rw[Int.add_emod_right,Int.emod_emod_of_dvd _ (Int.dvd_refl _)];rw[Int.sub_add_cancel,Int.emod_emod_of_dvd _ (Int.dvd_refl _)]
def aAR:eO 131 B5:=ae λ(((z:Int),(w:List Bool),(h:Li)),(d:Int),_)=>by
 refine zE (A:=az) (p:=let e:=Fp d 7+7;let b:=Fp e 7;let f:=Dj (Du w (Dc b) false);(wkP w h d->Es 7 0/\inR .i64 e/\Es 7 0/\0<=b/\b<Df w/\(f->false=wkF w h d/\True)/\(f=false->srt h/\Dj (Rr h d)=wkF w h d/\True))) Kq λ⟨i,j,v⟩=>?_;have e:=vf (a:=d) (m:=7) (by decide);have g:=kH d (show(7:Int)≠0 by decide);have u:=xB d (show(0:Int)<7 by decide);have r:-7<d.tmod 7/\d.tmod 7<7:=by
  have:=gZ (a:=d) (b:=7);split at this<;>omega
 simp only[Fp,Dq,e,Dj,Du,Dc,Dl,Dp,Es,Df,i];refine⟨by decide,aD Z,by decide,g,Z,λf=>⟨?_,trivial⟩,λf=>⟨j,?_,trivial⟩⟩;unfold wkF;rw[yC]at f;rw[f];rfl;unfold wkF Rr;rw[gB]at f;rw[f];rfl
def aBo:eO 81 CO:=ae λ(((z:Int),(w:List Bool),(h:Li)),(t:Int),_)=>by
 refine zE (A:=az) (p:=let b:=Fp (t+z) 1440+1440;let e:=Fp b 1440;let f:=(t+z)-e;let g:=Gf f 1440;(big z/\big t->inR .i64 (t+z)/\Es 1440 0/\inR .i64 b/\Es 1440 0/\inR .i64 f/\Es 1440 0/\inR .i64 g/\g=bB z t/\e=dS z t/\True)) Kq λ⟨g,i⟩=>?_;obtain⟨u,r⟩:=g;obtain⟨t1,t2⟩:=i;have e:=vf (a:=t+z) (m:=1440) (by decide);have G:=kH (t+z) (show(1440:Int)≠0 by decide);have y:=xB (t+z) (show(0:Int)<1440 by decide);have v:-1440<(t+z).tmod 1440/\(t+z).tmod 1440<1440:=by
  have:=gZ (a:=t+z) (b:=1440);split at this<;>omega
 have j:(t+z-(t+z)%1440).tdiv 1440=(t+z)/1440:=by
  have:t+z-(t+z)%1440=1440*((t+z)/1440):=Z;rw[this,qDp _ (by decide)]
 have f:∀{x:Int},-4000000000000<=x->x<=4000000000000->inR .i64 x:=λ{x} O L=>⟨show(-9223372036854775808:Int)<=x by omega,show x<=9223372036854775807 by omega⟩;simp only[Fp,Dq,Di,Gf,e,j];exact⟨f Z Z,by decide,f Z Z,by decide,f Z Z,by decide,f Z Z,rfl,rfl,trivial⟩
def aHR:eO 77 OL:=ae λ(((z:Int),(w:List Bool),(h:Li)),(d:Int),(m:Int),_)=>by
 refine zE (A:=az) (p:=let b:=d*1440;let e:=b+m;let f:=e-z;(big z/\big d/\big m->inR .i64 b/\inR .i64 e/\inR .i64 f/\f=Ha z d m/\True)) Kq λ⟨⟨f,e⟩,⟨v,u⟩,⟨i,g⟩⟩=>?_;have b:∀{x:Int},-4000000000000000<=x->x<=4000000000000000->inR .i64 x:=λ{x} r j=>⟨show(-9223372036854775808:Int)<=x by omega,show x<=9223372036854775807 by omega⟩;exact⟨b Z Z,b Z Z,b Z Z,rfl,trivial⟩
def G7(z:Int)(w:List Bool)(h:Li):Prop:=(-720<=z/\z<=840/\w.length=7/\h.length<=40)/\∀i:Nat,i+1<h.length->h.getD i 0<h.getD (i+1) 0
def kj{z:Int}{w:List Bool}{h:Li}:ic z w h=true↔G7 z w h:=by
 unfold ic G7;rw[qC,qE,qQ];refine and_congr_right λ_=>⟨λg i b=>?_,λg i b=>?_⟩;have:=g i (qW.2 Z);simpa using this;have:=qW.1 b;simpa using g i Z
def s9{z:Int}{w:List Bool}{h:Li}(e:¬G7 z w h):false=ic z w h:=by
 cases b:ic z w h with
 |false=>rfl|true=>exact(e (kj.1 b)).elim
def RU{z:Int}{w:List Bool}{h:Li}(e:ic z w h=true):srt h:=by
 obtain⟨⟨_,_,_,v⟩,r⟩:=kj.1 e;refine⟨Z,λi j f u=>?_⟩;induction j with
 |zero=>omega|succ j b=>
  have:=r j Z;rcases zT i j with g|g;have:=b g Z;omega;have:i=j:=by omega
  rw[this];assumption
def aKu:eO 73 UY:=ae λ(((z:Int),(w:List Bool),(h:Li)),_)=>by
 refine zE (A:=(lvA [(4,[1,2,3])] (W6 h))) (p:=let j:=Dj (btw z (-720) 840);let f:=Dj j;let r:=Dz j true (Dw (Df w) 7);let i:=Dj r;let u:=Dz r true (Eh (Df h) 40);let e:=(z,w,h);(True->True/\Q4 f ((Dh true f->f)/\Q4 i ((Dh true i->i)/\(u->false=ic z w h/\True)/\(u=false->(∃x,F8 h x/\e=e/\1=x/\True)/\∀(x:Int),let v:=Dn x (Df h);let g:=x-1;let A:=Ef (Du h (Dc x) 0) (Du h (Dc g) 0);let b:=x+1;F8 h x->(v->0<=x/\x<Df h/\inR .i64 g/\0<=g/\g<Df h/\(A->false=ic z w h/\True)/\(A=false->inR .i64 b/\∃y,F8 h y/\(e=e/\b=y/\True)/\Dc (Df h-y)<Dc (Df h-x)))/\(v=false->true=ic z w h/\True)))))) Kq λ_=>?_;have V:btw z (-720) 840=decide (-720<=z/\z<=840):=rfl;simp only[V];refine Z9 ?_;refine⟨λhb=>s9 λr=>?_,λ⟨⟨⟨h1,h2⟩,h3⟩,h4⟩=>⟨⟨qH _,.inr rfl,Z,λi v=>Z⟩,λx f=>⟨λu=>?_,λT=>(kj.2 ⟨⟨Z,Z,Z,Z⟩,λi v=>f.2.2.2 i Z⟩).symm⟩⟩⟩;obtain⟨⟨g1,g2,g3,g4⟩,_⟩:=r;omega;have G:=f.1;have j:=f.2.2.1;refine⟨Z,u,aD Z,Z,Z,λO=>s9 λr=>?_,λL=>⟨aD Z,x+1,⟨Z,Z,j,λi v=>?_⟩,rfl,Z⟩⟩;have:=r.2 (x-1).toNat Z;rw[show(x-1).toNat+1=x.toNat by omega]at this;omega;by_cases e:(i:Int)+1<x;exact f.2.2.2 i e;have e1:(x-1).toNat=i:=by omega
 have X:x.toNat=i+1:=Z;rw[e1,X]at L;omega
def SA:eO 76 tM:=ae λ(((z:Int),(w:List Bool),(h:Li)),(a:Int),(b:Int),_)=>zE (A:=az) (p:=let e:=(z,w,h);(True->z6 a b e)) Kq λ_=>⟨rfl,rfl,rfl,trivial⟩
def aEl(b:Bool)(e:Int):ah yv iU 37 [.dat .bool b,.dat I e] [] ⟨True/\b=true,.tup [],[]⟩/\dA yv iU 37 [.dat .bool b,.dat I e] [] ⟨True,b,eZ 40 e⟩:=by
 refine zC (c:=mkc aJv) (A:=az) (q:=⟨True,b,eZ 40 e⟩) Kq gC hm tG (p:=let f:=chainOf (Value.iface 40 (Value.int .i64 e));true/\(True->(Dj b->(true->True/\(false=false->b=false/\true/\f=f))/\True)/\(Dj b=false->b/\True))) ⟨rfl,λ_=>⟨λh=>⟨λ_=>⟨trivial,λ_=>⟨?_,rfl,rfl⟩⟩,trivial⟩,λh=>⟨?_,trivial⟩⟩⟩;simpa using h;simpa using h
def aED(e:Int):ah yv iU 35 [.ifc 40 (.dat I e)] [] ⟨True,.dat I e,[]⟩:=
 zE (A:=az) (p:=(True->(true->T3 e)/\(true=false->190=e/\True))) Kq λ_=>⟨λ_=>⟨rfl,trivial⟩,λh=>by cases h⟩
def RI:ai yv iU aHb:=af aAR<|af aBo<|af aHR<|af aKu<|af SA<|af (ae λ(b,e,_)=>(aEl b e).1) Kq
def PZ:bJ yv iU KPr:=jL (lg λ(b,e,_)=>(aEl b e).2) tG
def Jz{α:Type}{f:Nat->α}{p:α->Bool}{k:Nat}(g:p (f k)=true):∀N:Nat,k<N->(((List.range N).map f).filter p)[(((List.range k).map f).filter p).length]?=some (f k)
 |0,h=>Z|N+1,h=>by
  rw[zS,zZ,yO];rcases zT k N with i|i;have b:=Jz g N i;rw[vS (qG.1 b).1];exact b;have e:N=k:=by omega
  subst e;rw[vJ (qM _),qBg];simp[g]
def Wj{w:List Bool}{h:Li}{a b x:Int}(r:a<=x)(j:x<=b)(g:wkF w h x=true):nB (jF w h a b) (iT w h a x) x:=by
 have e:a+((x-a).toNat:Int)=x:=Z;have:=Jz (f:=λ(i:Nat)=>a+(i:Int)) (p:=λd=>wkF w h d) (k:=(x-a).toNat) (by simp only[e];exact g) (b+1-a).toNat Z;simp only[e]at this;exact this
def D4{w:List Bool}{h:Li}{a x:Int}(b:a<=x):iT w h a (x+1)=iT w h a x+(if wkF w h x then 1 else 0):=by
 unfold iT;rw[show(x+1-a).toNat=(x-a).toNat+1 by omega,zS,zZ,yO,qF];have e:a+((x-a).toNat:Int)=x:=Z;congr 1;simp only[zO,qBx,e,yR,gQ];split<;>simp_all
def Rl(w:List Bool)(h:Li)(a:Int):iT w h a a=0:=by
 unfold iT;rw[show(a-a).toNat=0 by omega];rfl
def VV{w:List Bool}{h:Li}{a b x:Int}(f:aDJ a b x)(g:¬x<=b):iT w h a x=(jF w h a b).length:=by
 unfold iT jF;have e:(x-a).toNat=(b+1-a).toNat:=by
  rcases f with⟨j,i|i⟩<;>omega
 rw[e]
def aHo(z a b:Int)(w:List Bool)(h:Li):mU yv iU 130 [.ip I a,.ip I b,.ipv (.ip C (z,w,h))] ⟨wdP w h a b,I,jF w h a b⟩:=by
 refine zI (c:=mkc aHb) (A:=(wdA w h a b)) RI gC hm (p:=let j:=(z,w,h);let u:=jF w h a b;let r:=Dk u;let f:=b+1;true/\true/\true/\false=false/\∀(l:Nat),wdP w h a b->(∃x,aDJ a b x/\(Q3 l a b j (a=x/\T3 a))/\0=iT w h a x/\true)/\∀(x:Int),let e:=iT w h a x;let v:=e+1;let i:=x+1;let G:=Dz (wkF w h x) (Dj false) false;aDJ a b x->(Ef x b->wkP w h x/\(wkF w h x->(wkF w h x->wkF w h x)/\(wkF w h x->wkF w h x)/\l=l/\true/\nB u e x/\∀(g:Bool),let A:=Dz (wkF w h x) (Dj g) false;(Dh true (wkF w h x)->wkF w h x)/\(A->g->v=r)/\(A=false->inR IntKind.i64 i/\∃y,aDJ a b y/\((Q3 l a b j (i=y/\T3 a))/\v=iT w h a y/\g)/\Dc (f-y)<Dc (f-x)))/\(wkF w h x=false->L4 (wkF w h x) ((Dh true (wkF w h x)->wkF w h x)/\(G->true->e=r)/\(G=false->inR .i64 i/\∃y,aDJ a b y/\((Q3 l a b j (i=y/\T3 a))/\e=iT w h a y/\true)/\Dc (f-y)<Dc (f-x)))))/\(Ef x b=false->true->e=r)) ⟨rfl,rfl,rfl,rfl,λl ⟨T,V,⟨a1,a2⟩,⟨b1,b2⟩⟩=>?_⟩;refine⟨⟨a,⟨qH _,.inr rfl⟩,⟨rfl,rfl,rfl,rfl,rfl,rfl,trivial⟩,(Rl w h a).symm,rfl⟩,λx O=>?_⟩;obtain⟨j,L⟩:=O;refine⟨λf=>?_,λr _=>VV ⟨j,L⟩ (by simpa using r)⟩;have f:x<=b:=by simpa using f
 have X:big x:=⟨Z,Z⟩;refine⟨⟨T,V,X⟩,λe=>⟨λh=>h,λh=>h,rfl,rfl,Wj j f e,λbb=>⟨λ_=>e,λh9 u=>?_,λh9=>?_⟩⟩,λe=>⟨λ_ h=>h,λ_=>?_,λv _=>?_,λv=>?_⟩⟩;rw[e,u]at h9;cases h9;rw[e]at h9;have:bb=true:=by simpa[Dz,Dj]using h9
 refine⟨aD Z,x+1,⟨Z,.inl Z⟩,⟨⟨rfl,rfl,rfl,rfl,rfl,rfl,trivial⟩,?_,this⟩,?_⟩;rw[D4 j,e];rfl;simp only[Dx,Dc,Di,Dq];omega;rename_i i;rw[e]at i;cases i;rw[e]at v;cases v;refine⟨aD Z,x+1,⟨Z,.inl Z⟩,⟨⟨rfl,rfl,rfl,rfl,rfl,rfl,trivial⟩,?_,rfl⟩,?_⟩;rw[D4 j,e];rfl;simp only[Dx,Dc,Di,Dq];omega
def vL(xs:Li):ah yv iU 128 [.ptr 1 1 0 0] [(1,.var [.dat R xs])] ⟨True/\b7 xs=true,.dat I (hd xs),[(1,.var [.dat R (tl xs)])]⟩/\dA yv iU 128 [.ptr 1 1 0 0] [(1,.var [.dat R xs])] ⟨True,b7 xs,eZ 40 190⟩:=by
 refine zM (c:=cR) (A:=az) (q:=⟨True,b7 xs,eZ 40 190⟩) RI gC hm PZ (p:=let b:=Eh (Df xs) 0;let e:=chainOf (Value.iface 40 (Value.int .i64 (190:Int)));true/\(True->T2 1 1 1 1 0 ((true->True/\(b=false->b7 xs=false/\true/\e=e))/\((true->b)->(True/\b)/\Q3 1 1 1 0 (Dl 0 0/\0<Df xs/\Q3 1 1 1 0 (Dl 0 1/\1<=Df xs/\Q3 1 1 1 0 (b7 xs/\Du xs (Dc 0) 0=hd xs/\Fg xs 1=tl xs/\T3 1))))))) ⟨rfl,λ_=>?_⟩;have e:Eh (Df xs) 0=b7 xs:=by unfold b7;simp
 simp only[e];refine Z9 ?_;refine λh=>?_;have b:0<xs.length:=by unfold b7 at h;simpa using h
 exact⟨h,qH _,Z,by decide,Z,h,rfl,rfl⟩
def Yb(st:Int×Int)(x:Int):Int×Int:=(st.1*3%65521,(st.2+x*(st.1*3%65521))%65521)
def Qq(st:Int×Int)(l:List Int):Int×Int:=l.foldl Yb st
def NF(l:List Int):Int:=(Qq (1,0) l).2
def HU(st:Int×Int)(x:Int)(l:List Int):Qq st (x::l)=Qq (Yb st x) l:=rfl
def Yc(st:Int×Int)(a b:List Int):Qq st (a++b)=Qq (Qq st a) b:=by
 unfold Qq;exact List.foldl_append
def aIr(st:Int×Int):Prop:=(0<=st.1/\st.1<65521)/\(0<=st.2/\st.2<65521)
def Ya(st:Int×Int)(x:Int):aIr (Yb st x):=
 ⟨⟨Int.emod_nonneg _ (by decide),Int.emod_lt_of_pos _ (by decide)⟩,⟨Int.emod_nonneg _ (by decide),Int.emod_lt_of_pos _ (by decide)⟩⟩
def TQ:∀(l:List Int) {st:Int×Int},aIr st->aIr (Qq st l)|[],_,h=>h|x::l,st,_=>TQ l (Ya st x)
def inv(p:Int):Prop:=∃q:Int,p*q%65521=1
def Y4{p:Int}(h:inv p):inv (p*3%65521):=by
 obtain⟨q,b⟩:=h;refine⟨q*43681,?_⟩;rw[Int.mul_emod,Int.emod_emod_of_dvd _ (Int.dvd_refl _),<- Int.mul_emod];have e:p*3*(q*43681)=p*q*131043:=by
  rw[Int.mul_assoc,Int.mul_left_comm 3 q 43681,<- Int.mul_assoc];rfl
 rw[e,Int.mul_emod,b];rfl
def aCU:∀(l:List Int) {st:Int×Int},inv st.1->inv (Qq st l).1|[],_,h=>h|_::l,_,h=>aCU l (Y4 h)
def aCh:∀(l:List Int) {p s t:Int},0<=s->s<65521->0<=t->t<65521->s≠t->(Qq (p,s) l).2≠(Qq (p,t) l).2
 |[],_,_,_,_,_,_,_,h=>h|x::l,p,s,t,s0,f,b,t1,h=>by
  rw[HU,HU];have e:∀y:Int,Yb (p,y) x=(p*3%65521,(y+x*(p*3%65521))%65521):=λ_=>rfl;rw[e,e];generalize x*(p*3%65521)=z;exact aCh l (Int.emod_nonneg _ (by decide)) (Int.emod_lt_of_pos _ (by decide)) (Int.emod_nonneg _ (by decide)) (Int.emod_lt_of_pos _ (by decide)) (by omega)
abbrev Ce:Ty:=.pair R I
abbrev Pl:Ty:=.pair I (.pair I (.pair M (.sl M)))
abbrev Plan:=Int×Int×Lj×List (Lj)
def L1(l:Li):Prop:=l.length<=2000000000000000
def YT(l:Li):Prop:=l.length<=9223372036854775807
def sP(l:Li)(k:Int):Int:=(Qq (1,0) (l.take k.toNat)).1
def sS(l:Li)(k:Int):Int:=(Qq (1,0) (l.take k.toNat)).2
def rl(l:Li):Li:=l.map λx=>x%65521
def mP(l:Li):Int:=NF (rl l)
def rF(l:Li):Bool:=l.all λx=>btw x 0 65519
def ig(l:Li)(s:Int):Bool:=rF l&&decide (s=NF l)
def aCV(l:Li)(k:Int):Prop:=0<=k/\k<=l.length/\rF (l.take k.toNat)=true
def nC(l:Li)(k:Int):Prop:=0<=k/\k<=l.length
def fb(g:Int->Int->Int)(n:Int):Lj:=(List.range n.toNat).map λi:Nat=>(List.range n.toNat).map λj:Nat=>g i j
def ij(g:Int->Int->Int)(n i:Int):Lj:=(fb g n).take i.toNat++List.replicate (n.toNat-i.toNat) []
def jI(g:Int->Int->Int)(n i j:Int):Li:=((List.range n.toNat).map λj:Nat=>g i j).take j.toNat++List.replicate (n.toNat-j.toNat) 0
def pV(k n:Int):Prop:=0<=k/\(k<=n\/k=0)
def tg(l:Li)(m i j:Int):Int:=l.getD (i*m+j).toNat 0-1
def oU(m:Int)(l:Li):Lj:=fb (tg l m) m
def bY(l:Li)(k:Int):Li:=l.drop k.toNat
def pZ(m:Int)(l:Li):Bool:=decide (m*m<=l.length)
def fk(l:Li):Prop:=rF l=true/\L1 l
def mV(m:Int)(l:Li):Prop:=0<=m/\m<=12/\fk l
def Xl(m:Int)(l:Li)(k:Int):Prop:=pV k m/\k*m<=l.length
def Nu(m:Int)(l:Li)(i k:Int):Prop:=pV k m/\i*m+k<=l.length
def AL(q m:Int)(l:Li):List (Lj):=(List.range q.toNat).map λk:Nat=>oU m (bY l ((k:Int)*(m*m)))
def pY(q m:Int)(l:Li)(k:Int):List (Lj):=(AL q m l).take k.toNat++List.replicate (q.toNat-k.toNat) []
def aGN(q m:Int)(l:Li)(k:Int):Prop:=pV k q/\(k+1)*(m*m)<=l.length-4
def xh(l:Li):Bool:=decide (l.getD 2 0<=12/\l.getD 3 0<=4/\l.getD 0 0<l.getD 1 0/\l.getD 1 0<=l.getD 0 0+60/\l.getD 1 0<=600)
def pR(l:Li):Bool:=decide (4<=l.length)&&xh l&&decide (4+l.getD 2 0*l.getD 2 0+l.getD 3 0*(l.getD 2 0*l.getD 2 0)<=l.length)
def aC(l:Li):Plan:=(l.getD 0 0,l.getD 1 0,oU (l.getD 2 0) (bY l 4),AL (l.getD 3 0) (l.getD 2 0) (bY l (4+l.getD 2 0*l.getD 2 0)))
def cz(l:Li):Li:=bY l (4+l.getD 2 0*l.getD 2 0+l.getD 3 0*(l.getD 2 0*l.getD 2 0))
def at0(l:Li)(k:Nat):Int:=l.getD k 0
def Qw(q m:Int)(l:Li)(k:Int):Li:=bY l (4+m*m+k*(m*m))
def aKC(l:Li):Ann:=Z8 3 Int (aCV l) (λs k=>put (gv s) [(10,.dat I k),(3,.dat I (sP l k)),(4,.dat I (sS l k))]) λk=>Dc (Di (Df l) k)
def aD5(l:Li):Ann:=Z8 3 Int (nC l) (λs k=>put (gv s) [(9,.dat I k),(3,.dat I (sP (rl l) k)),(4,.dat I (sS (rl l) k))]) λk=>Dc (Di (Df l) k)
def aFe(l:Li):Ann:=Z8 4 Int (nC l) (λs k=>put (gv s) [(5,.dat I k),(4,.dat I (sP (rl l) k)),(3,.dat I (sS (rl l) k))]) λk=>Dc (Di (Df l) k)
abbrev ry:=aj [.row Ce] (λ(c,_)=>L1 c.1) λ(c,_)=>.dat .bool (ig c.1 c.2)
def aKp:Kt:=kOr 68 ry <|
 kOr 17 (aj [.val R] (λ(l,_)=>YT l) λ(l,_)=>.dat I (mP l)) aHb
def aJu:Kt:=
 kOr 128 (xD 1 R [.mp 1] (λ_ b=>True/\b7 b=true) (λ_ b=>.dat I (hd b)) λ_ b=>tl b) aKp
def KP6:KPt:=pOr 128 (aCI 1 R [.mp 1] λ_ b=>⟨True,b7 b,eZ 40 190⟩) KPr
def aW:Cfg:=QG aJu (λ_=>false) KP6 (λf=>f==37||f==128)
def Xj(m:Int)(l:Li):Ann:=⟨λe s=>match e with
 |3=>some {α:=Int,inv:=λk=>Xl m l k,st:=λk=>dD (dD (put (gv s) [(12,.dat I k),(5,.buf 2 (Dc m))]) 2 (.buf 37 R (ij (tg l m) m k) [])) 1 (.var [.dat R (bY l (Ei k m))]),μ:=λk=>Dc (Di m k)}|7=>match s.sig.T 6,s.sig.T 23 with
  |.dat (.int .i64) i,.buf b _=>some {α:=Int,inv:=λk=>Nu m l i k,st:=λk=>dD (dD (put (gv s) [(25,.dat I k)]) b (.buf 3 I (jI (tg l m) m i k) [])) 1 (.var [.dat R (bY l (Dq (Ei i m) k))]),μ:=λk=>Dc (Di m k)}|_,_=>none
 |_=>none,λ_ _=>none,λ_ _=>none⟩
def aJt:Kt:=kOr 129 (xD 1 R [.mp 1,.val I] (λ(_,m,_) b=>mV m b/\pZ m b=true) (λ(_,m,_) b=>.dat M (oU m b)) λ(_,m,_) b=>bY b (Ei m m)) aJu
def KP7:KPt:=pOr 129 (aCI 1 R [.mp 1,.val I] λ(_,m,_) b=>⟨mV m b,pZ m b,eZ 40 190⟩) KP6
def c7:Cfg:=QG aJt (λ_=>false) KP7 (λf=>f==37||f==128||f==129)
def aIo(l:Li):Ann:=Z8 9 Int (aGN (at0 l 3) (at0 l 2) l) (λs k=>dD (dD (put (gv s) [(53,.dat I k)]) 4 (.buf 30 M (pY (at0 l 3) (at0 l 2) (bY l (Dq 4 (Ei (at0 l 2) (at0 l 2)))) k) [])) 1 (.var [.dat R (Qw (at0 l 3) (at0 l 2) l k)])) λk=>Dc (Di (at0 l 3) k)
def aKo:Kt:=kOr 69 (xD 1 R [.mp 1] (λ_ b=>fk b/\pR b=true) (λ_ b=>.agg [.dat I (aC b).1,.dat I (aC b).2.1,.dat M (aC b).2.2.1,.dat (.sl M) (aC b).2.2.2]) λ_ b=>cz b) aJt
def KP8:KPt:=pOr 69 (aCI 1 R [.mp 1] λ_ b=>⟨fk b,pR b,eZ 40 190⟩) KP7
def Le(l:Li):sP l 0=1:=rfl
def Ld(l:Li):sS l 0=0:=rfl
def Hl{l:Li}{x:Int}(e:0<=x)(b:x<l.length):l.take (x+1).toNat=l.take x.toNat++[l.getD x.toNat 0]:=by
 rw[show(x+1).toNat=x.toNat+1 by omega,wW,qA,qB (by omega:x.toNat<l.length)];rfl
def E7{l:Li}{x:Int}(e:0<=x)(b:x<l.length):sP l (x+1)=sP l x*3%65521/\sS l (x+1)=(sS l x+l.getD x.toNat 0*(sP l x*3%65521))%65521:=by
 unfold sP sS;rw[Hl e b,Yc];exact⟨rfl,rfl⟩
def aDO(l:Li)(x:Int):(0<=sP l x/\sP l x<65521)/\0<=sS l x/\sS l x<65521:=TQ (l.take x.toNat) (st:=(1,0)) ⟨⟨by decide,by decide⟩,⟨by decide,by decide⟩⟩
def aCe{l:Li}{x:Int}(h:(l.length:Int)<=x):sS l x=NF l:=by
 unfold sS NF;rw[qO Z]
def NN(l:Li):(rl l).length=l.length:=by unfold rl;rw[vG]
def aE9{l:Li}{i:Nat}(h:i<l.length):(rl l).getD i 0=l.getD i 0%65521:=by
 unfold rl;rw[qA,qX,qA,qB h];rfl
def fE{l:Li}:rF l=true↔∀x∈l,0<=x/\x<=65519:=by
 unfold rF;rw[qQ];exact⟨λh x b=>pP.1 (h x b),λh x b=>pP.2 (h x b)⟩
def Vf{l:Li}{x:Int}(h:aCV l x)(f:x<l.length)(e:btw (l.getD x.toNat 0) 0 65519=true):aCV l (x+1):=by
 obtain⟨a,b,c⟩:=h;refine⟨Z,Z,?_⟩;rw[Hl a f];unfold rF at c ⊢;rw[gV,c];simpa using e
def Y6{l:Li}{x:Int}(h:aCV l x)(e:¬x<l.length):rF l=true:=by
 obtain⟨a,b,c⟩:=h;rwa [qO Z]at c
def Vg{l:Li}{x:Int}(g:0<=x)(f:x<l.length)(b:btw (l.getD x.toNat 0) 0 65519=false):rF l=false:=by
 cases e:rF l with
 |false=>rfl|true=>
  have:=pP.2 (fE.1 e _ (bj (l:=l) (i:=x.toNat) (d:=0) Z));rw[this]at b;cases b
def UJ{a b:Int}(h:0<=a)(g:a<=65521)(e:0<=b)(f:b<=65521):0<=a*b/\a*b<=65521*65521:=
 ⟨qAm h e,kP g f e Z⟩
def tme{a:Int}(h:0<=a):a.tmod 65521=a%65521:=qCx h
def Qh:eO 68 ry:=ae λ(((l:Li),(s:Int)),_)=>by
 refine zE (A:=(aKC l)) (p:=let b:=(l,s);(L1 l->(∃x,aCV l x/\Q2 l s b (1=sP l x/\0=sS l x/\Q2 b l (Df l) (0=x/\True)))/\∀(x:Int),let e:=Dn x (Df l);let g:=Du l (Dc x) 0;let h:=Dj (btw g 0 65519);let i:=sP l x*3;let j:=Fp i 65521;let r:=g*j;let f:=sS l x+r;let u:=x+1;aCV l x->(e->0<=x/\x<Df l/\True/\(h->false=ig l s/\True)/\(h=false->inR .i64 i/\Es 65521 0/\inR .i64 r/\inR .i64 f/\Es 65521 0/\inR .i64 u/\∃y,aCV l y/\(Q2 l s b (j=sP l y/\Fp f 65521=sS l y/\Q2 b l (Df l) (u=y/\True)))/\Dc (Df l-y)<Dc (Df l-x)))/\(e=false->Eb s (sS l x)=ig l s/\True))) RI λr=>?_;have r:l.length<=2000000000000000:=r;refine⟨⟨0,⟨qH _,qI _,rfl⟩,by simp[Le,Ld]⟩,λx=>?_⟩;intro c2 c3 c4 c5 aW c7 f c9 g;refine⟨λe=>?_,λe=>?_⟩;have e:x<(l.length:Int):=vT e;have i:=g.1;obtain⟨⟨p0,p1⟩,X,V⟩:=aDO l x;obtain⟨j,z⟩:=E7 i e;refine⟨i,e,trivial,λh=>⟨?_,trivial⟩,λh=>?_⟩;have:btw (l.getD x.toNat 0) 0 65519=false:=by simpa[c4,c3,Dj,Du,Dc]using h
 unfold ig;rw[Vg i e this];rfl;have u:btw (l.getD x.toNat 0) 0 65519=true:=by simpa[c4,c3,Dj,Du,Dc]using h
 obtain⟨b0,b1⟩:=pP.1 u;have v:aW=sP l (x+1):=by rw[j];exact tme (by show 0<=sP l x*3;omega)
 obtain⟨⟨q0,q1⟩,_,_⟩:=aDO l (x+1);have T:c3=l.getD x.toNat 0:=rfl;have O:c7=c3*aW:=rfl;have L:f=sS l x+c7:=rfl;have e5:c5=sP l x*3:=rfl;have G:c9=x+1:=rfl;clear_value c3 c5 aW c7 f c9;have hm:=UJ (a:=c3) (b:=aW) Z Z Z Z;refine⟨aD Z,by decide,aD Z,aD Z,by decide,aD Z,x+1,Vf g e u,⟨rfl,rfl,rfl,v,?_,rfl,rfl,rfl,G,trivial⟩,?_⟩;rw[z,<- j];show f.tmod 65521=_;rw[tme Z,L,O,T,v];simp only[Dx,Dc,Di,Df];omega;have e:¬x<(l.length:Int):=kK e;refine⟨?_,trivial⟩;unfold ig;rw[Y6 g e,aCe Z,zV];show(s==_)=_;rw[xC];simp
def KR(l:Li):ah yv iU 17 [.dat R l] [] ⟨YT l,.dat I (mP l),[]⟩:=by
 refine zE (A:=(aD5 l)) (p:=(YT l->(∃x,nC l x/\L5 l Q1 (1=sP (rl l) x/\0=sS (rl l) x/\L5 l (Df l) (0=x/\True)))/\∀(x:Int),let b:=Dn x (Df l);let e:=sP (rl l) x*3;let f:=Fp (Du l (Dc x) 0) 65521+65521;let g:=Fp e 65521;let h:=Fp f 65521*g;let i:=sS (rl l) x+h;let j:=x+1;nC l x->(b->0<=x/\x<Df l/\inR .i64 e/\Es 65521 0/\Es 65521 0/\inR .i64 f/\Es 65521 0/\inR .i64 h/\inR .i64 i/\Es 65521 0/\inR IntKind.i64 j/\∃y,nC l y/\(L5 l Q1 (g=sP (rl l) y/\Fp i 65521=sS (rl l) y/\L5 l (Df l) (j=y/\True)))/\Dc (Df l-y)<Dc (Df l-x))/\(b=false->sS (rl l) x=mP l/\True))) RI λh=>?_;have h:l.length<=9223372036854775807:=h;refine⟨⟨0,⟨qH _,qI _⟩,by simp[Le,Ld]⟩,λx=>?_⟩;intro c1 c2 c3 c4 c5 aW c7 u;refine⟨λe=>?_,λe=>?_⟩;have e:x<(l.length:Int):=vT e;have i:=u.1;obtain⟨⟨p0,p1⟩,T,O⟩:=aDO (rl l) x;obtain⟨g,f⟩:=E7 (l:=rl l) i (by rw[NN];exact e);rw[aE9 Z]at f;have r:c4=sP (rl l) (x+1):=by rw[g];exact tme (by show 0<=sP (rl l) x*3;omega)
 obtain⟨⟨X,V⟩,_,_⟩:=aDO (rl l) (x+1);have v:Fp c3 65521=l.getD x.toNat 0%65521:=vf (by decide);have m0:=kH (l.getD x.toNat 0) (show(65521:Int)≠0 by decide);have m1:=xB (l.getD x.toNat 0) (show(0:Int)<65521 by decide);have j:c5=Fp c3 65521*c4:=rfl;have G:aW=sS (rl l) x+c5:=rfl;have e2:c2=sP (rl l) x*3:=rfl;have z:c7=x+1:=rfl;have e3:c3=(l.getD x.toNat 0).tmod 65521+65521:=rfl;have L:-65521<(l.getD x.toNat 0).tmod 65521/\(l.getD x.toNat 0).tmod 65521<65521:=by
  have:=gZ (a:=l.getD x.toNat 0) (b:=65521);split at this<;>omega
 rw[v]at j;clear_value c2 c3 c4 c5 aW c7;have hm:=UJ (a:=l.getD x.toNat 0%65521) (b:=c4) Z Z Z Z;refine⟨i,e,aD Z,by decide,by decide,aD Z,by decide,aD Z,aD Z,by decide,⟨show(-9223372036854775808:Int)<=_ by omega,show _<=(9223372036854775807:Int) by omega⟩,x+1,⟨Z,Z⟩,⟨rfl,rfl,r,?_,rfl,rfl,z,trivial⟩,?_⟩;rw[f,<- g];show aW.tmod 65521=_;rw[tme Z,G,j,r];simp only[Dx,Dc,Di,Df];omega;have e:¬x<(l.length:Int):=kK e;exact⟨aCe (by rw[NN];omega),trivial⟩
def aA1(l:Li):ah yv iU 56 [.dat R l] [] ⟨L1 l,.dat I (mP l),[]⟩:=by
 refine zE (A:=(lvA [(4,[0,2,3,4,5,6])] (aFe l))) (p:=(L1 l->(∃x,nC l x/\L5 l Q1 (0=sS (rl l) x/\1=sP (rl l) x/\0=x/\True))/\∀(x:Int),let b:=Dn x (Df l);let e:=sP (rl l) x*3;let f:=Fp (Du l (Dc x) 0) 65521+65521;let g:=Fp e 65521;let h:=Fp f 65521*g;let i:=sS (rl l) x+h;let j:=x+1;nC l x->(b->inR .i64 e/\Es 65521 0/\0<=x/\x<Df l/\Es 65521 0/\inR .i64 f/\Es 65521 0/\inR .i64 h/\inR .i64 i/\Es 65521 0/\inR IntKind.i64 j/\∃y,nC l y/\(L5 l Q1 (Fp i 65521=sS (rl l) y/\g=sP (rl l) y/\j=y/\True))/\Dc (Df l-y)<Dc (Df l-x))/\(b=false->sS (rl l) x=mP l/\True))) RI λh=>?_;have h:l.length<=2000000000000000:=h;refine⟨⟨0,⟨qH _,qI _⟩,by simp[Le,Ld]⟩,λx=>?_⟩;intro c1 c2 c3 c4 c5 aW c7 u;refine⟨λe=>?_,λe=>?_⟩;have e:x<(l.length:Int):=vT e;have i:=u.1;obtain⟨⟨p0,p1⟩,T,O⟩:=aDO (rl l) x;obtain⟨g,f⟩:=E7 (l:=rl l) i (by rw[NN];exact e);rw[aE9 Z]at f;have r:c4=sP (rl l) (x+1):=by rw[g];exact tme (by show 0<=sP (rl l) x*3;omega)
 obtain⟨⟨X,V⟩,_,_⟩:=aDO (rl l) (x+1);have v:Fp c3 65521=l.getD x.toNat 0%65521:=vf (by decide);have m0:=kH (l.getD x.toNat 0) (show(65521:Int)≠0 by decide);have m1:=xB (l.getD x.toNat 0) (show(0:Int)<65521 by decide);have j:c5=Fp c3 65521*c4:=rfl;have G:aW=sS (rl l) x+c5:=rfl;have e2:c2=sP (rl l) x*3:=rfl;have z:c7=x+1:=rfl;have e3:c3=(l.getD x.toNat 0).tmod 65521+65521:=rfl;have L:-65521<(l.getD x.toNat 0).tmod 65521/\(l.getD x.toNat 0).tmod 65521<65521:=by
  have:=gZ (a:=l.getD x.toNat 0) (b:=65521);split at this<;>omega
 rw[v]at j;clear_value c2 c3 c4 c5 aW c7;have hm:=UJ (a:=l.getD x.toNat 0%65521) (b:=c4) Z Z Z Z;refine⟨aD Z,by decide,i,e,by decide,aD Z,by decide,aD Z,aD Z,by decide,aD Z,x+1,⟨Z,Z⟩,⟨rfl,rfl,?_,r,z,trivial⟩,?_⟩;rw[f,<- g];show aW.tmod 65521=_;rw[tme Z,G,j,r];simp only[Dx,Dc,Di,Df];omega;have e:¬x<(l.length:Int):=kK e;exact⟨aCe (by rw[NN];omega),trivial⟩
def aJj:ai yv iU aKp:=af Qh<|af (ae λ(l,_)=>KR l) RI
def aBh:∀x b,ah yv iU 128 (avK [.mp 1] x) [(1,.var [.dat R b])] ⟨True/\b7 b=true,.dat I (hd b),[(1,.var [.dat R (tl b)])]⟩:=λ_ b=>(vL b).1
def aGo:ai yv iU aJu:=
 af (sy aBh) aJj
def WB:bJ yv iU KP6:=jL (x4 λ_ b=>(vL b).2) PZ
def sO{α:Type}(xs:List α)(d v:α)(k:Nat)(b:xs[k]?=some v):(xs.take k++List.replicate (xs.length-k) d).set k v=xs.take (k+1)++List.replicate (xs.length-(k+1)) d:=by
 obtain⟨h,e⟩:=qG.1 b;have f:xs.length-k=(xs.length-(k+1))+1:=Z;rw[f,qBv,qCj _ _ (by simp;omega)];simp[wW,b,kF (Nat.le_of_lt h)]
def jT(g:Int->Int->Int)(n:Int):(fb g n).length=n.toNat:=by simp[fb]
def wt(g:Int->Int->Int)(n x:Int)(h:pV x n):(ij g n x).length=n.toNat:=by
 have:=h.1;have:=h.2;simp only[ij,qF,qP,wS,jT];omega
def BH(g:Int->Int->Int)(n i x:Int)(h:pV x n):(jI g n i x).length=n.toNat:=by
 have:=h.1;have:=h.2;simp only[jI,qF,qP,wS,vG,vC];omega
def H2(g:Int->Int->Int)(n:Int):ij g n 0=List.replicate n.toNat []:=by simp[ij]
def Lr(g:Int->Int->Int)(n i:Int):jI g n i 0=List.replicate n.toNat 0:=by simp[jI]
def Ls(g:Int->Int->Int)(n i j:Int)(b:0<=j)(f:j<n):(jI g n i j).set j.toNat (g i j)=jI g n i (j+1):=by
 have e:(j+1).toNat=j.toNat+1:=Z;have:=sO ((List.range n.toNat).map λj:Nat=>g i j) 0 (g i j) j.toNat (by
  rw[qX,vP Z];simp[qY b])
 simp only[vG,vC]at this;unfold jI;rw[e];exact this
def Qu(g:Int->Int->Int)(n i j:Int)(h:pV j n)(b:¬j<n):jI g n i j=(List.range n.toNat).map λj:Nat=>g i j:=by
 have:=h.1;have:=h.2;have e:j.toNat=n.toNat:=Z;unfold jI;rw[e,qO (by simp)];simp
def H3(g:Int->Int->Int)(n i j:Int)(f:0<=i)(r:i<n)(h:pV j n)(b:¬j<n):(ij g n i).set i.toNat (jI g n i j)=ij g n (i+1):=by
 have e:(i+1).toNat=i.toNat+1:=Z;rw[Qu g n i j h b];have:=sO (fb g n) [] ((List.range n.toNat).map λj:Nat=>g i j) i.toNat (by
  unfold fb;rw[qX,vP Z];simp[qY f])
 rw[jT]at this;unfold ij;rw[e];exact this
def Lp(g:Int->Int->Int)(n i:Int)(h:pV i n)(b:¬i<n):ij g n i=fb g n:=by
 have:=h.1;have:=h.2;have e:i.toNat=n.toNat:=Z;unfold ij;rw[e,qO (by rw[jT];exact qM _)];simp
def EM{l:Li}{k:Int}(h:0<=k):tl (bY l k)=bY l (k+1):=by
 unfold tl bY;rw[xA];congr 1;omega
def zp(l:Li)(k:Int):hd (bY l k)=l.getD k.toNat 0:=by
 unfold hd bY;simp[qA,vM]
def ve{l:Li}{k:Int}(h:0<=k):b7 (bY l k)=decide (k<l.length):=by
 unfold b7 bY;rw[wM,qBm];omega
def drop_drop{l:Li}{a b:Int}(f:0<=a)(e:0<=b):bY (bY l a) b=bY l (a+b):=by
 unfold bY;rw[xA];congr 1;omega
def Pn(l:Li)(k:Int):(bY l k).length=l.length-k.toNat:=by unfold bY;rw[wM]
def js(i m:Int):(i+1)*m=i*m+m:=by rw[Int.add_mul,Int.one_mul]
def Hm(m:Int)(l:Li):ah yv iU 129 [.ptr 1 1 0 0,.dat I m] [(1,.var [.dat R l])] ⟨mV m l/\pZ m l=true,.dat M (oU m l),[(1,.var [.dat R (bY l (Ei m m))])]⟩/\
  dA yv iU 129 [.ptr 1 1 0 0,.dat I m] [(1,.var [.dat R l])] ⟨mV m l,pZ m l,eZ 40 190⟩:=by
 refine zM (c:=aW) (A:=(Xj m l)) (q:=⟨mV m l,pZ m l,eZ 40 190⟩) aGo gC hm WB (p:=let f:=tg l m;let g:=Dc m;let A:=Et m (Dt Int);let u:=Et m (0:Int);let G:=chainOf (Value.iface 40 (Value.int .i64 (190:Int)));true/\(mV m l->1=1/\0<=m/\(Ea 24*m)<=281474976710656/\m<=9223372036854775807/\Dk A=Dc m/\(∃x,Xl m l x/\L3 1 0 0 m Z0 (Dc m) m (Dc m) (Dc m) (Int.ofNat g=Int.ofNat g/\0=x/\l=bY l (x*m)/\A=ij f m x/\T3 1))/\∀(x:Int),let j:=Dn x (Int.ofNat g);let i:=ij f m x;let e:=Dk i;let L:=bY l (x*m);let c8:=x+1;Xl m l x->(j->0<=m/\(Ea 8*m)<=281474976710656/\m<=9223372036854775807/\e=Dc m/\0<=x/\x<Ea e/\e=Dc m/\Dk u=Dc m/\e=Dc m/\0<=x/\x<Ea e/\e=Dc m/\Dc x=Dc x/\Dk u=Dc m/\(∃b,Nu m l x b/\L3 1 0 0 m Z0 (Dc m) x m (Dc m) (L3 (Dc m) (Int.ofNat g) x j x (Dc m) x m (Dc m) (L3 (Dc m) (Dc x) 0 (Dc m) x (Dc m) (Dc x) 0 (Dc m) (Int.ofNat g=Int.ofNat g/\0=b/\L=bY l ((x*m)+b)/\Q2 i (Dc x) (Dc m) (u=jI f m x b/\T3 1)))))/\∀(b:Int),let O:=Dn b (Int.ofNat g);let h:=bY l ((x*m)+b);let v:=b7 h;let T:=hd h-1;let z:=jI f m x b;let r:=Dk z;let V:=b+1;
  Nu m l x b->(O->e=Dc m/\0<=x/\x<Ea e/\e=Dc m/\Dc x=Dc x/\True/\(v->e=Dc m/\0<=x/\x<Ea e/\e=Dc m/\Dc x=Dc x/\(True/\v)/\1=1/\inR .i64 T/\r=Dc m/\0<=b/\b<Ea r/\r=Dc m/\inR .i64 V/\∃y,Nu m l x y/\(L3 1 0 0 m Z0 (Dc m) x m (Dc m) (L3 (Dc m) (Int.ofNat g) x j x (Dc m) x m (Dc m) (L3 (Dc m) (Dc x) 0 (Dc m) x (Dc m) (Dc x) 0 (Dc m) (Int.ofNat g=Int.ofNat g/\V=y/\tl h=bY l ((x*m)+y)/\Q2 i (Dc x) (Dc m) (Em z (Dc b) T=jI f m x y/\T3 1)))))/\Dc (m-y)<Dc (m-b))/\(v=false->pZ m l=false/\true/\G=G))/\(O=false->inR .i64 c8/\∃y,Xl m l y/\(L3 1 0 0 m Z0 (Dc m) m (Dc m) (Dc m) (Int.ofNat g=Int.ofNat g/\c8=y/\h=bY l (y*m)/\r=Dc m/\Em i (Dc x) z=ij f m y/\T3 1))/\Dc (m-y)<Dc (m-x)))/\(j=false->pZ m l/\e=Dc m/\i=oU m l/\L=bY l (m*m)/\T3 1))) ⟨rfl,λhp=>?_⟩
 obtain⟨z,m1,⟨hin,hl⟩⟩:=hp;have hl:l.length<=2000000000000000:=hl;have em:(Int.ofNat (Dc m))=m:=qY z;have bd:∀{k:Int},0<=k->k<l.length->0<=l.getD k.toNat 0/\l.getD k.toNat 0<=65519:=λ{k} u h1=>fE.1 hin _ (bj Z);simp only[em];refine Z9 ?_;refine⟨z,Z,Z,by simp,⟨0,⟨⟨qH _,.inr rfl⟩,by rw[Int.zero_mul];exact qI _⟩,rfl,by rw[Int.zero_mul];rfl,(H2 _ _).symm⟩,λx j=>⟨λhlt=>?_,λhge=>?_⟩⟩;have u:=j.1.1;have e:=wt (tg l m) m x j.1;have xm0:0<=x*m:=qAm u z;have top:(x+1)*m<=m*m:=gW Z z;rw[js]at top;have em2:(m.toNat:Int)=m:=qY z;have g:x<((ij (tg l m) m x).length:Int):=by rw[e];omega
 refine⟨z,Z,Z,e,u,g,e,by simp,e,u,g,e,by simp,⟨0,⟨⟨qH _,.inr rfl⟩,by have:=j.2;omega⟩,rfl,by rw[qDq],(Lr _ _ _).symm⟩,λy G=>⟨λi=>?_,λi=>?_⟩⟩;have X:=G.1.1;have r:=BH (tg l m) m x y G.1;have hly:y<((jI (tg l m) m x y).length:Int):=by rw[r];omega
 have eo:=ve (l:=l) (k:=x*m+y) Z;refine⟨e,u,g,e,λT=>?_,λT=>?_⟩;have V:x*m+y<l.length:=by rw[eo]at T;exact vT T
 obtain⟨b0,b1⟩:=bd (k:=x*m+y) Z V;have eh:hd (bY l (x*m+y))-1=tg l m x y:=by rw[zp];rfl
 refine⟨e,u,g,e,T,aD (by rw[zp];omega),r,X,hly,r,aD Z,y+1,⟨⟨Z,.inl Z⟩,Z⟩,⟨rfl,?_,?_⟩,Z⟩;rw[EM Z,Int.add_assoc];rw[eh];exact Ls (tg l m) m x y X i;rw[eo,wE]at T;unfold pZ;rw[wE];omega;have hy2:y=m:=by rcases G.1 with⟨X,y1⟩;omega
 refine⟨aD Z,x+1,⟨⟨Z,.inl Z⟩,by rw[js];have:=G.2;omega⟩,⟨rfl,by rw[js,hy2],BH _ _ _ _ G.1,H3 (tg l m) m x y u hlt G.1 i⟩,Z⟩;have L:x=m:=by rcases j.1 with⟨x0,x1⟩;omega
 have O:pZ m l=true:=by
  unfold pZ;rw[qE];have:=j.2;rw[L]at this;exact this
 refine⟨O,wt _ _ _ j.1,Lp _ _ _ j.1 hge,?_⟩;rw[L]
def aGn:ai yv iU aJt:=af (sy λ(_,m,_) b=>(Hm m b).1) aGo
def aAC:bJ yv iU KP7:=jL (x4 λ(_,m,_) b=>(Hm m b).2) WB
def f9{l:Li}(h:fk l)(k:Int):fk (bY l k):=
 ⟨fE.2 λx b=>fE.1 h.1 x (List.mem_of_mem_drop b),by show(bY l k).length<=_;rw[Pn];have:l.length<=2000000000000000:=h.2;omega⟩
def gL(l:Li):ah yv iU 69 [.ptr 1 1 0 0] [(1,.var [.dat R l])] ⟨fk l/\pR l=true,.agg [.dat I (aC l).1,.dat I (aC l).2.1,.dat M (aC l).2.2.1,.dat (.sl M) (aC l).2.2.2],[(1,.var [.dat R (cz l)])]⟩/\
  dA yv iU 69 [.ptr 1 1 0 0] [(1,.var [.dat R l])] ⟨fk l,pR l,eZ 40 190⟩:=by
 refine zM (c:=c7) (A:=(aIo l)) (q:=⟨fk l,pR l,eZ 40 190⟩) aGn gC hm aAC (p:=let e:=chainOf (Value.iface 40 (Value.int .i64 (190:Int)));let A:=b7 (tl (tl (tl l)));let h:=Ef (hd (tl (tl l))) 12;let g:=hd (tl (tl (tl l)));let i:=Dz h (Ef g 4) false;let b:=Dn (hd l) (hd (tl l));let L:=hd l+60;let r:=Dz b (Ef (hd (tl l)) L) false;let j:=Dz r (Ef (hd (tl l)) 600) false;let T:=tl (tl (tl (tl l)));let c11:=pZ (hd (tl (tl l))) T;let G:=Et g (Dt (Li));let f:=Dc g;let u:=oU (hd (tl (tl l))) T;let v:=Int.ofNat f;let c16:=hd (tl (tl l))*hd (tl (tl l));let c17:=bY l (4+(at0 l 2*at0 l 2));let c18:=(aC l).2;let c19:=c18.2;
  true/\(fk l->1=1/\(true->True/\(b7 l=false->pR l=false/\true/\e=e))/\((true->b7 l)->(True/\b7 l)/\1=1/\(true->True/\(b7 (tl l)=false->pR l=false/\true/\e=e))/\((true->b7 (tl l))->(True/\b7 (tl l))/\T4 1 1 1 0 1 1 0 ((true->True/\(b7 (tl (tl l))=false->pR l=false/\true/\e=e))/\((true->b7 (tl (tl l)))->(True/\b7 (tl (tl l)))/\1=1/\(true->True/\(A=false->pR l=false/\true/\e=e))/\((true->A)->(True/\A)/\1=1/\(h->h->h)/\(Dh true h->h)/\(true->True/\(i=false->pR l=false/\true/\e=e))/\((true->i)->(True/\i)/\T6 1 1 0 1 1 0 ((b->1=1)/\(b->b->b)/\(b->1=1)/\(b->0=0)/\(b->1=1)/\(b->b->b)/\(b->1=1)/\(b->0=0)/\(b->b->b)/\(b->inR IntKind.i64 L)/\(b->b->b)/\(b->b->b)/\(Dh true b->b)/\(r->1=1)/\(r->r->r)/\(r->1=1)/\(r->0=0)/\(r->r->r)/\(Dh true r->r)/\(true->True/\(j=false->pR l=false/\true/\e=e))/\((true->j)->(True/\j)/\(true->mV (hd (tl (tl l))) T/\(c11=false->pR l=false/\true/\e=e))/\((true->c11)->(mV (hd (tl (tl l))) T/\c11)/\Q3 1 1 1 0 (0<=g/\(Ea 24*g)<=281474976710656/\g<=9223372036854775807/\Q2 1 1 0 (Dk G=f/\Q2 1 1 0 (Dk G=f/\(∃x,aGN (at0 l 3) (at0 l 2) l x/\L3 1 0 0 1 0 0 1 0 0 (L3 (hd (tl (tl l))) g 1 0 0 (hd l) 1 0 0 (L3 (hd (tl l)) 1 0 0 1 0 1 1 0 (L3 0 (hd (tl (tl l))) 1 0 0 g (hd (tl (tl l))) h h (L3 i 1 0 0 (hd l) 1 0 1 (hd (tl l)) (L3 b b r r j 1 0 0 (hd (tl (tl l))) (L3 u 1 0 2 g f 1 0 3 (T2 1 0 3 f v (0=x/\bY T c16=Qw (at0 l 3) (at0 l 2) l x/\T5 Q1 Q1 Z0 Z0 (hd l) (hd (tl l)) u f (G=pY (at0 l 3) (at0 l 2) c17 x/\T3 1))))))))))/\
  ∀(x:Int),let z:=Qw (at0 l 3) (at0 l 2) l x;let c21:=pZ (hd (tl (tl l))) z;let c22:=pY (at0 l 3) (at0 l 2) c17 x;let O:=Dk c22;let c24:=x+1;aGN (at0 l 3) (at0 l 2) l x->(Dn x v->Q2 1 1 0 (mV (hd (tl (tl l))) z/\(c21->Q2 1 1 0 ((mV (hd (tl (tl l))) z/\c21)/\1=1/\O=f/\0<=x/\x<Ea O/\O=f/\inR .i64 c24/\∃y,aGN (at0 l 3) (at0 l 2) l y/\(L3 1 0 0 1 0 0 1 0 0 (L3 (hd (tl (tl l))) g 1 0 0 (hd l) 1 0 0 (L3 (hd (tl l)) 1 0 0 1 0 1 1 0 (L3 0 (hd (tl (tl l))) 1 0 0 g (hd (tl (tl l))) h h (L3 i 1 0 0 (hd l) 1 0 1 (hd (tl l)) (L3 b b r r j 1 0 0 (hd (tl (tl l))) (L3 u 1 0 2 g f 1 0 3 (T2 1 0 3 f v (c24=y/\bY z c16=Qw (at0 l 3) (at0 l 2) l y/\T5 Q1 Q1 Z0 Z0 (hd l) (hd (tl l)) u f (Em c22 (Dc x) (oU (hd (tl (tl l))) z)=pY (at0 l 3) (at0 l 2) c17 y/\T3 1))))))))))/\Dc (at0 l 3-y)<Dc (at0 l 3-x)))/\(c21=false->pR l=false/\true/\e=e)))/\(Dn x v=false->Q3 1 0 1 0 (O=f/\pR l/\L5 1 0 (hd l=(aC l).1/\hd (tl l)=c18.1/\u=c19.1/\O=f/\c22=c19.2/\z=cz l/\T3 1))))))))))))))))) ⟨rfl,λhp=>?_⟩
 have hl:l.length<=2000000000000000:=hp.2;have t1:tl l=bY l 1:=rfl;have t2:tl (tl l)=bY l 2:=by rw[t1,EM (by decide)];rfl
 have t3:tl (tl (tl l))=bY l 3:=by rw[t2,EM (by decide)];rfl
 have t4:tl (tl (tl (tl l)))=bY l 4:=by rw[t3,EM (by decide)];rfl
 have X:hd l=at0 l 0:=rfl;have h1:hd (tl l)=at0 l 1:=by rw[t1,zp];rfl
 have h2:hd (tl (tl l))=at0 l 2:=by rw[t2,zp];rfl
 have h3:hd (tl (tl (tl l)))=at0 l 3:=by rw[t3,zp];rfl
 have o0:b7 l=decide (0<l.length):=rfl;have o1:b7 (tl l)=decide (1<l.length):=by rw[t1,ve (by decide),qBm];omega
 have o2:b7 (tl (tl l))=decide (2<l.length):=by rw[t2,ve (by decide),qBm];omega
 have o3:b7 (tl (tl (tl l)))=decide (3<l.length):=by rw[t3,ve (by decide),qBm];omega
 have bd:∀k:Nat,0<=at0 l k/\at0 l k<=65519:=λk=>by
  unfold at0;by_cases hk:k<l.length;exact fE.1 hp.1 _ (bj hk);rw[qA,zD Z];exact⟨by decide,by decide⟩
 obtain⟨a0,a1⟩:=bd 0;obtain⟨b0,b1⟩:=bd 1;obtain⟨m0,m1⟩:=bd 2;obtain⟨q0,q1⟩:=bd 3;have epl:pR l=(decide (4<=l.length)&&xh l&&decide (4+at0 l 2*at0 l 2+at0 l 3*(at0 l 2*at0 l 2)<=l.length)):=rfl;have ehd:xh l=decide (at0 l 2<=12/\at0 l 3<=4/\at0 l 0<at0 l 1/\at0 l 1<=at0 l 0+60/\at0 l 1<=600):=rfl;have v:l.length<4->pR l=false:=λh=>by rw[epl,vF Z];rfl
 have noHd:xh l=false->pR l=false:=λh=>by rw[epl,h];simp
 have noLen:¬4+at0 l 2*at0 l 2+at0 l 3*(at0 l 2*at0 l 2)<=l.length->pR l=false:=λh=>by rw[epl,vF h];simp
 simp only[X,h1,h2,h3,o0,o1,o2,o3,t4];have eq3:Int.ofNat (Dc (at0 l 3))=at0 l 3:=qY q0;simp only[eq3];refine Z9 ?_;obtain⟨f,b⟩:∃f,f=at0 l 2*at0 l 2:=⟨_,rfl⟩;have V:0<=f:=by rw[b];exact qAm m0 m0
 have eK:∀k,Qw (at0 l 3) (at0 l 2) l k=bY l (4+f+k*f):=λk=>by unfold Qw;rw[b]
 have u:∀k:Int,0<=k->(pZ (at0 l 2) (bY l k)=true↔f<=((l.length-k.toNat:Nat):Int)):=λk hk=>by
  unfold pZ;rw[qE,Pn,b]
 have ePL:pR l=true↔4<=l.length/\xh l=true/\4+f+at0 l 3*f<=l.length:=by
  rw[epl,qC,qC,qE,qE,b,qCi]
 have i:(AL (at0 l 3) (at0 l 2) (bY l (4+f))).length=(at0 l 3).toNat:=by unfold AL;simp
 have j:∀{x:Int},pV x (at0 l 3)->(pY (at0 l 3) (at0 l 2) (bY l (4+f)) x).length=(at0 l 3).toNat:=λ{x} ⟨h1,h2⟩=>by
  unfold pY;rw[qF,qP,wS,i];omega
 simp only[eK,<- b];refine⟨λh=>v Z,λl0=>⟨l0,λh=>v Z,λl1=>⟨l1,λh=>v Z,λl2=>⟨l2,λh=>v Z,λl3=>⟨l3,λh=>noHd ?_,λhA=>⟨hA,λh=>aD Z,λh=>noHd ?_,λhB=>⟨hB,?_⟩⟩⟩⟩⟩⟩⟩;rw[ehd,wE];intro g;exact h g.1 g.2.1;rw[ehd,wE];intro g;exact h ⟨g.2.2.1,g.2.2.2.1⟩ g.2.2.2.2;have hH:xh l=true:=by rw[ehd,qE];exact⟨hA.1,hA.2,hB.1.1,hB.1.2,hB.2⟩
 have tP:∀k,mV (at0 l 2) (bY l k):=λk=>⟨m0,hA.1,f9 hp k⟩;have mono:∀{k:Int},0<=k->k<=at0 l 3->k*f<=at0 l 3*f:=λh1 h2=>gW h2 V;have G:∀{k:Int},0<=k->0<=k*f:=λh=>qAm h V;have bad:¬(4+f+at0 l 3*f<=l.length)->pR l=false:=λh=>by
  cases e:pR l with
  |false=>rfl|true=>exact absurd (ePL.1 e).2.2 h
 refine⟨⟨tP 4,λh=>bad ?_⟩,λhT=>⟨⟨tP 4,hT⟩,q0,Z,Z,by simp,by simp,⟨0,⟨⟨qH _,.inr rfl⟩,?_⟩,rfl,?_,?_⟩,λx hx=>⟨λhlt=>⟨tP _,λL=>?_,λL=>bad ?_⟩,λhge=>?_⟩⟩⟩;have:¬f<=((l.length-(4:Int).toNat:Nat):Int):=λg=>by rw[(u 4 (by decide)).2 g]at h;cases h
 have:=G q0;have e4:(4:Int).toNat=4:=rfl;omega;have:=(u 4 (by decide)).1 hT;have e4:(4:Int).toNat=4:=rfl;show(0+1)*(at0 l 2*at0 l 2)<=(l.length:Int)-4;rw[<- b];omega;rw[drop_drop (by decide) V,Int.zero_mul,qDq];unfold pY;simp;have X:=hx.1.1;have hl2:=j hx.1;have h2':=hx.2;rw[<- b,js]at h2';have hT3:=(u _ (by have:=G X;omega)).1 L;have:=G X;refine⟨⟨tP _,L⟩,hl2,X,by rw[hl2];omega,hl2,aD Z,x+1,⟨⟨Z,.inl Z⟩,?_⟩,⟨rfl,?_,?_⟩,Z⟩;rw[<- b,js,js];omega;rw[drop_drop Z V];congr 1;rw[js];omega;have e:(x+1).toNat=x.toNat+1:=by omega
 have:=sO (AL (at0 l 3) (at0 l 2) (bY l (4+f))) [] (oU (at0 l 2) (bY l (4+f+x*f))) x.toNat (by
  unfold AL;rw[qX,vP Z,zY,qY X,drop_drop Z (by rw[<- b];exact G X),<- b])
 rw[i]at this;unfold pY;rw[e];exact this;have X:=hx.1.1;have hx0:=G X;have hn:¬f<=((l.length-(4+f+x*f).toNat:Nat):Int):=λg=>by rw[(u _ Z).2 g]at L;cases L
 have:=mono (k:=x+1) Z Z;rw[js]at this;omega;have hxe:x=at0 l 3:=by rcases hx.1 with⟨h1,h2⟩;omega
 subst hxe;have h2':=hx.2;rw[<- b,js]at h2';refine⟨j hx.1,ePL.2 ⟨Z,hH,Z⟩,rfl,rfl,rfl,j hx.1,?_,?_⟩;unfold pY;rw[qO (by rw[i];exact qM _),qBg];show _++[]=_;rw[wB,b];rfl;rw[b];rfl
def aJi:ai yv iU aKo:=af (sy λ_ b=>(gL b).1) aGn
def aGt:bJ yv iU KP8:=jL (x4 λ_ b=>(gL b).2) aAC
end Go.Eng.In
namespace Go.Eng.Sv
abbrev Line:=ByteArray×Int×Int×Int×Int×Int
abbrev Ll:=List Line
end Go.Eng.Sv
