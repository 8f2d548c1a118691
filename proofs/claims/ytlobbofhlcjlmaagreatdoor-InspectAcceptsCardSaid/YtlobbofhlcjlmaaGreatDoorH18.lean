/- PeH17c, PeH18 -/
import Derived.Test.YtlobbofhlcjlmaaGreatDoorH17b
import Derived.KernelRfl
set_option linter.unusedSimpArgs false
set_option linter.unusedVariables false
/- The engine, part 17c: a function with a deferred closure that recovers, and that ranges over functions. -/
namespace Go.Eng
open Go.RowKit
def Cfg.norng (c:Cfg):Cfg:={ c with rng:=false }
def aEc (c:Cfg) (s:St) (Q:St→Prop):Prop:=match sweep c.rng s with
 | some s1=>Q s1
 | none=>False
def aVV (c:Cfg) (Ac:Ann) (fn fc:Func) (crest:Code) (t3 t2:Tmp) (r:pF):Exit→St→Prop
 | .normal,s=>aEc c s (xZ c.norng Ac fn fc crest t3 t2 r (.val .nilIface))
 | .ret,s=>aEc c s (xZ c.norng Ac fn fc crest t3 t2 r (.val .nilIface))
 | .panic ch,s=>match aNw ch with
  | some v=>aEc c s (xZ c.norng Ac fn fc crest t3 t2 r v)
  | none=>False
 | _,_=>False
def evR (c:Cfg) (A0 A Ac:Ann) (f:FuncId) (args:List AV) (r:pF):Prop:=match aHi c.P f with
 | some g=>(c.rng=true∧goes c.P g.cf=true∧c.G.isEmpty=true)∧(r.pre→ev c.norng A0 g.pre (kV g.fn args []) (fun e s=>match e with
   | .normal=>vT (some g.t) s.tm.length=true∧ev c A g.rest (aCi c.G g.t g.cf g.caps s) (aVV c Ac g.fn g.fc g.crest g.t3 g.t2 r)
   | _=>False))
 | none=>False
theorem aJS {S:Base} {rng:Bool} {s s1:St} (hs:sweep rng s=some s1) {a:Act} {w:World} {D:Nat→Prop} {E:Nat→Ent} (h:aZ S s.sig a w D E) (hr:rng=true):aFH s1.sig∧aZ S s1.sig a w D E∧s1.tm.length=s.tm.length:=by
 subst hr
 unfold sweep at hs
 simp only [if_true] at hs
 split at hs
 case isFalse=>cases hs
 rename_i hp
 cases hs
 simp only [Bool.and_eq_true,List.all_eq_true] at hp
 have eT:∀ t,(s.tm.map qG).getD t .top=qG (s.tm.getD t .top):=fun t=>by
  simp only [List.getD_eq_getElem?_getD,List.getElem?_map]
  cases s.tm[t]? with
  | none=>rfl
  | some x=>rfl
 refine ⟨⟨fun t=>?_,fun nm b hm=>hp.1 (nm,b) (gJ hm),hp.2⟩,⟨h.sz,h.df,fun t=>?_,h.bl,h.own,h.inj,h.low,h.dlt,h.dlo,h.dhi,h.gl,h.svr,h.pv⟩,by simp⟩
 ·show iJ ((s.tm.map qG).getD t .top)=true
  rw [eT];exact vU _
 ·show ((s.tm.map qG).getD t .top).rel S.P _ _
  rw [eT];exact aBW (h.tm t)
theorem aAi {S:Base} {fn:Func} {R:Ending→World→Prop} {u:FrameMode} {gd:List Deferred} (hgd:S.gd=gd) (hgn:∀ d ∈ gd,∀ k,d.target≠.collected k) (hD0:∀ b,S.D0 b→b < S.w0.heap.size) {σ:Sig} (hp:aFH σ) (hu:u≠.run) {E:Nat→Ent} {tmps:Array Value}:∀ (ds:List Deferred) (w:World) (D:Nat→Prop),
  aZ { S with G:=[] } σ { tmps:=tmps,defers:=ds } w D E→(∀ w2 D2,aZ { S with G:=[] } σ { tmps:=tmps,defers:=gd } w2 D2 E→LeavesInM Fence.wide 0 S.P fn tmps R gd u w2) →
  LeavesInM Fence.wide 0 S.P fn tmps R ds u w
 | [],w,D,h,hR=>by
  have hg:gd=[]:=by
   obtain ⟨ms,e⟩:=h.df.1.2.1
   have e:[]=ms ++ S.gd:=e
   rw [hgd] at e
   exact (List.append_eq_nil_iff.1 e.symm).2
  have:=hR w D (by rw [hg];exact h)
  rw [hg] at this;exact this
 | d :: ds,w,D,h,hR=>by
  rcases h.df.2 d List.mem_cons_self with ⟨g,_⟩ | ⟨k,rfl,_⟩
  ·have g:d ∈ S.gd:=g
   rw [hgd] at g
   -- the first of the calls: there are no marks ahead of it
   have e:d :: ds=gd:=by
    obtain ⟨⟨_,⟨ms,e⟩,hpw⟩,hall⟩:=h.df
    have e:d :: ds=ms ++ gd:=by rw [← hgd];exact e
    cases ms with
    | nil=>exact e
    | cons x ms =>
     exfalso
     simp only [List.cons_append,List.cons.injEq] at e
     obtain ⟨rfl,e2⟩:=e
     have hm:d ∈ ds:=by rw [e2];exact List.mem_append.2 (.inr g)
     exact (List.pairwise_cons.1 hpw).1 d hm rfl
   rw [e] at h ⊢
   exact hR w D h
  obtain ⟨h1,h2⟩:=aZ.shr (a:={ tmps:=tmps,defers:=[] }) h hp hD0 (by rw [hgd];exact hgn)
  exact ⟨hu,.inl ⟨k,_,rfl,run_takeDeferred h1,aAi hgd hgn hD0 hp hu ds _ _ h2 hR⟩⟩
theorem aEk {c:Cfg} {A A0 Ac:Ann} {f:FuncId} {args:List AV} {r:pF} (hK:aQ c.P c.G c.K) (hI:dF c.P c.G c.KI) (hm:c.P.follows .mixedOrders=true) (hKP:fB c.P c.G c.KP) (h:evR c A0 A Ac f args r):aC c.P c.G f args [] r:=by
 intro hpre w D E us hD hG hargs hH
 unfold evR at h
 split at h
 case h_2=>exact h.elim
 rename_i g hg
 obtain ⟨⟨hrng,hgo,hG0⟩,h⟩:=h
 have hG0:c.G=[]:=List.isEmpty_iff.1 hG0
 have h:=h hpre
 obtain ⟨hf,⟨gid,gops,hb,hgd⟩,hcf,⟨cid,rops,hcb,hrec⟩,hres⟩:=aEH hg
 obtain ⟨S,hS,HO,hln,hstart,key⟩:=aGz (c:=c.norng) (m:=[]) (r:=r) (fn:=g.fn) (X:=fun _=>False) (Z:=True) hK hI hm hKP rfl (fun _ h=>by cases h) w D E us hD hG hargs hH
 have hSP:S.P=c.P:=by rw [hS];rfl
 have hSG:S.G=[]:=by rw [hS];exact hG0
 have hSr:S.rd=none:=by rw [hS]
 have hSs:S.sv=[]:=by rw [hS];rfl
 have hSg:S.gd=[]:=by rw [hS]
 have hSn:S.nod=true:=by rw [hS];rfl
 suffices hfin:Calls c.P f us.toArray w (fun e w'=>(True∧∃ v D' E',e=.returned v∧Left c.P (dI []) r.upd w D E w' D' E'∧r.ret.rel c.P ⟨w',D',upM (dI []) r.upd,E'⟩ v)∨∃ ch,e=.panicked ch∧False∧Chg (bV (dI []) E) w w') from
  hfin.mono fun e w' he=>by
   rcases he with ⟨_,g⟩ | ⟨_,_,g,_⟩
   ·exact g
   ·exact g.elim
 refine (callsIn_wide (n:=0)).1 (aAQ hf hb ?_)
 suffices hgo2:At S.P S.rd (.seq g.pre (.seq (.region gid gops false) g.rest)) (bodyPostM Fence.wide 0 c.P g.fn (fun e w'=>(True∧∃ v D' E',e=.returned v∧Left c.P (dI []) r.upd w D E w' D' E'∧r.ret.rel c.P ⟨w',D',upM (dI []) r.upd,E'⟩ v)∨∃ ch,e=.panicked ch∧False∧Chg (bV (dI []) E) w w'))
   { tmps:=us.toArray ++ Array.replicate (g.fn.ntmps - us.toArray.size) undef,defers:=[] } w by
  rw [hSP,hSr] at hgo2;exact hgo2
 refine aB3 (qF (c:=c.norng) g.pre S (kV g.fn args []) _ _ HO h hln (fun e s hq hl a1 w1 hs=>?_) _ w ⟨D,E,hstart⟩)
 cases e <;> first | exact hq.elim | skip
 obtain ⟨hdt,hrest⟩:=hq
 obtain ⟨D1,E1,hd1⟩:=hs
 have hdef:a1.defers=[]:=(hd1.df.1.1 hSn).trans hSg
 -- the closure is made, its call deferred
 unfold guardOf at hgd
 split at hgd
 case h_2=>cases hgd
 rename_i t cf first caps ty1 pos1 af1 t' dargs at2 ty2 pos2 af2 hl0
 split at hgd
 case isFalse=>cases hgd
 rename_i hc
 simp only [Bool.and_eq_true,beq_iff_eq,Array.isEmpty_iff] at hc
 obtain ⟨⟨rfl,rfl⟩,rfl⟩:=hc
 simp only [Option.some.injEq,Prod.mk.injEq] at hgd
 obtain ⟨e1,e2,e3⟩:=hgd
 obtain ⟨o1,ho1⟩:∃ o1:Oper,o1=⟨some t,.makeFunc (.func cf) #[] caps,ty1,pos1,af1,none⟩:=⟨_,rfl⟩
 obtain ⟨o2,ho2⟩:∃ o2:Oper,o2=⟨none,.defer ⟨.value (.tmp t),#[],at2⟩,ty2,pos2,af2,none⟩:=⟨_,rfl⟩
 have hops:gops=#[o1,o2]:=by
  apply Array.ext';rw [ho1,ho2];exact hl0
 have hcapv:AV.relL S.P ⟨w1,D1,s.sig.m,E1⟩ (g.caps.map (evT c.G s.sig.T)) (g.caps.map a1.eval):=by
  refine AV.relL_mk (by simp) fun j av u h1 h2=>?_
  simp only [List.getElem?_map,Option.map_eq_some_iff] at h1 h2
  obtain ⟨x,hx,rfl⟩:=h1
  obtain ⟨x',hx',rfl⟩:=h2
  rw [hx] at hx';cases hx'
  have:=iZ hd1 x
  rw [← HO.G] at this
  exact this
 obtain ⟨fv,hfv⟩:∃ fv:Value,fv=.func (.func cf) #[] (g.caps.map a1.eval).toArray:=⟨_,rfl⟩
 obtain ⟨d,hd⟩:∃ d:Deferred,d={ target:=.fn (.func g.cf) (g.caps.map a1.eval).toArray,args:=#[] }:=⟨_,rfl⟩
 have ht:t < S.N:=by
  rw [e1];rw [← hl];simpa [vT] using hdt
 have hsz1:a1.tmps.size=S.N:=hd1.sz
 have hev:(a1.put (some t) fv).eval (.tmp t)=fv:=by
  show (a1.tmps.setIfInBounds t fv).getD t undef=fv
  simp [Array.getD,hsz1,ht]
 have x1:(execOp a1.eval o1).run S.P w1=.ok (.value fv) w1:=by
  rw [ho1,hfv,← e3,← toList_map]
  simp [execOp,Instr.makeFunc]
 have x2:(execOp (a1.put (some t) fv).eval o2).run S.P w1=.ok (.defer d) w1:=by
  rw [ho2,hd,← e2]
  have:(a1.put (some t) fv).eval (.tmp t)=.func (.func cf) #[] (g.caps.map a1.eval).toArray:=by rw [hev,hfv]
  simp only [execOp,resolve,this,Deferred.ofValue]
  simp
 have hreg:At S.P S.rd (.region gid gops false) (Exit.then (At S.P S.rd g.rest (bodyPostM Fence.wide 0 c.P g.fn fun e w'=>(True∧∃ v D' E',e=.returned v∧Left c.P (dI []) r.upd w D E w' D' E'∧r.ret.rel c.P ⟨w',D',upM (dI []) r.upd,E'⟩ v)∨∃ ch,e=.panicked ch∧False∧Chg (bV (dI []) E) w w'))
   (bodyPostM Fence.wide 0 c.P g.fn fun e w'=>(True∧∃ v D' E',e=.returned v∧Left c.P (dI []) r.upd w D E w' D' E'∧r.ret.rel c.P ⟨w',D',upM (dI []) r.upd,E'⟩ v)∨∃ ch,e=.panicked ch∧False∧Chg (bV (dI []) E) w w')) a1 w1:=by
  refine aOt (wpIn_region ?_)
  have hF:S.F=Fence.wide:=by unfold Base.F;rw [hSr]
  rw [hF]
  have hz:gops.size=2:=by rw [hops];rfl
  rw [hz]
  have h0:gops[0]?=some o1:=by rw [hops];rfl
  have h1:gops[1]?=some o2:=by rw [hops];rfl
  show wpOpsIn _ _ _ _ _ [0,1] _ _
  have w1n:∀ g,Region.wanted o1 g=true:=fun g=>by rw [ho1];rfl
  have w2n:∀ g,Region.wanted o2 g=true:=fun g=>by rw [ho2];rfl
  have d1:o1.dst=some t:=by rw [ho1]
  have d2:o2.dst=none:=by rw [ho2]
  simp only [wpOpsIn,h0,h1,w1n,w2n,if_true,Oper.wpIn]
  refine ⟨fun _ _=>trivial,?_⟩
  rw [show Fence.wide.round=none from rfl,Oper.semAt_none,x1,Oper.uponIn_value,d1]
  refine ⟨fun _ _=>trivial,?_⟩
  rw [Oper.semAt_none,x2,Oper.uponIn_defer,d2]
  obtain ⟨S2,hS2⟩:∃ S2:Base,S2={ S with gd:=[d],sv:=g.caps.map a1.eval,nod:=false }:=⟨_,rfl⟩
  have HO2:OkS c S2:=by
   rw [hS2]
   exact ⟨HO.P,HO.G,HO.K,HO.I,HO.m,fun e=>(e hSr).elim,fun _=>by rw [hrng];rfl,HO.KP⟩
  have hslot:=hd1.slot (d:=some t) (v:=fv) (x:=.fn cf (g.caps.map (evT c.G s.sig.T))) hl (by rw [e1];exact hdt) ⟨_,hfv,hcapv⟩
  have hd2:aZ S2 (aCi c.G g.t g.cf g.caps s).sig { (a1.put (some t) fv) with defers:=d :: (a1.put (some t) fv).defers } w1 D1 E1:=by
   have hde:(a1.put (some t) fv).defers=[]:=hdef
   rw [hde,← e1,← e2,hS2]
   refine ⟨hslot.sz,⟨⟨fun _=>rfl,⟨[],rfl⟩,List.pairwise_singleton _ _⟩,fun q hq=>.inl ⟨hq,fun k e=>?_⟩⟩,hslot.tm,hslot.bl,hslot.own,hslot.inj,hslot.low,hslot.dlt,hslot.dlo,hslot.dhi,hslot.gl,hcapv,hslot.pv⟩
   rw [List.mem_singleton] at hq
   rw [hq,hd] at e;cases e
  have hl2:(aCi c.G g.t g.cf g.caps s).tm.length=S2.N:=by rw [hS2];simp [aCi,setSlot,hl]
  have hdn:∀ k,d.target≠.collected k:=fun k e=>by rw [hd] at e;cases e
  have hclose:∀ {u u2:FrameMode} {rv:Value} {rec:AV} (_:aRN u rv u2) (_:settle u2=.returning) (_:u≠.run) (_:∀ C:Ctx,rec.rel c.P C rv) (s':St) (a':Act) (w':World),Sim S2 s'.sig a' w'→s'.tm.length=S2.N→aEc c s' (xZ c.norng Ac g.fn g.fc g.crest g.t3 g.t2 r rec) →
    LeavesInM Fence.wide 0 c.P g.fn a'.tmps _ a'.defers u w':=fun h1 h2 h3 h4 s' a' w' hs' hl' hq=>by
   unfold aEc at hq
   split at hq
   case h_2=>exact hq.elim
   rename_i s1 hsw
   obtain ⟨D5,E5,h5⟩:=hs'
   obtain ⟨p1,p2,p3⟩:=aJS hsw h5 hrng
   have h6:aZ { S2 with G:=[] } s1.sig { tmps:=a'.tmps,defers:=a'.defers } w' D5 E5:=by
    have e:({ S2 with G:=[] }:Base)=S2:=by rw [hS2];cases S;simp only at hSG;subst hSG;rfl
    rw [e];exact p2
   rw [← hSP,show S.P=S2.P by rw [hS2]]
   refine aAi (S:=S2) (gd:=[d]) (by rw [hS2]) (fun q hq k=>by rw [List.mem_singleton] at hq;rw [hq];exact hdn k) (by rw [hS2,hS];exact hD) p1 h3 a'.defers w' D5 h6 fun w2 D2 h7=>?_
   rw [show S2.P=c.P by rw [hS2];exact hSP]
   refine aHL (c:=c.norng) HO rfl hSs hSr hSn hSg hcf hcb hrec hres hgo key hd h1 h2 h3 (s:=s1) (a:={ tmps:=a'.tmps,defers:=[d] }) ⟨D2,E5,?_⟩ (by rw [p3,hl',hS2]) h4 hq
   have e8:({ S2 with G:=[] }:Base)={ S with gd:=[d],sv:=(g.caps.map a1.eval),nod:=false }:=by rw [hS2];cases S;simp only at hSG;subst hSG;rfl
   rw [e8] at h7
   exact ⟨h7.sz,⟨⟨fun _=>rfl,⟨[],rfl⟩,List.pairwise_singleton _ _⟩,h7.df.2⟩,h7.tm,h7.bl,h7.own,h7.inj,h7.low,h7.dlt,h7.dlo,h7.dhi,h7.gl,h7.svr,h7.pv⟩
  have hat:=qF g.rest S2 (aCi c.G g.t g.cf g.caps s) _ (bodyPostM Fence.wide 0 c.P g.fn fun e w'=>(True∧∃ v D' E',e=.returned v∧Left c.P (dI []) r.upd w D E w' D' E'∧r.ret.rel c.P ⟨w',D',upM (dI []) r.upd,E'⟩ v)∨∃ ch,e=.panicked ch∧False∧Chg (bV (dI []) E) w w') HO2 hrest hl2 (fun e s' hq hl' a' w' hs'=>by
   cases e with
   | normal=>exact hclose (rec:=.val .nilIface) .ret rfl (by simp) (fun _=>rfl) s' a' w' hs' hl' hq
   | ret=>exact hclose (rec:=.val .nilIface) .ret rfl (by simp) (fun _=>rfl) s' a' w' hs' hl' hq
   | panic ch =>
    simp only [aVV] at hq
    split at hq
    case h_2=>exact hq.elim
    rename_i v hv
    obtain ⟨rv,rfl,hrv⟩:=aHj hv
    exact hclose (.pan rv) rfl (by simp) (fun C=>hrv c.P C) s' a' w' hs' hl' hq
   | exit id=>exact hq.elim
   | goto l=>exact hq.elim
   | outgrown=>exact hq.elim) _ w1 ⟨D1,E1,hd2⟩
  rw [show S2.P=S.P by rw [hS2],show S2.rd=S.rd by rw [hS2]] at hat
  exact hat
 exact aB3 hreg
end Go.Eng

/- The engine, part 18: more words for data; functions as values; contracts at values that say more. -/
namespace Go.Eng
open Go.RowKit
def put (s:St) (l:List (Tmp×AV)):St:={ s with tm:=l.foldl (fun tm p=>tm.set p.1 p.2) s.tm }
def aAd (s:St) (nm:Nat) (b:Blk):St:={ s with mem:=aBu s.mem nm b }
def bF:Ann:=⟨fun _ _=>none,fun _ _=>none,fun _ _=>none⟩
theorem of_eq {p q:Prop} (h:q=p) (hp:p):q:=h ▸ hp
theorem aET {P:Program} {w w':World} {D D':Nat→Prop} {as:List AV} {us:List Value} (hn:AV.namesL as=[]) (hD:∀ b,D b→D' b) (hw:∀ b,D b→w'.heap[b]?=w.heap[b]?)
  {m:Nat→Option Blk} {E:Nat→Ent} (h:AV.relL P ⟨w,D,m,E⟩ as us):AV.relL P ⟨w',D',noM,noE⟩ as us :=
 AV.relL_mono (C:=⟨w,D,m,E⟩) (C':=⟨w',D',noM,noE⟩) ⟨hD,hw⟩ (fun nm hm=>by rw [hn] at hm;cases hm) h
theorem Left.pure {P:Program} {upd:Mem} {w w':World} {D D':Nat→Prop} {E E':Nat→Ent} (h:Left P (dI []) upd w D E w' D' E'):Below w.heap.size w w'∧∀ b,D' b→D b∨lI w w' b:=by
 refine ⟨⟨h.chg.os,h.chg.tape,h.chg.output,h.chg.size,fun k hk=>h.chg.block k hk fun ⟨nm,blk,g,_⟩=>(by cases g)⟩,fun b hb=>?_⟩
 rcases h.dhi b hb with g | g | ⟨_,_,g,_⟩
 ·exact .inl g
 ·exact .inr ⟨g,h.dlt b hb⟩
 ·cases g
theorem aC.data {P:Program} {G:List (Nat×AV)} {f:FuncId} {args:List AV} {pre:Prop} {r:Ty} {y:r.den} (h:aC P G f args [] ⟨pre,.dat r y,[]⟩) (hp:pre) {w:World} {D:Nat→Prop} {us:List Value} (hD:∀ b,D b→b < w.heap.size)
  (hG:rU P ⟨w,D,noM,noE⟩ G) (ha:AV.relL P ⟨w,D,noM,noE⟩ args us):Calls P f us.toArray w (aGU w D r y):=by
 refine (h hp w D noE us hD hG ha (Held.none _ _ _ _)).mono fun e w' ⟨v,D',E',q1,q2,q3⟩=>?_
 obtain ⟨g1,g2⟩:=q2.pure
 exact ⟨v,q1,g1,aH g2 (fun _ _=>rfl) q3⟩
theorem aIT {P:Program} {G:List (Nat×AV)} {f:FuncId} {caps:List AV} {a r:Ty} {pre:a.den→Prop} {g:a.den→r.den} (hg:goes P f=true) (hn:AV.namesL caps=[])
  (h:∀ x,aC P G f (.dat a x :: caps) [] ⟨pre x,.dat r (g x),[]⟩) {C:Ctx} (hG:rU P C G) {v:Value} (hv:(AV.fn f caps).rel P C v):(AV.clo1 a r pre g).rel P C v:=by
 obtain ⟨us,rfl,hc⟩:=hv
 refine ⟨f,us.toArray,rfl,hg,fun w' D' g1 g2 g3 x u hp hx=>?_⟩
 have hall:AV.relL P ⟨w',D',noM,noE⟩ (.dat a x :: caps) (u :: us):=⟨u,_,rfl,hx,aET hn g1 g3 hc⟩
 have hG':rU P ⟨w',D',noM,noE⟩ G:=hG.mono ⟨g1,g3⟩
 have e:(#[u] ++ us.toArray)=(u :: us).toArray:=by simp
 rw [e]
 exact (h x).data hp g2 hG' hall
theorem aC.args {P:Program} {G:List (Nat×AV)} {f:FuncId} {as bs:List AV} {m:Mem} {c:pF} (h:aC P G f bs m c) (hab:∀ (C:Ctx) us,rU P C G→AV.relL P C as us→AV.relL P C bs us):aC P G f as m c :=
 fun hp w D E us hD hG hu hH=>h hp w D E us hD hG (hab _ us hG hu) hH
theorem aC.of_pre {P:Program} {G:List (Nat×AV)} {f:FuncId} {as:List AV} {m:Mem} {c:pF} (h:c.pre→aC P G f as m c):aC P G f as m c:=fun hp=>h hp hp
theorem aC.weaken {P:Program} {G:List (Nat×AV)} {f:FuncId} {as:List AV} {m:Mem} {p q:Prop} {r:AV} {u:Mem} (h:aC P G f as m ⟨q,r,u⟩) (hpq:p→q):aC P G f as m ⟨p,r,u⟩:=fun hp=>h (hpq hp)
theorem aC.eqv {P:Program} {G:List (Nat×AV)} {f:FuncId} {as:List AV} {m:Mem} {p:Prop} {t:Ty} {x y:t.den} {u:Mem} (h:aC P G f as m ⟨p,.dat t x,u⟩) (e:p→x=y):aC P G f as m ⟨p,.dat t y,u⟩:=fun hp=>e hp ▸ h hp
mutual
def aVU (m:Mem) (nms:List Nat):AV→AV
 | .ptr nm g i c=>if nms.contains nm then match m.lookup nm with
  | some (.var [.dat t x])=>.ip t x
  | some (.var [v])=>if v.names.isEmpty then .ipv v else .top
  | some (.buf _ t xs [])=>.ia t xs
  | _=>.top
  else .ptr nm g i c
 | .buf nm n=>if nms.contains nm then match m.lookup nm with
  | some (.buf _ t xs [])=>.dat (.sl t) xs
  | some (.mat _ _ e xss [])=>.dat (.sl (.sl e)) xss
  | some (.buf _ (.sl e) xs [(i,.buf nm2 _)])=>match m.lookup nm2 with
   | some (.buf _ e' zs [])=>if h:e'=e then .dat (.sl (.sl e)) (D.set (α:=List e.den) xs i (h ▸ zs)) else .top
   | _=>.top
  | _=>.top
  else .buf nm n
 | .agg cs=>.agg (aVt m nms cs)
 | a=>if a.names.any nms.contains then .top else a
def aVt (m:Mem) (nms:List Nat):List AV→List AV
 | []=>[]
 | a :: as=>aVU m nms a :: aVt m nms as
end
def aWg (m:Mem) (nms:List Nat):Blk→Blk
 | .var cs=>.var (aVt m nms cs)
 | b=>b
def frz (nms:List Nat) (s:St):St:={ s with tm:=s.tm.map (fun a=>aVU s.mem nms (aSF a)),mem:=(s.mem.filter fun p=>!nms.contains p.1).map fun p=>(p.1,aWg s.mem nms p.2) }
def allNames (s:St):List Nat:=s.mem.map (·.1)
end Go.Eng
