/- The engine, part 17b: a function with a deferred closure that recovers. -/
import Derived.Test.YtlobbofhlcjlmaaGreatDoorH17
import Derived.RecoverIn
set_option linter.unusedSimpArgs false
set_option linter.unusedVariables false
namespace Go.Eng
open Go.RowKit
def aOM:Code→Option (Code×Array Oper×Code)
 | .seq pre (.seq (.region _ ops false) rest)=>some (pre,ops,rest)
 | _=>none
def aON:Code→Option (Array Oper×Code)
 | .seq (.region _ ops false) rest=>some (ops,rest)
 | _=>none
def guardOf:List Oper→Option (Tmp×FuncId×List Operand)
 | [⟨some t,.makeFunc (.func cf) first caps,_,_,_,none⟩,⟨none,.defer ⟨.value (.tmp t'),dargs,_⟩,_,_,_,none⟩]=>if first.isEmpty && t == t' && dargs.isEmpty then some (t,cf,caps.toList) else none
 | _=>none
def aEE:List Oper→Option (Tmp×Tmp)
 | [⟨some t3,.call ⟨.builtin .recover,rargs,_⟩,_,_,_,none⟩,⟨some t2,.assign (.tmp t),_,_,_,none⟩]=>if t == t3 && rargs.isEmpty then some (t3,t2) else none
 | _=>none
def aCi (G:List (Nat×AV)) (t:Tmp) (cf:FuncId) (caps:List Operand) (s:St):St:={ setSlot (some t) (.fn cf (caps.map (evT G s.sig.T))) s with sv:=caps.map (evT G s.sig.T) }
def aOh (fc:Func) (t3 t2:Tmp) (rec:AV) (s:St):St:=setSlot (some t2) rec (setSlot (some t3) rec ⟨s.sv ++ List.replicate (fc.ntmps - s.sv.length) (.val undef),s.mem,s.nx,s.tm⟩)
def aNw:List PanicEntry→Option AV
 | [⟨.iface t (.int k x),false,false⟩]=>some (.ifc t (.dat (.int k) x))
 | _=>none
def xZ (c:Cfg) (Ac:Ann) (fn fc:Func) (crest:Code) (t3 t2:Tmp) (r:pF) (rec:AV) (s:St):Prop :=
 vT (some t3) (s.sv.length + (fc.ntmps - s.sv.length))=true∧vT (some t2) (s.sv.length + (fc.ntmps - s.sv.length))=true∧ev c Ac crest (aOh fc t3 t2 rec s) (fun e s3=>match e with
  | .normal=>aLS c.P c.rng fn [] r (aC6 s3)
  | .ret=>aLS c.P c.rng fn [] r (aC6 s3)
  | _=>False)
def aVW (c:Cfg) (Ac:Ann) (fn fc:Func) (crest:Code) (t3 t2:Tmp) (r:pF):Exit→St→Prop
 | .normal,s=>xZ c Ac fn fc crest t3 t2 r (.val .nilIface) s
 | .ret,s=>xZ c Ac fn fc crest t3 t2 r (.val .nilIface) s
 | .panic ch,s=>match aNw ch with
  | some v=>xZ c Ac fn fc crest t3 t2 r v s
  | none=>False
 | _,_=>False
structure aLO where
 fn:Func
 pre:Code
 rest:Code
 t:Tmp
 cf:FuncId
 caps:List Operand
 fc:Func
 crest:Code
 t3:Tmp
 t2:Tmp
def aHi (P:Program) (f:FuncId):Option aLO:=match P.funcs[f]? with
 | some fn=>match fn.body with
  | some b=>match aOM b with
   | some (pre,gops,rest)=>match guardOf gops.toList with
    | some (t,cf,caps)=>match P.funcs[cf]? with
     | some fc=>match fc.body with
      | some cb=>match aON cb with
       | some (rops,crest)=>match aEE rops.toList with
        | some (t3,t2)=>if fc.results.toList.isEmpty then some ⟨fn,pre,rest,t,cf,caps,fc,crest,t3,t2⟩ else none
        | none=>none
       | none=>none
      | none=>none
     | none=>none
    | none=>none
   | none=>none
  | none=>none
 | none=>none
def evG (c:Cfg) (A Ac:Ann) (f:FuncId) (args:List AV) (r:pF):Prop:=match aHi c.P f with
 | some g=>(c.rng=false∧goes c.P g.cf=true)∧(r.pre→ev c A g.pre (kV g.fn args []) (fun e s=>match e with
   | .normal=>vT (some g.t) s.tm.length=true∧ev c A g.rest (aCi c.G g.t g.cf g.caps s) (aVW c Ac g.fn g.fc g.crest g.t3 g.t2 r)
   | _=>False))
 | none=>False
structure aTU (P:Program) (f:FuncId) (g:aLO):Prop where
 f:P.funcs[f]?=some g.fn
 b:∃ gid gops,g.fn.body=some (.seq g.pre (.seq (.region gid gops false) g.rest))∧guardOf gops.toList=some (g.t,g.cf,g.caps)
 cf:P.funcs[g.cf]?=some g.fc
 cb:∃ cid rops,g.fc.body=some (.seq (.region cid rops false) g.crest)∧aEE rops.toList=some (g.t3,g.t2)
 res:g.fc.results=#[]
theorem aEH {P:Program} {f:FuncId} {g:aLO} (h:aHi P f=some g):aTU P f g:=by
 unfold aHi at h
 split at h
 case h_2=>cases h
 rename_i fn hf
 split at h
 case h_2=>cases h
 rename_i b hb
 split at h
 case h_2=>cases h
 rename_i pre gops rest hs
 split at h
 case h_2=>cases h
 rename_i t cf caps hg
 split at h
 case h_2=>cases h
 rename_i fc hcf
 split at h
 case h_2=>cases h
 rename_i cb hcb
 split at h
 case h_2=>cases h
 rename_i rops crest hsc
 split at h
 case h_2=>cases h
 rename_i t3 t2 hr
 split at h
 case isFalse=>cases h
 rename_i hres
 cases h
 refine ⟨hf,?_,hcf,?_,Array.ext' (List.isEmpty_iff.1 hres)⟩
 ·unfold aOM at hs
  split at hs
  ·cases hs;exact ⟨_,_,hb,hg⟩
  ·cases hs
 ·unfold aON at hsc
  split at hsc
  ·cases hsc;exact ⟨_,_,hcb,hr⟩
  ·cases hsc
inductive aRN:FrameMode→Value→FrameMode→Prop where
 | ret:aRN .returning .nilIface .returning
 | pan (v:Value):aRN (.panicking [{ v:=v,recovered:=false }]) v (.panicking [{ v:=v,recovered:=true }])
theorem aLn {P:Program} {cf:FuncId} {fc:Func} {cid:Nat} {rops:Array Oper} {crest:Code} {t3 t2:Tmp} (hf:P.funcs[cf]?=some fc) (hb:fc.body=some (.seq (.region cid rops false) crest)) (hr:aEE rops.toList=some (t3,t2)) (hres:fc.results=#[])
  {args:Array Value} {u u2:FrameMode} {rv:Value} (hrec:aRN u rv u2) {w:World} {R:World→Prop} {a0:Act} (ha0:a0={ tmps:=args ++ Array.replicate (fc.ntmps - args.size) undef,defers:=[] })
  (h:At P none crest (fun e a w=>(e=.normal∨e=.ret)∧a.defers=[]∧R w) ((a0.put (some t3) rv).put (some t2) ((a0.put (some t3) rv).eval (.tmp t3))) w) :
  CallsDIn Fence.wide 0 P cf args u w fun e u' w'=>(∃ v,e=.returned v)∧u'=u2∧R w':=by
 refine ⟨trivial,fun c cs hu hroom=>?_⟩
 obtain ⟨b,hB⟩:∃ b:Frame,b={ (default:Frame) with fn:=cf,kind:=.deferred,roundOf:=none }:=⟨_,rfl⟩
 have hfn:b.fn=cf:=by rw [hB]
 have hk:b.kind=.deferred:=by rw [hB]
 have hro:b.roundOf=none:=by rw [hB]
 have e0:Frame.enter P cf args .deferred=b.atR a0 [.code (.seq (.region cid rops false) crest)]:=by rw [hB,ha0];simp [Frame.enter,Frame.atR,hf,hb]
 unfold aEE at hr
 split at hr
 case h_2=>cases hr
 rename_i t3' rargs at1 ty1 pos1 af1 t2' t ty2 pos2 af2 hl
 split at hr
 case isFalse=>cases hr
 rename_i hc
 simp only [Bool.and_eq_true,beq_iff_eq,Array.isEmpty_iff] at hc
 obtain ⟨rfl,rfl⟩:=hc
 simp only [Option.some.injEq,Prod.mk.injEq] at hr
 obtain ⟨rfl,rfl⟩:=hr
 obtain ⟨o1,ho1⟩:∃ o1:Oper,o1=⟨some t,.call ⟨.builtin .recover,#[],at1⟩,ty1,pos1,af1,none⟩:=⟨_,rfl⟩
 obtain ⟨o2,ho2⟩:∃ o2:Oper,o2=⟨some t2',.assign (.tmp t),ty2,pos2,af2,none⟩:=⟨_,rfl⟩
 have hops:rops=#[o1,o2]:=by
  apply Array.ext';rw [ho1,ho2];exact hl
 have w1n:∀ g,Region.wanted o1 g=true:=fun g=>by rw [ho1];rfl
 have w2n:∀ g,Region.wanted o2 g=true:=fun g=>by rw [ho2];rfl
 have x1:∀ a:Act,(execOp a.eval o1).run P w=.ok .recover w:=fun a=>by
  rw [ho1];simp [execOp,resolve,invoke,builtin]
 have x2:∀ a:Act,(execOp a.eval o2).run P w=.ok (.value (a.eval (.tmp t))) w:=fun a=>by rw [ho2];rfl
 have d1:o1.dst=some t:=by rw [ho1]
 have d2:o2.dst=some t2':=by rw [ho2]
 have hw:wpOpsSIn Fence.wide 0 P rops (fun e a' cs' w'=>e=.normal∧a'=(a0.put (some t) rv).put (some t2') ((a0.put (some t) rv).eval (.tmp t))∧cs'={ c with mode:=u2 } :: cs∧w'=w) (List.range rops.size) a0 (c :: cs) w:=by
  have hsz:rops.size=2:=by rw [hops];rfl
  rw [hsz]
  have h0:rops[0]?=some o1:=by rw [hops];rfl
  have h1:rops[1]?=some o2:=by rw [hops];rfl
  show wpOpsSIn _ _ _ _ _ [0,1] _ _ _
  simp only [wpOpsSIn,h0,h1,w1n,w2n,if_true,x1,x2,d1,d2]
  refine ⟨fun _ _=>trivial,?_⟩
  cases hrec with
  | ret =>
   have hrd:recoverD (c :: cs)=none:=by simp [recoverD,hu]
   rw [hrd]
   refine ⟨fun _ _=>trivial,trivial,rfl,?_,trivial⟩
   rw [← hu]
  | pan v =>
   have hrd:recoverD (c :: cs)=some (rv,{ c with mode:=.panicking [{ v:=rv,recovered:=true }] } :: cs):=by simp [recoverD,hu]
   rw [hrd]
   exact ⟨fun _ _=>trivial,trivial,rfl,rfl,trivial⟩
 obtain ⟨e1,a1,cs1,w1,_,⟨rfl,rfl,rfl,rfl⟩,harr⟩:=wp_opsSIn _ a0 (c :: cs) w hw b [.code crest] hk hro trivial (room_wide _)
 have hs1:StepsIn Any P (lone (Frame.enter P cf args .deferred) (c :: cs) w1) (lone (b.atR ((a0.put (some t) rv).put (some t2') ((a0.put (some t) rv).eval (.tmp t))) [.code crest]) ({ c with mode:=u2 } :: cs) w1):=by
  rw [e0]
  exact (kT stepR_seq).trans ((kT stepR_region).trans (toAny harr))
 obtain ⟨e,a',w',⟨he,hd,hR⟩,r⟩:=h b [] ({ c with mode:=u2 } :: cs) hro (by rw [hfn,hf];rfl)
 have done:∀ todo,StepsIn Any P (lone (b.atR ((a0.put (some t) rv).put (some t2') ((a0.put (some t) rv).eval (.tmp t))) [.code crest]) ({ c with mode:=u2 } :: cs) w1) (lone { b.atR a' todo with mode:=.returning } ({ c with mode:=u2 } :: cs) w') →
   ∃ e u' w2 fr,((∃ v,e=.returned v)∧u'=u2∧R w2)∧ComesIn (Machine.fenced P Fence.wide) P (lone (Frame.enter P cf args .deferred) (c :: cs) w1) (lone fr ({ c with mode:=u' } :: cs) w2) e∧fr.kind=.deferred∧fr.fn=cf∧fr.going P w2 e :=
  fun todo hs=>⟨.returned (.tuple #[]),u2,w',{ b.atR a' todo with mode:=.returning },⟨⟨_,rfl⟩,rfl,hR⟩,aNA (hs1.trans hs),hk,hfn,rfl,hd,fc,(by rw [show ({ b.atR a' todo with mode:=.returning }:Frame).fn=cf from hfn];exact hf),by simp [results,hres]⟩
 rcases he with rfl | rfl
 ·exact done [] (StepsIn.trans r (kT (stepR_end hro)))
 ·obtain ⟨todo,hs⟩:=r.1 hro
  exact done todo hs
theorem aZ.clo {S:Base} {σ:Sig} {a:Act} {w:World} {D:Nat→Prop} {E:Nat→Ent} (h:aZ S σ a w D E) {N:Nat} {tm:Nat→AV} {tmps:Array Value} (hsz:tmps.size=N)
  (htm:∀ t,(tm t).rel S.P ⟨w,D,σ.m,E⟩ (tmps.getD t undef)) {sv:List AV} {vs:List Value} (hs:AV.relL S.P ⟨w,D,σ.m,E⟩ sv vs) :
  aZ { P:=S.P,w0:=w,D0:=D,N:=N,O:=aV σ.m E,G:=S.G,sv:=vs,rd:=none,nod:=true } ⟨tm,σ.m,sv⟩ { tmps:=tmps,defers:=[] } w D E :=
 ⟨hsz,⟨⟨fun _=>rfl,⟨[],rfl⟩,List.Pairwise.nil⟩,fun d hd=>by cases hd⟩,htm,h.bl,fun nm b hm hi=>⟨.inr (.inl ⟨nm,b,hm,hi,rfl⟩),(h.own nm b hm hi).2⟩,h.inj,Chg.refl _ _,h.dlt,fun _ g=>g,fun _ g=>.inl g,h.gl,hs,
  ⟨fun nm i b g=>⟨.inr (.inr ⟨nm,i,g⟩),(h.pv.own nm i b g).2⟩,h.pv.ent,h.pv.inj⟩⟩
theorem aS3 {args:List AV} {n:Nat} {us:List Value} {P:Program} {C:Ctx} (h:AV.relL P C args us) (t:Nat) :
  ((args ++ List.replicate (n - args.length) (AV.val undef)).getD t .top).rel P C ((us.toArray ++ Array.replicate (n - us.toArray.size) undef).getD t undef):=by
 have hlen:args.length=us.length:=AV.relL_length h
 rw [List.getD_eq_getElem?_getD,Array.getD_eq_getD_getElem?]
 by_cases ht:t < args.length
 ·rw [List.getElem?_append_left ht,Array.getElem?_append_left (by simpa using hlen ▸ ht)]
  obtain ⟨u,g1,g2⟩:=AV.relL_get h (List.getElem?_eq_getElem ht)
  rw [List.getElem?_eq_getElem ht]
  simp only [List.getElem?_toArray,g1,Option.getD_some]
  exact g2
 ·rw [List.getElem?_append_right (by omega),Array.getElem?_append_right (by simp;omega)]
  rw [List.getElem?_replicate,Array.getElem?_replicate]
  split
  ·rename_i h1
   rw [if_pos (by simp;omega)]
   rfl
  ·trivial
theorem aHL {c:Cfg} {Ac:Ann} {fn fc:Func} {cf:FuncId} {cid:Nat} {rops:Array Oper} {crest:Code} {t3 t2:Tmp} {r:pF} {S:Base} (HO:OkS c S) (hrng:c.rng=false) (hSs:S.sv=[]) (hSr:S.rd=none) (hSn:S.nod=true) (hSg:S.gd=[])
  (hf:c.P.funcs[cf]?=some fc) (hb:fc.body=some (.seq (.region cid rops false) crest)) (hr:aEE rops.toList=some (t3,t2)) (hres:fc.results=#[]) (hgo:goes c.P cf=true) {POST:Ending→World→Prop}
  (key:∀ s' a' w',Sim S s'.sig a' w'→True→aLS c.P c.rng fn [] r s'→LeavesInM Fence.wide 0 c.P fn a'.tmps POST a'.defers .returning w')
  {us:List Value} {d:Deferred} (hd:d={ target:=.fn (.func cf) us.toArray,args:=#[] }) {u u2:FrameMode} {rv:Value} (hrec:aRN u rv u2) (hu2:settle u2=.returning) (hur:u≠.run) {rec:AV} {s:St} {a:Act} {w:World}
  (hs:Sim { S with gd:=[d],sv:=us } s.sig a w) (hl:s.tm.length=S.N) (hrv:∀ C:Ctx,rec.rel c.P C rv) (h:xZ c Ac fn fc crest t3 t2 r rec s):LeavesInM Fence.wide 0 c.P fn a.tmps POST [d] u w:=by
 obtain ⟨h1,h2,h3⟩:=h
 obtain ⟨D,E,hd1⟩:=hs
 have hP:=HO.P
 obtain ⟨Sc,hSc⟩:∃ Sc:Base,Sc={ P:=S.P,w0:=w,D0:=D,N:=s.sv.length + (fc.ntmps - s.sv.length),O:=aV s.sig.m E,G:=S.G,sv:=a.tmps.toList,rd:=none,nod:=true }:=⟨_,rfl⟩
 obtain ⟨a0,ha0⟩:∃ a0:Act,a0={ tmps:=us.toArray ++ Array.replicate (fc.ntmps - us.toArray.size) undef,defers:=[] }:=⟨_,rfl⟩
 have hcaps:AV.relL S.P ⟨w,D,s.sig.m,E⟩ s.sv us:=hd1.svr
 have hlen:s.sv.length=us.length:=AV.relL_length hcaps
 have svs:AV.relL S.P ⟨w,D,s.sig.m,E⟩ s.tm a.tmps.toList:=by
  have hsz:a.tmps.size=S.N:=hd1.sz
  refine AV.relL_mk (by rw [hl,Array.length_toList,hsz]) fun i av v hi hv=>?_
  have:=hd1.tm i
  have e1:s.sig.T i=av:=by show s.tm.getD i .top=av;rw [List.getD_eq_getElem?_getD,hi];rfl
  have e2:a.tmps.getD i undef=v:=by
   rw [Array.getD_eq_getD_getElem?]
   simp only [Array.getElem?_toList] at hv
   rw [hv];rfl
  rw [e1] at this
  simpa only [e2] using this
 obtain ⟨s0,hs0⟩:∃ s0:St,s0=⟨s.sv ++ List.replicate (fc.ntmps - s.sv.length) (.val undef),s.mem,s.nx,s.tm⟩:=⟨_,rfl⟩
 have hc0:aZ Sc s0.sig a0 w D E:=by
  have hsz0:(us.toArray ++ Array.replicate (fc.ntmps - us.toArray.size) undef).size=s.sv.length + (fc.ntmps - s.sv.length):=by simp [hlen]
  have:=hd1.clo (N:=s.sv.length + (fc.ntmps - s.sv.length)) (tm:=s0.sig.T) (tmps:=us.toArray ++ Array.replicate (fc.ntmps - us.toArray.size) undef) hsz0 (fun t=>by rw [hs0];exact aS3 hcaps t) svs
  rw [hSc,ha0,hs0]
  rw [hs0] at this
  exact this
 have hl0:s0.tm.length=Sc.N:=by rw [hs0,hSc];simp
 have hSP:Sc.P=S.P:=by rw [hSc]
 have hc1:aZ Sc (setSlot (some t3) rec s0).sig (a0.put (some t3) rv) w D E:=hc0.slot hl0 (by rw [hl0,hSc];exact h1) (by rw [hSP,← hP];exact hrv _)
 have hl1:(setSlot (some t3) rec s0).tm.length=Sc.N:=by simp [setSlot,hl0]
 have hc2:aZ Sc (aOh fc t3 t2 rec s).sig ((a0.put (some t3) rv).put (some t2) ((a0.put (some t3) rv).eval (.tmp t3))) w D E:=by
  have h5:=hc1.tm t3
  have e5:(setSlot (some t3) rec s0).sig.T t3=rec:=by
   show (s0.tm.set t3 rec).getD t3 .top=rec
   have ht:t3 < s0.tm.length:=by rw [hl0,hSc];simpa [vT] using h1
   rw [List.getD_eq_getElem?_getD,List.getElem?_set_self ht];rfl
  rw [e5] at h5
  have:=hc1.slot (d:=some t2) (x:=rec) (v:=(a0.put (some t3) rv).tmps.getD t3 undef) hl1 (by rw [hl1,hSc];exact h2) h5
  rw [hs0] at this
  exact this
 have HOc:OkS c Sc:=by
  rw [hSc]
  exact ⟨HO.P,HO.G,HO.K,HO.I,HO.m,fun e=>(e rfl).elim,fun _=>by rw [hrng];rfl,HO.KP⟩
 have hat:=qF crest Sc (aOh fc t3 t2 rec s) _ (fun e a' w'=>(e=.normal∨e=.ret)∧a'.defers=[]∧LeavesInM Fence.wide 0 c.P fn a.tmps POST [] .returning w') HOc h3 (by show _=Sc.N;simp [aOh,setSlot];rw [hSc]) (fun e s3 hq hl3 a3 w3 hs3=>by
  obtain ⟨D3,E3,h5⟩:=hs3
  have hdef:a3.defers=[]:=(h5.df.1.1 (by rw [hSc])).trans (by rw [hSc])
  have own1:∀ bk,aV s.sig.m E bk→S.w0.heap.size≤bk∨S.O bk:=fun bk g0=>(hd1.ownAll g0).1
  have hlow:Chg S.O S.w0 w3:=by
   have l1:Chg S.O S.w0 w:=hd1.low
   have l2:Chg (aV s.sig.m E) w w3:=by have:=h5.low;rw [hSc] at this;exact this
   refine l1.step l2.os l2.tape l2.output l2.size fun q hq hno=>l2.block q (Nat.lt_of_lt_of_le hq l1.size) fun g=>?_
   rcases own1 q g with g | g
   ·omega
   ·exact hno g
  have hout:aZ S (aC6 s3).sig { tmps:=a.tmps,defers:=[] } w3 D3 E3 :=
   h5.leave (S:=S) (a0:={ tmps:=a.tmps,defers:=[] }) hSP (by rw [hSc]) (by rw [hSc]) hd1.sz (fun bk g=>by
    rw [hSc] at g
    rcases g with g | g
    ·exact .inl (Nat.le_trans (show S.w0.heap.size≤w.heap.size from hd1.low.size) g)
    ·exact own1 bk g) hlow (fun bk g=>h5.dlo bk (by rw [hSc];exact hd1.dlo bk g)) (fun bk g=>by
    have:=h5.dhi bk g
    rw [hSc] at this
    rcases this with g | g | g
    ·exact hd1.dhi bk g
    ·exact .inr (.inl (Nat.le_trans (show S.w0.heap.size≤w.heap.size from hd1.low.size) g))
    ·exact (own1 bk g).elim (fun g=>.inr (.inl g)) (fun g=>.inr (.inr g))) ⟨⟨fun _=>hSg.symm,⟨[],hSg.symm⟩,List.Pairwise.nil⟩,fun d hd=>(by cases hd)⟩ hSs
  have fin:=fun hq=>key (aC6 s3) { tmps:=a.tmps,defers:=[] } w3 ⟨D3,E3,hout⟩ trivial hq
  cases e <;> first
   | exact ⟨.inl rfl,hdef,fin hq⟩
   | exact ⟨.inr rfl,hdef,fin hq⟩
   | exact hq.elim) _ w ⟨D,E,hc2⟩
 rw [show Sc.P=c.P by rw [hSP,hP],show Sc.rd=none by rw [hSc]] at hat
 have hcall:=aLn (args:=us.toArray) hf hb hr hres hrec ha0 hat
 subst hd
 refine ⟨hur,.inr ⟨fun h=>(by cases h),.func cf,us.toArray,cf,us.toArray,rfl,?_,fun _ _=>trivial,hcall.mono fun e u' w' he=>?_⟩⟩
 ·simp only [invoke,Array.empty_append]
  exact oK hgo w us.toArray
 ·obtain ⟨⟨v,rfl⟩,rfl,hq⟩:=he
  show LeavesInM _ _ _ _ _ _ _ (settle u') w'
  rw [hu2];exact hq
theorem aHj {ch:List PanicEntry} {v:AV} (h:aNw ch=some v):∃ rv,ch=[{ v:=rv,recovered:=false }]∧∀ (P:Program) (C:Ctx),v.rel P C rv:=by
 unfold aNw at h
 split at h
 ·rename_i t k x
  cases h
  exact ⟨_,rfl,fun P C=>⟨_,rfl,rfl⟩⟩
 ·cases h
theorem zV {c:Cfg} {A Ac:Ann} {f:FuncId} {args:List AV} {r:pF} (hK:aQ c.P c.G c.K) (hI:dF c.P c.G c.KI) (hm:c.P.follows .mixedOrders=true) (hKP:fB c.P c.G c.KP) (h:evG c A Ac f args r):aC c.P c.G f args [] r:=by
 intro hpre w D E us hD hG hargs hH
 unfold evG at h
 split at h
 case h_2=>exact h.elim
 rename_i g hg
 obtain ⟨⟨hrng,hgo⟩,h⟩:=h
 have h:=h hpre
 obtain ⟨hf,⟨gid,gops,hb,hgd⟩,hcf,⟨cid,rops,hcb,hrec⟩,hres⟩:=aEH hg
 obtain ⟨S,hS,HO,hln,hstart,key⟩:=aGz (m:=[]) (r:=r) (fn:=g.fn) (X:=fun _=>False) (Z:=True) hK hI hm hKP rfl (fun _ h=>by cases h) w D E us hD hG hargs hH
 have hSP:S.P=c.P:=by rw [hS]
 have hSr:S.rd=none:=by rw [hS]
 have hSs:S.sv=[]:=by rw [hS];rfl
 have hSg:S.gd=[]:=by rw [hS]
 have hSn:S.nod=true:=by rw [hS];show (!c.rng)=true;rw [hrng];rfl
 suffices hfin:Calls c.P f us.toArray w (fun e w'=>(True∧∃ v D' E',e=.returned v∧Left c.P (dI []) r.upd w D E w' D' E'∧r.ret.rel c.P ⟨w',D',upM (dI []) r.upd,E'⟩ v)∨∃ ch,e=.panicked ch∧False∧Chg (bV (dI []) E) w w') from
  hfin.mono fun e w' he=>by
   rcases he with ⟨_,g⟩ | ⟨_,_,g,_⟩
   ·exact g
   ·exact g.elim
 refine (callsIn_wide (n:=0)).1 (aAQ hf hb ?_)
 suffices hgo2:At S.P S.rd (.seq g.pre (.seq (.region gid gops false) g.rest)) (bodyPostM Fence.wide 0 c.P g.fn (fun e w'=>(True∧∃ v D' E',e=.returned v∧Left c.P (dI []) r.upd w D E w' D' E'∧r.ret.rel c.P ⟨w',D',upM (dI []) r.upd,E'⟩ v)∨∃ ch,e=.panicked ch∧False∧Chg (bV (dI []) E) w w'))
   { tmps:=us.toArray ++ Array.replicate (g.fn.ntmps - us.toArray.size) undef,defers:=[] } w by
  rw [hSP,hSr] at hgo2;exact hgo2
 refine aB3 (qF g.pre S (kV g.fn args []) _ _ HO h hln (fun e s hq hl a1 w1 hs=>?_) _ w ⟨D,E,hstart⟩)
 cases e <;> first | exact hq.elim | skip
 obtain ⟨hdt,hrest⟩:=hq
 obtain ⟨D1,E1,hd1⟩:=hs
 have hdef:a1.defers=[]:=(hd1.df.1.1 hSn).trans hSg
 -- the closure is made, its call deferred
 unfold guardOf at hgd
 split at hgd
 case h_2=>cases hgd
 rename_i t cf first caps ty1 pos1 af1 t' dargs at2 ty2 pos2 af2 hl0
 split at hgd
 case isFalse=>cases hgd
 rename_i hc
 simp only [Bool.and_eq_true,beq_iff_eq,Array.isEmpty_iff] at hc
 obtain ⟨⟨rfl,rfl⟩,rfl⟩:=hc
 simp only [Option.some.injEq,Prod.mk.injEq] at hgd
 obtain ⟨e1,e2,e3⟩:=hgd
 obtain ⟨o1,ho1⟩:∃ o1:Oper,o1=⟨some t,.makeFunc (.func cf) #[] caps,ty1,pos1,af1,none⟩:=⟨_,rfl⟩
 obtain ⟨o2,ho2⟩:∃ o2:Oper,o2=⟨none,.defer ⟨.value (.tmp t),#[],at2⟩,ty2,pos2,af2,none⟩:=⟨_,rfl⟩
 have hops:gops=#[o1,o2]:=by
  apply Array.ext';rw [ho1,ho2];exact hl0
 have hcapv:AV.relL S.P ⟨w1,D1,s.sig.m,E1⟩ (g.caps.map (evT c.G s.sig.T)) (g.caps.map a1.eval):=by
  refine AV.relL_mk (by simp) fun j av u h1 h2=>?_
  simp only [List.getElem?_map,Option.map_eq_some_iff] at h1 h2
  obtain ⟨x,hx,rfl⟩:=h1
  obtain ⟨x',hx',rfl⟩:=h2
  rw [hx] at hx';cases hx'
  have:=iZ hd1 x
  rw [← HO.G] at this
  exact this
 obtain ⟨fv,hfv⟩:∃ fv:Value,fv=.func (.func cf) #[] (g.caps.map a1.eval).toArray:=⟨_,rfl⟩
 obtain ⟨d,hd⟩:∃ d:Deferred,d={ target:=.fn (.func g.cf) (g.caps.map a1.eval).toArray,args:=#[] }:=⟨_,rfl⟩
 have ht:t < S.N:=by
  rw [e1];rw [← hl];simpa [vT] using hdt
 have hsz1:a1.tmps.size=S.N:=hd1.sz
 have hev:(a1.put (some t) fv).eval (.tmp t)=fv:=by
  show (a1.tmps.setIfInBounds t fv).getD t undef=fv
  simp [Array.getD,hsz1,ht]
 have x1:(execOp a1.eval o1).run S.P w1=.ok (.value fv) w1:=by
  rw [ho1,hfv,← e3,← toList_map]
  simp [execOp,Instr.makeFunc]
 have x2:(execOp (a1.put (some t) fv).eval o2).run S.P w1=.ok (.defer d) w1:=by
  rw [ho2,hd,← e2]
  have:(a1.put (some t) fv).eval (.tmp t)=.func (.func cf) #[] (g.caps.map a1.eval).toArray:=by rw [hev,hfv]
  simp only [execOp,resolve,this,Deferred.ofValue]
  simp
 have hreg:At S.P S.rd (.region gid gops false) (Exit.then (At S.P S.rd g.rest (bodyPostM Fence.wide 0 c.P g.fn fun e w'=>(True∧∃ v D' E',e=.returned v∧Left c.P (dI []) r.upd w D E w' D' E'∧r.ret.rel c.P ⟨w',D',upM (dI []) r.upd,E'⟩ v)∨∃ ch,e=.panicked ch∧False∧Chg (bV (dI []) E) w w'))
   (bodyPostM Fence.wide 0 c.P g.fn fun e w'=>(True∧∃ v D' E',e=.returned v∧Left c.P (dI []) r.upd w D E w' D' E'∧r.ret.rel c.P ⟨w',D',upM (dI []) r.upd,E'⟩ v)∨∃ ch,e=.panicked ch∧False∧Chg (bV (dI []) E) w w')) a1 w1:=by
  refine aOt (wpIn_region ?_)
  have hF:S.F=Fence.wide:=by unfold Base.F;rw [hSr]
  rw [hF]
  have hz:gops.size=2:=by rw [hops];rfl
  rw [hz]
  have h0:gops[0]?=some o1:=by rw [hops];rfl
  have h1:gops[1]?=some o2:=by rw [hops];rfl
  show wpOpsIn _ _ _ _ _ [0,1] _ _
  have w1n:∀ g,Region.wanted o1 g=true:=fun g=>by rw [ho1];rfl
  have w2n:∀ g,Region.wanted o2 g=true:=fun g=>by rw [ho2];rfl
  have d1:o1.dst=some t:=by rw [ho1]
  have d2:o2.dst=none:=by rw [ho2]
  simp only [wpOpsIn,h0,h1,w1n,w2n,if_true,Oper.wpIn]
  refine ⟨fun _ _=>trivial,?_⟩
  rw [show Fence.wide.round=none from rfl,Oper.semAt_none,x1,Oper.uponIn_value,d1]
  refine ⟨fun _ _=>trivial,?_⟩
  rw [Oper.semAt_none,x2,Oper.uponIn_defer,d2]
  obtain ⟨S2,hS2⟩:∃ S2:Base,S2={ S with gd:=[d],sv:=g.caps.map a1.eval }:=⟨_,rfl⟩
  have HO2:OkS c S2:=by
   rw [hS2]
   exact ⟨HO.P,HO.G,HO.K,HO.I,HO.m,fun e=>(e hSr).elim,fun _=>HO.nod hSr,HO.KP⟩
  have hslot:=hd1.slot (d:=some t) (v:=fv) (x:=.fn cf (g.caps.map (evT c.G s.sig.T))) hl (by rw [e1];exact hdt) ⟨_,hfv,hcapv⟩
  have hd2:aZ S2 (aCi c.G g.t g.cf g.caps s).sig { (a1.put (some t) fv) with defers:=d :: (a1.put (some t) fv).defers } w1 D1 E1:=by
   have hde:(a1.put (some t) fv).defers=[]:=hdef
   rw [hde,← e1,← e2,hS2]
   refine ⟨hslot.sz,⟨⟨fun _=>rfl,⟨[],rfl⟩,List.pairwise_singleton _ _⟩,fun q hq=>.inl ⟨hq,fun k e=>?_⟩⟩,hslot.tm,hslot.bl,hslot.own,hslot.inj,hslot.low,hslot.dlt,hslot.dlo,hslot.dhi,hslot.gl,hcapv,hslot.pv⟩
   rw [List.mem_singleton] at hq
   rw [hq,hd] at e;cases e
  have hl2:(aCi c.G g.t g.cf g.caps s).tm.length=S2.N:=by rw [hS2];simp [aCi,setSlot,hl]
  have hclose:∀ {u u2:FrameMode} {rv:Value} {rec:AV} (_:aRN u rv u2) (_:settle u2=.returning) (_:u≠.run) (_:∀ C:Ctx,rec.rel c.P C rv) (s':St) (a':Act) (w':World),Sim S2 s'.sig a' w'→s'.tm.length=S2.N→xZ c Ac g.fn g.fc g.crest g.t3 g.t2 r rec s' →
    LeavesInM Fence.wide 0 c.P g.fn a'.tmps _ a'.defers u w':=fun h1 h2 h3 h4 s' a' w' hs' hl' hq=>by
   have hdd:a'.defers=[d]:=by
    obtain ⟨D5,E5,h5⟩:=hs'
    have:=h5.df.1.1 (by rw [hS2];exact hSn)
    rw [this,hS2]
   rw [hdd]
   exact aHL HO hrng hSs hSr hSn hSg hcf hcb hrec hres hgo key hd h1 h2 h3 (by rw [← hS2];exact hs') (by rw [hl',hS2]) h4 hq
  have hat:=qF g.rest S2 (aCi c.G g.t g.cf g.caps s) _ (bodyPostM Fence.wide 0 c.P g.fn fun e w'=>(True∧∃ v D' E',e=.returned v∧Left c.P (dI []) r.upd w D E w' D' E'∧r.ret.rel c.P ⟨w',D',upM (dI []) r.upd,E'⟩ v)∨∃ ch,e=.panicked ch∧False∧Chg (bV (dI []) E) w w') HO2 hrest hl2 (fun e s' hq hl' a' w' hs'=>by
   cases e with
   | normal=>exact hclose (rec:=.val .nilIface) .ret rfl (by simp) (fun _=>rfl) s' a' w' hs' hl' hq
   | ret=>exact hclose (rec:=.val .nilIface) .ret rfl (by simp) (fun _=>rfl) s' a' w' hs' hl' hq
   | panic ch =>
    simp only [aVW] at hq
    split at hq
    case h_2=>exact hq.elim
    rename_i v hv
    obtain ⟨rv,rfl,hrv⟩:=aHj hv
    exact hclose (.pan rv) rfl (by simp) (fun C=>hrv c.P C) s' a' w' hs' hl' hq
   | exit id=>exact hq.elim
   | goto l=>exact hq.elim
   | outgrown=>exact hq.elim) _ w1 ⟨D1,E1,hd2⟩
  rw [show S2.P=S.P by rw [hS2],show S2.rd=S.rd by rw [hS2]] at hat
  exact hat
 exact aB3 hreg
end Go.Eng
