/- The engine, part 21c: a function that is ranged over and is lent variables: between its yields what it was lent is data. -/
import Derived.Test.YtlobbofhlcjlmaaGreatDoorH21b
set_option linter.unusedSimpArgs false
set_option linter.unusedVariables false
namespace Go.Eng
open Go.RowKit
def aTX (u:Nat→Value) (n:Nat):List Value:=(List.range n).map u
def aCE:List Value→List AV→List AV
 | u :: us,a :: as=>.pin u a :: aCE us as
 | _,_=>[]
def aAf:List Value→List AV→Option (List Prop)
 | [],_=>some []
 | u :: us,.pin u' _ :: as=>match aAf us as with
  | some q=>some ((u'=u) :: q)
  | none=>none
 | _,_=>none
def qY:AV→AV
 | .yld l=>.yld l
 | a=>aIb a
def anew (us:List Value) (caps:List AV) (s:St):St:={ s with tm:=(s.tm.take 1).map qY ++ aCE us caps ++ (s.tm.drop (caps.length + 1)).map qY }
def bare (s:St):St:={ s with tm:=s.tm.map qY }
def aOP (c:Cfg) (it:oW) (l:Nat) (us:List Value) (caps:List AV) (ops:Array Oper):List Oper→Y→(Y→Prop)→Prop
 | [],y,Q=>Q y
 | o :: os,y,Q=>match aJh y.s.sig.T ops o.guard with
  | some g=>match yieldOf c.G y.s.sig.T g o.op with
   | some (l',ns,v)=>if vT o.dst y.s.tm.length=true∧(y.s.mem.isEmpty && y.s.sv.isEmpty)=true∧caps.length < y.s.tm.length then match v.as it.t,aAf us (y.s.tm.drop 1) with
    | some x,some ps=>aOd g (all (ns ++ ps) (l'=l∧y.on=true∧yY it.L y.k x∧aOP c it l us caps ops os ⟨setSlot o.dst (.dat .bool true) (anew us caps y.s),y.k + 1,true⟩ Q∧aOP c it l us caps ops os ⟨setSlot o.dst (.dat .bool false) (bare y.s),y.k + 1,false⟩ Q))
      (aOP c it l us caps ops os ⟨setSlot o.dst (.grd g (.dat .bool false)) y.s,y.k,y.on⟩ Q)
    | _,_=>False
    else False
   | none=>match lF c.P c.G c.K (c.mt o) ops y.s.nx y.s.sig o with
    | some r=>if kU r y.s.tm.length=true∧aES r y.s=true then all r.need (aOP c it l us caps ops os ⟨fU r y.s,y.k,y.on⟩ Q) else False
    | none=>False
  | none=>False
def rgL (c:Cfg) (it:oW) (l:Nat) (us:List Value) (caps:List AV) (ops:Array Oper) (draw:Bool) (y:Y) (Q:Y→Prop):Prop:=if draw=true then False else aOP c it l us caps ops ops.toList y Q
def aEh (fn:Func) (l:Nat) (us:List Value) (caps:List AV):Y:=⟨⟨(.yld l :: aCE us caps) ++ List.replicate (fn.ntmps - (caps.length + 1)) (.val undef),[],0,[]⟩,0,true⟩
def evL (c:Cfg) (A:aJm) (f:FuncId) (caps:List AV) (it:oW):Prop:=match c.P.funcs[f]? with
 | some fn=>match fn.body with
  | some b=>fn.results.toList.isEmpty=true∧aK4 it.t=true∧c.rng=false∧∀ (l:Nat) (u:Nat→Value),it.pre→evZ c (rgL c it l (aTX u caps.length) caps) A b (aEh fn l (aTX u caps.length) caps) (aT9 it)
  | none=>False
 | none=>False
theorem aBG {P:Program} {C C':Ctx} {a:AV} {v:Value} (h:a.rel P C v):(qY a).rel P C' v:=by
 unfold qY
 split
 ·exact h
 ·exact aA3 h
theorem mF:∀ {us:List Value} {as:List AV},us.length=as.length→(aCE us as).length=as.length
 | [],[],_=>rfl
 | _ :: us,_ :: as,h=>by simp [aCE,mF (us:=us) (as:=as) (by simpa using h)]
theorem aF6:∀ {us:List Value} {as:List AV} {i:Nat} {x:AV},(aCE us as)[i]?=some x→∃ u a,us[i]?=some u∧as[i]?=some a∧x=.pin u a
 | [],_,_,_,h=>by simp [aCE] at h
 | _ :: _,[],_,_,h=>by simp [aCE] at h
 | u :: us,a :: as,0,x,h=>by simp [aCE] at h;exact ⟨u,a,rfl,rfl,h.symm⟩
 | u :: us,a :: as,i + 1,x,h=>by simp only [aCE,List.getElem?_cons_succ] at h ⊢;exact aF6 h
theorem aEG:∀ {us:List Value} {as:List AV} {q:List Prop},aAf us as=some q→(∀ p ∈ q,p)→∀ {i:Nat} {u:Value},us[i]?=some u→∃ a,as[i]?=some (.pin u a)
 | [],_,_,_,_,i,u,h=>by simp at h
 | u' :: us,[],q,h,_,_,_,_=>by simp [aAf] at h
 | u' :: us,x :: as,q,h,hq,i,u,hi=>by
  cases x <;> first
   | (simp [aAf] at h;done)
   | skip
  rename_i u2 a2
  simp only [aAf] at h
  split at h
  ·rename_i q' hq'
   cases h
   have e:u2=u':=hq _ (List.mem_cons_self ..)
   cases i with
   | zero=>simp at hi;subst hi e;exact ⟨a2,rfl⟩
   | succ i=>simpa using aEG hq' (fun p hp=>hq p (List.mem_cons_of_mem _ hp)) (by simpa using hi)
  ·cases h
theorem aN2 {t:Ty} (h:aK4 t=true) {w:World} {D:Nat→Prop} {x:t.den} {us:List Value} (hr:aF w D t x us):aF w noV t x us:=by
 cases t <;> first | exact hr | cases h
section
variable {c:Cfg} {it:oW} {l N:Nat} {us:List Value} {caps:List AV} {J:Nat→World→Prop} {JX:World→Prop} {JP:List PanicEntry→World→Prop}
structure aRQ (c:Cfg) (it:oW) (l:Nat) (us:List Value) (caps:List AV) (J:Nat→World→Prop) (JX:World→Prop) (JP:List PanicEntry→World→Prop):Prop where
 K:aQ c.P c.G c.K
 I:dF c.P c.G c.KI
 KP:fB c.P c.G c.KP
 m:c.P.follows .mixedOrders=true
 rng:c.rng=false
 flat:aK4 it.t=true
 len:us.length=caps.length
 jc:∀ k w1,J k w1→∃ D:Nat→Prop,(∀ b,D b→b < w1.heap.size)∧rU c.P ⟨w1,D,noM,noE⟩ c.G∧AV.relL c.P ⟨w1,D,noM,noE⟩ caps us
 xc:∀ w1,JX w1→∃ D:Nat→Prop,(∀ b,D b→b < w1.heap.size)∧rU c.P ⟨w1,D,noM,noE⟩ c.G
 j1:∀ k w1 w2,J k w1→Below w1.heap.size w1 w2→J k w2
 x1:∀ w1 w2,JX w1→Below w1.heap.size w1 w2→JX w2
 yld:∀ k y W u,it.L[k]?=some y→J k W→aF W noV it.t y [u]→YieldAt Fence.wide 0 c.P l #[u] W fun e W' =>
   W.heap.size≤W'.heap.size∧((e=.returned (.bool true)∧J (k + 1) W')∨(e=.returned (.bool false)∧JX W')∨∃ ch,e=.panicked ch∧JP ch W')
def aAE (c:Cfg) (N:Nat) (w:World) (D:Nat→Prop):Base:={ P:=c.P,w0:=w,D0:=D,N:=N,O:=fun _=>False,G:=c.G,sv:=[],rd:=none,nod:=true }
def aFJ (J:Nat→World→Prop) (JX:World→Prop) (y:Y) (w:World):Prop:=(y.on=true→J y.k w)∧(y.on=false→JX w)
def aUf (c:Cfg) (N:Nat) (J:Nat→World→Prop) (JX:World→Prop) (y:Y) (a:Act) (w:World):Prop:=∃ w0 D0,aFJ J JX y w0∧Sim (aAE c N w0 D0) y.s.sig a w
theorem aRQ.okS (H:aRQ c it l us caps J JX JP) (w:World) (D:Nat→Prop):OkS c (aAE c N w D) :=
 ⟨rfl,rfl,H.K,H.I,H.m,fun e=>(e rfl).elim,fun _=>by rw [H.rng];rfl,H.KP⟩
theorem aPg {w0:World} {D0:Nat→Prop} {σ:Sig} {a:Act} {w:World} {D:Nat→Prop} {E:Nat→Ent} (h:aZ (aAE c N w0 D0) σ a w D E):Below w0.heap.size w0 w :=
 ⟨h.low.os,h.low.tape,h.low.output,h.low.size,fun k hk=>h.low.block k hk id⟩
theorem aFJ.now (H:aRQ c it l us caps J JX JP) {y:Y} {w0 w:World} (hg:aFJ J JX y w0) (hb:Below w0.heap.size w0 w):aFJ J JX y w :=
 ⟨fun e=>H.j1 _ _ _ (hg.1 e) hb,fun e=>H.x1 _ _ (hg.2 e) hb⟩
theorem aJY {tm:List AV} {a:Act} {w:World} {D:Nat→Prop} (hsz:a.tmps.size=N) (hd:a.defers=[]) (hD:∀ b,D b→b < w.heap.size) (hG:rU c.P ⟨w,D,noM,noE⟩ c.G)
  (ht:∀ t,(tm.getD t .top).rel c.P ⟨w,D,noM,noE⟩ (a.tmps.getD t undef)) (nx:Nat):aZ (aAE c N w D) (St.sig ⟨tm,[],nx,[]⟩) a w D noE :=
 ⟨hsz,⟨⟨fun _=>hd,⟨[],hd⟩,by rw [hd];exact List.Pairwise.nil⟩,fun d h=>by rw [hd] at h;cases h⟩,ht,fun nm b hm=>(by cases hm),fun nm b hm=>(by cases hm),fun nm nm' b b' hm=>(by cases hm),Chg.refl _ _,hD,fun b hb=>hb,fun b hb=>.inl hb,
  hG,rfl,jO.nil fun k i b g=>(by obtain ⟨_,_,_,_,_,_,g1,_⟩:=g;cases g1)⟩
theorem getD_map {f:AV→AV} (hf:f .top=.top) (l:List AV) (t:Nat):(l.map f).getD t .top=f (l.getD t .top):=by
 simp only [List.getD_eq_getElem?_getD,List.getElem?_map]
 cases l[t]? <;> simp [hf]
theorem aOx {P:Program} {C C':Ctx} {s:St} {tmps:Array Value} {q:List Prop} (hl:us.length=caps.length) (hlt:caps.length < s.tm.length) (h:∀ t,(s.tm.getD t .top).rel P C (tmps.getD t undef))
  (hp:aAf us (s.tm.drop 1)=some q) (hq:∀ p ∈ q,p) (hc:AV.relL P C' caps us) (t:Nat):((anew us caps s).tm.getD t .top).rel P C' (tmps.getD t undef):=by
 have k0:qY .top=.top:=rfl
 have l1:((s.tm.take 1).map qY).length=1:=by rw [List.length_map,List.length_take];omega
 have l2:(aCE us caps).length=caps.length:=mF hl
 show (((s.tm.take 1).map qY ++ aCE us caps ++ (s.tm.drop (caps.length + 1)).map qY).getD t .top).rel P C' _
 rcases Nat.lt_or_ge t 1 with g | g
 ·have e:((s.tm.take 1).map qY ++ aCE us caps ++ (s.tm.drop (caps.length + 1)).map qY).getD t .top=qY (s.tm.getD t .top):=by
   rw [List.getD_eq_getElem?_getD,List.append_assoc,List.getElem?_append_left (by omega),← List.getD_eq_getElem?_getD,getD_map k0]
   congr 1
   rw [List.getD_eq_getElem?_getD,List.getD_eq_getElem?_getD,List.getElem?_take,if_pos g]
  rw [e];exact aBG (h t)
 rcases Nat.lt_or_ge t (caps.length + 1) with g2 | g2
 ·have hi:t - 1 < (aCE us caps).length:=by omega
  obtain ⟨u,av,h1,h2,h3⟩:=aF6 (List.getElem?_eq_getElem hi)
  have e:((s.tm.take 1).map qY ++ aCE us caps ++ (s.tm.drop (caps.length + 1)).map qY).getD t .top=.pin u av:=by
   rw [List.getD_eq_getElem?_getD,List.append_assoc,List.getElem?_append_right (by omega),l1,List.getElem?_append_left hi,List.getElem?_eq_getElem hi,h3];rfl
  rw [e]
  obtain ⟨ov,h4⟩:=aEG hp hq h1
  rw [List.getElem?_drop,show 1 + (t - 1)=t by omega] at h4
  have h5:=h t
  rw [List.getD_eq_getElem?_getD,h4] at h5
  have h6:tmps.getD t undef=u:=h5.1
  obtain ⟨u',h7,h8⟩:=AV.relL_get hc h2
  rw [h1] at h7;cases h7
  exact ⟨h6,by rw [h6];exact h8⟩
 ·have e:((s.tm.take 1).map qY ++ aCE us caps ++ (s.tm.drop (caps.length + 1)).map qY).getD t .top=qY (s.tm.getD t .top):=by
   rw [List.getD_eq_getElem?_getD,List.append_assoc,List.getElem?_append_right (by omega),l1,List.getElem?_append_right (by omega),l2,← List.getD_eq_getElem?_getD,getD_map k0]
   congr 1
   rw [List.getD_eq_getElem?_getD,List.getD_eq_getElem?_getD,List.getElem?_drop,show caps.length + 1 + (t - 1 - caps.length)=t by omega]
  rw [e];exact aBG (h t)
theorem aHW (H:aRQ c it l us caps J JX JP) {y:Y} {w0:World} {D0:Nat→Prop} (hg:aFJ J JX y w0) {a:Act} {w:World} {D:Nat→Prop} {E:Nat→Ent} (hd:aZ (aAE c N w0 D0) y.s.sig a w D E) (hmem:y.s.mem=[]) (hsv:y.s.sv=[]) (hlt:caps.length < y.s.tm.length)
  (hl:y.s.tm.length=N) {o:Oper} (hdst:vT o.dst y.s.tm.length=true) {l':Nat} {ns ps:List Prop} {v:AV} (hy:yieldOf c.G y.s.sig.T true o.op=some (l',ns,v)) {x:it.t.den} (hx:v.as it.t=some x) (hps:aAf us (y.s.tm.drop 1)=some ps) (hns:∀ q ∈ ns ++ ps,q) (hll:l'=l) (hon:y.on=true) (hat:yY it.L y.k x)
  {K:Act→World→Prop} {R:Exit→Act→World→Prop} (hP:∀ ch a w,a.defers=[]→JP ch w→R (.panic ch) a w)
  (hK:∀ (b:Bool) (s':St) (a':Act) (w':World),s'=setSlot o.dst (.dat .bool b) (if b=true then anew us caps y.s else bare y.s)→aUf c N J JX ⟨s',y.k + 1,b⟩ a' w'→K a' w'):o.wpIn Fence.wide 0 c.P a w K R:=by
 unfold yieldOf at hy
 split at hy
 case h_2=>cases hy
 rename_i f args at_ hop
 split at hy
 case h_2=>cases hy
 rename_i l2 n1 av hf hargs
 simp only [Option.some.injEq,Prod.mk.injEq] at hy
 obtain ⟨hl2,rfl,rfl⟩:=hy
 have hl2:l2=l:=hl2.trans hll
 rw [hl2] at hf
 have hfv:=iZ hd f
 have hav:=iZ hd av
 have hfv2:=vC (g:=true) rfl (fun q hq=>hns q (List.mem_append.2 (.inl (List.mem_append.2 (.inl (by have hq':=hq;rw [show (aAE c N w0 D0).G=c.G from rfl,hf] at hq';exact hq')))))) hfv
 have hav2:=vC (g:=true) rfl (fun q hq=>hns q (List.mem_append.2 (.inl (List.mem_append.2 (.inr hq))))) hav
 rw [show (aAE c N w0 D0).G=c.G from rfl,hf] at hfv2
 have hfv3:a.eval f=.func (.yield l) #[] #[]:=hfv2
 have hcell:=aN2 H.flat (AV.as_rel hx hav2)
 have hyl:=H.yld y.k x w (a.eval av) hat ((hg.now H (aPg hd)).1 hon) hcell
 obtain ⟨fn,tmps,assign,body,hrun,hround⟩:=hyl
 unfold Oper.wpIn
 refine ⟨fun f _=>trivial,?_⟩
 have nodef:∀ d,o.op≠.defer d:=fun d e=>by rw [hop] at e;cases e
 rw [Oper.semAt_eq _ _ _ nodef]
 have hexec:(execOp a.eval o).run c.P w=.ok (.round l fn tmps assign body) w:=by
  obtain ⟨dst,op,ty,pos,after,guard⟩:=o
  simp only at hop
  subst hop
  have e1:args.map a.eval=#[a.eval av]:=by
   apply Array.ext'
   rw [Array.toList_map,hargs];rfl
  simp only [execOp,resolve,e1,hfv3,Deferred.ofValue,Sem.run_bind,Sem.run_pure,Result.andThen_ok,invoke,Array.empty_append]
  simpa using hrun
 rw [hexec,Oper.uponIn_round]
 refine ⟨fun h=>(by cases h),?_⟩
 have hdef:a.defers=[]:=hd.df.1.1 rfl
 have hsz:a.tmps.size=N:=hd.sz
 have fin:∀ (b:Bool) (tm:List AV) (w':World) (D':Nat→Prop),tm.length=N→(∀ b,D' b→b < w'.heap.size)→rU c.P ⟨w',D',noM,noE⟩ c.G→(∀ t,(tm.getD t .top).rel c.P ⟨w',D',noM,noE⟩ (a.tmps.getD t undef)) →
   Sim (aAE c N w' D') (setSlot o.dst (.dat .bool b) ⟨tm,[],y.s.nx,[]⟩).sig (a.put o.dst (.bool b)) w':=fun b tm w' D' h1 h2 h3 h4 =>
  ⟨D',noE,(aJY hsz hdef h2 h3 h4 y.s.nx).slot (s:=⟨tm,[],y.s.nx,[]⟩) h1 (by rw [show (St.mk tm [] y.s.nx []).tm.length=y.s.tm.length from h1.trans hl.symm];exact hdst) rfl⟩
 refine RoundIn.mono hround ?_
 rintro e w' ⟨hsz',hres⟩
 rcases hres with ⟨rfl,hj⟩ | ⟨rfl,hj⟩ | ⟨ch,rfl,hj⟩
 ·obtain ⟨D',d1,d2,d3⟩:=H.jc _ _ hj
  refine hK true _ _ w' rfl ⟨w',D',⟨fun _=>hj,fun e=>(by cases e)⟩,?_⟩
  have e:(if true=true then anew us caps y.s else bare y.s)=⟨(anew us caps y.s).tm,[],y.s.nx,[]⟩:=by rw [if_pos rfl];unfold anew;rw [hmem,hsv]
  rw [e]
  refine fin true _ w' D' ?_ d1 d2 fun t=>aOx H.len hlt hd.tm hps (fun p hp=>hns p (List.mem_append.2 (.inr hp))) d3 t
  unfold anew
  simp only [List.length_append,List.length_map,List.length_take,List.length_drop,mF H.len]
  omega
 ·obtain ⟨D',d1,d2⟩:=H.xc _ hj
  refine hK false _ _ w' rfl ⟨w',D',⟨fun e=>(by cases e),fun _=>hj⟩,?_⟩
  have e:(if false=true then anew us caps y.s else bare y.s)=⟨(bare y.s).tm,[],y.s.nx,[]⟩:=by rw [if_neg (by decide)];unfold bare;rw [hmem,hsv]
  rw [e]
  refine fin false _ w' D' (by unfold bare;simp [hl]) d1 d2 fun t=>?_
  show ((y.s.tm.map qY).getD t .top).rel _ _ _
  rw [getD_map rfl]
  exact aBG (hd.tm t)
 ·exact hP ch a w' hdef hj
theorem aA1 (H:aRQ c it l us caps J JX JP) {ops:Array Oper} {Q:Y→Prop} {R:Exit→Act→World→Prop} (hR:∀ y',Q y'→y'.s.tm.length=N→∀ a w,aUf c N J JX y' a w→R .normal a w) (hP:∀ ch a w,a.defers=[]→JP ch w→R (.panic ch) a w) :
  ∀ (os:List Oper) (j:Nat) (y:Y),(∀ i o,os[i]?=some o→ops[j + i]?=some o)→aOP c it l us caps ops os y Q→y.s.tm.length=N→∀ a w,aUf c N J JX y a w→wpOpsIn Fence.wide 0 c.P ops R (List.range' j os.length) a w
 | [],j,y,_,h,hl,a,w,hs=>by
  simp only [List.length_nil,List.range'_zero,wpOpsIn]
  simp only [aOP] at h
  exact hR y h hl a w hs
 | o :: os,j,y,hops,h,hl,a,w,hs=>by
  have ho:ops[j]?=some o:=by simpa using hops 0 o rfl
  have hos:∀ i o',os[i]?=some o'→ops[j + 1 + i]?=some o':=fun i o' hi=>by
   have:=hops (i + 1) o' (by simpa using hi)
   rw [show j + 1 + i=j + (i + 1) by omega];exact this
  obtain ⟨w0,D0,hg,D,E,hd⟩:=hs
  simp only [aOP] at h
  split at h
  case h_2=>exact h.elim
  rename_i g hge
  have hwant:=aDL (o:=o) hd hge
  rw [List.length_cons,List.range'_succ,wpOpsIn_cons]
  split at h
  ·-- a yield
   rename_i l' ns v hy
   split at h
   case isFalse=>exact h.elim
   rename_i hc
   obtain ⟨hdst,hms,hlt⟩:=hc
   simp only [Bool.and_eq_true,List.isEmpty_iff] at hms
   split at h
   case h_2=>exact h.elim
   rename_i x ps hx hps
   unfold wpOpIn
   rw [ho]
   simp only
   rw [hwant]
   cases g with
   | false =>
    simp only [Bool.false_eq_true,if_false]
    refine ⟨fun f _=>trivial,aA1 H hR hP os (j + 1) _ hos (h.2 rfl) (by simp [setSlot];split <;> simp [hl]) _ _ ⟨w0,D0,hg,D,E,?_⟩⟩
    exact hd.slot hl hdst ⟨fun e=>(by cases e),fun _=>rfl⟩
   | true =>
    simp only [if_true]
    obtain ⟨hns,hll,hon,hat,h1,h2⟩:=dO (h.1 rfl)
    refine aHW H hg hd hms.1 hms.2 hlt hl hdst hy hx hps hns hll hon hat hP fun b s' a' w' es hs'=>?_
    have ls:s'.tm.length=N:=by
     rw [es]
     cases b
     ·rw [if_neg (by decide)];unfold setSlot bare;split <;> simp [hl]
     ·rw [if_pos rfl]
      have:(anew us caps y.s).tm.length=N:=by
       unfold anew
       simp only [List.length_append,List.length_map,List.length_take,List.length_drop,mF H.len]
       omega
      unfold setSlot;split <;> simp [this]
    cases b
    ·subst es;exact aA1 H hR hP os (j + 1) _ hos h2 ls _ _ hs'
    ·subst es;exact aA1 H hR hP os (j + 1) _ hos h1 ls _ _ hs'
  ·-- another operation
   split at h
   case h_2=>exact h.elim
   rename_i r hr
   split at h
   case isFalse=>exact h.elim
   rename_i hok
   obtain ⟨hns,hcont⟩:=dO h
   have hdst:∀ d,o.dst=some d→d < (aAE c N w0 D0).N:=by
    intro d hdd
    have h2:=hok.1
    unfold kU at h2
    simp only [Bool.and_eq_true] at h2
    have:=h2.1
    rw [(nZ hr).1,hdd] at this
    rw [hl] at this;exact of_decide_eq_true this
   have:=wJ (S:=aAE c N w0 D0) (Q:=R) H.K ho ⟨D,E,hd⟩ hdst hr hns (fun k hk=>by
    have:=hok.2
    unfold aES at this
    rw [hk] at this
    exact aG1 this)
   refine wpOpIn_mono (fun a' w' h'=>aA1 H hR hP os (j + 1) _ hos hcont (by rw [mQ];exact hl) a' w' ⟨w0,D0,hg,?_⟩) this
   show Sim _ (fU r y.s).sig a' w'
   rw [kW hok.1]
   exact h'
end
theorem aGs {c:Cfg} {A:aJm} {f:FuncId} {caps:List AV} {it:oW} (hK:aQ c.P c.G c.K) (hI:dF c.P c.G c.KI) (hm:c.P.follows .mixedOrders=true) (h:evL c A f caps it) (hKP:c.KP=fun _ _ _=>none:=by rfl):aGW c.P c.G f caps it:=by
 intro hpre l J JX JP w us jc xc j1 x1 hyld h0
 unfold evL at h
 split at h
 case h_2=>exact h.elim
 rename_i fn hf
 split at h
 case h_2=>exact h.elim
 rename_i b hb
 obtain ⟨hres,hflat,hrng,h⟩:=h
 obtain ⟨D,hD,hG,hcaps⟩:=jc 0 w h0
 have hlen:us.length=caps.length:=(AV.relL_length hcaps).symm
 obtain ⟨u,hu⟩:∃ u:Nat→Value,aTX u caps.length=us:=⟨fun i=>us.getD i undef,by
  unfold aTX
  apply List.ext_getElem
  ·simp [hlen]
  ·intro i h1 h2
   simp [List.getD_eq_getElem?_getD,h2]⟩
 have h:=h l u hpre
 rw [hu] at h
 have H:aRQ c it l us caps J JX JP:=⟨hK,hI,(fun f args m r h=>by rw [hKP] at h;cases h),hm,hrng,hflat,hlen,jc,xc,j1,x1,hyld⟩
 have earr:#[Value.func (.yield l) #[] #[]] ++ us.toArray=(Value.func (.yield l) #[] #[] :: us).toArray:=by simp
 rw [earr]
 obtain ⟨N,hN⟩:∃ N,N=(caps.length + 1) + (fn.ntmps - (caps.length + 1)):=⟨_,rfl⟩
 refine callsIn_of_wp_marks hf hb trivial ?_
 have lp:(aCE us caps).length=caps.length:=mF hlen
 have hlS:(aEh fn l us caps).s.tm.length=N:=by rw [hN];simp [aEh,lp];omega
 have pinR:AV.relL c.P ⟨w,D,noM,noE⟩ (.yld l :: aCE us caps) (Value.func (.yield l) #[] #[] :: us):=by
  refine ⟨_,_,rfl,rfl,AV.relL_mk (by rw [lp,hlen]) fun i a v h1 h2=>?_⟩
  obtain ⟨u',a',g1,g2,rfl⟩:=aF6 h1
  rw [h2] at g1;cases g1
  obtain ⟨v',g3,g4⟩:=AV.relL_get hcaps g2
  rw [h2] at g3;cases g3
  exact ⟨rfl,g4⟩
 have hstart:aZ (aAE c N w D) (aEh fn l us caps).s.sig { tmps:=(Value.func (.yield l) #[] #[] :: us).toArray ++ Array.replicate (fn.ntmps - (Value.func (.yield l) #[] #[] :: us).toArray.size) undef,defers:=[] } w D noE:=by
  refine aJY (by rw [hN];simp [hlen]) rfl hD hG (fun t=>?_) 0
  show (((.yld l :: aCE us caps) ++ List.replicate (fn.ntmps - (caps.length + 1)) (AV.val undef)).getD t .top).rel c.P ⟨w,D,noM,noE⟩ _
  rw [List.getD_eq_getElem?_getD,Array.getD_eq_getD_getElem?]
  by_cases ht:t < (AV.yld l :: aCE us caps).length
  ·rw [List.getElem?_append_left ht,Array.getElem?_append_left (by simpa [hlen,lp] using ht)]
   obtain ⟨u,g1,g2⟩:=AV.relL_get pinR (List.getElem?_eq_getElem ht)
   rw [List.getElem?_eq_getElem ht]
   simp only [List.getElem?_toArray,g1,Option.getD_some]
   exact g2
  ·rw [List.getElem?_append_right (by omega),Array.getElem?_append_right (by simp [hlen,lp] at ht ⊢;omega)]
   rw [List.getElem?_replicate,Array.getElem?_replicate]
   split
   ·rename_i h1
    rw [if_pos (by simp [hlen,lp] at h1 ⊢;omega)]
    rfl
   ·trivial
 refine aAn (N:=N) (F:=Fence.wide) (X:=aUf c N J JX) (PQ:=fun ch a w=>a.defers=[]∧JP ch w) (fun y a w ⟨w0,D0,hg,hs⟩=>⟨aAE c N w0 D0,H.okS w0 D0,rfl,rfl,hs,fun s' a' w' hs'=>⟨w0,D0,hg,hs'⟩⟩)
  (fun id ops draw y Q R hr hl hR hP a w hs=>?_) b (aEh fn l us caps) (aT9 it) _ h hlS (fun e y' hq hl a' w' hs'=>?_) (fun ch a w ⟨hd,hj⟩=>?_) _ w ⟨w,D,⟨fun _=>h0,fun e=>by cases e⟩,D,noE,hstart⟩
 ·unfold rgL at hr
  split at hr
  ·exact hr.elim
  ·rename_i hdr
   have hdr:draw=false:=by simpa using hdr
   subst hdr
   refine wpIn_region ?_
   have:=aA1 H hR (fun ch a w h1 h2=>hP ch a w ⟨h1,h2⟩) ops.toList 0 y (fun i o ho=>by simpa using ho) hr hl a w hs
   rw [List.range_eq_range']
   simpa using this
 ·have key:(y'.on=true→y'.k=it.L.length)→LeavesInM Fence.wide 0 c.P fn a'.tmps (fun e W'=>((∃ v,e=.returned v)∧(J it.L.length W'∨JX W'))∨∃ ch,e=.panicked ch∧JP ch W') a'.defers .returning w':=by
   intro hq
   obtain ⟨w0,D0,hg,D',E',hd⟩:=hs'
   have hdef:a'.defers=[]:=hd.df.1.1 rfl
   rw [hdef]
   have hgn:=hg.now H (aPg hd)
   have hr:fn.results=#[]:=by
    apply Array.ext'
    exact List.isEmpty_iff.1 hres
   refine ⟨.tuple #[],by simp [results,hr],.inl ⟨⟨_,rfl⟩,?_⟩⟩
   cases hon:y'.on with
   | true=>exact .inl (by rw [← hq hon];exact hgn.1 hon)
   | false=>exact .inr (hgn.2 hon)
  cases e <;> first
   | exact key hq
   | exact hq.elim
 ·show LeavesInM _ _ _ _ _ _ _ _ _
  rw [hd]
  exact .inr ⟨ch,rfl,hj⟩
end Go.Eng
