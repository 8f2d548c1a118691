/- The engine, part 11: one operation of a region: its guard, its record. -/
import Derived.Test.YtlobbofhlcjlmaaGreatDoorH10b
import Derived.OrdersIn
import Derived.RangeFuncCalls
set_option linter.unusedSimpArgs false
set_option linter.unusedVariables false
namespace Go.Eng
open Go.RowKit
structure Rec where
 dst:Option Tmp
 val:AV
 upd:List (Nat×Blk)
 new:Option Nat
 reads:List Tmp
 fp:List Nat
 need:List Prop
def jA (r:Rec) (s:Sig):Sig:=⟨upT s.T r.dst r.val,upM s.m r.upd,s.sv⟩
def aFS:AV→AV
 | .pin _ a=>a
 | a=>a
theorem aJD {P:Program} {C:Ctx} {a:AV} {v:Value} (h:a.rel P C v):(aFS a).rel P C v:=by
 unfold aFS
 split
 ·exact h.2
 ·exact h
theorem aFR (a:AV):(aFS a).names=a.names:=by
 unfold aFS
 split <;> simp [AV.names]
def evT (G:List (Nat×AV)) (T:Nat→AV):Operand→AV
 | .tmp t=>aFS (T t)
 | .const v=>aEP v
 | .global g=>match G.lookup g with
  | some a=>a
  | none=>.val (.pointer (some ⟨g,0,none⟩))
 | .func f=>.fn f []
theorem aBx {β:Type} {l:List (Nat×β)} {k:Nat} {b:β} (h:l.lookup k=some b):(k,b) ∈ l:=by
 induction l with
 | nil=>simp at h
 | cons p l ih =>
  obtain ⟨p1,p2⟩:=p
  simp only [List.lookup] at h
  split at h
  ·rename_i e
   cases h
   have:k=p1:=by simpa using e
   subst this;simp
  ·exact List.mem_cons_of_mem _ (ih h)
theorem iZ {S:Base} {σ:Sig} {a:Act} {w:World} {D:Nat→Prop} {E:Nat→Ent} (h:aZ S σ a w D E) (x:Operand):(evT S.G σ.T x).rel S.P ⟨w,D,σ.m,E⟩ (a.eval x):=by
 cases x with
 | tmp t=>exact aJD (h.tm t)
 | const v=>exact aEO v
 | global g =>
  simp only [evT]
  split
  ·rename_i av hg
   exact (h.gl _ (aBx hg)).2
  ·exact rfl
 | func f=>exact ⟨[],rfl,rfl⟩
theorem aK8 {G:List (Nat×AV)} (hG:∀ p ∈ G,p.2.names=[]) {T:Nat→AV} {k:Nat} (h:∀ t,k ∉ (T t).names) (x:Operand):k ∉ (evT G T x).names:=by
 cases x with
 | tmp t=>simp only [evT,aFR];exact h t
 | const v=>cases v <;> simp [evT,aEP,AV.names]
 | global g =>
  simp only [evT]
  split
  ·rename_i av hg
   rw [hG _ (aBx hg)];simp
  ·simp [AV.names]
 | func f=>simp [evT,AV.names,AV.namesL]
def eqW (b:Bool):Bool→Bool
 | true=>b
 | false=>!b
def aJh (T:Nat→AV) (ops:Array Oper):Option (Nat×Bool)→Option Bool
 | none=>some true
 | some (k,want)=>match (ops[k]?).bind (·.dst) with
  | some d=>match T d with
   | .dat .bool b=>some (eqW b want)
   | .grd g (.dat .bool b)=>some (g && eqW b want)
   | _=>none
  | none=>none
theorem aDL {S:Base} {σ:Sig} {a:Act} {w:World} {D:Nat→Prop} {E:Nat→Ent} (h:aZ S σ a w D E) {ops:Array Oper} {o:Oper} {g:Bool} (hg:aJh σ.T ops o.guard=some g) :
  Region.wanted o (yielded ops a.tmps)=g:=by
 unfold aJh at hg
 unfold Region.wanted
 split at hg
 ·rename_i hgd
  cases hg;rw [hgd]
 ·rename_i k want hgd
  rw [hgd]
  simp only
  split at hg
  ·rename_i d hd
   have hy:yielded ops a.tmps k=match a.tmps[d]? with | some (.bool b)=>some b | _=>none:=by
    unfold yielded;rw [hd];rfl
   rw [hy]
   have hrel:=h.tm d
   split at hg
   ·rename_i b hT
    cases hg
    rw [hT] at hrel
    simp only [AV.rel,aF,List.cons.injEq,and_true] at hrel
    have:a.tmps[d]?=some (.bool b):=by
     rw [Array.getD_eq_getD_getElem?] at hrel
     cases hq:a.tmps[d]? with
     | none=>rw [hq] at hrel;cases hrel
     | some v=>rw [hq] at hrel;simp at hrel;rw [hrel]
    rw [this];simp only []
    cases b <;> cases want <;> rfl
   ·rename_i g' b hT
    cases hg
    rw [hT] at hrel
    obtain ⟨h1,h2⟩:=hrel
    cases g' with
    | true =>
     have hrel:=h1 rfl
     simp only [AV.rel,aF,List.cons.injEq,and_true] at hrel
     have:a.tmps[d]?=some (.bool b):=by
      rw [Array.getD_eq_getD_getElem?] at hrel
      cases hq:a.tmps[d]? with
      | none=>rw [hq] at hrel;cases hrel
      | some v=>rw [hq] at hrel;simp at hrel;rw [hrel]
     rw [this];simp only []
     cases b <;> cases want <;> rfl
    | false =>
     have hv:=h2 rfl
     rw [Array.getD_eq_getD_getElem?] at hv
     cases hq:a.tmps[d]? with
     | none=>rfl
     | some v =>
      rw [hq] at hv;simp at hv;subst hv;rfl
   ·cases hg
  ·cases hg
def ug (g:Bool):AV→AV×List Prop
 | .grd g' v=>(v,[g=true→g'=true])
 | v=>(v,[])
theorem vC {P:Program} {C:Ctx} {g:Bool} {a:AV} {v:Value} (hg:g=true) (hn:∀ q ∈ (ug g a).2,q) (h:a.rel P C v):(ug g a).1.rel P C v:=by
 cases a <;> first
  | exact h
  | exact h.1 ((hn _ (List.mem_singleton.2 rfl)) hg)
theorem aML (g:Bool) (a:AV):(ug g a).1.names=a.names:=by
 unfold ug;split
 ·simp [AV.names]
 ·rfl
def aTg (x:Bool):AV→AV→Option AV
 | .dat t u,.dat t' v=>if h:t'=t then some (.dat t (bif x then u else h ▸ v)) else none
 | _,_=>none
def aQL (g:Bool) (c a b:AV):Option Core :=
 match ug g c with
 | (.dat .bool x,nc) =>
  match aTg x (ug (g && x) a).1 (ug (g && !x) b).1 with
  | some v=>some { need:=nc ++ (ug (g && x) a).2 ++ (ug (g && !x) b).2,val:=v }
  | none=>none
 | _=>none
theorem aNv {P:Program} {C:Ctx} {w:World} {g:Bool} {c a b:AV} {core:Core} {u v1 v2:Value} (hg:g=true) (hc:aQL g c a b=some core) (hn:∀ q ∈ core.need,q)
  (h0:c.rel P C u) (h1:a.rel P C v1) (h2:b.rel P C v2) :
  core.upd=[]∧core.new=none∧∃ r,(do pure (Next.value (if ← asBool u then v1 else v2)):Sem Next).run P w=.ok (.value r) w∧core.val.rel P C r:=by
 unfold aQL at hc
 split at hc
 ·rename_i x nc hu
  split at hc
  ·rename_i vv hv
   cases hc
   have hx:=vC hg (fun q hq=>hn q (by rw [hu] at hq;simp [hq])) h0
   rw [hu] at hx
   simp only [AV.rel,aF,List.cons.injEq,and_true] at hx
   subst hx
   refine ⟨rfl,rfl,if x=true then v1 else v2,by simp [asBool],?_⟩
   unfold aTg at hv
   split at hv
   ·rename_i t p t' q hp hq
    split at hv
    ·rename_i ht
     subst ht
     cases hv
     cases x with
     | true =>
      have:=vC (g:=g && true) (by rw [hg];rfl) (fun q hq=>hn q (List.mem_append.2 (.inl (List.mem_append.2 (.inr hq))))) h1
      rw [hp] at this
      simpa using this
     | false =>
      have:=vC (g:=g && !false) (by rw [hg];rfl) (fun q hq=>hn q (List.mem_append.2 (.inr hq))) h2
      rw [hq] at this
      simpa using this
    ·cases hv
   ·cases hv
  ·cases hc
 ·cases hc
def aJG:Operand→List Tmp
 | .tmp t=>[t]
 | _=>[]
def aO5:Op→Bool
 | .pick _ _ _=>true
 | _=>false
def aIP (P:Program) (K:Kt) (mt:Bool) (nx:Nat) (m:Nat→Option Blk) (g:Bool) (op:Op) (raw:List AV):Option Core :=
 match aO5 op,raw with
 | true,[c,a,b]=>aQL g c a b
 | true,_=>none
 | false,raw=>match opE P K mt nx m op (raw.map fun v=>((ug g v).1,fD m (ug g v).1)) with
  | some c=>some { c with need:=(raw.flatMap fun v=>(ug g v).2) ++ c.need }
  | none=>none
def aTY:AV→List Nat
 | .buf nm _=>[nm]
 | .view nm _=>[nm]
 | .ptr nm _ _ _=>[nm]
 | .row nm _ _ _=>[nm]
 | .rptr nm _ _ _ _=>[nm]
 | _=>[]
def aLY (m:Nat→Option Blk) (o:Op) (v:AV):List Nat:=if aPd o=true then fH m v.names else aTY v
theorem aH5 {v:AV} {k:Nat} (h:k ∈ aTY v):k ∈ v.names:=by
 cases v <;> first | exact h | cases h
theorem aPW {m:Nat→Option Blk} {o:Op} {v:AV} {k:Nat} (h:k ∈ aTY v):k ∈ aLY m o v:=by
 unfold aLY
 split
 ·exact iF (aH5 h)
 ·exact h
def aAK (ops:Array Oper):Option (Nat×Bool)→List Tmp
 | none=>[]
 | some (k,_)=>match (ops[k]?).bind (·.dst) with
  | some d=>[d]
  | none=>[]
def aGg (o:Oper) (g:Bool) (reads:List Tmp) (fp:List Nat) (c:Core):Option Rec :=
 match o.guard with
 | none=>some { dst:=o.dst,val:=c.val,upd:=c.upd,new:=c.new,reads:=reads,fp:=fp,need:=c.need }
 | some _=>match c.upd,c.new with
  | [],none=>some { dst:=o.dst,val:=.grd g c.val,upd:=[],new:=none,reads:=reads,fp:=fp,need:=c.need.map fun p=>(g=true→p) }
  | _,_=>none
def lF (P:Program) (G:List (Nat×AV)) (K:Kt) (mt:Bool) (ops:Array Oper) (nx:Nat) (s:Sig) (o:Oper):Option Rec :=
 match aJh s.T ops o.guard with
 | some g=>match aIP P K mt nx s.m g o.op (o.op.operands.toList.map (evT G s.T)) with
  | some c=>aGg o g (o.op.operands.toList.flatMap aJG ++ aAK ops o.guard) (o.op.operands.toList.flatMap fun x=>aLY s.m o.op (ug g (evT G s.T x)).1) c
  | none=>none
 | none=>none
theorem aAZ {P:Program} {G:List (Nat×AV)} {K:Kt} {mt:Bool} {ops:Array Oper} {nx:Nat} {s s':Sig} {o:Oper} {r:Rec} (h:lF P G K mt ops nx s o=some r)
  (h1:∀ t ∈ r.reads,s'.T t=s.T t) (h2:∀ nm ∈ r.fp,s'.m nm=s.m nm):lF P G K mt ops nx s' o=some r:=by
 have hr:∃ g,aJh s.T ops o.guard=some g∧r.reads=o.op.operands.toList.flatMap aJG ++ aAK ops o.guard∧r.fp=o.op.operands.toList.flatMap fun x=>aLY s.m o.op (ug g (evT G s.T x)).1:=by
  unfold lF at h
  split at h
  ·rename_i g hg
   split at h
   ·rename_i c hc
    refine ⟨g,hg,?_⟩
    unfold aGg at h
    split at h
    ·cases h;exact ⟨rfl,rfl⟩
    ·split at h
     ·cases h;exact ⟨rfl,rfl⟩
     ·cases h
   ·cases h
  ·cases h
 obtain ⟨g,hg,hrd,hfp⟩:=hr
 have e1:∀ x ∈ o.op.operands.toList,evT G s'.T x=evT G s.T x:=by
  intro x hx
  cases x with
  | tmp t=>exact congrArg aFS (h1 t (by rw [hrd];exact List.mem_append.2 (.inl (List.mem_flatMap.2 ⟨_,hx,by simp [aJG]⟩))))
  | _=>rfl
 have e2:aJh s'.T ops o.guard=aJh s.T ops o.guard:=by
  unfold aJh
  cases hgd:o.guard with
  | none=>rfl
  | some p =>
   obtain ⟨k,want⟩:=p
   simp only
   cases hd:(ops[k]?).bind (·.dst) with
   | none=>rfl
   | some d =>
    simp only
    rw [h1 d (by rw [hrd];exact List.mem_append.2 (.inr (by simp [aAK,hgd,hd])))]
 have e3:o.op.operands.toList.map (evT G s'.T)=o.op.operands.toList.map (evT G s.T):=List.map_congr_left e1
 have e40:∀ x ∈ o.op.operands.toList,∀ nm ∈ aLY s.m o.op (ug g (evT G s.T x)).1,s'.m nm=s.m nm:=fun x hx nm hnm =>
  h2 nm (by rw [hfp];exact List.mem_flatMap.2 ⟨x,hx,hnm⟩)
 have e4:∀ x ∈ o.op.operands.toList,∀ v,v=(ug g (evT G s.T x)).1→fD s'.m v=fD s.m v:=by
  intro x hx v hv
  have:∀ nm ∈ aTY v,s'.m nm=s.m nm:=fun nm hnm=>e40 x hx nm (by rw [← hv];exact aPW hnm)
  cases v <;> first | rfl | exact this _ (List.mem_singleton.2 rfl)
 have e5:aIP P K mt nx s'.m g o.op (o.op.operands.toList.map (evT G s.T))=aIP P K mt nx s.m g o.op (o.op.operands.toList.map (evT G s.T)):=by
  unfold aIP
  split
  ·rfl
  ·rfl
  ·have:((o.op.operands.toList.map (evT G s.T)).map fun v=>((ug g v).1,fD s'.m (ug g v).1))=((o.op.operands.toList.map (evT G s.T)).map fun v=>((ug g v).1,fD s.m (ug g v).1)):=by
    apply List.map_congr_left
    intro v hv
    obtain ⟨x,hx,rfl⟩:=List.mem_map.1 hv
    rw [e4 x hx _ rfl]
   rw [this,aKu (m:=s.m) (m':=s'.m)]
   intro hd v hv k hk
   obtain ⟨y,hy,rfl⟩:=List.mem_map.1 hv
   obtain ⟨x,hx,rfl⟩:=List.mem_map.1 hy
   exact e40 x hx k (by unfold aLY;rw [if_pos hd];exact hk)
 have e6:(o.op.operands.toList.flatMap fun x=>aLY s'.m o.op (ug g (evT G s'.T x)).1)=o.op.operands.toList.flatMap fun x=>aLY s.m o.op (ug g (evT G s.T x)).1:=by
  simp only [List.flatMap_def]
  congr 1
  apply List.map_congr_left
  intro x hx
  rw [e1 x hx]
  unfold aLY
  split
  ·rename_i hd
   exact aB0 fun k hk=>e40 x hx k (by unfold aLY;rw [if_pos hd];exact iF hk)
  ·rfl
 unfold lF at h ⊢
 rw [e2,e3]
 rw [hg] at h ⊢
 simp only at h ⊢
 rw [e5,e6]
 exact h
def Base.F (S:Base):Fence:=match S.rd with
 | none=>Fence.wide
 | some l=>Fence.wide.inRound l
theorem Base.F_fn (S:Base) (f:FuncId):S.F.fn f:=by unfold Base.F;split <;> trivial
theorem Base.F_depth (S:Base):S.F.depth=none:=by unfold Base.F;split <;> rfl
theorem Base.F_round (S:Base):S.F.round=S.rd:=by unfold Base.F;split <;> (rename_i h;rw [h];rfl)
theorem Base.callsIn {S:Base} {n:Nat} {P:Program} {f:FuncId} {args:Array Value} {w:World} {R:Ending→World→Prop} (h:Calls P f args w R):CallsIn S.F n P f args w R:=by
 unfold Base.F
 split
 ·exact callsIn_wide.2 h
 ·exact CallsIn.inRound _ (callsIn_wide.2 h)
theorem wJ {S:Base} {K:Kt} (hK:aQ S.P S.G K) {σ:Sig} {a:Act} {w:World} {mt:Bool} {ops:Array Oper} {nx i:Nat} {o:Oper} {r:Rec} {Q:Exit→Act→World→Prop} (ho:ops[i]?=some o)
  (hs:Sim S σ a w) (hd:∀ d,o.dst=some d→d < S.N) (hr:lF S.P S.G K mt ops nx σ o=some r) (hn:∀ q ∈ r.need,q) (hu:∀ k,r.new=some k→Unm k σ) :
  wpOpIn S.F 0 S.P ops Q i (fun a' w'=>Sim S (jA r σ) a' w') a w:=by
 obtain ⟨D,E,h⟩:=hs
 unfold lF at hr
 split at hr
 case h_2=>cases hr
 rename_i g hg
 split at hr
 case h_2=>cases hr
 rename_i c hc
 unfold wpOpIn
 rw [ho]
 simp only
 have hw:=aDL (o:=o) h hg
 -- what the record says where the operation is carried out
 have run:g=true→∀ (hn':∀ q ∈ c.need,q) (hu':∀ k,c.new=some k→Unm k σ),Yields S ⟨σ.T,upM σ.m c.upd,σ.sv⟩ a c.val ((execOp a.eval o).run S.P w):=by
  intro hg1 hn' hu'
  unfold aIP at hc
  split at hc
  ·rename_i c0 a0 b0 hp hraw
   obtain ⟨dst,op,ty,pos,after,guard⟩:=o
   cases op <;> first | (cases hp;done) | skip
   rename_i oc oa ob
   simp only [Op.operands,List.map_cons,List.map_nil,List.cons.injEq,and_true] at hraw
   obtain ⟨rfl,rfl,rfl⟩:=hraw
   obtain ⟨h1,h2,rr,h3,h4⟩:=aNv (w:=w) hg1 hc hn' (iZ h oc) (iZ h oa) (iZ h ob)
   rw [h1]
   exact .inl ⟨rr,w,h3,D,E,h,h4⟩
  ·cases hc
  ·split at hc
   ·rename_i c' hop
    cases hc
    have hrel:AV.relL S.P ⟨w,D,σ.m,E⟩ (((o.op.operands.toList.map (evT S.G σ.T)).map fun v=>((ug g v).1,fD σ.m (ug g v).1)).map (·.1)) (o.op.operands.toList.map a.eval):=by
     refine AV.relL_mk (by simp) fun j av u h1 h2=>?_
     simp only [List.map_map,List.getElem?_map,Option.map_eq_some_iff] at h1 h2
     obtain ⟨x,hx,rfl⟩:=h1
     obtain ⟨x',hx',rfl⟩:=h2
     rw [hx] at hx';cases hx'
     refine vC hg1 (fun q hq=>hn' q ?_) (iZ h x)
     simp only [List.mem_append,List.mem_flatMap]
     exact .inl ⟨evT S.G σ.T x,List.mem_map.2 ⟨x,List.mem_of_getElem? hx,rfl⟩,hq⟩
    refine aTh (c:=c') hK h hrel (fun v hv=>?_) hop (fun q hq=>hn' q (List.mem_append.2 (.inr hq))) (fun k hk=>⟨hu' k hk,fun v hv=>?_⟩)
    ·obtain ⟨x,_,rfl⟩:=List.mem_map.1 hv;rfl
    ·obtain ⟨x,hx,rfl⟩:=List.mem_map.1 hv
     obtain ⟨y,_,rfl⟩:=List.mem_map.1 hx
     simp only
     rw [aML]
     exact aK8 (fun p hp=>(h.gl p hp).1) (hu' k hk).2.1 y
   ·cases hc
 -- a value is put into the slot
 have fin:∀ x v (w':World),r.upd=c.upd→Outcome S ⟨σ.T,upM σ.m c.upd,σ.sv⟩ a x v w'→(∀ C:Ctx,x.rel S.P C v→r.val.rel S.P C v)→r.dst=o.dst→Sim S (jA r σ) (a.put o.dst v) w':=by
  intro x v w' hupd hout hxr hdst
  obtain ⟨D',E',q1,q2⟩:=hout
  have:=q1.put (d:=o.dst) (v:=v) (x:=r.val) (fun t ht=>hd t ht) (hxr _ q2)
  refine ⟨D',E',?_⟩
  unfold jA
  rw [hdst,hupd]
  exact this
 have nodef:∀ d,o.op≠.defer d:=fun d e=>by
  have hp:aO5 o.op=false:=by rw [e];rfl
  unfold aIP at hc
  split at hc
  ·rename_i he _;rw [hp] at he;cases he
  ·cases hc
  ·rw [e] at hc
   simp only [opE] at hc
   cases hc
 have about:∀ f,o.about S.P w a.eval=some f→S.F.fn f:=fun f _=>S.F_fn f
 have upon:∀ x,r.upd=c.upd→r.dst=o.dst→(∀ (C:Ctx) v,x.rel S.P C v→r.val.rel S.P C v)→Yields S ⟨σ.T,upM σ.m c.upd,σ.sv⟩ a x ((execOp a.eval o).run S.P w) →
   o.wpIn S.F 0 S.P a w (fun a' w'=>Sim S (jA r σ) a' w') Q:=by
  intro x hupd hdst hxr hy
  unfold Oper.wpIn
  refine ⟨about,?_⟩
  rw [Oper.semAt_eq _ _ _ nodef]
  rcases hy with ⟨v,w',e,ho⟩ | ⟨w',e,ho⟩ | ⟨f,args,w',e,ho⟩
  ·rw [e];exact fin x v w' hupd ho (fun C=>hxr C v) hdst
  ·rw [e];exact fin x undef w' hupd ho (fun C=>hxr C undef) hdst
  ·rw [e,Oper.uponIn_enter]
   refine ⟨fun h=>(by rw [S.F_depth] at h;cases h),Base.callsIn (ho.mono fun e2 w2 he=>?_)⟩
   obtain ⟨v,rfl,ho2⟩:=he
   exact fin x v w2 hupd ho2 (fun C=>hxr C v) hdst
 rw [hw]
 unfold aGg at hr
 split at hr
 ·rename_i hgd
  cases hr
  have hg1:g=true:=by rw [hgd] at hg;simp only [aJh,Option.some.injEq] at hg;exact hg.symm
  rw [if_pos hg1]
  exact upon c.val rfl rfl (fun C v hv=>hv) (run hg1 hn hu)
 ·rename_i gp hgd
  split at hr
  ·rename_i hupd hnew
   cases hr
   by_cases hgv:g=true
   ·rw [if_pos hgv]
    refine upon c.val hupd.symm rfl (fun C v hv=>⟨fun _=>hv,fun hf=>by rw [hgv] at hf;cases hf⟩) (run hgv (fun q hq=>?_) (fun k hk=>by rw [hnew] at hk;cases hk))
    exact hn (g=true→q) (List.mem_map.2 ⟨q,hq,rfl⟩) hgv
   ·rw [if_neg hgv]
    exact ⟨about,D,E,h.put (d:=o.dst) (v:=undef) (x:=.grd g c.val) hd ⟨fun hf=>(hgv hf).elim,fun _=>rfl⟩⟩
  ·cases hr
end Go.Eng
