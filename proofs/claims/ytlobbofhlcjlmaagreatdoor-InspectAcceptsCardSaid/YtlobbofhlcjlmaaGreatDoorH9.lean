/- The engine, part 9: calls; one operation. -/
import Derived.Test.YtlobbofhlcjlmaaGreatDoorH8g
set_option linter.unusedSimpArgs false
set_option linter.unusedVariables false
namespace Go.Eng
open Go.RowKit
abbrev Mem:=List (Nat×Blk)
structure pF where
 pre:Prop
 ret:AV
 upd:Mem:=[]
abbrev Kt:=FuncId→List AV→Mem→Option pF
def noM:Nat→Option Blk:=fun _=>none
def noE:Nat→Ent:=fun _=>⟨0,0,true,noR⟩
def dI (m:Mem):Nat→Option Blk:=fun nm=>m.lookup nm
structure Held (P:Program) (w:World) (D:Nat→Prop) (m:Nat→Option Blk) (E:Nat→Ent):Prop where
 bl:∀ nm b,m nm=some b→iL P 0 ⟨w,D,m,E⟩ (E nm) b
 own:∀ nm b,m nm=some b→(E nm).isNil=false→(E nm).b < w.heap.size∧¬ D (E nm).b
 inj:∀ nm nm' b b',m nm=some b→m nm'=some b'→(E nm).isNil=false→(E nm').isNil=false→(E nm).b=(E nm').b→nm=nm'
 pv:jO 0 (fun _=>True) m E w.heap.size D
theorem jO.nil {lo n:Nat} {O D:Nat→Prop} {m:Nat→Option Blk} {E:Nat→Ent} (h:∀ nm i b,dY m E nm i b→False):jO lo O m E n D :=
 ⟨fun nm i b g=>(h nm i b g).elim,fun nm i b g=>(h nm i b g).elim,fun nm i b _ _ g=>(h nm i b g).elim⟩
theorem vM {E:Nat→Ent} {nm i b:Nat} (h:dY (fun _=>none) E nm i b):False:=by
 obtain ⟨_,_,_,_,_,_,h,_⟩:=h;cases h
theorem Held.none (P:Program) (w:World) (D:Nat→Prop) (E:Nat→Ent):Held P w D (dI []) E :=
 ⟨fun _ _ h=>(by cases h),fun _ _ h=>(by cases h),fun _ _ _ _ h=>(by cases h),jO.nil fun _ _ _ h=>vM h⟩
def bV (m:Nat→Option Blk) (E:Nat→Ent):Nat→Prop:=fun b=>∃ nm blk,m nm=some blk∧(E nm).isNil=false∧b=(E nm).b
structure Left (P:Program) (m:Nat→Option Blk) (upd:Mem) (w:World) (D:Nat→Prop) (E:Nat→Ent) (w':World) (D':Nat→Prop) (E':Nat→Ent):Prop where
 chg:Chg (bV m E) w w'
 dlo:∀ b,D b→D' b
 dhi:∀ b,D' b→D b∨w.heap.size≤b∨bV m E b
 dlt:∀ b,D' b→b < w'.heap.size
 held:Held P w' D' (upM m upd) E'
 agree:∀ nm b b',m nm=some b→upM m upd nm=some b'→b'.len=b.len→E' nm=E nm
 moved:∀ nm b b',m nm=some b→upM m upd nm=some b'→(E' nm).isNil=false→bV m E (E' nm).b∨w.heap.size≤(E' nm).b
 fresh:∀ nm b,m nm=none→upM m upd nm=some b→(E' nm).isNil=false→w.heap.size≤(E' nm).b
 priv:∀ nm i b,dY (upM m upd) E' nm i b→dY m E nm i b∨w.heap.size≤b
def aC (P:Program) (G:List (Nat×AV)) (f:FuncId) (args:List AV) (m:Mem) (c:pF):Prop :=
 c.pre→∀ (w:World) (D:Nat→Prop) (E:Nat→Ent) (us:List Value),(∀ b,D b→b < w.heap.size)→rU P ⟨w,D,dI m,E⟩ G→AV.relL P ⟨w,D,dI m,E⟩ args us→Held P w D (dI m) E →
  Calls P f us.toArray w fun e w'=>∃ v D' E',e=.returned v∧Left P (dI m) c.upd w D E w' D' E'∧c.ret.rel P ⟨w',D',upM (dI m) c.upd,E'⟩ v
def aQ (P:Program) (G:List (Nat×AV)) (K:Kt):Prop:=∀ f args m c,K f args m=some c→aC P G f args m c
structure aC1 where
 pre:Prop
 ok:Bool
 pan:Value
abbrev KPt:=FuncId→List AV→Mem→Option aC1
def chainOf (v:Value):List PanicEntry:=[{ v:=v,recovered:=false }]
def jM (P:Program) (G:List (Nat×AV)) (f:FuncId) (args:List AV) (m:Mem) (r:aC1):Prop :=
 r.pre→r.ok=false→∀ (w:World) (D:Nat→Prop) (E:Nat→Ent) (us:List Value),(∀ b,D b→b < w.heap.size)→rU P ⟨w,D,dI m,E⟩ G→AV.relL P ⟨w,D,dI m,E⟩ args us→Held P w D (dI m) E →
  Calls P f us.toArray w fun e w'=>e=.panicked (chainOf r.pan)∧Chg (bV (dI m) E) w w'
def fB (P:Program) (G:List (Nat×AV)) (KP:KPt):Prop:=∀ f args m r,KP f args m=some r→jM P G f args m r
def aNC (P:Program) (t:TypeId) (a:AV):AV:=match a with
 | .val (.slice none 0 0)=>match aJa P t with
  | some (.sl e)=>.dat (.sl e) []
  | _=>a
 | .agg cs=>match aJa P t with
  | some ty=>match gG ty cs with
   | some (x,[])=>.agg (cellsOf ty x)
   | _=>a
  | none=>a
 | _=>a
def aCf (P:Program):List TypeId→List AV→List AV
 | t :: ts,a :: as=>aNC P t a :: aCf P ts as
 | _,as=>as
theorem aKy {P:Program} {C:Ctx} {t:TypeId} {a:AV} {v:Value} (h:a.rel P C v):(aNC P t a).rel P C v:=by
 unfold aNC
 split
 ·split
  ·simp only [AV.rel] at h
   subst h;exact bU _ _ _
  ·exact h
 ·split
  ·split
   ·rename_i x hx
    obtain ⟨us,e,g⟩:=h
    obtain ⟨u1,u2,e2,g1,g2⟩:=fQ hx g
    have g2':u2=[]:=g2
    subst g2' e2
    exact ⟨u1 ++ [],e,by rw [List.append_nil];exact fM g1⟩
   ·exact h
  ·exact h
 ·exact h
theorem aBo {P:Program} {C:Ctx}:∀ {ts:List TypeId} {as:List AV} {us:List Value},AV.relL P C as us→AV.relL P C (aCf P ts as) us
 | [],_,_,h=>h
 | _ :: _,[],_,h=>h
 | t :: ts,a :: as,us,h=>by
  obtain ⟨u,us',e,g1,g2⟩:=h
  exact ⟨u,us',e,aKy g1,aBo g2⟩
def pR (P:Program) (f:FuncId):List TypeId:=match P.funcs[f]? with
 | some fn=>fn.params.toList
 | none=>[]
def aTp:AV→Bool
 | .val (.slice none 0 0)=>true
 | _=>false
def kL (P:Program) (K:Kt) (f:FuncId) (args caps:List AV):List AV :=
 if (args.any aTp && (K f (args ++ caps) []).isSome)=true then args else aCf P (pR P f) args
theorem aEQ {P:Program} {K:Kt} {f:FuncId} {caps:List AV} {C:Ctx} {as:List AV} {us:List Value} (h:AV.relL P C as us):AV.relL P C (kL P K f as caps) us:=by
 unfold kL
 split
 ·exact h
 ·exact aBo h
def nameless (a:AV):Bool:=a.names.isEmpty
def iU (m:Nat→Option Blk):List Nat→Mem
 | []=>[]
 | nm :: r=>match m nm with
  | some b=>(nm,b) :: iU m r
  | none=>iU m r
theorem iT (m:Nat→Option Blk) (k:Nat):∀ l:List Nat,(iU m l).lookup k=if k ∈ l then m k else none
 | []=>rfl
 | nm :: r=>by
  simp only [iU]
  split
  ·rename_i b hb
   simp only [List.lookup]
   by_cases e:k=nm
   ·subst e;simp [hb]
   ·have:(k == nm)=false:=by simpa using e
    simp only [this,iT m k r,List.mem_cons,e,false_or]
  ·rename_i hb
   rw [iT m k r]
   by_cases e:k=nm
   ·subst e;simp [hb]
   ·simp [e]
def rZ (ns:List Nat) (b:Blk):Bool:=b.names.all fun k=>ns.contains k
def aNX (n:Nat) (b:Blk):Prop:=match b with
 | .buf _ _ _ _=>D.nle n b.len
 | _=>n=b.len
theorem aHA {n:Nat} {b:Blk} (h:aNX n b):n≤b.len:=by
 unfold aNX at h
 split at h
 ·exact h
 ·exact Nat.le_of_eq h
def grow (b0 b:Blk):Prop:=aNX b0.len b
theorem aQ5 {b0 b:Blk} (h:grow b0 b):b0.len≤b.len:=aHA h
def aMI (m:Nat→Option Blk) (ns:List Nat):Mem→Option (List Prop)
 | []=>some []
 | (k,b) :: r=>match m k,aMI m ns r with
  | some b0,some q=>if ns.contains k && rZ ns b && decide (b0.es=b.es) then some (grow b0 b :: q) else none
  | _,_=>none
def aKY:Mem→Mem→Option (Nat×Blk)
 | [],[(k,b)]=>if b.names.isEmpty then some (k,b) else none
 | _,_=>none
def fH (m:Nat→Option Blk) (l:List Nat):List Nat:=l ++ l.flatMap fun k=>match m k with | some b=>b.names | none=>[]
theorem iF {m:Nat→Option Blk} {l:List Nat} {k:Nat} (h:k ∈ l):k ∈ fH m l:=List.mem_append.2 (.inl h)
theorem yB {m:Nat→Option Blk} {l:List Nat} {k:Nat} (h:k ∈ fH m l):k ∈ l∨∃ j ∈ l,∃ b,m j=some b∧k ∈ b.names:=by
 rcases List.mem_append.1 h with h | h
 ·exact .inl h
 ·obtain ⟨j,hj,hk⟩:=List.mem_flatMap.1 h
  split at hk
  ·rename_i b hb;exact .inr ⟨j,hj,b,hb,hk⟩
  ·cases hk
theorem aAO {m:Nat→Option Blk} {l:List Nat} {j k:Nat} {b:Blk} (hj:j ∈ l) (hb:m j=some b) (hk:k ∈ b.names):k ∈ fH m l :=
 List.mem_append.2 (.inr (List.mem_flatMap.2 ⟨j,hj,by rw [hb];exact hk⟩))
theorem yA {m:Nat→Option Blk} {l l':List Nat} (h:∀ k ∈ l,k ∈ l') {k:Nat} (hk:k ∈ fH m l):k ∈ fH m l':=by
 rcases yB hk with g | ⟨j,hj,b,hb,hkb⟩
 ·exact iF (h k g)
 ·exact aAO (h j hj) hb hkb
theorem aB0 {m m':Nat→Option Blk} {l:List Nat} (h:∀ k ∈ l,m' k=m k):fH m' l=fH m l:=by
 unfold fH
 congr 1
 simp only [List.flatMap_def]
 congr 1
 exact List.map_congr_left fun k hk=>by rw [h k hk]
def aCk (P:Program) (K:Kt) (nx:Nat) (m:Nat→Option Blk) (callee:AV) (args:List AV):Option Core :=
 match callee,args with
 | .fn f caps,args=>if goes P f then
   if (fH m (AV.namesL (kL P K f args caps ++ caps))).all (fun k=>match m k with | some b=>rZ (fH m (AV.namesL (kL P K f args caps ++ caps))) b | none=>true) then
   match K f (kL P K f args caps ++ caps) (iU m (fH m (AV.namesL (kL P K f args caps ++ caps)))) with
   | some c=>match aKY (iU m (fH m (AV.namesL (kL P K f args caps ++ caps)))) c.upd with
    | some (k0,b0)=>if c.ret.names.all (fun k=>k == k0) then some { need:=[c.pre],val:=aQI nx c.ret,upd:=[(nx,b0)],new:=some nx } else none
    | none=>match aMI m (fH m (AV.namesL (kL P K f args caps ++ caps))) c.upd with
     | some q=>if c.ret.names.all (fun k=>(fH m (AV.namesL (kL P K f args caps ++ caps))).contains k) then some { need:=c.pre :: q,val:=c.ret,upd:=c.upd } else none
     | none=>none
   | none=>none
   else none
  else none
 | .clo1 a r pre g,[x]=>match x.as a with
  | some x=>some { need:=[pre x],val:=.dat r (g x) }
  | none=>none
 | .clo2 a b r pre g,[x,y]=>match x.as a,y.as b with
  | some x,some y=>some { need:=[pre x y],val:=.dat r (g x y) }
  | _,_=>none
 | _,_=>none
theorem oK {P:Program} {f:FuncId} (h:goes P f=true) (w:World) (args:Array Value):(callFunc f args).run P w=.ok (.enter f args) w:=by
 unfold goes at h
 split at h
 ·rename_i fn hf
  simp only [Bool.and_eq_true,bne_iff_ne,ne_eq] at h
  have h1:fn.body.isNone=false:=by cases hb:fn.body <;> simp_all
  have h2:(fn.name == "runtime.NumGoroutine")=false:=by simpa using h.2
  simp only [callFunc,Sem.run_bind,run_program,Result.andThen_ok,hf,h2,h1]
  rfl
 ·cases h
theorem aAh {P:Program} {C C':Ctx} {a:AV} {v:Value} (hn:nameless a=true) (L:Later C C') (h:a.rel P C v):a.rel P C' v :=
 AV.rel_mono L (fun nm hnm=>by
  unfold nameless at hn
  rw [List.isEmpty_iff] at hn
  rw [hn] at hnm;cases hnm) h
theorem iE (m:Nat→Option Blk) (u:Mem) (k:Nat):upM m u k=match u.lookup k with | some b=>some b | none=>m k:=rfl
theorem yK {m:Nat→Option Blk} {ns:List Nat}:∀ {u:Mem} {q:List Prop},aMI m ns u=some q→(∀ p ∈ q,p)→∀ (k:Nat) (b:Blk),u.lookup k=some b →
  ∃ b0,m k=some b0∧k ∈ ns∧b0.es=b.es∧b0.len≤b.len∧∀ x ∈ b.names,x ∈ ns
 | [],_,_,_,k,b,hk=>by simp at hk
 | (k',b') :: r,q,h,hq,k,b,hk=>by
  simp only [aMI] at h
  split at h
  case h_2=>cases h
  rename_i b0 q' hm hr
  split at h
  case isFalse=>cases h
  rename_i hc
  cases h
  simp only [Bool.and_eq_true,decide_eq_true_eq] at hc
  simp only [List.lookup] at hk
  split at hk
  ·rename_i e
   cases hk
   have e:k=k':=by simpa using e
   subst e
   refine ⟨b0,hm,by simpa using hc.1.1,hc.2,aQ5 (hq _ (by simp)),fun x hx=>?_⟩
   have:=hc.1.2
   unfold rZ at this
   rw [List.all_eq_true] at this
   simpa using this x hx
  ·exact yK hr (fun p hp=>hq p (by simp [hp])) k b hk
theorem aZ.called {S:Base} {σ:Sig} {a:Act} {w w':World} {D D':Nat→Prop} {E E':Nat→Ent} (h:aZ S σ a w D E) {ns:List Nat} {upd:Mem} {q:List Prop}
  (hns:∀ k ∈ ns,∀ b,σ.m k=some b→∀ x ∈ b.names,x ∈ ns) (hu:aMI σ.m ns upd=some q) (hq:∀ p ∈ q,p) (hl:Left S.P (dI (iU σ.m ns)) upd w D E w' D' E') :
  aZ S ⟨σ.T,upM σ.m upd,σ.sv⟩ a w' D' (fun k=>if k ∈ ns then E' k else E k)∧Later ⟨w,D,σ.m,E⟩ ⟨w',D',upM σ.m upd,fun k=>if k ∈ ns then E' k else E k⟩:=by
 obtain ⟨E2,hE2⟩:∃ E2:Nat→Ent,E2=fun k=>if k ∈ ns then E' k else E k:=⟨_,rfl⟩
 have e2i:∀ k,k ∈ ns→E2 k=E' k:=fun k hk=>by rw [hE2];exact if_pos hk
 have e2o:∀ k,k ∉ ns→E2 k=E k:=fun k hk=>by rw [hE2];exact if_neg hk
 rw [← hE2]
 have mem:∀ k,dI (iU σ.m ns) k=if k ∈ ns then σ.m k else none:=fun k=>iT σ.m k ns
 have up:∀ k b,upM σ.m upd k=some b→(∃ b0,σ.m k=some b0∧b0.es=b.es∧b0.len≤b.len):=fun k b hk=>by
  rw [iE] at hk
  split at hk
  ·rename_i b1 h1
   cases hk
   obtain ⟨b0,g1,_,g2,g3,_⟩:=yK hu hq k _ h1
   exact ⟨b0,g1,g2,g3⟩
  ·exact ⟨b,hk,rfl,Nat.le_refl _⟩
 have same:∀ k,k ∈ ns→upM (dI (iU σ.m ns)) upd k=upM σ.m upd k:=fun k hk=>by
  rw [iE,iE]
  split
  ·rfl
  ·rw [mem,if_pos hk]
 have names:∀ k b,k ∈ ns→upM σ.m upd k=some b→∀ x ∈ b.names,x ∈ ns:=fun k b hk hb=>by
  rw [iE] at hb
  split at hb
  ·rename_i b1 h1
   cases hb
   obtain ⟨_,_,_,_,_,g⟩:=yK hu hq k _ h1
   exact g
  ·exact hns k hk b hb
 have keep:∀ k,k < w.heap.size→¬ bV (dI (iU σ.m ns)) E k→w'.heap[k]?=w.heap[k]?:=fun k hk hno=>hl.chg.block k hk hno
 have blk:∀ k,bV (dI (iU σ.m ns)) E k→∃ nm b,σ.m nm=some b∧nm ∈ ns∧(E nm).isNil=false∧k=(E nm).b:=by
  rintro k ⟨nm,b,g1,g2,g3⟩
  rw [mem] at g1
  split at g1
  ·rename_i hn;exact ⟨nm,b,g1,hn,g2,g3⟩
  ·cases g1
 have L:Later ⟨w,D,σ.m,E⟩ ⟨w',D',upM σ.m upd,E2⟩:=⟨hl.dlo,fun b hb=>keep b (h.dlt b hb) fun hx=>by
  obtain ⟨nm,bb,g1,_,g2,g3⟩:=blk b hx
  exact (h.own nm bb g1 g2).2.2 (g3 ▸ hb)⟩
 have rowKeep:∀ nm b i k,σ.m nm=some b→rowsOf (E nm) b i k→w'.heap[k]?=w.heap[k]?:=fun nm b i k hm hr=>keep k (h.pv.lt hm hr) fun hx=>by
  obtain ⟨nm2,b2,g1,_,g3,g4⟩:=blk _ hx
  exact h.pv.ent nm i k (aY.2 ⟨b,hm,hr⟩) nm2 b2 g1 g3 g4.symm
 have hml:∀ nm b,nm ∈ ns→σ.m nm=some b→dI (iU σ.m ns) nm=some b:=fun nm b hn hb=>by rw [mem,if_pos hn];exact hb
 have mov:∀ nm b,nm ∈ ns→upM σ.m upd nm=some b→(E' nm).isNil=false→(∃ nm2 b2,σ.m nm2=some b2∧nm2 ∈ ns∧(E nm2).isNil=false∧(E' nm).b=(E nm2).b)∨w.heap.size≤(E' nm).b:=fun nm b hn hb hi=>by
  obtain ⟨b0,g0,_⟩:=up nm b hb
  rcases hl.moved nm b0 b (hml nm b0 hn g0) (by rw [same nm hn];exact hb) hi with g | g
  ·exact .inl (blk _ g)
  ·exact .inr g
 have prv:∀ nm i k,dY (upM σ.m upd) E2 nm i k→dY σ.m E nm i k∨(nm ∈ ns∧w.heap.size≤k∧dY (upM (dI (iU σ.m ns)) upd) E' nm i k):=fun nm i k hk=>by
  obtain ⟨bb,g1,g2⟩:=aY.1 hk
  by_cases hn:nm ∈ ns
  ·rw [e2i nm hn] at g2
   have hp:dY (upM (dI (iU σ.m ns)) upd) E' nm i k:=aY.2 ⟨bb,by rw [same nm hn];exact g1,g2⟩
   rcases hl.priv nm i k hp with g | g
   ·left
    obtain ⟨b2,q1,q2⟩:=aY.1 g
    rw [mem,if_pos hn] at q1
    exact aY.2 ⟨b2,q1,q2⟩
   ·exact .inr ⟨hn,g,hp⟩
  ·rw [e2o nm hn] at g2
   left
   have hlk:upd.lookup nm=none:=by
    cases hx:upd.lookup nm with
    | none=>rfl
    | some b1 =>
     obtain ⟨_,_,g,_⟩:=yK hu hq nm b1 hx
     exact (hn g).elim
   rw [iE,hlk] at g1
   exact aY.2 ⟨bb,g1,g2⟩
 have pvNew:jO S.w0.heap.size S.O (upM σ.m upd) E2 w'.heap.size D':=by
  refine ⟨fun nm i k hk=>?_,fun nm i k hk nm' b' hb' hi e=>?_,fun nm i k nm' j h1 h2=>?_⟩
  ·rcases prv nm i k hk with g | ⟨_,g1,g2⟩
   ·obtain ⟨q1,q2,q3⟩:=h.pv.own nm i k g
    refine ⟨q1,Nat.lt_of_lt_of_le q2 hl.chg.size,fun hd=>?_⟩
    rcases hl.dhi _ hd with r | r | r
    ·exact q3 r
    ·omega
    ·obtain ⟨nm2,b2,r1,_,r3,r4⟩:=blk _ r
     exact h.pv.ent nm i k g nm2 b2 r1 r3 r4.symm
   ·obtain ⟨_,q2,q3⟩:=hl.held.pv.own nm i k g2
    exact ⟨.inl (Nat.le_trans h.low.size g1),q2,q3⟩
  ·obtain ⟨b0,g0,_⟩:=up nm' b' hb'
   by_cases hn':nm' ∈ ns
   ·rw [e2i nm' hn'] at hi e
    rcases prv nm i k hk with g | ⟨_,g1,g2⟩
    ·rcases mov nm' b' hn' hb' hi with ⟨nm2,b2,q1,_,q3,q4⟩ | q
     ·exact h.pv.ent nm i k g nm2 b2 q1 q3 (q4.symm.trans e)
     ·have:=(h.pv.own nm i k g).2.1;omega
    ·exact hl.held.pv.ent nm i k g2 nm' b' (by rw [same nm' hn'];exact hb') hi e
   ·rw [e2o nm' hn'] at hi e
    have hlt:=(h.own nm' b0 g0 hi).2.1
    rcases prv nm i k hk with g | ⟨_,g1,_⟩
    ·exact h.pv.ent nm i k g nm' b0 g0 hi e
    ·omega
  ·rcases prv nm i k h1 with g | ⟨_,g1,g2⟩ <;> rcases prv nm' j k h2 with q | ⟨_,q1,q2⟩
   ·exact h.pv.inj nm i k nm' j g q
   ·have:=(h.pv.own nm i k g).2.1;omega
   ·have:=(h.pv.own nm' j k q).2.1;omega
   ·exact hl.held.pv.inj nm i k nm' j g2 q2
 refine ⟨h.go (m':=upM σ.m upd) L (fun k=>.inl fun b' hb'=>?_) (fun nm b hm=>?_) (fun nm b hm hi=>?_) (fun nm nm' b b' hb hb' hi hi' e=>?_)
  (h.low.step hl.chg.os hl.chg.tape hl.chg.output hl.chg.size fun k hk hno=>keep k (Nat.lt_of_lt_of_le hk h.low.size) fun hx=>?_) hl.dlt (fun b hb=>?_) pvNew,L⟩
 ·obtain ⟨b0,g1,g2,g3⟩:=up k b' hb'
  refine ⟨b0,g1,g2,g3,fun he=>?_⟩
  show E2 k=E k
  by_cases hn:k ∈ ns
  ·rw [e2i k hn]
   exact hl.agree k b0 b' (hml k b0 hn g1) (by rw [same k hn];exact hb') he.symm
  ·exact e2o k hn
 ·by_cases hn:nm ∈ ns
  ·right
   have:=hl.held.bl nm b (by rw [same nm hn];exact hm)
   rw [e2i nm hn]
   refine iL.mono (C:=⟨w',D',upM (dI (iU σ.m ns)) upd,E'⟩) (C':=⟨w',D',upM σ.m upd,E2⟩) ⟨fun _ g=>g,fun _ _=>rfl⟩ (fun x hx b' hb'=>?_) (fun _=>rfl) (fun _ _ _=>rfl) this
   exact ⟨b',(by show upM (dI (iU σ.m ns)) upd x=some b';rw [same x (names nm b hn hm x hx)];exact hb'),rfl,Nat.le_refl _,fun _=>e2i x (names nm b hn hm x hx)⟩
  ·left
   have hlk:upd.lookup nm=none:=by
    cases hx:upd.lookup nm with
    | none=>rfl
    | some b1 =>
     obtain ⟨_,_,g,_⟩:=yK hu hq nm b1 hx
     exact (hn g).elim
   have hm2:σ.m nm=some b:=by rw [iE,hlk] at hm;exact hm
   refine ⟨hm2,e2o nm hn,fun hi=>keep _ (h.own nm b hm2 hi).2.1 fun hx=>?_,fun i k hr=>rowKeep nm b i k hm2 hr⟩
   obtain ⟨nm2,b2,g1,g2,g3,g4⟩:=blk _ hx
   have:=h.inj nm nm2 b b2 hm2 g1 hi g3 g4
   subst this;exact hn g2
 ·obtain ⟨b0,g1,_⟩:=up nm b hm
  by_cases hn:nm ∈ ns
  ·rw [e2i nm hn] at hi ⊢
   obtain ⟨q1,q2⟩:=hl.held.own nm b (by rw [same nm hn];exact hm) hi
   refine ⟨?_,q1,q2⟩
   rcases mov nm b hn hm hi with ⟨nm2,b2,r1,_,r3,r4⟩ | r
   ·rw [r4];exact (h.own nm2 b2 r1 r3).1
   ·exact .inl (Nat.le_trans h.low.size r)
  ·rw [e2o nm hn] at hi ⊢
   obtain ⟨g2,g3,g4⟩:=h.own nm b0 g1 hi
   refine ⟨g2,Nat.lt_of_lt_of_le g3 hl.chg.size,fun hd=>?_⟩
   rcases hl.dhi _ hd with g | g | g
   ·exact g4 g
   ·exact Nat.lt_irrefl _ (Nat.lt_of_lt_of_le g3 g)
   ·obtain ⟨nm2,b2,r1,r2,r3,r4⟩:=blk _ g
    have:=h.inj nm nm2 b0 b2 g1 r1 hi r3 r4
    subst this;exact hn r2
 ·obtain ⟨b0,g1,_⟩:=up nm b hb
  obtain ⟨b1,g2,_⟩:=up nm' b' hb'
  have mix:∀ x y bx b1,x ∈ ns→y ∉ ns→upM σ.m upd x=some bx→σ.m y=some b1→(E' x).isNil=false→(E y).isNil=false→(E' x).b=(E y).b→False:=fun x y bx b1 hx hy hbx hy1 hix hiy e=>by
   rcases mov x bx hx hbx hix with ⟨nm2,b2,r1,r2,r3,r4⟩ | r
   ·have:=h.inj nm2 y b2 b1 r1 hy1 r3 hiy (r4.symm.trans e)
    subst this;exact hy r2
   ·have:=(h.own y b1 hy1 hiy).2.1;omega
  by_cases hn:nm ∈ ns <;> by_cases hn':nm' ∈ ns
  ·rw [e2i nm hn] at hi e
   rw [e2i nm' hn'] at hi' e
   exact hl.held.inj nm nm' b b' (by rw [same nm hn];exact hb) (by rw [same nm' hn'];exact hb') hi hi' e
  ·rw [e2i nm hn] at hi e
   rw [e2o nm' hn'] at hi' e
   exact (mix nm nm' b b1 hn hn' hb g2 hi hi' e).elim
  ·rw [e2o nm hn] at hi e
   rw [e2i nm' hn'] at hi' e
   exact (mix nm' nm b' b0 hn' hn hb' g1 hi' hi e.symm).elim
  ·rw [e2o nm hn] at hi e
   rw [e2o nm' hn'] at hi' e
   exact h.inj nm nm' b0 b1 g1 g2 hi hi' e
 ·obtain ⟨nm,bb,g1,_,g2,g3⟩:=blk k hx
  rcases (h.own nm bb g1 g2).1 with g | g
  ·rw [← g3] at g;omega
  ·exact hno (g3 ▸ g)
 ·rcases hl.dhi b hb with g | g | g
  ·exact .inl g
  ·exact .inr (.inl (Nat.le_trans h.low.size g))
  ·obtain ⟨nm2,b2,r1,_,r3,r4⟩:=blk _ g
   rw [r4]
   exact .inr ((h.own nm2 b2 r1 r3).1)
theorem aZ.calledNew {S:Base} {σ:Sig} {a:Act} {w w':World} {D D':Nat→Prop} {E E':Nat→Ent} (h:aZ S σ a w D E) {nx k0:Nat} {b0:Blk} (hu:Unm nx σ) (hb0:b0.names=[]) (hl:Left S.P (dI []) [(k0,b0)] w D E w' D' E') :
  aZ S ⟨σ.T,upM σ.m [(nx,b0)],σ.sv⟩ a w' D' (upE E nx (E' k0)):=by
 have hk0:upM (dI []) [(k0,b0)] k0=some b0:=by rw [gB,if_pos rfl]
 have keep:∀ k,k < w.heap.size→w'.heap[k]?=w.heap[k]?:=fun k hk=>hl.chg.block k hk fun ⟨nm,blk,g,_⟩=>(by cases g)
 have e1:upE E nx (E' k0) nx=E' k0:=by simp [upE]
 have e2:∀ k,k≠nx→upE E nx (E' k0) k=E k:=fun k hk=>by simp [upE,hk]
 have m2:∀ k b,k≠nx→upM σ.m [(nx,b0)] k=some b→σ.m k=some b:=fun k b hk hb=>by rw [gB,if_neg hk] at hb;exact hb
 have m1:∀ b,upM σ.m [(nx,b0)] nx=some b→b=b0:=fun b hb=>by rw [gB,if_pos rfl] at hb;exact (Option.some.inj hb).symm
 have fr:(E' k0).isNil=false→w.heap.size≤(E' k0).b:=hl.fresh k0 b0 rfl hk0
 have prv:∀ nm i k,dY (upM σ.m [(nx,b0)]) (upE E nx (E' k0)) nm i k→(nm≠nx∧dY σ.m E nm i k)∨(nm=nx∧w.heap.size≤k∧dY (upM (dI []) [(k0,b0)]) E' k0 i k):=fun nm i k hk=>by
  obtain ⟨bb,g1,g2⟩:=aY.1 hk
  by_cases hn:nm=nx
  ·subst hn
   have eb:=m1 bb g1
   subst eb
   rw [e1] at g2
   have hp:dY (upM (dI []) [(k0,bb)]) E' k0 i k:=aY.2 ⟨bb,hk0,g2⟩
   rcases hl.priv k0 i k hp with g | g
   ·obtain ⟨_,q,_⟩:=aY.1 g;cases q
   ·exact .inr ⟨rfl,g,hp⟩
  ·rw [e2 nm hn] at g2
   exact .inl ⟨hn,aY.2 ⟨bb,m2 nm bb hn g1,g2⟩⟩
 have pvNew:jO S.w0.heap.size S.O (upM σ.m [(nx,b0)]) (upE E nx (E' k0)) w'.heap.size D':=by
  refine ⟨fun nm i k hk=>?_,fun nm i k hk nm' b' hb' hi e=>?_,fun nm i k nm' j h1 h2=>?_⟩
  ·rcases prv nm i k hk with ⟨_,g⟩ | ⟨_,g1,g2⟩
   ·obtain ⟨q1,q2,q3⟩:=h.pv.own nm i k g
    refine ⟨q1,Nat.lt_of_lt_of_le q2 hl.chg.size,fun hd=>?_⟩
    rcases hl.dhi _ hd with r | r | ⟨_,_,r,_⟩
    ·exact q3 r
    ·omega
    ·cases r
   ·obtain ⟨_,q2,q3⟩:=hl.held.pv.own k0 i k g2
    exact ⟨.inl (Nat.le_trans h.low.size g1),q2,q3⟩
  ·by_cases hn:nm'=nx
   ·subst hn
    rw [e1] at hi e
    rcases prv nm i k hk with ⟨_,g⟩ | ⟨_,g1,g2⟩
    ·have:=(h.pv.own nm i k g).2.1
     have:=fr hi
     omega
    ·exact hl.held.pv.ent k0 i k g2 k0 b0 hk0 hi e
   ·have hm2:=m2 nm' b' hn hb'
    rw [e2 nm' hn] at hi e
    have hlt:=(h.own nm' b' hm2 hi).2.1
    rcases prv nm i k hk with ⟨_,g⟩ | ⟨_,g1,_⟩
    ·exact h.pv.ent nm i k g nm' b' hm2 hi e
    ·omega
  ·rcases prv nm i k h1 with ⟨n1,g⟩ | ⟨n1,g1,g2⟩ <;> rcases prv nm' j k h2 with ⟨n2,q⟩ | ⟨n2,q1,q2⟩
   ·exact h.pv.inj nm i k nm' j g q
   ·have:=(h.pv.own nm i k g).2.1;omega
   ·have:=(h.pv.own nm' j k q).2.1;omega
   ·exact ⟨n1.trans n2.symm,(hl.held.pv.inj k0 i k k0 j g2 q2).2⟩
 refine h.go (m':=upM σ.m [(nx,b0)]) ⟨hl.dlo,fun b hb=>keep b (h.dlt b hb)⟩ (fun k=>?_) (fun nm b hm=>?_) (fun nm b hm hi=>?_) (fun nm nm' b b' hb hb' hi hi' e=>?_)
  (h.low.step hl.chg.os hl.chg.tape hl.chg.output hl.chg.size fun k hk _=>keep k (Nat.lt_of_lt_of_le hk h.low.size)) hl.dlt (fun b hb=>?_) pvNew
 ·by_cases hk:k=nx
  ·subst hk;exact .inr hu
  ·exact .inl fun b' hb'=>⟨b',m2 k b' hk hb',rfl,Nat.le_refl _,fun _=>e2 k hk⟩
 ·by_cases hk:nm=nx
  ·subst hk
   right
   have eb:=m1 b hm
   subst eb
   rw [e1]
   exact iL.mono (C:=⟨w',D',upM (dI []) [(k0,b)],E'⟩) (C':=⟨w',D',upM σ.m [(nm,b)],upE E nm (E' k0)⟩) ⟨fun _ g=>g,fun _ _=>rfl⟩ (fun x hx=>by rw [hb0] at hx;cases hx) (fun _=>rfl) (fun _ _ _=>rfl) (hl.held.bl k0 b hk0)
  ·have hm2:=m2 nm b hk hm
   exact .inl ⟨hm2,e2 nm hk,fun hi=>keep _ (h.own nm b hm2 hi).2.1,fun i k hr=>keep _ (h.pv.lt hm2 hr)⟩
 ·by_cases hk:nm=nx
  ·subst hk
   rw [e1] at hi ⊢
   exact ⟨.inl (Nat.le_trans h.low.size (fr hi)),hl.held.own k0 b0 hk0 hi⟩
  ·have hm2:=m2 nm b hk hm
   rw [e2 nm hk] at hi ⊢
   obtain ⟨g1,g2,g3⟩:=h.own nm b hm2 hi
   refine ⟨g1,Nat.lt_of_lt_of_le g2 hl.chg.size,fun hd=>?_⟩
   rcases hl.dhi _ hd with g | g | ⟨_,_,g,_⟩
   ·exact g3 g
   ·omega
   ·cases g
 ·by_cases hk:nm=nx <;> by_cases hk':nm'=nx
  ·rw [hk,hk']
  ·subst hk
   rw [e1] at hi e
   rw [e2 nm' hk'] at hi' e
   have:=(h.own nm' b' (m2 nm' b' hk' hb') hi').2.1
   have:=fr hi
   omega
  ·subst hk'
   rw [e1] at hi' e
   rw [e2 nm hk] at hi e
   have:=(h.own nm b (m2 nm b hk hb) hi).2.1
   have:=fr hi'
   omega
  ·rw [e2 nm hk] at hi e
   rw [e2 nm' hk'] at hi' e
   exact h.inj nm nm' b b' (m2 nm b hk hb) (m2 nm' b' hk' hb') hi hi' e
 ·rcases hl.dhi b hb with g | g | ⟨_,_,g,_⟩
  ·exact .inl g
  ·exact .inr (.inl (Nat.le_trans h.low.size g))
  ·cases g
theorem aZ.pureCall {S:Base} {σ:Sig} {a:Act} {w w':World} {D:Nat→Prop} {E:Nat→Ent} (h:aZ S σ a w D E) (hw:Below w.heap.size w w') :
  aZ S σ a w' (fun b=>D b∨lI w w' b) E :=
 h.world hw (fun b=>⟨fun g=>g.imp id (fun g=>⟨g,.inr g⟩),fun g=>g.imp id (fun g=>g.1)⟩) (fun b g=>by
  rcases g with g | g
  ·exact Nat.lt_of_lt_of_le (h.dlt b g) hw.size
  ·exact g.2)
theorem aZ.heldOf {S:Base} {σ:Sig} {a:Act} {w:World} {D:Nat→Prop} {E:Nat→Ent} (h:aZ S σ a w D E) (ns:List Nat):Held S.P w D (dI (iU σ.m ns)) E:=by
 have mem:∀ k b,dI (iU σ.m ns) k=some b→σ.m k=some b:=fun k b hk=>by
  have:=iT σ.m k ns
  unfold dI at hk
  rw [this] at hk
  split at hk
  ·exact hk
  ·cases hk
 refine ⟨fun nm b hb=>?_,fun nm b hb hi=>(h.own nm b (mem nm b hb) hi).2,fun nm nm' b b' hb hb'=>h.inj nm nm' b b' (mem _ _ hb) (mem _ _ hb'),?_⟩
 rotate_left
 ·have pm:∀ nm i b,dY (dI (iU σ.m ns)) E nm i b→dY σ.m E nm i b:=fun nm i b hb=>by
   obtain ⟨bb,g1,g2⟩:=aY.1 hb
   exact aY.2 ⟨bb,mem nm bb g1,g2⟩
  exact ⟨fun nm i b hb=>⟨.inr trivial,(h.pv.own nm i b (pm _ _ _ hb)).2⟩,fun nm i b hb nm' blk hm' hi=>h.pv.ent nm i b (pm _ _ _ hb) nm' blk (mem _ _ hm') hi,fun nm i b nm' j h1 h2=>h.pv.inj nm i b nm' j (pm _ _ _ h1) (pm _ _ _ h2)⟩
 exact iL.mono (C:=⟨w,D,σ.m,E⟩) (C':=⟨w,D,dI (iU σ.m ns),E⟩) ⟨fun _ g=>g,fun _ _=>rfl⟩ (fun x _ b' hb'=>⟨b',mem _ _ hb',rfl,Nat.le_refl _,fun _=>rfl⟩) (fun _=>rfl) (fun _ _ _=>rfl) (h.bl nm b (mem nm b hb))
theorem aCB {P:Program} {w:World} {D:Nat→Prop} {m:Nat→Option Blk} {E:Nat→Ent} {as:List AV} {us:List Value} (ns:List Nat) (h:AV.relL P ⟨w,D,m,E⟩ as us) :
  AV.relL P ⟨w,D,dI (iU m ns),E⟩ as us :=
 AV.relL_mono (C:=⟨w,D,m,E⟩) (C':=⟨w,D,dI (iU m ns),E⟩) ⟨fun _ h=>h,fun _ _=>rfl⟩ (fun k _ b' hb'=>⟨b',(by
  have:=iT m k ns
  replace hb':(iU m ns).lookup k=some b':=hb'
  rw [this] at hb'
  split at hb'
  ·exact hb'
  ·cases hb'),rfl,Nat.le_refl _,fun _=>rfl⟩) h
theorem aDV {S:Base} {K:Kt} (hK:aQ S.P S.G K) {σ:Sig} {a:Act} {w:World} {D:Nat→Prop} {E:Nat→Ent} (h:aZ S σ a w D E) {nx:Nat} {callee:AV} {args:List AV} {c:Core} {u:Value} {us:List Value}
  (hc:aCk S.P K nx σ.m callee args=some c) (hn:∀ q ∈ c.need,q) (hunm:∀ k,c.new=some k→Unm k σ) (hcal:callee.rel S.P ⟨w,D,σ.m,E⟩ u) (hargs:AV.relL S.P ⟨w,D,σ.m,E⟩ args us) :
  ∃ f as,(do let d ← Deferred.ofValue u us.toArray;invoke d.target d.args).run S.P w=.ok (.enter f as) w ∧
   Calls S.P f as w fun e w''=>∃ v,e=.returned v∧Outcome S ⟨σ.T,upM σ.m c.upd,σ.sv⟩ a c.val v w'':=by
 have hinv:∀ f caps,u=.func (.func f) #[] caps→goes S.P f=true→(do let d ← Deferred.ofValue u us.toArray;invoke d.target d.args).run S.P w=.ok (.enter f (us.toArray ++ caps)) w:=by
  intro f caps hu hg
  subst hu
  simp only [Deferred.ofValue,Sem.run_bind,Sem.run_pure,Result.andThen_ok,invoke,Array.empty_append]
  exact oK hg w _
 unfold aCk at hc
 split at hc
 ·rename_i f caps
  split at hc
  case isFalse=>cases hc
  rename_i hg
  split at hc
  case isFalse=>cases hc
  rename_i hall
  split at hc
  case h_2=>cases hc
  rename_i cr hk
  have hns:∀ k ∈ fH σ.m (AV.namesL (kL S.P K f args caps ++ caps)),∀ b,σ.m k=some b→∀ x ∈ b.names,x ∈ fH σ.m (AV.namesL (kL S.P K f args caps ++ caps)):=by
   intro k hk b hb x hx
   rw [List.all_eq_true] at hall
   have:=hall k hk
   rw [hb] at this
   unfold rZ at this
   simp only [List.all_eq_true] at this
   simpa using this x hx
  obtain ⟨cs,hu,hcaps⟩:=hcal
  have hall2:=aCB (fH σ.m (AV.namesL (kL S.P K f args caps ++ caps))) (AV.relL_append (aEQ (P:=S.P) (K:=K) (f:=f) (caps:=caps) hargs) hcaps)
  have e:us.toArray ++ cs.toArray=(us ++ cs).toArray:=by simp
  have hcall:=fun hp:cr.pre=>hK f _ _ cr hk hp w D E (us ++ cs) h.dlt (rU.mono (C:=⟨w,D,σ.m,E⟩) ⟨fun _ g=>g,fun _ _=>rfl⟩ h.gl) hall2 (h.heldOf _)
  split at hc
  ·rename_i k0 b0 hfr
   split at hc
   case isFalse=>cases hc
   rename_i hnm
   cases hc
   unfold aKY at hfr
   split at hfr
   case h_2=>cases hfr
   rename_i k1 b1 hmem hupd
   split at hfr
   case isFalse=>cases hfr
   rename_i hb0
   cases hfr
   refine ⟨f,_,hinv f _ hu hg,?_⟩
   rw [e]
   refine (hcall (hn _ (by simp))).mono fun e w' he=>?_
   obtain ⟨v,D',E',rfl,hl,hv⟩:=he
   rw [hmem,hupd] at hl hv
   refine ⟨v,rfl,D',upE E nx (E' k0),h.calledNew (hunm nx rfl) (List.isEmpty_iff.1 hb0) hl,?_⟩
   refine AV.rel_ren (m:=upM (dI []) [(k0,b0)]) (E:=E') (k:=k0) ?_ ?_ (fun x hx=>?_) hv
   ·show upM σ.m [(nx,b0)] nx=upM (dI []) [(k0,b0)] k0
    rw [gB,gB,if_pos rfl,if_pos rfl]
   ·simp [upE]
   ·have:=List.all_eq_true.1 hnm x hx
    simpa using this
  ·split at hc
   case h_2=>cases hc
   rename_i q hq
   split at hc
   case isFalse=>cases hc
   rename_i hnl
   cases hc
   refine ⟨f,_,hinv f _ hu hg,?_⟩
   rw [e]
   refine (hcall (hn _ (by simp))).mono fun e w' he=>?_
   obtain ⟨v,D',E',rfl,hl,hv⟩:=he
   obtain ⟨g1,g2⟩:=h.called hns hq (fun p hp=>hn p (by simp [hp])) hl
   refine ⟨v,rfl,D',_,g1,AV.rel_mono (C:=⟨w',D',upM (dI (iU σ.m (fH σ.m (AV.namesL (kL S.P K f args caps ++ caps))))) cr.upd,E'⟩) (C':=⟨w',D',upM σ.m cr.upd,fun k=>if k ∈ fH σ.m (AV.namesL (kL S.P K f args caps ++ caps)) then E' k else E k⟩) ⟨fun _ g=>g,fun _ _=>rfl⟩ (fun nm hnm b' hb'=>?_) hv⟩
   have hin:nm ∈ fH σ.m (AV.namesL (kL S.P K f args caps ++ caps)):=by
    have:=List.all_eq_true.1 hnl nm hnm
    simpa using this
   have hml:∀ b,σ.m nm=some b→dI (iU σ.m (fH σ.m (AV.namesL (kL S.P K f args caps ++ caps)))) nm=some b:=fun b hb=>by
    show (iU σ.m _).lookup nm=some b
    rw [iT,if_pos hin];exact hb
   replace hb':upM σ.m cr.upd nm=some b':=hb'
   rw [iE] at hb'
   have ex:∃ b0,σ.m nm=some b0∧upM (dI (iU σ.m (fH σ.m (AV.namesL (kL S.P K f args caps ++ caps))))) cr.upd nm=some b':=by
    split at hb'
    ·rename_i b1 h1
     obtain ⟨b0,k1,_⟩:=yK hq (fun p hp=>hn p (by simp [hp])) nm b1 h1
     exact ⟨b0,k1,by rw [iE,h1];exact hb'⟩
    ·rename_i h1
     exact ⟨b',hb',by rw [iE,h1];exact hml b' hb'⟩
   obtain ⟨b0,k1,k2⟩:=ex
   exact ⟨b',k2,rfl,Nat.le_refl _,fun _=>if_pos hin⟩
 ·rename_i a1 r pre g x
  split at hc
  case h_2=>cases hc
  rename_i y hy
  cases hc
  obtain ⟨u1,us',e,r1,r2⟩:=hargs
  simp only [AV.relL] at r2
  subst r2 e
  obtain ⟨f,caps,hu,hg,hcall⟩:=hcal
  have hr:=AV.as_rel hy r1
  refine ⟨f,_,hinv f _ hu hg,?_⟩
  refine (hcall w D (fun b hb=>hb) h.dlt (fun _ _=>rfl) y u1 (hn _ (by simp)) hr).mono fun e w' he=>?_
  obtain ⟨v,rfl,hw,hv⟩:=he
  exact ⟨v,rfl,_,E,h.pureCall hw,hv⟩
 ·rename_i a1 b1 r pre g x x2
  split at hc
  case h_2=>cases hc
  rename_i y z hy hz
  cases hc
  obtain ⟨u1,us',e,r1,u2,us'',e2,r2,r3⟩:=hargs
  simp only [AV.relL] at r3
  subst r3 e2 e
  obtain ⟨f,caps,hu,hg,hcall⟩:=hcal
  refine ⟨f,_,hinv f _ hu hg,?_⟩
  refine (hcall w D (fun b hb=>hb) h.dlt (fun _ _=>rfl) y z u1 u2 (hn _ (by simp)) (AV.as_rel hy r1) (AV.as_rel hz r2)).mono fun e w' he=>?_
  obtain ⟨v,rfl,hw,hv⟩:=he
  exact ⟨v,rfl,_,E,h.pureCall hw,hv⟩
 ·cases hc
mutual
def aIE (m:Nat→Option Blk):AV→Option (List Prop×AV)
 | .buf nm n=>match m nm with
  | some (.buf _ t xs [])=>some ([xs.length=n],.dat (.sl t) xs)
  | _=>none
 | .agg cs=>match aDw m cs with
  | some (ns,ds)=>some (ns,.agg ds)
  | none=>none
 | a=>if a.names.isEmpty then some ([],a) else none
def aDw (m:Nat→Option Blk):List AV→Option (List Prop×List AV)
 | []=>some ([],[])
 | a :: as=>match aIE m a,aDw m as with
  | some (p,x),some (q,xs)=>some (p ++ q,x :: xs)
  | _,_=>none
end
def aIb:AV→AV
 | .dat (.int k) x=>.dat (.int k) x
 | .dat .bool x=>.dat .bool x
 | .dat .str x=>.dat .str x
 | _=>.top
def aQs:AV→AV
 | .tup vs=>.tup (vs.map aIb)
 | a=>aIb a
theorem aA3 {P:Program} {C C':Ctx} {a:AV} {v:Value} (h:a.rel P C v):(aIb a).rel P C' v:=by
 unfold aIb
 split
 ·exact h
 ·exact h
 ·exact h
 ·trivial
theorem aEr {P:Program} {C C':Ctx}:∀ {as:List AV} {us:List Value},AV.relL P C as us→AV.relL P C' (as.map aIb) us
 | [],_,h=>h
 | a :: as,_,h=>by
  obtain ⟨u,us',e,h1,h2⟩:=h
  exact ⟨u,us',e,aA3 h1,aEr h2⟩
theorem aJ2 {P:Program} {C C':Ctx} {a:AV} {v:Value} (h:a.rel P C v):(aQs a).rel P C' v:=by
 unfold aQs
 split
 ·obtain ⟨us,h1,h2⟩:=h
  exact ⟨us,h1,aEr h2⟩
 ·exact aA3 h
def xK (m:Nat→Option Blk) (E:Nat→Ent) (D:Nat→Prop):Nat→Prop:=fun b=>D b∨bV m E b
theorem aQV {S:Base} {σ:Sig} {a:Act} {w:World} {D:Nat→Prop} {E:Nat→Ent} (h:aZ S σ a w D E) {nm:Nat} {el:TypeId} {t:Ty} {xs:List t.den} (hm:σ.m nm=some (.buf el t xs [])) :
  aF w (xK σ.m E D) (.sl t) xs [(E nm).handle xs.length]:=by
 obtain ⟨raw,r1,r2⟩:=h.bl nm _ hm
 cases hnil:(E nm).isNil with
 | true =>
  have e3:(E nm).handle xs.length=.slice none 0 0:=by unfold Ent.handle;rw [hnil];rfl
  rw [e3] at r1 ⊢
  rcases r1.2 with ⟨_,hz⟩ | ⟨g,cap,cur,hq,_⟩
  ·have:xs=[]:=List.eq_nil_of_length_eq_zero hz
   subst this
   exact bU _ _ _
  ·cases hq
 | false =>
  have e3:(E nm).handle xs.length=.slice (some ⟨(E nm).b,0,none⟩) xs.length (E nm).cap:=by unfold Ent.handle;rw [hnil];rfl
  rw [e3] at r1 ⊢
  have hle:xs.length≤(E nm).cap:=by
   rcases r1.2 with ⟨hq,_⟩ | ⟨g,cap,cur,hq,_,_,hle,_⟩
   ·cases hq
   ·simp only [Value.slice.injEq,true_and] at hq
    omega
  refine ⟨_,_,rfl,hle,(fun h=>by cases h),(fun ad had _=>by cases had;rfl),fun i y hy=>?_⟩
  have hr:=r2 i y hy
  simp only [List.lookup] at hr
  refine ⟨_,_,rfl,.inr ⟨nm,_,hm,hnil,rfl⟩,?_,aH (fun _ g=>.inl g) (fun _ _=>rfl) hr⟩
  intro j u hj
  rw [List.getElem?_take] at hj
  split at hj
  ·rw [List.getElem?_drop] at hj
   have hlt:i * t.sz + j < xs.length * t.sz:=by rw [← r1.1];exact (List.getElem?_eq_some_iff.1 hj).1
   show w.cell? ⟨(E nm).b,0 + i * t.sz + j,none⟩=some u
   rw [Nat.zero_add,r1.cellAt _ hlt];exact hj
  ·cases hj
mutual
theorem aKG {S:Base} {σ:Sig} {a:Act} {w:World} {D:Nat→Prop} {E:Nat→Ent} (h:aZ S σ a w D E):∀ {x y:AV} {ns:List Prop} {v:Value},aIE σ.m x=some (ns,y)→(∀ q ∈ ns,q)→x.rel S.P ⟨w,D,σ.m,E⟩ v→y.rel S.P ⟨w,xK σ.m E D,dI [],E⟩ v
 | x,y,ns,v,hc,hn,hx=>by
  unfold aIE at hc
  split at hc
  ·rename_i nm n
   split at hc
   case h_2=>cases hc
   rename_i el t xs hm
   cases hc
   have hlen:xs.length=n:=hn _ (by simp)
   have e0:=(hx _ hm).2 hlen
   rw [← hlen] at e0
   rw [e0]
   exact aQV h hm
  ·rename_i cs
   split at hc
   case h_2=>cases hc
   rename_i ns' ds hl
   cases hc
   obtain ⟨us,h1,h2⟩:=hx
   exact ⟨us,h1,aBB h hl hn h2⟩
  ·split at hc
   case isFalse=>cases hc
   rename_i hnm
   cases hc
   exact aAh (C:=⟨w,D,σ.m,E⟩) (C':=⟨w,xK σ.m E D,dI [],E⟩) hnm ⟨fun _ g=>.inl g,fun _ _=>rfl⟩ hx
theorem aBB {S:Base} {σ:Sig} {a:Act} {w:World} {D:Nat→Prop} {E:Nat→Ent} (h:aZ S σ a w D E):∀ {xs ys:List AV} {ns:List Prop} {vs:List Value},aDw σ.m xs=some (ns,ys)→(∀ q ∈ ns,q)→AV.relL S.P ⟨w,D,σ.m,E⟩ xs vs→AV.relL S.P ⟨w,xK σ.m E D,dI [],E⟩ ys vs
 | [],ys,ns,vs,hc,hn,hx=>by
  simp only [aDw,Option.some.injEq,Prod.mk.injEq] at hc
  rw [← hc.2];exact hx
 | x :: xs,ys,ns,vs,hc,hn,hx=>by
  simp only [aDw] at hc
  split at hc
  ·rename_i p y q ys' h1 h2
   cases hc
   obtain ⟨v,vs',e,g1,g2⟩:=hx
   exact ⟨v,vs',e,aKG h h1 (fun z hz=>hn z (List.mem_append.2 (.inl hz))) g1,aBB h h2 (fun z hz=>hn z (List.mem_append.2 (.inr hz))) g2⟩
  ·cases hc
end
def aID (P:Program) (K:Kt) (m:Nat→Option Blk) (callee:AV) (args:List AV):Option Core:=match callee with
 | .fn f caps=>if goes P f && (AV.namesL caps).isEmpty then
   match aDw m args with
   | some (ns,as)=>match K f (kL P K f as caps ++ caps) [] with
    | some c=>if c.upd.isEmpty then some { need:=c.pre :: ns,val:=aQs c.ret } else none
    | none=>none
   | none=>none
  else none
 | _=>none
theorem aNN {S:Base} {K:Kt} (hK:aQ S.P S.G K) {σ:Sig} {a:Act} {w:World} {D:Nat→Prop} {E:Nat→Ent} (h:aZ S σ a w D E) {callee:AV} {args:List AV} {c:Core} {u:Value} {us:List Value}
  (hc:aID S.P K σ.m callee args=some c) (hn:∀ q ∈ c.need,q) (hcal:callee.rel S.P ⟨w,D,σ.m,E⟩ u) (hargs:AV.relL S.P ⟨w,D,σ.m,E⟩ args us) :
  ∃ f as,(do let d ← Deferred.ofValue u us.toArray;invoke d.target d.args).run S.P w=.ok (.enter f as) w ∧
   Calls S.P f as w fun e w''=>∃ v,e=.returned v∧Outcome S ⟨σ.T,upM σ.m c.upd,σ.sv⟩ a c.val v w'':=by
 unfold aID at hc
 split at hc
 case h_2=>cases hc
 rename_i f caps
 split at hc
 case isFalse=>cases hc
 rename_i hg
 simp only [Bool.and_eq_true] at hg
 split at hc
 case h_2=>cases hc
 rename_i ns as hl
 split at hc
 case h_2=>cases hc
 rename_i cr hk
 split at hc
 case isFalse=>cases hc
 rename_i hup
 cases hc
 have hup':cr.upd=[]:=List.isEmpty_iff.1 hup
 obtain ⟨cs,rfl,hcaps⟩:=hcal
 have ha:=aBB h hl (fun q hq=>hn q (by simp [hq])) hargs
 have hcp:AV.relL S.P ⟨w,xK σ.m E D,dI [],E⟩ caps cs:=AV.relL_mono (C:=⟨w,D,σ.m,E⟩) (C':=⟨w,xK σ.m E D,dI [],E⟩) ⟨fun _ g=>.inl g,fun _ _=>rfl⟩ (fun nm hm=>by
  have:=List.isEmpty_iff.1 hg.2
  rw [this] at hm;cases hm) hcaps
 have hall:=AV.relL_append (aEQ (P:=S.P) (K:=K) (f:=f) (caps:=caps) ha) hcp
 have hD:∀ b,xK σ.m E D b→b < w.heap.size:=fun b hb=>by
  rcases hb with g | ⟨nm,blk,g1,g2,rfl⟩
  ·exact h.dlt b g
  ·exact (h.own nm blk g1 g2).2.1
 have hcall:=hK f _ _ cr hk (hn _ (by simp)) w (xK σ.m E D) E (us ++ cs) hD (rU.mono (C:=⟨w,D,σ.m,E⟩) ⟨fun _ g=>.inl g,fun _ _=>rfl⟩ h.gl) hall (Held.none _ _ _ _)
 have e:us.toArray ++ cs.toArray=(us ++ cs).toArray:=by simp
 refine ⟨f,us.toArray ++ cs.toArray,?_,?_⟩
 ·simp only [Deferred.ofValue,Sem.run_bind,Sem.run_pure,Result.andThen_ok,invoke,Array.empty_append]
  exact oK hg.1 w _
 ·rw [e]
  refine hcall.mono fun e w' he=>?_
  obtain ⟨v,D',E',rfl,hlf,hv⟩:=he
  have hb:Below w.heap.size w w':=⟨hlf.chg.os,hlf.chg.tape,hlf.chg.output,hlf.chg.size,fun k hk=>hlf.chg.block k hk fun ⟨nm,blk,g,_⟩=>(by cases g)⟩
  exact ⟨v,rfl,_,E,h.pureCall hb,aJ2 hv⟩
mutual
theorem aGq {m m':Nat→Option Blk}:∀ {x:AV},(∀ k ∈ x.names,m' k=m k)→aIE m' x=aIE m x
 | x,h=>by
  unfold aIE
  split
  ·rename_i nm n
   rw [h nm (by simp [AV.names])]
  ·rename_i cs
   rw [vO fun k hk=>h k (by simpa [AV.names] using hk)]
  ·rfl
theorem vO {m m':Nat→Option Blk}:∀ {xs:List AV},(∀ k ∈ AV.namesL xs,m' k=m k)→aDw m' xs=aDw m xs
 | [],_=>rfl
 | x :: xs,h=>by
  simp only [aDw]
  rw [aGq (x:=x) fun k hk=>h k (by simp [AV.namesL,hk]),vO (xs:=xs) fun k hk=>h k (by simp [AV.namesL,hk])]
end
def aIW (P:Program) (K:Kt) (nx:Nat) (m:Nat→Option Blk) (callee:AV) (args:List AV):Option Core:=match aCk P K nx m callee args with
 | some c=>some c
 | none=>match aCk P K nx m (oL callee) (aAB args) with
  | some c=>some c
  | none=>aID P K m callee args
theorem aOn {S:Base} {K:Kt} (hK:aQ S.P S.G K) {σ:Sig} {a:Act} {w:World} {D:Nat→Prop} {E:Nat→Ent} (h:aZ S σ a w D E) {nx:Nat} {callee:AV} {args:List AV} {c:Core} {u:Value} {us:List Value}
  (hc:aIW S.P K nx σ.m callee args=some c) (hn:∀ q ∈ c.need,q) (hunm:∀ k,c.new=some k→Unm k σ) (hcal:callee.rel S.P ⟨w,D,σ.m,E⟩ u) (hargs:AV.relL S.P ⟨w,D,σ.m,E⟩ args us) :
  ∃ f as,(do let d ← Deferred.ofValue u us.toArray;invoke d.target d.args).run S.P w=.ok (.enter f as) w ∧
   Calls S.P f as w fun e w''=>∃ v,e=.returned v∧Outcome S ⟨σ.T,upM σ.m c.upd,σ.sv⟩ a c.val v w'':=by
 unfold aIW at hc
 split at hc
 ·rename_i c1 h1
  cases hc
  exact aDV hK h h1 hn hunm hcal hargs
 ·split at hc
  ·rename_i c1 h1
   cases hc
   exact aDV hK h h1 hn hunm (AV.rel_forg hcal) (AV.relL_forg hargs)
  ·exact aNN hK h hc hn hcal hargs
def selC (P:Program) (K:Kt) (nx:Nat) (m:Nat→Option Blk) (args:List AV) (t:Ty):List AV→Option (List (List Prop×t.den))
 | []=>some []
 | c :: cs=>match aCk P K nx m c args,selC P K nx m args t cs with
  | some co,some r=>match co.upd,co.new,co.val.as t with
   | [],none,some x=>some ((co.need,x) :: r)
   | _,_,_=>none
  | _,_=>none
def aA2 {α:Type} (i:Nat):Nat→List (List Prop×α)→List Prop
 | _,[]=>[]
 | j,q :: r=>q.1.map (fun p=>i=j→p) ++ aA2 i (j + 1) r
def uS (P:Program) (K:Kt) (nx:Nat) (m:Nat→Option Blk) (f:AV) (args:List AV):Option Core:=match f with
 | .sel i cs=>match cs with
  | []=>none
  | c :: r=>match aCk P K nx m c args with
   | some co=>match co.val with
    | .dat t _=>match selC P K nx m args t (c :: r) with
     | some q=>some { need:=aA2 (D.nat i) 0 q,val:=.dat t (D.get (q.map (·.2)) (D.nat i) t.dflt) }
     | none=>none
    | _=>none
   | none=>none
 | f=>aIW P K nx m f args
theorem aJ0 {P:Program} {K:Kt} {nx:Nat} {m:Nat→Option Blk} {args:List AV} {t:Ty}:∀ {cs:List AV} {q:List (List Prop×t.den)},selC P K nx m args t cs=some q→∀ {j:Nat} {c:AV},cs[j]?=some c →
  ∃ co x,aCk P K nx m c args=some co∧co.upd=[]∧co.new=none∧co.val.as t=some x∧q[j]?=some (co.need,x)
 | [],_,_,j,c,h=>by simp at h
 | c' :: cs,q,hq,j,c,h=>by
  unfold selC at hq
  split at hq
  case h_2=>cases hq
  rename_i co r h1 h2
  split at hq
  case h_2=>cases hq
  rename_i x e1 e2 e3
  cases hq
  cases j with
  | zero =>
   simp only [List.getElem?_cons_zero,Option.some.injEq] at h
   subst h
   exact ⟨co,x,h1,e1,e2,e3,rfl⟩
  | succ j=>simpa using aJ0 h2 (by simpa using h)
theorem aCv {α:Type} {i:Nat}:∀ {q:List (List Prop×α)} {b j:Nat} {ns:List Prop} {x:α},(∀ p ∈ aA2 i b q,p)→q[j]?=some (ns,x)→i=b + j→∀ p ∈ ns,p
 | [],_,_,_,_,_,h,_=>by simp at h
 | y :: q,b,j,ns,x,hn,h,e=>by
  intro p hp
  cases j with
  | zero =>
   simp only [List.getElem?_cons_zero,Option.some.injEq] at h
   subst h
   exact hn (i=b→p) (by simp only [aA2,List.mem_append,List.mem_map];exact .inl ⟨p,hp,rfl⟩) (by omega)
  | succ j =>
   exact aCv (b:=b + 1) (fun p hp=>hn p (by simp only [aA2,List.mem_append];exact .inr hp)) (by simpa using h) (by omega) p hp
theorem aGL {S:Base} {K:Kt} (hK:aQ S.P S.G K) {σ:Sig} {a:Act} {w:World} {D:Nat→Prop} {E:Nat→Ent} (h:aZ S σ a w D E) {nx:Nat} {callee:AV} {args:List AV} {c:Core} {u:Value} {us:List Value}
  (hc:uS S.P K nx σ.m callee args=some c) (hn:∀ q ∈ c.need,q) (hunm:∀ k,c.new=some k→Unm k σ) (hcal:callee.rel S.P ⟨w,D,σ.m,E⟩ u) (hargs:AV.relL S.P ⟨w,D,σ.m,E⟩ args us) :
  ∃ f as,(do let d ← Deferred.ofValue u us.toArray;invoke d.target d.args).run S.P w=.ok (.enter f as) w ∧
   Calls S.P f as w fun e w''=>∃ v,e=.returned v∧Outcome S ⟨σ.T,upM σ.m c.upd,σ.sv⟩ a c.val v w'':=by
 unfold uS at hc
 split at hc
 ·rename_i i cs
  split at hc
  ·cases hc
  rename_i c0 r
  split at hc
  case h_2=>cases hc
  rename_i co0 _
  split at hc
  case h_2=>cases hc
  rename_i t _ _
  split at hc
  case h_2=>cases hc
  rename_i q hq
  cases hc
  obtain ⟨vs,g1,g2⟩:=hcal
  have hlt:i.toNat < (c0 :: r).length:=by rw [AV.relL_length g1];exact (List.getElem?_eq_some_iff.1 g2).1
  obtain ⟨co,x,k1,k2,k3,k4,k5⟩:=aJ0 hq (List.getElem?_eq_getElem hlt)
  obtain ⟨u',g3,g4⟩:=AV.relL_get g1 (List.getElem?_eq_getElem hlt)
  have eu:u'=u:=Option.some.inj (g3.symm.trans g2)
  subst eu
  have hneed:=aCv (b:=0) (i:=i.toNat) hn k5 (by omega)
  obtain ⟨f,as,h1,h2⟩:=aDV hK h k1 hneed (fun k hk=>by rw [k3] at hk;cases hk) g4 hargs
  refine ⟨f,as,h1,h2.mono fun e w' he=>?_⟩
  obtain ⟨v,rfl,D',E',p1,p2⟩:=he
  rw [k2] at p1 p2
  refine ⟨v,rfl,D',E',p1,?_⟩
  have hx:=AV.as_rel k4 p2
  have ev:(q.map (·.2)).getD i.toNat t.dflt=x:=by
   simp only [List.getD,List.getElem?_map,k5];rfl
  show aF _ _ t ((q.map (·.2)).getD i.toNat t.dflt) [v]
  rw [ev];exact hx
 ·exact aOn hK h hc hn hunm hcal hargs
def aQQ:RV→Option Core
 | (.ip t x,_)=>some { val:=.ip t x }
 | (.ptr nm g i c,some b)=>some { need:=[b.len=g],val:=.ptr nm g i c }
 | (.fn f caps,_)=>some { val:=.fn f caps }
 | (.ipv x,_)=>some { val:=.ipv x }
 | (.ips cs,_)=>some { val:=.ips cs }
 | (.ia t xs,_)=>some { val:=.ia t xs }
 | (.sel i cs,_)=>if cs.all aVr then some { val:=.sel i cs } else none
 | _=>none
def aDb:Operand→Operand→Bool
 | .tmp i,.tmp j=>i == j
 | .const (.int k x),.const (.int k' y)=>decide (k=k') && decide (x=y)
 | _,_=>false
def aDY (P:Program) (nx:Nat) (b:Builtin) (ts:Array TypeId) (vs:List RV):Option Core :=
 match b,vs with
 | .len,[x]=>match ts[0]? with
  | some t=>aVl P t x
  | none=>none
 | .append,[s,x]=>match ts.toList with
  | [t,t']=>if t=t' then match aGR P t s x with
   | some c=>some c
   | none=>aVz P nx t s x
   else none
  | _=>none
 | .copy,[d,s]=>match ts.toList with
  | [t,_]=>aRh P t d s
  | _=>none
 | .max,vs=>match (vs.map (·.1):List AV) with
  | .dat (.int k) x :: r=>match aRK true k x r with
   | some y=>some { val:=.dat (.int k) y }
   | none=>none
  | _=>none
 | .min,vs=>match (vs.map (·.1):List AV) with
  | .dat (.int k) x :: r=>match aRK false k x r with
   | some y=>some { val:=.dat (.int k) y }
   | none=>none
  | _=>none
 | _,_=>none
def opE (P:Program) (K:Kt) (mt:Bool) (nx:Nat) (m:Nat→Option Blk) (o:Op) (vs:List RV):Option Core :=
 match o,vs with
 | .move _,[x]=>some { val:=x.1 }
 | .assign _,[x]=>some { val:=x.1 }
 | .alloc e,[]=>match aB6 P nx e with
  | some c=>some c
  | none=>aLB P nx e
 | .build t parts,vs=>aLr P t (parts.toList.map (·.1)) vs
 | .box e _,[x]=>match zN P m mt e x.1 with
  | some c=>some c
  | none=>match aGP P mt nx e x with
   | some c=>some c
   | none=>aVx P mt nx e x
 | .buildSlice t len parts,vs=>match aGm P mt nx t len (parts.toList.map (·.1)) vs with
  | some c=>some c
  | none=>aVk P mt nx t len (parts.toList.map (·.1)) (vs.map (·.1))
 | .load t _,[p]=>match aDt P t p with
  | some c=>some c
  | none=>match aAJ P t p with
   | some c=>some c
   | none=>aNJ P t p
 | .store t _ _,[p,v]=>match aAX P t p v with
  | some c=>some c
  | none=>match aAY P t p v with
   | some c=>some c
   | none=>match aJV P t p v with
    | some c=>some c
    | none=>nY P m t p v
 | .nilCheck _,[p]=>aQQ p
 | .binOp op xT _ y _,[a,b]=>match aKU P op xT y a.1 b.1 with
  | some c=>some c
  | none=>match aLc P op xT a.1 b.1 with
   | some c=>some c
   | none=>match (if mt then aPq op a.1 b.1 else none) with
    | some c=>some c
    | none=>aVy P op xT a.1 b.1
 | .unOp op _ _,[a]=>unE op a.1
 | .convert s d _,[a]=>match aLp P s d a.1 with
  | some c=>some c
  | none=>aRi P s d a.1
 | .makeInterface t _,[x]=>aKE P t x.1
 | .typeAssert _ _ t ok,[x]=>aGQ P t ok x.1
 | .makeFunc (.func f) first _,vs=>if first.isEmpty then some { val:=.fn f (vs.map (·.1)) } else none
 | .makeSlice t l c,[a,b]=>if mt then aDs P t a.1 b.1 (aDb l c) else aQS P nx t a.1 b.1 (aDb l c)
 | .slice t _ none none none,[x]=>match aB4 P t x with
  | some c=>some c
  | none=>aCu P t x.1 none none
 | .slice t _ (some _) none none,[x,l]=>aCu P t x.1 (some l.1) none
 | .slice t _ none (some _) none,[x,h]=>aCu P t x.1 none (some h.1)
 | .slice t _ (some _) (some _) none,[x,l,h]=>aCu P t x.1 (some l.1) (some h.1)
 | .fieldAddr s _ f,[p]=>zD P s f p
 | .field t _ f,[x]=>aK7 P t f x.1
 | .indexAddr t _ _,[x,i]=>match aBJ P t x i.1 with
  | some c=>some c
  | none=>yZ P t x i.1
 | .index t _ _,[x,i]=>match aDA P t x.1 i.1 with
  | some c=>some c
  | none=>aKQ P t x.1 i.1
 | .extract _ i,[x]=>aDK i x.1
 | .call c,vs=>match c.callee,vs with
  | .builtin b,vs=>aDY P nx b c.argTypes vs
  | .value _,f :: args=>uS P K nx m f.1 (args.map (·.1))
  | _,_=>none
 | _,_=>none
theorem aDi {P:Program} {C:Ctx} {us:List Value} (h:AV.relL P C [] us):us=[]:=h
theorem kK {P:Program} {C:Ctx} {a:AV} {u:Value} (h:AV.relL P C [a] [u]):a.rel P C u:=by
 obtain ⟨_,_,e,g,_⟩:=h;cases e;exact g
theorem aBd {P:Program} {C:Ctx} {a b:AV} {u v:Value} (h:AV.relL P C [a,b] [u,v]):a.rel P C u∧b.rel P C v:=by
 obtain ⟨_,_,e,g,_,_,e2,g2,_⟩:=h;cases e;cases e2;exact ⟨g,g2⟩
theorem aTe {P:Program} {C:Ctx} {a b c:AV} {u v x:Value} (h:AV.relL P C [a,b,c] [u,v,x]):a.rel P C u∧b.rel P C v∧c.rel P C x:=by
 obtain ⟨_,_,e,g,_,_,e2,g2,_,_,e3,g3,_⟩:=h;cases e;cases e2;cases e3;exact ⟨g,g2,g3⟩
theorem Yields.value {S:Base} {σ:Sig} {a:Act} {x:AV} {s:Sem Value} {w:World} (h:∃ r w',s.run S.P w=.ok r w'∧Outcome S σ a x r w') :
  Yields S σ a x ((do pure (Next.value (← s)):Sem Next).run S.P w):=by
 obtain ⟨r,w',h1,h2⟩:=h
 exact .inl ⟨r,w',by simp [h1],h2⟩
theorem Yields.same {S:Base} {σ:Sig} {a:Act} {x:AV} {s:Sem Value} {w:World} {D:Nat→Prop} {E:Nat→Ent} (hs:aZ S σ a w D E) (h:∃ r,s.run S.P w=.ok r w∧x.rel S.P ⟨w,D,σ.m,E⟩ r) :
  Yields S σ a x ((do pure (Next.value (← s)):Sem Next).run S.P w):=by
 obtain ⟨r,h1,h2⟩:=h
 exact Yields.value ⟨r,w,h1,D,E,hs,h2⟩
theorem aCx {i j:Operand} (h:aDb i j=true) (a:Act):a.eval i=a.eval j:=by
 unfold aDb at h
 split at h
 ·simp only [beq_iff_eq] at h;subst h;rfl
 ·simp only [Bool.and_eq_true,decide_eq_true_eq] at h
  obtain ⟨rfl,rfl⟩:=h;rfl
 ·cases h
theorem toList_map {α β:Type} (xs:Array α) (f:α→β):xs.map f=(xs.toList.map f).toArray:=by
 apply Array.ext';simp
theorem aGO {S:Base} {σ:Sig} {a:Act} {w:World} {D:Nat→Prop} {E:Nat→Ent} (h:aZ S σ a w D E) {nx:Nat} {b:Builtin} {ts:Array TypeId} {ty:TypeId} {cs:Array Bool} {vs:List RV} {us:List Value} {c:Core}
  (hr:AV.relL S.P ⟨w,D,σ.m,E⟩ (vs.map (·.1)) us) (hres:∀ v ∈ vs,v.2=fD σ.m v.1) (hc:aDY S.P nx b ts vs=some c) (hn:∀ q ∈ c.need,q) (hu:∀ k,c.new=some k→Unm k σ) :
  Yields S ⟨σ.T,upM σ.m c.upd,σ.sv⟩ a c.val ((builtin b ts ty cs us.toArray).run S.P w):=by
 unfold aDY at hc
 split at hc
 ·rename_i x
  obtain ⟨u,us',e,g1,g2⟩:=hr
  have g2':=aDi g2
  subst g2' e
  split at hc
  ·rename_i t ht
   obtain ⟨r,h1,h2,h3,_⟩:=aQW (ty:=ty) h ht (hres x (by simp)) hc hn g1
   rw [h3]
   exact Yields.same h ⟨r,h1,h2⟩
  ·cases hc
 ·rename_i s x
  obtain ⟨u,us',e,g1,u2,us2,e2,g3,g4⟩:=hr
  have g4':=aDi g4
  subst g4' e2 e
  split at hc
  ·rename_i t t' hts
   split at hc
   ·rename_i ht
    subst ht
    have hts':ts=#[t,t]:=by apply Array.ext';exact hts
    subst hts'
    split at hc
    ·rename_i c' hc'
     cases hc
     exact Yields.value (aI6 h (hres s (by simp)) (hres x (by simp)) hc' hn g1 g3).2
    ·exact Yields.value (aRs h (hres s (by simp)) (hres x (by simp)) hc hn g1 g3 hu)
   ·cases hc
  ·cases hc
 ·rename_i d s
  obtain ⟨u,us',e,g1,u2,us2,e2,g3,g4⟩:=hr
  have g4':=aDi g4
  subst g4' e2 e
  split at hc
  ·rename_i t t' hts
   have hts':ts=#[t,t']:=by apply Array.ext';exact hts
   subst hts'
   exact Yields.value (aOb h (hres d (by simp)) (hres s (by simp)) hc hn g1 g3)
  ·cases hc
 ·split at hc
  ·rename_i k x r hvs
   split at hc
   ·rename_i y hy
    cases hc
    rw [hvs] at hr
    obtain ⟨u,us',e,g1,g2⟩:=hr
    subst e
    simp only [AV.rel,aF,List.cons.injEq,and_true] at g1
    subst g1
    have:=aDd (P:=S.P) (w:=w) true k r us' x y hy g2
    refine Yields.same h ⟨.int k y,?_,rfl⟩
    simp only [Builtin.max_]
    exact this
   ·cases hc
  ·cases hc
 ·split at hc
  ·rename_i k x r hvs
   split at hc
   ·rename_i y hy
    cases hc
    rw [hvs] at hr
    obtain ⟨u,us',e,g1,g2⟩:=hr
    subst e
    simp only [AV.rel,aF,List.cons.injEq,and_true] at g1
    subst g1
    have:=aDd (P:=S.P) (w:=w) false k r us' x y hy g2
    refine Yields.same h ⟨.int k y,?_,rfl⟩
    simp only [Builtin.min_]
    exact this
   ·cases hc
  ·cases hc
 ·cases hc
theorem aTh {S:Base} {K:Kt} (hK:aQ S.P S.G K) {σ:Sig} {a:Act} {w:World} {D:Nat→Prop} {E:Nat→Ent} (h:aZ S σ a w D E) {mt:Bool} {nx:Nat} {o:Oper} {vs:List RV} {c:Core}
  (hr:AV.relL S.P ⟨w,D,σ.m,E⟩ (vs.map (·.1)) (o.op.operands.toList.map a.eval)) (hres:∀ v ∈ vs,v.2=fD σ.m v.1)
  (hc:opE S.P K mt nx σ.m o.op vs=some c) (hn:∀ q ∈ c.need,q) (hu:∀ k,c.new=some k→Unm k σ∧∀ v ∈ vs,k ∉ v.1.names) :
  Yields S ⟨σ.T,upM σ.m c.upd,σ.sv⟩ a c.val ((execOp a.eval o).run S.P w):=by
 have hu1:∀ k,c.new=some k→Unm k σ:=fun k hk=>(hu k hk).1
 obtain ⟨dst,op,type,pos,after,guard⟩:=o
 simp only at hr hc
 unfold opE at hc
 split at hc
 ·rename_i x0 x
  cases hc
  exact .inl ⟨_,w,rfl,D,E,h,kK hr⟩
 ·rename_i x0 x
  cases hc
  exact .inl ⟨_,w,rfl,D,E,h,kK hr⟩
 ·split at hc
  ·rename_i c' hc'
   cases hc
   exact Yields.value (aFD h hc' hu1)
  ·exact Yields.value (aLA h hc hu1)
 ·rename_i t parts
  have hmap:(parts.map fun (i,x)=>(i,a.eval x))=((parts.toList.map (·.1)).zip (parts.toList.map fun p=>a.eval p.2)).toArray:=by
   apply Array.ext'
   simp only [Array.toList_map,List.zip_map']
  have hops:(Op.build t parts).operands.toList.map a.eval=parts.toList.map fun p=>a.eval p.2:=by
   simp [Op.operands]
  rw [hops] at hr
  obtain ⟨r,h1,h2,h3,_⟩:=aLq (w:=w) hc hn hres hr
  rw [h3]
  refine Yields.same h ⟨r,?_,h2⟩
  rw [hmap];exact h1
 ·rename_i e x0 x
  split at hc
  ·rename_i c' hc'
   cases hc
   exact Yields.value (aI0 h hc' (kK hr))
  split at hc
  ·rename_i c' hc'
   cases hc
   exact Yields.value (aI1 h hc' hn hu1 (kK hr))
  refine Yields.value (aRl h (hres x (by simp)) hc hn (fun k hk=>⟨hu1 k hk,fun hm=>?_⟩) (kK hr))
  have:=(hu k hk).2 x (by simp)
  apply this
  cases hx:x.1 <;> rw [hx] at hm <;> first | exact hm | simpa [fF,AV.namesL] using hm
 ·rename_i t len parts
  have hmap:(parts.map fun (i,x)=>(i,a.eval x))=((parts.toList.map (·.1)).zip (parts.toList.map fun p=>a.eval p.2)).toArray:=by
   apply Array.ext'
   simp only [Array.toList_map,List.zip_map']
  have hops:(Op.buildSlice t len parts).operands.toList.map a.eval=parts.toList.map fun p=>a.eval p.2:=by
   simp [Op.operands]
  rw [hops] at hr
  split at hc
  ·rename_i c' hc'
   cases hc
   obtain ⟨r,w',h1,h2⟩:=aIy h hres hc' hn hr hu1
   refine Yields.value ⟨r,w',?_,h2⟩
   rw [hmap];exact h1
  obtain ⟨_,r,w',h1,h2⟩:=aQT h hc hr hu1
  refine Yields.value ⟨r,w',?_,h2⟩
  rw [hmap];exact h1
 ·rename_i t x0 p
  split at hc
  ·rename_i c' hc'
   cases hc
   obtain ⟨r,h1,h2,h3,_⟩:=aGk h (hres p (by simp)) hc' hn (kK hr)
   rw [h3];exact Yields.same h ⟨r,h1,h2⟩
  split at hc
  ·rename_i c' hc'
   cases hc
   obtain ⟨r,h1,h2,h3,_⟩:=aBy h (hres p (by simp)) hc' hn (kK hr)
   rw [h3];exact Yields.same h ⟨r,h1,h2⟩
  obtain ⟨r,h1,h2,h3,_⟩:=aHq h (hres p (by simp)) hc hn (kK hr)
  rw [h3];exact Yields.same h ⟨r,h1,h2⟩
 ·rename_i t x0 y0 p v
  obtain ⟨g1,g2⟩:=aBd hr
  split at hc
  ·rename_i c' hc'
   cases hc
   obtain ⟨_,hval,w',h1,D',E',h2⟩:=aEe h (hres p (by simp)) (hres v (by simp)) hc' hn g1 g2
   refine .inr (.inl ⟨w',by simp [execOp,h1],D',E',h2,?_⟩)
   rw [hval];rfl
  split at hc
  ·rename_i c' hc'
   cases hc
   obtain ⟨_,hval,w',h1,D',E',h2⟩:=aEf h (hres p (by simp)) hc' hn g1 g2
   refine .inr (.inl ⟨w',by simp [execOp,h1],D',E',h2,?_⟩)
   rw [hval];rfl
  split at hc
  ·rename_i c' hc'
   cases hc
   obtain ⟨_,hval,w',h1,D',E',h2⟩:=aJU h (hres p (by simp)) (hres v (by simp)) hc' hn g1 g2
   refine .inr (.inl ⟨w',by simp [execOp,h1],D',E',h2,?_⟩)
   rw [hval];rfl
  obtain ⟨_,hval,w',h1,D',E',h2⟩:=aEd h (hres p (by simp)) hc hn g1 g2
  refine .inr (.inl ⟨w',by simp [execOp,h1],D',E',h2,?_⟩)
  rw [hval];rfl
 ·rename_i x0 p
  have hp:=kK hr
  unfold aQQ at hc
  split at hc
  ·cases hc
   obtain ⟨bl,off,us,e,g⟩:=hp
   refine .inl ⟨_,w,?_,D,E,h,⟨bl,off,us,rfl,g⟩⟩
   simp [execOp,e]
  ·rename_i nm g i c0 b
   cases hc
   have hm:σ.m nm=some b:=(hres _ (List.mem_singleton.2 rfl)).symm
   obtain ⟨_,_,e⟩:=(hp b hm).2 (hn _ (by simp))
   refine .inl ⟨_,w,?_,D,E,h,hp⟩
   simp [execOp,e]
  ·cases hc
   obtain ⟨us,e,g⟩:=hp
   refine .inl ⟨_,w,?_,D,E,h,⟨us,rfl,g⟩⟩
   simp [execOp,e]
  ·cases hc
   obtain ⟨bl,off,u,e,g⟩:=hp
   refine .inl ⟨_,w,?_,D,E,h,⟨bl,off,u,rfl,g⟩⟩
   simp [execOp,e]
  ·cases hc
   obtain ⟨bl,off,us,e,g⟩:=hp
   refine .inl ⟨_,w,?_,D,E,h,⟨bl,off,us,rfl,g⟩⟩
   simp [execOp,e]
  ·cases hc
   obtain ⟨bl,off,e,g⟩:=hp
   refine .inl ⟨_,w,?_,D,E,h,⟨bl,off,rfl,g⟩⟩
   simp [execOp,e]
  ·rename_i i cs _
   split at hc
   case isFalse=>cases hc
   rename_i hall
   cases hc
   obtain ⟨vs,g1,g2⟩:=hp
   have hlt:i.toNat < cs.length:=by rw [AV.relL_length g1];exact (List.getElem?_eq_some_iff.1 g2).1
   obtain ⟨u',g3,g4⟩:=AV.relL_get g1 (List.getElem?_eq_getElem hlt)
   have eu:=Option.some.inj (g3.symm.trans g2)
   have hf:=List.all_eq_true.1 hall _ (List.getElem_mem hlt)
   have:∃ f us,a.eval x0=.func (.func f) #[] us:=by
    rw [← eu]
    cases hq:cs[i.toNat] <;> rw [hq] at hf g4 <;> first | cases hf | skip
    obtain ⟨us,e,_⟩:=g4
    exact ⟨_,_,e⟩
   obtain ⟨f,us,e⟩:=this
   refine .inl ⟨_,w,?_,D,E,h,⟨vs,g1,g2⟩⟩
   simp [execOp,e]
  ·cases hc
 ·rename_i bop xT x0 y0 yT x y
  obtain ⟨g1,g2⟩:=aBd hr
  split at hc
  ·rename_i c' hc'
   cases hc
   obtain ⟨r,h1,h2,h3,_⟩:=aKT (w:=w) (x:=x0) (y:=y0) hc' g1 g2
   rw [h3];exact Yields.same h ⟨r,h1,h2⟩
  split at hc
  ·rename_i c' hc'
   cases hc
   obtain ⟨r,h1,h2,h3,_⟩:=aLb (w:=w) (x:=x0) (y:=y0) hc' g1 g2
   rw [h3];exact Yields.same h ⟨r,h1,h2⟩
  split at hc
  ·rename_i c' hc'
   cases hc
   split at hc'
   case isFalse=>cases hc'
   obtain ⟨r,h1,h2,h3⟩:=aKa (w:=w) (P:=S.P) (t:=xT) (x:=x0) (y:=y0) hc' g1 g2
   rw [h3];exact Yields.same h ⟨r,(by simpa [execOp] using h1),h2⟩
  obtain ⟨r,h1,h2,h3⟩:=aNm (w:=w) (x:=x0) (y:=y0) hc hn g1 g2
  rw [h3];exact Yields.same h ⟨r,h1,h2⟩
 ·rename_i uop t0 x0 x
  obtain ⟨r,h1,h2,h3⟩:=aQB (P:=S.P) (w:=w) hc hn (kK hr)
  rw [h3];exact Yields.same h ⟨r,h1,h2⟩
 ·rename_i s d x0 x
  split at hc
  ·rename_i c' hc'
   cases hc
   exact Yields.value (aLo h hc' (kK hr))
  obtain ⟨r,h1,h2,h3⟩:=aKc (w:=w) hc hn (kK hr)
  rw [h3];exact Yields.same h ⟨r,h1,h2⟩
 ·rename_i t x0 x
  obtain ⟨r,h1,h2,h3,_⟩:=aKD (w:=w) hc (kK hr)
  rw [h3];exact Yields.same h ⟨r,h1,h2⟩
 ·rename_i x0 xt t ok x
  obtain ⟨r,h1,h2,h3,_⟩:=aI4 (w:=w) (xt:=xt) hc (kK hr)
  rw [h3];exact Yields.same h ⟨r,h1,h2⟩
 ·rename_i f first caps
  split at hc
  ·rename_i hf
   cases hc
   have hf':first=#[]:=by simpa using hf
   subst hf'
   refine .inl ⟨.func (.func f) #[] (caps.map a.eval),w,?_,D,E,h,caps.toList.map a.eval,by rw [toList_map],?_⟩
   ·simp [execOp,Instr.makeFunc]
   ·have hr':AV.relL S.P ⟨w,D,σ.m,E⟩ (vs.map (·.1)) (caps.toList.map a.eval):=by simpa [Op.operands] using hr
    exact hr'
  ·cases hc
 ·rename_i t l c0 x y
  obtain ⟨g1,g2⟩:=aBd hr
  split at hc
  ·exact Yields.value (aGj h (fun hs=>aCx hs a) hc hn g1 g2)
  ·exact Yields.value (aNI h (fun hs=>aCx hs a) hc hn g1 g2 hu1)
 ·rename_i t x0 x
  split at hc
  ·rename_i c' hc'
   cases hc
   obtain ⟨r,h1,h2,h3,_⟩:=aFC h (hres x (by simp)) hc' hn (kK hr)
   rw [h3];exact Yields.same h ⟨r,h1,h2⟩
  ·obtain ⟨r,h1,h2,h3,_⟩:=wL (w:=w) (vl:=none) (vh:=none) hc hn (kK hr) trivial trivial
   rw [h3];exact Yields.same h ⟨r,h1,h2⟩
 ·rename_i t x0 l0 x l
  obtain ⟨g1,g2⟩:=aBd hr
  obtain ⟨r,h1,h2,h3,_⟩:=wL (w:=w) (vl:=some _) (vh:=none) hc hn g1 g2 trivial
  rw [h3];exact Yields.same h ⟨r,h1,h2⟩
 ·rename_i t x0 l0 x l
  obtain ⟨g1,g2⟩:=aBd hr
  obtain ⟨r,h1,h2,h3,_⟩:=wL (w:=w) (vl:=none) (vh:=some _) hc hn g1 trivial g2
  rw [h3];exact Yields.same h ⟨r,h1,h2⟩
 ·rename_i t x0 l0 h0 x l hh
  obtain ⟨g1,g2,g3⟩:=aTe hr
  obtain ⟨r,h1,h2,h3,_⟩:=wL (w:=w) (vl:=some _) (vh:=some _) hc hn g1 g2 g3
  rw [h3];exact Yields.same h ⟨r,h1,h2⟩
 ·rename_i s x0 f p
  obtain ⟨r,h1,h2,h3,_⟩:=aDI h (hres p (by simp)) hc hn (kK hr)
  rw [h3];exact Yields.same h ⟨r,h1,h2⟩
 ·rename_i t x0 f x
  obtain ⟨r,h1,h2,h3,_⟩:=aK6 (w:=w) hc (kK hr)
  rw [h3];exact Yields.same h ⟨r,h1,h2⟩
 ·rename_i t x0 i0 x i
  obtain ⟨g1,g2⟩:=aBd hr
  split at hc
  ·rename_i c' hc'
   cases hc
   obtain ⟨r,h1,h2,h3,_⟩:=aE5 h (hres x (by simp)) hc' hn g1 g2
   rw [h3];exact Yields.same h ⟨r,h1,h2⟩
  obtain ⟨r,h1,h2,h3,_⟩:=aDB h (hres x (by simp)) hc hn g1 g2
  rw [h3];exact Yields.same h ⟨r,h1,h2⟩
 ·rename_i t x0 i0 x i
  obtain ⟨g1,g2⟩:=aBd hr
  split at hc
  ·rename_i c' hc'
   cases hc
   obtain ⟨r,h1,h2,h3,_⟩:=aGv (w:=w) hc' hn g1 g2
   rw [h3];exact Yields.same h ⟨r,h1,h2⟩
  obtain ⟨r,h1,h2,h3,_⟩:=aKP (w:=w) hc hn g1 g2
  rw [h3];exact Yields.same h ⟨r,h1,h2⟩
 ·rename_i x0 i x
  obtain ⟨r,h1,h2,h3,_⟩:=aGD (P:=S.P) (w:=w) hc (kK hr)
  rw [h3];exact Yields.same h ⟨r,h1,h2⟩
 ·rename_i cl
  obtain ⟨callee,args,argTypes⟩:=cl
  simp only at hc
  split at hc
  ·rename_i b
   have hr':AV.relL S.P ⟨w,D,σ.m,E⟩ (vs.map (·.1)) (args.toList.map a.eval):=by simpa [Op.operands,Call.operands] using hr
   obtain ⟨cs,e⟩:∃ cs,execOp a.eval ⟨dst,.call { callee:=.builtin b,args:=args,argTypes:=argTypes },type,pos,after,guard⟩=builtin b argTypes type cs (args.map a.eval):=⟨_,by simp only [execOp,resolve,pure_bind,invoke];rfl⟩
   rw [e,toList_map args a.eval]
   exact aGO (ty:=type) h hr' hres hc hn hu1
  ·rename_i x0 f fs
   have hr':AV.relL S.P ⟨w,D,σ.m,E⟩ (f.1 :: fs.map (·.1)) (a.eval x0 :: args.toList.map a.eval):=by simpa [Op.operands,Call.operands] using hr
   obtain ⟨u,us',e,g1,g2⟩:=hr'
   simp only [List.cons.injEq] at e
   obtain ⟨rfl,rfl⟩:=e
   obtain ⟨f',as,h2,h3⟩:=aGL hK h hc hn hu1 g1 g2
   refine .inr (.inr ⟨f',as,w,?_,h3⟩)
   have e2:execOp a.eval ⟨dst,.call { callee:=.value x0,args:=args,argTypes:=argTypes },type,pos,after,guard⟩=(do let d ← Deferred.ofValue (a.eval x0) (args.toList.map a.eval).toArray;invoke d.target d.args):=by
    simp only [execOp,resolve,toList_map args a.eval]
   rw [e2];exact h2
  ·cases hc
 ·cases hc
theorem aBp {P:Program} {k:Nat}:∀ {ts:List TypeId} {as:List AV},k ∈ AV.namesL (aCf P ts as)→k ∈ AV.namesL as
 | [],_,h=>h
 | _ :: _,[],h=>h
 | t :: ts,a :: as,h=>by
  simp only [aCf,AV.namesL,List.mem_append] at h ⊢
  rcases h with h | h
  ·left
   unfold aNC at h
   split at h
   ·split at h
    ·simp [AV.names] at h
    ·exact h
   ·split at h
    ·split at h
     ·simp only [AV.names,qK] at h;cases h
     ·exact h
    ·exact h
   ·exact h
  ·exact .inr (aBp h)
theorem wZ:∀ (l k:List AV),AV.namesL (l ++ k)=AV.namesL l ++ AV.namesL k
 | [],_=>rfl
 | a :: l,k=>by simp [AV.namesL,wZ l k]
theorem aBw {m m':Nat→Option Blk}:∀ {l:List Nat},(∀ k ∈ l,m' k=m k)→iU m' l=iU m l
 | [],_=>rfl
 | k :: l,h=>by
  simp only [iU]
  rw [h k (by simp),aBw (fun x hx=>h x (by simp [hx]))]
theorem aCp {m m':Nat→Option Blk} {ns:List Nat} (h:∀ k ∈ ns,m' k=m k):∀ u:Mem,aMI m' ns u=aMI m ns u
 | []=>rfl
 | (k,b) :: r=>by
  simp only [aMI]
  rw [aCp h r]
  by_cases hk:k ∈ ns
  ·rw [h k hk]
  ·have hc:ns.contains k=false:=by simpa using hk
   cases m' k <;> cases m k <;> cases aMI m ns r <;> simp [hk]
theorem aGa {P:Program} {K:Kt} {f:FuncId} {caps:List AV} {k:Nat} {as:List AV} (h:k ∈ AV.namesL (kL P K f as caps)):k ∈ AV.namesL as:=by
 unfold kL at h
 split at h
 ·exact h
 ·exact aBp h
theorem qL {P:Program} {K:Kt} {nx:Nat} {m m':Nat→Option Blk} {f:AV} {args:List AV} (h:∀ k,k ∈ fH m f.names∨k ∈ fH m (AV.namesL args)→m' k=m k):aCk P K nx m' f args=aCk P K nx m f args:=by
 unfold aCk
 split
 ·rename_i f caps
  have up:∀ k ∈ AV.namesL (kL P K f args caps ++ caps),k ∈ AV.namesL args∨k ∈ (AV.fn f caps).names:=fun k hk=>by
   rw [wZ,List.mem_append] at hk
   rcases hk with hk | hk
   ·exact .inl (aGa hk)
   ·exact .inr (by simpa [AV.names] using hk)
  have h2:∀ k ∈ fH m (AV.namesL (kL P K f args caps ++ caps)),m' k=m k:=fun k hk=>by
   rcases yB hk with g | ⟨j,hj,b,hb,hkb⟩
   ·rcases up k g with g | g
    ·exact h k (.inr (iF g))
    ·exact h k (.inl (iF g))
   ·rcases up j hj with g | g
    ·exact h k (.inr (aAO g hb hkb))
    ·exact h k (.inl (aAO g hb hkb))
  rw [aB0 (m:=m) (m':=m') (l:=AV.namesL (kL P K f args caps ++ caps)) fun k hk=>h2 k (iF hk)]
  have e1:((fH m (AV.namesL (kL P K f args caps ++ caps))).all fun k=>match m' k with | some b=>rZ (fH m (AV.namesL (kL P K f args caps ++ caps))) b | none=>true) =
    ((fH m (AV.namesL (kL P K f args caps ++ caps))).all fun k=>match m k with | some b=>rZ (fH m (AV.namesL (kL P K f args caps ++ caps))) b | none=>true):=by
   have:∀ (l:List Nat),(∀ k ∈ l,m' k=m k)→(l.all fun k=>match m' k with | some b=>rZ (fH m (AV.namesL (kL P K f args caps ++ caps))) b | none=>true) =
     (l.all fun k=>match m k with | some b=>rZ (fH m (AV.namesL (kL P K f args caps ++ caps))) b | none=>true):=by
    intro l
    induction l with
    | nil=>intro _;rfl
    | cons x l ih =>
     intro hl
     simp only [List.all_cons]
     rw [hl x (by simp),ih (fun k hk=>hl k (by simp [hk]))]
   exact this _ h2
  rw [e1,aBw h2]
  simp only [aCp h2]
 ·rfl
 ·rfl
 ·rfl
theorem aGM {P:Program} {K:Kt} {nx:Nat} {m m':Nat→Option Blk} {f:AV} {args:List AV} (h:∀ k,k ∈ fH m f.names∨k ∈ fH m (AV.namesL args)→m' k=m k):aIW P K nx m' f args=aIW P K nx m f args:=by
 have h3:aID P K m' f args=aID P K m f args:=by
  unfold aID
  rw [vO fun k hk=>h k (.inr (iF hk))]
 unfold aIW
 rw [qL h,qL (f:=oL f) (args:=aAB args) (m:=m) (m':=m') (fun k hk=>by
  rw [jT,iY] at hk
  rcases hk with hk | hk <;> (rcases yB hk with g | ⟨_,g,_⟩ <;> cases g)),h3]
theorem aCj {P:Program} {K:Kt} {nx:Nat} {m m':Nat→Option Blk} {f:AV} {args:List AV} (h:∀ k,k ∈ fH m f.names∨k ∈ fH m (AV.namesL args)→m' k=m k):uS P K nx m' f args=uS P K nx m f args:=by
 have sel:∀ {t:Ty} {cs:List AV},(∀ k,k ∈ fH m (AV.namesL cs)∨k ∈ fH m (AV.namesL args)→m' k=m k)→selC P K nx m' args t cs=selC P K nx m args t cs:=by
  intro t cs
  induction cs with
  | nil=>intro _;rfl
  | cons c cs ih =>
   intro h
   simp only [selC]
   rw [qL (m:=m) (m':=m') fun k hk=>h k (hk.imp (yA fun j hj=>by simp [AV.namesL,hj]) id),ih fun k hk=>h k (hk.imp (yA fun j hj=>by simp [AV.namesL,hj]) id)]
 unfold uS
 split
 ·rename_i i cs
  split
  ·rfl
  rename_i c r
  have hcs:∀ k,k ∈ fH m (AV.namesL (c :: r))∨k ∈ fH m (AV.namesL args)→m' k=m k:=fun k hk=>h k (hk.imp (yA fun j hj=>by simpa [AV.names] using hj) id)
  rw [qL (m:=m) (m':=m') fun k hk=>hcs k (hk.imp (yA fun j hj=>by simp [AV.namesL,hj]) id)]
  split
  ·split
   ·rw [sel hcs]
   ·rfl
  ·rfl
 ·exact aGM h
def aPd:Op→Bool
 | .call _=>true
 | .store _ _ _=>true
 | .box _ _=>true
 | _=>false
theorem aKu {P:Program} {K:Kt} {mt:Bool} {nx:Nat} {m m':Nat→Option Blk} {o:Op} {vs:List RV} (h:aPd o=true→∀ v ∈ vs,∀ k ∈ fH m v.1.names,m' k=m k):opE P K mt nx m' o vs=opE P K mt nx m o vs:=by
 have hl:∀ {l:List RV} {k:Nat},k ∈ AV.namesL (l.map (·.1))→∃ v ∈ l,k ∈ v.1.names:=by
  intro l k
  induction l with
  | nil=>intro h;simp [AV.namesL] at h
  | cons x l ih =>
   intro h
   simp only [List.map_cons,AV.namesL,List.mem_append] at h
   rcases h with h | h
   ·exact ⟨x,by simp,h⟩
   ·obtain ⟨v,h1,h2⟩:=ih h
    exact ⟨v,by simp [h1],h2⟩
 unfold opE
 split <;> first | rfl | skip
 ·rw [aDZ (m:=m) (m':=m') fun k hk=>h rfl _ (by simp) k (iF hk)]
 ·rw [aAW (m:=m) (m':=m') fun k hk=>h rfl _ (by simp) k (iF hk)]
 split <;> first | rfl | skip
 refine aCj fun k hk=>?_
 rcases hk with hk | hk
 ·exact h rfl _ (by simp) k hk
 ·rcases yB hk with g | ⟨j,hj,b,hb,hkb⟩
  ·obtain ⟨v,h1,h2⟩:=hl g
   exact h rfl v (by simp [h1]) k (iF h2)
  ·obtain ⟨v,h1,h2⟩:=hl hj
   exact h rfl v (by simp [h1]) k (aAO h2 hb hkb)
end Go.Eng
