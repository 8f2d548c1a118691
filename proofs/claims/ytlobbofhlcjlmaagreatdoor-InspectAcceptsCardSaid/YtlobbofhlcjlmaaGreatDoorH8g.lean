/- PeH8f, PeH8g -/
import Derived.Test.YtlobbofhlcjlmaaGreatDoorH8e
set_option linter.unusedSimpArgs false
set_option linter.unusedVariables false
/- The engine, part 8f: a row of one's own is appended to a matrix of one's own. -/
namespace Go.Eng
open Go.RowKit
def aGm (P:Program) (mt:Bool) (nx:Nat) (t:TypeId) (len:Nat) (idxs:List Nat) (vs:List RV):Option Core:=match gZ P t,vs with
 | some e,[(.buf nm2 n2,some b2)]=>match aJa P e,aEL (.buf nm2 n2,some b2) with
  | some (.sl ty'),some ns=>if mt=true∧len=1∧idxs=[0]∧aNK P e=true then some { need:=ns,val:=.buf nx 1,upd:=[(nx,.buf e (.sl ty') [([]:List ty'.den)] [(0,.buf nm2 n2)])],new:=some nx } else none
  | _,_=>none
 | _,_=>none
theorem aIy {S:Base} {σ:Sig} {a:Act} {w:World} {D:Nat→Prop} {E:Nat→Ent} (h:aZ S σ a w D E) {mt:Bool} {nx len:Nat} {t:TypeId} {idxs:List Nat} {vs:List RV} {vals:List Value} {c:Core}
  (hb:∀ v ∈ vs,v.2=fD σ.m v.1) (hc:aGm S.P mt nx t len idxs vs=some c) (hn:∀ q ∈ c.need,q) (hr:AV.relL S.P ⟨w,D,σ.m,E⟩ (vs.map (·.1)) vals) (hu:∀ k,c.new=some k→Unm k σ) :
  ∃ r w',(Instr.buildSlice t len (idxs.zip vals).toArray).run S.P w=.ok r w'∧Outcome S ⟨σ.T,upM σ.m c.upd,σ.sv⟩ a c.val r w':=by
 unfold aGm at hc
 split at hc
 case h_2=>cases hc
 rename_i e nm2 n2 b2 he
 split at hc
 case h_2=>cases hc
 rename_i ty' ns hty hone
 split at hc
 case isFalse=>cases hc
 rename_i hcond
 obtain ⟨_,h2,h3,h4⟩:=hcond
 cases hc
 subst h2 h3
 obtain ⟨u,us0,rfl,hv,h0⟩:=hr
 simp only [List.map_nil,AV.relL] at h0
 subst h0
 have hbv:(some b2:Option Blk)=fD σ.m (.buf nm2 n2):=hb _ (List.mem_cons_self)
 have hm2:σ.m nm2=some b2:=hbv.symm
 obtain ⟨us,g1,g2,g3⟩:=uF (C:=⟨w,D,σ.m,E⟩) hbv hone hn hv
 obtain ⟨z,us',e1,z2,q2⟩:=g2
 simp only [AV.relL] at q2
 subst q2 e1
 have z3:=g3 z (by simp)
 have hsz:=aD8 hty
 have hrun:=aKb (w:=w) (ty:=.sl ty') (vals:=[u]) (uss:=[[z]]) he hsz h4 (by show 1 * 1≤16777216;omega) rfl (fun i v us hv' hus=>by
  cases i with
  | zero=>cases hv';cases hus;exact ⟨g1,rfl⟩
  | succ i=>simp at hv')
 have hnx:=(hu nx rfl)
 have hne:nm2≠nx:=fun ek=>by
  have:=hnx.1
  rw [← ek,hm2] at this;cases this
 refine ⟨_,_,hrun,?_⟩
 have hown:(w.alloc (.cells [[z]].flatten.toArray e)).ownsRow 0 e 1 (.slice (some ⟨w.heap.size,0,none⟩) 1 1) 1 [z]:=by
  have:=World.ownsRow_lit (base:=0) (e:=e) (size:=1) w [z].toArray 1 (Nat.zero_le _) (by unfold maxLen;omega) (by simp)
  simpa using this
 have e3:upE E nx (⟨w.heap.size,1,false,noR⟩:Ent) nx=⟨w.heap.size,1,false,noR⟩:=by simp [upE]
 refine ⟨D,upE E nx ⟨w.heap.size,1,false,noR⟩,h.newBlk hnx (qP w _) (fun _=>⟨rfl,by rw [World.size_alloc];omega⟩) ⟨[z],hown,?_⟩,fun b hb'=>?_⟩
 ·intro i y hy
  cases i with
  | succ i=>simp at hy
  | zero =>
   simp only [List.lookup,beq_self_eq_true]
   refine ⟨rfl,z,rfl,z3,AV.rel_mono (C:=⟨w,D,σ.m,E⟩) (C':=⟨w.alloc (.cells [[z]].flatten.toArray e),D,upM σ.m [(nx,.buf e (.sl ty') [([]:List ty'.den)] [(0,.buf nm2 n2)])],upE E nx ⟨w.heap.size,1,false,noR⟩⟩) ⟨fun b hb=>hb,fun b hb=>heap_alloc_old w _ b (h.dlt b hb)⟩ (fun k hk=>?_) z2⟩
   have ek:k=nm2:=by simpa [AV.names] using hk
   subst ek
   intro b' hb''
   replace hb'':upM σ.m [(nx,.buf e (.sl ty') [([]:List ty'.den)] [(0,.buf k n2)])] k=some b':=hb''
   rw [gB,if_neg hne] at hb''
   exact ⟨b',hb'',rfl,Nat.le_refl _,fun _=>by show upE E nx _ k=E k;simp [upE,hne]⟩
 ·replace hb':upM σ.m [(nx,.buf e (.sl ty') [([]:List ty'.den)] [(0,.buf nm2 n2)])] nx=some b:=hb'
  rw [gB,if_pos rfl] at hb'
  cases hb'
  refine ⟨Nat.le_refl _,fun _=>?_⟩
  show _=(upE E nx _ nx).handle _
  rw [e3];rfl
def aGR (P:Program) (t:TypeId) (s x:RV):Option Core:=match gZ P t,s,x with
 | some e',(.buf nm n,some (.mat el eli e xss [])),(.buf _ 1,some (.buf el3 (.sl e2) [_] [(0,v)]))=>if el=e' then match aAS P el (.sl e) with
  | some bytes=>some { need:=[D.len xss=n] ++ qO (D.fE n 1) bytes,val:=.buf nm (D.fE n 1),upd:=[(nm,.mat el eli e (D.app (α:=List e.den) xss [[]]) [(D.len xss,v)])] }
  | none=>none
  else none
 | _,_,_=>none
theorem aI6 {S:Base} {σ:Sig} {a:Act} {w:World} {D:Nat→Prop} {E:Nat→Ent} (h:aZ S σ a w D E) {t oty:TypeId} {s x:RV} {c:Core} {vs vx:Value}
  (hbs:s.2=fD σ.m s.1) (hbx:x.2=fD σ.m x.1) (hc:aGR S.P t s x=some c) (hn:∀ q ∈ c.need,q)
  (hs:s.1.rel S.P ⟨w,D,σ.m,E⟩ vs) (hx:x.1.rel S.P ⟨w,D,σ.m,E⟩ vx) :
  c.new=none∧∃ r w',(Builtin.append_ #[t,t] oty #[vs,vx]).run S.P w=.ok r w'∧Outcome S ⟨σ.T,upM σ.m c.upd,σ.sv⟩ a c.val r w':=by
 unfold aGR at hc
 split at hc
 case h_2=>cases hc
 rename_i el' nm n el eli e xss nm3 el3 e2 r0 v he
 split at hc
 case isFalse=>cases hc
 rename_i hel
 subst hel
 split at hc
 case h_2=>cases hc
 rename_i bytes hz
 cases hc
 have hue:=eH he
 obtain ⟨i,z,hi,hz1,hz2,hz3,hz4⟩:=lY hz
 have hzs:z.cells.size=(Ty.sl e).sz:=by rw [← Array.length_toList,hz4,bJ]
 have hm:σ.m nm=some (.mat el eli e xss []):=hbs.symm
 have hm3:σ.m nm3=some (.buf el3 (.sl e2) [r0] [(0,v)]):=hbx.symm
 have hlen:xss.length=n:=hn _ (by simp)
 have hb1:(n + 1) * bytes≤140737488355328:=hn _ (by simp only [qO,List.mem_append];exact .inr (.head _))
 have hb2:n + 1≤9223372036854775807:=hn _ (by simp only [qO,List.mem_append];exact .inr (.tail _ (.head _)))
 have hv:=(hs _ hm).2 hlen
 have hvx:=(hx _ hm3).2 rfl
 obtain ⟨hz0,raw,r1,r2⟩:=h.bl nm _ hm
 rw [hlen] at r1
 -- the literal's one cell
 obtain ⟨raw3,t1,t2⟩:=h.bl nm3 _ hm3
 obtain ⟨_,u,u1,u2,u3⟩:(Ty.sl e2).sz=1∧∃ u,raw3[0]?=some u∧u.oneCell'=true∧v.rel S.P ⟨w,D,σ.m,E⟩ u:=by
  have:=t2 0 r0 rfl
  simpa only [List.lookup,beq_self_eq_true] using this
 have hl3:raw3.length=1:=t1.1
 have hraw3:raw3=[u]:=by
  cases raw3 with
  | nil=>simp at hl3
  | cons y l =>
   cases l with
   | nil=>simp at u1;rw [u1]
   | cons y2 l=>simp at hl3
 subst hraw3
 have hnil3:(E nm3).isNil=false:=by
  cases hq:(E nm3).isNil with
  | false=>rfl
  | true =>
   have e3:(E nm3).handle ([r0]:List (Ty.sl e2).den).length=.slice none 0 0:=by unfold Ent.handle;rw [hq];rfl
   rw [e3] at t1
   rcases t1.2 with ⟨_,hz⟩ | ⟨g,cap,cur,hq,_⟩
   ·simp at hz
   ·cases hq
 have e30:(E nm3).handle ([r0]:List (Ty.sl e2).den).length=.slice (some ⟨(E nm3).b,0,none⟩) 1 (E nm3).cap:=by unfold Ent.handle;rw [hnil3];rfl
 have hvx2:vx=.slice (some ⟨(E nm3).b,0,none⟩) 1 (E nm3).cap:=by
  have:vx=(E nm3).handle ([r0]:List (Ty.sl e2).den).length:=hvx
  rw [this,e30]
 rw [e30] at t1
 have n2:=t1.cells rfl
 have n1:([u]:List Value).length=1 * (Ty.sl e).sz:=rfl
 have n3:∀ q ∈ ([u]:List Value),q.oneCell'=true:=fun q hq=>by rw [List.mem_singleton.1 hq];exact u2
 subst hvx2
 -- the end, wherever the outer block lies
 have fin:∀ (w':World) (v':Value) (bb cc:Nat),v'=.slice (some ⟨bb,0,none⟩) (n + 1) cc→w'.os=w.os→w'.tape=w.tape→w'.output=w.output→w.heap.size≤w'.heap.size →
   (∀ k,k < w.heap.size→((E nm).isNil=false→k≠(E nm).b)→w'.heap[k]?=w.heap[k]?) →
   ((bb=w.heap.size∧w.heap.size < w'.heap.size)∨((E nm).isNil=false∧bb=(E nm).b))→w'.ownsRow 0 el 1 v' (n + 1) (raw ++ [u]) →
   Outcome S ⟨σ.T,upM σ.m [(nm,.mat el eli e (xss ++ [[]]) [(xss.length,v)])],σ.sv⟩ a (.buf nm (n + 1)) v' w':=by
  intro w' v' bb cc hv' ho ht2 hout hsz hw hee hown
  have hl2:(xss ++ [([]:List e.den)]).length=n + 1:=by rw [List.length_append,hlen];rfl
  have hle:(Blk.mat el eli e xss []).len≤(Blk.mat el eli e (xss ++ [[]]) [(xss.length,v)]).len:=by simp only [Blk.len,List.length_append];omega
  have hsame:(Blk.mat el eli e xss []).len=(Blk.mat el eli e (xss ++ [[]]) [(xss.length,v)]).len→(⟨bb,cc,false,(E nm).rb⟩:Ent)=E nm:=fun h0=>by
   simp only [Blk.len,List.length_append,List.length_singleton] at h0;omega
  obtain ⟨L,N⟩:=h.turnLater (w':=w') (b:=.mat el eli e (xss ++ [[]]) [(xss.length,v)]) hm (e:=⟨bb,cc,false,(E nm).rb⟩) rfl hle hsame hw
  refine ⟨D,upE E nm ⟨bb,cc,false,(E nm).rb⟩,h.turnBlk hm (e:=⟨bb,cc,false,(E nm).rb⟩) rfl hle hsame ho ht2 hout hsz hw (fun _=>hee) ⟨hz0,raw ++ [u],by rw [hl2];rw [hv'] at hown;exact hown,fun k row hk=>?_⟩ (fun j k hr=>?_),fun b hb=>?_⟩
  ·have hk1:k < xss.length + 1:=by have:=(List.getElem?_eq_some_iff.1 hk).1;rw [List.length_append] at this;exact this
   have hrl:raw.length=xss.length:=by have:=r1.1;rw [Nat.mul_one] at this;omega
   by_cases hke:k=xss.length
   ·subst hke
    refine ⟨u,by rw [List.getElem?_append_right (by omega),hrl];simp,?_⟩
    simp only [List.lookup,beq_self_eq_true]
    exact ⟨u2,AV.rel_mono L (fun k _=>N k) u3⟩
   ·have hklt:k < xss.length:=by omega
    rw [List.getElem?_append_left hklt] at hk
    obtain ⟨y,g1,g2⟩:=r2 k row hk
    simp only [List.lookup] at g2
    have hkb:(k == xss.length)=false:=by simpa using hke
    refine ⟨y,by rw [List.getElem?_append_left (by omega)];exact g1,?_⟩
    simp only [List.lookup,hkb]
    obtain ⟨ao,cap,r3,k1,k0,k2⟩:=g2
    refine ⟨ao,cap,r3,k1,k0,fun hpr=>?_⟩
    obtain ⟨k3,k4,k5⟩:=k2 hpr
    have hat:dY σ.m E nm k ((E nm).rb k).1:=⟨el,eli,e,xss,[],row,hm,rfl,hk,hpr,rfl⟩
    refine ⟨k3,jW (fun g' n' c hh=>?_) k4,bT (C:=⟨w,D,σ.m,E⟩) L (fun nm h=>by cases h) k5⟩
    rw [k1,k3] at hh
    simp at hh
    rw [← hh.1]
    exact hw _ (h.pv.own _ _ _ hat).2.1 fun hi' ek=>h.pv.ent nm k _ hat nm _ hm hi' ek.symm
  ·obtain ⟨el2,eli2,t2',xs2,ov2,row2,hx2,s1,s2,s3,s4⟩:=hr
   cases hx2
   have hj:j≠xss.length:=fun ej=>by subst ej;simp [List.lookup] at s1
   have hjl:j < xss.length:=by
    have:=(List.getElem?_eq_some_iff.1 s2).1
    rw [List.length_append,List.length_singleton] at this;omega
   rw [List.getElem?_append_left hjl] at s2
   exact ⟨el,eli,e,xss,[],row2,rfl,rfl,s2,s3,s4⟩
  ·replace hb:upM σ.m [(nm,.mat el eli e (xss ++ [[]]) [(xss.length,v)])] nm=some b:=hb
   rw [gB,if_pos rfl] at hb
   cases hb
   refine ⟨by simp only [Blk.len];omega,fun _=>?_⟩
   have:upE E nm (⟨bb,cc,false,(E nm).rb⟩:Ent) nm=⟨bb,cc,false,(E nm).rb⟩:=by simp [upE]
   show v'=(upE E nm _ nm).handle _
   rw [this,hv'];rfl
 have h63:n + 1≤maxLen:=by unfold maxLen;omega
 refine ⟨rfl,?_⟩
 obtain ⟨v',w',q1,q2,q3,_⟩:=run_append_own (P:=S.P) w 0 t oty el i z (Ty.sl e).sz bytes hue hi hz1 hz2 hz3 hzs (Ty.sz_pos _) _ n raw r1 ⟨(E nm3).b,0,none⟩ 1 (E nm3).cap [u] n1 n2 n3 h63 hb1 (Nat.zero_le _)
 cases hnil:(E nm).isNil with
 | true =>
  have e3:(E nm).handle n=.slice none 0 0:=by unfold Ent.handle;rw [hnil];rfl
  have hn0:n=0:=by
   rw [e3] at r1
   rcases r1.2 with ⟨_,hz⟩ | ⟨g,cap,cur,hq,_⟩
   ·exact hz
   ·cases hq
  subst hn0
  have hr:=run_append_nil (P:=S.P) w t oty el i z hue hi hz1 ⟨(E nm3).b,0,none⟩ 1 (E nm3).cap [u] (by rw [hz2];exact n1) n2 (by omega) (by omega) (by rw [hz3];rw [Nat.zero_add] at hb1;omega)
  rw [e3] at q1 q3
  rw [hr] at q1
  cases q1
  refine ⟨_,_,by rw [hv,e3];exact hr,fin _ _ _ _ rfl q3.os q3.tape q3.output q3.size
   (fun k hk _=>q3.block k hk (by simp [Value.ownBlock])) (.inl ⟨rfl,by rw [World.size_alloc];simp⟩) q2⟩
 | false =>
  have e3:(E nm).handle n=.slice (some ⟨(E nm).b,0,none⟩) n (E nm).cap:=by unfold Ent.handle;rw [hnil];rfl
  rw [e3] at r1 q1 q3
  have hblk:∀ k,k < w.heap.size→((E nm).isNil=false→k≠(E nm).b)→w'.heap[k]?=w.heap[k]?:=fun k hk hne=>q3.block k hk (by simp [Value.ownBlock];exact hne hnil)
  by_cases hroom:n + 1≤(E nm).cap
  ·obtain ⟨w2,p1,p2,p3⟩:=run_append_fits (P:=S.P) w 0 t oty el i (Ty.sl e).sz hue hi hz2 (E nm).b n (E nm).cap raw r1 ⟨(E nm3).b,0,none⟩ 1 (E nm3).cap [u] n1 n2 n3 hroom
   rw [p1] at q1
   cases q1
   exact ⟨_,_,by rw [hv,e3];exact p1,fin _ _ _ _ rfl q3.os q3.tape q3.output q3.size hblk (.inr ⟨hnil,rfl⟩) q2⟩
  ·have hr:=run_append_grow (P:=S.P) w t oty el i z hue hi hz1 ⟨(E nm).b,0,none⟩ n (E nm).cap raw (by rw [hz2];exact r1.1) (r1.cells rfl) ⟨(E nm3).b,0,none⟩ 1 (E nm3).cap [u] (by rw [hz2];exact n1) n2 (by omega) (by omega)
    (growslice_fits (by omega) (by rw [hz3];exact hb1))
   rw [hr] at q1
   cases q1
   refine ⟨_,_,by rw [hv,e3];exact hr,fin _ _ _ _ rfl q3.os q3.tape q3.output q3.size hblk
    (.inl ⟨rfl,by rw [World.size_alloc];simp⟩) q2⟩
end Go.Eng

/- The engine, part 8g: values in interfaces. -/
namespace Go.Eng
open Go.RowKit
def aBI (P:Program) (t:TypeId):Option Bool:=match P.underlying t with
 | some (.interface _)=>some true
 | some _=>some false
 | none=>none
def aKE (P:Program) (t:TypeId) (x:AV):Option Core:=match aBI P t with
 | some false=>some { val:=.ifc t x }
 | _=>none
def aGQ (P:Program) (asserted:TypeId) (ok:Bool) (x:AV):Option Core:=match aBI P asserted,ok,x with
 | some false,true,.ifc t a=>if t=asserted then some { val:=.tup [a,.dat .bool true] } else none
 | _,_,_=>none
def aNS:Operand→Bool
 | .const _=>true
 | _=>false
def aBM:AV→AV→Option Bool
 | .ifc _ _,.val u=>match u with | .nilIface=>some false | _=>none
 | .val u,.val v=>match u,v with | .nilIface,.nilIface=>some true | _,_=>none
 | _,_=>none
def aKU (P:Program) (op:BinOp) (t:TypeId) (y:Operand) (a b:AV):Option Core:=match aBI P t,aNS y,aBM a b with
 | some true,true,some r=>match op with
  | .eql=>some { val:=.dat .bool r }
  | .neq=>some { val:=.dat .bool (D.not r) }
  | _=>none
 | _,_,_=>none
theorem aAk {P:Program} {t:TypeId} (h:aBI P t=some false):∃ d,P.underlying t=some d∧∀ ms,d≠.interface ms:=by
 unfold aBI at h
 cases hu:P.underlying t with
 | none=>rw [hu] at h;cases h
 | some d =>
  rw [hu] at h
  exact ⟨d,rfl,fun ms e=>by subst e;cases h⟩
theorem aGt {P:Program} {t:TypeId} (h:aBI P t=some true):∃ ms,P.underlying t=some (.interface ms):=by
 unfold aBI at h
 split at h
 ·rename_i ms hu;exact ⟨ms,hu⟩
 ·cases h
 ·cases h
theorem aKD {P:Program} {C:Ctx} {w:World} {t:TypeId} {x:AV} {c:Core} {v:Value} (h:aKE P t x=some c) (hx:x.rel P C v) :
  ∃ r,(Instr.makeInterface t v).run P w=.ok r w∧c.val.rel P C r∧c.upd=[]∧c.new=none:=by
 unfold aKE at h
 split at h
 ·rename_i ht
  cases h
  obtain ⟨d,hu,hd⟩:=aAk ht
  refine ⟨.iface t v,?_,⟨v,rfl,hx⟩,rfl,rfl⟩
  unfold Instr.makeInterface
  rw [Sem.run_bind,run_underlying hu]
  simp only [Result.andThen_ok]
  cases d <;> first | exact (hd _ rfl).elim | rfl
 ·cases h
theorem aI4 {P:Program} {C:Ctx} {w:World} {xt t:TypeId} {ok:Bool} {x:AV} {c:Core} {v:Value} (h:aGQ P t ok x=some c) (hx:x.rel P C v) :
  ∃ r,(Instr.typeAssert v xt t ok).run P w=.ok r w∧c.val.rel P C r∧c.upd=[]∧c.new=none:=by
 unfold aGQ at h
 split at h
 ·rename_i t' a ht
  split at h
  ·rename_i e
   subst e
   cases h
   obtain ⟨d,hu,hd⟩:=aAk ht
   obtain ⟨u,rfl,hx⟩:=hx
   refine ⟨.tuple #[u,.bool true],?_,⟨[u,.bool true],rfl,_,_,rfl,hx,_,_,rfl,rfl,rfl⟩,rfl,rfl⟩
   unfold Instr.typeAssert
   rw [Sem.run_bind,run_underlying hu]
   simp only [Result.andThen_ok]
   cases d <;> first | exact (hd _ rfl).elim | simp
  ·cases h
 ·cases h
theorem aA5 {P:Program} {t:TypeId} {ms:Array (String×TypeId)} {a b:AV} {C:Ctx} {u v:Value} {r:Bool} (hu:P.underlying t=some (.interface ms)) (h:aBM a b=some r) (ha:a.rel P C u) (hb:b.rel P C v) (w:World) (d:Nat) :
  (Op.equalIn (d + 1) t u v).run P w=.ok r w:=by
 unfold aBM at h
 split at h
 ·split at h
  ·cases h
   obtain ⟨x,rfl,_⟩:=ha
   have hb:v=.nilIface:=hb
   subst hb
   simp [Op.equalIn,run_underlying hu]
  ·cases h
 ·split at h
  ·cases h
   have ha:u=.nilIface:=ha
   have hb:v=.nilIface:=hb
   subst ha hb
   simp [Op.equalIn,run_underlying hu]
  ·cases h
 ·cases h
theorem aGx {P:Program} {a b:AV} {C:Ctx} {u v:Value} {r:Bool} (h:aBM a b=some r) (ha:a.rel P C u) (hb:b.rel P C v):v=.nilIface∧((∃ t x,u=.iface t x)∨u=.nilIface):=by
 unfold aBM at h
 split at h
 ·split at h
  ·obtain ⟨x,rfl,_⟩:=ha
   exact ⟨hb,.inl ⟨_,_,rfl⟩⟩
  ·cases h
 ·split at h
  ·exact ⟨hb,.inr ha⟩
  ·cases h
 ·cases h
theorem aKT {P:Program} {C:Ctx} {w:World} {op:BinOp} {t:TypeId} {x y:Operand} {a b:AV} {u v:Value} {c:Core} (h:aKU P op t y a b=some c)
  (ha:a.rel P C u) (hb:b.rel P C v):∃ r,(do eqGuard op t x y u v;binOp op t u v:Sem Value).run P w=.ok r w∧c.val.rel P C r∧c.upd=[]∧c.new=none:=by
 unfold aKU at h
 split at h
 case h_2=>cases h
 rename_i r ht hy hr
 obtain ⟨ms,hu⟩:=aGt ht
 have hq:=aA5 hu hr ha hb w 9999
 obtain ⟨hv,huv⟩:=aGx hr ha hb
 have hg:∀ op,(eqGuard op t x y u v).run P w=.ok () w:=by
  intro op
  obtain ⟨cv,rfl⟩:∃ cv,y=.const cv:=by
   cases y <;> first | exact ⟨_,rfl⟩ | cases hy
  subst hv
  unfold eqGuard
  rcases huv with ⟨t1,x1,rfl⟩ | rfl
  ·cases op <;> simp
  ·cases op <;> simp
 split at h
 ·cases h
  refine ⟨.bool r,?_,rfl,rfl,rfl⟩
  rw [Sem.run_bind,hg,Result.andThen_ok]
  subst hv
  rcases huv with ⟨t1,x1,rfl⟩ | rfl
  ·simp [binOp,Op.equal,Op.maxDepth,hq]
  ·simp [binOp,Op.equal,Op.maxDepth,hq]
 ·cases h
  refine ⟨.bool (!r),?_,rfl,rfl,rfl⟩
  rw [Sem.run_bind,hg,Result.andThen_ok]
  subst hv
  rcases huv with ⟨t1,x1,rfl⟩ | rfl
  ·simp [binOp,Op.equal,Op.maxDepth,hq]
  ·simp [binOp,Op.equal,Op.maxDepth,hq]
 ·cases h
end Go.Eng
