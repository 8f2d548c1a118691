/- PeH8f PeH8g PeH9 PeH10 PeH10b PeH11 PeH12 PeH12b PeH13 PeH14 PeH15 -/
import Derived.Test.YtlakcpmgefpfaaaGreatDoorECErrC
import Derived.Sort.LoopGhostIn
import Derived.RangeFuncLeaves
import Derived.RangeFuncSeq
import Derived.OrdersIn
import Derived.RangeFuncCalls
import Derived.RangeFuncFrom
set_option linter.all false
namespace Go.Eng
open Go.RowKit
def KO(P:Program)(mt:Bool)(nx:Nat)(t:TypeId)(len:Nat)(idxs:List Nat)(vs:List RV): Option Core:=match cZ P t,vs with
 | some e,[(.buf nm2 n2,some b2)]=>match OX P e,HH (.buf nm2 n2,some b2)with
  | some (.sl ty'),some ns=>if mt=true/\len=1/\idxs=[0]/\TY P e=true then some {need:=ns,val:=.buf nx 1,upd:=[(nx,.buf e (.sl ty') [([]:List ty'.den)] [(0,.buf nm2 n2)])],new:=some nx} else none
  | _,_=>none
 | _,_=>none
variable {D:Nat->Prop} {E:Nat->Ent}
def P0{S:Base}{σ:Sig}{a:Act}{w:World}(h:aP S σ a w D E){mt:Bool}{nx len:Nat}{t:TypeId}{A:List Nat}{vs:List RV}{vals:Lv}{c:Core}
  (hb:∀v∈vs,v.2=cJ σ.m v.1) (G:KO S.P mt nx t len A vs=some c) (hn:∀q∈c.need,q) (hr:AV.relL S.P ⟨w,D,σ.m,E⟩ (vs.map (·.1)) vals) (hu:∀k,c.new=some k->Unm k σ):
  ∃r w',(Instr.buildSlice t len (A.zip vals).toArray).run S.P w=.ok r w'/\Outcome S ⟨σ.T,upM σ.m c.upd,σ.sv⟩ a c.val r w':=by
 unfold KO at G;split at G
 case h_2=>cases G
 rename_i e j n2 b2 he;split at G
 case h_2=>cases G
 rename_i f ns hty hone;split at G
 case isFalse=>cases G
 rename_i L;obtain⟨_,h2,h3,h4⟩:=L;cases G;subst h2 h3;obtain⟨u,us0,rfl,hv,h0⟩:=hr;simp only[qBv,AV.relL]at h0;subst h0;have hbv:(some b2:Option Blk)=cJ σ.m (.buf j n2):=hb _ (wB);have hm2:σ.m j=some b2:=hbv.symm;obtain⟨us,g1,g2,g3⟩:=nF (C:=⟨w,D,σ.m,E⟩) hbv hone hn hv;obtain⟨z,us',e1,z2,q2⟩:=g2;simp only[AV.relL]at q2;subst q2 e1;have z3:=g3 z (by simp);have hsz:=Gs hty
 have V:=J4 (w:=w) (ty:=.sl f) (vals:=[u]) (uss:=[[z]]) he hsz h4 (by show 1*1<=16777216;omega) rfl (λi v us O hus=>by
  cases i with
  | zero=>cases O;cases hus;exact⟨g1,rfl⟩
  | succ i=>simp at O)
 have hnx:=(hu nx rfl);have hne:j≠nx:=λek=>by
  have:=hnx.1;rw[<- ek,hm2]at this;cases this
 refine⟨_,_,V,?_⟩;have X:(w.alloc (.cells [[z]].flatten.toArray e)).ownsRow 0 e 1 (.slice (some ⟨w.heap.size,0,none⟩) 1 1) 1 [z]:=by
  have:=World.ownsRow_lit (base:=0) (e:=e) (size:=1) w [z].toArray 1 (zA _) (by unfold maxLen;omega) (by simp);simpa using this
 have e3:upE E nx (⟨w.heap.size,1,false,noR⟩:Ent) nx=⟨w.heap.size,1,false,noR⟩:=by simp[upE]
 refine⟨D,upE E nx ⟨w.heap.size,1,false,noR⟩,h.newBlk hnx (me w _) (λ_=>⟨rfl,by rw[yE];omega⟩) ⟨[z],X,?_⟩,λb x=>?_⟩
 .intro i y hy;cases i with
  | succ i=>simp at hy
  | zero=>
   simp only[List.lookup,yZ];refine⟨rfl,z,rfl,z3,AV.rel_mono (C:=⟨w,D,σ.m,E⟩) (C':=⟨w.alloc (.cells [[z]].flatten.toArray e),D,upM σ.m [(nx,.buf e (.sl f) [([]:List f.den)] [(0,.buf j n2)])],upE E nx ⟨w.heap.size,1,false,noR⟩⟩) ⟨λb hb=>hb,λb hb=>xZ w _ b (h.dlt b hb)⟩ (λk hk=>?_) z2⟩;have ek:k=j:=by simpa[AV.names]using hk
   subst ek;intro b' g;replace g:upM σ.m [(nx,.buf e (.sl f) [([]:List f.den)] [(0,.buf k n2)])] k=some b':=g;rw[da,if_neg hne]at g;exact⟨b',g,rfl,qJ _,λ_=>by show upE E nx _ k=E k;simp[upE,hne]⟩
 .replace x:upM σ.m [(nx,.buf e (.sl f) [([]:List f.den)] [(0,.buf j n2)])] nx=some b:=x;rw[da,if_pos rfl]at x;cases x;refine⟨qJ _,λ_=>?_⟩;show _=(upE E nx _ nx).handle _;rw[e3];rfl
def LV(P:Program)(t:TypeId)(s x:RV): Option Core:=match cZ P t,s,x with
 | some e',(.buf nm n,some (.mat el eli e xss [])),(.buf _ 1,some (.buf el3 (.sl e2) [_] [(0,v)]))=>if el=e' then match uU P el (.sl e)with
  | some bytes=>some {need:=[Dk xss=n]++md (Eb n 1) bytes,val:=.buf nm (Eb n 1),upd:=[(nm,.mat el eli e (Ef (α:=List e.den) xss [[]]) [(Dk xss,v)])]}
  | none=>none
  else none
 | _,_,_=>none
def QP{S:Base}{σ:Sig}{a:Act}{w:World}(h:aP S σ a w D E){t oty:TypeId}{s x:RV}{c:Core}{vs vx:Value}
  (hbs:s.2=cJ σ.m s.1) (hbx:x.2=cJ σ.m x.1) (hc:LV S.P t s x=some c) (hn:∀q∈c.need,q)
  (hs:s.1.rel S.P ⟨w,D,σ.m,E⟩ vs) (hx:x.1.rel S.P ⟨w,D,σ.m,E⟩ vx):
  c.new=none/\∃r w',(Builtin.append_ #[t,t] oty #[vs,vx]).run S.P w=.ok r w'/\Outcome S ⟨σ.T,upM σ.m c.upd,σ.sv⟩ a c.val r w':=by
 unfold LV at hc;split at hc
 case h_2=>cases hc
 rename_i el' A n el G e xss f el3 e2 r0 v he;split at hc
 case isFalse=>cases hc
 rename_i hel;subst hel;split at hc
 case h_2=>cases hc
 rename_i bytes hz;cases hc;have hue:=cH he;obtain⟨i,z,hi,hz1,hz2,hz3,hz4⟩:=jk hz;have hzs:z.cells.size=(Ty.sl e).sz:=by rw[<- vP,hz4,bh]
 have hm:σ.m A=some (.mat el G e xss []):=hbs.symm;have hm3:σ.m f=some (.buf el3 (.sl e2) [r0] [(0,v)]):=hbx.symm;have hlen:xss.length=n:=hn _ (by simp);have hb1:(n+1)*bytes<=140737488355328:=hn _ (by simp only[md,qI];exact .inr (.head _));have hb2:n+1<=9223372036854775807:=hn _ (by simp only[md,qI];exact .inr (.tail _ (.head _)));have hv:=(hs _ hm).2 hlen;have hvx:=(hx _ hm3).2 rfl
 obtain⟨hz0,raw,r1,r2⟩:=h.bl A _ hm;rw[hlen]at r1;obtain⟨V,t1,t2⟩:=h.bl f _ hm3;obtain⟨_,u,u1,u2,u3⟩:(Ty.sl e2).sz=1/\∃u,V[0]?=some u/\u.oneCell'=true/\v.rel S.P ⟨w,D,σ.m,E⟩ u:=by
  have:=t2 0 r0 rfl;simpa only[List.lookup,yZ]using this
 have hl3:V.length=1:=t1.1;have hraw3:V=[u]:=by
  cases V with
  | nil=>simp at hl3
  | cons y l=>
   cases l with
   | nil=>simp at u1;rw[u1]
   | cons y2 l=>simp at hl3
 subst hraw3;have hnil3:(E f).isNil=false:=by
  cases hq:(E f).isNil with
  | false=>rfl
  | true=>
   have e3:(E f).handle ([r0]:List (Ty.sl e2).den).length=.slice none 0 0:=by unfold Ent.handle;rw[hq];rfl
   rw[e3]at t1;rcases t1.2 with⟨_,hz⟩ | ⟨g,cap,cur,hq,_⟩
   .simp at hz
   .cases hq
 have e30:(E f).handle ([r0]:List (Ty.sl e2).den).length=.slice (some ⟨(E f).b,0,none⟩) 1 (E f).cap:=by unfold Ent.handle;rw[hnil3];rfl
 have hvx2:vx=.slice (some ⟨(E f).b,0,none⟩) 1 (E f).cap:=by
  have:vx=(E f).handle ([r0]:List (Ty.sl e2).den).length:=hvx;rw[this,e30]
 rw[e30]at t1;have n2:=t1.cells rfl;have n1:([u]:Lv).length=1*(Ty.sl e).sz:=rfl;have n3:∀q∈([u]:Lv),q.oneCell'=true:=λq hq=>by rw[vG.1 hq];exact u2
 subst hvx2;have fin:∀(w':World) (v':Value) (bb cc:Nat),v'=.slice (some ⟨bb,0,none⟩) (n+1) cc->w'.os=w.os->w'.tape=w.tape->w'.output=w.output->w.heap.size<=w'.heap.size->
   (∀k,k<w.heap.size->((E A).isNil=false->k≠(E A).b)->w'.heap[k]?=w.heap[k]?)->
   ((bb=w.heap.size/\w.heap.size<w'.heap.size)\/((E A).isNil=false/\bb=(E A).b))->w'.ownsRow 0 el 1 v' (n+1) (raw++[u])->
   Outcome S ⟨σ.T,upM σ.m [(A,.mat el G e (xss++[[]]) [(xss.length,v)])],σ.sv⟩ a (.buf A (n+1)) v' w':=by
  intro w' v' bb cc hv' ho ht2 hout hsz hw hee hown;have hl2:(xss++[([]:List e.den)]).length=n+1:=by rw[qF,hlen];rfl
  have hle:(Blk.mat el G e xss []).len<=(Blk.mat el G e (xss++[[]]) [(xss.length,v)]).len:=by simp only[Blk.len,qF];omega
  have hsame:(Blk.mat el G e xss []).len=(Blk.mat el G e (xss++[[]]) [(xss.length,v)]).len->(⟨bb,cc,false,(E A).rb⟩:Ent)=E A:=λh0=>by
   simp only[Blk.len,qF,qV]at h0;omega
  obtain⟨L,N⟩:=h.turnLater (w':=w') (b:=.mat el G e (xss++[[]]) [(xss.length,v)]) hm (e:=⟨bb,cc,false,(E A).rb⟩) rfl hle hsame hw;refine⟨D,upE E A ⟨bb,cc,false,(E A).rb⟩,h.turnBlk hm (e:=⟨bb,cc,false,(E A).rb⟩) rfl hle hsame ho ht2 hout hsz hw (λ_=>hee) ⟨hz0,raw++[u],by rw[hl2];rw[hv']at hown;exact hown,λk row hk=>?_⟩ (λj k hr=>?_),λb hb=>?_⟩
  .have hk1:k<xss.length+1:=by have:=(qG.1 hk).1;rw[qF]at this;exact this
   have hrl:raw.length=xss.length:=by have:=r1.1;rw[xA]at this;omega
   by_cases hke:k=xss.length
   .subst hke;refine⟨u,by rw[vH Z,hrl];simp,?_⟩;simp only[List.lookup,yZ];exact⟨u2,AV.rel_mono L (λk _=>N k) u3⟩
   .have hklt:k<xss.length:=by omega
    rw[vS hklt]at hk;obtain⟨y,g1,g2⟩:=r2 k row hk;simp only[List.lookup]at g2;have hkb:(k==xss.length)=false:=by simpa using hke
    refine⟨y,by rw[vS Z];exact g1,?_⟩;simp only[List.lookup,hkb];obtain⟨ao,cap,r3,k1,k0,k2⟩:=g2;refine⟨ao,cap,r3,k1,k0,λhpr=>?_⟩;obtain⟨k3,k4,k5⟩:=k2 hpr;have hat:cA σ.m E A k ((E A).rb k).1:=⟨el,G,e,xss,[],row,hm,rfl,hk,hpr,rfl⟩;refine⟨k3,gb (λg' n' c hh=>?_) k4,bu (C:=⟨w,D,σ.m,E⟩) L (λA h=>by cases h) k5⟩;rw[k1,k3]at hh;simp at hh;rw[<- hh.1]
    exact hw _ (h.pv.own _ _ _ hat).2.1 λhi' ek=>h.pv.ent A k _ hat A _ hm hi' ek.symm
  .obtain⟨el2,eli2,t2',xs2,ov2,row2,hx2,s1,s2,s3,s4⟩:=hr;cases hx2;have hj:j≠xss.length:=λej=>by subst ej;simp[List.lookup]at s1
   have hjl:j<xss.length:=by
    have:=(qG.1 s2).1;rw[qF,qV]at this;omega
   rw[vS hjl]at s2;exact⟨el,G,e,xss,[],row2,rfl,rfl,s2,s3,s4⟩
  .replace hb:upM σ.m [(A,.mat el G e (xss++[[]]) [(xss.length,v)])] A=some b:=hb;rw[da,if_pos rfl]at hb;cases hb;refine⟨by simp only[Blk.len];omega,λ_=>?_⟩;have:upE E A (⟨bb,cc,false,(E A).rb⟩:Ent) A=⟨bb,cc,false,(E A).rb⟩:=by simp[upE]
   show v'=(upE E A _ A).handle _;rw[this,hv'];rfl
 have h63:n+1<=maxLen:=by unfold maxLen;omega
 refine⟨rfl,?_⟩;obtain⟨v',w',q1,q2,O,_⟩:=qDw (P:=S.P) w 0 t oty el i z (Ty.sl e).sz bytes hue hi hz1 hz2 hz3 hzs (Ty.sz_pos _) _ n raw r1 ⟨(E f).b,0,none⟩ 1 (E f).cap [u] n1 n2 n3 h63 hb1 (zA _);cases X:(E A).isNil with
 | true=>
  have e3:(E A).handle n=.slice none 0 0:=by unfold Ent.handle;rw[X];rfl
  have hn0:n=0:=by
   rw[e3]at r1;rcases r1.2 with⟨_,hz⟩ | ⟨g,cap,cur,hq,_⟩
   .exact hz
   .cases hq
  subst hn0;have hr:=qDx (P:=S.P) w t oty el i z hue hi hz1 ⟨(E f).b,0,none⟩ 1 (E f).cap [u] (by rw[hz2];exact n1) n2 Z Z (by rw[hz3];rw[zD]at hb1;omega);rw[e3]at q1 O;rw[hr]at q1;cases q1;refine⟨_,_,by rw[hv,e3];exact hr,fin _ _ _ _ rfl O.os O.tape O.output O.size
   (λk hk _=>O.block k hk (by simp[Value.ownBlock])) (.inl ⟨rfl,by rw[yE];simp⟩) q2⟩
 | false=>
  have e3:(E A).handle n=.slice (some ⟨(E A).b,0,none⟩) n (E A).cap:=by unfold Ent.handle;rw[X];rfl
  rw[e3]at r1 q1 O;have hblk:∀k,k<w.heap.size->((E A).isNil=false->k≠(E A).b)->w'.heap[k]?=w.heap[k]?:=λk hk hne=>O.block k hk (by simp[Value.ownBlock];exact hne X)
  by_cases hroom:n+1<=(E A).cap
  .obtain⟨w2,p1,p2,p3⟩:=run_append_fits (P:=S.P) w 0 t oty el i (Ty.sl e).sz hue hi hz2 (E A).b n (E A).cap raw r1 ⟨(E f).b,0,none⟩ 1 (E f).cap [u] n1 n2 n3 hroom;rw[p1]at q1;cases q1;exact⟨_,_,by rw[hv,e3];exact p1,fin _ _ _ _ rfl O.os O.tape O.output O.size hblk (.inr ⟨X,rfl⟩) q2⟩
  .have hr:=run_append_grow (P:=S.P) w t oty el i z hue hi hz1 ⟨(E A).b,0,none⟩ n (E A).cap raw (by rw[hz2];exact r1.1) (r1.cells rfl) ⟨(E f).b,0,none⟩ 1 (E f).cap [u] (by rw[hz2];exact n1) n2 Z Z
    (growslice_fits Z (by rw[hz3];exact hb1))
   rw[hr]at q1;cases q1;refine⟨_,_,by rw[hv,e3];exact hr,fin _ _ _ _ rfl O.os O.tape O.output O.size hblk
    (.inl ⟨rfl,by rw[yE];simp⟩) q2⟩
end Go.Eng
namespace Go.Eng
open Go.RowKit
def yk(P:Program)(t:TypeId): Option Bool:=match P.underlying t with
 | some (.interface _)=>some true
 | some _=>some false
 | none=>none
def TV(P:Program)(t:TypeId)(x:AV): Option Core:=match yk P t with
 | some false=>some {val:=.ifc t x}
 | _=>none
def LU(P:Program)(asserted:TypeId)(ok:Bool)(x:AV): Option Core:=match yk P asserted,ok,x with
 | some false,true,.ifc t a=>if t=asserted then some {val:=.tup [a,.dat .bool true]} else none
 | _,_,_=>none
def Yl: Operand->Bool
 | .const _=>true
 | _=>false
def yo: AV->AV->Option Bool
 | .ifc _ _,.val u=>match u with | .nilIface=>some false | _=>none
 | .val u,.val v=>match u,v with | .nilIface,.nilIface=>some true | _,_=>none
 | _,_=>none
def UD(P:Program)(op:BinOp)(t:TypeId)(y:Operand)(a b:AV): Option Core:=match yk P t,Yl y,yo a b with
 | some true,true,some r=>match op with
  | .eql=>some {val:=.dat .bool r}
  | .neq=>some {val:=.dat .bool (Dj r)}
  | _=>none
 | _,_,_=>none
variable {t:TypeId} {P:Program}
def tQ(h:yk P t=some false): ∃d,P.underlying t=some d/\∀ms,d≠.interface ms:=by
 unfold yk at h;cases b:P.underlying t with
 | none=>rw[b]at h;cases h
 | some d=>
  rw[b]at h;exact⟨d,rfl,λms e=>by subst e;cases h⟩
def La(h:yk P t=some true): ∃ms,P.underlying t=some (.interface ms):=by
 unfold yk at h;split at h
 .rename_i ms b;exact⟨ms,b⟩
 .cases h
 .cases h
variable {c:Core} {w:World} {C:Ctx}
def TU{x:AV}{v:Value}(h:TV P t x=some c)(b:x.rel P C v):
  ∃r,(Instr.makeInterface t v).run P w=.ok r w/\c.val.rel P C r/\c.upd=[]/\c.new=none:=by
 unfold TV at h;split at h
 .rename_i f;cases h;obtain⟨d,e,hd⟩:=tQ f;refine⟨.iface t v,?_,⟨v,rfl,b⟩,rfl,rfl⟩;unfold Instr.makeInterface;rw[wQ,vK e];simp only[vX];cases d<;>first | exact(hd _ rfl).elim | rfl
 .cases h
def QN{xt t:TypeId}{ok:Bool}{x:AV}{v:Value}(h:LU P t ok x=some c)(b:x.rel P C v):
  ∃r,(Instr.typeAssert v xt t ok).run P w=.ok r w/\c.val.rel P C r/\c.upd=[]/\c.new=none:=by
 unfold LU at h;split at h
 .rename_i t' a g;split at h
  .rename_i e;subst e;cases h;obtain⟨d,f,hd⟩:=tQ g;obtain⟨u,rfl,b⟩:=b;refine⟨.tuple #[u,.bool true],?_,⟨[u,.bool true],rfl,_,_,rfl,b,_,_,rfl,rfl,rfl⟩,rfl,rfl⟩;unfold Instr.typeAssert;rw[wQ,vK f];simp only[vX];cases d<;>first | exact(hd _ rfl).elim | simp
  .cases h
 .cases h
def vn{ms:Array (String×TypeId)}{a b:AV}{u v:Value}{r:Bool}(f:P.underlying t=some (.interface ms))(h:yo a b=some r)(e:a.rel P C u)(hb:b.rel P C v)(w:World)(d:Nat):
  (Op.equalIn (d+1) t u v).run P w=.ok r w:=by
 unfold yo at h;split at h
 .split at h
  .cases h;obtain⟨x,rfl,_⟩:=e;have hb:v=.nilIface:=hb;subst hb;simp[Op.equalIn,vK f]
  .cases h
 .split at h
  .cases h;have e:u=.nilIface:=e;have hb:v=.nilIface:=hb;subst e hb;simp[Op.equalIn,vK f]
  .cases h
 .cases h
def Lm{a b:AV}{u v:Value}{r:Bool}(h:yo a b=some r)(e:a.rel P C u)(hb:b.rel P C v): v=.nilIface/\((∃t x,u=.iface t x)\/u=.nilIface):=by
 unfold yo at h;split at h
 .split at h
  .obtain⟨x,rfl,_⟩:=e;exact⟨hb,.inl ⟨_,_,rfl⟩⟩
  .cases h
 .split at h
  .exact⟨hb,.inr e⟩
  .cases h
 .cases h
def UC{op:BinOp}{x y:Operand}{a b:AV}{u v:Value}(h:UD P op t y a b=some c)
  (z:a.rel P C u) (hb:b.rel P C v):∃r,(do eqGuard op t x y u v;binOp op t u v:Sem Value).run P w=.ok r w/\c.val.rel P C r/\c.upd=[]/\c.new=none:=by
 unfold UD at h;split at h
 case h_2=>cases h
 rename_i r O G i;obtain⟨ms,L⟩:=La O;have f:=vn L i z hb w 9999;obtain⟨g,e⟩:=Lm i z hb;have j:∀op,(eqGuard op t x y u v).run P w=.ok () w:=by
  intro op;obtain⟨A,rfl⟩:∃A,y=.const A:=by
   cases y<;>first | exact⟨_,rfl⟩ | cases G
  subst g;unfold eqGuard;rcases e with⟨t1,x1,rfl⟩ | rfl
  .cases op<;>simp
  .cases op<;>simp
 split at h
 .cases h;refine⟨.bool r,?_,rfl,rfl,rfl⟩;rw[wQ,j,vX];subst g;rcases e with⟨t1,x1,rfl⟩ | rfl
  .simp[binOp,Op.equal,Op.maxDepth,f]
  .simp[binOp,Op.equal,Op.maxDepth,f]
 .cases h;refine⟨.bool (!r),?_,rfl,rfl,rfl⟩;rw[wQ,j,vX];subst g;rcases e with⟨t1,x1,rfl⟩ | rfl
  .simp[binOp,Op.equal,Op.maxDepth,f]
  .simp[binOp,Op.equal,Op.maxDepth,f]
 .cases h
end Go.Eng
namespace Go.Eng
open Go.RowKit
abbrev Mem:=List (Nat×Blk)
structure jG where
 pre:Prop
 ret:AV
 upd:Mem:=[]
abbrev Kt:=FuncId->List AV->Mem->Option jG
def noM: Nat->Option Blk:=λ_=>none
def noE: Nat->Ent:=λ_=>⟨0,0,true,noR⟩
def bN(m:Mem): Nat->Option Blk:=λnm=>m.lookup nm
structure Held (P:Program) (w:World) (D:Nat->Prop) (m:Nat->Option Blk) (E:Nat->Ent):Prop where
 bl:∀nm b,m nm=some b->eJ P 0 ⟨w,D,m,E⟩ (E nm) b
 own:∀nm b,m nm=some b->(E nm).isNil=false->(E nm).b<w.heap.size/\¬D (E nm).b
 inj:∀nm nm' b b',m nm=some b->m nm'=some b'->(E nm).isNil=false->(E nm').isNil=false->(E nm).b=(E nm').b->nm=nm'
 pv:fN 0 (λ_=>True) m E w.heap.size D
def fN.nil {lo n:Nat} {O D:Nat->Prop} {m:Nat->Option Blk} {E:Nat->Ent} (h:∀e i b,cA m E e i b->False):fN lo O m E n D:=
 ⟨λe i b g=>(h e i b g).elim,λe i b g=>(h e i b g).elim,λe i b _ _ g=>(h e i b g).elim⟩
variable {E:Nat->Ent}
def lN{e i b:Nat}(h:cA (λ_=>none) E e i b): False:=by
 obtain⟨_,_,_,_,_,_,h,_⟩:=h;cases h
def Held.none (P:Program) (w:World) (D:Nat->Prop) (E:Nat->Ent):Held P w D (bN []) E:=
 ⟨λ_ _ h=>(by cases h),λ_ _ h=>(by cases h),λ_ _ _ _ h=>(by cases h),fN.nil λ_ _ _ h=>lN h⟩
def bw(m:Nat->Option Blk)(E:Nat->Ent): Nat->Prop:=λb=>∃nm blk,m nm=some blk/\(E nm).isNil=false/\b=(E nm).b
structure Left (P:Program) (m:Nat->Option Blk) (upd:Mem) (w:World) (D:Nat->Prop) (E:Nat->Ent) (w':World) (D':Nat->Prop) (E':Nat->Ent):Prop where
 chg:Chg (bw m E) w w'
 dlo:∀b,D b->D' b
 dhi:∀b,D' b->D b\/w.heap.size<=b\/bw m E b
 dlt:∀b,D' b->b<w'.heap.size
 held:Held P w' D' (upM m upd) E'
 agree:∀nm b b',m nm=some b->upM m upd nm=some b'->b'.len=b.len->E' nm=E nm
 moved:∀nm b b',m nm=some b->upM m upd nm=some b'->(E' nm).isNil=false->bw m E (E' nm).b\/w.heap.size<=(E' nm).b
 fresh:∀nm b,m nm=none->upM m upd nm=some b->(E' nm).isNil=false->w.heap.size<=(E' nm).b
 priv:∀nm i b,cA (upM m upd) E' nm i b->cA m E nm i b\/w.heap.size<=b
def ah(P:Program)(G:List (Nat×AV))(f:FuncId)(args:List AV)(m:Mem)(c:jG): Prop:=
 c.pre->∀(w:World) (D:Nat->Prop) (E:Nat->Ent) (us:Lv),(∀b,D b->b<w.heap.size)->lM P ⟨w,D,bN m,E⟩ G->AV.relL P ⟨w,D,bN m,E⟩ args us->Held P w D (bN m) E->
  Calls P f us.toArray w λe w'=>∃v D' E',e=.returned v/\Left P (bN m) c.upd w D E w' D' E'/\c.ret.rel P ⟨w',D',upM (bN m) c.upd,E'⟩ v
def ai(P:Program)(G:List (Nat×AV))(K:Kt): Prop:=∀f args m c,K f args m=some c->ah P G f args m c
structure zz where
 pre:Prop
 ok:Bool
 pan:Value
abbrev KPt:=FuncId->List AV->Mem->Option zz
def chainOf(v:Value): List PanicEntry:=[{v:=v,recovered:=false}]
def dt(P:Program)(G:List (Nat×AV))(f:FuncId)(args:List AV)(m:Mem)(r:zz): Prop:=
 r.pre->r.ok=false->∀(w:World) (D:Nat->Prop) (E:Nat->Ent) (us:Lv),(∀b,D b->b<w.heap.size)->lM P ⟨w,D,bN m,E⟩ G->AV.relL P ⟨w,D,bN m,E⟩ args us->Held P w D (bN m) E->
  Calls P f us.toArray w λe w'=>e=.panicked (chainOf r.pan)/\Chg (bw (bN m) E) w w'
def bJ(P:Program)(G:List (Nat×AV))(KP:KPt): Prop:=∀f args m r,KP f args m=some r->dt P G f args m r
def XZ(P:Program)(t:TypeId)(a:AV): AV:=match a with
 | .val (.slice none 0 0)=>match OX P t with
  | some (.sl e)=>.dat (.sl e) []
  | _=>a
 | .agg cs=>match OX P t with
  | some ty=>match cT ty cs with
   | some (x,[])=>.agg (cellsOf ty x)
   | _=>a
  | none=>a
 | _=>a
def Ag(P:Program): List TypeId->List AV->List AV
 | t::ts,a::as=>XZ P t a::Ag P ts as
 | _,as=>as
variable {C:Ctx} {P:Program} {v:Value}
def TN{t:TypeId}{a:AV}(h:a.rel P C v): (XZ P t a).rel P C v:=by
 unfold XZ;split
 .split
  .simp only[AV.rel]at h;subst h;exact bv _ _ _
  .exact h
 .split
  .split
   .rename_i x j;obtain⟨us,e,g⟩:=h;obtain⟨i,f,r,g1,g2⟩:=cF j g;have b:f=[]:=g2;subst b r;exact⟨i++[],e,by rw[vY];exact cw g1⟩
   .exact h
  .exact h
 .exact h
def wo: ∀{ts:List TypeId} {as:List AV} {us:Lv},AV.relL P C as us->AV.relL P C (Ag P ts as) us
 | [],_,_,h=>h
 | _::_,[],_,h=>h
 | t::ts,a::as,us,h=>by
  obtain⟨u,b,e,g1,g2⟩:=h;exact⟨u,b,e,TN g1,wo g2⟩
def lO(P:Program)(f:FuncId): List TypeId:=match P.funcs[f]? with
 | some fn=>fn.params.toList
 | none=>[]
def aEH: AV->Bool
 | .val (.slice none 0 0)=>true
 | _=>false
def gP(P:Program)(K:Kt)(f:FuncId)(args caps:List AV): List AV:=
 if(args.any aEH&&(K f (args++caps) []).isSome)=true then args else Ag P (lO P f) args
variable {f:FuncId} {as:List AV} {caps:List AV} {us:Lv} {K:Kt}
def HN(h:AV.relL P C as us): AV.relL P C (gP P K f as caps) us:=by
 unfold gP;split
 .exact h
 .exact wo h
def nameless(a:AV): Bool:=a.names.isEmpty
def ff(m:Nat->Option Blk): List Nat->Mem
 | []=>[]
 | nm::r=>match m nm with
  | some b=>(nm,b)::ff m r
  | none=>ff m r
def fe(m:Nat->Option Blk)(k:Nat): ∀l:List Nat,(ff m l).lookup k=if k∈l then m k else none
 | []=>rfl
 | nm::r=>by
  simp only[ff];split
  .rename_i b hb;simp only[List.lookup];by_cases e:k=nm
   .subst e;simp[hb]
   .have:(k==nm)=false:=by simpa using e
    simp only[this,fe m k r,zK,e,false_or]
  .rename_i hb;rw[fe m k r];by_cases e:k=nm
   .subst e;simp[hb]
   .simp[e]
def mR(ns:List Nat)(b:Blk): Bool:=b.names.all λk=>ns.contains k
def Yt(n:Nat)(b:Blk): Prop:=match b with
 | .buf _ _ _ _=>Dy n b.len
 | _=>n=b.len
def Oc{n:Nat}{b:Blk}(h:Yt n b): n<=b.len:=by
 unfold Yt at h;split at h
 .exact h
 .exact xG h
def grow(b0 b:Blk): Prop:=Yt b0.len b
def aCd{e b:Blk}(h:grow e b): e.len<=b.len:=Oc h
def Wj(m:Nat->Option Blk)(ns:List Nat): Mem->Option (List Prop)
 | []=>some []
 | (k,b)::r=>match m k,Wj m ns r with
  | some b0,some q=>if ns.contains k&&mR ns b&&decide (b0.es=b.es)then some (grow b0 b::q)else none
  | _,_=>none
def UJ: Mem->Mem->Option (Nat×Blk)
 | [],[(k,b)]=>if b.names.isEmpty then some (k,b)else none
 | _,_=>none
def cP(m:Nat->Option Blk)(l:List Nat): List Nat:=l++l.flatMap λk=>match m k with | some b=>b.names | none=>[]
variable {k:Nat} {l:List Nat} {m:Nat->Option Blk}
def dV(h:k∈l): k∈cP m l:=qI.2 (.inl h)
def rh(h:k∈cP m l): k∈l\/∃j∈l,∃b,m j=some b/\k∈b.names:=by
 rcases qI.1 h with h | h
 .exact .inl h
 .obtain⟨j,f,e⟩:=xB.1 h;split at e
  .rename_i b hb;exact .inr ⟨j,f,b,hb,e⟩
  .cases e
def uQ{j k:Nat}{b:Blk}(f:j∈l)(hb:m j=some b)(e:k∈b.names): k∈cP m l:=
 qI.2 (.inr (xB.2 ⟨j,f,by rw[hb];exact e⟩))
def rf{l f:List Nat}(h:∀k∈l,k∈f)(i:k∈cP m l): k∈cP m f:=by
 rcases rh i with g | ⟨j,r,b,hb,e⟩
 .exact dV (h k g)
 .exact uQ (h j r) hb e
def zf{m m':Nat->Option Blk}(h:∀k∈l,m' k=m k): cP m' l=cP m l:=by
 unfold cP
 congr 1
 simp only[List.flatMap_def]
 congr 1
 exact yA λk b=>by rw[h k b]
def Ar(P:Program)(K:Kt)(nx:Nat)(m:Nat->Option Blk)(callee:AV)(args:List AV): Option Core:=
 match callee,args with
 | .fn f caps,args=>if goes P f then
   if(cP m (AV.namesL (gP P K f args caps++caps))).all (λk=>match m k with | some b=>mR (cP m (AV.namesL (gP P K f args caps++caps))) b | none=>true)then
   match K f (gP P K f args caps++caps) (ff m (cP m (AV.namesL (gP P K f args caps++caps))))with
   | some c=>match UJ (ff m (cP m (AV.namesL (gP P K f args caps++caps)))) c.upd with
    | some (k0,b0)=>if c.ret.names.all (λk=>k==k0)then some {need:=[c.pre],val:=aBJ nx c.ret,upd:=[(nx,b0)],new:=some nx} else none
    | none=>match Wj m (cP m (AV.namesL (gP P K f args caps++caps))) c.upd with
     | some q=>if c.ret.names.all (λk=>(cP m (AV.namesL (gP P K f args caps++caps))).contains k)then some {need:=c.pre::q,val:=c.ret,upd:=c.upd} else none
     | none=>none
   | none=>none
   else none
  else none
 | .clo1 a r pre g,[x]=>match x.as a with
  | some x=>some {need:=[pre x],val:=.dat r (g x)}
  | none=>none
 | .clo2 a b r pre g,[x,y]=>match x.as a,y.as b with
  | some x,some y=>some {need:=[pre x y],val:=.dat r (g x y)}
  | _,_=>none
 | _,_=>none
theorem lq {P : Program} {f : FuncId} (h : goes P f = true) (w : World) (args : Array Value) : (callFunc f args).run P w = .ok (.enter f args) w := by
  unfold goes at h
  split at h
  · rename_i fn hf
    simp only [qC, qDc, ne_eq] at h
    have h1 : fn.body.isNone = false := by cases hb : fn.body <;> simp_all
    have h2 : (fn.name == "runtime.NumGoroutine") = false := by simpa using h.2
    simp only [callFunc, wQ, run_program, vX, hf, h2, h1]
    rfl
  · cases h
def sW{C C':Ctx}{a:AV}(e:nameless a=true)(L:Later C C')(h:a.rel P C v): a.rel P C' v:=
 AV.rel_mono L (λf b=>by
  unfold nameless at e;rw[wY]at e;rw[e]at b;cases b) h
def dQ(m:Nat->Option Blk)(u:Mem)(k:Nat): upM m u k=match u.lookup k with | some b=>some b | none=>m k:=rfl
variable {ns:List Nat}
def rz: ∀{u:Mem} {q:List Prop},Wj m ns u=some q->(∀p∈q,p)->∀(k:Nat) (b:Blk),u.lookup k=some b->
  ∃g,m k=some g/\k∈ns/\g.es=b.es/\g.len<=b.len/\∀x∈b.names,x∈ns
 | [],_,_,_,k,b,f=>by simp at f
 | (k',G)::r,q,h,j,k,b,f=>by
  simp only[Wj]at h;split at h
  case h_2=>cases h
  rename_i g A hm y;split at h
  case isFalse=>cases h
  rename_i i;cases h;simp only[qC,qE]at i;simp only[List.lookup]at f;split at f
  .rename_i e;cases f;have e:k=k':=by simpa using e
   subst e;refine⟨g,hm,by simpa using i.1.1,i.2,aCd (j _ (by simp)),λx v=>?_⟩;have:=i.1.2;unfold mR at this;rw[qO]at this;simpa using this x v
  .exact rz y (λp z=>j p (by simp[z])) k b f
def aP.called {S:Base} {σ:Sig} {a:Act} {w w':World} {D D':Nat->Prop} {E E':Nat->Ent} (h:aP S σ a w D E) {ns:List Nat} {upd:Mem} {q:List Prop}
  (hns:∀k∈ns,∀b,σ.m k=some b->∀x∈b.names,x∈ns) (hu:Wj σ.m ns upd=some q) (hq:∀p∈q,p) (X:Left S.P (bN (ff σ.m ns)) upd w D E w' D' E'):
  aP S ⟨σ.T,upM σ.m upd,σ.sv⟩ a w' D' (λk=>if k∈ns then E' k else E k)/\Later ⟨w,D,σ.m,E⟩ ⟨w',D',upM σ.m upd,λk=>if k∈ns then E' k else E k⟩:=by
 obtain⟨E2,hE2⟩:∃E2:Nat->Ent,E2=λk=>if k∈ns then E' k else E k:=⟨_,rfl⟩
 have e2i:∀k,k∈ns->E2 k=E' k:=λk V=>by rw[hE2];exact if_pos V
 have e2o:∀k,k∉ns->E2 k=E k:=λk V=>by rw[hE2];exact if_neg V
 rw[<- hE2];have mem:∀k,bN (ff σ.m ns) k=if k∈ns then σ.m k else none:=λk=>fe σ.m k ns
 have up:∀k b,upM σ.m upd k=some b->(∃b0,σ.m k=some b0/\b0.es=b.es/\b0.len<=b.len):=λk b V=>by
  rw[dQ]at V;split at V
  .rename_i b1 h1;cases V;obtain⟨b0,g1,_,g2,g3,_⟩:=rz hu hq k _ h1;exact⟨b0,g1,g2,g3⟩
  .exact⟨b,V,rfl,qJ _⟩
 have same:∀k,k∈ns->upM (bN (ff σ.m ns)) upd k=upM σ.m upd k:=λk V=>by
  rw[dQ,dQ];split
  .rfl
  .rw[mem,if_pos V]
 have names:∀k b,k∈ns->upM σ.m upd k=some b->∀x∈b.names,x∈ns:=λk b V hb=>by
  rw[dQ]at hb;split at hb
  .rename_i b1 h1;cases hb;obtain⟨_,_,_,_,_,g⟩:=rz hu hq k _ h1;exact g
  .exact hns k V b hb
 have keep:∀k,k<w.heap.size->¬bw (bN (ff σ.m ns)) E k->w'.heap[k]?=w.heap[k]?:=λk V hno=>X.chg.block k V hno
 have blk:∀k,bw (bN (ff σ.m ns)) E k->∃f b,σ.m f=some b/\f∈ns/\(E f).isNil=false/\k=(E f).b:=by
  rintro k ⟨f,b,g1,g2,g3⟩;rw[mem]at g1;split at g1
  .rename_i z;exact⟨f,b,g1,z,g2,g3⟩
  .cases g1
 have L:Later ⟨w,D,σ.m,E⟩ ⟨w',D',upM σ.m upd,E2⟩:=⟨X.dlo,λb hb=>keep b (h.dlt b hb) λhx=>by
  obtain⟨f,bb,g1,_,g2,g3⟩:=blk b hx;exact(h.own f bb g1 g2).2.2 (g3▸hb)⟩
 have rowKeep:∀f b i k,σ.m f=some b->rowsOf (E f) b i k->w'.heap[k]?=w.heap[k]?:=λf b i k hm hr=>keep k (h.pv.lt hm hr) λhx=>by
  obtain⟨v,b2,g1,_,g3,g4⟩:=blk _ hx;exact h.pv.ent f i k (aQ.2 ⟨b,hm,hr⟩) v b2 g1 g3 g4.symm
 have hml:∀f b,f∈ns->σ.m f=some b->bN (ff σ.m ns) f=some b:=λf b z hb=>by rw[mem,if_pos z];exact hb
 have mov:∀f b,f∈ns->upM σ.m upd f=some b->(E' f).isNil=false->(∃v b2,σ.m v=some b2/\v∈ns/\(E v).isNil=false/\(E' f).b=(E v).b)\/w.heap.size<=(E' f).b:=λf b z hb hi=>by
  obtain⟨b0,g0,_⟩:=up f b hb;rcases X.moved f b0 b (hml f b0 z g0) (by rw[same f z];exact hb) hi with g | g
  .exact .inl (blk _ g)
  .exact .inr g
 have prv:∀f i k,cA (upM σ.m upd) E2 f i k->cA σ.m E f i k\/(f∈ns/\w.heap.size<=k/\cA (upM (bN (ff σ.m ns)) upd) E' f i k):=λf i k V=>by
  obtain⟨bb,g1,g2⟩:=aQ.1 V;by_cases z:f∈ns
  .rw[e2i f z]at g2;have hp:cA (upM (bN (ff σ.m ns)) upd) E' f i k:=aQ.2 ⟨bb,by rw[same f z];exact g1,g2⟩;rcases X.priv f i k hp with g | g
   .left
    obtain⟨b2,q1,q2⟩:=aQ.1 g;rw[mem,if_pos z]at q1;exact aQ.2 ⟨b2,q1,q2⟩
   .exact .inr ⟨z,g,hp⟩
  .rw[e2o f z]at g2
   left
   have hlk:upd.lookup f=none:=by
    cases hx:upd.lookup f with
    | none=>rfl
    | some b1=>
     obtain⟨_,_,g,_⟩:=rz hu hq f b1 hx;exact(z g).elim
   rw[dQ,hlk]at g1;exact aQ.2 ⟨bb,g1,g2⟩
 have pvNew:fN S.w0.heap.size S.O (upM σ.m upd) E2 w'.heap.size D':=by
  refine⟨λf i k V=>?_,λf i k V u b' G hi e=>?_,λf i k u j h1 h2=>?_⟩
  .rcases prv f i k V with g | ⟨_,g1,g2⟩
   .obtain⟨q1,q2,q3⟩:=h.pv.own f i k g;refine⟨q1,qX q2 X.chg.size,λhd=>?_⟩;rcases X.dhi _ hd with r | r | r
    .exact q3 r
    .omega
    .obtain⟨v,b2,r1,_,r3,r4⟩:=blk _ r;exact h.pv.ent f i k g v b2 r1 r3 r4.symm
   .obtain⟨_,q2,q3⟩:=X.held.pv.own f i k g2;exact⟨.inl (wH h.low.size g1),q2,q3⟩
  .obtain⟨b0,g0,_⟩:=up u b' G;by_cases A:u∈ns
   .rw[e2i u A]at hi e;rcases prv f i k V with g | ⟨_,g1,g2⟩
    .rcases mov u b' A G hi with⟨v,b2,q1,_,q3,q4⟩ | q
     .exact h.pv.ent f i k g v b2 q1 q3 (q4.symm.trans e)
     .have:=(h.pv.own f i k g).2.1;omega
    .exact X.held.pv.ent f i k g2 u b' (by rw[same u A];exact G) hi e
   .rw[e2o u A]at hi e;have hlt:=(h.own u b0 g0 hi).2.1;rcases prv f i k V with g | ⟨_,g1,_⟩
    .exact h.pv.ent f i k g u b0 g0 hi e
    .omega
  .rcases prv f i k h1 with g | ⟨_,g1,g2⟩<;>rcases prv u j k h2 with q | ⟨_,q1,q2⟩
   .exact h.pv.inj f i k u j g q
   .have:=(h.pv.own f i k g).2.1;omega
   .have:=(h.pv.own u j k q).2.1;omega
   .exact X.held.pv.inj f i k u j g2 q2
 refine⟨h.go (m':=upM σ.m upd) L (λk=>.inl λb' G=>?_) (λf b hm=>?_) (λf b hm hi=>?_) (λf u b b' hb G hi hi' e=>?_)
  (h.low.step X.chg.os X.chg.tape X.chg.output X.chg.size λk V hno=>keep k (qX V h.low.size) λhx=>?_) X.dlt (λb hb=>?_) pvNew,L⟩
 .obtain⟨b0,g1,g2,g3⟩:=up k b' G;refine⟨b0,g1,g2,g3,λhe=>?_⟩;show E2 k=E k;by_cases z:k∈ns
  .rw[e2i k z];exact X.agree k b0 b' (hml k b0 z g1) (by rw[same k z];exact G) he.symm
  .exact e2o k z
 .by_cases z:f∈ns
  .right
   have:=X.held.bl f b (by rw[same f z];exact hm);rw[e2i f z];refine eJ.mono (C:=⟨w',D',upM (bN (ff σ.m ns)) upd,E'⟩) (C':=⟨w',D',upM σ.m upd,E2⟩) ⟨λ_ g=>g,λ_ _=>rfl⟩ (λx hx b' G=>?_) (λ_=>rfl) (λ_ _ _=>rfl) this;exact⟨b',(by show upM (bN (ff σ.m ns)) upd x=some b';rw[same x (names f b z hm x hx)];exact G),rfl,qJ _,λ_=>e2i x (names f b z hm x hx)⟩
  .left
   have hlk:upd.lookup f=none:=by
    cases hx:upd.lookup f with
    | none=>rfl
    | some b1=>
     obtain⟨_,_,g,_⟩:=rz hu hq f b1 hx;exact(z g).elim
   have hm2:σ.m f=some b:=by rw[dQ,hlk]at hm;exact hm
   refine⟨hm2,e2o f z,λhi=>keep _ (h.own f b hm2 hi).2.1 λhx=>?_,λi k hr=>rowKeep f b i k hm2 hr⟩;obtain⟨v,b2,g1,g2,g3,g4⟩:=blk _ hx;have:=h.inj f v b b2 hm2 g1 hi g3 g4;subst this;exact z g2
 .obtain⟨b0,g1,_⟩:=up f b hm;by_cases z:f∈ns
  .rw[e2i f z]at hi ⊢;obtain⟨q1,q2⟩:=X.held.own f b (by rw[same f z];exact hm) hi;refine⟨?_,q1,q2⟩;rcases mov f b z hm hi with⟨v,b2,r1,_,r3,r4⟩ | r
   .rw[r4];exact(h.own v b2 r1 r3).1
   .exact .inl (wH h.low.size r)
  .rw[e2o f z]at hi ⊢;obtain⟨g2,g3,g4⟩:=h.own f b0 g1 hi;refine⟨g2,qX g3 X.chg.size,λhd=>?_⟩;rcases X.dhi _ hd with g | g | g
   .exact g4 g
   .exact xX _ (qX g3 g)
   .obtain⟨v,b2,r1,r2,r3,r4⟩:=blk _ g;have:=h.inj f v b0 b2 g1 r1 hi r3 r4;subst this;exact z r2
 .obtain⟨b0,g1,_⟩:=up f b hb;obtain⟨b1,g2,_⟩:=up u b' G;have mix:∀x y bx b1,x∈ns->y∉ns->upM σ.m upd x=some bx->σ.m y=some b1->(E' x).isNil=false->(E y).isNil=false->(E' x).b=(E y).b->False:=λx y bx b1 hx hy hbx hy1 hix hiy e=>by
   rcases mov x bx hx hbx hix with⟨v,b2,r1,r2,r3,r4⟩ | r
   .have:=h.inj v y b2 b1 r1 hy1 r3 hiy (r4.symm.trans e);subst this;exact hy r2
   .have:=(h.own y b1 hy1 hiy).2.1;omega
  by_cases z:f∈ns<;>by_cases A:u∈ns
  .rw[e2i f z]at hi e;rw[e2i u A]at hi' e;exact X.held.inj f u b b' (by rw[same f z];exact hb) (by rw[same u A];exact G) hi hi' e
  .rw[e2i f z]at hi e;rw[e2o u A]at hi' e;exact(mix f u b b1 z A hb g2 hi hi' e).elim
  .rw[e2o f z]at hi e;rw[e2i u A]at hi' e;exact(mix u f b' b0 A z G g1 hi' hi e.symm).elim
  .rw[e2o f z]at hi e;rw[e2o u A]at hi' e;exact h.inj f u b0 b1 g1 g2 hi hi' e
 .obtain⟨f,bb,g1,_,g2,g3⟩:=blk k hx;rcases(h.own f bb g1 g2).1 with g | g
  .rw[<- g3]at g;omega
  .exact hno (g3▸g)
 .rcases X.dhi b hb with g | g | g
  .exact .inl g
  .exact .inr (.inl (wH h.low.size g))
  .obtain⟨v,b2,r1,_,r3,r4⟩:=blk _ g;rw[r4];exact .inr ((h.own v b2 r1 r3).1)
def aP.calledNew {S:Base} {σ:Sig} {a:Act} {w w':World} {D D':Nat->Prop} {E E':Nat->Ent} (h:aP S σ a w D E) {nx y:Nat} {G:Blk} (hu:Unm nx σ) (hb0:G.names=[]) (z:Left S.P (bN []) [(y,G)] w D E w' D' E'):
  aP S ⟨σ.T,upM σ.m [(nx,G)],σ.sv⟩ a w' D' (upE E nx (E' y)):=by
 have hk0:upM (bN []) [(y,G)] y=some G:=by rw[da,if_pos rfl]
 have keep:∀k,k<w.heap.size->w'.heap[k]?=w.heap[k]?:=λk v=>z.chg.block k v λ⟨f,blk,g,_⟩=>(by cases g)
 have e1:upE E nx (E' y) nx=E' y:=by simp[upE]
 have e2:∀k,k≠nx->upE E nx (E' y) k=E k:=λk v=>by simp[upE,v]
 have m2:∀k b,k≠nx->upM σ.m [(nx,G)] k=some b->σ.m k=some b:=λk b v hb=>by rw[da,if_neg v]at hb;exact hb
 have m1:∀b,upM σ.m [(nx,G)] nx=some b->b=G:=λb hb=>by rw[da,if_pos rfl]at hb;exact(wW hb).symm
 have fr:(E' y).isNil=false->w.heap.size<=(E' y).b:=z.fresh y G rfl hk0;have prv:∀f i k,cA (upM σ.m [(nx,G)]) (upE E nx (E' y)) f i k->(f≠nx/\cA σ.m E f i k)\/(f=nx/\w.heap.size<=k/\cA (upM (bN []) [(y,G)]) E' y i k):=λf i k v=>by
  obtain⟨bb,g1,g2⟩:=aQ.1 v;by_cases hn:f=nx
  .subst hn;have eb:=m1 bb g1;subst eb;rw[e1]at g2;have hp:cA (upM (bN []) [(y,bb)]) E' y i k:=aQ.2 ⟨bb,hk0,g2⟩;rcases z.priv y i k hp with g | g
   .obtain⟨_,q,_⟩:=aQ.1 g;cases q
   .exact .inr ⟨rfl,g,hp⟩
  .rw[e2 f hn]at g2;exact .inl ⟨hn,aQ.2 ⟨bb,m2 f bb hn g1,g2⟩⟩
 have pvNew:fN S.w0.heap.size S.O (upM σ.m [(nx,G)]) (upE E nx (E' y)) w'.heap.size D':=by
  refine⟨λf i k v=>?_,λf i k v u b' X hi e=>?_,λf i k u j h1 h2=>?_⟩
  .rcases prv f i k v with⟨_,g⟩ | ⟨_,g1,g2⟩
   .obtain⟨q1,q2,q3⟩:=h.pv.own f i k g;refine⟨q1,qX q2 z.chg.size,λhd=>?_⟩;rcases z.dhi _ hd with r | r | ⟨_,_,r,_⟩
    .exact q3 r
    .omega
    .cases r
   .obtain⟨_,q2,q3⟩:=z.held.pv.own y i k g2;exact⟨.inl (wH h.low.size g1),q2,q3⟩
  .by_cases hn:u=nx
   .subst hn;rw[e1]at hi e;rcases prv f i k v with⟨_,g⟩ | ⟨_,g1,g2⟩
    .have:=(h.pv.own f i k g).2.1;have:=fr hi;omega
    .exact z.held.pv.ent y i k g2 y G hk0 hi e
   .have A:=m2 u b' hn X;rw[e2 u hn]at hi e;have hlt:=(h.own u b' A hi).2.1;rcases prv f i k v with⟨_,g⟩ | ⟨_,g1,_⟩
    .exact h.pv.ent f i k g u b' A hi e
    .omega
  .rcases prv f i k h1 with⟨n1,g⟩ | ⟨n1,g1,g2⟩<;>rcases prv u j k h2 with⟨n2,q⟩ | ⟨n2,q1,q2⟩
   .exact h.pv.inj f i k u j g q
   .have:=(h.pv.own f i k g).2.1;omega
   .have:=(h.pv.own u j k q).2.1;omega
   .exact⟨n1.trans n2.symm,(z.held.pv.inj y i k y j g2 q2).2⟩
 refine h.go (m':=upM σ.m [(nx,G)]) ⟨z.dlo,λb hb=>keep b (h.dlt b hb)⟩ (λk=>?_) (λf b hm=>?_) (λf b hm hi=>?_) (λf u b b' hb X hi V e=>?_)
  (h.low.step z.chg.os z.chg.tape z.chg.output z.chg.size λk v _=>keep k (qX v h.low.size)) z.dlt (λb hb=>?_) pvNew
 .by_cases v:k=nx
  .subst v;exact .inr hu
  .exact .inl λb' X=>⟨b',m2 k b' v X,rfl,qJ _,λ_=>e2 k v⟩
 .by_cases v:f=nx
  .subst v
   right
   have eb:=m1 b hm;subst eb;rw[e1];exact eJ.mono (C:=⟨w',D',upM (bN []) [(y,b)],E'⟩) (C':=⟨w',D',upM σ.m [(f,b)],upE E f (E' y)⟩) ⟨λ_ g=>g,λ_ _=>rfl⟩ (λx hx=>by rw[hb0]at hx;cases hx) (λ_=>rfl) (λ_ _ _=>rfl) (z.held.bl y b hk0)
  .have A:=m2 f b v hm;exact .inl ⟨A,e2 f v,λhi=>keep _ (h.own f b A hi).2.1,λi k hr=>keep _ (h.pv.lt A hr)⟩
 .by_cases v:f=nx
  .subst v;rw[e1]at hi ⊢;exact⟨.inl (wH h.low.size (fr hi)),z.held.own y G hk0 hi⟩
  .have A:=m2 f b v hm;rw[e2 f v]at hi ⊢;obtain⟨g1,g2,g3⟩:=h.own f b A hi;refine⟨g1,qX g2 z.chg.size,λhd=>?_⟩;rcases z.dhi _ hd with g | g | ⟨_,_,g,_⟩
   .exact g3 g
   .omega
   .cases g
 .by_cases v:f=nx<;>by_cases L:u=nx
  .rw[v,L]
  .subst v;rw[e1]at hi e;rw[e2 u L]at V e;have:=(h.own u b' (m2 u b' L X) V).2.1;have:=fr hi;omega
  .subst L;rw[e1]at V e;rw[e2 f v]at hi e;have:=(h.own f b (m2 f b v hb) hi).2.1;have:=fr V;omega
  .rw[e2 f v]at hi e;rw[e2 u L]at V e;exact h.inj f u b b' (m2 f b v hb) (m2 u b' L X) hi V e
 .rcases z.dhi b hb with g | g | ⟨_,_,g,_⟩
  .exact .inl g
  .exact .inr (.inl (wH h.low.size g))
  .cases g
def aP.pureCall {S:Base} {σ:Sig} {a:Act} {w w':World} {D:Nat->Prop} {E:Nat->Ent} (h:aP S σ a w D E) (hw:Below w.heap.size w w'):
  aP S σ a w' (λb=>D b\/iH w w' b) E:=
 h.world hw (λb=>⟨λg=>g.imp id (λg=>⟨g,.inr g⟩),λg=>g.imp id (λg=>g.1)⟩) (λb g=>by
  rcases g with g | g
  .exact qX (h.dlt b g) hw.size
  .exact g.2)
def aP.heldOf {S:Base} {σ:Sig} {a:Act} {w:World} {D:Nat->Prop} {E:Nat->Ent} (h:aP S σ a w D E) (ns:List Nat):Held S.P w D (bN (ff σ.m ns)) E:=by
 have mem:∀k b,bN (ff σ.m ns) k=some b->σ.m k=some b:=λk b u=>by
  have:=fe σ.m k ns;unfold bN at u;rw[this]at u;split at u
  .exact u
  .cases u
 refine⟨λe b hb=>?_,λe b hb hi=>(h.own e b (mem e b hb) hi).2,λe f b A hb r=>h.inj e f b A (mem _ _ hb) (mem _ _ r),?_⟩
 rotate_left
 .have v:∀e i b,cA (bN (ff σ.m ns)) E e i b->cA σ.m E e i b:=λe i b hb=>by
   obtain⟨G,g1,g2⟩:=aQ.1 hb;exact aQ.2 ⟨G,mem e G g1,g2⟩
  exact⟨λe i b hb=>⟨.inr trivial,(h.pv.own e i b (v _ _ _ hb)).2⟩,λe i b hb f z y hi=>h.pv.ent e i b (v _ _ _ hb) f z (mem _ _ y) hi,λe i b f j O L=>h.pv.inj e i b f j (v _ _ _ O) (v _ _ _ L)⟩
 exact eJ.mono (C:=⟨w,D,σ.m,E⟩) (C':=⟨w,D,bN (ff σ.m ns),E⟩) ⟨λ_ g=>g,λ_ _=>rfl⟩ (λx _ A r=>⟨A,mem _ _ r,rfl,qJ _,λ_=>rfl⟩) (λ_=>rfl) (λ_ _ _=>rfl) (h.bl e b (mem e b hb))
variable {D:Nat->Prop} {w:World}
def A4(ns:List Nat)(h:AV.relL P ⟨w,D,m,E⟩ as us):
  AV.relL P ⟨w,D,bN (ff m ns),E⟩ as us:=
 AV.relL_mono (C:=⟨w,D,m,E⟩) (C':=⟨w,D,bN (ff m ns),E⟩) ⟨λ_ h=>h,λ_ _=>rfl⟩ (λk _ e b=>⟨e,(by
  have:=fe m k ns;replace b:(ff m ns).lookup k=some e:=b;rw[this]at b;split at b
  .exact b
  .cases b),rfl,qJ _,λ_=>rfl⟩) h
variable {S:Base} {a:Act} {args:List AV} {u:Value} {σ:Sig} {callee:AV} {c:Core} {nx:Nat}
def FR(hK:ai S.P S.G K)(h:aP S σ a w D E)
  (j:Ar S.P K nx σ.m callee args=some c) (hn:∀q∈c.need,q) (hunm:∀k,c.new=some k->Unm k σ) (X:callee.rel S.P ⟨w,D,σ.m,E⟩ u) (L:AV.relL S.P ⟨w,D,σ.m,E⟩ args us):
  ∃f as,(do let d <- Deferred.ofValue u us.toArray;invoke d.target d.args).run S.P w=.ok (.enter f as) w/\
   Calls S.P f as w λe w''=>∃v,e=.returned v/\Outcome S ⟨σ.T,upM σ.m c.upd,σ.sv⟩ a c.val v w'':=by
 have O:∀f caps,u=.func (.func f) #[] caps->goes S.P f=true->(do let d <- Deferred.ofValue u us.toArray;invoke d.target d.args).run S.P w=.ok (.enter f (us.toArray++caps)) w:=by
  intro f caps hu hg;subst hu;simp only[Deferred.ofValue,wQ,yK,vX,invoke,gX];exact lq hg w _
 unfold Ar at j;split at j
 .rename_i f caps;split at j
  case isFalse=>cases j
  rename_i hg;split at j
  case isFalse=>cases j
  rename_i hall;split at j
  case h_2=>cases j
  rename_i cr hk;have hns:∀k∈cP σ.m (AV.namesL (gP S.P K f args caps++caps)),∀b,σ.m k=some b->∀x∈b.names,x∈cP σ.m (AV.namesL (gP S.P K f args caps++caps)):=by
   intro k hk b hb x hx;rw[qO]at hall;have:=hall k hk;rw[hb]at this;unfold mR at this;simp only[qO]at this;simpa using this x hx
  obtain⟨cs,hu,hcaps⟩:=X;have hall2:=A4 (cP σ.m (AV.namesL (gP S.P K f args caps++caps))) (AV.relL_append (HN (P:=S.P) (K:=K) (f:=f) (caps:=caps) L) hcaps);have e:us.toArray++cs.toArray=(us++cs).toArray:=by simp
  have i:=λhp:cr.pre=>hK f _ _ cr hk hp w D E (us++cs) h.dlt (lM.mono (C:=⟨w,D,σ.m,E⟩) ⟨λ_ g=>g,λ_ _=>rfl⟩ h.gl) hall2 (h.heldOf _)
  split at j
  .rename_i k0 b0 V;split at j
   case isFalse=>cases j
   rename_i hnm;cases j;unfold UJ at V;split at V
   case h_2=>cases V
   rename_i k1 b1 hmem hupd;split at V
   case isFalse=>cases V
   rename_i hb0;cases V;refine⟨f,_,O f _ hu hg,?_⟩;rw[e];refine(i (hn _ (by simp))).mono λe w' he=>?_
   obtain⟨v,D',E',rfl,hl,hv⟩:=he;rw[hmem,hupd]at hl hv;refine⟨v,rfl,D',upE E nx (E' k0),h.calledNew (hunm nx rfl) (wY.1 hb0) hl,?_⟩;refine AV.rel_ren (m:=upM (bN []) [(k0,b0)]) (E:=E') (k:=k0) ?_ ?_ (λx hx=>?_) hv
   .show upM σ.m [(nx,b0)] nx=upM (bN []) [(k0,b0)] k0;rw[da,da,if_pos rfl,if_pos rfl]
   .simp[upE]
   .have:=qO.1 hnm x hx;simpa using this
  .split at j
   case h_2=>cases j
   rename_i q hq;split at j
   case isFalse=>cases j
   rename_i hnl;cases j;refine⟨f,_,O f _ hu hg,?_⟩;rw[e];refine(i (hn _ (by simp))).mono λe w' he=>?_
   obtain⟨v,D',E',rfl,hl,hv⟩:=he;obtain⟨g1,g2⟩:=h.called hns hq (λp hp=>hn p (by simp[hp])) hl;refine⟨v,rfl,D',_,g1,AV.rel_mono (C:=⟨w',D',upM (bN (ff σ.m (cP σ.m (AV.namesL (gP S.P K f args caps++caps))))) cr.upd,E'⟩) (C':=⟨w',D',upM σ.m cr.upd,λk=>if k∈cP σ.m (AV.namesL (gP S.P K f args caps++caps))then E' k else E k⟩) ⟨λ_ g=>g,λ_ _=>rfl⟩ (λnm hnm b' A=>?_) hv⟩
   have hin:nm∈cP σ.m (AV.namesL (gP S.P K f args caps++caps)):=by
    have:=qO.1 hnl nm hnm;simpa using this
   have hml:∀b,σ.m nm=some b->bN (ff σ.m (cP σ.m (AV.namesL (gP S.P K f args caps++caps)))) nm=some b:=λb hb=>by
    show(ff σ.m _).lookup nm=some b;rw[fe,if_pos hin];exact hb
   replace A:upM σ.m cr.upd nm=some b':=A;rw[dQ]at A;have ex:∃b0,σ.m nm=some b0/\upM (bN (ff σ.m (cP σ.m (AV.namesL (gP S.P K f args caps++caps))))) cr.upd nm=some b':=by
    split at A
    .rename_i b1 h1;obtain⟨b0,k1,_⟩:=rz hq (λp hp=>hn p (by simp[hp])) nm b1 h1;exact⟨b0,k1,by rw[dQ,h1];exact A⟩
    .rename_i h1;exact⟨b',A,by rw[dQ,h1];exact hml b' A⟩
   obtain⟨b0,k1,k2⟩:=ex;exact⟨b',k2,rfl,qJ _,λ_=>if_pos hin⟩
 .rename_i a1 r pre g x;split at j
  case h_2=>cases j
  rename_i y hy;cases j;obtain⟨u1,us',e,r1,r2⟩:=L;simp only[AV.relL]at r2;subst r2 e;obtain⟨f,caps,hu,hg,i⟩:=X;have hr:=AV.as_rel hy r1;refine⟨f,_,O f _ hu hg,?_⟩;refine(i w D (λb hb=>hb) h.dlt (λ_ _=>rfl) y u1 (hn _ (by simp)) hr).mono λe w' he=>?_
  obtain⟨v,rfl,hw,hv⟩:=he;exact⟨v,rfl,_,E,h.pureCall hw,hv⟩
 .rename_i a1 b1 r pre g x x2;split at j
  case h_2=>cases j
  rename_i y z hy hz;cases j;obtain⟨u1,us',e,r1,u2,us'',e2,r2,r3⟩:=L;simp only[AV.relL]at r3;subst r3 e2 e;obtain⟨f,caps,hu,hg,i⟩:=X;refine⟨f,_,O f _ hu hg,?_⟩;refine(i w D (λb hb=>hb) h.dlt (λ_ _=>rfl) y z u1 u2 (hn _ (by simp)) (AV.as_rel hy r1) (AV.as_rel hz r2)).mono λe w' he=>?_
  obtain⟨v,rfl,hw,hv⟩:=he;exact⟨v,rfl,_,E,h.pureCall hw,hv⟩
 .cases j
mutual
def P5(m:Nat->Option Blk): AV->Option (List Prop×AV)
 | .buf nm n=>match m nm with
  | some (.buf _ t xs [])=>some ([xs.length=n],.dat (.sl t) xs)
  | _=>none
 | .agg cs=>match EJ m cs with
  | some (ns,ds)=>some (ns,.agg ds)
  | none=>none
 | a=>if a.names.isEmpty then some ([],a)else none
def EJ(m:Nat->Option Blk): List AV->Option (List Prop×List AV)
 | []=>some ([],[])
 | a::as=>match P5 m a,EJ m as with
  | some (p,x),some (q,xs)=>some (p++q,x::xs)
  | _,_=>none
end
def Pn: AV->AV
 | .dat (.int k) x=>.dat (.int k) x
 | .dat .bool x=>.dat .bool x
 | .dat .str x=>.dat .str x
 | _=>.top
def aBn: AV->AV
 | .tup vs=>.tup (vs.map Pn)
 | a=>Pn a
def vk{C C':Ctx}{a:AV}(h:a.rel P C v): (Pn a).rel P C' v:=by
 unfold Pn;split
 .exact h
 .exact h
 .exact h
 .trivial
def G6{C C':Ctx}: ∀{as:List AV} {us:Lv},AV.relL P C as us->AV.relL P C' (as.map Pn) us
 | [],_,h=>h
 | a::as,_,h=>by
  obtain⟨u,b,e,g,f⟩:=h;exact⟨u,b,e,vk g,G6 f⟩
def SG{C C':Ctx}{a:AV}(h:a.rel P C v): (aBn a).rel P C' v:=by
 unfold aBn;split
 .obtain⟨us,e,b⟩:=h;exact⟨us,e,G6 b⟩
 .exact vk h
def qe(m:Nat->Option Blk)(E:Nat->Ent)(D:Nat->Prop): Nat->Prop:=λb=>D b\/bw m E b
def aB3(h:aP S σ a w D E){e:Nat}{el:TypeId}{t:Ty}{xs:List t.den}(hm:σ.m e=some (.buf el t xs [])):
  ag w (qe σ.m E D) (.sl t) xs [(E e).handle xs.length]:=by
 obtain⟨raw,r,V⟩:=h.bl e _ hm;cases f:(E e).isNil with
 | true=>
  have L:(E e).handle xs.length=.slice none 0 0:=by unfold Ent.handle;rw[f];rfl
  rw[L]at r ⊢;rcases r.2 with⟨_,X⟩ | ⟨g,cap,O,x,_⟩
  .have:xs=[]:=vW X;subst this;exact bv _ _ _
  .cases x
 | false=>
  have L:(E e).handle xs.length=.slice (some ⟨(E e).b,0,none⟩) xs.length (E e).cap:=by unfold Ent.handle;rw[f];rfl
  rw[L]at r ⊢;have z:xs.length<=(E e).cap:=by
   rcases r.2 with⟨x,_⟩ | ⟨g,cap,O,x,_,_,z,_⟩
   .cases x
   .simp only[yD,yB]at x;omega
  refine⟨_,_,rfl,z,(λh=>by cases h),(λad G _=>by cases G;rfl),λi y hy=>?_⟩;have T:=V i y hy;simp only[List.lookup]at T;refine⟨_,_,rfl,.inr ⟨e,_,hm,f,rfl⟩,?_,aw (λ_ g=>.inl g) (λ_ _=>rfl) T⟩;intro j u v;rw[vV]at v;split at v
  .rw[vJ]at v;have A:i*t.sz+j<xs.length*t.sz:=by rw[<- r.1];exact(qG.1 v).1
   show w.cell? ⟨(E e).b,0+i*t.sz+j,none⟩=some u;rw[zD,r.cellAt _ A];exact v
  .cases v
mutual
def Uc(h:aP S σ a w D E): ∀{x y:AV} {ns:List Prop} {v:Value},P5 σ.m x=some (ns,y)->(∀q∈ns,q)->x.rel S.P ⟨w,D,σ.m,E⟩ v->y.rel S.P ⟨w,qe σ.m E D,bN [],E⟩ v
 | x,y,ns,v,b,j,f=>by
  unfold P5 at b;split at b
  .rename_i L n;split at b
   case h_2=>cases b
   rename_i el t xs hm;cases b;have e:xs.length=n:=j _ (by simp);have r:=(f _ hm).2 e;rw[<- e]at r;rw[r];exact aB3 h hm
  .rename_i cs;split at b
   case h_2=>cases b
   rename_i u ds z;cases b;obtain⟨us,G,A⟩:=f;exact⟨us,G,xd h z j A⟩
  .split at b
   case isFalse=>cases b
   rename_i i;cases b;exact sW (C:=⟨w,D,σ.m,E⟩) (C':=⟨w,qe σ.m E D,bN [],E⟩) i ⟨λ_ g=>.inl g,λ_ _=>rfl⟩ f
def xd(h:aP S σ a w D E): ∀{xs ys:List AV} {ns:List Prop} {vs:Lv},EJ σ.m xs=some (ns,ys)->(∀q∈ns,q)->AV.relL S.P ⟨w,D,σ.m,E⟩ xs vs->AV.relL S.P ⟨w,qe σ.m E D,bN [],E⟩ ys vs
 | [],ys,ns,vs,b,j,i=>by
  simp only[EJ,wM,qCd]at b;rw[<- b.2];exact i
 | x::xs,ys,ns,vs,b,j,i=>by
  simp only[EJ]at b;split at b
  .rename_i p y q r A u;cases b;obtain⟨v,f,e,g1,g2⟩:=i;exact⟨v,f,e,Uc h A (λz g=>j z (qI.2 (.inl g))) g1,xd h u (λz g=>j z (qI.2 (.inr g))) g2⟩
  .cases b
end
def P4(P:Program)(K:Kt)(m:Nat->Option Blk)(callee:AV)(args:List AV): Option Core:=match callee with
 | .fn f caps=>if goes P f&&(AV.namesL caps).isEmpty then
   match EJ m args with
   | some (ns,as)=>match K f (gP P K f as caps++caps) []with
    | some c=>if c.upd.isEmpty then some {need:=c.pre::ns,val:=aBn c.ret} else none
    | none=>none
   | none=>none
  else none
 | _=>none
def Yd(hK:ai S.P S.G K)(h:aP S σ a w D E)
  (i:P4 S.P K σ.m callee args=some c) (hn:∀q∈c.need,q) (z:callee.rel S.P ⟨w,D,σ.m,E⟩ u) (y:AV.relL S.P ⟨w,D,σ.m,E⟩ args us):
  ∃f as,(do let d <- Deferred.ofValue u us.toArray;invoke d.target d.args).run S.P w=.ok (.enter f as) w/\
   Calls S.P f as w λe O=>∃v,e=.returned v/\Outcome S ⟨σ.T,upM σ.m c.upd,σ.sv⟩ a c.val v O:=by
 unfold P4 at i;split at i
 case h_2=>cases i
 rename_i f caps;split at i
 case isFalse=>cases i
 rename_i hg;simp only[qC]at hg;split at i
 case h_2=>cases i
 rename_i ns as hl;split at i
 case h_2=>cases i
 rename_i cr hk;split at i
 case isFalse=>cases i
 rename_i X;cases i;have hup':cr.upd=[]:=wY.1 X;obtain⟨cs,rfl,r⟩:=z;have ha:=xd h hl (λq hq=>hn q (by simp[hq])) y;have hcp:AV.relL S.P ⟨w,qe σ.m E D,bN [],E⟩ caps cs:=AV.relL_mono (C:=⟨w,D,σ.m,E⟩) (C':=⟨w,qe σ.m E D,bN [],E⟩) ⟨λ_ g=>.inl g,λ_ _=>rfl⟩ (λV hm=>by
  have:=wY.1 hg.2;rw[this]at hm;cases hm) r
 have A:=AV.relL_append (HN (P:=S.P) (K:=K) (f:=f) (caps:=caps) ha) hcp;have hD:∀b,qe σ.m E D b->b<w.heap.size:=λb hb=>by
  rcases hb with g | ⟨V,L,g1,g2,rfl⟩
  .exact h.dlt b g
  .exact(h.own V L g1 g2).2.1
 have x:=hK f _ _ cr hk (hn _ (by simp)) w (qe σ.m E D) E (us++cs) hD (lM.mono (C:=⟨w,D,σ.m,E⟩) ⟨λ_ g=>.inl g,λ_ _=>rfl⟩ h.gl) A (Held.none _ _ _ _);have e:us.toArray++cs.toArray=(us++cs).toArray:=by simp
 refine⟨f,us.toArray++cs.toArray,?_,?_⟩
 .simp only[Deferred.ofValue,wQ,yK,vX,invoke,gX];exact lq hg.1 w _
 .rw[e];refine x.mono λe w' he=>?_
  obtain⟨v,D',E',rfl,j,hv⟩:=he;have hb:Below w.heap.size w w':=⟨j.chg.os,j.chg.tape,j.chg.output,j.chg.size,λk hk=>j.chg.block k hk λ⟨V,L,g,_⟩=>(by cases g)⟩;exact⟨v,rfl,_,E,h.pureCall hb,SG hv⟩
mutual
def KV{m m':Nat->Option Blk}: ∀{x:AV},(∀k∈x.names,m' k=m k)->P5 m' x=P5 m x
 | x,h=>by
  unfold P5;split
  .rename_i b n;rw[h b (by simp[AV.names])]
  .rename_i cs;rw[oS λk e=>h k (by simpa[AV.names]using e)]
  .rfl
def oS{m m':Nat->Option Blk}: ∀{xs:List AV},(∀k∈AV.namesL xs,m' k=m k)->EJ m' xs=EJ m xs
 | [],_=>rfl
 | x::xs,h=>by
  simp only[EJ];rw[KV (x:=x) λk b=>h k (by simp[AV.namesL,b]),oS (xs:=xs) λk b=>h k (by simp[AV.namesL,b])]
end
def QB(P:Program)(K:Kt)(nx:Nat)(m:Nat->Option Blk)(callee:AV)(args:List AV): Option Core:=match Ar P K nx m callee args with
 | some c=>some c
 | none=>match Ar P K nx m (lr callee) (uy args)with
  | some c=>some c
  | none=>P4 P K m callee args
def Y4(y:ai S.P S.G K)(h:aP S σ a w D E)
  (j:QB S.P K nx σ.m callee args=some c) (x:∀q∈c.need,q) (i:∀k,c.new=some k->Unm k σ) (g:callee.rel S.P ⟨w,D,σ.m,E⟩ u) (b:AV.relL S.P ⟨w,D,σ.m,E⟩ args us):
  ∃f as,(do let d <- Deferred.ofValue u us.toArray;invoke d.target d.args).run S.P w=.ok (.enter f as) w/\
   Calls S.P f as w λe r=>∃v,e=.returned v/\Outcome S ⟨σ.T,upM σ.m c.upd,σ.sv⟩ a c.val v r:=by
 unfold QB at j;split at j
 .rename_i c1 z;cases j;exact FR y h z x i g b
 .split at j
  .rename_i c1 z;cases j;exact FR y h z x i (AV.rel_forg g) (AV.relL_forg b)
  .exact Yd y h j x g b
def selC(P:Program)(K:Kt)(nx:Nat)(m:Nat->Option Blk)(args:List AV)(t:Ty): List AV->Option (List (List Prop×t.den))
 | []=>some []
 | c::cs=>match Ar P K nx m c args,selC P K nx m args t cs with
  | some co,some r=>match co.upd,co.new,co.val.as t with
   | [],none,some x=>some ((co.need,x)::r)
   | _,_,_=>none
  | _,_=>none
def vg{α:Type}(i:Nat): Nat->List (List Prop×α)->List Prop
 | _,[]=>[]
 | j,q::r=>q.1.map (λp=>i=j->p)++vg i (j+1) r
def nR(P:Program)(K:Kt)(nx:Nat)(m:Nat->Option Blk)(f:AV)(args:List AV): Option Core:=match f with
 | .sel i cs=>match cs with
  | []=>none
  | c::r=>match Ar P K nx m c args with
   | some co=>match co.val with
    | .dat t _=>match selC P K nx m args t (c::r)with
     | some q=>some {need:=vg (Dc i) 0 q,val:=.dat t (Du (q.map (·.2)) (Dc i) t.dflt)}
     | none=>none
    | _=>none
   | none=>none
 | f=>QB P K nx m f args
def SD{t:Ty}: ∀{cs:List AV} {q:List (List Prop×t.den)},selC P K nx m args t cs=some q->∀{j:Nat} {c:AV},cs[j]?=some c->
  ∃b x,Ar P K nx m c args=some b/\b.upd=[]/\b.new=none/\b.val.as t=some x/\q[j]?=some (b.need,x)
 | [],_,_,j,c,h=>by simp at h
 | c'::cs,q,e,j,c,h=>by
  unfold selC at e;split at e
  case h_2=>cases e
  rename_i b r g f;split at e
  case h_2=>cases e
  rename_i x v u i;cases e;cases j with
  | zero=>
   simp only[qAs,wM]at h;subst h;exact⟨b,x,g,v,u,i,rfl⟩
  | succ j=>simpa using SD f (by simpa using h)
def AS{α:Type}{i:Nat}: ∀{q:List (List Prop×α)} {b j:Nat} {ns:List Prop} {x:α},(∀p∈vg i b q,p)->q[j]?=some (ns,x)->i=b+j->∀p∈ns,p
 | [],_,_,_,_,_,h,_=>by simp at h
 | y::q,b,j,ns,x,g,h,e=>by
  intro p f;cases j with
  | zero=>
   simp only[qAs,wM]at h;subst h;exact g (i=b->p) (by simp only[vg,qI,vM];exact .inl ⟨p,f,rfl⟩) Z
  | succ j=>
   exact AS (b:=b+1) (λp f=>g p (by simp only[vg,qI];exact .inr f)) (by simpa using h) Z p f
def LP(hK:ai S.P S.G K)(h:aP S σ a w D E)
  (g:nR S.P K nx σ.m callee args=some c) (X:∀q∈c.need,q) (A:∀k,c.new=some k->Unm k σ) (y:callee.rel S.P ⟨w,D,σ.m,E⟩ u) (j:AV.relL S.P ⟨w,D,σ.m,E⟩ args us):
  ∃f as,(do let d <- Deferred.ofValue u us.toArray;invoke d.target d.args).run S.P w=.ok (.enter f as) w/\
   Calls S.P f as w λe O=>∃v,e=.returned v/\Outcome S ⟨σ.T,upM σ.m c.upd,σ.sv⟩ a c.val v O:=by
 unfold nR at g;split at g
 .rename_i i cs;split at g
  .cases g
  rename_i c0 r;split at g
  case h_2=>cases g
  rename_i co0 _;split at g
  case h_2=>cases g
  rename_i t _ _;split at g
  case h_2=>cases g
  rename_i q hq;cases g;obtain⟨vs,g1,g2⟩:=y;have L:i.toNat<(c0::r).length:=by rw[AV.relL_length g1];exact(qG.1 g2).1
  obtain⟨co,x,k1,k2,k3,k4,V⟩:=SD hq (qB L);obtain⟨u',g3,g4⟩:=AV.relL_get g1 (qB L);have eu:u'=u:=wW (g3.symm.trans g2);subst eu;have z:=AS (b:=0) (i:=i.toNat) X V Z;obtain⟨f,as,h1,h2⟩:=FR hK h k1 z (λk hk=>by rw[k3]at hk;cases hk) g4 j;refine⟨f,as,h1,h2.mono λe w' he=>?_⟩;obtain⟨v,rfl,D',E',p1,p2⟩:=he;rw[k2]at p1 p2;refine⟨v,rfl,D',E',p1,?_⟩;have hx:=AV.as_rel k4 p2
  have ev:(q.map (·.2)).getD i.toNat t.dflt=x:=by
   simp only[List.getD,qR,V];rfl
  show ag _ _ t ((q.map (·.2)).getD i.toNat t.dflt) [v];rw[ev];exact hx
 .exact Y4 hK h g X A y j
def aBU: RV->Option Core
 | (.ip t x,_)=>some {val:=.ip t x}
 | (.ptr nm g i c,some b)=>some {need:=[b.len=g],val:=.ptr nm g i c}
 | (.fn f caps,_)=>some {val:=.fn f caps}
 | (.ipv x,_)=>some {val:=.ipv x}
 | (.ips cs,_)=>some {val:=.ips cs}
 | (.ia t xs,_)=>some {val:=.ia t xs}
 | (.sel i cs,_)=>if cs.all aHI then some {val:=.sel i cs} else none
 | _=>none
def DN: Operand->Operand->Bool
 | .tmp i,.tmp j=>i==j
 | .const (.int k x),.const (.int k' y)=>decide (k=k')&&decide (x=y)
 | _,_=>false
def FV(P:Program)(nx:Nat)(b:Builtin)(ts:Array TypeId)(vs:List RV): Option Core:=
 match b,vs with
 | .len,[x]=>match ts[0]? with
  | some t=>aHE P t x
  | none=>none
 | .append,[s,x]=>match ts.toList with
  | [t,t']=>if t=t' then match LV P t s x with
   | some c=>some c
   | none=>aH0 P nx t s x
   else none
  | _=>none
 | .copy,[d,s]=>match ts.toList with
  | [t,_]=>aCw P t d s
  | _=>none
 | .max,vs=>match(vs.map (·.1):List AV)with
  | .dat (.int k) x::r=>match mT true k x r with
   | some y=>some {val:=.dat (.int k) y}
   | none=>none
  | _=>none
 | .min,vs=>match(vs.map (·.1):List AV)with
  | .dat (.int k) x::r=>match mT false k x r with
   | some y=>some {val:=.dat (.int k) y}
   | none=>none
  | _=>none
 | _,_=>none
def opE(P:Program)(K:Kt)(mt:Bool)(nx:Nat)(m:Nat->Option Blk)(o:Op)(vs:List RV): Option Core:=
 match o,vs with
 | .move _,[x]=>some {val:=x.1}
 | .assign _,[x]=>some {val:=x.1}
 | .alloc e,[]=>match zr P nx e with
  | some c=>some c
  | none=>VF P nx e
 | .build t parts,vs=>Vo P t (parts.toList.map (·.1)) vs
 | .box e _,[x]=>match sw P m mt e x.1 with
  | some c=>some c
  | none=>match LS P mt nx e x with
   | some c=>some c
   | none=>aHX P mt nx e x
 | .buildSlice t len parts,vs=>match KO P mt nx t len (parts.toList.map (·.1)) vs with
  | some c=>some c
  | none=>match T8 P mt t len (parts.toList.map (·.1)) (vs.map (·.1))with
   | some c=>some c
   | none=>aHD P mt nx t len (parts.toList.map (·.1)) (vs.map (·.1))
 | .load t _,[p]=>match EF P t p with
  | some c=>some c
  | none=>match uG P t p with
   | some c=>some c
   | none=>Ya P t p
 | .store t _ _,[p,v]=>match u7 P t p v with
  | some c=>some c
  | none=>match u9 P t p v with
   | some c=>some c
   | none=>match Si P t p v with
    | some c=>some c
    | none=>kz P m t p v
 | .nilCheck _,[p]=>aBU p
 | .binOp op xT _ y _,[a,b]=>match UD P op xT y a.1 b.1 with
  | some c=>some c
  | none=>match UX P op xT a.1 b.1 with
   | some c=>some c
   | none=>match(if mt then tS op a.1 b.1 else none)with
    | some c=>some c
    | none=>aHY P op xT a.1 b.1
 | .unOp op _ _,[a]=>unE op a.1
 | .convert s d _,[a]=>match Vm P s d a.1 with
  | some c=>some c
  | none=>aCx P s d a.1
 | .makeInterface t _,[x]=>TV P t x.1
 | .typeAssert _ _ t ok,[x]=>LU P t ok x.1
 | .makeFunc (.func f) first _,vs=>if first.isEmpty then some {val:=.fn f (vs.map (·.1))} else none
 | .makeSlice t l c,[a,b]=>if mt then ED P t a.1 b.1 (DN l c)else aB0 P nx t a.1 b.1 (DN l c)
 | .slice t _ none none none,[x]=>match zp P t x with
  | some c=>some c
  | none=>AQ P t x.1 none none
 | .slice t _ (some _) none none,[x,l]=>AQ P t x.1 (some l.1) none
 | .slice t _ none (some _) none,[x,h]=>AQ P t x.1 none (some h.1)
 | .slice t _ (some _) (some _) none,[x,l,h]=>AQ P t x.1 (some l.1) (some h.1)
 | .fieldAddr s _ f,[p]=>sc P s f p
 | .field t _ f,[x]=>UQ P t f x.1
 | .indexAddr t _ _,[x,i]=>match ym P t x i.1 with
  | some c=>some c
  | none=>rY P t x i.1
 | .index t _ _,[x,i]=>match EP P t x.1 i.1 with
  | some c=>some c
  | none=>Uz P t x.1 i.1
 | .extract _ i,[x]=>FA i x.1
 | .call c,vs=>match c.callee,vs with
  | .builtin b,vs=>FV P nx b c.argTypes vs
  | .value _,f::args=>nR P K nx m f.1 (args.map (·.1))
  | _,_=>none
 | _,_=>none
def D7(h:AV.relL P C [] us): us=[]:=h
def gy{a:AV}(h:AV.relL P C [a] [u]): a.rel P C u:=by
 obtain⟨_,_,e,g,_⟩:=h;cases e;exact g
def vE{a b:AV}{u v:Value}(h:AV.relL P C [a,b] [u,v]): a.rel P C u/\b.rel P C v:=by
 obtain⟨_,_,e,g,_,_,f,g2,_⟩:=h;cases e;cases f;exact⟨g,g2⟩
def aEl{a b c:AV}{u v x:Value}(h:AV.relL P C [a,b,c] [u,v,x]): a.rel P C u/\b.rel P C v/\c.rel P C x:=by
 obtain⟨_,_,e,g,_,_,i,g2,_,_,f,g3,_⟩:=h;cases e;cases i;cases f;exact⟨g,g2,g3⟩
def Yields.value {S:Base} {σ:Sig} {a:Act} {x:AV} {s:Sem Value} {w:World} (h:∃r w',s.run S.P w=.ok r w'/\Outcome S σ a x r w'):
  Yields S σ a x ((do pure (Next.value (<- s)):Sem Next).run S.P w):=by
 obtain⟨r,w',e,b⟩:=h;exact .inl ⟨r,w',by simp[e],b⟩
def Yields.same {S:Base} {σ:Sig} {a:Act} {x:AV} {s:Sem Value} {w:World} {D:Nat->Prop} {E:Nat->Ent} (b:aP S σ a w D E) (h:∃r,s.run S.P w=.ok r w/\x.rel S.P ⟨w,D,σ.m,E⟩ r):
  Yields S σ a x ((do pure (Next.value (<- s)):Sem Next).run S.P w):=by
 obtain⟨r,f,e⟩:=h;exact Yields.value ⟨r,w,f,D,E,b,e⟩
def AU{i j:Operand}(h:DN i j=true)(a:Act): a.eval i=a.eval j:=by
 unfold DN at h;split at h
 .simp only[kK]at h;subst h;rfl
 .simp only[qC,qE]at h;obtain⟨rfl,rfl⟩:=h;rfl
 .cases h
def toList_map{α β:Type}(xs:Array α)(f:α->β): xs.map f=(xs.toList.map f).toArray:=by
 apply yQ;simp
variable {vs:List RV}
def LR(h:aP S σ a w D E){b:Builtin}{ts:Array TypeId}{ty:TypeId}{cs:Array Bool}
  (G:AV.relL S.P ⟨w,D,σ.m,E⟩ (vs.map (·.1)) us) (g:∀v∈vs,v.2=cJ σ.m v.1) (f:FV S.P nx b ts vs=some c) (O:∀q∈c.need,q) (hu:∀k,c.new=some k->Unm k σ):
  Yields S ⟨σ.T,upM σ.m c.upd,σ.sv⟩ a c.val ((builtin b ts ty cs us.toArray).run S.P w):=by
 unfold FV at f;split at f
 .rename_i x;obtain⟨u,i,e,g1,g2⟩:=G;have g2':=D7 g2;subst g2' e;split at f
  .rename_i t ht;obtain⟨r,h1,h2,h3,_⟩:=aB4 (ty:=ty) h ht (g x (by simp)) f O g1;rw[h3];exact Yields.same h ⟨r,h1,h2⟩
  .cases f
 .rename_i s x;obtain⟨u,i,e,g1,u2,V,e2,g3,g4⟩:=G;have L:=D7 g4;subst L e2 e;split at f
  .rename_i t t' A;split at f
   .rename_i ht;subst ht;have j:ts=#[t,t]:=by apply yQ;exact A
    subst j;split at f
    .rename_i c' hc';cases f;exact Yields.value (QP h (g s (by simp)) (g x (by simp)) hc' O g1 g3).2
    .exact Yields.value (aCJ h (g s (by simp)) (g x (by simp)) f O g1 g3 hu)
   .cases f
  .cases f
 .rename_i d s;obtain⟨u,i,e,g1,u2,V,e2,g3,g4⟩:=G;have L:=D7 g4;subst L e2 e;split at f
  .rename_i t t' A;have j:ts=#[t,t']:=by apply yQ;exact A
   subst j;exact Yields.value (YP h (g d (by simp)) (g s (by simp)) f O g1 g3)
  .cases f
 .split at f
  .rename_i k x r z;split at f
   .rename_i y X;cases f;rw[z]at G;obtain⟨u,i,e,g1,g2⟩:=G;subst e;simp only[AV.rel,ag,vF,vU]at g1;subst g1;have:=DX (P:=S.P) (w:=w) true k r i x y X g2;refine Yields.same h ⟨.int k y,?_,rfl⟩;simp only[Builtin.max_];exact this
   .cases f
  .cases f
 .split at f
  .rename_i k x r z;split at f
   .rename_i y X;cases f;rw[z]at G;obtain⟨u,i,e,g1,g2⟩:=G;subst e;simp only[AV.rel,ag,vF,vU]at g1;subst g1;have:=DX (P:=S.P) (w:=w) false k r i x y X g2;refine Yields.same h ⟨.int k y,?_,rfl⟩;simp only[Builtin.min_];exact this
   .cases f
  .cases f
 .cases f
def aEt(hK:ai S.P S.G K)(h:aP S σ a w D E){mt:Bool}{o:Oper}
  (X:AV.relL S.P ⟨w,D,σ.m,E⟩ (vs.map (·.1)) (o.op.operands.toList.map a.eval)) (O:∀v∈vs,v.2=cJ σ.m v.1)
  (j:opE S.P K mt nx σ.m o.op vs=some c) (hn:∀q∈c.need,q) (hu:∀k,c.new=some k->Unm k σ/\∀v∈vs,k∉v.1.names):
  Yields S ⟨σ.T,upM σ.m c.upd,σ.sv⟩ a c.val ((execOp a.eval o).run S.P w):=by
 have hu1:∀k,c.new=some k->Unm k σ:=λk hk=>(hu k hk).1
 obtain⟨dst,op,type,pos,after,guard⟩:=o;simp only at X j;unfold opE at j;split at j
 .rename_i x0 x;cases j;exact .inl ⟨_,w,rfl,D,E,h,gy X⟩
 .rename_i x0 x;cases j;exact .inl ⟨_,w,rfl,D,E,h,gy X⟩
 .split at j
  .rename_i c' z;cases j;exact Yields.value (Jm h z hu1)
  .exact Yields.value (VE h j hu1)
 .rename_i t parts;have hmap:(parts.map λ(i,x)=>(i,a.eval x))=((parts.toList.map (·.1)).zip (parts.toList.map λp=>a.eval p.2)).toArray:=by
   apply yQ;simp only[qBt,List.zip_map']
  have hops:(Op.build t parts).operands.toList.map a.eval=parts.toList.map λp=>a.eval p.2:=by
   simp[Op.operands]
  rw[hops]at X;obtain⟨r,L,A,V,_⟩:=Vn (w:=w) j hn O X;rw[V];refine Yields.same h ⟨r,?_,A⟩;rw[hmap];exact L
 .rename_i e x0 x;split at j
  .rename_i c' z;cases j;exact Yields.value (QF h z (gy X))
  split at j
  .rename_i c' z;cases j;exact Yields.value (QG h z hn hu1 (gy X))
  refine Yields.value (aCC h (O x (by simp)) j hn (λk hk=>⟨hu1 k hk,λhm=>?_⟩) (gy X));have:=(hu k hk).2 x (by simp);apply this;cases hx:x.1<;>rw[hx]at hm<;>first | exact hm | simpa[cM,AV.namesL]using hm
 .rename_i t len parts;have hmap:(parts.map λ(i,x)=>(i,a.eval x))=((parts.toList.map (·.1)).zip (parts.toList.map λp=>a.eval p.2)).toArray:=by
   apply yQ;simp only[qBt,List.zip_map']
  have hops:(Op.buildSlice t len parts).operands.toList.map a.eval=parts.toList.map λp=>a.eval p.2:=by
   simp[Op.operands]
  rw[hops]at X;split at j
  .rename_i c' z;cases j;obtain⟨r,w',L,A⟩:=P0 h O z hn X hu1;refine Yields.value ⟨r,w',?_,A⟩;rw[hmap];exact L
  split at j
  .rename_i c' z;cases j;obtain⟨r,w',L,A⟩:=T0 h z X;refine Yields.value ⟨r,w',?_,A⟩;rw[hmap];exact L
  obtain⟨_,r,w',L,A⟩:=aB2 h j X hu1;refine Yields.value ⟨r,w',?_,A⟩;rw[hmap];exact L
 .rename_i t x0 p;split at j
  .rename_i c' z;cases j;obtain⟨r,L,A,V,_⟩:=KL h (O p (by simp)) z hn (gy X);rw[V];exact Yields.same h ⟨r,L,A⟩
  split at j
  .rename_i c' z;cases j;obtain⟨r,L,A,V,_⟩:=w8 h (O p (by simp)) z hn (gy X);rw[V];exact Yields.same h ⟨r,L,A⟩
  obtain⟨r,L,A,V,_⟩:=Nq h (O p (by simp)) j hn (gy X);rw[V];exact Yields.same h ⟨r,L,A⟩
 .rename_i t x0 y0 p v;obtain⟨g1,g2⟩:=vE X;split at j
  .rename_i c' z;cases j;obtain⟨_,hval,w',L,D',E',A⟩:=GH h (O p (by simp)) (O v (by simp)) z hn g1 g2;refine .inr (.inl ⟨w',by simp[execOp,L],D',E',A,?_⟩);rw[hval];rfl
  split at j
  .rename_i c' z;cases j;obtain⟨_,hval,w',L,D',E',A⟩:=GI h (O p (by simp)) z hn g1 g2;refine .inr (.inl ⟨w',by simp[execOp,L],D',E',A,?_⟩);rw[hval];rfl
  split at j
  .rename_i c' z;cases j;obtain⟨_,hval,w',L,D',E',A⟩:=R9 h (O p (by simp)) (O v (by simp)) z hn g1 g2;refine .inr (.inl ⟨w',by simp[execOp,L],D',E',A,?_⟩);rw[hval];rfl
  obtain⟨_,hval,w',L,D',E',A⟩:=GG h (O p (by simp)) j hn g1 g2;refine .inr (.inl ⟨w',by simp[execOp,L],D',E',A,?_⟩);rw[hval];rfl
 .rename_i x0 p;have hp:=gy X;unfold aBU at j;split at j
  .cases j;obtain⟨bl,off,us,e,g⟩:=hp;refine .inl ⟨_,w,?_,D,E,h,⟨bl,off,us,rfl,g⟩⟩;simp[execOp,e]
  .rename_i nm g i c0 b;cases j;have hm:σ.m nm=some b:=(O _ (vG.2 rfl)).symm;obtain⟨_,_,e⟩:=(hp b hm).2 (hn _ (by simp));refine .inl ⟨_,w,?_,D,E,h,hp⟩;simp[execOp,e]
  .cases j;obtain⟨us,e,g⟩:=hp;refine .inl ⟨_,w,?_,D,E,h,⟨us,rfl,g⟩⟩;simp[execOp,e]
  .cases j;obtain⟨bl,off,u,e,g⟩:=hp;refine .inl ⟨_,w,?_,D,E,h,⟨bl,off,u,rfl,g⟩⟩;simp[execOp,e]
  .cases j;obtain⟨bl,off,us,e,g⟩:=hp;refine .inl ⟨_,w,?_,D,E,h,⟨bl,off,us,rfl,g⟩⟩;simp[execOp,e]
  .cases j;obtain⟨bl,off,e,g⟩:=hp;refine .inl ⟨_,w,?_,D,E,h,⟨bl,off,rfl,g⟩⟩;simp[execOp,e]
  .rename_i i cs _;split at j
   case isFalse=>cases j
   rename_i hall;cases j;obtain⟨vs,g1,g2⟩:=hp;have hlt:i.toNat<cs.length:=by rw[AV.relL_length g1];exact(qG.1 g2).1
   obtain⟨u',g3,g4⟩:=AV.relL_get g1 (qB hlt);have eu:=wW (g3.symm.trans g2);have hf:=qO.1 hall _ (wL hlt);have:∃f us,a.eval x0=.func (.func f) #[] us:=by
    rw[<- eu];cases hq:cs[i.toNat]<;>rw[hq]at hf g4<;>first | cases hf | skip
    obtain⟨us,e,_⟩:=g4;exact⟨_,_,e⟩
   obtain⟨f,us,e⟩:=this;refine .inl ⟨_,w,?_,D,E,h,⟨vs,g1,g2⟩⟩;simp[execOp,e]
  .cases j
 .rename_i bop xT x0 y0 yT x y;obtain⟨g1,g2⟩:=vE X;split at j
  .rename_i c' z;cases j;obtain⟨r,L,A,V,_⟩:=UC (w:=w) (x:=x0) (y:=y0) z g1 g2;rw[V];exact Yields.same h ⟨r,L,A⟩
  split at j
  .rename_i c' z;cases j;obtain⟨r,L,A,V,_⟩:=UW (w:=w) (x:=x0) (y:=y0) z g1 g2;rw[V];exact Yields.same h ⟨r,L,A⟩
  split at j
  .rename_i c' z;cases j;split at z
   case isFalse=>cases z
   obtain⟨r,L,A,V⟩:=SS (w:=w) (P:=S.P) (t:=xT) (x:=x0) (y:=y0) z g1 g2;rw[V];exact Yields.same h ⟨r,(by simpa[execOp]using L),A⟩
  obtain⟨r,L,A,V⟩:=Xx (w:=w) (x:=x0) (y:=y0) j hn g1 g2;rw[V];exact Yields.same h ⟨r,L,A⟩
 .rename_i uop t0 x0 x;obtain⟨r,L,A,V⟩:=aBB (P:=S.P) (w:=w) j hn (gy X);rw[V];exact Yields.same h ⟨r,L,A⟩
 .rename_i s d x0 x;split at j
  .rename_i c' z;cases j;exact Yields.value (Vl h z (gy X))
  obtain⟨r,L,A,V⟩:=SU (w:=w) j hn (gy X);rw[V];exact Yields.same h ⟨r,L,A⟩
 .rename_i t x0 x;obtain⟨r,L,A,V,_⟩:=TU (w:=w) j (gy X);rw[V];exact Yields.same h ⟨r,L,A⟩
 .rename_i x0 xt t ok x;obtain⟨r,L,A,V,_⟩:=QN (w:=w) (xt:=xt) j (gy X);rw[V];exact Yields.same h ⟨r,L,A⟩
 .rename_i f first caps
  split at j
  .rename_i hf;cases j;have hf':first=#[]:=by simpa using hf
   subst hf';refine .inl ⟨.func (.func f) #[] (caps.map a.eval),w,?_,D,E,h,caps.toList.map a.eval,by rw[toList_map],?_⟩
   .simp[execOp,Instr.makeFunc]
   .have hr':AV.relL S.P ⟨w,D,σ.m,E⟩ (vs.map (·.1)) (caps.toList.map a.eval):=by simpa[Op.operands]using X
    exact hr'
  .cases j
 .rename_i t l c0 x y;obtain⟨g1,g2⟩:=vE X;split at j
  .exact Yields.value (KJ h (λhs=>AU hs a) j hn g1 g2)
  .exact Yields.value (X9 h (λhs=>AU hs a) j hn g1 g2 hu1)
 .rename_i t x0 x;split at j
  .rename_i c' z;cases j;obtain⟨r,L,A,V,_⟩:=Jl h (O x (by simp)) z hn (gy X);rw[V];exact Yields.same h ⟨r,L,A⟩
  .obtain⟨r,L,A,V,_⟩:=pG (w:=w) (vl:=none) (vh:=none) j hn (gy X) trivial trivial;rw[V];exact Yields.same h ⟨r,L,A⟩
 .rename_i t x0 l0 x l;obtain⟨g1,g2⟩:=vE X;obtain⟨r,L,A,V,_⟩:=pG (w:=w) (vl:=some _) (vh:=none) j hn g1 g2 trivial;rw[V];exact Yields.same h ⟨r,L,A⟩
 .rename_i t x0 l0 x l;obtain⟨g1,g2⟩:=vE X;obtain⟨r,L,A,V,_⟩:=pG (w:=w) (vl:=none) (vh:=some _) j hn g1 trivial g2;rw[V];exact Yields.same h ⟨r,L,A⟩
 .rename_i t x0 l0 h0 x l hh;obtain⟨g1,g2,g3⟩:=aEl X;obtain⟨r,L,A,V,_⟩:=pG (w:=w) (vl:=some _) (vh:=some _) j hn g1 g2 g3;rw[V];exact Yields.same h ⟨r,L,A⟩
 .rename_i s x0 f p;obtain⟨r,L,A,V,_⟩:=E8 h (O p (by simp)) j hn (gy X);rw[V];exact Yields.same h ⟨r,L,A⟩
 .rename_i t x0 f x;obtain⟨r,L,A,V,_⟩:=UP (w:=w) j (gy X);rw[V];exact Yields.same h ⟨r,L,A⟩
 .rename_i t x0 i0 x i;obtain⟨g1,g2⟩:=vE X;split at j
  .rename_i c' z;cases j;obtain⟨r,L,A,V,_⟩:=IE h (O x (by simp)) z hn g1 g2;rw[V];exact Yields.same h ⟨r,L,A⟩
  obtain⟨r,L,A,V,_⟩:=ER h (O x (by simp)) j hn g1 g2;rw[V];exact Yields.same h ⟨r,L,A⟩
 .rename_i t x0 i0 x i;obtain⟨g1,g2⟩:=vE X;split at j
  .rename_i c' z;cases j;obtain⟨r,L,A,V,_⟩:=Le (w:=w) z hn g1 g2;rw[V];exact Yields.same h ⟨r,L,A⟩
  obtain⟨r,L,A,V,_⟩:=Uy (w:=w) j hn g1 g2;rw[V];exact Yields.same h ⟨r,L,A⟩
 .rename_i x0 i x;obtain⟨r,L,A,V,_⟩:=LA (P:=S.P) (w:=w) j (gy X);rw[V];exact Yields.same h ⟨r,L,A⟩
 .rename_i cl;obtain⟨callee,args,argTypes⟩:=cl;simp only at j;split at j
  .rename_i b;have hr':AV.relL S.P ⟨w,D,σ.m,E⟩ (vs.map (·.1)) (args.toList.map a.eval):=by simpa[Op.operands,Call.operands]using X
   obtain⟨cs,e⟩:∃cs,execOp a.eval ⟨dst,.call {callee:=.builtin b,args:=args,argTypes:=argTypes},type,pos,after,guard⟩=builtin b argTypes type cs (args.map a.eval):=⟨_,by simp only[execOp,resolve,pure_bind,invoke];rfl⟩;rw[e,toList_map args a.eval];exact LR (ty:=type) h hr' O j hn hu1
  .rename_i x0 f fs;have hr':AV.relL S.P ⟨w,D,σ.m,E⟩ (f.1::fs.map (·.1)) (a.eval x0::args.toList.map a.eval):=by simpa[Op.operands,Call.operands]using X
   obtain⟨u,us',e,g1,g2⟩:=hr';simp only[vF]at e;obtain⟨rfl,rfl⟩:=e;obtain⟨f',as,A,V⟩:=LP hK h j hn hu1 g1 g2;refine .inr (.inr ⟨f',as,w,?_,V⟩);have e2:execOp a.eval ⟨dst,.call {callee:=.value x0,args:=args,argTypes:=argTypes},type,pos,after,guard⟩=(do let d <- Deferred.ofValue (a.eval x0) (args.toList.map a.eval).toArray;invoke d.target d.args):=by
    simp only[execOp,resolve,toList_map args a.eval]
   rw[e2];exact A
  .cases j
 .cases j
def wq: ∀{ts:List TypeId} {as:List AV},k∈AV.namesL (Ag P ts as)->k∈AV.namesL as
 | [],_,h=>h
 | _::_,[],h=>h
 | t::ts,a::as,h=>by
  simp only[Ag,AV.namesL,qI]at h ⊢;rcases h with h | h
  .left
   unfold XZ at h;split at h
   .split at h
    .simp[AV.names]at h
    .exact h
   .split at h
    .split at h
     .simp only[AV.names,jf]at h;cases h
     .exact h
    .exact h
   .exact h
  .exact .inr (wq h)
def pT: ∀(l k:List AV),AV.namesL (l++k)=AV.namesL l++AV.namesL k
 | [],_=>rfl
 | a::l,k=>by simp[AV.namesL,pT l k]
def wN{m m':Nat->Option Blk}: ∀{l:List Nat},(∀k∈l,m' k=m k)->ff m' l=ff m l
 | [],_=>rfl
 | k::l,h=>by
  simp only[ff];rw[h k (by simp),wN (λx b=>h x (by simp[b]))]
def AB{m m':Nat->Option Blk}(h:∀k∈ns,m' k=m k): ∀u:Mem,Wj m' ns u=Wj m ns u
 | []=>rfl
 | (k,b)::r=>by
  simp only[Wj];rw[AB h r];by_cases e:k∈ns
  .rw[h k e]
  .have f:ns.contains k=false:=by simpa using e
   cases m' k<;>cases m k<;>cases Wj m ns r<;>simp[f,e]
def KB(h:k∈AV.namesL (gP P K f as caps)): k∈AV.namesL as:=by
 unfold gP at h;split at h
 .exact h
 .exact wq h
def l8{m m':Nat->Option Blk}{f:AV}(h:∀k,k∈cP m f.names\/k∈cP m (AV.namesL args)->m' k=m k): Ar P K nx m' f args=Ar P K nx m f args:=by
 unfold Ar;split
 .rename_i f caps;have up:∀k∈AV.namesL (gP P K f args caps++caps),k∈AV.namesL args\/k∈(AV.fn f caps).names:=λk e=>by
   rw[pT,qI]at e;rcases e with e | e
   .exact .inl (KB e)
   .exact .inr (by simpa[AV.names]using e)
  have r:∀k∈cP m (AV.namesL (gP P K f args caps++caps)),m' k=m k:=λk e=>by
   rcases rh e with g | ⟨j,y,b,hb,i⟩
   .rcases up k g with g | g
    .exact h k (.inr (dV g))
    .exact h k (.inl (dV g))
   .rcases up j y with g | g
    .exact h k (.inr (uQ g hb i))
    .exact h k (.inl (uQ g hb i))
  rw[zf (m:=m) (m':=m') (l:=AV.namesL (gP P K f args caps++caps)) λk e=>r k (dV e)];have z:((cP m (AV.namesL (gP P K f args caps++caps))).all λk=>match m' k with | some b=>mR (cP m (AV.namesL (gP P K f args caps++caps))) b | none=>true) =
    ((cP m (AV.namesL (gP P K f args caps++caps))).all λk=>match m k with | some b=>mR (cP m (AV.namesL (gP P K f args caps++caps))) b | none=>true):=by
   have:∀(l:List Nat),(∀k∈l,m' k=m k)->(l.all λk=>match m' k with | some b=>mR (cP m (AV.namesL (gP P K f args caps++caps))) b | none=>true) =
     (l.all λk=>match m k with | some b=>mR (cP m (AV.namesL (gP P K f args caps++caps))) b | none=>true):=by
    intro l;induction l with
    | nil=>intro _;rfl
    | cons x l v=>
     intro u;simp only[qAu];rw[u x (by simp),v (λk e=>u k (by simp[e]))]
   exact this _ r
  rw[z,wN r];simp only[AB r]
 .rfl
 .rfl
 .rfl
def LQ{m m':Nat->Option Blk}{f:AV}(h:∀k,k∈cP m f.names\/k∈cP m (AV.namesL args)->m' k=m k): QB P K nx m' f args=QB P K nx m f args:=by
 have e:P4 P K m' f args=P4 P K m f args:=by
  unfold P4;rw[oS λk b=>h k (.inr (dV b))]
 unfold QB;rw[l8 h,l8 (f:=lr f) (args:=uy args) (m:=m) (m':=m') (λk b=>by
  rw[fW,fh]at b;rcases b with b | b<;>(rcases rh b with g | ⟨_,g,_⟩<;>cases g)),e]
def Aq{m m':Nat->Option Blk}{f:AV}(h:∀k,k∈cP m f.names\/k∈cP m (AV.namesL args)->m' k=m k): nR P K nx m' f args=nR P K nx m f args:=by
 have sel:∀{t:Ty} {cs:List AV},(∀k,k∈cP m (AV.namesL cs)\/k∈cP m (AV.namesL args)->m' k=m k)->selC P K nx m' args t cs=selC P K nx m args t cs:=by
  intro t cs;induction cs with
  | nil=>intro _;rfl
  | cons c cs u=>
   intro h;simp only[selC];rw[l8 (m:=m) (m':=m') λk b=>h k (b.imp (rf λj e=>by simp[AV.namesL,e]) id),u λk b=>h k (b.imp (rf λj e=>by simp[AV.namesL,e]) id)]
 unfold nR;split
 .rename_i i cs;split
  .rfl
  rename_i c r;have g:∀k,k∈cP m (AV.namesL (c::r))\/k∈cP m (AV.namesL args)->m' k=m k:=λk b=>h k (b.imp (rf λj e=>by simpa[AV.names]using e) id)
  rw[l8 (m:=m) (m':=m') λk b=>g k (b.imp (rf λj e=>by simp[AV.namesL,e]) id)];split
  .split
   .rw[sel g]
   .rfl
  .rfl
 .exact LQ h
def Z7: Op->Bool
 | .call _=>true
 | .store _ _ _=>true
 | .box _ _=>true
 | _=>false
def TB{mt:Bool}{m m':Nat->Option Blk}{o:Op}(h:Z7 o=true->∀v∈vs,∀k∈cP m v.1.names,m' k=m k): opE P K mt nx m' o vs=opE P K mt nx m o vs:=by
 have u:∀{l:List RV} {k:Nat},k∈AV.namesL (l.map (·.1))->∃v∈l,k∈v.1.names:=by
  intro l k;induction l with
  | nil=>intro h;simp[AV.namesL]at h
  | cons x l y=>
   intro h;simp only[zB,AV.namesL,qI]at h;rcases h with h | h
   .exact⟨x,by simp,h⟩
   .obtain⟨v,i,f⟩:=y h;exact⟨v,by simp[i],f⟩
 unfold opE;split<;>first | rfl | skip
 .rw[FW (m:=m) (m':=m') λk e=>h rfl _ (by simp) k (dV e)]
 .rw[u5 (m:=m) (m':=m') λk e=>h rfl _ (by simp) k (dV e)]
 split<;>first | rfl | skip
 refine Aq λk e=>?_
 rcases e with e | e
 .exact h rfl _ (by simp) k e
 .rcases rh e with g | ⟨j,z,b,hb,r⟩
  .obtain⟨v,i,f⟩:=u g;exact h rfl v (by simp[i]) k (dV f)
  .obtain⟨v,i,f⟩:=u z;exact h rfl v (by simp[i]) k (uQ f hb r)
end Go.Eng
namespace Go.Eng
section
variable {σ:Type} (step:Nat->σ->σ)
def fR(done:Nat->Bool): Nat->σ->σ
 | 0,s=>s
 | k+1,s=>if done k then step k (fR done k s)else fR done k s
def VH: Nat->Bool:=λ_=>true
def nA{d d':Nat->Bool}: ∀(k:Nat) (s:σ),(∀i,i<k->d i=d' i)->fR step d k s=fR step d' k s
 | 0,_,_=>rfl
 | k+1,s,h=>by
  simp only[fR];rw[nA k s (λi hi=>h i Z),h k Z]
variable {step}
structure Orders (step:Nat->σ->σ) (n:Nat) (anc:Nat->Nat->Bool) (Rok U:Nat->σ->Prop) (s0:σ):Prop where
 comm:∀i j,i<j->j<n->anc i j=false->∀s,step j (step i s)=step i (step j s)
 rk1:∀i j,i<j->j<n->anc i j=false->∀s,Rok j (step i s)↔Rok j s
 rk2:∀i j,i<j->j<n->anc i j=false->∀s,Rok i (step j s)↔Rok i s
 u:∀i j,i<n->j<n->i≠j->(i<j\/anc j i=false)->∀s,U j s->U j (step i s)
 lex:∀j,j<n->Rok j (fR step VH j s0)
 u0:∀j,j<n->U j s0
variable {n:Nat} {anc:Nat->Nat->Bool} {Rok U:Nat->σ->Prop} {s0:σ}
def MP(H:Orders step n anc Rok U s0){done:Nat->Bool}(hd:∀i j,i<j->j<n->anc i j=true->done j=true->done i=true): ∀k,k<=n->
  ∃l:List Nat,(∀i∈l,i<k/\done i=false)/\fR step VH k s0=l.foldl (λs i=>step i s) (fR step done k s0)
 | 0,_=>⟨[],by simp,rfl⟩
 | k+1,A=>by
  obtain⟨l,e,r⟩:=MP H hd k Z;cases b:done k with
  | false=>
   refine⟨l++[k],λi hi=>?_,?_⟩
   .rcases qI.1 hi with g | g
    .exact⟨by have:=(e i g).1;omega,(e i g).2⟩
    .simp at g;subst g;exact⟨Nat.lt_succ_self _,b⟩
   .simp only[fR,VH,kR,b,wE,xO,qAe,kF,List.foldl_nil];rw[<- r]
  | true=>
   refine⟨l,λi hi=>⟨by have:=(e i hi).1;omega,(e i hi).2⟩,?_⟩;have key:∀(l:List Nat) (s:σ),(∀i∈l,i<k/\done i=false)->step k (l.foldl (λs i=>step i s) s)=l.foldl (λs i=>step i s) (step k s):=by
    intro l;induction l with
    | nil=>intro s _;rfl
    | cons i l u=>
     intro s h;have hi:=h i (by simp);have f:anc i k=false:=by
      cases x:anc i k with
      | false=>rfl
      | true=>have:=hd i k hi.1 Z x b;rw[hi.2]at this;cases this
     simp only[kF];rw[u (step i s) (λq v=>h q (by simp[v])),H.comm i k hi.1 Z f]
   show fR step VH (k+1) s0=l.foldl (λs i=>step i s) (fR step done (k+1) s0);have z:fR step VH (k+1) s0=step k (fR step VH k s0):=rfl;have y:fR step done (k+1) s0=step k (fR step done k s0):=by show(if done k then _ else _)=_;rw[if_pos b]
   rw[z,y,r,key l _ e]
def HC(H:Orders step n anc Rok U s0){done:Nat->Bool}(hd:∀i j,i<j->j<n->anc i j=true->done j=true->done i=true){j:Nat}(L:j<n)(v:done j=false)
  (y:∀i,i<j->anc i j=true->done i=true):
  Rok j (fR step done n s0)/\U j (fR step done n s0)/\fR step (λi=>if i=j then true else done i) n s0=step j (fR step done n s0):=by
 have b:∀i,j<i->i<n->done i=true->anc j i=false:=λi h1 h2 O=>by
  cases ha:anc j i with
  | false=>rfl
  | true=>have:=hd j i h1 h2 ha O;rw[v]at this;cases this
 refine⟨?_,?_,?_⟩
 ·
  obtain⟨l,h1,h2⟩:=MP H hd j Z;have A:=H.lex j L;rw[h2]at A;have back:∀(l:List Nat) (s:σ),(∀i∈l,i<j/\done i=false)->Rok j (l.foldl (λs i=>step i s) s)->Rok j s:=by
   intro l;induction l with
   | nil=>intro s _ h;exact h
   | cons i l x=>
    intro s A h;have hi:=A i (by simp);have T:anc i j=false:=by
     cases ha:anc i j with
     | false=>rfl
     | true=>have:=y i hi.1 ha;rw[hi.2]at this;cases this
    have:=x (step i s) (λq hq=>A q (by simp[hq])) h;exact(H.rk1 i j hi.1 L T s).1 this
  have O:Rok j (fR step done j s0):=back l _ h1 A;have fwd:∀k,j<=k->k<=n->Rok j (fR step done k s0):=by
   intro k hjk;induction k with
   | zero=>
     intro _;have:j=0:=by omega
     subst this;exact O
   | succ k x=>
    intro X;rcases zO k j with r | G
    .have:j=k+1:=by omega
     subst this;exact O
    .have g:=x G Z;simp only[fR];split
     .rename_i f;have z:j≠k:=λe=>by subst e;rw[v]at f;cases f
      exact(H.rk2 j k Z Z (b k Z Z f) _).2 g
     .exact g
  exact fwd n Z (qJ _)
 .have all:∀k,k<=n->U j (fR step done k s0):=by
   intro k;induction k with
   | zero=>intro _;exact H.u0 j L
   | succ k x=>
    intro X;have g:=x Z;simp only[fR];split
    .rename_i f;have z:k≠j:=λe=>by subst e;rw[v]at f;cases f
     refine H.u k j Z L z ?_ _ g;rcases zO k j with h | h
     .exact .inl h
     .exact .inr (b k Z Z f)
    .exact g
  exact all n (qJ _)
 .have low:∀k,k<=j->fR step (λi=>if i=j then true else done i) k s0=fR step done k s0:=λk X=>
   nA step k s0 (λi hi=>if_neg Z)
  have all:∀k,j+1<=k->k<=n->fR step (λi=>if i=j then true else done i) k s0=step j (fR step done k s0):=by
   intro k hjk;induction k with
   | zero=>omega
   | succ k x=>
    intro X;rcases zO j k with r | G
    .have g:=x r Z;have V:(k=j)=False:=by simp;omega
     simp only[fR,V,xO];rw[g];split
     .rename_i f;exact H.comm j k r Z (b k r Z f) _
     .rfl
    .have e:k=j:=by omega
     subst e;simp only[fR,kR,v,wE,xO];rw[low k (qJ _)]
  exact all n Z (qJ _)
end
end Go.Eng
namespace Go.Eng
open Go
abbrev Any: Machine->Prop:=λ_=>True
def At(P:Program)(ro:Option Nat)(c:Code)(Q:Exit->Act->World->Prop)(a:Act)(w:World): Prop:=
 ∀(b:Frame) (k:List Item) (cs:List Frame),b.roundOf=ro->(P.funcs[b.fn]?).isSome=true->
  ∃e a' w',Q e a' w'/\ArrivesIn Any P (lone (b.atR a (.code c::k)) cs w) b k cs e a' w'
def toAny{I:Machine->Prop}{P:Program}{m m':Machine}(h:StepsIn I P m m'): StepsIn Any P m m':=h.mono λ_ _=>trivial
def ik{P:Program}{m m':Machine}(h:step P m=.next m'): StepsIn Any P m m':=.one trivial h
def XV{P:Program}{m m':Machine}(h:StepsIn Any P m m'): StepsIn (Machine.fenced P Fence.wide) P m m':=h.mono λ_ _=>fenced_wide P _
def QO{I:Machine->Prop}{P:Program}{m:Machine}{b:Frame}{k:List Item}{cs:List Frame}{e:Exit}{a:Act}{w:World}(h:ArrivesIn I P m b k cs e a w): ArrivesIn Any P m b k cs e a w:=by
 cases e with
 | normal=>exact toAny h
 | exit id=>exact⟨λk' j=>toAny (h.1 k' j),λi j=>let⟨f,g,r⟩:=h.2 i j;⟨f,g,toAny r⟩⟩
 | goto l=>exact⟨λk' j=>toAny (h.1 k' j),λi j=>let⟨f,g,r⟩:=h.2 i j;⟨f,g,toAny r⟩⟩
 | ret=>exact⟨λi=>let⟨t,g⟩:=h.1 i;⟨t,toAny g⟩,λi=>let⟨t,g⟩:=h.2 i;⟨t,toAny g⟩⟩
 | panic u=>exact let⟨t,g⟩:=h;⟨t,toAny g⟩
 | outgrown=>exact h
section
variable {P:Program} {ro:Option Nat} {Q:Exit->Act->World->Prop} {a:Act} {w:World}
def Vv{F:Fence}{n:Nat}{c:Code}(i:F.round=ro)(j:∀f,F.fn f)(hd:F.depth=none)(h:c.wpIn F n P Q a w): At P ro c Q a w:=λb k cs hb _=>
 let⟨e,u,w',q,r⟩:=h b k cs (hb.trans i.symm) (j _) (λd g=>by rw[hd]at g;cases g)
 ⟨e,u,w',q,QO r⟩
def Ku{m:Machine}{b:Frame}{x:Item}{k:List Item}{cs:List Frame}{e:Exit}{a:Act}{w:World}(f:x.plain=true)(g:e≠.normal)(h:ArrivesIn Any P m b (x::k) cs e a w): ArrivesIn Any P m b k cs e a w:=
 .pass f (λ_ _=>.inl g) h
def zo{x y:Code}(h:At P ro x (Exit.then (At P ro y Q) Q) a w): At P ro (.seq x y) Q a w:=λb k cs hb i=>by
 obtain⟨e,L,u,g,r⟩:=h b (.code y::k) cs hb i;have s0:StepsIn Any P (lone (b.atR a (.code (.seq x y)::k)) cs w) (lone (b.atR a (.code x::.code y::k)) cs w):=ik stepR_seq;by_cases f:e=.normal
 .subst f;obtain⟨A,G,j,z,v⟩:=g b k cs hb i;exact⟨A,G,j,z,.of_steps (s0.trans r) v⟩
 .refine⟨e,L,u,?_,.of_steps s0 (Ku rfl f r)⟩;cases e<;>first | exact(f rfl).elim | exact g
def aCF{c:Operand}{x y:Code}{t:Bool}(j:a.eval c=.bool t)(v:t=true->At P ro x Q a w)(u:t=false->At P ro y Q a w): At P ro (.cond c x y) Q a w:=λb k cs hb i=>by
 have h:At P ro (if t then x else y) Q a w:=by cases t with | true=>exact v rfl | false=>exact u rfl
 obtain⟨e,z,f,g,r⟩:=h b k cs hb i;exact⟨e,z,f,g,.of_steps (ik (stepR_cond j)) r⟩
def ON{id:Nat}{c:Code}(h:At P ro c (Exit.inBlock id Q) a w): At P ro (.block id c) Q a w:=λb k cs hb A=>by
 obtain⟨e,u,i,f,r⟩:=h b (.inBlock id::k) cs hb A;have s0:StepsIn Any P (lone (b.atR a (.code (.block id c)::k)) cs w) (lone (b.atR a (.code c::.inBlock id::k)) cs w):=ik stepR_block;cases e with
 | normal=>exact⟨.normal,u,i,f,s0.trans (StepsIn.trans r (ik stepR_inBlock))⟩
 | exit j=>
  by_cases y:j=id
  .replace f:Q .normal u i:=by simpa only[Exit.inBlock,y,kR]using f
   exact⟨.normal,u,i,f,s0.trans (r.1 k (by simp[exitTo,y]))⟩
  .replace f:Q (.exit j) u i:=by simpa only[Exit.inBlock,y,xO]using f
   have x:exitTo j (.inBlock id::k)=exitTo j k:=by simp[exitTo,Ne.symm y]
   exact⟨.exit j,u,i,f,λk' v=>s0.trans (r.1 k' (x.trans v)),λg v=>let⟨z,g1,g2⟩:=r.2 g (x.trans v);⟨z,g1,s0.trans g2⟩⟩
 | goto l=>
  have x:gotoIn l (.inBlock id::k)=gotoIn l k:=by simp[gotoIn]
  exact⟨.goto l,u,i,f,λk' v=>s0.trans (r.1 k' (x.trans v)),λg v=>let⟨z,g1,g2⟩:=r.2 g (x.trans v);⟨z,g1,s0.trans g2⟩⟩
 | ret=>exact⟨_,u,i,f,.of_steps s0 r⟩
 | panic G=>exact⟨_,u,i,f,.of_steps s0 r⟩
 | outgrown=>exact⟨_,u,i,f,.of_steps s0 r⟩
def Zc{c:Code}(h:At P ro c (λe a w=>match e with | .goto _=>False | e=>Q e a w) a w): At P ro (.scope c) Q a w:=λb k cs hb z=>by
 obtain⟨e,u,i,f,r⟩:=h b (.inScope c::k) cs hb z;have s0:StepsIn Any P (lone (b.atR a (.code (.scope c)::k)) cs w) (lone (b.atR a (.code c::.inScope c::k)) cs w):=ik (step_lone_go (by simp[stepG,stepG.exec,Frame.atR]));cases e with
 | normal=>exact⟨.normal,u,i,f,s0.trans (StepsIn.trans r (ik (step_lone_go (by simp[stepG,stepG.exec,Frame.atR]))))⟩
 | exit j=>
  have x:exitTo j (.inScope c::k)=exitTo j k:=by simp[exitTo]
  exact⟨.exit j,u,i,f,λk' v=>s0.trans (r.1 k' (x.trans v)),λg v=>let⟨y,g1,g2⟩:=r.2 g (x.trans v);⟨y,g1,s0.trans g2⟩⟩
 | goto l=>exact f.elim
 | ret=>exact⟨_,u,i,f,.of_steps s0 r⟩
 | panic A=>exact⟨_,u,i,f,.of_steps s0 r⟩
 | outgrown=>exact⟨_,u,i,f,.of_steps s0 r⟩
def at_loop{c:Code}(I:Nat->Act->World->Prop)(v:Nat)(V:I v a w)(round:∀n a w,I n a w->At P ro c (Exit.then (λh w'=>∃i,i<n/\I i h w') Q) a w): At P ro (.loop c) Q a w:=λb k cs hb y=>by
 have main:∀(n:Nat),∀m,m<=n->∀a w,I m a w->∃e h w',Q e h w'/\ArrivesIn Any P (lone (b.atR a (.code c::.inLoop c::k)) cs w) b k cs e h w':=by
  intro n;induction n with
  | zero=>
   intro m hm a w x;obtain⟨e,u,j,f,r⟩:=round m a w x b (.inLoop c::k) cs hb y;by_cases g:e=.normal
   .subst g;obtain⟨i,z,_⟩:=f;exact absurd z Z
   .refine⟨e,u,j,?_,Ku rfl g r⟩;cases e<;>first | exact(g rfl).elim | exact f
  | succ n O=>
   intro m hm a w x;obtain⟨e,u,j,f,r⟩:=round m a w x b (.inLoop c::k) cs hb y;by_cases g:e=.normal
   .subst g;obtain⟨i,z,T⟩:=f;obtain⟨X,a2,A,L,G⟩:=O i Z u j T;exact⟨X,a2,A,L,.of_steps (StepsIn.trans r (ik stepR_inLoop)) G⟩
   .refine⟨e,u,j,?_,Ku rfl g r⟩;cases e<;>first | exact(g rfl).elim | exact f
 obtain⟨e,h,w',f,r⟩:=main v v (qJ _) a w V;exact⟨e,h,w',f,.of_steps (ik stepR_loop) r⟩
end
def ZF(P:Program)(l:Nat)(R:Ending->World->Prop): Exit->Act->World->Prop
 | .panic ch,a,w=>a.defers=[]/\R (.panicked ch) w
 | e,a,w=>roundPost P l R e a w
def MR{P:Program}{l:Nat}{f:FuncId}{tmps:Array Value}{assign body:Code}{w:World}{R:Ending->World->Prop}(V:(P.funcs[f]?).isSome=true)
  (h:At P (some l) assign (Exit.then (λO w1=>∃G,(Instr.beginRound l).run P w1=.ok () G/\At P (some l) body (ZF P l R) O G) (λ_ _ _=>False)) {tmps:=tmps,defers:=[]} w):
  RoundIn Fence.wide 0 P l f tmps assign body w R:=by
 refine⟨trivial,λc cs _=>?_⟩;obtain⟨b,hb⟩:∃b:Frame,b={ (default:Frame)with fn:=f,kind:=.normal,roundOf:=some l}:=⟨_,rfl⟩;have i:b.roundOf=some l:=by rw[hb]
 have y:b.fn=f:=by rw[hb]
 have e0:Frame.round l f tmps assign body .normal=b.atR {tmps:=tmps,defers:=[]} [.code assign,.beginRound,.code body]:=by rw[hb];simp[Frame.round,Frame.atR]
 obtain⟨e,O,w1,hq,r⟩:=h b [.beginRound,.code body] (c::cs) i (by rw[y];exact V);rw[<- e0]at r;cases e<;>first | exact hq.elim | skip
 obtain⟨G,X,z⟩:=hq;have s1:StepsIn Any P (lone (Frame.round l f tmps assign body .normal) (c::cs) w) (lone (b.atR O [.code body]) (c::cs) G):=StepsIn.trans r (ik (stepR_beginRound i X));obtain⟨e2,a2,w3,A,L⟩:=z b [] (c::cs) i (by rw[y];exact V)
 have done:∀{v:Value} {u:World} {m:Machine},StepsIn Any P (lone (b.atR O [.code body]) (c::cs) G) m->step P m=.next (lone (c.finish v) cs u)->R (.returned v) u->
   ∃e w',R e w'/\ComesIn (Machine.fenced P Fence.wide) P (lone (Frame.round l f tmps assign body .normal) (c::cs) w) (match e with | .returned v=>lone (c.finish v) cs w' | .panicked chain=>lone (c.raise chain) cs w' | .outgrown=>lone c cs w') e:=
  λ{v u _} g1 g2 g3=>⟨.returned v,u,g3,XV (s1.trans (g1.trans (ik g2)))⟩
 cases e2 with
 | normal=>
  obtain⟨v,u,g,j⟩:=A;exact done L (stepR_round_end i (by rw[hb]) g) j
 | ret=>
  obtain⟨v,u,g,j⟩:=A;obtain⟨k1,x⟩:=L.2 (by rw[i];rfl);exact done x (stepR_round_ret i (by rw[hb]) g) j
 | exit id=>
  obtain⟨v,u,g,j⟩:=A;obtain⟨k1,T,x⟩:=L.2 (by rw[i];rfl) rfl;exact done x (stepR_round_exit i (by rw[hb]) T g) j
 | goto t=>
  obtain⟨v,u,g,j⟩:=A;obtain⟨k1,T,x⟩:=L.2 (by rw[i];rfl) rfl;exact done x (stepR_round_goto i (by rw[hb]) T g) j
 | panic ch=>
  obtain⟨hd,j⟩:=A;obtain⟨todo,x⟩:=L;refine⟨.panicked ch,w3,j,XV (s1.trans (x.trans (ik (step_leave_panicked ⟨rfl,hd,?_⟩))))⟩;have:(P.funcs[b.fn]?).isSome=true:=by rw[y];exact V
  exact qAk.1 this
 | outgrown=>exact A.elim
def at_range{P:Program}{ro:Option Nat}{g:Operand}{ps:Array Tmp}{assign body:Code}{Q:Exit->Act->World->Prop}{a:Act}{w:World}
  (h:∀fn,(P.funcs[fn]?).isSome=true->∃(l:Nat) (mark:List Deferred) (T:World) (d:Deferred) (i:World) (f:FuncId) (args:Array Value) (O:World),
   (Instr.enterLoop fn a.tmps ps assign body ro).run P w=.ok (l,mark) T/\(resolve a.eval (rangeCall g l) 0).run P T=.ok d i/\(invoke d.target d.args).run P i=.ok (.enter f args) O/\
   CallsIn Fence.wide 0 P f args O λe u=>match e with
    | .returned _=>∃jump x,(Instr.endLoop l).run P u=.ok jump x/\(match jump with | none=>Q .normal {a with defers:=mark++a.defers} x | some c=>At P ro c Q {a with defers:=mark++a.defers} x)
    | .panicked X=>Q (.panic X) {a with defers:=mark++a.defers} u
    | .outgrown=>False):At P ro (.rangeFunc g ps assign body) Q a w:=λb k cs hb hf=>by
 obtain⟨l,mark,T,d,i,f,args,O,he,z,G,_,j⟩:=h b.fn hf;rw[<- hb]at he;have s0:=ik (stepR_rangeFunc (P:=P) (b:=b) (a:=a) (k:=k) (cs:=cs) (w:=w) he z G);obtain⟨e,u,fr,V,y,_,A⟩:=j (b.atR {a with defers:=mark++a.defers} (.inRangeFunc l::k)::cs) (room_wide _);cases e with
 | outgrown=>exact V.elim
 | returned v=>
  obtain⟨jump,x,L,hj⟩:=V;have s1:StepsIn Any P (lone fr (b.atR {a with defers:=mark++a.defers} (.inRangeFunc l::k)::cs) u) (lone (b.atR {a with defers:=mark++a.defers} (.endRangeFunc l::k)) cs u):=by
   rw[<- finish_atR_inRangeFunc l v];exact ik (step_leave_returned A)
  have s2:=(s0.trans (toAny y)).trans (s1.trans (ik (stepR_endRangeFunc L)));cases jump with
  | none=>exact⟨.normal,_,x,hj,s2⟩
  | some c=>
   obtain⟨e',a'',w5,hq,r⟩:=hj b k cs hb hf;exact⟨e',a'',w5,hq,.of_steps s2 r⟩
 | panicked X=>
  refine⟨.panic X,_,u,V,.inRangeFunc l::k,(s0.trans (toAny y)).trans (ik ?_)⟩;rw[<- Frame.raise_atR];exact step_leave_panicked A
def uR{P:Program}{f:FuncId}{fn:Func}{c:Code}{args:Array Value}{w:World}{R:Ending->World->Prop}(A:P.funcs[f]?=some fn)(hb:fn.body=some c)
  (h:At P none c (bodyPostM Fence.wide 0 P fn R) {tmps:=args++Array.replicate (fn.ntmps-args.size) undef,defers:=[]} w):CallsIn Fence.wide 0 P f args w R:=by
 refine⟨trivial,λcs T=>?_⟩;obtain⟨b,y⟩:∃b:Frame,b={ (default:Frame)with fn:=f,kind:=.normal,roundOf:=none}:=⟨_,rfl⟩;have i:b.fn=f:=by rw[y]
 have O:b.kind=.normal:=by rw[y]
 have j:b.roundOf=none:=by rw[y]
 have X:Frame.enter P f args .normal=b.atR {tmps:=args++Array.replicate (fn.ntmps-args.size) undef,defers:=[]} [.code c]:=by rw[y];simp[Frame.enter,Frame.atR,A,hb]
 obtain⟨e,v,w',u,r⟩:=h b [] cs j (by rw[i,A];rfl);rw[<- X]at r;have out:∀(m:FrameMode) (g:List Item),m≠.run->LeavesInM Fence.wide 0 P fn v.tmps R v.defers m w'->StepsIn Any P (lone (Frame.enter P f args .normal) cs w) (lone {b.atR v g with mode:=m} cs w')->
   ∃e w' fr,R e w'/\ComesIn (Machine.fenced P Fence.wide) P (lone (Frame.enter P f args .normal) cs w) (lone fr cs w') e/\fr.fn=f/\fr.leaving P w' e:=λm g _ V x=>by
  obtain⟨e',z,L,G,g1,g2,g3⟩:=leaves_stepsInM (F:=Fence.wide) (n:=0) v.defers m w' {b.atR v g with mode:=m} cs rfl rfl rfl (by rw[show({b.atR v g with mode:=m}:Frame).fn=f from i];exact A) O trivial T V;exact⟨e',z,L,G,ComesIn.of_steps (XV x) g1,g2.trans i,g3⟩
 cases e with
 | normal=>exact out .returning [] (by simp) u (StepsIn.trans r (ik (stepR_end j)))
 | ret=>
  obtain⟨g,x⟩:=r.1 j;exact out .returning g (by simp) u x
 | panic ch=>
  obtain⟨g,x⟩:=r;exact out (.panicking ch) g (by simp) u x
 | exit id=>exact u.elim
 | goto l=>exact u.elim
 | outgrown=>exact⟨.outgrown,w',b,u,r.resolve_left (by rw[O];simp),i,trivial⟩
end Go.Eng
namespace Go.Eng
open Go.RowKit
structure Rec where
 dst:Option Tmp
 val:AV
 upd:List (Nat×Blk)
 new:Option Nat
 reads:List Tmp
 fp:List Nat
 need:List Prop
def fq(r:Rec)(s:Sig): Sig:=⟨upT s.T r.dst r.val,upM s.m r.upd,s.sv⟩
def JO: AV->AV
 | .pin _ a=>a
 | a=>a
variable {C:Ctx} {P:Program}
def Q7{a:AV}{v:Value}(h:a.rel P C v): (JO a).rel P C v:=by
 unfold JO;split
 .exact h.2
 .exact h
def JM(a:AV): (JO a).names=a.names:=by
 unfold JO;split<;>simp[AV.names]
def evT(G:List (Nat×AV))(T:Nat->AV): Operand->AV
 | .tmp t=>JO (T t)
 | .const v=>HL v
 | .global g=>match G.lookup g with
  | some a=>a
  | none=>.val (.pointer (some ⟨g,0,none⟩))
 | .func f=>.fn f []
variable {k:Nat}
def wT{β:Type}{l:List (Nat×β)}{b:β}(h:l.lookup k=some b): (k,b)∈l:=by
 induction l with
 | nil=>simp at h
 | cons p l f=>
  obtain⟨p1,p2⟩:=p;simp only[List.lookup]at h;split at h
  .rename_i e;cases h;have:k=p1:=by simpa using e
   subst this;simp
  .exact wX _ (f h)
variable {S:Base} {D:Nat->Prop} {a:Act} {w:World} {E:Nat->Ent} {σ:Sig}
def fj(h:aP S σ a w D E)(x:Operand): (evT S.G σ.T x).rel S.P ⟨w,D,σ.m,E⟩ (a.eval x):=by
 cases x with
 | tmp t=>exact Q7 (h.tm t)
 | const v=>exact HK v
 | global g=>
  simp only[evT];split
  .rename_i av b;exact(h.gl _ (wT b)).2
  .exact rfl
 | func f=>exact⟨[],rfl,rfl⟩
variable {G:List (Nat×AV)}
def US(e:∀p∈G,p.2.names=[]){T:Nat->AV}(h:∀t,k∉(T t).names)(x:Operand): k∉(evT G T x).names:=by
 cases x with
 | tmp t=>simp only[evT,JM];exact h t
 | const v=>cases v<;>simp[evT,HL,AV.names]
 | global g=>
  simp only[evT];split
  .rename_i av b;rw[e _ (wT b)];simp
  .simp[AV.names]
 | func f=>simp[evT,AV.names,AV.namesL]
def eqW(b:Bool): Bool->Bool
 | true=>b
 | false=>!b
def QU(T:Nat->AV)(ops:Array Oper): Option (Nat×Bool)->Option Bool
 | none=>some true
 | some (k,want)=>match(ops[k]?).bind (·.dst)with
  | some d=>match T d with
   | .dat .bool b=>some (eqW b want)
   | .grd g (.dat .bool b)=>some (g&&eqW b want)
   | _=>none
  | none=>none
variable {g:Bool} {ops:Array Oper} {o:Oper}
def FB(h:aP S σ a w D E)(f:QU σ.T ops o.guard=some g):
  Region.wanted o (yielded ops a.tmps)=g:=by
 unfold QU at f;unfold Region.wanted;split at f
 .rename_i r;cases f;rw[r]
 .rename_i k i r;rw[r];simp only;split at f
  .rename_i d hd;have y:yielded ops a.tmps k=match a.tmps[d]? with | some (.bool b)=>some b | _=>none:=by
    unfold yielded;rw[hd];rfl
   rw[y];have e:=h.tm d;split at f
   .rename_i b x;cases f;rw[x]at e;simp only[AV.rel,ag,vF,vU]at e;have:a.tmps[d]?=some (.bool b):=by
     rw[qQ]at e;cases j:a.tmps[d]? with
     | none=>rw[j]at e;cases e
     | some v=>rw[j]at e;simp at e;rw[e]
    rw[this];simp only[];cases b<;>cases i<;>rfl
   .rename_i G b x;cases f;rw[x]at e;obtain⟨A,z⟩:=e;cases G with
    | true=>
     have e:=A rfl;simp only[AV.rel,ag,vF,vU]at e;have:a.tmps[d]?=some (.bool b):=by
      rw[qQ]at e;cases j:a.tmps[d]? with
      | none=>rw[j]at e;cases e
      | some v=>rw[j]at e;simp at e;rw[e]
     rw[this];simp only[];cases b<;>cases i<;>rfl
    | false=>
     have u:=z rfl;rw[qQ]at u;cases j:a.tmps[d]? with
     | none=>rfl
     | some v=>
      rw[j]at u;simp at u;subst u;rfl
   .cases f
  .cases f
def ug(g:Bool): AV->AV×List Prop
 | .grd g' v=>(v,[g=true->g'=true])
 | v=>(v,[])
def od{a:AV}{v:Value}(e:g=true)(b:∀q∈(ug g a).2,q)(h:a.rel P C v): (ug g a).1.rel P C v:=by
 cases a<;>first
  | exact h
  | exact h.1 ((b _ (vG.2 rfl)) e)
def Wn(g:Bool)(a:AV): (ug g a).1.names=a.names:=by
 unfold ug;split
 .simp[AV.names]
 .rfl
def aEs(x:Bool): AV->AV->Option AV
 | .dat t u,.dat t' v=>if h:t'=t then some (.dat t (bif x then u else h▸v))else none
 | _,_=>none
def aBO(g:Bool)(c a b:AV): Option Core:=
 match ug g c with
 | (.dat .bool x,nc)=>
  match aEs x (ug (g&&x) a).1 (ug (g&&!x) b).1 with
  | some v=>some {need:=nc++(ug (g&&x) a).2++(ug (g&&!x) b).2,val:=v}
  | none=>none
 | _=>none
def XL{c a b:AV}{core:Core}{u j i:Value}(z:g=true)(h:aBO g c a b=some core)(y:∀q∈core.need,q)
  (V:c.rel P C u) (T:a.rel P C j) (O:b.rel P C i):
  core.upd=[]/\core.new=none/\∃r,(do pure (Next.value (if <- asBool u then j else i)):Sem Next).run P w=.ok (.value r) w/\core.val.rel P C r:=by
 unfold aBO at h;split at h
 .rename_i x nc A;split at h
  .rename_i X f;cases h;have v:=od z (λq e=>y q (by rw[A]at e;simp[e])) V;rw[A]at v;simp only[AV.rel,ag,vF,vU]at v;subst v;refine⟨rfl,rfl,if x=true then j else i,by simp[asBool],?_⟩;unfold aEs at f;split at f
   .rename_i t p t' q L e;split at f
    .rename_i G;subst G;cases f;cases x with
     | true=>
      have:=od (g:=g&&true) (by rw[z];rfl) (λq e=>y q (qI.2 (.inl (qI.2 (.inr e))))) T;rw[L]at this;simpa using this
     | false=>
      have:=od (g:=g&&!false) (by rw[z];rfl) (λq e=>y q (qI.2 (.inr e))) O;rw[e]at this;simpa using this
    .cases f
   .cases f
  .cases h
 .cases h
def Q9: Operand->List Tmp
 | .tmp t=>[t]
 | _=>[]
def ZW: Op->Bool
 | .pick _ _ _=>true
 | _=>false
def Qu(P:Program)(K:Kt)(mt:Bool)(nx:Nat)(m:Nat->Option Blk)(g:Bool)(op:Op)(raw:List AV): Option Core:=
 match ZW op,raw with
 | true,[c,a,b]=>aBO g c a b
 | true,_=>none
 | false,raw=>match opE P K mt nx m op (raw.map λv=>((ug g v).1,cJ m (ug g v).1))with
  | some c=>some {c with need:=(raw.flatMap λv=>(ug g v).2)++c.need}
  | none=>none
def aFL: AV->List Nat
 | .buf nm _=>[nm]
 | .view nm _=>[nm]
 | .ptr nm _ _ _=>[nm]
 | .row nm _ _ _=>[nm]
 | .rptr nm _ _ _ _=>[nm]
 | _=>[]
def VT(m:Nat->Option Blk)(o:Op)(v:AV): List Nat:=if Z7 o=true then cP m v.names else aFL v
def OZ{v:AV}(h:k∈aFL v): k∈v.names:=by
 cases v<;>first | exact h | cases h
def aAe{m:Nat->Option Blk}{o:Op}{v:AV}(h:k∈aFL v): k∈VT m o v:=by
 unfold VT;split
 .exact dV (OZ h)
 .exact h
def uJ(ops:Array Oper): Option (Nat×Bool)->List Tmp
 | none=>[]
 | some (k,_)=>match(ops[k]?).bind (·.dst)with
  | some d=>[d]
  | none=>[]
def KG(o:Oper)(g:Bool)(reads:List Tmp)(fp:List Nat)(c:Core): Option Rec:=
 match o.guard with
 | none=>some {dst:=o.dst,val:=c.val,upd:=c.upd,new:=c.new,reads:=reads,fp:=fp,need:=c.need}
 | some _=>match c.upd,c.new with
  | [],none=>some {dst:=o.dst,val:=.grd g c.val,upd:=[],new:=none,reads:=reads,fp:=fp,need:=c.need.map λp=>(g=true->p)}
  | _,_=>none
def iJ(P:Program)(G:List (Nat×AV))(K:Kt)(mt:Bool)(ops:Array Oper)(nx:Nat)(s:Sig)(o:Oper): Option Rec:=
 match QU s.T ops o.guard with
 | some g=>match Qu P K mt nx s.m g o.op (o.op.operands.toList.map (evT G s.T))with
  | some c=>KG o g (o.op.operands.toList.flatMap Q9++uJ ops o.guard) (o.op.operands.toList.flatMap λx=>VT s.m o.op (ug g (evT G s.T x)).1) c
  | none=>none
 | none=>none
def va{K:Kt}{mt:Bool}{nx:Nat}{s s':Sig}{r:Rec}(h:iJ P G K mt ops nx s o=some r)
  (X:∀t∈r.reads,s'.T t=s.T t) (h2:∀b∈r.fp,s'.m b=s.m b):iJ P G K mt ops nx s' o=some r:=by
 have hr:∃g,QU s.T ops o.guard=some g/\r.reads=o.op.operands.toList.flatMap Q9++uJ ops o.guard/\r.fp=o.op.operands.toList.flatMap λx=>VT s.m o.op (ug g (evT G s.T x)).1:=by
  unfold iJ at h;split at h
  .rename_i g L;split at h
   .rename_i c hc;refine⟨g,L,?_⟩;unfold KG at h;split at h
    .cases h;exact⟨rfl,rfl⟩
    .split at h
     .cases h;exact⟨rfl,rfl⟩
     .cases h
   .cases h
  .cases h
 obtain⟨g,L,u,O⟩:=hr;have e1:∀x∈o.op.operands.toList,evT G s'.T x=evT G s.T x:=by
  intro x e;cases x with
  | tmp t=>exact yP JO (X t (by rw[u];exact qI.2 (.inl (xB.2 ⟨_,e,by simp[Q9]⟩))))
  | _=>rfl
 have e2:QU s'.T ops o.guard=QU s.T ops o.guard:=by
  unfold QU;cases A:o.guard with
  | none=>rfl
  | some p=>
   obtain⟨k,V⟩:=p;simp only;cases hd:(ops[k]?).bind (·.dst)with
   | none=>rfl
   | some d=>
    simp only;rw[X d (by rw[u];exact qI.2 (.inr (by simp[uJ,A,hd])))]
 have e3:o.op.operands.toList.map (evT G s'.T)=o.op.operands.toList.map (evT G s.T):=yA e1;have i:∀x∈o.op.operands.toList,∀b∈VT s.m o.op (ug g (evT G s.T x)).1,s'.m b=s.m b:=λx e b f=>
  h2 b (by rw[O];exact xB.2 ⟨x,e,f⟩)
 have e4:∀x∈o.op.operands.toList,∀v,v=(ug g (evT G s.T x)).1->cJ s'.m v=cJ s.m v:=by
  intro x e v j;have:∀b∈aFL v,s'.m b=s.m b:=λb f=>i x e b (by rw[<- j];exact aAe f)
  cases v<;>first | rfl | exact this _ (vG.2 rfl)
 have e5:Qu P K mt nx s'.m g o.op (o.op.operands.toList.map (evT G s.T))=Qu P K mt nx s.m g o.op (o.op.operands.toList.map (evT G s.T)):=by
  unfold Qu;split
  .rfl
  .rfl
  .have:((o.op.operands.toList.map (evT G s.T)).map λv=>((ug g v).1,cJ s'.m (ug g v).1))=((o.op.operands.toList.map (evT G s.T)).map λv=>((ug g v).1,cJ s.m (ug g v).1)):=by
    apply yA;intro v j;obtain⟨x,e,rfl⟩:=vM.1 j;rw[e4 x e _ rfl]
   rw[this,TB (m:=s.m) (m':=s'.m)];intro hd v j k z;obtain⟨y,hy,rfl⟩:=vM.1 j;obtain⟨x,e,rfl⟩:=vM.1 hy;exact i x e k (by unfold VT;rw[if_pos hd];exact z)
 have e6:(o.op.operands.toList.flatMap λx=>VT s'.m o.op (ug g (evT G s'.T x)).1)=o.op.operands.toList.flatMap λx=>VT s.m o.op (ug g (evT G s.T x)).1:=by
  simp only[List.flatMap_def]
  congr 1
  apply yA;intro x e;rw[e1 x e];unfold VT;split
  .rename_i hd;exact zf λk z=>i x e k (by unfold VT;rw[if_pos hd];exact dV z)
  .rfl
 unfold iJ at h ⊢;rw[e2,e3];rw[L]at h ⊢;simp only at h ⊢;rw[e5,e6];exact h
def Base.F (S:Base):Fence:=match S.rd with
 | none=>Fence.wide
 | some l=>Fence.wide.inRound l
def Base.F_fn (S:Base) (f:FuncId):S.F.fn f:=by unfold Base.F;split<;>trivial
def Base.F_depth (S:Base):S.F.depth=none:=by unfold Base.F;split<;>rfl
def Base.F_round (S:Base):S.F.round=S.rd:=by unfold Base.F;split<;>(rename_i h;rw[h];rfl)
def Base.callsIn {S:Base} {n:Nat} {P:Program} {f:FuncId} {args:Array Value} {w:World} {R:Ending->World->Prop} (h:Calls P f args w R):CallsIn S.F n P f args w R:=by
 unfold Base.F;split
 .exact callsIn_wide.2 h
 .exact CallsIn.inRound _ (callsIn_wide.2 h)
def pC{K:Kt}(hK:ai S.P S.G K){mt:Bool}{nx i:Nat}{r:Rec}{Q:Exit->Act->World->Prop}(ho:ops[i]?=some o)
  (hs:Sim S σ a w) (hd:∀d,o.dst=some d->d<S.N) (V:iJ S.P S.G K mt ops nx σ o=some r) (hn:∀q∈r.need,q) (hu:∀k,r.new=some k->Unm k σ):
  wpOpIn S.F 0 S.P ops Q i (λa' w'=>Sim S (fq r σ) a' w') a w:=by
 obtain⟨D,E,h⟩:=hs;unfold iJ at V;split at V
 case h_2=>cases V
 rename_i g hg;split at V
 case h_2=>cases V
 rename_i c L;unfold wpOpIn;rw[ho];simp only;have hw:=FB (o:=o) h hg;have run:g=true->∀(hn':∀q∈c.need,q) (hu':∀k,c.new=some k->Unm k σ),Yields S ⟨σ.T,upM σ.m c.upd,σ.sv⟩ a c.val ((execOp a.eval o).run S.P w):=by
  intro X hn' hu';unfold Qu at L;split at L
  .rename_i c0 a0 b0 hp hraw;obtain⟨dst,op,ty,pos,after,guard⟩:=o;cases op<;>first | (cases hp;done) | skip
   rename_i oc oa ob;simp only[Op.operands,zB,qBv,vF,vU]at hraw;obtain⟨rfl,rfl,rfl⟩:=hraw;obtain⟨h1,h2,rr,h3,h4⟩:=XL (w:=w) X L hn' (fj h oc) (fj h oa) (fj h ob);rw[h1];exact .inl ⟨rr,w,h3,D,E,h,h4⟩
  .cases L
  .split at L
   .rename_i c' hop;cases L;have hrel:AV.relL S.P ⟨w,D,σ.m,E⟩ (((o.op.operands.toList.map (evT S.G σ.T)).map λv=>((ug g v).1,cJ σ.m (ug g v).1)).map (·.1)) (o.op.operands.toList.map a.eval):=by
     refine AV.relL_mk (by simp) λj av u h1 h2=>?_
     simp only[List.map_map,qR,qCa]at h1 h2;obtain⟨x,hx,rfl⟩:=h1;obtain⟨x',hx',rfl⟩:=h2;rw[hx]at hx';cases hx';refine od X (λq hq=>hn' q ?_) (fj h x);simp only[qI,xB];exact .inl ⟨evT S.G σ.T x,vM.2 ⟨x,zV hx,rfl⟩,hq⟩
    refine aEt (c:=c') hK h hrel (λv hv=>?_) hop (λq hq=>hn' q (qI.2 (.inr hq))) (λk hk=>⟨hu' k hk,λv hv=>?_⟩)
    .obtain⟨x,_,rfl⟩:=vM.1 hv;rfl
    .obtain⟨x,hx,rfl⟩:=vM.1 hv;obtain⟨y,_,rfl⟩:=vM.1 hx;simp only;rw[Wn];exact US (λp hp=>(h.gl p hp).1) (hu' k hk).2.1 y
   .cases L
 have fin:∀x v (w':World),r.upd=c.upd->Outcome S ⟨σ.T,upM σ.m c.upd,σ.sv⟩ a x v w'->(∀C:Ctx,x.rel S.P C v->r.val.rel S.P C v)->r.dst=o.dst->Sim S (fq r σ) (a.put o.dst v) w':=by
  intro x v w' b hout O z;obtain⟨D',E',q1,q2⟩:=hout;have:=q1.put (d:=o.dst) (v:=v) (x:=r.val) (λt ht=>hd t ht) (O _ q2);refine⟨D',E',?_⟩;unfold fq;rw[z,b];exact this
 have nodef:∀d,o.op≠.defer d:=λd e=>by
  have hp:ZW o.op=false:=by rw[e];rfl
  unfold Qu at L;split at L
  .rename_i he _;rw[hp]at he;cases he
  .cases L
  .rw[e]at L;simp only[opE]at L;cases L
 have about:∀f,o.about S.P w a.eval=some f->S.F.fn f:=λf _=>S.F_fn f
 have upon:∀x,r.upd=c.upd->r.dst=o.dst->(∀(C:Ctx) v,x.rel S.P C v->r.val.rel S.P C v)->Yields S ⟨σ.T,upM σ.m c.upd,σ.sv⟩ a x ((execOp a.eval o).run S.P w)->
   o.wpIn S.F 0 S.P a w (λa' w'=>Sim S (fq r σ) a' w') Q:=by
  intro x b z O hy;unfold Oper.wpIn;refine⟨about,?_⟩;rw[Oper.semAt_eq _ _ _ nodef];rcases hy with⟨v,w',e,ho⟩ | ⟨w',e,ho⟩ | ⟨f,args,w',e,ho⟩
  .rw[e];exact fin x v w' b ho (λC=>O C v) z
  .rw[e];exact fin x undef w' b ho (λC=>O C undef) z
  .rw[e,Oper.uponIn_enter];refine⟨λh=>(by rw[S.F_depth]at h;cases h),Base.callsIn (ho.mono λe2 w2 he=>?_)⟩;obtain⟨v,rfl,ho2⟩:=he;exact fin x v w2 b ho2 (λC=>O C v) z
 rw[hw];unfold KG at V;split at V
 .rename_i hgd;cases V;have X:g=true:=by rw[hgd]at hg;simp only[QU,wM]at hg;exact hg.symm
  rw[if_pos X];exact upon c.val rfl rfl (λC v hv=>hv) (run X hn hu)
 .rename_i gp hgd;split at V
  .rename_i b hnew;cases V;by_cases A:g=true
   .rw[if_pos A];refine upon c.val b.symm rfl (λC v hv=>⟨λ_=>hv,λhf=>by rw[A]at hf;cases hf⟩) (run A (λq hq=>?_) (λk hk=>by rw[hnew]at hk;cases hk));exact hn (g=true->q) (vM.2 ⟨q,hq,rfl⟩) A
   .rw[if_neg A];exact⟨about,D,E,h.put (d:=o.dst) (v:=undef) (x:=.grd g c.val) hd ⟨λhf=>(A hf).elim,λ_=>rfl⟩⟩
  .cases V
end Go.Eng
namespace Go.Eng
open Go.RowKit
structure St where
 tm:List AV
 mem:List (Nat×Blk)
 nx:Nat
 sv:List AV:=[]
def St.sig (s:St):Sig:=⟨λt=>s.tm.getD t .top,λnm=>s.mem.lookup nm,s.sv⟩
def wz: List (Nat×Blk)->Nat->Blk->List (Nat×Blk)
 | [],k,b=>[(k,b)]
 | q::r,k,b=>if q.1=k then(k,b)::r else q::wz r k b
def pW(k:Nat)(b:Blk): ∀(l:List (Nat×Blk)) (i:Nat),(wz l k b).lookup i=if i=k then some b else l.lookup i
 | [],i=>by
  simp only[wz,List.lookup];by_cases e:i=k
  .subst e;simp
  .have:(i==k)=false:=by simpa using e
   simp[this,e]
 | q::r,i=>by
  obtain⟨f,h⟩:=q;simp only[wz];by_cases g:f=k
  .subst g;simp only[kR,List.lookup];by_cases e:i=f
   .subst e;simp
   .have:(i==f)=false:=by simpa using e
    simp[this,e]
  .simp only[g,xO,List.lookup];by_cases e:i=f
   .subst e;simp[g]
   .have:(i==f)=false:=by simpa using e
    simp only[this];exact pW k b r i
def cV(r:Rec)(s:St): St:=
 {s with
  tm:=match r.dst with | some d=>s.tm.set d r.val | none=>s.tm
  mem:=r.upd.foldr (λp m=>wz m p.1 p.2) s.mem
  nx:=match r.new with | some k=>k+1 | none=>s.nx}
def iu(r:Rec)(n:Nat): Bool:=
 (match r.dst with | some d=>decide (d<n) | none=>true)&&true
def jC(r:Rec)(s:St): (cV r s).tm.length=s.tm.length:=by
 unfold cV;cases r.dst<;>simp
def iw{r:Rec}{s:St}(h:iu r s.tm.length=true): (cV r s).sig=fq r s.sig:=by
 unfold iu at h;simp only[qC]at h;obtain⟨x,A⟩:=h;have j:(cV r s).sig.T=(fq r s.sig).T:=by
  funext t
  simp only[St.sig,cV,fq,upT];cases hd:r.dst with
  | none=>simp
  | some d=>
   rw[hd]at x;have i:d<s.tm.length:=by simpa using x
   simp only[wM];by_cases e:t=d
   .subst e;simp[qA,i]
   .simp only[if_neg e,qA];rw[qBq (λh=>e h.symm)]
 have v:(cV r s).sig.m=(fq r s.sig).m:=by
  funext k
  simp only[St.sig,cV,fq,upM];induction r.upd with
  | nil=>rfl
  | cons p l z=>
   obtain⟨k',b⟩:=p;simp only[qDr,pW,List.lookup];by_cases e:k=k'
   .subst e;simp
   .have:(k==k')=false:=by simpa using e
    simp only[this,if_neg e];exact z
 cases g:(cV r s).sig with
 | mk T m sv=>
  cases f:fq r s.sig with
  | mk G m' y=>
   have u:(cV r s).sig.sv=(fq r s.sig).sv:=rfl;rw[g,f]at j v u;simp only at j v u;rw[j,v,u]
structure jF where
 pre:Prop
 t:Ty
 L:List t.den
structure Cfg where
 P:Program
 G:List (Nat×AV)
 K:Kt
 mb:Tmp->Bool
 KI:FuncId->List AV->Option jF
 rng:Bool
 KP:KPt:=λ_ _ _=>none
 pf:FuncId->Bool:=λ_=>false
def aC6(mb:Tmp->Bool)(o:Oper): Bool:=match o.dst with | some d=>mb d | none=>false
def Cfg.mt (c:Cfg) (o:Oper):Bool:=aC6 c.mb o
def ZC(c:Cfg)(ops:Array Oper): List Oper->St->Option (List Rec)
 | [],_=>some []
 | o::os,s=>match iJ c.P c.G c.K (c.mt o) ops s.nx s.sig o with
  | some r=>if iu r s.tm.length=true then match ZC c ops os (cV r s)with
   | some rs=>some (r::rs)
   | none=>none
   else none
  | none=>none
def gu(rs:List Rec)(s:St)(j:Nat): St:=(rs.take j).foldl (λs r=>cV r s) s
def lJ(rs:List Rec)(s:St)(j:Nat): (gu rs s j).tm.length=s.tm.length:=by
 unfold gu;induction rs.take j generalizing s with
 | nil=>rfl
 | cons r l b=>simp only[kF];rw[b,jC]
def vq{c:Cfg}{ops:Array Oper}: ∀{os:List Oper} {s:St} {rs:List Rec},ZC c ops os s=some rs->
  rs.length=os.length/\∀(j:Nat) o r,os[j]?=some o->rs[j]?=some r->
   iJ c.P c.G c.K (c.mt o) ops (gu rs s j).nx (gu rs s j).sig o=some r/\iu r s.tm.length=true
 | [],s,rs,h=>by
  simp only[ZC]at h;cases h;exact⟨rfl,λj o r h=>by simp at h⟩
 | o::os,s,rs,h=>by
  simp only[ZC]at h;split at h
  case h_2=>cases h
  rename_i r y;split at h
  case isFalse=>cases h
  rename_i f;split at h
  case h_2=>cases h
  rename_i u e;cases h;obtain⟨g1,g2⟩:=vq e;refine⟨by simp[g1],λj o' v g b=>?_⟩;cases j with
  | zero=>
   simp at g b;subst g b;exact⟨y,f⟩
  | succ j=>
   obtain⟨x,i⟩:=g2 j o' v (by simpa using g) (by simpa using b);rw[jC]at i;exact⟨by simpa[gu]using x,i⟩
def mG(rs:List Rec)(s:St)(j:Nat)(r:Rec)(h:rs[j]?=some r): gu rs s (j+1)=cV r (gu rs s j):=by
 unfold gu;rw[wU,h];simp
def unB(k:Nat)(s:St): Bool:=
 (s.mem.lookup k).isNone&&s.tm.all (λa=>!a.names.contains k)&&s.mem.all (λp=>!p.2.names.contains k)&&!(AV.namesL s.sv).contains k
def dc{l:List (Nat×Blk)}{k:Nat}{b:Blk}(h:l.lookup k=some b): (k,b)∈l:=by
 induction l with
 | nil=>simp at h
 | cons p l f=>
  obtain⟨p1,p2⟩:=p;simp only[List.lookup]at h;split at h
  .rename_i e;cases h;have:k=p1:=by simpa using e
   subst this;simp
  .exact wX _ (f h)
def Me{k:Nat}{s:St}(h:unB k s=true): Unm k s.sig:=by
 unfold unB at h;simp only[qC,qO]at h;obtain⟨⟨⟨f,r⟩,j⟩,i⟩:=h;refine⟨?_,λt=>?_,λu b hb=>?_,by have g:k∉AV.namesL s.sv:=(by simpa using i);exact g⟩
 .show s.mem.lookup k=none;cases e:s.mem.lookup k with
  | none=>rfl
  | some b=>rw[e]at f;cases f
 .show k∉(s.tm.getD t .top).names;rw[qA];cases e:s.tm[t]? with
  | none=>simp[AV.names]
  | some a=>
   have:=r a (zV e);simpa using this
 .have:=j _ (dc hb);simpa using this
def D8(k:Nat)(r:Rec): Bool:=!r.val.names.contains k&&r.upd.all (λp=>!(p.1==k)&&!p.2.names.contains k)
def rK{k:Nat}{r:Rec}(h:D8 k r=true){s:Sig}(i:Unm k s): Unm k (fq r s):=by
 unfold D8 at h;simp only[qC,qO]at h;obtain⟨u,j⟩:=h;have f:∀e b,r.upd.lookup e=some b->e≠k/\k∉b.names:=λe b hb=>by
  have:=j _ (dc hb);simpa using this
 refine⟨?_,λt=>?_,λe b hb=>?_,i.2.2.2⟩
 .show upM s.m r.upd k=none;unfold upM;cases g:r.upd.lookup k with
  | none=>exact i.1
  | some b=>exact absurd rfl (f k b g).1
 .show k∉(upT s.T r.dst r.val t).names;unfold upT;split
  .simpa using u
  .exact i.2.1 t
 .replace hb:upM s.m r.upd e=some b:=hb;unfold upM at hb;cases g:r.upd.lookup e with
  | none=>rw[g]at hb;exact i.2.2.1 e b hb
  | some v=>rw[g]at hb;cases hb;exact(f e _ g).2
def YC(d:Option Tmp)(l:List Tmp): Bool:=match d with | some d=>l.contains d | none=>false
def aEX: Option Tmp->Option Tmp->Bool
 | some d,some e=>d==e
 | _,_=>false
def indep(r s:Rec): Bool:=
 !YC r.dst s.reads&&!YC s.dst r.reads&&!aEX r.dst s.dst &&
 r.upd.all (λp=>!s.fp.contains p.1&&s.upd.all λq=>!(p.1==q.1))&&s.upd.all (λp=>!r.fp.contains p.1)
def Bh{l:List (Nat×Blk)}{k:Nat}(h:∀p∈l,p.1≠k): l.lookup k=none:=by
 cases e:l.lookup k with
 | none=>rfl
 | some b=>exact absurd rfl (h _ (dc e))
def nN{r s:Rec}(h:indep r s=true):
  (∀σ,fq s (fq r σ)=fq r (fq s σ))/\(∀σ,(∀t∈s.reads,(fq r σ).T t=σ.T t)/\∀b∈s.fp,(fq r σ).m b=σ.m b)/\
  (∀σ,(∀t∈r.reads,(fq s σ).T t=σ.T t)/\∀b∈r.fp,(fq s σ).m b=σ.m b):=by
 unfold indep at h;simp only[qC,qO]at h;obtain⟨⟨⟨⟨O,L⟩,y⟩,x⟩,G⟩:=h;have v:∀(d:Option Tmp) (l:List Tmp),(!YC d l)=true->∀t∈l,some t≠d:=by
  intro d l hd t j e;subst e;simp[YC,j]at hd
 refine⟨λσ=>?_,λσ=>⟨λt j=>?_,λb f=>?_⟩,λσ=>⟨λt j=>?_,λb f=>?_⟩⟩
 .unfold fq
  congr 1
  .funext t
   simp only[upT];by_cases i:some t=s.dst<;>by_cases g:some t=r.dst
   .exfalso;rw[<- i,<- g]at y;simp[aEX]at y
   .rw[if_pos i,if_neg g,if_pos i]
   .rw[if_neg i,if_pos g,if_pos g]
   .rw[if_neg i,if_neg g,if_neg g,if_neg i]
  .funext b
   simp only[upM];cases A:r.upd.lookup b<;>cases z:s.upd.lookup b<;>simp only[];exfalso;have:=(x _ (dc A));simp only[qO]at this;have:=this.2 _ (dc z);simp at this
 .show upT σ.T r.dst r.val t=σ.T t;unfold upT;rw[if_neg (v _ _ O t j)]
 .show upM σ.m r.upd b=σ.m b;unfold upM;rw[Bh (λp u e=>by
   have:=(x p u).1;rw[e]at this;simp[f]at this)]
 .show upT σ.T s.dst s.val t=σ.T t;unfold upT;rw[if_neg (v _ _ L t j)]
 .show upM σ.m s.upd b=σ.m b;unfold upM;rw[Bh (λp u e=>by
   have:=G p u;rw[e]at this;simp[f]at this)]
def LW(tbl:List Nat)(o:Oper): Nat:=o.after.toList.foldl (λs e=>if Region.binds .any e then s ||| 2 ^ e.on ||| tbl.getD e.on 0 else s) 0
def jD: List Nat->List Oper->List Nat
 | acc,[]=>acc
 | acc,o::os=>jD (acc++[LW acc o]) os
def zq{T:List Nat}{i:Nat}: ∀(es:List Edge) (s:Nat),(es.foldl (λs e=>if Region.binds .any e then s ||| 2 ^ e.on ||| T.getD e.on 0 else s) s).testBit i=true->
  s.testBit i=true\/∃e∈es,Region.binds .any e=true/\(i=e.on\/(T.getD e.on 0).testBit i=true)
 | [],s,h=>.inl h
 | e::es,s,h=>by
  simp only[kF]at h;rcases zq es _ h with g | ⟨r,j,f⟩
  .split at g
   .rename_i hb;simp only[Nat.testBit_or,yF]at g;rcases g with(g | g) | g
    .exact .inl g
    .rw[Nat.testBit_two_pow]at g;have b:e.on=i:=by simpa using g
     exact .inr ⟨e,by simp,hb,.inl b.symm⟩
    .exact .inr ⟨e,by simp,hb,.inr g⟩
   .exact .inl g
  .exact .inr ⟨r,by simp[j],f⟩
def dflt: Rec:={dst:=none,val:=.top,upd:=[],new:=none,reads:=[],fp:=[],need:=[]}
def oq(tbl:List Nat)(ops:List Oper)(rs:List Rec): Bool:=
 (List.range ops.length).all λj=>
  (match ops[j]? with | some o=>tbl.getD j 0==LW tbl o&&o.after.all (λe=>!Region.binds .any e||decide (e.on<j)) | none=>false) &&
  (List.range j).all λi=>(tbl.getD j 0).testBit i||indep (rs.getD i dflt) (rs.getD j dflt)
def wm(draw:Bool)(tbl:List Nat)(s:St)(rs:List Rec): Bool:=
 (List.range rs.length).all λj=>match(rs.getD j dflt).new with
  | none=>true
  | some k=>unB k s&&(List.range rs.length).all λi=>i==j||(decide (j<i)&&(!draw||(tbl.getD i 0).testBit j))||D8 k (rs.getD i dflt)
def yq{α:Type}{l:List α}{i:Nat}{x d:α}(h:l[i]?=some x): l.getD i d=x:=by
 rw[qA,h];rfl
def nG{draw:Bool}{T:List Nat}{s:St}{rs:List Rec}(h:wm draw T s rs=true){j k:Nat}{r:Rec}(A:rs[j]?=some r)(L:r.new=some k):
  Unm k s.sig/\∀i q,rs[i]?=some q->i≠j->(i<j\/(draw=true/\(T.getD i 0).testBit j=false))->D8 k q=true:=by
 unfold wm at h;rw[qO]at h;have f:=(qG.1 A).1;have b:=h j (by simpa using f);rw[yq A,L]at b;simp only[qC,qO]at b;refine⟨Me b.1,λi q z e G=>?_⟩;have u:=(qG.1 z).1;have y:=b.2 i (by simpa using u);rw[yq z]at y;simp only[yF,kK,qC,qE,zY]at y;rcases y with(g | ⟨g1,g2⟩) | g
 .exact(e g).elim
 .rcases G with G | ⟨x,v⟩
  .omega
  .rcases g2 with g2 | g2
   .rw[x]at g2;cases g2
   .rw[v]at g2;cases g2
 .exact g
def aEm(c:Cfg)(ops:Array Oper)(draw:Bool)(s:St): Option (List Prop×St):=
 match ZC c ops ops.toList s with
 | some rs=>
  let tbl:=if draw then jD [] ops.toList else[]
  if wm draw tbl s rs=true/\(draw=true->oq tbl ops.toList rs=true)then some (rs.flatMap (·.need),gu rs s rs.length)else none
 | none=>none
section
variable {S:Base} {K:Kt} {mb:Tmp->Bool} {ops:Array Oper} {s:St} {rs:List Rec}
def cj(rs:List Rec)(i:Nat)(σ:Sig): Sig:=match rs[i]? with
 | some r=>fq r σ
 | none=>σ
def nB(b:∀(j:Nat) (r:Rec),rs[j]?=some r->iu r s.tm.length=true): ∀j,j<=rs.length->fR (cj rs) VH j s.sig=(gu rs s j).sig
 | 0,_=>rfl
 | j+1,g=>by
  have f:=nB b j Z;have e:=qB (l:=rs) (show j<rs.length by omega);show cj rs j (fR (cj rs) VH j s.sig)=_;rw[f,mG rs s j _ e,iw (by rw[lJ];exact b j _ e)];simp only[cj,e]
structure Jq (S:Base) (K:Kt) (mb:Tmp->Bool) (ops:Array Oper) (s:St) (rs:List Rec):Prop where
 len:rs.length=ops.size
 at_:∀(j:Nat) o r,ops[j]?=some o->rs[j]?=some r->iJ S.P S.G K (aC6 mb o) ops (gu rs s j).nx (gu rs s j).sig o=some r/\iu r s.tm.length=true
 tm:s.tm.length=S.N
 need:∀(j:Nat) r,rs[j]?=some r->∀q∈r.need,q
def Jq.dst (H:Jq S K mb ops s rs) {j:Nat} {o:Oper} {r:Rec} (h:ops[j]?=some o) (g:rs[j]?=some r):∀d,o.dst=some d->d<S.N:=by
 intro d hd;obtain⟨b,f⟩:=H.at_ j o r h g;have e:r.dst=o.dst:=by
  unfold iJ at b;split at b
  .split at b
   .unfold KG at b;split at b
    .cases b;rfl
    .split at b
     .cases b;rfl
     .cases b
   .cases b
  .cases b
 unfold iu at f;simp only[qC]at f;have:=f.1;rw[e,hd]at this;rw[<- H.tm];simpa using this
def Jq.step (u:ai S.P S.G K) (H:Jq S K mb ops s rs) {Q:Exit->Act->World->Prop} {j:Nat} {o:Oper} {r:Rec} (f:ops[j]?=some o) (b:rs[j]?=some r) {σ:Sig} {a:Act} {w:World}
  (x:∀t∈r.reads,σ.T t=(gu rs s j).sig.T t) (v:∀g∈r.fp,σ.m g=(gu rs s j).sig.m g) (h:∀k,r.new=some k->Unm k σ) (i:Sim S σ a w):
  wpOpIn S.F 0 S.P ops Q j (λy w'=>Sim S (cj rs j σ) y w') a w:=by
 have e:=va (H.at_ j o r f b).1 x v;have:=pC (Q:=Q) u f i (H.dst f b) e (H.need j r b) h;simp only[cj,b];exact this
def Hq(hK:ai S.P S.G K)(H:Jq S K mb ops s rs){T:List Nat}(e:wm false T s rs=true){a:Act}{w:World}(O:Sim S s.sig a w){Q:Exit->Act->World->Prop}
  (X:∀x w',Sim S (gu rs s rs.length).sig x w'->Q .normal x w') {id:Nat}:(Code.region id ops false).wpIn S.F 0 S.P Q a w:=by
 refine wpIn_region ?_;have g:∀(j:Nat) (r:Rec),rs[j]?=some r->iu r s.tm.length=true:=λj r b=>by
  have A:j<ops.size:=by rw[<- H.len];exact(qG.1 b).1
  exact(H.at_ j _ r (zW A) b).2
 have z:∀(j k:Nat) r,rs[j]?=some r->r.new=some k->∀i,i<=j->Unm k (gu rs s i).sig:=by
  intro j k r b v i;induction i with
  | zero=>intro _;exact(nG e b v).1
  | succ i y=>
   intro hi;have L:i<rs.length:=by have:=(qG.1 b).1;omega
   have f:=qB L;rw[mG rs s i _ f,iw (by rw[lJ];exact g i _ f)];exact rK ((nG e b v).2 i _ f Z (.inl Z)) (y Z)
 have key:∀(n j:Nat),j+n=ops.size->∀a w,Sim S (gu rs s j).sig a w->wpOpsIn S.F 0 S.P ops Q (List.range' j n) a w:=by
  intro n;induction n with
  | zero=>
   intro j A a w h;simp only[qCg,wpOpsIn];have:j=rs.length:=by rw[H.len];omega
   subst this;exact X a w h
  | succ n y=>
   intro j A a w h;have u:j<ops.size:=Z;have V:=zW u;have b:=qB (l:=rs) (show j<rs.length by rw[H.len];exact u);rw[qBn,wpOpsIn_cons];refine wpOpIn_mono (λx w' h'=>y (j+1) Z x w' ?_) (H.step hK (Q:=Q) V b (λ_ _=>rfl) (λ_ _=>rfl) (λk v=>z j k _ b v j (qJ _)) h);rw[mG rs s j _ b,iw (by rw[lJ];exact g j _ b)];simpa only[cj,b]using h'
 have:=key ops.size 0 Z a w O
 rwa [<- qBm]at this
def HJ{T:List Nat}(h:oq T ops.toList rs=true)(f:rs.length=ops.size):
  (∀(j:Nat) o,ops[j]?=some o->(∀e∈o.after,Region.binds .any e=true->e.on<j)/\∀i,(T.getD j 0).testBit i=true->∃e∈o.after,Region.binds .any e=true/\(i=e.on\/(T.getD e.on 0).testBit i=true))/\
  (∀(i j:Nat) (r q:Rec),i<j->rs[i]?=some r->rs[j]?=some q->(T.getD j 0).testBit i=false->indep r q=true):=by
 unfold oq at h;rw[qO]at h;refine⟨λj o A=>?_,λi j r q y L z hb=>?_⟩
 .have x:j<ops.size:=(vT.1 A).1;have b:=h j (by simpa using x);have v:ops.toList[j]?=some o:=by simpa using A
  rw[v]at b;simp only[qC,kK]at b;obtain⟨⟨u,G⟩,_⟩:=b;refine⟨λe O hb=>?_,λi hi=>?_⟩
  .rw[qAn]at G;have:=G e O;simpa[hb]using this
  .rw[u]at hi;unfold LW at hi;rcases zq _ _ hi with g | ⟨e,X,V⟩
   .simp at g
   .exact⟨e,by simpa using X,V⟩
 .have x:j<ops.size:=by rw[<- f];exact(qG.1 z).1
  have b:=h j (by simpa using x);simp only[qC,qO]at b;have u:=b.2 i (by simpa using y);rw[yq L,yq z,hb]at u;simpa using u
def vQ(hK:ai S.P S.G K)(hm:S.P.follows .mixedOrders=true)(H:Jq S K mb ops s rs){tbl:List Nat}(hnew:wm true tbl s rs=true)(hdr:oq tbl ops.toList rs=true)
  {a:Act} {w:World} (hs:Sim S s.sig a {w with drawn:=w.drawn+1}) {Q:Exit->Act->World->Prop} (hQ:∀a' w',Sim S (gu rs s rs.length).sig a' w'->Q .normal a' w') {id:Nat}:
  (Code.region id ops true).wpIn S.F 0 S.P Q a w:=by
 refine wpIn_region_any hm ?_;have hok:∀(j:Nat) (r:Rec),rs[j]?=some r->iu r s.tm.length=true:=λj r u=>by
  have y:j<ops.size:=by rw[<- H.len];exact(qG.1 u).1
  exact(H.at_ j _ r (zW y) u).2
 obtain⟨z,hind⟩:=HJ hdr H.len;have get:∀j,j<ops.size->∃r,rs[j]?=some r:=λj y=>⟨_,qB (by rw[H.len];exact y)⟩
 have HO:Orders (cj rs) ops.size (λi j=>(tbl.getD j 0).testBit i)
   (λj σ=>∀r,rs[j]?=some r->(∀t∈r.reads,σ.T t=(gu rs s j).sig.T t)/\∀nm∈r.fp,σ.m nm=(gu rs s j).sig.m nm)
   (λj σ=>∀r k,rs[j]?=some r->r.new=some k->Unm k σ) s.sig:=by
  refine⟨λi j hij y hna σ=>?_,λi j hij y hna σ=>?_,λi j hij y hna σ=>?_,λi j hi y hne L σ hu=>?_,λj y=>?_,λj y r k u hk=>(nG hnew u hk).1⟩
  .obtain⟨r,u⟩:=get i Z;obtain⟨q,V⟩:=get j y;simp only[cj,u,V];exact(nN (hind i j r q hij u V hna)).1 σ
  .obtain⟨r,u⟩:=get i Z;obtain⟨q,V⟩:=get j y;obtain⟨g1,g2⟩:=(nN (hind i j r q hij u V hna)).2.1 σ;simp only[cj,u];refine⟨λh r' O=>?_,λh r' O=>?_⟩<;>(have e:r'=q:=wW (O.symm.trans V);subst e;obtain⟨h1,h2⟩:=h _ O)
   .exact⟨λt ht=>(g1 t ht).symm.trans (h1 t ht),λnm b=>(g2 nm b).symm.trans (h2 nm b)⟩
   .exact⟨λt ht=>(g1 t ht).trans (h1 t ht),λnm b=>(g2 nm b).trans (h2 nm b)⟩
  .obtain⟨r,u⟩:=get i Z;obtain⟨q,V⟩:=get j y;obtain⟨g1,g2⟩:=(nN (hind i j r q hij u V hna)).2.2 σ;simp only[cj,V];refine⟨λh r' O=>?_,λh r' O=>?_⟩<;>(have e:r'=r:=wW (O.symm.trans u);subst e;obtain⟨h1,h2⟩:=h _ O)
   .exact⟨λt ht=>(g1 t ht).symm.trans (h1 t ht),λnm b=>(g2 nm b).symm.trans (h2 nm b)⟩
   .exact⟨λt ht=>(g1 t ht).trans (h1 t ht),λnm b=>(g2 nm b).trans (h2 nm b)⟩
  .obtain⟨q,V⟩:=get i hi;intro r k u hk;simp only[cj,V];refine rK ((nG hnew u hk).2 i q V hne ?_) (hu r k u hk);rcases L with L | L
   .exact .inl L
   .exact .inr ⟨rfl,L⟩
  .intro r u;rw[nB hok j (by rw[H.len];omega)];exact⟨λ_ _=>rfl,λ_ _=>rfl⟩
 have key:∀(n:Nat) (listed:Array Bool) (a:Act) (w:World),listed.size=ops.size->
   ((List.range ops.size).filter λi=>!listed.getD i true).length<=n->
   (∀i j,i<j->j<ops.size->(tbl.getD j 0).testBit i=true->listed.getD j false=true->listed.getD i false=true)->
   Sim S (fR (cj rs) (λi=>listed.getD i false) ops.size s.sig) a w->wpAnyIn S.F 0 S.P .any ops Q n listed a w:=by
  have A:∀(listed:Array Bool) (a:Act) (w:World),listed.size=ops.size->Region.ready .any ops listed=[]->
    Sim S (fR (cj rs) (λi=>listed.getD i false) ops.size s.sig) a w->Q .normal a w:=by
   intro listed a w f hrd h;have hall:∀j,j<ops.size->listed.getD j false=true:=by
    intro j;induction j using Nat.strongRecOn with
    | _ j ih=>
     intro y;cases hd:listed.getD j false with
     | true=>rfl
     | false=>
      exfalso;have ho:=zW y;have hmem:j∈Region.ready .any ops listed:=by
       unfold Region.ready;simp only[yS,qZ,qC,ho,zU,qK];refine⟨y,?_,?_⟩
       .have:listed.getD j true=listed.getD j false:=by simp[Array.getD,f,y]
        rw[this,hd];rfl
       .rw[qAn];intro e he;cases hb:Region.binds .any e with
        | false=>rfl
        | true=>
         have hlt:=(z j _ ho).1 e he hb;rw[ih e.on hlt Z];rfl
      rw[hrd]at hmem;cases hmem
   refine hQ a w ?_;rw[H.len,<- nB hok ops.size (by rw[H.len];exact qJ _),nA (cj rs) (d:=VH) (d':=λi=>listed.getD i false) ops.size s.sig (λi hi=>(hall i hi).symm)];exact h
  intro n;induction n with
  | zero=>
   intro listed a w f hcnt hdc h;have hrd:Region.ready .any ops listed=[]:=by
    have:((List.range ops.size).filter λi=>!listed.getD i true)=[]:=vW Z;unfold Region.ready;rw[qBc]at this ⊢;intro i hi;have:=this i hi;simp only[qC,not_and];intro h1;exact(this h1).elim
   exact⟨hrd,A listed a w f hrd h⟩
  | succ n ih=>
   intro listed a w f hcnt hdc h;refine⟨λhrd=>A listed a w f hrd h,λj y=>?_⟩;obtain⟨hjun,o,ho,hpre⟩:=mem_ready.1 y;have X:j<ops.size:=(vT.1 ho).1;obtain⟨r,u⟩:=get j X;have hjf:listed.getD j false=false:=by
    have:listed.getD j true=listed.getD j false:=by simp[Array.getD,f,X]
    rw[<- this];exact hjun
   have hp:∀i,i<j->(tbl.getD j 0).testBit i=true->listed.getD i false=true:=by
    intro i hij hb;obtain⟨e,he,heb,L⟩:=(z j o ho).2 i hb;have hel:=hpre e he heb;rcases L with rfl | L
    .exact hel
    .have hlt:=(z j o ho).1 e he heb;have:i<e.on:=by
      have below:∀q,q<ops.size->∀i,(tbl.getD q 0).testBit i=true->i<q:=by
       intro q;induction q using Nat.strongRecOn with
       | _ q ihq=>
        intro V i hb;have hoq:=zW V;obtain⟨e,he,heb,L⟩:=(z q _ hoq).2 i hb;have hlt:=(z q _ hoq).1 e he heb;rcases L with rfl | L
        .exact hlt
        .have:=ihq e.on hlt Z i L;omega
      exact below e.on Z i L
     exact hdc i e.on this Z L hel
   obtain⟨g1,g2,g3⟩:=HC HO (done:=λi=>listed.getD i false) hdc X hjf hp;obtain⟨g4,g5⟩:=g1 r u;refine wpOpIn_mono (λa' w' h'=>ih (listed.setIfInBounds j true) a' w' (by simpa using f) ?_ ?_ ?_) (H.step hK (Q:=Q) ho u g4 g5 (λk hk=>g2 r k u hk) h)
   ·
    have L:∀(l:List Nat),l.Nodup->j∈l->(l.filter λi=>!(listed.setIfInBounds j true).getD i true).length+1<=(l.filter λi=>!listed.getD i true).length:=by
     intro l;induction l with
     | nil=>intro _ h;cases h
     | cons x l ihl=>
      intro hnd hm;rw[List.nodup_cons]at hnd;simp only[yN];by_cases hx:x=j
      .subst hx;have e1:(listed.setIfInBounds x true).getD x true=true:=by
        simp[Array.getD,f,X]
       have e2:∀(l:List Nat),x∉l->(l.filter λi=>!(listed.setIfInBounds x true).getD i true)=l.filter λi=>!listed.getD i true:=by
        intro l hl;apply List.filter_congr;intro i hi;have:i≠x:=λe=>hl (e▸hi)
        simp only[qQ,zS];rw[if_neg (λe=>this e.symm)]
       rw[e1,hjun,e2 l hnd.1];simp
      .have e1:(listed.setIfInBounds j true).getD x true=listed.getD x true:=by
        simp only[qQ,zS];rw[if_neg (λe=>hx e.symm)]
       rw[e1];have ih2:=ihl hnd.2 (by rcases zK.1 hm with g | g;exact(hx g.symm).elim;exact g);split
       .simp only[wS];omega
       .exact ih2
    have:=L (List.range ops.size) List.nodup_range (by simpa using X);omega
   .intro i q hiq V hb hlq;have e:∀i,(listed.setIfInBounds j true).getD i false=if i=j then true else listed.getD i false:=by
     intro i;simp only[qQ,zS];by_cases e:j=i
     .subst e;simp[f,X]
     .rw[if_neg e,if_neg (λh=>e h.symm)]
    rw[e]at hlq ⊢;split
    .rfl
    .split at hlq
     .rename_i e1;subst e1;exact hp i hiq hb
     .exact hdc i q hiq V hb hlq
   .have e:(λi=>(listed.setIfInBounds j true).getD i false)=λi=>if i=j then true else listed.getD i false:=by
     funext i
     simp only[qQ,zS];by_cases e:j=i
     .subst e;simp[f,X]
     .rw[if_neg e,if_neg (λh=>e h.symm)]
    rw[e,g3];exact h'
 refine key ops.size (Array.replicate ops.size false) a _ (by simp) ?_ ?_ ?_
 .exact wH (zQ _ _) (by simp)
 .intro i j hij y hb hl;rw[qQ]at hl;simp[y]at hl
 .have:∀n,fR (cj rs) (λi=>(Array.replicate ops.size false).getD i false) n s.sig=s.sig:=by
   intro n;induction n with
   | zero=>rfl
   | succ n ih=>
    have:(Array.replicate ops.size false).getD n false=false:=by
     rw[qQ];cases h:(Array.replicate ops.size false)[n]? with
     | none=>rfl
     | some v=>rw[yU]at h;split at h<;>cases h;rfl
    simp only[fR,this,wE,xO];exact ih
  rw[this];exact hs
end
end Go.Eng
namespace Go.Eng
open Go.RowKit
section
variable {S:Base} {K:Kt} {mb:Tmp->Bool} {ops:Array Oper} {s:St} {rs:List Rec}
def Md{listed:Array Bool}{j N:Nat}(z:listed.size=N)(r:j<N)(f:listed.getD j true=false): ((List.range N).filter λi=>!(listed.setIfInBounds j true).getD i true).length+1<=((List.range N).filter λi=>!listed.getD i true).length:=by
 have L:∀(l:List Nat),l.Nodup->j∈l->(l.filter λi=>!(listed.setIfInBounds j true).getD i true).length+1<=(l.filter λi=>!listed.getD i true).length:=by
  intro l;induction l with
  | nil=>intro _ h;cases h
  | cons x l u=>
   intro b hm;rw[List.nodup_cons]at b;simp only[yN];by_cases y:x=j
   .subst y;have A:(listed.setIfInBounds x true).getD x true=true:=by
     simp[Array.getD,z,r]
    have O:∀(l:List Nat),x∉l->(l.filter λi=>!(listed.setIfInBounds x true).getD i true)=l.filter λi=>!listed.getD i true:=by
     intro l G;apply List.filter_congr;intro i hi;have:i≠x:=λe=>G (e▸hi)
     simp only[qQ,zS];rw[if_neg (λe=>this e.symm)]
    rw[A,f,O l b.1];simp
   .have A:(listed.setIfInBounds j true).getD x true=listed.getD x true:=by
     simp only[qQ,zS];rw[if_neg (λe=>y e.symm)]
    rw[A];have v:=u b.2 (by rcases zK.1 hm with g | g;exact(y g.symm).elim;exact g);split
    .simp only[wS];omega
    .exact v
 exact L (List.range N) List.nodup_range (by simpa using r)
def Live(tbl:List Nat)(k q j:Nat): Prop:=k<=j/\j≠q/\(tbl.getD j 0).testBit q=false
def FG(hK:ai S.P S.G K)(z:rs.length=ops.size)(htm:s.tm.length=S.N){b:List Nat}{k q:Nat}
  (hat:∀(j:Nat) o r,ops[j]?=some o->rs[j]?=some r->Live b k q j->iJ S.P S.G K (aC6 mb o) ops (gu rs s j).nx (gu rs s j).sig o=some r/\(∀d,o.dst=some d->d<S.N)/\∀p∈r.need,p)
  (hok:∀(j:Nat) (r:Rec),rs[j]?=some r->iu r s.tm.length=true) (hnew:wm true b s rs=true) (hdr:oq b ops.toList rs=true) {Q:Exit->Act->World->Prop}
  (hQ:ops.size<=q->∀a' w',Sim S (gu rs s rs.length).sig a' w'->Q .normal a' w')
  (spec:q<ops.size->∀(n:Nat) (listed:Array Bool) (a:Act) (w:World),listed.size=ops.size->listed.getD q false=false->((List.range ops.size).filter λi=>!listed.getD i true).length<=n+1->
   (∀i,(b.getD q 0).testBit i=true->listed.getD i false=true)->(∀i,(b.getD i 0).testBit q=true->i<ops.size->listed.getD i false=false)->
   (∀r,rs[q]?=some r->(∀t∈r.reads,(fR (cj rs) (λi=>listed.getD i false) ops.size s.sig).T t=(gu rs s q).sig.T t)/\∀y∈r.fp,(fR (cj rs) (λi=>listed.getD i false) ops.size s.sig).m y=(gu rs s q).sig.m y)->
   Sim S (fR (cj rs) (λi=>listed.getD i false) ops.size s.sig) a w->wpOpIn S.F 0 S.P ops Q q (wpAnyIn S.F 0 S.P .any ops Q n (listed.setIfInBounds q true)) a w):
  ∀(n:Nat) (listed:Array Bool) (a:Act) (w:World),listed.size=ops.size->((List.range ops.size).filter λi=>!listed.getD i true).length<=n->
   (∀i,i<k->i<ops.size->listed.getD i false=true)->(q<ops.size->listed.getD q false=false)->
   (∀i j,i<j->j<ops.size->(b.getD j 0).testBit i=true->listed.getD j false=true->listed.getD i false=true)->
   Sim S (fR (cj rs) (λi=>listed.getD i false) ops.size s.sig) a w->wpAnyIn S.F 0 S.P .any ops Q n listed a w:=by
 obtain⟨A,hind⟩:=HJ hdr z;have get:∀j,j<ops.size->∃r,rs[j]?=some r:=λj O=>⟨_,qB (by rw[z];exact O)⟩
 have HO:Orders (cj rs) ops.size (λi j=>(b.getD j 0).testBit i)
   (λj σ=>∀r,rs[j]?=some r->(∀t∈r.reads,σ.T t=(gu rs s j).sig.T t)/\∀y∈r.fp,σ.m y=(gu rs s j).sig.m y)
   (λj σ=>∀r k,rs[j]?=some r->r.new=some k->Unm k σ) s.sig:=by
  refine⟨λi j hij O hna σ=>?_,λi j hij O hna σ=>?_,λi j hij O hna σ=>?_,λi j hi O hne hc σ hu=>?_,λj O=>?_,λj O r k v hk=>(nG hnew v hk).1⟩
  .obtain⟨r,v⟩:=get i Z;obtain⟨q,hq⟩:=get j O;simp only[cj,v,hq];exact(nN (hind i j r q hij v hq hna)).1 σ
  .obtain⟨r,v⟩:=get i Z;obtain⟨q,hq⟩:=get j O;obtain⟨g1,g2⟩:=(nN (hind i j r q hij v hq hna)).2.1 σ;simp only[cj,v];refine⟨λh r' V=>?_,λh r' V=>?_⟩<;>(have e:r'=q:=wW (V.symm.trans hq);subst e;obtain⟨h1,h2⟩:=h _ V)
   .exact⟨λt ht=>(g1 t ht).symm.trans (h1 t ht),λy f=>(g2 y f).symm.trans (h2 y f)⟩
   .exact⟨λt ht=>(g1 t ht).trans (h1 t ht),λy f=>(g2 y f).trans (h2 y f)⟩
  .obtain⟨r,v⟩:=get i Z;obtain⟨q,hq⟩:=get j O;obtain⟨g1,g2⟩:=(nN (hind i j r q hij v hq hna)).2.2 σ;simp only[cj,hq];refine⟨λh r' V=>?_,λh r' V=>?_⟩<;>(have e:r'=r:=wW (V.symm.trans v);subst e;obtain⟨h1,h2⟩:=h _ V)
   .exact⟨λt ht=>(g1 t ht).symm.trans (h1 t ht),λy f=>(g2 y f).symm.trans (h2 y f)⟩
   .exact⟨λt ht=>(g1 t ht).trans (h1 t ht),λy f=>(g2 y f).trans (h2 y f)⟩
  .obtain⟨q,hq⟩:=get i hi;intro r k v hk;simp only[cj,hq];refine rK ((nG hnew v hk).2 i q hq hne ?_) (hu r k v hk);rcases hc with hc | hc
   .exact .inl hc
   .exact .inr ⟨rfl,hc⟩
  .intro r v;rw[nB hok j (by rw[z];omega)];exact⟨λ_ _=>rfl,λ_ _=>rfl⟩
 have below:∀q,q<ops.size->∀i,(b.getD q 0).testBit i=true->i<q:=by
  intro q;induction q using Nat.strongRecOn with
  | _ q ihq=>
   intro hq i hb;have hoq:=zW hq;obtain⟨e,he,heb,hc⟩:=(A q _ hoq).2 i hb;have hlt:=(A q _ hoq).1 e he heb;rcases hc with rfl | hc
   .exact hlt
   .have:=ihq e.on hlt Z i hc;omega
 have L:∀(listed:Array Bool) (a:Act) (w:World),listed.size=ops.size->Region.ready .any ops listed=[]->(q<ops.size->listed.getD q false=false)->
   Sim S (fR (cj rs) (λi=>listed.getD i false) ops.size s.sig) a w->Q .normal a w:=by
  intro listed a w u hrd X h;have hall:∀j,j<ops.size->listed.getD j false=true:=by
   intro j;induction j using Nat.strongRecOn with
   | _ j ih=>
    intro O;cases hd:listed.getD j false with
    | true=>rfl
    | false=>
     exfalso;have ho:=zW O;have hmem:j∈Region.ready .any ops listed:=by
      unfold Region.ready;simp only[yS,qZ,qC,ho,zU,qK];refine⟨O,?_,?_⟩
      .have:listed.getD j true=listed.getD j false:=by simp[Array.getD,u,O]
       rw[this,hd];rfl
      .rw[qAn];intro e he;cases hb:Region.binds .any e with
       | false=>rfl
       | true=>
        have hlt:=(A j _ ho).1 e he hb;rw[ih e.on hlt Z];rfl
     rw[hrd]at hmem;cases hmem
  have hqs:ops.size<=q:=by
   rcases zO q ops.size with g | g
   .have:=X g;rw[hall q g]at this;cases this
   .exact g
  refine hQ hqs a w ?_;rw[z,<- nB hok ops.size (by rw[z];exact qJ _),nA (cj rs) (d:=VH) (d':=λi=>listed.getD i false) ops.size s.sig (λi hi=>(hall i hi).symm)];exact h
 intro n;induction n with
 | zero=>
  intro listed a w u hcnt _ X hdc h;have hrd:Region.ready .any ops listed=[]:=by
   have:((List.range ops.size).filter λi=>!listed.getD i true)=[]:=vW Z;unfold Region.ready;rw[qBc]at this ⊢;intro i hi;have:=this i hi;simp only[qC,not_and];intro h1;exact(this h1).elim
  exact⟨hrd,L listed a w u hrd X h⟩
 | succ n ih=>
  intro listed a w u hcnt hk X hdc h;refine⟨λhrd=>L listed a w u hrd X h,λj O=>?_⟩;obtain⟨hjun,o,ho,hpre⟩:=mem_ready.1 O;have x:j<ops.size:=(vT.1 ho).1;obtain⟨r,v⟩:=get j x;have hjf:listed.getD j false=false:=by
   have:listed.getD j true=listed.getD j false:=by simp[Array.getD,u,x]
   rw[<- this];exact hjun
  have hp:∀i,i<j->(b.getD j 0).testBit i=true->listed.getD i false=true:=by
   intro i hij hb;obtain⟨e,he,heb,hc⟩:=(A j o ho).2 i hb;have hel:=hpre e he heb;rcases hc with rfl | hc
   .exact hel
   .have hlt:=(A j o ho).1 e he heb;exact hdc i e.on (below e.on Z i hc) Z hc hel
  obtain⟨g1,g2,g3⟩:=HC HO (done:=λi=>listed.getD i false) hdc x hjf hp;by_cases hjq:j=q
  .subst hjq;exact spec x n listed a w u hjf hcnt (λi hb=>hp i (below j x i hb) hb) (λi hb hi=>by
    cases hl:listed.getD i false with
    | false=>rfl
    | true=>have:=hdc j i (below i hi j hb) hi hb hl;rw[hjf]at this;cases this) g1 h
  .have hlive:Live b k q j:=by
    refine⟨?_,hjq,?_⟩
    .rcases zO j k with g | g
     .have:=hk j g x;rw[hjf]at this;cases this
     .exact g
    .cases hb:(b.getD j 0).testBit q with
     | false=>rfl
     | true=>
      have hlt:=below j x q hb;have:=hp q hlt hb;rw[X Z]at this;cases this
   obtain⟨g4,g5⟩:=g1 r v;obtain⟨l1,l2,l3⟩:=hat j o r ho v hlive;have hst:=va l1 g4 g5;have hstep:wpOpIn S.F 0 S.P ops Q j (λa' w'=>Sim S (cj rs j (fR (cj rs) (λi=>listed.getD i false) ops.size s.sig)) a' w') a w:=by
    have:=pC (Q:=Q) hK ho h l2 hst l3 (λk hk=>g2 r k v hk);simp only[cj,v];exact this
   have eset:∀i,(listed.setIfInBounds j true).getD i false=if i=j then true else listed.getD i false:=by
    intro i;simp only[qQ,zS];by_cases e:j=i
    .subst e;simp[u,x]
    .rw[if_neg e,if_neg (λh=>e h.symm)]
   refine wpOpIn_mono (λa' w' h'=>ih (listed.setIfInBounds j true) a' w' (by simpa using u) ?_ ?_ ?_ ?_ ?_) hstep
   .have:=Md u x hjun;omega
   .intro i hi hil;rw[eset];split
    .rfl
    .exact hk i hi hil
   .intro hqs;rw[eset,if_neg (λe=>hjq e.symm)];exact X hqs
   .intro i p hip hp2 hb hlp;rw[eset]at hlp ⊢;split
    .rfl
    .split at hlp
     .rename_i e1;subst e1;exact hp i hip hb
     .exact hdc i p hip hp2 hb hlp
   .rw[show(λi=>(listed.setIfInBounds j true).getD i false)=λi=>if i=j then true else listed.getD i false from funext eset,g3];exact h'
end
end Go.Eng
namespace Go.Eng
open Go.RowKit
def oV(m:Mem)(nm:Nat): Bool:=m.any λp=>match p.2 with
 | .mat _ _ _ _ ov=>(AV.namesL (ov.map (·.2))).contains nm
 | _=>false
def gone(m m':Mem)(nm:Nat): Option Blk:=if oV m nm then none else match m'.lookup nm with
 | some _=>none
 | none=>m.lookup nm
def ib{m m':Mem}{e:Nat}{b:Blk}(h:gone m m' e=some b): m.lookup e=some b/\m'.lookup e=none/\oV m e=false:=by
 unfold gone at h;split at h
 .cases h
 .rename_i g;split at h
  .cases h
  .rename_i f;exact⟨h,f,kC.2 g⟩
def OL(m m':Mem)(nm n:Nat)(t:Ty): Option (List Prop×List t.den):=
 match gone m m' nm with
  | some (.buf _ t' xs [])=>if h:t'=t then some ([xs.length=n],h▸xs)else none
  | some (.buf _ (.sl e) xs [(i,.buf nm2 n2)])=>match gone m m' nm2 with
    | some (.buf _ e' zs [])=>if h:e'=e then if h2:Ty.sl e=t then some ([xs.length=n,zs.length=n2],h2▸Em (α:=List e.den) xs i (h▸zs))else none else none
    | _=>none
  | some (.mat _ _ e xss [])=>if h:Ty.sl e=t then some ([xss.length=n],h▸xss)else none
  | _=>none
mutual
def leA(m m':Mem): AV->AV->Option (List Prop)
 | a,b=>match b with
  | .top=>some []
  | b=>match a,b with
   | .dat t x,.dat t' y=>if h:t=t' then some [h▸x=y]else none
   | .val v,.dat t y=>match v,t,y with
    | .slice none 0 0,.sl _,y=>some [y=[]]
    | _,_,_=>none
   | .val v,.buf nm n=>match v,m.lookup nm,m'.lookup nm with
    | .slice none 0 0,none,some (.buf _ _ ys [])=>some [n=0,ys=[]]
    | _,_,_=>none
   | .val v,.val v'=>some [v=v']
   | .buf nm n,.buf nm' n'=>if nm=nm' then match m.lookup nm with | some _=>some [n=n'] | none=>none else none
   | .buf nm n,.dat t y=>match t,y with
    | .sl t,y=>match OL m m' nm n t with | some (ns,xs)=>some (ns++[xs=y]) | none=>none
    | _,_=>none
   | .ptr nm g i c,.ptr nm' g' i' c'=>if nm=nm' then match m.lookup nm with | some _=>some [g=g',i=i',c=c'] | none=>none else none
   | .ptr nm g i c,.ip t y=>match gone m m' nm with
    | some (.var cs)=>match cT t (cs.drop c)with
     | some (x,_)=>some [1=g,i=0,x=y]
     | none=>none
    | _=>none
   | .ip t x,.ip t' y=>if h:t=t' then some [h▸x=y]else none
   | .agg cs,.agg cs'=>leL m m' cs cs'
   | .tup cs,.tup cs'=>leL m m' cs cs'
   | .fn f cs,.fn f' cs'=>if f=f' then leL m m' cs cs' else none
   | .clo1 a r p g,.clo1 a' r' p' g'=>some [AV.clo1 a r p g=AV.clo1 a' r' p' g']
   | .clo2 a b r p g,.clo2 a' b' r' p' g'=>some [AV.clo2 a b r p g=AV.clo2 a' b' r' p' g']
   | .ifc t a,.ifc t' b=>if t=t' then leA m m' a b else none
   | .grd g a,b=>match leA m m' a b with | some ns=>some ((g=true)::ns) | none=>none
   | .ptr nm g i c,.ipv b=>match gone m m' nm with
    | some (.var cs)=>match cs.drop c with
     | x::_=>if nameless x then some [1=g,i=0,x=b]else none
     | []=>none
    | _=>none
   | .ptr nm g i 0,.ia t y=>match gone m m' nm with
    | some (.buf _ t' xs [])=>if h:t'=t then some [xs.length=g,i=0,h▸xs=y]else none
    | _=>none
   | .ipv a,.ipv b=>leA m m' a b
   | .ips cs,.ips cs'=>leL m m' cs cs'
   | .slv cs,.slv cs'=>leL m m' cs cs'
   | .ia t x,.ia t' y=>if h:t=t' then some [h▸x=y]else none
   | .yld l,.yld l'=>some [l=l']
   | .av t x,.av t' y=>if h:t=t' then some [h▸x=y]else none
   | .pin u a,.pin u' b=>match leA m m' a b with | some ns=>some ((u=u')::ns) | none=>none
   | _,_=>none
def leL(m m':Mem): List AV->List AV->Option (List Prop)
 | [],[]=>some []
 | a::as,b::bs=>match leA m m' a b,leL m m' as bs with
  | some p,some q=>some (p++q)
  | _,_=>none
 | _,_=>none
end
def aC7(m m':Mem)(t:Ty)(xs ys:List t.den)(i:Nat)(v:AV): Option (List Prop):=
 match t,xs,ys,v with
 | .sl e,xs,ys,.buf nm2 n2=>match OL m m' nm2 n2 e with
  | some (ns,zs)=>some (ns++[Em (α:=List e.den) xs i zs=ys])
  | none=>none
 | _,_,_,_=>none
def Nv(m m':Mem)(eli:TypeId)(e:Ty)(xs ys:List (List e.den))(i:Nat): AV->Option (List Prop)
 | .buf nm2 n2=>match m'.lookup nm2,m.lookup nm2 with
  | none,some (.buf el2 e2 zs [])=>if el2=eli then if h:e2=e then some [zs.length=n2,Em (α:=List e.den) xs i (h▸zs)=ys]else none else none
  | _,_=>none
 | _=>none
def Yi(e:Ty)(t:Ty)(xs:List t.den)(ys:List (List e.den)): Option (List Prop):=
 if h:t=.sl e then if e.sz=1 then some [(h▸xs:List (Ty.den (.sl e)))=ys,Fb ys]else none else none
def leB(m m':Mem): Blk->Blk->Option (List Prop)
 | .var cs,.var cs'=>leL m m' cs cs'
 | .buf el t xs ov,.buf el' t' ys ov'=>if el=el' then if h:t=t' then match ov,ov' with
   | [],[]=>some [h▸xs=ys]
   | [(i,v)],[(i',v')]=>match leA m m' v v' with
    | some ns=>some ([h▸xs=ys,i=i']++ns)
    | none=>none
   | [(i,v)],[]=>aC7 m m' t' (h▸xs) ys i v
   | _,_=>none
  else none else none
 | .buf el t xs [],.mat el' _ e ys []=>if el=el' then Yi e t xs ys else none
 | .mat el eli e xs ov,.mat el' eli' e' ys ov'=>if el=el'/\eli=eli' then if h:e=e' then match ov,ov' with
   | [],[]=>some [h▸xs=ys]
   | [(i,v)],[(i',v')]=>match leA m m' v v' with
    | some ns=>some ([h▸xs=ys,i=i']++ns)
    | none=>none
   | [(i,v)],[]=>Nv m m' eli e' (h▸xs) ys i v
   | _,_=>none
  else none else none
 | _,_=>none
def leM(m m':Mem): Mem->Option (List Prop)
 | []=>some []
 | (nm,b')::r=>match(match m.lookup nm with
     | some b=>leB m m' b b'
     | none=>match b' with
      | .buf _ _ ys []=>some [ys=[]]
      | _=>none),leM m m' r with
  | some p,some q=>some (p++q)
  | _,_=>none
def Be: Mem->List Nat
 | []=>[]
 | (nm,.mat _ _ _ _ (_::_))::r=>nm::Be r
 | _::r=>Be r
def VS(s s':St): Option (List Prop):=
 if s.tm.length=s'.tm.length/\(Be s.mem).length<=1 then match leL s.mem s'.mem s.tm s'.tm,leM s.mem s'.mem s'.mem,leL s.mem s'.mem s.sv s'.sv with
  | some p,some q,some r=>some (p++q++r)
  | _,_,_=>none
 else none
section
variable {S:Base} {s s':St} {a:Act} {w:World} {D:Nat->Prop} {E:Nat->Ent}
def Z4(m m':Mem)(D:Nat->Prop)(E:Nat->Ent)(b:Nat): Prop:=D b\/(∃nm blk,m.lookup nm=some blk/\m'.lookup nm=none/\oV m nm=false/\(E nm).isNil=false/\b=(E nm).b)\/∃nm i,m'.lookup nm=none/\cA (λk=>m.lookup k) E nm i b
def aCm(E:Nat->Ent)(nm:Nat): Blk->Nat->Nat×Nat
 | .mat _ _ _ _ [(i,.buf nm2 _)]=>λk=>if k=i then((E nm2).b,(E nm2).cap)else(E nm).rb k
 | _=>(E nm).rb
def zw(m:Mem)(E:Nat->Ent)(nm:Nat): Ent:=match m.lookup nm with | some b=>⟨(E nm).b,(E nm).cap,(E nm).isNil,aCm E nm b⟩ | none=>⟨0,0,true,noR⟩
def IN{m:Mem}{E:Nat->Ent}{e:Nat}{b:Blk}(h:m.lookup e=some b): zw m E e=⟨(E e).b,(E e).cap,(E e).isNil,aCm E e b⟩:=by unfold zw;rw[h]
def yx{m:Mem}{E:Nat->Ent}{e:Nat}{b:Blk}(h:m.lookup e=some b)(n:Nat): (zw m E e).handle n=(E e).handle n:=by rw[IN h];rfl
def Qq(s:St)(w:World)(D:Nat->Prop)(E:Nat->Ent): Ctx:=⟨w,D,s.sig.m,E⟩
def ctx1(s s':St)(w:World)(D:Nat->Prop)(E:Nat->Ent): Ctx:=⟨w,Z4 s.mem s'.mem D E,s'.sig.m,zw s.mem E⟩
def jW(h:aP S s.sig a w D E){e:Nat}{el:TypeId}{t:Ty}{xs:List t.den}{ov:List (Nat×AV)}(hm:s.mem.lookup e=some (.buf el t xs ov)):
  ∃raw,cn S.P (Qq s w D E) t xs ov raw/\raw.length=xs.length*t.sz/\
   (((E e).isNil=true/\xs=[]/\(E e).handle xs.length=.slice none 0 0) \/
    ((E e).isNil=false/\(E e).handle xs.length=.slice (some ⟨(E e).b,0,none⟩) xs.length (E e).cap/\xs.length<=(E e).cap/\cX w (E e).b 0 raw)):=by
 obtain⟨raw,i,A⟩:=h.bl e _ hm;refine⟨raw,A,i.1,?_⟩;cases f:(E e).isNil with
 | true=>
  have v:(E e).handle xs.length=.slice none 0 0:=by unfold Ent.handle;rw[f];rfl
  rw[v]at i;rcases i.2 with⟨_,G⟩ | ⟨g,cap,y,r,_⟩
  .exact .inl ⟨rfl,vW G,v⟩
  .cases r
 | false=>
  have v:(E e).handle xs.length=.slice (some ⟨(E e).b,0,none⟩) xs.length (E e).cap:=by unfold Ent.handle;rw[f];rfl
  rw[v]at i;refine .inr ⟨rfl,v,?_,λj u z=>?_⟩
  .rcases i.2 with⟨r,_⟩ | ⟨g,cap,y,r,_,_,L,_⟩
   .cases r
   .simp only[yD,yB]at r;omega
  .have x:j<xs.length*t.sz:=by rw[<- i.1];exact(qG.1 z).1
   show w.cell? ⟨(E e).b,0+j,none⟩=some u;rw[zD,i.cellAt j x];exact z
def b8{m m':Mem}: ∀b,D b->Z4 m m' D E b:=λ_ h=>.inl h
def nq(h:aP S s.sig a w D E){r:Nat}{el:TypeId}{t:Ty}{xs:List t.den}(T:gone s.mem s'.mem r=some (.buf el t xs [])):
  ag w (Z4 s.mem s'.mem D E) (.sl t) xs [(E r).handle xs.length]:=by
 obtain⟨hm,v,V⟩:=ib T;obtain⟨raw,L,r2,G⟩:=jW h hm;rcases G with⟨_,rfl,e⟩ | ⟨f,e,x,X⟩
 .rw[e];exact bv _ _ _
 .rw[e];refine⟨_,_,rfl,x,(λh=>by cases h),(λad z _=>by cases z;rfl),λi y O=>?_⟩;have A:=L i y O;simp only[List.lookup]at A;refine⟨_,_,rfl,.inr (.inl ⟨r,_,hm,v,V,f,rfl⟩),?_,aw b8 (λ_ _=>rfl) A⟩;intro j u g;rw[vV]at g;split at g
  .rw[vJ]at g;have:=X (i*t.sz+j) u g;show w.cell? ⟨(E r).b,0+i*t.sz+j,none⟩=some u;rw[zD]at this ⊢;exact this
  .cases g
def HW(h:aP S s.sig a w D E){e:Nat}{el X:TypeId}{t:Ty}{xss:List (List t.den)}(hg:gone s.mem s'.mem e=some (.mat el X t xss [])):
  ag w (Z4 s.mem s'.mem D E) (.sl (.sl t)) xss [(E e).handle xss.length]:=by
 obtain⟨hm,T,hf⟩:=ib hg;obtain⟨h0,raw,O,r2⟩:=h.bl e _ hm;cases f:(E e).isNil with
 | true=>
  have e3:(E e).handle xss.length=.slice none 0 0:=by unfold Ent.handle;rw[f];rfl
  rw[e3]at O ⊢;rcases O.2 with⟨_,x⟩ | ⟨g,cap,cur,r,_⟩
  .have:xss=[]:=vW x;subst this;exact bv _ _ _
  .cases r
 | false=>
  have e3:(E e).handle xss.length=.slice (some ⟨(E e).b,0,none⟩) xss.length (E e).cap:=by unfold Ent.handle;rw[f];rfl
  rw[e3]at O ⊢;have G:xss.length<=(E e).cap:=by
   rcases O.2 with⟨r,_⟩ | ⟨g,cap,cur,r,_,_,G,_⟩
   .cases r
   .simp only[yD,yB]at r;omega
  refine⟨_,_,rfl,G,(λh=>by cases h),(λad L _=>by cases L;rfl),λi row hi=>?_⟩;obtain⟨u,g1,g2⟩:=r2 i row hi;simp only[List.lookup]at g2;obtain⟨ao,cap,q2,k1,k0,k2⟩:=g2;refine⟨_,[u],rfl,.inr (.inl ⟨e,_,hm,T,hf,f,rfl⟩),?_,?_⟩
  .intro j v hj;cases j with
   | succ j=>simp at hj
   | zero=>
    simp at hj;subst hj;have A:i<xss.length*1:=by have:=(qG.1 hi).1;omega
    show w.cell? ⟨(E e).b,0+i*1+0,none⟩=some u;rw[zD,xA,xY,O.cellAt i A];exact g1
  .by_cases hp:0<row.length
   .obtain⟨p1,p2,p3⟩:=k2 hp;subst k1 p1;have V:row.length<=cap:=by
     rcases p2.2 with⟨r,_⟩ | ⟨g,cap',cur,r,_,_,G,_⟩
     .cases r
     .simp only[yD,yB]at r;omega
    refine⟨_,_,rfl,V,(λh=>by cases h),(λad L _=>by cases L;rfl),λj y hy=>?_⟩;have hr:=p3 j y hy;simp only[List.lookup]at hr;refine⟨_,_,rfl,.inr (.inr ⟨e,i,T,el,X,t,xss,[],row,hm,rfl,hi,hp,rfl⟩),?_,aw b8 (λ_ _=>rfl) hr⟩;intro z v x;rw[vV]at x;split at x
    .rename_i hz1;rw[vJ]at x;have hj:=(qG.1 hy).1;have A:j*t.sz+z<row.length*1:=by rw[h0]at hz1 ⊢;omega
     show w.cell? ⟨((E e).rb i).1,0+j*t.sz+z,none⟩=some v;rw[zD,p2.cellAt _ A];exact x
    .cases x
   .have:row=[]:=vW Z;subst this k1;exact⟨ao,cap,rfl,zA _,k0,λ_ _ h=>absurd h (xX _),λj y hy=>by cases hy⟩
def C0(h:aP S s.sig a w D E){V n:Nat}{t:Ty}{ns:List Prop}{xs:List t.den}{v:Value}(g:OL s.mem s'.mem V n t=some (ns,xs))(hn:∀q∈ns,q)
  (hv:(AV.buf V n).rel S.P (Qq s w D E) v):ag w (Z4 s.mem s'.mem D E) (.sl t) xs [v]:=by
 unfold OL at g;split at g
 .rename_i el t' r z;obtain⟨hm,O,hf⟩:=ib z;split at g
  .rename_i X;subst X;cases g;have f:r.length=n:=hn _ (by simp);have G:=(hv _ hm).2 f;rw[<- f]at G;rw[G];exact nq h z
  .cases g
 .rename_i el e r i nm2 n2 z;obtain⟨hm,O,hf⟩:=ib z;split at g
  case h_2=>cases g
  rename_i el2 e' zs L;obtain⟨hm2,hno2,hf2⟩:=ib L;split at g
  case isFalse=>cases g
  rename_i he;subst he;split at g
  case isFalse=>cases g
  rename_i X;subst X;cases g;have f:r.length=n:=hn _ (by simp);have A:zs.length=n2:=hn _ (by simp);have G:=(hv _ hm).2 f;rw[<- f]at G;obtain⟨raw,r1,r2,r3⟩:=jW h hm;simp only[Ty.sz,xA]at r2;rcases r3 with⟨_,T,e⟩ | ⟨hnil,e,hle,g⟩
  .have:r=[]:=T;subst this;have e1:v=.slice none 0 0:=G.trans e;rw[e1];exact bv _ _ _
  .have e1:=G.trans e;rw[e1];refine⟨_,_,by rw[Em,yG],by rw[Em,yG];exact hle,(λh=>by cases h),(λad had _=>by cases had;rfl),λk y hy=>?_⟩;have x:(List.set r i zs)[k]?=some y:=hy;have hk:k<r.length:=by have:=(qG.1 x).1;rwa [yG]at this
   have T:=r1 k _ (qB hk);refine⟨⟨(E V).b,0,none⟩,(raw.drop (k*1)).take 1,rfl,.inr (.inl ⟨V,_,hm,O,hf,hnil,rfl⟩),?_,?_⟩
   .intro j u hj;rw[vV]at hj;split at hj
    .rename_i hj1;rw[vJ]at hj;have:=g (k*1+j) u hj;show w.cell? ⟨(E V).b,0+k*1+j,none⟩=some u;rw[zD]at this ⊢;exact this
    .cases hj
   .rw[yI]at x;split at x
    .rename_i eik;subst eik;rw[if_pos hk]at x;cases x;simp only[List.lookup,yZ]at T;obtain⟨_,u,hu,_,hur⟩:=T;have e4:(raw.drop (i*1)).take 1=[u]:=by
      rw[xA];apply xE;intro q;rw[vV];cases q with
      | zero=>simp[hu]
      | succ q=>simp
     rw[e4,(hur _ hm2).2 A,<- A];exact nq h L
    .rename_i hne;have hb:(k==i)=false:=by simpa using λe=>hne e.symm
     simp only[List.lookup,hb]at T;have:y=r[k]:=by rw[qB hk]at x;exact(wW x).symm
     rw[this];exact aw b8 (λ_ _=>rfl) T
 .rename_i el eli e xss z;obtain⟨hm,O,hf⟩:=ib z;split at g
  case isFalse=>cases g
  rename_i X;subst X;cases g;have f:xss.length=n:=hn _ (by simp);have G:=(hv _ hm).2 f;rw[<- f]at G;rw[G];exact HW h z
 .cases g
def UU{t t':Ty}{x:t.den}{y:t'.den}{w:World}{D:Nat->Prop}{us:Lv}(h:t=t')(e:h▸x=y)(b:ag w D t x us): ag w D t' y us:=by
 subst h;simp only at e;subst e;exact b
def Names(m m':Mem): Prop:=∀nm b b',m.lookup nm=some b->m'.lookup nm=some b'->b.len=b'.len/\b.es=b'.es
mutual
def mX(h:aP S s.sig a w D E)(V:Names s.mem s'.mem): ∀{x y:AV} {ns:List Prop} {v:Value},leA s.mem s'.mem x y=some ns->(∀q∈ns,q)->x.rel S.P (Qq s w D E) v->y.rel S.P (ctx1 s s' w D E) v
 | x,y,ns,v,f,z,A=>by
  unfold leA at f;split at f
  .trivial
  .rename_i hnt;split at f
   ·
    split at f
    .rename_i ht;cases f;exact aw b8 (λ_ _=>rfl) (UU ht (z _ (by simp)) A)
    .cases f
   ·
    split at f
    .rename_i e0 y0;cases f;have hy:y0=[]:=z _ (vG.2 rfl);simp only[AV.rel]at A;subst A hy;exact bv _ _ _
    .cases f
   ·
    rename_i u r n;split at f
    .rename_i el ty ys L hm';cases f;have h1:n=0:=z _ (by simp);have h2:ys=[]:=z _ (by simp);simp only[AV.rel]at A;subst A;intro b hb;have e:b=.buf el ty ys []:=wW (hb.symm.trans hm');subst e h1 h2;refine⟨qJ _,λ_=>?_⟩;show _=(zw s.mem E r).handle 0;unfold zw;rw[L];rfl
    .cases f
   .cases f;have e:_=_:=z _ (vG.2 rfl);simp only[AV.rel]at A ⊢;rw[A];exact e
   ·
    rename_i r n nm' n';split at f
    case isFalse=>cases f
    rename_i e;subst e;split at f
    case h_2=>cases f
    rename_i X hm;cases f;have e2:n=n':=z _ (by simp);subst e2;intro b' hb';obtain⟨l1,l2⟩:=V r X b' hm hb';obtain⟨g1,g2⟩:=A X hm;refine⟨Z,λe=>?_⟩;show v=(zw s.mem E r).handle n;rw[yx hm];exact g2 Z
   ·
    rename_i r n t y;split at f
    .rename_i t y;split at f
     .rename_i ns' xs hd;cases f;have e:xs=y:=z _ (by simp);subst e;exact C0 h hd (λq hq=>z q (by simp[hq])) A
     .cases f
    .cases f
   ·
    rename_i r g i c nm' g' i' c';split at f
    case isFalse=>cases f
    rename_i e;subst e;split at f
    case h_2=>cases f
    rename_i X hm;cases f;have e1:g=g':=z _ (by simp);have e2:i=i':=z _ (by simp);have e3:c=c':=z _ (by simp);subst e1 e2 e3;intro b' hb';obtain⟨l1,l2⟩:=V r X b' hm hb';obtain⟨g1,g2⟩:=A X hm;refine⟨Z,λe=>?_⟩;obtain⟨q1,q2,q3⟩:=g2 Z;have G:(E r).isNil=false:=q2;refine⟨q1,?_,?_⟩
    .show(zw s.mem E r).isNil=false;rw[IN hm];exact G
    .show v=.pointer (some ⟨(zw s.mem E r).b,_,none⟩);rw[IN hm,<- l2];exact q3
   ·
    rename_i r g i c t y;split at f
    case h_2=>cases f
    rename_i cs O;obtain⟨hm,L,hf⟩:=ib O;split at f
    case h_2=>cases f
    rename_i x rest hof;cases f;have e1:1=g:=z _ (by simp);have e2:i=0:=z _ (by simp);have e3:x=y:=z _ (by simp);subst e2 e3;obtain⟨_,q2,q3⟩:=(A _ hm).2 e1;have G:(E r).isNil=false:=q2;obtain⟨_,us,el,r1,r2⟩:=h.bl r _ hm;have hd:=AV.relL_drop r2 c;obtain⟨u1,u2,e,p1,p2⟩:=cF hof hd;have T:v=.pointer (some ⟨(E r).b,c,none⟩):=by
     have:(Blk.var cs).es*0=0:=Nat.mul_zero _;rw[q3];show Value.pointer (some ⟨(E r).b,0*_+c,none⟩)=_;rw[xW,zD]
    refine⟨(E r).b,c,u1,T,.inr (.inl ⟨r,_,hm,L,hf,G,rfl⟩),?_,aw b8 (λ_ _=>rfl) p1⟩;intro j u hj;have r1':w.heap[(E r).b]?=some (.cells us el (0,0)):=r1;show w.cell? ⟨(E r).b,c+j,none⟩=some u;rw[qDv w _ _ us el (0,0) r1'];have:(us.toList.drop c)[j]?=some u:=by rw[e,vS (qG.1 hj).1];exact hj
    rw[vJ]at this;simpa using this
   .split at f
    .rename_i ht;cases f;obtain⟨b,off,us,g1,g2,g3,g4⟩:=A;exact⟨b,off,us,g1,.inl g2,g3,aw b8 (λ_ _=>rfl) (UU ht (z _ (by simp)) g4)⟩
    .cases f
   .obtain⟨us,e,g⟩:=A;exact⟨us,e,mW h V f z g⟩
   .obtain⟨us,e,g⟩:=A;exact⟨us,e,mW h V f z g⟩
   .split at f
    .rename_i ef;subst ef;obtain⟨us,e,g⟩:=A;exact⟨us,e,mW h V f z g⟩
    .cases f
   .cases f;have e:=z _ (vG.2 rfl);rw[<- e];exact AV.rel_mono (C:=Qq s w D E) (C':=ctx1 s s' w D E) ⟨b8,λ_ _=>rfl⟩ (λr hm=>by simp[AV.names]at hm) A
   .cases f;have e:=z _ (vG.2 rfl);rw[<- e];exact AV.rel_mono (C:=Qq s w D E) (C':=ctx1 s s' w D E) ⟨b8,λ_ _=>rfl⟩ (λr hm=>by simp[AV.names]at hm) A
   .split at f
    .rename_i et;subst et;obtain⟨u,e,g⟩:=A;exact⟨u,e,mX h V f z g⟩
    .cases f
   .rename_i g x';split at f
    .rename_i ns' hns;cases f;have hg:g=true:=z _ (by simp);exact mX h V hns (λq hq=>z q (by simp[hq])) (A.1 hg)
    .cases f
   ·
    rename_i r g i c b';split at f
    case h_2=>cases f
    rename_i cs O;obtain⟨hm,L,hf⟩:=ib O;split at f
    case h_2=>cases f
    rename_i x rest hdr;split at f
    case isFalse=>cases f
    rename_i hnl;cases f;have e1:1=g:=z _ (by simp);have e2:i=0:=z _ (by simp);have e3:x=b':=z _ (by simp);subst e2 e3;obtain⟨_,q2,q3⟩:=(A _ hm).2 e1;have G:(E r).isNil=false:=q2;obtain⟨_,us,el,r1,r2⟩:=h.bl r _ hm;have hd:=AV.relL_drop r2 c;rw[hdr]at hd;obtain⟨u,us',e,p1,p2⟩:=hd;have T:v=.pointer (some ⟨(E r).b,c,none⟩):=by
     rw[q3];show Value.pointer (some ⟨(E r).b,0*_+c,none⟩)=_;rw[xW,zD]
    refine⟨(E r).b,c,u,T,.inr (.inl ⟨r,_,hm,L,hf,G,rfl⟩),?_,sW (C:=Qq s w D E) (C':=ctx1 s s' w D E) hnl ⟨b8,λ_ _=>rfl⟩ p1⟩;have r1':w.heap[(E r).b]?=some (.cells us el (0,0)):=r1;show w.cell? ⟨(E r).b,c,none⟩=some u;rw[qDv w _ _ us el (0,0) r1'];have:(us.toList.drop c)[0]?=some u:=by rw[e];rfl
    rw[vJ]at this;simpa using this
   ·
    rename_i r g i t y;split at f
    case h_2=>cases f
    rename_i el t' xs O;obtain⟨hm,L,hf⟩:=ib O;split at f
    case isFalse=>cases f
    rename_i ht;subst ht;cases f;have e1:xs.length=g:=z _ (by simp);have e2:i=0:=z _ (by simp);have e3:xs=y:=z _ (by simp);subst e2 e3;obtain⟨_,q2,q3⟩:=(A _ hm).2 e1;have G:(E r).isNil=false:=q2;have hp:=nq (s':=s') h O;have e4:(E r).handle xs.length=.slice (some ⟨(E r).b,0,none⟩) xs.length (E r).cap:=by unfold Ent.handle;rw[G];rfl
    rw[e4]at hp;have T:v=.pointer (some ⟨(E r).b,0,none⟩):=by
     rw[q3];show Value.pointer (some ⟨(E r).b,0*_+0,none⟩)=_;rw[xW]
    exact⟨(E r).b,0,T,Ho hp _ (qJ _)⟩
   .obtain⟨b,off,u,g1,g2,g3,g4⟩:=A;exact⟨b,off,u,g1,.inl g2,g3,mX h V f z g4⟩
   .obtain⟨b,off,us,g1,g2,g3,g4⟩:=A;exact⟨b,off,us,g1,.inl g2,g3,mW h V f z g4⟩
   .obtain⟨b,off,us,g1,g2,g3,g4⟩:=A;have g5:=mW h V f z g4;have el:=(AV.relL_length g4).trans (AV.relL_length g5).symm;exact⟨b,off,us,by rw[g1,el],.inl g2,g3,g5⟩
   .split at f
    .rename_i ht;cases f;subst ht;have e:=z _ (vG.2 rfl);simp only at e;subst e;obtain⟨b,off,g1,g2⟩:=A;exact⟨b,off,g1,aw b8 (λ_ _=>rfl) g2⟩
    .cases f
   .cases f;have e:=z _ (vG.2 rfl);subst e;exact A
   .split at f
    .rename_i ht;cases f;subst ht;have e:=z _ (vG.2 rfl);simp only at e;subst e;obtain⟨us,g1,g2,g3⟩:=A;exact⟨us,g1,g2,λi y hy=>aw b8 (λ_ _=>rfl) (g3 i y hy)⟩
    .cases f
   .split at f
    .rename_i ns' hns;cases f;exact⟨A.1.trans (z _ (by simp)),mX h V hns (λq hq=>z q (by simp[hq])) A.2⟩
    .cases f
   .cases f
def mW(h:aP S s.sig a w D E)(r:Names s.mem s'.mem): ∀{xs ys:List AV} {ns:List Prop} {vs:Lv},leL s.mem s'.mem xs ys=some ns->(∀q∈ns,q)->AV.relL S.P (Qq s w D E) xs vs->AV.relL S.P (ctx1 s s' w D E) ys vs
 | [],[],ns,vs,b,g,f=>f
 | x::xs,y::ys,ns,vs,b,g,f=>by
  simp only[leL]at b;split at b
  .rename_i p q A u;cases b;obtain⟨v,i,e,g1,g2⟩:=f;exact⟨v,i,e,mX h r A (λz j=>g z (qI.2 (.inl j))) g1,mW h r u (λz j=>g z (qI.2 (.inr j))) g2⟩
  .cases b
 | [],_::_,ns,vs,b,g,f=>by simp[leL]at b
 | _::_,[],ns,vs,b,g,f=>by simp[leL]at b
end
end
end Go.Eng
namespace Go.Eng
open Go.RowKit
def Br{m m':Mem}: ∀{xs ys:List AV} {ns:List Prop},leL m m' xs ys=some ns->xs.length=ys.length
 | [],[],_,_=>rfl
 | x::xs,y::ys,ns,h=>by
  simp only[leL]at h;split at h
  .rename_i p q e b;simp[Br b]
  .cases h
 | [],_::_,_,h=>by simp[leL]at h
 | _::_,[],_,h=>by simp[leL]at h
def ZU{m m':Mem}: ∀{xs ys:List AV} {ns:List Prop} {i:Nat} {y:AV},leL m m' xs ys=some ns->ys[i]?=some y->∃x p,xs[i]?=some x/\leA m m' x y=some p/\∀q∈p,q∈ns
 | [],[],_,i,y,_,h=>by simp at h
 | x::xs,y::ys,ns,i,z,h,hi=>by
  simp only[leL]at h;split at h
  .rename_i p q j g;cases h;cases i with
   | zero=>simp at hi;subst hi;exact⟨x,p,rfl,j,λz b=>qI.2 (.inl b)⟩
   | succ i=>
    simp at hi;obtain⟨e,f,g1,g2,g3⟩:=ZU g hi;exact⟨e,f,by simpa using g1,g2,λz b=>qI.2 (.inr (g3 z b))⟩
  .cases h
 | [],_::_,_,_,_,h,_=>by simp[leL]at h
 | _::_,[],_,_,_,h,_=>by simp[leL]at h
def aB6{m m':Mem}{b i:Blk}{ns:List Prop}(h:leB m m' b i=some ns)(f:∀q∈ns,q): b.len=i.len/\b.es=i.es:=by
 unfold leB at h;split at h
 .exact⟨rfl,Br h⟩
 .split at h
  case isFalse=>cases h
  split at h
  case isFalse=>cases h
  rename_i g;subst g;split at h
  .cases h;have e:=f _ (vG.2 rfl);simp only at e;subst e;exact⟨rfl,rfl⟩
  .split at h
   .cases h;have e:=f _ (wB);simp only at e;subst e;exact⟨rfl,rfl⟩
   .cases h
  .unfold aC7 at h;split at h
   .split at h
    .cases h;have e:=f _ (qI.2 (.inr (vG.2 rfl)));subst e;exact⟨by simp[Blk.len,Em],rfl⟩
    .cases h
   .cases h
  .cases h
 .split at h
  case isFalse=>cases h
  unfold Yi at h;split at h
  case isFalse=>cases h
  rename_i g;subst g;split at h
  case isFalse=>cases h
  cases h;have e:=f _ wB;simp only at e;subst e;exact⟨rfl,rfl⟩
 .split at h
  case isFalse=>cases h
  split at h
  case isFalse=>cases h
  rename_i g;subst g;split at h
  .cases h;have e:=f _ (vG.2 rfl);simp only at e;subst e;exact⟨rfl,rfl⟩
  .split at h
   .cases h;have e:=f _ (wB);simp only at e;subst e;exact⟨rfl,rfl⟩
   .cases h
  .unfold Nv at h;split at h
   .split at h
    .split at h
     case isFalse=>cases h
     split at h
     case isFalse=>cases h
     rename_i j;subst j;cases h;have e:=f _ (wX _ (vG.2 rfl));subst e;exact⟨by simp[Blk.len,Em],rfl⟩
    .cases h
   .cases h
  .cases h
 .cases h
section
variable {S:Base} {s s':St} {a:Act} {w:World} {D:Nat->Prop} {E:Nat->Ent}
def Nu{m m':Mem}: ∀{l:Mem} {ns:List Prop} {f:Nat} {j:Blk},leM m m' l=some ns->l.lookup f=some j->(∀q∈ns,q)->
  (∃b p,m.lookup f=some b/\leB m m' b j=some p/\∀q∈p,q)\/(m.lookup f=none/\∃el t,j=.buf el t [] [])
 | [],_,_,_,_,h,_=>by simp at h
 | (k,y)::r,ns,f,j,h,i,v=>by
  simp only[leM]at h;split at h
  case h_2=>cases h
  rename_i p q g x;cases h;simp only[List.lookup]at i;split at i
  .rename_i e;cases i;have e:f=k:=by simpa using e
   subst e;split at g
   .rename_i b hb;exact .inl ⟨b,p,hb,g,λz u=>v z (qI.2 (.inl u))⟩
   .rename_i hb;split at g
    .cases g;have e:_=[]:=v _ (qI.2 (.inl (vG.2 rfl)));subst e;exact .inr ⟨hb,_,_,rfl⟩
    .cases g
  .exact Nu x i (λz u=>v z (qI.2 (.inr u)))
def X4{p:List Prop}(h:leM s.mem s'.mem s'.mem=some p)(g:∀q∈p,q): Names s.mem s'.mem:=by
 intro u b v hb f;rcases Nu h f g with⟨c,r,e,j,i⟩ | ⟨e,_⟩
 .rw[hb]at e;cases e;exact aB6 j i
 .rw[hb]at e;cases e
def Yh(h:aP S s.sig a w D E){t:Ty}{xs ys:List t.den}{i:Nat}{v:AV}{ns:List Prop}{e:Ent}{el:TypeId}{raw:Lv}(f:aC7 s.mem s'.mem t xs ys i v=some ns)(G:∀q∈ns,q)
  (O:w.ownsRow 0 el t.sz (e.handle xs.length) xs.length raw) (L:cn S.P (Qq s w D E) t xs [(i,v)] raw):
  eJ S.P 0 (ctx1 s s' w D E) e (.buf el t ys []):=by
 cases t with
 | sl A=>
  cases v with
  | buf V n2=>
   simp only[aC7]at f;split at f
   case h_2=>cases f
   rename_i T zs X;cases f;have ex:Em (α:=List A.den) xs i zs=ys:=G _ (qI.2 (.inr (vG.2 rfl)));subst ex;refine⟨raw,by rw[Em,yG];exact O,λk y hy=>?_⟩;have b:(List.set xs i zs)[k]?=some y:=hy;have x:k<xs.length:=by have:=(qG.1 b).1;rwa [yG]at this
   have g:=L k _ (qB x);simp only[List.lookup];rw[yI]at b;split at b
   .rename_i z;subst z;rw[if_pos x]at b;cases b;simp only[List.lookup,yZ]at g;obtain⟨_,u,hu,_,j⟩:=g;have e4:(raw.drop (i*(Ty.sl A).sz)).take (Ty.sl A).sz=[u]:=by
     simp only[Ty.sz,xA];apply xE;intro q;rw[vV];cases q with
     | zero=>simp[hu]
     | succ q=>simp
    rw[e4];exact C0 h X (λq hq=>G q (qI.2 (.inl hq))) j
   .rename_i r;have hb:(k==i)=false:=by simpa using λe=>r e.symm
    simp only[List.lookup,hb]at g;have:y=xs[k]:=by rw[qB x]at b;exact(wW b).symm
    rw[this];exact aw b8 (λ_ _=>rfl) g
  | _=>simp[aC7]at f
 | _=>simp[aC7]at f
def yz{b k i:Nat}{v:AV}{el e:TypeId}{t:Ty}{xss:List (List t.den)}(f:k≠i): aCm E b (.mat el e t xss [(i,v)]) k=(E b).rb k:=by
 cases v<;>first
  | rfl
  | (show(if k=i then _ else(E b).rb k)=_;rw[if_neg f])
def S7{b k:Nat}{X:TypeId}{t:Ty}{row:List t.den}{u:Value}(e:(zw s.mem E b).rb k=(E b).rb k)(y:Jp S.P 0 (Qq s w D E) (E b) X t k row u): Jp S.P 0 (ctx1 s s' w D E) (zw s.mem E b) X t k row u:=by
 obtain⟨A,cap,f,i,j,g⟩:=y;refine⟨A,cap,f,i,j,λz=>?_⟩;obtain⟨x,v,r⟩:=g z;exact⟨by rw[e];exact x,v,bu (C:=Qq s w D E) (C':=ctx1 s s' w D E) ⟨b8,λ_ _=>rfl⟩ (λb h=>by cases h) r⟩
def aB5(h:aP S s.sig a w D E)(hN:Names s.mem s'.mem){X:Nat}{b b':Blk}{ns:List Prop}(hm:s.mem.lookup X=some b)(f:leB s.mem s'.mem b b'=some ns)(A:∀q∈ns,q):
  eJ S.P 0 (ctx1 s s' w D E) (zw s.mem E X) b':=by
 have hb:eJ S.P 0 (Qq s w D E) (E X) b:=h.bl X b hm;have hE:=IN (E:=E) hm;have hH:=yx (E:=E) hm;unfold leB at f;split at f
 .obtain⟨h0,us,el,h1,h2⟩:=hb;exact⟨by rw[hE];exact h0,us,el,by rw[hE];exact h1,mW h hN f A h2⟩
 .split at f
  case isFalse=>cases f
  rename_i he;subst he;split at f
  case isFalse=>cases f
  rename_i ht;subst ht;obtain⟨raw,L,G⟩:=hb;split at f
  .cases f;have ex:=A _ (vG.2 rfl);simp only at ex;subst ex;refine⟨raw,by rw[hH];exact L,λi y hy=>?_⟩;have g:=G i y hy;simp only[List.lookup]at g ⊢;exact aw b8 (λ_ _=>rfl) g
  .rename_i i v i' v';split at f
   .rename_i ns' hv;cases f;have ex:=A _ (wB);have ei:i=i':=A _ (by simp);simp only at ex;subst ex ei;refine⟨raw,by rw[hH];exact L,λk y hy=>?_⟩;have g:=G k y hy;by_cases x:(k==i)=true
    .simp only[List.lookup,x]at g ⊢;obtain⟨g1,u,g2,g3,g4⟩:=g;exact⟨g1,u,g2,g3,mX h hN hv (λq hq=>A q (by simp[hq])) g4⟩
    .have x:(k==i)=false:=by simpa using x
     simp only[List.lookup,x]at g ⊢;exact aw b8 (λ_ _=>rfl) g
   .cases f
  .exact Yh h f A (by rw[hH];exact L) G
  .cases f
 ·
  split at f
  case isFalse=>cases f
  rename_i he;subst he;unfold Yi at f;split at f
  case isFalse=>cases f
  rename_i ht;subst ht;split at f
  case isFalse=>cases f
  rename_i hz;cases f;have e1:=A _ wB;have e2:∀r∈_,r=[]:=A _ (wX _ (vG.2 rfl));simp only at e1;subst e1;obtain⟨raw,L,G⟩:=hb;refine⟨hz,raw,by rw[hH];exact L,λi row hi=>?_⟩;have e3:=e2 row (zV hi);subst e3;have g:=G i [] hi;simp only[List.lookup]at g ⊢;obtain⟨ao,cap,q1,q2,q3,_⟩:=g;refine⟨.slice ao 0 cap,?_,ao,cap,[],rfl,q3,λh=>absurd h (xX _)⟩
  have:((raw.drop (i*1)).take 1)[0]?=some (.slice ao 0 cap):=by
   have q1':(raw.drop (i*1)).take 1=[.slice ao (List.length ([]:List _)) cap]:=q1;rw[q1'];rfl
  rw[vV,if_pos (by decide),vJ]at this;simpa using this
 ·
  split at f
  case isFalse=>cases f
  rename_i he;obtain⟨he1,he2⟩:=he;subst he1 he2;split at f
  case isFalse=>cases f
  rename_i ht;subst ht;obtain⟨hz,raw,L,G⟩:=hb;split at f
  .cases f;have ex:=A _ (vG.2 rfl);simp only at ex;subst ex;refine⟨hz,raw,by rw[hH];exact L,λi row hi=>?_⟩;obtain⟨u,g1,g2⟩:=G i row hi;simp only[List.lookup]at g2 ⊢;exact⟨u,g1,S7 (by rw[hE];rfl) g2⟩
  .rename_i i v i' v';split at f
   .rename_i ns' hv;cases f;have ex:=A _ (wB);have ei:i=i':=A _ (by simp);simp only at ex;subst ex ei;refine⟨hz,raw,by rw[hH];exact L,λk row hk=>?_⟩;obtain⟨u,g1,g2⟩:=G k row hk;refine⟨u,g1,?_⟩;by_cases x:(k==i)=true
    .simp only[List.lookup,x]at g2 ⊢;exact⟨g2.1,mX h hN hv (λq hq=>A q (by simp[hq])) g2.2⟩
    .have x:(k==i)=false:=by simpa using x
     simp only[List.lookup,x]at g2 ⊢;exact S7 (by rw[hE];exact yz (by simpa using x)) g2
   .cases f
  .rename_i i v;unfold Nv at f;split at f
   case h_2=>cases f
   rename_i j n2;split at f
   case h_2=>cases f
   rename_i el2 e2 zs hno2 hm2;split at f
   case isFalse=>cases f
   rename_i hel;subst hel;split at f
   case isFalse=>cases f
   rename_i ht2;subst ht2;cases f;have ex:=A _ (wX _ (vG.2 rfl));have V:zs.length=n2:=A _ wB;simp only at ex;subst ex;refine⟨hz,raw,by rw[hH,Em,yG];exact L,λk row hk=>?_⟩;have z:(List.set _ i zs)[k]?=some row:=hk;have O:=(qG.1 z).1;rw[yG]at O;obtain⟨u,g1,g2⟩:=G k _ (qB O);refine⟨u,g1,?_⟩;simp only[List.lookup];rw[yI]at z;split at z
   .rename_i eik;subst eik;rw[if_pos O]at z;cases z;simp only[List.lookup,yZ]at g2;obtain⟨_,hur⟩:=g2;have hu:=(hur _ hm2).2 V;obtain⟨raw2,p1,p2⟩:=h.bl j _ hm2;have hu:u=(E j).handle zs.length:=by rw[V];exact hu
    have hrb:(zw s.mem E X).rb i=((E j).b,(E j).cap):=by rw[hE];show(if i=i then((E j).b,(E j).cap)else(E X).rb i)=_;rw[if_pos rfl]
    cases T:(E j).isNil with
    | true=>
     have e3:(E j).handle zs.length=.slice none 0 0:=by unfold Ent.handle;rw[T];rfl
     rw[e3]at p1;rcases p1.2 with⟨_,hz0⟩ | ⟨g,cap,cur,hq,_⟩
     .have hz0':zs.length=0:=hz0;exact⟨none,0,[],by rw[hu,e3,hz0'],λ_=>rfl,λhp=>Z⟩
     .cases hq
    | false=>
     have e3:(E j).handle zs.length=.slice (some ⟨(E j).b,0,none⟩) zs.length (E j).cap:=by unfold Ent.handle;rw[T];rfl
     rw[hz]at p1;refine⟨_,_,raw2,by rw[hu,e3],λh=>by(cases h),λhp=>⟨by rw[hrb],by rw[hu];exact p1,?_⟩⟩;exact bu (C:=Qq s w D E) (C':=ctx1 s s' w D E) ⟨b8,λ_ _=>rfl⟩ (λX h=>by cases h) p2
   .rename_i hne;have hb:(k==i)=false:=by simpa using λe=>hne e.symm
    simp only[List.lookup,hb]at g2;rw[qB O]at z;have erow:=wW z;rw[erow]at g2;exact S7 (by rw[hE];exact if_neg (show ¬k=i by simpa using hb)) g2
  .cases f
 .cases f
def Tn{p:List Prop}(hq:leM s.mem s'.mem s'.mem=some p)(hn:∀q∈p,q){T i k:Nat}(hp:cA (λx=>s'.mem.lookup x) (zw s.mem E) T i k):
  cA (λx=>s.mem.lookup x) E T i k\/∃el eli t xss g n2 L,s.mem.lookup T=some (.mat el eli t xss [(i,.buf g n2)])/\s'.mem.lookup g=none/\s.mem.lookup g=some L/\(L.len≠0->True)/\0<L.len/\(∃el2 t2 zs,L=.buf el2 t2 zs [])/\k=(E g).b:=by
 obtain⟨el,eli,t,xss,ov,row,h1,h2,h3,X,A⟩:=hp;rcases Nu hq h1 hn with⟨b,ps,hm,f,y⟩ | ⟨_,_,_,G⟩
 .rw[IN hm]at A;simp only at A;unfold leB at f;split at f
  .rename_i G;cases G
  .rename_i G;cases G
  .rename_i hb G;cases G;split at f
   case isFalse=>cases f
   unfold Yi at f;split at f
   case isFalse=>cases f
   split at f
   case isFalse=>cases f
   cases f;have e2:∀r∈_,r=[]:=y _ (wX _ (vG.2 rfl));have:=e2 row (zV h3);subst this;exact absurd X (xX _)
  .rename_i el0 eli0 e0 xs0 ov0 el1 eli1 e1 ys1 ov1 G;cases G;split at f
   case isFalse=>cases f
   split at f
   case isFalse=>cases f
   rename_i ht;subst ht;split at f
   .cases f;have ex:=y _ (vG.2 rfl);simp only at ex;subst ex
    left
    replace A:k=((E T).rb i).1:=A;exact⟨_,_,_,_,_,row,hm,rfl,h3,X,A⟩
   .rename_i j v j' v';split at f
    .rename_i ns' hv;cases f;have ex:=y _ (wB);have ei:j=j':=y _ (by simp);simp only at ex;subst ex ei
     left
     have u:i≠j:=λe=>by subst e;simp[List.lookup]at h2
     rw[yz u]at A;have z:(i==j)=false:=by simpa using u
     exact⟨_,_,_,_,_,row,hm,by simp[List.lookup,z],h3,X,A⟩
    .cases f
   .rename_i j v;unfold Nv at f;split at f
    case h_2=>cases f
    rename_i g n2;split at f
    case h_2=>cases f
    rename_i el2 e2 zs V hm2;split at f
    case isFalse=>cases f
    split at f
    case isFalse=>cases f
    rename_i ht2;subst ht2;cases f;have ex:=y _ (wX _ (vG.2 rfl));simp only at ex;subst ex;have h:(List.set _ j zs)[i]?=some row:=h3;rw[yI]at h;by_cases u:j=i
    .subst u;rw[if_pos rfl]at h;split at h
     .cases h
      right
      refine⟨_,_,_,_,g,n2,_,hm,V,hm2,λ_=>trivial,X,⟨_,_,_,rfl⟩,?_⟩;rw[A];show(if j=j then((E g).b,(E g).cap)else(E T).rb j).1=_;rw[if_pos rfl]
     .cases h
    .rw[if_neg u]at h
     left
     have O:i≠j:=λe=>u e.symm
     rw[yz O]at A;have z:(i==j)=false:=by simpa using O
     exact⟨_,_,_,_,_,row,hm,by simp[List.lookup,z],h,X,A⟩
   .cases f
  .cases f
 .cases G
def rM: ∀{m:Mem} {i:Nat} {el g:TypeId} {t:Ty} {xss:List (List t.den)} {p:Nat×AV} {r:List (Nat×AV)},m.lookup i=some (.mat el g t xss (p::r))->i∈Be m
 | [],_,_,_,_,_,_,_,h=>by cases h
 | (k,b)::m,i,el,g,t,xss,p,r,h=>by
  simp only[List.lookup]at h;split at h
  .rename_i e;have e:i=k:=by simpa using e
   subst e;cases h;simp[Be]
  .have j:=rM h;unfold Be;split
   .rename_i f;cases f
   .rename_i f;cases f;exact wX _ j
   .rename_i f;cases f;exact j
def aBQ{l:List Nat}(h:l.length<=1){a b:Nat}(e:a∈l)(hb:b∈l): a=b:=by
 match l,h with
 | [],_=>cases e
 | [x],_=>rw[vG.1 e,vG.1 hb]
def aJ(m:Nat->Option Blk)(E:Nat->Ent)(b:Nat): Prop:=bw m E b\/∃nm i,cA m E nm i b
def aP.ownAll {S:Base} {σ:Sig} {a:Act} {w:World} {D:Nat->Prop} {E:Nat->Ent} (h:aP S σ a w D E) {b:Nat} (hb:aJ σ.m E b):(S.w0.heap.size<=b\/S.O b)/\b<w.heap.size/\¬D b:=by
 rcases hb with⟨e,f,g1,g2,g3⟩ | ⟨e,i,g⟩
 .rw[g3];exact h.own e f g1 g2
 .exact h.pv.own e i b g
def DJ{ns:List Prop}(h:aP S s.sig a w D E)(hc:VS s s'=some ns)(hn:∀q∈ns,q):
  ∃D' E',aP S s'.sig a w D' E'/\(∀b,D b->D' b)/\(∀b,D' b->D b\/aJ s.sig.m E b)/\∀b,aJ s'.sig.m E' b->aJ s.sig.m E b:=by
 unfold VS at hc;split at hc
 case isFalse=>cases hc
 rename_i hone;obtain⟨_,hone⟩:=hone;split at hc
 case h_2=>cases hc
 rename_i p q r hp hq hsv;cases hc;have hnp:∀z∈p,z:=λz hz=>hn z (qI.2 (.inl (qI.2 (.inl hz))))
 have hnq:∀z∈q,z:=λz hz=>hn z (qI.2 (.inl (qI.2 (.inr hz))))
 have hnr:∀z∈r,z:=λz hz=>hn z (qI.2 (.inr hz))
 have hN:=X4 hq hnq;have keep:∀A,(zw s.mem E A).isNil=false->((zw s.mem E A).b=(E A).b/\(E A).isNil=false)/\∃b,s.mem.lookup A=some b:=λA hm=>by
  unfold zw at hm ⊢;split at hm
  .rename_i b hb;exact⟨⟨rfl,hm⟩,b,hb⟩
  .cases hm
 have foldIn:∀A el eli t xss i f n2,s.mem.lookup A=some (.mat el eli t xss [(i,.buf f n2)])->oV s.mem f=true:=λA el eli t xss i f n2 hm=>by
  unfold oV;rw[xR];exact⟨_,wT hm,by simp[AV.namesL,AV.names]⟩
 have hpv:fN S.w0.heap.size S.O s'.sig.m (zw s.mem E) w.heap.size (Z4 s.mem s'.mem D E):=by
  have src:=λ{A i k:Nat} (hk:cA s'.sig.m (zw s.mem E) A i k)=>Tn (s:=s) (s':=s') (E:=E) hq hnq hk
  have aBU:∀{f u},s.mem.lookup f=some u->0<u.len->(∃el2 t2 zs,u=.buf el2 t2 zs [])->(E f).isNil=false:=by
   rintro f u hm2 hl ⟨el2,t2,zs,rfl⟩;obtain⟨raw,_,_,r3⟩:=jW h hm2;rcases r3 with⟨_,hx,_⟩ | ⟨hx,_⟩
   .subst hx;exact absurd hl (xX _)
   .exact hx
  refine⟨λA i k hk=>?_,λA i k hk L b' X hi e=>?_,λA i k L j h1 h2=>?_⟩
  .have notD:∀(hD:¬D k) (hent:∀v u,s.mem.lookup v=some u->(E v).isNil=false->(E v).b=k->oV s.mem v=true) (hrow:∀v j,s'.mem.lookup v=none->cA s.sig.m E v j k->False),¬Z4 s.mem s'.mem D E k:=by
    rintro hD hent hrow (hd | ⟨v,u,G,T,k3,V,k5⟩ | ⟨v,j,G,T⟩)
    .exact hD hd
    .rw[hent v u G V k5.symm]at k3;cases k3
    .exact hrow v j G T
   rcases src hk with g | ⟨el,eli,t,xss,f,n2,u,g1,g2,g3,_,g4,g5,rfl⟩
   .obtain⟨q1,q2,q3⟩:=h.pv.own A i k g;refine⟨q1,q2,notD q3 (λv u G V k5=>(h.pv.ent A i k g v u G V k5).elim) λv j G T=>?_⟩;obtain⟨e1,_⟩:=h.pv.inj A i k v j g T;subst e1;obtain⟨_,_,_,_,_,_,hx,_⟩:=hk;have hx':s'.mem.lookup A=some _:=hx;rw[G]at hx';cases hx'
   .have hi2:=aBU g3 g4 g5;obtain⟨q1,q2,q3⟩:=h.own f u g3 hi2;refine⟨q1,q2,notD q3 (λv blk3 G V k5=>?_) λv j G T=>h.pv.ent v j _ T f u g3 hi2 rfl⟩;have:=h.inj v f blk3 u G g3 V hi2 k5;subst this;exact foldIn _ _ _ _ _ _ _ _ g1
  .obtain⟨⟨e1,e2⟩,c1,G⟩:=keep L hi;rw[e1]at e;rcases src hk with g | ⟨el,eli,t,xss,f,n2,u,g1,g2,g3,_,g4,g5,rfl⟩
   .exact h.pv.ent A i k g L c1 G e2 e
   .have:=h.inj L f c1 u G g3 e2 (aBU g3 g4 g5) e;subst this;have hb2:s'.mem.lookup L=some b':=X;rw[g2]at hb2;cases hb2
  .rcases src h1 with g | ⟨el,eli,t,xss,f,n2,u,g1,g2,g3,_,g4,g5,g6⟩<;>rcases src h2 with q | ⟨el',eli',t',xss',nm2',n2',blk',q1,q2,q3,_,q4,q5,q6⟩
   .exact h.pv.inj A i k L j g q
   .exact(h.pv.ent A i k g nm2' blk' q3 (aBU q3 q4 q5) q6.symm).elim
   .exact(h.pv.ent L j k q f u g3 (aBU g3 g4 g5) g6.symm).elim
   .have:A=L:=aBQ hone (rM g1) (rM q1);subst this;rw[g1]at q1;cases q1;exact⟨rfl,rfl⟩
 refine⟨Z4 s.mem s'.mem D E,zw s.mem E,⟨h.sz,⟨h.df.1,λd hd=>?_⟩,λt=>?_,λA b' X=>?_,λA b' X hi=>?_,λA L b b' hb X hi hi' e=>?_,h.low,λb hb=>?_,λb hb=>.inl (h.dlo b hb),λb hb=>?_,lM.mono (C:=⟨w,D,s.sig.m,E⟩) ⟨λb hb=>.inl hb,λ_ _=>rfl⟩ h.gl,mW h hN hsv hnr h.svr,hpv⟩,λb hb=>.inl hb,λb hb=>?_,λb hb=>?_⟩
 .rcases h.df.2 d hd with g | ⟨k,g1,g2,g3,g4⟩
  .exact .inl g
  .exact .inr ⟨k,g1,g2,.inl g3,g4⟩
 .show(s'.tm.getD t .top).rel S.P (ctx1 s s' w D E) (a.tmps.getD t undef);rw[qA];cases ht:s'.tm[t]? with
  | none=>trivial
  | some y=>
   obtain⟨x,ps,g1,g2,g3⟩:=ZU hp ht;have hx:(s.tm.getD t .top).rel S.P (Qq s w D E) (a.tmps.getD t undef):=h.tm t;rw[qA,g1]at hx;exact mX h hN g2 (λz hz=>hnp z (g3 z hz)) hx
 .rcases Nu hq X hnq with⟨b,ps,h1,h2,h3⟩ | ⟨h1,el,t,rfl⟩
  .exact aB5 h hN h1 h2 h3
  .have ek:zw s.mem E A=⟨0,0,true,noR⟩:=by unfold zw;rw[h1]
   rw[ek];exact⟨[],⟨by simp,.inl ⟨rfl,rfl⟩⟩,λi y hy=>by simp at hy⟩
 .obtain⟨⟨e1,e2⟩,b,hb⟩:=keep A hi;rw[e1];obtain⟨g1,g2,g3⟩:=h.own A b hb e2;refine⟨g1,g2,λhd=>?_⟩;rcases hd with hd | ⟨f,b2,G,T,_,k3,V⟩ | ⟨f,i,G,T⟩
  .exact g3 hd
  .have:A=f:=h.inj A f b b2 hb G e2 k3 V;subst this;have hb2:s'.mem.lookup A=some b':=X;rw[T]at hb2;cases hb2
  .exact h.pv.ent f i _ T A b hb e2 rfl
 .obtain⟨⟨e1,i1⟩,c1,h1⟩:=keep A hi;obtain⟨⟨e2,i2⟩,c2,h2⟩:=keep L hi';rw[e1,e2]at e;exact h.inj A L c1 c2 h1 h2 i1 i2 e
 .rcases hb with hb | ⟨f,b2,G,T,_,k3,V⟩ | ⟨f,i,G,T⟩
  .exact h.dlt b hb
  .rw[V];exact(h.own f b2 G k3).2.1
  .exact(h.pv.own f i b T).2.1
 .rcases hb with hb | ⟨f,b2,G,T,_,k3,V⟩ | ⟨f,i,G,T⟩
  .exact h.dhi b hb
  .rw[V];exact .inr (h.own f b2 G k3).1
  .exact .inr (h.pv.own f i b T).1
 .rcases hb with hb | ⟨f,b2,G,T,_,k3,V⟩ | ⟨f,i,G,T⟩
  .exact .inl hb
  .exact .inr (.inl ⟨f,b2,G,k3,V⟩)
  .exact .inr (.inr ⟨f,i,T⟩)
 .rcases hb with⟨A,u,g1,g2,g3⟩ | ⟨A,i,g⟩
  .obtain⟨⟨e1,e2⟩,c1,h1⟩:=keep A g2;rw[e1]at g3;exact .inl ⟨A,c1,h1,e2,g3⟩
  .rcases Tn (s:=s) (s':=s') (E:=E) hq hnq g with g | ⟨el,eli,t,xss,f,n2,u,g1,g2,g3,_,g4,⟨el2,t2,zs,rfl⟩,g6⟩
   .exact .inr ⟨A,i,g⟩
   .refine .inl ⟨f,_,g3,?_,g6⟩;obtain⟨raw,_,_,r3⟩:=jW h g3;rcases r3 with⟨_,hx,_⟩ | ⟨hx,_⟩
    .subst hx;exact absurd g4 (xX _)
    .exact hx
def MJ{ns:List Prop}(h:Sim S s.sig a w)(e:VS s s'=some ns)(b:∀q∈ns,q): Sim S s'.sig a w:=by
 obtain⟨D,E,h⟩:=h;obtain⟨D',E',f,_⟩:=DJ h e b;exact⟨D',E',f⟩
end
end Go.Eng
namespace Go.Eng
open Go.RowKit
structure Spec where
 α:Type
 inv:α->Prop
 st:α->St
 μ:α->Nat
 fin:List α:=[]
structure Ann where
 loop:Nat->St->Option Spec
 pre:Nat->St->Option St
 cut:Nat->St->Option Spec
def all: List Prop->Prop->Prop
 | [],q=>q
 | p::ps,q=>p/\all ps q
def bR: ∀{l:List Prop} {q:Prop},all l q->(∀p∈l,p)/\q
 | [],_,h=>⟨λ_ h=>absurd h List.not_mem_nil,h⟩
 | p::f,q,h=>by
  obtain⟨g1,g2⟩:=bR h.2;refine⟨λr b=>?_,g2⟩;rcases zK.1 b with e | e
  .exact e▸h.1
  .exact g1 r e
def leP(s s':St): Prop:=match VS s s' with
 | some ns=>all ns True
 | none=>False
def fA: Code->Option Nat
 | .region id _ _=>some id
 | .seq a b=>match fA a with | some i=>some i | none=>fA b
 | .cond _ a b=>match fA a with | some i=>some i | none=>fA b
 | .block _ b=>fA b
 | .loop b=>fA b
 | .scope b=>fA b
 | .rangeFunc _ _ a b=>match fA a with | some i=>some i | none=>fA b
 | _=>none
def dstsOf: Code->List Tmp
 | .region _ ops _=>ops.toList.filterMap (·.dst)
 | .seq a b=>dstsOf a++dstsOf b
 | .cond _ a b=>dstsOf a++dstsOf b
 | .block _ b=>dstsOf b
 | .loop b=>dstsOf b
 | .scope b=>dstsOf b
 | _=>[]
def py: List Tmp->List AV->List AV
 | [],l=>l
 | t::ts,l=>py ts (l.set t .top)
def aDl: AV->AV
 | .val (.tuple _)=>.top
 | .grd _ _=>.top
 | a=>a
def Ob(b:Code)(s:St): St:={s with tm:=py (dstsOf b) (s.tm.map aDl)}
def aEx(b:Code)(s:St): St:={Ob b s with tm:=(Ob b s).tm++s.tm}
def aHQ(n:Nat)(s:St): St:={s with tm:=s.tm.take n}
def aEy(A:Ann)(id:Nat)(b:Code)(s:St): Option Spec:=match A.loop (id+1000000) (aEx b s)with
 | some sp=>some {α:=sp.α,inv:=sp.inv,st:=λx=>aHQ s.tm.length (sp.st x),μ:=sp.μ}
 | none=>A.loop id (Ob b s)
def YR(b:Bool)(p q:Prop): Prop:=(b=true->p)/\(b=false->q)
def YQ: AV->Option (List Prop×Bool)
 | .dat .bool b=>some ([],b)
 | .grd g (.dat .bool b)=>some ([g=true],b)
 | _=>none
def aC3(c:Cfg)(ops:Array Oper)(draw:Bool)(s:St)(Q:St->Prop): Prop:=match aEm c ops draw s with
 | some (ns,s')=>all ns (Q s')
 | none=>False
def m4{α:Type}(xs:List α)(k:Nat)(x:α): Prop:=xs[k]?=some x
def setSlot(d:Option Tmp)(v:AV)(s:St): St:={s with tm:=match d with | some d=>s.tm.set d v | none=>s.tm}
def oW(d:Option Tmp)(n:Nat): Bool:=match d with | some d=>decide (d<n) | none=>true
def HT(r:Rec)(s:St): Bool:=match r.new with | some k=>unB k s | none=>true
def valOf: AV->Option Value
 | .dat t x=>match t,x with
  | .int k,x=>some (.int k x)
  | _,_=>none
 | .val v=>some v
 | _=>none
def aB8: Op->Bool
 | .panic _=>true
 | _=>false
def Bl(c:Cfg)(o:Oper): Bool:=match o.op with
 | .panic _=>true
 | .call ⟨.value (.func f),_,_⟩=>c.pf f
 | _=>false
def kr(c:Cfg)(T:Nat->AV)(g:Bool)(args:List Operand): List (AV×List Prop):=args.map λx=>ug g (evT c.G T x)
def Af(c:Cfg)(T:Nat->AV)(m:Nat->Option Blk)(g:Bool)(o:Op): Option (List Prop×zz×List Nat):=match o with
 | .panic x=>match ug g (evT c.G T x)with
  | (.ifc t a,ns)=>match valOf a with
   | some v=>some (ns,⟨True,false,.iface t v⟩,[])
   | none=>none
  | _=>none
 | .call ⟨.value (.func f),args,_⟩=>if c.pf f&&goes c.P f then
   match c.KP f (Ag c.P (lO c.P f) ((kr c T g args.toList).map (·.1))) (ff m (cP m (AV.namesL (Ag c.P (lO c.P f) ((kr c T g args.toList).map (·.1))))))with
   | some r=>some ((kr c T g args.toList).flatMap (·.2),r,cP m (AV.namesL (Ag c.P (lO c.P f) ((kr c T g args.toList).map (·.1)))))
   | none=>none
   else none
 | _=>none
def FC(ns:List Nat)(s:St): St:={s with mem:=s.mem.filter λp=>!ns.contains p.1}
def FD(ns:List Nat)(σ:Sig): Sig:=⟨σ.T,λk=>if ns.contains k=true then none else σ.m k,σ.sv⟩
def na(ns:List Nat)(k:Nat): ∀m:Mem,(m.filter λp=>!ns.contains p.1).lookup k=if ns.contains k=true then none else m.lookup k
 | []=>by simp
 | p::m=>by
  obtain⟨q,b⟩:=p;simp only[yN];by_cases f:ns.contains q=true
  .simp only[f,yO,wE,xO];rw[na ns k m];by_cases e:k=q
   .subst e;rw[if_pos f,if_pos f]
   .have:(k==q)=false:=by simpa using e
    simp only[List.lookup,this]
  .have g:ns.contains q=false:=by simpa using f
   simp only[g,yR,kR,List.lookup];by_cases e:k=q
   .subst e;rw[if_neg f];simp
   .have:(k==q)=false:=by simpa using e
    simp only[this];exact na ns k m
def IY(ns:List Nat)(s:St): (FC ns s).sig=FD ns s.sig:=by
 have:(FC ns s).sig.m=(FD ns s.sig).m:=funext λk=>na ns k s.mem
 cases h:(FC ns s).sig with
 | mk T m sv=>
  cases g:FD ns s.sig with
  | mk i m' f=>
   have e:(FC ns s).sig.T=(FD ns s.sig).T:=rfl;have b:(FC ns s).sig.sv=(FD ns s.sig).sv:=rfl;rw[h,g]at this e b;simp only at this e b;rw[this,e,b]
def aP.dropped {S:Base} {σ:Sig} {a:Act} {w w':World} {D:Nat->Prop} {E:Nat->Ent} (h:aP S σ a w D E) {ns:List Nat} (r:Chg (bw (bN (ff σ.m ns)) E) w w'):aP S (FD ns σ) a w' D E:=by
 have mem:∀k,bN (ff σ.m ns) k=if k∈ns then σ.m k else none:=λk=>fe σ.m k ns
 have G:∀b,bw (bN (ff σ.m ns)) E b->∃f j,f∈ns/\σ.m f=some j/\(E f).isNil=false/\b=(E f).b:=λb ⟨f,j,g1,g2,g3⟩=>by
  rw[mem]at g1;split at g1
  .rename_i O;exact⟨f,j,O,g1,g2,g3⟩
  .cases g1
 have y:∀f b,(FD ns σ).m f=some b->f∉ns/\σ.m f=some b:=λf b hb=>by
  replace hb:(if ns.contains f=true then none else σ.m f)=some b:=hb;split at hb
  .cases hb
  .rename_i hn;exact⟨by simpa using hn,hb⟩
 refine h.go (m':=(FD ns σ).m) (D':=D) (E':=E) ⟨λ_ g=>g,λb hb=>r.block b (h.dlt b hb) λg=>?_⟩ (λf=>.inl λA x=>⟨A,(y f A x).2,rfl,qJ _,λ_=>rfl⟩)
  (λf b hm=>?_) (λf b hm hi=>?_) (λf z b A hb x hi T e=>h.inj f z b A (y f b hb).2 (y z A x).2 hi T e)
  (h.low.step r.os r.tape r.output r.size λk hk L=>r.block k (qX hk h.low.size) λg=>?_) (λb hb=>qX (h.dlt b hb) r.size) (λb hb=>.inl hb)
  (h.pv.step (λf i b g=>?_) r.size (λb hb=>.inl hb) λf j hm hi=>.inr ⟨f,j,(y f j hm).2,hi,rfl⟩)
 .obtain⟨f,j,_,g2,g3,g4⟩:=G b g;exact(h.own f j g2 g3).2.2 (g4▸hb)
 .obtain⟨V,v⟩:=y f b hm;refine .inl ⟨v,rfl,λhi=>r.block _ (h.own f b v hi).2.1 λg=>?_,λi k X=>r.block k (h.pv.lt v X) λg=>?_⟩
  .obtain⟨u,j,g1,g2,g3,g4⟩:=G _ g;exact V (h.inj f u b j v g2 hi g3 g4▸g1)
  .obtain⟨u,j,g1,g2,g3,g4⟩:=G _ g;exact h.pv.ent f i k (aQ.2 ⟨b,v,X⟩) u j g2 g3 g4.symm
 .obtain⟨V,v⟩:=y f b hm;obtain⟨g1,g2,g3⟩:=h.own f b v hi;exact⟨g1,qX g2 r.size,g3⟩
 .obtain⟨f,j,g1,g2,g3,g4⟩:=G _ g;rcases(h.own f j g2 g3).1 with q | q
  .rw[<- g4]at q;omega
  .rw[<- g4]at q;exact L q
 .obtain⟨bb,g1,g2⟩:=aQ.1 g;exact aQ.2 ⟨bb,(y f bb g1).2,g2⟩
def ZA(c:Cfg)(ops:Array Oper): List Oper->St->(Exit->St->Prop)->Prop
 | [],s,Q=>Q .normal s
 | o::os,s,Q=>match QU s.sig.T ops o.guard with
  | some g=>match Af c s.sig.T s.sig.m g o.op with
   | some (ns,r,nms)=>(g=true->all ns (r.pre/\(r.ok=false->Q (.panic (chainOf r.pan)) (FC nms s))))/\
     (if aB8 o.op=true then(if o.guard.isNone=true then True else oW o.dst s.tm.length=true/\(g=false->ZA c ops os (setSlot o.dst (.grd g .top) s) Q))
      else match iJ c.P c.G c.K (c.mt o) ops s.nx s.sig o with
      | some q=>if iu q s.tm.length=true/\HT q s=true then(g=true->r.ok=true)->all q.need (ZA c ops os (cV q s) Q)else False
      | none=>False)
   | none=>match iJ c.P c.G c.K (c.mt o) ops s.nx s.sig o with
    | some q=>if iu q s.tm.length=true/\HT q s=true then all q.need (ZA c ops os (cV q s) Q)else False
    | none=>False
  | none=>False
def Tz(tbl:List Nat)(q:Nat)(rs:List Rec): Bool:=(List.range rs.length).all λj=>j==q||(tbl.getD j 0).testBit q||((rs.getD j dflt).upd.isEmpty&&(rs.getD j dflt).new.isNone)
def H3(tbl:List Nat)(q:Nat)(rs:List Rec): List Prop:=(List.range rs.length).flatMap λj=>if(j==q||(tbl.getD j 0).testBit q)=true then[]else(rs.getD j dflt).need
def aAd(ops:Array Oper)(s:St): St:={s with tm:=py (ops.toList.filterMap (·.dst)) s.tm}
def aCr(c:Cfg)(ops:Array Oper)(s:St)(Q:Exit->St->Prop): Prop:=match ZC c ops ops.toList s,ops[ops.toList.findIdx (Bl c)]? with
 | some rs,some o=>if wm true (jD [] ops.toList) s rs=true/\oq (jD [] ops.toList) ops.toList rs=true/\Tz (jD [] ops.toList) (ops.toList.findIdx (Bl c)) rs=true/\o.guard.isNone=true then
   match Af c (gu rs s (ops.toList.findIdx (Bl c))).sig.T s.sig.m true o.op with
   | some (ns,r,nms)=>all (H3 (jD [] ops.toList) (ops.toList.findIdx (Bl c)) rs) (all ns (r.pre/\(r.ok=true->all (rs.flatMap (·.need)) (Q .normal (gu rs s rs.length)))/\(r.ok=false->Q (.panic (chainOf r.pan)) (aAd ops (FC nms s)))))
   | none=>False
  else False
 | _,_=>False
def aFS(c:Cfg)(ops:Array Oper)(draw:Bool)(s:St)(Q:Exit->St->Prop): Prop:=
 if ops.toList.any (Bl c)=true then(if draw=true then aCr c ops s Q else ZA c ops ops.toList s Q)else aC3 c ops draw s (Q .normal)
def vy(p:Tmp)(t:Ty)(y:t.den)(s:St): St:={s with tm:=s.tm.set p (.dat t y),sv:=s.tm}
def aFY: Ty->Bool
 | .pair _ _=>true
 | _=>false
def sQ(t:Ty)(x:t.den): AV:=if aFY t then .agg (cellsOf t x)else .dat t x
def Kv: (t:Ty)->t.den->List AV
 | .pair a b,x=>[sQ a x.1,sQ b x.2]
 | t,x=>[.dat t x]
def Jh: List Tmp->List AV->List AV->List AV
 | p::ps,v::vs,tm=>Jh ps vs (tm.set p v)
 | _,_,tm=>tm
def MS(ps:List Tmp)(t:Ty)(y:t.den)(s:St): St:={s with tm:=Jh ps (Kv t y) s.tm,sv:=s.tm++s.sv}
def uX(s:St): St:={s with tm:=s.sv.take s.tm.length,sv:=s.sv.drop s.tm.length}
def Dm(s:St): St:={s with tm:=s.sv,sv:=[]}
def one1(t:Ty): Bool:=!aFY t&&decide (t.sz=1)
def XM(t:Ty)(n:Nat): Bool:=match t with
 | .pair _ _=>n==2
 | t=>n==1&&decide (t.sz=1)
def Aj: Nat:=1000000
def EZ: Ty->Bool
 | .int _=>true
 | .bool=>true
 | _=>false
def Yc(m:Mem): AV->AV
 | .ptr nm 1 0 0=>match m.lookup nm with
  | some (.var cs)=>.ips (uy cs)
  | _=>.top
 | .ipv a=>.ipv (Yc m a)
 | a=>lr a
def KU(m:Mem)(l:List AV): List AV:=l.map (Yc m)
def Nr(G:List (Nat×AV))(g:Operand)(gf:FuncId)(s:St): Option (List AV):=match evT G s.sig.T g with
 | .fn gf' caps=>if gf'=gf then some (KU s.mem caps)else none
 | _=>none
def aHH(c:Cfg)(m:Mem)(gf:FuncId)(caps:List AV): Option jF:=if(AV.namesL caps).isEmpty=true then c.KI gf caps else c.KI (gf+Aj) (KU m caps)
def Ub(G:List (Nat×AV))(g:Operand)(gf:FuncId)(caps:List AV)(m:Mem){α:Type}(inv:α->Prop)(st:α->St)(t:Ty)(X:Prop): Prop:=
 if(AV.namesL caps).isEmpty=true then X else EZ t=true/\(∀x,inv x->Nr G g gf (st x)=some (KU m caps))/\X
def Yu(P:Program)(f:FuncId): Bool:=goes P f&&decide (f<Aj)
def aHN{α:Type}(R:α->Prop): List α->Prop
 | []=>True
 | x::l=>R x/\aHN R l
def aIM{α:Type}(inv R:α->Prop): List α->Prop
 | []=>∀x,inv x->R x
 | x::l=>(∀y,inv y->y∈x::l)/\aHN (λy=>inv y->R y) (x::l)
def UN{α:Type}{R:α->Prop}: ∀{l:List α},aHN R l->∀x∈l,R x
 | y::l,h,x,b=>by
  rcases zK.1 b with rfl | g
  .exact h.1
  .exact UN h.2 x g
def Zj{α:Type}{inv R:α->Prop}{l:List α}(h:aIM inv R l): ∀x,inv x->R x:=by
 cases l with
 | nil=>exact h
 | cons y l=>exact λx b=>UN h.2 x (h.1 x b) b
def ev(c:Cfg)(A:Ann): Code->St->(Exit->St->Prop)->Prop
 | .skip,s,Q=>Q .normal s
 | .region id ops draw,s,Q=>match A.pre id s with
  | none=>aFS c ops draw s Q
  | some s1=>match VS s s1 with
   | some ms=>all ms (aFS c ops draw s1 Q)
   | none=>False
 | .seq a b,s,Q=>match fA b with
  | some id=>match A.cut id s with
   | some sp=>ev c A a s (λe s'=>match e with | .normal=>∃y,sp.inv y/\leP s' (sp.st y) | e=>Q e s')/\∀x,sp.inv x->ev c A b (sp.st x) Q
   | none=>ev c A a s (λe s'=>match e with | .normal=>ev c A b s' Q | e=>Q e s')
  | none=>ev c A a s (λe s'=>match e with | .normal=>ev c A b s' Q | e=>Q e s')
 | .cond t a b,s,Q=>match YQ (evT c.G s.sig.T t)with
  | some (ns,x)=>all ns (YR x (ev c A a s Q) (ev c A b s Q))
  | none=>False
 | .block id b,s,Q=>ev c A b s (λe s'=>match e with | .exit id'=>if id'=id then Q .normal s' else Q (.exit id') s' | e=>Q e s')
 | .exit id,s,Q=>Q (.exit id) s
 | .scope b,s,Q=>ev c A b s (λe s'=>match e with | .goto _=>False | e=>Q e s')
 | .label _,s,Q=>Q .normal s
 | .ret,s,Q=>Q .ret s
 | .loop b,s,Q=>match fA b with
  | some id=>match aEy A id b s with
   | some sp=>(∃x,sp.inv x/\leP s (sp.st x))/\aIM sp.inv (λx=>ev c A b (sp.st x) (λe s'=>match e with | .normal=>∃y,sp.inv y/\leP s' (sp.st y)/\sp.μ y<sp.μ x | e=>Q e s')) sp.fin
   | none=>False
  | none=>False
 | .rangeFunc g ps as b,s,Q=>match evT c.G s.sig.T g,fA (.seq as b)with
  | .fn gf caps,some id=>match aHH c s.mem gf caps,A.loop id s with
   | some it,some sp=>if Yu c.P gf&&decide (s.sv.length<s.tm.length)&&c.rng&&XM it.t ps.toList.length&&ps.toList.all (λp=>decide (p<s.tm.length))then
     Ub c.G g gf caps s.mem sp.inv sp.st it.t (it.pre/\(∃x,sp.inv x/\sp.μ x=0/\leP s (sp.st x))/\
     (∀x y,sp.inv x->m4 it.L (sp.μ x) y->ev c A as (MS ps.toList it.t y (sp.st x)) (λe s1=>match e with
      | .normal=>ev c A b s1 (λe s2=>match e with
       | .normal=>∃z,sp.inv z/\sp.μ z=sp.μ x+1/\leP (uX s2) (sp.st z)
       | .ret=>Q .ret (uX s2)
       | .exit i=>Q (.exit i) (uX s2)
       | .panic ch=>Q (.panic ch) (uX s2)
       | _=>False)
      | _=>False))/\
     (∀x,sp.inv x->sp.μ x=it.L.length->Q .normal (sp.st x)))
    else False
   | _,_=>False
  | _,_=>False
 | _,_,_=>False
def nJ{s s':St}{ns:List Prop}(h:VS s s'=some ns): s.tm.length=s'.tm.length:=by
 unfold VS at h;split at h
 .rename_i b;exact b.1
 .cases h
def xg{s s':St}(h:leP s s'): s.tm.length=s'.tm.length:=by
 unfold leP at h;split at h
 .rename_i ns b;exact nJ b
 .exact h.elim
def EL{S:Base}{s s':St}{a:Act}{w:World}(b:leP s s')(h:Sim S s.sig a w): Sim S s'.sig a w:=by
 unfold leP at b;split at b
 .rename_i ns e;exact MJ h e (bR b).1
 .exact b.elim
abbrev noV: Nat->Prop:=λ_=>False
def mA(P:Program)(G:List (Nat×AV))(gf:FuncId)(caps:List AV)(it:jF): Prop:=
 it.pre->∀(l:Nat) (J:Nat->World->(Nat->Prop)->(Nat->Prop)->Prop) (JX:World->(Nat->Prop)->(Nat->Prop)->Prop) (JP:List PanicEntry->World->(Nat->Prop)->(Nat->Prop)->Prop) (w:World) (D:Nat->Prop) (us:Lv),
  (∀b,D b->b<w.heap.size)->lM P ⟨w,D,noM,noE⟩ G->AV.relL P ⟨w,D,noM,noE⟩ caps us->
  (∀k w1 w2 D1 V,J k w1 D1 V->Below w1.heap.size w1 w2->∀X:Nat->Prop,J k w2 (λb=>D1 b\/(iH w1 w2 b/\¬X b)) (λb=>V b\/(iH w1 w2 b/\X b)))->
  (∀k w1 (D1 D2 V V2:Nat->Prop),J k w1 D1 V->(∀b,D2 b->D1 b)->(∀b,V2 b->V b)->J k w1 D2 V2)->
  (∀k w1 w2 D1 V,J k w1 D1 V->Chg V w1 w2->w2.heap.size=w1.heap.size->J k w2 D1 V)->
  (∀w1 w2 D1 V,JX w1 D1 V->Below w1.heap.size w1 w2->∀X:Nat->Prop,JX w2 (λb=>D1 b\/(iH w1 w2 b/\¬X b)) (λb=>V b\/(iH w1 w2 b/\X b)))->
  (∀w1 (D1 D2 V V2:Nat->Prop),JX w1 D1 V->(∀b,D2 b->D1 b)->(∀b,V2 b->V b)->JX w1 D2 V2)->
  (∀w1 w2 D1 V,JX w1 D1 V->Chg V w1 w2->w2.heap.size=w1.heap.size->JX w2 D1 V)->
  (∀ch w1 w2 D1 V,JP ch w1 D1 V->Chg V w1 w2->w2.heap.size=w1.heap.size->JP ch w2 D1 V)->
  (∀k y W D1 V vs,it.L[k]?=some y->J k W D1 V->(∀b,D1 b->b<W.heap.size)->AV.relL P ⟨W,D1,noM,noE⟩ (Kv it.t y) vs->YieldAt Fence.wide 0 P l vs.toArray W λe W' =>
   W.heap.size<=W'.heap.size/\(∀b,D1 b\/V b->W'.heap[b]?=W.heap[b]?)/\((e=.returned (.bool true)/\J (k+1) W' D1 V)\/(e=.returned (.bool false)/\JX W' D1 V)\/∃ch,e=.panicked ch/\JP ch W' D1 V))->
  J 0 w D noV->
  CallsIn Fence.wide 0 P gf (#[.func (.yield l) #[] #[]]++us.toArray) w λe W'=>((∃v,e=.returned v)/\((∃D2,J it.L.length W' D2 noV)\/∃D2,JX W' D2 noV))\/∃ch,e=.panicked ch/\∃D2 V2,JP ch W' D2 V2
def Jt(P:Program)(G:List (Nat×AV))(gf:FuncId)(caps:List AV)(it:jF): Prop:=
 it.pre->∀(l:Nat) (J:Nat->World->Prop) (JX:World->Prop) (JP:List PanicEntry->World->Prop) (w:World) (us:Lv),
  (∀k w1,J k w1->∃D:Nat->Prop,(∀b,D b->b<w1.heap.size)/\lM P ⟨w1,D,noM,noE⟩ G/\AV.relL P ⟨w1,D,noM,noE⟩ caps us)->
  (∀w1,JX w1->∃D:Nat->Prop,(∀b,D b->b<w1.heap.size)/\lM P ⟨w1,D,noM,noE⟩ G)->
  (∀k w1 w2,J k w1->Below w1.heap.size w1 w2->J k w2)->
  (∀w1 w2,JX w1->Below w1.heap.size w1 w2->JX w2)->
  (∀k y W u,it.L[k]?=some y->J k W->ag W noV it.t y [u]->YieldAt Fence.wide 0 P l #[u] W λe W' =>
   W.heap.size<=W'.heap.size/\((e=.returned (.bool true)/\J (k+1) W')\/(e=.returned (.bool false)/\JX W')\/∃ch,e=.panicked ch/\JP ch W'))->
  J 0 w->
  CallsIn Fence.wide 0 P gf (#[.func (.yield l) #[] #[]]++us.toArray) w λe W'=>((∃v,e=.returned v)/\(J it.L.length W'\/JX W'))\/∃ch,e=.panicked ch/\JP ch W'
def bf(P:Program)(G:List (Nat×AV))(KI:FuncId->List AV->Option jF): Prop:=∀gf caps it,KI gf caps=some it->if gf<Aj then mA P G gf caps it else Jt P G (gf-Aj) caps it
def bf.at {P:Program} {G:List (Nat×AV)} {KI:FuncId->List AV->Option jF} (h:bf P G KI) {gf:FuncId} {caps:List AV} {it:jF} (e:gf<Aj) (b:KI gf caps=some it):mA P G gf caps it:=by
 have:=h gf caps it b
 rwa [if_pos e]at this
def aB7{q:Nat->Prop}{p:Prop}{g N:Nat}(h:if g+N<N then p else q (g+N-N)): q g:=by
 rw[if_neg Z,Nat.add_sub_cancel]at h;exact h
def bf.lent {P:Program} {G:List (Nat×AV)} {KI:FuncId->List AV->Option jF} (h:bf P G KI) {gf:FuncId} {caps:List AV} {it:jF} (b:KI (gf+Aj) caps=some it):Jt P G gf caps it:=by
 unfold bf at h;generalize Aj=N at h b;exact aB7 (q:=λg=>Jt P G g caps it) (h _ caps it b)
section
variable {S:Base} {c:Cfg}
def Sim.draw {σ:Sig} {a:Act} {w:World} (h:Sim S σ a w):Sim S σ a {w with drawn:=w.drawn+1}:=by
 obtain⟨D,E,h⟩:=h;exact⟨D,E,h.world (D':=D) (by constructor<;>first | rfl | exact qJ _ | exact λ_ _=>rfl | exact Nat.le_succ _) (λb=>⟨.inl,λg=>g.elim id (·.2)⟩) h.dlt⟩
def Td{ops:Array Oper}{draw:Bool}{s s':St}{ns:List Prop}(h:aEm c ops draw s=some (ns,s')): s'.tm.length=s.tm.length:=by
 unfold aEm at h;split at h
 .rename_i rs _;dsimp only at h;generalize (if draw=true then jD [] ops.toList else[])=b at h;by_cases e:wm draw b s rs=true/\(draw=true->oq b ops.toList rs=true)
  .rw[if_pos e]at h;cases h;exact lJ _ _ _
  .rw[if_neg e]at h;cases h
 .cases h
def ZH(z:c.P=S.P)(A:c.G=S.G)(v:ai S.P S.G c.K)(hm:S.P.follows .mixedOrders=true){id:Nat}{ops:Array Oper}{draw:Bool}{s s':St}{ns:List Prop}(h:aEm c ops draw s=some (ns,s'))(V:∀q∈ns,q)
  (X:s.tm.length=S.N) {a:Act} {w:World} (x:Sim S s.sig a w) {Q:Exit->Act->World->Prop} (y:∀L w',Sim S s'.sig L w'->Q .normal L w'):(Code.region id ops draw).wpIn S.F 0 S.P Q a w:=by
 unfold aEm at h;split at h
 case h_2=>cases h
 rename_i rs g;dsimp only at h;generalize (if draw=true then jD [] ops.toList else[])=e at h;by_cases b:wm draw e s rs=true/\(draw=true->oq e ops.toList rs=true)
 case neg=>rw[if_neg b]at h;cases h
 rw[if_pos b]at h;cases h;obtain⟨P,G,K,mb,KI,rng,KP,pf⟩:=c;simp only at z A v;subst z A;obtain⟨f,u⟩:=vq g;have H:Jq S K mb ops s rs:=⟨by simpa using f,λj o r T i=>u j o r (by simpa using T) i,X,λj r i q O=>V q (xB.2 ⟨r,zV i,O⟩)⟩;cases draw with
 | false=>exact Hq v H b.1 x y
 | true=>exact vQ v hm H b.1 (b.2 rfl) x.draw y
def aP.putL {σ:Sig} {a:Act} {w:World} {D:Nat->Prop} {E:Nat->Ent} (h:aP S σ a w D E) {l:Nat} (o:Obj) (z:S.w0.heap.size<=l) (x:¬D l) (u:¬aJ σ.m E l):aP S σ a (w.putObj l o) D E:=by
 have same:∀k,k≠l->(w.putObj l o).heap[k]?=w.heap[k]?:=λk r=>World.putObj_heap_other r
 exact h.go (m':=σ.m) ⟨λ_ g=>g,λb hb=>same b λe=>x (e▸hb)⟩ (λk=>.inl λy j=>⟨y,j,rfl,qJ _,λ_=>rfl⟩)
  (λf b hm=>.inl ⟨hm,rfl,λhi=>same _ λe=>u (.inl ⟨f,b,hm,hi,e.symm⟩),λi k v=>same k λe=>u (.inr ⟨f,i,aQ.2 ⟨b,hm,e▸v⟩⟩)⟩) (λf b hm hi=>by simpa using h.own f b hm hi) h.inj
  (h.low.step rfl rfl rfl (by simp) λk r _=>same k Z) (λb hb=>by simpa using h.dlt b hb) (λb hb=>.inl hb)
  (h.pv.step (λ_ _ _ g=>g) (by simp) (λ_ g=>.inl g) λf b hm hi=>.inr ⟨f,b,hm,hi,rfl⟩)
def aP.lay {σ:Sig} {a:Act} {w w':World} {D:Nat->Prop} {E:Nat->Ent} (h:aP S σ a w D E) {V:Nat->Prop} (f:Chg V w w') (r:w'.heap.size=w.heap.size) (j:∀b,V b->S.w0.heap.size<=b/\¬D b/\¬aJ σ.m E b):aP S σ a w' D E:=by
 have lt:∀e b,σ.m e=some b->(E e).isNil=false->(E e).b<w.heap.size:=λe b hm hi=>(h.own e b hm hi).2.1
 exact h.go (m':=σ.m) ⟨λ_ g=>g,λb hb=>f.block b (h.dlt b hb) λg=>(j b g).2.1 hb⟩ (λk=>.inl λy u=>⟨y,u,rfl,qJ _,λ_=>rfl⟩)
  (λe b hm=>.inl ⟨hm,rfl,λhi=>f.block _ (lt e b hm hi) λg=>(j _ g).2.2 (.inl ⟨e,b,hm,hi,rfl⟩),λi k v=>f.block k (h.pv.lt hm v) λg=>(j _ g).2.2 (.inr ⟨e,i,aQ.2 ⟨b,hm,v⟩⟩)⟩)
  (λe b hm hi=>by rw[r];exact h.own e b hm hi) h.inj
  (h.low.step f.os f.tape f.output f.size λk x _=>f.block k (qX x h.low.size) λg=>by have:=(j k g).1;omega) (λb hb=>by rw[r];exact h.dlt b hb) (λb hb=>.inl hb)
  (h.pv.step (λ_ _ _ g=>g) (xG r.symm) (λ_ g=>.inl g) λe b hm hi=>.inr ⟨e,b,hm,hi,rfl⟩)
def aP.enter {σ:Sig} {a:Act} {w:World} {D:Nat->Prop} {E:Nat->Ent} (h:aP S σ a w D E) (l:Nat) {tm:Nat->AV} {tmps:Array Value} (j:tmps.size=S.N)
  (f:∀t,(tm t).rel S.P ⟨w,D,σ.m,E⟩ (tmps.getD t undef)) {sv:List AV} {vs:Lv} (r:AV.relL S.P ⟨w,D,σ.m,E⟩ sv vs):
  aP {P:=S.P,w0:=w,D0:=D,N:=S.N,O:=aJ σ.m E,G:=S.G,sv:=vs,rd:=some l,nod:=true} ⟨tm,σ.m,sv⟩ {tmps:=tmps,defers:=[]} w D E:=
 ⟨j,⟨⟨λ_=>rfl,⟨[],rfl⟩,yV⟩,λd hd=>by cases hd⟩,f,h.bl,λe b hm hi=>⟨.inr (.inl ⟨e,b,hm,hi,rfl⟩),(h.own e b hm hi).2⟩,h.inj,Chg.refl _ _,h.dlt,λ_ g=>g,λ_ g=>.inl g,h.gl,r,
  ⟨λe i b g=>⟨.inr (.inr ⟨e,i,g⟩),(h.pv.own e i b g).2⟩,h.pv.ent,h.pv.inj⟩⟩
def aP.again {σ:Sig} {a:Act} {w:World} {D:Nat->Prop} {E:Nat->Ent} (h:aP S σ a w D E) {l:Nat} (o:Obj) (u:S.gd=[]) (f:a.defers=[]) (A:¬D l) (x:¬aJ σ.m E l):
  aP {S with w0:=w.putObj l o,D0:=D,O:=aJ σ.m E} σ a (w.putObj l o) D E:=by
 have same:∀k,k≠l->(w.putObj l o).heap[k]?=w.heap[k]?:=λk z=>World.putObj_heap_other z
 have L:Later ⟨w,D,σ.m,E⟩ ⟨w.putObj l o,D,σ.m,E⟩:=⟨λ_ g=>g,λb hb=>same b λe=>A (e▸hb)⟩;have j:∀k,oH ⟨w,D,σ.m,E⟩ ⟨w.putObj l o,D,σ.m,E⟩ k:=λk G v=>⟨G,v,rfl,qJ _,λ_=>rfl⟩
 refine⟨h.sz,⟨⟨λ_=>f.trans u.symm,⟨[],f.trans u.symm⟩,by rw[f];exact yV⟩,λd hd=>by rw[f]at hd;cases hd⟩,λt=>AV.rel_mono L (λk _=>j k) (h.tm t),λk b hm=>?_,λk b hm hi=>⟨.inr (.inl ⟨k,b,hm,hi,rfl⟩),by simpa using(h.own k b hm hi).2⟩,h.inj,Chg.refl _ _,
  λb hb=>by simpa using h.dlt b hb,λ_ g=>g,λ_ g=>.inl g,h.gl.mono L,AV.relL_mono L (λk _=>j k) h.svr,
  ⟨λj i b g=>⟨.inr (.inr ⟨j,i,g⟩),by simpa using(h.pv.own j i b g).2⟩,h.pv.ent,h.pv.inj⟩⟩
 exact eJ.mono L (λk _=>j k) (λhi=>same _ λe=>x (.inl ⟨k,b,hm,hi,e.symm⟩)) (λi r y=>same r λe=>x (.inr ⟨k,i,aQ.2 ⟨b,hm,e▸y⟩⟩)) (h.bl k b hm)
def aP.leave {f:Base} {σ:Sig} {a a0:Act} {w:World} {D:Nat->Prop} {E:Nat->Ent} (h:aP f σ a w D E) (L:f.P=S.P) (hG:f.G=S.G) (hv:f.sv=a0.tmps.toList) (r:a0.tmps.size=S.N)
  (V:∀b,f.w0.heap.size<=b\/f.O b->S.w0.heap.size<=b\/S.O b) (j:Chg S.O S.w0 w) (A:∀b,S.D0 b->D b) (y:∀b,D b->S.D0 b\/S.w0.heap.size<=b\/S.O b) (z:Marks S.nod S.w0.heap.size D w S.gd a0.defers)
  (v:S.sv=[]):aP S ⟨λt=>σ.sv.getD t .top,σ.m,[]⟩ a0 w D E:=by
 refine⟨r,z,λt=>?_,λe b hm=>L▸h.bl e b hm,λe b hm hi=>⟨V _ (h.own e b hm hi).1,(h.own e b hm hi).2⟩,h.inj,j,h.dlt,A,y,?_,?_,⟨λe i b g=>⟨V _ (h.pv.own e i b g).1,(h.pv.own e i b g).2⟩,h.pv.ent,h.pv.inj⟩⟩
 .have T:=h.svr;rw[hv,L]at T;show(σ.sv.getD t .top).rel S.P ⟨w,D,σ.m,E⟩ _;rw[qA];cases X:σ.sv[t]? with
  | none=>trivial
  | some x=>
   obtain⟨u,g1,g2⟩:=AV.relL_get T X;have:a0.tmps.getD t undef=u:=by
    rw[qQ];simp only[yM]at g1;rw[g1];rfl
   rw[this];exact g2
 .have:=h.gl;rw[L,hG]at this;exact this
 .rw[v];rfl
def aP.leaveN {j:Base} {σ:Sig} {a a0:Act} {w:World} {D:Nat->Prop} {E:Nat->Ent} (h:aP j σ a w D E) (T:j.P=S.P) (hG:j.G=S.G) (hv:j.sv=a0.tmps.toList++S.sv) (r:a0.tmps.size=S.N)
  (V:∀b,j.w0.heap.size<=b\/j.O b->S.w0.heap.size<=b\/S.O b) (v:Chg S.O S.w0 w) (L:∀b,S.D0 b->D b) (z:∀b,D b->S.D0 b\/S.w0.heap.size<=b\/S.O b) (A:Marks S.nod S.w0.heap.size D w S.gd a0.defers):
  aP S ⟨λt=>(σ.sv.take S.N).getD t .top,σ.m,σ.sv.drop S.N⟩ a0 w D E:=by
 have y:=h.svr;rw[hv,T]at y;have e:a0.tmps.toList.length=S.N:=by rw[vP];exact r
 have h1:=AV.relL_take y S.N;have X:=AV.relL_drop y S.N;have e1:(a0.tmps.toList++S.sv).take S.N=a0.tmps.toList:=by rw[<- e];exact List.take_left
 have e2:(a0.tmps.toList++S.sv).drop S.N=S.sv:=by rw[<- e];exact qBx
 rw[e1]at h1;rw[e2]at X;refine⟨r,A,λt=>?_,λf b hm=>T▸h.bl f b hm,λf b hm hi=>⟨V _ (h.own f b hm hi).1,(h.own f b hm hi).2⟩,h.inj,v,h.dlt,L,z,?_,X,⟨λf i b g=>⟨V _ (h.pv.own f i b g).1,(h.pv.own f i b g).2⟩,h.pv.ent,h.pv.inj⟩⟩
 .show((σ.sv.take S.N).getD t .top).rel S.P ⟨w,D,σ.m,E⟩ _;rw[qA];cases hx:(σ.sv.take S.N)[t]? with
  | none=>trivial
  | some x=>
   obtain⟨u,g1,g2⟩:=AV.relL_get h1 hx;have:a0.tmps.getD t undef=u:=by
    rw[qQ];simp only[yM]at g1;rw[g1];rfl
   rw[this];exact g2
 .have:=h.gl;rw[T,hG]at this;exact this
end
end Go.Eng
