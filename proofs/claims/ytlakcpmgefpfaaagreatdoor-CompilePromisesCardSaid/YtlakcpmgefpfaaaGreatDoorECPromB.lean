/- PeH8e PeH8f PeH8g PeH9 PeH10 PeH10b PeH11 PeH12 PeH12b PeH13 PeH14 PeH15 -/
import Derived.Test.YtlakcpmgefpfaaaGreatDoorECPromA
import Derived.Sort.LoopGhostIn
import Derived.RangeFuncLeaves
import Derived.RangeFuncSeq
import Derived.OrdersIn
import Derived.RangeFuncCalls
import Derived.RangeFuncFrom
set_option linter.unusedSimpArgs false
set_option linter.unusedVariables false
namespace Go.Eng
open Go.RowKit
def ym(P:Program)(t:TypeId)(p:RV): Option Core:=if fM P t=some false then match p with
 | (.ptr nm g i 0,some (.mat _ _ _ xss []))=>some {need:=[Dj xss=g],val:=.row nm g i (Dj (Du xss i []))}
 | (.ptr _ g i 0,some (.mat _ _ _ xss [(j,v)]))=>some {need:=[Dj xss=g,i=j],val:=v}
 | (.rptr _ g i k j,some (.mat _ _ e xss []))=>some {need:=[Dj xss=g,Dj (Du xss i [])=k],val:=.dat e (Du (Du xss i []) j e.dflt)}
 | _=>none else none
theorem jV{P:Program}{w:World}{t:TypeId}{bl off:Nat}{u:Value}(h2:fM P t=some false)(h:w.cell? ⟨bl,off,none⟩=some u):
  (Instr.loadAt t (.pointer (some ⟨bl,off,none⟩))).run P w=.ok u w:=by
 simp[Instr.loadAt,Instr.sureAddr,loadVar,jB h2,h]
theorem aH.matCells {S:Base} {σ:Sig} {a:Act} {w:World} {D:Nat->Prop} {E:Nat->Ent} (h:aH S σ a w D E) {nm:Nat} {el eli:TypeId} {e:Ty} {xss:List (List e.den)} {ov:List (Nat×AV)} (hm:σ.m nm=some (.mat el eli e xss ov)) (hnil:(E nm).isNil=false):
  e.sz=1/\∃raw,w.ownsRow 0 el 1 (.slice (some ⟨(E nm).b,0,none⟩) xss.length (E nm).cap) xss.length raw/\Wi S.P 0 ⟨w,D,σ.m,E⟩ (E nm) eli e xss ov raw:=by
 obtain⟨h0,raw,r1,r2⟩:=h.bl nm _ hm;have e3:(E nm).handle xss.length=.slice (some ⟨(E nm).b,0,none⟩) xss.length (E nm).cap:=by unfold Ent.handle;rw[hnil];rfl
 rw[e3]at r1;exact⟨h0,raw,r1,r2⟩
theorem ED{P:Program}{C:Ctx}{e:Ty}{row:List e.den}{raw:Lv}(h:bW P C e row [] raw)(hz:e.sz=1)(hl:raw.length=row.length*1){j:Nat}(hj:j<row.length)(d:e.den): ∃u,raw[j]?=some u/\ah C.w C.D e (row.getD j d) [u]:=by
 have hr:=h j _ (getElem?_getD (d:=d) hj);simp only[List.lookup]at hr;have hlt:j<raw.length:=by omega
 refine⟨raw[j],qB hlt,?_⟩;have e4:(raw.drop (j*e.sz)).take e.sz=[raw[j]]:=by
  rw[hz,yI];apply xK;intro q;rw[vM];cases q with
  | zero=>simp[hlt]
  | succ q=>simp
 rw[e4]at hr;exact hr
theorem E8{S:Base}{σ:Sig}{a:Act}{w:World}{D:Nat->Prop}{E:Nat->Ent}(h:aH S σ a w D E){p:RV}{t:TypeId}{c:Core}{v:Value}
  (hb:p.2=ct σ.m p.1) (hc:ym S.P t p=some c) (hn:∀q∈c.need,q) (hp:p.1.rel S.P ⟨w,D,σ.m,E⟩ v):
  ∃r,(Instr.loadAt t v).run S.P w=.ok r w/\c.val.rel S.P ⟨w,D,σ.m,E⟩ r/\c.upd=[]/\c.new=none:=by
 unfold ym at hc;split at hc
 case isFalse=>cases hc
 rename_i ha;split at hc
 .rename_i nm g i el eli e xss;cases hc;have hm:σ.m nm=some (.mat el eli e xss []):=hb.symm;have e1:xss.length=g:=hn _ (by simp);obtain⟨q1,q2,q3⟩:=(hp _ hm).2 e1;have q2:(E nm).isNil=false:=q2;obtain⟨hz,raw,r1,r2⟩:=h.matCells hm q2;have hi:i<xss.length:=by omega
  obtain⟨u,g1,g2⟩:=r2 i _ (getElem?_getD (d:=[]) hi);simp only[List.lookup]at g2;have q3':v=.pointer (some ⟨(E nm).b,i,none⟩):=by
   rw[q3];show Value.pointer (some ⟨(E nm).b,i*1+0,none⟩)=_;rw[yI,yU]
  rw[q3'];refine⟨u,jV ha (by rw[r1.cellAt i (by omega)];exact g1),λb hb'=>?_,rfl,rfl⟩;have eb:b=.mat el eli e xss []:=wS (hb'.symm.trans hm);subst eb;obtain⟨ao,cap,r3,k1,_,k2⟩:=g2;exact⟨zV e1.symm,λ_=>⟨ao,cap,k1,λhp0=>(k2 hp0).1⟩⟩
 .rename_i nm g i el eli e xss j av;cases hc;have hm:σ.m nm=some (.mat el eli e xss [(j,av)]):=hb.symm;have e1:xss.length=g:=hn _ (by simp);have e2:i=j:=hn _ (by simp);subst e2;obtain⟨q1,q2,q3⟩:=(hp _ hm).2 e1;have q2:(E nm).isNil=false:=q2;obtain⟨hz,raw,r1,r2⟩:=h.matCells hm q2;have hi:i<xss.length:=by omega
  obtain⟨u,g1,g2⟩:=r2 i _ (getElem?_getD (d:=[]) hi);simp only[List.lookup,yH]at g2;have q3':v=.pointer (some ⟨(E nm).b,i,none⟩):=by
   rw[q3];show Value.pointer (some ⟨(E nm).b,i*1+0,none⟩)=_;rw[yI,yU]
  rw[q3'];exact⟨u,jV ha (by rw[r1.cellAt i (by omega)];exact g1),g2.2,rfl,rfl⟩
 .rename_i nm g i k j el eli e xss;cases hc;have hm:σ.m nm=some (.mat el eli e xss []):=hb.symm;have e1:xss.length=g:=hn _ (by simp);have e2:(xss.getD i []).length=k:=hn _ (by simp);obtain⟨q1,q3⟩:=(hp _ hm).2 e1;have hi:i<xss.length:=by
   rcases zC i xss.length with g | g
   .exact g
   .rw[qA,zF g]at e2;simp at e2;omega
  obtain⟨hz,raw,r1,r2⟩:=h.bl nm _ hm;obtain⟨u,g1,g2⟩:=r2 i _ (getElem?_getD (d:=[]) hi);simp only[List.lookup]at g2;obtain⟨ao,cap,r3,k1,_,k2⟩:=g2;have hjl:j<(xss.getD i []).length:=by rw[e2];exact q1
  obtain⟨k3,k4,k5⟩:=k2 (by omega);subst k3;rw[k1]at k4;obtain⟨z,z1,z2⟩:=ED k5 hz k4.1 hjl e.dflt;rw[q3];exact⟨z,jV ha (by rw[k4.cellAt j (by omega)];exact z1),z2,rfl,rfl⟩
 .cases hc
def tU(P:Program)(t:TypeId)(p:RV)(i:AV): Option Core:=match cN P t,i with
 | some e,.dat (.int _) i=>if sizeT P e=some 1 then match p with
  | (.buf nm n,some (.mat _ _ _ xss _))=>some (rC nm n (Dj xss) i)
  | (.row nm g r k,some (.mat _ _ _ xss _))=>some {need:=[Dj xss=g,0<=i,i<(k:Int)],val:=.rptr nm g r k (Dc i)}
  | _=>none
  else none
 | _,_=>none
theorem BV{S:Base}{σ:Sig}{a:Act}{w:World}{D:Nat->Prop}{E:Nat->Ent}(h:aH S σ a w D E){p:RV}{i:AV}{t:TypeId}{c:Core}{v vi:Value}
  (hb:p.2=ct σ.m p.1) (hc:tU S.P t p i=some c) (hn:∀q∈c.need,q) (hp:p.1.rel S.P ⟨w,D,σ.m,E⟩ v) (hi:i.rel S.P ⟨w,D,σ.m,E⟩ vi):
  ∃r,(Instr.indexAt t v vi).run S.P w=.ok r w/\c.val.rel S.P ⟨w,D,σ.m,E⟩ r/\c.upd=[]/\c.new=none:=by
 unfold tU at hc;split at hc
 case h_2=>cases hc
 rename_i e k i he;have hu:=cq he;simp only[AV.rel,ah,qR,vP]at hi;subst hi;split at hc
 case isFalse=>cases hc
 rename_i hs;have hsz:=bA hs w;obtain⟨i,rfl⟩:∃j:Int,j=i:=⟨i,rfl⟩;split at hc
 .rename_i nm n el eli e' xss ov;cases hc;have hm:σ.m nm=some (.mat el eli e' xss ov):=hb.symm;have hlen:xss.length=n:=hn _ (by simp[rC]);have h0:(0:Int)<=i:=hn _ (by simp[rC]);have h1:i<(xss.length:Int):=hn _ (by simp[rC]);obtain⟨g1,g2⟩:=hp _ hm;have e2:=g2 hlen;have hnil:(E nm).isNil=false:=by
   cases hq:(E nm).isNil with
   | false=>rfl
   | true=>
    obtain⟨_,raw,r1,r2⟩:=h.bl nm _ hm;have e3:(E nm).handle xss.length=.slice none 0 0:=by unfold Ent.handle;rw[hq];rfl
    rw[e3]at r1;rcases r1.2 with⟨_,hz⟩ | ⟨g,cap,cur,hv,_⟩
    .omega
    .cases hv
  have e3:(E nm).handle n=.slice (some ⟨(E nm).b,0,none⟩) n (E nm).cap:=by unfold Ent.handle;rw[hnil];rfl
  have e4:v=.slice (some ⟨(E nm).b,0,none⟩) n (E nm).cap:=e2.trans e3;subst e4;have h1':i<(n:Int):=by rw[<- hlen];exact h1
  refine⟨.pointer (some ⟨(E nm).b,i.toNat*1,none⟩),?_,λb' hb'=>?_,rfl,rfl⟩
  .simp[Instr.indexAt,asIntOf,vF hu,h0,h1',hsz,yM]
  .have eb:b'=.mat el eli e' xss ov:=wS (hb'.symm.trans hm);subst eb;exact⟨zV hlen.symm,λ_=>⟨(by have h9:i<(n:Int):=h1';exact(show i.toNat<n by omega)),hnil,by simp[Blk.es]⟩⟩
 .rename_i nm g r kk el eli e' xss ov;cases hc;have hm:σ.m nm=some (.mat el eli e' xss ov):=hb.symm;have hlen:xss.length=g:=hn _ (by simp);have h0:(0:Int)<=i:=hn _ (by simp);have h1:i<(kk:Int):=hn _ (by simp);obtain⟨ao,cap,hv,hpos⟩:=(hp _ hm).2 hlen;have hao:=hpos (by omega);rw[hao]at hv;have hv:v=.slice (some ⟨((E nm).rb r).1,0,none⟩) kk cap:=hv;subst hv
  refine⟨.pointer (some ⟨((E nm).rb r).1,i.toNat*1,none⟩),?_,λb' hb'=>?_,rfl,rfl⟩
  .simp[Instr.indexAt,asIntOf,vF hu,h0,h1,hsz,yM]
  .have eb:b'=.mat el eli e' xss ov:=wS (hb'.symm.trans hm);subst eb;exact⟨zV hlen.symm,λ_=>⟨(show i.toNat<kk by omega),by rw[yI]⟩⟩
 .cases hc
def sf(P:Program)(t:TypeId)(p v:RV): Option Core:=match Bo v,sizeT P t with
 | some ns,some 1=>if HS v.1=false then match p with
  | (.ptr nm g i 0,some (.mat el eli e xss []))=>some {need:=[Dj xss=g]++ns,val:=.val undef,upd:=[(nm,.mat el eli e xss [(i,v.1)])]}
  | (.rptr nm g i k j,some (.mat el eli e xss []))=>match v.1.as e with
   | some y=>some {need:=[Dj xss=g,Dj (Du xss i [])=k]++ns,val:=.val undef,upd:=[(nm,.mat el eli e (En (α:=List e.den) xss i (En (Du xss i []) j y)) [])]}
   | none=>none
  | _=>none
  else none
 | _,_=>none
theorem aH.turnRow {S:Base} {σ:Sig} {a:Act} {w:World} {D:Nat->Prop} {E:Nat->Ent} (h:aH S σ a w D E) {nm i:Nat} {el eli:TypeId} {e:Ty} {xss:List (List e.den)} (hm:σ.m nm=some (.mat el eli e xss [])) (hi:i<xss.length) (hp:0<(xss.getD i []).length)
  {row:List e.den} (hl:row.length=(xss.getD i []).length) (cs:Array Value)
  (hrow:∀C',Later ⟨w,D,σ.m,E⟩ C'->C'.w=w.setRow ((E nm).rb i).1 cs->∀u,C5 S.P 0 ⟨w,D,σ.m,E⟩ (E nm) eli e i (xss.getD i []) u->C5 S.P 0 C' (E nm) eli e i row u):
  aH S ⟨σ.T,upM σ.m [(nm,.mat el eli e (En (α:=List e.den) xss i row) [])],σ.sv⟩ a (w.setRow ((E nm).rb i).1 cs) D E:=by
 have hat:b8 σ.m E nm i ((E nm).rb i).1:=⟨el,eli,e,xss,[],xss.getD i [],hm,rfl,getElem?_getD hi,hp,rfl⟩;obtain⟨o1,o2,o3⟩:=h.pv.own _ _ _ hat;have other:∀k,k≠((E nm).rb i).1->(w.setRow ((E nm).rb i).1 cs).heap[k]?=w.heap[k]?:=λk hk=>setRow_other w _ k cs hk
 have old:∀k b',upM σ.m [(nm,.mat el eli e (En (α:=List e.den) xss i row) [])] k=some b'->(k=nm/\b'=.mat el eli e (En (α:=List e.den) xss i row) [])\/(k≠nm/\σ.m k=some b'):=λk b' hk=>by
  rw[cO]at hk;split at hk
  .rename_i ek;cases hk;exact .inl ⟨ek,rfl⟩
  .rename_i ek;exact .inr ⟨ek,hk⟩
 have L:Later ⟨w,D,σ.m,E⟩ ⟨w.setRow ((E nm).rb i).1 cs,D,upM σ.m [(nm,.mat el eli e (En (α:=List e.den) xss i row) [])],E⟩:=⟨λ_ g=>g,λb hb=>other b λek=>o3 (ek▸hb)⟩;have hlen:(En (α:=List e.den) xss i row).length=xss.length:=by rw[En,yD]
 have rowAt:∀k r,(En (α:=List e.den) xss i row)[k]?=some r->k<xss.length/\((k=i/\r=row)\/(k≠i/\xss[k]?=some r)):=λk r hk=>by
  have hlt:k<xss.length:=by have:=(qF.1 hk).1;rwa [hlen]at this
  have hk':(List.set xss i row)[k]?=some r:=hk;rw[yX]at hk';split at hk'
  .rename_i ek;subst ek;simp only[vZ]at hk';exact⟨hlt,.inl ⟨rfl,hk'.symm⟩⟩
  .rename_i ek;exact⟨hlt,.inr ⟨λq=>ek q.symm,hk'⟩⟩
 refine h.go (m':=upM σ.m [(nm,.mat el eli e (En (α:=List e.den) xss i row) [])]) (E':=E) L (λk=>.inl λb' hb'=>?_) (λk b' hk=>?_) (λk b' hk hi'=>?_) (λk k' b1 b2 hk hk' hi1 hi2 hbb=>?_)
  (h.low.step rfl rfl rfl (by simp) λk hk hno=>other k λek=>?_) (λb hb=>by simpa using h.dlt b hb) (λb hb=>.inl hb) (h.pv.step (λk j r hr=>?_) (by simp) (λb hb=>.inl hb) λk b' hk hi'=>?_)
 .rcases old k b' hb' with⟨rfl,rfl⟩ | ⟨g1,g2⟩
  .exact⟨_,hm,rfl,zV hlen.symm,λ_=>rfl⟩
  .exact⟨b',g2,rfl,qJ _,λ_=>rfl⟩
 .rcases old k b' hk with⟨rfl,rfl⟩ | ⟨g1,g2⟩
  .right
   obtain⟨hz,raw,r1,r2⟩:=h.bl k _ hm;refine⟨hz,raw,?_,λq r hq=>?_⟩
   .rw[hlen];refine fy (λg' n' c hh=>?_) r1;obtain⟨q1,rfl⟩:=B0 hh;exact other _ (h.pv.ent k i _ hat k _ hm q1)
   .obtain⟨hlt,⟨rfl,rfl⟩ | ⟨hne,hq'⟩⟩:=rowAt q r hq
    .obtain⟨u,g1,g2⟩:=r2 q _ (getElem?_getD (d:=[]) hlt);simp only[List.lookup]at g2 ⊢;exact⟨u,g1,hrow _ L rfl u g2⟩
    .obtain⟨u,g1,g2⟩:=r2 q r hq';simp only[List.lookup]at g2 ⊢;refine⟨u,g1,?_⟩;obtain⟨ao,cap,r3,k1,k0,k2⟩:=g2;refine⟨ao,cap,r3,k1,k0,λhpr=>?_⟩;obtain⟨k3,k4,k5⟩:=k2 hpr;refine⟨k3,fy (λg' n' c hh=>?_) k4,bj (C:=⟨w,D,σ.m,E⟩) L (λnm h=>by cases h) k5⟩;rw[k1,k3]at hh;simp at hh;rw[<- hh.1];refine other _ λek=>hne ?_
     exact(h.pv.inj k q _ k i ⟨el,eli,e,xss,[],r,hm,rfl,hq',hpr,rfl⟩ (ek▸hat)).2
  .left
   refine⟨g2,rfl,λhi'=>other _ (h.pv.ent nm i _ hat k b' g2 hi'),λq r hr=>other _ λek=>g1 ?_⟩;exact(h.pv.inj k q r nm i (aI.2 ⟨b',g2,hr⟩) (ek▸hat)).1
 .rcases old k b' hk with⟨rfl,rfl⟩ | ⟨g1,g2⟩
  .simpa using h.own k _ hm hi'
  .simpa using h.own k b' g2 hi'
 .have up:∀k b',upM σ.m [(nm,.mat el eli e (En (α:=List e.den) xss i row) [])] k=some b'->∃b0,σ.m k=some b0:=λk b' hk=>by
   rcases old k b' hk with⟨rfl,rfl⟩ | ⟨_,g2⟩
   .exact⟨_,hm⟩
   .exact⟨_,g2⟩
  obtain⟨c1,z1⟩:=up k b1 hk;obtain⟨c2,z2⟩:=up k' b2 hk';exact h.inj k k' c1 c2 z1 z2 hi1 hi2 hbb
 .rcases o1 with g | g
  .omega
  .exact hno (ek▸g)
 .obtain⟨b',g1,g2⟩:=aI.1 hr;rcases old k b' g1 with⟨rfl,rfl⟩ | ⟨q1,q2⟩
  .obtain⟨el2,eli2,e2,xs2,ov2,r2,hx,p1,p2,p3,p4⟩:=g2;cases hx;obtain⟨hlt,⟨rfl,rfl⟩ | ⟨hne,hq'⟩⟩:=rowAt j r2 p2
   .exact⟨_,_,_,_,_,_,hm,rfl,getElem?_getD (d:=[]) hlt,hp,p4⟩
   .exact⟨_,_,_,_,_,_,hm,rfl,hq',p3,p4⟩
  .exact aI.2 ⟨b',q2,g2⟩
 .rcases old k b' hk with⟨rfl,rfl⟩ | ⟨g1,g2⟩
  .exact .inr ⟨k,_,hm,hi',rfl⟩
  .exact .inr ⟨k,b',g2,hi',rfl⟩
theorem Ax{S:Base}{σ:Sig}{a:Act}{w:World}{D:Nat->Prop}{E:Nat->Ent}(h:aH S σ a w D E){t:TypeId}{p v:RV}{c:Core}{vp u:Value}
  (hbp:p.2=ct σ.m p.1) (hbv:v.2=ct σ.m v.1) (hc:sf S.P t p v=some c) (hn:∀q∈c.need,q)
  (hp:p.1.rel S.P ⟨w,D,σ.m,E⟩ vp) (hv:v.1.rel S.P ⟨w,D,σ.m,E⟩ u):
  c.new=none/\c.val=.val undef/\∃w',(Instr.storeAt t vp u).run S.P w=.ok () w'/\∃D E,aH S ⟨σ.T,upM σ.m c.upd,σ.sv⟩ a w' D E:=by
 unfold sf at hc;split at hc
 case h_2=>cases hc
 rename_i ns hone hsz;split at hc
 case isFalse=>cases hc
 rename_i hagg;have ones:(∀q∈ns,q)->∃z:Value,u.cells=[z].toArray/\v.1.rel S.P ⟨w,D,σ.m,E⟩ z/\z.oneCell'=true:=λhns=>by
  obtain⟨us,g1,g2,g3⟩:=my hbv hone hns hv;have hcv:cw v.1=[v.1]:=by
   cases hq:v.1<;>first | rfl | (rw[hq]at hagg;cases hagg)
  rw[hcv]at g2;obtain⟨z,us',e,q1,q2⟩:=g2;simp only[AV.relL]at q2;subst q2 e;exact⟨z,g1,q1,g3 z (by simp)⟩
 split at hc
 .rename_i nm g i el eli e xss;cases hc;have hm:σ.m nm=some (.mat el eli e xss []):=hbp.symm;have e1:xss.length=g:=hn _ (by simp);obtain⟨z,z1,z2,z3⟩:=ones (λq hq=>hn q (by simp[hq]));obtain⟨q1,q2,q3⟩:=(hp _ hm).2 e1;have q2:(E nm).isNil=false:=q2;obtain⟨hz,raw,r1,r2⟩:=h.matCells hm q2;have hi:i<xss.length:=by omega
  obtain⟨cur,p1,p2,p3⟩:=eQ r1 i [z] (by simp;omega);have q3':vp=.pointer (some ⟨(E nm).b,i,none⟩):=by
   rw[q3];show Value.pointer (some ⟨(E nm).b,i*1+0,none⟩)=_;rw[yI,yU]
  refine⟨rfl,rfl,_,by rw[q3'];exact ff (P:=S.P) (t:=t) (us:=[z]) p1 hsz z1 p2 (λy hy=>by rw[vG.1 hy];exact z3),?_⟩;refine aH.stored (b:=.mat el eli e xss [(i,v.1)]) h hm q2 rfl rfl _ (λC' L N hw=>?_) (λk r hr=>?_)
  .refine⟨hz,raw.take i++[z]++raw.drop (i+[z].length),?_,λk row hk=>?_⟩
   .have e3:(E nm).handle xss.length=.slice (some ⟨(E nm).b,0,none⟩) xss.length (E nm).cap:=by unfold Ent.handle;rw[q2];rfl
    rw[hw,e3];exact p3
   .have hk1:k<xss.length:=(qF.1 hk).1;have hrl:raw.length=xss.length*1:=r1.1;by_cases hki:k=i
    .subst hki;refine⟨z,?_,?_⟩
     .rw[wG,qW (by rw[qI];omega),qI];rw[show k-min k raw.length=0 by omega];rfl
     .simp only[List.lookup,yH];exact⟨z3,AV.rel_mono L (λx _=>N x) z2⟩
    .obtain⟨y,g1,g2⟩:=r2 k row hk;simp only[List.lookup]at g2;have hkb:(k==i)=false:=by simpa using hki
     refine⟨y,?_,?_⟩
     .rcases zC k i with hlt | hge
      .rw[wG,vJ (by rw[qI];omega),vM,if_pos hlt];exact g1
      .rw[qW (by rw[qG,qI];simp;omega),qY];rw[qG,qI,vX];rw[show i+1+(k-(min i raw.length+1))=k by omega];exact g1
     .simp only[List.lookup,hkb];obtain⟨ao,cap,r3,k1,k0,k2⟩:=g2;refine⟨ao,cap,r3,k1,k0,λhpr=>?_⟩;obtain⟨k3,k4,k5⟩:=k2 hpr;refine⟨k3,fy (λg' n' c hh=>?_) k4,bj (C:=⟨w,D,σ.m,E⟩) L (λnm h=>by cases h) k5⟩;rw[k1,k3]at hh;simp at hh;rw[<- hh.1,hw];refine setRow_other w _ _ _ λek=>?_
      exact h.pv.ent nm k _ ⟨el,eli,e,xss,[],row,hm,rfl,hk,hpr,rfl⟩ nm _ hm q2 ek.symm
  .obtain⟨el2,eli2,e2,xs2,ov2,r2',hx,s1,s2,s3,s4⟩:=hr;cases hx;exact⟨_,_,_,_,_,_,rfl,rfl,s2,s3,s4⟩
 .rename_i nm g i k j el eli e xss;split at hc
  case h_2=>cases hc
  rename_i y hy;cases hc;have hm:σ.m nm=some (.mat el eli e xss []):=hbp.symm;have e1:xss.length=g:=hn _ (by simp);have e2:(xss.getD i []).length=k:=hn _ (by simp);obtain⟨z,z1,z2,z3⟩:=ones (λq hq=>hn q (by simp[hq]));obtain⟨q1,q3⟩:=(hp _ hm).2 e1;have hi:i<xss.length:=by
   rcases zC i xss.length with g | g
   .exact g
   .rw[qA,zF g]at e2;simp at e2;omega
  have hzy:ah w D e y [z]:=AV.as_rel hy z2;obtain⟨hz,raw,r1,r2⟩:=h.bl nm _ hm;obtain⟨uu,g1,g2⟩:=r2 i _ (getElem?_getD (d:=[]) hi);simp only[List.lookup]at g2;have hjl:j<(xss.getD i []).length:=by rw[e2];exact q1
  obtain⟨ao,cap,r3,k1,k0,k2⟩:=g2;obtain⟨k3,k4,k5⟩:=k2 (by omega);rw[k1,k3]at k4;have hfit:j+[z].length<=(xss.getD i []).length*1:=by rw[vX];omega
  obtain⟨cur,p1,p2,p3⟩:=eQ k4 j [z] hfit;refine⟨rfl,rfl,_,by rw[q3];exact ff (P:=S.P) (t:=t) (us:=[z]) p1 hsz z1 p2 (λy hy=>by rw[vG.1 hy];exact z3),D,E,?_⟩;refine h.turnRow hm hi (by omega) (row:=En (Du xss i []) j y) (by rw[En,yD]) _ λC' L hw u' hu'=>?_
  obtain⟨ao',cap',r3',k1',k0',k2'⟩:=hu';obtain⟨k3',k4',k5'⟩:=k2' (by omega);have hlen:(En (Du xss i []) j y).length=(xss.getD i []).length:=by rw[En,yD]
  rw[k1',k3']at k4';have hcap:cap'=cap/\r3'=r3:=by
   rcases k4.2 with⟨hq,_⟩ | ⟨gg,cc,cu,hq,_,hh,_,_,hcs,ht⟩
   .cases hq
   .rcases k4'.2 with⟨hq',_⟩ | ⟨gg',cc',cu',hq',_,hh',hn1,hn2,hcs',ht'⟩
    .cases hq'
    .simp only[zM,vZ,gG,vP,zS]at hq hq';obtain⟨rfl,rfl⟩:=hq;obtain⟨rfl,rfl⟩:=hq';rw[hh]at hh';cases hh';exact⟨by omega,ht'.symm.trans ht⟩
  obtain⟨rfl,rfl⟩:=hcap;refine⟨ao',cap',r3'.take j++[z]++r3'.drop (j+[z].length),by rw[hlen];exact k1',k0',λ_=>⟨k3',?_,?_⟩⟩
  .rw[k1',k3',hw,hlen];exact p3
  .have fin:=nH (P:=S.P) (C:=C') (t:=e) (us:=[z]) (ov:=[]) (i:=j) (y:=y) (by rw[k4.1,hz]) hjl (λk a hk=>by simp at hk) (bj (C:=⟨w,D,σ.m,E⟩) L (λnm h=>by cases h) k5') (by rw[hz];rfl) (al L.D L.w hzy);rw[hz,yI]at fin;exact fin
 .cases hc
def Wx(op:BinOp): AV->AV->Option Core
 | .dat (.int k) x,.dat (.int k') y=>if k=k' then match op with
  | .add=>some {val:=.dat (.int k) (Ew k (Dq x y))}
  | .sub=>some {val:=.dat (.int k) (Ew k (Dh x y))}
  | .mul=>some {val:=.dat (.int k) (Ew k (Ee x y))}
  | _=>none
  else none
 | _,_=>none
theorem Nb{P:Program}{C:Ctx}{w:World}{op:BinOp}{t:TypeId}{x y:Operand}{a b:AV}{u v:Value}{c:Core}(h:Wx op a b=some c)
  (ha:a.rel P C u) (hb:b.rel P C v):
  ∃r,(do eqGuard op t x y u v;binOp op t u v).run P w=.ok r w/\c.val.rel P C r/\c.upd=[]:=by
 unfold Wx at h;split at h
 .rename_i k xv k' yv;split at h
  case isFalse=>cases h
  rename_i hk;subst hk;simp only[AV.rel,ah,qR,vP]at ha hb;subst ha hb;split at h
  .cases h;exact⟨.int k (k.wrap (xv+yv)),by simp[dG,jO.1,Op.intArith],rfl,rfl⟩
  .cases h;exact⟨.int k (k.wrap (xv-yv)),by simp[dG,jO.2.1,Op.intArith],rfl,rfl⟩
  .cases h;exact⟨.int k (k.wrap (xv*yv)),by simp[dG,jO.2.2,Op.intArith],rfl,rfl⟩
  .cases h
 .cases h
end Go.Eng
namespace Go.Eng
open Go.RowKit
def Ff(P:Program)(mt:Bool)(nx:Nat)(t:TypeId)(len:Nat)(idxs:List Nat)(vs:List RV): Option Core:=match cN P t,vs with
 | some e,[(.buf nm2 n2,some b2)]=>match I2 P e,Bo (.buf nm2 n2,some b2)with
  | some (.sl ty'),some ns=>if mt=true/\len=1/\idxs=[0]/\N2 P e=true then some {need:=ns,val:=.buf nx 1,upd:=[(nx,.buf e (.sl ty') [([]:List ty'.den)] [(0,.buf nm2 n2)])],new:=some nx} else none
  | _,_=>none
 | _,_=>none
theorem Ju{S:Base}{σ:Sig}{a:Act}{w:World}{D:Nat->Prop}{E:Nat->Ent}(h:aH S σ a w D E){mt:Bool}{nx len:Nat}{t:TypeId}{idxs:List Nat}{vs:List RV}{vals:Lv}{c:Core}
  (hb:∀v∈vs,v.2=ct σ.m v.1) (hc:Ff S.P mt nx t len idxs vs=some c) (hn:∀q∈c.need,q) (hr:AV.relL S.P ⟨w,D,σ.m,E⟩ (vs.map (·.1)) vals) (hu:∀k,c.new=some k->Unm k σ):
  ∃r w',(Instr.buildSlice t len (idxs.zip vals).toArray).run S.P w=.ok r w'/\Outcome S ⟨σ.T,upM σ.m c.upd,σ.sv⟩ a c.val r w':=by
 unfold Ff at hc;split at hc
 case h_2=>cases hc
 rename_i e nm2 n2 b2 he;split at hc
 case h_2=>cases hc
 rename_i ty' ns hty hone;split at hc
 case isFalse=>cases hc
 rename_i hcond;obtain⟨_,h2,h3,h4⟩:=hcond;cases hc;subst h2 h3;obtain⟨u,us0,rfl,hv,h0⟩:=hr;simp only[qCf,AV.relL]at h0;subst h0;have hbv:(some b2:Option Blk)=ct σ.m (.buf nm2 n2):=hb _ (wL);have hm2:σ.m nm2=some b2:=hbv.symm;obtain⟨us,g1,g2,g3⟩:=my (C:=⟨w,D,σ.m,E⟩) hbv hone hn hv;obtain⟨z,us',e1,z2,q2⟩:=g2;simp only[AV.relL]at q2;subst q2 e1;have z3:=g3 z (by simp);have hsz:=Ao hty
 have hrun:=Eg (w:=w) (ty:=.sl ty') (vals:=[u]) (uss:=[[z]]) he hsz h4 (by show 1*1<=16777216;omega) rfl (λi v us hv' hus=>by
  cases i with
  | zero=>cases hv';cases hus;exact⟨g1,rfl⟩
  | succ i=>simp at hv')
 have hnx:=(hu nx rfl);have hne:nm2≠nx:=λek=>by
  have:=hnx.1;rw[<- ek,hm2]at this;cases this
 refine⟨_,_,hrun,?_⟩;have hown:(w.alloc (.cells [[z]].flatten.toArray e)).ownsRow 0 e 1 (.slice (some ⟨w.heap.size,0,none⟩) 1 1) 1 [z]:=by
  have:=World.ownsRow_lit (base:=0) (e:=e) (size:=1) w [z].toArray 1 (wU _) (by unfold maxLen;omega) (by simp);simpa using this
 have e3:upE E nx (⟨w.heap.size,1,false,noR⟩:Ent) nx=⟨w.heap.size,1,false,noR⟩:=by simp[upE]
 refine⟨D,upE E nx ⟨w.heap.size,1,false,noR⟩,h.newBlk hnx (kB w _) (λ_=>⟨rfl,by rw[zO];omega⟩) ⟨[z],hown,?_⟩,λb hb'=>?_⟩
 .intro i y hy;cases i with
  | succ i=>simp at hy
  | zero=>
   simp only[List.lookup,yH];refine⟨rfl,z,rfl,z3,AV.rel_mono (C:=⟨w,D,σ.m,E⟩) (C':=⟨w.alloc (.cells [[z]].flatten.toArray e),D,upM σ.m [(nx,.buf e (.sl ty') [([]:List ty'.den)] [(0,.buf nm2 n2)])],upE E nx ⟨w.heap.size,1,false,noR⟩⟩) ⟨λb hb=>hb,λb hb=>yV w _ b (h.dlt b hb)⟩ (λk hk=>?_) z2⟩;have ek:k=nm2:=by simpa[AV.names]using hk
   subst ek;intro b' hb'';replace hb'':upM σ.m [(nx,.buf e (.sl ty') [([]:List ty'.den)] [(0,.buf k n2)])] k=some b':=hb'';rw[cO,if_neg hne]at hb'';exact⟨b',hb'',rfl,qJ _,λ_=>by show upE E nx _ k=E k;simp[upE,hne]⟩
 .replace hb':upM σ.m [(nx,.buf e (.sl ty') [([]:List ty'.den)] [(0,.buf nm2 n2)])] nx=some b:=hb';rw[cO,if_pos rfl]at hb';cases hb';refine⟨qJ _,λ_=>?_⟩;show _=(upE E nx _ nx).handle _;rw[e3];rfl
def Gz(P:Program)(t:TypeId)(s x:RV): Option Core:=match cN P t,s,x with
 | some e',(.buf nm n,some (.mat el eli e xss [])),(.buf _ 1,some (.buf el3 (.sl e2) [_] [(0,v)]))=>if el=e' then match rV P el (.sl e)with
  | some bytes=>some {need:=[Dj xss=n]++kA (Eb n 1) bytes,val:=.buf nm (Eb n 1),upd:=[(nm,.mat el eli e (Ef (α:=List e.den) xss [[]]) [(Dj xss,v)])]}
  | none=>none
  else none
 | _,_,_=>none
theorem Ky{S:Base}{σ:Sig}{a:Act}{w:World}{D:Nat->Prop}{E:Nat->Ent}(h:aH S σ a w D E){t oty:TypeId}{s x:RV}{c:Core}{vs vx:Value}
  (hbs:s.2=ct σ.m s.1) (hbx:x.2=ct σ.m x.1) (hc:Gz S.P t s x=some c) (hn:∀q∈c.need,q)
  (hs:s.1.rel S.P ⟨w,D,σ.m,E⟩ vs) (hx:x.1.rel S.P ⟨w,D,σ.m,E⟩ vx):
  c.new=none/\∃r w',(Builtin.append_ #[t,t] oty #[vs,vx]).run S.P w=.ok r w'/\Outcome S ⟨σ.T,upM σ.m c.upd,σ.sv⟩ a c.val r w':=by
 unfold Gz at hc;split at hc
 case h_2=>cases hc
 rename_i el' nm n el eli e xss nm3 el3 e2 r0 v he;split at hc
 case isFalse=>cases hc
 rename_i hel;subst hel;split at hc
 case h_2=>cases hc
 rename_i bytes hz;cases hc;have hue:=cq he;obtain⟨i,z,hi,hz1,hz2,hz3,hz4⟩:=ix hz;have hzs:z.cells.size=(Ty.sl e).sz:=by rw[<- vI,hz4,aW]
 have hm:σ.m nm=some (.mat el eli e xss []):=hbs.symm;have hm3:σ.m nm3=some (.buf el3 (.sl e2) [r0] [(0,v)]):=hbx.symm;have hlen:xss.length=n:=hn _ (by simp);have hb1:(n+1)*bytes<=140737488355328:=hn _ (by simp only[kA,qH];exact .inr (.head _));have hb2:n+1<=9223372036854775807:=hn _ (by simp only[kA,qH];exact .inr (.tail _ (.head _)));have hv:=(hs _ hm).2 hlen;have hvx:=(hx _ hm3).2 rfl
 obtain⟨hz0,raw,r1,r2⟩:=h.bl nm _ hm;rw[hlen]at r1;obtain⟨raw3,t1,t2⟩:=h.bl nm3 _ hm3;obtain⟨_,u,u1,u2,u3⟩:(Ty.sl e2).sz=1/\∃u,raw3[0]?=some u/\u.oneCell'=true/\v.rel S.P ⟨w,D,σ.m,E⟩ u:=by
  have:=t2 0 r0 rfl;simpa only[List.lookup,yH]using this
 have hl3:raw3.length=1:=t1.1;have hraw3:raw3=[u]:=by
  cases raw3 with
  | nil=>simp at hl3
  | cons y l=>
   cases l with
   | nil=>simp at u1;rw[u1]
   | cons y2 l=>simp at hl3
 subst hraw3;have hnil3:(E nm3).isNil=false:=by
  cases hq:(E nm3).isNil with
  | false=>rfl
  | true=>
   have e3:(E nm3).handle ([r0]:List (Ty.sl e2).den).length=.slice none 0 0:=by unfold Ent.handle;rw[hq];rfl
   rw[e3]at t1;rcases t1.2 with⟨_,hz⟩ | ⟨g,cap,cur,hq,_⟩
   .simp at hz
   .cases hq
 have e30:(E nm3).handle ([r0]:List (Ty.sl e2).den).length=.slice (some ⟨(E nm3).b,0,none⟩) 1 (E nm3).cap:=by unfold Ent.handle;rw[hnil3];rfl
 have hvx2:vx=.slice (some ⟨(E nm3).b,0,none⟩) 1 (E nm3).cap:=by
  have:vx=(E nm3).handle ([r0]:List (Ty.sl e2).den).length:=hvx;rw[this,e30]
 rw[e30]at t1;have n2:=t1.cells rfl;have n1:([u]:Lv).length=1*(Ty.sl e).sz:=rfl;have n3:∀q∈([u]:Lv),q.oneCell'=true:=λq hq=>by rw[vG.1 hq];exact u2
 subst hvx2;have fin:∀(w':World) (v':Value) (bb cc:Nat),v'=.slice (some ⟨bb,0,none⟩) (n+1) cc->w'.os=w.os->w'.tape=w.tape->w'.output=w.output->w.heap.size<=w'.heap.size->
   (∀k,k<w.heap.size->((E nm).isNil=false->k≠(E nm).b)->w'.heap[k]?=w.heap[k]?)->
   ((bb=w.heap.size/\w.heap.size<w'.heap.size)\/((E nm).isNil=false/\bb=(E nm).b))->w'.ownsRow 0 el 1 v' (n+1) (raw++[u])->
   Outcome S ⟨σ.T,upM σ.m [(nm,.mat el eli e (xss++[[]]) [(xss.length,v)])],σ.sv⟩ a (.buf nm (n+1)) v' w':=by
  intro w' v' bb cc hv' ho ht2 hout hsz hw hee hown;have hl2:(xss++[([]:List e.den)]).length=n+1:=by rw[qG,hlen];rfl
  have hle:(Blk.mat el eli e xss []).len<=(Blk.mat el eli e (xss++[[]]) [(xss.length,v)]).len:=by simp only[Blk.len,qG];omega
  have hsame:(Blk.mat el eli e xss []).len=(Blk.mat el eli e (xss++[[]]) [(xss.length,v)]).len->(⟨bb,cc,false,(E nm).rb⟩:Ent)=E nm:=λh0=>by
   simp only[Blk.len,qG,vX]at h0;omega
  obtain⟨L,N⟩:=h.turnLater (w':=w') (b:=.mat el eli e (xss++[[]]) [(xss.length,v)]) hm (e:=⟨bb,cc,false,(E nm).rb⟩) rfl hle hsame hw;refine⟨D,upE E nm ⟨bb,cc,false,(E nm).rb⟩,h.turnBlk hm (e:=⟨bb,cc,false,(E nm).rb⟩) rfl hle hsame ho ht2 hout hsz hw (λ_=>hee) ⟨hz0,raw++[u],by rw[hl2];rw[hv']at hown;exact hown,λk row hk=>?_⟩ (λj k hr=>?_),λb hb=>?_⟩
  .have hk1:k<xss.length+1:=by have:=(qF.1 hk).1;rw[qG]at this;exact this
   have hrl:raw.length=xss.length:=by have:=r1.1;rw[yI]at this;omega
   by_cases hke:k=xss.length
   .subst hke;refine⟨u,by rw[qW (by omega),hrl];simp,?_⟩;simp only[List.lookup,yH];exact⟨u2,AV.rel_mono L (λk _=>N k) u3⟩
   .have hklt:k<xss.length:=by omega
    rw[vJ hklt]at hk;obtain⟨y,g1,g2⟩:=r2 k row hk;simp only[List.lookup]at g2;have hkb:(k==xss.length)=false:=by simpa using hke
    refine⟨y,by rw[vJ (by omega)];exact g1,?_⟩;simp only[List.lookup,hkb];obtain⟨ao,cap,r3,k1,k0,k2⟩:=g2;refine⟨ao,cap,r3,k1,k0,λhpr=>?_⟩;obtain⟨k3,k4,k5⟩:=k2 hpr;have hat:b8 σ.m E nm k ((E nm).rb k).1:=⟨el,eli,e,xss,[],row,hm,rfl,hk,hpr,rfl⟩;refine⟨k3,fy (λg' n' c hh=>?_) k4,bj (C:=⟨w,D,σ.m,E⟩) L (λnm h=>by cases h) k5⟩;rw[k1,k3]at hh;simp at hh;rw[<- hh.1]
    exact hw _ (h.pv.own _ _ _ hat).2.1 λhi' ek=>h.pv.ent nm k _ hat nm _ hm hi' ek.symm
  .obtain⟨el2,eli2,t2',xs2,ov2,row2,hx2,s1,s2,s3,s4⟩:=hr;cases hx2;have hj:j≠xss.length:=λej=>by subst ej;simp[List.lookup]at s1
   have hjl:j<xss.length:=by
    have:=(qF.1 s2).1;rw[qG,vX]at this;omega
   rw[vJ hjl]at s2;exact⟨el,eli,e,xss,[],row2,rfl,rfl,s2,s3,s4⟩
  .replace hb:upM σ.m [(nm,.mat el eli e (xss++[[]]) [(xss.length,v)])] nm=some b:=hb;rw[cO,if_pos rfl]at hb;cases hb;refine⟨by simp only[Blk.len];omega,λ_=>?_⟩;have:upE E nm (⟨bb,cc,false,(E nm).rb⟩:Ent) nm=⟨bb,cc,false,(E nm).rb⟩:=by simp[upE]
   show v'=(upE E nm _ nm).handle _;rw[this,hv'];rfl
 have h63:n+1<=maxLen:=by unfold maxLen;omega
 refine⟨rfl,?_⟩;obtain⟨v',w',q1,q2,q3,_⟩:=qDr (P:=S.P) w 0 t oty el i z (Ty.sl e).sz bytes hue hi hz1 hz2 hz3 hzs (Ty.sz_pos _) _ n raw r1 ⟨(E nm3).b,0,none⟩ 1 (E nm3).cap [u] n1 n2 n3 h63 hb1 (wU _);cases hnil:(E nm).isNil with
 | true=>
  have e3:(E nm).handle n=.slice none 0 0:=by unfold Ent.handle;rw[hnil];rfl
  have hn0:n=0:=by
   rw[e3]at r1;rcases r1.2 with⟨_,hz⟩ | ⟨g,cap,cur,hq,_⟩
   .exact hz
   .cases hq
  subst hn0;have hr:=qDs (P:=S.P) w t oty el i z hue hi hz1 ⟨(E nm3).b,0,none⟩ 1 (E nm3).cap [u] (by rw[hz2];exact n1) n2 (by omega) (by omega) (by rw[hz3];rw[wY]at hb1;omega);rw[e3]at q1 q3;rw[hr]at q1;cases q1;refine⟨_,_,by rw[hv,e3];exact hr,fin _ _ _ _ rfl q3.os q3.tape q3.output q3.size
   (λk hk _=>q3.block k hk (by simp[Value.ownBlock])) (.inl ⟨rfl,by rw[zO];simp⟩) q2⟩
 | false=>
  have e3:(E nm).handle n=.slice (some ⟨(E nm).b,0,none⟩) n (E nm).cap:=by unfold Ent.handle;rw[hnil];rfl
  rw[e3]at r1 q1 q3;have hblk:∀k,k<w.heap.size->((E nm).isNil=false->k≠(E nm).b)->w'.heap[k]?=w.heap[k]?:=λk hk hne=>q3.block k hk (by simp[Value.ownBlock];exact hne hnil)
  by_cases hroom:n+1<=(E nm).cap
  .obtain⟨w2,p1,p2,p3⟩:=run_append_fits (P:=S.P) w 0 t oty el i (Ty.sl e).sz hue hi hz2 (E nm).b n (E nm).cap raw r1 ⟨(E nm3).b,0,none⟩ 1 (E nm3).cap [u] n1 n2 n3 hroom;rw[p1]at q1;cases q1;exact⟨_,_,by rw[hv,e3];exact p1,fin _ _ _ _ rfl q3.os q3.tape q3.output q3.size hblk (.inr ⟨hnil,rfl⟩) q2⟩
  .have hr:=run_append_grow (P:=S.P) w t oty el i z hue hi hz1 ⟨(E nm).b,0,none⟩ n (E nm).cap raw (by rw[hz2];exact r1.1) (r1.cells rfl) ⟨(E nm3).b,0,none⟩ 1 (E nm3).cap [u] (by rw[hz2];exact n1) n2 (by omega) (by omega)
    (growslice_fits (by omega) (by rw[hz3];exact hb1))
   rw[hr]at q1;cases q1;refine⟨_,_,by rw[hv,e3];exact hr,fin _ _ _ _ rfl q3.os q3.tape q3.output q3.size hblk
    (.inl ⟨rfl,by rw[zO];simp⟩) q2⟩
end Go.Eng
namespace Go.Eng
open Go.RowKit
def tR(P:Program)(t:TypeId): Option Bool:=match P.underlying t with
 | some (.interface _)=>some true
 | some _=>some false
 | none=>none
def NY(P:Program)(t:TypeId)(x:AV): Option Core:=match tR P t with
 | some false=>some {val:=.ifc t x}
 | _=>none
def Gy(P:Program)(asserted:TypeId)(ok:Bool)(x:AV): Option Core:=match tR P asserted,ok,x with
 | some false,true,.ifc t a=>if t=asserted then some {val:=.tup [a,.dat .bool true]} else none
 | _,_,_=>none
def Ui: Operand->Bool
 | .const _=>true
 | _=>false
def tW: AV->AV->Option Bool
 | .ifc _ _,.val u=>match u with | .nilIface=>some false | _=>none
 | .val u,.val v=>match u,v with | .nilIface,.nilIface=>some true | _,_=>none
 | _,_=>none
def Oy(P:Program)(op:BinOp)(t:TypeId)(y:Operand)(a b:AV): Option Core:=match tR P t,Ui y,tW a b with
 | some true,true,some r=>match op with
  | .eql=>some {val:=.dat .bool r}
  | .neq=>some {val:=.dat .bool (Di r)}
  | _=>none
 | _,_,_=>none
theorem qD{P:Program}{t:TypeId}(h:tR P t=some false): ∃d,P.underlying t=some d/\∀ms,d≠.interface ms:=by
 unfold tR at h;cases hu:P.underlying t with
 | none=>rw[hu]at h;cases h
 | some d=>
  rw[hu]at h;exact⟨d,rfl,λms e=>by subst e;cases h⟩
theorem FI{P:Program}{t:TypeId}(h:tR P t=some true): ∃ms,P.underlying t=some (.interface ms):=by
 unfold tR at h;split at h
 .rename_i ms hu;exact⟨ms,hu⟩
 .cases h
 .cases h
theorem NW{P:Program}{C:Ctx}{w:World}{t:TypeId}{x:AV}{c:Core}{v:Value}(h:NY P t x=some c)(hx:x.rel P C v):
  ∃r,(Instr.makeInterface t v).run P w=.ok r w/\c.val.rel P C r/\c.upd=[]/\c.new=none:=by
 unfold NY at h;split at h
 .rename_i ht;cases h;obtain⟨d,hu,hd⟩:=qD ht;refine⟨.iface t v,?_,⟨v,rfl,hx⟩,rfl,rfl⟩;unfold Instr.makeInterface;rw[wB,vF hu];simp only[vS];cases d<;>first | exact(hd _ rfl).elim | rfl
 .cases h
theorem Kw{P:Program}{C:Ctx}{w:World}{xt t:TypeId}{ok:Bool}{x:AV}{c:Core}{v:Value}(h:Gy P t ok x=some c)(hx:x.rel P C v):
  ∃r,(Instr.typeAssert v xt t ok).run P w=.ok r w/\c.val.rel P C r/\c.upd=[]/\c.new=none:=by
 unfold Gy at h;split at h
 .rename_i t' a ht;split at h
  .rename_i e;subst e;cases h;obtain⟨d,hu,hd⟩:=qD ht;obtain⟨u,rfl,hx⟩:=hx;refine⟨.tuple #[u,.bool true],?_,⟨[u,.bool true],rfl,_,_,rfl,hx,_,_,rfl,rfl,rfl⟩,rfl,rfl⟩;unfold Instr.typeAssert;rw[wB,vF hu];simp only[vS];cases d<;>first | exact(hd _ rfl).elim | simp
  .cases h
 .cases h
theorem sy{P:Program}{t:TypeId}{ms:Array (String×TypeId)}{a b:AV}{C:Ctx}{u v:Value}{r:Bool}(hu:P.underlying t=some (.interface ms))(h:tW a b=some r)(ha:a.rel P C u)(hb:b.rel P C v)(w:World)(d:Nat):
  (Op.equalIn (d+1) t u v).run P w=.ok r w:=by
 unfold tW at h;split at h
 .split at h
  .cases h;obtain⟨x,rfl,_⟩:=ha;have hb:v=.nilIface:=hb;subst hb;simp[Op.equalIn,vF hu]
  .cases h
 .split at h
  .cases h;have ha:u=.nilIface:=ha;have hb:v=.nilIface:=hb;subst ha hb;simp[Op.equalIn,vF hu]
  .cases h
 .cases h
theorem FP{P:Program}{a b:AV}{C:Ctx}{u v:Value}{r:Bool}(h:tW a b=some r)(ha:a.rel P C u)(hb:b.rel P C v): v=.nilIface/\((∃t x,u=.iface t x)\/u=.nilIface):=by
 unfold tW at h;split at h
 .split at h
  .obtain⟨x,rfl,_⟩:=ha;exact⟨hb,.inl ⟨_,_,rfl⟩⟩
  .cases h
 .split at h
  .exact⟨hb,.inr ha⟩
  .cases h
 .cases h
theorem Ox{P:Program}{C:Ctx}{w:World}{op:BinOp}{t:TypeId}{x y:Operand}{a b:AV}{u v:Value}{c:Core}(h:Oy P op t y a b=some c)
  (ha:a.rel P C u) (hb:b.rel P C v):∃r,(do eqGuard op t x y u v;binOp op t u v:Sem Value).run P w=.ok r w/\c.val.rel P C r/\c.upd=[]/\c.new=none:=by
 unfold Oy at h;split at h
 case h_2=>cases h
 rename_i r ht hy hr;obtain⟨ms,hu⟩:=FI ht;have hq:=sy hu hr ha hb w 9999;obtain⟨hv,huv⟩:=FP hr ha hb;have hg:∀op,(eqGuard op t x y u v).run P w=.ok () w:=by
  intro op;obtain⟨cv,rfl⟩:∃cv,y=.const cv:=by
   cases y<;>first | exact⟨_,rfl⟩ | cases hy
  subst hv;unfold eqGuard;rcases huv with⟨t1,x1,rfl⟩ | rfl
  .cases op<;>simp
  .cases op<;>simp
 split at h
 .cases h;refine⟨.bool r,?_,rfl,rfl,rfl⟩;rw[wB,hg,vS];subst hv;rcases huv with⟨t1,x1,rfl⟩ | rfl
  .simp[binOp,Op.equal,Op.maxDepth,hq]
  .simp[binOp,Op.equal,Op.maxDepth,hq]
 .cases h;refine⟨.bool (!r),?_,rfl,rfl,rfl⟩;rw[wB,hg,vS];subst hv;rcases huv with⟨t1,x1,rfl⟩ | rfl
  .simp[binOp,Op.equal,Op.maxDepth,hq]
  .simp[binOp,Op.equal,Op.maxDepth,hq]
 .cases h
end Go.Eng
namespace Go.Eng
open Go.RowKit
abbrev Mem:=List (Nat×Blk)
structure jP where
 pre:Prop
 ret:AV
 upd:Mem:=[]
abbrev Kt:=FuncId->List AV->Mem->Option jP
def noM: Nat->Option Blk:=λ_=>none
def noE: Nat->Ent:=λ_=>⟨0,0,true,noR⟩
def bH(m:Mem): Nat->Option Blk:=λnm=>m.lookup nm
structure Held (P:Program) (w:World) (D:Nat->Prop) (m:Nat->Option Blk) (E:Nat->Ent):Prop where
 bl:∀nm b,m nm=some b->dE P 0 ⟨w,D,m,E⟩ (E nm) b
 own:∀nm b,m nm=some b->(E nm).isNil=false->(E nm).b<w.heap.size/\¬D (E nm).b
 inj:∀nm nm' b b',m nm=some b->m nm'=some b'->(E nm).isNil=false->(E nm').isNil=false->(E nm).b=(E nm').b->nm=nm'
 pv:fb 0 (λ_=>True) m E w.heap.size D
theorem fb.nil {lo n:Nat} {O D:Nat->Prop} {m:Nat->Option Blk} {E:Nat->Ent} (h:∀nm i b,b8 m E nm i b->False):fb lo O m E n D:=
 ⟨λnm i b g=>(h nm i b g).elim,λnm i b g=>(h nm i b g).elim,λnm i b _ _ g=>(h nm i b g).elim⟩
theorem jY{E:Nat->Ent}{nm i b:Nat}(h:b8 (λ_=>none) E nm i b): False:=by
 obtain⟨_,_,_,_,_,_,h,_⟩:=h;cases h
theorem Held.none (P:Program) (w:World) (D:Nat->Prop) (E:Nat->Ent):Held P w D (bH []) E:=
 ⟨λ_ _ h=>(by cases h),λ_ _ h=>(by cases h),λ_ _ _ _ h=>(by cases h),fb.nil λ_ _ _ h=>jY h⟩
def bn(m:Nat->Option Blk)(E:Nat->Ent): Nat->Prop:=λb=>∃nm blk,m nm=some blk/\(E nm).isNil=false/\b=(E nm).b
structure Left (P:Program) (m:Nat->Option Blk) (upd:Mem) (w:World) (D:Nat->Prop) (E:Nat->Ent) (w':World) (D':Nat->Prop) (E':Nat->Ent):Prop where
 chg:Chg (bn m E) w w'
 dlo:∀b,D b->D' b
 dhi:∀b,D' b->D b\/w.heap.size<=b\/bn m E b
 dlt:∀b,D' b->b<w'.heap.size
 held:Held P w' D' (upM m upd) E'
 agree:∀nm b b',m nm=some b->upM m upd nm=some b'->b'.len=b.len->E' nm=E nm
 moved:∀nm b b',m nm=some b->upM m upd nm=some b'->(E' nm).isNil=false->bn m E (E' nm).b\/w.heap.size<=(E' nm).b
 fresh:∀nm b,m nm=none->upM m upd nm=some b->(E' nm).isNil=false->w.heap.size<=(E' nm).b
 priv:∀nm i b,b8 (upM m upd) E' nm i b->b8 m E nm i b\/w.heap.size<=b
def af(P:Program)(G:List (Nat×AV))(f:FuncId)(args:List AV)(m:Mem)(c:jP): Prop:=
 c.pre->∀(w:World) (D:Nat->Prop) (E:Nat->Ent) (us:Lv),(∀b,D b->b<w.heap.size)->jX P ⟨w,D,bH m,E⟩ G->AV.relL P ⟨w,D,bH m,E⟩ args us->Held P w D (bH m) E->
  Calls P f us.toArray w λe w'=>∃v D' E',e=.returned v/\Left P (bH m) c.upd w D E w' D' E'/\c.ret.rel P ⟨w',D',upM (bH m) c.upd,E'⟩ v
def ak(P:Program)(G:List (Nat×AV))(K:Kt): Prop:=∀f args m c,K f args m=some c->af P G f args m c
structure w8 where
 pre:Prop
 ok:Bool
 pan:Value
abbrev KPt:=FuncId->List AV->Mem->Option w8
def chainOf(v:Value): List PanicEntry:=[{v:=v,recovered:=false}]
def da(P:Program)(G:List (Nat×AV))(f:FuncId)(args:List AV)(m:Mem)(r:w8): Prop:=
 r.pre->r.ok=false->∀(w:World) (D:Nat->Prop) (E:Nat->Ent) (us:Lv),(∀b,D b->b<w.heap.size)->jX P ⟨w,D,bH m,E⟩ G->AV.relL P ⟨w,D,bH m,E⟩ args us->Held P w D (bH m) E->
  Calls P f us.toArray w λe w'=>e=.panicked (chainOf r.pan)/\Chg (bn (bH m) E) w w'
def bO(P:Program)(G:List (Nat×AV))(KP:KPt): Prop:=∀f args m r,KP f args m=some r->da P G f args m r
def TL(P:Program)(t:TypeId)(a:AV): AV:=match a with
 | .val (.slice none 0 0)=>match I2 P t with
  | some (.sl e)=>.dat (.sl e) []
  | _=>a
 | .agg cs=>match I2 P t with
  | some ty=>match cF ty cs with
   | some (x,[])=>.agg (cellsOf ty x)
   | _=>a
  | none=>a
 | _=>a
def uM(P:Program): List TypeId->List AV->List AV
 | t::ts,a::as=>TL P t a::uM P ts as
 | _,as=>as
theorem NM{P:Program}{C:Ctx}{t:TypeId}{a:AV}{v:Value}(h:a.rel P C v): (TL P t a).rel P C v:=by
 unfold TL;split
 .split
  .simp only[AV.rel]at h;subst h;exact bm _ _ _
  .exact h
 .split
  .split
   .rename_i x hx;obtain⟨us,e,g⟩:=h;obtain⟨u1,u2,e2,g1,g2⟩:=cm hx g;have g2':u2=[]:=g2;subst g2' e2;exact⟨u1++[],e,by rw[wH];exact b7 g1⟩
   .exact h
  .exact h
 .exact h
theorem ti{P:Program}{C:Ctx}: ∀{ts:List TypeId} {as:List AV} {us:Lv},AV.relL P C as us->AV.relL P C (uM P ts as) us
 | [],_,_,h=>h
 | _::_,[],_,h=>h
 | t::ts,a::as,us,h=>by
  obtain⟨u,us',e,g1,g2⟩:=h;exact⟨u,us',e,NM g1,ti g2⟩
def jZ(P:Program)(f:FuncId): List TypeId:=match P.funcs[f]? with
 | some fn=>fn.params.toList
 | none=>[]
def aBU: AV->Bool
 | .val (.slice none 0 0)=>true
 | _=>false
def fJ(P:Program)(K:Kt)(f:FuncId)(args caps:List AV): List AV:=
 if(args.any aBU&&(K f (args++caps) []).isSome)=true then args else uM P (jZ P f) args
theorem By{P:Program}{K:Kt}{f:FuncId}{caps:List AV}{C:Ctx}{as:List AV}{us:Lv}(h:AV.relL P C as us): AV.relL P C (fJ P K f as caps) us:=by
 unfold fJ;split
 .exact h
 .exact ti h
def nameless(a:AV): Bool:=a.names.isEmpty
def dK(m:Nat->Option Blk): List Nat->Mem
 | []=>[]
 | nm::r=>match m nm with
  | some b=>(nm,b)::dK m r
  | none=>dK m r
theorem dJ(m:Nat->Option Blk)(k:Nat): ∀l:List Nat,(dK m l).lookup k=if k∈l then m k else none
 | []=>rfl
 | nm::r=>by
  simp only[dK];split
  .rename_i b hb;simp only[List.lookup];by_cases e:k=nm
   .subst e;simp[hb]
   .have:(k==nm)=false:=by simpa using e
    simp only[this,dJ m k r,zJ,e,false_or]
  .rename_i hb;rw[dJ m k r];by_cases e:k=nm
   .subst e;simp[hb]
   .simp[e]
def lO(ns:List Nat)(b:Blk): Bool:=b.names.all λk=>ns.contains k
def Uo(n:Nat)(b:Blk): Prop:=match b with
 | .buf _ _ _ _=>Dy n b.len
 | _=>n=b.len
theorem HU{n:Nat}{b:Blk}(h:Uo n b): n<=b.len:=by
 unfold Uo at h;split at h
 .exact h
 .exact zV h
def grow(b0 b:Blk): Prop:=Uo b0.len b
theorem Y0{b0 b:Blk}(h:grow b0 b): b0.len<=b.len:=HU h
def RG(m:Nat->Option Blk)(ns:List Nat): Mem->Option (List Prop)
 | []=>some []
 | (k,b)::r=>match m k,RG m ns r with
  | some b0,some q=>if ns.contains k&&lO ns b&&decide (b0.es=b.es)then some (grow b0 b::q)else none
  | _,_=>none
def OE: Mem->Mem->Option (Nat×Blk)
 | [],[(k,b)]=>if b.names.isEmpty then some (k,b)else none
 | _,_=>none
def cz(m:Nat->Option Blk)(l:List Nat): List Nat:=l++l.flatMap λk=>match m k with | some b=>b.names | none=>[]
theorem dc{m:Nat->Option Blk}{l:List Nat}{k:Nat}(h:k∈l): k∈cz m l:=qH.2 (.inl h)
theorem oY{m:Nat->Option Blk}{l:List Nat}{k:Nat}(h:k∈cz m l): k∈l\/∃j∈l,∃b,m j=some b/\k∈b.names:=by
 rcases qH.1 h with h | h
 .exact .inl h
 .obtain⟨j,hj,hk⟩:=yJ.1 h;split at hk
  .rename_i b hb;exact .inr ⟨j,hj,b,hb,hk⟩
  .cases hk
theorem rQ{m:Nat->Option Blk}{l:List Nat}{j k:Nat}{b:Blk}(hj:j∈l)(hb:m j=some b)(hk:k∈b.names): k∈cz m l:=
 qH.2 (.inr (yJ.2 ⟨j,hj,by rw[hb];exact hk⟩))
theorem oW{m:Nat->Option Blk}{l l':List Nat}(h:∀k∈l,k∈l'){k:Nat}(hk:k∈cz m l): k∈cz m l':=by
 rcases oY hk with g | ⟨j,hj,b,hb,hkb⟩
 .exact dc (h k g)
 .exact rQ (h j hj) hb hkb
theorem uo{m m':Nat->Option Blk}{l:List Nat}(h:∀k∈l,m' k=m k): cz m' l=cz m l:=by
 unfold cz
 congr 1
 simp only[List.flatMap_def]
 congr 1
 exact zY λk hk=>by rw[h k hk]
def uT(P:Program)(K:Kt)(nx:Nat)(m:Nat->Option Blk)(callee:AV)(args:List AV): Option Core:=
 match callee,args with
 | .fn f caps,args=>if goes P f then
   if(cz m (AV.namesL (fJ P K f args caps++caps))).all (λk=>match m k with | some b=>lO (cz m (AV.namesL (fJ P K f args caps++caps))) b | none=>true)then
   match K f (fJ P K f args caps++caps) (dK m (cz m (AV.namesL (fJ P K f args caps++caps))))with
   | some c=>match OE (dK m (cz m (AV.namesL (fJ P K f args caps++caps)))) c.upd with
    | some (k0,b0)=>if c.ret.names.all (λk=>k==k0)then some {need:=[c.pre],val:=YD nx c.ret,upd:=[(nx,b0)],new:=some nx} else none
    | none=>match RG m (cz m (AV.namesL (fJ P K f args caps++caps))) c.upd with
     | some q=>if c.ret.names.all (λk=>(cz m (AV.namesL (fJ P K f args caps++caps))).contains k)then some {need:=c.pre::q,val:=c.ret,upd:=c.upd} else none
     | none=>none
   | none=>none
   else none
  else none
 | .clo1 a r pre g,[x]=>match x.as a with
  | some x=>some {need:=[pre x],val:=.dat r (g x)}
  | none=>none
 | .clo2 a b r pre g,[x,y]=>match x.as a,y.as b with
  | some x,some y=>some {need:=[pre x y],val:=.dat r (g x y)}
  | _,_=>none
 | _,_=>none
theorem jG{P:Program}{f:FuncId}(h:goes P f=true)(w:World)(args:Array Value): (callFunc f args).run P w=.ok (.enter f args) w:=by
 unfold goes at h;split at h
 .rename_i fn hf;simp only[qC,qCz,ne_eq]at h;have h1:fn.body.isNone=false:=by cases hb:fn.body<;>simp_all
  have h2:(fn.name == "runtime.NumGoroutine")=false:=by simpa using h.2
  simp only[callFunc,wB,run_program,vS,hf,h2,h1];rfl
 .cases h
theorem qx{P:Program}{C C':Ctx}{a:AV}{v:Value}(hn:nameless a=true)(L:Later C C')(h:a.rel P C v): a.rel P C' v:=
 AV.rel_mono L (λnm hnm=>by
  unfold nameless at hn;rw[wO]at hn;rw[hn]at hnm;cases hnm) h
theorem db(m:Nat->Option Blk)(u:Mem)(k:Nat): upM m u k=match u.lookup k with | some b=>some b | none=>m k:=rfl
theorem pw{m:Nat->Option Blk}{ns:List Nat}: ∀{u:Mem} {q:List Prop},RG m ns u=some q->(∀p∈q,p)->∀(k:Nat) (b:Blk),u.lookup k=some b->
  ∃b0,m k=some b0/\k∈ns/\b0.es=b.es/\b0.len<=b.len/\∀x∈b.names,x∈ns
 | [],_,_,_,k,b,hk=>by simp at hk
 | (k',b')::r,q,h,hq,k,b,hk=>by
  simp only[RG]at h;split at h
  case h_2=>cases h
  rename_i b0 q' hm hr;split at h
  case isFalse=>cases h
  rename_i hc;cases h;simp only[qC,qE]at hc;simp only[List.lookup]at hk;split at hk
  .rename_i e;cases hk;have e:k=k':=by simpa using e
   subst e;refine⟨b0,hm,by simpa using hc.1.1,hc.2,Y0 (hq _ (by simp)),λx hx=>?_⟩;have:=hc.1.2;unfold lO at this;rw[qM]at this;simpa using this x hx
  .exact pw hr (λp hp=>hq p (by simp[hp])) k b hk
theorem aH.called {S:Base} {σ:Sig} {a:Act} {w w':World} {D D':Nat->Prop} {E E':Nat->Ent} (h:aH S σ a w D E) {ns:List Nat} {upd:Mem} {q:List Prop}
  (hns:∀k∈ns,∀b,σ.m k=some b->∀x∈b.names,x∈ns) (hu:RG σ.m ns upd=some q) (hq:∀p∈q,p) (hl:Left S.P (bH (dK σ.m ns)) upd w D E w' D' E'):
  aH S ⟨σ.T,upM σ.m upd,σ.sv⟩ a w' D' (λk=>if k∈ns then E' k else E k)/\Later ⟨w,D,σ.m,E⟩ ⟨w',D',upM σ.m upd,λk=>if k∈ns then E' k else E k⟩:=by
 obtain⟨E2,hE2⟩:∃E2:Nat->Ent,E2=λk=>if k∈ns then E' k else E k:=⟨_,rfl⟩
 have e2i:∀k,k∈ns->E2 k=E' k:=λk hk=>by rw[hE2];exact if_pos hk
 have e2o:∀k,k∉ns->E2 k=E k:=λk hk=>by rw[hE2];exact if_neg hk
 rw[<- hE2];have mem:∀k,bH (dK σ.m ns) k=if k∈ns then σ.m k else none:=λk=>dJ σ.m k ns
 have up:∀k b,upM σ.m upd k=some b->(∃b0,σ.m k=some b0/\b0.es=b.es/\b0.len<=b.len):=λk b hk=>by
  rw[db]at hk;split at hk
  .rename_i b1 h1;cases hk;obtain⟨b0,g1,_,g2,g3,_⟩:=pw hu hq k _ h1;exact⟨b0,g1,g2,g3⟩
  .exact⟨b,hk,rfl,qJ _⟩
 have same:∀k,k∈ns->upM (bH (dK σ.m ns)) upd k=upM σ.m upd k:=λk hk=>by
  rw[db,db];split
  .rfl
  .rw[mem,if_pos hk]
 have names:∀k b,k∈ns->upM σ.m upd k=some b->∀x∈b.names,x∈ns:=λk b hk hb=>by
  rw[db]at hb;split at hb
  .rename_i b1 h1;cases hb;obtain⟨_,_,_,_,_,g⟩:=pw hu hq k _ h1;exact g
  .exact hns k hk b hb
 have keep:∀k,k<w.heap.size->¬bn (bH (dK σ.m ns)) E k->w'.heap[k]?=w.heap[k]?:=λk hk hno=>hl.chg.block k hk hno
 have blk:∀k,bn (bH (dK σ.m ns)) E k->∃nm b,σ.m nm=some b/\nm∈ns/\(E nm).isNil=false/\k=(E nm).b:=by
  rintro k ⟨nm,b,g1,g2,g3⟩;rw[mem]at g1;split at g1
  .rename_i hn;exact⟨nm,b,g1,hn,g2,g3⟩
  .cases g1
 have L:Later ⟨w,D,σ.m,E⟩ ⟨w',D',upM σ.m upd,E2⟩:=⟨hl.dlo,λb hb=>keep b (h.dlt b hb) λhx=>by
  obtain⟨nm,bb,g1,_,g2,g3⟩:=blk b hx;exact(h.own nm bb g1 g2).2.2 (g3▸hb)⟩
 have rowKeep:∀nm b i k,σ.m nm=some b->rowsOf (E nm) b i k->w'.heap[k]?=w.heap[k]?:=λnm b i k hm hr=>keep k (h.pv.lt hm hr) λhx=>by
  obtain⟨nm2,b2,g1,_,g3,g4⟩:=blk _ hx;exact h.pv.ent nm i k (aI.2 ⟨b,hm,hr⟩) nm2 b2 g1 g3 g4.symm
 have hml:∀nm b,nm∈ns->σ.m nm=some b->bH (dK σ.m ns) nm=some b:=λnm b hn hb=>by rw[mem,if_pos hn];exact hb
 have mov:∀nm b,nm∈ns->upM σ.m upd nm=some b->(E' nm).isNil=false->(∃nm2 b2,σ.m nm2=some b2/\nm2∈ns/\(E nm2).isNil=false/\(E' nm).b=(E nm2).b)\/w.heap.size<=(E' nm).b:=λnm b hn hb hi=>by
  obtain⟨b0,g0,_⟩:=up nm b hb;rcases hl.moved nm b0 b (hml nm b0 hn g0) (by rw[same nm hn];exact hb) hi with g | g
  .exact .inl (blk _ g)
  .exact .inr g
 have prv:∀nm i k,b8 (upM σ.m upd) E2 nm i k->b8 σ.m E nm i k\/(nm∈ns/\w.heap.size<=k/\b8 (upM (bH (dK σ.m ns)) upd) E' nm i k):=λnm i k hk=>by
  obtain⟨bb,g1,g2⟩:=aI.1 hk;by_cases hn:nm∈ns
  .rw[e2i nm hn]at g2;have hp:b8 (upM (bH (dK σ.m ns)) upd) E' nm i k:=aI.2 ⟨bb,by rw[same nm hn];exact g1,g2⟩;rcases hl.priv nm i k hp with g | g
   .left
    obtain⟨b2,q1,q2⟩:=aI.1 g;rw[mem,if_pos hn]at q1;exact aI.2 ⟨b2,q1,q2⟩
   .exact .inr ⟨hn,g,hp⟩
  .rw[e2o nm hn]at g2
   left
   have hlk:upd.lookup nm=none:=by
    cases hx:upd.lookup nm with
    | none=>rfl
    | some b1=>
     obtain⟨_,_,g,_⟩:=pw hu hq nm b1 hx;exact(hn g).elim
   rw[db,hlk]at g1;exact aI.2 ⟨bb,g1,g2⟩
 have pvNew:fb S.w0.heap.size S.O (upM σ.m upd) E2 w'.heap.size D':=by
  refine⟨λnm i k hk=>?_,λnm i k hk nm' b' hb' hi e=>?_,λnm i k nm' j h1 h2=>?_⟩
  .rcases prv nm i k hk with g | ⟨_,g1,g2⟩
   .obtain⟨q1,q2,q3⟩:=h.pv.own nm i k g;refine⟨q1,qN q2 hl.chg.size,λhd=>?_⟩;rcases hl.dhi _ hd with r | r | r
    .exact q3 r
    .omega
    .obtain⟨nm2,b2,r1,_,r3,r4⟩:=blk _ r;exact h.pv.ent nm i k g nm2 b2 r1 r3 r4.symm
   .obtain⟨_,q2,q3⟩:=hl.held.pv.own nm i k g2;exact⟨.inl (wE h.low.size g1),q2,q3⟩
  .obtain⟨b0,g0,_⟩:=up nm' b' hb';by_cases hn':nm'∈ns
   .rw[e2i nm' hn']at hi e;rcases prv nm i k hk with g | ⟨_,g1,g2⟩
    .rcases mov nm' b' hn' hb' hi with⟨nm2,b2,q1,_,q3,q4⟩ | q
     .exact h.pv.ent nm i k g nm2 b2 q1 q3 (q4.symm.trans e)
     .have:=(h.pv.own nm i k g).2.1;omega
    .exact hl.held.pv.ent nm i k g2 nm' b' (by rw[same nm' hn'];exact hb') hi e
   .rw[e2o nm' hn']at hi e;have hlt:=(h.own nm' b0 g0 hi).2.1;rcases prv nm i k hk with g | ⟨_,g1,_⟩
    .exact h.pv.ent nm i k g nm' b0 g0 hi e
    .omega
  .rcases prv nm i k h1 with g | ⟨_,g1,g2⟩<;>rcases prv nm' j k h2 with q | ⟨_,q1,q2⟩
   .exact h.pv.inj nm i k nm' j g q
   .have:=(h.pv.own nm i k g).2.1;omega
   .have:=(h.pv.own nm' j k q).2.1;omega
   .exact hl.held.pv.inj nm i k nm' j g2 q2
 refine⟨h.go (m':=upM σ.m upd) L (λk=>.inl λb' hb'=>?_) (λnm b hm=>?_) (λnm b hm hi=>?_) (λnm nm' b b' hb hb' hi hi' e=>?_)
  (h.low.step hl.chg.os hl.chg.tape hl.chg.output hl.chg.size λk hk hno=>keep k (qN hk h.low.size) λhx=>?_) hl.dlt (λb hb=>?_) pvNew,L⟩
 .obtain⟨b0,g1,g2,g3⟩:=up k b' hb';refine⟨b0,g1,g2,g3,λhe=>?_⟩;show E2 k=E k;by_cases hn:k∈ns
  .rw[e2i k hn];exact hl.agree k b0 b' (hml k b0 hn g1) (by rw[same k hn];exact hb') he.symm
  .exact e2o k hn
 .by_cases hn:nm∈ns
  .right
   have:=hl.held.bl nm b (by rw[same nm hn];exact hm);rw[e2i nm hn];refine dE.mono (C:=⟨w',D',upM (bH (dK σ.m ns)) upd,E'⟩) (C':=⟨w',D',upM σ.m upd,E2⟩) ⟨λ_ g=>g,λ_ _=>rfl⟩ (λx hx b' hb'=>?_) (λ_=>rfl) (λ_ _ _=>rfl) this;exact⟨b',(by show upM (bH (dK σ.m ns)) upd x=some b';rw[same x (names nm b hn hm x hx)];exact hb'),rfl,qJ _,λ_=>e2i x (names nm b hn hm x hx)⟩
  .left
   have hlk:upd.lookup nm=none:=by
    cases hx:upd.lookup nm with
    | none=>rfl
    | some b1=>
     obtain⟨_,_,g,_⟩:=pw hu hq nm b1 hx;exact(hn g).elim
   have hm2:σ.m nm=some b:=by rw[db,hlk]at hm;exact hm
   refine⟨hm2,e2o nm hn,λhi=>keep _ (h.own nm b hm2 hi).2.1 λhx=>?_,λi k hr=>rowKeep nm b i k hm2 hr⟩;obtain⟨nm2,b2,g1,g2,g3,g4⟩:=blk _ hx;have:=h.inj nm nm2 b b2 hm2 g1 hi g3 g4;subst this;exact hn g2
 .obtain⟨b0,g1,_⟩:=up nm b hm;by_cases hn:nm∈ns
  .rw[e2i nm hn]at hi ⊢;obtain⟨q1,q2⟩:=hl.held.own nm b (by rw[same nm hn];exact hm) hi;refine⟨?_,q1,q2⟩;rcases mov nm b hn hm hi with⟨nm2,b2,r1,_,r3,r4⟩ | r
   .rw[r4];exact(h.own nm2 b2 r1 r3).1
   .exact .inl (wE h.low.size r)
  .rw[e2o nm hn]at hi ⊢;obtain⟨g2,g3,g4⟩:=h.own nm b0 g1 hi;refine⟨g2,qN g3 hl.chg.size,λhd=>?_⟩;rcases hl.dhi _ hd with g | g | g
   .exact g4 g
   .exact yS _ (qN g3 g)
   .obtain⟨nm2,b2,r1,r2,r3,r4⟩:=blk _ g;have:=h.inj nm nm2 b0 b2 g1 r1 hi r3 r4;subst this;exact hn r2
 .obtain⟨b0,g1,_⟩:=up nm b hb;obtain⟨b1,g2,_⟩:=up nm' b' hb';have mix:∀x y bx b1,x∈ns->y∉ns->upM σ.m upd x=some bx->σ.m y=some b1->(E' x).isNil=false->(E y).isNil=false->(E' x).b=(E y).b->False:=λx y bx b1 hx hy hbx hy1 hix hiy e=>by
   rcases mov x bx hx hbx hix with⟨nm2,b2,r1,r2,r3,r4⟩ | r
   .have:=h.inj nm2 y b2 b1 r1 hy1 r3 hiy (r4.symm.trans e);subst this;exact hy r2
   .have:=(h.own y b1 hy1 hiy).2.1;omega
  by_cases hn:nm∈ns<;>by_cases hn':nm'∈ns
  .rw[e2i nm hn]at hi e;rw[e2i nm' hn']at hi' e;exact hl.held.inj nm nm' b b' (by rw[same nm hn];exact hb) (by rw[same nm' hn'];exact hb') hi hi' e
  .rw[e2i nm hn]at hi e;rw[e2o nm' hn']at hi' e;exact(mix nm nm' b b1 hn hn' hb g2 hi hi' e).elim
  .rw[e2o nm hn]at hi e;rw[e2i nm' hn']at hi' e;exact(mix nm' nm b' b0 hn' hn hb' g1 hi' hi e.symm).elim
  .rw[e2o nm hn]at hi e;rw[e2o nm' hn']at hi' e;exact h.inj nm nm' b0 b1 g1 g2 hi hi' e
 .obtain⟨nm,bb,g1,_,g2,g3⟩:=blk k hx;rcases(h.own nm bb g1 g2).1 with g | g
  .rw[<- g3]at g;omega
  .exact hno (g3▸g)
 .rcases hl.dhi b hb with g | g | g
  .exact .inl g
  .exact .inr (.inl (wE h.low.size g))
  .obtain⟨nm2,b2,r1,_,r3,r4⟩:=blk _ g;rw[r4];exact .inr ((h.own nm2 b2 r1 r3).1)
theorem aH.calledNew {S:Base} {σ:Sig} {a:Act} {w w':World} {D D':Nat->Prop} {E E':Nat->Ent} (h:aH S σ a w D E) {nx k0:Nat} {b0:Blk} (hu:Unm nx σ) (hb0:b0.names=[]) (hl:Left S.P (bH []) [(k0,b0)] w D E w' D' E'):
  aH S ⟨σ.T,upM σ.m [(nx,b0)],σ.sv⟩ a w' D' (upE E nx (E' k0)):=by
 have hk0:upM (bH []) [(k0,b0)] k0=some b0:=by rw[cO,if_pos rfl]
 have keep:∀k,k<w.heap.size->w'.heap[k]?=w.heap[k]?:=λk hk=>hl.chg.block k hk λ⟨nm,blk,g,_⟩=>(by cases g)
 have e1:upE E nx (E' k0) nx=E' k0:=by simp[upE]
 have e2:∀k,k≠nx->upE E nx (E' k0) k=E k:=λk hk=>by simp[upE,hk]
 have m2:∀k b,k≠nx->upM σ.m [(nx,b0)] k=some b->σ.m k=some b:=λk b hk hb=>by rw[cO,if_neg hk]at hb;exact hb
 have m1:∀b,upM σ.m [(nx,b0)] nx=some b->b=b0:=λb hb=>by rw[cO,if_pos rfl]at hb;exact(wS hb).symm
 have fr:(E' k0).isNil=false->w.heap.size<=(E' k0).b:=hl.fresh k0 b0 rfl hk0;have prv:∀nm i k,b8 (upM σ.m [(nx,b0)]) (upE E nx (E' k0)) nm i k->(nm≠nx/\b8 σ.m E nm i k)\/(nm=nx/\w.heap.size<=k/\b8 (upM (bH []) [(k0,b0)]) E' k0 i k):=λnm i k hk=>by
  obtain⟨bb,g1,g2⟩:=aI.1 hk;by_cases hn:nm=nx
  .subst hn;have eb:=m1 bb g1;subst eb;rw[e1]at g2;have hp:b8 (upM (bH []) [(k0,bb)]) E' k0 i k:=aI.2 ⟨bb,hk0,g2⟩;rcases hl.priv k0 i k hp with g | g
   .obtain⟨_,q,_⟩:=aI.1 g;cases q
   .exact .inr ⟨rfl,g,hp⟩
  .rw[e2 nm hn]at g2;exact .inl ⟨hn,aI.2 ⟨bb,m2 nm bb hn g1,g2⟩⟩
 have pvNew:fb S.w0.heap.size S.O (upM σ.m [(nx,b0)]) (upE E nx (E' k0)) w'.heap.size D':=by
  refine⟨λnm i k hk=>?_,λnm i k hk nm' b' hb' hi e=>?_,λnm i k nm' j h1 h2=>?_⟩
  .rcases prv nm i k hk with⟨_,g⟩ | ⟨_,g1,g2⟩
   .obtain⟨q1,q2,q3⟩:=h.pv.own nm i k g;refine⟨q1,qN q2 hl.chg.size,λhd=>?_⟩;rcases hl.dhi _ hd with r | r | ⟨_,_,r,_⟩
    .exact q3 r
    .omega
    .cases r
   .obtain⟨_,q2,q3⟩:=hl.held.pv.own k0 i k g2;exact⟨.inl (wE h.low.size g1),q2,q3⟩
  .by_cases hn:nm'=nx
   .subst hn;rw[e1]at hi e;rcases prv nm i k hk with⟨_,g⟩ | ⟨_,g1,g2⟩
    .have:=(h.pv.own nm i k g).2.1;have:=fr hi;omega
    .exact hl.held.pv.ent k0 i k g2 k0 b0 hk0 hi e
   .have hm2:=m2 nm' b' hn hb';rw[e2 nm' hn]at hi e;have hlt:=(h.own nm' b' hm2 hi).2.1;rcases prv nm i k hk with⟨_,g⟩ | ⟨_,g1,_⟩
    .exact h.pv.ent nm i k g nm' b' hm2 hi e
    .omega
  .rcases prv nm i k h1 with⟨n1,g⟩ | ⟨n1,g1,g2⟩<;>rcases prv nm' j k h2 with⟨n2,q⟩ | ⟨n2,q1,q2⟩
   .exact h.pv.inj nm i k nm' j g q
   .have:=(h.pv.own nm i k g).2.1;omega
   .have:=(h.pv.own nm' j k q).2.1;omega
   .exact⟨n1.trans n2.symm,(hl.held.pv.inj k0 i k k0 j g2 q2).2⟩
 refine h.go (m':=upM σ.m [(nx,b0)]) ⟨hl.dlo,λb hb=>keep b (h.dlt b hb)⟩ (λk=>?_) (λnm b hm=>?_) (λnm b hm hi=>?_) (λnm nm' b b' hb hb' hi hi' e=>?_)
  (h.low.step hl.chg.os hl.chg.tape hl.chg.output hl.chg.size λk hk _=>keep k (qN hk h.low.size)) hl.dlt (λb hb=>?_) pvNew
 .by_cases hk:k=nx
  .subst hk;exact .inr hu
  .exact .inl λb' hb'=>⟨b',m2 k b' hk hb',rfl,qJ _,λ_=>e2 k hk⟩
 .by_cases hk:nm=nx
  .subst hk
   right
   have eb:=m1 b hm;subst eb;rw[e1];exact dE.mono (C:=⟨w',D',upM (bH []) [(k0,b)],E'⟩) (C':=⟨w',D',upM σ.m [(nm,b)],upE E nm (E' k0)⟩) ⟨λ_ g=>g,λ_ _=>rfl⟩ (λx hx=>by rw[hb0]at hx;cases hx) (λ_=>rfl) (λ_ _ _=>rfl) (hl.held.bl k0 b hk0)
  .have hm2:=m2 nm b hk hm;exact .inl ⟨hm2,e2 nm hk,λhi=>keep _ (h.own nm b hm2 hi).2.1,λi k hr=>keep _ (h.pv.lt hm2 hr)⟩
 .by_cases hk:nm=nx
  .subst hk;rw[e1]at hi ⊢;exact⟨.inl (wE h.low.size (fr hi)),hl.held.own k0 b0 hk0 hi⟩
  .have hm2:=m2 nm b hk hm;rw[e2 nm hk]at hi ⊢;obtain⟨g1,g2,g3⟩:=h.own nm b hm2 hi;refine⟨g1,qN g2 hl.chg.size,λhd=>?_⟩;rcases hl.dhi _ hd with g | g | ⟨_,_,g,_⟩
   .exact g3 g
   .omega
   .cases g
 .by_cases hk:nm=nx<;>by_cases hk':nm'=nx
  .rw[hk,hk']
  .subst hk;rw[e1]at hi e;rw[e2 nm' hk']at hi' e;have:=(h.own nm' b' (m2 nm' b' hk' hb') hi').2.1;have:=fr hi;omega
  .subst hk';rw[e1]at hi' e;rw[e2 nm hk]at hi e;have:=(h.own nm b (m2 nm b hk hb) hi).2.1;have:=fr hi';omega
  .rw[e2 nm hk]at hi e;rw[e2 nm' hk']at hi' e;exact h.inj nm nm' b b' (m2 nm b hk hb) (m2 nm' b' hk' hb') hi hi' e
 .rcases hl.dhi b hb with g | g | ⟨_,_,g,_⟩
  .exact .inl g
  .exact .inr (.inl (wE h.low.size g))
  .cases g
theorem aH.pureCall {S:Base} {σ:Sig} {a:Act} {w w':World} {D:Nat->Prop} {E:Nat->Ent} (h:aH S σ a w D E) (hw:Below w.heap.size w w'):
  aH S σ a w' (λb=>D b\/gk w w' b) E:=
 h.world hw (λb=>⟨λg=>g.imp id (λg=>⟨g,.inr g⟩),λg=>g.imp id (λg=>g.1)⟩) (λb g=>by
  rcases g with g | g
  .exact qN (h.dlt b g) hw.size
  .exact g.2)
theorem aH.heldOf {S:Base} {σ:Sig} {a:Act} {w:World} {D:Nat->Prop} {E:Nat->Ent} (h:aH S σ a w D E) (ns:List Nat):Held S.P w D (bH (dK σ.m ns)) E:=by
 have mem:∀k b,bH (dK σ.m ns) k=some b->σ.m k=some b:=λk b hk=>by
  have:=dJ σ.m k ns;unfold bH at hk;rw[this]at hk;split at hk
  .exact hk
  .cases hk
 refine⟨λnm b hb=>?_,λnm b hb hi=>(h.own nm b (mem nm b hb) hi).2,λnm nm' b b' hb hb'=>h.inj nm nm' b b' (mem _ _ hb) (mem _ _ hb'),?_⟩
 rotate_left
 .have pm:∀nm i b,b8 (bH (dK σ.m ns)) E nm i b->b8 σ.m E nm i b:=λnm i b hb=>by
   obtain⟨bb,g1,g2⟩:=aI.1 hb;exact aI.2 ⟨bb,mem nm bb g1,g2⟩
  exact⟨λnm i b hb=>⟨.inr trivial,(h.pv.own nm i b (pm _ _ _ hb)).2⟩,λnm i b hb nm' blk hm' hi=>h.pv.ent nm i b (pm _ _ _ hb) nm' blk (mem _ _ hm') hi,λnm i b nm' j h1 h2=>h.pv.inj nm i b nm' j (pm _ _ _ h1) (pm _ _ _ h2)⟩
 exact dE.mono (C:=⟨w,D,σ.m,E⟩) (C':=⟨w,D,bH (dK σ.m ns),E⟩) ⟨λ_ g=>g,λ_ _=>rfl⟩ (λx _ b' hb'=>⟨b',mem _ _ hb',rfl,qJ _,λ_=>rfl⟩) (λ_=>rfl) (λ_ _ _=>rfl) (h.bl nm b (mem nm b hb))
theorem vw{P:Program}{w:World}{D:Nat->Prop}{m:Nat->Option Blk}{E:Nat->Ent}{as:List AV}{us:Lv}(ns:List Nat)(h:AV.relL P ⟨w,D,m,E⟩ as us):
  AV.relL P ⟨w,D,bH (dK m ns),E⟩ as us:=
 AV.relL_mono (C:=⟨w,D,m,E⟩) (C':=⟨w,D,bH (dK m ns),E⟩) ⟨λ_ h=>h,λ_ _=>rfl⟩ (λk _ b' hb'=>⟨b',(by
  have:=dJ m k ns;replace hb':(dK m ns).lookup k=some b':=hb';rw[this]at hb';split at hb'
  .exact hb'
  .cases hb'),rfl,qJ _,λ_=>rfl⟩) h
theorem zz{S:Base}{K:Kt}(hK:ak S.P S.G K){σ:Sig}{a:Act}{w:World}{D:Nat->Prop}{E:Nat->Ent}(h:aH S σ a w D E){nx:Nat}{callee:AV}{args:List AV}{c:Core}{u:Value}{us:Lv}
  (hc:uT S.P K nx σ.m callee args=some c) (hn:∀q∈c.need,q) (hunm:∀k,c.new=some k->Unm k σ) (hcal:callee.rel S.P ⟨w,D,σ.m,E⟩ u) (hargs:AV.relL S.P ⟨w,D,σ.m,E⟩ args us):
  ∃f as,(do let d <- Deferred.ofValue u us.toArray;invoke d.target d.args).run S.P w=.ok (.enter f as) w/\
   Calls S.P f as w λe w''=>∃v,e=.returned v/\Outcome S ⟨σ.T,upM σ.m c.upd,σ.sv⟩ a c.val v w'':=by
 have hinv:∀f caps,u=.func (.func f) #[] caps->goes S.P f=true->(do let d <- Deferred.ofValue u us.toArray;invoke d.target d.args).run S.P w=.ok (.enter f (us.toArray++caps)) w:=by
  intro f caps hu hg;subst hu;simp only[Deferred.ofValue,wB,zU,vS,invoke,kW];exact jG hg w _
 unfold uT at hc;split at hc
 .rename_i f caps;split at hc
  case isFalse=>cases hc
  rename_i hg;split at hc
  case isFalse=>cases hc
  rename_i hall;split at hc
  case h_2=>cases hc
  rename_i cr hk;have hns:∀k∈cz σ.m (AV.namesL (fJ S.P K f args caps++caps)),∀b,σ.m k=some b->∀x∈b.names,x∈cz σ.m (AV.namesL (fJ S.P K f args caps++caps)):=by
   intro k hk b hb x hx;rw[qM]at hall;have:=hall k hk;rw[hb]at this;unfold lO at this;simp only[qM]at this;simpa using this x hx
  obtain⟨cs,hu,hcaps⟩:=hcal;have hall2:=vw (cz σ.m (AV.namesL (fJ S.P K f args caps++caps))) (AV.relL_append (By (P:=S.P) (K:=K) (f:=f) (caps:=caps) hargs) hcaps);have e:us.toArray++cs.toArray=(us++cs).toArray:=by simp
  have hcall:=λhp:cr.pre=>hK f _ _ cr hk hp w D E (us++cs) h.dlt (jX.mono (C:=⟨w,D,σ.m,E⟩) ⟨λ_ g=>g,λ_ _=>rfl⟩ h.gl) hall2 (h.heldOf _)
  split at hc
  .rename_i k0 b0 hfr;split at hc
   case isFalse=>cases hc
   rename_i hnm;cases hc;unfold OE at hfr;split at hfr
   case h_2=>cases hfr
   rename_i k1 b1 hmem hupd;split at hfr
   case isFalse=>cases hfr
   rename_i hb0;cases hfr;refine⟨f,_,hinv f _ hu hg,?_⟩;rw[e];refine(hcall (hn _ (by simp))).mono λe w' he=>?_
   obtain⟨v,D',E',rfl,hl,hv⟩:=he;rw[hmem,hupd]at hl hv;refine⟨v,rfl,D',upE E nx (E' k0),h.calledNew (hunm nx rfl) (wO.1 hb0) hl,?_⟩;refine AV.rel_ren (m:=upM (bH []) [(k0,b0)]) (E:=E') (k:=k0) ?_ ?_ (λx hx=>?_) hv
   .show upM σ.m [(nx,b0)] nx=upM (bH []) [(k0,b0)] k0;rw[cO,cO,if_pos rfl,if_pos rfl]
   .simp[upE]
   .have:=qM.1 hnm x hx;simpa using this
  .split at hc
   case h_2=>cases hc
   rename_i q hq;split at hc
   case isFalse=>cases hc
   rename_i hnl;cases hc;refine⟨f,_,hinv f _ hu hg,?_⟩;rw[e];refine(hcall (hn _ (by simp))).mono λe w' he=>?_
   obtain⟨v,D',E',rfl,hl,hv⟩:=he;obtain⟨g1,g2⟩:=h.called hns hq (λp hp=>hn p (by simp[hp])) hl;refine⟨v,rfl,D',_,g1,AV.rel_mono (C:=⟨w',D',upM (bH (dK σ.m (cz σ.m (AV.namesL (fJ S.P K f args caps++caps))))) cr.upd,E'⟩) (C':=⟨w',D',upM σ.m cr.upd,λk=>if k∈cz σ.m (AV.namesL (fJ S.P K f args caps++caps))then E' k else E k⟩) ⟨λ_ g=>g,λ_ _=>rfl⟩ (λnm hnm b' hb'=>?_) hv⟩
   have hin:nm∈cz σ.m (AV.namesL (fJ S.P K f args caps++caps)):=by
    have:=qM.1 hnl nm hnm;simpa using this
   have hml:∀b,σ.m nm=some b->bH (dK σ.m (cz σ.m (AV.namesL (fJ S.P K f args caps++caps)))) nm=some b:=λb hb=>by
    show(dK σ.m _).lookup nm=some b;rw[dJ,if_pos hin];exact hb
   replace hb':upM σ.m cr.upd nm=some b':=hb';rw[db]at hb';have ex:∃b0,σ.m nm=some b0/\upM (bH (dK σ.m (cz σ.m (AV.namesL (fJ S.P K f args caps++caps))))) cr.upd nm=some b':=by
    split at hb'
    .rename_i b1 h1;obtain⟨b0,k1,_⟩:=pw hq (λp hp=>hn p (by simp[hp])) nm b1 h1;exact⟨b0,k1,by rw[db,h1];exact hb'⟩
    .rename_i h1;exact⟨b',hb',by rw[db,h1];exact hml b' hb'⟩
   obtain⟨b0,k1,k2⟩:=ex;exact⟨b',k2,rfl,qJ _,λ_=>if_pos hin⟩
 .rename_i a1 r pre g x;split at hc
  case h_2=>cases hc
  rename_i y hy;cases hc;obtain⟨u1,us',e,r1,r2⟩:=hargs;simp only[AV.relL]at r2;subst r2 e;obtain⟨f,caps,hu,hg,hcall⟩:=hcal;have hr:=AV.as_rel hy r1;refine⟨f,_,hinv f _ hu hg,?_⟩;refine(hcall w D (λb hb=>hb) h.dlt (λ_ _=>rfl) y u1 (hn _ (by simp)) hr).mono λe w' he=>?_
  obtain⟨v,rfl,hw,hv⟩:=he;exact⟨v,rfl,_,E,h.pureCall hw,hv⟩
 .rename_i a1 b1 r pre g x x2;split at hc
  case h_2=>cases hc
  rename_i y z hy hz;cases hc;obtain⟨u1,us',e,r1,u2,us'',e2,r2,r3⟩:=hargs;simp only[AV.relL]at r3;subst r3 e2 e;obtain⟨f,caps,hu,hg,hcall⟩:=hcal;refine⟨f,_,hinv f _ hu hg,?_⟩;refine(hcall w D (λb hb=>hb) h.dlt (λ_ _=>rfl) y z u1 u2 (hn _ (by simp)) (AV.as_rel hy r1) (AV.as_rel hz r2)).mono λe w' he=>?_
  obtain⟨v,rfl,hw,hv⟩:=he;exact⟨v,rfl,_,E,h.pureCall hw,hv⟩
 .cases hc
mutual
def JB(m:Nat->Option Blk): AV->Option (List Prop×AV)
 | .buf nm n=>match m nm with
  | some (.buf _ t xs [])=>some ([xs.length=n],.dat (.sl t) xs)
  | _=>none
 | .agg cs=>match yu m cs with
  | some (ns,ds)=>some (ns,.agg ds)
  | none=>none
 | a=>if a.names.isEmpty then some ([],a)else none
def yu(m:Nat->Option Blk): List AV->Option (List Prop×List AV)
 | []=>some ([],[])
 | a::as=>match JB m a,yu m as with
  | some (p,x),some (q,xs)=>some (p++q,x::xs)
  | _,_=>none
end
def I9: AV->AV
 | .dat (.int k) x=>.dat (.int k) x
 | .dat .bool x=>.dat .bool x
 | .dat .str x=>.dat .str x
 | _=>.top
def Yk: AV->AV
 | .tup vs=>.tup (vs.map I9)
 | a=>I9 a
theorem sw{P:Program}{C C':Ctx}{a:AV}{v:Value}(h:a.rel P C v): (I9 a).rel P C' v:=by
 unfold I9;split
 .exact h
 .exact h
 .exact h
 .trivial
theorem AW{P:Program}{C C':Ctx}: ∀{as:List AV} {us:Lv},AV.relL P C as us->AV.relL P C' (as.map I9) us
 | [],_,h=>h
 | a::as,_,h=>by
  obtain⟨u,us',e,h1,h2⟩:=h;exact⟨u,us',e,sw h1,AW h2⟩
theorem MY{P:Program}{C C':Ctx}{a:AV}{v:Value}(h:a.rel P C v): (Yk a).rel P C' v:=by
 unfold Yk;split
 .obtain⟨us,h1,h2⟩:=h;exact⟨us,h1,AW h2⟩
 .exact sw h
def oH(m:Nat->Option Blk)(E:Nat->Ent)(D:Nat->Prop): Nat->Prop:=λb=>D b\/bn m E b
theorem YQ{S:Base}{σ:Sig}{a:Act}{w:World}{D:Nat->Prop}{E:Nat->Ent}(h:aH S σ a w D E){nm:Nat}{el:TypeId}{t:Ty}{xs:List t.den}(hm:σ.m nm=some (.buf el t xs [])):
  ah w (oH σ.m E D) (.sl t) xs [(E nm).handle xs.length]:=by
 obtain⟨raw,r1,r2⟩:=h.bl nm _ hm;cases hnil:(E nm).isNil with
 | true=>
  have e3:(E nm).handle xs.length=.slice none 0 0:=by unfold Ent.handle;rw[hnil];rfl
  rw[e3]at r1 ⊢;rcases r1.2 with⟨_,hz⟩ | ⟨g,cap,cur,hq,_⟩
  .have:xs=[]:=vO hz;subst this;exact bm _ _ _
  .cases hq
 | false=>
  have e3:(E nm).handle xs.length=.slice (some ⟨(E nm).b,0,none⟩) xs.length (E nm).cap:=by unfold Ent.handle;rw[hnil];rfl
  rw[e3]at r1 ⊢;have hle:xs.length<=(E nm).cap:=by
   rcases r1.2 with⟨hq,_⟩ | ⟨g,cap,cur,hq,_,_,hle,_⟩
   .cases hq
   .simp only[zM,zS]at hq;omega
  refine⟨_,_,rfl,hle,(λh=>by cases h),(λad had _=>by cases had;rfl),λi y hy=>?_⟩;have hr:=r2 i y hy;simp only[List.lookup]at hr;refine⟨_,_,rfl,.inr ⟨nm,_,hm,hnil,rfl⟩,?_,al (λ_ g=>.inl g) (λ_ _=>rfl) hr⟩;intro j u hj;rw[vM]at hj;split at hj
  .rw[qY]at hj;have hlt:i*t.sz+j<xs.length*t.sz:=by rw[<- r1.1];exact(qF.1 hj).1
   show w.cell? ⟨(E nm).b,0+i*t.sz+j,none⟩=some u;rw[wY,r1.cellAt _ hlt];exact hj
  .cases hj
mutual
theorem N7{S:Base}{σ:Sig}{a:Act}{w:World}{D:Nat->Prop}{E:Nat->Ent}(h:aH S σ a w D E): ∀{x y:AV} {ns:List Prop} {v:Value},JB σ.m x=some (ns,y)->(∀q∈ns,q)->x.rel S.P ⟨w,D,σ.m,E⟩ v->y.rel S.P ⟨w,oH σ.m E D,bH [],E⟩ v
 | x,y,ns,v,hc,hn,hx=>by
  unfold JB at hc;split at hc
  .rename_i nm n;split at hc
   case h_2=>cases hc
   rename_i el t xs hm;cases hc;have hlen:xs.length=n:=hn _ (by simp);have e0:=(hx _ hm).2 hlen;rw[<- hlen]at e0;rw[e0];exact YQ h hm
  .rename_i cs;split at hc
   case h_2=>cases hc
   rename_i ns' ds hl;cases hc;obtain⟨us,h1,h2⟩:=hx;exact⟨us,h1,tI h hl hn h2⟩
  .split at hc
   case isFalse=>cases hc
   rename_i hnm;cases hc;exact qx (C:=⟨w,D,σ.m,E⟩) (C':=⟨w,oH σ.m E D,bH [],E⟩) hnm ⟨λ_ g=>.inl g,λ_ _=>rfl⟩ hx
theorem tI{S:Base}{σ:Sig}{a:Act}{w:World}{D:Nat->Prop}{E:Nat->Ent}(h:aH S σ a w D E): ∀{xs ys:List AV} {ns:List Prop} {vs:Lv},yu σ.m xs=some (ns,ys)->(∀q∈ns,q)->AV.relL S.P ⟨w,D,σ.m,E⟩ xs vs->AV.relL S.P ⟨w,oH σ.m E D,bH [],E⟩ ys vs
 | [],ys,ns,vs,hc,hn,hx=>by
  simp only[yu,vZ,qCb]at hc;rw[<- hc.2];exact hx
 | x::xs,ys,ns,vs,hc,hn,hx=>by
  simp only[yu]at hc;split at hc
  .rename_i p y q ys' h1 h2;cases hc;obtain⟨v,vs',e,g1,g2⟩:=hx;exact⟨v,vs',e,N7 h h1 (λz hz=>hn z (qH.2 (.inl hz))) g1,tI h h2 (λz hz=>hn z (qH.2 (.inr hz))) g2⟩
  .cases hc
end
def JA(P:Program)(K:Kt)(m:Nat->Option Blk)(callee:AV)(args:List AV): Option Core:=match callee with
 | .fn f caps=>if goes P f&&(AV.namesL caps).isEmpty then
   match yu m args with
   | some (ns,as)=>match K f (fJ P K f as caps++caps) []with
    | some c=>if c.upd.isEmpty then some {need:=c.pre::ns,val:=Yk c.ret} else none
    | none=>none
   | none=>none
  else none
 | _=>none
theorem Ub{S:Base}{K:Kt}(hK:ak S.P S.G K){σ:Sig}{a:Act}{w:World}{D:Nat->Prop}{E:Nat->Ent}(h:aH S σ a w D E){callee:AV}{args:List AV}{c:Core}{u:Value}{us:Lv}
  (hc:JA S.P K σ.m callee args=some c) (hn:∀q∈c.need,q) (hcal:callee.rel S.P ⟨w,D,σ.m,E⟩ u) (hargs:AV.relL S.P ⟨w,D,σ.m,E⟩ args us):
  ∃f as,(do let d <- Deferred.ofValue u us.toArray;invoke d.target d.args).run S.P w=.ok (.enter f as) w/\
   Calls S.P f as w λe w''=>∃v,e=.returned v/\Outcome S ⟨σ.T,upM σ.m c.upd,σ.sv⟩ a c.val v w'':=by
 unfold JA at hc;split at hc
 case h_2=>cases hc
 rename_i f caps;split at hc
 case isFalse=>cases hc
 rename_i hg;simp only[qC]at hg;split at hc
 case h_2=>cases hc
 rename_i ns as hl;split at hc
 case h_2=>cases hc
 rename_i cr hk;split at hc
 case isFalse=>cases hc
 rename_i hup;cases hc;have hup':cr.upd=[]:=wO.1 hup;obtain⟨cs,rfl,hcaps⟩:=hcal;have ha:=tI h hl (λq hq=>hn q (by simp[hq])) hargs;have hcp:AV.relL S.P ⟨w,oH σ.m E D,bH [],E⟩ caps cs:=AV.relL_mono (C:=⟨w,D,σ.m,E⟩) (C':=⟨w,oH σ.m E D,bH [],E⟩) ⟨λ_ g=>.inl g,λ_ _=>rfl⟩ (λnm hm=>by
  have:=wO.1 hg.2;rw[this]at hm;cases hm) hcaps
 have hall:=AV.relL_append (By (P:=S.P) (K:=K) (f:=f) (caps:=caps) ha) hcp;have hD:∀b,oH σ.m E D b->b<w.heap.size:=λb hb=>by
  rcases hb with g | ⟨nm,blk,g1,g2,rfl⟩
  .exact h.dlt b g
  .exact(h.own nm blk g1 g2).2.1
 have hcall:=hK f _ _ cr hk (hn _ (by simp)) w (oH σ.m E D) E (us++cs) hD (jX.mono (C:=⟨w,D,σ.m,E⟩) ⟨λ_ g=>.inl g,λ_ _=>rfl⟩ h.gl) hall (Held.none _ _ _ _);have e:us.toArray++cs.toArray=(us++cs).toArray:=by simp
 refine⟨f,us.toArray++cs.toArray,?_,?_⟩
 .simp only[Deferred.ofValue,wB,zU,vS,invoke,kW];exact jG hg.1 w _
 .rw[e];refine hcall.mono λe w' he=>?_
  obtain⟨v,D',E',rfl,hlf,hv⟩:=he;have hb:Below w.heap.size w w':=⟨hlf.chg.os,hlf.chg.tape,hlf.chg.output,hlf.chg.size,λk hk=>hlf.chg.block k hk λ⟨nm,blk,g,_⟩=>(by cases g)⟩;exact⟨v,rfl,_,E,h.pureCall hb,MY hv⟩
mutual
theorem FC{m m':Nat->Option Blk}: ∀{x:AV},(∀k∈x.names,m' k=m k)->JB m' x=JB m x
 | x,h=>by
  unfold JB;split
  .rename_i nm n;rw[h nm (by simp[AV.names])]
  .rename_i cs;rw[ny λk hk=>h k (by simpa[AV.names]using hk)]
  .rfl
theorem ny{m m':Nat->Option Blk}: ∀{xs:List AV},(∀k∈AV.namesL xs,m' k=m k)->yu m' xs=yu m xs
 | [],_=>rfl
 | x::xs,h=>by
  simp only[yu];rw[FC (x:=x) λk hk=>h k (by simp[AV.namesL,hk]),ny (xs:=xs) λk hk=>h k (by simp[AV.namesL,hk])]
end
def J8(P:Program)(K:Kt)(nx:Nat)(m:Nat->Option Blk)(callee:AV)(args:List AV): Option Core:=match uT P K nx m callee args with
 | some c=>some c
 | none=>match uT P K nx m (jH callee) (rE args)with
  | some c=>some c
  | none=>JA P K m callee args
theorem UZ{S:Base}{K:Kt}(hK:ak S.P S.G K){σ:Sig}{a:Act}{w:World}{D:Nat->Prop}{E:Nat->Ent}(h:aH S σ a w D E){nx:Nat}{callee:AV}{args:List AV}{c:Core}{u:Value}{us:Lv}
  (hc:J8 S.P K nx σ.m callee args=some c) (hn:∀q∈c.need,q) (hunm:∀k,c.new=some k->Unm k σ) (hcal:callee.rel S.P ⟨w,D,σ.m,E⟩ u) (hargs:AV.relL S.P ⟨w,D,σ.m,E⟩ args us):
  ∃f as,(do let d <- Deferred.ofValue u us.toArray;invoke d.target d.args).run S.P w=.ok (.enter f as) w/\
   Calls S.P f as w λe w''=>∃v,e=.returned v/\Outcome S ⟨σ.T,upM σ.m c.upd,σ.sv⟩ a c.val v w'':=by
 unfold J8 at hc;split at hc
 .rename_i c1 h1;cases hc;exact zz hK h h1 hn hunm hcal hargs
 .split at hc
  .rename_i c1 h1;cases hc;exact zz hK h h1 hn hunm (AV.rel_forg hcal) (AV.relL_forg hargs)
  .exact Ub hK h hc hn hcal hargs
def selC(P:Program)(K:Kt)(nx:Nat)(m:Nat->Option Blk)(args:List AV)(t:Ty): List AV->Option (List (List Prop×t.den))
 | []=>some []
 | c::cs=>match uT P K nx m c args,selC P K nx m args t cs with
  | some co,some r=>match co.upd,co.new,co.val.as t with
   | [],none,some x=>some ((co.need,x)::r)
   | _,_,_=>none
  | _,_=>none
def sr{α:Type}(i:Nat): Nat->List (List Prop×α)->List Prop
 | _,[]=>[]
 | j,q::r=>q.1.map (λp=>i=j->p)++sr i (j+1) r
def mL(P:Program)(K:Kt)(nx:Nat)(m:Nat->Option Blk)(f:AV)(args:List AV): Option Core:=match f with
 | .sel i cs=>match cs with
  | []=>none
  | c::r=>match uT P K nx m c args with
   | some co=>match co.val with
    | .dat t _=>match selC P K nx m args t (c::r)with
     | some q=>some {need:=sr (Dc i) 0 q,val:=.dat t (Du (q.map (·.2)) (Dc i) t.dflt)}
     | none=>none
    | _=>none
   | none=>none
 | f=>J8 P K nx m f args
theorem MV{P:Program}{K:Kt}{nx:Nat}{m:Nat->Option Blk}{args:List AV}{t:Ty}: ∀{cs:List AV} {q:List (List Prop×t.den)},selC P K nx m args t cs=some q->∀{j:Nat} {c:AV},cs[j]?=some c->
  ∃co x,uT P K nx m c args=some co/\co.upd=[]/\co.new=none/\co.val.as t=some x/\q[j]?=some (co.need,x)
 | [],_,_,j,c,h=>by simp at h
 | c'::cs,q,hq,j,c,h=>by
  unfold selC at hq;split at hq
  case h_2=>cases hq
  rename_i co r h1 h2;split at hq
  case h_2=>cases hq
  rename_i x e1 e2 e3;cases hq;cases j with
  | zero=>
   simp only[qAh,vZ]at h;subst h;exact⟨co,x,h1,e1,e2,e3,rfl⟩
  | succ j=>simpa using MV h2 (by simpa using h)
theorem vk{α:Type}{i:Nat}: ∀{q:List (List Prop×α)} {b j:Nat} {ns:List Prop} {x:α},(∀p∈sr i b q,p)->q[j]?=some (ns,x)->i=b+j->∀p∈ns,p
 | [],_,_,_,_,_,h,_=>by simp at h
 | y::q,b,j,ns,x,hn,h,e=>by
  intro p hp;cases j with
  | zero=>
   simp only[qAh,vZ]at h;subst h;exact hn (i=b->p) (by simp only[sr,qH,wZ];exact .inl ⟨p,hp,rfl⟩) (by omega)
  | succ j=>
   exact vk (b:=b+1) (λp hp=>hn p (by simp only[sr,qH];exact .inr hp)) (by simpa using h) (by omega) p hp
theorem Gt{S:Base}{K:Kt}(hK:ak S.P S.G K){σ:Sig}{a:Act}{w:World}{D:Nat->Prop}{E:Nat->Ent}(h:aH S σ a w D E){nx:Nat}{callee:AV}{args:List AV}{c:Core}{u:Value}{us:Lv}
  (hc:mL S.P K nx σ.m callee args=some c) (hn:∀q∈c.need,q) (hunm:∀k,c.new=some k->Unm k σ) (hcal:callee.rel S.P ⟨w,D,σ.m,E⟩ u) (hargs:AV.relL S.P ⟨w,D,σ.m,E⟩ args us):
  ∃f as,(do let d <- Deferred.ofValue u us.toArray;invoke d.target d.args).run S.P w=.ok (.enter f as) w/\
   Calls S.P f as w λe w''=>∃v,e=.returned v/\Outcome S ⟨σ.T,upM σ.m c.upd,σ.sv⟩ a c.val v w'':=by
 unfold mL at hc;split at hc
 .rename_i i cs;split at hc
  .cases hc
  rename_i c0 r;split at hc
  case h_2=>cases hc
  rename_i co0 _;split at hc
  case h_2=>cases hc
  rename_i t _ _;split at hc
  case h_2=>cases hc
  rename_i q hq;cases hc;obtain⟨vs,g1,g2⟩:=hcal;have hlt:i.toNat<(c0::r).length:=by rw[AV.relL_length g1];exact(qF.1 g2).1
  obtain⟨co,x,k1,k2,k3,k4,k5⟩:=MV hq (qB hlt);obtain⟨u',g3,g4⟩:=AV.relL_get g1 (qB hlt);have eu:u'=u:=wS (g3.symm.trans g2);subst eu;have hneed:=vk (b:=0) (i:=i.toNat) hn k5 (by omega);obtain⟨f,as,h1,h2⟩:=zz hK h k1 hneed (λk hk=>by rw[k3]at hk;cases hk) g4 hargs;refine⟨f,as,h1,h2.mono λe w' he=>?_⟩;obtain⟨v,rfl,D',E',p1,p2⟩:=he;rw[k2]at p1 p2;refine⟨v,rfl,D',E',p1,?_⟩;have hx:=AV.as_rel k4 p2
  have ev:(q.map (·.2)).getD i.toNat t.dflt=x:=by
   simp only[List.getD,qP,k5];rfl
  show ah _ _ t ((q.map (·.2)).getD i.toNat t.dflt) [v];rw[ev];exact hx
 .exact UZ hK h hc hn hunm hcal hargs
def YJ: RV->Option Core
 | (.ip t x,_)=>some {val:=.ip t x}
 | (.ptr nm g i c,some b)=>some {need:=[b.len=g],val:=.ptr nm g i c}
 | (.fn f caps,_)=>some {val:=.fn f caps}
 | (.ipv x,_)=>some {val:=.ipv x}
 | (.ips cs,_)=>some {val:=.ips cs}
 | (.ia t xs,_)=>some {val:=.ia t xs}
 | (.sel i cs,_)=>if cs.all aEG then some {val:=.sel i cs} else none
 | _=>none
def xr: Operand->Operand->Bool
 | .tmp i,.tmp j=>i==j
 | .const (.int k x),.const (.int k' y)=>decide (k=k')&&decide (x=y)
 | _,_=>false
def zP(P:Program)(nx:Nat)(b:Builtin)(ts:Array TypeId)(vs:List RV): Option Core:=
 match b,vs with
 | .len,[x]=>match ts[0]? with
  | some t=>aEC P t x
  | none=>none
 | .append,[s,x]=>match ts.toList with
  | [t,t']=>if t=t' then match Gz P t s x with
   | some c=>some c
   | none=>aES P nx t s x
   else none
  | _=>none
 | .copy,[d,s]=>match ts.toList with
  | [t,_]=>Zi P t d s
  | _=>none
 | .max,vs=>match(vs.map (·.1):List AV)with
  | .dat (.int k) x::r=>match rJ true k x r with
   | some y=>some {val:=.dat (.int k) y}
   | none=>none
  | _=>none
 | .min,vs=>match(vs.map (·.1):List AV)with
  | .dat (.int k) x::r=>match rJ false k x r with
   | some y=>some {val:=.dat (.int k) y}
   | none=>none
  | _=>none
 | _,_=>none
def opE(P:Program)(K:Kt)(mt:Bool)(nx:Nat)(m:Nat->Option Blk)(o:Op)(vs:List RV): Option Core:=
 match o,vs with
 | .move _,[x]=>some {val:=x.1}
 | .assign _,[x]=>some {val:=x.1}
 | .alloc e,[]=>match uD P nx e with
  | some c=>some c
  | none=>PX P nx e
 | .build t parts,vs=>Px P t (parts.toList.map (·.1)) vs
 | .box e _,[x]=>match pX P m mt e x.1 with
  | some c=>some c
  | none=>match Gw P mt nx e x with
   | some c=>some c
   | none=>aEP P mt nx e x
 | .buildSlice t len parts,vs=>match Ff P mt nx t len (parts.toList.map (·.1)) vs with
  | some c=>some c
  | none=>match N4 P mt t len (parts.toList.map (·.1)) (vs.map (·.1))with
   | some c=>some c
   | none=>aEB P mt nx t len (parts.toList.map (·.1)) (vs.map (·.1))
 | .load t _,[p]=>match ym P t p with
  | some c=>some c
  | none=>match rK P t p with
   | some c=>some c
   | none=>T8 P t p
 | .store t _ _,[p,v]=>match sf P t p v with
  | some c=>some c
  | none=>match sg P t p v with
   | some c=>some c
   | none=>match MP P t p v with
    | some c=>some c
    | none=>jy P m t p v
 | .nilCheck _,[p]=>YJ p
 | .binOp op xT _ y _,[a,b]=>match Oy P op xT y a.1 b.1 with
  | some c=>some c
  | none=>match OU P op xT a.1 b.1 with
   | some c=>some c
   | none=>match(if mt then Wx op a.1 b.1 else none)with
    | some c=>some c
    | none=>aEQ P op xT a.1 b.1
 | .unOp op _ _,[a]=>unE op a.1
 | .convert s d _,[a]=>match Pq P s d a.1 with
  | some c=>some c
  | none=>Zj P s d a.1
 | .makeInterface t _,[x]=>NY P t x.1
 | .typeAssert _ _ t ok,[x]=>Gy P t ok x.1
 | .makeFunc (.func f) first _,vs=>if first.isEmpty then some {val:=.fn f (vs.map (·.1))} else none
 | .makeSlice t l c,[a,b]=>if mt then yk P t a.1 b.1 (xr l c)else YM P nx t a.1 b.1 (xr l c)
 | .slice t _ none none none,[x]=>match uB P t x with
  | some c=>some c
  | none=>vj P t x.1 none none
 | .slice t _ (some _) none none,[x,l]=>vj P t x.1 (some l.1) none
 | .slice t _ none (some _) none,[x,h]=>vj P t x.1 none (some h.1)
 | .slice t _ (some _) (some _) none,[x,l,h]=>vj P t x.1 (some l.1) (some h.1)
 | .fieldAddr s _ f,[p]=>pO P s f p
 | .field t _ f,[x]=>OP P t f x.1
 | .indexAddr t _ _,[x,i]=>match tU P t x i.1 with
  | some c=>some c
  | none=>pJ P t x i.1
 | .index t _ _,[x,i]=>match y4 P t x.1 i.1 with
  | some c=>some c
  | none=>Ot P t x.1 i.1
 | .extract _ i,[x]=>zi i x.1
 | .call c,vs=>match c.callee,vs with
  | .builtin b,vs=>zP P nx b c.argTypes vs
  | .value _,f::args=>mL P K nx m f.1 (args.map (·.1))
  | _,_=>none
 | _,_=>none
theorem yd{P:Program}{C:Ctx}{us:Lv}(h:AV.relL P C [] us): us=[]:=h
theorem fH{P:Program}{C:Ctx}{a:AV}{u:Value}(h:AV.relL P C [a] [u]): a.rel P C u:=by
 obtain⟨_,_,e,g,_⟩:=h;cases e;exact g
theorem sR{P:Program}{C:Ctx}{a b:AV}{u v:Value}(h:AV.relL P C [a,b] [u,v]): a.rel P C u/\b.rel P C v:=by
 obtain⟨_,_,e,g,_,_,e2,g2,_⟩:=h;cases e;cases e2;exact⟨g,g2⟩
theorem aBD{P:Program}{C:Ctx}{a b c:AV}{u v x:Value}(h:AV.relL P C [a,b,c] [u,v,x]): a.rel P C u/\b.rel P C v/\c.rel P C x:=by
 obtain⟨_,_,e,g,_,_,e2,g2,_,_,e3,g3,_⟩:=h;cases e;cases e2;cases e3;exact⟨g,g2,g3⟩
theorem Yields.value {S:Base} {σ:Sig} {a:Act} {x:AV} {s:Sem Value} {w:World} (h:∃r w',s.run S.P w=.ok r w'/\Outcome S σ a x r w'):
  Yields S σ a x ((do pure (Next.value (<- s)):Sem Next).run S.P w):=by
 obtain⟨r,w',h1,h2⟩:=h;exact .inl ⟨r,w',by simp[h1],h2⟩
theorem Yields.same {S:Base} {σ:Sig} {a:Act} {x:AV} {s:Sem Value} {w:World} {D:Nat->Prop} {E:Nat->Ent} (hs:aH S σ a w D E) (h:∃r,s.run S.P w=.ok r w/\x.rel S.P ⟨w,D,σ.m,E⟩ r):
  Yields S σ a x ((do pure (Next.value (<- s)):Sem Next).run S.P w):=by
 obtain⟨r,h1,h2⟩:=h;exact Yields.value ⟨r,w,h1,D,E,hs,h2⟩
theorem vm{i j:Operand}(h:xr i j=true)(a:Act): a.eval i=a.eval j:=by
 unfold xr at h;split at h
 .simp only[xH]at h;subst h;rfl
 .simp only[qC,qE]at h;obtain⟨rfl,rfl⟩:=h;rfl
 .cases h
theorem toList_map{α β:Type}(xs:Array α)(f:α->β): xs.map f=(xs.toList.map f).toArray:=by
 apply yB;simp
theorem Gv{S:Base}{σ:Sig}{a:Act}{w:World}{D:Nat->Prop}{E:Nat->Ent}(h:aH S σ a w D E){nx:Nat}{b:Builtin}{ts:Array TypeId}{ty:TypeId}{cs:Array Bool}{vs:List RV}{us:Lv}{c:Core}
  (hr:AV.relL S.P ⟨w,D,σ.m,E⟩ (vs.map (·.1)) us) (hres:∀v∈vs,v.2=ct σ.m v.1) (hc:zP S.P nx b ts vs=some c) (hn:∀q∈c.need,q) (hu:∀k,c.new=some k->Unm k σ):
  Yields S ⟨σ.T,upM σ.m c.upd,σ.sv⟩ a c.val ((builtin b ts ty cs us.toArray).run S.P w):=by
 unfold zP at hc;split at hc
 .rename_i x;obtain⟨u,us',e,g1,g2⟩:=hr;have g2':=yd g2;subst g2' e;split at hc
  .rename_i t ht;obtain⟨r,h1,h2,h3,_⟩:=YR (ty:=ty) h ht (hres x (by simp)) hc hn g1;rw[h3];exact Yields.same h ⟨r,h1,h2⟩
  .cases hc
 .rename_i s x;obtain⟨u,us',e,g1,u2,us2,e2,g3,g4⟩:=hr;have g4':=yd g4;subst g4' e2 e;split at hc
  .rename_i t t' hts;split at hc
   .rename_i ht;subst ht;have hts':ts=#[t,t]:=by apply yB;exact hts
    subst hts';split at hc
    .rename_i c' hc';cases hc;exact Yields.value (Ky h (hres s (by simp)) (hres x (by simp)) hc' hn g1 g3).2
    .exact Yields.value (Zv h (hres s (by simp)) (hres x (by simp)) hc hn g1 g3 hu)
   .cases hc
  .cases hc
 .rename_i d s;obtain⟨u,us',e,g1,u2,us2,e2,g3,g4⟩:=hr;have g4':=yd g4;subst g4' e2 e;split at hc
  .rename_i t t' hts;have hts':ts=#[t,t']:=by apply yB;exact hts
   subst hts';exact Yields.value (UH h (hres d (by simp)) (hres s (by simp)) hc hn g1 g3)
  .cases hc
 .split at hc
  .rename_i k x r hvs;split at hc
   .rename_i y hy;cases hc;rw[hvs]at hr;obtain⟨u,us',e,g1,g2⟩:=hr;subst e;simp only[AV.rel,ah,qR,vP]at g1;subst g1;have:=x6 (P:=S.P) (w:=w) true k r us' x y hy g2;refine Yields.same h ⟨.int k y,?_,rfl⟩;simp only[Builtin.max_];exact this
   .cases hc
  .cases hc
 .split at hc
  .rename_i k x r hvs;split at hc
   .rename_i y hy;cases hc;rw[hvs]at hr;obtain⟨u,us',e,g1,g2⟩:=hr;subst e;simp only[AV.rel,ah,qR,vP]at g1;subst g1;have:=x6 (P:=S.P) (w:=w) false k r us' x y hy g2;refine Yields.same h ⟨.int k y,?_,rfl⟩;simp only[Builtin.min_];exact this
   .cases hc
  .cases hc
 .cases hc
theorem aBI{S:Base}{K:Kt}(hK:ak S.P S.G K){σ:Sig}{a:Act}{w:World}{D:Nat->Prop}{E:Nat->Ent}(h:aH S σ a w D E){mt:Bool}{nx:Nat}{o:Oper}{vs:List RV}{c:Core}
  (hr:AV.relL S.P ⟨w,D,σ.m,E⟩ (vs.map (·.1)) (o.op.operands.toList.map a.eval)) (hres:∀v∈vs,v.2=ct σ.m v.1)
  (hc:opE S.P K mt nx σ.m o.op vs=some c) (hn:∀q∈c.need,q) (hu:∀k,c.new=some k->Unm k σ/\∀v∈vs,k∉v.1.names):
  Yields S ⟨σ.T,upM σ.m c.upd,σ.sv⟩ a c.val ((execOp a.eval o).run S.P w):=by
 have hu1:∀k,c.new=some k->Unm k σ:=λk hk=>(hu k hk).1
 obtain⟨dst,op,type,pos,after,guard⟩:=o;simp only at hr hc;unfold opE at hc;split at hc
 .rename_i x0 x;cases hc;exact .inl ⟨_,w,rfl,D,E,h,fH hr⟩
 .rename_i x0 x;cases hc;exact .inl ⟨_,w,rfl,D,E,h,fH hr⟩
 .split at hc
  .rename_i c' hc';cases hc;exact Yields.value (C0 h hc' hu1)
  .exact Yields.value (PU h hc hu1)
 .rename_i t parts;have hmap:(parts.map λ(i,x)=>(i,a.eval x))=((parts.toList.map (·.1)).zip (parts.toList.map λp=>a.eval p.2)).toArray:=by
   apply yB;simp only[qBf,List.zip_map']
  have hops:(Op.build t parts).operands.toList.map a.eval=parts.toList.map λp=>a.eval p.2:=by
   simp[Op.operands]
  rw[hops]at hr;obtain⟨r,h1,h2,h3,_⟩:=Pv (w:=w) hc hn hres hr;rw[h3];refine Yields.same h ⟨r,?_,h2⟩;rw[hmap];exact h1
 .rename_i e x0 x;split at hc
  .rename_i c' hc';cases hc;exact Yields.value (Kr h hc' (fH hr))
  split at hc
  .rename_i c' hc';cases hc;exact Yields.value (Ks h hc' hn hu1 (fH hr))
  refine Yields.value (Zo h (hres x (by simp)) hc hn (λk hk=>⟨hu1 k hk,λhm=>?_⟩) (fH hr));have:=(hu k hk).2 x (by simp);apply this;cases hx:x.1<;>rw[hx]at hm<;>first | exact hm | simpa[cw,AV.namesL]using hm
 .rename_i t len parts;have hmap:(parts.map λ(i,x)=>(i,a.eval x))=((parts.toList.map (·.1)).zip (parts.toList.map λp=>a.eval p.2)).toArray:=by
   apply yB;simp only[qBf,List.zip_map']
  have hops:(Op.buildSlice t len parts).operands.toList.map a.eval=parts.toList.map λp=>a.eval p.2:=by
   simp[Op.operands]
  rw[hops]at hr;split at hc
  .rename_i c' hc';cases hc;obtain⟨r,w',h1,h2⟩:=Ju h hres hc' hn hr hu1;refine Yields.value ⟨r,w',?_,h2⟩;rw[hmap];exact h1
  split at hc
  .rename_i c' hc';cases hc;obtain⟨r,w',h1,h2⟩:=N3 h hc' hr;refine Yields.value ⟨r,w',?_,h2⟩;rw[hmap];exact h1
  obtain⟨_,r,w',h1,h2⟩:=YO h hc hr hu1;refine Yields.value ⟨r,w',?_,h2⟩;rw[hmap];exact h1
 .rename_i t x0 p;split at hc
  .rename_i c' hc';cases hc;obtain⟨r,h1,h2,h3,_⟩:=E8 h (hres p (by simp)) hc' hn (fH hr);rw[h3];exact Yields.same h ⟨r,h1,h2⟩
  split at hc
  .rename_i c' hc';cases hc;obtain⟨r,h1,h2,h3,_⟩:=tG h (hres p (by simp)) hc' hn (fH hr);rw[h3];exact Yields.same h ⟨r,h1,h2⟩
  obtain⟨r,h1,h2,h3,_⟩:=HI h (hres p (by simp)) hc hn (fH hr);rw[h3];exact Yields.same h ⟨r,h1,h2⟩
 .rename_i t x0 y0 p v;obtain⟨g1,g2⟩:=sR hr;split at hc
  .rename_i c' hc';cases hc;obtain⟨_,hval,w',h1,D',E',h2⟩:=Ax h (hres p (by simp)) (hres v (by simp)) hc' hn g1 g2;refine .inr (.inl ⟨w',by simp[execOp,h1],D',E',h2,?_⟩);rw[hval];rfl
  split at hc
  .rename_i c' hc';cases hc;obtain⟨_,hval,w',h1,D',E',h2⟩:=Az h (hres p (by simp)) hc' hn g1 g2;refine .inr (.inl ⟨w',by simp[execOp,h1],D',E',h2,?_⟩);rw[hval];rfl
  split at hc
  .rename_i c' hc';cases hc;obtain⟨_,hval,w',h1,D',E',h2⟩:=MO h (hres p (by simp)) (hres v (by simp)) hc' hn g1 g2;refine .inr (.inl ⟨w',by simp[execOp,h1],D',E',h2,?_⟩);rw[hval];rfl
  obtain⟨_,hval,w',h1,D',E',h2⟩:=Aw h (hres p (by simp)) hc hn g1 g2;refine .inr (.inl ⟨w',by simp[execOp,h1],D',E',h2,?_⟩);rw[hval];rfl
 .rename_i x0 p;have hp:=fH hr;unfold YJ at hc;split at hc
  .cases hc;obtain⟨bl,off,us,e,g⟩:=hp;refine .inl ⟨_,w,?_,D,E,h,⟨bl,off,us,rfl,g⟩⟩;simp[execOp,e]
  .rename_i nm g i c0 b;cases hc;have hm:σ.m nm=some b:=(hres _ (vG.2 rfl)).symm;obtain⟨_,_,e⟩:=(hp b hm).2 (hn _ (by simp));refine .inl ⟨_,w,?_,D,E,h,hp⟩;simp[execOp,e]
  .cases hc;obtain⟨us,e,g⟩:=hp;refine .inl ⟨_,w,?_,D,E,h,⟨us,rfl,g⟩⟩;simp[execOp,e]
  .cases hc;obtain⟨bl,off,u,e,g⟩:=hp;refine .inl ⟨_,w,?_,D,E,h,⟨bl,off,u,rfl,g⟩⟩;simp[execOp,e]
  .cases hc;obtain⟨bl,off,us,e,g⟩:=hp;refine .inl ⟨_,w,?_,D,E,h,⟨bl,off,us,rfl,g⟩⟩;simp[execOp,e]
  .cases hc;obtain⟨bl,off,e,g⟩:=hp;refine .inl ⟨_,w,?_,D,E,h,⟨bl,off,rfl,g⟩⟩;simp[execOp,e]
  .rename_i i cs _;split at hc
   case isFalse=>cases hc
   rename_i hall;cases hc;obtain⟨vs,g1,g2⟩:=hp;have hlt:i.toNat<cs.length:=by rw[AV.relL_length g1];exact(qF.1 g2).1
   obtain⟨u',g3,g4⟩:=AV.relL_get g1 (qB hlt);have eu:=wS (g3.symm.trans g2);have hf:=qM.1 hall _ (wM hlt);have:∃f us,a.eval x0=.func (.func f) #[] us:=by
    rw[<- eu];cases hq:cs[i.toNat]<;>rw[hq]at hf g4<;>first | cases hf | skip
    obtain⟨us,e,_⟩:=g4;exact⟨_,_,e⟩
   obtain⟨f,us,e⟩:=this;refine .inl ⟨_,w,?_,D,E,h,⟨vs,g1,g2⟩⟩;simp[execOp,e]
  .cases hc
 .rename_i bop xT x0 y0 yT x y;obtain⟨g1,g2⟩:=sR hr;split at hc
  .rename_i c' hc';cases hc;obtain⟨r,h1,h2,h3,_⟩:=Ox (w:=w) (x:=x0) (y:=y0) hc' g1 g2;rw[h3];exact Yields.same h ⟨r,h1,h2⟩
  split at hc
  .rename_i c' hc';cases hc;obtain⟨r,h1,h2,h3,_⟩:=OT (w:=w) (x:=x0) (y:=y0) hc' g1 g2;rw[h3];exact Yields.same h ⟨r,h1,h2⟩
  split at hc
  .rename_i c' hc';cases hc;split at hc'
   case isFalse=>cases hc'
   obtain⟨r,h1,h2,h3⟩:=Nb (w:=w) (P:=S.P) (t:=xT) (x:=x0) (y:=y0) hc' g1 g2;rw[h3];exact Yields.same h ⟨r,(by simpa[execOp]using h1),h2⟩
  obtain⟨r,h1,h2,h3⟩:=Tc (w:=w) (x:=x0) (y:=y0) hc hn g1 g2;rw[h3];exact Yields.same h ⟨r,h1,h2⟩
 .rename_i uop t0 x0 x;obtain⟨r,h1,h2,h3⟩:=Yx (P:=S.P) (w:=w) hc hn (fH hr);rw[h3];exact Yields.same h ⟨r,h1,h2⟩
 .rename_i s d x0 x;split at hc
  .rename_i c' hc';cases hc;exact Yields.value (Po h hc' (fH hr))
  obtain⟨r,h1,h2,h3⟩:=Nc (w:=w) hc hn (fH hr);rw[h3];exact Yields.same h ⟨r,h1,h2⟩
 .rename_i t x0 x;obtain⟨r,h1,h2,h3,_⟩:=NW (w:=w) hc (fH hr);rw[h3];exact Yields.same h ⟨r,h1,h2⟩
 .rename_i x0 xt t ok x;obtain⟨r,h1,h2,h3,_⟩:=Kw (w:=w) (xt:=xt) hc (fH hr);rw[h3];exact Yields.same h ⟨r,h1,h2⟩
 .rename_i f first caps
  split at hc
  .rename_i hf;cases hc;have hf':first=#[]:=by simpa using hf
   subst hf';refine .inl ⟨.func (.func f) #[] (caps.map a.eval),w,?_,D,E,h,caps.toList.map a.eval,by rw[toList_map],?_⟩
   .simp[execOp,Instr.makeFunc]
   .have hr':AV.relL S.P ⟨w,D,σ.m,E⟩ (vs.map (·.1)) (caps.toList.map a.eval):=by simpa[Op.operands]using hr
    exact hr'
  .cases hc
 .rename_i t l c0 x y;obtain⟨g1,g2⟩:=sR hr;split at hc
  .exact Yields.value (E7 h (λhs=>vm hs a) hc hn g1 g2)
  .exact Yields.value (T0 h (λhs=>vm hs a) hc hn g1 g2 hu1)
 .rename_i t x0 x;split at hc
  .rename_i c' hc';cases hc;obtain⟨r,h1,h2,h3,_⟩:=CZ h (hres x (by simp)) hc' hn (fH hr);rw[h3];exact Yields.same h ⟨r,h1,h2⟩
  .obtain⟨r,h1,h2,h3,_⟩:=nX (w:=w) (vl:=none) (vh:=none) hc hn (fH hr) trivial trivial;rw[h3];exact Yields.same h ⟨r,h1,h2⟩
 .rename_i t x0 l0 x l;obtain⟨g1,g2⟩:=sR hr;obtain⟨r,h1,h2,h3,_⟩:=nX (w:=w) (vl:=some _) (vh:=none) hc hn g1 g2 trivial;rw[h3];exact Yields.same h ⟨r,h1,h2⟩
 .rename_i t x0 l0 x l;obtain⟨g1,g2⟩:=sR hr;obtain⟨r,h1,h2,h3,_⟩:=nX (w:=w) (vl:=none) (vh:=some _) hc hn g1 trivial g2;rw[h3];exact Yields.same h ⟨r,h1,h2⟩
 .rename_i t x0 l0 h0 x l hh;obtain⟨g1,g2,g3⟩:=aBD hr;obtain⟨r,h1,h2,h3,_⟩:=nX (w:=w) (vl:=some _) (vh:=some _) hc hn g1 g2 g3;rw[h3];exact Yields.same h ⟨r,h1,h2⟩
 .rename_i s x0 f p;obtain⟨r,h1,h2,h3,_⟩:=zf h (hres p (by simp)) hc hn (fH hr);rw[h3];exact Yields.same h ⟨r,h1,h2⟩
 .rename_i t x0 f x;obtain⟨r,h1,h2,h3,_⟩:=OO (w:=w) hc (fH hr);rw[h3];exact Yields.same h ⟨r,h1,h2⟩
 .rename_i t x0 i0 x i;obtain⟨g1,g2⟩:=sR hr;split at hc
  .rename_i c' hc';cases hc;obtain⟨r,h1,h2,h3,_⟩:=BV h (hres x (by simp)) hc' hn g1 g2;rw[h3];exact Yields.same h ⟨r,h1,h2⟩
  obtain⟨r,h1,h2,h3,_⟩:=y5 h (hres x (by simp)) hc hn g1 g2;rw[h3];exact Yields.same h ⟨r,h1,h2⟩
 .rename_i t x0 i0 x i;obtain⟨g1,g2⟩:=sR hr;split at hc
  .rename_i c' hc';cases hc;obtain⟨r,h1,h2,h3,_⟩:=FN (w:=w) hc' hn g1 g2;rw[h3];exact Yields.same h ⟨r,h1,h2⟩
  obtain⟨r,h1,h2,h3,_⟩:=Oq (w:=w) hc hn g1 g2;rw[h3];exact Yields.same h ⟨r,h1,h2⟩
 .rename_i x0 i x;obtain⟨r,h1,h2,h3,_⟩:=FX (P:=S.P) (w:=w) hc (fH hr);rw[h3];exact Yields.same h ⟨r,h1,h2⟩
 .rename_i cl;obtain⟨callee,args,argTypes⟩:=cl;simp only at hc;split at hc
  .rename_i b;have hr':AV.relL S.P ⟨w,D,σ.m,E⟩ (vs.map (·.1)) (args.toList.map a.eval):=by simpa[Op.operands,Call.operands]using hr
   obtain⟨cs,e⟩:∃cs,execOp a.eval ⟨dst,.call {callee:=.builtin b,args:=args,argTypes:=argTypes},type,pos,after,guard⟩=builtin b argTypes type cs (args.map a.eval):=⟨_,by simp only[execOp,resolve,pure_bind,invoke];rfl⟩;rw[e,toList_map args a.eval];exact Gv (ty:=type) h hr' hres hc hn hu1
  .rename_i x0 f fs;have hr':AV.relL S.P ⟨w,D,σ.m,E⟩ (f.1::fs.map (·.1)) (a.eval x0::args.toList.map a.eval):=by simpa[Op.operands,Call.operands]using hr
   obtain⟨u,us',e,g1,g2⟩:=hr';simp only[qR]at e;obtain⟨rfl,rfl⟩:=e;obtain⟨f',as,h2,h3⟩:=Gt hK h hc hn hu1 g1 g2;refine .inr (.inr ⟨f',as,w,?_,h3⟩);have e2:execOp a.eval ⟨dst,.call {callee:=.value x0,args:=args,argTypes:=argTypes},type,pos,after,guard⟩=(do let d <- Deferred.ofValue (a.eval x0) (args.toList.map a.eval).toArray;invoke d.target d.args):=by
    simp only[execOp,resolve,toList_map args a.eval]
   rw[e2];exact h2
  .cases hc
 .cases hc
theorem tj{P:Program}{k:Nat}: ∀{ts:List TypeId} {as:List AV},k∈AV.namesL (uM P ts as)->k∈AV.namesL as
 | [],_,h=>h
 | _::_,[],h=>h
 | t::ts,a::as,h=>by
  simp only[uM,AV.namesL,qH]at h ⊢;rcases h with h | h
  .left
   unfold TL at h;split at h
   .split at h
    .simp[AV.names]at h
    .exact h
   .split at h
    .split at h
     .simp only[AV.names,ie]at h;cases h
     .exact h
    .exact h
   .exact h
  .exact .inr (tj h)
theorem om: ∀(l k:List AV),AV.namesL (l++k)=AV.namesL l++AV.namesL k
 | [],_=>rfl
 | a::l,k=>by simp[AV.namesL,om l k]
theorem tw{m m':Nat->Option Blk}: ∀{l:List Nat},(∀k∈l,m' k=m k)->dK m' l=dK m l
 | [],_=>rfl
 | k::l,h=>by
  simp only[dK];rw[h k (by simp),tw (λx hx=>h x (by simp[hx]))]
theorem u5{m m':Nat->Option Blk}{ns:List Nat}(h:∀k∈ns,m' k=m k): ∀u:Mem,RG m' ns u=RG m ns u
 | []=>rfl
 | (k,b)::r=>by
  simp only[RG];rw[u5 h r];by_cases hk:k∈ns
  .rw[h k hk]
  .have hc:ns.contains k=false:=by simpa using hk
   cases m' k<;>cases m k<;>cases RG m ns r<;>simp[hk]
theorem EP{P:Program}{K:Kt}{f:FuncId}{caps:List AV}{k:Nat}{as:List AV}(h:k∈AV.namesL (fJ P K f as caps)): k∈AV.namesL as:=by
 unfold fJ at h;split at h
 .exact h
 .exact tj h
theorem ky{P:Program}{K:Kt}{nx:Nat}{m m':Nat->Option Blk}{f:AV}{args:List AV}(h:∀k,k∈cz m f.names\/k∈cz m (AV.namesL args)->m' k=m k): uT P K nx m' f args=uT P K nx m f args:=by
 unfold uT;split
 .rename_i f caps;have up:∀k∈AV.namesL (fJ P K f args caps++caps),k∈AV.namesL args\/k∈(AV.fn f caps).names:=λk hk=>by
   rw[om,qH]at hk;rcases hk with hk | hk
   .exact .inl (EP hk)
   .exact .inr (by simpa[AV.names]using hk)
  have h2:∀k∈cz m (AV.namesL (fJ P K f args caps++caps)),m' k=m k:=λk hk=>by
   rcases oY hk with g | ⟨j,hj,b,hb,hkb⟩
   .rcases up k g with g | g
    .exact h k (.inr (dc g))
    .exact h k (.inl (dc g))
   .rcases up j hj with g | g
    .exact h k (.inr (rQ g hb hkb))
    .exact h k (.inl (rQ g hb hkb))
  rw[uo (m:=m) (m':=m') (l:=AV.namesL (fJ P K f args caps++caps)) λk hk=>h2 k (dc hk)];have e1:((cz m (AV.namesL (fJ P K f args caps++caps))).all λk=>match m' k with | some b=>lO (cz m (AV.namesL (fJ P K f args caps++caps))) b | none=>true) =
    ((cz m (AV.namesL (fJ P K f args caps++caps))).all λk=>match m k with | some b=>lO (cz m (AV.namesL (fJ P K f args caps++caps))) b | none=>true):=by
   have:∀(l:List Nat),(∀k∈l,m' k=m k)->(l.all λk=>match m' k with | some b=>lO (cz m (AV.namesL (fJ P K f args caps++caps))) b | none=>true) =
     (l.all λk=>match m k with | some b=>lO (cz m (AV.namesL (fJ P K f args caps++caps))) b | none=>true):=by
    intro l;induction l with
    | nil=>intro _;rfl
    | cons x l ih=>
     intro hl;simp only[qAj];rw[hl x (by simp),ih (λk hk=>hl k (by simp[hk]))]
   exact this _ h2
  rw[e1,tw h2];simp only[u5 h2]
 .rfl
 .rfl
 .rfl
theorem Gu{P:Program}{K:Kt}{nx:Nat}{m m':Nat->Option Blk}{f:AV}{args:List AV}(h:∀k,k∈cz m f.names\/k∈cz m (AV.namesL args)->m' k=m k): J8 P K nx m' f args=J8 P K nx m f args:=by
 have h3:JA P K m' f args=JA P K m f args:=by
  unfold JA;rw[ny λk hk=>h k (.inr (dc hk))]
 unfold J8;rw[ky h,ky (f:=jH f) (args:=rE args) (m:=m) (m':=m') (λk hk=>by
  rw[fk,dM]at hk;rcases hk with hk | hk<;>(rcases oY hk with g | ⟨_,g,_⟩<;>cases g)),h3]
theorem uS{P:Program}{K:Kt}{nx:Nat}{m m':Nat->Option Blk}{f:AV}{args:List AV}(h:∀k,k∈cz m f.names\/k∈cz m (AV.namesL args)->m' k=m k): mL P K nx m' f args=mL P K nx m f args:=by
 have sel:∀{t:Ty} {cs:List AV},(∀k,k∈cz m (AV.namesL cs)\/k∈cz m (AV.namesL args)->m' k=m k)->selC P K nx m' args t cs=selC P K nx m args t cs:=by
  intro t cs;induction cs with
  | nil=>intro _;rfl
  | cons c cs ih=>
   intro h;simp only[selC];rw[ky (m:=m) (m':=m') λk hk=>h k (hk.imp (oW λj hj=>by simp[AV.namesL,hj]) id),ih λk hk=>h k (hk.imp (oW λj hj=>by simp[AV.namesL,hj]) id)]
 unfold mL;split
 .rename_i i cs;split
  .rfl
  rename_i c r;have hcs:∀k,k∈cz m (AV.namesL (c::r))\/k∈cz m (AV.namesL args)->m' k=m k:=λk hk=>h k (hk.imp (oW λj hj=>by simpa[AV.names]using hj) id)
  rw[ky (m:=m) (m':=m') λk hk=>hcs k (hk.imp (oW λj hj=>by simp[AV.namesL,hj]) id)];split
  .split
   .rw[sel hcs]
   .rfl
  .rfl
 .exact Gu h
def VZ: Op->Bool
 | .call _=>true
 | .store _ _ _=>true
 | .box _ _=>true
 | _=>false
theorem NG{P:Program}{K:Kt}{mt:Bool}{nx:Nat}{m m':Nat->Option Blk}{o:Op}{vs:List RV}(h:VZ o=true->∀v∈vs,∀k∈cz m v.1.names,m' k=m k): opE P K mt nx m' o vs=opE P K mt nx m o vs:=by
 have hl:∀{l:List RV} {k:Nat},k∈AV.namesL (l.map (·.1))->∃v∈l,k∈v.1.names:=by
  intro l k;induction l with
  | nil=>intro h;simp[AV.namesL]at h
  | cons x l ih=>
   intro h;simp only[zH,AV.namesL,qH]at h;rcases h with h | h
   .exact⟨x,by simp,h⟩
   .obtain⟨v,h1,h2⟩:=ih h;exact⟨v,by simp[h1],h2⟩
 unfold opE;split<;>first | rfl | skip
 .rw[zR (m:=m) (m':=m') λk hk=>h rfl _ (by simp) k (dc hk)]
 .rw[sd (m:=m) (m':=m') λk hk=>h rfl _ (by simp) k (dc hk)]
 split<;>first | rfl | skip
 refine uS λk hk=>?_
 rcases hk with hk | hk
 .exact h rfl _ (by simp) k hk
 .rcases oY hk with g | ⟨j,hj,b,hb,hkb⟩
  .obtain⟨v,h1,h2⟩:=hl g;exact h rfl v (by simp[h1]) k (dc h2)
  .obtain⟨v,h1,h2⟩:=hl hj;exact h rfl v (by simp[h1]) k (rQ h2 hb hkb)
end Go.Eng
namespace Go.Eng
section
variable {σ:Type} (step:Nat->σ->σ)
def fh(done:Nat->Bool): Nat->σ->σ
 | 0,s=>s
 | k+1,s=>if done k then step k (fh done k s)else fh done k s
def PZ: Nat->Bool:=λ_=>true
theorem mo{d d':Nat->Bool}: ∀(k:Nat) (s:σ),(∀i,i<k->d i=d' i)->fh step d k s=fh step d' k s
 | 0,_,_=>rfl
 | k+1,s,h=>by
  simp only[fh];rw[mo k s (λi hi=>h i (by omega)),h k (by omega)]
variable {step}
structure Orders (step:Nat->σ->σ) (n:Nat) (anc:Nat->Nat->Bool) (Rok U:Nat->σ->Prop) (s0:σ):Prop where
 comm:∀i j,i<j->j<n->anc i j=false->∀s,step j (step i s)=step i (step j s)
 rk1:∀i j,i<j->j<n->anc i j=false->∀s,Rok j (step i s)↔Rok j s
 rk2:∀i j,i<j->j<n->anc i j=false->∀s,Rok i (step j s)↔Rok i s
 u:∀i j,i<n->j<n->i≠j->(i<j\/anc j i=false)->∀s,U j s->U j (step i s)
 lex:∀j,j<n->Rok j (fh step PZ j s0)
 u0:∀j,j<n->U j s0
variable {n:Nat} {anc:Nat->Nat->Bool} {Rok U:Nat->σ->Prop} {s0:σ}
theorem Hk(H:Orders step n anc Rok U s0){done:Nat->Bool}(hd:∀i j,i<j->j<n->anc i j=true->done j=true->done i=true): ∀k,k<=n->
  ∃l:List Nat,(∀i∈l,i<k/\done i=false)/\fh step PZ k s0=l.foldl (λs i=>step i s) (fh step done k s0)
 | 0,_=>⟨[],by simp,rfl⟩
 | k+1,hk=>by
  obtain⟨l,h1,h2⟩:=Hk H hd k (by omega);cases hdk:done k with
  | false=>
   refine⟨l++[k],λi hi=>?_,?_⟩
   .rcases qH.1 hi with g | g
    .exact⟨by have:=(h1 i g).1;omega,(h1 i g).2⟩
    .simp at g;subst g;exact⟨Nat.lt_succ_self _,hdk⟩
   .simp only[fh,PZ,xU,hdk,vT,yQ,qBu,xQ,List.foldl_nil];rw[<- h2]
  | true=>
   refine⟨l,λi hi=>⟨by have:=(h1 i hi).1;omega,(h1 i hi).2⟩,?_⟩;have key:∀(l:List Nat) (s:σ),(∀i∈l,i<k/\done i=false)->step k (l.foldl (λs i=>step i s) s)=l.foldl (λs i=>step i s) (step k s):=by
    intro l;induction l with
    | nil=>intro s _;rfl
    | cons i l ih=>
     intro s hl;have hi:=hl i (by simp);have hna:anc i k=false:=by
      cases ha:anc i k with
      | false=>rfl
      | true=>have:=hd i k hi.1 (by omega) ha hdk;rw[hi.2]at this;cases this
     simp only[xQ];rw[ih (step i s) (λq hq=>hl q (by simp[hq])),H.comm i k hi.1 (by omega) hna]
   show fh step PZ (k+1) s0=l.foldl (λs i=>step i s) (fh step done (k+1) s0);have e1:fh step PZ (k+1) s0=step k (fh step PZ k s0):=rfl;have e2:fh step done (k+1) s0=step k (fh step done k s0):=by show(if done k then _ else _)=_;rw[if_pos hdk]
   rw[e1,e2,h2,key l _ h1]
theorem Bj(H:Orders step n anc Rok U s0){done:Nat->Bool}(hd:∀i j,i<j->j<n->anc i j=true->done j=true->done i=true){j:Nat}(hj:j<n)(hdj:done j=false)
  (hpre:∀i,i<j->anc i j=true->done i=true):
  Rok j (fh step done n s0)/\U j (fh step done n s0)/\fh step (λi=>if i=j then true else done i) n s0=step j (fh step done n s0):=by
 have notAnc:∀i,j<i->i<n->done i=true->anc j i=false:=λi h1 h2 h3=>by
  cases ha:anc j i with
  | false=>rfl
  | true=>have:=hd j i h1 h2 ha h3;rw[hdj]at this;cases this
 refine⟨?_,?_,?_⟩
 ·
  obtain⟨l,h1,h2⟩:=Hk H hd j (by omega);have hl:=H.lex j hj;rw[h2]at hl;have back:∀(l:List Nat) (s:σ),(∀i∈l,i<j/\done i=false)->Rok j (l.foldl (λs i=>step i s) s)->Rok j s:=by
   intro l;induction l with
   | nil=>intro s _ h;exact h
   | cons i l ih=>
    intro s hl h;have hi:=hl i (by simp);have hna:anc i j=false:=by
     cases ha:anc i j with
     | false=>rfl
     | true=>have:=hpre i hi.1 ha;rw[hi.2]at this;cases this
    have:=ih (step i s) (λq hq=>hl q (by simp[hq])) h;exact(H.rk1 i j hi.1 hj hna s).1 this
  have h3:Rok j (fh step done j s0):=back l _ h1 hl;have fwd:∀k,j<=k->k<=n->Rok j (fh step done k s0):=by
   intro k hjk;induction k with
   | zero=>
     intro _;have:j=0:=by omega
     subst this;exact h3
   | succ k ih=>
    intro hk;rcases zC k j with hlt | hge
    .have:j=k+1:=by omega
     subst this;exact h3
    .have g:=ih hge (by omega);simp only[fh];split
     .rename_i hdk;have hne:j≠k:=λe=>by subst e;rw[hdj]at hdk;cases hdk
      exact(H.rk2 j k (by omega) (by omega) (notAnc k (by omega) (by omega) hdk) _).2 g
     .exact g
  exact fwd n (by omega) (qJ _)
 .have all:∀k,k<=n->U j (fh step done k s0):=by
   intro k;induction k with
   | zero=>intro _;exact H.u0 j hj
   | succ k ih=>
    intro hk;have g:=ih (by omega);simp only[fh];split
    .rename_i hdk;have hne:k≠j:=λe=>by subst e;rw[hdj]at hdk;cases hdk
     refine H.u k j (by omega) hj hne ?_ _ g;rcases zC k j with h | h
     .exact .inl h
     .exact .inr (notAnc k (by omega) (by omega) hdk)
    .exact g
  exact all n (qJ _)
 .have low:∀k,k<=j->fh step (λi=>if i=j then true else done i) k s0=fh step done k s0:=λk hk=>
   mo step k s0 (λi hi=>if_neg (by omega))
  have all:∀k,j+1<=k->k<=n->fh step (λi=>if i=j then true else done i) k s0=step j (fh step done k s0):=by
   intro k hjk;induction k with
   | zero=>omega
   | succ k ih=>
    intro hk;rcases zC j k with hlt | hge
    .have g:=ih hlt (by omega);have hkj:(k=j)=False:=by simp;omega
     simp only[fh,hkj,yQ];rw[g];split
     .rename_i hdk;exact H.comm j k hlt (by omega) (notAnc k hlt (by omega) hdk) _
     .rfl
    .have e:k=j:=by omega
     subst e;simp only[fh,xU,hdj,vT,yQ];rw[low k (qJ _)]
  exact all n (by omega) (qJ _)
end
end Go.Eng
namespace Go.Eng
open Go
abbrev Any: Machine->Prop:=λ_=>True
def At(P:Program)(ro:Option Nat)(c:Code)(Q:Exit->Act->World->Prop)(a:Act)(w:World): Prop:=
 ∀(b:Frame) (k:List Item) (cs:List Frame),b.roundOf=ro->(P.funcs[b.fn]?).isSome=true->
  ∃e a' w',Q e a' w'/\ArrivesIn Any P (lone (b.atR a (.code c::k)) cs w) b k cs e a' w'
theorem toAny{I:Machine->Prop}{P:Program}{m m':Machine}(h:StepsIn I P m m'): StepsIn Any P m m':=h.mono λ_ _=>trivial
theorem fV{P:Program}{m m':Machine}(h:step P m=.next m'): StepsIn Any P m m':=.one trivial h
theorem TJ{P:Program}{m m':Machine}(h:StepsIn Any P m m'): StepsIn (Machine.fenced P Fence.wide) P m m':=h.mono λ_ _=>fenced_wide P _
theorem Kx{I:Machine->Prop}{P:Program}{m:Machine}{b:Frame}{k:List Item}{cs:List Frame}{e:Exit}{a:Act}{w:World}(h:ArrivesIn I P m b k cs e a w): ArrivesIn Any P m b k cs e a w:=by
 cases e with
 | normal=>exact toAny h
 | exit id=>exact⟨λk' hk=>toAny (h.1 k' hk),λhr hk=>let⟨k₁,h1,h2⟩:=h.2 hr hk;⟨k₁,h1,toAny h2⟩⟩
 | goto l=>exact⟨λk' hk=>toAny (h.1 k' hk),λhr hk=>let⟨k₁,h1,h2⟩:=h.2 hr hk;⟨k₁,h1,toAny h2⟩⟩
 | ret=>exact⟨λhr=>let⟨t,h1⟩:=h.1 hr;⟨t,toAny h1⟩,λhr=>let⟨t,h1⟩:=h.2 hr;⟨t,toAny h1⟩⟩
 | panic ch=>exact let⟨t,h1⟩:=h;⟨t,toAny h1⟩
 | outgrown=>exact h
section
variable {P:Program} {ro:Option Nat} {Q:Exit->Act->World->Prop} {a:Act} {w:World}
theorem PI{F:Fence}{n:Nat}{c:Code}(hro:F.round=ro)(hfn:∀f,F.fn f)(hd:F.depth=none)(h:c.wpIn F n P Q a w): At P ro c Q a w:=λb k cs hb _=>
 let⟨e,a',w',q,r⟩:=h b k cs (hb.trans hro.symm) (hfn _) (λd g=>by rw[hd]at g;cases g)
 ⟨e,a',w',q,Kx r⟩
theorem EK{m:Machine}{b:Frame}{x:Item}{k:List Item}{cs:List Frame}{e:Exit}{a:Act}{w:World}(hx:x.plain=true)(he:e≠.normal)(h:ArrivesIn Any P m b (x::k) cs e a w): ArrivesIn Any P m b k cs e a w:=
 .pass hx (λ_ _=>.inl he) h
theorem uA{x y:Code}(h:At P ro x (Exit.then (At P ro y Q) Q) a w): At P ro (.seq x y) Q a w:=λb k cs hb hf=>by
 obtain⟨e,a1,w1,hq,r⟩:=h b (.code y::k) cs hb hf;have s0:StepsIn Any P (lone (b.atR a (.code (.seq x y)::k)) cs w) (lone (b.atR a (.code x::.code y::k)) cs w):=fV stepR_seq;by_cases hn:e=.normal
 .subst hn;obtain⟨e2,a2,w2,q2,r2⟩:=hq b k cs hb hf;exact⟨e2,a2,w2,q2,.of_steps (s0.trans r) r2⟩
 .refine⟨e,a1,w1,?_,.of_steps s0 (EK rfl hn r)⟩;cases e<;>first | exact(hn rfl).elim | exact hq
theorem Zr{c:Operand}{x y:Code}{t:Bool}(hc:a.eval c=.bool t)(h1:t=true->At P ro x Q a w)(h2:t=false->At P ro y Q a w): At P ro (.cond c x y) Q a w:=λb k cs hb hf=>by
 have h:At P ro (if t then x else y) Q a w:=by cases t with | true=>exact h1 rfl | false=>exact h2 rfl
 obtain⟨e,a1,w1,hq,r⟩:=h b k cs hb hf;exact⟨e,a1,w1,hq,.of_steps (fV (stepR_cond hc)) r⟩
theorem Iq{id:Nat}{c:Code}(h:At P ro c (Exit.inBlock id Q) a w): At P ro (.block id c) Q a w:=λb k cs hb hf=>by
 obtain⟨e,a1,w1,hq,r⟩:=h b (.inBlock id::k) cs hb hf;have s0:StepsIn Any P (lone (b.atR a (.code (.block id c)::k)) cs w) (lone (b.atR a (.code c::.inBlock id::k)) cs w):=fV stepR_block;cases e with
 | normal=>exact⟨.normal,a1,w1,hq,s0.trans (StepsIn.trans r (fV stepR_inBlock))⟩
 | exit j=>
  by_cases hj:j=id
  .replace hq:Q .normal a1 w1:=by simpa only[Exit.inBlock,hj,xU]using hq
   exact⟨.normal,a1,w1,hq,s0.trans (r.1 k (by simp[exitTo,hj]))⟩
  .replace hq:Q (.exit j) a1 w1:=by simpa only[Exit.inBlock,hj,yQ]using hq
   have hx:exitTo j (.inBlock id::k)=exitTo j k:=by simp[exitTo,Ne.symm hj]
   exact⟨.exit j,a1,w1,hq,λk' hk=>s0.trans (r.1 k' (hx.trans hk)),λg hk=>let⟨k1,g1,g2⟩:=r.2 g (hx.trans hk);⟨k1,g1,s0.trans g2⟩⟩
 | goto l=>
  have hx:gotoIn l (.inBlock id::k)=gotoIn l k:=by simp[gotoIn]
  exact⟨.goto l,a1,w1,hq,λk' hk=>s0.trans (r.1 k' (hx.trans hk)),λg hk=>let⟨k1,g1,g2⟩:=r.2 g (hx.trans hk);⟨k1,g1,s0.trans g2⟩⟩
 | ret=>exact⟨_,a1,w1,hq,.of_steps s0 r⟩
 | panic ch=>exact⟨_,a1,w1,hq,.of_steps s0 r⟩
 | outgrown=>exact⟨_,a1,w1,hq,.of_steps s0 r⟩
theorem U5{c:Code}(h:At P ro c (λe a w=>match e with | .goto _=>False | e=>Q e a w) a w): At P ro (.scope c) Q a w:=λb k cs hb hf=>by
 obtain⟨e,a1,w1,hq,r⟩:=h b (.inScope c::k) cs hb hf;have s0:StepsIn Any P (lone (b.atR a (.code (.scope c)::k)) cs w) (lone (b.atR a (.code c::.inScope c::k)) cs w):=fV (step_lone_go (by simp[stepG,stepG.exec,Frame.atR]));cases e with
 | normal=>exact⟨.normal,a1,w1,hq,s0.trans (StepsIn.trans r (fV (step_lone_go (by simp[stepG,stepG.exec,Frame.atR]))))⟩
 | exit j=>
  have hx:exitTo j (.inScope c::k)=exitTo j k:=by simp[exitTo]
  exact⟨.exit j,a1,w1,hq,λk' hk=>s0.trans (r.1 k' (hx.trans hk)),λg hk=>let⟨k1,g1,g2⟩:=r.2 g (hx.trans hk);⟨k1,g1,s0.trans g2⟩⟩
 | goto l=>exact hq.elim
 | ret=>exact⟨_,a1,w1,hq,.of_steps s0 r⟩
 | panic ch=>exact⟨_,a1,w1,hq,.of_steps s0 r⟩
 | outgrown=>exact⟨_,a1,w1,hq,.of_steps s0 r⟩
theorem at_loop{c:Code}(I:Nat->Act->World->Prop)(n0:Nat)(h0:I n0 a w)(round:∀n a w,I n a w->At P ro c (Exit.then (λa' w'=>∃n',n'<n/\I n' a' w') Q) a w): At P ro (.loop c) Q a w:=λb k cs hb hf=>by
 have main:∀(n:Nat),∀m,m<=n->∀a w,I m a w->∃e a' w',Q e a' w'/\ArrivesIn Any P (lone (b.atR a (.code c::.inLoop c::k)) cs w) b k cs e a' w':=by
  intro n;induction n with
  | zero=>
   intro m hm a w hI;obtain⟨e,a1,w1,hq,r⟩:=round m a w hI b (.inLoop c::k) cs hb hf;by_cases hn:e=.normal
   .subst hn;obtain⟨n',h1,_⟩:=hq;exact absurd h1 (by omega)
   .refine⟨e,a1,w1,?_,EK rfl hn r⟩;cases e<;>first | exact(hn rfl).elim | exact hq
  | succ n ih=>
   intro m hm a w hI;obtain⟨e,a1,w1,hq,r⟩:=round m a w hI b (.inLoop c::k) cs hb hf;by_cases hn:e=.normal
   .subst hn;obtain⟨n',h1,h2⟩:=hq;obtain⟨e2,a2,w2,q2,r2⟩:=ih n' (by omega) a1 w1 h2;exact⟨e2,a2,w2,q2,.of_steps (StepsIn.trans r (fV stepR_inLoop)) r2⟩
   .refine⟨e,a1,w1,?_,EK rfl hn r⟩;cases e<;>first | exact(hn rfl).elim | exact hq
 obtain⟨e,a',w',hq,r⟩:=main n0 n0 (qJ _) a w h0;exact⟨e,a',w',hq,.of_steps (fV stepR_loop) r⟩
end
def VC(P:Program)(l:Nat)(R:Ending->World->Prop): Exit->Act->World->Prop
 | .panic ch,a,w=>a.defers=[]/\R (.panicked ch) w
 | e,a,w=>roundPost P l R e a w
theorem Hn{P:Program}{l:Nat}{f:FuncId}{tmps:Array Value}{assign body:Code}{w:World}{R:Ending->World->Prop}(hf:(P.funcs[f]?).isSome=true)
  (h:At P (some l) assign (Exit.then (λa1 w1=>∃w2,(Instr.beginRound l).run P w1=.ok () w2/\At P (some l) body (VC P l R) a1 w2) (λ_ _ _=>False)) {tmps:=tmps,defers:=[]} w):
  RoundIn Fence.wide 0 P l f tmps assign body w R:=by
 refine⟨trivial,λc cs _=>?_⟩;obtain⟨b,hb⟩:∃b:Frame,b={ (default:Frame)with fn:=f,kind:=.normal,roundOf:=some l}:=⟨_,rfl⟩;have hr:b.roundOf=some l:=by rw[hb]
 have hfn:b.fn=f:=by rw[hb]
 have e0:Frame.round l f tmps assign body .normal=b.atR {tmps:=tmps,defers:=[]} [.code assign,.beginRound,.code body]:=by rw[hb];simp[Frame.round,Frame.atR]
 obtain⟨e,a1,w1,hq,r⟩:=h b [.beginRound,.code body] (c::cs) hr (by rw[hfn];exact hf);rw[<- e0]at r;cases e<;>first | exact hq.elim | skip
 obtain⟨w2,hbr,hbody⟩:=hq;have s1:StepsIn Any P (lone (Frame.round l f tmps assign body .normal) (c::cs) w) (lone (b.atR a1 [.code body]) (c::cs) w2):=StepsIn.trans r (fV (stepR_beginRound hr hbr));obtain⟨e2,a2,w3,q2,r2⟩:=hbody b [] (c::cs) hr (by rw[hfn];exact hf)
 have done:∀{v:Value} {w4:World} {m:Machine},StepsIn Any P (lone (b.atR a1 [.code body]) (c::cs) w2) m->step P m=.next (lone (c.finish v) cs w4)->R (.returned v) w4->
   ∃e w',R e w'/\ComesIn (Machine.fenced P Fence.wide) P (lone (Frame.round l f tmps assign body .normal) (c::cs) w) (match e with | .returned v=>lone (c.finish v) cs w' | .panicked chain=>lone (c.raise chain) cs w' | .outgrown=>lone c cs w') e:=
  λ{v w4 _} g1 g2 g3=>⟨.returned v,w4,g3,TJ (s1.trans (g1.trans (fV g2)))⟩
 cases e2 with
 | normal=>
  obtain⟨v,w4,hend,hR⟩:=q2;exact done r2 (stepR_round_end hr (by rw[hb]) hend) hR
 | ret=>
  obtain⟨v,w4,hend,hR⟩:=q2;obtain⟨k1,hs⟩:=r2.2 (by rw[hr];rfl);exact done hs (stepR_round_ret hr (by rw[hb]) hend) hR
 | exit id=>
  obtain⟨v,w4,hend,hR⟩:=q2;obtain⟨k1,hk,hs⟩:=r2.2 (by rw[hr];rfl) rfl;exact done hs (stepR_round_exit hr (by rw[hb]) hk hend) hR
 | goto t=>
  obtain⟨v,w4,hend,hR⟩:=q2;obtain⟨k1,hk,hs⟩:=r2.2 (by rw[hr];rfl) rfl;exact done hs (stepR_round_goto hr (by rw[hb]) hk hend) hR
 | panic ch=>
  obtain⟨hd,hR⟩:=q2;obtain⟨todo,hs⟩:=r2;refine⟨.panicked ch,w3,hR,TJ (s1.trans (hs.trans (fV (step_leave_panicked ⟨rfl,hd,?_⟩))))⟩;have:(P.funcs[b.fn]?).isSome=true:=by rw[hfn];exact hf
  exact qAc.1 this
 | outgrown=>exact q2.elim
theorem at_range{P:Program}{ro:Option Nat}{g:Operand}{ps:Array Tmp}{assign body:Code}{Q:Exit->Act->World->Prop}{a:Act}{w:World}
  (h:∀fn,(P.funcs[fn]?).isSome=true->∃(l:Nat) (mark:List Deferred) (w1:World) (d:Deferred) (w1':World) (f:FuncId) (args:Array Value) (w2:World),
   (Instr.enterLoop fn a.tmps ps assign body ro).run P w=.ok (l,mark) w1/\(resolve a.eval (rangeCall g l) 0).run P w1=.ok d w1'/\(invoke d.target d.args).run P w1'=.ok (.enter f args) w2/\
   CallsIn Fence.wide 0 P f args w2 λe w3=>match e with
    | .returned _=>∃jump w4,(Instr.endLoop l).run P w3=.ok jump w4/\(match jump with | none=>Q .normal {a with defers:=mark++a.defers} w4 | some c=>At P ro c Q {a with defers:=mark++a.defers} w4)
    | .panicked ch=>Q (.panic ch) {a with defers:=mark++a.defers} w3
    | .outgrown=>False):At P ro (.rangeFunc g ps assign body) Q a w:=λb k cs hb hf=>by
 obtain⟨l,mark,w1,d,w1',f,args,w2,he,hres,hinv,_,hcall⟩:=h b.fn hf;rw[<- hb]at he;have s0:=fV (stepR_rangeFunc (P:=P) (b:=b) (a:=a) (k:=k) (cs:=cs) (w:=w) he hres hinv);obtain⟨e,w3,fr,hR,hst,_,hlv⟩:=hcall (b.atR {a with defers:=mark++a.defers} (.inRangeFunc l::k)::cs) (room_wide _);cases e with
 | outgrown=>exact hR.elim
 | returned v=>
  obtain⟨jump,w4,hend,hj⟩:=hR;have s1:StepsIn Any P (lone fr (b.atR {a with defers:=mark++a.defers} (.inRangeFunc l::k)::cs) w3) (lone (b.atR {a with defers:=mark++a.defers} (.endRangeFunc l::k)) cs w3):=by
   rw[<- finish_atR_inRangeFunc l v];exact fV (step_leave_returned hlv)
  have s2:=(s0.trans (toAny hst)).trans (s1.trans (fV (stepR_endRangeFunc hend)));cases jump with
  | none=>exact⟨.normal,_,w4,hj,s2⟩
  | some c=>
   obtain⟨e',a'',w5,hq,r⟩:=hj b k cs hb hf;exact⟨e',a'',w5,hq,.of_steps s2 r⟩
 | panicked ch=>
  refine⟨.panic ch,_,w3,hR,.inRangeFunc l::k,(s0.trans (toAny hst)).trans (fV ?_)⟩;rw[<- Frame.raise_atR];exact step_leave_panicked hlv
theorem rR{P:Program}{f:FuncId}{fn:Func}{c:Code}{args:Array Value}{w:World}{R:Ending->World->Prop}(hf:P.funcs[f]?=some fn)(hb:fn.body=some c)
  (h:At P none c (bodyPostM Fence.wide 0 P fn R) {tmps:=args++Array.replicate (fn.ntmps-args.size) undef,defers:=[]} w):CallsIn Fence.wide 0 P f args w R:=by
 refine⟨trivial,λcs hr=>?_⟩;obtain⟨b,hB⟩:∃b:Frame,b={ (default:Frame)with fn:=f,kind:=.normal,roundOf:=none}:=⟨_,rfl⟩;have hfn:b.fn=f:=by rw[hB]
 have hk:b.kind=.normal:=by rw[hB]
 have hro:b.roundOf=none:=by rw[hB]
 have e0:Frame.enter P f args .normal=b.atR {tmps:=args++Array.replicate (fn.ntmps-args.size) undef,defers:=[]} [.code c]:=by rw[hB];simp[Frame.enter,Frame.atR,hf,hb]
 obtain⟨e,a',w',hq,r⟩:=h b [] cs hro (by rw[hfn,hf];rfl);rw[<- e0]at r;have out:∀(m:FrameMode) (todo:List Item),m≠.run->LeavesInM Fence.wide 0 P fn a'.tmps R a'.defers m w'->StepsIn Any P (lone (Frame.enter P f args .normal) cs w) (lone {b.atR a' todo with mode:=m} cs w')->
   ∃e w' fr,R e w'/\ComesIn (Machine.fenced P Fence.wide) P (lone (Frame.enter P f args .normal) cs w) (lone fr cs w') e/\fr.fn=f/\fr.leaving P w' e:=λm todo _ hl hs=>by
  obtain⟨e',w'',fr',hR',g1,g2,g3⟩:=leaves_stepsInM (F:=Fence.wide) (n:=0) a'.defers m w' {b.atR a' todo with mode:=m} cs rfl rfl rfl (by rw[show({b.atR a' todo with mode:=m}:Frame).fn=f from hfn];exact hf) hk trivial hr hl;exact⟨e',w'',fr',hR',ComesIn.of_steps (TJ hs) g1,g2.trans hfn,g3⟩
 cases e with
 | normal=>exact out .returning [] (by simp) hq (StepsIn.trans r (fV (stepR_end hro)))
 | ret=>
  obtain⟨todo,hs⟩:=r.1 hro;exact out .returning todo (by simp) hq hs
 | panic ch=>
  obtain⟨todo,hs⟩:=r;exact out (.panicking ch) todo (by simp) hq hs
 | exit id=>exact hq.elim
 | goto l=>exact hq.elim
 | outgrown=>exact⟨.outgrown,w',b,hq,r.resolve_left (by rw[hk];simp),hfn,trivial⟩
end Go.Eng
namespace Go.Eng
open Go.RowKit
structure Rec where
 dst:Option Tmp
 val:AV
 upd:List (Nat×Blk)
 new:Option Nat
 reads:List Tmp
 fp:List Nat
 need:List Prop
def dQ(r:Rec)(s:Sig): Sig:=⟨upT s.T r.dst r.val,upM s.m r.upd,s.sv⟩
def DT: AV->AV
 | .pin _ a=>a
 | a=>a
theorem LP{P:Program}{C:Ctx}{a:AV}{v:Value}(h:a.rel P C v): (DT a).rel P C v:=by
 unfold DT;split
 .exact h.2
 .exact h
theorem DR(a:AV): (DT a).names=a.names:=by
 unfold DT;split<;>simp[AV.names]
def evT(G:List (Nat×AV))(T:Nat->AV): Operand->AV
 | .tmp t=>DT (T t)
 | .const v=>Bv v
 | .global g=>match G.lookup g with
  | some a=>a
  | none=>.val (.pointer (some ⟨g,0,none⟩))
 | .func f=>.fn f []
theorem tD{β:Type}{l:List (Nat×β)}{k:Nat}{b:β}(h:l.lookup k=some b): (k,b)∈l:=by
 induction l with
 | nil=>simp at h
 | cons p l ih=>
  obtain⟨p1,p2⟩:=p;simp only[List.lookup]at h;split at h
  .rename_i e;cases h;have:k=p1:=by simpa using e
   subst this;simp
  .exact zA _ (ih h)
theorem dN{S:Base}{σ:Sig}{a:Act}{w:World}{D:Nat->Prop}{E:Nat->Ent}(h:aH S σ a w D E)(x:Operand): (evT S.G σ.T x).rel S.P ⟨w,D,σ.m,E⟩ (a.eval x):=by
 cases x with
 | tmp t=>exact LP (h.tm t)
 | const v=>exact Bt v
 | global g=>
  simp only[evT];split
  .rename_i av hg;exact(h.gl _ (tD hg)).2
  .exact rfl
 | func f=>exact⟨[],rfl,rfl⟩
theorem OQ{G:List (Nat×AV)}(hG:∀p∈G,p.2.names=[]){T:Nat->AV}{k:Nat}(h:∀t,k∉(T t).names)(x:Operand): k∉(evT G T x).names:=by
 cases x with
 | tmp t=>simp only[evT,DR];exact h t
 | const v=>cases v<;>simp[evT,Bv,AV.names]
 | global g=>
  simp only[evT];split
  .rename_i av hg;rw[hG _ (tD hg)];simp
  .simp[AV.names]
 | func f=>simp[evT,AV.names,AV.namesL]
def eqW(b:Bool): Bool->Bool
 | true=>b
 | false=>!b
def KG(T:Nat->AV)(ops:Array Oper): Option (Nat×Bool)->Option Bool
 | none=>some true
 | some (k,want)=>match(ops[k]?).bind (·.dst)with
  | some d=>match T d with
   | .dat .bool b=>some (eqW b want)
   | .grd g (.dat .bool b)=>some (g&&eqW b want)
   | _=>none
  | none=>none
theorem zj{S:Base}{σ:Sig}{a:Act}{w:World}{D:Nat->Prop}{E:Nat->Ent}(h:aH S σ a w D E){ops:Array Oper}{o:Oper}{g:Bool}(hg:KG σ.T ops o.guard=some g):
  Region.wanted o (yielded ops a.tmps)=g:=by
 unfold KG at hg;unfold Region.wanted;split at hg
 .rename_i hgd;cases hg;rw[hgd]
 .rename_i k want hgd;rw[hgd];simp only;split at hg
  .rename_i d hd;have hy:yielded ops a.tmps k=match a.tmps[d]? with | some (.bool b)=>some b | _=>none:=by
    unfold yielded;rw[hd];rfl
   rw[hy];have hrel:=h.tm d;split at hg
   .rename_i b hT;cases hg;rw[hT]at hrel;simp only[AV.rel,ah,qR,vP]at hrel;have:a.tmps[d]?=some (.bool b):=by
     rw[qK]at hrel;cases hq:a.tmps[d]? with
     | none=>rw[hq]at hrel;cases hrel
     | some v=>rw[hq]at hrel;simp at hrel;rw[hrel]
    rw[this];simp only[];cases b<;>cases want<;>rfl
   .rename_i g' b hT;cases hg;rw[hT]at hrel;obtain⟨h1,h2⟩:=hrel;cases g' with
    | true=>
     have hrel:=h1 rfl;simp only[AV.rel,ah,qR,vP]at hrel;have:a.tmps[d]?=some (.bool b):=by
      rw[qK]at hrel;cases hq:a.tmps[d]? with
      | none=>rw[hq]at hrel;cases hrel
      | some v=>rw[hq]at hrel;simp at hrel;rw[hrel]
     rw[this];simp only[];cases b<;>cases want<;>rfl
    | false=>
     have hv:=h2 rfl;rw[qK]at hv;cases hq:a.tmps[d]? with
     | none=>rfl
     | some v=>
      rw[hq]at hv;simp at hv;subst hv;rfl
   .cases hg
  .cases hg
def ug(g:Bool): AV->AV×List Prop
 | .grd g' v=>(v,[g=true->g'=true])
 | v=>(v,[])
theorem mT{P:Program}{C:Ctx}{g:Bool}{a:AV}{v:Value}(hg:g=true)(hn:∀q∈(ug g a).2,q)(h:a.rel P C v): (ug g a).1.rel P C v:=by
 cases a<;>first
  | exact h
  | exact h.1 ((hn _ (vG.2 rfl)) hg)
theorem RJ(g:Bool)(a:AV): (ug g a).1.names=a.names:=by
 unfold ug;split
 .simp[AV.names]
 .rfl
def aBG(x:Bool): AV->AV->Option AV
 | .dat t u,.dat t' v=>if h:t'=t then some (.dat t (bif x then u else h▸v))else none
 | _,_=>none
def YG(g:Bool)(c a b:AV): Option Core:=
 match ug g c with
 | (.dat .bool x,nc)=>
  match aBG x (ug (g&&x) a).1 (ug (g&&!x) b).1 with
  | some v=>some {need:=nc++(ug (g&&x) a).2++(ug (g&&!x) b).2,val:=v}
  | none=>none
 | _=>none
theorem Tz{P:Program}{C:Ctx}{w:World}{g:Bool}{c a b:AV}{core:Core}{u v1 v2:Value}(hg:g=true)(hc:YG g c a b=some core)(hn:∀q∈core.need,q)
  (h0:c.rel P C u) (h1:a.rel P C v1) (h2:b.rel P C v2):
  core.upd=[]/\core.new=none/\∃r,(do pure (Next.value (if <- asBool u then v1 else v2)):Sem Next).run P w=.ok (.value r) w/\core.val.rel P C r:=by
 unfold YG at hc;split at hc
 .rename_i x nc hu;split at hc
  .rename_i vv hv;cases hc;have hx:=mT hg (λq hq=>hn q (by rw[hu]at hq;simp[hq])) h0;rw[hu]at hx;simp only[AV.rel,ah,qR,vP]at hx;subst hx;refine⟨rfl,rfl,if x=true then v1 else v2,by simp[asBool],?_⟩;unfold aBG at hv;split at hv
   .rename_i t p t' q hp hq;split at hv
    .rename_i ht;subst ht;cases hv;cases x with
     | true=>
      have:=mT (g:=g&&true) (by rw[hg];rfl) (λq hq=>hn q (qH.2 (.inl (qH.2 (.inr hq))))) h1;rw[hp]at this;simpa using this
     | false=>
      have:=mT (g:=g&&!false) (by rw[hg];rfl) (λq hq=>hn q (qH.2 (.inr hq))) h2;rw[hq]at this;simpa using this
    .cases hv
   .cases hv
  .cases hc
 .cases hc
def LS: Operand->List Tmp
 | .tmp t=>[t]
 | _=>[]
def VQ: Op->Bool
 | .pick _ _ _=>true
 | _=>false
def JZ(P:Program)(K:Kt)(mt:Bool)(nx:Nat)(m:Nat->Option Blk)(g:Bool)(op:Op)(raw:List AV): Option Core:=
 match VQ op,raw with
 | true,[c,a,b]=>YG g c a b
 | true,_=>none
 | false,raw=>match opE P K mt nx m op (raw.map λv=>((ug g v).1,ct m (ug g v).1))with
  | some c=>some {c with need:=(raw.flatMap λv=>(ug g v).2)++c.need}
  | none=>none
def aCN: AV->List Nat
 | .buf nm _=>[nm]
 | .view nm _=>[nm]
 | .ptr nm _ _ _=>[nm]
 | .row nm _ _ _=>[nm]
 | .rptr nm _ _ _ _=>[nm]
 | _=>[]
def Qe(m:Nat->Option Blk)(o:Op)(v:AV): List Nat:=if VZ o=true then cz m v.names else aCN v
theorem I3{v:AV}{k:Nat}(h:k∈aCN v): k∈v.names:=by
 cases v<;>first | exact h | cases h
theorem Xv{m:Nat->Option Blk}{o:Op}{v:AV}{k:Nat}(h:k∈aCN v): k∈Qe m o v:=by
 unfold Qe;split
 .exact dc (I3 h)
 .exact h
def rM(ops:Array Oper): Option (Nat×Bool)->List Tmp
 | none=>[]
 | some (k,_)=>match(ops[k]?).bind (·.dst)with
  | some d=>[d]
  | none=>[]
def EY(o:Oper)(g:Bool)(reads:List Tmp)(fp:List Nat)(c:Core): Option Rec:=
 match o.guard with
 | none=>some {dst:=o.dst,val:=c.val,upd:=c.upd,new:=c.new,reads:=reads,fp:=fp,need:=c.need}
 | some _=>match c.upd,c.new with
  | [],none=>some {dst:=o.dst,val:=.grd g c.val,upd:=[],new:=none,reads:=reads,fp:=fp,need:=c.need.map λp=>(g=true->p)}
  | _,_=>none
def gn(P:Program)(G:List (Nat×AV))(K:Kt)(mt:Bool)(ops:Array Oper)(nx:Nat)(s:Sig)(o:Oper): Option Rec:=
 match KG s.T ops o.guard with
 | some g=>match JZ P K mt nx s.m g o.op (o.op.operands.toList.map (evT G s.T))with
  | some c=>EY o g (o.op.operands.toList.flatMap LS++rM ops o.guard) (o.op.operands.toList.flatMap λx=>Qe s.m o.op (ug g (evT G s.T x)).1) c
  | none=>none
 | none=>none
theorem sh{P:Program}{G:List (Nat×AV)}{K:Kt}{mt:Bool}{ops:Array Oper}{nx:Nat}{s s':Sig}{o:Oper}{r:Rec}(h:gn P G K mt ops nx s o=some r)
  (h1:∀t∈r.reads,s'.T t=s.T t) (h2:∀nm∈r.fp,s'.m nm=s.m nm):gn P G K mt ops nx s' o=some r:=by
 have hr:∃g,KG s.T ops o.guard=some g/\r.reads=o.op.operands.toList.flatMap LS++rM ops o.guard/\r.fp=o.op.operands.toList.flatMap λx=>Qe s.m o.op (ug g (evT G s.T x)).1:=by
  unfold gn at h;split at h
  .rename_i g hg;split at h
   .rename_i c hc;refine⟨g,hg,?_⟩;unfold EY at h;split at h
    .cases h;exact⟨rfl,rfl⟩
    .split at h
     .cases h;exact⟨rfl,rfl⟩
     .cases h
   .cases h
  .cases h
 obtain⟨g,hg,hrd,hfp⟩:=hr;have e1:∀x∈o.op.operands.toList,evT G s'.T x=evT G s.T x:=by
  intro x hx;cases x with
  | tmp t=>exact yA DT (h1 t (by rw[hrd];exact qH.2 (.inl (yJ.2 ⟨_,hx,by simp[LS]⟩))))
  | _=>rfl
 have e2:KG s'.T ops o.guard=KG s.T ops o.guard:=by
  unfold KG;cases hgd:o.guard with
  | none=>rfl
  | some p=>
   obtain⟨k,want⟩:=p;simp only;cases hd:(ops[k]?).bind (·.dst)with
   | none=>rfl
   | some d=>
    simp only;rw[h1 d (by rw[hrd];exact qH.2 (.inr (by simp[rM,hgd,hd])))]
 have e3:o.op.operands.toList.map (evT G s'.T)=o.op.operands.toList.map (evT G s.T):=zY e1;have e40:∀x∈o.op.operands.toList,∀nm∈Qe s.m o.op (ug g (evT G s.T x)).1,s'.m nm=s.m nm:=λx hx nm hnm=>
  h2 nm (by rw[hfp];exact yJ.2 ⟨x,hx,hnm⟩)
 have e4:∀x∈o.op.operands.toList,∀v,v=(ug g (evT G s.T x)).1->ct s'.m v=ct s.m v:=by
  intro x hx v hv;have:∀nm∈aCN v,s'.m nm=s.m nm:=λnm hnm=>e40 x hx nm (by rw[<- hv];exact Xv hnm)
  cases v<;>first | rfl | exact this _ (vG.2 rfl)
 have e5:JZ P K mt nx s'.m g o.op (o.op.operands.toList.map (evT G s.T))=JZ P K mt nx s.m g o.op (o.op.operands.toList.map (evT G s.T)):=by
  unfold JZ;split
  .rfl
  .rfl
  .have:((o.op.operands.toList.map (evT G s.T)).map λv=>((ug g v).1,ct s'.m (ug g v).1))=((o.op.operands.toList.map (evT G s.T)).map λv=>((ug g v).1,ct s.m (ug g v).1)):=by
    apply zY;intro v hv;obtain⟨x,hx,rfl⟩:=wZ.1 hv;rw[e4 x hx _ rfl]
   rw[this,NG (m:=s.m) (m':=s'.m)];intro hd v hv k hk;obtain⟨y,hy,rfl⟩:=wZ.1 hv;obtain⟨x,hx,rfl⟩:=wZ.1 hy;exact e40 x hx k (by unfold Qe;rw[if_pos hd];exact hk)
 have e6:(o.op.operands.toList.flatMap λx=>Qe s'.m o.op (ug g (evT G s'.T x)).1)=o.op.operands.toList.flatMap λx=>Qe s.m o.op (ug g (evT G s.T x)).1:=by
  simp only[List.flatMap_def]
  congr 1
  apply zY;intro x hx;rw[e1 x hx];unfold Qe;split
  .rename_i hd;exact uo λk hk=>e40 x hx k (by unfold Qe;rw[if_pos hd];exact dc hk)
  .rfl
 unfold gn at h ⊢;rw[e2,e3];rw[hg]at h ⊢;simp only at h ⊢;rw[e5,e6];exact h
def Base.F (S:Base):Fence:=match S.rd with
 | none=>Fence.wide
 | some l=>Fence.wide.inRound l
theorem Base.F_fn (S:Base) (f:FuncId):S.F.fn f:=by unfold Base.F;split<;>trivial
theorem Base.F_depth (S:Base):S.F.depth=none:=by unfold Base.F;split<;>rfl
theorem Base.F_round (S:Base):S.F.round=S.rd:=by unfold Base.F;split<;>(rename_i h;rw[h];rfl)
theorem Base.callsIn {S:Base} {n:Nat} {P:Program} {f:FuncId} {args:Array Value} {w:World} {R:Ending->World->Prop} (h:Calls P f args w R):CallsIn S.F n P f args w R:=by
 unfold Base.F;split
 .exact callsIn_wide.2 h
 .exact CallsIn.inRound _ (callsIn_wide.2 h)
theorem nU{S:Base}{K:Kt}(hK:ak S.P S.G K){σ:Sig}{a:Act}{w:World}{mt:Bool}{ops:Array Oper}{nx i:Nat}{o:Oper}{r:Rec}{Q:Exit->Act->World->Prop}(ho:ops[i]?=some o)
  (hs:Sim S σ a w) (hd:∀d,o.dst=some d->d<S.N) (hr:gn S.P S.G K mt ops nx σ o=some r) (hn:∀q∈r.need,q) (hu:∀k,r.new=some k->Unm k σ):
  wpOpIn S.F 0 S.P ops Q i (λa' w'=>Sim S (dQ r σ) a' w') a w:=by
 obtain⟨D,E,h⟩:=hs;unfold gn at hr;split at hr
 case h_2=>cases hr
 rename_i g hg;split at hr
 case h_2=>cases hr
 rename_i c hc;unfold wpOpIn;rw[ho];simp only;have hw:=zj (o:=o) h hg;have run:g=true->∀(hn':∀q∈c.need,q) (hu':∀k,c.new=some k->Unm k σ),Yields S ⟨σ.T,upM σ.m c.upd,σ.sv⟩ a c.val ((execOp a.eval o).run S.P w):=by
  intro hg1 hn' hu';unfold JZ at hc;split at hc
  .rename_i c0 a0 b0 hp hraw;obtain⟨dst,op,ty,pos,after,guard⟩:=o;cases op<;>first | (cases hp;done) | skip
   rename_i oc oa ob;simp only[Op.operands,zH,qCf,qR,vP]at hraw;obtain⟨rfl,rfl,rfl⟩:=hraw;obtain⟨h1,h2,rr,h3,h4⟩:=Tz (w:=w) hg1 hc hn' (dN h oc) (dN h oa) (dN h ob);rw[h1];exact .inl ⟨rr,w,h3,D,E,h,h4⟩
  .cases hc
  .split at hc
   .rename_i c' hop;cases hc;have hrel:AV.relL S.P ⟨w,D,σ.m,E⟩ (((o.op.operands.toList.map (evT S.G σ.T)).map λv=>((ug g v).1,ct σ.m (ug g v).1)).map (·.1)) (o.op.operands.toList.map a.eval):=by
     refine AV.relL_mk (by simp) λj av u h1 h2=>?_
     simp only[List.map_map,qP,qBw]at h1 h2;obtain⟨x,hx,rfl⟩:=h1;obtain⟨x',hx',rfl⟩:=h2;rw[hx]at hx';cases hx';refine mT hg1 (λq hq=>hn' q ?_) (dN h x);simp only[qH,yJ];exact .inl ⟨evT S.G σ.T x,wZ.2 ⟨x,zD hx,rfl⟩,hq⟩
    refine aBI (c:=c') hK h hrel (λv hv=>?_) hop (λq hq=>hn' q (qH.2 (.inr hq))) (λk hk=>⟨hu' k hk,λv hv=>?_⟩)
    .obtain⟨x,_,rfl⟩:=wZ.1 hv;rfl
    .obtain⟨x,hx,rfl⟩:=wZ.1 hv;obtain⟨y,_,rfl⟩:=wZ.1 hx;simp only;rw[RJ];exact OQ (λp hp=>(h.gl p hp).1) (hu' k hk).2.1 y
   .cases hc
 have fin:∀x v (w':World),r.upd=c.upd->Outcome S ⟨σ.T,upM σ.m c.upd,σ.sv⟩ a x v w'->(∀C:Ctx,x.rel S.P C v->r.val.rel S.P C v)->r.dst=o.dst->Sim S (dQ r σ) (a.put o.dst v) w':=by
  intro x v w' hupd hout hxr hdst;obtain⟨D',E',q1,q2⟩:=hout;have:=q1.put (d:=o.dst) (v:=v) (x:=r.val) (λt ht=>hd t ht) (hxr _ q2);refine⟨D',E',?_⟩;unfold dQ;rw[hdst,hupd];exact this
 have nodef:∀d,o.op≠.defer d:=λd e=>by
  have hp:VQ o.op=false:=by rw[e];rfl
  unfold JZ at hc;split at hc
  .rename_i he _;rw[hp]at he;cases he
  .cases hc
  .rw[e]at hc;simp only[opE]at hc;cases hc
 have about:∀f,o.about S.P w a.eval=some f->S.F.fn f:=λf _=>S.F_fn f
 have upon:∀x,r.upd=c.upd->r.dst=o.dst->(∀(C:Ctx) v,x.rel S.P C v->r.val.rel S.P C v)->Yields S ⟨σ.T,upM σ.m c.upd,σ.sv⟩ a x ((execOp a.eval o).run S.P w)->
   o.wpIn S.F 0 S.P a w (λa' w'=>Sim S (dQ r σ) a' w') Q:=by
  intro x hupd hdst hxr hy;unfold Oper.wpIn;refine⟨about,?_⟩;rw[Oper.semAt_eq _ _ _ nodef];rcases hy with⟨v,w',e,ho⟩ | ⟨w',e,ho⟩ | ⟨f,args,w',e,ho⟩
  .rw[e];exact fin x v w' hupd ho (λC=>hxr C v) hdst
  .rw[e];exact fin x undef w' hupd ho (λC=>hxr C undef) hdst
  .rw[e,Oper.uponIn_enter];refine⟨λh=>(by rw[S.F_depth]at h;cases h),Base.callsIn (ho.mono λe2 w2 he=>?_)⟩;obtain⟨v,rfl,ho2⟩:=he;exact fin x v w2 hupd ho2 (λC=>hxr C v) hdst
 rw[hw];unfold EY at hr;split at hr
 .rename_i hgd;cases hr;have hg1:g=true:=by rw[hgd]at hg;simp only[KG,vZ]at hg;exact hg.symm
  rw[if_pos hg1];exact upon c.val rfl rfl (λC v hv=>hv) (run hg1 hn hu)
 .rename_i gp hgd;split at hr
  .rename_i hupd hnew;cases hr;by_cases hgv:g=true
   .rw[if_pos hgv];refine upon c.val hupd.symm rfl (λC v hv=>⟨λ_=>hv,λhf=>by rw[hgv]at hf;cases hf⟩) (run hgv (λq hq=>?_) (λk hk=>by rw[hnew]at hk;cases hk));exact hn (g=true->q) (wZ.2 ⟨q,hq,rfl⟩) hgv
   .rw[if_neg hgv];exact⟨about,D,E,h.put (d:=o.dst) (v:=undef) (x:=.grd g c.val) hd ⟨λhf=>(hgv hf).elim,λ_=>rfl⟩⟩
  .cases hr
end Go.Eng
namespace Go.Eng
open Go.RowKit
structure St where
 tm:List AV
 mem:List (Nat×Blk)
 nx:Nat
 sv:List AV:=[]
def St.sig (s:St):Sig:=⟨λt=>s.tm.getD t .top,λnm=>s.mem.lookup nm,s.sv⟩
def tt: List (Nat×Blk)->Nat->Blk->List (Nat×Blk)
 | [],k,b=>[(k,b)]
 | q::r,k,b=>if q.1=k then(k,b)::r else q::tt r k b
theorem oq(k:Nat)(b:Blk): ∀(l:List (Nat×Blk)) (i:Nat),(tt l k b).lookup i=if i=k then some b else l.lookup i
 | [],i=>by
  simp only[tt,List.lookup];by_cases e:i=k
  .subst e;simp
  .have:(i==k)=false:=by simpa using e
   simp[this,e]
 | q::r,i=>by
  obtain⟨q1,q2⟩:=q;simp only[tt];by_cases hq:q1=k
  .subst hq;simp only[xU,List.lookup];by_cases e:i=q1
   .subst e;simp
   .have:(i==q1)=false:=by simpa using e
    simp[this,e]
  .simp only[hq,yQ,List.lookup];by_cases e:i=q1
   .subst e;simp[hq]
   .have:(i==q1)=false:=by simpa using e
    simp only[this];exact oq k b r i
def cH(r:Rec)(s:St): St:=
 {s with
  tm:=match r.dst with | some d=>s.tm.set d r.val | none=>s.tm
  mem:=r.upd.foldr (λp m=>tt m p.1 p.2) s.mem
  nx:=match r.new with | some k=>k+1 | none=>s.nx}
def fX(r:Rec)(n:Nat): Bool:=
 (match r.dst with | some d=>decide (d<n) | none=>true)&&true
theorem iQ(r:Rec)(s:St): (cH r s).tm.length=s.tm.length:=by
 unfold cH;cases r.dst<;>simp
theorem fZ{r:Rec}{s:St}(h:fX r s.tm.length=true): (cH r s).sig=dQ r s.sig:=by
 unfold fX at h;simp only[qC]at h;obtain⟨h1,h2⟩:=h;have eT:(cH r s).sig.T=(dQ r s.sig).T:=by
  funext t
  simp only[St.sig,cH,dQ,upT];cases hd:r.dst with
  | none=>simp
  | some d=>
   rw[hd]at h1;have hlt:d<s.tm.length:=by simpa using h1
   simp only[vZ];by_cases e:t=d
   .subst e;simp[hlt]
   .simp only[if_neg e,qA];rw[qBc (λh=>e h.symm)]
 have eM:(cH r s).sig.m=(dQ r s.sig).m:=by
  funext k
  simp only[St.sig,cH,dQ,upM];induction r.upd with
  | nil=>rfl
  | cons p l ih=>
   obtain⟨k',b⟩:=p;simp only[qDk,oq,List.lookup];by_cases e:k=k'
   .subst e;simp
   .have:(k==k')=false:=by simpa using e
    simp only[this,if_neg e];exact ih
 cases hs1:(cH r s).sig with
 | mk T m sv=>
  cases hs2:dQ r s.sig with
  | mk T' m' sv' =>
   have eS:(cH r s).sig.sv=(dQ r s.sig).sv:=rfl;rw[hs1,hs2]at eT eM eS;simp only at eT eM eS;rw[eT,eM,eS]
structure jr where
 pre:Prop
 t:Ty
 L:List t.den
structure Cfg where
 P:Program
 G:List (Nat×AV)
 K:Kt
 mb:Tmp->Bool
 KI:FuncId->List AV->Option jr
 rng:Bool
 KP:KPt:=λ_ _ _=>none
 pf:FuncId->Bool:=λ_=>false
def ZV(mb:Tmp->Bool)(o:Oper): Bool:=match o.dst with | some d=>mb d | none=>false
def Cfg.mt (c:Cfg) (o:Oper):Bool:=ZV c.mb o
def Vz(c:Cfg)(ops:Array Oper): List Oper->St->Option (List Rec)
 | [],_=>some []
 | o::os,s=>match gn c.P c.G c.K (c.mt o) ops s.nx s.sig o with
  | some r=>if fX r s.tm.length=true then match Vz c ops os (cH r s)with
   | some rs=>some (r::rs)
   | none=>none
   else none
  | none=>none
def fF(rs:List Rec)(s:St)(j:Nat): St:=(rs.take j).foldl (λs r=>cH r s) s
theorem jT(rs:List Rec)(s:St)(j:Nat): (fF rs s j).tm.length=s.tm.length:=by
 unfold fF;induction rs.take j generalizing s with
 | nil=>rfl
 | cons r l ih=>simp only[xQ];rw[ih,iQ]
theorem sB{c:Cfg}{ops:Array Oper}: ∀{os:List Oper} {s:St} {rs:List Rec},Vz c ops os s=some rs->
  rs.length=os.length/\∀(j:Nat) o r,os[j]?=some o->rs[j]?=some r->
   gn c.P c.G c.K (c.mt o) ops (fF rs s j).nx (fF rs s j).sig o=some r/\fX r s.tm.length=true
 | [],s,rs,h=>by
  simp only[Vz]at h;cases h;exact⟨rfl,λj o r h=>by simp at h⟩
 | o::os,s,rs,h=>by
  simp only[Vz]at h;split at h
  case h_2=>cases h
  rename_i r hr;split at h
  case isFalse=>cases h
  rename_i hok;split at h
  case h_2=>cases h
  rename_i rs' hrs;cases h;obtain⟨g1,g2⟩:=sB hrs;refine⟨by simp[g1],λj o' r' ho hr'=>?_⟩;cases j with
  | zero=>
   simp at ho hr';subst ho hr';exact⟨hr,hok⟩
  | succ j=>
   obtain⟨q1,q2⟩:=g2 j o' r' (by simpa using ho) (by simpa using hr');rw[iQ]at q2;exact⟨by simpa[fF]using q1,q2⟩
theorem lE(rs:List Rec)(s:St)(j:Nat)(r:Rec)(h:rs[j]?=some r): fF rs s (j+1)=cH r (fF rs s j):=by
 unfold fF;rw[wW,h];simp
def unB(k:Nat)(s:St): Bool:=
 (s.mem.lookup k).isNone&&s.tm.all (λa=>!a.names.contains k)&&s.mem.all (λp=>!p.2.names.contains k)&&!(AV.namesL s.sv).contains k
theorem cQ{l:List (Nat×Blk)}{k:Nat}{b:Blk}(h:l.lookup k=some b): (k,b)∈l:=by
 induction l with
 | nil=>simp at h
 | cons p l ih=>
  obtain⟨p1,p2⟩:=p;simp only[List.lookup]at h;split at h
  .rename_i e;cases h;have:k=p1:=by simpa using e
   subst this;simp
  .exact zA _ (ih h)
theorem G2{k:Nat}{s:St}(h:unB k s=true): Unm k s.sig:=by
 unfold unB at h;simp only[qC,qM]at h;obtain⟨⟨⟨h1,h2⟩,h3⟩,h4⟩:=h;refine⟨?_,λt=>?_,λnm b hb=>?_,by have h5:k∉AV.namesL s.sv:=(by simpa using h4);exact h5⟩
 .show s.mem.lookup k=none;cases hl:s.mem.lookup k with
  | none=>rfl
  | some b=>rw[hl]at h1;cases h1
 .show k∉(s.tm.getD t .top).names;rw[qA];cases hl:s.tm[t]? with
  | none=>simp[AV.names]
  | some a=>
   have:=h2 a (zD hl);simpa using this
 .have:=h3 _ (cQ hb);simpa using this
def ye(k:Nat)(r:Rec): Bool:=!r.val.names.contains k&&r.upd.all (λp=>!(p.1==k)&&!p.2.names.contains k)
theorem pB{k:Nat}{r:Rec}(h:ye k r=true){s:Sig}(hu:Unm k s): Unm k (dQ r s):=by
 unfold ye at h;simp only[qC,qM]at h;obtain⟨h1,h2⟩:=h;have hup:∀nm b,r.upd.lookup nm=some b->nm≠k/\k∉b.names:=λnm b hb=>by
  have:=h2 _ (cQ hb);simpa using this
 refine⟨?_,λt=>?_,λnm b hb=>?_,hu.2.2.2⟩
 .show upM s.m r.upd k=none;unfold upM;cases hl:r.upd.lookup k with
  | none=>exact hu.1
  | some b=>exact absurd rfl (hup k b hl).1
 .show k∉(upT s.T r.dst r.val t).names;unfold upT;split
  .simpa using h1
  .exact hu.2.1 t
 .replace hb:upM s.m r.upd nm=some b:=hb;unfold upM at hb;cases hl:r.upd.lookup nm with
  | none=>rw[hl]at hb;exact hu.2.2.1 nm b hb
  | some b'=>rw[hl]at hb;cases hb;exact(hup nm _ hl).2
def Ux(d:Option Tmp)(l:List Tmp): Bool:=match d with | some d=>l.contains d | none=>false
def aB4: Option Tmp->Option Tmp->Bool
 | some d,some e=>d==e
 | _,_=>false
def indep(r s:Rec): Bool:=
 !Ux r.dst s.reads&&!Ux s.dst r.reads&&!aB4 r.dst s.dst &&
 r.upd.all (λp=>!s.fp.contains p.1&&s.upd.all λq=>!(p.1==q.1))&&s.upd.all (λp=>!r.fp.contains p.1)
theorem vQ{l:List (Nat×Blk)}{k:Nat}(h:∀p∈l,p.1≠k): l.lookup k=none:=by
 cases hl:l.lookup k with
 | none=>rfl
 | some b=>exact absurd rfl (h _ (cQ hl))
theorem mH{r s:Rec}(h:indep r s=true):
  (∀σ,dQ s (dQ r σ)=dQ r (dQ s σ))/\(∀σ,(∀t∈s.reads,(dQ r σ).T t=σ.T t)/\∀nm∈s.fp,(dQ r σ).m nm=σ.m nm)/\
  (∀σ,(∀t∈r.reads,(dQ s σ).T t=σ.T t)/\∀nm∈r.fp,(dQ s σ).m nm=σ.m nm):=by
 unfold indep at h;simp only[qC,qM]at h;obtain⟨⟨⟨⟨h1,h2⟩,h3⟩,h4⟩,h5⟩:=h;have hT:∀(d:Option Tmp) (l:List Tmp),(!Ux d l)=true->∀t∈l,some t≠d:=by
  intro d l hd t ht e;subst e;simp[Ux,ht]at hd
 refine⟨λσ=>?_,λσ=>⟨λt ht=>?_,λnm hnm=>?_⟩,λσ=>⟨λt ht=>?_,λnm hnm=>?_⟩⟩
 .unfold dQ
  congr 1
  .funext t
   simp only[upT];by_cases e1:some t=s.dst<;>by_cases e2:some t=r.dst
   .exfalso;rw[<- e1,<- e2]at h3;simp[aB4]at h3
   .rw[if_pos e1,if_neg e2,if_pos e1]
   .rw[if_neg e1,if_pos e2,if_pos e2]
   .rw[if_neg e1,if_neg e2,if_neg e2,if_neg e1]
  .funext nm
   simp only[upM];cases hr:r.upd.lookup nm<;>cases hs:s.upd.lookup nm<;>simp only[];exfalso;have:=(h4 _ (cQ hr));simp only[]at this;have:=this.2 _ (cQ hs);simp at this
 .show upT σ.T r.dst r.val t=σ.T t;unfold upT;rw[if_neg (hT _ _ h1 t ht)]
 .show upM σ.m r.upd nm=σ.m nm;unfold upM;rw[vQ (λp hp e=>by
   have:=(h4 p hp).1;rw[e]at this;simp[hnm]at this)]
 .show upT σ.T s.dst s.val t=σ.T t;unfold upT;rw[if_neg (hT _ _ h2 t ht)]
 .show upM σ.m s.upd nm=σ.m nm;unfold upM;rw[vQ (λp hp e=>by
   have:=h5 p hp;rw[e]at this;simp[hnm]at this)]
def GF(tbl:List Nat)(o:Oper): Nat:=o.after.toList.foldl (λs e=>if Region.binds .any e then s ||| 2 ^ e.on ||| tbl.getD e.on 0 else s) 0
def iR: List Nat->List Oper->List Nat
 | acc,[]=>acc
 | acc,o::os=>iR (acc++[GF acc o]) os
theorem uC{tbl:List Nat}{i:Nat}: ∀(es:List Edge) (s:Nat),(es.foldl (λs e=>if Region.binds .any e then s ||| 2 ^ e.on ||| tbl.getD e.on 0 else s) s).testBit i=true->
  s.testBit i=true\/∃e∈es,Region.binds .any e=true/\(i=e.on\/(tbl.getD e.on 0).testBit i=true)
 | [],s,h=>.inl h
 | e::es,s,h=>by
  simp only[xQ]at h;rcases uC es _ h with g | ⟨e',h1,h2⟩
  .split at g
   .rename_i hb;simp only[Nat.testBit_or,yE]at g;rcases g with(g | g) | g
    .exact .inl g
    .rw[Nat.testBit_two_pow]at g;have h9:e.on=i:=by simpa using g
     exact .inr ⟨e,by simp,hb,.inl h9.symm⟩
    .exact .inr ⟨e,by simp,hb,.inr g⟩
   .exact .inl g
  .exact .inr ⟨e',by simp[h1],h2⟩
def dflt: Rec:={dst:=none,val:=.top,upd:=[],new:=none,reads:=[],fp:=[],need:=[]}
def mX(tbl:List Nat)(ops:List Oper)(rs:List Rec): Bool:=
 (List.range ops.length).all λj=>
  (match ops[j]? with | some o=>tbl.getD j 0==GF tbl o&&o.after.all (λe=>!Region.binds .any e||decide (e.on<j)) | none=>false) &&
  (List.range j).all λi=>(tbl.getD j 0).testBit i||indep (rs.getD i dflt) (rs.getD j dflt)
def tc(draw:Bool)(tbl:List Nat)(s:St)(rs:List Rec): Bool:=
 (List.range rs.length).all λj=>match(rs.getD j dflt).new with
  | none=>true
  | some k=>unB k s&&(List.range rs.length).all λi=>i==j||(decide (j<i)&&(!draw||(tbl.getD i 0).testBit j))||ye k (rs.getD i dflt)
theorem tY{α:Type}{l:List α}{i:Nat}{x d:α}(h:l[i]?=some x): l.getD i d=x:=by
 rw[qA,h];rfl
theorem mA{draw:Bool}{tbl:List Nat}{s:St}{rs:List Rec}(h:tc draw tbl s rs=true){j k:Nat}{r:Rec}(hj:rs[j]?=some r)(hk:r.new=some k):
  Unm k s.sig/\∀i q,rs[i]?=some q->i≠j->(i<j\/(draw=true/\(tbl.getD i 0).testBit j=false))->ye k q=true:=by
 unfold tc at h;rw[qM]at h;have hjl:=(qF.1 hj).1;have h1:=h j (by simpa using hjl);rw[tY hj,hk]at h1;simp only[qC,qM]at h1;refine⟨G2 h1.1,λi q hq hne hc=>?_⟩;have hil:=(qF.1 hq).1;have h2:=h1.2 i (by simpa using hil);rw[tY hq]at h2;simp only[yE,xH,qC,qE,zK]at h2;rcases h2 with(g | ⟨g1,g2⟩) | g
 .exact(hne g).elim
 .rcases hc with hc | ⟨hc1,hc2⟩
  .omega
  .rcases g2 with g2 | g2
   .rw[hc1]at g2;cases g2
   .rw[hc2]at g2;cases g2
 .exact g
def aBE(c:Cfg)(ops:Array Oper)(draw:Bool)(s:St): Option (List Prop×St):=
 match Vz c ops ops.toList s with
 | some rs=>
  let tbl:=if draw then iR [] ops.toList else[]
  if tc draw tbl s rs=true/\(draw=true->mX tbl ops.toList rs=true)then some (rs.flatMap (·.need),fF rs s rs.length)else none
 | none=>none
section
variable {S:Base} {K:Kt} {mb:Tmp->Bool} {ops:Array Oper} {s:St} {rs:List Rec}
def bV(rs:List Rec)(i:Nat)(σ:Sig): Sig:=match rs[i]? with
 | some r=>dQ r σ
 | none=>σ
theorem mq(hok:∀(j:Nat) (r:Rec),rs[j]?=some r->fX r s.tm.length=true): ∀j,j<=rs.length->fh (bV rs) PZ j s.sig=(fF rs s j).sig
 | 0,_=>rfl
 | j+1,hj=>by
  have ih:=mq hok j (by omega);have hr:=qB (l:=rs) (show j<rs.length by omega);show bV rs j (fh (bV rs) PZ j s.sig)=_;rw[ih,lE rs s j _ hr,fZ (by rw[jT];exact hok j _ hr)];simp only[bV,hr]
structure C6 (S:Base) (K:Kt) (mb:Tmp->Bool) (ops:Array Oper) (s:St) (rs:List Rec):Prop where
 len:rs.length=ops.size
 at_:∀(j:Nat) o r,ops[j]?=some o->rs[j]?=some r->gn S.P S.G K (ZV mb o) ops (fF rs s j).nx (fF rs s j).sig o=some r/\fX r s.tm.length=true
 tm:s.tm.length=S.N
 need:∀(j:Nat) r,rs[j]?=some r->∀q∈r.need,q
theorem C6.dst (H:C6 S K mb ops s rs) {j:Nat} {o:Oper} {r:Rec} (ho:ops[j]?=some o) (hr:rs[j]?=some r):∀d,o.dst=some d->d<S.N:=by
 intro d hd;obtain⟨h1,h2⟩:=H.at_ j o r ho hr;have e:r.dst=o.dst:=by
  unfold gn at h1;split at h1
  .split at h1
   .unfold EY at h1;split at h1
    .cases h1;rfl
    .split at h1
     .cases h1;rfl
     .cases h1
   .cases h1
  .cases h1
 unfold fX at h2;simp only[qC]at h2;have:=h2.1;rw[e,hd]at this;rw[<- H.tm];simpa using this
theorem C6.step (hK:ak S.P S.G K) (H:C6 S K mb ops s rs) {Q:Exit->Act->World->Prop} {j:Nat} {o:Oper} {r:Rec} (ho:ops[j]?=some o) (hr:rs[j]?=some r) {σ:Sig} {a:Act} {w:World}
  (h1:∀t∈r.reads,σ.T t=(fF rs s j).sig.T t) (h2:∀nm∈r.fp,σ.m nm=(fF rs s j).sig.m nm) (hu:∀k,r.new=some k->Unm k σ) (hs:Sim S σ a w):
  wpOpIn S.F 0 S.P ops Q j (λa' w'=>Sim S (bV rs j σ) a' w') a w:=by
 have hst:=sh (H.at_ j o r ho hr).1 h1 h2;have:=nU (Q:=Q) hK ho hs (H.dst ho hr) hst (H.need j r hr) hu;simp only[bV,hr];exact this
theorem Be(hK:ak S.P S.G K)(H:C6 S K mb ops s rs){tbl:List Nat}(hnew:tc false tbl s rs=true){a:Act}{w:World}(hs:Sim S s.sig a w){Q:Exit->Act->World->Prop}
  (hQ:∀a' w',Sim S (fF rs s rs.length).sig a' w'->Q .normal a' w') {id:Nat}:(Code.region id ops false).wpIn S.F 0 S.P Q a w:=by
 refine wpIn_region ?_;have hok:∀(j:Nat) (r:Rec),rs[j]?=some r->fX r s.tm.length=true:=λj r hr=>by
  have hj:j<ops.size:=by rw[<- H.len];exact(qF.1 hr).1
  exact(H.at_ j _ r (zI hj) hr).2
 have hun:∀(j k:Nat) r,rs[j]?=some r->r.new=some k->∀i,i<=j->Unm k (fF rs s i).sig:=by
  intro j k r hr hk i;induction i with
  | zero=>intro _;exact(mA hnew hr hk).1
  | succ i ih=>
   intro hi;have hil:i<rs.length:=by have:=(qF.1 hr).1;omega
   have hri:=qB hil;rw[lE rs s i _ hri,fZ (by rw[jT];exact hok i _ hri)];exact pB ((mA hnew hr hk).2 i _ hri (by omega) (.inl (by omega))) (ih (by omega))
 have key:∀(n j:Nat),j+n=ops.size->∀a w,Sim S (fF rs s j).sig a w->wpOpsIn S.F 0 S.P ops Q (List.range' j n) a w:=by
  intro n;induction n with
  | zero=>
   intro j hj a w h;simp only[qCd,wpOpsIn];have:j=rs.length:=by rw[H.len];omega
   subst this;exact hQ a w h
  | succ n ih=>
   intro j hj a w h;have hjl:j<ops.size:=by omega
   have ho:=zI hjl;have hr:=qB (l:=rs) (show j<rs.length by rw[H.len];exact hjl);rw[qAz,wpOpsIn_cons];refine wpOpIn_mono (λa' w' h'=>ih (j+1) (by omega) a' w' ?_) (H.step hK (Q:=Q) ho hr (λ_ _=>rfl) (λ_ _=>rfl) (λk hk=>hun j k _ hr hk j (qJ _)) h);rw[lE rs s j _ hr,fZ (by rw[jT];exact hok j _ hr)];simpa only[bV,hr]using h'
 have:=key ops.size 0 (by omega) a w hs
 rwa [<- qAy]at this
theorem Br{tbl:List Nat}(h:mX tbl ops.toList rs=true)(hlen:rs.length=ops.size):
  (∀(j:Nat) o,ops[j]?=some o->(∀e∈o.after,Region.binds .any e=true->e.on<j)/\∀i,(tbl.getD j 0).testBit i=true->∃e∈o.after,Region.binds .any e=true/\(i=e.on\/(tbl.getD e.on 0).testBit i=true))/\
  (∀(i j:Nat) (r q:Rec),i<j->rs[i]?=some r->rs[j]?=some q->(tbl.getD j 0).testBit i=false->indep r q=true):=by
 unfold mX at h;rw[qM]at h;refine⟨λj o ho=>?_,λi j r q hij hr hq hb=>?_⟩
 .have hj:j<ops.size:=(vK.1 ho).1;have h1:=h j (by simpa using hj);have ho':ops.toList[j]?=some o:=by simpa using ho
  rw[ho']at h1;simp only[qC,xH]at h1;obtain⟨⟨h2,h3⟩,_⟩:=h1;refine⟨λe he hb=>?_,λi hi=>?_⟩
  .rw[qAd]at h3;have:=h3 e he;simpa[hb]using this
  .rw[h2]at hi;unfold GF at hi;rcases uC _ _ hi with g | ⟨e,h4,h5⟩
   .simp at g
   .exact⟨e,by simpa using h4,h5⟩
 .have hj:j<ops.size:=by rw[<- hlen];exact(qF.1 hq).1
  have h1:=h j (by simpa using hj);simp only[qC,qM]at h1;have h2:=h1.2 i (by simpa using hij);rw[tY hr,tY hq,hb]at h2;simpa using h2
theorem sV(hK:ak S.P S.G K)(hm:S.P.follows .mixedOrders=true)(H:C6 S K mb ops s rs){tbl:List Nat}(hnew:tc true tbl s rs=true)(hdr:mX tbl ops.toList rs=true)
  {a:Act} {w:World} (hs:Sim S s.sig a {w with drawn:=w.drawn+1}) {Q:Exit->Act->World->Prop} (hQ:∀a' w',Sim S (fF rs s rs.length).sig a' w'->Q .normal a' w') {id:Nat}:
  (Code.region id ops true).wpIn S.F 0 S.P Q a w:=by
 refine wpIn_region_any hm ?_;have hok:∀(j:Nat) (r:Rec),rs[j]?=some r->fX r s.tm.length=true:=λj r hr=>by
  have hj:j<ops.size:=by rw[<- H.len];exact(qF.1 hr).1
  exact(H.at_ j _ r (zI hj) hr).2
 obtain⟨hanc,hind⟩:=Br hdr H.len;have get:∀j,j<ops.size->∃r,rs[j]?=some r:=λj hj=>⟨_,qB (by rw[H.len];exact hj)⟩
 have HO:Orders (bV rs) ops.size (λi j=>(tbl.getD j 0).testBit i)
   (λj σ=>∀r,rs[j]?=some r->(∀t∈r.reads,σ.T t=(fF rs s j).sig.T t)/\∀nm∈r.fp,σ.m nm=(fF rs s j).sig.m nm)
   (λj σ=>∀r k,rs[j]?=some r->r.new=some k->Unm k σ) s.sig:=by
  refine⟨λi j hij hj hna σ=>?_,λi j hij hj hna σ=>?_,λi j hij hj hna σ=>?_,λi j hi hj hne hc σ hu=>?_,λj hj=>?_,λj hj r k hr hk=>(mA hnew hr hk).1⟩
  .obtain⟨r,hr⟩:=get i (by omega);obtain⟨q,hq⟩:=get j hj;simp only[bV,hr,hq];exact(mH (hind i j r q hij hr hq hna)).1 σ
  .obtain⟨r,hr⟩:=get i (by omega);obtain⟨q,hq⟩:=get j hj;obtain⟨g1,g2⟩:=(mH (hind i j r q hij hr hq hna)).2.1 σ;simp only[bV,hr];refine⟨λh r' hr'=>?_,λh r' hr'=>?_⟩<;>(have e:r'=q:=wS (hr'.symm.trans hq);subst e;obtain⟨h1,h2⟩:=h _ hr')
   .exact⟨λt ht=>(g1 t ht).symm.trans (h1 t ht),λnm hnm=>(g2 nm hnm).symm.trans (h2 nm hnm)⟩
   .exact⟨λt ht=>(g1 t ht).trans (h1 t ht),λnm hnm=>(g2 nm hnm).trans (h2 nm hnm)⟩
  .obtain⟨r,hr⟩:=get i (by omega);obtain⟨q,hq⟩:=get j hj;obtain⟨g1,g2⟩:=(mH (hind i j r q hij hr hq hna)).2.2 σ;simp only[bV,hq];refine⟨λh r' hr'=>?_,λh r' hr'=>?_⟩<;>(have e:r'=r:=wS (hr'.symm.trans hr);subst e;obtain⟨h1,h2⟩:=h _ hr')
   .exact⟨λt ht=>(g1 t ht).symm.trans (h1 t ht),λnm hnm=>(g2 nm hnm).symm.trans (h2 nm hnm)⟩
   .exact⟨λt ht=>(g1 t ht).trans (h1 t ht),λnm hnm=>(g2 nm hnm).trans (h2 nm hnm)⟩
  .obtain⟨q,hq⟩:=get i hi;intro r k hr hk;simp only[bV,hq];refine pB ((mA hnew hr hk).2 i q hq hne ?_) (hu r k hr hk);rcases hc with hc | hc
   .exact .inl hc
   .exact .inr ⟨rfl,hc⟩
  .intro r hr;rw[mq hok j (by rw[H.len];omega)];exact⟨λ_ _=>rfl,λ_ _=>rfl⟩
 have key:∀(n:Nat) (listed:Array Bool) (a:Act) (w:World),listed.size=ops.size->
   ((List.range ops.size).filter λi=>!listed.getD i true).length<=n->
   (∀i j,i<j->j<ops.size->(tbl.getD j 0).testBit i=true->listed.getD j false=true->listed.getD i false=true)->
   Sim S (fh (bV rs) (λi=>listed.getD i false) ops.size s.sig) a w->wpAnyIn S.F 0 S.P .any ops Q n listed a w:=by
  have allDone:∀(listed:Array Bool) (a:Act) (w:World),listed.size=ops.size->Region.ready .any ops listed=[]->
    Sim S (fh (bV rs) (λi=>listed.getD i false) ops.size s.sig) a w->Q .normal a w:=by
   intro listed a w hsz hrd h;have hall:∀j,j<ops.size->listed.getD j false=true:=by
    intro j;induction j using Nat.strongRecOn with
    | _ j ih=>
     intro hj;cases hd:listed.getD j false with
     | true=>rfl
     | false=>
      exfalso;have ho:=zI hj;have hmem:j∈Region.ready .any ops listed:=by
       unfold Region.ready;simp only[xO,qX,qC,ho,zL,qQ];refine⟨hj,?_,?_⟩
       .have:listed.getD j true=listed.getD j false:=by simp[Array.getD,hsz,hj]
        rw[this,hd];rfl
       .rw[qAd];intro e he;cases hb:Region.binds .any e with
        | false=>rfl
        | true=>
         have hlt:=(hanc j _ ho).1 e he hb;rw[ih e.on hlt (by omega)];rfl
      rw[hrd]at hmem;cases hmem
   refine hQ a w ?_;rw[H.len,<- mq hok ops.size (by rw[H.len];exact qJ _),mo (bV rs) (d:=PZ) (d':=λi=>listed.getD i false) ops.size s.sig (λi hi=>(hall i hi).symm)];exact h
  intro n;induction n with
  | zero=>
   intro listed a w hsz hcnt hdc h;have hrd:Region.ready .any ops listed=[]:=by
    have:((List.range ops.size).filter λi=>!listed.getD i true)=[]:=vO (by omega);unfold Region.ready;rw[qBz]at this ⊢;intro i hi;have:=this i hi;simp only[qC,not_and];intro h1;exact(this h1).elim
   exact⟨hrd,allDone listed a w hsz hrd h⟩
  | succ n ih=>
   intro listed a w hsz hcnt hdc h;refine⟨λhrd=>allDone listed a w hsz hrd h,λj hj=>?_⟩;obtain⟨hjun,o,ho,hpre⟩:=mem_ready.1 hj;have hjl:j<ops.size:=(vK.1 ho).1;obtain⟨r,hr⟩:=get j hjl;have hjf:listed.getD j false=false:=by
    have:listed.getD j true=listed.getD j false:=by simp[Array.getD,hsz,hjl]
    rw[<- this];exact hjun
   have hp:∀i,i<j->(tbl.getD j 0).testBit i=true->listed.getD i false=true:=by
    intro i hij hb;obtain⟨e,he,heb,hc⟩:=(hanc j o ho).2 i hb;have hel:=hpre e he heb;rcases hc with rfl | hc
    .exact hel
    .have hlt:=(hanc j o ho).1 e he heb;have:i<e.on:=by
      have below:∀q,q<ops.size->∀i,(tbl.getD q 0).testBit i=true->i<q:=by
       intro q;induction q using Nat.strongRecOn with
       | _ q ihq=>
        intro hq i hb;have hoq:=zI hq;obtain⟨e,he,heb,hc⟩:=(hanc q _ hoq).2 i hb;have hlt:=(hanc q _ hoq).1 e he heb;rcases hc with rfl | hc
        .exact hlt
        .have:=ihq e.on hlt (by omega) i hc;omega
      exact below e.on (by omega) i hc
     exact hdc i e.on this (by omega) hc hel
   obtain⟨g1,g2,g3⟩:=Bj HO (done:=λi=>listed.getD i false) hdc hjl hjf hp;obtain⟨g4,g5⟩:=g1 r hr;refine wpOpIn_mono (λa' w' h'=>ih (listed.setIfInBounds j true) a' w' (by simpa using hsz) ?_ ?_ ?_) (H.step hK (Q:=Q) ho hr g4 g5 (λk hk=>g2 r k hr hk) h)
   ·
    have hc:∀(l:List Nat),l.Nodup->j∈l->(l.filter λi=>!(listed.setIfInBounds j true).getD i true).length+1<=(l.filter λi=>!listed.getD i true).length:=by
     intro l;induction l with
     | nil=>intro _ h;cases h
     | cons x l ihl=>
      intro hnd hm;rw[List.nodup_cons]at hnd;simp only[xE];by_cases hx:x=j
      .subst hx;have e1:(listed.setIfInBounds x true).getD x true=true:=by
        simp[Array.getD,hsz,hjl]
       have e2:∀(l:List Nat),x∉l->(l.filter λi=>!(listed.setIfInBounds x true).getD i true)=l.filter λi=>!listed.getD i true:=by
        intro l hl;apply List.filter_congr;intro i hi;have:i≠x:=λe=>hl (e▸hi)
        simp only[qK,zB];rw[if_neg (λe=>this e.symm)]
       rw[e1,hjun,e2 l hnd.1];simp
      .have e1:(listed.setIfInBounds j true).getD x true=listed.getD x true:=by
        simp only[qK,zB];rw[if_neg (λe=>hx e.symm)]
       rw[e1];have ih2:=ihl hnd.2 (by rcases zJ.1 hm with g | g;exact(hx g.symm).elim;exact g);split
       .simp only[wV];omega
       .exact ih2
    have:=hc (List.range ops.size) List.nodup_range (by simpa using hjl);omega
   .intro i q hiq hq hb hlq;have e:∀i,(listed.setIfInBounds j true).getD i false=if i=j then true else listed.getD i false:=by
     intro i;simp only[qK,zB];by_cases e:j=i
     .subst e;simp[hsz,hjl]
     .rw[if_neg e,if_neg (λh=>e h.symm)]
    rw[e]at hlq ⊢;split
    .rfl
    .split at hlq
     .rename_i e1;subst e1;exact hp i hiq hb
     .exact hdc i q hiq hq hb hlq
   .have e:(λi=>(listed.setIfInBounds j true).getD i false)=λi=>if i=j then true else listed.getD i false:=by
     funext i
     simp only[qK,zB];by_cases e:j=i
     .subst e;simp[hsz,hjl]
     .rw[if_neg e,if_neg (λh=>e h.symm)]
    rw[e,g3];exact h'
 refine key ops.size (Array.replicate ops.size false) a _ (by simp) ?_ ?_ ?_
 .exact wE (xB _ _) (by simp)
 .intro i j hij hj hb hl;rw[qK]at hl;simp[hj]at hl
 .have:∀n,fh (bV rs) (λi=>(Array.replicate ops.size false).getD i false) n s.sig=s.sig:=by
   intro n;induction n with
   | zero=>rfl
   | succ n ih=>
    have:(Array.replicate ops.size false).getD n false=false:=by
     rw[qK];cases h:(Array.replicate ops.size false)[n]? with
     | none=>rfl
     | some v=>rw[yF]at h;split at h<;>cases h;rfl
    simp only[fh,this,vT,yQ];exact ih
  rw[this];exact hs
end
end Go.Eng
namespace Go.Eng
open Go.RowKit
section
variable {S:Base} {K:Kt} {mb:Tmp->Bool} {ops:Array Oper} {s:St} {rs:List Rec}
theorem G1{listed:Array Bool}{j N:Nat}(hsz:listed.size=N)(hjl:j<N)(hjun:listed.getD j true=false): ((List.range N).filter λi=>!(listed.setIfInBounds j true).getD i true).length+1<=((List.range N).filter λi=>!listed.getD i true).length:=by
 have hc:∀(l:List Nat),l.Nodup->j∈l->(l.filter λi=>!(listed.setIfInBounds j true).getD i true).length+1<=(l.filter λi=>!listed.getD i true).length:=by
  intro l;induction l with
  | nil=>intro _ h;cases h
  | cons x l ihl=>
   intro hnd hm;rw[List.nodup_cons]at hnd;simp only[xE];by_cases hx:x=j
   .subst hx;have e1:(listed.setIfInBounds x true).getD x true=true:=by
     simp[Array.getD,hsz,hjl]
    have e2:∀(l:List Nat),x∉l->(l.filter λi=>!(listed.setIfInBounds x true).getD i true)=l.filter λi=>!listed.getD i true:=by
     intro l hl;apply List.filter_congr;intro i hi;have:i≠x:=λe=>hl (e▸hi)
     simp only[qK,zB];rw[if_neg (λe=>this e.symm)]
    rw[e1,hjun,e2 l hnd.1];simp
   .have e1:(listed.setIfInBounds j true).getD x true=listed.getD x true:=by
     simp only[qK,zB];rw[if_neg (λe=>hx e.symm)]
    rw[e1];have ih2:=ihl hnd.2 (by rcases zJ.1 hm with g | g;exact(hx g.symm).elim;exact g);split
    .simp only[wV];omega
    .exact ih2
 exact hc (List.range N) List.nodup_range (by simpa using hjl)
def Live(tbl:List Nat)(k q j:Nat): Prop:=k<=j/\j≠q/\(tbl.getD j 0).testBit q=false
theorem zn(hK:ak S.P S.G K)(hlen:rs.length=ops.size)(htm:s.tm.length=S.N){tbl:List Nat}{k q:Nat}
  (hat:∀(j:Nat) o r,ops[j]?=some o->rs[j]?=some r->Live tbl k q j->gn S.P S.G K (ZV mb o) ops (fF rs s j).nx (fF rs s j).sig o=some r/\(∀d,o.dst=some d->d<S.N)/\∀p∈r.need,p)
  (hok:∀(j:Nat) (r:Rec),rs[j]?=some r->fX r s.tm.length=true) (hnew:tc true tbl s rs=true) (hdr:mX tbl ops.toList rs=true) {Q:Exit->Act->World->Prop}
  (hQ:ops.size<=q->∀a' w',Sim S (fF rs s rs.length).sig a' w'->Q .normal a' w')
  (spec:q<ops.size->∀(n:Nat) (listed:Array Bool) (a:Act) (w:World),listed.size=ops.size->listed.getD q false=false->((List.range ops.size).filter λi=>!listed.getD i true).length<=n+1->
   (∀i,(tbl.getD q 0).testBit i=true->listed.getD i false=true)->(∀i,(tbl.getD i 0).testBit q=true->i<ops.size->listed.getD i false=false)->
   (∀r,rs[q]?=some r->(∀t∈r.reads,(fh (bV rs) (λi=>listed.getD i false) ops.size s.sig).T t=(fF rs s q).sig.T t)/\∀nm∈r.fp,(fh (bV rs) (λi=>listed.getD i false) ops.size s.sig).m nm=(fF rs s q).sig.m nm)->
   Sim S (fh (bV rs) (λi=>listed.getD i false) ops.size s.sig) a w->wpOpIn S.F 0 S.P ops Q q (wpAnyIn S.F 0 S.P .any ops Q n (listed.setIfInBounds q true)) a w):
  ∀(n:Nat) (listed:Array Bool) (a:Act) (w:World),listed.size=ops.size->((List.range ops.size).filter λi=>!listed.getD i true).length<=n->
   (∀i,i<k->i<ops.size->listed.getD i false=true)->(q<ops.size->listed.getD q false=false)->
   (∀i j,i<j->j<ops.size->(tbl.getD j 0).testBit i=true->listed.getD j false=true->listed.getD i false=true)->
   Sim S (fh (bV rs) (λi=>listed.getD i false) ops.size s.sig) a w->wpAnyIn S.F 0 S.P .any ops Q n listed a w:=by
 obtain⟨hanc,hind⟩:=Br hdr hlen;have get:∀j,j<ops.size->∃r,rs[j]?=some r:=λj hj=>⟨_,qB (by rw[hlen];exact hj)⟩
 have HO:Orders (bV rs) ops.size (λi j=>(tbl.getD j 0).testBit i)
   (λj σ=>∀r,rs[j]?=some r->(∀t∈r.reads,σ.T t=(fF rs s j).sig.T t)/\∀nm∈r.fp,σ.m nm=(fF rs s j).sig.m nm)
   (λj σ=>∀r k,rs[j]?=some r->r.new=some k->Unm k σ) s.sig:=by
  refine⟨λi j hij hj hna σ=>?_,λi j hij hj hna σ=>?_,λi j hij hj hna σ=>?_,λi j hi hj hne hc σ hu=>?_,λj hj=>?_,λj hj r k hr hk=>(mA hnew hr hk).1⟩
  .obtain⟨r,hr⟩:=get i (by omega);obtain⟨q,hq⟩:=get j hj;simp only[bV,hr,hq];exact(mH (hind i j r q hij hr hq hna)).1 σ
  .obtain⟨r,hr⟩:=get i (by omega);obtain⟨q,hq⟩:=get j hj;obtain⟨g1,g2⟩:=(mH (hind i j r q hij hr hq hna)).2.1 σ;simp only[bV,hr];refine⟨λh r' hr'=>?_,λh r' hr'=>?_⟩<;>(have e:r'=q:=wS (hr'.symm.trans hq);subst e;obtain⟨h1,h2⟩:=h _ hr')
   .exact⟨λt ht=>(g1 t ht).symm.trans (h1 t ht),λnm hnm=>(g2 nm hnm).symm.trans (h2 nm hnm)⟩
   .exact⟨λt ht=>(g1 t ht).trans (h1 t ht),λnm hnm=>(g2 nm hnm).trans (h2 nm hnm)⟩
  .obtain⟨r,hr⟩:=get i (by omega);obtain⟨q,hq⟩:=get j hj;obtain⟨g1,g2⟩:=(mH (hind i j r q hij hr hq hna)).2.2 σ;simp only[bV,hq];refine⟨λh r' hr'=>?_,λh r' hr'=>?_⟩<;>(have e:r'=r:=wS (hr'.symm.trans hr);subst e;obtain⟨h1,h2⟩:=h _ hr')
   .exact⟨λt ht=>(g1 t ht).symm.trans (h1 t ht),λnm hnm=>(g2 nm hnm).symm.trans (h2 nm hnm)⟩
   .exact⟨λt ht=>(g1 t ht).trans (h1 t ht),λnm hnm=>(g2 nm hnm).trans (h2 nm hnm)⟩
  .obtain⟨q,hq⟩:=get i hi;intro r k hr hk;simp only[bV,hq];refine pB ((mA hnew hr hk).2 i q hq hne ?_) (hu r k hr hk);rcases hc with hc | hc
   .exact .inl hc
   .exact .inr ⟨rfl,hc⟩
  .intro r hr;rw[mq hok j (by rw[hlen];omega)];exact⟨λ_ _=>rfl,λ_ _=>rfl⟩
 have below:∀q,q<ops.size->∀i,(tbl.getD q 0).testBit i=true->i<q:=by
  intro q;induction q using Nat.strongRecOn with
  | _ q ihq=>
   intro hq i hb;have hoq:=zI hq;obtain⟨e,he,heb,hc⟩:=(hanc q _ hoq).2 i hb;have hlt:=(hanc q _ hoq).1 e he heb;rcases hc with rfl | hc
   .exact hlt
   .have:=ihq e.on hlt (by omega) i hc;omega
 have allDone:∀(listed:Array Bool) (a:Act) (w:World),listed.size=ops.size->Region.ready .any ops listed=[]->(q<ops.size->listed.getD q false=false)->
   Sim S (fh (bV rs) (λi=>listed.getD i false) ops.size s.sig) a w->Q .normal a w:=by
  intro listed a w hsz hrd hql h;have hall:∀j,j<ops.size->listed.getD j false=true:=by
   intro j;induction j using Nat.strongRecOn with
   | _ j ih=>
    intro hj;cases hd:listed.getD j false with
    | true=>rfl
    | false=>
     exfalso;have ho:=zI hj;have hmem:j∈Region.ready .any ops listed:=by
      unfold Region.ready;simp only[xO,qX,qC,ho,zL,qQ];refine⟨hj,?_,?_⟩
      .have:listed.getD j true=listed.getD j false:=by simp[Array.getD,hsz,hj]
       rw[this,hd];rfl
      .rw[qAd];intro e he;cases hb:Region.binds .any e with
       | false=>rfl
       | true=>
        have hlt:=(hanc j _ ho).1 e he hb;rw[ih e.on hlt (by omega)];rfl
     rw[hrd]at hmem;cases hmem
  have hqs:ops.size<=q:=by
   rcases zC q ops.size with g | g
   .have:=hql g;rw[hall q g]at this;cases this
   .exact g
  refine hQ hqs a w ?_;rw[hlen,<- mq hok ops.size (by rw[hlen];exact qJ _),mo (bV rs) (d:=PZ) (d':=λi=>listed.getD i false) ops.size s.sig (λi hi=>(hall i hi).symm)];exact h
 intro n;induction n with
 | zero=>
  intro listed a w hsz hcnt _ hql hdc h;have hrd:Region.ready .any ops listed=[]:=by
   have:((List.range ops.size).filter λi=>!listed.getD i true)=[]:=vO (by omega);unfold Region.ready;rw[qBz]at this ⊢;intro i hi;have:=this i hi;simp only[qC,not_and];intro h1;exact(this h1).elim
  exact⟨hrd,allDone listed a w hsz hrd hql h⟩
 | succ n ih=>
  intro listed a w hsz hcnt hk hql hdc h;refine⟨λhrd=>allDone listed a w hsz hrd hql h,λj hj=>?_⟩;obtain⟨hjun,o,ho,hpre⟩:=mem_ready.1 hj;have hjl:j<ops.size:=(vK.1 ho).1;obtain⟨r,hr⟩:=get j hjl;have hjf:listed.getD j false=false:=by
   have:listed.getD j true=listed.getD j false:=by simp[Array.getD,hsz,hjl]
   rw[<- this];exact hjun
  have hp:∀i,i<j->(tbl.getD j 0).testBit i=true->listed.getD i false=true:=by
   intro i hij hb;obtain⟨e,he,heb,hc⟩:=(hanc j o ho).2 i hb;have hel:=hpre e he heb;rcases hc with rfl | hc
   .exact hel
   .have hlt:=(hanc j o ho).1 e he heb;exact hdc i e.on (below e.on (by omega) i hc) (by omega) hc hel
  obtain⟨g1,g2,g3⟩:=Bj HO (done:=λi=>listed.getD i false) hdc hjl hjf hp;by_cases hjq:j=q
  .subst hjq;exact spec hjl n listed a w hsz hjf hcnt (λi hb=>hp i (below j hjl i hb) hb) (λi hb hi=>by
    cases hl:listed.getD i false with
    | false=>rfl
    | true=>have:=hdc j i (below i hi j hb) hi hb hl;rw[hjf]at this;cases this) g1 h
  .have hlive:Live tbl k q j:=by
    refine⟨?_,hjq,?_⟩
    .rcases zC j k with g | g
     .have:=hk j g hjl;rw[hjf]at this;cases this
     .exact g
    .cases hb:(tbl.getD j 0).testBit q with
     | false=>rfl
     | true=>
      have hlt:=below j hjl q hb;have:=hp q hlt hb;rw[hql (by omega)]at this;cases this
   obtain⟨g4,g5⟩:=g1 r hr;obtain⟨l1,l2,l3⟩:=hat j o r ho hr hlive;have hst:=sh l1 g4 g5;have hstep:wpOpIn S.F 0 S.P ops Q j (λa' w'=>Sim S (bV rs j (fh (bV rs) (λi=>listed.getD i false) ops.size s.sig)) a' w') a w:=by
    have:=nU (Q:=Q) hK ho h l2 hst l3 (λk hk=>g2 r k hr hk);simp only[bV,hr];exact this
   have eset:∀i,(listed.setIfInBounds j true).getD i false=if i=j then true else listed.getD i false:=by
    intro i;simp only[qK,zB];by_cases e:j=i
    .subst e;simp[hsz,hjl]
    .rw[if_neg e,if_neg (λh=>e h.symm)]
   refine wpOpIn_mono (λa' w' h'=>ih (listed.setIfInBounds j true) a' w' (by simpa using hsz) ?_ ?_ ?_ ?_ ?_) hstep
   .have:=G1 hsz hjl hjun;omega
   .intro i hi hil;rw[eset];split
    .rfl
    .exact hk i hi hil
   .intro hqs;rw[eset,if_neg (λe=>hjq e.symm)];exact hql hqs
   .intro i p hip hp2 hb hlp;rw[eset]at hlp ⊢;split
    .rfl
    .split at hlp
     .rename_i e1;subst e1;exact hp i hip hb
     .exact hdc i p hip hp2 hb hlp
   .rw[show(λi=>(listed.setIfInBounds j true).getD i false)=λi=>if i=j then true else listed.getD i false from funext eset,g3];exact h'
end
end Go.Eng
namespace Go.Eng
open Go.RowKit
def nB(m:Mem)(nm:Nat): Bool:=m.any λp=>match p.2 with
 | .mat _ _ _ _ ov=>(AV.namesL (ov.map (·.2))).contains nm
 | _=>false
def gone(m m':Mem)(nm:Nat): Option Blk:=if nB m nm then none else match m'.lookup nm with
 | some _=>none
 | none=>m.lookup nm
theorem fO{m m':Mem}{nm:Nat}{b:Blk}(h:gone m m' nm=some b): m.lookup nm=some b/\m'.lookup nm=none/\nB m nm=false:=by
 unfold gone at h;split at h
 .cases h
 .rename_i hf;split at h
  .cases h
  .rename_i hno;exact⟨h,hno,kP.2 hf⟩
def Ip(m m':Mem)(nm n:Nat)(t:Ty): Option (List Prop×List t.den):=
 match gone m m' nm with
  | some (.buf _ t' xs [])=>if h:t'=t then some ([xs.length=n],h▸xs)else none
  | some (.buf _ (.sl e) xs [(i,.buf nm2 n2)])=>match gone m m' nm2 with
    | some (.buf _ e' zs [])=>if h:e'=e then if h2:Ty.sl e=t then some ([xs.length=n,zs.length=n2],h2▸En (α:=List e.den) xs i (h▸zs))else none else none
    | _=>none
  | some (.mat _ _ e xss [])=>if h:Ty.sl e=t then some ([xss.length=n],h▸xss)else none
  | _=>none
mutual
def leA(m m':Mem): AV->AV->Option (List Prop)
 | a,b=>match b with
  | .top=>some []
  | b=>match a,b with
   | .dat t x,.dat t' y=>if h:t=t' then some [h▸x=y]else none
   | .val v,.dat t y=>match v,t,y with
    | .slice none 0 0,.sl _,y=>some [y=[]]
    | _,_,_=>none
   | .val v,.buf nm n=>match v,m.lookup nm,m'.lookup nm with
    | .slice none 0 0,none,some (.buf _ _ ys [])=>some [n=0,ys=[]]
    | _,_,_=>none
   | .val v,.val v'=>some [v=v']
   | .buf nm n,.buf nm' n'=>if nm=nm' then match m.lookup nm with | some _=>some [n=n'] | none=>none else none
   | .buf nm n,.dat t y=>match t,y with
    | .sl t,y=>match Ip m m' nm n t with | some (ns,xs)=>some (ns++[xs=y]) | none=>none
    | _,_=>none
   | .ptr nm g i c,.ptr nm' g' i' c'=>if nm=nm' then match m.lookup nm with | some _=>some [g=g',i=i',c=c'] | none=>none else none
   | .ptr nm g i c,.ip t y=>match gone m m' nm with
    | some (.var cs)=>match cF t (cs.drop c)with
     | some (x,_)=>some [1=g,i=0,x=y]
     | none=>none
    | _=>none
   | .ip t x,.ip t' y=>if h:t=t' then some [h▸x=y]else none
   | .agg cs,.agg cs'=>leL m m' cs cs'
   | .tup cs,.tup cs'=>leL m m' cs cs'
   | .fn f cs,.fn f' cs'=>if f=f' then leL m m' cs cs' else none
   | .clo1 a r p g,.clo1 a' r' p' g'=>some [AV.clo1 a r p g=AV.clo1 a' r' p' g']
   | .clo2 a b r p g,.clo2 a' b' r' p' g'=>some [AV.clo2 a b r p g=AV.clo2 a' b' r' p' g']
   | .ifc t a,.ifc t' b=>if t=t' then leA m m' a b else none
   | .grd g a,b=>match leA m m' a b with | some ns=>some ((g=true)::ns) | none=>none
   | .ptr nm g i c,.ipv b=>match gone m m' nm with
    | some (.var cs)=>match cs.drop c with
     | x::_=>if nameless x then some [1=g,i=0,x=b]else none
     | []=>none
    | _=>none
   | .ptr nm g i 0,.ia t y=>match gone m m' nm with
    | some (.buf _ t' xs [])=>if h:t'=t then some [xs.length=g,i=0,h▸xs=y]else none
    | _=>none
   | .ipv a,.ipv b=>leA m m' a b
   | .ips cs,.ips cs'=>leL m m' cs cs'
   | .slv cs,.slv cs'=>leL m m' cs cs'
   | .ia t x,.ia t' y=>if h:t=t' then some [h▸x=y]else none
   | .yld l,.yld l'=>some [l=l']
   | .av t x,.av t' y=>if h:t=t' then some [h▸x=y]else none
   | .pin u a,.pin u' b=>match leA m m' a b with | some ns=>some ((u=u')::ns) | none=>none
   | _,_=>none
def leL(m m':Mem): List AV->List AV->Option (List Prop)
 | [],[]=>some []
 | a::as,b::bs=>match leA m m' a b,leL m m' as bs with
  | some p,some q=>some (p++q)
  | _,_=>none
 | _,_=>none
end
def ZW(m m':Mem)(t:Ty)(xs ys:List t.den)(i:Nat)(v:AV): Option (List Prop):=
 match t,xs,ys,v with
 | .sl e,xs,ys,.buf nm2 n2=>match Ip m m' nm2 n2 e with
  | some (ns,zs)=>some (ns++[En (α:=List e.den) xs i zs=ys])
  | none=>none
 | _,_,_,_=>none
def HN(m m':Mem)(eli:TypeId)(e:Ty)(xs ys:List (List e.den))(i:Nat): AV->Option (List Prop)
 | .buf nm2 n2=>match m'.lookup nm2,m.lookup nm2 with
  | none,some (.buf el2 e2 zs [])=>if el2=eli then if h:e2=e then some [zs.length=n2,En (α:=List e.den) xs i (h▸zs)=ys]else none else none
  | _,_=>none
 | _=>none
def Uf(e:Ty)(t:Ty)(xs:List t.den)(ys:List (List e.den)): Option (List Prop):=
 if h:t=.sl e then if e.sz=1 then some [(h▸xs:List (Ty.den (.sl e)))=ys,Fb ys]else none else none
def leB(m m':Mem): Blk->Blk->Option (List Prop)
 | .var cs,.var cs'=>leL m m' cs cs'
 | .buf el t xs ov,.buf el' t' ys ov'=>if el=el' then if h:t=t' then match ov,ov' with
   | [],[]=>some [h▸xs=ys]
   | [(i,v)],[(i',v')]=>match leA m m' v v' with
    | some ns=>some ([h▸xs=ys,i=i']++ns)
    | none=>none
   | [(i,v)],[]=>ZW m m' t' (h▸xs) ys i v
   | _,_=>none
  else none else none
 | .buf el t xs [],.mat el' _ e ys []=>if el=el' then Uf e t xs ys else none
 | .mat el eli e xs ov,.mat el' eli' e' ys ov'=>if el=el'/\eli=eli' then if h:e=e' then match ov,ov' with
   | [],[]=>some [h▸xs=ys]
   | [(i,v)],[(i',v')]=>match leA m m' v v' with
    | some ns=>some ([h▸xs=ys,i=i']++ns)
    | none=>none
   | [(i,v)],[]=>HN m m' eli e' (h▸xs) ys i v
   | _,_=>none
  else none else none
 | _,_=>none
def leM(m m':Mem): Mem->Option (List Prop)
 | []=>some []
 | (nm,b')::r=>match(match m.lookup nm with
     | some b=>leB m m' b b'
     | none=>match b' with
      | .buf _ _ ys []=>some [ys=[]]
      | _=>none),leM m m' r with
  | some p,some q=>some (p++q)
  | _,_=>none
def vE: Mem->List Nat
 | []=>[]
 | (nm,.mat _ _ _ _ (_::_))::r=>nm::vE r
 | _::r=>vE r
def Qc(s s':St): Option (List Prop):=
 if s.tm.length=s'.tm.length/\(vE s.mem).length<=1 then match leL s.mem s'.mem s.tm s'.tm,leM s.mem s'.mem s'.mem,leL s.mem s'.mem s.sv s'.sv with
  | some p,some q,some r=>some (p++q++r)
  | _,_,_=>none
 else none
section
variable {S:Base} {s s':St} {a:Act} {w:World} {D:Nat->Prop} {E:Nat->Ent}
def VW(m m':Mem)(D:Nat->Prop)(E:Nat->Ent)(b:Nat): Prop:=D b\/(∃nm blk,m.lookup nm=some blk/\m'.lookup nm=none/\nB m nm=false/\(E nm).isNil=false/\b=(E nm).b)\/∃nm i,m'.lookup nm=none/\b8 (λk=>m.lookup k) E nm i b
def Y8(E:Nat->Ent)(nm:Nat): Blk->Nat->Nat×Nat
 | .mat _ _ _ _ [(i,.buf nm2 _)]=>λk=>if k=i then((E nm2).b,(E nm2).cap)else(E nm).rb k
 | _=>(E nm).rb
def uG(m:Mem)(E:Nat->Ent)(nm:Nat): Ent:=match m.lookup nm with | some b=>⟨(E nm).b,(E nm).cap,(E nm).isNil,Y8 E nm b⟩ | none=>⟨0,0,true,noR⟩
theorem B7{m:Mem}{E:Nat->Ent}{nm:Nat}{b:Blk}(h:m.lookup nm=some b): uG m E nm=⟨(E nm).b,(E nm).cap,(E nm).isNil,Y8 E nm b⟩:=by unfold uG;rw[h]
theorem t7{m:Mem}{E:Nat->Ent}{nm:Nat}{b:Blk}(h:m.lookup nm=some b)(n:Nat): (uG m E nm).handle n=(E nm).handle n:=by rw[B7 h];rfl
def JV(s:St)(w:World)(D:Nat->Prop)(E:Nat->Ent): Ctx:=⟨w,D,s.sig.m,E⟩
def ctx1(s s':St)(w:World)(D:Nat->Prop)(E:Nat->Ent): Ctx:=⟨w,VW s.mem s'.mem D E,s'.sig.m,uG s.mem E⟩
theorem jh(h:aH S s.sig a w D E){nm:Nat}{el:TypeId}{t:Ty}{xs:List t.den}{ov:List (Nat×AV)}(hm:s.mem.lookup nm=some (.buf el t xs ov)):
  ∃raw,bW S.P (JV s w D E) t xs ov raw/\raw.length=xs.length*t.sz/\
   (((E nm).isNil=true/\xs=[]/\(E nm).handle xs.length=.slice none 0 0) \/
    ((E nm).isNil=false/\(E nm).handle xs.length=.slice (some ⟨(E nm).b,0,none⟩) xs.length (E nm).cap/\xs.length<=(E nm).cap/\cJ w (E nm).b 0 raw)):=by
 obtain⟨raw,r1,r2⟩:=h.bl nm _ hm;refine⟨raw,r2,r1.1,?_⟩;cases hnil:(E nm).isNil with
 | true=>
  have e3:(E nm).handle xs.length=.slice none 0 0:=by unfold Ent.handle;rw[hnil];rfl
  rw[e3]at r1;rcases r1.2 with⟨_,hz⟩ | ⟨g,cap,cur,hq,_⟩
  .exact .inl ⟨rfl,vO hz,e3⟩
  .cases hq
 | false=>
  have e3:(E nm).handle xs.length=.slice (some ⟨(E nm).b,0,none⟩) xs.length (E nm).cap:=by unfold Ent.handle;rw[hnil];rfl
  rw[e3]at r1;refine .inr ⟨rfl,e3,?_,λj u hj=>?_⟩
  .rcases r1.2 with⟨hq,_⟩ | ⟨g,cap,cur,hq,_,_,hle,_⟩
   .cases hq
   .simp only[zM,zS]at hq;omega
  .have hlt:j<xs.length*t.sz:=by rw[<- r1.1];exact(qF.1 hj).1
   show w.cell? ⟨(E nm).b,0+j,none⟩=some u;rw[wY,r1.cellAt j hlt];exact hj
theorem bU{m m':Mem}: ∀b,D b->VW m m' D E b:=λ_ h=>.inl h
theorem l9(h:aH S s.sig a w D E){nm:Nat}{el:TypeId}{t:Ty}{xs:List t.den}(hg:gone s.mem s'.mem nm=some (.buf el t xs [])):
  ah w (VW s.mem s'.mem D E) (.sl t) xs [(E nm).handle xs.length]:=by
 obtain⟨hm,hno,hf⟩:=fO hg;obtain⟨raw,r1,r2,r3⟩:=jh h hm;rcases r3 with⟨_,rfl,e⟩ | ⟨hnil,e,hle,hc⟩
 .rw[e];exact bm _ _ _
 .rw[e];refine⟨_,_,rfl,hle,(λh=>by cases h),(λad had _=>by cases had;rfl),λi y hy=>?_⟩;have hr:=r1 i y hy;simp only[List.lookup]at hr;refine⟨_,_,rfl,.inr (.inl ⟨nm,_,hm,hno,hf,hnil,rfl⟩),?_,al bU (λ_ _=>rfl) hr⟩;intro j u hj;rw[vM]at hj;split at hj
  .rw[qY]at hj;have:=hc (i*t.sz+j) u hj;show w.cell? ⟨(E nm).b,0+i*t.sz+j,none⟩=some u;rw[wY]at this ⊢;exact this
  .cases hj
theorem BH(h:aH S s.sig a w D E){nm:Nat}{el eli:TypeId}{t:Ty}{xss:List (List t.den)}(hg:gone s.mem s'.mem nm=some (.mat el eli t xss [])):
  ah w (VW s.mem s'.mem D E) (.sl (.sl t)) xss [(E nm).handle xss.length]:=by
 obtain⟨hm,hno,hf⟩:=fO hg;obtain⟨h0,raw,r1,r2⟩:=h.bl nm _ hm;cases hnil:(E nm).isNil with
 | true=>
  have e3:(E nm).handle xss.length=.slice none 0 0:=by unfold Ent.handle;rw[hnil];rfl
  rw[e3]at r1 ⊢;rcases r1.2 with⟨_,hz⟩ | ⟨g,cap,cur,hq,_⟩
  .have:xss=[]:=vO hz;subst this;exact bm _ _ _
  .cases hq
 | false=>
  have e3:(E nm).handle xss.length=.slice (some ⟨(E nm).b,0,none⟩) xss.length (E nm).cap:=by unfold Ent.handle;rw[hnil];rfl
  rw[e3]at r1 ⊢;have hle:xss.length<=(E nm).cap:=by
   rcases r1.2 with⟨hq,_⟩ | ⟨g,cap,cur,hq,_,_,hle,_⟩
   .cases hq
   .simp only[zM,zS]at hq;omega
  refine⟨_,_,rfl,hle,(λh=>by cases h),(λad had _=>by cases had;rfl),λi row hi=>?_⟩;obtain⟨u,g1,g2⟩:=r2 i row hi;simp only[List.lookup]at g2;obtain⟨ao,cap,q2,k1,k0,k2⟩:=g2;refine⟨_,[u],rfl,.inr (.inl ⟨nm,_,hm,hno,hf,hnil,rfl⟩),?_,?_⟩
  .intro j v hj;cases j with
   | succ j=>simp at hj
   | zero=>
    simp at hj;subst hj;have hlt:i<xss.length*1:=by have:=(qF.1 hi).1;omega
    show w.cell? ⟨(E nm).b,0+i*1+0,none⟩=some u;rw[wY,yI,yU,r1.cellAt i hlt];exact g1
  .by_cases hp:0<row.length
   .obtain⟨p1,p2,p3⟩:=k2 hp;subst k1 p1;have hle2:row.length<=cap:=by
     rcases p2.2 with⟨hq,_⟩ | ⟨g,cap',cur,hq,_,_,hle,_⟩
     .cases hq
     .simp only[zM,zS]at hq;omega
    refine⟨_,_,rfl,hle2,(λh=>by cases h),(λad had _=>by cases had;rfl),λj y hy=>?_⟩;have hr:=p3 j y hy;simp only[List.lookup]at hr;refine⟨_,_,rfl,.inr (.inr ⟨nm,i,hno,el,eli,t,xss,[],row,hm,rfl,hi,hp,rfl⟩),?_,al bU (λ_ _=>rfl) hr⟩;intro z v hz;rw[vM]at hz;split at hz
    .rename_i hz1;rw[qY]at hz;have hj:=(qF.1 hy).1;have hlt:j*t.sz+z<row.length*1:=by rw[h0]at hz1 ⊢;omega
     show w.cell? ⟨((E nm).rb i).1,0+j*t.sz+z,none⟩=some v;rw[wY,p2.cellAt _ hlt];exact hz
    .cases hz
   .have:row=[]:=vO (by omega);subst this k1;exact⟨ao,cap,rfl,wU _,k0,λ_ _ h=>absurd h (yS _),λj y hy=>by cases hy⟩
theorem wy(h:aH S s.sig a w D E){nm n:Nat}{t:Ty}{ns:List Prop}{xs:List t.den}{v:Value}(hc:Ip s.mem s'.mem nm n t=some (ns,xs))(hn:∀q∈ns,q)
  (hv:(AV.buf nm n).rel S.P (JV s w D E) v):ah w (VW s.mem s'.mem D E) (.sl t) xs [v]:=by
 unfold Ip at hc;split at hc
 .rename_i el t' xs' hgo;obtain⟨hm,hno,hf⟩:=fO hgo;split at hc
  .rename_i ht;subst ht;cases hc;have hlen:xs'.length=n:=hn _ (by simp);have e0:=(hv _ hm).2 hlen;rw[<- hlen]at e0;rw[e0];exact l9 h hgo
  .cases hc
 .rename_i el e xs' i nm2 n2 hgo;obtain⟨hm,hno,hf⟩:=fO hgo;split at hc
  case h_2=>cases hc
  rename_i el2 e' zs hgo2;obtain⟨hm2,hno2,hf2⟩:=fO hgo2;split at hc
  case isFalse=>cases hc
  rename_i he;subst he;split at hc
  case isFalse=>cases hc
  rename_i ht;subst ht;cases hc;have hlen:xs'.length=n:=hn _ (by simp);have hlen2:zs.length=n2:=hn _ (by simp);have e0:=(hv _ hm).2 hlen;rw[<- hlen]at e0;obtain⟨raw,r1,r2,r3⟩:=jh h hm;simp only[Ty.sz,yI]at r2;rcases r3 with⟨_,hx,e⟩ | ⟨hnil,e,hle,hc⟩
  .have:xs'=[]:=hx;subst this;have e1:v=.slice none 0 0:=e0.trans e;rw[e1];exact bm _ _ _
  .have e1:=e0.trans e;rw[e1];refine⟨_,_,by rw[En,yD],by rw[En,yD];exact hle,(λh=>by cases h),(λad had _=>by cases had;rfl),λk y hy=>?_⟩;have hy':(List.set xs' i zs)[k]?=some y:=hy;have hk:k<xs'.length:=by have:=(qF.1 hy').1;rwa [yD]at this
   have hx:=r1 k _ (qB hk);refine⟨⟨(E nm).b,0,none⟩,(raw.drop (k*1)).take 1,rfl,.inr (.inl ⟨nm,_,hm,hno,hf,hnil,rfl⟩),?_,?_⟩
   .intro j u hj;rw[vM]at hj;split at hj
    .rename_i hj1;rw[qY]at hj;have:=hc (k*1+j) u hj;show w.cell? ⟨(E nm).b,0+k*1+j,none⟩=some u;rw[wY]at this ⊢;exact this
    .cases hj
   .rw[yX]at hy';split at hy'
    .rename_i eik;subst eik;rw[if_pos hk]at hy';cases hy';simp only[List.lookup,yH]at hx;obtain⟨_,u,hu,_,hur⟩:=hx;have e4:(raw.drop (i*1)).take 1=[u]:=by
      rw[yI];apply xK;intro q;rw[vM];cases q with
      | zero=>simp[hu]
      | succ q=>simp
     rw[e4,(hur _ hm2).2 hlen2,<- hlen2];exact l9 h hgo2
    .rename_i hne;have hb:(k==i)=false:=by simpa using λe=>hne e.symm
     simp only[List.lookup,hb]at hx;have:y=xs'[k]:=by rw[qB hk]at hy';exact(wS hy').symm
     rw[this];exact al bU (λ_ _=>rfl) hx
 .rename_i el eli e xss hgo;obtain⟨hm,hno,hf⟩:=fO hgo;split at hc
  case isFalse=>cases hc
  rename_i ht;subst ht;cases hc;have hlen:xss.length=n:=hn _ (by simp);have e0:=(hv _ hm).2 hlen;rw[<- hlen]at e0;rw[e0];exact BH h hgo
 .cases hc
theorem OS{t t':Ty}{x:t.den}{y:t'.den}{w:World}{D:Nat->Prop}{us:Lv}(h:t=t')(e:h▸x=y)(hr:ah w D t x us): ah w D t' y us:=by
 subst h;simp only at e;subst e;exact hr
def Names(m m':Mem): Prop:=∀nm b b',m.lookup nm=some b->m'.lookup nm=some b'->b.len=b'.len/\b.es=b'.es
mutual
theorem lT(h:aH S s.sig a w D E)(hN:Names s.mem s'.mem): ∀{x y:AV} {ns:List Prop} {v:Value},leA s.mem s'.mem x y=some ns->(∀q∈ns,q)->x.rel S.P (JV s w D E) v->y.rel S.P (ctx1 s s' w D E) v
 | x,y,ns,v,hc,hn,hx=>by
  unfold leA at hc;split at hc
  .trivial
  .rename_i hnt;split at hc
   ·
    split at hc
    .rename_i ht;cases hc;exact al bU (λ_ _=>rfl) (OS ht (hn _ (by simp)) hx)
    .cases hc
   ·
    split at hc
    .rename_i e0 y0;cases hc;have hy:y0=[]:=hn _ (vG.2 rfl);simp only[AV.rel]at hx;subst hx hy;exact bm _ _ _
    .cases hc
   ·
    rename_i u nm n;split at hc
    .rename_i el ty ys hno hm';cases hc;have h1:n=0:=hn _ (by simp);have h2:ys=[]:=hn _ (by simp);simp only[AV.rel]at hx;subst hx;intro b hb;have e:b=.buf el ty ys []:=wS (hb.symm.trans hm');subst e h1 h2;refine⟨qJ _,λ_=>?_⟩;show _=(uG s.mem E nm).handle 0;unfold uG;rw[hno];rfl
    .cases hc
   .cases hc;have e:_=_:=hn _ (vG.2 rfl);simp only[AV.rel]at hx ⊢;rw[hx];exact e
   ·
    rename_i nm n nm' n';split at hc
    case isFalse=>cases hc
    rename_i e;subst e;split at hc
    case h_2=>cases hc
    rename_i blk hm;cases hc;have e2:n=n':=hn _ (by simp);subst e2;intro b' hb';obtain⟨l1,l2⟩:=hN nm blk b' hm hb';obtain⟨g1,g2⟩:=hx blk hm;refine⟨by omega,λe=>?_⟩;show v=(uG s.mem E nm).handle n;rw[t7 hm];exact g2 (by omega)
   ·
    rename_i nm n t y;split at hc
    .rename_i t y;split at hc
     .rename_i ns' xs hd;cases hc;have e:xs=y:=hn _ (by simp);subst e;exact wy h hd (λq hq=>hn q (by simp[hq])) hx
     .cases hc
    .cases hc
   ·
    rename_i nm g i c nm' g' i' c';split at hc
    case isFalse=>cases hc
    rename_i e;subst e;split at hc
    case h_2=>cases hc
    rename_i blk hm;cases hc;have e1:g=g':=hn _ (by simp);have e2:i=i':=hn _ (by simp);have e3:c=c':=hn _ (by simp);subst e1 e2 e3;intro b' hb';obtain⟨l1,l2⟩:=hN nm blk b' hm hb';obtain⟨g1,g2⟩:=hx blk hm;refine⟨by omega,λe=>?_⟩;obtain⟨q1,q2,q3⟩:=g2 (by omega);have q2':(E nm).isNil=false:=q2;refine⟨q1,?_,?_⟩
    .show(uG s.mem E nm).isNil=false;rw[B7 hm];exact q2'
    .show v=.pointer (some ⟨(uG s.mem E nm).b,_,none⟩);rw[B7 hm,<- l2];exact q3
   ·
    rename_i nm g i c t y;split at hc
    case h_2=>cases hc
    rename_i cs hgo;obtain⟨hm,hno,hf⟩:=fO hgo;split at hc
    case h_2=>cases hc
    rename_i x rest hof;cases hc;have e1:1=g:=hn _ (by simp);have e2:i=0:=hn _ (by simp);have e3:x=y:=hn _ (by simp);subst e2 e3;obtain⟨_,q2,q3⟩:=(hx _ hm).2 e1;have q2':(E nm).isNil=false:=q2;obtain⟨_,us,el,r1,r2⟩:=h.bl nm _ hm;have hd:=AV.relL_drop r2 c;obtain⟨u1,u2,e,p1,p2⟩:=cm hof hd;have q3':v=.pointer (some ⟨(E nm).b,c,none⟩):=by
     have:(Blk.var cs).es*0=0:=Nat.mul_zero _;rw[q3];show Value.pointer (some ⟨(E nm).b,0*_+c,none⟩)=_;rw[yR,wY]
    refine⟨(E nm).b,c,u1,q3',.inr (.inl ⟨nm,_,hm,hno,hf,q2',rfl⟩),?_,al bU (λ_ _=>rfl) p1⟩;intro j u hj;have r1':w.heap[(E nm).b]?=some (.cells us el (0,0)):=r1;show w.cell? ⟨(E nm).b,c+j,none⟩=some u;rw[qDq w _ _ us el (0,0) r1'];have:(us.toList.drop c)[j]?=some u:=by rw[e,vJ (qF.1 hj).1];exact hj
    rw[qY]at this;simpa using this
   .split at hc
    .rename_i ht;cases hc;obtain⟨b,off,us,g1,g2,g3,g4⟩:=hx;exact⟨b,off,us,g1,.inl g2,g3,al bU (λ_ _=>rfl) (OS ht (hn _ (by simp)) g4)⟩
    .cases hc
   .obtain⟨us,e,g⟩:=hx;exact⟨us,e,lS h hN hc hn g⟩
   .obtain⟨us,e,g⟩:=hx;exact⟨us,e,lS h hN hc hn g⟩
   .split at hc
    .rename_i ef;subst ef;obtain⟨us,e,g⟩:=hx;exact⟨us,e,lS h hN hc hn g⟩
    .cases hc
   .cases hc;have e:=hn _ (vG.2 rfl);rw[<- e];exact AV.rel_mono (C:=JV s w D E) (C':=ctx1 s s' w D E) ⟨bU,λ_ _=>rfl⟩ (λnm hm=>by simp[AV.names]at hm) hx
   .cases hc;have e:=hn _ (vG.2 rfl);rw[<- e];exact AV.rel_mono (C:=JV s w D E) (C':=ctx1 s s' w D E) ⟨bU,λ_ _=>rfl⟩ (λnm hm=>by simp[AV.names]at hm) hx
   .split at hc
    .rename_i et;subst et;obtain⟨u,e,g⟩:=hx;exact⟨u,e,lT h hN hc hn g⟩
    .cases hc
   .rename_i g x';split at hc
    .rename_i ns' hns;cases hc;have hg:g=true:=hn _ (by simp);exact lT h hN hns (λq hq=>hn q (by simp[hq])) (hx.1 hg)
    .cases hc
   ·
    rename_i nm g i c b';split at hc
    case h_2=>cases hc
    rename_i cs hgo;obtain⟨hm,hno,hf⟩:=fO hgo;split at hc
    case h_2=>cases hc
    rename_i x rest hdr;split at hc
    case isFalse=>cases hc
    rename_i hnl;cases hc;have e1:1=g:=hn _ (by simp);have e2:i=0:=hn _ (by simp);have e3:x=b':=hn _ (by simp);subst e2 e3;obtain⟨_,q2,q3⟩:=(hx _ hm).2 e1;have q2':(E nm).isNil=false:=q2;obtain⟨_,us,el,r1,r2⟩:=h.bl nm _ hm;have hd:=AV.relL_drop r2 c;rw[hdr]at hd;obtain⟨u,us',e,p1,p2⟩:=hd;have q3':v=.pointer (some ⟨(E nm).b,c,none⟩):=by
     rw[q3];show Value.pointer (some ⟨(E nm).b,0*_+c,none⟩)=_;rw[yR,wY]
    refine⟨(E nm).b,c,u,q3',.inr (.inl ⟨nm,_,hm,hno,hf,q2',rfl⟩),?_,qx (C:=JV s w D E) (C':=ctx1 s s' w D E) hnl ⟨bU,λ_ _=>rfl⟩ p1⟩;have r1':w.heap[(E nm).b]?=some (.cells us el (0,0)):=r1;show w.cell? ⟨(E nm).b,c,none⟩=some u;rw[qDq w _ _ us el (0,0) r1'];have:(us.toList.drop c)[0]?=some u:=by rw[e];rfl
    rw[qY]at this;simpa using this
   ·
    rename_i nm g i t y;split at hc
    case h_2=>cases hc
    rename_i el t' xs hgo;obtain⟨hm,hno,hf⟩:=fO hgo;split at hc
    case isFalse=>cases hc
    rename_i ht;subst ht;cases hc;have e1:xs.length=g:=hn _ (by simp);have e2:i=0:=hn _ (by simp);have e3:xs=y:=hn _ (by simp);subst e2 e3;obtain⟨_,q2,q3⟩:=(hx _ hm).2 e1;have q2':(E nm).isNil=false:=q2;have hp:=l9 (s':=s') h hgo;have e4:(E nm).handle xs.length=.slice (some ⟨(E nm).b,0,none⟩) xs.length (E nm).cap:=by unfold Ent.handle;rw[q2'];rfl
    rw[e4]at hp;have q3':v=.pointer (some ⟨(E nm).b,0,none⟩):=by
     rw[q3];show Value.pointer (some ⟨(E nm).b,0*_+0,none⟩)=_;rw[yR]
    exact⟨(E nm).b,0,q3',Bc hp _ (qJ _)⟩
   .obtain⟨b,off,u,g1,g2,g3,g4⟩:=hx;exact⟨b,off,u,g1,.inl g2,g3,lT h hN hc hn g4⟩
   .obtain⟨b,off,us,g1,g2,g3,g4⟩:=hx;exact⟨b,off,us,g1,.inl g2,g3,lS h hN hc hn g4⟩
   .obtain⟨b,off,us,g1,g2,g3,g4⟩:=hx;have g5:=lS h hN hc hn g4;have el:=(AV.relL_length g4).trans (AV.relL_length g5).symm;exact⟨b,off,us,by rw[g1,el],.inl g2,g3,g5⟩
   .split at hc
    .rename_i ht;cases hc;subst ht;have e:=hn _ (vG.2 rfl);simp only at e;subst e;obtain⟨b,off,g1,g2⟩:=hx;exact⟨b,off,g1,al bU (λ_ _=>rfl) g2⟩
    .cases hc
   .cases hc;have e:=hn _ (vG.2 rfl);subst e;exact hx
   .split at hc
    .rename_i ht;cases hc;subst ht;have e:=hn _ (vG.2 rfl);simp only at e;subst e;obtain⟨us,g1,g2,g3⟩:=hx;exact⟨us,g1,g2,λi y hy=>al bU (λ_ _=>rfl) (g3 i y hy)⟩
    .cases hc
   .split at hc
    .rename_i ns' hns;cases hc;exact⟨hx.1.trans (hn _ (by simp)),lT h hN hns (λq hq=>hn q (by simp[hq])) hx.2⟩
    .cases hc
   .cases hc
theorem lS(h:aH S s.sig a w D E)(hN:Names s.mem s'.mem): ∀{xs ys:List AV} {ns:List Prop} {vs:Lv},leL s.mem s'.mem xs ys=some ns->(∀q∈ns,q)->AV.relL S.P (JV s w D E) xs vs->AV.relL S.P (ctx1 s s' w D E) ys vs
 | [],[],ns,vs,hc,hn,hx=>hx
 | x::xs,y::ys,ns,vs,hc,hn,hx=>by
  simp only[leL]at hc;split at hc
  .rename_i p q h1 h2;cases hc;obtain⟨v,vs',e,g1,g2⟩:=hx;exact⟨v,vs',e,lT h hN h1 (λz hz=>hn z (qH.2 (.inl hz))) g1,lS h hN h2 (λz hz=>hn z (qH.2 (.inr hz))) g2⟩
  .cases hc
 | [],_::_,ns,vs,hc,hn,hx=>by simp[leL]at hc
 | _::_,[],ns,vs,hc,hn,hx=>by simp[leL]at hc
end
end
end Go.Eng
namespace Go.Eng
open Go.RowKit
theorem wd{m m':Mem}: ∀{xs ys:List AV} {ns:List Prop},leL m m' xs ys=some ns->xs.length=ys.length
 | [],[],_,_=>rfl
 | x::xs,y::ys,ns,h=>by
  simp only[leL]at h;split at h
  .rename_i p q h1 h2;simp[wd h2]
  .cases h
 | [],_::_,_,h=>by simp[leL]at h
 | _::_,[],_,h=>by simp[leL]at h
theorem VO{m m':Mem}: ∀{xs ys:List AV} {ns:List Prop} {i:Nat} {y:AV},leL m m' xs ys=some ns->ys[i]?=some y->∃x p,xs[i]?=some x/\leA m m' x y=some p/\∀q∈p,q∈ns
 | [],[],_,i,y,_,h=>by simp at h
 | x::xs,y::ys,ns,i,z,h,hi=>by
  simp only[leL]at h;split at h
  .rename_i p q h1 h2;cases h;cases i with
   | zero=>simp at hi;subst hi;exact⟨x,p,rfl,h1,λz hz=>qH.2 (.inl hz)⟩
   | succ i=>
    simp at hi;obtain⟨x',p',g1,g2,g3⟩:=VO h2 hi;exact⟨x',p',by simpa using g1,g2,λz hz=>qH.2 (.inr (g3 z hz))⟩
  .cases h
 | [],_::_,_,_,_,h,_=>by simp[leL]at h
 | _::_,[],_,_,_,h,_=>by simp[leL]at h
theorem YT{m m':Mem}{b b':Blk}{ns:List Prop}(h:leB m m' b b'=some ns)(hn:∀q∈ns,q): b.len=b'.len/\b.es=b'.es:=by
 unfold leB at h;split at h
 .exact⟨rfl,wd h⟩
 .split at h
  case isFalse=>cases h
  split at h
  case isFalse=>cases h
  rename_i ht;subst ht;split at h
  .cases h;have e:=hn _ (vG.2 rfl);simp only at e;subst e;exact⟨rfl,rfl⟩
  .split at h
   .cases h;have e:=hn _ (wL);simp only at e;subst e;exact⟨rfl,rfl⟩
   .cases h
  .unfold ZW at h;split at h
   .split at h
    .cases h;have e:=hn _ (qH.2 (.inr (vG.2 rfl)));subst e;exact⟨by simp[Blk.len,En],rfl⟩
    .cases h
   .cases h
  .cases h
 .split at h
  case isFalse=>cases h
  unfold Uf at h;split at h
  case isFalse=>cases h
  rename_i ht;subst ht;split at h
  case isFalse=>cases h
  cases h;have e:=hn _ wL;simp only at e;subst e;exact⟨rfl,rfl⟩
 .split at h
  case isFalse=>cases h
  split at h
  case isFalse=>cases h
  rename_i ht;subst ht;split at h
  .cases h;have e:=hn _ (vG.2 rfl);simp only at e;subst e;exact⟨rfl,rfl⟩
  .split at h
   .cases h;have e:=hn _ (wL);simp only at e;subst e;exact⟨rfl,rfl⟩
   .cases h
  .unfold HN at h;split at h
   .split at h
    .split at h
     case isFalse=>cases h
     split at h
     case isFalse=>cases h
     rename_i e2;subst e2;cases h;have e:=hn _ (zA _ (vG.2 rfl));subst e;exact⟨by simp[Blk.len,En],rfl⟩
    .cases h
   .cases h
  .cases h
 .cases h
section
variable {S:Base} {s s':St} {a:Act} {w:World} {D:Nat->Prop} {E:Nat->Ent}
theorem HM{m m':Mem}: ∀{l:Mem} {ns:List Prop} {nm:Nat} {b':Blk},leM m m' l=some ns->l.lookup nm=some b'->(∀q∈ns,q)->
  (∃b p,m.lookup nm=some b/\leB m m' b b'=some p/\∀q∈p,q)\/(m.lookup nm=none/\∃el t,b'=.buf el t [] [])
 | [],_,_,_,_,h,_=>by simp at h
 | (k,bk)::r,ns,nm,b',h,hl,hn=>by
  simp only[leM]at h;split at h
  case h_2=>cases h
  rename_i p q h1 h2;cases h;simp only[List.lookup]at hl;split at hl
  .rename_i e;cases hl;have e:nm=k:=by simpa using e
   subst e;split at h1
   .rename_i b hb;exact .inl ⟨b,p,hb,h1,λz hz=>hn z (qH.2 (.inl hz))⟩
   .rename_i hb;split at h1
    .cases h1;have e:_=[]:=hn _ (qH.2 (.inl (vG.2 rfl)));subst e;exact .inr ⟨hb,_,_,rfl⟩
    .cases h1
  .exact HM h2 hl (λz hz=>hn z (qH.2 (.inr hz)))
theorem TR{p:List Prop}(h:leM s.mem s'.mem s'.mem=some p)(hn:∀q∈p,q): Names s.mem s'.mem:=by
 intro nm b b' hb hb';rcases HM h hb' hn with⟨c,ps,h1,h2,h3⟩ | ⟨h1,_⟩
 .rw[hb]at h1;cases h1;exact YT h2 h3
 .rw[hb]at h1;cases h1
theorem Ue(h:aH S s.sig a w D E){t:Ty}{xs ys:List t.den}{i:Nat}{v:AV}{ns:List Prop}{e:Ent}{el:TypeId}{raw:Lv}(hc:ZW s.mem s'.mem t xs ys i v=some ns)(hn:∀q∈ns,q)
  (r1:w.ownsRow 0 el t.sz (e.handle xs.length) xs.length raw) (r2:bW S.P (JV s w D E) t xs [(i,v)] raw):
  dE S.P 0 (ctx1 s s' w D E) e (.buf el t ys []):=by
 cases t with
 | sl e' =>
  cases v with
  | buf nm2 n2=>
   simp only[ZW]at hc;split at hc
   case h_2=>cases hc
   rename_i ns' zs hz;cases hc;have ex:En (α:=List e'.den) xs i zs=ys:=hn _ (qH.2 (.inr (vG.2 rfl)));subst ex;refine⟨raw,by rw[En,yD];exact r1,λk y hy=>?_⟩;have hy':(List.set xs i zs)[k]?=some y:=hy;have hk:k<xs.length:=by have:=(qF.1 hy').1;rwa [yD]at this
   have hx:=r2 k _ (qB hk);simp only[List.lookup];rw[yX]at hy';split at hy'
   .rename_i eik;subst eik;rw[if_pos hk]at hy';cases hy';simp only[List.lookup,yH]at hx;obtain⟨_,u,hu,_,hur⟩:=hx;have e4:(raw.drop (i*(Ty.sl e').sz)).take (Ty.sl e').sz=[u]:=by
     simp only[Ty.sz,yI];apply xK;intro q;rw[vM];cases q with
     | zero=>simp[hu]
     | succ q=>simp
    rw[e4];exact wy h hz (λq hq=>hn q (qH.2 (.inl hq))) hur
   .rename_i hne;have hb:(k==i)=false:=by simpa using λe=>hne e.symm
    simp only[List.lookup,hb]at hx;have:y=xs[k]:=by rw[qB hk]at hy';exact(wS hy').symm
    rw[this];exact al bU (λ_ _=>rfl) hx
  | _=>simp[ZW]at hc
 | _=>simp[ZW]at hc
theorem ua{nm k i:Nat}{v:AV}{el eli:TypeId}{t:Ty}{xss:List (List t.den)}(hk:k≠i): Y8 E nm (.mat el eli t xss [(i,v)]) k=(E nm).rb k:=by
 cases v<;>first
  | rfl
  | (show(if k=i then _ else(E nm).rb k)=_;rw[if_neg hk])
theorem Nq{nm k:Nat}{eli:TypeId}{t:Ty}{row:List t.den}{u:Value}(hrb:(uG s.mem E nm).rb k=(E nm).rb k)(hr:C5 S.P 0 (JV s w D E) (E nm) eli t k row u): C5 S.P 0 (ctx1 s s' w D E) (uG s.mem E nm) eli t k row u:=by
 obtain⟨ao,cap,z2,q1,q0,q2⟩:=hr;refine⟨ao,cap,z2,q1,q0,λhp=>?_⟩;obtain⟨k1,k2,k3⟩:=q2 hp;exact⟨by rw[hrb];exact k1,k2,bj (C:=JV s w D E) (C':=ctx1 s s' w D E) ⟨bU,λ_ _=>rfl⟩ (λnm h=>by cases h) k3⟩
theorem YS(h:aH S s.sig a w D E)(hN:Names s.mem s'.mem){nm:Nat}{b b':Blk}{ns:List Prop}(hm:s.mem.lookup nm=some b)(hc:leB s.mem s'.mem b b'=some ns)(hn:∀q∈ns,q):
  dE S.P 0 (ctx1 s s' w D E) (uG s.mem E nm) b':=by
 have hb:dE S.P 0 (JV s w D E) (E nm) b:=h.bl nm b hm;have hE:=B7 (E:=E) hm;have hH:=t7 (E:=E) hm;unfold leB at hc;split at hc
 .obtain⟨h0,us,el,h1,h2⟩:=hb;exact⟨by rw[hE];exact h0,us,el,by rw[hE];exact h1,lS h hN hc hn h2⟩
 .split at hc
  case isFalse=>cases hc
  rename_i he;subst he;split at hc
  case isFalse=>cases hc
  rename_i ht;subst ht;obtain⟨raw,r1,r2⟩:=hb;split at hc
  .cases hc;have ex:=hn _ (vG.2 rfl);simp only at ex;subst ex;refine⟨raw,by rw[hH];exact r1,λi y hy=>?_⟩;have g:=r2 i y hy;simp only[List.lookup]at g ⊢;exact al bU (λ_ _=>rfl) g
  .rename_i i v i' v';split at hc
   .rename_i ns' hv;cases hc;have ex:=hn _ (wL);have ei:i=i':=hn _ (by simp);simp only at ex;subst ex ei;refine⟨raw,by rw[hH];exact r1,λk y hy=>?_⟩;have g:=r2 k y hy;by_cases hki:(k==i)=true
    .simp only[List.lookup,hki]at g ⊢;obtain⟨g1,u,g2,g3,g4⟩:=g;exact⟨g1,u,g2,g3,lT h hN hv (λq hq=>hn q (by simp[hq])) g4⟩
    .have hki:(k==i)=false:=by simpa using hki
     simp only[List.lookup,hki]at g ⊢;exact al bU (λ_ _=>rfl) g
   .cases hc
  .exact Ue h hc hn (by rw[hH];exact r1) r2
  .cases hc
 ·
  split at hc
  case isFalse=>cases hc
  rename_i he;subst he;unfold Uf at hc;split at hc
  case isFalse=>cases hc
  rename_i ht;subst ht;split at hc
  case isFalse=>cases hc
  rename_i hz;cases hc;have e1:=hn _ wL;have e2:∀r∈_,r=[]:=hn _ (zA _ (vG.2 rfl));simp only at e1;subst e1;obtain⟨raw,r1,r2⟩:=hb;refine⟨hz,raw,by rw[hH];exact r1,λi row hi=>?_⟩;have e3:=e2 row (zD hi);subst e3;have g:=r2 i [] hi;simp only[List.lookup]at g ⊢;obtain⟨ao,cap,q1,q2,q3,_⟩:=g;refine⟨.slice ao 0 cap,?_,ao,cap,[],rfl,q3,λh=>absurd h (yS _)⟩
  have:((raw.drop (i*1)).take 1)[0]?=some (.slice ao 0 cap):=by
   have q1':(raw.drop (i*1)).take 1=[.slice ao (List.length ([]:List _)) cap]:=q1;rw[q1'];rfl
  rw[vM,if_pos (by decide),qY]at this;simpa using this
 ·
  split at hc
  case isFalse=>cases hc
  rename_i he;obtain⟨he1,he2⟩:=he;subst he1 he2;split at hc
  case isFalse=>cases hc
  rename_i ht;subst ht;obtain⟨hz,raw,r1,r2⟩:=hb;split at hc
  .cases hc;have ex:=hn _ (vG.2 rfl);simp only at ex;subst ex;refine⟨hz,raw,by rw[hH];exact r1,λi row hi=>?_⟩;obtain⟨u,g1,g2⟩:=r2 i row hi;simp only[List.lookup]at g2 ⊢;exact⟨u,g1,Nq (by rw[hE];rfl) g2⟩
  .rename_i i v i' v';split at hc
   .rename_i ns' hv;cases hc;have ex:=hn _ (wL);have ei:i=i':=hn _ (by simp);simp only at ex;subst ex ei;refine⟨hz,raw,by rw[hH];exact r1,λk row hk=>?_⟩;obtain⟨u,g1,g2⟩:=r2 k row hk;refine⟨u,g1,?_⟩;by_cases hki:(k==i)=true
    .simp only[List.lookup,hki]at g2 ⊢;exact⟨g2.1,lT h hN hv (λq hq=>hn q (by simp[hq])) g2.2⟩
    .have hki:(k==i)=false:=by simpa using hki
     simp only[List.lookup,hki]at g2 ⊢;exact Nq (by rw[hE];exact ua (by simpa using hki)) g2
   .cases hc
  .rename_i i v;unfold HN at hc;split at hc
   case h_2=>cases hc
   rename_i nm2 n2;split at hc
   case h_2=>cases hc
   rename_i el2 e2 zs hno2 hm2;split at hc
   case isFalse=>cases hc
   rename_i hel;subst hel;split at hc
   case isFalse=>cases hc
   rename_i ht2;subst ht2;cases hc;have ex:=hn _ (zA _ (vG.2 rfl));have elen:zs.length=n2:=hn _ wL;simp only at ex;subst ex;refine⟨hz,raw,by rw[hH,En,yD];exact r1,λk row hk=>?_⟩;have hk':(List.set _ i zs)[k]?=some row:=hk;have hlt:=(qF.1 hk').1;rw[yD]at hlt;obtain⟨u,g1,g2⟩:=r2 k _ (qB hlt);refine⟨u,g1,?_⟩;simp only[List.lookup];rw[yX]at hk';split at hk'
   .rename_i eik;subst eik;rw[if_pos hlt]at hk';cases hk';simp only[List.lookup,yH]at g2;obtain⟨_,hur⟩:=g2;have hu:=(hur _ hm2).2 elen;obtain⟨raw2,p1,p2⟩:=h.bl nm2 _ hm2;have hu:u=(E nm2).handle zs.length:=by rw[elen];exact hu
    have hrb:(uG s.mem E nm).rb i=((E nm2).b,(E nm2).cap):=by rw[hE];show(if i=i then((E nm2).b,(E nm2).cap)else(E nm).rb i)=_;rw[if_pos rfl]
    cases hnil:(E nm2).isNil with
    | true=>
     have e3:(E nm2).handle zs.length=.slice none 0 0:=by unfold Ent.handle;rw[hnil];rfl
     rw[e3]at p1;rcases p1.2 with⟨_,hz0⟩ | ⟨g,cap,cur,hq,_⟩
     .have hz0':zs.length=0:=hz0;exact⟨none,0,[],by rw[hu,e3,hz0'],λ_=>rfl,λhp=>by omega⟩
     .cases hq
    | false=>
     have e3:(E nm2).handle zs.length=.slice (some ⟨(E nm2).b,0,none⟩) zs.length (E nm2).cap:=by unfold Ent.handle;rw[hnil];rfl
     rw[hz]at p1;refine⟨_,_,raw2,by rw[hu,e3],λh=>by(cases h),λhp=>⟨by rw[hrb],by rw[hu];exact p1,?_⟩⟩;exact bj (C:=JV s w D E) (C':=ctx1 s s' w D E) ⟨bU,λ_ _=>rfl⟩ (λnm h=>by cases h) p2
   .rename_i hne;have hb:(k==i)=false:=by simpa using λe=>hne e.symm
    simp only[List.lookup,hb]at g2;rw[qB hlt]at hk';have erow:=wS hk';rw[erow]at g2;exact Nq (by rw[hE];exact if_neg (show ¬k=i by simpa using hb)) g2
  .cases hc
 .cases hc
theorem Nz{p:List Prop}(hq:leM s.mem s'.mem s'.mem=some p)(hn:∀q∈p,q){nm i k:Nat}(hp:b8 (λx=>s'.mem.lookup x) (uG s.mem E) nm i k):
  b8 (λx=>s.mem.lookup x) E nm i k\/∃el eli t xss nm2 n2 blk,s.mem.lookup nm=some (.mat el eli t xss [(i,.buf nm2 n2)])/\s'.mem.lookup nm2=none/\s.mem.lookup nm2=some blk/\(blk.len≠0->True)/\0<blk.len/\(∃el2 t2 zs,blk=.buf el2 t2 zs [])/\k=(E nm2).b:=by
 obtain⟨el,eli,t,xss,ov,row,h1,h2,h3,h4,h5⟩:=hp;rcases HM hq h1 hn with⟨b,ps,hm,hc,hps⟩ | ⟨_,_,_,hx⟩
 .rw[B7 hm]at h5;simp only at h5;unfold leB at hc;split at hc
  .rename_i hx;cases hx
  .rename_i hx;cases hx
  .rename_i hb hx;cases hx;split at hc
   case isFalse=>cases hc
   unfold Uf at hc;split at hc
   case isFalse=>cases hc
   split at hc
   case isFalse=>cases hc
   cases hc;have e2:∀r∈_,r=[]:=hps _ (zA _ (vG.2 rfl));have:=e2 row (zD h3);subst this;exact absurd h4 (yS _)
  .rename_i el0 eli0 e0 xs0 ov0 el1 eli1 e1 ys1 ov1 hx;cases hx;split at hc
   case isFalse=>cases hc
   split at hc
   case isFalse=>cases hc
   rename_i ht;subst ht;split at hc
   .cases hc;have ex:=hps _ (vG.2 rfl);simp only at ex;subst ex
    left
    replace h5:k=((E nm).rb i).1:=h5;exact⟨_,_,_,_,_,row,hm,rfl,h3,h4,h5⟩
   .rename_i j v j' v';split at hc
    .rename_i ns' hv;cases hc;have ex:=hps _ (wL);have ei:j=j':=hps _ (by simp);simp only at ex;subst ex ei
     left
     have hij:i≠j:=λe=>by subst e;simp[List.lookup]at h2
     rw[ua hij]at h5;have hij':(i==j)=false:=by simpa using hij
     exact⟨_,_,_,_,_,row,hm,by simp[List.lookup,hij'],h3,h4,h5⟩
    .cases hc
   .rename_i j v;unfold HN at hc;split at hc
    case h_2=>cases hc
    rename_i nm2 n2;split at hc
    case h_2=>cases hc
    rename_i el2 e2 zs hno2 hm2;split at hc
    case isFalse=>cases hc
    split at hc
    case isFalse=>cases hc
    rename_i ht2;subst ht2;cases hc;have ex:=hps _ (zA _ (vG.2 rfl));simp only at ex;subst ex;have h3':(List.set _ j zs)[i]?=some row:=h3;rw[yX]at h3';by_cases hij:j=i
    .subst hij;rw[if_pos rfl]at h3';split at h3'
     .cases h3'
      right
      refine⟨_,_,_,_,nm2,n2,_,hm,hno2,hm2,λ_=>trivial,h4,⟨_,_,_,rfl⟩,?_⟩;rw[h5];show(if j=j then((E nm2).b,(E nm2).cap)else(E nm).rb j).1=_;rw[if_pos rfl]
     .cases h3'
    .rw[if_neg hij]at h3'
     left
     have hij2:i≠j:=λe=>hij e.symm
     rw[ua hij2]at h5;have hij':(i==j)=false:=by simpa using hij2
     exact⟨_,_,_,_,_,row,hm,by simp[List.lookup,hij'],h3',h4,h5⟩
   .cases hc
  .cases hc
 .cases hx
theorem pC: ∀{m:Mem} {nm:Nat} {el eli:TypeId} {t:Ty} {xss:List (List t.den)} {p:Nat×AV} {r:List (Nat×AV)},m.lookup nm=some (.mat el eli t xss (p::r))->nm∈vE m
 | [],_,_,_,_,_,_,_,h=>by cases h
 | (k,b)::m,nm,el,eli,t,xss,p,r,h=>by
  simp only[List.lookup]at h;split at h
  .rename_i e;have e:nm=k:=by simpa using e
   subst e;cases h;simp[vE]
  .have ih:=pC h;unfold vE;split
   .rename_i hx;cases hx
   .rename_i hx;cases hx;exact zA _ ih
   .rename_i hx;cases hx;exact ih
theorem YI{l:List Nat}(h:l.length<=1){a b:Nat}(ha:a∈l)(hb:b∈l): a=b:=by
 match l,h with
 | [],_=>cases ha
 | [x],_=>rw[vG.1 ha,vG.1 hb]
def aG(m:Nat->Option Blk)(E:Nat->Ent)(b:Nat): Prop:=bn m E b\/∃nm i,b8 m E nm i b
theorem aH.ownAll {S:Base} {σ:Sig} {a:Act} {w:World} {D:Nat->Prop} {E:Nat->Ent} (h:aH S σ a w D E) {b:Nat} (hb:aG σ.m E b):(S.w0.heap.size<=b\/S.O b)/\b<w.heap.size/\¬D b:=by
 rcases hb with⟨nm,blk,g1,g2,g3⟩ | ⟨nm,i,g⟩
 .rw[g3];exact h.own nm blk g1 g2
 .exact h.pv.own nm i b g
theorem xo{ns:List Prop}(h:aH S s.sig a w D E)(hc:Qc s s'=some ns)(hn:∀q∈ns,q):
  ∃D' E',aH S s'.sig a w D' E'/\(∀b,D b->D' b)/\(∀b,D' b->D b\/aG s.sig.m E b)/\∀b,aG s'.sig.m E' b->aG s.sig.m E b:=by
 unfold Qc at hc;split at hc
 case isFalse=>cases hc
 rename_i hone;obtain⟨_,hone⟩:=hone;split at hc
 case h_2=>cases hc
 rename_i p q r hp hq hsv;cases hc;have hnp:∀z∈p,z:=λz hz=>hn z (qH.2 (.inl (qH.2 (.inl hz))))
 have hnq:∀z∈q,z:=λz hz=>hn z (qH.2 (.inl (qH.2 (.inr hz))))
 have hnr:∀z∈r,z:=λz hz=>hn z (qH.2 (.inr hz))
 have hN:=TR hq hnq;have keep:∀nm,(uG s.mem E nm).isNil=false->((uG s.mem E nm).b=(E nm).b/\(E nm).isNil=false)/\∃b,s.mem.lookup nm=some b:=λnm hm=>by
  unfold uG at hm ⊢;split at hm
  .rename_i b hb;exact⟨⟨rfl,hm⟩,b,hb⟩
  .cases hm
 have foldIn:∀nm el eli t xss i nm2 n2,s.mem.lookup nm=some (.mat el eli t xss [(i,.buf nm2 n2)])->nB s.mem nm2=true:=λnm el eli t xss i nm2 n2 hm=>by
  unfold nB;rw[xZ];exact⟨_,tD hm,by simp[AV.namesL,AV.names]⟩
 have hpv:fb S.w0.heap.size S.O s'.sig.m (uG s.mem E) w.heap.size (VW s.mem s'.mem D E):=by
  have src:=λ{nm i k:Nat} (hk:b8 s'.sig.m (uG s.mem E) nm i k)=>Nz (s:=s) (s':=s') (E:=E) hq hnq hk
  have YJ:∀{nm2 blk},s.mem.lookup nm2=some blk->0<blk.len->(∃el2 t2 zs,blk=.buf el2 t2 zs [])->(E nm2).isNil=false:=by
   rintro nm2 blk hm2 hl ⟨el2,t2,zs,rfl⟩;obtain⟨raw,_,_,r3⟩:=jh h hm2;rcases r3 with⟨_,hx,_⟩ | ⟨hx,_⟩
   .subst hx;exact absurd hl (yS _)
   .exact hx
  refine⟨λnm i k hk=>?_,λnm i k hk nm' b' hb' hi e=>?_,λnm i k nm' j h1 h2=>?_⟩
  .have notD:∀(hD:¬D k) (hent:∀nm3 blk,s.mem.lookup nm3=some blk->(E nm3).isNil=false->(E nm3).b=k->nB s.mem nm3=true) (hrow:∀nm3 j,s'.mem.lookup nm3=none->b8 s.sig.m E nm3 j k->False),¬VW s.mem s'.mem D E k:=by
    rintro hD hent hrow (hd | ⟨nm3,blk,k1,k2,k3,k4,k5⟩ | ⟨nm3,j,k1,k2⟩)
    .exact hD hd
    .rw[hent nm3 blk k1 k4 k5.symm]at k3;cases k3
    .exact hrow nm3 j k1 k2
   rcases src hk with g | ⟨el,eli,t,xss,nm2,n2,blk,g1,g2,g3,_,g4,g5,rfl⟩
   .obtain⟨q1,q2,q3⟩:=h.pv.own nm i k g;refine⟨q1,q2,notD q3 (λnm3 blk k1 k4 k5=>(h.pv.ent nm i k g nm3 blk k1 k4 k5).elim) λnm3 j k1 k2=>?_⟩;obtain⟨e1,_⟩:=h.pv.inj nm i k nm3 j g k2;subst e1;obtain⟨_,_,_,_,_,_,hx,_⟩:=hk;have hx':s'.mem.lookup nm=some _:=hx;rw[k1]at hx';cases hx'
   .have hi2:=YJ g3 g4 g5;obtain⟨q1,q2,q3⟩:=h.own nm2 blk g3 hi2;refine⟨q1,q2,notD q3 (λnm3 blk3 k1 k4 k5=>?_) λnm3 j k1 k2=>h.pv.ent nm3 j _ k2 nm2 blk g3 hi2 rfl⟩;have:=h.inj nm3 nm2 blk3 blk k1 g3 k4 hi2 k5;subst this;exact foldIn _ _ _ _ _ _ _ _ g1
  .obtain⟨⟨e1,e2⟩,c1,k1⟩:=keep nm' hi;rw[e1]at e;rcases src hk with g | ⟨el,eli,t,xss,nm2,n2,blk,g1,g2,g3,_,g4,g5,rfl⟩
   .exact h.pv.ent nm i k g nm' c1 k1 e2 e
   .have:=h.inj nm' nm2 c1 blk k1 g3 e2 (YJ g3 g4 g5) e;subst this;have hb2:s'.mem.lookup nm'=some b':=hb';rw[g2]at hb2;cases hb2
  .rcases src h1 with g | ⟨el,eli,t,xss,nm2,n2,blk,g1,g2,g3,_,g4,g5,g6⟩<;>rcases src h2 with q | ⟨el',eli',t',xss',nm2',n2',blk',q1,q2,q3,_,q4,q5,q6⟩
   .exact h.pv.inj nm i k nm' j g q
   .exact(h.pv.ent nm i k g nm2' blk' q3 (YJ q3 q4 q5) q6.symm).elim
   .exact(h.pv.ent nm' j k q nm2 blk g3 (YJ g3 g4 g5) g6.symm).elim
   .have:nm=nm':=YI hone (pC g1) (pC q1);subst this;rw[g1]at q1;cases q1;exact⟨rfl,rfl⟩
 refine⟨VW s.mem s'.mem D E,uG s.mem E,⟨h.sz,⟨h.df.1,λd hd=>?_⟩,λt=>?_,λnm b' hb'=>?_,λnm b' hb' hi=>?_,λnm nm' b b' hb hb' hi hi' e=>?_,h.low,λb hb=>?_,λb hb=>.inl (h.dlo b hb),λb hb=>?_,jX.mono (C:=⟨w,D,s.sig.m,E⟩) ⟨λb hb=>.inl hb,λ_ _=>rfl⟩ h.gl,lS h hN hsv hnr h.svr,hpv⟩,λb hb=>.inl hb,λb hb=>?_,λb hb=>?_⟩
 .rcases h.df.2 d hd with g | ⟨k,g1,g2,g3,g4⟩
  .exact .inl g
  .exact .inr ⟨k,g1,g2,.inl g3,g4⟩
 .show(s'.tm.getD t .top).rel S.P (ctx1 s s' w D E) (a.tmps.getD t undef);rw[qA];cases ht:s'.tm[t]? with
  | none=>trivial
  | some y=>
   obtain⟨x,ps,g1,g2,g3⟩:=VO hp ht;have hx:(s.tm.getD t .top).rel S.P (JV s w D E) (a.tmps.getD t undef):=h.tm t;rw[qA,g1]at hx;exact lT h hN g2 (λz hz=>hnp z (g3 z hz)) hx
 .rcases HM hq hb' hnq with⟨b,ps,h1,h2,h3⟩ | ⟨h1,el,t,rfl⟩
  .exact YS h hN h1 h2 h3
  .have ek:uG s.mem E nm=⟨0,0,true,noR⟩:=by unfold uG;rw[h1]
   rw[ek];exact⟨[],⟨by simp,.inl ⟨rfl,rfl⟩⟩,λi y hy=>by simp at hy⟩
 .obtain⟨⟨e1,e2⟩,b,hb⟩:=keep nm hi;rw[e1];obtain⟨g1,g2,g3⟩:=h.own nm b hb e2;refine⟨g1,g2,λhd=>?_⟩;rcases hd with hd | ⟨nm2,b2,k1,k2,_,k3,k4⟩ | ⟨nm2,i,k1,k2⟩
  .exact g3 hd
  .have:nm=nm2:=h.inj nm nm2 b b2 hb k1 e2 k3 k4;subst this;have hb2:s'.mem.lookup nm=some b':=hb';rw[k2]at hb2;cases hb2
  .exact h.pv.ent nm2 i _ k2 nm b hb e2 rfl
 .obtain⟨⟨e1,i1⟩,c1,h1⟩:=keep nm hi;obtain⟨⟨e2,i2⟩,c2,h2⟩:=keep nm' hi';rw[e1,e2]at e;exact h.inj nm nm' c1 c2 h1 h2 i1 i2 e
 .rcases hb with hb | ⟨nm2,b2,k1,k2,_,k3,k4⟩ | ⟨nm2,i,k1,k2⟩
  .exact h.dlt b hb
  .rw[k4];exact(h.own nm2 b2 k1 k3).2.1
  .exact(h.pv.own nm2 i b k2).2.1
 .rcases hb with hb | ⟨nm2,b2,k1,k2,_,k3,k4⟩ | ⟨nm2,i,k1,k2⟩
  .exact h.dhi b hb
  .rw[k4];exact .inr (h.own nm2 b2 k1 k3).1
  .exact .inr (h.pv.own nm2 i b k2).1
 .rcases hb with hb | ⟨nm2,b2,k1,k2,_,k3,k4⟩ | ⟨nm2,i,k1,k2⟩
  .exact .inl hb
  .exact .inr (.inl ⟨nm2,b2,k1,k3,k4⟩)
  .exact .inr (.inr ⟨nm2,i,k2⟩)
 .rcases hb with⟨nm,blk,g1,g2,g3⟩ | ⟨nm,i,g⟩
  .obtain⟨⟨e1,e2⟩,c1,h1⟩:=keep nm g2;rw[e1]at g3;exact .inl ⟨nm,c1,h1,e2,g3⟩
  .rcases Nz (s:=s) (s':=s') (E:=E) hq hnq g with g | ⟨el,eli,t,xss,nm2,n2,blk,g1,g2,g3,_,g4,⟨el2,t2,zs,rfl⟩,g6⟩
   .exact .inr ⟨nm,i,g⟩
   .refine .inl ⟨nm2,_,g3,?_,g6⟩;obtain⟨raw,_,_,r3⟩:=jh h g3;rcases r3 with⟨_,hx,_⟩ | ⟨hx,_⟩
    .subst hx;exact absurd g4 (yS _)
    .exact hx
theorem Ha{ns:List Prop}(h:Sim S s.sig a w)(hc:Qc s s'=some ns)(hn:∀q∈ns,q): Sim S s'.sig a w:=by
 obtain⟨D,E,h⟩:=h;obtain⟨D',E',h',_⟩:=xo h hc hn;exact⟨D',E',h'⟩
end
end Go.Eng
namespace Go.Eng
open Go.RowKit
structure Spec where
 α:Type
 inv:α->Prop
 st:α->St
 μ:α->Nat
 fin:List α:=[]
structure Ann where
 loop:Nat->St->Option Spec
 pre:Nat->St->Option St
 cut:Nat->St->Option Spec
def all: List Prop->Prop->Prop
 | [],q=>q
 | p::ps,q=>p/\all ps q
theorem bL: ∀{l:List Prop} {q:Prop},all l q->(∀p∈l,p)/\q
 | [],_,h=>⟨λ_ h=>absurd h List.not_mem_nil,h⟩
 | p::ps,q,h=>by
  obtain⟨g1,g2⟩:=bL h.2;refine⟨λr hr=>?_,g2⟩;rcases zJ.1 hr with e | e
  .exact e▸h.1
  .exact g1 r e
def leP(s s':St): Prop:=match Qc s s' with
 | some ns=>all ns True
 | none=>False
def dX: Code->Option Nat
 | .region id _ _=>some id
 | .seq a b=>match dX a with | some i=>some i | none=>dX b
 | .cond _ a b=>match dX a with | some i=>some i | none=>dX b
 | .block _ b=>dX b
 | .loop b=>dX b
 | .scope b=>dX b
 | .rangeFunc _ _ a b=>match dX a with | some i=>some i | none=>dX b
 | _=>none
def dstsOf: Code->List Tmp
 | .region _ ops _=>ops.toList.filterMap (·.dst)
 | .seq a b=>dstsOf a++dstsOf b
 | .cond _ a b=>dstsOf a++dstsOf b
 | .block _ b=>dstsOf b
 | .loop b=>dstsOf b
 | .scope b=>dstsOf b
 | _=>[]
def nQ: List Tmp->List AV->List AV
 | [],l=>l
 | t::ts,l=>nQ ts (l.set t .top)
def aAF: AV->AV
 | .val (.tuple _)=>.top
 | .grd _ _=>.top
 | a=>a
def HT(b:Code)(s:St): St:={s with tm:=nQ (dstsOf b) (s.tm.map aAF)}
def aBK(b:Code)(s:St): St:={HT b s with tm:=(HT b s).tm++s.tm}
def aEM(n:Nat)(s:St): St:={s with tm:=s.tm.take n}
def aBL(A:Ann)(id:Nat)(b:Code)(s:St): Option Spec:=match A.loop (id+1000000) (aBK b s)with
 | some sp=>some {α:=sp.α,inv:=sp.inv,st:=λx=>aEM s.tm.length (sp.st x),μ:=sp.μ}
 | none=>A.loop id (HT b s)
def UJ(b:Bool)(p q:Prop): Prop:=(b=true->p)/\(b=false->q)
def UI: AV->Option (List Prop×Bool)
 | .dat .bool b=>some ([],b)
 | .grd g (.dat .bool b)=>some ([g=true],b)
 | _=>none
def ZT(c:Cfg)(ops:Array Oper)(draw:Bool)(s:St)(Q:St->Prop): Prop:=match aBE c ops draw s with
 | some (ns,s')=>all ns (Q s')
 | none=>False
def lu{α:Type}(xs:List α)(k:Nat)(x:α): Prop:=xs[k]?=some x
def setSlot(d:Option Tmp)(v:AV)(s:St): St:={s with tm:=match d with | some d=>s.tm.set d v | none=>s.tm}
def nC(d:Option Tmp)(n:Nat): Bool:=match d with | some d=>decide (d<n) | none=>true
def BD(r:Rec)(s:St): Bool:=match r.new with | some k=>unB k s | none=>true
def valOf: AV->Option Value
 | .dat t x=>match t,x with
  | .int k,x=>some (.int k x)
  | _,_=>none
 | .val v=>some v
 | _=>none
def YV: Op->Bool
 | .panic _=>true
 | _=>false
def v7(c:Cfg)(o:Oper): Bool:=match o.op with
 | .panic _=>true
 | .call ⟨.value (.func f),_,_⟩=>c.pf f
 | _=>false
def jw(c:Cfg)(T:Nat->AV)(g:Bool)(args:List Operand): List (AV×List Prop):=args.map λx=>ug g (evT c.G T x)
def uL(c:Cfg)(T:Nat->AV)(m:Nat->Option Blk)(g:Bool)(o:Op): Option (List Prop×w8×List Nat):=match o with
 | .panic x=>match ug g (evT c.G T x)with
  | (.ifc t a,ns)=>match valOf a with
   | some v=>some (ns,⟨True,false,.iface t v⟩,[])
   | none=>none
  | _=>none
 | .call ⟨.value (.func f),args,_⟩=>if c.pf f&&goes c.P f then
   match c.KP f (uM c.P (jZ c.P f) ((jw c T g args.toList).map (·.1))) (dK m (cz m (AV.namesL (uM c.P (jZ c.P f) ((jw c T g args.toList).map (·.1))))))with
   | some r=>some ((jw c T g args.toList).flatMap (·.2),r,cz m (AV.namesL (uM c.P (jZ c.P f) ((jw c T g args.toList).map (·.1)))))
   | none=>none
   else none
 | _=>none
def zl(ns:List Nat)(s:St): St:={s with mem:=s.mem.filter λp=>!ns.contains p.1}
def zm(ns:List Nat)(σ:Sig): Sig:=⟨σ.T,λk=>if ns.contains k=true then none else σ.m k,σ.sv⟩
theorem lW(ns:List Nat)(k:Nat): ∀m:Mem,(m.filter λp=>!ns.contains p.1).lookup k=if ns.contains k=true then none else m.lookup k
 | []=>by simp
 | p::m=>by
  obtain⟨q,b⟩:=p;simp only[xE];by_cases hq:ns.contains q=true
  .simp only[hq,zZ,vT,yQ];rw[lW ns k m];by_cases e:k=q
   .subst e;rw[if_pos hq,if_pos hq]
   .have:(k==q)=false:=by simpa using e
    simp only[List.lookup,this]
  .have hq':ns.contains q=false:=by simpa using hq
   simp only[hq',yC,xU,List.lookup];by_cases e:k=q
   .subst e;rw[if_neg hq];simp
   .have:(k==q)=false:=by simpa using e
    simp only[this];exact lW ns k m
theorem Ci(ns:List Nat)(s:St): (zl ns s).sig=zm ns s.sig:=by
 have:(zl ns s).sig.m=(zm ns s.sig).m:=funext λk=>lW ns k s.mem
 cases h1:(zl ns s).sig with
 | mk T m sv=>
  cases h2:zm ns s.sig with
  | mk T' m' sv' =>
   have e1:(zl ns s).sig.T=(zm ns s.sig).T:=rfl;have e2:(zl ns s).sig.sv=(zm ns s.sig).sv:=rfl;rw[h1,h2]at this e1 e2;simp only at this e1 e2;rw[this,e1,e2]
theorem aH.dropped {S:Base} {σ:Sig} {a:Act} {w w':World} {D:Nat->Prop} {E:Nat->Ent} (h:aH S σ a w D E) {ns:List Nat} (hc:Chg (bn (bH (dK σ.m ns)) E) w w'):aH S (zm ns σ) a w' D E:=by
 have mem:∀k,bH (dK σ.m ns) k=if k∈ns then σ.m k else none:=λk=>dJ σ.m k ns
 have bo:∀b,bn (bH (dK σ.m ns)) E b->∃nm blk,nm∈ns/\σ.m nm=some blk/\(E nm).isNil=false/\b=(E nm).b:=λb ⟨nm,blk,g1,g2,g3⟩=>by
  rw[mem]at g1;split at g1
  .rename_i hin;exact⟨nm,blk,hin,g1,g2,g3⟩
  .cases g1
 have dm:∀nm b,(zm ns σ).m nm=some b->nm∉ns/\σ.m nm=some b:=λnm b hb=>by
  replace hb:(if ns.contains nm=true then none else σ.m nm)=some b:=hb;split at hb
  .cases hb
  .rename_i hn;exact⟨by simpa using hn,hb⟩
 refine h.go (m':=(zm ns σ).m) (D':=D) (E':=E) ⟨λ_ g=>g,λb hb=>hc.block b (h.dlt b hb) λg=>?_⟩ (λnm=>.inl λb' hb'=>⟨b',(dm nm b' hb').2,rfl,qJ _,λ_=>rfl⟩)
  (λnm b hm=>?_) (λnm b hm hi=>?_) (λnm nm' b b' hb hb' hi hi' e=>h.inj nm nm' b b' (dm nm b hb).2 (dm nm' b' hb').2 hi hi' e)
  (h.low.step hc.os hc.tape hc.output hc.size λk hk hno=>hc.block k (qN hk h.low.size) λg=>?_) (λb hb=>qN (h.dlt b hb) hc.size) (λb hb=>.inl hb)
  (h.pv.step (λnm i b g=>?_) hc.size (λb hb=>.inl hb) λnm blk hm hi=>.inr ⟨nm,blk,(dm nm blk hm).2,hi,rfl⟩)
 .obtain⟨nm,blk,_,g2,g3,g4⟩:=bo b g;exact(h.own nm blk g2 g3).2.2 (g4▸hb)
 .obtain⟨k1,k2⟩:=dm nm b hm;refine .inl ⟨k2,rfl,λhi=>hc.block _ (h.own nm b k2 hi).2.1 λg=>?_,λi k hr=>hc.block k (h.pv.lt k2 hr) λg=>?_⟩
  .obtain⟨nm2,blk,g1,g2,g3,g4⟩:=bo _ g;exact k1 (h.inj nm nm2 b blk k2 g2 hi g3 g4▸g1)
  .obtain⟨nm2,blk,g1,g2,g3,g4⟩:=bo _ g;exact h.pv.ent nm i k (aI.2 ⟨b,k2,hr⟩) nm2 blk g2 g3 g4.symm
 .obtain⟨k1,k2⟩:=dm nm b hm;obtain⟨g1,g2,g3⟩:=h.own nm b k2 hi;exact⟨g1,qN g2 hc.size,g3⟩
 .obtain⟨nm,blk,g1,g2,g3,g4⟩:=bo _ g;rcases(h.own nm blk g2 g3).1 with q | q
  .rw[<- g4]at q;omega
  .rw[<- g4]at q;exact hno q
 .obtain⟨bb,g1,g2⟩:=aI.1 g;exact aI.2 ⟨bb,(dm nm bb g1).2,g2⟩
def Vw(c:Cfg)(ops:Array Oper): List Oper->St->(Exit->St->Prop)->Prop
 | [],s,Q=>Q .normal s
 | o::os,s,Q=>match KG s.sig.T ops o.guard with
  | some g=>match uL c s.sig.T s.sig.m g o.op with
   | some (ns,r,nms)=>(g=true->all ns (r.pre/\(r.ok=false->Q (.panic (chainOf r.pan)) (zl nms s))))/\
     (if YV o.op=true then(if o.guard.isNone=true then True else nC o.dst s.tm.length=true/\(g=false->Vw c ops os (setSlot o.dst (.grd g .top) s) Q))
      else match gn c.P c.G c.K (c.mt o) ops s.nx s.sig o with
      | some q=>if fX q s.tm.length=true/\BD q s=true then(g=true->r.ok=true)->all q.need (Vw c ops os (cH q s) Q)else False
      | none=>False)
   | none=>match gn c.P c.G c.K (c.mt o) ops s.nx s.sig o with
    | some q=>if fX q s.tm.length=true/\BD q s=true then all q.need (Vw c ops os (cH q s) Q)else False
    | none=>False
  | none=>False
def ND(tbl:List Nat)(q:Nat)(rs:List Rec): Bool:=(List.range rs.length).all λj=>j==q||(tbl.getD j 0).testBit q||((rs.getD j dflt).upd.isEmpty&&(rs.getD j dflt).new.isNone)
def BK(tbl:List Nat)(q:Nat)(rs:List Rec): List Prop:=(List.range rs.length).flatMap λj=>if(j==q||(tbl.getD j 0).testBit q)=true then[]else(rs.getD j dflt).need
def Xu(ops:Array Oper)(s:St): St:={s with tm:=nQ (ops.toList.filterMap (·.dst)) s.tm}
def Zc(c:Cfg)(ops:Array Oper)(s:St)(Q:Exit->St->Prop): Prop:=match Vz c ops ops.toList s,ops[ops.toList.findIdx (v7 c)]? with
 | some rs,some o=>if tc true (iR [] ops.toList) s rs=true/\mX (iR [] ops.toList) ops.toList rs=true/\ND (iR [] ops.toList) (ops.toList.findIdx (v7 c)) rs=true/\o.guard.isNone=true then
   match uL c (fF rs s (ops.toList.findIdx (v7 c))).sig.T s.sig.m true o.op with
   | some (ns,r,nms)=>all (BK (iR [] ops.toList) (ops.toList.findIdx (v7 c)) rs) (all ns (r.pre/\(r.ok=true->all (rs.flatMap (·.need)) (Q .normal (fF rs s rs.length)))/\(r.ok=false->Q (.panic (chainOf r.pan)) (Xu ops (zl nms s)))))
   | none=>False
  else False
 | _,_=>False
def aCT(c:Cfg)(ops:Array Oper)(draw:Bool)(s:St)(Q:Exit->St->Prop): Prop:=
 if ops.toList.any (v7 c)=true then(if draw=true then Zc c ops s Q else Vw c ops ops.toList s Q)else ZT c ops draw s (Q .normal)
def sH(p:Tmp)(t:Ty)(y:t.den)(s:St): St:={s with tm:=s.tm.set p (.dat t y),sv:=s.tm}
def aCZ: Ty->Bool
 | .pair _ _=>true
 | _=>false
def qq(t:Ty)(x:t.den): AV:=if aCZ t then .agg (cellsOf t x)else .dat t x
def EL: (t:Ty)->t.den->List AV
 | .pair a b,x=>[qq a x.1,qq b x.2]
 | t,x=>[.dat t x]
def CV: List Tmp->List AV->List AV->List AV
 | p::ps,v::vs,tm=>CV ps vs (tm.set p v)
 | _,_,tm=>tm
def Ho(ps:List Tmp)(t:Ty)(y:t.den)(s:St): St:={s with tm:=CV ps (EL t y) s.tm,sv:=s.tm++s.sv}
def r6(s:St): St:={s with tm:=s.sv.take s.tm.length,sv:=s.sv.drop s.tm.length}
def xg(s:St): St:={s with tm:=s.sv,sv:=[]}
def one1(t:Ty): Bool:=!aCZ t&&decide (t.sz=1)
def TA(t:Ty)(n:Nat): Bool:=match t with
 | .pair _ _=>n==2
 | t=>n==1&&decide (t.sz=1)
def uN: Nat:=1000000
def zc: Ty->Bool
 | .int _=>true
 | .bool=>true
 | _=>false
def Ua(m:Mem): AV->AV
 | .ptr nm 1 0 0=>match m.lookup nm with
  | some (.var cs)=>.ips (rE cs)
  | _=>.top
 | .ipv a=>.ipv (Ua m a)
 | a=>jH a
def FB(m:Mem)(l:List AV): List AV:=l.map (Ua m)
def HK(G:List (Nat×AV))(g:Operand)(gf:FuncId)(s:St): Option (List AV):=match evT G s.sig.T g with
 | .fn gf' caps=>if gf'=gf then some (FB s.mem caps)else none
 | _=>none
def aEF(c:Cfg)(m:Mem)(gf:FuncId)(caps:List AV): Option jr:=if(AV.namesL caps).isEmpty=true then c.KI gf caps else c.KI (gf+uN) (FB m caps)
def N6(G:List (Nat×AV))(g:Operand)(gf:FuncId)(caps:List AV)(m:Mem){α:Type}(inv:α->Prop)(st:α->St)(t:Ty)(X:Prop): Prop:=
 if(AV.namesL caps).isEmpty=true then X else zc t=true/\(∀x,inv x->HK G g gf (st x)=some (FB m caps))/\X
def Up(P:Program)(f:FuncId): Bool:=goes P f&&decide (f<uN)
def aEK{α:Type}(R:α->Prop): List α->Prop
 | []=>True
 | x::l=>R x/\aEK R l
def aFx{α:Type}(inv R:α->Prop): List α->Prop
 | []=>∀x,inv x->R x
 | x::l=>(∀y,inv y->y∈x::l)/\aEK (λy=>inv y->R y) (x::l)
theorem OM{α:Type}{R:α->Prop}: ∀{l:List α},aEK R l->∀x∈l,R x
 | y::l,h,x,hx=>by
  rcases zJ.1 hx with rfl | g
  .exact h.1
  .exact OM h.2 x g
theorem Vd{α:Type}{inv R:α->Prop}{l:List α}(h:aFx inv R l): ∀x,inv x->R x:=by
 cases l with
 | nil=>exact h
 | cons y l=>exact λx hx=>OM h.2 x (h.1 x hx) hx
def ev(c:Cfg)(A:Ann): Code->St->(Exit->St->Prop)->Prop
 | .skip,s,Q=>Q .normal s
 | .region id ops draw,s,Q=>match A.pre id s with
  | none=>aCT c ops draw s Q
  | some s1=>match Qc s s1 with
   | some ms=>all ms (aCT c ops draw s1 Q)
   | none=>False
 | .seq a b,s,Q=>match dX b with
  | some id=>match A.cut id s with
   | some sp=>ev c A a s (λe s'=>match e with | .normal=>∃y,sp.inv y/\leP s' (sp.st y) | e=>Q e s')/\∀x,sp.inv x->ev c A b (sp.st x) Q
   | none=>ev c A a s (λe s'=>match e with | .normal=>ev c A b s' Q | e=>Q e s')
  | none=>ev c A a s (λe s'=>match e with | .normal=>ev c A b s' Q | e=>Q e s')
 | .cond t a b,s,Q=>match UI (evT c.G s.sig.T t)with
  | some (ns,x)=>all ns (UJ x (ev c A a s Q) (ev c A b s Q))
  | none=>False
 | .block id b,s,Q=>ev c A b s (λe s'=>match e with | .exit id'=>if id'=id then Q .normal s' else Q (.exit id') s' | e=>Q e s')
 | .exit id,s,Q=>Q (.exit id) s
 | .scope b,s,Q=>ev c A b s (λe s'=>match e with | .goto _=>False | e=>Q e s')
 | .label _,s,Q=>Q .normal s
 | .ret,s,Q=>Q .ret s
 | .loop b,s,Q=>match dX b with
  | some id=>match aBL A id b s with
   | some sp=>(∃x,sp.inv x/\leP s (sp.st x))/\aFx sp.inv (λx=>ev c A b (sp.st x) (λe s'=>match e with | .normal=>∃y,sp.inv y/\leP s' (sp.st y)/\sp.μ y<sp.μ x | e=>Q e s')) sp.fin
   | none=>False
  | none=>False
 | .rangeFunc g ps as b,s,Q=>match evT c.G s.sig.T g,dX (.seq as b)with
  | .fn gf caps,some id=>match aEF c s.mem gf caps,A.loop id s with
   | some it,some sp=>if Up c.P gf&&decide (s.sv.length<s.tm.length)&&c.rng&&TA it.t ps.toList.length&&ps.toList.all (λp=>decide (p<s.tm.length))then
     N6 c.G g gf caps s.mem sp.inv sp.st it.t (it.pre/\(∃x,sp.inv x/\sp.μ x=0/\leP s (sp.st x))/\
     (∀x y,sp.inv x->lu it.L (sp.μ x) y->ev c A as (Ho ps.toList it.t y (sp.st x)) (λe s1=>match e with
      | .normal=>ev c A b s1 (λe s2=>match e with
       | .normal=>∃z,sp.inv z/\sp.μ z=sp.μ x+1/\leP (r6 s2) (sp.st z)
       | .ret=>Q .ret (r6 s2)
       | .exit i=>Q (.exit i) (r6 s2)
       | .panic ch=>Q (.panic ch) (r6 s2)
       | _=>False)
      | _=>False))/\
     (∀x,sp.inv x->sp.μ x=it.L.length->Q .normal (sp.st x)))
    else False
   | _,_=>False
  | _,_=>False
 | _,_,_=>False
theorem mD{s s':St}{ns:List Prop}(h:Qc s s'=some ns): s.tm.length=s'.tm.length:=by
 unfold Qc at h;split at h
 .rename_i hx;exact hx.1
 .cases h
theorem tL{s s':St}(h:leP s s'): s.tm.length=s'.tm.length:=by
 unfold leP at h;split at h
 .rename_i ns h';exact mD h'
 .exact h.elim
theorem yy{S:Base}{s s':St}{a:Act}{w:World}(hl:leP s s')(h:Sim S s.sig a w): Sim S s'.sig a w:=by
 unfold leP at hl;split at hl
 .rename_i ns h';exact Ha h h' (bL hl).1
 .exact hl.elim
abbrev noV: Nat->Prop:=λ_=>False
def mR(P:Program)(G:List (Nat×AV))(gf:FuncId)(caps:List AV)(it:jr): Prop:=
 it.pre->∀(l:Nat) (J:Nat->World->(Nat->Prop)->(Nat->Prop)->Prop) (JX:World->(Nat->Prop)->(Nat->Prop)->Prop) (JP:List PanicEntry->World->(Nat->Prop)->(Nat->Prop)->Prop) (w:World) (D:Nat->Prop) (us:Lv),
  (∀b,D b->b<w.heap.size)->jX P ⟨w,D,noM,noE⟩ G->AV.relL P ⟨w,D,noM,noE⟩ caps us->
  (∀k w1 w2 D1 V,J k w1 D1 V->Below w1.heap.size w1 w2->∀X:Nat->Prop,J k w2 (λb=>D1 b\/(gk w1 w2 b/\¬X b)) (λb=>V b\/(gk w1 w2 b/\X b)))->
  (∀k w1 (D1 D2 V V2:Nat->Prop),J k w1 D1 V->(∀b,D2 b->D1 b)->(∀b,V2 b->V b)->J k w1 D2 V2)->
  (∀k w1 w2 D1 V,J k w1 D1 V->Chg V w1 w2->w2.heap.size=w1.heap.size->J k w2 D1 V)->
  (∀w1 w2 D1 V,JX w1 D1 V->Below w1.heap.size w1 w2->∀X:Nat->Prop,JX w2 (λb=>D1 b\/(gk w1 w2 b/\¬X b)) (λb=>V b\/(gk w1 w2 b/\X b)))->
  (∀w1 (D1 D2 V V2:Nat->Prop),JX w1 D1 V->(∀b,D2 b->D1 b)->(∀b,V2 b->V b)->JX w1 D2 V2)->
  (∀w1 w2 D1 V,JX w1 D1 V->Chg V w1 w2->w2.heap.size=w1.heap.size->JX w2 D1 V)->
  (∀ch w1 w2 D1 V,JP ch w1 D1 V->Chg V w1 w2->w2.heap.size=w1.heap.size->JP ch w2 D1 V)->
  (∀k y W D1 V vs,it.L[k]?=some y->J k W D1 V->(∀b,D1 b->b<W.heap.size)->AV.relL P ⟨W,D1,noM,noE⟩ (EL it.t y) vs->YieldAt Fence.wide 0 P l vs.toArray W λe W' =>
   W.heap.size<=W'.heap.size/\(∀b,D1 b\/V b->W'.heap[b]?=W.heap[b]?)/\((e=.returned (.bool true)/\J (k+1) W' D1 V)\/(e=.returned (.bool false)/\JX W' D1 V)\/∃ch,e=.panicked ch/\JP ch W' D1 V))->
  J 0 w D noV->
  CallsIn Fence.wide 0 P gf (#[.func (.yield l) #[] #[]]++us.toArray) w λe W'=>((∃v,e=.returned v)/\((∃D2,J it.L.length W' D2 noV)\/∃D2,JX W' D2 noV))\/∃ch,e=.panicked ch/\∃D2 V2,JP ch W' D2 V2
def GK(P:Program)(G:List (Nat×AV))(gf:FuncId)(caps:List AV)(it:jr): Prop:=
 it.pre->∀(l:Nat) (J:Nat->World->Prop) (JX:World->Prop) (JP:List PanicEntry->World->Prop) (w:World) (us:Lv),
  (∀k w1,J k w1->∃D:Nat->Prop,(∀b,D b->b<w1.heap.size)/\jX P ⟨w1,D,noM,noE⟩ G/\AV.relL P ⟨w1,D,noM,noE⟩ caps us)->
  (∀w1,JX w1->∃D:Nat->Prop,(∀b,D b->b<w1.heap.size)/\jX P ⟨w1,D,noM,noE⟩ G)->
  (∀k w1 w2,J k w1->Below w1.heap.size w1 w2->J k w2)->
  (∀w1 w2,JX w1->Below w1.heap.size w1 w2->JX w2)->
  (∀k y W u,it.L[k]?=some y->J k W->ah W noV it.t y [u]->YieldAt Fence.wide 0 P l #[u] W λe W' =>
   W.heap.size<=W'.heap.size/\((e=.returned (.bool true)/\J (k+1) W')\/(e=.returned (.bool false)/\JX W')\/∃ch,e=.panicked ch/\JP ch W'))->
  J 0 w->
  CallsIn Fence.wide 0 P gf (#[.func (.yield l) #[] #[]]++us.toArray) w λe W'=>((∃v,e=.returned v)/\(J it.L.length W'\/JX W'))\/∃ch,e=.panicked ch/\JP ch W'
def bv(P:Program)(G:List (Nat×AV))(KI:FuncId->List AV->Option jr): Prop:=∀gf caps it,KI gf caps=some it->if gf<uN then mR P G gf caps it else GK P G (gf-uN) caps it
theorem bv.at {P:Program} {G:List (Nat×AV)} {KI:FuncId->List AV->Option jr} (h:bv P G KI) {gf:FuncId} {caps:List AV} {it:jr} (hg:gf<uN) (hk:KI gf caps=some it):mR P G gf caps it:=by
 have:=h gf caps it hk
 rwa [if_pos hg]at this
theorem YU{q:Nat->Prop}{p:Prop}{g N:Nat}(h:if g+N<N then p else q (g+N-N)): q g:=by
 rw[if_neg (by omega),Nat.add_sub_cancel]at h;exact h
theorem bv.lent {P:Program} {G:List (Nat×AV)} {KI:FuncId->List AV->Option jr} (h:bv P G KI) {gf:FuncId} {caps:List AV} {it:jr} (hk:KI (gf+uN) caps=some it):GK P G gf caps it:=by
 unfold bv at h;generalize uN=N at h hk;exact YU (q:=λg=>GK P G g caps it) (h _ caps it hk)
section
variable {S:Base} {c:Cfg}
theorem Sim.draw {σ:Sig} {a:Act} {w:World} (h:Sim S σ a w):Sim S σ a {w with drawn:=w.drawn+1}:=by
 obtain⟨D,E,h⟩:=h;exact⟨D,E,h.world (D':=D) (by constructor<;>first | rfl | exact qJ _ | exact λ_ _=>rfl | exact Nat.le_succ _) (λb=>⟨.inl,λg=>g.elim id (·.2)⟩) h.dlt⟩
theorem Nx{ops:Array Oper}{draw:Bool}{s s':St}{ns:List Prop}(h:aBE c ops draw s=some (ns,s')): s'.tm.length=s.tm.length:=by
 unfold aBE at h;split at h
 .rename_i rs _;dsimp only at h;generalize (if draw=true then iR [] ops.toList else[])=tbl at h;by_cases hk:tc draw tbl s rs=true/\(draw=true->mX tbl ops.toList rs=true)
  .rw[if_pos hk]at h;cases h;exact jT _ _ _
  .rw[if_neg hk]at h;cases h
 .cases h
theorem VE(hP:c.P=S.P)(hG:c.G=S.G)(hK:ak S.P S.G c.K)(hm:S.P.follows .mixedOrders=true){id:Nat}{ops:Array Oper}{draw:Bool}{s s':St}{ns:List Prop}(h:aBE c ops draw s=some (ns,s'))(hn:∀q∈ns,q)
  (hl:s.tm.length=S.N) {a:Act} {w:World} (hs:Sim S s.sig a w) {Q:Exit->Act->World->Prop} (hQ:∀a' w',Sim S s'.sig a' w'->Q .normal a' w'):(Code.region id ops draw).wpIn S.F 0 S.P Q a w:=by
 unfold aBE at h;split at h
 case h_2=>cases h
 rename_i rs hrs;dsimp only at h;generalize (if draw=true then iR [] ops.toList else[])=tbl at h;by_cases hok:tc draw tbl s rs=true/\(draw=true->mX tbl ops.toList rs=true)
 case neg=>rw[if_neg hok]at h;cases h
 rw[if_pos hok]at h;cases h;obtain⟨P,G,K,mb,KI,rng,KP,pf⟩:=c;simp only at hP hG hK;subst hP hG;obtain⟨hlen,hat⟩:=sB hrs;have H:C6 S K mb ops s rs:=⟨by simpa using hlen,λj o r ho hr=>hat j o r (by simpa using ho) hr,hl,λj r hr q hq=>hn q (yJ.2 ⟨r,zD hr,hq⟩)⟩;cases draw with
 | false=>exact Be hK H hok.1 hs hQ
 | true=>exact sV hK hm H hok.1 (hok.2 rfl) hs.draw hQ
theorem aH.putL {σ:Sig} {a:Act} {w:World} {D:Nat->Prop} {E:Nat->Ent} (h:aH S σ a w D E) {l:Nat} (o:Obj) (hl:S.w0.heap.size<=l) (hD:¬D l) (hE:¬aG σ.m E l):aH S σ a (w.putObj l o) D E:=by
 have same:∀k,k≠l->(w.putObj l o).heap[k]?=w.heap[k]?:=λk hk=>World.putObj_heap_other hk
 exact h.go (m':=σ.m) ⟨λ_ g=>g,λb hb=>same b λe=>hD (e▸hb)⟩ (λk=>.inl λb' hb'=>⟨b',hb',rfl,qJ _,λ_=>rfl⟩)
  (λnm b hm=>.inl ⟨hm,rfl,λhi=>same _ λe=>hE (.inl ⟨nm,b,hm,hi,e.symm⟩),λi k hr=>same k λe=>hE (.inr ⟨nm,i,aI.2 ⟨b,hm,e▸hr⟩⟩)⟩) (λnm b hm hi=>by simpa using h.own nm b hm hi) h.inj
  (h.low.step rfl rfl rfl (by simp) λk hk _=>same k (by omega)) (λb hb=>by simpa using h.dlt b hb) (λb hb=>.inl hb)
  (h.pv.step (λ_ _ _ g=>g) (by simp) (λ_ g=>.inl g) λnm b hm hi=>.inr ⟨nm,b,hm,hi,rfl⟩)
theorem aH.lay {σ:Sig} {a:Act} {w w':World} {D:Nat->Prop} {E:Nat->Ent} (h:aH S σ a w D E) {V:Nat->Prop} (hc:Chg V w w') (hs:w'.heap.size=w.heap.size) (hV:∀b,V b->S.w0.heap.size<=b/\¬D b/\¬aG σ.m E b):aH S σ a w' D E:=by
 have lt:∀nm b,σ.m nm=some b->(E nm).isNil=false->(E nm).b<w.heap.size:=λnm b hm hi=>(h.own nm b hm hi).2.1
 exact h.go (m':=σ.m) ⟨λ_ g=>g,λb hb=>hc.block b (h.dlt b hb) λg=>(hV b g).2.1 hb⟩ (λk=>.inl λb' hb'=>⟨b',hb',rfl,qJ _,λ_=>rfl⟩)
  (λnm b hm=>.inl ⟨hm,rfl,λhi=>hc.block _ (lt nm b hm hi) λg=>(hV _ g).2.2 (.inl ⟨nm,b,hm,hi,rfl⟩),λi k hr=>hc.block k (h.pv.lt hm hr) λg=>(hV _ g).2.2 (.inr ⟨nm,i,aI.2 ⟨b,hm,hr⟩⟩)⟩)
  (λnm b hm hi=>by rw[hs];exact h.own nm b hm hi) h.inj
  (h.low.step hc.os hc.tape hc.output hc.size λk hk _=>hc.block k (qN hk h.low.size) λg=>by have:=(hV k g).1;omega) (λb hb=>by rw[hs];exact h.dlt b hb) (λb hb=>.inl hb)
  (h.pv.step (λ_ _ _ g=>g) (zV hs.symm) (λ_ g=>.inl g) λnm b hm hi=>.inr ⟨nm,b,hm,hi,rfl⟩)
theorem aH.enter {σ:Sig} {a:Act} {w:World} {D:Nat->Prop} {E:Nat->Ent} (h:aH S σ a w D E) (l:Nat) {tm:Nat->AV} {tmps:Array Value} (hsz:tmps.size=S.N)
  (htm:∀t,(tm t).rel S.P ⟨w,D,σ.m,E⟩ (tmps.getD t undef)) {sv:List AV} {vs:Lv} (hs:AV.relL S.P ⟨w,D,σ.m,E⟩ sv vs):
  aH {P:=S.P,w0:=w,D0:=D,N:=S.N,O:=aG σ.m E,G:=S.G,sv:=vs,rd:=some l,nod:=true} ⟨tm,σ.m,sv⟩ {tmps:=tmps,defers:=[]} w D E:=
 ⟨hsz,⟨⟨λ_=>rfl,⟨[],rfl⟩,yL⟩,λd hd=>by cases hd⟩,htm,h.bl,λnm b hm hi=>⟨.inr (.inl ⟨nm,b,hm,hi,rfl⟩),(h.own nm b hm hi).2⟩,h.inj,Chg.refl _ _,h.dlt,λ_ g=>g,λ_ g=>.inl g,h.gl,hs,
  ⟨λnm i b g=>⟨.inr (.inr ⟨nm,i,g⟩),(h.pv.own nm i b g).2⟩,h.pv.ent,h.pv.inj⟩⟩
theorem aH.again {σ:Sig} {a:Act} {w:World} {D:Nat->Prop} {E:Nat->Ent} (h:aH S σ a w D E) {l:Nat} (o:Obj) (hgd:S.gd=[]) (hnd:a.defers=[]) (hD:¬D l) (hE:¬aG σ.m E l):
  aH {S with w0:=w.putObj l o,D0:=D,O:=aG σ.m E} σ a (w.putObj l o) D E:=by
 have same:∀k,k≠l->(w.putObj l o).heap[k]?=w.heap[k]?:=λk hk=>World.putObj_heap_other hk
 have L:Later ⟨w,D,σ.m,E⟩ ⟨w.putObj l o,D,σ.m,E⟩:=⟨λ_ g=>g,λb hb=>same b λe=>hD (e▸hb)⟩;have nm:∀k,nb ⟨w,D,σ.m,E⟩ ⟨w.putObj l o,D,σ.m,E⟩ k:=λk b' hb'=>⟨b',hb',rfl,qJ _,λ_=>rfl⟩
 refine⟨h.sz,⟨⟨λ_=>hnd.trans hgd.symm,⟨[],hnd.trans hgd.symm⟩,by rw[hnd];exact yL⟩,λd hd=>by rw[hnd]at hd;cases hd⟩,λt=>AV.rel_mono L (λk _=>nm k) (h.tm t),λk b hm=>?_,λk b hm hi=>⟨.inr (.inl ⟨k,b,hm,hi,rfl⟩),by simpa using(h.own k b hm hi).2⟩,h.inj,Chg.refl _ _,
  λb hb=>by simpa using h.dlt b hb,λ_ g=>g,λ_ g=>.inl g,h.gl.mono L,AV.relL_mono L (λk _=>nm k) h.svr,
  ⟨λnm i b g=>⟨.inr (.inr ⟨nm,i,g⟩),by simpa using(h.pv.own nm i b g).2⟩,h.pv.ent,h.pv.inj⟩⟩
 exact dE.mono L (λk _=>nm k) (λhi=>same _ λe=>hE (.inl ⟨k,b,hm,hi,e.symm⟩)) (λi r hr=>same r λe=>hE (.inr ⟨k,i,aI.2 ⟨b,hm,e▸hr⟩⟩)) (h.bl k b hm)
theorem aH.leave {Sr:Base} {σ:Sig} {a a0:Act} {w:World} {D:Nat->Prop} {E:Nat->Ent} (h:aH Sr σ a w D E) (hP:Sr.P=S.P) (hG:Sr.G=S.G) (hv:Sr.sv=a0.tmps.toList) (hsz:a0.tmps.size=S.N)
  (hO:∀b,Sr.w0.heap.size<=b\/Sr.O b->S.w0.heap.size<=b\/S.O b) (hlow:Chg S.O S.w0 w) (hd0:∀b,S.D0 b->D b) (hdh:∀b,D b->S.D0 b\/S.w0.heap.size<=b\/S.O b) (hdf:Marks S.nod S.w0.heap.size D w S.gd a0.defers)
  (hsv:S.sv=[]):aH S ⟨λt=>σ.sv.getD t .top,σ.m,[]⟩ a0 w D E:=by
 refine⟨hsz,hdf,λt=>?_,λnm b hm=>hP▸h.bl nm b hm,λnm b hm hi=>⟨hO _ (h.own nm b hm hi).1,(h.own nm b hm hi).2⟩,h.inj,hlow,h.dlt,hd0,hdh,?_,?_,⟨λnm i b g=>⟨hO _ (h.pv.own nm i b g).1,(h.pv.own nm i b g).2⟩,h.pv.ent,h.pv.inj⟩⟩
 .have hl:=h.svr;rw[hv,hP]at hl;show(σ.sv.getD t .top).rel S.P ⟨w,D,σ.m,E⟩ _;rw[qA];cases hx:σ.sv[t]? with
  | none=>trivial
  | some x=>
   obtain⟨u,g1,g2⟩:=AV.relL_get hl hx;have:a0.tmps.getD t undef=u:=by
    rw[qK];simp only[zX]at g1;rw[g1];rfl
   rw[this];exact g2
 .have:=h.gl;rw[hP,hG]at this;exact this
 .rw[hsv];rfl
theorem aH.leaveN {Sr:Base} {σ:Sig} {a a0:Act} {w:World} {D:Nat->Prop} {E:Nat->Ent} (h:aH Sr σ a w D E) (hP:Sr.P=S.P) (hG:Sr.G=S.G) (hv:Sr.sv=a0.tmps.toList++S.sv) (hsz:a0.tmps.size=S.N)
  (hO:∀b,Sr.w0.heap.size<=b\/Sr.O b->S.w0.heap.size<=b\/S.O b) (hlow:Chg S.O S.w0 w) (hd0:∀b,S.D0 b->D b) (hdh:∀b,D b->S.D0 b\/S.w0.heap.size<=b\/S.O b) (hdf:Marks S.nod S.w0.heap.size D w S.gd a0.defers):
  aH S ⟨λt=>(σ.sv.take S.N).getD t .top,σ.m,σ.sv.drop S.N⟩ a0 w D E:=by
 have hl:=h.svr;rw[hv,hP]at hl;have hlen:a0.tmps.toList.length=S.N:=by rw[vI];exact hsz
 have h1:=AV.relL_take hl S.N;have h2:=AV.relL_drop hl S.N;have e1:(a0.tmps.toList++S.sv).take S.N=a0.tmps.toList:=by rw[<- hlen];exact List.take_left
 have e2:(a0.tmps.toList++S.sv).drop S.N=S.sv:=by rw[<- hlen];exact qBr
 rw[e1]at h1;rw[e2]at h2;refine⟨hsz,hdf,λt=>?_,λnm b hm=>hP▸h.bl nm b hm,λnm b hm hi=>⟨hO _ (h.own nm b hm hi).1,(h.own nm b hm hi).2⟩,h.inj,hlow,h.dlt,hd0,hdh,?_,h2,⟨λnm i b g=>⟨hO _ (h.pv.own nm i b g).1,(h.pv.own nm i b g).2⟩,h.pv.ent,h.pv.inj⟩⟩
 .show((σ.sv.take S.N).getD t .top).rel S.P ⟨w,D,σ.m,E⟩ _;rw[qA];cases hx:(σ.sv.take S.N)[t]? with
  | none=>trivial
  | some x=>
   obtain⟨u,g1,g2⟩:=AV.relL_get h1 hx;have:a0.tmps.getD t undef=u:=by
    rw[qK];simp only[zX]at g1;rw[g1];rfl
   rw[this];exact g2
 .have:=h.gl;rw[hP,hG]at this;exact this
end
end Go.Eng
